/- What the Go functions of this law compute, and that they do: written by this session's own program (wip/myprint), for all inputs that the print's conditions name. -/
import Derived.Test.YtbfoflhfmhfofaaMFindAllx0
import Derived.Test.YtbfoflhfmhfofaaMFindAllx1
import Derived.Test.YtbfoflhfmhfofaaMFindAllx3
namespace Go.Proofs.Ytbfoflhfmhfofaa.MFindAll
open Go.Proofs.Ytbfoflhfmhfofaa.Few (pk bset ba bn bd)
open Go.Proofs.Ytbfoflhfmhfofaa.Ext (S28 z28 k28 k28_open k28_openM k28_mk k28_mkM rd_T28 at_T28)
open Go.RowKit Go.Proofs.Ytbfoflhfmhfofaa.Out Go.Proofs.YtbfoflhfmhfofaaW.PrintWords Go.Proofs.YtbfoflhfmhfofaaW.PrintLast Go.Proofs.YtbfoflhfmhfofaaW.PrintMore
attribute [local go_sem] max2_int min2_int max_two min_two max_three min_three max_four min_four   -- for this text's walks alone
set_option linter.unusedVariables false
set_option linter.unusedSimpArgs false

attribute [local go_sem high] eqA28
/-! ### foolscaphelp_Places: function 19 -/
def foolscaphelp_Places.l0 : Nat → List (S28) → List (S28) → Int → Option (Bool)
 | 0, _, _, _ => none
 | k + 1, x0, x1, x5 => if x5 < (x0.length : Int) then (if 0 ≤ x5 then (if x5 < (x1.length : Int) then (if (!(((rd_T28 x0 x5).f0) == ((rd_T28 x1 x5).f0)) || (!(((rd_T28 x0 x5).f1) == ((rd_T28 x1 x5).f1)))) = true then (some false) else (foolscaphelp_Places.l0 k x0 x1 (wrap64 (x5 + 1)))) else (none)) else (none)) else (some true)
def foolscaphelp_Places.f (k : Nat) (l0 : List (S28)) (l1 : List (S28)) : Option (Bool) := if (l0.length : Int) = (l1.length : Int) then (foolscaphelp_Places.l0 k l0 l1 0) else (some false)
theorem foolscaphelp_Places.mono_l : ∀ k, (∀ y0 y1 y2, LeO (foolscaphelp_Places.l0 k y0 y1 y2) (foolscaphelp_Places.l0 (k + 1) y0 y1 y2))
 | 0 => fun _ _ _ r h => by simp [foolscaphelp_Places.l0] at h
 | k + 1 => by
  have ih0 := foolscaphelp_Places.mono_l k
  ·intro y0 y1 y2
   unfold foolscaphelp_Places.l0
   repeat' first
   | (with_reducible exact ih0 _ _ _)
   | (with_reducible exact LeO.refl _)
   | (with_reducible exact LeO.none _)
   | (with_reducible refine LeO.ite ?_ ?_)
   | (with_reducible refine LeO.bind ?_ (fun _ => ?_))
   | exact ih0 _ _ _
   | exact LeO.none _
   | refine LeO.ite ?_ ?_
   | refine LeO.bind ?_ (fun _ => ?_)
theorem foolscaphelp_Places.mono : ∀ a0 a1 k, LeO (foolscaphelp_Places.f k a0 a1) (foolscaphelp_Places.f (k + 1) a0 a1) := by
 intro a0 a1 k
 have ih0 := foolscaphelp_Places.mono_l k
 unfold foolscaphelp_Places.f
 repeat' first
   | (with_reducible exact ih0 _ _ _)
   | (with_reducible exact LeO.refl _)
   | (with_reducible exact LeO.none _)
   | (with_reducible refine LeO.ite ?_ ?_)
   | (with_reducible refine LeO.bind ?_ (fun _ => ?_))
   | exact ih0 _ _ _
   | exact LeO.none _
   | refine LeO.ite ?_ ?_
   | refine LeO.bind ?_ (fun _ => ?_)
set_option maxHeartbeats 8000000 in
set_option maxRecDepth 100000 in
theorem foolscaphelp_Places.calls (k : Nat) (A0 : Option Addr) (c0 : Nat) (l0 : List (S28)) (A1 : Option Addr) (c1 : Nat) (l1 : List (S28)) (r : Bool) (w : World) (hr0 : Kd.C k28 w A0 l0.length l0) (hc0 : l0.length ≤ c0) (hr1 : Kd.C k28 w A1 l1.length l1) (hc1 : l1.length ≤ c1) (h : foolscaphelp_Places.f k l0 l1 = some r) :
  Calls Try.prog 19 #[.slice A0 l0.length c0, .slice A1 l1.length c1] w fun e w' => e = .returned (.bool r) ∧ Drawn0 w w' := by
 have hu28 := Try.underlying28
 have HR0 := Aside0.mk hr0
 have HC0 := Aside0.mk hc0
 clear hr0 hc0
 have HR1 := Aside0.mk hr1
 have HC1 := Aside0.mk hc1
 clear hr1 hc1
 have H : (if (l0.length : Int) = (l1.length : Int) then (foolscaphelp_Places.l0 k l0 l1 0) else (some false)) = some r := h
 clear h
 by_cases c3 : (l0.length : Int) = (l1.length : Int)
 ·rw [if_pos c3] at H
  have c3b0 : ((l0.length : Int) == (l1.length : Int)) = true := beq_iff_eq.mpr c3
  have c3b1 : ((l0.length : Int) != (l1.length : Int)) = false := bne_eq_false_iff_eq.mpr c3
  have c3b2 : (l0.length == l1.length) = true := by first | simpa using c3 | (simp at c3 ⊢; omega)
  clear c3
  have H' := Aside0.mk H
  clear H
  go_enter Try.func19, Try.ntmps19
  go_wp2
  repeat (go_quiet (fail); try go_wp2)
  go_loopg [5] k (fun kq v5 w' => ∃ (x5_1 : Int), v5 = .int .i64 x5_1 ∧ Aside0 (foolscaphelp_Places.l0 kq l0 l1 x5_1 = some r) ∧ Aside0 (kq ≤ k) ∧ Drawn0 w w')
  case atStart => exact ⟨(0), (by first | rfl | (simp; done) | (simp [*]; done)), H', ⟨Nat.le_refl _⟩, by repeat (first | exact Drawn0.refl _ | apply Drawn0.step)⟩
  case round =>
   clear H'
   try clear c1
   try clear p2
   try clear c3
   try clear c3b0
   try clear c3b1
   try clear c3b2
   obtain ⟨x5_1, rfl, HA, HK1, ⟨m1, rfl⟩⟩ := hrel
   cases gk with
   | zero => exact absurd HA.out (by simp [foolscaphelp_Places.l0])
   | succ k1 =>
    have H := HA.out
    clear HA
    simp only [foolscaphelp_Places.l0] at H
    by_cases c4 : x5_1 < (l0.length : Int)
    ·rw [if_pos c4] at H
     have c4b0 : decide (x5_1 < (l0.length : Int)) = true := decide_eq_true c4
     clear c4
     by_cases c5 : 0 ≤ x5_1
     ·rw [if_pos c5] at H
      have c5b0 : decide (0 ≤ x5_1) = true := decide_eq_true c5
      clear c5
      by_cases c6 : x5_1 < (l1.length : Int)
      ·rw [if_pos c6] at H
       have c6b0 : decide (x5_1 < (l1.length : Int)) = true := decide_eq_true c6
       clear c6
       by_cases c7 : (!(((rd_T28 l0 x5_1).f0) == ((rd_T28 l1 x5_1).f0)) || (!(((rd_T28 l0 x5_1).f1) == ((rd_T28 l1 x5_1).f1)))) = true
       ·rw [if_pos c7] at H
        have c7b0 : (!(((rd_T28 l0 x5_1).f0) == ((rd_T28 l1 x5_1).f0)) || (!(((rd_T28 l0 x5_1).f1) == ((rd_T28 l1 x5_1).f1)))) = true := c7
        clear c7
        obtain rfl := Option.some.inj H
        have p144 : 0 ≤ (x5_1 : Int) := of_decide_eq_true (by first | (with_reducible assumption) | assumption)
        have q144 : x5_1 < (l0.length : Int) := of_decide_eq_true (by first | (with_reducible assumption) | assumption)
        obtain ⟨ad144, e144, hx144_0, hx144_1⟩ := at_T28 HR0.out x5_1 p144 q144
        cases e144
        replace p144 := eq_true p144
        replace q144 := eq_true q144
        have p145 : 0 ≤ (x5_1 : Int) := of_decide_eq_true (by first | (with_reducible assumption) | assumption)
        have q145 : x5_1 < (l1.length : Int) := of_decide_eq_true (by first | (with_reducible assumption) | assumption)
        obtain ⟨ad145, e145, hx145_0, hx145_1⟩ := at_T28 HR1.out x5_1 p145 q145
        cases e145
        replace p145 := eq_true p145
        replace q145 := eq_true q145
        go_wp2
        repeat (go_quiet (fail); try go_wp2)
        go_ret
        exact ⟨by first | rfl | (simp; done) | (simp [*]; done), by repeat (first | exact Drawn0.refl _ | apply Drawn0.step)⟩
       ·rw [if_neg c7] at H
        have c7b0 : (!(((rd_T28 l0 x5_1).f0) == ((rd_T28 l1 x5_1).f0)) || (!(((rd_T28 l0 x5_1).f1) == ((rd_T28 l1 x5_1).f1)))) = false := by simpa using c7
        clear c7
        have H' := Aside0.mk H
        clear H
        have p144 : 0 ≤ (x5_1 : Int) := of_decide_eq_true (by first | (with_reducible assumption) | assumption)
        have q144 : x5_1 < (l0.length : Int) := of_decide_eq_true (by first | (with_reducible assumption) | assumption)
        obtain ⟨ad144, e144, hx144_0, hx144_1⟩ := at_T28 HR0.out x5_1 p144 q144
        cases e144
        replace p144 := eq_true p144
        replace q144 := eq_true q144
        have p145 : 0 ≤ (x5_1 : Int) := of_decide_eq_true (by first | (with_reducible assumption) | assumption)
        have q145 : x5_1 < (l1.length : Int) := of_decide_eq_true (by first | (with_reducible assumption) | assumption)
        obtain ⟨ad145, e145, hx145_0, hx145_1⟩ := at_T28 HR1.out x5_1 p145 q145
        cases e145
        replace p145 := eq_true p145
        replace q145 := eq_true q145
        go_wp2
        repeat (go_quiet (fail); try go_wp2)
        go_roundg k1
        case measure => have := HK1.out; omega
        case rel => exact ⟨(wrap64 (x5_1 + 1)), (by first | rfl | (simp; done) | (simp [*]; done)), H', ⟨by have := HK1.out; omega⟩, by repeat (first | exact Drawn0.refl _ | apply Drawn0.step)⟩
      ·rw [if_neg c6] at H
       exact absurd H (by simp)
     ·rw [if_neg c5] at H
      exact absurd H (by simp)
    ·rw [if_neg c4] at H
     have c4b0 : decide (x5_1 < (l0.length : Int)) = false := decide_eq_false c4
     clear c4
     obtain rfl := Option.some.inj H
     go_wp2
     repeat (go_quiet (fail); try go_wp2)
     go_ret
     exact ⟨by first | rfl | (simp; done) | (simp [*]; done), by repeat (first | exact Drawn0.refl _ | apply Drawn0.step)⟩
 ·rw [if_neg c3] at H
  have c3b0 : ((l0.length : Int) == (l1.length : Int)) = false := beq_eq_false_iff_ne.mpr c3
  have c3b1 : ((l0.length : Int) != (l1.length : Int)) = true := bne_iff_ne.mpr c3
  have c3b2 : (l0.length == l1.length) = false := by first | simpa using c3 | (simp at c3 ⊢; omega)
  obtain rfl := Option.some.inj H
  go_enter Try.func19, Try.ntmps19
  go_wp2
  repeat (go_quiet (fail); try go_wp2)
  go_ret
  exact ⟨by first | rfl | (simp; done) | (simp [*]; done), by repeat (first | exact Drawn0.refl _ | apply Drawn0.step)⟩

/-! ### foolscaplaw12_FindAll: function 5 -/
mutual
def foolscaplaw12_FindAll.j0 : Nat → List ByteArray → ByteArray → Int → Int → Int → Int → Bool → Option (Bool)
 | 0, _, _, _, _, _, _, _ => none
 | k + 1, x0, x1, x2, x3, x4, x5, x31 => if x31 = true then (some true) else ((foolscapseat_Place.f x0 x2 x3).bind fun bt148 => (if 0 ≤ bt148.1 then (if bt148.1 < (x0.length : Int) then (if 0 ≤ bt148.2 then (if bt148.2 ≤ ((rdOf ByteArray.empty x0 bt148.1).size : Int) then (if 0 ≤ (mn (wrap64 (Int.tmod x4 5)) (((rdOf ByteArray.empty x0 bt148.1).extract (bt148.2 : Int).toNat (rdOf ByteArray.empty x0 bt148.1).size).size : Int)) then (if (mn (wrap64 (Int.tmod x4 5)) (((rdOf ByteArray.empty x0 bt148.1).extract (bt148.2 : Int).toNat (rdOf ByteArray.empty x0 bt148.1).size).size : Int)) ≤ (((rdOf ByteArray.empty x0 bt148.1).extract (bt148.2 : Int).toNat (rdOf ByteArray.empty x0 bt148.1).size).size : Int) then ((some (([x1, ((rdOf ByteArray.empty x0 bt148.1).extract (bt148.2 : Int).toNat (rdOf ByteArray.empty x0 bt148.1).size).extract 0 ((mn (wrap64 (Int.tmod x4 5)) (((rdOf ByteArray.empty x0 bt148.1).extract (bt148.2 : Int).toNat (rdOf ByteArray.empty x0 bt148.1).size).size : Int)) : Int).toNat] : List ByteArray) : List ByteArray)).bind fun y152 => (foolscaplaw12_FindAll.l0 k x0 x5 y152 (y152.length : Int) 0)) else (none)) else (none)) else (none)) else (none)) else (none)) else (none)))
def foolscaplaw12_FindAll.l0 : Nat → List ByteArray → Int → List ByteArray → Int → Int → Option (Bool)
 | 0, _, _, _, _, _ => none
 | k + 1, x0, x5, x54, x55, x56 => if x56 < x55 then (if 0 ≤ x56 then (if x56 < (x54.length : Int) then ((foolscaplaw12_heard.f x0 (rdOf ByteArray.empty x54 x56) 5000).bind fun bt156 => ((foolscapref5_All.f k x0 (rdOf ByteArray.empty x54 x56)).bind fun t160 => ((foolscaplaw12_heard.f x0 (rdOf ByteArray.empty x54 x56) (wrap64 ((wrap64 (Int.tmod x5 9)) + 1))).bind fun bt163 => (if bt156.2 = true then ((foolscaphelp_Places.f k bt156.1 t160).bind fun t167 => (if t167 = true then (if 0 ≤ (mn (wrap64 ((wrap64 (Int.tmod x5 9)) + 1)) (t160.length : Int)) then (if (mn (wrap64 ((wrap64 (Int.tmod x5 9)) + 1)) (t160.length : Int)) ≤ (t160.length : Int) then ((foolscaphelp_Places.f k bt163.1 (t160.take ((mn (wrap64 ((wrap64 (Int.tmod x5 9)) + 1)) (t160.length : Int)) : Int).toNat)).bind fun t172 => (if t172 = true then (foolscaplaw12_FindAll.l0 k x0 x5 x54 x55 (wrap64 (x56 + 1))) else (some false))) else (none)) else (none)) else (some false))) else (some false))))) else (none)) else (none)) else (some true)
end
def foolscaplaw12_FindAll.f (k : Nat) (l0 : List ByteArray) (a1 : ByteArray) (a2 : Int) (a3 : Int) (a4 : Int) (a5 : Int) : Option (Bool) := (foolscaplaw12_known.f).bind fun t146 => (if t146 = true then ((foolscaphelp_Text.f k l0).bind fun t147 => (if t147 = true then (foolscaplaw12_FindAll.j0 k l0 a1 a2 a3 a4 a5 (decide ((a1.size : Int) > 60))) else (foolscaplaw12_FindAll.j0 k l0 a1 a2 a3 a4 a5 true))) else (some false))
theorem foolscaplaw12_FindAll.mono_l : ∀ k, (∀ y0 y1 y2 y3 y4 y5 y6, LeO (foolscaplaw12_FindAll.j0 k y0 y1 y2 y3 y4 y5 y6) (foolscaplaw12_FindAll.j0 (k + 1) y0 y1 y2 y3 y4 y5 y6)) ∧ (∀ y0 y1 y2 y3 y4, LeO (foolscaplaw12_FindAll.l0 k y0 y1 y2 y3 y4) (foolscaplaw12_FindAll.l0 (k + 1) y0 y1 y2 y3 y4))
 | 0 => ⟨fun _ _ _ _ _ _ _ r h => by simp [foolscaplaw12_FindAll.j0] at h, fun _ _ _ _ _ r h => by simp [foolscaplaw12_FindAll.l0] at h⟩
 | k + 1 => by
  obtain ⟨ih0, ih1⟩ := foolscaplaw12_FindAll.mono_l k
  refine ⟨?_, ?_⟩
  ·intro y0 y1 y2 y3 y4 y5 y6
   unfold foolscaplaw12_FindAll.j0
   repeat' first
   | (with_reducible exact ih0 _ _ _ _ _ _ _)
   | (with_reducible exact ih1 _ _ _ _ _)
   | (with_reducible exact foolscaphelp_Places.mono _ _ _)
   | (with_reducible exact foolscaphelp_Text.mono _ _)
   | (with_reducible exact foolscapref5_All.mono _ _ _)
   | (with_reducible exact LeO.refl _)
   | (with_reducible exact LeO.none _)
   | (with_reducible refine LeO.ite ?_ ?_)
   | (with_reducible refine LeO.bind ?_ (fun _ => ?_))
   | exact ih0 _ _ _ _ _ _ _
   | exact ih1 _ _ _ _ _
   | exact foolscaphelp_Places.mono _ _ _
   | exact foolscaphelp_Text.mono _ _
   | exact foolscapref5_All.mono _ _ _
   | exact LeO.none _
   | refine LeO.ite ?_ ?_
   | refine LeO.bind ?_ (fun _ => ?_)
  ·intro y0 y1 y2 y3 y4
   unfold foolscaplaw12_FindAll.l0
   repeat' first
   | (with_reducible exact ih0 _ _ _ _ _ _ _)
   | (with_reducible exact ih1 _ _ _ _ _)
   | (with_reducible exact foolscaphelp_Places.mono _ _ _)
   | (with_reducible exact foolscaphelp_Text.mono _ _)
   | (with_reducible exact foolscapref5_All.mono _ _ _)
   | (with_reducible exact LeO.refl _)
   | (with_reducible exact LeO.none _)
   | (with_reducible refine LeO.ite ?_ ?_)
   | (with_reducible refine LeO.bind ?_ (fun _ => ?_))
   | exact ih0 _ _ _ _ _ _ _
   | exact ih1 _ _ _ _ _
   | exact foolscaphelp_Places.mono _ _ _
   | exact foolscaphelp_Text.mono _ _
   | exact foolscapref5_All.mono _ _ _
   | exact LeO.none _
   | refine LeO.ite ?_ ?_
   | refine LeO.bind ?_ (fun _ => ?_)
theorem foolscaplaw12_FindAll.mono : ∀ a0 a1 a2 a3 a4 a5 k, LeO (foolscaplaw12_FindAll.f k a0 a1 a2 a3 a4 a5) (foolscaplaw12_FindAll.f (k + 1) a0 a1 a2 a3 a4 a5) := by
 intro a0 a1 a2 a3 a4 a5 k
 obtain ⟨ih0, ih1⟩ := foolscaplaw12_FindAll.mono_l k
 unfold foolscaplaw12_FindAll.f
 repeat' first
   | (with_reducible exact ih0 _ _ _ _ _ _ _)
   | (with_reducible exact ih1 _ _ _ _ _)
   | (with_reducible exact foolscaphelp_Places.mono _ _ _)
   | (with_reducible exact foolscaphelp_Text.mono _ _)
   | (with_reducible exact foolscapref5_All.mono _ _ _)
   | (with_reducible exact LeO.refl _)
   | (with_reducible exact LeO.none _)
   | (with_reducible refine LeO.ite ?_ ?_)
   | (with_reducible refine LeO.bind ?_ (fun _ => ?_))
   | exact ih0 _ _ _ _ _ _ _
   | exact ih1 _ _ _ _ _
   | exact foolscaphelp_Places.mono _ _ _
   | exact foolscaphelp_Text.mono _ _
   | exact foolscapref5_All.mono _ _ _
   | exact LeO.none _
   | refine LeO.ite ?_ ?_
   | refine LeO.bind ?_ (fun _ => ?_)
set_option maxHeartbeats 8000000 in
set_option maxRecDepth 100000 in
theorem foolscaplaw12_FindAll.calls (k : Nat) (A0 : Option Addr) (c0 : Nat) (l0 : List ByteArray) (a1 : ByteArray) (a2 : Int) (a3 : Int) (a4 : Int) (a5 : Int) (r : Bool) (hrt : r = true) (w : World) (hr0 : Kd.C Kd.string w A0 l0.length l0) (hc0 : l0.length ≤ c0) (h : foolscaplaw12_FindAll.f k l0 a1 a2 a3 a4 a5 = some r) :
  Calls Try.prog 5 #[.slice A0 l0.length c0, .string a1, .int .u16 a2, .int .u16 a3, .int .u8 a4, .int .u8 a5] w fun e w' => e = .returned (.bool r) ∧ Below w.heap.size w w' := by
 have hu28 := Try.underlying28
 have HRT := Aside0.mk hrt
 clear hrt
 have HR0 := Aside0.mk hr0
 have HC0 := Aside0.mk hc0
 clear hr0 hc0
 have HB := Aside0.mk (Below.refl w.heap.size w)
 have H : ((foolscaplaw12_known.f).bind fun t146 => (if t146 = true then ((foolscaphelp_Text.f k l0).bind fun t147 => (if t147 = true then (foolscaplaw12_FindAll.j0 k l0 a1 a2 a3 a4 a5 (decide ((a1.size : Int) > 60))) else (foolscaplaw12_FindAll.j0 k l0 a1 a2 a3 a4 a5 true))) else (some false))) = some r := h
 clear h
 replace H := Option.bind_eq_some_iff.mp H
 obtain ⟨t146, A70, H⟩ := H
 replace H : (if t146 = true then ((foolscaphelp_Text.f k l0).bind fun t147 => (if t147 = true then (foolscaplaw12_FindAll.j0 k l0 a1 a2 a3 a4 a5 (decide ((a1.size : Int) > 60))) else (foolscaplaw12_FindAll.j0 k l0 a1 a2 a3 a4 a5 true))) else (some false)) = some r := H
 have A7 := Aside0.mk A70
 clear A70
 by_cases c8 : t146 = true
 ·subst c8
  have H1 : ((foolscaphelp_Text.f k l0).bind fun t147 => (if t147 = true then (foolscaplaw12_FindAll.j0 k l0 a1 a2 a3 a4 a5 (decide ((a1.size : Int) > 60))) else (foolscaplaw12_FindAll.j0 k l0 a1 a2 a3 a4 a5 true))) = some r := by rw [if_pos rfl] at H; exact H
  clear H
  have H := H1
  clear H1
  have HC9 := Aside0.mk H
  clear H
  go_enter Try.func5, Try.ntmps5
  go_upto_region 3 with (first | (go_at_call 9; (with_reducible refine (foolscaplaw12_known.calls  true _ A7.out).mono ?_); rintro e w10 ⟨rfl, hb⟩; have n0_ := Aside0.mk (below_step (by repeat with_reducible first | exact HB.out | apply ba | apply bn | apply bd) hb); clear HB; have HB := n0_; clear n0_; (try clear hb); (try clear hb2); (try clear hk); (try clear hi)))
  repeat (go_quiet (first | (go_at_call 9; (with_reducible refine (foolscaplaw12_known.calls  true _ A7.out).mono ?_); rintro e w10 ⟨rfl, hb⟩; have n0_ := Aside0.mk (below_step (by repeat with_reducible first | exact HB.out | apply ba | apply bn | apply bd) hb); clear HB; have HB := n0_; clear n0_; (try clear hb); (try clear hb2); (try clear hk); (try clear hi))); go_upto_region 3 with (first | (go_at_call 9; (with_reducible refine (foolscaplaw12_known.calls  true _ A7.out).mono ?_); rintro e w10 ⟨rfl, hb⟩; have n0_ := Aside0.mk (below_step (by repeat with_reducible first | exact HB.out | apply ba | apply bn | apply bd) hb); clear HB; have HB := n0_; clear n0_; (try clear hb); (try clear hb2); (try clear hk); (try clear hi))))
  (try simp only [Act.put, List.setIfInBounds_toArray, List.set_cons_zero, List.set_cons_succ])
  go_cut [31] (fun v31 wc => ∃ (kq : Nat) (x31_8 : Bool), v31 = .bool x31_8 ∧ Aside0 (foolscaplaw12_FindAll.j0 kq l0 a1 a2 a3 a4 a5 x31_8 = some r) ∧ Aside0 (kq ≤ k) ∧ Aside0 (Below w.heap.size w wc))
  case first =>
   have H := HC9.out
   clear HC9
   replace H := Option.bind_eq_some_iff.mp H
   obtain ⟨t147, A110, H⟩ := H
   replace H : (if t147 = true then (foolscaplaw12_FindAll.j0 k l0 a1 a2 a3 a4 a5 (decide ((a1.size : Int) > 60))) else (foolscaplaw12_FindAll.j0 k l0 a1 a2 a3 a4 a5 true)) = some r := H
   have A11 := Aside0.mk A110
   clear A110
   by_cases c12 : t147 = true
   ·subst c12
    have H1 : (foolscaplaw12_FindAll.j0 k l0 a1 a2 a3 a4 a5 (decide ((a1.size : Int) > 60))) = some r := by rw [if_pos rfl] at H; exact H
    clear H
    have H := H1
    clear H1
    have H' := Aside0.mk H
    clear H
    go_wp2_with (first | (go_at_call 10; (with_reducible refine (foolscaphelp_Text.calls k _ _ l0 true _ ?side1 ?side2 A11.out).mono ?_); (case side1 => repeat (first | exact (Kd.C_below HR0.out HB.out) | (with_reducible refine Kd.C_alloc ?_ _) | (with_reducible refine Kd.C_drewN ?_ _) | (with_reducible refine Kd.C_drew ?_))); (case side2 => exact HC0.out); rintro e w' ⟨rfl, ⟨nd, rfl⟩⟩; (try first | exact ⟨rfl, _, World.drewN_drewN _ _ _⟩ | exact ⟨rfl, _, Eq.trans (World.drewN_drewN _ _ _) (congrArg (World.drewN _) (Nat.add_assoc _ _ _))⟩)))
    repeat (go_quiet (first | (go_at_call 10; (with_reducible refine (foolscaphelp_Text.calls k _ _ l0 true _ ?side1 ?side2 A11.out).mono ?_); (case side1 => repeat (first | exact (Kd.C_below HR0.out HB.out) | (with_reducible refine Kd.C_alloc ?_ _) | (with_reducible refine Kd.C_drewN ?_ _) | (with_reducible refine Kd.C_drew ?_))); (case side2 => exact HC0.out); rintro e w' ⟨rfl, ⟨nd, rfl⟩⟩; (try first | exact ⟨rfl, _, World.drewN_drewN _ _ _⟩ | exact ⟨rfl, _, Eq.trans (World.drewN_drewN _ _ _) (congrArg (World.drewN _) (Nat.add_assoc _ _ _))⟩))); try go_wp2_with (first | (go_at_call 10; (with_reducible refine (foolscaphelp_Text.calls k _ _ l0 true _ ?side1 ?side2 A11.out).mono ?_); (case side1 => repeat (first | exact (Kd.C_below HR0.out HB.out) | (with_reducible refine Kd.C_alloc ?_ _) | (with_reducible refine Kd.C_drewN ?_ _) | (with_reducible refine Kd.C_drew ?_))); (case side2 => exact HC0.out); rintro e w' ⟨rfl, ⟨nd, rfl⟩⟩; (try first | exact ⟨rfl, _, World.drewN_drewN _ _ _⟩ | exact ⟨rfl, _, Eq.trans (World.drewN_drewN _ _ _) (congrArg (World.drewN _) (Nat.add_assoc _ _ _))⟩))))
    go_meet
    case rel => exact ⟨_, (decide ((a1.size : Int) > 60)), (by first | rfl | (simp; done) | (simp [*]; done)), H', ⟨by first | omega | exact Nat.le_refl _⟩, ⟨by repeat with_reducible first | exact HB.out | apply ba | apply bn | apply bd⟩⟩
   ·replace c12 := Bool.eq_false_iff.mpr c12
    subst c12
    have H1 : (foolscaplaw12_FindAll.j0 k l0 a1 a2 a3 a4 a5 true) = some r := by rw [if_neg (show ¬ (false = true) by decide)] at H; exact H
    clear H
    have H := H1
    clear H1
    have H' := Aside0.mk H
    clear H
    go_wp2_with (first | (go_at_call 10; (with_reducible refine (foolscaphelp_Text.calls k _ _ l0 false _ ?side1 ?side2 A11.out).mono ?_); (case side1 => repeat (first | exact (Kd.C_below HR0.out HB.out) | (with_reducible refine Kd.C_alloc ?_ _) | (with_reducible refine Kd.C_drewN ?_ _) | (with_reducible refine Kd.C_drew ?_))); (case side2 => exact HC0.out); rintro e w' ⟨rfl, ⟨nd, rfl⟩⟩; (try first | exact ⟨rfl, _, World.drewN_drewN _ _ _⟩ | exact ⟨rfl, _, Eq.trans (World.drewN_drewN _ _ _) (congrArg (World.drewN _) (Nat.add_assoc _ _ _))⟩)))
    repeat (go_quiet (first | (go_at_call 10; (with_reducible refine (foolscaphelp_Text.calls k _ _ l0 false _ ?side1 ?side2 A11.out).mono ?_); (case side1 => repeat (first | exact (Kd.C_below HR0.out HB.out) | (with_reducible refine Kd.C_alloc ?_ _) | (with_reducible refine Kd.C_drewN ?_ _) | (with_reducible refine Kd.C_drew ?_))); (case side2 => exact HC0.out); rintro e w' ⟨rfl, ⟨nd, rfl⟩⟩; (try first | exact ⟨rfl, _, World.drewN_drewN _ _ _⟩ | exact ⟨rfl, _, Eq.trans (World.drewN_drewN _ _ _) (congrArg (World.drewN _) (Nat.add_assoc _ _ _))⟩))); try go_wp2_with (first | (go_at_call 10; (with_reducible refine (foolscaphelp_Text.calls k _ _ l0 false _ ?side1 ?side2 A11.out).mono ?_); (case side1 => repeat (first | exact (Kd.C_below HR0.out HB.out) | (with_reducible refine Kd.C_alloc ?_ _) | (with_reducible refine Kd.C_drewN ?_ _) | (with_reducible refine Kd.C_drew ?_))); (case side2 => exact HC0.out); rintro e w' ⟨rfl, ⟨nd, rfl⟩⟩; (try first | exact ⟨rfl, _, World.drewN_drewN _ _ _⟩ | exact ⟨rfl, _, Eq.trans (World.drewN_drewN _ _ _) (congrArg (World.drewN _) (Nat.add_assoc _ _ _))⟩))))
    go_meet
    case rel => exact ⟨_, (true), (by first | rfl | (simp; done) | (simp [*]; done)), H', ⟨by first | omega | exact Nat.le_refl _⟩, ⟨by repeat with_reducible first | exact HB.out | apply ba | apply bn | apply bd⟩⟩
  case rest =>
   clear HC9
   try clear c1
   try clear p2
   try clear c5
   try clear c8
   try clear c12
   obtain ⟨kq, x31_8, rfl, HA, HJ8, HB⟩ := hcut
   cases kq with
   | zero => exact absurd HA.out (by simp [foolscaplaw12_FindAll.j0])
   | succ kj8 =>
    have H := HA.out
    clear HA
    simp only [foolscaplaw12_FindAll.j0] at H
    by_cases c13 : x31_8 = true
    ·subst c13
     have H1 : (some true) = some r := by rw [if_pos rfl] at H; exact H
     clear H
     have H := H1
     clear H1
     obtain rfl := Option.some.inj H
     go_wp2
     repeat (go_quiet (fail); try go_wp2)
     go_ret
     exact ⟨by first | rfl | (simp [errW_none, errW_some] <;> rfl) | (simp [*, errW_none, errW_some] <;> rfl), by repeat with_reducible first | exact HB.out | apply ba | apply bn | apply bd⟩
    ·replace c13 := Bool.eq_false_iff.mpr c13
     subst c13
     have H1 : ((foolscapseat_Place.f l0 a2 a3).bind fun bt148 => (if 0 ≤ bt148.1 then (if bt148.1 < (l0.length : Int) then (if 0 ≤ bt148.2 then (if bt148.2 ≤ ((rdOf ByteArray.empty l0 bt148.1).size : Int) then (if 0 ≤ (mn (wrap64 (Int.tmod a4 5)) (((rdOf ByteArray.empty l0 bt148.1).extract (bt148.2 : Int).toNat (rdOf ByteArray.empty l0 bt148.1).size).size : Int)) then (if (mn (wrap64 (Int.tmod a4 5)) (((rdOf ByteArray.empty l0 bt148.1).extract (bt148.2 : Int).toNat (rdOf ByteArray.empty l0 bt148.1).size).size : Int)) ≤ (((rdOf ByteArray.empty l0 bt148.1).extract (bt148.2 : Int).toNat (rdOf ByteArray.empty l0 bt148.1).size).size : Int) then ((some (([a1, ((rdOf ByteArray.empty l0 bt148.1).extract (bt148.2 : Int).toNat (rdOf ByteArray.empty l0 bt148.1).size).extract 0 ((mn (wrap64 (Int.tmod a4 5)) (((rdOf ByteArray.empty l0 bt148.1).extract (bt148.2 : Int).toNat (rdOf ByteArray.empty l0 bt148.1).size).size : Int)) : Int).toNat] : List ByteArray) : List ByteArray)).bind fun y152 => (foolscaplaw12_FindAll.l0 kj8 l0 a5 y152 (y152.length : Int) 0)) else (none)) else (none)) else (none)) else (none)) else (none)) else (none))) = some r := by rw [if_neg (show ¬ (false = true) by decide)] at H; exact H
     clear H
     have H := H1
     clear H1
     replace H := Option.bind_eq_some_iff.mp H
     obtain ⟨⟨t148, t149⟩, A140, H⟩ := H
     replace H : (if 0 ≤ t148 then (if t148 < (l0.length : Int) then (if 0 ≤ t149 then (if t149 ≤ ((rdOf ByteArray.empty l0 t148).size : Int) then (if 0 ≤ (mn (wrap64 (Int.tmod a4 5)) (((rdOf ByteArray.empty l0 t148).extract (t149 : Int).toNat (rdOf ByteArray.empty l0 t148).size).size : Int)) then (if (mn (wrap64 (Int.tmod a4 5)) (((rdOf ByteArray.empty l0 t148).extract (t149 : Int).toNat (rdOf ByteArray.empty l0 t148).size).size : Int)) ≤ (((rdOf ByteArray.empty l0 t148).extract (t149 : Int).toNat (rdOf ByteArray.empty l0 t148).size).size : Int) then ((some (([a1, ((rdOf ByteArray.empty l0 t148).extract (t149 : Int).toNat (rdOf ByteArray.empty l0 t148).size).extract 0 ((mn (wrap64 (Int.tmod a4 5)) (((rdOf ByteArray.empty l0 t148).extract (t149 : Int).toNat (rdOf ByteArray.empty l0 t148).size).size : Int)) : Int).toNat] : List ByteArray) : List ByteArray)).bind fun y152 => (foolscaplaw12_FindAll.l0 kj8 l0 a5 y152 (y152.length : Int) 0)) else (none)) else (none)) else (none)) else (none)) else (none)) else (none)) = some r := H
     have A14 := Aside0.mk A140
     clear A140
     by_cases c15 : 0 ≤ t148
     ·rw [if_pos c15] at H
      have c15b0 : decide (0 ≤ t148) = true := decide_eq_true c15
      clear c15
      by_cases c16 : t148 < (l0.length : Int)
      ·rw [if_pos c16] at H
       have c16b0 : decide (t148 < (l0.length : Int)) = true := decide_eq_true c16
       clear c16
       by_cases c17 : 0 ≤ t149
       ·rw [if_pos c17] at H
        have c17b0 := eq_true c17
        have c17b1 : decide (0 ≤ t149) = true := decide_eq_true c17
        clear c17
        by_cases c18 : t149 ≤ ((rdOf ByteArray.empty l0 t148).size : Int)
        ·rw [if_pos c18] at H
         have c18b0 := eq_true c18
         have c18b1 : decide (t149 ≤ ((rdOf ByteArray.empty l0 t148).size : Int)) = true := decide_eq_true c18
         clear c18
         obtain ⟨ji19, hji19⟩ : ∃ j_ : Int, (mn (wrap64 (Int.tmod a4 5)) (((rdOf ByteArray.empty l0 t148).extract (t149 : Int).toNat (rdOf ByteArray.empty l0 t148).size).size : Int)) = j_ := ⟨_, rfl⟩
         replace H : (if 0 ≤ (ji19) then (if (ji19) ≤ (((rdOf ByteArray.empty l0 t148).extract (t149 : Int).toNat (rdOf ByteArray.empty l0 t148).size).size : Int) then ((some (([a1, ((rdOf ByteArray.empty l0 t148).extract (t149 : Int).toNat (rdOf ByteArray.empty l0 t148).size).extract 0 ((ji19) : Int).toNat] : List ByteArray) : List ByteArray)).bind fun y152 => (foolscaplaw12_FindAll.l0 kj8 l0 a5 y152 (y152.length : Int) 0)) else (none)) else (none)) = some r := by first | (rw [hji19] at H; exact H) | (simp only [hji19] at H ⊢; exact H)
         (try rw [hji19] at A14)
         have hji19_ : (if (((rdOf ByteArray.empty l0 t148).extract (t149 : Int).toNat (rdOf ByteArray.empty l0 t148).size).size : Int) < (wrap64 (Int.tmod a4 5)) then (((rdOf ByteArray.empty l0 t148).extract (t149 : Int).toNat (rdOf ByteArray.empty l0 t148).size).size : Int) else (wrap64 (Int.tmod a4 5))) = ji19 := hji19
         have hji19_n := hji19_
         (try simp only [ByteArray.size_extract, Nat.min_self] at hji19_n)
         by_cases c20 : 0 ≤ (ji19)
         ·rw [if_pos c20] at H
          have c20b0 := eq_true c20
          have c20b1 : decide (0 ≤ (ji19)) = true := decide_eq_true c20
          clear c20
          by_cases c21 : (ji19) ≤ (((rdOf ByteArray.empty l0 t148).extract (t149 : Int).toNat (rdOf ByteArray.empty l0 t148).size).size : Int)
          ·rw [if_pos c21] at H
           have c21b0 := eq_true c21
           have c21b0_n := c21b0
           (try simp only [ByteArray.size_extract, Nat.min_self] at c21b0_n)
           have c21b1 : decide ((ji19) ≤ (((rdOf ByteArray.empty l0 t148).extract (t149 : Int).toNat (rdOf ByteArray.empty l0 t148).size).size : Int)) = true := decide_eq_true c21
           have c21b1_n := c21b1
           (try simp only [ByteArray.size_extract, Nat.min_self] at c21b1_n)
           clear c21
           obtain ⟨y152, hy152⟩ : ∃ y_ : List ByteArray, y_ = (([a1, ((rdOf ByteArray.empty l0 t148).extract (t149 : Int).toNat (rdOf ByteArray.empty l0 t148).size).extract 0 ((ji19) : Int).toNat] : List ByteArray)) := ⟨_, rfl⟩
           replace H : (foolscaplaw12_FindAll.l0 kj8 l0 a5 y152 (y152.length : Int) 0) = some r := by first | (rw [hy152]; with_reducible exact H) | (have H2_ := (Option.bind_some _ _).symm.trans H; rw [hy152]; with_reducible exact H2_) | (have H2_ := (Option.bind_some _ _).symm.trans H; with_reducible exact H2_) | with_reducible exact H | (rw [hy152]; exact H) | exact H
           have Ny152 := Aside0.mk hy152
           clear hy152
           have H' := Aside0.mk H
           clear H
           go_wp2_with (first | (go_at_call 14; (with_reducible refine (foolscapseat_Place.calls _ _ l0 a2 a3 t148 t149 _ ?side1 ?side2 A14.out).mono ?_); (case side1 => repeat (first | exact (Kd.C_below HR0.out HB.out) | (with_reducible refine Kd.C_alloc ?_ _) | (with_reducible refine Kd.C_drewN ?_ _) | (with_reducible refine Kd.C_drew ?_))); (case side2 => exact HC0.out); rintro e w22 ⟨rfl, hb⟩; have n0_ := Aside0.mk (below_step (by repeat with_reducible first | exact HB.out | apply ba | apply bn | apply bd) hb); clear HB; have HB := n0_; clear n0_; (try clear hb); (try clear hb2); (try clear hk); (try clear hi)) | ((with_reducible refine gate_dst (N := 13) rfl ?_); (try (refine gate_guard (by rfl) ?_; dsimp only)); refine box_event ?hg (N := 13) ?hd (cs := #[.int .i64 0, .int .i64 0]) (t := 28) ?hr ?_; (case hd => rfl); (case hg => rfl); (case hr => first | (go_simp; done) | (go_simp; rfl)); intro gb150 hg w23 hbox hb; have n0_ := Aside0.mk (below_step (by repeat with_reducible first | exact HB.out | apply ba | apply bn | apply bd) hb); have n1_ := Aside0.mk (hbox); have n2_ := Aside0.mk ((by rw [hg]; exact (below_size (by repeat with_reducible first | exact HB.out | apply ba | apply bn | apply bd)) : w.heap.size ≤ gb150)); have n3_ := n2_; clear HB; have HB := n0_; have BK150 := n1_; have GW150 := n2_; have GE150 := n3_; clear n0_ n1_ n2_ n3_; clear hb hbox hg; have hcz24_0 : w23.cell? ⟨gb150, 0, none⟩ = some (.int .i64 0) := (blk_cell BK150.out 0).trans rfl; have hcz24_1 : w23.cell? ⟨gb150, 1, none⟩ = some (.int .i64 0) := (blk_cell BK150.out 1).trans rfl; have hfz24_0 := blk_frozen BK150.out 0; have hfz24_1 := blk_frozen BK150.out 1; have p151 : 0 ≤ (t148 : Int) := of_decide_eq_true (by first | (with_reducible assumption) | assumption); have q151 : t148 < (l0.length : Int) := of_decide_eq_true (by first | (with_reducible assumption) | assumption); obtain ⟨ad151, e151, hx151_0⟩ := Kd.at_string HR0.out t148 p151 q151; cases e151; have hn151_0 : ad151.block ≠ gb150 := Nat.ne_of_lt (Nat.lt_of_lt_of_le (by have := World.block_lt_of_cell? _ _ hx151_0; first | rwa [add_block] at this | exact this) GW150.out); have hn151_1 : ad151.block ≠ gb150 := Nat.ne_of_lt (Nat.lt_of_lt_of_le (by have := World.block_lt_of_cell? _ _ hx151_0; first | rwa [add_block] at this | exact this) GW150.out); replace hx151_0 := (HB.out.cell (World.block_lt_of_cell? w _ hx151_0)).trans hx151_0; replace hx151_0 := (cell_far (p := ⟨gb150, 0, none⟩) (by first | (rw [add_block]; exact hn151_0) | (show (Addr.add _ _).block ≠ _; rw [add_block]; exact hn151_0) | exact hn151_0) (.int .i64 t148)).trans hx151_0; replace hx151_0 := (cell_far (p := ⟨gb150, 1, none⟩) (by first | (rw [add_block]; exact hn151_1) | (show (Addr.add _ _).block ≠ _; rw [add_block]; exact hn151_1) | exact hn151_1) (.int .i64 t149)).trans hx151_0; (try have hy151_0 := fun (n_ : Nat) => (show ((((w23.drewN n_).setCell ⟨gb150, 0, none⟩ (.int .i64 t148)).setCell ⟨gb150, 1, none⟩ (.int .i64 t149))).cell? _ = some _ from hx151_0)); clear hn151_0; clear hn151_1; replace p151 := eq_true p151; replace q151 := eq_true q151) | ((with_reducible refine gate_dst (N := 54) rfl ?_); (try (refine gate_guard (by rfl) ?_; dsimp only)); refine Kd.R_lit Kd.string _ 9 ?hg (N := 54) ?hd (xs := ([a1, ((rdOf ByteArray.empty l0 t148).extract (t149 : Int).toNat (rdOf ByteArray.empty l0 t148).size).extract 0 ((ji19) : Int).toNat] : List ByteArray)) (inner := [.string a1, .string (((rdOf ByteArray.empty l0 t148).extract (t149 : Int).toNat (rdOf ByteArray.empty l0 t148).size).extract 0 ((ji19) : Int).toNat)]) (ok := fun _ => True) (okp := fun _ => True) ?hr ?hp (fun _ hk => hk) trivial (Below.refl _ _) (Nat.le_refl _) (by simp) ?_; (case hd => rfl); (case hg => rfl); (case hr => first | (go_simp; done) | (go_simp; rfl)); (case hp => exact (Reps.one (show Kd.M Kd.string _ _ _ a1 [.string a1] from rfl) (Reps.one (show Kd.M Kd.string _ _ _ (((rdOf ByteArray.empty l0 t148).extract (t149 : Int).toNat (rdOf ByteArray.empty l0 t148).size).extract 0 ((ji19) : Int).toNat) [.string (((rdOf ByteArray.empty l0 t148).extract (t149 : Int).toNat (rdOf ByteArray.empty l0 t148).size).extract 0 ((ji19) : Int).toNat)] from rfl) (Reps.none _ _)))); intro v153 w25 ho26 hb hg_ hnew_; clear hg_ hnew_; (first | rw [← Ny152.out] at ho26 | (simp only [Int.reduceToNat] at ho26; rw [← Ny152.out] at ho26)); have n0_ := Aside0.mk (Kd.R_lower ho26 (below_size (by repeat with_reducible first | exact HB.out | apply ba | apply bn | apply bd | refine bset ?_ (by assumption)))); have n1_ := Aside0.mk (blk_below (g := gb150) (o := .cells #[.int .i64 t148, .int .i64 t149] 28 (0, 0)) (by refine pk ?_; refine blk_put (cs := #[.int .i64 t148, .int .i64 0]) ?_ 1 _ rfl; refine pk ?_; refine blk_put (cs := #[.int .i64 0, .int .i64 0]) ?_ 0 _ rfl; exact pk BK150.out) hb); have n2_ := Aside0.mk (below_step (by repeat with_reducible first | exact HB.out | apply ba | apply bn | apply bd | refine bset ?_ (by assumption)) hb); clear BK150; clear HB; have HO154 := n0_; have BK150 := n1_; have HB := n2_; clear n0_ n1_ n2_; clear hb ho26; obtain ⟨Ao27, co27, eo27⟩ := Kd.R_slice HO154.out; subst eo27))
           repeat (go_quiet (first | (go_at_call 14; (with_reducible refine (foolscapseat_Place.calls _ _ l0 a2 a3 t148 t149 _ ?side1 ?side2 A14.out).mono ?_); (case side1 => repeat (first | exact (Kd.C_below HR0.out HB.out) | (with_reducible refine Kd.C_alloc ?_ _) | (with_reducible refine Kd.C_drewN ?_ _) | (with_reducible refine Kd.C_drew ?_))); (case side2 => exact HC0.out); rintro e w22 ⟨rfl, hb⟩; have n0_ := Aside0.mk (below_step (by repeat with_reducible first | exact HB.out | apply ba | apply bn | apply bd) hb); clear HB; have HB := n0_; clear n0_; (try clear hb); (try clear hb2); (try clear hk); (try clear hi)) | ((with_reducible refine gate_dst (N := 13) rfl ?_); (try (refine gate_guard (by rfl) ?_; dsimp only)); refine box_event ?hg (N := 13) ?hd (cs := #[.int .i64 0, .int .i64 0]) (t := 28) ?hr ?_; (case hd => rfl); (case hg => rfl); (case hr => first | (go_simp; done) | (go_simp; rfl)); intro gb150 hg w23 hbox hb; have n0_ := Aside0.mk (below_step (by repeat with_reducible first | exact HB.out | apply ba | apply bn | apply bd) hb); have n1_ := Aside0.mk (hbox); have n2_ := Aside0.mk ((by rw [hg]; exact (below_size (by repeat with_reducible first | exact HB.out | apply ba | apply bn | apply bd)) : w.heap.size ≤ gb150)); have n3_ := n2_; clear HB; have HB := n0_; have BK150 := n1_; have GW150 := n2_; have GE150 := n3_; clear n0_ n1_ n2_ n3_; clear hb hbox hg; have hcz24_0 : w23.cell? ⟨gb150, 0, none⟩ = some (.int .i64 0) := (blk_cell BK150.out 0).trans rfl; have hcz24_1 : w23.cell? ⟨gb150, 1, none⟩ = some (.int .i64 0) := (blk_cell BK150.out 1).trans rfl; have hfz24_0 := blk_frozen BK150.out 0; have hfz24_1 := blk_frozen BK150.out 1; have p151 : 0 ≤ (t148 : Int) := of_decide_eq_true (by first | (with_reducible assumption) | assumption); have q151 : t148 < (l0.length : Int) := of_decide_eq_true (by first | (with_reducible assumption) | assumption); obtain ⟨ad151, e151, hx151_0⟩ := Kd.at_string HR0.out t148 p151 q151; cases e151; have hn151_0 : ad151.block ≠ gb150 := Nat.ne_of_lt (Nat.lt_of_lt_of_le (by have := World.block_lt_of_cell? _ _ hx151_0; first | rwa [add_block] at this | exact this) GW150.out); have hn151_1 : ad151.block ≠ gb150 := Nat.ne_of_lt (Nat.lt_of_lt_of_le (by have := World.block_lt_of_cell? _ _ hx151_0; first | rwa [add_block] at this | exact this) GW150.out); replace hx151_0 := (HB.out.cell (World.block_lt_of_cell? w _ hx151_0)).trans hx151_0; replace hx151_0 := (cell_far (p := ⟨gb150, 0, none⟩) (by first | (rw [add_block]; exact hn151_0) | (show (Addr.add _ _).block ≠ _; rw [add_block]; exact hn151_0) | exact hn151_0) (.int .i64 t148)).trans hx151_0; replace hx151_0 := (cell_far (p := ⟨gb150, 1, none⟩) (by first | (rw [add_block]; exact hn151_1) | (show (Addr.add _ _).block ≠ _; rw [add_block]; exact hn151_1) | exact hn151_1) (.int .i64 t149)).trans hx151_0; (try have hy151_0 := fun (n_ : Nat) => (show ((((w23.drewN n_).setCell ⟨gb150, 0, none⟩ (.int .i64 t148)).setCell ⟨gb150, 1, none⟩ (.int .i64 t149))).cell? _ = some _ from hx151_0)); clear hn151_0; clear hn151_1; replace p151 := eq_true p151; replace q151 := eq_true q151) | ((with_reducible refine gate_dst (N := 54) rfl ?_); (try (refine gate_guard (by rfl) ?_; dsimp only)); refine Kd.R_lit Kd.string _ 9 ?hg (N := 54) ?hd (xs := ([a1, ((rdOf ByteArray.empty l0 t148).extract (t149 : Int).toNat (rdOf ByteArray.empty l0 t148).size).extract 0 ((ji19) : Int).toNat] : List ByteArray)) (inner := [.string a1, .string (((rdOf ByteArray.empty l0 t148).extract (t149 : Int).toNat (rdOf ByteArray.empty l0 t148).size).extract 0 ((ji19) : Int).toNat)]) (ok := fun _ => True) (okp := fun _ => True) ?hr ?hp (fun _ hk => hk) trivial (Below.refl _ _) (Nat.le_refl _) (by simp) ?_; (case hd => rfl); (case hg => rfl); (case hr => first | (go_simp; done) | (go_simp; rfl)); (case hp => exact (Reps.one (show Kd.M Kd.string _ _ _ a1 [.string a1] from rfl) (Reps.one (show Kd.M Kd.string _ _ _ (((rdOf ByteArray.empty l0 t148).extract (t149 : Int).toNat (rdOf ByteArray.empty l0 t148).size).extract 0 ((ji19) : Int).toNat) [.string (((rdOf ByteArray.empty l0 t148).extract (t149 : Int).toNat (rdOf ByteArray.empty l0 t148).size).extract 0 ((ji19) : Int).toNat)] from rfl) (Reps.none _ _)))); intro v153 w25 ho26 hb hg_ hnew_; clear hg_ hnew_; (first | rw [← Ny152.out] at ho26 | (simp only [Int.reduceToNat] at ho26; rw [← Ny152.out] at ho26)); have n0_ := Aside0.mk (Kd.R_lower ho26 (below_size (by repeat with_reducible first | exact HB.out | apply ba | apply bn | apply bd | refine bset ?_ (by assumption)))); have n1_ := Aside0.mk (blk_below (g := gb150) (o := .cells #[.int .i64 t148, .int .i64 t149] 28 (0, 0)) (by refine pk ?_; refine blk_put (cs := #[.int .i64 t148, .int .i64 0]) ?_ 1 _ rfl; refine pk ?_; refine blk_put (cs := #[.int .i64 0, .int .i64 0]) ?_ 0 _ rfl; exact pk BK150.out) hb); have n2_ := Aside0.mk (below_step (by repeat with_reducible first | exact HB.out | apply ba | apply bn | apply bd | refine bset ?_ (by assumption)) hb); clear BK150; clear HB; have HO154 := n0_; have BK150 := n1_; have HB := n2_; clear n0_ n1_ n2_; clear hb ho26; obtain ⟨Ao27, co27, eo27⟩ := Kd.R_slice HO154.out; subst eo27)); try go_wp2_with (first | (go_at_call 14; (with_reducible refine (foolscapseat_Place.calls _ _ l0 a2 a3 t148 t149 _ ?side1 ?side2 A14.out).mono ?_); (case side1 => repeat (first | exact (Kd.C_below HR0.out HB.out) | (with_reducible refine Kd.C_alloc ?_ _) | (with_reducible refine Kd.C_drewN ?_ _) | (with_reducible refine Kd.C_drew ?_))); (case side2 => exact HC0.out); rintro e w22 ⟨rfl, hb⟩; have n0_ := Aside0.mk (below_step (by repeat with_reducible first | exact HB.out | apply ba | apply bn | apply bd) hb); clear HB; have HB := n0_; clear n0_; (try clear hb); (try clear hb2); (try clear hk); (try clear hi)) | ((with_reducible refine gate_dst (N := 13) rfl ?_); (try (refine gate_guard (by rfl) ?_; dsimp only)); refine box_event ?hg (N := 13) ?hd (cs := #[.int .i64 0, .int .i64 0]) (t := 28) ?hr ?_; (case hd => rfl); (case hg => rfl); (case hr => first | (go_simp; done) | (go_simp; rfl)); intro gb150 hg w23 hbox hb; have n0_ := Aside0.mk (below_step (by repeat with_reducible first | exact HB.out | apply ba | apply bn | apply bd) hb); have n1_ := Aside0.mk (hbox); have n2_ := Aside0.mk ((by rw [hg]; exact (below_size (by repeat with_reducible first | exact HB.out | apply ba | apply bn | apply bd)) : w.heap.size ≤ gb150)); have n3_ := n2_; clear HB; have HB := n0_; have BK150 := n1_; have GW150 := n2_; have GE150 := n3_; clear n0_ n1_ n2_ n3_; clear hb hbox hg; have hcz24_0 : w23.cell? ⟨gb150, 0, none⟩ = some (.int .i64 0) := (blk_cell BK150.out 0).trans rfl; have hcz24_1 : w23.cell? ⟨gb150, 1, none⟩ = some (.int .i64 0) := (blk_cell BK150.out 1).trans rfl; have hfz24_0 := blk_frozen BK150.out 0; have hfz24_1 := blk_frozen BK150.out 1; have p151 : 0 ≤ (t148 : Int) := of_decide_eq_true (by first | (with_reducible assumption) | assumption); have q151 : t148 < (l0.length : Int) := of_decide_eq_true (by first | (with_reducible assumption) | assumption); obtain ⟨ad151, e151, hx151_0⟩ := Kd.at_string HR0.out t148 p151 q151; cases e151; have hn151_0 : ad151.block ≠ gb150 := Nat.ne_of_lt (Nat.lt_of_lt_of_le (by have := World.block_lt_of_cell? _ _ hx151_0; first | rwa [add_block] at this | exact this) GW150.out); have hn151_1 : ad151.block ≠ gb150 := Nat.ne_of_lt (Nat.lt_of_lt_of_le (by have := World.block_lt_of_cell? _ _ hx151_0; first | rwa [add_block] at this | exact this) GW150.out); replace hx151_0 := (HB.out.cell (World.block_lt_of_cell? w _ hx151_0)).trans hx151_0; replace hx151_0 := (cell_far (p := ⟨gb150, 0, none⟩) (by first | (rw [add_block]; exact hn151_0) | (show (Addr.add _ _).block ≠ _; rw [add_block]; exact hn151_0) | exact hn151_0) (.int .i64 t148)).trans hx151_0; replace hx151_0 := (cell_far (p := ⟨gb150, 1, none⟩) (by first | (rw [add_block]; exact hn151_1) | (show (Addr.add _ _).block ≠ _; rw [add_block]; exact hn151_1) | exact hn151_1) (.int .i64 t149)).trans hx151_0; (try have hy151_0 := fun (n_ : Nat) => (show ((((w23.drewN n_).setCell ⟨gb150, 0, none⟩ (.int .i64 t148)).setCell ⟨gb150, 1, none⟩ (.int .i64 t149))).cell? _ = some _ from hx151_0)); clear hn151_0; clear hn151_1; replace p151 := eq_true p151; replace q151 := eq_true q151) | ((with_reducible refine gate_dst (N := 54) rfl ?_); (try (refine gate_guard (by rfl) ?_; dsimp only)); refine Kd.R_lit Kd.string _ 9 ?hg (N := 54) ?hd (xs := ([a1, ((rdOf ByteArray.empty l0 t148).extract (t149 : Int).toNat (rdOf ByteArray.empty l0 t148).size).extract 0 ((ji19) : Int).toNat] : List ByteArray)) (inner := [.string a1, .string (((rdOf ByteArray.empty l0 t148).extract (t149 : Int).toNat (rdOf ByteArray.empty l0 t148).size).extract 0 ((ji19) : Int).toNat)]) (ok := fun _ => True) (okp := fun _ => True) ?hr ?hp (fun _ hk => hk) trivial (Below.refl _ _) (Nat.le_refl _) (by simp) ?_; (case hd => rfl); (case hg => rfl); (case hr => first | (go_simp; done) | (go_simp; rfl)); (case hp => exact (Reps.one (show Kd.M Kd.string _ _ _ a1 [.string a1] from rfl) (Reps.one (show Kd.M Kd.string _ _ _ (((rdOf ByteArray.empty l0 t148).extract (t149 : Int).toNat (rdOf ByteArray.empty l0 t148).size).extract 0 ((ji19) : Int).toNat) [.string (((rdOf ByteArray.empty l0 t148).extract (t149 : Int).toNat (rdOf ByteArray.empty l0 t148).size).extract 0 ((ji19) : Int).toNat)] from rfl) (Reps.none _ _)))); intro v153 w25 ho26 hb hg_ hnew_; clear hg_ hnew_; (first | rw [← Ny152.out] at ho26 | (simp only [Int.reduceToNat] at ho26; rw [← Ny152.out] at ho26)); have n0_ := Aside0.mk (Kd.R_lower ho26 (below_size (by repeat with_reducible first | exact HB.out | apply ba | apply bn | apply bd | refine bset ?_ (by assumption)))); have n1_ := Aside0.mk (blk_below (g := gb150) (o := .cells #[.int .i64 t148, .int .i64 t149] 28 (0, 0)) (by refine pk ?_; refine blk_put (cs := #[.int .i64 t148, .int .i64 0]) ?_ 1 _ rfl; refine pk ?_; refine blk_put (cs := #[.int .i64 0, .int .i64 0]) ?_ 0 _ rfl; exact pk BK150.out) hb); have n2_ := Aside0.mk (below_step (by repeat with_reducible first | exact HB.out | apply ba | apply bn | apply bd | refine bset ?_ (by assumption)) hb); clear BK150; clear HB; have HO154 := n0_; have BK150 := n1_; have HB := n2_; clear n0_ n1_ n2_; clear hb ho26; obtain ⟨Ao27, co27, eo27⟩ := Kd.R_slice HO154.out; subst eo27)))
           go_loopg [56] kj8 (fun kq v56 w' => ∃ (x56_2 : Int), v56 = .int .i64 x56_2 ∧ Aside0 (foolscaplaw12_FindAll.l0 kq l0 a5 y152 (y152.length : Int) x56_2 = some r) ∧ Aside0 (kq ≤ kj8) ∧ Aside0 (Kd.R Kd.string 9 w' w.heap.size (fun _ => True) (.slice Ao27 y152.length co27) y152) ∧ Aside0 (w'.heap[gb150]? = some (.cells #[.int .i64 t148, .int .i64 t149] 28 (0, 0))) ∧ Aside0 (Below w.heap.size w w'))
           case atStart => exact ⟨(0), (by first | rfl | (simp; done) | (simp [*]; done)), H', ⟨Nat.le_refl _⟩, ⟨by (with_reducible repeat (first | apply Kd.R_alloc | apply Kd.R_drewN | apply Kd.R_drew)); exact HO154.out⟩, ⟨by exact pk BK150.out⟩, ⟨by repeat with_reducible first | exact HB.out | apply ba | apply bn | apply bd | refine bset ?_ (by assumption)⟩⟩
           case round =>
            clear H'
            try clear c1
            try clear p1
            try clear q1
            try clear hx1
            try clear c2
            try clear p2
            try clear c5
            try clear p6
            try clear c8
            try clear c12
            try clear c13
            try clear c15
            try clear c15b0
            try clear p15
            try clear q15
            try clear hx15
            try clear c16
            try clear c16b0
            try clear c17
            try clear c17b0
            try clear c17b1
            try clear c18
            try clear c18b0
            try clear c18b1
            try clear c20
            try clear c20b0
            try clear c20b1
            try clear c21
            try clear c21b0
            try clear c21b1
            try clear hcz24_0
            try clear hcz24_1
            try clear hfz24_0
            try clear hfz24_1
            try clear hx151_0
            try clear p151
            try clear p2
            try clear q151
            obtain ⟨x56_2, rfl, HA, HK2, HO_54, BK150, HB⟩ := hrel
            cases gk with
            | zero => exact absurd HA.out (by simp [foolscaplaw12_FindAll.l0])
            | succ k2 =>
             have H := HA.out
             clear HA
             simp only [foolscaplaw12_FindAll.l0] at H
             by_cases c28 : x56_2 < (y152.length : Int)
             ·rw [if_pos c28] at H
              have c28b0 : decide (x56_2 < (y152.length : Int)) = true := decide_eq_true c28
              clear c28
              by_cases c29 : 0 ≤ x56_2
              ·rw [if_pos c29] at H
               have c29b0 : decide (0 ≤ x56_2) = true := decide_eq_true c29
               clear c29
               by_cases c30 : x56_2 < (y152.length : Int)
               ·rw [if_pos c30] at H
                have c30b0 : decide (x56_2 < (y152.length : Int)) = true := decide_eq_true c30
                clear c30
                replace H := Option.bind_eq_some_iff.mp H
                obtain ⟨⟨t156, t157⟩, A310, H⟩ := H
                replace H : ((foolscapref5_All.f k2 l0 (rdOf ByteArray.empty y152 x56_2)).bind fun t160 => ((foolscaplaw12_heard.f l0 (rdOf ByteArray.empty y152 x56_2) (wrap64 ((wrap64 (Int.tmod a5 9)) + 1))).bind fun bt163 => (if t157 = true then ((foolscaphelp_Places.f k2 t156 t160).bind fun t167 => (if t167 = true then (if 0 ≤ (mn (wrap64 ((wrap64 (Int.tmod a5 9)) + 1)) (t160.length : Int)) then (if (mn (wrap64 ((wrap64 (Int.tmod a5 9)) + 1)) (t160.length : Int)) ≤ (t160.length : Int) then ((foolscaphelp_Places.f k2 bt163.1 (t160.take ((mn (wrap64 ((wrap64 (Int.tmod a5 9)) + 1)) (t160.length : Int)) : Int).toNat)).bind fun t172 => (if t172 = true then (foolscaplaw12_FindAll.l0 k2 l0 a5 y152 (y152.length : Int) (wrap64 (x56_2 + 1))) else (some false))) else (none)) else (none)) else (some false))) else (some false)))) = some r := H
                have A31 := Aside0.mk A310
                clear A310
                replace H := Option.bind_eq_some_iff.mp H
                obtain ⟨t160, A320, H⟩ := H
                replace H : ((foolscaplaw12_heard.f l0 (rdOf ByteArray.empty y152 x56_2) (wrap64 ((wrap64 (Int.tmod a5 9)) + 1))).bind fun bt163 => (if t157 = true then ((foolscaphelp_Places.f k2 t156 t160).bind fun t167 => (if t167 = true then (if 0 ≤ (mn (wrap64 ((wrap64 (Int.tmod a5 9)) + 1)) (t160.length : Int)) then (if (mn (wrap64 ((wrap64 (Int.tmod a5 9)) + 1)) (t160.length : Int)) ≤ (t160.length : Int) then ((foolscaphelp_Places.f k2 bt163.1 (t160.take ((mn (wrap64 ((wrap64 (Int.tmod a5 9)) + 1)) (t160.length : Int)) : Int).toNat)).bind fun t172 => (if t172 = true then (foolscaplaw12_FindAll.l0 k2 l0 a5 y152 (y152.length : Int) (wrap64 (x56_2 + 1))) else (some false))) else (none)) else (none)) else (some false))) else (some false))) = some r := H
                have A32 := Aside0.mk A320
                clear A320
                replace H := Option.bind_eq_some_iff.mp H
                obtain ⟨⟨t163, t164⟩, A330, H⟩ := H
                replace H : (if t157 = true then ((foolscaphelp_Places.f k2 t156 t160).bind fun t167 => (if t167 = true then (if 0 ≤ (mn (wrap64 ((wrap64 (Int.tmod a5 9)) + 1)) (t160.length : Int)) then (if (mn (wrap64 ((wrap64 (Int.tmod a5 9)) + 1)) (t160.length : Int)) ≤ (t160.length : Int) then ((foolscaphelp_Places.f k2 t163 (t160.take ((mn (wrap64 ((wrap64 (Int.tmod a5 9)) + 1)) (t160.length : Int)) : Int).toNat)).bind fun t172 => (if t172 = true then (foolscaplaw12_FindAll.l0 k2 l0 a5 y152 (y152.length : Int) (wrap64 (x56_2 + 1))) else (some false))) else (none)) else (none)) else (some false))) else (some false)) = some r := H
                have A33 := Aside0.mk A330
                clear A330
                by_cases c34 : t157 = true
                ·subst c34
                 have H1 : ((foolscaphelp_Places.f k2 t156 t160).bind fun t167 => (if t167 = true then (if 0 ≤ (mn (wrap64 ((wrap64 (Int.tmod a5 9)) + 1)) (t160.length : Int)) then (if (mn (wrap64 ((wrap64 (Int.tmod a5 9)) + 1)) (t160.length : Int)) ≤ (t160.length : Int) then ((foolscaphelp_Places.f k2 t163 (t160.take ((mn (wrap64 ((wrap64 (Int.tmod a5 9)) + 1)) (t160.length : Int)) : Int).toNat)).bind fun t172 => (if t172 = true then (foolscaplaw12_FindAll.l0 k2 l0 a5 y152 (y152.length : Int) (wrap64 (x56_2 + 1))) else (some false))) else (none)) else (none)) else (some false))) = some r := by rw [if_pos rfl] at H; exact H
                 clear H
                 have H := H1
                 clear H1
                 replace H := Option.bind_eq_some_iff.mp H
                 obtain ⟨t167, A350, H⟩ := H
                 replace H : (if t167 = true then (if 0 ≤ (mn (wrap64 ((wrap64 (Int.tmod a5 9)) + 1)) (t160.length : Int)) then (if (mn (wrap64 ((wrap64 (Int.tmod a5 9)) + 1)) (t160.length : Int)) ≤ (t160.length : Int) then ((foolscaphelp_Places.f k2 t163 (t160.take ((mn (wrap64 ((wrap64 (Int.tmod a5 9)) + 1)) (t160.length : Int)) : Int).toNat)).bind fun t172 => (if t172 = true then (foolscaplaw12_FindAll.l0 k2 l0 a5 y152 (y152.length : Int) (wrap64 (x56_2 + 1))) else (some false))) else (none)) else (none)) else (some false)) = some r := H
                 have A35 := Aside0.mk A350
                 clear A350
                 by_cases c36 : t167 = true
                 ·subst c36
                  have H1 : (if 0 ≤ (mn (wrap64 ((wrap64 (Int.tmod a5 9)) + 1)) (t160.length : Int)) then (if (mn (wrap64 ((wrap64 (Int.tmod a5 9)) + 1)) (t160.length : Int)) ≤ (t160.length : Int) then ((foolscaphelp_Places.f k2 t163 (t160.take ((mn (wrap64 ((wrap64 (Int.tmod a5 9)) + 1)) (t160.length : Int)) : Int).toNat)).bind fun t172 => (if t172 = true then (foolscaplaw12_FindAll.l0 k2 l0 a5 y152 (y152.length : Int) (wrap64 (x56_2 + 1))) else (some false))) else (none)) else (none)) = some r := by rw [if_pos rfl] at H; exact H
                  clear H
                  have H := H1
                  clear H1
                  obtain ⟨ji37, hji37⟩ : ∃ j_ : Int, (mn (wrap64 ((wrap64 (Int.tmod a5 9)) + 1)) (t160.length : Int)) = j_ := ⟨_, rfl⟩
                  replace H : (if 0 ≤ (ji37) then (if (ji37) ≤ (t160.length : Int) then ((foolscaphelp_Places.f k2 t163 (t160.take ((ji37) : Int).toNat)).bind fun t172 => (if t172 = true then (foolscaplaw12_FindAll.l0 k2 l0 a5 y152 (y152.length : Int) (wrap64 (x56_2 + 1))) else (some false))) else (none)) else (none)) = some r := by first | (rw [hji37] at H; exact H) | (simp only [hji37] at H ⊢; exact H)
                  (try rw [hji37] at A31)
                  (try rw [hji37] at A32)
                  (try rw [hji37] at A33)
                  (try rw [hji37] at A35)
                  have hji37_ : (if (t160.length : Int) < (wrap64 ((wrap64 (Int.tmod a5 9)) + 1)) then (t160.length : Int) else (wrap64 ((wrap64 (Int.tmod a5 9)) + 1))) = ji37 := hji37
                  by_cases c38 : 0 ≤ (ji37)
                  ·rw [if_pos c38] at H
                   have c38b0 := eq_true c38
                   have c38b1 : decide (0 ≤ (ji37)) = true := decide_eq_true c38
                   clear c38
                   by_cases c39 : (ji37) ≤ (t160.length : Int)
                   ·rw [if_pos c39] at H
                    have c39b0 := eq_true c39
                    have c39b1 : decide ((ji37) ≤ (t160.length : Int)) = true := decide_eq_true c39
                    clear c39
                    obtain ⟨y168, hy168⟩ : ∃ y_ : List (S28), y_ = (t160.take ((ji37) : Int).toNat) := ⟨_, rfl⟩
                    replace H : ((foolscaphelp_Places.f k2 t163 y168).bind fun t172 => (if t172 = true then (foolscaplaw12_FindAll.l0 k2 l0 a5 y152 (y152.length : Int) (wrap64 (x56_2 + 1))) else (some false))) = some r := by first | (rw [hy168]; with_reducible exact H) | (have H2_ := (Option.bind_some _ _).symm.trans H; rw [hy168]; with_reducible exact H2_) | (have H2_ := (Option.bind_some _ _).symm.trans H; with_reducible exact H2_) | with_reducible exact H | (rw [hy168]; exact H) | exact H
                    have Ny168 := Aside0.mk hy168
                    clear hy168
                    replace H := Option.bind_eq_some_iff.mp H
                    obtain ⟨t172, A400, H⟩ := H
                    replace H : (if t172 = true then (foolscaplaw12_FindAll.l0 k2 l0 a5 y152 (y152.length : Int) (wrap64 (x56_2 + 1))) else (some false)) = some r := H
                    have A40 := Aside0.mk A400
                    clear A400
                    by_cases c41 : t172 = true
                    ·subst c41
                     have H1 : (foolscaplaw12_FindAll.l0 k2 l0 a5 y152 (y152.length : Int) (wrap64 (x56_2 + 1))) = some r := by rw [if_pos rfl] at H; exact H
                     clear H
                     have H := H1
                     clear H1
                     have H' := Aside0.mk H
                     clear H
                     have p155 : 0 ≤ (x56_2 : Int) := of_decide_eq_true (by first | (with_reducible assumption) | assumption)
                     have q155 : x56_2 < (y152.length : Int) := of_decide_eq_true (by first | (with_reducible assumption) | assumption)
                     obtain ⟨ad155, e155, hx155_0⟩ := Kd.at_string (Kd.R_reads' HO_54.out).2.2 x56_2 p155 q155
                     cases e155
                     replace p155 := eq_true p155
                     replace q155 := eq_true q155
                     go_wp2_with (first | (go_at_call 18; (with_reducible refine (find_All.calls _ _ l0 (rdOf ByteArray.empty y152 x56_2) _).mono ?_); rintro e wq2 ⟨Bp2, Bl2, rfl, bx, hb⟩; have BX2 := Aside0.mk bx; clear bx; have m0_ := Aside0.mk (Kd.R_below (by (with_reducible repeat (first | apply Kd.R_alloc | apply Kd.R_drewN | apply Kd.R_drew)); exact HO_54.out) hb); have m1_ := Aside0.mk (Kd.R_below (by (with_reducible repeat (first | apply Kd.R_alloc | apply Kd.R_drewN | apply Kd.R_drew)); exact HO159.out) hb); have m2_ := Aside0.mk (Kd.R_below (by (with_reducible repeat (first | apply Kd.R_alloc | apply Kd.R_drewN | apply Kd.R_drew)); exact HO162.out) hb); have m3_ := Aside0.mk (blk_below (pk BK150.out) hb); have m4_ := Aside0.mk (below_step (by repeat with_reducible first | exact HB.out | apply ba | apply bn | apply bd | refine bset ?_ (by assumption)) hb); clear HO_54; clear HO159; clear HO162; clear BK150; clear HB; have HO_54 := m0_; have HO159 := m1_; have HO162 := m2_; have BK150 := m3_; have HB := m4_; clear m0_ m1_ m2_ m3_ m4_; (try clear hb)) | (go_at_call 18; (with_reducible refine (find_All.calls _ _ l0 (rdOf ByteArray.empty y152 x56_2) _).mono ?_); rintro e wq1 ⟨Bp1, Bl1, rfl, bx, hb⟩; have BX1 := Aside0.mk bx; clear bx; have m0_ := Aside0.mk (Kd.R_below (by (with_reducible repeat (first | apply Kd.R_alloc | apply Kd.R_drewN | apply Kd.R_drew)); exact HO_54.out) hb); have m1_ := Aside0.mk (blk_below (pk BK150.out) hb); have m2_ := Aside0.mk (below_step (by repeat with_reducible first | exact HB.out | apply ba | apply bn | apply bd | refine bset ?_ (by assumption)) hb); clear HO_54; clear BK150; clear HB; have HO_54 := m0_; have BK150 := m1_; have HB := m2_; clear m0_ m1_ m2_; (try clear hb)) | (go_at_call 17; (with_reducible refine (foolscaplaw12_heard.calls Bp1 Bl1 _ _ l0 (rdOf ByteArray.empty y152 x56_2) 5000 t156 true _ BX1.out ?side1 ?side2 A31.out).mono ?_); clear BX1; (case side1 => repeat (first | exact (Kd.C_below HR0.out HB.out) | (with_reducible refine Kd.C_alloc ?_ _) | (with_reducible refine Kd.C_drewN ?_ _) | (with_reducible refine Kd.C_drew ?_))); (case side2 => exact HC0.out); rintro e w42 ⟨v158, rfl, ho0, hb⟩; have n0_ := Aside0.mk (Kd.R_below (by (with_reducible repeat (first | apply Kd.R_alloc | apply Kd.R_drewN | apply Kd.R_drew)); exact HO_54.out) hb); have n1_ := Aside0.mk (Kd.R_lower (Kd.R_newB ho0 (pk BK150.out)) (below_size (by repeat with_reducible first | exact HB.out | apply ba | apply bn | apply bd | refine bset ?_ (by assumption)))); have n2_ := Aside0.mk (blk_below (pk BK150.out) hb); have n3_ := Aside0.mk (below_step (by repeat with_reducible first | exact HB.out | apply ba | apply bn | apply bd | refine bset ?_ (by assumption)) hb); clear HO_54; clear BK150; clear HB; have HO_54 := n0_; have HO159 := n1_; have BK150 := n2_; have HB := n3_; clear n0_ n1_ n2_ n3_; (try clear hb); (try clear hb2); (try clear hk); (try clear hi); (try clear ho0)) | (go_at_call 11; (with_reducible refine (foolscapref5_All.calls k2 _ _ l0 (rdOf ByteArray.empty y152 x56_2) t160 _ ?side1 ?side2 A32.out).mono ?_); (case side1 => repeat (first | exact (Kd.C_below HR0.out HB.out) | (with_reducible refine Kd.C_alloc ?_ _) | (with_reducible refine Kd.C_drewN ?_ _) | (with_reducible refine Kd.C_drew ?_))); (case side2 => exact HC0.out); rintro e w43 ⟨v161, rfl, ho0, hb⟩; have n0_ := Aside0.mk (Kd.R_below (by (with_reducible repeat (first | apply Kd.R_alloc | apply Kd.R_drewN | apply Kd.R_drew)); exact HO_54.out) hb); have n1_ := Aside0.mk (Kd.R_elder' (by (with_reducible repeat (first | apply Kd.R_alloc | apply Kd.R_drewN | apply Kd.R_drew)); exact HO159.out) (Kd.R_base ho0) hb); have n2_ := Aside0.mk (Kd.R_lower (Kd.R_newB (Kd.R_new' ho0 (Kd.R_lt (by (with_reducible repeat (first | apply Kd.R_alloc | apply Kd.R_drewN | apply Kd.R_drew)); exact HO159.out))) (pk BK150.out)) (below_size (by repeat with_reducible first | exact HB.out | apply ba | apply bn | apply bd | refine bset ?_ (by assumption)))); have n3_ := Aside0.mk (blk_below (pk BK150.out) hb); have n4_ := Aside0.mk (below_step (by repeat with_reducible first | exact HB.out | apply ba | apply bn | apply bd | refine bset ?_ (by assumption)) hb); clear HO_54; clear HO159; clear BK150; clear HB; have HO_54 := n0_; have HO159 := n1_; have HO162 := n2_; have BK150 := n3_; have HB := n4_; clear n0_ n1_ n2_ n3_ n4_; (try clear hb); (try clear hb2); (try clear hk); (try clear hi); (try clear ho0)) | (go_at_call 17; (with_reducible refine (foolscaplaw12_heard.calls Bp2 Bl2 _ _ l0 (rdOf ByteArray.empty y152 x56_2) (wrap64 ((wrap64 (Int.tmod a5 9)) + 1)) t163 t164 _ BX2.out ?side1 ?side2 A33.out).mono ?_); clear BX2; (case side1 => repeat (first | exact (Kd.C_below HR0.out HB.out) | (with_reducible refine Kd.C_alloc ?_ _) | (with_reducible refine Kd.C_drewN ?_ _) | (with_reducible refine Kd.C_drew ?_))); (case side2 => exact HC0.out); rintro e w44 ⟨v165, rfl, ho0, hb⟩; have n0_ := Aside0.mk (Kd.R_below (by (with_reducible repeat (first | apply Kd.R_alloc | apply Kd.R_drewN | apply Kd.R_drew)); exact HO_54.out) hb); have n1_ := Aside0.mk (Kd.R_elder' (by (with_reducible repeat (first | apply Kd.R_alloc | apply Kd.R_drewN | apply Kd.R_drew)); exact HO159.out) (Kd.R_base ho0) hb); have n2_ := Aside0.mk (Kd.R_elder' (by (with_reducible repeat (first | apply Kd.R_alloc | apply Kd.R_drewN | apply Kd.R_drew)); exact HO162.out) (Kd.R_base ho0) hb); have n3_ := Aside0.mk (Kd.R_lower (Kd.R_newB (Kd.R_new' (Kd.R_new' ho0 (Kd.R_lt (by (with_reducible repeat (first | apply Kd.R_alloc | apply Kd.R_drewN | apply Kd.R_drew)); exact HO159.out))) (Kd.R_lt (by (with_reducible repeat (first | apply Kd.R_alloc | apply Kd.R_drewN | apply Kd.R_drew)); exact HO162.out))) (pk BK150.out)) (below_size (by repeat with_reducible first | exact HB.out | apply ba | apply bn | apply bd | refine bset ?_ (by assumption)))); have n4_ := Aside0.mk (blk_below (pk BK150.out) hb); have n5_ := Aside0.mk (below_step (by repeat with_reducible first | exact HB.out | apply ba | apply bn | apply bd | refine bset ?_ (by assumption)) hb); clear HO_54; clear HO159; clear HO162; clear BK150; clear HB; have HO_54 := n0_; have HO159 := n1_; have HO162 := n2_; have HO166 := n3_; have BK150 := n4_; have HB := n5_; clear n0_ n1_ n2_ n3_ n4_ n5_; (try clear hb); (try clear hb2); (try clear hk); (try clear hi); (try clear ho0); obtain ⟨Ao45, co45, eo45⟩ := Kd.R_slice HO159.out; subst eo45; obtain ⟨Ao46, co46, eo46⟩ := Kd.R_slice HO162.out; subst eo46) | (go_at_call 19; (with_reducible refine (foolscaphelp_Places.calls k2 _ _ t156 _ _ t160 true _ ?side1 ?side2 ?side3 ?side4 A35.out).mono ?_); (case side1 => repeat (first | exact (Kd.R_reads' HO159.out).2.2 | (with_reducible refine Kd.C_alloc ?_ _) | (with_reducible refine Kd.C_drewN ?_ _) | (with_reducible refine Kd.C_drew ?_))); (case side2 => exact (Kd.R_reads' HO159.out).2.1); (case side3 => repeat (first | exact (Kd.R_reads' HO162.out).2.2 | (with_reducible refine Kd.C_alloc ?_ _) | (with_reducible refine Kd.C_drewN ?_ _) | (with_reducible refine Kd.C_drew ?_))); (case side4 => exact (Kd.R_reads' HO162.out).2.1); rintro e w' ⟨rfl, ⟨nd, rfl⟩⟩; (try first | exact ⟨rfl, _, World.drewN_drewN _ _ _⟩ | exact ⟨rfl, _, Eq.trans (World.drewN_drewN _ _ _) (congrArg (World.drewN _) (Nat.add_assoc _ _ _))⟩); have q47 : ((ji37) : Int) ≤ ((t160.length : Int) : Int) := of_decide_eq_true (by first | (with_reducible assumption) | assumption); obtain ⟨i047, hi047, _, hsz47, _⟩ := info_parts info28; have hroom47 : t160.length ≤ co46 := (Kd.R_reads' HO162.out).2.1; have hC47 : Kd.C k28 _ Ao46 t160.length t160 := (Kd.R_reads' HO162.out).2.2; have hcut47 := cut_to (P := Try.prog) 25 28 .i64 Try.underlying25 hi047 Ao46 t160.length co46 (ji37) (of_decide_eq_true (by first | (with_reducible assumption) | assumption)) q47 hroom47; have hr47 := Kd.C_take (m := ((ji37) : Int).toNat) hC47 (by omega); have hy47 : y168.length = ((ji37) : Int).toNat := (by rw [Ny168.out, List.length_take]; omega); rw [← Ny168.out] at hr47; rw [← hy47] at hcut47; have HR171 := Aside0.mk hr47; have HC171 := Aside0.mk (show y168.length ≤ co46 from by omega); clear hr47 hC47 hroom47 hi047 hsz47; have KY47 := Aside0.mk hy47; clear hy47; have KL47 := Aside0.mk (show ((ji37) : Int).toNat ≤ t160.length from by omega); replace q47 := eq_true q47; obtain ⟨Ao48, co48, eo48⟩ := Kd.R_slice HO166.out; subst eo48) | (go_at_call 19; (with_reducible refine (foolscaphelp_Places.calls k2 _ _ t163 _ _ y168 true _ ?side1 ?side2 ?side3 ?side4 A40.out).mono ?_); (case side1 => repeat (first | exact (Kd.R_reads' HO166.out).2.2 | (with_reducible refine Kd.C_alloc ?_ _) | (with_reducible refine Kd.C_drewN ?_ _) | (with_reducible refine Kd.C_drew ?_))); (case side2 => exact (Kd.R_reads' HO166.out).2.1); (case side3 => repeat (first | exact (by repeat (first | (with_reducible exact HR171.out) | (with_reducible refine Kd.C_alloc ?_ _) | (with_reducible refine Kd.C_drewN ?_ _) | (with_reducible refine Kd.C_drew ?_) | exact HR171.out)) | (with_reducible refine Kd.C_alloc ?_ _) | (with_reducible refine Kd.C_drewN ?_ _) | (with_reducible refine Kd.C_drew ?_))); (case side4 => exact HC171.out); rintro e w' ⟨rfl, ⟨nd, rfl⟩⟩; (try first | exact ⟨rfl, _, World.drewN_drewN _ _ _⟩ | exact ⟨rfl, _, Eq.trans (World.drewN_drewN _ _ _) (congrArg (World.drewN _) (Nat.add_assoc _ _ _))⟩)))
                     repeat (go_quiet (first | (go_at_call 18; (with_reducible refine (find_All.calls _ _ l0 (rdOf ByteArray.empty y152 x56_2) _).mono ?_); rintro e wq2 ⟨Bp2, Bl2, rfl, bx, hb⟩; have BX2 := Aside0.mk bx; clear bx; have m0_ := Aside0.mk (Kd.R_below (by (with_reducible repeat (first | apply Kd.R_alloc | apply Kd.R_drewN | apply Kd.R_drew)); exact HO_54.out) hb); have m1_ := Aside0.mk (Kd.R_below (by (with_reducible repeat (first | apply Kd.R_alloc | apply Kd.R_drewN | apply Kd.R_drew)); exact HO159.out) hb); have m2_ := Aside0.mk (Kd.R_below (by (with_reducible repeat (first | apply Kd.R_alloc | apply Kd.R_drewN | apply Kd.R_drew)); exact HO162.out) hb); have m3_ := Aside0.mk (blk_below (pk BK150.out) hb); have m4_ := Aside0.mk (below_step (by repeat with_reducible first | exact HB.out | apply ba | apply bn | apply bd | refine bset ?_ (by assumption)) hb); clear HO_54; clear HO159; clear HO162; clear BK150; clear HB; have HO_54 := m0_; have HO159 := m1_; have HO162 := m2_; have BK150 := m3_; have HB := m4_; clear m0_ m1_ m2_ m3_ m4_; (try clear hb)) | (go_at_call 18; (with_reducible refine (find_All.calls _ _ l0 (rdOf ByteArray.empty y152 x56_2) _).mono ?_); rintro e wq1 ⟨Bp1, Bl1, rfl, bx, hb⟩; have BX1 := Aside0.mk bx; clear bx; have m0_ := Aside0.mk (Kd.R_below (by (with_reducible repeat (first | apply Kd.R_alloc | apply Kd.R_drewN | apply Kd.R_drew)); exact HO_54.out) hb); have m1_ := Aside0.mk (blk_below (pk BK150.out) hb); have m2_ := Aside0.mk (below_step (by repeat with_reducible first | exact HB.out | apply ba | apply bn | apply bd | refine bset ?_ (by assumption)) hb); clear HO_54; clear BK150; clear HB; have HO_54 := m0_; have BK150 := m1_; have HB := m2_; clear m0_ m1_ m2_; (try clear hb)) | (go_at_call 17; (with_reducible refine (foolscaplaw12_heard.calls Bp1 Bl1 _ _ l0 (rdOf ByteArray.empty y152 x56_2) 5000 t156 true _ BX1.out ?side1 ?side2 A31.out).mono ?_); clear BX1; (case side1 => repeat (first | exact (Kd.C_below HR0.out HB.out) | (with_reducible refine Kd.C_alloc ?_ _) | (with_reducible refine Kd.C_drewN ?_ _) | (with_reducible refine Kd.C_drew ?_))); (case side2 => exact HC0.out); rintro e w42 ⟨v158, rfl, ho0, hb⟩; have n0_ := Aside0.mk (Kd.R_below (by (with_reducible repeat (first | apply Kd.R_alloc | apply Kd.R_drewN | apply Kd.R_drew)); exact HO_54.out) hb); have n1_ := Aside0.mk (Kd.R_lower (Kd.R_newB ho0 (pk BK150.out)) (below_size (by repeat with_reducible first | exact HB.out | apply ba | apply bn | apply bd | refine bset ?_ (by assumption)))); have n2_ := Aside0.mk (blk_below (pk BK150.out) hb); have n3_ := Aside0.mk (below_step (by repeat with_reducible first | exact HB.out | apply ba | apply bn | apply bd | refine bset ?_ (by assumption)) hb); clear HO_54; clear BK150; clear HB; have HO_54 := n0_; have HO159 := n1_; have BK150 := n2_; have HB := n3_; clear n0_ n1_ n2_ n3_; (try clear hb); (try clear hb2); (try clear hk); (try clear hi); (try clear ho0)) | (go_at_call 11; (with_reducible refine (foolscapref5_All.calls k2 _ _ l0 (rdOf ByteArray.empty y152 x56_2) t160 _ ?side1 ?side2 A32.out).mono ?_); (case side1 => repeat (first | exact (Kd.C_below HR0.out HB.out) | (with_reducible refine Kd.C_alloc ?_ _) | (with_reducible refine Kd.C_drewN ?_ _) | (with_reducible refine Kd.C_drew ?_))); (case side2 => exact HC0.out); rintro e w43 ⟨v161, rfl, ho0, hb⟩; have n0_ := Aside0.mk (Kd.R_below (by (with_reducible repeat (first | apply Kd.R_alloc | apply Kd.R_drewN | apply Kd.R_drew)); exact HO_54.out) hb); have n1_ := Aside0.mk (Kd.R_elder' (by (with_reducible repeat (first | apply Kd.R_alloc | apply Kd.R_drewN | apply Kd.R_drew)); exact HO159.out) (Kd.R_base ho0) hb); have n2_ := Aside0.mk (Kd.R_lower (Kd.R_newB (Kd.R_new' ho0 (Kd.R_lt (by (with_reducible repeat (first | apply Kd.R_alloc | apply Kd.R_drewN | apply Kd.R_drew)); exact HO159.out))) (pk BK150.out)) (below_size (by repeat with_reducible first | exact HB.out | apply ba | apply bn | apply bd | refine bset ?_ (by assumption)))); have n3_ := Aside0.mk (blk_below (pk BK150.out) hb); have n4_ := Aside0.mk (below_step (by repeat with_reducible first | exact HB.out | apply ba | apply bn | apply bd | refine bset ?_ (by assumption)) hb); clear HO_54; clear HO159; clear BK150; clear HB; have HO_54 := n0_; have HO159 := n1_; have HO162 := n2_; have BK150 := n3_; have HB := n4_; clear n0_ n1_ n2_ n3_ n4_; (try clear hb); (try clear hb2); (try clear hk); (try clear hi); (try clear ho0)) | (go_at_call 17; (with_reducible refine (foolscaplaw12_heard.calls Bp2 Bl2 _ _ l0 (rdOf ByteArray.empty y152 x56_2) (wrap64 ((wrap64 (Int.tmod a5 9)) + 1)) t163 t164 _ BX2.out ?side1 ?side2 A33.out).mono ?_); clear BX2; (case side1 => repeat (first | exact (Kd.C_below HR0.out HB.out) | (with_reducible refine Kd.C_alloc ?_ _) | (with_reducible refine Kd.C_drewN ?_ _) | (with_reducible refine Kd.C_drew ?_))); (case side2 => exact HC0.out); rintro e w44 ⟨v165, rfl, ho0, hb⟩; have n0_ := Aside0.mk (Kd.R_below (by (with_reducible repeat (first | apply Kd.R_alloc | apply Kd.R_drewN | apply Kd.R_drew)); exact HO_54.out) hb); have n1_ := Aside0.mk (Kd.R_elder' (by (with_reducible repeat (first | apply Kd.R_alloc | apply Kd.R_drewN | apply Kd.R_drew)); exact HO159.out) (Kd.R_base ho0) hb); have n2_ := Aside0.mk (Kd.R_elder' (by (with_reducible repeat (first | apply Kd.R_alloc | apply Kd.R_drewN | apply Kd.R_drew)); exact HO162.out) (Kd.R_base ho0) hb); have n3_ := Aside0.mk (Kd.R_lower (Kd.R_newB (Kd.R_new' (Kd.R_new' ho0 (Kd.R_lt (by (with_reducible repeat (first | apply Kd.R_alloc | apply Kd.R_drewN | apply Kd.R_drew)); exact HO159.out))) (Kd.R_lt (by (with_reducible repeat (first | apply Kd.R_alloc | apply Kd.R_drewN | apply Kd.R_drew)); exact HO162.out))) (pk BK150.out)) (below_size (by repeat with_reducible first | exact HB.out | apply ba | apply bn | apply bd | refine bset ?_ (by assumption)))); have n4_ := Aside0.mk (blk_below (pk BK150.out) hb); have n5_ := Aside0.mk (below_step (by repeat with_reducible first | exact HB.out | apply ba | apply bn | apply bd | refine bset ?_ (by assumption)) hb); clear HO_54; clear HO159; clear HO162; clear BK150; clear HB; have HO_54 := n0_; have HO159 := n1_; have HO162 := n2_; have HO166 := n3_; have BK150 := n4_; have HB := n5_; clear n0_ n1_ n2_ n3_ n4_ n5_; (try clear hb); (try clear hb2); (try clear hk); (try clear hi); (try clear ho0); obtain ⟨Ao45, co45, eo45⟩ := Kd.R_slice HO159.out; subst eo45; obtain ⟨Ao46, co46, eo46⟩ := Kd.R_slice HO162.out; subst eo46) | (go_at_call 19; (with_reducible refine (foolscaphelp_Places.calls k2 _ _ t156 _ _ t160 true _ ?side1 ?side2 ?side3 ?side4 A35.out).mono ?_); (case side1 => repeat (first | exact (Kd.R_reads' HO159.out).2.2 | (with_reducible refine Kd.C_alloc ?_ _) | (with_reducible refine Kd.C_drewN ?_ _) | (with_reducible refine Kd.C_drew ?_))); (case side2 => exact (Kd.R_reads' HO159.out).2.1); (case side3 => repeat (first | exact (Kd.R_reads' HO162.out).2.2 | (with_reducible refine Kd.C_alloc ?_ _) | (with_reducible refine Kd.C_drewN ?_ _) | (with_reducible refine Kd.C_drew ?_))); (case side4 => exact (Kd.R_reads' HO162.out).2.1); rintro e w' ⟨rfl, ⟨nd, rfl⟩⟩; (try first | exact ⟨rfl, _, World.drewN_drewN _ _ _⟩ | exact ⟨rfl, _, Eq.trans (World.drewN_drewN _ _ _) (congrArg (World.drewN _) (Nat.add_assoc _ _ _))⟩); have q47 : ((ji37) : Int) ≤ ((t160.length : Int) : Int) := of_decide_eq_true (by first | (with_reducible assumption) | assumption); obtain ⟨i047, hi047, _, hsz47, _⟩ := info_parts info28; have hroom47 : t160.length ≤ co46 := (Kd.R_reads' HO162.out).2.1; have hC47 : Kd.C k28 _ Ao46 t160.length t160 := (Kd.R_reads' HO162.out).2.2; have hcut47 := cut_to (P := Try.prog) 25 28 .i64 Try.underlying25 hi047 Ao46 t160.length co46 (ji37) (of_decide_eq_true (by first | (with_reducible assumption) | assumption)) q47 hroom47; have hr47 := Kd.C_take (m := ((ji37) : Int).toNat) hC47 (by omega); have hy47 : y168.length = ((ji37) : Int).toNat := (by rw [Ny168.out, List.length_take]; omega); rw [← Ny168.out] at hr47; rw [← hy47] at hcut47; have HR171 := Aside0.mk hr47; have HC171 := Aside0.mk (show y168.length ≤ co46 from by omega); clear hr47 hC47 hroom47 hi047 hsz47; have KY47 := Aside0.mk hy47; clear hy47; have KL47 := Aside0.mk (show ((ji37) : Int).toNat ≤ t160.length from by omega); replace q47 := eq_true q47; obtain ⟨Ao48, co48, eo48⟩ := Kd.R_slice HO166.out; subst eo48) | (go_at_call 19; (with_reducible refine (foolscaphelp_Places.calls k2 _ _ t163 _ _ y168 true _ ?side1 ?side2 ?side3 ?side4 A40.out).mono ?_); (case side1 => repeat (first | exact (Kd.R_reads' HO166.out).2.2 | (with_reducible refine Kd.C_alloc ?_ _) | (with_reducible refine Kd.C_drewN ?_ _) | (with_reducible refine Kd.C_drew ?_))); (case side2 => exact (Kd.R_reads' HO166.out).2.1); (case side3 => repeat (first | exact (by repeat (first | (with_reducible exact HR171.out) | (with_reducible refine Kd.C_alloc ?_ _) | (with_reducible refine Kd.C_drewN ?_ _) | (with_reducible refine Kd.C_drew ?_) | exact HR171.out)) | (with_reducible refine Kd.C_alloc ?_ _) | (with_reducible refine Kd.C_drewN ?_ _) | (with_reducible refine Kd.C_drew ?_))); (case side4 => exact HC171.out); rintro e w' ⟨rfl, ⟨nd, rfl⟩⟩; (try first | exact ⟨rfl, _, World.drewN_drewN _ _ _⟩ | exact ⟨rfl, _, Eq.trans (World.drewN_drewN _ _ _) (congrArg (World.drewN _) (Nat.add_assoc _ _ _))⟩))); try go_wp2_with (first | (go_at_call 18; (with_reducible refine (find_All.calls _ _ l0 (rdOf ByteArray.empty y152 x56_2) _).mono ?_); rintro e wq2 ⟨Bp2, Bl2, rfl, bx, hb⟩; have BX2 := Aside0.mk bx; clear bx; have m0_ := Aside0.mk (Kd.R_below (by (with_reducible repeat (first | apply Kd.R_alloc | apply Kd.R_drewN | apply Kd.R_drew)); exact HO_54.out) hb); have m1_ := Aside0.mk (Kd.R_below (by (with_reducible repeat (first | apply Kd.R_alloc | apply Kd.R_drewN | apply Kd.R_drew)); exact HO159.out) hb); have m2_ := Aside0.mk (Kd.R_below (by (with_reducible repeat (first | apply Kd.R_alloc | apply Kd.R_drewN | apply Kd.R_drew)); exact HO162.out) hb); have m3_ := Aside0.mk (blk_below (pk BK150.out) hb); have m4_ := Aside0.mk (below_step (by repeat with_reducible first | exact HB.out | apply ba | apply bn | apply bd | refine bset ?_ (by assumption)) hb); clear HO_54; clear HO159; clear HO162; clear BK150; clear HB; have HO_54 := m0_; have HO159 := m1_; have HO162 := m2_; have BK150 := m3_; have HB := m4_; clear m0_ m1_ m2_ m3_ m4_; (try clear hb)) | (go_at_call 18; (with_reducible refine (find_All.calls _ _ l0 (rdOf ByteArray.empty y152 x56_2) _).mono ?_); rintro e wq1 ⟨Bp1, Bl1, rfl, bx, hb⟩; have BX1 := Aside0.mk bx; clear bx; have m0_ := Aside0.mk (Kd.R_below (by (with_reducible repeat (first | apply Kd.R_alloc | apply Kd.R_drewN | apply Kd.R_drew)); exact HO_54.out) hb); have m1_ := Aside0.mk (blk_below (pk BK150.out) hb); have m2_ := Aside0.mk (below_step (by repeat with_reducible first | exact HB.out | apply ba | apply bn | apply bd | refine bset ?_ (by assumption)) hb); clear HO_54; clear BK150; clear HB; have HO_54 := m0_; have BK150 := m1_; have HB := m2_; clear m0_ m1_ m2_; (try clear hb)) | (go_at_call 17; (with_reducible refine (foolscaplaw12_heard.calls Bp1 Bl1 _ _ l0 (rdOf ByteArray.empty y152 x56_2) 5000 t156 true _ BX1.out ?side1 ?side2 A31.out).mono ?_); clear BX1; (case side1 => repeat (first | exact (Kd.C_below HR0.out HB.out) | (with_reducible refine Kd.C_alloc ?_ _) | (with_reducible refine Kd.C_drewN ?_ _) | (with_reducible refine Kd.C_drew ?_))); (case side2 => exact HC0.out); rintro e w42 ⟨v158, rfl, ho0, hb⟩; have n0_ := Aside0.mk (Kd.R_below (by (with_reducible repeat (first | apply Kd.R_alloc | apply Kd.R_drewN | apply Kd.R_drew)); exact HO_54.out) hb); have n1_ := Aside0.mk (Kd.R_lower (Kd.R_newB ho0 (pk BK150.out)) (below_size (by repeat with_reducible first | exact HB.out | apply ba | apply bn | apply bd | refine bset ?_ (by assumption)))); have n2_ := Aside0.mk (blk_below (pk BK150.out) hb); have n3_ := Aside0.mk (below_step (by repeat with_reducible first | exact HB.out | apply ba | apply bn | apply bd | refine bset ?_ (by assumption)) hb); clear HO_54; clear BK150; clear HB; have HO_54 := n0_; have HO159 := n1_; have BK150 := n2_; have HB := n3_; clear n0_ n1_ n2_ n3_; (try clear hb); (try clear hb2); (try clear hk); (try clear hi); (try clear ho0)) | (go_at_call 11; (with_reducible refine (foolscapref5_All.calls k2 _ _ l0 (rdOf ByteArray.empty y152 x56_2) t160 _ ?side1 ?side2 A32.out).mono ?_); (case side1 => repeat (first | exact (Kd.C_below HR0.out HB.out) | (with_reducible refine Kd.C_alloc ?_ _) | (with_reducible refine Kd.C_drewN ?_ _) | (with_reducible refine Kd.C_drew ?_))); (case side2 => exact HC0.out); rintro e w43 ⟨v161, rfl, ho0, hb⟩; have n0_ := Aside0.mk (Kd.R_below (by (with_reducible repeat (first | apply Kd.R_alloc | apply Kd.R_drewN | apply Kd.R_drew)); exact HO_54.out) hb); have n1_ := Aside0.mk (Kd.R_elder' (by (with_reducible repeat (first | apply Kd.R_alloc | apply Kd.R_drewN | apply Kd.R_drew)); exact HO159.out) (Kd.R_base ho0) hb); have n2_ := Aside0.mk (Kd.R_lower (Kd.R_newB (Kd.R_new' ho0 (Kd.R_lt (by (with_reducible repeat (first | apply Kd.R_alloc | apply Kd.R_drewN | apply Kd.R_drew)); exact HO159.out))) (pk BK150.out)) (below_size (by repeat with_reducible first | exact HB.out | apply ba | apply bn | apply bd | refine bset ?_ (by assumption)))); have n3_ := Aside0.mk (blk_below (pk BK150.out) hb); have n4_ := Aside0.mk (below_step (by repeat with_reducible first | exact HB.out | apply ba | apply bn | apply bd | refine bset ?_ (by assumption)) hb); clear HO_54; clear HO159; clear BK150; clear HB; have HO_54 := n0_; have HO159 := n1_; have HO162 := n2_; have BK150 := n3_; have HB := n4_; clear n0_ n1_ n2_ n3_ n4_; (try clear hb); (try clear hb2); (try clear hk); (try clear hi); (try clear ho0)) | (go_at_call 17; (with_reducible refine (foolscaplaw12_heard.calls Bp2 Bl2 _ _ l0 (rdOf ByteArray.empty y152 x56_2) (wrap64 ((wrap64 (Int.tmod a5 9)) + 1)) t163 t164 _ BX2.out ?side1 ?side2 A33.out).mono ?_); clear BX2; (case side1 => repeat (first | exact (Kd.C_below HR0.out HB.out) | (with_reducible refine Kd.C_alloc ?_ _) | (with_reducible refine Kd.C_drewN ?_ _) | (with_reducible refine Kd.C_drew ?_))); (case side2 => exact HC0.out); rintro e w44 ⟨v165, rfl, ho0, hb⟩; have n0_ := Aside0.mk (Kd.R_below (by (with_reducible repeat (first | apply Kd.R_alloc | apply Kd.R_drewN | apply Kd.R_drew)); exact HO_54.out) hb); have n1_ := Aside0.mk (Kd.R_elder' (by (with_reducible repeat (first | apply Kd.R_alloc | apply Kd.R_drewN | apply Kd.R_drew)); exact HO159.out) (Kd.R_base ho0) hb); have n2_ := Aside0.mk (Kd.R_elder' (by (with_reducible repeat (first | apply Kd.R_alloc | apply Kd.R_drewN | apply Kd.R_drew)); exact HO162.out) (Kd.R_base ho0) hb); have n3_ := Aside0.mk (Kd.R_lower (Kd.R_newB (Kd.R_new' (Kd.R_new' ho0 (Kd.R_lt (by (with_reducible repeat (first | apply Kd.R_alloc | apply Kd.R_drewN | apply Kd.R_drew)); exact HO159.out))) (Kd.R_lt (by (with_reducible repeat (first | apply Kd.R_alloc | apply Kd.R_drewN | apply Kd.R_drew)); exact HO162.out))) (pk BK150.out)) (below_size (by repeat with_reducible first | exact HB.out | apply ba | apply bn | apply bd | refine bset ?_ (by assumption)))); have n4_ := Aside0.mk (blk_below (pk BK150.out) hb); have n5_ := Aside0.mk (below_step (by repeat with_reducible first | exact HB.out | apply ba | apply bn | apply bd | refine bset ?_ (by assumption)) hb); clear HO_54; clear HO159; clear HO162; clear BK150; clear HB; have HO_54 := n0_; have HO159 := n1_; have HO162 := n2_; have HO166 := n3_; have BK150 := n4_; have HB := n5_; clear n0_ n1_ n2_ n3_ n4_ n5_; (try clear hb); (try clear hb2); (try clear hk); (try clear hi); (try clear ho0); obtain ⟨Ao45, co45, eo45⟩ := Kd.R_slice HO159.out; subst eo45; obtain ⟨Ao46, co46, eo46⟩ := Kd.R_slice HO162.out; subst eo46) | (go_at_call 19; (with_reducible refine (foolscaphelp_Places.calls k2 _ _ t156 _ _ t160 true _ ?side1 ?side2 ?side3 ?side4 A35.out).mono ?_); (case side1 => repeat (first | exact (Kd.R_reads' HO159.out).2.2 | (with_reducible refine Kd.C_alloc ?_ _) | (with_reducible refine Kd.C_drewN ?_ _) | (with_reducible refine Kd.C_drew ?_))); (case side2 => exact (Kd.R_reads' HO159.out).2.1); (case side3 => repeat (first | exact (Kd.R_reads' HO162.out).2.2 | (with_reducible refine Kd.C_alloc ?_ _) | (with_reducible refine Kd.C_drewN ?_ _) | (with_reducible refine Kd.C_drew ?_))); (case side4 => exact (Kd.R_reads' HO162.out).2.1); rintro e w' ⟨rfl, ⟨nd, rfl⟩⟩; (try first | exact ⟨rfl, _, World.drewN_drewN _ _ _⟩ | exact ⟨rfl, _, Eq.trans (World.drewN_drewN _ _ _) (congrArg (World.drewN _) (Nat.add_assoc _ _ _))⟩); have q47 : ((ji37) : Int) ≤ ((t160.length : Int) : Int) := of_decide_eq_true (by first | (with_reducible assumption) | assumption); obtain ⟨i047, hi047, _, hsz47, _⟩ := info_parts info28; have hroom47 : t160.length ≤ co46 := (Kd.R_reads' HO162.out).2.1; have hC47 : Kd.C k28 _ Ao46 t160.length t160 := (Kd.R_reads' HO162.out).2.2; have hcut47 := cut_to (P := Try.prog) 25 28 .i64 Try.underlying25 hi047 Ao46 t160.length co46 (ji37) (of_decide_eq_true (by first | (with_reducible assumption) | assumption)) q47 hroom47; have hr47 := Kd.C_take (m := ((ji37) : Int).toNat) hC47 (by omega); have hy47 : y168.length = ((ji37) : Int).toNat := (by rw [Ny168.out, List.length_take]; omega); rw [← Ny168.out] at hr47; rw [← hy47] at hcut47; have HR171 := Aside0.mk hr47; have HC171 := Aside0.mk (show y168.length ≤ co46 from by omega); clear hr47 hC47 hroom47 hi047 hsz47; have KY47 := Aside0.mk hy47; clear hy47; have KL47 := Aside0.mk (show ((ji37) : Int).toNat ≤ t160.length from by omega); replace q47 := eq_true q47; obtain ⟨Ao48, co48, eo48⟩ := Kd.R_slice HO166.out; subst eo48) | (go_at_call 19; (with_reducible refine (foolscaphelp_Places.calls k2 _ _ t163 _ _ y168 true _ ?side1 ?side2 ?side3 ?side4 A40.out).mono ?_); (case side1 => repeat (first | exact (Kd.R_reads' HO166.out).2.2 | (with_reducible refine Kd.C_alloc ?_ _) | (with_reducible refine Kd.C_drewN ?_ _) | (with_reducible refine Kd.C_drew ?_))); (case side2 => exact (Kd.R_reads' HO166.out).2.1); (case side3 => repeat (first | exact (by repeat (first | (with_reducible exact HR171.out) | (with_reducible refine Kd.C_alloc ?_ _) | (with_reducible refine Kd.C_drewN ?_ _) | (with_reducible refine Kd.C_drew ?_) | exact HR171.out)) | (with_reducible refine Kd.C_alloc ?_ _) | (with_reducible refine Kd.C_drewN ?_ _) | (with_reducible refine Kd.C_drew ?_))); (case side4 => exact HC171.out); rintro e w' ⟨rfl, ⟨nd, rfl⟩⟩; (try first | exact ⟨rfl, _, World.drewN_drewN _ _ _⟩ | exact ⟨rfl, _, Eq.trans (World.drewN_drewN _ _ _) (congrArg (World.drewN _) (Nat.add_assoc _ _ _))⟩))))
                     go_roundg k2
                     case measure => have := HJ8.out; have := HK2.out; omega
                     case rel => exact ⟨(wrap64 (x56_2 + 1)), (by first | rfl | (simp; done) | (simp [*]; done)), H', ⟨by have := HJ8.out; have := HK2.out; omega⟩, ⟨by (with_reducible repeat (first | apply Kd.R_alloc | apply Kd.R_drewN | apply Kd.R_drew)); exact HO_54.out⟩, ⟨by exact pk BK150.out⟩, ⟨by repeat with_reducible first | exact HB.out | apply ba | apply bn | apply bd | refine bset ?_ (by assumption)⟩⟩
                    ·replace c41 := Bool.eq_false_iff.mpr c41
                     subst c41
                     have H1 : (some false) = some r := by rw [if_neg (show ¬ (false = true) by decide)] at H; exact H
                     clear H
                     have H := H1
                     clear H1
                     exact absurd ((Option.some.inj H).trans HRT.out) (by decide)
                   ·rw [if_neg c39] at H
                    exact absurd H (by simp)
                  ·rw [if_neg c38] at H
                   exact absurd H (by simp)
                 ·replace c36 := Bool.eq_false_iff.mpr c36
                  subst c36
                  have H1 : (some false) = some r := by rw [if_neg (show ¬ (false = true) by decide)] at H; exact H
                  clear H
                  have H := H1
                  clear H1
                  exact absurd ((Option.some.inj H).trans HRT.out) (by decide)
                ·replace c34 := Bool.eq_false_iff.mpr c34
                 subst c34
                 have H1 : (some false) = some r := by rw [if_neg (show ¬ (false = true) by decide)] at H; exact H
                 clear H
                 have H := H1
                 clear H1
                 exact absurd ((Option.some.inj H).trans HRT.out) (by decide)
               ·rw [if_neg c30] at H
                exact absurd H (by simp)
              ·rw [if_neg c29] at H
               exact absurd H (by simp)
             ·rw [if_neg c28] at H
              have c28b0 : decide (x56_2 < (y152.length : Int)) = false := decide_eq_false c28
              clear c28
              obtain rfl := Option.some.inj H
              go_wp2
              repeat (go_quiet (fail); try go_wp2)
              go_ret
              exact ⟨by first | rfl | (simp [errW_none, errW_some] <;> rfl) | (simp only [← hji19]; first | rfl | (simp [errW_none, errW_some] <;> rfl)) | (simp [*, errW_none, errW_some] <;> rfl), by repeat with_reducible first | exact HB.out | apply ba | apply bn | apply bd | refine bset ?_ (by assumption)⟩
          ·rw [if_neg c21] at H
           exact absurd H (by simp)
         ·rw [if_neg c20] at H
          exact absurd H (by simp)
        ·rw [if_neg c18] at H
         exact absurd H (by simp)
       ·rw [if_neg c17] at H
        exact absurd H (by simp)
      ·rw [if_neg c16] at H
       exact absurd H (by simp)
     ·rw [if_neg c15] at H
      exact absurd H (by simp)
 ·replace c8 := Bool.eq_false_iff.mpr c8
  subst c8
  have H1 : (some false) = some r := by rw [if_neg (show ¬ (false = true) by decide)] at H; exact H
  clear H
  have H := H1
  clear H1
  exact absurd ((Option.some.inj H).trans HRT.out) (by decide)
end Go.Proofs.Ytbfoflhfmhfofaa.MFindAll
