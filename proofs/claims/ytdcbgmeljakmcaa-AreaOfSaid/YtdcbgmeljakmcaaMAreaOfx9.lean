/- What the Go functions of this law compute, and that they do: written by this session's own program (wip/myprint), for all inputs that the print's conditions name. -/
import Derived.Test.YtdcbgmeljakmcaaMAreaOfx0
import Derived.Test.YtdcbgmeljakmcaaMAreaOfx6
namespace Go.Proofs.Ytdcbgmeljakmcaa.MAreaOf
open Go.RowKit Go.Proofs.YtdcbgmeljakmcaaW.PrintWords Go.Proofs.YtdcbgmeljakmcaaW.PrintLast Go.Proofs.Ytdcbgmeljakmcaa.Few
attribute [local go_sem] max2_int min2_int max_two min_two
set_option linter.unusedVariables false
set_option linter.unusedSimpArgs false

/-! ### foolscapref5_Valid: function 29 -/
def foolscapref5_Valid.j0 : Nat → List ByteArray → Bool → Int → Int → Int → Int → Int → Option (Bool)
 | 0, _, _, _, _, _, _, _ => none
 | k + 1, x0, x25, x215000, x215001, x215002, x215003, x215004 => if x25 = true then (some false) else (if x215000 = 0 then ((foolscapref5_Place.f x0 x215001 x215002).bind fun t215 => (if t215 = true then ((foolscapref5_Place.f x0 x215003 x215004).bind fun t216 => (if t216 = true then ((foolscapref5_Less.f x215003 x215004 x215001 x215002).bind fun t217 => (some (!t217))) else (some false))) else (some false))) else (if x215000 = 1 then (some true) else (if x215000 = 2 then (if x215002 ≥ 0 then (some (decide (x215002 ≤ x215004))) else (some false)) else (some false))))
def foolscapref5_Valid.f (k : Nat) (l0 : List ByteArray) (a1_0 : Int) (a1_1 : Int) (a1_2 : Int) (a1_3 : Int) (a1_4 : Int) : Option (Bool) := if a1_1 < 0 then (foolscapref5_Valid.j0 k l0 true a1_0 a1_1 a1_2 a1_3 a1_4) else (if a1_3 ≥ (l0.length : Int) then (foolscapref5_Valid.j0 k l0 true a1_0 a1_1 a1_2 a1_3 a1_4) else (foolscapref5_Valid.j0 k l0 (decide (a1_1 > a1_3)) a1_0 a1_1 a1_2 a1_3 a1_4))
theorem foolscapref5_Valid.mono_l : ∀ k, (∀ y0 y1 y2 y3 y4 y5 y6, LeO (foolscapref5_Valid.j0 k y0 y1 y2 y3 y4 y5 y6) (foolscapref5_Valid.j0 (k + 1) y0 y1 y2 y3 y4 y5 y6))
 | 0 => fun _ _ _ _ _ _ _ r h => by simp [foolscapref5_Valid.j0] at h
 | k + 1 => by
  have ih0 := foolscapref5_Valid.mono_l k
  ·intro y0 y1 y2 y3 y4 y5 y6
   unfold foolscapref5_Valid.j0
   repeat' first
   | (with_reducible exact ih0 _ _ _ _ _ _ _)
   | (with_reducible exact LeO.refl _)
   | (with_reducible exact LeO.none _)
   | (with_reducible refine LeO.ite ?_ ?_)
   | (with_reducible refine LeO.bind ?_ (fun _ => ?_))
   | exact ih0 _ _ _ _ _ _ _
   | exact LeO.none _
   | refine LeO.ite ?_ ?_
   | refine LeO.bind ?_ (fun _ => ?_)
theorem foolscapref5_Valid.mono : ∀ a0 a1 a2 a3 a4 a5 k, LeO (foolscapref5_Valid.f k a0 a1 a2 a3 a4 a5) (foolscapref5_Valid.f (k + 1) a0 a1 a2 a3 a4 a5) := by
 intro a0 a1 a2 a3 a4 a5 k
 have ih0 := foolscapref5_Valid.mono_l k
 unfold foolscapref5_Valid.f
 repeat' first
   | (with_reducible exact ih0 _ _ _ _ _ _ _)
   | (with_reducible exact LeO.refl _)
   | (with_reducible exact LeO.none _)
   | (with_reducible refine LeO.ite ?_ ?_)
   | (with_reducible refine LeO.bind ?_ (fun _ => ?_))
   | exact ih0 _ _ _ _ _ _ _
   | exact LeO.none _
   | refine LeO.ite ?_ ?_
   | refine LeO.bind ?_ (fun _ => ?_)
set_option maxHeartbeats 8000000 in
set_option maxRecDepth 100000 in
theorem foolscapref5_Valid.calls (k : Nat) (A0 : Option Addr) (c0 : Nat) (l0 : List ByteArray) (a1_0 : Int) (a1_1 : Int) (a1_2 : Int) (a1_3 : Int) (a1_4 : Int) (r : Bool) (w : World) (hr0 : Kd.C Kd.string w A0 l0.length l0) (hc0 : l0.length ≤ c0) (h : foolscapref5_Valid.f k l0 a1_0 a1_1 a1_2 a1_3 a1_4 = some r) :
  Calls Try.prog 29 #[.slice A0 l0.length c0, .agg #[.int .i64 a1_0, .int .i64 a1_1, .int .i64 a1_2, .int .i64 a1_3, .int .i64 a1_4]] w fun e w' => e = .returned (.bool r) ∧ Below w.heap.size w w' := by
 have hu43 := Try.underlying43
 have hu28 := Try.underlying28
 have HR0 := Aside0.mk hr0
 have HC0 := Aside0.mk hc0
 clear hr0 hc0
 have HB := Aside0.mk (Below.refl w.heap.size w)
 have H : (if a1_1 < 0 then (foolscapref5_Valid.j0 k l0 true a1_0 a1_1 a1_2 a1_3 a1_4) else (if a1_3 ≥ (l0.length : Int) then (foolscapref5_Valid.j0 k l0 true a1_0 a1_1 a1_2 a1_3 a1_4) else (foolscapref5_Valid.j0 k l0 (decide (a1_1 > a1_3)) a1_0 a1_1 a1_2 a1_3 a1_4))) = some r := h
 clear h
 have HC3 := Aside0.mk H
 clear H
 go_enter Try.func29, Try.ntmps29
 go_upto_region 1 with (first | ((with_reducible refine gate_dst (N := 3) rfl ?_); (try (refine gate_guard (by rfl) ?_; dsimp only)); refine box_event ?hg (N := 3) ?hd (cs := #[.int .i64 a1_0, .int .i64 a1_1, .int .i64 a1_2, .int .i64 a1_3, .int .i64 a1_4]) (t := 43) ?hr ?_; (case hd => rfl); (case hg => rfl); (case hr => first | (go_simp; done) | (go_simp; rfl)); intro gb214 hg w4 hbox hb; have n0_ := Aside0.mk (below_step (by repeat with_reducible first | exact HB.out | apply ba | apply bn | apply bd) hb); have n1_ := Aside0.mk (hbox); have n2_ := Aside0.mk ((by rw [hg]; exact (below_size (by repeat with_reducible first | exact HB.out | apply ba | apply bn | apply bd)) : w.heap.size ≤ gb214)); have n3_ := n2_; clear HB; have HB := n0_; have BK214 := n1_; have GW214 := n2_; have GE214 := n3_; clear n0_ n1_ n2_ n3_; clear hb hbox hg))
 (try simp only [Act.put, List.setIfInBounds_toArray, List.set_cons_zero, List.set_cons_succ])
 go_cut [25] (fun v25 wc => ∃ (kq : Nat) (x25_2 : Bool), v25 = .bool x25_2 ∧ Aside0 (foolscapref5_Valid.j0 kq l0 x25_2 a1_0 a1_1 a1_2 a1_3 a1_4 = some r) ∧ Aside0 (kq ≤ k) ∧ Aside0 (wc.heap[gb214]? = some (.cells #[.int .i64 a1_0, .int .i64 a1_1, .int .i64 a1_2, .int .i64 a1_3, .int .i64 a1_4] 43 (0, 0))) ∧ Aside0 (Below w.heap.size w wc))
 case first =>
  have H := HC3.out
  clear HC3
  by_cases c5 : a1_1 < 0
  ·rw [if_pos c5] at H
   have c5b0 : decide (a1_1 < 0) = true := decide_eq_true c5
   clear c5
   (first | rw [c5b0] | (simp only [i64_w, i32_w]; rw [c5b0]) | skip)
   have H' := Aside0.mk H
   clear H
   have hcz6_0 : w4.cell? ⟨gb214, 0, none⟩ = some (.int .i64 a1_0) := (blk_cell BK214.out 0).trans rfl
   have hcz6_1 : w4.cell? ⟨gb214, 1, none⟩ = some (.int .i64 a1_1) := (blk_cell BK214.out 1).trans rfl
   have hcz6_2 : w4.cell? ⟨gb214, 2, none⟩ = some (.int .i64 a1_2) := (blk_cell BK214.out 2).trans rfl
   have hcz6_3 : w4.cell? ⟨gb214, 3, none⟩ = some (.int .i64 a1_3) := (blk_cell BK214.out 3).trans rfl
   have hcz6_4 : w4.cell? ⟨gb214, 4, none⟩ = some (.int .i64 a1_4) := (blk_cell BK214.out 4).trans rfl
   have hfz6_0 := blk_frozen BK214.out 0
   have hfz6_1 := blk_frozen BK214.out 1
   have hfz6_2 := blk_frozen BK214.out 2
   have hfz6_3 := blk_frozen BK214.out 3
   have hfz6_4 := blk_frozen BK214.out 4
   go_wp2
   go_meet
   case rel => exact ⟨_, (true), (by first | rfl | (simp; done) | (simp [*]; done)), H', ⟨by first | omega | exact Nat.le_refl _⟩, ⟨by exact pk BK214.out⟩, ⟨by repeat with_reducible first | exact HB.out | apply ba | apply bn | apply bd | refine bset ?_ (by assumption)⟩⟩
  ·rw [if_neg c5] at H
   have c5b0 : decide (a1_1 < 0) = false := decide_eq_false c5
   clear c5
   (first | rw [c5b0] | (simp only [i64_w, i32_w]; rw [c5b0]) | skip)
   by_cases c7 : a1_3 ≥ (l0.length : Int)
   ·rw [if_pos c7] at H
    have c7b0 : decide ((l0.length : Int) ≤ a1_3) = true := decide_eq_true c7
    clear c7
    have H' := Aside0.mk H
    clear H
    have hcz8_0 : w4.cell? ⟨gb214, 0, none⟩ = some (.int .i64 a1_0) := (blk_cell BK214.out 0).trans rfl
    have hcz8_1 : w4.cell? ⟨gb214, 1, none⟩ = some (.int .i64 a1_1) := (blk_cell BK214.out 1).trans rfl
    have hcz8_2 : w4.cell? ⟨gb214, 2, none⟩ = some (.int .i64 a1_2) := (blk_cell BK214.out 2).trans rfl
    have hcz8_3 : w4.cell? ⟨gb214, 3, none⟩ = some (.int .i64 a1_3) := (blk_cell BK214.out 3).trans rfl
    have hcz8_4 : w4.cell? ⟨gb214, 4, none⟩ = some (.int .i64 a1_4) := (blk_cell BK214.out 4).trans rfl
    have hfz8_0 := blk_frozen BK214.out 0
    have hfz8_1 := blk_frozen BK214.out 1
    have hfz8_2 := blk_frozen BK214.out 2
    have hfz8_3 := blk_frozen BK214.out 3
    have hfz8_4 := blk_frozen BK214.out 4
    go_wp2
    go_meet
    case rel => exact ⟨_, (true), (by first | rfl | (simp; done) | (simp [*]; done)), H', ⟨by first | omega | exact Nat.le_refl _⟩, ⟨by exact pk BK214.out⟩, ⟨by repeat with_reducible first | exact HB.out | apply ba | apply bn | apply bd | refine bset ?_ (by assumption)⟩⟩
   ·rw [if_neg c7] at H
    have c7b0 : decide ((l0.length : Int) ≤ a1_3) = false := decide_eq_false c7
    clear c7
    have H' := Aside0.mk H
    clear H
    have hcz9_0 : w4.cell? ⟨gb214, 0, none⟩ = some (.int .i64 a1_0) := (blk_cell BK214.out 0).trans rfl
    have hcz9_1 : w4.cell? ⟨gb214, 1, none⟩ = some (.int .i64 a1_1) := (blk_cell BK214.out 1).trans rfl
    have hcz9_2 : w4.cell? ⟨gb214, 2, none⟩ = some (.int .i64 a1_2) := (blk_cell BK214.out 2).trans rfl
    have hcz9_3 : w4.cell? ⟨gb214, 3, none⟩ = some (.int .i64 a1_3) := (blk_cell BK214.out 3).trans rfl
    have hcz9_4 : w4.cell? ⟨gb214, 4, none⟩ = some (.int .i64 a1_4) := (blk_cell BK214.out 4).trans rfl
    have hfz9_0 := blk_frozen BK214.out 0
    have hfz9_1 := blk_frozen BK214.out 1
    have hfz9_2 := blk_frozen BK214.out 2
    have hfz9_3 := blk_frozen BK214.out 3
    have hfz9_4 := blk_frozen BK214.out 4
    go_wp2
    go_meet
    case rel => exact ⟨_, (decide (a1_1 > a1_3)), (by first | rfl | (simp; done) | (simp [*]; done)), H', ⟨by first | omega | exact Nat.le_refl _⟩, ⟨by exact pk BK214.out⟩, ⟨by repeat with_reducible first | exact HB.out | apply ba | apply bn | apply bd | refine bset ?_ (by assumption)⟩⟩
 case rest =>
  clear HC3
  try clear c2
  try clear p2
  try clear c5
  try clear c5b0
  try clear c7
  try clear c7b0
  try clear hcz6_0
  try clear hcz6_1
  try clear hcz6_2
  try clear hcz6_3
  try clear hcz6_4
  try clear hcz8_0
  try clear hcz8_1
  try clear hcz8_2
  try clear hcz8_3
  try clear hcz8_4
  try clear hcz9_0
  try clear hcz9_1
  try clear hcz9_2
  try clear hcz9_3
  try clear hcz9_4
  try clear hfz6_0
  try clear hfz6_1
  try clear hfz6_2
  try clear hfz6_3
  try clear hfz6_4
  try clear hfz8_0
  try clear hfz8_1
  try clear hfz8_2
  try clear hfz8_3
  try clear hfz8_4
  try clear hfz9_0
  try clear hfz9_1
  try clear hfz9_2
  try clear hfz9_3
  try clear hfz9_4
  obtain ⟨kq, x25_2, rfl, HA, HJ2, BK214, HB⟩ := hcut
  cases kq with
  | zero => exact absurd HA.out (by simp [foolscapref5_Valid.j0])
  | succ kj2 =>
   have H := HA.out
   clear HA
   simp only [foolscapref5_Valid.j0] at H
   by_cases c10 : x25_2 = true
   ·subst c10
    have H1 : (some false) = some r := by rw [if_pos rfl] at H; exact H
    clear H
    have H := H1
    clear H1
    obtain rfl := Option.some.inj H
    go_wp2
    go_ret
    exact ⟨by first | rfl | (simp [errW_none, errW_some] <;> rfl) | (simp [*, errW_none, errW_some] <;> rfl), by repeat with_reducible first | exact HB.out | apply ba | apply bn | apply bd | refine bset ?_ (by assumption)⟩
   ·replace c10 := Bool.eq_false_iff.mpr c10
    subst c10
    have H1 : (if a1_0 = 0 then ((foolscapref5_Place.f l0 a1_1 a1_2).bind fun t215 => (if t215 = true then ((foolscapref5_Place.f l0 a1_3 a1_4).bind fun t216 => (if t216 = true then ((foolscapref5_Less.f a1_3 a1_4 a1_1 a1_2).bind fun t217 => (some (!t217))) else (some false))) else (some false))) else (if a1_0 = 1 then (some true) else (if a1_0 = 2 then (if a1_2 ≥ 0 then (some (decide (a1_2 ≤ a1_4))) else (some false)) else (some false)))) = some r := by rw [if_neg (show ¬ (false = true) by decide)] at H; exact H
    clear H
    have H := H1
    clear H1
    by_cases c11 : a1_0 = 0
    ·rw [if_pos c11] at H
     have c11b0 : (a1_0 == 0) = true := beq_iff_eq.mpr c11
     have c11b1 : (a1_0 != 0) = false := bne_eq_false_iff_eq.mpr c11
     clear c11
     replace H := Option.bind_eq_some_iff.mp H
     obtain ⟨t215, A120, H⟩ := H
     replace H : (if t215 = true then ((foolscapref5_Place.f l0 a1_3 a1_4).bind fun t216 => (if t216 = true then ((foolscapref5_Less.f a1_3 a1_4 a1_1 a1_2).bind fun t217 => (some (!t217))) else (some false))) else (some false)) = some r := H
     have A12 := Aside0.mk A120
     clear A120
     by_cases c13 : t215 = true
     ·subst c13
      have H1 : ((foolscapref5_Place.f l0 a1_3 a1_4).bind fun t216 => (if t216 = true then ((foolscapref5_Less.f a1_3 a1_4 a1_1 a1_2).bind fun t217 => (some (!t217))) else (some false))) = some r := by rw [if_pos rfl] at H; exact H
      clear H
      have H := H1
      clear H1
      replace H := Option.bind_eq_some_iff.mp H
      obtain ⟨t216, A140, H⟩ := H
      replace H : (if t216 = true then ((foolscapref5_Less.f a1_3 a1_4 a1_1 a1_2).bind fun t217 => (some (!t217))) else (some false)) = some r := H
      have A14 := Aside0.mk A140
      clear A140
      by_cases c15 : t216 = true
      ·subst c15
       have H1 : ((foolscapref5_Less.f a1_3 a1_4 a1_1 a1_2).bind fun t217 => (some (!t217))) = some r := by rw [if_pos rfl] at H; exact H
       clear H
       have H := H1
       clear H1
       replace H := Option.bind_eq_some_iff.mp H
       obtain ⟨t217, A160, H⟩ := H
       replace H : (some (!t217)) = some r := H
       have A16 := Aside0.mk A160
       clear A160
       obtain rfl := Option.some.inj H
       have hcz17_0 : wc.cell? ⟨gb214, 0, none⟩ = some (.int .i64 a1_0) := (blk_cell BK214.out 0).trans rfl
       have hcz17_1 : wc.cell? ⟨gb214, 1, none⟩ = some (.int .i64 a1_1) := (blk_cell BK214.out 1).trans rfl
       have hcz17_2 : wc.cell? ⟨gb214, 2, none⟩ = some (.int .i64 a1_2) := (blk_cell BK214.out 2).trans rfl
       have hcz17_3 : wc.cell? ⟨gb214, 3, none⟩ = some (.int .i64 a1_3) := (blk_cell BK214.out 3).trans rfl
       have hcz17_4 : wc.cell? ⟨gb214, 4, none⟩ = some (.int .i64 a1_4) := (blk_cell BK214.out 4).trans rfl
       have hfz17_0 := blk_frozen BK214.out 0
       have hfz17_1 := blk_frozen BK214.out 1
       have hfz17_2 := blk_frozen BK214.out 2
       have hfz17_3 := blk_frozen BK214.out 3
       have hfz17_4 := blk_frozen BK214.out 4
       go_wp2_with (first | ((with_reducible refine gate_callee (f := 39) rfl ?_); refine goesL_ (some 33) rfl rfl Try.func39 (by kernel_rfl) rfl #[.slice A0 l0.length c0, .agg #[.int .i64 a1_1, .int .i64 a1_2]] rfl (by first | rfl | (simp only [List.map_toArray, List.map_cons, List.map_nil] <;> rfl)) ?_; (with_reducible refine (foolscapref5_Place.calls _ _ l0 a1_1 a1_2 true _ ?side1 ?side2 A12.out).mono ?_); (case side1 => repeat (first | exact (Kd.C_below HR0.out HB.out) | (with_reducible refine Kd.C_alloc ?_ _) | (with_reducible refine Kd.C_drewN ?_ _) | (with_reducible refine Kd.C_drew ?_))); (case side2 => exact HC0.out); rintro e w18 ⟨rfl, hb⟩; refine ⟨_, rfl, ?_⟩; have n0_ := Aside0.mk (blk_below (pk BK214.out) hb); have n1_ := Aside0.mk (below_step (by repeat with_reducible first | exact HB.out | apply ba | apply bn | apply bd | refine bset ?_ (by assumption)) hb); clear BK214; clear HB; have BK214 := n0_; have HB := n1_; clear n0_ n1_; (try clear hb); (try clear hb2); (try clear hk); (try clear hi); have hcz19_0 : w18.cell? ⟨gb214, 0, none⟩ = some (.int .i64 a1_0) := (blk_cell BK214.out 0).trans rfl; have hcz19_1 : w18.cell? ⟨gb214, 1, none⟩ = some (.int .i64 a1_1) := (blk_cell BK214.out 1).trans rfl; have hcz19_2 : w18.cell? ⟨gb214, 2, none⟩ = some (.int .i64 a1_2) := (blk_cell BK214.out 2).trans rfl; have hcz19_3 : w18.cell? ⟨gb214, 3, none⟩ = some (.int .i64 a1_3) := (blk_cell BK214.out 3).trans rfl; have hcz19_4 : w18.cell? ⟨gb214, 4, none⟩ = some (.int .i64 a1_4) := (blk_cell BK214.out 4).trans rfl; have hfz19_0 := blk_frozen BK214.out 0; have hfz19_1 := blk_frozen BK214.out 1; have hfz19_2 := blk_frozen BK214.out 2; have hfz19_3 := blk_frozen BK214.out 3; have hfz19_4 := blk_frozen BK214.out 4) | (go_at_call 39; (with_reducible refine (foolscapref5_Place.calls _ _ l0 a1_3 a1_4 true _ ?side1 ?side2 A14.out).mono ?_); (case side1 => repeat (first | exact (Kd.C_below HR0.out HB.out) | (with_reducible refine Kd.C_alloc ?_ _) | (with_reducible refine Kd.C_drewN ?_ _) | (with_reducible refine Kd.C_drew ?_))); (case side2 => exact HC0.out); rintro e w20 ⟨rfl, hb⟩; have n0_ := Aside0.mk (blk_below (pk BK214.out) hb); have n1_ := Aside0.mk (below_step (by repeat with_reducible first | exact HB.out | apply ba | apply bn | apply bd | refine bset ?_ (by assumption)) hb); clear BK214; clear HB; have BK214 := n0_; have HB := n1_; clear n0_ n1_; (try clear hb); (try clear hb2); (try clear hk); (try clear hi); have hcz21_0 : w20.cell? ⟨gb214, 0, none⟩ = some (.int .i64 a1_0) := (blk_cell BK214.out 0).trans rfl; have hcz21_1 : w20.cell? ⟨gb214, 1, none⟩ = some (.int .i64 a1_1) := (blk_cell BK214.out 1).trans rfl; have hcz21_2 : w20.cell? ⟨gb214, 2, none⟩ = some (.int .i64 a1_2) := (blk_cell BK214.out 2).trans rfl; have hcz21_3 : w20.cell? ⟨gb214, 3, none⟩ = some (.int .i64 a1_3) := (blk_cell BK214.out 3).trans rfl; have hcz21_4 : w20.cell? ⟨gb214, 4, none⟩ = some (.int .i64 a1_4) := (blk_cell BK214.out 4).trans rfl; have hfz21_0 := blk_frozen BK214.out 0; have hfz21_1 := blk_frozen BK214.out 1; have hfz21_2 := blk_frozen BK214.out 2; have hfz21_3 := blk_frozen BK214.out 3; have hfz21_4 := blk_frozen BK214.out 4) | (go_at_call 42; (with_reducible refine (foolscapref5_Less.calls a1_3 a1_4 a1_1 a1_2 t217 _ A16.out).mono ?_); rintro e w22 ⟨rfl, hb⟩; have n0_ := Aside0.mk (blk_below (pk BK214.out) hb); have n1_ := Aside0.mk (below_step (by repeat with_reducible first | exact HB.out | apply ba | apply bn | apply bd | refine bset ?_ (by assumption)) hb); clear BK214; clear HB; have BK214 := n0_; have HB := n1_; clear n0_ n1_; (try clear hb); (try clear hb2); (try clear hk); (try clear hi)))
       go_ret
       exact ⟨by first | rfl | (simp [errW_none, errW_some] <;> rfl) | (simp [*, errW_none, errW_some] <;> rfl), by repeat with_reducible first | exact HB.out | apply ba | apply bn | apply bd | refine bset ?_ (by assumption)⟩
      ·replace c15 := Bool.eq_false_iff.mpr c15
       subst c15
       have H1 : (some false) = some r := by rw [if_neg (show ¬ (false = true) by decide)] at H; exact H
       clear H
       have H := H1
       clear H1
       obtain rfl := Option.some.inj H
       have hcz23_0 : wc.cell? ⟨gb214, 0, none⟩ = some (.int .i64 a1_0) := (blk_cell BK214.out 0).trans rfl
       have hcz23_1 : wc.cell? ⟨gb214, 1, none⟩ = some (.int .i64 a1_1) := (blk_cell BK214.out 1).trans rfl
       have hcz23_2 : wc.cell? ⟨gb214, 2, none⟩ = some (.int .i64 a1_2) := (blk_cell BK214.out 2).trans rfl
       have hcz23_3 : wc.cell? ⟨gb214, 3, none⟩ = some (.int .i64 a1_3) := (blk_cell BK214.out 3).trans rfl
       have hcz23_4 : wc.cell? ⟨gb214, 4, none⟩ = some (.int .i64 a1_4) := (blk_cell BK214.out 4).trans rfl
       have hfz23_0 := blk_frozen BK214.out 0
       have hfz23_1 := blk_frozen BK214.out 1
       have hfz23_2 := blk_frozen BK214.out 2
       have hfz23_3 := blk_frozen BK214.out 3
       have hfz23_4 := blk_frozen BK214.out 4
       go_wp2_with (first | ((with_reducible refine gate_callee (f := 39) rfl ?_); refine goesL_ (some 33) rfl rfl Try.func39 (by kernel_rfl) rfl #[.slice A0 l0.length c0, .agg #[.int .i64 a1_1, .int .i64 a1_2]] rfl (by first | rfl | (simp only [List.map_toArray, List.map_cons, List.map_nil] <;> rfl)) ?_; (with_reducible refine (foolscapref5_Place.calls _ _ l0 a1_1 a1_2 true _ ?side1 ?side2 A12.out).mono ?_); (case side1 => repeat (first | exact (Kd.C_below HR0.out HB.out) | (with_reducible refine Kd.C_alloc ?_ _) | (with_reducible refine Kd.C_drewN ?_ _) | (with_reducible refine Kd.C_drew ?_))); (case side2 => exact HC0.out); rintro e w24 ⟨rfl, hb⟩; refine ⟨_, rfl, ?_⟩; have n0_ := Aside0.mk (blk_below (pk BK214.out) hb); have n1_ := Aside0.mk (below_step (by repeat with_reducible first | exact HB.out | apply ba | apply bn | apply bd | refine bset ?_ (by assumption)) hb); clear BK214; clear HB; have BK214 := n0_; have HB := n1_; clear n0_ n1_; (try clear hb); (try clear hb2); (try clear hk); (try clear hi); have hcz25_0 : w24.cell? ⟨gb214, 0, none⟩ = some (.int .i64 a1_0) := (blk_cell BK214.out 0).trans rfl; have hcz25_1 : w24.cell? ⟨gb214, 1, none⟩ = some (.int .i64 a1_1) := (blk_cell BK214.out 1).trans rfl; have hcz25_2 : w24.cell? ⟨gb214, 2, none⟩ = some (.int .i64 a1_2) := (blk_cell BK214.out 2).trans rfl; have hcz25_3 : w24.cell? ⟨gb214, 3, none⟩ = some (.int .i64 a1_3) := (blk_cell BK214.out 3).trans rfl; have hcz25_4 : w24.cell? ⟨gb214, 4, none⟩ = some (.int .i64 a1_4) := (blk_cell BK214.out 4).trans rfl; have hfz25_0 := blk_frozen BK214.out 0; have hfz25_1 := blk_frozen BK214.out 1; have hfz25_2 := blk_frozen BK214.out 2; have hfz25_3 := blk_frozen BK214.out 3; have hfz25_4 := blk_frozen BK214.out 4) | (go_at_call 39; (with_reducible refine (foolscapref5_Place.calls _ _ l0 a1_3 a1_4 false _ ?side1 ?side2 A14.out).mono ?_); (case side1 => repeat (first | exact (Kd.C_below HR0.out HB.out) | (with_reducible refine Kd.C_alloc ?_ _) | (with_reducible refine Kd.C_drewN ?_ _) | (with_reducible refine Kd.C_drew ?_))); (case side2 => exact HC0.out); rintro e w26 ⟨rfl, hb⟩; have n0_ := Aside0.mk (blk_below (pk BK214.out) hb); have n1_ := Aside0.mk (below_step (by repeat with_reducible first | exact HB.out | apply ba | apply bn | apply bd | refine bset ?_ (by assumption)) hb); clear BK214; clear HB; have BK214 := n0_; have HB := n1_; clear n0_ n1_; (try clear hb); (try clear hb2); (try clear hk); (try clear hi)))
       go_ret
       exact ⟨by first | rfl | (simp [errW_none, errW_some] <;> rfl) | (simp [*, errW_none, errW_some] <;> rfl), by repeat with_reducible first | exact HB.out | apply ba | apply bn | apply bd | refine bset ?_ (by assumption)⟩
     ·replace c13 := Bool.eq_false_iff.mpr c13
      subst c13
      have H1 : (some false) = some r := by rw [if_neg (show ¬ (false = true) by decide)] at H; exact H
      clear H
      have H := H1
      clear H1
      obtain rfl := Option.some.inj H
      have hcz27_0 : wc.cell? ⟨gb214, 0, none⟩ = some (.int .i64 a1_0) := (blk_cell BK214.out 0).trans rfl
      have hcz27_1 : wc.cell? ⟨gb214, 1, none⟩ = some (.int .i64 a1_1) := (blk_cell BK214.out 1).trans rfl
      have hcz27_2 : wc.cell? ⟨gb214, 2, none⟩ = some (.int .i64 a1_2) := (blk_cell BK214.out 2).trans rfl
      have hcz27_3 : wc.cell? ⟨gb214, 3, none⟩ = some (.int .i64 a1_3) := (blk_cell BK214.out 3).trans rfl
      have hcz27_4 : wc.cell? ⟨gb214, 4, none⟩ = some (.int .i64 a1_4) := (blk_cell BK214.out 4).trans rfl
      have hfz27_0 := blk_frozen BK214.out 0
      have hfz27_1 := blk_frozen BK214.out 1
      have hfz27_2 := blk_frozen BK214.out 2
      have hfz27_3 := blk_frozen BK214.out 3
      have hfz27_4 := blk_frozen BK214.out 4
      go_wp2_with (first | ((with_reducible refine gate_callee (f := 39) rfl ?_); refine goesL_ (some 33) rfl rfl Try.func39 (by kernel_rfl) rfl #[.slice A0 l0.length c0, .agg #[.int .i64 a1_1, .int .i64 a1_2]] rfl (by first | rfl | (simp only [List.map_toArray, List.map_cons, List.map_nil] <;> rfl)) ?_; (with_reducible refine (foolscapref5_Place.calls _ _ l0 a1_1 a1_2 false _ ?side1 ?side2 A12.out).mono ?_); (case side1 => repeat (first | exact (Kd.C_below HR0.out HB.out) | (with_reducible refine Kd.C_alloc ?_ _) | (with_reducible refine Kd.C_drewN ?_ _) | (with_reducible refine Kd.C_drew ?_))); (case side2 => exact HC0.out); rintro e w28 ⟨rfl, hb⟩; refine ⟨_, rfl, ?_⟩; have n0_ := Aside0.mk (blk_below (pk BK214.out) hb); have n1_ := Aside0.mk (below_step (by repeat with_reducible first | exact HB.out | apply ba | apply bn | apply bd | refine bset ?_ (by assumption)) hb); clear BK214; clear HB; have BK214 := n0_; have HB := n1_; clear n0_ n1_; (try clear hb); (try clear hb2); (try clear hk); (try clear hi)))
      go_ret
      exact ⟨by first | rfl | (simp [errW_none, errW_some] <;> rfl) | (simp [*, errW_none, errW_some] <;> rfl), by repeat with_reducible first | exact HB.out | apply ba | apply bn | apply bd | refine bset ?_ (by assumption)⟩
    ·rw [if_neg c11] at H
     have c11b0 : (a1_0 == 0) = false := beq_eq_false_iff_ne.mpr c11
     have c11b1 : (a1_0 != 0) = true := bne_iff_ne.mpr c11
     by_cases c29 : a1_0 = 1
     ·rw [if_pos c29] at H
      have c29b0 : (a1_0 == 1) = true := beq_iff_eq.mpr c29
      have c29b1 : (a1_0 != 1) = false := bne_eq_false_iff_eq.mpr c29
      clear c29
      obtain rfl := Option.some.inj H
      have hcz30_0 : wc.cell? ⟨gb214, 0, none⟩ = some (.int .i64 a1_0) := (blk_cell BK214.out 0).trans rfl
      have hcz30_1 : wc.cell? ⟨gb214, 1, none⟩ = some (.int .i64 a1_1) := (blk_cell BK214.out 1).trans rfl
      have hcz30_2 : wc.cell? ⟨gb214, 2, none⟩ = some (.int .i64 a1_2) := (blk_cell BK214.out 2).trans rfl
      have hcz30_3 : wc.cell? ⟨gb214, 3, none⟩ = some (.int .i64 a1_3) := (blk_cell BK214.out 3).trans rfl
      have hcz30_4 : wc.cell? ⟨gb214, 4, none⟩ = some (.int .i64 a1_4) := (blk_cell BK214.out 4).trans rfl
      have hfz30_0 := blk_frozen BK214.out 0
      have hfz30_1 := blk_frozen BK214.out 1
      have hfz30_2 := blk_frozen BK214.out 2
      have hfz30_3 := blk_frozen BK214.out 3
      have hfz30_4 := blk_frozen BK214.out 4
      go_wp2
      go_ret
      exact ⟨by first | rfl | (simp [errW_none, errW_some] <;> rfl) | (simp [*, errW_none, errW_some] <;> rfl), by repeat with_reducible first | exact HB.out | apply ba | apply bn | apply bd | refine bset ?_ (by assumption)⟩
     ·rw [if_neg c29] at H
      have c29b0 : (a1_0 == 1) = false := beq_eq_false_iff_ne.mpr c29
      have c29b1 : (a1_0 != 1) = true := bne_iff_ne.mpr c29
      by_cases c31 : a1_0 = 2
      ·rw [if_pos c31] at H
       have c31b0 : (a1_0 == 2) = true := beq_iff_eq.mpr c31
       have c31b1 : (a1_0 != 2) = false := bne_eq_false_iff_eq.mpr c31
       clear c31
       by_cases c32 : a1_2 ≥ 0
       ·rw [if_pos c32] at H
        have c32b0 : decide (0 ≤ a1_2) = true := decide_eq_true c32
        clear c32
        obtain rfl := Option.some.inj H
        have hcz33_0 : wc.cell? ⟨gb214, 0, none⟩ = some (.int .i64 a1_0) := (blk_cell BK214.out 0).trans rfl
        have hcz33_1 : wc.cell? ⟨gb214, 1, none⟩ = some (.int .i64 a1_1) := (blk_cell BK214.out 1).trans rfl
        have hcz33_2 : wc.cell? ⟨gb214, 2, none⟩ = some (.int .i64 a1_2) := (blk_cell BK214.out 2).trans rfl
        have hcz33_3 : wc.cell? ⟨gb214, 3, none⟩ = some (.int .i64 a1_3) := (blk_cell BK214.out 3).trans rfl
        have hcz33_4 : wc.cell? ⟨gb214, 4, none⟩ = some (.int .i64 a1_4) := (blk_cell BK214.out 4).trans rfl
        have hfz33_0 := blk_frozen BK214.out 0
        have hfz33_1 := blk_frozen BK214.out 1
        have hfz33_2 := blk_frozen BK214.out 2
        have hfz33_3 := blk_frozen BK214.out 3
        have hfz33_4 := blk_frozen BK214.out 4
        go_wp2
        go_ret
        exact ⟨by first | rfl | (simp [errW_none, errW_some] <;> rfl) | (simp [*, errW_none, errW_some] <;> rfl), by repeat with_reducible first | exact HB.out | apply ba | apply bn | apply bd | refine bset ?_ (by assumption)⟩
       ·rw [if_neg c32] at H
        have c32b0 : decide (0 ≤ a1_2) = false := decide_eq_false c32
        clear c32
        obtain rfl := Option.some.inj H
        have hcz34_0 : wc.cell? ⟨gb214, 0, none⟩ = some (.int .i64 a1_0) := (blk_cell BK214.out 0).trans rfl
        have hcz34_1 : wc.cell? ⟨gb214, 1, none⟩ = some (.int .i64 a1_1) := (blk_cell BK214.out 1).trans rfl
        have hcz34_2 : wc.cell? ⟨gb214, 2, none⟩ = some (.int .i64 a1_2) := (blk_cell BK214.out 2).trans rfl
        have hcz34_3 : wc.cell? ⟨gb214, 3, none⟩ = some (.int .i64 a1_3) := (blk_cell BK214.out 3).trans rfl
        have hcz34_4 : wc.cell? ⟨gb214, 4, none⟩ = some (.int .i64 a1_4) := (blk_cell BK214.out 4).trans rfl
        have hfz34_0 := blk_frozen BK214.out 0
        have hfz34_1 := blk_frozen BK214.out 1
        have hfz34_2 := blk_frozen BK214.out 2
        have hfz34_3 := blk_frozen BK214.out 3
        have hfz34_4 := blk_frozen BK214.out 4
        go_wp2
        go_ret
        exact ⟨by first | rfl | (simp [errW_none, errW_some] <;> rfl) | (simp [*, errW_none, errW_some] <;> rfl), by repeat with_reducible first | exact HB.out | apply ba | apply bn | apply bd | refine bset ?_ (by assumption)⟩
      ·rw [if_neg c31] at H
       have c31b0 : (a1_0 == 2) = false := beq_eq_false_iff_ne.mpr c31
       have c31b1 : (a1_0 != 2) = true := bne_iff_ne.mpr c31
       obtain rfl := Option.some.inj H
       have hcz35_0 : wc.cell? ⟨gb214, 0, none⟩ = some (.int .i64 a1_0) := (blk_cell BK214.out 0).trans rfl
       have hcz35_1 : wc.cell? ⟨gb214, 1, none⟩ = some (.int .i64 a1_1) := (blk_cell BK214.out 1).trans rfl
       have hcz35_2 : wc.cell? ⟨gb214, 2, none⟩ = some (.int .i64 a1_2) := (blk_cell BK214.out 2).trans rfl
       have hcz35_3 : wc.cell? ⟨gb214, 3, none⟩ = some (.int .i64 a1_3) := (blk_cell BK214.out 3).trans rfl
       have hcz35_4 : wc.cell? ⟨gb214, 4, none⟩ = some (.int .i64 a1_4) := (blk_cell BK214.out 4).trans rfl
       have hfz35_0 := blk_frozen BK214.out 0
       have hfz35_1 := blk_frozen BK214.out 1
       have hfz35_2 := blk_frozen BK214.out 2
       have hfz35_3 := blk_frozen BK214.out 3
       have hfz35_4 := blk_frozen BK214.out 4
       go_wp2
       go_ret
       exact ⟨by first | rfl | (simp [errW_none, errW_some] <;> rfl) | (simp [*, errW_none, errW_some] <;> rfl), by repeat with_reducible first | exact HB.out | apply ba | apply bn | apply bd | refine bset ?_ (by assumption)⟩

end Go.Proofs.Ytdcbgmeljakmcaa.MAreaOf
