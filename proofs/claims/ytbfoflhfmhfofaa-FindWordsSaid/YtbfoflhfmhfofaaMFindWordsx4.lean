/- What the Go functions of this law compute, and that they do: written by this session's own program (wip/myprint), for all inputs that the print's conditions name. -/
import Derived.Test.YtbfoflhfmhfofaaMFindWordsx0
namespace Go.Proofs.Ytbfoflhfmhfofaa.MFindWords
open Go.RowKit Go.Proofs.Ytbfoflhfmhfofaa.Out Go.Proofs.YtbfoflhfmhfofaaW.PrintWords Go.Proofs.YtbfoflhfmhfofaaW.PrintLast Go.Proofs.YtbfoflhfmhfofaaW.PrintMore
attribute [local go_sem] max2_int min2_int max_two min_two max_three min_three max_four min_four   -- for this text's walks alone
set_option linter.unusedVariables false
set_option linter.unusedSimpArgs false

/-! ### foolscaphelp_Light: function 23 -/
mutual
def foolscaphelp_Light.l0 : Nat → List ByteArray → Int → Int → Option (Bool)
  | 0, _, _, _ => none
  | k + 1, x0, x3, x4 => if x4 < (x0.length : Int) then (if 0 ≤ x4 then (if (wrap64 (x3 + ((rdOf ByteArray.empty x0 x4).size : Int))) > 1200 then (some false) else (foolscaphelp_Light.l1 k x0 (wrap64 (x3 + ((rdOf ByteArray.empty x0 x4).size : Int))) x4 0)) else (none)) else (some true)
def foolscaphelp_Light.l1 : Nat → List ByteArray → Int → Int → Int → Option (Bool)
  | 0, _, _, _, _ => none
  | k + 1, x0, x3, x4, x5 => if 0 ≤ x4 then (if x4 < (x0.length : Int) then (if x5 < ((rdOf ByteArray.empty x0 x4).size : Int) then (if 0 ≤ x5 then (if (bt (rdOf ByteArray.empty x0 x4) x5) = 10 then (some false) else (foolscaphelp_Light.l1 k x0 x3 x4 (wrap64 (x5 + 1)))) else (none)) else (foolscaphelp_Light.l0 k x0 x3 (wrap64 (x4 + 1)))) else (none)) else (none)
end
def foolscaphelp_Light.f (k : Nat) (l0 : List ByteArray) : Option (Bool) := if (l0.length : Int) > 40 then (some false) else (foolscaphelp_Light.l0 k l0 0 0)
theorem foolscaphelp_Light.mono_l : ∀ k, (∀ y0 y1 y2, LeO (foolscaphelp_Light.l0 k y0 y1 y2) (foolscaphelp_Light.l0 (k + 1) y0 y1 y2)) ∧ (∀ y0 y1 y2 y3, LeO (foolscaphelp_Light.l1 k y0 y1 y2 y3) (foolscaphelp_Light.l1 (k + 1) y0 y1 y2 y3))
  | 0 => ⟨fun _ _ _ r h => by simp [foolscaphelp_Light.l0] at h, fun _ _ _ _ r h => by simp [foolscaphelp_Light.l1] at h⟩
  | k + 1 => by
    obtain ⟨ih0, ih1⟩ := foolscaphelp_Light.mono_l k
    refine ⟨?_, ?_⟩
    · intro y0 y1 y2
      unfold foolscaphelp_Light.l0
      repeat' first
      | (with_reducible exact ih0 _ _ _)
      | (with_reducible exact ih1 _ _ _ _)
      | (with_reducible exact LeO.refl _)
      | (with_reducible exact LeO.none _)
      | (with_reducible refine LeO.ite ?_ ?_)
      | (with_reducible refine LeO.bind ?_ (fun _ => ?_))
      | exact ih0 _ _ _
      | exact ih1 _ _ _ _
      | exact LeO.none _
      | refine LeO.ite ?_ ?_
      | refine LeO.bind ?_ (fun _ => ?_)
    · intro y0 y1 y2 y3
      unfold foolscaphelp_Light.l1
      repeat' first
      | (with_reducible exact ih0 _ _ _)
      | (with_reducible exact ih1 _ _ _ _)
      | (with_reducible exact LeO.refl _)
      | (with_reducible exact LeO.none _)
      | (with_reducible refine LeO.ite ?_ ?_)
      | (with_reducible refine LeO.bind ?_ (fun _ => ?_))
      | exact ih0 _ _ _
      | exact ih1 _ _ _ _
      | exact LeO.none _
      | refine LeO.ite ?_ ?_
      | refine LeO.bind ?_ (fun _ => ?_)
theorem foolscaphelp_Light.mono : ∀ a0 k, LeO (foolscaphelp_Light.f k a0) (foolscaphelp_Light.f (k + 1) a0) := by
  intro a0 k
  obtain ⟨ih0, ih1⟩ := foolscaphelp_Light.mono_l k
  unfold foolscaphelp_Light.f
  repeat' first
      | (with_reducible exact ih0 _ _ _)
      | (with_reducible exact ih1 _ _ _ _)
      | (with_reducible exact LeO.refl _)
      | (with_reducible exact LeO.none _)
      | (with_reducible refine LeO.ite ?_ ?_)
      | (with_reducible refine LeO.bind ?_ (fun _ => ?_))
      | exact ih0 _ _ _
      | exact ih1 _ _ _ _
      | exact LeO.none _
      | refine LeO.ite ?_ ?_
      | refine LeO.bind ?_ (fun _ => ?_)
set_option maxHeartbeats 8000000 in
set_option maxRecDepth 100000 in
theorem foolscaphelp_Light.calls (k : Nat) (A0 : Option Addr) (c0 : Nat) (l0 : List ByteArray) (r : Bool) (w : World) (hr0 : Kd.C Kd.string w A0 l0.length l0) (hc0 : l0.length ≤ c0) (h : foolscaphelp_Light.f k l0 = some r) :
    Calls Try.prog 23 #[.slice A0 l0.length c0] w fun e w' => e = .returned (.bool r) ∧ Drawn0 w w' := by
  have HR0 := Aside0.mk hr0
  have HC0 := Aside0.mk hc0
  clear hr0 hc0
  have H : (if (l0.length : Int) > 40 then (some false) else (foolscaphelp_Light.l0 k l0 0 0)) = some r := h
  clear h
  by_cases c2 : (l0.length : Int) > 40
  · rw [if_pos c2] at H
    have c2b0 : decide (40 < (l0.length : Int)) = true := decide_eq_true c2
    have c2b1 : decide (40 < l0.length) = true := decide_eq_true (by omega)
    clear c2
    obtain rfl := Option.some.inj H
    go_enter Try.func23, Try.ntmps23
    go_wp2
    go_ret
    exact ⟨by first | rfl | (simp; done) | (simp [*]; done), by repeat (first | exact Drawn0.refl _ | apply Drawn0.step)⟩
  · rw [if_neg c2] at H
    have c2b0 : decide (40 < (l0.length : Int)) = false := decide_eq_false c2
    have c2b1 : decide (40 < l0.length) = false := decide_eq_false (by omega)
    clear c2
    have H' := Aside0.mk H
    clear H
    go_enter Try.func23, Try.ntmps23
    go_wp2
    go_loopg [3, 4] k (fun kq v3 v4 w' => ∃ (x3_1 : Int) (x4_1 : Int), v3 = .int .i64 x3_1 ∧ v4 = .int .i64 x4_1 ∧ Aside0 (foolscaphelp_Light.l0 kq l0 x3_1 x4_1 = some r) ∧ Aside0 (kq ≤ k) ∧ Drawn0 w w')
    case atStart => exact ⟨(0), (0), (by first | rfl | (simp; done) | (simp [*]; done)), (by first | rfl | (simp; done) | (simp [*]; done)), H', ⟨Nat.le_refl _⟩, by repeat (first | exact Drawn0.refl _ | apply Drawn0.step)⟩
    case round =>
      clear H'
      try clear c2
      try clear c2b0
      try clear c2b1
      try clear p2
      obtain ⟨x3_1, x4_1, rfl, rfl, HA, HK1, ⟨m1, rfl⟩⟩ := hrel
      cases gk with
      | zero => exact absurd HA.out (by simp [foolscaphelp_Light.l0])
      | succ k1 =>
        have H := HA.out
        clear HA
        simp only [foolscaphelp_Light.l0] at H
        by_cases c3 : x4_1 < (l0.length : Int)
        · rw [if_pos c3] at H
          have c3b0 : decide (x4_1 < (l0.length : Int)) = true := decide_eq_true c3
          clear c3
          by_cases c4 : 0 ≤ x4_1
          · rw [if_pos c4] at H
            have c4b0 : decide (0 ≤ x4_1) = true := decide_eq_true c4
            clear c4
            by_cases c5 : (wrap64 (x3_1 + ((rdOf ByteArray.empty l0 x4_1).size : Int))) > 1200
            · rw [if_pos c5] at H
              have c5b0 : decide (1200 < (wrap64 (x3_1 + ((rdOf ByteArray.empty l0 x4_1).size : Int)))) = true := decide_eq_true c5
              clear c5
              obtain rfl := Option.some.inj H
              have p133 : 0 ≤ (x4_1 : Int) := of_decide_eq_true (by first | (with_reducible assumption) | assumption)
              have q133 : x4_1 < (l0.length : Int) := of_decide_eq_true (by first | (with_reducible assumption) | assumption)
              obtain ⟨ad133, e133, hx133_0⟩ := Kd.at_string HR0.out x4_1 p133 q133
              cases e133
              replace p133 := eq_true p133
              replace q133 := eq_true q133
              go_wp2
              go_ret
              exact ⟨by first | rfl | (simp; done) | (simp [*]; done), by repeat (first | exact Drawn0.refl _ | apply Drawn0.step)⟩
            · rw [if_neg c5] at H
              have c5b0 : decide (1200 < (wrap64 (x3_1 + ((rdOf ByteArray.empty l0 x4_1).size : Int)))) = false := decide_eq_false c5
              clear c5
              have H' := Aside0.mk H
              clear H
              have p133 : 0 ≤ (x4_1 : Int) := of_decide_eq_true (by first | (with_reducible assumption) | assumption)
              have q133 : x4_1 < (l0.length : Int) := of_decide_eq_true (by first | (with_reducible assumption) | assumption)
              obtain ⟨ad133, e133, hx133_0⟩ := Kd.at_string HR0.out x4_1 p133 q133
              cases e133
              replace p133 := eq_true p133
              replace q133 := eq_true q133
              go_wp2
              go_loopg [5] k1 (fun kq v5 w' => ∃ (x5_2 : Int), v5 = .int .i64 x5_2 ∧ Aside0 (foolscaphelp_Light.l1 kq l0 (wrap64 (x3_1 + ((rdOf ByteArray.empty l0 x4_1).size : Int))) x4_1 x5_2 = some r) ∧ Aside0 (kq ≤ k1) ∧ Drawn0 w w')
              case atStart => exact ⟨(0), (by first | rfl | (simp; done) | (simp [*]; done)), H', ⟨Nat.le_refl _⟩, by repeat (first | exact Drawn0.refl _ | apply Drawn0.step)⟩
              case round =>
                clear H'
                try clear p1
                try clear q1
                try clear hx1
                try clear c2
                try clear c2b0
                try clear c2b1
                try clear p2
                try clear c3
                try clear c3b0
                try clear c4
                try clear c4b0
                try clear c5
                try clear c5b0
                try clear hx133_0
                try clear p133
                try clear p2
                try clear q133
                obtain ⟨x5_2, rfl, HA, HK2, ⟨m2, rfl⟩⟩ := hrel
                cases gk with
                | zero => exact absurd HA.out (by simp [foolscaphelp_Light.l1])
                | succ k2 =>
                  have H := HA.out
                  clear HA
                  simp only [foolscaphelp_Light.l1] at H
                  by_cases c6 : 0 ≤ x4_1
                  · rw [if_pos c6] at H
                    have c6b0 : decide (0 ≤ x4_1) = true := decide_eq_true c6
                    clear c6
                    by_cases c7 : x4_1 < (l0.length : Int)
                    · rw [if_pos c7] at H
                      have c7b0 : decide (x4_1 < (l0.length : Int)) = true := decide_eq_true c7
                      clear c7
                      by_cases c8 : x5_2 < ((rdOf ByteArray.empty l0 x4_1).size : Int)
                      · rw [if_pos c8] at H
                        have c8b0 : decide (x5_2 < ((rdOf ByteArray.empty l0 x4_1).size : Int)) = true := decide_eq_true c8
                        clear c8
                        by_cases c9 : 0 ≤ x5_2
                        · rw [if_pos c9] at H
                          have c9b0 : decide (0 ≤ x5_2) = true := decide_eq_true c9
                          clear c9
                          by_cases c11 : (bt (rdOf ByteArray.empty l0 x4_1) x5_2) = 10
                          · rw [if_pos c11] at H
                            have c11b0 : ((bt (rdOf ByteArray.empty l0 x4_1) x5_2) == 10) = true := beq_iff_eq.mpr c11
                            have c11b1 : ((bt (rdOf ByteArray.empty l0 x4_1) x5_2) != 10) = false := bne_eq_false_iff_eq.mpr c11
                            clear c11
                            obtain rfl := Option.some.inj H
                            have p134 : 0 ≤ (x4_1 : Int) := of_decide_eq_true (by first | (with_reducible assumption) | assumption)
                            have q134 : x4_1 < (l0.length : Int) := of_decide_eq_true (by first | (with_reducible assumption) | assumption)
                            obtain ⟨ad134, e134, hx134_0⟩ := Kd.at_string HR0.out x4_1 p134 q134
                            obtain rfl : ad133 = ad134 := (by injection e134)
                            replace p134 := eq_true p134
                            replace q134 := eq_true q134
                            have p135 : 0 ≤ (x4_1 : Int) := of_decide_eq_true (by first | (with_reducible assumption) | assumption)
                            have q135 : x4_1 < (l0.length : Int) := of_decide_eq_true (by first | (with_reducible assumption) | assumption)
                            obtain ⟨ad135, e135, hx135_0⟩ := Kd.at_string HR0.out x4_1 p135 q135
                            obtain rfl : ad133 = ad135 := (by injection e135)
                            replace p135 := eq_true p135
                            replace q135 := eq_true q135
                            have p10 : 0 ≤ (x5_2 : Int) := of_decide_eq_true (by first | (with_reducible assumption) | assumption)
                            have q10 : x5_2 < ((rdOf ByteArray.empty l0 x4_1).size : Int) := of_decide_eq_true (by first | (with_reducible assumption) | assumption)
                            have hx10 := bt_at (rdOf ByteArray.empty l0 x4_1) x5_2
                            replace p10 := eq_true p10
                            replace q10 := eq_true q10
                            go_wp2
                            go_ret
                            exact ⟨by first | rfl | (simp; done) | (simp [*]; done), by repeat (first | exact Drawn0.refl _ | apply Drawn0.step)⟩
                          · rw [if_neg c11] at H
                            have c11b0 : ((bt (rdOf ByteArray.empty l0 x4_1) x5_2) == 10) = false := beq_eq_false_iff_ne.mpr c11
                            have c11b1 : ((bt (rdOf ByteArray.empty l0 x4_1) x5_2) != 10) = true := bne_iff_ne.mpr c11
                            have H' := Aside0.mk H
                            clear H
                            have p134 : 0 ≤ (x4_1 : Int) := of_decide_eq_true (by first | (with_reducible assumption) | assumption)
                            have q134 : x4_1 < (l0.length : Int) := of_decide_eq_true (by first | (with_reducible assumption) | assumption)
                            obtain ⟨ad134, e134, hx134_0⟩ := Kd.at_string HR0.out x4_1 p134 q134
                            obtain rfl : ad133 = ad134 := (by injection e134)
                            replace p134 := eq_true p134
                            replace q134 := eq_true q134
                            have p135 : 0 ≤ (x4_1 : Int) := of_decide_eq_true (by first | (with_reducible assumption) | assumption)
                            have q135 : x4_1 < (l0.length : Int) := of_decide_eq_true (by first | (with_reducible assumption) | assumption)
                            obtain ⟨ad135, e135, hx135_0⟩ := Kd.at_string HR0.out x4_1 p135 q135
                            obtain rfl : ad133 = ad135 := (by injection e135)
                            replace p135 := eq_true p135
                            replace q135 := eq_true q135
                            have p10 : 0 ≤ (x5_2 : Int) := of_decide_eq_true (by first | (with_reducible assumption) | assumption)
                            have q10 : x5_2 < ((rdOf ByteArray.empty l0 x4_1).size : Int) := of_decide_eq_true (by first | (with_reducible assumption) | assumption)
                            have hx10 := bt_at (rdOf ByteArray.empty l0 x4_1) x5_2
                            replace p10 := eq_true p10
                            replace q10 := eq_true q10
                            go_wp2
                            go_roundg k2
                            case measure => have := HK1.out; have := HK2.out; omega
                            case rel => exact ⟨(wrap64 (x5_2 + 1)), (by first | rfl | (simp; done) | (simp [*]; done)), H', ⟨by have := HK1.out; have := HK2.out; omega⟩, by repeat (first | exact Drawn0.refl _ | apply Drawn0.step)⟩
                        · rw [if_neg c9] at H
                          exact absurd H (by simp)
                      · rw [if_neg c8] at H
                        have c8b0 : decide (x5_2 < ((rdOf ByteArray.empty l0 x4_1).size : Int)) = false := decide_eq_false c8
                        clear c8
                        have H' := Aside0.mk H
                        clear H
                        have p134 : 0 ≤ (x4_1 : Int) := of_decide_eq_true (by first | (with_reducible assumption) | assumption)
                        have q134 : x4_1 < (l0.length : Int) := of_decide_eq_true (by first | (with_reducible assumption) | assumption)
                        obtain ⟨ad134, e134, hx134_0⟩ := Kd.at_string HR0.out x4_1 p134 q134
                        obtain rfl : ad133 = ad134 := (by injection e134)
                        replace p134 := eq_true p134
                        replace q134 := eq_true q134
                        go_wp2
                        go_roundg k2
                        case measure => have := HK1.out; have := HK2.out; omega
                        case rel => exact ⟨((wrap64 (x3_1 + ((rdOf ByteArray.empty l0 x4_1).size : Int)))), (wrap64 (x4_1 + 1)), (by first | rfl | (simp; done) | (simp [*]; done)), (by first | rfl | (simp; done) | (simp [*]; done)), H', ⟨by have := HK1.out; have := HK2.out; omega⟩, by repeat (first | exact Drawn0.refl _ | apply Drawn0.step)⟩
                    · rw [if_neg c7] at H
                      exact absurd H (by simp)
                  · rw [if_neg c6] at H
                    exact absurd H (by simp)
          · rw [if_neg c4] at H
            exact absurd H (by simp)
        · rw [if_neg c3] at H
          have c3b0 : decide (x4_1 < (l0.length : Int)) = false := decide_eq_false c3
          clear c3
          obtain rfl := Option.some.inj H
          go_wp2
          go_ret
          exact ⟨by first | rfl | (simp; done) | (simp [*]; done), by repeat (first | exact Drawn0.refl _ | apply Drawn0.step)⟩

/-! ### foolscaphelp_Text: function 10 -/
def foolscaphelp_Text.f (k : Nat) (l0 : List ByteArray) : Option (Bool) := if (l0.length : Int) > 0 then ((foolscaphelp_Light.f k l0).bind fun t136 => (some t136)) else (some false)
theorem foolscaphelp_Text.mono : ∀ a0 k, LeO (foolscaphelp_Text.f k a0) (foolscaphelp_Text.f (k + 1) a0) := by
  intro a0 k
  unfold foolscaphelp_Text.f
  repeat' first
      | (with_reducible exact foolscaphelp_Light.mono _ _)
      | (with_reducible exact LeO.refl _)
      | (with_reducible exact LeO.none _)
      | (with_reducible refine LeO.ite ?_ ?_)
      | (with_reducible refine LeO.bind ?_ (fun _ => ?_))
      | exact foolscaphelp_Light.mono _ _
      | exact LeO.none _
      | refine LeO.ite ?_ ?_
      | refine LeO.bind ?_ (fun _ => ?_)
set_option maxHeartbeats 8000000 in
set_option maxRecDepth 100000 in
theorem foolscaphelp_Text.calls (k : Nat) (A0 : Option Addr) (c0 : Nat) (l0 : List ByteArray) (r : Bool) (w : World) (hr0 : Kd.C Kd.string w A0 l0.length l0) (hc0 : l0.length ≤ c0) (h : foolscaphelp_Text.f k l0 = some r) :
    Calls Try.prog 10 #[.slice A0 l0.length c0] w fun e w' => e = .returned (.bool r) ∧ Drawn0 w w' := by
  have HR0 := Aside0.mk hr0
  have HC0 := Aside0.mk hc0
  clear hr0 hc0
  have H : (if (l0.length : Int) > 0 then ((foolscaphelp_Light.f k l0).bind fun t136 => (some t136)) else (some false)) = some r := h
  clear h
  by_cases c2 : (l0.length : Int) > 0
  · rw [if_pos c2] at H
    have c2b0 : decide (0 < (l0.length : Int)) = true := decide_eq_true c2
    have c2b1 : decide (0 < l0.length) = true := decide_eq_true (by omega)
    clear c2
    replace H := Option.bind_eq_some_iff.mp H
    obtain ⟨t136, A30, H⟩ := H
    replace H : (some t136) = some r := H
    have A3 := Aside0.mk A30
    clear A30
    obtain rfl := Option.some.inj H
    go_enter Try.func10, Try.ntmps10
    go_wp2_with (first | (go_at_call 23; (with_reducible refine (foolscaphelp_Light.calls k _ _ l0 t136 _ ?side1 ?side2 A3.out).mono ?_); (case side1 => repeat (first | exact HR0.out | (with_reducible refine Kd.C_alloc ?_ _) | (with_reducible refine Kd.C_drewN ?_ _) | (with_reducible refine Kd.C_drew ?_))); (case side2 => exact HC0.out); rintro e w' ⟨rfl, ⟨nd, rfl⟩⟩))
    go_ret
    exact ⟨by first | rfl | (simp; done) | (simp [*]; done), by repeat (first | exact Drawn0.refl _ | apply Drawn0.step)⟩
  · rw [if_neg c2] at H
    have c2b0 : decide (0 < (l0.length : Int)) = false := decide_eq_false c2
    have c2b1 : decide (0 < l0.length) = false := decide_eq_false (by omega)
    clear c2
    obtain rfl := Option.some.inj H
    go_enter Try.func10, Try.ntmps10
    go_wp2
    go_ret
    exact ⟨by first | rfl | (simp; done) | (simp [*]; done), by repeat (first | exact Drawn0.refl _ | apply Drawn0.step)⟩

/-! ### foolscapseat_Place: function 14 -/
def foolscapseat_Place.f (l0 : List ByteArray) (a1 : Int) (a2 : Int) : Option (Int × Int) := if (l0.length : Int) = 0 then (none) else (if 0 ≤ (Int.tmod (wrap64 (a1)) (l0.length : Int)) then (if (Int.tmod (wrap64 (a1)) (l0.length : Int)) < (l0.length : Int) then (if (wrap64 (((rdOf ByteArray.empty l0 (Int.tmod (wrap64 (a1)) (l0.length : Int))).size : Int) + 1)) = 0 then (none) else (some (Int.tmod (wrap64 (a1)) (l0.length : Int), Int.tmod (wrap64 (a2)) (wrap64 (((rdOf ByteArray.empty l0 (Int.tmod (wrap64 (a1)) (l0.length : Int))).size : Int) + 1))))) else (none)) else (none))
set_option maxHeartbeats 8000000 in
set_option maxRecDepth 100000 in
theorem foolscapseat_Place.calls (A0 : Option Addr) (c0 : Nat) (l0 : List ByteArray) (a1 : Int) (a2 : Int) (r1 : Int) (r2 : Int) (w : World) (hr0 : Kd.C Kd.string w A0 l0.length l0) (hc0 : l0.length ≤ c0) (h : foolscapseat_Place.f l0 a1 a2 = some (r1, r2)) :
    Calls Try.prog 14 #[.slice A0 l0.length c0, .int .u16 a1, .int .u16 a2] w fun e w' => e = .returned (.agg #[.int .i64 r1, .int .i64 r2]) ∧ Below w.heap.size w w' := by
  have hu28 := Try.underlying28
  have HR0 := Aside0.mk hr0
  have HC0 := Aside0.mk hc0
  clear hr0 hc0
  have HB := Aside0.mk (Below.refl w.heap.size w)
  have H : (if (l0.length : Int) = 0 then (none) else (if 0 ≤ (Int.tmod (wrap64 (a1)) (l0.length : Int)) then (if (Int.tmod (wrap64 (a1)) (l0.length : Int)) < (l0.length : Int) then (if (wrap64 (((rdOf ByteArray.empty l0 (Int.tmod (wrap64 (a1)) (l0.length : Int))).size : Int) + 1)) = 0 then (none) else (some (Int.tmod (wrap64 (a1)) (l0.length : Int), Int.tmod (wrap64 (a2)) (wrap64 (((rdOf ByteArray.empty l0 (Int.tmod (wrap64 (a1)) (l0.length : Int))).size : Int) + 1))))) else (none)) else (none))) = some (r1, r2) := h
  clear h
  by_cases c4 : (l0.length : Int) = 0
  · rw [if_pos c4] at H
    exact absurd H (by simp)
  · rw [if_neg c4] at H
    have c4b0 : ((l0.length : Int) == 0) = false := beq_eq_false_iff_ne.mpr c4
    have c4b1 : ((l0.length : Int) != 0) = true := bne_iff_ne.mpr c4
    have c4b2 : ¬ (l0 = []) := fun h_ => c4 (by rw [h_]; rfl)
    obtain ⟨ji5, hji5⟩ : ∃ j_ : Int, (Int.tmod (wrap64 (a1)) (l0.length : Int)) = j_ := ⟨_, rfl⟩
    replace H : (if 0 ≤ (ji5) then (if (ji5) < (l0.length : Int) then (if (wrap64 (((rdOf ByteArray.empty l0 (ji5)).size : Int) + 1)) = 0 then (none) else (some (ji5, Int.tmod (wrap64 (a2)) (wrap64 (((rdOf ByteArray.empty l0 (ji5)).size : Int) + 1))))) else (none)) else (none)) = some (r1, r2) := by first | (rw [hji5] at H; exact H) | (simp only [hji5] at H ⊢; exact H)
    by_cases c6 : 0 ≤ (ji5)
    · rw [if_pos c6] at H
      have c6b0 : decide (0 ≤ (ji5)) = true := decide_eq_true c6
      clear c6
      by_cases c7 : (ji5) < (l0.length : Int)
      · rw [if_pos c7] at H
        have c7b0 : decide ((ji5) < (l0.length : Int)) = true := decide_eq_true c7
        clear c7
        by_cases c8 : (wrap64 (((rdOf ByteArray.empty l0 (ji5)).size : Int) + 1)) = 0
        · rw [if_pos c8] at H
          exact absurd H (by simp)
        · rw [if_neg c8] at H
          have c8b0 : ((wrap64 (((rdOf ByteArray.empty l0 (ji5)).size : Int) + 1)) == 0) = false := beq_eq_false_iff_ne.mpr c8
          have c8b1 : ((wrap64 (((rdOf ByteArray.empty l0 (ji5)).size : Int) + 1)) != 0) = true := bne_iff_ne.mpr c8
          simp only [Option.some.injEq, Prod.mk.injEq] at H
          obtain ⟨rfl, rfl⟩ := H
          go_enter Try.func14, Try.ntmps14
          go_wp2_with (first | ((with_reducible refine gate_dst (N := 6) rfl ?_); refine box_event ?hg (N := 6) ?hd (cs := #[.int .i64 0, .int .i64 0]) (t := 28) ?hr ?_; (case hd => rfl); (case hg => rfl); (case hr => first | (go_simp; done) | (go_simp; rfl)); intro gb137 hg w9 hbox hb; have n0_ := Aside0.mk (below_step (by repeat (first | (with_reducible first | exact HB.out | apply below_alloc | apply pw_below_drewN | apply below_drew1) | exact HB.out)) hb); have n1_ := Aside0.mk (hbox); have n2_ := Aside0.mk ((by rw [hg]; exact (below_size (by repeat (first | (with_reducible first | exact HB.out | apply below_alloc | apply pw_below_drewN | apply below_drew1) | exact HB.out))) : w.heap.size ≤ gb137)); have n3_ := Aside0.mk ((by rw [hg]; exact (below_size (by repeat (first | (with_reducible first | exact HB.out | apply below_alloc | apply pw_below_drewN | apply below_drew1) | exact HB.out))) : w.heap.size ≤ gb137)); clear HB; have HB := n0_; have BK137 := n1_; have GW137 := n2_; have GE137 := n3_; clear n0_ n1_ n2_ n3_; clear hb hbox hg; have p138 : 0 ≤ ((ji5) : Int) := of_decide_eq_true (by first | (with_reducible assumption) | assumption); have q138 : (ji5) < (l0.length : Int) := of_decide_eq_true (by first | (with_reducible assumption) | assumption); obtain ⟨ad138, e138, hx138_0⟩ := Kd.at_string HR0.out (ji5) p138 q138; cases e138; replace hx138_0 := (HB.out.cell (World.block_lt_of_cell? w _ hx138_0)).trans hx138_0; replace p138 := eq_true p138; replace q138 := eq_true q138; have hcz10_0 : w9.cell? ⟨gb137, 0, none⟩ = some (.int .i64 0) := (blk_cell BK137.out 0).trans rfl; have hcz10_1 : w9.cell? ⟨gb137, 1, none⟩ = some (.int .i64 0) := (blk_cell BK137.out 1).trans rfl; have hfz10_0 := blk_frozen BK137.out 0; have hfz10_1 := blk_frozen BK137.out 1))
          refine bodyPost_ret (results_cell_row rfl _ _ gb137 28 #[.int .i64 ji5, .int .i64 (Int.tmod (wrap64 (a2)) (wrap64 (((rdOf ByteArray.empty l0 (ji5)).size : Int) + 1)))] (0, 0) _ rfl (by (with_reducible repeat (first | refine blk_drewN ?_ _ | refine blk_drew ?_ | refine blk_alloc ?_ _)); refine blk_put (cs := #[.int .i64 ji5, .int .i64 0]) ?_ 1 _ rfl; (with_reducible repeat (first | refine blk_drewN ?_ _ | refine blk_drew ?_ | refine blk_alloc ?_ _)); refine blk_put (cs := #[.int .i64 0, .int .i64 0]) ?_ 0 _ rfl; (with_reducible repeat (first | refine blk_drewN ?_ _ | refine blk_drew ?_ | refine blk_alloc ?_ _)); exact BK137.out) Try.underlying28 rfl (by kernel_rfl)) rfl ?_
          exact ⟨by first | rfl | (simp [errW_none, errW_some] <;> rfl) | (simp only [← hji5]; first | rfl | (simp [errW_none, errW_some] <;> rfl)) | (simp [*, errW_none, errW_some] <;> rfl), by repeat (first | (with_reducible first | exact HB.out | apply below_alloc | apply pw_below_drewN | apply below_drew1 | refine below_set ?_ GE137.out) | exact HB.out)⟩
      · rw [if_neg c7] at H
        exact absurd H (by simp)
    · rw [if_neg c6] at H
      exact absurd H (by simp)

/-! ### foolscapref5_Of: function 16 -/
def foolscapref5_Of.j0 : Nat → Int → Bool → Bool → Option (Int)
  | 0, _, _, _ => none
  | k + 1, x0, x1, x5 => if x5 = true then (some 0) else (if x1 = true then (some 1) else (if x0 ≥ 97 then (if x0 ≤ 122 then (some 1) else (if x0 ≥ 65 then (if x0 ≤ 90 then (some 1) else (if x0 ≥ 48 then (if x0 ≤ 57 then (some 1) else (if x0 = 95 then (some 1) else (if x0 ≥ 128 then (some 1) else (some 2)))) else (if x0 = 95 then (some 1) else (if x0 ≥ 128 then (some 1) else (some 2))))) else (if x0 ≥ 48 then (if x0 ≤ 57 then (some 1) else (if x0 = 95 then (some 1) else (if x0 ≥ 128 then (some 1) else (some 2)))) else (if x0 = 95 then (some 1) else (if x0 ≥ 128 then (some 1) else (some 2)))))) else (if x0 ≥ 65 then (if x0 ≤ 90 then (some 1) else (if x0 ≥ 48 then (if x0 ≤ 57 then (some 1) else (if x0 = 95 then (some 1) else (if x0 ≥ 128 then (some 1) else (some 2)))) else (if x0 = 95 then (some 1) else (if x0 ≥ 128 then (some 1) else (some 2))))) else (if x0 ≥ 48 then (if x0 ≤ 57 then (some 1) else (if x0 = 95 then (some 1) else (if x0 ≥ 128 then (some 1) else (some 2)))) else (if x0 = 95 then (some 1) else (if x0 ≥ 128 then (some 1) else (some 2)))))))
def foolscapref5_Of.f (k : Nat) (a0 : Int) (a1 : Bool) : Option (Int) := if a0 = 32 then (foolscapref5_Of.j0 k a0 a1 true) else (foolscapref5_Of.j0 k a0 a1 (a0 == 9))
theorem foolscapref5_Of.mono_l : ∀ k, (∀ y0 y1 y2, LeO (foolscapref5_Of.j0 k y0 y1 y2) (foolscapref5_Of.j0 (k + 1) y0 y1 y2))
  | 0 => fun _ _ _ r h => by simp [foolscapref5_Of.j0] at h
  | k + 1 => by
    have ih0 := foolscapref5_Of.mono_l k
    · intro y0 y1 y2
      unfold foolscapref5_Of.j0
      repeat' first
      | (with_reducible exact ih0 _ _ _)
      | (with_reducible exact LeO.refl _)
      | (with_reducible exact LeO.none _)
      | (with_reducible refine LeO.ite ?_ ?_)
      | (with_reducible refine LeO.bind ?_ (fun _ => ?_))
      | exact ih0 _ _ _
      | exact LeO.none _
      | refine LeO.ite ?_ ?_
      | refine LeO.bind ?_ (fun _ => ?_)
theorem foolscapref5_Of.mono : ∀ a0 a1 k, LeO (foolscapref5_Of.f k a0 a1) (foolscapref5_Of.f (k + 1) a0 a1) := by
  intro a0 a1 k
  have ih0 := foolscapref5_Of.mono_l k
  unfold foolscapref5_Of.f
  repeat' first
      | (with_reducible exact ih0 _ _ _)
      | (with_reducible exact LeO.refl _)
      | (with_reducible exact LeO.none _)
      | (with_reducible refine LeO.ite ?_ ?_)
      | (with_reducible refine LeO.bind ?_ (fun _ => ?_))
      | exact ih0 _ _ _
      | exact LeO.none _
      | refine LeO.ite ?_ ?_
      | refine LeO.bind ?_ (fun _ => ?_)
set_option maxHeartbeats 8000000 in
set_option maxRecDepth 100000 in
theorem foolscapref5_Of.calls (k : Nat) (a0 : Int) (a1 : Bool) (r : Int) (w : World) (h : foolscapref5_Of.f k a0 a1 = some r) :
    Calls Try.prog 16 #[.int .u8 a0, .bool a1] w fun e w' => e = .returned (.int .i64 r) ∧ Drawn0 w w' := by
  have H : (if a0 = 32 then (foolscapref5_Of.j0 k a0 a1 true) else (foolscapref5_Of.j0 k a0 a1 (a0 == 9))) = some r := h
  clear h
  have HC3 := Aside0.mk H
  clear H
  go_enter Try.func16, Try.ntmps16
  go_upto_region 1 with (fail)
  go_cut [5] (fun v5 wc => ∃ (kq : Nat) (x5_2 : Bool), v5 = .bool x5_2 ∧ Aside0 (foolscapref5_Of.j0 kq a0 a1 x5_2 = some r) ∧ Aside0 (kq ≤ k) ∧ Drawn0 w wc)
  case first =>
    have H := HC3.out
    clear HC3
    by_cases c4 : a0 = 32
    · rw [if_pos c4] at H
      have c4b0 : (a0 == 32) = true := beq_iff_eq.mpr c4
      have c4b1 : (a0 != 32) = false := bne_eq_false_iff_eq.mpr c4
      clear c4
      (first | rw [c4b0] | (simp only [i64_w, i32_w]; rw [c4b0]) | skip)
      have H' := Aside0.mk H
      clear H
      go_wp2
      go_meet
      case rel => exact ⟨_, (true), (by first | rfl | (simp; done) | (simp [*]; done)), H', ⟨by first | omega | exact Nat.le_refl _⟩, by repeat (first | exact Drawn0.refl _ | apply Drawn0.step)⟩
    · rw [if_neg c4] at H
      have c4b0 : (a0 == 32) = false := beq_eq_false_iff_ne.mpr c4
      have c4b1 : (a0 != 32) = true := bne_iff_ne.mpr c4
      (first | rw [c4b0] | (simp only [i64_w, i32_w]; rw [c4b0]) | skip)
      have H' := Aside0.mk H
      clear H
      go_wp2
      go_meet
      case rel => exact ⟨_, ((a0 == 9)), (by first | rfl | (simp; done) | (simp [*]; done)), H', ⟨by first | omega | exact Nat.le_refl _⟩, by repeat (first | exact Drawn0.refl _ | apply Drawn0.step)⟩
  case rest =>
    clear HC3
    try clear c1
    try clear p2
    try clear c4
    try clear c4b0
    try clear c4b1
    obtain ⟨kq, x5_2, rfl, HA, HJ2, ⟨mc2, rfl⟩⟩ := hcut
    cases kq with
    | zero => exact absurd HA.out (by simp [foolscapref5_Of.j0])
    | succ kj2 =>
      have H := HA.out
      clear HA
      simp only [foolscapref5_Of.j0] at H
      by_cases c5 : x5_2 = true
      · subst c5
        have H1 : (some 0) = some r := by rw [if_pos rfl] at H; exact H
        clear H
        have H := H1
        clear H1
        obtain rfl := Option.some.inj H
        go_wp2
        go_ret
        exact ⟨by first | rfl | (simp; done) | (simp [*]; done), by repeat (first | exact Drawn0.refl _ | apply Drawn0.step)⟩
      · replace c5 := Bool.eq_false_iff.mpr c5
        subst c5
        have H1 : (if a1 = true then (some 1) else (if a0 ≥ 97 then (if a0 ≤ 122 then (some 1) else (if a0 ≥ 65 then (if a0 ≤ 90 then (some 1) else (if a0 ≥ 48 then (if a0 ≤ 57 then (some 1) else (if a0 = 95 then (some 1) else (if a0 ≥ 128 then (some 1) else (some 2)))) else (if a0 = 95 then (some 1) else (if a0 ≥ 128 then (some 1) else (some 2))))) else (if a0 ≥ 48 then (if a0 ≤ 57 then (some 1) else (if a0 = 95 then (some 1) else (if a0 ≥ 128 then (some 1) else (some 2)))) else (if a0 = 95 then (some 1) else (if a0 ≥ 128 then (some 1) else (some 2)))))) else (if a0 ≥ 65 then (if a0 ≤ 90 then (some 1) else (if a0 ≥ 48 then (if a0 ≤ 57 then (some 1) else (if a0 = 95 then (some 1) else (if a0 ≥ 128 then (some 1) else (some 2)))) else (if a0 = 95 then (some 1) else (if a0 ≥ 128 then (some 1) else (some 2))))) else (if a0 ≥ 48 then (if a0 ≤ 57 then (some 1) else (if a0 = 95 then (some 1) else (if a0 ≥ 128 then (some 1) else (some 2)))) else (if a0 = 95 then (some 1) else (if a0 ≥ 128 then (some 1) else (some 2))))))) = some r := by rw [if_neg (show ¬ (false = true) by decide)] at H; exact H
        clear H
        have H := H1
        clear H1
        by_cases c6 : a1 = true
        · subst c6
          have H1 : (some 1) = some r := by rw [if_pos rfl] at H; exact H
          clear H
          have H := H1
          clear H1
          obtain rfl := Option.some.inj H
          go_wp2
          go_ret
          exact ⟨by first | rfl | (simp; done) | (simp [*]; done), by repeat (first | exact Drawn0.refl _ | apply Drawn0.step)⟩
        · replace c6 := Bool.eq_false_iff.mpr c6
          subst c6
          have H1 : (if a0 ≥ 97 then (if a0 ≤ 122 then (some 1) else (if a0 ≥ 65 then (if a0 ≤ 90 then (some 1) else (if a0 ≥ 48 then (if a0 ≤ 57 then (some 1) else (if a0 = 95 then (some 1) else (if a0 ≥ 128 then (some 1) else (some 2)))) else (if a0 = 95 then (some 1) else (if a0 ≥ 128 then (some 1) else (some 2))))) else (if a0 ≥ 48 then (if a0 ≤ 57 then (some 1) else (if a0 = 95 then (some 1) else (if a0 ≥ 128 then (some 1) else (some 2)))) else (if a0 = 95 then (some 1) else (if a0 ≥ 128 then (some 1) else (some 2)))))) else (if a0 ≥ 65 then (if a0 ≤ 90 then (some 1) else (if a0 ≥ 48 then (if a0 ≤ 57 then (some 1) else (if a0 = 95 then (some 1) else (if a0 ≥ 128 then (some 1) else (some 2)))) else (if a0 = 95 then (some 1) else (if a0 ≥ 128 then (some 1) else (some 2))))) else (if a0 ≥ 48 then (if a0 ≤ 57 then (some 1) else (if a0 = 95 then (some 1) else (if a0 ≥ 128 then (some 1) else (some 2)))) else (if a0 = 95 then (some 1) else (if a0 ≥ 128 then (some 1) else (some 2)))))) = some r := by rw [if_neg (show ¬ (false = true) by decide)] at H; exact H
          clear H
          have H := H1
          clear H1
          by_cases c7 : a0 ≥ 97
          · rw [if_pos c7] at H
            have c7b0 : decide (97 ≤ a0) = true := decide_eq_true c7
            clear c7
            by_cases c8 : a0 ≤ 122
            · rw [if_pos c8] at H
              have c8b0 : decide (a0 ≤ 122) = true := decide_eq_true c8
              clear c8
              obtain rfl := Option.some.inj H
              go_wp2
              go_ret
              exact ⟨by first | rfl | (simp; done) | (simp [*]; done), by repeat (first | exact Drawn0.refl _ | apply Drawn0.step)⟩
            · rw [if_neg c8] at H
              have c8b0 : decide (a0 ≤ 122) = false := decide_eq_false c8
              clear c8
              by_cases c9 : a0 ≥ 65
              · rw [if_pos c9] at H
                have c9b0 : decide (65 ≤ a0) = true := decide_eq_true c9
                clear c9
                by_cases c10 : a0 ≤ 90
                · rw [if_pos c10] at H
                  have c10b0 : decide (a0 ≤ 90) = true := decide_eq_true c10
                  clear c10
                  obtain rfl := Option.some.inj H
                  go_wp2
                  go_ret
                  exact ⟨by first | rfl | (simp; done) | (simp [*]; done), by repeat (first | exact Drawn0.refl _ | apply Drawn0.step)⟩
                · rw [if_neg c10] at H
                  have c10b0 : decide (a0 ≤ 90) = false := decide_eq_false c10
                  clear c10
                  by_cases c11 : a0 ≥ 48
                  · rw [if_pos c11] at H
                    have c11b0 : decide (48 ≤ a0) = true := decide_eq_true c11
                    clear c11
                    by_cases c12 : a0 ≤ 57
                    · rw [if_pos c12] at H
                      have c12b0 : decide (a0 ≤ 57) = true := decide_eq_true c12
                      clear c12
                      obtain rfl := Option.some.inj H
                      go_wp2
                      go_ret
                      exact ⟨by first | rfl | (simp; done) | (simp [*]; done), by repeat (first | exact Drawn0.refl _ | apply Drawn0.step)⟩
                    · rw [if_neg c12] at H
                      have c12b0 : decide (a0 ≤ 57) = false := decide_eq_false c12
                      clear c12
                      by_cases c13 : a0 = 95
                      · rw [if_pos c13] at H
                        have c13b0 : (a0 == 95) = true := beq_iff_eq.mpr c13
                        have c13b1 : (a0 != 95) = false := bne_eq_false_iff_eq.mpr c13
                        clear c13
                        obtain rfl := Option.some.inj H
                        go_wp2
                        go_ret
                        exact ⟨by first | rfl | (simp; done) | (simp [*]; done), by repeat (first | exact Drawn0.refl _ | apply Drawn0.step)⟩
                      · rw [if_neg c13] at H
                        have c13b0 : (a0 == 95) = false := beq_eq_false_iff_ne.mpr c13
                        have c13b1 : (a0 != 95) = true := bne_iff_ne.mpr c13
                        by_cases c14 : a0 ≥ 128
                        · rw [if_pos c14] at H
                          have c14b0 : decide (128 ≤ a0) = true := decide_eq_true c14
                          clear c14
                          obtain rfl := Option.some.inj H
                          go_wp2
                          go_ret
                          exact ⟨by first | rfl | (simp; done) | (simp [*]; done), by repeat (first | exact Drawn0.refl _ | apply Drawn0.step)⟩
                        · rw [if_neg c14] at H
                          have c14b0 : decide (128 ≤ a0) = false := decide_eq_false c14
                          clear c14
                          obtain rfl := Option.some.inj H
                          go_wp2
                          go_ret
                          exact ⟨by first | rfl | (simp; done) | (simp [*]; done), by repeat (first | exact Drawn0.refl _ | apply Drawn0.step)⟩
                  · rw [if_neg c11] at H
                    have c11b0 : decide (48 ≤ a0) = false := decide_eq_false c11
                    clear c11
                    by_cases c15 : a0 = 95
                    · rw [if_pos c15] at H
                      have c15b0 : (a0 == 95) = true := beq_iff_eq.mpr c15
                      have c15b1 : (a0 != 95) = false := bne_eq_false_iff_eq.mpr c15
                      clear c15
                      obtain rfl := Option.some.inj H
                      go_wp2
                      go_ret
                      exact ⟨by first | rfl | (simp; done) | (simp [*]; done), by repeat (first | exact Drawn0.refl _ | apply Drawn0.step)⟩
                    · rw [if_neg c15] at H
                      have c15b0 : (a0 == 95) = false := beq_eq_false_iff_ne.mpr c15
                      have c15b1 : (a0 != 95) = true := bne_iff_ne.mpr c15
                      by_cases c16 : a0 ≥ 128
                      · rw [if_pos c16] at H
                        have c16b0 : decide (128 ≤ a0) = true := decide_eq_true c16
                        clear c16
                        obtain rfl := Option.some.inj H
                        go_wp2
                        go_ret
                        exact ⟨by first | rfl | (simp; done) | (simp [*]; done), by repeat (first | exact Drawn0.refl _ | apply Drawn0.step)⟩
                      · rw [if_neg c16] at H
                        have c16b0 : decide (128 ≤ a0) = false := decide_eq_false c16
                        clear c16
                        obtain rfl := Option.some.inj H
                        go_wp2
                        go_ret
                        exact ⟨by first | rfl | (simp; done) | (simp [*]; done), by repeat (first | exact Drawn0.refl _ | apply Drawn0.step)⟩
              · rw [if_neg c9] at H
                have c9b0 : decide (65 ≤ a0) = false := decide_eq_false c9
                clear c9
                by_cases c17 : a0 ≥ 48
                · rw [if_pos c17] at H
                  have c17b0 : decide (48 ≤ a0) = true := decide_eq_true c17
                  clear c17
                  by_cases c18 : a0 ≤ 57
                  · rw [if_pos c18] at H
                    have c18b0 : decide (a0 ≤ 57) = true := decide_eq_true c18
                    clear c18
                    obtain rfl := Option.some.inj H
                    go_wp2
                    go_ret
                    exact ⟨by first | rfl | (simp; done) | (simp [*]; done), by repeat (first | exact Drawn0.refl _ | apply Drawn0.step)⟩
                  · rw [if_neg c18] at H
                    have c18b0 : decide (a0 ≤ 57) = false := decide_eq_false c18
                    clear c18
                    by_cases c19 : a0 = 95
                    · rw [if_pos c19] at H
                      have c19b0 : (a0 == 95) = true := beq_iff_eq.mpr c19
                      have c19b1 : (a0 != 95) = false := bne_eq_false_iff_eq.mpr c19
                      clear c19
                      obtain rfl := Option.some.inj H
                      go_wp2
                      go_ret
                      exact ⟨by first | rfl | (simp; done) | (simp [*]; done), by repeat (first | exact Drawn0.refl _ | apply Drawn0.step)⟩
                    · rw [if_neg c19] at H
                      have c19b0 : (a0 == 95) = false := beq_eq_false_iff_ne.mpr c19
                      have c19b1 : (a0 != 95) = true := bne_iff_ne.mpr c19
                      by_cases c20 : a0 ≥ 128
                      · rw [if_pos c20] at H
                        have c20b0 : decide (128 ≤ a0) = true := decide_eq_true c20
                        clear c20
                        obtain rfl := Option.some.inj H
                        go_wp2
                        go_ret
                        exact ⟨by first | rfl | (simp; done) | (simp [*]; done), by repeat (first | exact Drawn0.refl _ | apply Drawn0.step)⟩
                      · rw [if_neg c20] at H
                        have c20b0 : decide (128 ≤ a0) = false := decide_eq_false c20
                        clear c20
                        obtain rfl := Option.some.inj H
                        go_wp2
                        go_ret
                        exact ⟨by first | rfl | (simp; done) | (simp [*]; done), by repeat (first | exact Drawn0.refl _ | apply Drawn0.step)⟩
                · rw [if_neg c17] at H
                  have c17b0 : decide (48 ≤ a0) = false := decide_eq_false c17
                  clear c17
                  by_cases c21 : a0 = 95
                  · rw [if_pos c21] at H
                    have c21b0 : (a0 == 95) = true := beq_iff_eq.mpr c21
                    have c21b1 : (a0 != 95) = false := bne_eq_false_iff_eq.mpr c21
                    clear c21
                    obtain rfl := Option.some.inj H
                    go_wp2
                    go_ret
                    exact ⟨by first | rfl | (simp; done) | (simp [*]; done), by repeat (first | exact Drawn0.refl _ | apply Drawn0.step)⟩
                  · rw [if_neg c21] at H
                    have c21b0 : (a0 == 95) = false := beq_eq_false_iff_ne.mpr c21
                    have c21b1 : (a0 != 95) = true := bne_iff_ne.mpr c21
                    by_cases c22 : a0 ≥ 128
                    · rw [if_pos c22] at H
                      have c22b0 : decide (128 ≤ a0) = true := decide_eq_true c22
                      clear c22
                      obtain rfl := Option.some.inj H
                      go_wp2
                      go_ret
                      exact ⟨by first | rfl | (simp; done) | (simp [*]; done), by repeat (first | exact Drawn0.refl _ | apply Drawn0.step)⟩
                    · rw [if_neg c22] at H
                      have c22b0 : decide (128 ≤ a0) = false := decide_eq_false c22
                      clear c22
                      obtain rfl := Option.some.inj H
                      go_wp2
                      go_ret
                      exact ⟨by first | rfl | (simp; done) | (simp [*]; done), by repeat (first | exact Drawn0.refl _ | apply Drawn0.step)⟩
          · rw [if_neg c7] at H
            have c7b0 : decide (97 ≤ a0) = false := decide_eq_false c7
            clear c7
            by_cases c23 : a0 ≥ 65
            · rw [if_pos c23] at H
              have c23b0 : decide (65 ≤ a0) = true := decide_eq_true c23
              clear c23
              by_cases c24 : a0 ≤ 90
              · rw [if_pos c24] at H
                have c24b0 : decide (a0 ≤ 90) = true := decide_eq_true c24
                clear c24
                obtain rfl := Option.some.inj H
                go_wp2
                go_ret
                exact ⟨by first | rfl | (simp; done) | (simp [*]; done), by repeat (first | exact Drawn0.refl _ | apply Drawn0.step)⟩
              · rw [if_neg c24] at H
                have c24b0 : decide (a0 ≤ 90) = false := decide_eq_false c24
                clear c24
                by_cases c25 : a0 ≥ 48
                · rw [if_pos c25] at H
                  have c25b0 : decide (48 ≤ a0) = true := decide_eq_true c25
                  clear c25
                  by_cases c26 : a0 ≤ 57
                  · rw [if_pos c26] at H
                    have c26b0 : decide (a0 ≤ 57) = true := decide_eq_true c26
                    clear c26
                    obtain rfl := Option.some.inj H
                    go_wp2
                    go_ret
                    exact ⟨by first | rfl | (simp; done) | (simp [*]; done), by repeat (first | exact Drawn0.refl _ | apply Drawn0.step)⟩
                  · rw [if_neg c26] at H
                    have c26b0 : decide (a0 ≤ 57) = false := decide_eq_false c26
                    clear c26
                    by_cases c27 : a0 = 95
                    · rw [if_pos c27] at H
                      have c27b0 : (a0 == 95) = true := beq_iff_eq.mpr c27
                      have c27b1 : (a0 != 95) = false := bne_eq_false_iff_eq.mpr c27
                      clear c27
                      obtain rfl := Option.some.inj H
                      go_wp2
                      go_ret
                      exact ⟨by first | rfl | (simp; done) | (simp [*]; done), by repeat (first | exact Drawn0.refl _ | apply Drawn0.step)⟩
                    · rw [if_neg c27] at H
                      have c27b0 : (a0 == 95) = false := beq_eq_false_iff_ne.mpr c27
                      have c27b1 : (a0 != 95) = true := bne_iff_ne.mpr c27
                      by_cases c28 : a0 ≥ 128
                      · rw [if_pos c28] at H
                        have c28b0 : decide (128 ≤ a0) = true := decide_eq_true c28
                        clear c28
                        obtain rfl := Option.some.inj H
                        go_wp2
                        go_ret
                        exact ⟨by first | rfl | (simp; done) | (simp [*]; done), by repeat (first | exact Drawn0.refl _ | apply Drawn0.step)⟩
                      · rw [if_neg c28] at H
                        have c28b0 : decide (128 ≤ a0) = false := decide_eq_false c28
                        clear c28
                        obtain rfl := Option.some.inj H
                        go_wp2
                        go_ret
                        exact ⟨by first | rfl | (simp; done) | (simp [*]; done), by repeat (first | exact Drawn0.refl _ | apply Drawn0.step)⟩
                · rw [if_neg c25] at H
                  have c25b0 : decide (48 ≤ a0) = false := decide_eq_false c25
                  clear c25
                  by_cases c29 : a0 = 95
                  · rw [if_pos c29] at H
                    have c29b0 : (a0 == 95) = true := beq_iff_eq.mpr c29
                    have c29b1 : (a0 != 95) = false := bne_eq_false_iff_eq.mpr c29
                    clear c29
                    obtain rfl := Option.some.inj H
                    go_wp2
                    go_ret
                    exact ⟨by first | rfl | (simp; done) | (simp [*]; done), by repeat (first | exact Drawn0.refl _ | apply Drawn0.step)⟩
                  · rw [if_neg c29] at H
                    have c29b0 : (a0 == 95) = false := beq_eq_false_iff_ne.mpr c29
                    have c29b1 : (a0 != 95) = true := bne_iff_ne.mpr c29
                    by_cases c30 : a0 ≥ 128
                    · rw [if_pos c30] at H
                      have c30b0 : decide (128 ≤ a0) = true := decide_eq_true c30
                      clear c30
                      obtain rfl := Option.some.inj H
                      go_wp2
                      go_ret
                      exact ⟨by first | rfl | (simp; done) | (simp [*]; done), by repeat (first | exact Drawn0.refl _ | apply Drawn0.step)⟩
                    · rw [if_neg c30] at H
                      have c30b0 : decide (128 ≤ a0) = false := decide_eq_false c30
                      clear c30
                      obtain rfl := Option.some.inj H
                      go_wp2
                      go_ret
                      exact ⟨by first | rfl | (simp; done) | (simp [*]; done), by repeat (first | exact Drawn0.refl _ | apply Drawn0.step)⟩
            · rw [if_neg c23] at H
              have c23b0 : decide (65 ≤ a0) = false := decide_eq_false c23
              clear c23
              by_cases c31 : a0 ≥ 48
              · rw [if_pos c31] at H
                have c31b0 : decide (48 ≤ a0) = true := decide_eq_true c31
                clear c31
                by_cases c32 : a0 ≤ 57
                · rw [if_pos c32] at H
                  have c32b0 : decide (a0 ≤ 57) = true := decide_eq_true c32
                  clear c32
                  obtain rfl := Option.some.inj H
                  go_wp2
                  go_ret
                  exact ⟨by first | rfl | (simp; done) | (simp [*]; done), by repeat (first | exact Drawn0.refl _ | apply Drawn0.step)⟩
                · rw [if_neg c32] at H
                  have c32b0 : decide (a0 ≤ 57) = false := decide_eq_false c32
                  clear c32
                  by_cases c33 : a0 = 95
                  · rw [if_pos c33] at H
                    have c33b0 : (a0 == 95) = true := beq_iff_eq.mpr c33
                    have c33b1 : (a0 != 95) = false := bne_eq_false_iff_eq.mpr c33
                    clear c33
                    obtain rfl := Option.some.inj H
                    go_wp2
                    go_ret
                    exact ⟨by first | rfl | (simp; done) | (simp [*]; done), by repeat (first | exact Drawn0.refl _ | apply Drawn0.step)⟩
                  · rw [if_neg c33] at H
                    have c33b0 : (a0 == 95) = false := beq_eq_false_iff_ne.mpr c33
                    have c33b1 : (a0 != 95) = true := bne_iff_ne.mpr c33
                    by_cases c34 : a0 ≥ 128
                    · rw [if_pos c34] at H
                      have c34b0 : decide (128 ≤ a0) = true := decide_eq_true c34
                      clear c34
                      obtain rfl := Option.some.inj H
                      go_wp2
                      go_ret
                      exact ⟨by first | rfl | (simp; done) | (simp [*]; done), by repeat (first | exact Drawn0.refl _ | apply Drawn0.step)⟩
                    · rw [if_neg c34] at H
                      have c34b0 : decide (128 ≤ a0) = false := decide_eq_false c34
                      clear c34
                      obtain rfl := Option.some.inj H
                      go_wp2
                      go_ret
                      exact ⟨by first | rfl | (simp; done) | (simp [*]; done), by repeat (first | exact Drawn0.refl _ | apply Drawn0.step)⟩
              · rw [if_neg c31] at H
                have c31b0 : decide (48 ≤ a0) = false := decide_eq_false c31
                clear c31
                by_cases c35 : a0 = 95
                · rw [if_pos c35] at H
                  have c35b0 : (a0 == 95) = true := beq_iff_eq.mpr c35
                  have c35b1 : (a0 != 95) = false := bne_eq_false_iff_eq.mpr c35
                  clear c35
                  obtain rfl := Option.some.inj H
                  go_wp2
                  go_ret
                  exact ⟨by first | rfl | (simp; done) | (simp [*]; done), by repeat (first | exact Drawn0.refl _ | apply Drawn0.step)⟩
                · rw [if_neg c35] at H
                  have c35b0 : (a0 == 95) = false := beq_eq_false_iff_ne.mpr c35
                  have c35b1 : (a0 != 95) = true := bne_iff_ne.mpr c35
                  by_cases c36 : a0 ≥ 128
                  · rw [if_pos c36] at H
                    have c36b0 : decide (128 ≤ a0) = true := decide_eq_true c36
                    clear c36
                    obtain rfl := Option.some.inj H
                    go_wp2
                    go_ret
                    exact ⟨by first | rfl | (simp; done) | (simp [*]; done), by repeat (first | exact Drawn0.refl _ | apply Drawn0.step)⟩
                  · rw [if_neg c36] at H
                    have c36b0 : decide (128 ≤ a0) = false := decide_eq_false c36
                    clear c36
                    obtain rfl := Option.some.inj H
                    go_wp2
                    go_ret
                    exact ⟨by first | rfl | (simp; done) | (simp [*]; done), by repeat (first | exact Drawn0.refl _ | apply Drawn0.step)⟩

end Go.Proofs.Ytbfoflhfmhfofaa.MFindWords
