-- PRINTED BY print.sh 35421559b90ae4d0a3588c463048766b98c2df88dd9212a6774a882060cdf62d: not written by this session
import Derived.Test.YtdcbgmeljakmcaaPClassTellsx0
import Derived.Test.YtdcbgmeljakmcaaPClassTellsx2
import Derived.Test.YtdcbgmeljakmcaaPClassTellsx3
namespace Go.Proofs.Ytdcbgmeljakmcaa.PClassTells
open Go.RowKit Go.Proofs.YtdcbgmeljakmcaaW.PrintWords Go.Proofs.YtdcbgmeljakmcaaW.PrintLast Go.Proofs.YtdcbgmeljakmcaaW.PrintMore
attribute [local go_sem] max2_int min2_int max_two min_two max_three min_three max_four min_four   -- for this text's walks alone
set_option linter.unusedVariables false
set_option linter.unusedSimpArgs false

/-! ### foolscaplaw5_ClassTells: function 3 -/
def foolscaplaw5_ClassTells.f (k : Nat) (a0 : Int) (a1 : ByteArray) : Option (Bool) := (foolscaplaw5_known.f k).bind fun t131 => (if t131 = true then (if (a1.size : Int) > 300 then (some true) else ((class_Of.f k a0 false).bind fun t132 => ((foolscapref5_Of.f k a0 false).bind fun t133 => (if t132 = t133 then ((class_Of.f k a0 true).bind fun t134 => ((foolscapref5_Of.f k a0 true).bind fun t135 => (if t134 = t135 then ((class_First.f k a1).bind fun t136 => ((foolscapref5_First.f k a1).bind fun t137 => (if t136 = t137 then (if 2 + a1.size ≤ 9223372036854775807 then ((class_First.f k ((⟨#[32, 9]⟩ : ByteArray) ++ a1)).bind fun t138 => ((foolscapref5_First.f k ((⟨#[32, 9]⟩ : ByteArray) ++ a1)).bind fun t139 => (some (t138 == t139)))) else (none)) else (some false)))) else (some false)))) else (some false))))) else (some false))
theorem foolscaplaw5_ClassTells.mono : ∀ a0 a1 k, LeO (foolscaplaw5_ClassTells.f k a0 a1) (foolscaplaw5_ClassTells.f (k + 1) a0 a1) := by
  intro a0 a1 k
  unfold foolscaplaw5_ClassTells.f
  repeat' first
      | (with_reducible exact class_First.mono _ _)
      | (with_reducible exact class_Of.mono _ _ _)
      | (with_reducible exact foolscaplaw5_known.mono _)
      | (with_reducible exact foolscapref5_First.mono _ _)
      | (with_reducible exact foolscapref5_Of.mono _ _ _)
      | (with_reducible exact LeO.refl _)
      | (with_reducible exact LeO.none _)
      | (with_reducible refine LeO.ite ?_ ?_)
      | (with_reducible refine LeO.bind ?_ (fun _ => ?_))
      | exact class_First.mono _ _
      | exact class_Of.mono _ _ _
      | exact foolscaplaw5_known.mono _
      | exact foolscapref5_First.mono _ _
      | exact foolscapref5_Of.mono _ _ _
      | exact LeO.none _
      | refine LeO.ite ?_ ?_
      | refine LeO.bind ?_ (fun _ => ?_)
set_option maxHeartbeats 8000000 in
set_option maxRecDepth 100000 in
theorem foolscaplaw5_ClassTells.calls (k : Nat) (a0 : Int) (a1 : ByteArray) (r : Bool) (w : World) (h : foolscaplaw5_ClassTells.f k a0 a1 = some r) :
    Calls Try.prog 3 #[.int .u8 a0, .string a1] w fun e w' => e = .returned (.bool r) ∧ Below w.heap.size w w' := by
  have HB := Aside0.mk (Below.refl w.heap.size w)
  have H : ((foolscaplaw5_known.f k).bind fun t131 => (if t131 = true then (if (a1.size : Int) > 300 then (some true) else ((class_Of.f k a0 false).bind fun t132 => ((foolscapref5_Of.f k a0 false).bind fun t133 => (if t132 = t133 then ((class_Of.f k a0 true).bind fun t134 => ((foolscapref5_Of.f k a0 true).bind fun t135 => (if t134 = t135 then ((class_First.f k a1).bind fun t136 => ((foolscapref5_First.f k a1).bind fun t137 => (if t136 = t137 then (if 2 + a1.size ≤ 9223372036854775807 then ((class_First.f k ((⟨#[32, 9]⟩ : ByteArray) ++ a1)).bind fun t138 => ((foolscapref5_First.f k ((⟨#[32, 9]⟩ : ByteArray) ++ a1)).bind fun t139 => (some (t138 == t139)))) else (none)) else (some false)))) else (some false)))) else (some false))))) else (some false))) = some r := h
  clear h
  replace H := Option.bind_eq_some_iff.mp H
  obtain ⟨t131, A30, H⟩ := H
  replace H : (if t131 = true then (if (a1.size : Int) > 300 then (some true) else ((class_Of.f k a0 false).bind fun t132 => ((foolscapref5_Of.f k a0 false).bind fun t133 => (if t132 = t133 then ((class_Of.f k a0 true).bind fun t134 => ((foolscapref5_Of.f k a0 true).bind fun t135 => (if t134 = t135 then ((class_First.f k a1).bind fun t136 => ((foolscapref5_First.f k a1).bind fun t137 => (if t136 = t137 then (if 2 + a1.size ≤ 9223372036854775807 then ((class_First.f k ((⟨#[32, 9]⟩ : ByteArray) ++ a1)).bind fun t138 => ((foolscapref5_First.f k ((⟨#[32, 9]⟩ : ByteArray) ++ a1)).bind fun t139 => (some (t138 == t139)))) else (none)) else (some false)))) else (some false)))) else (some false))))) else (some false)) = some r := H
  have A3 := Aside0.mk A30
  clear A30
  by_cases c4 : t131 = true
  · subst c4
    have H1 : (if (a1.size : Int) > 300 then (some true) else ((class_Of.f k a0 false).bind fun t132 => ((foolscapref5_Of.f k a0 false).bind fun t133 => (if t132 = t133 then ((class_Of.f k a0 true).bind fun t134 => ((foolscapref5_Of.f k a0 true).bind fun t135 => (if t134 = t135 then ((class_First.f k a1).bind fun t136 => ((foolscapref5_First.f k a1).bind fun t137 => (if t136 = t137 then (if 2 + a1.size ≤ 9223372036854775807 then ((class_First.f k ((⟨#[32, 9]⟩ : ByteArray) ++ a1)).bind fun t138 => ((foolscapref5_First.f k ((⟨#[32, 9]⟩ : ByteArray) ++ a1)).bind fun t139 => (some (t138 == t139)))) else (none)) else (some false)))) else (some false)))) else (some false))))) = some r := by rw [if_pos rfl] at H; exact H
    clear H
    have H := H1
    clear H1
    by_cases c5 : (a1.size : Int) > 300
    · rw [if_pos c5] at H
      have c5b0 : decide (300 < (a1.size : Int)) = true := decide_eq_true c5
      have c5b1 : decide (300 < a1.size) = true := decide_eq_true (by omega)
      clear c5
      obtain rfl := Option.some.inj H
      go_enter Try.func3, Try.ntmps3
      go_wp2_with (first | ((with_reducible refine gate_callee (f := 12) rfl ?_); refine goesL_ (some 5) rfl rfl Try.func12 (by kernel_rfl) rfl #[] rfl (by (try simp only [List.map_toArray, List.map_cons, List.map_nil]); first | done | rfl | (simp only [List.length_drop, List.length_take]; rfl)) ?_; (with_reducible refine (foolscaplaw5_known.calls k  true _ A3.out).mono ?_); rintro e w6 ⟨rfl, hb⟩; refine ⟨_, rfl, ?_⟩; have n0_ := Aside0.mk (below_step (by repeat (first | (with_reducible first | exact HB.out | apply below_alloc | apply pw_below_drewN | apply below_drew1) | exact HB.out)) hb); clear HB; have HB := n0_; clear n0_; (try clear hb); (try clear hb2); (try clear hk); (try clear hi)))
      go_ret
      exact ⟨by first | rfl | (simp [errW_none, errW_some] <;> rfl) | (simp [*, errW_none, errW_some] <;> rfl), by repeat (first | (with_reducible first | exact HB.out | apply below_alloc | apply pw_below_drewN | apply below_drew1) | exact HB.out)⟩
    · rw [if_neg c5] at H
      have c5b0 : decide (300 < (a1.size : Int)) = false := decide_eq_false c5
      have c5b1 : decide (300 < a1.size) = false := decide_eq_false (by omega)
      clear c5
      replace H := Option.bind_eq_some_iff.mp H
      obtain ⟨t132, A70, H⟩ := H
      replace H : ((foolscapref5_Of.f k a0 false).bind fun t133 => (if t132 = t133 then ((class_Of.f k a0 true).bind fun t134 => ((foolscapref5_Of.f k a0 true).bind fun t135 => (if t134 = t135 then ((class_First.f k a1).bind fun t136 => ((foolscapref5_First.f k a1).bind fun t137 => (if t136 = t137 then (if 2 + a1.size ≤ 9223372036854775807 then ((class_First.f k ((⟨#[32, 9]⟩ : ByteArray) ++ a1)).bind fun t138 => ((foolscapref5_First.f k ((⟨#[32, 9]⟩ : ByteArray) ++ a1)).bind fun t139 => (some (t138 == t139)))) else (none)) else (some false)))) else (some false)))) else (some false))) = some r := H
      have A7 := Aside0.mk A70
      clear A70
      replace H := Option.bind_eq_some_iff.mp H
      obtain ⟨t133, A80, H⟩ := H
      replace H : (if t132 = t133 then ((class_Of.f k a0 true).bind fun t134 => ((foolscapref5_Of.f k a0 true).bind fun t135 => (if t134 = t135 then ((class_First.f k a1).bind fun t136 => ((foolscapref5_First.f k a1).bind fun t137 => (if t136 = t137 then (if 2 + a1.size ≤ 9223372036854775807 then ((class_First.f k ((⟨#[32, 9]⟩ : ByteArray) ++ a1)).bind fun t138 => ((foolscapref5_First.f k ((⟨#[32, 9]⟩ : ByteArray) ++ a1)).bind fun t139 => (some (t138 == t139)))) else (none)) else (some false)))) else (some false)))) else (some false)) = some r := H
      have A8 := Aside0.mk A80
      clear A80
      by_cases c9 : t132 = t133
      · rw [if_pos c9] at H
        have c9b0 : (t132 == t133) = true := beq_iff_eq.mpr c9
        have c9b1 : (t132 != t133) = false := bne_eq_false_iff_eq.mpr c9
        clear c9
        replace H := Option.bind_eq_some_iff.mp H
        obtain ⟨t134, A100, H⟩ := H
        replace H : ((foolscapref5_Of.f k a0 true).bind fun t135 => (if t134 = t135 then ((class_First.f k a1).bind fun t136 => ((foolscapref5_First.f k a1).bind fun t137 => (if t136 = t137 then (if 2 + a1.size ≤ 9223372036854775807 then ((class_First.f k ((⟨#[32, 9]⟩ : ByteArray) ++ a1)).bind fun t138 => ((foolscapref5_First.f k ((⟨#[32, 9]⟩ : ByteArray) ++ a1)).bind fun t139 => (some (t138 == t139)))) else (none)) else (some false)))) else (some false))) = some r := H
        have A10 := Aside0.mk A100
        clear A100
        replace H := Option.bind_eq_some_iff.mp H
        obtain ⟨t135, A110, H⟩ := H
        replace H : (if t134 = t135 then ((class_First.f k a1).bind fun t136 => ((foolscapref5_First.f k a1).bind fun t137 => (if t136 = t137 then (if 2 + a1.size ≤ 9223372036854775807 then ((class_First.f k ((⟨#[32, 9]⟩ : ByteArray) ++ a1)).bind fun t138 => ((foolscapref5_First.f k ((⟨#[32, 9]⟩ : ByteArray) ++ a1)).bind fun t139 => (some (t138 == t139)))) else (none)) else (some false)))) else (some false)) = some r := H
        have A11 := Aside0.mk A110
        clear A110
        by_cases c12 : t134 = t135
        · rw [if_pos c12] at H
          have c12b0 : (t134 == t135) = true := beq_iff_eq.mpr c12
          have c12b1 : (t134 != t135) = false := bne_eq_false_iff_eq.mpr c12
          clear c12
          replace H := Option.bind_eq_some_iff.mp H
          obtain ⟨t136, A130, H⟩ := H
          replace H : ((foolscapref5_First.f k a1).bind fun t137 => (if t136 = t137 then (if 2 + a1.size ≤ 9223372036854775807 then ((class_First.f k ((⟨#[32, 9]⟩ : ByteArray) ++ a1)).bind fun t138 => ((foolscapref5_First.f k ((⟨#[32, 9]⟩ : ByteArray) ++ a1)).bind fun t139 => (some (t138 == t139)))) else (none)) else (some false))) = some r := H
          have A13 := Aside0.mk A130
          clear A130
          replace H := Option.bind_eq_some_iff.mp H
          obtain ⟨t137, A140, H⟩ := H
          replace H : (if t136 = t137 then (if 2 + a1.size ≤ 9223372036854775807 then ((class_First.f k ((⟨#[32, 9]⟩ : ByteArray) ++ a1)).bind fun t138 => ((foolscapref5_First.f k ((⟨#[32, 9]⟩ : ByteArray) ++ a1)).bind fun t139 => (some (t138 == t139)))) else (none)) else (some false)) = some r := H
          have A14 := Aside0.mk A140
          clear A140
          by_cases c15 : t136 = t137
          · rw [if_pos c15] at H
            have c15b0 : (t136 == t137) = true := beq_iff_eq.mpr c15
            have c15b1 : (t136 != t137) = false := bne_eq_false_iff_eq.mpr c15
            clear c15
            by_cases c16 : 2 + a1.size ≤ 9223372036854775807
            · rw [if_pos c16] at H
              have c16b0 := eq_true c16
              have c16b1 : decide (2 + a1.size ≤ 9223372036854775807) = true := decide_eq_true c16
              try have c16b2 : (9223372036854775807 < 2 + a1.size) = False := eq_false (Nat.not_lt.2 c16)
              replace H := Option.bind_eq_some_iff.mp H
              obtain ⟨t138, A170, H⟩ := H
              replace H : ((foolscapref5_First.f k ((⟨#[32, 9]⟩ : ByteArray) ++ a1)).bind fun t139 => (some (t138 == t139))) = some r := H
              have A17 := Aside0.mk A170
              clear A170
              replace H := Option.bind_eq_some_iff.mp H
              obtain ⟨t139, A180, H⟩ := H
              replace H : (some (t138 == t139)) = some r := H
              have A18 := Aside0.mk A180
              clear A180
              obtain rfl := Option.some.inj H
              go_enter Try.func3, Try.ntmps3
              go_wp2_with (first | ((with_reducible refine gate_callee (f := 12) rfl ?_); refine goesL_ (some 5) rfl rfl Try.func12 (by kernel_rfl) rfl #[] rfl (by (try simp only [List.map_toArray, List.map_cons, List.map_nil]); first | done | rfl | (simp only [List.length_drop, List.length_take]; rfl)) ?_; (with_reducible refine (foolscaplaw5_known.calls k  true _ A3.out).mono ?_); rintro e w19 ⟨rfl, hb⟩; refine ⟨_, rfl, ?_⟩; have n0_ := Aside0.mk (below_step (by repeat (first | (with_reducible first | exact HB.out | apply below_alloc | apply pw_below_drewN | apply below_drew1) | exact HB.out)) hb); clear HB; have HB := n0_; clear n0_; (try clear hb); (try clear hb2); (try clear hk); (try clear hi)) | ((with_reducible refine gate_callee (f := 13) rfl ?_); refine goesL_ (some 11) rfl rfl Try.func13 (by kernel_rfl) rfl #[.int .u8 a0, .bool false] rfl (by (try simp only [List.map_toArray, List.map_cons, List.map_nil]); first | done | rfl | (simp only [List.length_drop, List.length_take]; rfl)) ?_; (with_reducible refine (class_Of.calls k a0 false t132 _ A7.out).mono ?_); rintro e w' ⟨rfl, ⟨nd, rfl⟩⟩; refine ⟨_, rfl, ?_⟩) | ((with_reducible refine gate_callee (f := 14) rfl ?_); refine goesL_ (some 13) rfl rfl Try.func14 (by kernel_rfl) rfl #[.int .u8 a0, .bool false] rfl (by (try simp only [List.map_toArray, List.map_cons, List.map_nil]); first | done | rfl | (simp only [List.length_drop, List.length_take]; rfl)) ?_; (with_reducible refine (foolscapref5_Of.calls k a0 false t133 _ A8.out).mono ?_); rintro e w' ⟨rfl, ⟨nd, rfl⟩⟩; refine ⟨_, rfl, ?_⟩) | (go_at_call 13; (with_reducible refine (class_Of.calls k a0 true t134 _ A10.out).mono ?_); rintro e w' ⟨rfl, ⟨nd, rfl⟩⟩) | (go_at_call 14; (with_reducible refine (foolscapref5_Of.calls k a0 true t135 _ A11.out).mono ?_); rintro e w' ⟨rfl, ⟨nd, rfl⟩⟩) | (go_at_call 15; (with_reducible refine (class_First.calls k a1 t136 _ A13.out).mono ?_); rintro e w20 ⟨rfl, hb⟩; have n0_ := Aside0.mk (below_step (by repeat (first | (with_reducible first | exact HB.out | apply below_alloc | apply pw_below_drewN | apply below_drew1) | exact HB.out)) hb); clear HB; have HB := n0_; clear n0_; (try clear hb); (try clear hb2); (try clear hk); (try clear hi)) | (go_at_call 16; (with_reducible refine (foolscapref5_First.calls k a1 t137 _ A14.out).mono ?_); rintro e w21 ⟨rfl, hb⟩; have n0_ := Aside0.mk (below_step (by repeat (first | (with_reducible first | exact HB.out | apply below_alloc | apply pw_below_drewN | apply below_drew1) | exact HB.out)) hb); clear HB; have HB := n0_; clear n0_; (try clear hb); (try clear hb2); (try clear hk); (try clear hi)) | (go_at_call 15; (with_reducible refine (class_First.calls k ((⟨#[32, 9]⟩ : ByteArray) ++ a1) t138 _ A17.out).mono ?_); rintro e w22 ⟨rfl, hb⟩; have n0_ := Aside0.mk (below_step (by repeat (first | (with_reducible first | exact HB.out | apply below_alloc | apply pw_below_drewN | apply below_drew1) | exact HB.out)) hb); clear HB; have HB := n0_; clear n0_; (try clear hb); (try clear hb2); (try clear hk); (try clear hi)) | (go_at_call 16; (with_reducible refine (foolscapref5_First.calls k ((⟨#[32, 9]⟩ : ByteArray) ++ a1) t139 _ A18.out).mono ?_); rintro e w23 ⟨rfl, hb⟩; have n0_ := Aside0.mk (below_step (by repeat (first | (with_reducible first | exact HB.out | apply below_alloc | apply pw_below_drewN | apply below_drew1) | exact HB.out)) hb); clear HB; have HB := n0_; clear n0_; (try clear hb); (try clear hb2); (try clear hk); (try clear hi)))
              go_ret
              exact ⟨by first | rfl | (simp [errW_none, errW_some] <;> rfl) | (simp [*, errW_none, errW_some] <;> rfl), by repeat (first | (with_reducible first | exact HB.out | apply below_alloc | apply pw_below_drewN | apply below_drew1) | exact HB.out)⟩
            · rw [if_neg c16] at H
              exact absurd H (by simp)
          · rw [if_neg c15] at H
            have c15b0 : (t136 == t137) = false := beq_eq_false_iff_ne.mpr c15
            have c15b1 : (t136 != t137) = true := bne_iff_ne.mpr c15
            obtain rfl := Option.some.inj H
            go_enter Try.func3, Try.ntmps3
            go_wp2_with (first | ((with_reducible refine gate_callee (f := 12) rfl ?_); refine goesL_ (some 5) rfl rfl Try.func12 (by kernel_rfl) rfl #[] rfl (by (try simp only [List.map_toArray, List.map_cons, List.map_nil]); first | done | rfl | (simp only [List.length_drop, List.length_take]; rfl)) ?_; (with_reducible refine (foolscaplaw5_known.calls k  true _ A3.out).mono ?_); rintro e w24 ⟨rfl, hb⟩; refine ⟨_, rfl, ?_⟩; have n0_ := Aside0.mk (below_step (by repeat (first | (with_reducible first | exact HB.out | apply below_alloc | apply pw_below_drewN | apply below_drew1) | exact HB.out)) hb); clear HB; have HB := n0_; clear n0_; (try clear hb); (try clear hb2); (try clear hk); (try clear hi)) | ((with_reducible refine gate_callee (f := 13) rfl ?_); refine goesL_ (some 11) rfl rfl Try.func13 (by kernel_rfl) rfl #[.int .u8 a0, .bool false] rfl (by (try simp only [List.map_toArray, List.map_cons, List.map_nil]); first | done | rfl | (simp only [List.length_drop, List.length_take]; rfl)) ?_; (with_reducible refine (class_Of.calls k a0 false t132 _ A7.out).mono ?_); rintro e w' ⟨rfl, ⟨nd, rfl⟩⟩; refine ⟨_, rfl, ?_⟩) | ((with_reducible refine gate_callee (f := 14) rfl ?_); refine goesL_ (some 13) rfl rfl Try.func14 (by kernel_rfl) rfl #[.int .u8 a0, .bool false] rfl (by (try simp only [List.map_toArray, List.map_cons, List.map_nil]); first | done | rfl | (simp only [List.length_drop, List.length_take]; rfl)) ?_; (with_reducible refine (foolscapref5_Of.calls k a0 false t133 _ A8.out).mono ?_); rintro e w' ⟨rfl, ⟨nd, rfl⟩⟩; refine ⟨_, rfl, ?_⟩) | (go_at_call 13; (with_reducible refine (class_Of.calls k a0 true t134 _ A10.out).mono ?_); rintro e w' ⟨rfl, ⟨nd, rfl⟩⟩) | (go_at_call 14; (with_reducible refine (foolscapref5_Of.calls k a0 true t135 _ A11.out).mono ?_); rintro e w' ⟨rfl, ⟨nd, rfl⟩⟩) | (go_at_call 15; (with_reducible refine (class_First.calls k a1 t136 _ A13.out).mono ?_); rintro e w25 ⟨rfl, hb⟩; have n0_ := Aside0.mk (below_step (by repeat (first | (with_reducible first | exact HB.out | apply below_alloc | apply pw_below_drewN | apply below_drew1) | exact HB.out)) hb); clear HB; have HB := n0_; clear n0_; (try clear hb); (try clear hb2); (try clear hk); (try clear hi)) | (go_at_call 16; (with_reducible refine (foolscapref5_First.calls k a1 t137 _ A14.out).mono ?_); rintro e w26 ⟨rfl, hb⟩; have n0_ := Aside0.mk (below_step (by repeat (first | (with_reducible first | exact HB.out | apply below_alloc | apply pw_below_drewN | apply below_drew1) | exact HB.out)) hb); clear HB; have HB := n0_; clear n0_; (try clear hb); (try clear hb2); (try clear hk); (try clear hi)))
            go_ret
            exact ⟨by first | rfl | (simp [errW_none, errW_some] <;> rfl) | (simp [*, errW_none, errW_some] <;> rfl), by repeat (first | (with_reducible first | exact HB.out | apply below_alloc | apply pw_below_drewN | apply below_drew1) | exact HB.out)⟩
        · rw [if_neg c12] at H
          have c12b0 : (t134 == t135) = false := beq_eq_false_iff_ne.mpr c12
          have c12b1 : (t134 != t135) = true := bne_iff_ne.mpr c12
          obtain rfl := Option.some.inj H
          go_enter Try.func3, Try.ntmps3
          go_wp2_with (first | ((with_reducible refine gate_callee (f := 12) rfl ?_); refine goesL_ (some 5) rfl rfl Try.func12 (by kernel_rfl) rfl #[] rfl (by (try simp only [List.map_toArray, List.map_cons, List.map_nil]); first | done | rfl | (simp only [List.length_drop, List.length_take]; rfl)) ?_; (with_reducible refine (foolscaplaw5_known.calls k  true _ A3.out).mono ?_); rintro e w27 ⟨rfl, hb⟩; refine ⟨_, rfl, ?_⟩; have n0_ := Aside0.mk (below_step (by repeat (first | (with_reducible first | exact HB.out | apply below_alloc | apply pw_below_drewN | apply below_drew1) | exact HB.out)) hb); clear HB; have HB := n0_; clear n0_; (try clear hb); (try clear hb2); (try clear hk); (try clear hi)) | ((with_reducible refine gate_callee (f := 13) rfl ?_); refine goesL_ (some 11) rfl rfl Try.func13 (by kernel_rfl) rfl #[.int .u8 a0, .bool false] rfl (by (try simp only [List.map_toArray, List.map_cons, List.map_nil]); first | done | rfl | (simp only [List.length_drop, List.length_take]; rfl)) ?_; (with_reducible refine (class_Of.calls k a0 false t132 _ A7.out).mono ?_); rintro e w' ⟨rfl, ⟨nd, rfl⟩⟩; refine ⟨_, rfl, ?_⟩) | ((with_reducible refine gate_callee (f := 14) rfl ?_); refine goesL_ (some 13) rfl rfl Try.func14 (by kernel_rfl) rfl #[.int .u8 a0, .bool false] rfl (by (try simp only [List.map_toArray, List.map_cons, List.map_nil]); first | done | rfl | (simp only [List.length_drop, List.length_take]; rfl)) ?_; (with_reducible refine (foolscapref5_Of.calls k a0 false t133 _ A8.out).mono ?_); rintro e w' ⟨rfl, ⟨nd, rfl⟩⟩; refine ⟨_, rfl, ?_⟩) | (go_at_call 13; (with_reducible refine (class_Of.calls k a0 true t134 _ A10.out).mono ?_); rintro e w' ⟨rfl, ⟨nd, rfl⟩⟩) | (go_at_call 14; (with_reducible refine (foolscapref5_Of.calls k a0 true t135 _ A11.out).mono ?_); rintro e w' ⟨rfl, ⟨nd, rfl⟩⟩))
          go_ret
          exact ⟨by first | rfl | (simp [errW_none, errW_some] <;> rfl) | (simp [*, errW_none, errW_some] <;> rfl), by repeat (first | (with_reducible first | exact HB.out | apply below_alloc | apply pw_below_drewN | apply below_drew1) | exact HB.out)⟩
      · rw [if_neg c9] at H
        have c9b0 : (t132 == t133) = false := beq_eq_false_iff_ne.mpr c9
        have c9b1 : (t132 != t133) = true := bne_iff_ne.mpr c9
        obtain rfl := Option.some.inj H
        go_enter Try.func3, Try.ntmps3
        go_wp2_with (first | ((with_reducible refine gate_callee (f := 12) rfl ?_); refine goesL_ (some 5) rfl rfl Try.func12 (by kernel_rfl) rfl #[] rfl (by (try simp only [List.map_toArray, List.map_cons, List.map_nil]); first | done | rfl | (simp only [List.length_drop, List.length_take]; rfl)) ?_; (with_reducible refine (foolscaplaw5_known.calls k  true _ A3.out).mono ?_); rintro e w28 ⟨rfl, hb⟩; refine ⟨_, rfl, ?_⟩; have n0_ := Aside0.mk (below_step (by repeat (first | (with_reducible first | exact HB.out | apply below_alloc | apply pw_below_drewN | apply below_drew1) | exact HB.out)) hb); clear HB; have HB := n0_; clear n0_; (try clear hb); (try clear hb2); (try clear hk); (try clear hi)) | ((with_reducible refine gate_callee (f := 13) rfl ?_); refine goesL_ (some 11) rfl rfl Try.func13 (by kernel_rfl) rfl #[.int .u8 a0, .bool false] rfl (by (try simp only [List.map_toArray, List.map_cons, List.map_nil]); first | done | rfl | (simp only [List.length_drop, List.length_take]; rfl)) ?_; (with_reducible refine (class_Of.calls k a0 false t132 _ A7.out).mono ?_); rintro e w' ⟨rfl, ⟨nd, rfl⟩⟩; refine ⟨_, rfl, ?_⟩) | ((with_reducible refine gate_callee (f := 14) rfl ?_); refine goesL_ (some 13) rfl rfl Try.func14 (by kernel_rfl) rfl #[.int .u8 a0, .bool false] rfl (by (try simp only [List.map_toArray, List.map_cons, List.map_nil]); first | done | rfl | (simp only [List.length_drop, List.length_take]; rfl)) ?_; (with_reducible refine (foolscapref5_Of.calls k a0 false t133 _ A8.out).mono ?_); rintro e w' ⟨rfl, ⟨nd, rfl⟩⟩; refine ⟨_, rfl, ?_⟩))
        go_ret
        exact ⟨by first | rfl | (simp [errW_none, errW_some] <;> rfl) | (simp [*, errW_none, errW_some] <;> rfl), by repeat (first | (with_reducible first | exact HB.out | apply below_alloc | apply pw_below_drewN | apply below_drew1) | exact HB.out)⟩
  · replace c4 := Bool.eq_false_iff.mpr c4
    subst c4
    have H1 : (some false) = some r := by rw [if_neg (show ¬ (false = true) by decide)] at H; exact H
    clear H
    have H := H1
    clear H1
    obtain rfl := Option.some.inj H
    go_enter Try.func3, Try.ntmps3
    go_wp2_with (first | ((with_reducible refine gate_callee (f := 12) rfl ?_); refine goesL_ (some 5) rfl rfl Try.func12 (by kernel_rfl) rfl #[] rfl (by (try simp only [List.map_toArray, List.map_cons, List.map_nil]); first | done | rfl | (simp only [List.length_drop, List.length_take]; rfl)) ?_; (with_reducible refine (foolscaplaw5_known.calls k  false _ A3.out).mono ?_); rintro e w29 ⟨rfl, hb⟩; refine ⟨_, rfl, ?_⟩; have n0_ := Aside0.mk (below_step (by repeat (first | (with_reducible first | exact HB.out | apply below_alloc | apply pw_below_drewN | apply below_drew1) | exact HB.out)) hb); clear HB; have HB := n0_; clear n0_; (try clear hb); (try clear hb2); (try clear hk); (try clear hi)))
    go_ret
    exact ⟨by first | rfl | (simp [errW_none, errW_some] <;> rfl) | (simp [*, errW_none, errW_some] <;> rfl), by repeat (first | (with_reducible first | exact HB.out | apply below_alloc | apply pw_below_drewN | apply below_drew1) | exact HB.out)⟩

/-- THE ONE PURE STATEMENT of foolscaplaw5_ClassTells: yours. -/
def foolscaplaw5_ClassTells.Pure : Prop := ∀ (a0 : Int) (a1 : ByteArray), (Lit.int .u8 a0).wf = true → a1.size ≤ 140737488351232 → ∃ k, foolscaplaw5_ClassTells.f k a0 a1 = some true
theorem foolscaplaw5_ClassTells.walk (P : foolscaplaw5_ClassTells.Pure) (a0 : Int) (a1 : ByteArray) (w : World) (w0 : (Lit.int .u8 a0).wf = true) (w1 : a1.size ≤ 140737488351232) :
    Calls Try.prog 3 #[.int .u8 a0, .string a1] w fun e w' => e = .returned (.bool true) ∧ Below w.heap.size w w' := by
  obtain ⟨k, h⟩ := P a0 a1 w0 w1
  refine (foolscaplaw5_ClassTells.calls k a0 a1 true w h).mono ?_
  rintro e w' ⟨rfl, hd⟩
  exact ⟨rfl, hd⟩

end Go.Proofs.Ytdcbgmeljakmcaa.PClassTells
