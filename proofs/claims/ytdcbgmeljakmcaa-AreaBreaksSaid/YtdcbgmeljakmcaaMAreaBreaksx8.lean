/- What the Go functions of this law compute, and that they do: written by this session's own program (wip/myprint), for all inputs that the print's conditions name. -/
import Derived.Test.YtdcbgmeljakmcaaMAreaBreaksx0
import Derived.Test.YtdcbgmeljakmcaaPeel
import Derived.Test.YtdcbgmeljakmcaaMAreaBreaksx1
import Derived.Test.YtdcbgmeljakmcaaMAreaBreaksx2
import Derived.Test.YtdcbgmeljakmcaaMAreaBreaksx3
import Derived.Test.YtdcbgmeljakmcaaMAreaBreaksx6
import Derived.Test.YtdcbgmeljakmcaaMAreaBreaksx7
namespace Go.Proofs.Ytdcbgmeljakmcaa.MAreaBreaks
open Go.Proofs.Ytdcbgmeljakmcaa.Peel Go.RowKit Go.Proofs.YtdcbgmeljakmcaaW.PrintWords Go.Proofs.YtdcbgmeljakmcaaW.PrintLast Go.Proofs.YtdcbgmeljakmcaaW.PrintMore
attribute [local go_sem] max2_int min2_int max_two min_two max_three min_three max_four min_four   -- for this text's walks alone
set_option linter.unusedVariables false
set_option linter.unusedSimpArgs false

attribute [local go_sem high] eqA28 eqA43
/-! ### foolscaplaw27_AreaBreaks: function 10 -/
def foolscaplaw27_AreaBreaks.f (k : Nat) (l0 : List ByteArray) (a1 : Int) (a2 : Int) (a3 : Int) : Option (Bool) := (foolscaplaw27_known.f k).bind fun t179 => (if t179 = true then ((foolscaphelp_Text.f k l0).bind fun t180 => (if t180 = true then ((foolscapseat_Place.f l0 a1 a2).bind fun bt181 => (if (wrap64 ((wrap64 (bt181.1 + 1)) + (wrap64 (Int.tmod a3 4)))) ≥ (l0.length : Int) then (some true) else ((area_Of.f k l0 bt181.1 bt181.2 (wrap64 ((wrap64 (bt181.1 + 1)) + (wrap64 (Int.tmod a3 4)))) 0 0 false 0).bind fun bt184 => (if 0 ≤ bt181.1 then (if bt181.1 < (l0.length : Int) then ((foolscapref5_First.f k (rdOf ByteArray.empty l0 bt181.1)).bind fun t192 => (if bt181.2 ≤ t192 then (if bt184.2.2.2.2.2 = true then (some (bt184.1 == 1 && ((bt184.2.1 == bt181.1 && (bt184.2.2.1 == 0)) && ((bt184.2.2.2.1 == (wrap64 ((wrap64 ((wrap64 (bt181.1 + 1)) + (wrap64 (Int.tmod a3 4)))) - 1)) && (bt184.2.2.2.2.1 == 0)))))) else (some false)) else (if 0 ≤ (wrap64 ((wrap64 ((wrap64 (bt181.1 + 1)) + (wrap64 (Int.tmod a3 4)))) - 1)) then (if (wrap64 ((wrap64 ((wrap64 (bt181.1 + 1)) + (wrap64 (Int.tmod a3 4)))) - 1)) < (l0.length : Int) then (if ((wrap64 ((wrap64 ((wrap64 (bt181.1 + 1)) + (wrap64 (Int.tmod a3 4)))) - 1)) == bt181.1 && (((rdOf ByteArray.empty l0 (wrap64 ((wrap64 ((wrap64 (bt181.1 + 1)) + (wrap64 (Int.tmod a3 4)))) - 1))).size : Int) == bt181.2)) = true then (some (!bt184.2.2.2.2.2)) else (if bt184.2.2.2.2.2 = true then (some (bt184.1 == 0 && ((bt184.2.1 == bt181.1 && (bt184.2.2.1 == bt181.2)) && ((bt184.2.2.2.1 == (wrap64 ((wrap64 ((wrap64 (bt181.1 + 1)) + (wrap64 (Int.tmod a3 4)))) - 1)) && (bt184.2.2.2.2.1 == ((rdOf ByteArray.empty l0 (wrap64 ((wrap64 ((wrap64 (bt181.1 + 1)) + (wrap64 (Int.tmod a3 4)))) - 1))).size : Int))))))) else (some false))) else (none)) else (none)))) else (none)) else (none))))) else (some true))) else (some false))
theorem foolscaplaw27_AreaBreaks.mono : ∀ a0 a1 a2 a3 k, LeO (foolscaplaw27_AreaBreaks.f k a0 a1 a2 a3) (foolscaplaw27_AreaBreaks.f (k + 1) a0 a1 a2 a3) := by
 intro a0 a1 a2 a3 k
 unfold foolscaplaw27_AreaBreaks.f
 repeat' first
   | (with_reducible exact area_Of.mono _ _ _ _ _ _ _ _ _)
   | (with_reducible exact foolscaphelp_Text.mono _ _)
   | (with_reducible exact foolscaplaw27_known.mono _)
   | (with_reducible exact foolscapref5_First.mono _ _)
   | (with_reducible exact LeO.refl _)
   | (with_reducible exact LeO.none _)
   | (with_reducible refine LeO.ite ?_ ?_)
   | (with_reducible refine LeO.bind ?_ (fun _ => ?_))
   | exact area_Of.mono _ _ _ _ _ _ _ _ _
   | exact foolscaphelp_Text.mono _ _
   | exact foolscaplaw27_known.mono _
   | exact foolscapref5_First.mono _ _
   | exact LeO.none _
   | refine LeO.ite ?_ ?_
   | refine LeO.bind ?_ (fun _ => ?_)
def foolscaplaw27_AreaBreaks.T10 : Bool × List (List Nat × List Nat) := (true, [([], []), ([0], [0]), ([], []), ([], []), ([3], [3]), ([2, 4], [2, 4]), ([5], [5]), ([6], [6]), ([1, 7], [1, 7])])
def foolscaplaw27_AreaBreaks.B10 : List Nat := [0, 1, 0, 0, 8, 28, 60, 124, 255]
theorem foolscaplaw27_AreaBreaks.tab10 : rtab .any (opsOf Try.f10 10) = foolscaplaw27_AreaBreaks.T10 := by kernel_rfl
theorem foolscaplaw27_AreaBreaks.bits10 : waitsOk foolscaplaw27_AreaBreaks.T10.2 foolscaplaw27_AreaBreaks.B10 = true := by kernel_rfl
set_option maxHeartbeats 8000000 in
set_option maxRecDepth 100000 in
theorem foolscaplaw27_AreaBreaks.calls (k : Nat) (A0 : Option Addr) (c0 : Nat) (l0 : List ByteArray) (a1 : Int) (a2 : Int) (a3 : Int) (r : Bool) (w : World) (hr0 : Kd.C Kd.string w A0 l0.length l0) (hc0 : l0.length ≤ c0) (h : foolscaplaw27_AreaBreaks.f k l0 a1 a2 a3 = some r) :
  Calls Try.prog 10 #[.slice A0 l0.length c0, .int .u16 a1, .int .u16 a2, .int .u8 a3] w fun e w' => e = .returned (.bool r) ∧ Below w.heap.size w w' := by
 have hu28 := Try.underlying28
 have hu38 := Try.underlying38
 have hu43 := Try.underlying43
 have HR0 := Aside0.mk hr0
 have HC0 := Aside0.mk hc0
 clear hr0 hc0
 have HB := Aside0.mk (Below.refl w.heap.size w)
 have H : ((foolscaplaw27_known.f k).bind fun t179 => (if t179 = true then ((foolscaphelp_Text.f k l0).bind fun t180 => (if t180 = true then ((foolscapseat_Place.f l0 a1 a2).bind fun bt181 => (if (wrap64 ((wrap64 (bt181.1 + 1)) + (wrap64 (Int.tmod a3 4)))) ≥ (l0.length : Int) then (some true) else ((area_Of.f k l0 bt181.1 bt181.2 (wrap64 ((wrap64 (bt181.1 + 1)) + (wrap64 (Int.tmod a3 4)))) 0 0 false 0).bind fun bt184 => (if 0 ≤ bt181.1 then (if bt181.1 < (l0.length : Int) then ((foolscapref5_First.f k (rdOf ByteArray.empty l0 bt181.1)).bind fun t192 => (if bt181.2 ≤ t192 then (if bt184.2.2.2.2.2 = true then (some (bt184.1 == 1 && ((bt184.2.1 == bt181.1 && (bt184.2.2.1 == 0)) && ((bt184.2.2.2.1 == (wrap64 ((wrap64 ((wrap64 (bt181.1 + 1)) + (wrap64 (Int.tmod a3 4)))) - 1)) && (bt184.2.2.2.2.1 == 0)))))) else (some false)) else (if 0 ≤ (wrap64 ((wrap64 ((wrap64 (bt181.1 + 1)) + (wrap64 (Int.tmod a3 4)))) - 1)) then (if (wrap64 ((wrap64 ((wrap64 (bt181.1 + 1)) + (wrap64 (Int.tmod a3 4)))) - 1)) < (l0.length : Int) then (if ((wrap64 ((wrap64 ((wrap64 (bt181.1 + 1)) + (wrap64 (Int.tmod a3 4)))) - 1)) == bt181.1 && (((rdOf ByteArray.empty l0 (wrap64 ((wrap64 ((wrap64 (bt181.1 + 1)) + (wrap64 (Int.tmod a3 4)))) - 1))).size : Int) == bt181.2)) = true then (some (!bt184.2.2.2.2.2)) else (if bt184.2.2.2.2.2 = true then (some (bt184.1 == 0 && ((bt184.2.1 == bt181.1 && (bt184.2.2.1 == bt181.2)) && ((bt184.2.2.2.1 == (wrap64 ((wrap64 ((wrap64 (bt181.1 + 1)) + (wrap64 (Int.tmod a3 4)))) - 1)) && (bt184.2.2.2.2.1 == ((rdOf ByteArray.empty l0 (wrap64 ((wrap64 ((wrap64 (bt181.1 + 1)) + (wrap64 (Int.tmod a3 4)))) - 1))).size : Int))))))) else (some false))) else (none)) else (none)))) else (none)) else (none))))) else (some true))) else (some false))) = some r := h
 clear h
 replace H := Option.bind_eq_some_iff.mp H
 obtain ⟨t179, A50, H⟩ := H
 replace H : (if t179 = true then ((foolscaphelp_Text.f k l0).bind fun t180 => (if t180 = true then ((foolscapseat_Place.f l0 a1 a2).bind fun bt181 => (if (wrap64 ((wrap64 (bt181.1 + 1)) + (wrap64 (Int.tmod a3 4)))) ≥ (l0.length : Int) then (some true) else ((area_Of.f k l0 bt181.1 bt181.2 (wrap64 ((wrap64 (bt181.1 + 1)) + (wrap64 (Int.tmod a3 4)))) 0 0 false 0).bind fun bt184 => (if 0 ≤ bt181.1 then (if bt181.1 < (l0.length : Int) then ((foolscapref5_First.f k (rdOf ByteArray.empty l0 bt181.1)).bind fun t192 => (if bt181.2 ≤ t192 then (if bt184.2.2.2.2.2 = true then (some (bt184.1 == 1 && ((bt184.2.1 == bt181.1 && (bt184.2.2.1 == 0)) && ((bt184.2.2.2.1 == (wrap64 ((wrap64 ((wrap64 (bt181.1 + 1)) + (wrap64 (Int.tmod a3 4)))) - 1)) && (bt184.2.2.2.2.1 == 0)))))) else (some false)) else (if 0 ≤ (wrap64 ((wrap64 ((wrap64 (bt181.1 + 1)) + (wrap64 (Int.tmod a3 4)))) - 1)) then (if (wrap64 ((wrap64 ((wrap64 (bt181.1 + 1)) + (wrap64 (Int.tmod a3 4)))) - 1)) < (l0.length : Int) then (if ((wrap64 ((wrap64 ((wrap64 (bt181.1 + 1)) + (wrap64 (Int.tmod a3 4)))) - 1)) == bt181.1 && (((rdOf ByteArray.empty l0 (wrap64 ((wrap64 ((wrap64 (bt181.1 + 1)) + (wrap64 (Int.tmod a3 4)))) - 1))).size : Int) == bt181.2)) = true then (some (!bt184.2.2.2.2.2)) else (if bt184.2.2.2.2.2 = true then (some (bt184.1 == 0 && ((bt184.2.1 == bt181.1 && (bt184.2.2.1 == bt181.2)) && ((bt184.2.2.2.1 == (wrap64 ((wrap64 ((wrap64 (bt181.1 + 1)) + (wrap64 (Int.tmod a3 4)))) - 1)) && (bt184.2.2.2.2.1 == ((rdOf ByteArray.empty l0 (wrap64 ((wrap64 ((wrap64 (bt181.1 + 1)) + (wrap64 (Int.tmod a3 4)))) - 1))).size : Int))))))) else (some false))) else (none)) else (none)))) else (none)) else (none))))) else (some true))) else (some false)) = some r := H
 have A5 := Aside0.mk A50
 clear A50
 by_cases c6 : t179 = true
 ·subst c6
  have H1 : ((foolscaphelp_Text.f k l0).bind fun t180 => (if t180 = true then ((foolscapseat_Place.f l0 a1 a2).bind fun bt181 => (if (wrap64 ((wrap64 (bt181.1 + 1)) + (wrap64 (Int.tmod a3 4)))) ≥ (l0.length : Int) then (some true) else ((area_Of.f k l0 bt181.1 bt181.2 (wrap64 ((wrap64 (bt181.1 + 1)) + (wrap64 (Int.tmod a3 4)))) 0 0 false 0).bind fun bt184 => (if 0 ≤ bt181.1 then (if bt181.1 < (l0.length : Int) then ((foolscapref5_First.f k (rdOf ByteArray.empty l0 bt181.1)).bind fun t192 => (if bt181.2 ≤ t192 then (if bt184.2.2.2.2.2 = true then (some (bt184.1 == 1 && ((bt184.2.1 == bt181.1 && (bt184.2.2.1 == 0)) && ((bt184.2.2.2.1 == (wrap64 ((wrap64 ((wrap64 (bt181.1 + 1)) + (wrap64 (Int.tmod a3 4)))) - 1)) && (bt184.2.2.2.2.1 == 0)))))) else (some false)) else (if 0 ≤ (wrap64 ((wrap64 ((wrap64 (bt181.1 + 1)) + (wrap64 (Int.tmod a3 4)))) - 1)) then (if (wrap64 ((wrap64 ((wrap64 (bt181.1 + 1)) + (wrap64 (Int.tmod a3 4)))) - 1)) < (l0.length : Int) then (if ((wrap64 ((wrap64 ((wrap64 (bt181.1 + 1)) + (wrap64 (Int.tmod a3 4)))) - 1)) == bt181.1 && (((rdOf ByteArray.empty l0 (wrap64 ((wrap64 ((wrap64 (bt181.1 + 1)) + (wrap64 (Int.tmod a3 4)))) - 1))).size : Int) == bt181.2)) = true then (some (!bt184.2.2.2.2.2)) else (if bt184.2.2.2.2.2 = true then (some (bt184.1 == 0 && ((bt184.2.1 == bt181.1 && (bt184.2.2.1 == bt181.2)) && ((bt184.2.2.2.1 == (wrap64 ((wrap64 ((wrap64 (bt181.1 + 1)) + (wrap64 (Int.tmod a3 4)))) - 1)) && (bt184.2.2.2.2.1 == ((rdOf ByteArray.empty l0 (wrap64 ((wrap64 ((wrap64 (bt181.1 + 1)) + (wrap64 (Int.tmod a3 4)))) - 1))).size : Int))))))) else (some false))) else (none)) else (none)))) else (none)) else (none))))) else (some true))) = some r := by rw [if_pos rfl] at H; exact H
  clear H
  have H := H1
  clear H1
  replace H := Option.bind_eq_some_iff.mp H
  obtain ⟨t180, A70, H⟩ := H
  replace H : (if t180 = true then ((foolscapseat_Place.f l0 a1 a2).bind fun bt181 => (if (wrap64 ((wrap64 (bt181.1 + 1)) + (wrap64 (Int.tmod a3 4)))) ≥ (l0.length : Int) then (some true) else ((area_Of.f k l0 bt181.1 bt181.2 (wrap64 ((wrap64 (bt181.1 + 1)) + (wrap64 (Int.tmod a3 4)))) 0 0 false 0).bind fun bt184 => (if 0 ≤ bt181.1 then (if bt181.1 < (l0.length : Int) then ((foolscapref5_First.f k (rdOf ByteArray.empty l0 bt181.1)).bind fun t192 => (if bt181.2 ≤ t192 then (if bt184.2.2.2.2.2 = true then (some (bt184.1 == 1 && ((bt184.2.1 == bt181.1 && (bt184.2.2.1 == 0)) && ((bt184.2.2.2.1 == (wrap64 ((wrap64 ((wrap64 (bt181.1 + 1)) + (wrap64 (Int.tmod a3 4)))) - 1)) && (bt184.2.2.2.2.1 == 0)))))) else (some false)) else (if 0 ≤ (wrap64 ((wrap64 ((wrap64 (bt181.1 + 1)) + (wrap64 (Int.tmod a3 4)))) - 1)) then (if (wrap64 ((wrap64 ((wrap64 (bt181.1 + 1)) + (wrap64 (Int.tmod a3 4)))) - 1)) < (l0.length : Int) then (if ((wrap64 ((wrap64 ((wrap64 (bt181.1 + 1)) + (wrap64 (Int.tmod a3 4)))) - 1)) == bt181.1 && (((rdOf ByteArray.empty l0 (wrap64 ((wrap64 ((wrap64 (bt181.1 + 1)) + (wrap64 (Int.tmod a3 4)))) - 1))).size : Int) == bt181.2)) = true then (some (!bt184.2.2.2.2.2)) else (if bt184.2.2.2.2.2 = true then (some (bt184.1 == 0 && ((bt184.2.1 == bt181.1 && (bt184.2.2.1 == bt181.2)) && ((bt184.2.2.2.1 == (wrap64 ((wrap64 ((wrap64 (bt181.1 + 1)) + (wrap64 (Int.tmod a3 4)))) - 1)) && (bt184.2.2.2.2.1 == ((rdOf ByteArray.empty l0 (wrap64 ((wrap64 ((wrap64 (bt181.1 + 1)) + (wrap64 (Int.tmod a3 4)))) - 1))).size : Int))))))) else (some false))) else (none)) else (none)))) else (none)) else (none))))) else (some true)) = some r := H
  have A7 := Aside0.mk A70
  clear A70
  by_cases c8 : t180 = true
  ·subst c8
   have H1 : ((foolscapseat_Place.f l0 a1 a2).bind fun bt181 => (if (wrap64 ((wrap64 (bt181.1 + 1)) + (wrap64 (Int.tmod a3 4)))) ≥ (l0.length : Int) then (some true) else ((area_Of.f k l0 bt181.1 bt181.2 (wrap64 ((wrap64 (bt181.1 + 1)) + (wrap64 (Int.tmod a3 4)))) 0 0 false 0).bind fun bt184 => (if 0 ≤ bt181.1 then (if bt181.1 < (l0.length : Int) then ((foolscapref5_First.f k (rdOf ByteArray.empty l0 bt181.1)).bind fun t192 => (if bt181.2 ≤ t192 then (if bt184.2.2.2.2.2 = true then (some (bt184.1 == 1 && ((bt184.2.1 == bt181.1 && (bt184.2.2.1 == 0)) && ((bt184.2.2.2.1 == (wrap64 ((wrap64 ((wrap64 (bt181.1 + 1)) + (wrap64 (Int.tmod a3 4)))) - 1)) && (bt184.2.2.2.2.1 == 0)))))) else (some false)) else (if 0 ≤ (wrap64 ((wrap64 ((wrap64 (bt181.1 + 1)) + (wrap64 (Int.tmod a3 4)))) - 1)) then (if (wrap64 ((wrap64 ((wrap64 (bt181.1 + 1)) + (wrap64 (Int.tmod a3 4)))) - 1)) < (l0.length : Int) then (if ((wrap64 ((wrap64 ((wrap64 (bt181.1 + 1)) + (wrap64 (Int.tmod a3 4)))) - 1)) == bt181.1 && (((rdOf ByteArray.empty l0 (wrap64 ((wrap64 ((wrap64 (bt181.1 + 1)) + (wrap64 (Int.tmod a3 4)))) - 1))).size : Int) == bt181.2)) = true then (some (!bt184.2.2.2.2.2)) else (if bt184.2.2.2.2.2 = true then (some (bt184.1 == 0 && ((bt184.2.1 == bt181.1 && (bt184.2.2.1 == bt181.2)) && ((bt184.2.2.2.1 == (wrap64 ((wrap64 ((wrap64 (bt181.1 + 1)) + (wrap64 (Int.tmod a3 4)))) - 1)) && (bt184.2.2.2.2.1 == ((rdOf ByteArray.empty l0 (wrap64 ((wrap64 ((wrap64 (bt181.1 + 1)) + (wrap64 (Int.tmod a3 4)))) - 1))).size : Int))))))) else (some false))) else (none)) else (none)))) else (none)) else (none))))) = some r := by rw [if_pos rfl] at H; exact H
   clear H
   have H := H1
   clear H1
   replace H := Option.bind_eq_some_iff.mp H
   obtain ⟨⟨t181, t182⟩, A90, H⟩ := H
   replace H : (if (wrap64 ((wrap64 (t181 + 1)) + (wrap64 (Int.tmod a3 4)))) ≥ (l0.length : Int) then (some true) else ((area_Of.f k l0 t181 t182 (wrap64 ((wrap64 (t181 + 1)) + (wrap64 (Int.tmod a3 4)))) 0 0 false 0).bind fun bt184 => (if 0 ≤ t181 then (if t181 < (l0.length : Int) then ((foolscapref5_First.f k (rdOf ByteArray.empty l0 t181)).bind fun t192 => (if t182 ≤ t192 then (if bt184.2.2.2.2.2 = true then (some (bt184.1 == 1 && ((bt184.2.1 == t181 && (bt184.2.2.1 == 0)) && ((bt184.2.2.2.1 == (wrap64 ((wrap64 ((wrap64 (t181 + 1)) + (wrap64 (Int.tmod a3 4)))) - 1)) && (bt184.2.2.2.2.1 == 0)))))) else (some false)) else (if 0 ≤ (wrap64 ((wrap64 ((wrap64 (t181 + 1)) + (wrap64 (Int.tmod a3 4)))) - 1)) then (if (wrap64 ((wrap64 ((wrap64 (t181 + 1)) + (wrap64 (Int.tmod a3 4)))) - 1)) < (l0.length : Int) then (if ((wrap64 ((wrap64 ((wrap64 (t181 + 1)) + (wrap64 (Int.tmod a3 4)))) - 1)) == t181 && (((rdOf ByteArray.empty l0 (wrap64 ((wrap64 ((wrap64 (t181 + 1)) + (wrap64 (Int.tmod a3 4)))) - 1))).size : Int) == t182)) = true then (some (!bt184.2.2.2.2.2)) else (if bt184.2.2.2.2.2 = true then (some (bt184.1 == 0 && ((bt184.2.1 == t181 && (bt184.2.2.1 == t182)) && ((bt184.2.2.2.1 == (wrap64 ((wrap64 ((wrap64 (t181 + 1)) + (wrap64 (Int.tmod a3 4)))) - 1)) && (bt184.2.2.2.2.1 == ((rdOf ByteArray.empty l0 (wrap64 ((wrap64 ((wrap64 (t181 + 1)) + (wrap64 (Int.tmod a3 4)))) - 1))).size : Int))))))) else (some false))) else (none)) else (none)))) else (none)) else (none)))) = some r := H
   have A9 := Aside0.mk A90
   clear A90
   by_cases c10 : (wrap64 ((wrap64 (t181 + 1)) + (wrap64 (Int.tmod a3 4)))) ≥ (l0.length : Int)
   ·rw [if_pos c10] at H
    have c10b0 : decide ((l0.length : Int) ≤ (wrap64 ((wrap64 (t181 + 1)) + (wrap64 (Int.tmod a3 4))))) = true := decide_eq_true c10
    clear c10
    obtain rfl := Option.some.inj H
    go_enter Try.func10, Try.ntmps10
    go_wp2_with (first | ((with_reducible refine gate_callee (f := 25) rfl ?_); refine goesL_ (some 14) rfl rfl Try.func25 (by kernel_rfl) rfl #[] rfl (by (try simp only [List.map_toArray, List.map_cons, List.map_nil]); first | done | rfl | (simp only [List.length_drop, List.length_take]; rfl)) ?_; (with_reducible refine (foolscaplaw27_known.calls k  true _ A5.out).mono ?_); rintro e w11 ⟨rfl, hb⟩; refine ⟨_, rfl, ?_⟩; have n0_ := Aside0.mk (below_step (by repeat (first | (with_reducible first | exact HB.out | apply below_alloc | apply pw_below_drewN | apply below_drew1) | exact HB.out)) hb); clear HB; have HB := n0_; clear n0_; (try clear hb); (try clear hb2); (try clear hk); (try clear hi)) | ((with_reducible refine gate_callee (f := 24) rfl ?_); refine goesL_ (some 17) rfl rfl Try.func24 (by kernel_rfl) rfl #[.slice A0 l0.length c0] rfl (by (try simp only [List.map_toArray, List.map_cons, List.map_nil]); first | done | rfl | (simp only [List.length_drop, List.length_take]; rfl)) ?_; (with_reducible refine (foolscaphelp_Text.calls k _ _ l0 true _ ?side1 ?side2 A7.out).mono ?_); (case side1 => repeat (first | exact (Kd.C_below HR0.out HB.out) | (with_reducible refine Kd.C_alloc ?_ _) | (with_reducible refine Kd.C_drewN ?_ _) | (with_reducible refine Kd.C_drew ?_))); (case side2 => exact HC0.out); rintro e w' ⟨rfl, ⟨nd, rfl⟩⟩; refine ⟨_, rfl, ?_⟩; (try (rw [drewN_self w11]; generalize hq_ : World.drewN w11 _ = w11; have n0_ : Aside0 (Below w.heap.size w w11) := ⟨by rw [← hq_]; exact (by repeat (first | (with_reducible first | exact HB.out | apply below_alloc | apply pw_below_drewN | apply below_drew1) | exact HB.out))⟩; clear HB hq_; have HB := n0_; clear n0_))) | ((with_reducible refine gate_callee (f := 26) rfl ?_); refine goesL_ (some 22) rfl rfl Try.func26 (by kernel_rfl) rfl #[.slice A0 l0.length c0, .int .u16 a1, .int .u16 a2] rfl (by (try simp only [List.map_toArray, List.map_cons, List.map_nil]); first | done | rfl | (simp only [List.length_drop, List.length_take]; rfl)) ?_; (with_reducible refine (foolscapseat_Place.calls _ _ l0 a1 a2 t181 t182 _ ?side1 ?side2 A9.out).mono ?_); (case side1 => repeat (first | exact (Kd.C_below HR0.out HB.out) | (with_reducible refine Kd.C_alloc ?_ _) | (with_reducible refine Kd.C_drewN ?_ _) | (with_reducible refine Kd.C_drew ?_))); (case side2 => exact HC0.out); rintro e w12 ⟨rfl, hb⟩; refine ⟨_, rfl, ?_⟩; have n0_ := Aside0.mk (below_step (by repeat (first | (with_reducible first | exact HB.out | apply below_alloc | apply pw_below_drewN | apply below_drew1) | exact HB.out)) hb); clear HB; have HB := n0_; clear n0_; (try clear hb); (try clear hb2); (try clear hk); (try clear hi)) | ((with_reducible refine gate_dst (N := 9) rfl ?_); refine box_event ?hg (N := 9) ?hd (cs := #[.int .i64 0, .int .i64 0]) (t := 28) ?hr ?_; (case hd => rfl); (case hg => rfl); (case hr => first | (go_simp; done) | (go_simp; rfl)); intro gb183 hg w13 hbox hb; have n0_ := Aside0.mk (below_step (by repeat (first | (with_reducible first | exact HB.out | apply below_alloc | apply pw_below_drewN | apply below_drew1) | exact HB.out)) hb); have n1_ := Aside0.mk (hbox); have n2_ := Aside0.mk ((by rw [hg]; exact (below_size (by repeat (first | (with_reducible first | exact HB.out | apply below_alloc | apply pw_below_drewN | apply below_drew1) | exact HB.out))) : w.heap.size ≤ gb183)); have n3_ := Aside0.mk ((by rw [hg]; exact (below_size (by repeat (first | (with_reducible first | exact HB.out | apply below_alloc | apply pw_below_drewN | apply below_drew1) | exact HB.out))) : w.heap.size ≤ gb183)); clear HB; have HB := n0_; have BK183 := n1_; have GW183 := n2_; have GE183 := n3_; clear n0_ n1_ n2_ n3_; clear hb hbox hg; have hcz14_0 : w13.cell? ⟨gb183, 0, none⟩ = some (.int .i64 0) := (blk_cell BK183.out 0).trans rfl; have hcz14_1 : w13.cell? ⟨gb183, 1, none⟩ = some (.int .i64 0) := (blk_cell BK183.out 1).trans rfl; have hfz14_0 := blk_frozen BK183.out 0; have hfz14_1 := blk_frozen BK183.out 1))
    go_ret
    exact ⟨by first | rfl | (simp [errW_none, errW_some] <;> rfl) | (simp [*, errW_none, errW_some] <;> rfl), by repeat (first | (with_reducible first | exact HB.out | apply below_alloc | apply pw_below_drewN | apply below_drew1 | refine bset ?_ (by assumption)) | exact HB.out)⟩
   ·rw [if_neg c10] at H
    have c10b0 : decide ((l0.length : Int) ≤ (wrap64 ((wrap64 (t181 + 1)) + (wrap64 (Int.tmod a3 4))))) = false := decide_eq_false c10
    clear c10
    replace H := Option.bind_eq_some_iff.mp H
    obtain ⟨⟨t184, t185, t186, t187, t188, t189⟩, A150, H⟩ := H
    replace H : (if 0 ≤ t181 then (if t181 < (l0.length : Int) then ((foolscapref5_First.f k (rdOf ByteArray.empty l0 t181)).bind fun t192 => (if t182 ≤ t192 then (if t189 = true then (some (t184 == 1 && ((t185 == t181 && (t186 == 0)) && ((t187 == (wrap64 ((wrap64 ((wrap64 (t181 + 1)) + (wrap64 (Int.tmod a3 4)))) - 1)) && (t188 == 0)))))) else (some false)) else (if 0 ≤ (wrap64 ((wrap64 ((wrap64 (t181 + 1)) + (wrap64 (Int.tmod a3 4)))) - 1)) then (if (wrap64 ((wrap64 ((wrap64 (t181 + 1)) + (wrap64 (Int.tmod a3 4)))) - 1)) < (l0.length : Int) then (if ((wrap64 ((wrap64 ((wrap64 (t181 + 1)) + (wrap64 (Int.tmod a3 4)))) - 1)) == t181 && (((rdOf ByteArray.empty l0 (wrap64 ((wrap64 ((wrap64 (t181 + 1)) + (wrap64 (Int.tmod a3 4)))) - 1))).size : Int) == t182)) = true then (some (!t189)) else (if t189 = true then (some (t184 == 0 && ((t185 == t181 && (t186 == t182)) && ((t187 == (wrap64 ((wrap64 ((wrap64 (t181 + 1)) + (wrap64 (Int.tmod a3 4)))) - 1)) && (t188 == ((rdOf ByteArray.empty l0 (wrap64 ((wrap64 ((wrap64 (t181 + 1)) + (wrap64 (Int.tmod a3 4)))) - 1))).size : Int))))))) else (some false))) else (none)) else (none)))) else (none)) else (none)) = some r := H
    have A15 := Aside0.mk A150
    clear A150
    by_cases c16 : 0 ≤ t181
    ·rw [if_pos c16] at H
     have c16b0 : decide (0 ≤ t181) = true := decide_eq_true c16
     clear c16
     by_cases c17 : t181 < (l0.length : Int)
     ·rw [if_pos c17] at H
      have c17b0 : decide (t181 < (l0.length : Int)) = true := decide_eq_true c17
      clear c17
      replace H := Option.bind_eq_some_iff.mp H
      obtain ⟨t192, A180, H⟩ := H
      replace H : (if t182 ≤ t192 then (if t189 = true then (some (t184 == 1 && ((t185 == t181 && (t186 == 0)) && ((t187 == (wrap64 ((wrap64 ((wrap64 (t181 + 1)) + (wrap64 (Int.tmod a3 4)))) - 1)) && (t188 == 0)))))) else (some false)) else (if 0 ≤ (wrap64 ((wrap64 ((wrap64 (t181 + 1)) + (wrap64 (Int.tmod a3 4)))) - 1)) then (if (wrap64 ((wrap64 ((wrap64 (t181 + 1)) + (wrap64 (Int.tmod a3 4)))) - 1)) < (l0.length : Int) then (if ((wrap64 ((wrap64 ((wrap64 (t181 + 1)) + (wrap64 (Int.tmod a3 4)))) - 1)) == t181 && (((rdOf ByteArray.empty l0 (wrap64 ((wrap64 ((wrap64 (t181 + 1)) + (wrap64 (Int.tmod a3 4)))) - 1))).size : Int) == t182)) = true then (some (!t189)) else (if t189 = true then (some (t184 == 0 && ((t185 == t181 && (t186 == t182)) && ((t187 == (wrap64 ((wrap64 ((wrap64 (t181 + 1)) + (wrap64 (Int.tmod a3 4)))) - 1)) && (t188 == ((rdOf ByteArray.empty l0 (wrap64 ((wrap64 ((wrap64 (t181 + 1)) + (wrap64 (Int.tmod a3 4)))) - 1))).size : Int))))))) else (some false))) else (none)) else (none))) = some r := H
      have A18 := Aside0.mk A180
      clear A180
      by_cases c19 : t182 ≤ t192
      ·rw [if_pos c19] at H
       have c19b0 : decide (t182 ≤ t192) = true := decide_eq_true c19
       clear c19
       by_cases c20 : t189 = true
       ·subst c20
        have H1 : (some (t184 == 1 && ((t185 == t181 && (t186 == 0)) && ((t187 == (wrap64 ((wrap64 ((wrap64 (t181 + 1)) + (wrap64 (Int.tmod a3 4)))) - 1)) && (t188 == 0)))))) = some r := by rw [if_pos rfl] at H; exact H
        clear H
        have H := H1
        clear H1
        obtain rfl := Option.some.inj H
        go_enter Try.func10, Try.ntmps10
        try go_wp2_with (first | ((with_reducible refine gate_callee (f := 25) rfl ?_); refine goesL_ (some 14) rfl rfl Try.func25 (by kernel_rfl) rfl #[] rfl (by (try simp only [List.map_toArray, List.map_cons, List.map_nil]); first | done | rfl | (simp only [List.length_drop, List.length_take]; rfl)) ?_; (with_reducible refine (foolscaplaw27_known.calls k  true _ A5.out).mono ?_); rintro e w21 ⟨rfl, hb⟩; refine ⟨_, rfl, ?_⟩; have n0_ := Aside0.mk (below_step (by repeat (first | (with_reducible first | exact HB.out | apply below_alloc | apply pw_below_drewN | apply below_drew1) | exact HB.out)) hb); clear HB; have HB := n0_; clear n0_; (try clear hb); (try clear hb2); (try clear hk); (try clear hi)) | ((with_reducible refine gate_callee (f := 24) rfl ?_); refine goesL_ (some 17) rfl rfl Try.func24 (by kernel_rfl) rfl #[.slice A0 l0.length c0] rfl (by (try simp only [List.map_toArray, List.map_cons, List.map_nil]); first | done | rfl | (simp only [List.length_drop, List.length_take]; rfl)) ?_; (with_reducible refine (foolscaphelp_Text.calls k _ _ l0 true _ ?side1 ?side2 A7.out).mono ?_); (case side1 => repeat (first | exact (Kd.C_below HR0.out HB.out) | (with_reducible refine Kd.C_alloc ?_ _) | (with_reducible refine Kd.C_drewN ?_ _) | (with_reducible refine Kd.C_drew ?_))); (case side2 => exact HC0.out); rintro e w' ⟨rfl, ⟨nd, rfl⟩⟩; refine ⟨_, rfl, ?_⟩; (try (rw [drewN_self w21]; generalize hq_ : World.drewN w21 _ = w21; have n0_ : Aside0 (Below w.heap.size w w21) := ⟨by rw [← hq_]; exact (by repeat (first | (with_reducible first | exact HB.out | apply below_alloc | apply pw_below_drewN | apply below_drew1) | exact HB.out))⟩; clear HB hq_; have HB := n0_; clear n0_))) | ((with_reducible refine gate_callee (f := 26) rfl ?_); refine goesL_ (some 22) rfl rfl Try.func26 (by kernel_rfl) rfl #[.slice A0 l0.length c0, .int .u16 a1, .int .u16 a2] rfl (by (try simp only [List.map_toArray, List.map_cons, List.map_nil]); first | done | rfl | (simp only [List.length_drop, List.length_take]; rfl)) ?_; (with_reducible refine (foolscapseat_Place.calls _ _ l0 a1 a2 t181 t182 _ ?side1 ?side2 A9.out).mono ?_); (case side1 => repeat (first | exact (Kd.C_below HR0.out HB.out) | (with_reducible refine Kd.C_alloc ?_ _) | (with_reducible refine Kd.C_drewN ?_ _) | (with_reducible refine Kd.C_drew ?_))); (case side2 => exact HC0.out); rintro e w22 ⟨rfl, hb⟩; refine ⟨_, rfl, ?_⟩; have n0_ := Aside0.mk (below_step (by repeat (first | (with_reducible first | exact HB.out | apply below_alloc | apply pw_below_drewN | apply below_drew1) | exact HB.out)) hb); clear HB; have HB := n0_; clear n0_; (try clear hb); (try clear hb2); (try clear hk); (try clear hi)) | ((with_reducible refine gate_dst (N := 9) rfl ?_); refine box_event ?hg (N := 9) ?hd (cs := #[.int .i64 0, .int .i64 0]) (t := 28) ?hr ?_; (case hd => rfl); (case hg => rfl); (case hr => first | (go_simp; done) | (go_simp; rfl)); intro gb183 hg w23 hbox hb; have n0_ := Aside0.mk (below_step (by repeat (first | (with_reducible first | exact HB.out | apply below_alloc | apply pw_below_drewN | apply below_drew1) | exact HB.out)) hb); have n1_ := Aside0.mk (hbox); have n2_ := Aside0.mk ((by rw [hg]; exact (below_size (by repeat (first | (with_reducible first | exact HB.out | apply below_alloc | apply pw_below_drewN | apply below_drew1) | exact HB.out))) : w.heap.size ≤ gb183)); have n3_ := Aside0.mk ((by rw [hg]; exact (below_size (by repeat (first | (with_reducible first | exact HB.out | apply below_alloc | apply pw_below_drewN | apply below_drew1) | exact HB.out))) : w.heap.size ≤ gb183)); clear HB; have HB := n0_; have BK183 := n1_; have GW183 := n2_; have GE183 := n3_; clear n0_ n1_ n2_ n3_; clear hb hbox hg; have hcz24_0 : w23.cell? ⟨gb183, 0, none⟩ = some (.int .i64 0) := (blk_cell BK183.out 0).trans rfl; have hcz24_1 : w23.cell? ⟨gb183, 1, none⟩ = some (.int .i64 0) := (blk_cell BK183.out 1).trans rfl; have hfz24_0 := blk_frozen BK183.out 0; have hfz24_1 := blk_frozen BK183.out 1) | ((with_reducible refine gate_callee (f := 27) rfl ?_); refine goesL_ (some 40) rfl rfl Try.func27 (by kernel_rfl) rfl #[.slice A0 l0.length c0, .agg #[.int .i64 t181, .int .i64 t182], .agg #[.int .i64 (wrap64 ((wrap64 (t181 + 1)) + (wrap64 (Int.tmod a3 4)))), .int .i64 0, .int .i64 0, .bool false, .int .i64 0]] rfl (by (try simp only [List.map_toArray, List.map_cons, List.map_nil]); first | done | rfl | (simp only [List.length_drop, List.length_take]; rfl)) ?_; (with_reducible refine (area_Of.calls k _ _ l0 t181 t182 (wrap64 ((wrap64 (t181 + 1)) + (wrap64 (Int.tmod a3 4)))) 0 0 false 0 t184 t185 t186 t187 t188 true _ ?side1 ?side2 A15.out).mono ?_); (case side1 => exact Kd.C_below HR0.out (by repeat (first | (with_reducible first | exact HB.out | apply below_alloc | apply pw_below_drewN | apply below_drew1 | refine bset ?_ (by assumption)) | exact HB.out))); (case side2 => exact HC0.out); rintro e w25 ⟨rfl, hb⟩; refine ⟨_, rfl, ?_⟩; have n0_ := Aside0.mk (blk_below (g := gb183) (o := .cells #[.int .i64 t181, .int .i64 t182] 28 (0, 0)) (by refine pk ?_; refine blk_put (cs := #[.int .i64 t181, .int .i64 0]) ?_ 1 _ rfl; refine pk ?_; refine blk_put (cs := #[.int .i64 0, .int .i64 0]) ?_ 0 _ rfl; exact pk BK183.out) hb); have n1_ := Aside0.mk (below_step (by repeat (first | (with_reducible first | exact HB.out | apply below_alloc | apply pw_below_drewN | apply below_drew1 | refine bset ?_ (by assumption)) | exact HB.out)) hb); clear BK183; clear HB; have BK183 := n0_; have HB := n1_; clear n0_ n1_; (try clear hb); (try clear hb2); (try clear hk); (try clear hi)) | ((with_reducible refine gate_dst (N := 11) rfl ?_); refine box_event ?hg (N := 11) ?hd (cs := #[.int .i64 0, .int .i64 0, .int .i64 0, .int .i64 0, .int .i64 0]) (t := 43) ?hr ?_; (case hd => rfl); (case hg => rfl); (case hr => first | (go_simp; done) | (go_simp; rfl)); intro gb190 hg w26 hbox hb; have n0_ := Aside0.mk (blk_below (pk BK183.out) hb); have n1_ := Aside0.mk (below_step (by repeat (first | (with_reducible first | exact HB.out | apply below_alloc | apply pw_below_drewN | apply below_drew1 | refine bset ?_ (by assumption)) | exact HB.out)) hb); have n2_ := Aside0.mk (hbox); have n3_ := Aside0.mk ((by rw [hg]; exact (below_size (by repeat (first | (with_reducible first | exact HB.out | apply below_alloc | apply pw_below_drewN | apply below_drew1 | refine bset ?_ (by assumption)) | exact HB.out))) : w.heap.size ≤ gb190)); have n4_ := Aside0.mk ((by rw [hg]; exact (below_size (by repeat (first | (with_reducible first | exact HB.out | apply below_alloc | apply pw_below_drewN | apply below_drew1 | refine bset ?_ (by assumption)) | exact HB.out))) : w.heap.size ≤ gb190)); have n5_ := Aside0.mk ((by rw [hg]; exact Nat.ne_of_lt (blk_lt (pk BK183.out)) : gb183 ≠ gb190)); have n6_ := Aside0.mk ((by rw [hg]; exact Nat.ne_of_gt (blk_lt (pk BK183.out)) : gb190 ≠ gb183)); clear BK183; clear HB; have BK183 := n0_; have HB := n1_; have BK190 := n2_; have GW190 := n3_; have GE190 := n4_; have NB183_190 := n5_; have NB190_183 := n6_; clear n0_ n1_ n2_ n3_ n4_ n5_ n6_; clear hb hbox hg; have hnb27 := NB190_183.out; have hnc27 := NB183_190.out; have hcz28_0 : w26.cell? ⟨gb190, 0, none⟩ = some (.int .i64 0) := (blk_cell BK190.out 0).trans rfl; have hcz28_1 : w26.cell? ⟨gb190, 1, none⟩ = some (.int .i64 0) := (blk_cell BK190.out 1).trans rfl; have hcz28_2 : w26.cell? ⟨gb190, 2, none⟩ = some (.int .i64 0) := (blk_cell BK190.out 2).trans rfl; have hcz28_3 : w26.cell? ⟨gb190, 3, none⟩ = some (.int .i64 0) := (blk_cell BK190.out 3).trans rfl; have hcz28_4 : w26.cell? ⟨gb190, 4, none⟩ = some (.int .i64 0) := (blk_cell BK190.out 4).trans rfl; have hfz28_0 := blk_frozen BK190.out 0; have hfz28_1 := blk_frozen BK190.out 1; have hfz28_2 := blk_frozen BK190.out 2; have hfz28_3 := blk_frozen BK190.out 3; have hfz28_4 := blk_frozen BK190.out 4))
        have n0_ : Aside0 ((((((w26.setCell ⟨gb190, 0, none⟩ (.int .i64 t184)).setCell ⟨gb190, 1, none⟩ (.int .i64 t185)).setCell ⟨gb190, 2, none⟩ (.int .i64 t186)).setCell ⟨gb190, 3, none⟩ (.int .i64 t187)).setCell ⟨gb190, 4, none⟩ (.int .i64 t188)).heap[gb183]? = some (.cells #[.int .i64 t181, .int .i64 t182] 28 (0, 0))) := ⟨by refine pk ?_; refine blk_far ?_ NB183_190.out _; refine pk ?_; refine blk_far ?_ NB183_190.out _; refine pk ?_; refine blk_far ?_ NB183_190.out _; refine pk ?_; refine blk_far ?_ NB183_190.out _; refine pk ?_; refine blk_far ?_ NB183_190.out _; exact pk BK183.out⟩
        have n1_ : Aside0 ((((((w26.setCell ⟨gb190, 0, none⟩ (.int .i64 t184)).setCell ⟨gb190, 1, none⟩ (.int .i64 t185)).setCell ⟨gb190, 2, none⟩ (.int .i64 t186)).setCell ⟨gb190, 3, none⟩ (.int .i64 t187)).setCell ⟨gb190, 4, none⟩ (.int .i64 t188)).heap[gb190]? = some (.cells #[.int .i64 t184, .int .i64 t185, .int .i64 t186, .int .i64 t187, .int .i64 t188] 43 (0, 0))) := ⟨by refine pk ?_; refine blk_put (cs := #[.int .i64 t184, .int .i64 t185, .int .i64 t186, .int .i64 t187, .int .i64 0]) ?_ 4 _ rfl; refine pk ?_; refine blk_put (cs := #[.int .i64 t184, .int .i64 t185, .int .i64 t186, .int .i64 0, .int .i64 0]) ?_ 3 _ rfl; refine pk ?_; refine blk_put (cs := #[.int .i64 t184, .int .i64 t185, .int .i64 0, .int .i64 0, .int .i64 0]) ?_ 2 _ rfl; refine pk ?_; refine blk_put (cs := #[.int .i64 t184, .int .i64 0, .int .i64 0, .int .i64 0, .int .i64 0]) ?_ 1 _ rfl; refine pk ?_; refine blk_put (cs := #[.int .i64 0, .int .i64 0, .int .i64 0, .int .i64 0, .int .i64 0]) ?_ 0 _ rfl; exact pk BK190.out⟩
        have n2_ : Aside0 (Below w.heap.size w (((((w26.setCell ⟨gb190, 0, none⟩ (.int .i64 t184)).setCell ⟨gb190, 1, none⟩ (.int .i64 t185)).setCell ⟨gb190, 2, none⟩ (.int .i64 t186)).setCell ⟨gb190, 3, none⟩ (.int .i64 t187)).setCell ⟨gb190, 4, none⟩ (.int .i64 t188))) := ⟨by repeat (first | (with_reducible first | exact HB.out | apply below_alloc | apply pw_below_drewN | apply below_drew1 | refine bset ?_ (by assumption)) | exact HB.out)⟩
        (try clear BK183)
        (try clear BK190)
        (try clear HB)
        generalize (((((w26.setCell ⟨gb190, 0, none⟩ (.int .i64 t184)).setCell ⟨gb190, 1, none⟩ (.int .i64 t185)).setCell ⟨gb190, 2, none⟩ (.int .i64 t186)).setCell ⟨gb190, 3, none⟩ (.int .i64 t187)).setCell ⟨gb190, 4, none⟩ (.int .i64 t188)) = w29 at n0_ n1_ n2_ ⊢
        have BK183 := n0_
        have BK190 := n1_
        have HB := n2_
        clear n0_ n1_ n2_
        have n0_ := Aside0.mk (blk_drew BK183.out)
        have n1_ := Aside0.mk (blk_drew BK190.out)
        have n2_ := Aside0.mk (below_drew1 HB.out)
        clear BK183
        clear BK190
        clear HB
        have BK183 := n0_
        have BK190 := n1_
        have HB := n2_
        clear n0_ n1_ n2_
        have p191 : 0 ≤ (t181 : Int) := of_decide_eq_true (by first | (with_reducible assumption) | assumption)
        have q191 : t181 < (l0.length : Int) := of_decide_eq_true (by first | (with_reducible assumption) | assumption)
        obtain ⟨ad191, e191, hx191_0⟩ := Kd.at_string HR0.out t181 p191 q191
        have hw191_0 := hx191_0
        cases e191
        replace hx191_0 := (HB.out.cell (World.block_lt_of_cell? w _ hx191_0)).trans hx191_0
        replace p191 := eq_true p191
        replace q191 := eq_true q191
        refine start_ (n := 9) (S := fun w' => w'.cell? ⟨gb183, 0, none⟩ = some (.int .i64 t181) ∧ w'.cell? ⟨gb183, 1, none⟩ = some (.int .i64 t182) ∧ w'.cell? (ad191.add (t181).toNat) = some (.string (rdOf ByteArray.empty l0 t181))) (ds := []) #[false, false, false, false, false, false, false, false, false] (by kernel_rfl) rfl rfl ⟨(blk_cell BK183.out 0).trans rfl, (blk_cell BK183.out 1).trans rfl, ((HB.out.cell (World.block_lt_of_cell? w _ hw191_0)).trans hw191_0)⟩ (fun hHeld => ?_); refine with_tabW foolscaplaw27_AreaBreaks.tab10 foolscaplaw27_AreaBreaks.bits10 (fun HT_ HW_ => ?_)
        generalize w29.drew = w30 at BK183 BK190 HB hx191_0 hHeld ⊢
        refine pure_ (i := 0) (N := some 43) (v := ?_) (a' := ?_) #[true, false, false, false, false, false, false, false, false] rfl rfl (any_of HT_.out (by kernel_rfl)) (fun _ _ _ h => h) (Or.inl ⟨by rfl, ?_⟩) ?_ ?_
        rotate_left
        ·intro w'
         go_simp
         with_reducible rfl
        rotate_left
        ·simp only [Act.put, List.setIfInBounds_toArray, List.set_cons_zero, List.set_cons_succ, i64_w, i32_w]
         rfl
        refine pure_ (i := 2) (N := some 45) (v := ?_) (a' := ?_) #[true, false, true, false, false, false, false, false, false] rfl rfl (any_of HT_.out (by kernel_rfl)) (fun _ _ _ h => h) (Or.inl ⟨by rfl, ?_⟩) ?_ ?_
        rotate_left
        ·intro w'
         go_simp
         with_reducible rfl
        rotate_left
        ·simp only [Act.put, List.setIfInBounds_toArray, List.set_cons_zero, List.set_cons_succ, i64_w, i32_w]
         rfl
        refine pure_ (i := 3) (N := some 46) (v := ?_) (a' := ?_) #[true, false, true, true, false, false, false, false, false] rfl rfl (any_of HT_.out (by kernel_rfl)) (fun _ _ _ h => h) (Or.inl ⟨by rfl, ?_⟩) ?_ ?_
        rotate_left
        ·intro w'
         go_simp
         with_reducible rfl
        rotate_left
        ·simp only [Act.put, List.setIfInBounds_toArray, List.set_cons_zero, List.set_cons_succ, i64_w, i32_w]
         rfl
        refine take_ (i := 1) (N := some 44) (v := ?_) (a' := ?_) #[true, true, true, true, false, false, false, false, false] rfl rfl (take_ofW HT_.out HW_.out (by kernel_rfl)) (fun _ _ _ h => h) (Or.inl ⟨by rfl, ?_⟩) hHeld ?_ ?_
        rotate_left
        ·rintro w' ⟨s0, s1, s2⟩
         go_simp
         with_reducible rfl
        rotate_left
        ·simp only [Act.put, List.setIfInBounds_toArray, List.set_cons_zero, List.set_cons_succ, i64_w, i32_w]
         rfl
        refine take_ (i := 4) (N := some 47) (v := ?_) (a' := ?_) #[true, true, true, true, true, false, false, false, false] rfl rfl (take_ofW HT_.out HW_.out (by kernel_rfl)) (fun _ _ _ h => h) (Or.inl ⟨by rfl, ?_⟩) hHeld ?_ ?_
        rotate_left
        ·rintro w' ⟨s0, s1, s2⟩
         go_simp
         with_reducible rfl
        rotate_left
        ·simp only [Act.put, List.setIfInBounds_toArray, List.set_cons_zero, List.set_cons_succ, i64_w, i32_w]
         rfl
        refine pure_ (i := 5) (N := some 48) (v := ?_) (a' := ?_) #[true, true, true, true, true, true, false, false, false] rfl rfl (any_of HT_.out (by kernel_rfl)) (fun _ _ _ h => h) (Or.inl ⟨by rfl, ?_⟩) ?_ ?_
        rotate_left
        ·intro w'
         go_simp
         with_reducible rfl
        rotate_left
        ·simp only [Act.put, List.setIfInBounds_toArray, List.set_cons_zero, List.set_cons_succ, i64_w, i32_w]
         rfl
        refine take_ (i := 6) (N := some 49) (v := ?_) (a' := ?_) #[true, true, true, true, true, true, true, false, false] rfl rfl (take_ofW HT_.out HW_.out (by kernel_rfl)) (fun _ _ _ h => h) (Or.inl ⟨by rfl, ?_⟩) hHeld ?_ ?_
        rotate_left
        ·rintro w' ⟨s0, s1, s2⟩
         go_simp
         with_reducible rfl
        rotate_left
        ·simp only [Act.put, List.setIfInBounds_toArray, List.set_cons_zero, List.set_cons_succ, i64_w, i32_w]
         rfl
        refine one_ (i := 7) (N := some 50) #[true, true, true, true, true, true, true, true, false] rfl rfl (one_of HT_.out (by kernel_rfl)) (by decide) (fun K hK => ?_)
        refine goes_ Try.func16 (by kernel_rfl) rfl #[.string (rdOf ByteArray.empty l0 t181)] (by rfl) rfl rfl (by (try simp only [List.map_toArray, List.map_cons, List.map_nil]); first | done | rfl | (simp only [List.length_drop, List.length_take]; rfl)) ?_
        with_reducible refine (foolscapref5_First.calls k (rdOf ByteArray.empty l0 t181) t192 _ A18.out).mono ?_
        rintro e w31 ⟨rfl, hb⟩
        refine ⟨_, rfl, ?_⟩
        have n0_ := Aside0.mk (blk_below (pk BK183.out) hb)
        have n1_ := Aside0.mk (blk_below (pk BK190.out) hb)
        have n2_ := Aside0.mk (below_step (by repeat (first | (with_reducible first | exact HB.out | apply below_alloc | apply pw_below_drewN | apply below_drew1 | refine bset ?_ (by assumption)) | exact HB.out)) hb)
        clear BK183
        clear BK190
        clear HB
        have BK183 := n0_
        have BK190 := n1_
        have HB := n2_
        clear n0_ n1_ n2_
        (try clear hb)
        (try clear hb2)
        (try clear hk)
        (try clear hi)
        refine hK.out _ _ ⟨(blk_cell BK183.out 0).trans rfl, (blk_cell BK183.out 1).trans rfl, ((HB.out.cell (World.block_lt_of_cell? w _ hw191_0)).trans hw191_0)⟩ (fun hHeld => ?_)
        clear hK K
        refine norm_ (a' := ?_) ?_ ?_
        rotate_left
        ·show Act.put _ (some 50) _ = _
         simp only [Act.put, List.setIfInBounds_toArray, List.set_cons_zero, List.set_cons_succ, i64_w, i32_w]
         rfl
        refine pure_ (i := 8) (N := some 51) (v := ?_) (a' := ?_) #[true, true, true, true, true, true, true, true, true] rfl rfl (any_of HT_.out (by kernel_rfl)) (fun _ _ _ h => h) (Or.inl ⟨by rfl, ?_⟩) ?_ ?_
        rotate_left
        ·intro w'
         go_simp
         with_reducible rfl
        rotate_left
        ·simp only [Act.put, List.setIfInBounds_toArray, List.set_cons_zero, List.set_cons_succ, i64_w, i32_w]
         rfl
        refine done_ (done_of HT_.out (by kernel_rfl)) ?_
        have hcz32_0 : w31.cell? ⟨gb190, 0, none⟩ = some (.int .i64 t184) := (blk_cell BK190.out 0).trans rfl
        have hcz32_1 : w31.cell? ⟨gb190, 1, none⟩ = some (.int .i64 t185) := (blk_cell BK190.out 1).trans rfl
        have hcz32_2 : w31.cell? ⟨gb190, 2, none⟩ = some (.int .i64 t186) := (blk_cell BK190.out 2).trans rfl
        have hcz32_3 : w31.cell? ⟨gb190, 3, none⟩ = some (.int .i64 t187) := (blk_cell BK190.out 3).trans rfl
        have hcz32_4 : w31.cell? ⟨gb190, 4, none⟩ = some (.int .i64 t188) := (blk_cell BK190.out 4).trans rfl
        have hfz32_0 := blk_frozen BK190.out 0
        have hfz32_1 := blk_frozen BK190.out 1
        have hfz32_2 := blk_frozen BK190.out 2
        have hfz32_3 := blk_frozen BK190.out 3
        have hfz32_4 := blk_frozen BK190.out 4
        have hcz33_0 : w31.cell? ⟨gb183, 0, none⟩ = some (.int .i64 t181) := (blk_cell BK183.out 0).trans rfl
        have hcz33_1 : w31.cell? ⟨gb183, 1, none⟩ = some (.int .i64 t182) := (blk_cell BK183.out 1).trans rfl
        have hfz33_0 := blk_frozen BK183.out 0
        have hfz33_1 := blk_frozen BK183.out 1
        try go_wp2
        go_ret
        exact ⟨by first | rfl | (simp [errW_none, errW_some] <;> rfl) | (simp [*, errW_none, errW_some] <;> rfl), by repeat (first | (with_reducible first | exact HB.out | apply below_alloc | apply pw_below_drewN | apply below_drew1 | refine bset ?_ (by assumption)) | exact HB.out)⟩
       ·replace c20 := Bool.eq_false_iff.mpr c20
        subst c20
        have H1 : (some false) = some r := by rw [if_neg (show ¬ (false = true) by decide)] at H; exact H
        clear H
        have H := H1
        clear H1
        obtain rfl := Option.some.inj H
        go_enter Try.func10, Try.ntmps10
        try go_wp2_with (first | ((with_reducible refine gate_callee (f := 25) rfl ?_); refine goesL_ (some 14) rfl rfl Try.func25 (by kernel_rfl) rfl #[] rfl (by (try simp only [List.map_toArray, List.map_cons, List.map_nil]); first | done | rfl | (simp only [List.length_drop, List.length_take]; rfl)) ?_; (with_reducible refine (foolscaplaw27_known.calls k  true _ A5.out).mono ?_); rintro e w34 ⟨rfl, hb⟩; refine ⟨_, rfl, ?_⟩; have n0_ := Aside0.mk (below_step (by repeat (first | (with_reducible first | exact HB.out | apply below_alloc | apply pw_below_drewN | apply below_drew1) | exact HB.out)) hb); clear HB; have HB := n0_; clear n0_; (try clear hb); (try clear hb2); (try clear hk); (try clear hi)) | ((with_reducible refine gate_callee (f := 24) rfl ?_); refine goesL_ (some 17) rfl rfl Try.func24 (by kernel_rfl) rfl #[.slice A0 l0.length c0] rfl (by (try simp only [List.map_toArray, List.map_cons, List.map_nil]); first | done | rfl | (simp only [List.length_drop, List.length_take]; rfl)) ?_; (with_reducible refine (foolscaphelp_Text.calls k _ _ l0 true _ ?side1 ?side2 A7.out).mono ?_); (case side1 => repeat (first | exact (Kd.C_below HR0.out HB.out) | (with_reducible refine Kd.C_alloc ?_ _) | (with_reducible refine Kd.C_drewN ?_ _) | (with_reducible refine Kd.C_drew ?_))); (case side2 => exact HC0.out); rintro e w' ⟨rfl, ⟨nd, rfl⟩⟩; refine ⟨_, rfl, ?_⟩; (try (rw [drewN_self w34]; generalize hq_ : World.drewN w34 _ = w34; have n0_ : Aside0 (Below w.heap.size w w34) := ⟨by rw [← hq_]; exact (by repeat (first | (with_reducible first | exact HB.out | apply below_alloc | apply pw_below_drewN | apply below_drew1) | exact HB.out))⟩; clear HB hq_; have HB := n0_; clear n0_))) | ((with_reducible refine gate_callee (f := 26) rfl ?_); refine goesL_ (some 22) rfl rfl Try.func26 (by kernel_rfl) rfl #[.slice A0 l0.length c0, .int .u16 a1, .int .u16 a2] rfl (by (try simp only [List.map_toArray, List.map_cons, List.map_nil]); first | done | rfl | (simp only [List.length_drop, List.length_take]; rfl)) ?_; (with_reducible refine (foolscapseat_Place.calls _ _ l0 a1 a2 t181 t182 _ ?side1 ?side2 A9.out).mono ?_); (case side1 => repeat (first | exact (Kd.C_below HR0.out HB.out) | (with_reducible refine Kd.C_alloc ?_ _) | (with_reducible refine Kd.C_drewN ?_ _) | (with_reducible refine Kd.C_drew ?_))); (case side2 => exact HC0.out); rintro e w35 ⟨rfl, hb⟩; refine ⟨_, rfl, ?_⟩; have n0_ := Aside0.mk (below_step (by repeat (first | (with_reducible first | exact HB.out | apply below_alloc | apply pw_below_drewN | apply below_drew1) | exact HB.out)) hb); clear HB; have HB := n0_; clear n0_; (try clear hb); (try clear hb2); (try clear hk); (try clear hi)) | ((with_reducible refine gate_dst (N := 9) rfl ?_); refine box_event ?hg (N := 9) ?hd (cs := #[.int .i64 0, .int .i64 0]) (t := 28) ?hr ?_; (case hd => rfl); (case hg => rfl); (case hr => first | (go_simp; done) | (go_simp; rfl)); intro gb183 hg w36 hbox hb; have n0_ := Aside0.mk (below_step (by repeat (first | (with_reducible first | exact HB.out | apply below_alloc | apply pw_below_drewN | apply below_drew1) | exact HB.out)) hb); have n1_ := Aside0.mk (hbox); have n2_ := Aside0.mk ((by rw [hg]; exact (below_size (by repeat (first | (with_reducible first | exact HB.out | apply below_alloc | apply pw_below_drewN | apply below_drew1) | exact HB.out))) : w.heap.size ≤ gb183)); have n3_ := Aside0.mk ((by rw [hg]; exact (below_size (by repeat (first | (with_reducible first | exact HB.out | apply below_alloc | apply pw_below_drewN | apply below_drew1) | exact HB.out))) : w.heap.size ≤ gb183)); clear HB; have HB := n0_; have BK183 := n1_; have GW183 := n2_; have GE183 := n3_; clear n0_ n1_ n2_ n3_; clear hb hbox hg; have hcz37_0 : w36.cell? ⟨gb183, 0, none⟩ = some (.int .i64 0) := (blk_cell BK183.out 0).trans rfl; have hcz37_1 : w36.cell? ⟨gb183, 1, none⟩ = some (.int .i64 0) := (blk_cell BK183.out 1).trans rfl; have hfz37_0 := blk_frozen BK183.out 0; have hfz37_1 := blk_frozen BK183.out 1) | ((with_reducible refine gate_callee (f := 27) rfl ?_); refine goesL_ (some 40) rfl rfl Try.func27 (by kernel_rfl) rfl #[.slice A0 l0.length c0, .agg #[.int .i64 t181, .int .i64 t182], .agg #[.int .i64 (wrap64 ((wrap64 (t181 + 1)) + (wrap64 (Int.tmod a3 4)))), .int .i64 0, .int .i64 0, .bool false, .int .i64 0]] rfl (by (try simp only [List.map_toArray, List.map_cons, List.map_nil]); first | done | rfl | (simp only [List.length_drop, List.length_take]; rfl)) ?_; (with_reducible refine (area_Of.calls k _ _ l0 t181 t182 (wrap64 ((wrap64 (t181 + 1)) + (wrap64 (Int.tmod a3 4)))) 0 0 false 0 t184 t185 t186 t187 t188 false _ ?side1 ?side2 A15.out).mono ?_); (case side1 => exact Kd.C_below HR0.out (by repeat (first | (with_reducible first | exact HB.out | apply below_alloc | apply pw_below_drewN | apply below_drew1 | refine bset ?_ (by assumption)) | exact HB.out))); (case side2 => exact HC0.out); rintro e w38 ⟨rfl, hb⟩; refine ⟨_, rfl, ?_⟩; have n0_ := Aside0.mk (blk_below (g := gb183) (o := .cells #[.int .i64 t181, .int .i64 t182] 28 (0, 0)) (by refine pk ?_; refine blk_put (cs := #[.int .i64 t181, .int .i64 0]) ?_ 1 _ rfl; refine pk ?_; refine blk_put (cs := #[.int .i64 0, .int .i64 0]) ?_ 0 _ rfl; exact pk BK183.out) hb); have n1_ := Aside0.mk (below_step (by repeat (first | (with_reducible first | exact HB.out | apply below_alloc | apply pw_below_drewN | apply below_drew1 | refine bset ?_ (by assumption)) | exact HB.out)) hb); clear BK183; clear HB; have BK183 := n0_; have HB := n1_; clear n0_ n1_; (try clear hb); (try clear hb2); (try clear hk); (try clear hi)) | ((with_reducible refine gate_dst (N := 11) rfl ?_); refine box_event ?hg (N := 11) ?hd (cs := #[.int .i64 0, .int .i64 0, .int .i64 0, .int .i64 0, .int .i64 0]) (t := 43) ?hr ?_; (case hd => rfl); (case hg => rfl); (case hr => first | (go_simp; done) | (go_simp; rfl)); intro gb190 hg w39 hbox hb; have n0_ := Aside0.mk (blk_below (pk BK183.out) hb); have n1_ := Aside0.mk (below_step (by repeat (first | (with_reducible first | exact HB.out | apply below_alloc | apply pw_below_drewN | apply below_drew1 | refine bset ?_ (by assumption)) | exact HB.out)) hb); have n2_ := Aside0.mk (hbox); have n3_ := Aside0.mk ((by rw [hg]; exact (below_size (by repeat (first | (with_reducible first | exact HB.out | apply below_alloc | apply pw_below_drewN | apply below_drew1 | refine bset ?_ (by assumption)) | exact HB.out))) : w.heap.size ≤ gb190)); have n4_ := Aside0.mk ((by rw [hg]; exact (below_size (by repeat (first | (with_reducible first | exact HB.out | apply below_alloc | apply pw_below_drewN | apply below_drew1 | refine bset ?_ (by assumption)) | exact HB.out))) : w.heap.size ≤ gb190)); have n5_ := Aside0.mk ((by rw [hg]; exact Nat.ne_of_lt (blk_lt (pk BK183.out)) : gb183 ≠ gb190)); have n6_ := Aside0.mk ((by rw [hg]; exact Nat.ne_of_gt (blk_lt (pk BK183.out)) : gb190 ≠ gb183)); clear BK183; clear HB; have BK183 := n0_; have HB := n1_; have BK190 := n2_; have GW190 := n3_; have GE190 := n4_; have NB183_190 := n5_; have NB190_183 := n6_; clear n0_ n1_ n2_ n3_ n4_ n5_ n6_; clear hb hbox hg; have hnb40 := NB190_183.out; have hnc40 := NB183_190.out; have hcz41_0 : w39.cell? ⟨gb190, 0, none⟩ = some (.int .i64 0) := (blk_cell BK190.out 0).trans rfl; have hcz41_1 : w39.cell? ⟨gb190, 1, none⟩ = some (.int .i64 0) := (blk_cell BK190.out 1).trans rfl; have hcz41_2 : w39.cell? ⟨gb190, 2, none⟩ = some (.int .i64 0) := (blk_cell BK190.out 2).trans rfl; have hcz41_3 : w39.cell? ⟨gb190, 3, none⟩ = some (.int .i64 0) := (blk_cell BK190.out 3).trans rfl; have hcz41_4 : w39.cell? ⟨gb190, 4, none⟩ = some (.int .i64 0) := (blk_cell BK190.out 4).trans rfl; have hfz41_0 := blk_frozen BK190.out 0; have hfz41_1 := blk_frozen BK190.out 1; have hfz41_2 := blk_frozen BK190.out 2; have hfz41_3 := blk_frozen BK190.out 3; have hfz41_4 := blk_frozen BK190.out 4))
        have n0_ : Aside0 ((((((w39.setCell ⟨gb190, 0, none⟩ (.int .i64 t184)).setCell ⟨gb190, 1, none⟩ (.int .i64 t185)).setCell ⟨gb190, 2, none⟩ (.int .i64 t186)).setCell ⟨gb190, 3, none⟩ (.int .i64 t187)).setCell ⟨gb190, 4, none⟩ (.int .i64 t188)).heap[gb183]? = some (.cells #[.int .i64 t181, .int .i64 t182] 28 (0, 0))) := ⟨by refine pk ?_; refine blk_far ?_ NB183_190.out _; refine pk ?_; refine blk_far ?_ NB183_190.out _; refine pk ?_; refine blk_far ?_ NB183_190.out _; refine pk ?_; refine blk_far ?_ NB183_190.out _; refine pk ?_; refine blk_far ?_ NB183_190.out _; exact pk BK183.out⟩
        have n1_ : Aside0 ((((((w39.setCell ⟨gb190, 0, none⟩ (.int .i64 t184)).setCell ⟨gb190, 1, none⟩ (.int .i64 t185)).setCell ⟨gb190, 2, none⟩ (.int .i64 t186)).setCell ⟨gb190, 3, none⟩ (.int .i64 t187)).setCell ⟨gb190, 4, none⟩ (.int .i64 t188)).heap[gb190]? = some (.cells #[.int .i64 t184, .int .i64 t185, .int .i64 t186, .int .i64 t187, .int .i64 t188] 43 (0, 0))) := ⟨by refine pk ?_; refine blk_put (cs := #[.int .i64 t184, .int .i64 t185, .int .i64 t186, .int .i64 t187, .int .i64 0]) ?_ 4 _ rfl; refine pk ?_; refine blk_put (cs := #[.int .i64 t184, .int .i64 t185, .int .i64 t186, .int .i64 0, .int .i64 0]) ?_ 3 _ rfl; refine pk ?_; refine blk_put (cs := #[.int .i64 t184, .int .i64 t185, .int .i64 0, .int .i64 0, .int .i64 0]) ?_ 2 _ rfl; refine pk ?_; refine blk_put (cs := #[.int .i64 t184, .int .i64 0, .int .i64 0, .int .i64 0, .int .i64 0]) ?_ 1 _ rfl; refine pk ?_; refine blk_put (cs := #[.int .i64 0, .int .i64 0, .int .i64 0, .int .i64 0, .int .i64 0]) ?_ 0 _ rfl; exact pk BK190.out⟩
        have n2_ : Aside0 (Below w.heap.size w (((((w39.setCell ⟨gb190, 0, none⟩ (.int .i64 t184)).setCell ⟨gb190, 1, none⟩ (.int .i64 t185)).setCell ⟨gb190, 2, none⟩ (.int .i64 t186)).setCell ⟨gb190, 3, none⟩ (.int .i64 t187)).setCell ⟨gb190, 4, none⟩ (.int .i64 t188))) := ⟨by repeat (first | (with_reducible first | exact HB.out | apply below_alloc | apply pw_below_drewN | apply below_drew1 | refine bset ?_ (by assumption)) | exact HB.out)⟩
        (try clear BK183)
        (try clear BK190)
        (try clear HB)
        generalize (((((w39.setCell ⟨gb190, 0, none⟩ (.int .i64 t184)).setCell ⟨gb190, 1, none⟩ (.int .i64 t185)).setCell ⟨gb190, 2, none⟩ (.int .i64 t186)).setCell ⟨gb190, 3, none⟩ (.int .i64 t187)).setCell ⟨gb190, 4, none⟩ (.int .i64 t188)) = w42 at n0_ n1_ n2_ ⊢
        have BK183 := n0_
        have BK190 := n1_
        have HB := n2_
        clear n0_ n1_ n2_
        have n0_ := Aside0.mk (blk_drew BK183.out)
        have n1_ := Aside0.mk (blk_drew BK190.out)
        have n2_ := Aside0.mk (below_drew1 HB.out)
        clear BK183
        clear BK190
        clear HB
        have BK183 := n0_
        have BK190 := n1_
        have HB := n2_
        clear n0_ n1_ n2_
        have p191 : 0 ≤ (t181 : Int) := of_decide_eq_true (by first | (with_reducible assumption) | assumption)
        have q191 : t181 < (l0.length : Int) := of_decide_eq_true (by first | (with_reducible assumption) | assumption)
        obtain ⟨ad191, e191, hx191_0⟩ := Kd.at_string HR0.out t181 p191 q191
        have hw191_0 := hx191_0
        cases e191
        replace hx191_0 := (HB.out.cell (World.block_lt_of_cell? w _ hx191_0)).trans hx191_0
        replace p191 := eq_true p191
        replace q191 := eq_true q191
        refine start_ (n := 9) (S := fun w' => w'.cell? ⟨gb183, 0, none⟩ = some (.int .i64 t181) ∧ w'.cell? ⟨gb183, 1, none⟩ = some (.int .i64 t182) ∧ w'.cell? (ad191.add (t181).toNat) = some (.string (rdOf ByteArray.empty l0 t181))) (ds := []) #[false, false, false, false, false, false, false, false, false] (by kernel_rfl) rfl rfl ⟨(blk_cell BK183.out 0).trans rfl, (blk_cell BK183.out 1).trans rfl, ((HB.out.cell (World.block_lt_of_cell? w _ hw191_0)).trans hw191_0)⟩ (fun hHeld => ?_); refine with_tabW foolscaplaw27_AreaBreaks.tab10 foolscaplaw27_AreaBreaks.bits10 (fun HT_ HW_ => ?_)
        generalize w42.drew = w43 at BK183 BK190 HB hx191_0 hHeld ⊢
        refine pure_ (i := 0) (N := some 43) (v := ?_) (a' := ?_) #[true, false, false, false, false, false, false, false, false] rfl rfl (any_of HT_.out (by kernel_rfl)) (fun _ _ _ h => h) (Or.inl ⟨by rfl, ?_⟩) ?_ ?_
        rotate_left
        ·intro w'
         go_simp
         with_reducible rfl
        rotate_left
        ·simp only [Act.put, List.setIfInBounds_toArray, List.set_cons_zero, List.set_cons_succ, i64_w, i32_w]
         rfl
        refine pure_ (i := 2) (N := some 45) (v := ?_) (a' := ?_) #[true, false, true, false, false, false, false, false, false] rfl rfl (any_of HT_.out (by kernel_rfl)) (fun _ _ _ h => h) (Or.inl ⟨by rfl, ?_⟩) ?_ ?_
        rotate_left
        ·intro w'
         go_simp
         with_reducible rfl
        rotate_left
        ·simp only [Act.put, List.setIfInBounds_toArray, List.set_cons_zero, List.set_cons_succ, i64_w, i32_w]
         rfl
        refine pure_ (i := 3) (N := some 46) (v := ?_) (a' := ?_) #[true, false, true, true, false, false, false, false, false] rfl rfl (any_of HT_.out (by kernel_rfl)) (fun _ _ _ h => h) (Or.inl ⟨by rfl, ?_⟩) ?_ ?_
        rotate_left
        ·intro w'
         go_simp
         with_reducible rfl
        rotate_left
        ·simp only [Act.put, List.setIfInBounds_toArray, List.set_cons_zero, List.set_cons_succ, i64_w, i32_w]
         rfl
        refine take_ (i := 1) (N := some 44) (v := ?_) (a' := ?_) #[true, true, true, true, false, false, false, false, false] rfl rfl (take_ofW HT_.out HW_.out (by kernel_rfl)) (fun _ _ _ h => h) (Or.inl ⟨by rfl, ?_⟩) hHeld ?_ ?_
        rotate_left
        ·rintro w' ⟨s0, s1, s2⟩
         go_simp
         with_reducible rfl
        rotate_left
        ·simp only [Act.put, List.setIfInBounds_toArray, List.set_cons_zero, List.set_cons_succ, i64_w, i32_w]
         rfl
        refine take_ (i := 4) (N := some 47) (v := ?_) (a' := ?_) #[true, true, true, true, true, false, false, false, false] rfl rfl (take_ofW HT_.out HW_.out (by kernel_rfl)) (fun _ _ _ h => h) (Or.inl ⟨by rfl, ?_⟩) hHeld ?_ ?_
        rotate_left
        ·rintro w' ⟨s0, s1, s2⟩
         go_simp
         with_reducible rfl
        rotate_left
        ·simp only [Act.put, List.setIfInBounds_toArray, List.set_cons_zero, List.set_cons_succ, i64_w, i32_w]
         rfl
        refine pure_ (i := 5) (N := some 48) (v := ?_) (a' := ?_) #[true, true, true, true, true, true, false, false, false] rfl rfl (any_of HT_.out (by kernel_rfl)) (fun _ _ _ h => h) (Or.inl ⟨by rfl, ?_⟩) ?_ ?_
        rotate_left
        ·intro w'
         go_simp
         with_reducible rfl
        rotate_left
        ·simp only [Act.put, List.setIfInBounds_toArray, List.set_cons_zero, List.set_cons_succ, i64_w, i32_w]
         rfl
        refine take_ (i := 6) (N := some 49) (v := ?_) (a' := ?_) #[true, true, true, true, true, true, true, false, false] rfl rfl (take_ofW HT_.out HW_.out (by kernel_rfl)) (fun _ _ _ h => h) (Or.inl ⟨by rfl, ?_⟩) hHeld ?_ ?_
        rotate_left
        ·rintro w' ⟨s0, s1, s2⟩
         go_simp
         with_reducible rfl
        rotate_left
        ·simp only [Act.put, List.setIfInBounds_toArray, List.set_cons_zero, List.set_cons_succ, i64_w, i32_w]
         rfl
        refine one_ (i := 7) (N := some 50) #[true, true, true, true, true, true, true, true, false] rfl rfl (one_of HT_.out (by kernel_rfl)) (by decide) (fun K hK => ?_)
        refine goes_ Try.func16 (by kernel_rfl) rfl #[.string (rdOf ByteArray.empty l0 t181)] (by rfl) rfl rfl (by (try simp only [List.map_toArray, List.map_cons, List.map_nil]); first | done | rfl | (simp only [List.length_drop, List.length_take]; rfl)) ?_
        with_reducible refine (foolscapref5_First.calls k (rdOf ByteArray.empty l0 t181) t192 _ A18.out).mono ?_
        rintro e w44 ⟨rfl, hb⟩
        refine ⟨_, rfl, ?_⟩
        have n0_ := Aside0.mk (blk_below (pk BK183.out) hb)
        have n1_ := Aside0.mk (blk_below (pk BK190.out) hb)
        have n2_ := Aside0.mk (below_step (by repeat (first | (with_reducible first | exact HB.out | apply below_alloc | apply pw_below_drewN | apply below_drew1 | refine bset ?_ (by assumption)) | exact HB.out)) hb)
        clear BK183
        clear BK190
        clear HB
        have BK183 := n0_
        have BK190 := n1_
        have HB := n2_
        clear n0_ n1_ n2_
        (try clear hb)
        (try clear hb2)
        (try clear hk)
        (try clear hi)
        refine hK.out _ _ ⟨(blk_cell BK183.out 0).trans rfl, (blk_cell BK183.out 1).trans rfl, ((HB.out.cell (World.block_lt_of_cell? w _ hw191_0)).trans hw191_0)⟩ (fun hHeld => ?_)
        clear hK K
        refine norm_ (a' := ?_) ?_ ?_
        rotate_left
        ·show Act.put _ (some 50) _ = _
         simp only [Act.put, List.setIfInBounds_toArray, List.set_cons_zero, List.set_cons_succ, i64_w, i32_w]
         rfl
        refine pure_ (i := 8) (N := some 51) (v := ?_) (a' := ?_) #[true, true, true, true, true, true, true, true, true] rfl rfl (any_of HT_.out (by kernel_rfl)) (fun _ _ _ h => h) (Or.inl ⟨by rfl, ?_⟩) ?_ ?_
        rotate_left
        ·intro w'
         go_simp
         with_reducible rfl
        rotate_left
        ·simp only [Act.put, List.setIfInBounds_toArray, List.set_cons_zero, List.set_cons_succ, i64_w, i32_w]
         rfl
        refine done_ (done_of HT_.out (by kernel_rfl)) ?_
        try go_wp2
        go_ret
        exact ⟨by first | rfl | (simp [errW_none, errW_some] <;> rfl) | (simp [*, errW_none, errW_some] <;> rfl), by repeat (first | (with_reducible first | exact HB.out | apply below_alloc | apply pw_below_drewN | apply below_drew1 | refine bset ?_ (by assumption)) | exact HB.out)⟩
      ·rw [if_neg c19] at H
       have c19b0 : decide (t182 ≤ t192) = false := decide_eq_false c19
       clear c19
       obtain ⟨ji45, hji45⟩ : ∃ j_ : Int, (wrap64 ((wrap64 ((wrap64 (t181 + 1)) + (wrap64 (Int.tmod a3 4)))) - 1)) = j_ := ⟨_, rfl⟩
       replace H : (if 0 ≤ (ji45) then (if (ji45) < (l0.length : Int) then (if ((ji45) == t181 && (((rdOf ByteArray.empty l0 (ji45)).size : Int) == t182)) = true then (some (!t189)) else (if t189 = true then (some (t184 == 0 && ((t185 == t181 && (t186 == t182)) && ((t187 == (ji45) && (t188 == ((rdOf ByteArray.empty l0 (ji45)).size : Int))))))) else (some false))) else (none)) else (none)) = some r := by first | (rw [hji45] at H; exact H) | (simp only [hji45] at H ⊢; exact H)
       (try rw [hji45] at A5)
       (try rw [hji45] at A7)
       (try rw [hji45] at A9)
       (try rw [hji45] at A15)
       (try rw [hji45] at A18)
       have hji45w : (IntKind.i64.wrap ((wrap64 ((wrap64 (t181 + 1)) + (wrap64 (Int.tmod a3 4)))) - 1)) = ji45 := (i64_w _).trans hji45
       by_cases c46 : 0 ≤ (ji45)
       ·rw [if_pos c46] at H
        have c46b0 : decide (0 ≤ (ji45)) = true := decide_eq_true c46
        clear c46
        by_cases c47 : (ji45) < (l0.length : Int)
        ·rw [if_pos c47] at H
         have c47b0 : decide ((ji45) < (l0.length : Int)) = true := decide_eq_true c47
         clear c47
         by_cases c48 : ((ji45) == t181 && (((rdOf ByteArray.empty l0 (ji45)).size : Int) == t182)) = true
         ·rw [if_pos c48] at H
          have c48b0 : ((ji45) == t181 && (((rdOf ByteArray.empty l0 (ji45)).size : Int) == t182)) = true := c48
          (try (have c48b1 : decide ((ji45) = t181 && (((rdOf ByteArray.empty l0 (ji45)).size : Int) == t182)) = true := by simpa using c48))
          (try (have c48b2 : ((ji45) == t181 && (((rdOf ByteArray.empty l0 (ji45)).size : Int) == t182)) = true := by simpa using c48))
          clear c48
          obtain rfl := Option.some.inj H
          go_enter Try.func10, Try.ntmps10
          try go_wp2_with (first | ((with_reducible refine gate_callee (f := 25) rfl ?_); refine goesL_ (some 14) rfl rfl Try.func25 (by kernel_rfl) rfl #[] rfl (by (try simp only [List.map_toArray, List.map_cons, List.map_nil]); first | done | rfl | (simp only [List.length_drop, List.length_take]; rfl)) ?_; (with_reducible refine (foolscaplaw27_known.calls k  true _ A5.out).mono ?_); rintro e w49 ⟨rfl, hb⟩; refine ⟨_, rfl, ?_⟩; have n0_ := Aside0.mk (below_step (by repeat (first | (with_reducible first | exact HB.out | apply below_alloc | apply pw_below_drewN | apply below_drew1) | exact HB.out)) hb); clear HB; have HB := n0_; clear n0_; (try clear hb); (try clear hb2); (try clear hk); (try clear hi)) | ((with_reducible refine gate_callee (f := 24) rfl ?_); refine goesL_ (some 17) rfl rfl Try.func24 (by kernel_rfl) rfl #[.slice A0 l0.length c0] rfl (by (try simp only [List.map_toArray, List.map_cons, List.map_nil]); first | done | rfl | (simp only [List.length_drop, List.length_take]; rfl)) ?_; (with_reducible refine (foolscaphelp_Text.calls k _ _ l0 true _ ?side1 ?side2 A7.out).mono ?_); (case side1 => repeat (first | exact (Kd.C_below HR0.out HB.out) | (with_reducible refine Kd.C_alloc ?_ _) | (with_reducible refine Kd.C_drewN ?_ _) | (with_reducible refine Kd.C_drew ?_))); (case side2 => exact HC0.out); rintro e w' ⟨rfl, ⟨nd, rfl⟩⟩; refine ⟨_, rfl, ?_⟩; (try (rw [drewN_self w49]; generalize hq_ : World.drewN w49 _ = w49; have n0_ : Aside0 (Below w.heap.size w w49) := ⟨by rw [← hq_]; exact (by repeat (first | (with_reducible first | exact HB.out | apply below_alloc | apply pw_below_drewN | apply below_drew1) | exact HB.out))⟩; clear HB hq_; have HB := n0_; clear n0_))) | ((with_reducible refine gate_callee (f := 26) rfl ?_); refine goesL_ (some 22) rfl rfl Try.func26 (by kernel_rfl) rfl #[.slice A0 l0.length c0, .int .u16 a1, .int .u16 a2] rfl (by (try simp only [List.map_toArray, List.map_cons, List.map_nil]); first | done | rfl | (simp only [List.length_drop, List.length_take]; rfl)) ?_; (with_reducible refine (foolscapseat_Place.calls _ _ l0 a1 a2 t181 t182 _ ?side1 ?side2 A9.out).mono ?_); (case side1 => repeat (first | exact (Kd.C_below HR0.out HB.out) | (with_reducible refine Kd.C_alloc ?_ _) | (with_reducible refine Kd.C_drewN ?_ _) | (with_reducible refine Kd.C_drew ?_))); (case side2 => exact HC0.out); rintro e w50 ⟨rfl, hb⟩; refine ⟨_, rfl, ?_⟩; have n0_ := Aside0.mk (below_step (by repeat (first | (with_reducible first | exact HB.out | apply below_alloc | apply pw_below_drewN | apply below_drew1) | exact HB.out)) hb); clear HB; have HB := n0_; clear n0_; (try clear hb); (try clear hb2); (try clear hk); (try clear hi)) | ((with_reducible refine gate_dst (N := 9) rfl ?_); refine box_event ?hg (N := 9) ?hd (cs := #[.int .i64 0, .int .i64 0]) (t := 28) ?hr ?_; (case hd => rfl); (case hg => rfl); (case hr => first | (go_simp; done) | (go_simp; rfl)); intro gb183 hg w51 hbox hb; have n0_ := Aside0.mk (below_step (by repeat (first | (with_reducible first | exact HB.out | apply below_alloc | apply pw_below_drewN | apply below_drew1) | exact HB.out)) hb); have n1_ := Aside0.mk (hbox); have n2_ := Aside0.mk ((by rw [hg]; exact (below_size (by repeat (first | (with_reducible first | exact HB.out | apply below_alloc | apply pw_below_drewN | apply below_drew1) | exact HB.out))) : w.heap.size ≤ gb183)); have n3_ := Aside0.mk ((by rw [hg]; exact (below_size (by repeat (first | (with_reducible first | exact HB.out | apply below_alloc | apply pw_below_drewN | apply below_drew1) | exact HB.out))) : w.heap.size ≤ gb183)); clear HB; have HB := n0_; have BK183 := n1_; have GW183 := n2_; have GE183 := n3_; clear n0_ n1_ n2_ n3_; clear hb hbox hg; have hcz52_0 : w51.cell? ⟨gb183, 0, none⟩ = some (.int .i64 0) := (blk_cell BK183.out 0).trans rfl; have hcz52_1 : w51.cell? ⟨gb183, 1, none⟩ = some (.int .i64 0) := (blk_cell BK183.out 1).trans rfl; have hfz52_0 := blk_frozen BK183.out 0; have hfz52_1 := blk_frozen BK183.out 1) | ((with_reducible refine gate_callee (f := 27) rfl ?_); refine goesL_ (some 40) rfl rfl Try.func27 (by kernel_rfl) rfl #[.slice A0 l0.length c0, .agg #[.int .i64 t181, .int .i64 t182], .agg #[.int .i64 (wrap64 ((wrap64 (t181 + 1)) + (wrap64 (Int.tmod a3 4)))), .int .i64 0, .int .i64 0, .bool false, .int .i64 0]] rfl (by (try simp only [List.map_toArray, List.map_cons, List.map_nil]); first | done | rfl | (simp only [List.length_drop, List.length_take]; rfl)) ?_; (with_reducible refine (area_Of.calls k _ _ l0 t181 t182 (wrap64 ((wrap64 (t181 + 1)) + (wrap64 (Int.tmod a3 4)))) 0 0 false 0 t184 t185 t186 t187 t188 t189 _ ?side1 ?side2 A15.out).mono ?_); (case side1 => exact Kd.C_below HR0.out (by repeat (first | (with_reducible first | exact HB.out | apply below_alloc | apply pw_below_drewN | apply below_drew1 | refine bset ?_ (by assumption)) | exact HB.out))); (case side2 => exact HC0.out); rintro e w53 ⟨rfl, hb⟩; refine ⟨_, rfl, ?_⟩; have n0_ := Aside0.mk (blk_below (g := gb183) (o := .cells #[.int .i64 t181, .int .i64 t182] 28 (0, 0)) (by refine pk ?_; refine blk_put (cs := #[.int .i64 t181, .int .i64 0]) ?_ 1 _ rfl; refine pk ?_; refine blk_put (cs := #[.int .i64 0, .int .i64 0]) ?_ 0 _ rfl; exact pk BK183.out) hb); have n1_ := Aside0.mk (below_step (by repeat (first | (with_reducible first | exact HB.out | apply below_alloc | apply pw_below_drewN | apply below_drew1 | refine bset ?_ (by assumption)) | exact HB.out)) hb); clear BK183; clear HB; have BK183 := n0_; have HB := n1_; clear n0_ n1_; (try clear hb); (try clear hb2); (try clear hk); (try clear hi)) | ((with_reducible refine gate_dst (N := 11) rfl ?_); refine box_event ?hg (N := 11) ?hd (cs := #[.int .i64 0, .int .i64 0, .int .i64 0, .int .i64 0, .int .i64 0]) (t := 43) ?hr ?_; (case hd => rfl); (case hg => rfl); (case hr => first | (go_simp; done) | (go_simp; rfl)); intro gb190 hg w54 hbox hb; have n0_ := Aside0.mk (blk_below (pk BK183.out) hb); have n1_ := Aside0.mk (below_step (by repeat (first | (with_reducible first | exact HB.out | apply below_alloc | apply pw_below_drewN | apply below_drew1 | refine bset ?_ (by assumption)) | exact HB.out)) hb); have n2_ := Aside0.mk (hbox); have n3_ := Aside0.mk ((by rw [hg]; exact (below_size (by repeat (first | (with_reducible first | exact HB.out | apply below_alloc | apply pw_below_drewN | apply below_drew1 | refine bset ?_ (by assumption)) | exact HB.out))) : w.heap.size ≤ gb190)); have n4_ := Aside0.mk ((by rw [hg]; exact (below_size (by repeat (first | (with_reducible first | exact HB.out | apply below_alloc | apply pw_below_drewN | apply below_drew1 | refine bset ?_ (by assumption)) | exact HB.out))) : w.heap.size ≤ gb190)); have n5_ := Aside0.mk ((by rw [hg]; exact Nat.ne_of_lt (blk_lt (pk BK183.out)) : gb183 ≠ gb190)); have n6_ := Aside0.mk ((by rw [hg]; exact Nat.ne_of_gt (blk_lt (pk BK183.out)) : gb190 ≠ gb183)); clear BK183; clear HB; have BK183 := n0_; have HB := n1_; have BK190 := n2_; have GW190 := n3_; have GE190 := n4_; have NB183_190 := n5_; have NB190_183 := n6_; clear n0_ n1_ n2_ n3_ n4_ n5_ n6_; clear hb hbox hg; have hnb55 := NB190_183.out; have hnc55 := NB183_190.out; have hcz56_0 : w54.cell? ⟨gb190, 0, none⟩ = some (.int .i64 0) := (blk_cell BK190.out 0).trans rfl; have hcz56_1 : w54.cell? ⟨gb190, 1, none⟩ = some (.int .i64 0) := (blk_cell BK190.out 1).trans rfl; have hcz56_2 : w54.cell? ⟨gb190, 2, none⟩ = some (.int .i64 0) := (blk_cell BK190.out 2).trans rfl; have hcz56_3 : w54.cell? ⟨gb190, 3, none⟩ = some (.int .i64 0) := (blk_cell BK190.out 3).trans rfl; have hcz56_4 : w54.cell? ⟨gb190, 4, none⟩ = some (.int .i64 0) := (blk_cell BK190.out 4).trans rfl; have hfz56_0 := blk_frozen BK190.out 0; have hfz56_1 := blk_frozen BK190.out 1; have hfz56_2 := blk_frozen BK190.out 2; have hfz56_3 := blk_frozen BK190.out 3; have hfz56_4 := blk_frozen BK190.out 4))
          have n0_ : Aside0 ((((((w54.setCell ⟨gb190, 0, none⟩ (.int .i64 t184)).setCell ⟨gb190, 1, none⟩ (.int .i64 t185)).setCell ⟨gb190, 2, none⟩ (.int .i64 t186)).setCell ⟨gb190, 3, none⟩ (.int .i64 t187)).setCell ⟨gb190, 4, none⟩ (.int .i64 t188)).heap[gb183]? = some (.cells #[.int .i64 t181, .int .i64 t182] 28 (0, 0))) := ⟨by refine pk ?_; refine blk_far ?_ NB183_190.out _; refine pk ?_; refine blk_far ?_ NB183_190.out _; refine pk ?_; refine blk_far ?_ NB183_190.out _; refine pk ?_; refine blk_far ?_ NB183_190.out _; refine pk ?_; refine blk_far ?_ NB183_190.out _; exact pk BK183.out⟩
          have n1_ : Aside0 ((((((w54.setCell ⟨gb190, 0, none⟩ (.int .i64 t184)).setCell ⟨gb190, 1, none⟩ (.int .i64 t185)).setCell ⟨gb190, 2, none⟩ (.int .i64 t186)).setCell ⟨gb190, 3, none⟩ (.int .i64 t187)).setCell ⟨gb190, 4, none⟩ (.int .i64 t188)).heap[gb190]? = some (.cells #[.int .i64 t184, .int .i64 t185, .int .i64 t186, .int .i64 t187, .int .i64 t188] 43 (0, 0))) := ⟨by refine pk ?_; refine blk_put (cs := #[.int .i64 t184, .int .i64 t185, .int .i64 t186, .int .i64 t187, .int .i64 0]) ?_ 4 _ rfl; refine pk ?_; refine blk_put (cs := #[.int .i64 t184, .int .i64 t185, .int .i64 t186, .int .i64 0, .int .i64 0]) ?_ 3 _ rfl; refine pk ?_; refine blk_put (cs := #[.int .i64 t184, .int .i64 t185, .int .i64 0, .int .i64 0, .int .i64 0]) ?_ 2 _ rfl; refine pk ?_; refine blk_put (cs := #[.int .i64 t184, .int .i64 0, .int .i64 0, .int .i64 0, .int .i64 0]) ?_ 1 _ rfl; refine pk ?_; refine blk_put (cs := #[.int .i64 0, .int .i64 0, .int .i64 0, .int .i64 0, .int .i64 0]) ?_ 0 _ rfl; exact pk BK190.out⟩
          have n2_ : Aside0 (Below w.heap.size w (((((w54.setCell ⟨gb190, 0, none⟩ (.int .i64 t184)).setCell ⟨gb190, 1, none⟩ (.int .i64 t185)).setCell ⟨gb190, 2, none⟩ (.int .i64 t186)).setCell ⟨gb190, 3, none⟩ (.int .i64 t187)).setCell ⟨gb190, 4, none⟩ (.int .i64 t188))) := ⟨by repeat (first | (with_reducible first | exact HB.out | apply below_alloc | apply pw_below_drewN | apply below_drew1 | refine bset ?_ (by assumption)) | exact HB.out)⟩
          (try clear BK183)
          (try clear BK190)
          (try clear HB)
          generalize (((((w54.setCell ⟨gb190, 0, none⟩ (.int .i64 t184)).setCell ⟨gb190, 1, none⟩ (.int .i64 t185)).setCell ⟨gb190, 2, none⟩ (.int .i64 t186)).setCell ⟨gb190, 3, none⟩ (.int .i64 t187)).setCell ⟨gb190, 4, none⟩ (.int .i64 t188)) = w57 at n0_ n1_ n2_ ⊢
          have BK183 := n0_
          have BK190 := n1_
          have HB := n2_
          clear n0_ n1_ n2_
          have n0_ := Aside0.mk (blk_drew BK183.out)
          have n1_ := Aside0.mk (blk_drew BK190.out)
          have n2_ := Aside0.mk (below_drew1 HB.out)
          clear BK183
          clear BK190
          clear HB
          have BK183 := n0_
          have BK190 := n1_
          have HB := n2_
          clear n0_ n1_ n2_
          have p191 : 0 ≤ (t181 : Int) := of_decide_eq_true (by first | (with_reducible assumption) | assumption)
          have q191 : t181 < (l0.length : Int) := of_decide_eq_true (by first | (with_reducible assumption) | assumption)
          obtain ⟨ad191, e191, hx191_0⟩ := Kd.at_string HR0.out t181 p191 q191
          have hw191_0 := hx191_0
          cases e191
          replace hx191_0 := (HB.out.cell (World.block_lt_of_cell? w _ hx191_0)).trans hx191_0
          replace p191 := eq_true p191
          replace q191 := eq_true q191
          refine start_ (n := 9) (S := fun w' => w'.cell? ⟨gb183, 0, none⟩ = some (.int .i64 t181) ∧ w'.cell? ⟨gb183, 1, none⟩ = some (.int .i64 t182) ∧ w'.cell? (ad191.add (t181).toNat) = some (.string (rdOf ByteArray.empty l0 t181))) (ds := []) #[false, false, false, false, false, false, false, false, false] (by kernel_rfl) rfl rfl ⟨(blk_cell BK183.out 0).trans rfl, (blk_cell BK183.out 1).trans rfl, ((HB.out.cell (World.block_lt_of_cell? w _ hw191_0)).trans hw191_0)⟩ (fun hHeld => ?_); refine with_tabW foolscaplaw27_AreaBreaks.tab10 foolscaplaw27_AreaBreaks.bits10 (fun HT_ HW_ => ?_)
          generalize w57.drew = w58 at BK183 BK190 HB hx191_0 hHeld ⊢
          refine pure_ (i := 0) (N := some 43) (v := ?_) (a' := ?_) #[true, false, false, false, false, false, false, false, false] rfl rfl (any_of HT_.out (by kernel_rfl)) (fun _ _ _ h => h) (Or.inl ⟨by rfl, ?_⟩) ?_ ?_
          rotate_left
          ·intro w'
           go_simp
           with_reducible rfl
          rotate_left
          ·simp only [Act.put, List.setIfInBounds_toArray, List.set_cons_zero, List.set_cons_succ, i64_w, i32_w]
           rfl
          refine pure_ (i := 2) (N := some 45) (v := ?_) (a' := ?_) #[true, false, true, false, false, false, false, false, false] rfl rfl (any_of HT_.out (by kernel_rfl)) (fun _ _ _ h => h) (Or.inl ⟨by rfl, ?_⟩) ?_ ?_
          rotate_left
          ·intro w'
           go_simp
           with_reducible rfl
          rotate_left
          ·simp only [Act.put, List.setIfInBounds_toArray, List.set_cons_zero, List.set_cons_succ, i64_w, i32_w]
           rfl
          refine pure_ (i := 3) (N := some 46) (v := ?_) (a' := ?_) #[true, false, true, true, false, false, false, false, false] rfl rfl (any_of HT_.out (by kernel_rfl)) (fun _ _ _ h => h) (Or.inl ⟨by rfl, ?_⟩) ?_ ?_
          rotate_left
          ·intro w'
           go_simp
           with_reducible rfl
          rotate_left
          ·simp only [Act.put, List.setIfInBounds_toArray, List.set_cons_zero, List.set_cons_succ, i64_w, i32_w]
           rfl
          refine take_ (i := 1) (N := some 44) (v := ?_) (a' := ?_) #[true, true, true, true, false, false, false, false, false] rfl rfl (take_ofW HT_.out HW_.out (by kernel_rfl)) (fun _ _ _ h => h) (Or.inl ⟨by rfl, ?_⟩) hHeld ?_ ?_
          rotate_left
          ·rintro w' ⟨s0, s1, s2⟩
           go_simp
           with_reducible rfl
          rotate_left
          ·simp only [Act.put, List.setIfInBounds_toArray, List.set_cons_zero, List.set_cons_succ, i64_w, i32_w]
           rfl
          refine take_ (i := 4) (N := some 47) (v := ?_) (a' := ?_) #[true, true, true, true, true, false, false, false, false] rfl rfl (take_ofW HT_.out HW_.out (by kernel_rfl)) (fun _ _ _ h => h) (Or.inl ⟨by rfl, ?_⟩) hHeld ?_ ?_
          rotate_left
          ·rintro w' ⟨s0, s1, s2⟩
           go_simp
           with_reducible rfl
          rotate_left
          ·simp only [Act.put, List.setIfInBounds_toArray, List.set_cons_zero, List.set_cons_succ, i64_w, i32_w]
           rfl
          refine pure_ (i := 5) (N := some 48) (v := ?_) (a' := ?_) #[true, true, true, true, true, true, false, false, false] rfl rfl (any_of HT_.out (by kernel_rfl)) (fun _ _ _ h => h) (Or.inl ⟨by rfl, ?_⟩) ?_ ?_
          rotate_left
          ·intro w'
           go_simp
           with_reducible rfl
          rotate_left
          ·simp only [Act.put, List.setIfInBounds_toArray, List.set_cons_zero, List.set_cons_succ, i64_w, i32_w]
           rfl
          refine take_ (i := 6) (N := some 49) (v := ?_) (a' := ?_) #[true, true, true, true, true, true, true, false, false] rfl rfl (take_ofW HT_.out HW_.out (by kernel_rfl)) (fun _ _ _ h => h) (Or.inl ⟨by rfl, ?_⟩) hHeld ?_ ?_
          rotate_left
          ·rintro w' ⟨s0, s1, s2⟩
           go_simp
           with_reducible rfl
          rotate_left
          ·simp only [Act.put, List.setIfInBounds_toArray, List.set_cons_zero, List.set_cons_succ, i64_w, i32_w]
           rfl
          refine one_ (i := 7) (N := some 50) #[true, true, true, true, true, true, true, true, false] rfl rfl (one_of HT_.out (by kernel_rfl)) (by decide) (fun K hK => ?_)
          refine goes_ Try.func16 (by kernel_rfl) rfl #[.string (rdOf ByteArray.empty l0 t181)] (by rfl) rfl rfl (by (try simp only [List.map_toArray, List.map_cons, List.map_nil]); first | done | rfl | (simp only [List.length_drop, List.length_take]; rfl)) ?_
          with_reducible refine (foolscapref5_First.calls k (rdOf ByteArray.empty l0 t181) t192 _ A18.out).mono ?_
          rintro e w59 ⟨rfl, hb⟩
          refine ⟨_, rfl, ?_⟩
          have n0_ := Aside0.mk (blk_below (pk BK183.out) hb)
          have n1_ := Aside0.mk (blk_below (pk BK190.out) hb)
          have n2_ := Aside0.mk (below_step (by repeat (first | (with_reducible first | exact HB.out | apply below_alloc | apply pw_below_drewN | apply below_drew1 | refine bset ?_ (by assumption)) | exact HB.out)) hb)
          clear BK183
          clear BK190
          clear HB
          have BK183 := n0_
          have BK190 := n1_
          have HB := n2_
          clear n0_ n1_ n2_
          (try clear hb)
          (try clear hb2)
          (try clear hk)
          (try clear hi)
          refine hK.out _ _ ⟨(blk_cell BK183.out 0).trans rfl, (blk_cell BK183.out 1).trans rfl, ((HB.out.cell (World.block_lt_of_cell? w _ hw191_0)).trans hw191_0)⟩ (fun hHeld => ?_)
          clear hK K
          refine norm_ (a' := ?_) ?_ ?_
          rotate_left
          ·show Act.put _ (some 50) _ = _
           simp only [Act.put, List.setIfInBounds_toArray, List.set_cons_zero, List.set_cons_succ, i64_w, i32_w]
           rfl
          refine pure_ (i := 8) (N := some 51) (v := ?_) (a' := ?_) #[true, true, true, true, true, true, true, true, true] rfl rfl (any_of HT_.out (by kernel_rfl)) (fun _ _ _ h => h) (Or.inl ⟨by rfl, ?_⟩) ?_ ?_
          rotate_left
          ·intro w'
           go_simp
           with_reducible rfl
          rotate_left
          ·simp only [Act.put, List.setIfInBounds_toArray, List.set_cons_zero, List.set_cons_succ, i64_w, i32_w]
           rfl
          refine done_ (done_of HT_.out (by kernel_rfl)) ?_
          have p193 : 0 ≤ ((ji45) : Int) := of_decide_eq_true (by first | (with_reducible assumption) | assumption)
          have q193 : (ji45) < (l0.length : Int) := of_decide_eq_true (by first | (with_reducible assumption) | assumption)
          obtain ⟨ad193, e193, hx193_0⟩ := Kd.at_string HR0.out (ji45) p193 q193
          obtain rfl : ad191 = ad193 := (by injection e193)
          replace hx193_0 := (HB.out.cell (World.block_lt_of_cell? w _ hx193_0)).trans hx193_0
          replace p193 := eq_true p193
          replace q193 := eq_true q193
          try go_wp2_with (first | ((with_reducible refine gate_dst (N := 13) rfl ?_); refine box_event ?hg (N := 13) ?hd (cs := #[.int .i64 0, .int .i64 0]) (t := 28) ?hr ?_; (case hd => rfl); (case hg => rfl); (case hr => first | (go_simp; done) | (go_simp; rfl)); intro gb194 hg w60 hbox hb; have n0_ := Aside0.mk (blk_below (pk BK183.out) hb); have n1_ := Aside0.mk (blk_below (pk BK190.out) hb); have n2_ := Aside0.mk (below_step (by repeat (first | (with_reducible first | exact HB.out | apply below_alloc | apply pw_below_drewN | apply below_drew1 | refine bset ?_ (by assumption)) | exact HB.out)) hb); have n3_ := Aside0.mk (hbox); have n4_ := Aside0.mk ((by rw [hg]; exact (below_size (by repeat (first | (with_reducible first | exact HB.out | apply below_alloc | apply pw_below_drewN | apply below_drew1 | refine bset ?_ (by assumption)) | exact HB.out))) : w.heap.size ≤ gb194)); have n5_ := Aside0.mk ((by rw [hg]; exact (below_size (by repeat (first | (with_reducible first | exact HB.out | apply below_alloc | apply pw_below_drewN | apply below_drew1 | refine bset ?_ (by assumption)) | exact HB.out))) : w.heap.size ≤ gb194)); have n6_ := Aside0.mk ((by rw [hg]; exact Nat.ne_of_lt (blk_lt (pk BK183.out)) : gb183 ≠ gb194)); have n7_ := Aside0.mk ((by rw [hg]; exact Nat.ne_of_gt (blk_lt (pk BK183.out)) : gb194 ≠ gb183)); have n8_ := Aside0.mk ((by rw [hg]; exact Nat.ne_of_lt (blk_lt (pk BK190.out)) : gb190 ≠ gb194)); have n9_ := Aside0.mk ((by rw [hg]; exact Nat.ne_of_gt (blk_lt (pk BK190.out)) : gb194 ≠ gb190)); clear BK183; clear BK190; clear HB; have BK183 := n0_; have BK190 := n1_; have HB := n2_; have BK194 := n3_; have GW194 := n4_; have GE194 := n5_; have NB183_194 := n6_; have NB194_183 := n7_; have NB190_194 := n8_; have NB194_190 := n9_; clear n0_ n1_ n2_ n3_ n4_ n5_ n6_ n7_ n8_ n9_; clear hb hbox hg; have hnb61 := NB194_183.out; have hnc61 := NB183_194.out; have hnb62 := NB194_190.out; have hnc62 := NB190_194.out; have hcz63_0 : w60.cell? ⟨gb194, 0, none⟩ = some (.int .i64 0) := (blk_cell BK194.out 0).trans rfl; have hcz63_1 : w60.cell? ⟨gb194, 1, none⟩ = some (.int .i64 0) := (blk_cell BK194.out 1).trans rfl; have hfz63_0 := blk_frozen BK194.out 0; have hfz63_1 := blk_frozen BK194.out 1; have hcz64_0 : w60.cell? ⟨gb183, 0, none⟩ = some (.int .i64 t181) := (blk_cell BK183.out 0).trans rfl; have hcz64_1 : w60.cell? ⟨gb183, 1, none⟩ = some (.int .i64 t182) := (blk_cell BK183.out 1).trans rfl; have hfz64_0 := blk_frozen BK183.out 0; have hfz64_1 := blk_frozen BK183.out 1))
          go_ret
          exact ⟨by first | rfl | (simp [errW_none, errW_some] <;> rfl) | (simp only [← hji45]; first | rfl | (simp [errW_none, errW_some] <;> rfl)) | (simp [*, errW_none, errW_some] <;> rfl), by repeat (first | (with_reducible first | exact HB.out | apply below_alloc | apply pw_below_drewN | apply below_drew1 | refine bset ?_ (by assumption)) | exact HB.out)⟩
         ·rw [if_neg c48] at H
          have c48b0 : ((ji45) == t181 && (((rdOf ByteArray.empty l0 (ji45)).size : Int) == t182)) = false := by simpa using c48
          (try (have c48b1 : decide ((ji45) = t181 && (((rdOf ByteArray.empty l0 (ji45)).size : Int) == t182)) = false := by simpa using c48))
          (try (have c48b2 : ((ji45) == t181 && (((rdOf ByteArray.empty l0 (ji45)).size : Int) == t182)) = false := by simpa using c48))
          (try (have c48b3 : ¬ ((ji45) = t181 && (((rdOf ByteArray.empty l0 (ji45)).size : Int) == t182)) := by simpa using c48))
          clear c48
          by_cases c65 : t189 = true
          ·subst c65
           have H1 : (some (t184 == 0 && ((t185 == t181 && (t186 == t182)) && ((t187 == (ji45) && (t188 == ((rdOf ByteArray.empty l0 (ji45)).size : Int))))))) = some r := by rw [if_pos rfl] at H; exact H
           clear H
           have H := H1
           clear H1
           obtain rfl := Option.some.inj H
           go_enter Try.func10, Try.ntmps10
           try go_wp2_with (first | ((with_reducible refine gate_callee (f := 25) rfl ?_); refine goesL_ (some 14) rfl rfl Try.func25 (by kernel_rfl) rfl #[] rfl (by (try simp only [List.map_toArray, List.map_cons, List.map_nil]); first | done | rfl | (simp only [List.length_drop, List.length_take]; rfl)) ?_; (with_reducible refine (foolscaplaw27_known.calls k  true _ A5.out).mono ?_); rintro e w66 ⟨rfl, hb⟩; refine ⟨_, rfl, ?_⟩; have n0_ := Aside0.mk (below_step (by repeat (first | (with_reducible first | exact HB.out | apply below_alloc | apply pw_below_drewN | apply below_drew1) | exact HB.out)) hb); clear HB; have HB := n0_; clear n0_; (try clear hb); (try clear hb2); (try clear hk); (try clear hi)) | ((with_reducible refine gate_callee (f := 24) rfl ?_); refine goesL_ (some 17) rfl rfl Try.func24 (by kernel_rfl) rfl #[.slice A0 l0.length c0] rfl (by (try simp only [List.map_toArray, List.map_cons, List.map_nil]); first | done | rfl | (simp only [List.length_drop, List.length_take]; rfl)) ?_; (with_reducible refine (foolscaphelp_Text.calls k _ _ l0 true _ ?side1 ?side2 A7.out).mono ?_); (case side1 => repeat (first | exact (Kd.C_below HR0.out HB.out) | (with_reducible refine Kd.C_alloc ?_ _) | (with_reducible refine Kd.C_drewN ?_ _) | (with_reducible refine Kd.C_drew ?_))); (case side2 => exact HC0.out); rintro e w' ⟨rfl, ⟨nd, rfl⟩⟩; refine ⟨_, rfl, ?_⟩; (try (rw [drewN_self w66]; generalize hq_ : World.drewN w66 _ = w66; have n0_ : Aside0 (Below w.heap.size w w66) := ⟨by rw [← hq_]; exact (by repeat (first | (with_reducible first | exact HB.out | apply below_alloc | apply pw_below_drewN | apply below_drew1) | exact HB.out))⟩; clear HB hq_; have HB := n0_; clear n0_))) | ((with_reducible refine gate_callee (f := 26) rfl ?_); refine goesL_ (some 22) rfl rfl Try.func26 (by kernel_rfl) rfl #[.slice A0 l0.length c0, .int .u16 a1, .int .u16 a2] rfl (by (try simp only [List.map_toArray, List.map_cons, List.map_nil]); first | done | rfl | (simp only [List.length_drop, List.length_take]; rfl)) ?_; (with_reducible refine (foolscapseat_Place.calls _ _ l0 a1 a2 t181 t182 _ ?side1 ?side2 A9.out).mono ?_); (case side1 => repeat (first | exact (Kd.C_below HR0.out HB.out) | (with_reducible refine Kd.C_alloc ?_ _) | (with_reducible refine Kd.C_drewN ?_ _) | (with_reducible refine Kd.C_drew ?_))); (case side2 => exact HC0.out); rintro e w67 ⟨rfl, hb⟩; refine ⟨_, rfl, ?_⟩; have n0_ := Aside0.mk (below_step (by repeat (first | (with_reducible first | exact HB.out | apply below_alloc | apply pw_below_drewN | apply below_drew1) | exact HB.out)) hb); clear HB; have HB := n0_; clear n0_; (try clear hb); (try clear hb2); (try clear hk); (try clear hi)) | ((with_reducible refine gate_dst (N := 9) rfl ?_); refine box_event ?hg (N := 9) ?hd (cs := #[.int .i64 0, .int .i64 0]) (t := 28) ?hr ?_; (case hd => rfl); (case hg => rfl); (case hr => first | (go_simp; done) | (go_simp; rfl)); intro gb183 hg w68 hbox hb; have n0_ := Aside0.mk (below_step (by repeat (first | (with_reducible first | exact HB.out | apply below_alloc | apply pw_below_drewN | apply below_drew1) | exact HB.out)) hb); have n1_ := Aside0.mk (hbox); have n2_ := Aside0.mk ((by rw [hg]; exact (below_size (by repeat (first | (with_reducible first | exact HB.out | apply below_alloc | apply pw_below_drewN | apply below_drew1) | exact HB.out))) : w.heap.size ≤ gb183)); have n3_ := Aside0.mk ((by rw [hg]; exact (below_size (by repeat (first | (with_reducible first | exact HB.out | apply below_alloc | apply pw_below_drewN | apply below_drew1) | exact HB.out))) : w.heap.size ≤ gb183)); clear HB; have HB := n0_; have BK183 := n1_; have GW183 := n2_; have GE183 := n3_; clear n0_ n1_ n2_ n3_; clear hb hbox hg; have hcz69_0 : w68.cell? ⟨gb183, 0, none⟩ = some (.int .i64 0) := (blk_cell BK183.out 0).trans rfl; have hcz69_1 : w68.cell? ⟨gb183, 1, none⟩ = some (.int .i64 0) := (blk_cell BK183.out 1).trans rfl; have hfz69_0 := blk_frozen BK183.out 0; have hfz69_1 := blk_frozen BK183.out 1) | ((with_reducible refine gate_callee (f := 27) rfl ?_); refine goesL_ (some 40) rfl rfl Try.func27 (by kernel_rfl) rfl #[.slice A0 l0.length c0, .agg #[.int .i64 t181, .int .i64 t182], .agg #[.int .i64 (wrap64 ((wrap64 (t181 + 1)) + (wrap64 (Int.tmod a3 4)))), .int .i64 0, .int .i64 0, .bool false, .int .i64 0]] rfl (by (try simp only [List.map_toArray, List.map_cons, List.map_nil]); first | done | rfl | (simp only [List.length_drop, List.length_take]; rfl)) ?_; (with_reducible refine (area_Of.calls k _ _ l0 t181 t182 (wrap64 ((wrap64 (t181 + 1)) + (wrap64 (Int.tmod a3 4)))) 0 0 false 0 t184 t185 t186 t187 t188 true _ ?side1 ?side2 A15.out).mono ?_); (case side1 => exact Kd.C_below HR0.out (by repeat (first | (with_reducible first | exact HB.out | apply below_alloc | apply pw_below_drewN | apply below_drew1 | refine bset ?_ (by assumption)) | exact HB.out))); (case side2 => exact HC0.out); rintro e w70 ⟨rfl, hb⟩; refine ⟨_, rfl, ?_⟩; have n0_ := Aside0.mk (blk_below (g := gb183) (o := .cells #[.int .i64 t181, .int .i64 t182] 28 (0, 0)) (by refine pk ?_; refine blk_put (cs := #[.int .i64 t181, .int .i64 0]) ?_ 1 _ rfl; refine pk ?_; refine blk_put (cs := #[.int .i64 0, .int .i64 0]) ?_ 0 _ rfl; exact pk BK183.out) hb); have n1_ := Aside0.mk (below_step (by repeat (first | (with_reducible first | exact HB.out | apply below_alloc | apply pw_below_drewN | apply below_drew1 | refine bset ?_ (by assumption)) | exact HB.out)) hb); clear BK183; clear HB; have BK183 := n0_; have HB := n1_; clear n0_ n1_; (try clear hb); (try clear hb2); (try clear hk); (try clear hi)) | ((with_reducible refine gate_dst (N := 11) rfl ?_); refine box_event ?hg (N := 11) ?hd (cs := #[.int .i64 0, .int .i64 0, .int .i64 0, .int .i64 0, .int .i64 0]) (t := 43) ?hr ?_; (case hd => rfl); (case hg => rfl); (case hr => first | (go_simp; done) | (go_simp; rfl)); intro gb190 hg w71 hbox hb; have n0_ := Aside0.mk (blk_below (pk BK183.out) hb); have n1_ := Aside0.mk (below_step (by repeat (first | (with_reducible first | exact HB.out | apply below_alloc | apply pw_below_drewN | apply below_drew1 | refine bset ?_ (by assumption)) | exact HB.out)) hb); have n2_ := Aside0.mk (hbox); have n3_ := Aside0.mk ((by rw [hg]; exact (below_size (by repeat (first | (with_reducible first | exact HB.out | apply below_alloc | apply pw_below_drewN | apply below_drew1 | refine bset ?_ (by assumption)) | exact HB.out))) : w.heap.size ≤ gb190)); have n4_ := Aside0.mk ((by rw [hg]; exact (below_size (by repeat (first | (with_reducible first | exact HB.out | apply below_alloc | apply pw_below_drewN | apply below_drew1 | refine bset ?_ (by assumption)) | exact HB.out))) : w.heap.size ≤ gb190)); have n5_ := Aside0.mk ((by rw [hg]; exact Nat.ne_of_lt (blk_lt (pk BK183.out)) : gb183 ≠ gb190)); have n6_ := Aside0.mk ((by rw [hg]; exact Nat.ne_of_gt (blk_lt (pk BK183.out)) : gb190 ≠ gb183)); clear BK183; clear HB; have BK183 := n0_; have HB := n1_; have BK190 := n2_; have GW190 := n3_; have GE190 := n4_; have NB183_190 := n5_; have NB190_183 := n6_; clear n0_ n1_ n2_ n3_ n4_ n5_ n6_; clear hb hbox hg; have hnb72 := NB190_183.out; have hnc72 := NB183_190.out; have hcz73_0 : w71.cell? ⟨gb190, 0, none⟩ = some (.int .i64 0) := (blk_cell BK190.out 0).trans rfl; have hcz73_1 : w71.cell? ⟨gb190, 1, none⟩ = some (.int .i64 0) := (blk_cell BK190.out 1).trans rfl; have hcz73_2 : w71.cell? ⟨gb190, 2, none⟩ = some (.int .i64 0) := (blk_cell BK190.out 2).trans rfl; have hcz73_3 : w71.cell? ⟨gb190, 3, none⟩ = some (.int .i64 0) := (blk_cell BK190.out 3).trans rfl; have hcz73_4 : w71.cell? ⟨gb190, 4, none⟩ = some (.int .i64 0) := (blk_cell BK190.out 4).trans rfl; have hfz73_0 := blk_frozen BK190.out 0; have hfz73_1 := blk_frozen BK190.out 1; have hfz73_2 := blk_frozen BK190.out 2; have hfz73_3 := blk_frozen BK190.out 3; have hfz73_4 := blk_frozen BK190.out 4))
           have n0_ : Aside0 ((((((w71.setCell ⟨gb190, 0, none⟩ (.int .i64 t184)).setCell ⟨gb190, 1, none⟩ (.int .i64 t185)).setCell ⟨gb190, 2, none⟩ (.int .i64 t186)).setCell ⟨gb190, 3, none⟩ (.int .i64 t187)).setCell ⟨gb190, 4, none⟩ (.int .i64 t188)).heap[gb183]? = some (.cells #[.int .i64 t181, .int .i64 t182] 28 (0, 0))) := ⟨by refine pk ?_; refine blk_far ?_ NB183_190.out _; refine pk ?_; refine blk_far ?_ NB183_190.out _; refine pk ?_; refine blk_far ?_ NB183_190.out _; refine pk ?_; refine blk_far ?_ NB183_190.out _; refine pk ?_; refine blk_far ?_ NB183_190.out _; exact pk BK183.out⟩
           have n1_ : Aside0 ((((((w71.setCell ⟨gb190, 0, none⟩ (.int .i64 t184)).setCell ⟨gb190, 1, none⟩ (.int .i64 t185)).setCell ⟨gb190, 2, none⟩ (.int .i64 t186)).setCell ⟨gb190, 3, none⟩ (.int .i64 t187)).setCell ⟨gb190, 4, none⟩ (.int .i64 t188)).heap[gb190]? = some (.cells #[.int .i64 t184, .int .i64 t185, .int .i64 t186, .int .i64 t187, .int .i64 t188] 43 (0, 0))) := ⟨by refine pk ?_; refine blk_put (cs := #[.int .i64 t184, .int .i64 t185, .int .i64 t186, .int .i64 t187, .int .i64 0]) ?_ 4 _ rfl; refine pk ?_; refine blk_put (cs := #[.int .i64 t184, .int .i64 t185, .int .i64 t186, .int .i64 0, .int .i64 0]) ?_ 3 _ rfl; refine pk ?_; refine blk_put (cs := #[.int .i64 t184, .int .i64 t185, .int .i64 0, .int .i64 0, .int .i64 0]) ?_ 2 _ rfl; refine pk ?_; refine blk_put (cs := #[.int .i64 t184, .int .i64 0, .int .i64 0, .int .i64 0, .int .i64 0]) ?_ 1 _ rfl; refine pk ?_; refine blk_put (cs := #[.int .i64 0, .int .i64 0, .int .i64 0, .int .i64 0, .int .i64 0]) ?_ 0 _ rfl; exact pk BK190.out⟩
           have n2_ : Aside0 (Below w.heap.size w (((((w71.setCell ⟨gb190, 0, none⟩ (.int .i64 t184)).setCell ⟨gb190, 1, none⟩ (.int .i64 t185)).setCell ⟨gb190, 2, none⟩ (.int .i64 t186)).setCell ⟨gb190, 3, none⟩ (.int .i64 t187)).setCell ⟨gb190, 4, none⟩ (.int .i64 t188))) := ⟨by repeat (first | (with_reducible first | exact HB.out | apply below_alloc | apply pw_below_drewN | apply below_drew1 | refine bset ?_ (by assumption)) | exact HB.out)⟩
           (try clear BK183)
           (try clear BK190)
           (try clear HB)
           generalize (((((w71.setCell ⟨gb190, 0, none⟩ (.int .i64 t184)).setCell ⟨gb190, 1, none⟩ (.int .i64 t185)).setCell ⟨gb190, 2, none⟩ (.int .i64 t186)).setCell ⟨gb190, 3, none⟩ (.int .i64 t187)).setCell ⟨gb190, 4, none⟩ (.int .i64 t188)) = w74 at n0_ n1_ n2_ ⊢
           have BK183 := n0_
           have BK190 := n1_
           have HB := n2_
           clear n0_ n1_ n2_
           have n0_ := Aside0.mk (blk_drew BK183.out)
           have n1_ := Aside0.mk (blk_drew BK190.out)
           have n2_ := Aside0.mk (below_drew1 HB.out)
           clear BK183
           clear BK190
           clear HB
           have BK183 := n0_
           have BK190 := n1_
           have HB := n2_
           clear n0_ n1_ n2_
           have p191 : 0 ≤ (t181 : Int) := of_decide_eq_true (by first | (with_reducible assumption) | assumption)
           have q191 : t181 < (l0.length : Int) := of_decide_eq_true (by first | (with_reducible assumption) | assumption)
           obtain ⟨ad191, e191, hx191_0⟩ := Kd.at_string HR0.out t181 p191 q191
           have hw191_0 := hx191_0
           cases e191
           replace hx191_0 := (HB.out.cell (World.block_lt_of_cell? w _ hx191_0)).trans hx191_0
           replace p191 := eq_true p191
           replace q191 := eq_true q191
           refine start_ (n := 9) (S := fun w' => w'.cell? ⟨gb183, 0, none⟩ = some (.int .i64 t181) ∧ w'.cell? ⟨gb183, 1, none⟩ = some (.int .i64 t182) ∧ w'.cell? (ad191.add (t181).toNat) = some (.string (rdOf ByteArray.empty l0 t181))) (ds := []) #[false, false, false, false, false, false, false, false, false] (by kernel_rfl) rfl rfl ⟨(blk_cell BK183.out 0).trans rfl, (blk_cell BK183.out 1).trans rfl, ((HB.out.cell (World.block_lt_of_cell? w _ hw191_0)).trans hw191_0)⟩ (fun hHeld => ?_); refine with_tabW foolscaplaw27_AreaBreaks.tab10 foolscaplaw27_AreaBreaks.bits10 (fun HT_ HW_ => ?_)
           generalize w74.drew = w75 at BK183 BK190 HB hx191_0 hHeld ⊢
           refine pure_ (i := 0) (N := some 43) (v := ?_) (a' := ?_) #[true, false, false, false, false, false, false, false, false] rfl rfl (any_of HT_.out (by kernel_rfl)) (fun _ _ _ h => h) (Or.inl ⟨by rfl, ?_⟩) ?_ ?_
           rotate_left
           ·intro w'
            go_simp
            with_reducible rfl
           rotate_left
           ·simp only [Act.put, List.setIfInBounds_toArray, List.set_cons_zero, List.set_cons_succ, i64_w, i32_w]
            rfl
           refine pure_ (i := 2) (N := some 45) (v := ?_) (a' := ?_) #[true, false, true, false, false, false, false, false, false] rfl rfl (any_of HT_.out (by kernel_rfl)) (fun _ _ _ h => h) (Or.inl ⟨by rfl, ?_⟩) ?_ ?_
           rotate_left
           ·intro w'
            go_simp
            with_reducible rfl
           rotate_left
           ·simp only [Act.put, List.setIfInBounds_toArray, List.set_cons_zero, List.set_cons_succ, i64_w, i32_w]
            rfl
           refine pure_ (i := 3) (N := some 46) (v := ?_) (a' := ?_) #[true, false, true, true, false, false, false, false, false] rfl rfl (any_of HT_.out (by kernel_rfl)) (fun _ _ _ h => h) (Or.inl ⟨by rfl, ?_⟩) ?_ ?_
           rotate_left
           ·intro w'
            go_simp
            with_reducible rfl
           rotate_left
           ·simp only [Act.put, List.setIfInBounds_toArray, List.set_cons_zero, List.set_cons_succ, i64_w, i32_w]
            rfl
           refine take_ (i := 1) (N := some 44) (v := ?_) (a' := ?_) #[true, true, true, true, false, false, false, false, false] rfl rfl (take_ofW HT_.out HW_.out (by kernel_rfl)) (fun _ _ _ h => h) (Or.inl ⟨by rfl, ?_⟩) hHeld ?_ ?_
           rotate_left
           ·rintro w' ⟨s0, s1, s2⟩
            go_simp
            with_reducible rfl
           rotate_left
           ·simp only [Act.put, List.setIfInBounds_toArray, List.set_cons_zero, List.set_cons_succ, i64_w, i32_w]
            rfl
           refine take_ (i := 4) (N := some 47) (v := ?_) (a' := ?_) #[true, true, true, true, true, false, false, false, false] rfl rfl (take_ofW HT_.out HW_.out (by kernel_rfl)) (fun _ _ _ h => h) (Or.inl ⟨by rfl, ?_⟩) hHeld ?_ ?_
           rotate_left
           ·rintro w' ⟨s0, s1, s2⟩
            go_simp
            with_reducible rfl
           rotate_left
           ·simp only [Act.put, List.setIfInBounds_toArray, List.set_cons_zero, List.set_cons_succ, i64_w, i32_w]
            rfl
           refine pure_ (i := 5) (N := some 48) (v := ?_) (a' := ?_) #[true, true, true, true, true, true, false, false, false] rfl rfl (any_of HT_.out (by kernel_rfl)) (fun _ _ _ h => h) (Or.inl ⟨by rfl, ?_⟩) ?_ ?_
           rotate_left
           ·intro w'
            go_simp
            with_reducible rfl
           rotate_left
           ·simp only [Act.put, List.setIfInBounds_toArray, List.set_cons_zero, List.set_cons_succ, i64_w, i32_w]
            rfl
           refine take_ (i := 6) (N := some 49) (v := ?_) (a' := ?_) #[true, true, true, true, true, true, true, false, false] rfl rfl (take_ofW HT_.out HW_.out (by kernel_rfl)) (fun _ _ _ h => h) (Or.inl ⟨by rfl, ?_⟩) hHeld ?_ ?_
           rotate_left
           ·rintro w' ⟨s0, s1, s2⟩
            go_simp
            with_reducible rfl
           rotate_left
           ·simp only [Act.put, List.setIfInBounds_toArray, List.set_cons_zero, List.set_cons_succ, i64_w, i32_w]
            rfl
           refine one_ (i := 7) (N := some 50) #[true, true, true, true, true, true, true, true, false] rfl rfl (one_of HT_.out (by kernel_rfl)) (by decide) (fun K hK => ?_)
           refine goes_ Try.func16 (by kernel_rfl) rfl #[.string (rdOf ByteArray.empty l0 t181)] (by rfl) rfl rfl (by (try simp only [List.map_toArray, List.map_cons, List.map_nil]); first | done | rfl | (simp only [List.length_drop, List.length_take]; rfl)) ?_
           with_reducible refine (foolscapref5_First.calls k (rdOf ByteArray.empty l0 t181) t192 _ A18.out).mono ?_
           rintro e w76 ⟨rfl, hb⟩
           refine ⟨_, rfl, ?_⟩
           have n0_ := Aside0.mk (blk_below (pk BK183.out) hb)
           have n1_ := Aside0.mk (blk_below (pk BK190.out) hb)
           have n2_ := Aside0.mk (below_step (by repeat (first | (with_reducible first | exact HB.out | apply below_alloc | apply pw_below_drewN | apply below_drew1 | refine bset ?_ (by assumption)) | exact HB.out)) hb)
           clear BK183
           clear BK190
           clear HB
           have BK183 := n0_
           have BK190 := n1_
           have HB := n2_
           clear n0_ n1_ n2_
           (try clear hb)
           (try clear hb2)
           (try clear hk)
           (try clear hi)
           refine hK.out _ _ ⟨(blk_cell BK183.out 0).trans rfl, (blk_cell BK183.out 1).trans rfl, ((HB.out.cell (World.block_lt_of_cell? w _ hw191_0)).trans hw191_0)⟩ (fun hHeld => ?_)
           clear hK K
           refine norm_ (a' := ?_) ?_ ?_
           rotate_left
           ·show Act.put _ (some 50) _ = _
            simp only [Act.put, List.setIfInBounds_toArray, List.set_cons_zero, List.set_cons_succ, i64_w, i32_w]
            rfl
           refine pure_ (i := 8) (N := some 51) (v := ?_) (a' := ?_) #[true, true, true, true, true, true, true, true, true] rfl rfl (any_of HT_.out (by kernel_rfl)) (fun _ _ _ h => h) (Or.inl ⟨by rfl, ?_⟩) ?_ ?_
           rotate_left
           ·intro w'
            go_simp
            with_reducible rfl
           rotate_left
           ·simp only [Act.put, List.setIfInBounds_toArray, List.set_cons_zero, List.set_cons_succ, i64_w, i32_w]
            rfl
           refine done_ (done_of HT_.out (by kernel_rfl)) ?_
           have p193 : 0 ≤ ((ji45) : Int) := of_decide_eq_true (by first | (with_reducible assumption) | assumption)
           have q193 : (ji45) < (l0.length : Int) := of_decide_eq_true (by first | (with_reducible assumption) | assumption)
           obtain ⟨ad193, e193, hx193_0⟩ := Kd.at_string HR0.out (ji45) p193 q193
           obtain rfl : ad191 = ad193 := (by injection e193)
           replace hx193_0 := (HB.out.cell (World.block_lt_of_cell? w _ hx193_0)).trans hx193_0
           replace p193 := eq_true p193
           replace q193 := eq_true q193
           try go_wp2_with (first | ((with_reducible refine gate_dst (N := 13) rfl ?_); refine box_event ?hg (N := 13) ?hd (cs := #[.int .i64 0, .int .i64 0]) (t := 28) ?hr ?_; (case hd => rfl); (case hg => rfl); (case hr => first | (go_simp; done) | (go_simp; rfl)); intro gb194 hg w77 hbox hb; have n0_ := Aside0.mk (blk_below (pk BK183.out) hb); have n1_ := Aside0.mk (blk_below (pk BK190.out) hb); have n2_ := Aside0.mk (below_step (by repeat (first | (with_reducible first | exact HB.out | apply below_alloc | apply pw_below_drewN | apply below_drew1 | refine bset ?_ (by assumption)) | exact HB.out)) hb); have n3_ := Aside0.mk (hbox); have n4_ := Aside0.mk ((by rw [hg]; exact (below_size (by repeat (first | (with_reducible first | exact HB.out | apply below_alloc | apply pw_below_drewN | apply below_drew1 | refine bset ?_ (by assumption)) | exact HB.out))) : w.heap.size ≤ gb194)); have n5_ := Aside0.mk ((by rw [hg]; exact (below_size (by repeat (first | (with_reducible first | exact HB.out | apply below_alloc | apply pw_below_drewN | apply below_drew1 | refine bset ?_ (by assumption)) | exact HB.out))) : w.heap.size ≤ gb194)); have n6_ := Aside0.mk ((by rw [hg]; exact Nat.ne_of_lt (blk_lt (pk BK183.out)) : gb183 ≠ gb194)); have n7_ := Aside0.mk ((by rw [hg]; exact Nat.ne_of_gt (blk_lt (pk BK183.out)) : gb194 ≠ gb183)); have n8_ := Aside0.mk ((by rw [hg]; exact Nat.ne_of_lt (blk_lt (pk BK190.out)) : gb190 ≠ gb194)); have n9_ := Aside0.mk ((by rw [hg]; exact Nat.ne_of_gt (blk_lt (pk BK190.out)) : gb194 ≠ gb190)); clear BK183; clear BK190; clear HB; have BK183 := n0_; have BK190 := n1_; have HB := n2_; have BK194 := n3_; have GW194 := n4_; have GE194 := n5_; have NB183_194 := n6_; have NB194_183 := n7_; have NB190_194 := n8_; have NB194_190 := n9_; clear n0_ n1_ n2_ n3_ n4_ n5_ n6_ n7_ n8_ n9_; clear hb hbox hg; have hnb78 := NB194_183.out; have hnc78 := NB183_194.out; have hnb79 := NB194_190.out; have hnc79 := NB190_194.out; have hcz80_0 : w77.cell? ⟨gb194, 0, none⟩ = some (.int .i64 0) := (blk_cell BK194.out 0).trans rfl; have hcz80_1 : w77.cell? ⟨gb194, 1, none⟩ = some (.int .i64 0) := (blk_cell BK194.out 1).trans rfl; have hfz80_0 := blk_frozen BK194.out 0; have hfz80_1 := blk_frozen BK194.out 1; have hcz81_0 : w77.cell? ⟨gb183, 0, none⟩ = some (.int .i64 t181) := (blk_cell BK183.out 0).trans rfl; have hcz81_1 : w77.cell? ⟨gb183, 1, none⟩ = some (.int .i64 t182) := (blk_cell BK183.out 1).trans rfl; have hfz81_0 := blk_frozen BK183.out 0; have hfz81_1 := blk_frozen BK183.out 1; have hcz82_0 : w77.cell? ⟨gb190, 0, none⟩ = some (.int .i64 t184) := (blk_cell BK190.out 0).trans rfl; have hcz82_1 : w77.cell? ⟨gb190, 1, none⟩ = some (.int .i64 t185) := (blk_cell BK190.out 1).trans rfl; have hcz82_2 : w77.cell? ⟨gb190, 2, none⟩ = some (.int .i64 t186) := (blk_cell BK190.out 2).trans rfl; have hcz82_3 : w77.cell? ⟨gb190, 3, none⟩ = some (.int .i64 t187) := (blk_cell BK190.out 3).trans rfl; have hcz82_4 : w77.cell? ⟨gb190, 4, none⟩ = some (.int .i64 t188) := (blk_cell BK190.out 4).trans rfl; have hfz82_0 := blk_frozen BK190.out 0; have hfz82_1 := blk_frozen BK190.out 1; have hfz82_2 := blk_frozen BK190.out 2; have hfz82_3 := blk_frozen BK190.out 3; have hfz82_4 := blk_frozen BK190.out 4))
           go_ret
           exact ⟨by first | rfl | (simp [errW_none, errW_some] <;> rfl) | (simp only [← hji45]; first | rfl | (simp [errW_none, errW_some] <;> rfl)) | (simp [*, errW_none, errW_some] <;> rfl), by repeat (first | (with_reducible first | exact HB.out | apply below_alloc | apply pw_below_drewN | apply below_drew1 | refine bset ?_ (by assumption)) | exact HB.out)⟩
          ·replace c65 := Bool.eq_false_iff.mpr c65
           subst c65
           have H1 : (some false) = some r := by rw [if_neg (show ¬ (false = true) by decide)] at H; exact H
           clear H
           have H := H1
           clear H1
           obtain rfl := Option.some.inj H
           go_enter Try.func10, Try.ntmps10
           try go_wp2_with (first | ((with_reducible refine gate_callee (f := 25) rfl ?_); refine goesL_ (some 14) rfl rfl Try.func25 (by kernel_rfl) rfl #[] rfl (by (try simp only [List.map_toArray, List.map_cons, List.map_nil]); first | done | rfl | (simp only [List.length_drop, List.length_take]; rfl)) ?_; (with_reducible refine (foolscaplaw27_known.calls k  true _ A5.out).mono ?_); rintro e w83 ⟨rfl, hb⟩; refine ⟨_, rfl, ?_⟩; have n0_ := Aside0.mk (below_step (by repeat (first | (with_reducible first | exact HB.out | apply below_alloc | apply pw_below_drewN | apply below_drew1) | exact HB.out)) hb); clear HB; have HB := n0_; clear n0_; (try clear hb); (try clear hb2); (try clear hk); (try clear hi)) | ((with_reducible refine gate_callee (f := 24) rfl ?_); refine goesL_ (some 17) rfl rfl Try.func24 (by kernel_rfl) rfl #[.slice A0 l0.length c0] rfl (by (try simp only [List.map_toArray, List.map_cons, List.map_nil]); first | done | rfl | (simp only [List.length_drop, List.length_take]; rfl)) ?_; (with_reducible refine (foolscaphelp_Text.calls k _ _ l0 true _ ?side1 ?side2 A7.out).mono ?_); (case side1 => repeat (first | exact (Kd.C_below HR0.out HB.out) | (with_reducible refine Kd.C_alloc ?_ _) | (with_reducible refine Kd.C_drewN ?_ _) | (with_reducible refine Kd.C_drew ?_))); (case side2 => exact HC0.out); rintro e w' ⟨rfl, ⟨nd, rfl⟩⟩; refine ⟨_, rfl, ?_⟩; (try (rw [drewN_self w83]; generalize hq_ : World.drewN w83 _ = w83; have n0_ : Aside0 (Below w.heap.size w w83) := ⟨by rw [← hq_]; exact (by repeat (first | (with_reducible first | exact HB.out | apply below_alloc | apply pw_below_drewN | apply below_drew1) | exact HB.out))⟩; clear HB hq_; have HB := n0_; clear n0_))) | ((with_reducible refine gate_callee (f := 26) rfl ?_); refine goesL_ (some 22) rfl rfl Try.func26 (by kernel_rfl) rfl #[.slice A0 l0.length c0, .int .u16 a1, .int .u16 a2] rfl (by (try simp only [List.map_toArray, List.map_cons, List.map_nil]); first | done | rfl | (simp only [List.length_drop, List.length_take]; rfl)) ?_; (with_reducible refine (foolscapseat_Place.calls _ _ l0 a1 a2 t181 t182 _ ?side1 ?side2 A9.out).mono ?_); (case side1 => repeat (first | exact (Kd.C_below HR0.out HB.out) | (with_reducible refine Kd.C_alloc ?_ _) | (with_reducible refine Kd.C_drewN ?_ _) | (with_reducible refine Kd.C_drew ?_))); (case side2 => exact HC0.out); rintro e w84 ⟨rfl, hb⟩; refine ⟨_, rfl, ?_⟩; have n0_ := Aside0.mk (below_step (by repeat (first | (with_reducible first | exact HB.out | apply below_alloc | apply pw_below_drewN | apply below_drew1) | exact HB.out)) hb); clear HB; have HB := n0_; clear n0_; (try clear hb); (try clear hb2); (try clear hk); (try clear hi)) | ((with_reducible refine gate_dst (N := 9) rfl ?_); refine box_event ?hg (N := 9) ?hd (cs := #[.int .i64 0, .int .i64 0]) (t := 28) ?hr ?_; (case hd => rfl); (case hg => rfl); (case hr => first | (go_simp; done) | (go_simp; rfl)); intro gb183 hg w85 hbox hb; have n0_ := Aside0.mk (below_step (by repeat (first | (with_reducible first | exact HB.out | apply below_alloc | apply pw_below_drewN | apply below_drew1) | exact HB.out)) hb); have n1_ := Aside0.mk (hbox); have n2_ := Aside0.mk ((by rw [hg]; exact (below_size (by repeat (first | (with_reducible first | exact HB.out | apply below_alloc | apply pw_below_drewN | apply below_drew1) | exact HB.out))) : w.heap.size ≤ gb183)); have n3_ := Aside0.mk ((by rw [hg]; exact (below_size (by repeat (first | (with_reducible first | exact HB.out | apply below_alloc | apply pw_below_drewN | apply below_drew1) | exact HB.out))) : w.heap.size ≤ gb183)); clear HB; have HB := n0_; have BK183 := n1_; have GW183 := n2_; have GE183 := n3_; clear n0_ n1_ n2_ n3_; clear hb hbox hg; have hcz86_0 : w85.cell? ⟨gb183, 0, none⟩ = some (.int .i64 0) := (blk_cell BK183.out 0).trans rfl; have hcz86_1 : w85.cell? ⟨gb183, 1, none⟩ = some (.int .i64 0) := (blk_cell BK183.out 1).trans rfl; have hfz86_0 := blk_frozen BK183.out 0; have hfz86_1 := blk_frozen BK183.out 1) | ((with_reducible refine gate_callee (f := 27) rfl ?_); refine goesL_ (some 40) rfl rfl Try.func27 (by kernel_rfl) rfl #[.slice A0 l0.length c0, .agg #[.int .i64 t181, .int .i64 t182], .agg #[.int .i64 (wrap64 ((wrap64 (t181 + 1)) + (wrap64 (Int.tmod a3 4)))), .int .i64 0, .int .i64 0, .bool false, .int .i64 0]] rfl (by (try simp only [List.map_toArray, List.map_cons, List.map_nil]); first | done | rfl | (simp only [List.length_drop, List.length_take]; rfl)) ?_; (with_reducible refine (area_Of.calls k _ _ l0 t181 t182 (wrap64 ((wrap64 (t181 + 1)) + (wrap64 (Int.tmod a3 4)))) 0 0 false 0 t184 t185 t186 t187 t188 false _ ?side1 ?side2 A15.out).mono ?_); (case side1 => exact Kd.C_below HR0.out (by repeat (first | (with_reducible first | exact HB.out | apply below_alloc | apply pw_below_drewN | apply below_drew1 | refine bset ?_ (by assumption)) | exact HB.out))); (case side2 => exact HC0.out); rintro e w87 ⟨rfl, hb⟩; refine ⟨_, rfl, ?_⟩; have n0_ := Aside0.mk (blk_below (g := gb183) (o := .cells #[.int .i64 t181, .int .i64 t182] 28 (0, 0)) (by refine pk ?_; refine blk_put (cs := #[.int .i64 t181, .int .i64 0]) ?_ 1 _ rfl; refine pk ?_; refine blk_put (cs := #[.int .i64 0, .int .i64 0]) ?_ 0 _ rfl; exact pk BK183.out) hb); have n1_ := Aside0.mk (below_step (by repeat (first | (with_reducible first | exact HB.out | apply below_alloc | apply pw_below_drewN | apply below_drew1 | refine bset ?_ (by assumption)) | exact HB.out)) hb); clear BK183; clear HB; have BK183 := n0_; have HB := n1_; clear n0_ n1_; (try clear hb); (try clear hb2); (try clear hk); (try clear hi)) | ((with_reducible refine gate_dst (N := 11) rfl ?_); refine box_event ?hg (N := 11) ?hd (cs := #[.int .i64 0, .int .i64 0, .int .i64 0, .int .i64 0, .int .i64 0]) (t := 43) ?hr ?_; (case hd => rfl); (case hg => rfl); (case hr => first | (go_simp; done) | (go_simp; rfl)); intro gb190 hg w88 hbox hb; have n0_ := Aside0.mk (blk_below (pk BK183.out) hb); have n1_ := Aside0.mk (below_step (by repeat (first | (with_reducible first | exact HB.out | apply below_alloc | apply pw_below_drewN | apply below_drew1 | refine bset ?_ (by assumption)) | exact HB.out)) hb); have n2_ := Aside0.mk (hbox); have n3_ := Aside0.mk ((by rw [hg]; exact (below_size (by repeat (first | (with_reducible first | exact HB.out | apply below_alloc | apply pw_below_drewN | apply below_drew1 | refine bset ?_ (by assumption)) | exact HB.out))) : w.heap.size ≤ gb190)); have n4_ := Aside0.mk ((by rw [hg]; exact (below_size (by repeat (first | (with_reducible first | exact HB.out | apply below_alloc | apply pw_below_drewN | apply below_drew1 | refine bset ?_ (by assumption)) | exact HB.out))) : w.heap.size ≤ gb190)); have n5_ := Aside0.mk ((by rw [hg]; exact Nat.ne_of_lt (blk_lt (pk BK183.out)) : gb183 ≠ gb190)); have n6_ := Aside0.mk ((by rw [hg]; exact Nat.ne_of_gt (blk_lt (pk BK183.out)) : gb190 ≠ gb183)); clear BK183; clear HB; have BK183 := n0_; have HB := n1_; have BK190 := n2_; have GW190 := n3_; have GE190 := n4_; have NB183_190 := n5_; have NB190_183 := n6_; clear n0_ n1_ n2_ n3_ n4_ n5_ n6_; clear hb hbox hg; have hnb89 := NB190_183.out; have hnc89 := NB183_190.out; have hcz90_0 : w88.cell? ⟨gb190, 0, none⟩ = some (.int .i64 0) := (blk_cell BK190.out 0).trans rfl; have hcz90_1 : w88.cell? ⟨gb190, 1, none⟩ = some (.int .i64 0) := (blk_cell BK190.out 1).trans rfl; have hcz90_2 : w88.cell? ⟨gb190, 2, none⟩ = some (.int .i64 0) := (blk_cell BK190.out 2).trans rfl; have hcz90_3 : w88.cell? ⟨gb190, 3, none⟩ = some (.int .i64 0) := (blk_cell BK190.out 3).trans rfl; have hcz90_4 : w88.cell? ⟨gb190, 4, none⟩ = some (.int .i64 0) := (blk_cell BK190.out 4).trans rfl; have hfz90_0 := blk_frozen BK190.out 0; have hfz90_1 := blk_frozen BK190.out 1; have hfz90_2 := blk_frozen BK190.out 2; have hfz90_3 := blk_frozen BK190.out 3; have hfz90_4 := blk_frozen BK190.out 4))
           have n0_ : Aside0 ((((((w88.setCell ⟨gb190, 0, none⟩ (.int .i64 t184)).setCell ⟨gb190, 1, none⟩ (.int .i64 t185)).setCell ⟨gb190, 2, none⟩ (.int .i64 t186)).setCell ⟨gb190, 3, none⟩ (.int .i64 t187)).setCell ⟨gb190, 4, none⟩ (.int .i64 t188)).heap[gb183]? = some (.cells #[.int .i64 t181, .int .i64 t182] 28 (0, 0))) := ⟨by refine pk ?_; refine blk_far ?_ NB183_190.out _; refine pk ?_; refine blk_far ?_ NB183_190.out _; refine pk ?_; refine blk_far ?_ NB183_190.out _; refine pk ?_; refine blk_far ?_ NB183_190.out _; refine pk ?_; refine blk_far ?_ NB183_190.out _; exact pk BK183.out⟩
           have n1_ : Aside0 ((((((w88.setCell ⟨gb190, 0, none⟩ (.int .i64 t184)).setCell ⟨gb190, 1, none⟩ (.int .i64 t185)).setCell ⟨gb190, 2, none⟩ (.int .i64 t186)).setCell ⟨gb190, 3, none⟩ (.int .i64 t187)).setCell ⟨gb190, 4, none⟩ (.int .i64 t188)).heap[gb190]? = some (.cells #[.int .i64 t184, .int .i64 t185, .int .i64 t186, .int .i64 t187, .int .i64 t188] 43 (0, 0))) := ⟨by refine pk ?_; refine blk_put (cs := #[.int .i64 t184, .int .i64 t185, .int .i64 t186, .int .i64 t187, .int .i64 0]) ?_ 4 _ rfl; refine pk ?_; refine blk_put (cs := #[.int .i64 t184, .int .i64 t185, .int .i64 t186, .int .i64 0, .int .i64 0]) ?_ 3 _ rfl; refine pk ?_; refine blk_put (cs := #[.int .i64 t184, .int .i64 t185, .int .i64 0, .int .i64 0, .int .i64 0]) ?_ 2 _ rfl; refine pk ?_; refine blk_put (cs := #[.int .i64 t184, .int .i64 0, .int .i64 0, .int .i64 0, .int .i64 0]) ?_ 1 _ rfl; refine pk ?_; refine blk_put (cs := #[.int .i64 0, .int .i64 0, .int .i64 0, .int .i64 0, .int .i64 0]) ?_ 0 _ rfl; exact pk BK190.out⟩
           have n2_ : Aside0 (Below w.heap.size w (((((w88.setCell ⟨gb190, 0, none⟩ (.int .i64 t184)).setCell ⟨gb190, 1, none⟩ (.int .i64 t185)).setCell ⟨gb190, 2, none⟩ (.int .i64 t186)).setCell ⟨gb190, 3, none⟩ (.int .i64 t187)).setCell ⟨gb190, 4, none⟩ (.int .i64 t188))) := ⟨by repeat (first | (with_reducible first | exact HB.out | apply below_alloc | apply pw_below_drewN | apply below_drew1 | refine bset ?_ (by assumption)) | exact HB.out)⟩
           (try clear BK183)
           (try clear BK190)
           (try clear HB)
           generalize (((((w88.setCell ⟨gb190, 0, none⟩ (.int .i64 t184)).setCell ⟨gb190, 1, none⟩ (.int .i64 t185)).setCell ⟨gb190, 2, none⟩ (.int .i64 t186)).setCell ⟨gb190, 3, none⟩ (.int .i64 t187)).setCell ⟨gb190, 4, none⟩ (.int .i64 t188)) = w91 at n0_ n1_ n2_ ⊢
           have BK183 := n0_
           have BK190 := n1_
           have HB := n2_
           clear n0_ n1_ n2_
           have n0_ := Aside0.mk (blk_drew BK183.out)
           have n1_ := Aside0.mk (blk_drew BK190.out)
           have n2_ := Aside0.mk (below_drew1 HB.out)
           clear BK183
           clear BK190
           clear HB
           have BK183 := n0_
           have BK190 := n1_
           have HB := n2_
           clear n0_ n1_ n2_
           have p191 : 0 ≤ (t181 : Int) := of_decide_eq_true (by first | (with_reducible assumption) | assumption)
           have q191 : t181 < (l0.length : Int) := of_decide_eq_true (by first | (with_reducible assumption) | assumption)
           obtain ⟨ad191, e191, hx191_0⟩ := Kd.at_string HR0.out t181 p191 q191
           have hw191_0 := hx191_0
           cases e191
           replace hx191_0 := (HB.out.cell (World.block_lt_of_cell? w _ hx191_0)).trans hx191_0
           replace p191 := eq_true p191
           replace q191 := eq_true q191
           refine start_ (n := 9) (S := fun w' => w'.cell? ⟨gb183, 0, none⟩ = some (.int .i64 t181) ∧ w'.cell? ⟨gb183, 1, none⟩ = some (.int .i64 t182) ∧ w'.cell? (ad191.add (t181).toNat) = some (.string (rdOf ByteArray.empty l0 t181))) (ds := []) #[false, false, false, false, false, false, false, false, false] (by kernel_rfl) rfl rfl ⟨(blk_cell BK183.out 0).trans rfl, (blk_cell BK183.out 1).trans rfl, ((HB.out.cell (World.block_lt_of_cell? w _ hw191_0)).trans hw191_0)⟩ (fun hHeld => ?_); refine with_tabW foolscaplaw27_AreaBreaks.tab10 foolscaplaw27_AreaBreaks.bits10 (fun HT_ HW_ => ?_)
           generalize w91.drew = w92 at BK183 BK190 HB hx191_0 hHeld ⊢
           refine pure_ (i := 0) (N := some 43) (v := ?_) (a' := ?_) #[true, false, false, false, false, false, false, false, false] rfl rfl (any_of HT_.out (by kernel_rfl)) (fun _ _ _ h => h) (Or.inl ⟨by rfl, ?_⟩) ?_ ?_
           rotate_left
           ·intro w'
            go_simp
            with_reducible rfl
           rotate_left
           ·simp only [Act.put, List.setIfInBounds_toArray, List.set_cons_zero, List.set_cons_succ, i64_w, i32_w]
            rfl
           refine pure_ (i := 2) (N := some 45) (v := ?_) (a' := ?_) #[true, false, true, false, false, false, false, false, false] rfl rfl (any_of HT_.out (by kernel_rfl)) (fun _ _ _ h => h) (Or.inl ⟨by rfl, ?_⟩) ?_ ?_
           rotate_left
           ·intro w'
            go_simp
            with_reducible rfl
           rotate_left
           ·simp only [Act.put, List.setIfInBounds_toArray, List.set_cons_zero, List.set_cons_succ, i64_w, i32_w]
            rfl
           refine pure_ (i := 3) (N := some 46) (v := ?_) (a' := ?_) #[true, false, true, true, false, false, false, false, false] rfl rfl (any_of HT_.out (by kernel_rfl)) (fun _ _ _ h => h) (Or.inl ⟨by rfl, ?_⟩) ?_ ?_
           rotate_left
           ·intro w'
            go_simp
            with_reducible rfl
           rotate_left
           ·simp only [Act.put, List.setIfInBounds_toArray, List.set_cons_zero, List.set_cons_succ, i64_w, i32_w]
            rfl
           refine take_ (i := 1) (N := some 44) (v := ?_) (a' := ?_) #[true, true, true, true, false, false, false, false, false] rfl rfl (take_ofW HT_.out HW_.out (by kernel_rfl)) (fun _ _ _ h => h) (Or.inl ⟨by rfl, ?_⟩) hHeld ?_ ?_
           rotate_left
           ·rintro w' ⟨s0, s1, s2⟩
            go_simp
            with_reducible rfl
           rotate_left
           ·simp only [Act.put, List.setIfInBounds_toArray, List.set_cons_zero, List.set_cons_succ, i64_w, i32_w]
            rfl
           refine take_ (i := 4) (N := some 47) (v := ?_) (a' := ?_) #[true, true, true, true, true, false, false, false, false] rfl rfl (take_ofW HT_.out HW_.out (by kernel_rfl)) (fun _ _ _ h => h) (Or.inl ⟨by rfl, ?_⟩) hHeld ?_ ?_
           rotate_left
           ·rintro w' ⟨s0, s1, s2⟩
            go_simp
            with_reducible rfl
           rotate_left
           ·simp only [Act.put, List.setIfInBounds_toArray, List.set_cons_zero, List.set_cons_succ, i64_w, i32_w]
            rfl
           refine pure_ (i := 5) (N := some 48) (v := ?_) (a' := ?_) #[true, true, true, true, true, true, false, false, false] rfl rfl (any_of HT_.out (by kernel_rfl)) (fun _ _ _ h => h) (Or.inl ⟨by rfl, ?_⟩) ?_ ?_
           rotate_left
           ·intro w'
            go_simp
            with_reducible rfl
           rotate_left
           ·simp only [Act.put, List.setIfInBounds_toArray, List.set_cons_zero, List.set_cons_succ, i64_w, i32_w]
            rfl
           refine take_ (i := 6) (N := some 49) (v := ?_) (a' := ?_) #[true, true, true, true, true, true, true, false, false] rfl rfl (take_ofW HT_.out HW_.out (by kernel_rfl)) (fun _ _ _ h => h) (Or.inl ⟨by rfl, ?_⟩) hHeld ?_ ?_
           rotate_left
           ·rintro w' ⟨s0, s1, s2⟩
            go_simp
            with_reducible rfl
           rotate_left
           ·simp only [Act.put, List.setIfInBounds_toArray, List.set_cons_zero, List.set_cons_succ, i64_w, i32_w]
            rfl
           refine one_ (i := 7) (N := some 50) #[true, true, true, true, true, true, true, true, false] rfl rfl (one_of HT_.out (by kernel_rfl)) (by decide) (fun K hK => ?_)
           refine goes_ Try.func16 (by kernel_rfl) rfl #[.string (rdOf ByteArray.empty l0 t181)] (by rfl) rfl rfl (by (try simp only [List.map_toArray, List.map_cons, List.map_nil]); first | done | rfl | (simp only [List.length_drop, List.length_take]; rfl)) ?_
           with_reducible refine (foolscapref5_First.calls k (rdOf ByteArray.empty l0 t181) t192 _ A18.out).mono ?_
           rintro e w93 ⟨rfl, hb⟩
           refine ⟨_, rfl, ?_⟩
           have n0_ := Aside0.mk (blk_below (pk BK183.out) hb)
           have n1_ := Aside0.mk (blk_below (pk BK190.out) hb)
           have n2_ := Aside0.mk (below_step (by repeat (first | (with_reducible first | exact HB.out | apply below_alloc | apply pw_below_drewN | apply below_drew1 | refine bset ?_ (by assumption)) | exact HB.out)) hb)
           clear BK183
           clear BK190
           clear HB
           have BK183 := n0_
           have BK190 := n1_
           have HB := n2_
           clear n0_ n1_ n2_
           (try clear hb)
           (try clear hb2)
           (try clear hk)
           (try clear hi)
           refine hK.out _ _ ⟨(blk_cell BK183.out 0).trans rfl, (blk_cell BK183.out 1).trans rfl, ((HB.out.cell (World.block_lt_of_cell? w _ hw191_0)).trans hw191_0)⟩ (fun hHeld => ?_)
           clear hK K
           refine norm_ (a' := ?_) ?_ ?_
           rotate_left
           ·show Act.put _ (some 50) _ = _
            simp only [Act.put, List.setIfInBounds_toArray, List.set_cons_zero, List.set_cons_succ, i64_w, i32_w]
            rfl
           refine pure_ (i := 8) (N := some 51) (v := ?_) (a' := ?_) #[true, true, true, true, true, true, true, true, true] rfl rfl (any_of HT_.out (by kernel_rfl)) (fun _ _ _ h => h) (Or.inl ⟨by rfl, ?_⟩) ?_ ?_
           rotate_left
           ·intro w'
            go_simp
            with_reducible rfl
           rotate_left
           ·simp only [Act.put, List.setIfInBounds_toArray, List.set_cons_zero, List.set_cons_succ, i64_w, i32_w]
            rfl
           refine done_ (done_of HT_.out (by kernel_rfl)) ?_
           have p193 : 0 ≤ ((ji45) : Int) := of_decide_eq_true (by first | (with_reducible assumption) | assumption)
           have q193 : (ji45) < (l0.length : Int) := of_decide_eq_true (by first | (with_reducible assumption) | assumption)
           obtain ⟨ad193, e193, hx193_0⟩ := Kd.at_string HR0.out (ji45) p193 q193
           obtain rfl : ad191 = ad193 := (by injection e193)
           replace hx193_0 := (HB.out.cell (World.block_lt_of_cell? w _ hx193_0)).trans hx193_0
           replace p193 := eq_true p193
           replace q193 := eq_true q193
           try go_wp2_with (first | ((with_reducible refine gate_dst (N := 13) rfl ?_); refine box_event ?hg (N := 13) ?hd (cs := #[.int .i64 0, .int .i64 0]) (t := 28) ?hr ?_; (case hd => rfl); (case hg => rfl); (case hr => first | (go_simp; done) | (go_simp; rfl)); intro gb194 hg w94 hbox hb; have n0_ := Aside0.mk (blk_below (pk BK183.out) hb); have n1_ := Aside0.mk (blk_below (pk BK190.out) hb); have n2_ := Aside0.mk (below_step (by repeat (first | (with_reducible first | exact HB.out | apply below_alloc | apply pw_below_drewN | apply below_drew1 | refine bset ?_ (by assumption)) | exact HB.out)) hb); have n3_ := Aside0.mk (hbox); have n4_ := Aside0.mk ((by rw [hg]; exact (below_size (by repeat (first | (with_reducible first | exact HB.out | apply below_alloc | apply pw_below_drewN | apply below_drew1 | refine bset ?_ (by assumption)) | exact HB.out))) : w.heap.size ≤ gb194)); have n5_ := Aside0.mk ((by rw [hg]; exact (below_size (by repeat (first | (with_reducible first | exact HB.out | apply below_alloc | apply pw_below_drewN | apply below_drew1 | refine bset ?_ (by assumption)) | exact HB.out))) : w.heap.size ≤ gb194)); have n6_ := Aside0.mk ((by rw [hg]; exact Nat.ne_of_lt (blk_lt (pk BK183.out)) : gb183 ≠ gb194)); have n7_ := Aside0.mk ((by rw [hg]; exact Nat.ne_of_gt (blk_lt (pk BK183.out)) : gb194 ≠ gb183)); have n8_ := Aside0.mk ((by rw [hg]; exact Nat.ne_of_lt (blk_lt (pk BK190.out)) : gb190 ≠ gb194)); have n9_ := Aside0.mk ((by rw [hg]; exact Nat.ne_of_gt (blk_lt (pk BK190.out)) : gb194 ≠ gb190)); clear BK183; clear BK190; clear HB; have BK183 := n0_; have BK190 := n1_; have HB := n2_; have BK194 := n3_; have GW194 := n4_; have GE194 := n5_; have NB183_194 := n6_; have NB194_183 := n7_; have NB190_194 := n8_; have NB194_190 := n9_; clear n0_ n1_ n2_ n3_ n4_ n5_ n6_ n7_ n8_ n9_; clear hb hbox hg; have hnb95 := NB194_183.out; have hnc95 := NB183_194.out; have hnb96 := NB194_190.out; have hnc96 := NB190_194.out; have hcz97_0 : w94.cell? ⟨gb194, 0, none⟩ = some (.int .i64 0) := (blk_cell BK194.out 0).trans rfl; have hcz97_1 : w94.cell? ⟨gb194, 1, none⟩ = some (.int .i64 0) := (blk_cell BK194.out 1).trans rfl; have hfz97_0 := blk_frozen BK194.out 0; have hfz97_1 := blk_frozen BK194.out 1; have hcz98_0 : w94.cell? ⟨gb183, 0, none⟩ = some (.int .i64 t181) := (blk_cell BK183.out 0).trans rfl; have hcz98_1 : w94.cell? ⟨gb183, 1, none⟩ = some (.int .i64 t182) := (blk_cell BK183.out 1).trans rfl; have hfz98_0 := blk_frozen BK183.out 0; have hfz98_1 := blk_frozen BK183.out 1))
           go_ret
           exact ⟨by first | rfl | (simp [errW_none, errW_some] <;> rfl) | (simp only [← hji45]; first | rfl | (simp [errW_none, errW_some] <;> rfl)) | (simp [*, errW_none, errW_some] <;> rfl), by repeat (first | (with_reducible first | exact HB.out | apply below_alloc | apply pw_below_drewN | apply below_drew1 | refine bset ?_ (by assumption)) | exact HB.out)⟩
        ·rw [if_neg c47] at H
         exact absurd H (by simp)
       ·rw [if_neg c46] at H
        exact absurd H (by simp)
     ·rw [if_neg c17] at H
      exact absurd H (by simp)
    ·rw [if_neg c16] at H
     exact absurd H (by simp)
  ·replace c8 := Bool.eq_false_iff.mpr c8
   subst c8
   have H1 : (some true) = some r := by rw [if_neg (show ¬ (false = true) by decide)] at H; exact H
   clear H
   have H := H1
   clear H1
   obtain rfl := Option.some.inj H
   go_enter Try.func10, Try.ntmps10
   go_wp2_with (first | ((with_reducible refine gate_callee (f := 25) rfl ?_); refine goesL_ (some 14) rfl rfl Try.func25 (by kernel_rfl) rfl #[] rfl (by (try simp only [List.map_toArray, List.map_cons, List.map_nil]); first | done | rfl | (simp only [List.length_drop, List.length_take]; rfl)) ?_; (with_reducible refine (foolscaplaw27_known.calls k  true _ A5.out).mono ?_); rintro e w99 ⟨rfl, hb⟩; refine ⟨_, rfl, ?_⟩; have n0_ := Aside0.mk (below_step (by repeat (first | (with_reducible first | exact HB.out | apply below_alloc | apply pw_below_drewN | apply below_drew1) | exact HB.out)) hb); clear HB; have HB := n0_; clear n0_; (try clear hb); (try clear hb2); (try clear hk); (try clear hi)) | ((with_reducible refine gate_callee (f := 24) rfl ?_); refine goesL_ (some 17) rfl rfl Try.func24 (by kernel_rfl) rfl #[.slice A0 l0.length c0] rfl (by (try simp only [List.map_toArray, List.map_cons, List.map_nil]); first | done | rfl | (simp only [List.length_drop, List.length_take]; rfl)) ?_; (with_reducible refine (foolscaphelp_Text.calls k _ _ l0 false _ ?side1 ?side2 A7.out).mono ?_); (case side1 => repeat (first | exact (Kd.C_below HR0.out HB.out) | (with_reducible refine Kd.C_alloc ?_ _) | (with_reducible refine Kd.C_drewN ?_ _) | (with_reducible refine Kd.C_drew ?_))); (case side2 => exact HC0.out); rintro e w' ⟨rfl, ⟨nd, rfl⟩⟩; refine ⟨_, rfl, ?_⟩))
   go_ret
   exact ⟨by first | rfl | (simp [errW_none, errW_some] <;> rfl) | (simp [*, errW_none, errW_some] <;> rfl), by repeat (first | (with_reducible first | exact HB.out | apply below_alloc | apply pw_below_drewN | apply below_drew1) | exact HB.out)⟩
 ·replace c6 := Bool.eq_false_iff.mpr c6
  subst c6
  have H1 : (some false) = some r := by rw [if_neg (show ¬ (false = true) by decide)] at H; exact H
  clear H
  have H := H1
  clear H1
  obtain rfl := Option.some.inj H
  go_enter Try.func10, Try.ntmps10
  go_wp2_with (first | ((with_reducible refine gate_callee (f := 25) rfl ?_); refine goesL_ (some 14) rfl rfl Try.func25 (by kernel_rfl) rfl #[] rfl (by (try simp only [List.map_toArray, List.map_cons, List.map_nil]); first | done | rfl | (simp only [List.length_drop, List.length_take]; rfl)) ?_; (with_reducible refine (foolscaplaw27_known.calls k  false _ A5.out).mono ?_); rintro e w100 ⟨rfl, hb⟩; refine ⟨_, rfl, ?_⟩; have n0_ := Aside0.mk (below_step (by repeat (first | (with_reducible first | exact HB.out | apply below_alloc | apply pw_below_drewN | apply below_drew1) | exact HB.out)) hb); clear HB; have HB := n0_; clear n0_; (try clear hb); (try clear hb2); (try clear hk); (try clear hi)))
  go_ret
  exact ⟨by first | rfl | (simp [errW_none, errW_some] <;> rfl) | (simp [*, errW_none, errW_some] <;> rfl), by repeat (first | (with_reducible first | exact HB.out | apply below_alloc | apply pw_below_drewN | apply below_drew1) | exact HB.out)⟩

end Go.Proofs.Ytdcbgmeljakmcaa.MAreaBreaks
