/- What the Go functions of this law compute, and that they do: written by this session's own program (wip/myprint), for all inputs that the print's conditions name. -/
import Derived.Test.YtbfoflhfmhfofaaMFindWordsx0
import Derived.Test.YtbfoflhfmhfofaaMFindWordsx1
import Derived.Test.YtbfoflhfmhfofaaMFindWordsx3
import Derived.Test.YtbfoflhfmhfofaaMFindWordsx4
namespace Go.Proofs.Ytbfoflhfmhfofaa.MFindWords
open Go.RowKit Go.Proofs.Ytbfoflhfmhfofaa.Out Go.Proofs.YtbfoflhfmhfofaaW.PrintWords Go.Proofs.YtbfoflhfmhfofaaW.PrintLast Go.Proofs.YtbfoflhfmhfofaaW.PrintMore
attribute [local go_sem] max2_int min2_int max_two min_two max_three min_three max_four min_four   -- for this text's walks alone
set_option linter.unusedVariables false
set_option linter.unusedSimpArgs false

attribute [local go_sem high] eqA28
/-! ### foolscaplaw12_FindWords: function 4 -/
mutual
def foolscaplaw12_FindWords.j1 : Nat → ByteArray → ByteArray → Bool → Int → Int → Int → Int → Option (Bool)
  | 0, _, _, _, _, _, _, _ => none
  | k + 1, x8, x10, x105, x144000, x144001, x150000, x150001 => if x105 = true then (some false) else (foolscaplaw12_FindWords.l1 k x8 x10 0 x144000 x144001 x150000 x150001)
def foolscaplaw12_FindWords.l1 : Nat → ByteArray → ByteArray → Int → Int → Int → Int → Int → Option (Bool)
  | 0, _, _, _, _, _, _, _ => none
  | k + 1, x8, x10, x13, x144000, x144001, x150000, x150001 => if x13 < (x10.size : Int) then (if 0 ≤ x13 then ((foolscapref5_Of.f k (bt x10 x13) false).bind fun t151 => (if t151 = 1 then (foolscaplaw12_FindWords.l1 k x8 x10 (wrap64 (x13 + 1)) x144000 x144001 x150000 x150001) else (some false))) else (none)) else (if (wrap64 (x150001 + (x10.size : Int))) < (x8.size : Int) then (if 0 ≤ (wrap64 (x150001 + (x10.size : Int))) then ((foolscapref5_Of.f k (bt x8 (wrap64 (x150001 + (x10.size : Int)))) false).bind fun t152 => (if t152 = 1 then (foolscaplaw12_FindWords.j3 k x8 true x144000 x144001 x150000 x150001) else (if x150001 > 0 then (if 0 ≤ (wrap64 (x150001 - 1)) then (if (wrap64 (x150001 - 1)) < (x8.size : Int) then ((foolscapref5_Of.f k (bt x8 (wrap64 (x150001 - 1))) false).bind fun t153 => (foolscaplaw12_FindWords.j3 k x8 (t153 == 1) x144000 x144001 x150000 x150001)) else (none)) else (none)) else (foolscaplaw12_FindWords.j3 k x8 false x144000 x144001 x150000 x150001)))) else (none)) else (if x150001 > 0 then (if 0 ≤ (wrap64 (x150001 - 1)) then (if (wrap64 (x150001 - 1)) < (x8.size : Int) then ((foolscapref5_Of.f k (bt x8 (wrap64 (x150001 - 1))) false).bind fun t154 => (foolscaplaw12_FindWords.j3 k x8 (t154 == 1) x144000 x144001 x150000 x150001)) else (none)) else (none)) else (foolscaplaw12_FindWords.j3 k x8 false x144000 x144001 x150000 x150001)))
def foolscaplaw12_FindWords.j3 : Nat → ByteArray → Bool → Int → Int → Int → Int → Option (Bool)
  | 0, _, _, _, _, _, _ => none
  | k + 1, x8, x146, x144000, x144001, x150000, x150001 => if x146 = true then (some false) else (foolscaplaw12_FindWords.l2 k x8 x144001 x150000 x150001)
def foolscaplaw12_FindWords.l2 : Nat → ByteArray → Int → Int → Int → Option (Bool)
  | 0, _, _, _, _ => none
  | k + 1, x8, x15, x150000, x150001 => if x15 < x150001 then (if 0 ≤ x15 then (if x15 < (x8.size : Int) then ((foolscapref5_Of.f k (bt x8 x15) false).bind fun t155 => (if t155 = 1 then (some false) else (foolscaplaw12_FindWords.l2 k x8 (wrap64 (x15 + 1)) x150000 x150001))) else (none)) else (none)) else (some true)
def foolscaplaw12_FindWords.l0 : Nat → ByteArray → ByteArray → Int → Int → Int → Option (Bool)
  | 0, _, _, _, _, _ => none
  | k + 1, x8, x10, x12, x150000, x150001 => if x12 < (x8.size : Int) then (if 0 ≤ x12 then ((foolscapref5_Of.f k (bt x8 x12) false).bind fun t150 => (if t150 = 1 then (some false) else (foolscaplaw12_FindWords.l0 k x8 x10 (wrap64 (x12 + 1)) x150000 x150001))) else (none)) else (if x10.toList = ([] : List UInt8) then (some (x150000 == 0 && (x150001 == 0))) else (some false))
end
def foolscaplaw12_FindWords.f (k : Nat) (l0 : List ByteArray) (a1 : Int) (a2 : Int) : Option (Bool) := (foolscaplaw12_known.f).bind fun t139 => (if t139 = true then ((foolscaphelp_Text.f k l0).bind fun t140 => (if t140 = true then ((foolscapseat_Place.f l0 a1 a2).bind fun bt141 => (if 0 ≤ bt141.1 then (if bt141.1 < (l0.length : Int) then ((find_Word.f l0 bt141.1 bt141.2).bind fun bt145 => (if bt145.2.2.2 = true then (if bt145.1 = bt141.1 then (if bt145.2.1 < 0 then (foolscaplaw12_FindWords.j1 k (rdOf ByteArray.empty l0 bt141.1) bt145.2.2.1 true bt141.1 bt141.2 bt145.1 bt145.2.1) else (if (wrap64 (bt145.2.1 + (bt145.2.2.1.size : Int))) > ((rdOf ByteArray.empty l0 bt141.1).size : Int) then (foolscaplaw12_FindWords.j1 k (rdOf ByteArray.empty l0 bt141.1) bt145.2.2.1 true bt141.1 bt141.2 bt145.1 bt145.2.1) else (if bt145.2.2.1.toList = ([] : List UInt8) then (foolscaplaw12_FindWords.j1 k (rdOf ByteArray.empty l0 bt141.1) bt145.2.2.1 true bt141.1 bt141.2 bt145.1 bt145.2.1) else (if 0 ≤ bt145.2.1 then (if bt145.2.1 ≤ (wrap64 (bt145.2.1 + (bt145.2.2.1.size : Int))) then (if (wrap64 (bt145.2.1 + (bt145.2.2.1.size : Int))) ≤ ((rdOf ByteArray.empty l0 bt141.1).size : Int) then (if ((rdOf ByteArray.empty l0 bt141.1).extract (bt145.2.1 : Int).toNat ((wrap64 (bt145.2.1 + (bt145.2.2.1.size : Int))) : Int).toNat).toList = bt145.2.2.1.toList then (foolscaplaw12_FindWords.j1 k (rdOf ByteArray.empty l0 bt141.1) bt145.2.2.1 (decide ((wrap64 (bt145.2.1 + (bt145.2.2.1.size : Int))) ≤ bt141.2)) bt141.1 bt141.2 bt145.1 bt145.2.1) else (foolscaplaw12_FindWords.j1 k (rdOf ByteArray.empty l0 bt141.1) bt145.2.2.1 true bt141.1 bt141.2 bt145.1 bt145.2.1)) else (none)) else (none)) else (none))))) else (foolscaplaw12_FindWords.j1 k (rdOf ByteArray.empty l0 bt141.1) bt145.2.2.1 true bt141.1 bt141.2 bt145.1 bt145.2.1)) else (foolscaplaw12_FindWords.l0 k (rdOf ByteArray.empty l0 bt141.1) bt145.2.2.1 bt141.2 bt145.1 bt145.2.1))) else (none)) else (none))) else (some true))) else (some false))
theorem foolscaplaw12_FindWords.mono_l : ∀ k, (∀ y0 y1 y2 y3 y4 y5 y6, LeO (foolscaplaw12_FindWords.j1 k y0 y1 y2 y3 y4 y5 y6) (foolscaplaw12_FindWords.j1 (k + 1) y0 y1 y2 y3 y4 y5 y6)) ∧ (∀ y0 y1 y2 y3 y4 y5 y6, LeO (foolscaplaw12_FindWords.l1 k y0 y1 y2 y3 y4 y5 y6) (foolscaplaw12_FindWords.l1 (k + 1) y0 y1 y2 y3 y4 y5 y6)) ∧ (∀ y0 y1 y2 y3 y4 y5, LeO (foolscaplaw12_FindWords.j3 k y0 y1 y2 y3 y4 y5) (foolscaplaw12_FindWords.j3 (k + 1) y0 y1 y2 y3 y4 y5)) ∧ (∀ y0 y1 y2 y3, LeO (foolscaplaw12_FindWords.l2 k y0 y1 y2 y3) (foolscaplaw12_FindWords.l2 (k + 1) y0 y1 y2 y3)) ∧ (∀ y0 y1 y2 y3 y4, LeO (foolscaplaw12_FindWords.l0 k y0 y1 y2 y3 y4) (foolscaplaw12_FindWords.l0 (k + 1) y0 y1 y2 y3 y4))
  | 0 => ⟨fun _ _ _ _ _ _ _ r h => by simp [foolscaplaw12_FindWords.j1] at h, fun _ _ _ _ _ _ _ r h => by simp [foolscaplaw12_FindWords.l1] at h, fun _ _ _ _ _ _ r h => by simp [foolscaplaw12_FindWords.j3] at h, fun _ _ _ _ r h => by simp [foolscaplaw12_FindWords.l2] at h, fun _ _ _ _ _ r h => by simp [foolscaplaw12_FindWords.l0] at h⟩
  | k + 1 => by
    obtain ⟨ih0, ih1, ih2, ih3, ih4⟩ := foolscaplaw12_FindWords.mono_l k
    refine ⟨?_, ?_, ?_, ?_, ?_⟩
    · intro y0 y1 y2 y3 y4 y5 y6
      unfold foolscaplaw12_FindWords.j1
      repeat' first
      | (with_reducible exact ih0 _ _ _ _ _ _ _)
      | (with_reducible exact ih1 _ _ _ _ _ _ _)
      | (with_reducible exact ih2 _ _ _ _ _ _)
      | (with_reducible exact ih3 _ _ _ _)
      | (with_reducible exact ih4 _ _ _ _ _)
      | (with_reducible exact foolscaphelp_Text.mono _ _)
      | (with_reducible exact foolscapref5_Of.mono _ _ _)
      | (with_reducible exact LeO.refl _)
      | (with_reducible exact LeO.none _)
      | (with_reducible refine LeO.ite ?_ ?_)
      | (with_reducible refine LeO.bind ?_ (fun _ => ?_))
      | exact ih0 _ _ _ _ _ _ _
      | exact ih1 _ _ _ _ _ _ _
      | exact ih2 _ _ _ _ _ _
      | exact ih3 _ _ _ _
      | exact ih4 _ _ _ _ _
      | exact foolscaphelp_Text.mono _ _
      | exact foolscapref5_Of.mono _ _ _
      | exact LeO.none _
      | refine LeO.ite ?_ ?_
      | refine LeO.bind ?_ (fun _ => ?_)
    · intro y0 y1 y2 y3 y4 y5 y6
      unfold foolscaplaw12_FindWords.l1
      repeat' first
      | (with_reducible exact ih0 _ _ _ _ _ _ _)
      | (with_reducible exact ih1 _ _ _ _ _ _ _)
      | (with_reducible exact ih2 _ _ _ _ _ _)
      | (with_reducible exact ih3 _ _ _ _)
      | (with_reducible exact ih4 _ _ _ _ _)
      | (with_reducible exact foolscaphelp_Text.mono _ _)
      | (with_reducible exact foolscapref5_Of.mono _ _ _)
      | (with_reducible exact LeO.refl _)
      | (with_reducible exact LeO.none _)
      | (with_reducible refine LeO.ite ?_ ?_)
      | (with_reducible refine LeO.bind ?_ (fun _ => ?_))
      | exact ih0 _ _ _ _ _ _ _
      | exact ih1 _ _ _ _ _ _ _
      | exact ih2 _ _ _ _ _ _
      | exact ih3 _ _ _ _
      | exact ih4 _ _ _ _ _
      | exact foolscaphelp_Text.mono _ _
      | exact foolscapref5_Of.mono _ _ _
      | exact LeO.none _
      | refine LeO.ite ?_ ?_
      | refine LeO.bind ?_ (fun _ => ?_)
    · intro y0 y1 y2 y3 y4 y5
      unfold foolscaplaw12_FindWords.j3
      repeat' first
      | (with_reducible exact ih0 _ _ _ _ _ _ _)
      | (with_reducible exact ih1 _ _ _ _ _ _ _)
      | (with_reducible exact ih2 _ _ _ _ _ _)
      | (with_reducible exact ih3 _ _ _ _)
      | (with_reducible exact ih4 _ _ _ _ _)
      | (with_reducible exact foolscaphelp_Text.mono _ _)
      | (with_reducible exact foolscapref5_Of.mono _ _ _)
      | (with_reducible exact LeO.refl _)
      | (with_reducible exact LeO.none _)
      | (with_reducible refine LeO.ite ?_ ?_)
      | (with_reducible refine LeO.bind ?_ (fun _ => ?_))
      | exact ih0 _ _ _ _ _ _ _
      | exact ih1 _ _ _ _ _ _ _
      | exact ih2 _ _ _ _ _ _
      | exact ih3 _ _ _ _
      | exact ih4 _ _ _ _ _
      | exact foolscaphelp_Text.mono _ _
      | exact foolscapref5_Of.mono _ _ _
      | exact LeO.none _
      | refine LeO.ite ?_ ?_
      | refine LeO.bind ?_ (fun _ => ?_)
    · intro y0 y1 y2 y3
      unfold foolscaplaw12_FindWords.l2
      repeat' first
      | (with_reducible exact ih0 _ _ _ _ _ _ _)
      | (with_reducible exact ih1 _ _ _ _ _ _ _)
      | (with_reducible exact ih2 _ _ _ _ _ _)
      | (with_reducible exact ih3 _ _ _ _)
      | (with_reducible exact ih4 _ _ _ _ _)
      | (with_reducible exact foolscaphelp_Text.mono _ _)
      | (with_reducible exact foolscapref5_Of.mono _ _ _)
      | (with_reducible exact LeO.refl _)
      | (with_reducible exact LeO.none _)
      | (with_reducible refine LeO.ite ?_ ?_)
      | (with_reducible refine LeO.bind ?_ (fun _ => ?_))
      | exact ih0 _ _ _ _ _ _ _
      | exact ih1 _ _ _ _ _ _ _
      | exact ih2 _ _ _ _ _ _
      | exact ih3 _ _ _ _
      | exact ih4 _ _ _ _ _
      | exact foolscaphelp_Text.mono _ _
      | exact foolscapref5_Of.mono _ _ _
      | exact LeO.none _
      | refine LeO.ite ?_ ?_
      | refine LeO.bind ?_ (fun _ => ?_)
    · intro y0 y1 y2 y3 y4
      unfold foolscaplaw12_FindWords.l0
      repeat' first
      | (with_reducible exact ih0 _ _ _ _ _ _ _)
      | (with_reducible exact ih1 _ _ _ _ _ _ _)
      | (with_reducible exact ih2 _ _ _ _ _ _)
      | (with_reducible exact ih3 _ _ _ _)
      | (with_reducible exact ih4 _ _ _ _ _)
      | (with_reducible exact foolscaphelp_Text.mono _ _)
      | (with_reducible exact foolscapref5_Of.mono _ _ _)
      | (with_reducible exact LeO.refl _)
      | (with_reducible exact LeO.none _)
      | (with_reducible refine LeO.ite ?_ ?_)
      | (with_reducible refine LeO.bind ?_ (fun _ => ?_))
      | exact ih0 _ _ _ _ _ _ _
      | exact ih1 _ _ _ _ _ _ _
      | exact ih2 _ _ _ _ _ _
      | exact ih3 _ _ _ _
      | exact ih4 _ _ _ _ _
      | exact foolscaphelp_Text.mono _ _
      | exact foolscapref5_Of.mono _ _ _
      | exact LeO.none _
      | refine LeO.ite ?_ ?_
      | refine LeO.bind ?_ (fun _ => ?_)
theorem foolscaplaw12_FindWords.mono : ∀ a0 a1 a2 k, LeO (foolscaplaw12_FindWords.f k a0 a1 a2) (foolscaplaw12_FindWords.f (k + 1) a0 a1 a2) := by
  intro a0 a1 a2 k
  obtain ⟨ih0, ih1, ih2, ih3, ih4⟩ := foolscaplaw12_FindWords.mono_l k
  unfold foolscaplaw12_FindWords.f
  repeat' first
      | (with_reducible exact ih0 _ _ _ _ _ _ _)
      | (with_reducible exact ih1 _ _ _ _ _ _ _)
      | (with_reducible exact ih2 _ _ _ _ _ _)
      | (with_reducible exact ih3 _ _ _ _)
      | (with_reducible exact ih4 _ _ _ _ _)
      | (with_reducible exact foolscaphelp_Text.mono _ _)
      | (with_reducible exact foolscapref5_Of.mono _ _ _)
      | (with_reducible exact LeO.refl _)
      | (with_reducible exact LeO.none _)
      | (with_reducible refine LeO.ite ?_ ?_)
      | (with_reducible refine LeO.bind ?_ (fun _ => ?_))
      | exact ih0 _ _ _ _ _ _ _
      | exact ih1 _ _ _ _ _ _ _
      | exact ih2 _ _ _ _ _ _
      | exact ih3 _ _ _ _
      | exact ih4 _ _ _ _ _
      | exact foolscaphelp_Text.mono _ _
      | exact foolscapref5_Of.mono _ _ _
      | exact LeO.none _
      | refine LeO.ite ?_ ?_
      | refine LeO.bind ?_ (fun _ => ?_)
set_option maxHeartbeats 8000000 in
set_option maxRecDepth 100000 in
theorem foolscaplaw12_FindWords.calls (k : Nat) (A0 : Option Addr) (c0 : Nat) (l0 : List ByteArray) (a1 : Int) (a2 : Int) (r : Bool) (w : World) (hr0 : Kd.C Kd.string w A0 l0.length l0) (hc0 : l0.length ≤ c0) (h : foolscaplaw12_FindWords.f k l0 a1 a2 = some r) :
    Calls Try.prog 4 #[.slice A0 l0.length c0, .int .u16 a1, .int .u16 a2] w fun e w' => e = .returned (.bool r) ∧ Below w.heap.size w w' := by
  have hu28 := Try.underlying28
  have HR0 := Aside0.mk hr0
  have HC0 := Aside0.mk hc0
  clear hr0 hc0
  have HB := Aside0.mk (Below.refl w.heap.size w)
  have H : ((foolscaplaw12_known.f).bind fun t139 => (if t139 = true then ((foolscaphelp_Text.f k l0).bind fun t140 => (if t140 = true then ((foolscapseat_Place.f l0 a1 a2).bind fun bt141 => (if 0 ≤ bt141.1 then (if bt141.1 < (l0.length : Int) then ((find_Word.f l0 bt141.1 bt141.2).bind fun bt145 => (if bt145.2.2.2 = true then (if bt145.1 = bt141.1 then (if bt145.2.1 < 0 then (foolscaplaw12_FindWords.j1 k (rdOf ByteArray.empty l0 bt141.1) bt145.2.2.1 true bt141.1 bt141.2 bt145.1 bt145.2.1) else (if (wrap64 (bt145.2.1 + (bt145.2.2.1.size : Int))) > ((rdOf ByteArray.empty l0 bt141.1).size : Int) then (foolscaplaw12_FindWords.j1 k (rdOf ByteArray.empty l0 bt141.1) bt145.2.2.1 true bt141.1 bt141.2 bt145.1 bt145.2.1) else (if bt145.2.2.1.toList = ([] : List UInt8) then (foolscaplaw12_FindWords.j1 k (rdOf ByteArray.empty l0 bt141.1) bt145.2.2.1 true bt141.1 bt141.2 bt145.1 bt145.2.1) else (if 0 ≤ bt145.2.1 then (if bt145.2.1 ≤ (wrap64 (bt145.2.1 + (bt145.2.2.1.size : Int))) then (if (wrap64 (bt145.2.1 + (bt145.2.2.1.size : Int))) ≤ ((rdOf ByteArray.empty l0 bt141.1).size : Int) then (if ((rdOf ByteArray.empty l0 bt141.1).extract (bt145.2.1 : Int).toNat ((wrap64 (bt145.2.1 + (bt145.2.2.1.size : Int))) : Int).toNat).toList = bt145.2.2.1.toList then (foolscaplaw12_FindWords.j1 k (rdOf ByteArray.empty l0 bt141.1) bt145.2.2.1 (decide ((wrap64 (bt145.2.1 + (bt145.2.2.1.size : Int))) ≤ bt141.2)) bt141.1 bt141.2 bt145.1 bt145.2.1) else (foolscaplaw12_FindWords.j1 k (rdOf ByteArray.empty l0 bt141.1) bt145.2.2.1 true bt141.1 bt141.2 bt145.1 bt145.2.1)) else (none)) else (none)) else (none))))) else (foolscaplaw12_FindWords.j1 k (rdOf ByteArray.empty l0 bt141.1) bt145.2.2.1 true bt141.1 bt141.2 bt145.1 bt145.2.1)) else (foolscaplaw12_FindWords.l0 k (rdOf ByteArray.empty l0 bt141.1) bt145.2.2.1 bt141.2 bt145.1 bt145.2.1))) else (none)) else (none))) else (some true))) else (some false))) = some r := h
  clear h
  replace H := Option.bind_eq_some_iff.mp H
  obtain ⟨t139, A40, H⟩ := H
  replace H : (if t139 = true then ((foolscaphelp_Text.f k l0).bind fun t140 => (if t140 = true then ((foolscapseat_Place.f l0 a1 a2).bind fun bt141 => (if 0 ≤ bt141.1 then (if bt141.1 < (l0.length : Int) then ((find_Word.f l0 bt141.1 bt141.2).bind fun bt145 => (if bt145.2.2.2 = true then (if bt145.1 = bt141.1 then (if bt145.2.1 < 0 then (foolscaplaw12_FindWords.j1 k (rdOf ByteArray.empty l0 bt141.1) bt145.2.2.1 true bt141.1 bt141.2 bt145.1 bt145.2.1) else (if (wrap64 (bt145.2.1 + (bt145.2.2.1.size : Int))) > ((rdOf ByteArray.empty l0 bt141.1).size : Int) then (foolscaplaw12_FindWords.j1 k (rdOf ByteArray.empty l0 bt141.1) bt145.2.2.1 true bt141.1 bt141.2 bt145.1 bt145.2.1) else (if bt145.2.2.1.toList = ([] : List UInt8) then (foolscaplaw12_FindWords.j1 k (rdOf ByteArray.empty l0 bt141.1) bt145.2.2.1 true bt141.1 bt141.2 bt145.1 bt145.2.1) else (if 0 ≤ bt145.2.1 then (if bt145.2.1 ≤ (wrap64 (bt145.2.1 + (bt145.2.2.1.size : Int))) then (if (wrap64 (bt145.2.1 + (bt145.2.2.1.size : Int))) ≤ ((rdOf ByteArray.empty l0 bt141.1).size : Int) then (if ((rdOf ByteArray.empty l0 bt141.1).extract (bt145.2.1 : Int).toNat ((wrap64 (bt145.2.1 + (bt145.2.2.1.size : Int))) : Int).toNat).toList = bt145.2.2.1.toList then (foolscaplaw12_FindWords.j1 k (rdOf ByteArray.empty l0 bt141.1) bt145.2.2.1 (decide ((wrap64 (bt145.2.1 + (bt145.2.2.1.size : Int))) ≤ bt141.2)) bt141.1 bt141.2 bt145.1 bt145.2.1) else (foolscaplaw12_FindWords.j1 k (rdOf ByteArray.empty l0 bt141.1) bt145.2.2.1 true bt141.1 bt141.2 bt145.1 bt145.2.1)) else (none)) else (none)) else (none))))) else (foolscaplaw12_FindWords.j1 k (rdOf ByteArray.empty l0 bt141.1) bt145.2.2.1 true bt141.1 bt141.2 bt145.1 bt145.2.1)) else (foolscaplaw12_FindWords.l0 k (rdOf ByteArray.empty l0 bt141.1) bt145.2.2.1 bt141.2 bt145.1 bt145.2.1))) else (none)) else (none))) else (some true))) else (some false)) = some r := H
  have A4 := Aside0.mk A40
  clear A40
  by_cases c5 : t139 = true
  · subst c5
    have H1 : ((foolscaphelp_Text.f k l0).bind fun t140 => (if t140 = true then ((foolscapseat_Place.f l0 a1 a2).bind fun bt141 => (if 0 ≤ bt141.1 then (if bt141.1 < (l0.length : Int) then ((find_Word.f l0 bt141.1 bt141.2).bind fun bt145 => (if bt145.2.2.2 = true then (if bt145.1 = bt141.1 then (if bt145.2.1 < 0 then (foolscaplaw12_FindWords.j1 k (rdOf ByteArray.empty l0 bt141.1) bt145.2.2.1 true bt141.1 bt141.2 bt145.1 bt145.2.1) else (if (wrap64 (bt145.2.1 + (bt145.2.2.1.size : Int))) > ((rdOf ByteArray.empty l0 bt141.1).size : Int) then (foolscaplaw12_FindWords.j1 k (rdOf ByteArray.empty l0 bt141.1) bt145.2.2.1 true bt141.1 bt141.2 bt145.1 bt145.2.1) else (if bt145.2.2.1.toList = ([] : List UInt8) then (foolscaplaw12_FindWords.j1 k (rdOf ByteArray.empty l0 bt141.1) bt145.2.2.1 true bt141.1 bt141.2 bt145.1 bt145.2.1) else (if 0 ≤ bt145.2.1 then (if bt145.2.1 ≤ (wrap64 (bt145.2.1 + (bt145.2.2.1.size : Int))) then (if (wrap64 (bt145.2.1 + (bt145.2.2.1.size : Int))) ≤ ((rdOf ByteArray.empty l0 bt141.1).size : Int) then (if ((rdOf ByteArray.empty l0 bt141.1).extract (bt145.2.1 : Int).toNat ((wrap64 (bt145.2.1 + (bt145.2.2.1.size : Int))) : Int).toNat).toList = bt145.2.2.1.toList then (foolscaplaw12_FindWords.j1 k (rdOf ByteArray.empty l0 bt141.1) bt145.2.2.1 (decide ((wrap64 (bt145.2.1 + (bt145.2.2.1.size : Int))) ≤ bt141.2)) bt141.1 bt141.2 bt145.1 bt145.2.1) else (foolscaplaw12_FindWords.j1 k (rdOf ByteArray.empty l0 bt141.1) bt145.2.2.1 true bt141.1 bt141.2 bt145.1 bt145.2.1)) else (none)) else (none)) else (none))))) else (foolscaplaw12_FindWords.j1 k (rdOf ByteArray.empty l0 bt141.1) bt145.2.2.1 true bt141.1 bt141.2 bt145.1 bt145.2.1)) else (foolscaplaw12_FindWords.l0 k (rdOf ByteArray.empty l0 bt141.1) bt145.2.2.1 bt141.2 bt145.1 bt145.2.1))) else (none)) else (none))) else (some true))) = some r := by rw [if_pos rfl] at H; exact H
    clear H
    have H := H1
    clear H1
    replace H := Option.bind_eq_some_iff.mp H
    obtain ⟨t140, A60, H⟩ := H
    replace H : (if t140 = true then ((foolscapseat_Place.f l0 a1 a2).bind fun bt141 => (if 0 ≤ bt141.1 then (if bt141.1 < (l0.length : Int) then ((find_Word.f l0 bt141.1 bt141.2).bind fun bt145 => (if bt145.2.2.2 = true then (if bt145.1 = bt141.1 then (if bt145.2.1 < 0 then (foolscaplaw12_FindWords.j1 k (rdOf ByteArray.empty l0 bt141.1) bt145.2.2.1 true bt141.1 bt141.2 bt145.1 bt145.2.1) else (if (wrap64 (bt145.2.1 + (bt145.2.2.1.size : Int))) > ((rdOf ByteArray.empty l0 bt141.1).size : Int) then (foolscaplaw12_FindWords.j1 k (rdOf ByteArray.empty l0 bt141.1) bt145.2.2.1 true bt141.1 bt141.2 bt145.1 bt145.2.1) else (if bt145.2.2.1.toList = ([] : List UInt8) then (foolscaplaw12_FindWords.j1 k (rdOf ByteArray.empty l0 bt141.1) bt145.2.2.1 true bt141.1 bt141.2 bt145.1 bt145.2.1) else (if 0 ≤ bt145.2.1 then (if bt145.2.1 ≤ (wrap64 (bt145.2.1 + (bt145.2.2.1.size : Int))) then (if (wrap64 (bt145.2.1 + (bt145.2.2.1.size : Int))) ≤ ((rdOf ByteArray.empty l0 bt141.1).size : Int) then (if ((rdOf ByteArray.empty l0 bt141.1).extract (bt145.2.1 : Int).toNat ((wrap64 (bt145.2.1 + (bt145.2.2.1.size : Int))) : Int).toNat).toList = bt145.2.2.1.toList then (foolscaplaw12_FindWords.j1 k (rdOf ByteArray.empty l0 bt141.1) bt145.2.2.1 (decide ((wrap64 (bt145.2.1 + (bt145.2.2.1.size : Int))) ≤ bt141.2)) bt141.1 bt141.2 bt145.1 bt145.2.1) else (foolscaplaw12_FindWords.j1 k (rdOf ByteArray.empty l0 bt141.1) bt145.2.2.1 true bt141.1 bt141.2 bt145.1 bt145.2.1)) else (none)) else (none)) else (none))))) else (foolscaplaw12_FindWords.j1 k (rdOf ByteArray.empty l0 bt141.1) bt145.2.2.1 true bt141.1 bt141.2 bt145.1 bt145.2.1)) else (foolscaplaw12_FindWords.l0 k (rdOf ByteArray.empty l0 bt141.1) bt145.2.2.1 bt141.2 bt145.1 bt145.2.1))) else (none)) else (none))) else (some true)) = some r := H
    have A6 := Aside0.mk A60
    clear A60
    by_cases c7 : t140 = true
    · subst c7
      have H1 : ((foolscapseat_Place.f l0 a1 a2).bind fun bt141 => (if 0 ≤ bt141.1 then (if bt141.1 < (l0.length : Int) then ((find_Word.f l0 bt141.1 bt141.2).bind fun bt145 => (if bt145.2.2.2 = true then (if bt145.1 = bt141.1 then (if bt145.2.1 < 0 then (foolscaplaw12_FindWords.j1 k (rdOf ByteArray.empty l0 bt141.1) bt145.2.2.1 true bt141.1 bt141.2 bt145.1 bt145.2.1) else (if (wrap64 (bt145.2.1 + (bt145.2.2.1.size : Int))) > ((rdOf ByteArray.empty l0 bt141.1).size : Int) then (foolscaplaw12_FindWords.j1 k (rdOf ByteArray.empty l0 bt141.1) bt145.2.2.1 true bt141.1 bt141.2 bt145.1 bt145.2.1) else (if bt145.2.2.1.toList = ([] : List UInt8) then (foolscaplaw12_FindWords.j1 k (rdOf ByteArray.empty l0 bt141.1) bt145.2.2.1 true bt141.1 bt141.2 bt145.1 bt145.2.1) else (if 0 ≤ bt145.2.1 then (if bt145.2.1 ≤ (wrap64 (bt145.2.1 + (bt145.2.2.1.size : Int))) then (if (wrap64 (bt145.2.1 + (bt145.2.2.1.size : Int))) ≤ ((rdOf ByteArray.empty l0 bt141.1).size : Int) then (if ((rdOf ByteArray.empty l0 bt141.1).extract (bt145.2.1 : Int).toNat ((wrap64 (bt145.2.1 + (bt145.2.2.1.size : Int))) : Int).toNat).toList = bt145.2.2.1.toList then (foolscaplaw12_FindWords.j1 k (rdOf ByteArray.empty l0 bt141.1) bt145.2.2.1 (decide ((wrap64 (bt145.2.1 + (bt145.2.2.1.size : Int))) ≤ bt141.2)) bt141.1 bt141.2 bt145.1 bt145.2.1) else (foolscaplaw12_FindWords.j1 k (rdOf ByteArray.empty l0 bt141.1) bt145.2.2.1 true bt141.1 bt141.2 bt145.1 bt145.2.1)) else (none)) else (none)) else (none))))) else (foolscaplaw12_FindWords.j1 k (rdOf ByteArray.empty l0 bt141.1) bt145.2.2.1 true bt141.1 bt141.2 bt145.1 bt145.2.1)) else (foolscaplaw12_FindWords.l0 k (rdOf ByteArray.empty l0 bt141.1) bt145.2.2.1 bt141.2 bt145.1 bt145.2.1))) else (none)) else (none))) = some r := by rw [if_pos rfl] at H; exact H
      clear H
      have H := H1
      clear H1
      replace H := Option.bind_eq_some_iff.mp H
      obtain ⟨⟨t141, t142⟩, A80, H⟩ := H
      replace H : (if 0 ≤ t141 then (if t141 < (l0.length : Int) then ((find_Word.f l0 t141 t142).bind fun bt145 => (if bt145.2.2.2 = true then (if bt145.1 = t141 then (if bt145.2.1 < 0 then (foolscaplaw12_FindWords.j1 k (rdOf ByteArray.empty l0 t141) bt145.2.2.1 true t141 t142 bt145.1 bt145.2.1) else (if (wrap64 (bt145.2.1 + (bt145.2.2.1.size : Int))) > ((rdOf ByteArray.empty l0 t141).size : Int) then (foolscaplaw12_FindWords.j1 k (rdOf ByteArray.empty l0 t141) bt145.2.2.1 true t141 t142 bt145.1 bt145.2.1) else (if bt145.2.2.1.toList = ([] : List UInt8) then (foolscaplaw12_FindWords.j1 k (rdOf ByteArray.empty l0 t141) bt145.2.2.1 true t141 t142 bt145.1 bt145.2.1) else (if 0 ≤ bt145.2.1 then (if bt145.2.1 ≤ (wrap64 (bt145.2.1 + (bt145.2.2.1.size : Int))) then (if (wrap64 (bt145.2.1 + (bt145.2.2.1.size : Int))) ≤ ((rdOf ByteArray.empty l0 t141).size : Int) then (if ((rdOf ByteArray.empty l0 t141).extract (bt145.2.1 : Int).toNat ((wrap64 (bt145.2.1 + (bt145.2.2.1.size : Int))) : Int).toNat).toList = bt145.2.2.1.toList then (foolscaplaw12_FindWords.j1 k (rdOf ByteArray.empty l0 t141) bt145.2.2.1 (decide ((wrap64 (bt145.2.1 + (bt145.2.2.1.size : Int))) ≤ t142)) t141 t142 bt145.1 bt145.2.1) else (foolscaplaw12_FindWords.j1 k (rdOf ByteArray.empty l0 t141) bt145.2.2.1 true t141 t142 bt145.1 bt145.2.1)) else (none)) else (none)) else (none))))) else (foolscaplaw12_FindWords.j1 k (rdOf ByteArray.empty l0 t141) bt145.2.2.1 true t141 t142 bt145.1 bt145.2.1)) else (foolscaplaw12_FindWords.l0 k (rdOf ByteArray.empty l0 t141) bt145.2.2.1 t142 bt145.1 bt145.2.1))) else (none)) else (none)) = some r := H
      have A8 := Aside0.mk A80
      clear A80
      by_cases c9 : 0 ≤ t141
      · rw [if_pos c9] at H
        have c9b0 : decide (0 ≤ t141) = true := decide_eq_true c9
        clear c9
        by_cases c10 : t141 < (l0.length : Int)
        · rw [if_pos c10] at H
          have c10b0 : decide (t141 < (l0.length : Int)) = true := decide_eq_true c10
          clear c10
          replace H := Option.bind_eq_some_iff.mp H
          obtain ⟨⟨t145, t146, t147, t148⟩, A110, H⟩ := H
          replace H : (if t148 = true then (if t145 = t141 then (if t146 < 0 then (foolscaplaw12_FindWords.j1 k (rdOf ByteArray.empty l0 t141) t147 true t141 t142 t145 t146) else (if (wrap64 (t146 + (t147.size : Int))) > ((rdOf ByteArray.empty l0 t141).size : Int) then (foolscaplaw12_FindWords.j1 k (rdOf ByteArray.empty l0 t141) t147 true t141 t142 t145 t146) else (if t147.toList = ([] : List UInt8) then (foolscaplaw12_FindWords.j1 k (rdOf ByteArray.empty l0 t141) t147 true t141 t142 t145 t146) else (if 0 ≤ t146 then (if t146 ≤ (wrap64 (t146 + (t147.size : Int))) then (if (wrap64 (t146 + (t147.size : Int))) ≤ ((rdOf ByteArray.empty l0 t141).size : Int) then (if ((rdOf ByteArray.empty l0 t141).extract (t146 : Int).toNat ((wrap64 (t146 + (t147.size : Int))) : Int).toNat).toList = t147.toList then (foolscaplaw12_FindWords.j1 k (rdOf ByteArray.empty l0 t141) t147 (decide ((wrap64 (t146 + (t147.size : Int))) ≤ t142)) t141 t142 t145 t146) else (foolscaplaw12_FindWords.j1 k (rdOf ByteArray.empty l0 t141) t147 true t141 t142 t145 t146)) else (none)) else (none)) else (none))))) else (foolscaplaw12_FindWords.j1 k (rdOf ByteArray.empty l0 t141) t147 true t141 t142 t145 t146)) else (foolscaplaw12_FindWords.l0 k (rdOf ByteArray.empty l0 t141) t147 t142 t145 t146)) = some r := H
          have A11 := Aside0.mk A110
          clear A110
          by_cases c12 : t148 = true
          · subst c12
            have H1 : (if t145 = t141 then (if t146 < 0 then (foolscaplaw12_FindWords.j1 k (rdOf ByteArray.empty l0 t141) t147 true t141 t142 t145 t146) else (if (wrap64 (t146 + (t147.size : Int))) > ((rdOf ByteArray.empty l0 t141).size : Int) then (foolscaplaw12_FindWords.j1 k (rdOf ByteArray.empty l0 t141) t147 true t141 t142 t145 t146) else (if t147.toList = ([] : List UInt8) then (foolscaplaw12_FindWords.j1 k (rdOf ByteArray.empty l0 t141) t147 true t141 t142 t145 t146) else (if 0 ≤ t146 then (if t146 ≤ (wrap64 (t146 + (t147.size : Int))) then (if (wrap64 (t146 + (t147.size : Int))) ≤ ((rdOf ByteArray.empty l0 t141).size : Int) then (if ((rdOf ByteArray.empty l0 t141).extract (t146 : Int).toNat ((wrap64 (t146 + (t147.size : Int))) : Int).toNat).toList = t147.toList then (foolscaplaw12_FindWords.j1 k (rdOf ByteArray.empty l0 t141) t147 (decide ((wrap64 (t146 + (t147.size : Int))) ≤ t142)) t141 t142 t145 t146) else (foolscaplaw12_FindWords.j1 k (rdOf ByteArray.empty l0 t141) t147 true t141 t142 t145 t146)) else (none)) else (none)) else (none))))) else (foolscaplaw12_FindWords.j1 k (rdOf ByteArray.empty l0 t141) t147 true t141 t142 t145 t146)) = some r := by rw [if_pos rfl] at H; exact H
            clear H
            have H := H1
            clear H1
            have HC13 := Aside0.mk H
            clear H
            go_enter Try.func4, Try.ntmps4
            go_upto_region 15 with (first | ((with_reducible refine gate_callee (f := 9) rfl ?_); refine goesL_ (some 16) rfl rfl Try.func9 (by kernel_rfl) rfl #[] rfl (by (try simp only [List.map_toArray, List.map_cons, List.map_nil]); first | done | rfl | (simp only [List.length_drop, List.length_take]; rfl)) ?_; (with_reducible refine (foolscaplaw12_known.calls  true _ A4.out).mono ?_); rintro e w14 ⟨rfl, hb⟩; refine ⟨_, rfl, ?_⟩; have n0_ := Aside0.mk (below_step (by repeat (first | (with_reducible first | exact HB.out | apply below_alloc | apply pw_below_drewN | apply below_drew1) | exact HB.out)) hb); clear HB; have HB := n0_; clear n0_; (try clear hb); (try clear hb2); (try clear hk); (try clear hi)) | ((with_reducible refine gate_callee (f := 10) rfl ?_); refine goesL_ (some 19) rfl rfl Try.func10 (by kernel_rfl) rfl #[.slice A0 l0.length c0] rfl (by (try simp only [List.map_toArray, List.map_cons, List.map_nil]); first | done | rfl | (simp only [List.length_drop, List.length_take]; rfl)) ?_; (with_reducible refine (foolscaphelp_Text.calls k _ _ l0 true _ ?side1 ?side2 A6.out).mono ?_); (case side1 => repeat (first | exact (Kd.C_below HR0.out HB.out) | (with_reducible refine Kd.C_alloc ?_ _) | (with_reducible refine Kd.C_drewN ?_ _) | (with_reducible refine Kd.C_drew ?_))); (case side2 => exact HC0.out); rintro e w' ⟨rfl, ⟨nd, rfl⟩⟩; refine ⟨_, rfl, ?_⟩; (try (rw [drewN_self w14]; generalize hq_ : World.drewN w14 _ = w14; have n0_ : Aside0 (Below w.heap.size w w14) := ⟨by rw [← hq_]; exact (by repeat (first | (with_reducible first | exact HB.out | apply below_alloc | apply pw_below_drewN | apply below_drew1) | exact HB.out))⟩; clear HB hq_; have HB := n0_; clear n0_))) | ((with_reducible refine gate_callee (f := 14) rfl ?_); refine goesL_ (some 24) rfl rfl Try.func14 (by kernel_rfl) rfl #[.slice A0 l0.length c0, .int .u16 a1, .int .u16 a2] rfl (by (try simp only [List.map_toArray, List.map_cons, List.map_nil]); first | done | rfl | (simp only [List.length_drop, List.length_take]; rfl)) ?_; (with_reducible refine (foolscapseat_Place.calls _ _ l0 a1 a2 t141 t142 _ ?side1 ?side2 A8.out).mono ?_); (case side1 => repeat (first | exact (Kd.C_below HR0.out HB.out) | (with_reducible refine Kd.C_alloc ?_ _) | (with_reducible refine Kd.C_drewN ?_ _) | (with_reducible refine Kd.C_drew ?_))); (case side2 => exact HC0.out); rintro e w15 ⟨rfl, hb⟩; refine ⟨_, rfl, ?_⟩; have n0_ := Aside0.mk (below_step (by repeat (first | (with_reducible first | exact HB.out | apply below_alloc | apply pw_below_drewN | apply below_drew1) | exact HB.out)) hb); clear HB; have HB := n0_; clear n0_; (try clear hb); (try clear hb2); (try clear hk); (try clear hi)) | ((with_reducible refine gate_dst (N := 7) rfl ?_); (try (refine gate_guard (by rfl) ?_; dsimp only)); refine box_event ?hg (N := 7) ?hd (cs := #[.int .i64 0, .int .i64 0]) (t := 28) ?hr ?_; (case hd => rfl); (case hg => rfl); (case hr => first | (go_simp; done) | (go_simp; rfl)); intro gb143 hg w16 hbox hb; have n0_ := Aside0.mk (below_step (by repeat (first | (with_reducible first | exact HB.out | apply below_alloc | apply pw_below_drewN | apply below_drew1) | exact HB.out)) hb); have n1_ := Aside0.mk (hbox); have n2_ := Aside0.mk ((by rw [hg]; exact (below_size (by repeat (first | (with_reducible first | exact HB.out | apply below_alloc | apply pw_below_drewN | apply below_drew1) | exact HB.out))) : w.heap.size ≤ gb143)); have n3_ := Aside0.mk ((by rw [hg]; exact (below_size (by repeat (first | (with_reducible first | exact HB.out | apply below_alloc | apply pw_below_drewN | apply below_drew1) | exact HB.out))) : w.heap.size ≤ gb143)); clear HB; have HB := n0_; have BK143 := n1_; have GW143 := n2_; have GE143 := n3_; clear n0_ n1_ n2_ n3_; clear hb hbox hg; have hcz17_0 : w16.cell? ⟨gb143, 0, none⟩ = some (.int .i64 0) := (blk_cell BK143.out 0).trans rfl; have hcz17_1 : w16.cell? ⟨gb143, 1, none⟩ = some (.int .i64 0) := (blk_cell BK143.out 1).trans rfl; have hfz17_0 := blk_frozen BK143.out 0; have hfz17_1 := blk_frozen BK143.out 1; have p144 : 0 ≤ (t141 : Int) := of_decide_eq_true (by first | (with_reducible assumption) | assumption); have q144 : t141 < (l0.length : Int) := of_decide_eq_true (by first | (with_reducible assumption) | assumption); obtain ⟨ad144, e144, hx144_0⟩ := Kd.at_string HR0.out t141 p144 q144; cases e144; have hn144_0 : ad144.block ≠ gb143 := Nat.ne_of_lt (Nat.lt_of_lt_of_le (by have := World.block_lt_of_cell? _ _ hx144_0; first | rwa [add_block] at this | exact this) GW143.out); have hn144_1 : ad144.block ≠ gb143 := Nat.ne_of_lt (Nat.lt_of_lt_of_le (by have := World.block_lt_of_cell? _ _ hx144_0; first | rwa [add_block] at this | exact this) GW143.out); replace hx144_0 := (HB.out.cell (World.block_lt_of_cell? w _ hx144_0)).trans hx144_0; replace hx144_0 := (cell_far (p := ⟨gb143, 0, none⟩) (by first | (rw [add_block]; exact hn144_0) | (show (Addr.add _ _).block ≠ _; rw [add_block]; exact hn144_0) | exact hn144_0) (.int .i64 t141)).trans hx144_0; replace hx144_0 := (cell_far (p := ⟨gb143, 1, none⟩) (by first | (rw [add_block]; exact hn144_1) | (show (Addr.add _ _).block ≠ _; rw [add_block]; exact hn144_1) | exact hn144_1) (.int .i64 t142)).trans hx144_0; clear hn144_0; clear hn144_1; replace p144 := eq_true p144; replace q144 := eq_true q144) | ((with_reducible refine gate_callee (f := 15) rfl ?_); refine goesL_ (some 33) rfl rfl Try.func15 (by kernel_rfl) rfl #[.slice (some ad144) l0.length c0, .agg #[.int .i64 t141, .int .i64 t142]] rfl (by (try simp only [List.map_toArray, List.map_cons, List.map_nil]); first | done | rfl | (simp only [List.length_drop, List.length_take]; rfl)) ?_; (with_reducible refine (find_Word.calls _ _ l0 t141 t142 t145 t146 t147 true _ ?side1 ?side2 A11.out).mono ?_); (case side1 => exact Kd.C_below HR0.out (by repeat (first | (with_reducible first | exact HB.out | apply below_alloc | apply pw_below_drewN | apply below_drew1 | refine below_set ?_ GE143.out) | exact HB.out))); (case side2 => exact HC0.out); rintro e w18 ⟨rfl, hb⟩; refine ⟨_, rfl, ?_⟩; have n0_ := Aside0.mk (blk_below (g := gb143) (o := .cells #[.int .i64 t141, .int .i64 t142] 28 (0, 0)) (by (with_reducible repeat (first | refine blk_drewN ?_ _ | refine blk_drew ?_ | refine blk_alloc ?_ _)); refine blk_put (cs := #[.int .i64 t141, .int .i64 0]) ?_ 1 _ rfl; (with_reducible repeat (first | refine blk_drewN ?_ _ | refine blk_drew ?_ | refine blk_alloc ?_ _)); refine blk_put (cs := #[.int .i64 0, .int .i64 0]) ?_ 0 _ rfl; (with_reducible repeat (first | refine blk_drewN ?_ _ | refine blk_drew ?_ | refine blk_alloc ?_ _)); exact BK143.out) hb); have n1_ := Aside0.mk (below_step (by repeat (first | (with_reducible first | exact HB.out | apply below_alloc | apply pw_below_drewN | apply below_drew1 | refine below_set ?_ GE143.out) | exact HB.out)) hb); clear BK143; clear HB; have BK143 := n0_; have HB := n1_; clear n0_ n1_; (try clear hb); (try clear hb2); (try clear hk); (try clear hi)) | ((with_reducible refine gate_dst (N := 9) rfl ?_); (try (refine gate_guard (by rfl) ?_; dsimp only)); refine box_event ?hg (N := 9) ?hd (cs := #[.int .i64 0, .int .i64 0]) (t := 28) ?hr ?_; (case hd => rfl); (case hg => rfl); (case hr => first | (go_simp; done) | (go_simp; rfl)); intro gb149 hg w19 hbox hb; have n0_ := Aside0.mk (blk_below (g := gb143) (o := .cells #[.int .i64 t141, .int .i64 t142] 28 (0, 0)) (by (with_reducible repeat (first | refine blk_drewN ?_ _ | refine blk_drew ?_ | refine blk_alloc ?_ _)); exact BK143.out) hb); have n1_ := Aside0.mk (below_step (by repeat (first | (with_reducible first | exact HB.out | apply below_alloc | apply pw_below_drewN | apply below_drew1 | refine below_set ?_ GE143.out) | exact HB.out)) hb); have n2_ := Aside0.mk (hbox); have n3_ := Aside0.mk ((by rw [hg]; exact (below_size (by repeat (first | (with_reducible first | exact HB.out | apply below_alloc | apply pw_below_drewN | apply below_drew1 | refine below_set ?_ GE143.out) | exact HB.out))) : w.heap.size ≤ gb149)); have n4_ := Aside0.mk ((by rw [hg]; exact (below_size (by repeat (first | (with_reducible first | exact HB.out | apply below_alloc | apply pw_below_drewN | apply below_drew1 | refine below_set ?_ GE143.out) | exact HB.out))) : w.heap.size ≤ gb149)); have n5_ := Aside0.mk ((by rw [hg]; exact Nat.ne_of_lt (blk_lt (g := gb143) (o := .cells #[.int .i64 t141, .int .i64 t142] 28 (0, 0)) (by (with_reducible repeat (first | refine blk_drewN ?_ _ | refine blk_drew ?_ | refine blk_alloc ?_ _)); exact BK143.out)) : gb143 ≠ gb149)); have n6_ := Aside0.mk ((by rw [hg]; exact Nat.ne_of_gt (blk_lt (g := gb143) (o := .cells #[.int .i64 t141, .int .i64 t142] 28 (0, 0)) (by (with_reducible repeat (first | refine blk_drewN ?_ _ | refine blk_drew ?_ | refine blk_alloc ?_ _)); exact BK143.out)) : gb149 ≠ gb143)); clear BK143; clear HB; have BK143 := n0_; have HB := n1_; have BK149 := n2_; have GW149 := n3_; have GE149 := n4_; have NB143_149 := n5_; have NB149_143 := n6_; clear n0_ n1_ n2_ n3_ n4_ n5_ n6_; clear hb hbox hg; have hnb20 := NB149_143.out; have hnc20 := NB143_149.out; have hcz21_0 : w19.cell? ⟨gb149, 0, none⟩ = some (.int .i64 0) := (blk_cell BK149.out 0).trans rfl; have hcz21_1 : w19.cell? ⟨gb149, 1, none⟩ = some (.int .i64 0) := (blk_cell BK149.out 1).trans rfl; have hfz21_0 := blk_frozen BK149.out 0; have hfz21_1 := blk_frozen BK149.out 1))
            (try simp only [Act.put, List.setIfInBounds_toArray, List.set_cons_zero, List.set_cons_succ])
            go_cut [105] (fun v105 wc => ∃ (kq : Nat) (x105_12 : Bool), v105 = .bool x105_12 ∧ Aside0 (foolscaplaw12_FindWords.j1 kq (rdOf ByteArray.empty l0 t141) t147 x105_12 t141 t142 t145 t146 = some r) ∧ Aside0 (kq ≤ k) ∧ Aside0 (wc.heap[gb143]? = some (.cells #[.int .i64 t141, .int .i64 t142] 28 (0, 0))) ∧ Aside0 (wc.heap[gb149]? = some (.cells #[.int .i64 t145, .int .i64 t146] 28 (0, 0))) ∧ Aside0 (Below w.heap.size w wc))
            case first =>
              have H := HC13.out
              clear HC13
              by_cases c22 : t145 = t141
              · rw [if_pos c22] at H
                have c22b0 : (t145 == t141) = true := beq_iff_eq.mpr c22
                have c22b1 : (t145 != t141) = false := bne_eq_false_iff_eq.mpr c22
                clear c22
                (first | rw [c22b0] | (simp only [i64_w, i32_w]; rw [c22b0]) | skip)
                by_cases c23 : t146 < 0
                · rw [if_pos c23] at H
                  have c23b0 : decide (t146 < 0) = true := decide_eq_true c23
                  clear c23
                  have H' := Aside0.mk H
                  clear H
                  have hnb24 := NB149_143.out
                  have hnc24 := NB143_149.out
                  have hcz25_0 : w19.cell? ⟨gb149, 0, none⟩ = some (.int .i64 0) := (blk_cell BK149.out 0).trans rfl
                  have hcz25_1 : w19.cell? ⟨gb149, 1, none⟩ = some (.int .i64 0) := (blk_cell BK149.out 1).trans rfl
                  have hfz25_0 := blk_frozen BK149.out 0
                  have hfz25_1 := blk_frozen BK149.out 1
                  have hcz26_0 : w19.cell? ⟨gb143, 0, none⟩ = some (.int .i64 t141) := (blk_cell BK143.out 0).trans rfl
                  have hcz26_1 : w19.cell? ⟨gb143, 1, none⟩ = some (.int .i64 t142) := (blk_cell BK143.out 1).trans rfl
                  have hfz26_0 := blk_frozen BK143.out 0
                  have hfz26_1 := blk_frozen BK143.out 1
                  go_wp2
                  go_meet
                  case rel => exact ⟨_, (true), (by first | rfl | (simp; done) | (simp [*]; done)), H', ⟨by first | omega | exact Nat.le_refl _⟩, ⟨by (with_reducible repeat (first | refine blk_drewN ?_ _ | refine blk_drew ?_ | refine blk_alloc ?_ _)); refine blk_far ?_ NB143_149.out _; (with_reducible repeat (first | refine blk_drewN ?_ _ | refine blk_drew ?_ | refine blk_alloc ?_ _)); refine blk_far ?_ NB143_149.out _; (with_reducible repeat (first | refine blk_drewN ?_ _ | refine blk_drew ?_ | refine blk_alloc ?_ _)); exact BK143.out⟩, ⟨by (with_reducible repeat (first | refine blk_drewN ?_ _ | refine blk_drew ?_ | refine blk_alloc ?_ _)); refine blk_put (cs := #[.int .i64 t145, .int .i64 0]) ?_ 1 _ rfl; (with_reducible repeat (first | refine blk_drewN ?_ _ | refine blk_drew ?_ | refine blk_alloc ?_ _)); refine blk_put (cs := #[.int .i64 0, .int .i64 0]) ?_ 0 _ rfl; (with_reducible repeat (first | refine blk_drewN ?_ _ | refine blk_drew ?_ | refine blk_alloc ?_ _)); exact BK149.out⟩, ⟨by repeat (first | (with_reducible first | exact HB.out | apply below_alloc | apply pw_below_drewN | apply below_drew1 | refine below_set ?_ GE143.out | refine below_set ?_ GE149.out) | exact HB.out)⟩⟩
                · rw [if_neg c23] at H
                  have c23b0 : decide (t146 < 0) = false := decide_eq_false c23
                  clear c23
                  by_cases c27 : (wrap64 (t146 + (t147.size : Int))) > ((rdOf ByteArray.empty l0 t141).size : Int)
                  · rw [if_pos c27] at H
                    have c27b0 : decide (((rdOf ByteArray.empty l0 t141).size : Int) < (wrap64 (t146 + (t147.size : Int)))) = true := decide_eq_true c27
                    clear c27
                    have H' := Aside0.mk H
                    clear H
                    have hnb28 := NB149_143.out
                    have hnc28 := NB143_149.out
                    have hcz29_0 : w19.cell? ⟨gb149, 0, none⟩ = some (.int .i64 0) := (blk_cell BK149.out 0).trans rfl
                    have hcz29_1 : w19.cell? ⟨gb149, 1, none⟩ = some (.int .i64 0) := (blk_cell BK149.out 1).trans rfl
                    have hfz29_0 := blk_frozen BK149.out 0
                    have hfz29_1 := blk_frozen BK149.out 1
                    have hcz30_0 : w19.cell? ⟨gb143, 0, none⟩ = some (.int .i64 t141) := (blk_cell BK143.out 0).trans rfl
                    have hcz30_1 : w19.cell? ⟨gb143, 1, none⟩ = some (.int .i64 t142) := (blk_cell BK143.out 1).trans rfl
                    have hfz30_0 := blk_frozen BK143.out 0
                    have hfz30_1 := blk_frozen BK143.out 1
                    go_wp2
                    go_meet
                    case rel => exact ⟨_, (true), (by first | rfl | (simp; done) | (simp [*]; done)), H', ⟨by first | omega | exact Nat.le_refl _⟩, ⟨by (with_reducible repeat (first | refine blk_drewN ?_ _ | refine blk_drew ?_ | refine blk_alloc ?_ _)); refine blk_far ?_ NB143_149.out _; (with_reducible repeat (first | refine blk_drewN ?_ _ | refine blk_drew ?_ | refine blk_alloc ?_ _)); refine blk_far ?_ NB143_149.out _; (with_reducible repeat (first | refine blk_drewN ?_ _ | refine blk_drew ?_ | refine blk_alloc ?_ _)); exact BK143.out⟩, ⟨by (with_reducible repeat (first | refine blk_drewN ?_ _ | refine blk_drew ?_ | refine blk_alloc ?_ _)); refine blk_put (cs := #[.int .i64 t145, .int .i64 0]) ?_ 1 _ rfl; (with_reducible repeat (first | refine blk_drewN ?_ _ | refine blk_drew ?_ | refine blk_alloc ?_ _)); refine blk_put (cs := #[.int .i64 0, .int .i64 0]) ?_ 0 _ rfl; (with_reducible repeat (first | refine blk_drewN ?_ _ | refine blk_drew ?_ | refine blk_alloc ?_ _)); exact BK149.out⟩, ⟨by repeat (first | (with_reducible first | exact HB.out | apply below_alloc | apply pw_below_drewN | apply below_drew1 | refine below_set ?_ GE143.out | refine below_set ?_ GE149.out) | exact HB.out)⟩⟩
                  · rw [if_neg c27] at H
                    have c27b0 : decide (((rdOf ByteArray.empty l0 t141).size : Int) < (wrap64 (t146 + (t147.size : Int)))) = false := decide_eq_false c27
                    clear c27
                    by_cases c31 : t147.toList = ([] : List UInt8)
                    · rw [if_pos c31] at H
                      have c31b0 : (t147.toList == ([] : List UInt8)) = true := beq_iff_eq.mpr c31
                      have c31b1 : (t147.toList != ([] : List UInt8)) = false := bne_eq_false_iff_eq.mpr c31
                      clear c31
                      have H' := Aside0.mk H
                      clear H
                      have hnb32 := NB149_143.out
                      have hnc32 := NB143_149.out
                      have hcz33_0 : w19.cell? ⟨gb149, 0, none⟩ = some (.int .i64 0) := (blk_cell BK149.out 0).trans rfl
                      have hcz33_1 : w19.cell? ⟨gb149, 1, none⟩ = some (.int .i64 0) := (blk_cell BK149.out 1).trans rfl
                      have hfz33_0 := blk_frozen BK149.out 0
                      have hfz33_1 := blk_frozen BK149.out 1
                      have hcz34_0 : w19.cell? ⟨gb143, 0, none⟩ = some (.int .i64 t141) := (blk_cell BK143.out 0).trans rfl
                      have hcz34_1 : w19.cell? ⟨gb143, 1, none⟩ = some (.int .i64 t142) := (blk_cell BK143.out 1).trans rfl
                      have hfz34_0 := blk_frozen BK143.out 0
                      have hfz34_1 := blk_frozen BK143.out 1
                      go_wp2
                      go_meet
                      case rel => exact ⟨_, (true), (by first | rfl | (simp; done) | (simp [*]; done)), H', ⟨by first | omega | exact Nat.le_refl _⟩, ⟨by (with_reducible repeat (first | refine blk_drewN ?_ _ | refine blk_drew ?_ | refine blk_alloc ?_ _)); refine blk_far ?_ NB143_149.out _; (with_reducible repeat (first | refine blk_drewN ?_ _ | refine blk_drew ?_ | refine blk_alloc ?_ _)); refine blk_far ?_ NB143_149.out _; (with_reducible repeat (first | refine blk_drewN ?_ _ | refine blk_drew ?_ | refine blk_alloc ?_ _)); exact BK143.out⟩, ⟨by (with_reducible repeat (first | refine blk_drewN ?_ _ | refine blk_drew ?_ | refine blk_alloc ?_ _)); refine blk_put (cs := #[.int .i64 t145, .int .i64 0]) ?_ 1 _ rfl; (with_reducible repeat (first | refine blk_drewN ?_ _ | refine blk_drew ?_ | refine blk_alloc ?_ _)); refine blk_put (cs := #[.int .i64 0, .int .i64 0]) ?_ 0 _ rfl; (with_reducible repeat (first | refine blk_drewN ?_ _ | refine blk_drew ?_ | refine blk_alloc ?_ _)); exact BK149.out⟩, ⟨by repeat (first | (with_reducible first | exact HB.out | apply below_alloc | apply pw_below_drewN | apply below_drew1 | refine below_set ?_ GE143.out | refine below_set ?_ GE149.out) | exact HB.out)⟩⟩
                    · rw [if_neg c31] at H
                      have c31b0 : (t147.toList == ([] : List UInt8)) = false := beq_eq_false_iff_ne.mpr c31
                      have c31b1 : (t147.toList != ([] : List UInt8)) = true := bne_iff_ne.mpr c31
                      by_cases c35 : 0 ≤ t146
                      · rw [if_pos c35] at H
                        have c35b0 := eq_true c35
                        have c35b1 : decide (0 ≤ t146) = true := decide_eq_true c35
                        clear c35
                        by_cases c36 : t146 ≤ (wrap64 (t146 + (t147.size : Int)))
                        · rw [if_pos c36] at H
                          have c36b0 := eq_true c36
                          have c36b1 : decide (t146 ≤ (wrap64 (t146 + (t147.size : Int)))) = true := decide_eq_true c36
                          by_cases c37 : (wrap64 (t146 + (t147.size : Int))) ≤ ((rdOf ByteArray.empty l0 t141).size : Int)
                          · rw [if_pos c37] at H
                            have c37b0 := eq_true c37
                            have c37b1 : decide ((wrap64 (t146 + (t147.size : Int))) ≤ ((rdOf ByteArray.empty l0 t141).size : Int)) = true := decide_eq_true c37
                            by_cases c38 : ((rdOf ByteArray.empty l0 t141).extract (t146 : Int).toNat ((wrap64 (t146 + (t147.size : Int))) : Int).toNat).toList = t147.toList
                            · rw [if_pos c38] at H
                              have c38b0 : (((rdOf ByteArray.empty l0 t141).extract (t146 : Int).toNat ((wrap64 (t146 + (t147.size : Int))) : Int).toNat).toList == t147.toList) = true := beq_iff_eq.mpr c38
                              have c38b1 : (((rdOf ByteArray.empty l0 t141).extract (t146 : Int).toNat ((wrap64 (t146 + (t147.size : Int))) : Int).toNat).toList != t147.toList) = false := bne_eq_false_iff_eq.mpr c38
                              clear c38
                              have H' := Aside0.mk H
                              clear H
                              have hnb39 := NB149_143.out
                              have hnc39 := NB143_149.out
                              have hcz40_0 : w19.cell? ⟨gb149, 0, none⟩ = some (.int .i64 0) := (blk_cell BK149.out 0).trans rfl
                              have hcz40_1 : w19.cell? ⟨gb149, 1, none⟩ = some (.int .i64 0) := (blk_cell BK149.out 1).trans rfl
                              have hfz40_0 := blk_frozen BK149.out 0
                              have hfz40_1 := blk_frozen BK149.out 1
                              have hcz41_0 : w19.cell? ⟨gb143, 0, none⟩ = some (.int .i64 t141) := (blk_cell BK143.out 0).trans rfl
                              have hcz41_1 : w19.cell? ⟨gb143, 1, none⟩ = some (.int .i64 t142) := (blk_cell BK143.out 1).trans rfl
                              have hfz41_0 := blk_frozen BK143.out 0
                              have hfz41_1 := blk_frozen BK143.out 1
                              go_wp2
                              go_meet
                              case rel => exact ⟨_, (decide ((wrap64 (t146 + (t147.size : Int))) ≤ t142)), (by first | rfl | (simp; done) | (simp [*]; done)), H', ⟨by first | omega | exact Nat.le_refl _⟩, ⟨by (with_reducible repeat (first | refine blk_drewN ?_ _ | refine blk_drew ?_ | refine blk_alloc ?_ _)); refine blk_far ?_ NB143_149.out _; (with_reducible repeat (first | refine blk_drewN ?_ _ | refine blk_drew ?_ | refine blk_alloc ?_ _)); refine blk_far ?_ NB143_149.out _; (with_reducible repeat (first | refine blk_drewN ?_ _ | refine blk_drew ?_ | refine blk_alloc ?_ _)); exact BK143.out⟩, ⟨by (with_reducible repeat (first | refine blk_drewN ?_ _ | refine blk_drew ?_ | refine blk_alloc ?_ _)); refine blk_put (cs := #[.int .i64 t145, .int .i64 0]) ?_ 1 _ rfl; (with_reducible repeat (first | refine blk_drewN ?_ _ | refine blk_drew ?_ | refine blk_alloc ?_ _)); refine blk_put (cs := #[.int .i64 0, .int .i64 0]) ?_ 0 _ rfl; (with_reducible repeat (first | refine blk_drewN ?_ _ | refine blk_drew ?_ | refine blk_alloc ?_ _)); exact BK149.out⟩, ⟨by repeat (first | (with_reducible first | exact HB.out | apply below_alloc | apply pw_below_drewN | apply below_drew1 | refine below_set ?_ GE143.out | refine below_set ?_ GE149.out) | exact HB.out)⟩⟩
                            · rw [if_neg c38] at H
                              have c38b0 : (((rdOf ByteArray.empty l0 t141).extract (t146 : Int).toNat ((wrap64 (t146 + (t147.size : Int))) : Int).toNat).toList == t147.toList) = false := beq_eq_false_iff_ne.mpr c38
                              have c38b1 : (((rdOf ByteArray.empty l0 t141).extract (t146 : Int).toNat ((wrap64 (t146 + (t147.size : Int))) : Int).toNat).toList != t147.toList) = true := bne_iff_ne.mpr c38
                              have H' := Aside0.mk H
                              clear H
                              have hnb42 := NB149_143.out
                              have hnc42 := NB143_149.out
                              have hcz43_0 : w19.cell? ⟨gb149, 0, none⟩ = some (.int .i64 0) := (blk_cell BK149.out 0).trans rfl
                              have hcz43_1 : w19.cell? ⟨gb149, 1, none⟩ = some (.int .i64 0) := (blk_cell BK149.out 1).trans rfl
                              have hfz43_0 := blk_frozen BK149.out 0
                              have hfz43_1 := blk_frozen BK149.out 1
                              have hcz44_0 : w19.cell? ⟨gb143, 0, none⟩ = some (.int .i64 t141) := (blk_cell BK143.out 0).trans rfl
                              have hcz44_1 : w19.cell? ⟨gb143, 1, none⟩ = some (.int .i64 t142) := (blk_cell BK143.out 1).trans rfl
                              have hfz44_0 := blk_frozen BK143.out 0
                              have hfz44_1 := blk_frozen BK143.out 1
                              go_wp2
                              go_meet
                              case rel => exact ⟨_, (true), (by first | rfl | (simp; done) | (simp [*]; done)), H', ⟨by first | omega | exact Nat.le_refl _⟩, ⟨by (with_reducible repeat (first | refine blk_drewN ?_ _ | refine blk_drew ?_ | refine blk_alloc ?_ _)); refine blk_far ?_ NB143_149.out _; (with_reducible repeat (first | refine blk_drewN ?_ _ | refine blk_drew ?_ | refine blk_alloc ?_ _)); refine blk_far ?_ NB143_149.out _; (with_reducible repeat (first | refine blk_drewN ?_ _ | refine blk_drew ?_ | refine blk_alloc ?_ _)); exact BK143.out⟩, ⟨by (with_reducible repeat (first | refine blk_drewN ?_ _ | refine blk_drew ?_ | refine blk_alloc ?_ _)); refine blk_put (cs := #[.int .i64 t145, .int .i64 0]) ?_ 1 _ rfl; (with_reducible repeat (first | refine blk_drewN ?_ _ | refine blk_drew ?_ | refine blk_alloc ?_ _)); refine blk_put (cs := #[.int .i64 0, .int .i64 0]) ?_ 0 _ rfl; (with_reducible repeat (first | refine blk_drewN ?_ _ | refine blk_drew ?_ | refine blk_alloc ?_ _)); exact BK149.out⟩, ⟨by repeat (first | (with_reducible first | exact HB.out | apply below_alloc | apply pw_below_drewN | apply below_drew1 | refine below_set ?_ GE143.out | refine below_set ?_ GE149.out) | exact HB.out)⟩⟩
                          · rw [if_neg c37] at H
                            exact absurd H (by simp)
                        · rw [if_neg c36] at H
                          exact absurd H (by simp)
                      · rw [if_neg c35] at H
                        exact absurd H (by simp)
              · rw [if_neg c22] at H
                have c22b0 : (t145 == t141) = false := beq_eq_false_iff_ne.mpr c22
                have c22b1 : (t145 != t141) = true := bne_iff_ne.mpr c22
                (first | rw [c22b0] | (simp only [i64_w, i32_w]; rw [c22b0]) | skip)
                have H' := Aside0.mk H
                clear H
                have hnb45 := NB149_143.out
                have hnc45 := NB143_149.out
                have hcz46_0 : w19.cell? ⟨gb149, 0, none⟩ = some (.int .i64 0) := (blk_cell BK149.out 0).trans rfl
                have hcz46_1 : w19.cell? ⟨gb149, 1, none⟩ = some (.int .i64 0) := (blk_cell BK149.out 1).trans rfl
                have hfz46_0 := blk_frozen BK149.out 0
                have hfz46_1 := blk_frozen BK149.out 1
                have hcz47_0 : w19.cell? ⟨gb143, 0, none⟩ = some (.int .i64 t141) := (blk_cell BK143.out 0).trans rfl
                have hcz47_1 : w19.cell? ⟨gb143, 1, none⟩ = some (.int .i64 t142) := (blk_cell BK143.out 1).trans rfl
                have hfz47_0 := blk_frozen BK143.out 0
                have hfz47_1 := blk_frozen BK143.out 1
                go_wp2
                go_meet
                case rel => exact ⟨_, (true), (by first | rfl | (simp; done) | (simp [*]; done)), H', ⟨by first | omega | exact Nat.le_refl _⟩, ⟨by (with_reducible repeat (first | refine blk_drewN ?_ _ | refine blk_drew ?_ | refine blk_alloc ?_ _)); refine blk_far ?_ NB143_149.out _; (with_reducible repeat (first | refine blk_drewN ?_ _ | refine blk_drew ?_ | refine blk_alloc ?_ _)); refine blk_far ?_ NB143_149.out _; (with_reducible repeat (first | refine blk_drewN ?_ _ | refine blk_drew ?_ | refine blk_alloc ?_ _)); exact BK143.out⟩, ⟨by (with_reducible repeat (first | refine blk_drewN ?_ _ | refine blk_drew ?_ | refine blk_alloc ?_ _)); refine blk_put (cs := #[.int .i64 t145, .int .i64 0]) ?_ 1 _ rfl; (with_reducible repeat (first | refine blk_drewN ?_ _ | refine blk_drew ?_ | refine blk_alloc ?_ _)); refine blk_put (cs := #[.int .i64 0, .int .i64 0]) ?_ 0 _ rfl; (with_reducible repeat (first | refine blk_drewN ?_ _ | refine blk_drew ?_ | refine blk_alloc ?_ _)); exact BK149.out⟩, ⟨by repeat (first | (with_reducible first | exact HB.out | apply below_alloc | apply pw_below_drewN | apply below_drew1 | refine below_set ?_ GE143.out | refine below_set ?_ GE149.out) | exact HB.out)⟩⟩
            case rest =>
              clear HC13
              try clear c1
              try clear p1
              try clear q1
              try clear hx1
              try clear c2
              try clear p2
              try clear c3
              try clear c4
              try clear c5
              try clear p6
              try clear c7
              try clear c9
              try clear c9b0
              try clear c10
              try clear c10b0
              try clear c12
              try clear c14
              try clear p14
              try clear q14
              try clear hx14
              try clear c15
              try clear c20
              try clear c22
              try clear c22b0
              try clear c22b1
              try clear c23
              try clear c23b0
              try clear c24
              try clear c27
              try clear c27b0
              try clear c28
              try clear c31
              try clear c31b0
              try clear c31b1
              try clear c32
              try clear c35
              try clear c35b0
              try clear c35b1
              try clear c36
              try clear c36b0
              try clear c36b1
              try clear c37
              try clear c37b0
              try clear c37b1
              try clear c38
              try clear c38b0
              try clear c38b1
              try clear c39
              try clear c42
              try clear c45
              try clear hcz17_0
              try clear hcz17_1
              try clear hcz21_0
              try clear hcz21_1
              try clear hcz25_0
              try clear hcz25_1
              try clear hcz26_0
              try clear hcz26_1
              try clear hcz29_0
              try clear hcz29_1
              try clear hcz30_0
              try clear hcz30_1
              try clear hcz33_0
              try clear hcz33_1
              try clear hcz34_0
              try clear hcz34_1
              try clear hcz40_0
              try clear hcz40_1
              try clear hcz41_0
              try clear hcz41_1
              try clear hcz43_0
              try clear hcz43_1
              try clear hcz44_0
              try clear hcz44_1
              try clear hcz46_0
              try clear hcz46_1
              try clear hcz47_0
              try clear hcz47_1
              try clear hfz17_0
              try clear hfz17_1
              try clear hfz21_0
              try clear hfz21_1
              try clear hfz25_0
              try clear hfz25_1
              try clear hfz26_0
              try clear hfz26_1
              try clear hfz29_0
              try clear hfz29_1
              try clear hfz30_0
              try clear hfz30_1
              try clear hfz33_0
              try clear hfz33_1
              try clear hfz34_0
              try clear hfz34_1
              try clear hfz40_0
              try clear hfz40_1
              try clear hfz41_0
              try clear hfz41_1
              try clear hfz43_0
              try clear hfz43_1
              try clear hfz44_0
              try clear hfz44_1
              try clear hfz46_0
              try clear hfz46_1
              try clear hfz47_0
              try clear hfz47_1
              try clear hx144_0
              try clear p144
              try clear q144
              obtain ⟨kq, x105_12, rfl, HA, HJ12, BK143, BK149, HB⟩ := hcut
              cases kq with
              | zero => exact absurd HA.out (by simp [foolscaplaw12_FindWords.j1])
              | succ kj12 =>
                have H := HA.out
                clear HA
                simp only [foolscaplaw12_FindWords.j1] at H
                by_cases c48 : x105_12 = true
                · subst c48
                  have H1 : (some false) = some r := by rw [if_pos rfl] at H; exact H
                  clear H
                  have H := H1
                  clear H1
                  obtain rfl := Option.some.inj H
                  go_wp2
                  go_ret
                  exact ⟨by first | rfl | (simp [errW_none, errW_some] <;> rfl) | (simp [*, errW_none, errW_some] <;> rfl), by repeat (first | (with_reducible first | exact HB.out | apply below_alloc | apply pw_below_drewN | apply below_drew1 | refine below_set ?_ GE143.out | refine below_set ?_ GE149.out) | exact HB.out)⟩
                · replace c48 := Bool.eq_false_iff.mpr c48
                  subst c48
                  have H1 : (foolscaplaw12_FindWords.l1 kj12 (rdOf ByteArray.empty l0 t141) t147 0 t141 t142 t145 t146) = some r := by rw [if_neg (show ¬ (false = true) by decide)] at H; exact H
                  clear H
                  have H := H1
                  clear H1
                  have H' := Aside0.mk H
                  clear H
                  go_wp2
                  go_loopg [13] kj12 (fun kq v13 w' => ∃ (x13_2 : Int), v13 = .int .i64 x13_2 ∧ Aside0 (foolscaplaw12_FindWords.l1 kq (rdOf ByteArray.empty l0 t141) t147 x13_2 t141 t142 t145 t146 = some r) ∧ Aside0 (kq ≤ kj12) ∧ Aside0 (w'.heap[gb143]? = some (.cells #[.int .i64 t141, .int .i64 t142] 28 (0, 0))) ∧ Aside0 (w'.heap[gb149]? = some (.cells #[.int .i64 t145, .int .i64 t146] 28 (0, 0))) ∧ Aside0 (Below w.heap.size w w'))
                  case atStart => exact ⟨(0), (by first | rfl | (simp; done) | (simp [*]; done)), H', ⟨Nat.le_refl _⟩, ⟨by (with_reducible repeat (first | refine blk_drewN ?_ _ | refine blk_drew ?_ | refine blk_alloc ?_ _)); exact BK143.out⟩, ⟨by (with_reducible repeat (first | refine blk_drewN ?_ _ | refine blk_drew ?_ | refine blk_alloc ?_ _)); exact BK149.out⟩, ⟨by repeat (first | (with_reducible first | exact HB.out | apply below_alloc | apply pw_below_drewN | apply below_drew1 | refine below_set ?_ GE143.out | refine below_set ?_ GE149.out) | exact HB.out)⟩⟩
                  case round =>
                    clear H'
                    try clear c1
                    try clear p1
                    try clear q1
                    try clear hx1
                    try clear c2
                    try clear p2
                    try clear c3
                    try clear c4
                    try clear c5
                    try clear p6
                    try clear c7
                    try clear c9
                    try clear c9b0
                    try clear c10
                    try clear c10b0
                    try clear c12
                    try clear c14
                    try clear p14
                    try clear q14
                    try clear hx14
                    try clear c15
                    try clear c20
                    try clear c22
                    try clear c22b0
                    try clear c22b1
                    try clear c23
                    try clear c23b0
                    try clear c24
                    try clear c27
                    try clear c27b0
                    try clear c28
                    try clear c31
                    try clear c31b0
                    try clear c31b1
                    try clear c32
                    try clear c35
                    try clear c35b0
                    try clear c35b1
                    try clear c36
                    try clear c36b0
                    try clear c36b1
                    try clear c37
                    try clear c37b0
                    try clear c37b1
                    try clear c38
                    try clear c38b0
                    try clear c38b1
                    try clear c39
                    try clear c42
                    try clear c45
                    try clear c48
                    try clear hcz17_0
                    try clear hcz17_1
                    try clear hcz21_0
                    try clear hcz21_1
                    try clear hcz25_0
                    try clear hcz25_1
                    try clear hcz26_0
                    try clear hcz26_1
                    try clear hcz29_0
                    try clear hcz29_1
                    try clear hcz30_0
                    try clear hcz30_1
                    try clear hcz33_0
                    try clear hcz33_1
                    try clear hcz34_0
                    try clear hcz34_1
                    try clear hcz40_0
                    try clear hcz40_1
                    try clear hcz41_0
                    try clear hcz41_1
                    try clear hcz43_0
                    try clear hcz43_1
                    try clear hcz44_0
                    try clear hcz44_1
                    try clear hcz46_0
                    try clear hcz46_1
                    try clear hcz47_0
                    try clear hcz47_1
                    try clear hfz17_0
                    try clear hfz17_1
                    try clear hfz21_0
                    try clear hfz21_1
                    try clear hfz25_0
                    try clear hfz25_1
                    try clear hfz26_0
                    try clear hfz26_1
                    try clear hfz29_0
                    try clear hfz29_1
                    try clear hfz30_0
                    try clear hfz30_1
                    try clear hfz33_0
                    try clear hfz33_1
                    try clear hfz34_0
                    try clear hfz34_1
                    try clear hfz40_0
                    try clear hfz40_1
                    try clear hfz41_0
                    try clear hfz41_1
                    try clear hfz43_0
                    try clear hfz43_1
                    try clear hfz44_0
                    try clear hfz44_1
                    try clear hfz46_0
                    try clear hfz46_1
                    try clear hfz47_0
                    try clear hfz47_1
                    try clear hx144_0
                    try clear p1
                    try clear p14
                    try clear p144
                    try clear p2
                    try clear p6
                    try clear q1
                    try clear q14
                    try clear q144
                    obtain ⟨x13_2, rfl, HA, HK2, BK143, BK149, HB⟩ := hrel
                    cases gk with
                    | zero => exact absurd HA.out (by simp [foolscaplaw12_FindWords.l1])
                    | succ k2 =>
                      have H := HA.out
                      clear HA
                      simp only [foolscaplaw12_FindWords.l1] at H
                      by_cases c49 : x13_2 < (t147.size : Int)
                      · rw [if_pos c49] at H
                        have c49b0 : decide (x13_2 < (t147.size : Int)) = true := decide_eq_true c49
                        clear c49
                        by_cases c50 : 0 ≤ x13_2
                        · rw [if_pos c50] at H
                          have c50b0 : decide (0 ≤ x13_2) = true := decide_eq_true c50
                          clear c50
                          replace H := Option.bind_eq_some_iff.mp H
                          obtain ⟨t151, A520, H⟩ := H
                          replace H : (if t151 = 1 then (foolscaplaw12_FindWords.l1 k2 (rdOf ByteArray.empty l0 t141) t147 (wrap64 (x13_2 + 1)) t141 t142 t145 t146) else (some false)) = some r := H
                          have A52 := Aside0.mk A520
                          clear A520
                          by_cases c53 : t151 = 1
                          · rw [if_pos c53] at H
                            have c53b0 : (t151 == 1) = true := beq_iff_eq.mpr c53
                            have c53b1 : (t151 != 1) = false := bne_eq_false_iff_eq.mpr c53
                            clear c53
                            have H' := Aside0.mk H
                            clear H
                            have p51 : 0 ≤ (x13_2 : Int) := of_decide_eq_true (by first | (with_reducible assumption) | assumption)
                            have q51 : x13_2 < (t147.size : Int) := of_decide_eq_true (by first | (with_reducible assumption) | assumption)
                            have hx51 := bt_at t147 x13_2
                            replace p51 := eq_true p51
                            replace q51 := eq_true q51
                            go_wp2_with (first | ((with_reducible refine gate_callee (f := 16) rfl ?_); refine goesL_ (some 115) rfl rfl Try.func16 (by kernel_rfl) rfl #[.int .u8 (bt t147 x13_2), .bool false] rfl (by (try simp only [List.map_toArray, List.map_cons, List.map_nil]); first | done | rfl | (simp only [List.length_drop, List.length_take]; rfl)) ?_; (with_reducible refine (foolscapref5_Of.calls k2 (bt t147 x13_2) false t151 _ A52.out).mono ?_); rintro e w' ⟨rfl, ⟨nd, rfl⟩⟩; refine ⟨_, rfl, ?_⟩))
                            go_roundg k2
                            case measure => have := HJ12.out; have := HK2.out; omega
                            case rel => exact ⟨(wrap64 (x13_2 + 1)), (by first | rfl | (simp; done) | (simp [*]; done)), H', ⟨by have := HJ12.out; have := HK2.out; omega⟩, ⟨by (with_reducible repeat (first | refine blk_drewN ?_ _ | refine blk_drew ?_ | refine blk_alloc ?_ _)); exact BK143.out⟩, ⟨by (with_reducible repeat (first | refine blk_drewN ?_ _ | refine blk_drew ?_ | refine blk_alloc ?_ _)); exact BK149.out⟩, ⟨by repeat (first | (with_reducible first | exact HB.out | apply below_alloc | apply pw_below_drewN | apply below_drew1 | refine below_set ?_ GE143.out | refine below_set ?_ GE149.out) | exact HB.out)⟩⟩
                          · rw [if_neg c53] at H
                            have c53b0 : (t151 == 1) = false := beq_eq_false_iff_ne.mpr c53
                            have c53b1 : (t151 != 1) = true := bne_iff_ne.mpr c53
                            obtain rfl := Option.some.inj H
                            have p51 : 0 ≤ (x13_2 : Int) := of_decide_eq_true (by first | (with_reducible assumption) | assumption)
                            have q51 : x13_2 < (t147.size : Int) := of_decide_eq_true (by first | (with_reducible assumption) | assumption)
                            have hx51 := bt_at t147 x13_2
                            replace p51 := eq_true p51
                            replace q51 := eq_true q51
                            go_wp2_with (first | ((with_reducible refine gate_callee (f := 16) rfl ?_); refine goesL_ (some 115) rfl rfl Try.func16 (by kernel_rfl) rfl #[.int .u8 (bt t147 x13_2), .bool false] rfl (by (try simp only [List.map_toArray, List.map_cons, List.map_nil]); first | done | rfl | (simp only [List.length_drop, List.length_take]; rfl)) ?_; (with_reducible refine (foolscapref5_Of.calls k2 (bt t147 x13_2) false t151 _ A52.out).mono ?_); rintro e w' ⟨rfl, ⟨nd, rfl⟩⟩; refine ⟨_, rfl, ?_⟩))
                            go_ret
                            exact ⟨by first | rfl | (simp [errW_none, errW_some] <;> rfl) | (simp [*, errW_none, errW_some] <;> rfl), by repeat (first | (with_reducible first | exact HB.out | apply below_alloc | apply pw_below_drewN | apply below_drew1 | refine below_set ?_ GE143.out | refine below_set ?_ GE149.out) | exact HB.out)⟩
                        · rw [if_neg c50] at H
                          exact absurd H (by simp)
                      · rw [if_neg c49] at H
                        have c49b0 : decide (x13_2 < (t147.size : Int)) = false := decide_eq_false c49
                        clear c49
                        have HC54 := Aside0.mk H
                        clear H
                        have hnb55 := NB149_143.out
                        have hnc55 := NB143_149.out
                        have hcz56_0 : wr.cell? ⟨gb149, 0, none⟩ = some (.int .i64 t145) := (blk_cell BK149.out 0).trans rfl
                        have hcz56_1 : wr.cell? ⟨gb149, 1, none⟩ = some (.int .i64 t146) := (blk_cell BK149.out 1).trans rfl
                        have hfz56_0 := blk_frozen BK149.out 0
                        have hfz56_1 := blk_frozen BK149.out 1
                        go_upto_region 23 with (fail)
                        go_cut [146] (fun v146 wc => ∃ (kq : Nat) (x146_53 : Bool), v146 = .bool x146_53 ∧ Aside0 (foolscaplaw12_FindWords.j3 kq (rdOf ByteArray.empty l0 t141) x146_53 t141 t142 t145 t146 = some r) ∧ Aside0 (kq ≤ k2) ∧ Aside0 (wc.heap[gb143]? = some (.cells #[.int .i64 t141, .int .i64 t142] 28 (0, 0))) ∧ Aside0 (wc.heap[gb149]? = some (.cells #[.int .i64 t145, .int .i64 t146] 28 (0, 0))) ∧ Aside0 (Below w.heap.size w wc))
                        case first =>
                          have H := HC54.out
                          clear HC54
                          by_cases c57 : (wrap64 (t146 + (t147.size : Int))) < ((rdOf ByteArray.empty l0 t141).size : Int)
                          · rw [if_pos c57] at H
                            have c57b0 : decide ((wrap64 (t146 + (t147.size : Int))) < ((rdOf ByteArray.empty l0 t141).size : Int)) = true := decide_eq_true c57
                            clear c57
                            (first | rw [c57b0] | (simp only [i64_w, i32_w]; rw [c57b0]) | skip)
                            obtain ⟨ji58, hji58⟩ : ∃ j_ : Int, (wrap64 (t146 + (t147.size : Int))) = j_ := ⟨_, rfl⟩
                            replace H : (if 0 ≤ (ji58) then ((foolscapref5_Of.f k2 (bt (rdOf ByteArray.empty l0 t141) (ji58)) false).bind fun t152 => (if t152 = 1 then (foolscaplaw12_FindWords.j3 k2 (rdOf ByteArray.empty l0 t141) true t141 t142 t145 t146) else (if t146 > 0 then (if 0 ≤ (wrap64 (t146 - 1)) then (if (wrap64 (t146 - 1)) < ((rdOf ByteArray.empty l0 t141).size : Int) then ((foolscapref5_Of.f k2 (bt (rdOf ByteArray.empty l0 t141) (wrap64 (t146 - 1))) false).bind fun t153 => (foolscaplaw12_FindWords.j3 k2 (rdOf ByteArray.empty l0 t141) (t153 == 1) t141 t142 t145 t146)) else (none)) else (none)) else (foolscaplaw12_FindWords.j3 k2 (rdOf ByteArray.empty l0 t141) false t141 t142 t145 t146)))) else (none)) = some r := by first | (rw [hji58] at H; exact H) | (simp only [hji58] at H ⊢; exact H)
                            (try rw [hji58] at c57b0)
                            have hji58w : (IntKind.i64.wrap (t146 + (t147.size : Int))) = ji58 := (i64_w _).trans hji58
                            by_cases c59 : 0 ≤ (ji58)
                            · rw [if_pos c59] at H
                              have c59b0 : decide (0 ≤ (ji58)) = true := decide_eq_true c59
                              clear c59
                              replace H := Option.bind_eq_some_iff.mp H
                              obtain ⟨t152, A610, H⟩ := H
                              replace H : (if t152 = 1 then (foolscaplaw12_FindWords.j3 k2 (rdOf ByteArray.empty l0 t141) true t141 t142 t145 t146) else (if t146 > 0 then (if 0 ≤ (wrap64 (t146 - 1)) then (if (wrap64 (t146 - 1)) < ((rdOf ByteArray.empty l0 t141).size : Int) then ((foolscapref5_Of.f k2 (bt (rdOf ByteArray.empty l0 t141) (wrap64 (t146 - 1))) false).bind fun t153 => (foolscaplaw12_FindWords.j3 k2 (rdOf ByteArray.empty l0 t141) (t153 == 1) t141 t142 t145 t146)) else (none)) else (none)) else (foolscaplaw12_FindWords.j3 k2 (rdOf ByteArray.empty l0 t141) false t141 t142 t145 t146))) = some r := H
                              have A61 := Aside0.mk A610
                              clear A610
                              by_cases c62 : t152 = 1
                              · rw [if_pos c62] at H
                                have c62b0 : (t152 == 1) = true := beq_iff_eq.mpr c62
                                have c62b1 : (t152 != 1) = false := bne_eq_false_iff_eq.mpr c62
                                clear c62
                                have H' := Aside0.mk H
                                clear H
                                have p60 : 0 ≤ ((ji58) : Int) := of_decide_eq_true (by first | (with_reducible assumption) | assumption)
                                have q60 : (ji58) < ((rdOf ByteArray.empty l0 t141).size : Int) := of_decide_eq_true (by first | (with_reducible assumption) | assumption)
                                have hx60 := bt_at (rdOf ByteArray.empty l0 t141) (ji58)
                                replace p60 := eq_true p60
                                replace q60 := eq_true q60
                                go_wp2_with (first | (go_at_call 16; (with_reducible refine (foolscapref5_Of.calls k2 (bt (rdOf ByteArray.empty l0 t141) (ji58)) false t152 _ A61.out).mono ?_); rintro e w' ⟨rfl, ⟨nd, rfl⟩⟩))
                                (try subst hji58)
                                go_meet
                                case rel => exact ⟨_, (true), (by first | rfl | (simp; done) | (simp [*]; done)), H', ⟨by have := HJ12.out; have := HK2.out; first | omega | exact Nat.le_refl _⟩, ⟨by (with_reducible repeat (first | refine blk_drewN ?_ _ | refine blk_drew ?_ | refine blk_alloc ?_ _)); exact BK143.out⟩, ⟨by (with_reducible repeat (first | refine blk_drewN ?_ _ | refine blk_drew ?_ | refine blk_alloc ?_ _)); exact BK149.out⟩, ⟨by repeat (first | (with_reducible first | exact HB.out | apply below_alloc | apply pw_below_drewN | apply below_drew1 | refine below_set ?_ GE143.out | refine below_set ?_ GE149.out) | exact HB.out)⟩⟩
                              · rw [if_neg c62] at H
                                have c62b0 : (t152 == 1) = false := beq_eq_false_iff_ne.mpr c62
                                have c62b1 : (t152 != 1) = true := bne_iff_ne.mpr c62
                                by_cases c63 : t146 > 0
                                · rw [if_pos c63] at H
                                  have c63b0 : decide (0 < t146) = true := decide_eq_true c63
                                  clear c63
                                  obtain ⟨ji64, hji64⟩ : ∃ j_ : Int, (wrap64 (t146 - 1)) = j_ := ⟨_, rfl⟩
                                  replace H : (if 0 ≤ (ji64) then (if (ji64) < ((rdOf ByteArray.empty l0 t141).size : Int) then ((foolscapref5_Of.f k2 (bt (rdOf ByteArray.empty l0 t141) (ji64)) false).bind fun t153 => (foolscaplaw12_FindWords.j3 k2 (rdOf ByteArray.empty l0 t141) (t153 == 1) t141 t142 t145 t146)) else (none)) else (none)) = some r := by first | (rw [hji64] at H; exact H) | (simp only [hji64] at H ⊢; exact H)
                                  (try rw [hji64] at A61)
                                  have hji64w : (IntKind.i64.wrap (t146 - 1)) = ji64 := (i64_w _).trans hji64
                                  by_cases c65 : 0 ≤ (ji64)
                                  · rw [if_pos c65] at H
                                    have c65b0 : decide (0 ≤ (ji64)) = true := decide_eq_true c65
                                    clear c65
                                    by_cases c66 : (ji64) < ((rdOf ByteArray.empty l0 t141).size : Int)
                                    · rw [if_pos c66] at H
                                      have c66b0 : decide ((ji64) < ((rdOf ByteArray.empty l0 t141).size : Int)) = true := decide_eq_true c66
                                      clear c66
                                      replace H := Option.bind_eq_some_iff.mp H
                                      obtain ⟨t153, A680, H⟩ := H
                                      replace H : (foolscaplaw12_FindWords.j3 k2 (rdOf ByteArray.empty l0 t141) (t153 == 1) t141 t142 t145 t146) = some r := H
                                      have A68 := Aside0.mk A680
                                      clear A680
                                      have H' := Aside0.mk H
                                      clear H
                                      have p60 : 0 ≤ ((ji58) : Int) := of_decide_eq_true (by first | (with_reducible assumption) | assumption)
                                      have q60 : (ji58) < ((rdOf ByteArray.empty l0 t141).size : Int) := of_decide_eq_true (by first | (with_reducible assumption) | assumption)
                                      have hx60 := bt_at (rdOf ByteArray.empty l0 t141) (ji58)
                                      replace p60 := eq_true p60
                                      replace q60 := eq_true q60
                                      go_wp2_with (first | (go_at_call 16; (with_reducible refine (foolscapref5_Of.calls k2 (bt (rdOf ByteArray.empty l0 t141) (ji58)) false t152 _ A61.out).mono ?_); rintro e w' ⟨rfl, ⟨nd, rfl⟩⟩; have hnb69 := NB149_143.out; have hnc69 := NB143_149.out; have hcz70_0 : wr.cell? ⟨gb149, 0, none⟩ = some (.int .i64 t145) := (blk_cell BK149.out 0).trans rfl; have hcz70_1 : wr.cell? ⟨gb149, 1, none⟩ = some (.int .i64 t146) := (blk_cell BK149.out 1).trans rfl; have hfz70_0 := blk_frozen BK149.out 0; have hfz70_1 := blk_frozen BK149.out 1; have p67 : 0 ≤ ((ji64) : Int) := of_decide_eq_true (by first | (with_reducible assumption) | assumption); have q67 : (ji64) < ((rdOf ByteArray.empty l0 t141).size : Int) := of_decide_eq_true (by first | (with_reducible assumption) | assumption); have hx67 := bt_at (rdOf ByteArray.empty l0 t141) (ji64); replace p67 := eq_true p67; replace q67 := eq_true q67) | (go_at_call 16; (with_reducible refine (foolscapref5_Of.calls k2 (bt (rdOf ByteArray.empty l0 t141) (ji64)) false t153 _ A68.out).mono ?_); rintro e w' ⟨rfl, ⟨nd, rfl⟩⟩))
                                      (try subst hji58)
                                      go_meet
                                      case rel => exact ⟨_, ((t153 == 1)), (by first | rfl | (simp; done) | (simp [*]; done)), H', ⟨by have := HJ12.out; have := HK2.out; first | omega | exact Nat.le_refl _⟩, ⟨by (with_reducible repeat (first | refine blk_drewN ?_ _ | refine blk_drew ?_ | refine blk_alloc ?_ _)); exact BK143.out⟩, ⟨by (with_reducible repeat (first | refine blk_drewN ?_ _ | refine blk_drew ?_ | refine blk_alloc ?_ _)); exact BK149.out⟩, ⟨by repeat (first | (with_reducible first | exact HB.out | apply below_alloc | apply pw_below_drewN | apply below_drew1 | refine below_set ?_ GE143.out | refine below_set ?_ GE149.out) | exact HB.out)⟩⟩
                                    · rw [if_neg c66] at H
                                      exact absurd H (by simp)
                                  · rw [if_neg c65] at H
                                    exact absurd H (by simp)
                                · rw [if_neg c63] at H
                                  have c63b0 : decide (0 < t146) = false := decide_eq_false c63
                                  clear c63
                                  have H' := Aside0.mk H
                                  clear H
                                  have p60 : 0 ≤ ((ji58) : Int) := of_decide_eq_true (by first | (with_reducible assumption) | assumption)
                                  have q60 : (ji58) < ((rdOf ByteArray.empty l0 t141).size : Int) := of_decide_eq_true (by first | (with_reducible assumption) | assumption)
                                  have hx60 := bt_at (rdOf ByteArray.empty l0 t141) (ji58)
                                  replace p60 := eq_true p60
                                  replace q60 := eq_true q60
                                  go_wp2_with (first | (go_at_call 16; (with_reducible refine (foolscapref5_Of.calls k2 (bt (rdOf ByteArray.empty l0 t141) (ji58)) false t152 _ A61.out).mono ?_); rintro e w' ⟨rfl, ⟨nd, rfl⟩⟩; have hnb71 := NB149_143.out; have hnc71 := NB143_149.out; have hcz72_0 : wr.cell? ⟨gb149, 0, none⟩ = some (.int .i64 t145) := (blk_cell BK149.out 0).trans rfl; have hcz72_1 : wr.cell? ⟨gb149, 1, none⟩ = some (.int .i64 t146) := (blk_cell BK149.out 1).trans rfl; have hfz72_0 := blk_frozen BK149.out 0; have hfz72_1 := blk_frozen BK149.out 1))
                                  (try subst hji58)
                                  go_meet
                                  case rel => exact ⟨_, (false), (by first | rfl | (simp; done) | (simp [*]; done)), H', ⟨by have := HJ12.out; have := HK2.out; first | omega | exact Nat.le_refl _⟩, ⟨by (with_reducible repeat (first | refine blk_drewN ?_ _ | refine blk_drew ?_ | refine blk_alloc ?_ _)); exact BK143.out⟩, ⟨by (with_reducible repeat (first | refine blk_drewN ?_ _ | refine blk_drew ?_ | refine blk_alloc ?_ _)); exact BK149.out⟩, ⟨by repeat (first | (with_reducible first | exact HB.out | apply below_alloc | apply pw_below_drewN | apply below_drew1 | refine below_set ?_ GE143.out | refine below_set ?_ GE149.out) | exact HB.out)⟩⟩
                            · rw [if_neg c59] at H
                              exact absurd H (by simp)
                          · rw [if_neg c57] at H
                            have c57b0 : decide ((wrap64 (t146 + (t147.size : Int))) < ((rdOf ByteArray.empty l0 t141).size : Int)) = false := decide_eq_false c57
                            clear c57
                            (first | rw [c57b0] | (simp only [i64_w, i32_w]; rw [c57b0]) | skip)
                            by_cases c73 : t146 > 0
                            · rw [if_pos c73] at H
                              have c73b0 : decide (0 < t146) = true := decide_eq_true c73
                              clear c73
                              obtain ⟨ji74, hji74⟩ : ∃ j_ : Int, (wrap64 (t146 - 1)) = j_ := ⟨_, rfl⟩
                              replace H : (if 0 ≤ (ji74) then (if (ji74) < ((rdOf ByteArray.empty l0 t141).size : Int) then ((foolscapref5_Of.f k2 (bt (rdOf ByteArray.empty l0 t141) (ji74)) false).bind fun t154 => (foolscaplaw12_FindWords.j3 k2 (rdOf ByteArray.empty l0 t141) (t154 == 1) t141 t142 t145 t146)) else (none)) else (none)) = some r := by first | (rw [hji74] at H; exact H) | (simp only [hji74] at H ⊢; exact H)
                              have hji74w : (IntKind.i64.wrap (t146 - 1)) = ji74 := (i64_w _).trans hji74
                              by_cases c75 : 0 ≤ (ji74)
                              · rw [if_pos c75] at H
                                have c75b0 : decide (0 ≤ (ji74)) = true := decide_eq_true c75
                                clear c75
                                by_cases c76 : (ji74) < ((rdOf ByteArray.empty l0 t141).size : Int)
                                · rw [if_pos c76] at H
                                  have c76b0 : decide ((ji74) < ((rdOf ByteArray.empty l0 t141).size : Int)) = true := decide_eq_true c76
                                  clear c76
                                  replace H := Option.bind_eq_some_iff.mp H
                                  obtain ⟨t154, A780, H⟩ := H
                                  replace H : (foolscaplaw12_FindWords.j3 k2 (rdOf ByteArray.empty l0 t141) (t154 == 1) t141 t142 t145 t146) = some r := H
                                  have A78 := Aside0.mk A780
                                  clear A780
                                  have H' := Aside0.mk H
                                  clear H
                                  have hnb79 := NB149_143.out
                                  have hnc79 := NB143_149.out
                                  have hcz80_0 : wr.cell? ⟨gb149, 0, none⟩ = some (.int .i64 t145) := (blk_cell BK149.out 0).trans rfl
                                  have hcz80_1 : wr.cell? ⟨gb149, 1, none⟩ = some (.int .i64 t146) := (blk_cell BK149.out 1).trans rfl
                                  have hfz80_0 := blk_frozen BK149.out 0
                                  have hfz80_1 := blk_frozen BK149.out 1
                                  have p77 : 0 ≤ ((ji74) : Int) := of_decide_eq_true (by first | (with_reducible assumption) | assumption)
                                  have q77 : (ji74) < ((rdOf ByteArray.empty l0 t141).size : Int) := of_decide_eq_true (by first | (with_reducible assumption) | assumption)
                                  have hx77 := bt_at (rdOf ByteArray.empty l0 t141) (ji74)
                                  replace p77 := eq_true p77
                                  replace q77 := eq_true q77
                                  go_wp2_with (first | (go_at_call 16; (with_reducible refine (foolscapref5_Of.calls k2 (bt (rdOf ByteArray.empty l0 t141) (ji74)) false t154 _ A78.out).mono ?_); rintro e w' ⟨rfl, ⟨nd, rfl⟩⟩))
                                  (try subst hji58)
                                  go_meet
                                  case rel => exact ⟨_, ((t154 == 1)), (by first | rfl | (simp; done) | (simp [*]; done)), H', ⟨by have := HJ12.out; have := HK2.out; first | omega | exact Nat.le_refl _⟩, ⟨by (with_reducible repeat (first | refine blk_drewN ?_ _ | refine blk_drew ?_ | refine blk_alloc ?_ _)); exact BK143.out⟩, ⟨by (with_reducible repeat (first | refine blk_drewN ?_ _ | refine blk_drew ?_ | refine blk_alloc ?_ _)); exact BK149.out⟩, ⟨by repeat (first | (with_reducible first | exact HB.out | apply below_alloc | apply pw_below_drewN | apply below_drew1 | refine below_set ?_ GE143.out | refine below_set ?_ GE149.out) | exact HB.out)⟩⟩
                                · rw [if_neg c76] at H
                                  exact absurd H (by simp)
                              · rw [if_neg c75] at H
                                exact absurd H (by simp)
                            · rw [if_neg c73] at H
                              have c73b0 : decide (0 < t146) = false := decide_eq_false c73
                              clear c73
                              have H' := Aside0.mk H
                              clear H
                              have hnb81 := NB149_143.out
                              have hnc81 := NB143_149.out
                              have hcz82_0 : wr.cell? ⟨gb149, 0, none⟩ = some (.int .i64 t145) := (blk_cell BK149.out 0).trans rfl
                              have hcz82_1 : wr.cell? ⟨gb149, 1, none⟩ = some (.int .i64 t146) := (blk_cell BK149.out 1).trans rfl
                              have hfz82_0 := blk_frozen BK149.out 0
                              have hfz82_1 := blk_frozen BK149.out 1
                              go_wp2
                              (try subst hji58)
                              go_meet
                              case rel => exact ⟨_, (false), (by first | rfl | (simp; done) | (simp [*]; done)), H', ⟨by have := HJ12.out; have := HK2.out; first | omega | exact Nat.le_refl _⟩, ⟨by (with_reducible repeat (first | refine blk_drewN ?_ _ | refine blk_drew ?_ | refine blk_alloc ?_ _)); exact BK143.out⟩, ⟨by (with_reducible repeat (first | refine blk_drewN ?_ _ | refine blk_drew ?_ | refine blk_alloc ?_ _)); exact BK149.out⟩, ⟨by repeat (first | (with_reducible first | exact HB.out | apply below_alloc | apply pw_below_drewN | apply below_drew1 | refine below_set ?_ GE143.out | refine below_set ?_ GE149.out) | exact HB.out)⟩⟩
                        case rest =>
                          clear HC54
                          try clear c1
                          try clear p1
                          try clear q1
                          try clear hx1
                          try clear c2
                          try clear p2
                          try clear c3
                          try clear c4
                          try clear c5
                          try clear p5
                          try clear q5
                          try clear hx5
                          try clear c6
                          try clear p6
                          try clear q6
                          try clear hx6
                          try clear c7
                          try clear p7
                          try clear q7
                          try clear hx7
                          try clear c8
                          try clear c9
                          try clear c9b0
                          try clear c10
                          try clear c10b0
                          try clear c12
                          try clear c14
                          try clear p14
                          try clear q14
                          try clear hx14
                          try clear c15
                          try clear c16
                          try clear c20
                          try clear c22
                          try clear c22b0
                          try clear c22b1
                          try clear c23
                          try clear c23b0
                          try clear c24
                          try clear c27
                          try clear c27b0
                          try clear c28
                          try clear c31
                          try clear c31b0
                          try clear c31b1
                          try clear c32
                          try clear c35
                          try clear c35b0
                          try clear c35b1
                          try clear c36
                          try clear c36b0
                          try clear c36b1
                          try clear c37
                          try clear c37b0
                          try clear c37b1
                          try clear c38
                          try clear c38b0
                          try clear c38b1
                          try clear c39
                          try clear c42
                          try clear c45
                          try clear c48
                          try clear c49
                          try clear c49b0
                          try clear c50
                          try clear c50b0
                          try clear p51
                          try clear q51
                          try clear hx51
                          try clear c53
                          try clear c53b0
                          try clear c53b1
                          try clear c55
                          try clear c57
                          try clear c57b0
                          try clear c59
                          try clear c59b0
                          try clear p60
                          try clear q60
                          try clear hx60
                          try clear c62
                          try clear c62b0
                          try clear c62b1
                          try clear c63
                          try clear c63b0
                          try clear p64
                          try clear c65
                          try clear c65b0
                          try clear c66
                          try clear c66b0
                          try clear p67
                          try clear q67
                          try clear hx67
                          try clear c69
                          try clear c71
                          try clear c73
                          try clear c73b0
                          try clear c75
                          try clear c75b0
                          try clear c76
                          try clear c76b0
                          try clear p77
                          try clear q77
                          try clear hx77
                          try clear c79
                          try clear c81
                          try clear hcz17_0
                          try clear hcz17_1
                          try clear hcz21_0
                          try clear hcz21_1
                          try clear hcz25_0
                          try clear hcz25_1
                          try clear hcz26_0
                          try clear hcz26_1
                          try clear hcz29_0
                          try clear hcz29_1
                          try clear hcz30_0
                          try clear hcz30_1
                          try clear hcz33_0
                          try clear hcz33_1
                          try clear hcz34_0
                          try clear hcz34_1
                          try clear hcz40_0
                          try clear hcz40_1
                          try clear hcz41_0
                          try clear hcz41_1
                          try clear hcz43_0
                          try clear hcz43_1
                          try clear hcz44_0
                          try clear hcz44_1
                          try clear hcz46_0
                          try clear hcz46_1
                          try clear hcz47_0
                          try clear hcz47_1
                          try clear hcz56_0
                          try clear hcz56_1
                          try clear hcz70_0
                          try clear hcz70_1
                          try clear hcz72_0
                          try clear hcz72_1
                          try clear hcz80_0
                          try clear hcz80_1
                          try clear hcz82_0
                          try clear hcz82_1
                          try clear hfz17_0
                          try clear hfz17_1
                          try clear hfz21_0
                          try clear hfz21_1
                          try clear hfz25_0
                          try clear hfz25_1
                          try clear hfz26_0
                          try clear hfz26_1
                          try clear hfz29_0
                          try clear hfz29_1
                          try clear hfz30_0
                          try clear hfz30_1
                          try clear hfz33_0
                          try clear hfz33_1
                          try clear hfz34_0
                          try clear hfz34_1
                          try clear hfz40_0
                          try clear hfz40_1
                          try clear hfz41_0
                          try clear hfz41_1
                          try clear hfz43_0
                          try clear hfz43_1
                          try clear hfz44_0
                          try clear hfz44_1
                          try clear hfz46_0
                          try clear hfz46_1
                          try clear hfz47_0
                          try clear hfz47_1
                          try clear hfz56_0
                          try clear hfz56_1
                          try clear hfz70_0
                          try clear hfz70_1
                          try clear hfz72_0
                          try clear hfz72_1
                          try clear hfz80_0
                          try clear hfz80_1
                          try clear hfz82_0
                          try clear hfz82_1
                          try clear hx144_0
                          try clear p1
                          try clear p14
                          try clear p144
                          try clear p2
                          try clear p51
                          try clear p6
                          try clear p60
                          try clear p67
                          try clear p77
                          try clear q1
                          try clear q14
                          try clear q144
                          try clear q51
                          try clear q60
                          try clear q67
                          try clear q77
                          obtain ⟨kq, x146_53, rfl, HA, HJ53, BK143, BK149, HB⟩ := hcut
                          cases kq with
                          | zero => exact absurd HA.out (by simp [foolscaplaw12_FindWords.j3])
                          | succ kj53 =>
                            have H := HA.out
                            clear HA
                            simp only [foolscaplaw12_FindWords.j3] at H
                            by_cases c83 : x146_53 = true
                            · subst c83
                              have H1 : (some false) = some r := by rw [if_pos rfl] at H; exact H
                              clear H
                              have H := H1
                              clear H1
                              obtain rfl := Option.some.inj H
                              go_wp2
                              go_ret
                              exact ⟨by first | rfl | (simp [errW_none, errW_some] <;> rfl) | (simp [*, errW_none, errW_some] <;> rfl), by repeat (first | (with_reducible first | exact HB.out | apply below_alloc | apply pw_below_drewN | apply below_drew1 | refine below_set ?_ GE143.out | refine below_set ?_ GE149.out) | exact HB.out)⟩
                            · replace c83 := Bool.eq_false_iff.mpr c83
                              subst c83
                              have H1 : (foolscaplaw12_FindWords.l2 kj53 (rdOf ByteArray.empty l0 t141) t142 t145 t146) = some r := by rw [if_neg (show ¬ (false = true) by decide)] at H; exact H
                              clear H
                              have H := H1
                              clear H1
                              have H' := Aside0.mk H
                              clear H
                              have hnb84 := NB143_149.out
                              have hnc84 := NB149_143.out
                              have hcz85_0 : wc.cell? ⟨gb143, 0, none⟩ = some (.int .i64 t141) := (blk_cell BK143.out 0).trans rfl
                              have hcz85_1 : wc.cell? ⟨gb143, 1, none⟩ = some (.int .i64 t142) := (blk_cell BK143.out 1).trans rfl
                              have hfz85_0 := blk_frozen BK143.out 0
                              have hfz85_1 := blk_frozen BK143.out 1
                              go_wp2
                              go_loopg [15] kj53 (fun kq v15 w' => ∃ (x15_4 : Int), v15 = .int .i64 x15_4 ∧ Aside0 (foolscaplaw12_FindWords.l2 kq (rdOf ByteArray.empty l0 t141) x15_4 t145 t146 = some r) ∧ Aside0 (kq ≤ kj53) ∧ Aside0 (w'.heap[gb143]? = some (.cells #[.int .i64 t141, .int .i64 t142] 28 (0, 0))) ∧ Aside0 (w'.heap[gb149]? = some (.cells #[.int .i64 t145, .int .i64 t146] 28 (0, 0))) ∧ Aside0 (Below w.heap.size w w'))
                              case atStart => exact ⟨(t142), (by first | rfl | (simp; done) | (simp [*]; done)), H', ⟨Nat.le_refl _⟩, ⟨by (with_reducible repeat (first | refine blk_drewN ?_ _ | refine blk_drew ?_ | refine blk_alloc ?_ _)); exact BK143.out⟩, ⟨by (with_reducible repeat (first | refine blk_drewN ?_ _ | refine blk_drew ?_ | refine blk_alloc ?_ _)); exact BK149.out⟩, ⟨by repeat (first | (with_reducible first | exact HB.out | apply below_alloc | apply pw_below_drewN | apply below_drew1 | refine below_set ?_ GE143.out | refine below_set ?_ GE149.out) | exact HB.out)⟩⟩
                              case round =>
                                clear H'
                                try clear c1
                                try clear p1
                                try clear q1
                                try clear hx1
                                try clear c2
                                try clear p2
                                try clear c3
                                try clear c4
                                try clear c5
                                try clear p5
                                try clear q5
                                try clear hx5
                                try clear c6
                                try clear p6
                                try clear q6
                                try clear hx6
                                try clear c7
                                try clear p7
                                try clear q7
                                try clear hx7
                                try clear c8
                                try clear c9
                                try clear c9b0
                                try clear c10
                                try clear c10b0
                                try clear c12
                                try clear c14
                                try clear p14
                                try clear q14
                                try clear hx14
                                try clear c15
                                try clear c16
                                try clear c20
                                try clear c22
                                try clear c22b0
                                try clear c22b1
                                try clear c23
                                try clear c23b0
                                try clear c24
                                try clear c27
                                try clear c27b0
                                try clear c28
                                try clear c31
                                try clear c31b0
                                try clear c31b1
                                try clear c32
                                try clear c35
                                try clear c35b0
                                try clear c35b1
                                try clear c36
                                try clear c36b0
                                try clear c36b1
                                try clear c37
                                try clear c37b0
                                try clear c37b1
                                try clear c38
                                try clear c38b0
                                try clear c38b1
                                try clear c39
                                try clear c42
                                try clear c45
                                try clear c48
                                try clear c49
                                try clear c49b0
                                try clear c50
                                try clear c50b0
                                try clear p51
                                try clear q51
                                try clear hx51
                                try clear c53
                                try clear c53b0
                                try clear c53b1
                                try clear c55
                                try clear c57
                                try clear c57b0
                                try clear c59
                                try clear c59b0
                                try clear p60
                                try clear q60
                                try clear hx60
                                try clear c62
                                try clear c62b0
                                try clear c62b1
                                try clear c63
                                try clear c63b0
                                try clear p64
                                try clear c65
                                try clear c65b0
                                try clear c66
                                try clear c66b0
                                try clear p67
                                try clear q67
                                try clear hx67
                                try clear c69
                                try clear c71
                                try clear c73
                                try clear c73b0
                                try clear c75
                                try clear c75b0
                                try clear c76
                                try clear c76b0
                                try clear p77
                                try clear q77
                                try clear hx77
                                try clear c79
                                try clear c81
                                try clear c83
                                try clear c84
                                try clear hcz17_0
                                try clear hcz17_1
                                try clear hcz21_0
                                try clear hcz21_1
                                try clear hcz25_0
                                try clear hcz25_1
                                try clear hcz26_0
                                try clear hcz26_1
                                try clear hcz29_0
                                try clear hcz29_1
                                try clear hcz30_0
                                try clear hcz30_1
                                try clear hcz33_0
                                try clear hcz33_1
                                try clear hcz34_0
                                try clear hcz34_1
                                try clear hcz40_0
                                try clear hcz40_1
                                try clear hcz41_0
                                try clear hcz41_1
                                try clear hcz43_0
                                try clear hcz43_1
                                try clear hcz44_0
                                try clear hcz44_1
                                try clear hcz46_0
                                try clear hcz46_1
                                try clear hcz47_0
                                try clear hcz47_1
                                try clear hcz56_0
                                try clear hcz56_1
                                try clear hcz70_0
                                try clear hcz70_1
                                try clear hcz72_0
                                try clear hcz72_1
                                try clear hcz80_0
                                try clear hcz80_1
                                try clear hcz82_0
                                try clear hcz82_1
                                try clear hcz85_0
                                try clear hcz85_1
                                try clear hfz17_0
                                try clear hfz17_1
                                try clear hfz21_0
                                try clear hfz21_1
                                try clear hfz25_0
                                try clear hfz25_1
                                try clear hfz26_0
                                try clear hfz26_1
                                try clear hfz29_0
                                try clear hfz29_1
                                try clear hfz30_0
                                try clear hfz30_1
                                try clear hfz33_0
                                try clear hfz33_1
                                try clear hfz34_0
                                try clear hfz34_1
                                try clear hfz40_0
                                try clear hfz40_1
                                try clear hfz41_0
                                try clear hfz41_1
                                try clear hfz43_0
                                try clear hfz43_1
                                try clear hfz44_0
                                try clear hfz44_1
                                try clear hfz46_0
                                try clear hfz46_1
                                try clear hfz47_0
                                try clear hfz47_1
                                try clear hfz56_0
                                try clear hfz56_1
                                try clear hfz70_0
                                try clear hfz70_1
                                try clear hfz72_0
                                try clear hfz72_1
                                try clear hfz80_0
                                try clear hfz80_1
                                try clear hfz82_0
                                try clear hfz82_1
                                try clear hfz85_0
                                try clear hfz85_1
                                try clear hx144_0
                                try clear p1
                                try clear p14
                                try clear p144
                                try clear p2
                                try clear p5
                                try clear p51
                                try clear p6
                                try clear p60
                                try clear p64
                                try clear p67
                                try clear p7
                                try clear p77
                                try clear q1
                                try clear q14
                                try clear q144
                                try clear q5
                                try clear q51
                                try clear q6
                                try clear q60
                                try clear q67
                                try clear q7
                                try clear q77
                                obtain ⟨x15_4, rfl, HA, HK4, BK143, BK149, HB⟩ := hrel
                                cases gk with
                                | zero => exact absurd HA.out (by simp [foolscaplaw12_FindWords.l2])
                                | succ k4 =>
                                  have H := HA.out
                                  clear HA
                                  simp only [foolscaplaw12_FindWords.l2] at H
                                  by_cases c86 : x15_4 < t146
                                  · rw [if_pos c86] at H
                                    have c86b0 : decide (x15_4 < t146) = true := decide_eq_true c86
                                    clear c86
                                    by_cases c87 : 0 ≤ x15_4
                                    · rw [if_pos c87] at H
                                      have c87b0 : decide (0 ≤ x15_4) = true := decide_eq_true c87
                                      clear c87
                                      by_cases c88 : x15_4 < ((rdOf ByteArray.empty l0 t141).size : Int)
                                      · rw [if_pos c88] at H
                                        have c88b0 : decide (x15_4 < ((rdOf ByteArray.empty l0 t141).size : Int)) = true := decide_eq_true c88
                                        clear c88
                                        replace H := Option.bind_eq_some_iff.mp H
                                        obtain ⟨t155, A900, H⟩ := H
                                        replace H : (if t155 = 1 then (some false) else (foolscaplaw12_FindWords.l2 k4 (rdOf ByteArray.empty l0 t141) (wrap64 (x15_4 + 1)) t145 t146)) = some r := H
                                        have A90 := Aside0.mk A900
                                        clear A900
                                        by_cases c91 : t155 = 1
                                        · rw [if_pos c91] at H
                                          have c91b0 : (t155 == 1) = true := beq_iff_eq.mpr c91
                                          have c91b1 : (t155 != 1) = false := bne_eq_false_iff_eq.mpr c91
                                          clear c91
                                          obtain rfl := Option.some.inj H
                                          have hnb92 := NB149_143.out
                                          have hnc92 := NB143_149.out
                                          have hcz93_0 : wr.cell? ⟨gb149, 0, none⟩ = some (.int .i64 t145) := (blk_cell BK149.out 0).trans rfl
                                          have hcz93_1 : wr.cell? ⟨gb149, 1, none⟩ = some (.int .i64 t146) := (blk_cell BK149.out 1).trans rfl
                                          have hfz93_0 := blk_frozen BK149.out 0
                                          have hfz93_1 := blk_frozen BK149.out 1
                                          have p89 : 0 ≤ (x15_4 : Int) := of_decide_eq_true (by first | (with_reducible assumption) | assumption)
                                          have q89 : x15_4 < ((rdOf ByteArray.empty l0 t141).size : Int) := of_decide_eq_true (by first | (with_reducible assumption) | assumption)
                                          have hx89 := bt_at (rdOf ByteArray.empty l0 t141) x15_4
                                          replace p89 := eq_true p89
                                          replace q89 := eq_true q89
                                          go_wp2_with (first | ((with_reducible refine gate_callee (f := 16) rfl ?_); refine goesL_ (some 158) rfl rfl Try.func16 (by kernel_rfl) rfl #[.int .u8 (bt (rdOf ByteArray.empty l0 t141) x15_4), .bool false] rfl (by (try simp only [List.map_toArray, List.map_cons, List.map_nil]); first | done | rfl | (simp only [List.length_drop, List.length_take]; rfl)) ?_; (with_reducible refine (foolscapref5_Of.calls k4 (bt (rdOf ByteArray.empty l0 t141) x15_4) false t155 _ A90.out).mono ?_); rintro e w' ⟨rfl, ⟨nd, rfl⟩⟩; refine ⟨_, rfl, ?_⟩))
                                          go_ret
                                          exact ⟨by first | rfl | (simp [errW_none, errW_some] <;> rfl) | (simp [*, errW_none, errW_some] <;> rfl), by repeat (first | (with_reducible first | exact HB.out | apply below_alloc | apply pw_below_drewN | apply below_drew1 | refine below_set ?_ GE143.out | refine below_set ?_ GE149.out) | exact HB.out)⟩
                                        · rw [if_neg c91] at H
                                          have c91b0 : (t155 == 1) = false := beq_eq_false_iff_ne.mpr c91
                                          have c91b1 : (t155 != 1) = true := bne_iff_ne.mpr c91
                                          have H' := Aside0.mk H
                                          clear H
                                          have hnb94 := NB149_143.out
                                          have hnc94 := NB143_149.out
                                          have hcz95_0 : wr.cell? ⟨gb149, 0, none⟩ = some (.int .i64 t145) := (blk_cell BK149.out 0).trans rfl
                                          have hcz95_1 : wr.cell? ⟨gb149, 1, none⟩ = some (.int .i64 t146) := (blk_cell BK149.out 1).trans rfl
                                          have hfz95_0 := blk_frozen BK149.out 0
                                          have hfz95_1 := blk_frozen BK149.out 1
                                          have p89 : 0 ≤ (x15_4 : Int) := of_decide_eq_true (by first | (with_reducible assumption) | assumption)
                                          have q89 : x15_4 < ((rdOf ByteArray.empty l0 t141).size : Int) := of_decide_eq_true (by first | (with_reducible assumption) | assumption)
                                          have hx89 := bt_at (rdOf ByteArray.empty l0 t141) x15_4
                                          replace p89 := eq_true p89
                                          replace q89 := eq_true q89
                                          go_wp2_with (first | ((with_reducible refine gate_callee (f := 16) rfl ?_); refine goesL_ (some 158) rfl rfl Try.func16 (by kernel_rfl) rfl #[.int .u8 (bt (rdOf ByteArray.empty l0 t141) x15_4), .bool false] rfl (by (try simp only [List.map_toArray, List.map_cons, List.map_nil]); first | done | rfl | (simp only [List.length_drop, List.length_take]; rfl)) ?_; (with_reducible refine (foolscapref5_Of.calls k4 (bt (rdOf ByteArray.empty l0 t141) x15_4) false t155 _ A90.out).mono ?_); rintro e w' ⟨rfl, ⟨nd, rfl⟩⟩; refine ⟨_, rfl, ?_⟩))
                                          go_roundg k4
                                          case measure => have := HJ12.out; have := HK2.out; have := HJ53.out; have := HK4.out; omega
                                          case rel => exact ⟨(wrap64 (x15_4 + 1)), (by first | rfl | (simp; done) | (simp [*]; done)), H', ⟨by have := HJ12.out; have := HK2.out; have := HJ53.out; have := HK4.out; omega⟩, ⟨by (with_reducible repeat (first | refine blk_drewN ?_ _ | refine blk_drew ?_ | refine blk_alloc ?_ _)); exact BK143.out⟩, ⟨by (with_reducible repeat (first | refine blk_drewN ?_ _ | refine blk_drew ?_ | refine blk_alloc ?_ _)); exact BK149.out⟩, ⟨by repeat (first | (with_reducible first | exact HB.out | apply below_alloc | apply pw_below_drewN | apply below_drew1 | refine below_set ?_ GE143.out | refine below_set ?_ GE149.out) | exact HB.out)⟩⟩
                                      · rw [if_neg c88] at H
                                        exact absurd H (by simp)
                                    · rw [if_neg c87] at H
                                      exact absurd H (by simp)
                                  · rw [if_neg c86] at H
                                    have c86b0 : decide (x15_4 < t146) = false := decide_eq_false c86
                                    clear c86
                                    obtain rfl := Option.some.inj H
                                    have hnb96 := NB149_143.out
                                    have hnc96 := NB143_149.out
                                    have hcz97_0 : wr.cell? ⟨gb149, 0, none⟩ = some (.int .i64 t145) := (blk_cell BK149.out 0).trans rfl
                                    have hcz97_1 : wr.cell? ⟨gb149, 1, none⟩ = some (.int .i64 t146) := (blk_cell BK149.out 1).trans rfl
                                    have hfz97_0 := blk_frozen BK149.out 0
                                    have hfz97_1 := blk_frozen BK149.out 1
                                    go_wp2
                                    go_ret
                                    exact ⟨by first | rfl | (simp [errW_none, errW_some] <;> rfl) | (simp [*, errW_none, errW_some] <;> rfl), by repeat (first | (with_reducible first | exact HB.out | apply below_alloc | apply pw_below_drewN | apply below_drew1 | refine below_set ?_ GE143.out | refine below_set ?_ GE149.out) | exact HB.out)⟩
          · replace c12 := Bool.eq_false_iff.mpr c12
            subst c12
            have H1 : (foolscaplaw12_FindWords.l0 k (rdOf ByteArray.empty l0 t141) t147 t142 t145 t146) = some r := by rw [if_neg (show ¬ (false = true) by decide)] at H; exact H
            clear H
            have H := H1
            clear H1
            have H' := Aside0.mk H
            clear H
            go_enter Try.func4, Try.ntmps4
            go_wp2_with (first | ((with_reducible refine gate_callee (f := 9) rfl ?_); refine goesL_ (some 16) rfl rfl Try.func9 (by kernel_rfl) rfl #[] rfl (by (try simp only [List.map_toArray, List.map_cons, List.map_nil]); first | done | rfl | (simp only [List.length_drop, List.length_take]; rfl)) ?_; (with_reducible refine (foolscaplaw12_known.calls  true _ A4.out).mono ?_); rintro e w98 ⟨rfl, hb⟩; refine ⟨_, rfl, ?_⟩; have n0_ := Aside0.mk (below_step (by repeat (first | (with_reducible first | exact HB.out | apply below_alloc | apply pw_below_drewN | apply below_drew1) | exact HB.out)) hb); clear HB; have HB := n0_; clear n0_; (try clear hb); (try clear hb2); (try clear hk); (try clear hi)) | ((with_reducible refine gate_callee (f := 10) rfl ?_); refine goesL_ (some 19) rfl rfl Try.func10 (by kernel_rfl) rfl #[.slice A0 l0.length c0] rfl (by (try simp only [List.map_toArray, List.map_cons, List.map_nil]); first | done | rfl | (simp only [List.length_drop, List.length_take]; rfl)) ?_; (with_reducible refine (foolscaphelp_Text.calls k _ _ l0 true _ ?side1 ?side2 A6.out).mono ?_); (case side1 => repeat (first | exact (Kd.C_below HR0.out HB.out) | (with_reducible refine Kd.C_alloc ?_ _) | (with_reducible refine Kd.C_drewN ?_ _) | (with_reducible refine Kd.C_drew ?_))); (case side2 => exact HC0.out); rintro e w' ⟨rfl, ⟨nd, rfl⟩⟩; refine ⟨_, rfl, ?_⟩; (try (rw [drewN_self w98]; generalize hq_ : World.drewN w98 _ = w98; have n0_ : Aside0 (Below w.heap.size w w98) := ⟨by rw [← hq_]; exact (by repeat (first | (with_reducible first | exact HB.out | apply below_alloc | apply pw_below_drewN | apply below_drew1) | exact HB.out))⟩; clear HB hq_; have HB := n0_; clear n0_))) | ((with_reducible refine gate_callee (f := 14) rfl ?_); refine goesL_ (some 24) rfl rfl Try.func14 (by kernel_rfl) rfl #[.slice A0 l0.length c0, .int .u16 a1, .int .u16 a2] rfl (by (try simp only [List.map_toArray, List.map_cons, List.map_nil]); first | done | rfl | (simp only [List.length_drop, List.length_take]; rfl)) ?_; (with_reducible refine (foolscapseat_Place.calls _ _ l0 a1 a2 t141 t142 _ ?side1 ?side2 A8.out).mono ?_); (case side1 => repeat (first | exact (Kd.C_below HR0.out HB.out) | (with_reducible refine Kd.C_alloc ?_ _) | (with_reducible refine Kd.C_drewN ?_ _) | (with_reducible refine Kd.C_drew ?_))); (case side2 => exact HC0.out); rintro e w99 ⟨rfl, hb⟩; refine ⟨_, rfl, ?_⟩; have n0_ := Aside0.mk (below_step (by repeat (first | (with_reducible first | exact HB.out | apply below_alloc | apply pw_below_drewN | apply below_drew1) | exact HB.out)) hb); clear HB; have HB := n0_; clear n0_; (try clear hb); (try clear hb2); (try clear hk); (try clear hi)) | ((with_reducible refine gate_dst (N := 7) rfl ?_); (try (refine gate_guard (by rfl) ?_; dsimp only)); refine box_event ?hg (N := 7) ?hd (cs := #[.int .i64 0, .int .i64 0]) (t := 28) ?hr ?_; (case hd => rfl); (case hg => rfl); (case hr => first | (go_simp; done) | (go_simp; rfl)); intro gb143 hg w100 hbox hb; have n0_ := Aside0.mk (below_step (by repeat (first | (with_reducible first | exact HB.out | apply below_alloc | apply pw_below_drewN | apply below_drew1) | exact HB.out)) hb); have n1_ := Aside0.mk (hbox); have n2_ := Aside0.mk ((by rw [hg]; exact (below_size (by repeat (first | (with_reducible first | exact HB.out | apply below_alloc | apply pw_below_drewN | apply below_drew1) | exact HB.out))) : w.heap.size ≤ gb143)); have n3_ := Aside0.mk ((by rw [hg]; exact (below_size (by repeat (first | (with_reducible first | exact HB.out | apply below_alloc | apply pw_below_drewN | apply below_drew1) | exact HB.out))) : w.heap.size ≤ gb143)); clear HB; have HB := n0_; have BK143 := n1_; have GW143 := n2_; have GE143 := n3_; clear n0_ n1_ n2_ n3_; clear hb hbox hg; have hcz101_0 : w100.cell? ⟨gb143, 0, none⟩ = some (.int .i64 0) := (blk_cell BK143.out 0).trans rfl; have hcz101_1 : w100.cell? ⟨gb143, 1, none⟩ = some (.int .i64 0) := (blk_cell BK143.out 1).trans rfl; have hfz101_0 := blk_frozen BK143.out 0; have hfz101_1 := blk_frozen BK143.out 1; have p144 : 0 ≤ (t141 : Int) := of_decide_eq_true (by first | (with_reducible assumption) | assumption); have q144 : t141 < (l0.length : Int) := of_decide_eq_true (by first | (with_reducible assumption) | assumption); obtain ⟨ad144, e144, hx144_0⟩ := Kd.at_string HR0.out t141 p144 q144; cases e144; have hn144_0 : ad144.block ≠ gb143 := Nat.ne_of_lt (Nat.lt_of_lt_of_le (by have := World.block_lt_of_cell? _ _ hx144_0; first | rwa [add_block] at this | exact this) GW143.out); have hn144_1 : ad144.block ≠ gb143 := Nat.ne_of_lt (Nat.lt_of_lt_of_le (by have := World.block_lt_of_cell? _ _ hx144_0; first | rwa [add_block] at this | exact this) GW143.out); replace hx144_0 := (HB.out.cell (World.block_lt_of_cell? w _ hx144_0)).trans hx144_0; replace hx144_0 := (cell_far (p := ⟨gb143, 0, none⟩) (by first | (rw [add_block]; exact hn144_0) | (show (Addr.add _ _).block ≠ _; rw [add_block]; exact hn144_0) | exact hn144_0) (.int .i64 t141)).trans hx144_0; replace hx144_0 := (cell_far (p := ⟨gb143, 1, none⟩) (by first | (rw [add_block]; exact hn144_1) | (show (Addr.add _ _).block ≠ _; rw [add_block]; exact hn144_1) | exact hn144_1) (.int .i64 t142)).trans hx144_0; clear hn144_0; clear hn144_1; replace p144 := eq_true p144; replace q144 := eq_true q144) | ((with_reducible refine gate_callee (f := 15) rfl ?_); refine goesL_ (some 33) rfl rfl Try.func15 (by kernel_rfl) rfl #[.slice (some ad144) l0.length c0, .agg #[.int .i64 t141, .int .i64 t142]] rfl (by (try simp only [List.map_toArray, List.map_cons, List.map_nil]); first | done | rfl | (simp only [List.length_drop, List.length_take]; rfl)) ?_; (with_reducible refine (find_Word.calls _ _ l0 t141 t142 t145 t146 t147 false _ ?side1 ?side2 A11.out).mono ?_); (case side1 => exact Kd.C_below HR0.out (by repeat (first | (with_reducible first | exact HB.out | apply below_alloc | apply pw_below_drewN | apply below_drew1 | refine below_set ?_ GE143.out) | exact HB.out))); (case side2 => exact HC0.out); rintro e w102 ⟨rfl, hb⟩; refine ⟨_, rfl, ?_⟩; have n0_ := Aside0.mk (blk_below (g := gb143) (o := .cells #[.int .i64 t141, .int .i64 t142] 28 (0, 0)) (by (with_reducible repeat (first | refine blk_drewN ?_ _ | refine blk_drew ?_ | refine blk_alloc ?_ _)); refine blk_put (cs := #[.int .i64 t141, .int .i64 0]) ?_ 1 _ rfl; (with_reducible repeat (first | refine blk_drewN ?_ _ | refine blk_drew ?_ | refine blk_alloc ?_ _)); refine blk_put (cs := #[.int .i64 0, .int .i64 0]) ?_ 0 _ rfl; (with_reducible repeat (first | refine blk_drewN ?_ _ | refine blk_drew ?_ | refine blk_alloc ?_ _)); exact BK143.out) hb); have n1_ := Aside0.mk (below_step (by repeat (first | (with_reducible first | exact HB.out | apply below_alloc | apply pw_below_drewN | apply below_drew1 | refine below_set ?_ GE143.out) | exact HB.out)) hb); clear BK143; clear HB; have BK143 := n0_; have HB := n1_; clear n0_ n1_; (try clear hb); (try clear hb2); (try clear hk); (try clear hi)) | ((with_reducible refine gate_dst (N := 9) rfl ?_); (try (refine gate_guard (by rfl) ?_; dsimp only)); refine box_event ?hg (N := 9) ?hd (cs := #[.int .i64 0, .int .i64 0]) (t := 28) ?hr ?_; (case hd => rfl); (case hg => rfl); (case hr => first | (go_simp; done) | (go_simp; rfl)); intro gb149 hg w103 hbox hb; have n0_ := Aside0.mk (blk_below (g := gb143) (o := .cells #[.int .i64 t141, .int .i64 t142] 28 (0, 0)) (by (with_reducible repeat (first | refine blk_drewN ?_ _ | refine blk_drew ?_ | refine blk_alloc ?_ _)); exact BK143.out) hb); have n1_ := Aside0.mk (below_step (by repeat (first | (with_reducible first | exact HB.out | apply below_alloc | apply pw_below_drewN | apply below_drew1 | refine below_set ?_ GE143.out) | exact HB.out)) hb); have n2_ := Aside0.mk (hbox); have n3_ := Aside0.mk ((by rw [hg]; exact (below_size (by repeat (first | (with_reducible first | exact HB.out | apply below_alloc | apply pw_below_drewN | apply below_drew1 | refine below_set ?_ GE143.out) | exact HB.out))) : w.heap.size ≤ gb149)); have n4_ := Aside0.mk ((by rw [hg]; exact (below_size (by repeat (first | (with_reducible first | exact HB.out | apply below_alloc | apply pw_below_drewN | apply below_drew1 | refine below_set ?_ GE143.out) | exact HB.out))) : w.heap.size ≤ gb149)); have n5_ := Aside0.mk ((by rw [hg]; exact Nat.ne_of_lt (blk_lt (g := gb143) (o := .cells #[.int .i64 t141, .int .i64 t142] 28 (0, 0)) (by (with_reducible repeat (first | refine blk_drewN ?_ _ | refine blk_drew ?_ | refine blk_alloc ?_ _)); exact BK143.out)) : gb143 ≠ gb149)); have n6_ := Aside0.mk ((by rw [hg]; exact Nat.ne_of_gt (blk_lt (g := gb143) (o := .cells #[.int .i64 t141, .int .i64 t142] 28 (0, 0)) (by (with_reducible repeat (first | refine blk_drewN ?_ _ | refine blk_drew ?_ | refine blk_alloc ?_ _)); exact BK143.out)) : gb149 ≠ gb143)); clear BK143; clear HB; have BK143 := n0_; have HB := n1_; have BK149 := n2_; have GW149 := n3_; have GE149 := n4_; have NB143_149 := n5_; have NB149_143 := n6_; clear n0_ n1_ n2_ n3_ n4_ n5_ n6_; clear hb hbox hg; have hnb104 := NB149_143.out; have hnc104 := NB143_149.out; have hcz105_0 : w103.cell? ⟨gb149, 0, none⟩ = some (.int .i64 0) := (blk_cell BK149.out 0).trans rfl; have hcz105_1 : w103.cell? ⟨gb149, 1, none⟩ = some (.int .i64 0) := (blk_cell BK149.out 1).trans rfl; have hfz105_0 := blk_frozen BK149.out 0; have hfz105_1 := blk_frozen BK149.out 1; have hcz106_0 : w103.cell? ⟨gb143, 0, none⟩ = some (.int .i64 t141) := (blk_cell BK143.out 0).trans rfl; have hcz106_1 : w103.cell? ⟨gb143, 1, none⟩ = some (.int .i64 t142) := (blk_cell BK143.out 1).trans rfl; have hfz106_0 := blk_frozen BK143.out 0; have hfz106_1 := blk_frozen BK143.out 1))
            go_loopg [12] k (fun kq v12 w' => ∃ (x12_1 : Int), v12 = .int .i64 x12_1 ∧ Aside0 (foolscaplaw12_FindWords.l0 kq (rdOf ByteArray.empty l0 t141) t147 x12_1 t145 t146 = some r) ∧ Aside0 (kq ≤ k) ∧ Aside0 (w'.heap[gb143]? = some (.cells #[.int .i64 t141, .int .i64 t142] 28 (0, 0))) ∧ Aside0 (w'.heap[gb149]? = some (.cells #[.int .i64 t145, .int .i64 t146] 28 (0, 0))) ∧ Aside0 (Below w.heap.size w w'))
            case atStart => exact ⟨(t142), (by first | rfl | (simp; done) | (simp [*]; done)), H', ⟨Nat.le_refl _⟩, ⟨by (with_reducible repeat (first | refine blk_drewN ?_ _ | refine blk_drew ?_ | refine blk_alloc ?_ _)); refine blk_far ?_ NB143_149.out _; (with_reducible repeat (first | refine blk_drewN ?_ _ | refine blk_drew ?_ | refine blk_alloc ?_ _)); refine blk_far ?_ NB143_149.out _; (with_reducible repeat (first | refine blk_drewN ?_ _ | refine blk_drew ?_ | refine blk_alloc ?_ _)); exact BK143.out⟩, ⟨by (with_reducible repeat (first | refine blk_drewN ?_ _ | refine blk_drew ?_ | refine blk_alloc ?_ _)); refine blk_put (cs := #[.int .i64 t145, .int .i64 0]) ?_ 1 _ rfl; (with_reducible repeat (first | refine blk_drewN ?_ _ | refine blk_drew ?_ | refine blk_alloc ?_ _)); refine blk_put (cs := #[.int .i64 0, .int .i64 0]) ?_ 0 _ rfl; (with_reducible repeat (first | refine blk_drewN ?_ _ | refine blk_drew ?_ | refine blk_alloc ?_ _)); exact BK149.out⟩, ⟨by repeat (first | (with_reducible first | exact HB.out | apply below_alloc | apply pw_below_drewN | apply below_drew1 | refine below_set ?_ GE143.out | refine below_set ?_ GE149.out) | exact HB.out)⟩⟩
            case round =>
              clear H'
              try clear c1
              try clear p1
              try clear q1
              try clear hx1
              try clear c2
              try clear p2
              try clear c3
              try clear c4
              try clear c5
              try clear p5
              try clear q5
              try clear hx5
              try clear c6
              try clear p6
              try clear q6
              try clear hx6
              try clear c7
              try clear p7
              try clear q7
              try clear hx7
              try clear c8
              try clear p8
              try clear q8
              try clear hx8
              try clear c9
              try clear c9b0
              try clear c10
              try clear c10b0
              try clear c12
              try clear c14
              try clear p14
              try clear q14
              try clear hx14
              try clear c15
              try clear c16
              try clear c20
              try clear c22
              try clear c22b0
              try clear c22b1
              try clear c23
              try clear c23b0
              try clear c24
              try clear c27
              try clear c27b0
              try clear c28
              try clear c31
              try clear c31b0
              try clear c31b1
              try clear c32
              try clear c35
              try clear c35b0
              try clear c35b1
              try clear c36
              try clear c36b0
              try clear c36b1
              try clear c37
              try clear c37b0
              try clear c37b1
              try clear c38
              try clear c38b0
              try clear c38b1
              try clear c39
              try clear c42
              try clear c45
              try clear c48
              try clear c49
              try clear c49b0
              try clear c50
              try clear c50b0
              try clear p51
              try clear q51
              try clear hx51
              try clear c53
              try clear c53b0
              try clear c53b1
              try clear c55
              try clear c57
              try clear c57b0
              try clear c59
              try clear c59b0
              try clear p60
              try clear q60
              try clear hx60
              try clear c62
              try clear c62b0
              try clear c62b1
              try clear c63
              try clear c63b0
              try clear p64
              try clear c65
              try clear c65b0
              try clear c66
              try clear c66b0
              try clear p67
              try clear q67
              try clear hx67
              try clear c69
              try clear c71
              try clear c73
              try clear c73b0
              try clear c75
              try clear c75b0
              try clear c76
              try clear c76b0
              try clear p77
              try clear q77
              try clear hx77
              try clear c79
              try clear c81
              try clear c83
              try clear c84
              try clear c86
              try clear c86b0
              try clear c87
              try clear c87b0
              try clear c88
              try clear c88b0
              try clear p89
              try clear q89
              try clear hx89
              try clear c91
              try clear c91b0
              try clear c91b1
              try clear c92
              try clear c94
              try clear c96
              try clear c104
              try clear hcz101_0
              try clear hcz101_1
              try clear hcz105_0
              try clear hcz105_1
              try clear hcz106_0
              try clear hcz106_1
              try clear hcz17_0
              try clear hcz17_1
              try clear hcz21_0
              try clear hcz21_1
              try clear hcz25_0
              try clear hcz25_1
              try clear hcz26_0
              try clear hcz26_1
              try clear hcz29_0
              try clear hcz29_1
              try clear hcz30_0
              try clear hcz30_1
              try clear hcz33_0
              try clear hcz33_1
              try clear hcz34_0
              try clear hcz34_1
              try clear hcz40_0
              try clear hcz40_1
              try clear hcz41_0
              try clear hcz41_1
              try clear hcz43_0
              try clear hcz43_1
              try clear hcz44_0
              try clear hcz44_1
              try clear hcz46_0
              try clear hcz46_1
              try clear hcz47_0
              try clear hcz47_1
              try clear hcz56_0
              try clear hcz56_1
              try clear hcz70_0
              try clear hcz70_1
              try clear hcz72_0
              try clear hcz72_1
              try clear hcz80_0
              try clear hcz80_1
              try clear hcz82_0
              try clear hcz82_1
              try clear hcz85_0
              try clear hcz85_1
              try clear hcz93_0
              try clear hcz93_1
              try clear hcz95_0
              try clear hcz95_1
              try clear hcz97_0
              try clear hcz97_1
              try clear hfz101_0
              try clear hfz101_1
              try clear hfz105_0
              try clear hfz105_1
              try clear hfz106_0
              try clear hfz106_1
              try clear hfz17_0
              try clear hfz17_1
              try clear hfz21_0
              try clear hfz21_1
              try clear hfz25_0
              try clear hfz25_1
              try clear hfz26_0
              try clear hfz26_1
              try clear hfz29_0
              try clear hfz29_1
              try clear hfz30_0
              try clear hfz30_1
              try clear hfz33_0
              try clear hfz33_1
              try clear hfz34_0
              try clear hfz34_1
              try clear hfz40_0
              try clear hfz40_1
              try clear hfz41_0
              try clear hfz41_1
              try clear hfz43_0
              try clear hfz43_1
              try clear hfz44_0
              try clear hfz44_1
              try clear hfz46_0
              try clear hfz46_1
              try clear hfz47_0
              try clear hfz47_1
              try clear hfz56_0
              try clear hfz56_1
              try clear hfz70_0
              try clear hfz70_1
              try clear hfz72_0
              try clear hfz72_1
              try clear hfz80_0
              try clear hfz80_1
              try clear hfz82_0
              try clear hfz82_1
              try clear hfz85_0
              try clear hfz85_1
              try clear hfz93_0
              try clear hfz93_1
              try clear hfz95_0
              try clear hfz95_1
              try clear hfz97_0
              try clear hfz97_1
              try clear hx144_0
              try clear p1
              try clear p14
              try clear p144
              try clear p2
              try clear p5
              try clear p51
              try clear p6
              try clear p60
              try clear p64
              try clear p67
              try clear p7
              try clear p77
              try clear p89
              try clear q1
              try clear q14
              try clear q144
              try clear q5
              try clear q51
              try clear q6
              try clear q60
              try clear q67
              try clear q7
              try clear q77
              try clear q89
              obtain ⟨x12_1, rfl, HA, HK1, BK143, BK149, HB⟩ := hrel
              cases gk with
              | zero => exact absurd HA.out (by simp [foolscaplaw12_FindWords.l0])
              | succ k1 =>
                have H := HA.out
                clear HA
                simp only [foolscaplaw12_FindWords.l0] at H
                by_cases c107 : x12_1 < ((rdOf ByteArray.empty l0 t141).size : Int)
                · rw [if_pos c107] at H
                  have c107b0 : decide (x12_1 < ((rdOf ByteArray.empty l0 t141).size : Int)) = true := decide_eq_true c107
                  clear c107
                  by_cases c108 : 0 ≤ x12_1
                  · rw [if_pos c108] at H
                    have c108b0 : decide (0 ≤ x12_1) = true := decide_eq_true c108
                    clear c108
                    replace H := Option.bind_eq_some_iff.mp H
                    obtain ⟨t150, A1100, H⟩ := H
                    replace H : (if t150 = 1 then (some false) else (foolscaplaw12_FindWords.l0 k1 (rdOf ByteArray.empty l0 t141) t147 (wrap64 (x12_1 + 1)) t145 t146)) = some r := H
                    have A110 := Aside0.mk A1100
                    clear A1100
                    by_cases c111 : t150 = 1
                    · rw [if_pos c111] at H
                      have c111b0 : (t150 == 1) = true := beq_iff_eq.mpr c111
                      have c111b1 : (t150 != 1) = false := bne_eq_false_iff_eq.mpr c111
                      clear c111
                      obtain rfl := Option.some.inj H
                      have p109 : 0 ≤ (x12_1 : Int) := of_decide_eq_true (by first | (with_reducible assumption) | assumption)
                      have q109 : x12_1 < ((rdOf ByteArray.empty l0 t141).size : Int) := of_decide_eq_true (by first | (with_reducible assumption) | assumption)
                      have hx109 := bt_at (rdOf ByteArray.empty l0 t141) x12_1
                      replace p109 := eq_true p109
                      replace q109 := eq_true q109
                      go_wp2_with (first | ((with_reducible refine gate_callee (f := 16) rfl ?_); refine goesL_ (some 50) rfl rfl Try.func16 (by kernel_rfl) rfl #[.int .u8 (bt (rdOf ByteArray.empty l0 t141) x12_1), .bool false] rfl (by (try simp only [List.map_toArray, List.map_cons, List.map_nil]); first | done | rfl | (simp only [List.length_drop, List.length_take]; rfl)) ?_; (with_reducible refine (foolscapref5_Of.calls k1 (bt (rdOf ByteArray.empty l0 t141) x12_1) false t150 _ A110.out).mono ?_); rintro e w' ⟨rfl, ⟨nd, rfl⟩⟩; refine ⟨_, rfl, ?_⟩))
                      go_ret
                      exact ⟨by first | rfl | (simp [errW_none, errW_some] <;> rfl) | (simp [*, errW_none, errW_some] <;> rfl), by repeat (first | (with_reducible first | exact HB.out | apply below_alloc | apply pw_below_drewN | apply below_drew1 | refine below_set ?_ GE143.out | refine below_set ?_ GE149.out) | exact HB.out)⟩
                    · rw [if_neg c111] at H
                      have c111b0 : (t150 == 1) = false := beq_eq_false_iff_ne.mpr c111
                      have c111b1 : (t150 != 1) = true := bne_iff_ne.mpr c111
                      have H' := Aside0.mk H
                      clear H
                      have p109 : 0 ≤ (x12_1 : Int) := of_decide_eq_true (by first | (with_reducible assumption) | assumption)
                      have q109 : x12_1 < ((rdOf ByteArray.empty l0 t141).size : Int) := of_decide_eq_true (by first | (with_reducible assumption) | assumption)
                      have hx109 := bt_at (rdOf ByteArray.empty l0 t141) x12_1
                      replace p109 := eq_true p109
                      replace q109 := eq_true q109
                      go_wp2_with (first | ((with_reducible refine gate_callee (f := 16) rfl ?_); refine goesL_ (some 50) rfl rfl Try.func16 (by kernel_rfl) rfl #[.int .u8 (bt (rdOf ByteArray.empty l0 t141) x12_1), .bool false] rfl (by (try simp only [List.map_toArray, List.map_cons, List.map_nil]); first | done | rfl | (simp only [List.length_drop, List.length_take]; rfl)) ?_; (with_reducible refine (foolscapref5_Of.calls k1 (bt (rdOf ByteArray.empty l0 t141) x12_1) false t150 _ A110.out).mono ?_); rintro e w' ⟨rfl, ⟨nd, rfl⟩⟩; refine ⟨_, rfl, ?_⟩))
                      go_roundg k1
                      case measure => have := HK1.out; omega
                      case rel => exact ⟨(wrap64 (x12_1 + 1)), (by first | rfl | (simp; done) | (simp [*]; done)), H', ⟨by have := HK1.out; omega⟩, ⟨by (with_reducible repeat (first | refine blk_drewN ?_ _ | refine blk_drew ?_ | refine blk_alloc ?_ _)); exact BK143.out⟩, ⟨by (with_reducible repeat (first | refine blk_drewN ?_ _ | refine blk_drew ?_ | refine blk_alloc ?_ _)); exact BK149.out⟩, ⟨by repeat (first | (with_reducible first | exact HB.out | apply below_alloc | apply pw_below_drewN | apply below_drew1 | refine below_set ?_ GE143.out | refine below_set ?_ GE149.out) | exact HB.out)⟩⟩
                  · rw [if_neg c108] at H
                    exact absurd H (by simp)
                · rw [if_neg c107] at H
                  have c107b0 : decide (x12_1 < ((rdOf ByteArray.empty l0 t141).size : Int)) = false := decide_eq_false c107
                  clear c107
                  by_cases c112 : t147.toList = ([] : List UInt8)
                  · rw [if_pos c112] at H
                    have c112b0 : (t147.toList == ([] : List UInt8)) = true := beq_iff_eq.mpr c112
                    have c112b1 : (t147.toList != ([] : List UInt8)) = false := bne_eq_false_iff_eq.mpr c112
                    clear c112
                    obtain rfl := Option.some.inj H
                    have hnb113 := NB149_143.out
                    have hnc113 := NB143_149.out
                    have hcz114_0 : wr.cell? ⟨gb149, 0, none⟩ = some (.int .i64 t145) := (blk_cell BK149.out 0).trans rfl
                    have hcz114_1 : wr.cell? ⟨gb149, 1, none⟩ = some (.int .i64 t146) := (blk_cell BK149.out 1).trans rfl
                    have hfz114_0 := blk_frozen BK149.out 0
                    have hfz114_1 := blk_frozen BK149.out 1
                    go_wp2
                    go_ret
                    exact ⟨by first | rfl | (simp [errW_none, errW_some] <;> rfl) | (simp [*, errW_none, errW_some] <;> rfl), by repeat (first | (with_reducible first | exact HB.out | apply below_alloc | apply pw_below_drewN | apply below_drew1 | refine below_set ?_ GE143.out | refine below_set ?_ GE149.out) | exact HB.out)⟩
                  · rw [if_neg c112] at H
                    have c112b0 : (t147.toList == ([] : List UInt8)) = false := beq_eq_false_iff_ne.mpr c112
                    have c112b1 : (t147.toList != ([] : List UInt8)) = true := bne_iff_ne.mpr c112
                    obtain rfl := Option.some.inj H
                    go_wp2
                    go_ret
                    exact ⟨by first | rfl | (simp [errW_none, errW_some] <;> rfl) | (simp [*, errW_none, errW_some] <;> rfl), by repeat (first | (with_reducible first | exact HB.out | apply below_alloc | apply pw_below_drewN | apply below_drew1 | refine below_set ?_ GE143.out | refine below_set ?_ GE149.out) | exact HB.out)⟩
        · rw [if_neg c10] at H
          exact absurd H (by simp)
      · rw [if_neg c9] at H
        exact absurd H (by simp)
    · replace c7 := Bool.eq_false_iff.mpr c7
      subst c7
      have H1 : (some true) = some r := by rw [if_neg (show ¬ (false = true) by decide)] at H; exact H
      clear H
      have H := H1
      clear H1
      obtain rfl := Option.some.inj H
      go_enter Try.func4, Try.ntmps4
      go_wp2_with (first | ((with_reducible refine gate_callee (f := 9) rfl ?_); refine goesL_ (some 16) rfl rfl Try.func9 (by kernel_rfl) rfl #[] rfl (by (try simp only [List.map_toArray, List.map_cons, List.map_nil]); first | done | rfl | (simp only [List.length_drop, List.length_take]; rfl)) ?_; (with_reducible refine (foolscaplaw12_known.calls  true _ A4.out).mono ?_); rintro e w115 ⟨rfl, hb⟩; refine ⟨_, rfl, ?_⟩; have n0_ := Aside0.mk (below_step (by repeat (first | (with_reducible first | exact HB.out | apply below_alloc | apply pw_below_drewN | apply below_drew1) | exact HB.out)) hb); clear HB; have HB := n0_; clear n0_; (try clear hb); (try clear hb2); (try clear hk); (try clear hi)) | ((with_reducible refine gate_callee (f := 10) rfl ?_); refine goesL_ (some 19) rfl rfl Try.func10 (by kernel_rfl) rfl #[.slice A0 l0.length c0] rfl (by (try simp only [List.map_toArray, List.map_cons, List.map_nil]); first | done | rfl | (simp only [List.length_drop, List.length_take]; rfl)) ?_; (with_reducible refine (foolscaphelp_Text.calls k _ _ l0 false _ ?side1 ?side2 A6.out).mono ?_); (case side1 => repeat (first | exact (Kd.C_below HR0.out HB.out) | (with_reducible refine Kd.C_alloc ?_ _) | (with_reducible refine Kd.C_drewN ?_ _) | (with_reducible refine Kd.C_drew ?_))); (case side2 => exact HC0.out); rintro e w' ⟨rfl, ⟨nd, rfl⟩⟩; refine ⟨_, rfl, ?_⟩))
      go_ret
      exact ⟨by first | rfl | (simp [errW_none, errW_some] <;> rfl) | (simp [*, errW_none, errW_some] <;> rfl), by repeat (first | (with_reducible first | exact HB.out | apply below_alloc | apply pw_below_drewN | apply below_drew1) | exact HB.out)⟩
  · replace c5 := Bool.eq_false_iff.mpr c5
    subst c5
    have H1 : (some false) = some r := by rw [if_neg (show ¬ (false = true) by decide)] at H; exact H
    clear H
    have H := H1
    clear H1
    obtain rfl := Option.some.inj H
    go_enter Try.func4, Try.ntmps4
    go_wp2_with (first | ((with_reducible refine gate_callee (f := 9) rfl ?_); refine goesL_ (some 16) rfl rfl Try.func9 (by kernel_rfl) rfl #[] rfl (by (try simp only [List.map_toArray, List.map_cons, List.map_nil]); first | done | rfl | (simp only [List.length_drop, List.length_take]; rfl)) ?_; (with_reducible refine (foolscaplaw12_known.calls  false _ A4.out).mono ?_); rintro e w116 ⟨rfl, hb⟩; refine ⟨_, rfl, ?_⟩; have n0_ := Aside0.mk (below_step (by repeat (first | (with_reducible first | exact HB.out | apply below_alloc | apply pw_below_drewN | apply below_drew1) | exact HB.out)) hb); clear HB; have HB := n0_; clear n0_; (try clear hb); (try clear hb2); (try clear hk); (try clear hi)))
    go_ret
    exact ⟨by first | rfl | (simp [errW_none, errW_some] <;> rfl) | (simp [*, errW_none, errW_some] <;> rfl), by repeat (first | (with_reducible first | exact HB.out | apply below_alloc | apply pw_below_drewN | apply below_drew1) | exact HB.out)⟩

end Go.Proofs.Ytbfoflhfmhfofaa.MFindWords
