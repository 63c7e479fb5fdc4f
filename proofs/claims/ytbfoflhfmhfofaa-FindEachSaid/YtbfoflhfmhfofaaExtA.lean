/- find.All: what its iterator tells, in order; strings.HasPrefix. -/
import Derived.Test.YtbfoflhfmhfofaaProg
import Derived.Test.YtbfoflhfmhfofaaWWords
import Derived.RangeFuncNested
import Derived.RangeFuncBound
import Derived.RangeFuncCalls
import Derived.RangeFuncLeaves
import Derived.Shelf.Abstract
import Derived.WalkKit
import Derived.OwnWalkIn
import Derived.TacticsInMore
import Derived.LoopNIn
import Derived.LoopIn
import Derived.KernelRfl
import Derived.Lib.Strings
import Derived.Lib.Hide
import Derived.WalkSpells
import Derived.Outline
import Derived.Stop.RegionWithIn
import Derived.Sort.QuietIn
set_option linter.unusedVariables false
set_option linter.unusedSimpArgs false
namespace Go.Proofs.Ytbfoflhfmhfofaa.Ext
open Go.RowKit Go.Shelf Go.Proofs Go.Proofs.YtbfoflhfmhfofaaW.PrintWords
attribute [local go_sem] Oper.semAt_some
theorem wide_fn (f : FuncId) : Fence.wide.fn f = True := rfl
attribute [local go_sem] wide_fn

set_option maxHeartbeats 400000 in
theorem hasPrefix_calls (s p : ByteArray) (w : World) :
    Calls Try.prog 31 #[.string s, .string p] w fun e w' => e = .returned (.bool (Lib.hasPrefix s.data.toList p.data.toList)) ∧ w = w' := by
  have hr := Lib.hasPrefix_raw s p
  have HR := Go.Lib.hid hr
  clear hr
  by_cases h : p.size ≤ s.size
  · go_enter Try.func31, Try.ntmps31
    go_wp2
    go_ret
    refine ⟨?_, rfl⟩
    show Ending.returned (.bool ((s.extract 0 p.size).toList == p.toList)) = _
    rw [← HR.out]; simp [h]
  · have h' : s.size < p.size := by omega
    go_enter Try.func31, Try.ntmps31
    go_wp2
    go_ret
    refine ⟨?_, rfl⟩
    show Ending.returned (.bool false) = _
    rw [← HR.out]; simp [h]

theorem hasPrefix_is (s p : ByteArray) (w : World) (b : Bool) (hb : Lib.hasPrefix s.data.toList p.data.toList = b) :
    Calls Try.prog 31 #[.string s, .string p] w fun e w' => e = .returned (.bool b) ∧ w = w' := by
  rw [← hb]; exact hasPrefix_calls s p w

/-- does p stand at i in s? -/
def occ (s p : ByteArray) (i : Nat) : Bool := Lib.hasPrefix (s.extract i s.size).data.toList p.data.toList
/-- line k's places ahead of i -/
def lineTo (s p : ByteArray) (k i : Nat) : List (Nat × Nat) := ((List.range i).filter (occ s p)).map (fun j => (k, j))
/-- the places in the lines ahead of line k -/
def come (l : List ByteArray) (p : ByteArray) : Nat → List (Nat × Nat)
  | 0 => []
  | k + 1 => come l p k ++ lineTo (l.getD k ByteArray.empty) p k (l.getD k ByteArray.empty).size
/-- all places of a pattern -/
def allOcc (l : List ByteArray) (p : ByteArray) : List (Nat × Nat) := if p.size = 0 then [] else come l p l.length

theorem lineTo_succ (s p : ByteArray) (k i : Nat) : lineTo s p k (i + 1) = lineTo s p k i ++ (if occ s p i = true then [(k, i)] else []) := by
  unfold lineTo
  rw [List.range_succ, List.filter_append, List.map_append]
  congr 1
  by_cases h : occ s p i = true
  · rw [if_pos h, List.filter_cons_of_pos h]; rfl
  · rw [if_neg h, List.filter_cons_of_neg h]; rfl
theorem lineTo_mono (s p : ByteArray) (k i : Nat) (d : Nat) : lineTo s p k i <+: lineTo s p k (i + d) := by
  induction d with
  | zero => exact List.prefix_refl _
  | succ d ih => exact ih.trans (by rw [← Nat.add_assoc, lineTo_succ]; exact List.prefix_append _ _)
theorem come_mono (l : List ByteArray) (p : ByteArray) (k d : Nat) : come l p k <+: come l p (k + d) := by
  induction d with
  | zero => exact List.prefix_refl _
  | succ d ih => exact ih.trans (List.prefix_append _ _)
theorem come_prefix (l : List ByteArray) (p : ByteArray) (k i : Nat) (hk : k < l.length) (hi : i ≤ (l.getD k ByteArray.empty).size) :
    come l p k ++ lineTo (l.getD k ByteArray.empty) p k i <+: come l p l.length := by
  have h1 : come l p k ++ lineTo (l.getD k ByteArray.empty) p k i <+: come l p (k + 1) := by
    obtain ⟨d, hd⟩ : ∃ d, (l.getD k ByteArray.empty).size = i + d := ⟨_, (Nat.add_sub_cancel' hi).symm⟩
    show _ <+: come l p k ++ lineTo (l.getD k ByteArray.empty) p k (l.getD k ByteArray.empty).size
    rw [hd]
    exact (List.prefix_append_right_inj _).2 (lineTo_mono _ _ _ _ _)
  obtain ⟨d, hd⟩ : ∃ d, l.length = k + 1 + d := ⟨_, (Nat.add_sub_cancel' hk).symm⟩
  rw [hd]
  exact h1.trans (come_mono l p (k + 1) d)

/-- a place as a value -/
def encP (x : Nat × Nat) : Value := .agg #[.int .i64 (x.1 : Int), .int .i64 (x.2 : Int)]
/-- What a round keeps: whatever lay below n₀, and the pattern's box. -/
def KpF (n₀ Bp : Nat) (pat : ByteArray) (W W' : World) : Prop := Below n₀ W W' ∧ (Boxed W Bp 9 (.string pat) → Boxed W' Bp 9 (.string pat))

theorem below_of_drew {B : Nat} {w W : World} (h : Below B w.drew W) : Below B w W := ⟨h.os, h.tape, h.output, h.size, h.block⟩
theorem below_drewN' {B : Nat} {w W : World} (h : Below B w W) (m : Nat) : Below B w (W.drewN m) := ⟨h.os, h.tape, h.output, h.size, h.block⟩
/-- one of two things, by a bool -/
def TwoWays (b : Bool) (p q : Prop) : Prop := (b = true → p) ∧ (b = false → q)

set_option maxRecDepth 100000 in
set_option maxHeartbeats 2000000 in
theorem all1_in (n : Nat) (hn : 1 ≤ n) (l Bp Bl : Nat) (w : World) (A : Option Addr) (c : Nat) (lines : List ByteArray) (pat : ByteArray)
    (hl : lines.length ≤ 9223372036854775806) (hsz : ∀ s ∈ lines, s.size ≤ 9223372036854775806) (hps : pat.size ≤ 9223372036854775806)
    (hC : Kd.C Kd.string w A lines.length lines)
    (J Jx : List (Nat × Nat) → World → Prop) (W : World) (hJd : ∀ s X m, J s X → J s (X.drewN m))
    (hY : ∀ pre x W1, J pre W1 → pre.length < (allOcc lines pat).length → YieldAt Fence.wide (n - 1) Try.prog l #[encP x] W1 fun e W' =>
      (e = .returned (.bool true) ∧ J (pre ++ [x]) W' ∧ KpF w.heap.size Bp pat W1 W') ∨ (e = .returned (.bool false) ∧ Jx (pre ++ [x]) W'))
    (hBp : Boxed W Bp 9 (.string pat)) (hBl : W.cell? ⟨Bl, 0, none⟩ = some (.slice A lines.length c)) (hb : Below w.heap.size w W) (h0 : J [] W) :
    CallsIn Fence.wide n Try.prog 30 #[.func (.yield l) #[] #[], .pointer (some ⟨Bp, 0, none⟩), .pointer (some ⟨Bl, 0, none⟩)] W fun e W' => (∃ v, e = .returned v) ∧
      ((∃ ys, ys = allOcc lines pat ∧ J ys W') ∨ (∃ pre, pre <+: allOcc lines pat ∧ Jx pre W')) := by
  have hcp := hBp.cell
  by_cases hz : pat.size = 0
  · have hz' : pat.toList.isEmpty = true := by
      rw [ByteArray.toList_eq]; simp; exact Array.size_eq_zero_iff.1 hz
    refine callsIn_of_wp Try.func30 rfl trivial ?_ rfl
    simp only [Try.ntmps30, List.size_toArray, List.length_cons, List.length_nil, Nat.reduceAdd, Nat.reduceSub, Array.replicate_succ, Array.replicate_zero, List.push_toArray, List.append_toArray, List.nil_append, List.cons_append]
    gi_wp2
    refine bodyPost_ret (results_none rfl _ _ _) rfl ?_
    exact ⟨⟨_, rfl⟩, .inl ⟨[], by unfold allOcc; rw [if_pos hz], h0⟩⟩
  · have hz' : pat.toList.isEmpty = false := by
      rw [ByteArray.toList_eq]; simp; intro h; exact hz (by rw [show pat.size = pat.data.size from rfl, h]; rfl)
    have ha : allOcc lines pat = come lines pat lines.length := by unfold allOcc; rw [if_neg hz]
    rw [ha] at hY ⊢
    clear ha
    have hY2 : ∀ pre x X, J pre X → pre.length < (come lines pat lines.length).length → YieldAt Fence.wide (n - 1) Try.prog l #[encP x] X.drew fun e W' =>
        ∃ b : Bool, e = .returned (.bool b) ∧ TwoWays b (J (pre ++ [x]) W' ∧ KpF w.heap.size Bp pat X.drew W') (Jx (pre ++ [x]) W') := fun pre x X hj hlt =>
      (hY pre x _ (hJd _ _ 1 hj) hlt).mono fun e W' h => by
        rcases h with ⟨he, h1, h2⟩ | ⟨he, h1⟩
        · exact ⟨true, he, fun _ => ⟨h1, h2⟩, fun h => by cases h⟩
        · exact ⟨false, he, fun h => (by cases h), fun _ => h1⟩
    clear hY
    refine callsIn_of_wp Try.func30 rfl trivial ?_ rfl
    simp only [Try.ntmps30, List.size_toArray, List.length_cons, List.length_nil, Nat.reduceAdd, Nat.reduceSub, Array.replicate_succ, Array.replicate_zero, List.push_toArray, List.append_toArray, List.nil_append, List.cons_append]
    gi_wp2
    gi_loopw [11] (fun v wr => ∃ k : Nat, k ≤ lines.length ∧ v = .int .i64 k ∧ J (come lines pat k) wr ∧ Boxed wr Bp 9 (.string pat) ∧ Below w.heap.size w wr)
      (fun v _ => lines.length - (intOf v).toNat)
    case atStart => exact ⟨0, Nat.zero_le _, rfl, h0, hBp, hb⟩
    case round =>
      clear hcp hBp hb h0 hBl
      obtain ⟨k, hk, rfl, hJs, hbx, hbl⟩ := hrel
      by_cases hlt : k < lines.length
      · obtain ⟨ad, hA, hcell⟩ := Kd.at_string (Kd.C_below hC hbl) (k : Int) (by omega) (by omega)
        subst hA
        rw [Int.toNat_natCast] at hcell
        have hs' := hsz (lines.getD k ByteArray.empty) (by rw [List.getD_eq_getElem?_getD, List.getElem?_eq_getElem hlt]; exact List.getElem_mem hlt)
        have hrd : rdOf ByteArray.empty lines (k : Int) = lines.getD k ByteArray.empty := by unfold rdOf; rw [Int.toNat_natCast]
        rw [hrd] at hcell
        clear hrd
        obtain ⟨s, hs⟩ : ∃ s, s = lines.getD k ByteArray.empty := ⟨_, rfl⟩
        rw [← hs] at hcell hs'
        have HS := Go.Lib.hid hs
        clear hs
        gi_wp2
        gi_loopw [18] (fun v wx => ∃ i : Nat, i ≤ s.size ∧ v = .int .i64 i ∧ J (come lines pat k ++ lineTo s pat k i) wx ∧ Boxed wx Bp 9 (.string pat) ∧ Below w.heap.size w wx)
          (fun v _ => s.size - (intOf v).toNat)
        case atStart => exact ⟨0, Nat.zero_le _, rfl, by simpa [lineTo] using hJs, hbx, hbl⟩
        case round =>
          clear hJs hbx hbl hcell
          obtain ⟨i, hi, rfl, hJs, hbx, hbl⟩ := hrel
          by_cases hilt : i < s.size
          · have hcp := hbx.cell
            cases ho : Lib.hasPrefix (s.extract i s.size).data.toList pat.data.toList with
            | true =>
              have hocc : occ s pat i = true := ho
              have hpre := come_prefix lines pat k (i + 1) hlt (by rw [← HS.out]; omega)
              rw [← HS.out, lineTo_succ, if_pos hocc, ← List.append_assoc] at hpre
              have hlen : (come lines pat k ++ lineTo s pat k i).length < (come lines pat lines.length).length := by
                have := hpre.length_le
                simp at this ⊢; omega
              obtain ⟨fn, tmps, assign, body, hy, hR⟩ := hY2 _ (k, i) _ hJs hlen
              simp only [encP] at hy
              have HP := Go.Lib.hid hpre
              have HB := Go.Lib.hid hbl
              have HX := Go.Lib.hid hbx
              clear hpre hlen hbl hbx hJs hY2
              gi_wp2_with fail
              gi_region_with (first | (gi_at_call 31; refine (callsIn_wide.2 (hasPrefix_is _ _ _ true ho)).mono ?_; rintro e w' ⟨rfl, rfl⟩) | (refine hR.mono ?_; rintro e W3 ⟨b, rfl, hb3⟩))
              cases b with
              | true =>
                obtain ⟨hJ3, hk3⟩ := hb3.1 rfl
                gi_wp2
                go_roundw
                case rel =>
                  refine ⟨i + 1, by omega, by simp, ?_, hk3.2 HX.out, HB.out.trans ?_⟩
                  · rw [lineTo_succ, if_pos hocc, ← List.append_assoc]; exact hJ3
                  · exact below_of_drew hk3.1
                case measure => simp [intOf]; omega
              | false =>
                have hx3 := hb3.2 rfl
                gi_wp2
                refine bodyPost_ret (results_none rfl _ _ _) rfl ?_
                exact ⟨⟨_, rfl⟩, .inr ⟨_, HP.out, hx3⟩⟩
            | false =>
              have hocc : ¬ occ s pat i = true := by unfold occ; rw [ho]; decide
              have HJ := Go.Lib.hid hJs
              have HB := Go.Lib.hid hbl
              have HX := Go.Lib.hid hbx
              clear hbl hbx hJs hY2
              gi_wp2_with fail
              gi_quiet ((gi_at_call 31; exact CallsIn.quiet_of_same (callsIn_wide.2 ((hasPrefix_is _ _ _ false ho).mono fun _ _ h => ⟨h.1, h.2.symm⟩))))
              gi_wp2
              go_roundw
              case rel =>
                refine ⟨i + 1, by omega, by simp, ?_, HX.out, below_drewN' HB.out _⟩
                rw [lineTo_succ, if_neg hocc, List.append_nil]; exact hJd _ _ _ HJ.out
              case measure => simp [intOf]; omega
          · obtain rfl : i = s.size := by omega
            gi_wp2
            go_roundw
            case rel =>
              refine ⟨k + 1, by omega, by simp, ?_, hbx, hbl⟩
              show J (come lines pat k ++ lineTo (lines.getD k ByteArray.empty) pat k (lines.getD k ByteArray.empty).size) _
              rw [← HS.out]; exact hJs
            case measure => simp [intOf]; omega
      · obtain rfl : k = lines.length := by omega
        gi_wp2
        first | go_end0 | refine bodyPost_ret (results_none rfl _ _ _) rfl ?_
        exact ⟨⟨_, rfl⟩, .inl ⟨_, rfl, hJs⟩⟩
end Go.Proofs.Ytbfoflhfmhfofaa.Ext
