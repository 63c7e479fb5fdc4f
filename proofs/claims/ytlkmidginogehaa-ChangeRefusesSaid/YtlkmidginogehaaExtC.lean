/- slices.Grow at nil, slices.Concat of three rows, slices.Clone: []string. -/
import Derived.Test.YtlkmidginogehaaProg
import Derived.Below
import Derived.Deep.Draws
import Derived.Deep.AppendLies
import Derived.Maps.AppendAt
import Derived.OwnWalk
import Derived.Laws.BytesArg
import Derived.Laws.MakeOwn
import Derived.Laws.OwnMore
import Derived.Deep.OwnRows
import Derived.Tactics
import Derived.Lib.ConvBytes
import Derived.Laws.Slices
import Derived.WalkKit
import Derived.KernelRfl
import Derived.RowKit3
import Derived.Deep.LoopGhost
import Derived.Deep.QuietTactic
import Derived.BigQuiet
import Derived.WideLaws
import Derived.Deep.DeepCutAuto
import Derived.Deep.CutBlock
import Derived.Deep.RegionHeld3
import Derived.Laws.Rows
import Derived.Lib.AppendStr
import Derived.ArgAppend
import Derived.Laws.IdiomCopy
import Derived.OrdersHeld
import Derived.Laws.BitsLemmas
import Derived.RowKit
import Derived.Test.YtlkmidginogehaaWWords
import Derived.Test.YtlkmidginogehaaWLast
import Derived.Test.YtlkmidginogehaaWTab
import Derived.Test.YtlkmidginogehaaWQPut
import Derived.Test.YtlkmidginogehaaWApart
import Derived.Test.YtlkmidginogehaaWArr
import Derived.Test.YtlkmidginogehaaWZeros
import Derived.Test.YtlkmidginogehaaWFoot
import Derived.Test.YtlkmidginogehaaWKept
import Derived.Test.YtlkmidginogehaaWShare
import Derived.Test.YtlkmidginogehaaWN
import Derived.Test.YtlkmidginogehaaWEqStruct
import Derived.Test.YtlkmidginogehaaWRepsOne
import Derived.Test.YtlkmidginogehaaWGuard
import Derived.Test.YtlkmidginogehaaWNEv
import Derived.Test.YtlkmidginogehaaWMore
import Derived.RangeFuncNested
import Derived.RangeFuncBound
import Derived.RangeFuncCalls
import Derived.RangeFuncLeaves
import Derived.Shelf.Abstract
import Derived.OwnWalkIn
import Derived.TacticsInMore
import Derived.LoopNIn
import Derived.LoopIn
import Derived.Lib.Strings
import Derived.Lib.Hide
import Derived.WalkSpells
import Derived.Lib.SliceRun
import Derived.Outline
import Derived.Stop.RegionWithIn
import Derived.Sort.QuietIn
set_option linter.unusedVariables false
set_option linter.unusedSimpArgs false
namespace Go.Proofs.Ytlkmidginogehaa.Ext
open Go.RowKit Go.Proofs Go.Proofs.YtlkmidginogehaaW.PrintWords Go.Proofs.YtlkmidginogehaaW.PrintLast Go.Proofs.YtlkmidginogehaaW.PrintMore
attribute [local go_sem] max2_int min2_int max_two min_two max_three min_three max_four min_four

theorem info9 : (Try.prog.info? 9).map (fun i => (i.zero, i.size, i.bytes)) = some (some (.string ⟨#[]⟩), 1, 16) := by kernel_rfl
theorem w64 {z : Int} (h0 : -9223372036854775808 ≤ z) (h1 : z ≤ 9223372036854775807) : wrap64 z = z := by
  unfold wrap64; omega
set_option maxRecDepth 100000 in
set_option maxHeartbeats 2000000 in
theorem grow_nil (w : World) (m : Nat) (hm : m ≤ 100000) :
    Calls Try.prog 32 #[.slice none 0 0, .int .i64 (m : Int)] w fun e w' => ∃ v, e = .returned v ∧ Kd.string.R 9 w' w.heap.size (fun _ => True) v [] ∧ Below w.heap.size w w' := by
  by_cases h0 : m = 0
  · subst h0
    go_enter Try.func32, Try.ntmps32
    go_wp2
    go_ret
    exact ⟨_, rfl, Kd.R_nil _ _ _ _ _, Below.refl _ _⟩
  · have hp : decide ((m : Int) > 0) = true := by simp; omega
    have hp2 : 0 < m := by omega
    go_enter Try.func32, Try.ntmps32
    go_wp2_with ((with_reducible refine gate_builtin (b := .append) (xs := #[.tmp 20, .tmp 21]) rfl ?_); at_builtin; refine Kd.R_append_zeros Kd.string (w0 := w) w.heap.size rfl (.tmp 20) (.tmp 21) 22 3 9 (.string ⟨#[]⟩) 16 rfl Try.underlying22 Try.underlying3 info9 rfl (by decide) (by decide) (.slice none 0 0) ([] : List ByteArray) ByteArray.empty (m : Int) (fun _ => True) rfl rfl (rfl) (fun _ _ => trivial) (Kd.R_nil _ _ _ _ _) (by omega) (Below.refl _ _) (Nat.le_refl _) (by simp; omega) ?_; intro v1 w1 hR hB hg hat; obtain ⟨g, cap, rfl, hgb, hgl, _⟩ := Kd.R_form hR (by simp; omega); have hcap := (Kd.R_reads' hR).2.1; simp only [List.nil_append, List.length_replicate] at hcap; have hR0 := Kd.R_take (m := 0) hR (Nat.zero_le _))
    go_ret
    exact ⟨_, rfl, hR0, hB⟩

def rd_L2 (xs : List (List ByteArray)) (i : Int) : (List ByteArray) := xs.getD i.toNat ([] : List ByteArray)
theorem at_L2 {w : World} {A : Option Addr} {n : Nat} {xs : List (List ByteArray)} (h : Kd.C (Kd.slice 9 Kd.string) w A n xs) (i : Int) (h0 : 0 ≤ i) (h1 : i < n) : ∃ ad A0 c0, A = some ad ∧ w.cell? (ad.add i.toNat) = some (.slice A0 (rd_L2 xs i).length c0) ∧ (rd_L2 xs i).length ≤ c0 ∧ Kd.string.C w A0 (rd_L2 xs i).length (rd_L2 xs i) := by
  obtain ⟨ad, c, e, _, hK, hc0⟩ := Kd.C_get h ([] : List ByteArray) i h0 h1
  have hc : ∀ j u, c[j]? = some u → w.cell? (ad.add (i.toNat * 1 + j)) = some u := hc0
  obtain ⟨A0, c0, rfl, l0, g0⟩ := hK
  exact ⟨ad, A0, c0, e, by have hq := hc 0 _ rfl; rwa [Nat.mul_one, Nat.add_zero] at hq, l0, g0⟩
/-- three rows in a row -/
theorem rows3 {w : World} {ad : Addr} {l1 l2 l3 : List ByteArray} (h : Kd.C (Kd.slice 9 Kd.string) w (some ad) 3 [l1, l2, l3]) :
    (∃ A0 c0, w.cell? ad = some (.slice A0 l1.length c0) ∧ l1.length ≤ c0 ∧ Kd.string.C w A0 l1.length l1) ∧ (∃ A0 c0, w.cell? ⟨ad.block, ad.off + 1, none⟩ = some (.slice A0 l2.length c0) ∧ l2.length ≤ c0 ∧ Kd.string.C w A0 l2.length l2) ∧ (∃ A0 c0, w.cell? ⟨ad.block, ad.off + 2, none⟩ = some (.slice A0 l3.length c0) ∧ l3.length ≤ c0 ∧ Kd.string.C w A0 l3.length l3) := by
  obtain ⟨a1, A1, c1, e1, p1, q1, r1⟩ := at_L2 h 0 (by decide) (by decide)
  obtain ⟨a2, A2, c2, e2, p2, q2, r2⟩ := at_L2 h 1 (by decide) (by decide)
  obtain ⟨a3, A3, c3, e3, p3, q3, r3⟩ := at_L2 h 2 (by decide) (by decide)
  cases e1; cases e2; cases e3
  exact ⟨⟨A1, c1, p1, q1, r1⟩, ⟨A2, c2, p2, q2, r2⟩, ⟨A3, c3, p3, q3, r3⟩⟩

set_option maxRecDepth 100000 in
set_option maxHeartbeats 2000000 in
theorem concat3 (w : World) (ad : Addr) (c : Nat) (l1 l2 l3 : List ByteArray) (hC : Kd.C (Kd.slice 9 Kd.string) w (some ad) 3 [l1, l2, l3]) (hn : l1.length + l2.length + l3.length ≤ 100000) :
    Calls Try.prog 29 #[.slice (some ad) 3 c] w fun e w' => ∃ v, e = .returned v ∧ Kd.string.R 9 w' w.heap.size (fun _ => True) v (l1 ++ l2 ++ l3) ∧ Below w.heap.size w w' := by
  obtain ⟨⟨A1, c1, s0, k1, h1⟩, ⟨A2, c2, s1, k2, h2⟩, ⟨A3, c3, s2, k3, h3⟩⟩ := rows3 hC
  go_enter Try.func29, Try.ntmps29
  go_wp2
  go_loopw [3, 11] (fun v u wr => w = wr ∧ ((v = .int .i64 0 ∧ u = .int .i64 0) ∨ (v = .int .i64 l1.length ∧ u = .int .i64 1) ∨ (v = .int .i64 ((l1.length : Int) + l2.length) ∧ u = .int .i64 2) ∨ (v = .int .i64 ((l1.length : Int) + l2.length + l3.length) ∧ u = .int .i64 3)))
    (fun _ u _ => 4 - (intOf u).toNat)
  case atStart => exact ⟨rfl, .inl ⟨rfl, rfl⟩⟩
  case round =>
    obtain ⟨rfl, ⟨rfl, rfl⟩ | ⟨rfl, rfl⟩ | ⟨rfl, rfl⟩ | ⟨rfl, rfl⟩⟩ := hrel
    · go_wp2
      exact ⟨⟨trivial, .inr (.inl ⟨rfl, rfl⟩)⟩, by decide⟩
    · go_wp2
      exact ⟨⟨trivial, .inr (.inr (.inl ⟨rfl, rfl⟩))⟩, by decide⟩
    · go_wp2
      exact ⟨⟨trivial, .inr (.inr (.inr ⟨rfl, rfl⟩))⟩, by decide⟩
    · have hgr := grow_nil w (l1.length + l2.length + l3.length) hn
      simp only [Int.natCast_add] at hgr
      go_wp2_with (go_at_call 32; refine hgr.mono ?_; clear hgr; rintro e W1 ⟨v0, rfl, hR0, hB0⟩; obtain ⟨a0, q0, rfl⟩ := Kd.R_slice hR0)
      go_loopw [6, 27] (fun v u W => Below w.heap.size w W ∧ ∃ a q xs, v = .slice a xs.length q ∧ Kd.string.R 9 W w.heap.size (fun _ => True) (.slice a xs.length q) xs ∧ (([] = xs ∧ u = .int .i64 0) ∨ (l1 = xs ∧ u = .int .i64 1) ∨ (l1 ++ l2 = xs ∧ u = .int .i64 2) ∨ (l1 ++ l2 ++ l3 = xs ∧ u = .int .i64 3)))
        (fun _ u _ => 4 - (intOf u).toNat)
      case atStart => exact ⟨hB0, a0, q0, [], rfl, hR0, .inl ⟨rfl, rfl⟩⟩
      case round =>
        clear hB0 hR0 s0 s1 s2 h1 h2 h3 k1 k2 k3
        obtain ⟨hB, a, q, xs, rfl, hR, h4⟩ := hrel
        obtain ⟨⟨A1, c1, s0, k1, h1⟩, ⟨A2, c2, s1, k2, h2⟩, ⟨A3, c3, s2, k3, h3⟩⟩ := rows3 (Kd.C_below hC hB)
        rcases h4 with ⟨rfl, rfl⟩ | ⟨rfl, rfl⟩ | ⟨rfl, rfl⟩ | ⟨rfl, rfl⟩
        · go_wp2_with ((with_reducible refine gate_builtin (b := .append) (xs := #[.tmp 31, .tmp 32]) rfl ?_); at_builtin; refine Kd.R_append_rows Kd.string (w0 := w) w.heap.size rfl (.tmp 31) (.tmp 32) 22 9 (.string ⟨#[]⟩) 16 rfl Try.underlying22 info9 rfl (by decide) (by decide) _ (([] : List ByteArray)) l1 A1 l1.length c1 (fun _ => True) (fun _ => False) rfl rfl hR (Kd.C_below h1 (Below.refl _ _)) (fun x cs h => h) (fun k h => h.elim) (fun _ _ => trivial) hB hB.size (by (try simp); omega) ?_; intro v1 w1 hR1 hB1 hg1 hat1; obtain ⟨a1, q1, rfl⟩ := Kd.R_slice hR1)
          exact ⟨⟨hB1, a1, q1, l1, by simp, by simpa using hR1, .inr (.inl ⟨rfl, rfl⟩)⟩, by decide⟩
        · go_wp2_with ((with_reducible refine gate_builtin (b := .append) (xs := #[.tmp 31, .tmp 32]) rfl ?_); at_builtin; refine Kd.R_append_rows Kd.string (w0 := w) w.heap.size rfl (.tmp 31) (.tmp 32) 22 9 (.string ⟨#[]⟩) 16 rfl Try.underlying22 info9 rfl (by decide) (by decide) _ (l1) l2 A2 l2.length c2 (fun _ => True) (fun _ => False) rfl rfl hR (Kd.C_below h2 (Below.refl _ _)) (fun x cs h => h) (fun k h => h.elim) (fun _ _ => trivial) hB hB.size (by (try simp); omega) ?_; intro v1 w1 hR1 hB1 hg1 hat1; obtain ⟨a1, q1, rfl⟩ := Kd.R_slice hR1)
          exact ⟨⟨hB1, a1, q1, _, by simp, hR1, .inr (.inr (.inl ⟨rfl, rfl⟩))⟩, by decide⟩
        · go_wp2_with ((with_reducible refine gate_builtin (b := .append) (xs := #[.tmp 31, .tmp 32]) rfl ?_); at_builtin; refine Kd.R_append_rows Kd.string (w0 := w) w.heap.size rfl (.tmp 31) (.tmp 32) 22 9 (.string ⟨#[]⟩) 16 rfl Try.underlying22 info9 rfl (by decide) (by decide) _ (l1 ++ l2) l3 A3 l3.length c3 (fun _ => True) (fun _ => False) rfl rfl hR (Kd.C_below h3 (Below.refl _ _)) (fun x cs h => h) (fun k h => h.elim) (fun _ _ => trivial) hB hB.size (by (try simp); omega) ?_; intro v1 w1 hR1 hB1 hg1 hat1; obtain ⟨a1, q1, rfl⟩ := Kd.R_slice hR1)
          exact ⟨⟨hB1, a1, q1, l1 ++ l2 ++ l3, by simp [Nat.add_assoc], by simpa [Nat.add_assoc] using hR1, .inr (.inr (.inr ⟨rfl, rfl⟩))⟩, by decide⟩
        · go_wp2
          go_ret
          exact ⟨_, rfl, hR, hB⟩
def slices_Concat_string_string.f (l0 : List (List ByteArray)) : Option (List ByteArray) :=
  match l0 with
  | [a, b, c] => if a.length + b.length + c.length ≤ 100000 then some (a ++ b ++ c) else none
  | _ => none
theorem slices_Concat_string_string.calls (A0 : Option Addr) (c0 : Nat) (l0 : List (List ByteArray)) (r : List ByteArray) (w : World) (hr0 : Kd.C (Kd.slice 9 Kd.string) w A0 l0.length l0) (hc0 : l0.length ≤ c0) (h : slices_Concat_string_string.f l0 = some r) :
    Calls Try.prog 29 #[.slice A0 l0.length c0] w fun e w' => ∃ v, e = .returned v ∧ Kd.R Kd.string 9 w' w.heap.size (fun _ => True) v r ∧ Below w.heap.size w w' := by
  unfold slices_Concat_string_string.f at h
  split at h
  · rename_i a b c
    by_cases hc : a.length + b.length + c.length ≤ 100000
    · rw [if_pos hc] at h
      cases h
      obtain ⟨ad, _, _, rfl, _⟩ := at_L2 hr0 0 (by decide) (by simp)
      exact concat3 w ad c0 a b c hr0 hc
    · rw [if_neg hc] at h; cases h
  · cases h
theorem R_emptyblk {α : Type} (d : Kd α) (e : TypeId) (W : World) (base : Nat) (hb : base ≤ W.heap.size) : d.R e (W.alloc (.cells #[] e)) base (fun _ => True) (.slice (some ⟨W.heap.size, 0, none⟩) 0 0) [] :=
  ⟨fun _ _ => trivial, [], ⟨by simp, .inr ⟨W.heap.size, 0, #[], rfl, hb, World.alloc_heap_new W _, Nat.le_refl _, by decide, by simp, by simp⟩⟩, Reps.none _ _⟩
set_option maxRecDepth 100000 in
set_option maxHeartbeats 2000000 in
theorem clone_on (w : World) (A : Option Addr) (c : Nat) (l : List ByteArray) (hC : Kd.C Kd.string w A l.length l) (hc : l.length ≤ c) (hn : l.length ≤ 100000) :
    Calls Try.prog 22 #[.slice A l.length c] w fun e w' => ∃ v, e = .returned v ∧ Kd.string.R 9 w' w.heap.size (fun _ => True) v l ∧ Below w.heap.size w w' := by
  cases A with
  | none =>
    have hl : l = [] := by
      obtain ⟨_, _, h3⟩ := hC
      by_cases h : 0 < l.length
      · obtain ⟨ad, h, _⟩ := h3 h; cases h
      · exact List.length_eq_zero_iff.1 (by omega)
    subst hl
    have q22 : ∀ (W : World), (binOp .eql 22 (.slice none 0 c) (.slice none 0 0)).run Try.prog W = .ok (.bool true) W := fun W => Lib.run_eql_slice_nil W 22 9 none 0 c 0 0 Try.underlying22
    go_enter Try.func22, Try.ntmps22
    go_wp2
    go_ret
    exact ⟨_, rfl, Kd.R_nil _ _ _ _ _, Below.refl _ _⟩
  | some ad =>
    have q22 : ∀ (W : World), (binOp .eql 22 (.slice (some ad) l.length c) (.slice none 0 0)).run Try.prog W = .ok (.bool false) W := fun W => Lib.run_eql_slice_nil W 22 9 (some ad) l.length c 0 0 Try.underlying22
    go_enter Try.func22, Try.ntmps22
    go_wp2_with ((with_reducible refine gate_builtin (b := .append) (xs := #[.tmp 5, .tmp 6]) rfl ?_); at_builtin; refine Kd.R_append_rows Kd.string (w0 := w) w.heap.size rfl (.tmp 5) (.tmp 6) 22 9 (.string ⟨#[]⟩) 16 rfl Try.underlying22 info9 rfl (by decide) (by decide) _ ([] : List ByteArray) l (some ad) l.length c (fun _ => True) (fun _ => False) rfl rfl (R_emptyblk _ _ _ _ (Nat.le_refl _)) (Kd.C_alloc hC _) (fun x cs h => h) (fun k h => h.elim) (fun _ _ => trivial) ((Below.refl _ w).alloc (Nat.le_refl _) _) (by simp) (by (try simp); omega) ?_; intro v1 w1 hR1 hB1 hg1 hat1; obtain ⟨a1, q1, rfl⟩ := Kd.R_slice hR1)
    go_ret
    exact ⟨_, rfl, by simpa using hR1, hB1⟩
def slices_Clone_string_string.f (l0 : List ByteArray) : Option (List ByteArray) := if l0.length ≤ 100000 then some l0 else none
theorem slices_Clone_string_string.calls (A0 : Option Addr) (c0 : Nat) (l0 : List ByteArray) (r : List ByteArray) (w : World) (hr0 : Kd.C Kd.string w A0 l0.length l0) (hc0 : l0.length ≤ c0) (h : slices_Clone_string_string.f l0 = some r) :
    Calls Try.prog 22 #[.slice A0 l0.length c0] w fun e w' => ∃ v, e = .returned v ∧ Kd.R Kd.string 9 w' w.heap.size (fun _ => True) v r ∧ Below w.heap.size w w' := by
  unfold slices_Clone_string_string.f at h
  by_cases hc : l0.length ≤ 100000
  · rw [if_pos hc] at h
    cases h
    exact clone_on w A0 c0 l0 hr0 hc0 hc
  · rw [if_neg hc] at h; cases h
end Go.Proofs.Ytlkmidginogehaa.Ext
