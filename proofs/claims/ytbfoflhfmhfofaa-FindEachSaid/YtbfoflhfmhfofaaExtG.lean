/- slices.Grow at nil, slices.Concat of three rows, Reverse: []Pos. -/
import Derived.Test.YtbfoflhfmhfofaaExtR
import Derived.Test.YtbfoflhfmhfofaaWZeros
set_option linter.unusedVariables false
set_option linter.unusedSimpArgs false
namespace Go.Proofs.Ytbfoflhfmhfofaa.Ext
open Go.RowKit Go.Proofs Go.Proofs.YtbfoflhfmhfofaaW.PrintWords Go.Proofs.YtbfoflhfmhfofaaW.PrintLast Go.Proofs.YtbfoflhfmhfofaaW.PrintMore
attribute [local go_sem] max2_int min2_int max_two min_two max_three min_three max_four min_four

theorem w64 {z : Int} (h0 : -9223372036854775808 ≤ z) (h1 : z ≤ 9223372036854775807) : wrap64 z = z := by
  unfold wrap64; omega
theorem rev_loop : ∀ (k : Nat) (A M C : List S28) (x2 x3 : Int), M.length ≤ 2 * k + 1 → x2 = A.length → x3 = (A.length : Int) + M.length - 1 → A.length + M.length + C.length ≤ 100000 → api_Pos_26.l0 (k + 1) (A ++ (M ++ C)) x2 x3 = some (A ++ (M.reverse ++ C)) := by
  intro k
  induction k with
  | zero =>
    intro A M C x2 x3 hM h2 h3 hn
    unfold api_Pos_26.l0
    rw [if_neg (by omega)]
    match M, hM with
    | [], _ => rfl
    | [a], _ => rfl
  | succ k ih =>
    intro A M C x2 x3 hM h2 h3 hn
    by_cases hs : M.length ≤ 1
    · unfold api_Pos_26.l0
      rw [if_neg (by omega)]
      match M, hs with
      | [], _ => rfl
      | [a], _ => rfl
    · obtain ⟨a, M1, rfl⟩ : ∃ a M1, M = a :: M1 := by
        cases M with
        | nil => simp at hs
        | cons a M1 => exact ⟨a, M1, rfl⟩
      obtain ⟨M2, b, rfl⟩ : ∃ M2 b, M1 = M2 ++ [b] := by
        rcases List.eq_nil_or_concat M1 with h | ⟨M2, b, h⟩
        · subst h; simp at hs
        · exact ⟨M2, b, by simpa using h⟩
      simp only [List.length_cons, List.length_append, List.length_nil] at hM h3 hn hs
      have hlen : (A ++ (a :: (M2 ++ [b]) ++ C)).length = A.length + (M2.length + 2) + C.length := by simp; omega
      unfold api_Pos_26.l0
      rw [if_pos (by omega), if_pos (by omega), if_pos (by rw [hlen]; omega), if_pos (by omega), if_pos (by rw [hlen]; omega)]
      have e2 : x2.toNat = A.length := by omega
      have e3 : x3.toNat = A.length + (M2.length + 1) := by omega
      have r2 : rd_T28 (A ++ (a :: (M2 ++ [b]) ++ C)) x2 = a := by unfold rd_T28; rw [e2]; simp [List.getD_eq_getElem?_getD]
      have r3 : rd_T28 (A ++ (a :: (M2 ++ [b]) ++ C)) x3 = b := by
        unfold rd_T28; rw [e3, List.getD_eq_getElem?_getD, List.getElem?_append_right (by omega)]
        simp
      rw [r2, r3, e2, e3]
      have hset : ((A ++ (a :: (M2 ++ [b]) ++ C)).set A.length b).set (A.length + (M2.length + 1)) a = (A ++ [b]) ++ (M2 ++ ([a] ++ C)) := by
        rw [List.set_append_right _ _ (by omega), List.set_append_right _ _ (by omega)]
        simp
      show api_Pos_26.l0 (k + 1) (((A ++ (a :: (M2 ++ [b]) ++ C)).set A.length b).set (A.length + (M2.length + 1)) a) _ _ = _
      rw [hset, w64 (by omega) (by omega), w64 (by omega) (by omega), ih (A ++ [b]) M2 ([a] ++ C) _ _ (by omega) (by simp; omega) (by simp; omega) (by simp; omega)]
      simp

theorem reverse_is (l : List S28) (hl : l.length ≤ 100000) : ∃ k, api_Pos_26.f k l = some l.reverse := by
  refine ⟨l.length + 1, ?_⟩
  unfold api_Pos_26.f
  have := rev_loop l.length [] l [] 0 (wrap64 ((l.length : Int) - 1)) (by omega) rfl (by rw [w64 (by omega) (by omega)]; simp) (by simp; omega)
  simpa using this

set_option maxRecDepth 100000 in
set_option maxHeartbeats 2000000 in
theorem grow_nil (w : World) (m : Nat) (hm : m ≤ 100000) :
    Calls Try.prog 39 #[.slice none 0 0, .int .i64 (m : Int)] w fun e w' => ∃ v, e = .returned v ∧ k28.R 28 w' w.heap.size (fun _ => True) v [] ∧ Below w.heap.size w w' := by
  by_cases h0 : m = 0
  · subst h0
    go_enter Try.func39, Try.ntmps39
    go_wp2
    go_ret
    exact ⟨_, rfl, Kd.R_nil _ _ _ _ _, Below.refl _ _⟩
  · have hp : decide ((m : Int) > 0) = true := by simp; omega
    have hp2 : 0 < m := by omega
    go_enter Try.func39, Try.ntmps39
    go_wp2_with ((with_reducible refine gate_builtin (b := .append) (xs := #[.tmp 20, .tmp 21]) rfl ?_); at_builtin; refine Kd.R_append_zeros k28 (w0 := w) w.heap.size rfl (.tmp 20) (.tmp 21) 25 3 28 (.agg #[.int .i64 0, .int .i64 0]) 16 rfl Try.underlying25 Try.underlying3 info28 rfl (by decide) (by decide) (.slice none 0 0) ([] : List S28) z28 (m : Int) (fun _ => True) rfl rfl (k28_mkM _ _ _ z28) (fun _ _ => trivial) (Kd.R_nil _ _ _ _ _) (by omega) (Below.refl _ _) (Nat.le_refl _) (by simp; omega) ?_; intro v1 w1 hR hB hg hat; obtain ⟨g, cap, rfl, hgb, hgl, _⟩ := Kd.R_form hR (by simp; omega); have hcap := (Kd.R_reads' hR).2.1; simp only [List.nil_append, List.length_replicate] at hcap; have hR0 := Kd.R_take (m := 0) hR (Nat.zero_le _))
    go_ret
    exact ⟨_, rfl, hR0, hB⟩

theorem seg3 (g : Nat) (A1 A2 A3 : Option Addr) (n1 n2 n3 c1 c2 c3 : Nat) (w : World) (hg : w.heap[g]? = some (.cells #[.slice A1 n1 c1, .slice A2 n2 c2, .slice A3 n3 c3] 25 (0, 0))) :
    w.cell? ⟨g, 0, none⟩ = some (.slice A1 n1 c1) ∧ w.cell? ⟨g, 1, none⟩ = some (.slice A2 n2 c2) ∧ w.cell? ⟨g, 2, none⟩ = some (.slice A3 n3 c3) := by
  refine ⟨?_, ?_, ?_⟩ <;> simp [World.cell?, hg]

set_option maxRecDepth 100000 in
set_option maxHeartbeats 2000000 in
theorem concat3 (w : World) (g : Nat) (A1 A2 A3 : Option Addr) (c1 c2 c3 : Nat) (l1 l2 l3 : List S28) (hg : w.heap[g]? = some (.cells #[.slice A1 l1.length c1, .slice A2 l2.length c2, .slice A3 l3.length c3] 25 (0, 0)))
    (h1 : k28.C w A1 l1.length l1) (h2 : k28.C w A2 l2.length l2) (h3 : k28.C w A3 l3.length l3) (k1 : l1.length ≤ c1) (k2 : l2.length ≤ c2) (k3 : l3.length ≤ c3) (hn : l1.length + l2.length + l3.length ≤ 100000) :
    Calls Try.prog 27 #[.slice (some ⟨g, 0, none⟩) 3 3] w fun e w' => ∃ v, e = .returned v ∧ k28.R 28 w' w.heap.size (fun _ => True) v (l1 ++ l2 ++ l3) ∧ Below w.heap.size w w' := by
  obtain ⟨s0, s1, s2⟩ := seg3 g A1 A2 A3 _ _ _ c1 c2 c3 w hg
  go_enter Try.func27, Try.ntmps27
  go_wp2
  go_loopw [3, 11] (fun v u wr => w = wr ∧ ((v = .int .i64 0 ∧ u = .int .i64 0) ∨ (v = .int .i64 l1.length ∧ u = .int .i64 1) ∨ (v = .int .i64 ((l1.length : Int) + l2.length) ∧ u = .int .i64 2) ∨ (v = .int .i64 ((l1.length : Int) + l2.length + l3.length) ∧ u = .int .i64 3)))
    (fun _ u _ => 4 - (intOf u).toNat)
  case atStart => exact ⟨rfl, .inl ⟨rfl, rfl⟩⟩
  case round =>
    obtain ⟨rfl, ⟨rfl, rfl⟩ | ⟨rfl, rfl⟩ | ⟨rfl, rfl⟩ | ⟨rfl, rfl⟩⟩ := hrel
    · go_wp2
      exact ⟨⟨trivial, .inr (.inl ⟨rfl, rfl⟩)⟩, by decide⟩
    · go_wp2
      exact ⟨⟨trivial, .inr (.inr (.inl ⟨rfl, rfl⟩))⟩, by decide⟩
    · go_wp2
      exact ⟨⟨trivial, .inr (.inr (.inr ⟨rfl, rfl⟩))⟩, by decide⟩
    · have hgr := grow_nil w (l1.length + l2.length + l3.length) hn
      simp only [Int.natCast_add] at hgr
      go_wp2_with (go_at_call 39; refine hgr.mono ?_; clear hgr; rintro e W1 ⟨v0, rfl, hR0, hB0⟩; obtain ⟨a0, q0, rfl⟩ := Kd.R_slice hR0)
      go_loopw [6, 27] (fun v u W => Below w.heap.size w W ∧ ∃ a q xs, v = .slice a xs.length q ∧ k28.R 28 W w.heap.size (fun _ => True) (.slice a xs.length q) xs ∧ (([] = xs ∧ u = .int .i64 0) ∨ (l1 = xs ∧ u = .int .i64 1) ∨ (l1 ++ l2 = xs ∧ u = .int .i64 2) ∨ (l1 ++ l2 ++ l3 = xs ∧ u = .int .i64 3)))
        (fun _ u _ => 4 - (intOf u).toNat)
      case atStart => exact ⟨hB0, a0, q0, [], rfl, hR0, .inl ⟨rfl, rfl⟩⟩
      case round =>
        clear hB0 hR0 s0 s1 s2
        obtain ⟨hB, a, q, xs, rfl, hR, h4⟩ := hrel
        have hKM : ∀ (X : World) (x : S28) (cs : List Value), k28.K X x cs → k28.M X w.heap.size (fun _ => False) x cs := fun X x cs h => by have := k28_open h; subst this; exact k28_mkM _ _ _ _
        obtain ⟨s0, s1, s2⟩ := seg3 g A1 A2 A3 _ _ _ c1 c2 c3 _ ((hB.block g (Array.getElem?_eq_some_iff.1 hg).1).trans hg)
        rcases h4 with ⟨rfl, rfl⟩ | ⟨rfl, rfl⟩ | ⟨rfl, rfl⟩ | ⟨rfl, rfl⟩
        · go_wp2_with ((with_reducible refine gate_builtin (b := .append) (xs := #[.tmp 31, .tmp 32]) rfl ?_); at_builtin; refine Kd.R_append_rows k28 (w0 := w) w.heap.size rfl (.tmp 31) (.tmp 32) 25 28 (.agg #[.int .i64 0, .int .i64 0]) 16 rfl Try.underlying25 info28 rfl (by decide) (by decide) _ (([] : List S28)) l1 A1 l1.length c1 (fun _ => True) (fun _ => False) rfl rfl hR (Kd.C_below h1 hB) (fun x cs h => by have := k28_open h; subst this; exact k28_mkM _ _ _ _) (fun k h => h.elim) (fun _ _ => trivial) hB hB.size (by (try simp); omega) ?_; intro v1 w1 hR1 hB1 hg1 hat1; obtain ⟨a1, q1, rfl⟩ := Kd.R_slice hR1)
          exact ⟨⟨hB1, a1, q1, l1, by simp, by simpa using hR1, .inr (.inl ⟨rfl, rfl⟩)⟩, by decide⟩
        · go_wp2_with ((with_reducible refine gate_builtin (b := .append) (xs := #[.tmp 31, .tmp 32]) rfl ?_); at_builtin; refine Kd.R_append_rows k28 (w0 := w) w.heap.size rfl (.tmp 31) (.tmp 32) 25 28 (.agg #[.int .i64 0, .int .i64 0]) 16 rfl Try.underlying25 info28 rfl (by decide) (by decide) _ (l1) l2 A2 l2.length c2 (fun _ => True) (fun _ => False) rfl rfl hR (Kd.C_below h2 hB) (fun x cs h => by have := k28_open h; subst this; exact k28_mkM _ _ _ _) (fun k h => h.elim) (fun _ _ => trivial) hB hB.size (by (try simp); omega) ?_; intro v1 w1 hR1 hB1 hg1 hat1; obtain ⟨a1, q1, rfl⟩ := Kd.R_slice hR1)
          exact ⟨⟨hB1, a1, q1, _, by simp, hR1, .inr (.inr (.inl ⟨rfl, rfl⟩))⟩, by decide⟩
        · go_wp2_with ((with_reducible refine gate_builtin (b := .append) (xs := #[.tmp 31, .tmp 32]) rfl ?_); at_builtin; refine Kd.R_append_rows k28 (w0 := w) w.heap.size rfl (.tmp 31) (.tmp 32) 25 28 (.agg #[.int .i64 0, .int .i64 0]) 16 rfl Try.underlying25 info28 rfl (by decide) (by decide) _ (l1 ++ l2) l3 A3 l3.length c3 (fun _ => True) (fun _ => False) rfl rfl hR (Kd.C_below h3 hB) (fun x cs h => by have := k28_open h; subst this; exact k28_mkM _ _ _ _) (fun k h => h.elim) (fun _ _ => trivial) hB hB.size (by (try simp); omega) ?_; intro v1 w1 hR1 hB1 hg1 hat1; obtain ⟨a1, q1, rfl⟩ := Kd.R_slice hR1)
          exact ⟨⟨hB1, a1, q1, l1 ++ l2 ++ l3, by simp [Nat.add_assoc], by simpa [Nat.add_assoc] using hR1, .inr (.inr (.inr ⟨rfl, rfl⟩))⟩, by decide⟩
        · go_wp2
          go_ret
          exact ⟨_, rfl, hR, hB⟩
end Go.Proofs.Ytbfoflhfmhfofaa.Ext
