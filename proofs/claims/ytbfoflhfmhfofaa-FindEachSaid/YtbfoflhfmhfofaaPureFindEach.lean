/- FindEach: searches, one by one, go through all places in order, round and round; for all texts that the statement speaks of. -/
import Derived.Test.YtbfoflhfmhfofaaMFindEachx4
import Derived.KernelRfl
import Derived.Lib.Strings
import Derived.OpenShut
set_option linter.unusedVariables false
set_option linter.unusedSimpArgs false
namespace Go.Proofs.Ytbfoflhfmhfofaa.Pure
open Go.RowKit Go.Proofs.Ytbfoflhfmhfofaa.Out Go.Proofs.Ytbfoflhfmhfofaa.MFindEach Go.Proofs.YtbfoflhfmhfofaaW.PrintWords Go.Proofs.YtbfoflhfmhfofaaW.PrintLast Go.Proofs.YtbfoflhfmhfofaaW.PrintMore

/-- how many bytes the lines have -/
def total : List ByteArray → Nat
  | [] => 0
  | s :: r => s.size + total r
theorem total_mem : ∀ {l : List ByteArray} {s : ByteArray}, s ∈ l → s.size ≤ total l
  | y :: r, s, h => by
    rcases List.mem_cons.1 h with h | h
    · subst h; simp [total]
    · have := total_mem h; simp [total]; omega
  | [], s, h => by simp at h

theorem rdOf_nat (l : List ByteArray) (i : Nat) (h : i < l.length) : rdOf ByteArray.empty l (i : Int) = l[i] := by
  unfold rdOf; rw [Int.toNat_natCast, List.getD_eq_getElem?_getD, List.getElem?_eq_getElem h]; rfl

theorem light_line (l : List ByteArray) (i : Nat) (hi : i < l.length) (hl : l.length ≤ 40) (n : Int) (Q : Prop) (B : Nat) (hs : l[i].size ≤ 1200)
    (next : ∀ k, B ≤ k → ∃ b, foolscaphelp_Light.l0 k l n ((i + 1 : Nat) : Int) = some b ∧ (b = true → Q)) (d : Nat) :
    ∀ (k j : Nat), j ≤ l[i].size → l[i].size - j = d → B + d + 1 ≤ k → ∃ b, foolscaphelp_Light.l1 k l n i j = some b ∧ (b = true → Q) := by
  have hw : wrap64 ((i : Int) + 1) = ((i + 1 : Nat) : Int) := by unfold wrap64; omega
  have hr := rdOf_nat l i hi
  induction d with
  | zero =>
    intro k j hj hd hk
    obtain ⟨k, rfl⟩ : ∃ m, k = m + 1 := ⟨k - 1, by omega⟩
    simp only [foolscaphelp_Light.l1, hr]
    rw [if_pos (by omega), if_pos (by omega), if_neg (by omega), hw]
    exact next k (by omega)
  | succ d ih =>
    intro k j hj hd hk
    obtain ⟨k, rfl⟩ : ∃ m, k = m + 1 := ⟨k - 1, by omega⟩
    have hw' : wrap64 ((j : Int) + 1) = ((j + 1 : Nat) : Int) := by unfold wrap64; omega
    simp only [foolscaphelp_Light.l1, hr]
    rw [if_pos (by omega), if_pos (by omega), if_pos (by omega), if_pos (by omega), hw']
    split
    · exact ⟨false, rfl, fun h => by cases h⟩
    · exact ih k (j + 1) (by omega) (by omega) (by omega)

theorem light_loop (l : List ByteArray) (hl : l.length ≤ 40) (hs : ∀ s ∈ l, s.size ≤ 140737488351232) (d : Nat) :
    ∀ (k n i : Nat), i ≤ l.length → l.length - i = d → n ≤ 1200 → 2 * d + (1200 - n) + 1 ≤ k →
    ∃ b, foolscaphelp_Light.l0 k l n i = some b ∧ (b = true → n + total (l.drop i) ≤ 1200) := by
  induction d with
  | zero =>
    intro k n i hi hd hn hk
    obtain ⟨k, rfl⟩ : ∃ m, k = m + 1 := ⟨k - 1, by omega⟩
    refine ⟨true, ?_, fun _ => ?_⟩
    · simp only [foolscaphelp_Light.l0]; rw [if_neg (by omega)]
    · rw [List.drop_eq_nil_of_le (by omega)]; simp [total]; omega
  | succ d ih =>
    intro k n i hi hd hn hk
    obtain ⟨k, rfl⟩ : ∃ m, k = m + 1 := ⟨k - 1, by omega⟩
    have hi' : i < l.length := by omega
    have hr := rdOf_nat l i hi'
    have hz := hs l[i] (List.getElem_mem hi')
    have hw : wrap64 ((n : Int) + (l[i].size : Int)) = ((n + l[i].size : Nat) : Int) := by unfold wrap64; omega
    have ht : total (l.drop i) = l[i].size + total (l.drop (i + 1)) := by rw [List.drop_eq_getElem_cons hi']; rfl
    simp only [foolscaphelp_Light.l0, hr]
    rw [if_pos (by omega), if_pos (by omega), hw]
    by_cases hb : n + l[i].size > 1200
    · rw [if_pos (by omega)]
      exact ⟨false, rfl, fun h => by cases h⟩
    · rw [if_neg (by omega)]
      rw [ht]
      refine light_line l i hi' hl _ _ (2 * d + (1200 - (n + l[i].size)) + 1) (by omega) (fun k' hk' => ?_) l[i].size k 0 (by omega) (by omega) (by omega)
      obtain ⟨b, h1, h2⟩ := ih k' (n + l[i].size) (i + 1) (by omega) (by omega) (by omega) hk'
      exact ⟨b, h1, fun h => by have := h2 h; omega⟩

theorem Light_val (k : Nat) (l : List ByteArray) (hk : 1281 ≤ k) (hs : ∀ s ∈ l, s.size ≤ 140737488351232) :
    ∃ b, foolscaphelp_Light.f k l = some b ∧ (b = true → l.length ≤ 40 ∧ total l ≤ 1200) := by
  unfold foolscaphelp_Light.f
  by_cases hl : l.length ≤ 40
  · rw [if_neg (by omega)]
    obtain ⟨b, h1, h2⟩ := light_loop l hl hs l.length k 0 0 (by omega) (by omega) (by omega) (by omega)
    exact ⟨b, h1, fun h => ⟨hl, by have := h2 h; simpa using this⟩⟩
  · rw [if_pos (by omega)]
    exact ⟨false, rfl, fun h => by cases h⟩

theorem Text_val (k : Nat) (l : List ByteArray) (hk : 1281 ≤ k) (hs : ∀ s ∈ l, s.size ≤ 140737488351232) :
    ∃ b, foolscaphelp_Text.f k l = some b ∧ (b = true → 0 < l.length ∧ l.length ≤ 40 ∧ total l ≤ 1200) := by
  unfold foolscaphelp_Text.f
  by_cases h : (l.length : Int) > 0
  · rw [if_pos h]
    obtain ⟨b, h1, h2⟩ := Light_val k l hk hs
    refine ⟨b, ?_, fun e => ⟨by omega, h2 e⟩⟩
    rw [h1]; try rfl
  · rw [if_neg h]
    exact ⟨false, rfl, fun e => by cases e⟩

open Go.Proofs.Ytbfoflhfmhfofaa.Ext (ofC isW fwd bck upw wordR placeB fwd_go fwd_stop bck_go bck_stop upw_go upw_stop isW_in)
theorem rd_size (l : List ByteArray) (hs : ∀ s ∈ l, s.size ≤ 1200) (i : Int) : (rdOf ByteArray.empty l i).size ≤ 1200 := by
  unfold rdOf
  rw [List.getD_eq_getElem?_getD]
  cases h : l[i.toNat]? with
  | none => simp
  | some s => exact hs s (List.mem_of_getElem? h)


theorem known12_val : foolscaplaw12_known.f = some true := by kernel_rfl

theorem isW_at {s : ByteArray} {i : Int} (h0 : 0 ≤ i) (h1 : i < (s.size : Int)) : isW s i = true ↔ ofC (bt s i) false = 1 := by
  unfold isW; simp [h0, h1]
/-- what is told of a word that begins at i -/
def wordV (s : ByteArray) (p0 i : Int) : Int × Int × ByteArray × Bool := if i ≥ (s.size : Int) then (0, 0, (⟨#[]⟩ : ByteArray), false) else (p0, i, s.extract i.toNat (upw s s.size i).toNat, true)

theorem fwd_spec (s : ByteArray) : ∀ (n : Nat) (i : Int), (s.size : Int) - i ≤ n → (fwd s n i ≥ s.size ∨ isW s (fwd s n i) = true) ∧ (fwd s n i = i ∨ isW s (fwd s n i - 1) = false) := by
  intro n
  induction n with
  | zero => intro i h; exact ⟨.inl (by show i ≥ _; omega), .inl rfl⟩
  | succ n ih =>
    intro i h
    by_cases hc : i < (s.size : Int) ∧ isW s i = false
    · rw [fwd_go hc.1 hc.2]
      obtain ⟨h1, h2⟩ := ih (i + 1) (by omega)
      refine ⟨h1, .inr ?_⟩
      rcases h2 with h2 | h2
      · rw [h2, Int.add_sub_cancel]; exact hc.2
      · exact h2
    · rw [fwd_stop hc]
      refine ⟨?_, .inl rfl⟩
      by_cases hl : i < (s.size : Int)
      · right; cases hw : isW s i with
        | true => rfl
        | false => exact absurd ⟨hl, hw⟩ hc
      · left; omega
theorem bck_le (s : ByteArray) : ∀ (n : Nat) (i : Int), bck s n i ≤ i := by
  intro n
  induction n with
  | zero => intro i; exact Int.le_refl _
  | succ n ih =>
    intro i
    by_cases h : isW s (i - 1) = true
    · rw [bck_go h]; have := ih (i - 1); omega
    · rw [bck_stop (by simpa using h)]; exact Int.le_refl _

theorem total_sum : ∀ (l : List ByteArray), (l.map ByteArray.size).sum = total l
  | [] => rfl
  | s :: r => by simp [total, total_sum r]
theorem Word_val (l : List ByteArray) (ht : total l ≤ 1200) (a b : Int) : find_Word.f l a b = some (wordR l a b) := by
  show (if _ then _ else _) = _
  rw [if_pos (by rw [total_sum]; omega)]

open Go.Proofs.Ytbfoflhfmhfofaa.Ext (lessB placeB toS aheadL behindL ownL seeL searchR)
def ltP (x y : Nat × Nat) : Prop := x.1 < y.1 ∨ (x.1 = y.1 ∧ x.2 < y.2)
theorem less_t {a0 a1 b0 b1 : Int} : lessB a0 a1 b0 b1 = true ↔ a0 < b0 ∨ (a0 = b0 ∧ a1 < b1) := by unfold lessB; exact decide_eq_true_iff
theorem less_f {a0 a1 b0 b1 : Int} : lessB a0 a1 b0 b1 = false ↔ ¬ (a0 < b0 ∨ (a0 = b0 ∧ a1 < b1)) := by unfold lessB; exact decide_eq_false_iff_not
/-- in order: what isn't behind p is ahead of it, then p itself -/
theorem not_behind (p0 p1 : Int) : ∀ (xs : List (Nat × Nat)), xs.Pairwise ltP →
    xs.filter (fun x => !lessB p0 p1 x.1 x.2) = xs.filter (fun x => lessB x.1 x.2 p0 p1) ++ xs.filter (fun x => !lessB x.1 x.2 p0 p1 && !lessB p0 p1 x.1 x.2)
  | [], _ => rfl
  | x :: xs, h => by
    obtain ⟨h1, h2⟩ := List.pairwise_cons.1 h
    have ih := not_behind p0 p1 xs h2
    cases hl : lessB x.1 x.2 p0 p1 with
    | true =>
      have hr : lessB p0 p1 x.1 x.2 = false := by rw [less_f]; rw [less_t] at hl; omega
      rw [List.filter_cons_of_pos (by simp [hr]), List.filter_cons_of_pos (by simp [hl]), List.filter_cons_of_neg (by simp [hl]), ih]; rfl
    | false =>
      have hn : ∀ y ∈ xs, lessB y.1 y.2 p0 p1 = false := fun y hy => by have := h1 y hy; unfold ltP at this; rw [less_f] at hl ⊢; omega
      have e1 : (x :: xs).filter (fun x => lessB x.1 x.2 p0 p1) = [] := by
        rw [List.filter_eq_nil_iff]; intro y hy
        rcases List.mem_cons.1 hy with rfl | hy
        · simp [hl]
        · simp [hn y hy]
      rw [e1, List.nil_append]
      refine List.filter_congr fun y hy => ?_
      rcases List.mem_cons.1 hy with rfl | hy
      · simp [hl]
      · simp [hn y hy]
theorem not_ahead (p0 p1 : Int) : ∀ (xs : List (Nat × Nat)), xs.Pairwise ltP →
    xs.filter (fun x => !lessB x.1 x.2 p0 p1) = xs.filter (fun x => !lessB x.1 x.2 p0 p1 && !lessB p0 p1 x.1 x.2) ++ xs.filter (fun x => !lessB x.1 x.2 p0 p1 && lessB p0 p1 x.1 x.2)
  | [], _ => rfl
  | x :: xs, h => by
    obtain ⟨h1, h2⟩ := List.pairwise_cons.1 h
    have ih := not_ahead p0 p1 xs h2
    cases hl : lessB x.1 x.2 p0 p1 with
    | true => rw [List.filter_cons_of_neg (by simp [hl]), List.filter_cons_of_neg (by simp [hl]), List.filter_cons_of_neg (by simp [hl]), ih]
    | false =>
      cases hr : lessB p0 p1 x.1 x.2 with
      | false => rw [List.filter_cons_of_pos (by simp [hl]), List.filter_cons_of_pos (by simp [hl, hr]), List.filter_cons_of_neg (by simp [hr]), ih]; rfl
      | true =>
        have hn : ∀ y ∈ xs, lessB p0 p1 y.1 y.2 = true := fun y hy => by have := h1 y hy; unfold ltP at this; rw [less_t] at hr ⊢; omega
        have e1 : (x :: xs).filter (fun x => !lessB x.1 x.2 p0 p1 && !lessB p0 p1 x.1 x.2) = [] := by
          rw [List.filter_eq_nil_iff]; intro y hy
          rcases List.mem_cons.1 hy with rfl | hy
          · simp [hr]
          · simp [hn y hy]
        rw [e1, List.nil_append]
        refine List.filter_congr fun y hy => ?_
        rcases List.mem_cons.1 hy with rfl | hy
        · simp [hr]
        · simp [hn y hy]
theorem own_one (p0 p1 : Int) (xs : List (Nat × Nat)) (h : xs.Pairwise ltP) : (xs.filter fun x => !lessB x.1 x.2 p0 p1 && !lessB p0 p1 x.1 x.2).reverse = xs.filter fun x => !lessB x.1 x.2 p0 p1 && !lessB p0 p1 x.1 x.2 := by
  have hp := h.filter (fun x => !lessB x.1 x.2 p0 p1 && !lessB p0 p1 x.1 x.2)
  have hm : ∀ y ∈ xs.filter (fun x => !lessB x.1 x.2 p0 p1 && !lessB p0 p1 x.1 x.2), (y.1 : Int) = p0 ∧ (y.2 : Int) = p1 := fun y hy => by
    have := (List.mem_filter.1 hy).2
    simp only [Bool.and_eq_true, Bool.not_eq_true'] at this
    rw [less_f, less_f] at this; omega
  revert hp hm
  generalize xs.filter (fun x => !lessB x.1 x.2 p0 p1 && !lessB p0 p1 x.1 x.2) = zs
  intro hp hm
  match zs, hp, hm with
  | [], _, _ => rfl
  | [a], _, _ => rfl
  | a :: b :: r, hp, hm =>
    exfalso
    have h1 := (List.pairwise_cons.1 hp).1 b (by simp)
    have h2 := hm a (by simp)
    have h3 := hm b (by simp)
    unfold ltP at h1; omega
/-- at the m-th place: those ahead, those behind, itself -/
theorem at_ahead (xs : List (Nat × Nat)) (h : xs.Pairwise ltP) (m : Nat) (hm : m < xs.length) : xs.filter (fun x => lessB x.1 x.2 (xs[m].1 : Int) (xs[m].2 : Int)) = xs.take m := by
  have hp := List.pairwise_iff_getElem.1 h
  refine (congrArg (List.filter _) (List.take_append_drop m xs).symm).trans ?_
  rw [List.filter_append, List.filter_eq_self.2, List.filter_eq_nil_iff.2, List.append_nil]
  · intro y hy
    obtain ⟨i, hi, rfl⟩ := List.mem_iff_getElem.1 hy
    rw [List.getElem_drop]
    rw [Bool.not_eq_true, less_f]
    by_cases h0 : i = 0
    · subst h0; simp
    · have := hp m (m + i) hm (by simp at hi; omega) (by omega); unfold ltP at this; omega
  · intro y hy
    obtain ⟨i, hi, rfl⟩ := List.mem_iff_getElem.1 hy
    rw [List.getElem_take]
    rw [less_t]
    have := hp i m (by simp at hi; omega) hm (by simp at hi; omega); unfold ltP at this; omega
theorem at_behind (xs : List (Nat × Nat)) (h : xs.Pairwise ltP) (m : Nat) (hm : m < xs.length) : xs.filter (fun x => !lessB x.1 x.2 (xs[m].1 : Int) (xs[m].2 : Int) && lessB (xs[m].1 : Int) (xs[m].2 : Int) x.1 x.2) = xs.drop (m + 1) := by
  have hp := List.pairwise_iff_getElem.1 h
  refine (congrArg (List.filter _) (List.take_append_drop (m + 1) xs).symm).trans ?_
  rw [List.filter_append, List.filter_eq_nil_iff.2, List.filter_eq_self.2, List.nil_append]
  · intro y hy
    obtain ⟨i, hi, rfl⟩ := List.mem_iff_getElem.1 hy
    rw [List.getElem_drop]
    rw [Bool.and_eq_true, Bool.not_eq_true', less_f, less_t]
    have := hp m (m + 1 + i) hm (by simp at hi; omega) (by omega); unfold ltP at this; omega
  · intro y hy
    obtain ⟨i, hi, rfl⟩ := List.mem_iff_getElem.1 hy
    rw [List.getElem_take]
    rw [Bool.not_eq_true, Bool.and_eq_false_iff]
    right
    rw [less_f]
    have hi2 : i < m + 1 := by simp at hi; omega
    by_cases h0 : i = m
    · subst h0; omega
    · have := hp i m (by omega) hm (by omega); unfold ltP at this; omega
theorem at_own (xs : List (Nat × Nat)) (h : xs.Pairwise ltP) (m : Nat) (hm : m < xs.length) : xs.filter (fun x => !lessB x.1 x.2 (xs[m].1 : Int) (xs[m].2 : Int) && !lessB (xs[m].1 : Int) (xs[m].2 : Int) x.1 x.2) = [xs[m]] := by
  have h1 := not_ahead (xs[m].1 : Int) (xs[m].2 : Int) xs h
  have h2 : xs.filter (fun x => !lessB x.1 x.2 (xs[m].1 : Int) (xs[m].2 : Int)) = xs.drop m := by
    have hp := List.pairwise_iff_getElem.1 h
    refine (congrArg (List.filter _) (List.take_append_drop m xs).symm).trans ?_
    rw [List.filter_append, List.filter_eq_nil_iff.2, List.filter_eq_self.2, List.nil_append]
    · intro y hy
      obtain ⟨i, hi, rfl⟩ := List.mem_iff_getElem.1 hy
      rw [List.getElem_drop]
      rw [Bool.not_eq_true', less_f]
      by_cases h0 : i = 0
      · subst h0; simp
      · have := hp m (m + i) hm (by simp at hi; omega) (by omega); unfold ltP at this; omega
    · intro y hy
      obtain ⟨i, hi, rfl⟩ := List.mem_iff_getElem.1 hy
      rw [List.getElem_take]
      rw [Bool.not_eq_true, Bool.not_eq_false', less_t]
      have := hp i m (by simp at hi; omega) hm (by simp at hi; omega); unfold ltP at this; omega
  rw [h2, at_behind xs h m hm, List.drop_eq_getElem_cons hm] at h1
  have h3 : [xs[m]] ++ xs.drop (m + 1) = _ ++ xs.drop (m + 1) := h1
  exact (List.append_cancel_right h3).symm

open Go.Proofs.Ytbfoflhfmhfofaa.Ext (occ lineTo come allOcc lineTo_succ)
def toP (x : Nat × Nat) : S28 := ⟨(x.1 : Int), (x.2 : Int)⟩
theorem occ_is (s p : ByteArray) (i : Nat) (hi : i ≤ s.size) : occ s p i = true ↔ i + p.size ≤ s.size ∧ (s.extract i (i + p.size)).toList = p.toList := by
  unfold occ
  rw [← Lib.hasPrefix_raw]
  have hz : (s.extract i s.size).size = s.size - i := by rw [ByteArray.size_extract]; omega
  by_cases h : i + p.size ≤ s.size
  · have he : (s.extract i s.size).extract 0 p.size = s.extract i (i + p.size) := by
      rw [ByteArray.extract_extract]; congr 1; omega
    simp [hz, h, he]
    intro; omega
  · simp [hz, h]
    intro h2; omega
theorem lineTo_rest (s p : ByteArray) (k i : Nat) (hp : s.size < i + p.size) (d : Nat) (hd : i + d ≤ s.size) : lineTo s p k (i + d) = lineTo s p k i := by
  induction d with
  | zero => rfl
  | succ d ih =>
    rw [← Nat.add_assoc, lineTo_succ, ih (by omega), if_neg (fun h => by have := (occ_is s p (i + d) (by omega)).1 h; omega), List.append_nil]
theorem acc_le (l : List ByteArray) (p : ByteArray) (ht : total l ≤ 1200) (j i : Nat) (hj : j < l.length) (hi : i ≤ (l.getD j ByteArray.empty).size) : (come l p j ++ lineTo (l.getD j ByteArray.empty) p j i).length ≤ 1200 := by
  have h1 := (Go.Proofs.Ytbfoflhfmhfofaa.Ext.come_prefix l p j i hj hi).length_le
  have h2 := Go.Proofs.Ytbfoflhfmhfofaa.Ext.come_length l p l.length (Nat.le_refl _)
  rw [List.take_length, total_sum] at h2
  omega
theorem wrap_nat (j : Nat) (h : j ≤ 100000) : wrap64 ((j : Int) + 1) = ((j + 1 : Nat) : Int) := by unfold wrap64; omega
theorem wrap_in {z : Int} (h : 0 ≤ z) (h1 : z ≤ 100000) : wrap64 z = z := by unfold wrap64; omega
theorem lt_lim {α : Type} (xs : List α) (h : xs.length ≤ 100000) : xs.length < 8796093022208 := Nat.lt_of_le_of_lt h (by decide)
theorem all_step (k : Nat) (l : List ByteArray) (p : ByteArray) (xs : List S28) (z i e : Int) (h0 : 0 ≤ z) (h1 : z < (l.length : Int)) (he : wrap64 (i + (p.size : Int)) = e) (h2 : e ≤ ((rdOf ByteArray.empty l z).size : Int)) (h3 : 0 ≤ i) (h4 : i ≤ e) (h5 : xs.length < 8796093022208) :
    foolscapref5_All.l1 (k + 1) l p xs z i = if ((rdOf ByteArray.empty l z).extract i.toNat e.toNat).toList = p.toList then foolscapref5_All.l1 k l p (xs ++ [(⟨z, i⟩ : S28)]) z (wrap64 (i + 1)) else foolscapref5_All.l1 k l p xs z (wrap64 (i + 1)) := by
  rw [foolscapref5_All.l1, he, if_pos h0, if_pos h1, if_pos h2, if_pos h3, if_pos h4, if_pos h5]
theorem acc_lim (l : List ByteArray) (p : ByteArray) (ht : total l ≤ 1200) (j i : Nat) (hj : j < l.length) (hi : i ≤ (l.getD j ByteArray.empty).size) : ((come l p j ++ lineTo (l.getD j ByteArray.empty) p j i).map toP).length < 8796093022208 :=
  lt_lim _ (by rw [List.length_map]; have := acc_le l p ht j i hj hi; omega)
theorem all_l1 (l : List ByteArray) (p : ByteArray) (ht : total l ≤ 1200) (hl : l.length ≤ 40) (hps : p.size ≤ 1200) (hpos : 0 < p.size) (j : Nat) (hj : j < l.length) (hsj : (l.getD j ByteArray.empty).size ≤ 1200) (R : Option (List S28)) (B : Nat)
    (hnext : ∀ k, B ≤ k → foolscapref5_All.l0 k l p ((come l p (j + 1)).map toP) ((j + 1 : Nat) : Int) = R) (n : Nat) : ∀ (k i : Nat) (z : Int), z = i → i ≤ (l.getD j ByteArray.empty).size → (l.getD j ByteArray.empty).size - i ≤ n → B + n + 2 ≤ k →
    foolscapref5_All.l1 k l p ((come l p j ++ lineTo (l.getD j ByteArray.empty) p j i).map toP) (j : Int) z = R := by
  have hrd : rdOf ByteArray.empty l (j : Int) = l.getD j ByteArray.empty := by unfold rdOf; rw [Int.toNat_natCast]
  have hout : ∀ (k i : Nat), B + 1 ≤ k → i ≤ (l.getD j ByteArray.empty).size → ¬ i + p.size ≤ (l.getD j ByteArray.empty).size → foolscapref5_All.l1 k l p ((come l p j ++ lineTo (l.getD j ByteArray.empty) p j i).map toP) (j : Int) (i : Int) = R := by
    intro k i hk hi h
    obtain ⟨k, rfl⟩ : ∃ m, k = m + 1 := ⟨k - 1, by omega⟩
    have n1 : (0 : Int) ≤ (j : Int) := by omega
    have n2 : (j : Int) < (l.length : Int) := by omega
    have n3 : ¬ (i : Int) + p.size ≤ ((l.getD j ByteArray.empty).size : Int) := by omega
    have n4 : B ≤ k := by omega
    have i1 : j ≤ 100000 := by omega
    have i2 : (0 : Int) ≤ (i : Int) + (p.size : Int) := by omega
    have i3 : (i : Int) + (p.size : Int) ≤ 100000 := by omega
    have n5 := (lineTo_rest (l.getD j ByteArray.empty) p j i (by omega) ((l.getD j ByteArray.empty).size - i) (by omega))
    have hwj : wrap64 ((j : Int) + 1) = ((j + 1 : Nat) : Int) := wrap_nat j i1
    have hw : wrap64 ((i : Int) + (p.size : Int)) = (i : Int) + p.size := wrap_in i2 i3
    rw [foolscapref5_All.l1, if_pos n1, if_pos n2, hrd, hw, if_neg n3, hwj]
    have hr := n5
    rw [Nat.add_sub_cancel' hi] at hr
    have hc : come l p (j + 1) = come l p j ++ lineTo (l.getD j ByteArray.empty) p j i := by rw [← hr]; rfl
    rw [← hc]
    exact hnext k n4
  induction n with
  | zero =>
    intro k i z hz hi hn hk
    subst hz
    by_cases h : i + p.size ≤ (l.getD j ByteArray.empty).size
    · exact absurd hpos (by omega)
    · exact hout k i (by omega) hi h
  | succ n ih =>
    intro k i z hz hi hn hk
    subst hz
    by_cases h : i + p.size ≤ (l.getD j ByteArray.empty).size
    · obtain ⟨k, rfl⟩ : ∃ m, k = m + 1 := ⟨k - 1, by omega⟩
      have q1 : (0 : Int) ≤ (j : Int) := by omega
      have q2 : (j : Int) < (l.length : Int) := by omega
      have q4 : (0 : Int) ≤ (i : Int) := by omega
      have q5 : (i : Int) ≤ ((i + p.size : Nat) : Int) := by omega
      have hwi2 : (l.getD j ByteArray.empty).size - (i + 1) ≤ n := by omega
      have := ih k (i + 1) _ rfl (by omega) hwi2 (by omega)
      have i1 : i ≤ 100000 := by omega
      have i2 : (0 : Int) ≤ (i : Int) + (p.size : Int) := by omega
      have i3 : (i : Int) + (p.size : Int) ≤ 100000 := by omega
      have hwi : wrap64 ((i : Int) + 1) = ((i + 1 : Nat) : Int) := wrap_nat i i1
      have hw : wrap64 ((i : Int) + (p.size : Int)) = ((i + p.size : Nat) : Int) := wrap_in i2 i3
      have q3 := Int.ofNat_le.2 h
      rw [← hrd] at q3
      have hst := all_step k l p ((come l p j ++ lineTo (l.getD j ByteArray.empty) p j i).map toP) (j : Int) (i : Int) ((i + p.size : Nat) : Int) q1 q2 hw q3 q4 q5 (acc_lim l p ht j i hj hi)
      rw [hst, hrd, Int.toNat_natCast, Int.toNat_natCast, hwi]
      rw [lineTo_succ] at this
      by_cases ho : occ (l.getD j ByteArray.empty) p i = true
      · rw [if_pos ((occ_is _ p i hi).1 ho).2]
        rw [if_pos ho, ← List.append_assoc, List.map_append] at this
        exact this
      · rw [if_neg (fun he => ho ((occ_is _ p i hi).2 ⟨h, he⟩))]
        rw [if_neg ho, List.append_nil] at this
        exact this
    · exact hout k i (by omega) hi h
theorem total_drop (l : List ByteArray) (j : Nat) (hj : j < l.length) : total (l.drop j) = (l.getD j ByteArray.empty).size + total (l.drop (j + 1)) := by
  rw [List.drop_eq_getElem_cons hj, List.getD_eq_getElem?_getD, List.getElem?_eq_getElem hj]; rfl
theorem all_l0 (l : List ByteArray) (p : ByteArray) (ht : total l ≤ 1200) (hl : l.length ≤ 40) (hps : p.size ≤ 1200) (hpos : 0 < p.size) (d : Nat) : ∀ (k j : Nat) (z : Int), z = j → j ≤ l.length → l.length - j = d → total (l.drop j) + 5 * d + 2 ≤ k →
    foolscapref5_All.l0 k l p ((come l p j).map toP) z = some ((come l p l.length).map toP) := by
  have hne : (p.toList != ([] : List UInt8)) = true := by
    have h : p.toList ≠ ([] : List UInt8) := fun h => by
      rw [ByteArray.toList_eq] at h
      have h5 : p.data.toList.length = 0 := by rw [h]; rfl
      have h6 : p.size = p.data.toList.length := by simp
      omega
    simpa using h
  induction d with
  | zero =>
    intro k j z hz hj hd hk
    obtain ⟨k, rfl⟩ : ∃ m, k = m + 1 := ⟨k - 1, by omega⟩
    obtain ⟨k, rfl⟩ : ∃ m, k = m + 1 := ⟨k - 1, by omega⟩
    have hjl : j = l.length := by omega
    rw [foolscapref5_All.l0, if_neg (by omega), foolscapref5_All.j1, if_neg (by decide), hjl]
  | succ d ih =>
    intro k j z hz hj hd hk
    obtain ⟨k, rfl⟩ : ∃ m, k = m + 1 := ⟨k - 1, by omega⟩
    obtain ⟨k, rfl⟩ : ∃ m, k = m + 1 := ⟨k - 1, by omega⟩
    have hjl : j < l.length := by omega
    have htd := total_drop l j hjl
    have hts : (l.getD j ByteArray.empty).size ≤ total l := by
      rw [List.getD_eq_getElem?_getD, List.getElem?_eq_getElem hjl]; exact total_mem (List.getElem_mem hjl)
    rw [foolscapref5_All.l0, if_pos (by omega), foolscapref5_All.j1, if_pos hne, hz]
    have := all_l1 l p ht hl hps hpos j hjl (by omega) (some ((come l p l.length).map toP)) (total (l.drop (j + 1)) + 5 * d + 2) (fun k' hk' => ih k' (j + 1) _ rfl (by omega) (by omega) hk') (l.getD j ByteArray.empty).size k 0 0 rfl (by omega) (by omega) (by omega)
    rw [show lineTo (l.getD j ByteArray.empty) p j 0 = [] from rfl, List.append_nil] at this
    exact this
theorem All_val (k : Nat) (hk : 1500 ≤ k) (l : List ByteArray) (p : ByteArray) (ht : total l ≤ 1200) (hl : l.length ≤ 40) (hps : p.size ≤ 1200) : foolscapref5_All.f k l p = some ((allOcc l p).map toP) := by
  unfold foolscapref5_All.f allOcc
  by_cases hz : p.size = 0
  · rw [if_pos hz]
    obtain ⟨k, rfl⟩ : ∃ m, k = m + 1 := ⟨k - 1, by omega⟩
    obtain ⟨k, rfl⟩ : ∃ m, k = m + 1 := ⟨k - 1, by omega⟩
    have hn : (p.toList != ([] : List UInt8)) = false := by
      have h : p.toList = ([] : List UInt8) := by rw [ByteArray.toList_eq]; simp; exact Array.size_eq_zero_iff.1 hz
      rw [h]; rfl
    rw [foolscapref5_All.l0, hn]
    have e : foolscapref5_All.j1 (k + 1) l p ([] : List S28) 0 false = some [] := by rw [foolscapref5_All.j1, if_neg (by decide)]
    rw [e]
    by_cases h : (0 : Int) < (l.length : Int)
    · rw [if_pos h]; rfl
    · rw [if_neg h]; rfl
  · rw [if_neg hz]
    exact all_l0 l p ht hl hps (by omega) l.length k 0 0 rfl (by omega) (by omega) (by simp; omega)

theorem come_in (l : List ByteArray) (p : ByteArray) : ∀ (k : Nat), ∀ x ∈ come l p k, x.1 < k
  | 0, x, h => by cases h
  | k + 1, x, h => by
    rcases List.mem_append.1 h with h | h
    · have := come_in l p k x h; omega
    · unfold lineTo at h
      obtain ⟨i, _, rfl⟩ := List.mem_map.1 h
      exact Nat.lt_succ_self k
theorem come_sorted (l : List ByteArray) (p : ByteArray) : ∀ (k : Nat), (come l p k).Pairwise ltP
  | 0 => List.Pairwise.nil
  | k + 1 => by
    show (come l p k ++ lineTo _ p k _).Pairwise ltP
    rw [List.pairwise_append]
    refine ⟨come_sorted l p k, ?_, fun x hx y hy => ?_⟩
    · unfold lineTo
      rw [List.pairwise_map]
      exact (List.pairwise_lt_range.filter _).imp (fun h => .inr ⟨rfl, h⟩)
    · have := come_in l p k x hx
      unfold lineTo at hy
      obtain ⟨i, _, rfl⟩ := List.mem_map.1 hy
      exact .inl this
theorem allOcc_sorted (l : List ByteArray) (p : ByteArray) : (allOcc l p).Pairwise ltP := by
  unfold allOcc
  split
  · exact List.Pairwise.nil
  · exact come_sorted l p _
theorem allOcc_le (l : List ByteArray) (p : ByteArray) (ht : total l ≤ 1200) : (allOcc l p).length ≤ 1200 := by
  have := Go.Proofs.Ytbfoflhfmhfofaa.Ext.allOcc_length l p
  rw [total_sum] at this; omega
theorem Search_val (l : List ByteArray) (ht : total l ≤ 1200) (hl : l.length ≤ 40) (p : ByteArray) (hp : p.size ≤ 1200) (a b : Int) (back : Bool) (n : Int) :
    find_Search.f l a b p back n = some (if n < 1 then (0, 0, 0, false, 0, false) else if placeB l a b = false then (0, 0, 0, false, 0, false) else searchR a b back n (allOcc l p)) := by
  show (if _ then _ else _) = _
  rw [if_pos (by rw [total_sum]; omega)]
/-- what is seen, in pairs -/
def seeN (p0 p1 : Int) (back : Bool) (xs : List (Nat × Nat)) : List (Nat × Nat) :=
  if back = true then (xs.filter fun x => lessB x.1 x.2 p0 p1).reverse ++ (xs.filter fun x => !lessB x.1 x.2 p0 p1 && lessB p0 p1 x.1 x.2).reverse ++ (xs.filter fun x => !lessB x.1 x.2 p0 p1 && !lessB p0 p1 x.1 x.2)
  else (xs.filter fun x => !lessB x.1 x.2 p0 p1 && lessB p0 p1 x.1 x.2) ++ (xs.filter fun x => lessB x.1 x.2 p0 p1) ++ (xs.filter fun x => !lessB x.1 x.2 p0 p1 && !lessB p0 p1 x.1 x.2)
theorem seeL_is (p0 p1 : Int) (back : Bool) (xs : List (Nat × Nat)) : seeL p0 p1 back xs = (seeN p0 p1 back xs).map toS := by
  unfold seeL seeN aheadL behindL ownL
  cases back
  · rw [if_neg (by decide), if_neg (by decide), List.map_append, List.map_append]
  · rw [if_pos rfl, if_pos rfl, List.map_append, List.map_append, List.map_reverse, List.map_reverse]
theorem rdS (zs : List (Nat × Nat)) (i : Int) (h : i.toNat < zs.length) : Go.Proofs.Ytbfoflhfmhfofaa.Ext.rd_T28 (zs.map toS) i = toS (zs.getD i.toNat (0, 0)) := by
  unfold Go.Proofs.Ytbfoflhfmhfofaa.Ext.rd_T28
  rw [List.getD_eq_getElem?_getD, List.getD_eq_getElem?_getD, List.getElem?_map, List.getElem?_eq_getElem h]; rfl
theorem rdP (zs : List (Nat × Nat)) (i : Int) (h : i.toNat < zs.length) : rd_T28 (zs.map toP) i = toP (zs.getD i.toNat (0, 0)) := by
  unfold rd_T28
  rw [List.getD_eq_getElem?_getD, List.getD_eq_getElem?_getD, List.getElem?_map, List.getElem?_eq_getElem h]; rfl
theorem searchR_is (p0 p1 : Int) (back : Bool) (n : Int) (hn : ¬ n < 1) (xs : List (Nat × Nat)) (h : seeN p0 p1 back xs ≠ []) :
    searchR p0 p1 back n xs = ((((seeN p0 p1 back xs).getD ((min n 1073741824 - 1) % ((seeN p0 p1 back xs).length : Int)).toNat (0, 0)).1 : Int), (((seeN p0 p1 back xs).getD ((min n 1073741824 - 1) % ((seeN p0 p1 back xs).length : Int)).toNat (0, 0)).2 : Int), 0, true, -1, true) := by
  unfold searchR
  have hpos : 0 < (seeN p0 p1 back xs).length := List.length_pos_iff.2 h
  rw [seeL_is, List.length_map, if_neg (by simpa using h)]
  revert hpos h
  generalize seeN p0 p1 back xs = zs
  intro h hpos
  have h0 := Int.emod_nonneg (min n 1073741824 - 1) (show (zs.length : Int) ≠ 0 by omega)
  have h1 := Int.emod_lt_of_pos (min n 1073741824 - 1) (show (0 : Int) < zs.length by omega)
  rw [rdS zs _ (by omega)]
  rfl
theorem seeN_length (p0 p1 : Int) (back : Bool) (xs : List (Nat × Nat)) : (seeN p0 p1 back xs).length = xs.length := by
  have : ∀ ys : List (Nat × Nat), (ys.filter fun x => !lessB x.1 x.2 p0 p1 && lessB p0 p1 x.1 x.2).length + (ys.filter fun x => lessB x.1 x.2 p0 p1).length + (ys.filter fun x => !lessB x.1 x.2 p0 p1 && !lessB p0 p1 x.1 x.2).length = ys.length := by
    intro ys
    induction ys with
    | nil => rfl
    | cons y ys ih =>
      cases h1 : lessB y.1 y.2 p0 p1 <;> cases h2 : lessB p0 p1 y.1 y.2 <;> simp [h1, h2] at ih ⊢ <;> omega
  have := this xs
  unfold seeN
  cases back <;> simp <;> omega

/-- at the m-th place: what is seen, one after another -/
theorem seeN_at (xs : List (Nat × Nat)) (h : xs.Pairwise ltP) (m : Nat) (hm : m < xs.length) (back : Bool) :
    seeN (xs[m].1 : Int) (xs[m].2 : Int) back xs = if back = true then (xs.take m).reverse ++ (xs.drop (m + 1)).reverse ++ [xs[m]] else xs.drop (m + 1) ++ xs.take m ++ [xs[m]] := by
  unfold seeN
  rw [at_ahead xs h m hm, at_behind xs h m hm, at_own xs h m hm]
theorem fwd_at (xs : List (Nat × Nat)) (m i : Nat) (hm : m < xs.length) (hi : i < xs.length) : (xs.drop (m + 1) ++ xs.take m ++ [xs[m]]).getD i (0, 0) = xs.getD ((m + 1 + i) % xs.length) (0, 0) := by
  have hd : (xs.drop (m + 1)).length = xs.length - (m + 1) := by simp
  have ht : (xs.take m).length = m := by simp; omega
  rw [List.getD_eq_getElem?_getD, List.getD_eq_getElem?_getD]
  congr 1
  by_cases h1 : i < xs.length - (m + 1)
  · rw [List.append_assoc, List.getElem?_append_left (by omega), List.getElem?_drop, Nat.mod_eq_of_lt (by omega)]
  · by_cases h2 : i < xs.length - 1
    · have e : (m + 1 + i) % xs.length = i - (xs.length - (m + 1)) := by
        rw [show m + 1 + i = (i - (xs.length - (m + 1))) + xs.length by omega, Nat.add_mod_right, Nat.mod_eq_of_lt (by omega)]
      rw [List.append_assoc, List.getElem?_append_right (by omega), List.getElem?_append_left (by omega), hd, List.getElem?_take_of_lt (by omega), e]
    · have e : (m + 1 + i) % xs.length = m := by
        rw [show m + 1 + i = m + xs.length by omega, Nat.add_mod_right, Nat.mod_eq_of_lt hm]
      rw [List.getElem?_append_right (by rw [List.length_append]; omega), List.length_append, e, List.getElem?_eq_getElem hm, show i - ((xs.drop (m + 1)).length + (xs.take m).length) = 0 by omega]
      rfl
theorem bck_at (xs : List (Nat × Nat)) (m i : Nat) (hm : m < xs.length) (hi : i < xs.length) : ((xs.take m).reverse ++ (xs.drop (m + 1)).reverse ++ [xs[m]]).getD i (0, 0) = xs.getD ((m + 2 * xs.length - 1 - i) % xs.length) (0, 0) := by
  have hd : (xs.drop (m + 1)).length = xs.length - (m + 1) := by simp
  have ht : (xs.take m).length = m := by simp; omega
  rw [List.getD_eq_getElem?_getD, List.getD_eq_getElem?_getD]
  congr 1
  by_cases h1 : i < m
  · have e : (m + 2 * xs.length - 1 - i) % xs.length = m - 1 - i := by
      rw [show m + 2 * xs.length - 1 - i = (m - 1 - i) + xs.length * 2 by omega, Nat.add_mul_mod_self_left, Nat.mod_eq_of_lt (by omega)]
    rw [List.append_assoc, List.getElem?_append_left (by rw [List.length_reverse]; omega), List.getElem?_reverse (by omega), ht, List.getElem?_take_of_lt (by omega), e]
  · by_cases h2 : i < xs.length - 1
    · have e : (m + 2 * xs.length - 1 - i) % xs.length = xs.length - 1 - (i - m) := by
        rw [show m + 2 * xs.length - 1 - i = (xs.length - 1 - (i - m)) + xs.length * 1 by omega, Nat.add_mul_mod_self_left, Nat.mod_eq_of_lt (by omega)]
      rw [List.append_assoc, List.getElem?_append_right (by rw [List.length_reverse]; omega), List.getElem?_append_left (by rw [List.length_reverse, List.length_reverse]; omega), List.length_reverse, List.getElem?_reverse (by omega), hd, ht, List.getElem?_drop, e]
      congr 1; omega
    · have e : (m + 2 * xs.length - 1 - i) % xs.length = m := by
        rw [show m + 2 * xs.length - 1 - i = m + xs.length * 1 by omega, Nat.add_mul_mod_self_left, Nat.mod_eq_of_lt hm]
      rw [List.getElem?_append_right (by rw [List.length_append, List.length_reverse, List.length_reverse]; omega), List.length_append, List.length_reverse, List.length_reverse, e, List.getElem?_eq_getElem hm, show i - ((xs.take m).length + (xs.drop (m + 1)).length) = 0 by omega]
      rfl
/-- a search from the m-th place -/
theorem search_at (xs : List (Nat × Nat)) (h : xs.Pairwise ltP) (hx : xs.length ≤ 1200) (m : Nat) (hm : m < xs.length) (back : Bool) (n : Nat) (hn : 1 ≤ n) (hn2 : n ≤ 100000) (t : Nat) (ht : t < xs.length)
    (he : t = if back = true then (m + 2 * xs.length - 1 - (n - 1) % xs.length) % xs.length else (m + 1 + (n - 1) % xs.length) % xs.length) :
    searchR (xs[m].1 : Int) (xs[m].2 : Int) back (n : Int) xs = ((xs[t].1 : Int), (xs[t].2 : Int), 0, true, -1, true) := by
  have hl := seeN_length (xs[m].1 : Int) (xs[m].2 : Int) back xs
  have hne : seeN (xs[m].1 : Int) (xs[m].2 : Int) back xs ≠ [] := fun e => by rw [e] at hl; simp at hl; omega
  have hmin : min (n : Int) 1073741824 - 1 = ((n - 1 : Nat) : Int) := by omega
  have hi : ((min (n : Int) 1073741824 - 1) % (xs.length : Int)).toNat = (n - 1) % xs.length := by rw [hmin, ← Int.natCast_emod, Int.toNat_natCast]
  have hlt : (n - 1) % xs.length < xs.length := Nat.mod_lt _ (by omega)
  have hg : (seeN (xs[m].1 : Int) (xs[m].2 : Int) back xs).getD ((n - 1) % xs.length) (0, 0) = xs[t] := by
    rw [seeN_at xs h m hm back]
    cases back with
    | false => rw [if_neg (by decide), fwd_at xs m _ hm hlt]; rw [if_neg (by decide)] at he; rw [← he, List.getD_eq_getElem?_getD, List.getElem?_eq_getElem ht]; rfl
    | true => rw [if_pos rfl, bck_at xs m _ hm hlt]; rw [if_pos rfl] at he; rw [← he, List.getD_eq_getElem?_getD, List.getElem?_eq_getElem ht]; rfl
  rw [searchR_is _ _ back _ (by omega) xs hne, hl, hi, hg]
theorem allOcc_place (l : List ByteArray) (p : ByteArray) : ∀ x ∈ allOcc l p, placeB l (x.1 : Int) (x.2 : Int) = true := by
  intro x hx
  unfold allOcc at hx
  split at hx
  · cases hx
  · have : ∀ k, k ≤ l.length → ∀ x ∈ come l p k, x.1 < l.length ∧ x.2 < (l.getD x.1 ByteArray.empty).size := by
      intro k
      induction k with
      | zero => intro _ x h; cases h
      | succ k ih =>
        intro hk x h
        rcases List.mem_append.1 h with h | h
        · exact ih (by omega) x h
        · unfold lineTo at h
          obtain ⟨i, hi, rfl⟩ := List.mem_map.1 h
          have := List.mem_range.1 (List.mem_filter.1 hi).1
          exact ⟨by show k < _; omega, this⟩
    obtain ⟨h1, h2⟩ := this l.length (Nat.le_refl _) x hx
    unfold placeB; rw [decide_eq_true_eq]
    have hrd : rdOf ByteArray.empty l (x.1 : Int) = l.getD x.1 ByteArray.empty := by unfold rdOf; rw [Int.toNat_natCast]
    rw [hrd]
    exact ⟨by omega, by omega, by omega, by omega⟩
/-- a search from the m-th place, as the program tells it -/
theorem search_from (l : List ByteArray) (ht : total l ≤ 1200) (hl : l.length ≤ 40) (p : ByteArray) (hp : p.size ≤ 1200) (m : Nat) (hm : m < (allOcc l p).length) (back : Bool) (n : Nat) (hn : 1 ≤ n) (hn2 : n ≤ 100000) (t : Nat) (htl : t < (allOcc l p).length)
    (he : t = if back = true then (m + 2 * (allOcc l p).length - 1 - (n - 1) % (allOcc l p).length) % (allOcc l p).length else (m + 1 + (n - 1) % (allOcc l p).length) % (allOcc l p).length) :
    find_Search.f l ((allOcc l p)[m].1 : Int) ((allOcc l p)[m].2 : Int) p back (n : Int) = some (((allOcc l p)[t].1 : Int), ((allOcc l p)[t].2 : Int), 0, true, -1, true) := by
  have hpl := allOcc_place l p (allOcc l p)[m] (List.getElem_mem hm)
  rw [Search_val l ht hl p hp, if_neg (by omega), if_neg (by rw [hpl]; decide), search_at (allOcc l p) (allOcc_sorted l p) (allOcc_le l p ht) m hm back n hn hn2 t htl he]

theorem w_in {z : Int} (h : -1000000 ≤ z) (h1 : z ≤ 1000000) : wrap64 z = z := by unfold wrap64; omega
theorem rdPz (xs : List (Nat × Nat)) (j : Nat) (z : Int) (hz : z = j) (h : j < xs.length) : rd_T28 (xs.map toP) z = toP xs[j] := by
  rw [rdP xs z (by omega), hz, Int.toNat_natCast, List.getD_eq_getElem?_getD, List.getElem?_eq_getElem h]; rfl
theorem hPlace_val (a n : Int) (hn : 0 < n) (hn2 : n ≤ 100000) (ha : -1000000 ≤ a ∧ a ≤ 1000000) : foolscaphelp_Place.f a n = some (a % n) := by
  unfold foolscaphelp_Place.f
  rw [if_neg (by omega), Int.tmod_eq_emod]
  have h0 := Int.emod_nonneg a (show n ≠ 0 by omega)
  have h1 := Int.emod_lt_of_pos a hn
  have hnn : (n.natAbs : Int) = n := by omega
  by_cases hc : 0 ≤ a ∨ n ∣ a
  · rw [if_pos hc, show ((0 : Nat) : Int) = 0 from rfl, Int.sub_zero, if_neg (by omega)]
  · rw [if_neg hc, hnn, if_pos (by omega)]
    congr 1
    unfold wrap64; omega
theorem idx_fwd (N m i : Nat) (hN : 0 < N) (hi : 1 ≤ i) : (m + 1 + (i - 1) % N) % N = (m + i) % N := by
  have := Nat.div_add_mod (i - 1) N
  have e : m + i = m + 1 + (i - 1) % N + N * ((i - 1) / N) := by omega
  rw [e, Nat.add_mul_mod_self_left]
theorem idx_bck (N m i : Nat) (hN : 0 < N) (hi : 1 ≤ i) (hm : m < N) : (((m + 2 * N - 1 - (i - 1) % N) % N : Nat) : Int) = ((m : Int) - (i : Int)) % (N : Int) := by
  have h1 := Nat.div_add_mod (i - 1) N
  have h2 := Nat.mod_lt (i - 1) hN
  have h3 : ((N * ((i - 1) / N) : Nat) : Int) = (N : Int) * (((i - 1) / N : Nat) : Int) := by rw [Int.natCast_mul]
  have e : ((m + 2 * N - 1 - (i - 1) % N : Nat) : Int) = ((m : Int) - (i : Int)) + (N : Int) * ((((i - 1) / N : Nat) : Int) + 2) := by
    rw [Int.mul_add, ← h3]
    omega
  rw [Int.natCast_emod, e, Int.add_mul_emod_self_left]
theorem each_l0 (l : List ByteArray) (ht : total l ≤ 1200) (hl : l.length ≤ 40) (p : ByteArray) (hp : p.size ≤ 1200) (n : Int) (hn : 0 ≤ n ∧ n ≤ 255) (back : Bool) (m : Nat) (hm : m < (allOcc l p).length) (hmn : n % ((allOcc l p).length : Int) = (m : Int)) (d : Nat) :
    ∀ (k i : Nat) (z : Int), z = i → 1 ≤ i → i ≤ (allOcc l p).length + 3 → (allOcc l p).length + 3 - i = d → d + 1 ≤ k →
    foolscaplaw12_FindEach.l0 k l p n back ((allOcc l p).map toP) z ((allOcc l p)[m].1 : Int) ((allOcc l p)[m].2 : Int) = some true := by
  have hle := allOcc_le l p ht
  have hN : 0 < (allOcc l p).length := by omega
  have hw2 : wrap64 (((allOcc l p).length : Int) + 2) = ((allOcc l p).length : Int) + 2 := by unfold wrap64; omega
  have hwn : wrap64 n = n := by unfold wrap64; omega
  have htn : Int.tmod n ((allOcc l p).length : Int) = (m : Int) := by rw [Int.tmod_eq_emod_of_nonneg hn.1, hmn]
  induction d with
  | zero =>
    intro k i z hz h1 h2 hd hk
    obtain ⟨k, rfl⟩ : ∃ q, k = q + 1 := ⟨k - 1, by omega⟩
    rw [foolscaplaw12_FindEach.l0, List.length_map, hw2, if_neg (by omega)]
  | succ d ih =>
    intro k i z hz h1 h2 hd hk
    obtain ⟨k, rfl⟩ : ∃ q, k = q + 1 := ⟨k - 1, by omega⟩
    have c1 : z ≤ ((allOcc l p).length : Int) + 2 := by omega
    have c2 : ¬ ((allOcc l p).length : Int) = 0 := by omega
    have hi1 : i ≤ 100000 := by omega
    have b1 : -1000000 ≤ (m : Int) - z ∧ (m : Int) - z ≤ 1000000 := by omega
    have b2 : ((allOcc l p).length : Int) ≤ 100000 := by omega
    have b3 : (0 : Int) < ((allOcc l p).length : Int) := by omega
    have b4 : (0 : Int) ≤ (m : Int) + z := by omega
    have b5 : (m : Int) + z ≤ 100000 := by omega
    have b6 : p.size ≤ 1200 := hp
    have hrec := ih k (i + 1) _ rfl (by omega) (by omega) (by omega) (by omega)
    have g1 : -9223372036854775808 ≤ (m : Int) - z := by omega
    have hwz : wrap64 (z + 1) = ((i + 1 : Nat) : Int) := by unfold wrap64; omega
    rw [foolscaplaw12_FindEach.l0, List.length_map, hw2, hwn, htn, if_pos c1, if_neg c2, hwz]
    cases back with
    | true =>
      have hws : wrap64 ((m : Int) - z) = (m : Int) - z := w_in b1.1 b1.2
      have hT : (m + 2 * (allOcc l p).length - 1 - (i - 1) % (allOcc l p).length) % (allOcc l p).length < (allOcc l p).length := Nat.mod_lt _ hN
      have hs := search_from l ht hl p hp m hm true i h1 hi1 _ hT (by rw [if_pos rfl])
      have hid := idx_bck (allOcc l p).length m i hN h1 hm
      rw [if_pos rfl, hws, hPlace_val _ _ b3 b2 b1, Option.bind_some, hz, hs, Option.bind_some, ← hid]
      rw [if_pos rfl, if_pos (Int.natCast_nonneg _), if_pos (Int.ofNat_lt.2 hT), rdPz (allOcc l p) _ _ rfl hT]
      rw [if_neg (by simp [toP]), if_pos rfl]
      exact hrec
    | false =>
      have hws : wrap64 ((m : Int) + z) = ((m + i : Nat) : Int) := by rw [hz] at b4 b5 ⊢; exact wrap_in b4 b5
      have hT : (m + 1 + (i - 1) % (allOcc l p).length) % (allOcc l p).length < (allOcc l p).length := Nat.mod_lt _ hN
      have hs := search_from l ht hl p hp m hm false i h1 hi1 _ hT (by rw [if_neg (by decide)])
      have hid := idx_fwd (allOcc l p).length m i hN h1
      have htm : Int.tmod ((m + i : Nat) : Int) ((allOcc l p).length : Int) = (((m + 1 + (i - 1) % (allOcc l p).length) % (allOcc l p).length : Nat) : Int) := by
        rw [Int.tmod_eq_emod_of_nonneg (Int.natCast_nonneg _), hid, Int.natCast_emod]
      rw [if_neg (by decide), hws, htm, hz, hs, Option.bind_some]
      rw [if_pos rfl, if_pos (Int.natCast_nonneg _), if_pos (Int.ofNat_lt.2 hT), rdPz (allOcc l p) _ _ rfl hT]
      rw [if_neg (by simp [toP]), if_pos rfl]
      exact hrec
theorem FindEach (l : List ByteArray) (p : ByteArray) (n : Int) (back : Bool) (hsz : ∀ s ∈ l, s.size ≤ 140737488351232) (hn : 0 ≤ n ∧ n ≤ 255) : ∃ k, foolscaplaw12_FindEach.f k l p n back = some true := by
  obtain ⟨K, hK⟩ : ∃ K, K = 6000 := ⟨_, rfl⟩
  refine ⟨K, ?_⟩
  unfold foolscaplaw12_FindEach.f
  rw [known12_val, Option.bind_some, if_pos rfl]
  obtain ⟨t, ht, hT⟩ := Text_val K l (by omega) hsz
  rw [ht, Option.bind_some]
  obtain ⟨K, rfl⟩ : ∃ m, K = m + 1 := ⟨K - 1, by omega⟩
  by_cases htt : t = true
  · obtain ⟨h0, h1, h2⟩ := hT htt
    rw [if_pos htt, foolscaplaw12_FindEach.j0]
    by_cases hps : (p.size : Int) > 20
    · rw [if_pos (by simpa using hps)]
    · have hp : p.size ≤ 1200 := by omega
      have hle := allOcc_le l p h2
      rw [if_neg (by simpa using hps), All_val K (by omega) l p h2 h1 hp, Option.bind_some, List.length_map]
      by_cases hz : ((allOcc l p).length : Int) = 0
      · rw [if_pos hz, Search_val l h2 h1 p hp, Option.bind_some, if_neg (by omega)]
        have hnil : allOcc l p = [] := List.length_eq_zero_iff.1 (by omega)
        have hsr : searchR 0 0 back 1 (allOcc l p) = (0, 0, 0, false, 0, false) := by
          unfold searchR
          rw [if_pos (by rw [seeL_is, hnil]; cases back <;> rfl)]
        rw [hsr]
        by_cases hpl : placeB l 0 0 = false
        · rw [if_pos hpl]; rfl
        · rw [if_neg hpl]; rfl
      · rw [if_neg hz]
        have hwn : wrap64 n = n := by unfold wrap64; omega
        have m0 := Int.emod_nonneg n hz
        have m1 := Int.emod_lt_of_pos n (show (0 : Int) < ((allOcc l p).length : Int) by omega)
        obtain ⟨m, hm⟩ : ∃ m : Nat, n % ((allOcc l p).length : Int) = (m : Int) := ⟨(n % ((allOcc l p).length : Int)).toNat, by omega⟩
        rw [hwn, Int.tmod_eq_emod_of_nonneg hn.1]
        rw [hm] at m0 m1 ⊢
        have hml : m < (allOcc l p).length := Int.ofNat_lt.1 m1
        rw [if_pos m0, if_pos m1, rdPz (allOcc l p) m _ rfl hml]
        exact each_l0 l h2 h1 p hp n hn back m hml hm ((allOcc l p).length + 2) K 1 1 rfl (by omega) (by omega) (by omega) (by omega)
  · rw [if_neg htt, foolscaplaw12_FindEach.j0, if_pos rfl]

theorem FindEach_walk (A0 : Option Addr) (c0 : Nat) (l0 : List ByteArray) (a1 : ByteArray) (a2 : Int) (a3 : Bool) (w : World)
    (hr0 : Kd.C Kd.string w A0 l0.length l0) (hc0 : l0.length ≤ c0) (hz0 : l0.length * 16 ≤ 140737488351232) (hs0 : ∀ s ∈ l0, s.size ≤ 140737488351232)
    (w1 : a1.size ≤ 140737488351232) (w2 : (Lit.int .u8 a2).wf = true) :
    Calls Try.prog 3 #[.slice A0 l0.length c0, .string a1, .int .u8 a2, .bool a3] w fun e w' => e = .returned (.bool true) ∧ Below w.heap.size w w' := by
  obtain ⟨k, hk⟩ := FindEach l0 a1 a2 a3 hs0 (bounds_u8 w2)
  exact foolscaplaw12_FindEach.calls k A0 c0 l0 a1 a2 a3 true rfl w hr0 hc0 hk

end Go.Proofs.Ytbfoflhfmhfofaa.Pure
