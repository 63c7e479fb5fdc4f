/- FindSearch: find.Search tells what the reference's Search tells, of any place, pattern, count and way; for all texts that the statement speaks of. -/
import Derived.Test.YtbfoflhfmhfofaaMFindSearchx8
import Derived.KernelRfl
import Derived.Lib.Strings
import Derived.OpenShut
set_option linter.unusedVariables false
set_option linter.unusedSimpArgs false
namespace Go.Proofs.Ytbfoflhfmhfofaa.Pure
open Go.RowKit Go.Proofs.Ytbfoflhfmhfofaa.Out Go.Proofs.Ytbfoflhfmhfofaa.MFindSearch Go.Proofs.YtbfoflhfmhfofaaW.PrintWords Go.Proofs.YtbfoflhfmhfofaaW.PrintLast Go.Proofs.YtbfoflhfmhfofaaW.PrintMore

/-- how many bytes the lines have -/
def total : List ByteArray → Nat
  | [] => 0
  | s :: r => s.size + total r
theorem total_mem : ∀ {l : List ByteArray} {s : ByteArray}, s ∈ l → s.size ≤ total l
  | y :: r, s, h => by
    rcases List.mem_cons.1 h with h | h
    · subst h; simp [total]
    · have := total_mem h; simp [total]; omega
  | [], s, h => by simp at h

theorem rdOf_nat (l : List ByteArray) (i : Nat) (h : i < l.length) : rdOf ByteArray.empty l (i : Int) = l[i] := by
  unfold rdOf; rw [Int.toNat_natCast, List.getD_eq_getElem?_getD, List.getElem?_eq_getElem h]; rfl

theorem light_line (l : List ByteArray) (i : Nat) (hi : i < l.length) (hl : l.length ≤ 40) (n : Int) (Q : Prop) (B : Nat) (hs : l[i].size ≤ 1200)
    (next : ∀ k, B ≤ k → ∃ b, foolscaphelp_Light.l0 k l n ((i + 1 : Nat) : Int) = some b ∧ (b = true → Q)) (d : Nat) :
    ∀ (k j : Nat), j ≤ l[i].size → l[i].size - j = d → B + d + 1 ≤ k → ∃ b, foolscaphelp_Light.l1 k l n i j = some b ∧ (b = true → Q) := by
  have hw : wrap64 ((i : Int) + 1) = ((i + 1 : Nat) : Int) := by unfold wrap64; omega
  have hr := rdOf_nat l i hi
  induction d with
  | zero =>
    intro k j hj hd hk
    obtain ⟨k, rfl⟩ : ∃ m, k = m + 1 := ⟨k - 1, by omega⟩
    simp only [foolscaphelp_Light.l1, hr]
    rw [if_pos (by omega), if_pos (by omega), if_neg (by omega), hw]
    exact next k (by omega)
  | succ d ih =>
    intro k j hj hd hk
    obtain ⟨k, rfl⟩ : ∃ m, k = m + 1 := ⟨k - 1, by omega⟩
    have hw' : wrap64 ((j : Int) + 1) = ((j + 1 : Nat) : Int) := by unfold wrap64; omega
    simp only [foolscaphelp_Light.l1, hr]
    rw [if_pos (by omega), if_pos (by omega), if_pos (by omega), if_pos (by omega), hw']
    split
    · exact ⟨false, rfl, fun h => by cases h⟩
    · exact ih k (j + 1) (by omega) (by omega) (by omega)

theorem light_loop (l : List ByteArray) (hl : l.length ≤ 40) (hs : ∀ s ∈ l, s.size ≤ 140737488351232) (d : Nat) :
    ∀ (k n i : Nat), i ≤ l.length → l.length - i = d → n ≤ 1200 → 2 * d + (1200 - n) + 1 ≤ k →
    ∃ b, foolscaphelp_Light.l0 k l n i = some b ∧ (b = true → n + total (l.drop i) ≤ 1200) := by
  induction d with
  | zero =>
    intro k n i hi hd hn hk
    obtain ⟨k, rfl⟩ : ∃ m, k = m + 1 := ⟨k - 1, by omega⟩
    refine ⟨true, ?_, fun _ => ?_⟩
    · simp only [foolscaphelp_Light.l0]; rw [if_neg (by omega)]
    · rw [List.drop_eq_nil_of_le (by omega)]; simp [total]; omega
  | succ d ih =>
    intro k n i hi hd hn hk
    obtain ⟨k, rfl⟩ : ∃ m, k = m + 1 := ⟨k - 1, by omega⟩
    have hi' : i < l.length := by omega
    have hr := rdOf_nat l i hi'
    have hz := hs l[i] (List.getElem_mem hi')
    have hw : wrap64 ((n : Int) + (l[i].size : Int)) = ((n + l[i].size : Nat) : Int) := by unfold wrap64; omega
    have ht : total (l.drop i) = l[i].size + total (l.drop (i + 1)) := by rw [List.drop_eq_getElem_cons hi']; rfl
    simp only [foolscaphelp_Light.l0, hr]
    rw [if_pos (by omega), if_pos (by omega), hw]
    by_cases hb : n + l[i].size > 1200
    · rw [if_pos (by omega)]
      exact ⟨false, rfl, fun h => by cases h⟩
    · rw [if_neg (by omega)]
      rw [ht]
      refine light_line l i hi' hl _ _ (2 * d + (1200 - (n + l[i].size)) + 1) (by omega) (fun k' hk' => ?_) l[i].size k 0 (by omega) (by omega) (by omega)
      obtain ⟨b, h1, h2⟩ := ih k' (n + l[i].size) (i + 1) (by omega) (by omega) (by omega) hk'
      exact ⟨b, h1, fun h => by have := h2 h; omega⟩

theorem Light_val (k : Nat) (l : List ByteArray) (hk : 1281 ≤ k) (hs : ∀ s ∈ l, s.size ≤ 140737488351232) :
    ∃ b, foolscaphelp_Light.f k l = some b ∧ (b = true → l.length ≤ 40 ∧ total l ≤ 1200) := by
  unfold foolscaphelp_Light.f
  by_cases hl : l.length ≤ 40
  · rw [if_neg (by omega)]
    obtain ⟨b, h1, h2⟩ := light_loop l hl hs l.length k 0 0 (by omega) (by omega) (by omega) (by omega)
    exact ⟨b, h1, fun h => ⟨hl, by have := h2 h; simpa using this⟩⟩
  · rw [if_pos (by omega)]
    exact ⟨false, rfl, fun h => by cases h⟩

theorem Text_val (k : Nat) (l : List ByteArray) (hk : 1281 ≤ k) (hs : ∀ s ∈ l, s.size ≤ 140737488351232) :
    ∃ b, foolscaphelp_Text.f k l = some b ∧ (b = true → 0 < l.length ∧ l.length ≤ 40 ∧ total l ≤ 1200) := by
  unfold foolscaphelp_Text.f
  by_cases h : (l.length : Int) > 0
  · rw [if_pos h]
    obtain ⟨b, h1, h2⟩ := Light_val k l hk hs
    refine ⟨b, ?_, fun e => ⟨by omega, h2 e⟩⟩
    rw [h1]; try rfl
  · rw [if_neg h]
    exact ⟨false, rfl, fun e => by cases e⟩

open Go.Proofs.Ytbfoflhfmhfofaa.Ext (ofC isW fwd bck upw wordR placeB fwd_go fwd_stop bck_go bck_stop upw_go upw_stop isW_in)
theorem rd_size (l : List ByteArray) (hs : ∀ s ∈ l, s.size ≤ 1200) (i : Int) : (rdOf ByteArray.empty l i).size ≤ 1200 := by
  unfold rdOf
  rw [List.getD_eq_getElem?_getD]
  cases h : l[i.toNat]? with
  | none => simp
  | some s => exact hs s (List.mem_of_getElem? h)

theorem seat_val (l : List ByteArray) (hl0 : 0 < l.length) (hl : l.length ≤ 40) (hs : ∀ s ∈ l, s.size ≤ 1200) (a b : Int) (ha : 0 ≤ a ∧ a ≤ 65535) (hb : 0 ≤ b ∧ b ≤ 65535) :
    ∃ x y, foolscapseat_Place.f l a b = some (x, y) ∧ placeB l x y = true := by
  have e1 : wrap64 a = a := by unfold wrap64; omega
  have e2 : wrap64 b = b := by unfold wrap64; omega
  have e3 : Int.tmod a (l.length : Int) = a % (l.length : Int) := Int.tmod_eq_emod_of_nonneg ha.1
  have r1 := Int.emod_nonneg a (show (l.length : Int) ≠ 0 by omega)
  have r2 := Int.emod_lt_of_pos a (show 0 < (l.length : Int) by omega)
  have hz := rd_size l hs (a % (l.length : Int))
  have e4 : wrap64 (((rdOf ByteArray.empty l (a % (l.length : Int))).size : Int) + 1) = ((rdOf ByteArray.empty l (a % (l.length : Int))).size : Int) + 1 := by unfold wrap64; omega
  have e5 : Int.tmod b (((rdOf ByteArray.empty l (a % (l.length : Int))).size : Int) + 1) = b % (((rdOf ByteArray.empty l (a % (l.length : Int))).size : Int) + 1) := Int.tmod_eq_emod_of_nonneg hb.1
  refine ⟨a % (l.length : Int), b % (((rdOf ByteArray.empty l (a % (l.length : Int))).size : Int) + 1), ?_, ?_⟩
  · unfold foolscapseat_Place.f
    rw [if_neg (by omega), e1, e2, e3, if_pos r1, if_pos r2, e4, if_neg (by omega), e5]
  · unfold placeB; rw [decide_eq_true_eq]
    have s1 := Int.emod_nonneg b (show (((rdOf ByteArray.empty l (a % (l.length : Int))).size : Int) + 1) ≠ 0 by omega)
    have s2 := Int.emod_lt_of_pos b (show 0 < (((rdOf ByteArray.empty l (a % (l.length : Int))).size : Int) + 1) by omega)
    exact ⟨r1, r2, s1, by omega⟩

theorem known12_val : foolscaplaw12_known.f = some true := by kernel_rfl

theorem isW_at {s : ByteArray} {i : Int} (h0 : 0 ≤ i) (h1 : i < (s.size : Int)) : isW s i = true ↔ ofC (bt s i) false = 1 := by
  unfold isW; simp [h0, h1]
/-- what is told of a word that begins at i -/
def wordV (s : ByteArray) (p0 i : Int) : Int × Int × ByteArray × Bool := if i ≥ (s.size : Int) then (0, 0, (⟨#[]⟩ : ByteArray), false) else (p0, i, s.extract i.toNat (upw s s.size i).toNat, true)

theorem fwd_spec (s : ByteArray) : ∀ (n : Nat) (i : Int), (s.size : Int) - i ≤ n → (fwd s n i ≥ s.size ∨ isW s (fwd s n i) = true) ∧ (fwd s n i = i ∨ isW s (fwd s n i - 1) = false) := by
  intro n
  induction n with
  | zero => intro i h; exact ⟨.inl (by show i ≥ _; omega), .inl rfl⟩
  | succ n ih =>
    intro i h
    by_cases hc : i < (s.size : Int) ∧ isW s i = false
    · rw [fwd_go hc.1 hc.2]
      obtain ⟨h1, h2⟩ := ih (i + 1) (by omega)
      refine ⟨h1, .inr ?_⟩
      rcases h2 with h2 | h2
      · rw [h2, Int.add_sub_cancel]; exact hc.2
      · exact h2
    · rw [fwd_stop hc]
      refine ⟨?_, .inl rfl⟩
      by_cases hl : i < (s.size : Int)
      · right; cases hw : isW s i with
        | true => rfl
        | false => exact absurd ⟨hl, hw⟩ hc
      · left; omega
theorem bck_le (s : ByteArray) : ∀ (n : Nat) (i : Int), bck s n i ≤ i := by
  intro n
  induction n with
  | zero => intro i; exact Int.le_refl _
  | succ n ih =>
    intro i
    by_cases h : isW s (i - 1) = true
    · rw [bck_go h]; have := ih (i - 1); omega
    · rw [bck_stop (by simpa using h)]; exact Int.le_refl _

theorem total_sum : ∀ (l : List ByteArray), (l.map ByteArray.size).sum = total l
  | [] => rfl
  | s :: r => by simp [total, total_sum r]
theorem Word_val (l : List ByteArray) (ht : total l ≤ 1200) (a b : Int) : find_Word.f l a b = some (wordR l a b) := by
  show (if _ then _ else _) = _
  rw [if_pos (by rw [total_sum]; omega)]

open Go.Proofs.Ytbfoflhfmhfofaa.Ext (lessB placeB toS aheadL behindL ownL seeL searchR)
def ltP (x y : Nat × Nat) : Prop := x.1 < y.1 ∨ (x.1 = y.1 ∧ x.2 < y.2)
theorem less_t {a0 a1 b0 b1 : Int} : lessB a0 a1 b0 b1 = true ↔ a0 < b0 ∨ (a0 = b0 ∧ a1 < b1) := by unfold lessB; exact decide_eq_true_iff
theorem less_f {a0 a1 b0 b1 : Int} : lessB a0 a1 b0 b1 = false ↔ ¬ (a0 < b0 ∨ (a0 = b0 ∧ a1 < b1)) := by unfold lessB; exact decide_eq_false_iff_not
/-- in order: what isn't behind p is ahead of it, then p itself -/
theorem not_behind (p0 p1 : Int) : ∀ (xs : List (Nat × Nat)), xs.Pairwise ltP →
    xs.filter (fun x => !lessB p0 p1 x.1 x.2) = xs.filter (fun x => lessB x.1 x.2 p0 p1) ++ xs.filter (fun x => !lessB x.1 x.2 p0 p1 && !lessB p0 p1 x.1 x.2)
  | [], _ => rfl
  | x :: xs, h => by
    obtain ⟨h1, h2⟩ := List.pairwise_cons.1 h
    have ih := not_behind p0 p1 xs h2
    cases hl : lessB x.1 x.2 p0 p1 with
    | true =>
      have hr : lessB p0 p1 x.1 x.2 = false := by rw [less_f]; rw [less_t] at hl; omega
      rw [List.filter_cons_of_pos (by simp [hr]), List.filter_cons_of_pos (by simp [hl]), List.filter_cons_of_neg (by simp [hl]), ih]; rfl
    | false =>
      have hn : ∀ y ∈ xs, lessB y.1 y.2 p0 p1 = false := fun y hy => by have := h1 y hy; unfold ltP at this; rw [less_f] at hl ⊢; omega
      have e1 : (x :: xs).filter (fun x => lessB x.1 x.2 p0 p1) = [] := by
        rw [List.filter_eq_nil_iff]; intro y hy
        rcases List.mem_cons.1 hy with rfl | hy
        · simp [hl]
        · simp [hn y hy]
      rw [e1, List.nil_append]
      refine List.filter_congr fun y hy => ?_
      rcases List.mem_cons.1 hy with rfl | hy
      · simp [hl]
      · simp [hn y hy]
theorem not_ahead (p0 p1 : Int) : ∀ (xs : List (Nat × Nat)), xs.Pairwise ltP →
    xs.filter (fun x => !lessB x.1 x.2 p0 p1) = xs.filter (fun x => !lessB x.1 x.2 p0 p1 && !lessB p0 p1 x.1 x.2) ++ xs.filter (fun x => !lessB x.1 x.2 p0 p1 && lessB p0 p1 x.1 x.2)
  | [], _ => rfl
  | x :: xs, h => by
    obtain ⟨h1, h2⟩ := List.pairwise_cons.1 h
    have ih := not_ahead p0 p1 xs h2
    cases hl : lessB x.1 x.2 p0 p1 with
    | true => rw [List.filter_cons_of_neg (by simp [hl]), List.filter_cons_of_neg (by simp [hl]), List.filter_cons_of_neg (by simp [hl]), ih]
    | false =>
      cases hr : lessB p0 p1 x.1 x.2 with
      | false => rw [List.filter_cons_of_pos (by simp [hl]), List.filter_cons_of_pos (by simp [hl, hr]), List.filter_cons_of_neg (by simp [hr]), ih]; rfl
      | true =>
        have hn : ∀ y ∈ xs, lessB p0 p1 y.1 y.2 = true := fun y hy => by have := h1 y hy; unfold ltP at this; rw [less_t] at hr ⊢; omega
        have e1 : (x :: xs).filter (fun x => !lessB x.1 x.2 p0 p1 && !lessB p0 p1 x.1 x.2) = [] := by
          rw [List.filter_eq_nil_iff]; intro y hy
          rcases List.mem_cons.1 hy with rfl | hy
          · simp [hr]
          · simp [hn y hy]
        rw [e1, List.nil_append]
        refine List.filter_congr fun y hy => ?_
        rcases List.mem_cons.1 hy with rfl | hy
        · simp [hr]
        · simp [hn y hy]
theorem own_one (p0 p1 : Int) (xs : List (Nat × Nat)) (h : xs.Pairwise ltP) : (xs.filter fun x => !lessB x.1 x.2 p0 p1 && !lessB p0 p1 x.1 x.2).reverse = xs.filter fun x => !lessB x.1 x.2 p0 p1 && !lessB p0 p1 x.1 x.2 := by
  have hp := h.filter (fun x => !lessB x.1 x.2 p0 p1 && !lessB p0 p1 x.1 x.2)
  have hm : ∀ y ∈ xs.filter (fun x => !lessB x.1 x.2 p0 p1 && !lessB p0 p1 x.1 x.2), (y.1 : Int) = p0 ∧ (y.2 : Int) = p1 := fun y hy => by
    have := (List.mem_filter.1 hy).2
    simp only [Bool.and_eq_true, Bool.not_eq_true'] at this
    rw [less_f, less_f] at this; omega
  revert hp hm
  generalize xs.filter (fun x => !lessB x.1 x.2 p0 p1 && !lessB p0 p1 x.1 x.2) = zs
  intro hp hm
  match zs, hp, hm with
  | [], _, _ => rfl
  | [a], _, _ => rfl
  | a :: b :: r, hp, hm =>
    exfalso
    have h1 := (List.pairwise_cons.1 hp).1 b (by simp)
    have h2 := hm a (by simp)
    have h3 := hm b (by simp)
    unfold ltP at h1; omega
/-- at the m-th place: those ahead, those behind, itself -/
theorem at_ahead (xs : List (Nat × Nat)) (h : xs.Pairwise ltP) (m : Nat) (hm : m < xs.length) : xs.filter (fun x => lessB x.1 x.2 (xs[m].1 : Int) (xs[m].2 : Int)) = xs.take m := by
  have hp := List.pairwise_iff_getElem.1 h
  refine (congrArg (List.filter _) (List.take_append_drop m xs).symm).trans ?_
  rw [List.filter_append, List.filter_eq_self.2, List.filter_eq_nil_iff.2, List.append_nil]
  · intro y hy
    obtain ⟨i, hi, rfl⟩ := List.mem_iff_getElem.1 hy
    rw [List.getElem_drop]
    rw [Bool.not_eq_true, less_f]
    by_cases h0 : i = 0
    · subst h0; simp
    · have := hp m (m + i) hm (by simp at hi; omega) (by omega); unfold ltP at this; omega
  · intro y hy
    obtain ⟨i, hi, rfl⟩ := List.mem_iff_getElem.1 hy
    rw [List.getElem_take]
    rw [less_t]
    have := hp i m (by simp at hi; omega) hm (by simp at hi; omega); unfold ltP at this; omega
theorem at_behind (xs : List (Nat × Nat)) (h : xs.Pairwise ltP) (m : Nat) (hm : m < xs.length) : xs.filter (fun x => !lessB x.1 x.2 (xs[m].1 : Int) (xs[m].2 : Int) && lessB (xs[m].1 : Int) (xs[m].2 : Int) x.1 x.2) = xs.drop (m + 1) := by
  have hp := List.pairwise_iff_getElem.1 h
  refine (congrArg (List.filter _) (List.take_append_drop (m + 1) xs).symm).trans ?_
  rw [List.filter_append, List.filter_eq_nil_iff.2, List.filter_eq_self.2, List.nil_append]
  · intro y hy
    obtain ⟨i, hi, rfl⟩ := List.mem_iff_getElem.1 hy
    rw [List.getElem_drop]
    rw [Bool.and_eq_true, Bool.not_eq_true', less_f, less_t]
    have := hp m (m + 1 + i) hm (by simp at hi; omega) (by omega); unfold ltP at this; omega
  · intro y hy
    obtain ⟨i, hi, rfl⟩ := List.mem_iff_getElem.1 hy
    rw [List.getElem_take]
    rw [Bool.not_eq_true, Bool.and_eq_false_iff]
    right
    rw [less_f]
    have hi2 : i < m + 1 := by simp at hi; omega
    by_cases h0 : i = m
    · subst h0; omega
    · have := hp i m (by omega) hm (by omega); unfold ltP at this; omega
theorem at_own (xs : List (Nat × Nat)) (h : xs.Pairwise ltP) (m : Nat) (hm : m < xs.length) : xs.filter (fun x => !lessB x.1 x.2 (xs[m].1 : Int) (xs[m].2 : Int) && !lessB (xs[m].1 : Int) (xs[m].2 : Int) x.1 x.2) = [xs[m]] := by
  have h1 := not_ahead (xs[m].1 : Int) (xs[m].2 : Int) xs h
  have h2 : xs.filter (fun x => !lessB x.1 x.2 (xs[m].1 : Int) (xs[m].2 : Int)) = xs.drop m := by
    have hp := List.pairwise_iff_getElem.1 h
    refine (congrArg (List.filter _) (List.take_append_drop m xs).symm).trans ?_
    rw [List.filter_append, List.filter_eq_nil_iff.2, List.filter_eq_self.2, List.nil_append]
    · intro y hy
      obtain ⟨i, hi, rfl⟩ := List.mem_iff_getElem.1 hy
      rw [List.getElem_drop]
      rw [Bool.not_eq_true', less_f]
      by_cases h0 : i = 0
      · subst h0; simp
      · have := hp m (m + i) hm (by simp at hi; omega) (by omega); unfold ltP at this; omega
    · intro y hy
      obtain ⟨i, hi, rfl⟩ := List.mem_iff_getElem.1 hy
      rw [List.getElem_take]
      rw [Bool.not_eq_true, Bool.not_eq_false', less_t]
      have := hp i m (by simp at hi; omega) hm (by simp at hi; omega); unfold ltP at this; omega
  rw [h2, at_behind xs h m hm, List.drop_eq_getElem_cons hm] at h1
  have h3 : [xs[m]] ++ xs.drop (m + 1) = _ ++ xs.drop (m + 1) := h1
  exact (List.append_cancel_right h3).symm

open Go.Proofs.Ytbfoflhfmhfofaa.Ext (occ lineTo come allOcc lineTo_succ)
def toP (x : Nat × Nat) : S28 := ⟨(x.1 : Int), (x.2 : Int)⟩
theorem occ_is (s p : ByteArray) (i : Nat) (hi : i ≤ s.size) : occ s p i = true ↔ i + p.size ≤ s.size ∧ (s.extract i (i + p.size)).toList = p.toList := by
  unfold occ
  rw [← Lib.hasPrefix_raw]
  have hz : (s.extract i s.size).size = s.size - i := by rw [ByteArray.size_extract]; omega
  by_cases h : i + p.size ≤ s.size
  · have he : (s.extract i s.size).extract 0 p.size = s.extract i (i + p.size) := by
      rw [ByteArray.extract_extract]; congr 1; omega
    simp [hz, h, he]
    intro; omega
  · simp [hz, h]
    intro h2; omega
theorem lineTo_rest (s p : ByteArray) (k i : Nat) (hp : s.size < i + p.size) (d : Nat) (hd : i + d ≤ s.size) : lineTo s p k (i + d) = lineTo s p k i := by
  induction d with
  | zero => rfl
  | succ d ih =>
    rw [← Nat.add_assoc, lineTo_succ, ih (by omega), if_neg (fun h => by have := (occ_is s p (i + d) (by omega)).1 h; omega), List.append_nil]
theorem acc_le (l : List ByteArray) (p : ByteArray) (ht : total l ≤ 1200) (j i : Nat) (hj : j < l.length) (hi : i ≤ (l.getD j ByteArray.empty).size) : (come l p j ++ lineTo (l.getD j ByteArray.empty) p j i).length ≤ 1200 := by
  have h1 := (Go.Proofs.Ytbfoflhfmhfofaa.Ext.come_prefix l p j i hj hi).length_le
  have h2 := Go.Proofs.Ytbfoflhfmhfofaa.Ext.come_length l p l.length (Nat.le_refl _)
  rw [List.take_length, total_sum] at h2
  omega
theorem wrap_nat (j : Nat) (h : j ≤ 100000) : wrap64 ((j : Int) + 1) = ((j + 1 : Nat) : Int) := by unfold wrap64; omega
theorem wrap_in {z : Int} (h : 0 ≤ z) (h1 : z ≤ 100000) : wrap64 z = z := by unfold wrap64; omega
theorem lt_lim {α : Type} (xs : List α) (h : xs.length ≤ 100000) : xs.length < 8796093022208 := Nat.lt_of_le_of_lt h (by decide)
theorem all_step (k : Nat) (l : List ByteArray) (p : ByteArray) (xs : List S28) (z i e : Int) (h0 : 0 ≤ z) (h1 : z < (l.length : Int)) (he : wrap64 (i + (p.size : Int)) = e) (h2 : e ≤ ((rdOf ByteArray.empty l z).size : Int)) (h3 : 0 ≤ i) (h4 : i ≤ e) (h5 : xs.length < 8796093022208) :
    foolscapref5_All.l1 (k + 1) l p xs z i = if ((rdOf ByteArray.empty l z).extract i.toNat e.toNat).toList = p.toList then foolscapref5_All.l1 k l p (xs ++ [(⟨z, i⟩ : S28)]) z (wrap64 (i + 1)) else foolscapref5_All.l1 k l p xs z (wrap64 (i + 1)) := by
  rw [foolscapref5_All.l1, he, if_pos h0, if_pos h1, if_pos h2, if_pos h3, if_pos h4, if_pos h5]
theorem acc_lim (l : List ByteArray) (p : ByteArray) (ht : total l ≤ 1200) (j i : Nat) (hj : j < l.length) (hi : i ≤ (l.getD j ByteArray.empty).size) : ((come l p j ++ lineTo (l.getD j ByteArray.empty) p j i).map toP).length < 8796093022208 :=
  lt_lim _ (by rw [List.length_map]; have := acc_le l p ht j i hj hi; omega)
theorem all_l1 (l : List ByteArray) (p : ByteArray) (ht : total l ≤ 1200) (hl : l.length ≤ 40) (hps : p.size ≤ 1200) (hpos : 0 < p.size) (j : Nat) (hj : j < l.length) (hsj : (l.getD j ByteArray.empty).size ≤ 1200) (R : Option (List S28)) (B : Nat)
    (hnext : ∀ k, B ≤ k → foolscapref5_All.l0 k l p ((come l p (j + 1)).map toP) ((j + 1 : Nat) : Int) = R) (n : Nat) : ∀ (k i : Nat) (z : Int), z = i → i ≤ (l.getD j ByteArray.empty).size → (l.getD j ByteArray.empty).size - i ≤ n → B + n + 2 ≤ k →
    foolscapref5_All.l1 k l p ((come l p j ++ lineTo (l.getD j ByteArray.empty) p j i).map toP) (j : Int) z = R := by
  have hrd : rdOf ByteArray.empty l (j : Int) = l.getD j ByteArray.empty := by unfold rdOf; rw [Int.toNat_natCast]
  have hout : ∀ (k i : Nat), B + 1 ≤ k → i ≤ (l.getD j ByteArray.empty).size → ¬ i + p.size ≤ (l.getD j ByteArray.empty).size → foolscapref5_All.l1 k l p ((come l p j ++ lineTo (l.getD j ByteArray.empty) p j i).map toP) (j : Int) (i : Int) = R := by
    intro k i hk hi h
    obtain ⟨k, rfl⟩ : ∃ m, k = m + 1 := ⟨k - 1, by omega⟩
    have n1 : (0 : Int) ≤ (j : Int) := by omega
    have n2 : (j : Int) < (l.length : Int) := by omega
    have n3 : ¬ (i : Int) + p.size ≤ ((l.getD j ByteArray.empty).size : Int) := by omega
    have n4 : B ≤ k := by omega
    have i1 : j ≤ 100000 := by omega
    have i2 : (0 : Int) ≤ (i : Int) + (p.size : Int) := by omega
    have i3 : (i : Int) + (p.size : Int) ≤ 100000 := by omega
    have n5 := (lineTo_rest (l.getD j ByteArray.empty) p j i (by omega) ((l.getD j ByteArray.empty).size - i) (by omega))
    have hwj : wrap64 ((j : Int) + 1) = ((j + 1 : Nat) : Int) := wrap_nat j i1
    have hw : wrap64 ((i : Int) + (p.size : Int)) = (i : Int) + p.size := wrap_in i2 i3
    rw [foolscapref5_All.l1, if_pos n1, if_pos n2, hrd, hw, if_neg n3, hwj]
    have hr := n5
    rw [Nat.add_sub_cancel' hi] at hr
    have hc : come l p (j + 1) = come l p j ++ lineTo (l.getD j ByteArray.empty) p j i := by rw [← hr]; rfl
    rw [← hc]
    exact hnext k n4
  induction n with
  | zero =>
    intro k i z hz hi hn hk
    subst hz
    by_cases h : i + p.size ≤ (l.getD j ByteArray.empty).size
    · exact absurd hpos (by omega)
    · exact hout k i (by omega) hi h
  | succ n ih =>
    intro k i z hz hi hn hk
    subst hz
    by_cases h : i + p.size ≤ (l.getD j ByteArray.empty).size
    · obtain ⟨k, rfl⟩ : ∃ m, k = m + 1 := ⟨k - 1, by omega⟩
      have q1 : (0 : Int) ≤ (j : Int) := by omega
      have q2 : (j : Int) < (l.length : Int) := by omega
      have q4 : (0 : Int) ≤ (i : Int) := by omega
      have q5 : (i : Int) ≤ ((i + p.size : Nat) : Int) := by omega
      have hwi2 : (l.getD j ByteArray.empty).size - (i + 1) ≤ n := by omega
      have := ih k (i + 1) _ rfl (by omega) hwi2 (by omega)
      have i1 : i ≤ 100000 := by omega
      have i2 : (0 : Int) ≤ (i : Int) + (p.size : Int) := by omega
      have i3 : (i : Int) + (p.size : Int) ≤ 100000 := by omega
      have hwi : wrap64 ((i : Int) + 1) = ((i + 1 : Nat) : Int) := wrap_nat i i1
      have hw : wrap64 ((i : Int) + (p.size : Int)) = ((i + p.size : Nat) : Int) := wrap_in i2 i3
      have q3 := Int.ofNat_le.2 h
      rw [← hrd] at q3
      have hst := all_step k l p ((come l p j ++ lineTo (l.getD j ByteArray.empty) p j i).map toP) (j : Int) (i : Int) ((i + p.size : Nat) : Int) q1 q2 hw q3 q4 q5 (acc_lim l p ht j i hj hi)
      rw [hst, hrd, Int.toNat_natCast, Int.toNat_natCast, hwi]
      rw [lineTo_succ] at this
      by_cases ho : occ (l.getD j ByteArray.empty) p i = true
      · rw [if_pos ((occ_is _ p i hi).1 ho).2]
        rw [if_pos ho, ← List.append_assoc, List.map_append] at this
        exact this
      · rw [if_neg (fun he => ho ((occ_is _ p i hi).2 ⟨h, he⟩))]
        rw [if_neg ho, List.append_nil] at this
        exact this
    · exact hout k i (by omega) hi h
theorem total_drop (l : List ByteArray) (j : Nat) (hj : j < l.length) : total (l.drop j) = (l.getD j ByteArray.empty).size + total (l.drop (j + 1)) := by
  rw [List.drop_eq_getElem_cons hj, List.getD_eq_getElem?_getD, List.getElem?_eq_getElem hj]; rfl
theorem all_l0 (l : List ByteArray) (p : ByteArray) (ht : total l ≤ 1200) (hl : l.length ≤ 40) (hps : p.size ≤ 1200) (hpos : 0 < p.size) (d : Nat) : ∀ (k j : Nat) (z : Int), z = j → j ≤ l.length → l.length - j = d → total (l.drop j) + 5 * d + 2 ≤ k →
    foolscapref5_All.l0 k l p ((come l p j).map toP) z = some ((come l p l.length).map toP) := by
  have hne : (p.toList != ([] : List UInt8)) = true := by
    have h : p.toList ≠ ([] : List UInt8) := fun h => by
      rw [ByteArray.toList_eq] at h
      have h5 : p.data.toList.length = 0 := by rw [h]; rfl
      have h6 : p.size = p.data.toList.length := by simp
      omega
    simpa using h
  induction d with
  | zero =>
    intro k j z hz hj hd hk
    obtain ⟨k, rfl⟩ : ∃ m, k = m + 1 := ⟨k - 1, by omega⟩
    obtain ⟨k, rfl⟩ : ∃ m, k = m + 1 := ⟨k - 1, by omega⟩
    have hjl : j = l.length := by omega
    rw [foolscapref5_All.l0, if_neg (by omega), foolscapref5_All.j1, if_neg (by decide), hjl]
  | succ d ih =>
    intro k j z hz hj hd hk
    obtain ⟨k, rfl⟩ : ∃ m, k = m + 1 := ⟨k - 1, by omega⟩
    obtain ⟨k, rfl⟩ : ∃ m, k = m + 1 := ⟨k - 1, by omega⟩
    have hjl : j < l.length := by omega
    have htd := total_drop l j hjl
    have hts : (l.getD j ByteArray.empty).size ≤ total l := by
      rw [List.getD_eq_getElem?_getD, List.getElem?_eq_getElem hjl]; exact total_mem (List.getElem_mem hjl)
    rw [foolscapref5_All.l0, if_pos (by omega), foolscapref5_All.j1, if_pos hne, hz]
    have := all_l1 l p ht hl hps hpos j hjl (by omega) (some ((come l p l.length).map toP)) (total (l.drop (j + 1)) + 5 * d + 2) (fun k' hk' => ih k' (j + 1) _ rfl (by omega) (by omega) hk') (l.getD j ByteArray.empty).size k 0 0 rfl (by omega) (by omega) (by omega)
    rw [show lineTo (l.getD j ByteArray.empty) p j 0 = [] from rfl, List.append_nil] at this
    exact this
theorem All_val (k : Nat) (hk : 1500 ≤ k) (l : List ByteArray) (p : ByteArray) (ht : total l ≤ 1200) (hl : l.length ≤ 40) (hps : p.size ≤ 1200) : foolscapref5_All.f k l p = some ((allOcc l p).map toP) := by
  unfold foolscapref5_All.f allOcc
  by_cases hz : p.size = 0
  · rw [if_pos hz]
    obtain ⟨k, rfl⟩ : ∃ m, k = m + 1 := ⟨k - 1, by omega⟩
    obtain ⟨k, rfl⟩ : ∃ m, k = m + 1 := ⟨k - 1, by omega⟩
    have hn : (p.toList != ([] : List UInt8)) = false := by
      have h : p.toList = ([] : List UInt8) := by rw [ByteArray.toList_eq]; simp; exact Array.size_eq_zero_iff.1 hz
      rw [h]; rfl
    rw [foolscapref5_All.l0, hn]
    have e : foolscapref5_All.j1 (k + 1) l p ([] : List S28) 0 false = some [] := by rw [foolscapref5_All.j1, if_neg (by decide)]
    rw [e]
    by_cases h : (0 : Int) < (l.length : Int)
    · rw [if_pos h]; rfl
    · rw [if_neg h]; rfl
  · rw [if_neg hz]
    exact all_l0 l p ht hl hps (by omega) l.length k 0 0 rfl (by omega) (by omega) (by simp; omega)

theorem come_in (l : List ByteArray) (p : ByteArray) : ∀ (k : Nat), ∀ x ∈ come l p k, x.1 < k
  | 0, x, h => by cases h
  | k + 1, x, h => by
    rcases List.mem_append.1 h with h | h
    · have := come_in l p k x h; omega
    · unfold lineTo at h
      obtain ⟨i, _, rfl⟩ := List.mem_map.1 h
      exact Nat.lt_succ_self k
theorem come_sorted (l : List ByteArray) (p : ByteArray) : ∀ (k : Nat), (come l p k).Pairwise ltP
  | 0 => List.Pairwise.nil
  | k + 1 => by
    show (come l p k ++ lineTo _ p k _).Pairwise ltP
    rw [List.pairwise_append]
    refine ⟨come_sorted l p k, ?_, fun x hx y hy => ?_⟩
    · unfold lineTo
      rw [List.pairwise_map]
      exact (List.pairwise_lt_range.filter _).imp (fun h => .inr ⟨rfl, h⟩)
    · have := come_in l p k x hx
      unfold lineTo at hy
      obtain ⟨i, _, rfl⟩ := List.mem_map.1 hy
      exact .inl this
theorem allOcc_sorted (l : List ByteArray) (p : ByteArray) : (allOcc l p).Pairwise ltP := by
  unfold allOcc
  split
  · exact List.Pairwise.nil
  · exact come_sorted l p _
theorem allOcc_le (l : List ByteArray) (p : ByteArray) (ht : total l ≤ 1200) : (allOcc l p).length ≤ 1200 := by
  have := Go.Proofs.Ytbfoflhfmhfofaa.Ext.allOcc_length l p
  rw [total_sum] at this; omega
theorem Search_val (l : List ByteArray) (ht : total l ≤ 1200) (hl : l.length ≤ 40) (p : ByteArray) (hp : p.size ≤ 1200) (a b : Int) (back : Bool) (n : Int) :
    find_Search.f l a b p back n = some (if n < 1 then (0, 0, 0, false, 0, false) else if placeB l a b = false then (0, 0, 0, false, 0, false) else searchR a b back n (allOcc l p)) := by
  show (if _ then _ else _) = _
  rw [if_pos (by rw [total_sum]; omega)]
/-- what is seen, in pairs -/
def seeN (p0 p1 : Int) (back : Bool) (xs : List (Nat × Nat)) : List (Nat × Nat) :=
  if back = true then (xs.filter fun x => lessB x.1 x.2 p0 p1).reverse ++ (xs.filter fun x => !lessB x.1 x.2 p0 p1 && lessB p0 p1 x.1 x.2).reverse ++ (xs.filter fun x => !lessB x.1 x.2 p0 p1 && !lessB p0 p1 x.1 x.2)
  else (xs.filter fun x => !lessB x.1 x.2 p0 p1 && lessB p0 p1 x.1 x.2) ++ (xs.filter fun x => lessB x.1 x.2 p0 p1) ++ (xs.filter fun x => !lessB x.1 x.2 p0 p1 && !lessB p0 p1 x.1 x.2)
theorem seeL_is (p0 p1 : Int) (back : Bool) (xs : List (Nat × Nat)) : seeL p0 p1 back xs = (seeN p0 p1 back xs).map toS := by
  unfold seeL seeN aheadL behindL ownL
  cases back
  · rw [if_neg (by decide), if_neg (by decide), List.map_append, List.map_append]
  · rw [if_pos rfl, if_pos rfl, List.map_append, List.map_append, List.map_reverse, List.map_reverse]
theorem rdS (zs : List (Nat × Nat)) (i : Int) (h : i.toNat < zs.length) : Go.Proofs.Ytbfoflhfmhfofaa.Ext.rd_T28 (zs.map toS) i = toS (zs.getD i.toNat (0, 0)) := by
  unfold Go.Proofs.Ytbfoflhfmhfofaa.Ext.rd_T28
  rw [List.getD_eq_getElem?_getD, List.getD_eq_getElem?_getD, List.getElem?_map, List.getElem?_eq_getElem h]; rfl
theorem rdP (zs : List (Nat × Nat)) (i : Int) (h : i.toNat < zs.length) : rd_T28 (zs.map toP) i = toP (zs.getD i.toNat (0, 0)) := by
  unfold rd_T28
  rw [List.getD_eq_getElem?_getD, List.getD_eq_getElem?_getD, List.getElem?_map, List.getElem?_eq_getElem h]; rfl
theorem searchR_is (p0 p1 : Int) (back : Bool) (n : Int) (hn : ¬ n < 1) (xs : List (Nat × Nat)) (h : seeN p0 p1 back xs ≠ []) :
    searchR p0 p1 back n xs = ((((seeN p0 p1 back xs).getD ((min n 1073741824 - 1) % ((seeN p0 p1 back xs).length : Int)).toNat (0, 0)).1 : Int), (((seeN p0 p1 back xs).getD ((min n 1073741824 - 1) % ((seeN p0 p1 back xs).length : Int)).toNat (0, 0)).2 : Int), 0, true, -1, true) := by
  unfold searchR
  have hpos : 0 < (seeN p0 p1 back xs).length := List.length_pos_iff.2 h
  rw [seeL_is, List.length_map, if_neg (by simpa using h)]
  revert hpos h
  generalize seeN p0 p1 back xs = zs
  intro h hpos
  have h0 := Int.emod_nonneg (min n 1073741824 - 1) (show (zs.length : Int) ≠ 0 by omega)
  have h1 := Int.emod_lt_of_pos (min n 1073741824 - 1) (show (0 : Int) < zs.length by omega)
  rw [rdS zs _ (by omega)]
  rfl
theorem seeN_length (p0 p1 : Int) (back : Bool) (xs : List (Nat × Nat)) : (seeN p0 p1 back xs).length = xs.length := by
  have : ∀ ys : List (Nat × Nat), (ys.filter fun x => !lessB x.1 x.2 p0 p1 && lessB p0 p1 x.1 x.2).length + (ys.filter fun x => lessB x.1 x.2 p0 p1).length + (ys.filter fun x => !lessB x.1 x.2 p0 p1 && !lessB p0 p1 x.1 x.2).length = ys.length := by
    intro ys
    induction ys with
    | nil => rfl
    | cons y ys ih =>
      cases h1 : lessB y.1 y.2 p0 p1 <;> cases h2 : lessB p0 p1 y.1 y.2 <;> simp [h1, h2] at ih ⊢ <;> omega
  have := this xs
  unfold seeN
  cases back <;> simp <;> omega

theorem rLess_val (a0 a1 b0 b1 : Int) : foolscapref5_Less.f a0 a1 b0 b1 = some (lessB a0 a1 b0 b1) := by
  unfold foolscapref5_Less.f lessB
  by_cases h : a0 < b0
  · rw [if_pos h]; simp [h]
  · rw [if_neg h]
    by_cases h2 : a0 = b0
    · rw [if_pos h2]; simp [h, h2]
    · rw [if_neg h2]; simp [h, h2]
theorem rdPz (xs : List (Nat × Nat)) (j : Nat) (z : Int) (hz : z = j) (h : j < xs.length) : rd_T28 (xs.map toP) z = toP xs[j] := by
  rw [rdP xs z (by omega), hz, Int.toNat_natCast, List.getD_eq_getElem?_getD, List.getElem?_eq_getElem h]; rfl
theorem behind_l0 (xs : List (Nat × Nat)) (hx : xs.length ≤ 1200) (a b : Int) (d : Nat) : ∀ (k j : Nat) (z : Int) (acc : List (Nat × Nat)), z = j → j ≤ xs.length → xs.length - j = d → acc.length ≤ j → d + 1 ≤ k →
    foolscapref5_behind.l0 k (xs.map toP) false (acc.map toP) z a b = some ((acc ++ (xs.drop j).filter fun x => lessB a b x.1 x.2).map toP) := by
  induction d with
  | zero =>
    intro k j z acc hz hj hd ha hk
    obtain ⟨k, rfl⟩ : ∃ m, k = m + 1 := ⟨k - 1, by omega⟩
    rw [foolscapref5_behind.l0, if_neg (by rw [List.length_map]; omega), List.drop_eq_nil_of_le (by omega), List.filter_nil, List.append_nil]
  | succ d ih =>
    intro k j z acc hz hj hd ha hk
    obtain ⟨k, rfl⟩ : ∃ m, k = m + 1 := ⟨k - 1, by omega⟩
    have hjl : j < xs.length := by omega
    have hw : wrap64 (z + 1) = ((j + 1 : Nat) : Int) := by unfold wrap64; omega
    have hlim : (acc.map toP).length < 8796093022208 := lt_lim _ (by rw [List.length_map]; omega)
    rw [foolscapref5_behind.l0, if_pos (by rw [List.length_map]; omega), if_pos (by omega), rdPz xs j z hz hjl, rLess_val, Option.bind_some, hw, List.drop_eq_getElem_cons hjl]
    show (if lessB a b (xs[j].1 : Int) (xs[j].2 : Int) = true then _ else _) = _
    by_cases h : lessB a b (xs[j].1 : Int) (xs[j].2 : Int) = true
    · rw [if_pos h, if_pos hlim, List.filter_cons_of_pos (p := fun x : Nat × Nat => lessB a b x.1 x.2) h]
      have := ih k (j + 1) _ (acc ++ [xs[j]]) rfl (by omega) (by omega) (by rw [List.length_append, List.length_singleton]; omega) (by omega)
      rw [List.append_assoc, List.map_append] at this
      exact this
    · rw [if_neg h, if_neg (by decide), List.filter_cons_of_neg (p := fun x : Nat × Nat => lessB a b x.1 x.2) h]
      exact ih k (j + 1) _ acc rfl (by omega) (by omega) (by omega) (by omega)
theorem behind_val (xs : List (Nat × Nat)) (hx : xs.length ≤ 1200) (a b : Int) (k : Nat) (hk : 1300 ≤ k) : foolscapref5_behind.f k (xs.map toP) a b false = some ((xs.filter fun x => lessB a b x.1 x.2).map toP) :=
  behind_l0 xs hx a b xs.length k 0 0 [] rfl (by omega) (by omega) (Nat.le_refl _) (by omega)
theorem ahead_l0 (xs : List (Nat × Nat)) (hx : xs.length ≤ 1200) (a b : Int) (d : Nat) : ∀ (k : Nat) (z : Int) (acc : List (Nat × Nat)), z = (d : Int) - 1 → d ≤ xs.length → acc.length + d ≤ xs.length → d + 1 ≤ k →
    foolscapref5_ahead.l0 k (xs.map toP) (acc.map toP) z a b = some ((acc ++ ((xs.take d).filter fun x => lessB x.1 x.2 a b).reverse).map toP) := by
  induction d with
  | zero =>
    intro k z acc hz hd ha hk
    obtain ⟨k, rfl⟩ : ∃ m, k = m + 1 := ⟨k - 1, by omega⟩
    rw [foolscapref5_ahead.l0, if_neg (by omega), List.take_zero, List.filter_nil, List.reverse_nil, List.append_nil]
  | succ d ih =>
    intro k z acc hz hd ha hk
    obtain ⟨k, rfl⟩ : ∃ m, k = m + 1 := ⟨k - 1, by omega⟩
    have hjl : d < xs.length := by omega
    have hw : wrap64 (z - 1) = (d : Int) - 1 := by unfold wrap64; omega
    have hlim : (acc.map toP).length < 8796093022208 := lt_lim _ (by rw [List.length_map]; omega)
    rw [foolscapref5_ahead.l0, if_pos (by omega), if_pos (by omega), if_pos (by rw [List.length_map]; omega), rdPz xs d z (by omega) hjl, rLess_val, Option.bind_some, hw, List.take_succ_eq_append_getElem hjl, List.filter_append, List.reverse_append]
    show (if lessB (xs[d].1 : Int) (xs[d].2 : Int) a b = true then _ else _) = _
    by_cases h : lessB (xs[d].1 : Int) (xs[d].2 : Int) a b = true
    · rw [if_pos h, if_pos hlim, List.filter_cons_of_pos (p := fun x : Nat × Nat => lessB x.1 x.2 a b) h, List.filter_nil]
      have := ih k _ (acc ++ [xs[d]]) rfl (by omega) (by rw [List.length_append, List.length_singleton]; omega) (by omega)
      rw [List.append_assoc, List.map_append] at this
      exact this
    · rw [if_neg h, List.filter_cons_of_neg (p := fun x : Nat × Nat => lessB x.1 x.2 a b) h, List.filter_nil]
      exact ih k _ acc rfl (by omega) (by omega) (by omega)
theorem ahead_val (xs : List (Nat × Nat)) (hx : xs.length ≤ 1200) (a b : Int) (k : Nat) (hk : 1300 ≤ k) : foolscapref5_ahead.f k (xs.map toP) a b = some ((xs.filter fun x => lessB x.1 x.2 a b).reverse.map toP) := by
  unfold foolscapref5_ahead.f
  have hw : wrap64 (((xs.map toP).length : Int) - 1) = (xs.length : Int) - 1 := by rw [List.length_map]; unfold wrap64; omega
  have := ahead_l0 xs hx a b xs.length k _ [] rfl (by omega) (by simp) (by omega)
  rw [List.take_length] at this
  rw [hw]; exact this
/-- the place that is told, out of a round of places -/
def toldR (n : Int) (zs : List (Nat × Nat)) : Int × Int × Int × Bool × Int × Bool :=
  (((zs.getD ((min n 1073741824 - 1) % (zs.length : Int)).toNat (0, 0)).1 : Int), ((zs.getD ((min n 1073741824 - 1) % (zs.length : Int)).toNat (0, 0)).2 : Int), 0, true, -1, true)
theorem s_end (k : Nat) (back : Bool) (n : Int) (hn : ¬ n < 1) (xs zs : List (Nat × Nat)) (z a b : Int) (hz : ¬ z < (xs.length : Int)) (h : 0 < zs.length) :
    foolscapref5_Search.l0 (k + 1) back n (xs.map toP) (zs.map toP) z a b = some (toldR n zs) := by
  have hm : mn n 1073741824 = min n 1073741824 := by unfold mn; omega
  have hw : wrap64 (min n 1073741824 - 1) = min n 1073741824 - 1 := by unfold wrap64; omega
  have h0 := Int.emod_nonneg (min n 1073741824 - 1) (show (zs.length : Int) ≠ 0 by omega)
  have h1 := Int.emod_lt_of_pos (min n 1073741824 - 1) (show (0 : Int) < zs.length by omega)
  have ht : Int.tmod (min n 1073741824 - 1) (zs.length : Int) = (min n 1073741824 - 1) % (zs.length : Int) := Int.tmod_eq_emod_of_nonneg (by omega)
  rw [foolscapref5_Search.l0, if_neg (by rw [List.length_map]; exact hz)]
  unfold foolscapref5_capped.f foolscapref5_jump.f
  rw [Option.bind_some, List.length_map, hm, hw, ht, if_neg (by omega), if_pos h0, if_pos h1, Option.bind_some, rdP zs _ (by omega)]
  rfl
theorem s_fwd (n : Int) (hn : ¬ n < 1) (xs : List (Nat × Nat)) (hx : xs.length ≤ 1200) (a b : Int) (d : Nat) : ∀ (k j : Nat) (z : Int) (acc : List (Nat × Nat)), z = j → j ≤ xs.length → xs.length - j = d → acc.length ≤ 2000 + j → 0 < (acc ++ (xs.drop j).filter fun x => !lessB a b x.1 x.2).length → 2 * d + 1 ≤ k →
    foolscapref5_Search.l0 k false n (xs.map toP) (acc.map toP) z a b = some (toldR n (acc ++ (xs.drop j).filter fun x => !lessB a b x.1 x.2)) := by
  induction d with
  | zero =>
    intro k j z acc hz hj hd ha hpos hk
    obtain ⟨k, rfl⟩ : ∃ m, k = m + 1 := ⟨k - 1, by omega⟩
    rw [List.drop_eq_nil_of_le (by omega), List.filter_nil, List.append_nil] at hpos ⊢
    exact s_end k false n hn xs acc z a b (by omega) hpos
  | succ d ih =>
    intro k j z acc hz hj hd ha hpos hk
    obtain ⟨k, rfl⟩ : ∃ m, k = m + 1 := ⟨k - 1, by omega⟩
    obtain ⟨k, rfl⟩ : ∃ m, k = m + 1 := ⟨k - 1, by omega⟩
    have hjl : j < xs.length := by omega
    have hw : wrap64 (z + 1) = ((j + 1 : Nat) : Int) := by unfold wrap64; omega
    have hlim : (acc.map toP).length < 8796093022208 := lt_lim _ (by rw [List.length_map]; omega)
    rw [foolscapref5_Search.l0, if_pos (by rw [List.length_map]; omega), if_neg (by decide), foolscapref5_Search.j3, if_pos (by omega), if_pos (by rw [List.length_map]; omega), if_neg (by decide), rdPz xs j z hz hjl, rLess_val, Option.bind_some, hw]
    rw [List.drop_eq_getElem_cons hjl] at hpos ⊢
    show (if lessB a b (xs[j].1 : Int) (xs[j].2 : Int) = true then _ else _) = _
    by_cases h : lessB a b (xs[j].1 : Int) (xs[j].2 : Int) = true
    · have hf : ¬ (!lessB a b (xs[j].1 : Int) (xs[j].2 : Int)) = true := by rw [h]; decide
      rw [List.filter_cons_of_neg (p := fun x : Nat × Nat => !lessB a b x.1 x.2) hf] at hpos ⊢
      rw [if_pos h]
      exact ih k (j + 1) _ acc rfl (by omega) (by omega) (by omega) hpos (by omega)
    · have hf : (!lessB a b (xs[j].1 : Int) (xs[j].2 : Int)) = true := by rw [Bool.not_eq_true'] ; simpa using h
      rw [List.filter_cons_of_pos (p := fun x : Nat × Nat => !lessB a b x.1 x.2) hf] at hpos ⊢
      rw [if_neg h, if_pos hlim]
      have e : acc ++ xs[j] :: (xs.drop (j + 1)).filter (fun x => !lessB a b x.1 x.2) = (acc ++ [xs[j]]) ++ (xs.drop (j + 1)).filter (fun x => !lessB a b x.1 x.2) := by rw [List.append_assoc]; rfl
      rw [e] at hpos ⊢
      have := ih k (j + 1) _ (acc ++ [xs[j]]) rfl (by omega) (by omega) (by rw [List.length_append, List.length_singleton]; omega) hpos (by omega)
      rw [List.map_append] at this
      exact this
theorem s_bck (n : Int) (hn : ¬ n < 1) (xs : List (Nat × Nat)) (hx : xs.length ≤ 1200) (a b : Int) (d : Nat) : ∀ (k j : Nat) (z : Int) (acc : List (Nat × Nat)), z = j → j + d = xs.length → acc.length ≤ 2000 + j → 0 < (acc ++ ((xs.take d).filter fun x => !lessB x.1 x.2 a b).reverse).length → 2 * d + 1 ≤ k →
    foolscapref5_Search.l0 k true n (xs.map toP) (acc.map toP) z a b = some (toldR n (acc ++ ((xs.take d).filter fun x => !lessB x.1 x.2 a b).reverse)) := by
  induction d with
  | zero =>
    intro k j z acc hz hj ha hpos hk
    obtain ⟨k, rfl⟩ : ∃ m, k = m + 1 := ⟨k - 1, by omega⟩
    rw [List.take_zero, List.filter_nil, List.reverse_nil, List.append_nil] at hpos ⊢
    exact s_end k true n hn xs acc z a b (by omega) hpos
  | succ d ih =>
    intro k j z acc hz hj ha hpos hk
    obtain ⟨k, rfl⟩ : ∃ m, k = m + 1 := ⟨k - 1, by omega⟩
    obtain ⟨k, rfl⟩ : ∃ m, k = m + 1 := ⟨k - 1, by omega⟩
    have hdl : d < xs.length := by omega
    have hw : wrap64 (z + 1) = ((j + 1 : Nat) : Int) := by unfold wrap64; omega
    have hw2 : wrap64 (wrap64 (((xs.map toP).length : Int) - 1) - z) = (d : Int) := by rw [List.length_map]; unfold wrap64; omega
    have hlim : (acc.map toP).length < 8796093022208 := lt_lim _ (by rw [List.length_map]; omega)
    rw [foolscapref5_Search.l0, if_pos (by rw [List.length_map]; omega), if_pos rfl, hw2, foolscapref5_Search.j3, if_pos (by omega), if_pos (by rw [List.length_map]; omega), if_pos rfl, rdPz xs d _ rfl hdl, rLess_val, Option.bind_some, hw]
    rw [List.take_succ_eq_append_getElem hdl, List.filter_append, List.reverse_append] at hpos ⊢
    show (if lessB (xs[d].1 : Int) (xs[d].2 : Int) a b = true then _ else _) = _
    by_cases h : lessB (xs[d].1 : Int) (xs[d].2 : Int) a b = true
    · have hf : ¬ (!lessB (xs[d].1 : Int) (xs[d].2 : Int) a b) = true := by rw [h]; decide
      rw [List.filter_cons_of_neg (p := fun x : Nat × Nat => !lessB x.1 x.2 a b) hf, List.filter_nil] at hpos ⊢
      rw [if_pos h]
      exact ih k (j + 1) _ acc rfl (by omega) (by omega) hpos (by omega)
    · have hf : (!lessB (xs[d].1 : Int) (xs[d].2 : Int) a b) = true := by rw [Bool.not_eq_true'] ; simpa using h
      rw [List.filter_cons_of_pos (p := fun x : Nat × Nat => !lessB x.1 x.2 a b) hf, List.filter_nil] at hpos ⊢
      rw [if_neg h, if_pos hlim]
      rw [show ([xs[d]] : List (Nat × Nat)).reverse = [xs[d]] from rfl, ← List.append_assoc] at hpos ⊢
      have := ih k (j + 1) _ (acc ++ [xs[d]]) rfl (by omega) (by rw [List.length_append, List.length_singleton]; omega) hpos (by omega)
      rw [List.map_append] at this
      exact this
theorem rPlace_val (l : List ByteArray) (a b : Int) : foolscapref5_Place.f l a b = some (placeB l a b) := Go.Proofs.Ytbfoflhfmhfofaa.Ext.place_is l a b
theorem seeN_fwd (a b : Int) (xs : List (Nat × Nat)) (h : xs.Pairwise ltP) : seeN a b false xs = (xs.filter fun x => lessB a b x.1 x.2) ++ (xs.filter fun x => !lessB a b x.1 x.2) := by
  unfold seeN
  rw [if_neg (by decide), not_behind a b xs h, List.append_assoc]
  congr 1
  refine List.filter_congr fun x _ => ?_
  cases h1 : lessB a b x.1 x.2 with
  | false => simp
  | true =>
    have : lessB x.1 x.2 a b = false := by rw [less_f]; rw [less_t] at h1; omega
    simp [this]
theorem seeN_bck (a b : Int) (xs : List (Nat × Nat)) (h : xs.Pairwise ltP) : seeN a b true xs = (xs.filter fun x => lessB x.1 x.2 a b).reverse ++ (xs.filter fun x => !lessB x.1 x.2 a b).reverse := by
  unfold seeN
  rw [if_pos rfl, not_ahead a b xs h, List.reverse_append, own_one a b xs h, List.append_assoc]
theorem rSearch_val (k : Nat) (hk : 5000 ≤ k) (l : List ByteArray) (ht : total l ≤ 1200) (hl : l.length ≤ 40) (p : ByteArray) (hp : p.size ≤ 1200) (a b : Int) (back : Bool) (n : Int) :
    foolscapref5_Search.f k l a b p back n = some (if n < 1 then (0, 0, 0, false, 0, false) else if placeB l a b = false then (0, 0, 0, false, 0, false) else searchR a b back n (allOcc l p)) := by
  have hle := allOcc_le l p ht
  have hso := allOcc_sorted l p
  unfold foolscapref5_Search.f
  rw [All_val k (by omega) l p ht hl hp, Option.bind_some]
  unfold foolscapref5_may.f
  rw [rPlace_val, Option.bind_some]
  revert hle hso
  generalize allOcc l p = xs
  intro hle hso
  obtain ⟨k, rfl⟩ : ∃ m, k = m + 1 := ⟨k - 1, by omega⟩
  have hnone : ∀ c : Bool, c = true → foolscapref5_Search.j0 (k + 1) back n (xs.map toP) c a b = some (0, 0, 0, false, 0, false) := by
    intro c hc
    rw [foolscapref5_Search.j0, if_pos hc]; rfl
  by_cases hpl : placeB l a b = true
  · rw [if_pos hpl, Option.bind_some, if_neg (show ¬ placeB l a b = false by rw [hpl]; decide)]
    by_cases hn : n < 1
    · rw [if_pos hn, if_neg (by simp; omega)]
      exact hnone true rfl
    · rw [if_neg hn, if_pos (by simp; omega)]
      by_cases hx : xs = []
      · rw [hnone _ (by rw [hx]; rfl)]
        unfold searchR
        rw [if_pos (by rw [seeL_is, hx]; cases back <;> rfl)]
      · have hxp : 0 < xs.length := List.length_pos_iff.2 hx
        have hsl := seeN_length a b back xs
        have hsee : seeN a b back xs ≠ [] := fun h => by rw [h] at hsl; simp at hsl; omega
        have hc : ¬ (((xs.map toP).length : Int) == 0) = true := by rw [List.length_map]; simp; exact hx
        rw [searchR_is a b back n hn xs hsee, foolscapref5_Search.j0, if_neg hc, behind_val xs hle a b k (by omega), Option.bind_some]
        obtain ⟨k, rfl⟩ : ∃ m, k = m + 1 := ⟨k - 1, by omega⟩
        cases back with
        | false =>
          rw [if_neg (by decide), foolscapref5_Search.j1]
          have e := seeN_fwd a b xs hso
          rw [e] at hsl
          have hfl : (xs.filter fun x => lessB a b x.1 x.2).length ≤ xs.length := List.length_filter_le _ _
          have := s_fwd n hn xs hle a b xs.length k 0 0 (xs.filter fun x => lessB a b x.1 x.2) rfl (by omega) (by omega) (by omega) (by rw [List.drop_zero, hsl]; omega) (by omega)
          rw [List.drop_zero, ← e] at this
          exact this
        | true =>
          rw [if_pos rfl, ahead_val xs hle a b (k + 1) (by omega), Option.bind_some, foolscapref5_Search.j1]
          have e := seeN_bck a b xs hso
          rw [e] at hsl
          have hfl : (xs.filter fun x => lessB x.1 x.2 a b).length ≤ xs.length := List.length_filter_le _ _
          have := s_bck n hn xs hle a b xs.length k 0 0 (xs.filter fun x => lessB x.1 x.2 a b).reverse rfl (by omega) (by rw [List.length_reverse]; omega) (by rw [List.take_length, hsl]; omega) (by omega)
          rw [List.take_length, ← e] at this
          exact this
  · have hpf : placeB l a b = false := by simpa using hpl
    rw [if_neg hpl, Option.bind_some, if_neg (by decide), hnone true rfl, if_pos hpf]
    by_cases hn : n < 1
    · rw [if_pos hn]
    · rw [if_neg hn]

theorem same_is (r : Int × Int × Int × Bool × Int × Bool) : foolscaplaw12_same.f r.1 r.2.1 r.2.2.1 r.2.2.2.1 r.2.2.2.2.1 r.2.2.2.2.2 r.1 r.2.1 r.2.2.1 r.2.2.2.1 r.2.2.2.2.1 r.2.2.2.2.2 = some true := by
  unfold foolscaplaw12_same.f
  simp
section
variable (l : List ByteArray) (ht : total l ≤ 1200) (hl : l.length ≤ 40) (n : Int) (back : Bool)
include ht hl
theorem fs_l2 (p : ByteArray) (hp : p.size ≤ 1200) (x61 : List ByteArray) (x62 x63 : Int) (x72 : List S28) (x73 x74 : Int) (x81 : List Int) (hx : x81.length ≤ 10) (u0 u1 v0 v1 q0 q1 : Int) (B : Nat) (hB : 5000 ≤ B)
    (hnext : ∀ k, B ≤ k → foolscaplaw12_FindSearch.l1 k l n back p x61 x62 x63 x72 x73 (wrap64 (x74 + 1)) u0 u1 v0 v1 = some true) (d : Nat) :
    ∀ (k j : Nat) (z : Int), z = j → j ≤ x81.length → x81.length - j = d → B + d + 1 ≤ k →
    foolscaplaw12_FindSearch.l2 k l n back p x61 x62 x63 x72 x73 x74 x81 (x81.length : Int) z u0 u1 v0 v1 q0 q1 = some true := by
  induction d with
  | zero =>
    intro k j z hz hj hd hk
    obtain ⟨k, rfl⟩ : ∃ m, k = m + 1 := ⟨k - 1, by omega⟩
    rw [foolscaplaw12_FindSearch.l2, if_neg (by omega)]
    exact hnext k (by omega)
  | succ d ih =>
    intro k j z hz hj hd hk
    obtain ⟨k, rfl⟩ : ∃ m, k = m + 1 := ⟨k - 1, by omega⟩
    have hw : wrap64 (z + 1) = ((j + 1 : Nat) : Int) := by unfold wrap64; omega
    rw [foolscaplaw12_FindSearch.l2, if_pos (by omega), if_pos (by omega), if_pos (by omega), Search_val l ht hl p hp, Option.bind_some, rSearch_val k (by omega) l ht hl p hp, Option.bind_some, same_is, Option.bind_some, if_pos rfl, hw]
    exact ih k (j + 1) _ rfl (by omega) (by omega) (by omega)
theorem fs_l1 (p : ByteArray) (hp : p.size ≤ 1200) (x61 : List ByteArray) (x62 x63 : Int) (x72 : List S28) (hx : x72.length ≤ 10) (u0 u1 v0 v1 : Int) (B : Nat) (hB : 5000 ≤ B)
    (hnext : ∀ k, B ≤ k → foolscaplaw12_FindSearch.l0 k l n back x61 x62 (wrap64 (x63 + 1)) u0 u1 v0 v1 = some true) (d : Nat) :
    ∀ (k j : Nat) (z : Int), z = j → j ≤ x72.length → x72.length - j = d → B + 5 * d + 1 ≤ k →
    foolscaplaw12_FindSearch.l1 k l n back p x61 x62 x63 x72 (x72.length : Int) z u0 u1 v0 v1 = some true := by
  induction d with
  | zero =>
    intro k j z hz hj hd hk
    obtain ⟨k, rfl⟩ : ∃ m, k = m + 1 := ⟨k - 1, by omega⟩
    rw [foolscaplaw12_FindSearch.l1, if_neg (by omega)]
    exact hnext k (by omega)
  | succ d ih =>
    intro k j z hz hj hd hk
    obtain ⟨k, rfl⟩ : ∃ m, k = m + 1 := ⟨k - 1, by omega⟩
    have hw : wrap64 (z + 1) = ((j + 1 : Nat) : Int) := by unfold wrap64; omega
    rw [foolscaplaw12_FindSearch.l1, if_pos (by omega), if_pos (by omega), if_pos (by omega), Option.bind_some]
    exact fs_l2 l ht hl n back p hp x61 x62 x63 x72 _ z [n, Int.tmod n 9, 1] (by simp) u0 u1 v0 v1 _ _ (B + 5 * d + 1) (by omega) (fun k' hk' => by rw [hw]; exact ih k' (j + 1) _ rfl (by omega) (by omega) hk') 3 k 0 0 rfl (by simp) (by simp) (by omega)
theorem fs_l0 (x61 : List ByteArray) (hx : x61.length ≤ 10) (hs : ∀ s ∈ x61, s.size ≤ 1200) (u0 u1 v0 v1 : Int) (d : Nat) :
    ∀ (k j : Nat) (z : Int), z = j → j ≤ x61.length → x61.length - j = d → 5000 + 20 * d + 1 ≤ k →
    foolscaplaw12_FindSearch.l0 k l n back x61 (x61.length : Int) z u0 u1 v0 v1 = some true := by
  induction d with
  | zero =>
    intro k j z hz hj hd hk
    obtain ⟨k, rfl⟩ : ∃ m, k = m + 1 := ⟨k - 1, by omega⟩
    rw [foolscaplaw12_FindSearch.l0, if_neg (by omega)]
  | succ d ih =>
    intro k j z hz hj hd hk
    obtain ⟨k, rfl⟩ : ∃ m, k = m + 1 := ⟨k - 1, by omega⟩
    have hw : wrap64 (z + 1) = ((j + 1 : Nat) : Int) := by unfold wrap64; omega
    rw [foolscaplaw12_FindSearch.l0, if_pos (by omega), if_pos (by omega), if_pos (by omega), Option.bind_some]
    have hp : (rdOf ByteArray.empty x61 z).size ≤ 1200 := by
      refine hs _ ?_
      unfold rdOf; rw [List.getD_eq_getElem?_getD, List.getElem?_eq_getElem (by omega)]; exact List.getElem_mem _
    exact fs_l1 l ht hl n back _ hp x61 _ z _ (by simp) u0 u1 v0 v1 (5000 + 20 * d + 1) (by omega) (fun k' hk' => by rw [hw]; exact ih k' (j + 1) _ rfl (by omega) (by omega) hk') 3 k 0 0 rfl (by simp) (by simp) (by omega)
end
theorem FindSearch (l : List ByteArray) (r0 r1 x y : Int) (p : ByteArray) (kk n : Int) (back : Bool) (hsz : ∀ s ∈ l, s.size ≤ 140737488351232) (hx : 0 ≤ x ∧ x ≤ 65535) (hy : 0 ≤ y ∧ y ≤ 65535) (hkk : 0 ≤ kk ∧ kk ≤ 255) : ∃ k, foolscaplaw12_FindSearch.f k l r0 r1 x y p kk n back = some true := by
  obtain ⟨K, hK⟩ : ∃ K, K = 6000 := ⟨_, rfl⟩
  refine ⟨K, ?_⟩
  unfold foolscaplaw12_FindSearch.f
  rw [known12_val, Option.bind_some, if_pos rfl]
  obtain ⟨t, ht, hT⟩ := Text_val K l (by omega) hsz
  rw [ht, Option.bind_some]
  obtain ⟨K, rfl⟩ : ∃ m, K = m + 1 := ⟨K - 1, by omega⟩
  by_cases htt : t = true
  · obtain ⟨h0, h1, h2⟩ := hT htt
    have hs : ∀ s ∈ l, s.size ≤ 1200 := fun s hs => by have := total_mem hs; omega
    rw [if_pos htt, foolscaplaw12_FindSearch.j0]
    by_cases hps : (p.size : Int) > 60
    · rw [if_pos (by simpa using hps)]
    · rw [if_neg (by simpa using hps)]
      obtain ⟨u, v, hp, hpl⟩ := seat_val l h0 h1 hs x y hx hy
      obtain ⟨q0, q1, q2, q3⟩ : 0 ≤ u ∧ u < l.length ∧ 0 ≤ v ∧ v ≤ ((rdOf ByteArray.empty l u).size : Int) := by simpa [placeB] using hpl
      have hss := rd_size l hs u
      rw [hp, Option.bind_some, if_pos q0, if_pos q1, if_pos q2, if_pos q3]
      revert q3 hss
      generalize rdOf ByteArray.empty l u = s
      intro q3 hss
      have hkm : Int.tmod kk 4 = kk % 4 := Int.tmod_eq_emod_of_nonneg hkk.1
      have hm0 : 0 ≤ mn (wrap64 (Int.tmod kk 4)) ((s.extract v.toNat s.size).size : Int) := by rw [hkm]; unfold mn wrap64; omega
      have hm1 : mn (wrap64 (Int.tmod kk 4)) ((s.extract v.toNat s.size).size : Int) ≤ ((s.extract v.toNat s.size).size : Int) := by unfold mn; omega
      rw [if_pos hm0, if_pos hm1, Option.bind_some]
      refine fs_l0 l h2 h1 n back _ (by simp) ?_ r0 r1 u v 2 K 0 0 rfl (by simp) (by simp) (by omega)
      intro t2 ht2
      simp only [List.mem_cons, List.not_mem_nil, or_false] at ht2
      rcases ht2 with rfl | rfl
      · omega
      · rw [ByteArray.size_extract, ByteArray.size_extract]; omega
  · rw [if_neg htt, foolscaplaw12_FindSearch.j0, if_pos rfl]

theorem FindSearch_walk (A0 : Option Addr) (c0 : Nat) (l0 : List ByteArray) (a1 b1 a2 a3 : Int) (a4 : ByteArray) (a5 a6 : Int) (a7 : Bool) (w : World)
    (hr0 : Kd.C Kd.string w A0 l0.length l0) (hc0 : l0.length ≤ c0) (hz0 : l0.length * 16 ≤ 140737488351232) (hs0 : ∀ s ∈ l0, s.size ≤ 140737488351232)
    (wa1 : (Lit.int .i64 a1).wf = true) (wb1 : (Lit.int .i64 b1).wf = true) (w2 : (Lit.int .u16 a2).wf = true) (w3 : (Lit.int .u16 a3).wf = true) (w4 : a4.size ≤ 140737488351232) (w5 : (Lit.int .u8 a5).wf = true) (w6 : (Lit.int .i64 a6).wf = true) :
    Calls Try.prog 6 #[.slice A0 l0.length c0, .agg #[.int .i64 a1, .int .i64 b1], .int .u16 a2, .int .u16 a3, .string a4, .int .u8 a5, .int .i64 a6, .bool a7] w fun e w' => e = .returned (.bool true) ∧ Below w.heap.size w w' := by
  obtain ⟨k, hk⟩ := FindSearch l0 a1 b1 a2 a3 a4 a5 a6 a7 hs0 (bounds_u16 w2) (bounds_u16 w3) (bounds_u8 w5)
  exact foolscaplaw12_FindSearch.calls k A0 c0 l0 a1 b1 a2 a3 a4 a5 a6 a7 true w hr0 hc0 hk

end Go.Proofs.Ytbfoflhfmhfofaa.Pure
