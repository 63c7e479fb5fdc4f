/- ClassFirst is true for every byte and every string: ahead of the place that First tells there are blanks alone; a string has at most 140737488351232 bytes. -/
import Derived.Test.YtdcbgmeljakmcaaPClassFirstx3
import Derived.KernelRfl
import Derived.Lib.Strings
import Derived.OpenShut
namespace Go.Proofs.Ytdcbgmeljakmcaa.Pure
open Go.RowKit Go.Proofs.Ytdcbgmeljakmcaa.PClassFirst Go.Proofs.YtdcbgmeljakmcaaW.PrintWords Go.Proofs.YtdcbgmeljakmcaaW.PrintLast Go.Proofs.YtdcbgmeljakmcaaW.PrintMore

/-- a blank: a space or a tab -/
def isBl (c : Int) : Prop := c = 32 ∨ c = 9
instance (c : Int) : Decidable (isBl c) := by unfold isBl; infer_instance
/-- the class of a byte (chapter 5) -/
def ofC (c : Int) (big : Bool) : Int :=
  if c = 32 ∨ c = 9 then 0
  else if big = true then 1
  else if (97 ≤ c ∧ c ≤ 122) ∨ (65 ≤ c ∧ c ≤ 90) ∨ (48 ≤ c ∧ c ≤ 57) ∨ c = 95 ∨ 128 ≤ c then 1
  else 2

theorem Of_val (k : Nat) (c : Int) (big : Bool) : class_Of.f (k + 4) c big = some (ofC c big) := by
  unfold class_Of.f ofC
  simp only [class_Of.j0, class_Of.j1, class_Of.j2, class_Of.j3]
  by_cases h1 : c = 32
  · simp [h1]
  · by_cases h2 : c = 9
    · simp [h2]
    · have h3 : (c == 9) = false := by simp [h2]
      simp only [h1, h3, if_false, false_or, Bool.false_eq_true]
      cases big
      · simp only [Bool.false_eq_true, if_false, decide_eq_true_eq, ge_iff_le, h2]
        by_cases a : 97 ≤ c <;> by_cases a' : c ≤ 122 <;> by_cases b : 65 ≤ c <;> by_cases b' : c ≤ 90 <;> by_cases d : 48 ≤ c <;> by_cases d' : c ≤ 57 <;> by_cases e : c = 95 <;> by_cases f : 128 ≤ c <;> simp [a, a', b, b', d, d', e, f] <;> omega
      · simp [h2]

theorem ofC_big (c : Int) : ofC c true = if isBl c then 0 else 1 := by
  unfold ofC isBl; split <;> simp_all
theorem ofC_bl (c : Int) (b : Bool) : ofC c b = 0 ↔ isBl c := by
  unfold ofC isBl
  constructor
  · intro h
    split at h
    · assumption
    · split at h
      · exact absurd h (by decide)
      · split at h <;> exact absurd h (by decide)
  · intro h; rw [if_pos h]

/-- where First's loop ends -/
def FirstAt (s : ByteArray) (r : Int) : Prop :=
  0 ≤ r ∧ (∀ j : Int, 0 ≤ j → j < r → isBl (bt s j)) ∧ ((r < s.size ∧ ¬ isBl (bt s r)) ∨ (r = mx ((s.size : Int) - 1) 0 ∧ ∀ j : Int, 0 ≤ j → j < s.size → isBl (bt s j)))

theorem First_loop (s : ByteArray) (hn : s.size ≤ 140737488351300) (d : Nat) : ∀ (k : Nat) (i : Int), 0 ≤ i → i ≤ s.size → (s.size : Int) - i = d → d + 4 < k → (∀ j : Int, 0 ≤ j → j < i → isBl (bt s j)) →
    ∃ r, class_First.l0 k s s.size i = some r ∧ FirstAt s r := by
  induction d with
  | zero =>
    intro k i h0 h1 hd hk hb
    obtain ⟨k, rfl⟩ : ∃ m, k = m + 1 := ⟨k - 1, by omega⟩
    have he : i = s.size := by omega
    have hw : wrap64 ((s.size : Int) - 1) = (s.size : Int) - 1 := by unfold wrap64; omega
    refine ⟨mx ((s.size : Int) - 1) 0, ?_, ?_, ?_, .inr ⟨rfl, by subst he; exact hb⟩⟩
    · simp only [class_First.l0]; rw [if_neg (by omega), hw]
    · unfold mx; split <;> omega
    · intro j j0 j1; refine hb j j0 ?_; unfold mx at j1; split at j1 <;> omega
  | succ d ih =>
    intro k i h0 h1 hd hk hb
    obtain ⟨k, rfl⟩ : ∃ m, k = m + 1 := ⟨k - 1, by omega⟩
    have hlt : i < (s.size : Int) := by omega
    have hof : class_Of.f k (bt s i) true = some (ofC (bt s i) true) := by
      obtain ⟨k, rfl⟩ : ∃ m, k = m + 4 := ⟨k - 4, by omega⟩
      exact Of_val k _ _
    by_cases hz : isBl (bt s i)
    · have hw : wrap64 (i + 1) = i + 1 := by unfold wrap64; omega
      obtain ⟨r, hr, h⟩ := ih k (i + 1) (by omega) (by omega) (by omega) (by omega) (fun j j0 j1 => by
        by_cases hj : j < i
        · exact hb j j0 hj
        · have : j = i := by omega
          subst this; exact hz)
      refine ⟨r, ?_, h⟩
      simp only [class_First.l0]; rw [if_pos hlt, if_pos h0, if_pos hlt, hof]; simp only [Option.bind_some]
      rw [if_pos ((ofC_bl _ _).2 hz), hw]; exact hr
    · refine ⟨i, ?_, h0, hb, .inl ⟨hlt, hz⟩⟩
      simp only [class_First.l0]; rw [if_pos hlt, if_pos h0, if_pos hlt, hof]; simp only [Option.bind_some]
      rw [if_neg (fun h => hz ((ofC_bl _ _).1 h))]

theorem First_val (k : Nat) (s : ByteArray) (hn : s.size ≤ 140737488351300) (hk : s.size + 4 < k) : ∃ r, class_First.f k s = some r ∧ FirstAt s r := by
  unfold class_First.f
  exact First_loop s hn s.size k 0 (by omega) (by omega) (by omega) hk (fun j j0 j1 => by omega)

theorem FirstAt_one {s : ByteArray} {r q : Int} (h : FirstAt s r) (h' : FirstAt s q) : r = q := by
  obtain ⟨r0, rb, rc⟩ := h
  obtain ⟨q0, qb, qc⟩ := h'
  rcases rc with ⟨rl, rn⟩ | ⟨re, ra⟩
  · rcases qc with ⟨ql, qn⟩ | ⟨qe, qa⟩
    · rcases Int.lt_trichotomy r q with h | h | h
      · exact absurd (qb r r0 h) rn
      · exact h
      · exact absurd (rb q q0 h) qn
    · exact absurd (qa r r0 rl) rn
  · rcases qc with ⟨ql, qn⟩ | ⟨qe, qa⟩
    · exact absurd (ra q q0 ql) qn
    · rw [re, qe]

theorem known_val (k : Nat) (hk : 20 ≤ k) : foolscaplaw5_known.f k = some true := at_rounds foolscaplaw5_known.mono hk (by kernel_rfl)

theorem toList_nil_size (s : ByteArray) : s.toList = ([] : List UInt8) ↔ s.size = 0 := by
  rw [ByteArray.toList_eq, Lib.size_eq]
  exact List.length_eq_zero_iff.symm

theorem ahead_blank (s : ByteArray) (r : Int) (d : Nat) (hs : s.size ≤ 1000) (h : FirstAt s r) : ∀ (k : Nat) (i : Int), 0 ≤ i → i ≤ r → r - i = d → d + 4 < k → 0 < s.size →
    foolscaplaw5_ClassFirst.l1 k s r i = some true := by
  have hr : r < s.size ∨ s.size = 0 := by
    obtain ⟨_, _, h | h⟩ := h
    · exact .inl h.1
    · have := h.1; unfold mx at this; split at this <;> omega
  induction d with
  | zero =>
    intro k i h0 h1 hd hk hz
    obtain ⟨k, rfl⟩ : ∃ m, k = m + 5 := ⟨k - 5, by omega⟩
    simp only [foolscaplaw5_ClassFirst.l1]
    rw [if_neg (by omega), if_pos (by omega), if_pos (by omega), Of_val k]; simp only [Option.bind_some]
    by_cases hb : isBl (bt s r)
    · have hw : wrap64 ((s.size : Int) - 1) = (s.size : Int) - 1 := by unfold wrap64; omega
      obtain ⟨_, _, h | h⟩ := h
      · exact absurd hb h.2
      · have e := h.1
        have : mx ((s.size : Int) - 1) 0 = (s.size : Int) - 1 := by unfold mx; rw [if_neg (by omega)]
        have hne : ¬ ofC (bt s r) true = 1 := by rw [ofC_big, if_pos hb]; decide
        rw [if_neg hne, hw, e, this]; simp
    · have : ofC (bt s r) true = 1 := by rw [ofC_big, if_neg hb]
      rw [if_pos this]
  | succ d ih =>
    intro k i h0 h1 hd hk hz
    obtain ⟨k, rfl⟩ : ∃ m, k = m + 5 := ⟨k - 5, by omega⟩
    simp only [foolscaplaw5_ClassFirst.l1]
    have hb : isBl (bt s i) := h.2.1 i h0 (by omega)
    have hw : wrap64 (i + 1) = i + 1 := by unfold wrap64; omega
    rw [if_pos (by omega), if_pos h0, if_pos (by omega), Of_val k]; simp only [Option.bind_some]
    rw [if_pos ((ofC_bl _ _).2 hb), hw]
    exact ih (k + 4) (i + 1) (by omega) (by omega) (by omega) (by omega) hz

theorem blanks_loop (a : Int) (ha : 0 ≤ a) (n : Nat) : ∀ (k : Nat) (t : ByteArray) (i : Int), 0 ≤ i → i ≤ 9 → (9 : Int) - i = n → (t.size : Int) ≤ 200 + i → t.size + 2 * n + 300 < k →
    foolscaplaw5_ClassFirst.l0 k a t i = some true := by
  have hm : wrap64 (Int.tmod a 9) = a % 9 := by rw [Int.tmod_eq_emod_of_nonneg ha]; unfold wrap64; omega
  induction n with
  | zero =>
    intro k t i h0 h1 hd ht hk
    obtain ⟨k, rfl⟩ : ∃ m, k = m + 1 := ⟨k - 1, by omega⟩
    simp only [foolscaplaw5_ClassFirst.l0]
    rw [if_neg (by omega)]
    obtain ⟨r, hr, fr⟩ := First_val k t (by omega) (by omega)
    rw [hr]; simp only [Option.bind_some]
    by_cases hz : t.size = 0
    · rw [if_pos ((toList_nil_size t).2 hz)]
      have : r = 0 := by
        obtain ⟨_, _, h | h⟩ := fr
        · omega
        · rw [h.1, hz]; rfl
      rw [this]; rfl
    · rw [if_neg (fun h => hz ((toList_nil_size t).1 h))]
      have hrl : r ≤ t.size := by
        obtain ⟨_, _, h | h⟩ := fr
        · omega
        · rw [h.1]; unfold mx; split <;> omega
      have hr0 := fr.1
      exact ahead_blank t r r.toNat (by omega) fr k 0 (by omega) (by omega) (by omega) (by omega) (by omega)
  | succ n ih =>
    intro k t i h0 h1 hd ht hk
    by_cases hlt : i < a % 9
    · obtain ⟨k, rfl⟩ : ∃ m, k = m + 1 := ⟨k - 1, by omega⟩
      simp only [foolscaplaw5_ClassFirst.l0]
      have h2 : Int.tmod i 2 = i % 2 := Int.tmod_eq_emod_of_nonneg h0
      have h3 : wrap64 (i % 2 + 1) = i % 2 + 1 := by unfold wrap64; omega
      have h4 : wrap64 (i + 1) = i + 1 := by unfold wrap64; omega
      rw [hm, h2, h3, if_pos hlt, if_pos (by omega), if_pos (by omega), if_pos (by omega)]
      have hs : (ByteArray.extract (⟨#[32, 9]⟩ : ByteArray) (i % 2).toNat (i % 2 + 1).toNat).size = 1 := by
        rw [ByteArray.size_extract]
        show min _ 2 - _ = 1
        omega
      rw [if_pos (by rw [hs]; omega), h4]
      have hz : (ByteArray.extract (⟨#[32, 9]⟩ : ByteArray) (i % 2).toNat (i % 2 + 1).toNat ++ t).size = t.size + 1 := by
        rw [ByteArray.size_append, hs]; omega
      exact ih k _ (i + 1) (by omega) (by omega) (by omega) (by rw [hz]; omega) (by rw [hz]; omega)
    · obtain ⟨k, rfl⟩ : ∃ m, k = m + 1 := ⟨k - 1, by omega⟩
      simp only [foolscaplaw5_ClassFirst.l0]
      rw [hm, if_neg hlt]
      obtain ⟨r, hr, fr⟩ := First_val k t (by omega) (by omega)
      rw [hr]; simp only [Option.bind_some]
      by_cases hz : t.size = 0
      · rw [if_pos ((toList_nil_size t).2 hz)]
        have : r = 0 := by
          obtain ⟨_, _, h | h⟩ := fr
          · omega
          · rw [h.1, hz]; rfl
        rw [this]; rfl
      · rw [if_neg (fun h => hz ((toList_nil_size t).1 h))]
        have hrl : r ≤ t.size := by
          obtain ⟨_, _, h | h⟩ := fr
          · omega
          · rw [h.1]; unfold mx; split <;> omega
        have hr0 := fr.1
        exact ahead_blank t r r.toNat (by omega) fr k 0 (by omega) (by omega) (by omega) (by omega) (by omega)

theorem ClassFirst : foolscaplaw5_ClassFirst.Pure := by
  intro a s ha hs
  refine ⟨s.size + 1000, ?_⟩
  unfold foolscaplaw5_ClassFirst.f
  rw [known_val _ (by omega)]; simp only [Option.bind_some, if_true]
  by_cases hl : (s.size : Int) > 200
  · rw [if_pos hl]
  · rw [if_neg hl]
    have h0 : 0 ≤ a := (bounds_u8 ha).1
    exact blanks_loop a h0 9 (s.size + 1000) s 0 (by omega) (by omega) (by omega) (by omega) (by omega)

end Go.Proofs.Ytdcbgmeljakmcaa.Pure
