/- ClassTells is true for every byte and every string: the program's Of and First tell what the reference's tell; a string has at most 140737488351232 bytes. -/
import Derived.Test.YtdcbgmeljakmcaaPClassTellsx4
import Derived.KernelRfl
import Derived.Lib.Strings
import Derived.OpenShut
namespace Go.Proofs.Ytdcbgmeljakmcaa.Pure
open Go.RowKit Go.Proofs.Ytdcbgmeljakmcaa.PClassTells Go.Proofs.YtdcbgmeljakmcaaW.PrintWords Go.Proofs.YtdcbgmeljakmcaaW.PrintLast Go.Proofs.YtdcbgmeljakmcaaW.PrintMore

/-- a blank: a space or a tab -/
def isBl (c : Int) : Prop := c = 32 ∨ c = 9
instance (c : Int) : Decidable (isBl c) := by unfold isBl; infer_instance
/-- the class of a byte (chapter 5) -/
def ofC (c : Int) (big : Bool) : Int :=
  if c = 32 ∨ c = 9 then 0
  else if big = true then 1
  else if (97 ≤ c ∧ c ≤ 122) ∨ (65 ≤ c ∧ c ≤ 90) ∨ (48 ≤ c ∧ c ≤ 57) ∨ c = 95 ∨ 128 ≤ c then 1
  else 2

theorem Of_val (k : Nat) (c : Int) (big : Bool) : class_Of.f (k + 4) c big = some (ofC c big) := by
  unfold class_Of.f ofC
  simp only [class_Of.j0, class_Of.j1, class_Of.j2, class_Of.j3]
  by_cases h1 : c = 32
  · simp [h1]
  · by_cases h2 : c = 9
    · simp [h2]
    · have h3 : (c == 9) = false := by simp [h2]
      simp only [h1, h3, if_false, false_or, Bool.false_eq_true]
      cases big
      · simp only [Bool.false_eq_true, if_false, decide_eq_true_eq, ge_iff_le, h2]
        by_cases a : 97 ≤ c <;> by_cases a' : c ≤ 122 <;> by_cases b : 65 ≤ c <;> by_cases b' : c ≤ 90 <;> by_cases d : 48 ≤ c <;> by_cases d' : c ≤ 57 <;> by_cases e : c = 95 <;> by_cases f : 128 ≤ c <;> simp [a, a', b, b', d, d', e, f] <;> omega
      · simp [h2]

theorem ofC_big (c : Int) : ofC c true = if isBl c then 0 else 1 := by
  unfold ofC isBl; split <;> simp_all
theorem ofC_bl (c : Int) (b : Bool) : ofC c b = 0 ↔ isBl c := by
  unfold ofC isBl
  constructor
  · intro h
    split at h
    · assumption
    · split at h
      · exact absurd h (by decide)
      · split at h <;> exact absurd h (by decide)
  · intro h; rw [if_pos h]

/-- where First's loop ends -/
def FirstAt (s : ByteArray) (r : Int) : Prop :=
  0 ≤ r ∧ (∀ j : Int, 0 ≤ j → j < r → isBl (bt s j)) ∧ ((r < s.size ∧ ¬ isBl (bt s r)) ∨ (r = mx ((s.size : Int) - 1) 0 ∧ ∀ j : Int, 0 ≤ j → j < s.size → isBl (bt s j)))

theorem First_loop (s : ByteArray) (hn : s.size ≤ 140737488351300) (d : Nat) : ∀ (k : Nat) (i : Int), 0 ≤ i → i ≤ s.size → (s.size : Int) - i = d → d + 4 < k → (∀ j : Int, 0 ≤ j → j < i → isBl (bt s j)) →
    ∃ r, class_First.l0 k s s.size i = some r ∧ FirstAt s r := by
  induction d with
  | zero =>
    intro k i h0 h1 hd hk hb
    obtain ⟨k, rfl⟩ : ∃ m, k = m + 1 := ⟨k - 1, by omega⟩
    have he : i = s.size := by omega
    have hw : wrap64 ((s.size : Int) - 1) = (s.size : Int) - 1 := by unfold wrap64; omega
    refine ⟨mx ((s.size : Int) - 1) 0, ?_, ?_, ?_, .inr ⟨rfl, by subst he; exact hb⟩⟩
    · simp only [class_First.l0]; rw [if_neg (by omega), hw]
    · unfold mx; split <;> omega
    · intro j j0 j1; refine hb j j0 ?_; unfold mx at j1; split at j1 <;> omega
  | succ d ih =>
    intro k i h0 h1 hd hk hb
    obtain ⟨k, rfl⟩ : ∃ m, k = m + 1 := ⟨k - 1, by omega⟩
    have hlt : i < (s.size : Int) := by omega
    have hof : class_Of.f k (bt s i) true = some (ofC (bt s i) true) := by
      obtain ⟨k, rfl⟩ : ∃ m, k = m + 4 := ⟨k - 4, by omega⟩
      exact Of_val k _ _
    by_cases hz : isBl (bt s i)
    · have hw : wrap64 (i + 1) = i + 1 := by unfold wrap64; omega
      obtain ⟨r, hr, h⟩ := ih k (i + 1) (by omega) (by omega) (by omega) (by omega) (fun j j0 j1 => by
        by_cases hj : j < i
        · exact hb j j0 hj
        · have : j = i := by omega
          subst this; exact hz)
      refine ⟨r, ?_, h⟩
      simp only [class_First.l0]; rw [if_pos hlt, if_pos h0, if_pos hlt, hof]; simp only [Option.bind_some]
      rw [if_pos ((ofC_bl _ _).2 hz), hw]; exact hr
    · refine ⟨i, ?_, h0, hb, .inl ⟨hlt, hz⟩⟩
      simp only [class_First.l0]; rw [if_pos hlt, if_pos h0, if_pos hlt, hof]; simp only [Option.bind_some]
      rw [if_neg (fun h => hz ((ofC_bl _ _).1 h))]

theorem First_val (k : Nat) (s : ByteArray) (hn : s.size ≤ 140737488351300) (hk : s.size + 4 < k) : ∃ r, class_First.f k s = some r ∧ FirstAt s r := by
  unfold class_First.f
  exact First_loop s hn s.size k 0 (by omega) (by omega) (by omega) hk (fun j j0 j1 => by omega)

theorem FirstAt_one {s : ByteArray} {r q : Int} (h : FirstAt s r) (h' : FirstAt s q) : r = q := by
  obtain ⟨r0, rb, rc⟩ := h
  obtain ⟨q0, qb, qc⟩ := h'
  rcases rc with ⟨rl, rn⟩ | ⟨re, ra⟩
  · rcases qc with ⟨ql, qn⟩ | ⟨qe, qa⟩
    · rcases Int.lt_trichotomy r q with h | h | h
      · exact absurd (qb r r0 h) rn
      · exact h
      · exact absurd (rb q q0 h) qn
    · exact absurd (qa r r0 rl) rn
  · rcases qc with ⟨ql, qn⟩ | ⟨qe, qa⟩
    · exact absurd (ra q q0 ql) qn
    · rw [re, qe]

theorem known_val (k : Nat) (hk : 20 ≤ k) : foolscaplaw5_known.f k = some true := at_rounds foolscaplaw5_known.mono hk (by kernel_rfl)

theorem rOf_val (k : Nat) (c : Int) (big : Bool) : foolscapref5_Of.f (k + 1) c big = some (ofC c big) := by
  unfold foolscapref5_Of.f ofC
  simp only [foolscapref5_Of.j0]
  by_cases h1 : c = 32
  · simp [h1]
  · by_cases h2 : c = 9
    · simp [h2]
    · have h3 : (c == 9) = false := by simp [h2]
      simp only [h1, h3, if_false, false_or, Bool.false_eq_true]
      cases big
      · simp only [Bool.false_eq_true, if_false, ge_iff_le, h2]
        by_cases a : 97 ≤ c <;> by_cases a' : c ≤ 122 <;> by_cases b : 65 ≤ c <;> by_cases b' : c ≤ 90 <;> by_cases d : 48 ≤ c <;> by_cases d' : c ≤ 57 <;> by_cases e : c = 95 <;> by_cases f : 128 ≤ c <;> simp [a, a', b, b', d, d', e, f] <;> omega
      · simp [h2]

theorem rFirst_loop (s : ByteArray) (hn : s.size ≤ 140737488351300) (d : Nat) : ∀ (k : Nat) (i : Int), 0 ≤ i → i ≤ s.size → (s.size : Int) - i = d → d + 1 < k → (∀ j : Int, 0 ≤ j → j < i → isBl (bt s j)) →
    ∃ r, foolscapref5_First.l0 k s i = some r ∧ FirstAt s r := by
  induction d with
  | zero =>
    intro k i h0 h1 hd hk hb
    obtain ⟨k, rfl⟩ : ∃ m, k = m + 1 := ⟨k - 1, by omega⟩
    have he : i = s.size := by omega
    have hw : wrap64 ((s.size : Int) - 1) = (s.size : Int) - 1 := by unfold wrap64; omega
    refine ⟨mx ((s.size : Int) - 1) 0, ?_, ?_, ?_, .inr ⟨rfl, by subst he; exact hb⟩⟩
    · simp only [foolscapref5_First.l0]; rw [if_neg (by omega), hw]
    · unfold mx; split <;> omega
    · intro j j0 j1; refine hb j j0 ?_; unfold mx at j1; split at j1 <;> omega
  | succ d ih =>
    intro k i h0 h1 hd hk hb
    obtain ⟨k, rfl⟩ : ∃ m, k = m + 1 := ⟨k - 1, by omega⟩
    have hlt : i < (s.size : Int) := by omega
    have hof : foolscapref5_Of.f k (bt s i) true = some (ofC (bt s i) true) := by
      obtain ⟨k, rfl⟩ : ∃ m, k = m + 1 := ⟨k - 1, by omega⟩
      exact rOf_val k _ _
    by_cases hz : isBl (bt s i)
    · have hw : wrap64 (i + 1) = i + 1 := by unfold wrap64; omega
      obtain ⟨r, hr, h⟩ := ih k (i + 1) (by omega) (by omega) (by omega) (by omega) (fun j j0 j1 => by
        by_cases hj : j < i
        · exact hb j j0 hj
        · have : j = i := by omega
          subst this; exact hz)
      refine ⟨r, ?_, h⟩
      simp only [foolscapref5_First.l0]; rw [if_pos hlt, if_pos h0, hof]; simp only [Option.bind_some]
      rw [if_pos ((ofC_bl _ _).2 hz), hw]; exact hr
    · refine ⟨i, ?_, h0, hb, .inl ⟨hlt, hz⟩⟩
      simp only [foolscapref5_First.l0]; rw [if_pos hlt, if_pos h0, hof]; simp only [Option.bind_some]
      rw [if_neg (fun h => hz ((ofC_bl _ _).1 h))]

theorem rFirst_val (k : Nat) (s : ByteArray) (hn : s.size ≤ 140737488351300) (hk : s.size + 1 < k) : ∃ r, foolscapref5_First.f k s = some r ∧ FirstAt s r := by
  unfold foolscapref5_First.f
  exact rFirst_loop s hn s.size k 0 (by omega) (by omega) (by omega) hk (fun j j0 j1 => by omega)

theorem ClassTells : foolscaplaw5_ClassTells.Pure := by
  intro c s hc hs
  refine ⟨s.size + 40, ?_⟩
  unfold foolscaplaw5_ClassTells.f
  rw [known_val _ (by omega)]; simp only [Option.bind_some, if_true]
  by_cases hl : (s.size : Int) > 300
  · rw [if_pos hl]
  · rw [if_neg hl]
    have e1 : ∀ b, class_Of.f (s.size + 40) c b = some (ofC c b) := fun b => Of_val (s.size + 36) c b
    have e2 : ∀ b, foolscapref5_Of.f (s.size + 40) c b = some (ofC c b) := fun b => rOf_val (s.size + 39) c b
    obtain ⟨r, hr, fr⟩ := First_val (s.size + 40) s (by omega) (by omega)
    obtain ⟨q, hq, fq⟩ := rFirst_val (s.size + 40) s (by omega) (by omega)
    have hz : ((⟨#[32, 9]⟩ : ByteArray) ++ s).size = s.size + 2 := by rw [ByteArray.size_append]; show 2 + s.size = _; omega
    obtain ⟨r', hr', fr'⟩ := First_val (s.size + 40) ((⟨#[32, 9]⟩ : ByteArray) ++ s) (by omega) (by omega)
    obtain ⟨q', hq', fq'⟩ := rFirst_val (s.size + 40) ((⟨#[32, 9]⟩ : ByteArray) ++ s) (by omega) (by omega)
    have := FirstAt_one fr fq; subst this
    have := FirstAt_one fr' fq'; subst this
    rw [e1, e2]; simp only [Option.bind_some, if_true]
    rw [e1, e2]; simp only [Option.bind_some, if_true]
    rw [hr, hq]; simp only [Option.bind_some, if_true]
    rw [if_pos (by omega), hr', hq']; simp

end Go.Proofs.Ytdcbgmeljakmcaa.Pure
