/- ClassSame is true for all lines: Same tells whether two lists of strings have the same strings; each slice and each string has at most 140737488351232 bytes. -/
import Derived.Test.YtdcbgmeljakmcaaMClassSamex3
import Derived.KernelRfl
import Derived.Lib.Strings
import Derived.OpenShut
set_option linter.unusedVariables false
namespace Go.Proofs.Ytdcbgmeljakmcaa.Pure
open Go.RowKit Go.Proofs.Ytdcbgmeljakmcaa.MClassSame Go.Proofs.YtdcbgmeljakmcaaW.PrintWords Go.Proofs.YtdcbgmeljakmcaaW.PrintLast Go.Proofs.YtdcbgmeljakmcaaW.PrintMore

/-- a blank: a space or a tab -/
def isBl (c : Int) : Prop := c = 32 ∨ c = 9
instance (c : Int) : Decidable (isBl c) := by unfold isBl; infer_instance
/-- the class of a byte (chapter 5) -/
def ofC (c : Int) (big : Bool) : Int :=
  if c = 32 ∨ c = 9 then 0
  else if big = true then 1
  else if (97 ≤ c ∧ c ≤ 122) ∨ (65 ≤ c ∧ c ≤ 90) ∨ (48 ≤ c ∧ c ≤ 57) ∨ c = 95 ∨ 128 ≤ c then 1
  else 2

theorem Of_val (k : Nat) (c : Int) (big : Bool) : class_Of.f (k + 4) c big = some (ofC c big) := by
  unfold class_Of.f ofC
  simp only [class_Of.j0, class_Of.j1, class_Of.j2, class_Of.j3]
  by_cases h1 : c = 32
  · simp [h1]
  · by_cases h2 : c = 9
    · simp [h2]
    · have h3 : (c == 9) = false := by simp [h2]
      simp only [h1, h3, if_false, false_or, Bool.false_eq_true]
      cases big
      · simp only [Bool.false_eq_true, if_false, decide_eq_true_eq, ge_iff_le, h2]
        by_cases a : 97 ≤ c <;> by_cases a' : c ≤ 122 <;> by_cases b : 65 ≤ c <;> by_cases b' : c ≤ 90 <;> by_cases d : 48 ≤ c <;> by_cases d' : c ≤ 57 <;> by_cases e : c = 95 <;> by_cases f : 128 ≤ c <;> simp [a, a', b, b', d, d', e, f] <;> omega
      · simp [h2]

theorem ofC_big (c : Int) : ofC c true = if isBl c then 0 else 1 := by
  unfold ofC isBl; split <;> simp_all
theorem ofC_bl (c : Int) (b : Bool) : ofC c b = 0 ↔ isBl c := by
  unfold ofC isBl
  constructor
  · intro h
    split at h
    · assumption
    · split at h
      · exact absurd h (by decide)
      · split at h <;> exact absurd h (by decide)
  · intro h; rw [if_pos h]

/-- where First's loop ends -/
def FirstAt (s : ByteArray) (r : Int) : Prop :=
  0 ≤ r ∧ (∀ j : Int, 0 ≤ j → j < r → isBl (bt s j)) ∧ ((r < s.size ∧ ¬ isBl (bt s r)) ∨ (r = mx ((s.size : Int) - 1) 0 ∧ ∀ j : Int, 0 ≤ j → j < s.size → isBl (bt s j)))

theorem First_loop (s : ByteArray) (hn : s.size ≤ 140737488351300) (d : Nat) : ∀ (k : Nat) (i : Int), 0 ≤ i → i ≤ s.size → (s.size : Int) - i = d → d + 4 < k → (∀ j : Int, 0 ≤ j → j < i → isBl (bt s j)) →
    ∃ r, class_First.l0 k s s.size i = some r ∧ FirstAt s r := by
  induction d with
  | zero =>
    intro k i h0 h1 hd hk hb
    obtain ⟨k, rfl⟩ : ∃ m, k = m + 1 := ⟨k - 1, by omega⟩
    have he : i = s.size := by omega
    have hw : wrap64 ((s.size : Int) - 1) = (s.size : Int) - 1 := by unfold wrap64; omega
    refine ⟨mx ((s.size : Int) - 1) 0, ?_, ?_, ?_, .inr ⟨rfl, by subst he; exact hb⟩⟩
    · simp only [class_First.l0]; rw [if_neg (by omega), hw]
    · unfold mx; split <;> omega
    · intro j j0 j1; refine hb j j0 ?_; unfold mx at j1; split at j1 <;> omega
  | succ d ih =>
    intro k i h0 h1 hd hk hb
    obtain ⟨k, rfl⟩ : ∃ m, k = m + 1 := ⟨k - 1, by omega⟩
    have hlt : i < (s.size : Int) := by omega
    have hof : class_Of.f k (bt s i) true = some (ofC (bt s i) true) := by
      obtain ⟨k, rfl⟩ : ∃ m, k = m + 4 := ⟨k - 4, by omega⟩
      exact Of_val k _ _
    by_cases hz : isBl (bt s i)
    · have hw : wrap64 (i + 1) = i + 1 := by unfold wrap64; omega
      obtain ⟨r, hr, h⟩ := ih k (i + 1) (by omega) (by omega) (by omega) (by omega) (fun j j0 j1 => by
        by_cases hj : j < i
        · exact hb j j0 hj
        · have : j = i := by omega
          subst this; exact hz)
      refine ⟨r, ?_, h⟩
      simp only [class_First.l0]; rw [if_pos hlt, if_pos h0, if_pos hlt, hof]; simp only [Option.bind_some]
      rw [if_pos ((ofC_bl _ _).2 hz), hw]; exact hr
    · refine ⟨i, ?_, h0, hb, .inl ⟨hlt, hz⟩⟩
      simp only [class_First.l0]; rw [if_pos hlt, if_pos h0, if_pos hlt, hof]; simp only [Option.bind_some]
      rw [if_neg (fun h => hz ((ofC_bl _ _).1 h))]

theorem First_val (k : Nat) (s : ByteArray) (hn : s.size ≤ 140737488351300) (hk : s.size + 4 < k) : ∃ r, class_First.f k s = some r ∧ FirstAt s r := by
  unfold class_First.f
  exact First_loop s hn s.size k 0 (by omega) (by omega) (by omega) hk (fun j j0 j1 => by omega)

theorem FirstAt_one {s : ByteArray} {r q : Int} (h : FirstAt s r) (h' : FirstAt s q) : r = q := by
  obtain ⟨r0, rb, rc⟩ := h
  obtain ⟨q0, qb, qc⟩ := h'
  rcases rc with ⟨rl, rn⟩ | ⟨re, ra⟩
  · rcases qc with ⟨ql, qn⟩ | ⟨qe, qa⟩
    · rcases Int.lt_trichotomy r q with h | h | h
      · exact absurd (qb r r0 h) rn
      · exact h
      · exact absurd (rb q q0 h) qn
    · exact absurd (qa r r0 rl) rn
  · rcases qc with ⟨ql, qn⟩ | ⟨qe, qa⟩
    · exact absurd (ra q q0 ql) qn
    · rw [re, qe]

theorem known_val (k : Nat) (hk : 20 ≤ k) : foolscaplaw5_known.f k = some true := at_rounds foolscaplaw5_known.mono hk (by kernel_rfl)

/-- how many bytes the lines have -/
def total : List ByteArray → Nat
  | [] => 0
  | s :: r => s.size + total r
theorem total_mem : ∀ {l : List ByteArray} {s : ByteArray}, s ∈ l → s.size ≤ total l
  | y :: r, s, h => by
    rcases List.mem_cons.1 h with h | h
    · subst h; simp [total]
    · have := total_mem h; simp [total]; omega
  | [], s, h => by simp at h

theorem rdOf_nat (l : List ByteArray) (i : Nat) (h : i < l.length) : rdOf ByteArray.empty l (i : Int) = l[i] := by
  unfold rdOf; rw [Int.toNat_natCast, List.getD_eq_getElem?_getD, List.getElem?_eq_getElem h]; rfl

theorem light_line (l : List ByteArray) (i : Nat) (hi : i < l.length) (hl : l.length ≤ 40) (n : Int) (Q : Prop) (B : Nat) (hs : l[i].size ≤ 1200)
    (next : ∀ k, B ≤ k → ∃ b, foolscaphelp_Light.l0 k l n ((i + 1 : Nat) : Int) = some b ∧ (b = true → Q)) (d : Nat) :
    ∀ (k j : Nat), j ≤ l[i].size → l[i].size - j = d → B + d + 1 ≤ k → ∃ b, foolscaphelp_Light.l1 k l n i j = some b ∧ (b = true → Q) := by
  have hw : wrap64 ((i : Int) + 1) = ((i + 1 : Nat) : Int) := by unfold wrap64; omega
  have hr := rdOf_nat l i hi
  induction d with
  | zero =>
    intro k j hj hd hk
    obtain ⟨k, rfl⟩ : ∃ m, k = m + 1 := ⟨k - 1, by omega⟩
    simp only [foolscaphelp_Light.l1, hr]
    rw [if_pos (by omega), if_pos (by omega), if_neg (by omega), hw]
    exact next k (by omega)
  | succ d ih =>
    intro k j hj hd hk
    obtain ⟨k, rfl⟩ : ∃ m, k = m + 1 := ⟨k - 1, by omega⟩
    have hw' : wrap64 ((j : Int) + 1) = ((j + 1 : Nat) : Int) := by unfold wrap64; omega
    simp only [foolscaphelp_Light.l1, hr]
    rw [if_pos (by omega), if_pos (by omega), if_pos (by omega), if_pos (by omega), hw']
    split
    · exact ⟨false, rfl, fun h => by cases h⟩
    · exact ih k (j + 1) (by omega) (by omega) (by omega)

theorem light_loop (l : List ByteArray) (hl : l.length ≤ 40) (hs : ∀ s ∈ l, s.size ≤ 140737488351232) (d : Nat) :
    ∀ (k n i : Nat), i ≤ l.length → l.length - i = d → n ≤ 1200 → 2 * d + (1200 - n) + 1 ≤ k →
    ∃ b, foolscaphelp_Light.l0 k l n i = some b ∧ (b = true → n + total (l.drop i) ≤ 1200) := by
  induction d with
  | zero =>
    intro k n i hi hd hn hk
    obtain ⟨k, rfl⟩ : ∃ m, k = m + 1 := ⟨k - 1, by omega⟩
    refine ⟨true, ?_, fun _ => ?_⟩
    · simp only [foolscaphelp_Light.l0]; rw [if_neg (by omega)]
    · rw [List.drop_eq_nil_of_le (by omega)]; simp [total]; omega
  | succ d ih =>
    intro k n i hi hd hn hk
    obtain ⟨k, rfl⟩ : ∃ m, k = m + 1 := ⟨k - 1, by omega⟩
    have hi' : i < l.length := by omega
    have hr := rdOf_nat l i hi'
    have hz := hs l[i] (List.getElem_mem hi')
    have hw : wrap64 ((n : Int) + (l[i].size : Int)) = ((n + l[i].size : Nat) : Int) := by unfold wrap64; omega
    have ht : total (l.drop i) = l[i].size + total (l.drop (i + 1)) := by rw [List.drop_eq_getElem_cons hi']; rfl
    simp only [foolscaphelp_Light.l0, hr]
    rw [if_pos (by omega), if_pos (by omega), hw]
    by_cases hb : n + l[i].size > 1200
    · rw [if_pos (by omega)]
      exact ⟨false, rfl, fun h => by cases h⟩
    · rw [if_neg (by omega)]
      rw [ht]
      refine light_line l i hi' hl _ _ (2 * d + (1200 - (n + l[i].size)) + 1) (by omega) (fun k' hk' => ?_) l[i].size k 0 (by omega) (by omega) (by omega)
      obtain ⟨b, h1, h2⟩ := ih k' (n + l[i].size) (i + 1) (by omega) (by omega) (by omega) hk'
      exact ⟨b, h1, fun h => by have := h2 h; omega⟩

theorem Light_val (k : Nat) (l : List ByteArray) (hk : 1281 ≤ k) (hs : ∀ s ∈ l, s.size ≤ 140737488351232) :
    ∃ b, foolscaphelp_Light.f k l = some b ∧ (b = true → l.length ≤ 40 ∧ total l ≤ 1200) := by
  unfold foolscaphelp_Light.f
  by_cases hl : l.length ≤ 40
  · rw [if_neg (by omega)]
    obtain ⟨b, h1, h2⟩ := light_loop l hl hs l.length k 0 0 (by omega) (by omega) (by omega) (by omega)
    exact ⟨b, h1, fun h => ⟨hl, by have := h2 h; simpa using this⟩⟩
  · rw [if_pos (by omega)]
    exact ⟨false, rfl, fun h => by cases h⟩

theorem equal_loop (a b : List ByteArray) (hl : a.length ≤ 40) (he : a.length = b.length) (d : Nat) : ∀ (k i : Nat), i ≤ a.length → a.length - i = d → d + 1 ≤ k →
    ∃ v, slices_Equal_string_string.l0 k a b a.length i = some v ∧ foolscaphelp_Strings.l0 k a b i = some v := by
  induction d with
  | zero =>
    intro k i hi hd hk
    obtain ⟨k, rfl⟩ : ∃ m, k = m + 1 := ⟨k - 1, by omega⟩
    refine ⟨true, ?_, ?_⟩
    · simp only [slices_Equal_string_string.l0]; rw [if_neg (by omega)]
    · simp only [foolscaphelp_Strings.l0]; rw [if_neg (by omega)]
  | succ d ih =>
    intro k i hi hd hk
    obtain ⟨k, rfl⟩ : ∃ m, k = m + 1 := ⟨k - 1, by omega⟩
    have hw : wrap64 ((i : Int) + 1) = ((i + 1 : Nat) : Int) := by unfold wrap64; omega
    obtain ⟨v, h1, h2⟩ := ih k (i + 1) (by omega) (by omega) (by omega)
    by_cases h : (rdOf ByteArray.empty a (i : Int)).toList = (rdOf ByteArray.empty b (i : Int)).toList
    · refine ⟨v, ?_, ?_⟩
      · simp only [slices_Equal_string_string.l0]; rw [if_pos (by omega), if_pos (by omega), if_pos (by omega), if_pos (by omega), if_pos h, hw]; exact h1
      · simp only [foolscaphelp_Strings.l0]; rw [if_pos (by omega), if_pos (by omega), if_pos (by omega), if_pos h, hw]; exact h2
    · refine ⟨false, ?_, ?_⟩
      · simp only [slices_Equal_string_string.l0]; rw [if_pos (by omega), if_pos (by omega), if_pos (by omega), if_pos (by omega), if_neg h]
      · simp only [foolscaphelp_Strings.l0]; rw [if_pos (by omega), if_pos (by omega), if_pos (by omega), if_neg h]

theorem equal_self (a : List ByteArray) (hl : a.length ≤ 40) (d : Nat) : ∀ (k i : Nat), i ≤ a.length → a.length - i = d → d + 1 ≤ k →
    slices_Equal_string_string.l0 k a a a.length i = some true := by
  induction d with
  | zero =>
    intro k i hi hd hk
    obtain ⟨k, rfl⟩ : ∃ m, k = m + 1 := ⟨k - 1, by omega⟩
    simp only [slices_Equal_string_string.l0]; rw [if_neg (by omega)]
  | succ d ih =>
    intro k i hi hd hk
    obtain ⟨k, rfl⟩ : ∃ m, k = m + 1 := ⟨k - 1, by omega⟩
    have hw : wrap64 ((i : Int) + 1) = ((i + 1 : Nat) : Int) := by unfold wrap64; omega
    simp only [slices_Equal_string_string.l0]; rw [if_pos (by omega), if_pos (by omega), if_pos (by omega), if_pos (by omega), if_pos trivial, hw]
    exact ih k (i + 1) (by omega) (by omega) (by omega)

theorem Same_both (a b : List ByteArray) (hl : a.length ≤ 40) (k : Nat) (hk : 41 ≤ k) : ∃ v, class_Same.f k a b = some v ∧ foolscaphelp_Strings.f k a b = some v := by
  unfold class_Same.f slices_Equal_string_string.f foolscaphelp_Strings.f
  by_cases he : (a.length : Int) = (b.length : Int)
  · rw [if_pos he, if_pos he]
    obtain ⟨v, h1, h2⟩ := equal_loop a b hl (by omega) a.length k 0 (by omega) (by omega) (by omega)
    refine ⟨v, ?_, h2⟩
    have h1' : slices_Equal_string_string.l0 k a b (a.length : Int) 0 = some v := h1
    rw [h1']; rfl
  · rw [if_neg he, if_neg he]
    exact ⟨false, rfl, rfl⟩

theorem Same_self (a : List ByteArray) (hl : a.length ≤ 40) (k : Nat) (hk : 41 ≤ k) : class_Same.f k a a = some true := by
  unfold class_Same.f slices_Equal_string_string.f
  rw [if_pos rfl]
  have h1 : slices_Equal_string_string.l0 k a a (a.length : Int) 0 = some true := equal_self a hl a.length k 0 (by omega) (by omega) (by omega)
  rw [h1]; rfl

theorem same_join (k : Nat) (a b : List ByteArray) (c d : Bool) (hk : 41 ≤ k) (h : d = false → a.length ≤ 40) : foolscaplaw5_ClassSame.j0 (k + 1) a b c d = some true := by
  simp only [foolscaplaw5_ClassSame.j0]
  cases d with
  | true => rfl
  | false =>
    have hl := h rfl
    have key : ∀ x : List ByteArray, ((class_Same.f k a x).bind fun t144 => ((foolscaphelp_Strings.f k a x).bind fun t145 => (if (t144 == t145) = true then ((class_Same.f k a a).bind fun t146 => (some t146)) else (some false)))) = some true := by
      intro x
      obtain ⟨v, h1, h2⟩ := Same_both a x hl k hk
      rw [h1, h2]; simp only [Option.bind_some]
      rw [if_pos (by simp), Same_self a hl k hk]; rfl
    rw [if_neg (by decide)]
    cases c with
    | false => rw [if_neg (by decide)]; exact key b
    | true =>
      rw [if_pos rfl, if_pos (by simp; omega)]
      exact key _

theorem ClassSame (a b : List ByteArray) (c : Bool) (ha : ∀ s ∈ a, s.size ≤ 140737488351232) (hb : ∀ s ∈ b, s.size ≤ 140737488351232) : ∃ k, foolscaplaw5_ClassSame.f k a b c = some true := by
  refine ⟨1999 + 1, ?_⟩
  unfold foolscaplaw5_ClassSame.f
  rw [known_val _ (by omega)]; simp only [Option.bind_some, if_true]
  obtain ⟨v, hv, hl⟩ := Light_val (1999 + 1) a (by omega) ha
  obtain ⟨u, hu, _⟩ := Light_val (1999 + 1) b (by omega) hb
  rw [hv]; simp only [Option.bind_some]
  cases v with
  | false => rw [if_neg (by decide)]; exact same_join 1999 a b c true (by omega) (fun h => by cases h)
  | true =>
    rw [if_pos rfl, hu]; simp only [Option.bind_some]
    exact same_join 1999 a b c _ (by omega) (fun _ => (hl rfl).1)

theorem ClassSame_walk (A0 : Option Addr) (c0 : Nat) (l0 : List ByteArray) (A1 : Option Addr) (c1 : Nat) (l1 : List ByteArray) (a2 : Bool) (w : World)
    (hr0 : Kd.C Kd.string w A0 l0.length l0) (hc0 : l0.length ≤ c0) (hz0 : l0.length * 16 ≤ 140737488351232) (hs0 : ∀ s ∈ l0, s.size ≤ 140737488351232)
    (hr1 : Kd.C Kd.string w A1 l1.length l1) (hc1 : l1.length ≤ c1) (hz1 : l1.length * 16 ≤ 140737488351232) (hs1 : ∀ s ∈ l1, s.size ≤ 140737488351232) :
    Calls Try.prog 5 #[.slice A0 l0.length c0, .slice A1 l1.length c1, .bool a2] w fun e w' => e = .returned (.bool true) ∧ Below w.heap.size w w' := by
  obtain ⟨k, hk⟩ := ClassSame l0 l1 a2 hs0 hs1
  exact foolscaplaw5_ClassSame.calls k A0 c0 l0 A1 c1 l1 a2 true w hr0 hc0 hr1 hc1 hk

end Go.Proofs.Ytdcbgmeljakmcaa.Pure
