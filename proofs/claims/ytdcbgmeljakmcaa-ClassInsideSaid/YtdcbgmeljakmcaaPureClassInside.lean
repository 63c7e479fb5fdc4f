/- ClassInside is true for all lines and all places: a place of a text stays, another is brought to the nearest; each slice and each string has at most 140737488351232 bytes. -/
import Derived.Test.YtdcbgmeljakmcaaPClassInsidex4
import Derived.KernelRfl
import Derived.Lib.Strings
import Derived.OpenShut
set_option linter.unusedVariables false
namespace Go.Proofs.Ytdcbgmeljakmcaa.Pure
open Go.RowKit Go.Proofs.Ytdcbgmeljakmcaa.PClassInside Go.Proofs.YtdcbgmeljakmcaaW.PrintWords Go.Proofs.YtdcbgmeljakmcaaW.PrintLast Go.Proofs.YtdcbgmeljakmcaaW.PrintMore

/-- a blank: a space or a tab -/
def isBl (c : Int) : Prop := c = 32 ∨ c = 9
instance (c : Int) : Decidable (isBl c) := by unfold isBl; infer_instance
/-- the class of a byte (chapter 5) -/
def ofC (c : Int) (big : Bool) : Int :=
  if c = 32 ∨ c = 9 then 0
  else if big = true then 1
  else if (97 ≤ c ∧ c ≤ 122) ∨ (65 ≤ c ∧ c ≤ 90) ∨ (48 ≤ c ∧ c ≤ 57) ∨ c = 95 ∨ 128 ≤ c then 1
  else 2

theorem Of_val (k : Nat) (c : Int) (big : Bool) : class_Of.f (k + 4) c big = some (ofC c big) := by
  unfold class_Of.f ofC
  simp only [class_Of.j0, class_Of.j1, class_Of.j2, class_Of.j3]
  by_cases h1 : c = 32
  · simp [h1]
  · by_cases h2 : c = 9
    · simp [h2]
    · have h3 : (c == 9) = false := by simp [h2]
      simp only [h1, h3, if_false, false_or, Bool.false_eq_true]
      cases big
      · simp only [Bool.false_eq_true, if_false, decide_eq_true_eq, ge_iff_le, h2]
        by_cases a : 97 ≤ c <;> by_cases a' : c ≤ 122 <;> by_cases b : 65 ≤ c <;> by_cases b' : c ≤ 90 <;> by_cases d : 48 ≤ c <;> by_cases d' : c ≤ 57 <;> by_cases e : c = 95 <;> by_cases f : 128 ≤ c <;> simp [a, a', b, b', d, d', e, f] <;> omega
      · simp [h2]

theorem ofC_big (c : Int) : ofC c true = if isBl c then 0 else 1 := by
  unfold ofC isBl; split <;> simp_all
theorem ofC_bl (c : Int) (b : Bool) : ofC c b = 0 ↔ isBl c := by
  unfold ofC isBl
  constructor
  · intro h
    split at h
    · assumption
    · split at h
      · exact absurd h (by decide)
      · split at h <;> exact absurd h (by decide)
  · intro h; rw [if_pos h]

/-- where First's loop ends -/
def FirstAt (s : ByteArray) (r : Int) : Prop :=
  0 ≤ r ∧ (∀ j : Int, 0 ≤ j → j < r → isBl (bt s j)) ∧ ((r < s.size ∧ ¬ isBl (bt s r)) ∨ (r = mx ((s.size : Int) - 1) 0 ∧ ∀ j : Int, 0 ≤ j → j < s.size → isBl (bt s j)))

theorem First_loop (s : ByteArray) (hn : s.size ≤ 140737488351300) (d : Nat) : ∀ (k : Nat) (i : Int), 0 ≤ i → i ≤ s.size → (s.size : Int) - i = d → d + 4 < k → (∀ j : Int, 0 ≤ j → j < i → isBl (bt s j)) →
    ∃ r, class_First.l0 k s s.size i = some r ∧ FirstAt s r := by
  induction d with
  | zero =>
    intro k i h0 h1 hd hk hb
    obtain ⟨k, rfl⟩ : ∃ m, k = m + 1 := ⟨k - 1, by omega⟩
    have he : i = s.size := by omega
    have hw : wrap64 ((s.size : Int) - 1) = (s.size : Int) - 1 := by unfold wrap64; omega
    refine ⟨mx ((s.size : Int) - 1) 0, ?_, ?_, ?_, .inr ⟨rfl, by subst he; exact hb⟩⟩
    · simp only [class_First.l0]; rw [if_neg (by omega), hw]
    · unfold mx; split <;> omega
    · intro j j0 j1; refine hb j j0 ?_; unfold mx at j1; split at j1 <;> omega
  | succ d ih =>
    intro k i h0 h1 hd hk hb
    obtain ⟨k, rfl⟩ : ∃ m, k = m + 1 := ⟨k - 1, by omega⟩
    have hlt : i < (s.size : Int) := by omega
    have hof : class_Of.f k (bt s i) true = some (ofC (bt s i) true) := by
      obtain ⟨k, rfl⟩ : ∃ m, k = m + 4 := ⟨k - 4, by omega⟩
      exact Of_val k _ _
    by_cases hz : isBl (bt s i)
    · have hw : wrap64 (i + 1) = i + 1 := by unfold wrap64; omega
      obtain ⟨r, hr, h⟩ := ih k (i + 1) (by omega) (by omega) (by omega) (by omega) (fun j j0 j1 => by
        by_cases hj : j < i
        · exact hb j j0 hj
        · have : j = i := by omega
          subst this; exact hz)
      refine ⟨r, ?_, h⟩
      simp only [class_First.l0]; rw [if_pos hlt, if_pos h0, if_pos hlt, hof]; simp only [Option.bind_some]
      rw [if_pos ((ofC_bl _ _).2 hz), hw]; exact hr
    · refine ⟨i, ?_, h0, hb, .inl ⟨hlt, hz⟩⟩
      simp only [class_First.l0]; rw [if_pos hlt, if_pos h0, if_pos hlt, hof]; simp only [Option.bind_some]
      rw [if_neg (fun h => hz ((ofC_bl _ _).1 h))]

theorem First_val (k : Nat) (s : ByteArray) (hn : s.size ≤ 140737488351300) (hk : s.size + 4 < k) : ∃ r, class_First.f k s = some r ∧ FirstAt s r := by
  unfold class_First.f
  exact First_loop s hn s.size k 0 (by omega) (by omega) (by omega) hk (fun j j0 j1 => by omega)

theorem FirstAt_one {s : ByteArray} {r q : Int} (h : FirstAt s r) (h' : FirstAt s q) : r = q := by
  obtain ⟨r0, rb, rc⟩ := h
  obtain ⟨q0, qb, qc⟩ := h'
  rcases rc with ⟨rl, rn⟩ | ⟨re, ra⟩
  · rcases qc with ⟨ql, qn⟩ | ⟨qe, qa⟩
    · rcases Int.lt_trichotomy r q with h | h | h
      · exact absurd (qb r r0 h) rn
      · exact h
      · exact absurd (rb q q0 h) qn
    · exact absurd (qa r r0 rl) rn
  · rcases qc with ⟨ql, qn⟩ | ⟨qe, qa⟩
    · exact absurd (ra q q0 ql) qn
    · rw [re, qe]

theorem known_val (k : Nat) (hk : 20 ≤ k) : foolscaplaw5_known.f k = some true := at_rounds foolscaplaw5_known.mono hk (by kernel_rfl)

/-- how many bytes the lines have -/
def total : List ByteArray → Nat
  | [] => 0
  | s :: r => s.size + total r
theorem total_mem : ∀ {l : List ByteArray} {s : ByteArray}, s ∈ l → s.size ≤ total l
  | y :: r, s, h => by
    rcases List.mem_cons.1 h with h | h
    · subst h; simp [total]
    · have := total_mem h; simp [total]; omega
  | [], s, h => by simp at h

theorem rdOf_nat (l : List ByteArray) (i : Nat) (h : i < l.length) : rdOf ByteArray.empty l (i : Int) = l[i] := by
  unfold rdOf; rw [Int.toNat_natCast, List.getD_eq_getElem?_getD, List.getElem?_eq_getElem h]; rfl

theorem light_line (l : List ByteArray) (i : Nat) (hi : i < l.length) (hl : l.length ≤ 40) (n : Int) (Q : Prop) (B : Nat) (hs : l[i].size ≤ 1200)
    (next : ∀ k, B ≤ k → ∃ b, foolscaphelp_Light.l0 k l n ((i + 1 : Nat) : Int) = some b ∧ (b = true → Q)) (d : Nat) :
    ∀ (k j : Nat), j ≤ l[i].size → l[i].size - j = d → B + d + 1 ≤ k → ∃ b, foolscaphelp_Light.l1 k l n i j = some b ∧ (b = true → Q) := by
  have hw : wrap64 ((i : Int) + 1) = ((i + 1 : Nat) : Int) := by unfold wrap64; omega
  have hr := rdOf_nat l i hi
  induction d with
  | zero =>
    intro k j hj hd hk
    obtain ⟨k, rfl⟩ : ∃ m, k = m + 1 := ⟨k - 1, by omega⟩
    simp only [foolscaphelp_Light.l1, hr]
    rw [if_pos (by omega), if_pos (by omega), if_neg (by omega), hw]
    exact next k (by omega)
  | succ d ih =>
    intro k j hj hd hk
    obtain ⟨k, rfl⟩ : ∃ m, k = m + 1 := ⟨k - 1, by omega⟩
    have hw' : wrap64 ((j : Int) + 1) = ((j + 1 : Nat) : Int) := by unfold wrap64; omega
    simp only [foolscaphelp_Light.l1, hr]
    rw [if_pos (by omega), if_pos (by omega), if_pos (by omega), if_pos (by omega), hw']
    split
    · exact ⟨false, rfl, fun h => by cases h⟩
    · exact ih k (j + 1) (by omega) (by omega) (by omega)

theorem light_loop (l : List ByteArray) (hl : l.length ≤ 40) (hs : ∀ s ∈ l, s.size ≤ 140737488351232) (d : Nat) :
    ∀ (k n i : Nat), i ≤ l.length → l.length - i = d → n ≤ 1200 → 2 * d + (1200 - n) + 1 ≤ k →
    ∃ b, foolscaphelp_Light.l0 k l n i = some b ∧ (b = true → n + total (l.drop i) ≤ 1200) := by
  induction d with
  | zero =>
    intro k n i hi hd hn hk
    obtain ⟨k, rfl⟩ : ∃ m, k = m + 1 := ⟨k - 1, by omega⟩
    refine ⟨true, ?_, fun _ => ?_⟩
    · simp only [foolscaphelp_Light.l0]; rw [if_neg (by omega)]
    · rw [List.drop_eq_nil_of_le (by omega)]; simp [total]; omega
  | succ d ih =>
    intro k n i hi hd hn hk
    obtain ⟨k, rfl⟩ : ∃ m, k = m + 1 := ⟨k - 1, by omega⟩
    have hi' : i < l.length := by omega
    have hr := rdOf_nat l i hi'
    have hz := hs l[i] (List.getElem_mem hi')
    have hw : wrap64 ((n : Int) + (l[i].size : Int)) = ((n + l[i].size : Nat) : Int) := by unfold wrap64; omega
    have ht : total (l.drop i) = l[i].size + total (l.drop (i + 1)) := by rw [List.drop_eq_getElem_cons hi']; rfl
    simp only [foolscaphelp_Light.l0, hr]
    rw [if_pos (by omega), if_pos (by omega), hw]
    by_cases hb : n + l[i].size > 1200
    · rw [if_pos (by omega)]
      exact ⟨false, rfl, fun h => by cases h⟩
    · rw [if_neg (by omega)]
      rw [ht]
      refine light_line l i hi' hl _ _ (2 * d + (1200 - (n + l[i].size)) + 1) (by omega) (fun k' hk' => ?_) l[i].size k 0 (by omega) (by omega) (by omega)
      obtain ⟨b, h1, h2⟩ := ih k' (n + l[i].size) (i + 1) (by omega) (by omega) (by omega) hk'
      exact ⟨b, h1, fun h => by have := h2 h; omega⟩

theorem Light_val (k : Nat) (l : List ByteArray) (hk : 1281 ≤ k) (hs : ∀ s ∈ l, s.size ≤ 140737488351232) :
    ∃ b, foolscaphelp_Light.f k l = some b ∧ (b = true → l.length ≤ 40 ∧ total l ≤ 1200) := by
  unfold foolscaphelp_Light.f
  by_cases hl : l.length ≤ 40
  · rw [if_neg (by omega)]
    obtain ⟨b, h1, h2⟩ := light_loop l hl hs l.length k 0 0 (by omega) (by omega) (by omega) (by omega)
    exact ⟨b, h1, fun h => ⟨hl, by have := h2 h; simpa using this⟩⟩
  · rw [if_pos (by omega)]
    exact ⟨false, rfl, fun h => by cases h⟩

theorem Text_val (k : Nat) (l : List ByteArray) (hk : 1281 ≤ k) (hs : ∀ s ∈ l, s.size ≤ 140737488351232) :
    ∃ b, foolscaphelp_Text.f k l = some b ∧ (b = true → 0 < l.length ∧ l.length ≤ 40 ∧ total l ≤ 1200) := by
  unfold foolscaphelp_Text.f
  by_cases h : (l.length : Int) > 0
  · rw [if_pos h]
    obtain ⟨b, h1, h2⟩ := Light_val k l hk hs
    refine ⟨b, ?_, fun e => ⟨by omega, h2 e⟩⟩
    rw [h1]; try rfl
  · rw [if_neg h]
    exact ⟨false, rfl, fun e => by cases e⟩

theorem ClassInside (l : List ByteArray) (a b : Int) (hs : ∀ s ∈ l, s.size ≤ 140737488351232) : ∃ k, foolscaplaw5_ClassInside.f k l a b = some true := by
  refine ⟨2000, ?_⟩
  unfold foolscaplaw5_ClassInside.f
  rw [known_val _ (by omega)]; simp only [Option.bind_some, if_true]
  obtain ⟨v, hv, hb⟩ := Text_val 2000 l (by omega) hs
  rw [hv]; simp only [Option.bind_some]
  cases v with
  | false => rw [if_neg (by decide)]
  | true =>
    rw [if_pos rfl]
    obtain ⟨hz, hl, ht⟩ := hb rfl
    have hs' : ∀ s ∈ l, s.size ≤ 1200 := fun s h => Nat.le_trans (total_mem h) ht
    have hw : wrap64 ((l.length : Int) - 1) = (l.length : Int) - 1 := by unfold wrap64; omega
    obtain ⟨i, hi, hi'⟩ : ∃ i : Nat, mn (mx a 0) ((l.length : Int) - 1) = (i : Int) ∧ i < l.length := by
      refine ⟨(mn (mx a 0) ((l.length : Int) - 1)).toNat, ?_, ?_⟩ <;> (unfold mn mx; split <;> split <;> omega)
    have hr := rdOf_nat l i hi'
    have hsz := hs' l[i] (List.getElem_mem hi')
    generalize hn : l[i].size = n at *
    have hw2 : wrap64 ((n : Int) - 1) = (n : Int) - 1 := by unfold wrap64; omega
    have e1 : class_Clamp.f l a b true = some ((i : Int), mn (mx b 0) (n : Int)) := by
      unfold class_Clamp.f; rw [if_neg (by omega), hw, hi, if_pos (by omega), if_pos (by omega), if_pos rfl, hr, hn]
    have e2 : class_Clamp.f l a b false = some ((i : Int), mn (mx b 0) (mx ((n : Int) - 1) 0)) := by
      unfold class_Clamp.f; rw [if_neg (by omega), hw, hi, if_pos (by omega), if_pos (by omega), if_neg (by decide), hr, hn, hw2]
    have p1 : 0 ≤ mn (mx b 0) (n : Int) ∧ mn (mx b 0) (n : Int) ≤ n := by unfold mn mx; split <;> split <;> omega
    have p2 : 0 ≤ mn (mx b 0) (mx ((n : Int) - 1) 0) ∧ mn (mx b 0) (mx ((n : Int) - 1) 0) ≤ mx ((n : Int) - 1) 0 := by unfold mn mx; (repeat' split) <;> omega
    have p3 : 0 ≤ b → b ≤ n → mn (mx b 0) (n : Int) = b ∧ mn (mx b 0) (mx ((n : Int) - 1) 0) = mn b (mx ((n : Int) - 1) 0) := by
      intro h1 h2; unfold mn mx; (repeat' split) <;> omega
    have p4 : 0 ≤ a → a < l.length → (i : Int) = a := by
      intro h1 h2; rw [← hi]; unfold mn mx; (repeat' split) <;> omega
    rw [e1]; simp only [Option.bind_some]
    rw [e2]; simp only [Option.bind_some]
    generalize mn (mx b 0) (n : Int) = u at *
    generalize mn (mx b 0) (mx ((n : Int) - 1) 0) = v at *
    rw [if_pos (by omega), if_pos (by omega), if_pos trivial, hr, hn, hw2, if_neg (by omega), if_neg (by omega), if_neg (by omega)]
    have d0 : decide (v < 0) = false := by simp; omega
    rw [d0]
    generalize hk : (1999 : Nat) = k
    rw [show (2000 : Nat) = k + 1 by omega]
    simp only [foolscaplaw5_ClassInside.j0, hw2]
    rw [if_neg (by decide)]
    by_cases h1 : 0 ≤ b
    · by_cases h2 : b ≤ n
      · obtain ⟨h3, h4⟩ := p3 h1 h2
        by_cases a0 : 0 ≤ a
        · by_cases a1 : a < l.length
          · have := p4 a0 a1
            simp [a0, a1, this, h1, h2, h3, h4]
          · simp [a0, a1, h1, h2, h3, h4]
        · simp [a0, h1, h2, h3, h4]
      · by_cases a0 : 0 ≤ a
        · by_cases a1 : a < l.length
          · have := p4 a0 a1
            simp [a0, a1, this, h1, h2]
          · simp [a0, a1, h1, h2]
        · simp [a0, h1, h2]
    · by_cases a0 : 0 ≤ a
      · by_cases a1 : a < l.length
        · have := p4 a0 a1
          simp [a0, a1, this, h1]
        · simp [a0, a1, h1]
      · simp [a0, h1]

theorem ClassInside_walk (A0 : Option Addr) (c0 : Nat) (l0 : List ByteArray) (a1 a2 : Int) (w : World)
    (hr0 : Kd.C Kd.string w A0 l0.length l0) (hc0 : l0.length ≤ c0) (hz0 : l0.length * 16 ≤ 140737488351232) (hs0 : ∀ s ∈ l0, s.size ≤ 140737488351232)
    (w1 : (Lit.int .i64 a1).wf = true) (w2 : (Lit.int .i64 a2).wf = true) :
    Calls Try.prog 7 #[.slice A0 l0.length c0, .int .i64 a1, .int .i64 a2] w fun e w' => e = .returned (.bool true) ∧ Below w.heap.size w w' := by
  obtain ⟨k, hk⟩ := ClassInside l0 a1 a2 hs0
  refine (foolscaplaw5_ClassInside.calls k A0 c0 l0 a1 a2 true w hr0 hc0 hk).mono ?_
  rintro e w' ⟨rfl, hb⟩
  exact ⟨rfl, hb⟩

end Go.Proofs.Ytdcbgmeljakmcaa.Pure
