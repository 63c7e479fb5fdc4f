/- AreaLines is true for all lines, places, counts and modes: lines from a place, and what is selected, are the reference's ranges, or none; each slice and each string has at most 140737488351232 bytes. -/
import Derived.Test.YtdcbgmeljakmcaaMAreaLinesx13
import Derived.KernelRfl
import Derived.Lib.Strings
import Derived.OpenShut
set_option linter.unusedVariables false
set_option linter.unusedSimpArgs false
namespace Go.Proofs.Ytdcbgmeljakmcaa.Pure
open Go.RowKit Go.Proofs.Ytdcbgmeljakmcaa.MAreaLines Go.Proofs.YtdcbgmeljakmcaaW.PrintWords Go.Proofs.YtdcbgmeljakmcaaW.PrintLast Go.Proofs.Ytdcbgmeljakmcaa.Few

/-- a blank: a space or a tab -/
def isBl (c : Int) : Prop := c = 32 ∨ c = 9
instance (c : Int) : Decidable (isBl c) := by unfold isBl; infer_instance
/-- the class of a byte (chapter 5) -/
def ofC (c : Int) (big : Bool) : Int :=
  if c = 32 ∨ c = 9 then 0
  else if big = true then 1
  else if (97 ≤ c ∧ c ≤ 122) ∨ (65 ≤ c ∧ c ≤ 90) ∨ (48 ≤ c ∧ c ≤ 57) ∨ c = 95 ∨ 128 ≤ c then 1
  else 2

theorem Of_val (k : Nat) (c : Int) (big : Bool) : class_Of.f (k + 4) c big = some (ofC c big) := by
  unfold class_Of.f ofC
  simp only [class_Of.j0, class_Of.j1, class_Of.j2, class_Of.j3]
  by_cases h1 : c = 32
  · simp [h1]
  · by_cases h2 : c = 9
    · simp [h2]
    · have h3 : (c == 9) = false := by simp [h2]
      simp only [h1, h3, if_false, false_or, Bool.false_eq_true]
      cases big
      · simp only [Bool.false_eq_true, if_false, decide_eq_true_eq, ge_iff_le, h2]
        by_cases a : 97 ≤ c <;> by_cases a' : c ≤ 122 <;> by_cases b : 65 ≤ c <;> by_cases b' : c ≤ 90 <;> by_cases d : 48 ≤ c <;> by_cases d' : c ≤ 57 <;> by_cases e : c = 95 <;> by_cases f : 128 ≤ c <;> simp [a, a', b, b', d, d', e, f] <;> omega
      · simp [h2]

theorem ofC_big (c : Int) : ofC c true = if isBl c then 0 else 1 := by
  unfold ofC isBl; split <;> simp_all
theorem ofC_bl (c : Int) (b : Bool) : ofC c b = 0 ↔ isBl c := by
  unfold ofC isBl
  constructor
  · intro h
    split at h
    · assumption
    · split at h
      · exact absurd h (by decide)
      · split at h <;> exact absurd h (by decide)
  · intro h; rw [if_pos h]

/-- where First's loop ends -/
def FirstAt (s : ByteArray) (r : Int) : Prop :=
  0 ≤ r ∧ (∀ j : Int, 0 ≤ j → j < r → isBl (bt s j)) ∧ ((r < s.size ∧ ¬ isBl (bt s r)) ∨ (r = mx ((s.size : Int) - 1) 0 ∧ ∀ j : Int, 0 ≤ j → j < s.size → isBl (bt s j)))

theorem First_loop (s : ByteArray) (hn : s.size ≤ 140737488351300) (d : Nat) : ∀ (k : Nat) (i : Int), 0 ≤ i → i ≤ s.size → (s.size : Int) - i = d → d + 4 < k → (∀ j : Int, 0 ≤ j → j < i → isBl (bt s j)) →
    ∃ r, class_First.l0 k s s.size i = some r ∧ FirstAt s r := by
  induction d with
  | zero =>
    intro k i h0 h1 hd hk hb
    obtain ⟨k, rfl⟩ : ∃ m, k = m + 1 := ⟨k - 1, by omega⟩
    have he : i = s.size := by omega
    have hw : wrap64 ((s.size : Int) - 1) = (s.size : Int) - 1 := by unfold wrap64; omega
    refine ⟨mx ((s.size : Int) - 1) 0, ?_, ?_, ?_, .inr ⟨rfl, by subst he; exact hb⟩⟩
    · simp only [class_First.l0]; rw [if_neg (by omega), hw]
    · unfold mx; split <;> omega
    · intro j j0 j1; refine hb j j0 ?_; unfold mx at j1; split at j1 <;> omega
  | succ d ih =>
    intro k i h0 h1 hd hk hb
    obtain ⟨k, rfl⟩ : ∃ m, k = m + 1 := ⟨k - 1, by omega⟩
    have hlt : i < (s.size : Int) := by omega
    have hof : class_Of.f k (bt s i) true = some (ofC (bt s i) true) := by
      obtain ⟨k, rfl⟩ : ∃ m, k = m + 4 := ⟨k - 4, by omega⟩
      exact Of_val k _ _
    by_cases hz : isBl (bt s i)
    · have hw : wrap64 (i + 1) = i + 1 := by unfold wrap64; omega
      obtain ⟨r, hr, h⟩ := ih k (i + 1) (by omega) (by omega) (by omega) (by omega) (fun j j0 j1 => by
        by_cases hj : j < i
        · exact hb j j0 hj
        · have : j = i := by omega
          subst this; exact hz)
      refine ⟨r, ?_, h⟩
      simp only [class_First.l0]; rw [if_pos hlt, if_pos h0, if_pos hlt, hof]; simp only [Option.bind_some]
      rw [if_pos ((ofC_bl _ _).2 hz), hw]; exact hr
    · refine ⟨i, ?_, h0, hb, .inl ⟨hlt, hz⟩⟩
      simp only [class_First.l0]; rw [if_pos hlt, if_pos h0, if_pos hlt, hof]; simp only [Option.bind_some]
      rw [if_neg (fun h => hz ((ofC_bl _ _).1 h))]

theorem First_val (k : Nat) (s : ByteArray) (hn : s.size ≤ 140737488351300) (hk : s.size + 4 < k) : ∃ r, class_First.f k s = some r ∧ FirstAt s r := by
  unfold class_First.f
  exact First_loop s hn s.size k 0 (by omega) (by omega) (by omega) hk (fun j j0 j1 => by omega)

theorem FirstAt_one {s : ByteArray} {r q : Int} (h : FirstAt s r) (h' : FirstAt s q) : r = q := by
  obtain ⟨r0, rb, rc⟩ := h
  obtain ⟨q0, qb, qc⟩ := h'
  rcases rc with ⟨rl, rn⟩ | ⟨re, ra⟩
  · rcases qc with ⟨ql, qn⟩ | ⟨qe, qa⟩
    · rcases Int.lt_trichotomy r q with h | h | h
      · exact absurd (qb r r0 h) rn
      · exact h
      · exact absurd (rb q q0 h) qn
    · exact absurd (qa r r0 rl) rn
  · rcases qc with ⟨ql, qn⟩ | ⟨qe, qa⟩
    · exact absurd (ra q q0 ql) qn
    · rw [re, qe]


/-- how many bytes the lines have -/
def total : List ByteArray → Nat
  | [] => 0
  | s :: r => s.size + total r
theorem total_mem : ∀ {l : List ByteArray} {s : ByteArray}, s ∈ l → s.size ≤ total l
  | y :: r, s, h => by
    rcases List.mem_cons.1 h with h | h
    · subst h; simp [total]
    · have := total_mem h; simp [total]; omega
  | [], s, h => by simp at h

theorem rdOf_nat (l : List ByteArray) (i : Nat) (h : i < l.length) : rdOf ByteArray.empty l (i : Int) = l[i] := by
  unfold rdOf; rw [Int.toNat_natCast, List.getD_eq_getElem?_getD, List.getElem?_eq_getElem h]; rfl

theorem light_line (l : List ByteArray) (i : Nat) (hi : i < l.length) (hl : l.length ≤ 40) (n : Int) (Q : Prop) (B : Nat) (hs : l[i].size ≤ 1200)
    (next : ∀ k, B ≤ k → ∃ b, foolscaphelp_Light.l0 k l n ((i + 1 : Nat) : Int) = some b ∧ (b = true → Q)) (d : Nat) :
    ∀ (k j : Nat), j ≤ l[i].size → l[i].size - j = d → B + d + 1 ≤ k → ∃ b, foolscaphelp_Light.l1 k l n i j = some b ∧ (b = true → Q) := by
  have hw : wrap64 ((i : Int) + 1) = ((i + 1 : Nat) : Int) := by unfold wrap64; omega
  have hr := rdOf_nat l i hi
  induction d with
  | zero =>
    intro k j hj hd hk
    obtain ⟨k, rfl⟩ : ∃ m, k = m + 1 := ⟨k - 1, by omega⟩
    simp only [foolscaphelp_Light.l1, hr]
    rw [if_pos (by omega), if_pos (by omega), if_neg (by omega), hw]
    exact next k (by omega)
  | succ d ih =>
    intro k j hj hd hk
    obtain ⟨k, rfl⟩ : ∃ m, k = m + 1 := ⟨k - 1, by omega⟩
    have hw' : wrap64 ((j : Int) + 1) = ((j + 1 : Nat) : Int) := by unfold wrap64; omega
    simp only [foolscaphelp_Light.l1, hr]
    rw [if_pos (by omega), if_pos (by omega), if_pos (by omega), if_pos (by omega), hw']
    split
    · exact ⟨false, rfl, fun h => by cases h⟩
    · exact ih k (j + 1) (by omega) (by omega) (by omega)

theorem light_loop (l : List ByteArray) (hl : l.length ≤ 40) (hs : ∀ s ∈ l, s.size ≤ 140737488351232) (d : Nat) :
    ∀ (k n i : Nat), i ≤ l.length → l.length - i = d → n ≤ 1200 → 2 * d + (1200 - n) + 1 ≤ k →
    ∃ b, foolscaphelp_Light.l0 k l n i = some b ∧ (b = true → n + total (l.drop i) ≤ 1200) := by
  induction d with
  | zero =>
    intro k n i hi hd hn hk
    obtain ⟨k, rfl⟩ : ∃ m, k = m + 1 := ⟨k - 1, by omega⟩
    refine ⟨true, ?_, fun _ => ?_⟩
    · simp only [foolscaphelp_Light.l0]; rw [if_neg (by omega)]
    · rw [List.drop_eq_nil_of_le (by omega)]; simp [total]; omega
  | succ d ih =>
    intro k n i hi hd hn hk
    obtain ⟨k, rfl⟩ : ∃ m, k = m + 1 := ⟨k - 1, by omega⟩
    have hi' : i < l.length := by omega
    have hr := rdOf_nat l i hi'
    have hz := hs l[i] (List.getElem_mem hi')
    have hw : wrap64 ((n : Int) + (l[i].size : Int)) = ((n + l[i].size : Nat) : Int) := by unfold wrap64; omega
    have ht : total (l.drop i) = l[i].size + total (l.drop (i + 1)) := by rw [List.drop_eq_getElem_cons hi']; rfl
    simp only [foolscaphelp_Light.l0, hr]
    rw [if_pos (by omega), if_pos (by omega), hw]
    by_cases hb : n + l[i].size > 1200
    · rw [if_pos (by omega)]
      exact ⟨false, rfl, fun h => by cases h⟩
    · rw [if_neg (by omega)]
      rw [ht]
      refine light_line l i hi' hl _ _ (2 * d + (1200 - (n + l[i].size)) + 1) (by omega) (fun k' hk' => ?_) l[i].size k 0 (by omega) (by omega) (by omega)
      obtain ⟨b, h1, h2⟩ := ih k' (n + l[i].size) (i + 1) (by omega) (by omega) (by omega) hk'
      exact ⟨b, h1, fun h => by have := h2 h; omega⟩

theorem Light_val (k : Nat) (l : List ByteArray) (hk : 1281 ≤ k) (hs : ∀ s ∈ l, s.size ≤ 140737488351232) :
    ∃ b, foolscaphelp_Light.f k l = some b ∧ (b = true → l.length ≤ 40 ∧ total l ≤ 1200) := by
  unfold foolscaphelp_Light.f
  by_cases hl : l.length ≤ 40
  · rw [if_neg (by omega)]
    obtain ⟨b, h1, h2⟩ := light_loop l hl hs l.length k 0 0 (by omega) (by omega) (by omega) (by omega)
    exact ⟨b, h1, fun h => ⟨hl, by have := h2 h; simpa using this⟩⟩
  · rw [if_pos (by omega)]
    exact ⟨false, rfl, fun h => by cases h⟩

theorem Text_val (k : Nat) (l : List ByteArray) (hk : 1281 ≤ k) (hs : ∀ s ∈ l, s.size ≤ 140737488351232) :
    ∃ b, foolscaphelp_Text.f k l = some b ∧ (b = true → 0 < l.length ∧ l.length ≤ 40 ∧ total l ≤ 1200) := by
  unfold foolscaphelp_Text.f
  by_cases h : (l.length : Int) > 0
  · rw [if_pos h]
    obtain ⟨b, h1, h2⟩ := Light_val k l hk hs
    refine ⟨b, ?_, fun e => ⟨by omega, h2 e⟩⟩
    rw [h1]; try rfl
  · rw [if_neg h]
    exact ⟨false, rfl, fun e => by cases e⟩

theorem First_ex (s : ByteArray) (hn : s.size ≤ 140737488351300) : ∃ r, FirstAt s r := by
  obtain ⟨r, _, h⟩ := First_val (s.size + 5) s hn (by omega)
  exact ⟨r, h⟩
/-- where First stands in a line -/
noncomputable def firstOf (s : ByteArray) : Int := Classical.epsilon (FirstAt s)
theorem firstOf_at (s : ByteArray) (hn : s.size ≤ 140737488351300) : FirstAt s (firstOf s) := Classical.epsilon_spec (First_ex s hn)
theorem First_is (k : Nat) (s : ByteArray) (hn : s.size ≤ 140737488351300) (hk : s.size + 4 < k) : class_First.f k s = some (firstOf s) := by
  obtain ⟨r, hr, h⟩ := First_val k s hn hk
  rw [hr, FirstAt_one h (firstOf_at s hn)]

/-- a line of the text -/
def ln (l : List ByteArray) (i : Int) : Int := ((rdOf ByteArray.empty l i).size : Int)
/-- is it a place? -/
def place (l : List ByteArray) (a b : Int) : Bool := decide (0 ≤ a ∧ a < (l.length : Int) ∧ 0 ≤ b ∧ b ≤ ln l a)
theorem Place_val (l : List ByteArray) (a b : Int) : class_Place.f l a b = some (place l a b) := by
  unfold class_Place.f place ln
  by_cases h1 : 0 ≤ a <;> by_cases h2 : a < (l.length : Int) <;> by_cases h3 : 0 ≤ b <;> simp [h1, h2, h3]
theorem place_iff (l : List ByteArray) (a b : Int) : place l a b = true ↔ 0 ≤ a ∧ a < (l.length : Int) ∧ 0 ≤ b ∧ b ≤ ln l a := by
  unfold place; simp

/-- two places in order -/
def ordr (a b c d : Int) : Int × Int × Int × Int := if c < a ∨ (c = a ∧ d < b) then (c, d, a, b) else (a, b, c, d)
theorem Order_val (a b c d : Int) : span_Order.f a b c d = some (ordr a b c d) := by
  unfold span_Order.f span_Less.f ordr
  by_cases h1 : c < a
  · simp [h1]
  · by_cases h2 : c = a
    · by_cases h3 : d < b
      · simp [h2, h3]
      · simp [h2, h3]
    · simp [h1, h2]
theorem ordr_turn (a b c d : Int) : ordr a b c d = ordr c d a b := by
  unfold ordr
  by_cases h1 : c < a ∨ (c = a ∧ d < b)
  · rw [if_pos h1, if_neg (by omega)]
  · by_cases h2 : a < c ∨ (a = c ∧ b < d)
    · rw [if_neg h1, if_pos h2]
    · have : a = c := by omega
      have : b = d := by omega
      subst a; subst b; rfl

abbrev R6 := Int × Int × Int × Int × Int × Bool
def no6 : R6 := (0, 0, 0, 0, 0, false)
/-- what a motion takes in -/
noncomputable def areaS (l : List ByteArray) (a b c d way : Int) : R6 :=
  if (place l a b && place l c d) = true then
    if way = 2 then (1, (ordr a b c d).1, 0, (ordr a b c d).2.2.1, 0, true)
    else if way = 1 then
      if (ordr a b c d).1 = (ordr a b c d).2.2.1 ∧ (ordr a b c d).2.1 = mn ((ordr a b c d).2.2.2 + 1) (ln l (ordr a b c d).2.2.1) then no6
      else (0, (ordr a b c d).1, (ordr a b c d).2.1, (ordr a b c d).2.2.1, mn ((ordr a b c d).2.2.2 + 1) (ln l (ordr a b c d).2.2.1), true)
    else if way = 0 then
      if (ordr a b c d).1 < (ordr a b c d).2.2.1 ∧ (ordr a b c d).2.2.2 = 0 then
        if (ordr a b c d).2.1 ≤ firstOf (rdOf ByteArray.empty l (ordr a b c d).1) then (1, (ordr a b c d).1, 0, (ordr a b c d).2.2.1 - 1, 0, true)
        else if (ordr a b c d).1 = (ordr a b c d).2.2.1 - 1 ∧ (ordr a b c d).2.1 = ln l ((ordr a b c d).2.2.1 - 1) then no6
        else (0, (ordr a b c d).1, (ordr a b c d).2.1, (ordr a b c d).2.2.1 - 1, ln l ((ordr a b c d).2.2.1 - 1), true)
      else if (ordr a b c d).1 = (ordr a b c d).2.2.1 ∧ (ordr a b c d).2.1 = (ordr a b c d).2.2.2 then no6
      else (0, (ordr a b c d).1, (ordr a b c d).2.1, (ordr a b c d).2.2.1, (ordr a b c d).2.2.2, true)
    else no6
  else no6

theorem ordr_place (l : List ByteArray) (a b c d : Int) (h : place l a b = true) (h' : place l c d = true) :
    place l (ordr a b c d).1 (ordr a b c d).2.1 = true ∧ place l (ordr a b c d).2.2.1 (ordr a b c d).2.2.2 = true ∧ (ordr a b c d).1 ≤ (ordr a b c d).2.2.1 ∧
      ((ordr a b c d).1 = (ordr a b c d).2.2.1 → (ordr a b c d).2.1 ≤ (ordr a b c d).2.2.2) := by
  unfold ordr
  split
  · exact ⟨h', h, by simp; omega, by simp; omega⟩
  · exact ⟨h, h', by simp; omega, by simp; omega⟩

theorem eq2 {α : Type} (a b c d : Int) (x y : α) : (if (a == b && (c == d)) = true then x else y) = (if a = b ∧ c = d then x else y) := by
  by_cases h : a = b ∧ c = d
  · rw [if_pos h, if_pos (by simp [h.1, h.2])]
  · rw [if_neg h, if_neg (by simpa using h)]

theorem rd_size (l : List ByteArray) (hs : ∀ s ∈ l, s.size ≤ 1200) (i : Int) : (rdOf ByteArray.empty l i).size ≤ 1200 := by
  unfold rdOf
  rw [List.getD_eq_getElem?_getD]
  cases h : l[i.toNat]? with
  | none => simp
  | some s => exact hs s (List.mem_of_getElem? h)

section
variable (l : List ByteArray) (hl : l.length ≤ 40) (hs : ∀ s ∈ l, s.size ≤ 1200)
include hl hs

theorem area_join (k : Nat) (hk : 1300 ≤ k) (a b c d : Int) (b0 : Bool) (h : place l a b = true) (h' : place l c d = true) (hlt : a < c → b0 = (d == 0)) (hge : ¬ a < c → b0 = false) (hor : a ≤ c) :
    area_Of.j1 k l b0 a b c d 0 a b c d =
      some (if a < c ∧ d = 0 then
        if b ≤ firstOf (rdOf ByteArray.empty l a) then (1, a, 0, c - 1, 0, true)
        else if a = c - 1 ∧ b = ln l (c - 1) then no6
        else (0, a, b, c - 1, ln l (c - 1), true)
      else if a = c ∧ b = d then no6 else (0, a, b, c, d, true)) := by
  obtain ⟨k, rfl⟩ : ∃ m, k = m + 1 := ⟨k - 1, by omega⟩
  rw [place_iff] at h h'
  have hw : wrap64 (c - 1) = c - 1 := by unfold wrap64; omega
  have hz := rd_size l hs a
  simp only [area_Of.j1, hw]
  by_cases e : a < c ∧ d = 0
  · have : b0 = true := by rw [hlt e.1]; simp [e.2]
    subst this
    rw [if_pos rfl, if_pos e, if_pos (by omega), if_pos (by omega), First_is k _ (by omega) (by omega)]; simp only [Option.bind_some]
    by_cases e1 : b ≤ firstOf (rdOf ByteArray.empty l a)
    · rw [if_pos e1, if_pos e1]; rfl
    · rw [if_neg e1, if_neg e1, if_pos (by omega), if_pos (by omega), eq2]
      unfold ln no6
      split <;> rfl
  · have : b0 = false := by
      by_cases e2 : a < c
      · rw [hlt e2]; simp; omega
      · exact hge e2
    subst this
    rw [if_neg (by decide), if_neg e, eq2]
    unfold no6
    split <;> rfl

theorem area_val (k : Nat) (hk : 1302 ≤ k) (a b c d way : Int) (j : Bool) (w : Int) : area_Of.f k l a b c d way j w = some (areaS l a b c d way) := by
  obtain ⟨k, rfl⟩ : ∃ m, k = m + 1 := ⟨k - 1, by omega⟩
  unfold area_Of.f
  rw [Place_val, Place_val]; simp only [Option.bind_some]
  unfold areaS
  cases h : place l a b with
  | false => simp [area_Of.j0, no6]
  | true =>
    cases h' : place l c d with
    | false => simp [area_Of.j0, no6]
    | true =>
      rw [if_pos rfl, if_pos (by simp)]
      obtain ⟨p1, p2, p3, p4⟩ := ordr_place l a b c d h h'
      simp only [area_Of.j0, Order_val, Option.bind_some]
      generalize ordr a b c d = o at *
      obtain ⟨fa, fb, ta, tb⟩ := o
      simp only at p1 p2 p3 p4 ⊢
      rw [if_neg (by simp)]
      by_cases w2 : way = 2
      · rw [if_pos w2, if_pos w2]; rfl
      · rw [if_neg w2, if_neg w2]
        by_cases w1 : way = 1
        · rw [if_pos w1, if_pos w1]
          have q2 := (place_iff _ _ _).1 p2
          have hz := rd_size l hs ta
          have hw : wrap64 (tb + 1) = tb + 1 := by unfold ln at q2; unfold wrap64; omega
          unfold area_with.f
          rw [if_pos (by omega), if_pos (by omega), hw]; simp only [Option.bind_some]
          rw [eq2]
          unfold ln no6
          split <;> rfl
        · rw [if_neg w1, if_neg w1]
          by_cases w0 : way = 0
          · rw [if_pos w0, if_pos w0]
            by_cases e : fa < ta
            · rw [if_pos e]
              exact area_join l hl hs k (by omega) fa fb ta tb _ p1 p2 (fun _ => rfl) (fun h => absurd e h) p3
            · rw [if_neg e]
              exact area_join l hl hs k (by omega) fa fb ta tb _ p1 p2 (fun h => absurd h e) (fun _ => rfl) p3
          · rw [if_neg w0, if_neg w0]; rfl
end

theorem areaS_turn (l : List ByteArray) (a b c d way : Int) : areaS l a b c d way = areaS l c d a b way := by
  unfold areaS
  rw [ordr_turn a b c d, Bool.and_comm (place l a b)]

theorem known27_val (k : Nat) (hk : 20 ≤ k) : foolscaplaw27_known.f k = some true := at_rounds foolscaplaw27_known.mono hk (by kernel_rfl)

theorem seat_val (l : List ByteArray) (hl0 : 0 < l.length) (hl : l.length ≤ 40) (hs : ∀ s ∈ l, s.size ≤ 1200) (a b : Int) (ha : 0 ≤ a ∧ a ≤ 65535) (hb : 0 ≤ b ∧ b ≤ 65535) :
    ∃ x y, foolscapseat_Place.f l a b = some (x, y) ∧ place l x y = true := by
  have e1 : wrap64 a = a := by unfold wrap64; omega
  have e2 : wrap64 b = b := by unfold wrap64; omega
  have e3 : Int.tmod a (l.length : Int) = a % (l.length : Int) := Int.tmod_eq_emod_of_nonneg ha.1
  have r1 := Int.emod_nonneg a (show (l.length : Int) ≠ 0 by omega)
  have r2 := Int.emod_lt_of_pos a (show 0 < (l.length : Int) by omega)
  have hz := rd_size l hs (a % (l.length : Int))
  have e4 : wrap64 (((rdOf ByteArray.empty l (a % (l.length : Int))).size : Int) + 1) = ((rdOf ByteArray.empty l (a % (l.length : Int))).size : Int) + 1 := by unfold wrap64; omega
  have e5 : Int.tmod b (((rdOf ByteArray.empty l (a % (l.length : Int))).size : Int) + 1) = b % (((rdOf ByteArray.empty l (a % (l.length : Int))).size : Int) + 1) := Int.tmod_eq_emod_of_nonneg hb.1
  refine ⟨a % (l.length : Int), b % (((rdOf ByteArray.empty l (a % (l.length : Int))).size : Int) + 1), ?_, ?_⟩
  · unfold foolscapseat_Place.f
    rw [if_neg (by omega), e1, e2, e3, if_pos r1, if_pos r2, e4, if_neg (by omega), e5]
  · rw [place_iff]
    have s1 := Int.emod_nonneg b (show (((rdOf ByteArray.empty l (a % (l.length : Int))).size : Int) + 1) ≠ 0 by omega)
    have s2 := Int.emod_lt_of_pos b (show 0 < (((rdOf ByteArray.empty l (a % (l.length : Int))).size : Int) + 1) by omega)
    exact ⟨r1, r2, s1, by unfold ln; omega⟩

theorem rPlace_val (l : List ByteArray) (a b : Int) : foolscapref5_Place.f l a b = some (place l a b) := Place_val l a b
theorem rOrder_val (a b c d : Int) : foolscapref5_Order.f a b c d = some (ordr a b c d) := Order_val a b c d

theorem Lines_val (l : List ByteArray) (a b n : Int) : ∃ r, area_Lines.f l a b n = some r ∧ foolscapref25_Lines.f l a b n = some r := by
  unfold area_Lines.f foolscapref25_Lines.f
  rw [Place_val, rPlace_val]; simp only [Option.bind_some]
  split
  · split
    · exact ⟨_, rfl, rfl⟩
    · split
      · exact ⟨_, rfl, rfl⟩
      · exact ⟨_, rfl, rfl⟩
  · exact ⟨_, rfl, rfl⟩

/-- what is selected -/
def visS (l : List ByteArray) (mode a b c d : Int) : R6 :=
  if (place l a b && place l c d) = true then
    if mode = 3 then (0, (ordr a b c d).1, (ordr a b c d).2.1, (ordr a b c d).2.2.1, mn ((ordr a b c d).2.2.2 + 1) (ln l (ordr a b c d).2.2.1), true)
    else if mode = 4 then (1, (ordr a b c d).1, 0, (ordr a b c d).2.2.1, 0, true)
    else if mode = 5 then (2, (ordr a b c d).1, mn b d, (ordr a b c d).2.2.1, mx b d, true)
    else no6
  else no6

theorem visS_turn (l : List ByteArray) (mode a b c d : Int) : visS l mode a b c d = visS l mode c d a b := by
  unfold visS
  rw [ordr_turn a b c d, Bool.and_comm (place l a b)]
  have e1 : mn b d = mn d b := by unfold mn; split <;> split <;> omega
  have e2 : mx b d = mx d b := by unfold mx; split <;> split <;> omega
  rw [e1, e2]

theorem ordr_min (a b c d : Int) : mn (ordr a b c d).2.1 (ordr a b c d).2.2.2 = mn b d ∧ mx (ordr a b c d).2.1 (ordr a b c d).2.2.2 = mx b d := by
  unfold ordr
  split
  · simp only; constructor
    · unfold mn; split <;> split <;> omega
    · unfold mx; split <;> split <;> omega
  · exact ⟨rfl, rfl⟩

theorem vis_val (l : List ByteArray) (hl : l.length ≤ 40) (hs : ∀ s ∈ l, s.size ≤ 1200) (k : Nat) (hk : 1 ≤ k) (mode a b c d : Int) : area_Visual.f k l mode a b c d = some (visS l mode a b c d) ∧ foolscapref25_Visual.f k l mode a b c d = some (visS l mode a b c d) := by
  obtain ⟨k, rfl⟩ : ∃ m, k = m + 1 := ⟨k - 1, by omega⟩
  unfold area_Visual.f foolscapref25_Visual.f
  rw [Place_val, rPlace_val, Place_val, rPlace_val]; simp only [Option.bind_some]
  unfold visS
  cases h : place l a b with
  | false => simp [area_Visual.j0, foolscapref25_Visual.j0, no6]
  | true =>
    cases h' : place l c d with
    | false => simp [area_Visual.j0, foolscapref25_Visual.j0, no6]
    | true =>
      rw [if_pos rfl, if_pos rfl, if_pos (show (true && true) = true from rfl)]
      obtain ⟨p1, p2, p3, p4⟩ := ordr_place l a b c d h h'
      obtain ⟨m1, m2⟩ := ordr_min a b c d
      simp only [area_Visual.j0, foolscapref25_Visual.j0, Order_val, rOrder_val, Option.bind_some]
      generalize ordr a b c d = o at *
      obtain ⟨fa, fb, ta, tb⟩ := o
      simp only at p1 p2 p3 p4 m1 m2 ⊢
      rw [if_neg (show ¬ (!true) = true by decide), if_neg (show ¬ (!true) = true by decide)]
      have q2 := (place_iff _ _ _).1 p2
      have hz := rd_size l hs ta
      have hw : wrap64 (tb + 1) = tb + 1 := by unfold ln at q2; unfold wrap64; omega
      by_cases w3 : mode = 3
      · rw [if_pos w3, if_pos w3, if_pos w3]
        unfold area_with.f
        rw [if_pos (by omega), if_pos (by omega), if_pos (by omega), if_pos (by omega), hw]
        exact ⟨rfl, rfl⟩
      · rw [if_neg w3, if_neg w3, if_neg w3]
        by_cases w4 : mode = 4
        · rw [if_pos w4, if_pos w4, if_pos w4]; exact ⟨rfl, rfl⟩
        · rw [if_neg w4, if_neg w4, if_neg w4]
          by_cases w5 : mode = 5
          · rw [if_pos w5, if_pos w5, if_pos w5, m1, m2]; exact ⟨rfl, rfl⟩
          · rw [if_neg w5, if_neg w5, if_neg w5]; exact ⟨rfl, rfl⟩

theorem neq6 (a b c d e : Int) : (!(a == a) || ((!(b == b) || (!(c == c))) || ((!(d == d) || (!(e == e)))))) = false := by simp

section
variable (l : List ByteArray) (hl : l.length ≤ 40) (hs : ∀ s ∈ l, s.size ≤ 1200) (w6 w7 q0 q1 : Int)
include hl hs

theorem ln_l2 (xs : List S28) (n i : Int) (zs : List Int) (hz : zs.length ≤ 10) (x0 x1 : Int) (k : Nat) (hk : 1 ≤ k) (d : Nat) : ∀ (j : Nat) (z : Int), z = j → j ≤ zs.length → zs.length - j = d →
    foolscaplaw27_AreaLines.l2 (k + d + 1) l w6 w7 xs n i zs zs.length z q0 q1 x0 x1 = foolscaplaw27_AreaLines.l0 k l w6 w7 xs n (wrap64 (i + 1)) q0 q1 := by
  induction d with
  | zero =>
    intro j z hz hj hd
    simp only [Nat.add_zero, foolscaplaw27_AreaLines.l2]
    rw [if_neg (by omega)]
    try rfl
  | succ d ih =>
    intro j z hz hj hd
    have hw : wrap64 (z + 1) = z + 1 := by unfold wrap64; omega
    have ih' := ih (j + 1) (z + 1) (by omega) (by omega) (by omega)
    obtain ⟨v1, v2⟩ := vis_val l hl hs (k + (d + 1)) (by omega) (rd zs z) x0 x1 q0 q1
    obtain ⟨v3, _⟩ := vis_val l hl hs (k + (d + 1)) (by omega) (rd zs z) q0 q1 x0 x1
    rw [visS_turn] at v3
    simp only [foolscaplaw27_AreaLines.l2]
    rw [if_pos (by omega), if_pos (by omega), if_pos (by omega), v1, v2, v3]; simp only [Option.bind_some]
    generalize visS l (rd zs z) x0 x1 q0 q1 = r at *
    obtain ⟨r1, r2, r3, r4, r5, r6⟩ := r
    simp only
    rw [neq6, if_neg (by decide), if_neg (by simp), if_neg (by decide), if_neg (by simp), hw]
    exact ih'

theorem ln_l1 (xs : List S28) (n i : Int) (zs : List Int) (hz : zs.length ≤ 10) (x0 x1 : Int) (k : Nat) (hk : 1 ≤ k) (d : Nat) : ∀ (j : Nat) (z : Int), z = j → j ≤ zs.length → zs.length - j = d →
    foolscaplaw27_AreaLines.l1 (k + d + 6) l w6 w7 xs n i zs zs.length z q0 q1 x0 x1 = foolscaplaw27_AreaLines.l0 k l w6 w7 xs n (wrap64 (i + 1)) q0 q1 := by
  induction d with
  | zero =>
    intro j z hz hj hd
    obtain ⟨ys, hys⟩ : ∃ ys : List Int, ys = [w7, 3, 4, 5] := ⟨_, rfl⟩
    have hyl : ys.length = 4 := by rw [hys]; rfl
    have h2 := ln_l2 l hl hs w6 w7 q0 q1 xs n i ys (by omega) x0 x1 k hk 4 0 0 (by rfl) (by omega) (by omega)
    obtain ⟨K, hK⟩ : ∃ K, K = k + 4 + 1 := ⟨_, rfl⟩
    rw [← hK] at h2
    rw [show k + 0 + 6 = K + 1 by omega]
    simp only [foolscaplaw27_AreaLines.l1]
    rw [if_neg (by omega), ← hys]; simp only [Option.bind_some]
    exact h2
  | succ d ih =>
    intro j z hz hj hd
    have hw : wrap64 (z + 1) = z + 1 := by unfold wrap64; omega
    have ih' := ih (j + 1) (z + 1) (by omega) (by omega) (by omega)
    obtain ⟨K, hK⟩ : ∃ K, K = k + d + 6 := ⟨_, rfl⟩
    rw [← hK] at ih'
    rw [show k + (d + 1) + 6 = K + 1 by omega]
    obtain ⟨⟨r1, r2, r3, r4, r5, r6⟩, v1, v2⟩ := Lines_val l x0 x1 (rd zs z)
    simp only [foolscaplaw27_AreaLines.l1]
    rw [if_pos (by omega), if_pos (by omega), if_pos (by omega), v1, v2]; simp only [Option.bind_some]
    rw [neq6, if_neg (by decide), if_neg (by simp), hw]
    exact ih'

theorem ln_l0 (xs : List S28) (hx : xs.length ≤ 10) (k : Nat) (hk : 1 ≤ k) (d : Nat) : ∀ (j : Nat) (z : Int), z = j → j ≤ xs.length → xs.length - j = d →
    foolscaplaw27_AreaLines.l0 (k + 10 * d + 1) l w6 w7 xs xs.length z q0 q1 = some true := by
  induction d with
  | zero =>
    intro j z hz hj hd
    simp only [Nat.mul_zero, Nat.add_zero, foolscaplaw27_AreaLines.l0]
    rw [if_neg (by omega)]
  | succ d ih =>
    intro j z hz hj hd
    have hw : wrap64 (z + 1) = z + 1 := by unfold wrap64; omega
    have ih' := ih (j + 1) (z + 1) (by omega) (by omega) (by omega)
    obtain ⟨ys, hys⟩ : ∃ ys : List Int, ys = [w6, Int.tmod w6 6, 1] := ⟨_, rfl⟩
    have hyl : ys.length = 3 := by rw [hys]; rfl
    have h1 := ln_l1 l hl hs w6 w7 q0 q1 xs xs.length z ys (by omega) (rd_T28 xs z).f0 (rd_T28 xs z).f1 (k + 10 * d + 1) (by omega) 3 0 0 (by rfl) (by omega) (by omega)
    obtain ⟨K, hK⟩ : ∃ K, K = k + 10 * d + 1 + 3 + 6 := ⟨_, rfl⟩
    rw [← hK] at h1
    rw [show k + 10 * (d + 1) + 1 = K + 1 by omega]
    simp only [foolscaplaw27_AreaLines.l0]
    rw [if_pos (by omega), if_pos (by omega), if_pos (by omega), ← hys]; simp only [Option.bind_some]
    rw [hw] at h1
    exact h1.trans ih'
end

theorem AreaLines (l : List ByteArray) (x0 x1 a b c d n mode : Int) (hsz : ∀ s ∈ l, s.size ≤ 140737488351232) (ha : 0 ≤ a ∧ a ≤ 65535) (hb : 0 ≤ b ∧ b ≤ 65535) (hc : 0 ≤ c ∧ c ≤ 65535) (hd : 0 ≤ d ∧ d ≤ 65535) :
    ∃ k, foolscaplaw27_AreaLines.f k l x0 x1 a b c d n mode = some true := by
  obtain ⟨k, hk⟩ : ∃ k, k = 2000 := ⟨_, rfl⟩
  obtain ⟨K, hK⟩ : ∃ K, K = k + 10 * 2 + 1 := ⟨_, rfl⟩
  refine ⟨K, ?_⟩
  unfold foolscaplaw27_AreaLines.f
  rw [known27_val _ (by omega)]; simp only [Option.bind_some, if_true]
  obtain ⟨v, hv, hb'⟩ := Text_val K l (by omega) hsz
  rw [hv]; simp only [Option.bind_some]
  cases v with
  | false => rw [if_neg (by decide)]
  | true =>
    rw [if_pos rfl]
    obtain ⟨hz, hl, ht⟩ := hb' rfl
    have hs : ∀ s ∈ l, s.size ≤ 1200 := fun s h => Nat.le_trans (total_mem h) ht
    obtain ⟨x, y, e1, _⟩ := seat_val l hz hl hs a b ha hb
    obtain ⟨u, v, e2, _⟩ := seat_val l hz hl hs c d hc hd
    rw [e1]; simp only [Option.bind_some]
    rw [e2]; simp only [Option.bind_some]
    generalize hxs : ([(⟨x0, x1⟩ : S28), (⟨x, y⟩ : S28)] : List S28) = xs
    have hxl : xs.length = 2 := by rw [← hxs]; rfl
    rw [hK]
    exact ln_l0 l hl hs n mode u v xs (by omega) k (by omega) 2 0 0 (by rfl) (by omega) (by omega)

theorem AreaLines_walk (A0 : Option Addr) (c0 : Nat) (l0 : List ByteArray) (a1 b1 a2 a3 a4 a5 a6 a7 : Int) (w : World)
    (hr0 : Kd.C Kd.string w A0 l0.length l0) (hc0 : l0.length ≤ c0) (hz0 : l0.length * 16 ≤ 140737488351232) (hs0 : ∀ s ∈ l0, s.size ≤ 140737488351232)
    (wa1 : (Lit.int .i64 a1).wf = true) (wb1 : (Lit.int .i64 b1).wf = true)
    (w2 : (Lit.int .u16 a2).wf = true) (w3 : (Lit.int .u16 a3).wf = true) (w4 : (Lit.int .u16 a4).wf = true) (w5 : (Lit.int .u16 a5).wf = true) (w6 : (Lit.int .i64 a6).wf = true) (w7 : (Lit.int .i64 a7).wf = true) :
    Calls Try.prog 11 #[.slice A0 l0.length c0, .agg #[.int .i64 a1, .int .i64 b1], .int .u16 a2, .int .u16 a3, .int .u16 a4, .int .u16 a5, .int .i64 a6, .int .i64 a7] w fun e w' => e = .returned (.bool true) ∧ Below w.heap.size w w' := by
  obtain ⟨k, hk⟩ := AreaLines l0 a1 b1 a2 a3 a4 a5 a6 a7 hs0 (bounds_u16 w2) (bounds_u16 w3) (bounds_u16 w4) (bounds_u16 w5)
  exact foolscaplaw27_AreaLines.calls k A0 c0 l0 a1 b1 a2 a3 a4 a5 a6 a7 true w hr0 hc0 hk

end Go.Proofs.Ytdcbgmeljakmcaa.Pure
