/- What the printed functions of seat B compute, in plain Lean: changes, one and many, their inverse, sizes. -/
import Derived.Test.YtlkmidginogehaaExtJ
set_option linter.unusedVariables false
set_option linter.unusedSimpArgs false
namespace Go.Proofs.Ytlkmidginogehaa.Plain
open Go.RowKit Go.Proofs.YtlkmidginogehaaW.PrintWords Go.Proofs.YtlkmidginogehaaW.PrintLast Go.Proofs.YtlkmidginogehaaW.PrintMore
open Go.Proofs.Ytlkmidginogehaa.MChange Go.Proofs.Ytlkmidginogehaa.Ext

theorem bytes_inj {a b : ByteArray} : a.toList = b.toList ↔ a = b := by
  rw [ByteArray.toList_eq, ByteArray.toList_eq]
  constructor
  · intro h
    cases a with | mk a => cases b with | mk b => simp at h; rw [h]
  · intro h; rw [h]
theorem rd_nat (l : List ByteArray) (i : Nat) (z : Int) (hz : z = i) (h : i < l.length) : rdOf ByteArray.empty l z = l[i] := by
  subst hz
  unfold rdOf; rw [Int.toNat_natCast, List.getD_eq_getElem?_getD, List.getElem?_eq_getElem h]; rfl
theorem drop_eq {a b : List ByteArray} (j : Nat) (ha : j < a.length) (hb : j < b.length) : a.drop j = b.drop j ↔ a[j] = b[j] ∧ a.drop (j + 1) = b.drop (j + 1) := by
  rw [List.drop_eq_getElem_cons ha, List.drop_eq_getElem_cons hb, List.cons.injEq]
theorem w_small {z : Int} (h : -1000000000 ≤ z) (h1 : z ≤ 1000000000) : wrap64 z = z := by unfold wrap64; omega
theorem wn (j : Nat) (z : Int) (hz : z = j) (h : j ≤ 100000) : wrap64 (z + 1) = ((j + 1 : Nat) : Int) := by unfold wrap64; omega

theorem strings_l0 (a b : List ByteArray) (hab : a.length = b.length) (hn : a.length ≤ 10000) (d : Nat) : ∀ (k j : Nat) (z : Int), z = j → j ≤ a.length → a.length - j = d → d + 1 ≤ k → foolscaphelp_Strings.l0 k a b z = some (decide (a.drop j = b.drop j)) := by
  induction d with
  | zero =>
    intro k j z hz hj hd hk
    obtain ⟨k, rfl⟩ : ∃ m, k = m + 1 := ⟨k - 1, by omega⟩
    rw [foolscaphelp_Strings.l0, if_neg (by omega), List.drop_eq_nil_of_le (by omega), List.drop_eq_nil_of_le (by omega)]
    rfl
  | succ d ih =>
    intro k j z hz hj hd hk
    obtain ⟨k, rfl⟩ : ∃ m, k = m + 1 := ⟨k - 1, by omega⟩
    have ha : j < a.length := by omega
    have hb : j < b.length := by omega
    rw [foolscaphelp_Strings.l0, if_pos (by omega), if_pos (by omega), if_pos (by omega), rd_nat a j z hz ha, rd_nat b j z hz hb, wn j z hz (by omega)]
    by_cases h : a[j] = b[j]
    · rw [if_pos (bytes_inj.2 h), ih k (j + 1) _ rfl (by omega) (by omega) (by omega)]
      congr 1
      rw [decide_eq_decide, drop_eq j ha hb]
      exact ⟨fun x => ⟨h, x⟩, fun x => x.2⟩
    · rw [if_neg (fun x => h (bytes_inj.1 x))]
      congr 1
      symm
      rw [decide_eq_false_iff_not, drop_eq j ha hb]
      exact fun x => h x.1
theorem strings_val (k : Nat) (a b : List ByteArray) (hn : a.length ≤ 10000) (hk : a.length + 1 ≤ k) : foolscaphelp_Strings.f k a b = some (decide (a = b)) := by
  unfold foolscaphelp_Strings.f
  by_cases h : (a.length : Int) = (b.length : Int)
  · rw [if_pos h]
    have := strings_l0 a b (by omega) hn a.length k 0 0 rfl (by omega) (by omega) hk
    rw [List.drop_zero, List.drop_zero] at this
    exact this
  · rw [if_neg h]
    congr 1
    symm
    rw [decide_eq_false_iff_not]
    intro e; rw [e] at h; exact h rfl

theorem same_l0 (a b : List ByteArray) (hab : a.length = b.length) (hn : a.length ≤ 10000) (d : Nat) : ∀ (k j : Nat) (z : Int), z = j → j ≤ a.length → a.length - j = d → d + 1 ≤ k → foolscapref19_Same.l0 k a b z = some (decide (a.drop j = b.drop j)) := by
  induction d with
  | zero =>
    intro k j z hz hj hd hk
    obtain ⟨k, rfl⟩ : ∃ m, k = m + 1 := ⟨k - 1, by omega⟩
    rw [foolscapref19_Same.l0, if_neg (by omega), List.drop_eq_nil_of_le (by omega), List.drop_eq_nil_of_le (by omega)]
    rfl
  | succ d ih =>
    intro k j z hz hj hd hk
    obtain ⟨k, rfl⟩ : ∃ m, k = m + 1 := ⟨k - 1, by omega⟩
    have ha : j < a.length := by omega
    have hb : j < b.length := by omega
    rw [foolscapref19_Same.l0, if_pos (by omega), if_pos (by omega), if_pos (by omega), rd_nat a j z hz ha, rd_nat b j z hz hb, wn j z hz (by omega)]
    by_cases h : a[j] = b[j]
    · rw [if_pos (bytes_inj.2 h), ih k (j + 1) _ rfl (by omega) (by omega) (by omega)]
      congr 1
      rw [decide_eq_decide, drop_eq j ha hb]
      exact ⟨fun x => ⟨h, x⟩, fun x => x.2⟩
    · rw [if_neg (fun x => h (bytes_inj.1 x))]
      congr 1
      symm
      rw [decide_eq_false_iff_not, drop_eq j ha hb]
      exact fun x => h x.1
theorem same_val (k : Nat) (a b : List ByteArray) (hn : a.length ≤ 10000) (hk : a.length + 1 ≤ k) : foolscapref19_Same.f k a b = some (decide (a = b)) := by
  unfold foolscapref19_Same.f
  by_cases h : (a.length : Int) = (b.length : Int)
  · rw [if_pos h]
    have := same_l0 a b (by omega) hn a.length k 0 0 rfl (by omega) (by omega) hk
    rw [List.drop_zero, List.drop_zero] at this
    exact this
  · rw [if_neg h]
    congr 1
    symm
    rw [decide_eq_false_iff_not]
    intro e; rw [e] at h; exact h rfl

theorem equal_l0 (a b : List ByteArray) (hab : a.length = b.length) (hn : a.length ≤ 10000) (d : Nat) : ∀ (k j : Nat) (z : Int), z = j → j ≤ a.length → a.length - j = d → d + 1 ≤ k → slices_Equal_string_string.l0 k a b (a.length : Int) z = some (decide (a.drop j = b.drop j)) := by
  induction d with
  | zero =>
    intro k j z hz hj hd hk
    obtain ⟨k, rfl⟩ : ∃ m, k = m + 1 := ⟨k - 1, by omega⟩
    rw [slices_Equal_string_string.l0, if_neg (by omega), List.drop_eq_nil_of_le (by omega), List.drop_eq_nil_of_le (by omega)]
    rfl
  | succ d ih =>
    intro k j z hz hj hd hk
    obtain ⟨k, rfl⟩ : ∃ m, k = m + 1 := ⟨k - 1, by omega⟩
    have ha : j < a.length := by omega
    have hb : j < b.length := by omega
    rw [slices_Equal_string_string.l0, if_pos (by omega), if_pos (by omega), if_pos (by omega), if_pos (by omega), rd_nat a j z hz ha, rd_nat b j z hz hb, wn j z hz (by omega)]
    by_cases h : a[j] = b[j]
    · rw [if_pos (bytes_inj.2 h), ih k (j + 1) _ rfl (by omega) (by omega) (by omega)]
      congr 1
      rw [decide_eq_decide, drop_eq j ha hb]
      exact ⟨fun x => ⟨h, x⟩, fun x => x.2⟩
    · rw [if_neg (fun x => h (bytes_inj.1 x))]
      congr 1
      symm
      rw [decide_eq_false_iff_not, drop_eq j ha hb]
      exact fun x => h x.1
theorem equal_val (k : Nat) (a b : List ByteArray) (hn : a.length ≤ 10000) (hk : a.length + 1 ≤ k) : slices_Equal_string_string.f k a b = some (decide (a = b)) := by
  unfold slices_Equal_string_string.f
  by_cases h : (a.length : Int) = (b.length : Int)
  · rw [if_pos h]
    have := equal_l0 a b (by omega) hn a.length k 0 0 rfl (by omega) (by omega) hk
    rw [List.drop_zero, List.drop_zero] at this
    exact this
  · rw [if_neg h]
    congr 1
    symm
    rw [decide_eq_false_iff_not]
    intro e; rw [e] at h; exact h rfl

/-- how many bytes the lines have -/
def total : List ByteArray → Nat
  | [] => 0
  | s :: r => s.size + total r
theorem total_mem : ∀ {l : List ByteArray} {s : ByteArray}, s ∈ l → s.size ≤ total l
  | y :: r, s, h => by
    rcases List.mem_cons.1 h with h | h
    · subst h; simp [total]
    · have := total_mem h; simp [total]; omega
  | [], s, h => by simp at h

theorem rdOf_nat (l : List ByteArray) (i : Nat) (h : i < l.length) : rdOf ByteArray.empty l (i : Int) = l[i] := by
  unfold rdOf; rw [Int.toNat_natCast, List.getD_eq_getElem?_getD, List.getElem?_eq_getElem h]; rfl

theorem light_line (l : List ByteArray) (i : Nat) (hi : i < l.length) (hl : l.length ≤ 40) (n : Int) (Q : Prop) (B : Nat) (hs : l[i].size ≤ 1200)
    (next : ∀ k, B ≤ k → ∃ b, foolscaphelp_Light.l0 k l n ((i + 1 : Nat) : Int) = some b ∧ (b = true → Q)) (d : Nat) :
    ∀ (k j : Nat), j ≤ l[i].size → l[i].size - j = d → B + d + 1 ≤ k → ∃ b, foolscaphelp_Light.l1 k l n i j = some b ∧ (b = true → Q) := by
  have hw : wrap64 ((i : Int) + 1) = ((i + 1 : Nat) : Int) := by unfold wrap64; omega
  have hr := rdOf_nat l i hi
  induction d with
  | zero =>
    intro k j hj hd hk
    obtain ⟨k, rfl⟩ : ∃ m, k = m + 1 := ⟨k - 1, by omega⟩
    simp only [foolscaphelp_Light.l1, hr]
    rw [if_pos (by omega), if_pos (by omega), if_neg (by omega), hw]
    exact next k (by omega)
  | succ d ih =>
    intro k j hj hd hk
    obtain ⟨k, rfl⟩ : ∃ m, k = m + 1 := ⟨k - 1, by omega⟩
    have hw' : wrap64 ((j : Int) + 1) = ((j + 1 : Nat) : Int) := by unfold wrap64; omega
    simp only [foolscaphelp_Light.l1, hr]
    rw [if_pos (by omega), if_pos (by omega), if_pos (by omega), if_pos (by omega), hw']
    split
    · exact ⟨false, rfl, fun h => by cases h⟩
    · exact ih k (j + 1) (by omega) (by omega) (by omega)

theorem light_loop (l : List ByteArray) (hl : l.length ≤ 40) (hs : ∀ s ∈ l, s.size ≤ 140737488351232) (d : Nat) :
    ∀ (k n i : Nat), i ≤ l.length → l.length - i = d → n ≤ 1200 → 2 * d + (1200 - n) + 1 ≤ k →
    ∃ b, foolscaphelp_Light.l0 k l n i = some b ∧ (b = true → n + total (l.drop i) ≤ 1200) := by
  induction d with
  | zero =>
    intro k n i hi hd hn hk
    obtain ⟨k, rfl⟩ : ∃ m, k = m + 1 := ⟨k - 1, by omega⟩
    refine ⟨true, ?_, fun _ => ?_⟩
    · simp only [foolscaphelp_Light.l0]; rw [if_neg (by omega)]
    · rw [List.drop_eq_nil_of_le (by omega)]; simp [total]; omega
  | succ d ih =>
    intro k n i hi hd hn hk
    obtain ⟨k, rfl⟩ : ∃ m, k = m + 1 := ⟨k - 1, by omega⟩
    have hi' : i < l.length := by omega
    have hr := rdOf_nat l i hi'
    have hz := hs l[i] (List.getElem_mem hi')
    have hw : wrap64 ((n : Int) + (l[i].size : Int)) = ((n + l[i].size : Nat) : Int) := by unfold wrap64; omega
    have ht : total (l.drop i) = l[i].size + total (l.drop (i + 1)) := by rw [List.drop_eq_getElem_cons hi']; rfl
    simp only [foolscaphelp_Light.l0, hr]
    rw [if_pos (by omega), if_pos (by omega), hw]
    by_cases hb : n + l[i].size > 1200
    · rw [if_pos (by omega)]
      exact ⟨false, rfl, fun h => by cases h⟩
    · rw [if_neg (by omega)]
      rw [ht]
      refine light_line l i hi' hl _ _ (2 * d + (1200 - (n + l[i].size)) + 1) (by omega) (fun k' hk' => ?_) l[i].size k 0 (by omega) (by omega) (by omega)
      obtain ⟨b, h1, h2⟩ := ih k' (n + l[i].size) (i + 1) (by omega) (by omega) (by omega) hk'
      exact ⟨b, h1, fun h => by have := h2 h; omega⟩

theorem Light_val (k : Nat) (l : List ByteArray) (hk : 1281 ≤ k) (hs : ∀ s ∈ l, s.size ≤ 140737488351232) :
    ∃ b, foolscaphelp_Light.f k l = some b ∧ (b = true → l.length ≤ 40 ∧ total l ≤ 1200) := by
  unfold foolscaphelp_Light.f
  by_cases hl : l.length ≤ 40
  · rw [if_neg (by omega)]
    obtain ⟨b, h1, h2⟩ := light_loop l hl hs l.length k 0 0 (by omega) (by omega) (by omega) (by omega)
    exact ⟨b, h1, fun h => ⟨hl, by have := h2 h; simpa using this⟩⟩
  · rw [if_pos (by omega)]
    exact ⟨false, rfl, fun h => by cases h⟩
theorem total_append (a b : List ByteArray) : total (a ++ b) = total a + total b := by
  induction a with
  | nil => simp [total]
  | cons x a ih => simp [total, ih]; omega
theorem total_take (l : List ByteArray) (n : Nat) : total (l.take n) ≤ total l := by
  have h := total_append (l.take n) (l.drop n)
  rw [List.take_append_drop] at h; omega
theorem total_drop_le (l : List ByteArray) (n : Nat) : total (l.drop n) ≤ total l := by
  have h := total_append (l.take n) (l.drop n)
  rw [List.take_append_drop] at h; omega
def sizeL (l : List ByteArray) : Int := ((total l + l.length : Nat) : Int)
theorem drop_total (l : List ByteArray) (j : Nat) (hj : j < l.length) : total (l.drop j) = (l[j]).size + total (l.drop (j + 1)) := by
  rw [List.drop_eq_getElem_cons hj]; rfl
theorem wadd (acc : Int) (n : Nat) (h0 : 0 ≤ acc) (h : acc + (n : Int) ≤ 200000000) : wrap64 (acc + wrap64 ((n : Int) + 1)) = acc + ((n : Int) + 1) := by
  rw [w_small (z := (n : Int) + 1) (by omega) (by omega), w_small (by omega) (by omega)]
theorem csize_l0 (l : List ByteArray) (hl : l.length ≤ 10000) (ht : total l ≤ 100000000) (d : Nat) : ∀ (k j : Nat) (z acc : Int), z = j → j ≤ l.length → l.length - j = d → acc + total (l.drop j) + (l.length - j : Nat) = sizeL l → 0 ≤ acc → d + 1 ≤ k → class_Size.l0 k acc l (l.length : Int) z = some (sizeL l) := by
  induction d with
  | zero =>
    intro k j z acc hz hj hd ha h0 hk
    obtain ⟨k, rfl⟩ : ∃ m, k = m + 1 := ⟨k - 1, by omega⟩
    rw [class_Size.l0, if_neg (by omega), ← ha, List.drop_eq_nil_of_le (by omega), hd]
    simp [total]
  | succ d ih =>
    intro k j z acc hz hj hd ha h0 hk
    obtain ⟨k, rfl⟩ : ∃ m, k = m + 1 := ⟨k - 1, by omega⟩
    have hjl : j < l.length := by omega
    have ht2 := drop_total l j hjl
    have ht3 := total_drop_le l j
    have hsl : sizeL l ≤ 100010000 := by unfold sizeL; omega
    have hb : acc + ((l[j]).size : Int) ≤ 200000000 := by omega
    have hs : acc + ((l[j]).size + 1 : Int) + total (l.drop (j + 1)) + (l.length - (j + 1) : Nat) = sizeL l := by omega
    rw [class_Size.l0, if_pos (by omega), if_pos (by omega), if_pos (by omega), rd_nat l j z hz hjl, wadd acc _ h0 hb, wn j z hz (by omega)]
    exact ih k (j + 1) _ _ rfl (by omega) (by omega) hs (by omega) (by omega)
theorem csize_val (k : Nat) (l : List ByteArray) (hl : l.length ≤ 10000) (ht : total l ≤ 100000000) (hk : l.length + 1 ≤ k) : class_Size.f k l = some (sizeL l) :=
  csize_l0 l hl ht l.length k 0 0 0 rfl (by omega) (by omega) (by unfold sizeL; simp) (by omega) hk
theorem rsize_l0 (l : List ByteArray) (hl : l.length ≤ 10000) (ht : total l ≤ 100000000) (d : Nat) : ∀ (k j : Nat) (z acc : Int), z = j → j ≤ l.length → l.length - j = d → acc + total (l.drop j) + (l.length - j : Nat) = sizeL l → 0 ≤ acc → d + 1 ≤ k → foolscapref5_Size.l0 k l acc z = some (sizeL l) := by
  induction d with
  | zero =>
    intro k j z acc hz hj hd ha h0 hk
    obtain ⟨k, rfl⟩ : ∃ m, k = m + 1 := ⟨k - 1, by omega⟩
    rw [foolscapref5_Size.l0, if_neg (by omega), ← ha, List.drop_eq_nil_of_le (by omega), hd]
    simp [total]
  | succ d ih =>
    intro k j z acc hz hj hd ha h0 hk
    obtain ⟨k, rfl⟩ : ∃ m, k = m + 1 := ⟨k - 1, by omega⟩
    have hjl : j < l.length := by omega
    have ht2 := drop_total l j hjl
    have ht3 := total_drop_le l j
    have hsl : sizeL l ≤ 100010000 := by unfold sizeL; omega
    have hb : acc + ((l[j]).size : Int) ≤ 200000000 := by omega
    have hs : acc + ((l[j]).size + 1 : Int) + total (l.drop (j + 1)) + (l.length - (j + 1) : Nat) = sizeL l := by omega
    rw [foolscapref5_Size.l0, if_pos (by omega), if_pos (by omega), rd_nat l j z hz hjl, wadd acc _ h0 hb, wn j z hz (by omega)]
    exact ih k (j + 1) _ _ rfl (by omega) (by omega) hs (by omega) (by omega)
theorem rsize_val (k : Nat) (l : List ByteArray) (hl : l.length ≤ 10000) (ht : total l ≤ 100000000) (hk : l.length + 1 ≤ k) : foolscapref5_Size.f k l = some (sizeL l) :=
  rsize_l0 l hl ht l.length k 0 0 0 rfl (by omega) (by omega) (by unfold sizeL; simp) (by omega) hk

/-- a change, done -/
def applyOne (l : List ByteArray) (c : S40) : Option (List ByteArray) :=
  if 0 ≤ c.f0 ∧ c.f0 ≤ l.length ∧ (c.f1.length : Int) ≤ l.length - c.f0 ∧ (l.drop c.f0.toNat).take c.f1.length = c.f1 ∧ (l.length : Int) - c.f1.length + c.f2.length ≠ 0 then some (l.take c.f0.toNat ++ c.f2 ++ l.drop (c.f0.toNat + c.f1.length)) else none
def res : Option (List ByteArray) → List ByteArray × Bool
  | some v => (v, true)
  | none => ([], false)
theorem mid_eq (l : List ByteArray) (a n : Nat) : (l.take (a + n)).drop a = (l.drop a).take n := by rw [List.drop_take]; congr 1; omega
theorem applyOne_no (l : List ByteArray) (c : S40) (h : ¬ (0 ≤ c.f0 ∧ c.f0 ≤ l.length ∧ (c.f1.length : Int) ≤ l.length - c.f0 ∧ (l.drop c.f0.toNat).take c.f1.length = c.f1 ∧ (l.length : Int) - c.f1.length + c.f2.length ≠ 0)) : applyOne l c = none := if_neg h
theorem applyOne_yes (l : List ByteArray) (c : S40) (h : 0 ≤ c.f0 ∧ c.f0 ≤ l.length ∧ (c.f1.length : Int) ≤ l.length - c.f0 ∧ (l.drop c.f0.toNat).take c.f1.length = c.f1 ∧ (l.length : Int) - c.f1.length + c.f2.length ≠ 0) : applyOne l c = some (l.take c.f0.toNat ++ c.f2 ++ l.drop (c.f0.toNat + c.f1.length)) := if_pos h
theorem capply_val (k : Nat) (l : List ByteArray) (c : S40) (hl : l.length ≤ 5000) (h1 : c.f1.length ≤ 5000) (h2 : c.f2.length ≤ 5000) (hk : c.f1.length + 5 ≤ k) : change_apply.f k l c.f0 c.f1 c.f2 = some (res (applyOne l c)) := by
  obtain ⟨k, rfl⟩ : ∃ m, k = m + 1 := ⟨k - 1, by omega⟩
  have hno : ∀ x : Bool, x = true → applyOne l c = none → change_apply.j0 (k + 1) l x c.f0 c.f1 c.f2 = some (res (applyOne l c)) := by
    intro x hx hn
    rw [change_apply.j0, if_pos hx, hn]; rfl
  unfold change_apply.f
  by_cases a0 : c.f0 < 0
  · rw [if_pos a0]; exact hno _ rfl (applyOne_no _ _ (by omega))
  · rw [if_neg a0]
    by_cases a1 : c.f0 > (l.length : Int)
    · rw [if_pos a1]; exact hno _ rfl (applyOne_no _ _ (by omega))
    · rw [if_neg a1]
      have w1 : wrap64 ((l.length : Int) - c.f0) = (l.length : Int) - c.f0 := w_small (by omega) (by omega)
      have w2 : wrap64 ((l.length : Int) - (c.f1.length : Int)) = (l.length : Int) - (c.f1.length : Int) := w_small (by omega) (by omega)
      have w3 : wrap64 ((l.length : Int) - (c.f1.length : Int) + (c.f2.length : Int)) = (l.length : Int) - (c.f1.length : Int) + (c.f2.length : Int) := w_small (by omega) (by omega)
      have w4 : wrap64 (c.f0 + (c.f1.length : Int)) = c.f0 + (c.f1.length : Int) := w_small (by omega) (by omega)
      rw [w1]
      clear w1
      by_cases a2 : (c.f1.length : Int) > (l.length : Int) - c.f0
      · rw [if_pos a2]; exact hno _ rfl (applyOne_no _ _ (by clear w2 w3 w4; omega))
      · rw [if_neg a2, w2, w3]
        clear w2 w3
        by_cases a3 : (l.length : Int) - (c.f1.length : Int) + (c.f2.length : Int) = 0
        · rw [hno _ (by rw [a3]; rfl) (applyOne_no _ _ (by clear w4; omega))]
        · have b1 : 0 ≤ c.f0 := by omega
          have b2 : c.f0 ≤ c.f0 + (c.f1.length : Int) := by omega
          have b3 : c.f0 + (c.f1.length : Int) ≤ (l.length : Int) := by clear w4; omega
          have b4 : c.f0 ≤ (l.length : Int) := by omega
          have b5 : 0 ≤ c.f0 + (c.f1.length : Int) := by clear w4; omega
          have b6 : (c.f0 + (c.f1.length : Int)).toNat = c.f0.toNat + c.f1.length := by clear w4; omega
          have hm : ((l.take (c.f0.toNat + c.f1.length)).drop c.f0.toNat).length ≤ c.f1.length := by rw [mid_eq, List.length_take]; omega
          have hc : (l.take c.f0.toNat).length + c.f2.length + (l.drop (c.f0.toNat + c.f1.length)).length ≤ 100000 := by rw [List.length_take, List.length_drop]; omega
          rw [change_apply.j0, if_neg (by simpa using a3), w4, if_pos b1, if_pos b2, if_pos b3, b6, equal_val k _ _ (by omega) (by omega), Option.bind_some, mid_eq]
          by_cases e : (l.drop c.f0.toNat).take c.f1.length = c.f1
          · rw [if_pos (decide_eq_true e), if_pos b4, if_pos b5, applyOne_yes l c ⟨b1, b4, by omega, e, a3⟩]
            unfold slices_Concat_string_string.f
            simp only [if_pos hc, Option.bind_some]; rfl
          · rw [if_neg (by simpa using e), applyOne_no l c (fun h => e h.2.2.2.1)]; rfl
end Go.Proofs.Ytlkmidginogehaa.Plain
