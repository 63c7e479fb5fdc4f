/- FindWords is true for all lines: a word that is told is one, as long as may be, at the place or behind it; each slice and each string has at most 140737488351232 bytes. -/
import Derived.Test.YtbfoflhfmhfofaaMFindWordsx5
import Derived.KernelRfl
import Derived.Lib.Strings
import Derived.OpenShut
set_option linter.unusedVariables false
set_option linter.unusedSimpArgs false
namespace Go.Proofs.Ytbfoflhfmhfofaa.Pure
open Go.RowKit Go.Proofs.Ytbfoflhfmhfofaa.Out Go.Proofs.Ytbfoflhfmhfofaa.MFindWords Go.Proofs.YtbfoflhfmhfofaaW.PrintWords Go.Proofs.YtbfoflhfmhfofaaW.PrintLast Go.Proofs.YtbfoflhfmhfofaaW.PrintMore

/-- how many bytes the lines have -/
def total : List ByteArray → Nat
  | [] => 0
  | s :: r => s.size + total r
theorem total_mem : ∀ {l : List ByteArray} {s : ByteArray}, s ∈ l → s.size ≤ total l
  | y :: r, s, h => by
    rcases List.mem_cons.1 h with h | h
    · subst h; simp [total]
    · have := total_mem h; simp [total]; omega
  | [], s, h => by simp at h

theorem rdOf_nat (l : List ByteArray) (i : Nat) (h : i < l.length) : rdOf ByteArray.empty l (i : Int) = l[i] := by
  unfold rdOf; rw [Int.toNat_natCast, List.getD_eq_getElem?_getD, List.getElem?_eq_getElem h]; rfl

theorem light_line (l : List ByteArray) (i : Nat) (hi : i < l.length) (hl : l.length ≤ 40) (n : Int) (Q : Prop) (B : Nat) (hs : l[i].size ≤ 1200)
    (next : ∀ k, B ≤ k → ∃ b, foolscaphelp_Light.l0 k l n ((i + 1 : Nat) : Int) = some b ∧ (b = true → Q)) (d : Nat) :
    ∀ (k j : Nat), j ≤ l[i].size → l[i].size - j = d → B + d + 1 ≤ k → ∃ b, foolscaphelp_Light.l1 k l n i j = some b ∧ (b = true → Q) := by
  have hw : wrap64 ((i : Int) + 1) = ((i + 1 : Nat) : Int) := by unfold wrap64; omega
  have hr := rdOf_nat l i hi
  induction d with
  | zero =>
    intro k j hj hd hk
    obtain ⟨k, rfl⟩ : ∃ m, k = m + 1 := ⟨k - 1, by omega⟩
    simp only [foolscaphelp_Light.l1, hr]
    rw [if_pos (by omega), if_pos (by omega), if_neg (by omega), hw]
    exact next k (by omega)
  | succ d ih =>
    intro k j hj hd hk
    obtain ⟨k, rfl⟩ : ∃ m, k = m + 1 := ⟨k - 1, by omega⟩
    have hw' : wrap64 ((j : Int) + 1) = ((j + 1 : Nat) : Int) := by unfold wrap64; omega
    simp only [foolscaphelp_Light.l1, hr]
    rw [if_pos (by omega), if_pos (by omega), if_pos (by omega), if_pos (by omega), hw']
    split
    · exact ⟨false, rfl, fun h => by cases h⟩
    · exact ih k (j + 1) (by omega) (by omega) (by omega)

theorem light_loop (l : List ByteArray) (hl : l.length ≤ 40) (hs : ∀ s ∈ l, s.size ≤ 140737488351232) (d : Nat) :
    ∀ (k n i : Nat), i ≤ l.length → l.length - i = d → n ≤ 1200 → 2 * d + (1200 - n) + 1 ≤ k →
    ∃ b, foolscaphelp_Light.l0 k l n i = some b ∧ (b = true → n + total (l.drop i) ≤ 1200) := by
  induction d with
  | zero =>
    intro k n i hi hd hn hk
    obtain ⟨k, rfl⟩ : ∃ m, k = m + 1 := ⟨k - 1, by omega⟩
    refine ⟨true, ?_, fun _ => ?_⟩
    · simp only [foolscaphelp_Light.l0]; rw [if_neg (by omega)]
    · rw [List.drop_eq_nil_of_le (by omega)]; simp [total]; omega
  | succ d ih =>
    intro k n i hi hd hn hk
    obtain ⟨k, rfl⟩ : ∃ m, k = m + 1 := ⟨k - 1, by omega⟩
    have hi' : i < l.length := by omega
    have hr := rdOf_nat l i hi'
    have hz := hs l[i] (List.getElem_mem hi')
    have hw : wrap64 ((n : Int) + (l[i].size : Int)) = ((n + l[i].size : Nat) : Int) := by unfold wrap64; omega
    have ht : total (l.drop i) = l[i].size + total (l.drop (i + 1)) := by rw [List.drop_eq_getElem_cons hi']; rfl
    simp only [foolscaphelp_Light.l0, hr]
    rw [if_pos (by omega), if_pos (by omega), hw]
    by_cases hb : n + l[i].size > 1200
    · rw [if_pos (by omega)]
      exact ⟨false, rfl, fun h => by cases h⟩
    · rw [if_neg (by omega)]
      rw [ht]
      refine light_line l i hi' hl _ _ (2 * d + (1200 - (n + l[i].size)) + 1) (by omega) (fun k' hk' => ?_) l[i].size k 0 (by omega) (by omega) (by omega)
      obtain ⟨b, h1, h2⟩ := ih k' (n + l[i].size) (i + 1) (by omega) (by omega) (by omega) hk'
      exact ⟨b, h1, fun h => by have := h2 h; omega⟩

theorem Light_val (k : Nat) (l : List ByteArray) (hk : 1281 ≤ k) (hs : ∀ s ∈ l, s.size ≤ 140737488351232) :
    ∃ b, foolscaphelp_Light.f k l = some b ∧ (b = true → l.length ≤ 40 ∧ total l ≤ 1200) := by
  unfold foolscaphelp_Light.f
  by_cases hl : l.length ≤ 40
  · rw [if_neg (by omega)]
    obtain ⟨b, h1, h2⟩ := light_loop l hl hs l.length k 0 0 (by omega) (by omega) (by omega) (by omega)
    exact ⟨b, h1, fun h => ⟨hl, by have := h2 h; simpa using this⟩⟩
  · rw [if_pos (by omega)]
    exact ⟨false, rfl, fun h => by cases h⟩

theorem Text_val (k : Nat) (l : List ByteArray) (hk : 1281 ≤ k) (hs : ∀ s ∈ l, s.size ≤ 140737488351232) :
    ∃ b, foolscaphelp_Text.f k l = some b ∧ (b = true → 0 < l.length ∧ l.length ≤ 40 ∧ total l ≤ 1200) := by
  unfold foolscaphelp_Text.f
  by_cases h : (l.length : Int) > 0
  · rw [if_pos h]
    obtain ⟨b, h1, h2⟩ := Light_val k l hk hs
    refine ⟨b, ?_, fun e => ⟨by omega, h2 e⟩⟩
    rw [h1]; try rfl
  · rw [if_neg h]
    exact ⟨false, rfl, fun e => by cases e⟩

open Go.Proofs.Ytbfoflhfmhfofaa.Ext (ofC isW fwd bck upw wordR placeB fwd_go fwd_stop bck_go bck_stop upw_go upw_stop isW_in)
theorem rd_size (l : List ByteArray) (hs : ∀ s ∈ l, s.size ≤ 1200) (i : Int) : (rdOf ByteArray.empty l i).size ≤ 1200 := by
  unfold rdOf
  rw [List.getD_eq_getElem?_getD]
  cases h : l[i.toNat]? with
  | none => simp
  | some s => exact hs s (List.mem_of_getElem? h)

theorem seat_val (l : List ByteArray) (hl0 : 0 < l.length) (hl : l.length ≤ 40) (hs : ∀ s ∈ l, s.size ≤ 1200) (a b : Int) (ha : 0 ≤ a ∧ a ≤ 65535) (hb : 0 ≤ b ∧ b ≤ 65535) :
    ∃ x y, foolscapseat_Place.f l a b = some (x, y) ∧ placeB l x y = true := by
  have e1 : wrap64 a = a := by unfold wrap64; omega
  have e2 : wrap64 b = b := by unfold wrap64; omega
  have e3 : Int.tmod a (l.length : Int) = a % (l.length : Int) := Int.tmod_eq_emod_of_nonneg ha.1
  have r1 := Int.emod_nonneg a (show (l.length : Int) ≠ 0 by omega)
  have r2 := Int.emod_lt_of_pos a (show 0 < (l.length : Int) by omega)
  have hz := rd_size l hs (a % (l.length : Int))
  have e4 : wrap64 (((rdOf ByteArray.empty l (a % (l.length : Int))).size : Int) + 1) = ((rdOf ByteArray.empty l (a % (l.length : Int))).size : Int) + 1 := by unfold wrap64; omega
  have e5 : Int.tmod b (((rdOf ByteArray.empty l (a % (l.length : Int))).size : Int) + 1) = b % (((rdOf ByteArray.empty l (a % (l.length : Int))).size : Int) + 1) := Int.tmod_eq_emod_of_nonneg hb.1
  refine ⟨a % (l.length : Int), b % (((rdOf ByteArray.empty l (a % (l.length : Int))).size : Int) + 1), ?_, ?_⟩
  · unfold foolscapseat_Place.f
    rw [if_neg (by omega), e1, e2, e3, if_pos r1, if_pos r2, e4, if_neg (by omega), e5]
  · unfold placeB; rw [decide_eq_true_eq]
    have s1 := Int.emod_nonneg b (show (((rdOf ByteArray.empty l (a % (l.length : Int))).size : Int) + 1) ≠ 0 by omega)
    have s2 := Int.emod_lt_of_pos b (show 0 < (((rdOf ByteArray.empty l (a % (l.length : Int))).size : Int) + 1) by omega)
    exact ⟨r1, r2, s1, by omega⟩

open Go.Proofs.Ytbfoflhfmhfofaa.Ext (ofC)
theorem rOf_val (k : Nat) (c : Int) (big : Bool) : foolscapref5_Of.f (k + 1) c big = some (ofC c big) := by
  unfold foolscapref5_Of.f ofC
  simp only [foolscapref5_Of.j0]
  by_cases h1 : c = 32
  · simp [h1]
  · by_cases h2 : c = 9
    · simp [h2]
    · have h3 : (c == 9) = false := by simp [h2]
      simp only [h1, h3, if_false, false_or, Bool.false_eq_true]
      cases big
      · simp only [Bool.false_eq_true, if_false, ge_iff_le, h2]
        by_cases a : 97 ≤ c <;> by_cases a' : c ≤ 122 <;> by_cases b : 65 ≤ c <;> by_cases b' : c ≤ 90 <;> by_cases d : 48 ≤ c <;> by_cases d' : c ≤ 57 <;> by_cases e : c = 95 <;> by_cases f : 128 ≤ c <;> simp [a, a', b, b', d, d', e, f] <;> omega
      · simp [h2]

theorem known12_val : foolscaplaw12_known.f = some true := by kernel_rfl

theorem isW_at {s : ByteArray} {i : Int} (h0 : 0 ≤ i) (h1 : i < (s.size : Int)) : isW s i = true ↔ ofC (bt s i) false = 1 := by
  unfold isW; simp [h0, h1]
/-- what is told of a word that begins at i -/
def wordV (s : ByteArray) (p0 i : Int) : Int × Int × ByteArray × Bool := if i ≥ (s.size : Int) then (0, 0, (⟨#[]⟩ : ByteArray), false) else (p0, i, s.extract i.toNat (upw s s.size i).toNat, true)

theorem fwd_spec (s : ByteArray) : ∀ (n : Nat) (i : Int), (s.size : Int) - i ≤ n → (fwd s n i ≥ s.size ∨ isW s (fwd s n i) = true) ∧ (fwd s n i = i ∨ isW s (fwd s n i - 1) = false) := by
  intro n
  induction n with
  | zero => intro i h; exact ⟨.inl (by show i ≥ _; omega), .inl rfl⟩
  | succ n ih =>
    intro i h
    by_cases hc : i < (s.size : Int) ∧ isW s i = false
    · rw [fwd_go hc.1 hc.2]
      obtain ⟨h1, h2⟩ := ih (i + 1) (by omega)
      refine ⟨h1, .inr ?_⟩
      rcases h2 with h2 | h2
      · rw [h2, Int.add_sub_cancel]; exact hc.2
      · exact h2
    · rw [fwd_stop hc]
      refine ⟨?_, .inl rfl⟩
      by_cases hl : i < (s.size : Int)
      · right; cases hw : isW s i with
        | true => rfl
        | false => exact absurd ⟨hl, hw⟩ hc
      · left; omega
theorem bck_le (s : ByteArray) : ∀ (n : Nat) (i : Int), bck s n i ≤ i := by
  intro n
  induction n with
  | zero => intro i; exact Int.le_refl _
  | succ n ih =>
    intro i
    by_cases h : isW s (i - 1) = true
    · rw [bck_go h]; have := ih (i - 1); omega
    · rw [bck_stop (by simpa using h)]; exact Int.le_refl _

theorem total_sum : ∀ (l : List ByteArray), (l.map ByteArray.size).sum = total l
  | [] => rfl
  | s :: r => by simp [total, total_sum r]
theorem Word_val (l : List ByteArray) (ht : total l ≤ 1200) (a b : Int) : find_Word.f l a b = some (wordR l a b) := by
  show (if _ then _ else _) = _
  rw [if_pos (by rw [total_sum]; omega)]

theorem fwd_all (s : ByteArray) : ∀ (n : Nat) (i : Int), i ≤ s.size → (s.size : Int) - i ≤ n → i ≤ fwd s n i ∧ fwd s n i ≤ s.size ∧ ∀ j, i ≤ j → j < fwd s n i → isW s j = false := by
  intro n
  induction n with
  | zero => intro i h1 h; exact ⟨Int.le_refl _, h1, fun j h2 h3 => absurd h3 (by show ¬ j < i; omega)⟩
  | succ n ih =>
    intro i h1 h
    by_cases hc : i < (s.size : Int) ∧ isW s i = false
    · rw [fwd_go hc.1 hc.2]
      obtain ⟨a1, a2, a3⟩ := ih (i + 1) (by omega) (by omega)
      refine ⟨by omega, a2, fun j h2 h3 => ?_⟩
      by_cases he : j = i
      · rw [he]; exact hc.2
      · exact a3 j (by omega) h3
    · rw [fwd_stop hc]
      exact ⟨Int.le_refl _, h1, fun j h2 h3 => by omega⟩
theorem bck_all (s : ByteArray) : ∀ (n : Nat) (i : Int), 0 ≤ i → i ≤ n → 0 ≤ bck s n i ∧ bck s n i ≤ i ∧ isW s (bck s n i - 1) = false ∧ ∀ j, bck s n i ≤ j → j < i → isW s j = true := by
  intro n
  induction n with
  | zero =>
    intro i h0 h
    have hi : i = 0 := by omega
    subst hi
    refine ⟨Int.le_refl _, Int.le_refl _, ?_, fun j h2 h3 => absurd h3 (by show ¬ j < 0; have : (0 : Int) ≤ j := h2; omega)⟩
    rw [Bool.eq_false_iff]; intro hw; have := isW_in hw; have h5 : bck s 0 0 = 0 := rfl; omega
  | succ n ih =>
    intro i h0 h
    by_cases hc : isW s (i - 1) = true
    · have hin := isW_in hc
      rw [bck_go hc]
      obtain ⟨a1, a2, a3, a4⟩ := ih (i - 1) (by omega) (by omega)
      refine ⟨a1, by omega, a3, fun j h2 h3 => ?_⟩
      by_cases he : j = i - 1
      · rw [he]; exact hc
      · exact a4 j h2 (by omega)
    · have hc' : isW s (i - 1) = false := by simpa using hc
      rw [bck_stop hc']
      exact ⟨h0, Int.le_refl _, hc', fun j h2 h3 => by omega⟩
theorem upw_all (s : ByteArray) : ∀ (n : Nat) (i : Int), i ≤ s.size → (s.size : Int) - i ≤ n → i ≤ upw s n i ∧ upw s n i ≤ s.size ∧ isW s (upw s n i) = false ∧ ∀ j, i ≤ j → j < upw s n i → isW s j = true := by
  intro n
  induction n with
  | zero =>
    intro i h1 h
    refine ⟨Int.le_refl _, h1, ?_, fun j h2 h3 => absurd h3 (by show ¬ j < i; omega)⟩
    show isW s i = false
    rw [Bool.eq_false_iff]; intro hw; have := isW_in hw; omega
  | succ n ih =>
    intro i h1 h
    by_cases hc : isW s i = true
    · have hin := isW_in hc
      rw [upw_go hc]
      obtain ⟨a1, a2, a3, a4⟩ := ih (i + 1) (by omega) (by omega)
      refine ⟨by omega, a2, a3, fun j h2 h3 => ?_⟩
      by_cases he : j = i
      · rw [he]; exact hc
      · exact a4 j (by omega) h3
    · have hc' : isW s i = false := by simpa using hc
      rw [upw_stop hc']
      exact ⟨Int.le_refl _, h1, hc', fun j h2 h3 => by omega⟩
theorem isW_not {s : ByteArray} {i : Int} (h0 : 0 ≤ i) (h1 : i < (s.size : Int)) (h : isW s i = false) : ¬ ofC (bt s i) false = 1 := fun e => by rw [(isW_at h0 h1).2 e] at h; cases h
theorem bt_extract (s : ByteArray) (a b i : Int) (h0 : 0 ≤ a) (h1 : b ≤ s.size) (h2 : 0 ≤ i) (h3 : a + i < b) : bt (s.extract a.toNat b.toNat) i = bt s (a + i) := by
  have hn : (a + i).toNat = a.toNat + i.toNat := by omega
  have hz : (s.extract a.toNat b.toNat).size = b.toNat - a.toNat := by rw [ByteArray.size_extract]; omega
  unfold bt
  rw [dif_pos (by rw [hz]; omega), dif_pos (by omega)]
  simp only [ByteArray.getElem_extract, hn]

theorem ws_l2 (s : ByteArray) (hs : s.size ≤ 1200) (p0 lo : Int) (hlo : lo ≤ s.size) (n : Nat) : ∀ (k : Nat) (i : Int), 0 ≤ i → lo - i ≤ n → n + 4 ≤ k → (∀ j, i ≤ j → j < lo → isW s j = false) →
    foolscaplaw12_FindWords.l2 k s i p0 lo = some true := by
  induction n with
  | zero =>
    intro k i h0 h1 hk hw
    obtain ⟨k, rfl⟩ : ∃ m, k = m + 1 := ⟨k - 1, by omega⟩
    rw [foolscaplaw12_FindWords.l2, if_neg (by omega)]
  | succ n ih =>
    intro k i h0 h1 hk hw
    obtain ⟨k, rfl⟩ : ∃ m, k = m + 1 := ⟨k - 1, by omega⟩
    obtain ⟨k, rfl⟩ : ∃ m, k = m + 1 := ⟨k - 1, by omega⟩
    rw [foolscaplaw12_FindWords.l2]
    by_cases hlt : i < lo
    · have hw' : wrap64 (i + 1) = i + 1 := by unfold wrap64; omega
      rw [if_pos hlt, if_pos h0, if_pos (by omega), rOf_val, Option.bind_some, if_neg (isW_not h0 (by omega) (hw i (Int.le_refl _) hlt)), hw']
      exact ih (k + 1) (i + 1) (by omega) (by omega) (by omega) (fun j h2 h3 => hw j (by omega) h3)
    · rw [if_neg hlt]

theorem ws_l1 (s t : ByteArray) (hs : s.size ≤ 1200) (p0 p1 lo hi : Int) (h0 : 0 ≤ lo) (h1 : lo ≤ hi) (h2 : hi ≤ s.size) (hp : 0 ≤ p1) (ht : t = s.extract lo.toNat hi.toNat) (hz : (t.size : Int) = hi - lo)
    (w1 : ∀ j, lo ≤ j → j < hi → isW s j = true) (w2 : isW s hi = false) (w3 : isW s (lo - 1) = false) (w4 : ∀ j, p1 ≤ j → j < lo → isW s j = false) (n : Nat) : ∀ (k : Nat) (i : Int), 0 ≤ i → (t.size : Int) - i ≤ n → n + 1300 ≤ k →
    foolscaplaw12_FindWords.l1 k s t i p0 p1 p0 lo = some true := by
  have hj3 : ∀ k, 1250 ≤ k → foolscaplaw12_FindWords.j3 k s false p0 p1 p0 lo = some true := by
    intro k hk
    obtain ⟨k, rfl⟩ : ∃ m, k = m + 1 := ⟨k - 1, by omega⟩
    rw [foolscaplaw12_FindWords.j3, if_neg (by decide)]
    exact ws_l2 s hs p0 lo (by omega) lo.toNat k p1 hp (by omega) (by omega) w4
  have hwh : wrap64 (lo + (t.size : Int)) = hi := by unfold wrap64; omega
  have hwl : wrap64 (lo - 1) = lo - 1 := by unfold wrap64; omega
  have hdone : ∀ k i, 1280 ≤ k → (t.size : Int) ≤ i → foolscaplaw12_FindWords.l1 k s t i p0 p1 p0 lo = some true := by
    intro k i hk hi'
    obtain ⟨k, rfl⟩ : ∃ m, k = m + 1 := ⟨k - 1, by omega⟩
    obtain ⟨k, rfl⟩ : ∃ m, k = m + 1 := ⟨k - 1, by omega⟩
    rw [foolscaplaw12_FindWords.l1, if_neg (by omega), hwh, hwl]
    have hin : (if lo > 0 then (if 0 ≤ lo - 1 then (if lo - 1 < (s.size : Int) then ((foolscapref5_Of.f (k + 1) (bt s (lo - 1)) false).bind fun t153 => (foolscaplaw12_FindWords.j3 (k + 1) s (t153 == 1) p0 p1 p0 lo)) else none) else none) else (foolscaplaw12_FindWords.j3 (k + 1) s false p0 p1 p0 lo)) = some true := by
      by_cases hl : lo > 0
      · rw [if_pos hl, if_pos (by omega), if_pos (by omega), rOf_val, Option.bind_some]
        have hn : (ofC (bt s (lo - 1)) false == 1) = false := by simpa using isW_not (by omega) (by omega) w3
        rw [hn]; exact hj3 _ (by omega)
      · rw [if_neg hl]; exact hj3 _ (by omega)
    by_cases hh : hi < (s.size : Int)
    · rw [if_pos hh, if_pos (by omega), rOf_val, Option.bind_some, if_neg (isW_not (by omega) hh w2)]
      exact hin
    · rw [if_neg hh]; exact hin
  induction n with
  | zero => intro k i hi0 h hk; exact hdone k i (by omega) (by omega)
  | succ n ih =>
    intro k i hi0 h hk
    by_cases hlt : i < (t.size : Int)
    · obtain ⟨k, rfl⟩ : ∃ m, k = m + 1 := ⟨k - 1, by omega⟩
      obtain ⟨k, rfl⟩ : ∃ m, k = m + 1 := ⟨k - 1, by omega⟩
      have hw' : wrap64 (i + 1) = i + 1 := by unfold wrap64; omega
      have hb : bt t i = bt s (lo + i) := by rw [ht]; exact bt_extract s lo hi i h0 h2 hi0 (by omega)
      rw [foolscaplaw12_FindWords.l1, if_pos hlt, if_pos hi0, rOf_val, Option.bind_some, hb, if_pos ((isW_at (by omega) (by omega)).1 (w1 (lo + i) (by omega) (by omega))), hw']
      exact ih (k + 1) (i + 1) (by omega) (by omega) (by omega)
    · exact hdone k i (by omega) (by omega)

theorem ws_l0 (s : ByteArray) (hs : s.size ≤ 1200) (n : Nat) : ∀ (k : Nat) (i : Int), 0 ≤ i → (s.size : Int) - i ≤ n → n + 4 ≤ k → (∀ j, i ≤ j → j < (s.size : Int) → isW s j = false) →
    foolscaplaw12_FindWords.l0 k s ByteArray.empty i 0 0 = some true := by
  have hdone : ∀ k i, 1 ≤ k → (s.size : Int) ≤ i → foolscaplaw12_FindWords.l0 k s ByteArray.empty i 0 0 = some true := by
    intro k i hk hi'
    obtain ⟨k, rfl⟩ : ∃ m, k = m + 1 := ⟨k - 1, by omega⟩
    rw [foolscaplaw12_FindWords.l0, if_neg (by omega), if_pos (by rw [ByteArray.toList_eq]; rfl)]
    rfl
  induction n with
  | zero => intro k i h0 h1 hk hw; exact hdone k i (by omega) (by omega)
  | succ n ih =>
    intro k i h0 h1 hk hw
    by_cases hlt : i < (s.size : Int)
    · obtain ⟨k, rfl⟩ : ∃ m, k = m + 1 := ⟨k - 1, by omega⟩
      obtain ⟨k, rfl⟩ : ∃ m, k = m + 1 := ⟨k - 1, by omega⟩
      have hw' : wrap64 (i + 1) = i + 1 := by unfold wrap64; omega
      rw [foolscaplaw12_FindWords.l0, if_pos hlt, if_pos h0, rOf_val, Option.bind_some, if_neg (isW_not h0 hlt (hw i (Int.le_refl _) hlt)), hw']
      exact ih (k + 1) (i + 1) (by omega) (by omega) (by omega) (fun j h2 h3 => hw j (by omega) h3)
    · exact hdone k i (by omega) (by omega)

theorem FindWords (l : List ByteArray) (x y : Int) (hsz : ∀ s ∈ l, s.size ≤ 140737488351232) (hx : 0 ≤ x ∧ x ≤ 65535) (hy : 0 ≤ y ∧ y ≤ 65535) : ∃ k, foolscaplaw12_FindWords.f k l x y = some true := by
  obtain ⟨K, hK⟩ : ∃ K, K = 5000 := ⟨_, rfl⟩
  refine ⟨K, ?_⟩
  unfold foolscaplaw12_FindWords.f
  rw [known12_val, Option.bind_some, if_pos rfl]
  obtain ⟨t, ht, hT⟩ := Text_val K l (by omega) hsz
  rw [ht, Option.bind_some]
  by_cases htt : t = true
  · obtain ⟨h0, h1, h2⟩ := hT htt
    have hs : ∀ s ∈ l, s.size ≤ 1200 := fun s hs => by have := total_mem hs; omega
    obtain ⟨u, v, hp, hpl⟩ := seat_val l h0 h1 hs x y hx hy
    obtain ⟨q0, q1, q2, q3⟩ : 0 ≤ u ∧ u < l.length ∧ 0 ≤ v ∧ v ≤ ((rdOf ByteArray.empty l u).size : Int) := by simpa [placeB] using hpl
    rw [if_pos htt, hp, Option.bind_some, if_pos q0, if_pos q1, Word_val l h2, Option.bind_some]
    have hss := rd_size l hs u
    dsimp only
    unfold wordR
    rw [if_neg (show ¬ placeB l u v = false by rw [hpl]; simp)]
    revert q3 hss
    generalize rdOf ByteArray.empty l u = s
    intro q3 hss
    obtain ⟨f1, f2, f3⟩ := fwd_all s s.size v q3 (by omega)
    obtain ⟨g1, _⟩ := fwd_spec s s.size v (by omega)
    by_cases hF : fwd s s.size v ≥ (s.size : Int)
    · rw [if_pos hF]
      try dsimp only
      rw [if_neg (by decide)]
      exact ws_l0 s hss s.size K v q2 (by omega) (by omega) (fun j h3 h4 => f3 j h3 (by omega))
    · rw [if_neg hF]
      try dsimp only
      rw [if_pos rfl, if_pos rfl]
      have hWF : isW s (fwd s s.size v) = true := by
        rcases g1 with g1 | g1
        · exact absurd g1 hF
        · exact g1
      revert f1 f2 f3 hF hWF
      generalize fwd s s.size v = F
      intro f1 f2 f3 hF hWF
      obtain ⟨b1, b2, b3, b4⟩ := bck_all s s.size F (by omega) (by omega)
      revert b1 b2 b3 b4
      generalize bck s s.size F = lo
      intro b1 b2 b3 b4
      obtain ⟨u1, u2, u3, u4⟩ := upw_all s s.size lo (by omega) (by omega)
      revert u1 u2 u3 u4
      generalize upw s s.size lo = hi
      intro u1 u2 u3 u4
      have hFh : F < hi := by
        by_cases hc : F < hi
        · exact hc
        · exfalso
          have hwh : isW s hi = true := by
            by_cases he : hi = F
            · rw [he]; exact hWF
            · exact b4 hi u1 (by omega)
          rw [hwh] at u3; cases u3
      obtain ⟨t2, ht2⟩ : ∃ t2, s.extract lo.toNat hi.toNat = t2 := ⟨_, rfl⟩
      have hz : (t2.size : Int) = hi - lo := by rw [← ht2, ByteArray.size_extract]; omega
      have hwh : wrap64 (lo + (t2.size : Int)) = hi := by unfold wrap64; omega
      have hne : ¬ t2.toList = ([] : List UInt8) := by
        intro h
        rw [ByteArray.toList_eq] at h
        have h5 : t2.data.toList.length = 0 := by rw [h]; rfl
        have h6 : t2.size = t2.data.toList.length := by simp
        omega
      rw [ht2, hwh, if_neg (by omega), if_neg (by omega), if_neg hne, if_pos (by omega), if_pos (by omega), if_pos (by omega), ht2, if_pos rfl]
      have hd : decide (hi ≤ v) = false := decide_eq_false (by omega)
      rw [hd]
      obtain ⟨K1, rfl⟩ : ∃ m, K = m + 1 := ⟨K - 1, by omega⟩
      rw [foolscaplaw12_FindWords.j1, if_neg (by decide)]
      exact ws_l1 s t2 hss u v lo hi b1 u1 u2 q2 ht2.symm hz u4 u3 b3 (fun j h3 h4 => f3 j h3 (by omega)) t2.size K1 0 (Int.le_refl _) (by omega) (by omega)
  · rw [if_neg htt]

theorem FindWords_walk (A0 : Option Addr) (c0 : Nat) (l0 : List ByteArray) (a1 a2 : Int) (w : World)
    (hr0 : Kd.C Kd.string w A0 l0.length l0) (hc0 : l0.length ≤ c0) (hz0 : l0.length * 16 ≤ 140737488351232) (hs0 : ∀ s ∈ l0, s.size ≤ 140737488351232)
    (w1 : (Lit.int .u16 a1).wf = true) (w2 : (Lit.int .u16 a2).wf = true) :
    Calls Try.prog 4 #[.slice A0 l0.length c0, .int .u16 a1, .int .u16 a2] w fun e w' => e = .returned (.bool true) ∧ Below w.heap.size w w' := by
  obtain ⟨k, hk⟩ := FindWords l0 a1 a2 hs0 (bounds_u16 w1) (bounds_u16 w2)
  exact foolscaplaw12_FindWords.calls k A0 c0 l0 a1 a2 true w hr0 hc0 hk

end Go.Proofs.Ytbfoflhfmhfofaa.Pure
