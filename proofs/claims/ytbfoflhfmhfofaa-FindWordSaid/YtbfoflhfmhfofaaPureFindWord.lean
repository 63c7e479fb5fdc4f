/- FindWord is true for all lines and places: find.Word tells the reference's word, and its place, or none; each slice and each string has at most 140737488351232 bytes. -/
import Derived.Test.YtbfoflhfmhfofaaMFindWordx7
import Derived.KernelRfl
import Derived.Lib.Strings
import Derived.OpenShut
set_option linter.unusedVariables false
set_option linter.unusedSimpArgs false
namespace Go.Proofs.Ytbfoflhfmhfofaa.Pure
open Go.RowKit Go.Proofs.Ytbfoflhfmhfofaa.Out Go.Proofs.Ytbfoflhfmhfofaa.MFindWord Go.Proofs.YtbfoflhfmhfofaaW.PrintWords Go.Proofs.YtbfoflhfmhfofaaW.PrintLast Go.Proofs.YtbfoflhfmhfofaaW.PrintMore

/-- how many bytes the lines have -/
def total : List ByteArray → Nat
  | [] => 0
  | s :: r => s.size + total r
theorem total_mem : ∀ {l : List ByteArray} {s : ByteArray}, s ∈ l → s.size ≤ total l
  | y :: r, s, h => by
    rcases List.mem_cons.1 h with h | h
    · subst h; simp [total]
    · have := total_mem h; simp [total]; omega
  | [], s, h => by simp at h

theorem rdOf_nat (l : List ByteArray) (i : Nat) (h : i < l.length) : rdOf ByteArray.empty l (i : Int) = l[i] := by
  unfold rdOf; rw [Int.toNat_natCast, List.getD_eq_getElem?_getD, List.getElem?_eq_getElem h]; rfl

theorem light_line (l : List ByteArray) (i : Nat) (hi : i < l.length) (hl : l.length ≤ 40) (n : Int) (Q : Prop) (B : Nat) (hs : l[i].size ≤ 1200)
    (next : ∀ k, B ≤ k → ∃ b, foolscaphelp_Light.l0 k l n ((i + 1 : Nat) : Int) = some b ∧ (b = true → Q)) (d : Nat) :
    ∀ (k j : Nat), j ≤ l[i].size → l[i].size - j = d → B + d + 1 ≤ k → ∃ b, foolscaphelp_Light.l1 k l n i j = some b ∧ (b = true → Q) := by
  have hw : wrap64 ((i : Int) + 1) = ((i + 1 : Nat) : Int) := by unfold wrap64; omega
  have hr := rdOf_nat l i hi
  induction d with
  | zero =>
    intro k j hj hd hk
    obtain ⟨k, rfl⟩ : ∃ m, k = m + 1 := ⟨k - 1, by omega⟩
    simp only [foolscaphelp_Light.l1, hr]
    rw [if_pos (by omega), if_pos (by omega), if_neg (by omega), hw]
    exact next k (by omega)
  | succ d ih =>
    intro k j hj hd hk
    obtain ⟨k, rfl⟩ : ∃ m, k = m + 1 := ⟨k - 1, by omega⟩
    have hw' : wrap64 ((j : Int) + 1) = ((j + 1 : Nat) : Int) := by unfold wrap64; omega
    simp only [foolscaphelp_Light.l1, hr]
    rw [if_pos (by omega), if_pos (by omega), if_pos (by omega), if_pos (by omega), hw']
    split
    · exact ⟨false, rfl, fun h => by cases h⟩
    · exact ih k (j + 1) (by omega) (by omega) (by omega)

theorem light_loop (l : List ByteArray) (hl : l.length ≤ 40) (hs : ∀ s ∈ l, s.size ≤ 140737488351232) (d : Nat) :
    ∀ (k n i : Nat), i ≤ l.length → l.length - i = d → n ≤ 1200 → 2 * d + (1200 - n) + 1 ≤ k →
    ∃ b, foolscaphelp_Light.l0 k l n i = some b ∧ (b = true → n + total (l.drop i) ≤ 1200) := by
  induction d with
  | zero =>
    intro k n i hi hd hn hk
    obtain ⟨k, rfl⟩ : ∃ m, k = m + 1 := ⟨k - 1, by omega⟩
    refine ⟨true, ?_, fun _ => ?_⟩
    · simp only [foolscaphelp_Light.l0]; rw [if_neg (by omega)]
    · rw [List.drop_eq_nil_of_le (by omega)]; simp [total]; omega
  | succ d ih =>
    intro k n i hi hd hn hk
    obtain ⟨k, rfl⟩ : ∃ m, k = m + 1 := ⟨k - 1, by omega⟩
    have hi' : i < l.length := by omega
    have hr := rdOf_nat l i hi'
    have hz := hs l[i] (List.getElem_mem hi')
    have hw : wrap64 ((n : Int) + (l[i].size : Int)) = ((n + l[i].size : Nat) : Int) := by unfold wrap64; omega
    have ht : total (l.drop i) = l[i].size + total (l.drop (i + 1)) := by rw [List.drop_eq_getElem_cons hi']; rfl
    simp only [foolscaphelp_Light.l0, hr]
    rw [if_pos (by omega), if_pos (by omega), hw]
    by_cases hb : n + l[i].size > 1200
    · rw [if_pos (by omega)]
      exact ⟨false, rfl, fun h => by cases h⟩
    · rw [if_neg (by omega)]
      rw [ht]
      refine light_line l i hi' hl _ _ (2 * d + (1200 - (n + l[i].size)) + 1) (by omega) (fun k' hk' => ?_) l[i].size k 0 (by omega) (by omega) (by omega)
      obtain ⟨b, h1, h2⟩ := ih k' (n + l[i].size) (i + 1) (by omega) (by omega) (by omega) hk'
      exact ⟨b, h1, fun h => by have := h2 h; omega⟩

theorem Light_val (k : Nat) (l : List ByteArray) (hk : 1281 ≤ k) (hs : ∀ s ∈ l, s.size ≤ 140737488351232) :
    ∃ b, foolscaphelp_Light.f k l = some b ∧ (b = true → l.length ≤ 40 ∧ total l ≤ 1200) := by
  unfold foolscaphelp_Light.f
  by_cases hl : l.length ≤ 40
  · rw [if_neg (by omega)]
    obtain ⟨b, h1, h2⟩ := light_loop l hl hs l.length k 0 0 (by omega) (by omega) (by omega) (by omega)
    exact ⟨b, h1, fun h => ⟨hl, by have := h2 h; simpa using this⟩⟩
  · rw [if_pos (by omega)]
    exact ⟨false, rfl, fun h => by cases h⟩

theorem Text_val (k : Nat) (l : List ByteArray) (hk : 1281 ≤ k) (hs : ∀ s ∈ l, s.size ≤ 140737488351232) :
    ∃ b, foolscaphelp_Text.f k l = some b ∧ (b = true → 0 < l.length ∧ l.length ≤ 40 ∧ total l ≤ 1200) := by
  unfold foolscaphelp_Text.f
  by_cases h : (l.length : Int) > 0
  · rw [if_pos h]
    obtain ⟨b, h1, h2⟩ := Light_val k l hk hs
    refine ⟨b, ?_, fun e => ⟨by omega, h2 e⟩⟩
    rw [h1]; try rfl
  · rw [if_neg h]
    exact ⟨false, rfl, fun e => by cases e⟩

open Go.Proofs.Ytbfoflhfmhfofaa.Ext (ofC isW fwd bck upw wordR placeB fwd_go fwd_stop bck_go bck_stop upw_go upw_stop isW_in)
theorem rd_size (l : List ByteArray) (hs : ∀ s ∈ l, s.size ≤ 1200) (i : Int) : (rdOf ByteArray.empty l i).size ≤ 1200 := by
  unfold rdOf
  rw [List.getD_eq_getElem?_getD]
  cases h : l[i.toNat]? with
  | none => simp
  | some s => exact hs s (List.mem_of_getElem? h)

theorem seat_val (l : List ByteArray) (hl0 : 0 < l.length) (hl : l.length ≤ 40) (hs : ∀ s ∈ l, s.size ≤ 1200) (a b : Int) (ha : 0 ≤ a ∧ a ≤ 65535) (hb : 0 ≤ b ∧ b ≤ 65535) :
    ∃ x y, foolscapseat_Place.f l a b = some (x, y) ∧ placeB l x y = true := by
  have e1 : wrap64 a = a := by unfold wrap64; omega
  have e2 : wrap64 b = b := by unfold wrap64; omega
  have e3 : Int.tmod a (l.length : Int) = a % (l.length : Int) := Int.tmod_eq_emod_of_nonneg ha.1
  have r1 := Int.emod_nonneg a (show (l.length : Int) ≠ 0 by omega)
  have r2 := Int.emod_lt_of_pos a (show 0 < (l.length : Int) by omega)
  have hz := rd_size l hs (a % (l.length : Int))
  have e4 : wrap64 (((rdOf ByteArray.empty l (a % (l.length : Int))).size : Int) + 1) = ((rdOf ByteArray.empty l (a % (l.length : Int))).size : Int) + 1 := by unfold wrap64; omega
  have e5 : Int.tmod b (((rdOf ByteArray.empty l (a % (l.length : Int))).size : Int) + 1) = b % (((rdOf ByteArray.empty l (a % (l.length : Int))).size : Int) + 1) := Int.tmod_eq_emod_of_nonneg hb.1
  refine ⟨a % (l.length : Int), b % (((rdOf ByteArray.empty l (a % (l.length : Int))).size : Int) + 1), ?_, ?_⟩
  · unfold foolscapseat_Place.f
    rw [if_neg (by omega), e1, e2, e3, if_pos r1, if_pos r2, e4, if_neg (by omega), e5]
  · unfold placeB; rw [decide_eq_true_eq]
    have s1 := Int.emod_nonneg b (show (((rdOf ByteArray.empty l (a % (l.length : Int))).size : Int) + 1) ≠ 0 by omega)
    have s2 := Int.emod_lt_of_pos b (show 0 < (((rdOf ByteArray.empty l (a % (l.length : Int))).size : Int) + 1) by omega)
    exact ⟨r1, r2, s1, by omega⟩

open Go.Proofs.Ytbfoflhfmhfofaa.Ext (ofC)
theorem rOf_val (k : Nat) (c : Int) (big : Bool) : foolscapref5_Of.f (k + 1) c big = some (ofC c big) := by
  unfold foolscapref5_Of.f ofC
  simp only [foolscapref5_Of.j0]
  by_cases h1 : c = 32
  · simp [h1]
  · by_cases h2 : c = 9
    · simp [h2]
    · have h3 : (c == 9) = false := by simp [h2]
      simp only [h1, h3, if_false, false_or, Bool.false_eq_true]
      cases big
      · simp only [Bool.false_eq_true, if_false, ge_iff_le, h2]
        by_cases a : 97 ≤ c <;> by_cases a' : c ≤ 122 <;> by_cases b : 65 ≤ c <;> by_cases b' : c ≤ 90 <;> by_cases d : 48 ≤ c <;> by_cases d' : c ≤ 57 <;> by_cases e : c = 95 <;> by_cases f : 128 ≤ c <;> simp [a, a', b, b', d, d', e, f] <;> omega
      · simp [h2]

theorem known12_val : foolscaplaw12_known.f = some true := by kernel_rfl

theorem isW_at {s : ByteArray} {i : Int} (h0 : 0 ≤ i) (h1 : i < (s.size : Int)) : isW s i = true ↔ ofC (bt s i) false = 1 := by
  unfold isW; simp [h0, h1]
/-- what is told of a word that begins at i -/
def wordV (s : ByteArray) (p0 i : Int) : Int × Int × ByteArray × Bool := if i ≥ (s.size : Int) then (0, 0, (⟨#[]⟩ : ByteArray), false) else (p0, i, s.extract i.toNat (upw s s.size i).toNat, true)

theorem fwd_spec (s : ByteArray) : ∀ (n : Nat) (i : Int), (s.size : Int) - i ≤ n → (fwd s n i ≥ s.size ∨ isW s (fwd s n i) = true) ∧ (fwd s n i = i ∨ isW s (fwd s n i - 1) = false) := by
  intro n
  induction n with
  | zero => intro i h; exact ⟨.inl (by show i ≥ _; omega), .inl rfl⟩
  | succ n ih =>
    intro i h
    by_cases hc : i < (s.size : Int) ∧ isW s i = false
    · rw [fwd_go hc.1 hc.2]
      obtain ⟨h1, h2⟩ := ih (i + 1) (by omega)
      refine ⟨h1, .inr ?_⟩
      rcases h2 with h2 | h2
      · rw [h2, Int.add_sub_cancel]; exact hc.2
      · exact h2
    · rw [fwd_stop hc]
      refine ⟨?_, .inl rfl⟩
      by_cases hl : i < (s.size : Int)
      · right; cases hw : isW s i with
        | true => rfl
        | false => exact absurd ⟨hl, hw⟩ hc
      · left; omega
theorem bck_le (s : ByteArray) : ∀ (n : Nat) (i : Int), bck s n i ≤ i := by
  intro n
  induction n with
  | zero => intro i; exact Int.le_refl _
  | succ n ih =>
    intro i
    by_cases h : isW s (i - 1) = true
    · rw [bck_go h]; have := ih (i - 1); omega
    · rw [bck_stop (by simpa using h)]; exact Int.le_refl _

theorem total_sum : ∀ (l : List ByteArray), (l.map ByteArray.size).sum = total l
  | [] => rfl
  | s :: r => by simp [total, total_sum r]
theorem Word_val (l : List ByteArray) (ht : total l ≤ 1200) (a b : Int) : find_Word.f l a b = some (wordR l a b) := by
  show (if _ then _ else _) = _
  rw [if_pos (by rw [total_sum]; omega)]

theorem w_l2 (s : ByteArray) (hs : s.size ≤ 1200) (i p0 x : Int) (h0 : 0 ≤ i) : ∀ (n k : Nat) (e : Int), i ≤ e → e ≤ s.size → (s.size : Int) - e ≤ n → n + 3 ≤ k →
    foolscapref5_Word.l2 k s i e p0 x = some (p0, i, s.extract i.toNat (upw s n e).toNat, true) := by
  intro n
  induction n with
  | zero =>
    intro k e h1 h2 h3 hk
    obtain ⟨k, rfl⟩ : ∃ m, k = m + 1 := ⟨k - 1, by omega⟩
    simp only [foolscapref5_Word.l2]
    rw [if_neg (by omega), if_pos (by omega), if_pos (by omega), if_pos (by omega)]
    rfl
  | succ n ih =>
    intro k e h1 h2 h3 hk
    obtain ⟨k, rfl⟩ : ∃ m, k = m + 1 := ⟨k - 1, by omega⟩
    obtain ⟨k, rfl⟩ : ∃ m, k = m + 1 := ⟨k - 1, by omega⟩
    rw [foolscapref5_Word.l2]
    by_cases hlt : e < (s.size : Int)
    · have hw : wrap64 (e + 1) = e + 1 := by unfold wrap64; omega
      rw [if_pos hlt, if_pos (by omega), rOf_val, Option.bind_some]
      by_cases hW : ofC (bt s e) false = 1
      · rw [if_pos hW, hw, ih (k + 1) (e + 1) (by omega) (by omega) (by omega) (by omega), upw_go ((isW_at (by omega) hlt).2 hW)]
      · rw [if_neg hW, if_pos (by omega), if_pos (by omega), if_pos (by omega), upw_stop (by rw [Bool.eq_false_iff]; intro h; exact hW ((isW_at (by omega) hlt).1 h))]
    · rw [if_neg hlt, if_pos (by omega), if_pos (by omega), if_pos (by omega), upw_stop (by rw [Bool.eq_false_iff]; intro h; have := isW_in h; omega)]

theorem w_j3 (s : ByteArray) (hs : s.size ≤ 1200) (i p0 x : Int) (h0 : 0 ≤ i) (k : Nat) (hk : 1210 ≤ k) : foolscapref5_Word.j3 k s i p0 x = some (wordV s p0 i) := by
  obtain ⟨k, rfl⟩ : ∃ m, k = m + 1 := ⟨k - 1, by omega⟩
  simp only [foolscapref5_Word.j3, wordV]
  by_cases h : i ≥ (s.size : Int)
  · rw [if_pos h, if_pos h]
  · rw [if_neg h, if_neg h, w_l2 s hs i p0 x h0 s.size k i (by omega) (by omega) (by omega) (by omega)]

theorem w_l1 (s : ByteArray) (hs : s.size ≤ 1200) (p0 x : Int) : ∀ (n k : Nat) (i : Int), 0 ≤ i → i ≤ s.size → (s.size : Int) - i ≤ n → n + 1215 ≤ k →
    foolscapref5_Word.l1 k s i p0 x = some (wordV s p0 (fwd s n i)) := by
  intro n
  induction n with
  | zero =>
    intro k i h1 h2 h3 hk
    obtain ⟨k, rfl⟩ : ∃ m, k = m + 1 := ⟨k - 1, by omega⟩
    simp only [foolscapref5_Word.l1]
    rw [if_neg (by omega), w_j3 s hs i p0 x h1 k (by omega)]
    rfl
  | succ n ih =>
    intro k i h1 h2 h3 hk
    obtain ⟨k, rfl⟩ : ∃ m, k = m + 1 := ⟨k - 1, by omega⟩
    obtain ⟨k, rfl⟩ : ∃ m, k = m + 1 := ⟨k - 1, by omega⟩
    rw [foolscapref5_Word.l1]
    by_cases hlt : i < (s.size : Int)
    · have hw : wrap64 (i + 1) = i + 1 := by unfold wrap64; omega
      rw [if_pos hlt, if_pos (by omega), rOf_val, Option.bind_some]
      by_cases hW : ofC (bt s i) false = 1
      · rw [if_pos hW, w_j3 s hs i p0 x h1 (k + 1) (by omega), fwd_stop (fun h => by have := (isW_at h1 hlt).2 hW; rw [this] at h; exact absurd h.2 (by decide))]
      · rw [if_neg hW, hw, ih (k + 1) (i + 1) (by omega) (by omega) (by omega) (by omega), fwd_go hlt (by rw [Bool.eq_false_iff]; intro h; exact hW ((isW_at h1 hlt).1 h))]
    · rw [if_neg hlt, w_j3 s hs i p0 x h1 (k + 1) (by omega), fwd_stop (fun h => hlt h.1)]

theorem w_l0 (s : ByteArray) (hs : s.size ≤ 1200) (p0 x : Int) : ∀ (n k : Nat) (i : Int), 0 ≤ i → i ≤ s.size → i ≤ n → n + 2420 ≤ k →
    foolscapref5_Word.l0 k s i p0 x = some (wordV s p0 (if isW s i = true then bck s n i else fwd s s.size i)) := by
  intro n
  induction n with
  | zero =>
    intro k i h1 h2 h3 hk
    obtain ⟨k, rfl⟩ : ∃ m, k = m + 1 := ⟨k - 1, by omega⟩
    obtain ⟨k, rfl⟩ : ∃ m, k = m + 1 := ⟨k - 1, by omega⟩
    rw [foolscapref5_Word.l0]
    rw [if_neg (by omega)]
    simp only [foolscapref5_Word.j1]
    rw [w_l1 s hs p0 x s.size k i h1 h2 (by omega) (by omega)]
    by_cases hW : isW s i = true
    · rw [if_pos hW, fwd_stop (fun h => by rw [hW] at h; exact absurd h.2 (by decide))]; rfl
    · rw [if_neg hW]
  | succ n ih =>
    intro k i h1 h2 h3 hk
    obtain ⟨k, rfl⟩ : ∃ m, k = m + 1 := ⟨k - 1, by omega⟩
    obtain ⟨k, rfl⟩ : ∃ m, k = m + 1 := ⟨k - 1, by omega⟩
    have hj : (bck s (n + 1) i = i ∨ isW s i = false) → foolscapref5_Word.j1 (k + 1) s i p0 x = some (wordV s p0 (if isW s i = true then bck s (n + 1) i else fwd s s.size i)) := by
      intro hb
      simp only [foolscapref5_Word.j1]
      rw [w_l1 s hs p0 x s.size k i h1 h2 (by omega) (by omega)]
      by_cases hW : isW s i = true
      · rw [if_pos hW, fwd_stop (fun h => by rw [hW] at h; exact absurd h.2 (by decide))]
        rcases hb with hb | hb
        · rw [hb]
        · rw [hb] at hW; cases hW
      · rw [if_neg hW]
    rw [foolscapref5_Word.l0]
    by_cases hi0 : i > 0
    · rw [if_pos hi0]
      by_cases hlt : i < (s.size : Int)
      · have hw : wrap64 (i - 1) = i - 1 := by unfold wrap64; omega
        rw [if_pos hlt, if_pos (by omega), rOf_val, Option.bind_some]
        by_cases hW : ofC (bt s i) false = 1
        · rw [if_pos hW, hw, if_pos (by omega), if_pos (by omega), rOf_val, Option.bind_some]
          by_cases hW1 : ofC (bt s (i - 1)) false = 1
          · have hw1 := (isW_at (show 0 ≤ i - 1 by omega) (by omega)).2 hW1
            rw [if_pos hW1, ih (k + 1) (i - 1) (by omega) (by omega) (by omega) (by omega), if_pos hw1, if_pos ((isW_at h1 hlt).2 hW), bck_go hw1]
          · rw [if_neg hW1]
            exact hj (.inl (bck_stop (by rw [Bool.eq_false_iff]; intro h; exact hW1 ((isW_at (by omega) (by omega)).1 h)) _))
        · rw [if_neg hW]
          exact hj (.inr (by rw [Bool.eq_false_iff]; intro h; exact hW ((isW_at h1 hlt).1 h)))
      · rw [if_neg hlt]
        exact hj (.inr (by rw [Bool.eq_false_iff]; intro h; have := isW_in h; omega))
    · rw [if_neg hi0]
      exact hj (.inl (bck_stop (by rw [Bool.eq_false_iff]; intro h; have := isW_in h; omega) _))

theorem rPlace_val (l : List ByteArray) (a b : Int) : foolscapref5_Place.f l a b = some (placeB l a b) := Go.Proofs.Ytbfoflhfmhfofaa.Ext.place_is l a b

theorem rWord_val (k : Nat) (hk : 3700 ≤ k) (l : List ByteArray) (hs : ∀ s ∈ l, s.size ≤ 1200) (a b : Int) : foolscapref5_Word.f k l a b = some (wordR l a b) := by
  unfold foolscapref5_Word.f foolscapref5_may.f wordR
  rw [rPlace_val, Option.bind_some]
  by_cases hp : placeB l a b = true
  · obtain ⟨q0, q1, q2, q3⟩ : 0 ≤ a ∧ a < l.length ∧ 0 ≤ b ∧ b ≤ ((rdOf ByteArray.empty l a).size : Int) := by simpa [placeB] using hp
    have hss : (rdOf ByteArray.empty l a).size ≤ 1200 := hs _ (by unfold rdOf; rw [List.getD_eq_getElem?_getD, List.getElem?_eq_getElem (by omega)]; exact List.getElem_mem _)
    rw [if_pos hp, Option.bind_some, if_pos (by decide), if_pos q0, if_pos q1, if_neg (by rw [hp]; decide)]
    revert q3 hss
    generalize rdOf ByteArray.empty l a = s
    intro q3 hss
    rw [w_l0 s hss a b s.size k b q2 q3 q3 (by omega)]
    by_cases hW : isW s b = true
    · have hb := isW_in hW
      rw [if_pos hW, fwd_stop (fun h => by rw [hW] at h; exact absurd h.2 (by decide)), if_neg (by omega)]
      have := bck_le s s.size b
      unfold wordV
      rw [if_neg (by omega)]
    · rw [if_neg hW]
      obtain ⟨h1, h2⟩ := fwd_spec s s.size b (by omega)
      by_cases hF : fwd s s.size b ≥ (s.size : Int)
      · rw [if_pos hF]; unfold wordV; rw [if_pos hF]; rfl
      · rw [if_neg hF]
        have h3 : isW s (fwd s s.size b - 1) = false := by
          rcases h2 with h2 | h2
          · rcases h1 with h1 | h1
            · exact absurd h1 hF
            · rw [h2] at h1; exact absurd h1 hW
          · exact h2
        rw [bck_stop h3]
        unfold wordV
        rw [if_neg hF]
  · rw [if_neg hp, Option.bind_some, if_neg (by decide), if_pos (by simpa using hp)]
    rfl

theorem fw_l0 (l : List ByteArray) (ht : total l ≤ 1200) (hs : ∀ s ∈ l, s.size ≤ 1200) (xs : List S28) (hx : xs.length ≤ 10) (n : Int) (hn : n = xs.length) (d : Nat) : ∀ (k : Nat) (j : Nat) (z : Int), z = j → j ≤ xs.length → xs.length - j = d → 3702 + d ≤ k →
    foolscaplaw12_FindWord.l0 k l xs n z = some true := by
  induction d with
  | zero =>
    intro k j z hz hj hd hk
    obtain ⟨k, rfl⟩ : ∃ m, k = m + 1 := ⟨k - 1, by omega⟩
    simp only [foolscaplaw12_FindWord.l0]
    rw [if_neg (by omega)]
  | succ d ih =>
    intro k j z hz hj hd hk
    obtain ⟨k, rfl⟩ : ∃ m, k = m + 1 := ⟨k - 1, by omega⟩
    have hw : wrap64 (z + 1) = z + 1 := by unfold wrap64; omega
    rw [foolscaplaw12_FindWord.l0, if_pos (by omega), if_pos (by omega), if_pos (by omega), Word_val l ht, Option.bind_some, rWord_val k (by omega) l hs, Option.bind_some, if_neg (by simp), if_pos rfl, if_neg (by simp), hw]
    exact ih k (j + 1) (z + 1) (by omega) (by omega) (by omega) (by omega)
theorem FindWord (l : List ByteArray) (a b x y : Int) (hsz : ∀ s ∈ l, s.size ≤ 140737488351232) (hx : 0 ≤ x ∧ x ≤ 65535) (hy : 0 ≤ y ∧ y ≤ 65535) : ∃ k, foolscaplaw12_FindWord.f k l a b x y = some true := by
  refine ⟨5000, ?_⟩
  unfold foolscaplaw12_FindWord.f
  rw [known12_val, Option.bind_some, if_pos rfl]
  obtain ⟨t, ht, hT⟩ := Text_val 5000 l (by omega) hsz
  rw [ht, Option.bind_some]
  by_cases htt : t = true
  · obtain ⟨h0, h1, h2⟩ := hT htt
    have hs : ∀ s ∈ l, s.size ≤ 1200 := fun s hs => by have := total_mem hs; omega
    obtain ⟨u, v, hp, _⟩ := seat_val l h0 h1 hs x y hx hy
    rw [if_pos htt, hp, Option.bind_some, Option.bind_some]
    exact fw_l0 l h2 hs _ (by simp) _ rfl 2 5000 0 0 rfl (by simp) (by simp) (by omega)
  · rw [if_neg htt]

theorem FindWord_walk (A0 : Option Addr) (c0 : Nat) (l0 : List ByteArray) (a1 b1 a2 a3 : Int) (w : World)
    (hr0 : Kd.C Kd.string w A0 l0.length l0) (hc0 : l0.length ≤ c0) (hz0 : l0.length * 16 ≤ 140737488351232) (hs0 : ∀ s ∈ l0, s.size ≤ 140737488351232)
    (wa1 : (Lit.int .i64 a1).wf = true) (wb1 : (Lit.int .i64 b1).wf = true) (w2 : (Lit.int .u16 a2).wf = true) (w3 : (Lit.int .u16 a3).wf = true) :
    Calls Try.prog 8 #[.slice A0 l0.length c0, .agg #[.int .i64 a1, .int .i64 b1], .int .u16 a2, .int .u16 a3] w fun e w' => e = .returned (.bool true) ∧ Below w.heap.size w w' := by
  obtain ⟨k, hk⟩ := FindWord l0 a1 b1 a2 a3 hs0 (bounds_u16 w2) (bounds_u16 w3)
  exact foolscaplaw12_FindWord.calls k A0 c0 l0 a1 b1 a2 a3 true w hr0 hc0 hk

end Go.Proofs.Ytbfoflhfmhfofaa.Pure
