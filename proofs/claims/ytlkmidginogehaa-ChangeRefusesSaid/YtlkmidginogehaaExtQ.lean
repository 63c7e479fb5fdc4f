/- What the printed functions of seat B compute, in plain Lean: many changes, light, Place. -/
import Derived.Test.YtlkmidginogehaaExtP
set_option linter.unusedVariables false
set_option linter.unusedSimpArgs false
namespace Go.Proofs.Ytlkmidginogehaa.Plain
open Go.RowKit Go.Proofs.YtlkmidginogehaaW.PrintWords Go.Proofs.YtlkmidginogehaaW.PrintLast Go.Proofs.YtlkmidginogehaaW.PrintMore
open Go.Proofs.Ytlkmidginogehaa.MChange Go.Proofs.Ytlkmidginogehaa.Ext

theorem one_val (k : Nat) (l : List ByteArray) (c : S40) (hl : l.length ≤ 5000) (h1 : c.f1.length ≤ 5000) (h2 : c.f2.length ≤ 5000) (hk : c.f1.length + 5 ≤ k) : foolscapref19_one.f k l c.f0 c.f1 c.f2 = some (res (applyOne l c)) := by
  obtain ⟨k, rfl⟩ : ∃ m, k = m + 1 := ⟨k - 1, by omega⟩
  unfold foolscapref19_one.f
  by_cases a0 : c.f0 < 0
  · rw [if_pos a0, applyOne_no _ _ (by omega)]; rfl
  · rw [if_neg a0]
    by_cases a1 : c.f0 > (l.length : Int)
    · rw [if_pos a1, applyOne_no _ _ (by omega)]; rfl
    · rw [if_neg a1]
      have w1 : wrap64 ((l.length : Int) - c.f0) = (l.length : Int) - c.f0 := w_small (by omega) (by omega)
      rw [w1]
      clear w1
      by_cases a2 : (c.f1.length : Int) > (l.length : Int) - c.f0
      · rw [if_pos a2, applyOne_no _ _ (by omega)]; rfl
      · rw [if_neg a2]
        have b1 : 0 ≤ c.f0 := by omega
        have b2 : c.f0 ≤ c.f0 + (c.f1.length : Int) := by omega
        have b3 : c.f0 + (c.f1.length : Int) ≤ (l.length : Int) := by omega
        have b4 : c.f0 ≤ (l.length : Int) := by omega
        have b5 : 0 ≤ c.f0 + (c.f1.length : Int) := by omega
        have b6 : (c.f0 + (c.f1.length : Int)).toNat = c.f0.toNat + c.f1.length := by omega
        have hm : ((l.take (c.f0.toNat + c.f1.length)).drop c.f0.toNat).length ≤ c.f1.length := by rw [mid_eq, List.length_take]; omega
        have w4 : wrap64 (c.f0 + (c.f1.length : Int)) = c.f0 + (c.f1.length : Int) := w_small (by omega) (by omega)
        rw [w4, b6, if_pos b1, if_pos b2, if_pos b3, same_val (k + 1) _ _ (by clear w4; omega) (by clear w4; omega), Option.bind_some, mid_eq]
        clear w4
        have w2 : wrap64 ((l.length : Int) - (c.f1.length : Int)) = (l.length : Int) - (c.f1.length : Int) := w_small (by omega) (by omega)
        rw [w2]
        clear w2
        have w3 : wrap64 ((l.length : Int) - (c.f1.length : Int) + (c.f2.length : Int)) = (l.length : Int) - (c.f1.length : Int) + (c.f2.length : Int) := w_small (by omega) (by omega)
        rw [w3]
        clear w3
        by_cases e : (l.drop c.f0.toNat).take c.f1.length = c.f1
        · rw [if_pos (decide_eq_true e)]
          by_cases a3 : (l.length : Int) - (c.f1.length : Int) + (c.f2.length : Int) = 0
          · rw [if_pos a3, applyOne_no l c (fun h => h.2.2.2.2 a3)]; rfl
          · have c1 : ([] : List ByteArray).length + (l.take c.f0.toNat).length < 8796093022208 := by rw [List.length_take, List.length_nil]; omega
            have c2 : ([] ++ l.take c.f0.toNat).length + c.f2.length < 8796093022208 := by rw [List.nil_append, List.length_take]; omega
            have c3 : ([] ++ l.take c.f0.toNat ++ c.f2).length + (l.drop (c.f0.toNat + c.f1.length)).length < 8796093022208 := by rw [List.nil_append, List.length_append, List.length_take, List.length_drop]; omega
            rw [if_neg a3, if_pos b4, if_pos c1, Option.bind_some, if_pos c2, Option.bind_some, if_pos b5, if_pos c3, applyOne_yes l c ⟨b1, b4, by omega, e, a3⟩]
            rfl
        · rw [if_neg (by simpa using e), applyOne_no l c (fun h => e h.2.2.2.1)]; rfl

/-- all the changes, one after another -/
def applyAll : List ByteArray → List S40 → Option (List ByteArray)
  | l, [] => some l
  | l, c :: cs => (applyOne l c).bind (fun v => applyAll v cs)
def fitsAll : List ByteArray → List S40 → Bool
  | _, [] => true
  | l, c :: cs => match applyOne l c with
    | none => false
    | some v => if sizeL v > 4096 then false else fitsAll v cs
theorem applyOne_some {l v : List ByteArray} {c : S40} (h : applyOne l c = some v) : (0 ≤ c.f0 ∧ c.f0 ≤ l.length ∧ (c.f1.length : Int) ≤ l.length - c.f0 ∧ (l.drop c.f0.toNat).take c.f1.length = c.f1 ∧ (l.length : Int) - c.f1.length + c.f2.length ≠ 0) ∧ v = l.take c.f0.toNat ++ c.f2 ++ l.drop (c.f0.toNat + c.f1.length) := by
  unfold applyOne at h
  split at h
  · rename_i h1
    exact ⟨h1, (Option.some.inj h).symm⟩
  · cases h
theorem applyOne_len {l v : List ByteArray} {c : S40} (h : applyOne l c = some v) : v.length ≤ l.length + c.f2.length ∧ total v ≤ total l + total c.f2 := by
  obtain ⟨⟨b1, b2, b3, b4, b5⟩, rfl⟩ := applyOne_some h
  have h1 := total_append (l.take c.f0.toNat) (l.drop c.f0.toNat)
  rw [List.take_append_drop] at h1
  have h2 := total_drop_le (l.drop c.f0.toNat) c.f1.length
  rw [List.drop_drop] at h2
  rw [total_append, total_append, List.length_append, List.length_append, List.length_take, List.length_drop]
  omega
/-- short enough -/
def BdL (l : List ByteArray) (cs : List S40) : Prop := l.length + 100 * cs.length ≤ 5000 ∧ ∀ c ∈ cs, c.f1.length ≤ 100 ∧ c.f2.length ≤ 100
def BdT (l : List ByteArray) (cs : List S40) : Prop := total l + 2000 * cs.length ≤ 1000000 ∧ ∀ c ∈ cs, total c.f2 ≤ 2000
theorem BdL.next {l v : List ByteArray} {c : S40} {cs : List S40} (h : BdL l (c :: cs)) (hv : applyOne l c = some v) : BdL v cs := by
  obtain ⟨h1, h2⟩ := h
  have h3 := (applyOne_len hv).1
  have h4 := h2 c (List.mem_cons_self ..)
  rw [List.length_cons] at h1
  exact ⟨by omega, fun d hd => h2 d (List.mem_cons_of_mem _ hd)⟩
theorem BdT.next {l v : List ByteArray} {c : S40} {cs : List S40} (h : BdT l (c :: cs)) (hv : applyOne l c = some v) : BdT v cs := by
  obtain ⟨h1, h2⟩ := h
  have h3 := (applyOne_len hv).2
  have h4 := h2 c (List.mem_cons_self ..)
  rw [List.length_cons] at h1
  exact ⟨by omega, fun d hd => h2 d (List.mem_cons_of_mem _ hd)⟩
theorem rd_40 (cs : List S40) (i : Nat) (z : Int) (hz : z = i) (h : i < cs.length) : rd_T40 cs z = cs[i] := by
  subst hz
  unfold rd_T40; rw [Int.toNat_natCast, List.getD_eq_getElem?_getD, List.getElem?_eq_getElem h]; rfl
theorem Apply_l0 (cs : List S40) (hcs : cs.length ≤ 10000) (d : Nat) : ∀ (k j : Nat) (z : Int) (l : List ByteArray), z = j → j ≤ cs.length → cs.length - j = d → BdL l (cs.drop j) → d + 200 ≤ k → change_Apply.l0 k l cs (cs.length : Int) z = some (res (applyAll l (cs.drop j))) := by
  induction d with
  | zero =>
    intro k j z l hz hj hd hb hk
    obtain ⟨k, rfl⟩ : ∃ m, k = m + 1 := ⟨k - 1, by omega⟩
    rw [change_Apply.l0, if_neg (by omega), List.drop_eq_nil_of_le (by omega)]; rfl
  | succ d ih =>
    intro k j z l hz hj hd hb hk
    obtain ⟨k, rfl⟩ : ∃ m, k = m + 1 := ⟨k - 1, by omega⟩
    have hjl : j < cs.length := by omega
    have e : cs.drop j = cs[j] :: cs.drop (j + 1) := List.drop_eq_getElem_cons hjl
    rw [e] at hb ⊢
    have hc := hb.2 _ (List.mem_cons_self ..)
    have hl := hb.1
    rw [List.length_cons] at hl
    rw [change_Apply.l0, if_pos (by omega), if_pos (by omega), if_pos (by omega), rd_40 cs j z hz hjl, capply_val k l cs[j] (by omega) (by omega) (by omega) (by omega), Option.bind_some, applyAll]
    cases ho : applyOne l cs[j] with
    | none => rfl
    | some v =>
      rw [wn j z hz (by omega)]
      show (if true = true then _ else _) = _
      rw [if_pos rfl]
      exact ih k (j + 1) _ v rfl (by omega) (by omega) (hb.next ho) (by omega)
theorem Apply_val (k : Nat) (l : List ByteArray) (cs : List S40) (hcs : cs.length ≤ 10000) (hb : BdL l cs) (hk : cs.length + 200 ≤ k) : change_Apply.f k l cs = some (res (applyAll l cs)) := by
  unfold change_Apply.f slices_Clone_string_string.f
  have := hb.1
  rw [if_pos (by omega), Option.bind_some]
  exact Apply_l0 cs hcs cs.length k 0 0 l rfl (by omega) (by omega) hb hk
theorem rApply_l0 (cs : List S40) (hcs : cs.length ≤ 10000) (d : Nat) : ∀ (k j : Nat) (z : Int) (l : List ByteArray), z = j → j ≤ cs.length → cs.length - j = d → BdL l (cs.drop j) → d + 200 ≤ k → foolscapref19_Apply.l0 k cs l z = some (res (applyAll l (cs.drop j))) := by
  induction d with
  | zero =>
    intro k j z l hz hj hd hb hk
    obtain ⟨k, rfl⟩ : ∃ m, k = m + 1 := ⟨k - 1, by omega⟩
    rw [foolscapref19_Apply.l0, if_neg (by omega), List.drop_eq_nil_of_le (by omega)]; rfl
  | succ d ih =>
    intro k j z l hz hj hd hb hk
    obtain ⟨k, rfl⟩ : ∃ m, k = m + 1 := ⟨k - 1, by omega⟩
    have hjl : j < cs.length := by omega
    have e : cs.drop j = cs[j] :: cs.drop (j + 1) := List.drop_eq_getElem_cons hjl
    rw [e] at hb ⊢
    have hc := hb.2 _ (List.mem_cons_self ..)
    have hl := hb.1
    rw [List.length_cons] at hl
    rw [foolscapref19_Apply.l0, if_pos (by omega), if_pos (by omega), rd_40 cs j z hz hjl, one_val k l cs[j] (by omega) (by omega) (by omega) (by omega), Option.bind_some, applyAll]
    cases ho : applyOne l cs[j] with
    | none => rfl
    | some v =>
      rw [wn j z hz (by omega)]
      show (if true = true then _ else _) = _
      rw [if_pos rfl]
      exact ih k (j + 1) _ v rfl (by omega) (by omega) (hb.next ho) (by omega)
theorem rApply_val (k : Nat) (l : List ByteArray) (cs : List S40) (hcs : cs.length ≤ 10000) (hb : BdL l cs) (hk : cs.length + 200 ≤ k) : foolscapref19_Apply.f k l cs = some (res (applyAll l cs)) := by
  unfold foolscapref19_Apply.f
  have := hb.1
  rw [if_pos (by rw [List.length_nil]; omega), List.nil_append]
  exact rApply_l0 cs hcs cs.length k 0 0 l rfl (by omega) (by omega) hb hk
theorem Fits_l0 (cs : List S40) (hcs : cs.length ≤ 10000) (d : Nat) : ∀ (k j : Nat) (z : Int) (l : List ByteArray), z = j → j ≤ cs.length → cs.length - j = d → BdL l (cs.drop j) → BdT l (cs.drop j) → d + 6000 ≤ k → change_Fits.l0 k l cs (cs.length : Int) z = some (fitsAll l (cs.drop j)) := by
  induction d with
  | zero =>
    intro k j z l hz hj hd hb ht hk
    obtain ⟨k, rfl⟩ : ∃ m, k = m + 1 := ⟨k - 1, by omega⟩
    rw [change_Fits.l0, if_neg (by omega), List.drop_eq_nil_of_le (by omega)]; rfl
  | succ d ih =>
    intro k j z l hz hj hd hb ht hk
    obtain ⟨k, rfl⟩ : ∃ m, k = m + 1 := ⟨k - 1, by omega⟩
    have hjl : j < cs.length := by omega
    have e : cs.drop j = cs[j] :: cs.drop (j + 1) := List.drop_eq_getElem_cons hjl
    rw [e] at hb ht ⊢
    have hc := hb.2 _ (List.mem_cons_self ..)
    have hl := hb.1
    rw [List.length_cons] at hl
    rw [change_Fits.l0, if_pos (by omega), if_pos (by omega), if_pos (by omega), rd_40 cs j z hz hjl, capply_val k l cs[j] (by omega) (by omega) (by omega) (by omega), Option.bind_some, fitsAll]
    cases ho : applyOne l cs[j] with
    | none => rfl
    | some v =>
      have hv := hb.next ho
      have hv2 := ht.next ho
      have hv3 := hv.1
      have hv4 := hv2.1
      rw [wn j z hz (by omega)]
      show (if true = true then ((class_Size.f k v).bind _) else _) = _
      rw [if_pos rfl, csize_val k v (by omega) (by omega) (by omega), Option.bind_some]
      show _ = some (if sizeL v > 4096 then false else fitsAll v _)
      by_cases hs : sizeL v > 4096
      · rw [if_pos hs, if_pos hs]
      · rw [if_neg hs, if_neg hs]
        exact ih k (j + 1) _ v rfl (by omega) (by omega) hv hv2 (by omega)
theorem Fits_val (k : Nat) (l : List ByteArray) (cs : List S40) (hcs : cs.length ≤ 10000) (hb : BdL l cs) (ht : BdT l cs) (hk : cs.length + 6000 ≤ k) : change_Fits.f k l cs = some (fitsAll l cs) :=
  Fits_l0 cs hcs cs.length k 0 0 l rfl (by omega) (by omega) hb ht hk
theorem rFits_l0 (cs : List S40) (hcs : cs.length ≤ 10000) (d : Nat) : ∀ (k j : Nat) (z : Int) (l : List ByteArray), z = j → j ≤ cs.length → cs.length - j = d → BdL l (cs.drop j) → BdT l (cs.drop j) → d + 6000 ≤ k → foolscapref19_Fits.l0 k cs l z = some (fitsAll l (cs.drop j)) := by
  induction d with
  | zero =>
    intro k j z l hz hj hd hb ht hk
    obtain ⟨k, rfl⟩ : ∃ m, k = m + 1 := ⟨k - 1, by omega⟩
    rw [foolscapref19_Fits.l0, if_neg (by omega), List.drop_eq_nil_of_le (by omega)]; rfl
  | succ d ih =>
    intro k j z l hz hj hd hb ht hk
    obtain ⟨k, rfl⟩ : ∃ m, k = m + 1 := ⟨k - 1, by omega⟩
    have hjl : j < cs.length := by omega
    have e : cs.drop j = cs[j] :: cs.drop (j + 1) := List.drop_eq_getElem_cons hjl
    rw [e] at hb ht ⊢
    have hc := hb.2 _ (List.mem_cons_self ..)
    have hl := hb.1
    rw [List.length_cons] at hl
    rw [foolscapref19_Fits.l0, if_pos (by omega), if_pos (by omega), rd_40 cs j z hz hjl, one_val k l cs[j] (by omega) (by omega) (by omega) (by omega), Option.bind_some, fitsAll]
    cases ho : applyOne l cs[j] with
    | none => rfl
    | some v =>
      have hv := hb.next ho
      have hv2 := ht.next ho
      have hv3 := hv.1
      have hv4 := hv2.1
      rw [wn j z hz (by omega)]
      show (if true = true then ((foolscapref5_Size.f k v).bind _) else _) = _
      rw [if_pos rfl, rsize_val k v (by omega) (by omega) (by omega), Option.bind_some]
      show _ = some (if sizeL v > 4096 then false else fitsAll v _)
      by_cases hs : sizeL v > 4096
      · rw [if_pos hs, if_pos hs]
      · rw [if_neg hs, if_neg hs]
        exact ih k (j + 1) _ v rfl (by omega) (by omega) hv hv2 (by omega)
theorem rFits_val (k : Nat) (l : List ByteArray) (cs : List S40) (hcs : cs.length ≤ 10000) (hb : BdL l cs) (ht : BdT l cs) (hk : cs.length + 6000 ≤ k) : foolscapref19_Fits.f k l cs = some (fitsAll l cs) :=
  rFits_l0 cs hcs cs.length k 0 0 l rfl (by omega) (by omega) hb ht hk

theorem Grow_val (k : Nat) (c : S40) (h1 : c.f1.length ≤ 5000) (h2 : c.f2.length ≤ 5000) (t1 : total c.f1 ≤ 1000000) (t2 : total c.f2 ≤ 1000000) (hk : 6000 ≤ k) : change_Grow.f k c.f0 c.f1 c.f2 = some (sizeL c.f2 - sizeL c.f1) := by
  have b1 : sizeL c.f1 ≤ 1005000 ∧ 0 ≤ sizeL c.f1 := by unfold sizeL; omega
  have b2 : sizeL c.f2 ≤ 1005000 ∧ 0 ≤ sizeL c.f2 := by unfold sizeL; omega
  unfold change_Grow.f
  rw [csize_val k _ (by omega) (by omega) (by omega), Option.bind_some, csize_val k _ (by omega) (by omega) (by omega), Option.bind_some, w_small (by omega) (by omega)]
theorem rInverse_l0 (cs : List S40) (hcs : cs.length ≤ 10000) : ∀ (j k : Nat) (z : Int) (acc : List S40), z = (j : Int) - 1 → j ≤ cs.length → acc.length + j ≤ 10000 → j + 1 ≤ k → foolscapref19_Inverse.l0 k cs acc z = some (acc ++ (cs.take j).reverse.map inv1) := by
  intro j
  induction j with
  | zero =>
    intro k z acc hz hj ha hk
    obtain ⟨k, rfl⟩ : ∃ m, k = m + 1 := ⟨k - 1, by omega⟩
    rw [foolscapref19_Inverse.l0, if_neg (by omega)]; simp
  | succ j ih =>
    intro k z acc hz hj ha hk
    obtain ⟨k, rfl⟩ : ∃ m, k = m + 1 := ⟨k - 1, by omega⟩
    have hz2 : z = (j : Nat) := by omega
    have key := fun x => ih k ((j : Int) - 1) (acc ++ [x]) rfl (by omega) (by rw [List.length_append]; simp only [List.length_cons, List.length_nil]; omega) (by omega)
    have hb : z < (cs.length : Int) ∧ 0 ≤ z ∧ z ≤ 10000 ∧ acc.length < 2513169434916 := by omega
    rw [foolscapref19_Inverse.l0, if_pos hb.2.1, if_pos hb.2.1, if_pos hb.1, if_pos hb.2.2.2, rd_40 cs j z hz2 (by omega), w_small (z := z - 1) (by omega) (by omega), hz2, key, List.take_succ_eq_append_getElem (by omega), List.reverse_append, List.map_append, List.append_assoc]
    rfl
theorem rInverse_val (k : Nat) (cs : List S40) (hcs : cs.length ≤ 10000) (hk : cs.length + 1 ≤ k) : foolscapref19_Inverse.f k cs = some (cs.reverse.map inv1) := by
  unfold foolscapref19_Inverse.f
  rw [w_small (by omega) (by omega), rInverse_l0 cs hcs cs.length k _ [] rfl (by omega) (by rw [List.length_nil]; omega) hk, List.take_length]; rfl
theorem Change_self (k : Nat) (c : S40) (h1 : c.f1.length ≤ 5000) (h2 : c.f2.length ≤ 5000) (hk : 6000 ≤ k) : foolscaphelp_Change.f k c.f0 c.f1 c.f2 c.f0 c.f1 c.f2 = some true := by
  unfold foolscaphelp_Change.f
  rw [if_pos rfl, strings_val k _ _ (by omega) (by omega), Option.bind_some, if_pos (by simp), strings_val k _ _ (by omega) (by omega), Option.bind_some]
  simp
theorem Changes_l0 (cs : List S40) (hcs : cs.length ≤ 10000) (hc : ∀ c ∈ cs, c.f1.length ≤ 5000 ∧ c.f2.length ≤ 5000) (d : Nat) : ∀ (k j : Nat) (z : Int), z = j → j ≤ cs.length → cs.length - j = d → d + 6001 ≤ k → foolscaphelp_Changes.l0 k cs cs z = some true := by
  induction d with
  | zero =>
    intro k j z hz hj hd hk
    obtain ⟨k, rfl⟩ : ∃ m, k = m + 1 := ⟨k - 1, by omega⟩
    rw [foolscaphelp_Changes.l0, if_neg (by omega)]
  | succ d ih =>
    intro k j z hz hj hd hk
    obtain ⟨k, rfl⟩ : ∃ m, k = m + 1 := ⟨k - 1, by omega⟩
    have hjl : j < cs.length := by omega
    have h12 := hc _ (List.getElem_mem hjl)
    rw [foolscaphelp_Changes.l0, if_pos (by omega), if_pos (by omega), if_pos (by omega), rd_40 cs j z hz hjl, Change_self k _ h12.1 h12.2 (by omega), Option.bind_some, if_pos rfl, wn j z hz (by omega)]
    exact ih k (j + 1) _ rfl (by omega) (by omega) (by omega)
theorem Changes_self (k : Nat) (cs : List S40) (hcs : cs.length ≤ 10000) (hc : ∀ c ∈ cs, c.f1.length ≤ 5000 ∧ c.f2.length ≤ 5000) (hk : cs.length + 6001 ≤ k) : foolscaphelp_Changes.f k cs cs = some true := by
  unfold foolscaphelp_Changes.f
  rw [if_pos rfl]
  exact Changes_l0 cs hcs hc cs.length k 0 0 rfl (by omega) (by omega) hk
theorem Text_val (k : Nat) (l : List ByteArray) (hk : 1281 ≤ k) (hs : ∀ s ∈ l, s.size ≤ 140737488351232) :
    ∃ b, foolscaphelp_Text.f k l = some b ∧ (b = true → l ≠ [] ∧ l.length ≤ 40 ∧ total l ≤ 1200) := by
  unfold foolscaphelp_Text.f
  by_cases h : (l.length : Int) > 0
  · rw [if_pos h]
    obtain ⟨b, h1, h2⟩ := Light_val k l hk hs
    rw [h1]
    exact ⟨b, rfl, fun hb => ⟨fun e => by rw [e] at h; exact absurd h (by decide), h2 hb⟩⟩
  · rw [if_neg h]
    exact ⟨false, rfl, fun h => by cases h⟩
/-- what light tells -/
def LightC (cs : List S40) : Prop := cs.length ≤ 12 ∧ ∀ c ∈ cs, (c.f1.length ≤ 40 ∧ total c.f1 ≤ 1200) ∧ c.f2.length ≤ 40 ∧ total c.f2 ≤ 1200
/-- strings as a program may have them -/
def Sized (cs : List S40) : Prop := ∀ c ∈ cs, (∀ s ∈ c.f1, s.size ≤ 140737488351232) ∧ ∀ s ∈ c.f2, s.size ≤ 140737488351232
theorem light_l0 (cs : List S40) (hcs : cs.length ≤ 12) (hz : Sized cs) (d : Nat) : ∀ (k j : Nat) (z : Int), z = j → j ≤ cs.length → cs.length - j = d → d + 1282 ≤ k → ∃ b, foolscaplaw21_light.l0 k cs z = some b ∧ (b = true → ∀ c ∈ cs.drop j, (c.f1.length ≤ 40 ∧ total c.f1 ≤ 1200) ∧ c.f2.length ≤ 40 ∧ total c.f2 ≤ 1200) := by
  induction d with
  | zero =>
    intro k j z hz hj hd hk
    obtain ⟨k, rfl⟩ : ∃ m, k = m + 1 := ⟨k - 1, by omega⟩
    rw [foolscaplaw21_light.l0, if_neg (by omega), List.drop_eq_nil_of_le (by omega)]
    exact ⟨true, rfl, fun _ c hc => by cases hc⟩
  | succ d ih =>
    intro k j z hzj hj hd hk
    obtain ⟨k, rfl⟩ : ∃ m, k = m + 1 := ⟨k - 1, by omega⟩
    have hjl : j < cs.length := by omega
    have hs := hz _ (List.getElem_mem hjl)
    obtain ⟨b1, h1, g1⟩ := Light_val k cs[j].f1 (by omega) hs.1
    obtain ⟨b2, h2, g2⟩ := Light_val k cs[j].f2 (by omega) hs.2
    obtain ⟨b3, h3, g3⟩ := ih k (j + 1) ((j + 1 : Nat) : Int) rfl (by omega) (by omega) (by omega)
    rw [foolscaplaw21_light.l0, if_pos (by omega), if_pos (by omega), rd_40 cs j z hzj hjl, h1, Option.bind_some, wn j z hzj (by omega)]
    cases b1 with
    | false => exact ⟨false, rfl, fun h => by cases h⟩
    | true =>
      rw [if_pos rfl, h2, Option.bind_some]
      cases b2 with
      | false => exact ⟨false, rfl, fun h => by cases h⟩
      | true =>
        rw [if_pos rfl]
        refine ⟨b3, h3, fun hb => ?_⟩
        rw [List.drop_eq_getElem_cons hjl]
        intro c hc
        rcases List.mem_cons.1 hc with rfl | hc
        · exact ⟨g1 rfl, g2 rfl⟩
        · exact g3 hb c hc
theorem light_val (k : Nat) (cs : List S40) (hz : Sized cs) (hk : 1300 ≤ k) : ∃ b, foolscaplaw21_light.f k cs = some b ∧ (b = true → LightC cs) := by
  unfold foolscaplaw21_light.f
  by_cases h : (cs.length : Int) > 12
  · rw [if_pos h]; exact ⟨false, rfl, fun h => by cases h⟩
  · rw [if_neg h]
    obtain ⟨b, h1, h2⟩ := light_l0 cs (by omega) hz cs.length k 0 0 rfl (by omega) (by omega) (by omega)
    exact ⟨b, h1, fun hb => ⟨by omega, h2 hb⟩⟩
theorem Place_val (a n : Int) (hn : 0 < n) (hn2 : n ≤ 100000) : foolscaphelp_Place.f a n = some (a % n) := by
  unfold foolscaphelp_Place.f
  rw [if_neg (by omega), Int.tmod_eq_emod]
  have h0 := Int.emod_nonneg a (show n ≠ 0 by omega)
  have h1 := Int.emod_lt_of_pos a hn
  have hnn : (n.natAbs : Int) = n := by omega
  by_cases hc : 0 ≤ a ∨ n ∣ a
  · rw [if_pos hc, show ((0 : Nat) : Int) = 0 from rfl, Int.sub_zero, if_neg (by omega)]
  · rw [if_neg hc, hnn, if_pos (by omega)]
    congr 1
    rw [w_small (by omega) (by omega)]
    omega
end Go.Proofs.Ytlkmidginogehaa.Plain
