/- A slice of changes (a struct of an int and two slices of strings) among the arguments: what it reads. -/
import Derived.Test.YtlkmidginogehaaExtQ
import Derived.WalkKit
import Derived.ProofKit
import Derived.OpenShut
import Derived.ShutString
import Derived.ChangeOld
import Derived.Below
import Derived.SizedLaws
import Derived.SliceStrings
import Derived.Lib.SmallJoins
import Derived.Deep.Strs
namespace Go.Proofs.Ytlkmidginogehaa.Plain
open Go.ChangeShapes Go.WideShapes Go.ChangeAt Go.RowKit Go.Proofs.YtlkmidginogehaaW.PrintWords Go.Proofs.YtlkmidginogehaaW.PrintLast Go.Proofs.YtlkmidginogehaaW.PrintMore
open Go.Proofs.Ytlkmidginogehaa.MChange Go.Proofs.Ytlkmidginogehaa.Ext
set_option linter.unusedVariables false
theorem weights_in {H : Type} {P : Program} {e : TypeId} : ∀ {l : List (DataW H)} {x : DataW H}, x ∈ l → ∀ n ∈ x.weights P e, n ∈ DataW.weightsAll P e l
  | y :: r, x, hx, n, hn => by
    simp only [DataW.weightsAll, List.mem_append]
    rcases List.mem_cons.1 hx with h | h
    · subst h; exact .inl hn
    · exact .inr (weights_in h n hn)
  | [], x, hx, _, _ => by simp at hx
section
variable {H : Type} {enc : TypeId × Value → H} {P : Program} {W : World}
theorem strs_in {t e : TypeId} {fuel : Nat} {cs : List Value} {x : DataW H × List MemPlace} (hu : P.underlying t = some (.slice e)) (he : P.underlying e = some .string) (hc : P.cellsOf e = 1)
    (h : DataW.trod enc P W 0 (fun _ => true) true fuel t cs = some x) (hw : ∀ n ∈ x.1.weights P t, n ≤ reachBytes) :
    ∃ (A : Option Addr) (c : Nat) (l : List ByteArray), cs = [.slice A l.length c] ∧ Kd.C Kd.string W A l.length l ∧ l.length ≤ c ∧ (∀ s ∈ l, s.size ≤ 140737488351232) := by
  rcases open_strings hu he hc h with ⟨hcs, _⟩ | ⟨a, len, cap, ss, hcs, _, hl, hm, hz, hx, hcell, _⟩
  · exact ⟨none, 0, [], hcs, Kd.C_of_reads (d := ByteArray.empty) ⟨rfl, by simp, fun h => absurd h (Nat.lt_irrefl 0)⟩, Nat.le_refl _, fun s hs => by simp at hs⟩
  · subst hx
    have hz' : ss.length = cap := by simpa using hz
    have hlen : (ss.take len).length = len := by rw [List.length_take]; omega
    have hr : reachBytes = 140737488351232 := rfl
    unfold maxLen at hm
    refine ⟨some a, cap, ss.take len, by rw [hlen]; exact hcs, ?_, by omega, ?_⟩
    · refine Kd.C_of_reads (d := ByteArray.empty) ⟨rfl, by omega, fun _ => ⟨a, rfl, fun j hj => ?_⟩⟩
      rw [hlen] at hj
      rw [hcell j (by omega), List.getD_eq_getElem?_getD, List.getD_eq_getElem?_getD, List.getElem?_take_of_lt hj]
    · intro s hs
      have hm1 : (.lit (.string s.data.toList) : DataW H) ∈ strs (H := H) (ss.take len) := by
        unfold strs; exact List.mem_map.2 ⟨s, hs, rfl⟩
      have hm2 := weights_in (P := P) (e := e) hm1 s.data.toList.length (by simp [DataW.weights])
      have h2 := hw s.data.toList.length (by
        simp only [DataW.weights, hu]
        exact List.mem_cons_of_mem _ (List.mem_append_left _ hm2))
      rw [hr] at h2
      have h3 : s.data.toList.length = s.size := by rw [Array.length_toList]; rfl
      omega
theorem cells?_each {base : Nat} {a : Addr} {n : Nat} {cs : List Value} (h : W.cells? base a n = some cs) : cs.length = n ∧ ∀ i u, cs[i]? = some u → W.cell? (a.add i) = some u := by
  unfold World.cells? at h
  split at h
  · have hm : ∀ (l : List Nat) (cs : List Value), (l.mapM fun i => W.cell? (a.add i)) = some cs → cs.length = l.length ∧ ∀ (i : Nat) (u : Value), cs[i]? = some u → ∃ k : Nat, l[i]? = some k ∧ W.cell? (a.add k) = some u := by
      intro l
      induction l with
      | nil => intro cs h; simp at h; subst h; exact ⟨rfl, fun i u h => by simp at h⟩
      | cons k l ih =>
        intro cs h
        rw [List.mapM_cons] at h
        simp only [Option.bind_eq_bind, Option.bind_eq_some_iff] at h
        obtain ⟨v, hv, vs, hvs, h⟩ := h
        obtain rfl : v :: vs = cs := by simpa using h
        obtain ⟨h1, h2⟩ := ih vs hvs
        refine ⟨by simp [h1], fun i u hi => ?_⟩
        cases i with
        | zero => simp at hi; subst hi; exact ⟨k, rfl, hv⟩
        | succ i => simpa using h2 i u (by simpa using hi)
    obtain ⟨h1, h2⟩ := hm _ _ h
    rw [List.length_range] at h1
    refine ⟨h1, fun i u hi => ?_⟩
    obtain ⟨k, hk, hc⟩ := h2 i u hi
    obtain ⟨hk1, hk2⟩ := List.getElem?_eq_some_iff.1 hk
    simp at hk2
    rw [hk2]; exact hc
  · cases h
theorem array3 {cs : List Value} (h : cs.length = 3) : ∃ c0 c1 c2, cs = [c0, c1, c2] := by
  match cs, h with
  | [c0, c1, c2], _ => exact ⟨c0, c1, c2, rfl⟩
theorem change_in {t : TypeId} {f0 f1 f2 : Field} {e9 : TypeId} {fuel : Nat} {cs : List Value} {x : DataW H × List MemPlace}
    (hs : P.underlying t = some (.struct #[f0, f1, f2])) (h0 : P.underlying f0.type = some (.int .i64)) (h1 : P.underlying f1.type = some (.slice e9)) (h2 : P.underlying f2.type = some (.slice e9)) (he : P.underlying e9 = some .string) (hc : P.cellsOf e9 = 1)
    (o0 : f0.offset = 0) (o1 : f1.offset = 1) (o2 : f2.offset = 2) (c0 : P.cellsOf f0.type = 1) (c1 : P.cellsOf f1.type = 1) (c2 : P.cellsOf f2.type = 1) (ct : P.cellsOf t = 3)
    (h : DataW.trod enc P W 0 (fun _ => true) true fuel t cs = some x) (hw : ∀ n ∈ x.1.weights P t, n ≤ reachBytes) :
    ∃ c : S40, k40.K W c cs ∧ (∀ s ∈ c.f1, s.size ≤ 140737488351232) ∧ ∀ s ∈ c.f2, s.size ≤ 140737488351232 := by
  obtain ⟨y0, y1, y2, n, hx, hl, k0, k1, k2⟩ := Go.Deep.trod_struct3 hs h
  rw [ct] at hl
  obtain ⟨x0, x1, x2, rfl⟩ := array3 hl
  rw [o0, c0] at k0
  rw [o1, c1] at k1
  rw [o2, c2] at k2
  simp at k0 k1 k2
  have hww : ∀ n ∈ DataW.weightsEach P [f0.type, f1.type, f2.type] [y0.1, y1.1, y2.1], n ≤ reachBytes := by
    intro n hn
    refine hw n ?_
    rw [hx]
    simp only [DataW.weights, hs]
    exact hn
  simp only [DataW.weightsEach, List.mem_append] at hww
  obtain ⟨a, e0, _, wa⟩ := DataW.trod_int h0 k0
  obtain ⟨A1, q1, l1, e1, g1, m1, s1⟩ := strs_in h1 he hc k1 (fun n hn => hww n (.inr (.inl hn)))
  obtain ⟨A2, q2, l2, e2, g2, m2, s2⟩ := strs_in h2 he hc k2 (fun n hn => hww n (.inr (.inr (.inl hn))))
  simp at e0 e1 e2
  subst e0 e1 e2
  exact ⟨⟨a, l1, l2⟩, k40_mk W ⟨a, l1, l2⟩ m1 g1 m2 g2, s1, s2⟩

/-- the changes among the arguments -/
theorem open_chs {r : Reach} {base : Nat} {t e : TypeId} {ts : List TypeId} {ds : List (DataW H)} {j : Nat} {v : Value} {d : DataW H} {ps : List MemPlace} {f0 f1 f2 : Field} {e9 : TypeId}
    (hu : P.underlying t = some (.slice e)) (hs : P.underlying e = some (.struct #[f0, f1, f2])) (h0 : P.underlying f0.type = some (.int .i64)) (h1 : P.underlying f1.type = some (.slice e9)) (h2 : P.underlying f2.type = some (.slice e9)) (he : P.underlying e9 = some .string) (hc : P.cellsOf e9 = 1)
    (o0 : f0.offset = 0) (o1 : f1.offset = 1) (o2 : f2.offset = 2) (c0 : P.cellsOf f0.type = 1) (c1 : P.cellsOf f1.type = 1) (c2 : P.cellsOf f2.type = 1) (ct : P.cellsOf e = 3)
    (hsz : (DataW.weightsEach P ts ds).all (· ≤ reachBytes) = true) (ht : ts[j]? = some t) (hd : ds[j]? = some d)
    (hv : Value.okWide P W r base t v) (h : DataW.Trod enc P W 0 (fun _ => true) true t v d ps) :
    ∃ (A : Option Addr) (c : Nat) (l : List S40), v = .slice A l.length c ∧ Kd.C k40 W A l.length l ∧ l.length ≤ c ∧ l.length ≤ c ∧ Sized l := by
  obtain ⟨a, len, cap, rfl⟩ := okWide_slice hu hv
  obtain ⟨fuel, hf⟩ := h
  have hwd : ∀ n ∈ d.weights P t, n ≤ reachBytes := fun n hn => by
    have := List.all_eq_true.1 hsz _ (DataW.weights_mem_each ht hd n hn)
    simpa using this
  rcases DataW.trod_slice hu hf with ⟨hcs, _⟩ | ⟨x, l, c, elems, rest, n, _, hcs, hx, hb, hl, hm, hlen, hel, _, _⟩
  · simp [Value.cells] at hcs
    obtain ⟨rfl, rfl, rfl⟩ := hcs
    exact ⟨none, 0, [], rfl, ⟨rfl, by simp, fun h => absurd h (Nat.lt_irrefl 0)⟩, Nat.le_refl _, Nat.le_refl _, fun c hc => by cases hc⟩
  · simp [Value.cells] at hcs
    obtain ⟨rfl, rfl, rfl⟩ := hcs
    obtain ⟨hx, _⟩ := Prod.mk.inj hx
    subst hx
    have each : ∀ i, i < elems.length → ∃ (ch : S40) (cc : List Value), W.cells? 0 (x.add (i * 3)) 3 = some cc ∧ k40.K W ch cc ∧ (∀ s ∈ ch.f1, s.size ≤ 140737488351232) ∧ ∀ s ∈ ch.f2, s.size ≤ 140737488351232 := by
      intro i hi
      have h1' := hel i (by omega)
      rw [ct, List.getElem?_eq_getElem hi, Option.bind_eq_some_iff] at h1'
      obtain ⟨cc, hcc, hy⟩ := h1'
      obtain ⟨ch, g1, g2, g3⟩ := change_in hs h0 h1 h2 he hc o0 o1 o2 c0 c1 c2 ct hy (fun n hn => hwd n (by
        simp only [DataW.weights, hu]
        refine List.mem_cons_of_mem _ (List.mem_append_left _ (weights_in (List.mem_map.2 ⟨_, List.getElem_mem hi, rfl⟩) n hn))))
      exact ⟨ch, cc, hcc, g1, g2, g3⟩
    have hall : ∀ m, m ≤ elems.length → ∃ L : List S40, L.length = m ∧ ∀ i ch, L[i]? = some ch → ∃ cc, W.cells? 0 (x.add (i * 3)) 3 = some cc ∧ k40.K W ch cc ∧ (∀ s ∈ ch.f1, s.size ≤ 140737488351232) ∧ ∀ s ∈ ch.f2, s.size ≤ 140737488351232 := by
      intro m
      induction m with
      | zero => intro _; exact ⟨[], rfl, fun i ch h => by simp at h⟩
      | succ m ih =>
        intro hm1
        obtain ⟨L, hL, hLe⟩ := ih (by omega)
        obtain ⟨ch, cc, g⟩ := each m (by omega)
        refine ⟨L ++ [ch], by simp [hL], fun i c' hi => ?_⟩
        by_cases him : i < L.length
        · rw [List.getElem?_append_left him] at hi; exact hLe i c' hi
        · rw [List.getElem?_append_right (by omega)] at hi
          obtain ⟨q, q2⟩ := List.getElem?_eq_some_iff.1 hi
          simp only [List.length_cons, List.length_nil] at q
          obtain rfl : i = m := by omega
          simp [hL] at q2
          subst q2
          exact ⟨cc, g⟩
    obtain ⟨L, hL, hLe⟩ := hall elems.length (Nat.le_refl _)
    unfold maxLen at hm
    refine ⟨some x, cap, L, by rw [hL, hlen], ⟨rfl, by omega, fun _ => ⟨x, rfl, fun i p hp => ?_⟩⟩, by omega, by omega, fun c' hc' => ?_⟩
    · obtain ⟨cc, q1, q2, _⟩ := hLe i p hp
      obtain ⟨z1, z2⟩ := cells?_each q1
      refine ⟨cc, z1, q2, fun u w' hu' => ?_⟩
      have := z2 u w' hu'
      have hadd : (x.add (i * 3)).add u = x.add (i * 3 + u) := by
        unfold Addr.add
        by_cases q0 : i * 3 = 0
        · rw [if_pos q0, q0, Nat.zero_add]
        · by_cases q1 : u = 0
          · rw [if_pos q1, q1, Nat.add_zero]
          · rw [if_neg q1, if_neg (show ¬ (i * 3 + u = 0) by omega), if_neg q0]
            simp [Nat.add_assoc]
      rw [hadd] at this
      exact this
    · obtain ⟨i, hi⟩ := List.getElem?_of_mem hc'
      obtain ⟨_, _, _, q⟩ := hLe i c' hi
      exact q
end
end Go.Proofs.Ytlkmidginogehaa.Plain
