/- What is read out of arguments that are slices of strings, or structs of two ints. -/
import Derived.Test.YtlkmidginogehaaWWords
import Derived.WalkKit
import Derived.ProofKit
import Derived.OpenShut
import Derived.ShutString
import Derived.ChangeOld
import Derived.Below
import Derived.SizedLaws
import Derived.SliceStrings
import Derived.Lib.SmallJoins
namespace Go.Proofs.Ytlkmidginogehaa.RowLib
open Go.ChangeShapes Go.WideShapes Go.ChangeAt Go.RowKit Go.Proofs.YtlkmidginogehaaW.PrintWords
set_option linter.unusedVariables false
theorem weights_all {H : Type} {P : Program} {e : TypeId} : ∀ {l : List (DataW H)} {x : DataW H}, x ∈ l → ∀ n ∈ x.weights P e, n ∈ DataW.weightsAll P e l
  | y :: r, x, hx, n, hn => by
    simp only [DataW.weightsAll, List.mem_append]
    rcases List.mem_cons.1 hx with h | h
    · subst h; exact .inl hn
    · exact .inr (weights_all h n hn)
  | [], x, hx, _, _ => by simp at hx

section
variable {H : Type} {enc : TypeId × Value → H} {P : Program} {W : World}

/-- A slice of strings among the arguments: what it reads. -/
theorem open_strs {r : Reach} {base : Nat} {t e : TypeId} {ts : List TypeId} {ds : List (DataW H)} {j : Nat} {v : Value} {d : DataW H} {ps : List MemPlace}
    (hu : P.underlying t = some (.slice e)) (he : P.underlying e = some .string) (hc : P.cellsOf e = 1) (hB : P.bytesOf e = 16)
    (hsz : (DataW.weightsEach P ts ds).all (· ≤ reachBytes) = true) (ht : ts[j]? = some t) (hd : ds[j]? = some d)
    (hv : Value.okWide P W r base t v) (h : DataW.Trod enc P W 0 (fun _ => true) true t v d ps) :
    ∃ (A : Option Addr) (c : Nat) (l : List ByteArray), v = .slice A l.length c ∧ Kd.C Kd.string W A l.length l ∧ l.length ≤ c ∧ l.length * 16 ≤ 140737488351232 ∧ (∀ s ∈ l, s.size ≤ 140737488351232) := by
  obtain ⟨a, len, cap, rfl⟩ := okWide_slice hu hv
  obtain ⟨fuel, hf⟩ := h
  rcases open_strings hu he hc hf with ⟨hcs, _⟩ | ⟨x, l, c, ss, hcs, _, hl, hm, hz, hx, hcell, _⟩
  · simp [Value.cells] at hcs
    obtain ⟨rfl, rfl, rfl⟩ := hcs
    exact ⟨none, 0, [], rfl, Kd.C_of_reads (d := ByteArray.empty) ⟨rfl, by simp, fun h => absurd h (Nat.lt_irrefl 0)⟩, Nat.le_refl _, by simp, fun s hs => by simp at hs⟩
  · simp [Value.cells] at hcs
    obtain ⟨rfl, rfl, rfl⟩ := hcs
    obtain ⟨hx, _⟩ := Prod.mk.inj hx
    subst hx
    have hz' : ss.length = cap := by simpa using hz
    have hlen : (ss.take len).length = len := by rw [List.length_take]; omega
    have z := sized_slice hsz ht hd hu
    have e1 : (strs (H := H) (ss.take len)).length + (strs (H := H) (ss.drop len)).length = ss.length := by simp [strs]; omega
    rw [hB, e1] at z
    have hr : reachBytes = 140737488351232 := rfl
    unfold maxLen at hm
    refine ⟨some x, cap, ss.take len, by rw [hlen], ?_, by omega, by omega, ?_⟩
    · refine Kd.C_of_reads (d := ByteArray.empty) ⟨rfl, by omega, fun _ => ⟨x, rfl, fun j hj => ?_⟩⟩
      rw [hlen] at hj
      rw [hcell j (by omega), List.getD_eq_getElem?_getD, List.getD_eq_getElem?_getD, List.getElem?_take_of_lt hj]
    · intro s hs
      have hm1 : (.lit (.string s.data.toList) : DataW H) ∈ strs (H := H) (ss.take len) := by
        unfold strs; exact List.mem_map.2 ⟨s, hs, rfl⟩
      have hm2 := weights_all (P := P) (e := e) hm1 s.data.toList.length (by simp [DataW.weights])
      have := List.all_eq_true.1 hsz _ (DataW.weights_mem_each ht hd s.data.toList.length (by
        simp only [DataW.weights, hu]
        exact List.mem_cons_of_mem _ (List.mem_append_left _ hm2)))
      have h2 : s.data.toList.length ≤ reachBytes := by simpa using this
      rw [hr] at h2
      have h3 : s.data.toList.length = s.size := by rw [Array.length_toList]; rfl
      omega

/-- A struct of two ints among the arguments. -/
theorem open_two {r : Reach} {base : Nat} {t : TypeId} {v : Value} {d : DataW H} {ps : List MemPlace} {f0 f1 : Field}
    (hs : P.underlying t = some (.struct #[f0, f1])) (h0 : P.underlying f0.type = some (.int .i64)) (h1 : P.underlying f1.type = some (.int .i64)) (hone : Go.Deep.oneCellFields P #[f0, f1] = true) (hC : P.cellsOf t = 2)
    (hv : Value.okWide P W r base t v) (h : DataW.Trod enc P W 0 (fun _ => true) true t v d ps) :
    ∃ (a b : Int), v = .agg #[.int .i64 a, .int .i64 b] ∧ (Lit.int .i64 a).wf = true ∧ (Lit.int .i64 b).wf = true := by
  obtain ⟨c0, c1, y0, y1, m, rfl, _, _, hy0, hy1⟩ := Joins.open_agg2 hs hone hC hv h
  obtain ⟨a, e0, _, wa⟩ := DataW.trod_int h0 hy0
  obtain ⟨b, e1, _, wb⟩ := DataW.trod_int h1 hy1
  simp at e0 e1
  subst e0 e1
  exact ⟨a, b, rfl, wa, wb⟩

theorem array5 {α : Type} {cs : Array α} (h : cs.size = 5) : ∃ c0 c1 c2 c3 c4, cs = #[c0, c1, c2, c3, c4] := by
  obtain ⟨l⟩ := cs
  match l, h with
  | [c0, c1, c2, c3, c4], _ => exact ⟨c0, c1, c2, c3, c4, rfl⟩

/-- A struct of a struct of two ints, an int, a bool, an int among the arguments. -/
theorem open_move {r : Reach} {base : Nat} {t : TypeId} {v : Value} {d : DataW H} {ps : List MemPlace} {f0 f1 f2 f3 g0 g1 : Field}
    (hs : P.underlying t = some (.struct #[f0, f1, f2, f3])) (hp : P.underlying f0.type = some (.struct #[g0, g1]))
    (hg0 : P.underlying g0.type = some (.int .i64)) (hg1 : P.underlying g1.type = some (.int .i64)) (h1 : P.underlying f1.type = some (.int .i64)) (h2 : P.underlying f2.type = some .bool) (h3 : P.underlying f3.type = some (.int .i64))
    (o0 : f0.offset = 0) (o1 : f1.offset = 2) (o2 : f2.offset = 3) (o3 : f3.offset = 4) (p0 : g0.offset = 0) (p1 : g1.offset = 1)
    (ct : P.cellsOf t = 5) (c0 : P.cellsOf f0.type = 2) (c1 : P.cellsOf f1.type = 1) (c2 : P.cellsOf f2.type = 1) (c3 : P.cellsOf f3.type = 1) (e0 : P.cellsOf g0.type = 1) (e1 : P.cellsOf g1.type = 1)
    (hv : Value.okWide P W r base t v) (h : DataW.Trod enc P W 0 (fun _ => true) true t v d ps) :
    ∃ (a b m : Int) (j : Bool) (n : Int), v = .agg #[.int .i64 a, .int .i64 b, .int .i64 m, .bool j, .int .i64 n] ∧ (Lit.int .i64 a).wf = true ∧ (Lit.int .i64 b).wf = true ∧ (Lit.int .i64 m).wf = true ∧ (Lit.int .i64 n).wf = true := by
  obtain ⟨cs, rfl, hsz⟩ := okWide_struct hs hv
  obtain ⟨x0, x1, x2, x3, x4, rfl⟩ := array5 (hsz.trans ct)
  obtain ⟨fuel, hf⟩ := h
  obtain ⟨y0, y1, y2, y3, n, _, _, k0, k1, k2, k3⟩ := Joins.trod_struct4 hs hf
  rw [o0, c0] at k0
  rw [o1, c1] at k1
  rw [o2, c2] at k2
  rw [o3, c3] at k3
  simp [Value.cells] at k0 k1 k2 k3
  obtain ⟨z0, z1, n', _, _, q0, q1⟩ := trod_struct2 hp k0
  rw [p0, e0] at q0
  rw [p1, e1] at q1
  simp at q0 q1
  obtain ⟨a, ea, _, wa⟩ := DataW.trod_int hg0 q0
  obtain ⟨b, eb, _, wb⟩ := DataW.trod_int hg1 q1
  obtain ⟨m, em, _, wm⟩ := DataW.trod_int h1 k1
  obtain ⟨j, ej, _⟩ := DataW.trod_bool h2 k2
  obtain ⟨c, ec, _, wc⟩ := DataW.trod_int h3 k3
  simp at ea eb em ej ec
  subst ea eb em ej ec
  exact ⟨a, b, m, j, c, rfl, wa, wb, wm, wc⟩
end
end Go.Proofs.Ytlkmidginogehaa.RowLib
