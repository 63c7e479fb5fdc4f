/- slices.Backward over []Change: what its iterator tells; change.Inverse's contract. -/
import Derived.Test.YtlkmidginogehaaExtC
import Derived.Test.YtlkmidginogehaaExtV
import Derived.Test.YtlkmidginogehaaMChangex0
set_option linter.unusedVariables false
set_option linter.unusedSimpArgs false
namespace Go.Proofs.Ytlkmidginogehaa.Ext
open Go.RowKit Go.Shelf Go.Proofs Go.Proofs.YtlkmidginogehaaW.PrintWords
open Go.Proofs.Ytlkmidginogehaa.MChange (S40 z40 k40 k40_open k40_openM k40_mk k40_mkM rd_T40 at_T40 info40)
attribute [local go_sem] Oper.semAt_some
theorem wide_fn (f : FuncId) : Fence.wide.fn f = True := rfl
attribute [local go_sem] wide_fn

/-- the indices from behind, so many -/
def told (n : Nat) : Nat → List (Fin n)
  | 0 => []
  | k + 1 => told n k ++ (if h : n - 1 - k < n then [⟨n - 1 - k, h⟩] else [])
theorem told_length (n : Nat) : ∀ k, k ≤ n → (told n k).length = k
  | 0, _ => rfl
  | k + 1, h => by
    unfold told
    rw [dif_pos (by omega), List.length_append, told_length n k (by omega)]; rfl
theorem told_map {α : Type} (xs : List α) : ∀ k, k ≤ xs.length → (told xs.length k).map (fun i => xs[i]) = (xs.drop (xs.length - k)).reverse
  | 0, _ => by rw [Nat.sub_zero, List.drop_length]; rfl
  | k + 1, h => by
    unfold told
    rw [dif_pos (by omega), List.map_append, told_map xs k (by omega), List.drop_eq_getElem_cons (show xs.length - (k + 1) < xs.length by omega), List.reverse_cons]
    have e : xs.length - (k + 1) + 1 = xs.length - k := by omega
    rw [e]
    congr 1
    show [xs[xs.length - 1 - k]] = [xs[xs.length - (k + 1)]]
    have e2 : xs.length - 1 - k = xs.length - (k + 1) := by omega
    simp only [e2]

/-- a change's three cells, wherever the memory that was there then is as it was -/
def Cells3 (w : World) (p : Addr) (at_ : Int) (v1 v2 : Value) : Prop := w.cell? p = some (.int .i64 at_) ∧ w.cell? ⟨p.block, p.off + 1, none⟩ = some v1 ∧ w.cell? ⟨p.block, p.off + 2, none⟩ = some v2
/-- what i tells: itself and its change -/
def encB (xs : List S40) (vf : Nat → Value × Value) (x : Fin xs.length) : Array Value := #[.int .i64 (x.1 : Int), .agg #[.int .i64 xs[x].f0, (vf x.1).1, (vf x.1).2]]
/-- what a round keeps -/
def KpB (n₀ Bl : Nat) (v : Value) (W W' : World) : Prop := Below n₀ W W' ∧ (Boxed W Bl 23 v → Boxed W' Bl 23 v)
theorem below_of_drew {B : Nat} {w W : World} (h : Below B w.drew W) : Below B w W := ⟨h.os, h.tape, h.output, h.size, h.block⟩

set_option maxRecDepth 100000 in
set_option maxHeartbeats 2000000 in
theorem back_in (xs : List S40) (n : Nat) (hn : 1 ≤ n) (l Bl : Nat) (w : World) (A : Option Addr) (ad : Addr) (hA : 0 < xs.length → A = some ad) (c : Nat) (hx : xs.length ≤ 100000) (vf : Nat → Value × Value)
    (hvf : ∀ (i : Nat) (hi : i < xs.length), Cells3 w (ad.add (i * 3)) (xs[i]).f0 (vf i).1 (vf i).2)
    (J Jx : List (Fin xs.length) → World → Prop) (W : World)
    (hY : ∀ pre x W1, J pre W1 → pre.length < xs.length → YieldAt Fence.wide (n - 1) Try.prog l (encB xs vf x) W1 fun e W' =>
      (e = .returned (.bool true) ∧ J (pre ++ [x]) W' ∧ KpB w.heap.size Bl (.slice A xs.length c) W1 W') ∨ (e = .returned (.bool false) ∧ Jx (pre ++ [x]) W'))
    (hBl : Boxed W Bl 23 (.slice A xs.length c)) (hb : Below w.heap.size w W) (h0 : J [] W) :
    CallsIn Fence.wide n Try.prog 31 #[.func (.yield l) #[] #[], .pointer (some ⟨Bl, 0, none⟩)] W fun e W' => (∃ v, e = .returned v) ∧
      ((∃ ys, ys = told xs.length xs.length ∧ J ys W') ∨ (∃ pre, True ∧ Jx pre W')) := by
  have hcl := hBl.cell
  have hY2 : ∀ pre x X, J pre X → pre.length < xs.length → YieldAt Fence.wide (n - 1) Try.prog l (encB xs vf x) X fun e W' =>
      ∃ b : Bool, e = .returned (.bool b) ∧ (b = true → J (pre ++ [x]) W' ∧ KpB w.heap.size Bl (.slice A xs.length c) X W') ∧ (b = false → Jx (pre ++ [x]) W') := fun pre x X hj hlt =>
    (hY pre x _ hj hlt).mono fun e W' h => by
      rcases h with ⟨he, h1, h2⟩ | ⟨he, h1⟩
      · exact ⟨true, he, fun _ => ⟨h1, h2⟩, fun h => by cases h⟩
      · exact ⟨false, he, fun h => (by cases h), fun _ => h1⟩
  clear hY
  have hlen : wrap64 ((xs.length : Int) - 1) = (xs.length : Int) - 1 := by unfold wrap64; omega
  refine callsIn_of_wp Try.func31 rfl trivial ?_ rfl
  simp only [Try.ntmps31, List.size_toArray, List.length_cons, List.length_nil, Nat.reduceAdd, Nat.reduceSub, Array.replicate_succ, Array.replicate_zero, List.push_toArray, List.append_toArray, List.nil_append, List.cons_append]
  gi_wp2
  gi_loopw [3] (fun v wr => ∃ (k : Nat) (z : Int), z = (k : Int) - 1 ∧ k ≤ xs.length ∧ v = .int .i64 z ∧ J (told xs.length (xs.length - k)) wr ∧ Boxed wr Bl 23 (.slice A xs.length c) ∧ Below w.heap.size w wr)
    (fun v _ => (intOf v + 1).toNat)
  case atStart => exact ⟨xs.length, _, rfl, Nat.le_refl _, by first | rfl | simp [*], by rw [Nat.sub_self]; exact h0, hBl, hb⟩
  case round =>
    clear hcl hBl hb h0 hlen
    obtain ⟨k, z, hz, hk, rfl, hJs, hbx, hbl⟩ := hrel
    have hcl := hbx.cell
    cases k with
    | zero =>
      have hz0 : decide (z ≥ 0) = false := decide_eq_false (by omega)
      gi_wp2
      first | go_end0 | refine bodyPost_ret (results_none rfl _ _ _) rfl ?_
      exact ⟨⟨_, rfl⟩, .inl ⟨_, rfl, hJs⟩⟩
    | succ k =>
      have hz0 : decide (z ≥ 0) = true := decide_eq_true (by omega)
      have hzk : z = (k : Int) := by omega
      subst hzk
      clear hz
      obtain rfl := hA (by omega)
      have hkl : k < xs.length := by omega
      have hkl2 : (k : Int) < (xs.length : Int) := by omega
      have hkl3 : (0 : Int) ≤ (k : Int) := by omega
      have ht : told xs.length (xs.length - k) = told xs.length (xs.length - (k + 1)) ++ [⟨k, hkl⟩] := by
        have e : xs.length - k = (xs.length - (k + 1)) + 1 := by omega
        rw [e]
        show told _ _ ++ _ = _
        have e2 : xs.length - 1 - (xs.length - (k + 1)) = k := by omega
        rw [dif_pos (by omega)]
        congr 2
        exact Fin.ext e2
      have hlt : (told xs.length (xs.length - (k + 1))).length < xs.length := by rw [told_length _ _ (by omega)]; omega
      obtain ⟨p0, p1, p2⟩ := hvf k hkl
      have q0 := pw_cell_below hbl p0
      have q1 := pw_cell_below hbl p1
      have q2 := pw_cell_below hbl p2
      clear p0 p1 p2
      obtain ⟨fn, tmps, assign, body, hy, hR⟩ := hY2 _ ⟨k, hkl⟩ wr hJs hlt
      simp only [encB] at hy
      have e3 : (xs[(⟨k, hkl⟩ : Fin xs.length)]).f0 = (xs[k]).f0 := rfl
      rw [e3] at hy
      obtain ⟨x0, hx0⟩ : ∃ x0, (xs[k]).f0 = x0 := ⟨_, rfl⟩
      obtain ⟨u1, hu1⟩ : ∃ u1, (vf k).1 = u1 := ⟨_, rfl⟩
      obtain ⟨u2, hu2⟩ : ∃ u2, (vf k).2 = u2 := ⟨_, rfl⟩
      rw [hx0] at q0 hy
      rw [hu1] at q1 hy
      rw [hu2] at q2 hy
      clear hx0 hu1 hu2 e3
      have HT := Go.Lib.hid ht
      clear ht
      gi_wp2_with (refine hR.mono ?_; rintro e W3 ⟨b, rfl, hb1, hb2⟩)
      · have hbf : b = false := by cases b <;> simp_all
        refine bodyPost_ret (results_none rfl _ _ _) rfl ?_
        exact ⟨⟨_, rfl⟩, .inr ⟨_, trivial, hb2 hbf⟩⟩
      · have hbt : b = true := by cases b <;> simp_all
        obtain ⟨hJ3, hk3⟩ := hb1 hbt
        exact ⟨⟨k, (k : Int) - 1, rfl, by omega, rfl, by rw [HT.out]; exact hJ3, hk3.2 hbx, hbl.trans hk3.1⟩, by simp [intOf]⟩
section
variable {F : Fence} {n : Nat} {P : Program} {ops : Array Oper} {rest : List Oper} {o : Oper} {a : Act} {Q : Exit → Act → World → Prop} {α : Type}
/-- append(v, x) within a round -/
theorem R_append_in (d : Kd α) {W : World} (base : Nat) (hgd : o.guard = none) (s x : Operand) (t e : TypeId) (z : Value) (bytes : Nat)
    (ho : o.op = .call { callee := .builtin .append, args := #[s, x], argTypes := #[t, t] })
    (ht : P.underlying t = some (.slice e)) (hinfo : (P.info? e).map (fun i => (i.zero, i.size, i.bytes)) = some (some z, d.sz, bytes)) (hz : z.cells.size = d.sz) (hs0 : 0 < d.sz) (hb0 : 0 < bytes)
    (v : Value) (xs : List α) (p : α) (cs : List Value) (ok okp : Nat → Prop) (hs : a.eval s = v) (hx : a.eval x = .slice (some ⟨W.heap.size, 0, none⟩) 1 1) (hp : d.M W base okp p cs) (hokp : ∀ k, okp k → ok k ∧ some k ≠ v.ownBlock) (hfresh : ∀ k, W.heap.size ≤ k → ok k)
    (HO : d.R e W base ok v xs) (hbase : base ≤ W.heap.size) (hl : (xs.length + 1) * bytes ≤ 140737488355328)
    (h : ∀ g cap w1, d.R e w1 base ok (.slice (some ⟨g, 0, none⟩) (xs.length + 1) cap) (xs ++ [p]) → W.grownBy w1 v.ownBlock → ((Value.slice (some ⟨g, 0, none⟩) (xs.length + 1) cap).ownBlock = v.ownBlock ∨ ∃ b, (Value.slice (some ⟨g, 0, none⟩) (xs.length + 1) cap).ownBlock = some b ∧ W.heap.size ≤ b) → wpListIn F n P ops Q rest (a.put o.dst (.slice (some ⟨g, 0, none⟩) (xs.length + 1) cap)) w1) :
    wpListIn F n P ops Q (o :: rest) a (W.alloc (.cells cs.toArray e)) := by
  obtain ⟨h0, inner, hown, hr⟩ := HO
  obtain ⟨i0, hi, hzz⟩ := Option.map_eq_some_iff.1 hinfo
  simp only [Prod.mk.injEq] at hzz
  obtain ⟨hz0, hz1, hz2⟩ := hzz
  have hlen : xs.length + 1 ≤ 140737488355328 := Nat.le_trans (Nat.le_mul_of_pos_right _ hb0) hl
  have hys : cs.length = d.sz := d.K_len (d.K_of_M hp)
  refine wpListIn_plain hgd fun K hK' => ?_
  obtain ⟨v', w', hrun, r1, r2, _, r4⟩ := run_append_own_at (P := P) (W.alloc (.cells cs.toArray e)) base t o.type e i0 z d.sz bytes ht hi hz0 hz1 hz2 hz hs0 v xs.length inner (hown.alloc _) ⟨W.heap.size, 0, none⟩ 1 1 cs (by rw [hys]; simp)
    (by simpa using World.news_of_block (cs := cs.toArray) (t := e) (fr := (0, 0)) (heap_alloc_new W (.cells cs.toArray e))) (d.K_one (d.K_of_M hp)) (by simp only [maxLen]; omega) hl (by simp; omega)
  unfold Oper.wpIn
  refine ⟨?_, ?_⟩
  · simp [Oper.about, ho, resolve, Target.leads, Sem.run_pure]
  · rw [Oper.semAt_plain F _ _ (by rw [ho]; intro c hc'; cases hc')]
    simp [execOp, ho, resolve, invoke, builtin, hs, hx, hrun, Result.andThen]
    have hat : v'.ownBlock = v.ownBlock ∨ ∃ b, v'.ownBlock = some b ∧ W.heap.size ≤ b := by
      rcases r4 with r4 | r4
      · exact .inl r4
      · exact .inr ⟨_, r4, by simp⟩
    have hg : W.grownBy w' v.ownBlock := World.grownBy.trans (World.grownBy_alloc W _ _) r2
    have hR := Kd.R_appended h0 hr hp hokp hfresh r1 hg hat
    obtain ⟨g, cap, hv⟩ := ownsRow_succ r1
    subst hv
    exact hK' _ _ (h g cap w' hR hg hat)
/-- append(v, x), as one operation of a round -/
theorem R_append_op (d : Kd α) {W : World} {K : Act → World → Prop} (base : Nat) (s x : Operand) (t e : TypeId) (z : Value) (bytes : Nat)
    (ho : o.op = .call { callee := .builtin .append, args := #[s, x], argTypes := #[t, t] })
    (ht : P.underlying t = some (.slice e)) (hinfo : (P.info? e).map (fun i => (i.zero, i.size, i.bytes)) = some (some z, d.sz, bytes)) (hz : z.cells.size = d.sz) (hs0 : 0 < d.sz) (hb0 : 0 < bytes)
    (v : Value) (xs : List α) (p : α) (cs : List Value) (ok okp : Nat → Prop) (hs : a.eval s = v) (hx : a.eval x = .slice (some ⟨W.heap.size, 0, none⟩) 1 1) (hp : d.M W base okp p cs) (hokp : ∀ k, okp k → ok k ∧ some k ≠ v.ownBlock) (hfresh : ∀ k, W.heap.size ≤ k → ok k)
    (HO : d.R e W base ok v xs) (hbase : base ≤ W.heap.size) (hl : (xs.length + 1) * bytes ≤ 140737488355328)
    (h : ∀ g cap w1, d.R e w1 base ok (.slice (some ⟨g, 0, none⟩) (xs.length + 1) cap) (xs ++ [p]) → W.grownBy w1 v.ownBlock → ((Value.slice (some ⟨g, 0, none⟩) (xs.length + 1) cap).ownBlock = v.ownBlock ∨ ∃ b, (Value.slice (some ⟨g, 0, none⟩) (xs.length + 1) cap).ownBlock = some b ∧ W.heap.size ≤ b) → K (a.put o.dst (.slice (some ⟨g, 0, none⟩) (xs.length + 1) cap)) w1) :
    Oper.wpIn F n P o a (W.alloc (.cells cs.toArray e)) K Q := by
  obtain ⟨h0, inner, hown, hr⟩ := HO
  obtain ⟨i0, hi, hzz⟩ := Option.map_eq_some_iff.1 hinfo
  simp only [Prod.mk.injEq] at hzz
  obtain ⟨hz0, hz1, hz2⟩ := hzz
  have hlen : xs.length + 1 ≤ 140737488355328 := Nat.le_trans (Nat.le_mul_of_pos_right _ hb0) hl
  have hys : cs.length = d.sz := d.K_len (d.K_of_M hp)
  obtain ⟨v', w', hrun, r1, r2, _, r4⟩ := run_append_own_at (P := P) (W.alloc (.cells cs.toArray e)) base t o.type e i0 z d.sz bytes ht hi hz0 hz1 hz2 hz hs0 v xs.length inner (hown.alloc _) ⟨W.heap.size, 0, none⟩ 1 1 cs (by rw [hys]; simp)
    (by simpa using World.news_of_block (cs := cs.toArray) (t := e) (fr := (0, 0)) (heap_alloc_new W (.cells cs.toArray e))) (d.K_one (d.K_of_M hp)) (by simp only [maxLen]; omega) hl (by simp; omega)
  unfold Oper.wpIn
  refine ⟨?_, ?_⟩
  · simp [Oper.about, ho, resolve, Target.leads, Sem.run_pure]
  · rw [Oper.semAt_plain F _ _ (by rw [ho]; intro c hc'; cases hc')]
    simp [execOp, ho, resolve, invoke, builtin, hs, hx, hrun, Result.andThen]
    have hat : v'.ownBlock = v.ownBlock ∨ ∃ b, v'.ownBlock = some b ∧ W.heap.size ≤ b := by
      rcases r4 with r4 | r4
      · exact .inl r4
      · exact .inr ⟨_, r4, by simp⟩
    have hg : W.grownBy w' v.ownBlock := World.grownBy.trans (World.grownBy_alloc W _ _) r2
    have hR := Kd.R_appended h0 hr hp hokp hfresh r1 hg hat
    obtain ⟨g, cap, hv⟩ := ownsRow_succ r1
    subst hv
    exact h g cap w' hR hg hat
end

theorem backward_calls (A : Option Addr) (c m : Nat) (w : World) :
    Calls Try.prog 27 #[.slice A m c] w fun e w' => e = .returned (.func (.func 31) #[] #[.pointer (some ⟨w.heap.size, 0, none⟩)]) ∧ w' = w.alloc (.cells #[.slice A m c] 23) := by
  go_enter Try.func27, Try.ntmps27
  go_wp2
  go_ret
  exact ⟨rfl, rfl⟩
theorem kpB_t {n₀ Bl : Nat} {v : Value} {A B C : World} (h : KpB n₀ Bl v A B) (h' : KpB n₀ Bl v B C) : KpB n₀ Bl v A C := ⟨h.1.trans h'.1, fun b => h'.2 (h.2 b)⟩
theorem kpB_b {n₀ Bl : Nat} {v : Value} {w : World} (hn : n₀ ≤ w.heap.size) (W : World) (l : Nat) (o o' : Obj) (hl : w.heap.size ≤ l) (ho : W.heap[l]? = some o) (hc : o.isCells = false) (hw : o.isWalk = false) : KpB n₀ Bl v W (W.putObj l o') :=
  ⟨belowK_b hn W l o o' hl ho hc hw, fun b => boxed_own Bl 23 (fun (_ : Unit) => v) () W _ (some l) b (grownBy_putObj' W l o') (fun r e => by cases e; exact ⟨o, ho, hc⟩)⟩
theorem back_stops (xs : List S40) (n : Nat) (hn : 1 ≤ n) (Bl : Nat) (w w0 : World) (A : Option Addr) (ad : Addr) (hA : 0 < xs.length → A = some ad) (c : Nat) (hx : xs.length ≤ 100000) (vf : Nat → Value × Value)
    (hvf : ∀ (i : Nat) (hi : i < xs.length), Cells3 w (ad.add (i * 3)) (xs[i]).f0 (vf i).1 (vf i).2) (hBl : Boxed w0 Bl 23 (.slice A xs.length c)) (hb : Below w.heap.size w w0) :
    SeqStopsK Fence.wide n Try.prog 31 #[.pointer (some ⟨Bl, 0, none⟩)] (encB xs vf) (KpB w.heap.size Bl (.slice A xs.length c)) (fun ys => ys = told xs.length xs.length) (fun _ => True) xs.length w0 :=
  fun l J Jx W hW hJ hJx hY h0 => back_in xs n hn l Bl w A ad hA c hx vf hvf J Jx W hY ((hW.block _ hBl.lt).trans hBl) (hb.trans (hW.mono hb.size)) h0

/-- out's box -/
def Solo (W : World) (N Bo : Nat) (l : List S40) : Prop := ∃ v : Value, Boxed W Bo 23 v ∧ k40.R 40 W N (fun _ => True) v l
theorem R_apart_row {W W' : World} {row : Option Nat} {base : Nat} {ok : Nat → Prop} {v : Value} {l : List S40} (h : k40.R 40 W base ok v l) (hg : W.grownBy W' row) (hr : ∀ r, row = some r → ∃ o : Obj, W.heap[r]? = some o ∧ o.isCells = false) : k40.R 40 W' base ok v l :=
  Kd.R_mono (Kd.R_grown (Kd.R_bound h) hg (fun k hk e => by
    obtain ⟨o, ho, hc⟩ := hr k e.symm
    obtain ⟨_, _, _, q, _, cells, hq⟩ := hk
    rw [hq] at ho; cases ho; cases hc)) (fun _ h => h.1)
theorem Solo.below {W W' : World} {N Bo : Nat} {l : List S40} (h : Solo W N Bo l) (hb : Below W.heap.size W W') : Solo W' N Bo l := by
  obtain ⟨v, h1, r1⟩ := h
  exact ⟨v, (hb.block _ h1.lt).trans h1, Kd.R_below r1 hb⟩
theorem Solo.own {β : Type} (N Bo : Nat) (f : β → List S40) : Own (fun s W => Solo W N Bo (f s)) := by
  rintro s W W' row ⟨v, h1, r1⟩ hg hr
  exact ⟨v, boxed_own Bo 23 (fun (_ : Unit) => v) () W W' row h1 hg hr, R_apart_row r1 hg hr⟩
/-- a change's box -/
def ChBox (W : World) (B : Nat) (a : Int) (v1 v2 : Value) : Prop := W.heap[B]? = some (.cells #[.int .i64 a, v1, v2] 40 (0, 0))
theorem ChBox.cells {W : World} {B : Nat} {a : Int} {v1 v2 : Value} (h : ChBox W B a v1 v2) : W.cell? ⟨B, 0, none⟩ = some (.int .i64 a) ∧ W.cell? ⟨B, 1, none⟩ = some v1 ∧ W.cell? ⟨B, 2, none⟩ = some v2 := by
  unfold ChBox at h
  exact ⟨by simp [World.cell?, h], by simp [World.cell?, h], by simp [World.cell?, h]⟩
theorem ChBox.lt {W : World} {B : Nat} {a : Int} {v1 v2 : Value} (h : ChBox W B a v1 v2) : B < W.heap.size := (Array.getElem?_eq_some_iff.1 h).1
theorem ChBox.own {β : Type} (B : Nat) (a : Int) (v1 v2 : Value) : Own (fun (_ : β) W => ChBox W B a v1 v2) := fun s X Y row hs hg hrow =>
  (hg.block B hs.lt (fun e' => by obtain ⟨o, ho, hc⟩ := hrow B e'.symm; rw [show X.heap[B]? = _ from hs] at ho; cases ho; cases hc)).trans hs
theorem boxed_grown {W w1 : World} {B t base : Nat} {u v : Value} {ok : Nat → Prop} {l : List S40} (h : Boxed W B t u) (hv : k40.R 40 W base ok v l) (hne : t ≠ 40) (hg : W.grownBy w1 v.ownBlock) : Boxed w1 B t u :=
  h.kept hg (Kd.R_ne hv h (Ne.symm hne))
theorem Solo.push {W w1 : World} {N Bo Bl B : Nat} {l : List S40} {p : S40} {v v1 vl : Value} (hbl : Bl ≠ Bo)
    (h1 : Boxed W Bo 23 v) (hN : N ≤ W.heap.size) (hNo : N ≤ Bo) (r1 : k40.R 40 W N (fun _ => True) v l) (hR : k40.R 40 w1 N (fun _ => True) v1 (l ++ [p])) (hg : W.grownBy w1 v.ownBlock) :
    Solo (w1.setCell ⟨Bo, 0, none⟩ v1) N Bo (l ++ [p]) ∧ KeepsFrom B W (w1.setCell ⟨Bo, 0, none⟩ v1) ∧ KpB N Bl vl W (w1.setCell ⟨Bo, 0, none⟩ v1) := by
  have b1 := boxed_grown h1 r1 (by decide) hg
  have hbase : ∀ k, v.ownBlock = some k → N ≤ k := Kd.R_base r1
  have hcells : ∀ k, v.ownBlock = some k → ∃ cells, W.heap[k]? = some (.cells cells 40 (0, 0)) := Kd.R_typed r1
  have hE : ∀ q, q ∈ (40 : Nat) :: k40.E → q ≠ 23 := by intro q hq; simp [k40, Kd.iso, Kd.pair, Kd.int, Kd.slice, Kd.string, Kd.scalar] at hq; omega
  refine ⟨⟨v1, b1.set _, Kd.R_set hR b1 hE _ _⟩, ?_, ⟨?_, ?_⟩⟩
  · refine ⟨Nat.le_trans hg.size (KeepsOthers.setCell _ _ _).size, fun k o _ hk ho => (KeepsOthers.setCell _ _ _).same k o ((hg.block k (Array.getElem?_eq_some_iff.1 hk).1 fun e => ?_).trans hk) ho⟩
    obtain ⟨cells, hc⟩ := hcells k e.symm
    rw [hc] at hk; cases hk; cases ho
  · exact ((Below.refl N W).grown hg hN hbase).setCell (p := ⟨Bo, 0, none⟩) hNo _
  · intro hp
    exact (boxed_grown hp r1 (by decide) hg).other hbl _

/-- what undoes a change -/
def inv1 (x : S40) : S40 := ⟨x.f0, x.f2, x.f1⟩

theorem ret16 {w W : World} {tmps : Array Value} {D : Nat} {v : Value} {ys : List S40} (hD : w.heap.size ≤ D) (hK : W.heap[D]? = some (.deferred (some []))) (hb : Below w.heap.size w W) (hR : k40.R 40 W w.heap.size (fun _ => True) v ys)
    (h2 : tmps.getD 2 undef = v) :
    bodyPostM Fence.wide 5 Try.prog Try.f16 (fun e w' => (∃ v, e = .returned v ∧ k40.R 40 w' w.heap.size (fun _ => True) v ys) ∧ Below w.heap.size w w') .ret { tmps := tmps, defers := [{ target := .collected D, args := #[] }] } W := by
  have hR2 := R_apart_row hR (grownBy_putObj' W D (.deferred none)) (fun r e => by cases e; exact ⟨_, hK, rfl⟩)
  have hr : Try.f16.results = #[.tmp 2] := rfl
  refine ⟨by simp, .inl ⟨_, _, rfl, run_takeDeferred hK, ?_⟩⟩
  refine ⟨v, ?_, ⟨v, rfl, hR2⟩, hb.trans (belowK_b (w := w) (Nat.le_refl _) W D _ _ hD hK rfl rfl)⟩
  rw [Array.getD_eq_getD_getElem?] at h2
  simp [results, hr, h2]

set_option maxRecDepth 100000 in
set_option maxHeartbeats 1000000 in
theorem inverse_on (xs : List S40) (w : World) (A : Option Addr) (ad : Addr) (hA : 0 < xs.length → A = some ad) (c : Nat) (hC : Kd.C k40 w A xs.length xs) (hc : xs.length ≤ c) (hx : xs.length ≤ 100000) (hsz : ∀ x ∈ xs, x.f1.length ≤ 100000 ∧ x.f2.length ≤ 100000)
    (vf : Nat → Value × Value) (hvf : ∀ (i : Nat) (hi : i < xs.length), Cells3 w (ad.add (i * 3)) (xs[i]).f0 (vf i).1 (vf i).2)
    (hvr : ∀ (i : Nat) (hi : i < xs.length), (∃ A1 c1, (vf i).1 = .slice A1 (xs[i]).f1.length c1 ∧ (xs[i]).f1.length ≤ c1 ∧ Kd.string.C w A1 (xs[i]).f1.length (xs[i]).f1) ∧ (∃ A1 c1, (vf i).2 = .slice A1 (xs[i]).f2.length c1 ∧ (xs[i]).f2.length ≤ c1 ∧ Kd.string.C w A1 (xs[i]).f2.length (xs[i]).f2)) :
    CallsIn Fence.wide 5 Try.prog 16 #[.slice A xs.length c] w fun e w' =>
      (∃ v, e = .returned v ∧ k40.R 40 w' w.heap.size (fun _ => True) v (xs.reverse.map inv1)) ∧ Below w.heap.size w w' := by
  refine callsIn_of_wp_marks Try.func16 rfl trivial ?_ rfl
  simp only [Try.ntmps16, List.size_toArray, List.length_cons, List.length_nil, Nat.reduceAdd, Nat.reduceSub, Array.replicate_succ, Array.replicate_zero, List.push_toArray, List.append_toArray, List.nil_append, List.cons_append]
  gi_wp2_with (gi_at_call 27; refine (callsIn_wide.2 (backward_calls _ _ _ _)).mono ?_; rintro e w2 ⟨rfl, rfl⟩)
  have bO := (Boxed.new w 23 (.slice none 0 0)).alloc (.cells #[.slice A xs.length c] 23)
  have bL := Boxed.new (w.alloc (.cells #[.slice none 0 0] 23)) 23 (.slice A xs.length c)
  simp only [World.size_alloc] at bL
  have hB1 : Below w.heap.size w ((w.alloc (.cells #[.slice none 0 0] 23)).alloc (.cells #[.slice A xs.length c] 23)) := ((Below.refl _ w).alloc (Nat.le_refl _) _).alloc (by simp) _
  have hsz2 : ((w.alloc (.cells #[.slice none 0 0] 23)).alloc (.cells #[.slice A xs.length c] 23)).heap.size = w.heap.size + 2 := by simp
  obtain ⟨W0, hW0⟩ : ∃ W0, ((w.alloc (.cells #[.slice none 0 0] 23)).alloc (.cells #[.slice A xs.length c] 23)) = W0 := ⟨_, rfl⟩
  rw [hW0] at bO bL hB1 hsz2 ⊢
  clear hW0
  refine wpIn_rangeFunc_ownH rfl (by decide) (gf := 31) (lb := #[.pointer (some ⟨w.heap.size + 1, 0, none⟩)]) rfl trivial (enters_of Try.func31 (by kernel_rfl) rfl)
    (back_stops xs 4 (by decide) (w.heap.size + 1) w W0 A ad hA c hx vf hvf bL hB1) kpB_t (kpB_b (by omega)) (Below.refl _ _) (fun _ => rfl)
    (fun (pre : List (Fin xs.length)) W => Solo W w.heap.size w.heap.size (pre.map fun i => inv1 xs[i]) ∧ Below w.heap.size w W)
    (fun _ _ _ => False)
    (OwnFrom.and (Own.from (Solo.own _ _ (fun pre : List (Fin xs.length) => pre.map fun i => inv1 xs[i])) _) (ownFrom_below (Nat.le_refl _) (by omega)))
    (fun _ _ _ _ _ hs _ _ => hs)
    ⟨⟨_, bO, Kd.R_nil _ _ _ _ _⟩, hB1⟩
    (fun x a' W => ∃ Bx v0, (ChBox W Bx (xs[x]).f0 (vf x.1).1 (vf x.1).2 ∧ Boxed W w.heap.size 23 v0 ∧ some Bx ≠ v0.ownBlock) ∧ a' = { tmps := #[Value.slice A xs.length c, undef, Value.slice none 0 0, Value.pointer (some ⟨w.heap.size, 0, none⟩), undef, Value.pointer (some ⟨Bx, 0, none⟩), Value.slice A xs.length c,
          Value.func (.func 31) #[] #[Value.pointer (some ⟨w.heap.size + 1, 0, none⟩)], .int .i64 (x.1 : Int), .agg #[.int .i64 (xs[x]).f0, (vf x.1).1, (vf x.1).2], undef, undef, undef, undef, undef, undef, undef, undef, undef, undef, undef, undef, undef], defers := [] })
    (fun x a' _ X Y row hs hg hr => by obtain ⟨Bx, v0, ⟨h1, h3, h4⟩, h2⟩ := hs; exact ⟨Bx, v0, ⟨ChBox.own Bx _ _ _ () X Y row h1 hg (fun r e => (hr r e).2), boxed_own w.heap.size 23 (fun (_ : Unit) => v0) () X Y row h3 hg (fun r e => (hr r e).2), h4⟩, h2⟩)
    ?assign ?body ?done ?stop
  case assign =>
    rintro l pre x W K ⟨hT, hB⟩ hK
    obtain ⟨⟨A1, k1, e1, l1, g1⟩, ⟨A2, k2, e2, l2, g2⟩⟩ := hvr x.1 x.2
    simp only [encB]
    rw [e1, e2]
    gi_wp2
    exact hK _ _ ((KeepsOthers.alloc _ _).from _) ⟨(Below.refl _ W).alloc hB.size _, fun h => h.alloc _⟩ ⟨hT.below ((Below.refl _ W).alloc (Nat.le_refl _) _), hB.alloc hB.size _⟩ (by obtain ⟨v0, b0, r0⟩ := hT; exact ⟨W.heap.size, v0, ⟨by rw [e1, e2]; exact World.alloc_heap_new W _, b0.alloc _, fun e => by have := Kd.R_lt r0 _ e.symm; omega⟩, by rw [e1, e2]; rfl⟩)
  case body =>
    rintro l pre x a' W hl _ ⟨⟨v, b1, r1⟩, hB⟩ ⟨Bx, v0, ⟨bX, b0, hXv⟩, rfl⟩ hlt
    obtain rfl : v = v0 := by unfold Boxed at b0 b1; rw [b1] at b0; cases b0; rfl
    obtain ⟨x0, x1, x2⟩ := bX.cells
    have c1 := b1.cell
    obtain ⟨⟨A1, k1, e1, l1, g1⟩, ⟨A2, k2, e2, l2, g2⟩⟩ := hvr x.1 x.2
    have hsn : (pre ++ [x]).map (fun i => inv1 xs[i]) = (pre.map fun i => inv1 xs[i]) ++ [inv1 xs[x]] := by rw [List.map_append]; rfl
    gi_wp2_with fail
    rw [e1] at x1
    rw [e2] at x2
    refine Held.wpIn_region_F (L := 12) (fun X => X.cell? ⟨w.heap.size, 0, none⟩ = some v ∧ X.cell? ⟨Bx, 0, none⟩ = some (.int .i64 (xs[x]).f0) ∧ X.cell? ⟨Bx, 1, none⟩ = some (.slice A1 (xs[x.1]).f1.length k1) ∧ X.cell? ⟨Bx, 2, none⟩ = some (.slice A2 (xs[x.1]).f2.length k2)) rfl ?_
    refine Held.wpAnyF_take (i := 0) (v := v) (by kernel_rfl) rfl (by kernel_rfl) (by kernel_rfl) (by kernel_rfl) (by kernel_rfl) (fun _ _ _ h => h) ⟨.inl ⟨by rfl, fun X hX => ?_⟩, fun _ => rfl⟩ ⟨c1, x0, x1, x2⟩ ?_
    · obtain ⟨y0, y1, y2, y3⟩ := hX
      go_simp
    refine Held.wpAnyF_take (i := 1) (v := .pointer (some ⟨Bx, 0, none⟩)) (by kernel_rfl) rfl (by kernel_rfl) (by kernel_rfl) (by kernel_rfl) (by kernel_rfl) (fun _ _ _ h => h) ⟨.inl ⟨by rfl, fun X hX => ?_⟩, fun _ => rfl⟩ ⟨c1, x0, x1, x2⟩ ?_
    · obtain ⟨y0, y1, y2, y3⟩ := hX
      go_simp
    refine Held.wpAnyF_take (i := 2) (v := .int .i64 (xs[x]).f0) (by kernel_rfl) rfl (by kernel_rfl) (by kernel_rfl) (by kernel_rfl) (by kernel_rfl) (fun _ _ _ h => h) ⟨.inl ⟨by rfl, fun X hX => ?_⟩, fun _ => rfl⟩ ⟨c1, x0, x1, x2⟩ ?_
    · obtain ⟨y0, y1, y2, y3⟩ := hX
      go_simp
    refine Held.wpAnyF_take (i := 3) (v := .pointer (some ⟨Bx, 2, none⟩)) (by kernel_rfl) rfl (by kernel_rfl) (by kernel_rfl) (by kernel_rfl) (by kernel_rfl) (fun _ _ _ h => h) ⟨.inl ⟨by rfl, fun X hX => ?_⟩, fun _ => rfl⟩ ⟨c1, x0, x1, x2⟩ ?_
    · obtain ⟨y0, y1, y2, y3⟩ := hX
      go_simp
    refine Held.wpAnyF_take (i := 4) (v := .slice A2 (xs[x.1]).f2.length k2) (by kernel_rfl) rfl (by kernel_rfl) (by kernel_rfl) (by kernel_rfl) (by kernel_rfl) (fun _ _ _ h => h) ⟨.inl ⟨by rfl, fun X hX => ?_⟩, fun _ => rfl⟩ ⟨c1, x0, x1, x2⟩ ?_
    · obtain ⟨y0, y1, y2, y3⟩ := hX
      go_simp
    refine Held.wpAnyF_take (i := 6) (v := .pointer (some ⟨Bx, 1, none⟩)) (by kernel_rfl) rfl (by kernel_rfl) (by kernel_rfl) (by kernel_rfl) (by kernel_rfl) (fun _ _ _ h => h) ⟨.inl ⟨by rfl, fun X hX => ?_⟩, fun _ => rfl⟩ ⟨c1, x0, x1, x2⟩ ?_
    · obtain ⟨y0, y1, y2, y3⟩ := hX
      go_simp
    refine Held.wpAnyF_take (i := 7) (v := .slice A1 (xs[x.1]).f1.length k1) (by kernel_rfl) rfl (by kernel_rfl) (by kernel_rfl) (by kernel_rfl) (by kernel_rfl) (fun _ _ _ h => h) ⟨.inl ⟨by rfl, fun X hX => ?_⟩, fun _ => rfl⟩ ⟨c1, x0, x1, x2⟩ ?_
    · obtain ⟨y0, y1, y2, y3⟩ := hX
      go_simp
    refine Held.wpAnyF_one (i := 5) (by kernel_rfl) rfl fun K5 hK5 => ?_
    go_simp
    have hsx := hsz (xs[x]) (List.getElem_mem _)
    refine (CallsIn.inRound l (callsIn_wide.2 (clone_on W.drew A2 k2 _ (Kd.C_below (Kd.C_below g2 hB) (below_drew (Below.refl _ _))) l2 hsx.2))).mono ?_
    rintro e W2 ⟨v2, rfl, hR2, hb2⟩
    obtain ⟨a2, q2, rfl⟩ := Kd.R_slice hR2
    have hb2' : Below W.heap.size W W2 := below_of_drew hb2
    refine hK5 _ _ (.inr ⟨pw_cell_below hb2' c1, pw_cell_below hb2' x0, pw_cell_below hb2' x1, pw_cell_below hb2' x2⟩) ?_
    refine Held.wpAnyF_one (i := 8) (by kernel_rfl) rfl fun K8 hK8 => ?_
    go_simp
    refine (CallsIn.inRound l (callsIn_wide.2 (clone_on W2 A1 k1 _ (Kd.C_below (Kd.C_below g1 hB) hb2') l1 hsx.1))).mono ?_
    rintro e W3 ⟨v1, rfl, hR3, hb3⟩
    obtain ⟨a1, q1, rfl⟩ := Kd.R_slice hR3
    have hb3' : Below W.heap.size W W3 := hb2'.trans (hb3.mono hb2'.size)
    have hS3 : W3.cell? ⟨w.heap.size, 0, none⟩ = some v ∧ W3.cell? ⟨Bx, 0, none⟩ = some (.int .i64 (xs[x]).f0) ∧ W3.cell? ⟨Bx, 1, none⟩ = some (.slice A1 (xs[x.1]).f1.length k1) ∧ W3.cell? ⟨Bx, 2, none⟩ = some (.slice A2 (xs[x.1]).f2.length k2) := ⟨pw_cell_below hb3' c1, pw_cell_below hb3' x0, pw_cell_below hb3' x1, pw_cell_below hb3' x2⟩
    refine hK8 _ _ (.inr hS3) ?_
    refine Held.wpAnyF_one (i := 9) (by kernel_rfl) rfl fun K9 hK9 => ?_
    go_simp
    refine hK9 _ _ (.inr hS3) ?_
    refine Held.wpAnyF_one (i := 10) (by kernel_rfl) rfl fun K10 hK10 => ?_
    go_simp
    have hba : Below W3.heap.size W3 (W3.alloc (.cells #[.int .i64 (xs[x]).f0, .slice a2 (xs[x.1]).f2.length q2, .slice a1 (xs[x.1]).f1.length q1] 40)) := (Below.refl _ _).alloc (Nat.le_refl _) _
    refine hK10 _ _ (.inr ⟨pw_cell_below hba hS3.1, pw_cell_below hba hS3.2.1, pw_cell_below hba hS3.2.2.1, pw_cell_below hba hS3.2.2.2⟩) ?_
    refine Held.wpAnyF_one (i := 11) (by kernel_rfl) rfl fun K11 hK11 => ?_
    rw [if_pos (by rfl)]
    have hml : (pre.map fun i => inv1 xs[i]).length = pre.length := List.length_map _
    have g2' : Kd.string.R 9 W3 w.heap.size (fun k => W.heap.size ≤ k) (.slice a2 (xs[x.1]).f2.length q2) (xs[x.1]).f2 := Kd.R_lower (Kd.R_mono (Kd.R_bound (Kd.R_below hR2 hb3)) (fun k hk => hk.2.1)) hB.size
    have g1' : Kd.string.R 9 W3 w.heap.size (fun k => W.heap.size ≤ k) (.slice a1 (xs[x.1]).f1.length q1) (xs[x.1]).f1 := Kd.R_lower (Kd.R_mono (Kd.R_bound hR3) (fun k hk => Nat.le_trans hb2'.size hk.2.1)) (Nat.le_trans hB.size hb2'.size)
    refine R_append_op k40 (W := W3) w.heap.size (.tmp 10) (.tmp 20) 23 40 (.agg #[.int .i64 0, .slice none 0 0, .slice none 0 0]) 56 rfl Try.underlying23 info40 rfl (by decide) (by decide) v (pre.map fun i => inv1 xs[i]) (inv1 xs[x]) [.int .i64 (xs[x]).f0, .slice a2 (xs[x.1]).f2.length q2, .slice a1 (xs[x.1]).f1.length q1] (fun _ => True) (fun k => W.heap.size ≤ k) rfl rfl (k40_mkM _ _ _ (inv1 xs[x]) g2' g1') (fun k hk => ⟨trivial, fun e => by have := Kd.R_lt r1 k e.symm; omega⟩) (fun _ _ => trivial) (Kd.R_below r1 hb3') (Nat.le_trans hB.size hb3'.size) (by omega) ?_
    intro g cap w1 hR hg hat
    have b3 : Boxed W3 w.heap.size 23 v := (hb3'.block _ b1.lt).trans b1
    have c5 := (boxed_grown b3 (Kd.R_below r1 hb3') (by decide) hg).cell
    have f5 := (boxed_grown b3 (Kd.R_below r1 hb3') (by decide) hg).frozen
    have hbx3 : ChBox W3 Bx (xs[x]).f0 (.slice A1 (xs[x.1]).f1.length k1) (.slice A2 (xs[x.1]).f2.length k2) := by rw [← e1, ← e2]; exact (hb3'.block _ bX.lt).trans bX
    have hbx1 : ChBox w1 Bx (xs[x]).f0 (.slice A1 (xs[x.1]).f1.length k1) (.slice A2 (xs[x.1]).f2.length k2) := (hg.block Bx hbx3.lt hXv).trans hbx3
    obtain ⟨y0, y1, y2⟩ := hbx1.cells
    refine hK11 _ _ (.inr ⟨c5, y0, y1, y2⟩) ?_
    refine Held.wpAnyF_one (i := 12) (by kernel_rfl) rfl fun K12 hK12 => ?_
    go_simp
    refine hK12 _ _ (.inl rfl) ?_
    refine Held.wpAnyF_done (by kernel_rfl) ?_ _
    rw [hml] at hR
    obtain ⟨t1, t2, t3⟩ := Solo.push (B := W0.heap.size) (Bl := w.heap.size + 1) (vl := .slice A xs.length c) (by omega) b3 (Nat.le_trans hB.size hb3'.size) (Nat.le_refl _) (Kd.R_below r1 hb3') hR hg
    have hkb : KeepsFrom W0.heap.size W W3 := ⟨hb3'.size, fun k o _ hk _ => (hb3'.block k (Array.getElem?_eq_some_iff.1 hk).1).trans hk⟩
    have hkp : KpB w.heap.size (w.heap.size + 1) (.slice A xs.length c) W W3 := ⟨hb3'.mono hB.size, fun b => (hb3'.block _ b.lt).trans b⟩
    exact ⟨hkb.trans t2, kpB_t hkp t3, by rw [hsn]; exact t1, hB.trans (kpB_t hkp t3).1⟩
  case done =>
    rintro D ys W hD rfl ⟨⟨v, b1, r1⟩, hB⟩ hK
    have c1 := b1.cell
    have hm : (told xs.length xs.length).map (fun i => inv1 xs[i]) = xs.reverse.map inv1 := by
      have h := told_map xs xs.length (Nat.le_refl _)
      rw [Nat.sub_self, List.drop_zero] at h
      rw [← h, List.map_map]; rfl
    rw [hm] at r1
    clear hm
    gi_wp2
    exact ret16 (by omega) hK hB r1 rfl
  case stop =>
    rintro D c pre W _ _ h _
    exact h.elim

/-- a slice that is read -/
def Rd {α : Type} (d : Kd α) (w : World) (v : Value) (xs : List α) : Prop := ∃ A c, v = .slice A xs.length c ∧ xs.length ≤ c ∧ Kd.C d w A xs.length xs
theorem Rd.below {α : Type} {d : Kd α} {w w1 : World} {v : Value} {xs : List α} (h : Rd d w v xs) (hb : Below w.heap.size w w1) : Rd d w1 v xs := by
  obtain ⟨A, c, e, l, g⟩ := h
  exact ⟨A, c, e, l, Kd.C_below g hb⟩
theorem Rd.of_R {α : Type} {d : Kd α} {e base : Nat} {ok : Nat → Prop} {w : World} {v : Value} {xs : List α} (h : d.R e w base ok v xs) : Rd d w v xs := Kd.R_reads h

theorem inverse_c (w : World) (A : Option Addr) (c : Nat) (xs : List S40) (hC : Kd.C k40 w A xs.length xs) (hc : xs.length ≤ c) (hx : xs.length ≤ 100000) (hsz : ∀ x ∈ xs, x.f1.length ≤ 100000 ∧ x.f2.length ≤ 100000) :
    Calls Try.prog 16 #[.slice A xs.length c] w fun e w' => (∃ v, e = .returned v ∧ Rd k40 w' v (xs.reverse.map inv1)) ∧ Below w.heap.size w w' := by
  obtain ⟨ad, hA⟩ : ∃ ad, 0 < xs.length → A = some ad := by
    by_cases h : 0 < xs.length
    · obtain ⟨ad, h2, _⟩ := hC.2.2 h
      exact ⟨ad, fun _ => h2⟩
    · exact ⟨⟨0, 0, none⟩, fun h2 => absurd h2 h⟩
  have hch : ∀ i : Nat, ∃ p : Value × Value, ∀ hi : i < xs.length, Cells3 w (ad.add (i * 3)) (xs[i]).f0 p.1 p.2 ∧
      (∃ A1 c1, p.1 = .slice A1 (xs[i]).f1.length c1 ∧ (xs[i]).f1.length ≤ c1 ∧ Kd.string.C w A1 (xs[i]).f1.length (xs[i]).f1) ∧ (∃ A1 c1, p.2 = .slice A1 (xs[i]).f2.length c1 ∧ (xs[i]).f2.length ≤ c1 ∧ Kd.string.C w A1 (xs[i]).f2.length (xs[i]).f2) := by
    intro i
    by_cases hi : i < xs.length
    · obtain ⟨a, A1, c1, A2, c2, ha, h0, h1, h2, l1, g1, l2, g2⟩ := at_T40 hC (i : Int) (by omega) (by omega)
      have hr : rd_T40 xs (i : Int) = xs[i] := by unfold rd_T40; rw [Int.toNat_natCast, List.getD_eq_getElem?_getD, List.getElem?_eq_getElem hi]; rfl
      rw [hr] at h0 h1 h2 l1 g1 l2 g2
      rw [Int.toNat_natCast] at h0 h1 h2
      have := hA (by omega)
      rw [this] at ha
      cases ha
      exact ⟨(_, _), fun _ => ⟨⟨h0, h1, h2⟩, ⟨A1, c1, rfl, l1, g1⟩, ⟨A2, c2, rfl, l2, g2⟩⟩⟩
    · exact ⟨(.bool true, .bool true), fun h => absurd h hi⟩
  obtain ⟨vf, hvf⟩ := Classical.axiomOfChoice hch
  have := inverse_on xs w A ad hA c hC hc hx hsz vf (fun i hi => (hvf i hi).1) (fun i hi => (hvf i hi).2)
  exact (callsIn_wide.1 this).mono fun e w' ⟨⟨v, h1, h2⟩, h3⟩ => ⟨⟨v, h1, Rd.of_R h2⟩, h3⟩
end Go.Proofs.Ytlkmidginogehaa.Ext
