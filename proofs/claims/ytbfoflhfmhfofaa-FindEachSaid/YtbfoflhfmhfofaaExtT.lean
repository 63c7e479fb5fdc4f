/- three slices in three boxes: one grows. -/
import Derived.Test.YtbfoflhfmhfofaaExtA
import Derived.Test.YtbfoflhfmhfofaaExtR
set_option linter.unusedVariables false
set_option linter.unusedSimpArgs false
namespace Go.Proofs.Ytbfoflhfmhfofaa.Ext
open Go.RowKit Go.Shelf Go.Proofs Go.Proofs.YtbfoflhfmhfofaaW.PrintWords

section
variable {F : Fence} {n : Nat} {P : Program} {ops : Array Oper} {rest : List Oper} {o : Oper} {a : Act} {Q : Exit → Act → World → Prop} {α : Type}
/-- append(v, x) within a round -/
theorem R_append_in (d : Kd α) {W : World} (base : Nat) (hgd : o.guard = none) (s x : Operand) (t e : TypeId) (z : Value) (bytes : Nat)
    (ho : o.op = .call { callee := .builtin .append, args := #[s, x], argTypes := #[t, t] })
    (ht : P.underlying t = some (.slice e)) (hinfo : (P.info? e).map (fun i => (i.zero, i.size, i.bytes)) = some (some z, d.sz, bytes)) (hz : z.cells.size = d.sz) (hs0 : 0 < d.sz) (hb0 : 0 < bytes)
    (v : Value) (xs : List α) (p : α) (cs : List Value) (ok okp : Nat → Prop) (hs : a.eval s = v) (hx : a.eval x = .slice (some ⟨W.heap.size, 0, none⟩) 1 1) (hp : d.M W base okp p cs) (hokp : ∀ k, okp k → ok k ∧ some k ≠ v.ownBlock) (hfresh : ∀ k, W.heap.size ≤ k → ok k)
    (HO : d.R e W base ok v xs) (hbase : base ≤ W.heap.size) (hl : (xs.length + 1) * bytes ≤ 140737488355328)
    (h : ∀ g cap w1, d.R e w1 base ok (.slice (some ⟨g, 0, none⟩) (xs.length + 1) cap) (xs ++ [p]) → W.grownBy w1 v.ownBlock → ((Value.slice (some ⟨g, 0, none⟩) (xs.length + 1) cap).ownBlock = v.ownBlock ∨ ∃ b, (Value.slice (some ⟨g, 0, none⟩) (xs.length + 1) cap).ownBlock = some b ∧ W.heap.size ≤ b) → wpListIn F n P ops Q rest (a.put o.dst (.slice (some ⟨g, 0, none⟩) (xs.length + 1) cap)) w1) :
    wpListIn F n P ops Q (o :: rest) a (W.alloc (.cells cs.toArray e)) := by
  obtain ⟨h0, inner, hown, hr⟩ := HO
  obtain ⟨i0, hi, hzz⟩ := Option.map_eq_some_iff.1 hinfo
  simp only [Prod.mk.injEq] at hzz
  obtain ⟨hz0, hz1, hz2⟩ := hzz
  have hlen : xs.length + 1 ≤ 140737488355328 := Nat.le_trans (Nat.le_mul_of_pos_right _ hb0) hl
  have hys : cs.length = d.sz := d.K_len (d.K_of_M hp)
  refine wpListIn_plain hgd fun K hK' => ?_
  obtain ⟨v', w', hrun, r1, r2, _, r4⟩ := run_append_own_at (P := P) (W.alloc (.cells cs.toArray e)) base t o.type e i0 z d.sz bytes ht hi hz0 hz1 hz2 hz hs0 v xs.length inner (hown.alloc _) ⟨W.heap.size, 0, none⟩ 1 1 cs (by rw [hys]; simp)
    (by simpa using World.news_of_block (cs := cs.toArray) (t := e) (fr := (0, 0)) (heap_alloc_new W (.cells cs.toArray e))) (d.K_one (d.K_of_M hp)) (by simp only [maxLen]; omega) hl (by simp; omega)
  unfold Oper.wpIn
  refine ⟨?_, ?_⟩
  · simp [Oper.about, ho, resolve, Target.leads, Sem.run_pure]
  · rw [Oper.semAt_plain F _ _ (by rw [ho]; intro c hc'; cases hc')]
    simp [execOp, ho, resolve, invoke, builtin, hs, hx, hrun, Result.andThen]
    have hat : v'.ownBlock = v.ownBlock ∨ ∃ b, v'.ownBlock = some b ∧ W.heap.size ≤ b := by
      rcases r4 with r4 | r4
      · exact .inl r4
      · exact .inr ⟨_, r4, by simp⟩
    have hg : W.grownBy w' v.ownBlock := World.grownBy.trans (World.grownBy_alloc W _ _) r2
    have hR := Kd.R_appended h0 hr hp hokp hfresh r1 hg hat
    obtain ⟨g, cap, hv⟩ := ownsRow_succ r1
    subst hv
    exact hK' _ _ (h g cap w' hR hg hat)
end

/-- blocks by their types -/
theorem boxed_grown {W w1 : World} {B t e base : Nat} {u v : Value} {ok : Nat → Prop} {l : List S28} (h : Boxed W B t u) (hv : k28.R e W base ok v l) (hne : t ≠ e) (hg : W.grownBy w1 v.ownBlock) : Boxed w1 B t u :=
  h.kept hg (Kd.R_ne hv h (Ne.symm hne))

/-- three slices in three boxes -/
def Trio (W : World) (N Ba Bb Bo : Nat) (la lb lo : List S28) : Prop := ∃ va vb vo : Value, (Boxed W Ba 25 va ∧ Boxed W Bb 25 vb ∧ Boxed W Bo 25 vo) ∧
  k28.R 28 W N (fun k => some k ≠ vb.ownBlock ∧ some k ≠ vo.ownBlock) va la ∧ k28.R 28 W N (fun k => some k ≠ va.ownBlock ∧ some k ≠ vo.ownBlock) vb lb ∧ k28.R 28 W N (fun k => some k ≠ va.ownBlock ∧ some k ≠ vb.ownBlock) vo lo
theorem Trio.swap {W : World} {N Ba Bb Bo : Nat} {la lb lo : List S28} (h : Trio W N Ba Bb Bo la lb lo) : Trio W N Bb Ba Bo lb la lo := by
  obtain ⟨va, vb, vo, ⟨h1, h2, h3⟩, r1, r2, r3⟩ := h
  exact ⟨vb, va, vo, ⟨h2, h1, h3⟩, r2, r1, Kd.R_mono r3 fun _ h => ⟨h.2, h.1⟩⟩
theorem Trio.turn {W : World} {N Ba Bb Bo : Nat} {la lb lo : List S28} (h : Trio W N Ba Bb Bo la lb lo) : Trio W N Bo Bb Ba lo lb la := by
  obtain ⟨va, vb, vo, ⟨h1, h2, h3⟩, r1, r2, r3⟩ := h
  exact ⟨vo, vb, va, ⟨h3, h2, h1⟩, Kd.R_mono r3 fun _ h => ⟨h.2, h.1⟩, Kd.R_mono r2 fun _ h => ⟨h.2, h.1⟩, Kd.R_mono r1 fun _ h => ⟨h.2, h.1⟩⟩
theorem Trio.below {W W' : World} {N Ba Bb Bo : Nat} {la lb lo : List S28} (h : Trio W N Ba Bb Bo la lb lo) (hb : Below W.heap.size W W') : Trio W' N Ba Bb Bo la lb lo := by
  obtain ⟨va, vb, vo, ⟨h1, h2, h3⟩, r1, r2, r3⟩ := h
  exact ⟨va, vb, vo, ⟨(hb.block _ h1.lt).trans h1, (hb.block _ h2.lt).trans h2, (hb.block _ h3.lt).trans h3⟩, Kd.R_below r1 hb, Kd.R_below r2 hb, Kd.R_below r3 hb⟩
theorem R_apart_row {W W' : World} {row : Option Nat} {base : Nat} {ok : Nat → Prop} {v : Value} {l : List S28} (h : k28.R 28 W base ok v l) (hg : W.grownBy W' row) (hr : ∀ r, row = some r → ∃ o : Obj, W.heap[r]? = some o ∧ o.isCells = false) : k28.R 28 W' base ok v l :=
  Kd.R_mono (Kd.R_grown (Kd.R_bound h) hg (fun k hk e => by
    obtain ⟨o, ho, hc⟩ := hr k e.symm
    obtain ⟨_, _, _, q, _, cells, hq⟩ := hk
    rw [hq] at ho; cases ho; cases hc)) (fun _ h => h.1)
theorem Trio.own {β : Type} (N Ba Bb Bo : Nat) (f g h : β → List S28) : Own (fun s W => Trio W N Ba Bb Bo (f s) (g s) (h s)) := by
  rintro s W W' row ⟨va, vb, vo, ⟨h1, h2, h3⟩, r1, r2, r3⟩ hg hr
  have hb : ∀ {B : Nat} {v : Value}, Boxed W B 25 v → Boxed W' B 25 v := fun {B v} hB => boxed_own B 25 (fun (_ : Unit) => v) () W W' row hB hg hr
  exact ⟨va, vb, vo, ⟨hb h1, hb h2, hb h3⟩, R_apart_row r1 hg hr, R_apart_row r2 hg hr, R_apart_row r3 hg hr⟩

/-- one of the three has grown, and is stored -/
theorem Trio.push {W w1 : World} {N Ba Bb Bo Bp B : Nat} {pat : ByteArray} {la lb lo : List S28} {p : S28} {va vb vo v1 : Value}
    (h1 : Boxed W Ba 25 va) (h2 : Boxed W Bb 25 vb) (h3 : Boxed W Bo 25 vo) (hab : Bb ≠ Ba) (hao : Bo ≠ Ba) (hNa : N ≤ Ba) (hN : N ≤ W.heap.size)
    (r1 : k28.R 28 W N (fun k => some k ≠ vb.ownBlock ∧ some k ≠ vo.ownBlock) va la) (r2 : k28.R 28 W N (fun k => some k ≠ va.ownBlock ∧ some k ≠ vo.ownBlock) vb lb) (r3 : k28.R 28 W N (fun k => some k ≠ va.ownBlock ∧ some k ≠ vb.ownBlock) vo lo)
    (hR : k28.R 28 w1 N (fun k => some k ≠ vb.ownBlock ∧ some k ≠ vo.ownBlock) v1 (la ++ [p])) (hg : W.grownBy w1 va.ownBlock) (hat : v1.ownBlock = va.ownBlock ∨ ∃ b, v1.ownBlock = some b ∧ W.heap.size ≤ b) :
    Trio (w1.setCell ⟨Ba, 0, none⟩ v1) N Ba Bb Bo (la ++ [p]) lb lo ∧ KeepsFrom B W (w1.setCell ⟨Ba, 0, none⟩ v1) ∧ KpF N Bp pat W (w1.setCell ⟨Ba, 0, none⟩ v1) := by
  have b1 := boxed_grown h1 r1 (by decide) hg
  have b2 := boxed_grown h2 r1 (by decide) hg
  have b3 := boxed_grown h3 r1 (by decide) hg
  have hbase : ∀ k, va.ownBlock = some k → N ≤ k := Kd.R_base r1
  have hother : ∀ {ok : Nat → Prop} {v : Value} {l : List S28}, k28.R 28 W N ok v l → (∀ k, ok k → some k ≠ va.ownBlock) → k28.R 28 (w1.setCell ⟨Ba, 0, none⟩ v1) N (fun k => ok k ∧ some k ≠ v1.ownBlock) v l := fun {ok v l} hr hok => by
    refine Kd.R_set (Kd.R_mono (Kd.R_grown (Kd.R_bound hr) hg fun k hk => hok k hk.1) fun k hk => ⟨hk.1, ?_⟩) b1 (by intro q hq; simp [k28, Kd.iso, Kd.pair, Kd.int, Kd.scalar] at hq; omega) _ _
    rcases hat with hat | ⟨b, hat, hle⟩
    · rw [hat]; exact hok k hk.1
    · rw [hat]; intro e; cases e; have := hk.2.2.1; omega
  have hcells : ∀ k, va.ownBlock = some k → ∃ cells, W.heap[k]? = some (.cells cells 28 (0, 0)) := Kd.R_typed r1
  refine ⟨⟨v1, vb, vo, ⟨b1.set _, b2.other hab _, b3.other hao _⟩, Kd.R_set hR b1 (by intro q hq; simp [k28, Kd.iso, Kd.pair, Kd.int, Kd.scalar] at hq; omega) _ _, Kd.R_mono (hother r2 fun _ h => h.1) fun k h => ⟨h.2, h.1.2⟩, Kd.R_mono (hother r3 fun _ h => h.1) fun k h => ⟨h.2, h.1.2⟩⟩, ?_, ?_, ?_⟩
  · refine ⟨Nat.le_trans hg.size (KeepsOthers.setCell _ _ _).size, fun k o _ hk ho => (KeepsOthers.setCell _ _ _).same k o ((hg.block k (Array.getElem?_eq_some_iff.1 hk).1 fun e => ?_).trans hk) ho⟩
    obtain ⟨cells, hc⟩ := hcells k e.symm
    rw [hc] at hk; cases hk; cases ho
  · exact ((Below.refl N W).grown hg hN hbase).setCell (p := ⟨Ba, 0, none⟩) hNa _
  · intro hp
    have hbp : some Bp ≠ va.ownBlock := Kd.R_ne r1 hp (by decide)
    refine (hp.kept hg hbp).other ?_ _
    rintro rfl
    unfold Boxed at h1 hp; rw [h1] at hp; cases hp
end Go.Proofs.Ytbfoflhfmhfofaa.Ext
