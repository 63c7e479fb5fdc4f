/- foolscaplaw12.heard: what of an iterator of find.All's it gathers. -/
import Derived.Test.YtbfoflhfmhfofaaExtS
set_option linter.unusedVariables false
set_option linter.unusedSimpArgs false
namespace Go.Proofs.Ytbfoflhfmhfofaa.Ext
open Go.RowKit Go.Shelf Go.Proofs Go.Proofs.YtbfoflhfmhfofaaW.PrintWords
attribute [local go_sem] Oper.semAt_some
attribute [local go_sem] wide_fn

/-- a slice in its box -/
def Solo (W : World) (N Bo : Nat) (l : List S28) : Prop := ∃ v : Value, Boxed W Bo 25 v ∧ k28.R 28 W N (fun _ => True) v l
theorem Solo.below {W W' : World} {N Bo : Nat} {l : List S28} (h : Solo W N Bo l) (hb : Below W.heap.size W W') : Solo W' N Bo l := by
  obtain ⟨v, h1, r1⟩ := h
  exact ⟨v, (hb.block _ h1.lt).trans h1, Kd.R_below r1 hb⟩
theorem Solo.own {β : Type} (N Bo : Nat) (f : β → List S28) : Own (fun s W => Solo W N Bo (f s)) := by
  rintro s W W' row ⟨v, h1, r1⟩ hg hr
  exact ⟨v, boxed_own Bo 25 (fun (_ : Unit) => v) () W W' row h1 hg hr, R_apart_row r1 hg hr⟩
theorem Solo.push {W w1 : World} {N Bo Bp B : Nat} {pat : ByteArray} {l : List S28} {p : S28} {v v1 : Value}
    (h1 : Boxed W Bo 25 v) (hN : N ≤ W.heap.size) (hNo : N ≤ Bo) (r1 : k28.R 28 W N (fun _ => True) v l) (hR : k28.R 28 w1 N (fun _ => True) v1 (l ++ [p])) (hg : W.grownBy w1 v.ownBlock) :
    (Boxed (w1.setCell ⟨Bo, 0, none⟩ v1) Bo 25 v1 ∧ k28.R 28 (w1.setCell ⟨Bo, 0, none⟩ v1) N (fun _ => True) v1 (l ++ [p])) ∧ KeepsFrom B W (w1.setCell ⟨Bo, 0, none⟩ v1) ∧ KpF N Bp pat W (w1.setCell ⟨Bo, 0, none⟩ v1) ∧
    (∀ {t : TypeId} {u : Value} {b : Nat}, t ≠ 28 → b ≠ Bo → Boxed W b t u → Boxed (w1.setCell ⟨Bo, 0, none⟩ v1) b t u) := by
  have b1 := boxed_grown h1 r1 (by decide) hg
  have hbase : ∀ k, v.ownBlock = some k → N ≤ k := Kd.R_base r1
  have hcells : ∀ k, v.ownBlock = some k → ∃ cells, W.heap[k]? = some (.cells cells 28 (0, 0)) := Kd.R_typed r1
  refine ⟨⟨b1.set _, Kd.R_set hR b1 (by intro q hq; simp [k28, Kd.iso, Kd.pair, Kd.int, Kd.scalar] at hq; omega) _ _⟩, ?_, ⟨?_, ?_⟩, ?_⟩
  · refine ⟨Nat.le_trans hg.size (KeepsOthers.setCell _ _ _).size, fun k o _ hk ho => (KeepsOthers.setCell _ _ _).same k o ((hg.block k (Array.getElem?_eq_some_iff.1 hk).1 fun e => ?_).trans hk) ho⟩
    obtain ⟨cells, hc⟩ := hcells k e.symm
    rw [hc] at hk; cases hk; cases ho
  · exact ((Below.refl N W).grown hg hN hbase).setCell (p := ⟨Bo, 0, none⟩) hNo _
  · intro hp
    have hbp : some Bp ≠ v.ownBlock := Kd.R_ne r1 hp (by decide)
    refine (hp.kept hg hbp).other ?_ _
    rintro rfl
    unfold Boxed at h1 hp; rw [h1] at hp; cases hp
  · intro t u b ht hb hu
    exact (boxed_grown hu r1 ht hg).other hb _

theorem run_equalIn_fn_nil {P : Program} (w : World) (d : Nat) (t : TypeId) {ps rs : Array TypeId} {v : Bool} (f : Fn) (xs ys : Array Value) (h : P.underlying t = some (.func ps rs v)) :
    (Op.equalIn (d + 1) t (.func f xs ys) .nilFunc).run P w = .ok false w := by
  simp [Op.equalIn, run_underlying h]
theorem run_eql_fn_nil {P : Program} (w : World) (t : TypeId) {ps rs : Array TypeId} {v : Bool} (f : Fn) (xs ys : Array Value) (h : P.underlying t = some (.func ps rs v)) :
    (binOp .eql t (.func f xs ys) .nilFunc).run P w = .ok (.bool false) w := by
  simp only [binOp]
  simp [Op.equal, Op.maxDepth, run_equalIn_fn_nil w 9999 t f xs ys h]

/-- what is heard -/
def heardL (xs : List (Nat × Nat)) (most : Int) : List S28 := (xs.take most.toNat).map toS
theorem ret17 {w W : World} {tmps : Array Value} {D : Nat} {v : Value} {ys : List S28} (hD : w.heap.size ≤ D) (hK : W.heap[D]? = some (.deferred (some []))) (hb : Below w.heap.size w W) (hR : k28.R 28 W w.heap.size (fun _ => True) v ys)
    (h4 : tmps.getD 4 undef = v) (h5 : tmps.getD 5 undef = .bool true) :
    bodyPostM Fence.wide 5 Try.prog Try.f17 (fun e w' => (∃ v, e = .returned (.tuple #[v, .bool true]) ∧ k28.R 28 w' w.heap.size (fun _ => True) v ys) ∧ Below w.heap.size w w') .ret { tmps := tmps, defers := [{ target := .collected D, args := #[] }] } W := by
  have hR2 := R_apart_row hR (grownBy_putObj' W D (.deferred none)) (fun r e => by cases e; exact ⟨_, hK, rfl⟩)
  have hr : Try.f17.results = #[.tmp 4, .tmp 5] := rfl
  refine ⟨by simp, .inl ⟨_, _, rfl, run_takeDeferred hK, ?_⟩⟩
  refine ⟨.tuple #[v, .bool true], ?_, ⟨v, rfl, hR2⟩, hb.trans (belowK_b (w := w) (Nat.le_refl _) W D _ _ hD hK rfl rfl)⟩
  rw [Array.getD_eq_getD_getElem?] at h4 h5
  simp [results, hr, h4, h5]

set_option maxRecDepth 100000 in
set_option maxHeartbeats 1000000 in
theorem heard_on (w : World) (A : Option Addr) (c : Nat) (lines : List ByteArray) (pat : ByteArray) (Bp Bl : Nat) (most : Int) (hm : 1 ≤ most) (hC : Kd.C Kd.string w A lines.length lines) (hbp : Boxed w Bp 9 (.string pat)) (hbl : Boxed w Bl 22 (.slice A lines.length c))
    (hl : lines.length ≤ 9223372036854775806) (hsz : ∀ s ∈ lines, s.size ≤ 9223372036854775806) (hps : pat.size ≤ 9223372036854775806) (hocc : (allOcc lines pat).length ≤ 100000) :
    CallsIn Fence.wide 5 Try.prog 17 #[.func (.func 30) #[] #[.pointer (some ⟨Bp, 0, none⟩), .pointer (some ⟨Bl, 0, none⟩)], .int .i64 most] w fun e w' =>
      (∃ v, e = .returned (.tuple #[v, .bool true]) ∧ k28.R 28 w' w.heap.size (fun _ => True) v (heardL (allOcc lines pat) most)) ∧ Below w.heap.size w w' := by
  obtain ⟨r, hr⟩ : ∃ r, heardL (allOcc lines pat) most = r := ⟨_, rfl⟩
  rw [hr]
  have q43 : ∀ (W : World) (f : Fn) (xs ys : Array Value), (binOp .eql 43 (.func f xs ys) .nilFunc).run Try.prog W = .ok (.bool false) W := fun W f xs ys => run_eql_fn_nil W 43 f xs ys Try.underlying43
  refine callsIn_of_wp_marks Try.func17 rfl trivial ?_ rfl
  simp only [Try.ntmps17, List.size_toArray, List.length_cons, List.length_nil, Nat.reduceAdd, Nat.reduceSub, Array.replicate_succ, Array.replicate_zero, List.push_toArray, List.append_toArray, List.nil_append, List.cons_append]
  gi_wp2
  have bM := (Boxed.new w 3 (.int .i64 most)).alloc (.cells #[.slice none 0 0] 25)
  have bO := Boxed.new (w.alloc (.cells #[.int .i64 most] 3)) 25 (.slice none 0 0)
  simp only [World.size_alloc] at bO
  have bP := (hbp.alloc (.cells #[.int .i64 most] 3)).alloc (.cells #[.slice none 0 0] 25)
  have bL := (hbl.alloc (.cells #[.int .i64 most] 3)).alloc (.cells #[.slice none 0 0] 25)
  have hB1 : Below w.heap.size w ((w.alloc (.cells #[.int .i64 most] 3)).alloc (.cells #[.slice none 0 0] 25)) := ((Below.refl _ w).alloc (Nat.le_refl _) _).alloc (by simp) _
  have hsz2 : ((w.alloc (.cells #[.int .i64 most] 3)).alloc (.cells #[.slice none 0 0] 25)).heap.size = w.heap.size + 2 := by simp
  have hbpl := hbp.lt
  obtain ⟨W0, hW0⟩ : ∃ W0, ((w.alloc (.cells #[.int .i64 most] 3)).alloc (.cells #[.slice none 0 0] 25)) = W0 := ⟨_, rfl⟩
  rw [hW0] at bM bO bP bL hB1 hsz2 ⊢
  clear hW0
  refine wpIn_rangeFunc_ownH rfl (by decide) (gf := 30) (lb := #[.pointer (some ⟨Bp, 0, none⟩), .pointer (some ⟨Bl, 0, none⟩)]) rfl trivial (enters_of Try.func30 (by kernel_rfl) rfl)
    (all_stops 4 (by decide) Bp Bl w W0 A c lines pat hl hsz hps hC bP bL hB1) kpF_t (kpF_b (by omega)) (Below.refl _ _) (fun _ => rfl)
    (fun (pre : List (Nat × Nat)) W => (Solo W w.heap.size (w.heap.size + 1) (pre.map toS) ∧ Below w.heap.size w W) ∧ (Boxed W w.heap.size 3 (.int .i64 most) ∧ (pre.length : Int) < most))
    (fun cd (pre : List (Nat × Nat)) W => (Solo W w.heap.size (w.heap.size + 1) (pre.map toS) ∧ Below w.heap.size w W) ∧ (cd = .exit 0 ∧ (pre.length : Int) = most))
    (OwnFrom.and (OwnFrom.and (Own.from (Solo.own _ _ (fun pre : List (Nat × Nat) => pre.map toS)) _) (ownFrom_below (Nat.le_refl _) (by omega))) (OwnFrom.and (Own.from (boxed_own _ 3 (fun _ => .int .i64 most)) _) (fun _ _ _ _ hs _ _ => hs)))
    (fun cd => OwnFrom.and (OwnFrom.and (Own.from (Solo.own _ _ (fun pre : List (Nat × Nat) => pre.map toS)) _) (ownFrom_below (Nat.le_refl _) (by omega))) (fun _ _ _ _ hs _ _ => hs))
    ⟨⟨⟨_, bO, Kd.R_nil _ _ _ _ _⟩, hB1⟩, bM, by simp; omega⟩
    (fun x a' W => ∃ Bx, PosBox W Bx x.1 x.2 ∧ a' = { tmps := #[Value.func (.func 30) #[] #[Value.pointer (some ⟨Bp, 0, none⟩), Value.pointer (some ⟨Bl, 0, none⟩)], Value.int IntKind.i64 most, undef, Value.pointer (some ⟨w.heap.size, 0, none⟩),
          Value.slice none 0 0, Value.bool false, Value.pointer (some ⟨w.heap.size + 1, 0, none⟩), Value.pointer (some ⟨Bx, 0, none⟩),
          Value.func (.func 30) #[] #[Value.pointer (some ⟨Bp, 0, none⟩), Value.pointer (some ⟨Bl, 0, none⟩)], Value.bool false, Value.func (.func 30) #[] #[Value.pointer (some ⟨Bp, 0, none⟩), Value.pointer (some ⟨Bl, 0, none⟩)],
          .agg #[.int .i64 (x.1 : Int), .int .i64 (x.2 : Int)], undef, undef, undef, undef, undef, undef, undef, undef, undef], defers := [] })
    (fun x a' _ X Y row hs hg hr => by obtain ⟨Bx, h1, h2⟩ := hs; exact ⟨Bx, PosBox.own Bx (fun (_ : Unit) => (x.1 : Int)) (fun _ => (x.2 : Int)) () X Y row h1 hg (fun r e => (hr r e).2), h2⟩)
    ?assign ?body ?done ?stop
  case assign =>
    rintro l pre x W K ⟨⟨hT, hB⟩, hM, hlt⟩ hK
    simp only [encP]
    gi_wp2
    exact hK _ _ ((KeepsOthers.alloc _ _).from _) ⟨(Below.refl _ W).alloc hB.size _, fun h => h.alloc _⟩ ⟨⟨hT.below ((Below.refl _ W).alloc (Nat.le_refl _) _), hB.alloc hB.size _⟩, hM.alloc _, hlt⟩ ⟨W.heap.size, World.alloc_heap_new W _, rfl⟩
  case body =>
    rintro l pre x a' W hl _ ⟨⟨⟨v, b1, r1⟩, hB⟩, hM, hlt⟩ ⟨Bx, bX, rfl⟩ hltN
    obtain ⟨x0, x1⟩ := bX.cells
    have c1 := b1.cell
    have c3 := hM.cell
    have hml : (pre.map toS).length = pre.length := List.length_map _
    have hsn : (pre ++ [x]).map toS = pre.map toS ++ [toS x] := by rw [List.map_append]; rfl
    by_cases hge : most ≤ (pre.length : Int) + 1
    · have hg1 : decide ((pre.length : Int) + 1 ≥ most) = true := decide_eq_true hge
      gi_wp2_with (gi_at_builtin; refine R_append_in k28 (W := W) w.heap.size rfl _ _ 25 28 (.agg #[.int .i64 0, .int .i64 0]) 16 rfl Try.underlying25 info28 rfl (by decide) (by decide) v (pre.map toS) (toS x) [.int .i64 (x.1 : Int), .int .i64 (x.2 : Int)] _ (fun _ => False) rfl rfl (k28_mkM _ _ _ _) (fun k h => h.elim) (fun k hk => trivial) r1 hB.size (by omega) ?_; intro g cap w1 hR hg hat; have c2 := (boxed_grown b1 r1 (by decide) hg).cell; have f2 := (boxed_grown b1 r1 (by decide) hg).frozen; have c4 := (boxed_grown hM r1 (by decide) hg).cell; rw [hml])
      rw [hml] at hR
      obtain ⟨⟨t1, t2⟩, t3, t4, t5⟩ := Solo.push (B := W0.heap.size) (Bp := Bp) (pat := pat) b1 hB.size (by omega) r1 hR hg
      exact ⟨t3, ⟨⟨_, t1, by rw [hsn]; exact t2⟩, hB.trans t4.1⟩, rfl, by rw [List.length_append, List.length_singleton]; omega⟩
    · have hg1 : decide ((pre.length : Int) + 1 ≥ most) = false := decide_eq_false hge
      gi_wp2_with (gi_at_builtin; refine R_append_in k28 (W := W) w.heap.size rfl _ _ 25 28 (.agg #[.int .i64 0, .int .i64 0]) 16 rfl Try.underlying25 info28 rfl (by decide) (by decide) v (pre.map toS) (toS x) [.int .i64 (x.1 : Int), .int .i64 (x.2 : Int)] _ (fun _ => False) rfl rfl (k28_mkM _ _ _ _) (fun k h => h.elim) (fun k hk => trivial) r1 hB.size (by omega) ?_; intro g cap w1 hR hg hat; have c2 := (boxed_grown b1 r1 (by decide) hg).cell; have f2 := (boxed_grown b1 r1 (by decide) hg).frozen; have c4 := (boxed_grown hM r1 (by decide) hg).cell; rw [hml])
      rw [hml] at hR
      obtain ⟨⟨t1, t2⟩, t3, t4, t5⟩ := Solo.push (B := w.heap.size + 2) (Bp := Bp) (pat := pat) b1 hB.size (by omega) r1 hR hg
      exact ⟨t3, t4, ⟨⟨_, t1, by rw [hsn]; exact t2⟩, hB.trans t4.1⟩, t5 (by decide) (by omega) hM, by rw [List.length_append, List.length_singleton]; omega⟩
  case done =>
    rintro D ys W hD rfl ⟨⟨⟨v, b1, r1⟩, hB⟩, hM, hlt⟩ hK
    have c1 := b1.cell
    have hh : heardL (allOcc lines pat) most = (allOcc lines pat).map toS := by unfold heardL; rw [List.take_of_length_le (by omega)]
    rw [hh] at hr
    rw [hr] at r1
    clear hh hr
    gi_wp2
    exact ret17 (by omega) hK hB r1 rfl rfl
  case stop =>
    rintro D cd pre W hD hpre ⟨⟨⟨v, b1, r1⟩, hB⟩, rfl, hlt⟩ hK
    have c1 := b1.cell
    have hh : heardL (allOcc lines pat) most = pre.map toS := by
      unfold heardL
      rw [← hlt, Int.toNat_natCast, List.prefix_iff_eq_take.1 hpre]
      simp
    rw [hh] at hr
    rw [hr] at r1
    clear hh hr
    gi_wp2
    exact ret17 (by omega) hK hB r1 rfl rfl
end Go.Proofs.Ytbfoflhfmhfofaa.Ext
