/- find.Search: its walk. -/
import Derived.Test.YtbfoflhfmhfofaaExtB
import Derived.Test.YtbfoflhfmhfofaaExtT
import Derived.Test.YtbfoflhfmhfofaaExtG
set_option linter.unusedVariables false
set_option linter.unusedSimpArgs false
namespace Go.Proofs.Ytbfoflhfmhfofaa.Ext
open Go.RowKit Go.Shelf Go.Proofs Go.Proofs.YtbfoflhfmhfofaaW.PrintWords
attribute [local go_sem] Oper.semAt_some
attribute [local go_sem] wide_fn

def toS (x : Nat × Nat) : S28 := ⟨(x.1 : Int), (x.2 : Int)⟩
def aheadL (p0 p1 : Int) (xs : List (Nat × Nat)) : List S28 := (xs.filter fun x => lessB x.1 x.2 p0 p1).map toS
def behindL (p0 p1 : Int) (xs : List (Nat × Nat)) : List S28 := (xs.filter fun x => !lessB x.1 x.2 p0 p1 && lessB p0 p1 x.1 x.2).map toS
def ownL (p0 p1 : Int) (xs : List (Nat × Nat)) : List S28 := (xs.filter fun x => !lessB x.1 x.2 p0 p1 && !lessB p0 p1 x.1 x.2).map toS
def seeL (p0 p1 : Int) (back : Bool) (xs : List (Nat × Nat)) : List S28 := if back = true then (aheadL p0 p1 xs).reverse ++ (behindL p0 p1 xs).reverse ++ ownL p0 p1 xs else behindL p0 p1 xs ++ aheadL p0 p1 xs ++ ownL p0 p1 xs

/-- a place's box -/
def PosBox (W : World) (B : Nat) (a b : Int) : Prop := W.heap[B]? = some (.cells #[.int .i64 a, .int .i64 b] 28 (0, 0))
theorem PosBox.cells {W : World} {B : Nat} {a b : Int} (h : PosBox W B a b) : W.cell? ⟨B, 0, none⟩ = some (.int .i64 a) ∧ W.cell? ⟨B, 1, none⟩ = some (.int .i64 b) := by
  unfold PosBox at h
  exact ⟨by simp [World.cell?, h], by simp [World.cell?, h]⟩
theorem PosBox.lt {W : World} {B : Nat} {a b : Int} (h : PosBox W B a b) : B < W.heap.size := (Array.getElem?_eq_some_iff.1 h).1
theorem PosBox.own {β : Type} (B : Nat) (f g : β → Int) : Own (fun s W => PosBox W B (f s) (g s)) := fun s X Y row hs hg hrow =>
  (hg.block B hs.lt (fun e' => by obtain ⟨o, ho, hc⟩ := hrow B e'.symm; rw [show X.heap[B]? = _ from hs] at ho; cases ho; cases hc)).trans hs
theorem ahead_snoc (p0 p1 : Int) (pre : List (Nat × Nat)) (x : Nat × Nat) : aheadL p0 p1 (pre ++ [x]) = aheadL p0 p1 pre ++ (if lessB x.1 x.2 p0 p1 = true then [toS x] else []) := by
  unfold aheadL; rw [List.filter_append, List.map_append]; congr 1; cases h : lessB x.1 x.2 p0 p1 <;> simp [h]
theorem behind_snoc (p0 p1 : Int) (pre : List (Nat × Nat)) (x : Nat × Nat) : behindL p0 p1 (pre ++ [x]) = behindL p0 p1 pre ++ (if (!lessB x.1 x.2 p0 p1 && lessB p0 p1 x.1 x.2) = true then [toS x] else []) := by
  unfold behindL; rw [List.filter_append, List.map_append]; congr 1; cases h : lessB x.1 x.2 p0 p1 <;> cases h2 : lessB p0 p1 x.1 x.2 <;> simp [h, h2]
theorem own_snoc (p0 p1 : Int) (pre : List (Nat × Nat)) (x : Nat × Nat) : ownL p0 p1 (pre ++ [x]) = ownL p0 p1 pre ++ (if (!lessB x.1 x.2 p0 p1 && !lessB p0 p1 x.1 x.2) = true then [toS x] else []) := by
  unfold ownL; rw [List.filter_append, List.map_append]; congr 1; cases h : lessB x.1 x.2 p0 p1 <;> cases h2 : lessB p0 p1 x.1 x.2 <;> simp [h, h2]

theorem R_tight {W : World} {base : Nat} {ok : Nat → Prop} {v : Value} {l : List S28} (h : k28.R 28 W base ok v l) : k28.R 28 W base (fun k => v.ownBlock = some k) v l := by
  obtain ⟨_, inner, ho, hr⟩ := h
  exact ⟨fun k hk => hk, inner, ho, hr.imp_ (fun x cs h => by have := k28_openM h; subst this; exact k28_mkM _ _ _ _)⟩
/-- one of the three slices is turned within its own block -/
theorem Trio.kept {W W2 : World} {N Ba Bb Bo : Nat} {la la' lb lo : List S28} {va vb vo : Value}
    (h1 : Boxed W Ba 25 va) (h2 : Boxed W Bb 25 vb) (h3 : Boxed W Bo 25 vo)
    (r1 : k28.R 28 W N (fun k => some k ≠ vb.ownBlock ∧ some k ≠ vo.ownBlock) va la) (r2 : k28.R 28 W N (fun k => some k ≠ va.ownBlock ∧ some k ≠ vo.ownBlock) vb lb) (r3 : k28.R 28 W N (fun k => some k ≠ va.ownBlock ∧ some k ≠ vb.ownBlock) vo lo)
    (hR : k28.R 28 W2 N (fun k => va.ownBlock = some k ∨ W.heap.size ≤ k) va la') (hk : Kept W W2 (fun k => va.ownBlock = some k)) :
    (Boxed W2 Ba 25 va ∧ Boxed W2 Bb 25 vb ∧ Boxed W2 Bo 25 vo) ∧ k28.R 28 W2 N (fun k => some k ≠ vb.ownBlock ∧ some k ≠ vo.ownBlock) va la' ∧ k28.R 28 W2 N (fun k => some k ≠ va.ownBlock ∧ some k ≠ vo.ownBlock) vb lb ∧ k28.R 28 W2 N (fun k => some k ≠ va.ownBlock ∧ some k ≠ vb.ownBlock) vo lo := by
  have hbx : ∀ {B : Nat} {u : Value}, Boxed W B 25 u → Boxed W2 B 25 u := fun {B u} hB => (hk.2 B hB.lt (fun e => Kd.R_ne r1 hB (by decide) e.symm)).trans hB
  refine ⟨⟨hbx h1, hbx h2, hbx h3⟩, Kd.R_mono hR fun k h => ?_, Kd.R_step r2 fun k ho hlt => hk.2 k hlt fun e => ho.1 e.symm, Kd.R_step r3 fun k ho hlt => hk.2 k hlt fun e => ho.1 e.symm⟩
  rcases h with h | h
  · exact r1.1 k h
  · exact ⟨fun e => by have := Kd.R_lt r2 k e.symm; omega, fun e => by have := Kd.R_lt r3 k e.symm; omega⟩
/-- what Search tells -/
def searchR (p0 p1 : Int) (back : Bool) (n : Int) (xs : List (Nat × Nat)) : Int × Int × Int × Bool × Int × Bool :=
  if seeL p0 p1 back xs = [] then (0, 0, 0, false, 0, false)
  else ((rd_T28 (seeL p0 p1 back xs) ((min n 1073741824 - 1) % ((seeL p0 p1 back xs).length : Int))).f0, (rd_T28 (seeL p0 p1 back xs) ((min n 1073741824 - 1) % ((seeL p0 p1 back xs).length : Int))).f1, 0, true, -1, true)
def outV (r : Int × Int × Int × Bool × Int × Bool) : Value := .tuple #[MoveV r.1 r.2.1 r.2.2.1 r.2.2.2.1 r.2.2.2.2.1, .bool r.2.2.2.2.2]

theorem ret12 {w W5 : World} {tmps : Array Value} {D B : Nat} {b0 b1 b2 b4 : Int} {b3 : Bool} {r : Int × Int × Int × Bool × Int × Bool} (hM : MoveBox W5 B b0 b1 b2 b3 b4) (hK : W5.heap[D]? = some (.deferred (some []))) (hb : Below w.heap.size w W5) (hB : w.heap.size ≤ B) (hD : w.heap.size ≤ D)
    (h10 : tmps.getD 10 undef = .pointer (some ⟨B, 0, none⟩)) (h11 : tmps.getD 11 undef = .bool r.2.2.2.2.2) :
    bodyPostM Fence.wide 5 Try.prog Try.f12 (fun e w' => e = .returned (outV r) ∧ Below w.heap.size w w') .ret { tmps := tmps, defers := [{ target := .collected D, args := #[] }] }
      (((((W5.setCell ⟨B, 0, none⟩ (.int .i64 r.1)).setCell ⟨B, 1, none⟩ (.int .i64 r.2.1)).setCell ⟨B, 2, none⟩ (.int .i64 r.2.2.1)).setCell ⟨B, 3, none⟩ (.bool r.2.2.2.1)).setCell ⟨B, 4, none⟩ (.int .i64 r.2.2.2.2.1)) := by
  have hM6 := hM.stored (a' := r.1) (b' := r.2.1) (c' := r.2.2.1) (d' := r.2.2.2.1) (e' := r.2.2.2.2.1)
  have hb6 := ((((hb.setCell (p := ⟨B, 0, none⟩) hB (.int .i64 r.1)).setCell (p := ⟨B, 1, none⟩) hB (.int .i64 r.2.1)).setCell (p := ⟨B, 2, none⟩) hB (.int .i64 r.2.2.1)).setCell (p := ⟨B, 3, none⟩) hB (.bool r.2.2.2.1)).setCell (p := ⟨B, 4, none⟩) hB (.int .i64 r.2.2.2.2.1)
  have hK6 := (KeepsOthers.setCell _ ⟨B, 4, none⟩ (.int .i64 r.2.2.2.2.1)).same D _ ((KeepsOthers.setCell _ ⟨B, 3, none⟩ (.bool r.2.2.2.1)).same D _ ((KeepsOthers.setCell _ ⟨B, 2, none⟩ (.int .i64 r.2.2.1)).same D _ ((KeepsOthers.setCell _ ⟨B, 1, none⟩ (.int .i64 r.2.1)).same D _ ((KeepsOthers.setCell _ ⟨B, 0, none⟩ (.int .i64 r.1)).same D _ hK rfl) rfl) rfl) rfl) rfl
  have hne : B ≠ D := by rintro rfl; rw [show W5.heap[B]? = _ from hM] at hK; cases hK
  revert hM6 hb6 hK6
  generalize (((((W5.setCell ⟨B, 0, none⟩ (.int .i64 r.1)).setCell ⟨B, 1, none⟩ (.int .i64 r.2.1)).setCell ⟨B, 2, none⟩ (.int .i64 r.2.2.1)).setCell ⟨B, 3, none⟩ (.bool r.2.2.2.1)).setCell ⟨B, 4, none⟩ (.int .i64 r.2.2.2.2.1)) = W6
  intro hM6 hb6 hK6
  refine ⟨by simp, .inl ⟨_, _, rfl, run_takeDeferred hK6, ?_⟩⟩
  exact ⟨_, res12 h10 h11 (show MoveBox _ B _ _ _ _ _ from (World.putObj_heap_other (by omega)).trans hM6), rfl, hb6.trans (belowK_b (w := w) (Nat.le_refl _) W6 D _ _ hD hK6 rfl rfl)⟩

set_option maxRecDepth 100000 in
set_option maxHeartbeats 1000000 in
theorem search_on (w : World) (A : Option Addr) (c : Nat) (lines : List ByteArray) (p0 p1 : Int) (pat : ByteArray) (back : Bool) (n : Int) (hn : ¬ n < 1) (hC : Kd.C Kd.string w A lines.length lines) (hc : lines.length ≤ c) (hp : placeB lines p0 p1 = true)
    (hl : lines.length ≤ 9223372036854775806) (hsz : ∀ s ∈ lines, s.size ≤ 9223372036854775806) (hps : pat.size ≤ 9223372036854775806) (hocc : (allOcc lines pat).length ≤ 100000) :
    CallsIn Fence.wide 5 Try.prog 12 #[.slice A lines.length c, .agg #[.int .i64 p0, .int .i64 p1], .string pat, .bool back, .int .i64 n] w fun e w' =>
      e = .returned (outV (searchR p0 p1 back n (allOcc lines pat))) ∧ Below w.heap.size w w' := by
  obtain ⟨r, hr⟩ : ∃ r, searchR p0 p1 back n (allOcc lines pat) = r := ⟨_, rfl⟩
  rw [hr]
  have hn0 : decide (n < 1) = false := decide_eq_false hn
  have hPl := class_Place.calls A c lines p0 p1 true
  have hq : class_Place.f lines p0 p1 = some true := by rw [place_is, hp]
  have hB0 : Below w.heap.size w ((w.alloc (.cells #[.int .i64 p0, .int .i64 p1] 28)).alloc (.cells #[.int .i64 0, .int .i64 0, .int .i64 0, .bool false, .int .i64 0] 30)) := ((Below.refl _ w).alloc (Nat.le_refl _) _).alloc (by simp) _
  have hP := hPl _ (Kd.C_below hC hB0) hc hq
  clear hPl
  refine callsIn_of_wp_marks Try.func12 rfl trivial ?_ rfl
  simp only [Try.ntmps12, List.size_toArray, List.length_cons, List.length_nil, Nat.reduceAdd, Nat.reduceSub, Array.replicate_succ, Array.replicate_zero, List.push_toArray, List.append_toArray, List.nil_append, List.cons_append]
  have hM0 : MoveBox ((w.alloc (.cells #[.int .i64 p0, .int .i64 p1] 28)).alloc (.cells #[.int .i64 0, .int .i64 0, .int .i64 0, .bool false, .int .i64 0] 30)) (w.heap.size + 1) 0 0 0 false 0 := by
    have h := World.alloc_heap_new (w.alloc (.cells #[.int .i64 p0, .int .i64 p1] 28)) (.cells #[.int .i64 0, .int .i64 0, .int .i64 0, .bool false, .int .i64 0] 30)
    rw [World.size_alloc] at h; exact h
  have cp0 : ((w.alloc (.cells #[.int .i64 p0, .int .i64 p1] 28)).alloc (.cells #[.int .i64 0, .int .i64 0, .int .i64 0, .bool false, .int .i64 0] 30)).cell? ⟨w.heap.size, 0, none⟩ = some (.int .i64 p0) := by go_simp
  gi_wp2_with (first | (gi_at_call 24; refine (callsIn_wide.2 hP).mono ?_; rintro e w' ⟨rfl, hb⟩) | (gi_at_call 18; refine (callsIn_wide.2 (all_calls _ _ _ _ _)).mono ?_; rintro e w2 ⟨rfl, rfl⟩))
  have hPB : PosBox w' w.heap.size p0 p1 := by
    refine (hb.block _ (by simp; omega)).trans ?_
    exact (Below.heap_alloc _ _ _ (by simp)).trans (World.alloc_heap_new w _)
  have hM : MoveBox w' (w.heap.size + 1) 0 0 0 false 0 := (hb.block _ (by simp)).trans hM0
  have hsz1 : w.heap.size + 2 ≤ w'.heap.size := by have := hb.size; simp at this; omega
  have hC1 : Kd.C Kd.string w' A lines.length lines := Kd.C_below (Kd.C_below hC hB0) hb
  have bA := (((Boxed.new w' 25 (.slice none 0 0)).alloc (.cells #[.slice none 0 0] 25)).alloc (.cells #[.slice none 0 0] 25)).alloc (.cells #[.slice A lines.length c] 22) |>.alloc (.cells #[.string pat] 9)
  have bB := (((Boxed.new (w'.alloc (.cells #[.slice none 0 0] 25)) 25 (.slice none 0 0)).alloc (.cells #[.slice none 0 0] 25)).alloc (.cells #[.slice A lines.length c] 22)).alloc (.cells #[.string pat] 9)
  have bO := ((Boxed.new ((w'.alloc (.cells #[.slice none 0 0] 25)).alloc (.cells #[.slice none 0 0] 25)) 25 (.slice none 0 0)).alloc (.cells #[.slice A lines.length c] 22)).alloc (.cells #[.string pat] 9)
  have bL := (Boxed.new (((w'.alloc (.cells #[.slice none 0 0] 25)).alloc (.cells #[.slice none 0 0] 25)).alloc (.cells #[.slice none 0 0] 25)) 22 (.slice A lines.length c)).alloc (.cells #[.string pat] 9)
  have bP := Boxed.new ((((w'.alloc (.cells #[.slice none 0 0] 25)).alloc (.cells #[.slice none 0 0] 25)).alloc (.cells #[.slice none 0 0] 25)).alloc (.cells #[.slice A lines.length c] 22)) 9 (.string pat)
  simp only [World.size_alloc] at bA bB bO bL bP
  have hB1 : Below w'.heap.size w' (((((w'.alloc (.cells #[.slice none 0 0] 25)).alloc (.cells #[.slice none 0 0] 25)).alloc (.cells #[.slice none 0 0] 25)).alloc (.cells #[.slice A lines.length c] 22)).alloc (.cells #[.string pat] 9)) :=
    (((((Below.refl _ w').alloc (Nat.le_refl _) _).alloc (by simp) _).alloc (by simp; omega) _).alloc (by simp; omega) _).alloc (by simp; omega) _
  have hsz2 : (((((w'.alloc (.cells #[.slice none 0 0] 25)).alloc (.cells #[.slice none 0 0] 25)).alloc (.cells #[.slice none 0 0] 25)).alloc (.cells #[.slice A lines.length c] 22)).alloc (.cells #[.string pat] 9)).heap.size = w'.heap.size + 5 := by simp
  obtain ⟨W0, hW0⟩ : ∃ W0, (((((w'.alloc (.cells #[.slice none 0 0] 25)).alloc (.cells #[.slice none 0 0] 25)).alloc (.cells #[.slice none 0 0] 25)).alloc (.cells #[.slice A lines.length c] 22)).alloc (.cells #[.string pat] 9)) = W0 := ⟨_, rfl⟩
  rw [hW0] at bA bB bO bL bP hB1 hsz2 ⊢
  clear hW0
  refine wpIn_rangeFunc_ownH rfl (by decide) (gf := 30) (lb := #[.pointer (some ⟨w'.heap.size + 1 + 1 + 1 + 1, 0, none⟩), .pointer (some ⟨w'.heap.size + 1 + 1 + 1, 0, none⟩)]) rfl trivial (enters_of Try.func30 (by kernel_rfl) rfl)
    (all_stops 4 (by decide) (w'.heap.size + 1 + 1 + 1 + 1) (w'.heap.size + 1 + 1 + 1) w' W0 A c lines pat hl hsz hps hC1 bP bL hB1) kpF_t (kpF_b (by omega)) (Below.refl _ _) (fun _ => rfl)
    (fun pre W => Trio W w'.heap.size w'.heap.size (w'.heap.size + 1) (w'.heap.size + 1 + 1) (aheadL p0 p1 pre) (behindL p0 p1 pre) (ownL p0 p1 pre) ∧ Below w'.heap.size w' W)
    (fun _ _ _ => False)
    (OwnFrom.and (Own.from (Trio.own _ _ _ _ (aheadL p0 p1) (behindL p0 p1) (ownL p0 p1)) _) (ownFrom_below (Nat.le_refl _) (by omega)))
    (fun _ _ _ _ _ hs _ _ => hs)
    ⟨⟨_, _, _, ⟨bA, bB, bO⟩, Kd.R_nil _ _ _ _ _, Kd.R_nil _ _ _ _ _, Kd.R_nil _ _ _ _ _⟩, hB1⟩
    (fun x a' W => ∃ Bx, PosBox W Bx x.1 x.2 ∧ a' = { tmps := #[Value.slice A lines.length c, Value.agg #[Value.int IntKind.i64 p0, Value.int IntKind.i64 p1], Value.string pat, Value.bool back, Value.int IntKind.i64 n, undef, Value.pointer (some { block := w.heap.size, off := 0 }), undef, undef, undef, Value.pointer (some { block := w.heap.size + 1, off := 0 }), Value.bool false, Value.pointer (some { block := w'.heap.size, off := 0 }), Value.pointer (some { block := w'.heap.size + 1, off := 0 }), Value.pointer (some { block := w'.heap.size + 1 + 1, off := 0 }), Value.pointer (some { block := Bx, off := 0 }), undef, undef, Value.int IntKind.i64 n, Value.bool false, Value.bool false, Value.slice A lines.length c, Value.agg #[Value.int IntKind.i64 p0, Value.int IntKind.i64 p1], Value.bool true, Value.bool false, Value.bool false, undef, Value.slice A lines.length c, Value.string pat, Value.func (Fn.func 30) #[] #[Value.pointer (some { block := w'.heap.size + 1 + 1 + 1 + 1, off := 0 }), Value.pointer (some { block := w'.heap.size + 1 + 1 + 1, off := 0 })], .agg #[.int .i64 (x.1 : Int), .int .i64 (x.2 : Int)], undef, undef, undef, undef, undef, undef, undef, undef, undef, undef, undef, undef, undef, undef, undef, undef, undef, undef, undef, undef, undef, undef, undef, undef, undef, undef, undef, undef, undef, undef, undef, undef, undef, undef, undef, undef, undef, undef, undef, undef, undef, undef, undef, undef, undef, undef, undef], defers := [] })
    (fun x a' _ X Y row hs hg hr => by obtain ⟨Bx, h1, h2⟩ := hs; exact ⟨Bx, PosBox.own Bx (fun (_ : Unit) => (x.1 : Int)) (fun _ => (x.2 : Int)) () X Y row h1 hg (fun r e => (hr r e).2), h2⟩)
    ?assign ?body ?done ?stop
  case assign =>
    rintro l pre x W K ⟨hT, hB⟩ hK
    simp only [encP]
    gi_wp2
    exact hK _ _ ((KeepsOthers.alloc _ _).from _) ⟨(Below.refl _ W).alloc hB.size _, fun h => h.alloc _⟩ ⟨hT.below ((Below.refl _ W).alloc (Nat.le_refl _) _), hB.alloc hB.size _⟩ ⟨W.heap.size, World.alloc_heap_new W _, rfl⟩
  case body =>
    rintro l pre x a' W hl _ ⟨hT, hB⟩ ⟨Bx, bX, rfl⟩ hlt
    obtain ⟨x0, x1⟩ := bX.cells
    obtain ⟨q0, q1⟩ := (show PosBox W w.heap.size p0 p1 from (hB.block _ (by omega)).trans hPB).cells
    have hkb : ∀ {X Y : World}, Below X.heap.size X Y → KeepsFrom W0.heap.size X Y := fun {X Y} h => ⟨h.size, fun k o _ hk _ => (h.block k (Array.getElem?_eq_some_iff.1 hk).1).trans hk⟩
    have hpb : ∀ {X Y : World}, w'.heap.size ≤ X.heap.size → Below X.heap.size X Y → KpF w'.heap.size (w'.heap.size + 1 + 1 + 1 + 1) pat X Y := fun {X Y} hs h => ⟨h.mono hs, fun b => (h.block _ b.lt).trans b⟩
    have hla : (aheadL p0 p1 pre).length ≤ pre.length := by unfold aheadL; rw [List.length_map]; exact List.length_filter_le _ _
    have hlb : (behindL p0 p1 pre).length ≤ pre.length := by unfold behindL; rw [List.length_map]; exact List.length_filter_le _ _
    have hlo : (ownL p0 p1 pre).length ≤ pre.length := by unfold ownL; rw [List.length_map]; exact List.length_filter_le _ _
    have hL1 : ∀ X, Calls Try.prog 25 #[.agg #[.int .i64 (x.1 : Int), .int .i64 (x.2 : Int)], .agg #[.int .i64 p0, .int .i64 p1]] X fun e w' => e = .returned (.bool (lessB x.1 x.2 p0 p1)) ∧ Below X.heap.size X w' := fun X => span_Less.calls _ _ _ _ _ X (less_is _ _ _ _)
    have hL2 : ∀ X, Calls Try.prog 25 #[.agg #[.int .i64 p0, .int .i64 p1], .agg #[.int .i64 (x.1 : Int), .int .i64 (x.2 : Int)]] X fun e w' => e = .returned (.bool (lessB p0 p1 x.1 x.2)) ∧ Below X.heap.size X w' := fun X => span_Less.calls _ _ _ _ _ X (less_is _ _ _ _)
    cases h1 : lessB x.1 x.2 p0 p1 with
    | true =>
      rw [h1] at hL1
      have hs1 := ahead_snoc p0 p1 pre x
      have hs2 := behind_snoc p0 p1 pre x
      have hs3 := own_snoc p0 p1 pre x
      simp [h1] at hs1 hs2 hs3
      gi_wp2_with (first
        | (gi_at_call 25; refine (CallsIn.inRound l (callsIn_wide.2 (hL1 _))).mono ?_; clear hL1; rintro e W2 ⟨rfl, hb2⟩; obtain ⟨va, vb, vo, ⟨b1, b2, b3⟩, r1, r2, r3⟩ := hT.below hb2; have c1 := b1.cell; have bX2 : PosBox W2 Bx x.1 x.2 := (hb2.block _ bX.lt).trans bX; obtain ⟨y0, y1⟩ := bX2.cells)
        | (gi_at_builtin; refine R_append_in k28 (W := W2) w'.heap.size rfl _ _ 25 28 (.agg #[.int .i64 0, .int .i64 0]) 16 rfl Try.underlying25 info28 rfl (by decide) (by decide) va (aheadL p0 p1 pre) (toS x) [.int .i64 (x.1 : Int), .int .i64 (x.2 : Int)] _ (fun _ => False) rfl rfl (k28_mkM _ _ _ _) (fun k h => h.elim) (fun k hk => ⟨fun e => by have := Kd.R_lt r2 k e.symm; omega, fun e => by have := Kd.R_lt r3 k e.symm; omega⟩) r1 (Nat.le_trans hB.size hb2.size) (by omega) ?_; intro g cap w1 hR hg hat; have c2 := (boxed_grown b1 r1 (by decide) hg).cell; have f2 := (boxed_grown b1 r1 (by decide) hg).frozen))
      obtain ⟨t1, t2, t3⟩ := Trio.push (B := W0.heap.size) (Bp := w'.heap.size + 1 + 1 + 1 + 1) (pat := pat) b1 b2 b3 (by omega) (by omega) (Nat.le_refl _) (Nat.le_trans hB.size hb2.size) r1 r2 r3 hR hg hat
      exact ⟨(hkb hb2).trans t2, kpF_t (hpb hB.size hb2) t3, by rw [hs1, hs2, hs3]; exact t1, hB.trans (kpF_t (hpb hB.size hb2) t3).1⟩
    | false =>
      rw [h1] at hL1
      cases h2 : lessB p0 p1 x.1 x.2 with
      | true =>
        rw [h2] at hL2
        have hs1 := ahead_snoc p0 p1 pre x
        have hs2 := behind_snoc p0 p1 pre x
        have hs3 := own_snoc p0 p1 pre x
        simp [h1, h2] at hs1 hs2 hs3
        gi_wp2_with (first
          | (gi_at_call 25; refine (CallsIn.inRound l (callsIn_wide.2 (hL1 _))).mono ?_; clear hL1; rintro e W2 ⟨rfl, hb2⟩; have bX2 : PosBox W2 Bx x.1 x.2 := (hb2.block _ bX.lt).trans bX; obtain ⟨y0, y1⟩ := bX2.cells; obtain ⟨z0, z1⟩ := (show PosBox W2 w.heap.size p0 p1 from (hb2.block _ (Nat.lt_of_lt_of_le (by omega) hB.size)).trans ((hB.block _ (by omega)).trans hPB)).cells)
          | (gi_at_call 25; refine (CallsIn.inRound l (callsIn_wide.2 (hL2 _))).mono ?_; clear hL2; rintro e W3 ⟨rfl, hb3⟩; obtain ⟨vb, va, vo, ⟨b1, b2, b3⟩, r1, r2, r3⟩ := ((hT.below hb2).below hb3).swap; have c1 := b1.cell; have bX3 : PosBox W3 Bx x.1 x.2 := (hb3.block _ bX2.lt).trans bX2; obtain ⟨u0, u1⟩ := bX3.cells)
          | (gi_at_builtin; refine R_append_in k28 (W := W3) w'.heap.size rfl _ _ 25 28 (.agg #[.int .i64 0, .int .i64 0]) 16 rfl Try.underlying25 info28 rfl (by decide) (by decide) vb (behindL p0 p1 pre) (toS x) [.int .i64 (x.1 : Int), .int .i64 (x.2 : Int)] _ (fun _ => False) rfl rfl (k28_mkM _ _ _ _) (fun k h => h.elim) (fun k hk => ⟨fun e => by have := Kd.R_lt r2 k e.symm; omega, fun e => by have := Kd.R_lt r3 k e.symm; omega⟩) r1 (Nat.le_trans (Nat.le_trans hB.size hb2.size) hb3.size) (by omega) ?_; intro g cap w1 hR hg hat; have c2 := (boxed_grown b1 r1 (by decide) hg).cell; have f2 := (boxed_grown b1 r1 (by decide) hg).frozen))
        obtain ⟨t1, t2, t3⟩ := Trio.push (B := W0.heap.size) (Bp := w'.heap.size + 1 + 1 + 1 + 1) (pat := pat) b1 b2 b3 (by omega) (by omega) (by omega) (Nat.le_trans (Nat.le_trans hB.size hb2.size) hb3.size) r1 r2 r3 hR hg hat
        exact ⟨((hkb hb2).trans (hkb hb3)).trans t2, kpF_t (kpF_t (hpb hB.size hb2) (hpb (Nat.le_trans hB.size hb2.size) hb3)) t3, by rw [hs1, hs2, hs3]; exact t1.swap, hB.trans (kpF_t (kpF_t (hpb hB.size hb2) (hpb (Nat.le_trans hB.size hb2.size) hb3)) t3).1⟩
      | false =>
        rw [h2] at hL2
        have hs1 := ahead_snoc p0 p1 pre x
        have hs2 := behind_snoc p0 p1 pre x
        have hs3 := own_snoc p0 p1 pre x
        simp [h1, h2] at hs1 hs2 hs3
        gi_wp2_with (first
          | (gi_at_call 25; refine (CallsIn.inRound l (callsIn_wide.2 (hL1 _))).mono ?_; clear hL1; rintro e W2 ⟨rfl, hb2⟩; have bX2 : PosBox W2 Bx x.1 x.2 := (hb2.block _ bX.lt).trans bX; obtain ⟨y0, y1⟩ := bX2.cells; obtain ⟨z0, z1⟩ := (show PosBox W2 w.heap.size p0 p1 from (hb2.block _ (Nat.lt_of_lt_of_le (by omega) hB.size)).trans ((hB.block _ (by omega)).trans hPB)).cells)
          | (gi_at_call 25; refine (CallsIn.inRound l (callsIn_wide.2 (hL2 _))).mono ?_; clear hL2; rintro e W3 ⟨rfl, hb3⟩; obtain ⟨vo, vb, va, ⟨b1, b2, b3⟩, r1, r2, r3⟩ := ((hT.below hb2).below hb3).turn; have c1 := b1.cell; have bX3 : PosBox W3 Bx x.1 x.2 := (hb3.block _ bX2.lt).trans bX2; obtain ⟨u0, u1⟩ := bX3.cells)
          | (gi_at_builtin; refine R_append_in k28 (W := W3) w'.heap.size rfl _ _ 25 28 (.agg #[.int .i64 0, .int .i64 0]) 16 rfl Try.underlying25 info28 rfl (by decide) (by decide) vo (ownL p0 p1 pre) (toS x) [.int .i64 (x.1 : Int), .int .i64 (x.2 : Int)] _ (fun _ => False) rfl rfl (k28_mkM _ _ _ _) (fun k h => h.elim) (fun k hk => ⟨fun e => by have := Kd.R_lt r2 k e.symm; omega, fun e => by have := Kd.R_lt r3 k e.symm; omega⟩) r1 (Nat.le_trans (Nat.le_trans hB.size hb2.size) hb3.size) (by omega) ?_; intro g cap w1 hR hg hat; have c2 := (boxed_grown b1 r1 (by decide) hg).cell; have f2 := (boxed_grown b1 r1 (by decide) hg).frozen))
        obtain ⟨t1, t2, t3⟩ := Trio.push (B := W0.heap.size) (Bp := w'.heap.size + 1 + 1 + 1 + 1) (pat := pat) b1 b2 b3 (by omega) (by omega) (by omega) (Nat.le_trans (Nat.le_trans hB.size hb2.size) hb3.size) r1 r2 r3 hR hg hat
        exact ⟨((hkb hb2).trans (hkb hb3)).trans t2, kpF_t (kpF_t (hpb hB.size hb2) (hpb (Nat.le_trans hB.size hb2.size) hb3)) t3, by rw [hs1, hs2, hs3]; exact t1.turn, hB.trans (kpF_t (kpF_t (hpb hB.size hb2) (hpb (Nat.le_trans hB.size hb2.size) hb3)) t3).1⟩
  case done =>
    rintro D ys W hD rfl ⟨hT, hB⟩ hK
    obtain ⟨va, vb, vo, ⟨b1, b2, b3⟩, r1, r2, r3⟩ := hT
    have hla : (aheadL p0 p1 (allOcc lines pat)).length + (behindL p0 p1 (allOcc lines pat)).length + (ownL p0 p1 (allOcc lines pat)).length ≤ 100000 := by
      refine Nat.le_trans (Nat.le_of_eq ?_) hocc
      generalize allOcc lines pat = zs
      induction zs with
      | nil => rfl
      | cons z zs ih =>
        unfold aheadL behindL ownL at ih ⊢
        cases h1 : lessB z.1 z.2 p0 p1 <;> cases h2 : lessB p0 p1 z.1 z.2 <;> simp [h1, h2] at ih ⊢ <;> omega
    obtain ⟨la, hA⟩ : ∃ la, aheadL p0 p1 (allOcc lines pat) = la := ⟨_, rfl⟩
    obtain ⟨lb, hBe⟩ : ∃ lb, behindL p0 p1 (allOcc lines pat) = lb := ⟨_, rfl⟩
    obtain ⟨lo, hO⟩ : ∃ lo, ownL p0 p1 (allOcc lines pat) = lo := ⟨_, rfl⟩
    have hsee : seeL p0 p1 back (allOcc lines pat) = if back = true then la.reverse ++ lb.reverse ++ lo else lb ++ la ++ lo := by unfold seeL; rw [hA, hBe, hO]
    unfold searchR at hr
    rw [hsee] at hr
    rw [hA] at r1 hla
    rw [hBe] at r2 hla
    rw [hO] at r3 hla
    clear hsee hA hBe hO hocc
    have c1 := b1.cell
    have c2 := b2.cell
    have c3 := b3.cell
    have hMW : MoveBox W (w.heap.size + 1) 0 0 0 false 0 := (hB.block _ (by omega)).trans hM
    have hww : Below w.heap.size w W := (hB0.trans (hb.mono (by simp; omega))).trans (hB.mono (by omega))
    cases back with
    | false =>
      obtain ⟨A1, k1, rfl, e1, C1⟩ := Kd.R_reads r1
      obtain ⟨A2, k2, rfl, e2, C2⟩ := Kd.R_reads r2
      obtain ⟨A3, k3, rfl, e3, C3⟩ := Kd.R_reads r3
      have hcat := concat3 (W.alloc (.cells #[.slice A2 lb.length k2, .slice A1 la.length k1, .slice A3 lo.length k3] 25)) W.heap.size A2 A1 A3 k2 k1 k3 lb la lo (World.alloc_heap_new W _) (Kd.C_alloc C2 _) (Kd.C_alloc C1 _) (Kd.C_alloc C3 _) e2 e1 e3 (by omega)
      obtain ⟨L, hL⟩ : ∃ L, lb ++ la ++ lo = L := ⟨_, rfl⟩
      rw [if_neg (by simp : ¬ (false = true)), hL] at hr
      rw [hL] at hcat
      have hlt6 : ∀ k, k < W.heap.size → k < (W.alloc (.cells #[.slice A2 lb.length k2, .slice A1 la.length k1, .slice A3 lo.length k3] 25)).heap.size := fun k hk => by simp; omega
      have hwa : Below w.heap.size w (W.alloc (.cells #[.slice A2 lb.length k2, .slice A1 la.length k1, .slice A3 lo.length k3] 25)) := hww.alloc hww.size _
      have hMa : MoveBox (W.alloc (.cells #[.slice A2 lb.length k2, .slice A1 la.length k1, .slice A3 lo.length k3] 25)) (w.heap.size + 1) 0 0 0 false 0 := (Below.heap_alloc _ _ _ (by have := hB.size; omega)).trans hMW
      have hKa : (W.alloc (.cells #[.slice A2 lb.length k2, .slice A1 la.length k1, .slice A3 lo.length k3] 25)).heap[D]? = some (.deferred (some [])) := (Below.heap_alloc _ _ _ (Array.getElem?_eq_some_iff.1 hK).1).trans hK
      have hDa := (Array.getElem?_eq_some_iff.1 hKa).1
      have hMla := (Array.getElem?_eq_some_iff.1 hMa).1
      by_cases hL0 : L = []
      · rw [if_pos hL0] at hr
        subst hL0
        gi_wp2_with (gi_at_call 27; refine (callsIn_wide.2 hcat).mono ?_; clear hcat; rintro e W5 ⟨v, rfl, hR5, hb5⟩; obtain ⟨A5, k5, rfl, e5, C5⟩ := Kd.R_reads hR5; have hM5 : MoveBox W5 (w.heap.size + 1) 0 0 0 false 0 := (hb5.block _ hMla).trans hMa; obtain ⟨⟨m0, m1, m2, m3, m4⟩, f0, f1, f2, f3, f4⟩ := hM5.cells)
        subst hr
        exact ret12 (r := (0, 0, 0, false, 0, false)) hM5 ((hb5.block _ hDa).trans hKa) (hwa.trans (hb5.mono hwa.size)) (by omega) (by omega) rfl rfl
      · rw [if_neg hL0] at hr
        have hpos : 0 < L.length := List.length_pos_iff.2 hL0
        have i0 := Int.emod_nonneg (n - 1) (show (L.length : Int) ≠ 0 by omega)
        have i1 := Int.emod_lt_of_pos (n - 1) (show (0 : Int) < (L.length : Int) by omega)
        have j0 := Int.emod_nonneg 1073741823 (show (L.length : Int) ≠ 0 by omega)
        have j1 := Int.emod_lt_of_pos 1073741823 (show (0 : Int) < (L.length : Int) by omega)
        have hjn : ((1073741823 : Int) % (L.length : Int)).toNat = 1073741823 % L.length := by rw [show (1073741823 : Int) = ((1073741823 : Nat) : Int) from rfl, ← Int.natCast_emod, Int.toNat_natCast]
        have i2 := eq_true i0
        have i3 := eq_true i1
        have j2 := eq_true j0
        have j3 := eq_true j1
        gi_wp2_with (gi_at_call 27; refine (callsIn_wide.2 hcat).mono ?_; clear hcat; rintro e W5 ⟨v, rfl, hR5, hb5⟩; obtain ⟨A5, k5, rfl, e5, C5⟩ := Kd.R_reads hR5; obtain ⟨ad, rfl, y0, y1⟩ := at_T28 C5 ((n - 1) % (L.length : Int)) i0 i1; obtain ⟨ad', ea, z0, z1⟩ := at_T28 C5 (1073741823 % (L.length : Int)) j0 j1; cases ea; rw [hjn] at z0 z1; have hM5 : MoveBox W5 (w.heap.size + 1) 0 0 0 false 0 := (hb5.block _ hMla).trans hMa; obtain ⟨⟨m0, m1, m2, m3, m4⟩, f0, f1, f2, f3, f4⟩ := hM5.cells)
        all_goals first
          | (have hm : min n 1073741824 - 1 = 1073741823 := by omega
             rw [hm] at hr
             subst hr
             exact ret12 (r := (_, _, 0, true, -1, true)) hM5 ((hb5.block _ hDa).trans hKa) (hwa.trans (hb5.mono hwa.size)) (by omega) (by omega) rfl rfl)
          | (have hm : min n 1073741824 - 1 = n - 1 := by omega
             rw [hm] at hr
             subst hr
             exact ret12 (r := (_, _, 0, true, -1, true)) hM5 ((hb5.block _ hDa).trans hKa) (hwa.trans (hb5.mono hwa.size)) (by omega) (by omega) rfl rfl)
    | true =>
      obtain ⟨A1, k1, rfl⟩ := Kd.R_slice r1
      obtain ⟨A2, k2, rfl⟩ := Kd.R_slice r2
      obtain ⟨A3, k3, rfl⟩ := Kd.R_slice r3
      obtain ⟨g1, hg1⟩ := reverse_is la (by omega)
      obtain ⟨g2, hg2⟩ := reverse_is lb (by omega)
      have hRev1 := api_Pos_26.calls g1 (fun k => (Value.slice A1 la.length k1).ownBlock = some k) (.slice A1 la.length k1) la la.reverse w' W hB (R_tight r1) hg1
      obtain ⟨L, hL⟩ : ∃ L, la.reverse ++ lb.reverse ++ lo = L := ⟨_, rfl⟩
      rw [if_pos (rfl : true = true), hL] at hr
      have hX : ∀ W2 W3 : World, Kd.R k28 28 W2 w'.heap.size (fun k_ => ((Value.slice A1 la.length k1).ownBlock = some k_ ∨ W.heap.size ≤ k_)) (.slice A1 la.length k1) la.reverse → Kept W W2 (fun k_ => (Value.slice A1 la.length k1).ownBlock = some k_) →
          Kd.R k28 28 W3 w'.heap.size (fun k_ => ((Value.slice A2 lb.length k2).ownBlock = some k_ ∨ W2.heap.size ≤ k_)) (.slice A2 lb.length k2) lb.reverse → Below w'.heap.size w' W3 → Kept W2 W3 (fun k_ => (Value.slice A2 lb.length k2).ownBlock = some k_) →
          ∃ X, X = (W3.setCell ⟨w'.heap.size, 0, none⟩ (.slice A2 lb.length k2)).setCell ⟨w'.heap.size + 1, 0, none⟩ (.slice A1 la.length k1) ∧
            (W3.cell? ⟨w'.heap.size, 0, none⟩ = some (.slice A1 la.length k1) ∧ W3.cell? ⟨w'.heap.size + 1, 0, none⟩ = some (.slice A2 lb.length k2) ∧ W3.frozen? ⟨w'.heap.size, 0, none⟩ = false ∧ W3.frozen? ⟨w'.heap.size + 1, 0, none⟩ = false) ∧
            (X.cell? ⟨w'.heap.size, 0, none⟩ = some (.slice A2 lb.length k2) ∧ X.cell? ⟨w'.heap.size + 1, 0, none⟩ = some (.slice A1 la.length k1) ∧ X.cell? ⟨w'.heap.size + 1 + 1, 0, none⟩ = some (.slice A3 lo.length k3)) ∧
            (Calls Try.prog 27 #[.slice (some ⟨X.heap.size, 0, none⟩) 3 3] (X.alloc (.cells #[.slice A1 la.length k1, .slice A2 lb.length k2, .slice A3 lo.length k3] 25)) fun e w' => ∃ v, e = .returned v ∧ k28.R 28 w' (X.alloc (.cells #[.slice A1 la.length k1, .slice A2 lb.length k2, .slice A3 lo.length k3] 25)).heap.size (fun _ => True) v L ∧ Below (X.alloc (.cells #[.slice A1 la.length k1, .slice A2 lb.length k2, .slice A3 lo.length k3] 25)).heap.size (X.alloc (.cells #[.slice A1 la.length k1, .slice A2 lb.length k2, .slice A3 lo.length k3] 25)) w') ∧
            MoveBox (X.alloc (.cells #[.slice A1 la.length k1, .slice A2 lb.length k2, .slice A3 lo.length k3] 25)) (w.heap.size + 1) 0 0 0 false 0 ∧ (X.alloc (.cells #[.slice A1 la.length k1, .slice A2 lb.length k2, .slice A3 lo.length k3] 25)).heap[D]? = some (.deferred (some [])) ∧ Below w.heap.size w (X.alloc (.cells #[.slice A1 la.length k1, .slice A2 lb.length k2, .slice A3 lo.length k3] 25)) := by
        intro W2 W3 hR2 hk2 hR3 hB3 hk3
        obtain ⟨⟨b1', b2', b3'⟩, r1', r2', r3'⟩ := Trio.kept b1 b2 b3 r1 r2 r3 hR2 hk2
        obtain ⟨⟨b2'', b1'', b3''⟩, r2'', r1'', r3''⟩ := Trio.kept b2' b1' b3' r2' r1' (Kd.R_mono r3' fun _ h => ⟨h.2, h.1⟩) hR3 hk3
        have hK2 : W2.heap[D]? = some (.deferred (some [])) := (hk2.2 D (Array.getElem?_eq_some_iff.1 hK).1 fun e => by obtain ⟨cells, hc⟩ := Kd.R_typed r1 D e; rw [hc] at hK; cases hK).trans hK
        have hK3 : W3.heap[D]? = some (.deferred (some [])) := (hk3.2 D (Array.getElem?_eq_some_iff.1 hK2).1 fun e => by obtain ⟨cells, hc⟩ := Kd.R_typed r2' D e; rw [hc] at hK2; cases hK2).trans hK2
        refine ⟨_, rfl, ⟨b1''.cell, b2''.cell, b1''.frozen, b2''.frozen⟩, ?_⟩
        have d1 := (b1''.set (.slice A2 lb.length k2)).other (show w'.heap.size ≠ w'.heap.size + 1 by omega) (.slice A1 la.length k1)
        have d2 := (b2''.other (show w'.heap.size + 1 ≠ w'.heap.size by omega) (.slice A2 lb.length k2))
        have d2' := d2.set (.slice A1 la.length k1)
        have d3 := (b3''.other (show w'.heap.size + 1 + 1 ≠ w'.heap.size by omega) (.slice A2 lb.length k2)).other (show w'.heap.size + 1 + 1 ≠ w'.heap.size + 1 by omega) (.slice A1 la.length k1)
        have ht : ∀ q, q ∈ (28 : Nat) :: k28.E → q ≠ 25 := by intro q hq; simp [k28, Kd.iso, Kd.pair, Kd.int, Kd.scalar] at hq; omega
        have q1 := Kd.R_set (Kd.R_set r1'' b1'' ht 0 (.slice A2 lb.length k2)) d2 ht 0 (.slice A1 la.length k1)
        have q2 := Kd.R_set (Kd.R_set r2'' b1'' ht 0 (.slice A2 lb.length k2)) d2 ht 0 (.slice A1 la.length k1)
        have q3 := Kd.R_set (Kd.R_set r3'' b1'' ht 0 (.slice A2 lb.length k2)) d2 ht 0 (.slice A1 la.length k1)
        have hKX := (KeepsOthers.setCell _ ⟨w'.heap.size + 1, 0, none⟩ (.slice A1 la.length k1)).same D _ ((KeepsOthers.setCell _ ⟨w'.heap.size, 0, none⟩ (.slice A2 lb.length k2)).same D _ hK3 rfl) rfl
        have hBX := (hB3.setCell (p := ⟨w'.heap.size, 0, none⟩) (Nat.le_refl _) (.slice A2 lb.length k2)).setCell (p := ⟨w'.heap.size + 1, 0, none⟩) (by simp) (.slice A1 la.length k1)
        revert d1 d2' d3 q1 q2 q3 hKX hBX
        generalize (W3.setCell ⟨w'.heap.size, 0, none⟩ (.slice A2 lb.length k2)).setCell ⟨w'.heap.size + 1, 0, none⟩ (.slice A1 la.length k1) = X
        intro d1 d2' d3 q1 q2 q3 hKX hBX
        obtain ⟨l1, e1, C1⟩ := Kd.R_reads' q1
        obtain ⟨l2, e2, C2⟩ := Kd.R_reads' q2
        obtain ⟨l3, e3, C3⟩ := Kd.R_reads' q3
        have hcat := concat3 (X.alloc (.cells #[.slice A1 la.length k1, .slice A2 lb.length k2, .slice A3 lo.length k3] 25)) X.heap.size A1 A2 A3 k1 k2 k3 la.reverse lb.reverse lo (by rw [List.length_reverse, List.length_reverse]; exact World.alloc_heap_new X _) (Kd.C_alloc C1 _) (Kd.C_alloc C2 _) (Kd.C_alloc C3 _) (by rw [List.length_reverse]; exact e1) (by rw [List.length_reverse]; exact e2) e3 (by rw [List.length_reverse, List.length_reverse]; omega)
        rw [hL] at hcat
        have hbx : Below w.heap.size w X := (hB0.trans (hb.mono (by simp; omega))).trans (hBX.mono (by omega))
        exact ⟨⟨d1.cell, d2'.cell, d3.cell⟩, hcat, (Below.heap_alloc _ _ _ (by have := hBX.size; omega)).trans ((hBX.block _ (by omega)).trans hM), (Below.heap_alloc _ _ _ (Array.getElem?_eq_some_iff.1 hKX).1).trans hKX, hbx.alloc hbx.size _⟩
      by_cases hL0 : L = []
      · rw [if_pos hL0] at hr
        subst hL0
        gi_wp2_with (first
          | (gi_at_call 26; refine (callsIn_wide.2 hRev1).mono ?_; clear hRev1; rintro e W2 ⟨rfl, hR2, hB2, hk2⟩; obtain ⟨⟨b1', b2', b3'⟩, r1', r2', r3'⟩ := Trio.kept b1 b2 b3 r1 r2 r3 hR2 hk2; have c2' := b2'.cell)
          | (gi_at_call 26; refine (callsIn_wide.2 (api_Pos_26.calls g2 (fun k => (Value.slice A2 lb.length k2).ownBlock = some k) (.slice A2 lb.length k2) lb lb.reverse w' W2 hB2 (R_tight r2') hg2)).mono ?_; rintro e W3 ⟨rfl, hR3, hB3, hk3⟩; obtain ⟨X, rfl, ⟨y1, y2, y3, y4⟩, ⟨x1, x2, x3⟩, hcat, hMa, hKa, hwa⟩ := hX W2 W3 hR2 hk2 hR3 hB3 hk3; (try rw [World.size_setCell, World.size_setCell] at hcat); have hDa := (Array.getElem?_eq_some_iff.1 hKa).1; have hMla := (Array.getElem?_eq_some_iff.1 hMa).1)
          | (gi_at_call 27; refine (callsIn_wide.2 hcat).mono ?_; clear hcat; rintro e W5 ⟨v, rfl, hR5, hb5⟩; obtain ⟨A5, k5, rfl, e5, C5⟩ := Kd.R_reads hR5; have hM5 : MoveBox W5 (w.heap.size + 1) 0 0 0 false 0 := (hb5.block _ hMla).trans hMa; obtain ⟨⟨m0, m1, m2, m3, m4⟩, f0, f1, f2, f3, f4⟩ := hM5.cells))
        subst hr
        exact ret12 (r := (0, 0, 0, false, 0, false)) hM5 ((hb5.block _ hDa).trans hKa) (hwa.trans (hb5.mono hwa.size)) (by omega) (by omega) rfl rfl
      · rw [if_neg hL0] at hr
        have hpos : 0 < L.length := List.length_pos_iff.2 hL0
        have i0 := Int.emod_nonneg (n - 1) (show (L.length : Int) ≠ 0 by omega)
        have i1 := Int.emod_lt_of_pos (n - 1) (show (0 : Int) < (L.length : Int) by omega)
        have j0 := Int.emod_nonneg 1073741823 (show (L.length : Int) ≠ 0 by omega)
        have j1 := Int.emod_lt_of_pos 1073741823 (show (0 : Int) < (L.length : Int) by omega)
        have hjn : ((1073741823 : Int) % (L.length : Int)).toNat = 1073741823 % L.length := by rw [show (1073741823 : Int) = ((1073741823 : Nat) : Int) from rfl, ← Int.natCast_emod, Int.toNat_natCast]
        have i2 := eq_true i0
        have i3 := eq_true i1
        have j2 := eq_true j0
        have j3 := eq_true j1
        gi_wp2_with (first
          | (gi_at_call 26; refine (callsIn_wide.2 hRev1).mono ?_; clear hRev1; rintro e W2 ⟨rfl, hR2, hB2, hk2⟩; obtain ⟨⟨b1', b2', b3'⟩, r1', r2', r3'⟩ := Trio.kept b1 b2 b3 r1 r2 r3 hR2 hk2; have c2' := b2'.cell)
          | (gi_at_call 26; refine (callsIn_wide.2 (api_Pos_26.calls g2 (fun k => (Value.slice A2 lb.length k2).ownBlock = some k) (.slice A2 lb.length k2) lb lb.reverse w' W2 hB2 (R_tight r2') hg2)).mono ?_; rintro e W3 ⟨rfl, hR3, hB3, hk3⟩; obtain ⟨X, rfl, ⟨y1, y2, y3, y4⟩, ⟨x1, x2, x3⟩, hcat, hMa, hKa, hwa⟩ := hX W2 W3 hR2 hk2 hR3 hB3 hk3; (try rw [World.size_setCell, World.size_setCell] at hcat); have hDa := (Array.getElem?_eq_some_iff.1 hKa).1; have hMla := (Array.getElem?_eq_some_iff.1 hMa).1)
          | (gi_at_call 27; refine (callsIn_wide.2 hcat).mono ?_; clear hcat; rintro e W5 ⟨v, rfl, hR5, hb5⟩; obtain ⟨A5, k5, rfl, e5, C5⟩ := Kd.R_reads hR5; obtain ⟨ad, rfl, u0, u1⟩ := at_T28 C5 ((n - 1) % (L.length : Int)) i0 i1; obtain ⟨ad', ea, z0, z1⟩ := at_T28 C5 (1073741823 % (L.length : Int)) j0 j1; cases ea; rw [hjn] at z0 z1; have hM5 : MoveBox W5 (w.heap.size + 1) 0 0 0 false 0 := (hb5.block _ hMla).trans hMa; obtain ⟨⟨m0, m1, m2, m3, m4⟩, f0, f1, f2, f3, f4⟩ := hM5.cells))
        all_goals first
          | (have hm : min n 1073741824 - 1 = 1073741823 := by omega
             rw [hm] at hr
             subst hr
             exact ret12 (r := (_, _, 0, true, -1, true)) hM5 ((hb5.block _ hDa).trans hKa) (hwa.trans (hb5.mono hwa.size)) (by omega) (by omega) rfl rfl)
          | (have hm : min n 1073741824 - 1 = n - 1 := by omega
             rw [hm] at hr
             subst hr
             exact ret12 (r := (_, _, 0, true, -1, true)) hM5 ((hb5.block _ hDa).trans hKa) (hwa.trans (hb5.mono hwa.size)) (by omega) (by omega) rfl rfl)
  case stop =>
    rintro D c pre W _ _ h _
    exact h.elim

theorem come_length (l : List ByteArray) (p : ByteArray) (k : Nat) (hk : k ≤ l.length) : (come l p k).length ≤ ((l.take k).map ByteArray.size).sum := by
  induction k with
  | zero => simp [come]
  | succ k ih =>
    have h1 := ih (by omega)
    have h2 : (lineTo (l.getD k ByteArray.empty) p k (l.getD k ByteArray.empty).size).length ≤ (l.getD k ByteArray.empty).size := by
      unfold lineTo
      rw [List.length_map]
      exact Nat.le_trans (List.length_filter_le _ _) (by simp)
    rw [List.take_succ_eq_append_getElem (by omega), List.map_append, List.sum_append]
    show (come l p k ++ _).length ≤ _
    rw [List.length_append]
    rw [List.getD_eq_getElem?_getD, List.getElem?_eq_getElem (by omega)] at h2 ⊢
    simp at h1 h2 ⊢
    omega
theorem allOcc_length (l : List ByteArray) (p : ByteArray) : (allOcc l p).length ≤ (l.map ByteArray.size).sum := by
  unfold allOcc
  split
  · simp
  · have := come_length l p l.length (Nat.le_refl _)
    rwa [List.take_length] at this
theorem size_le_sum (l : List ByteArray) (s : ByteArray) (h : s ∈ l) : s.size ≤ (l.map ByteArray.size).sum := by
  induction l with
  | nil => cases h
  | cons a l ih =>
    simp only [List.map_cons, List.sum_cons]
    rcases List.mem_cons.1 h with rfl | h
    · omega
    · have := ih h; omega

/-- Search, within bounds -/
def find_Search.f (l0 : List ByteArray) (a1_0 : Int) (a1_1 : Int) (a2 : ByteArray) (a3 : Bool) (a4 : Int) : Option (Int × Int × Int × Bool × Int × Bool) :=
  if l0.length ≤ 100000 ∧ (l0.map ByteArray.size).sum ≤ 100000 ∧ a2.size ≤ 100000 then some (if a4 < 1 then (0, 0, 0, false, 0, false) else if placeB l0 a1_0 a1_1 = false then (0, 0, 0, false, 0, false) else searchR a1_0 a1_1 a3 a4 (allOcc l0 a2)) else none
theorem find_Search.calls (A0 : Option Addr) (c0 : Nat) (l0 : List ByteArray) (a1_0 : Int) (a1_1 : Int) (a2 : ByteArray) (a3 : Bool) (a4 : Int) (r1 : Int) (r2 : Int) (r3 : Int) (r4 : Bool) (r5 : Int) (r6 : Bool) (w : World) (hr0 : Kd.C Kd.string w A0 l0.length l0) (hc0 : l0.length ≤ c0) (h : find_Search.f l0 a1_0 a1_1 a2 a3 a4 = some (r1, r2, r3, r4, r5, r6)) :
    Calls Try.prog 12 #[.slice A0 l0.length c0, .agg #[.int .i64 a1_0, .int .i64 a1_1], .string a2, .bool a3, .int .i64 a4] w fun e w' => e = .returned (.tuple #[.agg #[.int .i64 r1, .int .i64 r2, .int .i64 r3, .bool r4, .int .i64 r5], .bool r6]) ∧ Below w.heap.size w w' := by
  unfold find_Search.f at h
  by_cases hb : l0.length ≤ 100000 ∧ (l0.map ByteArray.size).sum ≤ 100000 ∧ a2.size ≤ 100000
  · rw [if_pos hb] at h
    have h := Option.some.inj h
    by_cases h4 : a4 < 1
    · rw [if_pos h4] at h
      cases h
      exact callsIn_wide.1 (search_low w A0 c0 l0 a1_0 a1_1 a2 a3 a4 h4)
    · rw [if_neg h4] at h
      by_cases hp : placeB l0 a1_0 a1_1 = false
      · rw [if_pos hp] at h
        cases h
        exact callsIn_wide.1 (search_off w A0 c0 l0 a1_0 a1_1 a2 a3 a4 h4 hr0 hc0 hp)
      · rw [if_neg hp] at h
        have hs := search_on w A0 c0 l0 a1_0 a1_1 a2 a3 a4 h4 hr0 hc0 (by simpa using hp) (by omega) (fun s hs => by have := size_le_sum l0 s hs; omega) (by omega) (by have := allOcc_length l0 a2; omega)
        rw [h] at hs
        exact callsIn_wide.1 hs
  · rw [if_neg hb] at h; cases h
end Go.Proofs.Ytbfoflhfmhfofaa.Ext
