/- find.Search: what it tells. -/
import Derived.Test.YtbfoflhfmhfofaaExtA
import Derived.Test.YtbfoflhfmhfofaaExtR
set_option linter.unusedVariables false
set_option linter.unusedSimpArgs false
namespace Go.Proofs.Ytbfoflhfmhfofaa.Ext
open Go.RowKit Go.Shelf Go.Proofs Go.Proofs.YtbfoflhfmhfofaaW.PrintWords
attribute [local go_sem] Oper.semAt_some
attribute [local go_sem] wide_fn

set_option maxHeartbeats 400000 in
theorem all_calls (A : Option Addr) (c m : Nat) (pat : ByteArray) (w : World) :
    Calls Try.prog 18 #[.slice A m c, .string pat] w fun e w' => e = .returned (.func (.func 30) #[] #[.pointer (some ⟨w.heap.size + 1, 0, none⟩), .pointer (some ⟨w.heap.size, 0, none⟩)]) ∧ w' = (w.alloc (.cells #[.slice A m c] 22)).alloc (.cells #[.string pat] 9) := by
  go_enter Try.func18, Try.ntmps18
  go_wp2
  go_ret
  exact ⟨rfl, rfl⟩

theorem all_stops (n : Nat) (hn : 1 ≤ n) (Bp Bl : Nat) (w w0 : World) (A : Option Addr) (c : Nat) (lines : List ByteArray) (pat : ByteArray)
    (hl : lines.length ≤ 9223372036854775806) (hsz : ∀ s ∈ lines, s.size ≤ 9223372036854775806) (hps : pat.size ≤ 9223372036854775806)
    (hC : Kd.C Kd.string w A lines.length lines) (hBp : Boxed w0 Bp 9 (.string pat)) (hBl : Boxed w0 Bl 22 (.slice A lines.length c)) (hb : Below w.heap.size w w0) :
    SeqStopsK Fence.wide n Try.prog 30 #[.pointer (some ⟨Bp, 0, none⟩), .pointer (some ⟨Bl, 0, none⟩)] (fun x => #[encP x]) (KpF w.heap.size Bp pat) (fun ys => ys = allOcc lines pat) (fun pre => pre <+: allOcc lines pat) (allOcc lines pat).length w0 :=
  fun l J Jx W hW hJ hJx hY h0 => all1_in n hn l Bp Bl w A c lines pat hl hsz hps hC J Jx W
    (fun s X m h => hJ s X _ none h ⟨rfl, rfl, rfl, Nat.le_refl _, fun _ _ _ => rfl⟩ (fun r e => by cases e)) hY
    ((hW.block _ hBp.lt).trans hBp) (show Boxed W Bl 22 _ from (hW.block _ hBl.lt).trans hBl).cell (hb.trans (hW.mono hb.size)) h0

theorem kpF_t {n₀ Bp : Nat} {pat : ByteArray} {A B C : World} (h : KpF n₀ Bp pat A B) (h' : KpF n₀ Bp pat B C) : KpF n₀ Bp pat A C := ⟨h.1.trans h'.1, fun b => h'.2 (h.2 b)⟩
theorem kpF_b {n₀ Bp : Nat} {pat : ByteArray} {w : World} (hn : n₀ ≤ w.heap.size) (W : World) (l : Nat) (o o' : Obj) (hl : w.heap.size ≤ l) (ho : W.heap[l]? = some o) (hc : o.isCells = false) (hw : o.isWalk = false) : KpF n₀ Bp pat W (W.putObj l o') :=
  ⟨belowK_b hn W l o o' hl ho hc hw, fun b => boxed_own Bp 9 (fun (_ : Unit) => Value.string pat) () W _ (some l) b (grownBy_putObj' W l o') (fun r e => by cases e; exact ⟨o, ho, hc⟩)⟩

/-- is a place ahead of another one? -/
def lessB (a0 a1 b0 b1 : Int) : Bool := decide (a0 < b0 ∨ (a0 = b0 ∧ a1 < b1))
theorem less_is (a0 a1 b0 b1 : Int) : span_Less.f a0 a1 b0 b1 = some (lessB a0 a1 b0 b1) := by
  unfold span_Less.f lessB
  by_cases h : a0 < b0
  · rw [if_pos h]; simp [h]
  · rw [if_neg h]
    by_cases h2 : a0 = b0
    · rw [if_pos h2]; simp [h, h2]
    · rw [if_neg h2]; simp [h, h2]
/-- is a place in the text? -/
def placeB (l : List ByteArray) (a b : Int) : Bool := decide (0 ≤ a ∧ a < l.length ∧ 0 ≤ b ∧ b ≤ ((rdOf ByteArray.empty l a).size : Int))
theorem place_is (l : List ByteArray) (a b : Int) : class_Place.f l a b = some (placeB l a b) := by
  unfold class_Place.f placeB
  by_cases h : a ≥ 0
  · rw [if_pos h]
    by_cases h1 : a < (l.length : Int)
    · rw [if_pos h1]
      by_cases h2 : b ≥ 0
      · rw [if_pos h2, if_pos (show 0 ≤ a from h)]; simp [show 0 ≤ a from h, h1, show 0 ≤ b from h2]
      · rw [if_neg h2]; simp [show ¬ 0 ≤ b from h2]
    · rw [if_neg h1]; simp [h1]
  · rw [if_neg h]; simp [show ¬ 0 ≤ a from h]

/-- Search's results: a Move in a box, and a bool -/
def MoveV (a b c : Int) (d : Bool) (e : Int) : Value := .agg #[.int .i64 a, .int .i64 b, .int .i64 c, .bool d, .int .i64 e]
def MoveBox (W : World) (B : Nat) (a b c : Int) (d : Bool) (e : Int) : Prop := W.heap[B]? = some (.cells #[.int .i64 a, .int .i64 b, .int .i64 c, .bool d, .int .i64 e] 30 (0, 0))
theorem MoveBox.cells {W : World} {B : Nat} {a b c : Int} {d : Bool} {e : Int} (h : MoveBox W B a b c d e) :
    (W.cell? ⟨B, 0, none⟩ = some (.int .i64 a) ∧ W.cell? ⟨B, 1, none⟩ = some (.int .i64 b) ∧ W.cell? ⟨B, 2, none⟩ = some (.int .i64 c) ∧ W.cell? ⟨B, 3, none⟩ = some (.bool d) ∧ W.cell? ⟨B, 4, none⟩ = some (.int .i64 e)) ∧
    (W.frozen? ⟨B, 0, none⟩ = false ∧ W.frozen? ⟨B, 1, none⟩ = false ∧ W.frozen? ⟨B, 2, none⟩ = false ∧ W.frozen? ⟨B, 3, none⟩ = false ∧ W.frozen? ⟨B, 4, none⟩ = false) := by
  unfold MoveBox at h
  refine ⟨⟨?_, ?_, ?_, ?_, ?_⟩, ?_, ?_, ?_, ?_, ?_⟩ <;> simp [World.cell?, World.frozen?, h]
theorem MoveBox.stored {W : World} {B : Nat} {a b c a' b' c' e e' : Int} {d d' : Bool} (h : MoveBox W B a b c d e) :
    MoveBox (((((W.setCell ⟨B, 0, none⟩ (.int .i64 a')).setCell ⟨B, 1, none⟩ (.int .i64 b')).setCell ⟨B, 2, none⟩ (.int .i64 c')).setCell ⟨B, 3, none⟩ (.bool d')).setCell ⟨B, 4, none⟩ (.int .i64 e')) B a' b' c' d' e' := by
  unfold MoveBox at h ⊢
  simp only [World.setCell, Array.getElem?_modify, if_true, h, Option.map_some]
  rfl
theorem res12 {tmps : Array Value} {W : World} {B : Nat} {a b c : Int} {d e2 : Bool} {e : Int} (h10 : tmps.getD 10 undef = .pointer (some ⟨B, 0, none⟩)) (h11 : tmps.getD 11 undef = .bool e2) (h : MoveBox W B a b c d e) :
    (results Try.f12 tmps).run Try.prog W = .ok (.tuple #[MoveV a b c d e, .bool e2]) W := by
  obtain ⟨⟨c0, c1, c2, c3, c4⟩, -⟩ := h.cells
  have hr : Try.f12.results = #[.cell 10 30, .tmp 11] := rfl
  rw [Array.getD_eq_getD_getElem?] at h10 h11
  simp [results, hr, h10, h11]
  go_simp
  rfl

set_option maxRecDepth 100000 in
set_option maxHeartbeats 2000000 in
theorem search_low (w : World) (A : Option Addr) (c : Nat) (lines : List ByteArray) (p0 p1 : Int) (pat : ByteArray) (back : Bool) (n : Int) (hn : n < 1) :
    CallsIn Fence.wide 5 Try.prog 12 #[.slice A lines.length c, .agg #[.int .i64 p0, .int .i64 p1], .string pat, .bool back, .int .i64 n] w fun e w' =>
      e = .returned (.tuple #[MoveV 0 0 0 false 0, .bool false]) ∧ Below w.heap.size w w' := by
  have hn0 : decide (n < 1) = true := decide_eq_true hn
  refine callsIn_of_wp_marks Try.func12 rfl trivial ?_ rfl
  simp only [Try.ntmps12, List.size_toArray, List.length_cons, List.length_nil, Nat.reduceAdd, Nat.reduceSub, Array.replicate_succ, Array.replicate_zero, List.push_toArray, List.append_toArray, List.nil_append, List.cons_append]
  gi_wp2
  refine ⟨_, res12 (B := w.heap.size + 1) (a := 0) (b := 0) (c := 0) (d := false) (e := 0) (e2 := false) rfl rfl ?_, rfl, ?_⟩
  · have h := World.alloc_heap_new (w.alloc (.cells #[.int .i64 p0, .int .i64 p1] 28)) (.cells #[.int .i64 0, .int .i64 0, .int .i64 0, .bool false, .int .i64 0] 30)
    rw [World.size_alloc] at h; exact h
  · exact ((Below.refl _ w).alloc (Nat.le_refl _) _).alloc (by simp) _

set_option maxRecDepth 100000 in
set_option maxHeartbeats 2000000 in
theorem search_off (w : World) (A : Option Addr) (c : Nat) (lines : List ByteArray) (p0 p1 : Int) (pat : ByteArray) (back : Bool) (n : Int) (hn : ¬ n < 1) (hC : Kd.C Kd.string w A lines.length lines) (hc : lines.length ≤ c) (hp : placeB lines p0 p1 = false) :
    CallsIn Fence.wide 5 Try.prog 12 #[.slice A lines.length c, .agg #[.int .i64 p0, .int .i64 p1], .string pat, .bool back, .int .i64 n] w fun e w' =>
      e = .returned (.tuple #[MoveV 0 0 0 false 0, .bool false]) ∧ Below w.heap.size w w' := by
  have hn0 : decide (n < 1) = false := decide_eq_false hn
  have hPl := class_Place.calls A c lines p0 p1 false
  have hq : class_Place.f lines p0 p1 = some false := by rw [place_is, hp]
  have hB0 : Below w.heap.size w ((w.alloc (.cells #[.int .i64 p0, .int .i64 p1] 28)).alloc (.cells #[.int .i64 0, .int .i64 0, .int .i64 0, .bool false, .int .i64 0] 30)) := ((Below.refl _ w).alloc (Nat.le_refl _) _).alloc (by simp) _
  have hP := hPl _ (Kd.C_below hC hB0) hc hq
  clear hPl
  refine callsIn_of_wp_marks Try.func12 rfl trivial ?_ rfl
  simp only [Try.ntmps12, List.size_toArray, List.length_cons, List.length_nil, Nat.reduceAdd, Nat.reduceSub, Array.replicate_succ, Array.replicate_zero, List.push_toArray, List.append_toArray, List.nil_append, List.cons_append]
  have hM0 : MoveBox ((w.alloc (.cells #[.int .i64 p0, .int .i64 p1] 28)).alloc (.cells #[.int .i64 0, .int .i64 0, .int .i64 0, .bool false, .int .i64 0] 30)) (w.heap.size + 1) 0 0 0 false 0 := by
    have h := World.alloc_heap_new (w.alloc (.cells #[.int .i64 p0, .int .i64 p1] 28)) (.cells #[.int .i64 0, .int .i64 0, .int .i64 0, .bool false, .int .i64 0] 30)
    rw [World.size_alloc] at h; exact h
  have cp0 : ((w.alloc (.cells #[.int .i64 p0, .int .i64 p1] 28)).alloc (.cells #[.int .i64 0, .int .i64 0, .int .i64 0, .bool false, .int .i64 0] 30)).cell? ⟨w.heap.size, 0, none⟩ = some (.int .i64 p0) := by go_simp
  gi_wp2_with (gi_at_call 24; refine (callsIn_wide.2 hP).mono ?_; rintro e w' ⟨rfl, hb⟩; have hM : MoveBox w' (w.heap.size + 1) 0 0 0 false 0 := (hb.block _ (by simp)).trans hM0; obtain ⟨⟨m0, m1, m2, m3, m4⟩, f0, f1, f2, f3, f4⟩ := hM.cells)
  refine ⟨_, res12 (B := w.heap.size + 1) (a := 0) (b := 0) (c := 0) (d := false) (e := 0) (e2 := false) rfl rfl hM.stored, rfl, ?_⟩
  exact ((((((hB0.trans (hb.mono (by simp; omega))).setCell (p := ⟨w.heap.size + 1, 0, none⟩) (by simp) _).setCell (p := ⟨w.heap.size + 1, 1, none⟩) (by simp) _).setCell (p := ⟨w.heap.size + 1, 2, none⟩) (by simp) _).setCell (p := ⟨w.heap.size + 1, 3, none⟩) (by simp) _).setCell (p := ⟨w.heap.size + 1, 4, none⟩) (by simp) _)
end Go.Proofs.Ytbfoflhfmhfofaa.Ext
