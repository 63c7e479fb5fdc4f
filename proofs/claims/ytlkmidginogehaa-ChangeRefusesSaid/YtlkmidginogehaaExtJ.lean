/- rows out of blocks; foolscaplaw21.known. -/
import Derived.Test.YtlkmidginogehaaExtI
import Derived.Test.YtlkmidginogehaaMChangex8
import Derived.Test.YtlkmidginogehaaMChangex7
set_option linter.unusedVariables false
set_option linter.unusedSimpArgs false
namespace Go.Proofs.Ytlkmidginogehaa.Ext
open Go.RowKit Go.Shelf Go.Proofs Go.Proofs.YtlkmidginogehaaW.PrintWords Go.Proofs.YtlkmidginogehaaW.PrintLast Go.Proofs.YtlkmidginogehaaW.PrintMore
open Go.Proofs.Ytlkmidginogehaa.MChange

theorem C_of_block {α : Type} {d : Kd α} {W : World} {g : Nat} {e : TypeId} {cells : List Value} {xs : List α} (hg : W.heap[g]? = some (.cells cells.toArray e (0, 0))) (hr : Reps (d.K W) d.sz xs cells) (hn : xs.length ≤ 100000) : Kd.C d W (some ⟨g, 0, none⟩) xs.length xs := by
  refine ⟨rfl, by omega, fun _ => ⟨_, rfl, fun j p hj => ⟨(cells.drop (j * d.sz)).take d.sz, d.K_len (hr.2 j p hj), hr.2 j p hj, fun i u hu => ?_⟩⟩⟩
  have hi : i < d.sz := by
    have := (List.getElem?_eq_some_iff.1 hu).1
    rw [d.K_len (hr.2 j p hj)] at this
    exact this
  rw [List.getElem?_take_of_lt hi, List.getElem?_drop] at hu
  have ha : ((⟨g, 0, none⟩ : Addr).add (j * d.sz + i)) = ⟨g, j * d.sz + i, none⟩ := by
    unfold Addr.add
    split
    · rename_i h; rw [h]
    · simp
  rw [ha]
  simp [World.cell?, hg, hu]
theorem reps_strs (W : World) (l : List ByteArray) : Reps (Kd.string.K W) Kd.string.sz l (l.map Value.string) := by
  refine ⟨by simp [Kd.string, Kd.scalar], fun j p hj => ?_⟩
  show _ = [Value.string p]
  have hl := (List.getElem?_eq_some_iff.1 hj).1
  have : (l.map Value.string).drop (j * 1) = Value.string p :: (l.map Value.string).drop (j + 1) := by
    rw [Nat.mul_one, List.drop_eq_getElem_cons (by simpa using hl)]
    congr 1
    obtain ⟨_, h2⟩ := List.getElem?_eq_some_iff.1 hj
    simp [h2]
  show List.take 1 (List.drop (j * 1) (l.map Value.string)) = _
  rw [this]; rfl
theorem C_strs {W : World} {g : Nat} {e : TypeId} (l : List ByteArray) (hg : W.heap[g]? = some (.cells (l.map Value.string).toArray e (0, 0))) (hn : l.length ≤ 100000) : Kd.C Kd.string W (some ⟨g, 0, none⟩) l.length l := C_of_block hg (reps_strs W l) hn
theorem C_one {W : World} {g : Nat} {e : TypeId} (x : S40) {v1 v2 : Value} (hg : W.heap[g]? = some (.cells #[.int .i64 x.f0, v1, v2] e (0, 0))) (h1 : Rd Kd.string W v1 x.f1) (h2 : Rd Kd.string W v2 x.f2) : Kd.C k40 W (some ⟨g, 0, none⟩) 1 [x] := by
  obtain ⟨A1, c1, rfl, l1, g1⟩ := h1
  obtain ⟨A2, c2, rfl, l2, g2⟩ := h2
  refine C_of_block (xs := [x]) (cells := [.int .i64 x.f0, .slice A1 x.f1.length c1, .slice A2 x.f2.length c2]) hg ⟨rfl, fun j p hj => ?_⟩ (by simp)
  have hj0 : j = 0 := by
    have := (List.getElem?_eq_some_iff.1 hj).1
    simp at this; exact this
  subst hj0
  obtain rfl : x = p := by simpa using hj
  exact k40_mk W x l1 g1 l2 g2
theorem V_of_C {w : World} {α : Type} {d : Kd α} {e : Nat} {A : Option Addr} {c : Nat} {xs : List α} (hd : Kd.Heap d) (h : Kd.C d w A xs.length xs) (hc : xs.length ≤ c) : Kd.V d e w w.heap.size (fun k_ => k_ < w.heap.size) (.slice A xs.length c) xs := ⟨A, c, rfl, hc, Kd.C_F hd h⟩
theorem below_of_drawn {w w' : World} (h : Drawn0 w w') : Below w.heap.size w w' := by
  obtain ⟨n, rfl⟩ := h.out
  exact pw_below_drewN (Below.refl _ _) n

/-- Apply -/
theorem apply_c (k : Nat) (A0 : Option Addr) (c0 : Nat) (l0 : List ByteArray) (A1 : Option Addr) (c1 : Nat) (l1 : List S40) (r1 : List ByteArray) (r2 : Bool) (w : World) (h : change_Apply.f k l0 l1 = some (r1, r2)) (hr0 : Kd.C Kd.string w A0 l0.length l0) (hc0 : l0.length ≤ c0) (hr1 : Kd.C k40 w A1 l1.length l1) (hc1 : l1.length ≤ c1) :
    Calls Try.prog 10 #[.slice A0 l0.length c0, .slice A1 l1.length c1] w fun e w' => (∃ A c, e = .returned (.tuple #[.slice A r1.length c, .bool r2]) ∧ r1.length ≤ c ∧ Kd.C Kd.string w' A r1.length r1) ∧ Below w.heap.size w w' :=
  (change_Apply.calls k A0 c0 l0 A1 c1 l1 r1 r2 w hr0 hc0 hr1 hc1 h).mono fun e w' ⟨v, h1, h2, h3⟩ => by
    obtain ⟨A, c, rfl, h4, h5⟩ := Kd.R_reads h2
    exact ⟨⟨A, c, h1, h4, h5⟩, h3⟩

def bA : ByteArray := ⟨#[97]⟩
def bB : ByteArray := ⟨#[98]⟩
def bC : ByteArray := ⟨#[99]⟩
def bX : ByteArray := ⟨#[120]⟩
def ch0 : S40 := ⟨0, [bA], [bB, bC]⟩
theorem at_old {W : World} {o : Obj} {k : Nat} {o' : Obj} (h : W.heap[k]? = some o') : (W.alloc o).heap[k]? = some o' := (Below.heap_alloc _ _ _ (Array.getElem?_eq_some_iff.1 h).1).trans h

theorem lit2 {W : World} {n : Nat} (hs : W.heap.size = n) (x : ByteArray) (c : S40) {v1 v2 : Value} (h1 : Rd Kd.string W v1 c.f1) (h2 : Rd Kd.string W v2 c.f2) :
    Kd.C Kd.string ((W.alloc (.cells #[.string x] 9)).alloc (.cells #[.int .i64 c.f0, v1, v2] 40)) (some ⟨n, 0, none⟩) 1 [x] ∧ Kd.C k40 ((W.alloc (.cells #[.string x] 9)).alloc (.cells #[.int .i64 c.f0, v1, v2] 40)) (some ⟨n + 1, 0, none⟩) 1 [c] ∧
    Below W.heap.size W ((W.alloc (.cells #[.string x] 9)).alloc (.cells #[.int .i64 c.f0, v1, v2] 40)) := by
  have hb : Below W.heap.size W ((W.alloc (.cells #[.string x] 9)).alloc (.cells #[.int .i64 c.f0, v1, v2] 40)) := ((Below.refl _ W).alloc (Nat.le_refl _) _).alloc (by simp) _
  have n1 := World.alloc_heap_new (W.alloc (.cells #[.string x] 9)) (.cells #[.int .i64 c.f0, v1, v2] 40)
  rw [World.size_alloc, hs] at n1
  refine ⟨C_strs [x] (at_old (by rw [← hs]; exact World.alloc_heap_new W _)) (by simp), C_one c n1 (h1.below hb) (h2.below hb), hb⟩
theorem call_apply1 (k : Nat) (W : World) (n : Nat) (hs : W.heap.size = n) (x : ByteArray) (c : S40) (v1 v2 : Value) (h1 : Rd Kd.string W v1 c.f1) (h2 : Rd Kd.string W v2 c.f2) (r1 : List ByteArray) (r2 : Bool) (f : change_Apply.f k [x] [c] = some (r1, r2)) :
    Calls Try.prog 10 #[.slice (some ⟨n, 0, none⟩) 1 1, .slice (some ⟨n + 1, 0, none⟩) 1 1] ((W.alloc (.cells #[.string x] 9)).alloc (.cells #[.int .i64 c.f0, v1, v2] 40)) fun e w' =>
      (∃ A c, e = .returned (.tuple #[.slice A r1.length c, .bool r2]) ∧ r1.length ≤ c ∧ Kd.C Kd.string w' A r1.length r1) ∧ Below W.heap.size W w' := by
  obtain ⟨g1, g2, hb⟩ := lit2 hs x c h1 h2
  exact (apply_c k _ 1 [x] _ 1 [c] r1 r2 _ f g1 (by simp) g2 (by simp)).mono fun e w' ⟨h3, h4⟩ => ⟨h3, hb.trans (h4.mono hb.size)⟩
theorem call_fits1 (k : Nat) (W : World) (n : Nat) (hs : W.heap.size = n) (x : ByteArray) (c : S40) (v1 v2 : Value) (h1 : Rd Kd.string W v1 c.f1) (h2 : Rd Kd.string W v2 c.f2) (r : Bool) (f : change_Fits.f k [x] [c] = some r) :
    Calls Try.prog 13 #[.slice (some ⟨n, 0, none⟩) 1 1, .slice (some ⟨n + 1, 0, none⟩) 1 1] ((W.alloc (.cells #[.string x] 9)).alloc (.cells #[.int .i64 c.f0, v1, v2] 40)) fun e w' => e = .returned (.bool r) ∧ Below W.heap.size W w' := by
  obtain ⟨g1, g2, hb⟩ := lit2 hs x c h1 h2
  exact (change_Fits.calls k _ _ 1 [x] _ 1 [c] r _ (V_of_C Kd.heap_string g1 (by simp)) g2 (by simp) f).mono fun e w' ⟨h3, h4⟩ => ⟨h3, hb.trans (h4.mono hb.size)⟩
theorem call_inverse1 (W : World) (n : Nat) (hs : W.heap.size = n) (c : S40) (v1 v2 : Value) (h1 : Rd Kd.string W v1 c.f1) (h2 : Rd Kd.string W v2 c.f2) (hz : c.f1.length ≤ 100000 ∧ c.f2.length ≤ 100000) :
    Calls Try.prog 16 #[.slice (some ⟨n, 0, none⟩) 1 1] (W.alloc (.cells #[.int .i64 c.f0, v1, v2] 40)) fun e w' => (∃ A c', e = .returned (.slice A 1 c') ∧ 1 ≤ c' ∧ Kd.C k40 w' A 1 [inv1 c]) ∧ Below W.heap.size W w' := by
  have hb : Below W.heap.size W (W.alloc (.cells #[.int .i64 c.f0, v1, v2] 40)) := (Below.refl _ W).alloc (Nat.le_refl _) _
  have n1 := World.alloc_heap_new W (.cells #[.int .i64 c.f0, v1, v2] 40)
  rw [hs] at n1
  have g2 := C_one c n1 (h1.below hb) (h2.below hb)
  refine (inverse_c _ _ 1 [c] g2 (by simp) (by simp) (fun x hx => by rw [List.mem_singleton.1 hx]; exact hz)).mono fun e w' h => ?_
  obtain ⟨⟨v, h3, A, c', h4, h5, h6⟩, h7⟩ := h
  subst h4
  exact ⟨⟨A, c', h3, h5, h6⟩, hb.trans (h7.mono hb.size)⟩
theorem call_strings1 (k : Nat) (W : World) (n : Nat) (hs : W.heap.size = n) (A : Option Addr) (c : Nat) (l m : List ByteArray) (hC : Kd.C Kd.string W A l.length l) (hc : l.length ≤ c) (hm : m.length ≤ 100000) (r : Bool) (f : foolscaphelp_Strings.f k l m = some r) (cells : Array Value) (hce : cells = (m.map Value.string).toArray) :
    Calls Try.prog 12 #[.slice A l.length c, .slice (some ⟨n, 0, none⟩) m.length m.length] (W.alloc (.cells cells 9)) fun e w' => e = .returned (.bool r) ∧ Below W.heap.size W w' := by
  subst hce
  have hb : Below W.heap.size W (W.alloc (.cells (m.map Value.string).toArray 9)) := (Below.refl _ W).alloc (Nat.le_refl _) _
  have n1 := World.alloc_heap_new W (.cells (m.map Value.string).toArray 9)
  rw [hs] at n1
  exact (foolscaphelp_Strings.calls k A c l _ m.length m r _ (Kd.C_below hC hb) hc (C_strs m n1 hm) (Nat.le_refl _) f).mono fun e w' ⟨h3, h4⟩ => ⟨h3, hb.trans ((below_of_drawn h4).mono hb.size)⟩

set_option maxRecDepth 100000 in
set_option maxHeartbeats 4000000 in
theorem known_calls (w : World) : Calls Try.prog 6 #[] w fun e w' => e = .returned (.bool true) ∧ Below w.heap.size w w' := by
  have f1 : change_Apply.f 100 [bA] [ch0] = some ([bB, bC], true) := by kernel_rfl
  have f2 : change_Apply.f 100 [bB, bC] [inv1 ch0] = some ([bA], true) := by kernel_rfl
  have f3 : change_Apply.f 100 [bX] [ch0] = some ([], false) := by kernel_rfl
  have f4 : foolscaphelp_Strings.f 100 [bB, bC] [bB, bC] = some true := by kernel_rfl
  have f5 : foolscaphelp_Strings.f 100 [bA] [bA] = some true := by kernel_rfl
  have f6 : change_Grow.f 100 ch0.f0 ch0.f1 ch0.f2 = some 2 := by kernel_rfl
  have f7 : change_Fits.f 100 [bA] [ch0] = some true := by kernel_rfl
  have n0 := World.alloc_heap_new w (.cells #[.string ⟨#[97]⟩] 9)
  have n1 := World.alloc_heap_new (w.alloc (.cells #[.string ⟨#[97]⟩] 9)) (.cells #[.string ⟨#[98]⟩, .string ⟨#[99]⟩] 9)
  have n2 := World.alloc_heap_new ((w.alloc (.cells #[.string ⟨#[97]⟩] 9)).alloc (.cells #[.string ⟨#[98]⟩, .string ⟨#[99]⟩] 9)) (.cells #[.int .i64 0, .slice (some ⟨w.heap.size, 0, none⟩) 1 1, .slice (some ⟨w.heap.size + 1, 0, none⟩) 2 2] 40)
  obtain ⟨W2, hW2⟩ : ∃ W2, (((w.alloc (.cells #[.string ⟨#[97]⟩] 9)).alloc (.cells #[.string ⟨#[98]⟩, .string ⟨#[99]⟩] 9)).alloc (.cells #[.int .i64 0, .slice (some ⟨w.heap.size, 0, none⟩) 1 1, .slice (some ⟨w.heap.size + 1, 0, none⟩) 2 2] 40)) = W2 := ⟨_, rfl⟩
  have m0 : W2.heap[w.heap.size]? = some (.cells #[.string ⟨#[97]⟩] 9 (0, 0)) := by rw [← hW2]; exact at_old (at_old n0)
  have m1 : W2.heap[w.heap.size + 1]? = some (.cells #[.string ⟨#[98]⟩, .string ⟨#[99]⟩] 9 (0, 0)) := by rw [← hW2]; rw [World.size_alloc] at n1; exact at_old n1
  have m2 : ChBox W2 (w.heap.size + 1 + 1) 0 (.slice (some ⟨w.heap.size, 0, none⟩) 1 1) (.slice (some ⟨w.heap.size + 1, 0, none⟩) 2 2) := by rw [← hW2]; rw [World.size_alloc, World.size_alloc] at n2; exact n2
  have hs2 : W2.heap.size = w.heap.size + 1 + 1 + 1 := by rw [← hW2]; simp
  have hB2 : Below w.heap.size w W2 := by rw [← hW2]; exact (((Below.refl _ w).alloc (Nat.le_refl _) _).alloc (by simp) _).alloc (by simp; omega) _
  have r1 : Rd Kd.string W2 (.slice (some ⟨w.heap.size, 0, none⟩) 1 1) ch0.f1 := ⟨_, _, rfl, by decide, C_strs [bA] m0 (by decide)⟩
  have r2 : Rd Kd.string W2 (.slice (some ⟨w.heap.size + 1, 0, none⟩) 2 2) ch0.f2 := ⟨_, _, rfl, by decide, C_strs [bB, bC] m1 (by decide)⟩
  clear n0 n1 n2 m0 m1
  obtain ⟨p0, p1, p2⟩ := m2.cells
  go_enter Try.func6, Try.ntmps6
  go_wp2_with (first
    | (go_at_call 10; refine (call_apply1 100 W2 _ hs2 bA ch0 _ _ r1 r2 [bB, bC] true f1).mono ?_; clear f1; rintro e W3 ⟨⟨A3, c3, rfl, l3, g3⟩, hb3⟩; have q3 : ChBox W3 (w.heap.size + 1 + 1) _ _ _ := (hb3.block _ m2.lt).trans m2; obtain ⟨x0, x1, x2⟩ := q3.cells)
    | (go_at_call 16; refine (call_inverse1 W3 _ rfl ch0 _ _ (r1.below hb3) (r2.below hb3) (by decide)).mono ?_; rintro e W4 ⟨⟨A4, c4, rfl, l4, g4⟩, hb4⟩; have hb24 := hb3.trans (hb4.mono hb3.size))
    | (go_at_call 10; refine (apply_c 100 A3 c3 [bB, bC] A4 c4 [inv1 ch0] [bA] true W4 f2 (Kd.C_below g3 hb4) l3 g4 l4).mono ?_; clear f2; rintro e W5 ⟨⟨A5, c5, rfl, l5, g5⟩, hb5⟩; have hb25 := hb24.trans (hb5.mono hb24.size); have q5 : ChBox W5 (w.heap.size + 1 + 1) _ _ _ := (hb25.block _ m2.lt).trans m2; obtain ⟨y0, y1, y2⟩ := q5.cells; have y0' := pw_cell_below (w1 := W5.alloc (.cells #[.string ⟨#[120]⟩] 9)) ((Below.refl _ W5).alloc (Nat.le_refl _) _) y0; have y1' := pw_cell_below (w1 := W5.alloc (.cells #[.string ⟨#[120]⟩] 9)) ((Below.refl _ W5).alloc (Nat.le_refl _) _) y1; have y2' := pw_cell_below (w1 := W5.alloc (.cells #[.string ⟨#[120]⟩] 9)) ((Below.refl _ W5).alloc (Nat.le_refl _) _) y2)
    | (go_at_call 10; refine (call_apply1 100 W5 _ rfl bX ch0 _ _ (r1.below hb25) (r2.below hb25) [] false f3).mono ?_; clear f3; rintro e W6 ⟨⟨A6, c6, rfl, l6, g6⟩, hb6⟩; have hb26 := hb25.trans (hb6.mono hb25.size))
    | (go_at_call 12; refine (call_strings1 100 W6 _ rfl A3 c3 [bB, bC] [bB, bC] (Kd.C_below g3 ((hb4.trans (hb5.mono hb4.size)).trans (hb6.mono (hb4.trans (hb5.mono hb4.size)).size))) l3 (by decide) true f4 _ rfl).mono ?_; clear f4; rintro e W7 ⟨rfl, hb7⟩; have hb27 := hb26.trans (hb7.mono hb26.size))
    | (go_at_call 12; refine (call_strings1 100 W7 _ rfl A5 c5 [bA] [bA] (Kd.C_below g5 (hb6.trans (hb7.mono hb6.size))) l5 (by decide) true f5 _ rfl).mono ?_; clear f5; rintro e W8 ⟨rfl, hb8⟩; have hb28 := hb27.trans (hb8.mono hb27.size); have q8 : ChBox W8 (w.heap.size + 1 + 1) _ _ _ := (hb28.block _ m2.lt).trans m2; obtain ⟨z0, z1, z2⟩ := q8.cells; obtain ⟨B1, d1, e1, k1, s1⟩ := r1.below hb28; obtain ⟨B2, d2, e2, k2, s2⟩ := r2.below hb28; cases e1; cases e2)
    | (go_at_call 18; refine (change_Grow.calls 100 ch0.f0 _ _ ch0.f1 _ _ ch0.f2 2 W8 s1 k1 s2 k2 f6).mono ?_; rintro e W9 ⟨rfl, hb9⟩; have hb29 := hb28.trans (hb9.mono hb28.size); have q9 : ChBox W9 (w.heap.size + 1 + 1) _ _ _ := (hb29.block _ m2.lt).trans m2; obtain ⟨u0, u1, u2⟩ := q9.cells; have u0' := pw_cell_below (w1 := W9.alloc (.cells #[.string ⟨#[97]⟩] 9)) ((Below.refl _ W9).alloc (Nat.le_refl _) _) u0; have u1' := pw_cell_below (w1 := W9.alloc (.cells #[.string ⟨#[97]⟩] 9)) ((Below.refl _ W9).alloc (Nat.le_refl _) _) u1; have u2' := pw_cell_below (w1 := W9.alloc (.cells #[.string ⟨#[97]⟩] 9)) ((Below.refl _ W9).alloc (Nat.le_refl _) _) u2)
    | (go_at_call 13; refine (call_fits1 100 W9 _ rfl bA ch0 _ _ (r1.below hb29) (r2.below hb29) true f7).mono ?_; rintro e W10 ⟨rfl, hb10⟩; have hb210 := hb29.trans (hb10.mono hb29.size)))
  go_ret
  exact ⟨rfl, hB2.trans (hb210.mono hB2.size)⟩
end Go.Proofs.Ytlkmidginogehaa.Ext
