/- foolscaplaw21.ChangeRefuses: plain laws and the walk. -/
import Derived.Test.YtlkmidginogehaaExtA
set_option linter.unusedVariables false
set_option linter.unusedSimpArgs false
namespace Go.Proofs.Ytlkmidginogehaa.Plain
open Go.RowKit Go.Shelf Go.Proofs Go.Proofs.YtlkmidginogehaaW.PrintWords Go.Proofs.YtlkmidginogehaaW.PrintLast Go.Proofs.YtlkmidginogehaaW.PrintMore
open Go.Proofs.Ytlkmidginogehaa.MChange Go.Proofs.Ytlkmidginogehaa.Ext

/-- the four that are refused, and the base -/
def chBase (l : List ByteArray) : S40 := ⟨0, l.take 1, [bX]⟩
def chPast (l : List ByteArray) (p : Int) (now : List ByteArray) : S40 := ⟨p, [], now⟩
def chWrong (p : Nat) (s : ByteArray) (old now : List ByteArray) : S40 := ⟨p, s :: old, now⟩
def chNeg : S40 := ⟨-1, [], []⟩
def chWhole (l : List ByteArray) : S40 := ⟨0, l, []⟩
theorem past_no (l : List ByteArray) (p : Int) (now : List ByteArray) (h : (l.length : Int) < p) : applyOne l (chPast l p now) = none := applyOne_no _ _ (fun h1 => by have := h1.2.1; simp only [chPast] at this; omega)
theorem wrong_no (l : List ByteArray) (p : Nat) (hp : p < l.length) (s : ByteArray) (hs : s ≠ l[p]) (old now : List ByteArray) : applyOne l (chWrong p s old now) = none := applyOne_no _ _ (fun h1 => by
  have h2 := h1.2.2.2.1
  simp only [chWrong, Int.toNat_natCast, List.length_cons] at h2
  rw [List.drop_eq_getElem_cons hp, List.take_succ_cons] at h2
  exact hs (List.cons.inj h2).1.symm)
theorem neg_no (l : List ByteArray) : applyOne l chNeg = none := applyOne_no _ _ (fun h1 => by have := h1.1; simp only [chNeg] at this; omega)
theorem whole_no (l : List ByteArray) : applyOne l (chWhole l) = none := applyOne_no _ _ (fun h1 => by have := h1.2.2.2.2; simp only [chWhole, List.length_nil] at this; omega)
theorem base_yes (l : List ByteArray) (h : 0 < l.length) : applyOne l (chBase l) = some (bX :: l.drop 1) := by
  have h1 : (l.take 1).length = 1 := by rw [List.length_take]; omega
  refine (applyOne_yes l (chBase l) ⟨?_, ?_, ?_, ?_, ?_⟩).trans ?_
  · simp only [chBase]; omega
  · simp only [chBase]; omega
  · simp only [chBase, h1]; omega
  · simp only [chBase, h1]; rfl
  · simp only [chBase, h1, List.length_cons, List.length_nil]; omega
  · simp only [chBase, h1]; rfl
theorem all_no {l : List ByteArray} {c : S40} (d : S40) (h : applyOne l c = none) : applyAll l [c, d] = none ∧ fitsAll l [c, d] = false := by
  refine ⟨?_, ?_⟩
  · rw [applyAll, h]; rfl
  · rw [fitsAll, h]
theorem base_then (l : List ByteArray) (h : 0 < l.length) (p : Int) (now : List ByteArray) (hp : (l.length : Int) < p) : applyAll l [chBase l, chPast l p now] = none ∧ fitsAll l [chBase l, chPast l p now] = false ∧ applyAll l [chBase l] = some (bX :: l.drop 1) := by
  have hl : (bX :: l.drop 1).length = l.length := by rw [List.length_cons, List.length_drop]; omega
  have hno : applyOne (bX :: l.drop 1) (chPast l p now) = none := past_no (bX :: l.drop 1) p now (by rw [hl]; exact hp)
  refine ⟨?_, ?_, ?_⟩
  · rw [applyAll, base_yes l h]
    show (applyOne (bX :: l.drop 1) (chPast l p now)).bind _ = none
    rw [hno]; rfl
  · rw [fitsAll, base_yes l h]
    show (if sizeL (bX :: l.drop 1) > 4096 then false else fitsAll (bX :: l.drop 1) [chPast l p now]) = false
    split
    · rfl
    · rw [fitsAll, hno]
  · rw [applyAll, base_yes l h]; rfl
theorem reps_cons {α : Type} {R : α → List Value → Prop} {n : Nat} {xs : List α} {cs c : List Value} {x : α} (h : Reps R n xs cs) (hx : R x c) (hc : c.length = n) : Reps R n (x :: xs) (c ++ cs) := by
  refine ⟨by rw [List.length_append, hc, h.1, List.length_cons, Nat.add_mul, Nat.one_mul, Nat.add_comm], fun j p hj => ?_⟩
  cases j with
  | zero =>
    obtain rfl : x = p := by simpa using hj
    rw [Nat.zero_mul, List.drop_zero, List.take_left' hc]; exact hx
  | succ j =>
    have := h.2 j p (by simpa using hj)
    rw [show (j + 1) * n = c.length + j * n by rw [Nat.add_mul, Nat.one_mul, hc, Nat.add_comm], ← List.drop_drop, List.drop_left' rfl]
    exact this
theorem k40_rd {W : World} {x : S40} {v1 v2 : Value} (h1 : Rd Kd.string W v1 x.f1) (h2 : Rd Kd.string W v2 x.f2) : k40.K W x [.int .i64 x.f0, v1, v2] := by
  obtain ⟨A1, c1, rfl, l1, g1⟩ := h1
  obtain ⟨A2, c2, rfl, l2, g2⟩ := h2
  exact k40_mk W x l1 g1 l2 g2
theorem reps_nil {α : Type} (R : α → List Value → Prop) (n : Nat) : Reps R n ([] : List α) [] := ⟨by simp, fun j p h => by simp at h⟩
theorem C_two {W : World} {g : Nat} {e : TypeId} (x y : S40) {v1 v2 u1 u2 : Value} (hg : W.heap[g]? = some (.cells #[.int .i64 x.f0, v1, v2, .int .i64 y.f0, u1, u2] e (0, 0))) (h1 : Rd Kd.string W v1 x.f1) (h2 : Rd Kd.string W v2 x.f2) (h3 : Rd Kd.string W u1 y.f1) (h4 : Rd Kd.string W u2 y.f2) : Kd.C k40 W (some ⟨g, 0, none⟩) 2 [x, y] :=
  C_of_block (xs := [x, y]) (cells := [.int .i64 x.f0, v1, v2, .int .i64 y.f0, u1, u2]) hg (reps_cons (reps_cons (reps_nil _ _) (k40_rd h3 h4) rfl) (k40_rd h1 h2) rfl) (by simp)
theorem C_four {W : World} {g : Nat} {e : TypeId} (x y z u : S40) {x1 x2 y1 y2 z1 z2 u1 u2 : Value} (hg : W.heap[g]? = some (.cells #[.int .i64 x.f0, x1, x2, .int .i64 y.f0, y1, y2, .int .i64 z.f0, z1, z2, .int .i64 u.f0, u1, u2] e (0, 0)))
    (h1 : Rd Kd.string W x1 x.f1) (h2 : Rd Kd.string W x2 x.f2) (h3 : Rd Kd.string W y1 y.f1) (h4 : Rd Kd.string W y2 y.f2) (h5 : Rd Kd.string W z1 z.f1) (h6 : Rd Kd.string W z2 z.f2) (h7 : Rd Kd.string W u1 u.f1) (h8 : Rd Kd.string W u2 u.f2) : Kd.C k40 W (some ⟨g, 0, none⟩) 4 [x, y, z, u] :=
  C_of_block (xs := [x, y, z, u]) (cells := [.int .i64 x.f0, x1, x2, .int .i64 y.f0, y1, y2, .int .i64 z.f0, z1, z2, .int .i64 u.f0, u1, u2]) hg (reps_cons (reps_cons (reps_cons (reps_cons (reps_nil _ _) (k40_rd h7 h8) rfl) (k40_rd h5 h6) rfl) (k40_rd h3 h4) rfl) (k40_rd h1 h2) rfl) (by simp)
theorem two_alloc (W : World) (n : Nat) (hs : W.heap.size = n) (x y : S40) (a b : Int) (ha : a = x.f0) (hb : b = y.f0) {v1 v2 u1 u2 : Value} (h1 : Rd Kd.string W v1 x.f1) (h2 : Rd Kd.string W v2 x.f2) (h3 : Rd Kd.string W u1 y.f1) (h4 : Rd Kd.string W u2 y.f2) :
    Kd.C k40 (W.alloc (.cells #[.int .i64 a, v1, v2, .int .i64 b, u1, u2] 40)) (some ⟨n, 0, none⟩) 2 [x, y] ∧ Below W.heap.size W (W.alloc (.cells #[.int .i64 a, v1, v2, .int .i64 b, u1, u2] 40)) := by
  subst ha hb
  have hb : Below W.heap.size W (W.alloc (.cells #[.int .i64 x.f0, v1, v2, .int .i64 y.f0, u1, u2] 40)) := (Below.refl _ W).alloc (Nat.le_refl _) _
  have n1 := World.alloc_heap_new W (.cells #[.int .i64 x.f0, v1, v2, .int .i64 y.f0, u1, u2] 40)
  rw [hs] at n1
  exact ⟨C_two x y n1 (h1.below hb) (h2.below hb) (h3.below hb) (h4.below hb), hb⟩
theorem call_apply2 (k : Nat) (W : World) (n : Nat) (hs : W.heap.size = n) (A : Option Addr) (cc : Nat) (l : List ByteArray) (hC : Kd.C Kd.string W A l.length l) (hcc : l.length ≤ cc) (x y : S40) (a b : Int) (ha : a = x.f0) (hb : b = y.f0) (v1 v2 u1 u2 : Value) (h1 : Rd Kd.string W v1 x.f1) (h2 : Rd Kd.string W v2 x.f2) (h3 : Rd Kd.string W u1 y.f1) (h4 : Rd Kd.string W u2 y.f2) (r1 : List ByteArray) (r2 : Bool) (f : change_Apply.f k l [x, y] = some (r1, r2)) :
    Calls Try.prog 10 #[.slice A l.length cc, .slice (some ⟨n, 0, none⟩) 2 2] (W.alloc (.cells #[.int .i64 a, v1, v2, .int .i64 b, u1, u2] 40)) fun e w' =>
      (∃ A c, e = .returned (.tuple #[.slice A r1.length c, .bool r2]) ∧ r1.length ≤ c ∧ Kd.C Kd.string w' A r1.length r1) ∧ Below W.heap.size W w' := by
  obtain ⟨g2, hb'⟩ := two_alloc W n hs x y a b ha hb h1 h2 h3 h4
  exact (apply_c k A cc l _ 2 [x, y] r1 r2 _ f (Kd.C_below hC hb') hcc g2 (by simp)).mono fun e w' ⟨h3, h4⟩ => ⟨h3, hb'.trans (h4.mono hb'.size)⟩
theorem call_fits2 (k : Nat) (W : World) (n : Nat) (hs : W.heap.size = n) (A : Option Addr) (cc : Nat) (l : List ByteArray) (hC : Kd.C Kd.string W A l.length l) (hcc : l.length ≤ cc) (x y : S40) (a b : Int) (ha : a = x.f0) (hb : b = y.f0) (v1 v2 u1 u2 : Value) (h1 : Rd Kd.string W v1 x.f1) (h2 : Rd Kd.string W v2 x.f2) (h3 : Rd Kd.string W u1 y.f1) (h4 : Rd Kd.string W u2 y.f2) (r : Bool) (f : change_Fits.f k l [x, y] = some r) :
    Calls Try.prog 13 #[.slice A l.length cc, .slice (some ⟨n, 0, none⟩) 2 2] (W.alloc (.cells #[.int .i64 a, v1, v2, .int .i64 b, u1, u2] 40)) fun e w' => e = .returned (.bool r) ∧ Below W.heap.size W w' := by
  obtain ⟨g2, hb'⟩ := two_alloc W n hs x y a b ha hb h1 h2 h3 h4
  exact (fits_c k A cc l _ 2 [x, y] r _ f (Kd.C_below hC hb') hcc g2 (by simp)).mono fun e w' ⟨h3, h4⟩ => ⟨h3, hb'.trans (h4.mono hb'.size)⟩
theorem call_applyb (k : Nat) (W : World) (n : Nat) (hs : W.heap.size = n) (A : Option Addr) (cc : Nat) (l : List ByteArray) (hC : Kd.C Kd.string W A l.length l) (hcc : l.length ≤ cc) (c : S40) (a : Int) (hca : a = c.f0) (v1 v2 : Value) (h1 : Rd Kd.string W v1 c.f1) (h2 : Rd Kd.string W v2 c.f2) (r1 : List ByteArray) (r2 : Bool) (f : change_Apply.f k l [c] = some (r1, r2)) :
    Calls Try.prog 10 #[.slice A l.length cc, .slice (some ⟨n, 0, none⟩) 1 1] (W.alloc (.cells #[.int .i64 a, v1, v2] 40)) fun e w' =>
      (∃ A c, e = .returned (.tuple #[.slice A r1.length c, .bool r2]) ∧ r1.length ≤ c ∧ Kd.C Kd.string w' A r1.length r1) ∧ Below W.heap.size W w' := by
  subst hca
  have hb : Below W.heap.size W (W.alloc (.cells #[.int .i64 c.f0, v1, v2] 40)) := (Below.refl _ W).alloc (Nat.le_refl _) _
  have n1 := World.alloc_heap_new W (.cells #[.int .i64 c.f0, v1, v2] 40)
  rw [hs] at n1
  exact (apply_c k A cc l _ 1 [c] r1 r2 _ f (Kd.C_below hC hb) hcc (C_one c n1 (h1.below hb) (h2.below hb)) (by simp)).mono fun e w' ⟨h3, h4⟩ => ⟨h3, hb.trans (h4.mono hb.size)⟩
theorem str_cell {W : World} {ad : Addr} {l : List ByteArray} (h : Kd.C Kd.string W (some ad) l.length l) (p : Nat) (hp : p < l.length) : W.cell? (ad.add p) = some (.string l[p]) := by
  obtain ⟨ad', c, e, hcl, hK, hcc⟩ := Kd.C_get h ByteArray.empty (p : Int) (by omega) (by omega)
  cases e
  have hK' : c = [Value.string (l.getD (p : Int).toNat ByteArray.empty)] := hK
  have := hcc 0 (.string l[p]) (by rw [hK']; simp [List.getD_eq_getElem?_getD, List.getElem?_eq_getElem hp])
  have h1 : Kd.string.sz = 1 := rfl
  rw [h1, Int.toNat_natCast, Nat.mul_one, Nat.add_zero] at this
  exact this
/-- what stays while the law runs -/
def RefFr (A0 : Option Addr) (l0 : List ByteArray) (A2 : Option Addr) (old : List ByteArray) (A3 : Option Addr) (now : List ByteArray) (w : World) (W : World) : Prop :=
  Kd.C Kd.string W A0 l0.length l0 ∧ Kd.C Kd.string W A2 old.length old ∧ Kd.C Kd.string W A3 now.length now ∧ Below w.heap.size w W
theorem RefFr.below {A0 : Option Addr} {l0 : List ByteArray} {A2 : Option Addr} {old : List ByteArray} {A3 : Option Addr} {now : List ByteArray} {w W W' : World} (h : RefFr A0 l0 A2 old A3 now w W) (hb : Below W.heap.size W W') : RefFr A0 l0 A2 old A3 now w W' :=
  ⟨Kd.C_below h.1 hb, Kd.C_below h.2.1 hb, Kd.C_below h.2.2.1 hb, h.2.2.2.trans (hb.mono h.2.2.2.size)⟩
/-- a change in a block of its own -/
def ChHas (W : World) (g : Nat) (c : S40) (v1 v2 : Value) : Prop := W.heap[g]? = some (.cells #[.int .i64 c.f0, v1, v2] 40 (0, 0)) ∧ Rd Kd.string W v1 c.f1 ∧ Rd Kd.string W v2 c.f2
theorem ChHas.below {W W' : World} {g : Nat} {c : S40} {v1 v2 : Value} (h : ChHas W g c v1 v2) (hb : Below W.heap.size W W') : ChHas W' g c v1 v2 :=
  ⟨(hb.block _ (Array.getElem?_eq_some_iff.1 h.1).1).trans h.1, h.2.1.below hb, h.2.2.below hb⟩
theorem ChHas.cells {W : World} {g : Nat} {c : S40} {v1 v2 : Value} (h : ChHas W g c v1 v2) : W.cell? ⟨g, 0, none⟩ = some (.int .i64 c.f0) ∧ W.cell? ⟨g, 1, none⟩ = some v1 ∧ W.cell? ⟨g, 2, none⟩ = some v2 := by
  obtain ⟨h, _, _⟩ := h
  exact ⟨by simp [World.cell?, h], by simp [World.cell?, h], by simp [World.cell?, h]⟩
theorem rd_take (W : World) (A : Option Addr) (l : List ByteArray) (c : Nat) (h : Kd.C Kd.string W A l.length l) (hc : l.length ≤ c) (hl : 0 < l.length) : Rd Kd.string W (.slice A 1 c) (l.take 1) := by
  have h1 : (l.take 1).length = 1 := by rw [List.length_take]; omega
  refine ⟨A, c, by rw [h1], by omega, ?_⟩
  exact Kd.C_take h (by omega)
theorem ref_base (W W' : World) (A : Option Addr) (l : List ByteArray) (c : Nat) (h : Kd.C Kd.string W A l.length l) (hc : l.length ≤ c) (hl : 0 < l.length)
    (hD : Drawn0 ((W.alloc (.cells #[.string ⟨#[120]⟩] 9)).alloc (.cells #[.int .i64 0, .slice A 1 c, .slice (some ⟨W.heap.size, 0, none⟩) 1 1] 40)) W') :
    ChHas W' (W.heap.size + 1) (chBase l) (.slice A 1 c) (.slice (some ⟨W.heap.size, 0, none⟩) 1 1) ∧ Below W.heap.size W W' := by
  have n0 := World.alloc_heap_new W (.cells #[.string ⟨#[120]⟩] 9)
  have n1 := World.alloc_heap_new (W.alloc (.cells #[.string ⟨#[120]⟩] 9)) (.cells #[.int .i64 0, .slice A 1 c, .slice (some ⟨W.heap.size, 0, none⟩) 1 1] 40)
  rw [World.size_alloc] at n1
  have hba : Below W.heap.size W ((W.alloc (.cells #[.string ⟨#[120]⟩] 9)).alloc (.cells #[.int .i64 0, .slice A 1 c, .slice (some ⟨W.heap.size, 0, none⟩) 1 1] 40)) := ((Below.refl _ W).alloc (Nat.le_refl _) _).alloc (by simp) _
  have hd := below_of_drawn hD
  have hb := below_trans' hd hba
  refine ⟨⟨(hd.block (W.heap.size + 1) (by simp)).trans n1, (rd_take W A l c h hc hl).below hb, ?_⟩, hb⟩
  exact Rd.below ⟨_, _, rfl, Nat.le_refl _, C_strs [bX] (at_old n0) (by decide)⟩ hd
theorem ref_past (W W' : World) (l now : List ByteArray) (q : Int) (A : Option Addr) (c : Nat) (h : Kd.C Kd.string W A now.length now) (hc : now.length ≤ c)
    (hD : Drawn0 (W.alloc (.cells #[.int .i64 q, .slice none 0 0, .slice A now.length c] 40)) W') :
    ChHas W' W.heap.size (chPast l q now) (.slice none 0 0) (.slice A now.length c) ∧ Below W.heap.size W W' := by
  have n1 := World.alloc_heap_new W (.cells #[.int .i64 q, .slice none 0 0, .slice A now.length c] 40)
  have hba : Below W.heap.size W (W.alloc (.cells #[.int .i64 q, .slice none 0 0, .slice A now.length c] 40)) := (Below.refl _ W).alloc (Nat.le_refl _) _
  have hd := below_of_drawn hD
  have hb := below_trans' hd hba
  refine ⟨⟨(hd.block W.heap.size (by simp)).trans n1, ⟨none, 0, rfl, Nat.le_refl _, ⟨rfl, Nat.zero_le _, fun h => absurd h (Nat.lt_irrefl 0)⟩⟩, Rd.below ⟨A, c, rfl, hc, h⟩ hb⟩, hb⟩
theorem lit_R (W : World) (s : ByteArray) : Kd.R Kd.string 9 (W.alloc (.cells #[.string s] 9)) W.heap.size (fun _ => True) (.slice (some ⟨W.heap.size, 0, none⟩) 1 1) [s] := by
  refine ⟨fun _ _ => trivial, [.string s], ?_, rfl, fun j p hj => ?_⟩
  · have h2 := World.ownsRow_lit (base := W.heap.size) (e := 9) (size := Kd.string.sz) W #[.string s] 1 (Nat.le_refl _) (by simp [maxLen]) (by simp [Kd.string, Kd.scalar])
    simpa using h2
  · have hj0 : j = 0 := by
      have := (List.getElem?_eq_some_iff.1 hj).1
      simp at this; exact this
    subst hj0
    obtain rfl : s = p := by simpa using hj
    rfl
theorem rd_cons {W : World} {base : Nat} {ok : Nat → Prop} {v : Value} {s : ByteArray} {old : List ByteArray} (h : Kd.R Kd.string 9 W base ok v ([s] ++ old)) : ∃ A c, v = .slice A (old.length + 1) c ∧ Rd Kd.string W (.slice A (old.length + 1) c) (s :: old) := by
  obtain ⟨A, c, rfl, l, g⟩ := Kd.R_reads h
  exact ⟨A, c, by simp, A, c, by simp, l, g⟩
theorem base_bd (l0 : List ByteArray) : (chBase l0).f1.length ≤ 100 ∧ (chBase l0).f2.length ≤ 100 ∧ total (chBase l0).f2 ≤ 2000 := by
  refine ⟨?_, by simp [chBase], ?_⟩
  · simp only [chBase, List.length_take]; omega
  · have : total (chBase l0).f2 = 1 := rfl
    omega
theorem bd_two {l0 : List ByteArray} {c d : S40} (hl : l0.length ≤ 40) (ht : total l0 ≤ 1200) (hc : c.f1.length ≤ 100 ∧ c.f2.length ≤ 100 ∧ total c.f2 ≤ 2000) (hd : d.f1.length ≤ 100 ∧ d.f2.length ≤ 100 ∧ total d.f2 ≤ 2000) : BdL l0 [c, d] ∧ BdT l0 [c, d] := by
  refine ⟨⟨?_, fun x hx => ?_⟩, ⟨?_, fun x hx => ?_⟩⟩
  · simp only [List.length_cons, List.length_nil]; omega
  · rcases List.mem_cons.1 hx with rfl | hx
    · omega
    · rw [List.mem_singleton.1 hx]; omega
  · simp only [List.length_cons, List.length_nil]; omega
  · rcases List.mem_cons.1 hx with rfl | hx
    · omega
    · rw [List.mem_singleton.1 hx]; omega
theorem refused {l0 : List ByteArray} {c : S40} (hl : l0.length ≤ 40) (ht : total l0 ≤ 1200) (hc : c.f1.length ≤ 100 ∧ c.f2.length ≤ 100 ∧ total c.f2 ≤ 2000) (h : applyOne l0 c = none) :
    change_Apply.f 7000 l0 [c, chBase l0] = some ([], false) ∧ change_Fits.f 7000 l0 [c, chBase l0] = some false := by
  obtain ⟨h1, h2⟩ := bd_two hl ht hc (base_bd l0)
  obtain ⟨h3, h4⟩ := all_no (chBase l0) h
  refine ⟨?_, ?_⟩
  · rw [Apply_val 7000 l0 _ (by simp) h1 (by simp), h3]; rfl
  · rw [Fits_val 7000 l0 _ (by simp) h1 h2 (by simp), h4]
def chFour (l0 old now : List ByteArray) (p p9 : Nat) (s : ByteArray) : List S40 := [chPast l0 ((l0.length : Int) + 1 + (p9 : Int)) now, chWrong p s old now, chNeg, chWhole l0]
theorem four_no (l0 old now : List ByteArray) (p p9 : Nat) (hl : l0.length ≤ 40) (ht : total l0 ≤ 1200) (ho : old.length ≤ 40 ∧ total old ≤ 1200) (hn : now.length ≤ 40 ∧ total now ≤ 1200) (hp : p < l0.length) :
    ∀ c ∈ chFour l0 old now p p9 (l0[p] ++ ⟨#[121]⟩), change_Apply.f 7000 l0 [c, chBase l0] = some ([], false) ∧ change_Fits.f 7000 l0 [c, chBase l0] = some false := by
  intro c hc
  unfold chFour at hc
  rcases List.mem_cons.1 hc with rfl | hc
  · exact refused hl ht (by simp only [chPast, List.length_nil]; omega) (past_no _ _ _ (by omega))
  rcases List.mem_cons.1 hc with rfl | hc
  · refine refused hl ht (by simp only [chWrong, List.length_cons]; omega) (wrong_no _ _ hp _ (fun e => ?_) _ _)
    have := congrArg ByteArray.size e
    rw [ByteArray.size_append] at this
    have h1 : (⟨#[121]⟩ : ByteArray).size = 1 := rfl
    omega
  rcases List.mem_cons.1 hc with rfl | hc
  · exact refused hl ht (by simp [chNeg, total]) (neg_no _)
  · rw [List.mem_singleton.1 hc]
    exact refused hl ht (by simp only [chWhole, List.length_nil, total]; omega) (whole_no _)
theorem last_vals (l0 now : List ByteArray) (p9 : Nat) (hl : l0.length ≤ 40) (ht : total l0 ≤ 1200) (hn : now.length ≤ 40 ∧ total now ≤ 1200) (hlp : 0 < l0.length) :
    change_Apply.f 7000 l0 [chBase l0, chPast l0 ((l0.length : Int) + 1 + (p9 : Int)) now] = some ([], false) ∧ change_Fits.f 7000 l0 [chBase l0, chPast l0 ((l0.length : Int) + 1 + (p9 : Int)) now] = some false ∧ change_Apply.f 7000 l0 [chBase l0] = some (bX :: l0.drop 1, true) := by
  obtain ⟨h1, h2⟩ := bd_two (c := chBase l0) (d := chPast l0 ((l0.length : Int) + 1 + (p9 : Int)) now) hl ht (base_bd l0) (by simp only [chPast, List.length_nil]; omega)
  obtain ⟨h3, h4, h5⟩ := base_then l0 hlp ((l0.length : Int) + 1 + (p9 : Int)) now (by omega)
  refine ⟨?_, ?_, ?_⟩
  · rw [Apply_val 7000 l0 _ (by simp) h1 (by simp), h3]; rfl
  · rw [Fits_val 7000 l0 _ (by simp) h1 h2 (by simp), h4]
  · rw [Apply_val 7000 l0 [chBase l0] (by simp) ⟨by simp only [List.length_cons, List.length_nil]; omega, fun x hx => by rw [List.mem_singleton.1 hx]; have := base_bd l0; omega⟩ (by simp), h5]; rfl
theorem rd_nil (W : World) : Rd Kd.string W (.slice none 0 0) [] := ⟨none, 0, rfl, Nat.le_refl _, ⟨rfl, Nat.zero_le _, fun h => absurd h (Nat.lt_irrefl 0)⟩⟩
theorem addr_at (B k : Nat) : ((⟨B, 0, none⟩ : Addr).add k) = ⟨B, k, none⟩ := by
  unfold Addr.add
  split
  · rename_i h; rw [h]
  · simp
theorem first_cell {W : World} {A : Option Addr} {zl l : List ByteArray} (hz : zl = bX :: l) (h : Kd.C Kd.string W A zl.length zl) : ∃ ad, A = some ad ∧ W.cell? ad = some (.string ⟨#[120]⟩) ∧ W.cell? (ad.add 0) = some (.string ⟨#[120]⟩) := by
  subst hz
  obtain ⟨ad, e, _⟩ := h.2.2 (by simp)
  subst e
  have := str_cell h 0 (by simp)
  have h0 : ad.add 0 = ad := by simp [Addr.add]
  exact ⟨ad, rfl, by rw [h0] at this; exact this, this⟩

set_option maxRecDepth 100000 in
set_option maxHeartbeats 4000000 in
theorem refuses_calls (A0 : Option Addr) (c0 : Nat) (l0 : List ByteArray) (at_ : Int) (A2 : Option Addr) (c2 : Nat) (old : List ByteArray) (A3 : Option Addr) (c3 : Nat) (now : List ByteArray) (first : Bool) (w : World) (hr0 : Kd.C Kd.string w A0 l0.length l0) (hc0 : l0.length ≤ c0) (hr2 : Kd.C Kd.string w A2 old.length old) (hc2 : old.length ≤ c2) (hr3 : Kd.C Kd.string w A3 now.length now) (hc3 : now.length ≤ c3)
    (hs0 : ∀ s ∈ l0, s.size ≤ 140737488351232) (hs2 : ∀ s ∈ old, s.size ≤ 140737488351232) (hs3 : ∀ s ∈ now, s.size ≤ 140737488351232) : Calls Try.prog 5 #[.slice A0 l0.length c0, .int .i64 at_, .slice A2 old.length c2, .slice A3 now.length c3, .bool first] w fun e w' => e = .returned (.bool true) ∧ Below w.heap.size w w' := by
  obtain ⟨b1, f1, g1⟩ := Text_val 7000 l0 (by omega) hs0
  obtain ⟨b2, f2, g2⟩ := Light_val 7000 old (by omega) hs2
  obtain ⟨b3, f3, g3⟩ := Light_val 7000 now (by omega) hs3
  have hu40 := Try.underlying40
  have F1 := Aside0.mk f1
  have F2 := Aside0.mk f2
  have F3 := Aside0.mk f3
  have gL := Aside0.mk hr0
  have gO := Aside0.mk hr2
  have gN := Aside0.mk hr3
  have hB := Aside0.mk (Below.refl w.heap.size w)
  clear f1 f2 f3 hr0 hr2 hr3 hs0 hs2 hs3
  by_cases hall : b1 = true ∧ b2 = true ∧ b3 = true
  · obtain ⟨rfl, rfl, rfl⟩ := hall
    obtain ⟨hne, hl, ht⟩ := g1 rfl
    have ho := g2 rfl
    have hn := g3 rfl
    have hlp : 0 < l0.length := List.length_pos_iff.2 hne
    clear g1 g2 g3 hne
    have h1c : 1 ≤ c0 := by omega
    have h1c' : (1 : Int) ≤ (c0 : Int) := by omega
    have hpl9 := Place_val at_ 9 (by omega) (by omega)
    obtain ⟨p9, hp9⟩ : ∃ p : Nat, (p : Int) = at_ % 9 := ⟨(at_ % 9).toNat, Int.toNat_of_nonneg (Int.emod_nonneg _ (by omega))⟩
    have hp9b : p9 < 9 := by have := Int.emod_lt_of_pos at_ (show (0 : Int) < 9 by omega); omega
    rw [← hp9] at hpl9
    have hpl := Place_val at_ (l0.length : Int) (by omega) (by omega)
    obtain ⟨p, hp⟩ : ∃ p : Nat, (p : Int) = at_ % (l0.length : Int) := ⟨(at_ % (l0.length : Int)).toNat, Int.toNat_of_nonneg (Int.emod_nonneg _ (by omega))⟩
    have hpb : p < l0.length := by have := Int.emod_lt_of_pos at_ (show (0 : Int) < (l0.length : Int) by omega); omega
    rw [← hp] at hpl
    clear hp hp9
    have P9 := Aside0.mk hpl9
    have PL := Aside0.mk hpl
    clear hpl hpl9
    obtain ⟨ad, rfl⟩ : ∃ ad, A0 = some ad := by
      obtain ⟨ad, e, _⟩ := gL.out.2.2 hlp
      exact ⟨ad, e⟩
    have T1 := Aside0.mk trivial
    have hszp : ¬ 9223372036854775807 < l0[p].size + 1 := by
      have := total_mem (List.getElem_mem hpb)
      omega
    go_enter Try.func5, Try.ntmps5
    go_wp2_with (first
      | (go_at_call 6; refine (known_calls w).mono ?_; rintro e W1 ⟨rfl, hb⟩; replace hB := Aside0.mk (hB.out.trans (hb.mono hB.out.size)); replace gL := Aside0.mk (Kd.C_below gL.out hb); replace gO := Aside0.mk (Kd.C_below gO.out hb); replace gN := Aside0.mk (Kd.C_below gN.out hb); clear hb)
      | (go_at_call 20; refine (text_c _ (some ad) c0 l0 _ W1 F1.out gL.out hc0).mono ?_; clear F1; rintro e W2 ⟨rfl, hb⟩; replace hB := Aside0.mk (hB.out.trans (hb.mono hB.out.size)); replace gL := Aside0.mk (Kd.C_below gL.out hb); replace gO := Aside0.mk (Kd.C_below gO.out hb); replace gN := Aside0.mk (Kd.C_below gN.out hb); clear hb)
      | (go_at_call 7; refine (Light_c _ A2 c2 old _ W2 F2.out gO.out hc2).mono ?_; clear F2; rintro e W3 ⟨rfl, hb⟩; replace hB := Aside0.mk (hB.out.trans (hb.mono hB.out.size)); replace gL := Aside0.mk (Kd.C_below gL.out hb); replace gO := Aside0.mk (Kd.C_below gO.out hb); replace gN := Aside0.mk (Kd.C_below gN.out hb); clear hb)
      | (go_at_call 7; refine (Light_c _ A3 c3 now _ W3 F3.out gN.out hc3).mono ?_; clear F3; rintro e W4 ⟨rfl, hb⟩; replace hB := Aside0.mk (hB.out.trans (hb.mono hB.out.size)); replace gL := Aside0.mk (Kd.C_below gL.out hb); replace gO := Aside0.mk (Kd.C_below gO.out hb); replace gN := Aside0.mk (Kd.C_below gN.out hb); clear hb)
      | (go_at_call 21; refine (foolscaphelp_Place.calls _ _ _ _ P9.out).mono ?_; clear P9; rintro e W5 ⟨rfl, hD⟩; have FR := Aside0.mk (show RefFr (some ad) l0 A2 old A3 now w W4 from ⟨gL.out, gO.out, gN.out, hB.out⟩); clear gL gO gN hB; obtain ⟨hc1, hb⟩ := ref_base _ _ _ _ _ FR.out.1 hc0 hlp hD; clear hD; replace FR := Aside0.mk (FR.out.below hb); clear hb; have HC1 := Aside0.mk hc1; clear hc1)
      | (go_at_call 21; refine (foolscaphelp_Place.calls _ _ _ _ PL.out).mono ?_; clear T1; rintro e W6 ⟨rfl, hD⟩; obtain ⟨hc2, hb⟩ := ref_past _ _ l0 now _ _ _ FR.out.2.2.1 hc3 hD; clear hD; replace FR := Aside0.mk (FR.out.below hb); replace HC1 := Aside0.mk (HC1.out.below hb); clear hb; have HC2 := Aside0.mk hc2; clear hc2; have T2 := Aside0.mk trivial)
      | (go_at_call 21; refine (foolscaphelp_Place.calls _ _ _ _ PL.out).mono ?_; clear T2; rintro e W7 ⟨rfl, hD⟩; have hb := below_of_drawn hD; clear hD; replace FR := Aside0.mk (FR.out.below hb); replace HC1 := Aside0.mk (HC1.out.below hb); replace HC2 := Aside0.mk (HC2.out.below hb); clear hb; have hcell := str_cell FR.out.1 p hpb; have hp0 : (0 : Int) ≤ (p : Int) := Int.natCast_nonneg _; have hp1 : (p : Int) < (l0.length : Int) := Int.ofNat_lt.2 hpb)
      | ((with_reducible refine gate_builtin (b := .append) (xs := #[.tmp 61, .tmp 62]) rfl ?_); at_builtin; refine Kd.R_append_rows Kd.string (w0 := W7) W7.heap.size rfl (.tmp 61) (.tmp 62) 22 9 (.string ⟨#[]⟩) 16 rfl Try.underlying22 Go.Proofs.Ytlkmidginogehaa.MChange.info9 rfl (by decide) (by omega) (.slice (some ⟨W7.heap.size, 0, none⟩) 1 1) [l0[p] ++ ⟨#[121]⟩] old A2 old.length c2 (fun _ => True) (fun _ => False) (by rfl) (by rfl) (lit_R W7 _) ?aR (fun _ _ h => h) (fun _ h => h.elim) (fun _ _ => trivial) ((Below.refl _ _).alloc (Nat.le_refl _) _) (by simp) (by simp only [List.length_cons, List.length_nil]; omega) ?_; (case aR => exact Kd.C_below FR.out.2.1 ((Below.refl _ _).alloc (Nat.le_refl _) _)); intro v1 W8 ho hb _ _; obtain ⟨A8, c8, rfl, g8⟩ := rd_cons ho; clear ho; replace FR := Aside0.mk (FR.out.below hb); replace HC1 := Aside0.mk (HC1.out.below hb); replace HC2 := Aside0.mk (HC2.out.below hb); clear hb hcell; have G8 := Aside0.mk g8; clear g8; obtain ⟨z0, z1, z2⟩ := HC2.out.cells; replace z0 : W8.cell? ⟨W5.heap.size, 0, none⟩ = some (.int .i64 ((l0.length : Int) + 1 + (p9 : Int))) := z0; have hbX : Below W8.heap.size W8 (W8.alloc (.cells #[.int .i64 ↑p, .slice A8 (old.length + 1) c8, .slice A3 now.length c3] 40)) := (Below.refl _ _).alloc (Nat.le_refl _) _; have z0' := pw_cell_below hbX z0; have z1' := pw_cell_below hbX z1; have z2' := pw_cell_below hbX z2))
    clear z0 z1 z2 z0' z1' z2' hbX
    have hbY : Below W8.heap.size W8 ((W8.alloc (.cells #[.int .i64 ↑p, .slice A8 (old.length + 1) c8, .slice A3 now.length c3] 40)).alloc (.cells #[.int .i64 ((l0.length : Int) + 1 + (p9 : Int)), .slice none 0 0, .slice A3 now.length c3, .int .i64 ↑p, .slice A8 (old.length + 1) c8, .slice A3 now.length c3, .int .i64 (-1), .slice none 0 0, .slice none 0 0, .int .i64 0, .slice (some ad) l0.length c0, .slice none 0 0] 40)) := ((Below.refl _ _).alloc (Nat.le_refl _) _).alloc (by simp) _
    have HY := Aside0.mk hbY
    clear hbY
    have hfour := Aside0.mk (four_no l0 old now p p9 hl ht ho hn hpb)
    have hf4l : (chFour l0 old now p p9 (l0[p] ++ ⟨#[121]⟩)).length = 4 := rfl
    obtain ⟨xs4, hxs4⟩ : ∃ xs4, xs4 = chFour l0 old now p p9 (l0[p] ++ ⟨#[121]⟩) := ⟨_, rfl⟩
    rw [← hxs4] at hfour hf4l
    have HX4 := Aside0.mk hxs4
    have HLEN := Aside0.mk hf4l
    clear hxs4 hf4l
    go_loopg [73] 5 (fun kq v73 w' => Aside0 (∃ i : Nat, v73 = .int .i64 i ∧ kq + i = 5 ∧ i ≤ 4 ∧ RefFr (some ad) l0 A2 old A3 now w w' ∧ ChHas w' (W4.heap.size + 1) (chBase l0) (.slice (some ad) 1 c0) (.slice (some ⟨W4.heap.size, 0, none⟩) 1 1) ∧ ChHas w' W5.heap.size (chPast l0 ((l0.length : Int) + 1 + (p9 : Int)) now) (.slice none 0 0) (.slice A3 now.length c3) ∧ Kd.C k40 w' (some ⟨W8.heap.size + 1, 0, none⟩) xs4.length xs4))
    case atStart =>
      have n1 := World.alloc_heap_new (W8.alloc (.cells #[.int .i64 ↑p, .slice A8 (old.length + 1) c8, .slice A3 now.length c3] 40)) (.cells #[.int .i64 ((l0.length : Int) + 1 + (p9 : Int)), .slice none 0 0, .slice A3 now.length c3, .int .i64 ↑p, .slice A8 (old.length + 1) c8, .slice A3 now.length c3, .int .i64 (-1), .slice none 0 0, .slice none 0 0, .int .i64 0, .slice (some ad) l0.length c0, .slice none 0 0] 40)
      rw [World.size_alloc] at n1
      exact ⟨0, rfl, by omega, by omega, FR.out.below HY.out, HC1.out.below HY.out, HC2.out.below HY.out, by
        rw [HX4.out]
        exact C_four (chPast l0 ((l0.length : Int) + 1 + (p9 : Int)) now) (chWrong p (l0[p] ++ (⟨#[121]⟩ : ByteArray)) old now) chNeg (chWhole l0) n1 (rd_nil _) (HC2.out.2.2.below HY.out) (G8.out.below HY.out) (HC2.out.2.2.below HY.out) (rd_nil _) (rd_nil _) (Rd.below ⟨_, _, rfl, hc0, FR.out.1⟩ HY.out) (rd_nil _)⟩
    case round =>
      clear FR HC1 HC2 G8 HX4 HY
      obtain ⟨i, rfl, hkq, hi, h1, h2, h3, h4⟩ := hrel.out
      obtain ⟨k1, rfl⟩ : ∃ m, gk = m + 1 := ⟨gk - 1, by omega⟩
      have HKQ := Aside0.mk hkq
      have FR := Aside0.mk h1
      have HC1 := Aside0.mk h2
      have HC2 := Aside0.mk h3
      have G4 := Aside0.mk h4
      clear hkq h1 h2 h3 h4 hrel
      by_cases hd : (i : Int) < 4
      · have hdb : decide ((i : Int) < 4) = true := decide_eq_true hd
        have hi4 : i < xs4.length := by have := HLEN.out; omega
        have p0 : (0 : Int) ≤ (i : Int) := by omega
        obtain ⟨ad4, B1_, d1_, B2_, d2_, ead, hx0, hx1, hx2, hl1, hi1, hl2, hi2⟩ := at_T40 G4.out (i : Int) p0 (by omega)
        cases ead
        have hfx := hfour.out xs4[i] (List.getElem_mem _)
        rw [rd_40 xs4 i (i : Int) rfl hi4] at hx0 hx1 hx2 hl1 hi1 hl2 hi2
        obtain ⟨ch, hch⟩ : ∃ ch, ch = xs4[i] := ⟨_, rfl⟩
        rw [← hch] at hx0 hx1 hx2 hl1 hi1 hl2 hi2 hfx
        clear hch
        rw [Int.toNat_natCast, addr_at] at hx0 hx1 hx2
        have FA := Aside0.mk hfx.1
        have FF := Aside0.mk hfx.2
        have hv1 := Aside0.mk (show Rd Kd.string wr (.slice B1_ ch.f1.length d1_) ch.f1 from ⟨_, _, rfl, hl1, hi1⟩)
        have hv2 := Aside0.mk (show Rd Kd.string wr (.slice B2_ ch.f2.length d2_) ch.f2 from ⟨_, _, rfl, hl2, hi2⟩)
        clear hfx hl1 hi1 hl2 hi2
        have hbZ : Below wr.heap.size wr (wr.alloc (.cells #[.int .i64 ch.f0, .slice B1_ ch.f1.length d1_, .slice B2_ ch.f2.length d2_] 40)) := (Below.refl _ _).alloc (Nat.le_refl _) _
        obtain ⟨b0, b1, b2⟩ := HC1.out.cells
        replace b0 : wr.cell? ⟨W4.heap.size + 1, 0, none⟩ = some (.int .i64 0) := b0
        have b0' := pw_cell_below hbZ b0
        have b1' := pw_cell_below hbZ b1
        have b2' := pw_cell_below hbZ b2
        have HZ := Aside0.mk hbZ
        clear hbZ
        have n15 := World.alloc_heap_new wr (.cells #[.int .i64 ch.f0, .slice B1_ ch.f1.length d1_, .slice B2_ ch.f2.length d2_] 40)
        have N15 := Aside0.mk n15
        clear n15
        go_wp2_with (first
          | (go_at_call 10; refine (call_apply2 7000 _ _ (by simp) (some ad) c0 l0 (Kd.C_below FR.out.1 HZ.out) hc0 ch (chBase l0) _ 0 rfl rfl _ _ _ _ (hv1.out.below HZ.out) (hv2.out.below HZ.out) (HC1.out.2.1.below HZ.out) (HC1.out.2.2.below HZ.out) [] false FA.out).mono ?_; clear FA; rintro e X5 ⟨⟨A9, c9, rfl, l9, g9⟩, hb⟩; have hbw := below_trans' hb HZ.out; replace FR := Aside0.mk (FR.out.below hbw); replace HC1 := Aside0.mk (HC1.out.below hbw); replace HC2 := Aside0.mk (HC2.out.below hbw); replace G4 := Aside0.mk (Kd.C_below G4.out hbw); replace hv1 := Aside0.mk (hv1.out.below hbw); replace hv2 := Aside0.mk (hv2.out.below hbw); have HV := Aside0.mk (show ChHas X5 wr.heap.size ch (.slice B1_ ch.f1.length d1_) (.slice B2_ ch.f2.length d2_) from ⟨(hb.block wr.heap.size (by simp)).trans N15.out, hv1.out, hv2.out⟩); clear hb hbw g9; obtain ⟨y0, y1, y2⟩ := HV.out.cells; obtain ⟨s0, s1, s2⟩ := HC1.out.cells; replace s0 : X5.cell? ⟨W4.heap.size + 1, 0, none⟩ = some (.int .i64 0) := s0)
          | (go_at_call 13; refine (call_fits2 7000 X5 _ rfl (some ad) c0 l0 FR.out.1 hc0 ch (chBase l0) _ 0 rfl rfl _ _ _ _ hv1.out hv2.out HC1.out.2.1 HC1.out.2.2 false FF.out).mono ?_; clear FF; rintro e X6 ⟨rfl, hb⟩; replace FR := Aside0.mk (FR.out.below hb); replace HC1 := Aside0.mk (HC1.out.below hb); replace HC2 := Aside0.mk (HC2.out.below hb); replace G4 := Aside0.mk (Kd.C_below G4.out hb); clear hb))
        go_roundg k1
        case measure => have := HKQ.out; omega
        case rel => exact ⟨i + 1, by simp, by have := HKQ.out; omega, by omega, FR.out, HC1.out, HC2.out, G4.out⟩
      · have hdb : decide ((i : Int) < 4) = false := decide_eq_false hd
        clear G4 hfour HLEN
        obtain ⟨b0, b1, b2⟩ := HC1.out.cells
        replace b0 : wr.cell? ⟨W4.heap.size + 1, 0, none⟩ = some (.int .i64 0) := b0
        obtain ⟨z0, z1, z2⟩ := HC2.out.cells
        replace z0 : wr.cell? ⟨W5.heap.size, 0, none⟩ = some (.int .i64 ((l0.length : Int) + 1 + (p9 : Int))) := z0
        obtain ⟨lv1, lv2, lv3⟩ := last_vals l0 now p9 hl ht hn hlp
        obtain ⟨zl, hzl⟩ : ∃ zl, zl = bX :: l0.drop 1 := ⟨_, rfl⟩
        have hzlen : zl.length = l0.length := by rw [hzl, List.length_cons, List.length_drop]; omega
        rw [← hzl] at lv3
        have LV1 := Aside0.mk lv1
        have LV2 := Aside0.mk lv2
        have LV3 := Aside0.mk lv3
        have HZL := Aside0.mk hzl
        have hlpI : (0 : Int) < (l0.length : Int) := by omega
        clear lv1 lv2 lv3 hzl
        cases first with
        | true =>
          clear LV2
          go_wp2_with (first
            | (go_at_call 10; refine (call_apply2 7000 wr _ rfl (some ad) c0 l0 FR.out.1 hc0 (chBase l0) (chPast l0 ((l0.length : Int) + 1 + (p9 : Int)) now) 0 _ rfl rfl _ _ _ _ HC1.out.2.1 HC1.out.2.2 HC2.out.2.1 HC2.out.2.2 [] false LV1.out).mono ?_; clear LV1; rintro e X5 ⟨⟨A9, c9, rfl, l9, g9⟩, hb⟩; replace FR := Aside0.mk (FR.out.below hb); replace HC1 := Aside0.mk (HC1.out.below hb); replace HC2 := Aside0.mk (HC2.out.below hb); clear hb g9; obtain ⟨s0, s1, s2⟩ := HC1.out.cells; replace s0 : X5.cell? ⟨W4.heap.size + 1, 0, none⟩ = some (.int .i64 0) := s0)
            | (go_at_call 10; refine (call_applyb 7000 X5 _ rfl (some ad) c0 l0 FR.out.1 hc0 (chBase l0) 0 rfl _ _ HC1.out.2.1 HC1.out.2.2 zl true LV3.out).mono ?_; clear LV3; rintro e X6 ⟨⟨A10, c10, rfl, l10, g10⟩, hb⟩; replace FR := Aside0.mk (FR.out.below hb); clear hb; obtain ⟨adz, rfl, hz0, hz0'⟩ := first_cell HZL.out g10; clear g10))
          go_ret
          exact ⟨rfl, FR.out.2.2.2⟩
        | false =>
          go_wp2_with (first
            | (go_at_call 10; refine (call_apply2 7000 wr _ rfl (some ad) c0 l0 FR.out.1 hc0 (chBase l0) (chPast l0 ((l0.length : Int) + 1 + (p9 : Int)) now) 0 _ rfl rfl _ _ _ _ HC1.out.2.1 HC1.out.2.2 HC2.out.2.1 HC2.out.2.2 [] false LV1.out).mono ?_; clear LV1; rintro e X5 ⟨⟨A9, c9, rfl, l9, g9⟩, hb⟩; replace FR := Aside0.mk (FR.out.below hb); replace HC1 := Aside0.mk (HC1.out.below hb); replace HC2 := Aside0.mk (HC2.out.below hb); clear hb g9; obtain ⟨s0, s1, s2⟩ := HC1.out.cells; replace s0 : X5.cell? ⟨W4.heap.size + 1, 0, none⟩ = some (.int .i64 0) := s0)
            | (go_at_call 10; refine (call_applyb 7000 X5 _ rfl (some ad) c0 l0 FR.out.1 hc0 (chBase l0) 0 rfl _ _ HC1.out.2.1 HC1.out.2.2 zl true LV3.out).mono ?_; clear LV3; rintro e X6 ⟨⟨A10, c10, rfl, l10, g10⟩, hb⟩; replace FR := Aside0.mk (FR.out.below hb); replace HC1 := Aside0.mk (HC1.out.below hb); replace HC2 := Aside0.mk (HC2.out.below hb); clear hb; obtain ⟨adz, rfl, hz0, hz0'⟩ := first_cell HZL.out g10; clear g10; obtain ⟨t0, t1, t2⟩ := HC1.out.cells; replace t0 : X6.cell? ⟨W4.heap.size + 1, 0, none⟩ = some (.int .i64 0) := t0; obtain ⟨v0, v1, v2⟩ := HC2.out.cells; replace v0 : X6.cell? ⟨W5.heap.size, 0, none⟩ = some (.int .i64 ((l0.length : Int) + 1 + (p9 : Int))) := v0)
            | (go_at_call 13; refine (call_fits2 7000 X6 _ rfl (some ad) c0 l0 FR.out.1 hc0 (chBase l0) (chPast l0 ((l0.length : Int) + 1 + (p9 : Int)) now) 0 _ rfl rfl _ _ _ _ HC1.out.2.1 HC1.out.2.2 HC2.out.2.1 HC2.out.2.2 false LV2.out).mono ?_; clear LV2; rintro e X7 ⟨rfl, hb⟩; replace FR := Aside0.mk (FR.out.below hb); clear hb))
          go_ret
          exact ⟨rfl, FR.out.2.2.2⟩
  · clear g1 g2 g3
    cases b1 with
    | false =>
      clear F2 F3
      go_enter Try.func5, Try.ntmps5
      go_wp2_with (first
        | (go_at_call 6; refine (known_calls w).mono ?_; rintro e W1 ⟨rfl, hb⟩; replace hB := Aside0.mk (hB.out.trans (hb.mono hB.out.size)); replace gL := Aside0.mk (Kd.C_below gL.out hb); replace gO := Aside0.mk (Kd.C_below gO.out hb); replace gN := Aside0.mk (Kd.C_below gN.out hb); clear hb)
        | (go_at_call 20; refine (text_c _ A0 c0 l0 _ W1 F1.out gL.out hc0).mono ?_; clear F1; rintro e W2 ⟨rfl, hb⟩; replace hB := Aside0.mk (hB.out.trans (hb.mono hB.out.size)); replace gL := Aside0.mk (Kd.C_below gL.out hb); replace gO := Aside0.mk (Kd.C_below gO.out hb); replace gN := Aside0.mk (Kd.C_below gN.out hb); clear hb))
      go_ret
      exact ⟨rfl, hB.out⟩
    | true =>
      cases b2 with
      | false =>
        clear F3
        go_enter Try.func5, Try.ntmps5
        go_wp2_with (first
          | (go_at_call 6; refine (known_calls w).mono ?_; rintro e W1 ⟨rfl, hb⟩; replace hB := Aside0.mk (hB.out.trans (hb.mono hB.out.size)); replace gL := Aside0.mk (Kd.C_below gL.out hb); replace gO := Aside0.mk (Kd.C_below gO.out hb); replace gN := Aside0.mk (Kd.C_below gN.out hb); clear hb)
          | (go_at_call 20; refine (text_c _ A0 c0 l0 _ W1 F1.out gL.out hc0).mono ?_; clear F1; rintro e W2 ⟨rfl, hb⟩; replace hB := Aside0.mk (hB.out.trans (hb.mono hB.out.size)); replace gL := Aside0.mk (Kd.C_below gL.out hb); replace gO := Aside0.mk (Kd.C_below gO.out hb); replace gN := Aside0.mk (Kd.C_below gN.out hb); clear hb)
          | (go_at_call 7; refine (Light_c _ A2 c2 old _ W2 F2.out gO.out hc2).mono ?_; clear F2; rintro e W3 ⟨rfl, hb⟩; replace hB := Aside0.mk (hB.out.trans (hb.mono hB.out.size)); replace gL := Aside0.mk (Kd.C_below gL.out hb); replace gO := Aside0.mk (Kd.C_below gO.out hb); replace gN := Aside0.mk (Kd.C_below gN.out hb); clear hb))
        go_ret
        exact ⟨rfl, hB.out⟩
      | true =>
        cases b3 with
        | true => exact absurd ⟨rfl, rfl, rfl⟩ hall
        | false =>
          clear hall
          go_enter Try.func5, Try.ntmps5
          go_wp2_with (first
            | (go_at_call 6; refine (known_calls w).mono ?_; rintro e W1 ⟨rfl, hb⟩; replace hB := Aside0.mk (hB.out.trans (hb.mono hB.out.size)); replace gL := Aside0.mk (Kd.C_below gL.out hb); replace gO := Aside0.mk (Kd.C_below gO.out hb); replace gN := Aside0.mk (Kd.C_below gN.out hb); clear hb)
            | (go_at_call 20; refine (text_c _ A0 c0 l0 _ W1 F1.out gL.out hc0).mono ?_; clear F1; rintro e W2 ⟨rfl, hb⟩; replace hB := Aside0.mk (hB.out.trans (hb.mono hB.out.size)); replace gL := Aside0.mk (Kd.C_below gL.out hb); replace gO := Aside0.mk (Kd.C_below gO.out hb); replace gN := Aside0.mk (Kd.C_below gN.out hb); clear hb)
            | (go_at_call 7; refine (Light_c _ A2 c2 old _ W2 F2.out gO.out hc2).mono ?_; clear F2; rintro e W3 ⟨rfl, hb⟩; replace hB := Aside0.mk (hB.out.trans (hb.mono hB.out.size)); replace gL := Aside0.mk (Kd.C_below gL.out hb); replace gO := Aside0.mk (Kd.C_below gO.out hb); replace gN := Aside0.mk (Kd.C_below gN.out hb); clear hb)
            | (go_at_call 7; refine (Light_c _ A3 c3 now _ W3 F3.out gN.out hc3).mono ?_; clear F3; rintro e W4 ⟨rfl, hb⟩; replace hB := Aside0.mk (hB.out.trans (hb.mono hB.out.size)); replace gL := Aside0.mk (Kd.C_below gL.out hb); replace gO := Aside0.mk (Kd.C_below gO.out hb); replace gN := Aside0.mk (Kd.C_below gN.out hb); clear hb))
          go_ret
          exact ⟨rfl, hB.out⟩
theorem ChangeRefuses_walk (A0 : Option Addr) (c0 : Nat) (l0 : List ByteArray) (a1 : Int) (A2 : Option Addr) (c2 : Nat) (l2 : List ByteArray) (A3 : Option Addr) (c3 : Nat) (l3 : List ByteArray) (a4 : Bool) (W : World) (hr0 : Kd.C Kd.string W A0 l0.length l0) (hc0 : l0.length ≤ c0) (_hz0 : l0.length * 16 ≤ 140737488351232) (hs0 : ∀ s ∈ l0, s.size ≤ 140737488351232) (_w1 : (Lit.int .i64 a1).wf = true)
    (hr2 : Kd.C Kd.string W A2 l2.length l2) (hc2 : l2.length ≤ c2) (_hz2 : l2.length * 16 ≤ 140737488351232) (hs2 : ∀ s ∈ l2, s.size ≤ 140737488351232) (hr3 : Kd.C Kd.string W A3 l3.length l3) (hc3 : l3.length ≤ c3) (_hz3 : l3.length * 16 ≤ 140737488351232) (hs3 : ∀ s ∈ l3, s.size ≤ 140737488351232) :
    Calls Try.prog 5 #[.slice A0 l0.length c0, .int .i64 a1, .slice A2 l2.length c2, .slice A3 l3.length c3, .bool a4] W fun e W' => e = .returned (.bool true) ∧ Below W.heap.size W W' := refuses_calls A0 c0 l0 a1 A2 c2 l2 A3 c3 l3 a4 W hr0 hc0 hr2 hc2 hr3 hc3 hs0 hs2 hs3
end Go.Proofs.Ytlkmidginogehaa.Plain
