/- find.Word: its walk. -/
import Derived.Test.YtbfoflhfmhfofaaExtS
import Derived.Test.YtbfoflhfmhfofaaExtO
set_option linter.unusedVariables false
set_option linter.unusedSimpArgs false
namespace Go.Proofs.Ytbfoflhfmhfofaa.Ext
open Go.RowKit Go.Shelf Go.Proofs Go.Proofs.YtbfoflhfmhfofaaW.PrintWords
attribute [local go_sem] Oper.semAt_some
attribute [local go_sem] wide_fn

def fwd (s : ByteArray) : Nat → Int → Int
  | 0, i => i
  | k + 1, i => if i < (s.size : Int) ∧ isW s i = false then fwd s k (i + 1) else i
def bck (s : ByteArray) : Nat → Int → Int
  | 0, i => i
  | k + 1, i => if isW s (i - 1) = true then bck s k (i - 1) else i
def upw (s : ByteArray) : Nat → Int → Int
  | 0, i => i
  | k + 1, i => if isW s i = true then upw s k (i + 1) else i

theorem fwd_go {s : ByteArray} {k : Nat} {i : Int} (h : i < (s.size : Int)) (h2 : isW s i = false) : fwd s (k + 1) i = fwd s k (i + 1) := by
  show (if _ then _ else _) = _; rw [if_pos ⟨h, h2⟩]
theorem fwd_stop {s : ByteArray} {i : Int} (h : ¬ (i < (s.size : Int) ∧ isW s i = false)) : ∀ k, fwd s k i = i
  | 0 => rfl
  | k + 1 => by show (if _ then _ else _) = _; rw [if_neg h]
theorem bck_go {s : ByteArray} {k : Nat} {i : Int} (h : isW s (i - 1) = true) : bck s (k + 1) i = bck s k (i - 1) := by
  show (if _ then _ else _) = _; rw [if_pos h]
theorem bck_stop {s : ByteArray} {i : Int} (h : isW s (i - 1) = false) : ∀ k, bck s k i = i
  | 0 => rfl
  | k + 1 => by show (if _ then _ else _) = _; rw [if_neg (by rw [h]; decide)]
theorem upw_go {s : ByteArray} {k : Nat} {i : Int} (h : isW s i = true) : upw s (k + 1) i = upw s k (i + 1) := by
  show (if _ then _ else _) = _; rw [if_pos h]
theorem upw_stop {s : ByteArray} {i : Int} (h : isW s i = false) : ∀ k, upw s k i = i
  | 0 => rfl
  | k + 1 => by show (if _ then _ else _) = _; rw [if_neg (by rw [h]; decide)]
theorem isW_in {s : ByteArray} {i : Int} (h : isW s i = true) : 0 ≤ i ∧ i < (s.size : Int) := by
  unfold isW at h; have := of_decide_eq_true h; exact ⟨this.1, this.2.1⟩

theorem PosBox.stored {W : World} {B : Nat} {a b a' b' : Int} (h : PosBox W B a b) : PosBox ((W.setCell ⟨B, 0, none⟩ (.int .i64 a')).setCell ⟨B, 1, none⟩ (.int .i64 b')) B a' b' := by
  unfold PosBox at h ⊢
  simp only [World.setCell, Array.getElem?_modify, if_true, h, Option.map_some]
  rfl
theorem PosBox.cells2 {W : World} {B : Nat} {a b : Int} (h : PosBox W B a b) : (W.cell? ⟨B, 0, none⟩ = some (.int .i64 a) ∧ W.cell? ⟨B, 1, none⟩ = some (.int .i64 b)) ∧ W.frozen? ⟨B, 0, none⟩ = false ∧ W.frozen? ⟨B, 1, none⟩ = false := by
  unfold PosBox at h
  refine ⟨⟨?_, ?_⟩, ?_, ?_⟩ <;> simp [World.cell?, World.frozen?, h]
theorem res15 {tmps : Array Value} {W : World} {B : Nat} {a b : Int} {d : ByteArray} {e : Bool} (h4 : tmps.getD 4 undef = .pointer (some ⟨B, 0, none⟩)) (h5 : tmps.getD 5 undef = .string d) (h6 : tmps.getD 6 undef = .bool e) (h : PosBox W B a b) :
    (results Try.f15 tmps).run Try.prog W = .ok (.tuple #[.agg #[.int .i64 a, .int .i64 b], .string d, .bool e]) W := by
  obtain ⟨c0, c1⟩ := h.cells
  have hr : Try.f15.results = #[.cell 4 28, .tmp 5, .tmp 6] := rfl
  rw [Array.getD_eq_getD_getElem?] at h4 h5 h6
  simp [results, hr, h4, h5, h6]
  go_simp
/-- what Word tells -/
def wordR (l : List ByteArray) (p0 p1 : Int) : Int × Int × ByteArray × Bool :=
  if placeB l p0 p1 = false then (0, 0, ByteArray.empty, false)
  else if fwd (rdOf ByteArray.empty l p0) (rdOf ByteArray.empty l p0).size p1 ≥ ((rdOf ByteArray.empty l p0).size : Int) then (0, 0, ByteArray.empty, false)
  else (p0, bck (rdOf ByteArray.empty l p0) (rdOf ByteArray.empty l p0).size (fwd (rdOf ByteArray.empty l p0) (rdOf ByteArray.empty l p0).size p1),
    (rdOf ByteArray.empty l p0).extract (bck (rdOf ByteArray.empty l p0) (rdOf ByteArray.empty l p0).size (fwd (rdOf ByteArray.empty l p0) (rdOf ByteArray.empty l p0).size p1)).toNat (upw (rdOf ByteArray.empty l p0) (rdOf ByteArray.empty l p0).size (bck (rdOf ByteArray.empty l p0) (rdOf ByteArray.empty l p0).size (fwd (rdOf ByteArray.empty l p0) (rdOf ByteArray.empty l p0).size p1))).toNat, true)

set_option maxRecDepth 100000 in
set_option maxHeartbeats 2000000 in
theorem word_on (A0 : Option Addr) (c0 : Nat) (l0 : List ByteArray) (p0 p1 : Int) (w : World) (hr0 : Kd.C Kd.string w A0 l0.length l0) (hc0 : l0.length ≤ c0) (hsz : ∀ s ∈ l0, s.size ≤ 100000) (hp : placeB l0 p0 p1 = true) :
    Calls Try.prog 15 #[.slice A0 l0.length c0, .agg #[.int .i64 p0, .int .i64 p1]] w fun e w' => e = .returned (.tuple #[.agg #[.int .i64 (wordR l0 p0 p1).1, .int .i64 (wordR l0 p0 p1).2.1], .string (wordR l0 p0 p1).2.2.1, .bool (wordR l0 p0 p1).2.2.2]) ∧ Below w.heap.size w w' := by
  obtain ⟨r, hr⟩ : ∃ r, wordR l0 p0 p1 = r := ⟨_, rfl⟩
  rw [hr]
  have hPl := class_Place.calls A0 c0 l0 p0 p1 true
  have hq : class_Place.f l0 p0 p1 = some true := by rw [place_is, hp]
  have hB0 : Below w.heap.size w ((w.alloc (.cells #[.int .i64 p0, .int .i64 p1] 28)).alloc (.cells #[.int .i64 0, .int .i64 0] 28)) := ((Below.refl _ w).alloc (Nat.le_refl _) _).alloc (by simp) _
  have hP := hPl _ (Kd.C_below hr0 hB0) hc0 hq
  clear hPl
  have hM0 : PosBox ((w.alloc (.cells #[.int .i64 p0, .int .i64 p1] 28)).alloc (.cells #[.int .i64 0, .int .i64 0] 28)) (w.heap.size + 1) 0 0 := by
    have h := World.alloc_heap_new (w.alloc (.cells #[.int .i64 p0, .int .i64 p1] 28)) (.cells #[.int .i64 0, .int .i64 0] 28)
    rw [World.size_alloc] at h; exact h
  have hN0 : PosBox ((w.alloc (.cells #[.int .i64 p0, .int .i64 p1] 28)).alloc (.cells #[.int .i64 0, .int .i64 0] 28)) w.heap.size p0 p1 := (Below.heap_alloc _ _ _ (by simp)).trans (World.alloc_heap_new w _)
  obtain ⟨q0, q1, q2, q3⟩ : 0 ≤ p0 ∧ p0 < l0.length ∧ 0 ≤ p1 ∧ p1 ≤ ((rdOf ByteArray.empty l0 p0).size : Int) := by simpa [placeB] using hp
  obtain ⟨s, hs⟩ : ∃ s, rdOf ByteArray.empty l0 p0 = s := ⟨_, rfl⟩
  have hss : s.size ≤ 100000 := hsz s (by rw [← hs]; unfold rdOf; rw [List.getD_eq_getElem?_getD, List.getElem?_eq_getElem (by omega)]; exact List.getElem_mem _)
  unfold wordR at hr
  rw [if_neg (by rw [hp]; simp), hs] at hr
  rw [hs] at q3
  have q4 := eq_true q0
  have q5 := eq_true q1
  go_enter Try.func15, Try.ntmps15
  go_wp2_with (go_at_call 24; refine hP.mono ?_; clear hP; rintro e W1 ⟨rfl, hb⟩; have hM1 : PosBox W1 (w.heap.size + 1) 0 0 := (hb.block _ (by simp)).trans hM0; have hN1 : PosBox W1 w.heap.size p0 p1 := (hb.block _ (by simp; omega)).trans hN0; obtain ⟨n0, n1⟩ := hN1.cells; obtain ⟨ad, rfl, hcell⟩ := Kd.at_string (Kd.C_below (Kd.C_below hr0 hB0) hb) p0 q0 q1; rw [hs] at hcell; obtain ⟨n2, n3⟩ := (show PosBox (W1.alloc (.cells #[.string s] 9)) w.heap.size p0 p1 from (Below.heap_alloc _ _ _ hN1.lt).trans hN1).cells)
  have hM2 : PosBox (W1.alloc (.cells #[.string s] 9)) (w.heap.size + 1) 0 0 := (Below.heap_alloc _ _ _ hM1.lt).trans hM1
  have hS2 := Boxed.new W1 9 (.string s)
  have hw1 : Below w.heap.size w W1 := hB0.trans (hb.mono (by simp; omega))
  have hw2 : Below w.heap.size w (W1.alloc (.cells #[.string s] 9)) := hw1.alloc hw1.size _
  obtain ⟨F, hF⟩ : ∃ F, fwd s s.size p1 = F := ⟨_, rfl⟩
  rw [hF] at hr
  have hsc := hS2.cell
  revert n2 n3 hM2 hS2 hw2 hsc
  obtain ⟨B7, hB7⟩ : ∃ B7, W1.heap.size = B7 := ⟨_, rfl⟩
  rw [hB7]
  generalize W1.alloc (.cells #[.string s] 9) = WB
  intro n2 n3 hM2 hS2 hw2 hsc
  go_loopw [9] (fun v wr => ∃ (i : Int) (m k : Nat), v = .int .i64 i ∧ wr = WB.drewN m ∧ 0 ≤ i ∧ i ≤ s.size ∧ (s.size : Int) - i ≤ k ∧ fwd s k i = F)
    (fun v _ => s.size - (intOf v).toNat)
  case atStart => exact ⟨p1, 0, s.size, rfl, rfl, q2, q3, by omega, hF⟩
  case round =>
    obtain ⟨i, m, k, rfl, rfl, i0, i1, i2, hFi⟩ := hrel
    by_cases hlt : i < (s.size : Int)
    · cases hi : isW s i with
      | false =>
        have hi1 := is1_calls s i B7 (WB.drewN m) hS2
        rw [hi] at hi1
        go_wp2_with (go_at_call 28; refine hi1.mono ?_; clear hi1; rintro e w' ⟨rfl, nd, rfl⟩)
        obtain ⟨k1, rfl⟩ : ∃ k1, k = k1 + 1 := ⟨k - 1, by omega⟩
        exact ⟨⟨i + 1, m + nd, k1, rfl, rfl, by omega, by omega, by omega, by rw [← fwd_go hlt hi]; exact hFi⟩, by simp [intOf]; omega⟩
      | true =>
        have hi1 := is1_calls s i B7 (WB.drewN m) hS2
        rw [hi] at hi1
        have hFe : i = F := by rw [← hFi]; exact (fwd_stop (by rw [hi]; simp) k).symm
        subst hFe
        rw [if_neg (by omega)] at hr
        go_wp2_with (go_at_call 28; refine hi1.mono ?_; clear hi1; rintro e w' ⟨rfl, nd, rfl⟩)
        obtain ⟨Lo, hLo⟩ : ∃ Lo, bck s s.size i = Lo := ⟨_, rfl⟩
        rw [hLo] at hr
        go_loopw [9] (fun v wr => ∃ (j : Int) (n k : Nat), v = .int .i64 j ∧ wr = WB.drewN n ∧ 0 ≤ j ∧ j ≤ s.size ∧ j ≤ k ∧ bck s k j = Lo)
          (fun v _ => (intOf v).toNat)
        case atStart => exact ⟨i, _, s.size, rfl, rfl, i0, i1, i1, hLo⟩
        case round =>
          obtain ⟨j, n, k2, rfl, rfl, j0, j1, j2, hLj⟩ := hrel
          cases hj : isW s (j - 1) with
          | true =>
            have hj1 := is1_calls s (j - 1) B7 (WB.drewN n) hS2
            rw [hj] at hj1
            have hjin := isW_in hj
            go_wp2_with (go_at_call 28; refine hj1.mono ?_; clear hj1; rintro e w' ⟨rfl, nd2, rfl⟩)
            obtain ⟨k3, rfl⟩ : ∃ k3, k2 = k3 + 1 := ⟨k2 - 1, by omega⟩
            exact ⟨⟨j - 1, n + nd2, k3, rfl, rfl, by omega, by omega, by omega, by rw [← bck_go hj]; exact hLj⟩, by simp [intOf]; omega⟩
          | false =>
            have hj1 := is1_calls s (j - 1) B7 (WB.drewN n) hS2
            rw [hj] at hj1
            have hLe : j = Lo := by rw [← hLj]; exact (bck_stop hj k2).symm
            subst hLe
            go_wp2_with (go_at_call 28; refine hj1.mono ?_; clear hj1; rintro e w' ⟨rfl, nd2, rfl⟩)
            obtain ⟨Hi, hHi⟩ : ∃ Hi, upw s s.size j = Hi := ⟨_, rfl⟩
            rw [hHi] at hr
            go_loopw [10] (fun v wr => ∃ (h : Int) (n k : Nat), v = .int .i64 h ∧ wr = WB.drewN n ∧ j ≤ h ∧ h ≤ s.size ∧ (s.size : Int) - h ≤ k ∧ upw s k h = Hi)
              (fun v _ => s.size - (intOf v).toNat)
            case atStart => exact ⟨j, _, s.size, rfl, rfl, Int.le_refl _, j1, by omega, hHi⟩
            case round =>
              obtain ⟨h, n3, k4, rfl, rfl, h0, h1, h2, hHh⟩ := hrel
              cases hh : isW s h with
              | true =>
                have hh1 := is1_calls s h B7 (WB.drewN n3) hS2
                rw [hh] at hh1
                have hhin := isW_in hh
                go_wp2_with (go_at_call 28; refine hh1.mono ?_; clear hh1; rintro e w' ⟨rfl, nd3, rfl⟩)
                obtain ⟨k5, rfl⟩ : ∃ k5, k4 = k5 + 1 := ⟨k4 - 1, by omega⟩
                exact ⟨⟨h + 1, n3 + nd3, k5, rfl, rfl, by omega, by omega, by omega, by rw [← upw_go hh]; exact hHh⟩, by simp [intOf]; omega⟩
              | false =>
                have hh1 := is1_calls s h B7 (WB.drewN n3) hS2
                rw [hh] at hh1
                have hHe : h = Hi := by rw [← hHh]; exact (upw_stop hh k4).symm
                subst hHe
                have e0 : 0 ≤ h := by omega
                obtain ⟨⟨m0, m1⟩, f0, f1⟩ := hM2.cells2
                go_wp2_with (go_at_call 28; refine hh1.mono ?_; clear hh1; rintro e w' ⟨rfl, nd3, rfl⟩)
                have g1 := eq_true j0
                have g2 := eq_true h0
                have g3 := eq_true h1
                have hB7lt : w.heap.size + 1 < B7 := by rw [← hB7]; exact hM1.lt
                have gx : (((WB.drewN (n3 + nd3 + 1)).setCell ⟨w.heap.size + 1, 0, none⟩ (.int .i64 p0)).setCell ⟨w.heap.size + 1, 1, none⟩ (.int .i64 j)).cell? ⟨B7, 0, none⟩ = some (.string s) := by
                  rw [World.cell?_setCell_other _ _ _ _ (fun e => by have := congrArg Addr.block e; simp at this; omega), World.cell?_setCell_other _ _ _ _ (fun e => by have := congrArg Addr.block e; simp at this; omega)]
                  exact hsc
                go_region
                go_wp2
                subst hr
                have hM3 : PosBox (WB.drewN (n3 + nd3 + 1)) (w.heap.size + 1) 0 0 := hM2
                refine bodyPost_ret (res15 (B := w.heap.size + 1) (a := p0) (b := j) (d := s.extract j.toNat h.toNat) (e := true) rfl rfl rfl hM3.stored) rfl ?_
                exact ⟨rfl, ((below_drewN' hw2 _).setCell (p := ⟨w.heap.size + 1, 0, none⟩) (by simp) _).setCell (p := ⟨w.heap.size + 1, 1, none⟩) (by simp) _⟩
    · have hFe : i = F := by rw [← hFi]; exact (fwd_stop (fun h => hlt h.1) k).symm
      subst hFe
      rw [if_pos (by omega)] at hr
      subst hr
      obtain ⟨⟨m0, m1⟩, f0, f1⟩ := hM2.cells2
      go_wp2
      refine bodyPost_ret (res15 (B := w.heap.size + 1) (a := 0) (b := 0) (d := ByteArray.empty) (e := false) rfl rfl rfl hM2.stored) rfl ?_
      exact ⟨rfl, ((below_drewN' hw2 m).setCell (p := ⟨w.heap.size + 1, 0, none⟩) (by simp) _).setCell (p := ⟨w.heap.size + 1, 1, none⟩) (by simp) _⟩

set_option maxRecDepth 100000 in
set_option maxHeartbeats 1000000 in
theorem word_off (A0 : Option Addr) (c0 : Nat) (l0 : List ByteArray) (p0 p1 : Int) (w : World) (hr0 : Kd.C Kd.string w A0 l0.length l0) (hc0 : l0.length ≤ c0) (hp : placeB l0 p0 p1 = false) :
    Calls Try.prog 15 #[.slice A0 l0.length c0, .agg #[.int .i64 p0, .int .i64 p1]] w fun e w' => e = .returned (.tuple #[.agg #[.int .i64 0, .int .i64 0], .string ByteArray.empty, .bool false]) ∧ Below w.heap.size w w' := by
  have hPl := class_Place.calls A0 c0 l0 p0 p1 false
  have hq : class_Place.f l0 p0 p1 = some false := by rw [place_is, hp]
  have hB0 : Below w.heap.size w ((w.alloc (.cells #[.int .i64 p0, .int .i64 p1] 28)).alloc (.cells #[.int .i64 0, .int .i64 0] 28)) := ((Below.refl _ w).alloc (Nat.le_refl _) _).alloc (by simp) _
  have hP := hPl _ (Kd.C_below hr0 hB0) hc0 hq
  clear hPl
  have hM0 : PosBox ((w.alloc (.cells #[.int .i64 p0, .int .i64 p1] 28)).alloc (.cells #[.int .i64 0, .int .i64 0] 28)) (w.heap.size + 1) 0 0 := by
    have h := World.alloc_heap_new (w.alloc (.cells #[.int .i64 p0, .int .i64 p1] 28)) (.cells #[.int .i64 0, .int .i64 0] 28)
    rw [World.size_alloc] at h; exact h
  go_enter Try.func15, Try.ntmps15
  go_wp2_with (go_at_call 24; refine hP.mono ?_; clear hP; rintro e W1 ⟨rfl, hb⟩; have hM1 : PosBox W1 (w.heap.size + 1) 0 0 := (hb.block _ (by simp)).trans hM0; obtain ⟨⟨m0, m1⟩, f0, f1⟩ := hM1.cells2)
  refine bodyPost_ret (res15 (B := w.heap.size + 1) (a := 0) (b := 0) (d := ByteArray.empty) (e := false) rfl rfl rfl hM1.stored) rfl ?_
  exact ⟨rfl, ((hB0.trans (hb.mono (by simp; omega))).setCell (p := ⟨w.heap.size + 1, 0, none⟩) (by simp) _).setCell (p := ⟨w.heap.size + 1, 1, none⟩) (by simp) _⟩

/-- Word, within bounds -/
def find_Word.f (l0 : List ByteArray) (a1_0 : Int) (a1_1 : Int) : Option (Int × Int × ByteArray × Bool) :=
  if (l0.map ByteArray.size).sum ≤ 100000 then some (wordR l0 a1_0 a1_1) else none
theorem find_Word.calls (A0 : Option Addr) (c0 : Nat) (l0 : List ByteArray) (a1_0 : Int) (a1_1 : Int) (r1 : Int) (r2 : Int) (r3 : ByteArray) (r4 : Bool) (w : World) (hr0 : Kd.C Kd.string w A0 l0.length l0) (hc0 : l0.length ≤ c0) (h : find_Word.f l0 a1_0 a1_1 = some (r1, r2, r3, r4)) :
    Calls Try.prog 15 #[.slice A0 l0.length c0, .agg #[.int .i64 a1_0, .int .i64 a1_1]] w fun e w' => e = .returned (.tuple #[.agg #[.int .i64 r1, .int .i64 r2], .string r3, .bool r4]) ∧ Below w.heap.size w w' := by
  unfold find_Word.f at h
  by_cases hb : (l0.map ByteArray.size).sum ≤ 100000
  · rw [if_pos hb] at h
    have h := Option.some.inj h
    by_cases hp : placeB l0 a1_0 a1_1 = false
    · unfold wordR at h
      rw [if_pos hp] at h
      cases h
      exact word_off A0 c0 l0 a1_0 a1_1 w hr0 hc0 hp
    · have hs := word_on A0 c0 l0 a1_0 a1_1 w hr0 hc0 (fun s hs => by have := size_le_sum l0 s hs; omega) (by simpa using hp)
      rw [h] at hs
      exact hs
  · rw [if_neg hb] at h; cases h
end Go.Proofs.Ytbfoflhfmhfofaa.Ext
