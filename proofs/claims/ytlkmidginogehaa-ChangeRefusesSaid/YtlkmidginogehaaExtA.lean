/- foolscaplaw21.ChangeApplies: the walk. -/
import Derived.Test.YtlkmidginogehaaExtB
set_option linter.unusedVariables false
set_option linter.unusedSimpArgs false
namespace Go.Proofs.Ytlkmidginogehaa.Plain
open Go.RowKit Go.Shelf Go.Proofs Go.Proofs.YtlkmidginogehaaW.PrintWords Go.Proofs.YtlkmidginogehaaW.PrintLast Go.Proofs.YtlkmidginogehaaW.PrintMore
open Go.Proofs.Ytlkmidginogehaa.MChange Go.Proofs.Ytlkmidginogehaa.Ext

theorem rapply_c (k : Nat) (A0 : Option Addr) (c0 : Nat) (l0 : List ByteArray) (A1 : Option Addr) (c1 : Nat) (l1 : List S40) (r1 : List ByteArray) (r2 : Bool) (w : World) (h : foolscapref19_Apply.f k l0 l1 = some (r1, r2)) (hr0 : Kd.C Kd.string w A0 l0.length l0) (hc0 : l0.length ≤ c0) (hr1 : Kd.C k40 w A1 l1.length l1) (hc1 : l1.length ≤ c1) :
    Calls Try.prog 11 #[.slice A0 l0.length c0, .slice A1 l1.length c1] w fun e w' => (∃ A c, e = .returned (.tuple #[.slice A r1.length c, .bool r2]) ∧ r1.length ≤ c ∧ Kd.C Kd.string w' A r1.length r1) ∧ Below w.heap.size w w' :=
  (foolscapref19_Apply.calls k A0 c0 l0 A1 c1 l1 r1 r2 w hr0 hc0 hr1 hc1 h).mono fun e w' ⟨v, h1, h2, h3⟩ => by
    obtain ⟨A, c, rfl, h4, h5⟩ := Kd.R_reads h2
    exact ⟨⟨A, c, h1, h4, h5⟩, h3⟩
theorem fits_c (k : Nat) (A0 : Option Addr) (c0 : Nat) (l0 : List ByteArray) (A1 : Option Addr) (c1 : Nat) (l1 : List S40) (r : Bool) (w : World) (h : change_Fits.f k l0 l1 = some r) (hr0 : Kd.C Kd.string w A0 l0.length l0) (hc0 : l0.length ≤ c0) (hr1 : Kd.C k40 w A1 l1.length l1) (hc1 : l1.length ≤ c1) :
    Calls Try.prog 13 #[.slice A0 l0.length c0, .slice A1 l1.length c1] w fun e w' => e = .returned (.bool r) ∧ Below w.heap.size w w' :=
  change_Fits.calls k _ A0 c0 l0 A1 c1 l1 r w (V_of_C Kd.heap_string hr0 hc0) hr1 hc1 h
theorem rfits_c (k : Nat) (A0 : Option Addr) (c0 : Nat) (l0 : List ByteArray) (A1 : Option Addr) (c1 : Nat) (l1 : List S40) (r : Bool) (w : World) (h : foolscapref19_Fits.f k l0 l1 = some r) (hr0 : Kd.C Kd.string w A0 l0.length l0) (hc0 : l0.length ≤ c0) (hr1 : Kd.C k40 w A1 l1.length l1) (hc1 : l1.length ≤ c1) :
    Calls Try.prog 14 #[.slice A0 l0.length c0, .slice A1 l1.length c1] w fun e w' => e = .returned (.bool r) ∧ Below w.heap.size w w' :=
  foolscapref19_Fits.calls k _ A0 c0 l0 A1 c1 l1 r w (V_of_C Kd.heap_string hr0 hc0) hr1 hc1 h
theorem rinverse_c (k : Nat) (A1 : Option Addr) (c1 : Nat) (l1 ys : List S40) (w : World) (h : foolscapref19_Inverse.f k l1 = some ys) (hr1 : Kd.C k40 w A1 l1.length l1) (hc1 : l1.length ≤ c1) :
    Calls Try.prog 17 #[.slice A1 l1.length c1] w fun e w' => (∃ A' c', e = .returned (.slice A' ys.length c') ∧ ys.length ≤ c' ∧ Kd.C k40 w' A' ys.length ys) ∧ Below w.heap.size w w' :=
  (foolscapref19_Inverse.calls k _ A1 c1 l1 ys w (V_of_C k40_heap hr1 hc1) h).mono fun e w' ⟨v, h1, h2, h3⟩ => by
    obtain ⟨A, c, rfl, h4, h5⟩ := Kd.N_reads h2
    exact ⟨⟨A, c, h1, h4, h5⟩, h3⟩

/-- what a list of changes bears, for the law -/
def Good (l0 : List ByteArray) (xs : List S40) : Prop := BdL l0 xs ∧ BdT l0 xs ∧ xs.length ≤ 12 ∧ ∀ x ∈ xs, (x.f1.length ≤ 100 ∧ total x.f1 ≤ 1000000) ∧ x.f2.length ≤ 100 ∧ total x.f2 ≤ 1000000
theorem good_light {l0 : List ByteArray} {cs : List S40} (hl : l0.length ≤ 40) (ht : total l0 ≤ 1200) (h : LightC cs) : Good l0 cs :=
  ⟨bdl_light (by omega) h.1 (fun c hc => by have := h.2 c hc; omega), bdt_light (by omega) h.1 (fun c hc => by have := h.2 c hc; omega), h.1, fun c hc => by have := h.2 c hc; omega⟩
theorem good_made {l0 : List ByteArray} {cs : List S40} (hl : l0.length ≤ 40) (ht : total l0 ≤ 1200) (h : LightC cs) : Good l0 (madeL l0 cs) := by
  obtain ⟨h1, h2⟩ := made_len cs l0 (fun c hc => by have := h.2 c hc; omega)
  have h3 := h.1
  exact ⟨bdl_light (by omega) (by omega) (fun c hc => by have := h2 c hc; omega), bdt_light (by omega) (by omega) (fun c hc => by have := h2 c hc; omega), by omega, fun c hc => by have := h2 c hc; omega⟩
/-- the lines and one list of changes, whole -/
def AppHas (l0 : List ByteArray) (W : World) (v : Value) : Prop := ∃ A c xs, v = .slice A xs.length c ∧ xs.length ≤ c ∧ Kd.C k40 W A xs.length xs ∧ Good l0 xs
theorem AppHas.below {l0 : List ByteArray} {W W' : World} {v : Value} (h : AppHas l0 W v) (hb : Below W.heap.size W W') : AppHas l0 W' v := by
  obtain ⟨A, c, xs, h1, h2, h3, h4⟩ := h
  exact ⟨A, c, xs, h1, h2, Kd.C_below h3 hb, h4⟩
def AppInv (A0 : Option Addr) (l0 : List ByteArray) (w : World) (B : Nat) (va vb : Value) (kq : Nat) (v28 : Value) (W : World) : Prop :=
  ∃ i : Nat, v28 = .int .i64 i ∧ kq + i = 3 ∧ i ≤ 2 ∧ Kd.C Kd.string W A0 l0.length l0 ∧ Below w.heap.size w W ∧ W.heap[B]? = some (.cells #[va, vb] 23 (0, 0)) ∧ AppHas l0 W va ∧ AppHas l0 W vb

theorem rsize_c (k : Nat) (A0 : Option Addr) (c0 : Nat) (l0 : List ByteArray) (r : Int) (w : World) (h : foolscapref5_Size.f k l0 = some r) (hr0 : Kd.C Kd.string w A0 l0.length l0) (hc0 : l0.length ≤ c0) :
    Calls Try.prog 19 #[.slice A0 l0.length c0] w fun e w' => e = .returned (.int .i64 r) ∧ Below w.heap.size w w' :=
  (foolscapref5_Size.calls k A0 c0 l0 r w hr0 hc0 h).mono fun e w' ⟨h1, h2⟩ => ⟨h1, below_of_drawn h2⟩
theorem below_trans' {w W W' : World} (hb : Below W.heap.size W W') (h : Below w.heap.size w W) : Below w.heap.size w W' := h.trans (hb.mono h.size)
/-- what a round needs of the memory -/
def AppFr (A0 : Option Addr) (l0 : List ByteArray) (w : World) (B : Nat) (va vb : Value) (A : Option Addr) (xs : List S40) (W : World) : Prop :=
  Kd.C Kd.string W A0 l0.length l0 ∧ Below w.heap.size w W ∧ W.heap[B]? = some (.cells #[va, vb] 23 (0, 0)) ∧ AppHas l0 W va ∧ AppHas l0 W vb ∧ Kd.C k40 W A xs.length xs
theorem AppFr.below {A0 : Option Addr} {l0 : List ByteArray} {w : World} {B : Nat} {va vb : Value} {A : Option Addr} {xs : List S40} {W W' : World} (h : AppFr A0 l0 w B va vb A xs W) (hb : Below W.heap.size W W') : AppFr A0 l0 w B va vb A xs W' := by
  obtain ⟨h1, h2, h3, h4, h5, h6⟩ := h
  exact ⟨Kd.C_below h1 hb, h2.trans (hb.mono h2.size), (hb.block _ (Array.getElem?_eq_some_iff.1 h3).1).trans h3, h4.below hb, h5.below hb, Kd.C_below h6 hb⟩

set_option maxRecDepth 100000 in
set_option maxHeartbeats 4000000 in
theorem applies_calls (A0 : Option Addr) (c0 : Nat) (l0 : List ByteArray) (A1 : Option Addr) (c1 : Nat) (cs : List S40) (w : World) (hr0 : Kd.C Kd.string w A0 l0.length l0) (hc0 : l0.length ≤ c0) (hr1 : Kd.C k40 w A1 cs.length cs) (hc1 : cs.length ≤ c1)
    (hs0 : ∀ s ∈ l0, s.size ≤ 140737488351232) (hz : Sized cs) : Calls Try.prog 3 #[.slice A0 l0.length c0, .slice A1 cs.length c1] w fun e w' => e = .returned (.bool true) ∧ Below w.heap.size w w' := by
  obtain ⟨b1, f1, g1⟩ := Light_val 7000 l0 (by omega) hs0
  obtain ⟨b2, f2, g2⟩ := light_val 7000 cs hz (by omega)
  have hu40 := Try.underlying40
  have F1 := Aside0.mk f1
  have F2 := Aside0.mk f2
  have gL := Aside0.mk hr0
  have gC := Aside0.mk hr1
  have hB := Aside0.mk (Below.refl w.heap.size w)
  clear f1 f2 hr0 hr1 hs0 hz
  cases b1 with
  | false =>
    clear g1 g2 F2
    go_enter Try.func3, Try.ntmps3
    go_wp2_with (first
      | (go_at_call 6; refine (known_calls w).mono ?_; rintro e W1 ⟨rfl, hb⟩; replace hB := Aside0.mk (hB.out.trans (hb.mono hB.out.size)); replace gL := Aside0.mk (Kd.C_below gL.out hb))
      | (go_at_call 7; refine (Light_c _ A0 c0 l0 _ W1 F1.out gL.out hc0).mono ?_; clear F1; rintro e W2 ⟨rfl, hb⟩; replace hB := Aside0.mk (hB.out.trans (hb.mono hB.out.size))))
    go_ret
    exact ⟨rfl, hB.out⟩
  | true =>
    cases b2 with
    | false =>
      clear g1 g2
      go_enter Try.func3, Try.ntmps3
      go_wp2_with (first
        | (go_at_call 6; refine (known_calls w).mono ?_; rintro e W1 ⟨rfl, hb⟩; replace hB := Aside0.mk (hB.out.trans (hb.mono hB.out.size)); replace gL := Aside0.mk (Kd.C_below gL.out hb); replace gC := Aside0.mk (Kd.C_below gC.out hb))
        | (go_at_call 7; refine (Light_c _ A0 c0 l0 _ W1 F1.out gL.out hc0).mono ?_; clear F1; rintro e W2 ⟨rfl, hb⟩; replace hB := Aside0.mk (hB.out.trans (hb.mono hB.out.size)); replace gC := Aside0.mk (Kd.C_below gC.out hb))
        | (go_at_call 8; refine (light_c _ A1 c1 cs _ W2 F2.out gC.out hc1).mono ?_; clear F2; rintro e W3 ⟨rfl, hb⟩; replace hB := Aside0.mk (hB.out.trans (hb.mono hB.out.size))))
      go_ret
      exact ⟨rfl, hB.out⟩
    | true =>
      obtain ⟨hl, ht⟩ := g1 rfl
      have hL := g2 rfl
      clear g1 g2
      have hg1 := Aside0.mk (good_light hl ht hL)
      have hg2 := Aside0.mk (good_made hl ht hL)
      obtain ⟨ms, hms⟩ : ∃ ms, ms = madeL l0 cs := ⟨_, rfl⟩
      rw [← hms] at hg2
      have HMS := Aside0.mk hms
      have HL := Aside0.mk hL
      clear hms hL
      go_enter Try.func3, Try.ntmps3
      go_wp2_with (first
        | (go_at_call 6; refine (known_calls w).mono ?_; rintro e W1 ⟨rfl, hb⟩; replace hB := Aside0.mk (hB.out.trans (hb.mono hB.out.size)); replace gL := Aside0.mk (Kd.C_below gL.out hb); replace gC := Aside0.mk (Kd.C_below gC.out hb); clear hb)
        | (go_at_call 7; refine (Light_c _ A0 c0 l0 _ W1 F1.out gL.out hc0).mono ?_; clear F1; rintro e W2 ⟨rfl, hb⟩; replace hB := Aside0.mk (hB.out.trans (hb.mono hB.out.size)); replace gL := Aside0.mk (Kd.C_below gL.out hb); replace gC := Aside0.mk (Kd.C_below gC.out hb); clear hb)
        | (go_at_call 8; refine (light_c _ A1 c1 cs _ W2 F2.out gC.out hc1).mono ?_; clear F2; rintro e W3 ⟨rfl, hb⟩; replace hB := Aside0.mk (hB.out.trans (hb.mono hB.out.size)); replace gL := Aside0.mk (Kd.C_below gL.out hb); replace gC := Aside0.mk (Kd.C_below gC.out hb); clear hb)
        | (go_at_call 9; refine (made_calls A0 c0 l0 A1 c1 cs W3 gL.out hc0 gC.out hc1 hl HL.out).mono ?_; clear HL; rw [← HMS.out]; rintro e W4 ⟨⟨A4, c4, rfl, l4, g4⟩, hb⟩; replace hB := Aside0.mk (hB.out.trans (hb.mono hB.out.size)); replace gL := Aside0.mk (Kd.C_below gL.out hb); replace gC := Aside0.mk (Kd.C_below gC.out hb); clear hb; replace g4 := Aside0.mk g4))
      go_loopg [28] 3 (fun kq v28 w' => Aside0 (AppInv A0 l0 w W4.heap.size (.slice A1 cs.length c1) (.slice A4 ms.length c4) kq v28 w'))
      case atStart =>
        have hba : Below W4.heap.size W4 (W4.alloc (.cells #[.slice A1 cs.length c1, .slice A4 ms.length c4] 23)) := (Below.refl _ _).alloc (Nat.le_refl _) _
        exact ⟨0, rfl, by omega, by omega, Kd.C_below gL.out hba, hB.out.trans (hba.mono hB.out.size), World.alloc_heap_new W4 _, ⟨A1, c1, cs, rfl, hc1, Kd.C_below gC.out hba, hg1.out⟩, ⟨A4, c4, ms, rfl, l4, Kd.C_below g4.out hba, hg2.out⟩⟩
      case round =>
        clear hB gL gC g4
        obtain ⟨i, rfl, hkq, hi, hLL, hBB, hblk, hva, hvb⟩ := hrel.out
        have HKQ := Aside0.mk hkq
        have gL := Aside0.mk hLL
        have hB := Aside0.mk hBB
        have HBLK := Aside0.mk hblk
        have HVA := Aside0.mk hva
        have HVB := Aside0.mk hvb
        clear hkq hLL hBB hva hvb hrel
        have k0 : wr.cell? ⟨W4.heap.size, 0, none⟩ = some (.slice A1 cs.length c1) := by simp [World.cell?, hblk]
        have k1 : wr.cell? ⟨W4.heap.size, 1, none⟩ = some (.slice A4 ms.length c4) := by simp [World.cell?, hblk]
        clear hblk
        by_cases hd : (i : Int) < 2
        · have hdb : decide ((i : Int) < 2) = true := decide_eq_true hd
          obtain ⟨A, c, xs, hkx, hlx, hCx, hgx⟩ : ∃ A c xs, wr.cell? ⟨W4.heap.size, i, none⟩ = some (.slice A xs.length c) ∧ xs.length ≤ c ∧ Kd.C k40 wr A xs.length xs ∧ Good l0 xs := by
            have h2 : i = 0 ∨ i = 1 := by omega
            rcases h2 with rfl | rfl
            · obtain ⟨A, c, xs, e, h1, h2, h3⟩ := HVA.out
              exact ⟨A, c, xs, by rw [k0, e], h1, h2, h3⟩
            · obtain ⟨A, c, xs, e, h1, h2, h3⟩ := HVB.out
              exact ⟨A, c, xs, by rw [k1, e], h1, h2, h3⟩
          have gX := Aside0.mk hCx
          have GX := Aside0.mk hgx
          clear k0 k1 hCx hgx
          have hi0 : (0 : Int) ≤ (i : Int) := by omega
          obtain ⟨k1, rfl⟩ : ∃ m, gk = m + 1 := ⟨gk - 1, by have := HKQ.out; omega⟩
          have FR := Aside0.mk (show AppFr A0 l0 w W4.heap.size (.slice A1 cs.length c1) (.slice A4 ms.length c4) A xs wr from ⟨gL.out, hB.out, HBLK.out, HVA.out, HVB.out, gX.out⟩)
          clear gL hB HBLK HVA HVB gX
          obtain ⟨r1, r2, hr⟩ : ∃ r1 r2, res (applyAll l0 xs) = (r1, r2) := ⟨_, _, rfl⟩
          obtain ⟨q1, q2, q3, q4⟩ := GX.out
          have hr1 : r1.length ≤ 6000 := by
            cases ha : applyAll l0 xs with
            | none => rw [ha] at hr; obtain ⟨rfl, _⟩ := Prod.mk.inj hr; simp
            | some v => rw [ha] at hr; obtain ⟨rfl, _⟩ := Prod.mk.inj hr; have := applyAll_len _ _ _ q1 ha; omega
          have f1 := Apply_val 7000 l0 xs (by omega) q1 (by omega)
          have f2 := rApply_val 7000 l0 xs (by omega) q1 (by omega)
          rw [hr] at f1 f2
          have f3 := strings_val 7000 r1 r1 (by omega) (by omega)
          rw [decide_eq_true rfl] at f3
          have f4 := Fits_val 7000 l0 xs (by omega) q1 q2 (by omega)
          have f5 := rFits_val 7000 l0 xs (by omega) q1 q2 (by omega)
          obtain ⟨ff, hff⟩ : ∃ ff, ff = fitsAll l0 xs := ⟨_, rfl⟩
          rw [← hff] at f4 f5
          have f6 := rInverse_val 7000 xs (by omega) (by omega)
          obtain ⟨is, his⟩ : ∃ is, is = xs.reverse.map inv1 := ⟨_, rfl⟩
          rw [← his] at f6
          have hisl : is.length = xs.length := by rw [his, List.length_map, List.length_reverse]
          have f7 := Changes_self 7000 is (by omega) (fun c hc => by
            rw [his] at hc
            obtain ⟨d, hd, rfl⟩ := List.mem_map.1 hc
            have := q4 d (List.mem_reverse.1 hd)
            exact ⟨Nat.le_trans this.2.1 (by omega), Nat.le_trans this.1.1 (by omega)⟩) (by omega)
          have hx1 : xs.length ≤ 100000 := by omega
          have hz1 := Aside0.mk (fun x (hx : x ∈ xs) => (show x.f1.length ≤ 100000 ∧ x.f2.length ≤ 100000 by have := q4 x hx; omega))
          have G1 := Aside0.mk f1
          have G2 := Aside0.mk f2
          have G3 := Aside0.mk f3
          have G4 := Aside0.mk f4
          have G5 := Aside0.mk f5
          have G6 := Aside0.mk f6
          have G7 := Aside0.mk f7
          have HIS := Aside0.mk his
          clear f1 f2 f3 f4 f5 f6 f7 his hff hr q1 q2 q4 hisl
          go_wp2_with (first
            | (go_at_call 10; refine (apply_c 7000 A0 c0 l0 A c xs r1 r2 wr G1.out FR.out.1 hc0 FR.out.2.2.2.2.2 hlx).mono ?_; clear G1; rintro e W5 ⟨⟨A5, c5, rfl, l5, g5⟩, hb⟩; replace FR := Aside0.mk (FR.out.below hb); clear hb; replace g5 := Aside0.mk g5)
            | (go_at_call 11; refine (rapply_c 7000 A0 c0 l0 A c xs r1 r2 W5 G2.out FR.out.1 hc0 FR.out.2.2.2.2.2 hlx).mono ?_; clear G2; rintro e W6 ⟨⟨A6, c6, rfl, l6, g6⟩, hb⟩; replace FR := Aside0.mk (FR.out.below hb); replace g5 := Aside0.mk (Kd.C_below g5.out hb); clear hb; replace g6 := Aside0.mk g6)
            | (go_at_call 12; refine (strings_c 7000 A5 c5 r1 A6 c6 r1 true W6 G3.out g5.out l5 g6.out l6).mono ?_; clear G3 g5 g6; rintro e W7 ⟨rfl, hb⟩; replace FR := Aside0.mk (FR.out.below hb); clear hb)
            | (go_at_call 13; refine (fits_c 7000 A0 c0 l0 A c xs ff W7 G4.out FR.out.1 hc0 FR.out.2.2.2.2.2 hlx).mono ?_; clear G4; rintro e W8 ⟨rfl, hb⟩; replace FR := Aside0.mk (FR.out.below hb); clear hb)
            | (go_at_call 14; refine (rfits_c 7000 A0 c0 l0 A c xs ff W8 G5.out FR.out.1 hc0 FR.out.2.2.2.2.2 hlx).mono ?_; clear G5; rintro e W9 ⟨rfl, hb⟩; replace FR := Aside0.mk (FR.out.below hb); clear hb)
            | (go_at_call 16; refine (inverse_s W9 A c xs is HIS.out FR.out.2.2.2.2.2 hlx hx1 hz1.out).mono ?_; clear HIS; rintro e W10 ⟨⟨A10, c10, rfl, l10, g10⟩, hb⟩; replace FR := Aside0.mk (FR.out.below hb); clear hb; replace g10 := Aside0.mk g10)
            | (go_at_call 17; refine (rinverse_c 7000 A c xs is W10 G6.out FR.out.2.2.2.2.2 hlx).mono ?_; clear G6; rintro e W11 ⟨⟨A11, c11, rfl, l11, g11⟩, hb⟩; replace FR := Aside0.mk (FR.out.below hb); replace g10 := Aside0.mk (Kd.C_below g10.out hb); clear hb; replace g11 := Aside0.mk g11)
            | (go_at_call 15; refine (foolscaphelp_Changes.calls 7000 A10 c10 is A11 c11 is true W11 g10.out l10 g11.out l11 G7.out).mono ?_; clear G7 g10 g11; rintro e W12 ⟨rfl, hb⟩; replace FR := Aside0.mk (FR.out.below hb); clear hb))
          go_loopg [11] (xs.length + 1) (fun kq' v11 w' => Aside0 (∃ j : Nat, v11 = .int .i64 j ∧ kq' + j = xs.length + 1 ∧ j ≤ xs.length ∧ AppFr A0 l0 w W4.heap.size (.slice A1 cs.length c1) (.slice A4 ms.length c4) A xs w'))
          case atStart => exact ⟨0, rfl, by omega, by omega, FR.out⟩
          case round =>
            clear FR
            obtain ⟨j, rfl, hkq2, hj, hfr⟩ := hrel.out
            have FR := Aside0.mk hfr
            have HKQ2 := Aside0.mk hkq2
            clear hkq2 hfr hrel
            obtain ⟨k2, rfl⟩ : ∃ m, gk = m + 1 := ⟨gk - 1, by have := HKQ2.out; omega⟩
            by_cases hd2 : (j : Int) < (xs.length : Int)
            · have hdb2 : decide ((j : Int) < (xs.length : Int)) = true := decide_eq_true hd2
              have hj2 : j < xs.length := by omega
              have p0 : (0 : Int) ≤ (j : Int) := by omega
              obtain ⟨ad, A1_, c1_, A2_, c2_, ead, hx0, hx1, hx2, hl1, hi1, hl2, hi2⟩ := at_T40 FR.out.2.2.2.2.2 (j : Int) p0 hd2
              cases ead
              rw [rd_40 xs j (j : Int) rfl hj2] at hx0 hx1 hx2 hl1 hi1 hl2 hi2
              have hgd := GX.out.2.2.2 xs[j] (List.getElem_mem _)
              obtain ⟨ch, hch⟩ : ∃ ch, ch = xs[j] := ⟨_, rfl⟩
              rw [← hch] at hx0 hx1 hx2 hl1 hi1 hl2 hi2 hgd
              clear hch
              rw [Int.toNat_natCast] at hx0 hx1 hx2
              have fG := Grow_val 7000 ch (by omega) (by omega) hgd.1.2 hgd.2.2 (by omega)
              have fS1 := rsize_val 7000 ch.f1 (by omega) (by omega) (by omega)
              have fS2 := rsize_val 7000 ch.f2 (by omega) (by omega) (by omega)
              have hs1 : 0 ≤ sizeL ch.f1 ∧ sizeL ch.f1 ≤ 2000000 := by unfold sizeL; omega
              have hs2 : 0 ≤ sizeL ch.f2 ∧ sizeL ch.f2 ≤ 2000000 := by unfold sizeL; omega
              obtain ⟨s1, hs1e⟩ : ∃ s1, s1 = sizeL ch.f1 := ⟨_, rfl⟩
              obtain ⟨s2, hs2e⟩ : ∃ s2, s2 = sizeL ch.f2 := ⟨_, rfl⟩
              rw [← hs1e] at fG fS1 hs1
              rw [← hs2e] at fG fS2 hs2
              clear hs1e hs2e hgd
              have HG := Aside0.mk fG
              have HS1 := Aside0.mk fS1
              have HS2 := Aside0.mk fS2
              have gI1 := Aside0.mk hi1
              have gI2 := Aside0.mk hi2
              clear fG fS1 fS2 hi1 hi2
              have hw : IntKind.i64.wrap (s2 - s1) = s2 - s1 := IntWalk.i64_in _ (by omega)
              go_wp2_with fail
              have hB0 := Below.refl wr.heap.size wr
              go_region_held3 (fun w' => w'.cell? (ad.add (j * 3)) = some (.int .i64 ch.f0) ∧ w'.cell? ⟨(ad.add (j * 3)).block, (ad.add (j * 3)).off + 1, none⟩ = some (.slice A1_ ch.f1.length c1_) ∧ w'.cell? ⟨(ad.add (j * 3)).block, (ad.add (j * 3)).off + 2, none⟩ = some (.slice A2_ ch.f2.length c2_) ∧ Below wr.heap.size wr w')
                (first
                  | (exact ⟨by simpa using hx0, by simpa using hx1, by simpa using hx2, below_drew1 hB0⟩)
                  | (exact ⟨pw_cell_below HBC hx0, pw_cell_below HBC hx1, pw_cell_below HBC hx2, HBC⟩)
                  | (exact ⟨pw_cell_below HBB hx0, pw_cell_below HBB hx1, pw_cell_below HBB hx2, HBB⟩)
                  | (exact ⟨pw_cell_below HBA hx0, pw_cell_below HBA hx1, pw_cell_below HBA hx2, HBA⟩))
                (first
                  | (go_at_call 18; refine (change_Grow.calls 7000 ch.f0 _ _ ch.f1 _ _ ch.f2 _ _ (Kd.C_below gI1.out (below_drew1 hB0)) hl1 (Kd.C_below gI2.out (below_drew1 hB0)) hl2 HG.out).mono ?_; clear HG; rintro e WA ⟨rfl, hb⟩; have HBA := below_trans' hb (below_drew1 hB0); clear hb)
                  | (go_at_call 19; refine (rsize_c 7000 _ _ ch.f2 _ _ HS2.out (Kd.C_below gI2.out HBA) hl2).mono ?_; clear HS2; rintro e WB ⟨rfl, hb⟩; have HBB := below_trans' hb HBA; clear hb)
                  | (go_at_call 19; refine (rsize_c 7000 _ _ ch.f1 _ _ HS1.out (Kd.C_below gI1.out HBB) hl1).mono ?_; clear HS1; rintro e WC ⟨rfl, hb⟩; have HBC := below_trans' hb HBB; clear hb))
              clear hw
              go_wp2
              go_roundg k2
              case measure => have := HKQ2.out; omega
              case rel => exact ⟨j + 1, by simp, by have := HKQ2.out; omega, by omega, FR.out.below HBC⟩
            · have hdb2 : decide ((j : Int) < (xs.length : Int)) = false := decide_eq_false hd2
              go_wp2
              go_roundg k1
              case measure => have := HKQ.out; omega
              case rel => exact ⟨i + 1, by simp, by have := HKQ.out; omega, by omega, FR.out.1, FR.out.2.1, FR.out.2.2.1, FR.out.2.2.2.1, FR.out.2.2.2.2.1⟩
        · have hdb : decide ((i : Int) < 2) = false := decide_eq_false hd
          clear k0 k1
          go_wp2
          go_ret
          exact ⟨rfl, hB.out⟩
theorem ChangeApplies_walk (A0 : Option Addr) (c0 : Nat) (l0 : List ByteArray) (A1 : Option Addr) (c1 : Nat) (l1 : List S40) (W : World) (hr0 : Kd.C Kd.string W A0 l0.length l0) (hc0 : l0.length ≤ c0) (_hz0 : l0.length * 16 ≤ 140737488351232) (hs0 : ∀ s ∈ l0, s.size ≤ 140737488351232) (hr1 : Kd.C k40 W A1 l1.length l1) (hc1 : l1.length ≤ c1) (_hz1 : l1.length ≤ c1) (hs1 : Sized l1) :
    Calls Try.prog 3 #[.slice A0 l0.length c0, .slice A1 l1.length c1] W fun e W' => e = .returned (.bool true) ∧ Below W.heap.size W W' := applies_calls A0 c0 l0 A1 c1 l1 W hr0 hc0 hr1 hc1 hs0 hs1
end Go.Proofs.Ytlkmidginogehaa.Plain
