/- foolscaplaw21.ChangeBack: the walk. -/
import Derived.Test.YtlkmidginogehaaExtM
import Derived.Test.YtlkmidginogehaaExtD
set_option linter.unusedVariables false
set_option linter.unusedSimpArgs false
namespace Go.Proofs.Ytlkmidginogehaa.Plain
open Go.RowKit Go.Shelf Go.Proofs Go.Proofs.YtlkmidginogehaaW.PrintWords Go.Proofs.YtlkmidginogehaaW.PrintLast Go.Proofs.YtlkmidginogehaaW.PrintMore
open Go.Proofs.Ytlkmidginogehaa.MChange Go.Proofs.Ytlkmidginogehaa.Ext

theorem inverse_s (w : World) (A : Option Addr) (c : Nat) (xs ys : List S40) (hys : ys = xs.reverse.map inv1) (hC : Kd.C k40 w A xs.length xs) (hc : xs.length ≤ c) (hx : xs.length ≤ 100000) (hsz : ∀ x ∈ xs, x.f1.length ≤ 100000 ∧ x.f2.length ≤ 100000) :
    Calls Try.prog 16 #[.slice A xs.length c] w fun e w' => (∃ A' c', e = .returned (.slice A' ys.length c') ∧ ys.length ≤ c' ∧ Kd.C k40 w' A' ys.length ys) ∧ Below w.heap.size w w' := by
  subst hys
  refine (inverse_c w A c xs hC hc hx hsz).mono fun e w' h => ?_
  obtain ⟨⟨v, h3, A', c', h4, h5, h6⟩, h7⟩ := h
  subst h4
  exact ⟨⟨A', c', h3, h5, h6⟩, h7⟩
theorem strings_c (k : Nat) (A0 : Option Addr) (c0 : Nat) (l0 : List ByteArray) (A1 : Option Addr) (c1 : Nat) (l1 : List ByteArray) (r : Bool) (w : World) (h : foolscaphelp_Strings.f k l0 l1 = some r) (hr0 : Kd.C Kd.string w A0 l0.length l0) (hc0 : l0.length ≤ c0) (hr1 : Kd.C Kd.string w A1 l1.length l1) (hc1 : l1.length ≤ c1) :
    Calls Try.prog 12 #[.slice A0 l0.length c0, .slice A1 l1.length c1] w fun e w' => e = .returned (.bool r) ∧ Below w.heap.size w w' :=
  (foolscaphelp_Strings.calls k A0 c0 l0 A1 c1 l1 r w hr0 hc0 hr1 hc1 h).mono fun e w' ⟨h1, h2⟩ => ⟨h1, below_of_drawn h2⟩
theorem text_c (k : Nat) (A0 : Option Addr) (c0 : Nat) (l0 : List ByteArray) (r : Bool) (w : World) (h : foolscaphelp_Text.f k l0 = some r) (hr0 : Kd.C Kd.string w A0 l0.length l0) (hc0 : l0.length ≤ c0) :
    Calls Try.prog 20 #[.slice A0 l0.length c0] w fun e w' => e = .returned (.bool r) ∧ Below w.heap.size w w' :=
  (foolscaphelp_Text.calls k A0 c0 l0 r w hr0 hc0 h).mono fun e w' ⟨h1, h2⟩ => ⟨h1, below_of_drawn h2⟩
theorem Light_c (k : Nat) (A0 : Option Addr) (c0 : Nat) (l0 : List ByteArray) (r : Bool) (w : World) (h : foolscaphelp_Light.f k l0 = some r) (hr0 : Kd.C Kd.string w A0 l0.length l0) (hc0 : l0.length ≤ c0) :
    Calls Try.prog 7 #[.slice A0 l0.length c0] w fun e w' => e = .returned (.bool r) ∧ Below w.heap.size w w' :=
  (foolscaphelp_Light.calls k A0 c0 l0 r w hr0 hc0 h).mono fun e w' ⟨h1, h2⟩ => ⟨h1, below_of_drawn h2⟩
theorem light_c (k : Nat) (A0 : Option Addr) (c0 : Nat) (l0 : List S40) (r : Bool) (w : World) (h : foolscaplaw21_light.f k l0 = some r) (hr0 : Kd.C k40 w A0 l0.length l0) (hc0 : l0.length ≤ c0) :
    Calls Try.prog 8 #[.slice A0 l0.length c0] w fun e w' => e = .returned (.bool r) ∧ Below w.heap.size w w' :=
  (foolscaplaw21_light.calls k A0 c0 l0 r w hr0 hc0 h).mono fun e w' ⟨h1, h2⟩ => ⟨h1, below_of_drawn h2⟩

set_option maxRecDepth 100000 in
set_option maxHeartbeats 4000000 in
theorem back_calls (A0 : Option Addr) (c0 : Nat) (l0 : List ByteArray) (A1 : Option Addr) (c1 : Nat) (cs : List S40) (w : World) (hr0 : Kd.C Kd.string w A0 l0.length l0) (hc0 : l0.length ≤ c0) (hr1 : Kd.C k40 w A1 cs.length cs) (hc1 : cs.length ≤ c1)
    (hs0 : ∀ s ∈ l0, s.size ≤ 140737488351232) (hz : Sized cs) : Calls Try.prog 4 #[.slice A0 l0.length c0, .slice A1 cs.length c1] w fun e w' => e = .returned (.bool true) ∧ Below w.heap.size w w' := by
  obtain ⟨b1, f1, g1⟩ := Text_val 7000 l0 (by omega) hs0
  obtain ⟨b2, f2, g2⟩ := light_val 7000 cs hz (by omega)
  have F1 := Aside0.mk f1
  have F2 := Aside0.mk f2
  have gL := Aside0.mk hr0
  have hB := Aside0.mk (Below.refl w.heap.size w)
  have gC := Aside0.mk hr1
  clear f1 f2 hr0 hr1 hs0 hz
  cases b1 with
  | false =>
    clear g1 g2 F2
    go_enter Try.func4, Try.ntmps4
    go_wp2_with (first
      | (go_at_call 6; refine (known_calls w).mono ?_; rintro e W1 ⟨rfl, hb⟩; replace hB := Aside0.mk (hB.out.trans (hb.mono hB.out.size)); replace gL := Aside0.mk (Kd.C_below gL.out hb))
      | (go_at_call 20; refine (text_c _ A0 c0 l0 _ W1 F1.out gL.out hc0).mono ?_; clear F1; rintro e W2 ⟨rfl, hb⟩; replace hB := Aside0.mk (hB.out.trans (hb.mono hB.out.size))))
    go_ret
    exact ⟨rfl, hB.out⟩
  | true =>
    cases b2 with
    | false =>
      clear g1 g2
      go_enter Try.func4, Try.ntmps4
      go_wp2_with (first
        | (go_at_call 6; refine (known_calls w).mono ?_; rintro e W1 ⟨rfl, hb⟩; replace hB := Aside0.mk (hB.out.trans (hb.mono hB.out.size)); replace gL := Aside0.mk (Kd.C_below gL.out hb); replace gC := Aside0.mk (Kd.C_below gC.out hb))
        | (go_at_call 20; refine (text_c _ A0 c0 l0 _ W1 F1.out gL.out hc0).mono ?_; clear F1; rintro e W2 ⟨rfl, hb⟩; replace hB := Aside0.mk (hB.out.trans (hb.mono hB.out.size)); replace gC := Aside0.mk (Kd.C_below gC.out hb))
        | (go_at_call 8; refine (light_c _ A1 c1 cs _ W2 F2.out gC.out hc1).mono ?_; clear F2; rintro e W3 ⟨rfl, hb⟩; replace hB := Aside0.mk (hB.out.trans (hb.mono hB.out.size))))
      go_ret
      exact ⟨rfl, hB.out⟩
    | true =>
      obtain ⟨hne, hl, ht⟩ := g1 rfl
      have hL := g2 rfl
      clear g1 g2
      obtain ⟨hml1, hml2⟩ := made_len cs l0 (fun c hc => by have := hL.2 c hc; omega)
      obtain ⟨v, hv⟩ := made_ok cs l0
      have hinv := applyAll_inv _ _ _ hne hv
      have hlc := hL.1
      obtain ⟨ms, hms⟩ : ∃ ms, ms = madeL l0 cs := ⟨_, rfl⟩
      rw [← hms] at hml1 hml2 hv hinv
      have hb1 : BdL l0 ms := bdl_light (by omega) (by omega) (fun c hc => by have := hml2 c hc; omega)
      have hvl := applyAll_len _ _ _ hb1 hv
      obtain ⟨is, his⟩ : ∃ is, is = ms.reverse.map inv1 := ⟨_, rfl⟩
      have hisl : is.length = ms.length := by rw [his, List.length_map, List.length_reverse]
      have hism : ∀ c ∈ is, c.f1.length ≤ 40 ∧ c.f2.length ≤ 40 := by
        intro c hc
        rw [his] at hc
        obtain ⟨d, hd, rfl⟩ := List.mem_map.1 hc
        have := hml2 d (List.mem_reverse.1 hd)
        exact ⟨this.2.1, this.1.1⟩
      rw [← his] at hinv
      have hb2 : BdL v is := ⟨by omega, fun c hc => by have := hism c hc; omega⟩
      have hms2 : ms = is.reverse.map inv1 := by rw [his, inv_inv]
      have FA1 := Apply_val 7000 l0 ms (by omega) hb1 (by omega)
      have FA2 := Apply_val 7000 v is (by omega) hb2 (by omega)
      rw [hv] at FA1
      rw [hinv] at FA2
      have FS := strings_val 7000 l0 l0 (by omega) (by omega)
      rw [decide_eq_true rfl] at FS
      have FC := Changes_self 7000 ms (by omega) (fun c hc => by have := hml2 c hc; omega) (by omega)
      have hx1 : ms.length ≤ 100000 := by omega
      have hx2 : is.length ≤ 100000 := by omega
      have hz1 := Aside0.mk (fun x (hx : x ∈ ms) => (show x.f1.length ≤ 100000 ∧ x.f2.length ≤ 100000 by have := hml2 x hx; omega))
      have hz2 := Aside0.mk (fun x (hx : x ∈ is) => (show x.f1.length ≤ 100000 ∧ x.f2.length ≤ 100000 by have := hism x hx; omega))
      have FA1 := Aside0.mk FA1
      have FA2 := Aside0.mk FA2
      have FS := Aside0.mk FS
      have FC := Aside0.mk FC
      have HMS := Aside0.mk hms
      have HIS := Aside0.mk his
      have HMS2 := Aside0.mk hms2
      have HL := Aside0.mk hL
      clear hml2 hv hinv hb1 hb2 hms his hism hms2 hL hisl hvl hne
      have hl0 := HL.out.1
      go_enter Try.func4, Try.ntmps4
      go_wp2_with (first
        | (go_at_call 6; refine (known_calls w).mono ?_; rintro e W1 ⟨rfl, hb⟩; replace hB := Aside0.mk (hB.out.trans (hb.mono hB.out.size)); replace gL := Aside0.mk (Kd.C_below gL.out hb); replace gC := Aside0.mk (Kd.C_below gC.out hb); clear hb)
        | (go_at_call 20; refine (text_c _ A0 c0 l0 _ W1 F1.out gL.out hc0).mono ?_; clear F1; rintro e W2 ⟨rfl, hb⟩; replace hB := Aside0.mk (hB.out.trans (hb.mono hB.out.size)); replace gL := Aside0.mk (Kd.C_below gL.out hb); replace gC := Aside0.mk (Kd.C_below gC.out hb); clear hb)
        | (go_at_call 8; refine (light_c _ A1 c1 cs _ W2 F2.out gC.out hc1).mono ?_; clear F2; rintro e W3 ⟨rfl, hb⟩; replace hB := Aside0.mk (hB.out.trans (hb.mono hB.out.size)); replace gL := Aside0.mk (Kd.C_below gL.out hb); replace gC := Aside0.mk (Kd.C_below gC.out hb); clear hb)
        | (go_at_call 9; refine (made_calls A0 c0 l0 A1 c1 cs W3 gL.out hc0 gC.out hc1 hl HL.out).mono ?_; clear HL; rw [← HMS.out]; rintro e W4 ⟨⟨A4, c4, rfl, l4, g4⟩, hb⟩; replace hB := Aside0.mk (hB.out.trans (hb.mono hB.out.size)); replace gL := Aside0.mk (Kd.C_below gL.out hb); clear hb; replace g4 := Aside0.mk g4)
        | (go_at_call 10; refine (apply_c 7000 A0 c0 l0 A4 c4 ms v true W4 FA1.out gL.out hc0 g4.out l4).mono ?_; clear FA1; rintro e W5 ⟨⟨A5, c5, rfl, l5, g5⟩, hb⟩; replace hB := Aside0.mk (hB.out.trans (hb.mono hB.out.size)); replace gL := Aside0.mk (Kd.C_below gL.out hb); replace g4 := Aside0.mk (Kd.C_below g4.out hb); clear hb; replace g5 := Aside0.mk g5)
        | (go_at_call 16; refine (inverse_s W5 A4 c4 ms is HIS.out g4.out l4 hx1 hz1.out).mono ?_; rintro e W6 ⟨⟨A6, c6, rfl, l6, g6⟩, hb⟩; replace hB := Aside0.mk (hB.out.trans (hb.mono hB.out.size)); replace gL := Aside0.mk (Kd.C_below gL.out hb); replace g4 := Aside0.mk (Kd.C_below g4.out hb); replace g5 := Aside0.mk (Kd.C_below g5.out hb); clear hb; replace g6 := Aside0.mk g6)
        | (go_at_call 10; refine (apply_c 7000 A5 c5 v A6 c6 is l0 true W6 FA2.out g5.out l5 g6.out l6).mono ?_; clear FA2; rintro e W7 ⟨⟨A7, c7, rfl, l7, g7⟩, hb⟩; replace hB := Aside0.mk (hB.out.trans (hb.mono hB.out.size)); replace gL := Aside0.mk (Kd.C_below gL.out hb); replace g4 := Aside0.mk (Kd.C_below g4.out hb); clear g5 g6 hb; replace g7 := Aside0.mk g7)
        | (go_at_call 12; refine (strings_c 7000 A7 c7 l0 A0 c0 l0 true W7 FS.out g7.out l7 gL.out hc0).mono ?_; clear FS; rintro e W8 ⟨rfl, hb⟩; replace hB := Aside0.mk (hB.out.trans (hb.mono hB.out.size)); replace g4 := Aside0.mk (Kd.C_below g4.out hb); clear g7 gL hb)
        | (go_at_call 16; refine (inverse_s W8 A4 c4 ms is HIS.out g4.out l4 hx1 hz1.out).mono ?_; clear HIS; rintro e W9 ⟨⟨A9, c9, rfl, l9, g9⟩, hb⟩; replace hB := Aside0.mk (hB.out.trans (hb.mono hB.out.size)); replace g4 := Aside0.mk (Kd.C_below g4.out hb); clear hb; replace g9 := Aside0.mk g9)
        | (go_at_call 16; refine (inverse_s W9 A9 c9 is ms HMS2.out g9.out l9 hx2 hz2.out).mono ?_; clear HMS2; rintro e W10 ⟨⟨A10, c10, rfl, l10, g10⟩, hb⟩; replace hB := Aside0.mk (hB.out.trans (hb.mono hB.out.size)); replace g4 := Aside0.mk (Kd.C_below g4.out hb); clear hb; replace g10 := Aside0.mk g10)
        | (go_at_call 15; refine (foolscaphelp_Changes.calls 7000 A10 c10 ms A4 c4 ms true W10 g10.out l10 g4.out l4 FC.out).mono ?_; clear FC; rintro e W11 ⟨rfl, hb⟩; replace hB := Aside0.mk (hB.out.trans (hb.mono hB.out.size))))
      go_ret
      exact ⟨rfl, hB.out⟩
theorem ChangeBack_walk (A0 : Option Addr) (c0 : Nat) (l0 : List ByteArray) (A1 : Option Addr) (c1 : Nat) (l1 : List S40) (W : World) (hr0 : Kd.C Kd.string W A0 l0.length l0) (hc0 : l0.length ≤ c0) (_hz0 : l0.length * 16 ≤ 140737488351232) (hs0 : ∀ s ∈ l0, s.size ≤ 140737488351232) (hr1 : Kd.C k40 W A1 l1.length l1) (hc1 : l1.length ≤ c1) (_hz1 : l1.length ≤ c1) (hs1 : Sized l1) :
    Calls Try.prog 4 #[.slice A0 l0.length c0, .slice A1 l1.length c1] W fun e W' => e = .returned (.bool true) ∧ Below W.heap.size W W' := back_calls A0 c0 l0 A1 c1 l1 W hr0 hc0 hr1 hc1 hs0 hs1
end Go.Proofs.Ytlkmidginogehaa.Plain
