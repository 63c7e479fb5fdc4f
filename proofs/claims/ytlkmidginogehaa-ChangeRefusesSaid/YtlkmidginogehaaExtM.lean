/- foolscaplaw21.made -/
import Derived.Test.YtlkmidginogehaaExtR
set_option linter.unusedVariables false
set_option linter.unusedSimpArgs false
namespace Go.Proofs.Ytlkmidginogehaa.Plain
open Go.RowKit Go.Shelf Go.Proofs Go.Proofs.YtlkmidginogehaaW.PrintWords Go.Proofs.YtlkmidginogehaaW.PrintLast Go.Proofs.YtlkmidginogehaaW.PrintMore
open Go.Proofs.Ytlkmidginogehaa.MChange Go.Proofs.Ytlkmidginogehaa.Ext
attribute [local go_sem] max2_int min2_int max_two min_two max_three min_three max_four min_four

def MadeInv (l0 : List ByteArray) (cs : List S40) (w : World) (kq : Nat) (v5 v6 v7 : Value) (W : World) : Prop :=
  ∃ (out : List S40) (wl : List ByteArray) (i : Nat) (okw : Nat → Prop) (A6 : Option Addr) (c6 : Nat), v7 = .int .i64 i ∧ v6 = .slice A6 wl.length c6 ∧ wl.length ≤ c6 ∧
    Kd.N k40 40 W w.heap.size (fun _ => True) v5 out ∧ Kd.F Kd.string W okw A6 wl.length wl ∧ (∀ k, okw k → k < W.heap.size ∧ some k ≠ v5.ownBlock) ∧ Below w.heap.size w W ∧
    i ≤ cs.length ∧ kq + i = cs.length + 1 ∧ wl.length + 100 * (cs.length - i) ≤ 3000 ∧ out.length ≤ i ∧ madeL l0 cs = out ++ madeL wl (cs.drop i)

theorem made_FK {W : World} {ok1 ok2 ok' : Nat → Prop} {wl : List ByteArray} {c : S40} {a n cc c2 : Nat} {Am A2 : Option Addr} (hmk : mk1 wl c = ⟨(a : Int), (wl.drop a).take n, c.f2⟩) (hlen : ((wl.drop a).take n).length = n) (hn : n ≤ cc) (hl2 : c.f2.length ≤ c2)
    (h1 : Kd.F Kd.string W ok1 Am ((wl.drop a).take n).length ((wl.drop a).take n)) (h2 : Kd.F Kd.string W ok2 A2 c.f2.length c.f2) (g1 : ∀ k, ok1 k → ok' k) (g2 : ∀ k, ok2 k → ok' k) : Kd.FK k40 W ok' (mk1 wl c) [.int .i64 ↑a, .slice Am n cc, .slice A2 c.f2.length c2] := by
  rw [hmk]
  have h := k40_mkF W ok' ⟨(a : Int), (wl.drop a).take n, c.f2⟩ (c1 := cc) (by simp only [hlen]; exact hn) (Kd.F_mono h1 g1) (c2 := c2) hl2 (Kd.F_mono h2 g2)
  simp only [hlen] at h
  exact h
theorem call_rapply1 (k : Nat) (W : World) (n : Nat) (hs : W.heap.size = n) (A : Option Addr) (cc : Nat) (l : List ByteArray) (hC : Kd.C Kd.string W A l.length l) (hcc : l.length ≤ cc) (c : S40) (a : Int) (hca : a = c.f0) (v1 v2 : Value) (h1 : Rd Kd.string W v1 c.f1) (h2 : Rd Kd.string W v2 c.f2) (r1 : List ByteArray) (r2 : Bool) (f : foolscapref19_Apply.f k l [c] = some (r1, r2)) :
    Calls Try.prog 11 #[.slice A l.length cc, .slice (some ⟨n, 0, none⟩) 1 1] (W.alloc (.cells #[.int .i64 a, v1, v2] 40)) fun e w' =>
      ∃ A' c', e = .returned (.tuple #[.slice A' r1.length c', .bool r2]) ∧ r1.length ≤ c' ∧ Kd.R Kd.string 9 w' W.heap.size (fun _ => True) (.slice A' r1.length c') r1 ∧ Below W.heap.size W w' := by
  subst hca
  have hb : Below W.heap.size W (W.alloc (.cells #[.int .i64 c.f0, v1, v2] 40)) := (Below.refl _ W).alloc (Nat.le_refl _) _
  have n1 := World.alloc_heap_new W (.cells #[.int .i64 c.f0, v1, v2] 40)
  rw [hs] at n1
  refine (foolscapref19_Apply.calls k A cc l _ 1 [c] r1 r2 _ (Kd.C_below hC hb) hcc (C_one c n1 (h1.below hb) (h2.below hb)) (by simp) f).mono fun e w' ⟨v, h3, h4, h5⟩ => ?_
  obtain ⟨A', c', h6, h7, _⟩ := Kd.R_reads h4
  subst h6
  exact ⟨A', c', h3, h7, Kd.R_lower h4 hb.size, hb.trans (h5.mono hb.size)⟩
set_option maxRecDepth 100000 in
set_option maxHeartbeats 4000000 in
theorem made_calls (A0 : Option Addr) (c0 : Nat) (l0 : List ByteArray) (A1 : Option Addr) (c1 : Nat) (cs : List S40) (w : World) (hr0 : Kd.C Kd.string w A0 l0.length l0) (hc0 : l0.length ≤ c0) (hr1 : Kd.C k40 w A1 cs.length cs) (hc1 : cs.length ≤ c1) (hl : l0.length ≤ 40) (hL : LightC cs) :
    Calls Try.prog 9 #[.slice A0 l0.length c0, .slice A1 cs.length c1] w fun e w' => (∃ A c, e = .returned (.slice A (madeL l0 cs).length c) ∧ (madeL l0 cs).length ≤ c ∧ Kd.C k40 w' A (madeL l0 cs).length (madeL l0 cs)) ∧ Below w.heap.size w w' := by
  have hu40 := Try.underlying40
  have HR0 := Aside0.mk hr0
  have HC0 := Aside0.mk hc0
  clear hr0 hc0
  have HR1 := Aside0.mk hr1
  have HC1 := Aside0.mk hc1
  clear hr1 hc1
  have HL := Aside0.mk hL
  have hlen := hL.1
  clear hL
  go_enter Try.func9, Try.ntmps9
  go_wp2
  go_loopg [5, 6, 7] (cs.length + 1) (fun kq v5 v6 v7 w' => Aside0 (MadeInv l0 cs w kq v5 v6 v7 w'))
  case atStart => exact ⟨[], l0, 0, (fun k => k < w.heap.size), A0, c0, rfl, rfl, HC0.out, Kd.N_nil _ _ _ _ _, Kd.C_F Kd.heap_string HR0.out, fun k hk => ⟨hk, by simp [Value.ownBlock]⟩, Below.refl _ _, by omega, by omega, by omega, by simp, by rw [List.drop_zero]; rfl⟩
  case round =>
    obtain ⟨out, wl, i, okw, A6, c6, rfl, rfl, hc6, HN, HF, hok, HB, hi, hkq, hwl, hol, hmade⟩ := hrel.out
    have HMADE := Aside0.mk hmade
    have HNN := Aside0.mk HN
    have HFF := Aside0.mk HF
    have HOK := Aside0.mk hok
    have HBB := Aside0.mk HB
    have HKQ := Aside0.mk hkq
    clear hmade HN HF hok HB hkq hrel
    by_cases hd : (i : Int) < (cs.length : Int)
    · have hdb : decide ((i : Int) < (cs.length : Int)) = true := decide_eq_true hd
      have hi2 : i < cs.length := by omega
      have p0 : (0 : Int) ≤ (i : Int) := by omega
      obtain ⟨ad, A1_, c1_, A2_, c2_, ead, hx0, hx1, hx2, hl1, hi1, hl2, hi2'⟩ := at_T40 HR1.out (i : Int) p0 hd
      cases ead
      rw [rd_40 cs i (i : Int) rfl hi2] at hx0 hx1 hx2 hl1 hi1 hl2 hi2'
      obtain ⟨c, hc⟩ : ∃ c, c = cs[i] := ⟨_, rfl⟩
      rw [← hc] at hx0 hx1 hx2 hl1 hi1 hl2 hi2'
      have hcm : c ∈ cs := by rw [hc]; exact List.getElem_mem _
      have hbc := HL.out.2 c hcm
      replace hx0 := (HBB.out.cell (World.block_lt_of_cell? w _ hx0)).trans hx0
      replace hx1 := (HBB.out.cell (World.block_lt_of_cell? w _ hx1)).trans hx1
      replace hx2 := (HBB.out.cell (World.block_lt_of_cell? w _ hx2)).trans hx2
      rw [Int.toNat_natCast] at hx0 hx1 hx2
      have hcH := Aside0.mk hc
      clear hc
      have hplace := Place_val c.f0 ((wl.length : Int) + 1) (by omega) (by omega)
      obtain ⟨a, ha⟩ : ∃ a : Nat, (a : Int) = c.f0 % ((wl.length : Int) + 1) := ⟨(c.f0 % ((wl.length : Int) + 1)).toNat, Int.toNat_of_nonneg (Int.emod_nonneg _ (by omega))⟩
      have hal : a ≤ wl.length := by
        have := Int.emod_lt_of_pos c.f0 (show 0 < (wl.length : Int) + 1 by omega)
        omega
      rw [← ha] at hplace
      have HA := Aside0.mk ha
      clear ha
      have HP := Aside0.mk hplace
      clear hplace
      go_wp2_with ((go_at_call 21; refine (foolscaphelp_Place.calls _ _ _ _ HP.out).mono ?_; clear HP; rintro e W1 ⟨rfl, hD⟩; have hB1 := Aside0.mk (below_of_drawn hD); clear hD; replace hx0 := pw_cell_below hB1.out hx0; replace hx1 := pw_cell_below hB1.out hx1; replace hx2 := pw_cell_below hB1.out hx2))
      all_goals have hmn1 : min c.f1.length (wl.length - a) ≤ c.f1.length ∧ min c.f1.length (wl.length - a) + a ≤ wl.length := by omega
      all_goals first
        | rw [show (c.f1.length : Int) = ((min c.f1.length (wl.length - a) : Nat) : Int) by omega]
        | rw [show (wl.length : Int) - (a : Int) = ((min c.f1.length (wl.length - a) : Nat) : Int) by omega]
      all_goals obtain ⟨n, hn⟩ : ∃ n, n = min c.f1.length (wl.length - a) := ⟨_, rfl⟩
      all_goals rw [← hn] at hmn1 ⊢
      all_goals have hN := Aside0.mk hn
      all_goals clear hn
      all_goals have hnew := World.new_ne W1 _ hx2
      all_goals have hs1 : (a : Int) + (n : Int) ≤ wl.length := by omega
      all_goals have hs2 : (a : Int) ≤ (a : Int) + (n : Int) := by omega
      all_goals have hs3 : (a : Int) + (n : Int) ≤ c6 := by omega
      all_goals have hs4 : ((a : Int) + (n : Int)).toNat = a + n := by omega
      all_goals have hw1 : IntKind.i64.wrap ((a : Int) + (n : Int)) = (a : Int) + (n : Int) := IntWalk.i64_in _ (by omega)
      all_goals go_region_held3 (fun w' => w'.cell? ⟨(ad.add (i * 3)).block, (ad.add (i * 3)).off + 2, none⟩ = some (.slice A2_ c.f2.length c2_)) (go_keep) (fail)
      all_goals
        clear hw1 hs1 hs2 hs3 hs4 hnew
        obtain ⟨Am, hAm⟩ : ∃ Am, Am = (if c6 = a then A6 else Option.map (fun x => x.add a) A6) := ⟨_, rfl⟩
        rw [← hAm]
        obtain ⟨W2, hW2⟩ : ∃ W2, W2 = (W1.alloc (.cells #[.int .i64 ↑a, .slice Am n (c6 - a), .slice A2_ c.f2.length c2_] 40)).drew := ⟨_, rfl⟩
        rw [← hW2]
        have hb12 : Below W1.heap.size W1 W2 := by rw [hW2]; exact below_drew1 (below_alloc (Below.refl _ _) _)
        have hbr2 : Below wr.heap.size wr W2 := hB1.out.trans (hb12.mono hB1.out.size)
        have hBw2 : Below w.heap.size w W2 := HBB.out.trans (hbr2.mono HBB.out.size)
        have hbox : ChBox W2 W1.heap.size a (.slice Am n (c6 - a)) (.slice A2_ c.f2.length c2_) := by
          have := World.alloc_heap_new W1 (.cells #[.int .i64 ↑a, .slice Am n (c6 - a), .slice A2_ c.f2.length c2_] 40)
          unfold ChBox
          rw [hW2]; exact blk_drew this
        have hlw1 : wr.heap.size ≤ W1.heap.size := hB1.out.size
        have hmid0 := Kd.F_mid (Kd.F_below HFF.out hbr2) (show a ≤ a + n by omega) (show a + n ≤ wl.length by omega) hc6
        rw [mid_eq, show Kd.string.sz = 1 from rfl, Nat.mul_one, ← hAm] at hmid0
        have hlen2 : ((wl.drop a).take n).length = n := by rw [List.length_take, List.length_drop]; omega
        have hmk : mk1 wl c = ⟨(a : Int), (wl.drop a).take n, c.f2⟩ := by
          have h1 := HA.out
          have h2 := hN.out
          unfold mk1
          simp only []
          rw [← h1, Int.toNat_natCast, ← h2]
        have hF2 := Kd.F_below (Kd.C_F Kd.heap_string hi2') hBw2
        have hWL := Kd.F_below HFF.out hbr2
        have hNW := Kd.N_below HNN.out hbr2
        have hrd1 : Rd Kd.string W2 (.slice Am n (c6 - a)) (mk1 wl c).f1 := by rw [hmk]; exact ⟨Am, c6 - a, by simp only [hlen2], by simp only [hlen2]; omega, Kd.F_now hmid0⟩
        have hrd2 : Rd Kd.string W2 (.slice A2_ c.f2.length c2_) (mk1 wl c).f2 := by rw [hmk]; exact ⟨A2_, c2_, rfl, hl2, Kd.F_now hF2⟩
        have hBdL : BdL wl [mk1 wl c] := by
          refine ⟨by simp only [List.length_cons, List.length_nil]; omega, fun d hd => ?_⟩
          rw [List.mem_singleton.1 hd]
          have := mk1_len wl c
          rw [this.2.2]; omega
        have hval := rApply_val 300 wl [mk1 wl c] (by simp) hBdL (by simp)
        have hone : applyAll wl [mk1 wl c] = applyOne wl (mk1 wl c) := by
          show (applyOne wl (mk1 wl c)).bind _ = _
          cases applyOne wl (mk1 wl c) <;> rfl
        rw [hone] at hval
        have hf0 : (a : Int) = (mk1 wl c).f0 := by rw [hmk]
        obtain ⟨x0, x1, x2⟩ := hbox.cells
        have hdrop : cs.drop i = c :: cs.drop (i + 1) := by rw [hcH.out]; exact List.drop_eq_getElem_cons hi2
        have hmade := HMADE.out
        rw [hdrop] at hmade
        clear HMADE hdrop hone hBdL hAm hW2
        obtain ⟨k1, rfl⟩ : ∃ m, gk = m + 1 := ⟨gk - 1, by have := HKQ.out; omega⟩
        cases hap : applyOne wl (mk1 wl c) with
        | none =>
          rw [hap] at hval
          have hm2 : madeL wl (c :: cs.drop (i + 1)) = madeL wl (cs.drop (i + 1)) := by rw [madeL, hap]
          rw [hm2] at hmade
          have HM := Aside0.mk hmade
          have HV := Aside0.mk hval
          have HAP := Aside0.mk hap
          have HF0 := Aside0.mk hf0
          clear hmade hval hap hm2 hf0 hmk hlen2
          go_wp2_with ((go_at_call 11; refine (call_rapply1 300 W2 _ rfl A6 c6 wl (Kd.F_now hWL) hc6 (mk1 wl c) _ HF0.out _ _ hrd1 hrd2 [] false HV.out).mono ?_; clear HV; rintro e W3 ⟨A3, c3, rfl, l3, g3, hb3⟩))
          go_roundg k1
          case measure => have := HKQ.out; omega
          case rel => exact ⟨out, wl, i + 1, okw, A6, c6, (by simp), rfl, hc6, Kd.N_below hNW hb3, Kd.F_below hWL hb3, (fun k hk => ⟨by have := (HOK.out k hk).1; have := hbr2.size; have := hb3.size; omega, (HOK.out k hk).2⟩), hBw2.trans (hb3.mono hBw2.size), by omega, by have := HKQ.out; omega, by omega, by omega, HM.out⟩
        | some v =>
          rw [hap] at hval
          have hm2 : madeL wl (c :: cs.drop (i + 1)) = mk1 wl c :: madeL v (cs.drop (i + 1)) := by rw [madeL, hap]
          rw [hm2] at hmade
          have HM := Aside0.mk hmade
          have HV := Aside0.mk hval
          have HAP := Aside0.mk hap
          have HF0 := Aside0.mk hf0
          have HMK := Aside0.mk hmk
          have HL2 := Aside0.mk hlen2
          clear hmade hval hap hm2 hf0 hmk hlen2
          go_wp2_with (first
            | (go_at_call 11; refine (call_rapply1 300 W2 _ rfl A6 c6 wl (Kd.F_now hWL) hc6 (mk1 wl c) _ HF0.out _ _ hrd1 hrd2 v true HV.out).mono ?_; clear HV; rintro e W3 ⟨A3, c3, rfl, l3, g3, hb3⟩; have hbox3 : ChBox W3 W1.heap.size a (.slice Am n (c6 - a)) (.slice A2_ c.f2.length c2_) := (hb3.block _ hbox.lt).trans hbox; obtain ⟨z0, z1, z2⟩ := hbox3.cells; have hFK := Aside0.mk (made_FK HMK.out HL2.out (show n ≤ c6 - a by omega) hl2 (Kd.F_below hmid0 hb3) (Kd.F_below hF2 hb3) (ok' := fun k => k < W3.heap.size ∧ some k ≠ u5.ownBlock) (fun k hk => ⟨by have := (HOK.out k hk).1; have := hbr2.size; have := hb3.size; omega, (HOK.out k hk).2⟩) (fun k hk => ⟨by have := hBw2.size; have := hb3.size; omega, fun e => by have := Kd.N_base hNW k e.symm; omega⟩)))
            | ((with_reducible refine gate_builtin (b := .append) (xs := #[.tmp 63, .tmp 65]) rfl ?_); at_builtin; refine Kd.N_append k40 (w0 := w) w.heap.size rfl (.tmp 63) (.tmp 65) 23 40 (.agg #[.int .i64 0, .slice none 0 0, .slice none 0 0]) 56 rfl Try.underlying23 info40 rfl (by decide) (by omega) u5 out (mk1 wl c) [.int .i64 ↑a, .slice Am n (c6 - a), .slice A2_ c.f2.length c2_] (fun _ => True) (fun k => k < W3.heap.size ∧ some k ≠ u5.ownBlock) (by rfl) (by rfl) hFK.out (fun _ hk => ⟨trivial, hk.2⟩) (fun _ _ => trivial) (Kd.N_below hNW hb3) (hBw2.trans (hb3.mono hBw2.size)) (Nat.le_trans hBw2.size hb3.size) (by omega) ?_; intro v1 w1 hn1 hb1 hg1 hat1))
          go_roundg k1
          case measure => have := HKQ.out; omega
          case rel =>
            have hvl := (applyOne_len HAP.out).1
            rw [(mk1_len wl c).2.2] at hvl
            exact ⟨out ++ [mk1 wl c], v, i + 1, (fun k => some k = (Value.slice A3 v.length c3).ownBlock), A3, c3, (by simp), rfl, l3, hn1,
              Kd.F_grown (Kd.R_F (Kd.R_tight rfl g3)) hg1 (fun k hk e => by have h1 := Kd.R_base g3 k hk.symm; have h2 := Kd.N_lt hNW k e.symm; omega),
              (fun k hk => ⟨Nat.lt_of_lt_of_le (Kd.R_lt g3 k hk.symm) hg1.size, fun e => by
                rcases hat1 with h | ⟨b, h, hlt⟩
                · rw [h] at e
                  have h1 := Kd.R_base g3 k hk.symm
                  have h2 := Kd.N_lt hNW k e.symm
                  omega
                · rw [h] at e
                  have h1 := Kd.R_lt g3 k hk.symm
                  injection e with e
                  omega⟩),
              hb1, by omega, by have := HKQ.out; omega, by omega, by rw [List.length_append, List.length_cons, List.length_nil]; omega, by rw [HM.out, List.append_assoc]; rfl⟩
    · have hdb : decide ((i : Int) < (cs.length : Int)) = false := decide_eq_false hd
      obtain ⟨A, c, e5, l5, g5⟩ := Kd.N_reads HNN.out
      subst e5
      go_wp2
      go_ret
      have hmm : madeL l0 cs = out := by
        have := HMADE.out
        rw [List.drop_eq_nil_of_le (by omega)] at this
        simpa [madeL] using this
      rw [hmm]
      exact ⟨⟨A, c, rfl, l5, g5⟩, HBB.out⟩
end Go.Proofs.Ytlkmidginogehaa.Plain
