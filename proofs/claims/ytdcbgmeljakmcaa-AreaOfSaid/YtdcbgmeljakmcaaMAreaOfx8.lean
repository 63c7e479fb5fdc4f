/- What the Go functions of this law compute, and that they do: written by this session's own program (wip/myprint), for all inputs that the print's conditions name. -/
import Derived.Test.YtdcbgmeljakmcaaMAreaOfx0
import Derived.Test.YtdcbgmeljakmcaaMAreaOfx1
import Derived.Test.YtdcbgmeljakmcaaMAreaOfx6
import Derived.Test.YtdcbgmeljakmcaaMAreaOfx7
namespace Go.Proofs.Ytdcbgmeljakmcaa.MAreaOf
open Go.RowKit Go.Proofs.YtdcbgmeljakmcaaW.PrintWords Go.Proofs.YtdcbgmeljakmcaaW.PrintLast Go.Proofs.Ytdcbgmeljakmcaa.Few
attribute [local go_sem] max2_int min2_int max_two min_two
set_option linter.unusedVariables false
set_option linter.unusedSimpArgs false

attribute [local go_sem high] eqA28
/-! ### foolscapref25_Of: function 28 -/
mutual
def foolscapref25_Of.j0 : Nat → List ByteArray → Bool → Int → Int → Int → Int → Int → Bool → Int → Option (Int × Int × Int × Int × Int × Bool)
 | 0, _, _, _, _, _, _, _, _, _ => none
 | k + 1, x0, x20, x190000, x190001, x191000, x191001, x191002, x191003, x191004 => if x20 = true then (some (0, 0, 0, 0, 0, false)) else ((foolscapref5_Order.f x190000 x190001 x191000 x191001).bind fun bt194 => (if x191002 = 2 then ((foolscapref25_whole.f bt194.1 bt194.2.2.1).bind fun bt200 => (some (bt200.1, bt200.2.1, bt200.2.2.1, bt200.2.2.2.1, bt200.2.2.2.2, true))) else (if x191002 = 1 then (if 0 ≤ bt194.2.2.1 then (if bt194.2.2.1 < (x0.length : Int) then (if (bt194.1 == bt194.2.2.1 && (bt194.2.1 == (mn (wrap64 (bt194.2.2.2 + 1)) ((rdOf ByteArray.empty x0 bt194.2.2.1).size : Int)))) = true then (some (0, 0, 0, 0, 0, false)) else (some (0, bt194.1, bt194.2.1, bt194.2.2.1, mn (wrap64 (bt194.2.2.2 + 1)) ((rdOf ByteArray.empty x0 bt194.2.2.1).size : Int), true))) else (none)) else (none)) else (if x191002 = 0 then (if bt194.2.2.1 > bt194.1 then (foolscapref25_Of.j1 k x0 (bt194.2.2.2 == 0) bt194.1 bt194.2.1 bt194.2.2.1 bt194.2.2.2) else (foolscapref25_Of.j1 k x0 false bt194.1 bt194.2.1 bt194.2.2.1 bt194.2.2.2)) else (some (0, 0, 0, 0, 0, false))))))
def foolscapref25_Of.j1 : Nat → List ByteArray → Bool → Int → Int → Int → Int → Option (Int × Int × Int × Int × Int × Bool)
 | 0, _, _, _, _, _, _ => none
 | k + 1, x0, x63, x199000, x199001, x200000, x200001 => if x63 = true then (if 0 ≤ (wrap64 (x200000 - 1)) then (if (wrap64 (x200000 - 1)) < (x0.length : Int) then (if 0 ≤ x199000 then (if x199000 < (x0.length : Int) then ((foolscapref5_First.f k (rdOf ByteArray.empty x0 x199000)).bind fun t208 => (if x199001 ≤ t208 then ((foolscapref25_whole.f x199000 (wrap64 (x200000 - 1))).bind fun bt209 => (some (bt209.1, bt209.2.1, bt209.2.2.1, bt209.2.2.2.1, bt209.2.2.2.2, true))) else (if (x199000 == (wrap64 (x200000 - 1)) && (x199001 == ((rdOf ByteArray.empty x0 (wrap64 (x200000 - 1))).size : Int))) = true then (some (0, 0, 0, 0, 0, false)) else (some (0, x199000, x199001, wrap64 (x200000 - 1), ((rdOf ByteArray.empty x0 (wrap64 (x200000 - 1))).size : Int), true))))) else (none)) else (none)) else (none)) else (none)) else (if (x199000 == x200000 && (x199001 == x200001)) = true then (some (0, 0, 0, 0, 0, false)) else (some (0, x199000, x199001, x200000, x200001, true)))
end
def foolscapref25_Of.f (k : Nat) (l0 : List ByteArray) (a1_0 : Int) (a1_1 : Int) (a2_0 : Int) (a2_1 : Int) (a2_2 : Int) (a2_3 : Bool) (a2_4 : Int) : Option (Int × Int × Int × Int × Int × Bool) := (foolscapref5_Place.f l0 a1_0 a1_1).bind fun t192 => (if t192 = true then ((foolscapref5_Place.f l0 a2_0 a2_1).bind fun t193 => (foolscapref25_Of.j0 k l0 (!t193) a1_0 a1_1 a2_0 a2_1 a2_2 a2_3 a2_4)) else (foolscapref25_Of.j0 k l0 true a1_0 a1_1 a2_0 a2_1 a2_2 a2_3 a2_4))
theorem foolscapref25_Of.mono_l : ∀ k, (∀ y0 y1 y2 y3 y4 y5 y6 y7 y8, LeO (foolscapref25_Of.j0 k y0 y1 y2 y3 y4 y5 y6 y7 y8) (foolscapref25_Of.j0 (k + 1) y0 y1 y2 y3 y4 y5 y6 y7 y8)) ∧ (∀ y0 y1 y2 y3 y4 y5, LeO (foolscapref25_Of.j1 k y0 y1 y2 y3 y4 y5) (foolscapref25_Of.j1 (k + 1) y0 y1 y2 y3 y4 y5))
 | 0 => ⟨fun _ _ _ _ _ _ _ _ _ r h => by simp [foolscapref25_Of.j0] at h, fun _ _ _ _ _ _ r h => by simp [foolscapref25_Of.j1] at h⟩
 | k + 1 => by
  obtain ⟨ih0, ih1⟩ := foolscapref25_Of.mono_l k
  refine ⟨?_, ?_⟩
  ·intro y0 y1 y2 y3 y4 y5 y6 y7 y8
   unfold foolscapref25_Of.j0
   repeat' first
   | (with_reducible exact ih0 _ _ _ _ _ _ _ _ _)
   | (with_reducible exact ih1 _ _ _ _ _ _)
   | (with_reducible exact foolscapref5_First.mono _ _)
   | (with_reducible exact LeO.refl _)
   | (with_reducible exact LeO.none _)
   | (with_reducible refine LeO.ite ?_ ?_)
   | (with_reducible refine LeO.bind ?_ (fun _ => ?_))
   | exact ih0 _ _ _ _ _ _ _ _ _
   | exact ih1 _ _ _ _ _ _
   | exact foolscapref5_First.mono _ _
   | exact LeO.none _
   | refine LeO.ite ?_ ?_
   | refine LeO.bind ?_ (fun _ => ?_)
  ·intro y0 y1 y2 y3 y4 y5
   unfold foolscapref25_Of.j1
   repeat' first
   | (with_reducible exact ih0 _ _ _ _ _ _ _ _ _)
   | (with_reducible exact ih1 _ _ _ _ _ _)
   | (with_reducible exact foolscapref5_First.mono _ _)
   | (with_reducible exact LeO.refl _)
   | (with_reducible exact LeO.none _)
   | (with_reducible refine LeO.ite ?_ ?_)
   | (with_reducible refine LeO.bind ?_ (fun _ => ?_))
   | exact ih0 _ _ _ _ _ _ _ _ _
   | exact ih1 _ _ _ _ _ _
   | exact foolscapref5_First.mono _ _
   | exact LeO.none _
   | refine LeO.ite ?_ ?_
   | refine LeO.bind ?_ (fun _ => ?_)
theorem foolscapref25_Of.mono : ∀ a0 a1 a2 a3 a4 a5 a6 a7 k, LeO (foolscapref25_Of.f k a0 a1 a2 a3 a4 a5 a6 a7) (foolscapref25_Of.f (k + 1) a0 a1 a2 a3 a4 a5 a6 a7) := by
 intro a0 a1 a2 a3 a4 a5 a6 a7 k
 obtain ⟨ih0, ih1⟩ := foolscapref25_Of.mono_l k
 unfold foolscapref25_Of.f
 repeat' first
   | (with_reducible exact ih0 _ _ _ _ _ _ _ _ _)
   | (with_reducible exact ih1 _ _ _ _ _ _)
   | (with_reducible exact foolscapref5_First.mono _ _)
   | (with_reducible exact LeO.refl _)
   | (with_reducible exact LeO.none _)
   | (with_reducible refine LeO.ite ?_ ?_)
   | (with_reducible refine LeO.bind ?_ (fun _ => ?_))
   | exact ih0 _ _ _ _ _ _ _ _ _
   | exact ih1 _ _ _ _ _ _
   | exact foolscapref5_First.mono _ _
   | exact LeO.none _
   | refine LeO.ite ?_ ?_
   | refine LeO.bind ?_ (fun _ => ?_)
def foolscapref25_Of.T9 : Bool × List (List Nat × List Nat) := (true, [([], []), ([0], [0]), ([1], [1]), ([], []), ([], []), ([4], [4]), ([3, 5], [3, 5]), ([6], [6]), ([7], [7]), ([2, 8], [2, 8]), ([0, 1, 2, 3, 4, 5, 6, 7, 8, 9], []), ([10, 9, 0, 1, 2, 3, 4, 5, 6, 7, 8, 9], [9, 10])])
def foolscapref25_Of.B9 : List Nat := [0, 1, 3, 0, 0, 16, 56, 120, 248, 511, 1023, 2047]
theorem foolscapref25_Of.tab9 : rtab .any (opsOf Try.f28 9) = foolscapref25_Of.T9 := by kernel_rfl
theorem foolscapref25_Of.bits9 : waitsOk foolscapref25_Of.T9.2 foolscapref25_Of.B9 = true := by kernel_rfl
def foolscapref25_Of.T12 : Bool × List (List Nat × List Nat) := (true, [([], []), ([0], [0]), ([1], [1]), ([], []), ([], []), ([4], [4]), ([5], [5]), ([3, 6], [3, 6]), ([7], [7]), ([8], [8]), ([2, 9], [2, 9]), ([10, 0, 1, 2, 3, 4, 5, 6, 7, 8, 9, 10], [10])])
def foolscapref25_Of.B12 : List Nat := [0, 1, 3, 0, 0, 16, 48, 120, 248, 504, 1023, 2047]
theorem foolscapref25_Of.tab12 : rtab .any (opsOf Try.f28 12) = foolscapref25_Of.T12 := by kernel_rfl
theorem foolscapref25_Of.bits12 : waitsOk foolscapref25_Of.T12.2 foolscapref25_Of.B12 = true := by kernel_rfl
def foolscapref25_Of.T13 : Bool × List (List Nat × List Nat) := (true, [([], []), ([0], [0]), ([], []), ([], []), ([3], [3]), ([2, 4], [2, 4]), ([5], [5]), ([6], [6]), ([1, 7], [1, 7])])
def foolscapref25_Of.B13 : List Nat := [0, 1, 0, 0, 8, 28, 60, 124, 255]
theorem foolscapref25_Of.tab13 : rtab .any (opsOf Try.f28 13) = foolscapref25_Of.T13 := by kernel_rfl
theorem foolscapref25_Of.bits13 : waitsOk foolscapref25_Of.T13.2 foolscapref25_Of.B13 = true := by kernel_rfl
set_option maxHeartbeats 8000000 in
set_option maxRecDepth 100000 in
theorem foolscapref25_Of.calls (k : Nat) (A0 : Option Addr) (c0 : Nat) (l0 : List ByteArray) (a1_0 : Int) (a1_1 : Int) (a2_0 : Int) (a2_1 : Int) (a2_2 : Int) (a2_3 : Bool) (a2_4 : Int) (r1 : Int) (r2 : Int) (r3 : Int) (r4 : Int) (r5 : Int) (r6 : Bool) (w : World) (hr0 : Kd.C Kd.string w A0 l0.length l0) (hc0 : l0.length ≤ c0) (h : foolscapref25_Of.f k l0 a1_0 a1_1 a2_0 a2_1 a2_2 a2_3 a2_4 = some (r1, r2, r3, r4, r5, r6)) :
  Calls Try.prog 28 #[.slice A0 l0.length c0, .agg #[.int .i64 a1_0, .int .i64 a1_1], .agg #[.int .i64 a2_0, .int .i64 a2_1, .int .i64 a2_2, .bool a2_3, .int .i64 a2_4]] w fun e w' => e = .returned (.tuple #[.agg #[.int .i64 r1, .int .i64 r2, .int .i64 r3, .int .i64 r4, .int .i64 r5], .bool r6]) ∧ Below w.heap.size w w' := by
 have hu28 := Try.underlying28
 have hu38 := Try.underlying38
 have hu43 := Try.underlying43
 have HR0 := Aside0.mk hr0
 have HC0 := Aside0.mk hc0
 clear hr0 hc0
 have HB := Aside0.mk (Below.refl w.heap.size w)
 have H : ((foolscapref5_Place.f l0 a1_0 a1_1).bind fun t192 => (if t192 = true then ((foolscapref5_Place.f l0 a2_0 a2_1).bind fun t193 => (foolscapref25_Of.j0 k l0 (!t193) a1_0 a1_1 a2_0 a2_1 a2_2 a2_3 a2_4)) else (foolscapref25_Of.j0 k l0 true a1_0 a1_1 a2_0 a2_1 a2_2 a2_3 a2_4))) = some (r1, r2, r3, r4, r5, r6) := h
 clear h
 have HC4 := Aside0.mk H
 clear H
 go_enter Try.func28, Try.ntmps28
 go_upto_region 1 with (first | ((with_reducible refine gate_dst (N := 4) rfl ?_); refine box_event ?hg (N := 4) ?hd (cs := #[.int .i64 a1_0, .int .i64 a1_1]) (t := 28) ?hr ?_; (case hd => rfl); (case hg => rfl); (case hr => first | (go_simp; done) | (go_simp; rfl)); intro gb189 hg w5 hbox hb; have n0_ := Aside0.mk (below_step (by repeat with_reducible first | exact HB.out | apply ba | apply bn | apply bd) hb); have n1_ := Aside0.mk (hbox); have n2_ := Aside0.mk ((by rw [hg]; exact (below_size (by repeat with_reducible first | exact HB.out | apply ba | apply bn | apply bd)) : w.heap.size ≤ gb189)); have n3_ := n2_; clear HB; have HB := n0_; have BK189 := n1_; have GW189 := n2_; have GE189 := n3_; clear n0_ n1_ n2_ n3_; clear hb hbox hg) | ((with_reducible refine gate_dst (N := 5) rfl ?_); refine box_event ?hg (N := 5) ?hd (cs := #[.int .i64 a2_0, .int .i64 a2_1, .int .i64 a2_2, .bool a2_3, .int .i64 a2_4]) (t := 38) ?hr ?_; (case hd => rfl); (case hg => rfl); (case hr => first | (go_simp; done) | (go_simp; rfl)); intro gb190 hg w6 hbox hb; have n0_ := Aside0.mk (blk_below (pk BK189.out) hb); have n1_ := Aside0.mk (below_step (by repeat with_reducible first | exact HB.out | apply ba | apply bn | apply bd | refine bset ?_ (by assumption)) hb); have n2_ := Aside0.mk (hbox); have n3_ := Aside0.mk ((by rw [hg]; exact (below_size (by repeat with_reducible first | exact HB.out | apply ba | apply bn | apply bd | refine bset ?_ (by assumption))) : w.heap.size ≤ gb190)); have n4_ := n3_; have n5_ := Aside0.mk ((by rw [hg]; exact Nat.ne_of_lt (blk_lt (pk BK189.out)) : gb189 ≠ gb190)); have n6_ := Aside0.mk ((by rw [hg]; exact Nat.ne_of_gt (blk_lt (pk BK189.out)) : gb190 ≠ gb189)); clear BK189; clear HB; have BK189 := n0_; have HB := n1_; have BK190 := n2_; have GW190 := n3_; have GE190 := n4_; have NB189_190 := n5_; have NB190_189 := n6_; clear n0_ n1_ n2_ n3_ n4_ n5_ n6_; clear hb hbox hg) | ((with_reducible refine gate_dst (N := 6) rfl ?_); refine box_event ?hg (N := 6) ?hd (cs := #[.int .i64 0, .int .i64 0, .int .i64 0, .int .i64 0, .int .i64 0]) (t := 43) ?hr ?_; (case hd => rfl); (case hg => rfl); (case hr => first | (go_simp; done) | (go_simp; rfl)); intro gb191 hg w7 hbox hb; have n0_ := Aside0.mk (blk_below (pk BK189.out) hb); have n1_ := Aside0.mk (blk_below (pk BK190.out) hb); have n2_ := Aside0.mk (below_step (by repeat with_reducible first | exact HB.out | apply ba | apply bn | apply bd | refine bset ?_ (by assumption)) hb); have n3_ := Aside0.mk (hbox); have n4_ := Aside0.mk ((by rw [hg]; exact (below_size (by repeat with_reducible first | exact HB.out | apply ba | apply bn | apply bd | refine bset ?_ (by assumption))) : w.heap.size ≤ gb191)); have n5_ := n4_; have n6_ := Aside0.mk ((by rw [hg]; exact Nat.ne_of_lt (blk_lt (pk BK189.out)) : gb189 ≠ gb191)); have n7_ := Aside0.mk ((by rw [hg]; exact Nat.ne_of_gt (blk_lt (pk BK189.out)) : gb191 ≠ gb189)); have n8_ := Aside0.mk ((by rw [hg]; exact Nat.ne_of_lt (blk_lt (pk BK190.out)) : gb190 ≠ gb191)); have n9_ := Aside0.mk ((by rw [hg]; exact Nat.ne_of_gt (blk_lt (pk BK190.out)) : gb191 ≠ gb190)); clear BK189; clear BK190; clear HB; have BK189 := n0_; have BK190 := n1_; have HB := n2_; have BK191 := n3_; have GW191 := n4_; have GE191 := n5_; have NB189_191 := n6_; have NB191_189 := n7_; have NB190_191 := n8_; have NB191_190 := n9_; clear n0_ n1_ n2_ n3_ n4_ n5_ n6_ n7_ n8_ n9_; clear hb hbox hg))
 (try simp only [Act.put, List.setIfInBounds_toArray, List.set_cons_zero, List.set_cons_succ])
 go_cut [20] (fun v20 wc => ∃ (kq : Nat) (x20_3 : Bool), v20 = .bool x20_3 ∧ Aside0 (foolscapref25_Of.j0 kq l0 x20_3 a1_0 a1_1 a2_0 a2_1 a2_2 a2_3 a2_4 = some (r1, r2, r3, r4, r5, r6)) ∧ Aside0 (kq ≤ k) ∧ Aside0 (wc.heap[gb189]? = some (.cells #[.int .i64 a1_0, .int .i64 a1_1] 28 (0, 0))) ∧ Aside0 (wc.heap[gb190]? = some (.cells #[.int .i64 a2_0, .int .i64 a2_1, .int .i64 a2_2, .bool a2_3, .int .i64 a2_4] 38 (0, 0))) ∧ Aside0 (wc.heap[gb191]? = some (.cells #[.int .i64 0, .int .i64 0, .int .i64 0, .int .i64 0, .int .i64 0] 43 (0, 0))) ∧ Aside0 (Below w.heap.size w wc))
 case first =>
  have H := HC4.out
  clear HC4
  replace H := Option.bind_eq_some_iff.mp H
  obtain ⟨t192, A80, H⟩ := H
  replace H : (if t192 = true then ((foolscapref5_Place.f l0 a2_0 a2_1).bind fun t193 => (foolscapref25_Of.j0 k l0 (!t193) a1_0 a1_1 a2_0 a2_1 a2_2 a2_3 a2_4)) else (foolscapref25_Of.j0 k l0 true a1_0 a1_1 a2_0 a2_1 a2_2 a2_3 a2_4)) = some (r1, r2, r3, r4, r5, r6) := H
  have A8 := Aside0.mk A80
  clear A80
  by_cases c9 : t192 = true
  ·subst c9
   have H1 : ((foolscapref5_Place.f l0 a2_0 a2_1).bind fun t193 => (foolscapref25_Of.j0 k l0 (!t193) a1_0 a1_1 a2_0 a2_1 a2_2 a2_3 a2_4)) = some (r1, r2, r3, r4, r5, r6) := by rw [if_pos rfl] at H; exact H
   clear H
   have H := H1
   clear H1
   replace H := Option.bind_eq_some_iff.mp H
   obtain ⟨t193, A100, H⟩ := H
   replace H : (foolscapref25_Of.j0 k l0 (!t193) a1_0 a1_1 a2_0 a2_1 a2_2 a2_3 a2_4) = some (r1, r2, r3, r4, r5, r6) := H
   have A10 := Aside0.mk A100
   clear A100
   have H' := Aside0.mk H
   clear H
   have hnb11 := NB189_190.out
   have hnc11 := NB190_189.out
   have hnb12 := NB189_191.out
   have hnc12 := NB191_189.out
   have hcz13_0 : w7.cell? ⟨gb189, 0, none⟩ = some (.int .i64 a1_0) := (blk_cell BK189.out 0).trans rfl
   have hcz13_1 : w7.cell? ⟨gb189, 1, none⟩ = some (.int .i64 a1_1) := (blk_cell BK189.out 1).trans rfl
   have hfz13_0 := blk_frozen BK189.out 0
   have hfz13_1 := blk_frozen BK189.out 1
   go_wp2_with (first | ((with_reducible refine gate_callee (f := 39) rfl ?_); refine goesL_ (some 12) rfl rfl Try.func39 (by kernel_rfl) rfl #[.slice A0 l0.length c0, .agg #[.int .i64 a1_0, .int .i64 a1_1]] rfl (by first | rfl | (simp only [List.map_toArray, List.map_cons, List.map_nil] <;> rfl)) ?_; (with_reducible refine (foolscapref5_Place.calls _ _ l0 a1_0 a1_1 true _ ?side1 ?side2 A8.out).mono ?_); (case side1 => repeat (first | exact (Kd.C_below HR0.out HB.out) | (with_reducible refine Kd.C_alloc ?_ _) | (with_reducible refine Kd.C_drewN ?_ _) | (with_reducible refine Kd.C_drew ?_))); (case side2 => exact HC0.out); rintro e w14 ⟨rfl, hb⟩; refine ⟨_, rfl, ?_⟩; have n0_ := Aside0.mk (blk_below (pk BK189.out) hb); have n1_ := Aside0.mk (blk_below (pk BK190.out) hb); have n2_ := Aside0.mk (blk_below (pk BK191.out) hb); have n3_ := Aside0.mk (below_step (by repeat with_reducible first | exact HB.out | apply ba | apply bn | apply bd | refine bset ?_ (by assumption)) hb); clear BK189; clear BK190; clear BK191; clear HB; have BK189 := n0_; have BK190 := n1_; have BK191 := n2_; have HB := n3_; clear n0_ n1_ n2_ n3_; (try clear hb); (try clear hb2); (try clear hk); (try clear hi); have hnb15 := NB190_191.out; have hnc15 := NB191_190.out; have hcz16_0 : w14.cell? ⟨gb190, 0, none⟩ = some (.int .i64 a2_0) := (blk_cell BK190.out 0).trans rfl; have hcz16_1 : w14.cell? ⟨gb190, 1, none⟩ = some (.int .i64 a2_1) := (blk_cell BK190.out 1).trans rfl; have hcz16_2 : w14.cell? ⟨gb190, 2, none⟩ = some (.int .i64 a2_2) := (blk_cell BK190.out 2).trans rfl; have hcz16_3 : w14.cell? ⟨gb190, 3, none⟩ = some (.bool a2_3) := (blk_cell BK190.out 3).trans rfl; have hcz16_4 : w14.cell? ⟨gb190, 4, none⟩ = some (.int .i64 a2_4) := (blk_cell BK190.out 4).trans rfl; have hfz16_0 := blk_frozen BK190.out 0; have hfz16_1 := blk_frozen BK190.out 1; have hfz16_2 := blk_frozen BK190.out 2; have hfz16_3 := blk_frozen BK190.out 3; have hfz16_4 := blk_frozen BK190.out 4) | (go_at_call 39; (with_reducible refine (foolscapref5_Place.calls _ _ l0 a2_0 a2_1 t193 _ ?side1 ?side2 A10.out).mono ?_); (case side1 => repeat (first | exact (Kd.C_below HR0.out HB.out) | (with_reducible refine Kd.C_alloc ?_ _) | (with_reducible refine Kd.C_drewN ?_ _) | (with_reducible refine Kd.C_drew ?_))); (case side2 => exact HC0.out); rintro e w17 ⟨rfl, hb⟩; have n0_ := Aside0.mk (blk_below (pk BK189.out) hb); have n1_ := Aside0.mk (blk_below (pk BK190.out) hb); have n2_ := Aside0.mk (blk_below (pk BK191.out) hb); have n3_ := Aside0.mk (below_step (by repeat with_reducible first | exact HB.out | apply ba | apply bn | apply bd | refine bset ?_ (by assumption)) hb); clear BK189; clear BK190; clear BK191; clear HB; have BK189 := n0_; have BK190 := n1_; have BK191 := n2_; have HB := n3_; clear n0_ n1_ n2_ n3_; (try clear hb); (try clear hb2); (try clear hk); (try clear hi)))
   go_meet
   case rel => exact ⟨_, (!t193), (by first | rfl | (simp; done) | (simp [*]; done)), H', ⟨by first | omega | exact Nat.le_refl _⟩, ⟨by exact pk BK189.out⟩, ⟨by exact pk BK190.out⟩, ⟨by exact pk BK191.out⟩, ⟨by repeat with_reducible first | exact HB.out | apply ba | apply bn | apply bd | refine bset ?_ (by assumption)⟩⟩
  ·replace c9 := Bool.eq_false_iff.mpr c9
   subst c9
   have H1 : (foolscapref25_Of.j0 k l0 true a1_0 a1_1 a2_0 a2_1 a2_2 a2_3 a2_4) = some (r1, r2, r3, r4, r5, r6) := by rw [if_neg (show ¬ (false = true) by decide)] at H; exact H
   clear H
   have H := H1
   clear H1
   have H' := Aside0.mk H
   clear H
   have hnb18 := NB189_190.out
   have hnc18 := NB190_189.out
   have hnb19 := NB189_191.out
   have hnc19 := NB191_189.out
   have hcz20_0 : w7.cell? ⟨gb189, 0, none⟩ = some (.int .i64 a1_0) := (blk_cell BK189.out 0).trans rfl
   have hcz20_1 : w7.cell? ⟨gb189, 1, none⟩ = some (.int .i64 a1_1) := (blk_cell BK189.out 1).trans rfl
   have hfz20_0 := blk_frozen BK189.out 0
   have hfz20_1 := blk_frozen BK189.out 1
   go_wp2_with (first | ((with_reducible refine gate_callee (f := 39) rfl ?_); refine goesL_ (some 12) rfl rfl Try.func39 (by kernel_rfl) rfl #[.slice A0 l0.length c0, .agg #[.int .i64 a1_0, .int .i64 a1_1]] rfl (by first | rfl | (simp only [List.map_toArray, List.map_cons, List.map_nil] <;> rfl)) ?_; (with_reducible refine (foolscapref5_Place.calls _ _ l0 a1_0 a1_1 false _ ?side1 ?side2 A8.out).mono ?_); (case side1 => repeat (first | exact (Kd.C_below HR0.out HB.out) | (with_reducible refine Kd.C_alloc ?_ _) | (with_reducible refine Kd.C_drewN ?_ _) | (with_reducible refine Kd.C_drew ?_))); (case side2 => exact HC0.out); rintro e w21 ⟨rfl, hb⟩; refine ⟨_, rfl, ?_⟩; have n0_ := Aside0.mk (blk_below (pk BK189.out) hb); have n1_ := Aside0.mk (blk_below (pk BK190.out) hb); have n2_ := Aside0.mk (blk_below (pk BK191.out) hb); have n3_ := Aside0.mk (below_step (by repeat with_reducible first | exact HB.out | apply ba | apply bn | apply bd | refine bset ?_ (by assumption)) hb); clear BK189; clear BK190; clear BK191; clear HB; have BK189 := n0_; have BK190 := n1_; have BK191 := n2_; have HB := n3_; clear n0_ n1_ n2_ n3_; (try clear hb); (try clear hb2); (try clear hk); (try clear hi)))
   go_meet
   case rel => exact ⟨_, (true), (by first | rfl | (simp; done) | (simp [*]; done)), H', ⟨by first | omega | exact Nat.le_refl _⟩, ⟨by exact pk BK189.out⟩, ⟨by exact pk BK190.out⟩, ⟨by exact pk BK191.out⟩, ⟨by repeat with_reducible first | exact HB.out | apply ba | apply bn | apply bd | refine bset ?_ (by assumption)⟩⟩
 case rest =>
  clear HC4
  try clear c1
  try clear c2
  try clear p2
  try clear c3
  try clear c9
  try clear c11
  try clear c12
  try clear c15
  try clear c18
  try clear c19
  try clear hcz13_0
  try clear hcz13_1
  try clear hcz16_0
  try clear hcz16_1
  try clear hcz16_2
  try clear hcz16_3
  try clear hcz16_4
  try clear hcz20_0
  try clear hcz20_1
  try clear hfz13_0
  try clear hfz13_1
  try clear hfz16_0
  try clear hfz16_1
  try clear hfz16_2
  try clear hfz16_3
  try clear hfz16_4
  try clear hfz20_0
  try clear hfz20_1
  obtain ⟨kq, x20_3, rfl, HA, HJ3, BK189, BK190, BK191, HB⟩ := hcut
  cases kq with
  | zero => exact absurd HA.out (by simp [foolscapref25_Of.j0])
  | succ kj3 =>
   have H := HA.out
   clear HA
   simp only [foolscapref25_Of.j0] at H
   by_cases c22 : x20_3 = true
   ·subst c22
    have H1 : (some (0, 0, 0, 0, 0, false)) = some (r1, r2, r3, r4, r5, r6) := by rw [if_pos rfl] at H; exact H
    clear H
    have H := H1
    clear H1
    simp only [Option.some.injEq, Prod.mk.injEq] at H
    obtain ⟨rfl, rfl, rfl, rfl, rfl, rfl⟩ := H
    have hnb23 := NB191_189.out
    have hnc23 := NB189_191.out
    have hnb24 := NB191_190.out
    have hnc24 := NB190_191.out
    have hcz25_0 : wc.cell? ⟨gb191, 0, none⟩ = some (.int .i64 0) := (blk_cell BK191.out 0).trans rfl
    have hcz25_1 : wc.cell? ⟨gb191, 1, none⟩ = some (.int .i64 0) := (blk_cell BK191.out 1).trans rfl
    have hcz25_2 : wc.cell? ⟨gb191, 2, none⟩ = some (.int .i64 0) := (blk_cell BK191.out 2).trans rfl
    have hcz25_3 : wc.cell? ⟨gb191, 3, none⟩ = some (.int .i64 0) := (blk_cell BK191.out 3).trans rfl
    have hcz25_4 : wc.cell? ⟨gb191, 4, none⟩ = some (.int .i64 0) := (blk_cell BK191.out 4).trans rfl
    have hfz25_0 := blk_frozen BK191.out 0
    have hfz25_1 := blk_frozen BK191.out 1
    have hfz25_2 := blk_frozen BK191.out 2
    have hfz25_3 := blk_frozen BK191.out 3
    have hfz25_4 := blk_frozen BK191.out 4
    go_wp2
    refine bodyPost_ret (results_ct rfl _ _ gb191 43 #[.int .i64 0, .int .i64 0, .int .i64 0, .int .i64 0, .int .i64 0] (0, 0) _ rfl (by refine pk ?_; refine blk_put (cs := #[.int .i64 0, .int .i64 0, .int .i64 0, .int .i64 0, .int .i64 0]) ?_ 4 _ rfl; refine pk ?_; refine blk_put (cs := #[.int .i64 0, .int .i64 0, .int .i64 0, .int .i64 0, .int .i64 0]) ?_ 3 _ rfl; refine pk ?_; refine blk_put (cs := #[.int .i64 0, .int .i64 0, .int .i64 0, .int .i64 0, .int .i64 0]) ?_ 2 _ rfl; refine pk ?_; refine blk_put (cs := #[.int .i64 0, .int .i64 0, .int .i64 0, .int .i64 0, .int .i64 0]) ?_ 1 _ rfl; refine pk ?_; refine blk_put (cs := #[.int .i64 0, .int .i64 0, .int .i64 0, .int .i64 0, .int .i64 0]) ?_ 0 _ rfl; exact pk BK191.out) Try.underlying43 rfl (by kernel_rfl)) rfl ?_
    exact ⟨by first | rfl | (simp [errW_none, errW_some] <;> rfl) | (simp [*, errW_none, errW_some] <;> rfl), by repeat with_reducible first | exact HB.out | apply ba | apply bn | apply bd | refine bset ?_ (by assumption)⟩
   ·replace c22 := Bool.eq_false_iff.mpr c22
    subst c22
    have H1 : ((foolscapref5_Order.f a1_0 a1_1 a2_0 a2_1).bind fun bt194 => (if a2_2 = 2 then ((foolscapref25_whole.f bt194.1 bt194.2.2.1).bind fun bt200 => (some (bt200.1, bt200.2.1, bt200.2.2.1, bt200.2.2.2.1, bt200.2.2.2.2, true))) else (if a2_2 = 1 then (if 0 ≤ bt194.2.2.1 then (if bt194.2.2.1 < (l0.length : Int) then (if (bt194.1 == bt194.2.2.1 && (bt194.2.1 == (mn (wrap64 (bt194.2.2.2 + 1)) ((rdOf ByteArray.empty l0 bt194.2.2.1).size : Int)))) = true then (some (0, 0, 0, 0, 0, false)) else (some (0, bt194.1, bt194.2.1, bt194.2.2.1, mn (wrap64 (bt194.2.2.2 + 1)) ((rdOf ByteArray.empty l0 bt194.2.2.1).size : Int), true))) else (none)) else (none)) else (if a2_2 = 0 then (if bt194.2.2.1 > bt194.1 then (foolscapref25_Of.j1 kj3 l0 (bt194.2.2.2 == 0) bt194.1 bt194.2.1 bt194.2.2.1 bt194.2.2.2) else (foolscapref25_Of.j1 kj3 l0 false bt194.1 bt194.2.1 bt194.2.2.1 bt194.2.2.2)) else (some (0, 0, 0, 0, 0, false)))))) = some (r1, r2, r3, r4, r5, r6) := by rw [if_neg (show ¬ (false = true) by decide)] at H; exact H
    clear H
    have H := H1
    clear H1
    replace H := Option.bind_eq_some_iff.mp H
    obtain ⟨⟨t194, t195, t196, t197⟩, A260, H⟩ := H
    replace H : (if a2_2 = 2 then ((foolscapref25_whole.f t194 t196).bind fun bt200 => (some (bt200.1, bt200.2.1, bt200.2.2.1, bt200.2.2.2.1, bt200.2.2.2.2, true))) else (if a2_2 = 1 then (if 0 ≤ t196 then (if t196 < (l0.length : Int) then (if (t194 == t196 && (t195 == (mn (wrap64 (t197 + 1)) ((rdOf ByteArray.empty l0 t196).size : Int)))) = true then (some (0, 0, 0, 0, 0, false)) else (some (0, t194, t195, t196, mn (wrap64 (t197 + 1)) ((rdOf ByteArray.empty l0 t196).size : Int), true))) else (none)) else (none)) else (if a2_2 = 0 then (if t196 > t194 then (foolscapref25_Of.j1 kj3 l0 (t197 == 0) t194 t195 t196 t197) else (foolscapref25_Of.j1 kj3 l0 false t194 t195 t196 t197)) else (some (0, 0, 0, 0, 0, false))))) = some (r1, r2, r3, r4, r5, r6) := H
    have A26 := Aside0.mk A260
    clear A260
    by_cases c27 : a2_2 = 2
    ·rw [if_pos c27] at H
     have c27b0 : (a2_2 == 2) = true := beq_iff_eq.mpr c27
     have c27b1 : (a2_2 != 2) = false := bne_eq_false_iff_eq.mpr c27
     clear c27
     replace H := Option.bind_eq_some_iff.mp H
     obtain ⟨⟨t200, t201, t202, t203, t204⟩, A280, H⟩ := H
     replace H : (some (t200, t201, t202, t203, t204, true)) = some (r1, r2, r3, r4, r5, r6) := H
     have A28 := Aside0.mk A280
     clear A280
     simp only [Option.some.injEq, Prod.mk.injEq] at H
     obtain ⟨rfl, rfl, rfl, rfl, rfl, rfl⟩ := H
     have hnb29 := NB189_190.out
     have hnc29 := NB190_189.out
     have hnb30 := NB189_191.out
     have hnc30 := NB191_189.out
     have hcz31_0 : wc.cell? ⟨gb189, 0, none⟩ = some (.int .i64 a1_0) := (blk_cell BK189.out 0).trans rfl
     have hcz31_1 : wc.cell? ⟨gb189, 1, none⟩ = some (.int .i64 a1_1) := (blk_cell BK189.out 1).trans rfl
     have hfz31_0 := blk_frozen BK189.out 0
     have hfz31_1 := blk_frozen BK189.out 1
     have hnb32 := NB190_191.out
     have hnc32 := NB191_190.out
     have hcz33_0 : wc.cell? ⟨gb190, 0, none⟩ = some (.int .i64 a2_0) := (blk_cell BK190.out 0).trans rfl
     have hcz33_1 : wc.cell? ⟨gb190, 1, none⟩ = some (.int .i64 a2_1) := (blk_cell BK190.out 1).trans rfl
     have hcz33_2 : wc.cell? ⟨gb190, 2, none⟩ = some (.int .i64 a2_2) := (blk_cell BK190.out 2).trans rfl
     have hcz33_3 : wc.cell? ⟨gb190, 3, none⟩ = some (.bool a2_3) := (blk_cell BK190.out 3).trans rfl
     have hcz33_4 : wc.cell? ⟨gb190, 4, none⟩ = some (.int .i64 a2_4) := (blk_cell BK190.out 4).trans rfl
     have hfz33_0 := blk_frozen BK190.out 0
     have hfz33_1 := blk_frozen BK190.out 1
     have hfz33_2 := blk_frozen BK190.out 2
     have hfz33_3 := blk_frozen BK190.out 3
     have hfz33_4 := blk_frozen BK190.out 4
     go_wp2_with (first | ((with_reducible refine gate_callee (f := 40) rfl ?_); refine goesL_ (some 26) rfl rfl Try.func40 (by kernel_rfl) rfl #[.agg #[.int .i64 a1_0, .int .i64 a1_1], .agg #[.int .i64 a2_0, .int .i64 a2_1]] rfl (by first | rfl | (simp only [List.map_toArray, List.map_cons, List.map_nil] <;> rfl)) ?_; (with_reducible refine (foolscapref5_Order.calls a1_0 a1_1 a2_0 a2_1 t194 t195 t196 t197 _ A26.out).mono ?_); rintro e w34 ⟨rfl, hb⟩; refine ⟨_, rfl, ?_⟩; have n0_ := Aside0.mk (blk_below (pk BK189.out) hb); have n1_ := Aside0.mk (blk_below (pk BK190.out) hb); have n2_ := Aside0.mk (blk_below (pk BK191.out) hb); have n3_ := Aside0.mk (below_step (by repeat with_reducible first | exact HB.out | apply ba | apply bn | apply bd | refine bset ?_ (by assumption)) hb); clear BK189; clear BK190; clear BK191; clear HB; have BK189 := n0_; have BK190 := n1_; have BK191 := n2_; have HB := n3_; clear n0_ n1_ n2_ n3_; (try clear hb); (try clear hb2); (try clear hk); (try clear hi)) | ((with_reducible refine gate_dst (N := 8) rfl ?_); refine box_event ?hg (N := 8) ?hd (cs := #[.int .i64 0, .int .i64 0]) (t := 28) ?hr ?_; (case hd => rfl); (case hg => rfl); (case hr => first | (go_simp; done) | (go_simp; rfl)); intro gb198 hg w35 hbox hb; have n0_ := Aside0.mk (blk_below (pk BK189.out) hb); have n1_ := Aside0.mk (blk_below (pk BK190.out) hb); have n2_ := Aside0.mk (blk_below (pk BK191.out) hb); have n3_ := Aside0.mk (below_step (by repeat with_reducible first | exact HB.out | apply ba | apply bn | apply bd | refine bset ?_ (by assumption)) hb); have n4_ := Aside0.mk (hbox); have n5_ := Aside0.mk ((by rw [hg]; exact (below_size (by repeat with_reducible first | exact HB.out | apply ba | apply bn | apply bd | refine bset ?_ (by assumption))) : w.heap.size ≤ gb198)); have n6_ := n5_; have n7_ := Aside0.mk ((by rw [hg]; exact Nat.ne_of_lt (blk_lt (pk BK189.out)) : gb189 ≠ gb198)); have n8_ := Aside0.mk ((by rw [hg]; exact Nat.ne_of_gt (blk_lt (pk BK189.out)) : gb198 ≠ gb189)); have n9_ := Aside0.mk ((by rw [hg]; exact Nat.ne_of_lt (blk_lt (pk BK190.out)) : gb190 ≠ gb198)); have n10_ := Aside0.mk ((by rw [hg]; exact Nat.ne_of_gt (blk_lt (pk BK190.out)) : gb198 ≠ gb190)); have n11_ := Aside0.mk ((by rw [hg]; exact Nat.ne_of_lt (blk_lt (pk BK191.out)) : gb191 ≠ gb198)); have n12_ := Aside0.mk ((by rw [hg]; exact Nat.ne_of_gt (blk_lt (pk BK191.out)) : gb198 ≠ gb191)); clear BK189; clear BK190; clear BK191; clear HB; have BK189 := n0_; have BK190 := n1_; have BK191 := n2_; have HB := n3_; have BK198 := n4_; have GW198 := n5_; have GE198 := n6_; have NB189_198 := n7_; have NB198_189 := n8_; have NB190_198 := n9_; have NB198_190 := n10_; have NB191_198 := n11_; have NB198_191 := n12_; clear n0_ n1_ n2_ n3_ n4_ n5_ n6_ n7_ n8_ n9_ n10_ n11_ n12_; clear hb hbox hg) | ((with_reducible refine gate_dst (N := 9) rfl ?_); refine box_event ?hg (N := 9) ?hd (cs := #[.int .i64 0, .int .i64 0]) (t := 28) ?hr ?_; (case hd => rfl); (case hg => rfl); (case hr => first | (go_simp; done) | (go_simp; rfl)); intro gb199 hg w36 hbox hb; have n0_ := Aside0.mk (blk_below (pk BK189.out) hb); have n1_ := Aside0.mk (blk_below (pk BK190.out) hb); have n2_ := Aside0.mk (blk_below (pk BK191.out) hb); have n3_ := Aside0.mk (blk_below (pk BK198.out) hb); have n4_ := Aside0.mk (below_step (by repeat with_reducible first | exact HB.out | apply ba | apply bn | apply bd | refine bset ?_ (by assumption)) hb); have n5_ := Aside0.mk (hbox); have n6_ := Aside0.mk ((by rw [hg]; exact (below_size (by repeat with_reducible first | exact HB.out | apply ba | apply bn | apply bd | refine bset ?_ (by assumption))) : w.heap.size ≤ gb199)); have n7_ := n6_; have n8_ := Aside0.mk ((by rw [hg]; exact Nat.ne_of_lt (blk_lt (pk BK189.out)) : gb189 ≠ gb199)); have n9_ := Aside0.mk ((by rw [hg]; exact Nat.ne_of_gt (blk_lt (pk BK189.out)) : gb199 ≠ gb189)); have n10_ := Aside0.mk ((by rw [hg]; exact Nat.ne_of_lt (blk_lt (pk BK190.out)) : gb190 ≠ gb199)); have n11_ := Aside0.mk ((by rw [hg]; exact Nat.ne_of_gt (blk_lt (pk BK190.out)) : gb199 ≠ gb190)); have n12_ := Aside0.mk ((by rw [hg]; exact Nat.ne_of_lt (blk_lt (pk BK191.out)) : gb191 ≠ gb199)); have n13_ := Aside0.mk ((by rw [hg]; exact Nat.ne_of_gt (blk_lt (pk BK191.out)) : gb199 ≠ gb191)); have n14_ := Aside0.mk ((by rw [hg]; exact Nat.ne_of_lt (blk_lt (pk BK198.out)) : gb198 ≠ gb199)); have n15_ := Aside0.mk ((by rw [hg]; exact Nat.ne_of_gt (blk_lt (pk BK198.out)) : gb199 ≠ gb198)); clear BK189; clear BK190; clear BK191; clear BK198; clear HB; have BK189 := n0_; have BK190 := n1_; have BK191 := n2_; have BK198 := n3_; have HB := n4_; have BK199 := n5_; have GW199 := n6_; have GE199 := n7_; have NB189_199 := n8_; have NB199_189 := n9_; have NB190_199 := n10_; have NB199_190 := n11_; have NB191_199 := n12_; have NB199_191 := n13_; have NB198_199 := n14_; have NB199_198 := n15_; clear n0_ n1_ n2_ n3_ n4_ n5_ n6_ n7_ n8_ n9_ n10_ n11_ n12_ n13_ n14_ n15_; clear hb hbox hg; have hnb37 := NB198_189.out; have hnc37 := NB189_198.out; have hnb38 := NB198_190.out; have hnc38 := NB190_198.out; have hnb39 := NB198_191.out; have hnc39 := NB191_198.out; have hnb40 := NB198_199.out; have hnc40 := NB199_198.out; have hcz41_0 : w36.cell? ⟨gb198, 0, none⟩ = some (.int .i64 0) := (blk_cell BK198.out 0).trans rfl; have hcz41_1 : w36.cell? ⟨gb198, 1, none⟩ = some (.int .i64 0) := (blk_cell BK198.out 1).trans rfl; have hfz41_0 := blk_frozen BK198.out 0; have hfz41_1 := blk_frozen BK198.out 1; have hnb42 := NB199_189.out; have hnc42 := NB189_199.out; have hnb43 := NB199_190.out; have hnc43 := NB190_199.out; have hnb44 := NB199_191.out; have hnc44 := NB191_199.out; have hcz45_0 : w36.cell? ⟨gb199, 0, none⟩ = some (.int .i64 0) := (blk_cell BK199.out 0).trans rfl; have hcz45_1 : w36.cell? ⟨gb199, 1, none⟩ = some (.int .i64 0) := (blk_cell BK199.out 1).trans rfl; have hfz45_0 := blk_frozen BK199.out 0; have hfz45_1 := blk_frozen BK199.out 1; have hcz46_0 : w36.cell? ⟨gb190, 0, none⟩ = some (.int .i64 a2_0) := (blk_cell BK190.out 0).trans rfl; have hcz46_1 : w36.cell? ⟨gb190, 1, none⟩ = some (.int .i64 a2_1) := (blk_cell BK190.out 1).trans rfl; have hcz46_2 : w36.cell? ⟨gb190, 2, none⟩ = some (.int .i64 a2_2) := (blk_cell BK190.out 2).trans rfl; have hcz46_3 : w36.cell? ⟨gb190, 3, none⟩ = some (.bool a2_3) := (blk_cell BK190.out 3).trans rfl; have hcz46_4 : w36.cell? ⟨gb190, 4, none⟩ = some (.int .i64 a2_4) := (blk_cell BK190.out 4).trans rfl; have hfz46_0 := blk_frozen BK190.out 0; have hfz46_1 := blk_frozen BK190.out 1; have hfz46_2 := blk_frozen BK190.out 2; have hfz46_3 := blk_frozen BK190.out 3; have hfz46_4 := blk_frozen BK190.out 4) | ((with_reducible refine gate_callee (f := 41) rfl ?_); refine goesL_ (some 38) rfl rfl Try.func41 (by kernel_rfl) rfl #[.int .i64 t194, .int .i64 t196] rfl (by first | rfl | (simp only [List.map_toArray, List.map_cons, List.map_nil] <;> rfl)) ?_; (with_reducible refine (foolscapref25_whole.calls t194 t196 t200 t201 t202 t203 t204 _ A28.out).mono ?_); rintro e w47 ⟨rfl, hb⟩; refine ⟨_, rfl, ?_⟩; have n0_ := Aside0.mk (blk_below (g := gb189) (o := .cells #[.int .i64 a1_0, .int .i64 a1_1] 28 (0, 0)) (by refine pk ?_; refine blk_far ?_ NB189_199.out _; refine pk ?_; refine blk_far ?_ NB189_199.out _; refine pk ?_; refine blk_far ?_ NB189_198.out _; refine pk ?_; refine blk_far ?_ NB189_198.out _; exact pk BK189.out) hb); have n1_ := Aside0.mk (blk_below (g := gb190) (o := .cells #[.int .i64 a2_0, .int .i64 a2_1, .int .i64 a2_2, .bool a2_3, .int .i64 a2_4] 38 (0, 0)) (by refine pk ?_; refine blk_far ?_ NB190_199.out _; refine pk ?_; refine blk_far ?_ NB190_199.out _; refine pk ?_; refine blk_far ?_ NB190_198.out _; refine pk ?_; refine blk_far ?_ NB190_198.out _; exact pk BK190.out) hb); have n2_ := Aside0.mk (blk_below (g := gb191) (o := .cells #[.int .i64 0, .int .i64 0, .int .i64 0, .int .i64 0, .int .i64 0] 43 (0, 0)) (by refine pk ?_; refine blk_far ?_ NB191_199.out _; refine pk ?_; refine blk_far ?_ NB191_199.out _; refine pk ?_; refine blk_far ?_ NB191_198.out _; refine pk ?_; refine blk_far ?_ NB191_198.out _; exact pk BK191.out) hb); have n3_ := Aside0.mk (blk_below (g := gb198) (o := .cells #[.int .i64 t194, .int .i64 t195] 28 (0, 0)) (by refine pk ?_; refine blk_far ?_ NB198_199.out _; refine pk ?_; refine blk_far ?_ NB198_199.out _; refine pk ?_; refine blk_put (cs := #[.int .i64 t194, .int .i64 0]) ?_ 1 _ rfl; refine pk ?_; refine blk_put (cs := #[.int .i64 0, .int .i64 0]) ?_ 0 _ rfl; exact pk BK198.out) hb); have n4_ := Aside0.mk (blk_below (g := gb199) (o := .cells #[.int .i64 t196, .int .i64 t197] 28 (0, 0)) (by refine pk ?_; refine blk_put (cs := #[.int .i64 t196, .int .i64 0]) ?_ 1 _ rfl; refine pk ?_; refine blk_put (cs := #[.int .i64 0, .int .i64 0]) ?_ 0 _ rfl; refine pk ?_; refine blk_far ?_ NB199_198.out _; refine pk ?_; refine blk_far ?_ NB199_198.out _; exact pk BK199.out) hb); have n5_ := Aside0.mk (below_step (by repeat with_reducible first | exact HB.out | apply ba | apply bn | apply bd | refine bset ?_ (by assumption)) hb); clear BK189; clear BK190; clear BK191; clear BK198; clear BK199; clear HB; have BK189 := n0_; have BK190 := n1_; have BK191 := n2_; have BK198 := n3_; have BK199 := n4_; have HB := n5_; clear n0_ n1_ n2_ n3_ n4_ n5_; (try clear hb); (try clear hb2); (try clear hk); (try clear hi); have hcz48_0 : w47.cell? ⟨gb191, 0, none⟩ = some (.int .i64 0) := (blk_cell BK191.out 0).trans rfl; have hcz48_1 : w47.cell? ⟨gb191, 1, none⟩ = some (.int .i64 0) := (blk_cell BK191.out 1).trans rfl; have hcz48_2 : w47.cell? ⟨gb191, 2, none⟩ = some (.int .i64 0) := (blk_cell BK191.out 2).trans rfl; have hcz48_3 : w47.cell? ⟨gb191, 3, none⟩ = some (.int .i64 0) := (blk_cell BK191.out 3).trans rfl; have hcz48_4 : w47.cell? ⟨gb191, 4, none⟩ = some (.int .i64 0) := (blk_cell BK191.out 4).trans rfl; have hfz48_0 := blk_frozen BK191.out 0; have hfz48_1 := blk_frozen BK191.out 1; have hfz48_2 := blk_frozen BK191.out 2; have hfz48_3 := blk_frozen BK191.out 3; have hfz48_4 := blk_frozen BK191.out 4))
     refine bodyPost_ret (results_ct rfl _ _ gb191 43 #[.int .i64 t200, .int .i64 t201, .int .i64 t202, .int .i64 t203, .int .i64 t204] (0, 0) _ rfl (by refine pk ?_; refine blk_put (cs := #[.int .i64 t200, .int .i64 t201, .int .i64 t202, .int .i64 t203, .int .i64 0]) ?_ 4 _ rfl; refine pk ?_; refine blk_put (cs := #[.int .i64 t200, .int .i64 t201, .int .i64 t202, .int .i64 0, .int .i64 0]) ?_ 3 _ rfl; refine pk ?_; refine blk_put (cs := #[.int .i64 t200, .int .i64 t201, .int .i64 0, .int .i64 0, .int .i64 0]) ?_ 2 _ rfl; refine pk ?_; refine blk_put (cs := #[.int .i64 t200, .int .i64 0, .int .i64 0, .int .i64 0, .int .i64 0]) ?_ 1 _ rfl; refine pk ?_; refine blk_put (cs := #[.int .i64 0, .int .i64 0, .int .i64 0, .int .i64 0, .int .i64 0]) ?_ 0 _ rfl; exact pk BK191.out) Try.underlying43 rfl (by kernel_rfl)) rfl ?_
     exact ⟨by first | rfl | (simp [errW_none, errW_some] <;> rfl) | (simp [*, errW_none, errW_some] <;> rfl), by repeat with_reducible first | exact HB.out | apply ba | apply bn | apply bd | refine bset ?_ (by assumption)⟩
    ·rw [if_neg c27] at H
     have c27b0 : (a2_2 == 2) = false := beq_eq_false_iff_ne.mpr c27
     have c27b1 : (a2_2 != 2) = true := bne_iff_ne.mpr c27
     by_cases c49 : a2_2 = 1
     ·rw [if_pos c49] at H
      have c49b0 : (a2_2 == 1) = true := beq_iff_eq.mpr c49
      have c49b1 : (a2_2 != 1) = false := bne_eq_false_iff_eq.mpr c49
      clear c49
      by_cases c50 : 0 ≤ t196
      ·rw [if_pos c50] at H
       have c50b0 : decide (0 ≤ t196) = true := decide_eq_true c50
       clear c50
       by_cases c51 : t196 < (l0.length : Int)
       ·rw [if_pos c51] at H
        have c51b0 : decide (t196 < (l0.length : Int)) = true := decide_eq_true c51
        clear c51
        obtain ⟨ji52, hji52⟩ : ∃ j_ : Int, (mn (wrap64 (t197 + 1)) ((rdOf ByteArray.empty l0 t196).size : Int)) = j_ := ⟨_, rfl⟩
        replace H : (if (t194 == t196 && (t195 == (ji52))) = true then (some (0, 0, 0, 0, 0, false)) else (some (0, t194, t195, t196, ji52, true))) = some (r1, r2, r3, r4, r5, r6) := by first | (rw [hji52] at H; exact H) | (simp only [hji52] at H ⊢; exact H)
        (try rw [hji52] at A26)
        have hji52_ : (if ((rdOf ByteArray.empty l0 t196).size : Int) < (wrap64 (t197 + 1)) then ((rdOf ByteArray.empty l0 t196).size : Int) else (wrap64 (t197 + 1))) = ji52 := hji52
        by_cases c53 : (t194 == t196 && (t195 == (ji52))) = true
        ·rw [if_pos c53] at H
         have c53b0 : (t194 == t196 && (t195 == (ji52))) = true := c53
         (try (have c53b1 : decide (t194 = t196 && (t195 == (ji52))) = true := by simpa using c53))
         (try (have c53b2 : (t194 == t196 && (t195 == (ji52))) = true := by simpa using c53))
         clear c53
         simp only [Option.some.injEq, Prod.mk.injEq] at H
         obtain ⟨rfl, rfl, rfl, rfl, rfl, rfl⟩ := H
         have hnb54 := NB189_190.out
         have hnc54 := NB190_189.out
         have hnb55 := NB189_191.out
         have hnc55 := NB191_189.out
         have hcz56_0 : wc.cell? ⟨gb189, 0, none⟩ = some (.int .i64 a1_0) := (blk_cell BK189.out 0).trans rfl
         have hcz56_1 : wc.cell? ⟨gb189, 1, none⟩ = some (.int .i64 a1_1) := (blk_cell BK189.out 1).trans rfl
         have hfz56_0 := blk_frozen BK189.out 0
         have hfz56_1 := blk_frozen BK189.out 1
         have hnb57 := NB190_191.out
         have hnc57 := NB191_190.out
         have hcz58_0 : wc.cell? ⟨gb190, 0, none⟩ = some (.int .i64 a2_0) := (blk_cell BK190.out 0).trans rfl
         have hcz58_1 : wc.cell? ⟨gb190, 1, none⟩ = some (.int .i64 a2_1) := (blk_cell BK190.out 1).trans rfl
         have hcz58_2 : wc.cell? ⟨gb190, 2, none⟩ = some (.int .i64 a2_2) := (blk_cell BK190.out 2).trans rfl
         have hcz58_3 : wc.cell? ⟨gb190, 3, none⟩ = some (.bool a2_3) := (blk_cell BK190.out 3).trans rfl
         have hcz58_4 : wc.cell? ⟨gb190, 4, none⟩ = some (.int .i64 a2_4) := (blk_cell BK190.out 4).trans rfl
         have hfz58_0 := blk_frozen BK190.out 0
         have hfz58_1 := blk_frozen BK190.out 1
         have hfz58_2 := blk_frozen BK190.out 2
         have hfz58_3 := blk_frozen BK190.out 3
         have hfz58_4 := blk_frozen BK190.out 4
         try go_wp2_with (first | ((with_reducible refine gate_callee (f := 40) rfl ?_); refine goesL_ (some 26) rfl rfl Try.func40 (by kernel_rfl) rfl #[.agg #[.int .i64 a1_0, .int .i64 a1_1], .agg #[.int .i64 a2_0, .int .i64 a2_1]] rfl (by first | rfl | (simp only [List.map_toArray, List.map_cons, List.map_nil] <;> rfl)) ?_; (with_reducible refine (foolscapref5_Order.calls a1_0 a1_1 a2_0 a2_1 t194 t195 t196 t197 _ A26.out).mono ?_); rintro e w59 ⟨rfl, hb⟩; refine ⟨_, rfl, ?_⟩; have n0_ := Aside0.mk (blk_below (pk BK189.out) hb); have n1_ := Aside0.mk (blk_below (pk BK190.out) hb); have n2_ := Aside0.mk (blk_below (pk BK191.out) hb); have n3_ := Aside0.mk (below_step (by repeat with_reducible first | exact HB.out | apply ba | apply bn | apply bd | refine bset ?_ (by assumption)) hb); clear BK189; clear BK190; clear BK191; clear HB; have BK189 := n0_; have BK190 := n1_; have BK191 := n2_; have HB := n3_; clear n0_ n1_ n2_ n3_; (try clear hb); (try clear hb2); (try clear hk); (try clear hi)) | ((with_reducible refine gate_dst (N := 8) rfl ?_); refine box_event ?hg (N := 8) ?hd (cs := #[.int .i64 0, .int .i64 0]) (t := 28) ?hr ?_; (case hd => rfl); (case hg => rfl); (case hr => first | (go_simp; done) | (go_simp; rfl)); intro gb198 hg w60 hbox hb; have n0_ := Aside0.mk (blk_below (pk BK189.out) hb); have n1_ := Aside0.mk (blk_below (pk BK190.out) hb); have n2_ := Aside0.mk (blk_below (pk BK191.out) hb); have n3_ := Aside0.mk (below_step (by repeat with_reducible first | exact HB.out | apply ba | apply bn | apply bd | refine bset ?_ (by assumption)) hb); have n4_ := Aside0.mk (hbox); have n5_ := Aside0.mk ((by rw [hg]; exact (below_size (by repeat with_reducible first | exact HB.out | apply ba | apply bn | apply bd | refine bset ?_ (by assumption))) : w.heap.size ≤ gb198)); have n6_ := n5_; have n7_ := Aside0.mk ((by rw [hg]; exact Nat.ne_of_lt (blk_lt (pk BK189.out)) : gb189 ≠ gb198)); have n8_ := Aside0.mk ((by rw [hg]; exact Nat.ne_of_gt (blk_lt (pk BK189.out)) : gb198 ≠ gb189)); have n9_ := Aside0.mk ((by rw [hg]; exact Nat.ne_of_lt (blk_lt (pk BK190.out)) : gb190 ≠ gb198)); have n10_ := Aside0.mk ((by rw [hg]; exact Nat.ne_of_gt (blk_lt (pk BK190.out)) : gb198 ≠ gb190)); have n11_ := Aside0.mk ((by rw [hg]; exact Nat.ne_of_lt (blk_lt (pk BK191.out)) : gb191 ≠ gb198)); have n12_ := Aside0.mk ((by rw [hg]; exact Nat.ne_of_gt (blk_lt (pk BK191.out)) : gb198 ≠ gb191)); clear BK189; clear BK190; clear BK191; clear HB; have BK189 := n0_; have BK190 := n1_; have BK191 := n2_; have HB := n3_; have BK198 := n4_; have GW198 := n5_; have GE198 := n6_; have NB189_198 := n7_; have NB198_189 := n8_; have NB190_198 := n9_; have NB198_190 := n10_; have NB191_198 := n11_; have NB198_191 := n12_; clear n0_ n1_ n2_ n3_ n4_ n5_ n6_ n7_ n8_ n9_ n10_ n11_ n12_; clear hb hbox hg) | ((with_reducible refine gate_dst (N := 9) rfl ?_); refine box_event ?hg (N := 9) ?hd (cs := #[.int .i64 0, .int .i64 0]) (t := 28) ?hr ?_; (case hd => rfl); (case hg => rfl); (case hr => first | (go_simp; done) | (go_simp; rfl)); intro gb199 hg w61 hbox hb; have n0_ := Aside0.mk (blk_below (pk BK189.out) hb); have n1_ := Aside0.mk (blk_below (pk BK190.out) hb); have n2_ := Aside0.mk (blk_below (pk BK191.out) hb); have n3_ := Aside0.mk (blk_below (pk BK198.out) hb); have n4_ := Aside0.mk (below_step (by repeat with_reducible first | exact HB.out | apply ba | apply bn | apply bd | refine bset ?_ (by assumption)) hb); have n5_ := Aside0.mk (hbox); have n6_ := Aside0.mk ((by rw [hg]; exact (below_size (by repeat with_reducible first | exact HB.out | apply ba | apply bn | apply bd | refine bset ?_ (by assumption))) : w.heap.size ≤ gb199)); have n7_ := n6_; have n8_ := Aside0.mk ((by rw [hg]; exact Nat.ne_of_lt (blk_lt (pk BK189.out)) : gb189 ≠ gb199)); have n9_ := Aside0.mk ((by rw [hg]; exact Nat.ne_of_gt (blk_lt (pk BK189.out)) : gb199 ≠ gb189)); have n10_ := Aside0.mk ((by rw [hg]; exact Nat.ne_of_lt (blk_lt (pk BK190.out)) : gb190 ≠ gb199)); have n11_ := Aside0.mk ((by rw [hg]; exact Nat.ne_of_gt (blk_lt (pk BK190.out)) : gb199 ≠ gb190)); have n12_ := Aside0.mk ((by rw [hg]; exact Nat.ne_of_lt (blk_lt (pk BK191.out)) : gb191 ≠ gb199)); have n13_ := Aside0.mk ((by rw [hg]; exact Nat.ne_of_gt (blk_lt (pk BK191.out)) : gb199 ≠ gb191)); have n14_ := Aside0.mk ((by rw [hg]; exact Nat.ne_of_lt (blk_lt (pk BK198.out)) : gb198 ≠ gb199)); have n15_ := Aside0.mk ((by rw [hg]; exact Nat.ne_of_gt (blk_lt (pk BK198.out)) : gb199 ≠ gb198)); clear BK189; clear BK190; clear BK191; clear BK198; clear HB; have BK189 := n0_; have BK190 := n1_; have BK191 := n2_; have BK198 := n3_; have HB := n4_; have BK199 := n5_; have GW199 := n6_; have GE199 := n7_; have NB189_199 := n8_; have NB199_189 := n9_; have NB190_199 := n10_; have NB199_190 := n11_; have NB191_199 := n12_; have NB199_191 := n13_; have NB198_199 := n14_; have NB199_198 := n15_; clear n0_ n1_ n2_ n3_ n4_ n5_ n6_ n7_ n8_ n9_ n10_ n11_ n12_ n13_ n14_ n15_; clear hb hbox hg; have hnb62 := NB198_189.out; have hnc62 := NB189_198.out; have hnb63 := NB198_190.out; have hnc63 := NB190_198.out; have hnb64 := NB198_191.out; have hnc64 := NB191_198.out; have hnb65 := NB198_199.out; have hnc65 := NB199_198.out; have hcz66_0 : w61.cell? ⟨gb198, 0, none⟩ = some (.int .i64 0) := (blk_cell BK198.out 0).trans rfl; have hcz66_1 : w61.cell? ⟨gb198, 1, none⟩ = some (.int .i64 0) := (blk_cell BK198.out 1).trans rfl; have hfz66_0 := blk_frozen BK198.out 0; have hfz66_1 := blk_frozen BK198.out 1; have hnb67 := NB199_189.out; have hnc67 := NB189_199.out; have hnb68 := NB199_190.out; have hnc68 := NB190_199.out; have hnb69 := NB199_191.out; have hnc69 := NB191_199.out; have hcz70_0 : w61.cell? ⟨gb199, 0, none⟩ = some (.int .i64 0) := (blk_cell BK199.out 0).trans rfl; have hcz70_1 : w61.cell? ⟨gb199, 1, none⟩ = some (.int .i64 0) := (blk_cell BK199.out 1).trans rfl; have hfz70_0 := blk_frozen BK199.out 0; have hfz70_1 := blk_frozen BK199.out 1; have hcz71_0 : w61.cell? ⟨gb190, 0, none⟩ = some (.int .i64 a2_0) := (blk_cell BK190.out 0).trans rfl; have hcz71_1 : w61.cell? ⟨gb190, 1, none⟩ = some (.int .i64 a2_1) := (blk_cell BK190.out 1).trans rfl; have hcz71_2 : w61.cell? ⟨gb190, 2, none⟩ = some (.int .i64 a2_2) := (blk_cell BK190.out 2).trans rfl; have hcz71_3 : w61.cell? ⟨gb190, 3, none⟩ = some (.bool a2_3) := (blk_cell BK190.out 3).trans rfl; have hcz71_4 : w61.cell? ⟨gb190, 4, none⟩ = some (.int .i64 a2_4) := (blk_cell BK190.out 4).trans rfl; have hfz71_0 := blk_frozen BK190.out 0; have hfz71_1 := blk_frozen BK190.out 1; have hfz71_2 := blk_frozen BK190.out 2; have hfz71_3 := blk_frozen BK190.out 3; have hfz71_4 := blk_frozen BK190.out 4))
         have n0_ : Aside0 (((((w61.setCell ⟨gb198, 0, none⟩ (.int .i64 t194)).setCell ⟨gb198, 1, none⟩ (.int .i64 t195)).setCell ⟨gb199, 0, none⟩ (.int .i64 t196)).setCell ⟨gb199, 1, none⟩ (.int .i64 t197)).heap[gb189]? = some (.cells #[.int .i64 a1_0, .int .i64 a1_1] 28 (0, 0))) := ⟨by refine pk ?_; refine blk_far ?_ NB189_199.out _; refine pk ?_; refine blk_far ?_ NB189_199.out _; refine pk ?_; refine blk_far ?_ NB189_198.out _; refine pk ?_; refine blk_far ?_ NB189_198.out _; exact pk BK189.out⟩
         have n1_ : Aside0 (((((w61.setCell ⟨gb198, 0, none⟩ (.int .i64 t194)).setCell ⟨gb198, 1, none⟩ (.int .i64 t195)).setCell ⟨gb199, 0, none⟩ (.int .i64 t196)).setCell ⟨gb199, 1, none⟩ (.int .i64 t197)).heap[gb190]? = some (.cells #[.int .i64 a2_0, .int .i64 a2_1, .int .i64 a2_2, .bool a2_3, .int .i64 a2_4] 38 (0, 0))) := ⟨by refine pk ?_; refine blk_far ?_ NB190_199.out _; refine pk ?_; refine blk_far ?_ NB190_199.out _; refine pk ?_; refine blk_far ?_ NB190_198.out _; refine pk ?_; refine blk_far ?_ NB190_198.out _; exact pk BK190.out⟩
         have n2_ : Aside0 (((((w61.setCell ⟨gb198, 0, none⟩ (.int .i64 t194)).setCell ⟨gb198, 1, none⟩ (.int .i64 t195)).setCell ⟨gb199, 0, none⟩ (.int .i64 t196)).setCell ⟨gb199, 1, none⟩ (.int .i64 t197)).heap[gb191]? = some (.cells #[.int .i64 0, .int .i64 0, .int .i64 0, .int .i64 0, .int .i64 0] 43 (0, 0))) := ⟨by refine pk ?_; refine blk_far ?_ NB191_199.out _; refine pk ?_; refine blk_far ?_ NB191_199.out _; refine pk ?_; refine blk_far ?_ NB191_198.out _; refine pk ?_; refine blk_far ?_ NB191_198.out _; exact pk BK191.out⟩
         have n3_ : Aside0 (((((w61.setCell ⟨gb198, 0, none⟩ (.int .i64 t194)).setCell ⟨gb198, 1, none⟩ (.int .i64 t195)).setCell ⟨gb199, 0, none⟩ (.int .i64 t196)).setCell ⟨gb199, 1, none⟩ (.int .i64 t197)).heap[gb198]? = some (.cells #[.int .i64 t194, .int .i64 t195] 28 (0, 0))) := ⟨by refine pk ?_; refine blk_far ?_ NB198_199.out _; refine pk ?_; refine blk_far ?_ NB198_199.out _; refine pk ?_; refine blk_put (cs := #[.int .i64 t194, .int .i64 0]) ?_ 1 _ rfl; refine pk ?_; refine blk_put (cs := #[.int .i64 0, .int .i64 0]) ?_ 0 _ rfl; exact pk BK198.out⟩
         have n4_ : Aside0 (((((w61.setCell ⟨gb198, 0, none⟩ (.int .i64 t194)).setCell ⟨gb198, 1, none⟩ (.int .i64 t195)).setCell ⟨gb199, 0, none⟩ (.int .i64 t196)).setCell ⟨gb199, 1, none⟩ (.int .i64 t197)).heap[gb199]? = some (.cells #[.int .i64 t196, .int .i64 t197] 28 (0, 0))) := ⟨by refine pk ?_; refine blk_put (cs := #[.int .i64 t196, .int .i64 0]) ?_ 1 _ rfl; refine pk ?_; refine blk_put (cs := #[.int .i64 0, .int .i64 0]) ?_ 0 _ rfl; refine pk ?_; refine blk_far ?_ NB199_198.out _; refine pk ?_; refine blk_far ?_ NB199_198.out _; exact pk BK199.out⟩
         have n5_ : Aside0 (Below w.heap.size w ((((w61.setCell ⟨gb198, 0, none⟩ (.int .i64 t194)).setCell ⟨gb198, 1, none⟩ (.int .i64 t195)).setCell ⟨gb199, 0, none⟩ (.int .i64 t196)).setCell ⟨gb199, 1, none⟩ (.int .i64 t197))) := ⟨by repeat with_reducible first | exact HB.out | apply ba | apply bn | apply bd | refine bset ?_ (by assumption)⟩
         (try clear BK189)
         (try clear BK190)
         (try clear BK191)
         (try clear BK198)
         (try clear BK199)
         (try clear HB)
         generalize ((((w61.setCell ⟨gb198, 0, none⟩ (.int .i64 t194)).setCell ⟨gb198, 1, none⟩ (.int .i64 t195)).setCell ⟨gb199, 0, none⟩ (.int .i64 t196)).setCell ⟨gb199, 1, none⟩ (.int .i64 t197)) = w72 at n0_ n1_ n2_ n3_ n4_ n5_ ⊢
         have BK189 := n0_
         have BK190 := n1_
         have BK191 := n2_
         have BK198 := n3_
         have BK199 := n4_
         have HB := n5_
         clear n0_ n1_ n2_ n3_ n4_ n5_
         have n0_ := Aside0.mk (blk_drew BK189.out)
         have n1_ := Aside0.mk (blk_drew BK190.out)
         have n2_ := Aside0.mk (blk_drew BK191.out)
         have n3_ := Aside0.mk (blk_drew BK198.out)
         have n4_ := Aside0.mk (blk_drew BK199.out)
         have n5_ := Aside0.mk (below_drew1 HB.out)
         clear BK189
         clear BK190
         clear BK191
         clear BK198
         clear BK199
         clear HB
         have BK189 := n0_
         have BK190 := n1_
         have BK191 := n2_
         have BK198 := n3_
         have BK199 := n4_
         have HB := n5_
         clear n0_ n1_ n2_ n3_ n4_ n5_
         have p205 : 0 ≤ (t196 : Int) := of_decide_eq_true (by first | (with_reducible assumption) | assumption)
         have q205 : t196 < (l0.length : Int) := of_decide_eq_true (by first | (with_reducible assumption) | assumption)
         obtain ⟨ad205, e205, hx205_0⟩ := Kd.at_string HR0.out t196 p205 q205
         have hw205_0 := hx205_0
         cases e205
         replace hx205_0 := (HB.out.cell (World.block_lt_of_cell? w _ hx205_0)).trans hx205_0
         replace p205 := eq_true p205
         replace q205 := eq_true q205
         refine start_ (n := 12) (S := fun w' => w'.cell? ⟨gb199, 0, none⟩ = some (.int .i64 t196) ∧ w'.cell? ⟨gb199, 1, none⟩ = some (.int .i64 t197) ∧ w'.cell? (ad205.add (t196).toNat) = some (.string (rdOf ByteArray.empty l0 t196))) (ds := [11]) #[false, false, false, false, false, false, false, false, false, false, false, false] (by kernel_rfl) rfl rfl ⟨(blk_cell BK199.out 0).trans rfl, (blk_cell BK199.out 1).trans rfl, ((HB.out.cell (World.block_lt_of_cell? w _ hw205_0)).trans hw205_0)⟩ (fun hHeld => ?_); refine with_tabW foolscapref25_Of.tab9 foolscapref25_Of.bits9 (fun HT_ HW_ => ?_)
         generalize w72.drew = w73 at BK189 BK190 BK191 BK198 BK199 HB hx205_0 hHeld ⊢
         refine pure_ (i := 0) (N := some 41) (v := ?_) (a' := ?_) #[true, false, false, false, false, false, false, false, false, false, false, false] rfl rfl (any_of HT_.out (by kernel_rfl)) (fun _ _ _ h => h) (Or.inl ⟨by rfl, ?_⟩) ?_ ?_
         rotate_left
         ·intro w'
          go_simp
          with_reducible rfl
         rotate_left
         ·simp only [Act.put, List.setIfInBounds_toArray, List.set_cons_zero, List.set_cons_succ, i64_w, i32_w]
          rfl
         refine pure_ (i := 3) (N := some 44) (v := ?_) (a' := ?_) #[true, false, false, true, false, false, false, false, false, false, false, false] rfl rfl (any_of HT_.out (by kernel_rfl)) (fun _ _ _ h => h) (Or.inl ⟨by rfl, ?_⟩) ?_ ?_
         rotate_left
         ·intro w'
          go_simp
          with_reducible rfl
         rotate_left
         ·simp only [Act.put, List.setIfInBounds_toArray, List.set_cons_zero, List.set_cons_succ, i64_w, i32_w]
          rfl
         refine pure_ (i := 4) (N := some 45) (v := ?_) (a' := ?_) #[true, false, false, true, true, false, false, false, false, false, false, false] rfl rfl (any_of HT_.out (by kernel_rfl)) (fun _ _ _ h => h) (Or.inl ⟨by rfl, ?_⟩) ?_ ?_
         rotate_left
         ·intro w'
          go_simp
          with_reducible rfl
         rotate_left
         ·simp only [Act.put, List.setIfInBounds_toArray, List.set_cons_zero, List.set_cons_succ, i64_w, i32_w]
          rfl
         refine take_ (i := 1) (N := some 42) (v := ?_) (a' := ?_) #[true, true, false, true, true, false, false, false, false, false, false, false] rfl rfl (take_ofW HT_.out HW_.out (by kernel_rfl)) (fun _ _ _ h => h) (Or.inl ⟨by rfl, ?_⟩) hHeld ?_ ?_
         rotate_left
         ·rintro w' ⟨s0, s1, s2⟩
          go_simp
          with_reducible rfl
         rotate_left
         ·simp only [Act.put, List.setIfInBounds_toArray, List.set_cons_zero, List.set_cons_succ, i64_w, i32_w]
          rfl
         refine pure_ (i := 2) (N := some 43) (v := ?_) (a' := ?_) #[true, true, true, true, true, false, false, false, false, false, false, false] rfl rfl (any_of HT_.out (by kernel_rfl)) (fun _ _ _ h => h) (Or.inl ⟨by rfl, ?_⟩) ?_ ?_
         rotate_left
         ·intro w'
          go_simp
          with_reducible rfl
         rotate_left
         ·simp only [Act.put, List.setIfInBounds_toArray, List.set_cons_zero, List.set_cons_succ, i64_w, i32_w]
          rfl
         refine take_ (i := 5) (N := some 46) (v := ?_) (a' := ?_) #[true, true, true, true, true, true, false, false, false, false, false, false] rfl rfl (take_ofW HT_.out HW_.out (by kernel_rfl)) (fun _ _ _ h => h) (Or.inl ⟨by rfl, ?_⟩) hHeld ?_ ?_
         rotate_left
         ·rintro w' ⟨s0, s1, s2⟩
          go_simp
          with_reducible rfl
         rotate_left
         ·simp only [Act.put, List.setIfInBounds_toArray, List.set_cons_zero, List.set_cons_succ, i64_w, i32_w]
          rfl
         refine pure_ (i := 6) (N := some 47) (v := ?_) (a' := ?_) #[true, true, true, true, true, true, true, false, false, false, false, false] rfl rfl (any_of HT_.out (by kernel_rfl)) (fun _ _ _ h => h) (Or.inl ⟨by rfl, ?_⟩) ?_ ?_
         rotate_left
         ·intro w'
          go_simp
          with_reducible rfl
         rotate_left
         ·simp only [Act.put, List.setIfInBounds_toArray, List.set_cons_zero, List.set_cons_succ, i64_w, i32_w]
          rfl
         refine take_ (i := 7) (N := some 48) (v := ?_) (a' := ?_) #[true, true, true, true, true, true, true, true, false, false, false, false] rfl rfl (take_ofW HT_.out HW_.out (by kernel_rfl)) (fun _ _ _ h => h) (Or.inl ⟨by rfl, ?_⟩) hHeld ?_ ?_
         rotate_left
         ·rintro w' ⟨s0, s1, s2⟩
          go_simp
          with_reducible rfl
         rotate_left
         ·simp only [Act.put, List.setIfInBounds_toArray, List.set_cons_zero, List.set_cons_succ, i64_w, i32_w]
          rfl
         refine pure_ (i := 8) (N := some 49) (v := ?_) (a' := ?_) #[true, true, true, true, true, true, true, true, true, false, false, false] rfl rfl (any_of HT_.out (by kernel_rfl)) (fun _ _ _ h => h) (Or.inl ⟨by rfl, ?_⟩) ?_ ?_
         rotate_left
         ·intro w'
          go_simp
          with_reducible rfl
         rotate_left
         ·simp only [Act.put, List.setIfInBounds_toArray, List.set_cons_zero, List.set_cons_succ, i64_w, i32_w]
          rfl
         refine pure_ (i := 9) (N := some 50) (v := ?_) (a' := ?_) #[true, true, true, true, true, true, true, true, true, true, false, false] rfl rfl (any_of HT_.out (by kernel_rfl)) (fun _ _ _ h => h) (Or.inl ⟨by rfl, ?_⟩) ?_ ?_
         rotate_left
         ·intro w'
          go_simp
          with_reducible rfl
         rotate_left
         ·simp only [Act.put, List.setIfInBounds_toArray, List.set_cons_zero, List.set_cons_succ, i64_w, i32_w]
          rfl
         refine pure_ (i := 10) (N := some 51) (v := ?_) (a' := ?_) #[true, true, true, true, true, true, true, true, true, true, true, false] rfl rfl (any_of HT_.out (by kernel_rfl)) (fun _ _ _ h => h) (Or.inl ⟨by rfl, ?_⟩) ?_ ?_
         rotate_left
         ·intro w'
          go_simp
          with_reducible rfl
         rotate_left
         ·simp only [Act.put, List.setIfInBounds_toArray, List.set_cons_zero, List.set_cons_succ, i64_w, i32_w]
          rfl
         refine last_ (i := 11) (N := none) #[true, true, true, true, true, true, true, true, true, true, true, true] rfl rfl (one_of HT_.out (by kernel_rfl)) (by decide) (fun K hK => ?_)
         have hs74 : w73.cell? ⟨gb199, 1, none⟩ = some (.int .i64 t197) := (blk_cell BK199.out 1).trans rfl
         have hfs74 := blk_frozen BK199.out 1
         have hns74_0 := NB189_199.out
         have hns74_1 := NB190_199.out
         have hns74_2 := NB191_199.out
         have hns74_3 := NB198_199.out
         have hms74_0 := NB199_189.out
         have hms74_1 := NB199_190.out
         have hms74_2 := NB199_191.out
         have hms74_3 := NB199_198.out
         refine skip_ (w1 := ?_) (by rfl) rfl ?_ ?_
         rotate_left
         ·go_simp
          rfl
         refine hK.out _ _ ?_
         clear hK K
         refine done_ (done_of HT_.out (by kernel_rfl)) ?_
         have hcz75_0 : w73.cell? ⟨gb198, 0, none⟩ = some (.int .i64 t194) := (blk_cell BK198.out 0).trans rfl
         have hcz75_1 : w73.cell? ⟨gb198, 1, none⟩ = some (.int .i64 t195) := (blk_cell BK198.out 1).trans rfl
         have hfz75_0 := blk_frozen BK198.out 0
         have hfz75_1 := blk_frozen BK198.out 1
         have hcz76_0 : w73.cell? ⟨gb199, 0, none⟩ = some (.int .i64 t196) := (blk_cell BK199.out 0).trans rfl
         have hcz76_1 : w73.cell? ⟨gb199, 1, none⟩ = some (.int .i64 t197) := (blk_cell BK199.out 1).trans rfl
         have hfz76_0 := blk_frozen BK199.out 0
         have hfz76_1 := blk_frozen BK199.out 1
         have hcz77_0 : w73.cell? ⟨gb191, 0, none⟩ = some (.int .i64 0) := (blk_cell BK191.out 0).trans rfl
         have hcz77_1 : w73.cell? ⟨gb191, 1, none⟩ = some (.int .i64 0) := (blk_cell BK191.out 1).trans rfl
         have hcz77_2 : w73.cell? ⟨gb191, 2, none⟩ = some (.int .i64 0) := (blk_cell BK191.out 2).trans rfl
         have hcz77_3 : w73.cell? ⟨gb191, 3, none⟩ = some (.int .i64 0) := (blk_cell BK191.out 3).trans rfl
         have hcz77_4 : w73.cell? ⟨gb191, 4, none⟩ = some (.int .i64 0) := (blk_cell BK191.out 4).trans rfl
         have hfz77_0 := blk_frozen BK191.out 0
         have hfz77_1 := blk_frozen BK191.out 1
         have hfz77_2 := blk_frozen BK191.out 2
         have hfz77_3 := blk_frozen BK191.out 3
         have hfz77_4 := blk_frozen BK191.out 4
         try go_wp2
         refine bodyPost_ret (results_ct rfl _ _ gb191 43 #[.int .i64 0, .int .i64 0, .int .i64 0, .int .i64 0, .int .i64 0] (0, 0) _ rfl (by refine pk ?_; refine blk_put (cs := #[.int .i64 0, .int .i64 0, .int .i64 0, .int .i64 0, .int .i64 0]) ?_ 4 _ rfl; refine pk ?_; refine blk_put (cs := #[.int .i64 0, .int .i64 0, .int .i64 0, .int .i64 0, .int .i64 0]) ?_ 3 _ rfl; refine pk ?_; refine blk_put (cs := #[.int .i64 0, .int .i64 0, .int .i64 0, .int .i64 0, .int .i64 0]) ?_ 2 _ rfl; refine pk ?_; refine blk_put (cs := #[.int .i64 0, .int .i64 0, .int .i64 0, .int .i64 0, .int .i64 0]) ?_ 1 _ rfl; refine pk ?_; refine blk_put (cs := #[.int .i64 0, .int .i64 0, .int .i64 0, .int .i64 0, .int .i64 0]) ?_ 0 _ rfl; refine pk ?_; refine blk_far ?_ NB191_199.out _; exact pk BK191.out) Try.underlying43 rfl (by kernel_rfl)) rfl ?_
         exact ⟨by first | rfl | (simp [errW_none, errW_some] <;> rfl) | (simp only [← hji52]; first | rfl | (simp [errW_none, errW_some] <;> rfl)) | (simp [*, errW_none, errW_some] <;> rfl), by repeat with_reducible first | exact HB.out | apply ba | apply bn | apply bd | refine bset ?_ (by assumption)⟩
        ·rw [if_neg c53] at H
         have c53b0 : (t194 == t196 && (t195 == (ji52))) = false := by simpa using c53
         (try (have c53b1 : decide (t194 = t196 && (t195 == (ji52))) = false := by simpa using c53))
         (try (have c53b2 : (t194 == t196 && (t195 == (ji52))) = false := by simpa using c53))
         (try (have c53b3 : ¬ (t194 = t196 && (t195 == (ji52))) := by simpa using c53))
         clear c53
         simp only [Option.some.injEq, Prod.mk.injEq] at H
         obtain ⟨rfl, rfl, rfl, rfl, rfl, rfl⟩ := H
         have hnb78 := NB189_190.out
         have hnc78 := NB190_189.out
         have hnb79 := NB189_191.out
         have hnc79 := NB191_189.out
         have hcz80_0 : wc.cell? ⟨gb189, 0, none⟩ = some (.int .i64 a1_0) := (blk_cell BK189.out 0).trans rfl
         have hcz80_1 : wc.cell? ⟨gb189, 1, none⟩ = some (.int .i64 a1_1) := (blk_cell BK189.out 1).trans rfl
         have hfz80_0 := blk_frozen BK189.out 0
         have hfz80_1 := blk_frozen BK189.out 1
         have hnb81 := NB190_191.out
         have hnc81 := NB191_190.out
         have hcz82_0 : wc.cell? ⟨gb190, 0, none⟩ = some (.int .i64 a2_0) := (blk_cell BK190.out 0).trans rfl
         have hcz82_1 : wc.cell? ⟨gb190, 1, none⟩ = some (.int .i64 a2_1) := (blk_cell BK190.out 1).trans rfl
         have hcz82_2 : wc.cell? ⟨gb190, 2, none⟩ = some (.int .i64 a2_2) := (blk_cell BK190.out 2).trans rfl
         have hcz82_3 : wc.cell? ⟨gb190, 3, none⟩ = some (.bool a2_3) := (blk_cell BK190.out 3).trans rfl
         have hcz82_4 : wc.cell? ⟨gb190, 4, none⟩ = some (.int .i64 a2_4) := (blk_cell BK190.out 4).trans rfl
         have hfz82_0 := blk_frozen BK190.out 0
         have hfz82_1 := blk_frozen BK190.out 1
         have hfz82_2 := blk_frozen BK190.out 2
         have hfz82_3 := blk_frozen BK190.out 3
         have hfz82_4 := blk_frozen BK190.out 4
         try go_wp2_with (first | ((with_reducible refine gate_callee (f := 40) rfl ?_); refine goesL_ (some 26) rfl rfl Try.func40 (by kernel_rfl) rfl #[.agg #[.int .i64 a1_0, .int .i64 a1_1], .agg #[.int .i64 a2_0, .int .i64 a2_1]] rfl (by first | rfl | (simp only [List.map_toArray, List.map_cons, List.map_nil] <;> rfl)) ?_; (with_reducible refine (foolscapref5_Order.calls a1_0 a1_1 a2_0 a2_1 t194 t195 t196 t197 _ A26.out).mono ?_); rintro e w83 ⟨rfl, hb⟩; refine ⟨_, rfl, ?_⟩; have n0_ := Aside0.mk (blk_below (pk BK189.out) hb); have n1_ := Aside0.mk (blk_below (pk BK190.out) hb); have n2_ := Aside0.mk (blk_below (pk BK191.out) hb); have n3_ := Aside0.mk (below_step (by repeat with_reducible first | exact HB.out | apply ba | apply bn | apply bd | refine bset ?_ (by assumption)) hb); clear BK189; clear BK190; clear BK191; clear HB; have BK189 := n0_; have BK190 := n1_; have BK191 := n2_; have HB := n3_; clear n0_ n1_ n2_ n3_; (try clear hb); (try clear hb2); (try clear hk); (try clear hi)) | ((with_reducible refine gate_dst (N := 8) rfl ?_); refine box_event ?hg (N := 8) ?hd (cs := #[.int .i64 0, .int .i64 0]) (t := 28) ?hr ?_; (case hd => rfl); (case hg => rfl); (case hr => first | (go_simp; done) | (go_simp; rfl)); intro gb198 hg w84 hbox hb; have n0_ := Aside0.mk (blk_below (pk BK189.out) hb); have n1_ := Aside0.mk (blk_below (pk BK190.out) hb); have n2_ := Aside0.mk (blk_below (pk BK191.out) hb); have n3_ := Aside0.mk (below_step (by repeat with_reducible first | exact HB.out | apply ba | apply bn | apply bd | refine bset ?_ (by assumption)) hb); have n4_ := Aside0.mk (hbox); have n5_ := Aside0.mk ((by rw [hg]; exact (below_size (by repeat with_reducible first | exact HB.out | apply ba | apply bn | apply bd | refine bset ?_ (by assumption))) : w.heap.size ≤ gb198)); have n6_ := n5_; have n7_ := Aside0.mk ((by rw [hg]; exact Nat.ne_of_lt (blk_lt (pk BK189.out)) : gb189 ≠ gb198)); have n8_ := Aside0.mk ((by rw [hg]; exact Nat.ne_of_gt (blk_lt (pk BK189.out)) : gb198 ≠ gb189)); have n9_ := Aside0.mk ((by rw [hg]; exact Nat.ne_of_lt (blk_lt (pk BK190.out)) : gb190 ≠ gb198)); have n10_ := Aside0.mk ((by rw [hg]; exact Nat.ne_of_gt (blk_lt (pk BK190.out)) : gb198 ≠ gb190)); have n11_ := Aside0.mk ((by rw [hg]; exact Nat.ne_of_lt (blk_lt (pk BK191.out)) : gb191 ≠ gb198)); have n12_ := Aside0.mk ((by rw [hg]; exact Nat.ne_of_gt (blk_lt (pk BK191.out)) : gb198 ≠ gb191)); clear BK189; clear BK190; clear BK191; clear HB; have BK189 := n0_; have BK190 := n1_; have BK191 := n2_; have HB := n3_; have BK198 := n4_; have GW198 := n5_; have GE198 := n6_; have NB189_198 := n7_; have NB198_189 := n8_; have NB190_198 := n9_; have NB198_190 := n10_; have NB191_198 := n11_; have NB198_191 := n12_; clear n0_ n1_ n2_ n3_ n4_ n5_ n6_ n7_ n8_ n9_ n10_ n11_ n12_; clear hb hbox hg) | ((with_reducible refine gate_dst (N := 9) rfl ?_); refine box_event ?hg (N := 9) ?hd (cs := #[.int .i64 0, .int .i64 0]) (t := 28) ?hr ?_; (case hd => rfl); (case hg => rfl); (case hr => first | (go_simp; done) | (go_simp; rfl)); intro gb199 hg w85 hbox hb; have n0_ := Aside0.mk (blk_below (pk BK189.out) hb); have n1_ := Aside0.mk (blk_below (pk BK190.out) hb); have n2_ := Aside0.mk (blk_below (pk BK191.out) hb); have n3_ := Aside0.mk (blk_below (pk BK198.out) hb); have n4_ := Aside0.mk (below_step (by repeat with_reducible first | exact HB.out | apply ba | apply bn | apply bd | refine bset ?_ (by assumption)) hb); have n5_ := Aside0.mk (hbox); have n6_ := Aside0.mk ((by rw [hg]; exact (below_size (by repeat with_reducible first | exact HB.out | apply ba | apply bn | apply bd | refine bset ?_ (by assumption))) : w.heap.size ≤ gb199)); have n7_ := n6_; have n8_ := Aside0.mk ((by rw [hg]; exact Nat.ne_of_lt (blk_lt (pk BK189.out)) : gb189 ≠ gb199)); have n9_ := Aside0.mk ((by rw [hg]; exact Nat.ne_of_gt (blk_lt (pk BK189.out)) : gb199 ≠ gb189)); have n10_ := Aside0.mk ((by rw [hg]; exact Nat.ne_of_lt (blk_lt (pk BK190.out)) : gb190 ≠ gb199)); have n11_ := Aside0.mk ((by rw [hg]; exact Nat.ne_of_gt (blk_lt (pk BK190.out)) : gb199 ≠ gb190)); have n12_ := Aside0.mk ((by rw [hg]; exact Nat.ne_of_lt (blk_lt (pk BK191.out)) : gb191 ≠ gb199)); have n13_ := Aside0.mk ((by rw [hg]; exact Nat.ne_of_gt (blk_lt (pk BK191.out)) : gb199 ≠ gb191)); have n14_ := Aside0.mk ((by rw [hg]; exact Nat.ne_of_lt (blk_lt (pk BK198.out)) : gb198 ≠ gb199)); have n15_ := Aside0.mk ((by rw [hg]; exact Nat.ne_of_gt (blk_lt (pk BK198.out)) : gb199 ≠ gb198)); clear BK189; clear BK190; clear BK191; clear BK198; clear HB; have BK189 := n0_; have BK190 := n1_; have BK191 := n2_; have BK198 := n3_; have HB := n4_; have BK199 := n5_; have GW199 := n6_; have GE199 := n7_; have NB189_199 := n8_; have NB199_189 := n9_; have NB190_199 := n10_; have NB199_190 := n11_; have NB191_199 := n12_; have NB199_191 := n13_; have NB198_199 := n14_; have NB199_198 := n15_; clear n0_ n1_ n2_ n3_ n4_ n5_ n6_ n7_ n8_ n9_ n10_ n11_ n12_ n13_ n14_ n15_; clear hb hbox hg; have hnb86 := NB198_189.out; have hnc86 := NB189_198.out; have hnb87 := NB198_190.out; have hnc87 := NB190_198.out; have hnb88 := NB198_191.out; have hnc88 := NB191_198.out; have hnb89 := NB198_199.out; have hnc89 := NB199_198.out; have hcz90_0 : w85.cell? ⟨gb198, 0, none⟩ = some (.int .i64 0) := (blk_cell BK198.out 0).trans rfl; have hcz90_1 : w85.cell? ⟨gb198, 1, none⟩ = some (.int .i64 0) := (blk_cell BK198.out 1).trans rfl; have hfz90_0 := blk_frozen BK198.out 0; have hfz90_1 := blk_frozen BK198.out 1; have hnb91 := NB199_189.out; have hnc91 := NB189_199.out; have hnb92 := NB199_190.out; have hnc92 := NB190_199.out; have hnb93 := NB199_191.out; have hnc93 := NB191_199.out; have hcz94_0 : w85.cell? ⟨gb199, 0, none⟩ = some (.int .i64 0) := (blk_cell BK199.out 0).trans rfl; have hcz94_1 : w85.cell? ⟨gb199, 1, none⟩ = some (.int .i64 0) := (blk_cell BK199.out 1).trans rfl; have hfz94_0 := blk_frozen BK199.out 0; have hfz94_1 := blk_frozen BK199.out 1; have hcz95_0 : w85.cell? ⟨gb190, 0, none⟩ = some (.int .i64 a2_0) := (blk_cell BK190.out 0).trans rfl; have hcz95_1 : w85.cell? ⟨gb190, 1, none⟩ = some (.int .i64 a2_1) := (blk_cell BK190.out 1).trans rfl; have hcz95_2 : w85.cell? ⟨gb190, 2, none⟩ = some (.int .i64 a2_2) := (blk_cell BK190.out 2).trans rfl; have hcz95_3 : w85.cell? ⟨gb190, 3, none⟩ = some (.bool a2_3) := (blk_cell BK190.out 3).trans rfl; have hcz95_4 : w85.cell? ⟨gb190, 4, none⟩ = some (.int .i64 a2_4) := (blk_cell BK190.out 4).trans rfl; have hfz95_0 := blk_frozen BK190.out 0; have hfz95_1 := blk_frozen BK190.out 1; have hfz95_2 := blk_frozen BK190.out 2; have hfz95_3 := blk_frozen BK190.out 3; have hfz95_4 := blk_frozen BK190.out 4))
         have n0_ : Aside0 (((((w85.setCell ⟨gb198, 0, none⟩ (.int .i64 t194)).setCell ⟨gb198, 1, none⟩ (.int .i64 t195)).setCell ⟨gb199, 0, none⟩ (.int .i64 t196)).setCell ⟨gb199, 1, none⟩ (.int .i64 t197)).heap[gb189]? = some (.cells #[.int .i64 a1_0, .int .i64 a1_1] 28 (0, 0))) := ⟨by refine pk ?_; refine blk_far ?_ NB189_199.out _; refine pk ?_; refine blk_far ?_ NB189_199.out _; refine pk ?_; refine blk_far ?_ NB189_198.out _; refine pk ?_; refine blk_far ?_ NB189_198.out _; exact pk BK189.out⟩
         have n1_ : Aside0 (((((w85.setCell ⟨gb198, 0, none⟩ (.int .i64 t194)).setCell ⟨gb198, 1, none⟩ (.int .i64 t195)).setCell ⟨gb199, 0, none⟩ (.int .i64 t196)).setCell ⟨gb199, 1, none⟩ (.int .i64 t197)).heap[gb190]? = some (.cells #[.int .i64 a2_0, .int .i64 a2_1, .int .i64 a2_2, .bool a2_3, .int .i64 a2_4] 38 (0, 0))) := ⟨by refine pk ?_; refine blk_far ?_ NB190_199.out _; refine pk ?_; refine blk_far ?_ NB190_199.out _; refine pk ?_; refine blk_far ?_ NB190_198.out _; refine pk ?_; refine blk_far ?_ NB190_198.out _; exact pk BK190.out⟩
         have n2_ : Aside0 (((((w85.setCell ⟨gb198, 0, none⟩ (.int .i64 t194)).setCell ⟨gb198, 1, none⟩ (.int .i64 t195)).setCell ⟨gb199, 0, none⟩ (.int .i64 t196)).setCell ⟨gb199, 1, none⟩ (.int .i64 t197)).heap[gb191]? = some (.cells #[.int .i64 0, .int .i64 0, .int .i64 0, .int .i64 0, .int .i64 0] 43 (0, 0))) := ⟨by refine pk ?_; refine blk_far ?_ NB191_199.out _; refine pk ?_; refine blk_far ?_ NB191_199.out _; refine pk ?_; refine blk_far ?_ NB191_198.out _; refine pk ?_; refine blk_far ?_ NB191_198.out _; exact pk BK191.out⟩
         have n3_ : Aside0 (((((w85.setCell ⟨gb198, 0, none⟩ (.int .i64 t194)).setCell ⟨gb198, 1, none⟩ (.int .i64 t195)).setCell ⟨gb199, 0, none⟩ (.int .i64 t196)).setCell ⟨gb199, 1, none⟩ (.int .i64 t197)).heap[gb198]? = some (.cells #[.int .i64 t194, .int .i64 t195] 28 (0, 0))) := ⟨by refine pk ?_; refine blk_far ?_ NB198_199.out _; refine pk ?_; refine blk_far ?_ NB198_199.out _; refine pk ?_; refine blk_put (cs := #[.int .i64 t194, .int .i64 0]) ?_ 1 _ rfl; refine pk ?_; refine blk_put (cs := #[.int .i64 0, .int .i64 0]) ?_ 0 _ rfl; exact pk BK198.out⟩
         have n4_ : Aside0 (((((w85.setCell ⟨gb198, 0, none⟩ (.int .i64 t194)).setCell ⟨gb198, 1, none⟩ (.int .i64 t195)).setCell ⟨gb199, 0, none⟩ (.int .i64 t196)).setCell ⟨gb199, 1, none⟩ (.int .i64 t197)).heap[gb199]? = some (.cells #[.int .i64 t196, .int .i64 t197] 28 (0, 0))) := ⟨by refine pk ?_; refine blk_put (cs := #[.int .i64 t196, .int .i64 0]) ?_ 1 _ rfl; refine pk ?_; refine blk_put (cs := #[.int .i64 0, .int .i64 0]) ?_ 0 _ rfl; refine pk ?_; refine blk_far ?_ NB199_198.out _; refine pk ?_; refine blk_far ?_ NB199_198.out _; exact pk BK199.out⟩
         have n5_ : Aside0 (Below w.heap.size w ((((w85.setCell ⟨gb198, 0, none⟩ (.int .i64 t194)).setCell ⟨gb198, 1, none⟩ (.int .i64 t195)).setCell ⟨gb199, 0, none⟩ (.int .i64 t196)).setCell ⟨gb199, 1, none⟩ (.int .i64 t197))) := ⟨by repeat with_reducible first | exact HB.out | apply ba | apply bn | apply bd | refine bset ?_ (by assumption)⟩
         (try clear BK189)
         (try clear BK190)
         (try clear BK191)
         (try clear BK198)
         (try clear BK199)
         (try clear HB)
         generalize ((((w85.setCell ⟨gb198, 0, none⟩ (.int .i64 t194)).setCell ⟨gb198, 1, none⟩ (.int .i64 t195)).setCell ⟨gb199, 0, none⟩ (.int .i64 t196)).setCell ⟨gb199, 1, none⟩ (.int .i64 t197)) = w96 at n0_ n1_ n2_ n3_ n4_ n5_ ⊢
         have BK189 := n0_
         have BK190 := n1_
         have BK191 := n2_
         have BK198 := n3_
         have BK199 := n4_
         have HB := n5_
         clear n0_ n1_ n2_ n3_ n4_ n5_
         have n0_ := Aside0.mk (blk_drew BK189.out)
         have n1_ := Aside0.mk (blk_drew BK190.out)
         have n2_ := Aside0.mk (blk_drew BK191.out)
         have n3_ := Aside0.mk (blk_drew BK198.out)
         have n4_ := Aside0.mk (blk_drew BK199.out)
         have n5_ := Aside0.mk (below_drew1 HB.out)
         clear BK189
         clear BK190
         clear BK191
         clear BK198
         clear BK199
         clear HB
         have BK189 := n0_
         have BK190 := n1_
         have BK191 := n2_
         have BK198 := n3_
         have BK199 := n4_
         have HB := n5_
         clear n0_ n1_ n2_ n3_ n4_ n5_
         have p205 : 0 ≤ (t196 : Int) := of_decide_eq_true (by first | (with_reducible assumption) | assumption)
         have q205 : t196 < (l0.length : Int) := of_decide_eq_true (by first | (with_reducible assumption) | assumption)
         obtain ⟨ad205, e205, hx205_0⟩ := Kd.at_string HR0.out t196 p205 q205
         have hw205_0 := hx205_0
         cases e205
         replace hx205_0 := (HB.out.cell (World.block_lt_of_cell? w _ hx205_0)).trans hx205_0
         replace p205 := eq_true p205
         replace q205 := eq_true q205
         refine start_ (n := 12) (S := fun w' => w'.cell? ⟨gb199, 0, none⟩ = some (.int .i64 t196) ∧ w'.cell? ⟨gb199, 1, none⟩ = some (.int .i64 t197) ∧ w'.cell? (ad205.add (t196).toNat) = some (.string (rdOf ByteArray.empty l0 t196))) (ds := [11]) #[false, false, false, false, false, false, false, false, false, false, false, false] (by kernel_rfl) rfl rfl ⟨(blk_cell BK199.out 0).trans rfl, (blk_cell BK199.out 1).trans rfl, ((HB.out.cell (World.block_lt_of_cell? w _ hw205_0)).trans hw205_0)⟩ (fun hHeld => ?_); refine with_tabW foolscapref25_Of.tab9 foolscapref25_Of.bits9 (fun HT_ HW_ => ?_)
         generalize w96.drew = w97 at BK189 BK190 BK191 BK198 BK199 HB hx205_0 hHeld ⊢
         refine pure_ (i := 0) (N := some 41) (v := ?_) (a' := ?_) #[true, false, false, false, false, false, false, false, false, false, false, false] rfl rfl (any_of HT_.out (by kernel_rfl)) (fun _ _ _ h => h) (Or.inl ⟨by rfl, ?_⟩) ?_ ?_
         rotate_left
         ·intro w'
          go_simp
          with_reducible rfl
         rotate_left
         ·simp only [Act.put, List.setIfInBounds_toArray, List.set_cons_zero, List.set_cons_succ, i64_w, i32_w]
          rfl
         refine pure_ (i := 3) (N := some 44) (v := ?_) (a' := ?_) #[true, false, false, true, false, false, false, false, false, false, false, false] rfl rfl (any_of HT_.out (by kernel_rfl)) (fun _ _ _ h => h) (Or.inl ⟨by rfl, ?_⟩) ?_ ?_
         rotate_left
         ·intro w'
          go_simp
          with_reducible rfl
         rotate_left
         ·simp only [Act.put, List.setIfInBounds_toArray, List.set_cons_zero, List.set_cons_succ, i64_w, i32_w]
          rfl
         refine pure_ (i := 4) (N := some 45) (v := ?_) (a' := ?_) #[true, false, false, true, true, false, false, false, false, false, false, false] rfl rfl (any_of HT_.out (by kernel_rfl)) (fun _ _ _ h => h) (Or.inl ⟨by rfl, ?_⟩) ?_ ?_
         rotate_left
         ·intro w'
          go_simp
          with_reducible rfl
         rotate_left
         ·simp only [Act.put, List.setIfInBounds_toArray, List.set_cons_zero, List.set_cons_succ, i64_w, i32_w]
          rfl
         refine take_ (i := 1) (N := some 42) (v := ?_) (a' := ?_) #[true, true, false, true, true, false, false, false, false, false, false, false] rfl rfl (take_ofW HT_.out HW_.out (by kernel_rfl)) (fun _ _ _ h => h) (Or.inl ⟨by rfl, ?_⟩) hHeld ?_ ?_
         rotate_left
         ·rintro w' ⟨s0, s1, s2⟩
          go_simp
          with_reducible rfl
         rotate_left
         ·simp only [Act.put, List.setIfInBounds_toArray, List.set_cons_zero, List.set_cons_succ, i64_w, i32_w]
          rfl
         refine pure_ (i := 2) (N := some 43) (v := ?_) (a' := ?_) #[true, true, true, true, true, false, false, false, false, false, false, false] rfl rfl (any_of HT_.out (by kernel_rfl)) (fun _ _ _ h => h) (Or.inl ⟨by rfl, ?_⟩) ?_ ?_
         rotate_left
         ·intro w'
          go_simp
          with_reducible rfl
         rotate_left
         ·simp only [Act.put, List.setIfInBounds_toArray, List.set_cons_zero, List.set_cons_succ, i64_w, i32_w]
          rfl
         refine take_ (i := 5) (N := some 46) (v := ?_) (a' := ?_) #[true, true, true, true, true, true, false, false, false, false, false, false] rfl rfl (take_ofW HT_.out HW_.out (by kernel_rfl)) (fun _ _ _ h => h) (Or.inl ⟨by rfl, ?_⟩) hHeld ?_ ?_
         rotate_left
         ·rintro w' ⟨s0, s1, s2⟩
          go_simp
          with_reducible rfl
         rotate_left
         ·simp only [Act.put, List.setIfInBounds_toArray, List.set_cons_zero, List.set_cons_succ, i64_w, i32_w]
          rfl
         refine pure_ (i := 6) (N := some 47) (v := ?_) (a' := ?_) #[true, true, true, true, true, true, true, false, false, false, false, false] rfl rfl (any_of HT_.out (by kernel_rfl)) (fun _ _ _ h => h) (Or.inl ⟨by rfl, ?_⟩) ?_ ?_
         rotate_left
         ·intro w'
          go_simp
          with_reducible rfl
         rotate_left
         ·simp only [Act.put, List.setIfInBounds_toArray, List.set_cons_zero, List.set_cons_succ, i64_w, i32_w]
          rfl
         refine take_ (i := 7) (N := some 48) (v := ?_) (a' := ?_) #[true, true, true, true, true, true, true, true, false, false, false, false] rfl rfl (take_ofW HT_.out HW_.out (by kernel_rfl)) (fun _ _ _ h => h) (Or.inl ⟨by rfl, ?_⟩) hHeld ?_ ?_
         rotate_left
         ·rintro w' ⟨s0, s1, s2⟩
          go_simp
          with_reducible rfl
         rotate_left
         ·simp only [Act.put, List.setIfInBounds_toArray, List.set_cons_zero, List.set_cons_succ, i64_w, i32_w]
          rfl
         refine pure_ (i := 8) (N := some 49) (v := ?_) (a' := ?_) #[true, true, true, true, true, true, true, true, true, false, false, false] rfl rfl (any_of HT_.out (by kernel_rfl)) (fun _ _ _ h => h) (Or.inl ⟨by rfl, ?_⟩) ?_ ?_
         rotate_left
         ·intro w'
          go_simp
          with_reducible rfl
         rotate_left
         ·simp only [Act.put, List.setIfInBounds_toArray, List.set_cons_zero, List.set_cons_succ, i64_w, i32_w]
          rfl
         refine pure_ (i := 9) (N := some 50) (v := ?_) (a' := ?_) #[true, true, true, true, true, true, true, true, true, true, false, false] rfl rfl (any_of HT_.out (by kernel_rfl)) (fun _ _ _ h => h) (Or.inl ⟨by rfl, ?_⟩) ?_ ?_
         rotate_left
         ·intro w'
          go_simp
          with_reducible rfl
         rotate_left
         ·simp only [Act.put, List.setIfInBounds_toArray, List.set_cons_zero, List.set_cons_succ, i64_w, i32_w]
          rfl
         refine pure_ (i := 10) (N := some 51) (v := ?_) (a' := ?_) #[true, true, true, true, true, true, true, true, true, true, true, false] rfl rfl (any_of HT_.out (by kernel_rfl)) (fun _ _ _ h => h) (Or.inl ⟨by rfl, ?_⟩) ?_ ?_
         rotate_left
         ·intro w'
          go_simp
          with_reducible rfl
         rotate_left
         ·simp only [Act.put, List.setIfInBounds_toArray, List.set_cons_zero, List.set_cons_succ, i64_w, i32_w]
          rfl
         refine last_ (i := 11) (N := none) #[true, true, true, true, true, true, true, true, true, true, true, true] rfl rfl (one_of HT_.out (by kernel_rfl)) (by decide) (fun K hK => ?_)
         have hs98 : w97.cell? ⟨gb199, 1, none⟩ = some (.int .i64 t197) := (blk_cell BK199.out 1).trans rfl
         have hfs98 := blk_frozen BK199.out 1
         have hns98_0 := NB189_199.out
         have hns98_1 := NB190_199.out
         have hns98_2 := NB191_199.out
         have hns98_3 := NB198_199.out
         have hms98_0 := NB199_189.out
         have hms98_1 := NB199_190.out
         have hms98_2 := NB199_191.out
         have hms98_3 := NB199_198.out
         refine skip_ (w1 := ?_) (by rfl) rfl ?_ ?_
         rotate_left
         ·go_simp
          rfl
         refine hK.out _ _ ?_
         clear hK K
         refine done_ (done_of HT_.out (by kernel_rfl)) ?_
         have hcz99_0 : w97.cell? ⟨gb198, 0, none⟩ = some (.int .i64 t194) := (blk_cell BK198.out 0).trans rfl
         have hcz99_1 : w97.cell? ⟨gb198, 1, none⟩ = some (.int .i64 t195) := (blk_cell BK198.out 1).trans rfl
         have hfz99_0 := blk_frozen BK198.out 0
         have hfz99_1 := blk_frozen BK198.out 1
         have hcz100_0 : w97.cell? ⟨gb199, 0, none⟩ = some (.int .i64 t196) := (blk_cell BK199.out 0).trans rfl
         have hcz100_1 : w97.cell? ⟨gb199, 1, none⟩ = some (.int .i64 t197) := (blk_cell BK199.out 1).trans rfl
         have hfz100_0 := blk_frozen BK199.out 0
         have hfz100_1 := blk_frozen BK199.out 1
         have hcz101_0 : w97.cell? ⟨gb191, 0, none⟩ = some (.int .i64 0) := (blk_cell BK191.out 0).trans rfl
         have hcz101_1 : w97.cell? ⟨gb191, 1, none⟩ = some (.int .i64 0) := (blk_cell BK191.out 1).trans rfl
         have hcz101_2 : w97.cell? ⟨gb191, 2, none⟩ = some (.int .i64 0) := (blk_cell BK191.out 2).trans rfl
         have hcz101_3 : w97.cell? ⟨gb191, 3, none⟩ = some (.int .i64 0) := (blk_cell BK191.out 3).trans rfl
         have hcz101_4 : w97.cell? ⟨gb191, 4, none⟩ = some (.int .i64 0) := (blk_cell BK191.out 4).trans rfl
         have hfz101_0 := blk_frozen BK191.out 0
         have hfz101_1 := blk_frozen BK191.out 1
         have hfz101_2 := blk_frozen BK191.out 2
         have hfz101_3 := blk_frozen BK191.out 3
         have hfz101_4 := blk_frozen BK191.out 4
         try go_wp2
         refine bodyPost_ret (results_ct rfl _ _ gb191 43 #[.int .i64 0, .int .i64 t194, .int .i64 t195, .int .i64 t196, .int .i64 ji52] (0, 0) _ rfl (by refine pk ?_; refine blk_put (cs := #[.int .i64 0, .int .i64 t194, .int .i64 t195, .int .i64 t196, .int .i64 0]) ?_ 4 _ rfl; refine pk ?_; refine blk_put (cs := #[.int .i64 0, .int .i64 t194, .int .i64 t195, .int .i64 0, .int .i64 0]) ?_ 3 _ rfl; refine pk ?_; refine blk_put (cs := #[.int .i64 0, .int .i64 t194, .int .i64 0, .int .i64 0, .int .i64 0]) ?_ 2 _ rfl; refine pk ?_; refine blk_put (cs := #[.int .i64 0, .int .i64 0, .int .i64 0, .int .i64 0, .int .i64 0]) ?_ 1 _ rfl; refine pk ?_; refine blk_put (cs := #[.int .i64 0, .int .i64 0, .int .i64 0, .int .i64 0, .int .i64 0]) ?_ 0 _ rfl; refine pk ?_; refine blk_far ?_ NB191_199.out _; exact pk BK191.out) Try.underlying43 rfl (by kernel_rfl)) rfl ?_
         exact ⟨by first | rfl | (simp [errW_none, errW_some] <;> rfl) | (simp only [← hji52]; first | rfl | (simp [errW_none, errW_some] <;> rfl)) | (simp [*, errW_none, errW_some] <;> rfl), by repeat with_reducible first | exact HB.out | apply ba | apply bn | apply bd | refine bset ?_ (by assumption)⟩
       ·rw [if_neg c51] at H
        exact absurd H (by simp)
      ·rw [if_neg c50] at H
       exact absurd H (by simp)
     ·rw [if_neg c49] at H
      have c49b0 : (a2_2 == 1) = false := beq_eq_false_iff_ne.mpr c49
      have c49b1 : (a2_2 != 1) = true := bne_iff_ne.mpr c49
      by_cases c102 : a2_2 = 0
      ·rw [if_pos c102] at H
       have c102b0 : (a2_2 == 0) = true := beq_iff_eq.mpr c102
       have c102b1 : (a2_2 != 0) = false := bne_eq_false_iff_eq.mpr c102
       clear c102
       have HC103 := Aside0.mk H
       clear H
       have hnb104 := NB189_190.out
       have hnc104 := NB190_189.out
       have hnb105 := NB189_191.out
       have hnc105 := NB191_189.out
       have hcz106_0 : wc.cell? ⟨gb189, 0, none⟩ = some (.int .i64 a1_0) := (blk_cell BK189.out 0).trans rfl
       have hcz106_1 : wc.cell? ⟨gb189, 1, none⟩ = some (.int .i64 a1_1) := (blk_cell BK189.out 1).trans rfl
       have hfz106_0 := blk_frozen BK189.out 0
       have hfz106_1 := blk_frozen BK189.out 1
       have hnb107 := NB190_191.out
       have hnc107 := NB191_190.out
       have hcz108_0 : wc.cell? ⟨gb190, 0, none⟩ = some (.int .i64 a2_0) := (blk_cell BK190.out 0).trans rfl
       have hcz108_1 : wc.cell? ⟨gb190, 1, none⟩ = some (.int .i64 a2_1) := (blk_cell BK190.out 1).trans rfl
       have hcz108_2 : wc.cell? ⟨gb190, 2, none⟩ = some (.int .i64 a2_2) := (blk_cell BK190.out 2).trans rfl
       have hcz108_3 : wc.cell? ⟨gb190, 3, none⟩ = some (.bool a2_3) := (blk_cell BK190.out 3).trans rfl
       have hcz108_4 : wc.cell? ⟨gb190, 4, none⟩ = some (.int .i64 a2_4) := (blk_cell BK190.out 4).trans rfl
       have hfz108_0 := blk_frozen BK190.out 0
       have hfz108_1 := blk_frozen BK190.out 1
       have hfz108_2 := blk_frozen BK190.out 2
       have hfz108_3 := blk_frozen BK190.out 3
       have hfz108_4 := blk_frozen BK190.out 4
       go_upto_region 11 with (first | ((with_reducible refine gate_callee (f := 40) rfl ?_); refine goesL_ (some 26) rfl rfl Try.func40 (by kernel_rfl) rfl #[.agg #[.int .i64 a1_0, .int .i64 a1_1], .agg #[.int .i64 a2_0, .int .i64 a2_1]] rfl (by first | rfl | (simp only [List.map_toArray, List.map_cons, List.map_nil] <;> rfl)) ?_; (with_reducible refine (foolscapref5_Order.calls a1_0 a1_1 a2_0 a2_1 t194 t195 t196 t197 _ A26.out).mono ?_); rintro e w109 ⟨rfl, hb⟩; refine ⟨_, rfl, ?_⟩; have n0_ := Aside0.mk (blk_below (pk BK189.out) hb); have n1_ := Aside0.mk (blk_below (pk BK190.out) hb); have n2_ := Aside0.mk (blk_below (pk BK191.out) hb); have n3_ := Aside0.mk (below_step (by repeat with_reducible first | exact HB.out | apply ba | apply bn | apply bd | refine bset ?_ (by assumption)) hb); clear BK189; clear BK190; clear BK191; clear HB; have BK189 := n0_; have BK190 := n1_; have BK191 := n2_; have HB := n3_; clear n0_ n1_ n2_ n3_; (try clear hb); (try clear hb2); (try clear hk); (try clear hi)) | ((with_reducible refine gate_dst (N := 8) rfl ?_); refine box_event ?hg (N := 8) ?hd (cs := #[.int .i64 0, .int .i64 0]) (t := 28) ?hr ?_; (case hd => rfl); (case hg => rfl); (case hr => first | (go_simp; done) | (go_simp; rfl)); intro gb198 hg w110 hbox hb; have n0_ := Aside0.mk (blk_below (pk BK189.out) hb); have n1_ := Aside0.mk (blk_below (pk BK190.out) hb); have n2_ := Aside0.mk (blk_below (pk BK191.out) hb); have n3_ := Aside0.mk (below_step (by repeat with_reducible first | exact HB.out | apply ba | apply bn | apply bd | refine bset ?_ (by assumption)) hb); have n4_ := Aside0.mk (hbox); have n5_ := Aside0.mk ((by rw [hg]; exact (below_size (by repeat with_reducible first | exact HB.out | apply ba | apply bn | apply bd | refine bset ?_ (by assumption))) : w.heap.size ≤ gb198)); have n6_ := n5_; have n7_ := Aside0.mk ((by rw [hg]; exact Nat.ne_of_lt (blk_lt (pk BK189.out)) : gb189 ≠ gb198)); have n8_ := Aside0.mk ((by rw [hg]; exact Nat.ne_of_gt (blk_lt (pk BK189.out)) : gb198 ≠ gb189)); have n9_ := Aside0.mk ((by rw [hg]; exact Nat.ne_of_lt (blk_lt (pk BK190.out)) : gb190 ≠ gb198)); have n10_ := Aside0.mk ((by rw [hg]; exact Nat.ne_of_gt (blk_lt (pk BK190.out)) : gb198 ≠ gb190)); have n11_ := Aside0.mk ((by rw [hg]; exact Nat.ne_of_lt (blk_lt (pk BK191.out)) : gb191 ≠ gb198)); have n12_ := Aside0.mk ((by rw [hg]; exact Nat.ne_of_gt (blk_lt (pk BK191.out)) : gb198 ≠ gb191)); clear BK189; clear BK190; clear BK191; clear HB; have BK189 := n0_; have BK190 := n1_; have BK191 := n2_; have HB := n3_; have BK198 := n4_; have GW198 := n5_; have GE198 := n6_; have NB189_198 := n7_; have NB198_189 := n8_; have NB190_198 := n9_; have NB198_190 := n10_; have NB191_198 := n11_; have NB198_191 := n12_; clear n0_ n1_ n2_ n3_ n4_ n5_ n6_ n7_ n8_ n9_ n10_ n11_ n12_; clear hb hbox hg) | ((with_reducible refine gate_dst (N := 9) rfl ?_); refine box_event ?hg (N := 9) ?hd (cs := #[.int .i64 0, .int .i64 0]) (t := 28) ?hr ?_; (case hd => rfl); (case hg => rfl); (case hr => first | (go_simp; done) | (go_simp; rfl)); intro gb199 hg w111 hbox hb; have n0_ := Aside0.mk (blk_below (pk BK189.out) hb); have n1_ := Aside0.mk (blk_below (pk BK190.out) hb); have n2_ := Aside0.mk (blk_below (pk BK191.out) hb); have n3_ := Aside0.mk (blk_below (pk BK198.out) hb); have n4_ := Aside0.mk (below_step (by repeat with_reducible first | exact HB.out | apply ba | apply bn | apply bd | refine bset ?_ (by assumption)) hb); have n5_ := Aside0.mk (hbox); have n6_ := Aside0.mk ((by rw [hg]; exact (below_size (by repeat with_reducible first | exact HB.out | apply ba | apply bn | apply bd | refine bset ?_ (by assumption))) : w.heap.size ≤ gb199)); have n7_ := n6_; have n8_ := Aside0.mk ((by rw [hg]; exact Nat.ne_of_lt (blk_lt (pk BK189.out)) : gb189 ≠ gb199)); have n9_ := Aside0.mk ((by rw [hg]; exact Nat.ne_of_gt (blk_lt (pk BK189.out)) : gb199 ≠ gb189)); have n10_ := Aside0.mk ((by rw [hg]; exact Nat.ne_of_lt (blk_lt (pk BK190.out)) : gb190 ≠ gb199)); have n11_ := Aside0.mk ((by rw [hg]; exact Nat.ne_of_gt (blk_lt (pk BK190.out)) : gb199 ≠ gb190)); have n12_ := Aside0.mk ((by rw [hg]; exact Nat.ne_of_lt (blk_lt (pk BK191.out)) : gb191 ≠ gb199)); have n13_ := Aside0.mk ((by rw [hg]; exact Nat.ne_of_gt (blk_lt (pk BK191.out)) : gb199 ≠ gb191)); have n14_ := Aside0.mk ((by rw [hg]; exact Nat.ne_of_lt (blk_lt (pk BK198.out)) : gb198 ≠ gb199)); have n15_ := Aside0.mk ((by rw [hg]; exact Nat.ne_of_gt (blk_lt (pk BK198.out)) : gb199 ≠ gb198)); clear BK189; clear BK190; clear BK191; clear BK198; clear HB; have BK189 := n0_; have BK190 := n1_; have BK191 := n2_; have BK198 := n3_; have HB := n4_; have BK199 := n5_; have GW199 := n6_; have GE199 := n7_; have NB189_199 := n8_; have NB199_189 := n9_; have NB190_199 := n10_; have NB199_190 := n11_; have NB191_199 := n12_; have NB199_191 := n13_; have NB198_199 := n14_; have NB199_198 := n15_; clear n0_ n1_ n2_ n3_ n4_ n5_ n6_ n7_ n8_ n9_ n10_ n11_ n12_ n13_ n14_ n15_; clear hb hbox hg; have hnb112 := NB198_189.out; have hnc112 := NB189_198.out; have hnb113 := NB198_190.out; have hnc113 := NB190_198.out; have hnb114 := NB198_191.out; have hnc114 := NB191_198.out; have hnb115 := NB198_199.out; have hnc115 := NB199_198.out; have hcz116_0 : w111.cell? ⟨gb198, 0, none⟩ = some (.int .i64 0) := (blk_cell BK198.out 0).trans rfl; have hcz116_1 : w111.cell? ⟨gb198, 1, none⟩ = some (.int .i64 0) := (blk_cell BK198.out 1).trans rfl; have hfz116_0 := blk_frozen BK198.out 0; have hfz116_1 := blk_frozen BK198.out 1; have hnb117 := NB199_189.out; have hnc117 := NB189_199.out; have hnb118 := NB199_190.out; have hnc118 := NB190_199.out; have hnb119 := NB199_191.out; have hnc119 := NB191_199.out; have hcz120_0 : w111.cell? ⟨gb199, 0, none⟩ = some (.int .i64 0) := (blk_cell BK199.out 0).trans rfl; have hcz120_1 : w111.cell? ⟨gb199, 1, none⟩ = some (.int .i64 0) := (blk_cell BK199.out 1).trans rfl; have hfz120_0 := blk_frozen BK199.out 0; have hfz120_1 := blk_frozen BK199.out 1; have hcz121_0 : w111.cell? ⟨gb190, 0, none⟩ = some (.int .i64 a2_0) := (blk_cell BK190.out 0).trans rfl; have hcz121_1 : w111.cell? ⟨gb190, 1, none⟩ = some (.int .i64 a2_1) := (blk_cell BK190.out 1).trans rfl; have hcz121_2 : w111.cell? ⟨gb190, 2, none⟩ = some (.int .i64 a2_2) := (blk_cell BK190.out 2).trans rfl; have hcz121_3 : w111.cell? ⟨gb190, 3, none⟩ = some (.bool a2_3) := (blk_cell BK190.out 3).trans rfl; have hcz121_4 : w111.cell? ⟨gb190, 4, none⟩ = some (.int .i64 a2_4) := (blk_cell BK190.out 4).trans rfl; have hfz121_0 := blk_frozen BK190.out 0; have hfz121_1 := blk_frozen BK190.out 1; have hfz121_2 := blk_frozen BK190.out 2; have hfz121_3 := blk_frozen BK190.out 3; have hfz121_4 := blk_frozen BK190.out 4))
       (try simp only [Act.put, List.setIfInBounds_toArray, List.set_cons_zero, List.set_cons_succ])
       go_cut [63] (fun v63 wc => ∃ (kq : Nat) (x63_102 : Bool), v63 = .bool x63_102 ∧ Aside0 (foolscapref25_Of.j1 kq l0 x63_102 t194 t195 t196 t197 = some (r1, r2, r3, r4, r5, r6)) ∧ Aside0 (kq ≤ kj3) ∧ Aside0 (wc.heap[gb189]? = some (.cells #[.int .i64 a1_0, .int .i64 a1_1] 28 (0, 0))) ∧ Aside0 (wc.heap[gb190]? = some (.cells #[.int .i64 a2_0, .int .i64 a2_1, .int .i64 a2_2, .bool a2_3, .int .i64 a2_4] 38 (0, 0))) ∧ Aside0 (wc.heap[gb191]? = some (.cells #[.int .i64 0, .int .i64 0, .int .i64 0, .int .i64 0, .int .i64 0] 43 (0, 0))) ∧ Aside0 (wc.heap[gb198]? = some (.cells #[.int .i64 t194, .int .i64 t195] 28 (0, 0))) ∧ Aside0 (wc.heap[gb199]? = some (.cells #[.int .i64 t196, .int .i64 t197] 28 (0, 0))) ∧ Aside0 (Below w.heap.size w wc))
       case first =>
        have H := HC103.out
        clear HC103
        by_cases c122 : t196 > t194
        ·rw [if_pos c122] at H
         have c122b0 : decide (t194 < t196) = true := decide_eq_true c122
         clear c122
         (first | rw [c122b0] | (simp only [i64_w, i32_w]; rw [c122b0]) | skip)
         have H' := Aside0.mk H
         clear H
         have hnb123 := NB199_189.out
         have hnc123 := NB189_199.out
         have hnb124 := NB199_190.out
         have hnc124 := NB190_199.out
         have hnb125 := NB199_191.out
         have hnc125 := NB191_199.out
         have hnb126 := NB199_198.out
         have hnc126 := NB198_199.out
         have hcz127_0 : w111.cell? ⟨gb199, 0, none⟩ = some (.int .i64 0) := (blk_cell BK199.out 0).trans rfl
         have hcz127_1 : w111.cell? ⟨gb199, 1, none⟩ = some (.int .i64 0) := (blk_cell BK199.out 1).trans rfl
         have hfz127_0 := blk_frozen BK199.out 0
         have hfz127_1 := blk_frozen BK199.out 1
         have hnb128 := NB198_189.out
         have hnc128 := NB189_198.out
         have hnb129 := NB198_190.out
         have hnc129 := NB190_198.out
         have hnb130 := NB198_191.out
         have hnc130 := NB191_198.out
         have hcz131_0 : w111.cell? ⟨gb198, 0, none⟩ = some (.int .i64 0) := (blk_cell BK198.out 0).trans rfl
         have hcz131_1 : w111.cell? ⟨gb198, 1, none⟩ = some (.int .i64 0) := (blk_cell BK198.out 1).trans rfl
         have hfz131_0 := blk_frozen BK198.out 0
         have hfz131_1 := blk_frozen BK198.out 1
         go_wp2
         go_meet
         case rel => exact ⟨_, ((t197 == 0)), (by first | rfl | (simp; done) | (simp [*]; done)), H', ⟨by have := HJ3.out; first | omega | exact Nat.le_refl _⟩, ⟨by refine pk ?_; refine blk_far ?_ NB189_199.out _; refine pk ?_; refine blk_far ?_ NB189_199.out _; refine pk ?_; refine blk_far ?_ NB189_198.out _; refine pk ?_; refine blk_far ?_ NB189_198.out _; exact pk BK189.out⟩, ⟨by refine pk ?_; refine blk_far ?_ NB190_199.out _; refine pk ?_; refine blk_far ?_ NB190_199.out _; refine pk ?_; refine blk_far ?_ NB190_198.out _; refine pk ?_; refine blk_far ?_ NB190_198.out _; exact pk BK190.out⟩, ⟨by refine pk ?_; refine blk_far ?_ NB191_199.out _; refine pk ?_; refine blk_far ?_ NB191_199.out _; refine pk ?_; refine blk_far ?_ NB191_198.out _; refine pk ?_; refine blk_far ?_ NB191_198.out _; exact pk BK191.out⟩, ⟨by refine pk ?_; refine blk_far ?_ NB198_199.out _; refine pk ?_; refine blk_far ?_ NB198_199.out _; refine pk ?_; refine blk_put (cs := #[.int .i64 t194, .int .i64 0]) ?_ 1 _ rfl; refine pk ?_; refine blk_put (cs := #[.int .i64 0, .int .i64 0]) ?_ 0 _ rfl; exact pk BK198.out⟩, ⟨by refine pk ?_; refine blk_put (cs := #[.int .i64 t196, .int .i64 0]) ?_ 1 _ rfl; refine pk ?_; refine blk_put (cs := #[.int .i64 0, .int .i64 0]) ?_ 0 _ rfl; refine pk ?_; refine blk_far ?_ NB199_198.out _; refine pk ?_; refine blk_far ?_ NB199_198.out _; exact pk BK199.out⟩, ⟨by repeat with_reducible first | exact HB.out | apply ba | apply bn | apply bd | refine bset ?_ (by assumption)⟩⟩
        ·rw [if_neg c122] at H
         have c122b0 : decide (t194 < t196) = false := decide_eq_false c122
         clear c122
         (first | rw [c122b0] | (simp only [i64_w, i32_w]; rw [c122b0]) | skip)
         have H' := Aside0.mk H
         clear H
         have hnb132 := NB199_189.out
         have hnc132 := NB189_199.out
         have hnb133 := NB199_190.out
         have hnc133 := NB190_199.out
         have hnb134 := NB199_191.out
         have hnc134 := NB191_199.out
         have hnb135 := NB199_198.out
         have hnc135 := NB198_199.out
         have hcz136_0 : w111.cell? ⟨gb199, 0, none⟩ = some (.int .i64 0) := (blk_cell BK199.out 0).trans rfl
         have hcz136_1 : w111.cell? ⟨gb199, 1, none⟩ = some (.int .i64 0) := (blk_cell BK199.out 1).trans rfl
         have hfz136_0 := blk_frozen BK199.out 0
         have hfz136_1 := blk_frozen BK199.out 1
         have hnb137 := NB198_189.out
         have hnc137 := NB189_198.out
         have hnb138 := NB198_190.out
         have hnc138 := NB190_198.out
         have hnb139 := NB198_191.out
         have hnc139 := NB191_198.out
         have hcz140_0 : w111.cell? ⟨gb198, 0, none⟩ = some (.int .i64 0) := (blk_cell BK198.out 0).trans rfl
         have hcz140_1 : w111.cell? ⟨gb198, 1, none⟩ = some (.int .i64 0) := (blk_cell BK198.out 1).trans rfl
         have hfz140_0 := blk_frozen BK198.out 0
         have hfz140_1 := blk_frozen BK198.out 1
         go_wp2
         go_meet
         case rel => exact ⟨_, (false), (by first | rfl | (simp; done) | (simp [*]; done)), H', ⟨by have := HJ3.out; first | omega | exact Nat.le_refl _⟩, ⟨by refine pk ?_; refine blk_far ?_ NB189_199.out _; refine pk ?_; refine blk_far ?_ NB189_199.out _; refine pk ?_; refine blk_far ?_ NB189_198.out _; refine pk ?_; refine blk_far ?_ NB189_198.out _; exact pk BK189.out⟩, ⟨by refine pk ?_; refine blk_far ?_ NB190_199.out _; refine pk ?_; refine blk_far ?_ NB190_199.out _; refine pk ?_; refine blk_far ?_ NB190_198.out _; refine pk ?_; refine blk_far ?_ NB190_198.out _; exact pk BK190.out⟩, ⟨by refine pk ?_; refine blk_far ?_ NB191_199.out _; refine pk ?_; refine blk_far ?_ NB191_199.out _; refine pk ?_; refine blk_far ?_ NB191_198.out _; refine pk ?_; refine blk_far ?_ NB191_198.out _; exact pk BK191.out⟩, ⟨by refine pk ?_; refine blk_far ?_ NB198_199.out _; refine pk ?_; refine blk_far ?_ NB198_199.out _; refine pk ?_; refine blk_put (cs := #[.int .i64 t194, .int .i64 0]) ?_ 1 _ rfl; refine pk ?_; refine blk_put (cs := #[.int .i64 0, .int .i64 0]) ?_ 0 _ rfl; exact pk BK198.out⟩, ⟨by refine pk ?_; refine blk_put (cs := #[.int .i64 t196, .int .i64 0]) ?_ 1 _ rfl; refine pk ?_; refine blk_put (cs := #[.int .i64 0, .int .i64 0]) ?_ 0 _ rfl; refine pk ?_; refine blk_far ?_ NB199_198.out _; refine pk ?_; refine blk_far ?_ NB199_198.out _; exact pk BK199.out⟩, ⟨by repeat with_reducible first | exact HB.out | apply ba | apply bn | apply bd | refine bset ?_ (by assumption)⟩⟩
       case rest =>
        clear HC103
        try clear c1
        try clear c2
        try clear p2
        try clear q2
        try clear hx2
        try clear c3
        try clear c4
        try clear c5
        try clear c6
        try clear p6
        try clear c7
        try clear c8
        try clear c9
        try clear c10
        try clear c11
        try clear c12
        try clear c13
        try clear p20
        try clear q20
        try clear hx20
        try clear c22
        try clear c23
        try clear c24
        try clear c27
        try clear c27b0
        try clear c27b1
        try clear c29
        try clear c30
        try clear c32
        try clear c37
        try clear c38
        try clear c39
        try clear c40
        try clear c41
        try clear c42
        try clear c43
        try clear c44
        try clear c49
        try clear c49b0
        try clear c49b1
        try clear c50
        try clear c50b0
        try clear c51
        try clear c51b0
        try clear c53
        try clear c53b0
        try clear c53b1
        try clear c53b2
        try clear c54
        try clear c55
        try clear c57
        try clear c62
        try clear c63
        try clear c64
        try clear p64
        try clear c65
        try clear c67
        try clear c68
        try clear c69
        try clear c78
        try clear c79
        try clear c81
        try clear c86
        try clear c87
        try clear c88
        try clear c89
        try clear c91
        try clear c92
        try clear c93
        try clear c102
        try clear c102b0
        try clear c102b1
        try clear c104
        try clear c105
        try clear c107
        try clear c112
        try clear c113
        try clear c114
        try clear c115
        try clear c117
        try clear c118
        try clear c119
        try clear c122
        try clear c122b0
        try clear c123
        try clear c124
        try clear c125
        try clear c126
        try clear c128
        try clear c129
        try clear c130
        try clear c132
        try clear c133
        try clear c134
        try clear c135
        try clear c137
        try clear c138
        try clear c139
        try clear hcz100_0
        try clear hcz100_1
        try clear hcz101_0
        try clear hcz101_1
        try clear hcz101_2
        try clear hcz101_3
        try clear hcz101_4
        try clear hcz106_0
        try clear hcz106_1
        try clear hcz108_0
        try clear hcz108_1
        try clear hcz108_2
        try clear hcz108_3
        try clear hcz108_4
        try clear hcz116_0
        try clear hcz116_1
        try clear hcz120_0
        try clear hcz120_1
        try clear hcz121_0
        try clear hcz121_1
        try clear hcz121_2
        try clear hcz121_3
        try clear hcz121_4
        try clear hcz127_0
        try clear hcz127_1
        try clear hcz131_0
        try clear hcz131_1
        try clear hcz136_0
        try clear hcz136_1
        try clear hcz140_0
        try clear hcz140_1
        try clear hcz25_0
        try clear hcz25_1
        try clear hcz25_2
        try clear hcz25_3
        try clear hcz25_4
        try clear hcz31_0
        try clear hcz31_1
        try clear hcz33_0
        try clear hcz33_1
        try clear hcz33_2
        try clear hcz33_3
        try clear hcz33_4
        try clear hcz41_0
        try clear hcz41_1
        try clear hcz45_0
        try clear hcz45_1
        try clear hcz46_0
        try clear hcz46_1
        try clear hcz46_2
        try clear hcz46_3
        try clear hcz46_4
        try clear hcz48_0
        try clear hcz48_1
        try clear hcz48_2
        try clear hcz48_3
        try clear hcz48_4
        try clear hcz56_0
        try clear hcz56_1
        try clear hcz58_0
        try clear hcz58_1
        try clear hcz58_2
        try clear hcz58_3
        try clear hcz58_4
        try clear hcz66_0
        try clear hcz66_1
        try clear hcz70_0
        try clear hcz70_1
        try clear hcz71_0
        try clear hcz71_1
        try clear hcz71_2
        try clear hcz71_3
        try clear hcz71_4
        try clear hcz75_0
        try clear hcz75_1
        try clear hcz76_0
        try clear hcz76_1
        try clear hcz77_0
        try clear hcz77_1
        try clear hcz77_2
        try clear hcz77_3
        try clear hcz77_4
        try clear hcz80_0
        try clear hcz80_1
        try clear hcz82_0
        try clear hcz82_1
        try clear hcz82_2
        try clear hcz82_3
        try clear hcz82_4
        try clear hcz90_0
        try clear hcz90_1
        try clear hcz94_0
        try clear hcz94_1
        try clear hcz95_0
        try clear hcz95_1
        try clear hcz95_2
        try clear hcz95_3
        try clear hcz95_4
        try clear hcz99_0
        try clear hcz99_1
        try clear hfz100_0
        try clear hfz100_1
        try clear hfz101_0
        try clear hfz101_1
        try clear hfz101_2
        try clear hfz101_3
        try clear hfz101_4
        try clear hfz106_0
        try clear hfz106_1
        try clear hfz108_0
        try clear hfz108_1
        try clear hfz108_2
        try clear hfz108_3
        try clear hfz108_4
        try clear hfz116_0
        try clear hfz116_1
        try clear hfz120_0
        try clear hfz120_1
        try clear hfz121_0
        try clear hfz121_1
        try clear hfz121_2
        try clear hfz121_3
        try clear hfz121_4
        try clear hfz127_0
        try clear hfz127_1
        try clear hfz131_0
        try clear hfz131_1
        try clear hfz136_0
        try clear hfz136_1
        try clear hfz140_0
        try clear hfz140_1
        try clear hfz25_0
        try clear hfz25_1
        try clear hfz25_2
        try clear hfz25_3
        try clear hfz25_4
        try clear hfz31_0
        try clear hfz31_1
        try clear hfz33_0
        try clear hfz33_1
        try clear hfz33_2
        try clear hfz33_3
        try clear hfz33_4
        try clear hfz41_0
        try clear hfz41_1
        try clear hfz45_0
        try clear hfz45_1
        try clear hfz46_0
        try clear hfz46_1
        try clear hfz46_2
        try clear hfz46_3
        try clear hfz46_4
        try clear hfz48_0
        try clear hfz48_1
        try clear hfz48_2
        try clear hfz48_3
        try clear hfz48_4
        try clear hfz56_0
        try clear hfz56_1
        try clear hfz58_0
        try clear hfz58_1
        try clear hfz58_2
        try clear hfz58_3
        try clear hfz58_4
        try clear hfz66_0
        try clear hfz66_1
        try clear hfz70_0
        try clear hfz70_1
        try clear hfz71_0
        try clear hfz71_1
        try clear hfz71_2
        try clear hfz71_3
        try clear hfz71_4
        try clear hfz75_0
        try clear hfz75_1
        try clear hfz76_0
        try clear hfz76_1
        try clear hfz77_0
        try clear hfz77_1
        try clear hfz77_2
        try clear hfz77_3
        try clear hfz77_4
        try clear hfz80_0
        try clear hfz80_1
        try clear hfz82_0
        try clear hfz82_1
        try clear hfz82_2
        try clear hfz82_3
        try clear hfz82_4
        try clear hfz90_0
        try clear hfz90_1
        try clear hfz94_0
        try clear hfz94_1
        try clear hfz95_0
        try clear hfz95_1
        try clear hfz95_2
        try clear hfz95_3
        try clear hfz95_4
        try clear hfz99_0
        try clear hfz99_1
        try clear hx205_0
        try clear p205
        try clear q205
        obtain ⟨kq, x63_102, rfl, HA, HJ102, BK189, BK190, BK191, BK198, BK199, HB⟩ := hcut
        cases kq with
        | zero => exact absurd HA.out (by simp [foolscapref25_Of.j1])
        | succ kj102 =>
         have H := HA.out
         clear HA
         simp only [foolscapref25_Of.j1] at H
         by_cases c141 : x63_102 = true
         ·subst c141
          have H1 : (if 0 ≤ (wrap64 (t196 - 1)) then (if (wrap64 (t196 - 1)) < (l0.length : Int) then (if 0 ≤ t194 then (if t194 < (l0.length : Int) then ((foolscapref5_First.f kj102 (rdOf ByteArray.empty l0 t194)).bind fun t208 => (if t195 ≤ t208 then ((foolscapref25_whole.f t194 (wrap64 (t196 - 1))).bind fun bt209 => (some (bt209.1, bt209.2.1, bt209.2.2.1, bt209.2.2.2.1, bt209.2.2.2.2, true))) else (if (t194 == (wrap64 (t196 - 1)) && (t195 == ((rdOf ByteArray.empty l0 (wrap64 (t196 - 1))).size : Int))) = true then (some (0, 0, 0, 0, 0, false)) else (some (0, t194, t195, wrap64 (t196 - 1), ((rdOf ByteArray.empty l0 (wrap64 (t196 - 1))).size : Int), true))))) else (none)) else (none)) else (none)) else (none)) = some (r1, r2, r3, r4, r5, r6) := by rw [if_pos rfl] at H; exact H
          clear H
          have H := H1
          clear H1
          obtain ⟨ji142, hji142⟩ : ∃ j_ : Int, (wrap64 (t196 - 1)) = j_ := ⟨_, rfl⟩
          replace H : (if 0 ≤ (ji142) then (if (ji142) < (l0.length : Int) then (if 0 ≤ t194 then (if t194 < (l0.length : Int) then ((foolscapref5_First.f kj102 (rdOf ByteArray.empty l0 t194)).bind fun t208 => (if t195 ≤ t208 then ((foolscapref25_whole.f t194 (ji142)).bind fun bt209 => (some (bt209.1, bt209.2.1, bt209.2.2.1, bt209.2.2.2.1, bt209.2.2.2.2, true))) else (if (t194 == (ji142) && (t195 == ((rdOf ByteArray.empty l0 (ji142)).size : Int))) = true then (some (0, 0, 0, 0, 0, false)) else (some (0, t194, t195, ji142, ((rdOf ByteArray.empty l0 (ji142)).size : Int), true))))) else (none)) else (none)) else (none)) else (none)) = some (r1, r2, r3, r4, r5, r6) := by first | (rw [hji142] at H; exact H) | (simp only [hji142] at H ⊢; exact H)
          have hji142w : (IntKind.i64.wrap (t196 - 1)) = ji142 := (i64_w _).trans hji142
          by_cases c143 : 0 ≤ (ji142)
          ·rw [if_pos c143] at H
           have c143b0 : decide (0 ≤ (ji142)) = true := decide_eq_true c143
           clear c143
           by_cases c144 : (ji142) < (l0.length : Int)
           ·rw [if_pos c144] at H
            have c144b0 : decide ((ji142) < (l0.length : Int)) = true := decide_eq_true c144
            clear c144
            by_cases c145 : 0 ≤ t194
            ·rw [if_pos c145] at H
             have c145b0 : decide (0 ≤ t194) = true := decide_eq_true c145
             clear c145
             by_cases c146 : t194 < (l0.length : Int)
             ·rw [if_pos c146] at H
              have c146b0 : decide (t194 < (l0.length : Int)) = true := decide_eq_true c146
              clear c146
              replace H := Option.bind_eq_some_iff.mp H
              obtain ⟨t208, A1470, H⟩ := H
              replace H : (if t195 ≤ t208 then ((foolscapref25_whole.f t194 (ji142)).bind fun bt209 => (some (bt209.1, bt209.2.1, bt209.2.2.1, bt209.2.2.2.1, bt209.2.2.2.2, true))) else (if (t194 == (ji142) && (t195 == ((rdOf ByteArray.empty l0 (ji142)).size : Int))) = true then (some (0, 0, 0, 0, 0, false)) else (some (0, t194, t195, ji142, ((rdOf ByteArray.empty l0 (ji142)).size : Int), true)))) = some (r1, r2, r3, r4, r5, r6) := H
              have A147 := Aside0.mk A1470
              clear A1470
              by_cases c148 : t195 ≤ t208
              ·rw [if_pos c148] at H
               have c148b0 : decide (t195 ≤ t208) = true := decide_eq_true c148
               clear c148
               replace H := Option.bind_eq_some_iff.mp H
               obtain ⟨⟨t209, t210, t211, t212, t213⟩, A1490, H⟩ := H
               replace H : (some (t209, t210, t211, t212, t213, true)) = some (r1, r2, r3, r4, r5, r6) := H
               have A149 := Aside0.mk A1490
               clear A1490
               simp only [Option.some.injEq, Prod.mk.injEq] at H
               obtain ⟨rfl, rfl, rfl, rfl, rfl, rfl⟩ := H
               try go_wp2
               have n0_ := Aside0.mk (blk_drew BK189.out)
               have n1_ := Aside0.mk (blk_drew BK190.out)
               have n2_ := Aside0.mk (blk_drew BK191.out)
               have n3_ := Aside0.mk (blk_drew BK198.out)
               have n4_ := Aside0.mk (blk_drew BK199.out)
               have n5_ := Aside0.mk (below_drew1 HB.out)
               clear BK189
               clear BK190
               clear BK191
               clear BK198
               clear BK199
               clear HB
               have BK189 := n0_
               have BK190 := n1_
               have BK191 := n2_
               have BK198 := n3_
               have BK199 := n4_
               have HB := n5_
               clear n0_ n1_ n2_ n3_ n4_ n5_
               have p206 : 0 ≤ ((ji142) : Int) := of_decide_eq_true (by first | (with_reducible assumption) | assumption)
               have q206 : (ji142) < (l0.length : Int) := of_decide_eq_true (by first | (with_reducible assumption) | assumption)
               obtain ⟨ad206, e206, hx206_0⟩ := Kd.at_string HR0.out (ji142) p206 q206
               have hw206_0 := hx206_0
               cases e206
               replace hx206_0 := (HB.out.cell (World.block_lt_of_cell? w _ hx206_0)).trans hx206_0
               replace p206 := eq_true p206
               replace q206 := eq_true q206
               refine start_ (n := 12) (S := fun w' => w'.cell? ⟨gb199, 0, none⟩ = some (.int .i64 t196) ∧ w'.cell? ⟨gb199, 1, none⟩ = some (.int .i64 t197) ∧ w'.cell? (ad206.add ((ji142)).toNat) = some (.string (rdOf ByteArray.empty l0 (ji142)))) (ds := [11]) #[false, false, false, false, false, false, false, false, false, false, false, false] (by kernel_rfl) rfl rfl ⟨(blk_cell BK199.out 0).trans rfl, (blk_cell BK199.out 1).trans rfl, ((HB.out.cell (World.block_lt_of_cell? w _ hw206_0)).trans hw206_0)⟩ (fun hHeld => ?_); refine with_tabW foolscapref25_Of.tab12 foolscapref25_Of.bits12 (fun HT_ HW_ => ?_)
               generalize wc.drew = w150 at BK189 BK190 BK191 BK198 BK199 HB hx206_0 hHeld ⊢
               refine pure_ (i := 0) (N := some 64) (v := ?_) (a' := ?_) #[true, false, false, false, false, false, false, false, false, false, false, false] rfl rfl (any_of HT_.out (by kernel_rfl)) (fun _ _ _ h => h) (Or.inl ⟨by rfl, ?_⟩) ?_ ?_
               rotate_left
               ·intro w'
                go_simp
                with_reducible rfl
               rotate_left
               ·simp only [Act.put, List.setIfInBounds_toArray, List.set_cons_zero, List.set_cons_succ, i64_w, i32_w]
                rfl
               refine pure_ (i := 3) (N := some 67) (v := ?_) (a' := ?_) #[true, false, false, true, false, false, false, false, false, false, false, false] rfl rfl (any_of HT_.out (by kernel_rfl)) (fun _ _ _ h => h) (Or.inl ⟨by rfl, ?_⟩) ?_ ?_
               rotate_left
               ·intro w'
                go_simp
                with_reducible rfl
               rotate_left
               ·simp only [Act.put, List.setIfInBounds_toArray, List.set_cons_zero, List.set_cons_succ, i64_w, i32_w]
                rfl
               refine pure_ (i := 4) (N := some 68) (v := ?_) (a' := ?_) #[true, false, false, true, true, false, false, false, false, false, false, false] rfl rfl (any_of HT_.out (by kernel_rfl)) (fun _ _ _ h => h) (Or.inl ⟨by rfl, ?_⟩) ?_ ?_
               rotate_left
               ·intro w'
                go_simp
                with_reducible rfl
               rotate_left
               ·simp only [Act.put, List.setIfInBounds_toArray, List.set_cons_zero, List.set_cons_succ, i64_w, i32_w]
                rfl
               refine take_ (i := 1) (N := some 65) (v := ?_) (a' := ?_) #[true, true, false, true, true, false, false, false, false, false, false, false] rfl rfl (take_ofW HT_.out HW_.out (by kernel_rfl)) (fun _ _ _ h => h) (Or.inl ⟨by rfl, ?_⟩) hHeld ?_ ?_
               rotate_left
               ·rintro w' ⟨s0, s1, s2⟩
                go_simp
                with_reducible rfl
               rotate_left
               ·simp only [Act.put, List.setIfInBounds_toArray, List.set_cons_zero, List.set_cons_succ, i64_w, i32_w]
                rfl
               refine pure_ (i := 2) (N := some 66) (v := ?_) (a' := ?_) #[true, true, true, true, true, false, false, false, false, false, false, false] rfl rfl (any_of HT_.out (by kernel_rfl)) (fun _ _ _ h => h) (Or.inl ⟨by rfl, ?_⟩) ?_ ?_
               rotate_left
               ·intro w'
                go_simp
                with_reducible rfl
               rotate_left
               ·simp only [Act.put, List.setIfInBounds_toArray, List.set_cons_zero, List.set_cons_succ, i64_w, i32_w]
                rfl
               refine take_ (i := 5) (N := some 69) (v := ?_) (a' := ?_) #[true, true, true, true, true, true, false, false, false, false, false, false] rfl rfl (take_ofW HT_.out HW_.out (by kernel_rfl)) (fun _ _ _ h => h) (Or.inl ⟨by rfl, ?_⟩) hHeld ?_ ?_
               rotate_left
               ·rintro w' ⟨s0, s1, s2⟩
                go_simp
                with_reducible rfl
               rotate_left
               ·simp only [Act.put, List.setIfInBounds_toArray, List.set_cons_zero, List.set_cons_succ, i64_w, i32_w]
                rfl
               refine pure_ (i := 6) (N := some 70) (v := ?_) (a' := ?_) #[true, true, true, true, true, true, true, false, false, false, false, false] rfl rfl (any_of HT_.out (by kernel_rfl)) (fun _ _ _ h => h) (Or.inl ⟨by rfl, ?_⟩) ?_ ?_
               rotate_left
               ·intro w'
                go_simp
                with_reducible rfl
               rotate_left
               ·simp only [Act.put, List.setIfInBounds_toArray, List.set_cons_zero, List.set_cons_succ, i64_w, i32_w]
                rfl
               refine pure_ (i := 7) (N := some 71) (v := ?_) (a' := ?_) #[true, true, true, true, true, true, true, true, false, false, false, false] rfl rfl (any_of HT_.out (by kernel_rfl)) (fun _ _ _ h => h) (Or.inl ⟨by rfl, ?_⟩) ?_ ?_
               rotate_left
               ·intro w'
                go_simp
                with_reducible rfl
               rotate_left
               ·simp only [Act.put, List.setIfInBounds_toArray, List.set_cons_zero, List.set_cons_succ, i64_w, i32_w]
                rfl
               refine take_ (i := 8) (N := some 72) (v := ?_) (a' := ?_) #[true, true, true, true, true, true, true, true, true, false, false, false] rfl rfl (take_ofW HT_.out HW_.out (by kernel_rfl)) (fun _ _ _ h => h) (Or.inl ⟨by rfl, ?_⟩) hHeld ?_ ?_
               rotate_left
               ·rintro w' ⟨s0, s1, s2⟩
                go_simp
                with_reducible rfl
               rotate_left
               ·simp only [Act.put, List.setIfInBounds_toArray, List.set_cons_zero, List.set_cons_succ, i64_w, i32_w]
                rfl
               refine pure_ (i := 9) (N := some 73) (v := ?_) (a' := ?_) #[true, true, true, true, true, true, true, true, true, true, false, false] rfl rfl (any_of HT_.out (by kernel_rfl)) (fun _ _ _ h => h) (Or.inl ⟨by rfl, ?_⟩) ?_ ?_
               rotate_left
               ·intro w'
                go_simp
                with_reducible rfl
               rotate_left
               ·simp only [Act.put, List.setIfInBounds_toArray, List.set_cons_zero, List.set_cons_succ, i64_w, i32_w]
                rfl
               refine pure_ (i := 10) (N := some 74) (v := ?_) (a' := ?_) #[true, true, true, true, true, true, true, true, true, true, true, false] rfl rfl (any_of HT_.out (by kernel_rfl)) (fun _ _ _ h => h) (Or.inl ⟨by rfl, ?_⟩) ?_ ?_
               rotate_left
               ·intro w'
                go_simp
                with_reducible rfl
               rotate_left
               ·simp only [Act.put, List.setIfInBounds_toArray, List.set_cons_zero, List.set_cons_succ, i64_w, i32_w]
                rfl
               refine last_ (i := 11) (N := none) #[true, true, true, true, true, true, true, true, true, true, true, true] rfl rfl (one_of HT_.out (by kernel_rfl)) (by decide) (fun K hK => ?_)
               have hs151 : w150.cell? ⟨gb199, 0, none⟩ = some (.int .i64 t196) := (blk_cell BK199.out 0).trans rfl
               have hfs151 := blk_frozen BK199.out 0
               have hns151_0 := NB189_199.out
               have hns151_1 := NB190_199.out
               have hns151_2 := NB191_199.out
               have hns151_3 := NB198_199.out
               have hms151_0 := NB199_189.out
               have hms151_1 := NB199_190.out
               have hms151_2 := NB199_191.out
               have hms151_3 := NB199_198.out
               have hs152 : w150.cell? ⟨gb199, 1, none⟩ = some (.int .i64 t197) := (blk_cell BK199.out 1).trans rfl
               have hfs152 := blk_frozen BK199.out 1
               have hns152_0 := NB189_199.out
               have hns152_1 := NB190_199.out
               have hns152_2 := NB191_199.out
               have hns152_3 := NB198_199.out
               have hms152_0 := NB199_189.out
               have hms152_1 := NB199_190.out
               have hms152_2 := NB199_191.out
               have hms152_3 := NB199_198.out
               refine skip_ (w1 := ?_) (by rfl) rfl ?_ ?_
               rotate_left
               ·go_simp
                rfl
               refine hK.out _ _ ?_
               clear hK K
               refine done_ (done_of HT_.out (by kernel_rfl)) ?_
               try go_wp2
               have n0_ : Aside0 (((w150.setCell ⟨gb199, 0, none⟩ (.int .i64 ji142)).setCell ⟨gb199, 1, none⟩ (.int .i64 ((rdOf ByteArray.empty l0 (ji142)).size : Int))).heap[gb189]? = some (.cells #[.int .i64 a1_0, .int .i64 a1_1] 28 (0, 0))) := ⟨by refine pk ?_; refine blk_far ?_ NB189_199.out _; refine pk ?_; refine blk_far ?_ NB189_199.out _; exact pk BK189.out⟩
               have n1_ : Aside0 (((w150.setCell ⟨gb199, 0, none⟩ (.int .i64 ji142)).setCell ⟨gb199, 1, none⟩ (.int .i64 ((rdOf ByteArray.empty l0 (ji142)).size : Int))).heap[gb190]? = some (.cells #[.int .i64 a2_0, .int .i64 a2_1, .int .i64 a2_2, .bool a2_3, .int .i64 a2_4] 38 (0, 0))) := ⟨by refine pk ?_; refine blk_far ?_ NB190_199.out _; refine pk ?_; refine blk_far ?_ NB190_199.out _; exact pk BK190.out⟩
               have n2_ : Aside0 (((w150.setCell ⟨gb199, 0, none⟩ (.int .i64 ji142)).setCell ⟨gb199, 1, none⟩ (.int .i64 ((rdOf ByteArray.empty l0 (ji142)).size : Int))).heap[gb191]? = some (.cells #[.int .i64 0, .int .i64 0, .int .i64 0, .int .i64 0, .int .i64 0] 43 (0, 0))) := ⟨by refine pk ?_; refine blk_far ?_ NB191_199.out _; refine pk ?_; refine blk_far ?_ NB191_199.out _; exact pk BK191.out⟩
               have n3_ : Aside0 (((w150.setCell ⟨gb199, 0, none⟩ (.int .i64 ji142)).setCell ⟨gb199, 1, none⟩ (.int .i64 ((rdOf ByteArray.empty l0 (ji142)).size : Int))).heap[gb198]? = some (.cells #[.int .i64 t194, .int .i64 t195] 28 (0, 0))) := ⟨by refine pk ?_; refine blk_far ?_ NB198_199.out _; refine pk ?_; refine blk_far ?_ NB198_199.out _; exact pk BK198.out⟩
               have n4_ : Aside0 (((w150.setCell ⟨gb199, 0, none⟩ (.int .i64 ji142)).setCell ⟨gb199, 1, none⟩ (.int .i64 ((rdOf ByteArray.empty l0 (ji142)).size : Int))).heap[gb199]? = some (.cells #[.int .i64 ji142, .int .i64 ((rdOf ByteArray.empty l0 (ji142)).size : Int)] 28 (0, 0))) := ⟨by refine pk ?_; refine blk_put (cs := #[.int .i64 ji142, .int .i64 t197]) ?_ 1 _ rfl; refine pk ?_; refine blk_put (cs := #[.int .i64 t196, .int .i64 t197]) ?_ 0 _ rfl; exact pk BK199.out⟩
               have n5_ : Aside0 (Below w.heap.size w ((w150.setCell ⟨gb199, 0, none⟩ (.int .i64 ji142)).setCell ⟨gb199, 1, none⟩ (.int .i64 ((rdOf ByteArray.empty l0 (ji142)).size : Int)))) := ⟨by repeat with_reducible first | exact HB.out | apply ba | apply bn | apply bd | refine bset ?_ (by assumption)⟩
               (try clear BK189)
               (try clear BK190)
               (try clear BK191)
               (try clear BK198)
               (try clear BK199)
               (try clear HB)
               generalize ((w150.setCell ⟨gb199, 0, none⟩ (.int .i64 ji142)).setCell ⟨gb199, 1, none⟩ (.int .i64 ((rdOf ByteArray.empty l0 (ji142)).size : Int))) = w153 at n0_ n1_ n2_ n3_ n4_ n5_ ⊢
               have BK189 := n0_
               have BK190 := n1_
               have BK191 := n2_
               have BK198 := n3_
               have BK199 := n4_
               have HB := n5_
               clear n0_ n1_ n2_ n3_ n4_ n5_
               have n0_ := Aside0.mk (blk_drew BK189.out)
               have n1_ := Aside0.mk (blk_drew BK190.out)
               have n2_ := Aside0.mk (blk_drew BK191.out)
               have n3_ := Aside0.mk (blk_drew BK198.out)
               have n4_ := Aside0.mk (blk_drew BK199.out)
               have n5_ := Aside0.mk (below_drew1 HB.out)
               clear BK189
               clear BK190
               clear BK191
               clear BK198
               clear BK199
               clear HB
               have BK189 := n0_
               have BK190 := n1_
               have BK191 := n2_
               have BK198 := n3_
               have BK199 := n4_
               have HB := n5_
               clear n0_ n1_ n2_ n3_ n4_ n5_
               have p207 : 0 ≤ (t194 : Int) := of_decide_eq_true (by first | (with_reducible assumption) | assumption)
               have q207 : t194 < (l0.length : Int) := of_decide_eq_true (by first | (with_reducible assumption) | assumption)
               obtain ⟨ad207, e207, hx207_0⟩ := Kd.at_string HR0.out t194 p207 q207
               have hw207_0 := hx207_0
               obtain rfl : ad206 = ad207 := (by injection e207)
               replace hx207_0 := (HB.out.cell (World.block_lt_of_cell? w _ hx207_0)).trans hx207_0
               replace p207 := eq_true p207
               replace q207 := eq_true q207
               refine start_ (n := 9) (S := fun w' => w'.cell? ⟨gb198, 0, none⟩ = some (.int .i64 t194) ∧ w'.cell? ⟨gb198, 1, none⟩ = some (.int .i64 t195) ∧ w'.cell? (ad206.add (t194).toNat) = some (.string (rdOf ByteArray.empty l0 t194))) (ds := []) #[false, false, false, false, false, false, false, false, false] (by kernel_rfl) rfl rfl ⟨(blk_cell BK198.out 0).trans rfl, (blk_cell BK198.out 1).trans rfl, ((HB.out.cell (World.block_lt_of_cell? w _ hw207_0)).trans hw207_0)⟩ (fun hHeld => ?_); refine with_tabW foolscapref25_Of.tab13 foolscapref25_Of.bits13 (fun HT_ HW_ => ?_)
               generalize w153.drew = w154 at BK189 BK190 BK191 BK198 BK199 HB hx207_0 hHeld ⊢
               refine pure_ (i := 0) (N := some 75) (v := ?_) (a' := ?_) #[true, false, false, false, false, false, false, false, false] rfl rfl (any_of HT_.out (by kernel_rfl)) (fun _ _ _ h => h) (Or.inl ⟨by rfl, ?_⟩) ?_ ?_
               rotate_left
               ·intro w'
                go_simp
                with_reducible rfl
               rotate_left
               ·simp only [Act.put, List.setIfInBounds_toArray, List.set_cons_zero, List.set_cons_succ, i64_w, i32_w]
                rfl
               refine pure_ (i := 2) (N := some 77) (v := ?_) (a' := ?_) #[true, false, true, false, false, false, false, false, false] rfl rfl (any_of HT_.out (by kernel_rfl)) (fun _ _ _ h => h) (Or.inl ⟨by rfl, ?_⟩) ?_ ?_
               rotate_left
               ·intro w'
                go_simp
                with_reducible rfl
               rotate_left
               ·simp only [Act.put, List.setIfInBounds_toArray, List.set_cons_zero, List.set_cons_succ, i64_w, i32_w]
                rfl
               refine pure_ (i := 3) (N := some 78) (v := ?_) (a' := ?_) #[true, false, true, true, false, false, false, false, false] rfl rfl (any_of HT_.out (by kernel_rfl)) (fun _ _ _ h => h) (Or.inl ⟨by rfl, ?_⟩) ?_ ?_
               rotate_left
               ·intro w'
                go_simp
                with_reducible rfl
               rotate_left
               ·simp only [Act.put, List.setIfInBounds_toArray, List.set_cons_zero, List.set_cons_succ, i64_w, i32_w]
                rfl
               refine take_ (i := 1) (N := some 76) (v := ?_) (a' := ?_) #[true, true, true, true, false, false, false, false, false] rfl rfl (take_ofW HT_.out HW_.out (by kernel_rfl)) (fun _ _ _ h => h) (Or.inl ⟨by rfl, ?_⟩) hHeld ?_ ?_
               rotate_left
               ·rintro w' ⟨s0, s1, s2⟩
                go_simp
                with_reducible rfl
               rotate_left
               ·simp only [Act.put, List.setIfInBounds_toArray, List.set_cons_zero, List.set_cons_succ, i64_w, i32_w]
                rfl
               refine take_ (i := 4) (N := some 79) (v := ?_) (a' := ?_) #[true, true, true, true, true, false, false, false, false] rfl rfl (take_ofW HT_.out HW_.out (by kernel_rfl)) (fun _ _ _ h => h) (Or.inl ⟨by rfl, ?_⟩) hHeld ?_ ?_
               rotate_left
               ·rintro w' ⟨s0, s1, s2⟩
                go_simp
                with_reducible rfl
               rotate_left
               ·simp only [Act.put, List.setIfInBounds_toArray, List.set_cons_zero, List.set_cons_succ, i64_w, i32_w]
                rfl
               refine pure_ (i := 5) (N := some 80) (v := ?_) (a' := ?_) #[true, true, true, true, true, true, false, false, false] rfl rfl (any_of HT_.out (by kernel_rfl)) (fun _ _ _ h => h) (Or.inl ⟨by rfl, ?_⟩) ?_ ?_
               rotate_left
               ·intro w'
                go_simp
                with_reducible rfl
               rotate_left
               ·simp only [Act.put, List.setIfInBounds_toArray, List.set_cons_zero, List.set_cons_succ, i64_w, i32_w]
                rfl
               refine take_ (i := 6) (N := some 81) (v := ?_) (a' := ?_) #[true, true, true, true, true, true, true, false, false] rfl rfl (take_ofW HT_.out HW_.out (by kernel_rfl)) (fun _ _ _ h => h) (Or.inl ⟨by rfl, ?_⟩) hHeld ?_ ?_
               rotate_left
               ·rintro w' ⟨s0, s1, s2⟩
                go_simp
                with_reducible rfl
               rotate_left
               ·simp only [Act.put, List.setIfInBounds_toArray, List.set_cons_zero, List.set_cons_succ, i64_w, i32_w]
                rfl
               refine one_ (i := 7) (N := some 82) #[true, true, true, true, true, true, true, true, false] rfl rfl (one_of HT_.out (by kernel_rfl)) (by decide) (fun K hK => ?_)
               refine goes_ Try.func16 (by kernel_rfl) rfl #[.string (rdOf ByteArray.empty l0 t194)] (by rfl) rfl rfl (by first | rfl | (simp only [List.map_toArray, List.map_cons, List.map_nil] <;> rfl)) ?_
               with_reducible refine (foolscapref5_First.calls kj102 (rdOf ByteArray.empty l0 t194) t208 _ A147.out).mono ?_
               rintro e w155 ⟨rfl, hb⟩
               refine ⟨_, rfl, ?_⟩
               have n0_ := Aside0.mk (blk_below (pk BK189.out) hb)
               have n1_ := Aside0.mk (blk_below (pk BK190.out) hb)
               have n2_ := Aside0.mk (blk_below (pk BK191.out) hb)
               have n3_ := Aside0.mk (blk_below (pk BK198.out) hb)
               have n4_ := Aside0.mk (blk_below (pk BK199.out) hb)
               have n5_ := Aside0.mk (below_step (by repeat with_reducible first | exact HB.out | apply ba | apply bn | apply bd | refine bset ?_ (by assumption)) hb)
               clear BK189
               clear BK190
               clear BK191
               clear BK198
               clear BK199
               clear HB
               have BK189 := n0_
               have BK190 := n1_
               have BK191 := n2_
               have BK198 := n3_
               have BK199 := n4_
               have HB := n5_
               clear n0_ n1_ n2_ n3_ n4_ n5_
               (try clear hb)
               (try clear hb2)
               (try clear hk)
               (try clear hi)
               refine hK.out _ _ ⟨(blk_cell BK198.out 0).trans rfl, (blk_cell BK198.out 1).trans rfl, ((HB.out.cell (World.block_lt_of_cell? w _ hw207_0)).trans hw207_0)⟩ (fun hHeld => ?_)
               clear hK K
               refine norm_ (a' := ?_) ?_ ?_
               rotate_left
               ·show Act.put _ (some 82) _ = _
                simp only [Act.put, List.setIfInBounds_toArray, List.set_cons_zero, List.set_cons_succ, i64_w, i32_w]
                rfl
               refine pure_ (i := 8) (N := some 83) (v := ?_) (a' := ?_) #[true, true, true, true, true, true, true, true, true] rfl rfl (any_of HT_.out (by kernel_rfl)) (fun _ _ _ h => h) (Or.inl ⟨by rfl, ?_⟩) ?_ ?_
               rotate_left
               ·intro w'
                go_simp
                with_reducible rfl
               rotate_left
               ·simp only [Act.put, List.setIfInBounds_toArray, List.set_cons_zero, List.set_cons_succ, i64_w, i32_w]
                rfl
               refine done_ (done_of HT_.out (by kernel_rfl)) ?_
               have hnb156 := NB198_189.out
               have hnc156 := NB189_198.out
               have hnb157 := NB198_190.out
               have hnc157 := NB190_198.out
               have hnb158 := NB198_191.out
               have hnc158 := NB191_198.out
               have hnb159 := NB198_199.out
               have hnc159 := NB199_198.out
               have hcz160_0 : w155.cell? ⟨gb198, 0, none⟩ = some (.int .i64 t194) := (blk_cell BK198.out 0).trans rfl
               have hcz160_1 : w155.cell? ⟨gb198, 1, none⟩ = some (.int .i64 t195) := (blk_cell BK198.out 1).trans rfl
               have hfz160_0 := blk_frozen BK198.out 0
               have hfz160_1 := blk_frozen BK198.out 1
               have hnb161 := NB199_189.out
               have hnc161 := NB189_199.out
               have hnb162 := NB199_190.out
               have hnc162 := NB190_199.out
               have hnb163 := NB199_191.out
               have hnc163 := NB191_199.out
               have hcz164_0 : w155.cell? ⟨gb199, 0, none⟩ = some (.int .i64 ji142) := (blk_cell BK199.out 0).trans rfl
               have hcz164_1 : w155.cell? ⟨gb199, 1, none⟩ = some (.int .i64 ((rdOf ByteArray.empty l0 (ji142)).size : Int)) := (blk_cell BK199.out 1).trans rfl
               have hfz164_0 := blk_frozen BK199.out 0
               have hfz164_1 := blk_frozen BK199.out 1
               try go_wp2_with (first | ((with_reducible refine gate_callee (f := 41) rfl ?_); refine goesL_ (some 88) rfl rfl Try.func41 (by kernel_rfl) rfl #[.int .i64 t194, .int .i64 ji142] rfl (by (try simp only [List.map_toArray, List.map_cons, List.map_nil]); first | done | (simp only [hji142]; rfl) | rfl | (simp only [List.length_drop, List.length_take]; rfl)) ?_; (with_reducible refine (foolscapref25_whole.calls t194 ji142 t209 t210 t211 t212 t213 _ A149.out).mono ?_); rintro e w165 ⟨rfl, hb⟩; refine ⟨_, rfl, ?_⟩; have n0_ := Aside0.mk (blk_below (pk BK189.out) hb); have n1_ := Aside0.mk (blk_below (pk BK190.out) hb); have n2_ := Aside0.mk (blk_below (pk BK191.out) hb); have n3_ := Aside0.mk (blk_below (pk BK198.out) hb); have n4_ := Aside0.mk (blk_below (pk BK199.out) hb); have n5_ := Aside0.mk (below_step (by repeat with_reducible first | exact HB.out | apply ba | apply bn | apply bd | refine bset ?_ (by assumption)) hb); clear BK189; clear BK190; clear BK191; clear BK198; clear BK199; clear HB; have BK189 := n0_; have BK190 := n1_; have BK191 := n2_; have BK198 := n3_; have BK199 := n4_; have HB := n5_; clear n0_ n1_ n2_ n3_ n4_ n5_; (try clear hb); (try clear hb2); (try clear hk); (try clear hi); have hnb166 := NB191_189.out; have hnc166 := NB189_191.out; have hnb167 := NB191_190.out; have hnc167 := NB190_191.out; have hcz168_0 : w165.cell? ⟨gb191, 0, none⟩ = some (.int .i64 0) := (blk_cell BK191.out 0).trans rfl; have hcz168_1 : w165.cell? ⟨gb191, 1, none⟩ = some (.int .i64 0) := (blk_cell BK191.out 1).trans rfl; have hcz168_2 : w165.cell? ⟨gb191, 2, none⟩ = some (.int .i64 0) := (blk_cell BK191.out 2).trans rfl; have hcz168_3 : w165.cell? ⟨gb191, 3, none⟩ = some (.int .i64 0) := (blk_cell BK191.out 3).trans rfl; have hcz168_4 : w165.cell? ⟨gb191, 4, none⟩ = some (.int .i64 0) := (blk_cell BK191.out 4).trans rfl; have hfz168_0 := blk_frozen BK191.out 0; have hfz168_1 := blk_frozen BK191.out 1; have hfz168_2 := blk_frozen BK191.out 2; have hfz168_3 := blk_frozen BK191.out 3; have hfz168_4 := blk_frozen BK191.out 4))
               refine bodyPost_ret (results_ct rfl _ _ gb191 43 #[.int .i64 t209, .int .i64 t210, .int .i64 t211, .int .i64 t212, .int .i64 t213] (0, 0) _ rfl (by refine pk ?_; refine blk_put (cs := #[.int .i64 t209, .int .i64 t210, .int .i64 t211, .int .i64 t212, .int .i64 0]) ?_ 4 _ rfl; refine pk ?_; refine blk_put (cs := #[.int .i64 t209, .int .i64 t210, .int .i64 t211, .int .i64 0, .int .i64 0]) ?_ 3 _ rfl; refine pk ?_; refine blk_put (cs := #[.int .i64 t209, .int .i64 t210, .int .i64 0, .int .i64 0, .int .i64 0]) ?_ 2 _ rfl; refine pk ?_; refine blk_put (cs := #[.int .i64 t209, .int .i64 0, .int .i64 0, .int .i64 0, .int .i64 0]) ?_ 1 _ rfl; refine pk ?_; refine blk_put (cs := #[.int .i64 0, .int .i64 0, .int .i64 0, .int .i64 0, .int .i64 0]) ?_ 0 _ rfl; exact pk BK191.out) Try.underlying43 rfl (by kernel_rfl)) rfl ?_
               exact ⟨by first | rfl | (simp [errW_none, errW_some] <;> rfl) | (simp only [← hji142]; first | rfl | (simp [errW_none, errW_some] <;> rfl)) | (simp [*, errW_none, errW_some] <;> rfl), by repeat with_reducible first | exact HB.out | apply ba | apply bn | apply bd | refine bset ?_ (by assumption)⟩
              ·rw [if_neg c148] at H
               have c148b0 : decide (t195 ≤ t208) = false := decide_eq_false c148
               clear c148
               by_cases c169 : (t194 == (ji142) && (t195 == ((rdOf ByteArray.empty l0 (ji142)).size : Int))) = true
               ·rw [if_pos c169] at H
                have c169b0 : (t194 == (ji142) && (t195 == ((rdOf ByteArray.empty l0 (ji142)).size : Int))) = true := c169
                (try (have c169b1 : decide (t194 = (ji142) && (t195 == ((rdOf ByteArray.empty l0 (ji142)).size : Int))) = true := by simpa using c169))
                (try (have c169b2 : (t194 == (ji142) && (t195 == ((rdOf ByteArray.empty l0 (ji142)).size : Int))) = true := by simpa using c169))
                clear c169
                simp only [Option.some.injEq, Prod.mk.injEq] at H
                obtain ⟨rfl, rfl, rfl, rfl, rfl, rfl⟩ := H
                try go_wp2
                have n0_ := Aside0.mk (blk_drew BK189.out)
                have n1_ := Aside0.mk (blk_drew BK190.out)
                have n2_ := Aside0.mk (blk_drew BK191.out)
                have n3_ := Aside0.mk (blk_drew BK198.out)
                have n4_ := Aside0.mk (blk_drew BK199.out)
                have n5_ := Aside0.mk (below_drew1 HB.out)
                clear BK189
                clear BK190
                clear BK191
                clear BK198
                clear BK199
                clear HB
                have BK189 := n0_
                have BK190 := n1_
                have BK191 := n2_
                have BK198 := n3_
                have BK199 := n4_
                have HB := n5_
                clear n0_ n1_ n2_ n3_ n4_ n5_
                have p206 : 0 ≤ ((ji142) : Int) := of_decide_eq_true (by first | (with_reducible assumption) | assumption)
                have q206 : (ji142) < (l0.length : Int) := of_decide_eq_true (by first | (with_reducible assumption) | assumption)
                obtain ⟨ad206, e206, hx206_0⟩ := Kd.at_string HR0.out (ji142) p206 q206
                have hw206_0 := hx206_0
                cases e206
                replace hx206_0 := (HB.out.cell (World.block_lt_of_cell? w _ hx206_0)).trans hx206_0
                replace p206 := eq_true p206
                replace q206 := eq_true q206
                refine start_ (n := 12) (S := fun w' => w'.cell? ⟨gb199, 0, none⟩ = some (.int .i64 t196) ∧ w'.cell? ⟨gb199, 1, none⟩ = some (.int .i64 t197) ∧ w'.cell? (ad206.add ((ji142)).toNat) = some (.string (rdOf ByteArray.empty l0 (ji142)))) (ds := [11]) #[false, false, false, false, false, false, false, false, false, false, false, false] (by kernel_rfl) rfl rfl ⟨(blk_cell BK199.out 0).trans rfl, (blk_cell BK199.out 1).trans rfl, ((HB.out.cell (World.block_lt_of_cell? w _ hw206_0)).trans hw206_0)⟩ (fun hHeld => ?_); refine with_tabW foolscapref25_Of.tab12 foolscapref25_Of.bits12 (fun HT_ HW_ => ?_)
                generalize wc.drew = w170 at BK189 BK190 BK191 BK198 BK199 HB hx206_0 hHeld ⊢
                refine pure_ (i := 0) (N := some 64) (v := ?_) (a' := ?_) #[true, false, false, false, false, false, false, false, false, false, false, false] rfl rfl (any_of HT_.out (by kernel_rfl)) (fun _ _ _ h => h) (Or.inl ⟨by rfl, ?_⟩) ?_ ?_
                rotate_left
                ·intro w'
                 go_simp
                 with_reducible rfl
                rotate_left
                ·simp only [Act.put, List.setIfInBounds_toArray, List.set_cons_zero, List.set_cons_succ, i64_w, i32_w]
                 rfl
                refine pure_ (i := 3) (N := some 67) (v := ?_) (a' := ?_) #[true, false, false, true, false, false, false, false, false, false, false, false] rfl rfl (any_of HT_.out (by kernel_rfl)) (fun _ _ _ h => h) (Or.inl ⟨by rfl, ?_⟩) ?_ ?_
                rotate_left
                ·intro w'
                 go_simp
                 with_reducible rfl
                rotate_left
                ·simp only [Act.put, List.setIfInBounds_toArray, List.set_cons_zero, List.set_cons_succ, i64_w, i32_w]
                 rfl
                refine pure_ (i := 4) (N := some 68) (v := ?_) (a' := ?_) #[true, false, false, true, true, false, false, false, false, false, false, false] rfl rfl (any_of HT_.out (by kernel_rfl)) (fun _ _ _ h => h) (Or.inl ⟨by rfl, ?_⟩) ?_ ?_
                rotate_left
                ·intro w'
                 go_simp
                 with_reducible rfl
                rotate_left
                ·simp only [Act.put, List.setIfInBounds_toArray, List.set_cons_zero, List.set_cons_succ, i64_w, i32_w]
                 rfl
                refine take_ (i := 1) (N := some 65) (v := ?_) (a' := ?_) #[true, true, false, true, true, false, false, false, false, false, false, false] rfl rfl (take_ofW HT_.out HW_.out (by kernel_rfl)) (fun _ _ _ h => h) (Or.inl ⟨by rfl, ?_⟩) hHeld ?_ ?_
                rotate_left
                ·rintro w' ⟨s0, s1, s2⟩
                 go_simp
                 with_reducible rfl
                rotate_left
                ·simp only [Act.put, List.setIfInBounds_toArray, List.set_cons_zero, List.set_cons_succ, i64_w, i32_w]
                 rfl
                refine pure_ (i := 2) (N := some 66) (v := ?_) (a' := ?_) #[true, true, true, true, true, false, false, false, false, false, false, false] rfl rfl (any_of HT_.out (by kernel_rfl)) (fun _ _ _ h => h) (Or.inl ⟨by rfl, ?_⟩) ?_ ?_
                rotate_left
                ·intro w'
                 go_simp
                 with_reducible rfl
                rotate_left
                ·simp only [Act.put, List.setIfInBounds_toArray, List.set_cons_zero, List.set_cons_succ, i64_w, i32_w]
                 rfl
                refine take_ (i := 5) (N := some 69) (v := ?_) (a' := ?_) #[true, true, true, true, true, true, false, false, false, false, false, false] rfl rfl (take_ofW HT_.out HW_.out (by kernel_rfl)) (fun _ _ _ h => h) (Or.inl ⟨by rfl, ?_⟩) hHeld ?_ ?_
                rotate_left
                ·rintro w' ⟨s0, s1, s2⟩
                 go_simp
                 with_reducible rfl
                rotate_left
                ·simp only [Act.put, List.setIfInBounds_toArray, List.set_cons_zero, List.set_cons_succ, i64_w, i32_w]
                 rfl
                refine pure_ (i := 6) (N := some 70) (v := ?_) (a' := ?_) #[true, true, true, true, true, true, true, false, false, false, false, false] rfl rfl (any_of HT_.out (by kernel_rfl)) (fun _ _ _ h => h) (Or.inl ⟨by rfl, ?_⟩) ?_ ?_
                rotate_left
                ·intro w'
                 go_simp
                 with_reducible rfl
                rotate_left
                ·simp only [Act.put, List.setIfInBounds_toArray, List.set_cons_zero, List.set_cons_succ, i64_w, i32_w]
                 rfl
                refine pure_ (i := 7) (N := some 71) (v := ?_) (a' := ?_) #[true, true, true, true, true, true, true, true, false, false, false, false] rfl rfl (any_of HT_.out (by kernel_rfl)) (fun _ _ _ h => h) (Or.inl ⟨by rfl, ?_⟩) ?_ ?_
                rotate_left
                ·intro w'
                 go_simp
                 with_reducible rfl
                rotate_left
                ·simp only [Act.put, List.setIfInBounds_toArray, List.set_cons_zero, List.set_cons_succ, i64_w, i32_w]
                 rfl
                refine take_ (i := 8) (N := some 72) (v := ?_) (a' := ?_) #[true, true, true, true, true, true, true, true, true, false, false, false] rfl rfl (take_ofW HT_.out HW_.out (by kernel_rfl)) (fun _ _ _ h => h) (Or.inl ⟨by rfl, ?_⟩) hHeld ?_ ?_
                rotate_left
                ·rintro w' ⟨s0, s1, s2⟩
                 go_simp
                 with_reducible rfl
                rotate_left
                ·simp only [Act.put, List.setIfInBounds_toArray, List.set_cons_zero, List.set_cons_succ, i64_w, i32_w]
                 rfl
                refine pure_ (i := 9) (N := some 73) (v := ?_) (a' := ?_) #[true, true, true, true, true, true, true, true, true, true, false, false] rfl rfl (any_of HT_.out (by kernel_rfl)) (fun _ _ _ h => h) (Or.inl ⟨by rfl, ?_⟩) ?_ ?_
                rotate_left
                ·intro w'
                 go_simp
                 with_reducible rfl
                rotate_left
                ·simp only [Act.put, List.setIfInBounds_toArray, List.set_cons_zero, List.set_cons_succ, i64_w, i32_w]
                 rfl
                refine pure_ (i := 10) (N := some 74) (v := ?_) (a' := ?_) #[true, true, true, true, true, true, true, true, true, true, true, false] rfl rfl (any_of HT_.out (by kernel_rfl)) (fun _ _ _ h => h) (Or.inl ⟨by rfl, ?_⟩) ?_ ?_
                rotate_left
                ·intro w'
                 go_simp
                 with_reducible rfl
                rotate_left
                ·simp only [Act.put, List.setIfInBounds_toArray, List.set_cons_zero, List.set_cons_succ, i64_w, i32_w]
                 rfl
                refine last_ (i := 11) (N := none) #[true, true, true, true, true, true, true, true, true, true, true, true] rfl rfl (one_of HT_.out (by kernel_rfl)) (by decide) (fun K hK => ?_)
                have hs171 : w170.cell? ⟨gb199, 0, none⟩ = some (.int .i64 t196) := (blk_cell BK199.out 0).trans rfl
                have hfs171 := blk_frozen BK199.out 0
                have hns171_0 := NB189_199.out
                have hns171_1 := NB190_199.out
                have hns171_2 := NB191_199.out
                have hns171_3 := NB198_199.out
                have hms171_0 := NB199_189.out
                have hms171_1 := NB199_190.out
                have hms171_2 := NB199_191.out
                have hms171_3 := NB199_198.out
                have hs172 : w170.cell? ⟨gb199, 1, none⟩ = some (.int .i64 t197) := (blk_cell BK199.out 1).trans rfl
                have hfs172 := blk_frozen BK199.out 1
                have hns172_0 := NB189_199.out
                have hns172_1 := NB190_199.out
                have hns172_2 := NB191_199.out
                have hns172_3 := NB198_199.out
                have hms172_0 := NB199_189.out
                have hms172_1 := NB199_190.out
                have hms172_2 := NB199_191.out
                have hms172_3 := NB199_198.out
                refine skip_ (w1 := ?_) (by rfl) rfl ?_ ?_
                rotate_left
                ·go_simp
                 rfl
                refine hK.out _ _ ?_
                clear hK K
                refine done_ (done_of HT_.out (by kernel_rfl)) ?_
                try go_wp2
                have n0_ : Aside0 (((w170.setCell ⟨gb199, 0, none⟩ (.int .i64 ji142)).setCell ⟨gb199, 1, none⟩ (.int .i64 ((rdOf ByteArray.empty l0 (ji142)).size : Int))).heap[gb189]? = some (.cells #[.int .i64 a1_0, .int .i64 a1_1] 28 (0, 0))) := ⟨by refine pk ?_; refine blk_far ?_ NB189_199.out _; refine pk ?_; refine blk_far ?_ NB189_199.out _; exact pk BK189.out⟩
                have n1_ : Aside0 (((w170.setCell ⟨gb199, 0, none⟩ (.int .i64 ji142)).setCell ⟨gb199, 1, none⟩ (.int .i64 ((rdOf ByteArray.empty l0 (ji142)).size : Int))).heap[gb190]? = some (.cells #[.int .i64 a2_0, .int .i64 a2_1, .int .i64 a2_2, .bool a2_3, .int .i64 a2_4] 38 (0, 0))) := ⟨by refine pk ?_; refine blk_far ?_ NB190_199.out _; refine pk ?_; refine blk_far ?_ NB190_199.out _; exact pk BK190.out⟩
                have n2_ : Aside0 (((w170.setCell ⟨gb199, 0, none⟩ (.int .i64 ji142)).setCell ⟨gb199, 1, none⟩ (.int .i64 ((rdOf ByteArray.empty l0 (ji142)).size : Int))).heap[gb191]? = some (.cells #[.int .i64 0, .int .i64 0, .int .i64 0, .int .i64 0, .int .i64 0] 43 (0, 0))) := ⟨by refine pk ?_; refine blk_far ?_ NB191_199.out _; refine pk ?_; refine blk_far ?_ NB191_199.out _; exact pk BK191.out⟩
                have n3_ : Aside0 (((w170.setCell ⟨gb199, 0, none⟩ (.int .i64 ji142)).setCell ⟨gb199, 1, none⟩ (.int .i64 ((rdOf ByteArray.empty l0 (ji142)).size : Int))).heap[gb198]? = some (.cells #[.int .i64 t194, .int .i64 t195] 28 (0, 0))) := ⟨by refine pk ?_; refine blk_far ?_ NB198_199.out _; refine pk ?_; refine blk_far ?_ NB198_199.out _; exact pk BK198.out⟩
                have n4_ : Aside0 (((w170.setCell ⟨gb199, 0, none⟩ (.int .i64 ji142)).setCell ⟨gb199, 1, none⟩ (.int .i64 ((rdOf ByteArray.empty l0 (ji142)).size : Int))).heap[gb199]? = some (.cells #[.int .i64 ji142, .int .i64 ((rdOf ByteArray.empty l0 (ji142)).size : Int)] 28 (0, 0))) := ⟨by refine pk ?_; refine blk_put (cs := #[.int .i64 ji142, .int .i64 t197]) ?_ 1 _ rfl; refine pk ?_; refine blk_put (cs := #[.int .i64 t196, .int .i64 t197]) ?_ 0 _ rfl; exact pk BK199.out⟩
                have n5_ : Aside0 (Below w.heap.size w ((w170.setCell ⟨gb199, 0, none⟩ (.int .i64 ji142)).setCell ⟨gb199, 1, none⟩ (.int .i64 ((rdOf ByteArray.empty l0 (ji142)).size : Int)))) := ⟨by repeat with_reducible first | exact HB.out | apply ba | apply bn | apply bd | refine bset ?_ (by assumption)⟩
                (try clear BK189)
                (try clear BK190)
                (try clear BK191)
                (try clear BK198)
                (try clear BK199)
                (try clear HB)
                generalize ((w170.setCell ⟨gb199, 0, none⟩ (.int .i64 ji142)).setCell ⟨gb199, 1, none⟩ (.int .i64 ((rdOf ByteArray.empty l0 (ji142)).size : Int))) = w173 at n0_ n1_ n2_ n3_ n4_ n5_ ⊢
                have BK189 := n0_
                have BK190 := n1_
                have BK191 := n2_
                have BK198 := n3_
                have BK199 := n4_
                have HB := n5_
                clear n0_ n1_ n2_ n3_ n4_ n5_
                have n0_ := Aside0.mk (blk_drew BK189.out)
                have n1_ := Aside0.mk (blk_drew BK190.out)
                have n2_ := Aside0.mk (blk_drew BK191.out)
                have n3_ := Aside0.mk (blk_drew BK198.out)
                have n4_ := Aside0.mk (blk_drew BK199.out)
                have n5_ := Aside0.mk (below_drew1 HB.out)
                clear BK189
                clear BK190
                clear BK191
                clear BK198
                clear BK199
                clear HB
                have BK189 := n0_
                have BK190 := n1_
                have BK191 := n2_
                have BK198 := n3_
                have BK199 := n4_
                have HB := n5_
                clear n0_ n1_ n2_ n3_ n4_ n5_
                have p207 : 0 ≤ (t194 : Int) := of_decide_eq_true (by first | (with_reducible assumption) | assumption)
                have q207 : t194 < (l0.length : Int) := of_decide_eq_true (by first | (with_reducible assumption) | assumption)
                obtain ⟨ad207, e207, hx207_0⟩ := Kd.at_string HR0.out t194 p207 q207
                have hw207_0 := hx207_0
                obtain rfl : ad206 = ad207 := (by injection e207)
                replace hx207_0 := (HB.out.cell (World.block_lt_of_cell? w _ hx207_0)).trans hx207_0
                replace p207 := eq_true p207
                replace q207 := eq_true q207
                refine start_ (n := 9) (S := fun w' => w'.cell? ⟨gb198, 0, none⟩ = some (.int .i64 t194) ∧ w'.cell? ⟨gb198, 1, none⟩ = some (.int .i64 t195) ∧ w'.cell? (ad206.add (t194).toNat) = some (.string (rdOf ByteArray.empty l0 t194))) (ds := []) #[false, false, false, false, false, false, false, false, false] (by kernel_rfl) rfl rfl ⟨(blk_cell BK198.out 0).trans rfl, (blk_cell BK198.out 1).trans rfl, ((HB.out.cell (World.block_lt_of_cell? w _ hw207_0)).trans hw207_0)⟩ (fun hHeld => ?_); refine with_tabW foolscapref25_Of.tab13 foolscapref25_Of.bits13 (fun HT_ HW_ => ?_)
                generalize w173.drew = w174 at BK189 BK190 BK191 BK198 BK199 HB hx207_0 hHeld ⊢
                refine pure_ (i := 0) (N := some 75) (v := ?_) (a' := ?_) #[true, false, false, false, false, false, false, false, false] rfl rfl (any_of HT_.out (by kernel_rfl)) (fun _ _ _ h => h) (Or.inl ⟨by rfl, ?_⟩) ?_ ?_
                rotate_left
                ·intro w'
                 go_simp
                 with_reducible rfl
                rotate_left
                ·simp only [Act.put, List.setIfInBounds_toArray, List.set_cons_zero, List.set_cons_succ, i64_w, i32_w]
                 rfl
                refine pure_ (i := 2) (N := some 77) (v := ?_) (a' := ?_) #[true, false, true, false, false, false, false, false, false] rfl rfl (any_of HT_.out (by kernel_rfl)) (fun _ _ _ h => h) (Or.inl ⟨by rfl, ?_⟩) ?_ ?_
                rotate_left
                ·intro w'
                 go_simp
                 with_reducible rfl
                rotate_left
                ·simp only [Act.put, List.setIfInBounds_toArray, List.set_cons_zero, List.set_cons_succ, i64_w, i32_w]
                 rfl
                refine pure_ (i := 3) (N := some 78) (v := ?_) (a' := ?_) #[true, false, true, true, false, false, false, false, false] rfl rfl (any_of HT_.out (by kernel_rfl)) (fun _ _ _ h => h) (Or.inl ⟨by rfl, ?_⟩) ?_ ?_
                rotate_left
                ·intro w'
                 go_simp
                 with_reducible rfl
                rotate_left
                ·simp only [Act.put, List.setIfInBounds_toArray, List.set_cons_zero, List.set_cons_succ, i64_w, i32_w]
                 rfl
                refine take_ (i := 1) (N := some 76) (v := ?_) (a' := ?_) #[true, true, true, true, false, false, false, false, false] rfl rfl (take_ofW HT_.out HW_.out (by kernel_rfl)) (fun _ _ _ h => h) (Or.inl ⟨by rfl, ?_⟩) hHeld ?_ ?_
                rotate_left
                ·rintro w' ⟨s0, s1, s2⟩
                 go_simp
                 with_reducible rfl
                rotate_left
                ·simp only [Act.put, List.setIfInBounds_toArray, List.set_cons_zero, List.set_cons_succ, i64_w, i32_w]
                 rfl
                refine take_ (i := 4) (N := some 79) (v := ?_) (a' := ?_) #[true, true, true, true, true, false, false, false, false] rfl rfl (take_ofW HT_.out HW_.out (by kernel_rfl)) (fun _ _ _ h => h) (Or.inl ⟨by rfl, ?_⟩) hHeld ?_ ?_
                rotate_left
                ·rintro w' ⟨s0, s1, s2⟩
                 go_simp
                 with_reducible rfl
                rotate_left
                ·simp only [Act.put, List.setIfInBounds_toArray, List.set_cons_zero, List.set_cons_succ, i64_w, i32_w]
                 rfl
                refine pure_ (i := 5) (N := some 80) (v := ?_) (a' := ?_) #[true, true, true, true, true, true, false, false, false] rfl rfl (any_of HT_.out (by kernel_rfl)) (fun _ _ _ h => h) (Or.inl ⟨by rfl, ?_⟩) ?_ ?_
                rotate_left
                ·intro w'
                 go_simp
                 with_reducible rfl
                rotate_left
                ·simp only [Act.put, List.setIfInBounds_toArray, List.set_cons_zero, List.set_cons_succ, i64_w, i32_w]
                 rfl
                refine take_ (i := 6) (N := some 81) (v := ?_) (a' := ?_) #[true, true, true, true, true, true, true, false, false] rfl rfl (take_ofW HT_.out HW_.out (by kernel_rfl)) (fun _ _ _ h => h) (Or.inl ⟨by rfl, ?_⟩) hHeld ?_ ?_
                rotate_left
                ·rintro w' ⟨s0, s1, s2⟩
                 go_simp
                 with_reducible rfl
                rotate_left
                ·simp only [Act.put, List.setIfInBounds_toArray, List.set_cons_zero, List.set_cons_succ, i64_w, i32_w]
                 rfl
                refine one_ (i := 7) (N := some 82) #[true, true, true, true, true, true, true, true, false] rfl rfl (one_of HT_.out (by kernel_rfl)) (by decide) (fun K hK => ?_)
                refine goes_ Try.func16 (by kernel_rfl) rfl #[.string (rdOf ByteArray.empty l0 t194)] (by rfl) rfl rfl (by first | rfl | (simp only [List.map_toArray, List.map_cons, List.map_nil] <;> rfl)) ?_
                with_reducible refine (foolscapref5_First.calls kj102 (rdOf ByteArray.empty l0 t194) t208 _ A147.out).mono ?_
                rintro e w175 ⟨rfl, hb⟩
                refine ⟨_, rfl, ?_⟩
                have n0_ := Aside0.mk (blk_below (pk BK189.out) hb)
                have n1_ := Aside0.mk (blk_below (pk BK190.out) hb)
                have n2_ := Aside0.mk (blk_below (pk BK191.out) hb)
                have n3_ := Aside0.mk (blk_below (pk BK198.out) hb)
                have n4_ := Aside0.mk (blk_below (pk BK199.out) hb)
                have n5_ := Aside0.mk (below_step (by repeat with_reducible first | exact HB.out | apply ba | apply bn | apply bd | refine bset ?_ (by assumption)) hb)
                clear BK189
                clear BK190
                clear BK191
                clear BK198
                clear BK199
                clear HB
                have BK189 := n0_
                have BK190 := n1_
                have BK191 := n2_
                have BK198 := n3_
                have BK199 := n4_
                have HB := n5_
                clear n0_ n1_ n2_ n3_ n4_ n5_
                (try clear hb)
                (try clear hb2)
                (try clear hk)
                (try clear hi)
                refine hK.out _ _ ⟨(blk_cell BK198.out 0).trans rfl, (blk_cell BK198.out 1).trans rfl, ((HB.out.cell (World.block_lt_of_cell? w _ hw207_0)).trans hw207_0)⟩ (fun hHeld => ?_)
                clear hK K
                refine norm_ (a' := ?_) ?_ ?_
                rotate_left
                ·show Act.put _ (some 82) _ = _
                 simp only [Act.put, List.setIfInBounds_toArray, List.set_cons_zero, List.set_cons_succ, i64_w, i32_w]
                 rfl
                refine pure_ (i := 8) (N := some 83) (v := ?_) (a' := ?_) #[true, true, true, true, true, true, true, true, true] rfl rfl (any_of HT_.out (by kernel_rfl)) (fun _ _ _ h => h) (Or.inl ⟨by rfl, ?_⟩) ?_ ?_
                rotate_left
                ·intro w'
                 go_simp
                 with_reducible rfl
                rotate_left
                ·simp only [Act.put, List.setIfInBounds_toArray, List.set_cons_zero, List.set_cons_succ, i64_w, i32_w]
                 rfl
                refine done_ (done_of HT_.out (by kernel_rfl)) ?_
                have hnb176 := NB198_189.out
                have hnc176 := NB189_198.out
                have hnb177 := NB198_190.out
                have hnc177 := NB190_198.out
                have hnb178 := NB198_191.out
                have hnc178 := NB191_198.out
                have hnb179 := NB198_199.out
                have hnc179 := NB199_198.out
                have hcz180_0 : w175.cell? ⟨gb198, 0, none⟩ = some (.int .i64 t194) := (blk_cell BK198.out 0).trans rfl
                have hcz180_1 : w175.cell? ⟨gb198, 1, none⟩ = some (.int .i64 t195) := (blk_cell BK198.out 1).trans rfl
                have hfz180_0 := blk_frozen BK198.out 0
                have hfz180_1 := blk_frozen BK198.out 1
                have hnb181 := NB199_189.out
                have hnc181 := NB189_199.out
                have hnb182 := NB199_190.out
                have hnc182 := NB190_199.out
                have hnb183 := NB199_191.out
                have hnc183 := NB191_199.out
                have hcz184_0 : w175.cell? ⟨gb199, 0, none⟩ = some (.int .i64 ji142) := (blk_cell BK199.out 0).trans rfl
                have hcz184_1 : w175.cell? ⟨gb199, 1, none⟩ = some (.int .i64 ((rdOf ByteArray.empty l0 (ji142)).size : Int)) := (blk_cell BK199.out 1).trans rfl
                have hfz184_0 := blk_frozen BK199.out 0
                have hfz184_1 := blk_frozen BK199.out 1
                have hnb185 := NB191_189.out
                have hnc185 := NB189_191.out
                have hnb186 := NB191_190.out
                have hnc186 := NB190_191.out
                have hcz187_0 : w175.cell? ⟨gb191, 0, none⟩ = some (.int .i64 0) := (blk_cell BK191.out 0).trans rfl
                have hcz187_1 : w175.cell? ⟨gb191, 1, none⟩ = some (.int .i64 0) := (blk_cell BK191.out 1).trans rfl
                have hcz187_2 : w175.cell? ⟨gb191, 2, none⟩ = some (.int .i64 0) := (blk_cell BK191.out 2).trans rfl
                have hcz187_3 : w175.cell? ⟨gb191, 3, none⟩ = some (.int .i64 0) := (blk_cell BK191.out 3).trans rfl
                have hcz187_4 : w175.cell? ⟨gb191, 4, none⟩ = some (.int .i64 0) := (blk_cell BK191.out 4).trans rfl
                have hfz187_0 := blk_frozen BK191.out 0
                have hfz187_1 := blk_frozen BK191.out 1
                have hfz187_2 := blk_frozen BK191.out 2
                have hfz187_3 := blk_frozen BK191.out 3
                have hfz187_4 := blk_frozen BK191.out 4
                try go_wp2
                refine bodyPost_ret (results_ct rfl _ _ gb191 43 #[.int .i64 0, .int .i64 0, .int .i64 0, .int .i64 0, .int .i64 0] (0, 0) _ rfl (by refine pk ?_; refine blk_put (cs := #[.int .i64 0, .int .i64 0, .int .i64 0, .int .i64 0, .int .i64 0]) ?_ 4 _ rfl; refine pk ?_; refine blk_put (cs := #[.int .i64 0, .int .i64 0, .int .i64 0, .int .i64 0, .int .i64 0]) ?_ 3 _ rfl; refine pk ?_; refine blk_put (cs := #[.int .i64 0, .int .i64 0, .int .i64 0, .int .i64 0, .int .i64 0]) ?_ 2 _ rfl; refine pk ?_; refine blk_put (cs := #[.int .i64 0, .int .i64 0, .int .i64 0, .int .i64 0, .int .i64 0]) ?_ 1 _ rfl; refine pk ?_; refine blk_put (cs := #[.int .i64 0, .int .i64 0, .int .i64 0, .int .i64 0, .int .i64 0]) ?_ 0 _ rfl; exact pk BK191.out) Try.underlying43 rfl (by kernel_rfl)) rfl ?_
                exact ⟨by first | rfl | (simp [errW_none, errW_some] <;> rfl) | (simp only [← hji142]; first | rfl | (simp [errW_none, errW_some] <;> rfl)) | (simp [*, errW_none, errW_some] <;> rfl), by repeat with_reducible first | exact HB.out | apply ba | apply bn | apply bd | refine bset ?_ (by assumption)⟩
               ·rw [if_neg c169] at H
                have c169b0 : (t194 == (ji142) && (t195 == ((rdOf ByteArray.empty l0 (ji142)).size : Int))) = false := by simpa using c169
                (try (have c169b1 : decide (t194 = (ji142) && (t195 == ((rdOf ByteArray.empty l0 (ji142)).size : Int))) = false := by simpa using c169))
                (try (have c169b2 : (t194 == (ji142) && (t195 == ((rdOf ByteArray.empty l0 (ji142)).size : Int))) = false := by simpa using c169))
                (try (have c169b3 : ¬ (t194 = (ji142) && (t195 == ((rdOf ByteArray.empty l0 (ji142)).size : Int))) := by simpa using c169))
                clear c169
                simp only [Option.some.injEq, Prod.mk.injEq] at H
                obtain ⟨rfl, rfl, rfl, rfl, rfl, rfl⟩ := H
                try go_wp2
                have n0_ := Aside0.mk (blk_drew BK189.out)
                have n1_ := Aside0.mk (blk_drew BK190.out)
                have n2_ := Aside0.mk (blk_drew BK191.out)
                have n3_ := Aside0.mk (blk_drew BK198.out)
                have n4_ := Aside0.mk (blk_drew BK199.out)
                have n5_ := Aside0.mk (below_drew1 HB.out)
                clear BK189
                clear BK190
                clear BK191
                clear BK198
                clear BK199
                clear HB
                have BK189 := n0_
                have BK190 := n1_
                have BK191 := n2_
                have BK198 := n3_
                have BK199 := n4_
                have HB := n5_
                clear n0_ n1_ n2_ n3_ n4_ n5_
                have p206 : 0 ≤ ((ji142) : Int) := of_decide_eq_true (by first | (with_reducible assumption) | assumption)
                have q206 : (ji142) < (l0.length : Int) := of_decide_eq_true (by first | (with_reducible assumption) | assumption)
                obtain ⟨ad206, e206, hx206_0⟩ := Kd.at_string HR0.out (ji142) p206 q206
                have hw206_0 := hx206_0
                cases e206
                replace hx206_0 := (HB.out.cell (World.block_lt_of_cell? w _ hx206_0)).trans hx206_0
                replace p206 := eq_true p206
                replace q206 := eq_true q206
                refine start_ (n := 12) (S := fun w' => w'.cell? ⟨gb199, 0, none⟩ = some (.int .i64 t196) ∧ w'.cell? ⟨gb199, 1, none⟩ = some (.int .i64 t197) ∧ w'.cell? (ad206.add ((ji142)).toNat) = some (.string (rdOf ByteArray.empty l0 (ji142)))) (ds := [11]) #[false, false, false, false, false, false, false, false, false, false, false, false] (by kernel_rfl) rfl rfl ⟨(blk_cell BK199.out 0).trans rfl, (blk_cell BK199.out 1).trans rfl, ((HB.out.cell (World.block_lt_of_cell? w _ hw206_0)).trans hw206_0)⟩ (fun hHeld => ?_); refine with_tabW foolscapref25_Of.tab12 foolscapref25_Of.bits12 (fun HT_ HW_ => ?_)
                generalize wc.drew = w188 at BK189 BK190 BK191 BK198 BK199 HB hx206_0 hHeld ⊢
                refine pure_ (i := 0) (N := some 64) (v := ?_) (a' := ?_) #[true, false, false, false, false, false, false, false, false, false, false, false] rfl rfl (any_of HT_.out (by kernel_rfl)) (fun _ _ _ h => h) (Or.inl ⟨by rfl, ?_⟩) ?_ ?_
                rotate_left
                ·intro w'
                 go_simp
                 with_reducible rfl
                rotate_left
                ·simp only [Act.put, List.setIfInBounds_toArray, List.set_cons_zero, List.set_cons_succ, i64_w, i32_w]
                 rfl
                refine pure_ (i := 3) (N := some 67) (v := ?_) (a' := ?_) #[true, false, false, true, false, false, false, false, false, false, false, false] rfl rfl (any_of HT_.out (by kernel_rfl)) (fun _ _ _ h => h) (Or.inl ⟨by rfl, ?_⟩) ?_ ?_
                rotate_left
                ·intro w'
                 go_simp
                 with_reducible rfl
                rotate_left
                ·simp only [Act.put, List.setIfInBounds_toArray, List.set_cons_zero, List.set_cons_succ, i64_w, i32_w]
                 rfl
                refine pure_ (i := 4) (N := some 68) (v := ?_) (a' := ?_) #[true, false, false, true, true, false, false, false, false, false, false, false] rfl rfl (any_of HT_.out (by kernel_rfl)) (fun _ _ _ h => h) (Or.inl ⟨by rfl, ?_⟩) ?_ ?_
                rotate_left
                ·intro w'
                 go_simp
                 with_reducible rfl
                rotate_left
                ·simp only [Act.put, List.setIfInBounds_toArray, List.set_cons_zero, List.set_cons_succ, i64_w, i32_w]
                 rfl
                refine take_ (i := 1) (N := some 65) (v := ?_) (a' := ?_) #[true, true, false, true, true, false, false, false, false, false, false, false] rfl rfl (take_ofW HT_.out HW_.out (by kernel_rfl)) (fun _ _ _ h => h) (Or.inl ⟨by rfl, ?_⟩) hHeld ?_ ?_
                rotate_left
                ·rintro w' ⟨s0, s1, s2⟩
                 go_simp
                 with_reducible rfl
                rotate_left
                ·simp only [Act.put, List.setIfInBounds_toArray, List.set_cons_zero, List.set_cons_succ, i64_w, i32_w]
                 rfl
                refine pure_ (i := 2) (N := some 66) (v := ?_) (a' := ?_) #[true, true, true, true, true, false, false, false, false, false, false, false] rfl rfl (any_of HT_.out (by kernel_rfl)) (fun _ _ _ h => h) (Or.inl ⟨by rfl, ?_⟩) ?_ ?_
                rotate_left
                ·intro w'
                 go_simp
                 with_reducible rfl
                rotate_left
                ·simp only [Act.put, List.setIfInBounds_toArray, List.set_cons_zero, List.set_cons_succ, i64_w, i32_w]
                 rfl
                refine take_ (i := 5) (N := some 69) (v := ?_) (a' := ?_) #[true, true, true, true, true, true, false, false, false, false, false, false] rfl rfl (take_ofW HT_.out HW_.out (by kernel_rfl)) (fun _ _ _ h => h) (Or.inl ⟨by rfl, ?_⟩) hHeld ?_ ?_
                rotate_left
                ·rintro w' ⟨s0, s1, s2⟩
                 go_simp
                 with_reducible rfl
                rotate_left
                ·simp only [Act.put, List.setIfInBounds_toArray, List.set_cons_zero, List.set_cons_succ, i64_w, i32_w]
                 rfl
                refine pure_ (i := 6) (N := some 70) (v := ?_) (a' := ?_) #[true, true, true, true, true, true, true, false, false, false, false, false] rfl rfl (any_of HT_.out (by kernel_rfl)) (fun _ _ _ h => h) (Or.inl ⟨by rfl, ?_⟩) ?_ ?_
                rotate_left
                ·intro w'
                 go_simp
                 with_reducible rfl
                rotate_left
                ·simp only [Act.put, List.setIfInBounds_toArray, List.set_cons_zero, List.set_cons_succ, i64_w, i32_w]
                 rfl
                refine pure_ (i := 7) (N := some 71) (v := ?_) (a' := ?_) #[true, true, true, true, true, true, true, true, false, false, false, false] rfl rfl (any_of HT_.out (by kernel_rfl)) (fun _ _ _ h => h) (Or.inl ⟨by rfl, ?_⟩) ?_ ?_
                rotate_left
                ·intro w'
                 go_simp
                 with_reducible rfl
                rotate_left
                ·simp only [Act.put, List.setIfInBounds_toArray, List.set_cons_zero, List.set_cons_succ, i64_w, i32_w]
                 rfl
                refine take_ (i := 8) (N := some 72) (v := ?_) (a' := ?_) #[true, true, true, true, true, true, true, true, true, false, false, false] rfl rfl (take_ofW HT_.out HW_.out (by kernel_rfl)) (fun _ _ _ h => h) (Or.inl ⟨by rfl, ?_⟩) hHeld ?_ ?_
                rotate_left
                ·rintro w' ⟨s0, s1, s2⟩
                 go_simp
                 with_reducible rfl
                rotate_left
                ·simp only [Act.put, List.setIfInBounds_toArray, List.set_cons_zero, List.set_cons_succ, i64_w, i32_w]
                 rfl
                refine pure_ (i := 9) (N := some 73) (v := ?_) (a' := ?_) #[true, true, true, true, true, true, true, true, true, true, false, false] rfl rfl (any_of HT_.out (by kernel_rfl)) (fun _ _ _ h => h) (Or.inl ⟨by rfl, ?_⟩) ?_ ?_
                rotate_left
                ·intro w'
                 go_simp
                 with_reducible rfl
                rotate_left
                ·simp only [Act.put, List.setIfInBounds_toArray, List.set_cons_zero, List.set_cons_succ, i64_w, i32_w]
                 rfl
                refine pure_ (i := 10) (N := some 74) (v := ?_) (a' := ?_) #[true, true, true, true, true, true, true, true, true, true, true, false] rfl rfl (any_of HT_.out (by kernel_rfl)) (fun _ _ _ h => h) (Or.inl ⟨by rfl, ?_⟩) ?_ ?_
                rotate_left
                ·intro w'
                 go_simp
                 with_reducible rfl
                rotate_left
                ·simp only [Act.put, List.setIfInBounds_toArray, List.set_cons_zero, List.set_cons_succ, i64_w, i32_w]
                 rfl
                refine last_ (i := 11) (N := none) #[true, true, true, true, true, true, true, true, true, true, true, true] rfl rfl (one_of HT_.out (by kernel_rfl)) (by decide) (fun K hK => ?_)
                have hs189 : w188.cell? ⟨gb199, 0, none⟩ = some (.int .i64 t196) := (blk_cell BK199.out 0).trans rfl
                have hfs189 := blk_frozen BK199.out 0
                have hns189_0 := NB189_199.out
                have hns189_1 := NB190_199.out
                have hns189_2 := NB191_199.out
                have hns189_3 := NB198_199.out
                have hms189_0 := NB199_189.out
                have hms189_1 := NB199_190.out
                have hms189_2 := NB199_191.out
                have hms189_3 := NB199_198.out
                have hs190 : w188.cell? ⟨gb199, 1, none⟩ = some (.int .i64 t197) := (blk_cell BK199.out 1).trans rfl
                have hfs190 := blk_frozen BK199.out 1
                have hns190_0 := NB189_199.out
                have hns190_1 := NB190_199.out
                have hns190_2 := NB191_199.out
                have hns190_3 := NB198_199.out
                have hms190_0 := NB199_189.out
                have hms190_1 := NB199_190.out
                have hms190_2 := NB199_191.out
                have hms190_3 := NB199_198.out
                refine skip_ (w1 := ?_) (by rfl) rfl ?_ ?_
                rotate_left
                ·go_simp
                 rfl
                refine hK.out _ _ ?_
                clear hK K
                refine done_ (done_of HT_.out (by kernel_rfl)) ?_
                try go_wp2
                have n0_ : Aside0 (((w188.setCell ⟨gb199, 0, none⟩ (.int .i64 ji142)).setCell ⟨gb199, 1, none⟩ (.int .i64 ((rdOf ByteArray.empty l0 (ji142)).size : Int))).heap[gb189]? = some (.cells #[.int .i64 a1_0, .int .i64 a1_1] 28 (0, 0))) := ⟨by refine pk ?_; refine blk_far ?_ NB189_199.out _; refine pk ?_; refine blk_far ?_ NB189_199.out _; exact pk BK189.out⟩
                have n1_ : Aside0 (((w188.setCell ⟨gb199, 0, none⟩ (.int .i64 ji142)).setCell ⟨gb199, 1, none⟩ (.int .i64 ((rdOf ByteArray.empty l0 (ji142)).size : Int))).heap[gb190]? = some (.cells #[.int .i64 a2_0, .int .i64 a2_1, .int .i64 a2_2, .bool a2_3, .int .i64 a2_4] 38 (0, 0))) := ⟨by refine pk ?_; refine blk_far ?_ NB190_199.out _; refine pk ?_; refine blk_far ?_ NB190_199.out _; exact pk BK190.out⟩
                have n2_ : Aside0 (((w188.setCell ⟨gb199, 0, none⟩ (.int .i64 ji142)).setCell ⟨gb199, 1, none⟩ (.int .i64 ((rdOf ByteArray.empty l0 (ji142)).size : Int))).heap[gb191]? = some (.cells #[.int .i64 0, .int .i64 0, .int .i64 0, .int .i64 0, .int .i64 0] 43 (0, 0))) := ⟨by refine pk ?_; refine blk_far ?_ NB191_199.out _; refine pk ?_; refine blk_far ?_ NB191_199.out _; exact pk BK191.out⟩
                have n3_ : Aside0 (((w188.setCell ⟨gb199, 0, none⟩ (.int .i64 ji142)).setCell ⟨gb199, 1, none⟩ (.int .i64 ((rdOf ByteArray.empty l0 (ji142)).size : Int))).heap[gb198]? = some (.cells #[.int .i64 t194, .int .i64 t195] 28 (0, 0))) := ⟨by refine pk ?_; refine blk_far ?_ NB198_199.out _; refine pk ?_; refine blk_far ?_ NB198_199.out _; exact pk BK198.out⟩
                have n4_ : Aside0 (((w188.setCell ⟨gb199, 0, none⟩ (.int .i64 ji142)).setCell ⟨gb199, 1, none⟩ (.int .i64 ((rdOf ByteArray.empty l0 (ji142)).size : Int))).heap[gb199]? = some (.cells #[.int .i64 ji142, .int .i64 ((rdOf ByteArray.empty l0 (ji142)).size : Int)] 28 (0, 0))) := ⟨by refine pk ?_; refine blk_put (cs := #[.int .i64 ji142, .int .i64 t197]) ?_ 1 _ rfl; refine pk ?_; refine blk_put (cs := #[.int .i64 t196, .int .i64 t197]) ?_ 0 _ rfl; exact pk BK199.out⟩
                have n5_ : Aside0 (Below w.heap.size w ((w188.setCell ⟨gb199, 0, none⟩ (.int .i64 ji142)).setCell ⟨gb199, 1, none⟩ (.int .i64 ((rdOf ByteArray.empty l0 (ji142)).size : Int)))) := ⟨by repeat with_reducible first | exact HB.out | apply ba | apply bn | apply bd | refine bset ?_ (by assumption)⟩
                (try clear BK189)
                (try clear BK190)
                (try clear BK191)
                (try clear BK198)
                (try clear BK199)
                (try clear HB)
                generalize ((w188.setCell ⟨gb199, 0, none⟩ (.int .i64 ji142)).setCell ⟨gb199, 1, none⟩ (.int .i64 ((rdOf ByteArray.empty l0 (ji142)).size : Int))) = w191 at n0_ n1_ n2_ n3_ n4_ n5_ ⊢
                have BK189 := n0_
                have BK190 := n1_
                have BK191 := n2_
                have BK198 := n3_
                have BK199 := n4_
                have HB := n5_
                clear n0_ n1_ n2_ n3_ n4_ n5_
                have n0_ := Aside0.mk (blk_drew BK189.out)
                have n1_ := Aside0.mk (blk_drew BK190.out)
                have n2_ := Aside0.mk (blk_drew BK191.out)
                have n3_ := Aside0.mk (blk_drew BK198.out)
                have n4_ := Aside0.mk (blk_drew BK199.out)
                have n5_ := Aside0.mk (below_drew1 HB.out)
                clear BK189
                clear BK190
                clear BK191
                clear BK198
                clear BK199
                clear HB
                have BK189 := n0_
                have BK190 := n1_
                have BK191 := n2_
                have BK198 := n3_
                have BK199 := n4_
                have HB := n5_
                clear n0_ n1_ n2_ n3_ n4_ n5_
                have p207 : 0 ≤ (t194 : Int) := of_decide_eq_true (by first | (with_reducible assumption) | assumption)
                have q207 : t194 < (l0.length : Int) := of_decide_eq_true (by first | (with_reducible assumption) | assumption)
                obtain ⟨ad207, e207, hx207_0⟩ := Kd.at_string HR0.out t194 p207 q207
                have hw207_0 := hx207_0
                obtain rfl : ad206 = ad207 := (by injection e207)
                replace hx207_0 := (HB.out.cell (World.block_lt_of_cell? w _ hx207_0)).trans hx207_0
                replace p207 := eq_true p207
                replace q207 := eq_true q207
                refine start_ (n := 9) (S := fun w' => w'.cell? ⟨gb198, 0, none⟩ = some (.int .i64 t194) ∧ w'.cell? ⟨gb198, 1, none⟩ = some (.int .i64 t195) ∧ w'.cell? (ad206.add (t194).toNat) = some (.string (rdOf ByteArray.empty l0 t194))) (ds := []) #[false, false, false, false, false, false, false, false, false] (by kernel_rfl) rfl rfl ⟨(blk_cell BK198.out 0).trans rfl, (blk_cell BK198.out 1).trans rfl, ((HB.out.cell (World.block_lt_of_cell? w _ hw207_0)).trans hw207_0)⟩ (fun hHeld => ?_); refine with_tabW foolscapref25_Of.tab13 foolscapref25_Of.bits13 (fun HT_ HW_ => ?_)
                generalize w191.drew = w192 at BK189 BK190 BK191 BK198 BK199 HB hx207_0 hHeld ⊢
                refine pure_ (i := 0) (N := some 75) (v := ?_) (a' := ?_) #[true, false, false, false, false, false, false, false, false] rfl rfl (any_of HT_.out (by kernel_rfl)) (fun _ _ _ h => h) (Or.inl ⟨by rfl, ?_⟩) ?_ ?_
                rotate_left
                ·intro w'
                 go_simp
                 with_reducible rfl
                rotate_left
                ·simp only [Act.put, List.setIfInBounds_toArray, List.set_cons_zero, List.set_cons_succ, i64_w, i32_w]
                 rfl
                refine pure_ (i := 2) (N := some 77) (v := ?_) (a' := ?_) #[true, false, true, false, false, false, false, false, false] rfl rfl (any_of HT_.out (by kernel_rfl)) (fun _ _ _ h => h) (Or.inl ⟨by rfl, ?_⟩) ?_ ?_
                rotate_left
                ·intro w'
                 go_simp
                 with_reducible rfl
                rotate_left
                ·simp only [Act.put, List.setIfInBounds_toArray, List.set_cons_zero, List.set_cons_succ, i64_w, i32_w]
                 rfl
                refine pure_ (i := 3) (N := some 78) (v := ?_) (a' := ?_) #[true, false, true, true, false, false, false, false, false] rfl rfl (any_of HT_.out (by kernel_rfl)) (fun _ _ _ h => h) (Or.inl ⟨by rfl, ?_⟩) ?_ ?_
                rotate_left
                ·intro w'
                 go_simp
                 with_reducible rfl
                rotate_left
                ·simp only [Act.put, List.setIfInBounds_toArray, List.set_cons_zero, List.set_cons_succ, i64_w, i32_w]
                 rfl
                refine take_ (i := 1) (N := some 76) (v := ?_) (a' := ?_) #[true, true, true, true, false, false, false, false, false] rfl rfl (take_ofW HT_.out HW_.out (by kernel_rfl)) (fun _ _ _ h => h) (Or.inl ⟨by rfl, ?_⟩) hHeld ?_ ?_
                rotate_left
                ·rintro w' ⟨s0, s1, s2⟩
                 go_simp
                 with_reducible rfl
                rotate_left
                ·simp only [Act.put, List.setIfInBounds_toArray, List.set_cons_zero, List.set_cons_succ, i64_w, i32_w]
                 rfl
                refine take_ (i := 4) (N := some 79) (v := ?_) (a' := ?_) #[true, true, true, true, true, false, false, false, false] rfl rfl (take_ofW HT_.out HW_.out (by kernel_rfl)) (fun _ _ _ h => h) (Or.inl ⟨by rfl, ?_⟩) hHeld ?_ ?_
                rotate_left
                ·rintro w' ⟨s0, s1, s2⟩
                 go_simp
                 with_reducible rfl
                rotate_left
                ·simp only [Act.put, List.setIfInBounds_toArray, List.set_cons_zero, List.set_cons_succ, i64_w, i32_w]
                 rfl
                refine pure_ (i := 5) (N := some 80) (v := ?_) (a' := ?_) #[true, true, true, true, true, true, false, false, false] rfl rfl (any_of HT_.out (by kernel_rfl)) (fun _ _ _ h => h) (Or.inl ⟨by rfl, ?_⟩) ?_ ?_
                rotate_left
                ·intro w'
                 go_simp
                 with_reducible rfl
                rotate_left
                ·simp only [Act.put, List.setIfInBounds_toArray, List.set_cons_zero, List.set_cons_succ, i64_w, i32_w]
                 rfl
                refine take_ (i := 6) (N := some 81) (v := ?_) (a' := ?_) #[true, true, true, true, true, true, true, false, false] rfl rfl (take_ofW HT_.out HW_.out (by kernel_rfl)) (fun _ _ _ h => h) (Or.inl ⟨by rfl, ?_⟩) hHeld ?_ ?_
                rotate_left
                ·rintro w' ⟨s0, s1, s2⟩
                 go_simp
                 with_reducible rfl
                rotate_left
                ·simp only [Act.put, List.setIfInBounds_toArray, List.set_cons_zero, List.set_cons_succ, i64_w, i32_w]
                 rfl
                refine one_ (i := 7) (N := some 82) #[true, true, true, true, true, true, true, true, false] rfl rfl (one_of HT_.out (by kernel_rfl)) (by decide) (fun K hK => ?_)
                refine goes_ Try.func16 (by kernel_rfl) rfl #[.string (rdOf ByteArray.empty l0 t194)] (by rfl) rfl rfl (by first | rfl | (simp only [List.map_toArray, List.map_cons, List.map_nil] <;> rfl)) ?_
                with_reducible refine (foolscapref5_First.calls kj102 (rdOf ByteArray.empty l0 t194) t208 _ A147.out).mono ?_
                rintro e w193 ⟨rfl, hb⟩
                refine ⟨_, rfl, ?_⟩
                have n0_ := Aside0.mk (blk_below (pk BK189.out) hb)
                have n1_ := Aside0.mk (blk_below (pk BK190.out) hb)
                have n2_ := Aside0.mk (blk_below (pk BK191.out) hb)
                have n3_ := Aside0.mk (blk_below (pk BK198.out) hb)
                have n4_ := Aside0.mk (blk_below (pk BK199.out) hb)
                have n5_ := Aside0.mk (below_step (by repeat with_reducible first | exact HB.out | apply ba | apply bn | apply bd | refine bset ?_ (by assumption)) hb)
                clear BK189
                clear BK190
                clear BK191
                clear BK198
                clear BK199
                clear HB
                have BK189 := n0_
                have BK190 := n1_
                have BK191 := n2_
                have BK198 := n3_
                have BK199 := n4_
                have HB := n5_
                clear n0_ n1_ n2_ n3_ n4_ n5_
                (try clear hb)
                (try clear hb2)
                (try clear hk)
                (try clear hi)
                refine hK.out _ _ ⟨(blk_cell BK198.out 0).trans rfl, (blk_cell BK198.out 1).trans rfl, ((HB.out.cell (World.block_lt_of_cell? w _ hw207_0)).trans hw207_0)⟩ (fun hHeld => ?_)
                clear hK K
                refine norm_ (a' := ?_) ?_ ?_
                rotate_left
                ·show Act.put _ (some 82) _ = _
                 simp only [Act.put, List.setIfInBounds_toArray, List.set_cons_zero, List.set_cons_succ, i64_w, i32_w]
                 rfl
                refine pure_ (i := 8) (N := some 83) (v := ?_) (a' := ?_) #[true, true, true, true, true, true, true, true, true] rfl rfl (any_of HT_.out (by kernel_rfl)) (fun _ _ _ h => h) (Or.inl ⟨by rfl, ?_⟩) ?_ ?_
                rotate_left
                ·intro w'
                 go_simp
                 with_reducible rfl
                rotate_left
                ·simp only [Act.put, List.setIfInBounds_toArray, List.set_cons_zero, List.set_cons_succ, i64_w, i32_w]
                 rfl
                refine done_ (done_of HT_.out (by kernel_rfl)) ?_
                have hnb194 := NB198_189.out
                have hnc194 := NB189_198.out
                have hnb195 := NB198_190.out
                have hnc195 := NB190_198.out
                have hnb196 := NB198_191.out
                have hnc196 := NB191_198.out
                have hnb197 := NB198_199.out
                have hnc197 := NB199_198.out
                have hcz198_0 : w193.cell? ⟨gb198, 0, none⟩ = some (.int .i64 t194) := (blk_cell BK198.out 0).trans rfl
                have hcz198_1 : w193.cell? ⟨gb198, 1, none⟩ = some (.int .i64 t195) := (blk_cell BK198.out 1).trans rfl
                have hfz198_0 := blk_frozen BK198.out 0
                have hfz198_1 := blk_frozen BK198.out 1
                have hnb199 := NB199_189.out
                have hnc199 := NB189_199.out
                have hnb200 := NB199_190.out
                have hnc200 := NB190_199.out
                have hnb201 := NB199_191.out
                have hnc201 := NB191_199.out
                have hcz202_0 : w193.cell? ⟨gb199, 0, none⟩ = some (.int .i64 ji142) := (blk_cell BK199.out 0).trans rfl
                have hcz202_1 : w193.cell? ⟨gb199, 1, none⟩ = some (.int .i64 ((rdOf ByteArray.empty l0 (ji142)).size : Int)) := (blk_cell BK199.out 1).trans rfl
                have hfz202_0 := blk_frozen BK199.out 0
                have hfz202_1 := blk_frozen BK199.out 1
                have hnb203 := NB191_189.out
                have hnc203 := NB189_191.out
                have hnb204 := NB191_190.out
                have hnc204 := NB190_191.out
                have hcz205_0 : w193.cell? ⟨gb191, 0, none⟩ = some (.int .i64 0) := (blk_cell BK191.out 0).trans rfl
                have hcz205_1 : w193.cell? ⟨gb191, 1, none⟩ = some (.int .i64 0) := (blk_cell BK191.out 1).trans rfl
                have hcz205_2 : w193.cell? ⟨gb191, 2, none⟩ = some (.int .i64 0) := (blk_cell BK191.out 2).trans rfl
                have hcz205_3 : w193.cell? ⟨gb191, 3, none⟩ = some (.int .i64 0) := (blk_cell BK191.out 3).trans rfl
                have hcz205_4 : w193.cell? ⟨gb191, 4, none⟩ = some (.int .i64 0) := (blk_cell BK191.out 4).trans rfl
                have hfz205_0 := blk_frozen BK191.out 0
                have hfz205_1 := blk_frozen BK191.out 1
                have hfz205_2 := blk_frozen BK191.out 2
                have hfz205_3 := blk_frozen BK191.out 3
                have hfz205_4 := blk_frozen BK191.out 4
                try go_wp2
                refine bodyPost_ret (results_ct rfl _ _ gb191 43 #[.int .i64 0, .int .i64 t194, .int .i64 t195, .int .i64 ji142, .int .i64 ((rdOf ByteArray.empty l0 (ji142)).size : Int)] (0, 0) _ rfl (by refine pk ?_; refine blk_put (cs := #[.int .i64 0, .int .i64 t194, .int .i64 t195, .int .i64 ji142, .int .i64 0]) ?_ 4 _ rfl; refine pk ?_; refine blk_put (cs := #[.int .i64 0, .int .i64 t194, .int .i64 t195, .int .i64 0, .int .i64 0]) ?_ 3 _ rfl; refine pk ?_; refine blk_put (cs := #[.int .i64 0, .int .i64 t194, .int .i64 0, .int .i64 0, .int .i64 0]) ?_ 2 _ rfl; refine pk ?_; refine blk_put (cs := #[.int .i64 0, .int .i64 0, .int .i64 0, .int .i64 0, .int .i64 0]) ?_ 1 _ rfl; refine pk ?_; refine blk_put (cs := #[.int .i64 0, .int .i64 0, .int .i64 0, .int .i64 0, .int .i64 0]) ?_ 0 _ rfl; exact pk BK191.out) Try.underlying43 rfl (by kernel_rfl)) rfl ?_
                exact ⟨by first | rfl | (simp [errW_none, errW_some] <;> rfl) | (simp only [← hji142]; first | rfl | (simp [errW_none, errW_some] <;> rfl)) | (simp [*, errW_none, errW_some] <;> rfl), by repeat with_reducible first | exact HB.out | apply ba | apply bn | apply bd | refine bset ?_ (by assumption)⟩
             ·rw [if_neg c146] at H
              exact absurd H (by simp)
            ·rw [if_neg c145] at H
             exact absurd H (by simp)
           ·rw [if_neg c144] at H
            exact absurd H (by simp)
          ·rw [if_neg c143] at H
           exact absurd H (by simp)
         ·replace c141 := Bool.eq_false_iff.mpr c141
          subst c141
          have H1 : (if (t194 == t196 && (t195 == t197)) = true then (some (0, 0, 0, 0, 0, false)) else (some (0, t194, t195, t196, t197, true))) = some (r1, r2, r3, r4, r5, r6) := by rw [if_neg (show ¬ (false = true) by decide)] at H; exact H
          clear H
          have H := H1
          clear H1
          by_cases c206 : (t194 == t196 && (t195 == t197)) = true
          ·rw [if_pos c206] at H
           have c206b0 : (t194 == t196 && (t195 == t197)) = true := c206
           (try (have c206b1 : decide (t194 = t196 && (t195 == t197)) = true := by simpa using c206))
           (try (have c206b2 : (t194 == t196 && (t195 == t197)) = true := by simpa using c206))
           clear c206
           simp only [Option.some.injEq, Prod.mk.injEq] at H
           obtain ⟨rfl, rfl, rfl, rfl, rfl, rfl⟩ := H
           have hnb207 := NB198_189.out
           have hnc207 := NB189_198.out
           have hnb208 := NB198_190.out
           have hnc208 := NB190_198.out
           have hnb209 := NB198_191.out
           have hnc209 := NB191_198.out
           have hnb210 := NB198_199.out
           have hnc210 := NB199_198.out
           have hcz211_0 : wc.cell? ⟨gb198, 0, none⟩ = some (.int .i64 t194) := (blk_cell BK198.out 0).trans rfl
           have hcz211_1 : wc.cell? ⟨gb198, 1, none⟩ = some (.int .i64 t195) := (blk_cell BK198.out 1).trans rfl
           have hfz211_0 := blk_frozen BK198.out 0
           have hfz211_1 := blk_frozen BK198.out 1
           have hnb212 := NB199_189.out
           have hnc212 := NB189_199.out
           have hnb213 := NB199_190.out
           have hnc213 := NB190_199.out
           have hnb214 := NB199_191.out
           have hnc214 := NB191_199.out
           have hcz215_0 : wc.cell? ⟨gb199, 0, none⟩ = some (.int .i64 t196) := (blk_cell BK199.out 0).trans rfl
           have hcz215_1 : wc.cell? ⟨gb199, 1, none⟩ = some (.int .i64 t197) := (blk_cell BK199.out 1).trans rfl
           have hfz215_0 := blk_frozen BK199.out 0
           have hfz215_1 := blk_frozen BK199.out 1
           have hnb216 := NB191_189.out
           have hnc216 := NB189_191.out
           have hnb217 := NB191_190.out
           have hnc217 := NB190_191.out
           have hcz218_0 : wc.cell? ⟨gb191, 0, none⟩ = some (.int .i64 0) := (blk_cell BK191.out 0).trans rfl
           have hcz218_1 : wc.cell? ⟨gb191, 1, none⟩ = some (.int .i64 0) := (blk_cell BK191.out 1).trans rfl
           have hcz218_2 : wc.cell? ⟨gb191, 2, none⟩ = some (.int .i64 0) := (blk_cell BK191.out 2).trans rfl
           have hcz218_3 : wc.cell? ⟨gb191, 3, none⟩ = some (.int .i64 0) := (blk_cell BK191.out 3).trans rfl
           have hcz218_4 : wc.cell? ⟨gb191, 4, none⟩ = some (.int .i64 0) := (blk_cell BK191.out 4).trans rfl
           have hfz218_0 := blk_frozen BK191.out 0
           have hfz218_1 := blk_frozen BK191.out 1
           have hfz218_2 := blk_frozen BK191.out 2
           have hfz218_3 := blk_frozen BK191.out 3
           have hfz218_4 := blk_frozen BK191.out 4
           go_wp2
           refine bodyPost_ret (results_ct rfl _ _ gb191 43 #[.int .i64 0, .int .i64 0, .int .i64 0, .int .i64 0, .int .i64 0] (0, 0) _ rfl (by refine pk ?_; refine blk_put (cs := #[.int .i64 0, .int .i64 0, .int .i64 0, .int .i64 0, .int .i64 0]) ?_ 4 _ rfl; refine pk ?_; refine blk_put (cs := #[.int .i64 0, .int .i64 0, .int .i64 0, .int .i64 0, .int .i64 0]) ?_ 3 _ rfl; refine pk ?_; refine blk_put (cs := #[.int .i64 0, .int .i64 0, .int .i64 0, .int .i64 0, .int .i64 0]) ?_ 2 _ rfl; refine pk ?_; refine blk_put (cs := #[.int .i64 0, .int .i64 0, .int .i64 0, .int .i64 0, .int .i64 0]) ?_ 1 _ rfl; refine pk ?_; refine blk_put (cs := #[.int .i64 0, .int .i64 0, .int .i64 0, .int .i64 0, .int .i64 0]) ?_ 0 _ rfl; exact pk BK191.out) Try.underlying43 rfl (by kernel_rfl)) rfl ?_
           exact ⟨by first | rfl | (simp [errW_none, errW_some] <;> rfl) | (simp [*, errW_none, errW_some] <;> rfl), by repeat with_reducible first | exact HB.out | apply ba | apply bn | apply bd | refine bset ?_ (by assumption)⟩
          ·rw [if_neg c206] at H
           have c206b0 : (t194 == t196 && (t195 == t197)) = false := by simpa using c206
           (try (have c206b1 : decide (t194 = t196 && (t195 == t197)) = false := by simpa using c206))
           (try (have c206b2 : (t194 == t196 && (t195 == t197)) = false := by simpa using c206))
           (try (have c206b3 : ¬ (t194 = t196 && (t195 == t197)) := by simpa using c206))
           clear c206
           simp only [Option.some.injEq, Prod.mk.injEq] at H
           obtain ⟨rfl, rfl, rfl, rfl, rfl, rfl⟩ := H
           have hnb219 := NB198_189.out
           have hnc219 := NB189_198.out
           have hnb220 := NB198_190.out
           have hnc220 := NB190_198.out
           have hnb221 := NB198_191.out
           have hnc221 := NB191_198.out
           have hnb222 := NB198_199.out
           have hnc222 := NB199_198.out
           have hcz223_0 : wc.cell? ⟨gb198, 0, none⟩ = some (.int .i64 t194) := (blk_cell BK198.out 0).trans rfl
           have hcz223_1 : wc.cell? ⟨gb198, 1, none⟩ = some (.int .i64 t195) := (blk_cell BK198.out 1).trans rfl
           have hfz223_0 := blk_frozen BK198.out 0
           have hfz223_1 := blk_frozen BK198.out 1
           have hnb224 := NB199_189.out
           have hnc224 := NB189_199.out
           have hnb225 := NB199_190.out
           have hnc225 := NB190_199.out
           have hnb226 := NB199_191.out
           have hnc226 := NB191_199.out
           have hcz227_0 : wc.cell? ⟨gb199, 0, none⟩ = some (.int .i64 t196) := (blk_cell BK199.out 0).trans rfl
           have hcz227_1 : wc.cell? ⟨gb199, 1, none⟩ = some (.int .i64 t197) := (blk_cell BK199.out 1).trans rfl
           have hfz227_0 := blk_frozen BK199.out 0
           have hfz227_1 := blk_frozen BK199.out 1
           have hnb228 := NB191_189.out
           have hnc228 := NB189_191.out
           have hnb229 := NB191_190.out
           have hnc229 := NB190_191.out
           have hcz230_0 : wc.cell? ⟨gb191, 0, none⟩ = some (.int .i64 0) := (blk_cell BK191.out 0).trans rfl
           have hcz230_1 : wc.cell? ⟨gb191, 1, none⟩ = some (.int .i64 0) := (blk_cell BK191.out 1).trans rfl
           have hcz230_2 : wc.cell? ⟨gb191, 2, none⟩ = some (.int .i64 0) := (blk_cell BK191.out 2).trans rfl
           have hcz230_3 : wc.cell? ⟨gb191, 3, none⟩ = some (.int .i64 0) := (blk_cell BK191.out 3).trans rfl
           have hcz230_4 : wc.cell? ⟨gb191, 4, none⟩ = some (.int .i64 0) := (blk_cell BK191.out 4).trans rfl
           have hfz230_0 := blk_frozen BK191.out 0
           have hfz230_1 := blk_frozen BK191.out 1
           have hfz230_2 := blk_frozen BK191.out 2
           have hfz230_3 := blk_frozen BK191.out 3
           have hfz230_4 := blk_frozen BK191.out 4
           go_wp2
           refine bodyPost_ret (results_ct rfl _ _ gb191 43 #[.int .i64 0, .int .i64 t194, .int .i64 t195, .int .i64 t196, .int .i64 t197] (0, 0) _ rfl (by refine pk ?_; refine blk_put (cs := #[.int .i64 0, .int .i64 t194, .int .i64 t195, .int .i64 t196, .int .i64 0]) ?_ 4 _ rfl; refine pk ?_; refine blk_put (cs := #[.int .i64 0, .int .i64 t194, .int .i64 t195, .int .i64 0, .int .i64 0]) ?_ 3 _ rfl; refine pk ?_; refine blk_put (cs := #[.int .i64 0, .int .i64 t194, .int .i64 0, .int .i64 0, .int .i64 0]) ?_ 2 _ rfl; refine pk ?_; refine blk_put (cs := #[.int .i64 0, .int .i64 0, .int .i64 0, .int .i64 0, .int .i64 0]) ?_ 1 _ rfl; refine pk ?_; refine blk_put (cs := #[.int .i64 0, .int .i64 0, .int .i64 0, .int .i64 0, .int .i64 0]) ?_ 0 _ rfl; exact pk BK191.out) Try.underlying43 rfl (by kernel_rfl)) rfl ?_
           exact ⟨by first | rfl | (simp [errW_none, errW_some] <;> rfl) | (simp [*, errW_none, errW_some] <;> rfl), by repeat with_reducible first | exact HB.out | apply ba | apply bn | apply bd | refine bset ?_ (by assumption)⟩
      ·rw [if_neg c102] at H
       have c102b0 : (a2_2 == 0) = false := beq_eq_false_iff_ne.mpr c102
       have c102b1 : (a2_2 != 0) = true := bne_iff_ne.mpr c102
       simp only [Option.some.injEq, Prod.mk.injEq] at H
       obtain ⟨rfl, rfl, rfl, rfl, rfl, rfl⟩ := H
       have hnb231 := NB189_190.out
       have hnc231 := NB190_189.out
       have hnb232 := NB189_191.out
       have hnc232 := NB191_189.out
       have hcz233_0 : wc.cell? ⟨gb189, 0, none⟩ = some (.int .i64 a1_0) := (blk_cell BK189.out 0).trans rfl
       have hcz233_1 : wc.cell? ⟨gb189, 1, none⟩ = some (.int .i64 a1_1) := (blk_cell BK189.out 1).trans rfl
       have hfz233_0 := blk_frozen BK189.out 0
       have hfz233_1 := blk_frozen BK189.out 1
       have hnb234 := NB190_191.out
       have hnc234 := NB191_190.out
       have hcz235_0 : wc.cell? ⟨gb190, 0, none⟩ = some (.int .i64 a2_0) := (blk_cell BK190.out 0).trans rfl
       have hcz235_1 : wc.cell? ⟨gb190, 1, none⟩ = some (.int .i64 a2_1) := (blk_cell BK190.out 1).trans rfl
       have hcz235_2 : wc.cell? ⟨gb190, 2, none⟩ = some (.int .i64 a2_2) := (blk_cell BK190.out 2).trans rfl
       have hcz235_3 : wc.cell? ⟨gb190, 3, none⟩ = some (.bool a2_3) := (blk_cell BK190.out 3).trans rfl
       have hcz235_4 : wc.cell? ⟨gb190, 4, none⟩ = some (.int .i64 a2_4) := (blk_cell BK190.out 4).trans rfl
       have hfz235_0 := blk_frozen BK190.out 0
       have hfz235_1 := blk_frozen BK190.out 1
       have hfz235_2 := blk_frozen BK190.out 2
       have hfz235_3 := blk_frozen BK190.out 3
       have hfz235_4 := blk_frozen BK190.out 4
       go_wp2_with (first | ((with_reducible refine gate_callee (f := 40) rfl ?_); refine goesL_ (some 26) rfl rfl Try.func40 (by kernel_rfl) rfl #[.agg #[.int .i64 a1_0, .int .i64 a1_1], .agg #[.int .i64 a2_0, .int .i64 a2_1]] rfl (by first | rfl | (simp only [List.map_toArray, List.map_cons, List.map_nil] <;> rfl)) ?_; (with_reducible refine (foolscapref5_Order.calls a1_0 a1_1 a2_0 a2_1 t194 t195 t196 t197 _ A26.out).mono ?_); rintro e w236 ⟨rfl, hb⟩; refine ⟨_, rfl, ?_⟩; have n0_ := Aside0.mk (blk_below (pk BK189.out) hb); have n1_ := Aside0.mk (blk_below (pk BK190.out) hb); have n2_ := Aside0.mk (blk_below (pk BK191.out) hb); have n3_ := Aside0.mk (below_step (by repeat with_reducible first | exact HB.out | apply ba | apply bn | apply bd | refine bset ?_ (by assumption)) hb); clear BK189; clear BK190; clear BK191; clear HB; have BK189 := n0_; have BK190 := n1_; have BK191 := n2_; have HB := n3_; clear n0_ n1_ n2_ n3_; (try clear hb); (try clear hb2); (try clear hk); (try clear hi)) | ((with_reducible refine gate_dst (N := 8) rfl ?_); refine box_event ?hg (N := 8) ?hd (cs := #[.int .i64 0, .int .i64 0]) (t := 28) ?hr ?_; (case hd => rfl); (case hg => rfl); (case hr => first | (go_simp; done) | (go_simp; rfl)); intro gb198 hg w237 hbox hb; have n0_ := Aside0.mk (blk_below (pk BK189.out) hb); have n1_ := Aside0.mk (blk_below (pk BK190.out) hb); have n2_ := Aside0.mk (blk_below (pk BK191.out) hb); have n3_ := Aside0.mk (below_step (by repeat with_reducible first | exact HB.out | apply ba | apply bn | apply bd | refine bset ?_ (by assumption)) hb); have n4_ := Aside0.mk (hbox); have n5_ := Aside0.mk ((by rw [hg]; exact (below_size (by repeat with_reducible first | exact HB.out | apply ba | apply bn | apply bd | refine bset ?_ (by assumption))) : w.heap.size ≤ gb198)); have n6_ := n5_; have n7_ := Aside0.mk ((by rw [hg]; exact Nat.ne_of_lt (blk_lt (pk BK189.out)) : gb189 ≠ gb198)); have n8_ := Aside0.mk ((by rw [hg]; exact Nat.ne_of_gt (blk_lt (pk BK189.out)) : gb198 ≠ gb189)); have n9_ := Aside0.mk ((by rw [hg]; exact Nat.ne_of_lt (blk_lt (pk BK190.out)) : gb190 ≠ gb198)); have n10_ := Aside0.mk ((by rw [hg]; exact Nat.ne_of_gt (blk_lt (pk BK190.out)) : gb198 ≠ gb190)); have n11_ := Aside0.mk ((by rw [hg]; exact Nat.ne_of_lt (blk_lt (pk BK191.out)) : gb191 ≠ gb198)); have n12_ := Aside0.mk ((by rw [hg]; exact Nat.ne_of_gt (blk_lt (pk BK191.out)) : gb198 ≠ gb191)); clear BK189; clear BK190; clear BK191; clear HB; have BK189 := n0_; have BK190 := n1_; have BK191 := n2_; have HB := n3_; have BK198 := n4_; have GW198 := n5_; have GE198 := n6_; have NB189_198 := n7_; have NB198_189 := n8_; have NB190_198 := n9_; have NB198_190 := n10_; have NB191_198 := n11_; have NB198_191 := n12_; clear n0_ n1_ n2_ n3_ n4_ n5_ n6_ n7_ n8_ n9_ n10_ n11_ n12_; clear hb hbox hg) | ((with_reducible refine gate_dst (N := 9) rfl ?_); refine box_event ?hg (N := 9) ?hd (cs := #[.int .i64 0, .int .i64 0]) (t := 28) ?hr ?_; (case hd => rfl); (case hg => rfl); (case hr => first | (go_simp; done) | (go_simp; rfl)); intro gb199 hg w238 hbox hb; have n0_ := Aside0.mk (blk_below (pk BK189.out) hb); have n1_ := Aside0.mk (blk_below (pk BK190.out) hb); have n2_ := Aside0.mk (blk_below (pk BK191.out) hb); have n3_ := Aside0.mk (blk_below (pk BK198.out) hb); have n4_ := Aside0.mk (below_step (by repeat with_reducible first | exact HB.out | apply ba | apply bn | apply bd | refine bset ?_ (by assumption)) hb); have n5_ := Aside0.mk (hbox); have n6_ := Aside0.mk ((by rw [hg]; exact (below_size (by repeat with_reducible first | exact HB.out | apply ba | apply bn | apply bd | refine bset ?_ (by assumption))) : w.heap.size ≤ gb199)); have n7_ := n6_; have n8_ := Aside0.mk ((by rw [hg]; exact Nat.ne_of_lt (blk_lt (pk BK189.out)) : gb189 ≠ gb199)); have n9_ := Aside0.mk ((by rw [hg]; exact Nat.ne_of_gt (blk_lt (pk BK189.out)) : gb199 ≠ gb189)); have n10_ := Aside0.mk ((by rw [hg]; exact Nat.ne_of_lt (blk_lt (pk BK190.out)) : gb190 ≠ gb199)); have n11_ := Aside0.mk ((by rw [hg]; exact Nat.ne_of_gt (blk_lt (pk BK190.out)) : gb199 ≠ gb190)); have n12_ := Aside0.mk ((by rw [hg]; exact Nat.ne_of_lt (blk_lt (pk BK191.out)) : gb191 ≠ gb199)); have n13_ := Aside0.mk ((by rw [hg]; exact Nat.ne_of_gt (blk_lt (pk BK191.out)) : gb199 ≠ gb191)); have n14_ := Aside0.mk ((by rw [hg]; exact Nat.ne_of_lt (blk_lt (pk BK198.out)) : gb198 ≠ gb199)); have n15_ := Aside0.mk ((by rw [hg]; exact Nat.ne_of_gt (blk_lt (pk BK198.out)) : gb199 ≠ gb198)); clear BK189; clear BK190; clear BK191; clear BK198; clear HB; have BK189 := n0_; have BK190 := n1_; have BK191 := n2_; have BK198 := n3_; have HB := n4_; have BK199 := n5_; have GW199 := n6_; have GE199 := n7_; have NB189_199 := n8_; have NB199_189 := n9_; have NB190_199 := n10_; have NB199_190 := n11_; have NB191_199 := n12_; have NB199_191 := n13_; have NB198_199 := n14_; have NB199_198 := n15_; clear n0_ n1_ n2_ n3_ n4_ n5_ n6_ n7_ n8_ n9_ n10_ n11_ n12_ n13_ n14_ n15_; clear hb hbox hg; have hnb239 := NB198_189.out; have hnc239 := NB189_198.out; have hnb240 := NB198_190.out; have hnc240 := NB190_198.out; have hnb241 := NB198_191.out; have hnc241 := NB191_198.out; have hnb242 := NB198_199.out; have hnc242 := NB199_198.out; have hcz243_0 : w238.cell? ⟨gb198, 0, none⟩ = some (.int .i64 0) := (blk_cell BK198.out 0).trans rfl; have hcz243_1 : w238.cell? ⟨gb198, 1, none⟩ = some (.int .i64 0) := (blk_cell BK198.out 1).trans rfl; have hfz243_0 := blk_frozen BK198.out 0; have hfz243_1 := blk_frozen BK198.out 1; have hnb244 := NB199_189.out; have hnc244 := NB189_199.out; have hnb245 := NB199_190.out; have hnc245 := NB190_199.out; have hnb246 := NB199_191.out; have hnc246 := NB191_199.out; have hcz247_0 : w238.cell? ⟨gb199, 0, none⟩ = some (.int .i64 0) := (blk_cell BK199.out 0).trans rfl; have hcz247_1 : w238.cell? ⟨gb199, 1, none⟩ = some (.int .i64 0) := (blk_cell BK199.out 1).trans rfl; have hfz247_0 := blk_frozen BK199.out 0; have hfz247_1 := blk_frozen BK199.out 1; have hcz248_0 : w238.cell? ⟨gb190, 0, none⟩ = some (.int .i64 a2_0) := (blk_cell BK190.out 0).trans rfl; have hcz248_1 : w238.cell? ⟨gb190, 1, none⟩ = some (.int .i64 a2_1) := (blk_cell BK190.out 1).trans rfl; have hcz248_2 : w238.cell? ⟨gb190, 2, none⟩ = some (.int .i64 a2_2) := (blk_cell BK190.out 2).trans rfl; have hcz248_3 : w238.cell? ⟨gb190, 3, none⟩ = some (.bool a2_3) := (blk_cell BK190.out 3).trans rfl; have hcz248_4 : w238.cell? ⟨gb190, 4, none⟩ = some (.int .i64 a2_4) := (blk_cell BK190.out 4).trans rfl; have hfz248_0 := blk_frozen BK190.out 0; have hfz248_1 := blk_frozen BK190.out 1; have hfz248_2 := blk_frozen BK190.out 2; have hfz248_3 := blk_frozen BK190.out 3; have hfz248_4 := blk_frozen BK190.out 4; have hcz249_0 : w238.cell? ⟨gb191, 0, none⟩ = some (.int .i64 0) := (blk_cell BK191.out 0).trans rfl; have hcz249_1 : w238.cell? ⟨gb191, 1, none⟩ = some (.int .i64 0) := (blk_cell BK191.out 1).trans rfl; have hcz249_2 : w238.cell? ⟨gb191, 2, none⟩ = some (.int .i64 0) := (blk_cell BK191.out 2).trans rfl; have hcz249_3 : w238.cell? ⟨gb191, 3, none⟩ = some (.int .i64 0) := (blk_cell BK191.out 3).trans rfl; have hcz249_4 : w238.cell? ⟨gb191, 4, none⟩ = some (.int .i64 0) := (blk_cell BK191.out 4).trans rfl; have hfz249_0 := blk_frozen BK191.out 0; have hfz249_1 := blk_frozen BK191.out 1; have hfz249_2 := blk_frozen BK191.out 2; have hfz249_3 := blk_frozen BK191.out 3; have hfz249_4 := blk_frozen BK191.out 4))
       refine bodyPost_ret (results_ct rfl _ _ gb191 43 #[.int .i64 0, .int .i64 0, .int .i64 0, .int .i64 0, .int .i64 0] (0, 0) _ rfl (by refine pk ?_; refine blk_put (cs := #[.int .i64 0, .int .i64 0, .int .i64 0, .int .i64 0, .int .i64 0]) ?_ 4 _ rfl; refine pk ?_; refine blk_put (cs := #[.int .i64 0, .int .i64 0, .int .i64 0, .int .i64 0, .int .i64 0]) ?_ 3 _ rfl; refine pk ?_; refine blk_put (cs := #[.int .i64 0, .int .i64 0, .int .i64 0, .int .i64 0, .int .i64 0]) ?_ 2 _ rfl; refine pk ?_; refine blk_put (cs := #[.int .i64 0, .int .i64 0, .int .i64 0, .int .i64 0, .int .i64 0]) ?_ 1 _ rfl; refine pk ?_; refine blk_put (cs := #[.int .i64 0, .int .i64 0, .int .i64 0, .int .i64 0, .int .i64 0]) ?_ 0 _ rfl; refine pk ?_; refine blk_far ?_ NB191_199.out _; refine pk ?_; refine blk_far ?_ NB191_199.out _; refine pk ?_; refine blk_far ?_ NB191_198.out _; refine pk ?_; refine blk_far ?_ NB191_198.out _; exact pk BK191.out) Try.underlying43 rfl (by kernel_rfl)) rfl ?_
       exact ⟨by first | rfl | (simp [errW_none, errW_some] <;> rfl) | (simp [*, errW_none, errW_some] <;> rfl), by repeat with_reducible first | exact HB.out | apply ba | apply bn | apply bd | refine bset ?_ (by assumption)⟩

end Go.Proofs.Ytdcbgmeljakmcaa.MAreaOf
