/- What the Go functions of this law compute, and that they do: written by this session's own program (wip/myprint), for all inputs that the print's conditions name. -/
import Derived.Test.YtdcbgmeljakmcaaMAreaLinesx0
import Derived.Test.YtdcbgmeljakmcaaMAreaLinesx1
import Derived.Test.YtdcbgmeljakmcaaMAreaLinesx5
import Derived.Test.YtdcbgmeljakmcaaMAreaLinesx6
import Derived.Test.YtdcbgmeljakmcaaMAreaLinesx7
namespace Go.Proofs.Ytdcbgmeljakmcaa.MAreaLines
open Go.RowKit Go.Proofs.YtdcbgmeljakmcaaW.PrintWords Go.Proofs.YtdcbgmeljakmcaaW.PrintLast Go.Proofs.Ytdcbgmeljakmcaa.Few
attribute [local go_sem] max2_int min2_int max_two min_two
set_option linter.unusedVariables false
set_option linter.unusedSimpArgs false

attribute [local go_sem high] eqA28
/-! ### area_Of: function 27 -/
mutual
def area_Of.j0 : Nat → List ByteArray → Bool → Int → Int → Int → Int → Int → Bool → Int → Option (Int × Int × Int × Int × Int × Bool)
 | 0, _, _, _, _, _, _, _, _, _ => none
 | k + 1, x0, x21, x121000, x121001, x122000, x122001, x122002, x122003, x122004 => if x21 = true then (some (0, 0, 0, 0, 0, false)) else ((span_Order.f x121000 x121001 x122000 x122001).bind fun bt125 => (if x122002 = 2 then ((area_whole.f bt125.1 bt125.2.2.1).bind fun bt132 => (some (bt132.1, bt132.2.1, bt132.2.2.1, bt132.2.2.2.1, bt132.2.2.2.2.1, bt132.2.2.2.2.2))) else (if x122002 = 1 then ((area_with.f x0 bt125.1 bt125.2.1 bt125.2.2.1 bt125.2.2.2).bind fun bt138 => (if (bt138.2.1 == bt138.2.2.2.1 && (bt138.2.2.1 == bt138.2.2.2.2)) = true then (some (0, 0, 0, 0, 0, false)) else (some (bt138.1, bt138.2.1, bt138.2.2.1, bt138.2.2.2.1, bt138.2.2.2.2, true)))) else (if x122002 = 0 then (if bt125.1 < bt125.2.2.1 then (area_Of.j1 k x0 (bt125.2.2.2 == 0) bt125.1 bt125.2.1 bt125.2.2.1 bt125.2.2.2 0 bt125.1 bt125.2.1 bt125.2.2.1 bt125.2.2.2) else (area_Of.j1 k x0 false bt125.1 bt125.2.1 bt125.2.2.1 bt125.2.2.2 0 bt125.1 bt125.2.1 bt125.2.2.1 bt125.2.2.2)) else (some (0, 0, 0, 0, 0, false))))))
def area_Of.j1 : Nat → List ByteArray → Bool → Int → Int → Int → Int → Int → Int → Int → Int → Int → Option (Int × Int × Int × Int × Int × Bool)
 | 0, _, _, _, _, _, _, _, _, _, _, _ => none
 | k + 1, x0, x57, x130000, x130001, x131000, x131001, x132000, x132001, x132002, x132003, x132004 => if x57 = true then (if 0 ≤ x130000 then (if x130000 < (x0.length : Int) then ((class_First.f k (rdOf ByteArray.empty x0 x130000)).bind fun t144 => (if x130001 ≤ t144 then ((area_whole.f x130000 (wrap64 (x131000 - 1))).bind fun bt145 => (some (bt145.1, bt145.2.1, bt145.2.2.1, bt145.2.2.2.1, bt145.2.2.2.2.1, bt145.2.2.2.2.2))) else (if 0 ≤ (wrap64 (x131000 - 1)) then (if (wrap64 (x131000 - 1)) < (x0.length : Int) then (if (x132001 == (wrap64 (x131000 - 1)) && (x132002 == ((rdOf ByteArray.empty x0 (wrap64 (x131000 - 1))).size : Int))) = true then (some (0, 0, 0, 0, 0, false)) else (some (x132000, x132001, x132002, wrap64 (x131000 - 1), ((rdOf ByteArray.empty x0 (wrap64 (x131000 - 1))).size : Int), true))) else (none)) else (none)))) else (none)) else (none)) else (if (x132001 == x132003 && (x132002 == x132004)) = true then (some (0, 0, 0, 0, 0, false)) else (some (x132000, x132001, x132002, x132003, x132004, true)))
end
def area_Of.f (k : Nat) (l0 : List ByteArray) (a1_0 : Int) (a1_1 : Int) (a2_0 : Int) (a2_1 : Int) (a2_2 : Int) (a2_3 : Bool) (a2_4 : Int) : Option (Int × Int × Int × Int × Int × Bool) := (class_Place.f l0 a1_0 a1_1).bind fun t123 => (if t123 = true then ((class_Place.f l0 a2_0 a2_1).bind fun t124 => (area_Of.j0 k l0 (!t124) a1_0 a1_1 a2_0 a2_1 a2_2 a2_3 a2_4)) else (area_Of.j0 k l0 true a1_0 a1_1 a2_0 a2_1 a2_2 a2_3 a2_4))
theorem area_Of.mono_l : ∀ k, (∀ y0 y1 y2 y3 y4 y5 y6 y7 y8, LeO (area_Of.j0 k y0 y1 y2 y3 y4 y5 y6 y7 y8) (area_Of.j0 (k + 1) y0 y1 y2 y3 y4 y5 y6 y7 y8)) ∧ (∀ y0 y1 y2 y3 y4 y5 y6 y7 y8 y9 y10, LeO (area_Of.j1 k y0 y1 y2 y3 y4 y5 y6 y7 y8 y9 y10) (area_Of.j1 (k + 1) y0 y1 y2 y3 y4 y5 y6 y7 y8 y9 y10))
 | 0 => ⟨fun _ _ _ _ _ _ _ _ _ r h => by simp [area_Of.j0] at h, fun _ _ _ _ _ _ _ _ _ _ _ r h => by simp [area_Of.j1] at h⟩
 | k + 1 => by
  obtain ⟨ih0, ih1⟩ := area_Of.mono_l k
  refine ⟨?_, ?_⟩
  ·intro y0 y1 y2 y3 y4 y5 y6 y7 y8
   unfold area_Of.j0
   repeat' first
   | (with_reducible exact ih0 _ _ _ _ _ _ _ _ _)
   | (with_reducible exact ih1 _ _ _ _ _ _ _ _ _ _ _)
   | (with_reducible exact class_First.mono _ _)
   | (with_reducible exact LeO.refl _)
   | (with_reducible exact LeO.none _)
   | (with_reducible refine LeO.ite ?_ ?_)
   | (with_reducible refine LeO.bind ?_ (fun _ => ?_))
   | exact ih0 _ _ _ _ _ _ _ _ _
   | exact ih1 _ _ _ _ _ _ _ _ _ _ _
   | exact class_First.mono _ _
   | exact LeO.none _
   | refine LeO.ite ?_ ?_
   | refine LeO.bind ?_ (fun _ => ?_)
  ·intro y0 y1 y2 y3 y4 y5 y6 y7 y8 y9 y10
   unfold area_Of.j1
   repeat' first
   | (with_reducible exact ih0 _ _ _ _ _ _ _ _ _)
   | (with_reducible exact ih1 _ _ _ _ _ _ _ _ _ _ _)
   | (with_reducible exact class_First.mono _ _)
   | (with_reducible exact LeO.refl _)
   | (with_reducible exact LeO.none _)
   | (with_reducible refine LeO.ite ?_ ?_)
   | (with_reducible refine LeO.bind ?_ (fun _ => ?_))
   | exact ih0 _ _ _ _ _ _ _ _ _
   | exact ih1 _ _ _ _ _ _ _ _ _ _ _
   | exact class_First.mono _ _
   | exact LeO.none _
   | refine LeO.ite ?_ ?_
   | refine LeO.bind ?_ (fun _ => ?_)
theorem area_Of.mono : ∀ a0 a1 a2 a3 a4 a5 a6 a7 k, LeO (area_Of.f k a0 a1 a2 a3 a4 a5 a6 a7) (area_Of.f (k + 1) a0 a1 a2 a3 a4 a5 a6 a7) := by
 intro a0 a1 a2 a3 a4 a5 a6 a7 k
 obtain ⟨ih0, ih1⟩ := area_Of.mono_l k
 unfold area_Of.f
 repeat' first
   | (with_reducible exact ih0 _ _ _ _ _ _ _ _ _)
   | (with_reducible exact ih1 _ _ _ _ _ _ _ _ _ _ _)
   | (with_reducible exact class_First.mono _ _)
   | (with_reducible exact LeO.refl _)
   | (with_reducible exact LeO.none _)
   | (with_reducible refine LeO.ite ?_ ?_)
   | (with_reducible refine LeO.bind ?_ (fun _ => ?_))
   | exact ih0 _ _ _ _ _ _ _ _ _
   | exact ih1 _ _ _ _ _ _ _ _ _ _ _
   | exact class_First.mono _ _
   | exact LeO.none _
   | refine LeO.ite ?_ ?_
   | refine LeO.bind ?_ (fun _ => ?_)
def area_Of.T12 : Bool × List (List Nat × List Nat) := (true, [([], []), ([0], [0]), ([], []), ([], []), ([3], [3]), ([2, 4], [2, 4]), ([5], [5]), ([6], [6]), ([1, 7], [1, 7])])
def area_Of.B12 : List Nat := [0, 1, 0, 0, 8, 28, 60, 124, 255]
theorem area_Of.tab12 : rtab .any (opsOf Try.f27 12) = area_Of.T12 := by kernel_rfl
theorem area_Of.bits12 : waitsOk area_Of.T12.2 area_Of.B12 = true := by kernel_rfl
def area_Of.T14 : Bool × List (List Nat × List Nat) := (true, [([], []), ([0], [0]), ([1], [1]), ([], []), ([], []), ([4], [4]), ([5], [5]), ([3, 6], [3, 6]), ([7], [7]), ([8], [8]), ([2, 9], [2, 9]), ([0, 1, 2, 3, 4, 5, 6, 7, 8, 9, 10], []), ([11, 10, 0, 1, 2, 3, 4, 5, 6, 7, 8, 9, 10], [10, 11])])
def area_Of.B14 : List Nat := [0, 1, 3, 0, 0, 16, 48, 120, 248, 504, 1023, 2047, 4095]
theorem area_Of.tab14 : rtab .any (opsOf Try.f27 14) = area_Of.T14 := by kernel_rfl
theorem area_Of.bits14 : waitsOk area_Of.T14.2 area_Of.B14 = true := by kernel_rfl
set_option maxHeartbeats 8000000 in
set_option maxRecDepth 100000 in
theorem area_Of.calls (k : Nat) (A0 : Option Addr) (c0 : Nat) (l0 : List ByteArray) (a1_0 : Int) (a1_1 : Int) (a2_0 : Int) (a2_1 : Int) (a2_2 : Int) (a2_3 : Bool) (a2_4 : Int) (r1 : Int) (r2 : Int) (r3 : Int) (r4 : Int) (r5 : Int) (r6 : Bool) (w : World) (hr0 : Kd.C Kd.string w A0 l0.length l0) (hc0 : l0.length ≤ c0) (h : area_Of.f k l0 a1_0 a1_1 a2_0 a2_1 a2_2 a2_3 a2_4 = some (r1, r2, r3, r4, r5, r6)) :
  Calls Try.prog 27 #[.slice A0 l0.length c0, .agg #[.int .i64 a1_0, .int .i64 a1_1], .agg #[.int .i64 a2_0, .int .i64 a2_1, .int .i64 a2_2, .bool a2_3, .int .i64 a2_4]] w fun e w' => e = .returned (.tuple #[.agg #[.int .i64 r1, .int .i64 r2, .int .i64 r3, .int .i64 r4, .int .i64 r5], .bool r6]) ∧ Below w.heap.size w w' := by
 have hu28 := Try.underlying28
 have hu38 := Try.underlying38
 have hu43 := Try.underlying43
 have HR0 := Aside0.mk hr0
 have HC0 := Aside0.mk hc0
 clear hr0 hc0
 have HB := Aside0.mk (Below.refl w.heap.size w)
 have H : ((class_Place.f l0 a1_0 a1_1).bind fun t123 => (if t123 = true then ((class_Place.f l0 a2_0 a2_1).bind fun t124 => (area_Of.j0 k l0 (!t124) a1_0 a1_1 a2_0 a2_1 a2_2 a2_3 a2_4)) else (area_Of.j0 k l0 true a1_0 a1_1 a2_0 a2_1 a2_2 a2_3 a2_4))) = some (r1, r2, r3, r4, r5, r6) := h
 clear h
 have HC4 := Aside0.mk H
 clear H
 go_enter Try.func27, Try.ntmps27
 go_upto_region 1 with (first | ((with_reducible refine gate_dst (N := 4) rfl ?_); refine box_event ?hg (N := 4) ?hd (cs := #[.int .i64 a1_0, .int .i64 a1_1]) (t := 28) ?hr ?_; (case hd => rfl); (case hg => rfl); (case hr => first | (go_simp; done) | (go_simp; rfl)); intro gb120 hg w5 hbox hb; have n0_ := Aside0.mk (below_step (by repeat with_reducible first | exact HB.out | apply ba | apply bn | apply bd) hb); have n1_ := Aside0.mk (hbox); have n2_ := Aside0.mk ((by rw [hg]; exact (below_size (by repeat with_reducible first | exact HB.out | apply ba | apply bn | apply bd)) : w.heap.size ≤ gb120)); have n3_ := n2_; clear HB; have HB := n0_; have BK120 := n1_; have GW120 := n2_; have GE120 := n3_; clear n0_ n1_ n2_ n3_; clear hb hbox hg) | ((with_reducible refine gate_dst (N := 5) rfl ?_); refine box_event ?hg (N := 5) ?hd (cs := #[.int .i64 a2_0, .int .i64 a2_1, .int .i64 a2_2, .bool a2_3, .int .i64 a2_4]) (t := 38) ?hr ?_; (case hd => rfl); (case hg => rfl); (case hr => first | (go_simp; done) | (go_simp; rfl)); intro gb121 hg w6 hbox hb; have n0_ := Aside0.mk (blk_below (pk BK120.out) hb); have n1_ := Aside0.mk (below_step (by repeat with_reducible first | exact HB.out | apply ba | apply bn | apply bd | refine bset ?_ (by assumption)) hb); have n2_ := Aside0.mk (hbox); have n3_ := Aside0.mk ((by rw [hg]; exact (below_size (by repeat with_reducible first | exact HB.out | apply ba | apply bn | apply bd | refine bset ?_ (by assumption))) : w.heap.size ≤ gb121)); have n4_ := n3_; have n5_ := Aside0.mk ((by rw [hg]; exact Nat.ne_of_lt (blk_lt (pk BK120.out)) : gb120 ≠ gb121)); have n6_ := Aside0.mk ((by rw [hg]; exact Nat.ne_of_gt (blk_lt (pk BK120.out)) : gb121 ≠ gb120)); clear BK120; clear HB; have BK120 := n0_; have HB := n1_; have BK121 := n2_; have GW121 := n3_; have GE121 := n4_; have NB120_121 := n5_; have NB121_120 := n6_; clear n0_ n1_ n2_ n3_ n4_ n5_ n6_; clear hb hbox hg) | ((with_reducible refine gate_dst (N := 6) rfl ?_); refine box_event ?hg (N := 6) ?hd (cs := #[.int .i64 0, .int .i64 0, .int .i64 0, .int .i64 0, .int .i64 0]) (t := 43) ?hr ?_; (case hd => rfl); (case hg => rfl); (case hr => first | (go_simp; done) | (go_simp; rfl)); intro gb122 hg w7 hbox hb; have n0_ := Aside0.mk (blk_below (pk BK120.out) hb); have n1_ := Aside0.mk (blk_below (pk BK121.out) hb); have n2_ := Aside0.mk (below_step (by repeat with_reducible first | exact HB.out | apply ba | apply bn | apply bd | refine bset ?_ (by assumption)) hb); have n3_ := Aside0.mk (hbox); have n4_ := Aside0.mk ((by rw [hg]; exact (below_size (by repeat with_reducible first | exact HB.out | apply ba | apply bn | apply bd | refine bset ?_ (by assumption))) : w.heap.size ≤ gb122)); have n5_ := n4_; have n6_ := Aside0.mk ((by rw [hg]; exact Nat.ne_of_lt (blk_lt (pk BK120.out)) : gb120 ≠ gb122)); have n7_ := Aside0.mk ((by rw [hg]; exact Nat.ne_of_gt (blk_lt (pk BK120.out)) : gb122 ≠ gb120)); have n8_ := Aside0.mk ((by rw [hg]; exact Nat.ne_of_lt (blk_lt (pk BK121.out)) : gb121 ≠ gb122)); have n9_ := Aside0.mk ((by rw [hg]; exact Nat.ne_of_gt (blk_lt (pk BK121.out)) : gb122 ≠ gb121)); clear BK120; clear BK121; clear HB; have BK120 := n0_; have BK121 := n1_; have HB := n2_; have BK122 := n3_; have GW122 := n4_; have GE122 := n5_; have NB120_122 := n6_; have NB122_120 := n7_; have NB121_122 := n8_; have NB122_121 := n9_; clear n0_ n1_ n2_ n3_ n4_ n5_ n6_ n7_ n8_ n9_; clear hb hbox hg))
 (try simp only [Act.put, List.setIfInBounds_toArray, List.set_cons_zero, List.set_cons_succ])
 go_cut [21] (fun v21 wc => ∃ (kq : Nat) (x21_3 : Bool), v21 = .bool x21_3 ∧ Aside0 (area_Of.j0 kq l0 x21_3 a1_0 a1_1 a2_0 a2_1 a2_2 a2_3 a2_4 = some (r1, r2, r3, r4, r5, r6)) ∧ Aside0 (kq ≤ k) ∧ Aside0 (wc.heap[gb120]? = some (.cells #[.int .i64 a1_0, .int .i64 a1_1] 28 (0, 0))) ∧ Aside0 (wc.heap[gb121]? = some (.cells #[.int .i64 a2_0, .int .i64 a2_1, .int .i64 a2_2, .bool a2_3, .int .i64 a2_4] 38 (0, 0))) ∧ Aside0 (wc.heap[gb122]? = some (.cells #[.int .i64 0, .int .i64 0, .int .i64 0, .int .i64 0, .int .i64 0] 43 (0, 0))) ∧ Aside0 (Below w.heap.size w wc))
 case first =>
  have H := HC4.out
  clear HC4
  replace H := Option.bind_eq_some_iff.mp H
  obtain ⟨t123, A80, H⟩ := H
  replace H : (if t123 = true then ((class_Place.f l0 a2_0 a2_1).bind fun t124 => (area_Of.j0 k l0 (!t124) a1_0 a1_1 a2_0 a2_1 a2_2 a2_3 a2_4)) else (area_Of.j0 k l0 true a1_0 a1_1 a2_0 a2_1 a2_2 a2_3 a2_4)) = some (r1, r2, r3, r4, r5, r6) := H
  have A8 := Aside0.mk A80
  clear A80
  by_cases c9 : t123 = true
  ·subst c9
   have H1 : ((class_Place.f l0 a2_0 a2_1).bind fun t124 => (area_Of.j0 k l0 (!t124) a1_0 a1_1 a2_0 a2_1 a2_2 a2_3 a2_4)) = some (r1, r2, r3, r4, r5, r6) := by rw [if_pos rfl] at H; exact H
   clear H
   have H := H1
   clear H1
   replace H := Option.bind_eq_some_iff.mp H
   obtain ⟨t124, A100, H⟩ := H
   replace H : (area_Of.j0 k l0 (!t124) a1_0 a1_1 a2_0 a2_1 a2_2 a2_3 a2_4) = some (r1, r2, r3, r4, r5, r6) := H
   have A10 := Aside0.mk A100
   clear A100
   have H' := Aside0.mk H
   clear H
   have hnb11 := NB120_121.out
   have hnc11 := NB121_120.out
   have hnb12 := NB120_122.out
   have hnc12 := NB122_120.out
   have hcz13_0 : w7.cell? ⟨gb120, 0, none⟩ = some (.int .i64 a1_0) := (blk_cell BK120.out 0).trans rfl
   have hcz13_1 : w7.cell? ⟨gb120, 1, none⟩ = some (.int .i64 a1_1) := (blk_cell BK120.out 1).trans rfl
   have hfz13_0 := blk_frozen BK120.out 0
   have hfz13_1 := blk_frozen BK120.out 1
   go_wp2_with (first | ((with_reducible refine gate_callee (f := 35) rfl ?_); refine goesL_ (some 13) rfl rfl Try.func35 (by kernel_rfl) rfl #[.slice A0 l0.length c0, .agg #[.int .i64 a1_0, .int .i64 a1_1]] rfl (by first | rfl | (simp only [List.map_toArray, List.map_cons, List.map_nil] <;> rfl)) ?_; (with_reducible refine (class_Place.calls _ _ l0 a1_0 a1_1 true _ ?side1 ?side2 A8.out).mono ?_); (case side1 => repeat (first | exact (Kd.C_below HR0.out HB.out) | (with_reducible refine Kd.C_alloc ?_ _) | (with_reducible refine Kd.C_drewN ?_ _) | (with_reducible refine Kd.C_drew ?_))); (case side2 => exact HC0.out); rintro e w14 ⟨rfl, hb⟩; refine ⟨_, rfl, ?_⟩; have n0_ := Aside0.mk (blk_below (pk BK120.out) hb); have n1_ := Aside0.mk (blk_below (pk BK121.out) hb); have n2_ := Aside0.mk (blk_below (pk BK122.out) hb); have n3_ := Aside0.mk (below_step (by repeat with_reducible first | exact HB.out | apply ba | apply bn | apply bd | refine bset ?_ (by assumption)) hb); clear BK120; clear BK121; clear BK122; clear HB; have BK120 := n0_; have BK121 := n1_; have BK122 := n2_; have HB := n3_; clear n0_ n1_ n2_ n3_; (try clear hb); (try clear hb2); (try clear hk); (try clear hi); have hnb15 := NB121_122.out; have hnc15 := NB122_121.out; have hcz16_0 : w14.cell? ⟨gb121, 0, none⟩ = some (.int .i64 a2_0) := (blk_cell BK121.out 0).trans rfl; have hcz16_1 : w14.cell? ⟨gb121, 1, none⟩ = some (.int .i64 a2_1) := (blk_cell BK121.out 1).trans rfl; have hcz16_2 : w14.cell? ⟨gb121, 2, none⟩ = some (.int .i64 a2_2) := (blk_cell BK121.out 2).trans rfl; have hcz16_3 : w14.cell? ⟨gb121, 3, none⟩ = some (.bool a2_3) := (blk_cell BK121.out 3).trans rfl; have hcz16_4 : w14.cell? ⟨gb121, 4, none⟩ = some (.int .i64 a2_4) := (blk_cell BK121.out 4).trans rfl; have hfz16_0 := blk_frozen BK121.out 0; have hfz16_1 := blk_frozen BK121.out 1; have hfz16_2 := blk_frozen BK121.out 2; have hfz16_3 := blk_frozen BK121.out 3; have hfz16_4 := blk_frozen BK121.out 4) | (go_at_call 35; (with_reducible refine (class_Place.calls _ _ l0 a2_0 a2_1 t124 _ ?side1 ?side2 A10.out).mono ?_); (case side1 => repeat (first | exact (Kd.C_below HR0.out HB.out) | (with_reducible refine Kd.C_alloc ?_ _) | (with_reducible refine Kd.C_drewN ?_ _) | (with_reducible refine Kd.C_drew ?_))); (case side2 => exact HC0.out); rintro e w17 ⟨rfl, hb⟩; have n0_ := Aside0.mk (blk_below (pk BK120.out) hb); have n1_ := Aside0.mk (blk_below (pk BK121.out) hb); have n2_ := Aside0.mk (blk_below (pk BK122.out) hb); have n3_ := Aside0.mk (below_step (by repeat with_reducible first | exact HB.out | apply ba | apply bn | apply bd | refine bset ?_ (by assumption)) hb); clear BK120; clear BK121; clear BK122; clear HB; have BK120 := n0_; have BK121 := n1_; have BK122 := n2_; have HB := n3_; clear n0_ n1_ n2_ n3_; (try clear hb); (try clear hb2); (try clear hk); (try clear hi)))
   go_meet
   case rel => exact ⟨_, (!t124), (by first | rfl | (simp; done) | (simp [*]; done)), H', ⟨by first | omega | exact Nat.le_refl _⟩, ⟨by exact pk BK120.out⟩, ⟨by exact pk BK121.out⟩, ⟨by exact pk BK122.out⟩, ⟨by repeat with_reducible first | exact HB.out | apply ba | apply bn | apply bd | refine bset ?_ (by assumption)⟩⟩
  ·replace c9 := Bool.eq_false_iff.mpr c9
   subst c9
   have H1 : (area_Of.j0 k l0 true a1_0 a1_1 a2_0 a2_1 a2_2 a2_3 a2_4) = some (r1, r2, r3, r4, r5, r6) := by rw [if_neg (show ¬ (false = true) by decide)] at H; exact H
   clear H
   have H := H1
   clear H1
   have H' := Aside0.mk H
   clear H
   have hnb18 := NB120_121.out
   have hnc18 := NB121_120.out
   have hnb19 := NB120_122.out
   have hnc19 := NB122_120.out
   have hcz20_0 : w7.cell? ⟨gb120, 0, none⟩ = some (.int .i64 a1_0) := (blk_cell BK120.out 0).trans rfl
   have hcz20_1 : w7.cell? ⟨gb120, 1, none⟩ = some (.int .i64 a1_1) := (blk_cell BK120.out 1).trans rfl
   have hfz20_0 := blk_frozen BK120.out 0
   have hfz20_1 := blk_frozen BK120.out 1
   go_wp2_with (first | ((with_reducible refine gate_callee (f := 35) rfl ?_); refine goesL_ (some 13) rfl rfl Try.func35 (by kernel_rfl) rfl #[.slice A0 l0.length c0, .agg #[.int .i64 a1_0, .int .i64 a1_1]] rfl (by first | rfl | (simp only [List.map_toArray, List.map_cons, List.map_nil] <;> rfl)) ?_; (with_reducible refine (class_Place.calls _ _ l0 a1_0 a1_1 false _ ?side1 ?side2 A8.out).mono ?_); (case side1 => repeat (first | exact (Kd.C_below HR0.out HB.out) | (with_reducible refine Kd.C_alloc ?_ _) | (with_reducible refine Kd.C_drewN ?_ _) | (with_reducible refine Kd.C_drew ?_))); (case side2 => exact HC0.out); rintro e w21 ⟨rfl, hb⟩; refine ⟨_, rfl, ?_⟩; have n0_ := Aside0.mk (blk_below (pk BK120.out) hb); have n1_ := Aside0.mk (blk_below (pk BK121.out) hb); have n2_ := Aside0.mk (blk_below (pk BK122.out) hb); have n3_ := Aside0.mk (below_step (by repeat with_reducible first | exact HB.out | apply ba | apply bn | apply bd | refine bset ?_ (by assumption)) hb); clear BK120; clear BK121; clear BK122; clear HB; have BK120 := n0_; have BK121 := n1_; have BK122 := n2_; have HB := n3_; clear n0_ n1_ n2_ n3_; (try clear hb); (try clear hb2); (try clear hk); (try clear hi)))
   go_meet
   case rel => exact ⟨_, (true), (by first | rfl | (simp; done) | (simp [*]; done)), H', ⟨by first | omega | exact Nat.le_refl _⟩, ⟨by exact pk BK120.out⟩, ⟨by exact pk BK121.out⟩, ⟨by exact pk BK122.out⟩, ⟨by repeat with_reducible first | exact HB.out | apply ba | apply bn | apply bd | refine bset ?_ (by assumption)⟩⟩
 case rest =>
  clear HC4
  try clear c1
  try clear c2
  try clear p2
  try clear c3
  try clear c9
  try clear c11
  try clear c12
  try clear c15
  try clear c18
  try clear c19
  try clear hcz13_0
  try clear hcz13_1
  try clear hcz16_0
  try clear hcz16_1
  try clear hcz16_2
  try clear hcz16_3
  try clear hcz16_4
  try clear hcz20_0
  try clear hcz20_1
  try clear hfz13_0
  try clear hfz13_1
  try clear hfz16_0
  try clear hfz16_1
  try clear hfz16_2
  try clear hfz16_3
  try clear hfz16_4
  try clear hfz20_0
  try clear hfz20_1
  obtain ⟨kq, x21_3, rfl, HA, HJ3, BK120, BK121, BK122, HB⟩ := hcut
  cases kq with
  | zero => exact absurd HA.out (by simp [area_Of.j0])
  | succ kj3 =>
   have H := HA.out
   clear HA
   simp only [area_Of.j0] at H
   by_cases c22 : x21_3 = true
   ·subst c22
    have H1 : (some (0, 0, 0, 0, 0, false)) = some (r1, r2, r3, r4, r5, r6) := by rw [if_pos rfl] at H; exact H
    clear H
    have H := H1
    clear H1
    simp only [Option.some.injEq, Prod.mk.injEq] at H
    obtain ⟨rfl, rfl, rfl, rfl, rfl, rfl⟩ := H
    have hnb23 := NB122_120.out
    have hnc23 := NB120_122.out
    have hnb24 := NB122_121.out
    have hnc24 := NB121_122.out
    have hcz25_0 : wc.cell? ⟨gb122, 0, none⟩ = some (.int .i64 0) := (blk_cell BK122.out 0).trans rfl
    have hcz25_1 : wc.cell? ⟨gb122, 1, none⟩ = some (.int .i64 0) := (blk_cell BK122.out 1).trans rfl
    have hcz25_2 : wc.cell? ⟨gb122, 2, none⟩ = some (.int .i64 0) := (blk_cell BK122.out 2).trans rfl
    have hcz25_3 : wc.cell? ⟨gb122, 3, none⟩ = some (.int .i64 0) := (blk_cell BK122.out 3).trans rfl
    have hcz25_4 : wc.cell? ⟨gb122, 4, none⟩ = some (.int .i64 0) := (blk_cell BK122.out 4).trans rfl
    have hfz25_0 := blk_frozen BK122.out 0
    have hfz25_1 := blk_frozen BK122.out 1
    have hfz25_2 := blk_frozen BK122.out 2
    have hfz25_3 := blk_frozen BK122.out 3
    have hfz25_4 := blk_frozen BK122.out 4
    go_wp2
    refine bodyPost_ret (results_ct rfl _ _ gb122 43 #[.int .i64 0, .int .i64 0, .int .i64 0, .int .i64 0, .int .i64 0] (0, 0) _ rfl (by refine pk ?_; refine blk_put (cs := #[.int .i64 0, .int .i64 0, .int .i64 0, .int .i64 0, .int .i64 0]) ?_ 4 _ rfl; refine pk ?_; refine blk_put (cs := #[.int .i64 0, .int .i64 0, .int .i64 0, .int .i64 0, .int .i64 0]) ?_ 3 _ rfl; refine pk ?_; refine blk_put (cs := #[.int .i64 0, .int .i64 0, .int .i64 0, .int .i64 0, .int .i64 0]) ?_ 2 _ rfl; refine pk ?_; refine blk_put (cs := #[.int .i64 0, .int .i64 0, .int .i64 0, .int .i64 0, .int .i64 0]) ?_ 1 _ rfl; refine pk ?_; refine blk_put (cs := #[.int .i64 0, .int .i64 0, .int .i64 0, .int .i64 0, .int .i64 0]) ?_ 0 _ rfl; exact pk BK122.out) Try.underlying43 rfl (by kernel_rfl)) rfl ?_
    exact ⟨by first | rfl | (simp [errW_none, errW_some] <;> rfl) | (simp [*, errW_none, errW_some] <;> rfl), by repeat with_reducible first | exact HB.out | apply ba | apply bn | apply bd | refine bset ?_ (by assumption)⟩
   ·replace c22 := Bool.eq_false_iff.mpr c22
    subst c22
    have H1 : ((span_Order.f a1_0 a1_1 a2_0 a2_1).bind fun bt125 => (if a2_2 = 2 then ((area_whole.f bt125.1 bt125.2.2.1).bind fun bt132 => (some (bt132.1, bt132.2.1, bt132.2.2.1, bt132.2.2.2.1, bt132.2.2.2.2.1, bt132.2.2.2.2.2))) else (if a2_2 = 1 then ((area_with.f l0 bt125.1 bt125.2.1 bt125.2.2.1 bt125.2.2.2).bind fun bt138 => (if (bt138.2.1 == bt138.2.2.2.1 && (bt138.2.2.1 == bt138.2.2.2.2)) = true then (some (0, 0, 0, 0, 0, false)) else (some (bt138.1, bt138.2.1, bt138.2.2.1, bt138.2.2.2.1, bt138.2.2.2.2, true)))) else (if a2_2 = 0 then (if bt125.1 < bt125.2.2.1 then (area_Of.j1 kj3 l0 (bt125.2.2.2 == 0) bt125.1 bt125.2.1 bt125.2.2.1 bt125.2.2.2 0 bt125.1 bt125.2.1 bt125.2.2.1 bt125.2.2.2) else (area_Of.j1 kj3 l0 false bt125.1 bt125.2.1 bt125.2.2.1 bt125.2.2.2 0 bt125.1 bt125.2.1 bt125.2.2.1 bt125.2.2.2)) else (some (0, 0, 0, 0, 0, false)))))) = some (r1, r2, r3, r4, r5, r6) := by rw [if_neg (show ¬ (false = true) by decide)] at H; exact H
    clear H
    have H := H1
    clear H1
    replace H := Option.bind_eq_some_iff.mp H
    obtain ⟨⟨t125, t126, t127, t128⟩, A260, H⟩ := H
    replace H : (if a2_2 = 2 then ((area_whole.f t125 t127).bind fun bt132 => (some (bt132.1, bt132.2.1, bt132.2.2.1, bt132.2.2.2.1, bt132.2.2.2.2.1, bt132.2.2.2.2.2))) else (if a2_2 = 1 then ((area_with.f l0 t125 t126 t127 t128).bind fun bt138 => (if (bt138.2.1 == bt138.2.2.2.1 && (bt138.2.2.1 == bt138.2.2.2.2)) = true then (some (0, 0, 0, 0, 0, false)) else (some (bt138.1, bt138.2.1, bt138.2.2.1, bt138.2.2.2.1, bt138.2.2.2.2, true)))) else (if a2_2 = 0 then (if t125 < t127 then (area_Of.j1 kj3 l0 (t128 == 0) t125 t126 t127 t128 0 t125 t126 t127 t128) else (area_Of.j1 kj3 l0 false t125 t126 t127 t128 0 t125 t126 t127 t128)) else (some (0, 0, 0, 0, 0, false))))) = some (r1, r2, r3, r4, r5, r6) := H
    have A26 := Aside0.mk A260
    clear A260
    by_cases c27 : a2_2 = 2
    ·rw [if_pos c27] at H
     have c27b0 : (a2_2 == 2) = true := beq_iff_eq.mpr c27
     have c27b1 : (a2_2 != 2) = false := bne_eq_false_iff_eq.mpr c27
     clear c27
     replace H := Option.bind_eq_some_iff.mp H
     obtain ⟨⟨t132, t133, t134, t135, t136, t137⟩, A280, H⟩ := H
     replace H : (some (t132, t133, t134, t135, t136, t137)) = some (r1, r2, r3, r4, r5, r6) := H
     have A28 := Aside0.mk A280
     clear A280
     simp only [Option.some.injEq, Prod.mk.injEq] at H
     obtain ⟨rfl, rfl, rfl, rfl, rfl, rfl⟩ := H
     have hnb29 := NB120_121.out
     have hnc29 := NB121_120.out
     have hnb30 := NB120_122.out
     have hnc30 := NB122_120.out
     have hcz31_0 : wc.cell? ⟨gb120, 0, none⟩ = some (.int .i64 a1_0) := (blk_cell BK120.out 0).trans rfl
     have hcz31_1 : wc.cell? ⟨gb120, 1, none⟩ = some (.int .i64 a1_1) := (blk_cell BK120.out 1).trans rfl
     have hfz31_0 := blk_frozen BK120.out 0
     have hfz31_1 := blk_frozen BK120.out 1
     have hnb32 := NB121_122.out
     have hnc32 := NB122_121.out
     have hcz33_0 : wc.cell? ⟨gb121, 0, none⟩ = some (.int .i64 a2_0) := (blk_cell BK121.out 0).trans rfl
     have hcz33_1 : wc.cell? ⟨gb121, 1, none⟩ = some (.int .i64 a2_1) := (blk_cell BK121.out 1).trans rfl
     have hcz33_2 : wc.cell? ⟨gb121, 2, none⟩ = some (.int .i64 a2_2) := (blk_cell BK121.out 2).trans rfl
     have hcz33_3 : wc.cell? ⟨gb121, 3, none⟩ = some (.bool a2_3) := (blk_cell BK121.out 3).trans rfl
     have hcz33_4 : wc.cell? ⟨gb121, 4, none⟩ = some (.int .i64 a2_4) := (blk_cell BK121.out 4).trans rfl
     have hfz33_0 := blk_frozen BK121.out 0
     have hfz33_1 := blk_frozen BK121.out 1
     have hfz33_2 := blk_frozen BK121.out 2
     have hfz33_3 := blk_frozen BK121.out 3
     have hfz33_4 := blk_frozen BK121.out 4
     go_wp2_with (first | ((with_reducible refine gate_callee (f := 36) rfl ?_); refine goesL_ (some 27) rfl rfl Try.func36 (by kernel_rfl) rfl #[.agg #[.int .i64 a1_0, .int .i64 a1_1], .agg #[.int .i64 a2_0, .int .i64 a2_1]] rfl (by first | rfl | (simp only [List.map_toArray, List.map_cons, List.map_nil] <;> rfl)) ?_; (with_reducible refine (span_Order.calls a1_0 a1_1 a2_0 a2_1 t125 t126 t127 t128 _ A26.out).mono ?_); rintro e w34 ⟨rfl, hb⟩; refine ⟨_, rfl, ?_⟩; have n0_ := Aside0.mk (blk_below (pk BK120.out) hb); have n1_ := Aside0.mk (blk_below (pk BK121.out) hb); have n2_ := Aside0.mk (blk_below (pk BK122.out) hb); have n3_ := Aside0.mk (below_step (by repeat with_reducible first | exact HB.out | apply ba | apply bn | apply bd | refine bset ?_ (by assumption)) hb); clear BK120; clear BK121; clear BK122; clear HB; have BK120 := n0_; have BK121 := n1_; have BK122 := n2_; have HB := n3_; clear n0_ n1_ n2_ n3_; (try clear hb); (try clear hb2); (try clear hk); (try clear hi)) | ((with_reducible refine gate_dst (N := 8) rfl ?_); refine box_event ?hg (N := 8) ?hd (cs := #[.int .i64 0, .int .i64 0]) (t := 28) ?hr ?_; (case hd => rfl); (case hg => rfl); (case hr => first | (go_simp; done) | (go_simp; rfl)); intro gb129 hg w35 hbox hb; have n0_ := Aside0.mk (blk_below (pk BK120.out) hb); have n1_ := Aside0.mk (blk_below (pk BK121.out) hb); have n2_ := Aside0.mk (blk_below (pk BK122.out) hb); have n3_ := Aside0.mk (below_step (by repeat with_reducible first | exact HB.out | apply ba | apply bn | apply bd | refine bset ?_ (by assumption)) hb); have n4_ := Aside0.mk (hbox); have n5_ := Aside0.mk ((by rw [hg]; exact (below_size (by repeat with_reducible first | exact HB.out | apply ba | apply bn | apply bd | refine bset ?_ (by assumption))) : w.heap.size ≤ gb129)); have n6_ := n5_; have n7_ := Aside0.mk ((by rw [hg]; exact Nat.ne_of_lt (blk_lt (pk BK120.out)) : gb120 ≠ gb129)); have n8_ := Aside0.mk ((by rw [hg]; exact Nat.ne_of_gt (blk_lt (pk BK120.out)) : gb129 ≠ gb120)); have n9_ := Aside0.mk ((by rw [hg]; exact Nat.ne_of_lt (blk_lt (pk BK121.out)) : gb121 ≠ gb129)); have n10_ := Aside0.mk ((by rw [hg]; exact Nat.ne_of_gt (blk_lt (pk BK121.out)) : gb129 ≠ gb121)); have n11_ := Aside0.mk ((by rw [hg]; exact Nat.ne_of_lt (blk_lt (pk BK122.out)) : gb122 ≠ gb129)); have n12_ := Aside0.mk ((by rw [hg]; exact Nat.ne_of_gt (blk_lt (pk BK122.out)) : gb129 ≠ gb122)); clear BK120; clear BK121; clear BK122; clear HB; have BK120 := n0_; have BK121 := n1_; have BK122 := n2_; have HB := n3_; have BK129 := n4_; have GW129 := n5_; have GE129 := n6_; have NB120_129 := n7_; have NB129_120 := n8_; have NB121_129 := n9_; have NB129_121 := n10_; have NB122_129 := n11_; have NB129_122 := n12_; clear n0_ n1_ n2_ n3_ n4_ n5_ n6_ n7_ n8_ n9_ n10_ n11_ n12_; clear hb hbox hg) | ((with_reducible refine gate_dst (N := 9) rfl ?_); refine box_event ?hg (N := 9) ?hd (cs := #[.int .i64 0, .int .i64 0]) (t := 28) ?hr ?_; (case hd => rfl); (case hg => rfl); (case hr => first | (go_simp; done) | (go_simp; rfl)); intro gb130 hg w36 hbox hb; have n0_ := Aside0.mk (blk_below (pk BK120.out) hb); have n1_ := Aside0.mk (blk_below (pk BK121.out) hb); have n2_ := Aside0.mk (blk_below (pk BK122.out) hb); have n3_ := Aside0.mk (blk_below (pk BK129.out) hb); have n4_ := Aside0.mk (below_step (by repeat with_reducible first | exact HB.out | apply ba | apply bn | apply bd | refine bset ?_ (by assumption)) hb); have n5_ := Aside0.mk (hbox); have n6_ := Aside0.mk ((by rw [hg]; exact (below_size (by repeat with_reducible first | exact HB.out | apply ba | apply bn | apply bd | refine bset ?_ (by assumption))) : w.heap.size ≤ gb130)); have n7_ := n6_; have n8_ := Aside0.mk ((by rw [hg]; exact Nat.ne_of_lt (blk_lt (pk BK120.out)) : gb120 ≠ gb130)); have n9_ := Aside0.mk ((by rw [hg]; exact Nat.ne_of_gt (blk_lt (pk BK120.out)) : gb130 ≠ gb120)); have n10_ := Aside0.mk ((by rw [hg]; exact Nat.ne_of_lt (blk_lt (pk BK121.out)) : gb121 ≠ gb130)); have n11_ := Aside0.mk ((by rw [hg]; exact Nat.ne_of_gt (blk_lt (pk BK121.out)) : gb130 ≠ gb121)); have n12_ := Aside0.mk ((by rw [hg]; exact Nat.ne_of_lt (blk_lt (pk BK122.out)) : gb122 ≠ gb130)); have n13_ := Aside0.mk ((by rw [hg]; exact Nat.ne_of_gt (blk_lt (pk BK122.out)) : gb130 ≠ gb122)); have n14_ := Aside0.mk ((by rw [hg]; exact Nat.ne_of_lt (blk_lt (pk BK129.out)) : gb129 ≠ gb130)); have n15_ := Aside0.mk ((by rw [hg]; exact Nat.ne_of_gt (blk_lt (pk BK129.out)) : gb130 ≠ gb129)); clear BK120; clear BK121; clear BK122; clear BK129; clear HB; have BK120 := n0_; have BK121 := n1_; have BK122 := n2_; have BK129 := n3_; have HB := n4_; have BK130 := n5_; have GW130 := n6_; have GE130 := n7_; have NB120_130 := n8_; have NB130_120 := n9_; have NB121_130 := n10_; have NB130_121 := n11_; have NB122_130 := n12_; have NB130_122 := n13_; have NB129_130 := n14_; have NB130_129 := n15_; clear n0_ n1_ n2_ n3_ n4_ n5_ n6_ n7_ n8_ n9_ n10_ n11_ n12_ n13_ n14_ n15_; clear hb hbox hg; have hnb37 := NB129_120.out; have hnc37 := NB120_129.out; have hnb38 := NB129_121.out; have hnc38 := NB121_129.out; have hnb39 := NB129_122.out; have hnc39 := NB122_129.out; have hnb40 := NB129_130.out; have hnc40 := NB130_129.out; have hcz41_0 : w36.cell? ⟨gb129, 0, none⟩ = some (.int .i64 0) := (blk_cell BK129.out 0).trans rfl; have hcz41_1 : w36.cell? ⟨gb129, 1, none⟩ = some (.int .i64 0) := (blk_cell BK129.out 1).trans rfl; have hfz41_0 := blk_frozen BK129.out 0; have hfz41_1 := blk_frozen BK129.out 1; have hnb42 := NB130_120.out; have hnc42 := NB120_130.out; have hnb43 := NB130_121.out; have hnc43 := NB121_130.out; have hnb44 := NB130_122.out; have hnc44 := NB122_130.out; have hcz45_0 : w36.cell? ⟨gb130, 0, none⟩ = some (.int .i64 0) := (blk_cell BK130.out 0).trans rfl; have hcz45_1 : w36.cell? ⟨gb130, 1, none⟩ = some (.int .i64 0) := (blk_cell BK130.out 1).trans rfl; have hfz45_0 := blk_frozen BK130.out 0; have hfz45_1 := blk_frozen BK130.out 1) | ((with_reducible refine gate_dst (N := 10) rfl ?_); refine box_event ?hg (N := 10) ?hd (cs := #[.int .i64 0, .int .i64 0, .int .i64 0, .int .i64 0, .int .i64 0]) (t := 43) ?hr ?_; (case hd => rfl); (case hg => rfl); (case hr => first | (go_simp; done) | (go_simp; rfl)); intro gb131 hg w46 hbox hb; have n0_ := Aside0.mk (blk_below (g := gb120) (o := .cells #[.int .i64 a1_0, .int .i64 a1_1] 28 (0, 0)) (by refine pk ?_; refine blk_far ?_ NB120_130.out _; refine pk ?_; refine blk_far ?_ NB120_130.out _; refine pk ?_; refine blk_far ?_ NB120_129.out _; refine pk ?_; refine blk_far ?_ NB120_129.out _; exact pk BK120.out) hb); have n1_ := Aside0.mk (blk_below (g := gb121) (o := .cells #[.int .i64 a2_0, .int .i64 a2_1, .int .i64 a2_2, .bool a2_3, .int .i64 a2_4] 38 (0, 0)) (by refine pk ?_; refine blk_far ?_ NB121_130.out _; refine pk ?_; refine blk_far ?_ NB121_130.out _; refine pk ?_; refine blk_far ?_ NB121_129.out _; refine pk ?_; refine blk_far ?_ NB121_129.out _; exact pk BK121.out) hb); have n2_ := Aside0.mk (blk_below (g := gb122) (o := .cells #[.int .i64 0, .int .i64 0, .int .i64 0, .int .i64 0, .int .i64 0] 43 (0, 0)) (by refine pk ?_; refine blk_far ?_ NB122_130.out _; refine pk ?_; refine blk_far ?_ NB122_130.out _; refine pk ?_; refine blk_far ?_ NB122_129.out _; refine pk ?_; refine blk_far ?_ NB122_129.out _; exact pk BK122.out) hb); have n3_ := Aside0.mk (blk_below (g := gb129) (o := .cells #[.int .i64 t125, .int .i64 t126] 28 (0, 0)) (by refine pk ?_; refine blk_far ?_ NB129_130.out _; refine pk ?_; refine blk_far ?_ NB129_130.out _; refine pk ?_; refine blk_put (cs := #[.int .i64 t125, .int .i64 0]) ?_ 1 _ rfl; refine pk ?_; refine blk_put (cs := #[.int .i64 0, .int .i64 0]) ?_ 0 _ rfl; exact pk BK129.out) hb); have n4_ := Aside0.mk (blk_below (g := gb130) (o := .cells #[.int .i64 t127, .int .i64 t128] 28 (0, 0)) (by refine pk ?_; refine blk_put (cs := #[.int .i64 t127, .int .i64 0]) ?_ 1 _ rfl; refine pk ?_; refine blk_put (cs := #[.int .i64 0, .int .i64 0]) ?_ 0 _ rfl; refine pk ?_; refine blk_far ?_ NB130_129.out _; refine pk ?_; refine blk_far ?_ NB130_129.out _; exact pk BK130.out) hb); have n5_ := Aside0.mk (below_step (by repeat with_reducible first | exact HB.out | apply ba | apply bn | apply bd | refine bset ?_ (by assumption)) hb); have n6_ := Aside0.mk (hbox); have n7_ := Aside0.mk ((by rw [hg]; exact (below_size (by repeat with_reducible first | exact HB.out | apply ba | apply bn | apply bd | refine bset ?_ (by assumption))) : w.heap.size ≤ gb131)); have n8_ := n7_; have n9_ := Aside0.mk ((by rw [hg]; exact Nat.ne_of_lt (blk_lt (g := gb120) (o := .cells #[.int .i64 a1_0, .int .i64 a1_1] 28 (0, 0)) (by refine pk ?_; refine blk_far ?_ NB120_130.out _; refine pk ?_; refine blk_far ?_ NB120_130.out _; refine pk ?_; refine blk_far ?_ NB120_129.out _; refine pk ?_; refine blk_far ?_ NB120_129.out _; exact pk BK120.out)) : gb120 ≠ gb131)); have n10_ := Aside0.mk ((by rw [hg]; exact Nat.ne_of_gt (blk_lt (g := gb120) (o := .cells #[.int .i64 a1_0, .int .i64 a1_1] 28 (0, 0)) (by refine pk ?_; refine blk_far ?_ NB120_130.out _; refine pk ?_; refine blk_far ?_ NB120_130.out _; refine pk ?_; refine blk_far ?_ NB120_129.out _; refine pk ?_; refine blk_far ?_ NB120_129.out _; exact pk BK120.out)) : gb131 ≠ gb120)); have n11_ := Aside0.mk ((by rw [hg]; exact Nat.ne_of_lt (blk_lt (g := gb121) (o := .cells #[.int .i64 a2_0, .int .i64 a2_1, .int .i64 a2_2, .bool a2_3, .int .i64 a2_4] 38 (0, 0)) (by refine pk ?_; refine blk_far ?_ NB121_130.out _; refine pk ?_; refine blk_far ?_ NB121_130.out _; refine pk ?_; refine blk_far ?_ NB121_129.out _; refine pk ?_; refine blk_far ?_ NB121_129.out _; exact pk BK121.out)) : gb121 ≠ gb131)); have n12_ := Aside0.mk ((by rw [hg]; exact Nat.ne_of_gt (blk_lt (g := gb121) (o := .cells #[.int .i64 a2_0, .int .i64 a2_1, .int .i64 a2_2, .bool a2_3, .int .i64 a2_4] 38 (0, 0)) (by refine pk ?_; refine blk_far ?_ NB121_130.out _; refine pk ?_; refine blk_far ?_ NB121_130.out _; refine pk ?_; refine blk_far ?_ NB121_129.out _; refine pk ?_; refine blk_far ?_ NB121_129.out _; exact pk BK121.out)) : gb131 ≠ gb121)); have n13_ := Aside0.mk ((by rw [hg]; exact Nat.ne_of_lt (blk_lt (g := gb122) (o := .cells #[.int .i64 0, .int .i64 0, .int .i64 0, .int .i64 0, .int .i64 0] 43 (0, 0)) (by refine pk ?_; refine blk_far ?_ NB122_130.out _; refine pk ?_; refine blk_far ?_ NB122_130.out _; refine pk ?_; refine blk_far ?_ NB122_129.out _; refine pk ?_; refine blk_far ?_ NB122_129.out _; exact pk BK122.out)) : gb122 ≠ gb131)); have n14_ := Aside0.mk ((by rw [hg]; exact Nat.ne_of_gt (blk_lt (g := gb122) (o := .cells #[.int .i64 0, .int .i64 0, .int .i64 0, .int .i64 0, .int .i64 0] 43 (0, 0)) (by refine pk ?_; refine blk_far ?_ NB122_130.out _; refine pk ?_; refine blk_far ?_ NB122_130.out _; refine pk ?_; refine blk_far ?_ NB122_129.out _; refine pk ?_; refine blk_far ?_ NB122_129.out _; exact pk BK122.out)) : gb131 ≠ gb122)); have n15_ := Aside0.mk ((by rw [hg]; exact Nat.ne_of_lt (blk_lt (g := gb129) (o := .cells #[.int .i64 t125, .int .i64 t126] 28 (0, 0)) (by refine pk ?_; refine blk_far ?_ NB129_130.out _; refine pk ?_; refine blk_far ?_ NB129_130.out _; refine pk ?_; refine blk_put (cs := #[.int .i64 t125, .int .i64 0]) ?_ 1 _ rfl; refine pk ?_; refine blk_put (cs := #[.int .i64 0, .int .i64 0]) ?_ 0 _ rfl; exact pk BK129.out)) : gb129 ≠ gb131)); have n16_ := Aside0.mk ((by rw [hg]; exact Nat.ne_of_gt (blk_lt (g := gb129) (o := .cells #[.int .i64 t125, .int .i64 t126] 28 (0, 0)) (by refine pk ?_; refine blk_far ?_ NB129_130.out _; refine pk ?_; refine blk_far ?_ NB129_130.out _; refine pk ?_; refine blk_put (cs := #[.int .i64 t125, .int .i64 0]) ?_ 1 _ rfl; refine pk ?_; refine blk_put (cs := #[.int .i64 0, .int .i64 0]) ?_ 0 _ rfl; exact pk BK129.out)) : gb131 ≠ gb129)); have n17_ := Aside0.mk ((by rw [hg]; exact Nat.ne_of_lt (blk_lt (g := gb130) (o := .cells #[.int .i64 t127, .int .i64 t128] 28 (0, 0)) (by refine pk ?_; refine blk_put (cs := #[.int .i64 t127, .int .i64 0]) ?_ 1 _ rfl; refine pk ?_; refine blk_put (cs := #[.int .i64 0, .int .i64 0]) ?_ 0 _ rfl; refine pk ?_; refine blk_far ?_ NB130_129.out _; refine pk ?_; refine blk_far ?_ NB130_129.out _; exact pk BK130.out)) : gb130 ≠ gb131)); have n18_ := Aside0.mk ((by rw [hg]; exact Nat.ne_of_gt (blk_lt (g := gb130) (o := .cells #[.int .i64 t127, .int .i64 t128] 28 (0, 0)) (by refine pk ?_; refine blk_put (cs := #[.int .i64 t127, .int .i64 0]) ?_ 1 _ rfl; refine pk ?_; refine blk_put (cs := #[.int .i64 0, .int .i64 0]) ?_ 0 _ rfl; refine pk ?_; refine blk_far ?_ NB130_129.out _; refine pk ?_; refine blk_far ?_ NB130_129.out _; exact pk BK130.out)) : gb131 ≠ gb130)); clear BK120; clear BK121; clear BK122; clear BK129; clear BK130; clear HB; have BK120 := n0_; have BK121 := n1_; have BK122 := n2_; have BK129 := n3_; have BK130 := n4_; have HB := n5_; have BK131 := n6_; have GW131 := n7_; have GE131 := n8_; have NB120_131 := n9_; have NB131_120 := n10_; have NB121_131 := n11_; have NB131_121 := n12_; have NB122_131 := n13_; have NB131_122 := n14_; have NB129_131 := n15_; have NB131_129 := n16_; have NB130_131 := n17_; have NB131_130 := n18_; clear n0_ n1_ n2_ n3_ n4_ n5_ n6_ n7_ n8_ n9_ n10_ n11_ n12_ n13_ n14_ n15_ n16_ n17_ n18_; clear hb hbox hg; have hnb47 := NB131_120.out; have hnc47 := NB120_131.out; have hnb48 := NB131_121.out; have hnc48 := NB121_131.out; have hnb49 := NB131_122.out; have hnc49 := NB122_131.out; have hnb50 := NB131_129.out; have hnc50 := NB129_131.out; have hnb51 := NB131_130.out; have hnc51 := NB130_131.out; have hcz52_0 : w46.cell? ⟨gb131, 0, none⟩ = some (.int .i64 0) := (blk_cell BK131.out 0).trans rfl; have hcz52_1 : w46.cell? ⟨gb131, 1, none⟩ = some (.int .i64 0) := (blk_cell BK131.out 1).trans rfl; have hcz52_2 : w46.cell? ⟨gb131, 2, none⟩ = some (.int .i64 0) := (blk_cell BK131.out 2).trans rfl; have hcz52_3 : w46.cell? ⟨gb131, 3, none⟩ = some (.int .i64 0) := (blk_cell BK131.out 3).trans rfl; have hcz52_4 : w46.cell? ⟨gb131, 4, none⟩ = some (.int .i64 0) := (blk_cell BK131.out 4).trans rfl; have hfz52_0 := blk_frozen BK131.out 0; have hfz52_1 := blk_frozen BK131.out 1; have hfz52_2 := blk_frozen BK131.out 2; have hfz52_3 := blk_frozen BK131.out 3; have hfz52_4 := blk_frozen BK131.out 4; have hcz53_0 : w46.cell? ⟨gb121, 0, none⟩ = some (.int .i64 a2_0) := (blk_cell BK121.out 0).trans rfl; have hcz53_1 : w46.cell? ⟨gb121, 1, none⟩ = some (.int .i64 a2_1) := (blk_cell BK121.out 1).trans rfl; have hcz53_2 : w46.cell? ⟨gb121, 2, none⟩ = some (.int .i64 a2_2) := (blk_cell BK121.out 2).trans rfl; have hcz53_3 : w46.cell? ⟨gb121, 3, none⟩ = some (.bool a2_3) := (blk_cell BK121.out 3).trans rfl; have hcz53_4 : w46.cell? ⟨gb121, 4, none⟩ = some (.int .i64 a2_4) := (blk_cell BK121.out 4).trans rfl; have hfz53_0 := blk_frozen BK121.out 0; have hfz53_1 := blk_frozen BK121.out 1; have hfz53_2 := blk_frozen BK121.out 2; have hfz53_3 := blk_frozen BK121.out 3; have hfz53_4 := blk_frozen BK121.out 4; have hcz54_0 : w46.cell? ⟨gb129, 0, none⟩ = some (.int .i64 t125) := (blk_cell BK129.out 0).trans rfl; have hcz54_1 : w46.cell? ⟨gb129, 1, none⟩ = some (.int .i64 t126) := (blk_cell BK129.out 1).trans rfl; have hfz54_0 := blk_frozen BK129.out 0; have hfz54_1 := blk_frozen BK129.out 1; have hcz55_0 : w46.cell? ⟨gb130, 0, none⟩ = some (.int .i64 t127) := (blk_cell BK130.out 0).trans rfl; have hcz55_1 : w46.cell? ⟨gb130, 1, none⟩ = some (.int .i64 t128) := (blk_cell BK130.out 1).trans rfl; have hfz55_0 := blk_frozen BK130.out 0; have hfz55_1 := blk_frozen BK130.out 1) | ((with_reducible refine gate_callee (f := 37) rfl ?_); refine goesL_ (some 41) rfl rfl Try.func37 (by kernel_rfl) rfl #[.int .i64 t125, .int .i64 t127] rfl (by first | rfl | (simp only [List.map_toArray, List.map_cons, List.map_nil] <;> rfl)) ?_; (with_reducible refine (area_whole.calls t125 t127 t132 t133 t134 t135 t136 t137 _ A28.out).mono ?_); rintro e w56 ⟨rfl, hb⟩; refine ⟨_, rfl, ?_⟩; have n0_ := Aside0.mk (blk_below (g := gb120) (o := .cells #[.int .i64 a1_0, .int .i64 a1_1] 28 (0, 0)) (by refine pk ?_; refine blk_far ?_ NB120_131.out _; refine pk ?_; refine blk_far ?_ NB120_131.out _; refine pk ?_; refine blk_far ?_ NB120_131.out _; refine pk ?_; refine blk_far ?_ NB120_131.out _; refine pk ?_; refine blk_far ?_ NB120_131.out _; exact pk BK120.out) hb); have n1_ := Aside0.mk (blk_below (g := gb121) (o := .cells #[.int .i64 a2_0, .int .i64 a2_1, .int .i64 a2_2, .bool a2_3, .int .i64 a2_4] 38 (0, 0)) (by refine pk ?_; refine blk_far ?_ NB121_131.out _; refine pk ?_; refine blk_far ?_ NB121_131.out _; refine pk ?_; refine blk_far ?_ NB121_131.out _; refine pk ?_; refine blk_far ?_ NB121_131.out _; refine pk ?_; refine blk_far ?_ NB121_131.out _; exact pk BK121.out) hb); have n2_ := Aside0.mk (blk_below (g := gb122) (o := .cells #[.int .i64 0, .int .i64 0, .int .i64 0, .int .i64 0, .int .i64 0] 43 (0, 0)) (by refine pk ?_; refine blk_far ?_ NB122_131.out _; refine pk ?_; refine blk_far ?_ NB122_131.out _; refine pk ?_; refine blk_far ?_ NB122_131.out _; refine pk ?_; refine blk_far ?_ NB122_131.out _; refine pk ?_; refine blk_far ?_ NB122_131.out _; exact pk BK122.out) hb); have n3_ := Aside0.mk (blk_below (g := gb129) (o := .cells #[.int .i64 t125, .int .i64 t126] 28 (0, 0)) (by refine pk ?_; refine blk_far ?_ NB129_131.out _; refine pk ?_; refine blk_far ?_ NB129_131.out _; refine pk ?_; refine blk_far ?_ NB129_131.out _; refine pk ?_; refine blk_far ?_ NB129_131.out _; refine pk ?_; refine blk_far ?_ NB129_131.out _; exact pk BK129.out) hb); have n4_ := Aside0.mk (blk_below (g := gb130) (o := .cells #[.int .i64 t127, .int .i64 t128] 28 (0, 0)) (by refine pk ?_; refine blk_far ?_ NB130_131.out _; refine pk ?_; refine blk_far ?_ NB130_131.out _; refine pk ?_; refine blk_far ?_ NB130_131.out _; refine pk ?_; refine blk_far ?_ NB130_131.out _; refine pk ?_; refine blk_far ?_ NB130_131.out _; exact pk BK130.out) hb); have n5_ := Aside0.mk (blk_below (g := gb131) (o := .cells #[.int .i64 0, .int .i64 t125, .int .i64 t126, .int .i64 t127, .int .i64 t128] 43 (0, 0)) (by refine pk ?_; refine blk_put (cs := #[.int .i64 0, .int .i64 t125, .int .i64 t126, .int .i64 t127, .int .i64 0]) ?_ 4 _ rfl; refine pk ?_; refine blk_put (cs := #[.int .i64 0, .int .i64 t125, .int .i64 t126, .int .i64 0, .int .i64 0]) ?_ 3 _ rfl; refine pk ?_; refine blk_put (cs := #[.int .i64 0, .int .i64 t125, .int .i64 0, .int .i64 0, .int .i64 0]) ?_ 2 _ rfl; refine pk ?_; refine blk_put (cs := #[.int .i64 0, .int .i64 0, .int .i64 0, .int .i64 0, .int .i64 0]) ?_ 1 _ rfl; refine pk ?_; refine blk_put (cs := #[.int .i64 0, .int .i64 0, .int .i64 0, .int .i64 0, .int .i64 0]) ?_ 0 _ rfl; exact pk BK131.out) hb); have n6_ := Aside0.mk (below_step (by repeat with_reducible first | exact HB.out | apply ba | apply bn | apply bd | refine bset ?_ (by assumption)) hb); clear BK120; clear BK121; clear BK122; clear BK129; clear BK130; clear BK131; clear HB; have BK120 := n0_; have BK121 := n1_; have BK122 := n2_; have BK129 := n3_; have BK130 := n4_; have BK131 := n5_; have HB := n6_; clear n0_ n1_ n2_ n3_ n4_ n5_ n6_; (try clear hb); (try clear hb2); (try clear hk); (try clear hi); have hcz57_0 : w56.cell? ⟨gb122, 0, none⟩ = some (.int .i64 0) := (blk_cell BK122.out 0).trans rfl; have hcz57_1 : w56.cell? ⟨gb122, 1, none⟩ = some (.int .i64 0) := (blk_cell BK122.out 1).trans rfl; have hcz57_2 : w56.cell? ⟨gb122, 2, none⟩ = some (.int .i64 0) := (blk_cell BK122.out 2).trans rfl; have hcz57_3 : w56.cell? ⟨gb122, 3, none⟩ = some (.int .i64 0) := (blk_cell BK122.out 3).trans rfl; have hcz57_4 : w56.cell? ⟨gb122, 4, none⟩ = some (.int .i64 0) := (blk_cell BK122.out 4).trans rfl; have hfz57_0 := blk_frozen BK122.out 0; have hfz57_1 := blk_frozen BK122.out 1; have hfz57_2 := blk_frozen BK122.out 2; have hfz57_3 := blk_frozen BK122.out 3; have hfz57_4 := blk_frozen BK122.out 4))
     refine bodyPost_ret (results_ct rfl _ _ gb122 43 #[.int .i64 t132, .int .i64 t133, .int .i64 t134, .int .i64 t135, .int .i64 t136] (0, 0) _ rfl (by refine pk ?_; refine blk_put (cs := #[.int .i64 t132, .int .i64 t133, .int .i64 t134, .int .i64 t135, .int .i64 0]) ?_ 4 _ rfl; refine pk ?_; refine blk_put (cs := #[.int .i64 t132, .int .i64 t133, .int .i64 t134, .int .i64 0, .int .i64 0]) ?_ 3 _ rfl; refine pk ?_; refine blk_put (cs := #[.int .i64 t132, .int .i64 t133, .int .i64 0, .int .i64 0, .int .i64 0]) ?_ 2 _ rfl; refine pk ?_; refine blk_put (cs := #[.int .i64 t132, .int .i64 0, .int .i64 0, .int .i64 0, .int .i64 0]) ?_ 1 _ rfl; refine pk ?_; refine blk_put (cs := #[.int .i64 0, .int .i64 0, .int .i64 0, .int .i64 0, .int .i64 0]) ?_ 0 _ rfl; exact pk BK122.out) Try.underlying43 rfl (by kernel_rfl)) rfl ?_
     exact ⟨by first | rfl | (simp [errW_none, errW_some] <;> rfl) | (simp [*, errW_none, errW_some] <;> rfl), by repeat with_reducible first | exact HB.out | apply ba | apply bn | apply bd | refine bset ?_ (by assumption)⟩
    ·rw [if_neg c27] at H
     have c27b0 : (a2_2 == 2) = false := beq_eq_false_iff_ne.mpr c27
     have c27b1 : (a2_2 != 2) = true := bne_iff_ne.mpr c27
     by_cases c58 : a2_2 = 1
     ·rw [if_pos c58] at H
      have c58b0 : (a2_2 == 1) = true := beq_iff_eq.mpr c58
      have c58b1 : (a2_2 != 1) = false := bne_eq_false_iff_eq.mpr c58
      clear c58
      replace H := Option.bind_eq_some_iff.mp H
      obtain ⟨⟨t138, t139, t140, t141, t142⟩, A590, H⟩ := H
      replace H : (if (t139 == t141 && (t140 == t142)) = true then (some (0, 0, 0, 0, 0, false)) else (some (t138, t139, t140, t141, t142, true))) = some (r1, r2, r3, r4, r5, r6) := H
      have A59 := Aside0.mk A590
      clear A590
      by_cases c60 : (t139 == t141 && (t140 == t142)) = true
      ·rw [if_pos c60] at H
       have c60b0 : (t139 == t141 && (t140 == t142)) = true := c60
       (try (have c60b1 : decide (t139 = t141 && (t140 == t142)) = true := by simpa using c60))
       (try (have c60b2 : (t139 == t141 && (t140 == t142)) = true := by simpa using c60))
       clear c60
       simp only [Option.some.injEq, Prod.mk.injEq] at H
       obtain ⟨rfl, rfl, rfl, rfl, rfl, rfl⟩ := H
       have hnb61 := NB120_121.out
       have hnc61 := NB121_120.out
       have hnb62 := NB120_122.out
       have hnc62 := NB122_120.out
       have hcz63_0 : wc.cell? ⟨gb120, 0, none⟩ = some (.int .i64 a1_0) := (blk_cell BK120.out 0).trans rfl
       have hcz63_1 : wc.cell? ⟨gb120, 1, none⟩ = some (.int .i64 a1_1) := (blk_cell BK120.out 1).trans rfl
       have hfz63_0 := blk_frozen BK120.out 0
       have hfz63_1 := blk_frozen BK120.out 1
       have hnb64 := NB121_122.out
       have hnc64 := NB122_121.out
       have hcz65_0 : wc.cell? ⟨gb121, 0, none⟩ = some (.int .i64 a2_0) := (blk_cell BK121.out 0).trans rfl
       have hcz65_1 : wc.cell? ⟨gb121, 1, none⟩ = some (.int .i64 a2_1) := (blk_cell BK121.out 1).trans rfl
       have hcz65_2 : wc.cell? ⟨gb121, 2, none⟩ = some (.int .i64 a2_2) := (blk_cell BK121.out 2).trans rfl
       have hcz65_3 : wc.cell? ⟨gb121, 3, none⟩ = some (.bool a2_3) := (blk_cell BK121.out 3).trans rfl
       have hcz65_4 : wc.cell? ⟨gb121, 4, none⟩ = some (.int .i64 a2_4) := (blk_cell BK121.out 4).trans rfl
       have hfz65_0 := blk_frozen BK121.out 0
       have hfz65_1 := blk_frozen BK121.out 1
       have hfz65_2 := blk_frozen BK121.out 2
       have hfz65_3 := blk_frozen BK121.out 3
       have hfz65_4 := blk_frozen BK121.out 4
       go_wp2_with (first | ((with_reducible refine gate_callee (f := 36) rfl ?_); refine goesL_ (some 27) rfl rfl Try.func36 (by kernel_rfl) rfl #[.agg #[.int .i64 a1_0, .int .i64 a1_1], .agg #[.int .i64 a2_0, .int .i64 a2_1]] rfl (by first | rfl | (simp only [List.map_toArray, List.map_cons, List.map_nil] <;> rfl)) ?_; (with_reducible refine (span_Order.calls a1_0 a1_1 a2_0 a2_1 t125 t126 t127 t128 _ A26.out).mono ?_); rintro e w66 ⟨rfl, hb⟩; refine ⟨_, rfl, ?_⟩; have n0_ := Aside0.mk (blk_below (pk BK120.out) hb); have n1_ := Aside0.mk (blk_below (pk BK121.out) hb); have n2_ := Aside0.mk (blk_below (pk BK122.out) hb); have n3_ := Aside0.mk (below_step (by repeat with_reducible first | exact HB.out | apply ba | apply bn | apply bd | refine bset ?_ (by assumption)) hb); clear BK120; clear BK121; clear BK122; clear HB; have BK120 := n0_; have BK121 := n1_; have BK122 := n2_; have HB := n3_; clear n0_ n1_ n2_ n3_; (try clear hb); (try clear hb2); (try clear hk); (try clear hi)) | ((with_reducible refine gate_dst (N := 8) rfl ?_); refine box_event ?hg (N := 8) ?hd (cs := #[.int .i64 0, .int .i64 0]) (t := 28) ?hr ?_; (case hd => rfl); (case hg => rfl); (case hr => first | (go_simp; done) | (go_simp; rfl)); intro gb129 hg w67 hbox hb; have n0_ := Aside0.mk (blk_below (pk BK120.out) hb); have n1_ := Aside0.mk (blk_below (pk BK121.out) hb); have n2_ := Aside0.mk (blk_below (pk BK122.out) hb); have n3_ := Aside0.mk (below_step (by repeat with_reducible first | exact HB.out | apply ba | apply bn | apply bd | refine bset ?_ (by assumption)) hb); have n4_ := Aside0.mk (hbox); have n5_ := Aside0.mk ((by rw [hg]; exact (below_size (by repeat with_reducible first | exact HB.out | apply ba | apply bn | apply bd | refine bset ?_ (by assumption))) : w.heap.size ≤ gb129)); have n6_ := n5_; have n7_ := Aside0.mk ((by rw [hg]; exact Nat.ne_of_lt (blk_lt (pk BK120.out)) : gb120 ≠ gb129)); have n8_ := Aside0.mk ((by rw [hg]; exact Nat.ne_of_gt (blk_lt (pk BK120.out)) : gb129 ≠ gb120)); have n9_ := Aside0.mk ((by rw [hg]; exact Nat.ne_of_lt (blk_lt (pk BK121.out)) : gb121 ≠ gb129)); have n10_ := Aside0.mk ((by rw [hg]; exact Nat.ne_of_gt (blk_lt (pk BK121.out)) : gb129 ≠ gb121)); have n11_ := Aside0.mk ((by rw [hg]; exact Nat.ne_of_lt (blk_lt (pk BK122.out)) : gb122 ≠ gb129)); have n12_ := Aside0.mk ((by rw [hg]; exact Nat.ne_of_gt (blk_lt (pk BK122.out)) : gb129 ≠ gb122)); clear BK120; clear BK121; clear BK122; clear HB; have BK120 := n0_; have BK121 := n1_; have BK122 := n2_; have HB := n3_; have BK129 := n4_; have GW129 := n5_; have GE129 := n6_; have NB120_129 := n7_; have NB129_120 := n8_; have NB121_129 := n9_; have NB129_121 := n10_; have NB122_129 := n11_; have NB129_122 := n12_; clear n0_ n1_ n2_ n3_ n4_ n5_ n6_ n7_ n8_ n9_ n10_ n11_ n12_; clear hb hbox hg) | ((with_reducible refine gate_dst (N := 9) rfl ?_); refine box_event ?hg (N := 9) ?hd (cs := #[.int .i64 0, .int .i64 0]) (t := 28) ?hr ?_; (case hd => rfl); (case hg => rfl); (case hr => first | (go_simp; done) | (go_simp; rfl)); intro gb130 hg w68 hbox hb; have n0_ := Aside0.mk (blk_below (pk BK120.out) hb); have n1_ := Aside0.mk (blk_below (pk BK121.out) hb); have n2_ := Aside0.mk (blk_below (pk BK122.out) hb); have n3_ := Aside0.mk (blk_below (pk BK129.out) hb); have n4_ := Aside0.mk (below_step (by repeat with_reducible first | exact HB.out | apply ba | apply bn | apply bd | refine bset ?_ (by assumption)) hb); have n5_ := Aside0.mk (hbox); have n6_ := Aside0.mk ((by rw [hg]; exact (below_size (by repeat with_reducible first | exact HB.out | apply ba | apply bn | apply bd | refine bset ?_ (by assumption))) : w.heap.size ≤ gb130)); have n7_ := n6_; have n8_ := Aside0.mk ((by rw [hg]; exact Nat.ne_of_lt (blk_lt (pk BK120.out)) : gb120 ≠ gb130)); have n9_ := Aside0.mk ((by rw [hg]; exact Nat.ne_of_gt (blk_lt (pk BK120.out)) : gb130 ≠ gb120)); have n10_ := Aside0.mk ((by rw [hg]; exact Nat.ne_of_lt (blk_lt (pk BK121.out)) : gb121 ≠ gb130)); have n11_ := Aside0.mk ((by rw [hg]; exact Nat.ne_of_gt (blk_lt (pk BK121.out)) : gb130 ≠ gb121)); have n12_ := Aside0.mk ((by rw [hg]; exact Nat.ne_of_lt (blk_lt (pk BK122.out)) : gb122 ≠ gb130)); have n13_ := Aside0.mk ((by rw [hg]; exact Nat.ne_of_gt (blk_lt (pk BK122.out)) : gb130 ≠ gb122)); have n14_ := Aside0.mk ((by rw [hg]; exact Nat.ne_of_lt (blk_lt (pk BK129.out)) : gb129 ≠ gb130)); have n15_ := Aside0.mk ((by rw [hg]; exact Nat.ne_of_gt (blk_lt (pk BK129.out)) : gb130 ≠ gb129)); clear BK120; clear BK121; clear BK122; clear BK129; clear HB; have BK120 := n0_; have BK121 := n1_; have BK122 := n2_; have BK129 := n3_; have HB := n4_; have BK130 := n5_; have GW130 := n6_; have GE130 := n7_; have NB120_130 := n8_; have NB130_120 := n9_; have NB121_130 := n10_; have NB130_121 := n11_; have NB122_130 := n12_; have NB130_122 := n13_; have NB129_130 := n14_; have NB130_129 := n15_; clear n0_ n1_ n2_ n3_ n4_ n5_ n6_ n7_ n8_ n9_ n10_ n11_ n12_ n13_ n14_ n15_; clear hb hbox hg; have hnb69 := NB129_120.out; have hnc69 := NB120_129.out; have hnb70 := NB129_121.out; have hnc70 := NB121_129.out; have hnb71 := NB129_122.out; have hnc71 := NB122_129.out; have hnb72 := NB129_130.out; have hnc72 := NB130_129.out; have hcz73_0 : w68.cell? ⟨gb129, 0, none⟩ = some (.int .i64 0) := (blk_cell BK129.out 0).trans rfl; have hcz73_1 : w68.cell? ⟨gb129, 1, none⟩ = some (.int .i64 0) := (blk_cell BK129.out 1).trans rfl; have hfz73_0 := blk_frozen BK129.out 0; have hfz73_1 := blk_frozen BK129.out 1; have hnb74 := NB130_120.out; have hnc74 := NB120_130.out; have hnb75 := NB130_121.out; have hnc75 := NB121_130.out; have hnb76 := NB130_122.out; have hnc76 := NB122_130.out; have hcz77_0 : w68.cell? ⟨gb130, 0, none⟩ = some (.int .i64 0) := (blk_cell BK130.out 0).trans rfl; have hcz77_1 : w68.cell? ⟨gb130, 1, none⟩ = some (.int .i64 0) := (blk_cell BK130.out 1).trans rfl; have hfz77_0 := blk_frozen BK130.out 0; have hfz77_1 := blk_frozen BK130.out 1) | ((with_reducible refine gate_dst (N := 10) rfl ?_); refine box_event ?hg (N := 10) ?hd (cs := #[.int .i64 0, .int .i64 0, .int .i64 0, .int .i64 0, .int .i64 0]) (t := 43) ?hr ?_; (case hd => rfl); (case hg => rfl); (case hr => first | (go_simp; done) | (go_simp; rfl)); intro gb131 hg w78 hbox hb; have n0_ := Aside0.mk (blk_below (g := gb120) (o := .cells #[.int .i64 a1_0, .int .i64 a1_1] 28 (0, 0)) (by refine pk ?_; refine blk_far ?_ NB120_130.out _; refine pk ?_; refine blk_far ?_ NB120_130.out _; refine pk ?_; refine blk_far ?_ NB120_129.out _; refine pk ?_; refine blk_far ?_ NB120_129.out _; exact pk BK120.out) hb); have n1_ := Aside0.mk (blk_below (g := gb121) (o := .cells #[.int .i64 a2_0, .int .i64 a2_1, .int .i64 a2_2, .bool a2_3, .int .i64 a2_4] 38 (0, 0)) (by refine pk ?_; refine blk_far ?_ NB121_130.out _; refine pk ?_; refine blk_far ?_ NB121_130.out _; refine pk ?_; refine blk_far ?_ NB121_129.out _; refine pk ?_; refine blk_far ?_ NB121_129.out _; exact pk BK121.out) hb); have n2_ := Aside0.mk (blk_below (g := gb122) (o := .cells #[.int .i64 0, .int .i64 0, .int .i64 0, .int .i64 0, .int .i64 0] 43 (0, 0)) (by refine pk ?_; refine blk_far ?_ NB122_130.out _; refine pk ?_; refine blk_far ?_ NB122_130.out _; refine pk ?_; refine blk_far ?_ NB122_129.out _; refine pk ?_; refine blk_far ?_ NB122_129.out _; exact pk BK122.out) hb); have n3_ := Aside0.mk (blk_below (g := gb129) (o := .cells #[.int .i64 t125, .int .i64 t126] 28 (0, 0)) (by refine pk ?_; refine blk_far ?_ NB129_130.out _; refine pk ?_; refine blk_far ?_ NB129_130.out _; refine pk ?_; refine blk_put (cs := #[.int .i64 t125, .int .i64 0]) ?_ 1 _ rfl; refine pk ?_; refine blk_put (cs := #[.int .i64 0, .int .i64 0]) ?_ 0 _ rfl; exact pk BK129.out) hb); have n4_ := Aside0.mk (blk_below (g := gb130) (o := .cells #[.int .i64 t127, .int .i64 t128] 28 (0, 0)) (by refine pk ?_; refine blk_put (cs := #[.int .i64 t127, .int .i64 0]) ?_ 1 _ rfl; refine pk ?_; refine blk_put (cs := #[.int .i64 0, .int .i64 0]) ?_ 0 _ rfl; refine pk ?_; refine blk_far ?_ NB130_129.out _; refine pk ?_; refine blk_far ?_ NB130_129.out _; exact pk BK130.out) hb); have n5_ := Aside0.mk (below_step (by repeat with_reducible first | exact HB.out | apply ba | apply bn | apply bd | refine bset ?_ (by assumption)) hb); have n6_ := Aside0.mk (hbox); have n7_ := Aside0.mk ((by rw [hg]; exact (below_size (by repeat with_reducible first | exact HB.out | apply ba | apply bn | apply bd | refine bset ?_ (by assumption))) : w.heap.size ≤ gb131)); have n8_ := n7_; have n9_ := Aside0.mk ((by rw [hg]; exact Nat.ne_of_lt (blk_lt (g := gb120) (o := .cells #[.int .i64 a1_0, .int .i64 a1_1] 28 (0, 0)) (by refine pk ?_; refine blk_far ?_ NB120_130.out _; refine pk ?_; refine blk_far ?_ NB120_130.out _; refine pk ?_; refine blk_far ?_ NB120_129.out _; refine pk ?_; refine blk_far ?_ NB120_129.out _; exact pk BK120.out)) : gb120 ≠ gb131)); have n10_ := Aside0.mk ((by rw [hg]; exact Nat.ne_of_gt (blk_lt (g := gb120) (o := .cells #[.int .i64 a1_0, .int .i64 a1_1] 28 (0, 0)) (by refine pk ?_; refine blk_far ?_ NB120_130.out _; refine pk ?_; refine blk_far ?_ NB120_130.out _; refine pk ?_; refine blk_far ?_ NB120_129.out _; refine pk ?_; refine blk_far ?_ NB120_129.out _; exact pk BK120.out)) : gb131 ≠ gb120)); have n11_ := Aside0.mk ((by rw [hg]; exact Nat.ne_of_lt (blk_lt (g := gb121) (o := .cells #[.int .i64 a2_0, .int .i64 a2_1, .int .i64 a2_2, .bool a2_3, .int .i64 a2_4] 38 (0, 0)) (by refine pk ?_; refine blk_far ?_ NB121_130.out _; refine pk ?_; refine blk_far ?_ NB121_130.out _; refine pk ?_; refine blk_far ?_ NB121_129.out _; refine pk ?_; refine blk_far ?_ NB121_129.out _; exact pk BK121.out)) : gb121 ≠ gb131)); have n12_ := Aside0.mk ((by rw [hg]; exact Nat.ne_of_gt (blk_lt (g := gb121) (o := .cells #[.int .i64 a2_0, .int .i64 a2_1, .int .i64 a2_2, .bool a2_3, .int .i64 a2_4] 38 (0, 0)) (by refine pk ?_; refine blk_far ?_ NB121_130.out _; refine pk ?_; refine blk_far ?_ NB121_130.out _; refine pk ?_; refine blk_far ?_ NB121_129.out _; refine pk ?_; refine blk_far ?_ NB121_129.out _; exact pk BK121.out)) : gb131 ≠ gb121)); have n13_ := Aside0.mk ((by rw [hg]; exact Nat.ne_of_lt (blk_lt (g := gb122) (o := .cells #[.int .i64 0, .int .i64 0, .int .i64 0, .int .i64 0, .int .i64 0] 43 (0, 0)) (by refine pk ?_; refine blk_far ?_ NB122_130.out _; refine pk ?_; refine blk_far ?_ NB122_130.out _; refine pk ?_; refine blk_far ?_ NB122_129.out _; refine pk ?_; refine blk_far ?_ NB122_129.out _; exact pk BK122.out)) : gb122 ≠ gb131)); have n14_ := Aside0.mk ((by rw [hg]; exact Nat.ne_of_gt (blk_lt (g := gb122) (o := .cells #[.int .i64 0, .int .i64 0, .int .i64 0, .int .i64 0, .int .i64 0] 43 (0, 0)) (by refine pk ?_; refine blk_far ?_ NB122_130.out _; refine pk ?_; refine blk_far ?_ NB122_130.out _; refine pk ?_; refine blk_far ?_ NB122_129.out _; refine pk ?_; refine blk_far ?_ NB122_129.out _; exact pk BK122.out)) : gb131 ≠ gb122)); have n15_ := Aside0.mk ((by rw [hg]; exact Nat.ne_of_lt (blk_lt (g := gb129) (o := .cells #[.int .i64 t125, .int .i64 t126] 28 (0, 0)) (by refine pk ?_; refine blk_far ?_ NB129_130.out _; refine pk ?_; refine blk_far ?_ NB129_130.out _; refine pk ?_; refine blk_put (cs := #[.int .i64 t125, .int .i64 0]) ?_ 1 _ rfl; refine pk ?_; refine blk_put (cs := #[.int .i64 0, .int .i64 0]) ?_ 0 _ rfl; exact pk BK129.out)) : gb129 ≠ gb131)); have n16_ := Aside0.mk ((by rw [hg]; exact Nat.ne_of_gt (blk_lt (g := gb129) (o := .cells #[.int .i64 t125, .int .i64 t126] 28 (0, 0)) (by refine pk ?_; refine blk_far ?_ NB129_130.out _; refine pk ?_; refine blk_far ?_ NB129_130.out _; refine pk ?_; refine blk_put (cs := #[.int .i64 t125, .int .i64 0]) ?_ 1 _ rfl; refine pk ?_; refine blk_put (cs := #[.int .i64 0, .int .i64 0]) ?_ 0 _ rfl; exact pk BK129.out)) : gb131 ≠ gb129)); have n17_ := Aside0.mk ((by rw [hg]; exact Nat.ne_of_lt (blk_lt (g := gb130) (o := .cells #[.int .i64 t127, .int .i64 t128] 28 (0, 0)) (by refine pk ?_; refine blk_put (cs := #[.int .i64 t127, .int .i64 0]) ?_ 1 _ rfl; refine pk ?_; refine blk_put (cs := #[.int .i64 0, .int .i64 0]) ?_ 0 _ rfl; refine pk ?_; refine blk_far ?_ NB130_129.out _; refine pk ?_; refine blk_far ?_ NB130_129.out _; exact pk BK130.out)) : gb130 ≠ gb131)); have n18_ := Aside0.mk ((by rw [hg]; exact Nat.ne_of_gt (blk_lt (g := gb130) (o := .cells #[.int .i64 t127, .int .i64 t128] 28 (0, 0)) (by refine pk ?_; refine blk_put (cs := #[.int .i64 t127, .int .i64 0]) ?_ 1 _ rfl; refine pk ?_; refine blk_put (cs := #[.int .i64 0, .int .i64 0]) ?_ 0 _ rfl; refine pk ?_; refine blk_far ?_ NB130_129.out _; refine pk ?_; refine blk_far ?_ NB130_129.out _; exact pk BK130.out)) : gb131 ≠ gb130)); clear BK120; clear BK121; clear BK122; clear BK129; clear BK130; clear HB; have BK120 := n0_; have BK121 := n1_; have BK122 := n2_; have BK129 := n3_; have BK130 := n4_; have HB := n5_; have BK131 := n6_; have GW131 := n7_; have GE131 := n8_; have NB120_131 := n9_; have NB131_120 := n10_; have NB121_131 := n11_; have NB131_121 := n12_; have NB122_131 := n13_; have NB131_122 := n14_; have NB129_131 := n15_; have NB131_129 := n16_; have NB130_131 := n17_; have NB131_130 := n18_; clear n0_ n1_ n2_ n3_ n4_ n5_ n6_ n7_ n8_ n9_ n10_ n11_ n12_ n13_ n14_ n15_ n16_ n17_ n18_; clear hb hbox hg; have hnb79 := NB131_120.out; have hnc79 := NB120_131.out; have hnb80 := NB131_121.out; have hnc80 := NB121_131.out; have hnb81 := NB131_122.out; have hnc81 := NB122_131.out; have hnb82 := NB131_129.out; have hnc82 := NB129_131.out; have hnb83 := NB131_130.out; have hnc83 := NB130_131.out; have hcz84_0 : w78.cell? ⟨gb131, 0, none⟩ = some (.int .i64 0) := (blk_cell BK131.out 0).trans rfl; have hcz84_1 : w78.cell? ⟨gb131, 1, none⟩ = some (.int .i64 0) := (blk_cell BK131.out 1).trans rfl; have hcz84_2 : w78.cell? ⟨gb131, 2, none⟩ = some (.int .i64 0) := (blk_cell BK131.out 2).trans rfl; have hcz84_3 : w78.cell? ⟨gb131, 3, none⟩ = some (.int .i64 0) := (blk_cell BK131.out 3).trans rfl; have hcz84_4 : w78.cell? ⟨gb131, 4, none⟩ = some (.int .i64 0) := (blk_cell BK131.out 4).trans rfl; have hfz84_0 := blk_frozen BK131.out 0; have hfz84_1 := blk_frozen BK131.out 1; have hfz84_2 := blk_frozen BK131.out 2; have hfz84_3 := blk_frozen BK131.out 3; have hfz84_4 := blk_frozen BK131.out 4; have hcz85_0 : w78.cell? ⟨gb121, 0, none⟩ = some (.int .i64 a2_0) := (blk_cell BK121.out 0).trans rfl; have hcz85_1 : w78.cell? ⟨gb121, 1, none⟩ = some (.int .i64 a2_1) := (blk_cell BK121.out 1).trans rfl; have hcz85_2 : w78.cell? ⟨gb121, 2, none⟩ = some (.int .i64 a2_2) := (blk_cell BK121.out 2).trans rfl; have hcz85_3 : w78.cell? ⟨gb121, 3, none⟩ = some (.bool a2_3) := (blk_cell BK121.out 3).trans rfl; have hcz85_4 : w78.cell? ⟨gb121, 4, none⟩ = some (.int .i64 a2_4) := (blk_cell BK121.out 4).trans rfl; have hfz85_0 := blk_frozen BK121.out 0; have hfz85_1 := blk_frozen BK121.out 1; have hfz85_2 := blk_frozen BK121.out 2; have hfz85_3 := blk_frozen BK121.out 3; have hfz85_4 := blk_frozen BK121.out 4; have hcz86_0 : w78.cell? ⟨gb129, 0, none⟩ = some (.int .i64 t125) := (blk_cell BK129.out 0).trans rfl; have hcz86_1 : w78.cell? ⟨gb129, 1, none⟩ = some (.int .i64 t126) := (blk_cell BK129.out 1).trans rfl; have hfz86_0 := blk_frozen BK129.out 0; have hfz86_1 := blk_frozen BK129.out 1; have hcz87_0 : w78.cell? ⟨gb130, 0, none⟩ = some (.int .i64 t127) := (blk_cell BK130.out 0).trans rfl; have hcz87_1 : w78.cell? ⟨gb130, 1, none⟩ = some (.int .i64 t128) := (blk_cell BK130.out 1).trans rfl; have hfz87_0 := blk_frozen BK130.out 0; have hfz87_1 := blk_frozen BK130.out 1) | ((with_reducible refine gate_callee (f := 38) rfl ?_); refine goesL_ (some 51) rfl rfl Try.func38 (by kernel_rfl) rfl #[.slice A0 l0.length c0, .agg #[.int .i64 t125, .int .i64 t126], .agg #[.int .i64 t127, .int .i64 t128]] rfl (by first | rfl | (simp only [List.map_toArray, List.map_cons, List.map_nil] <;> rfl)) ?_; (with_reducible refine (area_with.calls _ _ l0 t125 t126 t127 t128 t138 t139 t140 t141 t142 _ ?side1 ?side2 A59.out).mono ?_); (case side1 => exact Kd.C_below HR0.out (by repeat with_reducible first | exact HB.out | apply ba | apply bn | apply bd | refine bset ?_ (by assumption))); (case side2 => exact HC0.out); rintro e w88 ⟨rfl, hb⟩; refine ⟨_, rfl, ?_⟩; have n0_ := Aside0.mk (blk_below (g := gb120) (o := .cells #[.int .i64 a1_0, .int .i64 a1_1] 28 (0, 0)) (by refine pk ?_; refine blk_far ?_ NB120_131.out _; refine pk ?_; refine blk_far ?_ NB120_131.out _; refine pk ?_; refine blk_far ?_ NB120_131.out _; refine pk ?_; refine blk_far ?_ NB120_131.out _; refine pk ?_; refine blk_far ?_ NB120_131.out _; exact pk BK120.out) hb); have n1_ := Aside0.mk (blk_below (g := gb121) (o := .cells #[.int .i64 a2_0, .int .i64 a2_1, .int .i64 a2_2, .bool a2_3, .int .i64 a2_4] 38 (0, 0)) (by refine pk ?_; refine blk_far ?_ NB121_131.out _; refine pk ?_; refine blk_far ?_ NB121_131.out _; refine pk ?_; refine blk_far ?_ NB121_131.out _; refine pk ?_; refine blk_far ?_ NB121_131.out _; refine pk ?_; refine blk_far ?_ NB121_131.out _; exact pk BK121.out) hb); have n2_ := Aside0.mk (blk_below (g := gb122) (o := .cells #[.int .i64 0, .int .i64 0, .int .i64 0, .int .i64 0, .int .i64 0] 43 (0, 0)) (by refine pk ?_; refine blk_far ?_ NB122_131.out _; refine pk ?_; refine blk_far ?_ NB122_131.out _; refine pk ?_; refine blk_far ?_ NB122_131.out _; refine pk ?_; refine blk_far ?_ NB122_131.out _; refine pk ?_; refine blk_far ?_ NB122_131.out _; exact pk BK122.out) hb); have n3_ := Aside0.mk (blk_below (g := gb129) (o := .cells #[.int .i64 t125, .int .i64 t126] 28 (0, 0)) (by refine pk ?_; refine blk_far ?_ NB129_131.out _; refine pk ?_; refine blk_far ?_ NB129_131.out _; refine pk ?_; refine blk_far ?_ NB129_131.out _; refine pk ?_; refine blk_far ?_ NB129_131.out _; refine pk ?_; refine blk_far ?_ NB129_131.out _; exact pk BK129.out) hb); have n4_ := Aside0.mk (blk_below (g := gb130) (o := .cells #[.int .i64 t127, .int .i64 t128] 28 (0, 0)) (by refine pk ?_; refine blk_far ?_ NB130_131.out _; refine pk ?_; refine blk_far ?_ NB130_131.out _; refine pk ?_; refine blk_far ?_ NB130_131.out _; refine pk ?_; refine blk_far ?_ NB130_131.out _; refine pk ?_; refine blk_far ?_ NB130_131.out _; exact pk BK130.out) hb); have n5_ := Aside0.mk (blk_below (g := gb131) (o := .cells #[.int .i64 0, .int .i64 t125, .int .i64 t126, .int .i64 t127, .int .i64 t128] 43 (0, 0)) (by refine pk ?_; refine blk_put (cs := #[.int .i64 0, .int .i64 t125, .int .i64 t126, .int .i64 t127, .int .i64 0]) ?_ 4 _ rfl; refine pk ?_; refine blk_put (cs := #[.int .i64 0, .int .i64 t125, .int .i64 t126, .int .i64 0, .int .i64 0]) ?_ 3 _ rfl; refine pk ?_; refine blk_put (cs := #[.int .i64 0, .int .i64 t125, .int .i64 0, .int .i64 0, .int .i64 0]) ?_ 2 _ rfl; refine pk ?_; refine blk_put (cs := #[.int .i64 0, .int .i64 0, .int .i64 0, .int .i64 0, .int .i64 0]) ?_ 1 _ rfl; refine pk ?_; refine blk_put (cs := #[.int .i64 0, .int .i64 0, .int .i64 0, .int .i64 0, .int .i64 0]) ?_ 0 _ rfl; exact pk BK131.out) hb); have n6_ := Aside0.mk (below_step (by repeat with_reducible first | exact HB.out | apply ba | apply bn | apply bd | refine bset ?_ (by assumption)) hb); clear BK120; clear BK121; clear BK122; clear BK129; clear BK130; clear BK131; clear HB; have BK120 := n0_; have BK121 := n1_; have BK122 := n2_; have BK129 := n3_; have BK130 := n4_; have BK131 := n5_; have HB := n6_; clear n0_ n1_ n2_ n3_ n4_ n5_ n6_; (try clear hb); (try clear hb2); (try clear hk); (try clear hi); have hcz89_0 : w88.cell? ⟨gb131, 0, none⟩ = some (.int .i64 0) := (blk_cell BK131.out 0).trans rfl; have hcz89_1 : w88.cell? ⟨gb131, 1, none⟩ = some (.int .i64 t125) := (blk_cell BK131.out 1).trans rfl; have hcz89_2 : w88.cell? ⟨gb131, 2, none⟩ = some (.int .i64 t126) := (blk_cell BK131.out 2).trans rfl; have hcz89_3 : w88.cell? ⟨gb131, 3, none⟩ = some (.int .i64 t127) := (blk_cell BK131.out 3).trans rfl; have hcz89_4 : w88.cell? ⟨gb131, 4, none⟩ = some (.int .i64 t128) := (blk_cell BK131.out 4).trans rfl; have hfz89_0 := blk_frozen BK131.out 0; have hfz89_1 := blk_frozen BK131.out 1; have hfz89_2 := blk_frozen BK131.out 2; have hfz89_3 := blk_frozen BK131.out 3; have hfz89_4 := blk_frozen BK131.out 4; have hcz90_0 : w88.cell? ⟨gb122, 0, none⟩ = some (.int .i64 0) := (blk_cell BK122.out 0).trans rfl; have hcz90_1 : w88.cell? ⟨gb122, 1, none⟩ = some (.int .i64 0) := (blk_cell BK122.out 1).trans rfl; have hcz90_2 : w88.cell? ⟨gb122, 2, none⟩ = some (.int .i64 0) := (blk_cell BK122.out 2).trans rfl; have hcz90_3 : w88.cell? ⟨gb122, 3, none⟩ = some (.int .i64 0) := (blk_cell BK122.out 3).trans rfl; have hcz90_4 : w88.cell? ⟨gb122, 4, none⟩ = some (.int .i64 0) := (blk_cell BK122.out 4).trans rfl; have hfz90_0 := blk_frozen BK122.out 0; have hfz90_1 := blk_frozen BK122.out 1; have hfz90_2 := blk_frozen BK122.out 2; have hfz90_3 := blk_frozen BK122.out 3; have hfz90_4 := blk_frozen BK122.out 4))
       refine bodyPost_ret (results_ct rfl _ _ gb122 43 #[.int .i64 0, .int .i64 0, .int .i64 0, .int .i64 0, .int .i64 0] (0, 0) _ rfl (by refine pk ?_; refine blk_put (cs := #[.int .i64 0, .int .i64 0, .int .i64 0, .int .i64 0, .int .i64 0]) ?_ 4 _ rfl; refine pk ?_; refine blk_put (cs := #[.int .i64 0, .int .i64 0, .int .i64 0, .int .i64 0, .int .i64 0]) ?_ 3 _ rfl; refine pk ?_; refine blk_put (cs := #[.int .i64 0, .int .i64 0, .int .i64 0, .int .i64 0, .int .i64 0]) ?_ 2 _ rfl; refine pk ?_; refine blk_put (cs := #[.int .i64 0, .int .i64 0, .int .i64 0, .int .i64 0, .int .i64 0]) ?_ 1 _ rfl; refine pk ?_; refine blk_put (cs := #[.int .i64 0, .int .i64 0, .int .i64 0, .int .i64 0, .int .i64 0]) ?_ 0 _ rfl; refine pk ?_; refine blk_far ?_ NB122_131.out _; refine pk ?_; refine blk_far ?_ NB122_131.out _; refine pk ?_; refine blk_far ?_ NB122_131.out _; refine pk ?_; refine blk_far ?_ NB122_131.out _; refine pk ?_; refine blk_far ?_ NB122_131.out _; exact pk BK122.out) Try.underlying43 rfl (by kernel_rfl)) rfl ?_
       exact ⟨by first | rfl | (simp [errW_none, errW_some] <;> rfl) | (simp [*, errW_none, errW_some] <;> rfl), by repeat with_reducible first | exact HB.out | apply ba | apply bn | apply bd | refine bset ?_ (by assumption)⟩
      ·rw [if_neg c60] at H
       have c60b0 : (t139 == t141 && (t140 == t142)) = false := by simpa using c60
       (try (have c60b1 : decide (t139 = t141 && (t140 == t142)) = false := by simpa using c60))
       (try (have c60b2 : (t139 == t141 && (t140 == t142)) = false := by simpa using c60))
       (try (have c60b3 : ¬ (t139 = t141 && (t140 == t142)) := by simpa using c60))
       clear c60
       simp only [Option.some.injEq, Prod.mk.injEq] at H
       obtain ⟨rfl, rfl, rfl, rfl, rfl, rfl⟩ := H
       have hnb91 := NB120_121.out
       have hnc91 := NB121_120.out
       have hnb92 := NB120_122.out
       have hnc92 := NB122_120.out
       have hcz93_0 : wc.cell? ⟨gb120, 0, none⟩ = some (.int .i64 a1_0) := (blk_cell BK120.out 0).trans rfl
       have hcz93_1 : wc.cell? ⟨gb120, 1, none⟩ = some (.int .i64 a1_1) := (blk_cell BK120.out 1).trans rfl
       have hfz93_0 := blk_frozen BK120.out 0
       have hfz93_1 := blk_frozen BK120.out 1
       have hnb94 := NB121_122.out
       have hnc94 := NB122_121.out
       have hcz95_0 : wc.cell? ⟨gb121, 0, none⟩ = some (.int .i64 a2_0) := (blk_cell BK121.out 0).trans rfl
       have hcz95_1 : wc.cell? ⟨gb121, 1, none⟩ = some (.int .i64 a2_1) := (blk_cell BK121.out 1).trans rfl
       have hcz95_2 : wc.cell? ⟨gb121, 2, none⟩ = some (.int .i64 a2_2) := (blk_cell BK121.out 2).trans rfl
       have hcz95_3 : wc.cell? ⟨gb121, 3, none⟩ = some (.bool a2_3) := (blk_cell BK121.out 3).trans rfl
       have hcz95_4 : wc.cell? ⟨gb121, 4, none⟩ = some (.int .i64 a2_4) := (blk_cell BK121.out 4).trans rfl
       have hfz95_0 := blk_frozen BK121.out 0
       have hfz95_1 := blk_frozen BK121.out 1
       have hfz95_2 := blk_frozen BK121.out 2
       have hfz95_3 := blk_frozen BK121.out 3
       have hfz95_4 := blk_frozen BK121.out 4
       go_wp2_with (first | ((with_reducible refine gate_callee (f := 36) rfl ?_); refine goesL_ (some 27) rfl rfl Try.func36 (by kernel_rfl) rfl #[.agg #[.int .i64 a1_0, .int .i64 a1_1], .agg #[.int .i64 a2_0, .int .i64 a2_1]] rfl (by first | rfl | (simp only [List.map_toArray, List.map_cons, List.map_nil] <;> rfl)) ?_; (with_reducible refine (span_Order.calls a1_0 a1_1 a2_0 a2_1 t125 t126 t127 t128 _ A26.out).mono ?_); rintro e w96 ⟨rfl, hb⟩; refine ⟨_, rfl, ?_⟩; have n0_ := Aside0.mk (blk_below (pk BK120.out) hb); have n1_ := Aside0.mk (blk_below (pk BK121.out) hb); have n2_ := Aside0.mk (blk_below (pk BK122.out) hb); have n3_ := Aside0.mk (below_step (by repeat with_reducible first | exact HB.out | apply ba | apply bn | apply bd | refine bset ?_ (by assumption)) hb); clear BK120; clear BK121; clear BK122; clear HB; have BK120 := n0_; have BK121 := n1_; have BK122 := n2_; have HB := n3_; clear n0_ n1_ n2_ n3_; (try clear hb); (try clear hb2); (try clear hk); (try clear hi)) | ((with_reducible refine gate_dst (N := 8) rfl ?_); refine box_event ?hg (N := 8) ?hd (cs := #[.int .i64 0, .int .i64 0]) (t := 28) ?hr ?_; (case hd => rfl); (case hg => rfl); (case hr => first | (go_simp; done) | (go_simp; rfl)); intro gb129 hg w97 hbox hb; have n0_ := Aside0.mk (blk_below (pk BK120.out) hb); have n1_ := Aside0.mk (blk_below (pk BK121.out) hb); have n2_ := Aside0.mk (blk_below (pk BK122.out) hb); have n3_ := Aside0.mk (below_step (by repeat with_reducible first | exact HB.out | apply ba | apply bn | apply bd | refine bset ?_ (by assumption)) hb); have n4_ := Aside0.mk (hbox); have n5_ := Aside0.mk ((by rw [hg]; exact (below_size (by repeat with_reducible first | exact HB.out | apply ba | apply bn | apply bd | refine bset ?_ (by assumption))) : w.heap.size ≤ gb129)); have n6_ := n5_; have n7_ := Aside0.mk ((by rw [hg]; exact Nat.ne_of_lt (blk_lt (pk BK120.out)) : gb120 ≠ gb129)); have n8_ := Aside0.mk ((by rw [hg]; exact Nat.ne_of_gt (blk_lt (pk BK120.out)) : gb129 ≠ gb120)); have n9_ := Aside0.mk ((by rw [hg]; exact Nat.ne_of_lt (blk_lt (pk BK121.out)) : gb121 ≠ gb129)); have n10_ := Aside0.mk ((by rw [hg]; exact Nat.ne_of_gt (blk_lt (pk BK121.out)) : gb129 ≠ gb121)); have n11_ := Aside0.mk ((by rw [hg]; exact Nat.ne_of_lt (blk_lt (pk BK122.out)) : gb122 ≠ gb129)); have n12_ := Aside0.mk ((by rw [hg]; exact Nat.ne_of_gt (blk_lt (pk BK122.out)) : gb129 ≠ gb122)); clear BK120; clear BK121; clear BK122; clear HB; have BK120 := n0_; have BK121 := n1_; have BK122 := n2_; have HB := n3_; have BK129 := n4_; have GW129 := n5_; have GE129 := n6_; have NB120_129 := n7_; have NB129_120 := n8_; have NB121_129 := n9_; have NB129_121 := n10_; have NB122_129 := n11_; have NB129_122 := n12_; clear n0_ n1_ n2_ n3_ n4_ n5_ n6_ n7_ n8_ n9_ n10_ n11_ n12_; clear hb hbox hg) | ((with_reducible refine gate_dst (N := 9) rfl ?_); refine box_event ?hg (N := 9) ?hd (cs := #[.int .i64 0, .int .i64 0]) (t := 28) ?hr ?_; (case hd => rfl); (case hg => rfl); (case hr => first | (go_simp; done) | (go_simp; rfl)); intro gb130 hg w98 hbox hb; have n0_ := Aside0.mk (blk_below (pk BK120.out) hb); have n1_ := Aside0.mk (blk_below (pk BK121.out) hb); have n2_ := Aside0.mk (blk_below (pk BK122.out) hb); have n3_ := Aside0.mk (blk_below (pk BK129.out) hb); have n4_ := Aside0.mk (below_step (by repeat with_reducible first | exact HB.out | apply ba | apply bn | apply bd | refine bset ?_ (by assumption)) hb); have n5_ := Aside0.mk (hbox); have n6_ := Aside0.mk ((by rw [hg]; exact (below_size (by repeat with_reducible first | exact HB.out | apply ba | apply bn | apply bd | refine bset ?_ (by assumption))) : w.heap.size ≤ gb130)); have n7_ := n6_; have n8_ := Aside0.mk ((by rw [hg]; exact Nat.ne_of_lt (blk_lt (pk BK120.out)) : gb120 ≠ gb130)); have n9_ := Aside0.mk ((by rw [hg]; exact Nat.ne_of_gt (blk_lt (pk BK120.out)) : gb130 ≠ gb120)); have n10_ := Aside0.mk ((by rw [hg]; exact Nat.ne_of_lt (blk_lt (pk BK121.out)) : gb121 ≠ gb130)); have n11_ := Aside0.mk ((by rw [hg]; exact Nat.ne_of_gt (blk_lt (pk BK121.out)) : gb130 ≠ gb121)); have n12_ := Aside0.mk ((by rw [hg]; exact Nat.ne_of_lt (blk_lt (pk BK122.out)) : gb122 ≠ gb130)); have n13_ := Aside0.mk ((by rw [hg]; exact Nat.ne_of_gt (blk_lt (pk BK122.out)) : gb130 ≠ gb122)); have n14_ := Aside0.mk ((by rw [hg]; exact Nat.ne_of_lt (blk_lt (pk BK129.out)) : gb129 ≠ gb130)); have n15_ := Aside0.mk ((by rw [hg]; exact Nat.ne_of_gt (blk_lt (pk BK129.out)) : gb130 ≠ gb129)); clear BK120; clear BK121; clear BK122; clear BK129; clear HB; have BK120 := n0_; have BK121 := n1_; have BK122 := n2_; have BK129 := n3_; have HB := n4_; have BK130 := n5_; have GW130 := n6_; have GE130 := n7_; have NB120_130 := n8_; have NB130_120 := n9_; have NB121_130 := n10_; have NB130_121 := n11_; have NB122_130 := n12_; have NB130_122 := n13_; have NB129_130 := n14_; have NB130_129 := n15_; clear n0_ n1_ n2_ n3_ n4_ n5_ n6_ n7_ n8_ n9_ n10_ n11_ n12_ n13_ n14_ n15_; clear hb hbox hg; have hnb99 := NB129_120.out; have hnc99 := NB120_129.out; have hnb100 := NB129_121.out; have hnc100 := NB121_129.out; have hnb101 := NB129_122.out; have hnc101 := NB122_129.out; have hnb102 := NB129_130.out; have hnc102 := NB130_129.out; have hcz103_0 : w98.cell? ⟨gb129, 0, none⟩ = some (.int .i64 0) := (blk_cell BK129.out 0).trans rfl; have hcz103_1 : w98.cell? ⟨gb129, 1, none⟩ = some (.int .i64 0) := (blk_cell BK129.out 1).trans rfl; have hfz103_0 := blk_frozen BK129.out 0; have hfz103_1 := blk_frozen BK129.out 1; have hnb104 := NB130_120.out; have hnc104 := NB120_130.out; have hnb105 := NB130_121.out; have hnc105 := NB121_130.out; have hnb106 := NB130_122.out; have hnc106 := NB122_130.out; have hcz107_0 : w98.cell? ⟨gb130, 0, none⟩ = some (.int .i64 0) := (blk_cell BK130.out 0).trans rfl; have hcz107_1 : w98.cell? ⟨gb130, 1, none⟩ = some (.int .i64 0) := (blk_cell BK130.out 1).trans rfl; have hfz107_0 := blk_frozen BK130.out 0; have hfz107_1 := blk_frozen BK130.out 1) | ((with_reducible refine gate_dst (N := 10) rfl ?_); refine box_event ?hg (N := 10) ?hd (cs := #[.int .i64 0, .int .i64 0, .int .i64 0, .int .i64 0, .int .i64 0]) (t := 43) ?hr ?_; (case hd => rfl); (case hg => rfl); (case hr => first | (go_simp; done) | (go_simp; rfl)); intro gb131 hg w108 hbox hb; have n0_ := Aside0.mk (blk_below (g := gb120) (o := .cells #[.int .i64 a1_0, .int .i64 a1_1] 28 (0, 0)) (by refine pk ?_; refine blk_far ?_ NB120_130.out _; refine pk ?_; refine blk_far ?_ NB120_130.out _; refine pk ?_; refine blk_far ?_ NB120_129.out _; refine pk ?_; refine blk_far ?_ NB120_129.out _; exact pk BK120.out) hb); have n1_ := Aside0.mk (blk_below (g := gb121) (o := .cells #[.int .i64 a2_0, .int .i64 a2_1, .int .i64 a2_2, .bool a2_3, .int .i64 a2_4] 38 (0, 0)) (by refine pk ?_; refine blk_far ?_ NB121_130.out _; refine pk ?_; refine blk_far ?_ NB121_130.out _; refine pk ?_; refine blk_far ?_ NB121_129.out _; refine pk ?_; refine blk_far ?_ NB121_129.out _; exact pk BK121.out) hb); have n2_ := Aside0.mk (blk_below (g := gb122) (o := .cells #[.int .i64 0, .int .i64 0, .int .i64 0, .int .i64 0, .int .i64 0] 43 (0, 0)) (by refine pk ?_; refine blk_far ?_ NB122_130.out _; refine pk ?_; refine blk_far ?_ NB122_130.out _; refine pk ?_; refine blk_far ?_ NB122_129.out _; refine pk ?_; refine blk_far ?_ NB122_129.out _; exact pk BK122.out) hb); have n3_ := Aside0.mk (blk_below (g := gb129) (o := .cells #[.int .i64 t125, .int .i64 t126] 28 (0, 0)) (by refine pk ?_; refine blk_far ?_ NB129_130.out _; refine pk ?_; refine blk_far ?_ NB129_130.out _; refine pk ?_; refine blk_put (cs := #[.int .i64 t125, .int .i64 0]) ?_ 1 _ rfl; refine pk ?_; refine blk_put (cs := #[.int .i64 0, .int .i64 0]) ?_ 0 _ rfl; exact pk BK129.out) hb); have n4_ := Aside0.mk (blk_below (g := gb130) (o := .cells #[.int .i64 t127, .int .i64 t128] 28 (0, 0)) (by refine pk ?_; refine blk_put (cs := #[.int .i64 t127, .int .i64 0]) ?_ 1 _ rfl; refine pk ?_; refine blk_put (cs := #[.int .i64 0, .int .i64 0]) ?_ 0 _ rfl; refine pk ?_; refine blk_far ?_ NB130_129.out _; refine pk ?_; refine blk_far ?_ NB130_129.out _; exact pk BK130.out) hb); have n5_ := Aside0.mk (below_step (by repeat with_reducible first | exact HB.out | apply ba | apply bn | apply bd | refine bset ?_ (by assumption)) hb); have n6_ := Aside0.mk (hbox); have n7_ := Aside0.mk ((by rw [hg]; exact (below_size (by repeat with_reducible first | exact HB.out | apply ba | apply bn | apply bd | refine bset ?_ (by assumption))) : w.heap.size ≤ gb131)); have n8_ := n7_; have n9_ := Aside0.mk ((by rw [hg]; exact Nat.ne_of_lt (blk_lt (g := gb120) (o := .cells #[.int .i64 a1_0, .int .i64 a1_1] 28 (0, 0)) (by refine pk ?_; refine blk_far ?_ NB120_130.out _; refine pk ?_; refine blk_far ?_ NB120_130.out _; refine pk ?_; refine blk_far ?_ NB120_129.out _; refine pk ?_; refine blk_far ?_ NB120_129.out _; exact pk BK120.out)) : gb120 ≠ gb131)); have n10_ := Aside0.mk ((by rw [hg]; exact Nat.ne_of_gt (blk_lt (g := gb120) (o := .cells #[.int .i64 a1_0, .int .i64 a1_1] 28 (0, 0)) (by refine pk ?_; refine blk_far ?_ NB120_130.out _; refine pk ?_; refine blk_far ?_ NB120_130.out _; refine pk ?_; refine blk_far ?_ NB120_129.out _; refine pk ?_; refine blk_far ?_ NB120_129.out _; exact pk BK120.out)) : gb131 ≠ gb120)); have n11_ := Aside0.mk ((by rw [hg]; exact Nat.ne_of_lt (blk_lt (g := gb121) (o := .cells #[.int .i64 a2_0, .int .i64 a2_1, .int .i64 a2_2, .bool a2_3, .int .i64 a2_4] 38 (0, 0)) (by refine pk ?_; refine blk_far ?_ NB121_130.out _; refine pk ?_; refine blk_far ?_ NB121_130.out _; refine pk ?_; refine blk_far ?_ NB121_129.out _; refine pk ?_; refine blk_far ?_ NB121_129.out _; exact pk BK121.out)) : gb121 ≠ gb131)); have n12_ := Aside0.mk ((by rw [hg]; exact Nat.ne_of_gt (blk_lt (g := gb121) (o := .cells #[.int .i64 a2_0, .int .i64 a2_1, .int .i64 a2_2, .bool a2_3, .int .i64 a2_4] 38 (0, 0)) (by refine pk ?_; refine blk_far ?_ NB121_130.out _; refine pk ?_; refine blk_far ?_ NB121_130.out _; refine pk ?_; refine blk_far ?_ NB121_129.out _; refine pk ?_; refine blk_far ?_ NB121_129.out _; exact pk BK121.out)) : gb131 ≠ gb121)); have n13_ := Aside0.mk ((by rw [hg]; exact Nat.ne_of_lt (blk_lt (g := gb122) (o := .cells #[.int .i64 0, .int .i64 0, .int .i64 0, .int .i64 0, .int .i64 0] 43 (0, 0)) (by refine pk ?_; refine blk_far ?_ NB122_130.out _; refine pk ?_; refine blk_far ?_ NB122_130.out _; refine pk ?_; refine blk_far ?_ NB122_129.out _; refine pk ?_; refine blk_far ?_ NB122_129.out _; exact pk BK122.out)) : gb122 ≠ gb131)); have n14_ := Aside0.mk ((by rw [hg]; exact Nat.ne_of_gt (blk_lt (g := gb122) (o := .cells #[.int .i64 0, .int .i64 0, .int .i64 0, .int .i64 0, .int .i64 0] 43 (0, 0)) (by refine pk ?_; refine blk_far ?_ NB122_130.out _; refine pk ?_; refine blk_far ?_ NB122_130.out _; refine pk ?_; refine blk_far ?_ NB122_129.out _; refine pk ?_; refine blk_far ?_ NB122_129.out _; exact pk BK122.out)) : gb131 ≠ gb122)); have n15_ := Aside0.mk ((by rw [hg]; exact Nat.ne_of_lt (blk_lt (g := gb129) (o := .cells #[.int .i64 t125, .int .i64 t126] 28 (0, 0)) (by refine pk ?_; refine blk_far ?_ NB129_130.out _; refine pk ?_; refine blk_far ?_ NB129_130.out _; refine pk ?_; refine blk_put (cs := #[.int .i64 t125, .int .i64 0]) ?_ 1 _ rfl; refine pk ?_; refine blk_put (cs := #[.int .i64 0, .int .i64 0]) ?_ 0 _ rfl; exact pk BK129.out)) : gb129 ≠ gb131)); have n16_ := Aside0.mk ((by rw [hg]; exact Nat.ne_of_gt (blk_lt (g := gb129) (o := .cells #[.int .i64 t125, .int .i64 t126] 28 (0, 0)) (by refine pk ?_; refine blk_far ?_ NB129_130.out _; refine pk ?_; refine blk_far ?_ NB129_130.out _; refine pk ?_; refine blk_put (cs := #[.int .i64 t125, .int .i64 0]) ?_ 1 _ rfl; refine pk ?_; refine blk_put (cs := #[.int .i64 0, .int .i64 0]) ?_ 0 _ rfl; exact pk BK129.out)) : gb131 ≠ gb129)); have n17_ := Aside0.mk ((by rw [hg]; exact Nat.ne_of_lt (blk_lt (g := gb130) (o := .cells #[.int .i64 t127, .int .i64 t128] 28 (0, 0)) (by refine pk ?_; refine blk_put (cs := #[.int .i64 t127, .int .i64 0]) ?_ 1 _ rfl; refine pk ?_; refine blk_put (cs := #[.int .i64 0, .int .i64 0]) ?_ 0 _ rfl; refine pk ?_; refine blk_far ?_ NB130_129.out _; refine pk ?_; refine blk_far ?_ NB130_129.out _; exact pk BK130.out)) : gb130 ≠ gb131)); have n18_ := Aside0.mk ((by rw [hg]; exact Nat.ne_of_gt (blk_lt (g := gb130) (o := .cells #[.int .i64 t127, .int .i64 t128] 28 (0, 0)) (by refine pk ?_; refine blk_put (cs := #[.int .i64 t127, .int .i64 0]) ?_ 1 _ rfl; refine pk ?_; refine blk_put (cs := #[.int .i64 0, .int .i64 0]) ?_ 0 _ rfl; refine pk ?_; refine blk_far ?_ NB130_129.out _; refine pk ?_; refine blk_far ?_ NB130_129.out _; exact pk BK130.out)) : gb131 ≠ gb130)); clear BK120; clear BK121; clear BK122; clear BK129; clear BK130; clear HB; have BK120 := n0_; have BK121 := n1_; have BK122 := n2_; have BK129 := n3_; have BK130 := n4_; have HB := n5_; have BK131 := n6_; have GW131 := n7_; have GE131 := n8_; have NB120_131 := n9_; have NB131_120 := n10_; have NB121_131 := n11_; have NB131_121 := n12_; have NB122_131 := n13_; have NB131_122 := n14_; have NB129_131 := n15_; have NB131_129 := n16_; have NB130_131 := n17_; have NB131_130 := n18_; clear n0_ n1_ n2_ n3_ n4_ n5_ n6_ n7_ n8_ n9_ n10_ n11_ n12_ n13_ n14_ n15_ n16_ n17_ n18_; clear hb hbox hg; have hnb109 := NB131_120.out; have hnc109 := NB120_131.out; have hnb110 := NB131_121.out; have hnc110 := NB121_131.out; have hnb111 := NB131_122.out; have hnc111 := NB122_131.out; have hnb112 := NB131_129.out; have hnc112 := NB129_131.out; have hnb113 := NB131_130.out; have hnc113 := NB130_131.out; have hcz114_0 : w108.cell? ⟨gb131, 0, none⟩ = some (.int .i64 0) := (blk_cell BK131.out 0).trans rfl; have hcz114_1 : w108.cell? ⟨gb131, 1, none⟩ = some (.int .i64 0) := (blk_cell BK131.out 1).trans rfl; have hcz114_2 : w108.cell? ⟨gb131, 2, none⟩ = some (.int .i64 0) := (blk_cell BK131.out 2).trans rfl; have hcz114_3 : w108.cell? ⟨gb131, 3, none⟩ = some (.int .i64 0) := (blk_cell BK131.out 3).trans rfl; have hcz114_4 : w108.cell? ⟨gb131, 4, none⟩ = some (.int .i64 0) := (blk_cell BK131.out 4).trans rfl; have hfz114_0 := blk_frozen BK131.out 0; have hfz114_1 := blk_frozen BK131.out 1; have hfz114_2 := blk_frozen BK131.out 2; have hfz114_3 := blk_frozen BK131.out 3; have hfz114_4 := blk_frozen BK131.out 4; have hcz115_0 : w108.cell? ⟨gb121, 0, none⟩ = some (.int .i64 a2_0) := (blk_cell BK121.out 0).trans rfl; have hcz115_1 : w108.cell? ⟨gb121, 1, none⟩ = some (.int .i64 a2_1) := (blk_cell BK121.out 1).trans rfl; have hcz115_2 : w108.cell? ⟨gb121, 2, none⟩ = some (.int .i64 a2_2) := (blk_cell BK121.out 2).trans rfl; have hcz115_3 : w108.cell? ⟨gb121, 3, none⟩ = some (.bool a2_3) := (blk_cell BK121.out 3).trans rfl; have hcz115_4 : w108.cell? ⟨gb121, 4, none⟩ = some (.int .i64 a2_4) := (blk_cell BK121.out 4).trans rfl; have hfz115_0 := blk_frozen BK121.out 0; have hfz115_1 := blk_frozen BK121.out 1; have hfz115_2 := blk_frozen BK121.out 2; have hfz115_3 := blk_frozen BK121.out 3; have hfz115_4 := blk_frozen BK121.out 4; have hcz116_0 : w108.cell? ⟨gb129, 0, none⟩ = some (.int .i64 t125) := (blk_cell BK129.out 0).trans rfl; have hcz116_1 : w108.cell? ⟨gb129, 1, none⟩ = some (.int .i64 t126) := (blk_cell BK129.out 1).trans rfl; have hfz116_0 := blk_frozen BK129.out 0; have hfz116_1 := blk_frozen BK129.out 1; have hcz117_0 : w108.cell? ⟨gb130, 0, none⟩ = some (.int .i64 t127) := (blk_cell BK130.out 0).trans rfl; have hcz117_1 : w108.cell? ⟨gb130, 1, none⟩ = some (.int .i64 t128) := (blk_cell BK130.out 1).trans rfl; have hfz117_0 := blk_frozen BK130.out 0; have hfz117_1 := blk_frozen BK130.out 1) | ((with_reducible refine gate_callee (f := 38) rfl ?_); refine goesL_ (some 51) rfl rfl Try.func38 (by kernel_rfl) rfl #[.slice A0 l0.length c0, .agg #[.int .i64 t125, .int .i64 t126], .agg #[.int .i64 t127, .int .i64 t128]] rfl (by first | rfl | (simp only [List.map_toArray, List.map_cons, List.map_nil] <;> rfl)) ?_; (with_reducible refine (area_with.calls _ _ l0 t125 t126 t127 t128 t138 t139 t140 t141 t142 _ ?side1 ?side2 A59.out).mono ?_); (case side1 => exact Kd.C_below HR0.out (by repeat with_reducible first | exact HB.out | apply ba | apply bn | apply bd | refine bset ?_ (by assumption))); (case side2 => exact HC0.out); rintro e w118 ⟨rfl, hb⟩; refine ⟨_, rfl, ?_⟩; have n0_ := Aside0.mk (blk_below (g := gb120) (o := .cells #[.int .i64 a1_0, .int .i64 a1_1] 28 (0, 0)) (by refine pk ?_; refine blk_far ?_ NB120_131.out _; refine pk ?_; refine blk_far ?_ NB120_131.out _; refine pk ?_; refine blk_far ?_ NB120_131.out _; refine pk ?_; refine blk_far ?_ NB120_131.out _; refine pk ?_; refine blk_far ?_ NB120_131.out _; exact pk BK120.out) hb); have n1_ := Aside0.mk (blk_below (g := gb121) (o := .cells #[.int .i64 a2_0, .int .i64 a2_1, .int .i64 a2_2, .bool a2_3, .int .i64 a2_4] 38 (0, 0)) (by refine pk ?_; refine blk_far ?_ NB121_131.out _; refine pk ?_; refine blk_far ?_ NB121_131.out _; refine pk ?_; refine blk_far ?_ NB121_131.out _; refine pk ?_; refine blk_far ?_ NB121_131.out _; refine pk ?_; refine blk_far ?_ NB121_131.out _; exact pk BK121.out) hb); have n2_ := Aside0.mk (blk_below (g := gb122) (o := .cells #[.int .i64 0, .int .i64 0, .int .i64 0, .int .i64 0, .int .i64 0] 43 (0, 0)) (by refine pk ?_; refine blk_far ?_ NB122_131.out _; refine pk ?_; refine blk_far ?_ NB122_131.out _; refine pk ?_; refine blk_far ?_ NB122_131.out _; refine pk ?_; refine blk_far ?_ NB122_131.out _; refine pk ?_; refine blk_far ?_ NB122_131.out _; exact pk BK122.out) hb); have n3_ := Aside0.mk (blk_below (g := gb129) (o := .cells #[.int .i64 t125, .int .i64 t126] 28 (0, 0)) (by refine pk ?_; refine blk_far ?_ NB129_131.out _; refine pk ?_; refine blk_far ?_ NB129_131.out _; refine pk ?_; refine blk_far ?_ NB129_131.out _; refine pk ?_; refine blk_far ?_ NB129_131.out _; refine pk ?_; refine blk_far ?_ NB129_131.out _; exact pk BK129.out) hb); have n4_ := Aside0.mk (blk_below (g := gb130) (o := .cells #[.int .i64 t127, .int .i64 t128] 28 (0, 0)) (by refine pk ?_; refine blk_far ?_ NB130_131.out _; refine pk ?_; refine blk_far ?_ NB130_131.out _; refine pk ?_; refine blk_far ?_ NB130_131.out _; refine pk ?_; refine blk_far ?_ NB130_131.out _; refine pk ?_; refine blk_far ?_ NB130_131.out _; exact pk BK130.out) hb); have n5_ := Aside0.mk (blk_below (g := gb131) (o := .cells #[.int .i64 0, .int .i64 t125, .int .i64 t126, .int .i64 t127, .int .i64 t128] 43 (0, 0)) (by refine pk ?_; refine blk_put (cs := #[.int .i64 0, .int .i64 t125, .int .i64 t126, .int .i64 t127, .int .i64 0]) ?_ 4 _ rfl; refine pk ?_; refine blk_put (cs := #[.int .i64 0, .int .i64 t125, .int .i64 t126, .int .i64 0, .int .i64 0]) ?_ 3 _ rfl; refine pk ?_; refine blk_put (cs := #[.int .i64 0, .int .i64 t125, .int .i64 0, .int .i64 0, .int .i64 0]) ?_ 2 _ rfl; refine pk ?_; refine blk_put (cs := #[.int .i64 0, .int .i64 0, .int .i64 0, .int .i64 0, .int .i64 0]) ?_ 1 _ rfl; refine pk ?_; refine blk_put (cs := #[.int .i64 0, .int .i64 0, .int .i64 0, .int .i64 0, .int .i64 0]) ?_ 0 _ rfl; exact pk BK131.out) hb); have n6_ := Aside0.mk (below_step (by repeat with_reducible first | exact HB.out | apply ba | apply bn | apply bd | refine bset ?_ (by assumption)) hb); clear BK120; clear BK121; clear BK122; clear BK129; clear BK130; clear BK131; clear HB; have BK120 := n0_; have BK121 := n1_; have BK122 := n2_; have BK129 := n3_; have BK130 := n4_; have BK131 := n5_; have HB := n6_; clear n0_ n1_ n2_ n3_ n4_ n5_ n6_; (try clear hb); (try clear hb2); (try clear hk); (try clear hi); have hcz119_0 : w118.cell? ⟨gb131, 0, none⟩ = some (.int .i64 0) := (blk_cell BK131.out 0).trans rfl; have hcz119_1 : w118.cell? ⟨gb131, 1, none⟩ = some (.int .i64 t125) := (blk_cell BK131.out 1).trans rfl; have hcz119_2 : w118.cell? ⟨gb131, 2, none⟩ = some (.int .i64 t126) := (blk_cell BK131.out 2).trans rfl; have hcz119_3 : w118.cell? ⟨gb131, 3, none⟩ = some (.int .i64 t127) := (blk_cell BK131.out 3).trans rfl; have hcz119_4 : w118.cell? ⟨gb131, 4, none⟩ = some (.int .i64 t128) := (blk_cell BK131.out 4).trans rfl; have hfz119_0 := blk_frozen BK131.out 0; have hfz119_1 := blk_frozen BK131.out 1; have hfz119_2 := blk_frozen BK131.out 2; have hfz119_3 := blk_frozen BK131.out 3; have hfz119_4 := blk_frozen BK131.out 4; have hcz120_0 : w118.cell? ⟨gb122, 0, none⟩ = some (.int .i64 0) := (blk_cell BK122.out 0).trans rfl; have hcz120_1 : w118.cell? ⟨gb122, 1, none⟩ = some (.int .i64 0) := (blk_cell BK122.out 1).trans rfl; have hcz120_2 : w118.cell? ⟨gb122, 2, none⟩ = some (.int .i64 0) := (blk_cell BK122.out 2).trans rfl; have hcz120_3 : w118.cell? ⟨gb122, 3, none⟩ = some (.int .i64 0) := (blk_cell BK122.out 3).trans rfl; have hcz120_4 : w118.cell? ⟨gb122, 4, none⟩ = some (.int .i64 0) := (blk_cell BK122.out 4).trans rfl; have hfz120_0 := blk_frozen BK122.out 0; have hfz120_1 := blk_frozen BK122.out 1; have hfz120_2 := blk_frozen BK122.out 2; have hfz120_3 := blk_frozen BK122.out 3; have hfz120_4 := blk_frozen BK122.out 4))
       refine bodyPost_ret (results_ct rfl _ _ gb122 43 #[.int .i64 t138, .int .i64 t139, .int .i64 t140, .int .i64 t141, .int .i64 t142] (0, 0) _ rfl (by refine pk ?_; refine blk_put (cs := #[.int .i64 t138, .int .i64 t139, .int .i64 t140, .int .i64 t141, .int .i64 0]) ?_ 4 _ rfl; refine pk ?_; refine blk_put (cs := #[.int .i64 t138, .int .i64 t139, .int .i64 t140, .int .i64 0, .int .i64 0]) ?_ 3 _ rfl; refine pk ?_; refine blk_put (cs := #[.int .i64 t138, .int .i64 t139, .int .i64 0, .int .i64 0, .int .i64 0]) ?_ 2 _ rfl; refine pk ?_; refine blk_put (cs := #[.int .i64 t138, .int .i64 0, .int .i64 0, .int .i64 0, .int .i64 0]) ?_ 1 _ rfl; refine pk ?_; refine blk_put (cs := #[.int .i64 0, .int .i64 0, .int .i64 0, .int .i64 0, .int .i64 0]) ?_ 0 _ rfl; refine pk ?_; refine blk_far ?_ NB122_131.out _; refine pk ?_; refine blk_far ?_ NB122_131.out _; refine pk ?_; refine blk_far ?_ NB122_131.out _; refine pk ?_; refine blk_far ?_ NB122_131.out _; refine pk ?_; refine blk_far ?_ NB122_131.out _; exact pk BK122.out) Try.underlying43 rfl (by kernel_rfl)) rfl ?_
       exact ⟨by first | rfl | (simp [errW_none, errW_some] <;> rfl) | (simp [*, errW_none, errW_some] <;> rfl), by repeat with_reducible first | exact HB.out | apply ba | apply bn | apply bd | refine bset ?_ (by assumption)⟩
     ·rw [if_neg c58] at H
      have c58b0 : (a2_2 == 1) = false := beq_eq_false_iff_ne.mpr c58
      have c58b1 : (a2_2 != 1) = true := bne_iff_ne.mpr c58
      by_cases c121 : a2_2 = 0
      ·rw [if_pos c121] at H
       have c121b0 : (a2_2 == 0) = true := beq_iff_eq.mpr c121
       have c121b1 : (a2_2 != 0) = false := bne_eq_false_iff_eq.mpr c121
       clear c121
       have HC122 := Aside0.mk H
       clear H
       have hnb123 := NB120_121.out
       have hnc123 := NB121_120.out
       have hnb124 := NB120_122.out
       have hnc124 := NB122_120.out
       have hcz125_0 : wc.cell? ⟨gb120, 0, none⟩ = some (.int .i64 a1_0) := (blk_cell BK120.out 0).trans rfl
       have hcz125_1 : wc.cell? ⟨gb120, 1, none⟩ = some (.int .i64 a1_1) := (blk_cell BK120.out 1).trans rfl
       have hfz125_0 := blk_frozen BK120.out 0
       have hfz125_1 := blk_frozen BK120.out 1
       have hnb126 := NB121_122.out
       have hnc126 := NB122_121.out
       have hcz127_0 : wc.cell? ⟨gb121, 0, none⟩ = some (.int .i64 a2_0) := (blk_cell BK121.out 0).trans rfl
       have hcz127_1 : wc.cell? ⟨gb121, 1, none⟩ = some (.int .i64 a2_1) := (blk_cell BK121.out 1).trans rfl
       have hcz127_2 : wc.cell? ⟨gb121, 2, none⟩ = some (.int .i64 a2_2) := (blk_cell BK121.out 2).trans rfl
       have hcz127_3 : wc.cell? ⟨gb121, 3, none⟩ = some (.bool a2_3) := (blk_cell BK121.out 3).trans rfl
       have hcz127_4 : wc.cell? ⟨gb121, 4, none⟩ = some (.int .i64 a2_4) := (blk_cell BK121.out 4).trans rfl
       have hfz127_0 := blk_frozen BK121.out 0
       have hfz127_1 := blk_frozen BK121.out 1
       have hfz127_2 := blk_frozen BK121.out 2
       have hfz127_3 := blk_frozen BK121.out 3
       have hfz127_4 := blk_frozen BK121.out 4
       go_upto_region 11 with (first | ((with_reducible refine gate_callee (f := 36) rfl ?_); refine goesL_ (some 27) rfl rfl Try.func36 (by kernel_rfl) rfl #[.agg #[.int .i64 a1_0, .int .i64 a1_1], .agg #[.int .i64 a2_0, .int .i64 a2_1]] rfl (by first | rfl | (simp only [List.map_toArray, List.map_cons, List.map_nil] <;> rfl)) ?_; (with_reducible refine (span_Order.calls a1_0 a1_1 a2_0 a2_1 t125 t126 t127 t128 _ A26.out).mono ?_); rintro e w128 ⟨rfl, hb⟩; refine ⟨_, rfl, ?_⟩; have n0_ := Aside0.mk (blk_below (pk BK120.out) hb); have n1_ := Aside0.mk (blk_below (pk BK121.out) hb); have n2_ := Aside0.mk (blk_below (pk BK122.out) hb); have n3_ := Aside0.mk (below_step (by repeat with_reducible first | exact HB.out | apply ba | apply bn | apply bd | refine bset ?_ (by assumption)) hb); clear BK120; clear BK121; clear BK122; clear HB; have BK120 := n0_; have BK121 := n1_; have BK122 := n2_; have HB := n3_; clear n0_ n1_ n2_ n3_; (try clear hb); (try clear hb2); (try clear hk); (try clear hi)) | ((with_reducible refine gate_dst (N := 8) rfl ?_); refine box_event ?hg (N := 8) ?hd (cs := #[.int .i64 0, .int .i64 0]) (t := 28) ?hr ?_; (case hd => rfl); (case hg => rfl); (case hr => first | (go_simp; done) | (go_simp; rfl)); intro gb129 hg w129 hbox hb; have n0_ := Aside0.mk (blk_below (pk BK120.out) hb); have n1_ := Aside0.mk (blk_below (pk BK121.out) hb); have n2_ := Aside0.mk (blk_below (pk BK122.out) hb); have n3_ := Aside0.mk (below_step (by repeat with_reducible first | exact HB.out | apply ba | apply bn | apply bd | refine bset ?_ (by assumption)) hb); have n4_ := Aside0.mk (hbox); have n5_ := Aside0.mk ((by rw [hg]; exact (below_size (by repeat with_reducible first | exact HB.out | apply ba | apply bn | apply bd | refine bset ?_ (by assumption))) : w.heap.size ≤ gb129)); have n6_ := n5_; have n7_ := Aside0.mk ((by rw [hg]; exact Nat.ne_of_lt (blk_lt (pk BK120.out)) : gb120 ≠ gb129)); have n8_ := Aside0.mk ((by rw [hg]; exact Nat.ne_of_gt (blk_lt (pk BK120.out)) : gb129 ≠ gb120)); have n9_ := Aside0.mk ((by rw [hg]; exact Nat.ne_of_lt (blk_lt (pk BK121.out)) : gb121 ≠ gb129)); have n10_ := Aside0.mk ((by rw [hg]; exact Nat.ne_of_gt (blk_lt (pk BK121.out)) : gb129 ≠ gb121)); have n11_ := Aside0.mk ((by rw [hg]; exact Nat.ne_of_lt (blk_lt (pk BK122.out)) : gb122 ≠ gb129)); have n12_ := Aside0.mk ((by rw [hg]; exact Nat.ne_of_gt (blk_lt (pk BK122.out)) : gb129 ≠ gb122)); clear BK120; clear BK121; clear BK122; clear HB; have BK120 := n0_; have BK121 := n1_; have BK122 := n2_; have HB := n3_; have BK129 := n4_; have GW129 := n5_; have GE129 := n6_; have NB120_129 := n7_; have NB129_120 := n8_; have NB121_129 := n9_; have NB129_121 := n10_; have NB122_129 := n11_; have NB129_122 := n12_; clear n0_ n1_ n2_ n3_ n4_ n5_ n6_ n7_ n8_ n9_ n10_ n11_ n12_; clear hb hbox hg) | ((with_reducible refine gate_dst (N := 9) rfl ?_); refine box_event ?hg (N := 9) ?hd (cs := #[.int .i64 0, .int .i64 0]) (t := 28) ?hr ?_; (case hd => rfl); (case hg => rfl); (case hr => first | (go_simp; done) | (go_simp; rfl)); intro gb130 hg w130 hbox hb; have n0_ := Aside0.mk (blk_below (pk BK120.out) hb); have n1_ := Aside0.mk (blk_below (pk BK121.out) hb); have n2_ := Aside0.mk (blk_below (pk BK122.out) hb); have n3_ := Aside0.mk (blk_below (pk BK129.out) hb); have n4_ := Aside0.mk (below_step (by repeat with_reducible first | exact HB.out | apply ba | apply bn | apply bd | refine bset ?_ (by assumption)) hb); have n5_ := Aside0.mk (hbox); have n6_ := Aside0.mk ((by rw [hg]; exact (below_size (by repeat with_reducible first | exact HB.out | apply ba | apply bn | apply bd | refine bset ?_ (by assumption))) : w.heap.size ≤ gb130)); have n7_ := n6_; have n8_ := Aside0.mk ((by rw [hg]; exact Nat.ne_of_lt (blk_lt (pk BK120.out)) : gb120 ≠ gb130)); have n9_ := Aside0.mk ((by rw [hg]; exact Nat.ne_of_gt (blk_lt (pk BK120.out)) : gb130 ≠ gb120)); have n10_ := Aside0.mk ((by rw [hg]; exact Nat.ne_of_lt (blk_lt (pk BK121.out)) : gb121 ≠ gb130)); have n11_ := Aside0.mk ((by rw [hg]; exact Nat.ne_of_gt (blk_lt (pk BK121.out)) : gb130 ≠ gb121)); have n12_ := Aside0.mk ((by rw [hg]; exact Nat.ne_of_lt (blk_lt (pk BK122.out)) : gb122 ≠ gb130)); have n13_ := Aside0.mk ((by rw [hg]; exact Nat.ne_of_gt (blk_lt (pk BK122.out)) : gb130 ≠ gb122)); have n14_ := Aside0.mk ((by rw [hg]; exact Nat.ne_of_lt (blk_lt (pk BK129.out)) : gb129 ≠ gb130)); have n15_ := Aside0.mk ((by rw [hg]; exact Nat.ne_of_gt (blk_lt (pk BK129.out)) : gb130 ≠ gb129)); clear BK120; clear BK121; clear BK122; clear BK129; clear HB; have BK120 := n0_; have BK121 := n1_; have BK122 := n2_; have BK129 := n3_; have HB := n4_; have BK130 := n5_; have GW130 := n6_; have GE130 := n7_; have NB120_130 := n8_; have NB130_120 := n9_; have NB121_130 := n10_; have NB130_121 := n11_; have NB122_130 := n12_; have NB130_122 := n13_; have NB129_130 := n14_; have NB130_129 := n15_; clear n0_ n1_ n2_ n3_ n4_ n5_ n6_ n7_ n8_ n9_ n10_ n11_ n12_ n13_ n14_ n15_; clear hb hbox hg; have hnb131 := NB129_120.out; have hnc131 := NB120_129.out; have hnb132 := NB129_121.out; have hnc132 := NB121_129.out; have hnb133 := NB129_122.out; have hnc133 := NB122_129.out; have hnb134 := NB129_130.out; have hnc134 := NB130_129.out; have hcz135_0 : w130.cell? ⟨gb129, 0, none⟩ = some (.int .i64 0) := (blk_cell BK129.out 0).trans rfl; have hcz135_1 : w130.cell? ⟨gb129, 1, none⟩ = some (.int .i64 0) := (blk_cell BK129.out 1).trans rfl; have hfz135_0 := blk_frozen BK129.out 0; have hfz135_1 := blk_frozen BK129.out 1; have hnb136 := NB130_120.out; have hnc136 := NB120_130.out; have hnb137 := NB130_121.out; have hnc137 := NB121_130.out; have hnb138 := NB130_122.out; have hnc138 := NB122_130.out; have hcz139_0 : w130.cell? ⟨gb130, 0, none⟩ = some (.int .i64 0) := (blk_cell BK130.out 0).trans rfl; have hcz139_1 : w130.cell? ⟨gb130, 1, none⟩ = some (.int .i64 0) := (blk_cell BK130.out 1).trans rfl; have hfz139_0 := blk_frozen BK130.out 0; have hfz139_1 := blk_frozen BK130.out 1) | ((with_reducible refine gate_dst (N := 10) rfl ?_); refine box_event ?hg (N := 10) ?hd (cs := #[.int .i64 0, .int .i64 0, .int .i64 0, .int .i64 0, .int .i64 0]) (t := 43) ?hr ?_; (case hd => rfl); (case hg => rfl); (case hr => first | (go_simp; done) | (go_simp; rfl)); intro gb131 hg w140 hbox hb; have n0_ := Aside0.mk (blk_below (g := gb120) (o := .cells #[.int .i64 a1_0, .int .i64 a1_1] 28 (0, 0)) (by refine pk ?_; refine blk_far ?_ NB120_130.out _; refine pk ?_; refine blk_far ?_ NB120_130.out _; refine pk ?_; refine blk_far ?_ NB120_129.out _; refine pk ?_; refine blk_far ?_ NB120_129.out _; exact pk BK120.out) hb); have n1_ := Aside0.mk (blk_below (g := gb121) (o := .cells #[.int .i64 a2_0, .int .i64 a2_1, .int .i64 a2_2, .bool a2_3, .int .i64 a2_4] 38 (0, 0)) (by refine pk ?_; refine blk_far ?_ NB121_130.out _; refine pk ?_; refine blk_far ?_ NB121_130.out _; refine pk ?_; refine blk_far ?_ NB121_129.out _; refine pk ?_; refine blk_far ?_ NB121_129.out _; exact pk BK121.out) hb); have n2_ := Aside0.mk (blk_below (g := gb122) (o := .cells #[.int .i64 0, .int .i64 0, .int .i64 0, .int .i64 0, .int .i64 0] 43 (0, 0)) (by refine pk ?_; refine blk_far ?_ NB122_130.out _; refine pk ?_; refine blk_far ?_ NB122_130.out _; refine pk ?_; refine blk_far ?_ NB122_129.out _; refine pk ?_; refine blk_far ?_ NB122_129.out _; exact pk BK122.out) hb); have n3_ := Aside0.mk (blk_below (g := gb129) (o := .cells #[.int .i64 t125, .int .i64 t126] 28 (0, 0)) (by refine pk ?_; refine blk_far ?_ NB129_130.out _; refine pk ?_; refine blk_far ?_ NB129_130.out _; refine pk ?_; refine blk_put (cs := #[.int .i64 t125, .int .i64 0]) ?_ 1 _ rfl; refine pk ?_; refine blk_put (cs := #[.int .i64 0, .int .i64 0]) ?_ 0 _ rfl; exact pk BK129.out) hb); have n4_ := Aside0.mk (blk_below (g := gb130) (o := .cells #[.int .i64 t127, .int .i64 t128] 28 (0, 0)) (by refine pk ?_; refine blk_put (cs := #[.int .i64 t127, .int .i64 0]) ?_ 1 _ rfl; refine pk ?_; refine blk_put (cs := #[.int .i64 0, .int .i64 0]) ?_ 0 _ rfl; refine pk ?_; refine blk_far ?_ NB130_129.out _; refine pk ?_; refine blk_far ?_ NB130_129.out _; exact pk BK130.out) hb); have n5_ := Aside0.mk (below_step (by repeat with_reducible first | exact HB.out | apply ba | apply bn | apply bd | refine bset ?_ (by assumption)) hb); have n6_ := Aside0.mk (hbox); have n7_ := Aside0.mk ((by rw [hg]; exact (below_size (by repeat with_reducible first | exact HB.out | apply ba | apply bn | apply bd | refine bset ?_ (by assumption))) : w.heap.size ≤ gb131)); have n8_ := n7_; have n9_ := Aside0.mk ((by rw [hg]; exact Nat.ne_of_lt (blk_lt (g := gb120) (o := .cells #[.int .i64 a1_0, .int .i64 a1_1] 28 (0, 0)) (by refine pk ?_; refine blk_far ?_ NB120_130.out _; refine pk ?_; refine blk_far ?_ NB120_130.out _; refine pk ?_; refine blk_far ?_ NB120_129.out _; refine pk ?_; refine blk_far ?_ NB120_129.out _; exact pk BK120.out)) : gb120 ≠ gb131)); have n10_ := Aside0.mk ((by rw [hg]; exact Nat.ne_of_gt (blk_lt (g := gb120) (o := .cells #[.int .i64 a1_0, .int .i64 a1_1] 28 (0, 0)) (by refine pk ?_; refine blk_far ?_ NB120_130.out _; refine pk ?_; refine blk_far ?_ NB120_130.out _; refine pk ?_; refine blk_far ?_ NB120_129.out _; refine pk ?_; refine blk_far ?_ NB120_129.out _; exact pk BK120.out)) : gb131 ≠ gb120)); have n11_ := Aside0.mk ((by rw [hg]; exact Nat.ne_of_lt (blk_lt (g := gb121) (o := .cells #[.int .i64 a2_0, .int .i64 a2_1, .int .i64 a2_2, .bool a2_3, .int .i64 a2_4] 38 (0, 0)) (by refine pk ?_; refine blk_far ?_ NB121_130.out _; refine pk ?_; refine blk_far ?_ NB121_130.out _; refine pk ?_; refine blk_far ?_ NB121_129.out _; refine pk ?_; refine blk_far ?_ NB121_129.out _; exact pk BK121.out)) : gb121 ≠ gb131)); have n12_ := Aside0.mk ((by rw [hg]; exact Nat.ne_of_gt (blk_lt (g := gb121) (o := .cells #[.int .i64 a2_0, .int .i64 a2_1, .int .i64 a2_2, .bool a2_3, .int .i64 a2_4] 38 (0, 0)) (by refine pk ?_; refine blk_far ?_ NB121_130.out _; refine pk ?_; refine blk_far ?_ NB121_130.out _; refine pk ?_; refine blk_far ?_ NB121_129.out _; refine pk ?_; refine blk_far ?_ NB121_129.out _; exact pk BK121.out)) : gb131 ≠ gb121)); have n13_ := Aside0.mk ((by rw [hg]; exact Nat.ne_of_lt (blk_lt (g := gb122) (o := .cells #[.int .i64 0, .int .i64 0, .int .i64 0, .int .i64 0, .int .i64 0] 43 (0, 0)) (by refine pk ?_; refine blk_far ?_ NB122_130.out _; refine pk ?_; refine blk_far ?_ NB122_130.out _; refine pk ?_; refine blk_far ?_ NB122_129.out _; refine pk ?_; refine blk_far ?_ NB122_129.out _; exact pk BK122.out)) : gb122 ≠ gb131)); have n14_ := Aside0.mk ((by rw [hg]; exact Nat.ne_of_gt (blk_lt (g := gb122) (o := .cells #[.int .i64 0, .int .i64 0, .int .i64 0, .int .i64 0, .int .i64 0] 43 (0, 0)) (by refine pk ?_; refine blk_far ?_ NB122_130.out _; refine pk ?_; refine blk_far ?_ NB122_130.out _; refine pk ?_; refine blk_far ?_ NB122_129.out _; refine pk ?_; refine blk_far ?_ NB122_129.out _; exact pk BK122.out)) : gb131 ≠ gb122)); have n15_ := Aside0.mk ((by rw [hg]; exact Nat.ne_of_lt (blk_lt (g := gb129) (o := .cells #[.int .i64 t125, .int .i64 t126] 28 (0, 0)) (by refine pk ?_; refine blk_far ?_ NB129_130.out _; refine pk ?_; refine blk_far ?_ NB129_130.out _; refine pk ?_; refine blk_put (cs := #[.int .i64 t125, .int .i64 0]) ?_ 1 _ rfl; refine pk ?_; refine blk_put (cs := #[.int .i64 0, .int .i64 0]) ?_ 0 _ rfl; exact pk BK129.out)) : gb129 ≠ gb131)); have n16_ := Aside0.mk ((by rw [hg]; exact Nat.ne_of_gt (blk_lt (g := gb129) (o := .cells #[.int .i64 t125, .int .i64 t126] 28 (0, 0)) (by refine pk ?_; refine blk_far ?_ NB129_130.out _; refine pk ?_; refine blk_far ?_ NB129_130.out _; refine pk ?_; refine blk_put (cs := #[.int .i64 t125, .int .i64 0]) ?_ 1 _ rfl; refine pk ?_; refine blk_put (cs := #[.int .i64 0, .int .i64 0]) ?_ 0 _ rfl; exact pk BK129.out)) : gb131 ≠ gb129)); have n17_ := Aside0.mk ((by rw [hg]; exact Nat.ne_of_lt (blk_lt (g := gb130) (o := .cells #[.int .i64 t127, .int .i64 t128] 28 (0, 0)) (by refine pk ?_; refine blk_put (cs := #[.int .i64 t127, .int .i64 0]) ?_ 1 _ rfl; refine pk ?_; refine blk_put (cs := #[.int .i64 0, .int .i64 0]) ?_ 0 _ rfl; refine pk ?_; refine blk_far ?_ NB130_129.out _; refine pk ?_; refine blk_far ?_ NB130_129.out _; exact pk BK130.out)) : gb130 ≠ gb131)); have n18_ := Aside0.mk ((by rw [hg]; exact Nat.ne_of_gt (blk_lt (g := gb130) (o := .cells #[.int .i64 t127, .int .i64 t128] 28 (0, 0)) (by refine pk ?_; refine blk_put (cs := #[.int .i64 t127, .int .i64 0]) ?_ 1 _ rfl; refine pk ?_; refine blk_put (cs := #[.int .i64 0, .int .i64 0]) ?_ 0 _ rfl; refine pk ?_; refine blk_far ?_ NB130_129.out _; refine pk ?_; refine blk_far ?_ NB130_129.out _; exact pk BK130.out)) : gb131 ≠ gb130)); clear BK120; clear BK121; clear BK122; clear BK129; clear BK130; clear HB; have BK120 := n0_; have BK121 := n1_; have BK122 := n2_; have BK129 := n3_; have BK130 := n4_; have HB := n5_; have BK131 := n6_; have GW131 := n7_; have GE131 := n8_; have NB120_131 := n9_; have NB131_120 := n10_; have NB121_131 := n11_; have NB131_121 := n12_; have NB122_131 := n13_; have NB131_122 := n14_; have NB129_131 := n15_; have NB131_129 := n16_; have NB130_131 := n17_; have NB131_130 := n18_; clear n0_ n1_ n2_ n3_ n4_ n5_ n6_ n7_ n8_ n9_ n10_ n11_ n12_ n13_ n14_ n15_ n16_ n17_ n18_; clear hb hbox hg; have hnb141 := NB131_120.out; have hnc141 := NB120_131.out; have hnb142 := NB131_121.out; have hnc142 := NB121_131.out; have hnb143 := NB131_122.out; have hnc143 := NB122_131.out; have hnb144 := NB131_129.out; have hnc144 := NB129_131.out; have hnb145 := NB131_130.out; have hnc145 := NB130_131.out; have hcz146_0 : w140.cell? ⟨gb131, 0, none⟩ = some (.int .i64 0) := (blk_cell BK131.out 0).trans rfl; have hcz146_1 : w140.cell? ⟨gb131, 1, none⟩ = some (.int .i64 0) := (blk_cell BK131.out 1).trans rfl; have hcz146_2 : w140.cell? ⟨gb131, 2, none⟩ = some (.int .i64 0) := (blk_cell BK131.out 2).trans rfl; have hcz146_3 : w140.cell? ⟨gb131, 3, none⟩ = some (.int .i64 0) := (blk_cell BK131.out 3).trans rfl; have hcz146_4 : w140.cell? ⟨gb131, 4, none⟩ = some (.int .i64 0) := (blk_cell BK131.out 4).trans rfl; have hfz146_0 := blk_frozen BK131.out 0; have hfz146_1 := blk_frozen BK131.out 1; have hfz146_2 := blk_frozen BK131.out 2; have hfz146_3 := blk_frozen BK131.out 3; have hfz146_4 := blk_frozen BK131.out 4; have hcz147_0 : w140.cell? ⟨gb121, 0, none⟩ = some (.int .i64 a2_0) := (blk_cell BK121.out 0).trans rfl; have hcz147_1 : w140.cell? ⟨gb121, 1, none⟩ = some (.int .i64 a2_1) := (blk_cell BK121.out 1).trans rfl; have hcz147_2 : w140.cell? ⟨gb121, 2, none⟩ = some (.int .i64 a2_2) := (blk_cell BK121.out 2).trans rfl; have hcz147_3 : w140.cell? ⟨gb121, 3, none⟩ = some (.bool a2_3) := (blk_cell BK121.out 3).trans rfl; have hcz147_4 : w140.cell? ⟨gb121, 4, none⟩ = some (.int .i64 a2_4) := (blk_cell BK121.out 4).trans rfl; have hfz147_0 := blk_frozen BK121.out 0; have hfz147_1 := blk_frozen BK121.out 1; have hfz147_2 := blk_frozen BK121.out 2; have hfz147_3 := blk_frozen BK121.out 3; have hfz147_4 := blk_frozen BK121.out 4))
       (try simp only [Act.put, List.setIfInBounds_toArray, List.set_cons_zero, List.set_cons_succ])
       go_cut [57] (fun v57 wc => ∃ (kq : Nat) (x57_121 : Bool), v57 = .bool x57_121 ∧ Aside0 (area_Of.j1 kq l0 x57_121 t125 t126 t127 t128 0 t125 t126 t127 t128 = some (r1, r2, r3, r4, r5, r6)) ∧ Aside0 (kq ≤ kj3) ∧ Aside0 (wc.heap[gb120]? = some (.cells #[.int .i64 a1_0, .int .i64 a1_1] 28 (0, 0))) ∧ Aside0 (wc.heap[gb121]? = some (.cells #[.int .i64 a2_0, .int .i64 a2_1, .int .i64 a2_2, .bool a2_3, .int .i64 a2_4] 38 (0, 0))) ∧ Aside0 (wc.heap[gb122]? = some (.cells #[.int .i64 0, .int .i64 0, .int .i64 0, .int .i64 0, .int .i64 0] 43 (0, 0))) ∧ Aside0 (wc.heap[gb129]? = some (.cells #[.int .i64 t125, .int .i64 t126] 28 (0, 0))) ∧ Aside0 (wc.heap[gb130]? = some (.cells #[.int .i64 t127, .int .i64 t128] 28 (0, 0))) ∧ Aside0 (wc.heap[gb131]? = some (.cells #[.int .i64 0, .int .i64 t125, .int .i64 t126, .int .i64 t127, .int .i64 t128] 43 (0, 0))) ∧ Aside0 (Below w.heap.size w wc))
       case first =>
        have H := HC122.out
        clear HC122
        by_cases c148 : t125 < t127
        ·rw [if_pos c148] at H
         have c148b0 : decide (t125 < t127) = true := decide_eq_true c148
         clear c148
         (first | rw [c148b0] | (simp only [i64_w, i32_w]; rw [c148b0]) | skip)
         have H' := Aside0.mk H
         clear H
         have hnb149 := NB129_120.out
         have hnc149 := NB120_129.out
         have hnb150 := NB129_121.out
         have hnc150 := NB121_129.out
         have hnb151 := NB129_122.out
         have hnc151 := NB122_129.out
         have hnb152 := NB129_130.out
         have hnc152 := NB130_129.out
         have hnb153 := NB129_131.out
         have hnc153 := NB131_129.out
         have hcz154_0 : w140.cell? ⟨gb129, 0, none⟩ = some (.int .i64 t125) := (blk_cell BK129.out 0).trans rfl
         have hcz154_1 : w140.cell? ⟨gb129, 1, none⟩ = some (.int .i64 t126) := (blk_cell BK129.out 1).trans rfl
         have hfz154_0 := blk_frozen BK129.out 0
         have hfz154_1 := blk_frozen BK129.out 1
         have hnb155 := NB130_120.out
         have hnc155 := NB120_130.out
         have hnb156 := NB130_121.out
         have hnc156 := NB121_130.out
         have hnb157 := NB130_122.out
         have hnc157 := NB122_130.out
         have hnb158 := NB130_131.out
         have hnc158 := NB131_130.out
         have hcz159_0 : w140.cell? ⟨gb130, 0, none⟩ = some (.int .i64 t127) := (blk_cell BK130.out 0).trans rfl
         have hcz159_1 : w140.cell? ⟨gb130, 1, none⟩ = some (.int .i64 t128) := (blk_cell BK130.out 1).trans rfl
         have hfz159_0 := blk_frozen BK130.out 0
         have hfz159_1 := blk_frozen BK130.out 1
         go_wp2
         go_meet
         case rel => exact ⟨_, ((t128 == 0)), (by first | rfl | (simp; done) | (simp [*]; done)), H', ⟨by have := HJ3.out; first | omega | exact Nat.le_refl _⟩, ⟨by refine pk ?_; refine blk_far ?_ NB120_131.out _; refine pk ?_; refine blk_far ?_ NB120_131.out _; refine pk ?_; refine blk_far ?_ NB120_131.out _; refine pk ?_; refine blk_far ?_ NB120_131.out _; refine pk ?_; refine blk_far ?_ NB120_131.out _; exact pk BK120.out⟩, ⟨by refine pk ?_; refine blk_far ?_ NB121_131.out _; refine pk ?_; refine blk_far ?_ NB121_131.out _; refine pk ?_; refine blk_far ?_ NB121_131.out _; refine pk ?_; refine blk_far ?_ NB121_131.out _; refine pk ?_; refine blk_far ?_ NB121_131.out _; exact pk BK121.out⟩, ⟨by refine pk ?_; refine blk_far ?_ NB122_131.out _; refine pk ?_; refine blk_far ?_ NB122_131.out _; refine pk ?_; refine blk_far ?_ NB122_131.out _; refine pk ?_; refine blk_far ?_ NB122_131.out _; refine pk ?_; refine blk_far ?_ NB122_131.out _; exact pk BK122.out⟩, ⟨by refine pk ?_; refine blk_far ?_ NB129_131.out _; refine pk ?_; refine blk_far ?_ NB129_131.out _; refine pk ?_; refine blk_far ?_ NB129_131.out _; refine pk ?_; refine blk_far ?_ NB129_131.out _; refine pk ?_; refine blk_far ?_ NB129_131.out _; exact pk BK129.out⟩, ⟨by refine pk ?_; refine blk_far ?_ NB130_131.out _; refine pk ?_; refine blk_far ?_ NB130_131.out _; refine pk ?_; refine blk_far ?_ NB130_131.out _; refine pk ?_; refine blk_far ?_ NB130_131.out _; refine pk ?_; refine blk_far ?_ NB130_131.out _; exact pk BK130.out⟩, ⟨by refine pk ?_; refine blk_put (cs := #[.int .i64 0, .int .i64 t125, .int .i64 t126, .int .i64 t127, .int .i64 0]) ?_ 4 _ rfl; refine pk ?_; refine blk_put (cs := #[.int .i64 0, .int .i64 t125, .int .i64 t126, .int .i64 0, .int .i64 0]) ?_ 3 _ rfl; refine pk ?_; refine blk_put (cs := #[.int .i64 0, .int .i64 t125, .int .i64 0, .int .i64 0, .int .i64 0]) ?_ 2 _ rfl; refine pk ?_; refine blk_put (cs := #[.int .i64 0, .int .i64 0, .int .i64 0, .int .i64 0, .int .i64 0]) ?_ 1 _ rfl; refine pk ?_; refine blk_put (cs := #[.int .i64 0, .int .i64 0, .int .i64 0, .int .i64 0, .int .i64 0]) ?_ 0 _ rfl; exact pk BK131.out⟩, ⟨by repeat with_reducible first | exact HB.out | apply ba | apply bn | apply bd | refine bset ?_ (by assumption)⟩⟩
        ·rw [if_neg c148] at H
         have c148b0 : decide (t125 < t127) = false := decide_eq_false c148
         clear c148
         (first | rw [c148b0] | (simp only [i64_w, i32_w]; rw [c148b0]) | skip)
         have H' := Aside0.mk H
         clear H
         have hnb160 := NB129_120.out
         have hnc160 := NB120_129.out
         have hnb161 := NB129_121.out
         have hnc161 := NB121_129.out
         have hnb162 := NB129_122.out
         have hnc162 := NB122_129.out
         have hnb163 := NB129_130.out
         have hnc163 := NB130_129.out
         have hnb164 := NB129_131.out
         have hnc164 := NB131_129.out
         have hcz165_0 : w140.cell? ⟨gb129, 0, none⟩ = some (.int .i64 t125) := (blk_cell BK129.out 0).trans rfl
         have hcz165_1 : w140.cell? ⟨gb129, 1, none⟩ = some (.int .i64 t126) := (blk_cell BK129.out 1).trans rfl
         have hfz165_0 := blk_frozen BK129.out 0
         have hfz165_1 := blk_frozen BK129.out 1
         have hnb166 := NB130_120.out
         have hnc166 := NB120_130.out
         have hnb167 := NB130_121.out
         have hnc167 := NB121_130.out
         have hnb168 := NB130_122.out
         have hnc168 := NB122_130.out
         have hnb169 := NB130_131.out
         have hnc169 := NB131_130.out
         have hcz170_0 : w140.cell? ⟨gb130, 0, none⟩ = some (.int .i64 t127) := (blk_cell BK130.out 0).trans rfl
         have hcz170_1 : w140.cell? ⟨gb130, 1, none⟩ = some (.int .i64 t128) := (blk_cell BK130.out 1).trans rfl
         have hfz170_0 := blk_frozen BK130.out 0
         have hfz170_1 := blk_frozen BK130.out 1
         go_wp2
         go_meet
         case rel => exact ⟨_, (false), (by first | rfl | (simp; done) | (simp [*]; done)), H', ⟨by have := HJ3.out; first | omega | exact Nat.le_refl _⟩, ⟨by refine pk ?_; refine blk_far ?_ NB120_131.out _; refine pk ?_; refine blk_far ?_ NB120_131.out _; refine pk ?_; refine blk_far ?_ NB120_131.out _; refine pk ?_; refine blk_far ?_ NB120_131.out _; refine pk ?_; refine blk_far ?_ NB120_131.out _; exact pk BK120.out⟩, ⟨by refine pk ?_; refine blk_far ?_ NB121_131.out _; refine pk ?_; refine blk_far ?_ NB121_131.out _; refine pk ?_; refine blk_far ?_ NB121_131.out _; refine pk ?_; refine blk_far ?_ NB121_131.out _; refine pk ?_; refine blk_far ?_ NB121_131.out _; exact pk BK121.out⟩, ⟨by refine pk ?_; refine blk_far ?_ NB122_131.out _; refine pk ?_; refine blk_far ?_ NB122_131.out _; refine pk ?_; refine blk_far ?_ NB122_131.out _; refine pk ?_; refine blk_far ?_ NB122_131.out _; refine pk ?_; refine blk_far ?_ NB122_131.out _; exact pk BK122.out⟩, ⟨by refine pk ?_; refine blk_far ?_ NB129_131.out _; refine pk ?_; refine blk_far ?_ NB129_131.out _; refine pk ?_; refine blk_far ?_ NB129_131.out _; refine pk ?_; refine blk_far ?_ NB129_131.out _; refine pk ?_; refine blk_far ?_ NB129_131.out _; exact pk BK129.out⟩, ⟨by refine pk ?_; refine blk_far ?_ NB130_131.out _; refine pk ?_; refine blk_far ?_ NB130_131.out _; refine pk ?_; refine blk_far ?_ NB130_131.out _; refine pk ?_; refine blk_far ?_ NB130_131.out _; refine pk ?_; refine blk_far ?_ NB130_131.out _; exact pk BK130.out⟩, ⟨by refine pk ?_; refine blk_put (cs := #[.int .i64 0, .int .i64 t125, .int .i64 t126, .int .i64 t127, .int .i64 0]) ?_ 4 _ rfl; refine pk ?_; refine blk_put (cs := #[.int .i64 0, .int .i64 t125, .int .i64 t126, .int .i64 0, .int .i64 0]) ?_ 3 _ rfl; refine pk ?_; refine blk_put (cs := #[.int .i64 0, .int .i64 t125, .int .i64 0, .int .i64 0, .int .i64 0]) ?_ 2 _ rfl; refine pk ?_; refine blk_put (cs := #[.int .i64 0, .int .i64 0, .int .i64 0, .int .i64 0, .int .i64 0]) ?_ 1 _ rfl; refine pk ?_; refine blk_put (cs := #[.int .i64 0, .int .i64 0, .int .i64 0, .int .i64 0, .int .i64 0]) ?_ 0 _ rfl; exact pk BK131.out⟩, ⟨by repeat with_reducible first | exact HB.out | apply ba | apply bn | apply bd | refine bset ?_ (by assumption)⟩⟩
       case rest =>
        clear HC122
        try clear c1
        try clear c2
        try clear p2
        try clear c3
        try clear c4
        try clear c5
        try clear c6
        try clear c7
        try clear c8
        try clear c9
        try clear c10
        try clear c11
        try clear c12
        try clear c13
        try clear c14
        try clear c15
        try clear c16
        try clear c18
        try clear c19
        try clear c22
        try clear c23
        try clear c24
        try clear c27
        try clear c27b0
        try clear c27b1
        try clear c29
        try clear c30
        try clear c32
        try clear c35
        try clear c36
        try clear c37
        try clear c38
        try clear c39
        try clear c40
        try clear c42
        try clear c43
        try clear c44
        try clear c47
        try clear c48
        try clear c49
        try clear c50
        try clear c51
        try clear c58
        try clear c58b0
        try clear c58b1
        try clear c60
        try clear c60b0
        try clear c60b1
        try clear c60b2
        try clear c61
        try clear c62
        try clear c64
        try clear c69
        try clear c70
        try clear c71
        try clear c72
        try clear c74
        try clear c75
        try clear c76
        try clear c79
        try clear c80
        try clear c81
        try clear c82
        try clear c83
        try clear c91
        try clear c92
        try clear c94
        try clear c99
        try clear c100
        try clear c101
        try clear c102
        try clear c104
        try clear c105
        try clear c106
        try clear c109
        try clear c110
        try clear c111
        try clear c112
        try clear c113
        try clear c121
        try clear c121b0
        try clear c121b1
        try clear c123
        try clear c124
        try clear c126
        try clear c131
        try clear c132
        try clear c133
        try clear c134
        try clear c136
        try clear c137
        try clear c138
        try clear c141
        try clear c142
        try clear c143
        try clear c144
        try clear c145
        try clear c148
        try clear c148b0
        try clear c149
        try clear c150
        try clear c151
        try clear c152
        try clear c153
        try clear c155
        try clear c156
        try clear c157
        try clear c158
        try clear c160
        try clear c161
        try clear c162
        try clear c163
        try clear c164
        try clear c166
        try clear c167
        try clear c168
        try clear c169
        try clear hcz103_0
        try clear hcz103_1
        try clear hcz107_0
        try clear hcz107_1
        try clear hcz114_0
        try clear hcz114_1
        try clear hcz114_2
        try clear hcz114_3
        try clear hcz114_4
        try clear hcz115_0
        try clear hcz115_1
        try clear hcz115_2
        try clear hcz115_3
        try clear hcz115_4
        try clear hcz116_0
        try clear hcz116_1
        try clear hcz117_0
        try clear hcz117_1
        try clear hcz119_0
        try clear hcz119_1
        try clear hcz119_2
        try clear hcz119_3
        try clear hcz119_4
        try clear hcz120_0
        try clear hcz120_1
        try clear hcz120_2
        try clear hcz120_3
        try clear hcz120_4
        try clear hcz125_0
        try clear hcz125_1
        try clear hcz127_0
        try clear hcz127_1
        try clear hcz127_2
        try clear hcz127_3
        try clear hcz127_4
        try clear hcz135_0
        try clear hcz135_1
        try clear hcz139_0
        try clear hcz139_1
        try clear hcz13_0
        try clear hcz13_1
        try clear hcz146_0
        try clear hcz146_1
        try clear hcz146_2
        try clear hcz146_3
        try clear hcz146_4
        try clear hcz147_0
        try clear hcz147_1
        try clear hcz147_2
        try clear hcz147_3
        try clear hcz147_4
        try clear hcz154_0
        try clear hcz154_1
        try clear hcz159_0
        try clear hcz159_1
        try clear hcz165_0
        try clear hcz165_1
        try clear hcz16_0
        try clear hcz16_1
        try clear hcz16_2
        try clear hcz16_3
        try clear hcz16_4
        try clear hcz170_0
        try clear hcz170_1
        try clear hcz20_0
        try clear hcz20_1
        try clear hcz25_0
        try clear hcz25_1
        try clear hcz25_2
        try clear hcz25_3
        try clear hcz25_4
        try clear hcz31_0
        try clear hcz31_1
        try clear hcz33_0
        try clear hcz33_1
        try clear hcz33_2
        try clear hcz33_3
        try clear hcz33_4
        try clear hcz41_0
        try clear hcz41_1
        try clear hcz45_0
        try clear hcz45_1
        try clear hcz52_0
        try clear hcz52_1
        try clear hcz52_2
        try clear hcz52_3
        try clear hcz52_4
        try clear hcz53_0
        try clear hcz53_1
        try clear hcz53_2
        try clear hcz53_3
        try clear hcz53_4
        try clear hcz54_0
        try clear hcz54_1
        try clear hcz55_0
        try clear hcz55_1
        try clear hcz57_0
        try clear hcz57_1
        try clear hcz57_2
        try clear hcz57_3
        try clear hcz57_4
        try clear hcz63_0
        try clear hcz63_1
        try clear hcz65_0
        try clear hcz65_1
        try clear hcz65_2
        try clear hcz65_3
        try clear hcz65_4
        try clear hcz73_0
        try clear hcz73_1
        try clear hcz77_0
        try clear hcz77_1
        try clear hcz84_0
        try clear hcz84_1
        try clear hcz84_2
        try clear hcz84_3
        try clear hcz84_4
        try clear hcz85_0
        try clear hcz85_1
        try clear hcz85_2
        try clear hcz85_3
        try clear hcz85_4
        try clear hcz86_0
        try clear hcz86_1
        try clear hcz87_0
        try clear hcz87_1
        try clear hcz89_0
        try clear hcz89_1
        try clear hcz89_2
        try clear hcz89_3
        try clear hcz89_4
        try clear hcz90_0
        try clear hcz90_1
        try clear hcz90_2
        try clear hcz90_3
        try clear hcz90_4
        try clear hcz93_0
        try clear hcz93_1
        try clear hcz95_0
        try clear hcz95_1
        try clear hcz95_2
        try clear hcz95_3
        try clear hcz95_4
        try clear hfz103_0
        try clear hfz103_1
        try clear hfz107_0
        try clear hfz107_1
        try clear hfz114_0
        try clear hfz114_1
        try clear hfz114_2
        try clear hfz114_3
        try clear hfz114_4
        try clear hfz115_0
        try clear hfz115_1
        try clear hfz115_2
        try clear hfz115_3
        try clear hfz115_4
        try clear hfz116_0
        try clear hfz116_1
        try clear hfz117_0
        try clear hfz117_1
        try clear hfz119_0
        try clear hfz119_1
        try clear hfz119_2
        try clear hfz119_3
        try clear hfz119_4
        try clear hfz120_0
        try clear hfz120_1
        try clear hfz120_2
        try clear hfz120_3
        try clear hfz120_4
        try clear hfz125_0
        try clear hfz125_1
        try clear hfz127_0
        try clear hfz127_1
        try clear hfz127_2
        try clear hfz127_3
        try clear hfz127_4
        try clear hfz135_0
        try clear hfz135_1
        try clear hfz139_0
        try clear hfz139_1
        try clear hfz13_0
        try clear hfz13_1
        try clear hfz146_0
        try clear hfz146_1
        try clear hfz146_2
        try clear hfz146_3
        try clear hfz146_4
        try clear hfz147_0
        try clear hfz147_1
        try clear hfz147_2
        try clear hfz147_3
        try clear hfz147_4
        try clear hfz154_0
        try clear hfz154_1
        try clear hfz159_0
        try clear hfz159_1
        try clear hfz165_0
        try clear hfz165_1
        try clear hfz16_0
        try clear hfz16_1
        try clear hfz16_2
        try clear hfz16_3
        try clear hfz16_4
        try clear hfz170_0
        try clear hfz170_1
        try clear hfz20_0
        try clear hfz20_1
        try clear hfz25_0
        try clear hfz25_1
        try clear hfz25_2
        try clear hfz25_3
        try clear hfz25_4
        try clear hfz31_0
        try clear hfz31_1
        try clear hfz33_0
        try clear hfz33_1
        try clear hfz33_2
        try clear hfz33_3
        try clear hfz33_4
        try clear hfz41_0
        try clear hfz41_1
        try clear hfz45_0
        try clear hfz45_1
        try clear hfz52_0
        try clear hfz52_1
        try clear hfz52_2
        try clear hfz52_3
        try clear hfz52_4
        try clear hfz53_0
        try clear hfz53_1
        try clear hfz53_2
        try clear hfz53_3
        try clear hfz53_4
        try clear hfz54_0
        try clear hfz54_1
        try clear hfz55_0
        try clear hfz55_1
        try clear hfz57_0
        try clear hfz57_1
        try clear hfz57_2
        try clear hfz57_3
        try clear hfz57_4
        try clear hfz63_0
        try clear hfz63_1
        try clear hfz65_0
        try clear hfz65_1
        try clear hfz65_2
        try clear hfz65_3
        try clear hfz65_4
        try clear hfz73_0
        try clear hfz73_1
        try clear hfz77_0
        try clear hfz77_1
        try clear hfz84_0
        try clear hfz84_1
        try clear hfz84_2
        try clear hfz84_3
        try clear hfz84_4
        try clear hfz85_0
        try clear hfz85_1
        try clear hfz85_2
        try clear hfz85_3
        try clear hfz85_4
        try clear hfz86_0
        try clear hfz86_1
        try clear hfz87_0
        try clear hfz87_1
        try clear hfz89_0
        try clear hfz89_1
        try clear hfz89_2
        try clear hfz89_3
        try clear hfz89_4
        try clear hfz90_0
        try clear hfz90_1
        try clear hfz90_2
        try clear hfz90_3
        try clear hfz90_4
        try clear hfz93_0
        try clear hfz93_1
        try clear hfz95_0
        try clear hfz95_1
        try clear hfz95_2
        try clear hfz95_3
        try clear hfz95_4
        try clear p2
        obtain ⟨kq, x57_121, rfl, HA, HJ121, BK120, BK121, BK122, BK129, BK130, BK131, HB⟩ := hcut
        cases kq with
        | zero => exact absurd HA.out (by simp [area_Of.j1])
        | succ kj121 =>
         have H := HA.out
         clear HA
         simp only [area_Of.j1] at H
         by_cases c171 : x57_121 = true
         ·subst c171
          have H1 : (if 0 ≤ t125 then (if t125 < (l0.length : Int) then ((class_First.f kj121 (rdOf ByteArray.empty l0 t125)).bind fun t144 => (if t126 ≤ t144 then ((area_whole.f t125 (wrap64 (t127 - 1))).bind fun bt145 => (some (bt145.1, bt145.2.1, bt145.2.2.1, bt145.2.2.2.1, bt145.2.2.2.2.1, bt145.2.2.2.2.2))) else (if 0 ≤ (wrap64 (t127 - 1)) then (if (wrap64 (t127 - 1)) < (l0.length : Int) then (if (t125 == (wrap64 (t127 - 1)) && (t126 == ((rdOf ByteArray.empty l0 (wrap64 (t127 - 1))).size : Int))) = true then (some (0, 0, 0, 0, 0, false)) else (some (0, t125, t126, wrap64 (t127 - 1), ((rdOf ByteArray.empty l0 (wrap64 (t127 - 1))).size : Int), true))) else (none)) else (none)))) else (none)) else (none)) = some (r1, r2, r3, r4, r5, r6) := by rw [if_pos rfl] at H; exact H
          clear H
          have H := H1
          clear H1
          by_cases c172 : 0 ≤ t125
          ·rw [if_pos c172] at H
           have c172b0 : decide (0 ≤ t125) = true := decide_eq_true c172
           clear c172
           by_cases c173 : t125 < (l0.length : Int)
           ·rw [if_pos c173] at H
            have c173b0 : decide (t125 < (l0.length : Int)) = true := decide_eq_true c173
            clear c173
            replace H := Option.bind_eq_some_iff.mp H
            obtain ⟨t144, A1740, H⟩ := H
            replace H : (if t126 ≤ t144 then ((area_whole.f t125 (wrap64 (t127 - 1))).bind fun bt145 => (some (bt145.1, bt145.2.1, bt145.2.2.1, bt145.2.2.2.1, bt145.2.2.2.2.1, bt145.2.2.2.2.2))) else (if 0 ≤ (wrap64 (t127 - 1)) then (if (wrap64 (t127 - 1)) < (l0.length : Int) then (if (t125 == (wrap64 (t127 - 1)) && (t126 == ((rdOf ByteArray.empty l0 (wrap64 (t127 - 1))).size : Int))) = true then (some (0, 0, 0, 0, 0, false)) else (some (0, t125, t126, wrap64 (t127 - 1), ((rdOf ByteArray.empty l0 (wrap64 (t127 - 1))).size : Int), true))) else (none)) else (none))) = some (r1, r2, r3, r4, r5, r6) := H
            have A174 := Aside0.mk A1740
            clear A1740
            by_cases c175 : t126 ≤ t144
            ·rw [if_pos c175] at H
             have c175b0 : decide (t126 ≤ t144) = true := decide_eq_true c175
             clear c175
             replace H := Option.bind_eq_some_iff.mp H
             obtain ⟨⟨t145, t146, t147, t148, t149, t150⟩, A1760, H⟩ := H
             replace H : (some (t145, t146, t147, t148, t149, t150)) = some (r1, r2, r3, r4, r5, r6) := H
             have A176 := Aside0.mk A1760
             clear A1760
             simp only [Option.some.injEq, Prod.mk.injEq] at H
             obtain ⟨rfl, rfl, rfl, rfl, rfl, rfl⟩ := H
             try go_wp2
             have n0_ := Aside0.mk (blk_drew BK120.out)
             have n1_ := Aside0.mk (blk_drew BK121.out)
             have n2_ := Aside0.mk (blk_drew BK122.out)
             have n3_ := Aside0.mk (blk_drew BK129.out)
             have n4_ := Aside0.mk (blk_drew BK130.out)
             have n5_ := Aside0.mk (blk_drew BK131.out)
             have n6_ := Aside0.mk (below_drew1 HB.out)
             clear BK120
             clear BK121
             clear BK122
             clear BK129
             clear BK130
             clear BK131
             clear HB
             have BK120 := n0_
             have BK121 := n1_
             have BK122 := n2_
             have BK129 := n3_
             have BK130 := n4_
             have BK131 := n5_
             have HB := n6_
             clear n0_ n1_ n2_ n3_ n4_ n5_ n6_
             have p143 : 0 ≤ (t125 : Int) := of_decide_eq_true (by first | (with_reducible assumption) | assumption)
             have q143 : t125 < (l0.length : Int) := of_decide_eq_true (by first | (with_reducible assumption) | assumption)
             obtain ⟨ad143, e143, hx143_0⟩ := Kd.at_string HR0.out t125 p143 q143
             have hw143_0 := hx143_0
             cases e143
             replace hx143_0 := (HB.out.cell (World.block_lt_of_cell? w _ hx143_0)).trans hx143_0
             replace p143 := eq_true p143
             replace q143 := eq_true q143
             refine start_ (n := 9) (S := fun w' => w'.cell? ⟨gb129, 0, none⟩ = some (.int .i64 t125) ∧ w'.cell? ⟨gb129, 1, none⟩ = some (.int .i64 t126) ∧ w'.cell? (ad143.add (t125).toNat) = some (.string (rdOf ByteArray.empty l0 t125))) (ds := []) #[false, false, false, false, false, false, false, false, false] (by kernel_rfl) rfl rfl ⟨(blk_cell BK129.out 0).trans rfl, (blk_cell BK129.out 1).trans rfl, ((HB.out.cell (World.block_lt_of_cell? w _ hw143_0)).trans hw143_0)⟩ (fun hHeld => ?_); refine with_tabW area_Of.tab12 area_Of.bits12 (fun HT_ HW_ => ?_)
             generalize wc.drew = w177 at BK120 BK121 BK122 BK129 BK130 BK131 HB hx143_0 hHeld ⊢
             refine pure_ (i := 0) (N := some 68) (v := ?_) (a' := ?_) #[true, false, false, false, false, false, false, false, false] rfl rfl (any_of HT_.out (by kernel_rfl)) (fun _ _ _ h => h) (Or.inl ⟨by rfl, ?_⟩) ?_ ?_
             rotate_left
             ·intro w'
              go_simp
              with_reducible rfl
             rotate_left
             ·simp only [Act.put, List.setIfInBounds_toArray, List.set_cons_zero, List.set_cons_succ, i64_w, i32_w]
              rfl
             refine pure_ (i := 2) (N := some 70) (v := ?_) (a' := ?_) #[true, false, true, false, false, false, false, false, false] rfl rfl (any_of HT_.out (by kernel_rfl)) (fun _ _ _ h => h) (Or.inl ⟨by rfl, ?_⟩) ?_ ?_
             rotate_left
             ·intro w'
              go_simp
              with_reducible rfl
             rotate_left
             ·simp only [Act.put, List.setIfInBounds_toArray, List.set_cons_zero, List.set_cons_succ, i64_w, i32_w]
              rfl
             refine pure_ (i := 3) (N := some 71) (v := ?_) (a' := ?_) #[true, false, true, true, false, false, false, false, false] rfl rfl (any_of HT_.out (by kernel_rfl)) (fun _ _ _ h => h) (Or.inl ⟨by rfl, ?_⟩) ?_ ?_
             rotate_left
             ·intro w'
              go_simp
              with_reducible rfl
             rotate_left
             ·simp only [Act.put, List.setIfInBounds_toArray, List.set_cons_zero, List.set_cons_succ, i64_w, i32_w]
              rfl
             refine take_ (i := 1) (N := some 69) (v := ?_) (a' := ?_) #[true, true, true, true, false, false, false, false, false] rfl rfl (take_ofW HT_.out HW_.out (by kernel_rfl)) (fun _ _ _ h => h) (Or.inl ⟨by rfl, ?_⟩) hHeld ?_ ?_
             rotate_left
             ·rintro w' ⟨s0, s1, s2⟩
              go_simp
              with_reducible rfl
             rotate_left
             ·simp only [Act.put, List.setIfInBounds_toArray, List.set_cons_zero, List.set_cons_succ, i64_w, i32_w]
              rfl
             refine take_ (i := 4) (N := some 72) (v := ?_) (a' := ?_) #[true, true, true, true, true, false, false, false, false] rfl rfl (take_ofW HT_.out HW_.out (by kernel_rfl)) (fun _ _ _ h => h) (Or.inl ⟨by rfl, ?_⟩) hHeld ?_ ?_
             rotate_left
             ·rintro w' ⟨s0, s1, s2⟩
              go_simp
              with_reducible rfl
             rotate_left
             ·simp only [Act.put, List.setIfInBounds_toArray, List.set_cons_zero, List.set_cons_succ, i64_w, i32_w]
              rfl
             refine pure_ (i := 5) (N := some 73) (v := ?_) (a' := ?_) #[true, true, true, true, true, true, false, false, false] rfl rfl (any_of HT_.out (by kernel_rfl)) (fun _ _ _ h => h) (Or.inl ⟨by rfl, ?_⟩) ?_ ?_
             rotate_left
             ·intro w'
              go_simp
              with_reducible rfl
             rotate_left
             ·simp only [Act.put, List.setIfInBounds_toArray, List.set_cons_zero, List.set_cons_succ, i64_w, i32_w]
              rfl
             refine take_ (i := 6) (N := some 74) (v := ?_) (a' := ?_) #[true, true, true, true, true, true, true, false, false] rfl rfl (take_ofW HT_.out HW_.out (by kernel_rfl)) (fun _ _ _ h => h) (Or.inl ⟨by rfl, ?_⟩) hHeld ?_ ?_
             rotate_left
             ·rintro w' ⟨s0, s1, s2⟩
              go_simp
              with_reducible rfl
             rotate_left
             ·simp only [Act.put, List.setIfInBounds_toArray, List.set_cons_zero, List.set_cons_succ, i64_w, i32_w]
              rfl
             refine one_ (i := 7) (N := some 75) #[true, true, true, true, true, true, true, true, false] rfl rfl (one_of HT_.out (by kernel_rfl)) (by decide) (fun K hK => ?_)
             refine goes_ Try.func15 (by kernel_rfl) rfl #[.string (rdOf ByteArray.empty l0 t125)] (by rfl) rfl rfl (by first | rfl | (simp only [List.map_toArray, List.map_cons, List.map_nil] <;> rfl)) ?_
             with_reducible refine (class_First.calls kj121 (rdOf ByteArray.empty l0 t125) t144 _ A174.out).mono ?_
             rintro e w178 ⟨rfl, hb⟩
             refine ⟨_, rfl, ?_⟩
             have n0_ := Aside0.mk (blk_below (pk BK120.out) hb)
             have n1_ := Aside0.mk (blk_below (pk BK121.out) hb)
             have n2_ := Aside0.mk (blk_below (pk BK122.out) hb)
             have n3_ := Aside0.mk (blk_below (pk BK129.out) hb)
             have n4_ := Aside0.mk (blk_below (pk BK130.out) hb)
             have n5_ := Aside0.mk (blk_below (pk BK131.out) hb)
             have n6_ := Aside0.mk (below_step (by repeat with_reducible first | exact HB.out | apply ba | apply bn | apply bd | refine bset ?_ (by assumption)) hb)
             clear BK120
             clear BK121
             clear BK122
             clear BK129
             clear BK130
             clear BK131
             clear HB
             have BK120 := n0_
             have BK121 := n1_
             have BK122 := n2_
             have BK129 := n3_
             have BK130 := n4_
             have BK131 := n5_
             have HB := n6_
             clear n0_ n1_ n2_ n3_ n4_ n5_ n6_
             (try clear hb)
             (try clear hb2)
             (try clear hk)
             (try clear hi)
             refine hK.out _ _ ⟨(blk_cell BK129.out 0).trans rfl, (blk_cell BK129.out 1).trans rfl, ((HB.out.cell (World.block_lt_of_cell? w _ hw143_0)).trans hw143_0)⟩ (fun hHeld => ?_)
             clear hK K
             refine norm_ (a' := ?_) ?_ ?_
             rotate_left
             ·show Act.put _ (some 75) _ = _
              simp only [Act.put, List.setIfInBounds_toArray, List.set_cons_zero, List.set_cons_succ, i64_w, i32_w]
              rfl
             refine pure_ (i := 8) (N := some 76) (v := ?_) (a' := ?_) #[true, true, true, true, true, true, true, true, true] rfl rfl (any_of HT_.out (by kernel_rfl)) (fun _ _ _ h => h) (Or.inl ⟨by rfl, ?_⟩) ?_ ?_
             rotate_left
             ·intro w'
              go_simp
              with_reducible rfl
             rotate_left
             ·simp only [Act.put, List.setIfInBounds_toArray, List.set_cons_zero, List.set_cons_succ, i64_w, i32_w]
              rfl
             refine done_ (done_of HT_.out (by kernel_rfl)) ?_
             have hnb179 := NB129_120.out
             have hnc179 := NB120_129.out
             have hnb180 := NB129_121.out
             have hnc180 := NB121_129.out
             have hnb181 := NB129_122.out
             have hnc181 := NB122_129.out
             have hnb182 := NB129_130.out
             have hnc182 := NB130_129.out
             have hnb183 := NB129_131.out
             have hnc183 := NB131_129.out
             have hcz184_0 : w178.cell? ⟨gb129, 0, none⟩ = some (.int .i64 t125) := (blk_cell BK129.out 0).trans rfl
             have hcz184_1 : w178.cell? ⟨gb129, 1, none⟩ = some (.int .i64 t126) := (blk_cell BK129.out 1).trans rfl
             have hfz184_0 := blk_frozen BK129.out 0
             have hfz184_1 := blk_frozen BK129.out 1
             have hnb185 := NB130_120.out
             have hnc185 := NB120_130.out
             have hnb186 := NB130_121.out
             have hnc186 := NB121_130.out
             have hnb187 := NB130_122.out
             have hnc187 := NB122_130.out
             have hnb188 := NB130_131.out
             have hnc188 := NB131_130.out
             have hcz189_0 : w178.cell? ⟨gb130, 0, none⟩ = some (.int .i64 t127) := (blk_cell BK130.out 0).trans rfl
             have hcz189_1 : w178.cell? ⟨gb130, 1, none⟩ = some (.int .i64 t128) := (blk_cell BK130.out 1).trans rfl
             have hfz189_0 := blk_frozen BK130.out 0
             have hfz189_1 := blk_frozen BK130.out 1
             try go_wp2_with (first | ((with_reducible refine gate_callee (f := 37) rfl ?_); refine goesL_ (some 82) rfl rfl Try.func37 (by kernel_rfl) rfl #[.int .i64 t125, .int .i64 (wrap64 (t127 - 1))] rfl (by first | rfl | (simp only [List.map_toArray, List.map_cons, List.map_nil] <;> rfl)) ?_; (with_reducible refine (area_whole.calls t125 (wrap64 (t127 - 1)) t145 t146 t147 t148 t149 t150 _ A176.out).mono ?_); rintro e w190 ⟨rfl, hb⟩; refine ⟨_, rfl, ?_⟩; have n0_ := Aside0.mk (blk_below (pk BK120.out) hb); have n1_ := Aside0.mk (blk_below (pk BK121.out) hb); have n2_ := Aside0.mk (blk_below (pk BK122.out) hb); have n3_ := Aside0.mk (blk_below (pk BK129.out) hb); have n4_ := Aside0.mk (blk_below (pk BK130.out) hb); have n5_ := Aside0.mk (blk_below (pk BK131.out) hb); have n6_ := Aside0.mk (below_step (by repeat with_reducible first | exact HB.out | apply ba | apply bn | apply bd | refine bset ?_ (by assumption)) hb); clear BK120; clear BK121; clear BK122; clear BK129; clear BK130; clear BK131; clear HB; have BK120 := n0_; have BK121 := n1_; have BK122 := n2_; have BK129 := n3_; have BK130 := n4_; have BK131 := n5_; have HB := n6_; clear n0_ n1_ n2_ n3_ n4_ n5_ n6_; (try clear hb); (try clear hb2); (try clear hk); (try clear hi); have hnb191 := NB122_120.out; have hnc191 := NB120_122.out; have hnb192 := NB122_121.out; have hnc192 := NB121_122.out; have hnb193 := NB122_131.out; have hnc193 := NB131_122.out; have hcz194_0 : w190.cell? ⟨gb122, 0, none⟩ = some (.int .i64 0) := (blk_cell BK122.out 0).trans rfl; have hcz194_1 : w190.cell? ⟨gb122, 1, none⟩ = some (.int .i64 0) := (blk_cell BK122.out 1).trans rfl; have hcz194_2 : w190.cell? ⟨gb122, 2, none⟩ = some (.int .i64 0) := (blk_cell BK122.out 2).trans rfl; have hcz194_3 : w190.cell? ⟨gb122, 3, none⟩ = some (.int .i64 0) := (blk_cell BK122.out 3).trans rfl; have hcz194_4 : w190.cell? ⟨gb122, 4, none⟩ = some (.int .i64 0) := (blk_cell BK122.out 4).trans rfl; have hfz194_0 := blk_frozen BK122.out 0; have hfz194_1 := blk_frozen BK122.out 1; have hfz194_2 := blk_frozen BK122.out 2; have hfz194_3 := blk_frozen BK122.out 3; have hfz194_4 := blk_frozen BK122.out 4))
             refine bodyPost_ret (results_ct rfl _ _ gb122 43 #[.int .i64 t145, .int .i64 t146, .int .i64 t147, .int .i64 t148, .int .i64 t149] (0, 0) _ rfl (by refine pk ?_; refine blk_put (cs := #[.int .i64 t145, .int .i64 t146, .int .i64 t147, .int .i64 t148, .int .i64 0]) ?_ 4 _ rfl; refine pk ?_; refine blk_put (cs := #[.int .i64 t145, .int .i64 t146, .int .i64 t147, .int .i64 0, .int .i64 0]) ?_ 3 _ rfl; refine pk ?_; refine blk_put (cs := #[.int .i64 t145, .int .i64 t146, .int .i64 0, .int .i64 0, .int .i64 0]) ?_ 2 _ rfl; refine pk ?_; refine blk_put (cs := #[.int .i64 t145, .int .i64 0, .int .i64 0, .int .i64 0, .int .i64 0]) ?_ 1 _ rfl; refine pk ?_; refine blk_put (cs := #[.int .i64 0, .int .i64 0, .int .i64 0, .int .i64 0, .int .i64 0]) ?_ 0 _ rfl; exact pk BK122.out) Try.underlying43 rfl (by kernel_rfl)) rfl ?_
             exact ⟨by first | rfl | (simp [errW_none, errW_some] <;> rfl) | (simp [*, errW_none, errW_some] <;> rfl), by repeat with_reducible first | exact HB.out | apply ba | apply bn | apply bd | refine bset ?_ (by assumption)⟩
            ·rw [if_neg c175] at H
             have c175b0 : decide (t126 ≤ t144) = false := decide_eq_false c175
             clear c175
             obtain ⟨ji195, hji195⟩ : ∃ j_ : Int, (wrap64 (t127 - 1)) = j_ := ⟨_, rfl⟩
             replace H : (if 0 ≤ (ji195) then (if (ji195) < (l0.length : Int) then (if (t125 == (ji195) && (t126 == ((rdOf ByteArray.empty l0 (ji195)).size : Int))) = true then (some (0, 0, 0, 0, 0, false)) else (some (0, t125, t126, ji195, ((rdOf ByteArray.empty l0 (ji195)).size : Int), true))) else (none)) else (none)) = some (r1, r2, r3, r4, r5, r6) := by first | (rw [hji195] at H; exact H) | (simp only [hji195] at H ⊢; exact H)
             (try rw [hji195] at A174)
             have hji195w : (IntKind.i64.wrap (t127 - 1)) = ji195 := (i64_w _).trans hji195
             by_cases c196 : 0 ≤ (ji195)
             ·rw [if_pos c196] at H
              have c196b0 : decide (0 ≤ (ji195)) = true := decide_eq_true c196
              clear c196
              by_cases c197 : (ji195) < (l0.length : Int)
              ·rw [if_pos c197] at H
               have c197b0 : decide ((ji195) < (l0.length : Int)) = true := decide_eq_true c197
               clear c197
               by_cases c198 : (t125 == (ji195) && (t126 == ((rdOf ByteArray.empty l0 (ji195)).size : Int))) = true
               ·rw [if_pos c198] at H
                have c198b0 : (t125 == (ji195) && (t126 == ((rdOf ByteArray.empty l0 (ji195)).size : Int))) = true := c198
                (try (have c198b1 : decide (t125 = (ji195) && (t126 == ((rdOf ByteArray.empty l0 (ji195)).size : Int))) = true := by simpa using c198))
                (try (have c198b2 : (t125 == (ji195) && (t126 == ((rdOf ByteArray.empty l0 (ji195)).size : Int))) = true := by simpa using c198))
                clear c198
                simp only [Option.some.injEq, Prod.mk.injEq] at H
                obtain ⟨rfl, rfl, rfl, rfl, rfl, rfl⟩ := H
                try go_wp2
                have n0_ := Aside0.mk (blk_drew BK120.out)
                have n1_ := Aside0.mk (blk_drew BK121.out)
                have n2_ := Aside0.mk (blk_drew BK122.out)
                have n3_ := Aside0.mk (blk_drew BK129.out)
                have n4_ := Aside0.mk (blk_drew BK130.out)
                have n5_ := Aside0.mk (blk_drew BK131.out)
                have n6_ := Aside0.mk (below_drew1 HB.out)
                clear BK120
                clear BK121
                clear BK122
                clear BK129
                clear BK130
                clear BK131
                clear HB
                have BK120 := n0_
                have BK121 := n1_
                have BK122 := n2_
                have BK129 := n3_
                have BK130 := n4_
                have BK131 := n5_
                have HB := n6_
                clear n0_ n1_ n2_ n3_ n4_ n5_ n6_
                have p143 : 0 ≤ (t125 : Int) := of_decide_eq_true (by first | (with_reducible assumption) | assumption)
                have q143 : t125 < (l0.length : Int) := of_decide_eq_true (by first | (with_reducible assumption) | assumption)
                obtain ⟨ad143, e143, hx143_0⟩ := Kd.at_string HR0.out t125 p143 q143
                have hw143_0 := hx143_0
                cases e143
                replace hx143_0 := (HB.out.cell (World.block_lt_of_cell? w _ hx143_0)).trans hx143_0
                replace p143 := eq_true p143
                replace q143 := eq_true q143
                refine start_ (n := 9) (S := fun w' => w'.cell? ⟨gb129, 0, none⟩ = some (.int .i64 t125) ∧ w'.cell? ⟨gb129, 1, none⟩ = some (.int .i64 t126) ∧ w'.cell? (ad143.add (t125).toNat) = some (.string (rdOf ByteArray.empty l0 t125))) (ds := []) #[false, false, false, false, false, false, false, false, false] (by kernel_rfl) rfl rfl ⟨(blk_cell BK129.out 0).trans rfl, (blk_cell BK129.out 1).trans rfl, ((HB.out.cell (World.block_lt_of_cell? w _ hw143_0)).trans hw143_0)⟩ (fun hHeld => ?_); refine with_tabW area_Of.tab12 area_Of.bits12 (fun HT_ HW_ => ?_)
                generalize wc.drew = w199 at BK120 BK121 BK122 BK129 BK130 BK131 HB hx143_0 hHeld ⊢
                refine pure_ (i := 0) (N := some 68) (v := ?_) (a' := ?_) #[true, false, false, false, false, false, false, false, false] rfl rfl (any_of HT_.out (by kernel_rfl)) (fun _ _ _ h => h) (Or.inl ⟨by rfl, ?_⟩) ?_ ?_
                rotate_left
                ·intro w'
                 go_simp
                 with_reducible rfl
                rotate_left
                ·simp only [Act.put, List.setIfInBounds_toArray, List.set_cons_zero, List.set_cons_succ, i64_w, i32_w]
                 rfl
                refine pure_ (i := 2) (N := some 70) (v := ?_) (a' := ?_) #[true, false, true, false, false, false, false, false, false] rfl rfl (any_of HT_.out (by kernel_rfl)) (fun _ _ _ h => h) (Or.inl ⟨by rfl, ?_⟩) ?_ ?_
                rotate_left
                ·intro w'
                 go_simp
                 with_reducible rfl
                rotate_left
                ·simp only [Act.put, List.setIfInBounds_toArray, List.set_cons_zero, List.set_cons_succ, i64_w, i32_w]
                 rfl
                refine pure_ (i := 3) (N := some 71) (v := ?_) (a' := ?_) #[true, false, true, true, false, false, false, false, false] rfl rfl (any_of HT_.out (by kernel_rfl)) (fun _ _ _ h => h) (Or.inl ⟨by rfl, ?_⟩) ?_ ?_
                rotate_left
                ·intro w'
                 go_simp
                 with_reducible rfl
                rotate_left
                ·simp only [Act.put, List.setIfInBounds_toArray, List.set_cons_zero, List.set_cons_succ, i64_w, i32_w]
                 rfl
                refine take_ (i := 1) (N := some 69) (v := ?_) (a' := ?_) #[true, true, true, true, false, false, false, false, false] rfl rfl (take_ofW HT_.out HW_.out (by kernel_rfl)) (fun _ _ _ h => h) (Or.inl ⟨by rfl, ?_⟩) hHeld ?_ ?_
                rotate_left
                ·rintro w' ⟨s0, s1, s2⟩
                 go_simp
                 with_reducible rfl
                rotate_left
                ·simp only [Act.put, List.setIfInBounds_toArray, List.set_cons_zero, List.set_cons_succ, i64_w, i32_w]
                 rfl
                refine take_ (i := 4) (N := some 72) (v := ?_) (a' := ?_) #[true, true, true, true, true, false, false, false, false] rfl rfl (take_ofW HT_.out HW_.out (by kernel_rfl)) (fun _ _ _ h => h) (Or.inl ⟨by rfl, ?_⟩) hHeld ?_ ?_
                rotate_left
                ·rintro w' ⟨s0, s1, s2⟩
                 go_simp
                 with_reducible rfl
                rotate_left
                ·simp only [Act.put, List.setIfInBounds_toArray, List.set_cons_zero, List.set_cons_succ, i64_w, i32_w]
                 rfl
                refine pure_ (i := 5) (N := some 73) (v := ?_) (a' := ?_) #[true, true, true, true, true, true, false, false, false] rfl rfl (any_of HT_.out (by kernel_rfl)) (fun _ _ _ h => h) (Or.inl ⟨by rfl, ?_⟩) ?_ ?_
                rotate_left
                ·intro w'
                 go_simp
                 with_reducible rfl
                rotate_left
                ·simp only [Act.put, List.setIfInBounds_toArray, List.set_cons_zero, List.set_cons_succ, i64_w, i32_w]
                 rfl
                refine take_ (i := 6) (N := some 74) (v := ?_) (a' := ?_) #[true, true, true, true, true, true, true, false, false] rfl rfl (take_ofW HT_.out HW_.out (by kernel_rfl)) (fun _ _ _ h => h) (Or.inl ⟨by rfl, ?_⟩) hHeld ?_ ?_
                rotate_left
                ·rintro w' ⟨s0, s1, s2⟩
                 go_simp
                 with_reducible rfl
                rotate_left
                ·simp only [Act.put, List.setIfInBounds_toArray, List.set_cons_zero, List.set_cons_succ, i64_w, i32_w]
                 rfl
                refine one_ (i := 7) (N := some 75) #[true, true, true, true, true, true, true, true, false] rfl rfl (one_of HT_.out (by kernel_rfl)) (by decide) (fun K hK => ?_)
                refine goes_ Try.func15 (by kernel_rfl) rfl #[.string (rdOf ByteArray.empty l0 t125)] (by rfl) rfl rfl (by first | rfl | (simp only [List.map_toArray, List.map_cons, List.map_nil] <;> rfl)) ?_
                with_reducible refine (class_First.calls kj121 (rdOf ByteArray.empty l0 t125) t144 _ A174.out).mono ?_
                rintro e w200 ⟨rfl, hb⟩
                refine ⟨_, rfl, ?_⟩
                have n0_ := Aside0.mk (blk_below (pk BK120.out) hb)
                have n1_ := Aside0.mk (blk_below (pk BK121.out) hb)
                have n2_ := Aside0.mk (blk_below (pk BK122.out) hb)
                have n3_ := Aside0.mk (blk_below (pk BK129.out) hb)
                have n4_ := Aside0.mk (blk_below (pk BK130.out) hb)
                have n5_ := Aside0.mk (blk_below (pk BK131.out) hb)
                have n6_ := Aside0.mk (below_step (by repeat with_reducible first | exact HB.out | apply ba | apply bn | apply bd | refine bset ?_ (by assumption)) hb)
                clear BK120
                clear BK121
                clear BK122
                clear BK129
                clear BK130
                clear BK131
                clear HB
                have BK120 := n0_
                have BK121 := n1_
                have BK122 := n2_
                have BK129 := n3_
                have BK130 := n4_
                have BK131 := n5_
                have HB := n6_
                clear n0_ n1_ n2_ n3_ n4_ n5_ n6_
                (try clear hb)
                (try clear hb2)
                (try clear hk)
                (try clear hi)
                refine hK.out _ _ ⟨(blk_cell BK129.out 0).trans rfl, (blk_cell BK129.out 1).trans rfl, ((HB.out.cell (World.block_lt_of_cell? w _ hw143_0)).trans hw143_0)⟩ (fun hHeld => ?_)
                clear hK K
                refine norm_ (a' := ?_) ?_ ?_
                rotate_left
                ·show Act.put _ (some 75) _ = _
                 simp only [Act.put, List.setIfInBounds_toArray, List.set_cons_zero, List.set_cons_succ, i64_w, i32_w]
                 rfl
                refine pure_ (i := 8) (N := some 76) (v := ?_) (a' := ?_) #[true, true, true, true, true, true, true, true, true] rfl rfl (any_of HT_.out (by kernel_rfl)) (fun _ _ _ h => h) (Or.inl ⟨by rfl, ?_⟩) ?_ ?_
                rotate_left
                ·intro w'
                 go_simp
                 with_reducible rfl
                rotate_left
                ·simp only [Act.put, List.setIfInBounds_toArray, List.set_cons_zero, List.set_cons_succ, i64_w, i32_w]
                 rfl
                refine done_ (done_of HT_.out (by kernel_rfl)) ?_
                try go_wp2
                have n0_ := Aside0.mk (blk_drew BK120.out)
                have n1_ := Aside0.mk (blk_drew BK121.out)
                have n2_ := Aside0.mk (blk_drew BK122.out)
                have n3_ := Aside0.mk (blk_drew BK129.out)
                have n4_ := Aside0.mk (blk_drew BK130.out)
                have n5_ := Aside0.mk (blk_drew BK131.out)
                have n6_ := Aside0.mk (below_drew1 HB.out)
                clear BK120
                clear BK121
                clear BK122
                clear BK129
                clear BK130
                clear BK131
                clear HB
                have BK120 := n0_
                have BK121 := n1_
                have BK122 := n2_
                have BK129 := n3_
                have BK130 := n4_
                have BK131 := n5_
                have HB := n6_
                clear n0_ n1_ n2_ n3_ n4_ n5_ n6_
                have p151 : 0 ≤ ((ji195) : Int) := of_decide_eq_true (by first | (with_reducible assumption) | assumption)
                have q151 : (ji195) < (l0.length : Int) := of_decide_eq_true (by first | (with_reducible assumption) | assumption)
                obtain ⟨ad151, e151, hx151_0⟩ := Kd.at_string HR0.out (ji195) p151 q151
                have hw151_0 := hx151_0
                obtain rfl : ad143 = ad151 := (by injection e151)
                replace hx151_0 := (HB.out.cell (World.block_lt_of_cell? w _ hx151_0)).trans hx151_0
                replace p151 := eq_true p151
                replace q151 := eq_true q151
                refine start_ (n := 13) (S := fun w' => w'.cell? ⟨gb130, 0, none⟩ = some (.int .i64 t127) ∧ w'.cell? ⟨gb130, 1, none⟩ = some (.int .i64 t128) ∧ w'.cell? (ad143.add ((ji195)).toNat) = some (.string (rdOf ByteArray.empty l0 (ji195)))) (ds := []) #[false, false, false, false, false, false, false, false, false, false, false, false, false] (by kernel_rfl) rfl rfl ⟨(blk_cell BK130.out 0).trans rfl, (blk_cell BK130.out 1).trans rfl, ((HB.out.cell (World.block_lt_of_cell? w _ hw151_0)).trans hw151_0)⟩ (fun hHeld => ?_); refine with_tabW area_Of.tab14 area_Of.bits14 (fun HT_ HW_ => ?_)
                generalize w200.drew = w201 at BK120 BK121 BK122 BK129 BK130 BK131 HB hx151_0 hHeld ⊢
                refine pure_ (i := 0) (N := some 85) (v := ?_) (a' := ?_) #[true, false, false, false, false, false, false, false, false, false, false, false, false] rfl rfl (any_of HT_.out (by kernel_rfl)) (fun _ _ _ h => h) (Or.inl ⟨by rfl, ?_⟩) ?_ ?_
                rotate_left
                ·intro w'
                 go_simp
                 with_reducible rfl
                rotate_left
                ·simp only [Act.put, List.setIfInBounds_toArray, List.set_cons_zero, List.set_cons_succ, i64_w, i32_w]
                 rfl
                refine pure_ (i := 3) (N := some 88) (v := ?_) (a' := ?_) #[true, false, false, true, false, false, false, false, false, false, false, false, false] rfl rfl (any_of HT_.out (by kernel_rfl)) (fun _ _ _ h => h) (Or.inl ⟨by rfl, ?_⟩) ?_ ?_
                rotate_left
                ·intro w'
                 go_simp
                 with_reducible rfl
                rotate_left
                ·simp only [Act.put, List.setIfInBounds_toArray, List.set_cons_zero, List.set_cons_succ, i64_w, i32_w]
                 rfl
                refine pure_ (i := 4) (N := some 89) (v := ?_) (a' := ?_) #[true, false, false, true, true, false, false, false, false, false, false, false, false] rfl rfl (any_of HT_.out (by kernel_rfl)) (fun _ _ _ h => h) (Or.inl ⟨by rfl, ?_⟩) ?_ ?_
                rotate_left
                ·intro w'
                 go_simp
                 with_reducible rfl
                rotate_left
                ·simp only [Act.put, List.setIfInBounds_toArray, List.set_cons_zero, List.set_cons_succ, i64_w, i32_w]
                 rfl
                refine take_ (i := 1) (N := some 86) (v := ?_) (a' := ?_) #[true, true, false, true, true, false, false, false, false, false, false, false, false] rfl rfl (take_ofW HT_.out HW_.out (by kernel_rfl)) (fun _ _ _ h => h) (Or.inl ⟨by rfl, ?_⟩) hHeld ?_ ?_
                rotate_left
                ·rintro w' ⟨s0, s1, s2⟩
                 go_simp
                 with_reducible rfl
                rotate_left
                ·simp only [Act.put, List.setIfInBounds_toArray, List.set_cons_zero, List.set_cons_succ, i64_w, i32_w]
                 rfl
                refine pure_ (i := 2) (N := some 87) (v := ?_) (a' := ?_) #[true, true, true, true, true, false, false, false, false, false, false, false, false] rfl rfl (any_of HT_.out (by kernel_rfl)) (fun _ _ _ h => h) (Or.inl ⟨by rfl, ?_⟩) ?_ ?_
                rotate_left
                ·intro w'
                 go_simp
                 with_reducible rfl
                rotate_left
                ·simp only [Act.put, List.setIfInBounds_toArray, List.set_cons_zero, List.set_cons_succ, i64_w, i32_w]
                 rfl
                refine take_ (i := 5) (N := some 90) (v := ?_) (a' := ?_) #[true, true, true, true, true, true, false, false, false, false, false, false, false] rfl rfl (take_ofW HT_.out HW_.out (by kernel_rfl)) (fun _ _ _ h => h) (Or.inl ⟨by rfl, ?_⟩) hHeld ?_ ?_
                rotate_left
                ·rintro w' ⟨s0, s1, s2⟩
                 go_simp
                 with_reducible rfl
                rotate_left
                ·simp only [Act.put, List.setIfInBounds_toArray, List.set_cons_zero, List.set_cons_succ, i64_w, i32_w]
                 rfl
                refine pure_ (i := 6) (N := some 91) (v := ?_) (a' := ?_) #[true, true, true, true, true, true, true, false, false, false, false, false, false] rfl rfl (any_of HT_.out (by kernel_rfl)) (fun _ _ _ h => h) (Or.inl ⟨by rfl, ?_⟩) ?_ ?_
                rotate_left
                ·intro w'
                 go_simp
                 with_reducible rfl
                rotate_left
                ·simp only [Act.put, List.setIfInBounds_toArray, List.set_cons_zero, List.set_cons_succ, i64_w, i32_w]
                 rfl
                refine pure_ (i := 7) (N := some 92) (v := ?_) (a' := ?_) #[true, true, true, true, true, true, true, true, false, false, false, false, false] rfl rfl (any_of HT_.out (by kernel_rfl)) (fun _ _ _ h => h) (Or.inl ⟨by rfl, ?_⟩) ?_ ?_
                rotate_left
                ·intro w'
                 go_simp
                 with_reducible rfl
                rotate_left
                ·simp only [Act.put, List.setIfInBounds_toArray, List.set_cons_zero, List.set_cons_succ, i64_w, i32_w]
                 rfl
                refine take_ (i := 8) (N := some 93) (v := ?_) (a' := ?_) #[true, true, true, true, true, true, true, true, true, false, false, false, false] rfl rfl (take_ofW HT_.out HW_.out (by kernel_rfl)) (fun _ _ _ h => h) (Or.inl ⟨by rfl, ?_⟩) hHeld ?_ ?_
                rotate_left
                ·rintro w' ⟨s0, s1, s2⟩
                 go_simp
                 with_reducible rfl
                rotate_left
                ·simp only [Act.put, List.setIfInBounds_toArray, List.set_cons_zero, List.set_cons_succ, i64_w, i32_w]
                 rfl
                refine pure_ (i := 9) (N := some 94) (v := ?_) (a' := ?_) #[true, true, true, true, true, true, true, true, true, true, false, false, false] rfl rfl (any_of HT_.out (by kernel_rfl)) (fun _ _ _ h => h) (Or.inl ⟨by rfl, ?_⟩) ?_ ?_
                rotate_left
                ·intro w'
                 go_simp
                 with_reducible rfl
                rotate_left
                ·simp only [Act.put, List.setIfInBounds_toArray, List.set_cons_zero, List.set_cons_succ, i64_w, i32_w]
                 rfl
                refine pure_ (i := 10) (N := some 95) (v := ?_) (a' := ?_) #[true, true, true, true, true, true, true, true, true, true, true, false, false] rfl rfl (any_of HT_.out (by kernel_rfl)) (fun _ _ _ h => h) (Or.inl ⟨by rfl, ?_⟩) ?_ ?_
                rotate_left
                ·intro w'
                 go_simp
                 with_reducible rfl
                rotate_left
                ·simp only [Act.put, List.setIfInBounds_toArray, List.set_cons_zero, List.set_cons_succ, i64_w, i32_w]
                 rfl
                refine pure_ (i := 11) (N := some 96) (v := ?_) (a' := ?_) #[true, true, true, true, true, true, true, true, true, true, true, true, false] rfl rfl (any_of HT_.out (by kernel_rfl)) (fun _ _ _ h => h) (Or.inl ⟨by rfl, ?_⟩) ?_ ?_
                rotate_left
                ·intro w'
                 go_simp
                 with_reducible rfl
                rotate_left
                ·simp only [Act.put, List.setIfInBounds_toArray, List.set_cons_zero, List.set_cons_succ, i64_w, i32_w]
                 rfl
                refine one_ (i := 12) (N := none) #[true, true, true, true, true, true, true, true, true, true, true, true, true] rfl rfl (one_of HT_.out (by kernel_rfl)) (by decide) (fun K hK => ?_)
                have hs202 : w201.cell? ⟨gb131, 3, none⟩ = some (.int .i64 t127) := (blk_cell BK131.out 3).trans rfl
                have hfs202 := blk_frozen BK131.out 3
                have hns202_0 := NB120_131.out
                have hns202_1 := NB121_131.out
                have hns202_2 := NB122_131.out
                have hns202_3 := NB129_131.out
                have hns202_4 := NB130_131.out
                have hms202_0 := NB131_120.out
                have hms202_1 := NB131_121.out
                have hms202_2 := NB131_122.out
                have hms202_3 := NB131_129.out
                have hms202_4 := NB131_130.out
                have hs203 : w201.cell? ⟨gb131, 4, none⟩ = some (.int .i64 t128) := (blk_cell BK131.out 4).trans rfl
                have hfs203 := blk_frozen BK131.out 4
                have hns203_0 := NB120_131.out
                have hns203_1 := NB121_131.out
                have hns203_2 := NB122_131.out
                have hns203_3 := NB129_131.out
                have hns203_4 := NB130_131.out
                have hms203_0 := NB131_120.out
                have hms203_1 := NB131_121.out
                have hms203_2 := NB131_122.out
                have hms203_3 := NB131_129.out
                have hms203_4 := NB131_130.out
                refine skip_ (w1 := ?_) (by rfl) rfl ?_ ?_
                rotate_left
                ·go_simp
                 rfl
                refine hK.out _ _ ⟨((cell_far (p := ⟨gb131, _, none⟩) NB130_131.out _).trans (((cell_far (p := ⟨gb131, _, none⟩) NB130_131.out _).trans (hHeld.1)))), ((cell_far (p := ⟨gb131, _, none⟩) NB130_131.out _).trans (((cell_far (p := ⟨gb131, _, none⟩) NB130_131.out _).trans (hHeld.2.1)))), ((cell_far (p := ⟨gb131, _, none⟩) (by first | exact Nat.ne_of_lt (Nat.lt_of_lt_of_le (by have := World.block_lt_of_cell? _ _ hw151_0; first | rwa [add_block] at this | exact this) GW131.out) | (rw [add_block]; exact Nat.ne_of_lt (Nat.lt_of_lt_of_le (by have := World.block_lt_of_cell? _ _ hw151_0; first | rwa [add_block] at this | exact this) GW131.out)) | (show (Addr.add _ _).block ≠ _; rw [add_block]; exact Nat.ne_of_lt (Nat.lt_of_lt_of_le (by have := World.block_lt_of_cell? _ _ hw151_0; first | rwa [add_block] at this | exact this) GW131.out)) | (dsimp only; exact Nat.ne_of_lt (Nat.lt_of_lt_of_le (by have := World.block_lt_of_cell? _ _ hw151_0; first | rwa [add_block] at this | exact this) GW131.out))) _).trans (((cell_far (p := ⟨gb131, _, none⟩) (by first | exact Nat.ne_of_lt (Nat.lt_of_lt_of_le (by have := World.block_lt_of_cell? _ _ hw151_0; first | rwa [add_block] at this | exact this) GW131.out) | (rw [add_block]; exact Nat.ne_of_lt (Nat.lt_of_lt_of_le (by have := World.block_lt_of_cell? _ _ hw151_0; first | rwa [add_block] at this | exact this) GW131.out)) | (show (Addr.add _ _).block ≠ _; rw [add_block]; exact Nat.ne_of_lt (Nat.lt_of_lt_of_le (by have := World.block_lt_of_cell? _ _ hw151_0; first | rwa [add_block] at this | exact this) GW131.out)) | (dsimp only; exact Nat.ne_of_lt (Nat.lt_of_lt_of_le (by have := World.block_lt_of_cell? _ _ hw151_0; first | rwa [add_block] at this | exact this) GW131.out))) _).trans (hHeld.2.2))))⟩ (fun hHeld => ?_)
                clear hK K
                refine done_ (done_of HT_.out (by kernel_rfl)) ?_
                have hnb204 := NB131_120.out
                have hnc204 := NB120_131.out
                have hnb205 := NB131_121.out
                have hnc205 := NB121_131.out
                have hnb206 := NB131_122.out
                have hnc206 := NB122_131.out
                have hnb207 := NB131_129.out
                have hnc207 := NB129_131.out
                have hnb208 := NB131_130.out
                have hnc208 := NB130_131.out
                have hcz209_0 : w201.cell? ⟨gb131, 0, none⟩ = some (.int .i64 0) := (blk_cell BK131.out 0).trans rfl
                have hcz209_1 : w201.cell? ⟨gb131, 1, none⟩ = some (.int .i64 t125) := (blk_cell BK131.out 1).trans rfl
                have hcz209_2 : w201.cell? ⟨gb131, 2, none⟩ = some (.int .i64 t126) := (blk_cell BK131.out 2).trans rfl
                have hcz209_3 : w201.cell? ⟨gb131, 3, none⟩ = some (.int .i64 t127) := (blk_cell BK131.out 3).trans rfl
                have hcz209_4 : w201.cell? ⟨gb131, 4, none⟩ = some (.int .i64 t128) := (blk_cell BK131.out 4).trans rfl
                have hfz209_0 := blk_frozen BK131.out 0
                have hfz209_1 := blk_frozen BK131.out 1
                have hfz209_2 := blk_frozen BK131.out 2
                have hfz209_3 := blk_frozen BK131.out 3
                have hfz209_4 := blk_frozen BK131.out 4
                have hnb210 := NB122_120.out
                have hnc210 := NB120_122.out
                have hnb211 := NB122_121.out
                have hnc211 := NB121_122.out
                have hnb212 := NB122_129.out
                have hnc212 := NB129_122.out
                have hnb213 := NB122_130.out
                have hnc213 := NB130_122.out
                have hcz214_0 : w201.cell? ⟨gb122, 0, none⟩ = some (.int .i64 0) := (blk_cell BK122.out 0).trans rfl
                have hcz214_1 : w201.cell? ⟨gb122, 1, none⟩ = some (.int .i64 0) := (blk_cell BK122.out 1).trans rfl
                have hcz214_2 : w201.cell? ⟨gb122, 2, none⟩ = some (.int .i64 0) := (blk_cell BK122.out 2).trans rfl
                have hcz214_3 : w201.cell? ⟨gb122, 3, none⟩ = some (.int .i64 0) := (blk_cell BK122.out 3).trans rfl
                have hcz214_4 : w201.cell? ⟨gb122, 4, none⟩ = some (.int .i64 0) := (blk_cell BK122.out 4).trans rfl
                have hfz214_0 := blk_frozen BK122.out 0
                have hfz214_1 := blk_frozen BK122.out 1
                have hfz214_2 := blk_frozen BK122.out 2
                have hfz214_3 := blk_frozen BK122.out 3
                have hfz214_4 := blk_frozen BK122.out 4
                try go_wp2
                refine bodyPost_ret (results_ct rfl _ _ gb122 43 #[.int .i64 0, .int .i64 0, .int .i64 0, .int .i64 0, .int .i64 0] (0, 0) _ rfl (by refine pk ?_; refine blk_put (cs := #[.int .i64 0, .int .i64 0, .int .i64 0, .int .i64 0, .int .i64 0]) ?_ 4 _ rfl; refine pk ?_; refine blk_put (cs := #[.int .i64 0, .int .i64 0, .int .i64 0, .int .i64 0, .int .i64 0]) ?_ 3 _ rfl; refine pk ?_; refine blk_put (cs := #[.int .i64 0, .int .i64 0, .int .i64 0, .int .i64 0, .int .i64 0]) ?_ 2 _ rfl; refine pk ?_; refine blk_put (cs := #[.int .i64 0, .int .i64 0, .int .i64 0, .int .i64 0, .int .i64 0]) ?_ 1 _ rfl; refine pk ?_; refine blk_put (cs := #[.int .i64 0, .int .i64 0, .int .i64 0, .int .i64 0, .int .i64 0]) ?_ 0 _ rfl; refine pk ?_; refine blk_far ?_ NB122_131.out _; refine pk ?_; refine blk_far ?_ NB122_131.out _; exact pk BK122.out) Try.underlying43 rfl (by kernel_rfl)) rfl ?_
                exact ⟨by first | rfl | (simp [errW_none, errW_some] <;> rfl) | (simp only [← hji195]; first | rfl | (simp [errW_none, errW_some] <;> rfl)) | (simp [*, errW_none, errW_some] <;> rfl), by repeat with_reducible first | exact HB.out | apply ba | apply bn | apply bd | refine bset ?_ (by assumption)⟩
               ·rw [if_neg c198] at H
                have c198b0 : (t125 == (ji195) && (t126 == ((rdOf ByteArray.empty l0 (ji195)).size : Int))) = false := by simpa using c198
                (try (have c198b1 : decide (t125 = (ji195) && (t126 == ((rdOf ByteArray.empty l0 (ji195)).size : Int))) = false := by simpa using c198))
                (try (have c198b2 : (t125 == (ji195) && (t126 == ((rdOf ByteArray.empty l0 (ji195)).size : Int))) = false := by simpa using c198))
                (try (have c198b3 : ¬ (t125 = (ji195) && (t126 == ((rdOf ByteArray.empty l0 (ji195)).size : Int))) := by simpa using c198))
                clear c198
                simp only [Option.some.injEq, Prod.mk.injEq] at H
                obtain ⟨rfl, rfl, rfl, rfl, rfl, rfl⟩ := H
                try go_wp2
                have n0_ := Aside0.mk (blk_drew BK120.out)
                have n1_ := Aside0.mk (blk_drew BK121.out)
                have n2_ := Aside0.mk (blk_drew BK122.out)
                have n3_ := Aside0.mk (blk_drew BK129.out)
                have n4_ := Aside0.mk (blk_drew BK130.out)
                have n5_ := Aside0.mk (blk_drew BK131.out)
                have n6_ := Aside0.mk (below_drew1 HB.out)
                clear BK120
                clear BK121
                clear BK122
                clear BK129
                clear BK130
                clear BK131
                clear HB
                have BK120 := n0_
                have BK121 := n1_
                have BK122 := n2_
                have BK129 := n3_
                have BK130 := n4_
                have BK131 := n5_
                have HB := n6_
                clear n0_ n1_ n2_ n3_ n4_ n5_ n6_
                have p143 : 0 ≤ (t125 : Int) := of_decide_eq_true (by first | (with_reducible assumption) | assumption)
                have q143 : t125 < (l0.length : Int) := of_decide_eq_true (by first | (with_reducible assumption) | assumption)
                obtain ⟨ad143, e143, hx143_0⟩ := Kd.at_string HR0.out t125 p143 q143
                have hw143_0 := hx143_0
                cases e143
                replace hx143_0 := (HB.out.cell (World.block_lt_of_cell? w _ hx143_0)).trans hx143_0
                replace p143 := eq_true p143
                replace q143 := eq_true q143
                refine start_ (n := 9) (S := fun w' => w'.cell? ⟨gb129, 0, none⟩ = some (.int .i64 t125) ∧ w'.cell? ⟨gb129, 1, none⟩ = some (.int .i64 t126) ∧ w'.cell? (ad143.add (t125).toNat) = some (.string (rdOf ByteArray.empty l0 t125))) (ds := []) #[false, false, false, false, false, false, false, false, false] (by kernel_rfl) rfl rfl ⟨(blk_cell BK129.out 0).trans rfl, (blk_cell BK129.out 1).trans rfl, ((HB.out.cell (World.block_lt_of_cell? w _ hw143_0)).trans hw143_0)⟩ (fun hHeld => ?_); refine with_tabW area_Of.tab12 area_Of.bits12 (fun HT_ HW_ => ?_)
                generalize wc.drew = w215 at BK120 BK121 BK122 BK129 BK130 BK131 HB hx143_0 hHeld ⊢
                refine pure_ (i := 0) (N := some 68) (v := ?_) (a' := ?_) #[true, false, false, false, false, false, false, false, false] rfl rfl (any_of HT_.out (by kernel_rfl)) (fun _ _ _ h => h) (Or.inl ⟨by rfl, ?_⟩) ?_ ?_
                rotate_left
                ·intro w'
                 go_simp
                 with_reducible rfl
                rotate_left
                ·simp only [Act.put, List.setIfInBounds_toArray, List.set_cons_zero, List.set_cons_succ, i64_w, i32_w]
                 rfl
                refine pure_ (i := 2) (N := some 70) (v := ?_) (a' := ?_) #[true, false, true, false, false, false, false, false, false] rfl rfl (any_of HT_.out (by kernel_rfl)) (fun _ _ _ h => h) (Or.inl ⟨by rfl, ?_⟩) ?_ ?_
                rotate_left
                ·intro w'
                 go_simp
                 with_reducible rfl
                rotate_left
                ·simp only [Act.put, List.setIfInBounds_toArray, List.set_cons_zero, List.set_cons_succ, i64_w, i32_w]
                 rfl
                refine pure_ (i := 3) (N := some 71) (v := ?_) (a' := ?_) #[true, false, true, true, false, false, false, false, false] rfl rfl (any_of HT_.out (by kernel_rfl)) (fun _ _ _ h => h) (Or.inl ⟨by rfl, ?_⟩) ?_ ?_
                rotate_left
                ·intro w'
                 go_simp
                 with_reducible rfl
                rotate_left
                ·simp only [Act.put, List.setIfInBounds_toArray, List.set_cons_zero, List.set_cons_succ, i64_w, i32_w]
                 rfl
                refine take_ (i := 1) (N := some 69) (v := ?_) (a' := ?_) #[true, true, true, true, false, false, false, false, false] rfl rfl (take_ofW HT_.out HW_.out (by kernel_rfl)) (fun _ _ _ h => h) (Or.inl ⟨by rfl, ?_⟩) hHeld ?_ ?_
                rotate_left
                ·rintro w' ⟨s0, s1, s2⟩
                 go_simp
                 with_reducible rfl
                rotate_left
                ·simp only [Act.put, List.setIfInBounds_toArray, List.set_cons_zero, List.set_cons_succ, i64_w, i32_w]
                 rfl
                refine take_ (i := 4) (N := some 72) (v := ?_) (a' := ?_) #[true, true, true, true, true, false, false, false, false] rfl rfl (take_ofW HT_.out HW_.out (by kernel_rfl)) (fun _ _ _ h => h) (Or.inl ⟨by rfl, ?_⟩) hHeld ?_ ?_
                rotate_left
                ·rintro w' ⟨s0, s1, s2⟩
                 go_simp
                 with_reducible rfl
                rotate_left
                ·simp only [Act.put, List.setIfInBounds_toArray, List.set_cons_zero, List.set_cons_succ, i64_w, i32_w]
                 rfl
                refine pure_ (i := 5) (N := some 73) (v := ?_) (a' := ?_) #[true, true, true, true, true, true, false, false, false] rfl rfl (any_of HT_.out (by kernel_rfl)) (fun _ _ _ h => h) (Or.inl ⟨by rfl, ?_⟩) ?_ ?_
                rotate_left
                ·intro w'
                 go_simp
                 with_reducible rfl
                rotate_left
                ·simp only [Act.put, List.setIfInBounds_toArray, List.set_cons_zero, List.set_cons_succ, i64_w, i32_w]
                 rfl
                refine take_ (i := 6) (N := some 74) (v := ?_) (a' := ?_) #[true, true, true, true, true, true, true, false, false] rfl rfl (take_ofW HT_.out HW_.out (by kernel_rfl)) (fun _ _ _ h => h) (Or.inl ⟨by rfl, ?_⟩) hHeld ?_ ?_
                rotate_left
                ·rintro w' ⟨s0, s1, s2⟩
                 go_simp
                 with_reducible rfl
                rotate_left
                ·simp only [Act.put, List.setIfInBounds_toArray, List.set_cons_zero, List.set_cons_succ, i64_w, i32_w]
                 rfl
                refine one_ (i := 7) (N := some 75) #[true, true, true, true, true, true, true, true, false] rfl rfl (one_of HT_.out (by kernel_rfl)) (by decide) (fun K hK => ?_)
                refine goes_ Try.func15 (by kernel_rfl) rfl #[.string (rdOf ByteArray.empty l0 t125)] (by rfl) rfl rfl (by first | rfl | (simp only [List.map_toArray, List.map_cons, List.map_nil] <;> rfl)) ?_
                with_reducible refine (class_First.calls kj121 (rdOf ByteArray.empty l0 t125) t144 _ A174.out).mono ?_
                rintro e w216 ⟨rfl, hb⟩
                refine ⟨_, rfl, ?_⟩
                have n0_ := Aside0.mk (blk_below (pk BK120.out) hb)
                have n1_ := Aside0.mk (blk_below (pk BK121.out) hb)
                have n2_ := Aside0.mk (blk_below (pk BK122.out) hb)
                have n3_ := Aside0.mk (blk_below (pk BK129.out) hb)
                have n4_ := Aside0.mk (blk_below (pk BK130.out) hb)
                have n5_ := Aside0.mk (blk_below (pk BK131.out) hb)
                have n6_ := Aside0.mk (below_step (by repeat with_reducible first | exact HB.out | apply ba | apply bn | apply bd | refine bset ?_ (by assumption)) hb)
                clear BK120
                clear BK121
                clear BK122
                clear BK129
                clear BK130
                clear BK131
                clear HB
                have BK120 := n0_
                have BK121 := n1_
                have BK122 := n2_
                have BK129 := n3_
                have BK130 := n4_
                have BK131 := n5_
                have HB := n6_
                clear n0_ n1_ n2_ n3_ n4_ n5_ n6_
                (try clear hb)
                (try clear hb2)
                (try clear hk)
                (try clear hi)
                refine hK.out _ _ ⟨(blk_cell BK129.out 0).trans rfl, (blk_cell BK129.out 1).trans rfl, ((HB.out.cell (World.block_lt_of_cell? w _ hw143_0)).trans hw143_0)⟩ (fun hHeld => ?_)
                clear hK K
                refine norm_ (a' := ?_) ?_ ?_
                rotate_left
                ·show Act.put _ (some 75) _ = _
                 simp only [Act.put, List.setIfInBounds_toArray, List.set_cons_zero, List.set_cons_succ, i64_w, i32_w]
                 rfl
                refine pure_ (i := 8) (N := some 76) (v := ?_) (a' := ?_) #[true, true, true, true, true, true, true, true, true] rfl rfl (any_of HT_.out (by kernel_rfl)) (fun _ _ _ h => h) (Or.inl ⟨by rfl, ?_⟩) ?_ ?_
                rotate_left
                ·intro w'
                 go_simp
                 with_reducible rfl
                rotate_left
                ·simp only [Act.put, List.setIfInBounds_toArray, List.set_cons_zero, List.set_cons_succ, i64_w, i32_w]
                 rfl
                refine done_ (done_of HT_.out (by kernel_rfl)) ?_
                try go_wp2
                have n0_ := Aside0.mk (blk_drew BK120.out)
                have n1_ := Aside0.mk (blk_drew BK121.out)
                have n2_ := Aside0.mk (blk_drew BK122.out)
                have n3_ := Aside0.mk (blk_drew BK129.out)
                have n4_ := Aside0.mk (blk_drew BK130.out)
                have n5_ := Aside0.mk (blk_drew BK131.out)
                have n6_ := Aside0.mk (below_drew1 HB.out)
                clear BK120
                clear BK121
                clear BK122
                clear BK129
                clear BK130
                clear BK131
                clear HB
                have BK120 := n0_
                have BK121 := n1_
                have BK122 := n2_
                have BK129 := n3_
                have BK130 := n4_
                have BK131 := n5_
                have HB := n6_
                clear n0_ n1_ n2_ n3_ n4_ n5_ n6_
                have p151 : 0 ≤ ((ji195) : Int) := of_decide_eq_true (by first | (with_reducible assumption) | assumption)
                have q151 : (ji195) < (l0.length : Int) := of_decide_eq_true (by first | (with_reducible assumption) | assumption)
                obtain ⟨ad151, e151, hx151_0⟩ := Kd.at_string HR0.out (ji195) p151 q151
                have hw151_0 := hx151_0
                obtain rfl : ad143 = ad151 := (by injection e151)
                replace hx151_0 := (HB.out.cell (World.block_lt_of_cell? w _ hx151_0)).trans hx151_0
                replace p151 := eq_true p151
                replace q151 := eq_true q151
                refine start_ (n := 13) (S := fun w' => w'.cell? ⟨gb130, 0, none⟩ = some (.int .i64 t127) ∧ w'.cell? ⟨gb130, 1, none⟩ = some (.int .i64 t128) ∧ w'.cell? (ad143.add ((ji195)).toNat) = some (.string (rdOf ByteArray.empty l0 (ji195)))) (ds := []) #[false, false, false, false, false, false, false, false, false, false, false, false, false] (by kernel_rfl) rfl rfl ⟨(blk_cell BK130.out 0).trans rfl, (blk_cell BK130.out 1).trans rfl, ((HB.out.cell (World.block_lt_of_cell? w _ hw151_0)).trans hw151_0)⟩ (fun hHeld => ?_); refine with_tabW area_Of.tab14 area_Of.bits14 (fun HT_ HW_ => ?_)
                generalize w216.drew = w217 at BK120 BK121 BK122 BK129 BK130 BK131 HB hx151_0 hHeld ⊢
                refine pure_ (i := 0) (N := some 85) (v := ?_) (a' := ?_) #[true, false, false, false, false, false, false, false, false, false, false, false, false] rfl rfl (any_of HT_.out (by kernel_rfl)) (fun _ _ _ h => h) (Or.inl ⟨by rfl, ?_⟩) ?_ ?_
                rotate_left
                ·intro w'
                 go_simp
                 with_reducible rfl
                rotate_left
                ·simp only [Act.put, List.setIfInBounds_toArray, List.set_cons_zero, List.set_cons_succ, i64_w, i32_w]
                 rfl
                refine pure_ (i := 3) (N := some 88) (v := ?_) (a' := ?_) #[true, false, false, true, false, false, false, false, false, false, false, false, false] rfl rfl (any_of HT_.out (by kernel_rfl)) (fun _ _ _ h => h) (Or.inl ⟨by rfl, ?_⟩) ?_ ?_
                rotate_left
                ·intro w'
                 go_simp
                 with_reducible rfl
                rotate_left
                ·simp only [Act.put, List.setIfInBounds_toArray, List.set_cons_zero, List.set_cons_succ, i64_w, i32_w]
                 rfl
                refine pure_ (i := 4) (N := some 89) (v := ?_) (a' := ?_) #[true, false, false, true, true, false, false, false, false, false, false, false, false] rfl rfl (any_of HT_.out (by kernel_rfl)) (fun _ _ _ h => h) (Or.inl ⟨by rfl, ?_⟩) ?_ ?_
                rotate_left
                ·intro w'
                 go_simp
                 with_reducible rfl
                rotate_left
                ·simp only [Act.put, List.setIfInBounds_toArray, List.set_cons_zero, List.set_cons_succ, i64_w, i32_w]
                 rfl
                refine take_ (i := 1) (N := some 86) (v := ?_) (a' := ?_) #[true, true, false, true, true, false, false, false, false, false, false, false, false] rfl rfl (take_ofW HT_.out HW_.out (by kernel_rfl)) (fun _ _ _ h => h) (Or.inl ⟨by rfl, ?_⟩) hHeld ?_ ?_
                rotate_left
                ·rintro w' ⟨s0, s1, s2⟩
                 go_simp
                 with_reducible rfl
                rotate_left
                ·simp only [Act.put, List.setIfInBounds_toArray, List.set_cons_zero, List.set_cons_succ, i64_w, i32_w]
                 rfl
                refine pure_ (i := 2) (N := some 87) (v := ?_) (a' := ?_) #[true, true, true, true, true, false, false, false, false, false, false, false, false] rfl rfl (any_of HT_.out (by kernel_rfl)) (fun _ _ _ h => h) (Or.inl ⟨by rfl, ?_⟩) ?_ ?_
                rotate_left
                ·intro w'
                 go_simp
                 with_reducible rfl
                rotate_left
                ·simp only [Act.put, List.setIfInBounds_toArray, List.set_cons_zero, List.set_cons_succ, i64_w, i32_w]
                 rfl
                refine take_ (i := 5) (N := some 90) (v := ?_) (a' := ?_) #[true, true, true, true, true, true, false, false, false, false, false, false, false] rfl rfl (take_ofW HT_.out HW_.out (by kernel_rfl)) (fun _ _ _ h => h) (Or.inl ⟨by rfl, ?_⟩) hHeld ?_ ?_
                rotate_left
                ·rintro w' ⟨s0, s1, s2⟩
                 go_simp
                 with_reducible rfl
                rotate_left
                ·simp only [Act.put, List.setIfInBounds_toArray, List.set_cons_zero, List.set_cons_succ, i64_w, i32_w]
                 rfl
                refine pure_ (i := 6) (N := some 91) (v := ?_) (a' := ?_) #[true, true, true, true, true, true, true, false, false, false, false, false, false] rfl rfl (any_of HT_.out (by kernel_rfl)) (fun _ _ _ h => h) (Or.inl ⟨by rfl, ?_⟩) ?_ ?_
                rotate_left
                ·intro w'
                 go_simp
                 with_reducible rfl
                rotate_left
                ·simp only [Act.put, List.setIfInBounds_toArray, List.set_cons_zero, List.set_cons_succ, i64_w, i32_w]
                 rfl
                refine pure_ (i := 7) (N := some 92) (v := ?_) (a' := ?_) #[true, true, true, true, true, true, true, true, false, false, false, false, false] rfl rfl (any_of HT_.out (by kernel_rfl)) (fun _ _ _ h => h) (Or.inl ⟨by rfl, ?_⟩) ?_ ?_
                rotate_left
                ·intro w'
                 go_simp
                 with_reducible rfl
                rotate_left
                ·simp only [Act.put, List.setIfInBounds_toArray, List.set_cons_zero, List.set_cons_succ, i64_w, i32_w]
                 rfl
                refine take_ (i := 8) (N := some 93) (v := ?_) (a' := ?_) #[true, true, true, true, true, true, true, true, true, false, false, false, false] rfl rfl (take_ofW HT_.out HW_.out (by kernel_rfl)) (fun _ _ _ h => h) (Or.inl ⟨by rfl, ?_⟩) hHeld ?_ ?_
                rotate_left
                ·rintro w' ⟨s0, s1, s2⟩
                 go_simp
                 with_reducible rfl
                rotate_left
                ·simp only [Act.put, List.setIfInBounds_toArray, List.set_cons_zero, List.set_cons_succ, i64_w, i32_w]
                 rfl
                refine pure_ (i := 9) (N := some 94) (v := ?_) (a' := ?_) #[true, true, true, true, true, true, true, true, true, true, false, false, false] rfl rfl (any_of HT_.out (by kernel_rfl)) (fun _ _ _ h => h) (Or.inl ⟨by rfl, ?_⟩) ?_ ?_
                rotate_left
                ·intro w'
                 go_simp
                 with_reducible rfl
                rotate_left
                ·simp only [Act.put, List.setIfInBounds_toArray, List.set_cons_zero, List.set_cons_succ, i64_w, i32_w]
                 rfl
                refine pure_ (i := 10) (N := some 95) (v := ?_) (a' := ?_) #[true, true, true, true, true, true, true, true, true, true, true, false, false] rfl rfl (any_of HT_.out (by kernel_rfl)) (fun _ _ _ h => h) (Or.inl ⟨by rfl, ?_⟩) ?_ ?_
                rotate_left
                ·intro w'
                 go_simp
                 with_reducible rfl
                rotate_left
                ·simp only [Act.put, List.setIfInBounds_toArray, List.set_cons_zero, List.set_cons_succ, i64_w, i32_w]
                 rfl
                refine pure_ (i := 11) (N := some 96) (v := ?_) (a' := ?_) #[true, true, true, true, true, true, true, true, true, true, true, true, false] rfl rfl (any_of HT_.out (by kernel_rfl)) (fun _ _ _ h => h) (Or.inl ⟨by rfl, ?_⟩) ?_ ?_
                rotate_left
                ·intro w'
                 go_simp
                 with_reducible rfl
                rotate_left
                ·simp only [Act.put, List.setIfInBounds_toArray, List.set_cons_zero, List.set_cons_succ, i64_w, i32_w]
                 rfl
                refine one_ (i := 12) (N := none) #[true, true, true, true, true, true, true, true, true, true, true, true, true] rfl rfl (one_of HT_.out (by kernel_rfl)) (by decide) (fun K hK => ?_)
                have hs218 : w217.cell? ⟨gb131, 3, none⟩ = some (.int .i64 t127) := (blk_cell BK131.out 3).trans rfl
                have hfs218 := blk_frozen BK131.out 3
                have hns218_0 := NB120_131.out
                have hns218_1 := NB121_131.out
                have hns218_2 := NB122_131.out
                have hns218_3 := NB129_131.out
                have hns218_4 := NB130_131.out
                have hms218_0 := NB131_120.out
                have hms218_1 := NB131_121.out
                have hms218_2 := NB131_122.out
                have hms218_3 := NB131_129.out
                have hms218_4 := NB131_130.out
                have hs219 : w217.cell? ⟨gb131, 4, none⟩ = some (.int .i64 t128) := (blk_cell BK131.out 4).trans rfl
                have hfs219 := blk_frozen BK131.out 4
                have hns219_0 := NB120_131.out
                have hns219_1 := NB121_131.out
                have hns219_2 := NB122_131.out
                have hns219_3 := NB129_131.out
                have hns219_4 := NB130_131.out
                have hms219_0 := NB131_120.out
                have hms219_1 := NB131_121.out
                have hms219_2 := NB131_122.out
                have hms219_3 := NB131_129.out
                have hms219_4 := NB131_130.out
                refine skip_ (w1 := ?_) (by rfl) rfl ?_ ?_
                rotate_left
                ·go_simp
                 rfl
                refine hK.out _ _ ⟨((cell_far (p := ⟨gb131, _, none⟩) NB130_131.out _).trans (((cell_far (p := ⟨gb131, _, none⟩) NB130_131.out _).trans (hHeld.1)))), ((cell_far (p := ⟨gb131, _, none⟩) NB130_131.out _).trans (((cell_far (p := ⟨gb131, _, none⟩) NB130_131.out _).trans (hHeld.2.1)))), ((cell_far (p := ⟨gb131, _, none⟩) (by first | exact Nat.ne_of_lt (Nat.lt_of_lt_of_le (by have := World.block_lt_of_cell? _ _ hw151_0; first | rwa [add_block] at this | exact this) GW131.out) | (rw [add_block]; exact Nat.ne_of_lt (Nat.lt_of_lt_of_le (by have := World.block_lt_of_cell? _ _ hw151_0; first | rwa [add_block] at this | exact this) GW131.out)) | (show (Addr.add _ _).block ≠ _; rw [add_block]; exact Nat.ne_of_lt (Nat.lt_of_lt_of_le (by have := World.block_lt_of_cell? _ _ hw151_0; first | rwa [add_block] at this | exact this) GW131.out)) | (dsimp only; exact Nat.ne_of_lt (Nat.lt_of_lt_of_le (by have := World.block_lt_of_cell? _ _ hw151_0; first | rwa [add_block] at this | exact this) GW131.out))) _).trans (((cell_far (p := ⟨gb131, _, none⟩) (by first | exact Nat.ne_of_lt (Nat.lt_of_lt_of_le (by have := World.block_lt_of_cell? _ _ hw151_0; first | rwa [add_block] at this | exact this) GW131.out) | (rw [add_block]; exact Nat.ne_of_lt (Nat.lt_of_lt_of_le (by have := World.block_lt_of_cell? _ _ hw151_0; first | rwa [add_block] at this | exact this) GW131.out)) | (show (Addr.add _ _).block ≠ _; rw [add_block]; exact Nat.ne_of_lt (Nat.lt_of_lt_of_le (by have := World.block_lt_of_cell? _ _ hw151_0; first | rwa [add_block] at this | exact this) GW131.out)) | (dsimp only; exact Nat.ne_of_lt (Nat.lt_of_lt_of_le (by have := World.block_lt_of_cell? _ _ hw151_0; first | rwa [add_block] at this | exact this) GW131.out))) _).trans (hHeld.2.2))))⟩ (fun hHeld => ?_)
                clear hK K
                refine done_ (done_of HT_.out (by kernel_rfl)) ?_
                have hnb220 := NB131_120.out
                have hnc220 := NB120_131.out
                have hnb221 := NB131_121.out
                have hnc221 := NB121_131.out
                have hnb222 := NB131_122.out
                have hnc222 := NB122_131.out
                have hnb223 := NB131_129.out
                have hnc223 := NB129_131.out
                have hnb224 := NB131_130.out
                have hnc224 := NB130_131.out
                have hcz225_0 : w217.cell? ⟨gb131, 0, none⟩ = some (.int .i64 0) := (blk_cell BK131.out 0).trans rfl
                have hcz225_1 : w217.cell? ⟨gb131, 1, none⟩ = some (.int .i64 t125) := (blk_cell BK131.out 1).trans rfl
                have hcz225_2 : w217.cell? ⟨gb131, 2, none⟩ = some (.int .i64 t126) := (blk_cell BK131.out 2).trans rfl
                have hcz225_3 : w217.cell? ⟨gb131, 3, none⟩ = some (.int .i64 t127) := (blk_cell BK131.out 3).trans rfl
                have hcz225_4 : w217.cell? ⟨gb131, 4, none⟩ = some (.int .i64 t128) := (blk_cell BK131.out 4).trans rfl
                have hfz225_0 := blk_frozen BK131.out 0
                have hfz225_1 := blk_frozen BK131.out 1
                have hfz225_2 := blk_frozen BK131.out 2
                have hfz225_3 := blk_frozen BK131.out 3
                have hfz225_4 := blk_frozen BK131.out 4
                have hnb226 := NB122_120.out
                have hnc226 := NB120_122.out
                have hnb227 := NB122_121.out
                have hnc227 := NB121_122.out
                have hnb228 := NB122_129.out
                have hnc228 := NB129_122.out
                have hnb229 := NB122_130.out
                have hnc229 := NB130_122.out
                have hcz230_0 : w217.cell? ⟨gb122, 0, none⟩ = some (.int .i64 0) := (blk_cell BK122.out 0).trans rfl
                have hcz230_1 : w217.cell? ⟨gb122, 1, none⟩ = some (.int .i64 0) := (blk_cell BK122.out 1).trans rfl
                have hcz230_2 : w217.cell? ⟨gb122, 2, none⟩ = some (.int .i64 0) := (blk_cell BK122.out 2).trans rfl
                have hcz230_3 : w217.cell? ⟨gb122, 3, none⟩ = some (.int .i64 0) := (blk_cell BK122.out 3).trans rfl
                have hcz230_4 : w217.cell? ⟨gb122, 4, none⟩ = some (.int .i64 0) := (blk_cell BK122.out 4).trans rfl
                have hfz230_0 := blk_frozen BK122.out 0
                have hfz230_1 := blk_frozen BK122.out 1
                have hfz230_2 := blk_frozen BK122.out 2
                have hfz230_3 := blk_frozen BK122.out 3
                have hfz230_4 := blk_frozen BK122.out 4
                try go_wp2
                refine bodyPost_ret (results_ct rfl _ _ gb122 43 #[.int .i64 0, .int .i64 t125, .int .i64 t126, .int .i64 ji195, .int .i64 ((rdOf ByteArray.empty l0 (ji195)).size : Int)] (0, 0) _ rfl (by refine pk ?_; refine blk_put (cs := #[.int .i64 0, .int .i64 t125, .int .i64 t126, .int .i64 ji195, .int .i64 0]) ?_ 4 _ rfl; refine pk ?_; refine blk_put (cs := #[.int .i64 0, .int .i64 t125, .int .i64 t126, .int .i64 0, .int .i64 0]) ?_ 3 _ rfl; refine pk ?_; refine blk_put (cs := #[.int .i64 0, .int .i64 t125, .int .i64 0, .int .i64 0, .int .i64 0]) ?_ 2 _ rfl; refine pk ?_; refine blk_put (cs := #[.int .i64 0, .int .i64 0, .int .i64 0, .int .i64 0, .int .i64 0]) ?_ 1 _ rfl; refine pk ?_; refine blk_put (cs := #[.int .i64 0, .int .i64 0, .int .i64 0, .int .i64 0, .int .i64 0]) ?_ 0 _ rfl; refine pk ?_; refine blk_far ?_ NB122_131.out _; refine pk ?_; refine blk_far ?_ NB122_131.out _; exact pk BK122.out) Try.underlying43 rfl (by kernel_rfl)) rfl ?_
                exact ⟨by first | rfl | (simp [errW_none, errW_some] <;> rfl) | (simp only [← hji195]; first | rfl | (simp [errW_none, errW_some] <;> rfl)) | (simp [*, errW_none, errW_some] <;> rfl), by repeat with_reducible first | exact HB.out | apply ba | apply bn | apply bd | refine bset ?_ (by assumption)⟩
              ·rw [if_neg c197] at H
               exact absurd H (by simp)
             ·rw [if_neg c196] at H
              exact absurd H (by simp)
           ·rw [if_neg c173] at H
            exact absurd H (by simp)
          ·rw [if_neg c172] at H
           exact absurd H (by simp)
         ·replace c171 := Bool.eq_false_iff.mpr c171
          subst c171
          have H1 : (if (t125 == t127 && (t126 == t128)) = true then (some (0, 0, 0, 0, 0, false)) else (some (0, t125, t126, t127, t128, true))) = some (r1, r2, r3, r4, r5, r6) := by rw [if_neg (show ¬ (false = true) by decide)] at H; exact H
          clear H
          have H := H1
          clear H1
          by_cases c231 : (t125 == t127 && (t126 == t128)) = true
          ·rw [if_pos c231] at H
           have c231b0 : (t125 == t127 && (t126 == t128)) = true := c231
           (try (have c231b1 : decide (t125 = t127 && (t126 == t128)) = true := by simpa using c231))
           (try (have c231b2 : (t125 == t127 && (t126 == t128)) = true := by simpa using c231))
           clear c231
           simp only [Option.some.injEq, Prod.mk.injEq] at H
           obtain ⟨rfl, rfl, rfl, rfl, rfl, rfl⟩ := H
           have hnb232 := NB131_120.out
           have hnc232 := NB120_131.out
           have hnb233 := NB131_121.out
           have hnc233 := NB121_131.out
           have hnb234 := NB131_122.out
           have hnc234 := NB122_131.out
           have hnb235 := NB131_129.out
           have hnc235 := NB129_131.out
           have hnb236 := NB131_130.out
           have hnc236 := NB130_131.out
           have hcz237_0 : wc.cell? ⟨gb131, 0, none⟩ = some (.int .i64 0) := (blk_cell BK131.out 0).trans rfl
           have hcz237_1 : wc.cell? ⟨gb131, 1, none⟩ = some (.int .i64 t125) := (blk_cell BK131.out 1).trans rfl
           have hcz237_2 : wc.cell? ⟨gb131, 2, none⟩ = some (.int .i64 t126) := (blk_cell BK131.out 2).trans rfl
           have hcz237_3 : wc.cell? ⟨gb131, 3, none⟩ = some (.int .i64 t127) := (blk_cell BK131.out 3).trans rfl
           have hcz237_4 : wc.cell? ⟨gb131, 4, none⟩ = some (.int .i64 t128) := (blk_cell BK131.out 4).trans rfl
           have hfz237_0 := blk_frozen BK131.out 0
           have hfz237_1 := blk_frozen BK131.out 1
           have hfz237_2 := blk_frozen BK131.out 2
           have hfz237_3 := blk_frozen BK131.out 3
           have hfz237_4 := blk_frozen BK131.out 4
           have hnb238 := NB122_120.out
           have hnc238 := NB120_122.out
           have hnb239 := NB122_121.out
           have hnc239 := NB121_122.out
           have hnb240 := NB122_129.out
           have hnc240 := NB129_122.out
           have hnb241 := NB122_130.out
           have hnc241 := NB130_122.out
           have hcz242_0 : wc.cell? ⟨gb122, 0, none⟩ = some (.int .i64 0) := (blk_cell BK122.out 0).trans rfl
           have hcz242_1 : wc.cell? ⟨gb122, 1, none⟩ = some (.int .i64 0) := (blk_cell BK122.out 1).trans rfl
           have hcz242_2 : wc.cell? ⟨gb122, 2, none⟩ = some (.int .i64 0) := (blk_cell BK122.out 2).trans rfl
           have hcz242_3 : wc.cell? ⟨gb122, 3, none⟩ = some (.int .i64 0) := (blk_cell BK122.out 3).trans rfl
           have hcz242_4 : wc.cell? ⟨gb122, 4, none⟩ = some (.int .i64 0) := (blk_cell BK122.out 4).trans rfl
           have hfz242_0 := blk_frozen BK122.out 0
           have hfz242_1 := blk_frozen BK122.out 1
           have hfz242_2 := blk_frozen BK122.out 2
           have hfz242_3 := blk_frozen BK122.out 3
           have hfz242_4 := blk_frozen BK122.out 4
           go_wp2
           refine bodyPost_ret (results_ct rfl _ _ gb122 43 #[.int .i64 0, .int .i64 0, .int .i64 0, .int .i64 0, .int .i64 0] (0, 0) _ rfl (by refine pk ?_; refine blk_put (cs := #[.int .i64 0, .int .i64 0, .int .i64 0, .int .i64 0, .int .i64 0]) ?_ 4 _ rfl; refine pk ?_; refine blk_put (cs := #[.int .i64 0, .int .i64 0, .int .i64 0, .int .i64 0, .int .i64 0]) ?_ 3 _ rfl; refine pk ?_; refine blk_put (cs := #[.int .i64 0, .int .i64 0, .int .i64 0, .int .i64 0, .int .i64 0]) ?_ 2 _ rfl; refine pk ?_; refine blk_put (cs := #[.int .i64 0, .int .i64 0, .int .i64 0, .int .i64 0, .int .i64 0]) ?_ 1 _ rfl; refine pk ?_; refine blk_put (cs := #[.int .i64 0, .int .i64 0, .int .i64 0, .int .i64 0, .int .i64 0]) ?_ 0 _ rfl; exact pk BK122.out) Try.underlying43 rfl (by kernel_rfl)) rfl ?_
           exact ⟨by first | rfl | (simp [errW_none, errW_some] <;> rfl) | (simp [*, errW_none, errW_some] <;> rfl), by repeat with_reducible first | exact HB.out | apply ba | apply bn | apply bd | refine bset ?_ (by assumption)⟩
          ·rw [if_neg c231] at H
           have c231b0 : (t125 == t127 && (t126 == t128)) = false := by simpa using c231
           (try (have c231b1 : decide (t125 = t127 && (t126 == t128)) = false := by simpa using c231))
           (try (have c231b2 : (t125 == t127 && (t126 == t128)) = false := by simpa using c231))
           (try (have c231b3 : ¬ (t125 = t127 && (t126 == t128)) := by simpa using c231))
           clear c231
           simp only [Option.some.injEq, Prod.mk.injEq] at H
           obtain ⟨rfl, rfl, rfl, rfl, rfl, rfl⟩ := H
           have hnb243 := NB131_120.out
           have hnc243 := NB120_131.out
           have hnb244 := NB131_121.out
           have hnc244 := NB121_131.out
           have hnb245 := NB131_122.out
           have hnc245 := NB122_131.out
           have hnb246 := NB131_129.out
           have hnc246 := NB129_131.out
           have hnb247 := NB131_130.out
           have hnc247 := NB130_131.out
           have hcz248_0 : wc.cell? ⟨gb131, 0, none⟩ = some (.int .i64 0) := (blk_cell BK131.out 0).trans rfl
           have hcz248_1 : wc.cell? ⟨gb131, 1, none⟩ = some (.int .i64 t125) := (blk_cell BK131.out 1).trans rfl
           have hcz248_2 : wc.cell? ⟨gb131, 2, none⟩ = some (.int .i64 t126) := (blk_cell BK131.out 2).trans rfl
           have hcz248_3 : wc.cell? ⟨gb131, 3, none⟩ = some (.int .i64 t127) := (blk_cell BK131.out 3).trans rfl
           have hcz248_4 : wc.cell? ⟨gb131, 4, none⟩ = some (.int .i64 t128) := (blk_cell BK131.out 4).trans rfl
           have hfz248_0 := blk_frozen BK131.out 0
           have hfz248_1 := blk_frozen BK131.out 1
           have hfz248_2 := blk_frozen BK131.out 2
           have hfz248_3 := blk_frozen BK131.out 3
           have hfz248_4 := blk_frozen BK131.out 4
           have hnb249 := NB122_120.out
           have hnc249 := NB120_122.out
           have hnb250 := NB122_121.out
           have hnc250 := NB121_122.out
           have hnb251 := NB122_129.out
           have hnc251 := NB129_122.out
           have hnb252 := NB122_130.out
           have hnc252 := NB130_122.out
           have hcz253_0 : wc.cell? ⟨gb122, 0, none⟩ = some (.int .i64 0) := (blk_cell BK122.out 0).trans rfl
           have hcz253_1 : wc.cell? ⟨gb122, 1, none⟩ = some (.int .i64 0) := (blk_cell BK122.out 1).trans rfl
           have hcz253_2 : wc.cell? ⟨gb122, 2, none⟩ = some (.int .i64 0) := (blk_cell BK122.out 2).trans rfl
           have hcz253_3 : wc.cell? ⟨gb122, 3, none⟩ = some (.int .i64 0) := (blk_cell BK122.out 3).trans rfl
           have hcz253_4 : wc.cell? ⟨gb122, 4, none⟩ = some (.int .i64 0) := (blk_cell BK122.out 4).trans rfl
           have hfz253_0 := blk_frozen BK122.out 0
           have hfz253_1 := blk_frozen BK122.out 1
           have hfz253_2 := blk_frozen BK122.out 2
           have hfz253_3 := blk_frozen BK122.out 3
           have hfz253_4 := blk_frozen BK122.out 4
           go_wp2
           refine bodyPost_ret (results_ct rfl _ _ gb122 43 #[.int .i64 0, .int .i64 t125, .int .i64 t126, .int .i64 t127, .int .i64 t128] (0, 0) _ rfl (by refine pk ?_; refine blk_put (cs := #[.int .i64 0, .int .i64 t125, .int .i64 t126, .int .i64 t127, .int .i64 0]) ?_ 4 _ rfl; refine pk ?_; refine blk_put (cs := #[.int .i64 0, .int .i64 t125, .int .i64 t126, .int .i64 0, .int .i64 0]) ?_ 3 _ rfl; refine pk ?_; refine blk_put (cs := #[.int .i64 0, .int .i64 t125, .int .i64 0, .int .i64 0, .int .i64 0]) ?_ 2 _ rfl; refine pk ?_; refine blk_put (cs := #[.int .i64 0, .int .i64 0, .int .i64 0, .int .i64 0, .int .i64 0]) ?_ 1 _ rfl; refine pk ?_; refine blk_put (cs := #[.int .i64 0, .int .i64 0, .int .i64 0, .int .i64 0, .int .i64 0]) ?_ 0 _ rfl; exact pk BK122.out) Try.underlying43 rfl (by kernel_rfl)) rfl ?_
           exact ⟨by first | rfl | (simp [errW_none, errW_some] <;> rfl) | (simp [*, errW_none, errW_some] <;> rfl), by repeat with_reducible first | exact HB.out | apply ba | apply bn | apply bd | refine bset ?_ (by assumption)⟩
      ·rw [if_neg c121] at H
       have c121b0 : (a2_2 == 0) = false := beq_eq_false_iff_ne.mpr c121
       have c121b1 : (a2_2 != 0) = true := bne_iff_ne.mpr c121
       simp only [Option.some.injEq, Prod.mk.injEq] at H
       obtain ⟨rfl, rfl, rfl, rfl, rfl, rfl⟩ := H
       have hnb254 := NB120_121.out
       have hnc254 := NB121_120.out
       have hnb255 := NB120_122.out
       have hnc255 := NB122_120.out
       have hcz256_0 : wc.cell? ⟨gb120, 0, none⟩ = some (.int .i64 a1_0) := (blk_cell BK120.out 0).trans rfl
       have hcz256_1 : wc.cell? ⟨gb120, 1, none⟩ = some (.int .i64 a1_1) := (blk_cell BK120.out 1).trans rfl
       have hfz256_0 := blk_frozen BK120.out 0
       have hfz256_1 := blk_frozen BK120.out 1
       have hnb257 := NB121_122.out
       have hnc257 := NB122_121.out
       have hcz258_0 : wc.cell? ⟨gb121, 0, none⟩ = some (.int .i64 a2_0) := (blk_cell BK121.out 0).trans rfl
       have hcz258_1 : wc.cell? ⟨gb121, 1, none⟩ = some (.int .i64 a2_1) := (blk_cell BK121.out 1).trans rfl
       have hcz258_2 : wc.cell? ⟨gb121, 2, none⟩ = some (.int .i64 a2_2) := (blk_cell BK121.out 2).trans rfl
       have hcz258_3 : wc.cell? ⟨gb121, 3, none⟩ = some (.bool a2_3) := (blk_cell BK121.out 3).trans rfl
       have hcz258_4 : wc.cell? ⟨gb121, 4, none⟩ = some (.int .i64 a2_4) := (blk_cell BK121.out 4).trans rfl
       have hfz258_0 := blk_frozen BK121.out 0
       have hfz258_1 := blk_frozen BK121.out 1
       have hfz258_2 := blk_frozen BK121.out 2
       have hfz258_3 := blk_frozen BK121.out 3
       have hfz258_4 := blk_frozen BK121.out 4
       go_wp2_with (first | ((with_reducible refine gate_callee (f := 36) rfl ?_); refine goesL_ (some 27) rfl rfl Try.func36 (by kernel_rfl) rfl #[.agg #[.int .i64 a1_0, .int .i64 a1_1], .agg #[.int .i64 a2_0, .int .i64 a2_1]] rfl (by first | rfl | (simp only [List.map_toArray, List.map_cons, List.map_nil] <;> rfl)) ?_; (with_reducible refine (span_Order.calls a1_0 a1_1 a2_0 a2_1 t125 t126 t127 t128 _ A26.out).mono ?_); rintro e w259 ⟨rfl, hb⟩; refine ⟨_, rfl, ?_⟩; have n0_ := Aside0.mk (blk_below (pk BK120.out) hb); have n1_ := Aside0.mk (blk_below (pk BK121.out) hb); have n2_ := Aside0.mk (blk_below (pk BK122.out) hb); have n3_ := Aside0.mk (below_step (by repeat with_reducible first | exact HB.out | apply ba | apply bn | apply bd | refine bset ?_ (by assumption)) hb); clear BK120; clear BK121; clear BK122; clear HB; have BK120 := n0_; have BK121 := n1_; have BK122 := n2_; have HB := n3_; clear n0_ n1_ n2_ n3_; (try clear hb); (try clear hb2); (try clear hk); (try clear hi)) | ((with_reducible refine gate_dst (N := 8) rfl ?_); refine box_event ?hg (N := 8) ?hd (cs := #[.int .i64 0, .int .i64 0]) (t := 28) ?hr ?_; (case hd => rfl); (case hg => rfl); (case hr => first | (go_simp; done) | (go_simp; rfl)); intro gb129 hg w260 hbox hb; have n0_ := Aside0.mk (blk_below (pk BK120.out) hb); have n1_ := Aside0.mk (blk_below (pk BK121.out) hb); have n2_ := Aside0.mk (blk_below (pk BK122.out) hb); have n3_ := Aside0.mk (below_step (by repeat with_reducible first | exact HB.out | apply ba | apply bn | apply bd | refine bset ?_ (by assumption)) hb); have n4_ := Aside0.mk (hbox); have n5_ := Aside0.mk ((by rw [hg]; exact (below_size (by repeat with_reducible first | exact HB.out | apply ba | apply bn | apply bd | refine bset ?_ (by assumption))) : w.heap.size ≤ gb129)); have n6_ := n5_; have n7_ := Aside0.mk ((by rw [hg]; exact Nat.ne_of_lt (blk_lt (pk BK120.out)) : gb120 ≠ gb129)); have n8_ := Aside0.mk ((by rw [hg]; exact Nat.ne_of_gt (blk_lt (pk BK120.out)) : gb129 ≠ gb120)); have n9_ := Aside0.mk ((by rw [hg]; exact Nat.ne_of_lt (blk_lt (pk BK121.out)) : gb121 ≠ gb129)); have n10_ := Aside0.mk ((by rw [hg]; exact Nat.ne_of_gt (blk_lt (pk BK121.out)) : gb129 ≠ gb121)); have n11_ := Aside0.mk ((by rw [hg]; exact Nat.ne_of_lt (blk_lt (pk BK122.out)) : gb122 ≠ gb129)); have n12_ := Aside0.mk ((by rw [hg]; exact Nat.ne_of_gt (blk_lt (pk BK122.out)) : gb129 ≠ gb122)); clear BK120; clear BK121; clear BK122; clear HB; have BK120 := n0_; have BK121 := n1_; have BK122 := n2_; have HB := n3_; have BK129 := n4_; have GW129 := n5_; have GE129 := n6_; have NB120_129 := n7_; have NB129_120 := n8_; have NB121_129 := n9_; have NB129_121 := n10_; have NB122_129 := n11_; have NB129_122 := n12_; clear n0_ n1_ n2_ n3_ n4_ n5_ n6_ n7_ n8_ n9_ n10_ n11_ n12_; clear hb hbox hg) | ((with_reducible refine gate_dst (N := 9) rfl ?_); refine box_event ?hg (N := 9) ?hd (cs := #[.int .i64 0, .int .i64 0]) (t := 28) ?hr ?_; (case hd => rfl); (case hg => rfl); (case hr => first | (go_simp; done) | (go_simp; rfl)); intro gb130 hg w261 hbox hb; have n0_ := Aside0.mk (blk_below (pk BK120.out) hb); have n1_ := Aside0.mk (blk_below (pk BK121.out) hb); have n2_ := Aside0.mk (blk_below (pk BK122.out) hb); have n3_ := Aside0.mk (blk_below (pk BK129.out) hb); have n4_ := Aside0.mk (below_step (by repeat with_reducible first | exact HB.out | apply ba | apply bn | apply bd | refine bset ?_ (by assumption)) hb); have n5_ := Aside0.mk (hbox); have n6_ := Aside0.mk ((by rw [hg]; exact (below_size (by repeat with_reducible first | exact HB.out | apply ba | apply bn | apply bd | refine bset ?_ (by assumption))) : w.heap.size ≤ gb130)); have n7_ := n6_; have n8_ := Aside0.mk ((by rw [hg]; exact Nat.ne_of_lt (blk_lt (pk BK120.out)) : gb120 ≠ gb130)); have n9_ := Aside0.mk ((by rw [hg]; exact Nat.ne_of_gt (blk_lt (pk BK120.out)) : gb130 ≠ gb120)); have n10_ := Aside0.mk ((by rw [hg]; exact Nat.ne_of_lt (blk_lt (pk BK121.out)) : gb121 ≠ gb130)); have n11_ := Aside0.mk ((by rw [hg]; exact Nat.ne_of_gt (blk_lt (pk BK121.out)) : gb130 ≠ gb121)); have n12_ := Aside0.mk ((by rw [hg]; exact Nat.ne_of_lt (blk_lt (pk BK122.out)) : gb122 ≠ gb130)); have n13_ := Aside0.mk ((by rw [hg]; exact Nat.ne_of_gt (blk_lt (pk BK122.out)) : gb130 ≠ gb122)); have n14_ := Aside0.mk ((by rw [hg]; exact Nat.ne_of_lt (blk_lt (pk BK129.out)) : gb129 ≠ gb130)); have n15_ := Aside0.mk ((by rw [hg]; exact Nat.ne_of_gt (blk_lt (pk BK129.out)) : gb130 ≠ gb129)); clear BK120; clear BK121; clear BK122; clear BK129; clear HB; have BK120 := n0_; have BK121 := n1_; have BK122 := n2_; have BK129 := n3_; have HB := n4_; have BK130 := n5_; have GW130 := n6_; have GE130 := n7_; have NB120_130 := n8_; have NB130_120 := n9_; have NB121_130 := n10_; have NB130_121 := n11_; have NB122_130 := n12_; have NB130_122 := n13_; have NB129_130 := n14_; have NB130_129 := n15_; clear n0_ n1_ n2_ n3_ n4_ n5_ n6_ n7_ n8_ n9_ n10_ n11_ n12_ n13_ n14_ n15_; clear hb hbox hg; have hnb262 := NB129_120.out; have hnc262 := NB120_129.out; have hnb263 := NB129_121.out; have hnc263 := NB121_129.out; have hnb264 := NB129_122.out; have hnc264 := NB122_129.out; have hnb265 := NB129_130.out; have hnc265 := NB130_129.out; have hcz266_0 : w261.cell? ⟨gb129, 0, none⟩ = some (.int .i64 0) := (blk_cell BK129.out 0).trans rfl; have hcz266_1 : w261.cell? ⟨gb129, 1, none⟩ = some (.int .i64 0) := (blk_cell BK129.out 1).trans rfl; have hfz266_0 := blk_frozen BK129.out 0; have hfz266_1 := blk_frozen BK129.out 1; have hnb267 := NB130_120.out; have hnc267 := NB120_130.out; have hnb268 := NB130_121.out; have hnc268 := NB121_130.out; have hnb269 := NB130_122.out; have hnc269 := NB122_130.out; have hcz270_0 : w261.cell? ⟨gb130, 0, none⟩ = some (.int .i64 0) := (blk_cell BK130.out 0).trans rfl; have hcz270_1 : w261.cell? ⟨gb130, 1, none⟩ = some (.int .i64 0) := (blk_cell BK130.out 1).trans rfl; have hfz270_0 := blk_frozen BK130.out 0; have hfz270_1 := blk_frozen BK130.out 1) | ((with_reducible refine gate_dst (N := 10) rfl ?_); refine box_event ?hg (N := 10) ?hd (cs := #[.int .i64 0, .int .i64 0, .int .i64 0, .int .i64 0, .int .i64 0]) (t := 43) ?hr ?_; (case hd => rfl); (case hg => rfl); (case hr => first | (go_simp; done) | (go_simp; rfl)); intro gb131 hg w271 hbox hb; have n0_ := Aside0.mk (blk_below (g := gb120) (o := .cells #[.int .i64 a1_0, .int .i64 a1_1] 28 (0, 0)) (by refine pk ?_; refine blk_far ?_ NB120_130.out _; refine pk ?_; refine blk_far ?_ NB120_130.out _; refine pk ?_; refine blk_far ?_ NB120_129.out _; refine pk ?_; refine blk_far ?_ NB120_129.out _; exact pk BK120.out) hb); have n1_ := Aside0.mk (blk_below (g := gb121) (o := .cells #[.int .i64 a2_0, .int .i64 a2_1, .int .i64 a2_2, .bool a2_3, .int .i64 a2_4] 38 (0, 0)) (by refine pk ?_; refine blk_far ?_ NB121_130.out _; refine pk ?_; refine blk_far ?_ NB121_130.out _; refine pk ?_; refine blk_far ?_ NB121_129.out _; refine pk ?_; refine blk_far ?_ NB121_129.out _; exact pk BK121.out) hb); have n2_ := Aside0.mk (blk_below (g := gb122) (o := .cells #[.int .i64 0, .int .i64 0, .int .i64 0, .int .i64 0, .int .i64 0] 43 (0, 0)) (by refine pk ?_; refine blk_far ?_ NB122_130.out _; refine pk ?_; refine blk_far ?_ NB122_130.out _; refine pk ?_; refine blk_far ?_ NB122_129.out _; refine pk ?_; refine blk_far ?_ NB122_129.out _; exact pk BK122.out) hb); have n3_ := Aside0.mk (blk_below (g := gb129) (o := .cells #[.int .i64 t125, .int .i64 t126] 28 (0, 0)) (by refine pk ?_; refine blk_far ?_ NB129_130.out _; refine pk ?_; refine blk_far ?_ NB129_130.out _; refine pk ?_; refine blk_put (cs := #[.int .i64 t125, .int .i64 0]) ?_ 1 _ rfl; refine pk ?_; refine blk_put (cs := #[.int .i64 0, .int .i64 0]) ?_ 0 _ rfl; exact pk BK129.out) hb); have n4_ := Aside0.mk (blk_below (g := gb130) (o := .cells #[.int .i64 t127, .int .i64 t128] 28 (0, 0)) (by refine pk ?_; refine blk_put (cs := #[.int .i64 t127, .int .i64 0]) ?_ 1 _ rfl; refine pk ?_; refine blk_put (cs := #[.int .i64 0, .int .i64 0]) ?_ 0 _ rfl; refine pk ?_; refine blk_far ?_ NB130_129.out _; refine pk ?_; refine blk_far ?_ NB130_129.out _; exact pk BK130.out) hb); have n5_ := Aside0.mk (below_step (by repeat with_reducible first | exact HB.out | apply ba | apply bn | apply bd | refine bset ?_ (by assumption)) hb); have n6_ := Aside0.mk (hbox); have n7_ := Aside0.mk ((by rw [hg]; exact (below_size (by repeat with_reducible first | exact HB.out | apply ba | apply bn | apply bd | refine bset ?_ (by assumption))) : w.heap.size ≤ gb131)); have n8_ := n7_; have n9_ := Aside0.mk ((by rw [hg]; exact Nat.ne_of_lt (blk_lt (g := gb120) (o := .cells #[.int .i64 a1_0, .int .i64 a1_1] 28 (0, 0)) (by refine pk ?_; refine blk_far ?_ NB120_130.out _; refine pk ?_; refine blk_far ?_ NB120_130.out _; refine pk ?_; refine blk_far ?_ NB120_129.out _; refine pk ?_; refine blk_far ?_ NB120_129.out _; exact pk BK120.out)) : gb120 ≠ gb131)); have n10_ := Aside0.mk ((by rw [hg]; exact Nat.ne_of_gt (blk_lt (g := gb120) (o := .cells #[.int .i64 a1_0, .int .i64 a1_1] 28 (0, 0)) (by refine pk ?_; refine blk_far ?_ NB120_130.out _; refine pk ?_; refine blk_far ?_ NB120_130.out _; refine pk ?_; refine blk_far ?_ NB120_129.out _; refine pk ?_; refine blk_far ?_ NB120_129.out _; exact pk BK120.out)) : gb131 ≠ gb120)); have n11_ := Aside0.mk ((by rw [hg]; exact Nat.ne_of_lt (blk_lt (g := gb121) (o := .cells #[.int .i64 a2_0, .int .i64 a2_1, .int .i64 a2_2, .bool a2_3, .int .i64 a2_4] 38 (0, 0)) (by refine pk ?_; refine blk_far ?_ NB121_130.out _; refine pk ?_; refine blk_far ?_ NB121_130.out _; refine pk ?_; refine blk_far ?_ NB121_129.out _; refine pk ?_; refine blk_far ?_ NB121_129.out _; exact pk BK121.out)) : gb121 ≠ gb131)); have n12_ := Aside0.mk ((by rw [hg]; exact Nat.ne_of_gt (blk_lt (g := gb121) (o := .cells #[.int .i64 a2_0, .int .i64 a2_1, .int .i64 a2_2, .bool a2_3, .int .i64 a2_4] 38 (0, 0)) (by refine pk ?_; refine blk_far ?_ NB121_130.out _; refine pk ?_; refine blk_far ?_ NB121_130.out _; refine pk ?_; refine blk_far ?_ NB121_129.out _; refine pk ?_; refine blk_far ?_ NB121_129.out _; exact pk BK121.out)) : gb131 ≠ gb121)); have n13_ := Aside0.mk ((by rw [hg]; exact Nat.ne_of_lt (blk_lt (g := gb122) (o := .cells #[.int .i64 0, .int .i64 0, .int .i64 0, .int .i64 0, .int .i64 0] 43 (0, 0)) (by refine pk ?_; refine blk_far ?_ NB122_130.out _; refine pk ?_; refine blk_far ?_ NB122_130.out _; refine pk ?_; refine blk_far ?_ NB122_129.out _; refine pk ?_; refine blk_far ?_ NB122_129.out _; exact pk BK122.out)) : gb122 ≠ gb131)); have n14_ := Aside0.mk ((by rw [hg]; exact Nat.ne_of_gt (blk_lt (g := gb122) (o := .cells #[.int .i64 0, .int .i64 0, .int .i64 0, .int .i64 0, .int .i64 0] 43 (0, 0)) (by refine pk ?_; refine blk_far ?_ NB122_130.out _; refine pk ?_; refine blk_far ?_ NB122_130.out _; refine pk ?_; refine blk_far ?_ NB122_129.out _; refine pk ?_; refine blk_far ?_ NB122_129.out _; exact pk BK122.out)) : gb131 ≠ gb122)); have n15_ := Aside0.mk ((by rw [hg]; exact Nat.ne_of_lt (blk_lt (g := gb129) (o := .cells #[.int .i64 t125, .int .i64 t126] 28 (0, 0)) (by refine pk ?_; refine blk_far ?_ NB129_130.out _; refine pk ?_; refine blk_far ?_ NB129_130.out _; refine pk ?_; refine blk_put (cs := #[.int .i64 t125, .int .i64 0]) ?_ 1 _ rfl; refine pk ?_; refine blk_put (cs := #[.int .i64 0, .int .i64 0]) ?_ 0 _ rfl; exact pk BK129.out)) : gb129 ≠ gb131)); have n16_ := Aside0.mk ((by rw [hg]; exact Nat.ne_of_gt (blk_lt (g := gb129) (o := .cells #[.int .i64 t125, .int .i64 t126] 28 (0, 0)) (by refine pk ?_; refine blk_far ?_ NB129_130.out _; refine pk ?_; refine blk_far ?_ NB129_130.out _; refine pk ?_; refine blk_put (cs := #[.int .i64 t125, .int .i64 0]) ?_ 1 _ rfl; refine pk ?_; refine blk_put (cs := #[.int .i64 0, .int .i64 0]) ?_ 0 _ rfl; exact pk BK129.out)) : gb131 ≠ gb129)); have n17_ := Aside0.mk ((by rw [hg]; exact Nat.ne_of_lt (blk_lt (g := gb130) (o := .cells #[.int .i64 t127, .int .i64 t128] 28 (0, 0)) (by refine pk ?_; refine blk_put (cs := #[.int .i64 t127, .int .i64 0]) ?_ 1 _ rfl; refine pk ?_; refine blk_put (cs := #[.int .i64 0, .int .i64 0]) ?_ 0 _ rfl; refine pk ?_; refine blk_far ?_ NB130_129.out _; refine pk ?_; refine blk_far ?_ NB130_129.out _; exact pk BK130.out)) : gb130 ≠ gb131)); have n18_ := Aside0.mk ((by rw [hg]; exact Nat.ne_of_gt (blk_lt (g := gb130) (o := .cells #[.int .i64 t127, .int .i64 t128] 28 (0, 0)) (by refine pk ?_; refine blk_put (cs := #[.int .i64 t127, .int .i64 0]) ?_ 1 _ rfl; refine pk ?_; refine blk_put (cs := #[.int .i64 0, .int .i64 0]) ?_ 0 _ rfl; refine pk ?_; refine blk_far ?_ NB130_129.out _; refine pk ?_; refine blk_far ?_ NB130_129.out _; exact pk BK130.out)) : gb131 ≠ gb130)); clear BK120; clear BK121; clear BK122; clear BK129; clear BK130; clear HB; have BK120 := n0_; have BK121 := n1_; have BK122 := n2_; have BK129 := n3_; have BK130 := n4_; have HB := n5_; have BK131 := n6_; have GW131 := n7_; have GE131 := n8_; have NB120_131 := n9_; have NB131_120 := n10_; have NB121_131 := n11_; have NB131_121 := n12_; have NB122_131 := n13_; have NB131_122 := n14_; have NB129_131 := n15_; have NB131_129 := n16_; have NB130_131 := n17_; have NB131_130 := n18_; clear n0_ n1_ n2_ n3_ n4_ n5_ n6_ n7_ n8_ n9_ n10_ n11_ n12_ n13_ n14_ n15_ n16_ n17_ n18_; clear hb hbox hg; have hnb272 := NB131_120.out; have hnc272 := NB120_131.out; have hnb273 := NB131_121.out; have hnc273 := NB121_131.out; have hnb274 := NB131_122.out; have hnc274 := NB122_131.out; have hnb275 := NB131_129.out; have hnc275 := NB129_131.out; have hnb276 := NB131_130.out; have hnc276 := NB130_131.out; have hcz277_0 : w271.cell? ⟨gb131, 0, none⟩ = some (.int .i64 0) := (blk_cell BK131.out 0).trans rfl; have hcz277_1 : w271.cell? ⟨gb131, 1, none⟩ = some (.int .i64 0) := (blk_cell BK131.out 1).trans rfl; have hcz277_2 : w271.cell? ⟨gb131, 2, none⟩ = some (.int .i64 0) := (blk_cell BK131.out 2).trans rfl; have hcz277_3 : w271.cell? ⟨gb131, 3, none⟩ = some (.int .i64 0) := (blk_cell BK131.out 3).trans rfl; have hcz277_4 : w271.cell? ⟨gb131, 4, none⟩ = some (.int .i64 0) := (blk_cell BK131.out 4).trans rfl; have hfz277_0 := blk_frozen BK131.out 0; have hfz277_1 := blk_frozen BK131.out 1; have hfz277_2 := blk_frozen BK131.out 2; have hfz277_3 := blk_frozen BK131.out 3; have hfz277_4 := blk_frozen BK131.out 4; have hcz278_0 : w271.cell? ⟨gb121, 0, none⟩ = some (.int .i64 a2_0) := (blk_cell BK121.out 0).trans rfl; have hcz278_1 : w271.cell? ⟨gb121, 1, none⟩ = some (.int .i64 a2_1) := (blk_cell BK121.out 1).trans rfl; have hcz278_2 : w271.cell? ⟨gb121, 2, none⟩ = some (.int .i64 a2_2) := (blk_cell BK121.out 2).trans rfl; have hcz278_3 : w271.cell? ⟨gb121, 3, none⟩ = some (.bool a2_3) := (blk_cell BK121.out 3).trans rfl; have hcz278_4 : w271.cell? ⟨gb121, 4, none⟩ = some (.int .i64 a2_4) := (blk_cell BK121.out 4).trans rfl; have hfz278_0 := blk_frozen BK121.out 0; have hfz278_1 := blk_frozen BK121.out 1; have hfz278_2 := blk_frozen BK121.out 2; have hfz278_3 := blk_frozen BK121.out 3; have hfz278_4 := blk_frozen BK121.out 4; have hcz279_0 : w271.cell? ⟨gb122, 0, none⟩ = some (.int .i64 0) := (blk_cell BK122.out 0).trans rfl; have hcz279_1 : w271.cell? ⟨gb122, 1, none⟩ = some (.int .i64 0) := (blk_cell BK122.out 1).trans rfl; have hcz279_2 : w271.cell? ⟨gb122, 2, none⟩ = some (.int .i64 0) := (blk_cell BK122.out 2).trans rfl; have hcz279_3 : w271.cell? ⟨gb122, 3, none⟩ = some (.int .i64 0) := (blk_cell BK122.out 3).trans rfl; have hcz279_4 : w271.cell? ⟨gb122, 4, none⟩ = some (.int .i64 0) := (blk_cell BK122.out 4).trans rfl; have hfz279_0 := blk_frozen BK122.out 0; have hfz279_1 := blk_frozen BK122.out 1; have hfz279_2 := blk_frozen BK122.out 2; have hfz279_3 := blk_frozen BK122.out 3; have hfz279_4 := blk_frozen BK122.out 4))
       refine bodyPost_ret (results_ct rfl _ _ gb122 43 #[.int .i64 0, .int .i64 0, .int .i64 0, .int .i64 0, .int .i64 0] (0, 0) _ rfl (by refine pk ?_; refine blk_put (cs := #[.int .i64 0, .int .i64 0, .int .i64 0, .int .i64 0, .int .i64 0]) ?_ 4 _ rfl; refine pk ?_; refine blk_put (cs := #[.int .i64 0, .int .i64 0, .int .i64 0, .int .i64 0, .int .i64 0]) ?_ 3 _ rfl; refine pk ?_; refine blk_put (cs := #[.int .i64 0, .int .i64 0, .int .i64 0, .int .i64 0, .int .i64 0]) ?_ 2 _ rfl; refine pk ?_; refine blk_put (cs := #[.int .i64 0, .int .i64 0, .int .i64 0, .int .i64 0, .int .i64 0]) ?_ 1 _ rfl; refine pk ?_; refine blk_put (cs := #[.int .i64 0, .int .i64 0, .int .i64 0, .int .i64 0, .int .i64 0]) ?_ 0 _ rfl; refine pk ?_; refine blk_far ?_ NB122_131.out _; refine pk ?_; refine blk_far ?_ NB122_131.out _; refine pk ?_; refine blk_far ?_ NB122_131.out _; refine pk ?_; refine blk_far ?_ NB122_131.out _; refine pk ?_; refine blk_far ?_ NB122_131.out _; exact pk BK122.out) Try.underlying43 rfl (by kernel_rfl)) rfl ?_
       exact ⟨by first | rfl | (simp [errW_none, errW_some] <;> rfl) | (simp [*, errW_none, errW_some] <;> rfl), by repeat with_reducible first | exact HB.out | apply ba | apply bn | apply bd | refine bset ?_ (by assumption)⟩

end Go.Proofs.Ytdcbgmeljakmcaa.MAreaLines
