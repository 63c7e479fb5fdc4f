/- What the Go functions of this law compute, and that they do: written by this session's own program (wip/myprint), for all inputs that the print's conditions name. -/
import Derived.Test.YtdcbgmeljakmcaaMAreaLinesx0
import Derived.Test.YtdcbgmeljakmcaaMAreaLinesx9
import Derived.Test.YtdcbgmeljakmcaaMAreaLinesx11
namespace Go.Proofs.Ytdcbgmeljakmcaa.MAreaLines
open Go.RowKit Go.Proofs.YtdcbgmeljakmcaaW.PrintWords Go.Proofs.YtdcbgmeljakmcaaW.PrintLast Go.Proofs.Ytdcbgmeljakmcaa.Few
attribute [local go_sem] max2_int min2_int max_two min_two
set_option linter.unusedVariables false
set_option linter.unusedSimpArgs false

/-! ### foolscapref25_Visual: function 33 -/
def foolscapref25_Visual.j0 : Nat → List ByteArray → Int → Bool → Int → Int → Int → Int → Option (Int × Int × Int × Int × Int × Bool)
 | 0, _, _, _, _, _, _, _ => none
 | k + 1, x0, x1, x19, x228000, x228001, x229000, x229001 => if x19 = true then (some (0, 0, 0, 0, 0, false)) else ((foolscapref5_Order.f x228000 x228001 x229000 x229001).bind fun bt232 => (if x1 = 3 then (if 0 ≤ bt232.2.2.1 then (if bt232.2.2.1 < (x0.length : Int) then (some (0, bt232.1, bt232.2.1, bt232.2.2.1, mn (wrap64 (bt232.2.2.2 + 1)) ((rdOf ByteArray.empty x0 bt232.2.2.1).size : Int), true)) else (none)) else (none)) else (if x1 = 4 then ((foolscapref25_whole.f bt232.1 bt232.2.2.1).bind fun bt237 => (some (bt237.1, bt237.2.1, bt237.2.2.1, bt237.2.2.2.1, bt237.2.2.2.2, true))) else (if x1 = 5 then (some (2, bt232.1, mn bt232.2.1 bt232.2.2.2, bt232.2.2.1, mx bt232.2.1 bt232.2.2.2, true)) else (some (0, 0, 0, 0, 0, false))))))
def foolscapref25_Visual.f (k : Nat) (l0 : List ByteArray) (a1 : Int) (a2_0 : Int) (a2_1 : Int) (a3_0 : Int) (a3_1 : Int) : Option (Int × Int × Int × Int × Int × Bool) := (foolscapref5_Place.f l0 a2_0 a2_1).bind fun t230 => (if t230 = true then ((foolscapref5_Place.f l0 a3_0 a3_1).bind fun t231 => (foolscapref25_Visual.j0 k l0 a1 (!t231) a2_0 a2_1 a3_0 a3_1)) else (foolscapref25_Visual.j0 k l0 a1 true a2_0 a2_1 a3_0 a3_1))
theorem foolscapref25_Visual.mono_l : ∀ k, (∀ y0 y1 y2 y3 y4 y5 y6, LeO (foolscapref25_Visual.j0 k y0 y1 y2 y3 y4 y5 y6) (foolscapref25_Visual.j0 (k + 1) y0 y1 y2 y3 y4 y5 y6))
 | 0 => fun _ _ _ _ _ _ _ r h => by simp [foolscapref25_Visual.j0] at h
 | k + 1 => by
  have ih0 := foolscapref25_Visual.mono_l k
  ·intro y0 y1 y2 y3 y4 y5 y6
   unfold foolscapref25_Visual.j0
   repeat' first
   | (with_reducible exact ih0 _ _ _ _ _ _ _)
   | (with_reducible exact LeO.refl _)
   | (with_reducible exact LeO.none _)
   | (with_reducible refine LeO.ite ?_ ?_)
   | (with_reducible refine LeO.bind ?_ (fun _ => ?_))
   | exact ih0 _ _ _ _ _ _ _
   | exact LeO.none _
   | refine LeO.ite ?_ ?_
   | refine LeO.bind ?_ (fun _ => ?_)
theorem foolscapref25_Visual.mono : ∀ a0 a1 a2 a3 a4 a5 k, LeO (foolscapref25_Visual.f k a0 a1 a2 a3 a4 a5) (foolscapref25_Visual.f (k + 1) a0 a1 a2 a3 a4 a5) := by
 intro a0 a1 a2 a3 a4 a5 k
 have ih0 := foolscapref25_Visual.mono_l k
 unfold foolscapref25_Visual.f
 repeat' first
   | (with_reducible exact ih0 _ _ _ _ _ _ _)
   | (with_reducible exact LeO.refl _)
   | (with_reducible exact LeO.none _)
   | (with_reducible refine LeO.ite ?_ ?_)
   | (with_reducible refine LeO.bind ?_ (fun _ => ?_))
   | exact ih0 _ _ _ _ _ _ _
   | exact LeO.none _
   | refine LeO.ite ?_ ?_
   | refine LeO.bind ?_ (fun _ => ?_)
def foolscapref25_Visual.T6 : Bool × List (List Nat × List Nat) := (true, [([], []), ([0], [0]), ([1], [1]), ([], []), ([], []), ([4], [4]), ([3, 5], [3, 5]), ([6], [6]), ([7], [7]), ([2, 8], [2, 8]), ([0, 1, 2, 3, 4, 5, 6, 7, 8, 9], []), ([10, 9, 0, 1, 2, 3, 4, 5, 6, 7, 8, 9], [9, 10])])
def foolscapref25_Visual.B6 : List Nat := [0, 1, 3, 0, 0, 16, 56, 120, 248, 511, 1023, 2047]
theorem foolscapref25_Visual.tab6 : rtab .any (opsOf Try.f33 6) = foolscapref25_Visual.T6 := by kernel_rfl
theorem foolscapref25_Visual.bits6 : waitsOk foolscapref25_Visual.T6.2 foolscapref25_Visual.B6 = true := by kernel_rfl
set_option maxHeartbeats 8000000 in
set_option maxRecDepth 100000 in
theorem foolscapref25_Visual.calls (k : Nat) (A0 : Option Addr) (c0 : Nat) (l0 : List ByteArray) (a1 : Int) (a2_0 : Int) (a2_1 : Int) (a3_0 : Int) (a3_1 : Int) (r1 : Int) (r2 : Int) (r3 : Int) (r4 : Int) (r5 : Int) (r6 : Bool) (w : World) (hr0 : Kd.C Kd.string w A0 l0.length l0) (hc0 : l0.length ≤ c0) (h : foolscapref25_Visual.f k l0 a1 a2_0 a2_1 a3_0 a3_1 = some (r1, r2, r3, r4, r5, r6)) :
  Calls Try.prog 33 #[.slice A0 l0.length c0, .int .i64 a1, .agg #[.int .i64 a2_0, .int .i64 a2_1], .agg #[.int .i64 a3_0, .int .i64 a3_1]] w fun e w' => e = .returned (.tuple #[.agg #[.int .i64 r1, .int .i64 r2, .int .i64 r3, .int .i64 r4, .int .i64 r5], .bool r6]) ∧ Below w.heap.size w w' := by
 have hu28 := Try.underlying28
 have hu43 := Try.underlying43
 have HR0 := Aside0.mk hr0
 have HC0 := Aside0.mk hc0
 clear hr0 hc0
 have HB := Aside0.mk (Below.refl w.heap.size w)
 have H : ((foolscapref5_Place.f l0 a2_0 a2_1).bind fun t230 => (if t230 = true then ((foolscapref5_Place.f l0 a3_0 a3_1).bind fun t231 => (foolscapref25_Visual.j0 k l0 a1 (!t231) a2_0 a2_1 a3_0 a3_1)) else (foolscapref25_Visual.j0 k l0 a1 true a2_0 a2_1 a3_0 a3_1))) = some (r1, r2, r3, r4, r5, r6) := h
 clear h
 have HC5 := Aside0.mk H
 clear H
 go_enter Try.func33, Try.ntmps33
 go_upto_region 1 with (first | ((with_reducible refine gate_dst (N := 6) rfl ?_); refine box_event ?hg (N := 6) ?hd (cs := #[.int .i64 a2_0, .int .i64 a2_1]) (t := 28) ?hr ?_; (case hd => rfl); (case hg => rfl); (case hr => first | (go_simp; done) | (go_simp; rfl)); intro gb227 hg w6 hbox hb; have n0_ := Aside0.mk (below_step (by repeat with_reducible first | exact HB.out | apply ba | apply bn | apply bd) hb); have n1_ := Aside0.mk (hbox); have n2_ := Aside0.mk ((by rw [hg]; exact (below_size (by repeat with_reducible first | exact HB.out | apply ba | apply bn | apply bd)) : w.heap.size ≤ gb227)); have n3_ := n2_; clear HB; have HB := n0_; have BK227 := n1_; have GW227 := n2_; have GE227 := n3_; clear n0_ n1_ n2_ n3_; clear hb hbox hg) | ((with_reducible refine gate_dst (N := 7) rfl ?_); refine box_event ?hg (N := 7) ?hd (cs := #[.int .i64 a3_0, .int .i64 a3_1]) (t := 28) ?hr ?_; (case hd => rfl); (case hg => rfl); (case hr => first | (go_simp; done) | (go_simp; rfl)); intro gb228 hg w7 hbox hb; have n0_ := Aside0.mk (blk_below (pk BK227.out) hb); have n1_ := Aside0.mk (below_step (by repeat with_reducible first | exact HB.out | apply ba | apply bn | apply bd | refine bset ?_ (by assumption)) hb); have n2_ := Aside0.mk (hbox); have n3_ := Aside0.mk ((by rw [hg]; exact (below_size (by repeat with_reducible first | exact HB.out | apply ba | apply bn | apply bd | refine bset ?_ (by assumption))) : w.heap.size ≤ gb228)); have n4_ := n3_; have n5_ := Aside0.mk ((by rw [hg]; exact Nat.ne_of_lt (blk_lt (pk BK227.out)) : gb227 ≠ gb228)); have n6_ := Aside0.mk ((by rw [hg]; exact Nat.ne_of_gt (blk_lt (pk BK227.out)) : gb228 ≠ gb227)); clear BK227; clear HB; have BK227 := n0_; have HB := n1_; have BK228 := n2_; have GW228 := n3_; have GE228 := n4_; have NB227_228 := n5_; have NB228_227 := n6_; clear n0_ n1_ n2_ n3_ n4_ n5_ n6_; clear hb hbox hg) | ((with_reducible refine gate_dst (N := 8) rfl ?_); refine box_event ?hg (N := 8) ?hd (cs := #[.int .i64 0, .int .i64 0, .int .i64 0, .int .i64 0, .int .i64 0]) (t := 43) ?hr ?_; (case hd => rfl); (case hg => rfl); (case hr => first | (go_simp; done) | (go_simp; rfl)); intro gb229 hg w8 hbox hb; have n0_ := Aside0.mk (blk_below (pk BK227.out) hb); have n1_ := Aside0.mk (blk_below (pk BK228.out) hb); have n2_ := Aside0.mk (below_step (by repeat with_reducible first | exact HB.out | apply ba | apply bn | apply bd | refine bset ?_ (by assumption)) hb); have n3_ := Aside0.mk (hbox); have n4_ := Aside0.mk ((by rw [hg]; exact (below_size (by repeat with_reducible first | exact HB.out | apply ba | apply bn | apply bd | refine bset ?_ (by assumption))) : w.heap.size ≤ gb229)); have n5_ := n4_; have n6_ := Aside0.mk ((by rw [hg]; exact Nat.ne_of_lt (blk_lt (pk BK227.out)) : gb227 ≠ gb229)); have n7_ := Aside0.mk ((by rw [hg]; exact Nat.ne_of_gt (blk_lt (pk BK227.out)) : gb229 ≠ gb227)); have n8_ := Aside0.mk ((by rw [hg]; exact Nat.ne_of_lt (blk_lt (pk BK228.out)) : gb228 ≠ gb229)); have n9_ := Aside0.mk ((by rw [hg]; exact Nat.ne_of_gt (blk_lt (pk BK228.out)) : gb229 ≠ gb228)); clear BK227; clear BK228; clear HB; have BK227 := n0_; have BK228 := n1_; have HB := n2_; have BK229 := n3_; have GW229 := n4_; have GE229 := n5_; have NB227_229 := n6_; have NB229_227 := n7_; have NB228_229 := n8_; have NB229_228 := n9_; clear n0_ n1_ n2_ n3_ n4_ n5_ n6_ n7_ n8_ n9_; clear hb hbox hg))
 (try simp only [Act.put, List.setIfInBounds_toArray, List.set_cons_zero, List.set_cons_succ])
 go_cut [19] (fun v19 wc => ∃ (kq : Nat) (x19_4 : Bool), v19 = .bool x19_4 ∧ Aside0 (foolscapref25_Visual.j0 kq l0 a1 x19_4 a2_0 a2_1 a3_0 a3_1 = some (r1, r2, r3, r4, r5, r6)) ∧ Aside0 (kq ≤ k) ∧ Aside0 (wc.heap[gb227]? = some (.cells #[.int .i64 a2_0, .int .i64 a2_1] 28 (0, 0))) ∧ Aside0 (wc.heap[gb228]? = some (.cells #[.int .i64 a3_0, .int .i64 a3_1] 28 (0, 0))) ∧ Aside0 (wc.heap[gb229]? = some (.cells #[.int .i64 0, .int .i64 0, .int .i64 0, .int .i64 0, .int .i64 0] 43 (0, 0))) ∧ Aside0 (Below w.heap.size w wc))
 case first =>
  have H := HC5.out
  clear HC5
  replace H := Option.bind_eq_some_iff.mp H
  obtain ⟨t230, A90, H⟩ := H
  replace H : (if t230 = true then ((foolscapref5_Place.f l0 a3_0 a3_1).bind fun t231 => (foolscapref25_Visual.j0 k l0 a1 (!t231) a2_0 a2_1 a3_0 a3_1)) else (foolscapref25_Visual.j0 k l0 a1 true a2_0 a2_1 a3_0 a3_1)) = some (r1, r2, r3, r4, r5, r6) := H
  have A9 := Aside0.mk A90
  clear A90
  by_cases c10 : t230 = true
  ·subst c10
   have H1 : ((foolscapref5_Place.f l0 a3_0 a3_1).bind fun t231 => (foolscapref25_Visual.j0 k l0 a1 (!t231) a2_0 a2_1 a3_0 a3_1)) = some (r1, r2, r3, r4, r5, r6) := by rw [if_pos rfl] at H; exact H
   clear H
   have H := H1
   clear H1
   replace H := Option.bind_eq_some_iff.mp H
   obtain ⟨t231, A110, H⟩ := H
   replace H : (foolscapref25_Visual.j0 k l0 a1 (!t231) a2_0 a2_1 a3_0 a3_1) = some (r1, r2, r3, r4, r5, r6) := H
   have A11 := Aside0.mk A110
   clear A110
   have H' := Aside0.mk H
   clear H
   have hnb12 := NB227_228.out
   have hnc12 := NB228_227.out
   have hnb13 := NB227_229.out
   have hnc13 := NB229_227.out
   have hcz14_0 : w8.cell? ⟨gb227, 0, none⟩ = some (.int .i64 a2_0) := (blk_cell BK227.out 0).trans rfl
   have hcz14_1 : w8.cell? ⟨gb227, 1, none⟩ = some (.int .i64 a2_1) := (blk_cell BK227.out 1).trans rfl
   have hfz14_0 := blk_frozen BK227.out 0
   have hfz14_1 := blk_frozen BK227.out 1
   go_wp2_with (first | ((with_reducible refine gate_callee (f := 39) rfl ?_); refine goesL_ (some 12) rfl rfl Try.func39 (by kernel_rfl) rfl #[.slice A0 l0.length c0, .agg #[.int .i64 a2_0, .int .i64 a2_1]] rfl (by first | rfl | (simp only [List.map_toArray, List.map_cons, List.map_nil] <;> rfl)) ?_; (with_reducible refine (foolscapref5_Place.calls _ _ l0 a2_0 a2_1 true _ ?side1 ?side2 A9.out).mono ?_); (case side1 => repeat (first | exact (Kd.C_below HR0.out HB.out) | (with_reducible refine Kd.C_alloc ?_ _) | (with_reducible refine Kd.C_drewN ?_ _) | (with_reducible refine Kd.C_drew ?_))); (case side2 => exact HC0.out); rintro e w15 ⟨rfl, hb⟩; refine ⟨_, rfl, ?_⟩; have n0_ := Aside0.mk (blk_below (pk BK227.out) hb); have n1_ := Aside0.mk (blk_below (pk BK228.out) hb); have n2_ := Aside0.mk (blk_below (pk BK229.out) hb); have n3_ := Aside0.mk (below_step (by repeat with_reducible first | exact HB.out | apply ba | apply bn | apply bd | refine bset ?_ (by assumption)) hb); clear BK227; clear BK228; clear BK229; clear HB; have BK227 := n0_; have BK228 := n1_; have BK229 := n2_; have HB := n3_; clear n0_ n1_ n2_ n3_; (try clear hb); (try clear hb2); (try clear hk); (try clear hi); have hnb16 := NB228_229.out; have hnc16 := NB229_228.out; have hcz17_0 : w15.cell? ⟨gb228, 0, none⟩ = some (.int .i64 a3_0) := (blk_cell BK228.out 0).trans rfl; have hcz17_1 : w15.cell? ⟨gb228, 1, none⟩ = some (.int .i64 a3_1) := (blk_cell BK228.out 1).trans rfl; have hfz17_0 := blk_frozen BK228.out 0; have hfz17_1 := blk_frozen BK228.out 1) | (go_at_call 39; (with_reducible refine (foolscapref5_Place.calls _ _ l0 a3_0 a3_1 t231 _ ?side1 ?side2 A11.out).mono ?_); (case side1 => repeat (first | exact (Kd.C_below HR0.out HB.out) | (with_reducible refine Kd.C_alloc ?_ _) | (with_reducible refine Kd.C_drewN ?_ _) | (with_reducible refine Kd.C_drew ?_))); (case side2 => exact HC0.out); rintro e w18 ⟨rfl, hb⟩; have n0_ := Aside0.mk (blk_below (pk BK227.out) hb); have n1_ := Aside0.mk (blk_below (pk BK228.out) hb); have n2_ := Aside0.mk (blk_below (pk BK229.out) hb); have n3_ := Aside0.mk (below_step (by repeat with_reducible first | exact HB.out | apply ba | apply bn | apply bd | refine bset ?_ (by assumption)) hb); clear BK227; clear BK228; clear BK229; clear HB; have BK227 := n0_; have BK228 := n1_; have BK229 := n2_; have HB := n3_; clear n0_ n1_ n2_ n3_; (try clear hb); (try clear hb2); (try clear hk); (try clear hi)))
   go_meet
   case rel => exact ⟨_, (!t231), (by first | rfl | (simp; done) | (simp [*]; done)), H', ⟨by first | omega | exact Nat.le_refl _⟩, ⟨by exact pk BK227.out⟩, ⟨by exact pk BK228.out⟩, ⟨by exact pk BK229.out⟩, ⟨by repeat with_reducible first | exact HB.out | apply ba | apply bn | apply bd | refine bset ?_ (by assumption)⟩⟩
  ·replace c10 := Bool.eq_false_iff.mpr c10
   subst c10
   have H1 : (foolscapref25_Visual.j0 k l0 a1 true a2_0 a2_1 a3_0 a3_1) = some (r1, r2, r3, r4, r5, r6) := by rw [if_neg (show ¬ (false = true) by decide)] at H; exact H
   clear H
   have H := H1
   clear H1
   have H' := Aside0.mk H
   clear H
   have hnb19 := NB227_228.out
   have hnc19 := NB228_227.out
   have hnb20 := NB227_229.out
   have hnc20 := NB229_227.out
   have hcz21_0 : w8.cell? ⟨gb227, 0, none⟩ = some (.int .i64 a2_0) := (blk_cell BK227.out 0).trans rfl
   have hcz21_1 : w8.cell? ⟨gb227, 1, none⟩ = some (.int .i64 a2_1) := (blk_cell BK227.out 1).trans rfl
   have hfz21_0 := blk_frozen BK227.out 0
   have hfz21_1 := blk_frozen BK227.out 1
   go_wp2_with (first | ((with_reducible refine gate_callee (f := 39) rfl ?_); refine goesL_ (some 12) rfl rfl Try.func39 (by kernel_rfl) rfl #[.slice A0 l0.length c0, .agg #[.int .i64 a2_0, .int .i64 a2_1]] rfl (by first | rfl | (simp only [List.map_toArray, List.map_cons, List.map_nil] <;> rfl)) ?_; (with_reducible refine (foolscapref5_Place.calls _ _ l0 a2_0 a2_1 false _ ?side1 ?side2 A9.out).mono ?_); (case side1 => repeat (first | exact (Kd.C_below HR0.out HB.out) | (with_reducible refine Kd.C_alloc ?_ _) | (with_reducible refine Kd.C_drewN ?_ _) | (with_reducible refine Kd.C_drew ?_))); (case side2 => exact HC0.out); rintro e w22 ⟨rfl, hb⟩; refine ⟨_, rfl, ?_⟩; have n0_ := Aside0.mk (blk_below (pk BK227.out) hb); have n1_ := Aside0.mk (blk_below (pk BK228.out) hb); have n2_ := Aside0.mk (blk_below (pk BK229.out) hb); have n3_ := Aside0.mk (below_step (by repeat with_reducible first | exact HB.out | apply ba | apply bn | apply bd | refine bset ?_ (by assumption)) hb); clear BK227; clear BK228; clear BK229; clear HB; have BK227 := n0_; have BK228 := n1_; have BK229 := n2_; have HB := n3_; clear n0_ n1_ n2_ n3_; (try clear hb); (try clear hb2); (try clear hk); (try clear hi)))
   go_meet
   case rel => exact ⟨_, (true), (by first | rfl | (simp; done) | (simp [*]; done)), H', ⟨by first | omega | exact Nat.le_refl _⟩, ⟨by exact pk BK227.out⟩, ⟨by exact pk BK228.out⟩, ⟨by exact pk BK229.out⟩, ⟨by repeat with_reducible first | exact HB.out | apply ba | apply bn | apply bd | refine bset ?_ (by assumption)⟩⟩
 case rest =>
  clear HC5
  try clear c1
  try clear c2
  try clear p2
  try clear c3
  try clear c10
  try clear c12
  try clear c13
  try clear c16
  try clear c19
  try clear c20
  try clear hcz14_0
  try clear hcz14_1
  try clear hcz17_0
  try clear hcz17_1
  try clear hcz21_0
  try clear hcz21_1
  try clear hfz14_0
  try clear hfz14_1
  try clear hfz17_0
  try clear hfz17_1
  try clear hfz21_0
  try clear hfz21_1
  obtain ⟨kq, x19_4, rfl, HA, HJ4, BK227, BK228, BK229, HB⟩ := hcut
  cases kq with
  | zero => exact absurd HA.out (by simp [foolscapref25_Visual.j0])
  | succ kj4 =>
   have H := HA.out
   clear HA
   simp only [foolscapref25_Visual.j0] at H
   by_cases c23 : x19_4 = true
   ·subst c23
    have H1 : (some (0, 0, 0, 0, 0, false)) = some (r1, r2, r3, r4, r5, r6) := by rw [if_pos rfl] at H; exact H
    clear H
    have H := H1
    clear H1
    simp only [Option.some.injEq, Prod.mk.injEq] at H
    obtain ⟨rfl, rfl, rfl, rfl, rfl, rfl⟩ := H
    have hnb24 := NB229_227.out
    have hnc24 := NB227_229.out
    have hnb25 := NB229_228.out
    have hnc25 := NB228_229.out
    have hcz26_0 : wc.cell? ⟨gb229, 0, none⟩ = some (.int .i64 0) := (blk_cell BK229.out 0).trans rfl
    have hcz26_1 : wc.cell? ⟨gb229, 1, none⟩ = some (.int .i64 0) := (blk_cell BK229.out 1).trans rfl
    have hcz26_2 : wc.cell? ⟨gb229, 2, none⟩ = some (.int .i64 0) := (blk_cell BK229.out 2).trans rfl
    have hcz26_3 : wc.cell? ⟨gb229, 3, none⟩ = some (.int .i64 0) := (blk_cell BK229.out 3).trans rfl
    have hcz26_4 : wc.cell? ⟨gb229, 4, none⟩ = some (.int .i64 0) := (blk_cell BK229.out 4).trans rfl
    have hfz26_0 := blk_frozen BK229.out 0
    have hfz26_1 := blk_frozen BK229.out 1
    have hfz26_2 := blk_frozen BK229.out 2
    have hfz26_3 := blk_frozen BK229.out 3
    have hfz26_4 := blk_frozen BK229.out 4
    go_wp2
    refine bodyPost_ret (results_ct rfl _ _ gb229 43 #[.int .i64 0, .int .i64 0, .int .i64 0, .int .i64 0, .int .i64 0] (0, 0) _ rfl (by refine pk ?_; refine blk_put (cs := #[.int .i64 0, .int .i64 0, .int .i64 0, .int .i64 0, .int .i64 0]) ?_ 4 _ rfl; refine pk ?_; refine blk_put (cs := #[.int .i64 0, .int .i64 0, .int .i64 0, .int .i64 0, .int .i64 0]) ?_ 3 _ rfl; refine pk ?_; refine blk_put (cs := #[.int .i64 0, .int .i64 0, .int .i64 0, .int .i64 0, .int .i64 0]) ?_ 2 _ rfl; refine pk ?_; refine blk_put (cs := #[.int .i64 0, .int .i64 0, .int .i64 0, .int .i64 0, .int .i64 0]) ?_ 1 _ rfl; refine pk ?_; refine blk_put (cs := #[.int .i64 0, .int .i64 0, .int .i64 0, .int .i64 0, .int .i64 0]) ?_ 0 _ rfl; exact pk BK229.out) Try.underlying43 rfl (by kernel_rfl)) rfl ?_
    exact ⟨by first | rfl | (simp [errW_none, errW_some] <;> rfl) | (simp [*, errW_none, errW_some] <;> rfl), by repeat with_reducible first | exact HB.out | apply ba | apply bn | apply bd | refine bset ?_ (by assumption)⟩
   ·replace c23 := Bool.eq_false_iff.mpr c23
    subst c23
    have H1 : ((foolscapref5_Order.f a2_0 a2_1 a3_0 a3_1).bind fun bt232 => (if a1 = 3 then (if 0 ≤ bt232.2.2.1 then (if bt232.2.2.1 < (l0.length : Int) then (some (0, bt232.1, bt232.2.1, bt232.2.2.1, mn (wrap64 (bt232.2.2.2 + 1)) ((rdOf ByteArray.empty l0 bt232.2.2.1).size : Int), true)) else (none)) else (none)) else (if a1 = 4 then ((foolscapref25_whole.f bt232.1 bt232.2.2.1).bind fun bt237 => (some (bt237.1, bt237.2.1, bt237.2.2.1, bt237.2.2.2.1, bt237.2.2.2.2, true))) else (if a1 = 5 then (some (2, bt232.1, mn bt232.2.1 bt232.2.2.2, bt232.2.2.1, mx bt232.2.1 bt232.2.2.2, true)) else (some (0, 0, 0, 0, 0, false)))))) = some (r1, r2, r3, r4, r5, r6) := by rw [if_neg (show ¬ (false = true) by decide)] at H; exact H
    clear H
    have H := H1
    clear H1
    replace H := Option.bind_eq_some_iff.mp H
    obtain ⟨⟨t232, t233, t234, t235⟩, A270, H⟩ := H
    replace H : (if a1 = 3 then (if 0 ≤ t234 then (if t234 < (l0.length : Int) then (some (0, t232, t233, t234, mn (wrap64 (t235 + 1)) ((rdOf ByteArray.empty l0 t234).size : Int), true)) else (none)) else (none)) else (if a1 = 4 then ((foolscapref25_whole.f t232 t234).bind fun bt237 => (some (bt237.1, bt237.2.1, bt237.2.2.1, bt237.2.2.2.1, bt237.2.2.2.2, true))) else (if a1 = 5 then (some (2, t232, mn t233 t235, t234, mx t233 t235, true)) else (some (0, 0, 0, 0, 0, false))))) = some (r1, r2, r3, r4, r5, r6) := H
    have A27 := Aside0.mk A270
    clear A270
    by_cases c28 : a1 = 3
    ·rw [if_pos c28] at H
     have c28b0 : (a1 == 3) = true := beq_iff_eq.mpr c28
     have c28b1 : (a1 != 3) = false := bne_eq_false_iff_eq.mpr c28
     clear c28
     by_cases c29 : 0 ≤ t234
     ·rw [if_pos c29] at H
      have c29b0 : decide (0 ≤ t234) = true := decide_eq_true c29
      clear c29
      by_cases c30 : t234 < (l0.length : Int)
      ·rw [if_pos c30] at H
       have c30b0 : decide (t234 < (l0.length : Int)) = true := decide_eq_true c30
       clear c30
       obtain ⟨ji31, hji31⟩ : ∃ j_ : Int, (mn (wrap64 (t235 + 1)) ((rdOf ByteArray.empty l0 t234).size : Int)) = j_ := ⟨_, rfl⟩
       replace H : (some (0, t232, t233, t234, ji31, true)) = some (r1, r2, r3, r4, r5, r6) := by first | (rw [hji31] at H; exact H) | (simp only [hji31] at H ⊢; exact H)
       (try rw [hji31] at A27)
       have hji31_ : (if ((rdOf ByteArray.empty l0 t234).size : Int) < (wrap64 (t235 + 1)) then ((rdOf ByteArray.empty l0 t234).size : Int) else (wrap64 (t235 + 1))) = ji31 := hji31
       simp only [Option.some.injEq, Prod.mk.injEq] at H
       obtain ⟨rfl, rfl, rfl, rfl, rfl, rfl⟩ := H
       have hnb32 := NB227_228.out
       have hnc32 := NB228_227.out
       have hnb33 := NB227_229.out
       have hnc33 := NB229_227.out
       have hcz34_0 : wc.cell? ⟨gb227, 0, none⟩ = some (.int .i64 a2_0) := (blk_cell BK227.out 0).trans rfl
       have hcz34_1 : wc.cell? ⟨gb227, 1, none⟩ = some (.int .i64 a2_1) := (blk_cell BK227.out 1).trans rfl
       have hfz34_0 := blk_frozen BK227.out 0
       have hfz34_1 := blk_frozen BK227.out 1
       have hnb35 := NB228_229.out
       have hnc35 := NB229_228.out
       have hcz36_0 : wc.cell? ⟨gb228, 0, none⟩ = some (.int .i64 a3_0) := (blk_cell BK228.out 0).trans rfl
       have hcz36_1 : wc.cell? ⟨gb228, 1, none⟩ = some (.int .i64 a3_1) := (blk_cell BK228.out 1).trans rfl
       have hfz36_0 := blk_frozen BK228.out 0
       have hfz36_1 := blk_frozen BK228.out 1
       try go_wp2_with (first | ((with_reducible refine gate_callee (f := 40) rfl ?_); refine goesL_ (some 24) rfl rfl Try.func40 (by kernel_rfl) rfl #[.agg #[.int .i64 a2_0, .int .i64 a2_1], .agg #[.int .i64 a3_0, .int .i64 a3_1]] rfl (by first | rfl | (simp only [List.map_toArray, List.map_cons, List.map_nil] <;> rfl)) ?_; (with_reducible refine (foolscapref5_Order.calls a2_0 a2_1 a3_0 a3_1 t232 t233 t234 t235 _ A27.out).mono ?_); rintro e w37 ⟨rfl, hb⟩; refine ⟨_, rfl, ?_⟩; have n0_ := Aside0.mk (blk_below (pk BK227.out) hb); have n1_ := Aside0.mk (blk_below (pk BK228.out) hb); have n2_ := Aside0.mk (blk_below (pk BK229.out) hb); have n3_ := Aside0.mk (below_step (by repeat with_reducible first | exact HB.out | apply ba | apply bn | apply bd | refine bset ?_ (by assumption)) hb); clear BK227; clear BK228; clear BK229; clear HB; have BK227 := n0_; have BK228 := n1_; have BK229 := n2_; have HB := n3_; clear n0_ n1_ n2_ n3_; (try clear hb); (try clear hb2); (try clear hk); (try clear hi); have hcz38_0 : w37.cell? ⟨gb227, 0, none⟩ = some (.int .i64 a2_0) := (blk_cell BK227.out 0).trans rfl; have hcz38_1 : w37.cell? ⟨gb227, 1, none⟩ = some (.int .i64 a2_1) := (blk_cell BK227.out 1).trans rfl; have hfz38_0 := blk_frozen BK227.out 0; have hfz38_1 := blk_frozen BK227.out 1; have hcz39_0 : w37.cell? ⟨gb228, 0, none⟩ = some (.int .i64 a3_0) := (blk_cell BK228.out 0).trans rfl; have hcz39_1 : w37.cell? ⟨gb228, 1, none⟩ = some (.int .i64 a3_1) := (blk_cell BK228.out 1).trans rfl; have hfz39_0 := blk_frozen BK228.out 0; have hfz39_1 := blk_frozen BK228.out 1))
       have n0_ : Aside0 (((((w37.setCell ⟨gb227, 0, none⟩ (.int .i64 t232)).setCell ⟨gb227, 1, none⟩ (.int .i64 t233)).setCell ⟨gb228, 0, none⟩ (.int .i64 t234)).setCell ⟨gb228, 1, none⟩ (.int .i64 t235)).heap[gb227]? = some (.cells #[.int .i64 t232, .int .i64 t233] 28 (0, 0))) := ⟨by refine pk ?_; refine blk_far ?_ NB227_228.out _; refine pk ?_; refine blk_far ?_ NB227_228.out _; refine pk ?_; refine blk_put (cs := #[.int .i64 t232, .int .i64 a2_1]) ?_ 1 _ rfl; refine pk ?_; refine blk_put (cs := #[.int .i64 a2_0, .int .i64 a2_1]) ?_ 0 _ rfl; exact pk BK227.out⟩
       have n1_ : Aside0 (((((w37.setCell ⟨gb227, 0, none⟩ (.int .i64 t232)).setCell ⟨gb227, 1, none⟩ (.int .i64 t233)).setCell ⟨gb228, 0, none⟩ (.int .i64 t234)).setCell ⟨gb228, 1, none⟩ (.int .i64 t235)).heap[gb228]? = some (.cells #[.int .i64 t234, .int .i64 t235] 28 (0, 0))) := ⟨by refine pk ?_; refine blk_put (cs := #[.int .i64 t234, .int .i64 a3_1]) ?_ 1 _ rfl; refine pk ?_; refine blk_put (cs := #[.int .i64 a3_0, .int .i64 a3_1]) ?_ 0 _ rfl; refine pk ?_; refine blk_far ?_ NB228_227.out _; refine pk ?_; refine blk_far ?_ NB228_227.out _; exact pk BK228.out⟩
       have n2_ : Aside0 (((((w37.setCell ⟨gb227, 0, none⟩ (.int .i64 t232)).setCell ⟨gb227, 1, none⟩ (.int .i64 t233)).setCell ⟨gb228, 0, none⟩ (.int .i64 t234)).setCell ⟨gb228, 1, none⟩ (.int .i64 t235)).heap[gb229]? = some (.cells #[.int .i64 0, .int .i64 0, .int .i64 0, .int .i64 0, .int .i64 0] 43 (0, 0))) := ⟨by refine pk ?_; refine blk_far ?_ NB229_228.out _; refine pk ?_; refine blk_far ?_ NB229_228.out _; refine pk ?_; refine blk_far ?_ NB229_227.out _; refine pk ?_; refine blk_far ?_ NB229_227.out _; exact pk BK229.out⟩
       have n3_ : Aside0 (Below w.heap.size w ((((w37.setCell ⟨gb227, 0, none⟩ (.int .i64 t232)).setCell ⟨gb227, 1, none⟩ (.int .i64 t233)).setCell ⟨gb228, 0, none⟩ (.int .i64 t234)).setCell ⟨gb228, 1, none⟩ (.int .i64 t235))) := ⟨by repeat with_reducible first | exact HB.out | apply ba | apply bn | apply bd | refine bset ?_ (by assumption)⟩
       (try clear BK227)
       (try clear BK228)
       (try clear BK229)
       (try clear HB)
       generalize ((((w37.setCell ⟨gb227, 0, none⟩ (.int .i64 t232)).setCell ⟨gb227, 1, none⟩ (.int .i64 t233)).setCell ⟨gb228, 0, none⟩ (.int .i64 t234)).setCell ⟨gb228, 1, none⟩ (.int .i64 t235)) = w40 at n0_ n1_ n2_ n3_ ⊢
       have BK227 := n0_
       have BK228 := n1_
       have BK229 := n2_
       have HB := n3_
       clear n0_ n1_ n2_ n3_
       have n0_ := Aside0.mk (blk_drew BK227.out)
       have n1_ := Aside0.mk (blk_drew BK228.out)
       have n2_ := Aside0.mk (blk_drew BK229.out)
       have n3_ := Aside0.mk (below_drew1 HB.out)
       clear BK227
       clear BK228
       clear BK229
       clear HB
       have BK227 := n0_
       have BK228 := n1_
       have BK229 := n2_
       have HB := n3_
       clear n0_ n1_ n2_ n3_
       have p236 : 0 ≤ (t234 : Int) := of_decide_eq_true (by first | (with_reducible assumption) | assumption)
       have q236 : t234 < (l0.length : Int) := of_decide_eq_true (by first | (with_reducible assumption) | assumption)
       obtain ⟨ad236, e236, hx236_0⟩ := Kd.at_string HR0.out t234 p236 q236
       have hw236_0 := hx236_0
       cases e236
       replace hx236_0 := (HB.out.cell (World.block_lt_of_cell? w _ hx236_0)).trans hx236_0
       replace p236 := eq_true p236
       replace q236 := eq_true q236
       refine start_ (n := 12) (S := fun w' => w'.cell? ⟨gb228, 0, none⟩ = some (.int .i64 t234) ∧ w'.cell? ⟨gb228, 1, none⟩ = some (.int .i64 t235) ∧ w'.cell? (ad236.add (t234).toNat) = some (.string (rdOf ByteArray.empty l0 t234))) (ds := [11]) #[false, false, false, false, false, false, false, false, false, false, false, false] (by kernel_rfl) rfl rfl ⟨(blk_cell BK228.out 0).trans rfl, (blk_cell BK228.out 1).trans rfl, ((HB.out.cell (World.block_lt_of_cell? w _ hw236_0)).trans hw236_0)⟩ (fun hHeld => ?_); refine with_tabW foolscapref25_Visual.tab6 foolscapref25_Visual.bits6 (fun HT_ HW_ => ?_)
       generalize w40.drew = w41 at BK227 BK228 BK229 HB hx236_0 hHeld ⊢
       refine pure_ (i := 0) (N := some 30) (v := ?_) (a' := ?_) #[true, false, false, false, false, false, false, false, false, false, false, false] rfl rfl (any_of HT_.out (by kernel_rfl)) (fun _ _ _ h => h) (Or.inl ⟨by rfl, ?_⟩) ?_ ?_
       rotate_left
       ·intro w'
        go_simp
        with_reducible rfl
       rotate_left
       ·simp only [Act.put, List.setIfInBounds_toArray, List.set_cons_zero, List.set_cons_succ, i64_w, i32_w]
        rfl
       refine pure_ (i := 3) (N := some 33) (v := ?_) (a' := ?_) #[true, false, false, true, false, false, false, false, false, false, false, false] rfl rfl (any_of HT_.out (by kernel_rfl)) (fun _ _ _ h => h) (Or.inl ⟨by rfl, ?_⟩) ?_ ?_
       rotate_left
       ·intro w'
        go_simp
        with_reducible rfl
       rotate_left
       ·simp only [Act.put, List.setIfInBounds_toArray, List.set_cons_zero, List.set_cons_succ, i64_w, i32_w]
        rfl
       refine pure_ (i := 4) (N := some 34) (v := ?_) (a' := ?_) #[true, false, false, true, true, false, false, false, false, false, false, false] rfl rfl (any_of HT_.out (by kernel_rfl)) (fun _ _ _ h => h) (Or.inl ⟨by rfl, ?_⟩) ?_ ?_
       rotate_left
       ·intro w'
        go_simp
        with_reducible rfl
       rotate_left
       ·simp only [Act.put, List.setIfInBounds_toArray, List.set_cons_zero, List.set_cons_succ, i64_w, i32_w]
        rfl
       refine take_ (i := 1) (N := some 31) (v := ?_) (a' := ?_) #[true, true, false, true, true, false, false, false, false, false, false, false] rfl rfl (take_ofW HT_.out HW_.out (by kernel_rfl)) (fun _ _ _ h => h) (Or.inl ⟨by rfl, ?_⟩) hHeld ?_ ?_
       rotate_left
       ·rintro w' ⟨s0, s1, s2⟩
        go_simp
        with_reducible rfl
       rotate_left
       ·simp only [Act.put, List.setIfInBounds_toArray, List.set_cons_zero, List.set_cons_succ, i64_w, i32_w]
        rfl
       refine pure_ (i := 2) (N := some 32) (v := ?_) (a' := ?_) #[true, true, true, true, true, false, false, false, false, false, false, false] rfl rfl (any_of HT_.out (by kernel_rfl)) (fun _ _ _ h => h) (Or.inl ⟨by rfl, ?_⟩) ?_ ?_
       rotate_left
       ·intro w'
        go_simp
        with_reducible rfl
       rotate_left
       ·simp only [Act.put, List.setIfInBounds_toArray, List.set_cons_zero, List.set_cons_succ, i64_w, i32_w]
        rfl
       refine take_ (i := 5) (N := some 35) (v := ?_) (a' := ?_) #[true, true, true, true, true, true, false, false, false, false, false, false] rfl rfl (take_ofW HT_.out HW_.out (by kernel_rfl)) (fun _ _ _ h => h) (Or.inl ⟨by rfl, ?_⟩) hHeld ?_ ?_
       rotate_left
       ·rintro w' ⟨s0, s1, s2⟩
        go_simp
        with_reducible rfl
       rotate_left
       ·simp only [Act.put, List.setIfInBounds_toArray, List.set_cons_zero, List.set_cons_succ, i64_w, i32_w]
        rfl
       refine pure_ (i := 6) (N := some 36) (v := ?_) (a' := ?_) #[true, true, true, true, true, true, true, false, false, false, false, false] rfl rfl (any_of HT_.out (by kernel_rfl)) (fun _ _ _ h => h) (Or.inl ⟨by rfl, ?_⟩) ?_ ?_
       rotate_left
       ·intro w'
        go_simp
        with_reducible rfl
       rotate_left
       ·simp only [Act.put, List.setIfInBounds_toArray, List.set_cons_zero, List.set_cons_succ, i64_w, i32_w]
        rfl
       refine take_ (i := 7) (N := some 37) (v := ?_) (a' := ?_) #[true, true, true, true, true, true, true, true, false, false, false, false] rfl rfl (take_ofW HT_.out HW_.out (by kernel_rfl)) (fun _ _ _ h => h) (Or.inl ⟨by rfl, ?_⟩) hHeld ?_ ?_
       rotate_left
       ·rintro w' ⟨s0, s1, s2⟩
        go_simp
        with_reducible rfl
       rotate_left
       ·simp only [Act.put, List.setIfInBounds_toArray, List.set_cons_zero, List.set_cons_succ, i64_w, i32_w]
        rfl
       refine pure_ (i := 8) (N := some 38) (v := ?_) (a' := ?_) #[true, true, true, true, true, true, true, true, true, false, false, false] rfl rfl (any_of HT_.out (by kernel_rfl)) (fun _ _ _ h => h) (Or.inl ⟨by rfl, ?_⟩) ?_ ?_
       rotate_left
       ·intro w'
        go_simp
        with_reducible rfl
       rotate_left
       ·simp only [Act.put, List.setIfInBounds_toArray, List.set_cons_zero, List.set_cons_succ, i64_w, i32_w]
        rfl
       refine pure_ (i := 9) (N := some 39) (v := ?_) (a' := ?_) #[true, true, true, true, true, true, true, true, true, true, false, false] rfl rfl (any_of HT_.out (by kernel_rfl)) (fun _ _ _ h => h) (Or.inl ⟨by rfl, ?_⟩) ?_ ?_
       rotate_left
       ·intro w'
        go_simp
        with_reducible rfl
       rotate_left
       ·simp only [Act.put, List.setIfInBounds_toArray, List.set_cons_zero, List.set_cons_succ, i64_w, i32_w]
        rfl
       refine pure_ (i := 10) (N := some 40) (v := ?_) (a' := ?_) #[true, true, true, true, true, true, true, true, true, true, true, false] rfl rfl (any_of HT_.out (by kernel_rfl)) (fun _ _ _ h => h) (Or.inl ⟨by rfl, ?_⟩) ?_ ?_
       rotate_left
       ·intro w'
        go_simp
        with_reducible rfl
       rotate_left
       ·simp only [Act.put, List.setIfInBounds_toArray, List.set_cons_zero, List.set_cons_succ, i64_w, i32_w]
        rfl
       refine last_ (i := 11) (N := none) #[true, true, true, true, true, true, true, true, true, true, true, true] rfl rfl (one_of HT_.out (by kernel_rfl)) (by decide) (fun K hK => ?_)
       have hs42 : w41.cell? ⟨gb228, 1, none⟩ = some (.int .i64 t235) := (blk_cell BK228.out 1).trans rfl
       have hfs42 := blk_frozen BK228.out 1
       have hns42_0 := NB227_228.out
       have hns42_2 := NB229_228.out
       have hms42_0 := NB228_227.out
       have hms42_2 := NB228_229.out
       refine skip_ (w1 := ?_) (by rfl) rfl ?_ ?_
       rotate_left
       ·go_simp
        rfl
       refine hK.out _ _ ?_
       clear hK K
       refine done_ (done_of HT_.out (by kernel_rfl)) ?_
       have hcz43_0 : w41.cell? ⟨gb227, 0, none⟩ = some (.int .i64 t232) := (blk_cell BK227.out 0).trans rfl
       have hcz43_1 : w41.cell? ⟨gb227, 1, none⟩ = some (.int .i64 t233) := (blk_cell BK227.out 1).trans rfl
       have hfz43_0 := blk_frozen BK227.out 0
       have hfz43_1 := blk_frozen BK227.out 1
       have hcz44_0 : w41.cell? ⟨gb228, 0, none⟩ = some (.int .i64 t234) := (blk_cell BK228.out 0).trans rfl
       have hcz44_1 : w41.cell? ⟨gb228, 1, none⟩ = some (.int .i64 t235) := (blk_cell BK228.out 1).trans rfl
       have hfz44_0 := blk_frozen BK228.out 0
       have hfz44_1 := blk_frozen BK228.out 1
       have hcz45_0 : w41.cell? ⟨gb229, 0, none⟩ = some (.int .i64 0) := (blk_cell BK229.out 0).trans rfl
       have hcz45_1 : w41.cell? ⟨gb229, 1, none⟩ = some (.int .i64 0) := (blk_cell BK229.out 1).trans rfl
       have hcz45_2 : w41.cell? ⟨gb229, 2, none⟩ = some (.int .i64 0) := (blk_cell BK229.out 2).trans rfl
       have hcz45_3 : w41.cell? ⟨gb229, 3, none⟩ = some (.int .i64 0) := (blk_cell BK229.out 3).trans rfl
       have hcz45_4 : w41.cell? ⟨gb229, 4, none⟩ = some (.int .i64 0) := (blk_cell BK229.out 4).trans rfl
       have hfz45_0 := blk_frozen BK229.out 0
       have hfz45_1 := blk_frozen BK229.out 1
       have hfz45_2 := blk_frozen BK229.out 2
       have hfz45_3 := blk_frozen BK229.out 3
       have hfz45_4 := blk_frozen BK229.out 4
       try go_wp2
       refine bodyPost_ret (results_ct rfl _ _ gb229 43 #[.int .i64 0, .int .i64 t232, .int .i64 t233, .int .i64 t234, .int .i64 ji31] (0, 0) _ rfl (by refine pk ?_; refine blk_put (cs := #[.int .i64 0, .int .i64 t232, .int .i64 t233, .int .i64 t234, .int .i64 0]) ?_ 4 _ rfl; refine pk ?_; refine blk_put (cs := #[.int .i64 0, .int .i64 t232, .int .i64 t233, .int .i64 0, .int .i64 0]) ?_ 3 _ rfl; refine pk ?_; refine blk_put (cs := #[.int .i64 0, .int .i64 t232, .int .i64 0, .int .i64 0, .int .i64 0]) ?_ 2 _ rfl; refine pk ?_; refine blk_put (cs := #[.int .i64 0, .int .i64 0, .int .i64 0, .int .i64 0, .int .i64 0]) ?_ 1 _ rfl; refine pk ?_; refine blk_put (cs := #[.int .i64 0, .int .i64 0, .int .i64 0, .int .i64 0, .int .i64 0]) ?_ 0 _ rfl; refine pk ?_; refine blk_far ?_ NB229_228.out _; exact pk BK229.out) Try.underlying43 rfl (by kernel_rfl)) rfl ?_
       exact ⟨by first | rfl | (simp [errW_none, errW_some] <;> rfl) | (simp only [← hji31]; first | rfl | (simp [errW_none, errW_some] <;> rfl)) | (simp [*, errW_none, errW_some] <;> rfl), by repeat with_reducible first | exact HB.out | apply ba | apply bn | apply bd | refine bset ?_ (by assumption)⟩
      ·rw [if_neg c30] at H
       exact absurd H (by simp)
     ·rw [if_neg c29] at H
      exact absurd H (by simp)
    ·rw [if_neg c28] at H
     have c28b0 : (a1 == 3) = false := beq_eq_false_iff_ne.mpr c28
     have c28b1 : (a1 != 3) = true := bne_iff_ne.mpr c28
     by_cases c46 : a1 = 4
     ·rw [if_pos c46] at H
      have c46b0 : (a1 == 4) = true := beq_iff_eq.mpr c46
      have c46b1 : (a1 != 4) = false := bne_eq_false_iff_eq.mpr c46
      clear c46
      replace H := Option.bind_eq_some_iff.mp H
      obtain ⟨⟨t237, t238, t239, t240, t241⟩, A470, H⟩ := H
      replace H : (some (t237, t238, t239, t240, t241, true)) = some (r1, r2, r3, r4, r5, r6) := H
      have A47 := Aside0.mk A470
      clear A470
      simp only [Option.some.injEq, Prod.mk.injEq] at H
      obtain ⟨rfl, rfl, rfl, rfl, rfl, rfl⟩ := H
      have hnb48 := NB227_228.out
      have hnc48 := NB228_227.out
      have hnb49 := NB227_229.out
      have hnc49 := NB229_227.out
      have hcz50_0 : wc.cell? ⟨gb227, 0, none⟩ = some (.int .i64 a2_0) := (blk_cell BK227.out 0).trans rfl
      have hcz50_1 : wc.cell? ⟨gb227, 1, none⟩ = some (.int .i64 a2_1) := (blk_cell BK227.out 1).trans rfl
      have hfz50_0 := blk_frozen BK227.out 0
      have hfz50_1 := blk_frozen BK227.out 1
      have hnb51 := NB228_229.out
      have hnc51 := NB229_228.out
      have hcz52_0 : wc.cell? ⟨gb228, 0, none⟩ = some (.int .i64 a3_0) := (blk_cell BK228.out 0).trans rfl
      have hcz52_1 : wc.cell? ⟨gb228, 1, none⟩ = some (.int .i64 a3_1) := (blk_cell BK228.out 1).trans rfl
      have hfz52_0 := blk_frozen BK228.out 0
      have hfz52_1 := blk_frozen BK228.out 1
      go_wp2_with (first | ((with_reducible refine gate_callee (f := 40) rfl ?_); refine goesL_ (some 24) rfl rfl Try.func40 (by kernel_rfl) rfl #[.agg #[.int .i64 a2_0, .int .i64 a2_1], .agg #[.int .i64 a3_0, .int .i64 a3_1]] rfl (by first | rfl | (simp only [List.map_toArray, List.map_cons, List.map_nil] <;> rfl)) ?_; (with_reducible refine (foolscapref5_Order.calls a2_0 a2_1 a3_0 a3_1 t232 t233 t234 t235 _ A27.out).mono ?_); rintro e w53 ⟨rfl, hb⟩; refine ⟨_, rfl, ?_⟩; have n0_ := Aside0.mk (blk_below (pk BK227.out) hb); have n1_ := Aside0.mk (blk_below (pk BK228.out) hb); have n2_ := Aside0.mk (blk_below (pk BK229.out) hb); have n3_ := Aside0.mk (below_step (by repeat with_reducible first | exact HB.out | apply ba | apply bn | apply bd | refine bset ?_ (by assumption)) hb); clear BK227; clear BK228; clear BK229; clear HB; have BK227 := n0_; have BK228 := n1_; have BK229 := n2_; have HB := n3_; clear n0_ n1_ n2_ n3_; (try clear hb); (try clear hb2); (try clear hk); (try clear hi); have hcz54_0 : w53.cell? ⟨gb227, 0, none⟩ = some (.int .i64 a2_0) := (blk_cell BK227.out 0).trans rfl; have hcz54_1 : w53.cell? ⟨gb227, 1, none⟩ = some (.int .i64 a2_1) := (blk_cell BK227.out 1).trans rfl; have hfz54_0 := blk_frozen BK227.out 0; have hfz54_1 := blk_frozen BK227.out 1; have hcz55_0 : w53.cell? ⟨gb228, 0, none⟩ = some (.int .i64 a3_0) := (blk_cell BK228.out 0).trans rfl; have hcz55_1 : w53.cell? ⟨gb228, 1, none⟩ = some (.int .i64 a3_1) := (blk_cell BK228.out 1).trans rfl; have hfz55_0 := blk_frozen BK228.out 0; have hfz55_1 := blk_frozen BK228.out 1) | ((with_reducible refine gate_callee (f := 41) rfl ?_); refine goesL_ (some 50) rfl rfl Try.func41 (by kernel_rfl) rfl #[.int .i64 t232, .int .i64 t234] rfl (by first | rfl | (simp only [List.map_toArray, List.map_cons, List.map_nil] <;> rfl)) ?_; (with_reducible refine (foolscapref25_whole.calls t232 t234 t237 t238 t239 t240 t241 _ A47.out).mono ?_); rintro e w56 ⟨rfl, hb⟩; refine ⟨_, rfl, ?_⟩; have n0_ := Aside0.mk (blk_below (g := gb227) (o := .cells #[.int .i64 t232, .int .i64 t233] 28 (0, 0)) (by refine pk ?_; refine blk_far ?_ NB227_228.out _; refine pk ?_; refine blk_far ?_ NB227_228.out _; refine pk ?_; refine blk_put (cs := #[.int .i64 t232, .int .i64 a2_1]) ?_ 1 _ rfl; refine pk ?_; refine blk_put (cs := #[.int .i64 a2_0, .int .i64 a2_1]) ?_ 0 _ rfl; exact pk BK227.out) hb); have n1_ := Aside0.mk (blk_below (g := gb228) (o := .cells #[.int .i64 t234, .int .i64 t235] 28 (0, 0)) (by refine pk ?_; refine blk_put (cs := #[.int .i64 t234, .int .i64 a3_1]) ?_ 1 _ rfl; refine pk ?_; refine blk_put (cs := #[.int .i64 a3_0, .int .i64 a3_1]) ?_ 0 _ rfl; refine pk ?_; refine blk_far ?_ NB228_227.out _; refine pk ?_; refine blk_far ?_ NB228_227.out _; exact pk BK228.out) hb); have n2_ := Aside0.mk (blk_below (g := gb229) (o := .cells #[.int .i64 0, .int .i64 0, .int .i64 0, .int .i64 0, .int .i64 0] 43 (0, 0)) (by refine pk ?_; refine blk_far ?_ NB229_228.out _; refine pk ?_; refine blk_far ?_ NB229_228.out _; refine pk ?_; refine blk_far ?_ NB229_227.out _; refine pk ?_; refine blk_far ?_ NB229_227.out _; exact pk BK229.out) hb); have n3_ := Aside0.mk (below_step (by repeat with_reducible first | exact HB.out | apply ba | apply bn | apply bd | refine bset ?_ (by assumption)) hb); clear BK227; clear BK228; clear BK229; clear HB; have BK227 := n0_; have BK228 := n1_; have BK229 := n2_; have HB := n3_; clear n0_ n1_ n2_ n3_; (try clear hb); (try clear hb2); (try clear hk); (try clear hi); have hcz57_0 : w56.cell? ⟨gb229, 0, none⟩ = some (.int .i64 0) := (blk_cell BK229.out 0).trans rfl; have hcz57_1 : w56.cell? ⟨gb229, 1, none⟩ = some (.int .i64 0) := (blk_cell BK229.out 1).trans rfl; have hcz57_2 : w56.cell? ⟨gb229, 2, none⟩ = some (.int .i64 0) := (blk_cell BK229.out 2).trans rfl; have hcz57_3 : w56.cell? ⟨gb229, 3, none⟩ = some (.int .i64 0) := (blk_cell BK229.out 3).trans rfl; have hcz57_4 : w56.cell? ⟨gb229, 4, none⟩ = some (.int .i64 0) := (blk_cell BK229.out 4).trans rfl; have hfz57_0 := blk_frozen BK229.out 0; have hfz57_1 := blk_frozen BK229.out 1; have hfz57_2 := blk_frozen BK229.out 2; have hfz57_3 := blk_frozen BK229.out 3; have hfz57_4 := blk_frozen BK229.out 4))
      refine bodyPost_ret (results_ct rfl _ _ gb229 43 #[.int .i64 t237, .int .i64 t238, .int .i64 t239, .int .i64 t240, .int .i64 t241] (0, 0) _ rfl (by refine pk ?_; refine blk_put (cs := #[.int .i64 t237, .int .i64 t238, .int .i64 t239, .int .i64 t240, .int .i64 0]) ?_ 4 _ rfl; refine pk ?_; refine blk_put (cs := #[.int .i64 t237, .int .i64 t238, .int .i64 t239, .int .i64 0, .int .i64 0]) ?_ 3 _ rfl; refine pk ?_; refine blk_put (cs := #[.int .i64 t237, .int .i64 t238, .int .i64 0, .int .i64 0, .int .i64 0]) ?_ 2 _ rfl; refine pk ?_; refine blk_put (cs := #[.int .i64 t237, .int .i64 0, .int .i64 0, .int .i64 0, .int .i64 0]) ?_ 1 _ rfl; refine pk ?_; refine blk_put (cs := #[.int .i64 0, .int .i64 0, .int .i64 0, .int .i64 0, .int .i64 0]) ?_ 0 _ rfl; exact pk BK229.out) Try.underlying43 rfl (by kernel_rfl)) rfl ?_
      exact ⟨by first | rfl | (simp [errW_none, errW_some] <;> rfl) | (simp [*, errW_none, errW_some] <;> rfl), by repeat with_reducible first | exact HB.out | apply ba | apply bn | apply bd | refine bset ?_ (by assumption)⟩
     ·rw [if_neg c46] at H
      have c46b0 : (a1 == 4) = false := beq_eq_false_iff_ne.mpr c46
      have c46b1 : (a1 != 4) = true := bne_iff_ne.mpr c46
      by_cases c58 : a1 = 5
      ·rw [if_pos c58] at H
       have c58b0 : (a1 == 5) = true := beq_iff_eq.mpr c58
       have c58b1 : (a1 != 5) = false := bne_eq_false_iff_eq.mpr c58
       clear c58
       obtain ⟨ji59, hji59⟩ : ∃ j_ : Int, (mn t233 t235) = j_ := ⟨_, rfl⟩
       replace H : (some (2, t232, ji59, t234, mx t233 t235, true)) = some (r1, r2, r3, r4, r5, r6) := by first | (rw [hji59] at H; exact H) | (simp only [hji59] at H ⊢; exact H)
       (try rw [hji59] at A27)
       have hji59_ : (if t235 < t233 then t235 else t233) = ji59 := hji59
       obtain ⟨ji60, hji60⟩ : ∃ j_ : Int, (mx t233 t235) = j_ := ⟨_, rfl⟩
       replace H : (some (2, t232, ji59, t234, ji60, true)) = some (r1, r2, r3, r4, r5, r6) := by first | (rw [hji60] at H; exact H) | (simp only [hji60] at H ⊢; exact H)
       (try rw [hji60] at A27)
       have hji60_ : (if t233 < t235 then t235 else t233) = ji60 := hji60
       simp only [Option.some.injEq, Prod.mk.injEq] at H
       obtain ⟨rfl, rfl, rfl, rfl, rfl, rfl⟩ := H
       have hnb61 := NB227_228.out
       have hnc61 := NB228_227.out
       have hnb62 := NB227_229.out
       have hnc62 := NB229_227.out
       have hcz63_0 : wc.cell? ⟨gb227, 0, none⟩ = some (.int .i64 a2_0) := (blk_cell BK227.out 0).trans rfl
       have hcz63_1 : wc.cell? ⟨gb227, 1, none⟩ = some (.int .i64 a2_1) := (blk_cell BK227.out 1).trans rfl
       have hfz63_0 := blk_frozen BK227.out 0
       have hfz63_1 := blk_frozen BK227.out 1
       have hnb64 := NB228_229.out
       have hnc64 := NB229_228.out
       have hcz65_0 : wc.cell? ⟨gb228, 0, none⟩ = some (.int .i64 a3_0) := (blk_cell BK228.out 0).trans rfl
       have hcz65_1 : wc.cell? ⟨gb228, 1, none⟩ = some (.int .i64 a3_1) := (blk_cell BK228.out 1).trans rfl
       have hfz65_0 := blk_frozen BK228.out 0
       have hfz65_1 := blk_frozen BK228.out 1
       go_wp2_with (first | ((with_reducible refine gate_callee (f := 40) rfl ?_); refine goesL_ (some 24) rfl rfl Try.func40 (by kernel_rfl) rfl #[.agg #[.int .i64 a2_0, .int .i64 a2_1], .agg #[.int .i64 a3_0, .int .i64 a3_1]] rfl (by first | rfl | (simp only [List.map_toArray, List.map_cons, List.map_nil] <;> rfl)) ?_; (with_reducible refine (foolscapref5_Order.calls a2_0 a2_1 a3_0 a3_1 t232 t233 t234 t235 _ A27.out).mono ?_); rintro e w66 ⟨rfl, hb⟩; refine ⟨_, rfl, ?_⟩; have n0_ := Aside0.mk (blk_below (pk BK227.out) hb); have n1_ := Aside0.mk (blk_below (pk BK228.out) hb); have n2_ := Aside0.mk (blk_below (pk BK229.out) hb); have n3_ := Aside0.mk (below_step (by repeat with_reducible first | exact HB.out | apply ba | apply bn | apply bd | refine bset ?_ (by assumption)) hb); clear BK227; clear BK228; clear BK229; clear HB; have BK227 := n0_; have BK228 := n1_; have BK229 := n2_; have HB := n3_; clear n0_ n1_ n2_ n3_; (try clear hb); (try clear hb2); (try clear hk); (try clear hi); have hcz67_0 : w66.cell? ⟨gb227, 0, none⟩ = some (.int .i64 a2_0) := (blk_cell BK227.out 0).trans rfl; have hcz67_1 : w66.cell? ⟨gb227, 1, none⟩ = some (.int .i64 a2_1) := (blk_cell BK227.out 1).trans rfl; have hfz67_0 := blk_frozen BK227.out 0; have hfz67_1 := blk_frozen BK227.out 1; have hcz68_0 : w66.cell? ⟨gb228, 0, none⟩ = some (.int .i64 a3_0) := (blk_cell BK228.out 0).trans rfl; have hcz68_1 : w66.cell? ⟨gb228, 1, none⟩ = some (.int .i64 a3_1) := (blk_cell BK228.out 1).trans rfl; have hfz68_0 := blk_frozen BK228.out 0; have hfz68_1 := blk_frozen BK228.out 1; have hcz69_0 : w66.cell? ⟨gb229, 0, none⟩ = some (.int .i64 0) := (blk_cell BK229.out 0).trans rfl; have hcz69_1 : w66.cell? ⟨gb229, 1, none⟩ = some (.int .i64 0) := (blk_cell BK229.out 1).trans rfl; have hcz69_2 : w66.cell? ⟨gb229, 2, none⟩ = some (.int .i64 0) := (blk_cell BK229.out 2).trans rfl; have hcz69_3 : w66.cell? ⟨gb229, 3, none⟩ = some (.int .i64 0) := (blk_cell BK229.out 3).trans rfl; have hcz69_4 : w66.cell? ⟨gb229, 4, none⟩ = some (.int .i64 0) := (blk_cell BK229.out 4).trans rfl; have hfz69_0 := blk_frozen BK229.out 0; have hfz69_1 := blk_frozen BK229.out 1; have hfz69_2 := blk_frozen BK229.out 2; have hfz69_3 := blk_frozen BK229.out 3; have hfz69_4 := blk_frozen BK229.out 4))
       refine bodyPost_ret (results_ct rfl _ _ gb229 43 #[.int .i64 2, .int .i64 t232, .int .i64 ji59, .int .i64 t234, .int .i64 ji60] (0, 0) _ rfl (by refine pk ?_; refine blk_put (cs := #[.int .i64 2, .int .i64 t232, .int .i64 ji59, .int .i64 t234, .int .i64 0]) ?_ 4 _ rfl; refine pk ?_; refine blk_put (cs := #[.int .i64 2, .int .i64 t232, .int .i64 ji59, .int .i64 0, .int .i64 0]) ?_ 3 _ rfl; refine pk ?_; refine blk_put (cs := #[.int .i64 2, .int .i64 t232, .int .i64 0, .int .i64 0, .int .i64 0]) ?_ 2 _ rfl; refine pk ?_; refine blk_put (cs := #[.int .i64 2, .int .i64 0, .int .i64 0, .int .i64 0, .int .i64 0]) ?_ 1 _ rfl; refine pk ?_; refine blk_put (cs := #[.int .i64 0, .int .i64 0, .int .i64 0, .int .i64 0, .int .i64 0]) ?_ 0 _ rfl; refine pk ?_; refine blk_far ?_ NB229_228.out _; refine pk ?_; refine blk_far ?_ NB229_228.out _; refine pk ?_; refine blk_far ?_ NB229_227.out _; refine pk ?_; refine blk_far ?_ NB229_227.out _; exact pk BK229.out) Try.underlying43 rfl (by kernel_rfl)) rfl ?_
       exact ⟨by first | rfl | (simp [errW_none, errW_some] <;> rfl) | (simp only [← hji59, ← hji60]; first | rfl | (simp [errW_none, errW_some] <;> rfl)) | (simp [*, errW_none, errW_some] <;> rfl), by repeat with_reducible first | exact HB.out | apply ba | apply bn | apply bd | refine bset ?_ (by assumption)⟩
      ·rw [if_neg c58] at H
       have c58b0 : (a1 == 5) = false := beq_eq_false_iff_ne.mpr c58
       have c58b1 : (a1 != 5) = true := bne_iff_ne.mpr c58
       simp only [Option.some.injEq, Prod.mk.injEq] at H
       obtain ⟨rfl, rfl, rfl, rfl, rfl, rfl⟩ := H
       have hnb70 := NB227_228.out
       have hnc70 := NB228_227.out
       have hnb71 := NB227_229.out
       have hnc71 := NB229_227.out
       have hcz72_0 : wc.cell? ⟨gb227, 0, none⟩ = some (.int .i64 a2_0) := (blk_cell BK227.out 0).trans rfl
       have hcz72_1 : wc.cell? ⟨gb227, 1, none⟩ = some (.int .i64 a2_1) := (blk_cell BK227.out 1).trans rfl
       have hfz72_0 := blk_frozen BK227.out 0
       have hfz72_1 := blk_frozen BK227.out 1
       have hnb73 := NB228_229.out
       have hnc73 := NB229_228.out
       have hcz74_0 : wc.cell? ⟨gb228, 0, none⟩ = some (.int .i64 a3_0) := (blk_cell BK228.out 0).trans rfl
       have hcz74_1 : wc.cell? ⟨gb228, 1, none⟩ = some (.int .i64 a3_1) := (blk_cell BK228.out 1).trans rfl
       have hfz74_0 := blk_frozen BK228.out 0
       have hfz74_1 := blk_frozen BK228.out 1
       go_wp2_with (first | ((with_reducible refine gate_callee (f := 40) rfl ?_); refine goesL_ (some 24) rfl rfl Try.func40 (by kernel_rfl) rfl #[.agg #[.int .i64 a2_0, .int .i64 a2_1], .agg #[.int .i64 a3_0, .int .i64 a3_1]] rfl (by first | rfl | (simp only [List.map_toArray, List.map_cons, List.map_nil] <;> rfl)) ?_; (with_reducible refine (foolscapref5_Order.calls a2_0 a2_1 a3_0 a3_1 t232 t233 t234 t235 _ A27.out).mono ?_); rintro e w75 ⟨rfl, hb⟩; refine ⟨_, rfl, ?_⟩; have n0_ := Aside0.mk (blk_below (pk BK227.out) hb); have n1_ := Aside0.mk (blk_below (pk BK228.out) hb); have n2_ := Aside0.mk (blk_below (pk BK229.out) hb); have n3_ := Aside0.mk (below_step (by repeat with_reducible first | exact HB.out | apply ba | apply bn | apply bd | refine bset ?_ (by assumption)) hb); clear BK227; clear BK228; clear BK229; clear HB; have BK227 := n0_; have BK228 := n1_; have BK229 := n2_; have HB := n3_; clear n0_ n1_ n2_ n3_; (try clear hb); (try clear hb2); (try clear hk); (try clear hi); have hcz76_0 : w75.cell? ⟨gb227, 0, none⟩ = some (.int .i64 a2_0) := (blk_cell BK227.out 0).trans rfl; have hcz76_1 : w75.cell? ⟨gb227, 1, none⟩ = some (.int .i64 a2_1) := (blk_cell BK227.out 1).trans rfl; have hfz76_0 := blk_frozen BK227.out 0; have hfz76_1 := blk_frozen BK227.out 1; have hcz77_0 : w75.cell? ⟨gb228, 0, none⟩ = some (.int .i64 a3_0) := (blk_cell BK228.out 0).trans rfl; have hcz77_1 : w75.cell? ⟨gb228, 1, none⟩ = some (.int .i64 a3_1) := (blk_cell BK228.out 1).trans rfl; have hfz77_0 := blk_frozen BK228.out 0; have hfz77_1 := blk_frozen BK228.out 1; have hcz78_0 : w75.cell? ⟨gb229, 0, none⟩ = some (.int .i64 0) := (blk_cell BK229.out 0).trans rfl; have hcz78_1 : w75.cell? ⟨gb229, 1, none⟩ = some (.int .i64 0) := (blk_cell BK229.out 1).trans rfl; have hcz78_2 : w75.cell? ⟨gb229, 2, none⟩ = some (.int .i64 0) := (blk_cell BK229.out 2).trans rfl; have hcz78_3 : w75.cell? ⟨gb229, 3, none⟩ = some (.int .i64 0) := (blk_cell BK229.out 3).trans rfl; have hcz78_4 : w75.cell? ⟨gb229, 4, none⟩ = some (.int .i64 0) := (blk_cell BK229.out 4).trans rfl; have hfz78_0 := blk_frozen BK229.out 0; have hfz78_1 := blk_frozen BK229.out 1; have hfz78_2 := blk_frozen BK229.out 2; have hfz78_3 := blk_frozen BK229.out 3; have hfz78_4 := blk_frozen BK229.out 4))
       refine bodyPost_ret (results_ct rfl _ _ gb229 43 #[.int .i64 0, .int .i64 0, .int .i64 0, .int .i64 0, .int .i64 0] (0, 0) _ rfl (by refine pk ?_; refine blk_put (cs := #[.int .i64 0, .int .i64 0, .int .i64 0, .int .i64 0, .int .i64 0]) ?_ 4 _ rfl; refine pk ?_; refine blk_put (cs := #[.int .i64 0, .int .i64 0, .int .i64 0, .int .i64 0, .int .i64 0]) ?_ 3 _ rfl; refine pk ?_; refine blk_put (cs := #[.int .i64 0, .int .i64 0, .int .i64 0, .int .i64 0, .int .i64 0]) ?_ 2 _ rfl; refine pk ?_; refine blk_put (cs := #[.int .i64 0, .int .i64 0, .int .i64 0, .int .i64 0, .int .i64 0]) ?_ 1 _ rfl; refine pk ?_; refine blk_put (cs := #[.int .i64 0, .int .i64 0, .int .i64 0, .int .i64 0, .int .i64 0]) ?_ 0 _ rfl; refine pk ?_; refine blk_far ?_ NB229_228.out _; refine pk ?_; refine blk_far ?_ NB229_228.out _; refine pk ?_; refine blk_far ?_ NB229_227.out _; refine pk ?_; refine blk_far ?_ NB229_227.out _; exact pk BK229.out) Try.underlying43 rfl (by kernel_rfl)) rfl ?_
       exact ⟨by first | rfl | (simp [errW_none, errW_some] <;> rfl) | (simp [*, errW_none, errW_some] <;> rfl), by repeat with_reducible first | exact HB.out | apply ba | apply bn | apply bd | refine bset ?_ (by assumption)⟩

end Go.Proofs.Ytdcbgmeljakmcaa.MAreaLines
