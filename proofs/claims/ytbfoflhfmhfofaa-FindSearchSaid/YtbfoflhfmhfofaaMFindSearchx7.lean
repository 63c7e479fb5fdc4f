/- What the Go functions of this law compute, and that they do: written by this session's own program (wip/myprint), for all inputs that the print's conditions name. -/
import Derived.Test.YtbfoflhfmhfofaaMFindSearchx0
import Derived.Test.YtbfoflhfmhfofaaMFindSearchx2
import Derived.Test.YtbfoflhfmhfofaaMFindSearchx3
import Derived.Test.YtbfoflhfmhfofaaMFindSearchx4
import Derived.Test.YtbfoflhfmhfofaaMFindSearchx5
import Derived.Test.YtbfoflhfmhfofaaMFindSearchx6
namespace Go.Proofs.Ytbfoflhfmhfofaa.MFindSearch
open Go.Proofs.Ytbfoflhfmhfofaa.Few (pk bset ba bn bd)
open Go.RowKit Go.Proofs.Ytbfoflhfmhfofaa.Out Go.Proofs.YtbfoflhfmhfofaaW.PrintWords Go.Proofs.YtbfoflhfmhfofaaW.PrintLast Go.Proofs.YtbfoflhfmhfofaaW.PrintMore
attribute [local go_sem] max2_int min2_int max_two min_two max_three min_three max_four min_four   -- for this text's walks alone
set_option linter.unusedVariables false
set_option linter.unusedSimpArgs false

attribute [local go_sem high] eqA30
/-! ### foolscapref5_Search: function 20 -/
mutual
def foolscapref5_Search.j0 : Nat → Bool → Int → List (S28) → Bool → Int → Int → Option (Int × Int × Int × Bool × Int × Bool)
 | 0, _, _, _, _, _, _ => none
 | k + 1, x3, x4, x12, x29, x173000, x173001 => if x29 = true then ((foolscapref5_none.f).bind fun bt178 => (some (bt178.1, bt178.2.1, bt178.2.2.1, bt178.2.2.2.1, bt178.2.2.2.2.1, bt178.2.2.2.2.2))) else ((foolscapref5_behind.f k x12 x173000 x173001 false).bind fun t184 => (if x3 = true then ((foolscapref5_ahead.f k x12 x173000 x173001).bind fun t187 => (foolscapref5_Search.j1 k x3 x4 x12 t187 x173000 x173001)) else (foolscapref5_Search.j1 k x3 x4 x12 t184 x173000 x173001)))
def foolscapref5_Search.j1 : Nat → Bool → Int → List (S28) → List (S28) → Int → Int → Option (Int × Int × Int × Bool × Int × Bool)
 | 0, _, _, _, _, _, _ => none
 | k + 1, x3, x4, x12, x13, x173000, x173001 => foolscapref5_Search.l0 k x3 x4 x12 x13 0 x173000 x173001
def foolscapref5_Search.l0 : Nat → Bool → Int → List (S28) → List (S28) → Int → Int → Int → Option (Int × Int × Int × Bool × Int × Bool)
 | 0, _, _, _, _, _, _, _ => none
 | k + 1, x3, x4, x12, x13, x14, x173000, x173001 => if x14 < (x12.length : Int) then (if x3 = true then (foolscapref5_Search.j3 k x3 x4 x12 x13 x14 (wrap64 ((wrap64 ((x12.length : Int) - 1)) - x14)) x173000 x173001) else (foolscapref5_Search.j3 k x3 x4 x12 x13 x14 x14 x173000 x173001)) else ((foolscapref5_capped.f x4).bind fun t190 => (if (x13.length : Int) = 0 then (none) else (if 0 ≤ (Int.tmod (wrap64 (t190 - 1)) (x13.length : Int)) then (if (Int.tmod (wrap64 (t190 - 1)) (x13.length : Int)) < (x13.length : Int) then ((foolscapref5_jump.f ((rd_T28 x13 (Int.tmod (wrap64 (t190 - 1)) (x13.length : Int))).f0) ((rd_T28 x13 (Int.tmod (wrap64 (t190 - 1)) (x13.length : Int))).f1)).bind fun bt192 => (some (bt192.1, bt192.2.1, bt192.2.2.1, bt192.2.2.2.1, bt192.2.2.2.2.1, bt192.2.2.2.2.2))) else (none)) else (none))))
def foolscapref5_Search.j3 : Nat → Bool → Int → List (S28) → List (S28) → Int → Int → Int → Int → Option (Int × Int × Int × Bool × Int × Bool)
 | 0, _, _, _, _, _, _, _, _ => none
 | k + 1, x3, x4, x12, x13, x14, x15, x173000, x173001 => if 0 ≤ x15 then (if x15 < (x12.length : Int) then (if x3 = true then ((foolscapref5_Less.f ((rd_T28 x12 x15).f0) ((rd_T28 x12 x15).f1) x173000 x173001).bind fun t200 => (if t200 = true then (foolscapref5_Search.l0 k x3 x4 x12 x13 (wrap64 (x14 + 1)) x173000 x173001) else (if x13.length < 8796093022208 then (foolscapref5_Search.l0 k x3 x4 x12 (x13 ++ [(⟨(rd_T28 x12 x15).f0, (rd_T28 x12 x15).f1⟩ : S28)]) (wrap64 (x14 + 1)) x173000 x173001) else (none)))) else ((foolscapref5_Less.f x173000 x173001 ((rd_T28 x12 x15).f0) ((rd_T28 x12 x15).f1)).bind fun t204 => (if t204 = true then (foolscapref5_Search.l0 k x3 x4 x12 x13 (wrap64 (x14 + 1)) x173000 x173001) else (if x13.length < 8796093022208 then (foolscapref5_Search.l0 k x3 x4 x12 (x13 ++ [(⟨(rd_T28 x12 x15).f0, (rd_T28 x12 x15).f1⟩ : S28)]) (wrap64 (x14 + 1)) x173000 x173001) else (none))))) else (none)) else (none)
end
def foolscapref5_Search.f (k : Nat) (l0 : List ByteArray) (a1_0 : Int) (a1_1 : Int) (a2 : ByteArray) (a3 : Bool) (a4 : Int) : Option (Int × Int × Int × Bool × Int × Bool) := (foolscapref5_All.f k l0 a2).bind fun t174 => ((foolscapref5_may.f l0 a1_0 a1_1 a4).bind fun t177 => (if t177 = true then (foolscapref5_Search.j0 k a3 a4 t174 ((t174.length : Int) == 0) a1_0 a1_1) else (foolscapref5_Search.j0 k a3 a4 t174 true a1_0 a1_1)))
theorem foolscapref5_Search.mono_l : ∀ k, (∀ y0 y1 y2 y3 y4 y5, LeO (foolscapref5_Search.j0 k y0 y1 y2 y3 y4 y5) (foolscapref5_Search.j0 (k + 1) y0 y1 y2 y3 y4 y5)) ∧ (∀ y0 y1 y2 y3 y4 y5, LeO (foolscapref5_Search.j1 k y0 y1 y2 y3 y4 y5) (foolscapref5_Search.j1 (k + 1) y0 y1 y2 y3 y4 y5)) ∧ (∀ y0 y1 y2 y3 y4 y5 y6, LeO (foolscapref5_Search.l0 k y0 y1 y2 y3 y4 y5 y6) (foolscapref5_Search.l0 (k + 1) y0 y1 y2 y3 y4 y5 y6)) ∧ (∀ y0 y1 y2 y3 y4 y5 y6 y7, LeO (foolscapref5_Search.j3 k y0 y1 y2 y3 y4 y5 y6 y7) (foolscapref5_Search.j3 (k + 1) y0 y1 y2 y3 y4 y5 y6 y7))
 | 0 => ⟨fun _ _ _ _ _ _ r h => by simp [foolscapref5_Search.j0] at h, fun _ _ _ _ _ _ r h => by simp [foolscapref5_Search.j1] at h, fun _ _ _ _ _ _ _ r h => by simp [foolscapref5_Search.l0] at h, fun _ _ _ _ _ _ _ _ r h => by simp [foolscapref5_Search.j3] at h⟩
 | k + 1 => by
  obtain ⟨ih0, ih1, ih2, ih3⟩ := foolscapref5_Search.mono_l k
  refine ⟨?_, ?_, ?_, ?_⟩
  ·intro y0 y1 y2 y3 y4 y5
   unfold foolscapref5_Search.j0
   repeat' first
   | (with_reducible exact ih0 _ _ _ _ _ _)
   | (with_reducible exact ih1 _ _ _ _ _ _)
   | (with_reducible exact ih2 _ _ _ _ _ _ _)
   | (with_reducible exact ih3 _ _ _ _ _ _ _ _)
   | (with_reducible exact foolscapref5_All.mono _ _ _)
   | (with_reducible exact foolscapref5_ahead.mono _ _ _ _)
   | (with_reducible exact foolscapref5_behind.mono _ _ _ _ _)
   | (with_reducible exact LeO.refl _)
   | (with_reducible exact LeO.none _)
   | (with_reducible refine LeO.ite ?_ ?_)
   | (with_reducible refine LeO.bind ?_ (fun _ => ?_))
   | exact ih0 _ _ _ _ _ _
   | exact ih1 _ _ _ _ _ _
   | exact ih2 _ _ _ _ _ _ _
   | exact ih3 _ _ _ _ _ _ _ _
   | exact foolscapref5_All.mono _ _ _
   | exact foolscapref5_ahead.mono _ _ _ _
   | exact foolscapref5_behind.mono _ _ _ _ _
   | exact LeO.none _
   | refine LeO.ite ?_ ?_
   | refine LeO.bind ?_ (fun _ => ?_)
  ·intro y0 y1 y2 y3 y4 y5
   unfold foolscapref5_Search.j1
   repeat' first
   | (with_reducible exact ih0 _ _ _ _ _ _)
   | (with_reducible exact ih1 _ _ _ _ _ _)
   | (with_reducible exact ih2 _ _ _ _ _ _ _)
   | (with_reducible exact ih3 _ _ _ _ _ _ _ _)
   | (with_reducible exact foolscapref5_All.mono _ _ _)
   | (with_reducible exact foolscapref5_ahead.mono _ _ _ _)
   | (with_reducible exact foolscapref5_behind.mono _ _ _ _ _)
   | (with_reducible exact LeO.refl _)
   | (with_reducible exact LeO.none _)
   | (with_reducible refine LeO.ite ?_ ?_)
   | (with_reducible refine LeO.bind ?_ (fun _ => ?_))
   | exact ih0 _ _ _ _ _ _
   | exact ih1 _ _ _ _ _ _
   | exact ih2 _ _ _ _ _ _ _
   | exact ih3 _ _ _ _ _ _ _ _
   | exact foolscapref5_All.mono _ _ _
   | exact foolscapref5_ahead.mono _ _ _ _
   | exact foolscapref5_behind.mono _ _ _ _ _
   | exact LeO.none _
   | refine LeO.ite ?_ ?_
   | refine LeO.bind ?_ (fun _ => ?_)
  ·intro y0 y1 y2 y3 y4 y5 y6
   unfold foolscapref5_Search.l0
   repeat' first
   | (with_reducible exact ih0 _ _ _ _ _ _)
   | (with_reducible exact ih1 _ _ _ _ _ _)
   | (with_reducible exact ih2 _ _ _ _ _ _ _)
   | (with_reducible exact ih3 _ _ _ _ _ _ _ _)
   | (with_reducible exact foolscapref5_All.mono _ _ _)
   | (with_reducible exact foolscapref5_ahead.mono _ _ _ _)
   | (with_reducible exact foolscapref5_behind.mono _ _ _ _ _)
   | (with_reducible exact LeO.refl _)
   | (with_reducible exact LeO.none _)
   | (with_reducible refine LeO.ite ?_ ?_)
   | (with_reducible refine LeO.bind ?_ (fun _ => ?_))
   | exact ih0 _ _ _ _ _ _
   | exact ih1 _ _ _ _ _ _
   | exact ih2 _ _ _ _ _ _ _
   | exact ih3 _ _ _ _ _ _ _ _
   | exact foolscapref5_All.mono _ _ _
   | exact foolscapref5_ahead.mono _ _ _ _
   | exact foolscapref5_behind.mono _ _ _ _ _
   | exact LeO.none _
   | refine LeO.ite ?_ ?_
   | refine LeO.bind ?_ (fun _ => ?_)
  ·intro y0 y1 y2 y3 y4 y5 y6 y7
   unfold foolscapref5_Search.j3
   repeat' first
   | (with_reducible exact ih0 _ _ _ _ _ _)
   | (with_reducible exact ih1 _ _ _ _ _ _)
   | (with_reducible exact ih2 _ _ _ _ _ _ _)
   | (with_reducible exact ih3 _ _ _ _ _ _ _ _)
   | (with_reducible exact foolscapref5_All.mono _ _ _)
   | (with_reducible exact foolscapref5_ahead.mono _ _ _ _)
   | (with_reducible exact foolscapref5_behind.mono _ _ _ _ _)
   | (with_reducible exact LeO.refl _)
   | (with_reducible exact LeO.none _)
   | (with_reducible refine LeO.ite ?_ ?_)
   | (with_reducible refine LeO.bind ?_ (fun _ => ?_))
   | exact ih0 _ _ _ _ _ _
   | exact ih1 _ _ _ _ _ _
   | exact ih2 _ _ _ _ _ _ _
   | exact ih3 _ _ _ _ _ _ _ _
   | exact foolscapref5_All.mono _ _ _
   | exact foolscapref5_ahead.mono _ _ _ _
   | exact foolscapref5_behind.mono _ _ _ _ _
   | exact LeO.none _
   | refine LeO.ite ?_ ?_
   | refine LeO.bind ?_ (fun _ => ?_)
theorem foolscapref5_Search.mono : ∀ a0 a1 a2 a3 a4 a5 k, LeO (foolscapref5_Search.f k a0 a1 a2 a3 a4 a5) (foolscapref5_Search.f (k + 1) a0 a1 a2 a3 a4 a5) := by
 intro a0 a1 a2 a3 a4 a5 k
 obtain ⟨ih0, ih1, ih2, ih3⟩ := foolscapref5_Search.mono_l k
 unfold foolscapref5_Search.f
 repeat' first
   | (with_reducible exact ih0 _ _ _ _ _ _)
   | (with_reducible exact ih1 _ _ _ _ _ _)
   | (with_reducible exact ih2 _ _ _ _ _ _ _)
   | (with_reducible exact ih3 _ _ _ _ _ _ _ _)
   | (with_reducible exact foolscapref5_All.mono _ _ _)
   | (with_reducible exact foolscapref5_ahead.mono _ _ _ _)
   | (with_reducible exact foolscapref5_behind.mono _ _ _ _ _)
   | (with_reducible exact LeO.refl _)
   | (with_reducible exact LeO.none _)
   | (with_reducible refine LeO.ite ?_ ?_)
   | (with_reducible refine LeO.bind ?_ (fun _ => ?_))
   | exact ih0 _ _ _ _ _ _
   | exact ih1 _ _ _ _ _ _
   | exact ih2 _ _ _ _ _ _ _
   | exact ih3 _ _ _ _ _ _ _ _
   | exact foolscapref5_All.mono _ _ _
   | exact foolscapref5_ahead.mono _ _ _ _
   | exact foolscapref5_behind.mono _ _ _ _ _
   | exact LeO.none _
   | refine LeO.ite ?_ ?_
   | refine LeO.bind ?_ (fun _ => ?_)
set_option maxHeartbeats 8000000 in
set_option maxRecDepth 100000 in
theorem foolscapref5_Search.calls (k : Nat) (A0 : Option Addr) (c0 : Nat) (l0 : List ByteArray) (a1_0 : Int) (a1_1 : Int) (a2 : ByteArray) (a3 : Bool) (a4 : Int) (r1 : Int) (r2 : Int) (r3 : Int) (r4 : Bool) (r5 : Int) (r6 : Bool) (w : World) (hr0 : Kd.C Kd.string w A0 l0.length l0) (hc0 : l0.length ≤ c0) (h : foolscapref5_Search.f k l0 a1_0 a1_1 a2 a3 a4 = some (r1, r2, r3, r4, r5, r6)) :
  Calls Try.prog 20 #[.slice A0 l0.length c0, .agg #[.int .i64 a1_0, .int .i64 a1_1], .string a2, .bool a3, .int .i64 a4] w fun e w' => e = .returned (.tuple #[.agg #[.int .i64 r1, .int .i64 r2, .int .i64 r3, .bool r4, .int .i64 r5], .bool r6]) ∧ Below w.heap.size w w' := by
 have hu28 := Try.underlying28
 have hu30 := Try.underlying30
 have HR0 := Aside0.mk hr0
 have HC0 := Aside0.mk hc0
 clear hr0 hc0
 have HB := Aside0.mk (Below.refl w.heap.size w)
 have H : ((foolscapref5_All.f k l0 a2).bind fun t174 => ((foolscapref5_may.f l0 a1_0 a1_1 a4).bind fun t177 => (if t177 = true then (foolscapref5_Search.j0 k a3 a4 t174 ((t174.length : Int) == 0) a1_0 a1_1) else (foolscapref5_Search.j0 k a3 a4 t174 true a1_0 a1_1)))) = some (r1, r2, r3, r4, r5, r6) := h
 clear h
 replace H := Option.bind_eq_some_iff.mp H
 obtain ⟨t174, A60, H⟩ := H
 replace H : ((foolscapref5_may.f l0 a1_0 a1_1 a4).bind fun t177 => (if t177 = true then (foolscapref5_Search.j0 k a3 a4 t174 ((t174.length : Int) == 0) a1_0 a1_1) else (foolscapref5_Search.j0 k a3 a4 t174 true a1_0 a1_1))) = some (r1, r2, r3, r4, r5, r6) := H
 have A6 := Aside0.mk A60
 clear A60
 have HC7 := Aside0.mk H
 clear H
 go_enter Try.func20, Try.ntmps20
 go_upto_region 2 with (first | ((with_reducible refine gate_dst (N := 6) rfl ?_); (try (refine gate_guard (by rfl) ?_; dsimp only)); refine box_event ?hg (N := 6) ?hd (cs := #[.int .i64 a1_0, .int .i64 a1_1]) (t := 28) ?hr ?_; (case hd => rfl); (case hg => rfl); (case hr => first | (go_simp; done) | (go_simp; rfl)); intro gb172 hg w8 hbox hb; have n0_ := Aside0.mk (below_step (by repeat with_reducible first | exact HB.out | apply ba | apply bn | apply bd) hb); have n1_ := Aside0.mk (hbox); have n2_ := Aside0.mk ((by rw [hg]; exact (below_size (by repeat with_reducible first | exact HB.out | apply ba | apply bn | apply bd)) : w.heap.size ≤ gb172)); have n3_ := n2_; clear HB; have HB := n0_; have BK172 := n1_; have GW172 := n2_; have GE172 := n3_; clear n0_ n1_ n2_ n3_; clear hb hbox hg) | ((with_reducible refine gate_dst (N := 10) rfl ?_); (try (refine gate_guard (by rfl) ?_; dsimp only)); refine box_event ?hg (N := 10) ?hd (cs := #[.int .i64 0, .int .i64 0, .int .i64 0, .bool false, .int .i64 0]) (t := 30) ?hr ?_; (case hd => rfl); (case hg => rfl); (case hr => first | (go_simp; done) | (go_simp; rfl)); intro gb173 hg w9 hbox hb; have n0_ := Aside0.mk (blk_below (pk BK172.out) hb); have n1_ := Aside0.mk (below_step (by repeat with_reducible first | exact HB.out | apply ba | apply bn | apply bd | refine bset ?_ (by assumption)) hb); have n2_ := Aside0.mk (hbox); have n3_ := Aside0.mk ((by rw [hg]; exact (below_size (by repeat with_reducible first | exact HB.out | apply ba | apply bn | apply bd | refine bset ?_ (by assumption))) : w.heap.size ≤ gb173)); have n4_ := n3_; have n5_ := Aside0.mk ((by rw [hg]; exact Nat.ne_of_lt (blk_lt (pk BK172.out)) : gb172 ≠ gb173)); have n6_ := Aside0.mk ((by rw [hg]; exact Nat.ne_of_gt (blk_lt (pk BK172.out)) : gb173 ≠ gb172)); clear BK172; clear HB; have BK172 := n0_; have HB := n1_; have BK173 := n2_; have GW173 := n3_; have GE173 := n4_; have NB172_173 := n5_; have NB173_172 := n6_; clear n0_ n1_ n2_ n3_ n4_ n5_ n6_; clear hb hbox hg) | ((with_reducible refine gate_callee (f := 11) rfl ?_); refine goesL_ (some 19) rfl rfl Try.func11 (by kernel_rfl) rfl #[.slice A0 l0.length c0, .string a2] rfl (by first | rfl | (simp only [List.map_toArray, List.map_cons, List.map_nil] <;> rfl)) ?_; (with_reducible refine (foolscapref5_All.calls k _ _ l0 a2 t174 _ ?side1 ?side2 A6.out).mono ?_); (case side1 => repeat (first | exact (Kd.C_below HR0.out HB.out) | (with_reducible refine Kd.C_alloc ?_ _) | (with_reducible refine Kd.C_drewN ?_ _) | (with_reducible refine Kd.C_drew ?_))); (case side2 => exact HC0.out); rintro e w10 ⟨v175, rfl, ho0, hb⟩; refine ⟨_, rfl, ?_⟩; have n0_ := Aside0.mk (Kd.R_lower (Kd.R_newB ho0 (pk BK172.out)) (below_size (by repeat with_reducible first | exact HB.out | apply ba | apply bn | apply bd | refine bset ?_ (by assumption)))); have n1_ := Aside0.mk (blk_below (pk BK172.out) hb); have n2_ := Aside0.mk (blk_below (pk BK173.out) hb); have n3_ := Aside0.mk (below_step (by repeat with_reducible first | exact HB.out | apply ba | apply bn | apply bd | refine bset ?_ (by assumption)) hb); clear BK172; clear BK173; clear HB; have HO176 := n0_; have BK172 := n1_; have BK173 := n2_; have HB := n3_; clear n0_ n1_ n2_ n3_; (try clear hb); (try clear hb2); (try clear hk); (try clear hi); (try clear ho0)))
 (try simp only [Act.put, List.setIfInBounds_toArray, List.set_cons_zero, List.set_cons_succ])
 go_cut [29] (fun v29 wc => ∃ (kq : Nat) (x29_6 : Bool), v29 = .bool x29_6 ∧ Aside0 (foolscapref5_Search.j0 kq a3 a4 t174 x29_6 a1_0 a1_1 = some (r1, r2, r3, r4, r5, r6)) ∧ Aside0 (kq ≤ k) ∧ Aside0 (Kd.R k28 28 wc w.heap.size (fun k_ => k_ ≠ gb172) v175 t174) ∧ Aside0 (wc.heap[gb172]? = some (.cells #[.int .i64 a1_0, .int .i64 a1_1] 28 (0, 0))) ∧ Aside0 (wc.heap[gb173]? = some (.cells #[.int .i64 0, .int .i64 0, .int .i64 0, .bool false, .int .i64 0] 30 (0, 0))) ∧ Aside0 (Below w.heap.size w wc))
 case first =>
  have H := HC7.out
  clear HC7
  replace H := Option.bind_eq_some_iff.mp H
  obtain ⟨t177, A110, H⟩ := H
  replace H : (if t177 = true then (foolscapref5_Search.j0 k a3 a4 t174 ((t174.length : Int) == 0) a1_0 a1_1) else (foolscapref5_Search.j0 k a3 a4 t174 true a1_0 a1_1)) = some (r1, r2, r3, r4, r5, r6) := H
  have A11 := Aside0.mk A110
  clear A110
  by_cases c12 : t177 = true
  ·subst c12
   have H1 : (foolscapref5_Search.j0 k a3 a4 t174 ((t174.length : Int) == 0) a1_0 a1_1) = some (r1, r2, r3, r4, r5, r6) := by rw [if_pos rfl] at H; exact H
   clear H
   have H := H1
   clear H1
   have H' := Aside0.mk H
   clear H
   have hnb13 := NB172_173.out
   have hnc13 := NB173_172.out
   have hcz14_0 : w10.cell? ⟨gb172, 0, none⟩ = some (.int .i64 a1_0) := (blk_cell BK172.out 0).trans rfl
   have hcz14_1 : w10.cell? ⟨gb172, 1, none⟩ = some (.int .i64 a1_1) := (blk_cell BK172.out 1).trans rfl
   have hfz14_0 := blk_frozen BK172.out 0
   have hfz14_1 := blk_frozen BK172.out 1
   go_wp2_with (first | ((with_reducible refine gate_callee (f := 32) rfl ?_); refine goesL_ (some 23) rfl rfl Try.func32 (by kernel_rfl) rfl #[.slice A0 l0.length c0, .agg #[.int .i64 a1_0, .int .i64 a1_1], .int .i64 a4] rfl (by first | rfl | (simp only [List.map_toArray, List.map_cons, List.map_nil] <;> rfl)) ?_; (with_reducible refine (foolscapref5_may.calls _ _ l0 a1_0 a1_1 a4 true _ ?side1 ?side2 A11.out).mono ?_); (case side1 => repeat (first | exact (Kd.C_below HR0.out HB.out) | (with_reducible refine Kd.C_alloc ?_ _) | (with_reducible refine Kd.C_drewN ?_ _) | (with_reducible refine Kd.C_drew ?_))); (case side2 => exact HC0.out); rintro e w15 ⟨rfl, hb⟩; refine ⟨_, rfl, ?_⟩; have n0_ := Aside0.mk (Kd.R_below (by (with_reducible repeat (first | apply Kd.R_alloc | apply Kd.R_drewN | apply Kd.R_drew)); exact HO176.out) hb); have n1_ := Aside0.mk (blk_below (pk BK172.out) hb); have n2_ := Aside0.mk (blk_below (pk BK173.out) hb); have n3_ := Aside0.mk (below_step (by repeat with_reducible first | exact HB.out | apply ba | apply bn | apply bd | refine bset ?_ (by assumption)) hb); clear HO176; clear BK172; clear BK173; clear HB; have HO176 := n0_; have BK172 := n1_; have BK173 := n2_; have HB := n3_; clear n0_ n1_ n2_ n3_; (try clear hb); (try clear hb2); (try clear hk); (try clear hi); obtain ⟨Ao16, co16, eo16⟩ := Kd.R_slice HO176.out; subst eo16))
   go_meet
   case rel => exact ⟨_, (((t174.length : Int) == 0)), (by first | rfl | (simp; done) | (simp [*]; done)), H', ⟨by first | omega | exact Nat.le_refl _⟩, ⟨by (with_reducible repeat (first | apply Kd.R_alloc | apply Kd.R_drewN | apply Kd.R_drew)); exact Kd.R_mono HO176.out (fun _ hk => hk.2)⟩, ⟨by exact pk BK172.out⟩, ⟨by exact pk BK173.out⟩, ⟨by repeat with_reducible first | exact HB.out | apply ba | apply bn | apply bd | refine bset ?_ (by assumption)⟩⟩
  ·replace c12 := Bool.eq_false_iff.mpr c12
   subst c12
   have H1 : (foolscapref5_Search.j0 k a3 a4 t174 true a1_0 a1_1) = some (r1, r2, r3, r4, r5, r6) := by rw [if_neg (show ¬ (false = true) by decide)] at H; exact H
   clear H
   have H := H1
   clear H1
   have H' := Aside0.mk H
   clear H
   have hnb17 := NB172_173.out
   have hnc17 := NB173_172.out
   have hcz18_0 : w10.cell? ⟨gb172, 0, none⟩ = some (.int .i64 a1_0) := (blk_cell BK172.out 0).trans rfl
   have hcz18_1 : w10.cell? ⟨gb172, 1, none⟩ = some (.int .i64 a1_1) := (blk_cell BK172.out 1).trans rfl
   have hfz18_0 := blk_frozen BK172.out 0
   have hfz18_1 := blk_frozen BK172.out 1
   go_wp2_with (first | ((with_reducible refine gate_callee (f := 32) rfl ?_); refine goesL_ (some 23) rfl rfl Try.func32 (by kernel_rfl) rfl #[.slice A0 l0.length c0, .agg #[.int .i64 a1_0, .int .i64 a1_1], .int .i64 a4] rfl (by first | rfl | (simp only [List.map_toArray, List.map_cons, List.map_nil] <;> rfl)) ?_; (with_reducible refine (foolscapref5_may.calls _ _ l0 a1_0 a1_1 a4 false _ ?side1 ?side2 A11.out).mono ?_); (case side1 => repeat (first | exact (Kd.C_below HR0.out HB.out) | (with_reducible refine Kd.C_alloc ?_ _) | (with_reducible refine Kd.C_drewN ?_ _) | (with_reducible refine Kd.C_drew ?_))); (case side2 => exact HC0.out); rintro e w19 ⟨rfl, hb⟩; refine ⟨_, rfl, ?_⟩; have n0_ := Aside0.mk (Kd.R_below (by (with_reducible repeat (first | apply Kd.R_alloc | apply Kd.R_drewN | apply Kd.R_drew)); exact HO176.out) hb); have n1_ := Aside0.mk (blk_below (pk BK172.out) hb); have n2_ := Aside0.mk (blk_below (pk BK173.out) hb); have n3_ := Aside0.mk (below_step (by repeat with_reducible first | exact HB.out | apply ba | apply bn | apply bd | refine bset ?_ (by assumption)) hb); clear HO176; clear BK172; clear BK173; clear HB; have HO176 := n0_; have BK172 := n1_; have BK173 := n2_; have HB := n3_; clear n0_ n1_ n2_ n3_; (try clear hb); (try clear hb2); (try clear hk); (try clear hi)))
   go_meet
   case rel => exact ⟨_, (true), (by first | rfl | (simp; done) | (simp [*]; done)), H', ⟨by first | omega | exact Nat.le_refl _⟩, ⟨by (with_reducible repeat (first | apply Kd.R_alloc | apply Kd.R_drewN | apply Kd.R_drew)); exact Kd.R_mono HO176.out (fun _ hk => hk.2)⟩, ⟨by exact pk BK172.out⟩, ⟨by exact pk BK173.out⟩, ⟨by repeat with_reducible first | exact HB.out | apply ba | apply bn | apply bd | refine bset ?_ (by assumption)⟩⟩
 case rest =>
  clear HC7
  try clear c1
  try clear c2
  try clear p2
  try clear c3
  try clear c11
  try clear c12
  try clear c13
  try clear c17
  try clear hcz14_0
  try clear hcz14_1
  try clear hcz18_0
  try clear hcz18_1
  try clear hfz14_0
  try clear hfz14_1
  try clear hfz18_0
  try clear hfz18_1
  obtain ⟨kq, x29_6, rfl, HA, HJ6, HO_12, BK172, BK173, HB⟩ := hcut
  cases kq with
  | zero => exact absurd HA.out (by simp [foolscapref5_Search.j0])
  | succ kj6 =>
   have H := HA.out
   clear HA
   simp only [foolscapref5_Search.j0] at H
   by_cases c20 : x29_6 = true
   ·subst c20
    have H1 : ((foolscapref5_none.f).bind fun bt178 => (some (bt178.1, bt178.2.1, bt178.2.2.1, bt178.2.2.2.1, bt178.2.2.2.2.1, bt178.2.2.2.2.2))) = some (r1, r2, r3, r4, r5, r6) := by rw [if_pos rfl] at H; exact H
    clear H
    have H := H1
    clear H1
    replace H := Option.bind_eq_some_iff.mp H
    obtain ⟨⟨t178, t179, t180, t181, t182, t183⟩, A210, H⟩ := H
    replace H : (some (t178, t179, t180, t181, t182, t183)) = some (r1, r2, r3, r4, r5, r6) := H
    have A21 := Aside0.mk A210
    clear A210
    simp only [Option.some.injEq, Prod.mk.injEq] at H
    obtain ⟨rfl, rfl, rfl, rfl, rfl, rfl⟩ := H
    go_wp2_with (first | ((with_reducible refine gate_callee (f := 33) rfl ?_); refine goesL_ (some 30) rfl rfl Try.func33 (by kernel_rfl) rfl #[] rfl (by first | rfl | (simp only [List.map_toArray, List.map_cons, List.map_nil] <;> rfl)) ?_; (with_reducible refine (foolscapref5_none.calls  t178 t179 t180 t181 t182 t183 _ A21.out).mono ?_); rintro e w22 ⟨rfl, hb⟩; refine ⟨_, rfl, ?_⟩; have n0_ := Aside0.mk (Kd.R_below (by (with_reducible repeat (first | apply Kd.R_alloc | apply Kd.R_drewN | apply Kd.R_drew)); exact HO_12.out) hb); have n1_ := Aside0.mk (blk_below (pk BK172.out) hb); have n2_ := Aside0.mk (blk_below (pk BK173.out) hb); have n3_ := Aside0.mk (below_step (by repeat with_reducible first | exact HB.out | apply ba | apply bn | apply bd | refine bset ?_ (by assumption)) hb); clear HO_12; clear BK172; clear BK173; clear HB; have HO_12 := n0_; have BK172 := n1_; have BK173 := n2_; have HB := n3_; clear n0_ n1_ n2_ n3_; (try clear hb); (try clear hb2); (try clear hk); (try clear hi); have hnb23 := NB173_172.out; have hnc23 := NB172_173.out; have hcz24_0 : w22.cell? ⟨gb173, 0, none⟩ = some (.int .i64 0) := (blk_cell BK173.out 0).trans rfl; have hcz24_1 : w22.cell? ⟨gb173, 1, none⟩ = some (.int .i64 0) := (blk_cell BK173.out 1).trans rfl; have hcz24_2 : w22.cell? ⟨gb173, 2, none⟩ = some (.int .i64 0) := (blk_cell BK173.out 2).trans rfl; have hcz24_3 : w22.cell? ⟨gb173, 3, none⟩ = some (.bool false) := (blk_cell BK173.out 3).trans rfl; have hcz24_4 : w22.cell? ⟨gb173, 4, none⟩ = some (.int .i64 0) := (blk_cell BK173.out 4).trans rfl; have hfz24_0 := blk_frozen BK173.out 0; have hfz24_1 := blk_frozen BK173.out 1; have hfz24_2 := blk_frozen BK173.out 2; have hfz24_3 := blk_frozen BK173.out 3; have hfz24_4 := blk_frozen BK173.out 4))
    refine bodyPost_ret (results_ct rfl _ _ gb173 30 #[.int .i64 t178, .int .i64 t179, .int .i64 t180, .bool t181, .int .i64 t182] (0, 0) _ rfl (by refine pk ?_; refine blk_put (cs := #[.int .i64 t178, .int .i64 t179, .int .i64 t180, .bool t181, .int .i64 0]) ?_ 4 _ rfl; refine pk ?_; refine blk_put (cs := #[.int .i64 t178, .int .i64 t179, .int .i64 t180, .bool false, .int .i64 0]) ?_ 3 _ rfl; refine pk ?_; refine blk_put (cs := #[.int .i64 t178, .int .i64 t179, .int .i64 0, .bool false, .int .i64 0]) ?_ 2 _ rfl; refine pk ?_; refine blk_put (cs := #[.int .i64 t178, .int .i64 0, .int .i64 0, .bool false, .int .i64 0]) ?_ 1 _ rfl; refine pk ?_; refine blk_put (cs := #[.int .i64 0, .int .i64 0, .int .i64 0, .bool false, .int .i64 0]) ?_ 0 _ rfl; exact pk BK173.out) Try.underlying30 rfl (by kernel_rfl)) rfl ?_
    exact ⟨by first | rfl | (simp [errW_none, errW_some] <;> rfl) | (simp [*, errW_none, errW_some] <;> rfl), by repeat with_reducible first | exact HB.out | apply ba | apply bn | apply bd | refine bset ?_ (by assumption)⟩
   ·replace c20 := Bool.eq_false_iff.mpr c20
    subst c20
    have H1 : ((foolscapref5_behind.f kj6 t174 a1_0 a1_1 false).bind fun t184 => (if a3 = true then ((foolscapref5_ahead.f kj6 t174 a1_0 a1_1).bind fun t187 => (foolscapref5_Search.j1 kj6 a3 a4 t174 t187 a1_0 a1_1)) else (foolscapref5_Search.j1 kj6 a3 a4 t174 t184 a1_0 a1_1))) = some (r1, r2, r3, r4, r5, r6) := by rw [if_neg (show ¬ (false = true) by decide)] at H; exact H
    clear H
    have H := H1
    clear H1
    replace H := Option.bind_eq_some_iff.mp H
    obtain ⟨t184, A250, H⟩ := H
    replace H : (if a3 = true then ((foolscapref5_ahead.f kj6 t174 a1_0 a1_1).bind fun t187 => (foolscapref5_Search.j1 kj6 a3 a4 t174 t187 a1_0 a1_1)) else (foolscapref5_Search.j1 kj6 a3 a4 t174 t184 a1_0 a1_1)) = some (r1, r2, r3, r4, r5, r6) := H
    have A25 := Aside0.mk A250
    clear A250
    have HC26 := Aside0.mk H
    clear H
    have hnb27 := NB172_173.out
    have hnc27 := NB173_172.out
    have hcz28_0 : wc.cell? ⟨gb172, 0, none⟩ = some (.int .i64 a1_0) := (blk_cell BK172.out 0).trans rfl
    have hcz28_1 : wc.cell? ⟨gb172, 1, none⟩ = some (.int .i64 a1_1) := (blk_cell BK172.out 1).trans rfl
    have hfz28_0 := blk_frozen BK172.out 0
    have hfz28_1 := blk_frozen BK172.out 1
    obtain ⟨Ao29, co29, eo29⟩ := Kd.R_slice HO_12.out
    subst eo29
    go_upto_if 36 with (first | ((with_reducible refine gate_callee (f := 34) rfl ?_); refine goesL_ (some 35) rfl rfl Try.func34 (by kernel_rfl) rfl #[.slice Ao29 t174.length co29, .agg #[.int .i64 a1_0, .int .i64 a1_1], .bool false] rfl (by first | rfl | (simp only [List.map_toArray, List.map_cons, List.map_nil] <;> rfl)) ?_; (with_reducible refine (foolscapref5_behind.calls kj6 _ _ t174 a1_0 a1_1 false t184 _ ?side1 ?side2 A25.out).mono ?_); (case side1 => repeat (first | exact (Kd.R_reads' HO_12.out).2.2 | (with_reducible refine Kd.C_alloc ?_ _) | (with_reducible refine Kd.C_drewN ?_ _) | (with_reducible refine Kd.C_drew ?_))); (case side2 => exact (Kd.R_reads' HO_12.out).2.1); rintro e w30 ⟨v185, rfl, ho0, hb⟩; refine ⟨_, rfl, ?_⟩; have n0_ := Aside0.mk (Kd.R_elder' (by (with_reducible repeat (first | apply Kd.R_alloc | apply Kd.R_drewN | apply Kd.R_drew)); exact HO_12.out) (Kd.R_base ho0) hb); have n1_ := Aside0.mk (Kd.R_lower (Kd.R_newB (Kd.R_new' ho0 (Kd.R_lt (by (with_reducible repeat (first | apply Kd.R_alloc | apply Kd.R_drewN | apply Kd.R_drew)); exact HO_12.out))) (pk BK172.out)) (below_size (by repeat with_reducible first | exact HB.out | apply ba | apply bn | apply bd | refine bset ?_ (by assumption)))); have n2_ := Aside0.mk (blk_below (pk BK172.out) hb); have n3_ := Aside0.mk (blk_below (pk BK173.out) hb); have n4_ := Aside0.mk (below_step (by repeat with_reducible first | exact HB.out | apply ba | apply bn | apply bd | refine bset ?_ (by assumption)) hb); clear HO_12; clear BK172; clear BK173; clear HB; have HO_12 := n0_; have HO186 := n1_; have BK172 := n2_; have BK173 := n3_; have HB := n4_; clear n0_ n1_ n2_ n3_ n4_; (try clear hb); (try clear hb2); (try clear hk); (try clear hi); (try clear ho0)))
    (try simp only [Act.put, List.setIfInBounds_toArray, List.set_cons_zero, List.set_cons_succ])
    go_cut [13] (fun v13 wc => ∃ (kq : Nat) (x13_25 : List (S28)), Aside0 (foolscapref5_Search.j1 kq a3 a4 t174 x13_25 a1_0 a1_1 = some (r1, r2, r3, r4, r5, r6)) ∧ Aside0 (kq ≤ kj6) ∧ Aside0 (Kd.R k28 28 wc w.heap.size (fun k_ => some k_ ≠ (v13 : Value).ownBlock ∧ k_ ≠ gb172) (.slice Ao29 t174.length co29) t174) ∧ Aside0 (Kd.R k28 28 wc w.heap.size (fun k_ => some k_ ≠ ((.slice Ao29 t174.length co29) : Value).ownBlock ∧ k_ ≠ gb172) v13 x13_25) ∧ Aside0 (wc.heap[gb172]? = some (.cells #[.int .i64 a1_0, .int .i64 a1_1] 28 (0, 0))) ∧ Aside0 (wc.heap[gb173]? = some (.cells #[.int .i64 0, .int .i64 0, .int .i64 0, .bool false, .int .i64 0] 30 (0, 0))) ∧ Aside0 (Below w.heap.size w wc))
    case first =>
     have H := HC26.out
     clear HC26
     by_cases c31 : a3 = true
     ·subst c31
      have H1 : ((foolscapref5_ahead.f kj6 t174 a1_0 a1_1).bind fun t187 => (foolscapref5_Search.j1 kj6 true a4 t174 t187 a1_0 a1_1)) = some (r1, r2, r3, r4, r5, r6) := by rw [if_pos rfl] at H; exact H
      clear H
      have H := H1
      clear H1
      replace H := Option.bind_eq_some_iff.mp H
      obtain ⟨t187, A320, H⟩ := H
      replace H : (foolscapref5_Search.j1 kj6 true a4 t174 t187 a1_0 a1_1) = some (r1, r2, r3, r4, r5, r6) := H
      have A32 := Aside0.mk A320
      clear A320
      have H' := Aside0.mk H
      clear H
      have hnb33 := NB172_173.out
      have hnc33 := NB173_172.out
      have hcz34_0 : w30.cell? ⟨gb172, 0, none⟩ = some (.int .i64 a1_0) := (blk_cell BK172.out 0).trans rfl
      have hcz34_1 : w30.cell? ⟨gb172, 1, none⟩ = some (.int .i64 a1_1) := (blk_cell BK172.out 1).trans rfl
      have hfz34_0 := blk_frozen BK172.out 0
      have hfz34_1 := blk_frozen BK172.out 1
      go_wp2_with (first | ((with_reducible refine gate_callee (f := 35) rfl ?_); refine goesL_ (some 39) rfl rfl Try.func35 (by kernel_rfl) rfl #[.slice Ao29 t174.length co29, .agg #[.int .i64 a1_0, .int .i64 a1_1]] rfl (by first | rfl | (simp only [List.map_toArray, List.map_cons, List.map_nil] <;> rfl)) ?_; (with_reducible refine (foolscapref5_ahead.calls kj6 _ _ t174 a1_0 a1_1 t187 _ ?side1 ?side2 A32.out).mono ?_); (case side1 => repeat (first | exact (Kd.R_reads' HO_12.out).2.2 | (with_reducible refine Kd.C_alloc ?_ _) | (with_reducible refine Kd.C_drewN ?_ _) | (with_reducible refine Kd.C_drew ?_))); (case side2 => exact (Kd.R_reads' HO_12.out).2.1); rintro e w35 ⟨v188, rfl, ho0, hb⟩; refine ⟨_, rfl, ?_⟩; have n0_ := Aside0.mk (Kd.R_elder' (by (with_reducible repeat (first | apply Kd.R_alloc | apply Kd.R_drewN | apply Kd.R_drew)); exact HO_12.out) (Kd.R_base ho0) hb); have n1_ := Aside0.mk (Kd.R_elder' (by (with_reducible repeat (first | apply Kd.R_alloc | apply Kd.R_drewN | apply Kd.R_drew)); exact HO186.out) (Kd.R_base ho0) hb); have n2_ := Aside0.mk (Kd.R_lower (Kd.R_newB (Kd.R_new' (Kd.R_new' ho0 (Kd.R_lt (by (with_reducible repeat (first | apply Kd.R_alloc | apply Kd.R_drewN | apply Kd.R_drew)); exact HO_12.out))) (Kd.R_lt (by (with_reducible repeat (first | apply Kd.R_alloc | apply Kd.R_drewN | apply Kd.R_drew)); exact HO186.out))) (pk BK172.out)) (below_size (by repeat with_reducible first | exact HB.out | apply ba | apply bn | apply bd | refine bset ?_ (by assumption)))); have n3_ := Aside0.mk (blk_below (pk BK172.out) hb); have n4_ := Aside0.mk (blk_below (pk BK173.out) hb); have n5_ := Aside0.mk (below_step (by repeat with_reducible first | exact HB.out | apply ba | apply bn | apply bd | refine bset ?_ (by assumption)) hb); clear HO_12; clear HO186; clear BK172; clear BK173; clear HB; have HO_12 := n0_; have HO186 := n1_; have HO189 := n2_; have BK172 := n3_; have BK173 := n4_; have HB := n5_; clear n0_ n1_ n2_ n3_ n4_ n5_; (try clear hb); (try clear hb2); (try clear hk); (try clear hi); (try clear ho0)))
      go_meet
      case rel => exact ⟨_, (t187), H', ⟨by have := HJ6.out; first | omega | exact Nat.le_refl _⟩, ⟨by (with_reducible repeat (first | apply Kd.R_alloc | apply Kd.R_drewN | apply Kd.R_drew)); exact Kd.R_mono HO_12.out (fun _ hk => ⟨hk.2, hk.1.1⟩)⟩, ⟨by (with_reducible repeat (first | apply Kd.R_alloc | apply Kd.R_drewN | apply Kd.R_drew)); exact Kd.R_mono HO189.out (fun _ hk => ⟨hk.1.1.2, hk.2⟩)⟩, ⟨by exact pk BK172.out⟩, ⟨by exact pk BK173.out⟩, ⟨by repeat with_reducible first | exact HB.out | apply ba | apply bn | apply bd | refine bset ?_ (by assumption)⟩⟩
     ·replace c31 := Bool.eq_false_iff.mpr c31
      subst c31
      have H1 : (foolscapref5_Search.j1 kj6 false a4 t174 t184 a1_0 a1_1) = some (r1, r2, r3, r4, r5, r6) := by rw [if_neg (show ¬ (false = true) by decide)] at H; exact H
      clear H
      have H := H1
      clear H1
      have H' := Aside0.mk H
      clear H
      go_wp2
      go_meet
      case rel => exact ⟨_, (t184), H', ⟨by have := HJ6.out; first | omega | exact Nat.le_refl _⟩, ⟨by (with_reducible repeat (first | apply Kd.R_alloc | apply Kd.R_drewN | apply Kd.R_drew)); exact Kd.R_mono HO_12.out (fun _ hk => ⟨hk.2, hk.1⟩)⟩, ⟨by (with_reducible repeat (first | apply Kd.R_alloc | apply Kd.R_drewN | apply Kd.R_drew)); exact Kd.R_mono HO186.out (fun _ hk => ⟨hk.1.2, hk.2⟩)⟩, ⟨by exact pk BK172.out⟩, ⟨by exact pk BK173.out⟩, ⟨by repeat with_reducible first | exact HB.out | apply ba | apply bn | apply bd | refine bset ?_ (by assumption)⟩⟩
    case rest =>
     clear HC26
     try clear c1
     try clear c2
     try clear p2
     try clear c3
     try clear c11
     try clear c12
     try clear c13
     try clear c17
     try clear c20
     try clear c23
     try clear c27
     try clear c31
     try clear c32
     try clear c33
     try clear c34
     try clear c35
     try clear hcz14_0
     try clear hcz14_1
     try clear hcz18_0
     try clear hcz18_1
     try clear hcz24_0
     try clear hcz24_1
     try clear hcz24_2
     try clear hcz24_3
     try clear hcz24_4
     try clear hcz28_0
     try clear hcz28_1
     try clear hcz34_0
     try clear hcz34_1
     try clear hfz14_0
     try clear hfz14_1
     try clear hfz18_0
     try clear hfz18_1
     try clear hfz24_0
     try clear hfz24_1
     try clear hfz24_2
     try clear hfz24_3
     try clear hfz24_4
     try clear hfz28_0
     try clear hfz28_1
     try clear hfz34_0
     try clear hfz34_1
     try clear p2
     obtain ⟨kq, x13_25, HA, HJ25, HO_12, HO_13, BK172, BK173, HB⟩ := hcut
     cases kq with
     | zero => exact absurd HA.out (by simp [foolscapref5_Search.j1])
     | succ kj25 =>
      have H := HA.out
      clear HA
      simp only [foolscapref5_Search.j1] at H
      have H' := Aside0.mk H
      clear H
      go_wp2
      go_loopg [13, 14] kj25 (fun kq v13 v14 w' => ∃ (x13_3 : List (S28)) (x14_3 : Int), v14 = .int .i64 x14_3 ∧ Aside0 (foolscapref5_Search.l0 kq a3 a4 t174 x13_3 x14_3 a1_0 a1_1 = some (r1, r2, r3, r4, r5, r6)) ∧ Aside0 (kq ≤ kj25) ∧ Aside0 (Kd.R k28 28 w' w.heap.size (fun k_ => some k_ ≠ (v13 : Value).ownBlock ∧ k_ ≠ gb172) (.slice Ao29 t174.length co29) t174) ∧ Aside0 (Kd.R k28 28 w' w.heap.size (fun k_ => some k_ ≠ ((.slice Ao29 t174.length co29) : Value).ownBlock ∧ k_ ≠ gb172) v13 x13_3) ∧ Aside0 (w'.heap[gb172]? = some (.cells #[.int .i64 a1_0, .int .i64 a1_1] 28 (0, 0))) ∧ Aside0 (w'.heap[gb173]? = some (.cells #[.int .i64 0, .int .i64 0, .int .i64 0, .bool false, .int .i64 0] 30 (0, 0))) ∧ Aside0 (Below w.heap.size w w'))
      case atStart => exact ⟨(x13_25), (0), (by first | rfl | (simp; done) | (simp [*]; done)), H', ⟨Nat.le_refl _⟩, ⟨by (with_reducible repeat (first | apply Kd.R_alloc | apply Kd.R_drewN | apply Kd.R_drew)); exact HO_12.out⟩, ⟨by (with_reducible repeat (first | apply Kd.R_alloc | apply Kd.R_drewN | apply Kd.R_drew)); exact HO_13.out⟩, ⟨by exact pk BK172.out⟩, ⟨by exact pk BK173.out⟩, ⟨by repeat with_reducible first | exact HB.out | apply ba | apply bn | apply bd | refine bset ?_ (by assumption)⟩⟩
      case round =>
       clear H'
       try clear c1
       try clear c2
       try clear p2
       try clear c3
       try clear c11
       try clear c12
       try clear c13
       try clear c17
       try clear c20
       try clear c23
       try clear c27
       try clear c31
       try clear c32
       try clear c33
       try clear c34
       try clear c35
       try clear hcz14_0
       try clear hcz14_1
       try clear hcz18_0
       try clear hcz18_1
       try clear hcz24_0
       try clear hcz24_1
       try clear hcz24_2
       try clear hcz24_3
       try clear hcz24_4
       try clear hcz28_0
       try clear hcz28_1
       try clear hcz34_0
       try clear hcz34_1
       try clear hfz14_0
       try clear hfz14_1
       try clear hfz18_0
       try clear hfz18_1
       try clear hfz24_0
       try clear hfz24_1
       try clear hfz24_2
       try clear hfz24_3
       try clear hfz24_4
       try clear hfz28_0
       try clear hfz28_1
       try clear hfz34_0
       try clear hfz34_1
       try clear p2
       obtain ⟨x13_3, x14_3, rfl, HA, HK3, HO_12, HO_13, BK172, BK173, HB⟩ := hrel
       cases gk with
       | zero => exact absurd HA.out (by simp [foolscapref5_Search.l0])
       | succ k3 =>
        have H := HA.out
        clear HA
        simp only [foolscapref5_Search.l0] at H
        by_cases c36 : x14_3 < (t174.length : Int)
        ·rw [if_pos c36] at H
         have c36b0 : decide (x14_3 < (t174.length : Int)) = true := decide_eq_true c36
         clear c36
         have HC37 := Aside0.mk H
         clear H
         go_upto_if 47 with (fail)
         go_cut [15] (fun v15 wc => ∃ (kq : Nat) (x15_36 : Int), v15 = .int .i64 x15_36 ∧ Aside0 (foolscapref5_Search.j3 kq a3 a4 t174 x13_3 x14_3 x15_36 a1_0 a1_1 = some (r1, r2, r3, r4, r5, r6)) ∧ Aside0 (kq ≤ k3) ∧ Aside0 (Kd.R k28 28 wc w.heap.size (fun k_ => some k_ ≠ (u13 : Value).ownBlock ∧ k_ ≠ gb172) (.slice Ao29 t174.length co29) t174) ∧ Aside0 (Kd.R k28 28 wc w.heap.size (fun k_ => some k_ ≠ ((.slice Ao29 t174.length co29) : Value).ownBlock ∧ k_ ≠ gb172) u13 x13_3) ∧ Aside0 (wc.heap[gb172]? = some (.cells #[.int .i64 a1_0, .int .i64 a1_1] 28 (0, 0))) ∧ Aside0 (wc.heap[gb173]? = some (.cells #[.int .i64 0, .int .i64 0, .int .i64 0, .bool false, .int .i64 0] 30 (0, 0))) ∧ Aside0 (Below w.heap.size w wc))
         case first =>
          have H := HC37.out
          clear HC37
          by_cases c38 : a3 = true
          ·subst c38
           have H1 : (foolscapref5_Search.j3 k3 true a4 t174 x13_3 x14_3 (wrap64 ((wrap64 ((t174.length : Int) - 1)) - x14_3)) a1_0 a1_1) = some (r1, r2, r3, r4, r5, r6) := by rw [if_pos rfl] at H; exact H
           clear H
           have H := H1
           clear H1
           have H' := Aside0.mk H
           clear H
           go_wp2
           go_meet
           case rel => exact ⟨_, (wrap64 ((wrap64 ((t174.length : Int) - 1)) - x14_3)), (by first | rfl | (simp; done) | (simp [*]; done)), H', ⟨by have := HJ6.out; have := HJ25.out; have := HK3.out; first | omega | exact Nat.le_refl _⟩, ⟨by (with_reducible repeat (first | apply Kd.R_alloc | apply Kd.R_drewN | apply Kd.R_drew)); exact HO_12.out⟩, ⟨by (with_reducible repeat (first | apply Kd.R_alloc | apply Kd.R_drewN | apply Kd.R_drew)); exact HO_13.out⟩, ⟨by exact pk BK172.out⟩, ⟨by exact pk BK173.out⟩, ⟨by repeat with_reducible first | exact HB.out | apply ba | apply bn | apply bd | refine bset ?_ (by assumption)⟩⟩
          ·replace c38 := Bool.eq_false_iff.mpr c38
           subst c38
           have H1 : (foolscapref5_Search.j3 k3 false a4 t174 x13_3 x14_3 x14_3 a1_0 a1_1) = some (r1, r2, r3, r4, r5, r6) := by rw [if_neg (show ¬ (false = true) by decide)] at H; exact H
           clear H
           have H := H1
           clear H1
           have H' := Aside0.mk H
           clear H
           go_wp2
           go_meet
           case rel => exact ⟨_, (x14_3), (by first | rfl | (simp; done) | (simp [*]; done)), H', ⟨by have := HJ6.out; have := HJ25.out; have := HK3.out; first | omega | exact Nat.le_refl _⟩, ⟨by (with_reducible repeat (first | apply Kd.R_alloc | apply Kd.R_drewN | apply Kd.R_drew)); exact HO_12.out⟩, ⟨by (with_reducible repeat (first | apply Kd.R_alloc | apply Kd.R_drewN | apply Kd.R_drew)); exact HO_13.out⟩, ⟨by exact pk BK172.out⟩, ⟨by exact pk BK173.out⟩, ⟨by repeat with_reducible first | exact HB.out | apply ba | apply bn | apply bd | refine bset ?_ (by assumption)⟩⟩
         case rest =>
          clear HC37
          try clear c1
          try clear c2
          try clear p2
          try clear c3
          try clear p6
          try clear c11
          try clear c12
          try clear c13
          try clear c17
          try clear c20
          try clear c23
          try clear c27
          try clear c31
          try clear c32
          try clear c33
          try clear c34
          try clear c35
          try clear c36
          try clear c36b0
          try clear c38
          try clear hcz14_0
          try clear hcz14_1
          try clear hcz18_0
          try clear hcz18_1
          try clear hcz24_0
          try clear hcz24_1
          try clear hcz24_2
          try clear hcz24_3
          try clear hcz24_4
          try clear hcz28_0
          try clear hcz28_1
          try clear hcz34_0
          try clear hcz34_1
          try clear hfz14_0
          try clear hfz14_1
          try clear hfz18_0
          try clear hfz18_1
          try clear hfz24_0
          try clear hfz24_1
          try clear hfz24_2
          try clear hfz24_3
          try clear hfz24_4
          try clear hfz28_0
          try clear hfz28_1
          try clear hfz34_0
          try clear hfz34_1
          try clear p2
          obtain ⟨kq, x15_36, rfl, HA, HJ36, HO_12, HO_13, BK172, BK173, HB⟩ := hcut
          cases kq with
          | zero => exact absurd HA.out (by simp [foolscapref5_Search.j3])
          | succ kj36 =>
           have H := HA.out
           clear HA
           simp only [foolscapref5_Search.j3] at H
           by_cases c39 : 0 ≤ x15_36
           ·rw [if_pos c39] at H
            have c39b0 : decide (0 ≤ x15_36) = true := decide_eq_true c39
            clear c39
            by_cases c40 : x15_36 < (t174.length : Int)
            ·rw [if_pos c40] at H
             have c40b0 : decide (x15_36 < (t174.length : Int)) = true := decide_eq_true c40
             clear c40
             by_cases c41 : a3 = true
             ·subst c41
              have H1 : ((foolscapref5_Less.f ((rd_T28 t174 x15_36).f0) ((rd_T28 t174 x15_36).f1) a1_0 a1_1).bind fun t200 => (if t200 = true then (foolscapref5_Search.l0 kj36 true a4 t174 x13_3 (wrap64 (x14_3 + 1)) a1_0 a1_1) else (if x13_3.length < 8796093022208 then (foolscapref5_Search.l0 kj36 true a4 t174 (x13_3 ++ [(⟨(rd_T28 t174 x15_36).f0, (rd_T28 t174 x15_36).f1⟩ : S28)]) (wrap64 (x14_3 + 1)) a1_0 a1_1) else (none)))) = some (r1, r2, r3, r4, r5, r6) := by rw [if_pos rfl] at H; exact H
              clear H
              have H := H1
              clear H1
              replace H := Option.bind_eq_some_iff.mp H
              obtain ⟨t200, A420, H⟩ := H
              replace H : (if t200 = true then (foolscapref5_Search.l0 kj36 true a4 t174 x13_3 (wrap64 (x14_3 + 1)) a1_0 a1_1) else (if x13_3.length < 8796093022208 then (foolscapref5_Search.l0 kj36 true a4 t174 (x13_3 ++ [(⟨(rd_T28 t174 x15_36).f0, (rd_T28 t174 x15_36).f1⟩ : S28)]) (wrap64 (x14_3 + 1)) a1_0 a1_1) else (none))) = some (r1, r2, r3, r4, r5, r6) := H
              have A42 := Aside0.mk A420
              clear A420
              by_cases c43 : t200 = true
              ·subst c43
               have H1 : (foolscapref5_Search.l0 kj36 true a4 t174 x13_3 (wrap64 (x14_3 + 1)) a1_0 a1_1) = some (r1, r2, r3, r4, r5, r6) := by rw [if_pos rfl] at H; exact H
               clear H
               have H := H1
               clear H1
               have H' := Aside0.mk H
               clear H
               have p198 : 0 ≤ (x15_36 : Int) := of_decide_eq_true (by first | (with_reducible assumption) | assumption)
               have q198 : x15_36 < (t174.length : Int) := of_decide_eq_true (by first | (with_reducible assumption) | assumption)
               obtain ⟨ad198, e198, hx198_0, hx198_1⟩ := at_T28 (Kd.R_reads' HO_12.out).2.2 x15_36 p198 q198
               cases e198
               replace p198 := eq_true p198
               replace q198 := eq_true q198
               go_wp2_with (first | ((with_reducible refine gate_dst (N := 16) rfl ?_); (try (refine gate_guard (by rfl) ?_; dsimp only)); refine box_event ?hg (N := 16) ?hd (cs := #[.int .i64 0, .int .i64 0]) (t := 28) ?hr ?_; (case hd => rfl); (case hg => rfl); (case hr => first | (go_simp; done) | (go_simp; rfl)); intro gb199 hg w44 hbox hb; have n0_ := Aside0.mk (Kd.R_below (Kd.R_elderB (by (with_reducible repeat (first | apply Kd.R_alloc | apply Kd.R_drewN | apply Kd.R_drew)); exact HO_12.out) gb199 (Nat.le_of_eq hg.symm)) hb); have n1_ := Aside0.mk (Kd.R_below (Kd.R_elderB (by (with_reducible repeat (first | apply Kd.R_alloc | apply Kd.R_drewN | apply Kd.R_drew)); exact HO_13.out) gb199 (Nat.le_of_eq hg.symm)) hb); have n2_ := Aside0.mk (blk_below (pk BK172.out) hb); have n3_ := Aside0.mk (blk_below (pk BK173.out) hb); have n4_ := Aside0.mk (below_step (by repeat with_reducible first | exact HB.out | apply ba | apply bn | apply bd | refine bset ?_ (by assumption)) hb); have n5_ := Aside0.mk (hbox); have n6_ := Aside0.mk ((by rw [hg]; exact (below_size (by repeat with_reducible first | exact HB.out | apply ba | apply bn | apply bd | refine bset ?_ (by assumption))) : w.heap.size ≤ gb199)); have n7_ := n6_; have n8_ := Aside0.mk ((by rw [hg]; exact Nat.ne_of_lt (blk_lt (pk BK172.out)) : gb172 ≠ gb199)); have n9_ := Aside0.mk ((by rw [hg]; exact Nat.ne_of_gt (blk_lt (pk BK172.out)) : gb199 ≠ gb172)); have n10_ := Aside0.mk ((by rw [hg]; exact Nat.ne_of_lt (blk_lt (pk BK173.out)) : gb173 ≠ gb199)); have n11_ := Aside0.mk ((by rw [hg]; exact Nat.ne_of_gt (blk_lt (pk BK173.out)) : gb199 ≠ gb173)); clear HO_12; clear HO_13; clear BK172; clear BK173; clear HB; have HO_12 := n0_; have HO_13 := n1_; have BK172 := n2_; have BK173 := n3_; have HB := n4_; have BK199 := n5_; have GW199 := n6_; have GE199 := n7_; have NB172_199 := n8_; have NB199_172 := n9_; have NB173_199 := n10_; have NB199_173 := n11_; clear n0_ n1_ n2_ n3_ n4_ n5_ n6_ n7_ n8_ n9_ n10_ n11_; clear hb hbox hg; have hnb45 := NB199_172.out; have hnc45 := NB172_199.out; have hnb46 := NB199_173.out; have hnc46 := NB173_199.out; have hcz47_0 : w44.cell? ⟨gb199, 0, none⟩ = some (.int .i64 0) := (blk_cell BK199.out 0).trans rfl; have hcz47_1 : w44.cell? ⟨gb199, 1, none⟩ = some (.int .i64 0) := (blk_cell BK199.out 1).trans rfl; have hfz47_0 := blk_frozen BK199.out 0; have hfz47_1 := blk_frozen BK199.out 1; have hnb48 := NB172_173.out; have hnc48 := NB173_172.out; have hcz49_0 : w44.cell? ⟨gb172, 0, none⟩ = some (.int .i64 a1_0) := (blk_cell BK172.out 0).trans rfl; have hcz49_1 : w44.cell? ⟨gb172, 1, none⟩ = some (.int .i64 a1_1) := (blk_cell BK172.out 1).trans rfl; have hfz49_0 := blk_frozen BK172.out 0; have hfz49_1 := blk_frozen BK172.out 1) | (go_at_call 36; (with_reducible refine (foolscapref5_Less.calls ((rd_T28 t174 x15_36).f0) ((rd_T28 t174 x15_36).f1) a1_0 a1_1 true _ A42.out).mono ?_); rintro e w50 ⟨rfl, hb⟩; have n0_ := Aside0.mk (Kd.R_below (by (with_reducible repeat (first | apply Kd.R_alloc | apply Kd.R_drewN | apply Kd.R_drew)); exact (Kd.R_mono (Kd.R_far (p := ⟨gb199, 1, none⟩) (Kd.R_far (p := ⟨gb199, 0, none⟩) (Kd.R_mono HO_12.out (fun k_ hk => (⟨hk, hk.2⟩ : _ ∧ k_ ≠ gb199))) (fun _ hk => hk.2) (.int .i64 ((rd_T28 t174 x15_36).f0))) (fun _ hk => hk.2) (.int .i64 ((rd_T28 t174 x15_36).f1))) (fun _ h_ => h_.1))) hb); have n1_ := Aside0.mk (Kd.R_below (by (with_reducible repeat (first | apply Kd.R_alloc | apply Kd.R_drewN | apply Kd.R_drew)); exact (Kd.R_mono (Kd.R_far (p := ⟨gb199, 1, none⟩) (Kd.R_far (p := ⟨gb199, 0, none⟩) (Kd.R_mono HO_13.out (fun k_ hk => (⟨hk, hk.2⟩ : _ ∧ k_ ≠ gb199))) (fun _ hk => hk.2) (.int .i64 ((rd_T28 t174 x15_36).f0))) (fun _ hk => hk.2) (.int .i64 ((rd_T28 t174 x15_36).f1))) (fun _ h_ => h_.1))) hb); have n2_ := Aside0.mk (blk_below (g := gb172) (o := .cells #[.int .i64 a1_0, .int .i64 a1_1] 28 (0, 0)) (by refine pk ?_; refine blk_far ?_ NB172_199.out _; refine pk ?_; refine blk_far ?_ NB172_199.out _; exact pk BK172.out) hb); have n3_ := Aside0.mk (blk_below (g := gb173) (o := .cells #[.int .i64 0, .int .i64 0, .int .i64 0, .bool false, .int .i64 0] 30 (0, 0)) (by refine pk ?_; refine blk_far ?_ NB173_199.out _; refine pk ?_; refine blk_far ?_ NB173_199.out _; exact pk BK173.out) hb); have n4_ := Aside0.mk (blk_below (g := gb199) (o := .cells #[.int .i64 ((rd_T28 t174 x15_36).f0), .int .i64 ((rd_T28 t174 x15_36).f1)] 28 (0, 0)) (by refine pk ?_; refine blk_put (cs := #[.int .i64 ((rd_T28 t174 x15_36).f0), .int .i64 0]) ?_ 1 _ rfl; refine pk ?_; refine blk_put (cs := #[.int .i64 0, .int .i64 0]) ?_ 0 _ rfl; exact pk BK199.out) hb); have n5_ := Aside0.mk (below_step (by repeat with_reducible first | exact HB.out | apply ba | apply bn | apply bd | refine bset ?_ (by assumption)) hb); clear HO_12; clear HO_13; clear BK172; clear BK173; clear BK199; clear HB; have HO_12 := n0_; have HO_13 := n1_; have BK172 := n2_; have BK173 := n3_; have BK199 := n4_; have HB := n5_; clear n0_ n1_ n2_ n3_ n4_ n5_; (try clear hb); (try clear hb2); (try clear hk); (try clear hi)))
               go_roundg kj36
               case measure => have := HJ6.out; have := HJ25.out; have := HK3.out; have := HJ36.out; omega
               case rel => exact ⟨(x13_3), (wrap64 (x14_3 + 1)), (by first | rfl | (simp; done) | (simp [*]; done)), H', ⟨by have := HJ6.out; have := HJ25.out; have := HK3.out; have := HJ36.out; omega⟩, ⟨by (with_reducible repeat (first | apply Kd.R_alloc | apply Kd.R_drewN | apply Kd.R_drew)); exact Kd.R_mono HO_12.out (fun _ hk => ⟨hk.1.1, hk.1.2⟩)⟩, ⟨by (with_reducible repeat (first | apply Kd.R_alloc | apply Kd.R_drewN | apply Kd.R_drew)); exact Kd.R_mono HO_13.out (fun _ hk => ⟨hk.1.1, hk.1.2⟩)⟩, ⟨by exact pk BK172.out⟩, ⟨by exact pk BK173.out⟩, ⟨by repeat with_reducible first | exact HB.out | apply ba | apply bn | apply bd | refine bset ?_ (by assumption)⟩⟩
              ·replace c43 := Bool.eq_false_iff.mpr c43
               subst c43
               have H1 : (if x13_3.length < 8796093022208 then (foolscapref5_Search.l0 kj36 true a4 t174 (x13_3 ++ [(⟨(rd_T28 t174 x15_36).f0, (rd_T28 t174 x15_36).f1⟩ : S28)]) (wrap64 (x14_3 + 1)) a1_0 a1_1) else (none)) = some (r1, r2, r3, r4, r5, r6) := by rw [if_neg (show ¬ (false = true) by decide)] at H; exact H
               clear H
               have H := H1
               clear H1
               by_cases c51 : x13_3.length < 8796093022208
               ·rw [if_pos c51] at H
                have LMc51 := Aside0.mk c51
                clear c51
                obtain ⟨y201, hy201⟩ : ∃ y_ : List (S28), y_ = (x13_3 ++ [(⟨(rd_T28 t174 x15_36).f0, (rd_T28 t174 x15_36).f1⟩ : S28)]) := ⟨_, rfl⟩
                replace H : (foolscapref5_Search.l0 kj36 true a4 t174 y201 (wrap64 (x14_3 + 1)) a1_0 a1_1) = some (r1, r2, r3, r4, r5, r6) := by first | (rw [hy201]; with_reducible exact H) | (have H2_ := (Option.bind_some _ _).symm.trans H; rw [hy201]; with_reducible exact H2_) | (have H2_ := (Option.bind_some _ _).symm.trans H; with_reducible exact H2_) | with_reducible exact H | (rw [hy201]; exact H) | exact H
                have Ny201 := Aside0.mk hy201
                clear hy201
                have H' := Aside0.mk H
                clear H
                have p198 : 0 ≤ (x15_36 : Int) := of_decide_eq_true (by first | (with_reducible assumption) | assumption)
                have q198 : x15_36 < (t174.length : Int) := of_decide_eq_true (by first | (with_reducible assumption) | assumption)
                obtain ⟨ad198, e198, hx198_0, hx198_1⟩ := at_T28 (Kd.R_reads' HO_12.out).2.2 x15_36 p198 q198
                cases e198
                replace p198 := eq_true p198
                replace q198 := eq_true q198
                go_wp2_with (first | ((with_reducible refine gate_dst (N := 16) rfl ?_); (try (refine gate_guard (by rfl) ?_; dsimp only)); refine box_event ?hg (N := 16) ?hd (cs := #[.int .i64 0, .int .i64 0]) (t := 28) ?hr ?_; (case hd => rfl); (case hg => rfl); (case hr => first | (go_simp; done) | (go_simp; rfl)); intro gb199 hg w52 hbox hb; have n0_ := Aside0.mk (Kd.R_below (Kd.R_elderB (by (with_reducible repeat (first | apply Kd.R_alloc | apply Kd.R_drewN | apply Kd.R_drew)); exact HO_12.out) gb199 (Nat.le_of_eq hg.symm)) hb); have n1_ := Aside0.mk (Kd.R_below (Kd.R_elderB (by (with_reducible repeat (first | apply Kd.R_alloc | apply Kd.R_drewN | apply Kd.R_drew)); exact HO_13.out) gb199 (Nat.le_of_eq hg.symm)) hb); have n2_ := Aside0.mk (blk_below (pk BK172.out) hb); have n3_ := Aside0.mk (blk_below (pk BK173.out) hb); have n4_ := Aside0.mk (below_step (by repeat with_reducible first | exact HB.out | apply ba | apply bn | apply bd | refine bset ?_ (by assumption)) hb); have n5_ := Aside0.mk (hbox); have n6_ := Aside0.mk ((by rw [hg]; exact (below_size (by repeat with_reducible first | exact HB.out | apply ba | apply bn | apply bd | refine bset ?_ (by assumption))) : w.heap.size ≤ gb199)); have n7_ := n6_; have n8_ := Aside0.mk ((by rw [hg]; exact Nat.ne_of_lt (blk_lt (pk BK172.out)) : gb172 ≠ gb199)); have n9_ := Aside0.mk ((by rw [hg]; exact Nat.ne_of_gt (blk_lt (pk BK172.out)) : gb199 ≠ gb172)); have n10_ := Aside0.mk ((by rw [hg]; exact Nat.ne_of_lt (blk_lt (pk BK173.out)) : gb173 ≠ gb199)); have n11_ := Aside0.mk ((by rw [hg]; exact Nat.ne_of_gt (blk_lt (pk BK173.out)) : gb199 ≠ gb173)); clear HO_12; clear HO_13; clear BK172; clear BK173; clear HB; have HO_12 := n0_; have HO_13 := n1_; have BK172 := n2_; have BK173 := n3_; have HB := n4_; have BK199 := n5_; have GW199 := n6_; have GE199 := n7_; have NB172_199 := n8_; have NB199_172 := n9_; have NB173_199 := n10_; have NB199_173 := n11_; clear n0_ n1_ n2_ n3_ n4_ n5_ n6_ n7_ n8_ n9_ n10_ n11_; clear hb hbox hg; have hnb53 := NB199_172.out; have hnc53 := NB172_199.out; have hnb54 := NB199_173.out; have hnc54 := NB173_199.out; have hcz55_0 : w52.cell? ⟨gb199, 0, none⟩ = some (.int .i64 0) := (blk_cell BK199.out 0).trans rfl; have hcz55_1 : w52.cell? ⟨gb199, 1, none⟩ = some (.int .i64 0) := (blk_cell BK199.out 1).trans rfl; have hfz55_0 := blk_frozen BK199.out 0; have hfz55_1 := blk_frozen BK199.out 1; have hnb56 := NB172_173.out; have hnc56 := NB173_172.out; have hcz57_0 : w52.cell? ⟨gb172, 0, none⟩ = some (.int .i64 a1_0) := (blk_cell BK172.out 0).trans rfl; have hcz57_1 : w52.cell? ⟨gb172, 1, none⟩ = some (.int .i64 a1_1) := (blk_cell BK172.out 1).trans rfl; have hfz57_0 := blk_frozen BK172.out 0; have hfz57_1 := blk_frozen BK172.out 1) | (go_at_call 36; (with_reducible refine (foolscapref5_Less.calls ((rd_T28 t174 x15_36).f0) ((rd_T28 t174 x15_36).f1) a1_0 a1_1 false _ A42.out).mono ?_); rintro e w58 ⟨rfl, hb⟩; have n0_ := Aside0.mk (Kd.R_below (by (with_reducible repeat (first | apply Kd.R_alloc | apply Kd.R_drewN | apply Kd.R_drew)); exact (Kd.R_mono (Kd.R_far (p := ⟨gb199, 1, none⟩) (Kd.R_far (p := ⟨gb199, 0, none⟩) (Kd.R_mono HO_12.out (fun k_ hk => (⟨hk, hk.2⟩ : _ ∧ k_ ≠ gb199))) (fun _ hk => hk.2) (.int .i64 ((rd_T28 t174 x15_36).f0))) (fun _ hk => hk.2) (.int .i64 ((rd_T28 t174 x15_36).f1))) (fun _ h_ => h_.1))) hb); have n1_ := Aside0.mk (Kd.R_below (by (with_reducible repeat (first | apply Kd.R_alloc | apply Kd.R_drewN | apply Kd.R_drew)); exact (Kd.R_mono (Kd.R_far (p := ⟨gb199, 1, none⟩) (Kd.R_far (p := ⟨gb199, 0, none⟩) (Kd.R_mono HO_13.out (fun k_ hk => (⟨hk, hk.2⟩ : _ ∧ k_ ≠ gb199))) (fun _ hk => hk.2) (.int .i64 ((rd_T28 t174 x15_36).f0))) (fun _ hk => hk.2) (.int .i64 ((rd_T28 t174 x15_36).f1))) (fun _ h_ => h_.1))) hb); have n2_ := Aside0.mk (blk_below (g := gb172) (o := .cells #[.int .i64 a1_0, .int .i64 a1_1] 28 (0, 0)) (by refine pk ?_; refine blk_far ?_ NB172_199.out _; refine pk ?_; refine blk_far ?_ NB172_199.out _; exact pk BK172.out) hb); have n3_ := Aside0.mk (blk_below (g := gb173) (o := .cells #[.int .i64 0, .int .i64 0, .int .i64 0, .bool false, .int .i64 0] 30 (0, 0)) (by refine pk ?_; refine blk_far ?_ NB173_199.out _; refine pk ?_; refine blk_far ?_ NB173_199.out _; exact pk BK173.out) hb); have n4_ := Aside0.mk (blk_below (g := gb199) (o := .cells #[.int .i64 ((rd_T28 t174 x15_36).f0), .int .i64 ((rd_T28 t174 x15_36).f1)] 28 (0, 0)) (by refine pk ?_; refine blk_put (cs := #[.int .i64 ((rd_T28 t174 x15_36).f0), .int .i64 0]) ?_ 1 _ rfl; refine pk ?_; refine blk_put (cs := #[.int .i64 0, .int .i64 0]) ?_ 0 _ rfl; exact pk BK199.out) hb); have n5_ := Aside0.mk (below_step (by repeat with_reducible first | exact HB.out | apply ba | apply bn | apply bd | refine bset ?_ (by assumption)) hb); clear HO_12; clear HO_13; clear BK172; clear BK173; clear BK199; clear HB; have HO_12 := n0_; have HO_13 := n1_; have BK172 := n2_; have BK173 := n3_; have BK199 := n4_; have HB := n5_; clear n0_ n1_ n2_ n3_ n4_ n5_; (try clear hb); (try clear hb2); (try clear hk); (try clear hi); have hcz59_0 : w58.cell? ⟨gb199, 0, none⟩ = some (.int .i64 ((rd_T28 t174 x15_36).f0)) := (blk_cell BK199.out 0).trans rfl; have hcz59_1 : w58.cell? ⟨gb199, 1, none⟩ = some (.int .i64 ((rd_T28 t174 x15_36).f1)) := (blk_cell BK199.out 1).trans rfl; have hfz59_0 := blk_frozen BK199.out 0; have hfz59_1 := blk_frozen BK199.out 1) | ((with_reducible refine gate_builtin (b := .append) (xs := #[.tmp 74, .tmp 76]) rfl ?_); (try (refine gate_guard (by rfl) ?_; dsimp only)); at_builtin; refine Kd.R_append k28 (w0 := w) w.heap.size rfl (.tmp 74) (.tmp 76) 25 28 (.agg #[(.int .i64 0), (.int .i64 0)]) 16 rfl Try.underlying25 info28 rfl (by decide) (by omega) u13 x13_3 (⟨(rd_T28 t174 x15_36).f0, (rd_T28 t174 x15_36).f1⟩ : S28) [.int .i64 ((rd_T28 t174 x15_36).f0), .int .i64 ((rd_T28 t174 x15_36).f1)] (fun k_ => some k_ ≠ (.slice (some ad198) t174.length co29 : Value).ownBlock ∧ k_ ≠ gb172 ∧ k_ ≠ gb199) (fun _ => False) rfl rfl ?aP (fun _ hk => hk.elim) ?aF ?aO ?aB ?aS ?aL ?_; (case aP => exact k28_mkM _ _ _ (⟨(rd_T28 t174 x15_36).f0, (rd_T28 t174 x15_36).f1⟩ : S28)); (case aB => exact (by repeat with_reducible first | exact HB.out | apply ba | apply bn | apply bd | refine bset ?_ (by assumption))); (case aF => exact (fun k_ hk => ⟨Kd.fresh' (Kd.R_lt (by (with_reducible repeat (first | apply Kd.R_alloc | apply Kd.R_drewN | apply Kd.R_drew)); exact HO_12.out)) k_ hk, Kd.freshB (pk BK172.out) k_ hk, Kd.freshB (pk BK199.out) k_ hk⟩)); (case aO => exact (by (with_reducible repeat (first | apply Kd.R_alloc | apply Kd.R_drewN | apply Kd.R_drew)); exact Kd.R_mono HO_13.out (fun _ hk => ⟨hk.1.1, ⟨hk.1.2, hk.2⟩⟩))); (case aS => exact (below_size (by repeat with_reducible first | exact HB.out | apply ba | apply bn | apply bd | refine bset ?_ (by assumption)))); (case aL => have := LMc51.out; omega); intro v202 w60 ho hb hg hat; rw [← Ny201.out] at ho; have n0_ := Aside0.mk (Kd.R_after (ok := (fun k_ => k_ ≠ gb172 ∧ k_ ≠ gb199)) (by (with_reducible repeat (first | apply Kd.R_alloc | apply Kd.R_drewN | apply Kd.R_drew)); exact Kd.R_mono HO_12.out (fun _ hk => ⟨⟨hk.1.2, hk.2⟩, hk.1.1⟩)) hg hat); have n1_ := Aside0.mk (blk_grown (pk BK172.out) hg (Kd.R_away HO_13.out (fun _ hk => hk.1.2))); have n2_ := Aside0.mk (blk_grown (pk BK173.out) hg (Kd.R_ne HO_13.out BK173.out (by decide))); have n3_ := Aside0.mk (blk_grown (pk BK199.out) hg (Kd.R_away HO_13.out (fun _ hk => hk.2))); have n4_ := Aside0.mk (hb); have n5_ := Aside0.mk (ho); clear HO_12; clear BK172; clear BK173; clear BK199; clear HB; clear HO_13; have HO_12 := n0_; have BK172 := n1_; have BK173 := n2_; have BK199 := n3_; have HB := n4_; have HO203 := n5_; clear n0_ n1_ n2_ n3_ n4_ n5_; clear ho hb hg hat))
                go_roundg kj36
                case measure => have := HJ6.out; have := HJ25.out; have := HK3.out; have := HJ36.out; omega
                case rel => exact ⟨(y201), (wrap64 (x14_3 + 1)), (by first | rfl | (simp; done) | (simp [*]; done)), H', ⟨by have := HJ6.out; have := HJ25.out; have := HK3.out; have := HJ36.out; omega⟩, ⟨by (with_reducible repeat (first | apply Kd.R_alloc | apply Kd.R_drewN | apply Kd.R_drew)); exact Kd.R_mono HO_12.out (fun _ hk => ⟨hk.2, hk.1.1⟩)⟩, ⟨by (with_reducible repeat (first | apply Kd.R_alloc | apply Kd.R_drewN | apply Kd.R_drew)); exact Kd.R_mono HO203.out (fun _ hk => ⟨hk.1, hk.2.1⟩)⟩, ⟨by exact pk BK172.out⟩, ⟨by exact pk BK173.out⟩, ⟨by repeat with_reducible first | exact HB.out | apply ba | apply bn | apply bd | refine bset ?_ (by assumption)⟩⟩
               ·rw [if_neg c51] at H
                exact absurd H (by simp)
             ·replace c41 := Bool.eq_false_iff.mpr c41
              subst c41
              have H1 : ((foolscapref5_Less.f a1_0 a1_1 ((rd_T28 t174 x15_36).f0) ((rd_T28 t174 x15_36).f1)).bind fun t204 => (if t204 = true then (foolscapref5_Search.l0 kj36 false a4 t174 x13_3 (wrap64 (x14_3 + 1)) a1_0 a1_1) else (if x13_3.length < 8796093022208 then (foolscapref5_Search.l0 kj36 false a4 t174 (x13_3 ++ [(⟨(rd_T28 t174 x15_36).f0, (rd_T28 t174 x15_36).f1⟩ : S28)]) (wrap64 (x14_3 + 1)) a1_0 a1_1) else (none)))) = some (r1, r2, r3, r4, r5, r6) := by rw [if_neg (show ¬ (false = true) by decide)] at H; exact H
              clear H
              have H := H1
              clear H1
              replace H := Option.bind_eq_some_iff.mp H
              obtain ⟨t204, A610, H⟩ := H
              replace H : (if t204 = true then (foolscapref5_Search.l0 kj36 false a4 t174 x13_3 (wrap64 (x14_3 + 1)) a1_0 a1_1) else (if x13_3.length < 8796093022208 then (foolscapref5_Search.l0 kj36 false a4 t174 (x13_3 ++ [(⟨(rd_T28 t174 x15_36).f0, (rd_T28 t174 x15_36).f1⟩ : S28)]) (wrap64 (x14_3 + 1)) a1_0 a1_1) else (none))) = some (r1, r2, r3, r4, r5, r6) := H
              have A61 := Aside0.mk A610
              clear A610
              by_cases c62 : t204 = true
              ·subst c62
               have H1 : (foolscapref5_Search.l0 kj36 false a4 t174 x13_3 (wrap64 (x14_3 + 1)) a1_0 a1_1) = some (r1, r2, r3, r4, r5, r6) := by rw [if_pos rfl] at H; exact H
               clear H
               have H := H1
               clear H1
               have H' := Aside0.mk H
               clear H
               have p198 : 0 ≤ (x15_36 : Int) := of_decide_eq_true (by first | (with_reducible assumption) | assumption)
               have q198 : x15_36 < (t174.length : Int) := of_decide_eq_true (by first | (with_reducible assumption) | assumption)
               obtain ⟨ad198, e198, hx198_0, hx198_1⟩ := at_T28 (Kd.R_reads' HO_12.out).2.2 x15_36 p198 q198
               cases e198
               replace p198 := eq_true p198
               replace q198 := eq_true q198
               go_wp2_with (first | ((with_reducible refine gate_dst (N := 16) rfl ?_); (try (refine gate_guard (by rfl) ?_; dsimp only)); refine box_event ?hg (N := 16) ?hd (cs := #[.int .i64 0, .int .i64 0]) (t := 28) ?hr ?_; (case hd => rfl); (case hg => rfl); (case hr => first | (go_simp; done) | (go_simp; rfl)); intro gb199 hg w63 hbox hb; have n0_ := Aside0.mk (Kd.R_below (Kd.R_elderB (by (with_reducible repeat (first | apply Kd.R_alloc | apply Kd.R_drewN | apply Kd.R_drew)); exact HO_12.out) gb199 (Nat.le_of_eq hg.symm)) hb); have n1_ := Aside0.mk (Kd.R_below (Kd.R_elderB (by (with_reducible repeat (first | apply Kd.R_alloc | apply Kd.R_drewN | apply Kd.R_drew)); exact HO_13.out) gb199 (Nat.le_of_eq hg.symm)) hb); have n2_ := Aside0.mk (blk_below (pk BK172.out) hb); have n3_ := Aside0.mk (blk_below (pk BK173.out) hb); have n4_ := Aside0.mk (below_step (by repeat with_reducible first | exact HB.out | apply ba | apply bn | apply bd | refine bset ?_ (by assumption)) hb); have n5_ := Aside0.mk (hbox); have n6_ := Aside0.mk ((by rw [hg]; exact (below_size (by repeat with_reducible first | exact HB.out | apply ba | apply bn | apply bd | refine bset ?_ (by assumption))) : w.heap.size ≤ gb199)); have n7_ := n6_; have n8_ := Aside0.mk ((by rw [hg]; exact Nat.ne_of_lt (blk_lt (pk BK172.out)) : gb172 ≠ gb199)); have n9_ := Aside0.mk ((by rw [hg]; exact Nat.ne_of_gt (blk_lt (pk BK172.out)) : gb199 ≠ gb172)); have n10_ := Aside0.mk ((by rw [hg]; exact Nat.ne_of_lt (blk_lt (pk BK173.out)) : gb173 ≠ gb199)); have n11_ := Aside0.mk ((by rw [hg]; exact Nat.ne_of_gt (blk_lt (pk BK173.out)) : gb199 ≠ gb173)); clear HO_12; clear HO_13; clear BK172; clear BK173; clear HB; have HO_12 := n0_; have HO_13 := n1_; have BK172 := n2_; have BK173 := n3_; have HB := n4_; have BK199 := n5_; have GW199 := n6_; have GE199 := n7_; have NB172_199 := n8_; have NB199_172 := n9_; have NB173_199 := n10_; have NB199_173 := n11_; clear n0_ n1_ n2_ n3_ n4_ n5_ n6_ n7_ n8_ n9_ n10_ n11_; clear hb hbox hg; have hnb64 := NB199_172.out; have hnc64 := NB172_199.out; have hnb65 := NB199_173.out; have hnc65 := NB173_199.out; have hcz66_0 : w63.cell? ⟨gb199, 0, none⟩ = some (.int .i64 0) := (blk_cell BK199.out 0).trans rfl; have hcz66_1 : w63.cell? ⟨gb199, 1, none⟩ = some (.int .i64 0) := (blk_cell BK199.out 1).trans rfl; have hfz66_0 := blk_frozen BK199.out 0; have hfz66_1 := blk_frozen BK199.out 1; have hnb67 := NB172_173.out; have hnc67 := NB173_172.out; have hcz68_0 : w63.cell? ⟨gb172, 0, none⟩ = some (.int .i64 a1_0) := (blk_cell BK172.out 0).trans rfl; have hcz68_1 : w63.cell? ⟨gb172, 1, none⟩ = some (.int .i64 a1_1) := (blk_cell BK172.out 1).trans rfl; have hfz68_0 := blk_frozen BK172.out 0; have hfz68_1 := blk_frozen BK172.out 1) | (go_at_call 36; (with_reducible refine (foolscapref5_Less.calls a1_0 a1_1 ((rd_T28 t174 x15_36).f0) ((rd_T28 t174 x15_36).f1) true _ A61.out).mono ?_); rintro e w69 ⟨rfl, hb⟩; have n0_ := Aside0.mk (Kd.R_below (by (with_reducible repeat (first | apply Kd.R_alloc | apply Kd.R_drewN | apply Kd.R_drew)); exact (Kd.R_mono (Kd.R_far (p := ⟨gb199, 1, none⟩) (Kd.R_far (p := ⟨gb199, 0, none⟩) (Kd.R_mono HO_12.out (fun k_ hk => (⟨hk, hk.2⟩ : _ ∧ k_ ≠ gb199))) (fun _ hk => hk.2) (.int .i64 ((rd_T28 t174 x15_36).f0))) (fun _ hk => hk.2) (.int .i64 ((rd_T28 t174 x15_36).f1))) (fun _ h_ => h_.1))) hb); have n1_ := Aside0.mk (Kd.R_below (by (with_reducible repeat (first | apply Kd.R_alloc | apply Kd.R_drewN | apply Kd.R_drew)); exact (Kd.R_mono (Kd.R_far (p := ⟨gb199, 1, none⟩) (Kd.R_far (p := ⟨gb199, 0, none⟩) (Kd.R_mono HO_13.out (fun k_ hk => (⟨hk, hk.2⟩ : _ ∧ k_ ≠ gb199))) (fun _ hk => hk.2) (.int .i64 ((rd_T28 t174 x15_36).f0))) (fun _ hk => hk.2) (.int .i64 ((rd_T28 t174 x15_36).f1))) (fun _ h_ => h_.1))) hb); have n2_ := Aside0.mk (blk_below (g := gb172) (o := .cells #[.int .i64 a1_0, .int .i64 a1_1] 28 (0, 0)) (by refine pk ?_; refine blk_far ?_ NB172_199.out _; refine pk ?_; refine blk_far ?_ NB172_199.out _; exact pk BK172.out) hb); have n3_ := Aside0.mk (blk_below (g := gb173) (o := .cells #[.int .i64 0, .int .i64 0, .int .i64 0, .bool false, .int .i64 0] 30 (0, 0)) (by refine pk ?_; refine blk_far ?_ NB173_199.out _; refine pk ?_; refine blk_far ?_ NB173_199.out _; exact pk BK173.out) hb); have n4_ := Aside0.mk (blk_below (g := gb199) (o := .cells #[.int .i64 ((rd_T28 t174 x15_36).f0), .int .i64 ((rd_T28 t174 x15_36).f1)] 28 (0, 0)) (by refine pk ?_; refine blk_put (cs := #[.int .i64 ((rd_T28 t174 x15_36).f0), .int .i64 0]) ?_ 1 _ rfl; refine pk ?_; refine blk_put (cs := #[.int .i64 0, .int .i64 0]) ?_ 0 _ rfl; exact pk BK199.out) hb); have n5_ := Aside0.mk (below_step (by repeat with_reducible first | exact HB.out | apply ba | apply bn | apply bd | refine bset ?_ (by assumption)) hb); clear HO_12; clear HO_13; clear BK172; clear BK173; clear BK199; clear HB; have HO_12 := n0_; have HO_13 := n1_; have BK172 := n2_; have BK173 := n3_; have BK199 := n4_; have HB := n5_; clear n0_ n1_ n2_ n3_ n4_ n5_; (try clear hb); (try clear hb2); (try clear hk); (try clear hi)))
               go_roundg kj36
               case measure => have := HJ6.out; have := HJ25.out; have := HK3.out; have := HJ36.out; omega
               case rel => exact ⟨(x13_3), (wrap64 (x14_3 + 1)), (by first | rfl | (simp; done) | (simp [*]; done)), H', ⟨by have := HJ6.out; have := HJ25.out; have := HK3.out; have := HJ36.out; omega⟩, ⟨by (with_reducible repeat (first | apply Kd.R_alloc | apply Kd.R_drewN | apply Kd.R_drew)); exact Kd.R_mono HO_12.out (fun _ hk => ⟨hk.1.1, hk.1.2⟩)⟩, ⟨by (with_reducible repeat (first | apply Kd.R_alloc | apply Kd.R_drewN | apply Kd.R_drew)); exact Kd.R_mono HO_13.out (fun _ hk => ⟨hk.1.1, hk.1.2⟩)⟩, ⟨by exact pk BK172.out⟩, ⟨by exact pk BK173.out⟩, ⟨by repeat with_reducible first | exact HB.out | apply ba | apply bn | apply bd | refine bset ?_ (by assumption)⟩⟩
              ·replace c62 := Bool.eq_false_iff.mpr c62
               subst c62
               have H1 : (if x13_3.length < 8796093022208 then (foolscapref5_Search.l0 kj36 false a4 t174 (x13_3 ++ [(⟨(rd_T28 t174 x15_36).f0, (rd_T28 t174 x15_36).f1⟩ : S28)]) (wrap64 (x14_3 + 1)) a1_0 a1_1) else (none)) = some (r1, r2, r3, r4, r5, r6) := by rw [if_neg (show ¬ (false = true) by decide)] at H; exact H
               clear H
               have H := H1
               clear H1
               by_cases c70 : x13_3.length < 8796093022208
               ·rw [if_pos c70] at H
                have LMc70 := Aside0.mk c70
                clear c70
                obtain ⟨y205, hy205⟩ : ∃ y_ : List (S28), y_ = (x13_3 ++ [(⟨(rd_T28 t174 x15_36).f0, (rd_T28 t174 x15_36).f1⟩ : S28)]) := ⟨_, rfl⟩
                replace H : (foolscapref5_Search.l0 kj36 false a4 t174 y205 (wrap64 (x14_3 + 1)) a1_0 a1_1) = some (r1, r2, r3, r4, r5, r6) := by first | (rw [hy205]; with_reducible exact H) | (have H2_ := (Option.bind_some _ _).symm.trans H; rw [hy205]; with_reducible exact H2_) | (have H2_ := (Option.bind_some _ _).symm.trans H; with_reducible exact H2_) | with_reducible exact H | (rw [hy205]; exact H) | exact H
                have Ny205 := Aside0.mk hy205
                clear hy205
                have H' := Aside0.mk H
                clear H
                have p198 : 0 ≤ (x15_36 : Int) := of_decide_eq_true (by first | (with_reducible assumption) | assumption)
                have q198 : x15_36 < (t174.length : Int) := of_decide_eq_true (by first | (with_reducible assumption) | assumption)
                obtain ⟨ad198, e198, hx198_0, hx198_1⟩ := at_T28 (Kd.R_reads' HO_12.out).2.2 x15_36 p198 q198
                cases e198
                replace p198 := eq_true p198
                replace q198 := eq_true q198
                go_wp2_with (first | ((with_reducible refine gate_dst (N := 16) rfl ?_); (try (refine gate_guard (by rfl) ?_; dsimp only)); refine box_event ?hg (N := 16) ?hd (cs := #[.int .i64 0, .int .i64 0]) (t := 28) ?hr ?_; (case hd => rfl); (case hg => rfl); (case hr => first | (go_simp; done) | (go_simp; rfl)); intro gb199 hg w71 hbox hb; have n0_ := Aside0.mk (Kd.R_below (Kd.R_elderB (by (with_reducible repeat (first | apply Kd.R_alloc | apply Kd.R_drewN | apply Kd.R_drew)); exact HO_12.out) gb199 (Nat.le_of_eq hg.symm)) hb); have n1_ := Aside0.mk (Kd.R_below (Kd.R_elderB (by (with_reducible repeat (first | apply Kd.R_alloc | apply Kd.R_drewN | apply Kd.R_drew)); exact HO_13.out) gb199 (Nat.le_of_eq hg.symm)) hb); have n2_ := Aside0.mk (blk_below (pk BK172.out) hb); have n3_ := Aside0.mk (blk_below (pk BK173.out) hb); have n4_ := Aside0.mk (below_step (by repeat with_reducible first | exact HB.out | apply ba | apply bn | apply bd | refine bset ?_ (by assumption)) hb); have n5_ := Aside0.mk (hbox); have n6_ := Aside0.mk ((by rw [hg]; exact (below_size (by repeat with_reducible first | exact HB.out | apply ba | apply bn | apply bd | refine bset ?_ (by assumption))) : w.heap.size ≤ gb199)); have n7_ := n6_; have n8_ := Aside0.mk ((by rw [hg]; exact Nat.ne_of_lt (blk_lt (pk BK172.out)) : gb172 ≠ gb199)); have n9_ := Aside0.mk ((by rw [hg]; exact Nat.ne_of_gt (blk_lt (pk BK172.out)) : gb199 ≠ gb172)); have n10_ := Aside0.mk ((by rw [hg]; exact Nat.ne_of_lt (blk_lt (pk BK173.out)) : gb173 ≠ gb199)); have n11_ := Aside0.mk ((by rw [hg]; exact Nat.ne_of_gt (blk_lt (pk BK173.out)) : gb199 ≠ gb173)); clear HO_12; clear HO_13; clear BK172; clear BK173; clear HB; have HO_12 := n0_; have HO_13 := n1_; have BK172 := n2_; have BK173 := n3_; have HB := n4_; have BK199 := n5_; have GW199 := n6_; have GE199 := n7_; have NB172_199 := n8_; have NB199_172 := n9_; have NB173_199 := n10_; have NB199_173 := n11_; clear n0_ n1_ n2_ n3_ n4_ n5_ n6_ n7_ n8_ n9_ n10_ n11_; clear hb hbox hg; have hnb72 := NB199_172.out; have hnc72 := NB172_199.out; have hnb73 := NB199_173.out; have hnc73 := NB173_199.out; have hcz74_0 : w71.cell? ⟨gb199, 0, none⟩ = some (.int .i64 0) := (blk_cell BK199.out 0).trans rfl; have hcz74_1 : w71.cell? ⟨gb199, 1, none⟩ = some (.int .i64 0) := (blk_cell BK199.out 1).trans rfl; have hfz74_0 := blk_frozen BK199.out 0; have hfz74_1 := blk_frozen BK199.out 1; have hnb75 := NB172_173.out; have hnc75 := NB173_172.out; have hcz76_0 : w71.cell? ⟨gb172, 0, none⟩ = some (.int .i64 a1_0) := (blk_cell BK172.out 0).trans rfl; have hcz76_1 : w71.cell? ⟨gb172, 1, none⟩ = some (.int .i64 a1_1) := (blk_cell BK172.out 1).trans rfl; have hfz76_0 := blk_frozen BK172.out 0; have hfz76_1 := blk_frozen BK172.out 1) | (go_at_call 36; (with_reducible refine (foolscapref5_Less.calls a1_0 a1_1 ((rd_T28 t174 x15_36).f0) ((rd_T28 t174 x15_36).f1) false _ A61.out).mono ?_); rintro e w77 ⟨rfl, hb⟩; have n0_ := Aside0.mk (Kd.R_below (by (with_reducible repeat (first | apply Kd.R_alloc | apply Kd.R_drewN | apply Kd.R_drew)); exact (Kd.R_mono (Kd.R_far (p := ⟨gb199, 1, none⟩) (Kd.R_far (p := ⟨gb199, 0, none⟩) (Kd.R_mono HO_12.out (fun k_ hk => (⟨hk, hk.2⟩ : _ ∧ k_ ≠ gb199))) (fun _ hk => hk.2) (.int .i64 ((rd_T28 t174 x15_36).f0))) (fun _ hk => hk.2) (.int .i64 ((rd_T28 t174 x15_36).f1))) (fun _ h_ => h_.1))) hb); have n1_ := Aside0.mk (Kd.R_below (by (with_reducible repeat (first | apply Kd.R_alloc | apply Kd.R_drewN | apply Kd.R_drew)); exact (Kd.R_mono (Kd.R_far (p := ⟨gb199, 1, none⟩) (Kd.R_far (p := ⟨gb199, 0, none⟩) (Kd.R_mono HO_13.out (fun k_ hk => (⟨hk, hk.2⟩ : _ ∧ k_ ≠ gb199))) (fun _ hk => hk.2) (.int .i64 ((rd_T28 t174 x15_36).f0))) (fun _ hk => hk.2) (.int .i64 ((rd_T28 t174 x15_36).f1))) (fun _ h_ => h_.1))) hb); have n2_ := Aside0.mk (blk_below (g := gb172) (o := .cells #[.int .i64 a1_0, .int .i64 a1_1] 28 (0, 0)) (by refine pk ?_; refine blk_far ?_ NB172_199.out _; refine pk ?_; refine blk_far ?_ NB172_199.out _; exact pk BK172.out) hb); have n3_ := Aside0.mk (blk_below (g := gb173) (o := .cells #[.int .i64 0, .int .i64 0, .int .i64 0, .bool false, .int .i64 0] 30 (0, 0)) (by refine pk ?_; refine blk_far ?_ NB173_199.out _; refine pk ?_; refine blk_far ?_ NB173_199.out _; exact pk BK173.out) hb); have n4_ := Aside0.mk (blk_below (g := gb199) (o := .cells #[.int .i64 ((rd_T28 t174 x15_36).f0), .int .i64 ((rd_T28 t174 x15_36).f1)] 28 (0, 0)) (by refine pk ?_; refine blk_put (cs := #[.int .i64 ((rd_T28 t174 x15_36).f0), .int .i64 0]) ?_ 1 _ rfl; refine pk ?_; refine blk_put (cs := #[.int .i64 0, .int .i64 0]) ?_ 0 _ rfl; exact pk BK199.out) hb); have n5_ := Aside0.mk (below_step (by repeat with_reducible first | exact HB.out | apply ba | apply bn | apply bd | refine bset ?_ (by assumption)) hb); clear HO_12; clear HO_13; clear BK172; clear BK173; clear BK199; clear HB; have HO_12 := n0_; have HO_13 := n1_; have BK172 := n2_; have BK173 := n3_; have BK199 := n4_; have HB := n5_; clear n0_ n1_ n2_ n3_ n4_ n5_; (try clear hb); (try clear hb2); (try clear hk); (try clear hi); have hcz78_0 : w77.cell? ⟨gb199, 0, none⟩ = some (.int .i64 ((rd_T28 t174 x15_36).f0)) := (blk_cell BK199.out 0).trans rfl; have hcz78_1 : w77.cell? ⟨gb199, 1, none⟩ = some (.int .i64 ((rd_T28 t174 x15_36).f1)) := (blk_cell BK199.out 1).trans rfl; have hfz78_0 := blk_frozen BK199.out 0; have hfz78_1 := blk_frozen BK199.out 1) | ((with_reducible refine gate_builtin (b := .append) (xs := #[.tmp 74, .tmp 76]) rfl ?_); (try (refine gate_guard (by rfl) ?_; dsimp only)); at_builtin; refine Kd.R_append k28 (w0 := w) w.heap.size rfl (.tmp 74) (.tmp 76) 25 28 (.agg #[(.int .i64 0), (.int .i64 0)]) 16 rfl Try.underlying25 info28 rfl (by decide) (by omega) u13 x13_3 (⟨(rd_T28 t174 x15_36).f0, (rd_T28 t174 x15_36).f1⟩ : S28) [.int .i64 ((rd_T28 t174 x15_36).f0), .int .i64 ((rd_T28 t174 x15_36).f1)] (fun k_ => some k_ ≠ (.slice (some ad198) t174.length co29 : Value).ownBlock ∧ k_ ≠ gb172 ∧ k_ ≠ gb199) (fun _ => False) rfl rfl ?aP (fun _ hk => hk.elim) ?aF ?aO ?aB ?aS ?aL ?_; (case aP => exact k28_mkM _ _ _ (⟨(rd_T28 t174 x15_36).f0, (rd_T28 t174 x15_36).f1⟩ : S28)); (case aB => exact (by repeat with_reducible first | exact HB.out | apply ba | apply bn | apply bd | refine bset ?_ (by assumption))); (case aF => exact (fun k_ hk => ⟨Kd.fresh' (Kd.R_lt (by (with_reducible repeat (first | apply Kd.R_alloc | apply Kd.R_drewN | apply Kd.R_drew)); exact HO_12.out)) k_ hk, Kd.freshB (pk BK172.out) k_ hk, Kd.freshB (pk BK199.out) k_ hk⟩)); (case aO => exact (by (with_reducible repeat (first | apply Kd.R_alloc | apply Kd.R_drewN | apply Kd.R_drew)); exact Kd.R_mono HO_13.out (fun _ hk => ⟨hk.1.1, ⟨hk.1.2, hk.2⟩⟩))); (case aS => exact (below_size (by repeat with_reducible first | exact HB.out | apply ba | apply bn | apply bd | refine bset ?_ (by assumption)))); (case aL => have := LMc70.out; omega); intro v206 w79 ho hb hg hat; rw [← Ny205.out] at ho; have n0_ := Aside0.mk (Kd.R_after (ok := (fun k_ => k_ ≠ gb172 ∧ k_ ≠ gb199)) (by (with_reducible repeat (first | apply Kd.R_alloc | apply Kd.R_drewN | apply Kd.R_drew)); exact Kd.R_mono HO_12.out (fun _ hk => ⟨⟨hk.1.2, hk.2⟩, hk.1.1⟩)) hg hat); have n1_ := Aside0.mk (blk_grown (pk BK172.out) hg (Kd.R_away HO_13.out (fun _ hk => hk.1.2))); have n2_ := Aside0.mk (blk_grown (pk BK173.out) hg (Kd.R_ne HO_13.out BK173.out (by decide))); have n3_ := Aside0.mk (blk_grown (pk BK199.out) hg (Kd.R_away HO_13.out (fun _ hk => hk.2))); have n4_ := Aside0.mk (hb); have n5_ := Aside0.mk (ho); clear HO_12; clear BK172; clear BK173; clear BK199; clear HB; clear HO_13; have HO_12 := n0_; have BK172 := n1_; have BK173 := n2_; have BK199 := n3_; have HB := n4_; have HO207 := n5_; clear n0_ n1_ n2_ n3_ n4_ n5_; clear ho hb hg hat))
                go_roundg kj36
                case measure => have := HJ6.out; have := HJ25.out; have := HK3.out; have := HJ36.out; omega
                case rel => exact ⟨(y205), (wrap64 (x14_3 + 1)), (by first | rfl | (simp; done) | (simp [*]; done)), H', ⟨by have := HJ6.out; have := HJ25.out; have := HK3.out; have := HJ36.out; omega⟩, ⟨by (with_reducible repeat (first | apply Kd.R_alloc | apply Kd.R_drewN | apply Kd.R_drew)); exact Kd.R_mono HO_12.out (fun _ hk => ⟨hk.2, hk.1.1⟩)⟩, ⟨by (with_reducible repeat (first | apply Kd.R_alloc | apply Kd.R_drewN | apply Kd.R_drew)); exact Kd.R_mono HO207.out (fun _ hk => ⟨hk.1, hk.2.1⟩)⟩, ⟨by exact pk BK172.out⟩, ⟨by exact pk BK173.out⟩, ⟨by repeat with_reducible first | exact HB.out | apply ba | apply bn | apply bd | refine bset ?_ (by assumption)⟩⟩
               ·rw [if_neg c70] at H
                exact absurd H (by simp)
            ·rw [if_neg c40] at H
             exact absurd H (by simp)
           ·rw [if_neg c39] at H
            exact absurd H (by simp)
        ·rw [if_neg c36] at H
         have c36b0 : decide (x14_3 < (t174.length : Int)) = false := decide_eq_false c36
         clear c36
         replace H := Option.bind_eq_some_iff.mp H
         obtain ⟨t190, A800, H⟩ := H
         replace H : (if (x13_3.length : Int) = 0 then (none) else (if 0 ≤ (Int.tmod (wrap64 (t190 - 1)) (x13_3.length : Int)) then (if (Int.tmod (wrap64 (t190 - 1)) (x13_3.length : Int)) < (x13_3.length : Int) then ((foolscapref5_jump.f ((rd_T28 x13_3 (Int.tmod (wrap64 (t190 - 1)) (x13_3.length : Int))).f0) ((rd_T28 x13_3 (Int.tmod (wrap64 (t190 - 1)) (x13_3.length : Int))).f1)).bind fun bt192 => (some (bt192.1, bt192.2.1, bt192.2.2.1, bt192.2.2.2.1, bt192.2.2.2.2.1, bt192.2.2.2.2.2))) else (none)) else (none))) = some (r1, r2, r3, r4, r5, r6) := H
         have A80 := Aside0.mk A800
         clear A800
         by_cases c81 : (x13_3.length : Int) = 0
         ·rw [if_pos c81] at H
          exact absurd H (by simp)
         ·rw [if_neg c81] at H
          have c81b0 : ((x13_3.length : Int) == 0) = false := beq_eq_false_iff_ne.mpr c81
          have c81b1 : ((x13_3.length : Int) != 0) = true := bne_iff_ne.mpr c81
          have c81b2 : ¬ (x13_3 = []) := fun h_ => c81 (by rw [h_]; rfl)
          obtain ⟨ji82, hji82⟩ : ∃ j_ : Int, (Int.tmod (wrap64 (t190 - 1)) (x13_3.length : Int)) = j_ := ⟨_, rfl⟩
          replace H : (if 0 ≤ (ji82) then (if (ji82) < (x13_3.length : Int) then ((foolscapref5_jump.f ((rd_T28 x13_3 (ji82)).f0) ((rd_T28 x13_3 (ji82)).f1)).bind fun bt192 => (some (bt192.1, bt192.2.1, bt192.2.2.1, bt192.2.2.2.1, bt192.2.2.2.2.1, bt192.2.2.2.2.2))) else (none)) else (none)) = some (r1, r2, r3, r4, r5, r6) := by first | (rw [hji82] at H; exact H) | (simp only [hji82] at H ⊢; exact H)
          (try rw [hji82] at A80)
          by_cases c83 : 0 ≤ (ji82)
          ·rw [if_pos c83] at H
           have c83b0 : decide (0 ≤ (ji82)) = true := decide_eq_true c83
           clear c83
           by_cases c84 : (ji82) < (x13_3.length : Int)
           ·rw [if_pos c84] at H
            have c84b0 : decide ((ji82) < (x13_3.length : Int)) = true := decide_eq_true c84
            clear c84
            replace H := Option.bind_eq_some_iff.mp H
            obtain ⟨⟨t192, t193, t194, t195, t196, t197⟩, A850, H⟩ := H
            replace H : (some (t192, t193, t194, t195, t196, t197)) = some (r1, r2, r3, r4, r5, r6) := H
            have A85 := Aside0.mk A850
            clear A850
            simp only [Option.some.injEq, Prod.mk.injEq] at H
            obtain ⟨rfl, rfl, rfl, rfl, rfl, rfl⟩ := H
            go_wp2_with (first | ((with_reducible refine gate_callee (f := 38) rfl ?_); refine goesL_ (some 80) rfl rfl Try.func38 (by kernel_rfl) rfl #[.int .i64 a4] rfl (by first | rfl | (simp only [List.map_toArray, List.map_cons, List.map_nil] <;> rfl)) ?_; (with_reducible refine (foolscapref5_capped.calls a4 t190 _ A80.out).mono ?_); rintro e w86 ⟨rfl, hb⟩; refine ⟨_, rfl, ?_⟩; have n0_ := Aside0.mk (Kd.R_below (by (with_reducible repeat (first | apply Kd.R_alloc | apply Kd.R_drewN | apply Kd.R_drew)); exact HO_12.out) hb); have n1_ := Aside0.mk (Kd.R_below (by (with_reducible repeat (first | apply Kd.R_alloc | apply Kd.R_drewN | apply Kd.R_drew)); exact HO_13.out) hb); have n2_ := Aside0.mk (blk_below (pk BK172.out) hb); have n3_ := Aside0.mk (blk_below (pk BK173.out) hb); have n4_ := Aside0.mk (below_step (by repeat with_reducible first | exact HB.out | apply ba | apply bn | apply bd | refine bset ?_ (by assumption)) hb); clear HO_12; clear HO_13; clear BK172; clear BK173; clear HB; have HO_12 := n0_; have HO_13 := n1_; have BK172 := n2_; have BK173 := n3_; have HB := n4_; clear n0_ n1_ n2_ n3_ n4_; (try clear hb); (try clear hb2); (try clear hk); (try clear hi); obtain ⟨Ao87, co87, eo87⟩ := Kd.R_slice HO_13.out; subst eo87; have p191 : 0 ≤ ((ji82) : Int) := of_decide_eq_true (by first | (with_reducible assumption) | assumption); have q191 : (ji82) < (x13_3.length : Int) := of_decide_eq_true (by first | (with_reducible assumption) | assumption); obtain ⟨ad191, e191, hx191_0, hx191_1⟩ := at_T28 (Kd.R_reads' HO_13.out).2.2 (ji82) p191 q191; cases e191; replace p191 := eq_true p191; replace q191 := eq_true q191) | ((with_reducible refine gate_callee (f := 37) rfl ?_); refine goesL_ (some 87) rfl rfl Try.func37 (by kernel_rfl) rfl #[.agg #[.int .i64 ((rd_T28 x13_3 (ji82)).f0), .int .i64 ((rd_T28 x13_3 (ji82)).f1)]] rfl (by (try simp only [List.map_toArray, List.map_cons, List.map_nil]); first | done | (simp only [hji82]; rfl) | rfl | (simp only [List.length_drop, List.length_take]; rfl)) ?_; (with_reducible refine (foolscapref5_jump.calls ((rd_T28 x13_3 (ji82)).f0) ((rd_T28 x13_3 (ji82)).f1) t192 t193 t194 t195 t196 t197 _ A85.out).mono ?_); rintro e w88 ⟨rfl, hb⟩; refine ⟨_, rfl, ?_⟩; have n0_ := Aside0.mk (Kd.R_below (by (with_reducible repeat (first | apply Kd.R_alloc | apply Kd.R_drewN | apply Kd.R_drew)); exact HO_12.out) hb); have n1_ := Aside0.mk (Kd.R_below (by (with_reducible repeat (first | apply Kd.R_alloc | apply Kd.R_drewN | apply Kd.R_drew)); exact HO_13.out) hb); have n2_ := Aside0.mk (blk_below (pk BK172.out) hb); have n3_ := Aside0.mk (blk_below (pk BK173.out) hb); have n4_ := Aside0.mk (below_step (by repeat with_reducible first | exact HB.out | apply ba | apply bn | apply bd | refine bset ?_ (by assumption)) hb); clear HO_12; clear HO_13; clear BK172; clear BK173; clear HB; have HO_12 := n0_; have HO_13 := n1_; have BK172 := n2_; have BK173 := n3_; have HB := n4_; clear n0_ n1_ n2_ n3_ n4_; (try clear hb); (try clear hb2); (try clear hk); (try clear hi); have hnb89 := NB173_172.out; have hnc89 := NB172_173.out; have hcz90_0 : w88.cell? ⟨gb173, 0, none⟩ = some (.int .i64 0) := (blk_cell BK173.out 0).trans rfl; have hcz90_1 : w88.cell? ⟨gb173, 1, none⟩ = some (.int .i64 0) := (blk_cell BK173.out 1).trans rfl; have hcz90_2 : w88.cell? ⟨gb173, 2, none⟩ = some (.int .i64 0) := (blk_cell BK173.out 2).trans rfl; have hcz90_3 : w88.cell? ⟨gb173, 3, none⟩ = some (.bool false) := (blk_cell BK173.out 3).trans rfl; have hcz90_4 : w88.cell? ⟨gb173, 4, none⟩ = some (.int .i64 0) := (blk_cell BK173.out 4).trans rfl; have hfz90_0 := blk_frozen BK173.out 0; have hfz90_1 := blk_frozen BK173.out 1; have hfz90_2 := blk_frozen BK173.out 2; have hfz90_3 := blk_frozen BK173.out 3; have hfz90_4 := blk_frozen BK173.out 4))
            refine bodyPost_ret (results_ct rfl _ _ gb173 30 #[.int .i64 t192, .int .i64 t193, .int .i64 t194, .bool t195, .int .i64 t196] (0, 0) _ rfl (by refine pk ?_; refine blk_put (cs := #[.int .i64 t192, .int .i64 t193, .int .i64 t194, .bool t195, .int .i64 0]) ?_ 4 _ rfl; refine pk ?_; refine blk_put (cs := #[.int .i64 t192, .int .i64 t193, .int .i64 t194, .bool false, .int .i64 0]) ?_ 3 _ rfl; refine pk ?_; refine blk_put (cs := #[.int .i64 t192, .int .i64 t193, .int .i64 0, .bool false, .int .i64 0]) ?_ 2 _ rfl; refine pk ?_; refine blk_put (cs := #[.int .i64 t192, .int .i64 0, .int .i64 0, .bool false, .int .i64 0]) ?_ 1 _ rfl; refine pk ?_; refine blk_put (cs := #[.int .i64 0, .int .i64 0, .int .i64 0, .bool false, .int .i64 0]) ?_ 0 _ rfl; exact pk BK173.out) Try.underlying30 rfl (by kernel_rfl)) rfl ?_
            exact ⟨by first | rfl | (simp [errW_none, errW_some] <;> rfl) | (simp only [← hji82]; first | rfl | (simp [errW_none, errW_some] <;> rfl)) | (simp [*, errW_none, errW_some] <;> rfl), by repeat with_reducible first | exact HB.out | apply ba | apply bn | apply bd | refine bset ?_ (by assumption)⟩
           ·rw [if_neg c84] at H
            exact absurd H (by simp)
          ·rw [if_neg c83] at H
           exact absurd H (by simp)

/-! ### foolscaplaw12_same: function 21 -/
def foolscaplaw12_same.f (a0_0 : Int) (a0_1 : Int) (a0_2 : Int) (a0_3 : Bool) (a0_4 : Int) (a1 : Bool) (a2_0 : Int) (a2_1 : Int) (a2_2 : Int) (a2_3 : Bool) (a2_4 : Int) (a3 : Bool) : Option (Bool) := if ((a0_0 == a2_0 && (a0_1 == a2_1)) && (a0_2 == a2_2 && (a0_3 == a2_3 && (a0_4 == a2_4)))) = true then (some (a1 == a3)) else (some false)
set_option maxHeartbeats 8000000 in
set_option maxRecDepth 100000 in
theorem foolscaplaw12_same.calls (a0_0 : Int) (a0_1 : Int) (a0_2 : Int) (a0_3 : Bool) (a0_4 : Int) (a1 : Bool) (a2_0 : Int) (a2_1 : Int) (a2_2 : Int) (a2_3 : Bool) (a2_4 : Int) (a3 : Bool) (r : Bool) (w : World) (h : foolscaplaw12_same.f a0_0 a0_1 a0_2 a0_3 a0_4 a1 a2_0 a2_1 a2_2 a2_3 a2_4 a3 = some r) :
  Calls Try.prog 21 #[.agg #[.int .i64 a0_0, .int .i64 a0_1, .int .i64 a0_2, .bool a0_3, .int .i64 a0_4], .bool a1, .agg #[.int .i64 a2_0, .int .i64 a2_1, .int .i64 a2_2, .bool a2_3, .int .i64 a2_4], .bool a3] w fun e w' => e = .returned (.bool r) ∧ Below w.heap.size w w' := by
 have hu30 := Try.underlying30
 have HB := Aside0.mk (Below.refl w.heap.size w)
 have H : (if ((a0_0 == a2_0 && (a0_1 == a2_1)) && (a0_2 == a2_2 && (a0_3 == a2_3 && (a0_4 == a2_4)))) = true then (some (a1 == a3)) else (some false)) = some r := h
 clear h
 by_cases c5 : ((a0_0 == a2_0 && (a0_1 == a2_1)) && (a0_2 == a2_2 && (a0_3 == a2_3 && (a0_4 == a2_4)))) = true
 ·rw [if_pos c5] at H
  have c5b0 : ((a0_0 == a2_0 && (a0_1 == a2_1)) && (a0_2 == a2_2 && (a0_3 == a2_3 && (a0_4 == a2_4)))) = true := c5
  clear c5
  obtain rfl := Option.some.inj H
  go_enter Try.func21, Try.ntmps21
  go_wp2_with (first | ((with_reducible refine gate_dst (N := 4) rfl ?_); refine box_event ?hg (N := 4) ?hd (cs := #[.int .i64 a0_0, .int .i64 a0_1, .int .i64 a0_2, .bool a0_3, .int .i64 a0_4]) (t := 30) ?hr ?_; (case hd => rfl); (case hg => rfl); (case hr => first | (go_simp; done) | (go_simp; rfl)); intro gb208 hg w6 hbox hb; have n0_ := Aside0.mk (below_step (by repeat with_reducible first | exact HB.out | apply ba | apply bn | apply bd) hb); have n1_ := Aside0.mk (hbox); have n2_ := Aside0.mk ((by rw [hg]; exact (below_size (by repeat with_reducible first | exact HB.out | apply ba | apply bn | apply bd)) : w.heap.size ≤ gb208)); have n3_ := n2_; clear HB; have HB := n0_; have BK208 := n1_; have GW208 := n2_; have GE208 := n3_; clear n0_ n1_ n2_ n3_; clear hb hbox hg) | ((with_reducible refine gate_dst (N := 6) rfl ?_); refine box_event ?hg (N := 6) ?hd (cs := #[.int .i64 a2_0, .int .i64 a2_1, .int .i64 a2_2, .bool a2_3, .int .i64 a2_4]) (t := 30) ?hr ?_; (case hd => rfl); (case hg => rfl); (case hr => first | (go_simp; done) | (go_simp; rfl)); intro gb209 hg w7 hbox hb; have n0_ := Aside0.mk (blk_below (pk BK208.out) hb); have n1_ := Aside0.mk (below_step (by repeat with_reducible first | exact HB.out | apply ba | apply bn | apply bd | refine bset ?_ (by assumption)) hb); have n2_ := Aside0.mk (hbox); have n3_ := Aside0.mk ((by rw [hg]; exact (below_size (by repeat with_reducible first | exact HB.out | apply ba | apply bn | apply bd | refine bset ?_ (by assumption))) : w.heap.size ≤ gb209)); have n4_ := n3_; have n5_ := Aside0.mk ((by rw [hg]; exact Nat.ne_of_lt (blk_lt (pk BK208.out)) : gb208 ≠ gb209)); have n6_ := Aside0.mk ((by rw [hg]; exact Nat.ne_of_gt (blk_lt (pk BK208.out)) : gb209 ≠ gb208)); clear BK208; clear HB; have BK208 := n0_; have HB := n1_; have BK209 := n2_; have GW209 := n3_; have GE209 := n4_; have NB208_209 := n5_; have NB209_208 := n6_; clear n0_ n1_ n2_ n3_ n4_ n5_ n6_; clear hb hbox hg; have hnb8 := NB208_209.out; have hnc8 := NB209_208.out; have hcz9_0 : w7.cell? ⟨gb208, 0, none⟩ = some (.int .i64 a0_0) := (blk_cell BK208.out 0).trans rfl; have hcz9_1 : w7.cell? ⟨gb208, 1, none⟩ = some (.int .i64 a0_1) := (blk_cell BK208.out 1).trans rfl; have hcz9_2 : w7.cell? ⟨gb208, 2, none⟩ = some (.int .i64 a0_2) := (blk_cell BK208.out 2).trans rfl; have hcz9_3 : w7.cell? ⟨gb208, 3, none⟩ = some (.bool a0_3) := (blk_cell BK208.out 3).trans rfl; have hcz9_4 : w7.cell? ⟨gb208, 4, none⟩ = some (.int .i64 a0_4) := (blk_cell BK208.out 4).trans rfl; have hfz9_0 := blk_frozen BK208.out 0; have hfz9_1 := blk_frozen BK208.out 1; have hfz9_2 := blk_frozen BK208.out 2; have hfz9_3 := blk_frozen BK208.out 3; have hfz9_4 := blk_frozen BK208.out 4; have hcz10_0 : w7.cell? ⟨gb209, 0, none⟩ = some (.int .i64 a2_0) := (blk_cell BK209.out 0).trans rfl; have hcz10_1 : w7.cell? ⟨gb209, 1, none⟩ = some (.int .i64 a2_1) := (blk_cell BK209.out 1).trans rfl; have hcz10_2 : w7.cell? ⟨gb209, 2, none⟩ = some (.int .i64 a2_2) := (blk_cell BK209.out 2).trans rfl; have hcz10_3 : w7.cell? ⟨gb209, 3, none⟩ = some (.bool a2_3) := (blk_cell BK209.out 3).trans rfl; have hcz10_4 : w7.cell? ⟨gb209, 4, none⟩ = some (.int .i64 a2_4) := (blk_cell BK209.out 4).trans rfl; have hfz10_0 := blk_frozen BK209.out 0; have hfz10_1 := blk_frozen BK209.out 1; have hfz10_2 := blk_frozen BK209.out 2; have hfz10_3 := blk_frozen BK209.out 3; have hfz10_4 := blk_frozen BK209.out 4))
  go_ret
  exact ⟨by first | rfl | (simp [errW_none, errW_some] <;> rfl) | (simp [*, errW_none, errW_some] <;> rfl), by repeat with_reducible first | exact HB.out | apply ba | apply bn | apply bd | refine bset ?_ (by assumption)⟩
 ·rw [if_neg c5] at H
  have c5b0 : ((a0_0 == a2_0 && (a0_1 == a2_1)) && (a0_2 == a2_2 && (a0_3 == a2_3 && (a0_4 == a2_4)))) = false := by simpa using c5
  clear c5
  obtain rfl := Option.some.inj H
  go_enter Try.func21, Try.ntmps21
  go_wp2_with (first | ((with_reducible refine gate_dst (N := 4) rfl ?_); refine box_event ?hg (N := 4) ?hd (cs := #[.int .i64 a0_0, .int .i64 a0_1, .int .i64 a0_2, .bool a0_3, .int .i64 a0_4]) (t := 30) ?hr ?_; (case hd => rfl); (case hg => rfl); (case hr => first | (go_simp; done) | (go_simp; rfl)); intro gb208 hg w11 hbox hb; have n0_ := Aside0.mk (below_step (by repeat with_reducible first | exact HB.out | apply ba | apply bn | apply bd) hb); have n1_ := Aside0.mk (hbox); have n2_ := Aside0.mk ((by rw [hg]; exact (below_size (by repeat with_reducible first | exact HB.out | apply ba | apply bn | apply bd)) : w.heap.size ≤ gb208)); have n3_ := n2_; clear HB; have HB := n0_; have BK208 := n1_; have GW208 := n2_; have GE208 := n3_; clear n0_ n1_ n2_ n3_; clear hb hbox hg) | ((with_reducible refine gate_dst (N := 6) rfl ?_); refine box_event ?hg (N := 6) ?hd (cs := #[.int .i64 a2_0, .int .i64 a2_1, .int .i64 a2_2, .bool a2_3, .int .i64 a2_4]) (t := 30) ?hr ?_; (case hd => rfl); (case hg => rfl); (case hr => first | (go_simp; done) | (go_simp; rfl)); intro gb209 hg w12 hbox hb; have n0_ := Aside0.mk (blk_below (pk BK208.out) hb); have n1_ := Aside0.mk (below_step (by repeat with_reducible first | exact HB.out | apply ba | apply bn | apply bd | refine bset ?_ (by assumption)) hb); have n2_ := Aside0.mk (hbox); have n3_ := Aside0.mk ((by rw [hg]; exact (below_size (by repeat with_reducible first | exact HB.out | apply ba | apply bn | apply bd | refine bset ?_ (by assumption))) : w.heap.size ≤ gb209)); have n4_ := n3_; have n5_ := Aside0.mk ((by rw [hg]; exact Nat.ne_of_lt (blk_lt (pk BK208.out)) : gb208 ≠ gb209)); have n6_ := Aside0.mk ((by rw [hg]; exact Nat.ne_of_gt (blk_lt (pk BK208.out)) : gb209 ≠ gb208)); clear BK208; clear HB; have BK208 := n0_; have HB := n1_; have BK209 := n2_; have GW209 := n3_; have GE209 := n4_; have NB208_209 := n5_; have NB209_208 := n6_; clear n0_ n1_ n2_ n3_ n4_ n5_ n6_; clear hb hbox hg; have hnb13 := NB208_209.out; have hnc13 := NB209_208.out; have hcz14_0 : w12.cell? ⟨gb208, 0, none⟩ = some (.int .i64 a0_0) := (blk_cell BK208.out 0).trans rfl; have hcz14_1 : w12.cell? ⟨gb208, 1, none⟩ = some (.int .i64 a0_1) := (blk_cell BK208.out 1).trans rfl; have hcz14_2 : w12.cell? ⟨gb208, 2, none⟩ = some (.int .i64 a0_2) := (blk_cell BK208.out 2).trans rfl; have hcz14_3 : w12.cell? ⟨gb208, 3, none⟩ = some (.bool a0_3) := (blk_cell BK208.out 3).trans rfl; have hcz14_4 : w12.cell? ⟨gb208, 4, none⟩ = some (.int .i64 a0_4) := (blk_cell BK208.out 4).trans rfl; have hfz14_0 := blk_frozen BK208.out 0; have hfz14_1 := blk_frozen BK208.out 1; have hfz14_2 := blk_frozen BK208.out 2; have hfz14_3 := blk_frozen BK208.out 3; have hfz14_4 := blk_frozen BK208.out 4; have hcz15_0 : w12.cell? ⟨gb209, 0, none⟩ = some (.int .i64 a2_0) := (blk_cell BK209.out 0).trans rfl; have hcz15_1 : w12.cell? ⟨gb209, 1, none⟩ = some (.int .i64 a2_1) := (blk_cell BK209.out 1).trans rfl; have hcz15_2 : w12.cell? ⟨gb209, 2, none⟩ = some (.int .i64 a2_2) := (blk_cell BK209.out 2).trans rfl; have hcz15_3 : w12.cell? ⟨gb209, 3, none⟩ = some (.bool a2_3) := (blk_cell BK209.out 3).trans rfl; have hcz15_4 : w12.cell? ⟨gb209, 4, none⟩ = some (.int .i64 a2_4) := (blk_cell BK209.out 4).trans rfl; have hfz15_0 := blk_frozen BK209.out 0; have hfz15_1 := blk_frozen BK209.out 1; have hfz15_2 := blk_frozen BK209.out 2; have hfz15_3 := blk_frozen BK209.out 3; have hfz15_4 := blk_frozen BK209.out 4))
  go_ret
  exact ⟨by first | rfl | (simp [errW_none, errW_some] <;> rfl) | (simp [*, errW_none, errW_some] <;> rfl), by repeat with_reducible first | exact HB.out | apply ba | apply bn | apply bd | refine bset ?_ (by assumption)⟩

end Go.Proofs.Ytbfoflhfmhfofaa.MFindSearch
