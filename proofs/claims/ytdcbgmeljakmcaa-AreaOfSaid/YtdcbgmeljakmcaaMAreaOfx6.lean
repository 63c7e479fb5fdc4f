/- What the Go functions of this law compute, and that they do: written by this session's own program (wip/myprint), for all inputs that the print's conditions name. -/
import Derived.Test.YtdcbgmeljakmcaaMAreaOfx0
import Derived.Test.YtdcbgmeljakmcaaMAreaOfx2
import Derived.Test.YtdcbgmeljakmcaaMAreaOfx5
namespace Go.Proofs.Ytdcbgmeljakmcaa.MAreaOf
open Go.RowKit Go.Proofs.YtdcbgmeljakmcaaW.PrintWords Go.Proofs.YtdcbgmeljakmcaaW.PrintLast Go.Proofs.Ytdcbgmeljakmcaa.Few
attribute [local go_sem] max2_int min2_int max_two min_two
set_option linter.unusedVariables false
set_option linter.unusedSimpArgs false

attribute [local go_sem high] eqA43
/-! ### foolscaplaw27_known: function 25 -/
def foolscaplaw27_known.f (k : Nat)  : Option (Bool) := (some (([(⟨#[97, 98]⟩ : ByteArray), (⟨#[99, 100]⟩ : ByteArray)] : List ByteArray) : List ByteArray)).bind fun y152 => ((area_Of.f k y152 0 1 1 0 0 false 0).bind fun bt155 => ((area_Of.f k y152 0 0 1 0 0 false 0).bind fun bt162 => ((area_Of.f k y152 0 0 0 0 0 false 0).bind fun bt169 => (if bt155.2.2.2.2.2 = true then (if (bt155.1 == 0 && ((bt155.2.1 == 0 && (bt155.2.2.1 == 1)) && ((bt155.2.2.2.1 == 0 && (bt155.2.2.2.2.1 == 2))))) = true then (if bt162.2.2.2.2.2 = true then (if (bt162.1 == 1 && ((bt162.2.1 == 0 && (bt162.2.2.1 == 0)) && ((bt162.2.2.2.1 == 0 && (bt162.2.2.2.2.1 == 0))))) = true then (some (!bt169.2.2.2.2.2)) else (some false)) else (some false)) else (some false)) else (some false)))))
theorem foolscaplaw27_known.mono : ∀ k, LeO (foolscaplaw27_known.f k ) (foolscaplaw27_known.f (k + 1) ) := by
 intro  k
 unfold foolscaplaw27_known.f
 repeat' first
   | (with_reducible exact area_Of.mono _ _ _ _ _ _ _ _ _)
   | (with_reducible exact LeO.refl _)
   | (with_reducible exact LeO.none _)
   | (with_reducible refine LeO.ite ?_ ?_)
   | (with_reducible refine LeO.bind ?_ (fun _ => ?_))
   | exact area_Of.mono _ _ _ _ _ _ _ _ _
   | exact LeO.none _
   | refine LeO.ite ?_ ?_
   | refine LeO.bind ?_ (fun _ => ?_)
set_option maxHeartbeats 8000000 in
set_option maxRecDepth 100000 in
theorem foolscaplaw27_known.calls (k : Nat)  (r : Bool) (w : World) (h : foolscaplaw27_known.f k  = some r) :
  Calls Try.prog 25 #[] w fun e w' => e = .returned (.bool r) ∧ Below w.heap.size w w' := by
 have hu28 := Try.underlying28
 have hu38 := Try.underlying38
 have hu43 := Try.underlying43
 have HB := Aside0.mk (Below.refl w.heap.size w)
 have H : ((some (([(⟨#[97, 98]⟩ : ByteArray), (⟨#[99, 100]⟩ : ByteArray)] : List ByteArray) : List ByteArray)).bind fun y152 => ((area_Of.f k y152 0 1 1 0 0 false 0).bind fun bt155 => ((area_Of.f k y152 0 0 1 0 0 false 0).bind fun bt162 => ((area_Of.f k y152 0 0 0 0 0 false 0).bind fun bt169 => (if bt155.2.2.2.2.2 = true then (if (bt155.1 == 0 && ((bt155.2.1 == 0 && (bt155.2.2.1 == 1)) && ((bt155.2.2.2.1 == 0 && (bt155.2.2.2.2.1 == 2))))) = true then (if bt162.2.2.2.2.2 = true then (if (bt162.1 == 1 && ((bt162.2.1 == 0 && (bt162.2.2.1 == 0)) && ((bt162.2.2.2.1 == 0 && (bt162.2.2.2.2.1 == 0))))) = true then (some (!bt169.2.2.2.2.2)) else (some false)) else (some false)) else (some false)) else (some false)))))) = some r := h
 clear h
 obtain ⟨y152, hy152⟩ : ∃ y_ : List ByteArray, y_ = (([(⟨#[97, 98]⟩ : ByteArray), (⟨#[99, 100]⟩ : ByteArray)] : List ByteArray)) := ⟨_, rfl⟩
 replace H : ((area_Of.f k y152 0 1 1 0 0 false 0).bind fun bt155 => ((area_Of.f k y152 0 0 1 0 0 false 0).bind fun bt162 => ((area_Of.f k y152 0 0 0 0 0 false 0).bind fun bt169 => (if bt155.2.2.2.2.2 = true then (if (bt155.1 == 0 && ((bt155.2.1 == 0 && (bt155.2.2.1 == 1)) && ((bt155.2.2.2.1 == 0 && (bt155.2.2.2.2.1 == 2))))) = true then (if bt162.2.2.2.2.2 = true then (if (bt162.1 == 1 && ((bt162.2.1 == 0 && (bt162.2.2.1 == 0)) && ((bt162.2.2.2.1 == 0 && (bt162.2.2.2.2.1 == 0))))) = true then (some (!bt169.2.2.2.2.2)) else (some false)) else (some false)) else (some false)) else (some false))))) = some r := by first | (rw [hy152]; with_reducible exact H) | (have H2_ := (Option.bind_some _ _).symm.trans H; rw [hy152]; with_reducible exact H2_) | (have H2_ := (Option.bind_some _ _).symm.trans H; with_reducible exact H2_) | with_reducible exact H | (rw [hy152]; exact H) | exact H
 have Ny152 := Aside0.mk hy152
 clear hy152
 replace H := Option.bind_eq_some_iff.mp H
 obtain ⟨⟨t155, t156, t157, t158, t159, t160⟩, A10, H⟩ := H
 replace H : ((area_Of.f k y152 0 0 1 0 0 false 0).bind fun bt162 => ((area_Of.f k y152 0 0 0 0 0 false 0).bind fun bt169 => (if t160 = true then (if (t155 == 0 && ((t156 == 0 && (t157 == 1)) && ((t158 == 0 && (t159 == 2))))) = true then (if bt162.2.2.2.2.2 = true then (if (bt162.1 == 1 && ((bt162.2.1 == 0 && (bt162.2.2.1 == 0)) && ((bt162.2.2.2.1 == 0 && (bt162.2.2.2.2.1 == 0))))) = true then (some (!bt169.2.2.2.2.2)) else (some false)) else (some false)) else (some false)) else (some false)))) = some r := H
 have A1 := Aside0.mk A10
 clear A10
 replace H := Option.bind_eq_some_iff.mp H
 obtain ⟨⟨t162, t163, t164, t165, t166, t167⟩, A20, H⟩ := H
 replace H : ((area_Of.f k y152 0 0 0 0 0 false 0).bind fun bt169 => (if t160 = true then (if (t155 == 0 && ((t156 == 0 && (t157 == 1)) && ((t158 == 0 && (t159 == 2))))) = true then (if t167 = true then (if (t162 == 1 && ((t163 == 0 && (t164 == 0)) && ((t165 == 0 && (t166 == 0))))) = true then (some (!bt169.2.2.2.2.2)) else (some false)) else (some false)) else (some false)) else (some false))) = some r := H
 have A2 := Aside0.mk A20
 clear A20
 replace H := Option.bind_eq_some_iff.mp H
 obtain ⟨⟨t169, t170, t171, t172, t173, t174⟩, A30, H⟩ := H
 replace H : (if t160 = true then (if (t155 == 0 && ((t156 == 0 && (t157 == 1)) && ((t158 == 0 && (t159 == 2))))) = true then (if t167 = true then (if (t162 == 1 && ((t163 == 0 && (t164 == 0)) && ((t165 == 0 && (t166 == 0))))) = true then (some (!t174)) else (some false)) else (some false)) else (some false)) else (some false)) = some r := H
 have A3 := Aside0.mk A30
 clear A30
 by_cases c4 : t160 = true
 ·subst c4
  have H1 : (if (t155 == 0 && ((t156 == 0 && (t157 == 1)) && ((t158 == 0 && (t159 == 2))))) = true then (if t167 = true then (if (t162 == 1 && ((t163 == 0 && (t164 == 0)) && ((t165 == 0 && (t166 == 0))))) = true then (some (!t174)) else (some false)) else (some false)) else (some false)) = some r := by rw [if_pos rfl] at H; exact H
  clear H
  have H := H1
  clear H1
  by_cases c5 : (t155 == 0 && ((t156 == 0 && (t157 == 1)) && ((t158 == 0 && (t159 == 2))))) = true
  ·rw [if_pos c5] at H
   have c5b0 : (t155 == 0 && ((t156 == 0 && (t157 == 1)) && ((t158 == 0 && (t159 == 2))))) = true := c5
   (try (have c5b1 : decide (t155 = 0 && ((t156 == 0 && (t157 == 1)) && ((t158 == 0 && (t159 == 2))))) = true := by simpa using c5))
   (try (have c5b2 : (t155 == 0 && ((t156 == 0 && (t157 == 1)) && ((t158 == 0 && (t159 == 2))))) = true := by simpa using c5))
   clear c5
   by_cases c6 : t167 = true
   ·subst c6
    have H1 : (if (t162 == 1 && ((t163 == 0 && (t164 == 0)) && ((t165 == 0 && (t166 == 0))))) = true then (some (!t174)) else (some false)) = some r := by rw [if_pos rfl] at H; exact H
    clear H
    have H := H1
    clear H1
    by_cases c7 : (t162 == 1 && ((t163 == 0 && (t164 == 0)) && ((t165 == 0 && (t166 == 0))))) = true
    ·rw [if_pos c7] at H
     have c7b0 : (t162 == 1 && ((t163 == 0 && (t164 == 0)) && ((t165 == 0 && (t166 == 0))))) = true := c7
     (try (have c7b1 : decide (t162 = 1 && ((t163 == 0 && (t164 == 0)) && ((t165 == 0 && (t166 == 0))))) = true := by simpa using c7))
     (try (have c7b2 : (t162 == 1 && ((t163 == 0 && (t164 == 0)) && ((t165 == 0 && (t166 == 0))))) = true := by simpa using c7))
     clear c7
     obtain rfl := Option.some.inj H
     go_enter Try.func25, Try.ntmps25
     go_wp2_with (first | ((with_reducible refine gate_dst (N := 8) rfl ?_); refine Kd.R_lit Kd.string _ 9 ?hg (N := 8) ?hd (xs := ([(⟨#[97, 98]⟩ : ByteArray), (⟨#[99, 100]⟩ : ByteArray)] : List ByteArray)) (inner := [.string (⟨#[97, 98]⟩ : ByteArray), .string (⟨#[99, 100]⟩ : ByteArray)]) (ok := fun _ => True) (okp := fun _ => True) ?hr ?hp (fun _ hk => hk) trivial (Below.refl _ _) (Nat.le_refl _) (by simp) ?_; (case hd => rfl); (case hg => rfl); (case hr => first | (go_simp; done) | (go_simp; rfl)); (case hp => exact (Reps.one (show Kd.M Kd.string _ _ _ (⟨#[97, 98]⟩ : ByteArray) [.string (⟨#[97, 98]⟩ : ByteArray)] from rfl) (Reps.one (show Kd.M Kd.string _ _ _ (⟨#[99, 100]⟩ : ByteArray) [.string (⟨#[99, 100]⟩ : ByteArray)] from rfl) (Reps.none _ _)))); intro v153 w8 ho9 hb hg_ hnew_; clear hg_ hnew_; (first | rw [← Ny152.out] at ho9 | (simp only [Int.reduceToNat] at ho9; rw [← Ny152.out] at ho9)); have n0_ := Aside0.mk (Kd.R_lower ho9 (below_size (by repeat with_reducible first | exact HB.out | apply ba | apply bn | apply bd))); have n1_ := Aside0.mk (below_step (by repeat with_reducible first | exact HB.out | apply ba | apply bn | apply bd) hb); clear HB; have HO154 := n0_; have HB := n1_; clear n0_ n1_; clear hb ho9; obtain ⟨Ao10, co10, eo10⟩ := Kd.R_slice HO154.out; subst eo10) | ((with_reducible refine gate_callee (f := 27) rfl ?_); refine goesL_ (some 14) rfl rfl Try.func27 (by kernel_rfl) rfl #[.slice Ao10 y152.length co10, .agg #[.int .i64 0, .int .i64 1], .agg #[.int .i64 1, .int .i64 0, .int .i64 0, .bool false, .int .i64 0]] rfl (by first | rfl | (simp only [List.map_toArray, List.map_cons, List.map_nil] <;> rfl)) ?_; (with_reducible refine (area_Of.calls k _ _ y152 0 1 1 0 0 false 0 t155 t156 t157 t158 t159 true _ ?side1 ?side2 A1.out).mono ?_); (case side1 => repeat (first | exact (Kd.R_reads' HO154.out).2.2 | (with_reducible refine Kd.C_alloc ?_ _) | (with_reducible refine Kd.C_drewN ?_ _) | (with_reducible refine Kd.C_drew ?_))); (case side2 => exact (Kd.R_reads' HO154.out).2.1); rintro e w11 ⟨rfl, hb⟩; refine ⟨_, rfl, ?_⟩; have n0_ := Aside0.mk (Kd.R_below (by (with_reducible repeat (first | apply Kd.R_alloc | apply Kd.R_drewN | apply Kd.R_drew)); exact HO154.out) hb); have n1_ := Aside0.mk (below_step (by repeat with_reducible first | exact HB.out | apply ba | apply bn | apply bd) hb); clear HO154; clear HB; have HO154 := n0_; have HB := n1_; clear n0_ n1_; (try clear hb); (try clear hb2); (try clear hk); (try clear hi)) | ((with_reducible refine gate_dst (N := 2) rfl ?_); refine box_event ?hg (N := 2) ?hd (cs := #[.int .i64 0, .int .i64 0, .int .i64 0, .int .i64 0, .int .i64 0]) (t := 43) ?hr ?_; (case hd => rfl); (case hg => rfl); (case hr => first | (go_simp; done) | (go_simp; rfl)); intro gb161 hg w12 hbox hb; have n0_ := Aside0.mk (Kd.R_below (by (with_reducible repeat (first | apply Kd.R_alloc | apply Kd.R_drewN | apply Kd.R_drew)); exact HO154.out) hb); have n1_ := Aside0.mk (below_step (by repeat with_reducible first | exact HB.out | apply ba | apply bn | apply bd) hb); have n2_ := Aside0.mk (hbox); have n3_ := Aside0.mk ((by rw [hg]; exact (below_size (by repeat with_reducible first | exact HB.out | apply ba | apply bn | apply bd)) : w.heap.size ≤ gb161)); have n4_ := n3_; clear HO154; clear HB; have HO154 := n0_; have HB := n1_; have BK161 := n2_; have GW161 := n3_; have GE161 := n4_; clear n0_ n1_ n2_ n3_ n4_; clear hb hbox hg; have hcz13_0 : w12.cell? ⟨gb161, 0, none⟩ = some (.int .i64 0) := (blk_cell BK161.out 0).trans rfl; have hcz13_1 : w12.cell? ⟨gb161, 1, none⟩ = some (.int .i64 0) := (blk_cell BK161.out 1).trans rfl; have hcz13_2 : w12.cell? ⟨gb161, 2, none⟩ = some (.int .i64 0) := (blk_cell BK161.out 2).trans rfl; have hcz13_3 : w12.cell? ⟨gb161, 3, none⟩ = some (.int .i64 0) := (blk_cell BK161.out 3).trans rfl; have hcz13_4 : w12.cell? ⟨gb161, 4, none⟩ = some (.int .i64 0) := (blk_cell BK161.out 4).trans rfl; have hfz13_0 := blk_frozen BK161.out 0; have hfz13_1 := blk_frozen BK161.out 1; have hfz13_2 := blk_frozen BK161.out 2; have hfz13_3 := blk_frozen BK161.out 3; have hfz13_4 := blk_frozen BK161.out 4) | ((with_reducible refine gate_callee (f := 27) rfl ?_); refine goesL_ (some 22) rfl rfl Try.func27 (by kernel_rfl) rfl #[.slice Ao10 y152.length co10, .agg #[.int .i64 0, .int .i64 0], .agg #[.int .i64 1, .int .i64 0, .int .i64 0, .bool false, .int .i64 0]] rfl (by first | rfl | (simp only [List.map_toArray, List.map_cons, List.map_nil] <;> rfl)) ?_; (with_reducible refine (area_Of.calls k _ _ y152 0 0 1 0 0 false 0 t162 t163 t164 t165 t166 true _ ?side1 ?side2 A2.out).mono ?_); (case side1 => refine (Kd.R_reads' (e := 9) (base := w.heap.size) (ok := fun k_ => True) (n := y152.length) (c := co10) ?_).2.2; exact (by (with_reducible repeat (first | apply Kd.R_alloc | apply Kd.R_drewN | apply Kd.R_drew)); exact (Kd.R_mono (Kd.R_far (p := ⟨gb161, 4, none⟩) (Kd.R_far (p := ⟨gb161, 3, none⟩) (Kd.R_far (p := ⟨gb161, 2, none⟩) (Kd.R_far (p := ⟨gb161, 1, none⟩) (Kd.R_far (p := ⟨gb161, 0, none⟩) (Kd.R_types HO154.out BK161.out (by decide)) (fun _ hk => hk.2) (.int .i64 t155)) (fun _ hk => hk.2) (.int .i64 t156)) (fun _ hk => hk.2) (.int .i64 t157)) (fun _ hk => hk.2) (.int .i64 t158)) (fun _ hk => hk.2) (.int .i64 t159)) (fun _ h_ => h_.1)))); (case side2 => exact (Kd.R_reads' HO154.out).2.1); rintro e w14 ⟨rfl, hb⟩; refine ⟨_, rfl, ?_⟩; have n0_ := Aside0.mk (Kd.R_below (by (with_reducible repeat (first | apply Kd.R_alloc | apply Kd.R_drewN | apply Kd.R_drew)); exact (Kd.R_mono (Kd.R_far (p := ⟨gb161, 4, none⟩) (Kd.R_far (p := ⟨gb161, 3, none⟩) (Kd.R_far (p := ⟨gb161, 2, none⟩) (Kd.R_far (p := ⟨gb161, 1, none⟩) (Kd.R_far (p := ⟨gb161, 0, none⟩) (Kd.R_types HO154.out BK161.out (by decide)) (fun _ hk => hk.2) (.int .i64 t155)) (fun _ hk => hk.2) (.int .i64 t156)) (fun _ hk => hk.2) (.int .i64 t157)) (fun _ hk => hk.2) (.int .i64 t158)) (fun _ hk => hk.2) (.int .i64 t159)) (fun _ h_ => h_.1))) hb); have n1_ := Aside0.mk (blk_below (g := gb161) (o := .cells #[.int .i64 t155, .int .i64 t156, .int .i64 t157, .int .i64 t158, .int .i64 t159] 43 (0, 0)) (by refine pk ?_; refine blk_put (cs := #[.int .i64 t155, .int .i64 t156, .int .i64 t157, .int .i64 t158, .int .i64 0]) ?_ 4 _ rfl; refine pk ?_; refine blk_put (cs := #[.int .i64 t155, .int .i64 t156, .int .i64 t157, .int .i64 0, .int .i64 0]) ?_ 3 _ rfl; refine pk ?_; refine blk_put (cs := #[.int .i64 t155, .int .i64 t156, .int .i64 0, .int .i64 0, .int .i64 0]) ?_ 2 _ rfl; refine pk ?_; refine blk_put (cs := #[.int .i64 t155, .int .i64 0, .int .i64 0, .int .i64 0, .int .i64 0]) ?_ 1 _ rfl; refine pk ?_; refine blk_put (cs := #[.int .i64 0, .int .i64 0, .int .i64 0, .int .i64 0, .int .i64 0]) ?_ 0 _ rfl; exact pk BK161.out) hb); have n2_ := Aside0.mk (below_step (by repeat with_reducible first | exact HB.out | apply ba | apply bn | apply bd | refine bset ?_ (by assumption)) hb); clear HO154; clear BK161; clear HB; have HO154 := n0_; have BK161 := n1_; have HB := n2_; clear n0_ n1_ n2_; (try clear hb); (try clear hb2); (try clear hk); (try clear hi)) | ((with_reducible refine gate_dst (N := 4) rfl ?_); refine box_event ?hg (N := 4) ?hd (cs := #[.int .i64 0, .int .i64 0, .int .i64 0, .int .i64 0, .int .i64 0]) (t := 43) ?hr ?_; (case hd => rfl); (case hg => rfl); (case hr => first | (go_simp; done) | (go_simp; rfl)); intro gb168 hg w15 hbox hb; have n0_ := Aside0.mk (Kd.R_below (by (with_reducible repeat (first | apply Kd.R_alloc | apply Kd.R_drewN | apply Kd.R_drew)); exact HO154.out) hb); have n1_ := Aside0.mk (blk_below (pk BK161.out) hb); have n2_ := Aside0.mk (below_step (by repeat with_reducible first | exact HB.out | apply ba | apply bn | apply bd | refine bset ?_ (by assumption)) hb); have n3_ := Aside0.mk (hbox); have n4_ := Aside0.mk ((by rw [hg]; exact (below_size (by repeat with_reducible first | exact HB.out | apply ba | apply bn | apply bd | refine bset ?_ (by assumption))) : w.heap.size ≤ gb168)); have n5_ := n4_; have n6_ := Aside0.mk ((by rw [hg]; exact Nat.ne_of_lt (blk_lt (pk BK161.out)) : gb161 ≠ gb168)); have n7_ := Aside0.mk ((by rw [hg]; exact Nat.ne_of_gt (blk_lt (pk BK161.out)) : gb168 ≠ gb161)); clear HO154; clear BK161; clear HB; have HO154 := n0_; have BK161 := n1_; have HB := n2_; have BK168 := n3_; have GW168 := n4_; have GE168 := n5_; have NB161_168 := n6_; have NB168_161 := n7_; clear n0_ n1_ n2_ n3_ n4_ n5_ n6_ n7_; clear hb hbox hg; have hnb16 := NB168_161.out; have hnc16 := NB161_168.out; have hcz17_0 : w15.cell? ⟨gb168, 0, none⟩ = some (.int .i64 0) := (blk_cell BK168.out 0).trans rfl; have hcz17_1 : w15.cell? ⟨gb168, 1, none⟩ = some (.int .i64 0) := (blk_cell BK168.out 1).trans rfl; have hcz17_2 : w15.cell? ⟨gb168, 2, none⟩ = some (.int .i64 0) := (blk_cell BK168.out 2).trans rfl; have hcz17_3 : w15.cell? ⟨gb168, 3, none⟩ = some (.int .i64 0) := (blk_cell BK168.out 3).trans rfl; have hcz17_4 : w15.cell? ⟨gb168, 4, none⟩ = some (.int .i64 0) := (blk_cell BK168.out 4).trans rfl; have hfz17_0 := blk_frozen BK168.out 0; have hfz17_1 := blk_frozen BK168.out 1; have hfz17_2 := blk_frozen BK168.out 2; have hfz17_3 := blk_frozen BK168.out 3; have hfz17_4 := blk_frozen BK168.out 4) | ((with_reducible refine gate_callee (f := 27) rfl ?_); refine goesL_ (some 29) rfl rfl Try.func27 (by kernel_rfl) rfl #[.slice Ao10 y152.length co10, .agg #[.int .i64 0, .int .i64 0], .agg #[.int .i64 0, .int .i64 0, .int .i64 0, .bool false, .int .i64 0]] rfl (by first | rfl | (simp only [List.map_toArray, List.map_cons, List.map_nil] <;> rfl)) ?_; (with_reducible refine (area_Of.calls k _ _ y152 0 0 0 0 0 false 0 t169 t170 t171 t172 t173 t174 _ ?side1 ?side2 A3.out).mono ?_); (case side1 => refine (Kd.R_reads' (e := 9) (base := w.heap.size) (ok := fun k_ => True) (n := y152.length) (c := co10) ?_).2.2; exact (by (with_reducible repeat (first | apply Kd.R_alloc | apply Kd.R_drewN | apply Kd.R_drew)); exact (Kd.R_mono (Kd.R_far (p := ⟨gb168, 4, none⟩) (Kd.R_far (p := ⟨gb168, 3, none⟩) (Kd.R_far (p := ⟨gb168, 2, none⟩) (Kd.R_far (p := ⟨gb168, 1, none⟩) (Kd.R_far (p := ⟨gb168, 0, none⟩) (Kd.R_types HO154.out BK168.out (by decide)) (fun _ hk => hk.2) (.int .i64 t162)) (fun _ hk => hk.2) (.int .i64 t163)) (fun _ hk => hk.2) (.int .i64 t164)) (fun _ hk => hk.2) (.int .i64 t165)) (fun _ hk => hk.2) (.int .i64 t166)) (fun _ h_ => h_.1)))); (case side2 => exact (Kd.R_reads' HO154.out).2.1); rintro e w18 ⟨rfl, hb⟩; refine ⟨_, rfl, ?_⟩; have n0_ := Aside0.mk (Kd.R_below (by (with_reducible repeat (first | apply Kd.R_alloc | apply Kd.R_drewN | apply Kd.R_drew)); exact (Kd.R_mono (Kd.R_far (p := ⟨gb168, 4, none⟩) (Kd.R_far (p := ⟨gb168, 3, none⟩) (Kd.R_far (p := ⟨gb168, 2, none⟩) (Kd.R_far (p := ⟨gb168, 1, none⟩) (Kd.R_far (p := ⟨gb168, 0, none⟩) (Kd.R_types HO154.out BK168.out (by decide)) (fun _ hk => hk.2) (.int .i64 t162)) (fun _ hk => hk.2) (.int .i64 t163)) (fun _ hk => hk.2) (.int .i64 t164)) (fun _ hk => hk.2) (.int .i64 t165)) (fun _ hk => hk.2) (.int .i64 t166)) (fun _ h_ => h_.1))) hb); have n1_ := Aside0.mk (blk_below (g := gb161) (o := .cells #[.int .i64 t155, .int .i64 t156, .int .i64 t157, .int .i64 t158, .int .i64 t159] 43 (0, 0)) (by refine pk ?_; refine blk_far ?_ NB161_168.out _; refine pk ?_; refine blk_far ?_ NB161_168.out _; refine pk ?_; refine blk_far ?_ NB161_168.out _; refine pk ?_; refine blk_far ?_ NB161_168.out _; refine pk ?_; refine blk_far ?_ NB161_168.out _; exact pk BK161.out) hb); have n2_ := Aside0.mk (blk_below (g := gb168) (o := .cells #[.int .i64 t162, .int .i64 t163, .int .i64 t164, .int .i64 t165, .int .i64 t166] 43 (0, 0)) (by refine pk ?_; refine blk_put (cs := #[.int .i64 t162, .int .i64 t163, .int .i64 t164, .int .i64 t165, .int .i64 0]) ?_ 4 _ rfl; refine pk ?_; refine blk_put (cs := #[.int .i64 t162, .int .i64 t163, .int .i64 t164, .int .i64 0, .int .i64 0]) ?_ 3 _ rfl; refine pk ?_; refine blk_put (cs := #[.int .i64 t162, .int .i64 t163, .int .i64 0, .int .i64 0, .int .i64 0]) ?_ 2 _ rfl; refine pk ?_; refine blk_put (cs := #[.int .i64 t162, .int .i64 0, .int .i64 0, .int .i64 0, .int .i64 0]) ?_ 1 _ rfl; refine pk ?_; refine blk_put (cs := #[.int .i64 0, .int .i64 0, .int .i64 0, .int .i64 0, .int .i64 0]) ?_ 0 _ rfl; exact pk BK168.out) hb); have n3_ := Aside0.mk (below_step (by repeat with_reducible first | exact HB.out | apply ba | apply bn | apply bd | refine bset ?_ (by assumption)) hb); clear HO154; clear BK161; clear BK168; clear HB; have HO154 := n0_; have BK161 := n1_; have BK168 := n2_; have HB := n3_; clear n0_ n1_ n2_ n3_; (try clear hb); (try clear hb2); (try clear hk); (try clear hi)) | ((with_reducible refine gate_dst (N := 6) rfl ?_); refine box_event ?hg (N := 6) ?hd (cs := #[.int .i64 0, .int .i64 0, .int .i64 0, .int .i64 0, .int .i64 0]) (t := 43) ?hr ?_; (case hd => rfl); (case hg => rfl); (case hr => first | (go_simp; done) | (go_simp; rfl)); intro gb175 hg w19 hbox hb; have n0_ := Aside0.mk (Kd.R_below (by (with_reducible repeat (first | apply Kd.R_alloc | apply Kd.R_drewN | apply Kd.R_drew)); exact HO154.out) hb); have n1_ := Aside0.mk (blk_below (pk BK161.out) hb); have n2_ := Aside0.mk (blk_below (pk BK168.out) hb); have n3_ := Aside0.mk (below_step (by repeat with_reducible first | exact HB.out | apply ba | apply bn | apply bd | refine bset ?_ (by assumption)) hb); have n4_ := Aside0.mk (hbox); have n5_ := Aside0.mk ((by rw [hg]; exact (below_size (by repeat with_reducible first | exact HB.out | apply ba | apply bn | apply bd | refine bset ?_ (by assumption))) : w.heap.size ≤ gb175)); have n6_ := n5_; have n7_ := Aside0.mk ((by rw [hg]; exact Nat.ne_of_lt (blk_lt (pk BK161.out)) : gb161 ≠ gb175)); have n8_ := Aside0.mk ((by rw [hg]; exact Nat.ne_of_gt (blk_lt (pk BK161.out)) : gb175 ≠ gb161)); have n9_ := Aside0.mk ((by rw [hg]; exact Nat.ne_of_lt (blk_lt (pk BK168.out)) : gb168 ≠ gb175)); have n10_ := Aside0.mk ((by rw [hg]; exact Nat.ne_of_gt (blk_lt (pk BK168.out)) : gb175 ≠ gb168)); clear HO154; clear BK161; clear BK168; clear HB; have HO154 := n0_; have BK161 := n1_; have BK168 := n2_; have HB := n3_; have BK175 := n4_; have GW175 := n5_; have GE175 := n6_; have NB161_175 := n7_; have NB175_161 := n8_; have NB168_175 := n9_; have NB175_168 := n10_; clear n0_ n1_ n2_ n3_ n4_ n5_ n6_ n7_ n8_ n9_ n10_; clear hb hbox hg; have hnb20 := NB175_161.out; have hnc20 := NB161_175.out; have hnb21 := NB175_168.out; have hnc21 := NB168_175.out; have hcz22_0 : w19.cell? ⟨gb175, 0, none⟩ = some (.int .i64 0) := (blk_cell BK175.out 0).trans rfl; have hcz22_1 : w19.cell? ⟨gb175, 1, none⟩ = some (.int .i64 0) := (blk_cell BK175.out 1).trans rfl; have hcz22_2 : w19.cell? ⟨gb175, 2, none⟩ = some (.int .i64 0) := (blk_cell BK175.out 2).trans rfl; have hcz22_3 : w19.cell? ⟨gb175, 3, none⟩ = some (.int .i64 0) := (blk_cell BK175.out 3).trans rfl; have hcz22_4 : w19.cell? ⟨gb175, 4, none⟩ = some (.int .i64 0) := (blk_cell BK175.out 4).trans rfl; have hfz22_0 := blk_frozen BK175.out 0; have hfz22_1 := blk_frozen BK175.out 1; have hfz22_2 := blk_frozen BK175.out 2; have hfz22_3 := blk_frozen BK175.out 3; have hfz22_4 := blk_frozen BK175.out 4; have hcz23_0 : w19.cell? ⟨gb161, 0, none⟩ = some (.int .i64 t155) := (blk_cell BK161.out 0).trans rfl; have hcz23_1 : w19.cell? ⟨gb161, 1, none⟩ = some (.int .i64 t156) := (blk_cell BK161.out 1).trans rfl; have hcz23_2 : w19.cell? ⟨gb161, 2, none⟩ = some (.int .i64 t157) := (blk_cell BK161.out 2).trans rfl; have hcz23_3 : w19.cell? ⟨gb161, 3, none⟩ = some (.int .i64 t158) := (blk_cell BK161.out 3).trans rfl; have hcz23_4 : w19.cell? ⟨gb161, 4, none⟩ = some (.int .i64 t159) := (blk_cell BK161.out 4).trans rfl; have hfz23_0 := blk_frozen BK161.out 0; have hfz23_1 := blk_frozen BK161.out 1; have hfz23_2 := blk_frozen BK161.out 2; have hfz23_3 := blk_frozen BK161.out 3; have hfz23_4 := blk_frozen BK161.out 4; have hcz24_0 : w19.cell? ⟨gb168, 0, none⟩ = some (.int .i64 t162) := (blk_cell BK168.out 0).trans rfl; have hcz24_1 : w19.cell? ⟨gb168, 1, none⟩ = some (.int .i64 t163) := (blk_cell BK168.out 1).trans rfl; have hcz24_2 : w19.cell? ⟨gb168, 2, none⟩ = some (.int .i64 t164) := (blk_cell BK168.out 2).trans rfl; have hcz24_3 : w19.cell? ⟨gb168, 3, none⟩ = some (.int .i64 t165) := (blk_cell BK168.out 3).trans rfl; have hcz24_4 : w19.cell? ⟨gb168, 4, none⟩ = some (.int .i64 t166) := (blk_cell BK168.out 4).trans rfl; have hfz24_0 := blk_frozen BK168.out 0; have hfz24_1 := blk_frozen BK168.out 1; have hfz24_2 := blk_frozen BK168.out 2; have hfz24_3 := blk_frozen BK168.out 3; have hfz24_4 := blk_frozen BK168.out 4))
     go_ret
     exact ⟨by first | rfl | (simp [errW_none, errW_some] <;> rfl) | (simp [*, errW_none, errW_some] <;> rfl), by repeat with_reducible first | exact HB.out | apply ba | apply bn | apply bd | refine bset ?_ (by assumption)⟩
    ·rw [if_neg c7] at H
     have c7b0 : (t162 == 1 && ((t163 == 0 && (t164 == 0)) && ((t165 == 0 && (t166 == 0))))) = false := by simpa using c7
     (try (have c7b1 : decide (t162 = 1 && ((t163 == 0 && (t164 == 0)) && ((t165 == 0 && (t166 == 0))))) = false := by simpa using c7))
     (try (have c7b2 : (t162 == 1 && ((t163 == 0 && (t164 == 0)) && ((t165 == 0 && (t166 == 0))))) = false := by simpa using c7))
     (try (have c7b3 : ¬ (t162 = 1 && ((t163 == 0 && (t164 == 0)) && ((t165 == 0 && (t166 == 0))))) := by simpa using c7))
     clear c7
     obtain rfl := Option.some.inj H
     go_enter Try.func25, Try.ntmps25
     go_wp2_with (first | ((with_reducible refine gate_dst (N := 8) rfl ?_); refine Kd.R_lit Kd.string _ 9 ?hg (N := 8) ?hd (xs := ([(⟨#[97, 98]⟩ : ByteArray), (⟨#[99, 100]⟩ : ByteArray)] : List ByteArray)) (inner := [.string (⟨#[97, 98]⟩ : ByteArray), .string (⟨#[99, 100]⟩ : ByteArray)]) (ok := fun _ => True) (okp := fun _ => True) ?hr ?hp (fun _ hk => hk) trivial (Below.refl _ _) (Nat.le_refl _) (by simp) ?_; (case hd => rfl); (case hg => rfl); (case hr => first | (go_simp; done) | (go_simp; rfl)); (case hp => exact (Reps.one (show Kd.M Kd.string _ _ _ (⟨#[97, 98]⟩ : ByteArray) [.string (⟨#[97, 98]⟩ : ByteArray)] from rfl) (Reps.one (show Kd.M Kd.string _ _ _ (⟨#[99, 100]⟩ : ByteArray) [.string (⟨#[99, 100]⟩ : ByteArray)] from rfl) (Reps.none _ _)))); intro v153 w25 ho26 hb hg_ hnew_; clear hg_ hnew_; (first | rw [← Ny152.out] at ho26 | (simp only [Int.reduceToNat] at ho26; rw [← Ny152.out] at ho26)); have n0_ := Aside0.mk (Kd.R_lower ho26 (below_size (by repeat with_reducible first | exact HB.out | apply ba | apply bn | apply bd))); have n1_ := Aside0.mk (below_step (by repeat with_reducible first | exact HB.out | apply ba | apply bn | apply bd) hb); clear HB; have HO154 := n0_; have HB := n1_; clear n0_ n1_; clear hb ho26; obtain ⟨Ao27, co27, eo27⟩ := Kd.R_slice HO154.out; subst eo27) | ((with_reducible refine gate_callee (f := 27) rfl ?_); refine goesL_ (some 14) rfl rfl Try.func27 (by kernel_rfl) rfl #[.slice Ao27 y152.length co27, .agg #[.int .i64 0, .int .i64 1], .agg #[.int .i64 1, .int .i64 0, .int .i64 0, .bool false, .int .i64 0]] rfl (by first | rfl | (simp only [List.map_toArray, List.map_cons, List.map_nil] <;> rfl)) ?_; (with_reducible refine (area_Of.calls k _ _ y152 0 1 1 0 0 false 0 t155 t156 t157 t158 t159 true _ ?side1 ?side2 A1.out).mono ?_); (case side1 => repeat (first | exact (Kd.R_reads' HO154.out).2.2 | (with_reducible refine Kd.C_alloc ?_ _) | (with_reducible refine Kd.C_drewN ?_ _) | (with_reducible refine Kd.C_drew ?_))); (case side2 => exact (Kd.R_reads' HO154.out).2.1); rintro e w28 ⟨rfl, hb⟩; refine ⟨_, rfl, ?_⟩; have n0_ := Aside0.mk (Kd.R_below (by (with_reducible repeat (first | apply Kd.R_alloc | apply Kd.R_drewN | apply Kd.R_drew)); exact HO154.out) hb); have n1_ := Aside0.mk (below_step (by repeat with_reducible first | exact HB.out | apply ba | apply bn | apply bd) hb); clear HO154; clear HB; have HO154 := n0_; have HB := n1_; clear n0_ n1_; (try clear hb); (try clear hb2); (try clear hk); (try clear hi)) | ((with_reducible refine gate_dst (N := 2) rfl ?_); refine box_event ?hg (N := 2) ?hd (cs := #[.int .i64 0, .int .i64 0, .int .i64 0, .int .i64 0, .int .i64 0]) (t := 43) ?hr ?_; (case hd => rfl); (case hg => rfl); (case hr => first | (go_simp; done) | (go_simp; rfl)); intro gb161 hg w29 hbox hb; have n0_ := Aside0.mk (Kd.R_below (by (with_reducible repeat (first | apply Kd.R_alloc | apply Kd.R_drewN | apply Kd.R_drew)); exact HO154.out) hb); have n1_ := Aside0.mk (below_step (by repeat with_reducible first | exact HB.out | apply ba | apply bn | apply bd) hb); have n2_ := Aside0.mk (hbox); have n3_ := Aside0.mk ((by rw [hg]; exact (below_size (by repeat with_reducible first | exact HB.out | apply ba | apply bn | apply bd)) : w.heap.size ≤ gb161)); have n4_ := n3_; clear HO154; clear HB; have HO154 := n0_; have HB := n1_; have BK161 := n2_; have GW161 := n3_; have GE161 := n4_; clear n0_ n1_ n2_ n3_ n4_; clear hb hbox hg; have hcz30_0 : w29.cell? ⟨gb161, 0, none⟩ = some (.int .i64 0) := (blk_cell BK161.out 0).trans rfl; have hcz30_1 : w29.cell? ⟨gb161, 1, none⟩ = some (.int .i64 0) := (blk_cell BK161.out 1).trans rfl; have hcz30_2 : w29.cell? ⟨gb161, 2, none⟩ = some (.int .i64 0) := (blk_cell BK161.out 2).trans rfl; have hcz30_3 : w29.cell? ⟨gb161, 3, none⟩ = some (.int .i64 0) := (blk_cell BK161.out 3).trans rfl; have hcz30_4 : w29.cell? ⟨gb161, 4, none⟩ = some (.int .i64 0) := (blk_cell BK161.out 4).trans rfl; have hfz30_0 := blk_frozen BK161.out 0; have hfz30_1 := blk_frozen BK161.out 1; have hfz30_2 := blk_frozen BK161.out 2; have hfz30_3 := blk_frozen BK161.out 3; have hfz30_4 := blk_frozen BK161.out 4) | ((with_reducible refine gate_callee (f := 27) rfl ?_); refine goesL_ (some 22) rfl rfl Try.func27 (by kernel_rfl) rfl #[.slice Ao27 y152.length co27, .agg #[.int .i64 0, .int .i64 0], .agg #[.int .i64 1, .int .i64 0, .int .i64 0, .bool false, .int .i64 0]] rfl (by first | rfl | (simp only [List.map_toArray, List.map_cons, List.map_nil] <;> rfl)) ?_; (with_reducible refine (area_Of.calls k _ _ y152 0 0 1 0 0 false 0 t162 t163 t164 t165 t166 true _ ?side1 ?side2 A2.out).mono ?_); (case side1 => refine (Kd.R_reads' (e := 9) (base := w.heap.size) (ok := fun k_ => True) (n := y152.length) (c := co27) ?_).2.2; exact (by (with_reducible repeat (first | apply Kd.R_alloc | apply Kd.R_drewN | apply Kd.R_drew)); exact (Kd.R_mono (Kd.R_far (p := ⟨gb161, 4, none⟩) (Kd.R_far (p := ⟨gb161, 3, none⟩) (Kd.R_far (p := ⟨gb161, 2, none⟩) (Kd.R_far (p := ⟨gb161, 1, none⟩) (Kd.R_far (p := ⟨gb161, 0, none⟩) (Kd.R_types HO154.out BK161.out (by decide)) (fun _ hk => hk.2) (.int .i64 t155)) (fun _ hk => hk.2) (.int .i64 t156)) (fun _ hk => hk.2) (.int .i64 t157)) (fun _ hk => hk.2) (.int .i64 t158)) (fun _ hk => hk.2) (.int .i64 t159)) (fun _ h_ => h_.1)))); (case side2 => exact (Kd.R_reads' HO154.out).2.1); rintro e w31 ⟨rfl, hb⟩; refine ⟨_, rfl, ?_⟩; have n0_ := Aside0.mk (Kd.R_below (by (with_reducible repeat (first | apply Kd.R_alloc | apply Kd.R_drewN | apply Kd.R_drew)); exact (Kd.R_mono (Kd.R_far (p := ⟨gb161, 4, none⟩) (Kd.R_far (p := ⟨gb161, 3, none⟩) (Kd.R_far (p := ⟨gb161, 2, none⟩) (Kd.R_far (p := ⟨gb161, 1, none⟩) (Kd.R_far (p := ⟨gb161, 0, none⟩) (Kd.R_types HO154.out BK161.out (by decide)) (fun _ hk => hk.2) (.int .i64 t155)) (fun _ hk => hk.2) (.int .i64 t156)) (fun _ hk => hk.2) (.int .i64 t157)) (fun _ hk => hk.2) (.int .i64 t158)) (fun _ hk => hk.2) (.int .i64 t159)) (fun _ h_ => h_.1))) hb); have n1_ := Aside0.mk (blk_below (g := gb161) (o := .cells #[.int .i64 t155, .int .i64 t156, .int .i64 t157, .int .i64 t158, .int .i64 t159] 43 (0, 0)) (by refine pk ?_; refine blk_put (cs := #[.int .i64 t155, .int .i64 t156, .int .i64 t157, .int .i64 t158, .int .i64 0]) ?_ 4 _ rfl; refine pk ?_; refine blk_put (cs := #[.int .i64 t155, .int .i64 t156, .int .i64 t157, .int .i64 0, .int .i64 0]) ?_ 3 _ rfl; refine pk ?_; refine blk_put (cs := #[.int .i64 t155, .int .i64 t156, .int .i64 0, .int .i64 0, .int .i64 0]) ?_ 2 _ rfl; refine pk ?_; refine blk_put (cs := #[.int .i64 t155, .int .i64 0, .int .i64 0, .int .i64 0, .int .i64 0]) ?_ 1 _ rfl; refine pk ?_; refine blk_put (cs := #[.int .i64 0, .int .i64 0, .int .i64 0, .int .i64 0, .int .i64 0]) ?_ 0 _ rfl; exact pk BK161.out) hb); have n2_ := Aside0.mk (below_step (by repeat with_reducible first | exact HB.out | apply ba | apply bn | apply bd | refine bset ?_ (by assumption)) hb); clear HO154; clear BK161; clear HB; have HO154 := n0_; have BK161 := n1_; have HB := n2_; clear n0_ n1_ n2_; (try clear hb); (try clear hb2); (try clear hk); (try clear hi)) | ((with_reducible refine gate_dst (N := 4) rfl ?_); refine box_event ?hg (N := 4) ?hd (cs := #[.int .i64 0, .int .i64 0, .int .i64 0, .int .i64 0, .int .i64 0]) (t := 43) ?hr ?_; (case hd => rfl); (case hg => rfl); (case hr => first | (go_simp; done) | (go_simp; rfl)); intro gb168 hg w32 hbox hb; have n0_ := Aside0.mk (Kd.R_below (by (with_reducible repeat (first | apply Kd.R_alloc | apply Kd.R_drewN | apply Kd.R_drew)); exact HO154.out) hb); have n1_ := Aside0.mk (blk_below (pk BK161.out) hb); have n2_ := Aside0.mk (below_step (by repeat with_reducible first | exact HB.out | apply ba | apply bn | apply bd | refine bset ?_ (by assumption)) hb); have n3_ := Aside0.mk (hbox); have n4_ := Aside0.mk ((by rw [hg]; exact (below_size (by repeat with_reducible first | exact HB.out | apply ba | apply bn | apply bd | refine bset ?_ (by assumption))) : w.heap.size ≤ gb168)); have n5_ := n4_; have n6_ := Aside0.mk ((by rw [hg]; exact Nat.ne_of_lt (blk_lt (pk BK161.out)) : gb161 ≠ gb168)); have n7_ := Aside0.mk ((by rw [hg]; exact Nat.ne_of_gt (blk_lt (pk BK161.out)) : gb168 ≠ gb161)); clear HO154; clear BK161; clear HB; have HO154 := n0_; have BK161 := n1_; have HB := n2_; have BK168 := n3_; have GW168 := n4_; have GE168 := n5_; have NB161_168 := n6_; have NB168_161 := n7_; clear n0_ n1_ n2_ n3_ n4_ n5_ n6_ n7_; clear hb hbox hg; have hnb33 := NB168_161.out; have hnc33 := NB161_168.out; have hcz34_0 : w32.cell? ⟨gb168, 0, none⟩ = some (.int .i64 0) := (blk_cell BK168.out 0).trans rfl; have hcz34_1 : w32.cell? ⟨gb168, 1, none⟩ = some (.int .i64 0) := (blk_cell BK168.out 1).trans rfl; have hcz34_2 : w32.cell? ⟨gb168, 2, none⟩ = some (.int .i64 0) := (blk_cell BK168.out 2).trans rfl; have hcz34_3 : w32.cell? ⟨gb168, 3, none⟩ = some (.int .i64 0) := (blk_cell BK168.out 3).trans rfl; have hcz34_4 : w32.cell? ⟨gb168, 4, none⟩ = some (.int .i64 0) := (blk_cell BK168.out 4).trans rfl; have hfz34_0 := blk_frozen BK168.out 0; have hfz34_1 := blk_frozen BK168.out 1; have hfz34_2 := blk_frozen BK168.out 2; have hfz34_3 := blk_frozen BK168.out 3; have hfz34_4 := blk_frozen BK168.out 4) | ((with_reducible refine gate_callee (f := 27) rfl ?_); refine goesL_ (some 29) rfl rfl Try.func27 (by kernel_rfl) rfl #[.slice Ao27 y152.length co27, .agg #[.int .i64 0, .int .i64 0], .agg #[.int .i64 0, .int .i64 0, .int .i64 0, .bool false, .int .i64 0]] rfl (by first | rfl | (simp only [List.map_toArray, List.map_cons, List.map_nil] <;> rfl)) ?_; (with_reducible refine (area_Of.calls k _ _ y152 0 0 0 0 0 false 0 t169 t170 t171 t172 t173 t174 _ ?side1 ?side2 A3.out).mono ?_); (case side1 => refine (Kd.R_reads' (e := 9) (base := w.heap.size) (ok := fun k_ => True) (n := y152.length) (c := co27) ?_).2.2; exact (by (with_reducible repeat (first | apply Kd.R_alloc | apply Kd.R_drewN | apply Kd.R_drew)); exact (Kd.R_mono (Kd.R_far (p := ⟨gb168, 4, none⟩) (Kd.R_far (p := ⟨gb168, 3, none⟩) (Kd.R_far (p := ⟨gb168, 2, none⟩) (Kd.R_far (p := ⟨gb168, 1, none⟩) (Kd.R_far (p := ⟨gb168, 0, none⟩) (Kd.R_types HO154.out BK168.out (by decide)) (fun _ hk => hk.2) (.int .i64 t162)) (fun _ hk => hk.2) (.int .i64 t163)) (fun _ hk => hk.2) (.int .i64 t164)) (fun _ hk => hk.2) (.int .i64 t165)) (fun _ hk => hk.2) (.int .i64 t166)) (fun _ h_ => h_.1)))); (case side2 => exact (Kd.R_reads' HO154.out).2.1); rintro e w35 ⟨rfl, hb⟩; refine ⟨_, rfl, ?_⟩; have n0_ := Aside0.mk (Kd.R_below (by (with_reducible repeat (first | apply Kd.R_alloc | apply Kd.R_drewN | apply Kd.R_drew)); exact (Kd.R_mono (Kd.R_far (p := ⟨gb168, 4, none⟩) (Kd.R_far (p := ⟨gb168, 3, none⟩) (Kd.R_far (p := ⟨gb168, 2, none⟩) (Kd.R_far (p := ⟨gb168, 1, none⟩) (Kd.R_far (p := ⟨gb168, 0, none⟩) (Kd.R_types HO154.out BK168.out (by decide)) (fun _ hk => hk.2) (.int .i64 t162)) (fun _ hk => hk.2) (.int .i64 t163)) (fun _ hk => hk.2) (.int .i64 t164)) (fun _ hk => hk.2) (.int .i64 t165)) (fun _ hk => hk.2) (.int .i64 t166)) (fun _ h_ => h_.1))) hb); have n1_ := Aside0.mk (blk_below (g := gb161) (o := .cells #[.int .i64 t155, .int .i64 t156, .int .i64 t157, .int .i64 t158, .int .i64 t159] 43 (0, 0)) (by refine pk ?_; refine blk_far ?_ NB161_168.out _; refine pk ?_; refine blk_far ?_ NB161_168.out _; refine pk ?_; refine blk_far ?_ NB161_168.out _; refine pk ?_; refine blk_far ?_ NB161_168.out _; refine pk ?_; refine blk_far ?_ NB161_168.out _; exact pk BK161.out) hb); have n2_ := Aside0.mk (blk_below (g := gb168) (o := .cells #[.int .i64 t162, .int .i64 t163, .int .i64 t164, .int .i64 t165, .int .i64 t166] 43 (0, 0)) (by refine pk ?_; refine blk_put (cs := #[.int .i64 t162, .int .i64 t163, .int .i64 t164, .int .i64 t165, .int .i64 0]) ?_ 4 _ rfl; refine pk ?_; refine blk_put (cs := #[.int .i64 t162, .int .i64 t163, .int .i64 t164, .int .i64 0, .int .i64 0]) ?_ 3 _ rfl; refine pk ?_; refine blk_put (cs := #[.int .i64 t162, .int .i64 t163, .int .i64 0, .int .i64 0, .int .i64 0]) ?_ 2 _ rfl; refine pk ?_; refine blk_put (cs := #[.int .i64 t162, .int .i64 0, .int .i64 0, .int .i64 0, .int .i64 0]) ?_ 1 _ rfl; refine pk ?_; refine blk_put (cs := #[.int .i64 0, .int .i64 0, .int .i64 0, .int .i64 0, .int .i64 0]) ?_ 0 _ rfl; exact pk BK168.out) hb); have n3_ := Aside0.mk (below_step (by repeat with_reducible first | exact HB.out | apply ba | apply bn | apply bd | refine bset ?_ (by assumption)) hb); clear HO154; clear BK161; clear BK168; clear HB; have HO154 := n0_; have BK161 := n1_; have BK168 := n2_; have HB := n3_; clear n0_ n1_ n2_ n3_; (try clear hb); (try clear hb2); (try clear hk); (try clear hi)) | ((with_reducible refine gate_dst (N := 6) rfl ?_); refine box_event ?hg (N := 6) ?hd (cs := #[.int .i64 0, .int .i64 0, .int .i64 0, .int .i64 0, .int .i64 0]) (t := 43) ?hr ?_; (case hd => rfl); (case hg => rfl); (case hr => first | (go_simp; done) | (go_simp; rfl)); intro gb175 hg w36 hbox hb; have n0_ := Aside0.mk (Kd.R_below (by (with_reducible repeat (first | apply Kd.R_alloc | apply Kd.R_drewN | apply Kd.R_drew)); exact HO154.out) hb); have n1_ := Aside0.mk (blk_below (pk BK161.out) hb); have n2_ := Aside0.mk (blk_below (pk BK168.out) hb); have n3_ := Aside0.mk (below_step (by repeat with_reducible first | exact HB.out | apply ba | apply bn | apply bd | refine bset ?_ (by assumption)) hb); have n4_ := Aside0.mk (hbox); have n5_ := Aside0.mk ((by rw [hg]; exact (below_size (by repeat with_reducible first | exact HB.out | apply ba | apply bn | apply bd | refine bset ?_ (by assumption))) : w.heap.size ≤ gb175)); have n6_ := n5_; have n7_ := Aside0.mk ((by rw [hg]; exact Nat.ne_of_lt (blk_lt (pk BK161.out)) : gb161 ≠ gb175)); have n8_ := Aside0.mk ((by rw [hg]; exact Nat.ne_of_gt (blk_lt (pk BK161.out)) : gb175 ≠ gb161)); have n9_ := Aside0.mk ((by rw [hg]; exact Nat.ne_of_lt (blk_lt (pk BK168.out)) : gb168 ≠ gb175)); have n10_ := Aside0.mk ((by rw [hg]; exact Nat.ne_of_gt (blk_lt (pk BK168.out)) : gb175 ≠ gb168)); clear HO154; clear BK161; clear BK168; clear HB; have HO154 := n0_; have BK161 := n1_; have BK168 := n2_; have HB := n3_; have BK175 := n4_; have GW175 := n5_; have GE175 := n6_; have NB161_175 := n7_; have NB175_161 := n8_; have NB168_175 := n9_; have NB175_168 := n10_; clear n0_ n1_ n2_ n3_ n4_ n5_ n6_ n7_ n8_ n9_ n10_; clear hb hbox hg; have hnb37 := NB175_161.out; have hnc37 := NB161_175.out; have hnb38 := NB175_168.out; have hnc38 := NB168_175.out; have hcz39_0 : w36.cell? ⟨gb175, 0, none⟩ = some (.int .i64 0) := (blk_cell BK175.out 0).trans rfl; have hcz39_1 : w36.cell? ⟨gb175, 1, none⟩ = some (.int .i64 0) := (blk_cell BK175.out 1).trans rfl; have hcz39_2 : w36.cell? ⟨gb175, 2, none⟩ = some (.int .i64 0) := (blk_cell BK175.out 2).trans rfl; have hcz39_3 : w36.cell? ⟨gb175, 3, none⟩ = some (.int .i64 0) := (blk_cell BK175.out 3).trans rfl; have hcz39_4 : w36.cell? ⟨gb175, 4, none⟩ = some (.int .i64 0) := (blk_cell BK175.out 4).trans rfl; have hfz39_0 := blk_frozen BK175.out 0; have hfz39_1 := blk_frozen BK175.out 1; have hfz39_2 := blk_frozen BK175.out 2; have hfz39_3 := blk_frozen BK175.out 3; have hfz39_4 := blk_frozen BK175.out 4; have hcz40_0 : w36.cell? ⟨gb161, 0, none⟩ = some (.int .i64 t155) := (blk_cell BK161.out 0).trans rfl; have hcz40_1 : w36.cell? ⟨gb161, 1, none⟩ = some (.int .i64 t156) := (blk_cell BK161.out 1).trans rfl; have hcz40_2 : w36.cell? ⟨gb161, 2, none⟩ = some (.int .i64 t157) := (blk_cell BK161.out 2).trans rfl; have hcz40_3 : w36.cell? ⟨gb161, 3, none⟩ = some (.int .i64 t158) := (blk_cell BK161.out 3).trans rfl; have hcz40_4 : w36.cell? ⟨gb161, 4, none⟩ = some (.int .i64 t159) := (blk_cell BK161.out 4).trans rfl; have hfz40_0 := blk_frozen BK161.out 0; have hfz40_1 := blk_frozen BK161.out 1; have hfz40_2 := blk_frozen BK161.out 2; have hfz40_3 := blk_frozen BK161.out 3; have hfz40_4 := blk_frozen BK161.out 4; have hcz41_0 : w36.cell? ⟨gb168, 0, none⟩ = some (.int .i64 t162) := (blk_cell BK168.out 0).trans rfl; have hcz41_1 : w36.cell? ⟨gb168, 1, none⟩ = some (.int .i64 t163) := (blk_cell BK168.out 1).trans rfl; have hcz41_2 : w36.cell? ⟨gb168, 2, none⟩ = some (.int .i64 t164) := (blk_cell BK168.out 2).trans rfl; have hcz41_3 : w36.cell? ⟨gb168, 3, none⟩ = some (.int .i64 t165) := (blk_cell BK168.out 3).trans rfl; have hcz41_4 : w36.cell? ⟨gb168, 4, none⟩ = some (.int .i64 t166) := (blk_cell BK168.out 4).trans rfl; have hfz41_0 := blk_frozen BK168.out 0; have hfz41_1 := blk_frozen BK168.out 1; have hfz41_2 := blk_frozen BK168.out 2; have hfz41_3 := blk_frozen BK168.out 3; have hfz41_4 := blk_frozen BK168.out 4))
     go_ret
     exact ⟨by first | rfl | (simp [errW_none, errW_some] <;> rfl) | (simp [*, errW_none, errW_some] <;> rfl), by repeat with_reducible first | exact HB.out | apply ba | apply bn | apply bd | refine bset ?_ (by assumption)⟩
   ·replace c6 := Bool.eq_false_iff.mpr c6
    subst c6
    have H1 : (some false) = some r := by rw [if_neg (show ¬ (false = true) by decide)] at H; exact H
    clear H
    have H := H1
    clear H1
    obtain rfl := Option.some.inj H
    go_enter Try.func25, Try.ntmps25
    go_wp2_with (first | ((with_reducible refine gate_dst (N := 8) rfl ?_); refine Kd.R_lit Kd.string _ 9 ?hg (N := 8) ?hd (xs := ([(⟨#[97, 98]⟩ : ByteArray), (⟨#[99, 100]⟩ : ByteArray)] : List ByteArray)) (inner := [.string (⟨#[97, 98]⟩ : ByteArray), .string (⟨#[99, 100]⟩ : ByteArray)]) (ok := fun _ => True) (okp := fun _ => True) ?hr ?hp (fun _ hk => hk) trivial (Below.refl _ _) (Nat.le_refl _) (by simp) ?_; (case hd => rfl); (case hg => rfl); (case hr => first | (go_simp; done) | (go_simp; rfl)); (case hp => exact (Reps.one (show Kd.M Kd.string _ _ _ (⟨#[97, 98]⟩ : ByteArray) [.string (⟨#[97, 98]⟩ : ByteArray)] from rfl) (Reps.one (show Kd.M Kd.string _ _ _ (⟨#[99, 100]⟩ : ByteArray) [.string (⟨#[99, 100]⟩ : ByteArray)] from rfl) (Reps.none _ _)))); intro v153 w42 ho43 hb hg_ hnew_; clear hg_ hnew_; (first | rw [← Ny152.out] at ho43 | (simp only [Int.reduceToNat] at ho43; rw [← Ny152.out] at ho43)); have n0_ := Aside0.mk (Kd.R_lower ho43 (below_size (by repeat with_reducible first | exact HB.out | apply ba | apply bn | apply bd))); have n1_ := Aside0.mk (below_step (by repeat with_reducible first | exact HB.out | apply ba | apply bn | apply bd) hb); clear HB; have HO154 := n0_; have HB := n1_; clear n0_ n1_; clear hb ho43; obtain ⟨Ao44, co44, eo44⟩ := Kd.R_slice HO154.out; subst eo44) | ((with_reducible refine gate_callee (f := 27) rfl ?_); refine goesL_ (some 14) rfl rfl Try.func27 (by kernel_rfl) rfl #[.slice Ao44 y152.length co44, .agg #[.int .i64 0, .int .i64 1], .agg #[.int .i64 1, .int .i64 0, .int .i64 0, .bool false, .int .i64 0]] rfl (by first | rfl | (simp only [List.map_toArray, List.map_cons, List.map_nil] <;> rfl)) ?_; (with_reducible refine (area_Of.calls k _ _ y152 0 1 1 0 0 false 0 t155 t156 t157 t158 t159 true _ ?side1 ?side2 A1.out).mono ?_); (case side1 => repeat (first | exact (Kd.R_reads' HO154.out).2.2 | (with_reducible refine Kd.C_alloc ?_ _) | (with_reducible refine Kd.C_drewN ?_ _) | (with_reducible refine Kd.C_drew ?_))); (case side2 => exact (Kd.R_reads' HO154.out).2.1); rintro e w45 ⟨rfl, hb⟩; refine ⟨_, rfl, ?_⟩; have n0_ := Aside0.mk (Kd.R_below (by (with_reducible repeat (first | apply Kd.R_alloc | apply Kd.R_drewN | apply Kd.R_drew)); exact HO154.out) hb); have n1_ := Aside0.mk (below_step (by repeat with_reducible first | exact HB.out | apply ba | apply bn | apply bd) hb); clear HO154; clear HB; have HO154 := n0_; have HB := n1_; clear n0_ n1_; (try clear hb); (try clear hb2); (try clear hk); (try clear hi)) | ((with_reducible refine gate_dst (N := 2) rfl ?_); refine box_event ?hg (N := 2) ?hd (cs := #[.int .i64 0, .int .i64 0, .int .i64 0, .int .i64 0, .int .i64 0]) (t := 43) ?hr ?_; (case hd => rfl); (case hg => rfl); (case hr => first | (go_simp; done) | (go_simp; rfl)); intro gb161 hg w46 hbox hb; have n0_ := Aside0.mk (Kd.R_below (by (with_reducible repeat (first | apply Kd.R_alloc | apply Kd.R_drewN | apply Kd.R_drew)); exact HO154.out) hb); have n1_ := Aside0.mk (below_step (by repeat with_reducible first | exact HB.out | apply ba | apply bn | apply bd) hb); have n2_ := Aside0.mk (hbox); have n3_ := Aside0.mk ((by rw [hg]; exact (below_size (by repeat with_reducible first | exact HB.out | apply ba | apply bn | apply bd)) : w.heap.size ≤ gb161)); have n4_ := n3_; clear HO154; clear HB; have HO154 := n0_; have HB := n1_; have BK161 := n2_; have GW161 := n3_; have GE161 := n4_; clear n0_ n1_ n2_ n3_ n4_; clear hb hbox hg; have hcz47_0 : w46.cell? ⟨gb161, 0, none⟩ = some (.int .i64 0) := (blk_cell BK161.out 0).trans rfl; have hcz47_1 : w46.cell? ⟨gb161, 1, none⟩ = some (.int .i64 0) := (blk_cell BK161.out 1).trans rfl; have hcz47_2 : w46.cell? ⟨gb161, 2, none⟩ = some (.int .i64 0) := (blk_cell BK161.out 2).trans rfl; have hcz47_3 : w46.cell? ⟨gb161, 3, none⟩ = some (.int .i64 0) := (blk_cell BK161.out 3).trans rfl; have hcz47_4 : w46.cell? ⟨gb161, 4, none⟩ = some (.int .i64 0) := (blk_cell BK161.out 4).trans rfl; have hfz47_0 := blk_frozen BK161.out 0; have hfz47_1 := blk_frozen BK161.out 1; have hfz47_2 := blk_frozen BK161.out 2; have hfz47_3 := blk_frozen BK161.out 3; have hfz47_4 := blk_frozen BK161.out 4) | ((with_reducible refine gate_callee (f := 27) rfl ?_); refine goesL_ (some 22) rfl rfl Try.func27 (by kernel_rfl) rfl #[.slice Ao44 y152.length co44, .agg #[.int .i64 0, .int .i64 0], .agg #[.int .i64 1, .int .i64 0, .int .i64 0, .bool false, .int .i64 0]] rfl (by first | rfl | (simp only [List.map_toArray, List.map_cons, List.map_nil] <;> rfl)) ?_; (with_reducible refine (area_Of.calls k _ _ y152 0 0 1 0 0 false 0 t162 t163 t164 t165 t166 false _ ?side1 ?side2 A2.out).mono ?_); (case side1 => refine (Kd.R_reads' (e := 9) (base := w.heap.size) (ok := fun k_ => True) (n := y152.length) (c := co44) ?_).2.2; exact (by (with_reducible repeat (first | apply Kd.R_alloc | apply Kd.R_drewN | apply Kd.R_drew)); exact (Kd.R_mono (Kd.R_far (p := ⟨gb161, 4, none⟩) (Kd.R_far (p := ⟨gb161, 3, none⟩) (Kd.R_far (p := ⟨gb161, 2, none⟩) (Kd.R_far (p := ⟨gb161, 1, none⟩) (Kd.R_far (p := ⟨gb161, 0, none⟩) (Kd.R_types HO154.out BK161.out (by decide)) (fun _ hk => hk.2) (.int .i64 t155)) (fun _ hk => hk.2) (.int .i64 t156)) (fun _ hk => hk.2) (.int .i64 t157)) (fun _ hk => hk.2) (.int .i64 t158)) (fun _ hk => hk.2) (.int .i64 t159)) (fun _ h_ => h_.1)))); (case side2 => exact (Kd.R_reads' HO154.out).2.1); rintro e w48 ⟨rfl, hb⟩; refine ⟨_, rfl, ?_⟩; have n0_ := Aside0.mk (Kd.R_below (by (with_reducible repeat (first | apply Kd.R_alloc | apply Kd.R_drewN | apply Kd.R_drew)); exact (Kd.R_mono (Kd.R_far (p := ⟨gb161, 4, none⟩) (Kd.R_far (p := ⟨gb161, 3, none⟩) (Kd.R_far (p := ⟨gb161, 2, none⟩) (Kd.R_far (p := ⟨gb161, 1, none⟩) (Kd.R_far (p := ⟨gb161, 0, none⟩) (Kd.R_types HO154.out BK161.out (by decide)) (fun _ hk => hk.2) (.int .i64 t155)) (fun _ hk => hk.2) (.int .i64 t156)) (fun _ hk => hk.2) (.int .i64 t157)) (fun _ hk => hk.2) (.int .i64 t158)) (fun _ hk => hk.2) (.int .i64 t159)) (fun _ h_ => h_.1))) hb); have n1_ := Aside0.mk (blk_below (g := gb161) (o := .cells #[.int .i64 t155, .int .i64 t156, .int .i64 t157, .int .i64 t158, .int .i64 t159] 43 (0, 0)) (by refine pk ?_; refine blk_put (cs := #[.int .i64 t155, .int .i64 t156, .int .i64 t157, .int .i64 t158, .int .i64 0]) ?_ 4 _ rfl; refine pk ?_; refine blk_put (cs := #[.int .i64 t155, .int .i64 t156, .int .i64 t157, .int .i64 0, .int .i64 0]) ?_ 3 _ rfl; refine pk ?_; refine blk_put (cs := #[.int .i64 t155, .int .i64 t156, .int .i64 0, .int .i64 0, .int .i64 0]) ?_ 2 _ rfl; refine pk ?_; refine blk_put (cs := #[.int .i64 t155, .int .i64 0, .int .i64 0, .int .i64 0, .int .i64 0]) ?_ 1 _ rfl; refine pk ?_; refine blk_put (cs := #[.int .i64 0, .int .i64 0, .int .i64 0, .int .i64 0, .int .i64 0]) ?_ 0 _ rfl; exact pk BK161.out) hb); have n2_ := Aside0.mk (below_step (by repeat with_reducible first | exact HB.out | apply ba | apply bn | apply bd | refine bset ?_ (by assumption)) hb); clear HO154; clear BK161; clear HB; have HO154 := n0_; have BK161 := n1_; have HB := n2_; clear n0_ n1_ n2_; (try clear hb); (try clear hb2); (try clear hk); (try clear hi)) | ((with_reducible refine gate_dst (N := 4) rfl ?_); refine box_event ?hg (N := 4) ?hd (cs := #[.int .i64 0, .int .i64 0, .int .i64 0, .int .i64 0, .int .i64 0]) (t := 43) ?hr ?_; (case hd => rfl); (case hg => rfl); (case hr => first | (go_simp; done) | (go_simp; rfl)); intro gb168 hg w49 hbox hb; have n0_ := Aside0.mk (Kd.R_below (by (with_reducible repeat (first | apply Kd.R_alloc | apply Kd.R_drewN | apply Kd.R_drew)); exact HO154.out) hb); have n1_ := Aside0.mk (blk_below (pk BK161.out) hb); have n2_ := Aside0.mk (below_step (by repeat with_reducible first | exact HB.out | apply ba | apply bn | apply bd | refine bset ?_ (by assumption)) hb); have n3_ := Aside0.mk (hbox); have n4_ := Aside0.mk ((by rw [hg]; exact (below_size (by repeat with_reducible first | exact HB.out | apply ba | apply bn | apply bd | refine bset ?_ (by assumption))) : w.heap.size ≤ gb168)); have n5_ := n4_; have n6_ := Aside0.mk ((by rw [hg]; exact Nat.ne_of_lt (blk_lt (pk BK161.out)) : gb161 ≠ gb168)); have n7_ := Aside0.mk ((by rw [hg]; exact Nat.ne_of_gt (blk_lt (pk BK161.out)) : gb168 ≠ gb161)); clear HO154; clear BK161; clear HB; have HO154 := n0_; have BK161 := n1_; have HB := n2_; have BK168 := n3_; have GW168 := n4_; have GE168 := n5_; have NB161_168 := n6_; have NB168_161 := n7_; clear n0_ n1_ n2_ n3_ n4_ n5_ n6_ n7_; clear hb hbox hg; have hnb50 := NB168_161.out; have hnc50 := NB161_168.out; have hcz51_0 : w49.cell? ⟨gb168, 0, none⟩ = some (.int .i64 0) := (blk_cell BK168.out 0).trans rfl; have hcz51_1 : w49.cell? ⟨gb168, 1, none⟩ = some (.int .i64 0) := (blk_cell BK168.out 1).trans rfl; have hcz51_2 : w49.cell? ⟨gb168, 2, none⟩ = some (.int .i64 0) := (blk_cell BK168.out 2).trans rfl; have hcz51_3 : w49.cell? ⟨gb168, 3, none⟩ = some (.int .i64 0) := (blk_cell BK168.out 3).trans rfl; have hcz51_4 : w49.cell? ⟨gb168, 4, none⟩ = some (.int .i64 0) := (blk_cell BK168.out 4).trans rfl; have hfz51_0 := blk_frozen BK168.out 0; have hfz51_1 := blk_frozen BK168.out 1; have hfz51_2 := blk_frozen BK168.out 2; have hfz51_3 := blk_frozen BK168.out 3; have hfz51_4 := blk_frozen BK168.out 4) | ((with_reducible refine gate_callee (f := 27) rfl ?_); refine goesL_ (some 29) rfl rfl Try.func27 (by kernel_rfl) rfl #[.slice Ao44 y152.length co44, .agg #[.int .i64 0, .int .i64 0], .agg #[.int .i64 0, .int .i64 0, .int .i64 0, .bool false, .int .i64 0]] rfl (by first | rfl | (simp only [List.map_toArray, List.map_cons, List.map_nil] <;> rfl)) ?_; (with_reducible refine (area_Of.calls k _ _ y152 0 0 0 0 0 false 0 t169 t170 t171 t172 t173 t174 _ ?side1 ?side2 A3.out).mono ?_); (case side1 => refine (Kd.R_reads' (e := 9) (base := w.heap.size) (ok := fun k_ => True) (n := y152.length) (c := co44) ?_).2.2; exact (by (with_reducible repeat (first | apply Kd.R_alloc | apply Kd.R_drewN | apply Kd.R_drew)); exact (Kd.R_mono (Kd.R_far (p := ⟨gb168, 4, none⟩) (Kd.R_far (p := ⟨gb168, 3, none⟩) (Kd.R_far (p := ⟨gb168, 2, none⟩) (Kd.R_far (p := ⟨gb168, 1, none⟩) (Kd.R_far (p := ⟨gb168, 0, none⟩) (Kd.R_types HO154.out BK168.out (by decide)) (fun _ hk => hk.2) (.int .i64 t162)) (fun _ hk => hk.2) (.int .i64 t163)) (fun _ hk => hk.2) (.int .i64 t164)) (fun _ hk => hk.2) (.int .i64 t165)) (fun _ hk => hk.2) (.int .i64 t166)) (fun _ h_ => h_.1)))); (case side2 => exact (Kd.R_reads' HO154.out).2.1); rintro e w52 ⟨rfl, hb⟩; refine ⟨_, rfl, ?_⟩; have n0_ := Aside0.mk (Kd.R_below (by (with_reducible repeat (first | apply Kd.R_alloc | apply Kd.R_drewN | apply Kd.R_drew)); exact (Kd.R_mono (Kd.R_far (p := ⟨gb168, 4, none⟩) (Kd.R_far (p := ⟨gb168, 3, none⟩) (Kd.R_far (p := ⟨gb168, 2, none⟩) (Kd.R_far (p := ⟨gb168, 1, none⟩) (Kd.R_far (p := ⟨gb168, 0, none⟩) (Kd.R_types HO154.out BK168.out (by decide)) (fun _ hk => hk.2) (.int .i64 t162)) (fun _ hk => hk.2) (.int .i64 t163)) (fun _ hk => hk.2) (.int .i64 t164)) (fun _ hk => hk.2) (.int .i64 t165)) (fun _ hk => hk.2) (.int .i64 t166)) (fun _ h_ => h_.1))) hb); have n1_ := Aside0.mk (blk_below (g := gb161) (o := .cells #[.int .i64 t155, .int .i64 t156, .int .i64 t157, .int .i64 t158, .int .i64 t159] 43 (0, 0)) (by refine pk ?_; refine blk_far ?_ NB161_168.out _; refine pk ?_; refine blk_far ?_ NB161_168.out _; refine pk ?_; refine blk_far ?_ NB161_168.out _; refine pk ?_; refine blk_far ?_ NB161_168.out _; refine pk ?_; refine blk_far ?_ NB161_168.out _; exact pk BK161.out) hb); have n2_ := Aside0.mk (blk_below (g := gb168) (o := .cells #[.int .i64 t162, .int .i64 t163, .int .i64 t164, .int .i64 t165, .int .i64 t166] 43 (0, 0)) (by refine pk ?_; refine blk_put (cs := #[.int .i64 t162, .int .i64 t163, .int .i64 t164, .int .i64 t165, .int .i64 0]) ?_ 4 _ rfl; refine pk ?_; refine blk_put (cs := #[.int .i64 t162, .int .i64 t163, .int .i64 t164, .int .i64 0, .int .i64 0]) ?_ 3 _ rfl; refine pk ?_; refine blk_put (cs := #[.int .i64 t162, .int .i64 t163, .int .i64 0, .int .i64 0, .int .i64 0]) ?_ 2 _ rfl; refine pk ?_; refine blk_put (cs := #[.int .i64 t162, .int .i64 0, .int .i64 0, .int .i64 0, .int .i64 0]) ?_ 1 _ rfl; refine pk ?_; refine blk_put (cs := #[.int .i64 0, .int .i64 0, .int .i64 0, .int .i64 0, .int .i64 0]) ?_ 0 _ rfl; exact pk BK168.out) hb); have n3_ := Aside0.mk (below_step (by repeat with_reducible first | exact HB.out | apply ba | apply bn | apply bd | refine bset ?_ (by assumption)) hb); clear HO154; clear BK161; clear BK168; clear HB; have HO154 := n0_; have BK161 := n1_; have BK168 := n2_; have HB := n3_; clear n0_ n1_ n2_ n3_; (try clear hb); (try clear hb2); (try clear hk); (try clear hi)) | ((with_reducible refine gate_dst (N := 6) rfl ?_); refine box_event ?hg (N := 6) ?hd (cs := #[.int .i64 0, .int .i64 0, .int .i64 0, .int .i64 0, .int .i64 0]) (t := 43) ?hr ?_; (case hd => rfl); (case hg => rfl); (case hr => first | (go_simp; done) | (go_simp; rfl)); intro gb175 hg w53 hbox hb; have n0_ := Aside0.mk (Kd.R_below (by (with_reducible repeat (first | apply Kd.R_alloc | apply Kd.R_drewN | apply Kd.R_drew)); exact HO154.out) hb); have n1_ := Aside0.mk (blk_below (pk BK161.out) hb); have n2_ := Aside0.mk (blk_below (pk BK168.out) hb); have n3_ := Aside0.mk (below_step (by repeat with_reducible first | exact HB.out | apply ba | apply bn | apply bd | refine bset ?_ (by assumption)) hb); have n4_ := Aside0.mk (hbox); have n5_ := Aside0.mk ((by rw [hg]; exact (below_size (by repeat with_reducible first | exact HB.out | apply ba | apply bn | apply bd | refine bset ?_ (by assumption))) : w.heap.size ≤ gb175)); have n6_ := n5_; have n7_ := Aside0.mk ((by rw [hg]; exact Nat.ne_of_lt (blk_lt (pk BK161.out)) : gb161 ≠ gb175)); have n8_ := Aside0.mk ((by rw [hg]; exact Nat.ne_of_gt (blk_lt (pk BK161.out)) : gb175 ≠ gb161)); have n9_ := Aside0.mk ((by rw [hg]; exact Nat.ne_of_lt (blk_lt (pk BK168.out)) : gb168 ≠ gb175)); have n10_ := Aside0.mk ((by rw [hg]; exact Nat.ne_of_gt (blk_lt (pk BK168.out)) : gb175 ≠ gb168)); clear HO154; clear BK161; clear BK168; clear HB; have HO154 := n0_; have BK161 := n1_; have BK168 := n2_; have HB := n3_; have BK175 := n4_; have GW175 := n5_; have GE175 := n6_; have NB161_175 := n7_; have NB175_161 := n8_; have NB168_175 := n9_; have NB175_168 := n10_; clear n0_ n1_ n2_ n3_ n4_ n5_ n6_ n7_ n8_ n9_ n10_; clear hb hbox hg; have hnb54 := NB175_161.out; have hnc54 := NB161_175.out; have hnb55 := NB175_168.out; have hnc55 := NB168_175.out; have hcz56_0 : w53.cell? ⟨gb175, 0, none⟩ = some (.int .i64 0) := (blk_cell BK175.out 0).trans rfl; have hcz56_1 : w53.cell? ⟨gb175, 1, none⟩ = some (.int .i64 0) := (blk_cell BK175.out 1).trans rfl; have hcz56_2 : w53.cell? ⟨gb175, 2, none⟩ = some (.int .i64 0) := (blk_cell BK175.out 2).trans rfl; have hcz56_3 : w53.cell? ⟨gb175, 3, none⟩ = some (.int .i64 0) := (blk_cell BK175.out 3).trans rfl; have hcz56_4 : w53.cell? ⟨gb175, 4, none⟩ = some (.int .i64 0) := (blk_cell BK175.out 4).trans rfl; have hfz56_0 := blk_frozen BK175.out 0; have hfz56_1 := blk_frozen BK175.out 1; have hfz56_2 := blk_frozen BK175.out 2; have hfz56_3 := blk_frozen BK175.out 3; have hfz56_4 := blk_frozen BK175.out 4; have hcz57_0 : w53.cell? ⟨gb161, 0, none⟩ = some (.int .i64 t155) := (blk_cell BK161.out 0).trans rfl; have hcz57_1 : w53.cell? ⟨gb161, 1, none⟩ = some (.int .i64 t156) := (blk_cell BK161.out 1).trans rfl; have hcz57_2 : w53.cell? ⟨gb161, 2, none⟩ = some (.int .i64 t157) := (blk_cell BK161.out 2).trans rfl; have hcz57_3 : w53.cell? ⟨gb161, 3, none⟩ = some (.int .i64 t158) := (blk_cell BK161.out 3).trans rfl; have hcz57_4 : w53.cell? ⟨gb161, 4, none⟩ = some (.int .i64 t159) := (blk_cell BK161.out 4).trans rfl; have hfz57_0 := blk_frozen BK161.out 0; have hfz57_1 := blk_frozen BK161.out 1; have hfz57_2 := blk_frozen BK161.out 2; have hfz57_3 := blk_frozen BK161.out 3; have hfz57_4 := blk_frozen BK161.out 4))
    go_ret
    exact ⟨by first | rfl | (simp [errW_none, errW_some] <;> rfl) | (simp [*, errW_none, errW_some] <;> rfl), by repeat with_reducible first | exact HB.out | apply ba | apply bn | apply bd | refine bset ?_ (by assumption)⟩
  ·rw [if_neg c5] at H
   have c5b0 : (t155 == 0 && ((t156 == 0 && (t157 == 1)) && ((t158 == 0 && (t159 == 2))))) = false := by simpa using c5
   (try (have c5b1 : decide (t155 = 0 && ((t156 == 0 && (t157 == 1)) && ((t158 == 0 && (t159 == 2))))) = false := by simpa using c5))
   (try (have c5b2 : (t155 == 0 && ((t156 == 0 && (t157 == 1)) && ((t158 == 0 && (t159 == 2))))) = false := by simpa using c5))
   (try (have c5b3 : ¬ (t155 = 0 && ((t156 == 0 && (t157 == 1)) && ((t158 == 0 && (t159 == 2))))) := by simpa using c5))
   clear c5
   obtain rfl := Option.some.inj H
   go_enter Try.func25, Try.ntmps25
   go_wp2_with (first | ((with_reducible refine gate_dst (N := 8) rfl ?_); refine Kd.R_lit Kd.string _ 9 ?hg (N := 8) ?hd (xs := ([(⟨#[97, 98]⟩ : ByteArray), (⟨#[99, 100]⟩ : ByteArray)] : List ByteArray)) (inner := [.string (⟨#[97, 98]⟩ : ByteArray), .string (⟨#[99, 100]⟩ : ByteArray)]) (ok := fun _ => True) (okp := fun _ => True) ?hr ?hp (fun _ hk => hk) trivial (Below.refl _ _) (Nat.le_refl _) (by simp) ?_; (case hd => rfl); (case hg => rfl); (case hr => first | (go_simp; done) | (go_simp; rfl)); (case hp => exact (Reps.one (show Kd.M Kd.string _ _ _ (⟨#[97, 98]⟩ : ByteArray) [.string (⟨#[97, 98]⟩ : ByteArray)] from rfl) (Reps.one (show Kd.M Kd.string _ _ _ (⟨#[99, 100]⟩ : ByteArray) [.string (⟨#[99, 100]⟩ : ByteArray)] from rfl) (Reps.none _ _)))); intro v153 w58 ho59 hb hg_ hnew_; clear hg_ hnew_; (first | rw [← Ny152.out] at ho59 | (simp only [Int.reduceToNat] at ho59; rw [← Ny152.out] at ho59)); have n0_ := Aside0.mk (Kd.R_lower ho59 (below_size (by repeat with_reducible first | exact HB.out | apply ba | apply bn | apply bd))); have n1_ := Aside0.mk (below_step (by repeat with_reducible first | exact HB.out | apply ba | apply bn | apply bd) hb); clear HB; have HO154 := n0_; have HB := n1_; clear n0_ n1_; clear hb ho59; obtain ⟨Ao60, co60, eo60⟩ := Kd.R_slice HO154.out; subst eo60) | ((with_reducible refine gate_callee (f := 27) rfl ?_); refine goesL_ (some 14) rfl rfl Try.func27 (by kernel_rfl) rfl #[.slice Ao60 y152.length co60, .agg #[.int .i64 0, .int .i64 1], .agg #[.int .i64 1, .int .i64 0, .int .i64 0, .bool false, .int .i64 0]] rfl (by first | rfl | (simp only [List.map_toArray, List.map_cons, List.map_nil] <;> rfl)) ?_; (with_reducible refine (area_Of.calls k _ _ y152 0 1 1 0 0 false 0 t155 t156 t157 t158 t159 true _ ?side1 ?side2 A1.out).mono ?_); (case side1 => repeat (first | exact (Kd.R_reads' HO154.out).2.2 | (with_reducible refine Kd.C_alloc ?_ _) | (with_reducible refine Kd.C_drewN ?_ _) | (with_reducible refine Kd.C_drew ?_))); (case side2 => exact (Kd.R_reads' HO154.out).2.1); rintro e w61 ⟨rfl, hb⟩; refine ⟨_, rfl, ?_⟩; have n0_ := Aside0.mk (Kd.R_below (by (with_reducible repeat (first | apply Kd.R_alloc | apply Kd.R_drewN | apply Kd.R_drew)); exact HO154.out) hb); have n1_ := Aside0.mk (below_step (by repeat with_reducible first | exact HB.out | apply ba | apply bn | apply bd) hb); clear HO154; clear HB; have HO154 := n0_; have HB := n1_; clear n0_ n1_; (try clear hb); (try clear hb2); (try clear hk); (try clear hi)) | ((with_reducible refine gate_dst (N := 2) rfl ?_); refine box_event ?hg (N := 2) ?hd (cs := #[.int .i64 0, .int .i64 0, .int .i64 0, .int .i64 0, .int .i64 0]) (t := 43) ?hr ?_; (case hd => rfl); (case hg => rfl); (case hr => first | (go_simp; done) | (go_simp; rfl)); intro gb161 hg w62 hbox hb; have n0_ := Aside0.mk (Kd.R_below (by (with_reducible repeat (first | apply Kd.R_alloc | apply Kd.R_drewN | apply Kd.R_drew)); exact HO154.out) hb); have n1_ := Aside0.mk (below_step (by repeat with_reducible first | exact HB.out | apply ba | apply bn | apply bd) hb); have n2_ := Aside0.mk (hbox); have n3_ := Aside0.mk ((by rw [hg]; exact (below_size (by repeat with_reducible first | exact HB.out | apply ba | apply bn | apply bd)) : w.heap.size ≤ gb161)); have n4_ := n3_; clear HO154; clear HB; have HO154 := n0_; have HB := n1_; have BK161 := n2_; have GW161 := n3_; have GE161 := n4_; clear n0_ n1_ n2_ n3_ n4_; clear hb hbox hg; have hcz63_0 : w62.cell? ⟨gb161, 0, none⟩ = some (.int .i64 0) := (blk_cell BK161.out 0).trans rfl; have hcz63_1 : w62.cell? ⟨gb161, 1, none⟩ = some (.int .i64 0) := (blk_cell BK161.out 1).trans rfl; have hcz63_2 : w62.cell? ⟨gb161, 2, none⟩ = some (.int .i64 0) := (blk_cell BK161.out 2).trans rfl; have hcz63_3 : w62.cell? ⟨gb161, 3, none⟩ = some (.int .i64 0) := (blk_cell BK161.out 3).trans rfl; have hcz63_4 : w62.cell? ⟨gb161, 4, none⟩ = some (.int .i64 0) := (blk_cell BK161.out 4).trans rfl; have hfz63_0 := blk_frozen BK161.out 0; have hfz63_1 := blk_frozen BK161.out 1; have hfz63_2 := blk_frozen BK161.out 2; have hfz63_3 := blk_frozen BK161.out 3; have hfz63_4 := blk_frozen BK161.out 4) | ((with_reducible refine gate_callee (f := 27) rfl ?_); refine goesL_ (some 22) rfl rfl Try.func27 (by kernel_rfl) rfl #[.slice Ao60 y152.length co60, .agg #[.int .i64 0, .int .i64 0], .agg #[.int .i64 1, .int .i64 0, .int .i64 0, .bool false, .int .i64 0]] rfl (by first | rfl | (simp only [List.map_toArray, List.map_cons, List.map_nil] <;> rfl)) ?_; (with_reducible refine (area_Of.calls k _ _ y152 0 0 1 0 0 false 0 t162 t163 t164 t165 t166 t167 _ ?side1 ?side2 A2.out).mono ?_); (case side1 => refine (Kd.R_reads' (e := 9) (base := w.heap.size) (ok := fun k_ => True) (n := y152.length) (c := co60) ?_).2.2; exact (by (with_reducible repeat (first | apply Kd.R_alloc | apply Kd.R_drewN | apply Kd.R_drew)); exact (Kd.R_mono (Kd.R_far (p := ⟨gb161, 4, none⟩) (Kd.R_far (p := ⟨gb161, 3, none⟩) (Kd.R_far (p := ⟨gb161, 2, none⟩) (Kd.R_far (p := ⟨gb161, 1, none⟩) (Kd.R_far (p := ⟨gb161, 0, none⟩) (Kd.R_types HO154.out BK161.out (by decide)) (fun _ hk => hk.2) (.int .i64 t155)) (fun _ hk => hk.2) (.int .i64 t156)) (fun _ hk => hk.2) (.int .i64 t157)) (fun _ hk => hk.2) (.int .i64 t158)) (fun _ hk => hk.2) (.int .i64 t159)) (fun _ h_ => h_.1)))); (case side2 => exact (Kd.R_reads' HO154.out).2.1); rintro e w64 ⟨rfl, hb⟩; refine ⟨_, rfl, ?_⟩; have n0_ := Aside0.mk (Kd.R_below (by (with_reducible repeat (first | apply Kd.R_alloc | apply Kd.R_drewN | apply Kd.R_drew)); exact (Kd.R_mono (Kd.R_far (p := ⟨gb161, 4, none⟩) (Kd.R_far (p := ⟨gb161, 3, none⟩) (Kd.R_far (p := ⟨gb161, 2, none⟩) (Kd.R_far (p := ⟨gb161, 1, none⟩) (Kd.R_far (p := ⟨gb161, 0, none⟩) (Kd.R_types HO154.out BK161.out (by decide)) (fun _ hk => hk.2) (.int .i64 t155)) (fun _ hk => hk.2) (.int .i64 t156)) (fun _ hk => hk.2) (.int .i64 t157)) (fun _ hk => hk.2) (.int .i64 t158)) (fun _ hk => hk.2) (.int .i64 t159)) (fun _ h_ => h_.1))) hb); have n1_ := Aside0.mk (blk_below (g := gb161) (o := .cells #[.int .i64 t155, .int .i64 t156, .int .i64 t157, .int .i64 t158, .int .i64 t159] 43 (0, 0)) (by refine pk ?_; refine blk_put (cs := #[.int .i64 t155, .int .i64 t156, .int .i64 t157, .int .i64 t158, .int .i64 0]) ?_ 4 _ rfl; refine pk ?_; refine blk_put (cs := #[.int .i64 t155, .int .i64 t156, .int .i64 t157, .int .i64 0, .int .i64 0]) ?_ 3 _ rfl; refine pk ?_; refine blk_put (cs := #[.int .i64 t155, .int .i64 t156, .int .i64 0, .int .i64 0, .int .i64 0]) ?_ 2 _ rfl; refine pk ?_; refine blk_put (cs := #[.int .i64 t155, .int .i64 0, .int .i64 0, .int .i64 0, .int .i64 0]) ?_ 1 _ rfl; refine pk ?_; refine blk_put (cs := #[.int .i64 0, .int .i64 0, .int .i64 0, .int .i64 0, .int .i64 0]) ?_ 0 _ rfl; exact pk BK161.out) hb); have n2_ := Aside0.mk (below_step (by repeat with_reducible first | exact HB.out | apply ba | apply bn | apply bd | refine bset ?_ (by assumption)) hb); clear HO154; clear BK161; clear HB; have HO154 := n0_; have BK161 := n1_; have HB := n2_; clear n0_ n1_ n2_; (try clear hb); (try clear hb2); (try clear hk); (try clear hi)) | ((with_reducible refine gate_dst (N := 4) rfl ?_); refine box_event ?hg (N := 4) ?hd (cs := #[.int .i64 0, .int .i64 0, .int .i64 0, .int .i64 0, .int .i64 0]) (t := 43) ?hr ?_; (case hd => rfl); (case hg => rfl); (case hr => first | (go_simp; done) | (go_simp; rfl)); intro gb168 hg w65 hbox hb; have n0_ := Aside0.mk (Kd.R_below (by (with_reducible repeat (first | apply Kd.R_alloc | apply Kd.R_drewN | apply Kd.R_drew)); exact HO154.out) hb); have n1_ := Aside0.mk (blk_below (pk BK161.out) hb); have n2_ := Aside0.mk (below_step (by repeat with_reducible first | exact HB.out | apply ba | apply bn | apply bd | refine bset ?_ (by assumption)) hb); have n3_ := Aside0.mk (hbox); have n4_ := Aside0.mk ((by rw [hg]; exact (below_size (by repeat with_reducible first | exact HB.out | apply ba | apply bn | apply bd | refine bset ?_ (by assumption))) : w.heap.size ≤ gb168)); have n5_ := n4_; have n6_ := Aside0.mk ((by rw [hg]; exact Nat.ne_of_lt (blk_lt (pk BK161.out)) : gb161 ≠ gb168)); have n7_ := Aside0.mk ((by rw [hg]; exact Nat.ne_of_gt (blk_lt (pk BK161.out)) : gb168 ≠ gb161)); clear HO154; clear BK161; clear HB; have HO154 := n0_; have BK161 := n1_; have HB := n2_; have BK168 := n3_; have GW168 := n4_; have GE168 := n5_; have NB161_168 := n6_; have NB168_161 := n7_; clear n0_ n1_ n2_ n3_ n4_ n5_ n6_ n7_; clear hb hbox hg; have hnb66 := NB168_161.out; have hnc66 := NB161_168.out; have hcz67_0 : w65.cell? ⟨gb168, 0, none⟩ = some (.int .i64 0) := (blk_cell BK168.out 0).trans rfl; have hcz67_1 : w65.cell? ⟨gb168, 1, none⟩ = some (.int .i64 0) := (blk_cell BK168.out 1).trans rfl; have hcz67_2 : w65.cell? ⟨gb168, 2, none⟩ = some (.int .i64 0) := (blk_cell BK168.out 2).trans rfl; have hcz67_3 : w65.cell? ⟨gb168, 3, none⟩ = some (.int .i64 0) := (blk_cell BK168.out 3).trans rfl; have hcz67_4 : w65.cell? ⟨gb168, 4, none⟩ = some (.int .i64 0) := (blk_cell BK168.out 4).trans rfl; have hfz67_0 := blk_frozen BK168.out 0; have hfz67_1 := blk_frozen BK168.out 1; have hfz67_2 := blk_frozen BK168.out 2; have hfz67_3 := blk_frozen BK168.out 3; have hfz67_4 := blk_frozen BK168.out 4) | ((with_reducible refine gate_callee (f := 27) rfl ?_); refine goesL_ (some 29) rfl rfl Try.func27 (by kernel_rfl) rfl #[.slice Ao60 y152.length co60, .agg #[.int .i64 0, .int .i64 0], .agg #[.int .i64 0, .int .i64 0, .int .i64 0, .bool false, .int .i64 0]] rfl (by first | rfl | (simp only [List.map_toArray, List.map_cons, List.map_nil] <;> rfl)) ?_; (with_reducible refine (area_Of.calls k _ _ y152 0 0 0 0 0 false 0 t169 t170 t171 t172 t173 t174 _ ?side1 ?side2 A3.out).mono ?_); (case side1 => refine (Kd.R_reads' (e := 9) (base := w.heap.size) (ok := fun k_ => True) (n := y152.length) (c := co60) ?_).2.2; exact (by (with_reducible repeat (first | apply Kd.R_alloc | apply Kd.R_drewN | apply Kd.R_drew)); exact (Kd.R_mono (Kd.R_far (p := ⟨gb168, 4, none⟩) (Kd.R_far (p := ⟨gb168, 3, none⟩) (Kd.R_far (p := ⟨gb168, 2, none⟩) (Kd.R_far (p := ⟨gb168, 1, none⟩) (Kd.R_far (p := ⟨gb168, 0, none⟩) (Kd.R_types HO154.out BK168.out (by decide)) (fun _ hk => hk.2) (.int .i64 t162)) (fun _ hk => hk.2) (.int .i64 t163)) (fun _ hk => hk.2) (.int .i64 t164)) (fun _ hk => hk.2) (.int .i64 t165)) (fun _ hk => hk.2) (.int .i64 t166)) (fun _ h_ => h_.1)))); (case side2 => exact (Kd.R_reads' HO154.out).2.1); rintro e w68 ⟨rfl, hb⟩; refine ⟨_, rfl, ?_⟩; have n0_ := Aside0.mk (Kd.R_below (by (with_reducible repeat (first | apply Kd.R_alloc | apply Kd.R_drewN | apply Kd.R_drew)); exact (Kd.R_mono (Kd.R_far (p := ⟨gb168, 4, none⟩) (Kd.R_far (p := ⟨gb168, 3, none⟩) (Kd.R_far (p := ⟨gb168, 2, none⟩) (Kd.R_far (p := ⟨gb168, 1, none⟩) (Kd.R_far (p := ⟨gb168, 0, none⟩) (Kd.R_types HO154.out BK168.out (by decide)) (fun _ hk => hk.2) (.int .i64 t162)) (fun _ hk => hk.2) (.int .i64 t163)) (fun _ hk => hk.2) (.int .i64 t164)) (fun _ hk => hk.2) (.int .i64 t165)) (fun _ hk => hk.2) (.int .i64 t166)) (fun _ h_ => h_.1))) hb); have n1_ := Aside0.mk (blk_below (g := gb161) (o := .cells #[.int .i64 t155, .int .i64 t156, .int .i64 t157, .int .i64 t158, .int .i64 t159] 43 (0, 0)) (by refine pk ?_; refine blk_far ?_ NB161_168.out _; refine pk ?_; refine blk_far ?_ NB161_168.out _; refine pk ?_; refine blk_far ?_ NB161_168.out _; refine pk ?_; refine blk_far ?_ NB161_168.out _; refine pk ?_; refine blk_far ?_ NB161_168.out _; exact pk BK161.out) hb); have n2_ := Aside0.mk (blk_below (g := gb168) (o := .cells #[.int .i64 t162, .int .i64 t163, .int .i64 t164, .int .i64 t165, .int .i64 t166] 43 (0, 0)) (by refine pk ?_; refine blk_put (cs := #[.int .i64 t162, .int .i64 t163, .int .i64 t164, .int .i64 t165, .int .i64 0]) ?_ 4 _ rfl; refine pk ?_; refine blk_put (cs := #[.int .i64 t162, .int .i64 t163, .int .i64 t164, .int .i64 0, .int .i64 0]) ?_ 3 _ rfl; refine pk ?_; refine blk_put (cs := #[.int .i64 t162, .int .i64 t163, .int .i64 0, .int .i64 0, .int .i64 0]) ?_ 2 _ rfl; refine pk ?_; refine blk_put (cs := #[.int .i64 t162, .int .i64 0, .int .i64 0, .int .i64 0, .int .i64 0]) ?_ 1 _ rfl; refine pk ?_; refine blk_put (cs := #[.int .i64 0, .int .i64 0, .int .i64 0, .int .i64 0, .int .i64 0]) ?_ 0 _ rfl; exact pk BK168.out) hb); have n3_ := Aside0.mk (below_step (by repeat with_reducible first | exact HB.out | apply ba | apply bn | apply bd | refine bset ?_ (by assumption)) hb); clear HO154; clear BK161; clear BK168; clear HB; have HO154 := n0_; have BK161 := n1_; have BK168 := n2_; have HB := n3_; clear n0_ n1_ n2_ n3_; (try clear hb); (try clear hb2); (try clear hk); (try clear hi)) | ((with_reducible refine gate_dst (N := 6) rfl ?_); refine box_event ?hg (N := 6) ?hd (cs := #[.int .i64 0, .int .i64 0, .int .i64 0, .int .i64 0, .int .i64 0]) (t := 43) ?hr ?_; (case hd => rfl); (case hg => rfl); (case hr => first | (go_simp; done) | (go_simp; rfl)); intro gb175 hg w69 hbox hb; have n0_ := Aside0.mk (Kd.R_below (by (with_reducible repeat (first | apply Kd.R_alloc | apply Kd.R_drewN | apply Kd.R_drew)); exact HO154.out) hb); have n1_ := Aside0.mk (blk_below (pk BK161.out) hb); have n2_ := Aside0.mk (blk_below (pk BK168.out) hb); have n3_ := Aside0.mk (below_step (by repeat with_reducible first | exact HB.out | apply ba | apply bn | apply bd | refine bset ?_ (by assumption)) hb); have n4_ := Aside0.mk (hbox); have n5_ := Aside0.mk ((by rw [hg]; exact (below_size (by repeat with_reducible first | exact HB.out | apply ba | apply bn | apply bd | refine bset ?_ (by assumption))) : w.heap.size ≤ gb175)); have n6_ := n5_; have n7_ := Aside0.mk ((by rw [hg]; exact Nat.ne_of_lt (blk_lt (pk BK161.out)) : gb161 ≠ gb175)); have n8_ := Aside0.mk ((by rw [hg]; exact Nat.ne_of_gt (blk_lt (pk BK161.out)) : gb175 ≠ gb161)); have n9_ := Aside0.mk ((by rw [hg]; exact Nat.ne_of_lt (blk_lt (pk BK168.out)) : gb168 ≠ gb175)); have n10_ := Aside0.mk ((by rw [hg]; exact Nat.ne_of_gt (blk_lt (pk BK168.out)) : gb175 ≠ gb168)); clear HO154; clear BK161; clear BK168; clear HB; have HO154 := n0_; have BK161 := n1_; have BK168 := n2_; have HB := n3_; have BK175 := n4_; have GW175 := n5_; have GE175 := n6_; have NB161_175 := n7_; have NB175_161 := n8_; have NB168_175 := n9_; have NB175_168 := n10_; clear n0_ n1_ n2_ n3_ n4_ n5_ n6_ n7_ n8_ n9_ n10_; clear hb hbox hg; have hnb70 := NB175_161.out; have hnc70 := NB161_175.out; have hnb71 := NB175_168.out; have hnc71 := NB168_175.out; have hcz72_0 : w69.cell? ⟨gb175, 0, none⟩ = some (.int .i64 0) := (blk_cell BK175.out 0).trans rfl; have hcz72_1 : w69.cell? ⟨gb175, 1, none⟩ = some (.int .i64 0) := (blk_cell BK175.out 1).trans rfl; have hcz72_2 : w69.cell? ⟨gb175, 2, none⟩ = some (.int .i64 0) := (blk_cell BK175.out 2).trans rfl; have hcz72_3 : w69.cell? ⟨gb175, 3, none⟩ = some (.int .i64 0) := (blk_cell BK175.out 3).trans rfl; have hcz72_4 : w69.cell? ⟨gb175, 4, none⟩ = some (.int .i64 0) := (blk_cell BK175.out 4).trans rfl; have hfz72_0 := blk_frozen BK175.out 0; have hfz72_1 := blk_frozen BK175.out 1; have hfz72_2 := blk_frozen BK175.out 2; have hfz72_3 := blk_frozen BK175.out 3; have hfz72_4 := blk_frozen BK175.out 4; have hcz73_0 : w69.cell? ⟨gb161, 0, none⟩ = some (.int .i64 t155) := (blk_cell BK161.out 0).trans rfl; have hcz73_1 : w69.cell? ⟨gb161, 1, none⟩ = some (.int .i64 t156) := (blk_cell BK161.out 1).trans rfl; have hcz73_2 : w69.cell? ⟨gb161, 2, none⟩ = some (.int .i64 t157) := (blk_cell BK161.out 2).trans rfl; have hcz73_3 : w69.cell? ⟨gb161, 3, none⟩ = some (.int .i64 t158) := (blk_cell BK161.out 3).trans rfl; have hcz73_4 : w69.cell? ⟨gb161, 4, none⟩ = some (.int .i64 t159) := (blk_cell BK161.out 4).trans rfl; have hfz73_0 := blk_frozen BK161.out 0; have hfz73_1 := blk_frozen BK161.out 1; have hfz73_2 := blk_frozen BK161.out 2; have hfz73_3 := blk_frozen BK161.out 3; have hfz73_4 := blk_frozen BK161.out 4))
   go_ret
   exact ⟨by first | rfl | (simp [errW_none, errW_some] <;> rfl) | (simp [*, errW_none, errW_some] <;> rfl), by repeat with_reducible first | exact HB.out | apply ba | apply bn | apply bd | refine bset ?_ (by assumption)⟩
 ·replace c4 := Bool.eq_false_iff.mpr c4
  subst c4
  have H1 : (some false) = some r := by rw [if_neg (show ¬ (false = true) by decide)] at H; exact H
  clear H
  have H := H1
  clear H1
  obtain rfl := Option.some.inj H
  go_enter Try.func25, Try.ntmps25
  go_wp2_with (first | ((with_reducible refine gate_dst (N := 8) rfl ?_); refine Kd.R_lit Kd.string _ 9 ?hg (N := 8) ?hd (xs := ([(⟨#[97, 98]⟩ : ByteArray), (⟨#[99, 100]⟩ : ByteArray)] : List ByteArray)) (inner := [.string (⟨#[97, 98]⟩ : ByteArray), .string (⟨#[99, 100]⟩ : ByteArray)]) (ok := fun _ => True) (okp := fun _ => True) ?hr ?hp (fun _ hk => hk) trivial (Below.refl _ _) (Nat.le_refl _) (by simp) ?_; (case hd => rfl); (case hg => rfl); (case hr => first | (go_simp; done) | (go_simp; rfl)); (case hp => exact (Reps.one (show Kd.M Kd.string _ _ _ (⟨#[97, 98]⟩ : ByteArray) [.string (⟨#[97, 98]⟩ : ByteArray)] from rfl) (Reps.one (show Kd.M Kd.string _ _ _ (⟨#[99, 100]⟩ : ByteArray) [.string (⟨#[99, 100]⟩ : ByteArray)] from rfl) (Reps.none _ _)))); intro v153 w74 ho75 hb hg_ hnew_; clear hg_ hnew_; (first | rw [← Ny152.out] at ho75 | (simp only [Int.reduceToNat] at ho75; rw [← Ny152.out] at ho75)); have n0_ := Aside0.mk (Kd.R_lower ho75 (below_size (by repeat with_reducible first | exact HB.out | apply ba | apply bn | apply bd))); have n1_ := Aside0.mk (below_step (by repeat with_reducible first | exact HB.out | apply ba | apply bn | apply bd) hb); clear HB; have HO154 := n0_; have HB := n1_; clear n0_ n1_; clear hb ho75; obtain ⟨Ao76, co76, eo76⟩ := Kd.R_slice HO154.out; subst eo76) | ((with_reducible refine gate_callee (f := 27) rfl ?_); refine goesL_ (some 14) rfl rfl Try.func27 (by kernel_rfl) rfl #[.slice Ao76 y152.length co76, .agg #[.int .i64 0, .int .i64 1], .agg #[.int .i64 1, .int .i64 0, .int .i64 0, .bool false, .int .i64 0]] rfl (by first | rfl | (simp only [List.map_toArray, List.map_cons, List.map_nil] <;> rfl)) ?_; (with_reducible refine (area_Of.calls k _ _ y152 0 1 1 0 0 false 0 t155 t156 t157 t158 t159 false _ ?side1 ?side2 A1.out).mono ?_); (case side1 => repeat (first | exact (Kd.R_reads' HO154.out).2.2 | (with_reducible refine Kd.C_alloc ?_ _) | (with_reducible refine Kd.C_drewN ?_ _) | (with_reducible refine Kd.C_drew ?_))); (case side2 => exact (Kd.R_reads' HO154.out).2.1); rintro e w77 ⟨rfl, hb⟩; refine ⟨_, rfl, ?_⟩; have n0_ := Aside0.mk (Kd.R_below (by (with_reducible repeat (first | apply Kd.R_alloc | apply Kd.R_drewN | apply Kd.R_drew)); exact HO154.out) hb); have n1_ := Aside0.mk (below_step (by repeat with_reducible first | exact HB.out | apply ba | apply bn | apply bd) hb); clear HO154; clear HB; have HO154 := n0_; have HB := n1_; clear n0_ n1_; (try clear hb); (try clear hb2); (try clear hk); (try clear hi)) | ((with_reducible refine gate_dst (N := 2) rfl ?_); refine box_event ?hg (N := 2) ?hd (cs := #[.int .i64 0, .int .i64 0, .int .i64 0, .int .i64 0, .int .i64 0]) (t := 43) ?hr ?_; (case hd => rfl); (case hg => rfl); (case hr => first | (go_simp; done) | (go_simp; rfl)); intro gb161 hg w78 hbox hb; have n0_ := Aside0.mk (Kd.R_below (by (with_reducible repeat (first | apply Kd.R_alloc | apply Kd.R_drewN | apply Kd.R_drew)); exact HO154.out) hb); have n1_ := Aside0.mk (below_step (by repeat with_reducible first | exact HB.out | apply ba | apply bn | apply bd) hb); have n2_ := Aside0.mk (hbox); have n3_ := Aside0.mk ((by rw [hg]; exact (below_size (by repeat with_reducible first | exact HB.out | apply ba | apply bn | apply bd)) : w.heap.size ≤ gb161)); have n4_ := n3_; clear HO154; clear HB; have HO154 := n0_; have HB := n1_; have BK161 := n2_; have GW161 := n3_; have GE161 := n4_; clear n0_ n1_ n2_ n3_ n4_; clear hb hbox hg; have hcz79_0 : w78.cell? ⟨gb161, 0, none⟩ = some (.int .i64 0) := (blk_cell BK161.out 0).trans rfl; have hcz79_1 : w78.cell? ⟨gb161, 1, none⟩ = some (.int .i64 0) := (blk_cell BK161.out 1).trans rfl; have hcz79_2 : w78.cell? ⟨gb161, 2, none⟩ = some (.int .i64 0) := (blk_cell BK161.out 2).trans rfl; have hcz79_3 : w78.cell? ⟨gb161, 3, none⟩ = some (.int .i64 0) := (blk_cell BK161.out 3).trans rfl; have hcz79_4 : w78.cell? ⟨gb161, 4, none⟩ = some (.int .i64 0) := (blk_cell BK161.out 4).trans rfl; have hfz79_0 := blk_frozen BK161.out 0; have hfz79_1 := blk_frozen BK161.out 1; have hfz79_2 := blk_frozen BK161.out 2; have hfz79_3 := blk_frozen BK161.out 3; have hfz79_4 := blk_frozen BK161.out 4) | ((with_reducible refine gate_callee (f := 27) rfl ?_); refine goesL_ (some 22) rfl rfl Try.func27 (by kernel_rfl) rfl #[.slice Ao76 y152.length co76, .agg #[.int .i64 0, .int .i64 0], .agg #[.int .i64 1, .int .i64 0, .int .i64 0, .bool false, .int .i64 0]] rfl (by first | rfl | (simp only [List.map_toArray, List.map_cons, List.map_nil] <;> rfl)) ?_; (with_reducible refine (area_Of.calls k _ _ y152 0 0 1 0 0 false 0 t162 t163 t164 t165 t166 t167 _ ?side1 ?side2 A2.out).mono ?_); (case side1 => refine (Kd.R_reads' (e := 9) (base := w.heap.size) (ok := fun k_ => True) (n := y152.length) (c := co76) ?_).2.2; exact (by (with_reducible repeat (first | apply Kd.R_alloc | apply Kd.R_drewN | apply Kd.R_drew)); exact (Kd.R_mono (Kd.R_far (p := ⟨gb161, 4, none⟩) (Kd.R_far (p := ⟨gb161, 3, none⟩) (Kd.R_far (p := ⟨gb161, 2, none⟩) (Kd.R_far (p := ⟨gb161, 1, none⟩) (Kd.R_far (p := ⟨gb161, 0, none⟩) (Kd.R_types HO154.out BK161.out (by decide)) (fun _ hk => hk.2) (.int .i64 t155)) (fun _ hk => hk.2) (.int .i64 t156)) (fun _ hk => hk.2) (.int .i64 t157)) (fun _ hk => hk.2) (.int .i64 t158)) (fun _ hk => hk.2) (.int .i64 t159)) (fun _ h_ => h_.1)))); (case side2 => exact (Kd.R_reads' HO154.out).2.1); rintro e w80 ⟨rfl, hb⟩; refine ⟨_, rfl, ?_⟩; have n0_ := Aside0.mk (Kd.R_below (by (with_reducible repeat (first | apply Kd.R_alloc | apply Kd.R_drewN | apply Kd.R_drew)); exact (Kd.R_mono (Kd.R_far (p := ⟨gb161, 4, none⟩) (Kd.R_far (p := ⟨gb161, 3, none⟩) (Kd.R_far (p := ⟨gb161, 2, none⟩) (Kd.R_far (p := ⟨gb161, 1, none⟩) (Kd.R_far (p := ⟨gb161, 0, none⟩) (Kd.R_types HO154.out BK161.out (by decide)) (fun _ hk => hk.2) (.int .i64 t155)) (fun _ hk => hk.2) (.int .i64 t156)) (fun _ hk => hk.2) (.int .i64 t157)) (fun _ hk => hk.2) (.int .i64 t158)) (fun _ hk => hk.2) (.int .i64 t159)) (fun _ h_ => h_.1))) hb); have n1_ := Aside0.mk (blk_below (g := gb161) (o := .cells #[.int .i64 t155, .int .i64 t156, .int .i64 t157, .int .i64 t158, .int .i64 t159] 43 (0, 0)) (by refine pk ?_; refine blk_put (cs := #[.int .i64 t155, .int .i64 t156, .int .i64 t157, .int .i64 t158, .int .i64 0]) ?_ 4 _ rfl; refine pk ?_; refine blk_put (cs := #[.int .i64 t155, .int .i64 t156, .int .i64 t157, .int .i64 0, .int .i64 0]) ?_ 3 _ rfl; refine pk ?_; refine blk_put (cs := #[.int .i64 t155, .int .i64 t156, .int .i64 0, .int .i64 0, .int .i64 0]) ?_ 2 _ rfl; refine pk ?_; refine blk_put (cs := #[.int .i64 t155, .int .i64 0, .int .i64 0, .int .i64 0, .int .i64 0]) ?_ 1 _ rfl; refine pk ?_; refine blk_put (cs := #[.int .i64 0, .int .i64 0, .int .i64 0, .int .i64 0, .int .i64 0]) ?_ 0 _ rfl; exact pk BK161.out) hb); have n2_ := Aside0.mk (below_step (by repeat with_reducible first | exact HB.out | apply ba | apply bn | apply bd | refine bset ?_ (by assumption)) hb); clear HO154; clear BK161; clear HB; have HO154 := n0_; have BK161 := n1_; have HB := n2_; clear n0_ n1_ n2_; (try clear hb); (try clear hb2); (try clear hk); (try clear hi)) | ((with_reducible refine gate_dst (N := 4) rfl ?_); refine box_event ?hg (N := 4) ?hd (cs := #[.int .i64 0, .int .i64 0, .int .i64 0, .int .i64 0, .int .i64 0]) (t := 43) ?hr ?_; (case hd => rfl); (case hg => rfl); (case hr => first | (go_simp; done) | (go_simp; rfl)); intro gb168 hg w81 hbox hb; have n0_ := Aside0.mk (Kd.R_below (by (with_reducible repeat (first | apply Kd.R_alloc | apply Kd.R_drewN | apply Kd.R_drew)); exact HO154.out) hb); have n1_ := Aside0.mk (blk_below (pk BK161.out) hb); have n2_ := Aside0.mk (below_step (by repeat with_reducible first | exact HB.out | apply ba | apply bn | apply bd | refine bset ?_ (by assumption)) hb); have n3_ := Aside0.mk (hbox); have n4_ := Aside0.mk ((by rw [hg]; exact (below_size (by repeat with_reducible first | exact HB.out | apply ba | apply bn | apply bd | refine bset ?_ (by assumption))) : w.heap.size ≤ gb168)); have n5_ := n4_; have n6_ := Aside0.mk ((by rw [hg]; exact Nat.ne_of_lt (blk_lt (pk BK161.out)) : gb161 ≠ gb168)); have n7_ := Aside0.mk ((by rw [hg]; exact Nat.ne_of_gt (blk_lt (pk BK161.out)) : gb168 ≠ gb161)); clear HO154; clear BK161; clear HB; have HO154 := n0_; have BK161 := n1_; have HB := n2_; have BK168 := n3_; have GW168 := n4_; have GE168 := n5_; have NB161_168 := n6_; have NB168_161 := n7_; clear n0_ n1_ n2_ n3_ n4_ n5_ n6_ n7_; clear hb hbox hg; have hnb82 := NB168_161.out; have hnc82 := NB161_168.out; have hcz83_0 : w81.cell? ⟨gb168, 0, none⟩ = some (.int .i64 0) := (blk_cell BK168.out 0).trans rfl; have hcz83_1 : w81.cell? ⟨gb168, 1, none⟩ = some (.int .i64 0) := (blk_cell BK168.out 1).trans rfl; have hcz83_2 : w81.cell? ⟨gb168, 2, none⟩ = some (.int .i64 0) := (blk_cell BK168.out 2).trans rfl; have hcz83_3 : w81.cell? ⟨gb168, 3, none⟩ = some (.int .i64 0) := (blk_cell BK168.out 3).trans rfl; have hcz83_4 : w81.cell? ⟨gb168, 4, none⟩ = some (.int .i64 0) := (blk_cell BK168.out 4).trans rfl; have hfz83_0 := blk_frozen BK168.out 0; have hfz83_1 := blk_frozen BK168.out 1; have hfz83_2 := blk_frozen BK168.out 2; have hfz83_3 := blk_frozen BK168.out 3; have hfz83_4 := blk_frozen BK168.out 4) | ((with_reducible refine gate_callee (f := 27) rfl ?_); refine goesL_ (some 29) rfl rfl Try.func27 (by kernel_rfl) rfl #[.slice Ao76 y152.length co76, .agg #[.int .i64 0, .int .i64 0], .agg #[.int .i64 0, .int .i64 0, .int .i64 0, .bool false, .int .i64 0]] rfl (by first | rfl | (simp only [List.map_toArray, List.map_cons, List.map_nil] <;> rfl)) ?_; (with_reducible refine (area_Of.calls k _ _ y152 0 0 0 0 0 false 0 t169 t170 t171 t172 t173 t174 _ ?side1 ?side2 A3.out).mono ?_); (case side1 => refine (Kd.R_reads' (e := 9) (base := w.heap.size) (ok := fun k_ => True) (n := y152.length) (c := co76) ?_).2.2; exact (by (with_reducible repeat (first | apply Kd.R_alloc | apply Kd.R_drewN | apply Kd.R_drew)); exact (Kd.R_mono (Kd.R_far (p := ⟨gb168, 4, none⟩) (Kd.R_far (p := ⟨gb168, 3, none⟩) (Kd.R_far (p := ⟨gb168, 2, none⟩) (Kd.R_far (p := ⟨gb168, 1, none⟩) (Kd.R_far (p := ⟨gb168, 0, none⟩) (Kd.R_types HO154.out BK168.out (by decide)) (fun _ hk => hk.2) (.int .i64 t162)) (fun _ hk => hk.2) (.int .i64 t163)) (fun _ hk => hk.2) (.int .i64 t164)) (fun _ hk => hk.2) (.int .i64 t165)) (fun _ hk => hk.2) (.int .i64 t166)) (fun _ h_ => h_.1)))); (case side2 => exact (Kd.R_reads' HO154.out).2.1); rintro e w84 ⟨rfl, hb⟩; refine ⟨_, rfl, ?_⟩; have n0_ := Aside0.mk (Kd.R_below (by (with_reducible repeat (first | apply Kd.R_alloc | apply Kd.R_drewN | apply Kd.R_drew)); exact (Kd.R_mono (Kd.R_far (p := ⟨gb168, 4, none⟩) (Kd.R_far (p := ⟨gb168, 3, none⟩) (Kd.R_far (p := ⟨gb168, 2, none⟩) (Kd.R_far (p := ⟨gb168, 1, none⟩) (Kd.R_far (p := ⟨gb168, 0, none⟩) (Kd.R_types HO154.out BK168.out (by decide)) (fun _ hk => hk.2) (.int .i64 t162)) (fun _ hk => hk.2) (.int .i64 t163)) (fun _ hk => hk.2) (.int .i64 t164)) (fun _ hk => hk.2) (.int .i64 t165)) (fun _ hk => hk.2) (.int .i64 t166)) (fun _ h_ => h_.1))) hb); have n1_ := Aside0.mk (blk_below (g := gb161) (o := .cells #[.int .i64 t155, .int .i64 t156, .int .i64 t157, .int .i64 t158, .int .i64 t159] 43 (0, 0)) (by refine pk ?_; refine blk_far ?_ NB161_168.out _; refine pk ?_; refine blk_far ?_ NB161_168.out _; refine pk ?_; refine blk_far ?_ NB161_168.out _; refine pk ?_; refine blk_far ?_ NB161_168.out _; refine pk ?_; refine blk_far ?_ NB161_168.out _; exact pk BK161.out) hb); have n2_ := Aside0.mk (blk_below (g := gb168) (o := .cells #[.int .i64 t162, .int .i64 t163, .int .i64 t164, .int .i64 t165, .int .i64 t166] 43 (0, 0)) (by refine pk ?_; refine blk_put (cs := #[.int .i64 t162, .int .i64 t163, .int .i64 t164, .int .i64 t165, .int .i64 0]) ?_ 4 _ rfl; refine pk ?_; refine blk_put (cs := #[.int .i64 t162, .int .i64 t163, .int .i64 t164, .int .i64 0, .int .i64 0]) ?_ 3 _ rfl; refine pk ?_; refine blk_put (cs := #[.int .i64 t162, .int .i64 t163, .int .i64 0, .int .i64 0, .int .i64 0]) ?_ 2 _ rfl; refine pk ?_; refine blk_put (cs := #[.int .i64 t162, .int .i64 0, .int .i64 0, .int .i64 0, .int .i64 0]) ?_ 1 _ rfl; refine pk ?_; refine blk_put (cs := #[.int .i64 0, .int .i64 0, .int .i64 0, .int .i64 0, .int .i64 0]) ?_ 0 _ rfl; exact pk BK168.out) hb); have n3_ := Aside0.mk (below_step (by repeat with_reducible first | exact HB.out | apply ba | apply bn | apply bd | refine bset ?_ (by assumption)) hb); clear HO154; clear BK161; clear BK168; clear HB; have HO154 := n0_; have BK161 := n1_; have BK168 := n2_; have HB := n3_; clear n0_ n1_ n2_ n3_; (try clear hb); (try clear hb2); (try clear hk); (try clear hi)) | ((with_reducible refine gate_dst (N := 6) rfl ?_); refine box_event ?hg (N := 6) ?hd (cs := #[.int .i64 0, .int .i64 0, .int .i64 0, .int .i64 0, .int .i64 0]) (t := 43) ?hr ?_; (case hd => rfl); (case hg => rfl); (case hr => first | (go_simp; done) | (go_simp; rfl)); intro gb175 hg w85 hbox hb; have n0_ := Aside0.mk (Kd.R_below (by (with_reducible repeat (first | apply Kd.R_alloc | apply Kd.R_drewN | apply Kd.R_drew)); exact HO154.out) hb); have n1_ := Aside0.mk (blk_below (pk BK161.out) hb); have n2_ := Aside0.mk (blk_below (pk BK168.out) hb); have n3_ := Aside0.mk (below_step (by repeat with_reducible first | exact HB.out | apply ba | apply bn | apply bd | refine bset ?_ (by assumption)) hb); have n4_ := Aside0.mk (hbox); have n5_ := Aside0.mk ((by rw [hg]; exact (below_size (by repeat with_reducible first | exact HB.out | apply ba | apply bn | apply bd | refine bset ?_ (by assumption))) : w.heap.size ≤ gb175)); have n6_ := n5_; have n7_ := Aside0.mk ((by rw [hg]; exact Nat.ne_of_lt (blk_lt (pk BK161.out)) : gb161 ≠ gb175)); have n8_ := Aside0.mk ((by rw [hg]; exact Nat.ne_of_gt (blk_lt (pk BK161.out)) : gb175 ≠ gb161)); have n9_ := Aside0.mk ((by rw [hg]; exact Nat.ne_of_lt (blk_lt (pk BK168.out)) : gb168 ≠ gb175)); have n10_ := Aside0.mk ((by rw [hg]; exact Nat.ne_of_gt (blk_lt (pk BK168.out)) : gb175 ≠ gb168)); clear HO154; clear BK161; clear BK168; clear HB; have HO154 := n0_; have BK161 := n1_; have BK168 := n2_; have HB := n3_; have BK175 := n4_; have GW175 := n5_; have GE175 := n6_; have NB161_175 := n7_; have NB175_161 := n8_; have NB168_175 := n9_; have NB175_168 := n10_; clear n0_ n1_ n2_ n3_ n4_ n5_ n6_ n7_ n8_ n9_ n10_; clear hb hbox hg; have hnb86 := NB175_161.out; have hnc86 := NB161_175.out; have hnb87 := NB175_168.out; have hnc87 := NB168_175.out; have hcz88_0 : w85.cell? ⟨gb175, 0, none⟩ = some (.int .i64 0) := (blk_cell BK175.out 0).trans rfl; have hcz88_1 : w85.cell? ⟨gb175, 1, none⟩ = some (.int .i64 0) := (blk_cell BK175.out 1).trans rfl; have hcz88_2 : w85.cell? ⟨gb175, 2, none⟩ = some (.int .i64 0) := (blk_cell BK175.out 2).trans rfl; have hcz88_3 : w85.cell? ⟨gb175, 3, none⟩ = some (.int .i64 0) := (blk_cell BK175.out 3).trans rfl; have hcz88_4 : w85.cell? ⟨gb175, 4, none⟩ = some (.int .i64 0) := (blk_cell BK175.out 4).trans rfl; have hfz88_0 := blk_frozen BK175.out 0; have hfz88_1 := blk_frozen BK175.out 1; have hfz88_2 := blk_frozen BK175.out 2; have hfz88_3 := blk_frozen BK175.out 3; have hfz88_4 := blk_frozen BK175.out 4))
  go_ret
  exact ⟨by first | rfl | (simp [errW_none, errW_some] <;> rfl) | (simp [*, errW_none, errW_some] <;> rfl), by repeat with_reducible first | exact HB.out | apply ba | apply bn | apply bd | refine bset ?_ (by assumption)⟩

/-! ### foolscapseat_Place: function 26 -/
def foolscapseat_Place.f (l0 : List ByteArray) (a1 : Int) (a2 : Int) : Option (Int × Int) := if (l0.length : Int) = 0 then (none) else (if 0 ≤ (Int.tmod (wrap64 (a1)) (l0.length : Int)) then (if (Int.tmod (wrap64 (a1)) (l0.length : Int)) < (l0.length : Int) then (if (wrap64 (((rdOf ByteArray.empty l0 (Int.tmod (wrap64 (a1)) (l0.length : Int))).size : Int) + 1)) = 0 then (none) else (some (Int.tmod (wrap64 (a1)) (l0.length : Int), Int.tmod (wrap64 (a2)) (wrap64 (((rdOf ByteArray.empty l0 (Int.tmod (wrap64 (a1)) (l0.length : Int))).size : Int) + 1))))) else (none)) else (none))
set_option maxHeartbeats 8000000 in
set_option maxRecDepth 100000 in
theorem foolscapseat_Place.calls (A0 : Option Addr) (c0 : Nat) (l0 : List ByteArray) (a1 : Int) (a2 : Int) (r1 : Int) (r2 : Int) (w : World) (hr0 : Kd.C Kd.string w A0 l0.length l0) (hc0 : l0.length ≤ c0) (h : foolscapseat_Place.f l0 a1 a2 = some (r1, r2)) :
  Calls Try.prog 26 #[.slice A0 l0.length c0, .int .u16 a1, .int .u16 a2] w fun e w' => e = .returned (.agg #[.int .i64 r1, .int .i64 r2]) ∧ Below w.heap.size w w' := by
 have hu28 := Try.underlying28
 have HR0 := Aside0.mk hr0
 have HC0 := Aside0.mk hc0
 clear hr0 hc0
 have HB := Aside0.mk (Below.refl w.heap.size w)
 have H : (if (l0.length : Int) = 0 then (none) else (if 0 ≤ (Int.tmod (wrap64 (a1)) (l0.length : Int)) then (if (Int.tmod (wrap64 (a1)) (l0.length : Int)) < (l0.length : Int) then (if (wrap64 (((rdOf ByteArray.empty l0 (Int.tmod (wrap64 (a1)) (l0.length : Int))).size : Int) + 1)) = 0 then (none) else (some (Int.tmod (wrap64 (a1)) (l0.length : Int), Int.tmod (wrap64 (a2)) (wrap64 (((rdOf ByteArray.empty l0 (Int.tmod (wrap64 (a1)) (l0.length : Int))).size : Int) + 1))))) else (none)) else (none))) = some (r1, r2) := h
 clear h
 by_cases c4 : (l0.length : Int) = 0
 ·rw [if_pos c4] at H
  exact absurd H (by simp)
 ·rw [if_neg c4] at H
  have c4b0 : ((l0.length : Int) == 0) = false := beq_eq_false_iff_ne.mpr c4
  have c4b1 : ((l0.length : Int) != 0) = true := bne_iff_ne.mpr c4
  have c4b2 : ¬ (l0 = []) := fun h_ => c4 (by rw [h_]; rfl)
  obtain ⟨ji5, hji5⟩ : ∃ j_ : Int, (Int.tmod (wrap64 (a1)) (l0.length : Int)) = j_ := ⟨_, rfl⟩
  replace H : (if 0 ≤ (ji5) then (if (ji5) < (l0.length : Int) then (if (wrap64 (((rdOf ByteArray.empty l0 (ji5)).size : Int) + 1)) = 0 then (none) else (some (ji5, Int.tmod (wrap64 (a2)) (wrap64 (((rdOf ByteArray.empty l0 (ji5)).size : Int) + 1))))) else (none)) else (none)) = some (r1, r2) := by first | (rw [hji5] at H; exact H) | (simp only [hji5] at H ⊢; exact H)
  by_cases c6 : 0 ≤ (ji5)
  ·rw [if_pos c6] at H
   have c6b0 : decide (0 ≤ (ji5)) = true := decide_eq_true c6
   clear c6
   by_cases c7 : (ji5) < (l0.length : Int)
   ·rw [if_pos c7] at H
    have c7b0 : decide ((ji5) < (l0.length : Int)) = true := decide_eq_true c7
    clear c7
    by_cases c8 : (wrap64 (((rdOf ByteArray.empty l0 (ji5)).size : Int) + 1)) = 0
    ·rw [if_pos c8] at H
     exact absurd H (by simp)
    ·rw [if_neg c8] at H
     have c8b0 : ((wrap64 (((rdOf ByteArray.empty l0 (ji5)).size : Int) + 1)) == 0) = false := beq_eq_false_iff_ne.mpr c8
     have c8b1 : ((wrap64 (((rdOf ByteArray.empty l0 (ji5)).size : Int) + 1)) != 0) = true := bne_iff_ne.mpr c8
     simp only [Option.some.injEq, Prod.mk.injEq] at H
     obtain ⟨rfl, rfl⟩ := H
     go_enter Try.func26, Try.ntmps26
     go_wp2_with (first | ((with_reducible refine gate_dst (N := 6) rfl ?_); refine box_event ?hg (N := 6) ?hd (cs := #[.int .i64 0, .int .i64 0]) (t := 28) ?hr ?_; (case hd => rfl); (case hg => rfl); (case hr => first | (go_simp; done) | (go_simp; rfl)); intro gb176 hg w9 hbox hb; have n0_ := Aside0.mk (below_step (by repeat with_reducible first | exact HB.out | apply ba | apply bn | apply bd) hb); have n1_ := Aside0.mk (hbox); have n2_ := Aside0.mk ((by rw [hg]; exact (below_size (by repeat with_reducible first | exact HB.out | apply ba | apply bn | apply bd)) : w.heap.size ≤ gb176)); have n3_ := n2_; clear HB; have HB := n0_; have BK176 := n1_; have GW176 := n2_; have GE176 := n3_; clear n0_ n1_ n2_ n3_; clear hb hbox hg; have p177 : 0 ≤ ((ji5) : Int) := of_decide_eq_true (by first | (with_reducible assumption) | assumption); have q177 : (ji5) < (l0.length : Int) := of_decide_eq_true (by first | (with_reducible assumption) | assumption); obtain ⟨ad177, e177, hx177_0⟩ := Kd.at_string HR0.out (ji5) p177 q177; cases e177; replace hx177_0 := (HB.out.cell (World.block_lt_of_cell? w _ hx177_0)).trans hx177_0; replace p177 := eq_true p177; replace q177 := eq_true q177; have hcz10_0 : w9.cell? ⟨gb176, 0, none⟩ = some (.int .i64 0) := (blk_cell BK176.out 0).trans rfl; have hcz10_1 : w9.cell? ⟨gb176, 1, none⟩ = some (.int .i64 0) := (blk_cell BK176.out 1).trans rfl; have hfz10_0 := blk_frozen BK176.out 0; have hfz10_1 := blk_frozen BK176.out 1))
     refine bodyPost_ret (results_cell_row rfl _ _ gb176 28 #[.int .i64 ji5, .int .i64 (Int.tmod (wrap64 (a2)) (wrap64 (((rdOf ByteArray.empty l0 (ji5)).size : Int) + 1)))] (0, 0) _ rfl (by refine pk ?_; refine blk_put (cs := #[.int .i64 ji5, .int .i64 0]) ?_ 1 _ rfl; refine pk ?_; refine blk_put (cs := #[.int .i64 0, .int .i64 0]) ?_ 0 _ rfl; exact pk BK176.out) Try.underlying28 rfl (by kernel_rfl)) rfl ?_
     exact ⟨by first | rfl | (simp [errW_none, errW_some] <;> rfl) | (simp only [← hji5]; first | rfl | (simp [errW_none, errW_some] <;> rfl)) | (simp [*, errW_none, errW_some] <;> rfl), by repeat with_reducible first | exact HB.out | apply ba | apply bn | apply bd | refine bset ?_ (by assumption)⟩
   ·rw [if_neg c7] at H
    exact absurd H (by simp)
  ·rw [if_neg c6] at H
   exact absurd H (by simp)

/-! ### foolscapref5_Of: function 14 -/
def foolscapref5_Of.j0 : Nat → Int → Bool → Bool → Option (Int)
 | 0, _, _, _ => none
 | k + 1, x0, x1, x5 => if x5 = true then (some 0) else (if x1 = true then (some 1) else (if x0 ≥ 97 then (if x0 ≤ 122 then (some 1) else (if x0 ≥ 65 then (if x0 ≤ 90 then (some 1) else (if x0 ≥ 48 then (if x0 ≤ 57 then (some 1) else (if x0 = 95 then (some 1) else (if x0 ≥ 128 then (some 1) else (some 2)))) else (if x0 = 95 then (some 1) else (if x0 ≥ 128 then (some 1) else (some 2))))) else (if x0 ≥ 48 then (if x0 ≤ 57 then (some 1) else (if x0 = 95 then (some 1) else (if x0 ≥ 128 then (some 1) else (some 2)))) else (if x0 = 95 then (some 1) else (if x0 ≥ 128 then (some 1) else (some 2)))))) else (if x0 ≥ 65 then (if x0 ≤ 90 then (some 1) else (if x0 ≥ 48 then (if x0 ≤ 57 then (some 1) else (if x0 = 95 then (some 1) else (if x0 ≥ 128 then (some 1) else (some 2)))) else (if x0 = 95 then (some 1) else (if x0 ≥ 128 then (some 1) else (some 2))))) else (if x0 ≥ 48 then (if x0 ≤ 57 then (some 1) else (if x0 = 95 then (some 1) else (if x0 ≥ 128 then (some 1) else (some 2)))) else (if x0 = 95 then (some 1) else (if x0 ≥ 128 then (some 1) else (some 2)))))))
def foolscapref5_Of.f (k : Nat) (a0 : Int) (a1 : Bool) : Option (Int) := if a0 = 32 then (foolscapref5_Of.j0 k a0 a1 true) else (foolscapref5_Of.j0 k a0 a1 (a0 == 9))
theorem foolscapref5_Of.mono_l : ∀ k, (∀ y0 y1 y2, LeO (foolscapref5_Of.j0 k y0 y1 y2) (foolscapref5_Of.j0 (k + 1) y0 y1 y2))
 | 0 => fun _ _ _ r h => by simp [foolscapref5_Of.j0] at h
 | k + 1 => by
  have ih0 := foolscapref5_Of.mono_l k
  ·intro y0 y1 y2
   unfold foolscapref5_Of.j0
   repeat' first
   | (with_reducible exact ih0 _ _ _)
   | (with_reducible exact LeO.refl _)
   | (with_reducible exact LeO.none _)
   | (with_reducible refine LeO.ite ?_ ?_)
   | (with_reducible refine LeO.bind ?_ (fun _ => ?_))
   | exact ih0 _ _ _
   | exact LeO.none _
   | refine LeO.ite ?_ ?_
   | refine LeO.bind ?_ (fun _ => ?_)
theorem foolscapref5_Of.mono : ∀ a0 a1 k, LeO (foolscapref5_Of.f k a0 a1) (foolscapref5_Of.f (k + 1) a0 a1) := by
 intro a0 a1 k
 have ih0 := foolscapref5_Of.mono_l k
 unfold foolscapref5_Of.f
 repeat' first
   | (with_reducible exact ih0 _ _ _)
   | (with_reducible exact LeO.refl _)
   | (with_reducible exact LeO.none _)
   | (with_reducible refine LeO.ite ?_ ?_)
   | (with_reducible refine LeO.bind ?_ (fun _ => ?_))
   | exact ih0 _ _ _
   | exact LeO.none _
   | refine LeO.ite ?_ ?_
   | refine LeO.bind ?_ (fun _ => ?_)
set_option maxHeartbeats 8000000 in
set_option maxRecDepth 100000 in
theorem foolscapref5_Of.calls (k : Nat) (a0 : Int) (a1 : Bool) (r : Int) (w : World) (h : foolscapref5_Of.f k a0 a1 = some r) :
  Calls Try.prog 14 #[.int .u8 a0, .bool a1] w fun e w' => e = .returned (.int .i64 r) ∧ Drawn0 w w' := by
 have H : (if a0 = 32 then (foolscapref5_Of.j0 k a0 a1 true) else (foolscapref5_Of.j0 k a0 a1 (a0 == 9))) = some r := h
 clear h
 have HC3 := Aside0.mk H
 clear H
 go_enter Try.func14, Try.ntmps14
 go_upto_region 1 with (fail)
 go_cut [5] (fun v5 wc => ∃ (kq : Nat) (x5_2 : Bool), v5 = .bool x5_2 ∧ Aside0 (foolscapref5_Of.j0 kq a0 a1 x5_2 = some r) ∧ Aside0 (kq ≤ k) ∧ Drawn0 w wc)
 case first =>
  have H := HC3.out
  clear HC3
  by_cases c4 : a0 = 32
  ·rw [if_pos c4] at H
   have c4b0 : (a0 == 32) = true := beq_iff_eq.mpr c4
   have c4b1 : (a0 != 32) = false := bne_eq_false_iff_eq.mpr c4
   clear c4
   (first | rw [c4b0] | (simp only [i64_w, i32_w]; rw [c4b0]) | skip)
   have H' := Aside0.mk H
   clear H
   go_wp2
   go_meet
   case rel => exact ⟨_, (true), (by first | rfl | (simp; done) | (simp [*]; done)), H', ⟨by first | omega | exact Nat.le_refl _⟩, by repeat (first | exact Drawn0.refl _ | apply Drawn0.step)⟩
  ·rw [if_neg c4] at H
   have c4b0 : (a0 == 32) = false := beq_eq_false_iff_ne.mpr c4
   have c4b1 : (a0 != 32) = true := bne_iff_ne.mpr c4
   (first | rw [c4b0] | (simp only [i64_w, i32_w]; rw [c4b0]) | skip)
   have H' := Aside0.mk H
   clear H
   go_wp2
   go_meet
   case rel => exact ⟨_, ((a0 == 9)), (by first | rfl | (simp; done) | (simp [*]; done)), H', ⟨by first | omega | exact Nat.le_refl _⟩, by repeat (first | exact Drawn0.refl _ | apply Drawn0.step)⟩
 case rest =>
  clear HC3
  try clear c1
  try clear p2
  try clear c4
  try clear c4b0
  try clear c4b1
  obtain ⟨kq, x5_2, rfl, HA, HJ2, ⟨mc2, rfl⟩⟩ := hcut
  cases kq with
  | zero => exact absurd HA.out (by simp [foolscapref5_Of.j0])
  | succ kj2 =>
   have H := HA.out
   clear HA
   simp only [foolscapref5_Of.j0] at H
   by_cases c5 : x5_2 = true
   ·subst c5
    have H1 : (some 0) = some r := by rw [if_pos rfl] at H; exact H
    clear H
    have H := H1
    clear H1
    obtain rfl := Option.some.inj H
    go_wp2
    go_ret
    exact ⟨by first | rfl | (simp; done) | (simp [*]; done), by repeat (first | exact Drawn0.refl _ | apply Drawn0.step)⟩
   ·replace c5 := Bool.eq_false_iff.mpr c5
    subst c5
    have H1 : (if a1 = true then (some 1) else (if a0 ≥ 97 then (if a0 ≤ 122 then (some 1) else (if a0 ≥ 65 then (if a0 ≤ 90 then (some 1) else (if a0 ≥ 48 then (if a0 ≤ 57 then (some 1) else (if a0 = 95 then (some 1) else (if a0 ≥ 128 then (some 1) else (some 2)))) else (if a0 = 95 then (some 1) else (if a0 ≥ 128 then (some 1) else (some 2))))) else (if a0 ≥ 48 then (if a0 ≤ 57 then (some 1) else (if a0 = 95 then (some 1) else (if a0 ≥ 128 then (some 1) else (some 2)))) else (if a0 = 95 then (some 1) else (if a0 ≥ 128 then (some 1) else (some 2)))))) else (if a0 ≥ 65 then (if a0 ≤ 90 then (some 1) else (if a0 ≥ 48 then (if a0 ≤ 57 then (some 1) else (if a0 = 95 then (some 1) else (if a0 ≥ 128 then (some 1) else (some 2)))) else (if a0 = 95 then (some 1) else (if a0 ≥ 128 then (some 1) else (some 2))))) else (if a0 ≥ 48 then (if a0 ≤ 57 then (some 1) else (if a0 = 95 then (some 1) else (if a0 ≥ 128 then (some 1) else (some 2)))) else (if a0 = 95 then (some 1) else (if a0 ≥ 128 then (some 1) else (some 2))))))) = some r := by rw [if_neg (show ¬ (false = true) by decide)] at H; exact H
    clear H
    have H := H1
    clear H1
    by_cases c6 : a1 = true
    ·subst c6
     have H1 : (some 1) = some r := by rw [if_pos rfl] at H; exact H
     clear H
     have H := H1
     clear H1
     obtain rfl := Option.some.inj H
     go_wp2
     go_ret
     exact ⟨by first | rfl | (simp; done) | (simp [*]; done), by repeat (first | exact Drawn0.refl _ | apply Drawn0.step)⟩
    ·replace c6 := Bool.eq_false_iff.mpr c6
     subst c6
     have H1 : (if a0 ≥ 97 then (if a0 ≤ 122 then (some 1) else (if a0 ≥ 65 then (if a0 ≤ 90 then (some 1) else (if a0 ≥ 48 then (if a0 ≤ 57 then (some 1) else (if a0 = 95 then (some 1) else (if a0 ≥ 128 then (some 1) else (some 2)))) else (if a0 = 95 then (some 1) else (if a0 ≥ 128 then (some 1) else (some 2))))) else (if a0 ≥ 48 then (if a0 ≤ 57 then (some 1) else (if a0 = 95 then (some 1) else (if a0 ≥ 128 then (some 1) else (some 2)))) else (if a0 = 95 then (some 1) else (if a0 ≥ 128 then (some 1) else (some 2)))))) else (if a0 ≥ 65 then (if a0 ≤ 90 then (some 1) else (if a0 ≥ 48 then (if a0 ≤ 57 then (some 1) else (if a0 = 95 then (some 1) else (if a0 ≥ 128 then (some 1) else (some 2)))) else (if a0 = 95 then (some 1) else (if a0 ≥ 128 then (some 1) else (some 2))))) else (if a0 ≥ 48 then (if a0 ≤ 57 then (some 1) else (if a0 = 95 then (some 1) else (if a0 ≥ 128 then (some 1) else (some 2)))) else (if a0 = 95 then (some 1) else (if a0 ≥ 128 then (some 1) else (some 2)))))) = some r := by rw [if_neg (show ¬ (false = true) by decide)] at H; exact H
     clear H
     have H := H1
     clear H1
     by_cases c7 : a0 ≥ 97
     ·rw [if_pos c7] at H
      have c7b0 : decide (97 ≤ a0) = true := decide_eq_true c7
      clear c7
      by_cases c8 : a0 ≤ 122
      ·rw [if_pos c8] at H
       have c8b0 : decide (a0 ≤ 122) = true := decide_eq_true c8
       clear c8
       obtain rfl := Option.some.inj H
       go_wp2
       go_ret
       exact ⟨by first | rfl | (simp; done) | (simp [*]; done), by repeat (first | exact Drawn0.refl _ | apply Drawn0.step)⟩
      ·rw [if_neg c8] at H
       have c8b0 : decide (a0 ≤ 122) = false := decide_eq_false c8
       clear c8
       by_cases c9 : a0 ≥ 65
       ·rw [if_pos c9] at H
        have c9b0 : decide (65 ≤ a0) = true := decide_eq_true c9
        clear c9
        by_cases c10 : a0 ≤ 90
        ·rw [if_pos c10] at H
         have c10b0 : decide (a0 ≤ 90) = true := decide_eq_true c10
         clear c10
         obtain rfl := Option.some.inj H
         go_wp2
         go_ret
         exact ⟨by first | rfl | (simp; done) | (simp [*]; done), by repeat (first | exact Drawn0.refl _ | apply Drawn0.step)⟩
        ·rw [if_neg c10] at H
         have c10b0 : decide (a0 ≤ 90) = false := decide_eq_false c10
         clear c10
         by_cases c11 : a0 ≥ 48
         ·rw [if_pos c11] at H
          have c11b0 : decide (48 ≤ a0) = true := decide_eq_true c11
          clear c11
          by_cases c12 : a0 ≤ 57
          ·rw [if_pos c12] at H
           have c12b0 : decide (a0 ≤ 57) = true := decide_eq_true c12
           clear c12
           obtain rfl := Option.some.inj H
           go_wp2
           go_ret
           exact ⟨by first | rfl | (simp; done) | (simp [*]; done), by repeat (first | exact Drawn0.refl _ | apply Drawn0.step)⟩
          ·rw [if_neg c12] at H
           have c12b0 : decide (a0 ≤ 57) = false := decide_eq_false c12
           clear c12
           by_cases c13 : a0 = 95
           ·rw [if_pos c13] at H
            have c13b0 : (a0 == 95) = true := beq_iff_eq.mpr c13
            have c13b1 : (a0 != 95) = false := bne_eq_false_iff_eq.mpr c13
            clear c13
            obtain rfl := Option.some.inj H
            go_wp2
            go_ret
            exact ⟨by first | rfl | (simp; done) | (simp [*]; done), by repeat (first | exact Drawn0.refl _ | apply Drawn0.step)⟩
           ·rw [if_neg c13] at H
            have c13b0 : (a0 == 95) = false := beq_eq_false_iff_ne.mpr c13
            have c13b1 : (a0 != 95) = true := bne_iff_ne.mpr c13
            by_cases c14 : a0 ≥ 128
            ·rw [if_pos c14] at H
             have c14b0 : decide (128 ≤ a0) = true := decide_eq_true c14
             clear c14
             obtain rfl := Option.some.inj H
             go_wp2
             go_ret
             exact ⟨by first | rfl | (simp; done) | (simp [*]; done), by repeat (first | exact Drawn0.refl _ | apply Drawn0.step)⟩
            ·rw [if_neg c14] at H
             have c14b0 : decide (128 ≤ a0) = false := decide_eq_false c14
             clear c14
             obtain rfl := Option.some.inj H
             go_wp2
             go_ret
             exact ⟨by first | rfl | (simp; done) | (simp [*]; done), by repeat (first | exact Drawn0.refl _ | apply Drawn0.step)⟩
         ·rw [if_neg c11] at H
          have c11b0 : decide (48 ≤ a0) = false := decide_eq_false c11
          clear c11
          by_cases c15 : a0 = 95
          ·rw [if_pos c15] at H
           have c15b0 : (a0 == 95) = true := beq_iff_eq.mpr c15
           have c15b1 : (a0 != 95) = false := bne_eq_false_iff_eq.mpr c15
           clear c15
           obtain rfl := Option.some.inj H
           go_wp2
           go_ret
           exact ⟨by first | rfl | (simp; done) | (simp [*]; done), by repeat (first | exact Drawn0.refl _ | apply Drawn0.step)⟩
          ·rw [if_neg c15] at H
           have c15b0 : (a0 == 95) = false := beq_eq_false_iff_ne.mpr c15
           have c15b1 : (a0 != 95) = true := bne_iff_ne.mpr c15
           by_cases c16 : a0 ≥ 128
           ·rw [if_pos c16] at H
            have c16b0 : decide (128 ≤ a0) = true := decide_eq_true c16
            clear c16
            obtain rfl := Option.some.inj H
            go_wp2
            go_ret
            exact ⟨by first | rfl | (simp; done) | (simp [*]; done), by repeat (first | exact Drawn0.refl _ | apply Drawn0.step)⟩
           ·rw [if_neg c16] at H
            have c16b0 : decide (128 ≤ a0) = false := decide_eq_false c16
            clear c16
            obtain rfl := Option.some.inj H
            go_wp2
            go_ret
            exact ⟨by first | rfl | (simp; done) | (simp [*]; done), by repeat (first | exact Drawn0.refl _ | apply Drawn0.step)⟩
       ·rw [if_neg c9] at H
        have c9b0 : decide (65 ≤ a0) = false := decide_eq_false c9
        clear c9
        by_cases c17 : a0 ≥ 48
        ·rw [if_pos c17] at H
         have c17b0 : decide (48 ≤ a0) = true := decide_eq_true c17
         clear c17
         by_cases c18 : a0 ≤ 57
         ·rw [if_pos c18] at H
          have c18b0 : decide (a0 ≤ 57) = true := decide_eq_true c18
          clear c18
          obtain rfl := Option.some.inj H
          go_wp2
          go_ret
          exact ⟨by first | rfl | (simp; done) | (simp [*]; done), by repeat (first | exact Drawn0.refl _ | apply Drawn0.step)⟩
         ·rw [if_neg c18] at H
          have c18b0 : decide (a0 ≤ 57) = false := decide_eq_false c18
          clear c18
          by_cases c19 : a0 = 95
          ·rw [if_pos c19] at H
           have c19b0 : (a0 == 95) = true := beq_iff_eq.mpr c19
           have c19b1 : (a0 != 95) = false := bne_eq_false_iff_eq.mpr c19
           clear c19
           obtain rfl := Option.some.inj H
           go_wp2
           go_ret
           exact ⟨by first | rfl | (simp; done) | (simp [*]; done), by repeat (first | exact Drawn0.refl _ | apply Drawn0.step)⟩
          ·rw [if_neg c19] at H
           have c19b0 : (a0 == 95) = false := beq_eq_false_iff_ne.mpr c19
           have c19b1 : (a0 != 95) = true := bne_iff_ne.mpr c19
           by_cases c20 : a0 ≥ 128
           ·rw [if_pos c20] at H
            have c20b0 : decide (128 ≤ a0) = true := decide_eq_true c20
            clear c20
            obtain rfl := Option.some.inj H
            go_wp2
            go_ret
            exact ⟨by first | rfl | (simp; done) | (simp [*]; done), by repeat (first | exact Drawn0.refl _ | apply Drawn0.step)⟩
           ·rw [if_neg c20] at H
            have c20b0 : decide (128 ≤ a0) = false := decide_eq_false c20
            clear c20
            obtain rfl := Option.some.inj H
            go_wp2
            go_ret
            exact ⟨by first | rfl | (simp; done) | (simp [*]; done), by repeat (first | exact Drawn0.refl _ | apply Drawn0.step)⟩
        ·rw [if_neg c17] at H
         have c17b0 : decide (48 ≤ a0) = false := decide_eq_false c17
         clear c17
         by_cases c21 : a0 = 95
         ·rw [if_pos c21] at H
          have c21b0 : (a0 == 95) = true := beq_iff_eq.mpr c21
          have c21b1 : (a0 != 95) = false := bne_eq_false_iff_eq.mpr c21
          clear c21
          obtain rfl := Option.some.inj H
          go_wp2
          go_ret
          exact ⟨by first | rfl | (simp; done) | (simp [*]; done), by repeat (first | exact Drawn0.refl _ | apply Drawn0.step)⟩
         ·rw [if_neg c21] at H
          have c21b0 : (a0 == 95) = false := beq_eq_false_iff_ne.mpr c21
          have c21b1 : (a0 != 95) = true := bne_iff_ne.mpr c21
          by_cases c22 : a0 ≥ 128
          ·rw [if_pos c22] at H
           have c22b0 : decide (128 ≤ a0) = true := decide_eq_true c22
           clear c22
           obtain rfl := Option.some.inj H
           go_wp2
           go_ret
           exact ⟨by first | rfl | (simp; done) | (simp [*]; done), by repeat (first | exact Drawn0.refl _ | apply Drawn0.step)⟩
          ·rw [if_neg c22] at H
           have c22b0 : decide (128 ≤ a0) = false := decide_eq_false c22
           clear c22
           obtain rfl := Option.some.inj H
           go_wp2
           go_ret
           exact ⟨by first | rfl | (simp; done) | (simp [*]; done), by repeat (first | exact Drawn0.refl _ | apply Drawn0.step)⟩
     ·rw [if_neg c7] at H
      have c7b0 : decide (97 ≤ a0) = false := decide_eq_false c7
      clear c7
      by_cases c23 : a0 ≥ 65
      ·rw [if_pos c23] at H
       have c23b0 : decide (65 ≤ a0) = true := decide_eq_true c23
       clear c23
       by_cases c24 : a0 ≤ 90
       ·rw [if_pos c24] at H
        have c24b0 : decide (a0 ≤ 90) = true := decide_eq_true c24
        clear c24
        obtain rfl := Option.some.inj H
        go_wp2
        go_ret
        exact ⟨by first | rfl | (simp; done) | (simp [*]; done), by repeat (first | exact Drawn0.refl _ | apply Drawn0.step)⟩
       ·rw [if_neg c24] at H
        have c24b0 : decide (a0 ≤ 90) = false := decide_eq_false c24
        clear c24
        by_cases c25 : a0 ≥ 48
        ·rw [if_pos c25] at H
         have c25b0 : decide (48 ≤ a0) = true := decide_eq_true c25
         clear c25
         by_cases c26 : a0 ≤ 57
         ·rw [if_pos c26] at H
          have c26b0 : decide (a0 ≤ 57) = true := decide_eq_true c26
          clear c26
          obtain rfl := Option.some.inj H
          go_wp2
          go_ret
          exact ⟨by first | rfl | (simp; done) | (simp [*]; done), by repeat (first | exact Drawn0.refl _ | apply Drawn0.step)⟩
         ·rw [if_neg c26] at H
          have c26b0 : decide (a0 ≤ 57) = false := decide_eq_false c26
          clear c26
          by_cases c27 : a0 = 95
          ·rw [if_pos c27] at H
           have c27b0 : (a0 == 95) = true := beq_iff_eq.mpr c27
           have c27b1 : (a0 != 95) = false := bne_eq_false_iff_eq.mpr c27
           clear c27
           obtain rfl := Option.some.inj H
           go_wp2
           go_ret
           exact ⟨by first | rfl | (simp; done) | (simp [*]; done), by repeat (first | exact Drawn0.refl _ | apply Drawn0.step)⟩
          ·rw [if_neg c27] at H
           have c27b0 : (a0 == 95) = false := beq_eq_false_iff_ne.mpr c27
           have c27b1 : (a0 != 95) = true := bne_iff_ne.mpr c27
           by_cases c28 : a0 ≥ 128
           ·rw [if_pos c28] at H
            have c28b0 : decide (128 ≤ a0) = true := decide_eq_true c28
            clear c28
            obtain rfl := Option.some.inj H
            go_wp2
            go_ret
            exact ⟨by first | rfl | (simp; done) | (simp [*]; done), by repeat (first | exact Drawn0.refl _ | apply Drawn0.step)⟩
           ·rw [if_neg c28] at H
            have c28b0 : decide (128 ≤ a0) = false := decide_eq_false c28
            clear c28
            obtain rfl := Option.some.inj H
            go_wp2
            go_ret
            exact ⟨by first | rfl | (simp; done) | (simp [*]; done), by repeat (first | exact Drawn0.refl _ | apply Drawn0.step)⟩
        ·rw [if_neg c25] at H
         have c25b0 : decide (48 ≤ a0) = false := decide_eq_false c25
         clear c25
         by_cases c29 : a0 = 95
         ·rw [if_pos c29] at H
          have c29b0 : (a0 == 95) = true := beq_iff_eq.mpr c29
          have c29b1 : (a0 != 95) = false := bne_eq_false_iff_eq.mpr c29
          clear c29
          obtain rfl := Option.some.inj H
          go_wp2
          go_ret
          exact ⟨by first | rfl | (simp; done) | (simp [*]; done), by repeat (first | exact Drawn0.refl _ | apply Drawn0.step)⟩
         ·rw [if_neg c29] at H
          have c29b0 : (a0 == 95) = false := beq_eq_false_iff_ne.mpr c29
          have c29b1 : (a0 != 95) = true := bne_iff_ne.mpr c29
          by_cases c30 : a0 ≥ 128
          ·rw [if_pos c30] at H
           have c30b0 : decide (128 ≤ a0) = true := decide_eq_true c30
           clear c30
           obtain rfl := Option.some.inj H
           go_wp2
           go_ret
           exact ⟨by first | rfl | (simp; done) | (simp [*]; done), by repeat (first | exact Drawn0.refl _ | apply Drawn0.step)⟩
          ·rw [if_neg c30] at H
           have c30b0 : decide (128 ≤ a0) = false := decide_eq_false c30
           clear c30
           obtain rfl := Option.some.inj H
           go_wp2
           go_ret
           exact ⟨by first | rfl | (simp; done) | (simp [*]; done), by repeat (first | exact Drawn0.refl _ | apply Drawn0.step)⟩
      ·rw [if_neg c23] at H
       have c23b0 : decide (65 ≤ a0) = false := decide_eq_false c23
       clear c23
       by_cases c31 : a0 ≥ 48
       ·rw [if_pos c31] at H
        have c31b0 : decide (48 ≤ a0) = true := decide_eq_true c31
        clear c31
        by_cases c32 : a0 ≤ 57
        ·rw [if_pos c32] at H
         have c32b0 : decide (a0 ≤ 57) = true := decide_eq_true c32
         clear c32
         obtain rfl := Option.some.inj H
         go_wp2
         go_ret
         exact ⟨by first | rfl | (simp; done) | (simp [*]; done), by repeat (first | exact Drawn0.refl _ | apply Drawn0.step)⟩
        ·rw [if_neg c32] at H
         have c32b0 : decide (a0 ≤ 57) = false := decide_eq_false c32
         clear c32
         by_cases c33 : a0 = 95
         ·rw [if_pos c33] at H
          have c33b0 : (a0 == 95) = true := beq_iff_eq.mpr c33
          have c33b1 : (a0 != 95) = false := bne_eq_false_iff_eq.mpr c33
          clear c33
          obtain rfl := Option.some.inj H
          go_wp2
          go_ret
          exact ⟨by first | rfl | (simp; done) | (simp [*]; done), by repeat (first | exact Drawn0.refl _ | apply Drawn0.step)⟩
         ·rw [if_neg c33] at H
          have c33b0 : (a0 == 95) = false := beq_eq_false_iff_ne.mpr c33
          have c33b1 : (a0 != 95) = true := bne_iff_ne.mpr c33
          by_cases c34 : a0 ≥ 128
          ·rw [if_pos c34] at H
           have c34b0 : decide (128 ≤ a0) = true := decide_eq_true c34
           clear c34
           obtain rfl := Option.some.inj H
           go_wp2
           go_ret
           exact ⟨by first | rfl | (simp; done) | (simp [*]; done), by repeat (first | exact Drawn0.refl _ | apply Drawn0.step)⟩
          ·rw [if_neg c34] at H
           have c34b0 : decide (128 ≤ a0) = false := decide_eq_false c34
           clear c34
           obtain rfl := Option.some.inj H
           go_wp2
           go_ret
           exact ⟨by first | rfl | (simp; done) | (simp [*]; done), by repeat (first | exact Drawn0.refl _ | apply Drawn0.step)⟩
       ·rw [if_neg c31] at H
        have c31b0 : decide (48 ≤ a0) = false := decide_eq_false c31
        clear c31
        by_cases c35 : a0 = 95
        ·rw [if_pos c35] at H
         have c35b0 : (a0 == 95) = true := beq_iff_eq.mpr c35
         have c35b1 : (a0 != 95) = false := bne_eq_false_iff_eq.mpr c35
         clear c35
         obtain rfl := Option.some.inj H
         go_wp2
         go_ret
         exact ⟨by first | rfl | (simp; done) | (simp [*]; done), by repeat (first | exact Drawn0.refl _ | apply Drawn0.step)⟩
        ·rw [if_neg c35] at H
         have c35b0 : (a0 == 95) = false := beq_eq_false_iff_ne.mpr c35
         have c35b1 : (a0 != 95) = true := bne_iff_ne.mpr c35
         by_cases c36 : a0 ≥ 128
         ·rw [if_pos c36] at H
          have c36b0 : decide (128 ≤ a0) = true := decide_eq_true c36
          clear c36
          obtain rfl := Option.some.inj H
          go_wp2
          go_ret
          exact ⟨by first | rfl | (simp; done) | (simp [*]; done), by repeat (first | exact Drawn0.refl _ | apply Drawn0.step)⟩
         ·rw [if_neg c36] at H
          have c36b0 : decide (128 ≤ a0) = false := decide_eq_false c36
          clear c36
          obtain rfl := Option.some.inj H
          go_wp2
          go_ret
          exact ⟨by first | rfl | (simp; done) | (simp [*]; done), by repeat (first | exact Drawn0.refl _ | apply Drawn0.step)⟩

/-! ### foolscapref5_First: function 16 -/
def foolscapref5_First.l0 : Nat → ByteArray → Int → Option (Int)
 | 0, _, _ => none
 | k + 1, x0, x3 => if x3 < (x0.size : Int) then (if 0 ≤ x3 then ((foolscapref5_Of.f k (bt x0 x3) true).bind fun t178 => (if t178 = 0 then (foolscapref5_First.l0 k x0 (wrap64 (x3 + 1))) else (some x3))) else (none)) else (some (mx (wrap64 ((x0.size : Int) - 1)) 0))
def foolscapref5_First.f (k : Nat) (a0 : ByteArray) : Option (Int) := foolscapref5_First.l0 k a0 0
theorem foolscapref5_First.mono_l : ∀ k, (∀ y0 y1, LeO (foolscapref5_First.l0 k y0 y1) (foolscapref5_First.l0 (k + 1) y0 y1))
 | 0 => fun _ _ r h => by simp [foolscapref5_First.l0] at h
 | k + 1 => by
  have ih0 := foolscapref5_First.mono_l k
  ·intro y0 y1
   unfold foolscapref5_First.l0
   repeat' first
   | (with_reducible exact ih0 _ _)
   | (with_reducible exact foolscapref5_Of.mono _ _ _)
   | (with_reducible exact LeO.refl _)
   | (with_reducible exact LeO.none _)
   | (with_reducible refine LeO.ite ?_ ?_)
   | (with_reducible refine LeO.bind ?_ (fun _ => ?_))
   | exact ih0 _ _
   | exact foolscapref5_Of.mono _ _ _
   | exact LeO.none _
   | refine LeO.ite ?_ ?_
   | refine LeO.bind ?_ (fun _ => ?_)
theorem foolscapref5_First.mono : ∀ a0 k, LeO (foolscapref5_First.f k a0) (foolscapref5_First.f (k + 1) a0) := by
 intro a0 k
 have ih0 := foolscapref5_First.mono_l k
 unfold foolscapref5_First.f
 repeat' first
   | (with_reducible exact ih0 _ _)
   | (with_reducible exact foolscapref5_Of.mono _ _ _)
   | (with_reducible exact LeO.refl _)
   | (with_reducible exact LeO.none _)
   | (with_reducible refine LeO.ite ?_ ?_)
   | (with_reducible refine LeO.bind ?_ (fun _ => ?_))
   | exact ih0 _ _
   | exact foolscapref5_Of.mono _ _ _
   | exact LeO.none _
   | refine LeO.ite ?_ ?_
   | refine LeO.bind ?_ (fun _ => ?_)
set_option maxHeartbeats 8000000 in
set_option maxRecDepth 100000 in
theorem foolscapref5_First.calls (k : Nat) (a0 : ByteArray) (r : Int) (w : World) (h : foolscapref5_First.f k a0 = some r) :
  Calls Try.prog 16 #[.string a0] w fun e w' => e = .returned (.int .i64 r) ∧ Below w.heap.size w w' := by
 have HB := Aside0.mk (Below.refl w.heap.size w)
 have H : (foolscapref5_First.l0 k a0 0) = some r := h
 clear h
 have H' := Aside0.mk H
 clear H
 go_enter Try.func16, Try.ntmps16
 go_wp2
 go_loopg [3] k (fun kq v3 w' => ∃ (x3_1 : Int), v3 = .int .i64 x3_1 ∧ Aside0 (foolscapref5_First.l0 kq a0 x3_1 = some r) ∧ Aside0 (kq ≤ k) ∧ Aside0 (Below w.heap.size w w'))
 case atStart => exact ⟨(0), (by first | rfl | (simp; done) | (simp [*]; done)), H', ⟨Nat.le_refl _⟩, ⟨by repeat with_reducible first | exact HB.out | apply ba | apply bn | apply bd⟩⟩
 case round =>
  clear H'
  try clear c1
  obtain ⟨x3_1, rfl, HA, HK1, HB⟩ := hrel
  cases gk with
  | zero => exact absurd HA.out (by simp [foolscapref5_First.l0])
  | succ k1 =>
   have H := HA.out
   clear HA
   simp only [foolscapref5_First.l0] at H
   by_cases c2 : x3_1 < (a0.size : Int)
   ·rw [if_pos c2] at H
    have c2b0 : decide (x3_1 < (a0.size : Int)) = true := decide_eq_true c2
    clear c2
    by_cases c3 : 0 ≤ x3_1
    ·rw [if_pos c3] at H
     have c3b0 : decide (0 ≤ x3_1) = true := decide_eq_true c3
     clear c3
     replace H := Option.bind_eq_some_iff.mp H
     obtain ⟨t178, A50, H⟩ := H
     replace H : (if t178 = 0 then (foolscapref5_First.l0 k1 a0 (wrap64 (x3_1 + 1))) else (some x3_1)) = some r := H
     have A5 := Aside0.mk A50
     clear A50
     by_cases c6 : t178 = 0
     ·rw [if_pos c6] at H
      have c6b0 : (t178 == 0) = true := beq_iff_eq.mpr c6
      have c6b1 : (t178 != 0) = false := bne_eq_false_iff_eq.mpr c6
      clear c6
      have H' := Aside0.mk H
      clear H
      have p4 : 0 ≤ (x3_1 : Int) := of_decide_eq_true (by first | (with_reducible assumption) | assumption)
      have q4 : x3_1 < (a0.size : Int) := of_decide_eq_true (by first | (with_reducible assumption) | assumption)
      have hx4 := bt_at a0 x3_1
      replace p4 := eq_true p4
      replace q4 := eq_true q4
      go_wp2_with (first | ((with_reducible refine gate_callee (f := 14) rfl ?_); refine goesL_ (some 13) rfl rfl Try.func14 (by kernel_rfl) rfl #[.int .u8 (bt a0 x3_1), .bool true] rfl (by first | rfl | (simp only [List.map_toArray, List.map_cons, List.map_nil] <;> rfl)) ?_; (with_reducible refine (foolscapref5_Of.calls k1 (bt a0 x3_1) true t178 _ A5.out).mono ?_); rintro e w' ⟨rfl, ⟨nd, rfl⟩⟩; refine ⟨_, rfl, ?_⟩))
      go_roundg k1
      case measure => have := HK1.out; omega
      case rel => exact ⟨(wrap64 (x3_1 + 1)), (by first | rfl | (simp; done) | (simp [*]; done)), H', ⟨by have := HK1.out; omega⟩, ⟨by repeat with_reducible first | exact HB.out | apply ba | apply bn | apply bd⟩⟩
     ·rw [if_neg c6] at H
      have c6b0 : (t178 == 0) = false := beq_eq_false_iff_ne.mpr c6
      have c6b1 : (t178 != 0) = true := bne_iff_ne.mpr c6
      obtain rfl := Option.some.inj H
      have p4 : 0 ≤ (x3_1 : Int) := of_decide_eq_true (by first | (with_reducible assumption) | assumption)
      have q4 : x3_1 < (a0.size : Int) := of_decide_eq_true (by first | (with_reducible assumption) | assumption)
      have hx4 := bt_at a0 x3_1
      replace p4 := eq_true p4
      replace q4 := eq_true q4
      go_wp2_with (first | ((with_reducible refine gate_callee (f := 14) rfl ?_); refine goesL_ (some 13) rfl rfl Try.func14 (by kernel_rfl) rfl #[.int .u8 (bt a0 x3_1), .bool true] rfl (by first | rfl | (simp only [List.map_toArray, List.map_cons, List.map_nil] <;> rfl)) ?_; (with_reducible refine (foolscapref5_Of.calls k1 (bt a0 x3_1) true t178 _ A5.out).mono ?_); rintro e w' ⟨rfl, ⟨nd, rfl⟩⟩; refine ⟨_, rfl, ?_⟩))
      go_ret
      exact ⟨by first | rfl | (simp [errW_none, errW_some] <;> rfl) | (simp [*, errW_none, errW_some] <;> rfl), by repeat with_reducible first | exact HB.out | apply ba | apply bn | apply bd⟩
    ·rw [if_neg c3] at H
     exact absurd H (by simp)
   ·rw [if_neg c2] at H
    have c2b0 : decide (x3_1 < (a0.size : Int)) = false := decide_eq_false c2
    clear c2
    obtain ⟨ji7, hji7⟩ : ∃ j_ : Int, (mx (wrap64 ((a0.size : Int) - 1)) 0) = j_ := ⟨_, rfl⟩
    replace H : (some ji7) = some r := by first | (rw [hji7] at H; exact H) | (simp only [hji7] at H ⊢; exact H)
    have hji7_ : (if (wrap64 ((a0.size : Int) - 1)) < 0 then 0 else (wrap64 ((a0.size : Int) - 1))) = ji7 := hji7
    obtain rfl := Option.some.inj H
    go_wp2
    go_ret
    exact ⟨by first | rfl | (simp [errW_none, errW_some] <;> rfl) | (simp only [← hji7]; first | rfl | (simp [errW_none, errW_some] <;> rfl)) | (simp [*, errW_none, errW_some] <;> rfl), by repeat with_reducible first | exact HB.out | apply ba | apply bn | apply bd⟩

/-! ### foolscapref5_Place: function 39 -/
def foolscapref5_Place.f (l0 : List ByteArray) (a1_0 : Int) (a1_1 : Int) : Option (Bool) := if a1_0 ≥ 0 then (if a1_0 < (l0.length : Int) then (if a1_1 ≥ 0 then (if 0 ≤ a1_0 then (some (decide (a1_1 ≤ ((rdOf ByteArray.empty l0 a1_0).size : Int)))) else (none)) else (some false)) else (some false)) else (some false)
set_option maxHeartbeats 8000000 in
set_option maxRecDepth 100000 in
theorem foolscapref5_Place.calls (A0 : Option Addr) (c0 : Nat) (l0 : List ByteArray) (a1_0 : Int) (a1_1 : Int) (r : Bool) (w : World) (hr0 : Kd.C Kd.string w A0 l0.length l0) (hc0 : l0.length ≤ c0) (h : foolscapref5_Place.f l0 a1_0 a1_1 = some r) :
  Calls Try.prog 39 #[.slice A0 l0.length c0, .agg #[.int .i64 a1_0, .int .i64 a1_1]] w fun e w' => e = .returned (.bool r) ∧ Below w.heap.size w w' := by
 have hu28 := Try.underlying28
 have HR0 := Aside0.mk hr0
 have HC0 := Aside0.mk hc0
 clear hr0 hc0
 have HB := Aside0.mk (Below.refl w.heap.size w)
 have H : (if a1_0 ≥ 0 then (if a1_0 < (l0.length : Int) then (if a1_1 ≥ 0 then (if 0 ≤ a1_0 then (some (decide (a1_1 ≤ ((rdOf ByteArray.empty l0 a1_0).size : Int)))) else (none)) else (some false)) else (some false)) else (some false)) = some r := h
 clear h
 by_cases c3 : a1_0 ≥ 0
 ·rw [if_pos c3] at H
  have c3b0 : decide (0 ≤ a1_0) = true := decide_eq_true c3
  clear c3
  by_cases c4 : a1_0 < (l0.length : Int)
  ·rw [if_pos c4] at H
   have c4b0 : decide (a1_0 < (l0.length : Int)) = true := decide_eq_true c4
   clear c4
   by_cases c5 : a1_1 ≥ 0
   ·rw [if_pos c5] at H
    have c5b0 : decide (0 ≤ a1_1) = true := decide_eq_true c5
    clear c5
    by_cases c6 : 0 ≤ a1_0
    ·rw [if_pos c6] at H
     have c6b0 : decide (0 ≤ a1_0) = true := decide_eq_true c6
     clear c6
     obtain rfl := Option.some.inj H
     go_enter Try.func39, Try.ntmps39
     go_wp2_with (first | ((with_reducible refine gate_dst (N := 3) rfl ?_); (try (refine gate_guard (by rfl) ?_; dsimp only)); refine box_event ?hg (N := 3) ?hd (cs := #[.int .i64 a1_0, .int .i64 a1_1]) (t := 28) ?hr ?_; (case hd => rfl); (case hg => rfl); (case hr => first | (go_simp; done) | (go_simp; rfl)); intro gb179 hg w7 hbox hb; have n0_ := Aside0.mk (below_step (by repeat with_reducible first | exact HB.out | apply ba | apply bn | apply bd) hb); have n1_ := Aside0.mk (hbox); have n2_ := Aside0.mk ((by rw [hg]; exact (below_size (by repeat with_reducible first | exact HB.out | apply ba | apply bn | apply bd)) : w.heap.size ≤ gb179)); have n3_ := n2_; clear HB; have HB := n0_; have BK179 := n1_; have GW179 := n2_; have GE179 := n3_; clear n0_ n1_ n2_ n3_; clear hb hbox hg; have hcz8_0 : w7.cell? ⟨gb179, 0, none⟩ = some (.int .i64 a1_0) := (blk_cell BK179.out 0).trans rfl; have hcz8_1 : w7.cell? ⟨gb179, 1, none⟩ = some (.int .i64 a1_1) := (blk_cell BK179.out 1).trans rfl; have hfz8_0 := blk_frozen BK179.out 0; have hfz8_1 := blk_frozen BK179.out 1; have p180 : 0 ≤ (a1_0 : Int) := of_decide_eq_true (by first | (with_reducible assumption) | assumption); have q180 : a1_0 < (l0.length : Int) := of_decide_eq_true (by first | (with_reducible assumption) | assumption); obtain ⟨ad180, e180, hx180_0⟩ := Kd.at_string HR0.out a1_0 p180 q180; cases e180; replace hx180_0 := (HB.out.cell (World.block_lt_of_cell? w _ hx180_0)).trans hx180_0; replace p180 := eq_true p180; replace q180 := eq_true q180))
     repeat (go_quiet (first | ((with_reducible refine gate_dst (N := 3) rfl ?_); (try (refine gate_guard (by rfl) ?_; dsimp only)); refine box_event ?hg (N := 3) ?hd (cs := #[.int .i64 a1_0, .int .i64 a1_1]) (t := 28) ?hr ?_; (case hd => rfl); (case hg => rfl); (case hr => first | (go_simp; done) | (go_simp; rfl)); intro gb179 hg w7 hbox hb; have n0_ := Aside0.mk (below_step (by repeat with_reducible first | exact HB.out | apply ba | apply bn | apply bd) hb); have n1_ := Aside0.mk (hbox); have n2_ := Aside0.mk ((by rw [hg]; exact (below_size (by repeat with_reducible first | exact HB.out | apply ba | apply bn | apply bd)) : w.heap.size ≤ gb179)); have n3_ := n2_; clear HB; have HB := n0_; have BK179 := n1_; have GW179 := n2_; have GE179 := n3_; clear n0_ n1_ n2_ n3_; clear hb hbox hg; have hcz8_0 : w7.cell? ⟨gb179, 0, none⟩ = some (.int .i64 a1_0) := (blk_cell BK179.out 0).trans rfl; have hcz8_1 : w7.cell? ⟨gb179, 1, none⟩ = some (.int .i64 a1_1) := (blk_cell BK179.out 1).trans rfl; have hfz8_0 := blk_frozen BK179.out 0; have hfz8_1 := blk_frozen BK179.out 1; have p180 : 0 ≤ (a1_0 : Int) := of_decide_eq_true (by first | (with_reducible assumption) | assumption); have q180 : a1_0 < (l0.length : Int) := of_decide_eq_true (by first | (with_reducible assumption) | assumption); obtain ⟨ad180, e180, hx180_0⟩ := Kd.at_string HR0.out a1_0 p180 q180; cases e180; replace hx180_0 := (HB.out.cell (World.block_lt_of_cell? w _ hx180_0)).trans hx180_0; replace p180 := eq_true p180; replace q180 := eq_true q180)); try go_wp2_with (first | ((with_reducible refine gate_dst (N := 3) rfl ?_); (try (refine gate_guard (by rfl) ?_; dsimp only)); refine box_event ?hg (N := 3) ?hd (cs := #[.int .i64 a1_0, .int .i64 a1_1]) (t := 28) ?hr ?_; (case hd => rfl); (case hg => rfl); (case hr => first | (go_simp; done) | (go_simp; rfl)); intro gb179 hg w7 hbox hb; have n0_ := Aside0.mk (below_step (by repeat with_reducible first | exact HB.out | apply ba | apply bn | apply bd) hb); have n1_ := Aside0.mk (hbox); have n2_ := Aside0.mk ((by rw [hg]; exact (below_size (by repeat with_reducible first | exact HB.out | apply ba | apply bn | apply bd)) : w.heap.size ≤ gb179)); have n3_ := n2_; clear HB; have HB := n0_; have BK179 := n1_; have GW179 := n2_; have GE179 := n3_; clear n0_ n1_ n2_ n3_; clear hb hbox hg; have hcz8_0 : w7.cell? ⟨gb179, 0, none⟩ = some (.int .i64 a1_0) := (blk_cell BK179.out 0).trans rfl; have hcz8_1 : w7.cell? ⟨gb179, 1, none⟩ = some (.int .i64 a1_1) := (blk_cell BK179.out 1).trans rfl; have hfz8_0 := blk_frozen BK179.out 0; have hfz8_1 := blk_frozen BK179.out 1; have p180 : 0 ≤ (a1_0 : Int) := of_decide_eq_true (by first | (with_reducible assumption) | assumption); have q180 : a1_0 < (l0.length : Int) := of_decide_eq_true (by first | (with_reducible assumption) | assumption); obtain ⟨ad180, e180, hx180_0⟩ := Kd.at_string HR0.out a1_0 p180 q180; cases e180; replace hx180_0 := (HB.out.cell (World.block_lt_of_cell? w _ hx180_0)).trans hx180_0; replace p180 := eq_true p180; replace q180 := eq_true q180)))
     go_ret
     exact ⟨by first | rfl | (simp [errW_none, errW_some] <;> rfl) | (simp [*, errW_none, errW_some] <;> rfl), by repeat with_reducible first | exact HB.out | apply ba | apply bn | apply bd | refine bset ?_ (by assumption)⟩
    ·rw [if_neg c6] at H
     exact absurd H (by simp)
   ·rw [if_neg c5] at H
    have c5b0 : decide (0 ≤ a1_1) = false := decide_eq_false c5
    clear c5
    obtain rfl := Option.some.inj H
    go_enter Try.func39, Try.ntmps39
    go_wp2_with (first | ((with_reducible refine gate_dst (N := 3) rfl ?_); (try (refine gate_guard (by rfl) ?_; dsimp only)); refine box_event ?hg (N := 3) ?hd (cs := #[.int .i64 a1_0, .int .i64 a1_1]) (t := 28) ?hr ?_; (case hd => rfl); (case hg => rfl); (case hr => first | (go_simp; done) | (go_simp; rfl)); intro gb179 hg w9 hbox hb; have n0_ := Aside0.mk (below_step (by repeat with_reducible first | exact HB.out | apply ba | apply bn | apply bd) hb); have n1_ := Aside0.mk (hbox); have n2_ := Aside0.mk ((by rw [hg]; exact (below_size (by repeat with_reducible first | exact HB.out | apply ba | apply bn | apply bd)) : w.heap.size ≤ gb179)); have n3_ := n2_; clear HB; have HB := n0_; have BK179 := n1_; have GW179 := n2_; have GE179 := n3_; clear n0_ n1_ n2_ n3_; clear hb hbox hg; have hcz10_0 : w9.cell? ⟨gb179, 0, none⟩ = some (.int .i64 a1_0) := (blk_cell BK179.out 0).trans rfl; have hcz10_1 : w9.cell? ⟨gb179, 1, none⟩ = some (.int .i64 a1_1) := (blk_cell BK179.out 1).trans rfl; have hfz10_0 := blk_frozen BK179.out 0; have hfz10_1 := blk_frozen BK179.out 1))
    repeat (go_quiet (first | ((with_reducible refine gate_dst (N := 3) rfl ?_); (try (refine gate_guard (by rfl) ?_; dsimp only)); refine box_event ?hg (N := 3) ?hd (cs := #[.int .i64 a1_0, .int .i64 a1_1]) (t := 28) ?hr ?_; (case hd => rfl); (case hg => rfl); (case hr => first | (go_simp; done) | (go_simp; rfl)); intro gb179 hg w9 hbox hb; have n0_ := Aside0.mk (below_step (by repeat with_reducible first | exact HB.out | apply ba | apply bn | apply bd) hb); have n1_ := Aside0.mk (hbox); have n2_ := Aside0.mk ((by rw [hg]; exact (below_size (by repeat with_reducible first | exact HB.out | apply ba | apply bn | apply bd)) : w.heap.size ≤ gb179)); have n3_ := n2_; clear HB; have HB := n0_; have BK179 := n1_; have GW179 := n2_; have GE179 := n3_; clear n0_ n1_ n2_ n3_; clear hb hbox hg; have hcz10_0 : w9.cell? ⟨gb179, 0, none⟩ = some (.int .i64 a1_0) := (blk_cell BK179.out 0).trans rfl; have hcz10_1 : w9.cell? ⟨gb179, 1, none⟩ = some (.int .i64 a1_1) := (blk_cell BK179.out 1).trans rfl; have hfz10_0 := blk_frozen BK179.out 0; have hfz10_1 := blk_frozen BK179.out 1)); try go_wp2_with (first | ((with_reducible refine gate_dst (N := 3) rfl ?_); (try (refine gate_guard (by rfl) ?_; dsimp only)); refine box_event ?hg (N := 3) ?hd (cs := #[.int .i64 a1_0, .int .i64 a1_1]) (t := 28) ?hr ?_; (case hd => rfl); (case hg => rfl); (case hr => first | (go_simp; done) | (go_simp; rfl)); intro gb179 hg w9 hbox hb; have n0_ := Aside0.mk (below_step (by repeat with_reducible first | exact HB.out | apply ba | apply bn | apply bd) hb); have n1_ := Aside0.mk (hbox); have n2_ := Aside0.mk ((by rw [hg]; exact (below_size (by repeat with_reducible first | exact HB.out | apply ba | apply bn | apply bd)) : w.heap.size ≤ gb179)); have n3_ := n2_; clear HB; have HB := n0_; have BK179 := n1_; have GW179 := n2_; have GE179 := n3_; clear n0_ n1_ n2_ n3_; clear hb hbox hg; have hcz10_0 : w9.cell? ⟨gb179, 0, none⟩ = some (.int .i64 a1_0) := (blk_cell BK179.out 0).trans rfl; have hcz10_1 : w9.cell? ⟨gb179, 1, none⟩ = some (.int .i64 a1_1) := (blk_cell BK179.out 1).trans rfl; have hfz10_0 := blk_frozen BK179.out 0; have hfz10_1 := blk_frozen BK179.out 1)))
    go_ret
    exact ⟨by first | rfl | (simp [errW_none, errW_some] <;> rfl) | (simp [*, errW_none, errW_some] <;> rfl), by repeat with_reducible first | exact HB.out | apply ba | apply bn | apply bd | refine bset ?_ (by assumption)⟩
  ·rw [if_neg c4] at H
   have c4b0 : decide (a1_0 < (l0.length : Int)) = false := decide_eq_false c4
   clear c4
   obtain rfl := Option.some.inj H
   go_enter Try.func39, Try.ntmps39
   go_wp2_with (first | ((with_reducible refine gate_dst (N := 3) rfl ?_); (try (refine gate_guard (by rfl) ?_; dsimp only)); refine box_event ?hg (N := 3) ?hd (cs := #[.int .i64 a1_0, .int .i64 a1_1]) (t := 28) ?hr ?_; (case hd => rfl); (case hg => rfl); (case hr => first | (go_simp; done) | (go_simp; rfl)); intro gb179 hg w11 hbox hb; have n0_ := Aside0.mk (below_step (by repeat with_reducible first | exact HB.out | apply ba | apply bn | apply bd) hb); have n1_ := Aside0.mk (hbox); have n2_ := Aside0.mk ((by rw [hg]; exact (below_size (by repeat with_reducible first | exact HB.out | apply ba | apply bn | apply bd)) : w.heap.size ≤ gb179)); have n3_ := n2_; clear HB; have HB := n0_; have BK179 := n1_; have GW179 := n2_; have GE179 := n3_; clear n0_ n1_ n2_ n3_; clear hb hbox hg; have hcz12_0 : w11.cell? ⟨gb179, 0, none⟩ = some (.int .i64 a1_0) := (blk_cell BK179.out 0).trans rfl; have hcz12_1 : w11.cell? ⟨gb179, 1, none⟩ = some (.int .i64 a1_1) := (blk_cell BK179.out 1).trans rfl; have hfz12_0 := blk_frozen BK179.out 0; have hfz12_1 := blk_frozen BK179.out 1))
   repeat (go_quiet (first | ((with_reducible refine gate_dst (N := 3) rfl ?_); (try (refine gate_guard (by rfl) ?_; dsimp only)); refine box_event ?hg (N := 3) ?hd (cs := #[.int .i64 a1_0, .int .i64 a1_1]) (t := 28) ?hr ?_; (case hd => rfl); (case hg => rfl); (case hr => first | (go_simp; done) | (go_simp; rfl)); intro gb179 hg w11 hbox hb; have n0_ := Aside0.mk (below_step (by repeat with_reducible first | exact HB.out | apply ba | apply bn | apply bd) hb); have n1_ := Aside0.mk (hbox); have n2_ := Aside0.mk ((by rw [hg]; exact (below_size (by repeat with_reducible first | exact HB.out | apply ba | apply bn | apply bd)) : w.heap.size ≤ gb179)); have n3_ := n2_; clear HB; have HB := n0_; have BK179 := n1_; have GW179 := n2_; have GE179 := n3_; clear n0_ n1_ n2_ n3_; clear hb hbox hg; have hcz12_0 : w11.cell? ⟨gb179, 0, none⟩ = some (.int .i64 a1_0) := (blk_cell BK179.out 0).trans rfl; have hcz12_1 : w11.cell? ⟨gb179, 1, none⟩ = some (.int .i64 a1_1) := (blk_cell BK179.out 1).trans rfl; have hfz12_0 := blk_frozen BK179.out 0; have hfz12_1 := blk_frozen BK179.out 1)); try go_wp2_with (first | ((with_reducible refine gate_dst (N := 3) rfl ?_); (try (refine gate_guard (by rfl) ?_; dsimp only)); refine box_event ?hg (N := 3) ?hd (cs := #[.int .i64 a1_0, .int .i64 a1_1]) (t := 28) ?hr ?_; (case hd => rfl); (case hg => rfl); (case hr => first | (go_simp; done) | (go_simp; rfl)); intro gb179 hg w11 hbox hb; have n0_ := Aside0.mk (below_step (by repeat with_reducible first | exact HB.out | apply ba | apply bn | apply bd) hb); have n1_ := Aside0.mk (hbox); have n2_ := Aside0.mk ((by rw [hg]; exact (below_size (by repeat with_reducible first | exact HB.out | apply ba | apply bn | apply bd)) : w.heap.size ≤ gb179)); have n3_ := n2_; clear HB; have HB := n0_; have BK179 := n1_; have GW179 := n2_; have GE179 := n3_; clear n0_ n1_ n2_ n3_; clear hb hbox hg; have hcz12_0 : w11.cell? ⟨gb179, 0, none⟩ = some (.int .i64 a1_0) := (blk_cell BK179.out 0).trans rfl; have hcz12_1 : w11.cell? ⟨gb179, 1, none⟩ = some (.int .i64 a1_1) := (blk_cell BK179.out 1).trans rfl; have hfz12_0 := blk_frozen BK179.out 0; have hfz12_1 := blk_frozen BK179.out 1)))
   go_ret
   exact ⟨by first | rfl | (simp [errW_none, errW_some] <;> rfl) | (simp [*, errW_none, errW_some] <;> rfl), by repeat with_reducible first | exact HB.out | apply ba | apply bn | apply bd | refine bset ?_ (by assumption)⟩
 ·rw [if_neg c3] at H
  have c3b0 : decide (0 ≤ a1_0) = false := decide_eq_false c3
  clear c3
  obtain rfl := Option.some.inj H
  go_enter Try.func39, Try.ntmps39
  go_wp2_with (first | ((with_reducible refine gate_dst (N := 3) rfl ?_); (try (refine gate_guard (by rfl) ?_; dsimp only)); refine box_event ?hg (N := 3) ?hd (cs := #[.int .i64 a1_0, .int .i64 a1_1]) (t := 28) ?hr ?_; (case hd => rfl); (case hg => rfl); (case hr => first | (go_simp; done) | (go_simp; rfl)); intro gb179 hg w13 hbox hb; have n0_ := Aside0.mk (below_step (by repeat with_reducible first | exact HB.out | apply ba | apply bn | apply bd) hb); have n1_ := Aside0.mk (hbox); have n2_ := Aside0.mk ((by rw [hg]; exact (below_size (by repeat with_reducible first | exact HB.out | apply ba | apply bn | apply bd)) : w.heap.size ≤ gb179)); have n3_ := n2_; clear HB; have HB := n0_; have BK179 := n1_; have GW179 := n2_; have GE179 := n3_; clear n0_ n1_ n2_ n3_; clear hb hbox hg; have hcz14_0 : w13.cell? ⟨gb179, 0, none⟩ = some (.int .i64 a1_0) := (blk_cell BK179.out 0).trans rfl; have hcz14_1 : w13.cell? ⟨gb179, 1, none⟩ = some (.int .i64 a1_1) := (blk_cell BK179.out 1).trans rfl; have hfz14_0 := blk_frozen BK179.out 0; have hfz14_1 := blk_frozen BK179.out 1))
  repeat (go_quiet (first | ((with_reducible refine gate_dst (N := 3) rfl ?_); (try (refine gate_guard (by rfl) ?_; dsimp only)); refine box_event ?hg (N := 3) ?hd (cs := #[.int .i64 a1_0, .int .i64 a1_1]) (t := 28) ?hr ?_; (case hd => rfl); (case hg => rfl); (case hr => first | (go_simp; done) | (go_simp; rfl)); intro gb179 hg w13 hbox hb; have n0_ := Aside0.mk (below_step (by repeat with_reducible first | exact HB.out | apply ba | apply bn | apply bd) hb); have n1_ := Aside0.mk (hbox); have n2_ := Aside0.mk ((by rw [hg]; exact (below_size (by repeat with_reducible first | exact HB.out | apply ba | apply bn | apply bd)) : w.heap.size ≤ gb179)); have n3_ := n2_; clear HB; have HB := n0_; have BK179 := n1_; have GW179 := n2_; have GE179 := n3_; clear n0_ n1_ n2_ n3_; clear hb hbox hg; have hcz14_0 : w13.cell? ⟨gb179, 0, none⟩ = some (.int .i64 a1_0) := (blk_cell BK179.out 0).trans rfl; have hcz14_1 : w13.cell? ⟨gb179, 1, none⟩ = some (.int .i64 a1_1) := (blk_cell BK179.out 1).trans rfl; have hfz14_0 := blk_frozen BK179.out 0; have hfz14_1 := blk_frozen BK179.out 1)); try go_wp2_with (first | ((with_reducible refine gate_dst (N := 3) rfl ?_); (try (refine gate_guard (by rfl) ?_; dsimp only)); refine box_event ?hg (N := 3) ?hd (cs := #[.int .i64 a1_0, .int .i64 a1_1]) (t := 28) ?hr ?_; (case hd => rfl); (case hg => rfl); (case hr => first | (go_simp; done) | (go_simp; rfl)); intro gb179 hg w13 hbox hb; have n0_ := Aside0.mk (below_step (by repeat with_reducible first | exact HB.out | apply ba | apply bn | apply bd) hb); have n1_ := Aside0.mk (hbox); have n2_ := Aside0.mk ((by rw [hg]; exact (below_size (by repeat with_reducible first | exact HB.out | apply ba | apply bn | apply bd)) : w.heap.size ≤ gb179)); have n3_ := n2_; clear HB; have HB := n0_; have BK179 := n1_; have GW179 := n2_; have GE179 := n3_; clear n0_ n1_ n2_ n3_; clear hb hbox hg; have hcz14_0 : w13.cell? ⟨gb179, 0, none⟩ = some (.int .i64 a1_0) := (blk_cell BK179.out 0).trans rfl; have hcz14_1 : w13.cell? ⟨gb179, 1, none⟩ = some (.int .i64 a1_1) := (blk_cell BK179.out 1).trans rfl; have hfz14_0 := blk_frozen BK179.out 0; have hfz14_1 := blk_frozen BK179.out 1)))
  go_ret
  exact ⟨by first | rfl | (simp [errW_none, errW_some] <;> rfl) | (simp [*, errW_none, errW_some] <;> rfl), by repeat with_reducible first | exact HB.out | apply ba | apply bn | apply bd | refine bset ?_ (by assumption)⟩

/-! ### foolscapref5_Less: function 42 -/
def foolscapref5_Less.f (a0_0 : Int) (a0_1 : Int) (a1_0 : Int) (a1_1 : Int) : Option (Bool) := if a0_0 < a1_0 then (some true) else (if a0_0 = a1_0 then (some (decide (a0_1 < a1_1))) else (some false))
set_option maxHeartbeats 8000000 in
set_option maxRecDepth 100000 in
theorem foolscapref5_Less.calls (a0_0 : Int) (a0_1 : Int) (a1_0 : Int) (a1_1 : Int) (r : Bool) (w : World) (h : foolscapref5_Less.f a0_0 a0_1 a1_0 a1_1 = some r) :
  Calls Try.prog 42 #[.agg #[.int .i64 a0_0, .int .i64 a0_1], .agg #[.int .i64 a1_0, .int .i64 a1_1]] w fun e w' => e = .returned (.bool r) ∧ Below w.heap.size w w' := by
 have hu28 := Try.underlying28
 have HB := Aside0.mk (Below.refl w.heap.size w)
 have H : (if a0_0 < a1_0 then (some true) else (if a0_0 = a1_0 then (some (decide (a0_1 < a1_1))) else (some false))) = some r := h
 clear h
 by_cases c3 : a0_0 < a1_0
 ·rw [if_pos c3] at H
  have c3b0 : decide (a0_0 < a1_0) = true := decide_eq_true c3
  clear c3
  obtain rfl := Option.some.inj H
  go_enter Try.func42, Try.ntmps42
  go_wp2_with (first | ((with_reducible refine gate_dst (N := 2) rfl ?_); refine box_event ?hg (N := 2) ?hd (cs := #[.int .i64 a0_0, .int .i64 a0_1]) (t := 28) ?hr ?_; (case hd => rfl); (case hg => rfl); (case hr => first | (go_simp; done) | (go_simp; rfl)); intro gb181 hg w4 hbox hb; have n0_ := Aside0.mk (below_step (by repeat with_reducible first | exact HB.out | apply ba | apply bn | apply bd) hb); have n1_ := Aside0.mk (hbox); have n2_ := Aside0.mk ((by rw [hg]; exact (below_size (by repeat with_reducible first | exact HB.out | apply ba | apply bn | apply bd)) : w.heap.size ≤ gb181)); have n3_ := n2_; clear HB; have HB := n0_; have BK181 := n1_; have GW181 := n2_; have GE181 := n3_; clear n0_ n1_ n2_ n3_; clear hb hbox hg) | ((with_reducible refine gate_dst (N := 3) rfl ?_); refine box_event ?hg (N := 3) ?hd (cs := #[.int .i64 a1_0, .int .i64 a1_1]) (t := 28) ?hr ?_; (case hd => rfl); (case hg => rfl); (case hr => first | (go_simp; done) | (go_simp; rfl)); intro gb182 hg w5 hbox hb; have n0_ := Aside0.mk (blk_below (pk BK181.out) hb); have n1_ := Aside0.mk (below_step (by repeat with_reducible first | exact HB.out | apply ba | apply bn | apply bd | refine bset ?_ (by assumption)) hb); have n2_ := Aside0.mk (hbox); have n3_ := Aside0.mk ((by rw [hg]; exact (below_size (by repeat with_reducible first | exact HB.out | apply ba | apply bn | apply bd | refine bset ?_ (by assumption))) : w.heap.size ≤ gb182)); have n4_ := n3_; have n5_ := Aside0.mk ((by rw [hg]; exact Nat.ne_of_lt (blk_lt (pk BK181.out)) : gb181 ≠ gb182)); have n6_ := Aside0.mk ((by rw [hg]; exact Nat.ne_of_gt (blk_lt (pk BK181.out)) : gb182 ≠ gb181)); clear BK181; clear HB; have BK181 := n0_; have HB := n1_; have BK182 := n2_; have GW182 := n3_; have GE182 := n4_; have NB181_182 := n5_; have NB182_181 := n6_; clear n0_ n1_ n2_ n3_ n4_ n5_ n6_; clear hb hbox hg; have hnb6 := NB181_182.out; have hnc6 := NB182_181.out; have hcz7_0 : w5.cell? ⟨gb181, 0, none⟩ = some (.int .i64 a0_0) := (blk_cell BK181.out 0).trans rfl; have hcz7_1 : w5.cell? ⟨gb181, 1, none⟩ = some (.int .i64 a0_1) := (blk_cell BK181.out 1).trans rfl; have hfz7_0 := blk_frozen BK181.out 0; have hfz7_1 := blk_frozen BK181.out 1; have hcz8_0 : w5.cell? ⟨gb182, 0, none⟩ = some (.int .i64 a1_0) := (blk_cell BK182.out 0).trans rfl; have hcz8_1 : w5.cell? ⟨gb182, 1, none⟩ = some (.int .i64 a1_1) := (blk_cell BK182.out 1).trans rfl; have hfz8_0 := blk_frozen BK182.out 0; have hfz8_1 := blk_frozen BK182.out 1))
  go_ret
  exact ⟨by first | rfl | (simp [errW_none, errW_some] <;> rfl) | (simp [*, errW_none, errW_some] <;> rfl), by repeat with_reducible first | exact HB.out | apply ba | apply bn | apply bd | refine bset ?_ (by assumption)⟩
 ·rw [if_neg c3] at H
  have c3b0 : decide (a0_0 < a1_0) = false := decide_eq_false c3
  clear c3
  by_cases c9 : a0_0 = a1_0
  ·rw [if_pos c9] at H
   have c9b0 : (a0_0 == a1_0) = true := beq_iff_eq.mpr c9
   have c9b1 : (a0_0 != a1_0) = false := bne_eq_false_iff_eq.mpr c9
   clear c9
   obtain rfl := Option.some.inj H
   go_enter Try.func42, Try.ntmps42
   go_wp2_with (first | ((with_reducible refine gate_dst (N := 2) rfl ?_); refine box_event ?hg (N := 2) ?hd (cs := #[.int .i64 a0_0, .int .i64 a0_1]) (t := 28) ?hr ?_; (case hd => rfl); (case hg => rfl); (case hr => first | (go_simp; done) | (go_simp; rfl)); intro gb181 hg w10 hbox hb; have n0_ := Aside0.mk (below_step (by repeat with_reducible first | exact HB.out | apply ba | apply bn | apply bd) hb); have n1_ := Aside0.mk (hbox); have n2_ := Aside0.mk ((by rw [hg]; exact (below_size (by repeat with_reducible first | exact HB.out | apply ba | apply bn | apply bd)) : w.heap.size ≤ gb181)); have n3_ := n2_; clear HB; have HB := n0_; have BK181 := n1_; have GW181 := n2_; have GE181 := n3_; clear n0_ n1_ n2_ n3_; clear hb hbox hg) | ((with_reducible refine gate_dst (N := 3) rfl ?_); refine box_event ?hg (N := 3) ?hd (cs := #[.int .i64 a1_0, .int .i64 a1_1]) (t := 28) ?hr ?_; (case hd => rfl); (case hg => rfl); (case hr => first | (go_simp; done) | (go_simp; rfl)); intro gb182 hg w11 hbox hb; have n0_ := Aside0.mk (blk_below (pk BK181.out) hb); have n1_ := Aside0.mk (below_step (by repeat with_reducible first | exact HB.out | apply ba | apply bn | apply bd | refine bset ?_ (by assumption)) hb); have n2_ := Aside0.mk (hbox); have n3_ := Aside0.mk ((by rw [hg]; exact (below_size (by repeat with_reducible first | exact HB.out | apply ba | apply bn | apply bd | refine bset ?_ (by assumption))) : w.heap.size ≤ gb182)); have n4_ := n3_; have n5_ := Aside0.mk ((by rw [hg]; exact Nat.ne_of_lt (blk_lt (pk BK181.out)) : gb181 ≠ gb182)); have n6_ := Aside0.mk ((by rw [hg]; exact Nat.ne_of_gt (blk_lt (pk BK181.out)) : gb182 ≠ gb181)); clear BK181; clear HB; have BK181 := n0_; have HB := n1_; have BK182 := n2_; have GW182 := n3_; have GE182 := n4_; have NB181_182 := n5_; have NB182_181 := n6_; clear n0_ n1_ n2_ n3_ n4_ n5_ n6_; clear hb hbox hg; have hnb12 := NB181_182.out; have hnc12 := NB182_181.out; have hcz13_0 : w11.cell? ⟨gb181, 0, none⟩ = some (.int .i64 a0_0) := (blk_cell BK181.out 0).trans rfl; have hcz13_1 : w11.cell? ⟨gb181, 1, none⟩ = some (.int .i64 a0_1) := (blk_cell BK181.out 1).trans rfl; have hfz13_0 := blk_frozen BK181.out 0; have hfz13_1 := blk_frozen BK181.out 1; have hcz14_0 : w11.cell? ⟨gb182, 0, none⟩ = some (.int .i64 a1_0) := (blk_cell BK182.out 0).trans rfl; have hcz14_1 : w11.cell? ⟨gb182, 1, none⟩ = some (.int .i64 a1_1) := (blk_cell BK182.out 1).trans rfl; have hfz14_0 := blk_frozen BK182.out 0; have hfz14_1 := blk_frozen BK182.out 1))
   go_ret
   exact ⟨by first | rfl | (simp [errW_none, errW_some] <;> rfl) | (simp [*, errW_none, errW_some] <;> rfl), by repeat with_reducible first | exact HB.out | apply ba | apply bn | apply bd | refine bset ?_ (by assumption)⟩
  ·rw [if_neg c9] at H
   have c9b0 : (a0_0 == a1_0) = false := beq_eq_false_iff_ne.mpr c9
   have c9b1 : (a0_0 != a1_0) = true := bne_iff_ne.mpr c9
   obtain rfl := Option.some.inj H
   go_enter Try.func42, Try.ntmps42
   go_wp2_with (first | ((with_reducible refine gate_dst (N := 2) rfl ?_); refine box_event ?hg (N := 2) ?hd (cs := #[.int .i64 a0_0, .int .i64 a0_1]) (t := 28) ?hr ?_; (case hd => rfl); (case hg => rfl); (case hr => first | (go_simp; done) | (go_simp; rfl)); intro gb181 hg w15 hbox hb; have n0_ := Aside0.mk (below_step (by repeat with_reducible first | exact HB.out | apply ba | apply bn | apply bd) hb); have n1_ := Aside0.mk (hbox); have n2_ := Aside0.mk ((by rw [hg]; exact (below_size (by repeat with_reducible first | exact HB.out | apply ba | apply bn | apply bd)) : w.heap.size ≤ gb181)); have n3_ := n2_; clear HB; have HB := n0_; have BK181 := n1_; have GW181 := n2_; have GE181 := n3_; clear n0_ n1_ n2_ n3_; clear hb hbox hg) | ((with_reducible refine gate_dst (N := 3) rfl ?_); refine box_event ?hg (N := 3) ?hd (cs := #[.int .i64 a1_0, .int .i64 a1_1]) (t := 28) ?hr ?_; (case hd => rfl); (case hg => rfl); (case hr => first | (go_simp; done) | (go_simp; rfl)); intro gb182 hg w16 hbox hb; have n0_ := Aside0.mk (blk_below (pk BK181.out) hb); have n1_ := Aside0.mk (below_step (by repeat with_reducible first | exact HB.out | apply ba | apply bn | apply bd | refine bset ?_ (by assumption)) hb); have n2_ := Aside0.mk (hbox); have n3_ := Aside0.mk ((by rw [hg]; exact (below_size (by repeat with_reducible first | exact HB.out | apply ba | apply bn | apply bd | refine bset ?_ (by assumption))) : w.heap.size ≤ gb182)); have n4_ := n3_; have n5_ := Aside0.mk ((by rw [hg]; exact Nat.ne_of_lt (blk_lt (pk BK181.out)) : gb181 ≠ gb182)); have n6_ := Aside0.mk ((by rw [hg]; exact Nat.ne_of_gt (blk_lt (pk BK181.out)) : gb182 ≠ gb181)); clear BK181; clear HB; have BK181 := n0_; have HB := n1_; have BK182 := n2_; have GW182 := n3_; have GE182 := n4_; have NB181_182 := n5_; have NB182_181 := n6_; clear n0_ n1_ n2_ n3_ n4_ n5_ n6_; clear hb hbox hg; have hnb17 := NB181_182.out; have hnc17 := NB182_181.out; have hcz18_0 : w16.cell? ⟨gb181, 0, none⟩ = some (.int .i64 a0_0) := (blk_cell BK181.out 0).trans rfl; have hcz18_1 : w16.cell? ⟨gb181, 1, none⟩ = some (.int .i64 a0_1) := (blk_cell BK181.out 1).trans rfl; have hfz18_0 := blk_frozen BK181.out 0; have hfz18_1 := blk_frozen BK181.out 1; have hcz19_0 : w16.cell? ⟨gb182, 0, none⟩ = some (.int .i64 a1_0) := (blk_cell BK182.out 0).trans rfl; have hcz19_1 : w16.cell? ⟨gb182, 1, none⟩ = some (.int .i64 a1_1) := (blk_cell BK182.out 1).trans rfl; have hfz19_0 := blk_frozen BK182.out 0; have hfz19_1 := blk_frozen BK182.out 1))
   go_ret
   exact ⟨by first | rfl | (simp [errW_none, errW_some] <;> rfl) | (simp [*, errW_none, errW_some] <;> rfl), by repeat with_reducible first | exact HB.out | apply ba | apply bn | apply bd | refine bset ?_ (by assumption)⟩

end Go.Proofs.Ytdcbgmeljakmcaa.MAreaOf
