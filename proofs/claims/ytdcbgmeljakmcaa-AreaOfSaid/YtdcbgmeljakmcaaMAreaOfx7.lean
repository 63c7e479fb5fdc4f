/- What the Go functions of this law compute, and that they do: written by this session's own program (wip/myprint), for all inputs that the print's conditions name. -/
import Derived.Test.YtdcbgmeljakmcaaMAreaOfx0
import Derived.Test.YtdcbgmeljakmcaaMAreaOfx6
namespace Go.Proofs.Ytdcbgmeljakmcaa.MAreaOf
open Go.RowKit Go.Proofs.YtdcbgmeljakmcaaW.PrintWords Go.Proofs.YtdcbgmeljakmcaaW.PrintLast Go.Proofs.Ytdcbgmeljakmcaa.Few
attribute [local go_sem] max2_int min2_int max_two min_two
set_option linter.unusedVariables false
set_option linter.unusedSimpArgs false

/-! ### foolscapref5_Order: function 40 -/
def foolscapref5_Order.f (a0_0 : Int) (a0_1 : Int) (a1_0 : Int) (a1_1 : Int) : Option (Int × Int × Int × Int) := (foolscapref5_Less.f a1_0 a1_1 a0_0 a0_1).bind fun t187 => (if t187 = true then (some (a1_0, a1_1, a0_0, a0_1)) else (some (a0_0, a0_1, a1_0, a1_1)))
set_option maxHeartbeats 8000000 in
set_option maxRecDepth 100000 in
theorem foolscapref5_Order.calls (a0_0 : Int) (a0_1 : Int) (a1_0 : Int) (a1_1 : Int) (r1 : Int) (r2 : Int) (r3 : Int) (r4 : Int) (w : World) (h : foolscapref5_Order.f a0_0 a0_1 a1_0 a1_1 = some (r1, r2, r3, r4)) :
  Calls Try.prog 40 #[.agg #[.int .i64 a0_0, .int .i64 a0_1], .agg #[.int .i64 a1_0, .int .i64 a1_1]] w fun e w' => e = .returned (.tuple #[.agg #[.int .i64 r1, .int .i64 r2], .agg #[.int .i64 r3, .int .i64 r4]]) ∧ Below w.heap.size w w' := by
 have hu28 := Try.underlying28
 have HB := Aside0.mk (Below.refl w.heap.size w)
 have H : ((foolscapref5_Less.f a1_0 a1_1 a0_0 a0_1).bind fun t187 => (if t187 = true then (some (a1_0, a1_1, a0_0, a0_1)) else (some (a0_0, a0_1, a1_0, a1_1)))) = some (r1, r2, r3, r4) := h
 clear h
 replace H := Option.bind_eq_some_iff.mp H
 obtain ⟨t187, A30, H⟩ := H
 replace H : (if t187 = true then (some (a1_0, a1_1, a0_0, a0_1)) else (some (a0_0, a0_1, a1_0, a1_1))) = some (r1, r2, r3, r4) := H
 have A3 := Aside0.mk A30
 clear A30
 by_cases c4 : t187 = true
 ·subst c4
  have H1 : (some (a1_0, a1_1, a0_0, a0_1)) = some (r1, r2, r3, r4) := by rw [if_pos rfl] at H; exact H
  clear H
  have H := H1
  clear H1
  simp only [Option.some.injEq, Prod.mk.injEq] at H
  obtain ⟨rfl, rfl, rfl, rfl⟩ := H
  go_enter Try.func40, Try.ntmps40
  try go_wp2_with (first | ((with_reducible refine gate_dst (N := 2) rfl ?_); refine box_event ?hg (N := 2) ?hd (cs := #[.int .i64 a0_0, .int .i64 a0_1]) (t := 28) ?hr ?_; (case hd => rfl); (case hg => rfl); (case hr => first | (go_simp; done) | (go_simp; rfl)); intro gb183 hg w5 hbox hb; have n0_ := Aside0.mk (below_step (by repeat with_reducible first | exact HB.out | apply ba | apply bn | apply bd) hb); have n1_ := Aside0.mk (hbox); have n2_ := Aside0.mk ((by rw [hg]; exact (below_size (by repeat with_reducible first | exact HB.out | apply ba | apply bn | apply bd)) : w.heap.size ≤ gb183)); have n3_ := n2_; clear HB; have HB := n0_; have BK183 := n1_; have GW183 := n2_; have GE183 := n3_; clear n0_ n1_ n2_ n3_; clear hb hbox hg) | ((with_reducible refine gate_dst (N := 3) rfl ?_); refine box_event ?hg (N := 3) ?hd (cs := #[.int .i64 a1_0, .int .i64 a1_1]) (t := 28) ?hr ?_; (case hd => rfl); (case hg => rfl); (case hr => first | (go_simp; done) | (go_simp; rfl)); intro gb184 hg w6 hbox hb; have n0_ := Aside0.mk (blk_below (pk BK183.out) hb); have n1_ := Aside0.mk (below_step (by repeat with_reducible first | exact HB.out | apply ba | apply bn | apply bd | refine bset ?_ (by assumption)) hb); have n2_ := Aside0.mk (hbox); have n3_ := Aside0.mk ((by rw [hg]; exact (below_size (by repeat with_reducible first | exact HB.out | apply ba | apply bn | apply bd | refine bset ?_ (by assumption))) : w.heap.size ≤ gb184)); have n4_ := n3_; have n5_ := Aside0.mk ((by rw [hg]; exact Nat.ne_of_lt (blk_lt (pk BK183.out)) : gb183 ≠ gb184)); have n6_ := Aside0.mk ((by rw [hg]; exact Nat.ne_of_gt (blk_lt (pk BK183.out)) : gb184 ≠ gb183)); clear BK183; clear HB; have BK183 := n0_; have HB := n1_; have BK184 := n2_; have GW184 := n3_; have GE184 := n4_; have NB183_184 := n5_; have NB184_183 := n6_; clear n0_ n1_ n2_ n3_ n4_ n5_ n6_; clear hb hbox hg) | ((with_reducible refine gate_dst (N := 4) rfl ?_); refine box_event ?hg (N := 4) ?hd (cs := #[.int .i64 0, .int .i64 0]) (t := 28) ?hr ?_; (case hd => rfl); (case hg => rfl); (case hr => first | (go_simp; done) | (go_simp; rfl)); intro gb185 hg w7 hbox hb; have n0_ := Aside0.mk (blk_below (pk BK183.out) hb); have n1_ := Aside0.mk (blk_below (pk BK184.out) hb); have n2_ := Aside0.mk (below_step (by repeat with_reducible first | exact HB.out | apply ba | apply bn | apply bd | refine bset ?_ (by assumption)) hb); have n3_ := Aside0.mk (hbox); have n4_ := Aside0.mk ((by rw [hg]; exact (below_size (by repeat with_reducible first | exact HB.out | apply ba | apply bn | apply bd | refine bset ?_ (by assumption))) : w.heap.size ≤ gb185)); have n5_ := n4_; have n6_ := Aside0.mk ((by rw [hg]; exact Nat.ne_of_lt (blk_lt (pk BK183.out)) : gb183 ≠ gb185)); have n7_ := Aside0.mk ((by rw [hg]; exact Nat.ne_of_gt (blk_lt (pk BK183.out)) : gb185 ≠ gb183)); have n8_ := Aside0.mk ((by rw [hg]; exact Nat.ne_of_lt (blk_lt (pk BK184.out)) : gb184 ≠ gb185)); have n9_ := Aside0.mk ((by rw [hg]; exact Nat.ne_of_gt (blk_lt (pk BK184.out)) : gb185 ≠ gb184)); clear BK183; clear BK184; clear HB; have BK183 := n0_; have BK184 := n1_; have HB := n2_; have BK185 := n3_; have GW185 := n4_; have GE185 := n5_; have NB183_185 := n6_; have NB185_183 := n7_; have NB184_185 := n8_; have NB185_184 := n9_; clear n0_ n1_ n2_ n3_ n4_ n5_ n6_ n7_ n8_ n9_; clear hb hbox hg) | ((with_reducible refine gate_dst (N := 5) rfl ?_); refine box_event ?hg (N := 5) ?hd (cs := #[.int .i64 0, .int .i64 0]) (t := 28) ?hr ?_; (case hd => rfl); (case hg => rfl); (case hr => first | (go_simp; done) | (go_simp; rfl)); intro gb186 hg w8 hbox hb; have n0_ := Aside0.mk (blk_below (pk BK183.out) hb); have n1_ := Aside0.mk (blk_below (pk BK184.out) hb); have n2_ := Aside0.mk (blk_below (pk BK185.out) hb); have n3_ := Aside0.mk (below_step (by repeat with_reducible first | exact HB.out | apply ba | apply bn | apply bd | refine bset ?_ (by assumption)) hb); have n4_ := Aside0.mk (hbox); have n5_ := Aside0.mk ((by rw [hg]; exact (below_size (by repeat with_reducible first | exact HB.out | apply ba | apply bn | apply bd | refine bset ?_ (by assumption))) : w.heap.size ≤ gb186)); have n6_ := n5_; have n7_ := Aside0.mk ((by rw [hg]; exact Nat.ne_of_lt (blk_lt (pk BK183.out)) : gb183 ≠ gb186)); have n8_ := Aside0.mk ((by rw [hg]; exact Nat.ne_of_gt (blk_lt (pk BK183.out)) : gb186 ≠ gb183)); have n9_ := Aside0.mk ((by rw [hg]; exact Nat.ne_of_lt (blk_lt (pk BK184.out)) : gb184 ≠ gb186)); have n10_ := Aside0.mk ((by rw [hg]; exact Nat.ne_of_gt (blk_lt (pk BK184.out)) : gb186 ≠ gb184)); have n11_ := Aside0.mk ((by rw [hg]; exact Nat.ne_of_lt (blk_lt (pk BK185.out)) : gb185 ≠ gb186)); have n12_ := Aside0.mk ((by rw [hg]; exact Nat.ne_of_gt (blk_lt (pk BK185.out)) : gb186 ≠ gb185)); clear BK183; clear BK184; clear BK185; clear HB; have BK183 := n0_; have BK184 := n1_; have BK185 := n2_; have HB := n3_; have BK186 := n4_; have GW186 := n5_; have GE186 := n6_; have NB183_186 := n7_; have NB186_183 := n8_; have NB184_186 := n9_; have NB186_184 := n10_; have NB185_186 := n11_; have NB186_185 := n12_; clear n0_ n1_ n2_ n3_ n4_ n5_ n6_ n7_ n8_ n9_ n10_ n11_ n12_; clear hb hbox hg; have hnb9 := NB184_183.out; have hnc9 := NB183_184.out; have hnb10 := NB184_185.out; have hnc10 := NB185_184.out; have hnb11 := NB184_186.out; have hnc11 := NB186_184.out; have hcz12_0 : w8.cell? ⟨gb184, 0, none⟩ = some (.int .i64 a1_0) := (blk_cell BK184.out 0).trans rfl; have hcz12_1 : w8.cell? ⟨gb184, 1, none⟩ = some (.int .i64 a1_1) := (blk_cell BK184.out 1).trans rfl; have hfz12_0 := blk_frozen BK184.out 0; have hfz12_1 := blk_frozen BK184.out 1; have hnb13 := NB183_185.out; have hnc13 := NB185_183.out; have hnb14 := NB183_186.out; have hnc14 := NB186_183.out; have hcz15_0 : w8.cell? ⟨gb183, 0, none⟩ = some (.int .i64 a0_0) := (blk_cell BK183.out 0).trans rfl; have hcz15_1 : w8.cell? ⟨gb183, 1, none⟩ = some (.int .i64 a0_1) := (blk_cell BK183.out 1).trans rfl; have hfz15_0 := blk_frozen BK183.out 0; have hfz15_1 := blk_frozen BK183.out 1) | ((with_reducible refine gate_callee (f := 42) rfl ?_); refine goesL_ (some 8) rfl rfl Try.func42 (by kernel_rfl) rfl #[.agg #[.int .i64 a1_0, .int .i64 a1_1], .agg #[.int .i64 a0_0, .int .i64 a0_1]] rfl (by first | rfl | (simp only [List.map_toArray, List.map_cons, List.map_nil] <;> rfl)) ?_; (with_reducible refine (foolscapref5_Less.calls a1_0 a1_1 a0_0 a0_1 true _ A3.out).mono ?_); rintro e w16 ⟨rfl, hb⟩; refine ⟨_, rfl, ?_⟩; have n0_ := Aside0.mk (blk_below (pk BK183.out) hb); have n1_ := Aside0.mk (blk_below (pk BK184.out) hb); have n2_ := Aside0.mk (blk_below (pk BK185.out) hb); have n3_ := Aside0.mk (blk_below (pk BK186.out) hb); have n4_ := Aside0.mk (below_step (by repeat with_reducible first | exact HB.out | apply ba | apply bn | apply bd | refine bset ?_ (by assumption)) hb); clear BK183; clear BK184; clear BK185; clear BK186; clear HB; have BK183 := n0_; have BK184 := n1_; have BK185 := n2_; have BK186 := n3_; have HB := n4_; clear n0_ n1_ n2_ n3_ n4_; (try clear hb); (try clear hb2); (try clear hk); (try clear hi)))
  have n0_ := Aside0.mk (blk_drew BK183.out)
  have n1_ := Aside0.mk (blk_drew BK184.out)
  have n2_ := Aside0.mk (blk_drew BK185.out)
  have n3_ := Aside0.mk (blk_drew BK186.out)
  have n4_ := Aside0.mk (below_drew1 HB.out)
  clear BK183
  clear BK184
  clear BK185
  clear BK186
  clear HB
  have BK183 := n0_
  have BK184 := n1_
  have BK185 := n2_
  have BK186 := n3_
  have HB := n4_
  clear n0_ n1_ n2_ n3_ n4_
  refine start_ (n := 4) (S := fun w' => w'.cell? ⟨gb184, 0, none⟩ = some (.int .i64 a1_0) ∧ w'.cell? ⟨gb184, 1, none⟩ = some (.int .i64 a1_1) ∧ w'.cell? ⟨gb183, 0, none⟩ = some (.int .i64 a0_0) ∧ w'.cell? ⟨gb183, 1, none⟩ = some (.int .i64 a0_1)) (ds := []) #[false, false, false, false] (by kernel_rfl) rfl rfl ⟨(blk_cell BK184.out 0).trans rfl, (blk_cell BK184.out 1).trans rfl, (blk_cell BK183.out 0).trans rfl, (blk_cell BK183.out 1).trans rfl⟩ (fun hHeld => ?_)
  generalize w16.drew = w17 at BK183 BK184 BK185 BK186 HB hHeld ⊢
  refine take_ (i := 0) (N := some 9) (v := ?_) (a' := ?_) #[true, false, false, false] rfl rfl (by kernel_rfl) (fun _ _ _ h => h) (Or.inl ⟨by rfl, ?_⟩) hHeld ?_ ?_
  rotate_left
  ·rintro w' ⟨s0, s1, s2, s3⟩
   go_simp
   with_reducible rfl
  rotate_left
  ·simp only [Act.put, List.setIfInBounds_toArray, List.set_cons_zero, List.set_cons_succ, i64_w, i32_w]
   rfl
  refine take_ (i := 1) (N := some 10) (v := ?_) (a' := ?_) #[true, true, false, false] rfl rfl (by kernel_rfl) (fun _ _ _ h => h) (Or.inl ⟨by rfl, ?_⟩) hHeld ?_ ?_
  rotate_left
  ·rintro w' ⟨s0, s1, s2, s3⟩
   go_simp
   with_reducible rfl
  rotate_left
  ·simp only [Act.put, List.setIfInBounds_toArray, List.set_cons_zero, List.set_cons_succ, i64_w, i32_w]
   rfl
  refine one_ (i := 2) (N := none) #[true, true, true, false] rfl rfl (by kernel_rfl) (by decide) (fun K hK => ?_)
  have hs18 : w17.cell? ⟨gb185, 0, none⟩ = some (.int .i64 0) := (blk_cell BK185.out 0).trans rfl
  have hfs18 := blk_frozen BK185.out 0
  have hns18_0 := NB183_185.out
  have hns18_1 := NB184_185.out
  have hns18_3 := NB186_185.out
  have hms18_0 := NB185_183.out
  have hms18_1 := NB185_184.out
  have hms18_3 := NB185_186.out
  have hs19 : w17.cell? ⟨gb185, 1, none⟩ = some (.int .i64 0) := (blk_cell BK185.out 1).trans rfl
  have hfs19 := blk_frozen BK185.out 1
  have hns19_0 := NB183_185.out
  have hns19_1 := NB184_185.out
  have hns19_3 := NB186_185.out
  have hms19_0 := NB185_183.out
  have hms19_1 := NB185_184.out
  have hms19_3 := NB185_186.out
  refine skip_ (w1 := ?_) (by rfl) rfl ?_ ?_
  rotate_left
  ·go_simp
   rfl
  refine hK.out _ _ ⟨((cell_far (p := ⟨gb185, _, none⟩) NB184_185.out _).trans (((cell_far (p := ⟨gb185, _, none⟩) NB184_185.out _).trans (hHeld.1)))), ((cell_far (p := ⟨gb185, _, none⟩) NB184_185.out _).trans (((cell_far (p := ⟨gb185, _, none⟩) NB184_185.out _).trans (hHeld.2.1)))), ((cell_far (p := ⟨gb185, _, none⟩) NB183_185.out _).trans (((cell_far (p := ⟨gb185, _, none⟩) NB183_185.out _).trans (hHeld.2.2.1)))), ((cell_far (p := ⟨gb185, _, none⟩) NB183_185.out _).trans (((cell_far (p := ⟨gb185, _, none⟩) NB183_185.out _).trans (hHeld.2.2.2))))⟩ (fun hHeld => ?_)
  clear hK K
  refine one_ (i := 3) (N := none) #[true, true, true, true] rfl rfl (by kernel_rfl) (by decide) (fun K hK => ?_)
  have hs20 : w17.cell? ⟨gb186, 0, none⟩ = some (.int .i64 0) := (blk_cell BK186.out 0).trans rfl
  have hfs20 := blk_frozen BK186.out 0
  have hns20_0 := NB183_186.out
  have hns20_1 := NB184_186.out
  have hns20_2 := NB185_186.out
  have hms20_0 := NB186_183.out
  have hms20_1 := NB186_184.out
  have hms20_2 := NB186_185.out
  have hs21 : w17.cell? ⟨gb186, 1, none⟩ = some (.int .i64 0) := (blk_cell BK186.out 1).trans rfl
  have hfs21 := blk_frozen BK186.out 1
  have hns21_0 := NB183_186.out
  have hns21_1 := NB184_186.out
  have hns21_2 := NB185_186.out
  have hms21_0 := NB186_183.out
  have hms21_1 := NB186_184.out
  have hms21_2 := NB186_185.out
  refine skip_ (w1 := ?_) (by rfl) rfl ?_ ?_
  rotate_left
  ·go_simp
   rfl
  refine hK.out _ _ ⟨((cell_far (p := ⟨gb186, _, none⟩) NB184_186.out _).trans (((cell_far (p := ⟨gb186, _, none⟩) NB184_186.out _).trans (hHeld.1)))), ((cell_far (p := ⟨gb186, _, none⟩) NB184_186.out _).trans (((cell_far (p := ⟨gb186, _, none⟩) NB184_186.out _).trans (hHeld.2.1)))), ((cell_far (p := ⟨gb186, _, none⟩) NB183_186.out _).trans (((cell_far (p := ⟨gb186, _, none⟩) NB183_186.out _).trans (hHeld.2.2.1)))), ((cell_far (p := ⟨gb186, _, none⟩) NB183_186.out _).trans (((cell_far (p := ⟨gb186, _, none⟩) NB183_186.out _).trans (hHeld.2.2.2))))⟩ (fun hHeld => ?_)
  clear hK K
  refine done_ (by kernel_rfl) ?_
  try go_wp2
  refine bodyPost_ret (results_cc rfl _ _ gb185 gb186 28 28 #[.int .i64 a1_0, .int .i64 a1_1] #[.int .i64 a0_0, .int .i64 a0_1] (0, 0) (0, 0) _ _ rfl (by refine pk ?_; refine blk_far ?_ NB185_186.out _; refine pk ?_; refine blk_far ?_ NB185_186.out _; refine pk ?_; refine blk_put (cs := #[.int .i64 a1_0, .int .i64 0]) ?_ 1 _ rfl; refine pk ?_; refine blk_put (cs := #[.int .i64 0, .int .i64 0]) ?_ 0 _ rfl; exact pk BK185.out) Try.underlying28 rfl (by kernel_rfl) rfl (by refine pk ?_; refine blk_put (cs := #[.int .i64 a0_0, .int .i64 0]) ?_ 1 _ rfl; refine pk ?_; refine blk_put (cs := #[.int .i64 0, .int .i64 0]) ?_ 0 _ rfl; refine pk ?_; refine blk_far ?_ NB186_185.out _; refine pk ?_; refine blk_far ?_ NB186_185.out _; exact pk BK186.out) Try.underlying28 rfl (by kernel_rfl)) rfl ?_
  exact ⟨by first | rfl | (simp [errW_none, errW_some] <;> rfl) | (simp [*, errW_none, errW_some] <;> rfl), by repeat with_reducible first | exact HB.out | apply ba | apply bn | apply bd | refine bset ?_ (by assumption)⟩
 ·replace c4 := Bool.eq_false_iff.mpr c4
  subst c4
  have H1 : (some (a0_0, a0_1, a1_0, a1_1)) = some (r1, r2, r3, r4) := by rw [if_neg (show ¬ (false = true) by decide)] at H; exact H
  clear H
  have H := H1
  clear H1
  simp only [Option.some.injEq, Prod.mk.injEq] at H
  obtain ⟨rfl, rfl, rfl, rfl⟩ := H
  go_enter Try.func40, Try.ntmps40
  try go_wp2_with (first | ((with_reducible refine gate_dst (N := 2) rfl ?_); refine box_event ?hg (N := 2) ?hd (cs := #[.int .i64 a0_0, .int .i64 a0_1]) (t := 28) ?hr ?_; (case hd => rfl); (case hg => rfl); (case hr => first | (go_simp; done) | (go_simp; rfl)); intro gb183 hg w22 hbox hb; have n0_ := Aside0.mk (below_step (by repeat with_reducible first | exact HB.out | apply ba | apply bn | apply bd) hb); have n1_ := Aside0.mk (hbox); have n2_ := Aside0.mk ((by rw [hg]; exact (below_size (by repeat with_reducible first | exact HB.out | apply ba | apply bn | apply bd)) : w.heap.size ≤ gb183)); have n3_ := n2_; clear HB; have HB := n0_; have BK183 := n1_; have GW183 := n2_; have GE183 := n3_; clear n0_ n1_ n2_ n3_; clear hb hbox hg) | ((with_reducible refine gate_dst (N := 3) rfl ?_); refine box_event ?hg (N := 3) ?hd (cs := #[.int .i64 a1_0, .int .i64 a1_1]) (t := 28) ?hr ?_; (case hd => rfl); (case hg => rfl); (case hr => first | (go_simp; done) | (go_simp; rfl)); intro gb184 hg w23 hbox hb; have n0_ := Aside0.mk (blk_below (pk BK183.out) hb); have n1_ := Aside0.mk (below_step (by repeat with_reducible first | exact HB.out | apply ba | apply bn | apply bd | refine bset ?_ (by assumption)) hb); have n2_ := Aside0.mk (hbox); have n3_ := Aside0.mk ((by rw [hg]; exact (below_size (by repeat with_reducible first | exact HB.out | apply ba | apply bn | apply bd | refine bset ?_ (by assumption))) : w.heap.size ≤ gb184)); have n4_ := n3_; have n5_ := Aside0.mk ((by rw [hg]; exact Nat.ne_of_lt (blk_lt (pk BK183.out)) : gb183 ≠ gb184)); have n6_ := Aside0.mk ((by rw [hg]; exact Nat.ne_of_gt (blk_lt (pk BK183.out)) : gb184 ≠ gb183)); clear BK183; clear HB; have BK183 := n0_; have HB := n1_; have BK184 := n2_; have GW184 := n3_; have GE184 := n4_; have NB183_184 := n5_; have NB184_183 := n6_; clear n0_ n1_ n2_ n3_ n4_ n5_ n6_; clear hb hbox hg) | ((with_reducible refine gate_dst (N := 4) rfl ?_); refine box_event ?hg (N := 4) ?hd (cs := #[.int .i64 0, .int .i64 0]) (t := 28) ?hr ?_; (case hd => rfl); (case hg => rfl); (case hr => first | (go_simp; done) | (go_simp; rfl)); intro gb185 hg w24 hbox hb; have n0_ := Aside0.mk (blk_below (pk BK183.out) hb); have n1_ := Aside0.mk (blk_below (pk BK184.out) hb); have n2_ := Aside0.mk (below_step (by repeat with_reducible first | exact HB.out | apply ba | apply bn | apply bd | refine bset ?_ (by assumption)) hb); have n3_ := Aside0.mk (hbox); have n4_ := Aside0.mk ((by rw [hg]; exact (below_size (by repeat with_reducible first | exact HB.out | apply ba | apply bn | apply bd | refine bset ?_ (by assumption))) : w.heap.size ≤ gb185)); have n5_ := n4_; have n6_ := Aside0.mk ((by rw [hg]; exact Nat.ne_of_lt (blk_lt (pk BK183.out)) : gb183 ≠ gb185)); have n7_ := Aside0.mk ((by rw [hg]; exact Nat.ne_of_gt (blk_lt (pk BK183.out)) : gb185 ≠ gb183)); have n8_ := Aside0.mk ((by rw [hg]; exact Nat.ne_of_lt (blk_lt (pk BK184.out)) : gb184 ≠ gb185)); have n9_ := Aside0.mk ((by rw [hg]; exact Nat.ne_of_gt (blk_lt (pk BK184.out)) : gb185 ≠ gb184)); clear BK183; clear BK184; clear HB; have BK183 := n0_; have BK184 := n1_; have HB := n2_; have BK185 := n3_; have GW185 := n4_; have GE185 := n5_; have NB183_185 := n6_; have NB185_183 := n7_; have NB184_185 := n8_; have NB185_184 := n9_; clear n0_ n1_ n2_ n3_ n4_ n5_ n6_ n7_ n8_ n9_; clear hb hbox hg) | ((with_reducible refine gate_dst (N := 5) rfl ?_); refine box_event ?hg (N := 5) ?hd (cs := #[.int .i64 0, .int .i64 0]) (t := 28) ?hr ?_; (case hd => rfl); (case hg => rfl); (case hr => first | (go_simp; done) | (go_simp; rfl)); intro gb186 hg w25 hbox hb; have n0_ := Aside0.mk (blk_below (pk BK183.out) hb); have n1_ := Aside0.mk (blk_below (pk BK184.out) hb); have n2_ := Aside0.mk (blk_below (pk BK185.out) hb); have n3_ := Aside0.mk (below_step (by repeat with_reducible first | exact HB.out | apply ba | apply bn | apply bd | refine bset ?_ (by assumption)) hb); have n4_ := Aside0.mk (hbox); have n5_ := Aside0.mk ((by rw [hg]; exact (below_size (by repeat with_reducible first | exact HB.out | apply ba | apply bn | apply bd | refine bset ?_ (by assumption))) : w.heap.size ≤ gb186)); have n6_ := n5_; have n7_ := Aside0.mk ((by rw [hg]; exact Nat.ne_of_lt (blk_lt (pk BK183.out)) : gb183 ≠ gb186)); have n8_ := Aside0.mk ((by rw [hg]; exact Nat.ne_of_gt (blk_lt (pk BK183.out)) : gb186 ≠ gb183)); have n9_ := Aside0.mk ((by rw [hg]; exact Nat.ne_of_lt (blk_lt (pk BK184.out)) : gb184 ≠ gb186)); have n10_ := Aside0.mk ((by rw [hg]; exact Nat.ne_of_gt (blk_lt (pk BK184.out)) : gb186 ≠ gb184)); have n11_ := Aside0.mk ((by rw [hg]; exact Nat.ne_of_lt (blk_lt (pk BK185.out)) : gb185 ≠ gb186)); have n12_ := Aside0.mk ((by rw [hg]; exact Nat.ne_of_gt (blk_lt (pk BK185.out)) : gb186 ≠ gb185)); clear BK183; clear BK184; clear BK185; clear HB; have BK183 := n0_; have BK184 := n1_; have BK185 := n2_; have HB := n3_; have BK186 := n4_; have GW186 := n5_; have GE186 := n6_; have NB183_186 := n7_; have NB186_183 := n8_; have NB184_186 := n9_; have NB186_184 := n10_; have NB185_186 := n11_; have NB186_185 := n12_; clear n0_ n1_ n2_ n3_ n4_ n5_ n6_ n7_ n8_ n9_ n10_ n11_ n12_; clear hb hbox hg; have hnb26 := NB184_183.out; have hnc26 := NB183_184.out; have hnb27 := NB184_185.out; have hnc27 := NB185_184.out; have hnb28 := NB184_186.out; have hnc28 := NB186_184.out; have hcz29_0 : w25.cell? ⟨gb184, 0, none⟩ = some (.int .i64 a1_0) := (blk_cell BK184.out 0).trans rfl; have hcz29_1 : w25.cell? ⟨gb184, 1, none⟩ = some (.int .i64 a1_1) := (blk_cell BK184.out 1).trans rfl; have hfz29_0 := blk_frozen BK184.out 0; have hfz29_1 := blk_frozen BK184.out 1; have hnb30 := NB183_185.out; have hnc30 := NB185_183.out; have hnb31 := NB183_186.out; have hnc31 := NB186_183.out; have hcz32_0 : w25.cell? ⟨gb183, 0, none⟩ = some (.int .i64 a0_0) := (blk_cell BK183.out 0).trans rfl; have hcz32_1 : w25.cell? ⟨gb183, 1, none⟩ = some (.int .i64 a0_1) := (blk_cell BK183.out 1).trans rfl; have hfz32_0 := blk_frozen BK183.out 0; have hfz32_1 := blk_frozen BK183.out 1) | ((with_reducible refine gate_callee (f := 42) rfl ?_); refine goesL_ (some 8) rfl rfl Try.func42 (by kernel_rfl) rfl #[.agg #[.int .i64 a1_0, .int .i64 a1_1], .agg #[.int .i64 a0_0, .int .i64 a0_1]] rfl (by first | rfl | (simp only [List.map_toArray, List.map_cons, List.map_nil] <;> rfl)) ?_; (with_reducible refine (foolscapref5_Less.calls a1_0 a1_1 a0_0 a0_1 false _ A3.out).mono ?_); rintro e w33 ⟨rfl, hb⟩; refine ⟨_, rfl, ?_⟩; have n0_ := Aside0.mk (blk_below (pk BK183.out) hb); have n1_ := Aside0.mk (blk_below (pk BK184.out) hb); have n2_ := Aside0.mk (blk_below (pk BK185.out) hb); have n3_ := Aside0.mk (blk_below (pk BK186.out) hb); have n4_ := Aside0.mk (below_step (by repeat with_reducible first | exact HB.out | apply ba | apply bn | apply bd | refine bset ?_ (by assumption)) hb); clear BK183; clear BK184; clear BK185; clear BK186; clear HB; have BK183 := n0_; have BK184 := n1_; have BK185 := n2_; have BK186 := n3_; have HB := n4_; clear n0_ n1_ n2_ n3_ n4_; (try clear hb); (try clear hb2); (try clear hk); (try clear hi)))
  have n0_ := Aside0.mk (blk_drew BK183.out)
  have n1_ := Aside0.mk (blk_drew BK184.out)
  have n2_ := Aside0.mk (blk_drew BK185.out)
  have n3_ := Aside0.mk (blk_drew BK186.out)
  have n4_ := Aside0.mk (below_drew1 HB.out)
  clear BK183
  clear BK184
  clear BK185
  clear BK186
  clear HB
  have BK183 := n0_
  have BK184 := n1_
  have BK185 := n2_
  have BK186 := n3_
  have HB := n4_
  clear n0_ n1_ n2_ n3_ n4_
  refine start_ (n := 4) (S := fun w' => w'.cell? ⟨gb183, 0, none⟩ = some (.int .i64 a0_0) ∧ w'.cell? ⟨gb183, 1, none⟩ = some (.int .i64 a0_1) ∧ w'.cell? ⟨gb184, 0, none⟩ = some (.int .i64 a1_0) ∧ w'.cell? ⟨gb184, 1, none⟩ = some (.int .i64 a1_1)) (ds := []) #[false, false, false, false] (by kernel_rfl) rfl rfl ⟨(blk_cell BK183.out 0).trans rfl, (blk_cell BK183.out 1).trans rfl, (blk_cell BK184.out 0).trans rfl, (blk_cell BK184.out 1).trans rfl⟩ (fun hHeld => ?_)
  generalize w33.drew = w34 at BK183 BK184 BK185 BK186 HB hHeld ⊢
  refine take_ (i := 0) (N := some 11) (v := ?_) (a' := ?_) #[true, false, false, false] rfl rfl (by kernel_rfl) (fun _ _ _ h => h) (Or.inl ⟨by rfl, ?_⟩) hHeld ?_ ?_
  rotate_left
  ·rintro w' ⟨s0, s1, s2, s3⟩
   go_simp
   with_reducible rfl
  rotate_left
  ·simp only [Act.put, List.setIfInBounds_toArray, List.set_cons_zero, List.set_cons_succ, i64_w, i32_w]
   rfl
  refine take_ (i := 1) (N := some 12) (v := ?_) (a' := ?_) #[true, true, false, false] rfl rfl (by kernel_rfl) (fun _ _ _ h => h) (Or.inl ⟨by rfl, ?_⟩) hHeld ?_ ?_
  rotate_left
  ·rintro w' ⟨s0, s1, s2, s3⟩
   go_simp
   with_reducible rfl
  rotate_left
  ·simp only [Act.put, List.setIfInBounds_toArray, List.set_cons_zero, List.set_cons_succ, i64_w, i32_w]
   rfl
  refine one_ (i := 2) (N := none) #[true, true, true, false] rfl rfl (by kernel_rfl) (by decide) (fun K hK => ?_)
  have hs35 : w34.cell? ⟨gb185, 0, none⟩ = some (.int .i64 0) := (blk_cell BK185.out 0).trans rfl
  have hfs35 := blk_frozen BK185.out 0
  have hns35_0 := NB183_185.out
  have hns35_1 := NB184_185.out
  have hns35_3 := NB186_185.out
  have hms35_0 := NB185_183.out
  have hms35_1 := NB185_184.out
  have hms35_3 := NB185_186.out
  have hs36 : w34.cell? ⟨gb185, 1, none⟩ = some (.int .i64 0) := (blk_cell BK185.out 1).trans rfl
  have hfs36 := blk_frozen BK185.out 1
  have hns36_0 := NB183_185.out
  have hns36_1 := NB184_185.out
  have hns36_3 := NB186_185.out
  have hms36_0 := NB185_183.out
  have hms36_1 := NB185_184.out
  have hms36_3 := NB185_186.out
  refine skip_ (w1 := ?_) (by rfl) rfl ?_ ?_
  rotate_left
  ·go_simp
   rfl
  refine hK.out _ _ ⟨((cell_far (p := ⟨gb185, _, none⟩) NB183_185.out _).trans (((cell_far (p := ⟨gb185, _, none⟩) NB183_185.out _).trans (hHeld.1)))), ((cell_far (p := ⟨gb185, _, none⟩) NB183_185.out _).trans (((cell_far (p := ⟨gb185, _, none⟩) NB183_185.out _).trans (hHeld.2.1)))), ((cell_far (p := ⟨gb185, _, none⟩) NB184_185.out _).trans (((cell_far (p := ⟨gb185, _, none⟩) NB184_185.out _).trans (hHeld.2.2.1)))), ((cell_far (p := ⟨gb185, _, none⟩) NB184_185.out _).trans (((cell_far (p := ⟨gb185, _, none⟩) NB184_185.out _).trans (hHeld.2.2.2))))⟩ (fun hHeld => ?_)
  clear hK K
  refine one_ (i := 3) (N := none) #[true, true, true, true] rfl rfl (by kernel_rfl) (by decide) (fun K hK => ?_)
  have hs37 : w34.cell? ⟨gb186, 0, none⟩ = some (.int .i64 0) := (blk_cell BK186.out 0).trans rfl
  have hfs37 := blk_frozen BK186.out 0
  have hns37_0 := NB183_186.out
  have hns37_1 := NB184_186.out
  have hns37_2 := NB185_186.out
  have hms37_0 := NB186_183.out
  have hms37_1 := NB186_184.out
  have hms37_2 := NB186_185.out
  have hs38 : w34.cell? ⟨gb186, 1, none⟩ = some (.int .i64 0) := (blk_cell BK186.out 1).trans rfl
  have hfs38 := blk_frozen BK186.out 1
  have hns38_0 := NB183_186.out
  have hns38_1 := NB184_186.out
  have hns38_2 := NB185_186.out
  have hms38_0 := NB186_183.out
  have hms38_1 := NB186_184.out
  have hms38_2 := NB186_185.out
  refine skip_ (w1 := ?_) (by rfl) rfl ?_ ?_
  rotate_left
  ·go_simp
   rfl
  refine hK.out _ _ ⟨((cell_far (p := ⟨gb186, _, none⟩) NB183_186.out _).trans (((cell_far (p := ⟨gb186, _, none⟩) NB183_186.out _).trans (hHeld.1)))), ((cell_far (p := ⟨gb186, _, none⟩) NB183_186.out _).trans (((cell_far (p := ⟨gb186, _, none⟩) NB183_186.out _).trans (hHeld.2.1)))), ((cell_far (p := ⟨gb186, _, none⟩) NB184_186.out _).trans (((cell_far (p := ⟨gb186, _, none⟩) NB184_186.out _).trans (hHeld.2.2.1)))), ((cell_far (p := ⟨gb186, _, none⟩) NB184_186.out _).trans (((cell_far (p := ⟨gb186, _, none⟩) NB184_186.out _).trans (hHeld.2.2.2))))⟩ (fun hHeld => ?_)
  clear hK K
  refine done_ (by kernel_rfl) ?_
  try go_wp2
  refine bodyPost_ret (results_cc rfl _ _ gb185 gb186 28 28 #[.int .i64 a0_0, .int .i64 a0_1] #[.int .i64 a1_0, .int .i64 a1_1] (0, 0) (0, 0) _ _ rfl (by refine pk ?_; refine blk_far ?_ NB185_186.out _; refine pk ?_; refine blk_far ?_ NB185_186.out _; refine pk ?_; refine blk_put (cs := #[.int .i64 a0_0, .int .i64 0]) ?_ 1 _ rfl; refine pk ?_; refine blk_put (cs := #[.int .i64 0, .int .i64 0]) ?_ 0 _ rfl; exact pk BK185.out) Try.underlying28 rfl (by kernel_rfl) rfl (by refine pk ?_; refine blk_put (cs := #[.int .i64 a1_0, .int .i64 0]) ?_ 1 _ rfl; refine pk ?_; refine blk_put (cs := #[.int .i64 0, .int .i64 0]) ?_ 0 _ rfl; refine pk ?_; refine blk_far ?_ NB186_185.out _; refine pk ?_; refine blk_far ?_ NB186_185.out _; exact pk BK186.out) Try.underlying28 rfl (by kernel_rfl)) rfl ?_
  exact ⟨by first | rfl | (simp [errW_none, errW_some] <;> rfl) | (simp [*, errW_none, errW_some] <;> rfl), by repeat with_reducible first | exact HB.out | apply ba | apply bn | apply bd | refine bset ?_ (by assumption)⟩

/-! ### foolscapref25_whole: function 41 -/
def foolscapref25_whole.f (a0 : Int) (a1 : Int) : Option (Int × Int × Int × Int × Int) := some (1, a0, 0, a1, 0)
set_option maxHeartbeats 8000000 in
set_option maxRecDepth 100000 in
theorem foolscapref25_whole.calls (a0 : Int) (a1 : Int) (r1 : Int) (r2 : Int) (r3 : Int) (r4 : Int) (r5 : Int) (w : World) (h : foolscapref25_whole.f a0 a1 = some (r1, r2, r3, r4, r5)) :
  Calls Try.prog 41 #[.int .i64 a0, .int .i64 a1] w fun e w' => e = .returned (.agg #[.int .i64 r1, .int .i64 r2, .int .i64 r3, .int .i64 r4, .int .i64 r5]) ∧ Below w.heap.size w w' := by
 have hu43 := Try.underlying43
 have hu28 := Try.underlying28
 have HB := Aside0.mk (Below.refl w.heap.size w)
 have H : (some (1, a0, 0, a1, 0)) = some (r1, r2, r3, r4, r5) := h
 clear h
 simp only [Option.some.injEq, Prod.mk.injEq] at H
 obtain ⟨rfl, rfl, rfl, rfl, rfl⟩ := H
 go_enter Try.func41, Try.ntmps41
 go_wp2_with (first | ((with_reducible refine gate_dst (N := 4) rfl ?_); refine box_event ?hg (N := 4) ?hd (cs := #[.int .i64 0, .int .i64 0, .int .i64 0, .int .i64 0, .int .i64 0]) (t := 43) ?hr ?_; (case hd => rfl); (case hg => rfl); (case hr => first | (go_simp; done) | (go_simp; rfl)); intro gb188 hg w3 hbox hb; have n0_ := Aside0.mk (below_step (by repeat with_reducible first | exact HB.out | apply ba | apply bn | apply bd) hb); have n1_ := Aside0.mk (hbox); have n2_ := Aside0.mk ((by rw [hg]; exact (below_size (by repeat with_reducible first | exact HB.out | apply ba | apply bn | apply bd)) : w.heap.size ≤ gb188)); have n3_ := n2_; clear HB; have HB := n0_; have BK188 := n1_; have GW188 := n2_; have GE188 := n3_; clear n0_ n1_ n2_ n3_; clear hb hbox hg; have hcz4_0 : w3.cell? ⟨gb188, 0, none⟩ = some (.int .i64 0) := (blk_cell BK188.out 0).trans rfl; have hcz4_1 : w3.cell? ⟨gb188, 1, none⟩ = some (.int .i64 0) := (blk_cell BK188.out 1).trans rfl; have hcz4_2 : w3.cell? ⟨gb188, 2, none⟩ = some (.int .i64 0) := (blk_cell BK188.out 2).trans rfl; have hcz4_3 : w3.cell? ⟨gb188, 3, none⟩ = some (.int .i64 0) := (blk_cell BK188.out 3).trans rfl; have hcz4_4 : w3.cell? ⟨gb188, 4, none⟩ = some (.int .i64 0) := (blk_cell BK188.out 4).trans rfl; have hfz4_0 := blk_frozen BK188.out 0; have hfz4_1 := blk_frozen BK188.out 1; have hfz4_2 := blk_frozen BK188.out 2; have hfz4_3 := blk_frozen BK188.out 3; have hfz4_4 := blk_frozen BK188.out 4))
 refine bodyPost_ret (results_cell_row rfl _ _ gb188 43 #[.int .i64 1, .int .i64 a0, .int .i64 0, .int .i64 a1, .int .i64 0] (0, 0) _ rfl (by refine pk ?_; refine blk_put (cs := #[.int .i64 1, .int .i64 a0, .int .i64 0, .int .i64 a1, .int .i64 0]) ?_ 4 _ rfl; refine pk ?_; refine blk_put (cs := #[.int .i64 1, .int .i64 a0, .int .i64 0, .int .i64 0, .int .i64 0]) ?_ 3 _ rfl; refine pk ?_; refine blk_put (cs := #[.int .i64 1, .int .i64 a0, .int .i64 0, .int .i64 0, .int .i64 0]) ?_ 2 _ rfl; refine pk ?_; refine blk_put (cs := #[.int .i64 1, .int .i64 0, .int .i64 0, .int .i64 0, .int .i64 0]) ?_ 1 _ rfl; refine pk ?_; refine blk_put (cs := #[.int .i64 0, .int .i64 0, .int .i64 0, .int .i64 0, .int .i64 0]) ?_ 0 _ rfl; exact pk BK188.out) Try.underlying43 rfl (by kernel_rfl)) rfl ?_
 exact ⟨by first | rfl | (simp [errW_none, errW_some] <;> rfl) | (simp [*, errW_none, errW_some] <;> rfl), by repeat with_reducible first | exact HB.out | apply ba | apply bn | apply bd | refine bset ?_ (by assumption)⟩

end Go.Proofs.Ytdcbgmeljakmcaa.MAreaOf
