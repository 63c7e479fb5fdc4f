-- PRINTED BY print.sh 35421559b90ae4d0a3588c463048766b98c2df88dd9212a6774a882060cdf62d: not written by this session
import Derived.Test.YtdcbgmeljakmcaaPClassInsidex0
import Derived.Test.YtdcbgmeljakmcaaPClassInsidex2
import Derived.Test.YtdcbgmeljakmcaaPClassInsidex3
namespace Go.Proofs.Ytdcbgmeljakmcaa.PClassInside
open Go.RowKit Go.Proofs.YtdcbgmeljakmcaaW.PrintWords Go.Proofs.YtdcbgmeljakmcaaW.PrintLast Go.Proofs.YtdcbgmeljakmcaaW.PrintMore
attribute [local go_sem] max2_int min2_int max_two min_two max_three min_three max_four min_four   -- for this text's walks alone
set_option linter.unusedVariables false
set_option linter.unusedSimpArgs false

/-! ### foolscaplaw5_ClassInside: function 7 -/
def foolscaplaw5_ClassInside.j0 : Nat → List ByteArray → Int → Int → Int → Bool → Int → Int → Int → Int → Option (Bool)
  | 0, _, _, _, _, _, _, _, _, _ => none
  | k + 1, x0, x1, x2, x9, x59, x139000, x139001, x142000, x142001 => if x59 = true then (some false) else (if x1 ≥ 0 then (if x1 < (x0.length : Int) then (if x139000 = x1 then (if x2 ≥ 0 then (if x2 ≤ x9 then (if x139001 = x2 then (some (x142001 == (mn x2 (mx (wrap64 (x9 - 1)) 0)))) else (some false)) else (some true)) else (some true)) else (some false)) else (if x2 ≥ 0 then (if x2 ≤ x9 then (if x139001 = x2 then (some (x142001 == (mn x2 (mx (wrap64 (x9 - 1)) 0)))) else (some false)) else (some true)) else (some true))) else (if x2 ≥ 0 then (if x2 ≤ x9 then (if x139001 = x2 then (some (x142001 == (mn x2 (mx (wrap64 (x9 - 1)) 0)))) else (some false)) else (some true)) else (some true)))
def foolscaplaw5_ClassInside.f (k : Nat) (l0 : List ByteArray) (a1 : Int) (a2 : Int) : Option (Bool) := (foolscaplaw5_known.f k).bind fun t134 => (if t134 = true then ((foolscaphelp_Text.f k l0).bind fun t135 => (if t135 = true then ((class_Clamp.f l0 a1 a2 true).bind fun bt136 => ((class_Clamp.f l0 a1 a2 false).bind fun bt139 => (if 0 ≤ bt136.1 then (if bt136.1 < (l0.length : Int) then (if bt136.1 = bt139.1 then (if bt136.2 > ((rdOf ByteArray.empty l0 bt136.1).size : Int) then (foolscaplaw5_ClassInside.j0 k l0 a1 a2 ((rdOf ByteArray.empty l0 bt136.1).size : Int) true bt136.1 bt136.2 bt139.1 bt139.2) else (if bt139.2 > (mx (wrap64 (((rdOf ByteArray.empty l0 bt136.1).size : Int) - 1)) 0) then (foolscaplaw5_ClassInside.j0 k l0 a1 a2 ((rdOf ByteArray.empty l0 bt136.1).size : Int) true bt136.1 bt136.2 bt139.1 bt139.2) else (if bt136.2 < 0 then (foolscaplaw5_ClassInside.j0 k l0 a1 a2 ((rdOf ByteArray.empty l0 bt136.1).size : Int) true bt136.1 bt136.2 bt139.1 bt139.2) else (foolscaplaw5_ClassInside.j0 k l0 a1 a2 ((rdOf ByteArray.empty l0 bt136.1).size : Int) (decide (bt139.2 < 0)) bt136.1 bt136.2 bt139.1 bt139.2)))) else (foolscaplaw5_ClassInside.j0 k l0 a1 a2 ((rdOf ByteArray.empty l0 bt136.1).size : Int) true bt136.1 bt136.2 bt139.1 bt139.2)) else (none)) else (none)))) else (some true))) else (some false))
theorem foolscaplaw5_ClassInside.mono_l : ∀ k, (∀ y0 y1 y2 y3 y4 y5 y6 y7 y8, LeO (foolscaplaw5_ClassInside.j0 k y0 y1 y2 y3 y4 y5 y6 y7 y8) (foolscaplaw5_ClassInside.j0 (k + 1) y0 y1 y2 y3 y4 y5 y6 y7 y8))
  | 0 => fun _ _ _ _ _ _ _ _ _ r h => by simp [foolscaplaw5_ClassInside.j0] at h
  | k + 1 => by
    have ih0 := foolscaplaw5_ClassInside.mono_l k
    · intro y0 y1 y2 y3 y4 y5 y6 y7 y8
      unfold foolscaplaw5_ClassInside.j0
      repeat' first
      | (with_reducible exact ih0 _ _ _ _ _ _ _ _ _)
      | (with_reducible exact foolscaphelp_Text.mono _ _)
      | (with_reducible exact foolscaplaw5_known.mono _)
      | (with_reducible exact LeO.refl _)
      | (with_reducible exact LeO.none _)
      | (with_reducible refine LeO.ite ?_ ?_)
      | (with_reducible refine LeO.bind ?_ (fun _ => ?_))
      | exact ih0 _ _ _ _ _ _ _ _ _
      | exact foolscaphelp_Text.mono _ _
      | exact foolscaplaw5_known.mono _
      | exact LeO.none _
      | refine LeO.ite ?_ ?_
      | refine LeO.bind ?_ (fun _ => ?_)
theorem foolscaplaw5_ClassInside.mono : ∀ a0 a1 a2 k, LeO (foolscaplaw5_ClassInside.f k a0 a1 a2) (foolscaplaw5_ClassInside.f (k + 1) a0 a1 a2) := by
  intro a0 a1 a2 k
  have ih0 := foolscaplaw5_ClassInside.mono_l k
  unfold foolscaplaw5_ClassInside.f
  repeat' first
      | (with_reducible exact ih0 _ _ _ _ _ _ _ _ _)
      | (with_reducible exact foolscaphelp_Text.mono _ _)
      | (with_reducible exact foolscaplaw5_known.mono _)
      | (with_reducible exact LeO.refl _)
      | (with_reducible exact LeO.none _)
      | (with_reducible refine LeO.ite ?_ ?_)
      | (with_reducible refine LeO.bind ?_ (fun _ => ?_))
      | exact ih0 _ _ _ _ _ _ _ _ _
      | exact foolscaphelp_Text.mono _ _
      | exact foolscaplaw5_known.mono _
      | exact LeO.none _
      | refine LeO.ite ?_ ?_
      | refine LeO.bind ?_ (fun _ => ?_)
set_option maxHeartbeats 8000000 in
set_option maxRecDepth 100000 in
theorem foolscaplaw5_ClassInside.calls (k : Nat) (A0 : Option Addr) (c0 : Nat) (l0 : List ByteArray) (a1 : Int) (a2 : Int) (r : Bool) (w : World) (hr0 : Kd.C Kd.string w A0 l0.length l0) (hc0 : l0.length ≤ c0) (h : foolscaplaw5_ClassInside.f k l0 a1 a2 = some r) :
    Calls Try.prog 7 #[.slice A0 l0.length c0, .int .i64 a1, .int .i64 a2] w fun e w' => e = .returned (.bool r) ∧ Below w.heap.size w w' := by
  have hu28 := Try.underlying28
  have HR0 := Aside0.mk hr0
  have HC0 := Aside0.mk hc0
  clear hr0 hc0
  have HB := Aside0.mk (Below.refl w.heap.size w)
  have H : ((foolscaplaw5_known.f k).bind fun t134 => (if t134 = true then ((foolscaphelp_Text.f k l0).bind fun t135 => (if t135 = true then ((class_Clamp.f l0 a1 a2 true).bind fun bt136 => ((class_Clamp.f l0 a1 a2 false).bind fun bt139 => (if 0 ≤ bt136.1 then (if bt136.1 < (l0.length : Int) then (if bt136.1 = bt139.1 then (if bt136.2 > ((rdOf ByteArray.empty l0 bt136.1).size : Int) then (foolscaplaw5_ClassInside.j0 k l0 a1 a2 ((rdOf ByteArray.empty l0 bt136.1).size : Int) true bt136.1 bt136.2 bt139.1 bt139.2) else (if bt139.2 > (mx (wrap64 (((rdOf ByteArray.empty l0 bt136.1).size : Int) - 1)) 0) then (foolscaplaw5_ClassInside.j0 k l0 a1 a2 ((rdOf ByteArray.empty l0 bt136.1).size : Int) true bt136.1 bt136.2 bt139.1 bt139.2) else (if bt136.2 < 0 then (foolscaplaw5_ClassInside.j0 k l0 a1 a2 ((rdOf ByteArray.empty l0 bt136.1).size : Int) true bt136.1 bt136.2 bt139.1 bt139.2) else (foolscaplaw5_ClassInside.j0 k l0 a1 a2 ((rdOf ByteArray.empty l0 bt136.1).size : Int) (decide (bt139.2 < 0)) bt136.1 bt136.2 bt139.1 bt139.2)))) else (foolscaplaw5_ClassInside.j0 k l0 a1 a2 ((rdOf ByteArray.empty l0 bt136.1).size : Int) true bt136.1 bt136.2 bt139.1 bt139.2)) else (none)) else (none)))) else (some true))) else (some false))) = some r := h
  clear h
  replace H := Option.bind_eq_some_iff.mp H
  obtain ⟨t134, A40, H⟩ := H
  replace H : (if t134 = true then ((foolscaphelp_Text.f k l0).bind fun t135 => (if t135 = true then ((class_Clamp.f l0 a1 a2 true).bind fun bt136 => ((class_Clamp.f l0 a1 a2 false).bind fun bt139 => (if 0 ≤ bt136.1 then (if bt136.1 < (l0.length : Int) then (if bt136.1 = bt139.1 then (if bt136.2 > ((rdOf ByteArray.empty l0 bt136.1).size : Int) then (foolscaplaw5_ClassInside.j0 k l0 a1 a2 ((rdOf ByteArray.empty l0 bt136.1).size : Int) true bt136.1 bt136.2 bt139.1 bt139.2) else (if bt139.2 > (mx (wrap64 (((rdOf ByteArray.empty l0 bt136.1).size : Int) - 1)) 0) then (foolscaplaw5_ClassInside.j0 k l0 a1 a2 ((rdOf ByteArray.empty l0 bt136.1).size : Int) true bt136.1 bt136.2 bt139.1 bt139.2) else (if bt136.2 < 0 then (foolscaplaw5_ClassInside.j0 k l0 a1 a2 ((rdOf ByteArray.empty l0 bt136.1).size : Int) true bt136.1 bt136.2 bt139.1 bt139.2) else (foolscaplaw5_ClassInside.j0 k l0 a1 a2 ((rdOf ByteArray.empty l0 bt136.1).size : Int) (decide (bt139.2 < 0)) bt136.1 bt136.2 bt139.1 bt139.2)))) else (foolscaplaw5_ClassInside.j0 k l0 a1 a2 ((rdOf ByteArray.empty l0 bt136.1).size : Int) true bt136.1 bt136.2 bt139.1 bt139.2)) else (none)) else (none)))) else (some true))) else (some false)) = some r := H
  have A4 := Aside0.mk A40
  clear A40
  by_cases c5 : t134 = true
  · subst c5
    have H1 : ((foolscaphelp_Text.f k l0).bind fun t135 => (if t135 = true then ((class_Clamp.f l0 a1 a2 true).bind fun bt136 => ((class_Clamp.f l0 a1 a2 false).bind fun bt139 => (if 0 ≤ bt136.1 then (if bt136.1 < (l0.length : Int) then (if bt136.1 = bt139.1 then (if bt136.2 > ((rdOf ByteArray.empty l0 bt136.1).size : Int) then (foolscaplaw5_ClassInside.j0 k l0 a1 a2 ((rdOf ByteArray.empty l0 bt136.1).size : Int) true bt136.1 bt136.2 bt139.1 bt139.2) else (if bt139.2 > (mx (wrap64 (((rdOf ByteArray.empty l0 bt136.1).size : Int) - 1)) 0) then (foolscaplaw5_ClassInside.j0 k l0 a1 a2 ((rdOf ByteArray.empty l0 bt136.1).size : Int) true bt136.1 bt136.2 bt139.1 bt139.2) else (if bt136.2 < 0 then (foolscaplaw5_ClassInside.j0 k l0 a1 a2 ((rdOf ByteArray.empty l0 bt136.1).size : Int) true bt136.1 bt136.2 bt139.1 bt139.2) else (foolscaplaw5_ClassInside.j0 k l0 a1 a2 ((rdOf ByteArray.empty l0 bt136.1).size : Int) (decide (bt139.2 < 0)) bt136.1 bt136.2 bt139.1 bt139.2)))) else (foolscaplaw5_ClassInside.j0 k l0 a1 a2 ((rdOf ByteArray.empty l0 bt136.1).size : Int) true bt136.1 bt136.2 bt139.1 bt139.2)) else (none)) else (none)))) else (some true))) = some r := by rw [if_pos rfl] at H; exact H
    clear H
    have H := H1
    clear H1
    replace H := Option.bind_eq_some_iff.mp H
    obtain ⟨t135, A60, H⟩ := H
    replace H : (if t135 = true then ((class_Clamp.f l0 a1 a2 true).bind fun bt136 => ((class_Clamp.f l0 a1 a2 false).bind fun bt139 => (if 0 ≤ bt136.1 then (if bt136.1 < (l0.length : Int) then (if bt136.1 = bt139.1 then (if bt136.2 > ((rdOf ByteArray.empty l0 bt136.1).size : Int) then (foolscaplaw5_ClassInside.j0 k l0 a1 a2 ((rdOf ByteArray.empty l0 bt136.1).size : Int) true bt136.1 bt136.2 bt139.1 bt139.2) else (if bt139.2 > (mx (wrap64 (((rdOf ByteArray.empty l0 bt136.1).size : Int) - 1)) 0) then (foolscaplaw5_ClassInside.j0 k l0 a1 a2 ((rdOf ByteArray.empty l0 bt136.1).size : Int) true bt136.1 bt136.2 bt139.1 bt139.2) else (if bt136.2 < 0 then (foolscaplaw5_ClassInside.j0 k l0 a1 a2 ((rdOf ByteArray.empty l0 bt136.1).size : Int) true bt136.1 bt136.2 bt139.1 bt139.2) else (foolscaplaw5_ClassInside.j0 k l0 a1 a2 ((rdOf ByteArray.empty l0 bt136.1).size : Int) (decide (bt139.2 < 0)) bt136.1 bt136.2 bt139.1 bt139.2)))) else (foolscaplaw5_ClassInside.j0 k l0 a1 a2 ((rdOf ByteArray.empty l0 bt136.1).size : Int) true bt136.1 bt136.2 bt139.1 bt139.2)) else (none)) else (none)))) else (some true)) = some r := H
    have A6 := Aside0.mk A60
    clear A60
    by_cases c7 : t135 = true
    · subst c7
      have H1 : ((class_Clamp.f l0 a1 a2 true).bind fun bt136 => ((class_Clamp.f l0 a1 a2 false).bind fun bt139 => (if 0 ≤ bt136.1 then (if bt136.1 < (l0.length : Int) then (if bt136.1 = bt139.1 then (if bt136.2 > ((rdOf ByteArray.empty l0 bt136.1).size : Int) then (foolscaplaw5_ClassInside.j0 k l0 a1 a2 ((rdOf ByteArray.empty l0 bt136.1).size : Int) true bt136.1 bt136.2 bt139.1 bt139.2) else (if bt139.2 > (mx (wrap64 (((rdOf ByteArray.empty l0 bt136.1).size : Int) - 1)) 0) then (foolscaplaw5_ClassInside.j0 k l0 a1 a2 ((rdOf ByteArray.empty l0 bt136.1).size : Int) true bt136.1 bt136.2 bt139.1 bt139.2) else (if bt136.2 < 0 then (foolscaplaw5_ClassInside.j0 k l0 a1 a2 ((rdOf ByteArray.empty l0 bt136.1).size : Int) true bt136.1 bt136.2 bt139.1 bt139.2) else (foolscaplaw5_ClassInside.j0 k l0 a1 a2 ((rdOf ByteArray.empty l0 bt136.1).size : Int) (decide (bt139.2 < 0)) bt136.1 bt136.2 bt139.1 bt139.2)))) else (foolscaplaw5_ClassInside.j0 k l0 a1 a2 ((rdOf ByteArray.empty l0 bt136.1).size : Int) true bt136.1 bt136.2 bt139.1 bt139.2)) else (none)) else (none)))) = some r := by rw [if_pos rfl] at H; exact H
      clear H
      have H := H1
      clear H1
      replace H := Option.bind_eq_some_iff.mp H
      obtain ⟨⟨t136, t137⟩, A80, H⟩ := H
      replace H : ((class_Clamp.f l0 a1 a2 false).bind fun bt139 => (if 0 ≤ t136 then (if t136 < (l0.length : Int) then (if t136 = bt139.1 then (if t137 > ((rdOf ByteArray.empty l0 t136).size : Int) then (foolscaplaw5_ClassInside.j0 k l0 a1 a2 ((rdOf ByteArray.empty l0 t136).size : Int) true t136 t137 bt139.1 bt139.2) else (if bt139.2 > (mx (wrap64 (((rdOf ByteArray.empty l0 t136).size : Int) - 1)) 0) then (foolscaplaw5_ClassInside.j0 k l0 a1 a2 ((rdOf ByteArray.empty l0 t136).size : Int) true t136 t137 bt139.1 bt139.2) else (if t137 < 0 then (foolscaplaw5_ClassInside.j0 k l0 a1 a2 ((rdOf ByteArray.empty l0 t136).size : Int) true t136 t137 bt139.1 bt139.2) else (foolscaplaw5_ClassInside.j0 k l0 a1 a2 ((rdOf ByteArray.empty l0 t136).size : Int) (decide (bt139.2 < 0)) t136 t137 bt139.1 bt139.2)))) else (foolscaplaw5_ClassInside.j0 k l0 a1 a2 ((rdOf ByteArray.empty l0 t136).size : Int) true t136 t137 bt139.1 bt139.2)) else (none)) else (none))) = some r := H
      have A8 := Aside0.mk A80
      clear A80
      replace H := Option.bind_eq_some_iff.mp H
      obtain ⟨⟨t139, t140⟩, A90, H⟩ := H
      replace H : (if 0 ≤ t136 then (if t136 < (l0.length : Int) then (if t136 = t139 then (if t137 > ((rdOf ByteArray.empty l0 t136).size : Int) then (foolscaplaw5_ClassInside.j0 k l0 a1 a2 ((rdOf ByteArray.empty l0 t136).size : Int) true t136 t137 t139 t140) else (if t140 > (mx (wrap64 (((rdOf ByteArray.empty l0 t136).size : Int) - 1)) 0) then (foolscaplaw5_ClassInside.j0 k l0 a1 a2 ((rdOf ByteArray.empty l0 t136).size : Int) true t136 t137 t139 t140) else (if t137 < 0 then (foolscaplaw5_ClassInside.j0 k l0 a1 a2 ((rdOf ByteArray.empty l0 t136).size : Int) true t136 t137 t139 t140) else (foolscaplaw5_ClassInside.j0 k l0 a1 a2 ((rdOf ByteArray.empty l0 t136).size : Int) (decide (t140 < 0)) t136 t137 t139 t140)))) else (foolscaplaw5_ClassInside.j0 k l0 a1 a2 ((rdOf ByteArray.empty l0 t136).size : Int) true t136 t137 t139 t140)) else (none)) else (none)) = some r := H
      have A9 := Aside0.mk A90
      clear A90
      by_cases c10 : 0 ≤ t136
      · rw [if_pos c10] at H
        have c10b0 : decide (0 ≤ t136) = true := decide_eq_true c10
        clear c10
        by_cases c11 : t136 < (l0.length : Int)
        · rw [if_pos c11] at H
          have c11b0 : decide (t136 < (l0.length : Int)) = true := decide_eq_true c11
          clear c11
          have HC12 := Aside0.mk H
          clear H
          go_enter Try.func7, Try.ntmps7
          go_upto_region 8 with (first | ((with_reducible refine gate_callee (f := 12) rfl ?_); refine goesL_ (some 10) rfl rfl Try.func12 (by kernel_rfl) rfl #[] rfl (by (try simp only [List.map_toArray, List.map_cons, List.map_nil]); first | done | rfl | (simp only [List.length_drop, List.length_take]; rfl)) ?_; (with_reducible refine (foolscaplaw5_known.calls k  true _ A4.out).mono ?_); rintro e w13 ⟨rfl, hb⟩; refine ⟨_, rfl, ?_⟩; have n0_ := Aside0.mk (below_step (by repeat (first | (with_reducible first | exact HB.out | apply below_alloc | apply pw_below_drewN | apply below_drew1) | exact HB.out)) hb); clear HB; have HB := n0_; clear n0_; (try clear hb); (try clear hb2); (try clear hk); (try clear hi)) | ((with_reducible refine gate_callee (f := 24) rfl ?_); refine goesL_ (some 13) rfl rfl Try.func24 (by kernel_rfl) rfl #[.slice A0 l0.length c0] rfl (by (try simp only [List.map_toArray, List.map_cons, List.map_nil]); first | done | rfl | (simp only [List.length_drop, List.length_take]; rfl)) ?_; (with_reducible refine (foolscaphelp_Text.calls k _ _ l0 true _ ?side1 ?side2 A6.out).mono ?_); (case side1 => repeat (first | exact (Kd.C_below HR0.out HB.out) | (with_reducible refine Kd.C_alloc ?_ _) | (with_reducible refine Kd.C_drewN ?_ _) | (with_reducible refine Kd.C_drew ?_))); (case side2 => exact HC0.out); rintro e w' ⟨rfl, ⟨nd, rfl⟩⟩; refine ⟨_, rfl, ?_⟩; (try (rw [drewN_self w13]; generalize hq_ : World.drewN w13 _ = w13; have n0_ : Aside0 (Below w.heap.size w w13) := ⟨by rw [← hq_]; exact (by repeat (first | (with_reducible first | exact HB.out | apply below_alloc | apply pw_below_drewN | apply below_drew1) | exact HB.out))⟩; clear HB hq_; have HB := n0_; clear n0_))) | ((with_reducible refine gate_callee (f := 18) rfl ?_); refine goesL_ (some 19) rfl rfl Try.func18 (by kernel_rfl) rfl #[.slice A0 l0.length c0, .agg #[.int .i64 a1, .int .i64 a2], .bool true] rfl (by (try simp only [List.map_toArray, List.map_cons, List.map_nil]); first | done | rfl | (simp only [List.length_drop, List.length_take]; rfl)) ?_; (with_reducible refine (class_Clamp.calls _ _ l0 a1 a2 true t136 t137 _ ?side1 ?side2 A8.out).mono ?_); (case side1 => repeat (first | exact (Kd.C_below HR0.out HB.out) | (with_reducible refine Kd.C_alloc ?_ _) | (with_reducible refine Kd.C_drewN ?_ _) | (with_reducible refine Kd.C_drew ?_))); (case side2 => exact HC0.out); rintro e w14 ⟨rfl, hb⟩; refine ⟨_, rfl, ?_⟩; have n0_ := Aside0.mk (below_step (by repeat (first | (with_reducible first | exact HB.out | apply below_alloc | apply pw_below_drewN | apply below_drew1) | exact HB.out)) hb); clear HB; have HB := n0_; clear n0_; (try clear hb); (try clear hb2); (try clear hk); (try clear hi)) | ((with_reducible refine gate_dst (N := 7) rfl ?_); (try (refine gate_guard (by rfl) ?_; dsimp only)); refine box_event ?hg (N := 7) ?hd (cs := #[.int .i64 0, .int .i64 0]) (t := 28) ?hr ?_; (case hd => rfl); (case hg => rfl); (case hr => first | (go_simp; done) | (go_simp; rfl)); intro gb138 hg w15 hbox hb; have n0_ := Aside0.mk (below_step (by repeat (first | (with_reducible first | exact HB.out | apply below_alloc | apply pw_below_drewN | apply below_drew1) | exact HB.out)) hb); have n1_ := Aside0.mk (hbox); have n2_ := Aside0.mk ((by rw [hg]; exact (below_size (by repeat (first | (with_reducible first | exact HB.out | apply below_alloc | apply pw_below_drewN | apply below_drew1) | exact HB.out))) : w.heap.size ≤ gb138)); have n3_ := Aside0.mk ((by rw [hg]; exact (below_size (by repeat (first | (with_reducible first | exact HB.out | apply below_alloc | apply pw_below_drewN | apply below_drew1) | exact HB.out))) : w.heap.size ≤ gb138)); clear HB; have HB := n0_; have BK138 := n1_; have GW138 := n2_; have GE138 := n3_; clear n0_ n1_ n2_ n3_; clear hb hbox hg; have hcz16_0 : w15.cell? ⟨gb138, 0, none⟩ = some (.int .i64 0) := (blk_cell BK138.out 0).trans rfl; have hcz16_1 : w15.cell? ⟨gb138, 1, none⟩ = some (.int .i64 0) := (blk_cell BK138.out 1).trans rfl; have hfz16_0 := blk_frozen BK138.out 0; have hfz16_1 := blk_frozen BK138.out 1) | ((with_reducible refine gate_callee (f := 18) rfl ?_); refine goesL_ (some 24) rfl rfl Try.func18 (by kernel_rfl) rfl #[.slice A0 l0.length c0, .agg #[.int .i64 a1, .int .i64 a2], .bool false] rfl (by (try simp only [List.map_toArray, List.map_cons, List.map_nil]); first | done | rfl | (simp only [List.length_drop, List.length_take]; rfl)) ?_; (with_reducible refine (class_Clamp.calls _ _ l0 a1 a2 false t139 t140 _ ?side1 ?side2 A9.out).mono ?_); (case side1 => exact Kd.C_below HR0.out (by repeat (first | (with_reducible first | exact HB.out | apply below_alloc | apply pw_below_drewN | apply below_drew1 | refine below_set ?_ GE138.out) | exact HB.out))); (case side2 => exact HC0.out); rintro e w17 ⟨rfl, hb⟩; refine ⟨_, rfl, ?_⟩; have n0_ := Aside0.mk (blk_below (g := gb138) (o := .cells #[.int .i64 t136, .int .i64 t137] 28 (0, 0)) (by (with_reducible repeat (first | refine blk_drewN ?_ _ | refine blk_drew ?_ | refine blk_alloc ?_ _)); refine blk_put (cs := #[.int .i64 t136, .int .i64 0]) ?_ 1 _ rfl; (with_reducible repeat (first | refine blk_drewN ?_ _ | refine blk_drew ?_ | refine blk_alloc ?_ _)); refine blk_put (cs := #[.int .i64 0, .int .i64 0]) ?_ 0 _ rfl; (with_reducible repeat (first | refine blk_drewN ?_ _ | refine blk_drew ?_ | refine blk_alloc ?_ _)); exact BK138.out) hb); have n1_ := Aside0.mk (below_step (by repeat (first | (with_reducible first | exact HB.out | apply below_alloc | apply pw_below_drewN | apply below_drew1 | refine below_set ?_ GE138.out) | exact HB.out)) hb); clear BK138; clear HB; have BK138 := n0_; have HB := n1_; clear n0_ n1_; (try clear hb); (try clear hb2); (try clear hk); (try clear hi)) | ((with_reducible refine gate_dst (N := 8) rfl ?_); (try (refine gate_guard (by rfl) ?_; dsimp only)); refine box_event ?hg (N := 8) ?hd (cs := #[.int .i64 0, .int .i64 0]) (t := 28) ?hr ?_; (case hd => rfl); (case hg => rfl); (case hr => first | (go_simp; done) | (go_simp; rfl)); intro gb141 hg w18 hbox hb; have n0_ := Aside0.mk (blk_below (g := gb138) (o := .cells #[.int .i64 t136, .int .i64 t137] 28 (0, 0)) (by (with_reducible repeat (first | refine blk_drewN ?_ _ | refine blk_drew ?_ | refine blk_alloc ?_ _)); exact BK138.out) hb); have n1_ := Aside0.mk (below_step (by repeat (first | (with_reducible first | exact HB.out | apply below_alloc | apply pw_below_drewN | apply below_drew1 | refine below_set ?_ GE138.out) | exact HB.out)) hb); have n2_ := Aside0.mk (hbox); have n3_ := Aside0.mk ((by rw [hg]; exact (below_size (by repeat (first | (with_reducible first | exact HB.out | apply below_alloc | apply pw_below_drewN | apply below_drew1 | refine below_set ?_ GE138.out) | exact HB.out))) : w.heap.size ≤ gb141)); have n4_ := Aside0.mk ((by rw [hg]; exact (below_size (by repeat (first | (with_reducible first | exact HB.out | apply below_alloc | apply pw_below_drewN | apply below_drew1 | refine below_set ?_ GE138.out) | exact HB.out))) : w.heap.size ≤ gb141)); have n5_ := Aside0.mk ((by rw [hg]; exact Nat.ne_of_lt (blk_lt (g := gb138) (o := .cells #[.int .i64 t136, .int .i64 t137] 28 (0, 0)) (by (with_reducible repeat (first | refine blk_drewN ?_ _ | refine blk_drew ?_ | refine blk_alloc ?_ _)); exact BK138.out)) : gb138 ≠ gb141)); have n6_ := Aside0.mk ((by rw [hg]; exact Nat.ne_of_gt (blk_lt (g := gb138) (o := .cells #[.int .i64 t136, .int .i64 t137] 28 (0, 0)) (by (with_reducible repeat (first | refine blk_drewN ?_ _ | refine blk_drew ?_ | refine blk_alloc ?_ _)); exact BK138.out)) : gb141 ≠ gb138)); clear BK138; clear HB; have BK138 := n0_; have HB := n1_; have BK141 := n2_; have GW141 := n3_; have GE141 := n4_; have NB138_141 := n5_; have NB141_138 := n6_; clear n0_ n1_ n2_ n3_ n4_ n5_ n6_; clear hb hbox hg; have hnb19 := NB141_138.out; have hnc19 := NB138_141.out; have hcz20_0 : w18.cell? ⟨gb141, 0, none⟩ = some (.int .i64 0) := (blk_cell BK141.out 0).trans rfl; have hcz20_1 : w18.cell? ⟨gb141, 1, none⟩ = some (.int .i64 0) := (blk_cell BK141.out 1).trans rfl; have hfz20_0 := blk_frozen BK141.out 0; have hfz20_1 := blk_frozen BK141.out 1; have hcz21_0 : w18.cell? ⟨gb138, 0, none⟩ = some (.int .i64 t136) := (blk_cell BK138.out 0).trans rfl; have hcz21_1 : w18.cell? ⟨gb138, 1, none⟩ = some (.int .i64 t137) := (blk_cell BK138.out 1).trans rfl; have hfz21_0 := blk_frozen BK138.out 0; have hfz21_1 := blk_frozen BK138.out 1; have p142 : 0 ≤ (t136 : Int) := of_decide_eq_true (by first | (with_reducible assumption) | assumption); have q142 : t136 < (l0.length : Int) := of_decide_eq_true (by first | (with_reducible assumption) | assumption); obtain ⟨ad142, e142, hx142_0⟩ := Kd.at_string HR0.out t136 p142 q142; cases e142; have hn142_0 : ad142.block ≠ gb141 := Nat.ne_of_lt (Nat.lt_of_lt_of_le (by have := World.block_lt_of_cell? _ _ hx142_0; first | rwa [add_block] at this | exact this) GW141.out); have hn142_1 : ad142.block ≠ gb141 := Nat.ne_of_lt (Nat.lt_of_lt_of_le (by have := World.block_lt_of_cell? _ _ hx142_0; first | rwa [add_block] at this | exact this) GW141.out); replace hx142_0 := (HB.out.cell (World.block_lt_of_cell? w _ hx142_0)).trans hx142_0; replace hx142_0 := (cell_far (p := ⟨gb141, 0, none⟩) (by first | (rw [add_block]; exact hn142_0) | (show (Addr.add _ _).block ≠ _; rw [add_block]; exact hn142_0) | exact hn142_0) (.int .i64 t139)).trans hx142_0; replace hx142_0 := (cell_far (p := ⟨gb141, 1, none⟩) (by first | (rw [add_block]; exact hn142_1) | (show (Addr.add _ _).block ≠ _; rw [add_block]; exact hn142_1) | exact hn142_1) (.int .i64 t140)).trans hx142_0; clear hn142_0; clear hn142_1; replace p142 := eq_true p142; replace q142 := eq_true q142))
          (try simp only [Act.put, List.setIfInBounds_toArray, List.set_cons_zero, List.set_cons_succ])
          go_cut [59] (fun v59 wc => ∃ (kq : Nat) (x59_11 : Bool), v59 = .bool x59_11 ∧ Aside0 (foolscaplaw5_ClassInside.j0 kq l0 a1 a2 ((rdOf ByteArray.empty l0 t136).size : Int) x59_11 t136 t137 t139 t140 = some r) ∧ Aside0 (kq ≤ k) ∧ Aside0 (wc.heap[gb138]? = some (.cells #[.int .i64 t136, .int .i64 t137] 28 (0, 0))) ∧ Aside0 (wc.heap[gb141]? = some (.cells #[.int .i64 t139, .int .i64 t140] 28 (0, 0))) ∧ Aside0 (Below w.heap.size w wc))
          case first =>
            have H := HC12.out
            clear HC12
            by_cases c22 : t136 = t139
            · rw [if_pos c22] at H
              have c22b0 : (t136 == t139) = true := beq_iff_eq.mpr c22
              have c22b1 : (t136 != t139) = false := bne_eq_false_iff_eq.mpr c22
              clear c22
              (first | rw [c22b0] | (simp only [i64_w, i32_w]; rw [c22b0]) | skip)
              by_cases c23 : t137 > ((rdOf ByteArray.empty l0 t136).size : Int)
              · rw [if_pos c23] at H
                have c23b0 : decide (((rdOf ByteArray.empty l0 t136).size : Int) < t137) = true := decide_eq_true c23
                clear c23
                have H' := Aside0.mk H
                clear H
                have hnb24 := NB138_141.out
                have hnc24 := NB141_138.out
                have hcz25_0 : w18.cell? ⟨gb138, 0, none⟩ = some (.int .i64 t136) := (blk_cell BK138.out 0).trans rfl
                have hcz25_1 : w18.cell? ⟨gb138, 1, none⟩ = some (.int .i64 t137) := (blk_cell BK138.out 1).trans rfl
                have hfz25_0 := blk_frozen BK138.out 0
                have hfz25_1 := blk_frozen BK138.out 1
                have hcz26_0 : w18.cell? ⟨gb141, 0, none⟩ = some (.int .i64 0) := (blk_cell BK141.out 0).trans rfl
                have hcz26_1 : w18.cell? ⟨gb141, 1, none⟩ = some (.int .i64 0) := (blk_cell BK141.out 1).trans rfl
                have hfz26_0 := blk_frozen BK141.out 0
                have hfz26_1 := blk_frozen BK141.out 1
                go_wp2
                go_meet
                case rel => exact ⟨_, (true), (by first | rfl | (simp; done) | (simp [*]; done)), H', ⟨by first | omega | exact Nat.le_refl _⟩, ⟨by (with_reducible repeat (first | refine blk_drewN ?_ _ | refine blk_drew ?_ | refine blk_alloc ?_ _)); refine blk_far ?_ NB138_141.out _; (with_reducible repeat (first | refine blk_drewN ?_ _ | refine blk_drew ?_ | refine blk_alloc ?_ _)); refine blk_far ?_ NB138_141.out _; (with_reducible repeat (first | refine blk_drewN ?_ _ | refine blk_drew ?_ | refine blk_alloc ?_ _)); exact BK138.out⟩, ⟨by (with_reducible repeat (first | refine blk_drewN ?_ _ | refine blk_drew ?_ | refine blk_alloc ?_ _)); refine blk_put (cs := #[.int .i64 t139, .int .i64 0]) ?_ 1 _ rfl; (with_reducible repeat (first | refine blk_drewN ?_ _ | refine blk_drew ?_ | refine blk_alloc ?_ _)); refine blk_put (cs := #[.int .i64 0, .int .i64 0]) ?_ 0 _ rfl; (with_reducible repeat (first | refine blk_drewN ?_ _ | refine blk_drew ?_ | refine blk_alloc ?_ _)); exact BK141.out⟩, ⟨by repeat (first | (with_reducible first | exact HB.out | apply below_alloc | apply pw_below_drewN | apply below_drew1 | refine below_set ?_ GE138.out | refine below_set ?_ GE141.out) | exact HB.out)⟩⟩
              · rw [if_neg c23] at H
                have c23b0 : decide (((rdOf ByteArray.empty l0 t136).size : Int) < t137) = false := decide_eq_false c23
                clear c23
                obtain ⟨ji27, hji27⟩ : ∃ j_ : Int, (mx (wrap64 (((rdOf ByteArray.empty l0 t136).size : Int) - 1)) 0) = j_ := ⟨_, rfl⟩
                replace H : (if t140 > (ji27) then (foolscaplaw5_ClassInside.j0 k l0 a1 a2 ((rdOf ByteArray.empty l0 t136).size : Int) true t136 t137 t139 t140) else (if t137 < 0 then (foolscaplaw5_ClassInside.j0 k l0 a1 a2 ((rdOf ByteArray.empty l0 t136).size : Int) true t136 t137 t139 t140) else (foolscaplaw5_ClassInside.j0 k l0 a1 a2 ((rdOf ByteArray.empty l0 t136).size : Int) (decide (t140 < 0)) t136 t137 t139 t140))) = some r := by first | (rw [hji27] at H; exact H) | (simp only [hji27] at H ⊢; exact H)
                (try (have hji27l : 0 ≤ ji27 := by (rw [← hji27]; unfold mx; (repeat' split) <;> omega)))
                (try (have hji27m : 0 ≤ ji27 := by omega))
                have hji27_ : (if (wrap64 (((rdOf ByteArray.empty l0 t136).size : Int) - 1)) < 0 then 0 else (wrap64 (((rdOf ByteArray.empty l0 t136).size : Int) - 1))) = ji27 := hji27
                by_cases c28 : t140 > (ji27)
                · rw [if_pos c28] at H
                  have c28b0 : decide ((ji27) < t140) = true := decide_eq_true c28
                  clear c28
                  have H' := Aside0.mk H
                  clear H
                  have hnb29 := NB138_141.out
                  have hnc29 := NB141_138.out
                  have hcz30_0 : w18.cell? ⟨gb138, 0, none⟩ = some (.int .i64 t136) := (blk_cell BK138.out 0).trans rfl
                  have hcz30_1 : w18.cell? ⟨gb138, 1, none⟩ = some (.int .i64 t137) := (blk_cell BK138.out 1).trans rfl
                  have hfz30_0 := blk_frozen BK138.out 0
                  have hfz30_1 := blk_frozen BK138.out 1
                  have hcz31_0 : w18.cell? ⟨gb141, 0, none⟩ = some (.int .i64 0) := (blk_cell BK141.out 0).trans rfl
                  have hcz31_1 : w18.cell? ⟨gb141, 1, none⟩ = some (.int .i64 0) := (blk_cell BK141.out 1).trans rfl
                  have hfz31_0 := blk_frozen BK141.out 0
                  have hfz31_1 := blk_frozen BK141.out 1
                  go_wp2
                  go_meet
                  case rel => exact ⟨_, (true), (by first | rfl | (simp; done) | (simp [*]; done)), H', ⟨by first | omega | exact Nat.le_refl _⟩, ⟨by (with_reducible repeat (first | refine blk_drewN ?_ _ | refine blk_drew ?_ | refine blk_alloc ?_ _)); refine blk_far ?_ NB138_141.out _; (with_reducible repeat (first | refine blk_drewN ?_ _ | refine blk_drew ?_ | refine blk_alloc ?_ _)); refine blk_far ?_ NB138_141.out _; (with_reducible repeat (first | refine blk_drewN ?_ _ | refine blk_drew ?_ | refine blk_alloc ?_ _)); exact BK138.out⟩, ⟨by (with_reducible repeat (first | refine blk_drewN ?_ _ | refine blk_drew ?_ | refine blk_alloc ?_ _)); refine blk_put (cs := #[.int .i64 t139, .int .i64 0]) ?_ 1 _ rfl; (with_reducible repeat (first | refine blk_drewN ?_ _ | refine blk_drew ?_ | refine blk_alloc ?_ _)); refine blk_put (cs := #[.int .i64 0, .int .i64 0]) ?_ 0 _ rfl; (with_reducible repeat (first | refine blk_drewN ?_ _ | refine blk_drew ?_ | refine blk_alloc ?_ _)); exact BK141.out⟩, ⟨by repeat (first | (with_reducible first | exact HB.out | apply below_alloc | apply pw_below_drewN | apply below_drew1 | refine below_set ?_ GE138.out | refine below_set ?_ GE141.out) | exact HB.out)⟩⟩
                · rw [if_neg c28] at H
                  have c28b0 : decide ((ji27) < t140) = false := decide_eq_false c28
                  clear c28
                  by_cases c32 : t137 < 0
                  · rw [if_pos c32] at H
                    have c32b0 : decide (t137 < 0) = true := decide_eq_true c32
                    clear c32
                    have H' := Aside0.mk H
                    clear H
                    have hnb33 := NB138_141.out
                    have hnc33 := NB141_138.out
                    have hcz34_0 : w18.cell? ⟨gb138, 0, none⟩ = some (.int .i64 t136) := (blk_cell BK138.out 0).trans rfl
                    have hcz34_1 : w18.cell? ⟨gb138, 1, none⟩ = some (.int .i64 t137) := (blk_cell BK138.out 1).trans rfl
                    have hfz34_0 := blk_frozen BK138.out 0
                    have hfz34_1 := blk_frozen BK138.out 1
                    have hcz35_0 : w18.cell? ⟨gb141, 0, none⟩ = some (.int .i64 0) := (blk_cell BK141.out 0).trans rfl
                    have hcz35_1 : w18.cell? ⟨gb141, 1, none⟩ = some (.int .i64 0) := (blk_cell BK141.out 1).trans rfl
                    have hfz35_0 := blk_frozen BK141.out 0
                    have hfz35_1 := blk_frozen BK141.out 1
                    go_wp2
                    go_meet
                    case rel => exact ⟨_, (true), (by first | rfl | (simp; done) | (simp [*]; done)), H', ⟨by first | omega | exact Nat.le_refl _⟩, ⟨by (with_reducible repeat (first | refine blk_drewN ?_ _ | refine blk_drew ?_ | refine blk_alloc ?_ _)); refine blk_far ?_ NB138_141.out _; (with_reducible repeat (first | refine blk_drewN ?_ _ | refine blk_drew ?_ | refine blk_alloc ?_ _)); refine blk_far ?_ NB138_141.out _; (with_reducible repeat (first | refine blk_drewN ?_ _ | refine blk_drew ?_ | refine blk_alloc ?_ _)); exact BK138.out⟩, ⟨by (with_reducible repeat (first | refine blk_drewN ?_ _ | refine blk_drew ?_ | refine blk_alloc ?_ _)); refine blk_put (cs := #[.int .i64 t139, .int .i64 0]) ?_ 1 _ rfl; (with_reducible repeat (first | refine blk_drewN ?_ _ | refine blk_drew ?_ | refine blk_alloc ?_ _)); refine blk_put (cs := #[.int .i64 0, .int .i64 0]) ?_ 0 _ rfl; (with_reducible repeat (first | refine blk_drewN ?_ _ | refine blk_drew ?_ | refine blk_alloc ?_ _)); exact BK141.out⟩, ⟨by repeat (first | (with_reducible first | exact HB.out | apply below_alloc | apply pw_below_drewN | apply below_drew1 | refine below_set ?_ GE138.out | refine below_set ?_ GE141.out) | exact HB.out)⟩⟩
                  · rw [if_neg c32] at H
                    have c32b0 : decide (t137 < 0) = false := decide_eq_false c32
                    clear c32
                    have H' := Aside0.mk H
                    clear H
                    have hnb36 := NB138_141.out
                    have hnc36 := NB141_138.out
                    have hcz37_0 : w18.cell? ⟨gb138, 0, none⟩ = some (.int .i64 t136) := (blk_cell BK138.out 0).trans rfl
                    have hcz37_1 : w18.cell? ⟨gb138, 1, none⟩ = some (.int .i64 t137) := (blk_cell BK138.out 1).trans rfl
                    have hfz37_0 := blk_frozen BK138.out 0
                    have hfz37_1 := blk_frozen BK138.out 1
                    have hcz38_0 : w18.cell? ⟨gb141, 0, none⟩ = some (.int .i64 0) := (blk_cell BK141.out 0).trans rfl
                    have hcz38_1 : w18.cell? ⟨gb141, 1, none⟩ = some (.int .i64 0) := (blk_cell BK141.out 1).trans rfl
                    have hfz38_0 := blk_frozen BK141.out 0
                    have hfz38_1 := blk_frozen BK141.out 1
                    go_wp2
                    go_meet
                    case rel => exact ⟨_, (decide (t140 < 0)), (by first | rfl | (simp; done) | (simp [*]; done)), H', ⟨by first | omega | exact Nat.le_refl _⟩, ⟨by (with_reducible repeat (first | refine blk_drewN ?_ _ | refine blk_drew ?_ | refine blk_alloc ?_ _)); refine blk_far ?_ NB138_141.out _; (with_reducible repeat (first | refine blk_drewN ?_ _ | refine blk_drew ?_ | refine blk_alloc ?_ _)); refine blk_far ?_ NB138_141.out _; (with_reducible repeat (first | refine blk_drewN ?_ _ | refine blk_drew ?_ | refine blk_alloc ?_ _)); exact BK138.out⟩, ⟨by (with_reducible repeat (first | refine blk_drewN ?_ _ | refine blk_drew ?_ | refine blk_alloc ?_ _)); refine blk_put (cs := #[.int .i64 t139, .int .i64 0]) ?_ 1 _ rfl; (with_reducible repeat (first | refine blk_drewN ?_ _ | refine blk_drew ?_ | refine blk_alloc ?_ _)); refine blk_put (cs := #[.int .i64 0, .int .i64 0]) ?_ 0 _ rfl; (with_reducible repeat (first | refine blk_drewN ?_ _ | refine blk_drew ?_ | refine blk_alloc ?_ _)); exact BK141.out⟩, ⟨by repeat (first | (with_reducible first | exact HB.out | apply below_alloc | apply pw_below_drewN | apply below_drew1 | refine below_set ?_ GE138.out | refine below_set ?_ GE141.out) | exact HB.out)⟩⟩
            · rw [if_neg c22] at H
              have c22b0 : (t136 == t139) = false := beq_eq_false_iff_ne.mpr c22
              have c22b1 : (t136 != t139) = true := bne_iff_ne.mpr c22
              (first | rw [c22b0] | (simp only [i64_w, i32_w]; rw [c22b0]) | skip)
              have H' := Aside0.mk H
              clear H
              have hnb39 := NB138_141.out
              have hnc39 := NB141_138.out
              have hcz40_0 : w18.cell? ⟨gb138, 0, none⟩ = some (.int .i64 t136) := (blk_cell BK138.out 0).trans rfl
              have hcz40_1 : w18.cell? ⟨gb138, 1, none⟩ = some (.int .i64 t137) := (blk_cell BK138.out 1).trans rfl
              have hfz40_0 := blk_frozen BK138.out 0
              have hfz40_1 := blk_frozen BK138.out 1
              have hcz41_0 : w18.cell? ⟨gb141, 0, none⟩ = some (.int .i64 0) := (blk_cell BK141.out 0).trans rfl
              have hcz41_1 : w18.cell? ⟨gb141, 1, none⟩ = some (.int .i64 0) := (blk_cell BK141.out 1).trans rfl
              have hfz41_0 := blk_frozen BK141.out 0
              have hfz41_1 := blk_frozen BK141.out 1
              go_wp2
              go_meet
              case rel => exact ⟨_, (true), (by first | rfl | (simp; done) | (simp [*]; done)), H', ⟨by first | omega | exact Nat.le_refl _⟩, ⟨by (with_reducible repeat (first | refine blk_drewN ?_ _ | refine blk_drew ?_ | refine blk_alloc ?_ _)); refine blk_far ?_ NB138_141.out _; (with_reducible repeat (first | refine blk_drewN ?_ _ | refine blk_drew ?_ | refine blk_alloc ?_ _)); refine blk_far ?_ NB138_141.out _; (with_reducible repeat (first | refine blk_drewN ?_ _ | refine blk_drew ?_ | refine blk_alloc ?_ _)); exact BK138.out⟩, ⟨by (with_reducible repeat (first | refine blk_drewN ?_ _ | refine blk_drew ?_ | refine blk_alloc ?_ _)); refine blk_put (cs := #[.int .i64 t139, .int .i64 0]) ?_ 1 _ rfl; (with_reducible repeat (first | refine blk_drewN ?_ _ | refine blk_drew ?_ | refine blk_alloc ?_ _)); refine blk_put (cs := #[.int .i64 0, .int .i64 0]) ?_ 0 _ rfl; (with_reducible repeat (first | refine blk_drewN ?_ _ | refine blk_drew ?_ | refine blk_alloc ?_ _)); exact BK141.out⟩, ⟨by repeat (first | (with_reducible first | exact HB.out | apply below_alloc | apply pw_below_drewN | apply below_drew1 | refine below_set ?_ GE138.out | refine below_set ?_ GE141.out) | exact HB.out)⟩⟩
          case rest =>
            clear HC12
            try clear c1
            try clear p1
            try clear q1
            try clear hx1
            try clear c2
            try clear p2
            try clear c3
            try clear c5
            try clear p6
            try clear c7
            try clear c10
            try clear c10b0
            try clear c11
            try clear c11b0
            try clear c12
            try clear p14
            try clear q14
            try clear hx14
            try clear c18
            try clear c19
            try clear c22
            try clear c22b0
            try clear c22b1
            try clear c23
            try clear c23b0
            try clear c24
            try clear c28
            try clear c28b0
            try clear c29
            try clear c32
            try clear c32b0
            try clear c33
            try clear c36
            try clear c39
            try clear hcz16_0
            try clear hcz16_1
            try clear hcz20_0
            try clear hcz20_1
            try clear hcz21_0
            try clear hcz21_1
            try clear hcz25_0
            try clear hcz25_1
            try clear hcz26_0
            try clear hcz26_1
            try clear hcz30_0
            try clear hcz30_1
            try clear hcz31_0
            try clear hcz31_1
            try clear hcz34_0
            try clear hcz34_1
            try clear hcz35_0
            try clear hcz35_1
            try clear hcz37_0
            try clear hcz37_1
            try clear hcz38_0
            try clear hcz38_1
            try clear hcz40_0
            try clear hcz40_1
            try clear hcz41_0
            try clear hcz41_1
            try clear hfz16_0
            try clear hfz16_1
            try clear hfz20_0
            try clear hfz20_1
            try clear hfz21_0
            try clear hfz21_1
            try clear hfz25_0
            try clear hfz25_1
            try clear hfz26_0
            try clear hfz26_1
            try clear hfz30_0
            try clear hfz30_1
            try clear hfz31_0
            try clear hfz31_1
            try clear hfz34_0
            try clear hfz34_1
            try clear hfz35_0
            try clear hfz35_1
            try clear hfz37_0
            try clear hfz37_1
            try clear hfz38_0
            try clear hfz38_1
            try clear hfz40_0
            try clear hfz40_1
            try clear hfz41_0
            try clear hfz41_1
            try clear hx142_0
            try clear p142
            try clear q142
            obtain ⟨kq, x59_11, rfl, HA, HJ11, BK138, BK141, HB⟩ := hcut
            cases kq with
            | zero => exact absurd HA.out (by simp [foolscaplaw5_ClassInside.j0])
            | succ kj11 =>
              have H := HA.out
              clear HA
              simp only [foolscaplaw5_ClassInside.j0] at H
              by_cases c42 : x59_11 = true
              · subst c42
                have H1 : (some false) = some r := by rw [if_pos rfl] at H; exact H
                clear H
                have H := H1
                clear H1
                obtain rfl := Option.some.inj H
                go_wp2
                go_ret
                exact ⟨by first | rfl | (simp [errW_none, errW_some] <;> rfl) | (simp [*, errW_none, errW_some] <;> rfl), by repeat (first | (with_reducible first | exact HB.out | apply below_alloc | apply pw_below_drewN | apply below_drew1 | refine below_set ?_ GE138.out | refine below_set ?_ GE141.out) | exact HB.out)⟩
              · replace c42 := Bool.eq_false_iff.mpr c42
                subst c42
                have H1 : (if a1 ≥ 0 then (if a1 < (l0.length : Int) then (if t136 = a1 then (if a2 ≥ 0 then (if a2 ≤ ((rdOf ByteArray.empty l0 t136).size : Int) then (if t137 = a2 then (some (t140 == (mn a2 (mx (wrap64 (((rdOf ByteArray.empty l0 t136).size : Int) - 1)) 0)))) else (some false)) else (some true)) else (some true)) else (some false)) else (if a2 ≥ 0 then (if a2 ≤ ((rdOf ByteArray.empty l0 t136).size : Int) then (if t137 = a2 then (some (t140 == (mn a2 (mx (wrap64 (((rdOf ByteArray.empty l0 t136).size : Int) - 1)) 0)))) else (some false)) else (some true)) else (some true))) else (if a2 ≥ 0 then (if a2 ≤ ((rdOf ByteArray.empty l0 t136).size : Int) then (if t137 = a2 then (some (t140 == (mn a2 (mx (wrap64 (((rdOf ByteArray.empty l0 t136).size : Int) - 1)) 0)))) else (some false)) else (some true)) else (some true))) = some r := by rw [if_neg (show ¬ (false = true) by decide)] at H; exact H
                clear H
                have H := H1
                clear H1
                by_cases c43 : a1 ≥ 0
                · rw [if_pos c43] at H
                  have c43b0 : decide (0 ≤ a1) = true := decide_eq_true c43
                  clear c43
                  by_cases c44 : a1 < (l0.length : Int)
                  · rw [if_pos c44] at H
                    have c44b0 : decide (a1 < (l0.length : Int)) = true := decide_eq_true c44
                    clear c44
                    by_cases c45 : t136 = a1
                    · rw [if_pos c45] at H
                      have c45b0 : (t136 == a1) = true := beq_iff_eq.mpr c45
                      have c45b1 : (t136 != a1) = false := bne_eq_false_iff_eq.mpr c45
                      clear c45
                      by_cases c46 : a2 ≥ 0
                      · rw [if_pos c46] at H
                        have c46b0 : decide (0 ≤ a2) = true := decide_eq_true c46
                        clear c46
                        by_cases c47 : a2 ≤ ((rdOf ByteArray.empty l0 t136).size : Int)
                        · rw [if_pos c47] at H
                          have c47b0 : decide (a2 ≤ ((rdOf ByteArray.empty l0 t136).size : Int)) = true := decide_eq_true c47
                          clear c47
                          by_cases c48 : t137 = a2
                          · rw [if_pos c48] at H
                            have c48b0 : (t137 == a2) = true := beq_iff_eq.mpr c48
                            have c48b1 : (t137 != a2) = false := bne_eq_false_iff_eq.mpr c48
                            clear c48
                            obtain ⟨ji49, hji49⟩ : ∃ j_ : Int, (mx (wrap64 (((rdOf ByteArray.empty l0 t136).size : Int) - 1)) 0) = j_ := ⟨_, rfl⟩
                            replace H : (some (t140 == (mn a2 (ji49)))) = some r := by first | (rw [hji49] at H; exact H) | (simp only [hji49] at H ⊢; exact H)
                            (try (have hji49l : 0 ≤ ji49 := by (rw [← hji49]; unfold mx; (repeat' split) <;> omega)))
                            (try (have hji49m : 0 ≤ ji49 := by omega))
                            have hji49_ : (if (wrap64 (((rdOf ByteArray.empty l0 t136).size : Int) - 1)) < 0 then 0 else (wrap64 (((rdOf ByteArray.empty l0 t136).size : Int) - 1))) = ji49 := hji49
                            obtain ⟨ji50, hji50⟩ : ∃ j_ : Int, (mn a2 (ji49)) = j_ := ⟨_, rfl⟩
                            replace H : (some (t140 == (ji50))) = some r := by first | (rw [hji50] at H; exact H) | (simp only [hji50] at H ⊢; exact H)
                            have hji50_ : (if (ji49) < a2 then (ji49) else a2) = ji50 := hji50
                            obtain rfl := Option.some.inj H
                            have hnb51 := NB138_141.out
                            have hnc51 := NB141_138.out
                            have hcz52_0 : wc.cell? ⟨gb138, 0, none⟩ = some (.int .i64 t136) := (blk_cell BK138.out 0).trans rfl
                            have hcz52_1 : wc.cell? ⟨gb138, 1, none⟩ = some (.int .i64 t137) := (blk_cell BK138.out 1).trans rfl
                            have hfz52_0 := blk_frozen BK138.out 0
                            have hfz52_1 := blk_frozen BK138.out 1
                            have hcz53_0 : wc.cell? ⟨gb141, 0, none⟩ = some (.int .i64 t139) := (blk_cell BK141.out 0).trans rfl
                            have hcz53_1 : wc.cell? ⟨gb141, 1, none⟩ = some (.int .i64 t140) := (blk_cell BK141.out 1).trans rfl
                            have hfz53_0 := blk_frozen BK141.out 0
                            have hfz53_1 := blk_frozen BK141.out 1
                            go_wp2
                            go_ret
                            exact ⟨by first | rfl | (simp [errW_none, errW_some] <;> rfl) | (simp only [← hji49, ← hji50]; first | rfl | (simp [errW_none, errW_some] <;> rfl)) | (simp [*, errW_none, errW_some] <;> rfl), by repeat (first | (with_reducible first | exact HB.out | apply below_alloc | apply pw_below_drewN | apply below_drew1 | refine below_set ?_ GE138.out | refine below_set ?_ GE141.out) | exact HB.out)⟩
                          · rw [if_neg c48] at H
                            have c48b0 : (t137 == a2) = false := beq_eq_false_iff_ne.mpr c48
                            have c48b1 : (t137 != a2) = true := bne_iff_ne.mpr c48
                            obtain rfl := Option.some.inj H
                            have hnb54 := NB138_141.out
                            have hnc54 := NB141_138.out
                            have hcz55_0 : wc.cell? ⟨gb138, 0, none⟩ = some (.int .i64 t136) := (blk_cell BK138.out 0).trans rfl
                            have hcz55_1 : wc.cell? ⟨gb138, 1, none⟩ = some (.int .i64 t137) := (blk_cell BK138.out 1).trans rfl
                            have hfz55_0 := blk_frozen BK138.out 0
                            have hfz55_1 := blk_frozen BK138.out 1
                            go_wp2
                            go_ret
                            exact ⟨by first | rfl | (simp [errW_none, errW_some] <;> rfl) | (simp [*, errW_none, errW_some] <;> rfl), by repeat (first | (with_reducible first | exact HB.out | apply below_alloc | apply pw_below_drewN | apply below_drew1 | refine below_set ?_ GE138.out | refine below_set ?_ GE141.out) | exact HB.out)⟩
                        · rw [if_neg c47] at H
                          have c47b0 : decide (a2 ≤ ((rdOf ByteArray.empty l0 t136).size : Int)) = false := decide_eq_false c47
                          clear c47
                          obtain rfl := Option.some.inj H
                          have hnb56 := NB138_141.out
                          have hnc56 := NB141_138.out
                          have hcz57_0 : wc.cell? ⟨gb138, 0, none⟩ = some (.int .i64 t136) := (blk_cell BK138.out 0).trans rfl
                          have hcz57_1 : wc.cell? ⟨gb138, 1, none⟩ = some (.int .i64 t137) := (blk_cell BK138.out 1).trans rfl
                          have hfz57_0 := blk_frozen BK138.out 0
                          have hfz57_1 := blk_frozen BK138.out 1
                          go_wp2
                          go_ret
                          exact ⟨by first | rfl | (simp [errW_none, errW_some] <;> rfl) | (simp [*, errW_none, errW_some] <;> rfl), by repeat (first | (with_reducible first | exact HB.out | apply below_alloc | apply pw_below_drewN | apply below_drew1 | refine below_set ?_ GE138.out | refine below_set ?_ GE141.out) | exact HB.out)⟩
                      · rw [if_neg c46] at H
                        have c46b0 : decide (0 ≤ a2) = false := decide_eq_false c46
                        clear c46
                        obtain rfl := Option.some.inj H
                        have hnb58 := NB138_141.out
                        have hnc58 := NB141_138.out
                        have hcz59_0 : wc.cell? ⟨gb138, 0, none⟩ = some (.int .i64 t136) := (blk_cell BK138.out 0).trans rfl
                        have hcz59_1 : wc.cell? ⟨gb138, 1, none⟩ = some (.int .i64 t137) := (blk_cell BK138.out 1).trans rfl
                        have hfz59_0 := blk_frozen BK138.out 0
                        have hfz59_1 := blk_frozen BK138.out 1
                        go_wp2
                        go_ret
                        exact ⟨by first | rfl | (simp [errW_none, errW_some] <;> rfl) | (simp [*, errW_none, errW_some] <;> rfl), by repeat (first | (with_reducible first | exact HB.out | apply below_alloc | apply pw_below_drewN | apply below_drew1 | refine below_set ?_ GE138.out | refine below_set ?_ GE141.out) | exact HB.out)⟩
                    · rw [if_neg c45] at H
                      have c45b0 : (t136 == a1) = false := beq_eq_false_iff_ne.mpr c45
                      have c45b1 : (t136 != a1) = true := bne_iff_ne.mpr c45
                      obtain rfl := Option.some.inj H
                      have hnb60 := NB138_141.out
                      have hnc60 := NB141_138.out
                      have hcz61_0 : wc.cell? ⟨gb138, 0, none⟩ = some (.int .i64 t136) := (blk_cell BK138.out 0).trans rfl
                      have hcz61_1 : wc.cell? ⟨gb138, 1, none⟩ = some (.int .i64 t137) := (blk_cell BK138.out 1).trans rfl
                      have hfz61_0 := blk_frozen BK138.out 0
                      have hfz61_1 := blk_frozen BK138.out 1
                      go_wp2
                      go_ret
                      exact ⟨by first | rfl | (simp [errW_none, errW_some] <;> rfl) | (simp [*, errW_none, errW_some] <;> rfl), by repeat (first | (with_reducible first | exact HB.out | apply below_alloc | apply pw_below_drewN | apply below_drew1 | refine below_set ?_ GE138.out | refine below_set ?_ GE141.out) | exact HB.out)⟩
                  · rw [if_neg c44] at H
                    have c44b0 : decide (a1 < (l0.length : Int)) = false := decide_eq_false c44
                    clear c44
                    by_cases c62 : a2 ≥ 0
                    · rw [if_pos c62] at H
                      have c62b0 : decide (0 ≤ a2) = true := decide_eq_true c62
                      clear c62
                      by_cases c63 : a2 ≤ ((rdOf ByteArray.empty l0 t136).size : Int)
                      · rw [if_pos c63] at H
                        have c63b0 : decide (a2 ≤ ((rdOf ByteArray.empty l0 t136).size : Int)) = true := decide_eq_true c63
                        clear c63
                        by_cases c64 : t137 = a2
                        · rw [if_pos c64] at H
                          have c64b0 : (t137 == a2) = true := beq_iff_eq.mpr c64
                          have c64b1 : (t137 != a2) = false := bne_eq_false_iff_eq.mpr c64
                          clear c64
                          obtain ⟨ji65, hji65⟩ : ∃ j_ : Int, (mx (wrap64 (((rdOf ByteArray.empty l0 t136).size : Int) - 1)) 0) = j_ := ⟨_, rfl⟩
                          replace H : (some (t140 == (mn a2 (ji65)))) = some r := by first | (rw [hji65] at H; exact H) | (simp only [hji65] at H ⊢; exact H)
                          (try (have hji65l : 0 ≤ ji65 := by (rw [← hji65]; unfold mx; (repeat' split) <;> omega)))
                          (try (have hji65m : 0 ≤ ji65 := by omega))
                          have hji65_ : (if (wrap64 (((rdOf ByteArray.empty l0 t136).size : Int) - 1)) < 0 then 0 else (wrap64 (((rdOf ByteArray.empty l0 t136).size : Int) - 1))) = ji65 := hji65
                          obtain ⟨ji66, hji66⟩ : ∃ j_ : Int, (mn a2 (ji65)) = j_ := ⟨_, rfl⟩
                          replace H : (some (t140 == (ji66))) = some r := by first | (rw [hji66] at H; exact H) | (simp only [hji66] at H ⊢; exact H)
                          have hji66_ : (if (ji65) < a2 then (ji65) else a2) = ji66 := hji66
                          obtain rfl := Option.some.inj H
                          have hnb67 := NB138_141.out
                          have hnc67 := NB141_138.out
                          have hcz68_0 : wc.cell? ⟨gb138, 0, none⟩ = some (.int .i64 t136) := (blk_cell BK138.out 0).trans rfl
                          have hcz68_1 : wc.cell? ⟨gb138, 1, none⟩ = some (.int .i64 t137) := (blk_cell BK138.out 1).trans rfl
                          have hfz68_0 := blk_frozen BK138.out 0
                          have hfz68_1 := blk_frozen BK138.out 1
                          have hcz69_0 : wc.cell? ⟨gb141, 0, none⟩ = some (.int .i64 t139) := (blk_cell BK141.out 0).trans rfl
                          have hcz69_1 : wc.cell? ⟨gb141, 1, none⟩ = some (.int .i64 t140) := (blk_cell BK141.out 1).trans rfl
                          have hfz69_0 := blk_frozen BK141.out 0
                          have hfz69_1 := blk_frozen BK141.out 1
                          go_wp2
                          go_ret
                          exact ⟨by first | rfl | (simp [errW_none, errW_some] <;> rfl) | (simp only [← hji65, ← hji66]; first | rfl | (simp [errW_none, errW_some] <;> rfl)) | (simp [*, errW_none, errW_some] <;> rfl), by repeat (first | (with_reducible first | exact HB.out | apply below_alloc | apply pw_below_drewN | apply below_drew1 | refine below_set ?_ GE138.out | refine below_set ?_ GE141.out) | exact HB.out)⟩
                        · rw [if_neg c64] at H
                          have c64b0 : (t137 == a2) = false := beq_eq_false_iff_ne.mpr c64
                          have c64b1 : (t137 != a2) = true := bne_iff_ne.mpr c64
                          obtain rfl := Option.some.inj H
                          have hnb70 := NB138_141.out
                          have hnc70 := NB141_138.out
                          have hcz71_0 : wc.cell? ⟨gb138, 0, none⟩ = some (.int .i64 t136) := (blk_cell BK138.out 0).trans rfl
                          have hcz71_1 : wc.cell? ⟨gb138, 1, none⟩ = some (.int .i64 t137) := (blk_cell BK138.out 1).trans rfl
                          have hfz71_0 := blk_frozen BK138.out 0
                          have hfz71_1 := blk_frozen BK138.out 1
                          go_wp2
                          go_ret
                          exact ⟨by first | rfl | (simp [errW_none, errW_some] <;> rfl) | (simp [*, errW_none, errW_some] <;> rfl), by repeat (first | (with_reducible first | exact HB.out | apply below_alloc | apply pw_below_drewN | apply below_drew1 | refine below_set ?_ GE138.out | refine below_set ?_ GE141.out) | exact HB.out)⟩
                      · rw [if_neg c63] at H
                        have c63b0 : decide (a2 ≤ ((rdOf ByteArray.empty l0 t136).size : Int)) = false := decide_eq_false c63
                        clear c63
                        obtain rfl := Option.some.inj H
                        go_wp2
                        go_ret
                        exact ⟨by first | rfl | (simp [errW_none, errW_some] <;> rfl) | (simp [*, errW_none, errW_some] <;> rfl), by repeat (first | (with_reducible first | exact HB.out | apply below_alloc | apply pw_below_drewN | apply below_drew1 | refine below_set ?_ GE138.out | refine below_set ?_ GE141.out) | exact HB.out)⟩
                    · rw [if_neg c62] at H
                      have c62b0 : decide (0 ≤ a2) = false := decide_eq_false c62
                      clear c62
                      obtain rfl := Option.some.inj H
                      go_wp2
                      go_ret
                      exact ⟨by first | rfl | (simp [errW_none, errW_some] <;> rfl) | (simp [*, errW_none, errW_some] <;> rfl), by repeat (first | (with_reducible first | exact HB.out | apply below_alloc | apply pw_below_drewN | apply below_drew1 | refine below_set ?_ GE138.out | refine below_set ?_ GE141.out) | exact HB.out)⟩
                · rw [if_neg c43] at H
                  have c43b0 : decide (0 ≤ a1) = false := decide_eq_false c43
                  clear c43
                  by_cases c72 : a2 ≥ 0
                  · rw [if_pos c72] at H
                    have c72b0 : decide (0 ≤ a2) = true := decide_eq_true c72
                    clear c72
                    by_cases c73 : a2 ≤ ((rdOf ByteArray.empty l0 t136).size : Int)
                    · rw [if_pos c73] at H
                      have c73b0 : decide (a2 ≤ ((rdOf ByteArray.empty l0 t136).size : Int)) = true := decide_eq_true c73
                      clear c73
                      by_cases c74 : t137 = a2
                      · rw [if_pos c74] at H
                        have c74b0 : (t137 == a2) = true := beq_iff_eq.mpr c74
                        have c74b1 : (t137 != a2) = false := bne_eq_false_iff_eq.mpr c74
                        clear c74
                        obtain ⟨ji75, hji75⟩ : ∃ j_ : Int, (mx (wrap64 (((rdOf ByteArray.empty l0 t136).size : Int) - 1)) 0) = j_ := ⟨_, rfl⟩
                        replace H : (some (t140 == (mn a2 (ji75)))) = some r := by first | (rw [hji75] at H; exact H) | (simp only [hji75] at H ⊢; exact H)
                        (try (have hji75l : 0 ≤ ji75 := by (rw [← hji75]; unfold mx; (repeat' split) <;> omega)))
                        (try (have hji75m : 0 ≤ ji75 := by omega))
                        have hji75_ : (if (wrap64 (((rdOf ByteArray.empty l0 t136).size : Int) - 1)) < 0 then 0 else (wrap64 (((rdOf ByteArray.empty l0 t136).size : Int) - 1))) = ji75 := hji75
                        obtain ⟨ji76, hji76⟩ : ∃ j_ : Int, (mn a2 (ji75)) = j_ := ⟨_, rfl⟩
                        replace H : (some (t140 == (ji76))) = some r := by first | (rw [hji76] at H; exact H) | (simp only [hji76] at H ⊢; exact H)
                        have hji76_ : (if (ji75) < a2 then (ji75) else a2) = ji76 := hji76
                        obtain rfl := Option.some.inj H
                        have hnb77 := NB138_141.out
                        have hnc77 := NB141_138.out
                        have hcz78_0 : wc.cell? ⟨gb138, 0, none⟩ = some (.int .i64 t136) := (blk_cell BK138.out 0).trans rfl
                        have hcz78_1 : wc.cell? ⟨gb138, 1, none⟩ = some (.int .i64 t137) := (blk_cell BK138.out 1).trans rfl
                        have hfz78_0 := blk_frozen BK138.out 0
                        have hfz78_1 := blk_frozen BK138.out 1
                        have hcz79_0 : wc.cell? ⟨gb141, 0, none⟩ = some (.int .i64 t139) := (blk_cell BK141.out 0).trans rfl
                        have hcz79_1 : wc.cell? ⟨gb141, 1, none⟩ = some (.int .i64 t140) := (blk_cell BK141.out 1).trans rfl
                        have hfz79_0 := blk_frozen BK141.out 0
                        have hfz79_1 := blk_frozen BK141.out 1
                        go_wp2
                        go_ret
                        exact ⟨by first | rfl | (simp [errW_none, errW_some] <;> rfl) | (simp only [← hji75, ← hji76]; first | rfl | (simp [errW_none, errW_some] <;> rfl)) | (simp [*, errW_none, errW_some] <;> rfl), by repeat (first | (with_reducible first | exact HB.out | apply below_alloc | apply pw_below_drewN | apply below_drew1 | refine below_set ?_ GE138.out | refine below_set ?_ GE141.out) | exact HB.out)⟩
                      · rw [if_neg c74] at H
                        have c74b0 : (t137 == a2) = false := beq_eq_false_iff_ne.mpr c74
                        have c74b1 : (t137 != a2) = true := bne_iff_ne.mpr c74
                        obtain rfl := Option.some.inj H
                        have hnb80 := NB138_141.out
                        have hnc80 := NB141_138.out
                        have hcz81_0 : wc.cell? ⟨gb138, 0, none⟩ = some (.int .i64 t136) := (blk_cell BK138.out 0).trans rfl
                        have hcz81_1 : wc.cell? ⟨gb138, 1, none⟩ = some (.int .i64 t137) := (blk_cell BK138.out 1).trans rfl
                        have hfz81_0 := blk_frozen BK138.out 0
                        have hfz81_1 := blk_frozen BK138.out 1
                        go_wp2
                        go_ret
                        exact ⟨by first | rfl | (simp [errW_none, errW_some] <;> rfl) | (simp [*, errW_none, errW_some] <;> rfl), by repeat (first | (with_reducible first | exact HB.out | apply below_alloc | apply pw_below_drewN | apply below_drew1 | refine below_set ?_ GE138.out | refine below_set ?_ GE141.out) | exact HB.out)⟩
                    · rw [if_neg c73] at H
                      have c73b0 : decide (a2 ≤ ((rdOf ByteArray.empty l0 t136).size : Int)) = false := decide_eq_false c73
                      clear c73
                      obtain rfl := Option.some.inj H
                      go_wp2
                      go_ret
                      exact ⟨by first | rfl | (simp [errW_none, errW_some] <;> rfl) | (simp [*, errW_none, errW_some] <;> rfl), by repeat (first | (with_reducible first | exact HB.out | apply below_alloc | apply pw_below_drewN | apply below_drew1 | refine below_set ?_ GE138.out | refine below_set ?_ GE141.out) | exact HB.out)⟩
                  · rw [if_neg c72] at H
                    have c72b0 : decide (0 ≤ a2) = false := decide_eq_false c72
                    clear c72
                    obtain rfl := Option.some.inj H
                    go_wp2
                    go_ret
                    exact ⟨by first | rfl | (simp [errW_none, errW_some] <;> rfl) | (simp [*, errW_none, errW_some] <;> rfl), by repeat (first | (with_reducible first | exact HB.out | apply below_alloc | apply pw_below_drewN | apply below_drew1 | refine below_set ?_ GE138.out | refine below_set ?_ GE141.out) | exact HB.out)⟩
        · rw [if_neg c11] at H
          exact absurd H (by simp)
      · rw [if_neg c10] at H
        exact absurd H (by simp)
    · replace c7 := Bool.eq_false_iff.mpr c7
      subst c7
      have H1 : (some true) = some r := by rw [if_neg (show ¬ (false = true) by decide)] at H; exact H
      clear H
      have H := H1
      clear H1
      obtain rfl := Option.some.inj H
      go_enter Try.func7, Try.ntmps7
      go_wp2_with (first | ((with_reducible refine gate_callee (f := 12) rfl ?_); refine goesL_ (some 10) rfl rfl Try.func12 (by kernel_rfl) rfl #[] rfl (by (try simp only [List.map_toArray, List.map_cons, List.map_nil]); first | done | rfl | (simp only [List.length_drop, List.length_take]; rfl)) ?_; (with_reducible refine (foolscaplaw5_known.calls k  true _ A4.out).mono ?_); rintro e w82 ⟨rfl, hb⟩; refine ⟨_, rfl, ?_⟩; have n0_ := Aside0.mk (below_step (by repeat (first | (with_reducible first | exact HB.out | apply below_alloc | apply pw_below_drewN | apply below_drew1) | exact HB.out)) hb); clear HB; have HB := n0_; clear n0_; (try clear hb); (try clear hb2); (try clear hk); (try clear hi)) | ((with_reducible refine gate_callee (f := 24) rfl ?_); refine goesL_ (some 13) rfl rfl Try.func24 (by kernel_rfl) rfl #[.slice A0 l0.length c0] rfl (by (try simp only [List.map_toArray, List.map_cons, List.map_nil]); first | done | rfl | (simp only [List.length_drop, List.length_take]; rfl)) ?_; (with_reducible refine (foolscaphelp_Text.calls k _ _ l0 false _ ?side1 ?side2 A6.out).mono ?_); (case side1 => repeat (first | exact (Kd.C_below HR0.out HB.out) | (with_reducible refine Kd.C_alloc ?_ _) | (with_reducible refine Kd.C_drewN ?_ _) | (with_reducible refine Kd.C_drew ?_))); (case side2 => exact HC0.out); rintro e w' ⟨rfl, ⟨nd, rfl⟩⟩; refine ⟨_, rfl, ?_⟩))
      go_ret
      exact ⟨by first | rfl | (simp [errW_none, errW_some] <;> rfl) | (simp [*, errW_none, errW_some] <;> rfl), by repeat (first | (with_reducible first | exact HB.out | apply below_alloc | apply pw_below_drewN | apply below_drew1) | exact HB.out)⟩
  · replace c5 := Bool.eq_false_iff.mpr c5
    subst c5
    have H1 : (some false) = some r := by rw [if_neg (show ¬ (false = true) by decide)] at H; exact H
    clear H
    have H := H1
    clear H1
    obtain rfl := Option.some.inj H
    go_enter Try.func7, Try.ntmps7
    go_wp2_with (first | ((with_reducible refine gate_callee (f := 12) rfl ?_); refine goesL_ (some 10) rfl rfl Try.func12 (by kernel_rfl) rfl #[] rfl (by (try simp only [List.map_toArray, List.map_cons, List.map_nil]); first | done | rfl | (simp only [List.length_drop, List.length_take]; rfl)) ?_; (with_reducible refine (foolscaplaw5_known.calls k  false _ A4.out).mono ?_); rintro e w83 ⟨rfl, hb⟩; refine ⟨_, rfl, ?_⟩; have n0_ := Aside0.mk (below_step (by repeat (first | (with_reducible first | exact HB.out | apply below_alloc | apply pw_below_drewN | apply below_drew1) | exact HB.out)) hb); clear HB; have HB := n0_; clear n0_; (try clear hb); (try clear hb2); (try clear hk); (try clear hi)))
    go_ret
    exact ⟨by first | rfl | (simp [errW_none, errW_some] <;> rfl) | (simp [*, errW_none, errW_some] <;> rfl), by repeat (first | (with_reducible first | exact HB.out | apply below_alloc | apply pw_below_drewN | apply below_drew1) | exact HB.out)⟩

end Go.Proofs.Ytdcbgmeljakmcaa.PClassInside
