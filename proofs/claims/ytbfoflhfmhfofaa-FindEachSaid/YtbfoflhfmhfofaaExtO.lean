/- class.Of (as the kit's print wrote it); find.Word$1: its contract. -/
import Derived.Test.YtbfoflhfmhfofaaProg
import Derived.Below
import Derived.Deep.Draws
import Derived.Deep.AppendLies
import Derived.Maps.AppendAt
import Derived.OwnWalk
import Derived.Laws.BytesArg
import Derived.Laws.MakeOwn
import Derived.Laws.OwnMore
import Derived.Deep.OwnRows
import Derived.Tactics
import Derived.Lib.ConvBytes
import Derived.Laws.Slices
import Derived.WalkKit
import Derived.KernelRfl
import Derived.RowKit3
import Derived.Deep.LoopGhost
import Derived.Deep.QuietTactic
import Derived.BigQuiet
import Derived.WideLaws
import Derived.Deep.DeepCutAuto
import Derived.Deep.CutBlock
import Derived.Deep.RegionHeld3
import Derived.Laws.Rows
import Derived.Lib.AppendStr
import Derived.ArgAppend
import Derived.Laws.IdiomCopy
import Derived.OrdersHeld
import Derived.Laws.BitsLemmas
import Derived.RowKit
import Derived.Test.YtbfoflhfmhfofaaWWords
import Derived.Test.YtbfoflhfmhfofaaWLast
import Derived.Test.YtbfoflhfmhfofaaWTab
import Derived.Test.YtbfoflhfmhfofaaWQPut
import Derived.Test.YtbfoflhfmhfofaaWApart
import Derived.Test.YtbfoflhfmhfofaaWArr
import Derived.Test.YtbfoflhfmhfofaaWZeros
import Derived.Test.YtbfoflhfmhfofaaWFoot
import Derived.Test.YtbfoflhfmhfofaaWKept
import Derived.Test.YtbfoflhfmhfofaaWShare
import Derived.Test.YtbfoflhfmhfofaaWN
import Derived.Test.YtbfoflhfmhfofaaWEqStruct
import Derived.Test.YtbfoflhfmhfofaaWRepsOne
import Derived.Test.YtbfoflhfmhfofaaWGuard
import Derived.Test.YtbfoflhfmhfofaaWNEv
import Derived.Test.YtbfoflhfmhfofaaWMore
import Derived.Test.YtbfoflhfmhfofaaExtA
set_option linter.unusedVariables false
set_option linter.unusedSimpArgs false
namespace Go.Proofs.Ytbfoflhfmhfofaa.Ext
open Go.RowKit Go.Shelf Go.Proofs Go.Proofs.YtbfoflhfmhfofaaW.PrintWords Go.Proofs.YtbfoflhfmhfofaaW.PrintLast Go.Proofs.YtbfoflhfmhfofaaW.PrintMore

/-! ### class_Of: function 13 -/
mutual
def class_Of.j0 : Nat → Int → Bool → Bool → Option (Int)
  | 0, _, _, _ => none
  | k + 1, x0, x1, x5 => if x5 = true then (some 0) else (if x1 = true then (some 1) else (if x0 ≥ 97 then (class_Of.j1 k x0 (decide (x0 ≤ 122))) else (class_Of.j1 k x0 false)))
def class_Of.j1 : Nat → Int → Bool → Option (Int)
  | 0, _, _ => none
  | k + 1, x0, x14 => if x14 = true then (some 1) else (if x0 ≥ 65 then (class_Of.j2 k x0 (decide (x0 ≤ 90))) else (class_Of.j2 k x0 false))
def class_Of.j2 : Nat → Int → Bool → Option (Int)
  | 0, _, _ => none
  | k + 1, x0, x14 => if x14 = true then (some 1) else (if x0 ≥ 48 then (class_Of.j3 k x0 (decide (x0 ≤ 57))) else (class_Of.j3 k x0 false))
def class_Of.j3 : Nat → Int → Bool → Option (Int)
  | 0, _, _ => none
  | k + 1, x0, x14 => if x14 = true then (some 1) else (if x0 = 95 then (some 1) else (if x0 ≥ 128 then (some 1) else (some 2)))
end
def class_Of.f (k : Nat) (a0 : Int) (a1 : Bool) : Option (Int) := if a0 = 32 then (class_Of.j0 k a0 a1 true) else (class_Of.j0 k a0 a1 (a0 == 9))
theorem class_Of.mono_l : ∀ k, (∀ y0 y1 y2, LeO (class_Of.j0 k y0 y1 y2) (class_Of.j0 (k + 1) y0 y1 y2)) ∧ (∀ y0 y1, LeO (class_Of.j1 k y0 y1) (class_Of.j1 (k + 1) y0 y1)) ∧ (∀ y0 y1, LeO (class_Of.j2 k y0 y1) (class_Of.j2 (k + 1) y0 y1)) ∧ (∀ y0 y1, LeO (class_Of.j3 k y0 y1) (class_Of.j3 (k + 1) y0 y1))
  | 0 => ⟨fun _ _ _ r h => by simp [class_Of.j0] at h, fun _ _ r h => by simp [class_Of.j1] at h, fun _ _ r h => by simp [class_Of.j2] at h, fun _ _ r h => by simp [class_Of.j3] at h⟩
  | k + 1 => by
    obtain ⟨ih0, ih1, ih2, ih3⟩ := class_Of.mono_l k
    refine ⟨?_, ?_, ?_, ?_⟩
    · intro y0 y1 y2
      unfold class_Of.j0
      repeat' first
      | (with_reducible exact ih0 _ _ _)
      | (with_reducible exact ih1 _ _)
      | (with_reducible exact ih2 _ _)
      | (with_reducible exact ih3 _ _)
      | (with_reducible exact LeO.refl _)
      | (with_reducible exact LeO.none _)
      | (with_reducible refine LeO.ite ?_ ?_)
      | (with_reducible refine LeO.bind ?_ (fun _ => ?_))
      | exact ih0 _ _ _
      | exact ih1 _ _
      | exact ih2 _ _
      | exact ih3 _ _
      | exact LeO.none _
      | refine LeO.ite ?_ ?_
      | refine LeO.bind ?_ (fun _ => ?_)
    · intro y0 y1
      unfold class_Of.j1
      repeat' first
      | (with_reducible exact ih0 _ _ _)
      | (with_reducible exact ih1 _ _)
      | (with_reducible exact ih2 _ _)
      | (with_reducible exact ih3 _ _)
      | (with_reducible exact LeO.refl _)
      | (with_reducible exact LeO.none _)
      | (with_reducible refine LeO.ite ?_ ?_)
      | (with_reducible refine LeO.bind ?_ (fun _ => ?_))
      | exact ih0 _ _ _
      | exact ih1 _ _
      | exact ih2 _ _
      | exact ih3 _ _
      | exact LeO.none _
      | refine LeO.ite ?_ ?_
      | refine LeO.bind ?_ (fun _ => ?_)
    · intro y0 y1
      unfold class_Of.j2
      repeat' first
      | (with_reducible exact ih0 _ _ _)
      | (with_reducible exact ih1 _ _)
      | (with_reducible exact ih2 _ _)
      | (with_reducible exact ih3 _ _)
      | (with_reducible exact LeO.refl _)
      | (with_reducible exact LeO.none _)
      | (with_reducible refine LeO.ite ?_ ?_)
      | (with_reducible refine LeO.bind ?_ (fun _ => ?_))
      | exact ih0 _ _ _
      | exact ih1 _ _
      | exact ih2 _ _
      | exact ih3 _ _
      | exact LeO.none _
      | refine LeO.ite ?_ ?_
      | refine LeO.bind ?_ (fun _ => ?_)
    · intro y0 y1
      unfold class_Of.j3
      repeat' first
      | (with_reducible exact ih0 _ _ _)
      | (with_reducible exact ih1 _ _)
      | (with_reducible exact ih2 _ _)
      | (with_reducible exact ih3 _ _)
      | (with_reducible exact LeO.refl _)
      | (with_reducible exact LeO.none _)
      | (with_reducible refine LeO.ite ?_ ?_)
      | (with_reducible refine LeO.bind ?_ (fun _ => ?_))
      | exact ih0 _ _ _
      | exact ih1 _ _
      | exact ih2 _ _
      | exact ih3 _ _
      | exact LeO.none _
      | refine LeO.ite ?_ ?_
      | refine LeO.bind ?_ (fun _ => ?_)
theorem class_Of.mono : ∀ a0 a1 k, LeO (class_Of.f k a0 a1) (class_Of.f (k + 1) a0 a1) := by
  intro a0 a1 k
  obtain ⟨ih0, ih1, ih2, ih3⟩ := class_Of.mono_l k
  unfold class_Of.f
  repeat' first
      | (with_reducible exact ih0 _ _ _)
      | (with_reducible exact ih1 _ _)
      | (with_reducible exact ih2 _ _)
      | (with_reducible exact ih3 _ _)
      | (with_reducible exact LeO.refl _)
      | (with_reducible exact LeO.none _)
      | (with_reducible refine LeO.ite ?_ ?_)
      | (with_reducible refine LeO.bind ?_ (fun _ => ?_))
      | exact ih0 _ _ _
      | exact ih1 _ _
      | exact ih2 _ _
      | exact ih3 _ _
      | exact LeO.none _
      | refine LeO.ite ?_ ?_
      | refine LeO.bind ?_ (fun _ => ?_)
set_option maxHeartbeats 8000000 in
set_option maxRecDepth 100000 in
theorem class_Of.calls (k : Nat) (a0 : Int) (a1 : Bool) (r : Int) (w : World) (h : class_Of.f k a0 a1 = some r) :
    Calls Try.prog 29 #[.int .u8 a0, .bool a1] w fun e w' => e = .returned (.int .i64 r) ∧ Drawn0 w w' := by
  have H : (if a0 = 32 then (class_Of.j0 k a0 a1 true) else (class_Of.j0 k a0 a1 (a0 == 9))) = some r := h
  clear h
  have HC3 := Aside0.mk H
  clear H
  go_enter Try.func29, Try.ntmps29
  go_upto_region 1 with (fail)
  go_cut [5] (fun v5 wc => ∃ (kq : Nat) (x5_2 : Bool), v5 = .bool x5_2 ∧ Aside0 (class_Of.j0 kq a0 a1 x5_2 = some r) ∧ Aside0 (kq ≤ k) ∧ Drawn0 w wc)
  case first =>
    have H := HC3.out
    clear HC3
    by_cases c4 : a0 = 32
    · rw [if_pos c4] at H
      have c4b0 : (a0 == 32) = true := beq_iff_eq.mpr c4
      have c4b1 : (a0 != 32) = false := bne_eq_false_iff_eq.mpr c4
      clear c4
      (first | rw [c4b0] | (simp only [i64_w, i32_w]; rw [c4b0]) | skip)
      have H' := Aside0.mk H
      clear H
      go_wp2
      go_meet
      case rel => exact ⟨_, (true), (by first | rfl | (simp; done) | (simp [*]; done)), H', ⟨by first | omega | exact Nat.le_refl _⟩, by repeat (first | exact Drawn0.refl _ | apply Drawn0.step)⟩
    · rw [if_neg c4] at H
      have c4b0 : (a0 == 32) = false := beq_eq_false_iff_ne.mpr c4
      have c4b1 : (a0 != 32) = true := bne_iff_ne.mpr c4
      (first | rw [c4b0] | (simp only [i64_w, i32_w]; rw [c4b0]) | skip)
      have H' := Aside0.mk H
      clear H
      go_wp2
      go_meet
      case rel => exact ⟨_, ((a0 == 9)), (by first | rfl | (simp; done) | (simp [*]; done)), H', ⟨by first | omega | exact Nat.le_refl _⟩, by repeat (first | exact Drawn0.refl _ | apply Drawn0.step)⟩
  case rest =>
    clear HC3
    try clear c1
    try clear p2
    try clear c4
    try clear c4b0
    try clear c4b1
    obtain ⟨kq, x5_2, rfl, HA, HJ2, ⟨mc2, rfl⟩⟩ := hcut
    cases kq with
    | zero => exact absurd HA.out (by simp [class_Of.j0])
    | succ kj2 =>
      have H := HA.out
      clear HA
      simp only [class_Of.j0] at H
      by_cases c5 : x5_2 = true
      · subst c5
        have H1 : (some 0) = some r := by rw [if_pos rfl] at H; exact H
        clear H
        have H := H1
        clear H1
        obtain rfl := Option.some.inj H
        go_wp2
        go_ret
        exact ⟨by first | rfl | (simp; done) | (simp [*]; done), by repeat (first | exact Drawn0.refl _ | apply Drawn0.step)⟩
      · replace c5 := Bool.eq_false_iff.mpr c5
        subst c5
        have H1 : (if a1 = true then (some 1) else (if a0 ≥ 97 then (class_Of.j1 kj2 a0 (decide (a0 ≤ 122))) else (class_Of.j1 kj2 a0 false))) = some r := by rw [if_neg (show ¬ (false = true) by decide)] at H; exact H
        clear H
        have H := H1
        clear H1
        by_cases c6 : a1 = true
        · subst c6
          have H1 : (some 1) = some r := by rw [if_pos rfl] at H; exact H
          clear H
          have H := H1
          clear H1
          obtain rfl := Option.some.inj H
          go_wp2
          go_ret
          exact ⟨by first | rfl | (simp; done) | (simp [*]; done), by repeat (first | exact Drawn0.refl _ | apply Drawn0.step)⟩
        · replace c6 := Bool.eq_false_iff.mpr c6
          subst c6
          have H1 : (if a0 ≥ 97 then (class_Of.j1 kj2 a0 (decide (a0 ≤ 122))) else (class_Of.j1 kj2 a0 false)) = some r := by rw [if_neg (show ¬ (false = true) by decide)] at H; exact H
          clear H
          have H := H1
          clear H1
          have HC7 := Aside0.mk H
          clear H
          go_upto_region 5 with (fail)
          go_cut [14] (fun v14 wc => ∃ (kq : Nat) (x14_6 : Bool), v14 = .bool x14_6 ∧ Aside0 (class_Of.j1 kq a0 x14_6 = some r) ∧ Aside0 (kq ≤ kj2) ∧ Drawn0 w wc)
          case first =>
            have H := HC7.out
            clear HC7
            by_cases c8 : a0 ≥ 97
            · rw [if_pos c8] at H
              have c8b0 : decide (97 ≤ a0) = true := decide_eq_true c8
              clear c8
              (first | rw [c8b0] | (simp only [i64_w, i32_w]; rw [c8b0]) | skip)
              have H' := Aside0.mk H
              clear H
              go_wp2
              go_meet
              case rel => exact ⟨_, (decide (a0 ≤ 122)), (by first | rfl | (simp; done) | (simp [*]; done)), H', ⟨by have := HJ2.out; first | omega | exact Nat.le_refl _⟩, by repeat (first | exact Drawn0.refl _ | apply Drawn0.step)⟩
            · rw [if_neg c8] at H
              have c8b0 : decide (97 ≤ a0) = false := decide_eq_false c8
              clear c8
              (first | rw [c8b0] | (simp only [i64_w, i32_w]; rw [c8b0]) | skip)
              have H' := Aside0.mk H
              clear H
              go_wp2
              go_meet
              case rel => exact ⟨_, (false), (by first | rfl | (simp; done) | (simp [*]; done)), H', ⟨by have := HJ2.out; first | omega | exact Nat.le_refl _⟩, by repeat (first | exact Drawn0.refl _ | apply Drawn0.step)⟩
          case rest =>
            clear HC7
            try clear c1
            try clear c2
            try clear p2
            try clear c4
            try clear c4b0
            try clear c4b1
            try clear c5
            try clear c6
            try clear c8
            try clear c8b0
            try clear p2
            obtain ⟨kq, x14_6, rfl, HA, HJ6, ⟨mc6, rfl⟩⟩ := hcut
            cases kq with
            | zero => exact absurd HA.out (by simp [class_Of.j1])
            | succ kj6 =>
              have H := HA.out
              clear HA
              simp only [class_Of.j1] at H
              by_cases c9 : x14_6 = true
              · subst c9
                have H1 : (some 1) = some r := by rw [if_pos rfl] at H; exact H
                clear H
                have H := H1
                clear H1
                obtain rfl := Option.some.inj H
                go_wp2
                go_ret
                exact ⟨by first | rfl | (simp; done) | (simp [*]; done), by repeat (first | exact Drawn0.refl _ | apply Drawn0.step)⟩
              · replace c9 := Bool.eq_false_iff.mpr c9
                subst c9
                have H1 : (if a0 ≥ 65 then (class_Of.j2 kj6 a0 (decide (a0 ≤ 90))) else (class_Of.j2 kj6 a0 false)) = some r := by rw [if_neg (show ¬ (false = true) by decide)] at H; exact H
                clear H
                have H := H1
                clear H1
                have HC10 := Aside0.mk H
                clear H
                go_upto_region 6 with (fail)
                go_cut [14] (fun v14 wc => ∃ (kq : Nat) (x14_9 : Bool), v14 = .bool x14_9 ∧ Aside0 (class_Of.j2 kq a0 x14_9 = some r) ∧ Aside0 (kq ≤ kj6) ∧ Drawn0 w wc)
                case first =>
                  have H := HC10.out
                  clear HC10
                  by_cases c11 : a0 ≥ 65
                  · rw [if_pos c11] at H
                    have c11b0 : decide (65 ≤ a0) = true := decide_eq_true c11
                    clear c11
                    (first | rw [c11b0] | (simp only [i64_w, i32_w]; rw [c11b0]) | skip)
                    have H' := Aside0.mk H
                    clear H
                    go_wp2
                    go_meet
                    case rel => exact ⟨_, (decide (a0 ≤ 90)), (by first | rfl | (simp; done) | (simp [*]; done)), H', ⟨by have := HJ2.out; have := HJ6.out; first | omega | exact Nat.le_refl _⟩, by repeat (first | exact Drawn0.refl _ | apply Drawn0.step)⟩
                  · rw [if_neg c11] at H
                    have c11b0 : decide (65 ≤ a0) = false := decide_eq_false c11
                    clear c11
                    (first | rw [c11b0] | (simp only [i64_w, i32_w]; rw [c11b0]) | skip)
                    have H' := Aside0.mk H
                    clear H
                    go_wp2
                    go_meet
                    case rel => exact ⟨_, (false), (by first | rfl | (simp; done) | (simp [*]; done)), H', ⟨by have := HJ2.out; have := HJ6.out; first | omega | exact Nat.le_refl _⟩, by repeat (first | exact Drawn0.refl _ | apply Drawn0.step)⟩
                case rest =>
                  clear HC10
                  try clear c1
                  try clear c2
                  try clear p2
                  try clear c4
                  try clear c4b0
                  try clear c4b1
                  try clear c5
                  try clear c6
                  try clear c8
                  try clear c8b0
                  try clear c9
                  try clear c11
                  try clear c11b0
                  try clear p2
                  obtain ⟨kq, x14_9, rfl, HA, HJ9, ⟨mc9, rfl⟩⟩ := hcut
                  cases kq with
                  | zero => exact absurd HA.out (by simp [class_Of.j2])
                  | succ kj9 =>
                    have H := HA.out
                    clear HA
                    simp only [class_Of.j2] at H
                    by_cases c12 : x14_9 = true
                    · subst c12
                      have H1 : (some 1) = some r := by rw [if_pos rfl] at H; exact H
                      clear H
                      have H := H1
                      clear H1
                      obtain rfl := Option.some.inj H
                      go_wp2
                      go_ret
                      exact ⟨by first | rfl | (simp; done) | (simp [*]; done), by repeat (first | exact Drawn0.refl _ | apply Drawn0.step)⟩
                    · replace c12 := Bool.eq_false_iff.mpr c12
                      subst c12
                      have H1 : (if a0 ≥ 48 then (class_Of.j3 kj9 a0 (decide (a0 ≤ 57))) else (class_Of.j3 kj9 a0 false)) = some r := by rw [if_neg (show ¬ (false = true) by decide)] at H; exact H
                      clear H
                      have H := H1
                      clear H1
                      have HC13 := Aside0.mk H
                      clear H
                      go_upto_region 7 with (fail)
                      go_cut [14] (fun v14 wc => ∃ (kq : Nat) (x14_12 : Bool), v14 = .bool x14_12 ∧ Aside0 (class_Of.j3 kq a0 x14_12 = some r) ∧ Aside0 (kq ≤ kj9) ∧ Drawn0 w wc)
                      case first =>
                        have H := HC13.out
                        clear HC13
                        by_cases c14 : a0 ≥ 48
                        · rw [if_pos c14] at H
                          have c14b0 : decide (48 ≤ a0) = true := decide_eq_true c14
                          clear c14
                          (first | rw [c14b0] | (simp only [i64_w, i32_w]; rw [c14b0]) | skip)
                          have H' := Aside0.mk H
                          clear H
                          go_wp2
                          go_meet
                          case rel => exact ⟨_, (decide (a0 ≤ 57)), (by first | rfl | (simp; done) | (simp [*]; done)), H', ⟨by have := HJ2.out; have := HJ6.out; have := HJ9.out; first | omega | exact Nat.le_refl _⟩, by repeat (first | exact Drawn0.refl _ | apply Drawn0.step)⟩
                        · rw [if_neg c14] at H
                          have c14b0 : decide (48 ≤ a0) = false := decide_eq_false c14
                          clear c14
                          (first | rw [c14b0] | (simp only [i64_w, i32_w]; rw [c14b0]) | skip)
                          have H' := Aside0.mk H
                          clear H
                          go_wp2
                          go_meet
                          case rel => exact ⟨_, (false), (by first | rfl | (simp; done) | (simp [*]; done)), H', ⟨by have := HJ2.out; have := HJ6.out; have := HJ9.out; first | omega | exact Nat.le_refl _⟩, by repeat (first | exact Drawn0.refl _ | apply Drawn0.step)⟩
                      case rest =>
                        clear HC13
                        try clear c1
                        try clear c2
                        try clear p2
                        try clear c4
                        try clear c4b0
                        try clear c4b1
                        try clear c5
                        try clear c6
                        try clear c8
                        try clear c8b0
                        try clear c9
                        try clear c11
                        try clear c11b0
                        try clear c12
                        try clear c13
                        try clear c14
                        try clear c14b0
                        try clear p2
                        obtain ⟨kq, x14_12, rfl, HA, HJ12, ⟨mc12, rfl⟩⟩ := hcut
                        cases kq with
                        | zero => exact absurd HA.out (by simp [class_Of.j3])
                        | succ kj12 =>
                          have H := HA.out
                          clear HA
                          simp only [class_Of.j3] at H
                          by_cases c15 : x14_12 = true
                          · subst c15
                            have H1 : (some 1) = some r := by rw [if_pos rfl] at H; exact H
                            clear H
                            have H := H1
                            clear H1
                            obtain rfl := Option.some.inj H
                            go_wp2
                            go_ret
                            exact ⟨by first | rfl | (simp; done) | (simp [*]; done), by repeat (first | exact Drawn0.refl _ | apply Drawn0.step)⟩
                          · replace c15 := Bool.eq_false_iff.mpr c15
                            subst c15
                            have H1 : (if a0 = 95 then (some 1) else (if a0 ≥ 128 then (some 1) else (some 2))) = some r := by rw [if_neg (show ¬ (false = true) by decide)] at H; exact H
                            clear H
                            have H := H1
                            clear H1
                            by_cases c16 : a0 = 95
                            · rw [if_pos c16] at H
                              have c16b0 : (a0 == 95) = true := beq_iff_eq.mpr c16
                              have c16b1 : (a0 != 95) = false := bne_eq_false_iff_eq.mpr c16
                              clear c16
                              obtain rfl := Option.some.inj H
                              go_wp2
                              go_ret
                              exact ⟨by first | rfl | (simp; done) | (simp [*]; done), by repeat (first | exact Drawn0.refl _ | apply Drawn0.step)⟩
                            · rw [if_neg c16] at H
                              have c16b0 : (a0 == 95) = false := beq_eq_false_iff_ne.mpr c16
                              have c16b1 : (a0 != 95) = true := bne_iff_ne.mpr c16
                              by_cases c17 : a0 ≥ 128
                              · rw [if_pos c17] at H
                                have c17b0 : decide (128 ≤ a0) = true := decide_eq_true c17
                                clear c17
                                obtain rfl := Option.some.inj H
                                go_wp2
                                go_ret
                                exact ⟨by first | rfl | (simp; done) | (simp [*]; done), by repeat (first | exact Drawn0.refl _ | apply Drawn0.step)⟩
                              · rw [if_neg c17] at H
                                have c17b0 : decide (128 ≤ a0) = false := decide_eq_false c17
                                clear c17
                                obtain rfl := Option.some.inj H
                                go_wp2
                                go_ret
                                exact ⟨by first | rfl | (simp; done) | (simp [*]; done), by repeat (first | exact Drawn0.refl _ | apply Drawn0.step)⟩

/-- a blank: a space or a tab -/
def isBl (c : Int) : Prop := c = 32 ∨ c = 9
instance (c : Int) : Decidable (isBl c) := by unfold isBl; infer_instance
/-- the class of a byte (chapter 5) -/
def ofC (c : Int) (big : Bool) : Int :=
  if c = 32 ∨ c = 9 then 0
  else if big = true then 1
  else if (97 ≤ c ∧ c ≤ 122) ∨ (65 ≤ c ∧ c ≤ 90) ∨ (48 ≤ c ∧ c ≤ 57) ∨ c = 95 ∨ 128 ≤ c then 1
  else 2

theorem Of_val (k : Nat) (c : Int) (big : Bool) : class_Of.f (k + 4) c big = some (ofC c big) := by
  unfold class_Of.f ofC
  simp only [class_Of.j0, class_Of.j1, class_Of.j2, class_Of.j3]
  by_cases h1 : c = 32
  · simp [h1]
  · by_cases h2 : c = 9
    · simp [h2]
    · have h3 : (c == 9) = false := by simp [h2]
      simp only [h1, h3, if_false, false_or, Bool.false_eq_true]
      cases big
      · simp only [Bool.false_eq_true, if_false, decide_eq_true_eq, ge_iff_le, h2]
        by_cases a : 97 ≤ c <;> by_cases a' : c ≤ 122 <;> by_cases b : 65 ≤ c <;> by_cases b' : c ≤ 90 <;> by_cases d : 48 ≤ c <;> by_cases d' : c ≤ 57 <;> by_cases e : c = 95 <;> by_cases f : 128 ≤ c <;> simp [a, a', b, b', d, d', e, f] <;> omega
      · simp [h2]


theorem class_Of_is (c : Int) (big : Bool) (w : World) : Calls Try.prog 29 #[.int .u8 c, .bool big] w fun e w' => e = .returned (.int .i64 (ofC c big)) ∧ Drawn0 w w' := class_Of.calls 4 c big _ w (Of_val 0 c big)
/-- is a byte of a word at i? -/
def isW (s : ByteArray) (i : Int) : Bool := decide (0 ≤ i ∧ i < (s.size : Int) ∧ ofC (bt s i) false = 1)
attribute [local go_sem] Oper.semAt_some
attribute [local go_sem] wide_fn
set_option maxRecDepth 100000 in
set_option maxHeartbeats 1000000 in
theorem is1_calls (s : ByteArray) (i : Int) (B : Nat) (w : World) (hB : Boxed w B 9 (.string s)) :
    Calls Try.prog 28 #[.int .i64 i, .pointer (some ⟨B, 0, none⟩)] w fun e w' => e = .returned (.bool (isW s i)) ∧ Drawn0 w w' := by
  have hc := hB.cell
  by_cases h0 : 0 ≤ i
  · by_cases h1 : i < (s.size : Int)
    · have hc0 : decide (i ≥ 0) = true := decide_eq_true h0
      go_enter Try.func28, Try.ntmps28
      go_wp2_with (go_at_call 29; refine (class_Of_is _ _ _).mono ?_; rintro e w' ⟨rfl, hd⟩)
      go_ret
      refine ⟨?_, hd⟩
      have hb : bt s i = ((s[i.toNat]'(by omega)).toNat : Int) := by unfold bt; rw [dif_pos (by omega)]
      show Ending.returned (Value.bool _) = Ending.returned (Value.bool (isW s i))
      congr 2
      unfold isW
      rw [hb]
      rw [Bool.eq_iff_iff]; simp [h0, h1]
    · go_enter Try.func28, Try.ntmps28
      go_wp2
      go_ret
      exact ⟨by simp [isW]; omega, 0, rfl⟩
  · go_enter Try.func28, Try.ntmps28
    go_wp2
    go_ret
    exact ⟨by simp [isW]; omega, 0, rfl⟩

end Go.Proofs.Ytbfoflhfmhfofaa.Ext
