/- find.All and heard: their contracts, under the names that the printed text calls. -/
import Derived.Test.YtbfoflhfmhfofaaExt
import Derived.Test.YtbfoflhfmhfofaaExtH
set_option linter.unusedVariables false
namespace Go.Proofs.Ytbfoflhfmhfofaa.Out
open Go.RowKit Go.Proofs Go.Shelf Go.Proofs.YtbfoflhfmhfofaaW.PrintWords
open Ext (k28 S28 heardL allOcc)
/-- find.All: a closure over two boxes -/
theorem find_All.calls (A : Option Addr) (c : Nat) (l : List ByteArray) (s : ByteArray) (w : World) :
    Calls Try.prog 18 #[.slice A l.length c, .string s] w fun e w' => ∃ Bp Bl, e = .returned (.func (.func 30) #[] #[.pointer (some ⟨Bp, 0, none⟩), .pointer (some ⟨Bl, 0, none⟩)]) ∧ (Boxed w' Bp 9 (.string s) ∧ Boxed w' Bl 22 (.slice A l.length c)) ∧ Below w.heap.size w w' := by
  refine (Ext.all_calls A c l.length s w).mono ?_
  rintro e w' ⟨rfl, rfl⟩
  have bP := Boxed.new (w.alloc (.cells #[.slice A l.length c] 22)) 9 (.string s)
  rw [World.size_alloc] at bP
  exact ⟨_, _, rfl, ⟨bP, (Boxed.new w 22 _).alloc _⟩, ((Below.refl _ w).alloc (Nat.le_refl _) _).alloc (by simp) _⟩
/-- what is heard of a pattern's places -/
def foolscaplaw12_heard.f (l0 : List ByteArray) (a1 : ByteArray) (a2 : Int) : Option (List S28 × Bool) :=
  if l0.length ≤ 100000 ∧ (l0.map ByteArray.size).sum ≤ 100000 ∧ a1.size ≤ 100000 ∧ 1 ≤ a2 then some (heardL (allOcc l0 a1) a2, true) else none
theorem foolscaplaw12_heard.calls (Bp Bl : Nat) (A0 : Option Addr) (c0 : Nat) (l0 : List ByteArray) (a1 : ByteArray) (a2 : Int) (r1 : List S28) (r2 : Bool) (w : World) (hb : Boxed w Bp 9 (.string a1) ∧ Boxed w Bl 22 (.slice A0 l0.length c0)) (hr0 : Kd.C Kd.string w A0 l0.length l0) (hc0 : l0.length ≤ c0) (h : foolscaplaw12_heard.f l0 a1 a2 = some (r1, r2)) :
    Calls Try.prog 17 #[.func (.func 30) #[] #[.pointer (some ⟨Bp, 0, none⟩), .pointer (some ⟨Bl, 0, none⟩)], .int .i64 a2] w fun e w' => ∃ v, e = .returned (.tuple #[v, .bool r2]) ∧ Kd.R k28 28 w' w.heap.size (fun _ => True) v r1 ∧ Below w.heap.size w w' := by
  unfold foolscaplaw12_heard.f at h
  by_cases hc : l0.length ≤ 100000 ∧ (l0.map ByteArray.size).sum ≤ 100000 ∧ a1.size ≤ 100000 ∧ 1 ≤ a2
  · rw [if_pos hc] at h
    cases h
    have := Ext.heard_on w A0 c0 l0 a1 Bp Bl a2 hc.2.2.2 hr0 hb.1 hb.2 (by omega) (fun s hs => by have := Ext.size_le_sum l0 s hs; omega) (by omega) (by have := Ext.allOcc_length l0 a1; omega)
    exact (callsIn_wide.1 this).mono fun e w' ⟨⟨v, h1, h2⟩, h3⟩ => ⟨v, h1, h2, h3⟩
  · rw [if_neg hc] at h; cases h
end Go.Proofs.Ytbfoflhfmhfofaa.Out
