/-
  No cell of these rows narrows 'for every input' (looked for: loops, veiled, ifaces, maps, wideKeys, modest, calm, conditions, laid).
  DERIVED. THE GIVEN ROWS OF THIS SEAT. 3 by the template 'for every input the law returns true; each argument reads behind the call as it read before'; 0 by the template 'total and deterministic' (their statements: YtlkmidginogehaaTotals.lean).
  GIVEN WITH THE SEED: the statements are not yours to turn. If you find one false, say at which input.
  Laid BY PROGRAM, IN A SANDBOX (cutbox-rows.mjs): the forced cells as the released guide's own fill.sh prints them over the translation f26d39a978f0015b… (all of the seat's roots in one cut). By AI agents, Wed Nov 11 2026. No macro, syntax, notation, axiom, sorry.
-/
import Derived.Test.YtlkmidginogehaaChecked
import GoSem.Claim
import GoSem.ClaimJoined
import GoSem.ClaimMapViews
import Derived.JoinedTies
import Derived.KernelRfl
namespace Go.Proofs.Ytlkmidginogehaa
/- THE CELL 'sum', in the pinned program and in every row, IS THE sha256 OF THE DUMP (.gsa) THAT YtlkmidginogehaaProg.lean LOADS. Nothing in Lean hashes anything: it is a label: what it is worth is what the hold of that sum in a sandbox is worth. -/
noncomputable def Try.pinned : Pinned := { name := "ytlkmidginogehaa", sum := "f26d39a978f0015bd6b7d053ee78da0f450ec1d9ecb0ff3306526bcb163e0363", checked := Try.checked }
namespace Rows
def none {H : Type} : Left H := { results := [], args := [] }

/-- 'foolscaplaw21.ChangeApplies': WHATEVER THE INPUT: true; the input reads as it did. -/
def changeAppliesSpec : ChangeSpec := { name := "changeApplies", fn := fun _ => fun
  | [d1, d2] => { results := [.lit (.bool true)], args := [d1, d2] }
  | _ => none }
def changeAppliesRow : OpenClaim := { program := "ytlkmidginogehaa", sum := "f26d39a978f0015bd6b7d053ee78da0f450ec1d9ecb0ff3306526bcb163e0363", func := "foolscap/foolscaplaw21.ChangeApplies", spec := "changeApplies", unfollowed := true, recurses := true, apart := false }
def ChangeAppliesSaid : Prop := changeAppliesRow.holds Try.pinned (OpenSpec.ofChange changeAppliesSpec)

/-- ITS FALSE NEIGHBOUR: 'it returns false'. Refute it at one input. -/
def changeAppliesWrong : ChangeSpec := { name := "changeApplies", fn := fun _ => fun
  | [d1, d2] => { results := [.lit (.bool false)], args := [d1, d2] }
  | _ => none }
def ChangeAppliesWrongFalsely : Prop := changeAppliesRow.holds Try.pinned (OpenSpec.ofChange changeAppliesWrong)

/-- 'foolscaplaw21.ChangeBack': WHATEVER THE INPUT: true; the input reads as it did. -/
def changeBackSpec : ChangeSpec := { name := "changeBack", fn := fun _ => fun
  | [d1, d2] => { results := [.lit (.bool true)], args := [d1, d2] }
  | _ => none }
def changeBackRow : OpenClaim := { program := "ytlkmidginogehaa", sum := "f26d39a978f0015bd6b7d053ee78da0f450ec1d9ecb0ff3306526bcb163e0363", func := "foolscap/foolscaplaw21.ChangeBack", spec := "changeBack", unfollowed := true, recurses := true, apart := false }
def ChangeBackSaid : Prop := changeBackRow.holds Try.pinned (OpenSpec.ofChange changeBackSpec)

/-- ITS FALSE NEIGHBOUR: 'it returns false'. Refute it at one input. -/
def changeBackWrong : ChangeSpec := { name := "changeBack", fn := fun _ => fun
  | [d1, d2] => { results := [.lit (.bool false)], args := [d1, d2] }
  | _ => none }
def ChangeBackWrongFalsely : Prop := changeBackRow.holds Try.pinned (OpenSpec.ofChange changeBackWrong)

/-- 'foolscaplaw21.ChangeRefuses': WHATEVER THE INPUT: true; the input reads as it did. -/
def changeRefusesSpec : ChangeSpec := { name := "changeRefuses", fn := fun _ => fun
  | [d1, d2, d3, d4, d5] => { results := [.lit (.bool true)], args := [d1, d2, d3, d4, d5] }
  | _ => none }
def changeRefusesRow : OpenClaim := { program := "ytlkmidginogehaa", sum := "f26d39a978f0015bd6b7d053ee78da0f450ec1d9ecb0ff3306526bcb163e0363", func := "foolscap/foolscaplaw21.ChangeRefuses", spec := "changeRefuses", unfollowed := true, recurses := true, apart := false }
def ChangeRefusesSaid : Prop := changeRefusesRow.holds Try.pinned (OpenSpec.ofChange changeRefusesSpec)

/-- ITS FALSE NEIGHBOUR: 'it returns false'. Refute it at one input. -/
def changeRefusesWrong : ChangeSpec := { name := "changeRefuses", fn := fun _ => fun
  | [d1, d2, d3, d4, d5] => { results := [.lit (.bool false)], args := [d1, d2, d3, d4, d5] }
  | _ => none }
def ChangeRefusesWrongFalsely : Prop := changeRefusesRow.holds Try.pinned (OpenSpec.ofChange changeRefusesWrong)

/- THE SECOND FORM. 'bulk': how many values and letters a reading holds, each counted each time it is reached (what is shared counts as often as it is met; a slice's spare places count too). A statement '..UptoSaid' is the law's where the arguments, and the package variables that the reading takes, are together of bulk at most 1048576: NARROWER than '..Said'. Prove '..Said' where nothing that the law and all that it calls make is longer than what came in: it says more and counts as full. Else prove '..UptoSaid'. A law counts once. -/
mutual
def uptoBulk {H : Type} : DataW H → Nat
  | .lit (.string bytes) => bytes.length + 1
  | .lit _ => 1
  | .nil => 1
  | .ptr d => uptoBulk d + 1
  | .slice elems spare => uptoBulkAll elems + uptoBulkAll spare + 1
  | .agg parts => uptoBulkAll parts + 1
  | .iface _ d => uptoBulk d + 1
  | .map entries => uptoBulkEntries entries + 1
  | .held _ => 1
def uptoBulkAll {H : Type} : List (DataW H) → Nat
  | [] => 0
  | d :: r => uptoBulk d + uptoBulkAll r
def uptoBulkEntries {H : Type} : List (Lit × DataW H) → Nat
  | [] => 0
  | x :: r => uptoBulkEntry x + uptoBulkEntries r
def uptoBulkEntry {H : Type} : Lit × DataW H → Nat
  | (.string bytes, d) => bytes.length + uptoBulk d + 1
  | (_, d) => uptoBulk d + 1
 end
def uptoSmall : (H : Type) → List (DataW H) → Bool := fun _ ds => decide (uptoBulkAll ds ≤ 1048576)
def OpenSpec.upto (s : _root_.Go.ChangeSpec) : _root_.Go.OpenSpec := { _root_.Go.OpenSpec.ofChange s with cond := some uptoSmall }

/-- 'foolscaplaw21.ChangeApplies', WHERE WHAT IT READS IS OF BULK AT MOST 1048576: true; the input reads as it did. -/
def changeAppliesUptoRow : OpenClaim := { program := "ytlkmidginogehaa", sum := "f26d39a978f0015bd6b7d053ee78da0f450ec1d9ecb0ff3306526bcb163e0363", func := "foolscap/foolscaplaw21.ChangeApplies", spec := "changeApplies", unfollowed := true, recurses := true, apart := false, narrowed := true }
def ChangeAppliesUptoSaid : Prop := changeAppliesUptoRow.holds Try.pinned (OpenSpec.upto changeAppliesSpec)

/-- 'foolscaplaw21.ChangeBack', WHERE WHAT IT READS IS OF BULK AT MOST 1048576: true; the input reads as it did. -/
def changeBackUptoRow : OpenClaim := { program := "ytlkmidginogehaa", sum := "f26d39a978f0015bd6b7d053ee78da0f450ec1d9ecb0ff3306526bcb163e0363", func := "foolscap/foolscaplaw21.ChangeBack", spec := "changeBack", unfollowed := true, recurses := true, apart := false, narrowed := true }
def ChangeBackUptoSaid : Prop := changeBackUptoRow.holds Try.pinned (OpenSpec.upto changeBackSpec)

/-- 'foolscaplaw21.ChangeRefuses', WHERE WHAT IT READS IS OF BULK AT MOST 1048576: true; the input reads as it did. -/
def changeRefusesUptoRow : OpenClaim := { program := "ytlkmidginogehaa", sum := "f26d39a978f0015bd6b7d053ee78da0f450ec1d9ecb0ff3306526bcb163e0363", func := "foolscap/foolscaplaw21.ChangeRefuses", spec := "changeRefuses", unfollowed := true, recurses := true, apart := false, narrowed := true }
def ChangeRefusesUptoSaid : Prop := changeRefusesUptoRow.holds Try.pinned (OpenSpec.upto changeRefusesSpec)

end Rows
end Go.Proofs.Ytlkmidginogehaa
