/- What the Go functions of this law compute, and that they do: written by this session's own program (wip/myprint), for all inputs that the print's conditions name. -/
import Derived.Test.YtbfoflhfmhfofaaProg
import Derived.Below
import Derived.Deep.Draws
import Derived.Deep.AppendLies
import Derived.Maps.AppendAt
import Derived.OwnWalk
import Derived.Laws.BytesArg
import Derived.Laws.MakeOwn
import Derived.Laws.OwnMore
import Derived.Deep.OwnRows
import Derived.Tactics
import Derived.Lib.ConvBytes
import Derived.Laws.Slices
import Derived.WalkKit
import Derived.KernelRfl
import Derived.RowKit3
import Derived.Deep.LoopGhost
import Derived.Deep.QuietTactic
import Derived.BigQuiet
import Derived.WideLaws
import Derived.Deep.DeepCutAuto
import Derived.Deep.CutBlock
import Derived.Deep.RegionHeld3
import Derived.Laws.Rows
import Derived.Lib.AppendStr
import Derived.ArgAppend
import Derived.Laws.IdiomCopy
import Derived.OrdersHeld
import Derived.Laws.BitsLemmas
import Derived.RowKit
import Derived.Test.YtbfoflhfmhfofaaExt
import Derived.Test.YtbfoflhfmhfofaaWWords
import Derived.Test.YtbfoflhfmhfofaaWLast
import Derived.Test.YtbfoflhfmhfofaaWTab
import Derived.Test.YtbfoflhfmhfofaaWFour
import Derived.Test.YtbfoflhfmhfofaaWQPut
import Derived.Test.YtbfoflhfmhfofaaWApart
import Derived.Test.YtbfoflhfmhfofaaWArr
import Derived.Test.YtbfoflhfmhfofaaWZeros
import Derived.Test.YtbfoflhfmhfofaaWFoot
import Derived.Test.YtbfoflhfmhfofaaWKept
import Derived.Test.YtbfoflhfmhfofaaWShare
import Derived.Test.YtbfoflhfmhfofaaWN
import Derived.Test.YtbfoflhfmhfofaaWFootNe
import Derived.Test.YtbfoflhfmhfofaaWAt
import Derived.Test.YtbfoflhfmhfofaaWEqStruct
import Derived.Test.YtbfoflhfmhfofaaWRepsOne
import Derived.Test.YtbfoflhfmhfofaaWInv
import Derived.Test.YtbfoflhfmhfofaaWInvWords
import Derived.Test.YtbfoflhfmhfofaaWGuard
import Derived.Test.YtbfoflhfmhfofaaWNEv
import Derived.Test.YtbfoflhfmhfofaaWMore
namespace Go.Proofs.Ytbfoflhfmhfofaa.MFindWords
open Go.RowKit Go.Proofs.Ytbfoflhfmhfofaa.Out Go.Proofs.YtbfoflhfmhfofaaW.PrintWords Go.Proofs.YtbfoflhfmhfofaaW.PrintLast Go.Proofs.YtbfoflhfmhfofaaW.PrintMore
attribute [local go_sem] max2_int min2_int max_two min_two max_three min_three max_four min_four   -- for this text's walks alone
set_option linter.unusedVariables false
set_option linter.unusedSimpArgs false



def errW : Option Int → Value
  | none => .nilIface
  | some c => .iface 0 (.int .i64 c)
theorem errW_none : errW none = .nilIface := rfl
theorem errW_some (c : Int) : errW (some c) = .iface 0 (.int .i64 c) := rfl

theorem info9 : (Try.prog.info? 9).map (fun i => (i.zero, i.size, i.bytes)) = some (some (.string ⟨#[]⟩), 1, 16) := by kernel_rfl
-- the values' own types

end Go.Proofs.Ytbfoflhfmhfofaa.MFindWords
