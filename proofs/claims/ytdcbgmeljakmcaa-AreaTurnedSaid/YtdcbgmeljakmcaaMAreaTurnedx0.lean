/- What the Go functions of this law compute, and that they do: written by this session's own program (wip/myprint), for all inputs that the print's conditions name. -/
import Derived.Test.YtdcbgmeljakmcaaProg
import Derived.Below
import Derived.Deep.Draws
import Derived.Deep.AppendLies
import Derived.Maps.AppendAt
import Derived.OwnWalk
import Derived.Laws.BytesArg
import Derived.Laws.MakeOwn
import Derived.Laws.OwnMore
import Derived.Deep.OwnRows
import Derived.Tactics
import Derived.Lib.ConvBytes
import Derived.Laws.Slices
import Derived.WalkKit
import Derived.KernelRfl
import Derived.RowKit3
import Derived.Deep.LoopGhost
import Derived.Deep.QuietTactic
import Derived.BigQuiet
import Derived.WideLaws
import Derived.Deep.DeepCutAuto
import Derived.Deep.CutBlock
import Derived.Deep.RegionHeld3
import Derived.Laws.Rows
import Derived.Lib.AppendStr
import Derived.ArgAppend
import Derived.Laws.IdiomCopy
import Derived.OrdersHeld
import Derived.Laws.BitsLemmas
import Derived.RowKit
import Derived.Test.YtdcbgmeljakmcaaWWords
import Derived.Test.YtdcbgmeljakmcaaWLast
import Derived.Test.YtdcbgmeljakmcaaWTab
import Derived.Test.YtdcbgmeljakmcaaWFour
import Derived.Test.YtdcbgmeljakmcaaWQPut
import Derived.Test.YtdcbgmeljakmcaaWApart
import Derived.Test.YtdcbgmeljakmcaaWArr
import Derived.Test.YtdcbgmeljakmcaaWZeros
import Derived.Test.YtdcbgmeljakmcaaWFoot
import Derived.Test.YtdcbgmeljakmcaaWKept
import Derived.Test.YtdcbgmeljakmcaaWShare
import Derived.Test.YtdcbgmeljakmcaaWN
import Derived.Test.YtdcbgmeljakmcaaWFootNe
import Derived.Test.YtdcbgmeljakmcaaWAt
import Derived.Test.YtdcbgmeljakmcaaWEqStruct
import Derived.Test.YtdcbgmeljakmcaaWRepsOne
import Derived.Test.YtdcbgmeljakmcaaWInv
import Derived.Test.YtdcbgmeljakmcaaWInvWords
import Derived.Test.YtdcbgmeljakmcaaWGuard
import Derived.Test.YtdcbgmeljakmcaaWNEv
import Derived.Test.YtdcbgmeljakmcaaWMore
namespace Go.Proofs.Ytdcbgmeljakmcaa.MAreaTurned
open Go.RowKit Go.Proofs.YtdcbgmeljakmcaaW.PrintWords Go.Proofs.YtdcbgmeljakmcaaW.PrintLast Go.Proofs.YtdcbgmeljakmcaaW.PrintMore
attribute [local go_sem] max2_int min2_int max_two min_two max_three min_three max_four min_four   -- for this text's walks alone
set_option linter.unusedVariables false
set_option linter.unusedSimpArgs false



def errW : Option Int → Value
  | none => .nilIface
  | some c => .iface 0 (.int .i64 c)
theorem errW_none : errW none = .nilIface := rfl
theorem errW_some (c : Int) : errW (some c) = .iface 0 (.int .i64 c) := rfl

theorem info9 : (Try.prog.info? 9).map (fun i => (i.zero, i.size, i.bytes)) = some (some (.string ⟨#[]⟩), 1, 16) := by kernel_rfl
-- the values' own types

end Go.Proofs.Ytdcbgmeljakmcaa.MAreaTurned
