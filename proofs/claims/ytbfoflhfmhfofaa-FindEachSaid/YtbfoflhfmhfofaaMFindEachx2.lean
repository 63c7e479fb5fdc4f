/- What the Go functions of this law compute, and that they do: written by this session's own program (wip/myprint), for all inputs that the print's conditions name. -/
import Derived.Test.YtbfoflhfmhfofaaMFindEachx0
import Derived.Test.YtbfoflhfmhfofaaMFindEachx1
namespace Go.Proofs.Ytbfoflhfmhfofaa.MFindEach
open Go.Proofs.Ytbfoflhfmhfofaa.Few (pk bset ba bn bd)
open Go.RowKit Go.Proofs.Ytbfoflhfmhfofaa.Out Go.Proofs.YtbfoflhfmhfofaaW.PrintWords Go.Proofs.YtbfoflhfmhfofaaW.PrintLast Go.Proofs.YtbfoflhfmhfofaaW.PrintMore
attribute [local go_sem] max2_int min2_int max_two min_two max_three min_three max_four min_four   -- for this text's walks alone
set_option linter.unusedVariables false
set_option linter.unusedSimpArgs false

theorem eqA30 (d : Nat) (w : World) (x0 y0 : Int) (x1 y1 : Int) (x2 y2 : Int) (x3 y3 : Bool) (x4 y4 : Int) :
  (Op.equalIn (d + 3) 30 (.agg #[.int .i64 x0, .int .i64 x1, .int .i64 x2, .bool x3, .int .i64 x4]) (.agg #[.int .i64 y0, .int .i64 y1, .int .i64 y2, .bool y3, .int .i64 y4])).run Try.prog w = .ok ((x0 == y0 && (x1 == y1)) && (x2 == y2 && (x3 == y3 && (x4 == y4)))) w := by
 refine eqA_of Try.underlying30 (by kernel_rfl) ?_
 refine eqf_cons (by rfl) (by go_simp) (by go_simp) (eqA28 (d + 0) w _ _ _ _) ?_
 refine eqf_cons (by rfl) (by go_simp; rfl) (by go_simp; rfl) (by go_simp) ?_
 refine eqf_cons (by rfl) (by go_simp; rfl) (by go_simp; rfl) (by go_simp) ?_
 exact eqf_last (by rfl) (by go_simp; rfl) (by go_simp; rfl) (by go_simp)
end Go.Proofs.Ytbfoflhfmhfofaa.MFindEach
