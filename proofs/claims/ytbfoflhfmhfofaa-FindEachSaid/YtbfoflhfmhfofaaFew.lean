/- A few small facts for walks: the greater and the smaller of two numbers, what an operation calls, a block's fact in a later world. -/
import Derived.Test.YtbfoflhfmhfofaaWWords
import Derived.WalkKit
import Derived.OwnWalk
namespace Go.Proofs.Ytbfoflhfmhfofaa.Few
open Go.RowKit Go.Proofs.YtbfoflhfmhfofaaW.PrintWords
/-- The greater of two whole numbers. -/
def mx (a b : Int) : Int := if a < b then b else a
/-- The smaller of two whole numbers. -/
def mn (a b : Int) : Int := if b < a then b else a
theorem max2_int (k k' : IntKind) (x y : Int) : Builtin.max2 (.int k x) (.int k' y) = pure (.int k (if x < y then y else x)) := by simp only [Builtin.max2, gt_iff_lt]
theorem min2_int (k k' : IntKind) (x y : Int) : Builtin.min2 (.int k x) (.int k' y) = pure (.int k (if y < x then y else x)) := by simp only [Builtin.min2]
theorem max_two (ts : Array TypeId) (t : TypeId) (a b : Value) : Builtin.max_ ts t #[a, b] = (Builtin.max2 a b >>= fun s => pure s) := by simp only [Builtin.max_, List.foldlM_cons, List.foldlM_nil]
theorem min_two (ts : Array TypeId) (t : TypeId) (a b : Value) : Builtin.min_ ts t #[a, b] = (Builtin.min2 a b >>= fun s => pure s) := by simp only [Builtin.min_, List.foldlM_cons, List.foldlM_nil]
section
variable {P : Program} {ops : Array Oper} {rest : List Oper} {o : Oper} {a : Act} {Q : Exit → Act → World → Prop} {W : World}
theorem gate_callee {f : FuncId} {as : Array Operand} {ts : Array TypeId} (_ho : o.op = .call { callee := .value (.func f), args := as, argTypes := ts }) (h : wpList P ops Q (o :: rest) a W) : wpList P ops Q (o :: rest) a W := h
theorem gate_builtin {b : Builtin} {xs : Array Operand} {ts : Array TypeId} (_ho : o.op = .call { callee := .builtin b, args := xs, argTypes := ts }) (h : wpList P ops Q (o :: rest) a W) : wpList P ops Q (o :: rest) a W := h
end
theorem drewN_self (w : World) (n : Nat) : w.drewN n = w.drewN n := rfl
/-- W' is W behind blocks laid and orders drawn. -/
class Later (W : outParam World) (W' : World) : Prop where
  keep : ∀ {g : Nat} {o : Obj}, W.heap[g]? = some o → W'.heap[g]? = some o
instance (priority := low) (W : World) : Later W W := ⟨fun h => h⟩
instance (W W' : World) (o : Obj) [h : Later W W'] : Later W (W'.alloc o) := ⟨fun k => blk_alloc (h.keep k) o⟩
instance (W W' : World) (n : Nat) [h : Later W W'] : Later W (W'.drewN n) := ⟨fun k => blk_drewN (h.keep k) n⟩
instance (W W' : World) [h : Later W W'] : Later W W'.drew := ⟨fun k => blk_drew (h.keep k)⟩
theorem pk {W W' : World} [h : Later W W'] {g : Nat} {o : Obj} (k : W.heap[g]? = some o) : W'.heap[g]? = some o := h.keep k
theorem bset {w W : World} {g j : Nat} {v : Value} (h : Below w.heap.size w W) (hg : Aside0 (w.heap.size ≤ g)) : Below w.heap.size w (W.setCell ⟨g, j, none⟩ v) := below_set h hg.out
theorem ba {w W : World} (h : Below w.heap.size w W) (o : Obj) : Below w.heap.size w (W.alloc o) := below_alloc h o
theorem bn {w W : World} (h : Below w.heap.size w W) (n : Nat) : Below w.heap.size w (W.drewN n) := pw_below_drewN h n
theorem bd {w W : World} (h : Below w.heap.size w W) : Below w.heap.size w W.drew := below_drew1 h
end Go.Proofs.Ytbfoflhfmhfofaa.Few
