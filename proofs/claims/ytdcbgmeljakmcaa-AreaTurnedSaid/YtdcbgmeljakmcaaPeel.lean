/- Carrying a block's fact into a later world of the same walk. -/
import Derived.Test.YtdcbgmeljakmcaaWWords
namespace Go.Proofs.Ytdcbgmeljakmcaa.Peel
open Go.RowKit Go.Proofs.YtdcbgmeljakmcaaW.PrintWords
/-- W' is W behind blocks laid and orders drawn. -/
class Later (W : outParam World) (W' : World) : Prop where
  keep : ∀ {g : Nat} {o : Obj}, W.heap[g]? = some o → W'.heap[g]? = some o
instance (priority := low) (W : World) : Later W W := ⟨fun h => h⟩
instance (W W' : World) (o : Obj) [h : Later W W'] : Later W (W'.alloc o) := ⟨fun k => blk_alloc (h.keep k) o⟩
instance (W W' : World) (n : Nat) [h : Later W W'] : Later W (W'.drewN n) := ⟨fun k => blk_drewN (h.keep k) n⟩
instance (W W' : World) [h : Later W W'] : Later W W'.drew := ⟨fun k => blk_drew (h.keep k)⟩
theorem pk {W W' : World} [h : Later W W'] {g : Nat} {o : Obj} (k : W.heap[g]? = some o) : W'.heap[g]? = some o := h.keep k
theorem bset {w W : World} {g j : Nat} {v : Value} (h : Below w.heap.size w W) (hg : Aside0 (w.heap.size ≤ g)) : Below w.heap.size w (W.setCell ⟨g, j, none⟩ v) := below_set h hg.out
end Go.Proofs.Ytdcbgmeljakmcaa.Peel
