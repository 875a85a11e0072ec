/- The reference of tlog: Same: what it returns. -/
import Derived.Test.YtplckigmllkpoaaTlN
namespace Go.Proofs.Ytplckigmllkpoaa
open Go.RowKit Go.Shelf Go.Maps
attribute [local go_sem] Oper.semAt_some
theorem later_cell {w W : World} (h : Below w.heap.size w W) {a : Addr} {v : Value} (hc : w.cell? a = some v) : W.cell? a = some v := by
  rw [h.cell (World.block_lt_of_cell? w a hc)]; exact hc
end Go.Proofs.Ytplckigmllkpoaa
