/- A block of cells behind a store. -/
import Derived.Test.YtajhchfjoeblgaaOwn
import Derived.Handy
namespace Go.Proofs.Ytajhchfjoeblgaa
open Go.RowKit
theorem heap_set {w : World} {b i : Nat} {v : Value} {c : Array Value} {e : TypeId} {fr : Nat × Nat} (h : w.heap[b]? = some (.cells c e fr)) :
    (w.setCell ⟨b, i, none⟩ v).heap[b]? = some (.cells (c.setIfInBounds i v) e fr) := by
  simp only [World.setCell, Array.getElem?_modify, h]; simp
theorem heap_far {w : World} {a : Addr} {v : Value} {b : Nat} {o : Obj} (h : w.heap[b]? = some o) (hb : b ≠ a.block) : (w.setCell a v).heap[b]? = some o := by
  rw [Below.heap_setCell _ _ _ _ hb]; exact h
theorem cell_at {w : World} {b i : Nat} {v : Value} {c : Array Value} {e : TypeId} {fr : Nat × Nat} (h : w.heap[b]? = some (.cells c e fr)) (hc : c[i]? = some v) : w.cell? ⟨b, i, none⟩ = some v := (cell_of h).trans hc
theorem heap_old {w : World} {b : Nat} {o : Obj} (h : w.heap[b]? = some o) (o' : Obj) : (w.alloc o').heap[b]? = some o := by
  rw [((Below.refl w.heap.size w).alloc (Nat.le_refl _) o').block b (lt_of_some h)]; exact h
end Go.Proofs.Ytajhchfjoeblgaa
