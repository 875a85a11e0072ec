/- A new box, filled with a log; what a box that is copied to holds then. -/
import Derived.Test.YtaajooemocdfgaaTlV
import Derived.Test.YtaajooemocdfgaaTlXB
namespace Go.Proofs.Ytaajooemocdfgaa
open Go.RowKit Go.Shelf
theorem gval_nil (w : World) (ok : Nat → Prop) : GVal w ok (.agg #[.slice none 0 0, .slice none 0 0]) ⟨[], []⟩ :=
  ⟨none, 0, none, 0, rfl, RSl.nil _ _ _ _, RSl.nil _ _ _ _⟩
theorem box_fill {S : List Nat} {wo w5 wz : World} {Z : Nat} {l : Lg} {ra la : Option Addr} {rc lc : Nat} {ok : Nat → Prop} (bd : Below wo.heap.size wo w5) (bz : Below w5.heap.size w5 wz)
    (hZ : wz.heap[Z]? = some (.cells #[.slice none 0 0, .slice none 0 0] 25)) (hlt : w5.heap.size ≤ Z) (hv : GVal wz ok (.agg #[.slice ra l.reads.length rc, .slice la l.levels.length lc]) l)
    (hok : ∀ b, b < wz.heap.size → ok b → b ≠ Z ∧ nin S b) :
    BG (nin (Z :: S)) wo ((wz.setCell ⟨Z, 0, none⟩ (.slice ra l.reads.length rc)).setCell ⟨Z, 1, none⟩ (.slice la l.levels.length lc)) Z ra la rc lc l := by
  have h0 : BG (nin (Z :: S)) wo wz Z none none 0 0 ⟨[], []⟩ := ⟨bd.trans (bz.mono bd.size), hZ, gval_nil _ _⟩
  refine h0.put (Nat.le_trans bd.size hlt) (fun b h => nin_ne h (by simp)) (hv.weak fun b h1 h2 => ?_)
  obtain ⟨h3, h4⟩ := hok b h1 h2
  intro hm
  rcases List.mem_cons.1 hm with h | h
  · exact h3 h
  · exact h4 h
theorem nin_tail {S : List Nat} {z b : Nat} (h : nin (z :: S) b) : nin S b := fun hm => h (List.mem_cons_of_mem _ hm)
/-- A box behind a cut, as of an earlier world. -/
theorem BG.back {nb : Nat → Prop} {w0 w W : World} {B : Nat} {ra la : Option Addr} {rc lc : Nat} {l : Lg} (h : BG nb w W B ra la rc lc l) (b : Below w0.heap.size w0 w) : BG nb w0 W B ra la rc lc l :=
  ⟨b.trans (h.bel.mono b.size), h.box, h.val⟩
theorem fill_ok1 {S : List Nat} {w5 wy : World} {o : Obj} {v : Value} {l : Lg} (hS : ∀ x ∈ S, x < w5.heap.size) (hv : GVal wy (fun b => nin S b ∨ w5.heap.size ≤ b) v l) :
    GVal (wy.alloc o) (fun b => b < wy.heap.size ∧ nin S b) v l :=
  (hv.weak fun _ h1 h2 => ⟨h1, nin_res hS h2⟩).more ((Below.refl _ _).alloc (Nat.le_refl _) _)
theorem fill_ok2 {S : List Nat} {w5 : World} {b : Nat} {ok : Nat → Prop} {n : Nat} (hS : ∀ x ∈ S, x < w5.heap.size) (hn : w5.heap.size < n) (hk : ok b → b < w5.heap.size ∧ nin S b) (h : ok b ∨ n ≤ b) : b ≠ w5.heap.size ∧ nin S b := by
  rcases h with h | h
  · obtain ⟨h1, h2⟩ := hk h; exact ⟨by omega, h2⟩
  · refine ⟨by omega, fun hm => ?_⟩
    have := hS b hm; omega
end Go.Proofs.Ytaajooemocdfgaa
