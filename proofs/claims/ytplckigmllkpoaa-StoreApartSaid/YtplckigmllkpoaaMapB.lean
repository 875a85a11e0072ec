/- A map[int]bool that the call itself makes, as a set of ints. -/
import Derived.Test.YtplckigmllkpoaaInts
import Derived.Maps.OwnOps
import Derived.Maps.OwnIn
import Derived.Maps.Views
namespace Go.Proofs.Ytplckigmllkpoaa
open Go.RowKit Go.Maps
theorem wf_of_in {x : Int} (h : In x) : (Lit.int .i64 x).wf = true := by
  unfold In at h
  simp [Lit.wf, IntKind.min, IntKind.max, IntKind.signed, IntKind.bits]; omega
theorem plainElem_bool_inv {P : Program} {e : TypeId} (he : P.underlying e = some .bool) {v : Value} {z : DataW Unit × List MemPlace} (h : plainElem P e v = some z) : ∃ c, v = .bool c ∧ z = (.lit (.bool c), []) := by
  unfold plainElem at h
  rw [he] at h
  cases v <;> simp at h
  exact ⟨_, rfl, h.symm⟩
/-- Block b is a map whose keys that hold true are those of S. -/
def MapB (w : World) (b n : Nat) (S : List Int) : Prop :=
  ∃ D : DataW Unit, w.ownsMap Try.prog 3 (plainElem Try.prog 4) b n D ∧ ∀ x, In x → D.atKey (.int .i64 x) (.lit (.bool false)) = .lit (.bool (S.contains x))
theorem MapB.made (w : World) : MapB (w.alloc (.map #[] 0)) w.heap.size 0 [] := ⟨.map [], World.ownsMap_made _ _ _ _, fun x _ => rfl⟩
theorem MapB.lt {w : World} {b n : Nat} {S : List Int} (h : MapB w b n S) : b < w.heap.size := by obtain ⟨D, h, _⟩ := h; exact h.lt
theorem MapB.kept {w w' : World} {b n : Nat} {S : List Int} (h : MapB w b n S) (hb : w'.heap[b]? = w.heap[b]?) (hs : w.heap.size ≤ w'.heap.size) : MapB w' b n S := by
  obtain ⟨D, h, k⟩ := h
  obtain ⟨es, clock, hm, F⟩ := h
  exact ⟨D, ⟨es, clock, hb.trans hm, F⟩, k⟩
theorem MapB.below {w w' : World} {b n : Nat} {S : List Int} (h : MapB w b n S) (hb : Below w.heap.size w w') : MapB w' b n S := h.kept (hb.block b h.lt) hb.size
theorem zero_bool (w : World) : (zeroValue 4).run Try.prog w = .ok (.bool false) w := by kernel_rfl
theorem MapB.look {w : World} {b n : Nat} {S : List Int} (h : MapB w b n S) {x : Int} (hx : In x) :
    (Instr.lookup 93 (.map (some b)) (.int .i64 x) false).run Try.prog w = .ok (.bool (S.contains x)) w := by
  obtain ⟨D, h, k⟩ := h
  obtain ⟨v, ps, hrun, hv⟩ := h.lookup (int_keyed Try.underlying3) Try.underlying93 (zero_bool w) (plainElem_bool Try.underlying4 false) (keyOf_int_mk Try.underlying3 (wf_of_in hx))
  obtain ⟨c, rfl, hc⟩ := plainElem_bool_inv Try.underlying4 hv
  rw [hrun]
  simp only [Prod.mk.injEq] at hc
  rw [k x hx] at hc
  have := hc.1
  simp at this
  rw [← this]; simp
theorem MapB.put {w' : World} {b n : Nat} {D : DataW Unit} {S : List Int} {x : Int} (hx : In x) (h : w'.ownsMap Try.prog 3 (plainElem Try.prog 4) b n (D.put (.int .i64 x) (.lit (.bool true))))
    (hm : IsMap D) (k : ∀ x, In x → D.atKey (.int .i64 x) (.lit (.bool false)) = .lit (.bool (S.contains x))) : MapB w' b n (S ++ [x]) := by
  refine ⟨_, h, fun y hy => ?_⟩
  by_cases e : y = x
  · subst e
    rw [atKey_put_same hm (by trivial)]; simp
  · rw [atKey_put_other (by intro h; apply e; cases h; rfl), k y hy]
    congr 2
    simp [e]
theorem MapB.opened {w : World} {b n : Nat} {S : List Int} (h : MapB w b n S) : ∃ D : DataW Unit, w.ownsMap Try.prog 3 (plainElem Try.prog 4) b n D ∧ IsMap D ∧ ∀ x, In x → D.atKey (.int .i64 x) (.lit (.bool false)) = .lit (.bool (S.contains x)) := by
  obtain ⟨D, h, k⟩ := h
  refine ⟨D, h, ?_, k⟩
  obtain ⟨es, clock, hb, F, _, rfl⟩ := h
  exact ⟨_, rfl⟩
theorem keyInt {x : Int} (h : In x) : keyOf Try.prog 3 (.int .i64 x) = some (.int .i64 x) := keyOf_int_mk Try.underlying3 (wf_of_in h)
theorem keyedInt : Keyed Try.prog 3 := int_keyed Try.underlying3
end Go.Proofs.Ytplckigmllkpoaa
