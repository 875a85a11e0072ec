/- WaitWakes: the walk. -/
import Derived.Test.YteogmehbjopedaaWaitN
namespace Go.Proofs.Yteogmehbjopedaa
open Go.RowKit Go.Shelf Go.Maps
attribute [local go_sem] Oper.semAt_some
/-- How many of the first k of some numbers are among others. -/
def cnt (zs q : List Int) (k : Nat) : Nat := ((q.take k).filter fun x => zs.contains x).length
theorem cnt_yes {zs q : List Int} {k : Nat} {x : Int} (h : q[k]? = some x) (hx : zs.contains x = true) : cnt zs q (k + 1) = cnt zs q k + 1 := by
  rw [cnt, List.take_succ_eq_append_getElem (List.getElem?_eq_some_iff.1 h).1, (List.getElem?_eq_some_iff.1 h).2, List.filter_append, List.length_append]
  simp only [cnt, List.filter_cons, hx, if_true, List.filter_nil, List.length_cons, List.length_nil]
theorem cnt_no {zs q : List Int} {k : Nat} {x : Int} (h : q[k]? = some x) (hx : zs.contains x = false) : cnt zs q (k + 1) = cnt zs q k := by
  rw [cnt, List.take_succ_eq_append_getElem (List.getElem?_eq_some_iff.1 h).1, (List.getElem?_eq_some_iff.1 h).2, List.filter_append, List.length_append]
  simp only [cnt, List.filter_cons, hx, Bool.false_eq_true, if_false, List.filter_nil, List.length_nil, Nat.add_zero]
theorem cnt_le (zs q : List Int) (k : Nat) : cnt zs q k ≤ k := by
  rw [cnt]; exact Nat.le_trans (List.length_filter_le _ _) (by rw [List.length_take]; omega)
theorem cnt_all {zs q : List Int} (h : ∀ x ∈ q, zs.contains x = true) : cnt zs q q.length = q.length := by
  rw [cnt, List.take_length, List.filter_eq_self.2 h]
theorem hit_at {zs : List Int} {m : Nat} {x : Int} (h : zs[m]? = some x) : zs.contains x = true := by
  simpa using List.mem_of_getElem? h
theorem hit_none {zs : List Int} {x : Int} (h : ∀ j z, j < zs.length → zs[j]? = some z → (z == x) = false) : zs.contains x = false := by
  simp only [List.contains_eq_mem, decide_eq_false_iff_not]
  intro hx
  obtain ⟨i, hi⟩ := List.getElem?_of_mem hx
  have := h i x (List.getElem?_eq_some_iff.1 hi).1 hi
  simp at this
/-- The plain law. -/
theorem wakes_len (p : W → Bool) (xs : List W) : (outs p xs).length + (rests p xs).length = xs.length := by
  rw [outs, rests, List.length_map]
  induction xs with
  | nil => rfl
  | cons x xs ih => cases h : p x <;> simp [List.filter_cons, h] <;> omega
theorem wakes_again (p : W → Bool) (xs : List W) : outs p (rests p xs) = [] := by
  rw [outs, rests, List.filter_filter]
  simp
theorem wakes_left (p : W → Bool) (xs : List W) : rests p (rests p xs) = rests p xs := by
  rw [rests, rests, List.filter_filter]
  simp
theorem outs_mono {p q : W → Bool} {xs : List W} (h : ∀ x, q x = true → p x = true) : ∀ z ∈ outs q xs, (outs p xs).contains z = true := by
  intro z hz
  simp only [outs, List.mem_map, List.mem_filter, List.contains_eq_mem, decide_eq_true_eq] at hz ⊢
  obtain ⟨x, ⟨h1, h2⟩, h3⟩ := hz
  exact ⟨x, ⟨h1, h x h2⟩, h3⟩
theorem outs_rests {p q : W → Bool} {xs : List W} (h : ∀ x, q x = true → p x = true) : outs q (rests p xs) = [] := by
  rw [outs, rests, List.filter_filter, List.map_eq_nil_iff, List.filter_eq_nil_iff]
  intro x _ hx
  simp at hx
  have := h x hx.1
  rw [hx.2] at this; cases this
theorem rests_Fits {p : W → Bool} {xs : List W} (h : Fits xs) : Fits (rests p xs) :=
  ⟨fun x hx => h.each x (List.mem_filter.1 hx).1, Nat.le_trans (List.length_filter_le _ _) h.all⟩
end Go.Proofs.Yteogmehbjopedaa
