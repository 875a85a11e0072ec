/- A store into a cell of an element of a slice that the call itself has made. -/
import Derived.Test.YtajhchfjoeblgaaOwn
import Derived.Test.YtajhchfjoeblgaaCells
namespace Go.Proofs.Ytajhchfjoeblgaa
open Go.RowKit
theorem flatten_cell {size : Nat} : ∀ (rows : List (List Value)), (∀ (i : Nat) (row : List Value), rows[i]? = some row → row.length = size) → ∀ {k j : Nat} {row : List Value} {u : Value}, rows[k]? = some row → j < size →
    rows.flatten.set (k * size + j) u = (rows.set k (row.set j u)).flatten
  | [], _, k, _, _, _, h, _ => by simp at h
  | r :: rs, hl, k, j, row, u, h, hj => by
    have h0 := hl 0 r rfl
    cases k with
    | zero =>
      simp at h; subst h
      rw [Nat.zero_mul, Nat.zero_add, List.set_cons_zero, List.flatten_cons, List.flatten_cons, List.set_append_left _ _ (by omega)]
    | succ k =>
      rw [List.set_cons_succ, List.flatten_cons, List.flatten_cons, List.set_append_right _ _ (by rw [h0, Nat.succ_mul]; omega), show (k + 1) * size + j - r.length = k * size + j by rw [h0, Nat.succ_mul]; omega]
      rw [flatten_cell rs (fun i row hi => hl (i + 1) row (by simpa using hi)) (by simpa using h) hj]
theorem OSl.shape2 {α : Type} {R : Enc α} {size : Nat} {e : TypeId} {base : Nat} {w : World} {ok : Nat → Prop} {v : Value} {xs : List α} (h : OSl R size e base w ok v xs) : ∃ a c, v = .slice a xs.length c := by
  obtain ⟨rows, _, hl, hown⟩ := h
  rcases hown with ⟨rfl, h0⟩ | ⟨b, cap, cur, rfl, _⟩
  · exact ⟨none, 0, by rw [h0]⟩
  · exact ⟨_, _, rfl⟩
theorem OSl.setCell {α : Type} {R : Enc α} {size : Nat} (g : Good R size) {e : TypeId} {base : Nat} {w : World} {ok : Nat → Prop} {v : Value} {xs : List α} (h : OSl R size e base w ok v xs) {k j : Nat} {x x' : α} (hk : xs[k]? = some x) (hj : j < size) (u : Value)
    (hR : ∀ row, R w (fun b => ok b ∧ some b ≠ v.ownBlock) x row → R w (fun b => ok b ∧ some b ≠ v.ownBlock) x' (row.set j u)) :
    ∃ b cap, v = .slice (some ⟨b, 0, none⟩) xs.length cap ∧ base ≤ b ∧ (∀ i, w.frozen? ⟨b, i, none⟩ = false) ∧ (∃ u0, w.cell? ⟨b, k * size + j, none⟩ = some u0) ∧ OSl R size e base (w.setCell ⟨b, k * size + j, none⟩ u) ok v (xs.set k x') := by
  obtain ⟨rows, hr, hl, hown⟩ := h
  have hlt : k < xs.length := (List.getElem?_eq_some_iff.1 hk).1
  rcases hown with ⟨rfl, h0⟩ | ⟨b, cap, cur, rfl, hb, hh, hc1, hc2, hc3, hc4⟩
  · omega
  · have hkr : k < rows.length := by rw [hr.1]; exact hlt
    have hrow : rows[k]? = some rows[k] := List.getElem?_eq_getElem hkr
    have hlen := hr.len g
    have hfl : rows.flatten.length = xs.length * size := by rw [flatten_len hlen, hr.1]
    have hle : k * size + j < xs.length * size := by
      have := Nat.mul_le_mul_right size (show k + 1 ≤ xs.length by omega)
      rw [Nat.succ_mul] at this; omega
    have hin : k * size + j < cur.size := by
      have : xs.length * size ≤ cap * size := Nat.mul_le_mul_right _ hc1
      omega
    refine ⟨b, cap, rfl, hb, fun i => free_of hh, ⟨cur[k * size + j], by rw [cell_of hh]; exact Array.getElem?_eq_getElem hin⟩, ?_⟩
    have hw : (w.setCell ⟨b, k * size + j, none⟩ u).heap[b]? = some (.cells (cur.setIfInBounds (k * size + j) u) e (0, 0)) := heap_set hh
    have hsame : Same (fun b' => ok b' ∧ some b' ≠ (Value.slice (some ⟨b, 0, none⟩) xs.length cap).ownBlock) w (w.setCell ⟨b, k * size + j, none⟩ u) := (Same.refl _ _).setCell (a := ⟨b, k * size + j, none⟩) u (fun h => h.2 rfl)
    refine ⟨rows.set k (rows[k].set j u), ⟨by simp [hr.1], fun i y r hy hr' => ?_⟩, ?_, .inr ⟨b, cap, _, by rw [List.length_set], hb, hw, by rw [List.length_set]; exact hc1, hc2, by simpa using hc3, ?_⟩⟩
    · by_cases ei : k = i
      · subst ei
        rw [List.getElem?_set_self hlt] at hy
        rw [List.getElem?_set_self hkr] at hr'
        cases hy; cases hr'
        exact g.keep _ _ _ _ _ hsame (hR _ (hr.2 k x _ hk hrow))
      · rw [List.getElem?_set_ne ei] at hy hr'
        exact g.keep _ _ _ _ _ hsame (hr.2 i y r hy hr')
    · rw [← flatten_cell rows hlen hrow hj, List.length_set, List.length_set]; exact hl
    · rw [List.length_set, ← flatten_cell rows hlen hrow hj, ← hc4, Array.toList_setIfInBounds, List.take_set]
end Go.Proofs.Ytajhchfjoeblgaa
