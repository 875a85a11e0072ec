/- 'append([]T{}, xs...)': a row of its own. -/
import Derived.Test.YtajhchfjoeblgaaOwn
import Derived.Test.YtajhchfjoeblgaaCells
import Derived.Test.YtajhchfjoeblgaaInts
import Derived.Deep.AppendSrc
namespace Go.Proofs.Ytajhchfjoeblgaa
open Go.RowKit Go.Shelf Go.Maps
/-- 'append([]T{}, xs...)': a row of its own. -/
theorem append_fresh {α : Type} {R : Enc α} {size : Nat} (g : Good R size) (hsz : 0 < size) {P : Program} {T e : TypeId} {z : Value} {bytes : Nat} (ht : P.underlying T = some (.slice e)) (hinfo : (P.info? e).map (fun i => (i.zero, i.size, i.bytes)) = some (some z, size, bytes)) (hzs : z.cells.size = size) (hby : bytes ≤ 1000)
    {w W : World} {ok : Nat → Prop} {sv : Value} {xs : List α} {E : Nat} (h : RSl R size W ok sv xs) (hone : ∀ (x : α) (row : List Value), R W ok x row → ∀ u ∈ row, u.oneCell' = true) (hlen : xs.length ≤ 1000000) (hE : w.heap.size ≤ E) (hm : W.heap[E]? = some (.cells #[] e)) (hb : Below w.heap.size w W) (hok : ∀ b, ok b → b ≠ E) :
    ∃ v' w', (Builtin.append_ #[T, T] T #[.slice (some ⟨E, 0, none⟩) 0 0, sv]).run P W = .ok v' w' ∧ OSl R size e w.heap.size w' ok v' xs ∧ Below w.heap.size w w' ∧ (∀ b o, W.heap[b]? = some o → b ≠ E → w'.heap[b]? = some o) := by
  have hown : OSl R size e w.heap.size W ok (.slice (some ⟨E, 0, none⟩) 0 0) [] :=
    ⟨[], Rows.nil _ _ _, by simp, .inr ⟨E, 0, #[], rfl, hE, hm, Nat.le_refl _, by simp [maxLen], by simp, by simp⟩⟩
  obtain ⟨ao, cap, rfl, h1, h2, h3, h4⟩ := h
  have main : ∀ (a : Addr) (rows : List (List Value)), ao = some a → Rows R W (fun b => ok b ∧ some b ≠ (Value.slice (some ⟨E, 0, none⟩) 0 0).ownBlock) xs rows → (∀ j u, rows.flatten[j]? = some u → W.cell? (a.add j) = some u) → (∀ u ∈ rows.flatten, u.oneCell' = true) →
      ∃ v' w', (Builtin.append_ #[T, T] T #[.slice (some ⟨E, 0, none⟩) 0 0, .slice ao xs.length cap]).run P W = .ok v' w' ∧ OSl R size e w.heap.size w' ok v' xs ∧ Below w.heap.size w w' ∧ (∀ b o, W.heap[b]? = some o → b ≠ E → w'.heap[b]? = some o) := by
    rintro a rows rfl hr hu h1'
    obtain ⟨v', w', hrun, hO, hg, hloc, _⟩ := OSl.append (P := P) g hsz hown T T z bytes ht hinfo hzs a cap xs rows hr hu h1' (by simp [maxLen]; omega) (by simp; have := Nat.mul_le_mul hlen hby; omega) hb.size
    exact ⟨v', w', hrun, by simpa using hO, hb.grown hg hb.size (fun k hk => by cases hk; exact hE), fun b o hbo hbE => (hg.block b (lt_of_some hbo) (fun e => by cases e; exact hbE rfl)).trans hbo⟩
  by_cases hp : 0 < xs.length
  · obtain ⟨b, off, rfl, hbo, hc⟩ := h4 hp
    obtain ⟨b', off', cap', rows, hv, _, hr, hu⟩ := RSl.rows (⟨some ⟨b, off, none⟩, cap, rfl, h1, h2, h3, h4⟩ : RSl R size W ok (.slice (some ⟨b, off, none⟩) xs.length cap) xs) g hp
    cases hv
    refine main _ rows rfl ⟨hr.1, fun i x row hx hrow => g.weak _ _ _ _ _ (fun b _ hb => ⟨hb, fun e => by cases e; exact hok _ hb rfl⟩) (hr.2 i x row hx hrow)⟩ (fun j u hj => by rw [addr_add]; exact hu j u hj) (fun u hu' => ?_)
    obtain ⟨row, hrw, hu'⟩ := List.mem_flatten.1 hu'
    obtain ⟨i, hi⟩ := List.getElem?_of_mem hrw
    have hlt : i < xs.length := by rw [← hr.1]; exact (List.getElem?_eq_some_iff.1 hi).1
    exact hone _ _ (hr.2 i _ row (List.getElem?_eq_getElem hlt) hi) u hu'
  · have hx : xs = [] := List.length_eq_zero_iff.1 (by omega)
    subst hx
    cases ao with
    | some a => exact main a [] rfl (Rows.nil _ _ _) (fun j u h => by simp at h) (by simp)
    | none =>
      obtain ⟨i, hi, hz, hs, hbb⟩ := info_parts hinfo
      have hrun := run_append_room_src (P := P) (w := W) T T T e i ht hi E 0 0 0 (.slice none 0 cap) 0 [] (Src.ofNil W ht cap) (by simp) (by simp) (by simp)
      refine ⟨_, W, by simpa [World.setCells] using hrun, by simpa using hown, hb, fun b o h _ => h⟩
theorem int_one {w : World} {ok : Nat → Prop} (x : Int) (row : List Value) (h : IntE w ok x row) : ∀ u ∈ row, u.oneCell' = true := by
  obtain ⟨rfl, _⟩ := h
  intro u hu; simp at hu; subst hu; rfl
end Go.Proofs.Ytajhchfjoeblgaa
