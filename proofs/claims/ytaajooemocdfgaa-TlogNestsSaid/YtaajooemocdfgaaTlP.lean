/- The reference of tlog: New, levels, Push, Drop. -/
import Derived.Test.YtaajooemocdfgaaTlO
import Derived.Deep.AppendSrc
namespace Go.Proofs.Ytaajooemocdfgaa
open Go.RowKit Go.Shelf Go.Maps
attribute [local go_sem] Oper.semAt_some
/-- 'append([]T{}, xs...)': a row of its own. -/
theorem append_fresh {α : Type} {R : Enc α} {size : Nat} (g : Good R size) (hsz : 0 < size) {P : Program} {T e : TypeId} {z : Value} {bytes : Nat} (ht : P.underlying T = some (.slice e)) (hinfo : (P.info? e).map (fun i => (i.zero, i.size, i.bytes)) = some (some z, size, bytes)) (hzs : z.cells.size = size) (hby : bytes ≤ 1000)
    {w W : World} {ok : Nat → Prop} {sv : Value} {xs : List α} {E : Nat} (h : RSl R size W ok sv xs) (hone : ∀ (x : α) (row : List Value), R W ok x row → ∀ u ∈ row, u.oneCell' = true) (hlen : xs.length ≤ 1000000) (hE : w.heap.size ≤ E) (hm : W.heap[E]? = some (.cells #[] e)) (hb : Below w.heap.size w W) (hok : ∀ b, ok b → b ≠ E) :
    ∃ v' w', (Builtin.append_ #[T, T] T #[.slice (some ⟨E, 0, none⟩) 0 0, sv]).run P W = .ok v' w' ∧ OSl R size e w.heap.size w' ok v' xs ∧ Below w.heap.size w w' ∧ (∀ b o, W.heap[b]? = some o → b ≠ E → w'.heap[b]? = some o) := by
  have hown : OSl R size e w.heap.size W ok (.slice (some ⟨E, 0, none⟩) 0 0) [] :=
    ⟨[], Rows.nil _ _ _, by simp, .inr ⟨E, 0, #[], rfl, hE, hm, Nat.le_refl _, by simp [maxLen], by simp, by simp⟩⟩
  obtain ⟨ao, cap, rfl, h1, h2, h3, h4⟩ := h
  have main : ∀ (a : Addr) (rows : List (List Value)), ao = some a → Rows R W (fun b => ok b ∧ some b ≠ (Value.slice (some ⟨E, 0, none⟩) 0 0).ownBlock) xs rows → (∀ j u, rows.flatten[j]? = some u → W.cell? (a.add j) = some u) → (∀ u ∈ rows.flatten, u.oneCell' = true) →
      ∃ v' w', (Builtin.append_ #[T, T] T #[.slice (some ⟨E, 0, none⟩) 0 0, .slice ao xs.length cap]).run P W = .ok v' w' ∧ OSl R size e w.heap.size w' ok v' xs ∧ Below w.heap.size w w' ∧ (∀ b o, W.heap[b]? = some o → b ≠ E → w'.heap[b]? = some o) := by
    rintro a rows rfl hr hu h1'
    obtain ⟨v', w', hrun, hO, hg, hloc, _⟩ := OSl.append (P := P) g hsz hown T T z bytes ht hinfo hzs a cap xs rows hr hu h1' (by simp [maxLen]; omega) (by simp; have := Nat.mul_le_mul hlen hby; omega) hb.size
    exact ⟨v', w', hrun, by simpa using hO, hb.grown hg hb.size (fun k hk => by cases hk; exact hE), fun b o hbo hbE => (hg.block b (lt_of_some hbo) (fun e => by cases e; exact hbE rfl)).trans hbo⟩
  by_cases hp : 0 < xs.length
  · obtain ⟨b, off, rfl, hbo, hc⟩ := h4 hp
    obtain ⟨b', off', cap', rows, hv, _, hr, hu⟩ := RSl.rows (⟨some ⟨b, off, none⟩, cap, rfl, h1, h2, h3, h4⟩ : RSl R size W ok (.slice (some ⟨b, off, none⟩) xs.length cap) xs) g hp
    cases hv
    refine main _ rows rfl ⟨hr.1, fun i x row hx hrow => g.weak _ _ _ _ _ (fun b _ hb => ⟨hb, fun e => by cases e; exact hok _ hb rfl⟩) (hr.2 i x row hx hrow)⟩ (fun j u hj => by rw [addr_add]; exact hu j u hj) (fun u hu' => ?_)
    obtain ⟨row, hrw, hu'⟩ := List.mem_flatten.1 hu'
    obtain ⟨i, hi⟩ := List.getElem?_of_mem hrw
    have hlt : i < xs.length := by rw [← hr.1]; exact (List.getElem?_eq_some_iff.1 hi).1
    exact hone _ _ (hr.2 i _ row (List.getElem?_eq_getElem hlt) hi) u hu'
  · have hx : xs = [] := List.length_eq_zero_iff.1 (by omega)
    subst hx
    cases ao with
    | some a => exact main a [] rfl (Rows.nil _ _ _) (fun j u h => by simp at h) (by simp)
    | none =>
      obtain ⟨i, hi, hz, hs, hbb⟩ := info_parts hinfo
      have hrun := run_append_room_src (P := P) (w := W) T T T e i ht hi E 0 0 0 (.slice none 0 cap) 0 [] (Src.ofNil W ht cap) (by simp) (by simp) (by simp)
      refine ⟨_, W, by simpa [World.setCells] using hrun, by simpa using hown, hb, fun b o h _ => h⟩
theorem lev_one {w : World} {ok : Nat → Prop} (x : List Pr) (row : List Value) (h : LevE w ok x row) : ∀ u ∈ row, u.oneCell' = true := by
  obtain ⟨sv, rfl, hs⟩ := h
  obtain ⟨_, _, rfl, _⟩ := hs.shape
  intro u hu; simp at hu; subst hu; rfl
theorem pr_one {w : World} {ok : Nat → Prop} (x : Pr) (row : List Value) (h : PairE w ok x row) : ∀ u ∈ row, u.oneCell' = true := by
  obtain ⟨rfl, _⟩ := h
  intro u hu; simp at hu; rcases hu with rfl | rfl <;> rfl
theorem GVal.readsOf {w : World} {ok : Nat → Prop} {l : Lg} {ra la : Option Addr} {rc lc : Nat} (h : GVal w ok (.agg #[.slice ra l.reads.length rc, .slice la l.levels.length lc]) l) : PSl w (fun b => ok b ∧ b < w.heap.size) (.slice ra l.reads.length rc) l.reads := by
  obtain ⟨_, _, _, _, e, h1, _⟩ := h
  cases e
  exact h1.weak pairGood (by decide) (fun b hb h => ⟨h, hb⟩)
theorem GVal.levelsOf {w : World} {ok : Nat → Prop} {l : Lg} {ra la : Option Addr} {rc lc : Nat} (h : GVal w ok (.agg #[.slice ra l.reads.length rc, .slice la l.levels.length lc]) l) : LSl w (fun b => ok b ∧ b < w.heap.size) (.slice la l.levels.length lc) l.levels := by
  obtain ⟨_, _, _, _, e, _, h1⟩ := h
  cases e
  exact h1.weak levGood (by decide) (fun b hb h => ⟨h, hb⟩)
/-- One level behind others. -/
theorem lev_push {base : Nat} {W : World} {ok : Nat → Prop} {v xv : Value} {xs : List (List Pr)} {x : List Pr} {nb : Nat} (h : OSl LevE 1 37 base W ok v xs) (hn : W.heap[nb]? = some (.cells #[xv] 37)) (hx : PSl W (fun b => ok b ∧ some b ≠ v.ownBlock) xv x) (hL : xs.length ≤ 1000000) (hb : base ≤ W.heap.size) :
    ∃ v' w', (Builtin.append_ #[23, 23] 23 #[v, .slice (some ⟨nb, 0, none⟩) 1 1]).run Try.prog W = .ok v' w' ∧ OSl LevE 1 37 base w' ok v' (xs ++ [x]) ∧ W.grownBy w' v.ownBlock := by
  obtain ⟨v', w', hrun, hO, hg, _, _⟩ := OSl.append (P := Try.prog) levGood (by decide) h 23 23 (.slice none 0 0) 24 Try.underlying23 infoL rfl ⟨nb, 0, none⟩ 1 [x] [[xv]]
    (Rows.one ⟨xv, rfl, hx⟩) (fun j u hj => by rw [addr_add, Nat.zero_add, cell_of hn]; simpa using hj) (by obtain ⟨_, _, rfl, _⟩ := hx.shape; simp [Value.oneCell']) (by simp [maxLen]; omega) (by simp; omega) hb
  exact ⟨v', w', hrun, hO, hg⟩
/-- Blocks of a result: not its box. -/
def okR (w : World) (ok : Nat → Prop) (b : Nat) : Prop := b ≠ w.heap.size + 1 ∧ (ok b ∨ w.heap.size ≤ b)
theorem okR.old {w : World} {ok : Nat → Prop} {b : Nat} (h : ok b ∧ b < w.heap.size) : okR w ok b := ⟨by omega, .inl h.1⟩
theorem okR.new {w : World} {ok : Nat → Prop} {b : Nat} (h : w.heap.size + 1 < b) : okR w ok b := ⟨by omega, .inr (by omega)⟩
theorem put_out {w W : World} {ok : Nat → Prop} {B2 : Nat} {l : Lg} {ra la : Option Addr} {rc lc : Nat} (h2 : W.heap[B2]? = some (.cells #[.slice none 0 0, .slice none 0 0] 25)) (hB2 : w.heap.size ≤ B2) (hb : Below w.heap.size w W)
    (h : GVal W (fun b => b ≠ B2 ∧ (ok b ∨ w.heap.size ≤ b)) (.agg #[.slice ra l.reads.length rc, .slice la l.levels.length lc]) l) :
    ((W.setCell ⟨B2, 0, none⟩ (.slice ra l.reads.length rc)).setCell ⟨B2, 1, none⟩ (.slice la l.levels.length lc)).heap[B2]? = some (.cells #[.slice ra l.reads.length rc, .slice la l.levels.length lc] 25) ∧
    GVal ((W.setCell ⟨B2, 0, none⟩ (.slice ra l.reads.length rc)).setCell ⟨B2, 1, none⟩ (.slice la l.levels.length lc)) (fun b => ok b ∨ w.heap.size ≤ b) (.agg #[.slice ra l.reads.length rc, .slice la l.levels.length lc]) l ∧
    Below w.heap.size w ((W.setCell ⟨B2, 0, none⟩ (.slice ra l.reads.length rc)).setCell ⟨B2, 1, none⟩ (.slice la l.levels.length lc)) := by
  have hs := ((Same.refl (fun b => b ≠ B2 ∧ (ok b ∨ w.heap.size ≤ b)) W).setCell (a := ⟨B2, 0, none⟩) (.slice ra l.reads.length rc) (fun h => h.1 rfl)).setCell (a := ⟨B2, 1, none⟩) (.slice la l.levels.length lc) (fun h => h.1 rfl)
  exact ⟨heap_set (i := 1) (heap_set (i := 0) h2), (h.keep hs).weak (fun _ _ h => h.2), (hb.setCell (p := ⟨B2, 0, none⟩) hB2 _).setCell (p := ⟨B2, 1, none⟩) hB2 _⟩
set_option maxHeartbeats 2000000 in
theorem levels_any (w : World) (ok : Nat → Prop) (v : Value) (l : Lg) (n : Nat) (h : GVal w ok v l) (hn : n ≤ l.levels.length) (hL : l.levels.length ≤ 1000000) :
    Calls Try.prog 28 #[v, .int .i64 n] w fun e w' => ∃ v', e = .returned v' ∧ OSl LevE 1 37 w.heap.size w' (fun b => ok b ∧ b < w.heap.size) v' (l.levels.take n) ∧ Below w.heap.size w w' := by
  obtain ⟨ra, rc, la, lc, rfl, hr, hl⟩ := h
  have hcap : l.levels.length ≤ lc := by obtain ⟨_, _, e, h1, _⟩ := hl; cases e; exact h1
  have hsrc : LSl w (fun b => ok b ∧ b < w.heap.size) (.slice la n lc) (l.levels.take n) := by
    obtain ⟨_, _, e, h1, h2, h3, h4⟩ := hl
    cases e
    refine ⟨la, lc, by simp [hn], by simp; omega, h2, h3, fun hp => ?_⟩
    have hp' : 0 < l.levels.length := by simp at hp; omega
    obtain ⟨b, off, ha, hb, hc⟩ := h4 hp'
    have hbl : b < w.heap.size := by
      obtain ⟨row, ⟨sv, hr, _⟩, hu⟩ := hc 0 hp'
      exact World.block_lt_of_cell? w ⟨b, _, none⟩ (hu 0 sv (by rw [hr]; rfl))
    refine ⟨b, off, ha, ⟨hb, hbl⟩, fun i hi => ?_⟩
    have hi' : i < l.levels.length := by simp at hi; omega
    obtain ⟨row, ⟨sv, hr, hs⟩, hu⟩ := hc i hi'
    exact ⟨row, ⟨sv, hr, by rw [List.getElem_take]; exact hs.weak pairGood (by decide) (fun b hb h => ⟨h, hb⟩)⟩, hu⟩
  obtain ⟨W0, hW0⟩ : ∃ W0, w.alloc (Obj.cells #[.slice ra l.reads.length rc, .slice la l.levels.length lc] 25) = W0 := ⟨_, rfl⟩
  have hb0 : Below w.heap.size w W0 := by rw [← hW0]; exact (Below.refl _ _).alloc (Nat.le_refl _) _
  have h0 : W0.heap[w.heap.size]? = some (.cells #[.slice ra l.reads.length rc, .slice la l.levels.length lc] 25) := by rw [← hW0]; exact World.alloc_heap_new _ _
  have hz0 : W0.heap.size = w.heap.size + 1 := by rw [← hW0]; simp
  obtain ⟨W1, hW1⟩ : ∃ W1, W0.alloc (Obj.cells #[] 37) = W1 := ⟨_, rfl⟩
  have hb1 : Below w.heap.size w W1 := by rw [← hW1]; exact hb0.alloc hb0.size _
  have h1 : W1.heap[W0.heap.size]? = some (.cells #[] 37) := by rw [← hW1]; exact World.alloc_heap_new _ _
  have c1 : W1.cell? ⟨w.heap.size, 1, none⟩ = some (.slice la l.levels.length lc) := by rw [← hW1]; exact cell_of (heap_old h0 _)
  obtain ⟨v', w', hrun, hO, hbw, _⟩ := append_fresh levGood (by decide) (P := Try.prog) Try.underlying23 infoL rfl (by decide) (RSl.below levGood hsrc hb1) (fun x row h => lev_one x row h) (by simp; omega) (E := W0.heap.size) (by omega) h1 hb1 (fun b hb => by have := hb.2; omega)
  have HR := hid hrun
  have HF := hid (And.intro hO hbw)
  have HW := hid (And.intro hW0 hW1)
  have hnc : (n : Int) ≤ lc := by omega
  have hlc : (lc : Int) ≤ 9223372036854775807 := by obtain ⟨_, _, e, _, h2, _⟩ := hl; cases e; unfold maxLen at h2; omega
  clear hrun hO hbw hW0 hW1 h0 hb0 hb1 h1 hsrc hr hl hz0 hcap hn hL
  go_enter Try.func28, Try.ntmps28
  go_upto_region 1 with (fail)
  rw [HW.out.1]
  go_wp2_with (first | rw [HW.out.2] | (at_builtin; refine wpList_append_run rfl _ _ _ rfl _ _ rfl rfl _ _ HR.out ?_))
  go_ret
  exact ⟨_, rfl, HF.out.1, HF.out.2⟩
end Go.Proofs.Ytaajooemocdfgaa
