/- tlog.New, Push. -/
import Derived.Test.YtplckigmllkpoaaTlF
namespace Go.Proofs.Ytplckigmllkpoaa
open Go.RowKit Go.Shelf Go.Maps
attribute [local go_sem] Oper.semAt_some
/-- A log and an error, handed back. -/
def LP (ok : Nat → Prop) (r : Lg × Int) (w : World) (e : Ending) (w' : World) : Prop := ∃ ra rc la lc, e = .returned (.tuple #[.agg #[.slice ra r.1.reads.length rc, .slice la r.1.levels.length lc], .int .i64 r.2]) ∧ GVal w' (fun b => ok b ∨ w.heap.size ≤ b) (.agg #[.slice ra r.1.reads.length rc, .slice la r.1.levels.length lc]) r.1 ∧ Below w.heap.size w w'
def pushG (l : Lg) : Lg × Int := if chkG l then (⟨l.reads, l.levels ++ [[]]⟩, 0) else (l, 170)
theorem OwnIn.make {w w1 w2 : World} {rv sv : Value} {R : List Pr} {L : List (List Pr)} {B2 : Nat} (hb : Below w.heap.size w w1) (h2 : w1.heap[B2]? = some (.cells #[.slice none 0 0, .slice none 0 0] 28))
    (hO : Fresh w1.heap.size w2 rv sv (fun _ => False) R L) (b : Below w1.heap.size w1 w2) : OwnIn w B2 w2.heap.size R L rv sv (w2.alloc (.cells #[rv, sv] 28)) := by
  have hlt := lt_of_some h2
  have b3 : Below w2.heap.size w2 (w2.alloc (.cells #[rv, sv] 28)) := (Below.refl _ _).alloc (Nat.le_refl _) _
  have hs := b.size
  have hs1 := hb.size
  refine ⟨hb.trans ((b.mono hb.size).trans (b3.mono (by omega))), (b3.block _ (by omega)).trans ((b.block _ hlt).trans h2), World.alloc_heap_new _ _, (hO.hr.below pairGood b3).base hs1, ?_⟩
  exact ((hO.hl.weak levGood (ok' := fun b => w.heap.size ≤ b ∧ some b ≠ rv.ownBlock ∧ ¬ (b = B2 ∨ b = w2.heap.size)) (fun b hb h => ⟨by omega, h.2.1, by omega⟩)).below levGood b3).base hs1
theorem OwnIn.out {w : World} {B2 B3 : Nat} {R : List Pr} {L : List (List Pr)} {ra la : Option Addr} {rc lc : Nat} {W : World} (h : OwnIn w B2 B3 R L (.slice ra R.length rc) (.slice la L.length lc) W) (hB2 : w.heap.size ≤ B2) :
    ((W.setCell ⟨B2, 0, none⟩ (.slice ra R.length rc)).setCell ⟨B2, 1, none⟩ (.slice la L.length lc)).heap[B2]? = some (.cells #[.slice ra R.length rc, .slice la L.length lc] 28) ∧
    Fresh w.heap.size ((W.setCell ⟨B2, 0, none⟩ (.slice ra R.length rc)).setCell ⟨B2, 1, none⟩ (.slice la L.length lc)) (.slice ra R.length rc) (.slice la L.length lc) (fun _ => False) R L ∧
    Below w.heap.size w ((W.setCell ⟨B2, 0, none⟩ (.slice ra R.length rc)).setCell ⟨B2, 1, none⟩ (.slice la L.length lc)) := by
  have hfr := h.fr.keep (((Same.refl _ _).setCell (a := ⟨B2, 0, none⟩) (.slice ra R.length rc) (fun h => h.2 (.inl rfl))).setCell (a := ⟨B2, 1, none⟩) (.slice la L.length lc) (fun h => h.2 (.inl rfl)))
        (fun b hb h' => h'.elim (h.far.1 b hb).1 (h.far.1 b hb).2) (fun b hb h' => h'.elim (h.far.2 b hb).1 (h.far.2 b hb).2)
  exact ⟨heap_set (i := 1) (heap_set (i := 0) h.h2), ⟨hfr.hr, hfr.hl.weak levGood (fun b _ h => ⟨h.1, h.2.1, fun h => h⟩)⟩, (h.bel.setCell hB2 _).setCell hB2 _⟩
theorem Fresh.gval {base : Nat} {w : World} {R : List Pr} {L : List (List Pr)} {ra la : Option Addr} {rc lc : Nat} {no ok : Nat → Prop} (h : Fresh base w (.slice ra R.length rc) (.slice la L.length lc) no R L) : GVal w (fun b => ok b ∨ base ≤ b) (.agg #[.slice ra R.length rc, .slice la L.length lc]) ⟨R, L⟩ :=
  ⟨ra, rc, la, lc, rfl, h.hr.rsl pairGood _ (fun _ _ h => .inr h) (fun _ _ h => h.elim), h.hl.rsl levGood _ (fun _ _ h => .inr h) (fun _ _ h => .inr h.1)⟩
/-- The parameter handed back. -/
theorem back_out {w W : World} {B2 : Nat} {ok : Nat → Prop} {l : Lg} {ra la : Option Addr} {rc lc : Nat} (h2 : W.heap[B2]? = some (.cells #[.slice none 0 0, .slice none 0 0] 28)) (hB2 : w.heap.size ≤ B2) (hb : Below w.heap.size w W)
    (h : GVal w ok (.agg #[.slice ra l.reads.length rc, .slice la l.levels.length lc]) l) :
    ((W.setCell ⟨B2, 0, none⟩ (.slice ra l.reads.length rc)).setCell ⟨B2, 1, none⟩ (.slice la l.levels.length lc)).heap[B2]? = some (.cells #[.slice ra l.reads.length rc, .slice la l.levels.length lc] 28) ∧
    GVal ((W.setCell ⟨B2, 0, none⟩ (.slice ra l.reads.length rc)).setCell ⟨B2, 1, none⟩ (.slice la l.levels.length lc)) (fun b => ok b ∨ w.heap.size ≤ b) (.agg #[.slice ra l.reads.length rc, .slice la l.levels.length lc]) l ∧
    Below w.heap.size w ((W.setCell ⟨B2, 0, none⟩ (.slice ra l.reads.length rc)).setCell ⟨B2, 1, none⟩ (.slice la l.levels.length lc)) := by
  have hb' := (hb.setCell (p := ⟨B2, 0, none⟩) hB2 (.slice ra l.reads.length rc)).setCell (p := ⟨B2, 1, none⟩) hB2 (.slice la l.levels.length lc)
  exact ⟨heap_set (i := 1) (heap_set (i := 0) h2), (h.more hb').weak (fun _ _ h => .inl h), hb'⟩
set_option maxHeartbeats 1000000 in
theorem new_any (w : World) : Calls Try.prog 30 #[] w fun e w' => ∃ la lc, e = .returned (.agg #[.slice none 0 0, .slice la 1 lc]) ∧ GVal w' (fun b => w.heap.size ≤ b) (.agg #[.slice none 0 0, .slice la 1 lc]) ⟨[], [[]]⟩ ∧ Below w.heap.size w w' := by
  go_enter Try.func30, Try.ntmps30
  go_wp2
  have h0 := heap_one w (Obj.cells #[.slice none 0 0, .slice (some ⟨w.heap.size + 1, 0, none⟩) 1 1] 28) (Obj.cells #[.slice none 0 0] 54)
  have h1 := heap_two w (Obj.cells #[.slice none 0 0, .slice (some ⟨w.heap.size + 1, 0, none⟩) 1 1] 28) (Obj.cells #[.slice none 0 0] 54)
  have t0 := cell_at (i := 0) (v := .slice none 0 0) h0 rfl
  have t1 := cell_at (i := 1) (v := .slice (some ⟨w.heap.size + 1, 0, none⟩) 1 1) h0 rfl
  have u0 := cell_at (i := 0) (v := .slice none 0 0) h1 rfl
  refine bodyPost_ret (v := .agg #[.slice none 0 0, .slice (some ⟨w.heap.size + 1, 0, none⟩) 1 1]) (by simp [results, Try.results30, go_sem, t0, t1]) rfl ⟨_, _, rfl, ⟨none, 0, _, 1, rfl, RSl.nil _ _ _ _, ?_⟩, ((Below.refl _ _).alloc (Nat.le_refl _) _).alloc (by simp) _⟩
  refine ⟨_, _, rfl, by simp, by simp [maxLen], (fun h => by cases h), fun _ => ⟨_, 0, rfl, by show w.heap.size ≤ w.heap.size + 1; omega, fun i hi => ⟨[.slice none 0 0], ⟨_, rfl, ?_⟩, fun j u hj => ?_⟩⟩⟩
  · have : i = 0 := by simpa using hi
    subst this
    exact RSl.nil _ _ _ _
  · have hi' : i = 0 := by simpa using hi
    subst hi'
    cases j with
    | zero => simp at hj; subst hj; simp [u0]
    | succ j => simp at hj
def Okl (l : Lg) (n : Nat) : Prop := l.reads.length ≤ n ∧ l.levels.length ≤ n ∧ ∀ x ∈ l.levels, x.length ≤ n
end Go.Proofs.Ytplckigmllkpoaa
