/- tlog.New, Push. -/
import Derived.Test.YtaajooemocdfgaaTlF
namespace Go.Proofs.Ytaajooemocdfgaa
open Go.RowKit Go.Shelf Go.Maps
attribute [local go_sem] Oper.semAt_some
/-- A log and an error, handed back. -/
def LP (ok : Nat → Prop) (r : Lg × Int) (w : World) (e : Ending) (w' : World) : Prop := ∃ ra rc la lc, e = .returned (.tuple #[.agg #[.slice ra r.1.reads.length rc, .slice la r.1.levels.length lc], .int .i64 r.2]) ∧ GVal w' (fun b => ok b ∨ w.heap.size ≤ b) (.agg #[.slice ra r.1.reads.length rc, .slice la r.1.levels.length lc]) r.1 ∧ Below w.heap.size w w'
def pushG (l : Lg) : Lg × Int := if chkG l then (⟨l.reads, l.levels ++ [[]]⟩, 0) else (l, 170)
theorem OwnIn.make {w w1 w2 : World} {rv sv : Value} {R : List Pr} {L : List (List Pr)} {B2 : Nat} (hb : Below w.heap.size w w1) (h2 : w1.heap[B2]? = some (.cells #[.slice none 0 0, .slice none 0 0] 25))
    (hO : Fresh w1.heap.size w2 rv sv (fun _ => False) R L) (b : Below w1.heap.size w1 w2) : OwnIn w B2 w2.heap.size R L rv sv (w2.alloc (.cells #[rv, sv] 25)) := by
  have hlt := lt_of_some h2
  have b3 : Below w2.heap.size w2 (w2.alloc (.cells #[rv, sv] 25)) := (Below.refl _ _).alloc (Nat.le_refl _) _
  have hs := b.size
  have hs1 := hb.size
  refine ⟨hb.trans ((b.mono hb.size).trans (b3.mono (by omega))), (b3.block _ (by omega)).trans ((b.block _ hlt).trans h2), World.alloc_heap_new _ _, (hO.hr.below pairGood b3).base hs1, ?_⟩
  exact ((hO.hl.weak levGood (ok' := fun b => w.heap.size ≤ b ∧ some b ≠ rv.ownBlock ∧ ¬ (b = B2 ∨ b = w2.heap.size)) (fun b hb h => ⟨by omega, h.2.1, by omega⟩)).below levGood b3).base hs1
theorem OwnIn.out {w : World} {B2 B3 : Nat} {R : List Pr} {L : List (List Pr)} {ra la : Option Addr} {rc lc : Nat} {W : World} (h : OwnIn w B2 B3 R L (.slice ra R.length rc) (.slice la L.length lc) W) (hB2 : w.heap.size ≤ B2) :
    ((W.setCell ⟨B2, 0, none⟩ (.slice ra R.length rc)).setCell ⟨B2, 1, none⟩ (.slice la L.length lc)).heap[B2]? = some (.cells #[.slice ra R.length rc, .slice la L.length lc] 25) ∧
    Fresh w.heap.size ((W.setCell ⟨B2, 0, none⟩ (.slice ra R.length rc)).setCell ⟨B2, 1, none⟩ (.slice la L.length lc)) (.slice ra R.length rc) (.slice la L.length lc) (fun _ => False) R L ∧
    Below w.heap.size w ((W.setCell ⟨B2, 0, none⟩ (.slice ra R.length rc)).setCell ⟨B2, 1, none⟩ (.slice la L.length lc)) := by
  have hfr := h.fr.keep (((Same.refl _ _).setCell (a := ⟨B2, 0, none⟩) (.slice ra R.length rc) (fun h => h.2 (.inl rfl))).setCell (a := ⟨B2, 1, none⟩) (.slice la L.length lc) (fun h => h.2 (.inl rfl)))
        (fun b hb h' => h'.elim (h.far.1 b hb).1 (h.far.1 b hb).2) (fun b hb h' => h'.elim (h.far.2 b hb).1 (h.far.2 b hb).2)
  exact ⟨heap_set (i := 1) (heap_set (i := 0) h.h2), ⟨hfr.hr, hfr.hl.weak levGood (fun b _ h => ⟨h.1, h.2.1, fun h => h⟩)⟩, (h.bel.setCell hB2 _).setCell hB2 _⟩
theorem Fresh.gval {base : Nat} {w : World} {R : List Pr} {L : List (List Pr)} {ra la : Option Addr} {rc lc : Nat} {no ok : Nat → Prop} (h : Fresh base w (.slice ra R.length rc) (.slice la L.length lc) no R L) : GVal w (fun b => ok b ∨ base ≤ b) (.agg #[.slice ra R.length rc, .slice la L.length lc]) ⟨R, L⟩ :=
  ⟨ra, rc, la, lc, rfl, h.hr.rsl pairGood _ (fun _ _ h => .inr h) (fun _ _ h => h.elim), h.hl.rsl levGood _ (fun _ _ h => .inr h) (fun _ _ h => .inr h.1)⟩
/-- The parameter handed back. -/
theorem back_out {w W : World} {B2 : Nat} {ok : Nat → Prop} {l : Lg} {ra la : Option Addr} {rc lc : Nat} (h2 : W.heap[B2]? = some (.cells #[.slice none 0 0, .slice none 0 0] 25)) (hB2 : w.heap.size ≤ B2) (hb : Below w.heap.size w W)
    (h : GVal w ok (.agg #[.slice ra l.reads.length rc, .slice la l.levels.length lc]) l) :
    ((W.setCell ⟨B2, 0, none⟩ (.slice ra l.reads.length rc)).setCell ⟨B2, 1, none⟩ (.slice la l.levels.length lc)).heap[B2]? = some (.cells #[.slice ra l.reads.length rc, .slice la l.levels.length lc] 25) ∧
    GVal ((W.setCell ⟨B2, 0, none⟩ (.slice ra l.reads.length rc)).setCell ⟨B2, 1, none⟩ (.slice la l.levels.length lc)) (fun b => ok b ∨ w.heap.size ≤ b) (.agg #[.slice ra l.reads.length rc, .slice la l.levels.length lc]) l ∧
    Below w.heap.size w ((W.setCell ⟨B2, 0, none⟩ (.slice ra l.reads.length rc)).setCell ⟨B2, 1, none⟩ (.slice la l.levels.length lc)) := by
  have hb' := (hb.setCell (p := ⟨B2, 0, none⟩) hB2 (.slice ra l.reads.length rc)).setCell (p := ⟨B2, 1, none⟩) hB2 (.slice la l.levels.length lc)
  exact ⟨heap_set (i := 1) (heap_set (i := 0) h2), (h.more hb').weak (fun _ _ h => .inl h), hb'⟩
set_option maxHeartbeats 1000000 in
theorem new_any (w : World) : Calls Try.prog 25 #[] w fun e w' => ∃ la lc, e = .returned (.agg #[.slice none 0 0, .slice la 1 lc]) ∧ GVal w' (fun b => w.heap.size ≤ b) (.agg #[.slice none 0 0, .slice la 1 lc]) ⟨[], [[]]⟩ ∧ Below w.heap.size w w' := by
  go_enter Try.func25, Try.ntmps25
  go_wp2
  have h0 := heap_one w (Obj.cells #[.slice none 0 0, .slice (some ⟨w.heap.size + 1, 0, none⟩) 1 1] 25) (Obj.cells #[.slice none 0 0] 37)
  have h1 := heap_two w (Obj.cells #[.slice none 0 0, .slice (some ⟨w.heap.size + 1, 0, none⟩) 1 1] 25) (Obj.cells #[.slice none 0 0] 37)
  have t0 := cell_at (i := 0) (v := .slice none 0 0) h0 rfl
  have t1 := cell_at (i := 1) (v := .slice (some ⟨w.heap.size + 1, 0, none⟩) 1 1) h0 rfl
  have u0 := cell_at (i := 0) (v := .slice none 0 0) h1 rfl
  refine bodyPost_ret (v := .agg #[.slice none 0 0, .slice (some ⟨w.heap.size + 1, 0, none⟩) 1 1]) (by simp [results, Try.results25, go_sem, t0, t1]) rfl ⟨_, _, rfl, ⟨none, 0, _, 1, rfl, RSl.nil _ _ _ _, ?_⟩, ((Below.refl _ _).alloc (Nat.le_refl _) _).alloc (by simp) _⟩
  refine ⟨_, _, rfl, by simp, by simp [maxLen], (fun h => by cases h), fun _ => ⟨_, 0, rfl, by show w.heap.size ≤ w.heap.size + 1; omega, fun i hi => ⟨[.slice none 0 0], ⟨_, rfl, ?_⟩, fun j u hj => ?_⟩⟩⟩
  · have : i = 0 := by simpa using hi
    subst this
    exact RSl.nil _ _ _ _
  · have hi' : i = 0 := by simpa using hi
    subst hi'
    cases j with
    | zero => simp at hj; subst hj; simp [u0]
    | succ j => simp at hj
def Okl (l : Lg) (n : Nat) : Prop := l.reads.length ≤ n ∧ l.levels.length ≤ n ∧ ∀ x ∈ l.levels, x.length ≤ n
set_option maxHeartbeats 4000000 in
theorem push_any (w : World) (ok : Nat → Prop) (v : Value) (l : Lg) (h : GVal w ok v l) (hs : Okl l 100000) : Calls Try.prog 10 #[v] w (LP ok (pushG l) w) := by
  have hG := h
  obtain ⟨ra, rc, la, lc, rfl, hr, hl⟩ := h
  obtain ⟨_, _, e, l1, _⟩ := hr.shape
  cases e
  obtain ⟨_, _, e, l2, _⟩ := hl.shape
  cases e
  clear hr hl
  obtain ⟨W0, hW0⟩ : ∃ W0, (w.alloc (Obj.cells #[.slice ra l.reads.length rc, .slice la l.levels.length lc] 25)).alloc (Obj.cells #[.slice none 0 0, .slice none 0 0] 25) = W0 := ⟨_, rfl⟩
  have hb0 : Below w.heap.size w W0 := by rw [← hW0]; exact ((Below.refl _ _).alloc (Nat.le_refl _) _).alloc (by simp) _
  have h0 : W0.heap[w.heap.size]? = some (.cells #[.slice ra l.reads.length rc, .slice la l.levels.length lc] 25) := by rw [← hW0]; exact heap_one _ _ _
  have h1 : W0.heap[w.heap.size + 1]? = some (.cells #[.slice none 0 0, .slice none 0 0] 25) := by rw [← hW0]; exact heap_two _ _ _
  obtain ⟨q, hq⟩ : ∃ q, q = chkG l := ⟨_, rfl⟩
  have HC := hid (check_any W0 _ _ l (hG.more hb0))
  rw [← hq] at HC
  have HH := hid (And.intro hG (And.intro hb0 (And.intro h0 (And.intro h1 (And.intro hq hs)))))
  have HW := hid hW0
  clear hG hb0 h0 h1 hW0 hq hs
  go_enter Try.func10, Try.ntmps10
  go_upto_region 1 with (fail)
  rw [HW.out]
  clear HW
  have c0 : W0.cell? ⟨w.heap.size, 0, none⟩ = some (.slice ra l.reads.length rc) := cell_of HH.out.2.2.1
  have c1 : W0.cell? ⟨w.heap.size, 1, none⟩ = some (.slice la l.levels.length lc) := cell_of HH.out.2.2.1
  go_wp2_with fail
  refine HC.out.mono ?_
  rintro e w1 ⟨rfl, b1⟩
  clear c0 c1 HC
  have k0 := (b1.block _ (lt_of_some HH.out.2.2.1)).trans HH.out.2.2.1
  have k1 := (b1.block _ (lt_of_some HH.out.2.2.2.1)).trans HH.out.2.2.2.1
  have bw1 := HH.out.2.1.trans (b1.mono HH.out.2.1.size)
  have c0 : w1.cell? ⟨w.heap.size, 0, none⟩ = some (.slice ra l.reads.length rc) := cell_of k0
  have c1 : w1.cell? ⟨w.heap.size, 1, none⟩ = some (.slice la l.levels.length lc) := cell_of k0
  have K := hid (And.intro k0 (And.intro k1 bw1))
  clear k0 k1 bw1 b1
  cases q
  · have q0 : w1.cell? ⟨w.heap.size + 1, 0, none⟩ = some (.slice none 0 0) := cell_of K.out.2.1
    have q1 : w1.cell? ⟨w.heap.size + 1, 1, none⟩ = some (.slice none 0 0) := cell_of K.out.2.1
    have hf : ∀ i, w1.frozen? ⟨w.heap.size + 1, i, none⟩ = false := fun i => free_of K.out.2.1
    go_wp2_with fail
    have F := back_out K.out.2.1 (by simp) K.out.2.2 HH.out.1
    have t0 := cell_at (i := 0) (v := .slice ra l.reads.length rc) F.1 rfl
    have t1 := cell_at (i := 1) (v := .slice la l.levels.length lc) F.1 rfl
    refine bodyPost_ret (v := .tuple #[.agg #[.slice ra l.reads.length rc, .slice la l.levels.length lc], .int .i64 170]) (by simp [results, Try.results10, go_sem, t0, t1]) rfl ?_
    rw [pushG, ← HH.out.2.2.2.2.1]
    exact ⟨_, _, _, _, rfl, F.2.1, F.2.2⟩
  · have HO := hid (own_any w1 _ _ l (HH.out.1.more K.out.2.2) HH.out.2.2.2.2.2.1 HH.out.2.2.2.2.2.2.1 HH.out.2.2.2.2.2.2.2)
    go_wp2_with fail
    refine HO.out.mono ?_
    rintro e w2 ⟨oa, oc, sa, sc, rfl, hfr, b2⟩
    clear c0 c1 HO
    have hlt2 : w.heap.size + 1 < w2.heap.size := by have := b2.size; have := lt_of_some K.out.2.1; omega
    have HI := hid (OwnIn.make K.out.2.2 K.out.2.1 hfr b2)
    clear hfr b2
    go_upto_region 4 with (fail)
    obtain ⟨w3, hw3⟩ : ∃ w3, w2.alloc (Obj.cells #[.slice oa l.reads.length oc, .slice sa l.levels.length sc] 25) = w3 := ⟨_, rfl⟩
    obtain ⟨B3, hB3⟩ : ∃ B3, w2.heap.size = B3 := ⟨_, rfl⟩
    rw [hw3, hB3] at HI
    rw [hw3, hB3]
    have hB : w.heap.size + 1 < B3 := by omega
    obtain ⟨v8, w8, hrun8, k3, hI8⟩ := HI.out.step (by simp) (by omega) (Below.refl _ _) (x := []) (cv := .slice none 0 0) (OSl.nil _ _ _ _ _ _) (by have := HH.out.2.2.2.2.2.2.1; omega) (by omega)
    obtain ⟨a8, c8, rfl⟩ := hI8.fr.hl.shape2
    have hn8 : (l.levels ++ [([] : List Pr)]).length = l.levels.length + 1 := by simp
    rw [hn8] at hrun8 hI8
    have c3 : w3.cell? ⟨B3, 1, none⟩ = some (.slice sa l.levels.length sc) := cell_of HI.out.h3
    have f8 : w8.frozen? ⟨B3, 1, none⟩ = false := free_of k3
    have d8 : w8.cell? ⟨B3, 1, none⟩ = some (.slice sa l.levels.length sc) := cell_of k3
    have H8 := hid hI8
    have HR8 := hid hrun8
    clear hI8 hrun8 k3 hw3 hB3
    go_upto_region 5 with (at_builtin; refine wpList_append_run rfl _ _ _ rfl _ _ rfl rfl _ _ HR8.out ?_)
    obtain ⟨w9, hw9⟩ : ∃ w9, w8.setCell ⟨B3, 1, none⟩ (.slice a8 (l.levels.length + 1) c8) = w9 := ⟨_, rfl⟩
    rw [hw9] at H8
    rw [hw9]
    clear hw9 HR8 d8 f8 c3
    have d0 : w9.cell? ⟨B3, 0, none⟩ = some (.slice oa l.reads.length oc) := cell_of H8.out.h3
    have d1 : w9.cell? ⟨B3, 1, none⟩ = some (.slice a8 (l.levels.length + 1) c8) := cell_of H8.out.h3
    have q0 : w9.cell? ⟨w.heap.size + 1, 0, none⟩ = some (.slice none 0 0) := cell_of H8.out.h2
    have q1 : w9.cell? ⟨w.heap.size + 1, 1, none⟩ = some (.slice none 0 0) := cell_of H8.out.h2
    have hf : ∀ i, w9.frozen? ⟨w.heap.size + 1, i, none⟩ = false := fun i => free_of H8.out.h2
    have HN := hid hn8
    clear hn8
    go_wp2_with fail
    have F := OwnIn.out (L := l.levels ++ [[]]) (la := a8) (lc := c8) (by rw [HN.out]; exact H8.out) (by simp)
    rw [HN.out] at F
    have t0 := cell_at (i := 0) (v := .slice oa l.reads.length oc) F.1 rfl
    have t1 := cell_at (i := 1) (v := .slice a8 (l.levels.length + 1) c8) F.1 rfl
    refine bodyPost_ret (v := .tuple #[.agg #[.slice oa l.reads.length oc, .slice a8 (l.levels.length + 1) c8], .int .i64 0]) (by simp [results, Try.results10, go_sem, t0, t1]) rfl ?_
    rw [pushG, ← HH.out.2.2.2.2.1]
    rw [← HN.out] at F ⊢
    exact ⟨_, _, _, _, rfl, F.2.1.gval, F.2.2⟩
end Go.Proofs.Ytaajooemocdfgaa
