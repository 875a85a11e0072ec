/- heap.own, At: what each returns. -/
import Derived.Test.YtajhchfjoeblgaaHeapB
import Derived.Test.YtajhchfjoeblgaaCells
namespace Go.Proofs.Ytajhchfjoeblgaa
open Go.RowKit Go.Shelf
set_option maxHeartbeats 2000000 in
theorem own_any (w : World) (v : Value) (x : Nd) (h : NVal w (fun _ => True) v x) (hlen : x.kids.length ≤ 1000000000) :
    Calls Try.prog 26 #[v] w fun e w' => ∃ v', e = .returned v' ∧ NVal w' (fun b => w.heap.size ≤ b) v' x ∧ Below w.heap.size w w' := by
  obtain ⟨sa, sc, rfl, hi, hj, hs⟩ := h
  obtain ⟨_, _, e, l1, _⟩ := hs.shape
  cases e
  obtain ⟨W0, hW0⟩ : ∃ W0, (w.alloc (Obj.cells #[.int .i64 x.kind, .int .i64 x.num, .string x.name, .slice sa x.kids.length sc] 37)).alloc (Obj.cells #[.int .i64 0, .int .i64 0, .string ⟨#[]⟩, .slice none 0 0] 37) = W0 := ⟨_, rfl⟩
  have hb0 : Below w.heap.size w W0 := by rw [← hW0]; exact ((Below.refl _ _).alloc (Nat.le_refl _) _).alloc (by simp) _
  have hz0 : W0.heap.size = w.heap.size + 2 := by rw [← hW0]; simp
  have h1 := heap_one w (Obj.cells #[.int .i64 x.kind, .int .i64 x.num, .string x.name, .slice sa x.kids.length sc] 37) (Obj.cells #[.int .i64 0, .int .i64 0, .string ⟨#[]⟩, .slice none 0 0] 37)
  have h2 := heap_two w (Obj.cells #[.int .i64 x.kind, .int .i64 x.num, .string x.name, .slice sa x.kids.length sc] 37) (Obj.cells #[.int .i64 0, .int .i64 0, .string ⟨#[]⟩, .slice none 0 0] 37)
  rw [hW0] at h1 h2
  have HC := hid (cloneI W0 _ _ x.kids (hs.below intGood hb0) hlen)
  have HI := hid (And.intro hi hj)
  have HB := hid (And.intro hb0 (And.intro h1 h2))
  have HW := hid hW0
  have HZ := hid hz0
  clear hs hi hj hb0 h1 h2 hW0 hz0
  go_enter Try.func26, Try.ntmps26
  go_wp2_with fail
  rw [HW.out]
  refine HC.out.mono ?_
  rintro e w2 ⟨sv', rfl, hs2, b2⟩
  obtain ⟨sa', sc', rfl, l2, _⟩ := hs2.shape
  have h1 := (b2.block _ (lt_of_some HB.out.2.1)).trans HB.out.2.1
  have h2 := (b2.block _ (lt_of_some HB.out.2.2)).trans HB.out.2.2
  have bw := HB.out.1.trans (b2.mono HB.out.1.size)
  have p0 : w2.cell? ⟨w.heap.size, 0, none⟩ = some (.int .i64 x.kind) := cell_of h1
  have p1 : w2.cell? ⟨w.heap.size, 1, none⟩ = some (.int .i64 x.num) := cell_of h1
  have p2 : w2.cell? ⟨w.heap.size, 2, none⟩ = some (.string x.name) := cell_of h1
  have p3 : w2.cell? ⟨w.heap.size, 3, none⟩ = some (.slice sa x.kids.length sc) := cell_of h1
  have q0 : w2.cell? ⟨w.heap.size + 1, 0, none⟩ = some (.int .i64 0) := cell_of h2
  have q1 : w2.cell? ⟨w.heap.size + 1, 1, none⟩ = some (.int .i64 0) := cell_of h2
  have q2 : w2.cell? ⟨w.heap.size + 1, 2, none⟩ = some (.string ⟨#[]⟩) := cell_of h2
  have q3 : w2.cell? ⟨w.heap.size + 1, 3, none⟩ = some (.slice none 0 0) := cell_of h2
  have hf1 : ∀ i, w2.frozen? ⟨w.heap.size, i, none⟩ = false := fun i => free_of h1
  have hf2 : ∀ i, w2.frozen? ⟨w.heap.size + 1, i, none⟩ = false := fun i => free_of h2
  have HS := hid (And.intro hs2 bw)
  clear hs2 bw b2 HC HB HW
  go_wp2_with fail
  have g1 := heap_far (a := ⟨w.heap.size, 3, none⟩) (v := .slice sa' x.kids.length sc') h2 (by simp)
  have g2 := heap_set (i := 3) (v := .slice sa' x.kids.length sc') (heap_set (i := 2) (v := .string x.name) (heap_set (i := 1) (v := .int .i64 x.num) (heap_set (i := 0) (v := .int .i64 x.kind) g1)))
  have t0 := cell_at (i := 0) (v := .int .i64 x.kind) g2 rfl
  have t1 := cell_at (i := 1) (v := .int .i64 x.num) g2 rfl
  have t2 := cell_at (i := 2) (v := .string x.name) g2 rfl
  have t3 := cell_at (i := 3) (v := .slice sa' x.kids.length sc') g2 rfl
  refine bodyPost_ret (v := .agg #[.int .i64 x.kind, .int .i64 x.num, .string x.name, .slice sa' x.kids.length sc']) (by simp [results, Try.results26, go_sem, t0, t1, t2, t3]) rfl ⟨_, rfl, ⟨_, _, rfl, HI.out.1, HI.out.2, ?_⟩, ?_⟩
  · have hz := HZ.out
    refine (RSl.keep intGood HS.out.1 (w' := _) ((((((Same.refl _ _).setCell _ ?_).setCell _ ?_).setCell _ ?_).setCell _ ?_).setCell _ ?_)).weak intGood (by decide) (fun b _ h => by omega)
    all_goals (simp; omega)
  · have hb := HS.out.2
    go_grown
end Go.Proofs.Ytajhchfjoeblgaa
