/- The reference of tlog: Push, Drop. -/
import Derived.Test.YtaajooemocdfgaaTlP
namespace Go.Proofs.Ytaajooemocdfgaa
open Go.RowKit Go.Shelf Go.Maps
attribute [local go_sem] Oper.semAt_some
theorem wrap_in {n : Int} (h : In n) : IntKind.i64.wrap n = n := by
  obtain ⟨h1, h2⟩ := h
  rw [IntKind.wrap_i64]; omega
set_option maxRecDepth 100000 in
set_option maxHeartbeats 8000000 in
theorem rpush_any (w : World) (ok : Nat → Prop) (v : Value) (l : Lg) (h : GVal w ok v l) (hs : Okl l 100000) : Calls Try.prog 11 #[v] w (LP ok (pushG l) w) := by
  have hG := h
  obtain ⟨ra, rc, la, lc, rfl, hr, hl⟩ := h
  obtain ⟨_, _, e, l1, _⟩ := hr.shape
  cases e
  obtain ⟨_, _, e, l2, _⟩ := hl.shape
  cases e
  clear hr hl
  obtain ⟨W0, hW0⟩ : ∃ W0, (w.alloc (Obj.cells #[.slice ra l.reads.length rc, .slice la l.levels.length lc] 25)).alloc (Obj.cells #[.slice none 0 0, .slice none 0 0] 25) = W0 := ⟨_, rfl⟩
  have hb0 : Below w.heap.size w W0 := by rw [← hW0]; exact ((Below.refl _ _).alloc (Nat.le_refl _) _).alloc (by simp) _
  have h0 : W0.heap[w.heap.size]? = some (.cells #[.slice ra l.reads.length rc, .slice la l.levels.length lc] 25) := by rw [← hW0]; exact heap_one _ _ _
  have h1 : W0.heap[w.heap.size + 1]? = some (.cells #[.slice none 0 0, .slice none 0 0] 25) := by rw [← hW0]; exact heap_two _ _ _
  obtain ⟨q, hq⟩ : ∃ q, q = chkG l := ⟨_, rfl⟩
  have HC := hid (rcheckg_any W0 _ _ l (hG.more hb0))
  rw [← hq] at HC
  have HH := hid (And.intro hG (And.intro hb0 (And.intro h0 (And.intro h1 (And.intro hq hs)))))
  have HW := hid hW0
  clear hG hb0 h0 h1 hW0 hq hs
  go_enter Try.func11, Try.ntmps11
  go_upto_region 1 with (fail)
  rw [HW.out]
  clear HW
  have c0 : W0.cell? ⟨w.heap.size, 0, none⟩ = some (.slice ra l.reads.length rc) := cell_of HH.out.2.2.1
  have c1 : W0.cell? ⟨w.heap.size, 1, none⟩ = some (.slice la l.levels.length lc) := cell_of HH.out.2.2.1
  go_wp2_with fail
  refine HC.out.mono ?_
  rintro e w1 ⟨rfl, b1⟩
  clear c0 c1 HC
  have k0 := (b1.block _ (lt_of_some HH.out.2.2.1)).trans HH.out.2.2.1
  have k1 := (b1.block _ (lt_of_some HH.out.2.2.2.1)).trans HH.out.2.2.2.1
  have bw1 := HH.out.2.1.trans (b1.mono HH.out.2.1.size)
  have c0 : w1.cell? ⟨w.heap.size, 0, none⟩ = some (.slice ra l.reads.length rc) := cell_of k0
  have c1 : w1.cell? ⟨w.heap.size, 1, none⟩ = some (.slice la l.levels.length lc) := cell_of k0
  have K := hid (And.intro k0 (And.intro k1 bw1))
  clear k0 k1 bw1 b1
  cases q
  · have q0 : w1.cell? ⟨w.heap.size + 1, 0, none⟩ = some (.slice none 0 0) := cell_of K.out.2.1
    have q1 : w1.cell? ⟨w.heap.size + 1, 1, none⟩ = some (.slice none 0 0) := cell_of K.out.2.1
    have hf : ∀ i, w1.frozen? ⟨w.heap.size + 1, i, none⟩ = false := fun i => free_of K.out.2.1
    go_wp2_with fail
    have F := back_out K.out.2.1 (by simp) K.out.2.2 HH.out.1
    have t0 := cell_at (i := 0) (v := .slice ra l.reads.length rc) F.1 rfl
    have t1 := cell_at (i := 1) (v := .slice la l.levels.length lc) F.1 rfl
    refine bodyPost_ret (v := .tuple #[.agg #[.slice ra l.reads.length rc, .slice la l.levels.length lc], .int .i64 170]) (by simp [results, Try.results11, go_sem, t0, t1]) rfl ?_
    rw [pushG, ← HH.out.2.2.2.2.1]
    exact ⟨_, _, _, _, rfl, F.2.1, F.2.2⟩
  · go_upto_region 4 with (fail)
    clear c0 c1
    have S5 : w1.drew.heap[w.heap.size]? = some (.cells #[.slice ra l.reads.length rc, .slice la l.levels.length lc] 25) := K.out.1
    have hG5 : GVal w1.drew (fun b => ok b ∧ b < w.heap.size) (.agg #[.slice ra l.reads.length rc, .slice la l.levels.length lc]) l := (HH.out.1.weak (fun b hb h => ⟨h, hb⟩)).more (K.out.2.2).drew
    have h25 : w1.drew.heap[w.heap.size + 1]? = some (.cells #[.slice none 0 0, .slice none 0 0] 25) := K.out.2.1
    have b5 : Below w.heap.size w w1.drew := (K.out.2.2).drew
    refine (wpIn_wide (n := 9)).1 ?_
    refine wpIn_region_held (fun W => W.heap[w.heap.size]? = some (.cells #[.slice ra l.reads.length rc, .slice la l.levels.length lc] 25)) (by kernel_rfl) ?_
    obtain ⟨w5, hw5⟩ : ∃ w5, w1.drew = w5 := ⟨_, rfl⟩
    rw [hw5] at S5 hG5 h25 b5 ⊢
    clear hw5
    have hz5 : w.heap.size + 1 < w5.heap.size := lt_of_some h25
    refine wpAnyHF_takeD (i := 0) 10 (v := .pointer (some ⟨w.heap.size, 0, none⟩)) rfl rfl rfl (by kernel_rfl) (by kernel_rfl) (by kernel_rfl) (fun _ _ _ h => h) ⟨.inl ⟨rfl, fun W hW => by simp [execOp, go_sem]⟩, fun W => rfl⟩ S5 ?_
    refine wpAnyHF_takeD (i := 1) 11 (v := .slice ra l.reads.length rc) rfl rfl rfl (by kernel_rfl) (by kernel_rfl) (by kernel_rfl) (fun _ _ _ h => h) ⟨.inl ⟨rfl, fun W hW => by have m0 := cell_at (i := 0) (v := .slice ra l.reads.length rc) hW rfl; simp [execOp, go_sem, m0]⟩, fun W => rfl⟩ S5 ?_
    refine wpAnyHF_takeD (i := 2) 12 (v := .agg #[.slice ra l.reads.length rc, .slice la l.levels.length lc]) rfl rfl rfl (by kernel_rfl) (by kernel_rfl) (by kernel_rfl) (fun _ _ _ h => h) ⟨.inl ⟨rfl, fun W hW => by have m0 := cell_at (i := 0) (v := .slice ra l.reads.length rc) hW rfl; have m1 := cell_at (i := 1) (v := .slice la l.levels.length lc) hW rfl; simp [execOp, go_sem, m0, m1]⟩, fun W => rfl⟩ S5 ?_
    refine wpAnyHF_takeD (i := 3) 13 (v := .pointer (some ⟨w.heap.size, 1, none⟩)) rfl rfl rfl (by kernel_rfl) (by kernel_rfl) (by kernel_rfl) (fun _ _ _ h => h) ⟨.inl ⟨rfl, fun W hW => by simp [execOp, go_sem]⟩, fun W => rfl⟩ S5 ?_
    simp only [Act.put, List.setIfInBounds_toArray, List.set_cons_zero, List.set_cons_succ]
    refine wpAnyHF_takeD (i := 4) 14 (v := .slice la l.levels.length lc) rfl rfl rfl (by kernel_rfl) (by kernel_rfl) (by kernel_rfl) (fun _ _ _ h => h) ⟨.inl ⟨rfl, fun W hW => by have m1 := cell_at (i := 1) (v := .slice la l.levels.length lc) hW rfl; simp [execOp, go_sem, m1]⟩, fun W => rfl⟩ S5 ?_
    simp only [Act.put, List.setIfInBounds_toArray, List.set_cons_zero, List.set_cons_succ]
    refine wpAnyHF_takeD (i := 5) 15 (v := .int .i64 l.levels.length) rfl rfl rfl (by kernel_rfl) (by kernel_rfl) (by kernel_rfl) (fun _ _ _ h => h) ⟨.inl ⟨rfl, fun W hW => by simp [execOp, go_sem]⟩, fun W => rfl⟩ S5 ?_
    simp only [Act.put, List.setIfInBounds_toArray, List.set_cons_zero, List.set_cons_succ]
    refine wpAnyHF_two (i := 6) (j := 7) (by kernel_rfl) rfl rfl rfl rfl ?_ ?_
    · refine wpIn_callD 16 rfl (P := Try.prog) (f := 28) (args := #[.agg #[.slice ra l.reads.length rc, .slice la l.levels.length lc], .int .i64 l.levels.length]) (by simp [execOp, resolve, invoke, go_sem]) ?_
      refine (levels_any w5 _ _ l l.levels.length hG5 (Nat.le_refl _) (by have := HH.out.2.2.2.2.2.2.1; omega)).mono ?_
      rintro e w6 ⟨lv, rfl, hOL, b6'⟩
      obtain ⟨va, vc, rfl⟩ := hOL.shape2
      have b6 : Below w.heap.size w w6 := b5.trans (b6'.mono b5.size)
      have S6 := (b6'.block _ (lt_of_some S5)).trans S5
      refine ⟨_, rfl, S6, ?_⟩
      simp only [Act.put, List.setIfInBounds_toArray, List.set_cons_zero, List.set_cons_succ]
      have h26 := (b6'.block _ (lt_of_some h25)).trans h25
      refine wpAnyHF_one (i := 7) (by kernel_rfl) rfl rfl ?_
      obtain ⟨w7, hw7⟩ : ∃ z, w6.alloc (.cells #[.slice none 0 0] 37) = z := ⟨_, rfl⟩
      have b7' : Below w6.heap.size w6 w7 := by rw [← hw7]; exact (Below.refl _ _).alloc (Nat.le_refl _) _
      have hn7 : w7.heap[w6.heap.size]? = some (.cells #[.slice none 0 0] 37) := by rw [← hw7]; exact World.alloc_heap_new _ _
      have b7 : Below w.heap.size w w7 := b6.trans (b7'.mono b6.size)
      have S7 := (b7'.block _ (lt_of_some S6)).trans S6
      refine wpIn_valueD 17 rfl (w' := w7) (v := .slice (some ⟨w6.heap.size, 0, none⟩) 1 1) (by rw [← hw7]; simp [execOp, go_sem]) ⟨S7, ?_⟩
      simp only [Act.put, List.setIfInBounds_toArray, List.set_cons_zero, List.set_cons_succ]
      have h27 := (b7'.block _ (lt_of_some h26)).trans h26
      have hO7 : OSl LevE 1 37 w5.heap.size w7 (okR w ok) (.slice va (l.levels.take (l.levels.length)).length vc) (l.levels.take (l.levels.length)) := (hOL.below levGood b7').weak levGood (fun b _ h => okR.old h.1)
      obtain ⟨v8, w8, hrun8, hO8, hg8⟩ := lev_push hO7 hn7 (x := []) (RSl.nil _ _ _ _) (by simp; have := HH.out.2.2.2.2.2.2.1; omega) (by have := b6'.size; have := b7'.size; omega)
      obtain ⟨N, hN⟩ : ∃ N, N = l.levels.take (l.levels.length) ++ [[]] := ⟨_, rfl⟩
      rw [← hN] at hO8
      obtain ⟨a8, c8, rfl⟩ := hO8.shape2
      have n8 : ∀ b, b < w5.heap.size → some b ≠ (Value.slice va (l.levels.take (l.levels.length)).length vc).ownBlock := fun b hb e => by have := (hO7.lt b e.symm).1; omega
      have S8 := (hg8.block _ (lt_of_some S7) (n8 _ (by omega))).trans S7
      have h28 := (hg8.block _ (lt_of_some h27) (n8 _ (by omega))).trans h27
      have b8 := b7.grown hg8 b7.size (fun k hk => by have := (hO7.lt k hk).1; omega)
      have hGV : GVal w8 (okR w ok) (.agg #[.slice ra l.reads.length rc, .slice a8 N.length c8]) ⟨l.reads, N⟩ := ⟨_, _, _, _, rfl, (RSl.below pairGood HH.out.1.readsOf b8).weak pairGood (by decide) (fun b _ h => okR.old h), hO8.rsl levGood _ (fun b _ h => okR.new (by omega)) (fun b _ h => h)⟩
      refine wpAnyHF_one (i := 8) (by kernel_rfl) rfl rfl ?_
      refine wpIn_valueD 18 rfl (w' := w8) (v := .slice a8 N.length c8) (run_append_op (.tmp 16) (.tmp 17) 23 rfl rfl (v := .slice va (l.levels.take (l.levels.length)).length vc) (xv := .slice (some ⟨w6.heap.size, 0, none⟩) 1 1) (by simp [go_sem]) (by simp [go_sem]) hrun8) ⟨S8, ?_⟩
      simp only [Act.put, List.setIfInBounds_toArray, List.set_cons_zero, List.set_cons_succ]
      refine wpAnyHF_takeD (i := 9) 19 (v := .agg #[.slice ra l.reads.length rc, .slice a8 N.length c8]) rfl rfl rfl (by kernel_rfl) (by kernel_rfl) (by kernel_rfl) (fun _ _ _ h => h) ⟨.inl ⟨rfl, fun W hW => by simp [execOp, go_sem]⟩, fun W => rfl⟩ S8 ?_
      simp only [Act.put, List.setIfInBounds_toArray, List.set_cons_zero, List.set_cons_succ]
      have F := put_out (w := w) (l := ⟨l.reads, N⟩) h28 (by simp) b8 hGV
      have q0 : w8.cell? ⟨w.heap.size + 1, 0, none⟩ = some (.slice none 0 0) := cell_of h28
      have q1 : w8.cell? ⟨w.heap.size + 1, 1, none⟩ = some (.slice none 0 0) := cell_of h28
      have f0 : ∀ i, w8.frozen? ⟨w.heap.size + 1, i, none⟩ = false := fun i => free_of h28
      have S9 := heap_far (a := ⟨w.heap.size + 1, 1, none⟩) (v := .slice a8 N.length c8) (heap_far (a := ⟨w.heap.size + 1, 0, none⟩) (v := .slice ra l.reads.length rc) S8 (by simp)) (by simp)
      obtain ⟨w9, hw9⟩ : ∃ z, (w8.setCell ⟨w.heap.size + 1, 0, none⟩ (.slice ra l.reads.length rc)).setCell ⟨w.heap.size + 1, 1, none⟩ (.slice a8 N.length c8) = z := ⟨_, rfl⟩
      refine wpAnyHF_one (i := 10) (by kernel_rfl) rfl rfl ?_
      refine wpIn_skip rfl (w' := w9) (by rw [← hw9]; simp [execOp, go_sem, q0, q1, f0]) ⟨by rw [← hw9]; exact S9, ?_⟩
      rw [hw9] at S9
      refine wpAnyHF_takeD (i := 11) 3 (v := .int .i64 0) rfl rfl rfl (by kernel_rfl) (by kernel_rfl) (by kernel_rfl) (fun _ _ _ h => h) ⟨.inl ⟨rfl, fun W hW => by simp [execOp, go_sem]⟩, fun W => rfl⟩ S9 ?_
      simp only [Act.put, List.setIfInBounds_toArray, List.set_cons_zero, List.set_cons_succ]
      refine wpAnyHF_done (by kernel_rfl) ?_ _
      rw [← hw9]
      have FF := hid F
      have HN := hid hN
      clear hN F hw9 S9 q0 q1 f0 hGV hrun8 hO8 hO7 hOL
      gi_wp2
      go_wp2_with fail
      have t0 := cell_at (i := 0) (v := .slice ra l.reads.length rc) FF.out.1 rfl
      have t1 := cell_at (i := 1) (v := .slice a8 N.length c8) FF.out.1 rfl
      refine bodyPost_ret (v := .tuple #[.agg #[.slice ra l.reads.length rc, .slice a8 N.length c8], .int .i64 0]) (by simp [results, Try.results11, go_sem, t0, t1]) rfl ?_
      rw [pushG, ← HH.out.2.2.2.2.1, if_pos rfl, show l.levels ++ [[]] = N from by rw [HN.out, List.take_length]]
      exact ⟨_, _, _, _, rfl, FF.out.2.1, FF.out.2.2⟩
    · obtain ⟨w6, hw6⟩ : ∃ z, w5.alloc (.cells #[.slice none 0 0] 37) = z := ⟨_, rfl⟩
      have b6' : Below w5.heap.size w5 w6 := by rw [← hw6]; exact (Below.refl _ _).alloc (Nat.le_refl _) _
      have hn6 : w6.heap[w5.heap.size]? = some (.cells #[.slice none 0 0] 37) := by rw [← hw6]; exact World.alloc_heap_new _ _
      have b6 : Below w.heap.size w w6 := b5.trans (b6'.mono b5.size)
      have S6 := (b6'.block _ (lt_of_some S5)).trans S5
      refine wpIn_valueD 17 rfl (w' := w6) (v := .slice (some ⟨w5.heap.size, 0, none⟩) 1 1) (by rw [← hw6]; simp [execOp, go_sem]) ⟨S6, ?_⟩
      simp only [Act.put, List.setIfInBounds_toArray, List.set_cons_zero, List.set_cons_succ]
      have h26 := (b6'.block _ (lt_of_some h25)).trans h25
      refine wpAnyHF_one (i := 6) (by kernel_rfl) rfl rfl ?_
      refine wpIn_callD 16 rfl (P := Try.prog) (f := 28) (args := #[.agg #[.slice ra l.reads.length rc, .slice la l.levels.length lc], .int .i64 l.levels.length]) (by simp [execOp, resolve, invoke, go_sem]) ?_
      refine (levels_any w6 _ _ l l.levels.length (hG5.more b6') (Nat.le_refl _) (by have := HH.out.2.2.2.2.2.2.1; omega)).mono ?_
      rintro e w7 ⟨lv, rfl, hOL, b7'⟩
      obtain ⟨va, vc, rfl⟩ := hOL.shape2
      have b7 : Below w.heap.size w w7 := b6.trans (b7'.mono b6.size)
      have S7 := (b7'.block _ (lt_of_some S6)).trans S6
      refine ⟨_, rfl, S7, ?_⟩
      simp only [Act.put, List.setIfInBounds_toArray, List.set_cons_zero, List.set_cons_succ]
      have h27 := (b7'.block _ (lt_of_some h26)).trans h26
      have hn7 := (b7'.block _ (lt_of_some hn6)).trans hn6
      have hs6 := b6'.size
      have hO7 : OSl LevE 1 37 w6.heap.size w7 (okR w ok) (.slice va (l.levels.take (l.levels.length)).length vc) (l.levels.take (l.levels.length)) := hOL.weak levGood (fun b _ h => okR.old h.1)
      obtain ⟨v8, w8, hrun8, hO8, hg8⟩ := lev_push hO7 hn7 (x := []) (RSl.nil _ _ _ _) (by simp; have := HH.out.2.2.2.2.2.2.1; omega) b7'.size
      obtain ⟨N, hN⟩ : ∃ N, N = l.levels.take (l.levels.length) ++ [[]] := ⟨_, rfl⟩
      rw [← hN] at hO8
      obtain ⟨a8, c8, rfl⟩ := hO8.shape2
      have n8 : ∀ b, b < w6.heap.size → some b ≠ (Value.slice va (l.levels.take (l.levels.length)).length vc).ownBlock := fun b hb e => by have := (hO7.lt b e.symm).1; omega
      have S8 := (hg8.block _ (lt_of_some S7) (n8 _ (by omega))).trans S7
      have h28 := (hg8.block _ (lt_of_some h27) (n8 _ (by omega))).trans h27
      have b8 := b7.grown hg8 b7.size (fun k hk => by have := (hO7.lt k hk).1; omega)
      have hGV : GVal w8 (okR w ok) (.agg #[.slice ra l.reads.length rc, .slice a8 N.length c8]) ⟨l.reads, N⟩ := ⟨_, _, _, _, rfl, (RSl.below pairGood HH.out.1.readsOf b8).weak pairGood (by decide) (fun b _ h => okR.old h), hO8.rsl levGood _ (fun b _ h => okR.new (by omega)) (fun b _ h => h)⟩
      refine wpAnyHF_one (i := 8) (by kernel_rfl) rfl rfl ?_
      refine wpIn_valueD 18 rfl (w' := w8) (v := .slice a8 N.length c8) (run_append_op (.tmp 16) (.tmp 17) 23 rfl rfl (v := .slice va (l.levels.take (l.levels.length)).length vc) (xv := .slice (some ⟨w5.heap.size, 0, none⟩) 1 1) (by simp [go_sem]) (by simp [go_sem]) hrun8) ⟨S8, ?_⟩
      simp only [Act.put, List.setIfInBounds_toArray, List.set_cons_zero, List.set_cons_succ]
      refine wpAnyHF_takeD (i := 9) 19 (v := .agg #[.slice ra l.reads.length rc, .slice a8 N.length c8]) rfl rfl rfl (by kernel_rfl) (by kernel_rfl) (by kernel_rfl) (fun _ _ _ h => h) ⟨.inl ⟨rfl, fun W hW => by simp [execOp, go_sem]⟩, fun W => rfl⟩ S8 ?_
      simp only [Act.put, List.setIfInBounds_toArray, List.set_cons_zero, List.set_cons_succ]
      have F := put_out (w := w) (l := ⟨l.reads, N⟩) h28 (by simp) b8 hGV
      have q0 : w8.cell? ⟨w.heap.size + 1, 0, none⟩ = some (.slice none 0 0) := cell_of h28
      have q1 : w8.cell? ⟨w.heap.size + 1, 1, none⟩ = some (.slice none 0 0) := cell_of h28
      have f0 : ∀ i, w8.frozen? ⟨w.heap.size + 1, i, none⟩ = false := fun i => free_of h28
      have S9 := heap_far (a := ⟨w.heap.size + 1, 1, none⟩) (v := .slice a8 N.length c8) (heap_far (a := ⟨w.heap.size + 1, 0, none⟩) (v := .slice ra l.reads.length rc) S8 (by simp)) (by simp)
      obtain ⟨w9, hw9⟩ : ∃ z, (w8.setCell ⟨w.heap.size + 1, 0, none⟩ (.slice ra l.reads.length rc)).setCell ⟨w.heap.size + 1, 1, none⟩ (.slice a8 N.length c8) = z := ⟨_, rfl⟩
      refine wpAnyHF_one (i := 10) (by kernel_rfl) rfl rfl ?_
      refine wpIn_skip rfl (w' := w9) (by rw [← hw9]; simp [execOp, go_sem, q0, q1, f0]) ⟨by rw [← hw9]; exact S9, ?_⟩
      rw [hw9] at S9
      refine wpAnyHF_takeD (i := 11) 3 (v := .int .i64 0) rfl rfl rfl (by kernel_rfl) (by kernel_rfl) (by kernel_rfl) (fun _ _ _ h => h) ⟨.inl ⟨rfl, fun W hW => by simp [execOp, go_sem]⟩, fun W => rfl⟩ S9 ?_
      simp only [Act.put, List.setIfInBounds_toArray, List.set_cons_zero, List.set_cons_succ]
      refine wpAnyHF_done (by kernel_rfl) ?_ _
      rw [← hw9]
      have FF := hid F
      have HN := hid hN
      clear hN F hw9 S9 q0 q1 f0 hGV hrun8 hO8 hO7 hOL
      gi_wp2
      go_wp2_with fail
      have t0 := cell_at (i := 0) (v := .slice ra l.reads.length rc) FF.out.1 rfl
      have t1 := cell_at (i := 1) (v := .slice a8 N.length c8) FF.out.1 rfl
      refine bodyPost_ret (v := .tuple #[.agg #[.slice ra l.reads.length rc, .slice a8 N.length c8], .int .i64 0]) (by simp [results, Try.results11, go_sem, t0, t1]) rfl ?_
      rw [pushG, ← HH.out.2.2.2.2.1, if_pos rfl, show l.levels ++ [[]] = N from by rw [HN.out, List.take_length]]
      exact ⟨_, _, _, _, rfl, FF.out.2.1, FF.out.2.2⟩
set_option maxRecDepth 100000 in
set_option maxHeartbeats 8000000 in
theorem rdrop_any (w : World) (ok : Nat → Prop) (v : Value) (l : Lg) (h : GVal w ok v l) (hs : Okl l 100000) : Calls Try.prog 16 #[v] w (LP ok (dropG l) w) := by
  have hG := h
  obtain ⟨ra, rc, la, lc, rfl, hr, hl⟩ := h
  obtain ⟨_, _, e, l1, _⟩ := hr.shape
  cases e
  obtain ⟨_, _, e, l2, _⟩ := hl.shape
  cases e
  clear hr hl
  obtain ⟨W0, hW0⟩ : ∃ W0, (w.alloc (Obj.cells #[.slice ra l.reads.length rc, .slice la l.levels.length lc] 25)).alloc (Obj.cells #[.slice none 0 0, .slice none 0 0] 25) = W0 := ⟨_, rfl⟩
  have hb0 : Below w.heap.size w W0 := by rw [← hW0]; exact ((Below.refl _ _).alloc (Nat.le_refl _) _).alloc (by simp) _
  have h0 : W0.heap[w.heap.size]? = some (.cells #[.slice ra l.reads.length rc, .slice la l.levels.length lc] 25) := by rw [← hW0]; exact heap_one _ _ _
  have h1 : W0.heap[w.heap.size + 1]? = some (.cells #[.slice none 0 0, .slice none 0 0] 25) := by rw [← hW0]; exact heap_two _ _ _
  obtain ⟨q, hq⟩ : ∃ q, q = chkG l := ⟨_, rfl⟩
  have HC := hid (rcheckg_any W0 _ _ l (hG.more hb0))
  rw [← hq] at HC
  have HH := hid (And.intro hG (And.intro hb0 (And.intro h0 (And.intro h1 (And.intro hq hs)))))
  have HW := hid hW0
  clear hG hb0 h0 h1 hW0 hq hs
  go_enter Try.func16, Try.ntmps16
  go_upto_region 1 with (fail)
  rw [HW.out]
  clear HW
  have c0 : W0.cell? ⟨w.heap.size, 0, none⟩ = some (.slice ra l.reads.length rc) := cell_of HH.out.2.2.1
  have c1 : W0.cell? ⟨w.heap.size, 1, none⟩ = some (.slice la l.levels.length lc) := cell_of HH.out.2.2.1
  go_wp2_with fail
  refine HC.out.mono ?_
  rintro e w1 ⟨rfl, b1⟩
  clear c0 c1 HC
  have k0 := (b1.block _ (lt_of_some HH.out.2.2.1)).trans HH.out.2.2.1
  have k1 := (b1.block _ (lt_of_some HH.out.2.2.2.1)).trans HH.out.2.2.2.1
  have bw1 := HH.out.2.1.trans (b1.mono HH.out.2.1.size)
  have c0 : w1.cell? ⟨w.heap.size, 0, none⟩ = some (.slice ra l.reads.length rc) := cell_of k0
  have c1 : w1.cell? ⟨w.heap.size, 1, none⟩ = some (.slice la l.levels.length lc) := cell_of k0
  have K := hid (And.intro k0 (And.intro k1 bw1))
  clear k0 k1 bw1 b1
  by_cases hd : dropOk l = true
  · obtain ⟨m, hm⟩ : ∃ m, l.levels.length = m + 1 := ⟨l.levels.length - 1, by simp [dropOk, chkG] at hd; omega⟩
    obtain rfl : q = true := by rw [HH.out.2.2.2.2.1]; simp [dropOk] at hd; exact hd.1
    have f1 : decide ((l.levels.length : Int) < 2) = false := by rw [decide_eq_false_iff_not]; simp [dropOk] at hd; omega
    have hi : ((l.levels.length : Int) - 1) = (m : Int) := by omega
    have hwm := wrap_in (n := m) (by constructor <;> omega)
    have HM := hid (And.intro hd hm)
    clear hd hm
    go_upto_region 4 with (fail)
    clear c0 c1
    have S5 : w1.drew.heap[w.heap.size]? = some (.cells #[.slice ra l.reads.length rc, .slice la l.levels.length lc] 25) := K.out.1
    have hG5 : GVal w1.drew (fun b => ok b ∧ b < w.heap.size) (.agg #[.slice ra l.reads.length rc, .slice la l.levels.length lc]) l := (HH.out.1.weak (fun b hb h => ⟨h, hb⟩)).more (K.out.2.2).drew
    have h25 : w1.drew.heap[w.heap.size + 1]? = some (.cells #[.slice none 0 0, .slice none 0 0] 25) := K.out.2.1
    have b5 : Below w.heap.size w w1.drew := (K.out.2.2).drew
    refine (wpIn_wide (n := 9)).1 ?_
    refine wpIn_region_held (fun W => W.heap[w.heap.size]? = some (.cells #[.slice ra l.reads.length rc, .slice la l.levels.length lc] 25)) (by kernel_rfl) ?_
    obtain ⟨w5, hw5⟩ : ∃ w5, w1.drew = w5 := ⟨_, rfl⟩
    rw [hw5] at S5 hG5 h25 b5 ⊢
    clear hw5
    have hz5 : w.heap.size + 1 < w5.heap.size := lt_of_some h25
    refine wpAnyHF_takeD (i := 0) 16 (v := .pointer (some ⟨w.heap.size, 0, none⟩)) rfl rfl rfl (by kernel_rfl) (by kernel_rfl) (by kernel_rfl) (fun _ _ _ h => h) ⟨.inl ⟨rfl, fun W hW => by simp [execOp, go_sem]⟩, fun W => rfl⟩ S5 ?_
    refine wpAnyHF_takeD (i := 1) 17 (v := .slice ra l.reads.length rc) rfl rfl rfl (by kernel_rfl) (by kernel_rfl) (by kernel_rfl) (fun _ _ _ h => h) ⟨.inl ⟨rfl, fun W hW => by have m0 := cell_at (i := 0) (v := .slice ra l.reads.length rc) hW rfl; simp [execOp, go_sem, m0]⟩, fun W => rfl⟩ S5 ?_
    refine wpAnyHF_takeD (i := 2) 18 (v := .agg #[.slice ra l.reads.length rc, .slice la l.levels.length lc]) rfl rfl rfl (by kernel_rfl) (by kernel_rfl) (by kernel_rfl) (fun _ _ _ h => h) ⟨.inl ⟨rfl, fun W hW => by have m0 := cell_at (i := 0) (v := .slice ra l.reads.length rc) hW rfl; have m1 := cell_at (i := 1) (v := .slice la l.levels.length lc) hW rfl; simp [execOp, go_sem, m0, m1]⟩, fun W => rfl⟩ S5 ?_
    refine wpAnyHF_takeD (i := 3) 19 (v := .pointer (some ⟨w.heap.size, 1, none⟩)) rfl rfl rfl (by kernel_rfl) (by kernel_rfl) (by kernel_rfl) (fun _ _ _ h => h) ⟨.inl ⟨rfl, fun W hW => by simp [execOp, go_sem]⟩, fun W => rfl⟩ S5 ?_
    simp only [Act.put, List.setIfInBounds_toArray, List.set_cons_zero, List.set_cons_succ]
    refine wpAnyHF_takeD (i := 4) 20 (v := .slice la l.levels.length lc) rfl rfl rfl (by kernel_rfl) (by kernel_rfl) (by kernel_rfl) (fun _ _ _ h => h) ⟨.inl ⟨rfl, fun W hW => by have m1 := cell_at (i := 1) (v := .slice la l.levels.length lc) hW rfl; simp [execOp, go_sem, m1]⟩, fun W => rfl⟩ S5 ?_
    simp only [Act.put, List.setIfInBounds_toArray, List.set_cons_zero, List.set_cons_succ]
    refine wpAnyHF_takeD (i := 5) 21 (v := .int .i64 l.levels.length) rfl rfl rfl (by kernel_rfl) (by kernel_rfl) (by kernel_rfl) (fun _ _ _ h => h) ⟨.inl ⟨rfl, fun W hW => by simp [execOp, go_sem]⟩, fun W => rfl⟩ S5 ?_
    simp only [Act.put, List.setIfInBounds_toArray, List.set_cons_zero, List.set_cons_succ]
    refine wpAnyHF_takeD (i := 6) 22 (v := .int .i64 m) rfl rfl rfl (by kernel_rfl) (by kernel_rfl) (by kernel_rfl) (fun _ _ _ h => h) ⟨.inl ⟨rfl, fun W hW => by simp [execOp, go_sem, hi, hwm]⟩, fun W => rfl⟩ S5 ?_
    simp only [Act.put, List.setIfInBounds_toArray, List.set_cons_zero, List.set_cons_succ]
    refine wpAnyHF_one (i := 7) (by kernel_rfl) rfl rfl ?_
    refine wpIn_callD 23 rfl (P := Try.prog) (f := 28) (args := #[.agg #[.slice ra l.reads.length rc, .slice la l.levels.length lc], .int .i64 m]) (by simp [execOp, resolve, invoke, go_sem]) ?_
    refine (levels_any w5 _ _ l m hG5 (by have := HM.out.2; omega) (by have := HH.out.2.2.2.2.2.2.1; omega)).mono ?_
    rintro e w6 ⟨lv, rfl, hOL, b6'⟩
    obtain ⟨va, vc, rfl⟩ := hOL.shape2
    have b6 : Below w.heap.size w w6 := b5.trans (b6'.mono b5.size)
    have S6 := (b6'.block _ (lt_of_some S5)).trans S5
    refine ⟨_, rfl, S6, ?_⟩
    simp only [Act.put, List.setIfInBounds_toArray, List.set_cons_zero, List.set_cons_succ]
    have h26 := (b6'.block _ (lt_of_some h25)).trans h25
    obtain ⟨N, hN⟩ : ∃ N, N = l.levels.take m := ⟨_, rfl⟩
    rw [← hN] at hOL ⊢
    have hGV : GVal w6 (okR w ok) (.agg #[.slice ra l.reads.length rc, .slice va N.length vc]) ⟨l.reads, N⟩ := ⟨_, _, _, _, rfl, (RSl.below pairGood HH.out.1.readsOf b6).weak pairGood (by decide) (fun b _ h => okR.old h), hOL.rsl levGood _ (fun b _ h => okR.new (by omega)) (fun b _ h => okR.old h.1)⟩
    refine wpAnyHF_takeD (i := 8) 24 (v := .agg #[.slice ra l.reads.length rc, .slice va N.length vc]) rfl rfl rfl (by kernel_rfl) (by kernel_rfl) (by kernel_rfl) (fun _ _ _ h => h) ⟨.inl ⟨rfl, fun W hW => by simp [execOp, go_sem]⟩, fun W => rfl⟩ S6 ?_
    simp only [Act.put, List.setIfInBounds_toArray, List.set_cons_zero, List.set_cons_succ]
    have F := put_out (w := w) (l := ⟨l.reads, N⟩) h26 (by simp) b6 hGV
    have q0 : w6.cell? ⟨w.heap.size + 1, 0, none⟩ = some (.slice none 0 0) := cell_of h26
    have q1 : w6.cell? ⟨w.heap.size + 1, 1, none⟩ = some (.slice none 0 0) := cell_of h26
    have f0 : ∀ i, w6.frozen? ⟨w.heap.size + 1, i, none⟩ = false := fun i => free_of h26
    have S9 := heap_far (a := ⟨w.heap.size + 1, 1, none⟩) (v := .slice va N.length vc) (heap_far (a := ⟨w.heap.size + 1, 0, none⟩) (v := .slice ra l.reads.length rc) S6 (by simp)) (by simp)
    obtain ⟨w9, hw9⟩ : ∃ z, (w6.setCell ⟨w.heap.size + 1, 0, none⟩ (.slice ra l.reads.length rc)).setCell ⟨w.heap.size + 1, 1, none⟩ (.slice va N.length vc) = z := ⟨_, rfl⟩
    refine wpAnyHF_one (i := 9) (by kernel_rfl) rfl rfl ?_
    refine wpIn_skip rfl (w' := w9) (by rw [← hw9]; simp [execOp, go_sem, q0, q1, f0]) ⟨by rw [← hw9]; exact S9, ?_⟩
    rw [hw9] at S9
    refine wpAnyHF_takeD (i := 10) 3 (v := .int .i64 0) rfl rfl rfl (by kernel_rfl) (by kernel_rfl) (by kernel_rfl) (fun _ _ _ h => h) ⟨.inl ⟨rfl, fun W hW => by simp [execOp, go_sem]⟩, fun W => rfl⟩ S9 ?_
    simp only [Act.put, List.setIfInBounds_toArray, List.set_cons_zero, List.set_cons_succ]
    refine wpAnyHF_done (by kernel_rfl) ?_ _
    rw [← hw9]
    have FF := hid F
    have HN := hid hN
    clear hN F hw9 S9 q0 q1 f0 hGV hOL
    gi_wp2
    go_wp2_with fail
    have t0 := cell_at (i := 0) (v := .slice ra l.reads.length rc) FF.out.1 rfl
    have t1 := cell_at (i := 1) (v := .slice va N.length vc) FF.out.1 rfl
    refine bodyPost_ret (v := .tuple #[.agg #[.slice ra l.reads.length rc, .slice va N.length vc], .int .i64 0]) (by simp [results, Try.results16, go_sem, t0, t1]) rfl ?_
    rw [dropG, if_pos HM.out.1, show l.levels.take (l.levels.length - 1) = N from by rw [HN.out, HM.out.2, Nat.add_sub_cancel]]
    exact ⟨_, _, _, _, rfl, FF.out.2.1, FF.out.2.2⟩
  · have HD := hid hd
    have hq2 : q = true → decide ((l.levels.length : Int) < 2) = true := fun e => by have h := HH.out.2.2.2.2.1; rw [decide_eq_true_iff]; simp [dropOk, ← h, e] at hd; omega
    clear hd
    cases q
    · clear hq2
      have q0 : w1.cell? ⟨w.heap.size + 1, 0, none⟩ = some (.slice none 0 0) := cell_of K.out.2.1
      have q1 : w1.cell? ⟨w.heap.size + 1, 1, none⟩ = some (.slice none 0 0) := cell_of K.out.2.1
      have hf : ∀ i, w1.frozen? ⟨w.heap.size + 1, i, none⟩ = false := fun i => free_of K.out.2.1
      go_wp2_with fail
      have F := back_out K.out.2.1 (by simp) K.out.2.2 HH.out.1
      have t0 := cell_at (i := 0) (v := .slice ra l.reads.length rc) F.1 rfl
      have t1 := cell_at (i := 1) (v := .slice la l.levels.length lc) F.1 rfl
      refine bodyPost_ret (v := .tuple #[.agg #[.slice ra l.reads.length rc, .slice la l.levels.length lc], .int .i64 170]) (by simp [results, Try.results16, go_sem, t0, t1]) rfl ?_
      rw [dropG, if_neg HD.out]
      exact ⟨_, _, _, _, rfl, F.2.1, F.2.2⟩
    · have f1 := hq2 rfl
      clear hq2
      have q0 : w1.cell? ⟨w.heap.size + 1, 0, none⟩ = some (.slice none 0 0) := cell_of K.out.2.1
      have q1 : w1.cell? ⟨w.heap.size + 1, 1, none⟩ = some (.slice none 0 0) := cell_of K.out.2.1
      have hf : ∀ i, w1.frozen? ⟨w.heap.size + 1, i, none⟩ = false := fun i => free_of K.out.2.1
      go_wp2_with fail
      have F := back_out K.out.2.1 (by simp) K.out.2.2 HH.out.1
      have t0 := cell_at (i := 0) (v := .slice ra l.reads.length rc) F.1 rfl
      have t1 := cell_at (i := 1) (v := .slice la l.levels.length lc) F.1 rfl
      refine bodyPost_ret (v := .tuple #[.agg #[.slice ra l.reads.length rc, .slice la l.levels.length lc], .int .i64 170]) (by simp [results, Try.results16, go_sem, t0, t1]) rfl ?_
      rw [dropG, if_neg HD.out]
      exact ⟨_, _, _, _, rfl, F.2.1, F.2.2⟩
end Go.Proofs.Ytaajooemocdfgaa
