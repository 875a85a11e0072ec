/- The reference of tlog: Put. -/
import Derived.Test.YtaajooemocdfgaaTlS
namespace Go.Proofs.Ytaajooemocdfgaa
open Go.RowKit Go.Shelf Go.Maps
attribute [local go_sem] Oper.semAt_some
set_option maxRecDepth 100000 in
set_option maxHeartbeats 8000000 in
theorem rputg_any (w : World) (ok : Nat → Prop) (v : Value) (l : Lg) (z : Int) (at_ : Int) (h : GVal w ok v l) (hz : In z) (hat_ : In at_) (hs : Okl l 100000) : Calls Try.prog 18 #[v, .int .i64 z, .int .i64 at_] w (LP ok (putG l z at_) w) := by
  have hG := h
  obtain ⟨ra, rc, la, lc, rfl, hr, hl⟩ := h
  obtain ⟨_, _, e, l1, _⟩ := hr.shape
  cases e
  obtain ⟨_, _, e, l2, _⟩ := hl.shape
  cases e
  clear hr hl
  obtain ⟨W0, hW0⟩ : ∃ W0, (w.alloc (Obj.cells #[.slice ra l.reads.length rc, .slice la l.levels.length lc] 25)).alloc (Obj.cells #[.slice none 0 0, .slice none 0 0] 25) = W0 := ⟨_, rfl⟩
  have hb0 : Below w.heap.size w W0 := by rw [← hW0]; exact ((Below.refl _ _).alloc (Nat.le_refl _) _).alloc (by simp) _
  have h0 : W0.heap[w.heap.size]? = some (.cells #[.slice ra l.reads.length rc, .slice la l.levels.length lc] 25) := by rw [← hW0]; exact heap_one _ _ _
  have h1 : W0.heap[w.heap.size + 1]? = some (.cells #[.slice none 0 0, .slice none 0 0] 25) := by rw [← hW0]; exact heap_two _ _ _
  obtain ⟨q, hq⟩ : ∃ q, q = chkG l := ⟨_, rfl⟩
  have HC := hid (rcheckg_any W0 _ _ l (hG.more hb0))
  rw [← hq] at HC
  have HH := hid (And.intro hG (And.intro hb0 (And.intro h0 (And.intro h1 (And.intro hq hs)))))
  have HW := hid hW0
  clear hG hb0 h0 h1 hW0 hq hs
  go_enter Try.func18, Try.ntmps18
  go_upto_region 1 with (fail)
  rw [HW.out]
  clear HW
  have c0 : W0.cell? ⟨w.heap.size, 0, none⟩ = some (.slice ra l.reads.length rc) := cell_of HH.out.2.2.1
  have c1 : W0.cell? ⟨w.heap.size, 1, none⟩ = some (.slice la l.levels.length lc) := cell_of HH.out.2.2.1
  go_wp2_with fail
  refine HC.out.mono ?_
  rintro e w1 ⟨rfl, b1⟩
  clear c0 c1 HC
  have k0 := (b1.block _ (lt_of_some HH.out.2.2.1)).trans HH.out.2.2.1
  have k1 := (b1.block _ (lt_of_some HH.out.2.2.2.1)).trans HH.out.2.2.2.1
  have bw1 := HH.out.2.1.trans (b1.mono HH.out.2.1.size)
  have c0 : w1.cell? ⟨w.heap.size, 0, none⟩ = some (.slice ra l.reads.length rc) := cell_of k0
  have c1 : w1.cell? ⟨w.heap.size, 1, none⟩ = some (.slice la l.levels.length lc) := cell_of k0
  have K := hid (And.intro k0 (And.intro k1 bw1))
  clear k0 k1 bw1 b1
  by_cases hd : putOk l z = true
  · obtain ⟨m, hm⟩ : ∃ m, l.levels.length = m + 1 := ⟨l.levels.length - 1, by simp [putOk, chkG] at hd; omega⟩
    obtain rfl : q = true := by rw [HH.out.2.2.2.2.1]; simp [putOk] at hd; exact hd.1
    have f1 : decide (z < 0) = false := by rw [decide_eq_false_iff_not]; simp [putOk] at hd; omega
    have hi : ((l.levels.length : Int) - 1) = (m : Int) := by omega
    have hwm := wrap_in (n := m) (by constructor <;> omega)
    have hml : m < l.levels.length := by omega
    obtain ⟨x, hx⟩ : ∃ x, l.levels[m]? = some x := ⟨_, List.getElem?_eq_getElem hml⟩
    have hxl : x.length ≤ 100000 := HH.out.2.2.2.2.2.2.2 x (List.mem_of_getElem? hx)
    obtain ⟨b1, o1, cc1, xa, xc, hv1, hxs, ex⟩ := HH.out.1.levelsOf.pick (Below.refl _ _) hx
    cases hv1
    obtain ⟨_, _, e, l3, _⟩ := hxs.shape
    cases e
    have HM := hid (And.intro hd (And.intro hm (And.intro hx (And.intro hxl (And.intro hxs ex)))))
    clear hd hm hx hxl hxs ex
    go_upto_region 5 with (fail)
    clear c0 c1
    have S5 : w1.drew.heap[w.heap.size]? = some (.cells #[.slice ra l.reads.length rc, .slice (some ⟨b1, o1, none⟩) l.levels.length lc] 25) := K.out.1
    have hG5 : GVal w1.drew (fun b => ok b ∧ b < w.heap.size) (.agg #[.slice ra l.reads.length rc, .slice (some ⟨b1, o1, none⟩) l.levels.length lc]) l := (HH.out.1.weak (fun b hb h => ⟨h, hb⟩)).more (K.out.2.2).drew
    have h25 : w1.drew.heap[w.heap.size + 1]? = some (.cells #[.slice none 0 0, .slice none 0 0] 25) := K.out.2.1
    have b5 : Below w.heap.size w w1.drew := (K.out.2.2).drew
    refine (wpIn_wide (n := 9)).1 ?_
    refine wpIn_region_held (fun W => W.heap[w.heap.size]? = some (.cells #[.slice ra l.reads.length rc, .slice (some ⟨b1, o1, none⟩) l.levels.length lc] 25) ∧ W.cell? ⟨b1, o1 + m, none⟩ = some (.slice xa x.length xc)) (by kernel_rfl) ?_
    obtain ⟨w5, hw5⟩ : ∃ w5, w1.drew = w5 := ⟨_, rfl⟩
    have e5 : w1.drew.cell? ⟨b1, o1 + m, none⟩ = some (.slice xa x.length xc) := later_cell (K.out.2.2).drew HM.out.2.2.2.2.2
    rw [hw5] at S5 hG5 h25 b5 e5 ⊢
    replace S5 := And.intro S5 e5
    clear hw5
    have hz5 : w.heap.size + 1 < w5.heap.size := lt_of_some h25
    refine wpAnyHF_takeD (i := 0) 23 (v := .pointer (some ⟨w.heap.size, 0, none⟩)) rfl rfl rfl (by kernel_rfl) (by kernel_rfl) (by kernel_rfl) (fun _ _ _ h => h) ⟨.inl ⟨rfl, fun W hW => by simp [execOp, go_sem]⟩, fun W => rfl⟩ S5 ?_
    refine wpAnyHF_takeD (i := 1) 24 (v := .slice ra l.reads.length rc) rfl rfl rfl (by kernel_rfl) (by kernel_rfl) (by kernel_rfl) (fun _ _ _ h => h) ⟨.inl ⟨rfl, fun W hW => by have m0 := cell_at (i := 0) (v := .slice ra l.reads.length rc) hW.1 rfl; simp [execOp, go_sem, m0]⟩, fun W => rfl⟩ S5 ?_
    refine wpAnyHF_takeD (i := 2) 25 (v := .agg #[.slice ra l.reads.length rc, .slice (some ⟨b1, o1, none⟩) l.levels.length lc]) rfl rfl rfl (by kernel_rfl) (by kernel_rfl) (by kernel_rfl) (fun _ _ _ h => h) ⟨.inl ⟨rfl, fun W hW => by have m0 := cell_at (i := 0) (v := .slice ra l.reads.length rc) hW.1 rfl; have m1 := cell_at (i := 1) (v := .slice (some ⟨b1, o1, none⟩) l.levels.length lc) hW.1 rfl; simp [execOp, go_sem, m0, m1]⟩, fun W => rfl⟩ S5 ?_
    refine wpAnyHF_takeD (i := 3) 26 (v := .int .i64 m) rfl rfl rfl (by kernel_rfl) (by kernel_rfl) (by kernel_rfl) (fun _ _ _ h => h) ⟨.inl ⟨rfl, fun W hW => by simp [execOp, go_sem]⟩, fun W => rfl⟩ S5 ?_
    refine wpAnyHF_takeD (i := 5) 28 (v := .pointer (some ⟨w.heap.size, 1, none⟩)) rfl rfl rfl (by kernel_rfl) (by kernel_rfl) (by kernel_rfl) (fun _ _ _ h => h) ⟨.inl ⟨rfl, fun W hW => by simp [execOp, go_sem]⟩, fun W => rfl⟩ S5 ?_
    refine wpAnyHF_takeD (i := 7) 30 (v := .int .i64 m) rfl rfl rfl (by kernel_rfl) (by kernel_rfl) (by kernel_rfl) (fun _ _ _ h => h) ⟨.inl ⟨rfl, fun W hW => by simp [execOp, go_sem]⟩, fun W => rfl⟩ S5 ?_
    refine wpAnyHF_takeD (i := 10) 33 (v := .int .i64 z) rfl rfl rfl (by kernel_rfl) (by kernel_rfl) (by kernel_rfl) (fun _ _ _ h => h) ⟨.inl ⟨rfl, fun W hW => by simp [execOp, go_sem]⟩, fun W => rfl⟩ S5 ?_
    refine wpAnyHF_takeD (i := 11) 34 (v := .int .i64 at_) rfl rfl rfl (by kernel_rfl) (by kernel_rfl) (by kernel_rfl) (fun _ _ _ h => h) ⟨.inl ⟨rfl, fun W hW => by simp [execOp, go_sem]⟩, fun W => rfl⟩ S5 ?_
    simp only [Act.put, List.setIfInBounds_toArray, List.set_cons_zero, List.set_cons_succ]
    refine wpAnyHF_takeD (i := 6) 29 (v := .slice (some ⟨b1, o1, none⟩) l.levels.length lc) rfl rfl rfl (by kernel_rfl) (by kernel_rfl) (by kernel_rfl) (fun _ _ _ h => h) ⟨.inl ⟨rfl, fun W hW => by have m1 := cell_at (i := 1) (v := .slice (some ⟨b1, o1, none⟩) l.levels.length lc) hW.1 rfl; simp [execOp, go_sem, m1]⟩, fun W => rfl⟩ S5 ?_
    refine wpAnyHF_takeD (i := 12) 35 (v := .agg #[.int .i64 z, .int .i64 at_]) rfl rfl rfl (by kernel_rfl) (by kernel_rfl) (by kernel_rfl) (fun _ _ _ h => h) ⟨.inl ⟨rfl, fun W hW => by simp [execOp, go_sem]⟩, fun W => rfl⟩ S5 ?_
    simp only [Act.put, List.setIfInBounds_toArray, List.set_cons_zero, List.set_cons_succ]
    refine wpAnyHF_takeD (i := 8) 31 (v := .pointer (some ⟨b1, o1 + m, none⟩)) rfl rfl rfl (by kernel_rfl) (by kernel_rfl) (by kernel_rfl) (fun _ _ _ h => h) ⟨.inl ⟨rfl, fun W hW => by simp [execOp, go_sem, hml]⟩, fun W => rfl⟩ S5 ?_
    simp only [Act.put, List.setIfInBounds_toArray, List.set_cons_zero, List.set_cons_succ]
    refine wpAnyHF_takeD (i := 9) 32 (v := .slice xa x.length xc) rfl rfl rfl (by kernel_rfl) (by kernel_rfl) (by kernel_rfl) (fun _ _ _ h => h) ⟨.inl ⟨rfl, fun W hW => by have m2 := hW.2; simp [execOp, go_sem, m2]⟩, fun W => rfl⟩ S5 ?_
    simp only [Act.put, List.setIfInBounds_toArray, List.set_cons_zero, List.set_cons_succ]
    refine wpAnyHF_one (i := 4) (by kernel_rfl) rfl rfl ?_
    refine wpIn_callD 27 rfl (P := Try.prog) (f := 28) (args := #[.agg #[.slice ra l.reads.length rc, .slice (some ⟨b1, o1, none⟩) l.levels.length lc], .int .i64 m]) (by simp [execOp, resolve, invoke, go_sem]) ?_
    refine (levels_any w5 _ _ l m hG5 (by omega) (by have := HH.out.2.2.2.2.2.2.1; omega)).mono ?_
    rintro e w6 ⟨lv, rfl, hOL, b6'⟩
    obtain ⟨va, vc, rfl⟩ := hOL.shape2
    have b6 : Below w.heap.size w w6 := b5.trans (b6'.mono b5.size)
    have S6 := And.intro ((b6'.block _ (lt_of_some S5.1)).trans S5.1) (later_cell b6' S5.2)
    have h26 := (b6'.block _ (lt_of_some h25)).trans h25
    refine ⟨_, rfl, S6, ?_⟩
    simp only [Act.put, List.setIfInBounds_toArray, List.set_cons_zero, List.set_cons_succ]
    refine wpAnyHF_one (i := 13) (by kernel_rfl) rfl rfl ?_
    refine wpIn_callD 36 rfl (P := Try.prog) (f := 32) (args := #[.slice xa x.length xc, .agg #[.int .i64 z, .int .i64 at_]]) (by simp [execOp, resolve, invoke, go_sem]) ?_
    refine (rput_any w6 _ _ x (z, at_) (HM.out.2.2.2.2.1.more b6) hz hat_ (by have := HM.out.2.2.2.1; omega)).mono ?_
    rintro e w7 ⟨pv, rfl, hO6, b7'⟩
    obtain ⟨pa, pc, rfl⟩ := hO6.shape2
    have b7 : Below w.heap.size w w7 := b6.trans (b7'.mono b6.size)
    have S7 := And.intro ((b7'.block _ (lt_of_some S6.1)).trans S6.1) (later_cell b7' S6.2)
    have h27 := (b7'.block _ (lt_of_some h26)).trans h26
    refine ⟨_, rfl, S7, ?_⟩
    simp only [Act.put, List.setIfInBounds_toArray, List.set_cons_zero, List.set_cons_succ]
    refine wpAnyHF_one (i := 14) (by kernel_rfl) rfl rfl ?_
    obtain ⟨y, hy⟩ : ∃ y, y = putL x (z, at_) := ⟨_, rfl⟩
    rw [← hy] at hO6 ⊢
    have HY := hid hy
    clear hy
    obtain ⟨w8, hw8⟩ : ∃ w8, w7.alloc (.cells #[.slice pa y.length pc] 37) = w8 := ⟨_, rfl⟩
    have b8' : Below w7.heap.size w7 w8 := by rw [← hw8]; exact (Below.refl _ _).alloc (Nat.le_refl _) _
    have hn8 : w8.heap[w7.heap.size]? = some (.cells #[.slice pa y.length pc] 37) := by rw [← hw8]; exact World.alloc_heap_new _ _
    have b8 : Below w.heap.size w w8 := b7.trans (b8'.mono b7.size)
    have S8 := And.intro ((b8'.block _ (lt_of_some S7.1)).trans S7.1) (later_cell b8' S7.2)
    have h28 := (b8'.block _ (lt_of_some h27)).trans h27
    refine wpIn_valueD 37 rfl (w' := w8) (v := .slice (some ⟨w7.heap.size, 0, none⟩) 1 1) (by rw [← hw8]; simp [execOp, go_sem]) ⟨S8, ?_⟩
    simp only [Act.put, List.setIfInBounds_toArray, List.set_cons_zero, List.set_cons_succ]
    have hsz6 := b6'.size
    have hsz7 := b7'.size
    have hsz8 := b8'.size
    have hO8 : OSl LevE 1 37 w5.heap.size w8 (okR w ok) (.slice va (l.levels.take m).length vc) (l.levels.take m) := ((hOL.below levGood b7').below levGood b8').weak levGood (fun b _ h => okR.old h.1)
    have hOv : ∀ b, (Value.slice va (l.levels.take m).length vc).ownBlock = some b → w5.heap.size ≤ b ∧ b < w6.heap.size := fun b hb => by obtain ⟨h1, c, hc⟩ := hOL.lt b hb; exact ⟨h1, lt_of_some hc⟩
    have hlow : PSl w8 (fun b => okR w ok b ∧ some b ≠ (Value.slice va (l.levels.take m).length vc).ownBlock) (.slice pa y.length pc) y := PSl.more (hO6.rsl pairGood _ (fun b _ hb => ⟨okR.new (by omega), fun e => by have := (hOv b e.symm).2; omega⟩) (fun _ _ hb => hb.elim)) b8'
    obtain ⟨v9, w10, hrun, hO9, hg⟩ := lev_push hO8 hn8 hlow (by simp; have := HH.out.2.2.2.2.2.2.1; omega) (by omega)
    obtain ⟨N, hN⟩ : ∃ N, N = l.levels.take m ++ [y] := ⟨_, rfl⟩
    rw [← hN] at hO9
    obtain ⟨a8, c8, rfl⟩ := hO9.shape2
    have n8 : ∀ b, b < w5.heap.size → some b ≠ (Value.slice va (l.levels.take m).length vc).ownBlock := fun b hb e => by have := (hOv b e.symm).1; omega
    have hb1w : b1 < w.heap.size := World.block_lt_of_cell? w ⟨b1, _, none⟩ HM.out.2.2.2.2.2
    have S10 : w10.heap[w.heap.size]? = _ := (hg.block _ (lt_of_some S8.1) (n8 _ (by omega))).trans S8.1
    have h210 := (hg.block _ (lt_of_some h28) (n8 _ (by omega))).trans h28
    have b10 := b8.grown hg b8.size (fun k hk => by have := (hOv k hk).1; omega)
    have S10' := And.intro S10 (later_cell b10 HM.out.2.2.2.2.2)
    have hGV : GVal w10 (okR w ok) (.agg #[.slice ra l.reads.length rc, .slice a8 N.length c8]) ⟨l.reads, N⟩ := ⟨_, _, _, _, rfl, (RSl.below pairGood HH.out.1.readsOf b10).weak pairGood (by decide) (fun b _ h => okR.old h), hO9.rsl levGood _ (fun b _ h => okR.new (by omega)) (fun b _ h => h)⟩
    refine wpAnyHF_one (i := 15) (by kernel_rfl) rfl rfl ?_
    refine wpIn_valueD 38 rfl (w' := w10) (v := .slice a8 N.length c8) (run_append_op (.tmp 27) (.tmp 37) 23 rfl rfl (v := .slice va (l.levels.take m).length vc) (xv := .slice (some ⟨w7.heap.size, 0, none⟩) 1 1) (by simp [go_sem]) (by simp [go_sem]) hrun) ⟨S10', ?_⟩
    simp only [Act.put, List.setIfInBounds_toArray, List.set_cons_zero, List.set_cons_succ]
    refine wpAnyHF_takeD (i := 16) 39 (v := .agg #[.slice ra l.reads.length rc, .slice a8 N.length c8]) rfl rfl rfl (by kernel_rfl) (by kernel_rfl) (by kernel_rfl) (fun _ _ _ h => h) ⟨.inl ⟨rfl, fun W hW => by simp [execOp, go_sem]⟩, fun W => rfl⟩ S10' ?_
    simp only [Act.put, List.setIfInBounds_toArray, List.set_cons_zero, List.set_cons_succ]
    have F := put_out (w := w) (l := ⟨l.reads, N⟩) h210 (by simp) b10 hGV
    have q0 : w10.cell? ⟨w.heap.size + 1, 0, none⟩ = some (.slice none 0 0) := cell_of h210
    have q1 : w10.cell? ⟨w.heap.size + 1, 1, none⟩ = some (.slice none 0 0) := cell_of h210
    have f0 : ∀ i, w10.frozen? ⟨w.heap.size + 1, i, none⟩ = false := fun i => free_of h210
    obtain ⟨w9, hw9⟩ : ∃ z, (w10.setCell ⟨w.heap.size + 1, 0, none⟩ (.slice ra l.reads.length rc)).setCell ⟨w.heap.size + 1, 1, none⟩ (.slice a8 N.length c8) = z := ⟨_, rfl⟩
    have S9 : (w9.heap[w.heap.size]? = some (.cells #[.slice ra l.reads.length rc, .slice (some ⟨b1, o1, none⟩) l.levels.length lc] 25) ∧ w9.cell? ⟨b1, o1 + m, none⟩ = some (.slice xa x.length xc)) := by rw [← hw9]; exact ⟨heap_far (a := ⟨w.heap.size + 1, 1, none⟩) (v := .slice a8 N.length c8) (heap_far (a := ⟨w.heap.size + 1, 0, none⟩) (v := .slice ra l.reads.length rc) S10'.1 (by simp)) (by simp), later_cell F.2.2 HM.out.2.2.2.2.2⟩
    refine wpAnyHF_one (i := 17) (by kernel_rfl) rfl rfl ?_
    refine wpIn_skip rfl (w' := w9) (by rw [← hw9]; simp [execOp, go_sem, q0, q1, f0]) ⟨S9, ?_⟩
    refine wpAnyHF_takeD (i := 18) 7 (v := .int .i64 0) rfl rfl rfl (by kernel_rfl) (by kernel_rfl) (by kernel_rfl) (fun _ _ _ h => h) ⟨.inl ⟨rfl, fun W hW => by simp [execOp, go_sem]⟩, fun W => rfl⟩ S9 ?_
    simp only [Act.put, List.setIfInBounds_toArray, List.set_cons_zero, List.set_cons_succ]
    refine wpAnyHF_done (by kernel_rfl) ?_ _
    have HN := hid hN
    clear hN
    rw [← hw9]
    have FF := hid F
    clear F hw9 S9 q0 q1 f0 hGV hrun hO9 hO8 hO6 hOL hlow
    gi_wp2
    go_wp2_with fail
    have t0 := cell_at (i := 0) (v := .slice ra l.reads.length rc) FF.out.1 rfl
    have t1 := cell_at (i := 1) (v := .slice a8 N.length c8) FF.out.1 rfl
    refine bodyPost_ret (v := .tuple #[.agg #[.slice ra l.reads.length rc, .slice a8 N.length c8], .int .i64 0]) (by simp [results, Try.results18, go_sem, t0, t1]) rfl ?_
    rw [putG, if_pos HM.out.1, putLs, show l.levels.length - 1 = m by have := HM.out.2.1; omega, show l.levels.getD m [] = x by rw [List.getD_eq_getElem?_getD, HM.out.2.2.1]; rfl, ← HY.out, set_last HM.out.2.1, ← HN.out]
    exact ⟨_, _, _, _, rfl, FF.out.2.1, FF.out.2.2⟩
  · have HD := hid hd
    have hq2 : q = true → decide (z < 0) = true := fun e => by have h := HH.out.2.2.2.2.1; rw [decide_eq_true_iff]; simp [putOk, ← h, e] at hd; omega
    clear hd
    cases q
    · clear hq2
      have q0 : w1.cell? ⟨w.heap.size + 1, 0, none⟩ = some (.slice none 0 0) := cell_of K.out.2.1
      have q1 : w1.cell? ⟨w.heap.size + 1, 1, none⟩ = some (.slice none 0 0) := cell_of K.out.2.1
      have hf : ∀ i, w1.frozen? ⟨w.heap.size + 1, i, none⟩ = false := fun i => free_of K.out.2.1
      go_wp2_with fail
      have F := back_out K.out.2.1 (by simp) K.out.2.2 HH.out.1
      have t0 := cell_at (i := 0) (v := .slice ra l.reads.length rc) F.1 rfl
      have t1 := cell_at (i := 1) (v := .slice la l.levels.length lc) F.1 rfl
      refine bodyPost_ret (v := .tuple #[.agg #[.slice ra l.reads.length rc, .slice la l.levels.length lc], .int .i64 170]) (by simp [results, Try.results18, go_sem, t0, t1]) rfl ?_
      rw [putG, if_neg HD.out]
      exact ⟨_, _, _, _, rfl, F.2.1, F.2.2⟩
    · have f1 := hq2 rfl
      clear hq2
      have q0 : w1.cell? ⟨w.heap.size + 1, 0, none⟩ = some (.slice none 0 0) := cell_of K.out.2.1
      have q1 : w1.cell? ⟨w.heap.size + 1, 1, none⟩ = some (.slice none 0 0) := cell_of K.out.2.1
      have hf : ∀ i, w1.frozen? ⟨w.heap.size + 1, i, none⟩ = false := fun i => free_of K.out.2.1
      go_wp2_with fail
      have F := back_out K.out.2.1 (by simp) K.out.2.2 HH.out.1
      have t0 := cell_at (i := 0) (v := .slice ra l.reads.length rc) F.1 rfl
      have t1 := cell_at (i := 1) (v := .slice la l.levels.length lc) F.1 rfl
      refine bodyPost_ret (v := .tuple #[.agg #[.slice ra l.reads.length rc, .slice la l.levels.length lc], .int .i64 170]) (by simp [results, Try.results18, go_sem, t0, t1]) rfl ?_
      rw [putG, if_neg HD.out]
      exact ⟨_, _, _, _, rfl, F.2.1, F.2.2⟩
end Go.Proofs.Ytaajooemocdfgaa
