/- The reference of tlog: Note. -/
import Derived.Test.YtaajooemocdfgaaTlT
namespace Go.Proofs.Ytaajooemocdfgaa
open Go.RowKit Go.Shelf Go.Maps
attribute [local go_sem] Oper.semAt_some
set_option maxRecDepth 100000 in
set_option maxHeartbeats 8000000 in
theorem rnote_any (w : World) (ok : Nat → Prop) (v : Value) (l : Lg) (z : Int) (ver : Int) (h : GVal w ok v l) (hz : In z) (hver : In ver) (hs : Okl l 100000) : Calls Try.prog 20 #[v, .int .i64 z, .int .i64 ver] w (LP ok (noteG l z ver) w) := by
  have hG := h
  obtain ⟨ra, rc, la, lc, rfl, hr, hl⟩ := h
  obtain ⟨_, _, e, l1, _⟩ := hr.shape
  cases e
  obtain ⟨_, _, e, l2, _⟩ := hl.shape
  cases e
  clear hr hl
  obtain ⟨W0, hW0⟩ : ∃ W0, (w.alloc (Obj.cells #[.slice ra l.reads.length rc, .slice la l.levels.length lc] 25)).alloc (Obj.cells #[.slice none 0 0, .slice none 0 0] 25) = W0 := ⟨_, rfl⟩
  have hb0 : Below w.heap.size w W0 := by rw [← hW0]; exact ((Below.refl _ _).alloc (Nat.le_refl _) _).alloc (by simp) _
  have h0 : W0.heap[w.heap.size]? = some (.cells #[.slice ra l.reads.length rc, .slice la l.levels.length lc] 25) := by rw [← hW0]; exact heap_one _ _ _
  have h1 : W0.heap[w.heap.size + 1]? = some (.cells #[.slice none 0 0, .slice none 0 0] 25) := by rw [← hW0]; exact heap_two _ _ _
  obtain ⟨q, hq⟩ : ∃ q, q = chkG l := ⟨_, rfl⟩
  have HC := hid (rcheckg_any W0 _ _ l (hG.more hb0))
  rw [← hq] at HC
  have HH := hid (And.intro hG (And.intro hb0 (And.intro h0 (And.intro h1 (And.intro hq hs)))))
  have HW := hid hW0
  clear hG hb0 h0 h1 hW0 hq hs
  go_enter Try.func20, Try.ntmps20
  go_upto_region 1 with (fail)
  rw [HW.out]
  clear HW
  have c0 : W0.cell? ⟨w.heap.size, 0, none⟩ = some (.slice ra l.reads.length rc) := cell_of HH.out.2.2.1
  have c1 : W0.cell? ⟨w.heap.size, 1, none⟩ = some (.slice la l.levels.length lc) := cell_of HH.out.2.2.1
  go_wp2_with fail
  refine HC.out.mono ?_
  rintro e w1 ⟨rfl, b1⟩
  clear c0 c1 HC
  have k0 := (b1.block _ (lt_of_some HH.out.2.2.1)).trans HH.out.2.2.1
  have k1 := (b1.block _ (lt_of_some HH.out.2.2.2.1)).trans HH.out.2.2.2.1
  have bw1 := HH.out.2.1.trans (b1.mono HH.out.2.1.size)
  have c0 : w1.cell? ⟨w.heap.size, 0, none⟩ = some (.slice ra l.reads.length rc) := cell_of k0
  have c1 : w1.cell? ⟨w.heap.size, 1, none⟩ = some (.slice la l.levels.length lc) := cell_of k0
  have K := hid (And.intro k0 (And.intro k1 bw1))
  clear k0 k1 bw1 b1
  by_cases hd : putOk l z = true
  · obtain rfl : q = true := by rw [HH.out.2.2.2.2.1]; simp [putOk] at hd; exact hd.1
    have f1 : decide (z < 0) = false := by rw [decide_eq_false_iff_not]; simp [putOk] at hd; omega
    have HM := hid hd
    clear hd
    go_upto_region 5 with (fail)
    clear c0 c1
    go_loopw [9] (fun i wr => ∃ k : Nat, k ≤ l.reads.length ∧ i = .int .i64 k ∧ Hid (∀ (j : Nat) (y : Pr), j < k → l.reads[j]? = some y → (y.1 == z) = false) ∧ Below w1.heap.size w1 wr) (fun i _ => l.reads.length - (intOf i).toNat)
    case atStart => exact ⟨0, Nat.zero_le _, rfl, fun j y hj => absurd hj (by omega), Below.refl _ _⟩
    case round =>
      obtain ⟨k, hk, rfl, HA, hb⟩ := hrel
      have k0 := (hb.block _ (lt_of_some K.out.1)).trans K.out.1
      have k1 := (hb.block _ (lt_of_some K.out.2.1)).trans K.out.2.1
      have bwr := K.out.2.2.trans (hb.mono K.out.2.2.size)
      have c0 : wr.cell? ⟨w.heap.size, 0, none⟩ = some (.slice ra l.reads.length rc) := cell_of k0
      have c1 : wr.cell? ⟨w.heap.size, 1, none⟩ = some (.slice la l.levels.length lc) := cell_of k0
      have KR := hid (And.intro k0 (And.intro k1 bwr))
      clear k0 k1 bwr
      by_cases hlt : k < l.reads.length
      · obtain ⟨b5, o5, c5, x, hv5, hx, _, _, e5, _⟩ := HH.out.1.readsOf.at KR.out.2.2 hlt
        cases hv5
        have HX := hid hx
        clear hx
        cases hq : x.1 == z
        · have HQ := hid hq
          go_wp2
          go_roundw
          case rel =>
            refine ⟨k + 1, by omega, by go_num, fun j y hj hy => ?_, hb⟩
            by_cases e : j = k
            · subst e; rw [HX.out] at hy; cases hy; exact HQ.out
            · exact HA.out j y (by omega) hy
          case measure => simp [intOf]; omega
        · have HN := hid (show l.reads.any (hasV (z, ver).1) = true from any_true_of HX.out hq)
          have q0 : wr.cell? ⟨w.heap.size + 1, 0, none⟩ = some (.slice none 0 0) := cell_of KR.out.2.1
          have q1 : wr.cell? ⟨w.heap.size + 1, 1, none⟩ = some (.slice none 0 0) := cell_of KR.out.2.1
          have hf : ∀ i, wr.frozen? ⟨w.heap.size + 1, i, none⟩ = false := fun i => free_of KR.out.2.1
          go_wp2_with fail
          have F := back_out KR.out.2.1 (by simp) KR.out.2.2 HH.out.1
          have t0 := cell_at (i := 0) (v := .slice (some ⟨b5, o5, none⟩) l.reads.length rc) F.1 rfl
          have t1 := cell_at (i := 1) (v := .slice la l.levels.length lc) F.1 rfl
          refine bodyPost_ret (v := .tuple #[.agg #[.slice (some ⟨b5, o5, none⟩) l.reads.length rc, .slice la l.levels.length lc], .int .i64 0]) (by simp [results, Try.results20, go_sem, t0, t1]) rfl ?_
          rw [noteG, if_pos HM.out, noteRs, if_pos HN.out]
          exact ⟨_, _, _, _, rfl, F.2.1, F.2.2⟩
      · obtain rfl : k = l.reads.length := by omega
        have HN := hid (show l.reads.any (hasV (z, ver).1) = false from any_false_of (fun i x hx => HA.out i x (List.getElem?_eq_some_iff.1 hx).1 hx))
        clear HA
        go_upto_region 9 with (fail)
        clear c0 c1
        have S5 : wr.drew.heap[w.heap.size]? = some (.cells #[.slice ra l.reads.length rc, .slice la l.levels.length lc] 25) := KR.out.1
        have hG5 : GVal wr.drew (fun b => ok b ∧ b < w.heap.size) (.agg #[.slice ra l.reads.length rc, .slice la l.levels.length lc]) l := (HH.out.1.weak (fun b hb h => ⟨h, hb⟩)).more (KR.out.2.2).drew
        have h25 : wr.drew.heap[w.heap.size + 1]? = some (.cells #[.slice none 0 0, .slice none 0 0] 25) := KR.out.2.1
        have b5 : Below w.heap.size w wr.drew := (KR.out.2.2).drew
        refine (wpIn_wide (n := 9)).1 ?_
        refine wpIn_region_held (fun W => W.heap[w.heap.size]? = some (.cells #[.slice ra l.reads.length rc, .slice la l.levels.length lc] 25)) (by kernel_rfl) ?_
        obtain ⟨w5, hw5⟩ : ∃ w5, wr.drew = w5 := ⟨_, rfl⟩
        rw [hw5] at S5 hG5 h25 b5 ⊢
        clear hw5
        have hz5 : w.heap.size + 1 < w5.heap.size := lt_of_some h25
        refine wpAnyHF_takeD (i := 1) 36 (v := .pointer (some ⟨w.heap.size, 0, none⟩)) rfl rfl rfl (by kernel_rfl) (by kernel_rfl) (by kernel_rfl) (fun _ _ _ h => h) ⟨.inl ⟨rfl, fun W hW => by simp [execOp, go_sem]⟩, fun W => rfl⟩ S5 ?_
        refine wpAnyHF_takeD (i := 4) 39 (v := .int .i64 z) rfl rfl rfl (by kernel_rfl) (by kernel_rfl) (by kernel_rfl) (fun _ _ _ h => h) ⟨.inl ⟨rfl, fun W hW => by simp [execOp, go_sem]⟩, fun W => rfl⟩ S5 ?_
        refine wpAnyHF_takeD (i := 5) 40 (v := .int .i64 ver) rfl rfl rfl (by kernel_rfl) (by kernel_rfl) (by kernel_rfl) (fun _ _ _ h => h) ⟨.inl ⟨rfl, fun W hW => by simp [execOp, go_sem]⟩, fun W => rfl⟩ S5 ?_
        refine wpAnyHF_takeD (i := 9) 44 (v := .pointer (some ⟨w.heap.size, 1, none⟩)) rfl rfl rfl (by kernel_rfl) (by kernel_rfl) (by kernel_rfl) (fun _ _ _ h => h) ⟨.inl ⟨rfl, fun W hW => by simp [execOp, go_sem]⟩, fun W => rfl⟩ S5 ?_
        simp only [Act.put, List.setIfInBounds_toArray, List.set_cons_zero, List.set_cons_succ]
        refine wpAnyHF_takeD (i := 2) 37 (v := .slice ra l.reads.length rc) rfl rfl rfl (by kernel_rfl) (by kernel_rfl) (by kernel_rfl) (fun _ _ _ h => h) ⟨.inl ⟨rfl, fun W hW => by have m0 := cell_at (i := 0) (v := .slice ra l.reads.length rc) hW rfl; simp [execOp, go_sem, m0]⟩, fun W => rfl⟩ S5 ?_
        refine wpAnyHF_takeD (i := 10) 45 (v := .slice la l.levels.length lc) rfl rfl rfl (by kernel_rfl) (by kernel_rfl) (by kernel_rfl) (fun _ _ _ h => h) ⟨.inl ⟨rfl, fun W hW => by have m1 := cell_at (i := 1) (v := .slice la l.levels.length lc) hW rfl; simp [execOp, go_sem, m1]⟩, fun W => rfl⟩ S5 ?_
        refine wpAnyHF_takeD (i := 6) 41 (v := .agg #[.int .i64 z, .int .i64 ver]) rfl rfl rfl (by kernel_rfl) (by kernel_rfl) (by kernel_rfl) (fun _ _ _ h => h) ⟨.inl ⟨rfl, fun W hW => by simp [execOp, go_sem]⟩, fun W => rfl⟩ S5 ?_
        simp only [Act.put, List.setIfInBounds_toArray, List.set_cons_zero, List.set_cons_succ]
        have hsrc5 := (RSl.below pairGood HH.out.1.readsOf b5)
        have hRl : l.reads.length ≤ 100000 := HH.out.2.2.2.2.2.1
        refine wpAnyHF_two (i := 0) (j := 7) (by kernel_rfl) rfl rfl rfl rfl ?_ ?_
        · obtain ⟨w6, hw6⟩ : ∃ z, w5.alloc (.cells #[] 39) = z := ⟨_, rfl⟩
          have b6' : Below w5.heap.size w5 w6 := by rw [← hw6]; exact (Below.refl _ _).alloc (Nat.le_refl _) _
          have hE : w6.heap[w5.heap.size]? = some (.cells #[] 39) := by rw [← hw6]; exact World.alloc_heap_new _ _
          have b6 : Below w.heap.size w w6 := b5.trans (b6'.mono b5.size)
          have S6 := (b6'.block _ (lt_of_some S5)).trans S5
          have h26 := (b6'.block _ (lt_of_some h25)).trans h25
          refine wpIn_valueD 35 rfl (w' := w6) (v := .slice (some ⟨w5.heap.size, 0, none⟩) 0 0) (by rw [← hw6]; simp [execOp, go_sem]) ⟨S6, ?_⟩
          simp only [Act.put, List.setIfInBounds_toArray, List.set_cons_zero, List.set_cons_succ]
          have hs6 := b6'.size
          have hlt56 := lt_of_some hE
          refine wpAnyHF_two (i := 3) (j := 7) (by kernel_rfl) rfl rfl rfl rfl ?_ ?_
          · obtain ⟨v1, w7, hrun1, hO1, b7', hkeep⟩ := append_fresh (w := w5) (ok := fun b => ok b ∧ b < w.heap.size) pairGood (by decide) (P := Try.prog) Try.underlying22 infoR rfl (by decide) (RSl.below pairGood hsrc5 b6') (fun x row h => pr_one x row h) (by omega) (E := w5.heap.size) (by omega) hE b6' (fun b hb => by have := hb.2; omega)
            obtain ⟨va, vc, rfl⟩ := hO1.shape2
            have b7 : Below w.heap.size w w7 := b5.trans (b7'.mono b5.size)
            have S7 := hkeep _ _ S6 (by omega)
            have h27 := hkeep _ _ h26 (by omega)
            refine wpIn_valueD 38 rfl (w' := w7) (v := .slice va l.reads.length vc) (run_append_op (.tmp 35) (.tmp 37) 22 rfl rfl (v := .slice (some ⟨w5.heap.size, 0, none⟩) 0 0) (xv := .slice ra l.reads.length rc) (by simp [go_sem]) (by simp [go_sem]) hrun1) ⟨S7, ?_⟩
            simp only [Act.put, List.setIfInBounds_toArray, List.set_cons_zero, List.set_cons_succ]
            have hs7 := b7'.size
            refine wpAnyHF_one (i := 7) (by kernel_rfl) rfl rfl ?_
            obtain ⟨w7x, hw7x⟩ : ∃ q, w7.alloc (.cells #[.int .i64 z, .int .i64 ver] 39) = q := ⟨_, rfl⟩
            have b7x' : Below w7.heap.size w7 w7x := by rw [← hw7x]; exact (Below.refl _ _).alloc (Nat.le_refl _) _
            have hX : w7x.heap[w7.heap.size]? = some (.cells #[.int .i64 z, .int .i64 ver] 39) := by rw [← hw7x]; exact World.alloc_heap_new _ _
            have b7x : Below w.heap.size w w7x := b7.trans (b7x'.mono b7.size)
            have S7x := (b7x'.block _ (lt_of_some S7)).trans S7
            have h27x := (b7x'.block _ (lt_of_some h27)).trans h27
            refine wpIn_valueD 42 rfl (w' := w7x) (v := .slice (some ⟨w7.heap.size, 0, none⟩) 1 1) (by rw [← hw7x]; simp [execOp, go_sem]) ⟨S7x, ?_⟩
            simp only [Act.put, List.setIfInBounds_toArray, List.set_cons_zero, List.set_cons_succ]
            have hs8 := b7x'.size
            replace hO1 := hO1.below pairGood b7x'
            obtain ⟨v2, w8, hrun2, hO2, hg, _, _⟩ := OSl.append (P := Try.prog) pairGood (by decide) hO1 22 22 (.agg #[.int .i64 0, .int .i64 0]) 16 Try.underlying22 infoR rfl ⟨w7.heap.size, 0, none⟩ 1 [(z, ver)] [[.int .i64 z, .int .i64 ver]] (Rows.one ⟨rfl, hz, hver⟩) (fun j u hj => by rw [addr_add, Nat.zero_add, cell_of hX]; simpa using hj) (by simp [Value.oneCell']) (by simp [maxLen]; omega) (by simp; omega) (by omega)
            obtain ⟨N, hN⟩ : ∃ N, N = l.reads ++ [(z, ver)] := ⟨_, rfl⟩
            rw [← hN] at hO2
            obtain ⟨a8, c8, rfl⟩ := hO2.shape2
            have n8 : ∀ b, b < w5.heap.size → some b ≠ (Value.slice va l.reads.length vc).ownBlock := fun b hb e => by have := (hO1.lt b e.symm).1; omega
            have S8 := (hg.block _ (lt_of_some S7x) (n8 _ (by omega))).trans S7x
            have h28 := (hg.block _ (lt_of_some h27x) (n8 _ (by omega))).trans h27x
            have b8 := b7x.grown hg b7x.size (fun k hk => by have := (hO1.lt k hk).1; omega)
            have hGV : GVal w8 (okR w ok) (.agg #[.slice a8 N.length c8, .slice la l.levels.length lc]) ⟨N, l.levels⟩ := ⟨_, _, _, _, rfl, hO2.rsl pairGood _ (fun b _ h => okR.new (by omega)) (fun b _ h => okR.old h), (RSl.below levGood HH.out.1.levelsOf b8).weak levGood (by decide) (fun b _ h => okR.old h)⟩
            refine wpAnyHF_one (i := 8) (by kernel_rfl) rfl rfl ?_
            refine wpIn_valueD 43 rfl (w' := w8) (v := .slice a8 N.length c8) (run_append_op (.tmp 38) (.tmp 42) 22 rfl rfl (v := .slice va l.reads.length vc) (xv := .slice (some ⟨w7.heap.size, 0, none⟩) 1 1) (by simp [go_sem]) (by simp [go_sem]) hrun2) ⟨S8, ?_⟩
            simp only [Act.put, List.setIfInBounds_toArray, List.set_cons_zero, List.set_cons_succ]
            refine wpAnyHF_takeD (i := 11) 46 (v := .agg #[.slice a8 N.length c8, .slice la l.levels.length lc]) rfl rfl rfl (by kernel_rfl) (by kernel_rfl) (by kernel_rfl) (fun _ _ _ h => h) ⟨.inl ⟨rfl, fun W hW => by simp [execOp, go_sem]⟩, fun W => rfl⟩ S8 ?_
            simp only [Act.put, List.setIfInBounds_toArray, List.set_cons_zero, List.set_cons_succ]
            have F := put_out (w := w) (l := ⟨N, l.levels⟩) h28 (by simp) b8 hGV
            have q0 : w8.cell? ⟨w.heap.size + 1, 0, none⟩ = some (.slice none 0 0) := cell_of h28
            have q1 : w8.cell? ⟨w.heap.size + 1, 1, none⟩ = some (.slice none 0 0) := cell_of h28
            have f0 : ∀ i, w8.frozen? ⟨w.heap.size + 1, i, none⟩ = false := fun i => free_of h28
            obtain ⟨w9, hw9⟩ : ∃ z, (w8.setCell ⟨w.heap.size + 1, 0, none⟩ (.slice a8 N.length c8)).setCell ⟨w.heap.size + 1, 1, none⟩ (.slice la l.levels.length lc) = z := ⟨_, rfl⟩
            have S9 : (w9.heap[w.heap.size]? = some (.cells #[.slice ra l.reads.length rc, .slice la l.levels.length lc] 25)) := by rw [← hw9]; exact heap_far (a := ⟨w.heap.size + 1, 1, none⟩) (v := .slice la l.levels.length lc) (heap_far (a := ⟨w.heap.size + 1, 0, none⟩) (v := .slice a8 N.length c8) S8 (by simp)) (by simp)
            refine wpAnyHF_one (i := 12) (by kernel_rfl) rfl rfl ?_
            refine wpIn_skip rfl (w' := w9) (by rw [← hw9]; simp [execOp, go_sem, q0, q1, f0]) ⟨S9, ?_⟩
            refine wpAnyHF_takeD (i := 13) 7 (v := .int .i64 0) rfl rfl rfl (by kernel_rfl) (by kernel_rfl) (by kernel_rfl) (fun _ _ _ h => h) ⟨.inl ⟨rfl, fun W hW => by simp [execOp, go_sem]⟩, fun W => rfl⟩ S9 ?_
            simp only [Act.put, List.setIfInBounds_toArray, List.set_cons_zero, List.set_cons_succ]
            refine wpAnyHF_done (by kernel_rfl) ?_ _
            have HN2 := hid hN
            clear hN
            rw [← hw9]
            have FF := hid F
            clear F hw9 S9 q0 q1 f0 hGV hrun1 hrun2 hO1 hO2
            gi_wp2
            go_wp2_with fail
            have t0 := cell_at (i := 0) (v := .slice a8 N.length c8) FF.out.1 rfl
            have t1 := cell_at (i := 1) (v := .slice la l.levels.length lc) FF.out.1 rfl
            refine bodyPost_ret (v := .tuple #[.agg #[.slice a8 N.length c8, .slice la l.levels.length lc], .int .i64 0]) (by simp [results, Try.results20, go_sem, t0, t1]) rfl ?_
            rw [noteG, if_pos HM.out, noteRs, if_neg (by rw [HN.out]; simp), ← HN2.out]
            exact ⟨_, _, _, _, rfl, FF.out.2.1, FF.out.2.2⟩
          · obtain ⟨w6x, hw6x⟩ : ∃ q, w6.alloc (.cells #[.int .i64 z, .int .i64 ver] 39) = q := ⟨_, rfl⟩
            have b6x' : Below w6.heap.size w6 w6x := by rw [← hw6x]; exact (Below.refl _ _).alloc (Nat.le_refl _) _
            have hX : w6x.heap[w6.heap.size]? = some (.cells #[.int .i64 z, .int .i64 ver] 39) := by rw [← hw6x]; exact World.alloc_heap_new _ _
            have b6x : Below w.heap.size w w6x := b6.trans (b6x'.mono b6.size)
            have S6x := (b6x'.block _ (lt_of_some S6)).trans S6
            have h26x := (b6x'.block _ (lt_of_some h26)).trans h26
            refine wpIn_valueD 42 rfl (w' := w6x) (v := .slice (some ⟨w6.heap.size, 0, none⟩) 1 1) (by rw [← hw6x]; simp [execOp, go_sem]) ⟨S6x, ?_⟩
            simp only [Act.put, List.setIfInBounds_toArray, List.set_cons_zero, List.set_cons_succ]
            have hs8 := b6x'.size
            have b56 := b6'.trans (b6x'.mono b6'.size)
            replace hE := (b6x'.block _ (lt_of_some hE)).trans hE
            obtain ⟨v1, w7, hrun1, hO1, b7', hkeep⟩ := append_fresh (w := w5) (ok := fun b => ok b ∧ b < w.heap.size) pairGood (by decide) (P := Try.prog) Try.underlying22 infoR rfl (by decide) (RSl.below pairGood hsrc5 b56) (fun x row h => pr_one x row h) (by omega) (E := w5.heap.size) (by omega) hE b56 (fun b hb => by have := hb.2; omega)
            obtain ⟨va, vc, rfl⟩ := hO1.shape2
            have b7 : Below w.heap.size w w7 := b5.trans (b7'.mono b5.size)
            have S7 := hkeep _ _ S6x (by omega)
            have h27 := hkeep _ _ h26x (by omega)
            refine wpAnyHF_one (i := 3) (by kernel_rfl) rfl rfl ?_
            refine wpIn_valueD 38 rfl (w' := w7) (v := .slice va l.reads.length vc) (run_append_op (.tmp 35) (.tmp 37) 22 rfl rfl (v := .slice (some ⟨w5.heap.size, 0, none⟩) 0 0) (xv := .slice ra l.reads.length rc) (by simp [go_sem]) (by simp [go_sem]) hrun1) ⟨S7, ?_⟩
            simp only [Act.put, List.setIfInBounds_toArray, List.set_cons_zero, List.set_cons_succ]
            have hs7 := b7'.size
            replace hX := hkeep _ _ hX (by omega)
            obtain ⟨v2, w8, hrun2, hO2, hg, _, _⟩ := OSl.append (P := Try.prog) pairGood (by decide) hO1 22 22 (.agg #[.int .i64 0, .int .i64 0]) 16 Try.underlying22 infoR rfl ⟨w6.heap.size, 0, none⟩ 1 [(z, ver)] [[.int .i64 z, .int .i64 ver]] (Rows.one ⟨rfl, hz, hver⟩) (fun j u hj => by rw [addr_add, Nat.zero_add, cell_of hX]; simpa using hj) (by simp [Value.oneCell']) (by simp [maxLen]; omega) (by simp; omega) (by omega)
            obtain ⟨N, hN⟩ : ∃ N, N = l.reads ++ [(z, ver)] := ⟨_, rfl⟩
            rw [← hN] at hO2
            obtain ⟨a8, c8, rfl⟩ := hO2.shape2
            have n8 : ∀ b, b < w5.heap.size → some b ≠ (Value.slice va l.reads.length vc).ownBlock := fun b hb e => by have := (hO1.lt b e.symm).1; omega
            have S8 := (hg.block _ (lt_of_some S7) (n8 _ (by omega))).trans S7
            have h28 := (hg.block _ (lt_of_some h27) (n8 _ (by omega))).trans h27
            have b8 := b7.grown hg b7.size (fun k hk => by have := (hO1.lt k hk).1; omega)
            have hGV : GVal w8 (okR w ok) (.agg #[.slice a8 N.length c8, .slice la l.levels.length lc]) ⟨N, l.levels⟩ := ⟨_, _, _, _, rfl, hO2.rsl pairGood _ (fun b _ h => okR.new (by omega)) (fun b _ h => okR.old h), (RSl.below levGood HH.out.1.levelsOf b8).weak levGood (by decide) (fun b _ h => okR.old h)⟩
            refine wpAnyHF_one (i := 8) (by kernel_rfl) rfl rfl ?_
            refine wpIn_valueD 43 rfl (w' := w8) (v := .slice a8 N.length c8) (run_append_op (.tmp 38) (.tmp 42) 22 rfl rfl (v := .slice va l.reads.length vc) (xv := .slice (some ⟨w6.heap.size, 0, none⟩) 1 1) (by simp [go_sem]) (by simp [go_sem]) hrun2) ⟨S8, ?_⟩
            simp only [Act.put, List.setIfInBounds_toArray, List.set_cons_zero, List.set_cons_succ]
            refine wpAnyHF_takeD (i := 11) 46 (v := .agg #[.slice a8 N.length c8, .slice la l.levels.length lc]) rfl rfl rfl (by kernel_rfl) (by kernel_rfl) (by kernel_rfl) (fun _ _ _ h => h) ⟨.inl ⟨rfl, fun W hW => by simp [execOp, go_sem]⟩, fun W => rfl⟩ S8 ?_
            simp only [Act.put, List.setIfInBounds_toArray, List.set_cons_zero, List.set_cons_succ]
            have F := put_out (w := w) (l := ⟨N, l.levels⟩) h28 (by simp) b8 hGV
            have q0 : w8.cell? ⟨w.heap.size + 1, 0, none⟩ = some (.slice none 0 0) := cell_of h28
            have q1 : w8.cell? ⟨w.heap.size + 1, 1, none⟩ = some (.slice none 0 0) := cell_of h28
            have f0 : ∀ i, w8.frozen? ⟨w.heap.size + 1, i, none⟩ = false := fun i => free_of h28
            obtain ⟨w9, hw9⟩ : ∃ z, (w8.setCell ⟨w.heap.size + 1, 0, none⟩ (.slice a8 N.length c8)).setCell ⟨w.heap.size + 1, 1, none⟩ (.slice la l.levels.length lc) = z := ⟨_, rfl⟩
            have S9 : (w9.heap[w.heap.size]? = some (.cells #[.slice ra l.reads.length rc, .slice la l.levels.length lc] 25)) := by rw [← hw9]; exact heap_far (a := ⟨w.heap.size + 1, 1, none⟩) (v := .slice la l.levels.length lc) (heap_far (a := ⟨w.heap.size + 1, 0, none⟩) (v := .slice a8 N.length c8) S8 (by simp)) (by simp)
            refine wpAnyHF_one (i := 12) (by kernel_rfl) rfl rfl ?_
            refine wpIn_skip rfl (w' := w9) (by rw [← hw9]; simp [execOp, go_sem, q0, q1, f0]) ⟨S9, ?_⟩
            refine wpAnyHF_takeD (i := 13) 7 (v := .int .i64 0) rfl rfl rfl (by kernel_rfl) (by kernel_rfl) (by kernel_rfl) (fun _ _ _ h => h) ⟨.inl ⟨rfl, fun W hW => by simp [execOp, go_sem]⟩, fun W => rfl⟩ S9 ?_
            simp only [Act.put, List.setIfInBounds_toArray, List.set_cons_zero, List.set_cons_succ]
            refine wpAnyHF_done (by kernel_rfl) ?_ _
            have HN2 := hid hN
            clear hN
            rw [← hw9]
            have FF := hid F
            clear F hw9 S9 q0 q1 f0 hGV hrun1 hrun2 hO1 hO2
            gi_wp2
            go_wp2_with fail
            have t0 := cell_at (i := 0) (v := .slice a8 N.length c8) FF.out.1 rfl
            have t1 := cell_at (i := 1) (v := .slice la l.levels.length lc) FF.out.1 rfl
            refine bodyPost_ret (v := .tuple #[.agg #[.slice a8 N.length c8, .slice la l.levels.length lc], .int .i64 0]) (by simp [results, Try.results20, go_sem, t0, t1]) rfl ?_
            rw [noteG, if_pos HM.out, noteRs, if_neg (by rw [HN.out]; simp), ← HN2.out]
            exact ⟨_, _, _, _, rfl, FF.out.2.1, FF.out.2.2⟩
        · obtain ⟨w6, hw6⟩ : ∃ q, w5.alloc (.cells #[.int .i64 z, .int .i64 ver] 39) = q := ⟨_, rfl⟩
          have b6' : Below w5.heap.size w5 w6 := by rw [← hw6]; exact (Below.refl _ _).alloc (Nat.le_refl _) _
          have hX : w6.heap[w5.heap.size]? = some (.cells #[.int .i64 z, .int .i64 ver] 39) := by rw [← hw6]; exact World.alloc_heap_new _ _
          have b6 : Below w.heap.size w w6 := b5.trans (b6'.mono b5.size)
          have S6 := (b6'.block _ (lt_of_some S5)).trans S5
          have h26 := (b6'.block _ (lt_of_some h25)).trans h25
          refine wpIn_valueD 42 rfl (w' := w6) (v := .slice (some ⟨w5.heap.size, 0, none⟩) 1 1) (by rw [← hw6]; simp [execOp, go_sem]) ⟨S6, ?_⟩
          simp only [Act.put, List.setIfInBounds_toArray, List.set_cons_zero, List.set_cons_succ]
          have hs6 := b6'.size
          have hlt56 := lt_of_some hX
          refine wpAnyHF_one (i := 0) (by kernel_rfl) rfl rfl ?_
          obtain ⟨w6x, hw6x⟩ : ∃ z, w6.alloc (.cells #[] 39) = z := ⟨_, rfl⟩
          have b6x' : Below w6.heap.size w6 w6x := by rw [← hw6x]; exact (Below.refl _ _).alloc (Nat.le_refl _) _
          have hE : w6x.heap[w6.heap.size]? = some (.cells #[] 39) := by rw [← hw6x]; exact World.alloc_heap_new _ _
          have b6x : Below w.heap.size w w6x := b6.trans (b6x'.mono b6.size)
          have S6x := (b6x'.block _ (lt_of_some S6)).trans S6
          have h26x := (b6x'.block _ (lt_of_some h26)).trans h26
          refine wpIn_valueD 35 rfl (w' := w6x) (v := .slice (some ⟨w6.heap.size, 0, none⟩) 0 0) (by rw [← hw6x]; simp [execOp, go_sem]) ⟨S6x, ?_⟩
          simp only [Act.put, List.setIfInBounds_toArray, List.set_cons_zero, List.set_cons_succ]
          have hs8 := b6x'.size
          have b56 := b6'.trans (b6x'.mono b6'.size)
          replace hX := (b6x'.block _ (lt_of_some hX)).trans hX
          obtain ⟨v1, w7, hrun1, hO1, b7', hkeep⟩ := append_fresh (w := w5) (ok := fun b => ok b ∧ b < w.heap.size) pairGood (by decide) (P := Try.prog) Try.underlying22 infoR rfl (by decide) (RSl.below pairGood hsrc5 b56) (fun x row h => pr_one x row h) (by omega) (E := w6.heap.size) (by omega) hE b56 (fun b hb => by have := hb.2; omega)
          obtain ⟨va, vc, rfl⟩ := hO1.shape2
          have b7 : Below w.heap.size w w7 := b5.trans (b7'.mono b5.size)
          have S7 := hkeep _ _ S6x (by omega)
          have h27 := hkeep _ _ h26x (by omega)
          refine wpAnyHF_one (i := 3) (by kernel_rfl) rfl rfl ?_
          refine wpIn_valueD 38 rfl (w' := w7) (v := .slice va l.reads.length vc) (run_append_op (.tmp 35) (.tmp 37) 22 rfl rfl (v := .slice (some ⟨w6.heap.size, 0, none⟩) 0 0) (xv := .slice ra l.reads.length rc) (by simp [go_sem]) (by simp [go_sem]) hrun1) ⟨S7, ?_⟩
          simp only [Act.put, List.setIfInBounds_toArray, List.set_cons_zero, List.set_cons_succ]
          have hs7 := b7'.size
          replace hX := hkeep _ _ hX (by omega)
          obtain ⟨v2, w8, hrun2, hO2, hg, _, _⟩ := OSl.append (P := Try.prog) pairGood (by decide) hO1 22 22 (.agg #[.int .i64 0, .int .i64 0]) 16 Try.underlying22 infoR rfl ⟨w5.heap.size, 0, none⟩ 1 [(z, ver)] [[.int .i64 z, .int .i64 ver]] (Rows.one ⟨rfl, hz, hver⟩) (fun j u hj => by rw [addr_add, Nat.zero_add, cell_of hX]; simpa using hj) (by simp [Value.oneCell']) (by simp [maxLen]; omega) (by simp; omega) (by omega)
          obtain ⟨N, hN⟩ : ∃ N, N = l.reads ++ [(z, ver)] := ⟨_, rfl⟩
          rw [← hN] at hO2
          obtain ⟨a8, c8, rfl⟩ := hO2.shape2
          have n8 : ∀ b, b < w5.heap.size → some b ≠ (Value.slice va l.reads.length vc).ownBlock := fun b hb e => by have := (hO1.lt b e.symm).1; omega
          have S8 := (hg.block _ (lt_of_some S7) (n8 _ (by omega))).trans S7
          have h28 := (hg.block _ (lt_of_some h27) (n8 _ (by omega))).trans h27
          have b8 := b7.grown hg b7.size (fun k hk => by have := (hO1.lt k hk).1; omega)
          have hGV : GVal w8 (okR w ok) (.agg #[.slice a8 N.length c8, .slice la l.levels.length lc]) ⟨N, l.levels⟩ := ⟨_, _, _, _, rfl, hO2.rsl pairGood _ (fun b _ h => okR.new (by omega)) (fun b _ h => okR.old h), (RSl.below levGood HH.out.1.levelsOf b8).weak levGood (by decide) (fun b _ h => okR.old h)⟩
          refine wpAnyHF_one (i := 8) (by kernel_rfl) rfl rfl ?_
          refine wpIn_valueD 43 rfl (w' := w8) (v := .slice a8 N.length c8) (run_append_op (.tmp 38) (.tmp 42) 22 rfl rfl (v := .slice va l.reads.length vc) (xv := .slice (some ⟨w5.heap.size, 0, none⟩) 1 1) (by simp [go_sem]) (by simp [go_sem]) hrun2) ⟨S8, ?_⟩
          simp only [Act.put, List.setIfInBounds_toArray, List.set_cons_zero, List.set_cons_succ]
          refine wpAnyHF_takeD (i := 11) 46 (v := .agg #[.slice a8 N.length c8, .slice la l.levels.length lc]) rfl rfl rfl (by kernel_rfl) (by kernel_rfl) (by kernel_rfl) (fun _ _ _ h => h) ⟨.inl ⟨rfl, fun W hW => by simp [execOp, go_sem]⟩, fun W => rfl⟩ S8 ?_
          simp only [Act.put, List.setIfInBounds_toArray, List.set_cons_zero, List.set_cons_succ]
          have F := put_out (w := w) (l := ⟨N, l.levels⟩) h28 (by simp) b8 hGV
          have q0 : w8.cell? ⟨w.heap.size + 1, 0, none⟩ = some (.slice none 0 0) := cell_of h28
          have q1 : w8.cell? ⟨w.heap.size + 1, 1, none⟩ = some (.slice none 0 0) := cell_of h28
          have f0 : ∀ i, w8.frozen? ⟨w.heap.size + 1, i, none⟩ = false := fun i => free_of h28
          obtain ⟨w9, hw9⟩ : ∃ z, (w8.setCell ⟨w.heap.size + 1, 0, none⟩ (.slice a8 N.length c8)).setCell ⟨w.heap.size + 1, 1, none⟩ (.slice la l.levels.length lc) = z := ⟨_, rfl⟩
          have S9 : (w9.heap[w.heap.size]? = some (.cells #[.slice ra l.reads.length rc, .slice la l.levels.length lc] 25)) := by rw [← hw9]; exact heap_far (a := ⟨w.heap.size + 1, 1, none⟩) (v := .slice la l.levels.length lc) (heap_far (a := ⟨w.heap.size + 1, 0, none⟩) (v := .slice a8 N.length c8) S8 (by simp)) (by simp)
          refine wpAnyHF_one (i := 12) (by kernel_rfl) rfl rfl ?_
          refine wpIn_skip rfl (w' := w9) (by rw [← hw9]; simp [execOp, go_sem, q0, q1, f0]) ⟨S9, ?_⟩
          refine wpAnyHF_takeD (i := 13) 7 (v := .int .i64 0) rfl rfl rfl (by kernel_rfl) (by kernel_rfl) (by kernel_rfl) (fun _ _ _ h => h) ⟨.inl ⟨rfl, fun W hW => by simp [execOp, go_sem]⟩, fun W => rfl⟩ S9 ?_
          simp only [Act.put, List.setIfInBounds_toArray, List.set_cons_zero, List.set_cons_succ]
          refine wpAnyHF_done (by kernel_rfl) ?_ _
          have HN2 := hid hN
          clear hN
          rw [← hw9]
          have FF := hid F
          clear F hw9 S9 q0 q1 f0 hGV hrun1 hrun2 hO1 hO2
          gi_wp2
          go_wp2_with fail
          have t0 := cell_at (i := 0) (v := .slice a8 N.length c8) FF.out.1 rfl
          have t1 := cell_at (i := 1) (v := .slice la l.levels.length lc) FF.out.1 rfl
          refine bodyPost_ret (v := .tuple #[.agg #[.slice a8 N.length c8, .slice la l.levels.length lc], .int .i64 0]) (by simp [results, Try.results20, go_sem, t0, t1]) rfl ?_
          rw [noteG, if_pos HM.out, noteRs, if_neg (by rw [HN.out]; simp), ← HN2.out]
          exact ⟨_, _, _, _, rfl, FF.out.2.1, FF.out.2.2⟩
  · have HD := hid hd
    have hq2 : q = true → decide (z < 0) = true := fun e => by have h := HH.out.2.2.2.2.1; rw [decide_eq_true_iff]; simp [putOk, ← h, e] at hd; omega
    clear hd
    cases q
    · clear hq2
      have q0 : w1.cell? ⟨w.heap.size + 1, 0, none⟩ = some (.slice none 0 0) := cell_of K.out.2.1
      have q1 : w1.cell? ⟨w.heap.size + 1, 1, none⟩ = some (.slice none 0 0) := cell_of K.out.2.1
      have hf : ∀ i, w1.frozen? ⟨w.heap.size + 1, i, none⟩ = false := fun i => free_of K.out.2.1
      go_wp2_with fail
      have F := back_out K.out.2.1 (by simp) K.out.2.2 HH.out.1
      have t0 := cell_at (i := 0) (v := .slice ra l.reads.length rc) F.1 rfl
      have t1 := cell_at (i := 1) (v := .slice la l.levels.length lc) F.1 rfl
      refine bodyPost_ret (v := .tuple #[.agg #[.slice ra l.reads.length rc, .slice la l.levels.length lc], .int .i64 170]) (by simp [results, Try.results20, go_sem, t0, t1]) rfl ?_
      rw [noteG, if_neg HD.out]
      exact ⟨_, _, _, _, rfl, F.2.1, F.2.2⟩
    · have f1 := hq2 rfl
      clear hq2
      have q0 : w1.cell? ⟨w.heap.size + 1, 0, none⟩ = some (.slice none 0 0) := cell_of K.out.2.1
      have q1 : w1.cell? ⟨w.heap.size + 1, 1, none⟩ = some (.slice none 0 0) := cell_of K.out.2.1
      have hf : ∀ i, w1.frozen? ⟨w.heap.size + 1, i, none⟩ = false := fun i => free_of K.out.2.1
      go_wp2_with fail
      have F := back_out K.out.2.1 (by simp) K.out.2.2 HH.out.1
      have t0 := cell_at (i := 0) (v := .slice ra l.reads.length rc) F.1 rfl
      have t1 := cell_at (i := 1) (v := .slice la l.levels.length lc) F.1 rfl
      refine bodyPost_ret (v := .tuple #[.agg #[.slice ra l.reads.length rc, .slice la l.levels.length lc], .int .i64 170]) (by simp [results, Try.results20, go_sem, t0, t1]) rfl ?_
      rw [noteG, if_neg HD.out]
      exact ⟨_, _, _, _, rfl, F.2.1, F.2.2⟩
end Go.Proofs.Ytaajooemocdfgaa
