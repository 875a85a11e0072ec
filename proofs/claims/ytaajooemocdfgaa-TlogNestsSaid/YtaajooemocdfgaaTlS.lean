/- The reference of tlog: Merge, Put. -/
import Derived.Test.YtaajooemocdfgaaTlR
namespace Go.Proofs.Ytaajooemocdfgaa
open Go.RowKit Go.Shelf Go.Maps
attribute [local go_sem] Oper.semAt_some
theorem take_set {α : Type} {L : List α} {n : Nat} {x : α} (h : n < L.length) : (L.take (n + 1)).set n x = L.take n ++ [x] := by
  rw [List.take_succ_eq_append_getElem h, List.set_append_right _ _ (by simp; omega)]
  simp [Nat.min_eq_left (Nat.le_of_lt h)]
theorem set_last {α : Type} {L : List α} {n : Nat} {x : α} (h : L.length = n + 1) : L.set n x = L.take n ++ [x] := by
  have := take_set (L := L) (x := x) (n := n) (by omega)
  rwa [← h, List.take_length] at this
set_option maxRecDepth 100000 in
set_option maxHeartbeats 8000000 in
theorem rmerge_any (w : World) (ok : Nat → Prop) (v : Value) (l : Lg) (h : GVal w ok v l) (hs : Okl l 100000) : Calls Try.prog 14 #[v] w (LP ok (mergeG l) w) := by
  have hG := h
  obtain ⟨ra, rc, la, lc, rfl, hr, hl⟩ := h
  obtain ⟨_, _, e, l1, _⟩ := hr.shape
  cases e
  obtain ⟨_, _, e, l2, _⟩ := hl.shape
  cases e
  clear hr hl
  obtain ⟨W0, hW0⟩ : ∃ W0, (w.alloc (Obj.cells #[.slice ra l.reads.length rc, .slice la l.levels.length lc] 25)).alloc (Obj.cells #[.slice none 0 0, .slice none 0 0] 25) = W0 := ⟨_, rfl⟩
  have hb0 : Below w.heap.size w W0 := by rw [← hW0]; exact ((Below.refl _ _).alloc (Nat.le_refl _) _).alloc (by simp) _
  have h0 : W0.heap[w.heap.size]? = some (.cells #[.slice ra l.reads.length rc, .slice la l.levels.length lc] 25) := by rw [← hW0]; exact heap_one _ _ _
  have h1 : W0.heap[w.heap.size + 1]? = some (.cells #[.slice none 0 0, .slice none 0 0] 25) := by rw [← hW0]; exact heap_two _ _ _
  obtain ⟨q, hq⟩ : ∃ q, q = chkG l := ⟨_, rfl⟩
  have HC := hid (rcheckg_any W0 _ _ l (hG.more hb0))
  rw [← hq] at HC
  have HH := hid (And.intro hG (And.intro hb0 (And.intro h0 (And.intro h1 (And.intro hq hs)))))
  have HW := hid hW0
  clear hG hb0 h0 h1 hW0 hq hs
  go_enter Try.func14, Try.ntmps14
  go_upto_region 1 with (fail)
  rw [HW.out]
  clear HW
  have c0 : W0.cell? ⟨w.heap.size, 0, none⟩ = some (.slice ra l.reads.length rc) := cell_of HH.out.2.2.1
  have c1 : W0.cell? ⟨w.heap.size, 1, none⟩ = some (.slice la l.levels.length lc) := cell_of HH.out.2.2.1
  go_wp2_with fail
  refine HC.out.mono ?_
  rintro e w1 ⟨rfl, b1⟩
  clear c0 c1 HC
  have k0 := (b1.block _ (lt_of_some HH.out.2.2.1)).trans HH.out.2.2.1
  have k1 := (b1.block _ (lt_of_some HH.out.2.2.2.1)).trans HH.out.2.2.2.1
  have bw1 := HH.out.2.1.trans (b1.mono HH.out.2.1.size)
  have c0 : w1.cell? ⟨w.heap.size, 0, none⟩ = some (.slice ra l.reads.length rc) := cell_of k0
  have c1 : w1.cell? ⟨w.heap.size, 1, none⟩ = some (.slice la l.levels.length lc) := cell_of k0
  have K := hid (And.intro k0 (And.intro k1 bw1))
  clear k0 k1 bw1 b1
  by_cases hd : dropOk l = true
  · obtain ⟨n, hn⟩ : ∃ n, l.levels.length = n + 1 + 1 := ⟨l.levels.length - 2, by simp [dropOk] at hd; omega⟩
    obtain rfl : q = true := by rw [HH.out.2.2.2.2.1]; simp [dropOk] at hd; exact hd.1
    have f1 : decide ((l.levels.length : Int) < 2) = false := by rw [decide_eq_false_iff_not]; omega
    have hi : ((l.levels.length : Int) - 1) = ((n + 1 : Nat) : Int) := by omega
    have hi2 : ((l.levels.length : Int) - 2) = (n : Int) := by omega
    have hwm := wrap_in (n := n) (by constructor <;> omega)
    have hnl : n < l.levels.length := by omega
    have hnl1 : n + 1 < l.levels.length := by omega
    obtain ⟨y, hy⟩ : ∃ y, l.levels[n]? = some y := ⟨_, List.getElem?_eq_getElem hnl⟩
    obtain ⟨x, hx⟩ : ∃ x, l.levels[n + 1]? = some x := ⟨_, List.getElem?_eq_getElem hnl1⟩
    have hxl : x.length ≤ 100000 := HH.out.2.2.2.2.2.2.2 x (List.mem_of_getElem? hx)
    have hyl : y.length ≤ 100000 := HH.out.2.2.2.2.2.2.2 y (List.mem_of_getElem? hy)
    have hLl := HH.out.1.levelsOf
    obtain ⟨b1, o1, cc1, ya, yc, hv1, hys, ey⟩ := hLl.pick (Below.refl _ _) hy
    cases hv1
    obtain ⟨_, _, _, xa, xc, hv2, hxs, ex⟩ := hLl.pick (Below.refl _ _) hx
    cases hv2
    obtain ⟨_, _, e, l3, _⟩ := hys.shape
    cases e
    obtain ⟨_, _, e, l4, _⟩ := hxs.shape
    cases e
    have HM := hid (And.intro hd (And.intro hn (And.intro hy (And.intro hx (And.intro hxl (And.intro hyl (And.intro hys (And.intro hxs (And.intro ey ex)))))))))
    clear hd hn hy hx hxl hyl hys hxs hLl ey ex
    have ey : w1.cell? ⟨b1, o1 + n, none⟩ = some (.slice ya y.length yc) := later_cell K.out.2.2 HM.out.2.2.2.2.2.2.2.2.1
    have hnb : (n : Int) ≤ 9223372036854775807 := by omega
    go_upto_region 7 with (fail)
    clear c0 c1 ey
    go_loopw [7, 6] (fun i u6 wr => ∃ (k : Nat) (aa : Option Addr) (ac : Nat), k ≤ x.length ∧ i = .int .i64 k ∧ u6 = .slice aa ((x.take k).foldl putL y).length ac ∧ Hid (Below w1.heap.size w1 wr ∧ PSl wr (okR w ok) (.slice aa ((x.take k).foldl putL y).length ac) ((x.take k).foldl putL y))) (fun i _ _ => x.length - (intOf i).toNat)
    case atStart => exact ⟨0, ya, yc, Nat.zero_le _, rfl, by simp, hid (And.intro (Below.refl _ _) (by simpa using PSl.more (RSl.weak pairGood (by decide) HM.out.2.2.2.2.2.2.1 (ok' := okR w ok) (fun b _ h => okR.old h)) K.out.2.2))⟩
    case round =>
      obtain ⟨k, aa, ac, hk, rfl, rfl, HR⟩ := hrel
      have k0 := (HR.out.1.block _ (lt_of_some K.out.1)).trans K.out.1
      have k1 := (HR.out.1.block _ (lt_of_some K.out.2.1)).trans K.out.2.1
      have bwr := K.out.2.2.trans (HR.out.1.mono K.out.2.2.size)
      have c0 : wr.cell? ⟨w.heap.size, 0, none⟩ = some (.slice ra l.reads.length rc) := cell_of k0
      have c1 : wr.cell? ⟨w.heap.size, 1, none⟩ = some (.slice (some ⟨b1, o1, none⟩) l.levels.length lc) := cell_of k0
      have ex : wr.cell? ⟨b1, o1 + (n + 1), none⟩ = some (.slice xa x.length xc) := later_cell bwr HM.out.2.2.2.2.2.2.2.2.2
      have KR := hid (And.intro k0 (And.intro k1 bwr))
      clear k0 k1 bwr
      by_cases hlt : k < x.length
      · have hln := foldl_put_length (x.take k) y
        have hlnb : ((x.take k).foldl putL y).length ≤ 300000 := by have := HM.out.2.2.2.2.1; have := HM.out.2.2.2.2.2.1; rw [List.length_take] at hln; omega
        have hstep : ∀ z, x[k]? = some z → (x.take (k + 1)).foldl putL y = putL ((x.take k).foldl putL y) z := fun z hz => by rw [take_more hz, List.foldl_append]; rfl
        obtain ⟨lw, hlw⟩ : ∃ lw, lw = (x.take k).foldl putL y := ⟨_, rfl⟩
        rw [← hlw] at HR hlnb hstep ⊢
        obtain ⟨b5, o5, c5, z, hv5, hz, hz1, hz2, e5, e6⟩ := HM.out.2.2.2.2.2.2.2.1.at KR.out.2.2 hlt
        cases hv5
        have HP := hid (And.intro (rput_any wr _ (.slice aa lw.length ac) lw z HR.out.2 hz1 hz2 (by omega)) (hstep z hz))
        clear hz hz1 hz2 hstep hln hlnb hlw
        go_upto_region 9 with (fail)
        go_wp2_with fail
        refine HP.out.1.mono ?_
        rintro e w5 ⟨pv, rfl, hO5, b5'⟩
        obtain ⟨pa, pc, rfl⟩ := hO5.shape2
        have hsz := HR.out.1.size
        have hlt1 := lt_of_some K.out.2.1
        have HN := hid (And.intro (HR.out.1.trans (b5'.mono HR.out.1.size)) (hO5.rsl pairGood (okR w ok) (fun b _ hb => okR.new (by omega)) (fun _ _ hb => hb.elim)))
        rw [← HP.out.2] at HN
        have hlen : (putL lw z).length = ((x.take (k + 1)).foldl putL y).length := by rw [HP.out.2]
        rw [hlen]
        clear hO5 b5' hlen e5 e6 c0 c1 ex
        go_wp2_with fail
        go_roundw
        case rel => exact ⟨k + 1, pa, pc, by omega, by go_num, rfl, HN⟩
        case measure => simp [intOf]; omega
      · obtain rfl : k = x.length := by omega
        rw [List.take_length] at HR ⊢
        obtain ⟨lw, hlw⟩ : ∃ lw, lw = x.foldl putL y := ⟨_, rfl⟩
        rw [← hlw] at HR ⊢
        have HLW := hid hlw
        clear hlw
        go_upto_region 10 with (fail)
        clear c0 c1 ex
        have S5 : wr.drew.heap[w.heap.size]? = some (.cells #[.slice ra l.reads.length rc, .slice (some ⟨b1, o1, none⟩) l.levels.length lc] 25) := KR.out.1
        have hG5 : GVal wr.drew (fun b => ok b ∧ b < w.heap.size) (.agg #[.slice ra l.reads.length rc, .slice (some ⟨b1, o1, none⟩) l.levels.length lc]) l := (HH.out.1.weak (fun b hb h => ⟨h, hb⟩)).more (KR.out.2.2).drew
        have h25 : wr.drew.heap[w.heap.size + 1]? = some (.cells #[.slice none 0 0, .slice none 0 0] 25) := KR.out.2.1
        have hl5 := HR.out.2.more (Below.refl wr.heap.size wr).drew
        have b5 : Below w.heap.size w wr.drew := (KR.out.2.2).drew
        refine (wpIn_wide (n := 9)).1 ?_
        refine wpIn_region_held (fun W => W.heap[w.heap.size]? = some (.cells #[.slice ra l.reads.length rc, .slice (some ⟨b1, o1, none⟩) l.levels.length lc] 25)) (by kernel_rfl) ?_
        obtain ⟨w5, hw5⟩ : ∃ w5, wr.drew = w5 := ⟨_, rfl⟩
        rw [hw5] at S5 hG5 h25 b5 hl5 ⊢
        clear hw5
        have hl5b : PSl w5 (fun b => okR w ok b ∧ b < w5.heap.size) (.slice aa lw.length ac) lw := hl5.weak pairGood (by decide) (fun b hb h => ⟨h, hb⟩)
        have hz5 : w.heap.size + 1 < w5.heap.size := lt_of_some h25
        refine wpAnyHF_takeD (i := 0) 48 (v := .pointer (some ⟨w.heap.size, 0, none⟩)) rfl rfl rfl (by kernel_rfl) (by kernel_rfl) (by kernel_rfl) (fun _ _ _ h => h) ⟨.inl ⟨rfl, fun W hW => by simp [execOp, go_sem]⟩, fun W => rfl⟩ S5 ?_
        refine wpAnyHF_takeD (i := 1) 49 (v := .slice ra l.reads.length rc) rfl rfl rfl (by kernel_rfl) (by kernel_rfl) (by kernel_rfl) (fun _ _ _ h => h) ⟨.inl ⟨rfl, fun W hW => by have m0 := cell_at (i := 0) (v := .slice ra l.reads.length rc) hW rfl; simp [execOp, go_sem, m0]⟩, fun W => rfl⟩ S5 ?_
        refine wpAnyHF_takeD (i := 2) 50 (v := .agg #[.slice ra l.reads.length rc, .slice (some ⟨b1, o1, none⟩) l.levels.length lc]) rfl rfl rfl (by kernel_rfl) (by kernel_rfl) (by kernel_rfl) (fun _ _ _ h => h) ⟨.inl ⟨rfl, fun W hW => by have m0 := cell_at (i := 0) (v := .slice ra l.reads.length rc) hW rfl; have m1 := cell_at (i := 1) (v := .slice (some ⟨b1, o1, none⟩) l.levels.length lc) hW rfl; simp [execOp, go_sem, m0, m1]⟩, fun W => rfl⟩ S5 ?_
        refine wpAnyHF_takeD (i := 3) 51 (v := .int .i64 l.levels.length) rfl rfl rfl (by kernel_rfl) (by kernel_rfl) (by kernel_rfl) (fun _ _ _ h => h) ⟨.inl ⟨rfl, fun W hW => by simp [execOp, go_sem]⟩, fun W => rfl⟩ S5 ?_
        simp only [Act.put, List.setIfInBounds_toArray, List.set_cons_zero, List.set_cons_succ]
        refine wpAnyHF_takeD (i := 4) 52 (v := .int .i64 n) rfl rfl rfl (by kernel_rfl) (by kernel_rfl) (by kernel_rfl) (fun _ _ _ h => h) ⟨.inl ⟨rfl, fun W hW => by simp [execOp, go_sem, hi2, hwm]⟩, fun W => rfl⟩ S5 ?_
        simp only [Act.put, List.setIfInBounds_toArray, List.set_cons_zero, List.set_cons_succ]
        refine wpAnyHF_takeD (i := 6) 54 (v := .slice aa lw.length ac) rfl rfl rfl (by kernel_rfl) (by kernel_rfl) (by kernel_rfl) (fun _ _ _ h => h) ⟨.inl ⟨rfl, fun W hW => by simp [execOp, go_sem]⟩, fun W => rfl⟩ S5 ?_
        simp only [Act.put, List.setIfInBounds_toArray, List.set_cons_zero, List.set_cons_succ]
        refine wpAnyHF_two (i := 5) (j := 7) (by kernel_rfl) rfl rfl rfl rfl ?_ ?_
        · refine wpIn_callD 53 rfl (P := Try.prog) (f := 28) (args := #[.agg #[.slice ra l.reads.length rc, .slice (some ⟨b1, o1, none⟩) l.levels.length lc], .int .i64 n]) (by simp [execOp, resolve, invoke, go_sem]) ?_
          refine (levels_any w5 _ _ l n hG5 (by have := HM.out.2.1; omega) (by have := HH.out.2.2.2.2.2.2.1; omega)).mono ?_
          rintro e w6 ⟨lv, rfl, hOL, b6'⟩
          obtain ⟨va, vc, rfl⟩ := hOL.shape2
          have b6 : Below w.heap.size w w6 := b5.trans (b6'.mono b5.size)
          have S6 := (b6'.block _ (lt_of_some S5)).trans S5
          refine ⟨_, rfl, S6, ?_⟩
          simp only [Act.put, List.setIfInBounds_toArray, List.set_cons_zero, List.set_cons_succ]
          have h26 := (b6'.block _ (lt_of_some h25)).trans h25
          refine wpAnyHF_one (i := 7) (by kernel_rfl) rfl rfl ?_
          obtain ⟨w7, hw7⟩ : ∃ z, w6.alloc (.cells #[.slice aa lw.length ac] 37) = z := ⟨_, rfl⟩
          have b7' : Below w6.heap.size w6 w7 := by rw [← hw7]; exact (Below.refl _ _).alloc (Nat.le_refl _) _
          have hn7 : w7.heap[w6.heap.size]? = some (.cells #[.slice aa lw.length ac] 37) := by rw [← hw7]; exact World.alloc_heap_new _ _
          have b7 : Below w.heap.size w w7 := b6.trans (b7'.mono b6.size)
          have S7 := (b7'.block _ (lt_of_some S6)).trans S6
          refine wpIn_valueD 55 rfl (w' := w7) (v := .slice (some ⟨w6.heap.size, 0, none⟩) 1 1) (by rw [← hw7]; simp [execOp, go_sem]) ⟨S7, ?_⟩
          simp only [Act.put, List.setIfInBounds_toArray, List.set_cons_zero, List.set_cons_succ]
          have h27 := (b7'.block _ (lt_of_some h26)).trans h26
          have hlow := (RSl.below pairGood hl5b (b6'.trans (b7'.mono b6'.size)))
          have hO7 : OSl LevE 1 37 w5.heap.size w7 (okR w ok) (.slice va (l.levels.take (n)).length vc) (l.levels.take (n)) := (hOL.below levGood b7').weak levGood (fun b _ h => okR.old h.1)
          obtain ⟨v8, w8, hrun8, hO8, hg8⟩ := lev_push hO7 hn7 (x := lw) (hlow.weak pairGood (by decide) (fun b _ h => ⟨h.1, fun e => by have := (hO7.lt b e.symm).1; omega⟩)) (by simp; have := HH.out.2.2.2.2.2.2.1; omega) (by have := b6'.size; have := b7'.size; omega)
          obtain ⟨N, hN⟩ : ∃ N, N = l.levels.take (n) ++ [lw] := ⟨_, rfl⟩
          rw [← hN] at hO8
          obtain ⟨a8, c8, rfl⟩ := hO8.shape2
          have n8 : ∀ b, b < w5.heap.size → some b ≠ (Value.slice va (l.levels.take (n)).length vc).ownBlock := fun b hb e => by have := (hO7.lt b e.symm).1; omega
          have S8 := (hg8.block _ (lt_of_some S7) (n8 _ (by omega))).trans S7
          have h28 := (hg8.block _ (lt_of_some h27) (n8 _ (by omega))).trans h27
          have b8 := b7.grown hg8 b7.size (fun k hk => by have := (hO7.lt k hk).1; omega)
          have hGV : GVal w8 (okR w ok) (.agg #[.slice ra l.reads.length rc, .slice a8 N.length c8]) ⟨l.reads, N⟩ := ⟨_, _, _, _, rfl, (RSl.below pairGood HH.out.1.readsOf b8).weak pairGood (by decide) (fun b _ h => okR.old h), hO8.rsl levGood _ (fun b _ h => okR.new (by omega)) (fun b _ h => h)⟩
          refine wpAnyHF_one (i := 8) (by kernel_rfl) rfl rfl ?_
          refine wpIn_valueD 56 rfl (w' := w8) (v := .slice a8 N.length c8) (run_append_op (.tmp 53) (.tmp 55) 23 rfl rfl (v := .slice va (l.levels.take (n)).length vc) (xv := .slice (some ⟨w6.heap.size, 0, none⟩) 1 1) (by simp [go_sem]) (by simp [go_sem]) hrun8) ⟨S8, ?_⟩
          simp only [Act.put, List.setIfInBounds_toArray, List.set_cons_zero, List.set_cons_succ]
          refine wpAnyHF_takeD (i := 9) 57 (v := .agg #[.slice ra l.reads.length rc, .slice a8 N.length c8]) rfl rfl rfl (by kernel_rfl) (by kernel_rfl) (by kernel_rfl) (fun _ _ _ h => h) ⟨.inl ⟨rfl, fun W hW => by simp [execOp, go_sem]⟩, fun W => rfl⟩ S8 ?_
          simp only [Act.put, List.setIfInBounds_toArray, List.set_cons_zero, List.set_cons_succ]
          have F := put_out (w := w) (l := ⟨l.reads, N⟩) h28 (by simp) b8 hGV
          have q0 : w8.cell? ⟨w.heap.size + 1, 0, none⟩ = some (.slice none 0 0) := cell_of h28
          have q1 : w8.cell? ⟨w.heap.size + 1, 1, none⟩ = some (.slice none 0 0) := cell_of h28
          have f0 : ∀ i, w8.frozen? ⟨w.heap.size + 1, i, none⟩ = false := fun i => free_of h28
          obtain ⟨w9, hw9⟩ : ∃ z, (w8.setCell ⟨w.heap.size + 1, 0, none⟩ (.slice ra l.reads.length rc)).setCell ⟨w.heap.size + 1, 1, none⟩ (.slice a8 N.length c8) = z := ⟨_, rfl⟩
          have S9 : (w9.heap[w.heap.size]? = some (.cells #[.slice ra l.reads.length rc, .slice (some ⟨b1, o1, none⟩) l.levels.length lc] 25)) := by rw [← hw9]; exact heap_far (a := ⟨w.heap.size + 1, 1, none⟩) (v := .slice a8 N.length c8) (heap_far (a := ⟨w.heap.size + 1, 0, none⟩) (v := .slice ra l.reads.length rc) S8 (by simp)) (by simp)
          refine wpAnyHF_one (i := 10) (by kernel_rfl) rfl rfl ?_
          refine wpIn_skip rfl (w' := w9) (by rw [← hw9]; simp [execOp, go_sem, q0, q1, f0]) ⟨S9, ?_⟩
          refine wpAnyHF_takeD (i := 11) 3 (v := .int .i64 0) rfl rfl rfl (by kernel_rfl) (by kernel_rfl) (by kernel_rfl) (fun _ _ _ h => h) ⟨.inl ⟨rfl, fun W hW => by simp [execOp, go_sem]⟩, fun W => rfl⟩ S9 ?_
          simp only [Act.put, List.setIfInBounds_toArray, List.set_cons_zero, List.set_cons_succ]
          refine wpAnyHF_done (by kernel_rfl) ?_ _
          have HN := hid hN
          clear hN
          rw [← hw9]
          have FF := hid F
          clear F hw9 S9 q0 q1 f0 hGV hrun8 hO8 hO7 hOL
          gi_wp2
          go_wp2_with fail
          have t0 := cell_at (i := 0) (v := .slice ra l.reads.length rc) FF.out.1 rfl
          have t1 := cell_at (i := 1) (v := .slice a8 N.length c8) FF.out.1 rfl
          refine bodyPost_ret (v := .tuple #[.agg #[.slice ra l.reads.length rc, .slice a8 N.length c8], .int .i64 0]) (by simp [results, Try.results14, go_sem, t0, t1]) rfl ?_
          rw [mergeG, if_pos HM.out.1, HM.out.2.1, Nat.add_sub_cancel, mergeL, Nat.add_sub_cancel, take_set (by have := HM.out.2.1; omega), show l.levels.getD (n + 1) [] = x by rw [List.getD_eq_getElem?_getD, HM.out.2.2.2.1]; rfl, show l.levels.getD n [] = y by rw [List.getD_eq_getElem?_getD, HM.out.2.2.1]; rfl, ← HLW.out, ← HN.out]
          exact ⟨_, _, _, _, rfl, FF.out.2.1, FF.out.2.2⟩
        · obtain ⟨w6, hw6⟩ : ∃ z, w5.alloc (.cells #[.slice aa lw.length ac] 37) = z := ⟨_, rfl⟩
          have b6' : Below w5.heap.size w5 w6 := by rw [← hw6]; exact (Below.refl _ _).alloc (Nat.le_refl _) _
          have hn6 : w6.heap[w5.heap.size]? = some (.cells #[.slice aa lw.length ac] 37) := by rw [← hw6]; exact World.alloc_heap_new _ _
          have b6 : Below w.heap.size w w6 := b5.trans (b6'.mono b5.size)
          have S6 := (b6'.block _ (lt_of_some S5)).trans S5
          refine wpIn_valueD 55 rfl (w' := w6) (v := .slice (some ⟨w5.heap.size, 0, none⟩) 1 1) (by rw [← hw6]; simp [execOp, go_sem]) ⟨S6, ?_⟩
          simp only [Act.put, List.setIfInBounds_toArray, List.set_cons_zero, List.set_cons_succ]
          have h26 := (b6'.block _ (lt_of_some h25)).trans h25
          refine wpAnyHF_one (i := 5) (by kernel_rfl) rfl rfl ?_
          refine wpIn_callD 53 rfl (P := Try.prog) (f := 28) (args := #[.agg #[.slice ra l.reads.length rc, .slice (some ⟨b1, o1, none⟩) l.levels.length lc], .int .i64 n]) (by simp [execOp, resolve, invoke, go_sem]) ?_
          refine (levels_any w6 _ _ l n (hG5.more b6') (by have := HM.out.2.1; omega) (by have := HH.out.2.2.2.2.2.2.1; omega)).mono ?_
          rintro e w7 ⟨lv, rfl, hOL, b7'⟩
          obtain ⟨va, vc, rfl⟩ := hOL.shape2
          have b7 : Below w.heap.size w w7 := b6.trans (b7'.mono b6.size)
          have S7 := (b7'.block _ (lt_of_some S6)).trans S6
          refine ⟨_, rfl, S7, ?_⟩
          simp only [Act.put, List.setIfInBounds_toArray, List.set_cons_zero, List.set_cons_succ]
          have h27 := (b7'.block _ (lt_of_some h26)).trans h26
          have hn7 := (b7'.block _ (lt_of_some hn6)).trans hn6
          have hs6 := b6'.size
          have hlow := (RSl.below pairGood hl5b (b6'.trans (b7'.mono b6'.size)))
          have hO7 : OSl LevE 1 37 w6.heap.size w7 (okR w ok) (.slice va (l.levels.take (n)).length vc) (l.levels.take (n)) := hOL.weak levGood (fun b _ h => okR.old h.1)
          obtain ⟨v8, w8, hrun8, hO8, hg8⟩ := lev_push hO7 hn7 (x := lw) (hlow.weak pairGood (by decide) (fun b _ h => ⟨h.1, fun e => by have := (hO7.lt b e.symm).1; omega⟩)) (by simp; have := HH.out.2.2.2.2.2.2.1; omega) b7'.size
          obtain ⟨N, hN⟩ : ∃ N, N = l.levels.take (n) ++ [lw] := ⟨_, rfl⟩
          rw [← hN] at hO8
          obtain ⟨a8, c8, rfl⟩ := hO8.shape2
          have n8 : ∀ b, b < w6.heap.size → some b ≠ (Value.slice va (l.levels.take (n)).length vc).ownBlock := fun b hb e => by have := (hO7.lt b e.symm).1; omega
          have S8 := (hg8.block _ (lt_of_some S7) (n8 _ (by omega))).trans S7
          have h28 := (hg8.block _ (lt_of_some h27) (n8 _ (by omega))).trans h27
          have b8 := b7.grown hg8 b7.size (fun k hk => by have := (hO7.lt k hk).1; omega)
          have hGV : GVal w8 (okR w ok) (.agg #[.slice ra l.reads.length rc, .slice a8 N.length c8]) ⟨l.reads, N⟩ := ⟨_, _, _, _, rfl, (RSl.below pairGood HH.out.1.readsOf b8).weak pairGood (by decide) (fun b _ h => okR.old h), hO8.rsl levGood _ (fun b _ h => okR.new (by omega)) (fun b _ h => h)⟩
          refine wpAnyHF_one (i := 8) (by kernel_rfl) rfl rfl ?_
          refine wpIn_valueD 56 rfl (w' := w8) (v := .slice a8 N.length c8) (run_append_op (.tmp 53) (.tmp 55) 23 rfl rfl (v := .slice va (l.levels.take (n)).length vc) (xv := .slice (some ⟨w5.heap.size, 0, none⟩) 1 1) (by simp [go_sem]) (by simp [go_sem]) hrun8) ⟨S8, ?_⟩
          simp only [Act.put, List.setIfInBounds_toArray, List.set_cons_zero, List.set_cons_succ]
          refine wpAnyHF_takeD (i := 9) 57 (v := .agg #[.slice ra l.reads.length rc, .slice a8 N.length c8]) rfl rfl rfl (by kernel_rfl) (by kernel_rfl) (by kernel_rfl) (fun _ _ _ h => h) ⟨.inl ⟨rfl, fun W hW => by simp [execOp, go_sem]⟩, fun W => rfl⟩ S8 ?_
          simp only [Act.put, List.setIfInBounds_toArray, List.set_cons_zero, List.set_cons_succ]
          have F := put_out (w := w) (l := ⟨l.reads, N⟩) h28 (by simp) b8 hGV
          have q0 : w8.cell? ⟨w.heap.size + 1, 0, none⟩ = some (.slice none 0 0) := cell_of h28
          have q1 : w8.cell? ⟨w.heap.size + 1, 1, none⟩ = some (.slice none 0 0) := cell_of h28
          have f0 : ∀ i, w8.frozen? ⟨w.heap.size + 1, i, none⟩ = false := fun i => free_of h28
          obtain ⟨w9, hw9⟩ : ∃ z, (w8.setCell ⟨w.heap.size + 1, 0, none⟩ (.slice ra l.reads.length rc)).setCell ⟨w.heap.size + 1, 1, none⟩ (.slice a8 N.length c8) = z := ⟨_, rfl⟩
          have S9 : (w9.heap[w.heap.size]? = some (.cells #[.slice ra l.reads.length rc, .slice (some ⟨b1, o1, none⟩) l.levels.length lc] 25)) := by rw [← hw9]; exact heap_far (a := ⟨w.heap.size + 1, 1, none⟩) (v := .slice a8 N.length c8) (heap_far (a := ⟨w.heap.size + 1, 0, none⟩) (v := .slice ra l.reads.length rc) S8 (by simp)) (by simp)
          refine wpAnyHF_one (i := 10) (by kernel_rfl) rfl rfl ?_
          refine wpIn_skip rfl (w' := w9) (by rw [← hw9]; simp [execOp, go_sem, q0, q1, f0]) ⟨S9, ?_⟩
          refine wpAnyHF_takeD (i := 11) 3 (v := .int .i64 0) rfl rfl rfl (by kernel_rfl) (by kernel_rfl) (by kernel_rfl) (fun _ _ _ h => h) ⟨.inl ⟨rfl, fun W hW => by simp [execOp, go_sem]⟩, fun W => rfl⟩ S9 ?_
          simp only [Act.put, List.setIfInBounds_toArray, List.set_cons_zero, List.set_cons_succ]
          refine wpAnyHF_done (by kernel_rfl) ?_ _
          have HN := hid hN
          clear hN
          rw [← hw9]
          have FF := hid F
          clear F hw9 S9 q0 q1 f0 hGV hrun8 hO8 hO7 hOL
          gi_wp2
          go_wp2_with fail
          have t0 := cell_at (i := 0) (v := .slice ra l.reads.length rc) FF.out.1 rfl
          have t1 := cell_at (i := 1) (v := .slice a8 N.length c8) FF.out.1 rfl
          refine bodyPost_ret (v := .tuple #[.agg #[.slice ra l.reads.length rc, .slice a8 N.length c8], .int .i64 0]) (by simp [results, Try.results14, go_sem, t0, t1]) rfl ?_
          rw [mergeG, if_pos HM.out.1, HM.out.2.1, Nat.add_sub_cancel, mergeL, Nat.add_sub_cancel, take_set (by have := HM.out.2.1; omega), show l.levels.getD (n + 1) [] = x by rw [List.getD_eq_getElem?_getD, HM.out.2.2.2.1]; rfl, show l.levels.getD n [] = y by rw [List.getD_eq_getElem?_getD, HM.out.2.2.1]; rfl, ← HLW.out, ← HN.out]
          exact ⟨_, _, _, _, rfl, FF.out.2.1, FF.out.2.2⟩
  · have HD := hid hd
    have hq2 : q = true → decide ((l.levels.length : Int) < 2) = true := fun e => by have h := HH.out.2.2.2.2.1; rw [decide_eq_true_iff]; simp [dropOk, ← h, e] at hd; omega
    clear hd
    cases q
    · clear hq2
      have q0 : w1.cell? ⟨w.heap.size + 1, 0, none⟩ = some (.slice none 0 0) := cell_of K.out.2.1
      have q1 : w1.cell? ⟨w.heap.size + 1, 1, none⟩ = some (.slice none 0 0) := cell_of K.out.2.1
      have hf : ∀ i, w1.frozen? ⟨w.heap.size + 1, i, none⟩ = false := fun i => free_of K.out.2.1
      go_wp2_with fail
      have F := back_out K.out.2.1 (by simp) K.out.2.2 HH.out.1
      have t0 := cell_at (i := 0) (v := .slice ra l.reads.length rc) F.1 rfl
      have t1 := cell_at (i := 1) (v := .slice la l.levels.length lc) F.1 rfl
      refine bodyPost_ret (v := .tuple #[.agg #[.slice ra l.reads.length rc, .slice la l.levels.length lc], .int .i64 170]) (by simp [results, Try.results14, go_sem, t0, t1]) rfl ?_
      rw [mergeG, if_neg HD.out]
      exact ⟨_, _, _, _, rfl, F.2.1, F.2.2⟩
    · have f1 := hq2 rfl
      clear hq2
      have q0 : w1.cell? ⟨w.heap.size + 1, 0, none⟩ = some (.slice none 0 0) := cell_of K.out.2.1
      have q1 : w1.cell? ⟨w.heap.size + 1, 1, none⟩ = some (.slice none 0 0) := cell_of K.out.2.1
      have hf : ∀ i, w1.frozen? ⟨w.heap.size + 1, i, none⟩ = false := fun i => free_of K.out.2.1
      go_wp2_with fail
      have F := back_out K.out.2.1 (by simp) K.out.2.2 HH.out.1
      have t0 := cell_at (i := 0) (v := .slice ra l.reads.length rc) F.1 rfl
      have t1 := cell_at (i := 1) (v := .slice la l.levels.length lc) F.1 rfl
      refine bodyPost_ret (v := .tuple #[.agg #[.slice ra l.reads.length rc, .slice la l.levels.length lc], .int .i64 170]) (by simp [results, Try.results14, go_sem, t0, t1]) rfl ?_
      rw [mergeG, if_neg HD.out]
      exact ⟨_, _, _, _, rfl, F.2.1, F.2.2⟩
end Go.Proofs.Ytaajooemocdfgaa
