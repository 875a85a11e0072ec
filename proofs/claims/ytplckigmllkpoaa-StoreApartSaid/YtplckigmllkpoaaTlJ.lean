/- tlog.Put. -/
import Derived.Test.YtplckigmllkpoaaTlI
namespace Go.Proofs.Ytplckigmllkpoaa
open Go.RowKit Go.Shelf Go.Maps
attribute [local go_sem] Oper.semAt_some
def putOk (l : Lg) (v : Int) : Bool := chkG l && decide (0 ≤ v)
def putLs (L : List (List Pr)) (x : Pr) : List (List Pr) := L.set (L.length - 1) (putL (L.getD (L.length - 1) []) x)
def putG (l : Lg) (v at_ : Int) : Lg × Int := if putOk l v then (⟨l.reads, putLs l.levels (v, at_)⟩, 0) else (l, 170)
set_option maxHeartbeats 8000000 in
theorem putg_any (w : World) (ok : Nat → Prop) (v : Value) (l : Lg) (z at_ : Int) (h : GVal w ok v l) (hz : In z) (ha : In at_) (hs : Okl l 100000) : Calls Try.prog 29 #[v, .int .i64 z, .int .i64 at_] w (LP ok (putG l z at_) w) := by
  have hG := h
  obtain ⟨ra, rc, la, lc, rfl, hr, hl⟩ := h
  obtain ⟨_, _, e, l1, _⟩ := hr.shape
  cases e
  obtain ⟨_, _, e, l2, _⟩ := hl.shape
  cases e
  clear hr hl
  obtain ⟨W0, hW0⟩ : ∃ W0, (w.alloc (Obj.cells #[.slice ra l.reads.length rc, .slice la l.levels.length lc] 28)).alloc (Obj.cells #[.slice none 0 0, .slice none 0 0] 28) = W0 := ⟨_, rfl⟩
  have hb0 : Below w.heap.size w W0 := by rw [← hW0]; exact ((Below.refl _ _).alloc (Nat.le_refl _) _).alloc (by simp) _
  have h0 : W0.heap[w.heap.size]? = some (.cells #[.slice ra l.reads.length rc, .slice la l.levels.length lc] 28) := by rw [← hW0]; exact heap_one _ _ _
  have h1 : W0.heap[w.heap.size + 1]? = some (.cells #[.slice none 0 0, .slice none 0 0] 28) := by rw [← hW0]; exact heap_two _ _ _
  obtain ⟨q, hq⟩ : ∃ q, q = chkG l := ⟨_, rfl⟩
  have HC := hid (check_any W0 _ _ l (hG.more hb0))
  rw [← hq] at HC
  have HH := hid (And.intro hG (And.intro hb0 (And.intro h0 (And.intro h1 (And.intro hq hs)))))
  have HW := hid hW0
  clear hG hb0 h0 h1 hW0 hq hs
  go_enter Try.func29, Try.ntmps29
  go_upto_region 1 with (fail)
  rw [HW.out]
  clear HW
  have c0 : W0.cell? ⟨w.heap.size, 0, none⟩ = some (.slice ra l.reads.length rc) := cell_of HH.out.2.2.1
  have c1 : W0.cell? ⟨w.heap.size, 1, none⟩ = some (.slice la l.levels.length lc) := cell_of HH.out.2.2.1
  go_wp2_with fail
  refine HC.out.mono ?_
  rintro e w1 ⟨rfl, b1⟩
  clear c0 c1 HC
  have k0 := (b1.block _ (lt_of_some HH.out.2.2.1)).trans HH.out.2.2.1
  have k1 := (b1.block _ (lt_of_some HH.out.2.2.2.1)).trans HH.out.2.2.2.1
  have bw1 := HH.out.2.1.trans (b1.mono HH.out.2.1.size)
  have c0 : w1.cell? ⟨w.heap.size, 0, none⟩ = some (.slice ra l.reads.length rc) := cell_of k0
  have c1 : w1.cell? ⟨w.heap.size, 1, none⟩ = some (.slice la l.levels.length lc) := cell_of k0
  have K := hid (And.intro k0 (And.intro k1 bw1))
  clear k0 k1 bw1 b1
  by_cases hd : putOk l z = true
  · obtain ⟨m, hm⟩ : ∃ m, l.levels.length = m + 1 := ⟨l.levels.length - 1, by simp [putOk, chkG] at hd; omega⟩
    obtain rfl : q = true := by rw [HH.out.2.2.2.2.1]; simp [putOk] at hd; exact hd.1
    have f1 : decide (z < 0) = false := by rw [decide_eq_false_iff_not]; simp [putOk] at hd; omega
    have hi : ((l.levels.length : Int) - 1) = (m : Int) := by omega
    have hmb : m ≤ 100000 := by have := HH.out.2.2.2.2.2.2.1; omega
    have HM := hid (And.intro hd (And.intro hm hi))
    clear hi hm hd
    have HO := hid (own_any w1 _ _ l (HH.out.1.more K.out.2.2) HH.out.2.2.2.2.2.1 HH.out.2.2.2.2.2.2.1 HH.out.2.2.2.2.2.2.2)
    go_wp2_with fail
    refine HO.out.mono ?_
    rintro e w2 ⟨oa, oc, sa, sc, rfl, hfr, b2⟩
    clear c0 c1 HO
    have hlt2 : w.heap.size + 1 < w2.heap.size := by have := b2.size; have := lt_of_some K.out.2.1; omega
    have HI := hid (OwnIn.make K.out.2.2 K.out.2.1 hfr b2)
    clear hfr b2
    go_upto_region 5 with (fail)
    obtain ⟨w3, hw3⟩ : ∃ w3, w2.alloc (Obj.cells #[.slice oa l.reads.length oc, .slice sa l.levels.length sc] 28) = w3 := ⟨_, rfl⟩
    obtain ⟨B3, hB3⟩ : ∃ B3, w2.heap.size = B3 := ⟨_, rfl⟩
    rw [hw3, hB3] at HI
    rw [hw3, hB3]
    have hB : w.heap.size + 1 < B3 := by omega
    clear hw3 hB3
    have hi : ((l.levels.length : Int) - 1) = (m : Int) := HM.out.2.2
    have hml : m < l.levels.length := by have := HM.out.2.1; omega
    obtain ⟨x, hx⟩ : ∃ x, l.levels[m]? = some x := ⟨_, List.getElem?_eq_getElem hml⟩
    have hxl : x.length ≤ 100000 := HH.out.2.2.2.2.2.2.2 x (List.mem_of_getElem? hx)
    obtain ⟨b4, c4, xa, xc, hv4, _, hcap, _, e4, hxs⟩ := HI.out.fr.hl.lev_at hx
    cases hv4
    have HX := hid (And.intro hx (And.intro hxs hxl))
    clear hx hxs hxl hcap
    have HD := hid (Below.refl w3.heap.size w3).drew
    have S5 : w3.drew.heap[B3]? = some (.cells #[.slice oa l.reads.length oc, .slice (some ⟨b4, 0, none⟩) l.levels.length sc] 28) := HI.out.h3
    have c5 : w3.drew.cell? ⟨b4, m, none⟩ = some (.slice xa x.length xc) := e4
    have hI5 := HI.out.grow HD.out
    have HX5 := hid (HX.out.2.1.more HD.out)
    have HI5 := hid hI5
    rw [hi]
    refine (wpIn_wide (n := 9)).1 ?_
    refine wpIn_region_held (fun W => W.heap[B3]? = some (.cells #[.slice oa l.reads.length oc, .slice (some ⟨b4, 0, none⟩) l.levels.length sc] 28)) (by kernel_rfl) ?_
    clear hI5 e4 HI hi
    generalize hw5 : w3.drew = w5 at *
    refine wpAnyHF_takeD (i := 0) 24 (v := .pointer (some ⟨B3, 1, none⟩)) rfl rfl rfl (by kernel_rfl) (by kernel_rfl) (by kernel_rfl) (fun _ _ _ h => h) ⟨.inl ⟨rfl, fun W hW => by simp [execOp, go_sem]⟩, fun W => rfl⟩ S5 ?_
    refine wpAnyHF_takeD (i := 2) 26 (v := .int .i64 m) rfl rfl rfl (by kernel_rfl) (by kernel_rfl) (by kernel_rfl) (fun _ _ _ h => h) ⟨.inl ⟨rfl, fun W hW => by simp [execOp, go_sem]⟩, fun W => rfl⟩ S5 ?_
    refine wpAnyHF_takeD (i := 3) 27 (v := .pointer (some ⟨B3, 1, none⟩)) rfl rfl rfl (by kernel_rfl) (by kernel_rfl) (by kernel_rfl) (fun _ _ _ h => h) ⟨.inl ⟨rfl, fun W hW => by simp [execOp, go_sem]⟩, fun W => rfl⟩ S5 ?_
    refine wpAnyHF_takeD (i := 5) 29 (v := .int .i64 m) rfl rfl rfl (by kernel_rfl) (by kernel_rfl) (by kernel_rfl) (fun _ _ _ h => h) ⟨.inl ⟨rfl, fun W hW => by simp [execOp, go_sem]⟩, fun W => rfl⟩ S5 ?_
    refine wpAnyHF_takeD (i := 8) 32 (v := .int .i64 z) rfl rfl rfl (by kernel_rfl) (by kernel_rfl) (by kernel_rfl) (fun _ _ _ h => h) ⟨.inl ⟨rfl, fun W hW => by simp [execOp, go_sem]⟩, fun W => rfl⟩ S5 ?_
    refine wpAnyHF_takeD (i := 9) 33 (v := .int .i64 at_) rfl rfl rfl (by kernel_rfl) (by kernel_rfl) (by kernel_rfl) (fun _ _ _ h => h) ⟨.inl ⟨rfl, fun W hW => by simp [execOp, go_sem]⟩, fun W => rfl⟩ S5 ?_
    simp only [Act.put, List.setIfInBounds_toArray, List.set_cons_zero, List.set_cons_succ]
    refine wpAnyHF_takeD (i := 1) 25 (v := .slice (some ⟨b4, 0, none⟩) l.levels.length sc) rfl rfl rfl (by kernel_rfl) (by kernel_rfl) (by kernel_rfl) (fun _ _ _ h => h) ⟨.inl ⟨rfl, fun W hW => by have m1 := cell_at (i := 1) (v := .slice (some ⟨b4, 0, none⟩) l.levels.length sc) hW rfl; simp [execOp, go_sem, m1]⟩, fun W => rfl⟩ S5 ?_
    refine wpAnyHF_takeD (i := 4) 28 (v := .slice (some ⟨b4, 0, none⟩) l.levels.length sc) rfl rfl rfl (by kernel_rfl) (by kernel_rfl) (by kernel_rfl) (fun _ _ _ h => h) ⟨.inl ⟨rfl, fun W hW => by have m1 := cell_at (i := 1) (v := .slice (some ⟨b4, 0, none⟩) l.levels.length sc) hW rfl; simp [execOp, go_sem, m1]⟩, fun W => rfl⟩ S5 ?_
    simp only [Act.put, List.setIfInBounds_toArray, List.set_cons_zero, List.set_cons_succ]
    refine wpAnyHF_takeD (i := 10) 34 (v := .agg #[.int .i64 z, .int .i64 at_]) rfl rfl rfl (by kernel_rfl) (by kernel_rfl) (by kernel_rfl) (fun _ _ _ h => h) ⟨.inl ⟨rfl, fun W hW => by simp [execOp, go_sem]⟩, fun W => rfl⟩ S5 ?_
    refine wpAnyHF_takeD (i := 6) 30 (v := .pointer (some ⟨b4, m, none⟩)) rfl rfl rfl (by kernel_rfl) (by kernel_rfl) (by kernel_rfl) (fun _ _ _ h => h) ⟨.inl ⟨rfl, fun W hW => by simp [execOp, go_sem, hml]⟩, fun W => rfl⟩ S5 ?_
    simp only [Act.put, List.setIfInBounds_toArray, List.set_cons_zero, List.set_cons_succ]
    refine wpAnyHF_one (i := 7) (by kernel_rfl) rfl rfl ?_
    refine wpIn_valueD 31 rfl (w' := w5) (v := .slice xa x.length xc) (by simp [execOp, go_sem, c5]) ⟨S5, ?_⟩
    simp only [Act.put, List.setIfInBounds_toArray, List.set_cons_zero, List.set_cons_succ]
    refine wpAnyHF_one (i := 11) (by kernel_rfl) rfl rfl ?_
    refine wpIn_callD 35 rfl (P := Try.prog) (f := 44) (args := #[.slice xa x.length xc, .agg #[.int .i64 z, .int .i64 at_]]) (by simp [execOp, resolve, invoke, go_sem]) ?_
    refine (put_any w5 _ _ x (z, at_) HX5.out hz ha (by have := HX.out.2.2; omega)).mono ?_
    rintro e w6 ⟨pv, rfl, hO6, b6⟩
    obtain ⟨pa, pc, rfl⟩ := hO6.shape2
    have hI6 := HI5.out.grow b6
    have S6 : w6.heap[B3]? = some (.cells #[.slice oa l.reads.length oc, .slice (some ⟨b4, 0, none⟩) l.levels.length sc] 28) := hI6.h3
    obtain ⟨b7, hb7, f7, ⟨u7, c7⟩, hI7⟩ := hI6.put rfl HX.out.1 (hO6.rsl pairGood (okL w (w.heap.size + 1) B3 (.slice oa l.reads.length oc) (.slice (some ⟨b4, 0, none⟩) l.levels.length sc)) (fun b _ hb => HI5.out.old (by omega)) (fun _ _ hb => hb.elim))
    obtain rfl : b4 = b7 := by cases hb7; rfl
    have S7 : (w6.setCell ⟨b4, m, none⟩ (.slice pa (putL x (z, at_)).length pc)).heap[B3]? = some (.cells #[.slice oa l.reads.length oc, .slice (some ⟨b4, 0, none⟩) l.levels.length sc] 28) := hI7.h3
    have H7 := hid hI7
    clear hI6 hI7 hO6
    refine ⟨_, rfl, S6, ?_⟩
    simp only [Act.put, List.setIfInBounds_toArray, List.set_cons_zero, List.set_cons_succ]
    refine wpAnyHF_one (i := 12) (by kernel_rfl) rfl rfl ?_
    refine wpIn_valueD 36 rfl (w' := w6) (v := .pointer (some ⟨b4, m, none⟩)) (by simp [execOp, go_sem, hml]) ⟨S6, ?_⟩
    simp only [Act.put, List.setIfInBounds_toArray, List.set_cons_zero, List.set_cons_succ]
    refine wpAnyHF_one (i := 13) (by kernel_rfl) rfl rfl ?_
    refine wpIn_skip rfl (w' := w6.setCell ⟨b4, m, none⟩ (.slice pa (putL x (z, at_)).length pc)) (by simp [execOp, go_sem, c7, f7]) ⟨S7, ?_⟩
    refine wpAnyHF_done (by kernel_rfl) ?_ _
    obtain ⟨w7, hw7⟩ : ∃ w7, w6.setCell ⟨b4, m, none⟩ (.slice pa (putL x (z, at_)).length pc) = w7 := ⟨_, rfl⟩
    rw [hw7] at H7
    rw [hw7]
    clear hw7 S7 S6 S5 c7 f7 c5
    gi_wp2
    have d0 : w7.cell? ⟨B3, 0, none⟩ = some (.slice oa l.reads.length oc) := cell_of H7.out.h3
    have d1 : w7.cell? ⟨B3, 1, none⟩ = some (.slice (some ⟨b4, 0, none⟩) l.levels.length sc) := cell_of H7.out.h3
    have q0 : w7.cell? ⟨w.heap.size + 1, 0, none⟩ = some (.slice none 0 0) := cell_of H7.out.h2
    have q1 : w7.cell? ⟨w.heap.size + 1, 1, none⟩ = some (.slice none 0 0) := cell_of H7.out.h2
    have hf : ∀ i, w7.frozen? ⟨w.heap.size + 1, i, none⟩ = false := fun i => free_of H7.out.h2
    have HT := hid (show (l.levels.set m (putL x (z, at_))).length = l.levels.length by rw [List.length_set])
    go_wp2_with fail
    have F := OwnIn.out (L := l.levels.set m (putL x (z, at_))) (la := some ⟨b4, 0, none⟩) (lc := sc) (by rw [HT.out]; exact H7.out) (by simp)
    rw [HT.out] at F
    have t0 := cell_at (i := 0) (v := .slice oa l.reads.length oc) F.1 rfl
    have t1 := cell_at (i := 1) (v := .slice (some ⟨b4, 0, none⟩) l.levels.length sc) F.1 rfl
    refine bodyPost_ret (v := .tuple #[.agg #[.slice oa l.reads.length oc, .slice (some ⟨b4, 0, none⟩) l.levels.length sc], .int .i64 0]) (by simp [results, Try.results29, go_sem, t0, t1]) rfl ?_
    rw [putG, if_pos HM.out.1, putLs, show l.levels.length - 1 = m by have := HM.out.2.1; omega, show l.levels.getD m [] = x by rw [List.getD_eq_getElem?_getD, HX.out.1]; rfl]
    exact LP.of (r := ⟨l.reads, l.levels.set m (putL x (z, at_))⟩) HT.out F.2.1 F.2.2
  · have HD := hid hd
    have hq2 : q = true → z < 0 := fun e => by have h := HH.out.2.2.2.2.1; simp [putOk, ← h, e] at hd; omega
    have q0 : w1.cell? ⟨w.heap.size + 1, 0, none⟩ = some (.slice none 0 0) := cell_of K.out.2.1
    have q1 : w1.cell? ⟨w.heap.size + 1, 1, none⟩ = some (.slice none 0 0) := cell_of K.out.2.1
    have hf : ∀ i, w1.frozen? ⟨w.heap.size + 1, i, none⟩ = false := fun i => free_of K.out.2.1
    clear hd
    cases q
    · clear hq2
      go_wp2_with fail
      have F := back_out K.out.2.1 (by simp) K.out.2.2 HH.out.1
      have t0 := cell_at (i := 0) (v := .slice ra l.reads.length rc) F.1 rfl
      have t1 := cell_at (i := 1) (v := .slice la l.levels.length lc) F.1 rfl
      refine bodyPost_ret (v := .tuple #[.agg #[.slice ra l.reads.length rc, .slice la l.levels.length lc], .int .i64 170]) (by simp [results, Try.results29, go_sem, t0, t1]) rfl ?_
      rw [putG, if_neg HD.out]
      exact ⟨_, _, _, _, rfl, F.2.1, F.2.2⟩
    · have f1 : decide (z < 0) = true := by rw [decide_eq_true_iff]; exact hq2 rfl
      clear hq2
      go_wp2_with fail
      have F := back_out K.out.2.1 (by simp) K.out.2.2 HH.out.1
      have t0 := cell_at (i := 0) (v := .slice ra l.reads.length rc) F.1 rfl
      have t1 := cell_at (i := 1) (v := .slice la l.levels.length lc) F.1 rfl
      refine bodyPost_ret (v := .tuple #[.agg #[.slice ra l.reads.length rc, .slice la l.levels.length lc], .int .i64 170]) (by simp [results, Try.results29, go_sem, t0, t1]) rfl ?_
      rw [putG, if_neg HD.out]
      exact ⟨_, _, _, _, rfl, F.2.1, F.2.2⟩
end Go.Proofs.Ytplckigmllkpoaa
