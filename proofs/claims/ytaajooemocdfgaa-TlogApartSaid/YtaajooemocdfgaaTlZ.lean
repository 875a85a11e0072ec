/- TlogApart: the walk. -/
import Derived.Test.YtaajooemocdfgaaTlV
import Derived.Test.YtaajooemocdfgaaTlXB
namespace Go.Proofs.Ytaajooemocdfgaa
open Go.RowKit Go.Shelf Go.Maps
attribute [local go_sem] Oper.semAt_some
set_option maxRecDepth 100000 in
set_option maxHeartbeats 32000000 in
theorem apart_way (v0 : Value) (v u : Int) (a b n : Int) (w : World) (h0 : ∃ l, GVal w (fun _ => True) v0 l) (hv : 0 ≤ v ∧ v ≤ 255) (hu : 0 ≤ u ∧ u ≤ 255) (ha : In a) (hb : In b) (hn : In n) :
    Calls Try.prog 7 #[v0, .int .u8 v, .int .u8 u, .int .i64 a, .int .i64 b, .int .i64 n] w (Bb true w) := by
  obtain ⟨l, hg⟩ := h0
  have hg0 := hg
  obtain ⟨ra, rc, la, lc, rfl, hr, hl⟩ := hg
  obtain ⟨_, _, e, l1, _⟩ := hr.shape
  cases e
  obtain ⟨_, _, e, l2, _⟩ := hl.shape
  cases e
  clear hr hl
  obtain ⟨W0, hW0⟩ : ∃ W0, w.alloc (Obj.cells #[.slice ra l.reads.length rc, .slice la l.levels.length lc] 25) = W0 := ⟨_, rfl⟩
  have Kl : Hid (BG (nin []) w W0 w.heap.size ra la rc lc l) := by
    have h := (BG.new (Below.refl _ w) hg0).weak (nb' := nin []) (fun _ _ _ hm => by cases hm)
    rw [hW0] at h; exact h
  have HW := hid hW0
  have hBl : Below w.heap.size w W0 := by rw [← hW0]; exact (Below.refl _ _).alloc (Nat.le_refl _) _
  clear hW0 hg0
  go_enter Try.func7, Try.ntmps7
  go_upto_region 1 with (fail)
  rw [HW.out]
  clear HW
  have HB : Hid (Below w.heap.size w W0) := hBl
  have HS : Hid (∀ x ∈ ([] : List Nat), x < W0.heap.size) := fun x hx => by simp at hx
  clear hBl
  have P := hid (awake_any W0)
  go_wp2_with fail
  refine P.out.mono ?_
  rintro e w11 ⟨rfl, b⟩
  clear P
  replace Kl := hid (Kl.out.more b)
  replace HB : Hid (Below w.heap.size w _) := HB.out.trans (b.mono HB.out.size)
  replace HS : Hid (∀ x ∈ ([] : List Nat), x < _) := fun x hx => Nat.lt_of_lt_of_le (HS.out x hx) b.size
  clear b
  obtain ⟨q, hq⟩ : ∃ q, q = fewG l := ⟨_, rfl⟩
  have cl0 : w11.cell? ⟨w.heap.size, 0, none⟩ = some (.slice ra l.reads.length rc) := Kl.out.c0
  have cl1 : w11.cell? ⟨w.heap.size, 1, none⟩ = some (.slice la l.levels.length lc) := Kl.out.c1
  have P := hid (few_any w11 _ (.agg #[.slice ra l.reads.length rc, .slice la l.levels.length lc]) l Kl.out.val)
  rw [← hq] at P
  have HQ := hid hq
  clear hq
  go_wp2_with fail
  refine P.out.mono ?_
  rintro e w12 ⟨rfl, b⟩
  clear P
  clear cl0 cl1
  replace Kl := hid (Kl.out.more b)
  replace HB : Hid (Below w.heap.size w _) := HB.out.trans (b.mono HB.out.size)
  replace HS : Hid (∀ x ∈ ([] : List Nat), x < _) := fun x hx => Nat.lt_of_lt_of_le (HS.out x hx) b.size
  clear b
  cases q
  · go_wp2_with fail
    go_ret
    exact Bb.fin rfl HB.out
  have HF := hid ((fewG_ok HQ.out.symm).mono (show 100 ≤ 10000 by decide))
  clear HQ
  obtain ⟨q, hq⟩ : ∃ q, q = chkG l := ⟨_, rfl⟩
  have cl0 : w12.cell? ⟨w.heap.size, 0, none⟩ = some (.slice ra l.reads.length rc) := Kl.out.c0
  have cl1 : w12.cell? ⟨w.heap.size, 1, none⟩ = some (.slice la l.levels.length lc) := Kl.out.c1
  have P := hid (check_any w12 _ (.agg #[.slice ra l.reads.length rc, .slice la l.levels.length lc]) l Kl.out.val)
  rw [← hq] at P
  have HQ := hid hq
  clear hq
  go_wp2_with fail
  refine P.out.mono ?_
  rintro e w13 ⟨rfl, b⟩
  clear P
  clear cl0 cl1
  replace Kl := hid (Kl.out.more b)
  replace HB : Hid (Below w.heap.size w _) := HB.out.trans (b.mono HB.out.size)
  replace HS : Hid (∀ x ∈ ([] : List Nat), x < _) := fun x hx => Nat.lt_of_lt_of_le (HS.out x hx) b.size
  clear b
  cases q
  · go_wp2_with fail
    go_ret
    exact Bb.fin rfl HB.out
  have HC := hid (show chkG l = true from HQ.out.symm)
  clear HQ
  by_cases heq : v = u
  · have f1 : (v == u) = true := by simp [heq]
    go_wp2_with fail
    go_ret
    exact Bb.fin rfl HB.out
  have f1 : (v == u) = false := by simpa using heq
  have hne : v ≠ u := heq
  have HNE := hid hne
  have hx : In v := inLit (by omega) (by omega)
  have hy : In u := inLit (by omega) (by omega)
  have HX := hid (show (0 : Int) ≤ v by omega)
  have HY := hid (show (0 : Int) ≤ u by omega)
  go_upto_region 4 with (fail)
  clear f1 hne heq
  obtain ⟨rp, hrp⟩ : ∃ r, r = putG l v a := ⟨_, rfl⟩
  obtain ⟨lp, ep⟩ := rp
  have HRp := hid hrp
  have hkp : putG l v a = ((⟨l.reads, putLs l.levels (v, a)⟩ : Lg), (0 : Int)) := by exact putG_ok _ HC.out HX.out
  have HFp : Hid (Okl lp 10001) := by have h := okl_put HF.out v a; rw [← HRp.out] at h; exact h
  have hhp := HRp.out.trans hkp
  obtain rfl : ep = 0 := by cases hhp; rfl
  have HLp : Hid (lp = ⟨l.reads, putLs l.levels (v, a)⟩) := by cases hhp; rfl
  clear hkp hhp HRp
  have cl0 : w13.cell? ⟨w.heap.size, 0, none⟩ = some (.slice ra l.reads.length rc) := Kl.out.c0
  have cl1 : w13.cell? ⟨w.heap.size, 1, none⟩ = some (.slice la l.levels.length lc) := Kl.out.c1
  have P := hid (putg_any w13 _ (.agg #[.slice ra l.reads.length rc, .slice la l.levels.length lc]) l v a Kl.out.val hx ha (HF.out.mono (by decide)))
  rw [← hrp] at P
  clear hrp
  go_wp2_with fail
  refine P.out.mono ?_
  rintro e w14 ⟨rap, rcp, lap, lcp, rfl, hv, b⟩
  clear P
  clear cl0 cl1
  have hvp : GVal w14 (nin []) (.agg #[.slice rap lp.reads.length rcp, .slice lap lp.levels.length lcp]) lp := GVal.weak hv (fun b _ h => nin_res HS.out h)
  clear hv
  replace Kl := hid (Kl.out.more b)
  replace HB : Hid (Below w.heap.size w _) := HB.out.trans (b.mono HB.out.size)
  replace HS : Hid (∀ x ∈ ([] : List Nat), x < _) := fun x hx => Nat.lt_of_lt_of_le (HS.out x hx) b.size
  clear b
  go_upto_region 5 with (fail)
  have hnelp := Kl.out.lt
  replace Kl := hid (Kl.out.weak (nb' := nin (w14.heap.size :: [])) (fun b hb h => nin_new hb h))
  have Kp : Hid (BG (nin (w14.heap.size :: [])) w (w14.alloc (.cells #[.slice rap lp.reads.length rcp, .slice lap lp.levels.length lcp] 25)) w14.heap.size rap lap rcp lcp lp) := hid ((BG.new (nb := (nin [])) (l := lp) HB.out hvp).weak (nb' := nin (w14.heap.size :: [])) (fun b _ h => nin_new h.1 h.2))
  have bb := (Below.refl w14.heap.size w14).alloc (Nat.le_refl _) (.cells #[.slice rap lp.reads.length rcp, .slice lap lp.levels.length lcp] 25)
  have hBwp := HB.out.size
  obtain ⟨w15, hw⟩ : ∃ z, w14.alloc (.cells #[.slice rap lp.reads.length rcp, .slice lap lp.levels.length lcp] 25) = z := ⟨_, rfl⟩
  rw [hw] at bb ⊢
  rw [hw] at Kp
  obtain ⟨Bp, hBp⟩ : ∃ z, w14.heap.size = z := ⟨_, rfl⟩
  rw [hBp] at Kp hBwp ⊢
  rw [hBp] at hnelp
  replace hnelp : w.heap.size ≠ Bp := Nat.ne_of_lt hnelp
  rw [hBp] at Kl
  replace HS : Hid (∀ x ∈ ([Bp] : List Nat), x < w15.heap.size) := lt_more hBp Kp.out.lt HS.out
  replace Kl := hid (Kl.out.more bb)
  replace HB : Hid (Below w.heap.size w w15) := HB.out.trans (bb.mono HB.out.size)
  clear bb hw hvp hBp
  obtain ⟨rq, hrq⟩ : ∃ r, r = putG lp u b := ⟨_, rfl⟩
  obtain ⟨lq, eq⟩ := rq
  have HRq := hid hrq
  have hkq : putG lp u b = ((⟨l.reads, putLs (putLs l.levels (v, a)) (u, b)⟩ : Lg), (0 : Int)) := by rw [HLp.out]; exact putG_ok _ (chk_put _ HC.out HX.out) HY.out
  have HFq : Hid (Okl lq 10002) := by have h := okl_put HFp.out u b; rw [← HRq.out] at h; exact h
  have hhq := HRq.out.trans hkq
  obtain rfl : eq = 0 := by cases hhq; rfl
  have HLq : Hid (lq = ⟨l.reads, putLs (putLs l.levels (v, a)) (u, b)⟩) := by cases hhq; rfl
  clear hkq hhq HRq
  have cp0 : w15.cell? ⟨Bp, 0, none⟩ = some (.slice rap lp.reads.length rcp) := Kp.out.c0
  have cp1 : w15.cell? ⟨Bp, 1, none⟩ = some (.slice lap lp.levels.length lcp) := Kp.out.c1
  have P := hid (putg_any w15 _ (.agg #[.slice rap lp.reads.length rcp, .slice lap lp.levels.length lcp]) lp u b Kp.out.val hy hb (HFp.out.mono (by decide)))
  rw [← hrq] at P
  clear hrq
  go_wp2_with fail
  refine P.out.mono ?_
  rintro e w16 ⟨raq, rcq, laq, lcq, rfl, hv, b⟩
  clear P
  clear cp0 cp1
  have hvq : GVal w16 (nin [Bp]) (.agg #[.slice raq lq.reads.length rcq, .slice laq lq.levels.length lcq]) lq := GVal.weak hv (fun b _ h => nin_res HS.out h)
  clear hv
  replace Kl := hid (Kl.out.more b)
  replace Kp := hid (Kp.out.more b)
  replace HB : Hid (Below w.heap.size w _) := HB.out.trans (b.mono HB.out.size)
  replace HS : Hid (∀ x ∈ ([Bp] : List Nat), x < _) := fun x hx => Nat.lt_of_lt_of_le (HS.out x hx) b.size
  clear b
  have q0 : w16.cell? ⟨Bp, 0, none⟩ = some (.slice rap lp.reads.length rcp) := Kp.out.c0
  have q1 : w16.cell? ⟨Bp, 1, none⟩ = some (.slice lap lp.levels.length lcp) := Kp.out.c1
  have qf : ∀ i, w16.frozen? ⟨Bp, i, none⟩ = false := Kp.out.fz
  go_upto_region 6 with (fail)
  clear q0 q1 qf
  have Kn := hid (Kp.out.put hBwp (fun b h => nin_ne h (by simp)) hvq)
  have bs := (HB.out.setCell (p := ⟨Bp, 0, none⟩) hBwp (.slice raq lq.reads.length rcq)).setCell (p := ⟨Bp, 1, none⟩) hBwp (.slice laq lq.levels.length lcq)
  replace Kl := hid (Kl.out.other hBwp (by first | assumption | exact Ne.symm (by assumption)) (fun b h => nin_ne h (by simp)) (.slice raq lq.reads.length rcq) (.slice laq lq.levels.length lcq))
  replace HS : Hid (∀ x ∈ ([Bp] : List Nat), x < ((w16.setCell ⟨Bp, 0, none⟩ (.slice raq lq.reads.length rcq)).setCell ⟨Bp, 1, none⟩ (.slice laq lq.levels.length lcq)).heap.size) := fun x hx => by rw [size_set2]; exact HS.out x hx
  obtain ⟨w17, hw⟩ : ∃ z, (w16.setCell ⟨Bp, 0, none⟩ (.slice raq lq.reads.length rcq)).setCell ⟨Bp, 1, none⟩ (.slice laq lq.levels.length lcq) = z := ⟨_, rfl⟩
  rw [hw] at Kl Kn HS bs ⊢
  replace HB := hid bs
  clear hw hvq Kp bs
  have Kq := Kn
  clear Kn
  obtain ⟨rr, hrr⟩ : ∃ r, r = putG l u b := ⟨_, rfl⟩
  obtain ⟨lr, er⟩ := rr
  have HRr := hid hrr
  have hkr : putG l u b = ((⟨l.reads, putLs l.levels (u, b)⟩ : Lg), (0 : Int)) := by exact putG_ok _ HC.out HY.out
  have HFr : Hid (Okl lr 10001) := by have h := okl_put HF.out u b; rw [← HRr.out] at h; exact h
  have hhr := HRr.out.trans hkr
  obtain rfl : er = 0 := by cases hhr; rfl
  have HLr : Hid (lr = ⟨l.reads, putLs l.levels (u, b)⟩) := by cases hhr; rfl
  clear hkr hhr HRr
  have cl0 : w17.cell? ⟨w.heap.size, 0, none⟩ = some (.slice ra l.reads.length rc) := Kl.out.c0
  have cl1 : w17.cell? ⟨w.heap.size, 1, none⟩ = some (.slice la l.levels.length lc) := Kl.out.c1
  have P := hid (putg_any w17 _ (.agg #[.slice ra l.reads.length rc, .slice la l.levels.length lc]) l u b Kl.out.val hy hb (HF.out.mono (by decide)))
  rw [← hrr] at P
  clear hrr
  go_wp2_with fail
  refine P.out.mono ?_
  rintro e w18 ⟨rar, rcr, lar, lcr, rfl, hv, b⟩
  clear P
  clear cl0 cl1
  have hvr : GVal w18 (nin [Bp]) (.agg #[.slice rar lr.reads.length rcr, .slice lar lr.levels.length lcr]) lr := GVal.weak hv (fun b _ h => nin_res HS.out h)
  clear hv
  replace Kl := hid (Kl.out.more b)
  replace Kq := hid (Kq.out.more b)
  replace HB : Hid (Below w.heap.size w _) := HB.out.trans (b.mono HB.out.size)
  replace HS : Hid (∀ x ∈ ([Bp] : List Nat), x < _) := fun x hx => Nat.lt_of_lt_of_le (HS.out x hx) b.size
  clear b
  go_upto_region 7 with (fail)
  have hnelr := Kl.out.lt
  have hneqr := Kq.out.lt
  replace Kl := hid (Kl.out.weak (nb' := nin (w18.heap.size :: [Bp])) (fun b hb h => nin_new hb h))
  replace Kq := hid (Kq.out.weak (nb' := nin (w18.heap.size :: [Bp])) (fun b hb h => nin_new hb h))
  have Kr : Hid (BG (nin (w18.heap.size :: [Bp])) w (w18.alloc (.cells #[.slice rar lr.reads.length rcr, .slice lar lr.levels.length lcr] 25)) w18.heap.size rar lar rcr lcr lr) := hid ((BG.new (nb := (nin [Bp])) (l := lr) HB.out hvr).weak (nb' := nin (w18.heap.size :: [Bp])) (fun b _ h => nin_new h.1 h.2))
  have bb := (Below.refl w18.heap.size w18).alloc (Nat.le_refl _) (.cells #[.slice rar lr.reads.length rcr, .slice lar lr.levels.length lcr] 25)
  have hBwr := HB.out.size
  obtain ⟨w19, hw⟩ : ∃ z, w18.alloc (.cells #[.slice rar lr.reads.length rcr, .slice lar lr.levels.length lcr] 25) = z := ⟨_, rfl⟩
  rw [hw] at bb ⊢
  rw [hw] at Kr
  obtain ⟨Br, hBr⟩ : ∃ z, w18.heap.size = z := ⟨_, rfl⟩
  rw [hBr] at Kr hBwr ⊢
  rw [hBr] at hnelr
  replace hnelr : w.heap.size ≠ Br := Nat.ne_of_lt hnelr
  rw [hBr] at hneqr
  replace hneqr : Bp ≠ Br := Nat.ne_of_lt hneqr
  rw [hBr] at Kl
  rw [hBr] at Kq
  replace HS : Hid (∀ x ∈ ([Br, Bp] : List Nat), x < w19.heap.size) := lt_more hBr Kr.out.lt HS.out
  replace Kl := hid (Kl.out.more bb)
  replace Kq := hid (Kq.out.more bb)
  replace HB : Hid (Below w.heap.size w w19) := HB.out.trans (bb.mono HB.out.size)
  clear bb hw hvr hBr
  obtain ⟨rs, hrs⟩ : ∃ r, r = putG lr v a := ⟨_, rfl⟩
  obtain ⟨ls, es⟩ := rs
  have HRs := hid hrs
  have hks : putG lr v a = ((⟨l.reads, putLs (putLs l.levels (u, b)) (v, a)⟩ : Lg), (0 : Int)) := by rw [HLr.out]; exact putG_ok _ (chk_put _ HC.out HY.out) HX.out
  have HFs : Hid (Okl ls 10002) := by have h := okl_put HFr.out v a; rw [← HRs.out] at h; exact h
  have hhs := HRs.out.trans hks
  obtain rfl : es = 0 := by cases hhs; rfl
  have HLs : Hid (ls = ⟨l.reads, putLs (putLs l.levels (u, b)) (v, a)⟩) := by cases hhs; rfl
  clear hks hhs HRs
  have cr0 : w19.cell? ⟨Br, 0, none⟩ = some (.slice rar lr.reads.length rcr) := Kr.out.c0
  have cr1 : w19.cell? ⟨Br, 1, none⟩ = some (.slice lar lr.levels.length lcr) := Kr.out.c1
  have P := hid (putg_any w19 _ (.agg #[.slice rar lr.reads.length rcr, .slice lar lr.levels.length lcr]) lr v a Kr.out.val hx ha (HFr.out.mono (by decide)))
  rw [← hrs] at P
  clear hrs
  go_wp2_with fail
  refine P.out.mono ?_
  rintro e w20 ⟨ras, rcs, las, lcs, rfl, hv, b⟩
  clear P
  clear cr0 cr1
  have hvs : GVal w20 (nin [Br, Bp]) (.agg #[.slice ras ls.reads.length rcs, .slice las ls.levels.length lcs]) ls := GVal.weak hv (fun b _ h => nin_res HS.out h)
  clear hv
  replace Kl := hid (Kl.out.more b)
  replace Kq := hid (Kq.out.more b)
  replace Kr := hid (Kr.out.more b)
  replace HB : Hid (Below w.heap.size w _) := HB.out.trans (b.mono HB.out.size)
  replace HS : Hid (∀ x ∈ ([Br, Bp] : List Nat), x < _) := fun x hx => Nat.lt_of_lt_of_le (HS.out x hx) b.size
  clear b
  have q0 : w20.cell? ⟨Br, 0, none⟩ = some (.slice rar lr.reads.length rcr) := Kr.out.c0
  have q1 : w20.cell? ⟨Br, 1, none⟩ = some (.slice lar lr.levels.length lcr) := Kr.out.c1
  have qf : ∀ i, w20.frozen? ⟨Br, i, none⟩ = false := Kr.out.fz
  go_upto_region 8 with (fail)
  clear q0 q1 qf
  have Kn := hid (Kr.out.put hBwr (fun b h => nin_ne h (by simp)) hvs)
  have bs := (HB.out.setCell (p := ⟨Br, 0, none⟩) hBwr (.slice ras ls.reads.length rcs)).setCell (p := ⟨Br, 1, none⟩) hBwr (.slice las ls.levels.length lcs)
  replace Kl := hid (Kl.out.other hBwr (by first | assumption | exact Ne.symm (by assumption)) (fun b h => nin_ne h (by simp)) (.slice ras ls.reads.length rcs) (.slice las ls.levels.length lcs))
  replace Kq := hid (Kq.out.other hBwr (by first | assumption | exact Ne.symm (by assumption)) (fun b h => nin_ne h (by simp)) (.slice ras ls.reads.length rcs) (.slice las ls.levels.length lcs))
  replace HS : Hid (∀ x ∈ ([Br, Bp] : List Nat), x < ((w20.setCell ⟨Br, 0, none⟩ (.slice ras ls.reads.length rcs)).setCell ⟨Br, 1, none⟩ (.slice las ls.levels.length lcs)).heap.size) := fun x hx => by rw [size_set2]; exact HS.out x hx
  obtain ⟨w21, hw⟩ : ∃ z, (w20.setCell ⟨Br, 0, none⟩ (.slice ras ls.reads.length rcs)).setCell ⟨Br, 1, none⟩ (.slice las ls.levels.length lcs) = z := ⟨_, rfl⟩
  rw [hw] at Kl Kq Kn HS bs ⊢
  replace HB := hid bs
  clear hw hvs Kr bs
  have Ks := Kn
  clear Kn
  obtain ⟨r1, hr1⟩ : ∃ r, r = getG lq n := ⟨_, rfl⟩
  obtain ⟨g1, i1⟩ := r1
  have HR1 := hid hr1
  clear hr1
  have cq0 : w21.cell? ⟨Bp, 0, none⟩ = some (.slice raq lq.reads.length rcq) := Kq.out.c0
  have cq1 : w21.cell? ⟨Bp, 1, none⟩ = some (.slice laq lq.levels.length lcq) := Kq.out.c1
  have P := hid (get_any w21 _ (.agg #[.slice raq lq.reads.length rcq, .slice laq lq.levels.length lcq]) lq n Kq.out.val hn (HFq.out.mono (by decide)))
  rw [← HR1.out] at P
  go_wp2_with fail
  refine P.out.mono ?_
  rintro e w22 ⟨rfl, b⟩
  clear P
  clear cq0 cq1
  replace Kl := hid (Kl.out.more b)
  replace Kq := hid (Kq.out.more b)
  replace Ks := hid (Ks.out.more b)
  replace HB : Hid (Below w.heap.size w _) := HB.out.trans (b.mono HB.out.size)
  replace HS : Hid (∀ x ∈ ([Br, Bp] : List Nat), x < _) := fun x hx => Nat.lt_of_lt_of_le (HS.out x hx) b.size
  clear b
  go_upto_region 9 with (fail)
  have cs0 : w22.cell? ⟨Br, 0, none⟩ = some (.slice ras ls.reads.length rcs) := Ks.out.c0
  have cs1 : w22.cell? ⟨Br, 1, none⟩ = some (.slice las ls.levels.length lcs) := Ks.out.c1
  have P := hid (get_any w22 _ (.agg #[.slice ras ls.reads.length rcs, .slice las ls.levels.length lcs]) ls n Ks.out.val hn (HFs.out.mono (by decide)))
  have hg : getG ls n = (g1, i1) := by rw [HR1.out, HLq.out, HLs.out]; exact (get_put2 _ _ _ HC.out HX.out HY.out HNE.out).symm
  rw [hg] at P
  clear hg
  go_wp2_with fail
  refine P.out.mono ?_
  rintro e w23 ⟨rfl, b⟩
  clear P
  clear cs0 cs1
  replace Kl := hid (Kl.out.more b)
  replace Kq := hid (Kq.out.more b)
  replace Ks := hid (Ks.out.more b)
  replace HB : Hid (Below w.heap.size w _) := HB.out.trans (b.mono HB.out.size)
  replace HS : Hid (∀ x ∈ ([Br, Bp] : List Nat), x < _) := fun x hx => Nat.lt_of_lt_of_le (HS.out x hx) b.size
  clear b
  go_upto_region 10 with (fail)
  obtain ⟨rm, hrm⟩ : ∃ r, r = noteG l v a := ⟨_, rfl⟩
  obtain ⟨lm, em⟩ := rm
  have HRm := hid hrm
  have hkm : noteG l v a = ((⟨noteRs l.reads (v, a), l.levels⟩ : Lg), (0 : Int)) := by exact noteG_ok _ HC.out HX.out
  have HFm : Hid (Okl lm 10001) := by have h := okl_note HF.out v a; rw [← HRm.out] at h; exact h
  have hhm := HRm.out.trans hkm
  obtain rfl : em = 0 := by cases hhm; rfl
  have HLm : Hid (lm = ⟨noteRs l.reads (v, a), l.levels⟩) := by cases hhm; rfl
  clear hkm hhm HRm
  have cl0 : w23.cell? ⟨w.heap.size, 0, none⟩ = some (.slice ra l.reads.length rc) := Kl.out.c0
  have cl1 : w23.cell? ⟨w.heap.size, 1, none⟩ = some (.slice la l.levels.length lc) := Kl.out.c1
  have P := hid (note_any w23 _ (.agg #[.slice ra l.reads.length rc, .slice la l.levels.length lc]) l v a Kl.out.val hx ha (HF.out.mono (by decide)))
  rw [← hrm] at P
  clear hrm
  go_wp2_with fail
  refine P.out.mono ?_
  rintro e w24 ⟨ram, rcm, lam, lcm, rfl, hv, b⟩
  clear P
  clear cl0 cl1
  have hvm : GVal w24 (nin [Br, Bp]) (.agg #[.slice ram lm.reads.length rcm, .slice lam lm.levels.length lcm]) lm := GVal.weak hv (fun b _ h => nin_res HS.out h)
  clear hv
  replace Kl := hid (Kl.out.more b)
  replace Kq := hid (Kq.out.more b)
  replace Ks := hid (Ks.out.more b)
  replace HB : Hid (Below w.heap.size w _) := HB.out.trans (b.mono HB.out.size)
  replace HS : Hid (∀ x ∈ ([Br, Bp] : List Nat), x < _) := fun x hx => Nat.lt_of_lt_of_le (HS.out x hx) b.size
  clear b
  go_upto_region 11 with (fail)
  have hnelm := Kl.out.lt
  have hneqm := Kq.out.lt
  have hnesm := Ks.out.lt
  have Km : Hid (BG (nin [Br, Bp]) w (w24.alloc (.cells #[.slice ram lm.reads.length rcm, .slice lam lm.levels.length lcm] 25)) w24.heap.size ram lam rcm lcm lm) := hid ((BG.new (nb := (nin [Br, Bp])) (l := lm) HB.out hvm).weak (nb' := (nin [Br, Bp])) (fun b _ h => h.2))
  have bb := (Below.refl w24.heap.size w24).alloc (Nat.le_refl _) (.cells #[.slice ram lm.reads.length rcm, .slice lam lm.levels.length lcm] 25)
  have hBwm := HB.out.size
  obtain ⟨w25, hw⟩ : ∃ z, w24.alloc (.cells #[.slice ram lm.reads.length rcm, .slice lam lm.levels.length lcm] 25) = z := ⟨_, rfl⟩
  rw [hw] at bb ⊢
  rw [hw] at Km
  obtain ⟨Bm, hBm⟩ : ∃ z, w24.heap.size = z := ⟨_, rfl⟩
  rw [hBm] at Km hBwm ⊢
  rw [hBm] at hnelm
  replace hnelm : w.heap.size ≠ Bm := Nat.ne_of_lt hnelm
  rw [hBm] at hneqm
  replace hneqm : Bp ≠ Bm := Nat.ne_of_lt hneqm
  rw [hBm] at hnesm
  replace hnesm : Br ≠ Bm := Nat.ne_of_lt hnesm
  replace Kl := hid (Kl.out.more bb)
  replace Kq := hid (Kq.out.more bb)
  replace Ks := hid (Ks.out.more bb)
  replace HB : Hid (Below w.heap.size w w25) := HB.out.trans (bb.mono HB.out.size)
  replace HS : Hid (∀ x ∈ ([Br, Bp] : List Nat), x < w25.heap.size) := fun x hx => Nat.lt_of_lt_of_le (HS.out x hx) bb.size
  clear bb hw hvm hBm
  obtain ⟨ro, hro⟩ : ∃ r, r = putG lm u b := ⟨_, rfl⟩
  obtain ⟨lo, eo⟩ := ro
  have HRo := hid hro
  have hko : putG lm u b = ((⟨noteRs l.reads (v, a), putLs l.levels (u, b)⟩ : Lg), (0 : Int)) := by rw [HLm.out]; exact putG_ok _ (chk_note _ HC.out HX.out) HY.out
  have HFo : Hid (Okl lo 10002) := by have h := okl_put HFm.out u b; rw [← HRo.out] at h; exact h
  have hho := HRo.out.trans hko
  obtain rfl : eo = 0 := by cases hho; rfl
  have HLo : Hid (lo = ⟨noteRs l.reads (v, a), putLs l.levels (u, b)⟩) := by cases hho; rfl
  clear hko hho HRo
  have cm0 : w25.cell? ⟨Bm, 0, none⟩ = some (.slice ram lm.reads.length rcm) := Km.out.c0
  have cm1 : w25.cell? ⟨Bm, 1, none⟩ = some (.slice lam lm.levels.length lcm) := Km.out.c1
  have P := hid (putg_any w25 _ (.agg #[.slice ram lm.reads.length rcm, .slice lam lm.levels.length lcm]) lm u b Km.out.val hy hb (HFm.out.mono (by decide)))
  rw [← hro] at P
  clear hro
  go_wp2_with fail
  refine P.out.mono ?_
  rintro e w26 ⟨rao, rco, lao, lco, rfl, hv, b⟩
  clear P
  clear cm0 cm1
  have hvo : GVal w26 (nin [Br, Bp]) (.agg #[.slice rao lo.reads.length rco, .slice lao lo.levels.length lco]) lo := GVal.weak hv (fun b _ h => nin_res HS.out h)
  clear hv
  replace Kl := hid (Kl.out.more b)
  replace Kq := hid (Kq.out.more b)
  replace Ks := hid (Ks.out.more b)
  replace Km := hid (Km.out.more b)
  replace HB : Hid (Below w.heap.size w _) := HB.out.trans (b.mono HB.out.size)
  replace HS : Hid (∀ x ∈ ([Br, Bp] : List Nat), x < _) := fun x hx => Nat.lt_of_lt_of_le (HS.out x hx) b.size
  clear b
  go_upto_region 12 with (fail)
  have hnelo := Kl.out.lt
  have hneqo := Kq.out.lt
  have hneso := Ks.out.lt
  have hnemo := Km.out.lt
  have Ko : Hid (BG (nin [Br, Bp]) w (w26.alloc (.cells #[.slice rao lo.reads.length rco, .slice lao lo.levels.length lco] 25)) w26.heap.size rao lao rco lco lo) := hid ((BG.new (nb := (nin [Br, Bp])) (l := lo) HB.out hvo).weak (nb' := (nin [Br, Bp])) (fun b _ h => h.2))
  have bb := (Below.refl w26.heap.size w26).alloc (Nat.le_refl _) (.cells #[.slice rao lo.reads.length rco, .slice lao lo.levels.length lco] 25)
  have hBwo := HB.out.size
  obtain ⟨w27, hw⟩ : ∃ z, w26.alloc (.cells #[.slice rao lo.reads.length rco, .slice lao lo.levels.length lco] 25) = z := ⟨_, rfl⟩
  rw [hw] at bb ⊢
  rw [hw] at Ko
  obtain ⟨Bo, hBo⟩ : ∃ z, w26.heap.size = z := ⟨_, rfl⟩
  rw [hBo] at Ko hBwo ⊢
  rw [hBo] at hnelo
  replace hnelo : w.heap.size ≠ Bo := Nat.ne_of_lt hnelo
  rw [hBo] at hneqo
  replace hneqo : Bp ≠ Bo := Nat.ne_of_lt hneqo
  rw [hBo] at hneso
  replace hneso : Br ≠ Bo := Nat.ne_of_lt hneso
  rw [hBo] at hnemo
  replace hnemo : Bm ≠ Bo := Nat.ne_of_lt hnemo
  replace Kl := hid (Kl.out.more bb)
  replace Kq := hid (Kq.out.more bb)
  replace Ks := hid (Ks.out.more bb)
  replace Km := hid (Km.out.more bb)
  replace HB : Hid (Below w.heap.size w w27) := HB.out.trans (bb.mono HB.out.size)
  replace HS : Hid (∀ x ∈ ([Br, Bp] : List Nat), x < w27.heap.size) := fun x hx => Nat.lt_of_lt_of_le (HS.out x hx) bb.size
  clear bb hw hvo hBo
  obtain ⟨rz, hrz⟩ : ∃ r, r = putG l u b := ⟨_, rfl⟩
  obtain ⟨lz, ez⟩ := rz
  have HRz := hid hrz
  have hkz : putG l u b = ((⟨l.reads, putLs l.levels (u, b)⟩ : Lg), (0 : Int)) := by exact putG_ok _ HC.out HY.out
  have HFz : Hid (Okl lz 10001) := by have h := okl_put HF.out u b; rw [← HRz.out] at h; exact h
  have hhz := HRz.out.trans hkz
  obtain rfl : ez = 0 := by cases hhz; rfl
  have HLz : Hid (lz = ⟨l.reads, putLs l.levels (u, b)⟩) := by cases hhz; rfl
  clear hkz hhz HRz
  have cl0 : w27.cell? ⟨w.heap.size, 0, none⟩ = some (.slice ra l.reads.length rc) := Kl.out.c0
  have cl1 : w27.cell? ⟨w.heap.size, 1, none⟩ = some (.slice la l.levels.length lc) := Kl.out.c1
  have P := hid (putg_any w27 _ (.agg #[.slice ra l.reads.length rc, .slice la l.levels.length lc]) l u b Kl.out.val hy hb (HF.out.mono (by decide)))
  rw [← hrz] at P
  clear hrz
  go_wp2_with fail
  refine P.out.mono ?_
  rintro e w28 ⟨raz, rcz, laz, lcz, rfl, hv, b⟩
  clear P
  clear cl0 cl1
  have hvz : GVal w28 (nin [Br, Bp]) (.agg #[.slice raz lz.reads.length rcz, .slice laz lz.levels.length lcz]) lz := GVal.weak hv (fun b _ h => nin_res HS.out h)
  clear hv
  replace Kl := hid (Kl.out.more b)
  replace Kq := hid (Kq.out.more b)
  replace Ks := hid (Ks.out.more b)
  replace Km := hid (Km.out.more b)
  replace Ko := hid (Ko.out.more b)
  replace HB : Hid (Below w.heap.size w _) := HB.out.trans (b.mono HB.out.size)
  replace HS : Hid (∀ x ∈ ([Br, Bp] : List Nat), x < _) := fun x hx => Nat.lt_of_lt_of_le (HS.out x hx) b.size
  clear b
  go_upto_region 13 with (fail)
  have hnelz := Kl.out.lt
  have hneqz := Kq.out.lt
  have hnesz := Ks.out.lt
  have hnemz := Km.out.lt
  have hneoz := Ko.out.lt
  replace Kl := hid (Kl.out.weak (nb' := nin (w28.heap.size :: [Br, Bp])) (fun b hb h => nin_new hb h))
  replace Kq := hid (Kq.out.weak (nb' := nin (w28.heap.size :: [Br, Bp])) (fun b hb h => nin_new hb h))
  replace Ks := hid (Ks.out.weak (nb' := nin (w28.heap.size :: [Br, Bp])) (fun b hb h => nin_new hb h))
  replace Km := hid (Km.out.weak (nb' := nin (w28.heap.size :: [Br, Bp])) (fun b hb h => nin_new hb h))
  replace Ko := hid (Ko.out.weak (nb' := nin (w28.heap.size :: [Br, Bp])) (fun b hb h => nin_new hb h))
  have Kz : Hid (BG (nin (w28.heap.size :: [Br, Bp])) w (w28.alloc (.cells #[.slice raz lz.reads.length rcz, .slice laz lz.levels.length lcz] 25)) w28.heap.size raz laz rcz lcz lz) := hid ((BG.new (nb := (nin [Br, Bp])) (l := lz) HB.out hvz).weak (nb' := nin (w28.heap.size :: [Br, Bp])) (fun b _ h => nin_new h.1 h.2))
  have bb := (Below.refl w28.heap.size w28).alloc (Nat.le_refl _) (.cells #[.slice raz lz.reads.length rcz, .slice laz lz.levels.length lcz] 25)
  have hBwz := HB.out.size
  obtain ⟨w29, hw⟩ : ∃ z, w28.alloc (.cells #[.slice raz lz.reads.length rcz, .slice laz lz.levels.length lcz] 25) = z := ⟨_, rfl⟩
  rw [hw] at bb ⊢
  rw [hw] at Kz
  obtain ⟨Bz, hBz⟩ : ∃ z, w28.heap.size = z := ⟨_, rfl⟩
  rw [hBz] at Kz hBwz ⊢
  rw [hBz] at hnelz
  replace hnelz : w.heap.size ≠ Bz := Nat.ne_of_lt hnelz
  rw [hBz] at hneqz
  replace hneqz : Bp ≠ Bz := Nat.ne_of_lt hneqz
  rw [hBz] at hnesz
  replace hnesz : Br ≠ Bz := Nat.ne_of_lt hnesz
  rw [hBz] at hnemz
  replace hnemz : Bm ≠ Bz := Nat.ne_of_lt hnemz
  rw [hBz] at hneoz
  replace hneoz : Bo ≠ Bz := Nat.ne_of_lt hneoz
  rw [hBz] at Kl
  rw [hBz] at Kq
  rw [hBz] at Ks
  rw [hBz] at Km
  rw [hBz] at Ko
  replace HS : Hid (∀ x ∈ ([Bz, Br, Bp] : List Nat), x < w29.heap.size) := lt_more hBz Kz.out.lt HS.out
  replace Kl := hid (Kl.out.more bb)
  replace Kq := hid (Kq.out.more bb)
  replace Ks := hid (Ks.out.more bb)
  replace Km := hid (Km.out.more bb)
  replace Ko := hid (Ko.out.more bb)
  replace HB : Hid (Below w.heap.size w w29) := HB.out.trans (bb.mono HB.out.size)
  clear bb hw hvz hBz
  obtain ⟨rk, hrk⟩ : ∃ r, r = noteG lz v a := ⟨_, rfl⟩
  obtain ⟨lk, ek⟩ := rk
  have HRk := hid hrk
  have hkk : noteG lz v a = ((lo : Lg), (0 : Int)) := by rw [HLz.out, HLo.out]; exact noteG_ok _ (chk_put _ HC.out HY.out) HX.out
  have HFk : Hid (Okl lk 10002) := by have h := okl_note HFz.out v a; rw [← HRk.out] at h; exact h
  have hhk := HRk.out.trans hkk
  obtain rfl : ek = 0 := by cases hhk; rfl
  have HLk : Hid (lk = lo) := by cases hhk; rfl
  clear hkk hhk HRk
  have cz0 : w29.cell? ⟨Bz, 0, none⟩ = some (.slice raz lz.reads.length rcz) := Kz.out.c0
  have cz1 : w29.cell? ⟨Bz, 1, none⟩ = some (.slice laz lz.levels.length lcz) := Kz.out.c1
  have P := hid (note_any w29 _ (.agg #[.slice raz lz.reads.length rcz, .slice laz lz.levels.length lcz]) lz v a Kz.out.val hx ha (HFz.out.mono (by decide)))
  rw [← hrk] at P
  clear hrk
  go_wp2_with fail
  refine P.out.mono ?_
  rintro e w30 ⟨rak, rck, lak, lck, rfl, hv, b⟩
  clear P
  clear cz0 cz1
  have hvk : GVal w30 (nin [Bz, Br, Bp]) (.agg #[.slice rak lk.reads.length rck, .slice lak lk.levels.length lck]) lk := GVal.weak hv (fun b _ h => nin_res HS.out h)
  clear hv
  replace Kl := hid (Kl.out.more b)
  replace Kq := hid (Kq.out.more b)
  replace Ks := hid (Ks.out.more b)
  replace Km := hid (Km.out.more b)
  replace Ko := hid (Ko.out.more b)
  replace Kz := hid (Kz.out.more b)
  replace HB : Hid (Below w.heap.size w _) := HB.out.trans (b.mono HB.out.size)
  replace HS : Hid (∀ x ∈ ([Bz, Br, Bp] : List Nat), x < _) := fun x hx => Nat.lt_of_lt_of_le (HS.out x hx) b.size
  clear b
  have q0 : w30.cell? ⟨Bz, 0, none⟩ = some (.slice raz lz.reads.length rcz) := Kz.out.c0
  have q1 : w30.cell? ⟨Bz, 1, none⟩ = some (.slice laz lz.levels.length lcz) := Kz.out.c1
  have qf : ∀ i, w30.frozen? ⟨Bz, i, none⟩ = false := Kz.out.fz
  go_upto_region 14 with (fail)
  clear q0 q1 qf
  have Kn := hid (Kz.out.put hBwz (fun b h => nin_ne h (by simp)) hvk)
  have bs := (HB.out.setCell (p := ⟨Bz, 0, none⟩) hBwz (.slice rak lk.reads.length rck)).setCell (p := ⟨Bz, 1, none⟩) hBwz (.slice lak lk.levels.length lck)
  replace Kl := hid (Kl.out.other hBwz (by first | assumption | exact Ne.symm (by assumption)) (fun b h => nin_ne h (by simp)) (.slice rak lk.reads.length rck) (.slice lak lk.levels.length lck))
  replace Kq := hid (Kq.out.other hBwz (by first | assumption | exact Ne.symm (by assumption)) (fun b h => nin_ne h (by simp)) (.slice rak lk.reads.length rck) (.slice lak lk.levels.length lck))
  replace Ks := hid (Ks.out.other hBwz (by first | assumption | exact Ne.symm (by assumption)) (fun b h => nin_ne h (by simp)) (.slice rak lk.reads.length rck) (.slice lak lk.levels.length lck))
  replace Km := hid (Km.out.other hBwz (by first | assumption | exact Ne.symm (by assumption)) (fun b h => nin_ne h (by simp)) (.slice rak lk.reads.length rck) (.slice lak lk.levels.length lck))
  replace Ko := hid (Ko.out.other hBwz (by first | assumption | exact Ne.symm (by assumption)) (fun b h => nin_ne h (by simp)) (.slice rak lk.reads.length rck) (.slice lak lk.levels.length lck))
  replace HS : Hid (∀ x ∈ ([Bz, Br, Bp] : List Nat), x < ((w30.setCell ⟨Bz, 0, none⟩ (.slice rak lk.reads.length rck)).setCell ⟨Bz, 1, none⟩ (.slice lak lk.levels.length lck)).heap.size) := fun x hx => by rw [size_set2]; exact HS.out x hx
  obtain ⟨w31, hw⟩ : ∃ z, (w30.setCell ⟨Bz, 0, none⟩ (.slice rak lk.reads.length rck)).setCell ⟨Bz, 1, none⟩ (.slice lak lk.levels.length lck) = z := ⟨_, rfl⟩
  rw [hw] at Kl Kq Ks Km Ko Kn HS bs ⊢
  replace HB := hid bs
  clear hw hvk Kz bs
  have Kk := Kn
  clear Kn
  have hlk := HLk.out
  subst hlk
  clear HLk
  have hs : decide (lk = lk) = true := by simp
  have hle : ((lq.reads.length : Int) == l.reads.length) = true := by rw [HLq.out]; simp
  have cq0 : w31.cell? ⟨Bp, 0, none⟩ = some (.slice raq lq.reads.length rcq) := Kq.out.c0
  have cq1 : w31.cell? ⟨Bp, 1, none⟩ = some (.slice laq lq.levels.length lcq) := Kq.out.c1
  have cl0 : w31.cell? ⟨w.heap.size, 0, none⟩ = some (.slice ra l.reads.length rc) := Kl.out.c0
  have cl1 : w31.cell? ⟨w.heap.size, 1, none⟩ = some (.slice la l.levels.length lc) := Kl.out.c1
  have co0 : w31.cell? ⟨Bo, 0, none⟩ = some (.slice rao lk.reads.length rco) := Ko.out.c0
  have co1 : w31.cell? ⟨Bo, 1, none⟩ = some (.slice lao lk.levels.length lco) := Ko.out.c1
  have ck0 : w31.cell? ⟨Bz, 0, none⟩ = some (.slice rak lk.reads.length rck) := Kk.out.c0
  have ck1 : w31.cell? ⟨Bz, 1, none⟩ = some (.slice lak lk.levels.length lck) := Kk.out.c1
  have P := hid (same_any w31 _ _ (.agg #[.slice rao lk.reads.length rco, .slice lao lk.levels.length lco]) (.agg #[.slice rak lk.reads.length rck, .slice lak lk.levels.length lck]) lk lk Ko.out.val Kk.out.val)
  rw [hs] at P
  go_wp2_with fail
  refine P.out.mono ?_
  rintro e w32 ⟨rfl, b⟩
  clear P
  clear co0 co1 ck0 ck1
  clear cq0 cq1 cl0 cl1
  replace Kl := hid (Kl.out.more b)
  replace Kq := hid (Kq.out.more b)
  replace Ks := hid (Ks.out.more b)
  replace Km := hid (Km.out.more b)
  replace Ko := hid (Ko.out.more b)
  replace Kk := hid (Kk.out.more b)
  replace HB : Hid (Below w.heap.size w _) := HB.out.trans (b.mono HB.out.size)
  replace HS : Hid (∀ x ∈ ([Bz, Br, Bp] : List Nat), x < _) := fun x hx => Nat.lt_of_lt_of_le (HS.out x hx) b.size
  clear b
  have cq0 : w32.cell? ⟨Bp, 0, none⟩ = some (.slice raq lq.reads.length rcq) := Kq.out.c0
  have cq1 : w32.cell? ⟨Bp, 1, none⟩ = some (.slice laq lq.levels.length lcq) := Kq.out.c1
  have cl0 : w32.cell? ⟨w.heap.size, 0, none⟩ = some (.slice ra l.reads.length rc) := Kl.out.c0
  have cl1 : w32.cell? ⟨w.heap.size, 1, none⟩ = some (.slice la l.levels.length lc) := Kl.out.c1
  go_wp2_with fail
  go_ret
  exact Bb.fin rfl HB.out
end Go.Proofs.Ytaajooemocdfgaa
