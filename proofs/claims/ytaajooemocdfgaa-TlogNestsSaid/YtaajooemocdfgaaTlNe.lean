/- TlogNests: the walk. -/
import Derived.Test.YtaajooemocdfgaaTlBx
namespace Go.Proofs.Ytaajooemocdfgaa
open Go.RowKit Go.Shelf Go.Maps
attribute [local go_sem] Oper.semAt_some
theorem psl_more {w w' : World} {v : Value} {xs : List Pr} (h : PSl w (fun _ => True) v xs) (b : Below w.heap.size w w') : PSl w' (fun _ => True) v xs := PSl.more h b
theorem okl_n1 {l : Lg} {ys : List Pr} (h : Okl l 100) (hy : ys.length ≤ 30) : Okl ⟨ys.foldl noteTo l.reads, l.levels⟩ 1000 :=
  ⟨by have := len_notes l.reads ys; have := h.1; show (ys.foldl noteTo l.reads).length ≤ 1000; omega, by have := h.2.1; show l.levels.length ≤ 1000; omega, fun x hx => by have := h.2.2 x hx; omega⟩
theorem okl_n2 {R : List Pr} {L : List (List Pr)} {P : List Pr} (h : Okl ⟨R, L⟩ 1000) (hP : P.length ≤ 1000) : Okl ⟨R, L ++ [P]⟩ 1001 :=
  ⟨by have := h.1; show R.length ≤ 1001; simp only at this; omega, by have := h.2.1; simp only at this; simp; omega, fun x hx => by
    rcases List.mem_append.1 hx with hx | hx
    · have := h.2.2 x hx; omega
    · simp at hx; subst hx; omega⟩
theorem okl_n3 {R : List Pr} {I : List (List Pr)} {b P : List Pr} (h : Okl ⟨R, I ++ [b]⟩ 1000) (hP : P.length ≤ 1000) : Okl ⟨R, I ++ [P]⟩ 1000 :=
  ⟨h.1, by have := h.2.1; simpa using this, fun x hx => by
    rcases List.mem_append.1 hx with hx | hx
    · exact h.2.2 x (List.mem_append_left _ hx)
    · simp at hx; subst hx; exact hP⟩
set_option maxRecDepth 100000 in
set_option maxHeartbeats 64000000 in
theorem nests_way (v0 v1 v2 : Value) (v : Int) (w : World) (h0 : ∃ l, GVal w (fun _ => True) v0 l) (h1 : ∃ xs, PSl w (fun _ => True) v1 xs) (h2 : ∃ xs, PSl w (fun _ => True) v2 xs) (hv : In v) :
    Calls Try.prog 4 #[v0, v1, v2, .int .i64 v] w (Bb true w) := by
  obtain ⟨l, hg⟩ := h0
  obtain ⟨ps, hp⟩ := h1
  obtain ⟨ns, hn⟩ := h2
  have HPw := hid hp
  have HNw := hid hn
  obtain ⟨pa, pc, rfl, lp1, _⟩ := hp.shape
  obtain ⟨na, nc, rfl, ln1, _⟩ := hn.shape
  clear hp hn
  have hg0 := hg
  obtain ⟨ra, rc, la, lc, rfl, hr, hl⟩ := hg
  obtain ⟨_, _, e, l1, _⟩ := hr.shape
  cases e
  obtain ⟨_, _, e, l2, _⟩ := hl.shape
  cases e
  clear hr hl
  obtain ⟨W0, hW0⟩ : ∃ W0, w.alloc (Obj.cells #[.slice ra l.reads.length rc, .slice la l.levels.length lc] 25) = W0 := ⟨_, rfl⟩
  have Kl : Hid (BG (nin []) w W0 w.heap.size ra la rc lc l) := by
    have h := (BG.new (Below.refl _ w) hg0).weak (nb' := nin []) (fun _ _ _ hm => by cases hm)
    rw [hW0] at h; exact h
  have HW := hid hW0
  have hBl : Below w.heap.size w W0 := by rw [← hW0]; exact (Below.refl _ _).alloc (Nat.le_refl _) _
  clear hW0 hg0
  go_enter Try.func4, Try.ntmps4
  go_upto_region 1 with (fail)
  rw [HW.out]
  clear HW
  have HB : Hid (Below w.heap.size w W0) := hBl
  have HS : Hid (∀ x ∈ ([] : List Nat), x < W0.heap.size) := fun x hx => by simp at hx
  clear hBl
  have P := hid (awake_any W0)
  go_wp2_with fail
  refine P.out.mono ?_
  rintro e w11 ⟨rfl, b⟩
  clear P
  replace Kl := hid (Kl.out.more b)
  replace HB : Hid (Below w.heap.size w _) := HB.out.trans (b.mono HB.out.size)
  replace HS : Hid (∀ x ∈ ([] : List Nat), x < _) := fun x hx => Nat.lt_of_lt_of_le (HS.out x hx) b.size
  clear b
  obtain ⟨q, hq⟩ : ∃ q, q = fewG l := ⟨_, rfl⟩
  have cl0 : w11.cell? ⟨w.heap.size, 0, none⟩ = some (.slice ra l.reads.length rc) := Kl.out.c0
  have cl1 : w11.cell? ⟨w.heap.size, 1, none⟩ = some (.slice la l.levels.length lc) := Kl.out.c1
  have P := hid (few_any w11 _ (.agg #[.slice ra l.reads.length rc, .slice la l.levels.length lc]) l Kl.out.val)
  rw [← hq] at P
  have HQ := hid hq
  clear hq
  go_wp2_with fail
  refine P.out.mono ?_
  rintro e w12 ⟨rfl, b⟩
  clear P
  clear cl0 cl1
  replace Kl := hid (Kl.out.more b)
  replace HB : Hid (Below w.heap.size w _) := HB.out.trans (b.mono HB.out.size)
  replace HS : Hid (∀ x ∈ ([] : List Nat), x < _) := fun x hx => Nat.lt_of_lt_of_le (HS.out x hx) b.size
  clear b
  cases q
  · go_wp2_with fail
    go_ret
    exact Bb.fin rfl HB.out
  have HF := hid (fewG_ok HQ.out.symm)
  clear HQ
  by_cases hf1 : 30 < ps.length
  · have f1 : decide ((ps.length : Int) > 30) = true := by simp; omega
    go_wp2_with fail
    go_ret
    exact Bb.fin rfl HB.out
  have f1 : decide ((ps.length : Int) > 30) = false := by simp; omega
  by_cases hf2 : 30 < ns.length
  · have f2 : decide ((ns.length : Int) > 30) = true := by simp; omega
    go_wp2_with fail
    go_ret
    exact Bb.fin rfl HB.out
  have f2 : decide ((ns.length : Int) > 30) = false := by simp; omega
  obtain ⟨q, hq⟩ : ∃ q, q = chkG l := ⟨_, rfl⟩
  have cl0 : w12.cell? ⟨w.heap.size, 0, none⟩ = some (.slice ra l.reads.length rc) := Kl.out.c0
  have cl1 : w12.cell? ⟨w.heap.size, 1, none⟩ = some (.slice la l.levels.length lc) := Kl.out.c1
  have P := hid (check_any w12 _ (.agg #[.slice ra l.reads.length rc, .slice la l.levels.length lc]) l Kl.out.val)
  rw [← hq] at P
  have HQ := hid hq
  clear hq
  go_wp2_with fail
  refine P.out.mono ?_
  rintro e w13 ⟨rfl, b⟩
  clear P
  clear cl0 cl1
  replace Kl := hid (Kl.out.more b)
  replace HB : Hid (Below w.heap.size w _) := HB.out.trans (b.mono HB.out.size)
  replace HS : Hid (∀ x ∈ ([] : List Nat), x < _) := fun x hx => Nat.lt_of_lt_of_le (HS.out x hx) b.size
  clear b
  cases q
  · go_wp2_with fail
    go_ret
    exact Bb.fin rfl HB.out
  have HC := hid (show chkG l = true from HQ.out.symm)
  clear HQ
  obtain ⟨I, bl, hlI, _⟩ := split_last (chk_parts HC.out).1
  have HLI := hid hlI
  clear hlI
  go_upto_region 4 with (fail)
  clear f1 f2
  have hp30 : ps.length ≤ 30 := by omega
  have hn30 : ns.length ≤ 30 := by omega
  clear hf1 hf2
  obtain ⟨rm, hrm⟩ : ∃ r, r = pushG l := ⟨_, rfl⟩
  obtain ⟨lm, em⟩ := rm
  have HRm := hid hrm
  have hkm : pushG l = ((⟨l.reads, l.levels ++ [[]]⟩ : Lg), (0 : Int)) := by exact pushG_ok HC.out
  have hhm := HRm.out.trans hkm
  obtain rfl : em = 0 := by cases hhm; rfl
  have HLm : Hid (lm = ⟨l.reads, l.levels ++ [[]]⟩) := by cases hhm; rfl
  clear hkm hhm HRm
  have cl0 : w13.cell? ⟨w.heap.size, 0, none⟩ = some (.slice ra l.reads.length rc) := Kl.out.c0
  have cl1 : w13.cell? ⟨w.heap.size, 1, none⟩ = some (.slice la l.levels.length lc) := Kl.out.c1
  have P := hid (push_any w13 _ (.agg #[.slice ra l.reads.length rc, .slice la l.levels.length lc]) l Kl.out.val  (HF.out.mono (by decide)))
  rw [← hrm] at P
  clear hrm
  go_wp2_with fail
  refine P.out.mono ?_
  rintro e w14 ⟨ram, rcm, lam, lcm, rfl, hv, b⟩
  clear P
  clear cl0 cl1
  have hvm : GVal w14 (nin []) (.agg #[.slice ram lm.reads.length rcm, .slice lam lm.levels.length lcm]) lm := GVal.weak hv (fun b _ h => nin_res HS.out h)
  clear hv
  replace Kl := hid (Kl.out.more b)
  replace HB : Hid (Below w.heap.size w _) := HB.out.trans (b.mono HB.out.size)
  replace HS : Hid (∀ x ∈ ([] : List Nat), x < _) := fun x hx => Nat.lt_of_lt_of_le (HS.out x hx) b.size
  clear b
  go_upto_region 5 with (fail)
  have hnelm := Kl.out.lt
  replace Kl := hid (Kl.out.weak (nb' := nin (w14.heap.size :: [])) (fun b hb h => nin_new hb h))
  have Km : Hid (BG (nin (w14.heap.size :: [])) w (w14.alloc (.cells #[.slice ram lm.reads.length rcm, .slice lam lm.levels.length lcm] 25)) w14.heap.size ram lam rcm lcm lm) := hid ((BG.new (nb := (nin [])) (l := lm) HB.out hvm).weak (nb' := nin (w14.heap.size :: [])) (fun b _ h => nin_new h.1 h.2))
  have bb := (Below.refl w14.heap.size w14).alloc (Nat.le_refl _) (.cells #[.slice ram lm.reads.length rcm, .slice lam lm.levels.length lcm] 25)
  have hBwm := HB.out.size
  obtain ⟨w15, hw⟩ : ∃ z, w14.alloc (.cells #[.slice ram lm.reads.length rcm, .slice lam lm.levels.length lcm] 25) = z := ⟨_, rfl⟩
  rw [hw] at bb ⊢
  rw [hw] at Km
  obtain ⟨Bm, hBm⟩ : ∃ z, w14.heap.size = z := ⟨_, rfl⟩
  rw [hBm] at Km hBwm ⊢
  rw [hBm] at hnelm
  replace hnelm : w.heap.size ≠ Bm := Nat.ne_of_lt hnelm
  rw [hBm] at Kl
  replace HS : Hid (∀ x ∈ ([Bm] : List Nat), x < w15.heap.size) := lt_more hBm Km.out.lt HS.out
  replace Kl := hid (Kl.out.more bb)
  replace HB : Hid (Below w.heap.size w w15) := HB.out.trans (bb.mono HB.out.size)
  clear bb hw hvm hBm
  have cl0 : w15.cell? ⟨w.heap.size, 0, none⟩ = some (.slice ra l.reads.length rc) := Kl.out.c0
  have cl1 : w15.cell? ⟨w.heap.size, 1, none⟩ = some (.slice la l.levels.length lc) := Kl.out.c1
  have hvn := Kl.out.val
  go_upto_region 6 with (fail)
  have hneln := Kl.out.lt
  have hnemn := Km.out.lt
  replace Kl := hid (Kl.out.weak (nb' := nin (w15.heap.size :: [Bm])) (fun b hb h => nin_new hb h))
  replace Km := hid (Km.out.weak (nb' := nin (w15.heap.size :: [Bm])) (fun b hb h => nin_new hb h))
  have Kn : Hid (BG (nin (w15.heap.size :: [Bm])) w (w15.alloc (.cells #[.slice ra l.reads.length rc, .slice la l.levels.length lc] 25)) w15.heap.size ra la rc lc l) := hid ((BG.new (nb := (nin [Bm])) (l := l) HB.out hvn).weak (nb' := nin (w15.heap.size :: [Bm])) (fun b _ h => nin_new h.1 h.2))
  have bb := (Below.refl w15.heap.size w15).alloc (Nat.le_refl _) (.cells #[.slice ra l.reads.length rc, .slice la l.levels.length lc] 25)
  have hBwn := HB.out.size
  obtain ⟨w16, hw⟩ : ∃ z, w15.alloc (.cells #[.slice ra l.reads.length rc, .slice la l.levels.length lc] 25) = z := ⟨_, rfl⟩
  rw [hw] at bb ⊢
  rw [hw] at Kn
  obtain ⟨Bn, hBn⟩ : ∃ z, w15.heap.size = z := ⟨_, rfl⟩
  rw [hBn] at Kn hBwn ⊢
  rw [hBn] at hneln
  replace hneln : w.heap.size ≠ Bn := Nat.ne_of_lt hneln
  rw [hBn] at hnemn
  replace hnemn : Bm ≠ Bn := Nat.ne_of_lt hnemn
  rw [hBn] at Kl
  rw [hBn] at Km
  replace HS : Hid (∀ x ∈ ([Bn, Bm] : List Nat), x < w16.heap.size) := lt_more hBn Kn.out.lt HS.out
  replace Kl := hid (Kl.out.more bb)
  replace Km := hid (Km.out.more bb)
  replace HB : Hid (Below w.heap.size w w16) := HB.out.trans (bb.mono HB.out.size)
  clear bb hw hvn hBn
  clear cl0 cl1
  go_wp2_with fail
  go_loopw [13] (fun i wr => ∃ (k : Nat) (lm : Lg) (ram : Option Addr) (rcm : Nat) (lam : Option Addr) (lcm : Nat) (ln : Lg) (ran : Option Addr) (rcn : Nat) (lan : Option Addr) (lcn : Nat), k ≤ ns.length ∧ i = .int .i64 k ∧ Hid (lm = ⟨(ns.take k).foldl noteTo l.reads, l.levels ++ [[]]⟩) ∧ Hid (ln = ⟨(ns.take k).foldl noteTo l.reads, l.levels⟩) ∧ Hid (BG (nin [Bn, Bm]) w wr Bm ram lam rcm lcm lm) ∧ Hid (BG (nin [Bn, Bm]) w wr Bn ran lan rcn lcn ln) ∧ Hid (BG (nin [Bn, Bm]) w wr w.heap.size ra la rc lc l)) (fun i _ => ns.length - (intOf i).toNat)
  case atStart => exact ⟨0, lm, ram, rcm, lam, lcm, l, ra, rc, la, lc, Nat.zero_le _, rfl, HLm, rfl, Km, Kn, Kl⟩
  case round =>
    clear Km Kn HB HS HLm
    replace Kl := True.intro
    obtain ⟨k, lm, ram, rcm, lam, lcm, ln, ran, rcn, lan, lcn, hk, rfl, HLm, HLn, Km, Kn, Kl⟩ := hrel
    obtain ⟨wo, rfl⟩ : ∃ wo : World, wo = wr := ⟨_, rfl⟩
    have HB : Hid (Below w.heap.size w wo) := Kl.out.bel
    have HS : Hid (∀ x ∈ ([Bn, Bm] : List Nat), x < wo.heap.size) := fun x hx => by
      simp at hx
      rcases hx with rfl | rfl
      · exact Kn.out.lt
      · exact Km.out.lt
    by_cases hlt : k < ns.length
    · -- a round
      have hP := psl_more HNw.out HB.out
      obtain ⟨b2, o2, c2, ⟨xv, xw⟩, hsl, hx, hi1, hi2, e1, e2⟩ := PSl.at hP (Below.refl _ _) (k := k) hlt
      cases hsl
      simp only at hi1 hi2 e1 e2
      clear hP
      have hC0 : chkG ⟨(ns.take k).foldl noteTo l.reads, l.levels⟩ = true := chk_reads HC.out (ord_notes _ (chk_parts HC.out).2.1)
      have HC0 := hid hC0
      clear hC0
      have HO0 := hid (okl_n1 (ys := ns.take k) HF.out (by simp; omega))
      have HX := hid hx
      clear hx
      obtain ⟨rp, hrp⟩ : ∃ r, r = noteG lm xv xw := ⟨_, rfl⟩
      obtain ⟨lp, ep⟩ := rp
      have HRp := hid hrp
      have hkp : noteG lm xv xw = ((⟨(ns.take (k + 1)).foldl noteTo l.reads, l.levels ++ [[]]⟩ : Lg), (erTo xv : Int)) := by rw [HLm.out, fold_more HX.out]; exact noteG_to xv xw (chk_over HC0.out rfl)
      have hhp := HRp.out.trans hkp
      obtain rfl : ep = erTo xv := by cases hhp; rfl
      have HLp : Hid (lp = ⟨(ns.take (k + 1)).foldl noteTo l.reads, l.levels ++ [[]]⟩) := by cases hhp; rfl
      clear hkp hhp HRp
      go_upto_region 9 with (fail)
      go_cut [14, 15] (fun sb se wx => ∃ (Z : Nat) (ra : Option Addr) (rc : Nat) (la : Option Addr) (lc : Nat), sb = .pointer (some ⟨Z, 0, none⟩) ∧ se = .int .i64 (erTo xv) ∧ wo.heap.size ≤ Z ∧ Hid (BG (nin (Z :: [Bn, Bm])) wo wx Z ra la rc lc lp))
      case first =>
        obtain ⟨w5, hw5⟩ : ∃ z, wo.drew = z := ⟨_, rfl⟩
        have bd : Below wo.heap.size wo w5 := by rw [← hw5]; exact (Below.refl _ _).drew
        have BD := hid bd
        have KV := hid (Km.out.val.more bd)
        have C0 : Hid (w5.cell? ⟨Bm, 0, none⟩ = some (.slice ram lm.reads.length rcm)) := (Km.out.more bd).c0
        have C1 : Hid (w5.cell? ⟨Bm, 1, none⟩ = some (.slice lam lm.levels.length lcm)) := (Km.out.more bd).c1
        have HS5 : Hid (∀ x ∈ ([Bn, Bm] : List Nat), x < w5.heap.size) := fun x hx => Nat.lt_of_lt_of_le (HS.out x hx) bd.size
        have LX : Hid (w5.cell? ⟨b2, o2 + k * 2, none⟩ = some (.int .i64 xv)) := later_cell bd e1
        have LY : Hid (w5.cell? ⟨b2, o2 + k * 2 + 1, none⟩ = some (.int .i64 xw)) := later_cell bd e2
        have PC : Hid (∀ (ok : Nat → Prop) (W : World), GVal W ok (.agg #[.slice ram lm.reads.length rcm, .slice lam lm.levels.length lcm]) lm → Calls Try.prog 19 #[.agg #[.slice ram lm.reads.length rcm, .slice lam lm.levels.length lcm], .int .i64 xv, .int .i64 xw] W (fun e w' => ∃ ra rc la lc, e = .returned (.tuple #[.agg #[.slice ra lp.reads.length rc, .slice la lp.levels.length lc], .int .i64 (erTo xv)]) ∧ GVal w' (fun b => ok b ∨ W.heap.size ≤ b) (.agg #[.slice ra lp.reads.length rc, .slice la lp.levels.length lc]) lp ∧ Below W.heap.size W w')) := fun ok W h => by
          have h := note_any W ok _ _ xv xw h hi1 hi2 (by rw [HLm.out]; exact (okl_n2 HO0.out (by simp)).mono (by decide))
          rw [← hrp] at h; exact h
        clear bd
        refine (wpIn_wide (n := 9)).1 ?_
        refine wpIn_region_held (fun W => Below w5.heap.size w5 W) (by kernel_rfl) ?_
        rw [hw5]
        clear hw5
        refine wpAnyHF_takeD (i := 0) 67 (v := .agg #[.slice ram lm.reads.length rcm, .slice lam lm.levels.length lcm]) rfl rfl rfl (by kernel_rfl) (by kernel_rfl) (by kernel_rfl) (fun _ _ _ h => h) ⟨.inl ⟨rfl, fun W hW => by have m0 := later_cell hW C0.out; have m1 := later_cell hW C1.out; simp [execOp, go_sem, m0, m1]⟩, fun W => rfl⟩ (Below.refl _ _) ?_
        refine wpAnyHF_takeD (i := 1) 68 (v := .slice (some ⟨b2, o2, none⟩) ns.length nc) rfl rfl rfl (by kernel_rfl) (by kernel_rfl) (by kernel_rfl) (fun _ _ _ h => h) ⟨.inl ⟨rfl, fun W hW => by simp [execOp, go_sem]⟩, fun W => rfl⟩ (Below.refl _ _) ?_
        refine wpAnyHF_takeD (i := 2) 69 (v := .int .i64 k) rfl rfl rfl (by kernel_rfl) (by kernel_rfl) (by kernel_rfl) (fun _ _ _ h => h) ⟨.inl ⟨rfl, fun W hW => by simp [execOp, go_sem]⟩, fun W => rfl⟩ (Below.refl _ _) ?_
        simp only [Act.put, List.setIfInBounds_toArray, List.set_cons_zero, List.set_cons_succ]
        refine wpAnyHF_takeD (i := 3) 70 (v := .pointer (some ⟨b2, o2 + k * 2, none⟩)) rfl rfl rfl (by kernel_rfl) (by kernel_rfl) (by kernel_rfl) (fun _ _ _ h => h) ⟨.inl ⟨rfl, fun W hW => by simp [execOp, go_sem, hlt]⟩, fun W => rfl⟩ (Below.refl _ _) ?_
        refine wpAnyHF_takeD (i := 4) 71 (v := .pointer (some ⟨b2, o2 + k * 2, none⟩)) rfl rfl rfl (by kernel_rfl) (by kernel_rfl) (by kernel_rfl) (fun _ _ _ h => h) ⟨.inl ⟨rfl, fun W hW => by simp [execOp, go_sem]⟩, fun W => rfl⟩ (Below.refl _ _) ?_
        refine wpAnyHF_takeD (i := 5) 72 (v := .int .i64 xv) rfl rfl rfl (by kernel_rfl) (by kernel_rfl) (by kernel_rfl) (fun _ _ _ h => h) ⟨.inl ⟨rfl, fun W hW => by have m0 := later_cell hW LX.out; simp [execOp, go_sem, m0]⟩, fun W => rfl⟩ (Below.refl _ _) ?_
        simp only [Act.put, List.setIfInBounds_toArray, List.set_cons_zero, List.set_cons_succ]
        refine wpAnyHF_takeD (i := 6) 73 (v := .slice (some ⟨b2, o2, none⟩) ns.length nc) rfl rfl rfl (by kernel_rfl) (by kernel_rfl) (by kernel_rfl) (fun _ _ _ h => h) ⟨.inl ⟨rfl, fun W hW => by simp [execOp, go_sem]⟩, fun W => rfl⟩ (Below.refl _ _) ?_
        refine wpAnyHF_takeD (i := 7) 74 (v := .int .i64 k) rfl rfl rfl (by kernel_rfl) (by kernel_rfl) (by kernel_rfl) (fun _ _ _ h => h) ⟨.inl ⟨rfl, fun W hW => by simp [execOp, go_sem]⟩, fun W => rfl⟩ (Below.refl _ _) ?_
        refine wpAnyHF_takeD (i := 8) 75 (v := .pointer (some ⟨b2, o2 + k * 2, none⟩)) rfl rfl rfl (by kernel_rfl) (by kernel_rfl) (by kernel_rfl) (fun _ _ _ h => h) ⟨.inl ⟨rfl, fun W hW => by simp [execOp, go_sem, hlt]⟩, fun W => rfl⟩ (Below.refl _ _) ?_
        simp only [Act.put, List.setIfInBounds_toArray, List.set_cons_zero, List.set_cons_succ]
        refine wpAnyHF_takeD (i := 9) 76 (v := .pointer (some ⟨b2, o2 + k * 2 + 1, none⟩)) rfl rfl rfl (by kernel_rfl) (by kernel_rfl) (by kernel_rfl) (fun _ _ _ h => h) ⟨.inl ⟨rfl, fun W hW => by simp [execOp, go_sem]⟩, fun W => rfl⟩ (Below.refl _ _) ?_
        refine wpAnyHF_takeD (i := 10) 77 (v := .int .i64 xw) rfl rfl rfl (by kernel_rfl) (by kernel_rfl) (by kernel_rfl) (fun _ _ _ h => h) ⟨.inl ⟨rfl, fun W hW => by have m0 := later_cell hW LY.out; simp [execOp, go_sem, m0]⟩, fun W => rfl⟩ (Below.refl _ _) ?_
        simp only [Act.put, List.setIfInBounds_toArray, List.set_cons_zero, List.set_cons_succ]
        refine wpAnyHF_two (i := 11) (j := 15) (by kernel_rfl) rfl rfl rfl rfl ?_ ?_
        · refine wpIn_callD 78 rfl (P := Try.prog) (f := 19) (args := #[.agg #[.slice ram lm.reads.length rcm, .slice lam lm.levels.length lcm], .int .i64 xv, .int .i64 xw]) (by simp [execOp, resolve, invoke, go_sem]) ?_
          refine (PC.out (nin [Bn, Bm]) w5 KV.out).mono ?_
          rintro e wy ⟨ra, rc, la, lc, rfl, hv, by1⟩
          refine ⟨_, rfl, by1, ?_⟩
          simp only [Act.put, List.setIfInBounds_toArray, List.set_cons_zero, List.set_cons_succ]
          refine wpAnyHF_takeD (i := 12) 66 (v := .tuple #[.agg #[.slice ra lp.reads.length rc, .slice la lp.levels.length lc], .int .i64 (erTo xv)]) rfl rfl rfl (by kernel_rfl) (by kernel_rfl) (by kernel_rfl) (fun _ _ _ h => h) ⟨.inl ⟨rfl, fun W hW => by simp [execOp, go_sem]⟩, fun W => rfl⟩ by1 ?_
          refine wpAnyHF_takeD (i := 13) 79 (v := .agg #[.slice ra lp.reads.length rc, .slice la lp.levels.length lc]) rfl rfl rfl (by kernel_rfl) (by kernel_rfl) (by kernel_rfl) (fun _ _ _ h => h) ⟨.inl ⟨rfl, fun W hW => by simp [execOp, go_sem]⟩, fun W => rfl⟩ by1 ?_
          refine wpAnyHF_takeD (i := 14) 80 (v := .int .i64 (erTo xv)) rfl rfl rfl (by kernel_rfl) (by kernel_rfl) (by kernel_rfl) (fun _ _ _ h => h) ⟨.inl ⟨rfl, fun W hW => by simp [execOp, go_sem]⟩, fun W => rfl⟩ by1 ?_
          simp only [Act.put, List.setIfInBounds_toArray, List.set_cons_zero, List.set_cons_succ]
          have bz : Below w5.heap.size w5 (wy.alloc (.cells #[.slice none 0 0, .slice none 0 0] 25)) := by1.alloc by1.size _
          refine wpAnyHF_one (i := 15) (by kernel_rfl) rfl rfl ?_
          refine wpIn_valueD 14 rfl (w' := wy.alloc (.cells #[.slice none 0 0, .slice none 0 0] 25)) (v := .pointer (some ⟨wy.heap.size, 0, none⟩)) (by simp [execOp, go_sem]) ⟨bz, ?_⟩
          simp only [Act.put, List.setIfInBounds_toArray, List.set_cons_zero, List.set_cons_succ]
          have hZ : (wy.alloc (.cells #[.slice none 0 0, .slice none 0 0] 25)).heap[wy.heap.size]? = some (.cells #[.slice none 0 0, .slice none 0 0] 25) := World.alloc_heap_new _ _
          have hZ5 : w5.heap.size ≤ wy.heap.size := by1.size
          replace hv := fill_ok1 (o := (.cells #[.slice none 0 0, .slice none 0 0] 25)) HS5.out hv
          clear by1
          obtain ⟨Z, hZe⟩ : ∃ z, wy.heap.size = z := ⟨_, rfl⟩
          obtain ⟨wz, hwz⟩ : ∃ z, wy.alloc (.cells #[.slice none 0 0, .slice none 0 0] 25) = z := ⟨_, rfl⟩
          rw [hwz] at bz hZ hv ⊢
          rw [hZe] at hZ hZ5 hv ⊢
          clear hwz hZe
          have z0 : wz.cell? ⟨Z, 0, none⟩ = some (.slice none 0 0) := cell_of hZ
          have z1 : wz.cell? ⟨Z, 1, none⟩ = some (.slice none 0 0) := cell_of hZ
          have hfz : ∀ i, wz.frozen? ⟨Z, i, none⟩ = false := fun i => free_of hZ
          have bs : Below w5.heap.size w5 ((wz.setCell ⟨Z, 0, none⟩ (.slice ra lp.reads.length rc)).setCell ⟨Z, 1, none⟩ (.slice la lp.levels.length lc)) := (bz.setCell hZ5 _).setCell hZ5 _
          have KF := hid (box_fill (S := [Bn, Bm]) BD.out bz hZ hZ5 hv (fun b _ h => ⟨Nat.ne_of_lt h.1, h.2⟩))
          refine wpAnyHF_one (i := 16) (by kernel_rfl) rfl rfl ?_
          refine wpIn_skip rfl (w' := (wz.setCell ⟨Z, 0, none⟩ (.slice ra lp.reads.length rc)).setCell ⟨Z, 1, none⟩ (.slice la lp.levels.length lc)) (by simp [execOp, go_sem, z0, z1, hfz]) ⟨bs, ?_⟩
          refine wpAnyHF_takeD (i := 17) 15 (v := .int .i64 (erTo xv)) rfl rfl rfl (by kernel_rfl) (by kernel_rfl) (by kernel_rfl) (fun _ _ _ h => h) ⟨.inl ⟨rfl, fun W hW => by simp [execOp, go_sem]⟩, fun W => rfl⟩ bs ?_
          simp only [Act.put, List.setIfInBounds_toArray, List.set_cons_zero, List.set_cons_succ]
          have HZ := hid (Nat.le_trans BD.out.size hZ5)
          refine wpAnyHF_done (by kernel_rfl) ?_ _
          clear z0 z1 hfz bs bz hZ hZ5 hv
          gi_wp2
          go_wp2_with fail
          go_meet
          case rel => exact ⟨_, ra, rc, la, lc, rfl, rfl, HZ.out, KF.out⟩
        · have bx : Below w5.heap.size w5 (w5.alloc (.cells #[.slice none 0 0, .slice none 0 0] 25)) := (Below.refl _ _).alloc (Nat.le_refl _) _
          refine wpIn_valueD 14 rfl (w' := w5.alloc (.cells #[.slice none 0 0, .slice none 0 0] 25)) (v := .pointer (some ⟨w5.heap.size, 0, none⟩)) (by simp [execOp, go_sem]) ⟨bx, ?_⟩
          simp only [Act.put, List.setIfInBounds_toArray, List.set_cons_zero, List.set_cons_succ]
          refine wpAnyHF_one (i := 11) (by kernel_rfl) rfl rfl ?_
          refine wpIn_callD 78 rfl (P := Try.prog) (f := 19) (args := #[.agg #[.slice ram lm.reads.length rcm, .slice lam lm.levels.length lcm], .int .i64 xv, .int .i64 xw]) (by simp [execOp, resolve, invoke, go_sem]) ?_
          refine (PC.out (fun b => b < w5.heap.size ∧ nin [Bn, Bm] b) _ ((KV.out.weak (fun b h1 h2 => ⟨h1, h2⟩)).more bx)).mono ?_
          rintro e wz ⟨ra, rc, la, lc, rfl, hv, by1⟩
          have bz := bx.trans (by1.mono bx.size)
          refine ⟨_, rfl, bz, ?_⟩
          simp only [Act.put, List.setIfInBounds_toArray, List.set_cons_zero, List.set_cons_succ]
          refine wpAnyHF_takeD (i := 12) 66 (v := .tuple #[.agg #[.slice ra lp.reads.length rc, .slice la lp.levels.length lc], .int .i64 (erTo xv)]) rfl rfl rfl (by kernel_rfl) (by kernel_rfl) (by kernel_rfl) (fun _ _ _ h => h) ⟨.inl ⟨rfl, fun W hW => by simp [execOp, go_sem]⟩, fun W => rfl⟩ bz ?_
          refine wpAnyHF_takeD (i := 13) 79 (v := .agg #[.slice ra lp.reads.length rc, .slice la lp.levels.length lc]) rfl rfl rfl (by kernel_rfl) (by kernel_rfl) (by kernel_rfl) (fun _ _ _ h => h) ⟨.inl ⟨rfl, fun W hW => by simp [execOp, go_sem]⟩, fun W => rfl⟩ bz ?_
          refine wpAnyHF_takeD (i := 14) 80 (v := .int .i64 (erTo xv)) rfl rfl rfl (by kernel_rfl) (by kernel_rfl) (by kernel_rfl) (fun _ _ _ h => h) ⟨.inl ⟨rfl, fun W hW => by simp [execOp, go_sem]⟩, fun W => rfl⟩ bz ?_
          simp only [Act.put, List.setIfInBounds_toArray, List.set_cons_zero, List.set_cons_succ]
          have hZ : wz.heap[w5.heap.size]? = some (.cells #[.slice none 0 0, .slice none 0 0] 25) := (by1.block _ (by simp)).trans (World.alloc_heap_new _ _)
          have hZ5 : w5.heap.size ≤ w5.heap.size := Nat.le_refl _
          clear by1 bx
          have z0 : wz.cell? ⟨w5.heap.size, 0, none⟩ = some (.slice none 0 0) := cell_of hZ
          have z1 : wz.cell? ⟨w5.heap.size, 1, none⟩ = some (.slice none 0 0) := cell_of hZ
          have hfz : ∀ i, wz.frozen? ⟨w5.heap.size, i, none⟩ = false := fun i => free_of hZ
          have bs : Below w5.heap.size w5 ((wz.setCell ⟨w5.heap.size, 0, none⟩ (.slice ra lp.reads.length rc)).setCell ⟨w5.heap.size, 1, none⟩ (.slice la lp.levels.length lc)) := (bz.setCell hZ5 _).setCell hZ5 _
          have KF := hid (box_fill (S := [Bn, Bm]) BD.out bz hZ hZ5 hv (fun b _ h => fill_ok2 (ok := fun b => b < w5.heap.size ∧ nin [Bn, Bm] b) (n := (w5.alloc (.cells #[.slice none 0 0, .slice none 0 0] 25)).heap.size) HS5.out (by simp) (fun h => h) h))
          refine wpAnyHF_one (i := 16) (by kernel_rfl) rfl rfl ?_
          refine wpIn_skip rfl (w' := (wz.setCell ⟨w5.heap.size, 0, none⟩ (.slice ra lp.reads.length rc)).setCell ⟨w5.heap.size, 1, none⟩ (.slice la lp.levels.length lc)) (by simp [execOp, go_sem, z0, z1, hfz]) ⟨bs, ?_⟩
          refine wpAnyHF_takeD (i := 17) 15 (v := .int .i64 (erTo xv)) rfl rfl rfl (by kernel_rfl) (by kernel_rfl) (by kernel_rfl) (fun _ _ _ h => h) ⟨.inl ⟨rfl, fun W hW => by simp [execOp, go_sem]⟩, fun W => rfl⟩ bs ?_
          simp only [Act.put, List.setIfInBounds_toArray, List.set_cons_zero, List.set_cons_succ]
          have HZ := hid (Nat.le_trans BD.out.size hZ5)
          refine wpAnyHF_done (by kernel_rfl) ?_ _
          clear z0 z1 hfz bs bz hZ hZ5 hv
          gi_wp2
          go_wp2_with fail
          go_meet
          case rel => exact ⟨_, ra, rc, la, lc, rfl, rfl, HZ.out, KF.out⟩
      case rest =>
        obtain ⟨Bp, rap, rcp, lap, lcp, rfl, rfl, hZ, KB⟩ := hcut
        obtain ⟨w17, hw6⟩ : ∃ z, z = wc := ⟨_, rfl⟩
        subst hw6
        have hBwp : w.heap.size ≤ Bp := Nat.le_trans HB.out.size hZ
        have hnelp : w.heap.size ≠ Bp := Nat.ne_of_lt (Nat.lt_of_lt_of_le Kl.out.lt hZ)
        have hnemp : Bm ≠ Bp := Nat.ne_of_lt (Nat.lt_of_lt_of_le Km.out.lt hZ)
        have hnenp : Bn ≠ Bp := Nat.ne_of_lt (Nat.lt_of_lt_of_le Kn.out.lt hZ)
        have b := KB.out.bel
        replace Kl := hid (Kl.out.more b)
        replace Km := hid (Km.out.more b)
        replace Kn := hid (Kn.out.more b)
        have Kp := hid ((KB.out.back HB.out).weak (nb' := nin [Bn, Bm]) (fun _ _ h => nin_tail h))
        replace HS : Hid (∀ x ∈ ([Bn, Bm] : List Nat), x < w17.heap.size) := fun x hx => Nat.lt_of_lt_of_le (HS.out x hx) b.size
        replace HB : Hid (Below w.heap.size w w17) := HB.out.trans (b.mono HB.out.size)
        replace e1 := later_cell b e1
        replace e2 := later_cell b e2
        clear KB b hZ hrp
        obtain ⟨rq, hrq⟩ : ∃ r, r = noteG ln xv xw := ⟨_, rfl⟩
        obtain ⟨lq, eq⟩ := rq
        have HRq := hid hrq
        have hkq : noteG ln xv xw = ((⟨(ns.take (k + 1)).foldl noteTo l.reads, l.levels⟩ : Lg), (erTo xv : Int)) := by rw [HLn.out, fold_more HX.out]; exact noteG_to xv xw HC0.out
        have hhq := HRq.out.trans hkq
        obtain rfl : eq = erTo xv := by cases hhq; rfl
        have HLq : Hid (lq = ⟨(ns.take (k + 1)).foldl noteTo l.reads, l.levels⟩) := by cases hhq; rfl
        clear hkq hhq HRq
        go_upto_region 10 with (fail)
        go_cut [16, 17] (fun sb se wx => ∃ (Z : Nat) (ra : Option Addr) (rc : Nat) (la : Option Addr) (lc : Nat), sb = .pointer (some ⟨Z, 0, none⟩) ∧ se = .int .i64 (erTo xv) ∧ w17.heap.size ≤ Z ∧ Hid (BG (nin (Z :: [Bn, Bm])) w17 wx Z ra la rc lc lq))
        case first =>
          obtain ⟨w5, hw5⟩ : ∃ z, w17.drew = z := ⟨_, rfl⟩
          have bd : Below w17.heap.size w17 w5 := by rw [← hw5]; exact (Below.refl _ _).drew
          have BD := hid bd
          have KV := hid (Kn.out.val.more bd)
          have C0 : Hid (w5.cell? ⟨Bn, 0, none⟩ = some (.slice ran ln.reads.length rcn)) := (Kn.out.more bd).c0
          have C1 : Hid (w5.cell? ⟨Bn, 1, none⟩ = some (.slice lan ln.levels.length lcn)) := (Kn.out.more bd).c1
          have HS5 : Hid (∀ x ∈ ([Bn, Bm] : List Nat), x < w5.heap.size) := fun x hx => Nat.lt_of_lt_of_le (HS.out x hx) bd.size
          have LX : Hid (w5.cell? ⟨b2, o2 + k * 2, none⟩ = some (.int .i64 xv)) := later_cell bd e1
          have LY : Hid (w5.cell? ⟨b2, o2 + k * 2 + 1, none⟩ = some (.int .i64 xw)) := later_cell bd e2
          have PC : Hid (∀ (ok : Nat → Prop) (W : World), GVal W ok (.agg #[.slice ran ln.reads.length rcn, .slice lan ln.levels.length lcn]) ln → Calls Try.prog 19 #[.agg #[.slice ran ln.reads.length rcn, .slice lan ln.levels.length lcn], .int .i64 xv, .int .i64 xw] W (fun e w' => ∃ ra rc la lc, e = .returned (.tuple #[.agg #[.slice ra lq.reads.length rc, .slice la lq.levels.length lc], .int .i64 (erTo xv)]) ∧ GVal w' (fun b => ok b ∨ W.heap.size ≤ b) (.agg #[.slice ra lq.reads.length rc, .slice la lq.levels.length lc]) lq ∧ Below W.heap.size W w')) := fun ok W h => by
            have h := note_any W ok _ _ xv xw h hi1 hi2 (by rw [HLn.out]; exact HO0.out.mono (by decide))
            rw [← hrq] at h; exact h
          clear bd
          refine (wpIn_wide (n := 9)).1 ?_
          refine wpIn_region_held (fun W => Below w5.heap.size w5 W) (by kernel_rfl) ?_
          rw [hw5]
          clear hw5
          refine wpAnyHF_takeD (i := 0) 82 (v := .agg #[.slice ran ln.reads.length rcn, .slice lan ln.levels.length lcn]) rfl rfl rfl (by kernel_rfl) (by kernel_rfl) (by kernel_rfl) (fun _ _ _ h => h) ⟨.inl ⟨rfl, fun W hW => by have m0 := later_cell hW C0.out; have m1 := later_cell hW C1.out; simp [execOp, go_sem, m0, m1]⟩, fun W => rfl⟩ (Below.refl _ _) ?_
          refine wpAnyHF_takeD (i := 1) 83 (v := .slice (some ⟨b2, o2, none⟩) ns.length nc) rfl rfl rfl (by kernel_rfl) (by kernel_rfl) (by kernel_rfl) (fun _ _ _ h => h) ⟨.inl ⟨rfl, fun W hW => by simp [execOp, go_sem]⟩, fun W => rfl⟩ (Below.refl _ _) ?_
          refine wpAnyHF_takeD (i := 2) 84 (v := .int .i64 k) rfl rfl rfl (by kernel_rfl) (by kernel_rfl) (by kernel_rfl) (fun _ _ _ h => h) ⟨.inl ⟨rfl, fun W hW => by simp [execOp, go_sem]⟩, fun W => rfl⟩ (Below.refl _ _) ?_
          simp only [Act.put, List.setIfInBounds_toArray, List.set_cons_zero, List.set_cons_succ]
          refine wpAnyHF_takeD (i := 3) 85 (v := .pointer (some ⟨b2, o2 + k * 2, none⟩)) rfl rfl rfl (by kernel_rfl) (by kernel_rfl) (by kernel_rfl) (fun _ _ _ h => h) ⟨.inl ⟨rfl, fun W hW => by simp [execOp, go_sem, hlt]⟩, fun W => rfl⟩ (Below.refl _ _) ?_
          refine wpAnyHF_takeD (i := 4) 86 (v := .pointer (some ⟨b2, o2 + k * 2, none⟩)) rfl rfl rfl (by kernel_rfl) (by kernel_rfl) (by kernel_rfl) (fun _ _ _ h => h) ⟨.inl ⟨rfl, fun W hW => by simp [execOp, go_sem]⟩, fun W => rfl⟩ (Below.refl _ _) ?_
          refine wpAnyHF_takeD (i := 5) 87 (v := .int .i64 xv) rfl rfl rfl (by kernel_rfl) (by kernel_rfl) (by kernel_rfl) (fun _ _ _ h => h) ⟨.inl ⟨rfl, fun W hW => by have m0 := later_cell hW LX.out; simp [execOp, go_sem, m0]⟩, fun W => rfl⟩ (Below.refl _ _) ?_
          simp only [Act.put, List.setIfInBounds_toArray, List.set_cons_zero, List.set_cons_succ]
          refine wpAnyHF_takeD (i := 6) 88 (v := .slice (some ⟨b2, o2, none⟩) ns.length nc) rfl rfl rfl (by kernel_rfl) (by kernel_rfl) (by kernel_rfl) (fun _ _ _ h => h) ⟨.inl ⟨rfl, fun W hW => by simp [execOp, go_sem]⟩, fun W => rfl⟩ (Below.refl _ _) ?_
          refine wpAnyHF_takeD (i := 7) 89 (v := .int .i64 k) rfl rfl rfl (by kernel_rfl) (by kernel_rfl) (by kernel_rfl) (fun _ _ _ h => h) ⟨.inl ⟨rfl, fun W hW => by simp [execOp, go_sem]⟩, fun W => rfl⟩ (Below.refl _ _) ?_
          refine wpAnyHF_takeD (i := 8) 90 (v := .pointer (some ⟨b2, o2 + k * 2, none⟩)) rfl rfl rfl (by kernel_rfl) (by kernel_rfl) (by kernel_rfl) (fun _ _ _ h => h) ⟨.inl ⟨rfl, fun W hW => by simp [execOp, go_sem, hlt]⟩, fun W => rfl⟩ (Below.refl _ _) ?_
          simp only [Act.put, List.setIfInBounds_toArray, List.set_cons_zero, List.set_cons_succ]
          refine wpAnyHF_takeD (i := 9) 91 (v := .pointer (some ⟨b2, o2 + k * 2 + 1, none⟩)) rfl rfl rfl (by kernel_rfl) (by kernel_rfl) (by kernel_rfl) (fun _ _ _ h => h) ⟨.inl ⟨rfl, fun W hW => by simp [execOp, go_sem]⟩, fun W => rfl⟩ (Below.refl _ _) ?_
          refine wpAnyHF_takeD (i := 10) 92 (v := .int .i64 xw) rfl rfl rfl (by kernel_rfl) (by kernel_rfl) (by kernel_rfl) (fun _ _ _ h => h) ⟨.inl ⟨rfl, fun W hW => by have m0 := later_cell hW LY.out; simp [execOp, go_sem, m0]⟩, fun W => rfl⟩ (Below.refl _ _) ?_
          simp only [Act.put, List.setIfInBounds_toArray, List.set_cons_zero, List.set_cons_succ]
          refine wpAnyHF_two (i := 11) (j := 15) (by kernel_rfl) rfl rfl rfl rfl ?_ ?_
          · refine wpIn_callD 93 rfl (P := Try.prog) (f := 19) (args := #[.agg #[.slice ran ln.reads.length rcn, .slice lan ln.levels.length lcn], .int .i64 xv, .int .i64 xw]) (by simp [execOp, resolve, invoke, go_sem]) ?_
            refine (PC.out (nin [Bn, Bm]) w5 KV.out).mono ?_
            rintro e wy ⟨ra, rc, la, lc, rfl, hv, by1⟩
            refine ⟨_, rfl, by1, ?_⟩
            simp only [Act.put, List.setIfInBounds_toArray, List.set_cons_zero, List.set_cons_succ]
            refine wpAnyHF_takeD (i := 12) 81 (v := .tuple #[.agg #[.slice ra lq.reads.length rc, .slice la lq.levels.length lc], .int .i64 (erTo xv)]) rfl rfl rfl (by kernel_rfl) (by kernel_rfl) (by kernel_rfl) (fun _ _ _ h => h) ⟨.inl ⟨rfl, fun W hW => by simp [execOp, go_sem]⟩, fun W => rfl⟩ by1 ?_
            refine wpAnyHF_takeD (i := 13) 94 (v := .agg #[.slice ra lq.reads.length rc, .slice la lq.levels.length lc]) rfl rfl rfl (by kernel_rfl) (by kernel_rfl) (by kernel_rfl) (fun _ _ _ h => h) ⟨.inl ⟨rfl, fun W hW => by simp [execOp, go_sem]⟩, fun W => rfl⟩ by1 ?_
            refine wpAnyHF_takeD (i := 14) 95 (v := .int .i64 (erTo xv)) rfl rfl rfl (by kernel_rfl) (by kernel_rfl) (by kernel_rfl) (fun _ _ _ h => h) ⟨.inl ⟨rfl, fun W hW => by simp [execOp, go_sem]⟩, fun W => rfl⟩ by1 ?_
            simp only [Act.put, List.setIfInBounds_toArray, List.set_cons_zero, List.set_cons_succ]
            have bz : Below w5.heap.size w5 (wy.alloc (.cells #[.slice none 0 0, .slice none 0 0] 25)) := by1.alloc by1.size _
            refine wpAnyHF_one (i := 15) (by kernel_rfl) rfl rfl ?_
            refine wpIn_valueD 16 rfl (w' := wy.alloc (.cells #[.slice none 0 0, .slice none 0 0] 25)) (v := .pointer (some ⟨wy.heap.size, 0, none⟩)) (by simp [execOp, go_sem]) ⟨bz, ?_⟩
            simp only [Act.put, List.setIfInBounds_toArray, List.set_cons_zero, List.set_cons_succ]
            have hZ : (wy.alloc (.cells #[.slice none 0 0, .slice none 0 0] 25)).heap[wy.heap.size]? = some (.cells #[.slice none 0 0, .slice none 0 0] 25) := World.alloc_heap_new _ _
            have hZ5 : w5.heap.size ≤ wy.heap.size := by1.size
            replace hv := fill_ok1 (o := (.cells #[.slice none 0 0, .slice none 0 0] 25)) HS5.out hv
            clear by1
            obtain ⟨Z, hZe⟩ : ∃ z, wy.heap.size = z := ⟨_, rfl⟩
            obtain ⟨wz, hwz⟩ : ∃ z, wy.alloc (.cells #[.slice none 0 0, .slice none 0 0] 25) = z := ⟨_, rfl⟩
            rw [hwz] at bz hZ hv ⊢
            rw [hZe] at hZ hZ5 hv ⊢
            clear hwz hZe
            have z0 : wz.cell? ⟨Z, 0, none⟩ = some (.slice none 0 0) := cell_of hZ
            have z1 : wz.cell? ⟨Z, 1, none⟩ = some (.slice none 0 0) := cell_of hZ
            have hfz : ∀ i, wz.frozen? ⟨Z, i, none⟩ = false := fun i => free_of hZ
            have bs : Below w5.heap.size w5 ((wz.setCell ⟨Z, 0, none⟩ (.slice ra lq.reads.length rc)).setCell ⟨Z, 1, none⟩ (.slice la lq.levels.length lc)) := (bz.setCell hZ5 _).setCell hZ5 _
            have KF := hid (box_fill (S := [Bn, Bm]) BD.out bz hZ hZ5 hv (fun b _ h => ⟨Nat.ne_of_lt h.1, h.2⟩))
            refine wpAnyHF_one (i := 16) (by kernel_rfl) rfl rfl ?_
            refine wpIn_skip rfl (w' := (wz.setCell ⟨Z, 0, none⟩ (.slice ra lq.reads.length rc)).setCell ⟨Z, 1, none⟩ (.slice la lq.levels.length lc)) (by simp [execOp, go_sem, z0, z1, hfz]) ⟨bs, ?_⟩
            refine wpAnyHF_takeD (i := 17) 17 (v := .int .i64 (erTo xv)) rfl rfl rfl (by kernel_rfl) (by kernel_rfl) (by kernel_rfl) (fun _ _ _ h => h) ⟨.inl ⟨rfl, fun W hW => by simp [execOp, go_sem]⟩, fun W => rfl⟩ bs ?_
            simp only [Act.put, List.setIfInBounds_toArray, List.set_cons_zero, List.set_cons_succ]
            have HZ := hid (Nat.le_trans BD.out.size hZ5)
            refine wpAnyHF_done (by kernel_rfl) ?_ _
            clear z0 z1 hfz bs bz hZ hZ5 hv
            gi_wp2
            go_wp2_with fail
            go_meet
            case rel => exact ⟨_, ra, rc, la, lc, rfl, rfl, HZ.out, KF.out⟩
          · have bx : Below w5.heap.size w5 (w5.alloc (.cells #[.slice none 0 0, .slice none 0 0] 25)) := (Below.refl _ _).alloc (Nat.le_refl _) _
            refine wpIn_valueD 16 rfl (w' := w5.alloc (.cells #[.slice none 0 0, .slice none 0 0] 25)) (v := .pointer (some ⟨w5.heap.size, 0, none⟩)) (by simp [execOp, go_sem]) ⟨bx, ?_⟩
            simp only [Act.put, List.setIfInBounds_toArray, List.set_cons_zero, List.set_cons_succ]
            refine wpAnyHF_one (i := 11) (by kernel_rfl) rfl rfl ?_
            refine wpIn_callD 93 rfl (P := Try.prog) (f := 19) (args := #[.agg #[.slice ran ln.reads.length rcn, .slice lan ln.levels.length lcn], .int .i64 xv, .int .i64 xw]) (by simp [execOp, resolve, invoke, go_sem]) ?_
            refine (PC.out (fun b => b < w5.heap.size ∧ nin [Bn, Bm] b) _ ((KV.out.weak (fun b h1 h2 => ⟨h1, h2⟩)).more bx)).mono ?_
            rintro e wz ⟨ra, rc, la, lc, rfl, hv, by1⟩
            have bz := bx.trans (by1.mono bx.size)
            refine ⟨_, rfl, bz, ?_⟩
            simp only [Act.put, List.setIfInBounds_toArray, List.set_cons_zero, List.set_cons_succ]
            refine wpAnyHF_takeD (i := 12) 81 (v := .tuple #[.agg #[.slice ra lq.reads.length rc, .slice la lq.levels.length lc], .int .i64 (erTo xv)]) rfl rfl rfl (by kernel_rfl) (by kernel_rfl) (by kernel_rfl) (fun _ _ _ h => h) ⟨.inl ⟨rfl, fun W hW => by simp [execOp, go_sem]⟩, fun W => rfl⟩ bz ?_
            refine wpAnyHF_takeD (i := 13) 94 (v := .agg #[.slice ra lq.reads.length rc, .slice la lq.levels.length lc]) rfl rfl rfl (by kernel_rfl) (by kernel_rfl) (by kernel_rfl) (fun _ _ _ h => h) ⟨.inl ⟨rfl, fun W hW => by simp [execOp, go_sem]⟩, fun W => rfl⟩ bz ?_
            refine wpAnyHF_takeD (i := 14) 95 (v := .int .i64 (erTo xv)) rfl rfl rfl (by kernel_rfl) (by kernel_rfl) (by kernel_rfl) (fun _ _ _ h => h) ⟨.inl ⟨rfl, fun W hW => by simp [execOp, go_sem]⟩, fun W => rfl⟩ bz ?_
            simp only [Act.put, List.setIfInBounds_toArray, List.set_cons_zero, List.set_cons_succ]
            have hZ : wz.heap[w5.heap.size]? = some (.cells #[.slice none 0 0, .slice none 0 0] 25) := (by1.block _ (by simp)).trans (World.alloc_heap_new _ _)
            have hZ5 : w5.heap.size ≤ w5.heap.size := Nat.le_refl _
            clear by1 bx
            have z0 : wz.cell? ⟨w5.heap.size, 0, none⟩ = some (.slice none 0 0) := cell_of hZ
            have z1 : wz.cell? ⟨w5.heap.size, 1, none⟩ = some (.slice none 0 0) := cell_of hZ
            have hfz : ∀ i, wz.frozen? ⟨w5.heap.size, i, none⟩ = false := fun i => free_of hZ
            have bs : Below w5.heap.size w5 ((wz.setCell ⟨w5.heap.size, 0, none⟩ (.slice ra lq.reads.length rc)).setCell ⟨w5.heap.size, 1, none⟩ (.slice la lq.levels.length lc)) := (bz.setCell hZ5 _).setCell hZ5 _
            have KF := hid (box_fill (S := [Bn, Bm]) BD.out bz hZ hZ5 hv (fun b _ h => fill_ok2 (ok := fun b => b < w5.heap.size ∧ nin [Bn, Bm] b) (n := (w5.alloc (.cells #[.slice none 0 0, .slice none 0 0] 25)).heap.size) HS5.out (by simp) (fun h => h) h))
            refine wpAnyHF_one (i := 16) (by kernel_rfl) rfl rfl ?_
            refine wpIn_skip rfl (w' := (wz.setCell ⟨w5.heap.size, 0, none⟩ (.slice ra lq.reads.length rc)).setCell ⟨w5.heap.size, 1, none⟩ (.slice la lq.levels.length lc)) (by simp [execOp, go_sem, z0, z1, hfz]) ⟨bs, ?_⟩
            refine wpAnyHF_takeD (i := 17) 17 (v := .int .i64 (erTo xv)) rfl rfl rfl (by kernel_rfl) (by kernel_rfl) (by kernel_rfl) (fun _ _ _ h => h) ⟨.inl ⟨rfl, fun W hW => by simp [execOp, go_sem]⟩, fun W => rfl⟩ bs ?_
            simp only [Act.put, List.setIfInBounds_toArray, List.set_cons_zero, List.set_cons_succ]
            have HZ := hid (Nat.le_trans BD.out.size hZ5)
            refine wpAnyHF_done (by kernel_rfl) ?_ _
            clear z0 z1 hfz bs bz hZ hZ5 hv
            gi_wp2
            go_wp2_with fail
            go_meet
            case rel => exact ⟨_, ra, rc, la, lc, rfl, rfl, HZ.out, KF.out⟩
        case rest =>
          obtain ⟨Bq, raq, rcq, laq, lcq, rfl, rfl, hZ, KB⟩ := hcut
          obtain ⟨w18, hw6⟩ : ∃ z, z = wc := ⟨_, rfl⟩
          subst hw6
          have hBwq : w.heap.size ≤ Bq := Nat.le_trans HB.out.size hZ
          have hnelq : w.heap.size ≠ Bq := Nat.ne_of_lt (Nat.lt_of_lt_of_le Kl.out.lt hZ)
          have hnemq : Bm ≠ Bq := Nat.ne_of_lt (Nat.lt_of_lt_of_le Km.out.lt hZ)
          have hnenq : Bn ≠ Bq := Nat.ne_of_lt (Nat.lt_of_lt_of_le Kn.out.lt hZ)
          have hnepq : Bp ≠ Bq := Nat.ne_of_lt (Nat.lt_of_lt_of_le Kp.out.lt hZ)
          have b := KB.out.bel
          replace Kl := hid (Kl.out.more b)
          replace Km := hid (Km.out.more b)
          replace Kn := hid (Kn.out.more b)
          replace Kp := hid (Kp.out.more b)
          have Kq := hid ((KB.out.back HB.out).weak (nb' := nin [Bn, Bm]) (fun _ _ h => nin_tail h))
          replace HS : Hid (∀ x ∈ ([Bn, Bm] : List Nat), x < w18.heap.size) := fun x hx => Nat.lt_of_lt_of_le (HS.out x hx) b.size
          replace HB : Hid (Below w.heap.size w w18) := HB.out.trans (b.mono HB.out.size)
          replace e1 := later_cell b e1
          replace e2 := later_cell b e2
          clear KB b hZ hrq
          have f5 : (erTo xv == 0) = decide (xv ≥ 0) := erTo_ok xv
          go_upto_region 13 with (fail)
          clear f5 e1 e2
          have q0 : w18.cell? ⟨Bm, 0, none⟩ = some (.slice ram lm.reads.length rcm) := Km.out.c0
          have q1 : w18.cell? ⟨Bm, 1, none⟩ = some (.slice lam lm.levels.length lcm) := Km.out.c1
          have qf : ∀ i, w18.frozen? ⟨Bm, i, none⟩ = false := Km.out.fz
          have p0 : w18.cell? ⟨Bp, 0, none⟩ = some (.slice rap lp.reads.length rcp) := Kp.out.c0
          have p1 : w18.cell? ⟨Bp, 1, none⟩ = some (.slice lap lp.levels.length lcp) := Kp.out.c1
          go_upto_region 14 with (fail)
          clear q0 q1 qf p0 p1
          have KNEW := hid (Km.out.put hBwm (fun b h => nin_ne h (by simp)) Kp.out.val)
          have bs := (HB.out.setCell (p := ⟨Bm, 0, none⟩) hBwm (.slice rap lp.reads.length rcp)).setCell (p := ⟨Bm, 1, none⟩) hBwm (.slice lap lp.levels.length lcp)
          replace Kl := hid (Kl.out.other hBwm (by first | assumption | exact Ne.symm (by assumption)) (fun b h => nin_ne h (by simp)) (.slice rap lp.reads.length rcp) (.slice lap lp.levels.length lcp))
          replace Kn := hid (Kn.out.other hBwm (by first | assumption | exact Ne.symm (by assumption)) (fun b h => nin_ne h (by simp)) (.slice rap lp.reads.length rcp) (.slice lap lp.levels.length lcp))
          replace Kp := hid (Kp.out.other hBwm (by first | assumption | exact Ne.symm (by assumption)) (fun b h => nin_ne h (by simp)) (.slice rap lp.reads.length rcp) (.slice lap lp.levels.length lcp))
          replace Kq := hid (Kq.out.other hBwm (by first | assumption | exact Ne.symm (by assumption)) (fun b h => nin_ne h (by simp)) (.slice rap lp.reads.length rcp) (.slice lap lp.levels.length lcp))
          replace HS : Hid (∀ x ∈ ([Bn, Bm] : List Nat), x < ((w18.setCell ⟨Bm, 0, none⟩ (.slice rap lp.reads.length rcp)).setCell ⟨Bm, 1, none⟩ (.slice lap lp.levels.length lcp)).heap.size) := fun x hx => by rw [size_set2]; exact HS.out x hx
          obtain ⟨w19, hw⟩ : ∃ z, (w18.setCell ⟨Bm, 0, none⟩ (.slice rap lp.reads.length rcp)).setCell ⟨Bm, 1, none⟩ (.slice lap lp.levels.length lcp) = z := ⟨_, rfl⟩
          rw [hw] at Kl Kn Kp Kq KNEW HS bs ⊢
          replace HB := hid bs
          clear hw Km bs
          have Km := KNEW
          clear KNEW
          have q0 : w19.cell? ⟨Bn, 0, none⟩ = some (.slice ran ln.reads.length rcn) := Kn.out.c0
          have q1 : w19.cell? ⟨Bn, 1, none⟩ = some (.slice lan ln.levels.length lcn) := Kn.out.c1
          have qf : ∀ i, w19.frozen? ⟨Bn, i, none⟩ = false := Kn.out.fz
          have p0 : w19.cell? ⟨Bq, 0, none⟩ = some (.slice raq lq.reads.length rcq) := Kq.out.c0
          have p1 : w19.cell? ⟨Bq, 1, none⟩ = some (.slice laq lq.levels.length lcq) := Kq.out.c1
          go_upto_region 8 with (fail)
          clear q0 q1 qf p0 p1
          have KNEW := hid (Kn.out.put hBwn (fun b h => nin_ne h (by simp)) Kq.out.val)
          have bs := (HB.out.setCell (p := ⟨Bn, 0, none⟩) hBwn (.slice raq lq.reads.length rcq)).setCell (p := ⟨Bn, 1, none⟩) hBwn (.slice laq lq.levels.length lcq)
          replace Kl := hid (Kl.out.other hBwn (by first | assumption | exact Ne.symm (by assumption)) (fun b h => nin_ne h (by simp)) (.slice raq lq.reads.length rcq) (.slice laq lq.levels.length lcq))
          replace Km := hid (Km.out.other hBwn (by first | assumption | exact Ne.symm (by assumption)) (fun b h => nin_ne h (by simp)) (.slice raq lq.reads.length rcq) (.slice laq lq.levels.length lcq))
          replace Kp := hid (Kp.out.other hBwn (by first | assumption | exact Ne.symm (by assumption)) (fun b h => nin_ne h (by simp)) (.slice raq lq.reads.length rcq) (.slice laq lq.levels.length lcq))
          replace Kq := hid (Kq.out.other hBwn (by first | assumption | exact Ne.symm (by assumption)) (fun b h => nin_ne h (by simp)) (.slice raq lq.reads.length rcq) (.slice laq lq.levels.length lcq))
          replace HS : Hid (∀ x ∈ ([Bn, Bm] : List Nat), x < ((w19.setCell ⟨Bn, 0, none⟩ (.slice raq lq.reads.length rcq)).setCell ⟨Bn, 1, none⟩ (.slice laq lq.levels.length lcq)).heap.size) := fun x hx => by rw [size_set2]; exact HS.out x hx
          obtain ⟨w20, hw⟩ : ∃ z, (w19.setCell ⟨Bn, 0, none⟩ (.slice raq lq.reads.length rcq)).setCell ⟨Bn, 1, none⟩ (.slice laq lq.levels.length lcq) = z := ⟨_, rfl⟩
          rw [hw] at Kl Km Kp Kq KNEW HS bs ⊢
          replace HB := hid bs
          clear hw Kn bs
          have Kn := KNEW
          clear KNEW
          go_wp2_with fail
          go_roundw
          case rel => exact ⟨k + 1, lp, rap, rcp, lap, lcp, lq, raq, rcq, laq, lcq, by omega, by go_num, HLp, HLq, Km, Kn, Kl⟩
          case measure => simp [intOf]; omega
    obtain rfl : k = ns.length := by omega
    rw [List.take_length] at HLm HLn
    clear hlt hk
    have HOR := hid (ord_notes ns (chk_parts HC.out).2.1)
    have HOK := hid (okl_n1 (ys := ns) HF.out hn30)
    obtain ⟨R, hR⟩ : ∃ R, R = ns.foldl noteTo l.reads := ⟨_, rfl⟩
    rw [← hR] at HLm HLn HOR HOK
    clear hR
    have HCR := hid (chk_reads HC.out HOR.out)
    have cn0 : wo.cell? ⟨Bn, 0, none⟩ = some (.slice ran ln.reads.length rcn) := Kn.out.c0
    have cn1 : wo.cell? ⟨Bn, 1, none⟩ = some (.slice lan ln.levels.length lcn) := Kn.out.c1
    have hvr := Kn.out.val
    go_upto_region 16 with (fail)
    have hnelr := Kl.out.lt
    have hnemr := Km.out.lt
    have hnenr := Kn.out.lt
    have Kr : Hid (BG (nin [Bn, Bm]) w (wo.alloc (.cells #[.slice ran ln.reads.length rcn, .slice lan ln.levels.length lcn] 25)) wo.heap.size ran lan rcn lcn ln) := hid ((BG.new (nb := (nin [Bn, Bm])) (l := ln) HB.out hvr).weak (nb' := (nin [Bn, Bm])) (fun b _ h => h.2))
    have bb := (Below.refl wo.heap.size wo).alloc (Nat.le_refl _) (.cells #[.slice ran ln.reads.length rcn, .slice lan ln.levels.length lcn] 25)
    have hBwr := HB.out.size
    obtain ⟨w21, hw⟩ : ∃ z, wo.alloc (.cells #[.slice ran ln.reads.length rcn, .slice lan ln.levels.length lcn] 25) = z := ⟨_, rfl⟩
    rw [hw] at bb ⊢
    rw [hw] at Kr
    obtain ⟨Br, hBr⟩ : ∃ z, wo.heap.size = z := ⟨_, rfl⟩
    rw [hBr] at Kr hBwr ⊢
    rw [hBr] at hnelr
    replace hnelr : w.heap.size ≠ Br := Nat.ne_of_lt hnelr
    rw [hBr] at hnemr
    replace hnemr : Bm ≠ Br := Nat.ne_of_lt hnemr
    rw [hBr] at hnenr
    replace hnenr : Bn ≠ Br := Nat.ne_of_lt hnenr
    replace Kl := hid (Kl.out.more bb)
    replace Km := hid (Km.out.more bb)
    replace Kn := hid (Kn.out.more bb)
    replace HB : Hid (Below w.heap.size w w21) := HB.out.trans (bb.mono HB.out.size)
    replace HS : Hid (∀ x ∈ ([Bn, Bm] : List Nat), x < w21.heap.size) := fun x hx => Nat.lt_of_lt_of_le (HS.out x hx) bb.size
    clear bb hw hvr hBr
    clear cn0 cn1
    go_wp2_with fail
    have HM0 : Hid (lm = ⟨R, l.levels ++ [(ps.take 0).foldl putTo []]⟩) := HLm
    have HN0 : Hid (ln = ⟨R, I ++ [(ps.take 0).foldl putTo bl]⟩) := by show ln = _; rw [HLn.out, HLI.out]; rfl
    go_loopw [19] (fun i wr => ∃ (k : Nat) (lf : Lg) (raf : Option Addr) (rcf : Nat) (laf : Option Addr) (lcf : Nat) (lg : Lg) (rag : Option Addr) (rcg : Nat) (lag : Option Addr) (lcg : Nat), k ≤ ps.length ∧ i = .int .i64 k ∧ Hid (lf = ⟨R, l.levels ++ [(ps.take k).foldl putTo []]⟩) ∧ Hid (lg = ⟨R, I ++ [(ps.take k).foldl putTo bl]⟩) ∧ Hid (BG (nin [Bn, Bm]) w wr Bm raf laf rcf lcf lf) ∧ Hid (BG (nin [Bn, Bm]) w wr Bn rag lag rcg lcg lg) ∧ Hid (BG (nin [Bn, Bm]) w wr w.heap.size ra la rc lc l) ∧ Hid (BG (nin [Bn, Bm]) w wr Br ran lan rcn lcn ln)) (fun i _ => ps.length - (intOf i).toNat)
    case atStart => exact ⟨0, lm, ram, rcm, lam, lcm, ln, ran, rcn, lan, lcn, Nat.zero_le _, rfl, HM0, HN0, Km, Kn, Kl, Kr⟩
    case round =>
      clear Km Kn HB HS HLm HM0 HN0 Kl Kr
      obtain ⟨k, lf, raf, rcf, laf, lcf, lg, rag, rcg, lag, lcg, hk, rfl, HLf, HLg, Kf, Kg, Kl, Kr⟩ := hrel
      obtain ⟨wo, rfl⟩ : ∃ wo : World, wo = wr := ⟨_, rfl⟩
      have HB : Hid (Below w.heap.size w wo) := Kl.out.bel
      have HS : Hid (∀ x ∈ ([Bn, Bm] : List Nat), x < wo.heap.size) := fun x hx => by
        simp at hx
        rcases hx with rfl | rfl
        · exact Kg.out.lt
        · exact Kf.out.lt
      by_cases hlt : k < ps.length
      · -- a round
        have hP := psl_more HPw.out HB.out
        obtain ⟨b2, o2, c2, ⟨xv, xw⟩, hsl, hx, hi1, hi2, e1, e2⟩ := PSl.at hP (Below.refl _ _) (k := k) hlt
        cases hsl
        simp only at hi1 hi2 e1 e2
        clear hP
        have HCP := hid (chk_over HCR.out (ord_puts (ps.take k) (R := []) rfl))
        have HBL := hid ((chk_parts HC.out).2.2 bl (by rw [HLI.out]; simp))
        have HCQ : Hid (chkG ⟨R, I ++ [(ps.take k).foldl putTo bl]⟩ = true) := chk_last (show chkG ⟨R, I ++ [bl]⟩ = true by rw [← HLI.out]; exact HCR.out) (ord_puts _ HBL.out)
        have hbl := HF.out.2.2 bl (by rw [HLI.out]; simp)
        have hl1 := len_puts [] (ps.take k)
        have hl2 := len_puts bl (ps.take k)
        simp only [List.length_nil, List.length_take] at hl1 hl2
        have HO1 := hid (okl_n2 HOK.out (P := (ps.take k).foldl putTo []) (by omega))
        have HO2 := hid (okl_n3 (b := bl) (show Okl ⟨R, I ++ [bl]⟩ 1000 by rw [← HLI.out]; exact HOK.out) (P := (ps.take k).foldl putTo bl) (by omega))
        clear hl1 hl2 hbl HBL
        have HX := hid hx
        clear hx
        obtain ⟨rp, hrp⟩ : ∃ r, r = putG lf xv xw := ⟨_, rfl⟩
        obtain ⟨lp, ep⟩ := rp
        have HRp := hid hrp
        have hkp : putG lf xv xw = ((⟨R, l.levels ++ [(ps.take (k + 1)).foldl putTo []]⟩ : Lg), (erTo xv : Int)) := by rw [HLf.out, fold_more HX.out]; exact putG_to xv xw HCP.out
        have hhp := HRp.out.trans hkp
        obtain rfl : ep = erTo xv := by cases hhp; rfl
        have HLp : Hid (lp = ⟨R, l.levels ++ [(ps.take (k + 1)).foldl putTo []]⟩) := by cases hhp; rfl
        clear hkp hhp HRp
        go_upto_region 19 with (fail)
        go_cut [20, 21] (fun sb se wx => ∃ (Z : Nat) (ra : Option Addr) (rc : Nat) (la : Option Addr) (lc : Nat), sb = .pointer (some ⟨Z, 0, none⟩) ∧ se = .int .i64 (erTo xv) ∧ wo.heap.size ≤ Z ∧ Hid (BG (nin (Z :: [Bn, Bm])) wo wx Z ra la rc lc lp))
        case first =>
          obtain ⟨w5, hw5⟩ : ∃ z, wo.drew = z := ⟨_, rfl⟩
          have bd : Below wo.heap.size wo w5 := by rw [← hw5]; exact (Below.refl _ _).drew
          have BD := hid bd
          have KV := hid (Kf.out.val.more bd)
          have C0 : Hid (w5.cell? ⟨Bm, 0, none⟩ = some (.slice raf lf.reads.length rcf)) := (Kf.out.more bd).c0
          have C1 : Hid (w5.cell? ⟨Bm, 1, none⟩ = some (.slice laf lf.levels.length lcf)) := (Kf.out.more bd).c1
          have HS5 : Hid (∀ x ∈ ([Bn, Bm] : List Nat), x < w5.heap.size) := fun x hx => Nat.lt_of_lt_of_le (HS.out x hx) bd.size
          have LX : Hid (w5.cell? ⟨b2, o2 + k * 2, none⟩ = some (.int .i64 xv)) := later_cell bd e1
          have LY : Hid (w5.cell? ⟨b2, o2 + k * 2 + 1, none⟩ = some (.int .i64 xw)) := later_cell bd e2
          have PC : Hid (∀ (ok : Nat → Prop) (W : World), GVal W ok (.agg #[.slice raf lf.reads.length rcf, .slice laf lf.levels.length lcf]) lf → Calls Try.prog 17 #[.agg #[.slice raf lf.reads.length rcf, .slice laf lf.levels.length lcf], .int .i64 xv, .int .i64 xw] W (fun e w' => ∃ ra rc la lc, e = .returned (.tuple #[.agg #[.slice ra lp.reads.length rc, .slice la lp.levels.length lc], .int .i64 (erTo xv)]) ∧ GVal w' (fun b => ok b ∨ W.heap.size ≤ b) (.agg #[.slice ra lp.reads.length rc, .slice la lp.levels.length lc]) lp ∧ Below W.heap.size W w')) := fun ok W h => by
            have h := putg_any W ok _ _ xv xw h hi1 hi2 (by rw [HLf.out]; exact HO1.out.mono (by decide))
            rw [← hrp] at h; exact h
          clear bd
          refine (wpIn_wide (n := 9)).1 ?_
          refine wpIn_region_held (fun W => Below w5.heap.size w5 W) (by kernel_rfl) ?_
          rw [hw5]
          clear hw5
          refine wpAnyHF_takeD (i := 0) 120 (v := .agg #[.slice raf lf.reads.length rcf, .slice laf lf.levels.length lcf]) rfl rfl rfl (by kernel_rfl) (by kernel_rfl) (by kernel_rfl) (fun _ _ _ h => h) ⟨.inl ⟨rfl, fun W hW => by have m0 := later_cell hW C0.out; have m1 := later_cell hW C1.out; simp [execOp, go_sem, m0, m1]⟩, fun W => rfl⟩ (Below.refl _ _) ?_
          refine wpAnyHF_takeD (i := 1) 121 (v := .slice (some ⟨b2, o2, none⟩) ps.length pc) rfl rfl rfl (by kernel_rfl) (by kernel_rfl) (by kernel_rfl) (fun _ _ _ h => h) ⟨.inl ⟨rfl, fun W hW => by simp [execOp, go_sem]⟩, fun W => rfl⟩ (Below.refl _ _) ?_
          refine wpAnyHF_takeD (i := 2) 122 (v := .int .i64 k) rfl rfl rfl (by kernel_rfl) (by kernel_rfl) (by kernel_rfl) (fun _ _ _ h => h) ⟨.inl ⟨rfl, fun W hW => by simp [execOp, go_sem]⟩, fun W => rfl⟩ (Below.refl _ _) ?_
          simp only [Act.put, List.setIfInBounds_toArray, List.set_cons_zero, List.set_cons_succ]
          refine wpAnyHF_takeD (i := 3) 123 (v := .pointer (some ⟨b2, o2 + k * 2, none⟩)) rfl rfl rfl (by kernel_rfl) (by kernel_rfl) (by kernel_rfl) (fun _ _ _ h => h) ⟨.inl ⟨rfl, fun W hW => by simp [execOp, go_sem, hlt]⟩, fun W => rfl⟩ (Below.refl _ _) ?_
          refine wpAnyHF_takeD (i := 4) 124 (v := .pointer (some ⟨b2, o2 + k * 2, none⟩)) rfl rfl rfl (by kernel_rfl) (by kernel_rfl) (by kernel_rfl) (fun _ _ _ h => h) ⟨.inl ⟨rfl, fun W hW => by simp [execOp, go_sem]⟩, fun W => rfl⟩ (Below.refl _ _) ?_
          refine wpAnyHF_takeD (i := 5) 125 (v := .int .i64 xv) rfl rfl rfl (by kernel_rfl) (by kernel_rfl) (by kernel_rfl) (fun _ _ _ h => h) ⟨.inl ⟨rfl, fun W hW => by have m0 := later_cell hW LX.out; simp [execOp, go_sem, m0]⟩, fun W => rfl⟩ (Below.refl _ _) ?_
          simp only [Act.put, List.setIfInBounds_toArray, List.set_cons_zero, List.set_cons_succ]
          refine wpAnyHF_takeD (i := 6) 126 (v := .slice (some ⟨b2, o2, none⟩) ps.length pc) rfl rfl rfl (by kernel_rfl) (by kernel_rfl) (by kernel_rfl) (fun _ _ _ h => h) ⟨.inl ⟨rfl, fun W hW => by simp [execOp, go_sem]⟩, fun W => rfl⟩ (Below.refl _ _) ?_
          refine wpAnyHF_takeD (i := 7) 127 (v := .int .i64 k) rfl rfl rfl (by kernel_rfl) (by kernel_rfl) (by kernel_rfl) (fun _ _ _ h => h) ⟨.inl ⟨rfl, fun W hW => by simp [execOp, go_sem]⟩, fun W => rfl⟩ (Below.refl _ _) ?_
          refine wpAnyHF_takeD (i := 8) 128 (v := .pointer (some ⟨b2, o2 + k * 2, none⟩)) rfl rfl rfl (by kernel_rfl) (by kernel_rfl) (by kernel_rfl) (fun _ _ _ h => h) ⟨.inl ⟨rfl, fun W hW => by simp [execOp, go_sem, hlt]⟩, fun W => rfl⟩ (Below.refl _ _) ?_
          simp only [Act.put, List.setIfInBounds_toArray, List.set_cons_zero, List.set_cons_succ]
          refine wpAnyHF_takeD (i := 9) 129 (v := .pointer (some ⟨b2, o2 + k * 2 + 1, none⟩)) rfl rfl rfl (by kernel_rfl) (by kernel_rfl) (by kernel_rfl) (fun _ _ _ h => h) ⟨.inl ⟨rfl, fun W hW => by simp [execOp, go_sem]⟩, fun W => rfl⟩ (Below.refl _ _) ?_
          refine wpAnyHF_takeD (i := 10) 130 (v := .int .i64 xw) rfl rfl rfl (by kernel_rfl) (by kernel_rfl) (by kernel_rfl) (fun _ _ _ h => h) ⟨.inl ⟨rfl, fun W hW => by have m0 := later_cell hW LY.out; simp [execOp, go_sem, m0]⟩, fun W => rfl⟩ (Below.refl _ _) ?_
          simp only [Act.put, List.setIfInBounds_toArray, List.set_cons_zero, List.set_cons_succ]
          refine wpAnyHF_two (i := 11) (j := 15) (by kernel_rfl) rfl rfl rfl rfl ?_ ?_
          · refine wpIn_callD 131 rfl (P := Try.prog) (f := 17) (args := #[.agg #[.slice raf lf.reads.length rcf, .slice laf lf.levels.length lcf], .int .i64 xv, .int .i64 xw]) (by simp [execOp, resolve, invoke, go_sem]) ?_
            refine (PC.out (nin [Bn, Bm]) w5 KV.out).mono ?_
            rintro e wy ⟨ra, rc, la, lc, rfl, hv, by1⟩
            refine ⟨_, rfl, by1, ?_⟩
            simp only [Act.put, List.setIfInBounds_toArray, List.set_cons_zero, List.set_cons_succ]
            refine wpAnyHF_takeD (i := 12) 119 (v := .tuple #[.agg #[.slice ra lp.reads.length rc, .slice la lp.levels.length lc], .int .i64 (erTo xv)]) rfl rfl rfl (by kernel_rfl) (by kernel_rfl) (by kernel_rfl) (fun _ _ _ h => h) ⟨.inl ⟨rfl, fun W hW => by simp [execOp, go_sem]⟩, fun W => rfl⟩ by1 ?_
            refine wpAnyHF_takeD (i := 13) 132 (v := .agg #[.slice ra lp.reads.length rc, .slice la lp.levels.length lc]) rfl rfl rfl (by kernel_rfl) (by kernel_rfl) (by kernel_rfl) (fun _ _ _ h => h) ⟨.inl ⟨rfl, fun W hW => by simp [execOp, go_sem]⟩, fun W => rfl⟩ by1 ?_
            refine wpAnyHF_takeD (i := 14) 133 (v := .int .i64 (erTo xv)) rfl rfl rfl (by kernel_rfl) (by kernel_rfl) (by kernel_rfl) (fun _ _ _ h => h) ⟨.inl ⟨rfl, fun W hW => by simp [execOp, go_sem]⟩, fun W => rfl⟩ by1 ?_
            simp only [Act.put, List.setIfInBounds_toArray, List.set_cons_zero, List.set_cons_succ]
            have bz : Below w5.heap.size w5 (wy.alloc (.cells #[.slice none 0 0, .slice none 0 0] 25)) := by1.alloc by1.size _
            refine wpAnyHF_one (i := 15) (by kernel_rfl) rfl rfl ?_
            refine wpIn_valueD 20 rfl (w' := wy.alloc (.cells #[.slice none 0 0, .slice none 0 0] 25)) (v := .pointer (some ⟨wy.heap.size, 0, none⟩)) (by simp [execOp, go_sem]) ⟨bz, ?_⟩
            simp only [Act.put, List.setIfInBounds_toArray, List.set_cons_zero, List.set_cons_succ]
            have hZ : (wy.alloc (.cells #[.slice none 0 0, .slice none 0 0] 25)).heap[wy.heap.size]? = some (.cells #[.slice none 0 0, .slice none 0 0] 25) := World.alloc_heap_new _ _
            have hZ5 : w5.heap.size ≤ wy.heap.size := by1.size
            replace hv := fill_ok1 (o := (.cells #[.slice none 0 0, .slice none 0 0] 25)) HS5.out hv
            clear by1
            obtain ⟨Z, hZe⟩ : ∃ z, wy.heap.size = z := ⟨_, rfl⟩
            obtain ⟨wz, hwz⟩ : ∃ z, wy.alloc (.cells #[.slice none 0 0, .slice none 0 0] 25) = z := ⟨_, rfl⟩
            rw [hwz] at bz hZ hv ⊢
            rw [hZe] at hZ hZ5 hv ⊢
            clear hwz hZe
            have z0 : wz.cell? ⟨Z, 0, none⟩ = some (.slice none 0 0) := cell_of hZ
            have z1 : wz.cell? ⟨Z, 1, none⟩ = some (.slice none 0 0) := cell_of hZ
            have hfz : ∀ i, wz.frozen? ⟨Z, i, none⟩ = false := fun i => free_of hZ
            have bs : Below w5.heap.size w5 ((wz.setCell ⟨Z, 0, none⟩ (.slice ra lp.reads.length rc)).setCell ⟨Z, 1, none⟩ (.slice la lp.levels.length lc)) := (bz.setCell hZ5 _).setCell hZ5 _
            have KF := hid (box_fill (S := [Bn, Bm]) BD.out bz hZ hZ5 hv (fun b _ h => ⟨Nat.ne_of_lt h.1, h.2⟩))
            refine wpAnyHF_one (i := 16) (by kernel_rfl) rfl rfl ?_
            refine wpIn_skip rfl (w' := (wz.setCell ⟨Z, 0, none⟩ (.slice ra lp.reads.length rc)).setCell ⟨Z, 1, none⟩ (.slice la lp.levels.length lc)) (by simp [execOp, go_sem, z0, z1, hfz]) ⟨bs, ?_⟩
            refine wpAnyHF_takeD (i := 17) 21 (v := .int .i64 (erTo xv)) rfl rfl rfl (by kernel_rfl) (by kernel_rfl) (by kernel_rfl) (fun _ _ _ h => h) ⟨.inl ⟨rfl, fun W hW => by simp [execOp, go_sem]⟩, fun W => rfl⟩ bs ?_
            simp only [Act.put, List.setIfInBounds_toArray, List.set_cons_zero, List.set_cons_succ]
            have HZ := hid (Nat.le_trans BD.out.size hZ5)
            refine wpAnyHF_done (by kernel_rfl) ?_ _
            clear z0 z1 hfz bs bz hZ hZ5 hv
            gi_wp2
            go_wp2_with fail
            go_meet
            case rel => exact ⟨_, ra, rc, la, lc, rfl, rfl, HZ.out, KF.out⟩
          · have bx : Below w5.heap.size w5 (w5.alloc (.cells #[.slice none 0 0, .slice none 0 0] 25)) := (Below.refl _ _).alloc (Nat.le_refl _) _
            refine wpIn_valueD 20 rfl (w' := w5.alloc (.cells #[.slice none 0 0, .slice none 0 0] 25)) (v := .pointer (some ⟨w5.heap.size, 0, none⟩)) (by simp [execOp, go_sem]) ⟨bx, ?_⟩
            simp only [Act.put, List.setIfInBounds_toArray, List.set_cons_zero, List.set_cons_succ]
            refine wpAnyHF_one (i := 11) (by kernel_rfl) rfl rfl ?_
            refine wpIn_callD 131 rfl (P := Try.prog) (f := 17) (args := #[.agg #[.slice raf lf.reads.length rcf, .slice laf lf.levels.length lcf], .int .i64 xv, .int .i64 xw]) (by simp [execOp, resolve, invoke, go_sem]) ?_
            refine (PC.out (fun b => b < w5.heap.size ∧ nin [Bn, Bm] b) _ ((KV.out.weak (fun b h1 h2 => ⟨h1, h2⟩)).more bx)).mono ?_
            rintro e wz ⟨ra, rc, la, lc, rfl, hv, by1⟩
            have bz := bx.trans (by1.mono bx.size)
            refine ⟨_, rfl, bz, ?_⟩
            simp only [Act.put, List.setIfInBounds_toArray, List.set_cons_zero, List.set_cons_succ]
            refine wpAnyHF_takeD (i := 12) 119 (v := .tuple #[.agg #[.slice ra lp.reads.length rc, .slice la lp.levels.length lc], .int .i64 (erTo xv)]) rfl rfl rfl (by kernel_rfl) (by kernel_rfl) (by kernel_rfl) (fun _ _ _ h => h) ⟨.inl ⟨rfl, fun W hW => by simp [execOp, go_sem]⟩, fun W => rfl⟩ bz ?_
            refine wpAnyHF_takeD (i := 13) 132 (v := .agg #[.slice ra lp.reads.length rc, .slice la lp.levels.length lc]) rfl rfl rfl (by kernel_rfl) (by kernel_rfl) (by kernel_rfl) (fun _ _ _ h => h) ⟨.inl ⟨rfl, fun W hW => by simp [execOp, go_sem]⟩, fun W => rfl⟩ bz ?_
            refine wpAnyHF_takeD (i := 14) 133 (v := .int .i64 (erTo xv)) rfl rfl rfl (by kernel_rfl) (by kernel_rfl) (by kernel_rfl) (fun _ _ _ h => h) ⟨.inl ⟨rfl, fun W hW => by simp [execOp, go_sem]⟩, fun W => rfl⟩ bz ?_
            simp only [Act.put, List.setIfInBounds_toArray, List.set_cons_zero, List.set_cons_succ]
            have hZ : wz.heap[w5.heap.size]? = some (.cells #[.slice none 0 0, .slice none 0 0] 25) := (by1.block _ (by simp)).trans (World.alloc_heap_new _ _)
            have hZ5 : w5.heap.size ≤ w5.heap.size := Nat.le_refl _
            clear by1 bx
            have z0 : wz.cell? ⟨w5.heap.size, 0, none⟩ = some (.slice none 0 0) := cell_of hZ
            have z1 : wz.cell? ⟨w5.heap.size, 1, none⟩ = some (.slice none 0 0) := cell_of hZ
            have hfz : ∀ i, wz.frozen? ⟨w5.heap.size, i, none⟩ = false := fun i => free_of hZ
            have bs : Below w5.heap.size w5 ((wz.setCell ⟨w5.heap.size, 0, none⟩ (.slice ra lp.reads.length rc)).setCell ⟨w5.heap.size, 1, none⟩ (.slice la lp.levels.length lc)) := (bz.setCell hZ5 _).setCell hZ5 _
            have KF := hid (box_fill (S := [Bn, Bm]) BD.out bz hZ hZ5 hv (fun b _ h => fill_ok2 (ok := fun b => b < w5.heap.size ∧ nin [Bn, Bm] b) (n := (w5.alloc (.cells #[.slice none 0 0, .slice none 0 0] 25)).heap.size) HS5.out (by simp) (fun h => h) h))
            refine wpAnyHF_one (i := 16) (by kernel_rfl) rfl rfl ?_
            refine wpIn_skip rfl (w' := (wz.setCell ⟨w5.heap.size, 0, none⟩ (.slice ra lp.reads.length rc)).setCell ⟨w5.heap.size, 1, none⟩ (.slice la lp.levels.length lc)) (by simp [execOp, go_sem, z0, z1, hfz]) ⟨bs, ?_⟩
            refine wpAnyHF_takeD (i := 17) 21 (v := .int .i64 (erTo xv)) rfl rfl rfl (by kernel_rfl) (by kernel_rfl) (by kernel_rfl) (fun _ _ _ h => h) ⟨.inl ⟨rfl, fun W hW => by simp [execOp, go_sem]⟩, fun W => rfl⟩ bs ?_
            simp only [Act.put, List.setIfInBounds_toArray, List.set_cons_zero, List.set_cons_succ]
            have HZ := hid (Nat.le_trans BD.out.size hZ5)
            refine wpAnyHF_done (by kernel_rfl) ?_ _
            clear z0 z1 hfz bs bz hZ hZ5 hv
            gi_wp2
            go_wp2_with fail
            go_meet
            case rel => exact ⟨_, ra, rc, la, lc, rfl, rfl, HZ.out, KF.out⟩
        case rest =>
          obtain ⟨Bp, rap, rcp, lap, lcp, rfl, rfl, hZ, KB⟩ := hcut
          obtain ⟨w22, hw6⟩ : ∃ z, z = wc := ⟨_, rfl⟩
          subst hw6
          have hBwp : w.heap.size ≤ Bp := Nat.le_trans HB.out.size hZ
          have hnelp : w.heap.size ≠ Bp := Nat.ne_of_lt (Nat.lt_of_lt_of_le Kl.out.lt hZ)
          have hnefp : Bm ≠ Bp := Nat.ne_of_lt (Nat.lt_of_lt_of_le Kf.out.lt hZ)
          have hnegp : Bn ≠ Bp := Nat.ne_of_lt (Nat.lt_of_lt_of_le Kg.out.lt hZ)
          have hnerp : Br ≠ Bp := Nat.ne_of_lt (Nat.lt_of_lt_of_le Kr.out.lt hZ)
          have b := KB.out.bel
          replace Kl := hid (Kl.out.more b)
          replace Kf := hid (Kf.out.more b)
          replace Kg := hid (Kg.out.more b)
          replace Kr := hid (Kr.out.more b)
          have Kp := hid ((KB.out.back HB.out).weak (nb' := nin [Bn, Bm]) (fun _ _ h => nin_tail h))
          replace HS : Hid (∀ x ∈ ([Bn, Bm] : List Nat), x < w22.heap.size) := fun x hx => Nat.lt_of_lt_of_le (HS.out x hx) b.size
          replace HB : Hid (Below w.heap.size w w22) := HB.out.trans (b.mono HB.out.size)
          replace e1 := later_cell b e1
          replace e2 := later_cell b e2
          clear KB b hZ hrp
          obtain ⟨rq, hrq⟩ : ∃ r, r = putG lg xv xw := ⟨_, rfl⟩
          obtain ⟨lq, eq⟩ := rq
          have HRq := hid hrq
          have hkq : putG lg xv xw = ((⟨R, I ++ [(ps.take (k + 1)).foldl putTo bl]⟩ : Lg), (erTo xv : Int)) := by rw [HLg.out, fold_more HX.out]; exact putG_to xv xw HCQ.out
          have hhq := HRq.out.trans hkq
          obtain rfl : eq = erTo xv := by cases hhq; rfl
          have HLq : Hid (lq = ⟨R, I ++ [(ps.take (k + 1)).foldl putTo bl]⟩) := by cases hhq; rfl
          clear hkq hhq HRq
          go_upto_region 20 with (fail)
          go_cut [22, 23] (fun sb se wx => ∃ (Z : Nat) (ra : Option Addr) (rc : Nat) (la : Option Addr) (lc : Nat), sb = .pointer (some ⟨Z, 0, none⟩) ∧ se = .int .i64 (erTo xv) ∧ w22.heap.size ≤ Z ∧ Hid (BG (nin (Z :: [Bn, Bm])) w22 wx Z ra la rc lc lq))
          case first =>
            obtain ⟨w5, hw5⟩ : ∃ z, w22.drew = z := ⟨_, rfl⟩
            have bd : Below w22.heap.size w22 w5 := by rw [← hw5]; exact (Below.refl _ _).drew
            have BD := hid bd
            have KV := hid (Kg.out.val.more bd)
            have C0 : Hid (w5.cell? ⟨Bn, 0, none⟩ = some (.slice rag lg.reads.length rcg)) := (Kg.out.more bd).c0
            have C1 : Hid (w5.cell? ⟨Bn, 1, none⟩ = some (.slice lag lg.levels.length lcg)) := (Kg.out.more bd).c1
            have HS5 : Hid (∀ x ∈ ([Bn, Bm] : List Nat), x < w5.heap.size) := fun x hx => Nat.lt_of_lt_of_le (HS.out x hx) bd.size
            have LX : Hid (w5.cell? ⟨b2, o2 + k * 2, none⟩ = some (.int .i64 xv)) := later_cell bd e1
            have LY : Hid (w5.cell? ⟨b2, o2 + k * 2 + 1, none⟩ = some (.int .i64 xw)) := later_cell bd e2
            have PC : Hid (∀ (ok : Nat → Prop) (W : World), GVal W ok (.agg #[.slice rag lg.reads.length rcg, .slice lag lg.levels.length lcg]) lg → Calls Try.prog 17 #[.agg #[.slice rag lg.reads.length rcg, .slice lag lg.levels.length lcg], .int .i64 xv, .int .i64 xw] W (fun e w' => ∃ ra rc la lc, e = .returned (.tuple #[.agg #[.slice ra lq.reads.length rc, .slice la lq.levels.length lc], .int .i64 (erTo xv)]) ∧ GVal w' (fun b => ok b ∨ W.heap.size ≤ b) (.agg #[.slice ra lq.reads.length rc, .slice la lq.levels.length lc]) lq ∧ Below W.heap.size W w')) := fun ok W h => by
              have h := putg_any W ok _ _ xv xw h hi1 hi2 (by rw [HLg.out]; exact HO2.out.mono (by decide))
              rw [← hrq] at h; exact h
            clear bd
            refine (wpIn_wide (n := 9)).1 ?_
            refine wpIn_region_held (fun W => Below w5.heap.size w5 W) (by kernel_rfl) ?_
            rw [hw5]
            clear hw5
            refine wpAnyHF_takeD (i := 0) 135 (v := .agg #[.slice rag lg.reads.length rcg, .slice lag lg.levels.length lcg]) rfl rfl rfl (by kernel_rfl) (by kernel_rfl) (by kernel_rfl) (fun _ _ _ h => h) ⟨.inl ⟨rfl, fun W hW => by have m0 := later_cell hW C0.out; have m1 := later_cell hW C1.out; simp [execOp, go_sem, m0, m1]⟩, fun W => rfl⟩ (Below.refl _ _) ?_
            refine wpAnyHF_takeD (i := 1) 136 (v := .slice (some ⟨b2, o2, none⟩) ps.length pc) rfl rfl rfl (by kernel_rfl) (by kernel_rfl) (by kernel_rfl) (fun _ _ _ h => h) ⟨.inl ⟨rfl, fun W hW => by simp [execOp, go_sem]⟩, fun W => rfl⟩ (Below.refl _ _) ?_
            refine wpAnyHF_takeD (i := 2) 137 (v := .int .i64 k) rfl rfl rfl (by kernel_rfl) (by kernel_rfl) (by kernel_rfl) (fun _ _ _ h => h) ⟨.inl ⟨rfl, fun W hW => by simp [execOp, go_sem]⟩, fun W => rfl⟩ (Below.refl _ _) ?_
            simp only [Act.put, List.setIfInBounds_toArray, List.set_cons_zero, List.set_cons_succ]
            refine wpAnyHF_takeD (i := 3) 138 (v := .pointer (some ⟨b2, o2 + k * 2, none⟩)) rfl rfl rfl (by kernel_rfl) (by kernel_rfl) (by kernel_rfl) (fun _ _ _ h => h) ⟨.inl ⟨rfl, fun W hW => by simp [execOp, go_sem, hlt]⟩, fun W => rfl⟩ (Below.refl _ _) ?_
            refine wpAnyHF_takeD (i := 4) 139 (v := .pointer (some ⟨b2, o2 + k * 2, none⟩)) rfl rfl rfl (by kernel_rfl) (by kernel_rfl) (by kernel_rfl) (fun _ _ _ h => h) ⟨.inl ⟨rfl, fun W hW => by simp [execOp, go_sem]⟩, fun W => rfl⟩ (Below.refl _ _) ?_
            refine wpAnyHF_takeD (i := 5) 140 (v := .int .i64 xv) rfl rfl rfl (by kernel_rfl) (by kernel_rfl) (by kernel_rfl) (fun _ _ _ h => h) ⟨.inl ⟨rfl, fun W hW => by have m0 := later_cell hW LX.out; simp [execOp, go_sem, m0]⟩, fun W => rfl⟩ (Below.refl _ _) ?_
            simp only [Act.put, List.setIfInBounds_toArray, List.set_cons_zero, List.set_cons_succ]
            refine wpAnyHF_takeD (i := 6) 141 (v := .slice (some ⟨b2, o2, none⟩) ps.length pc) rfl rfl rfl (by kernel_rfl) (by kernel_rfl) (by kernel_rfl) (fun _ _ _ h => h) ⟨.inl ⟨rfl, fun W hW => by simp [execOp, go_sem]⟩, fun W => rfl⟩ (Below.refl _ _) ?_
            refine wpAnyHF_takeD (i := 7) 142 (v := .int .i64 k) rfl rfl rfl (by kernel_rfl) (by kernel_rfl) (by kernel_rfl) (fun _ _ _ h => h) ⟨.inl ⟨rfl, fun W hW => by simp [execOp, go_sem]⟩, fun W => rfl⟩ (Below.refl _ _) ?_
            refine wpAnyHF_takeD (i := 8) 143 (v := .pointer (some ⟨b2, o2 + k * 2, none⟩)) rfl rfl rfl (by kernel_rfl) (by kernel_rfl) (by kernel_rfl) (fun _ _ _ h => h) ⟨.inl ⟨rfl, fun W hW => by simp [execOp, go_sem, hlt]⟩, fun W => rfl⟩ (Below.refl _ _) ?_
            simp only [Act.put, List.setIfInBounds_toArray, List.set_cons_zero, List.set_cons_succ]
            refine wpAnyHF_takeD (i := 9) 144 (v := .pointer (some ⟨b2, o2 + k * 2 + 1, none⟩)) rfl rfl rfl (by kernel_rfl) (by kernel_rfl) (by kernel_rfl) (fun _ _ _ h => h) ⟨.inl ⟨rfl, fun W hW => by simp [execOp, go_sem]⟩, fun W => rfl⟩ (Below.refl _ _) ?_
            refine wpAnyHF_takeD (i := 10) 145 (v := .int .i64 xw) rfl rfl rfl (by kernel_rfl) (by kernel_rfl) (by kernel_rfl) (fun _ _ _ h => h) ⟨.inl ⟨rfl, fun W hW => by have m0 := later_cell hW LY.out; simp [execOp, go_sem, m0]⟩, fun W => rfl⟩ (Below.refl _ _) ?_
            simp only [Act.put, List.setIfInBounds_toArray, List.set_cons_zero, List.set_cons_succ]
            refine wpAnyHF_two (i := 11) (j := 15) (by kernel_rfl) rfl rfl rfl rfl ?_ ?_
            · refine wpIn_callD 146 rfl (P := Try.prog) (f := 17) (args := #[.agg #[.slice rag lg.reads.length rcg, .slice lag lg.levels.length lcg], .int .i64 xv, .int .i64 xw]) (by simp [execOp, resolve, invoke, go_sem]) ?_
              refine (PC.out (nin [Bn, Bm]) w5 KV.out).mono ?_
              rintro e wy ⟨ra, rc, la, lc, rfl, hv, by1⟩
              refine ⟨_, rfl, by1, ?_⟩
              simp only [Act.put, List.setIfInBounds_toArray, List.set_cons_zero, List.set_cons_succ]
              refine wpAnyHF_takeD (i := 12) 134 (v := .tuple #[.agg #[.slice ra lq.reads.length rc, .slice la lq.levels.length lc], .int .i64 (erTo xv)]) rfl rfl rfl (by kernel_rfl) (by kernel_rfl) (by kernel_rfl) (fun _ _ _ h => h) ⟨.inl ⟨rfl, fun W hW => by simp [execOp, go_sem]⟩, fun W => rfl⟩ by1 ?_
              refine wpAnyHF_takeD (i := 13) 147 (v := .agg #[.slice ra lq.reads.length rc, .slice la lq.levels.length lc]) rfl rfl rfl (by kernel_rfl) (by kernel_rfl) (by kernel_rfl) (fun _ _ _ h => h) ⟨.inl ⟨rfl, fun W hW => by simp [execOp, go_sem]⟩, fun W => rfl⟩ by1 ?_
              refine wpAnyHF_takeD (i := 14) 148 (v := .int .i64 (erTo xv)) rfl rfl rfl (by kernel_rfl) (by kernel_rfl) (by kernel_rfl) (fun _ _ _ h => h) ⟨.inl ⟨rfl, fun W hW => by simp [execOp, go_sem]⟩, fun W => rfl⟩ by1 ?_
              simp only [Act.put, List.setIfInBounds_toArray, List.set_cons_zero, List.set_cons_succ]
              have bz : Below w5.heap.size w5 (wy.alloc (.cells #[.slice none 0 0, .slice none 0 0] 25)) := by1.alloc by1.size _
              refine wpAnyHF_one (i := 15) (by kernel_rfl) rfl rfl ?_
              refine wpIn_valueD 22 rfl (w' := wy.alloc (.cells #[.slice none 0 0, .slice none 0 0] 25)) (v := .pointer (some ⟨wy.heap.size, 0, none⟩)) (by simp [execOp, go_sem]) ⟨bz, ?_⟩
              simp only [Act.put, List.setIfInBounds_toArray, List.set_cons_zero, List.set_cons_succ]
              have hZ : (wy.alloc (.cells #[.slice none 0 0, .slice none 0 0] 25)).heap[wy.heap.size]? = some (.cells #[.slice none 0 0, .slice none 0 0] 25) := World.alloc_heap_new _ _
              have hZ5 : w5.heap.size ≤ wy.heap.size := by1.size
              replace hv := fill_ok1 (o := (.cells #[.slice none 0 0, .slice none 0 0] 25)) HS5.out hv
              clear by1
              obtain ⟨Z, hZe⟩ : ∃ z, wy.heap.size = z := ⟨_, rfl⟩
              obtain ⟨wz, hwz⟩ : ∃ z, wy.alloc (.cells #[.slice none 0 0, .slice none 0 0] 25) = z := ⟨_, rfl⟩
              rw [hwz] at bz hZ hv ⊢
              rw [hZe] at hZ hZ5 hv ⊢
              clear hwz hZe
              have z0 : wz.cell? ⟨Z, 0, none⟩ = some (.slice none 0 0) := cell_of hZ
              have z1 : wz.cell? ⟨Z, 1, none⟩ = some (.slice none 0 0) := cell_of hZ
              have hfz : ∀ i, wz.frozen? ⟨Z, i, none⟩ = false := fun i => free_of hZ
              have bs : Below w5.heap.size w5 ((wz.setCell ⟨Z, 0, none⟩ (.slice ra lq.reads.length rc)).setCell ⟨Z, 1, none⟩ (.slice la lq.levels.length lc)) := (bz.setCell hZ5 _).setCell hZ5 _
              have KF := hid (box_fill (S := [Bn, Bm]) BD.out bz hZ hZ5 hv (fun b _ h => ⟨Nat.ne_of_lt h.1, h.2⟩))
              refine wpAnyHF_one (i := 16) (by kernel_rfl) rfl rfl ?_
              refine wpIn_skip rfl (w' := (wz.setCell ⟨Z, 0, none⟩ (.slice ra lq.reads.length rc)).setCell ⟨Z, 1, none⟩ (.slice la lq.levels.length lc)) (by simp [execOp, go_sem, z0, z1, hfz]) ⟨bs, ?_⟩
              refine wpAnyHF_takeD (i := 17) 23 (v := .int .i64 (erTo xv)) rfl rfl rfl (by kernel_rfl) (by kernel_rfl) (by kernel_rfl) (fun _ _ _ h => h) ⟨.inl ⟨rfl, fun W hW => by simp [execOp, go_sem]⟩, fun W => rfl⟩ bs ?_
              simp only [Act.put, List.setIfInBounds_toArray, List.set_cons_zero, List.set_cons_succ]
              have HZ := hid (Nat.le_trans BD.out.size hZ5)
              refine wpAnyHF_done (by kernel_rfl) ?_ _
              clear z0 z1 hfz bs bz hZ hZ5 hv
              gi_wp2
              go_wp2_with fail
              go_meet
              case rel => exact ⟨_, ra, rc, la, lc, rfl, rfl, HZ.out, KF.out⟩
            · have bx : Below w5.heap.size w5 (w5.alloc (.cells #[.slice none 0 0, .slice none 0 0] 25)) := (Below.refl _ _).alloc (Nat.le_refl _) _
              refine wpIn_valueD 22 rfl (w' := w5.alloc (.cells #[.slice none 0 0, .slice none 0 0] 25)) (v := .pointer (some ⟨w5.heap.size, 0, none⟩)) (by simp [execOp, go_sem]) ⟨bx, ?_⟩
              simp only [Act.put, List.setIfInBounds_toArray, List.set_cons_zero, List.set_cons_succ]
              refine wpAnyHF_one (i := 11) (by kernel_rfl) rfl rfl ?_
              refine wpIn_callD 146 rfl (P := Try.prog) (f := 17) (args := #[.agg #[.slice rag lg.reads.length rcg, .slice lag lg.levels.length lcg], .int .i64 xv, .int .i64 xw]) (by simp [execOp, resolve, invoke, go_sem]) ?_
              refine (PC.out (fun b => b < w5.heap.size ∧ nin [Bn, Bm] b) _ ((KV.out.weak (fun b h1 h2 => ⟨h1, h2⟩)).more bx)).mono ?_
              rintro e wz ⟨ra, rc, la, lc, rfl, hv, by1⟩
              have bz := bx.trans (by1.mono bx.size)
              refine ⟨_, rfl, bz, ?_⟩
              simp only [Act.put, List.setIfInBounds_toArray, List.set_cons_zero, List.set_cons_succ]
              refine wpAnyHF_takeD (i := 12) 134 (v := .tuple #[.agg #[.slice ra lq.reads.length rc, .slice la lq.levels.length lc], .int .i64 (erTo xv)]) rfl rfl rfl (by kernel_rfl) (by kernel_rfl) (by kernel_rfl) (fun _ _ _ h => h) ⟨.inl ⟨rfl, fun W hW => by simp [execOp, go_sem]⟩, fun W => rfl⟩ bz ?_
              refine wpAnyHF_takeD (i := 13) 147 (v := .agg #[.slice ra lq.reads.length rc, .slice la lq.levels.length lc]) rfl rfl rfl (by kernel_rfl) (by kernel_rfl) (by kernel_rfl) (fun _ _ _ h => h) ⟨.inl ⟨rfl, fun W hW => by simp [execOp, go_sem]⟩, fun W => rfl⟩ bz ?_
              refine wpAnyHF_takeD (i := 14) 148 (v := .int .i64 (erTo xv)) rfl rfl rfl (by kernel_rfl) (by kernel_rfl) (by kernel_rfl) (fun _ _ _ h => h) ⟨.inl ⟨rfl, fun W hW => by simp [execOp, go_sem]⟩, fun W => rfl⟩ bz ?_
              simp only [Act.put, List.setIfInBounds_toArray, List.set_cons_zero, List.set_cons_succ]
              have hZ : wz.heap[w5.heap.size]? = some (.cells #[.slice none 0 0, .slice none 0 0] 25) := (by1.block _ (by simp)).trans (World.alloc_heap_new _ _)
              have hZ5 : w5.heap.size ≤ w5.heap.size := Nat.le_refl _
              clear by1 bx
              have z0 : wz.cell? ⟨w5.heap.size, 0, none⟩ = some (.slice none 0 0) := cell_of hZ
              have z1 : wz.cell? ⟨w5.heap.size, 1, none⟩ = some (.slice none 0 0) := cell_of hZ
              have hfz : ∀ i, wz.frozen? ⟨w5.heap.size, i, none⟩ = false := fun i => free_of hZ
              have bs : Below w5.heap.size w5 ((wz.setCell ⟨w5.heap.size, 0, none⟩ (.slice ra lq.reads.length rc)).setCell ⟨w5.heap.size, 1, none⟩ (.slice la lq.levels.length lc)) := (bz.setCell hZ5 _).setCell hZ5 _
              have KF := hid (box_fill (S := [Bn, Bm]) BD.out bz hZ hZ5 hv (fun b _ h => fill_ok2 (ok := fun b => b < w5.heap.size ∧ nin [Bn, Bm] b) (n := (w5.alloc (.cells #[.slice none 0 0, .slice none 0 0] 25)).heap.size) HS5.out (by simp) (fun h => h) h))
              refine wpAnyHF_one (i := 16) (by kernel_rfl) rfl rfl ?_
              refine wpIn_skip rfl (w' := (wz.setCell ⟨w5.heap.size, 0, none⟩ (.slice ra lq.reads.length rc)).setCell ⟨w5.heap.size, 1, none⟩ (.slice la lq.levels.length lc)) (by simp [execOp, go_sem, z0, z1, hfz]) ⟨bs, ?_⟩
              refine wpAnyHF_takeD (i := 17) 23 (v := .int .i64 (erTo xv)) rfl rfl rfl (by kernel_rfl) (by kernel_rfl) (by kernel_rfl) (fun _ _ _ h => h) ⟨.inl ⟨rfl, fun W hW => by simp [execOp, go_sem]⟩, fun W => rfl⟩ bs ?_
              simp only [Act.put, List.setIfInBounds_toArray, List.set_cons_zero, List.set_cons_succ]
              have HZ := hid (Nat.le_trans BD.out.size hZ5)
              refine wpAnyHF_done (by kernel_rfl) ?_ _
              clear z0 z1 hfz bs bz hZ hZ5 hv
              gi_wp2
              go_wp2_with fail
              go_meet
              case rel => exact ⟨_, ra, rc, la, lc, rfl, rfl, HZ.out, KF.out⟩
          case rest =>
            obtain ⟨Bq, raq, rcq, laq, lcq, rfl, rfl, hZ, KB⟩ := hcut
            obtain ⟨w23, hw6⟩ : ∃ z, z = wc := ⟨_, rfl⟩
            subst hw6
            have hBwq : w.heap.size ≤ Bq := Nat.le_trans HB.out.size hZ
            have hnelq : w.heap.size ≠ Bq := Nat.ne_of_lt (Nat.lt_of_lt_of_le Kl.out.lt hZ)
            have hnefq : Bm ≠ Bq := Nat.ne_of_lt (Nat.lt_of_lt_of_le Kf.out.lt hZ)
            have hnegq : Bn ≠ Bq := Nat.ne_of_lt (Nat.lt_of_lt_of_le Kg.out.lt hZ)
            have hnerq : Br ≠ Bq := Nat.ne_of_lt (Nat.lt_of_lt_of_le Kr.out.lt hZ)
            have hnepq : Bp ≠ Bq := Nat.ne_of_lt (Nat.lt_of_lt_of_le Kp.out.lt hZ)
            have b := KB.out.bel
            replace Kl := hid (Kl.out.more b)
            replace Kf := hid (Kf.out.more b)
            replace Kg := hid (Kg.out.more b)
            replace Kr := hid (Kr.out.more b)
            replace Kp := hid (Kp.out.more b)
            have Kq := hid ((KB.out.back HB.out).weak (nb' := nin [Bn, Bm]) (fun _ _ h => nin_tail h))
            replace HS : Hid (∀ x ∈ ([Bn, Bm] : List Nat), x < w23.heap.size) := fun x hx => Nat.lt_of_lt_of_le (HS.out x hx) b.size
            replace HB : Hid (Below w.heap.size w w23) := HB.out.trans (b.mono HB.out.size)
            replace e1 := later_cell b e1
            replace e2 := later_cell b e2
            clear KB b hZ hrq
            clear e1 e2
            have q0 : w23.cell? ⟨Bm, 0, none⟩ = some (.slice raf lf.reads.length rcf) := Kf.out.c0
            have q1 : w23.cell? ⟨Bm, 1, none⟩ = some (.slice laf lf.levels.length lcf) := Kf.out.c1
            have qf : ∀ i, w23.frozen? ⟨Bm, i, none⟩ = false := Kf.out.fz
            have p0 : w23.cell? ⟨Bp, 0, none⟩ = some (.slice rap lp.reads.length rcp) := Kp.out.c0
            have p1 : w23.cell? ⟨Bp, 1, none⟩ = some (.slice lap lp.levels.length lcp) := Kp.out.c1
            go_upto_region 24 with (fail)
            clear q0 q1 qf p0 p1
            have KNEW := hid (Kf.out.put hBwm (fun b h => nin_ne h (by simp)) Kp.out.val)
            have bs := (HB.out.setCell (p := ⟨Bm, 0, none⟩) hBwm (.slice rap lp.reads.length rcp)).setCell (p := ⟨Bm, 1, none⟩) hBwm (.slice lap lp.levels.length lcp)
            replace Kl := hid (Kl.out.other hBwm (by first | assumption | exact Ne.symm (by assumption)) (fun b h => nin_ne h (by simp)) (.slice rap lp.reads.length rcp) (.slice lap lp.levels.length lcp))
            replace Kg := hid (Kg.out.other hBwm (by first | assumption | exact Ne.symm (by assumption)) (fun b h => nin_ne h (by simp)) (.slice rap lp.reads.length rcp) (.slice lap lp.levels.length lcp))
            replace Kr := hid (Kr.out.other hBwm (by first | assumption | exact Ne.symm (by assumption)) (fun b h => nin_ne h (by simp)) (.slice rap lp.reads.length rcp) (.slice lap lp.levels.length lcp))
            replace Kp := hid (Kp.out.other hBwm (by first | assumption | exact Ne.symm (by assumption)) (fun b h => nin_ne h (by simp)) (.slice rap lp.reads.length rcp) (.slice lap lp.levels.length lcp))
            replace Kq := hid (Kq.out.other hBwm (by first | assumption | exact Ne.symm (by assumption)) (fun b h => nin_ne h (by simp)) (.slice rap lp.reads.length rcp) (.slice lap lp.levels.length lcp))
            replace HS : Hid (∀ x ∈ ([Bn, Bm] : List Nat), x < ((w23.setCell ⟨Bm, 0, none⟩ (.slice rap lp.reads.length rcp)).setCell ⟨Bm, 1, none⟩ (.slice lap lp.levels.length lcp)).heap.size) := fun x hx => by rw [size_set2]; exact HS.out x hx
            obtain ⟨w24, hw⟩ : ∃ z, (w23.setCell ⟨Bm, 0, none⟩ (.slice rap lp.reads.length rcp)).setCell ⟨Bm, 1, none⟩ (.slice lap lp.levels.length lcp) = z := ⟨_, rfl⟩
            rw [hw] at Kl Kg Kr Kp Kq KNEW HS bs ⊢
            replace HB := hid bs
            clear hw Kf bs
            have Kf := KNEW
            clear KNEW
            have q0 : w24.cell? ⟨Bn, 0, none⟩ = some (.slice rag lg.reads.length rcg) := Kg.out.c0
            have q1 : w24.cell? ⟨Bn, 1, none⟩ = some (.slice lag lg.levels.length lcg) := Kg.out.c1
            have qf : ∀ i, w24.frozen? ⟨Bn, i, none⟩ = false := Kg.out.fz
            have p0 : w24.cell? ⟨Bq, 0, none⟩ = some (.slice raq lq.reads.length rcq) := Kq.out.c0
            have p1 : w24.cell? ⟨Bq, 1, none⟩ = some (.slice laq lq.levels.length lcq) := Kq.out.c1
            go_upto_region 18 with (fail)
            clear q0 q1 qf p0 p1
            have KNEW := hid (Kg.out.put hBwn (fun b h => nin_ne h (by simp)) Kq.out.val)
            have bs := (HB.out.setCell (p := ⟨Bn, 0, none⟩) hBwn (.slice raq lq.reads.length rcq)).setCell (p := ⟨Bn, 1, none⟩) hBwn (.slice laq lq.levels.length lcq)
            replace Kl := hid (Kl.out.other hBwn (by first | assumption | exact Ne.symm (by assumption)) (fun b h => nin_ne h (by simp)) (.slice raq lq.reads.length rcq) (.slice laq lq.levels.length lcq))
            replace Kf := hid (Kf.out.other hBwn (by first | assumption | exact Ne.symm (by assumption)) (fun b h => nin_ne h (by simp)) (.slice raq lq.reads.length rcq) (.slice laq lq.levels.length lcq))
            replace Kr := hid (Kr.out.other hBwn (by first | assumption | exact Ne.symm (by assumption)) (fun b h => nin_ne h (by simp)) (.slice raq lq.reads.length rcq) (.slice laq lq.levels.length lcq))
            replace Kp := hid (Kp.out.other hBwn (by first | assumption | exact Ne.symm (by assumption)) (fun b h => nin_ne h (by simp)) (.slice raq lq.reads.length rcq) (.slice laq lq.levels.length lcq))
            replace Kq := hid (Kq.out.other hBwn (by first | assumption | exact Ne.symm (by assumption)) (fun b h => nin_ne h (by simp)) (.slice raq lq.reads.length rcq) (.slice laq lq.levels.length lcq))
            replace HS : Hid (∀ x ∈ ([Bn, Bm] : List Nat), x < ((w24.setCell ⟨Bn, 0, none⟩ (.slice raq lq.reads.length rcq)).setCell ⟨Bn, 1, none⟩ (.slice laq lq.levels.length lcq)).heap.size) := fun x hx => by rw [size_set2]; exact HS.out x hx
            obtain ⟨w25, hw⟩ : ∃ z, (w24.setCell ⟨Bn, 0, none⟩ (.slice raq lq.reads.length rcq)).setCell ⟨Bn, 1, none⟩ (.slice laq lq.levels.length lcq) = z := ⟨_, rfl⟩
            rw [hw] at Kl Kf Kr Kp Kq KNEW HS bs ⊢
            replace HB := hid bs
            clear hw Kg bs
            have Kg := KNEW
            clear KNEW
            go_wp2_with fail
            go_roundw
            case rel => exact ⟨k + 1, lp, rap, rcp, lap, lcp, lq, raq, rcq, laq, lcq, by omega, by go_num, HLp, HLq, Kf, Kg, Kl, Kr⟩
            case measure => simp [intOf]; omega
      obtain rfl : k = ps.length := by omega
      rw [List.take_length] at HLf HLg
      clear hlt hk
      have hOV := over_fold bl ps
      have hl1 := len_puts [] ps
      have hl2 := len_puts bl ps
      have hoP : ordB (ps.foldl putTo []) = true := ord_puts ps rfl
      have hbl := HF.out.2.2 bl (by rw [HLI.out]; simp)
      have hobl := (chk_parts HC.out).2.2 bl (by rw [HLI.out]; simp)
      have hoQ : ordB (ps.foldl putTo bl) = true := ord_puts ps hobl
      obtain ⟨P, hP⟩ : ∃ P, P = ps.foldl putTo [] := ⟨_, rfl⟩
      obtain ⟨Q, hQ⟩ : ∃ Q, Q = ps.foldl putTo bl := ⟨_, rfl⟩
      rw [← hP] at HLf hOV hl1 hoP
      rw [← hQ] at HLg hOV hl2 hoQ
      simp only [List.length_nil] at hl1
      clear hP hQ
      have hcl : chkG ⟨R, I ++ [bl]⟩ = true := by rw [← HLI.out]; exact HCR.out
      have hokb : Okl ⟨R, I ++ [bl]⟩ 1000 := by rw [← HLI.out]; exact HOK.out
      have hcm : chkG ⟨R, I ++ [bl] ++ [P]⟩ = true := chk_over hcl hoP
      have hcy : chkG ⟨R, I ++ [P.foldl putL bl]⟩ = true := chk_last hcl (ord_merged hobl hoP)
      have hcn : chkG ⟨R, I ++ [Q]⟩ = true := chk_last hcl hoQ
      have hlm := foldl_put_length P bl
      have HD := hid (And.intro hOV (And.intro hoP (And.intro hcm (And.intro hcy hcn))))
      have HKf := hid (okl_n2 hokb (P := P) (by omega))
      have HKy := hid (okl_n3 hokb (P := P.foldl putL bl) (by omega))
      have HKg := hid (okl_n3 hokb (P := Q) (by omega))
      rw [HLI.out] at HLf
      clear hOV hl1 hl2 hoP hbl hobl hoQ hcl hokb hcm hcy hcn hlm
      obtain ⟨rx, hrx⟩ : ∃ r, r = dropG lf := ⟨_, rfl⟩
      obtain ⟨lx, ex⟩ := rx
      have HRx := hid hrx
      have hkx : dropG lf = ((ln : Lg), (0 : Int)) := by rw [HLf.out, HLn.out, HLI.out]; exact dropG_snoc HD.out.2.2.1 (by simp)
      have hhx := HRx.out.trans hkx
      obtain rfl : ex = 0 := by cases hhx; rfl
      have HLx : Hid (lx = ln) := by cases hhx; rfl
      clear hkx hhx HRx
      have cf0 : wo.cell? ⟨Bm, 0, none⟩ = some (.slice raf lf.reads.length rcf) := Kf.out.c0
      have cf1 : wo.cell? ⟨Bm, 1, none⟩ = some (.slice laf lf.levels.length lcf) := Kf.out.c1
      have P := hid (drop_any wo _ (.agg #[.slice raf lf.reads.length rcf, .slice laf lf.levels.length lcf]) lf Kf.out.val  (by rw [HLf.out]; exact HKf.out.mono (by decide)))
      rw [← hrx] at P
      clear hrx
      go_wp2_with fail
      refine P.out.mono ?_
      rintro e w26 ⟨rax, rcx, lax, lcx, rfl, hv, b⟩
      clear P
      clear cf0 cf1
      have hvx : GVal w26 (nin [Bn, Bm]) (.agg #[.slice rax lx.reads.length rcx, .slice lax lx.levels.length lcx]) lx := GVal.weak hv (fun b _ h => nin_res HS.out h)
      clear hv
      replace Kl := hid (Kl.out.more b)
      replace Kf := hid (Kf.out.more b)
      replace Kg := hid (Kg.out.more b)
      replace Kr := hid (Kr.out.more b)
      replace HB : Hid (Below w.heap.size w _) := HB.out.trans (b.mono HB.out.size)
      replace HS : Hid (∀ x ∈ ([Bn, Bm] : List Nat), x < _) := fun x hx => Nat.lt_of_lt_of_le (HS.out x hx) b.size
      clear b
      go_upto_region 26 with (fail)
      have hnelx := Kl.out.lt
      have hnefx := Kf.out.lt
      have hnegx := Kg.out.lt
      have hnerx := Kr.out.lt
      have Kx : Hid (BG (nin [Bn, Bm]) w (w26.alloc (.cells #[.slice rax lx.reads.length rcx, .slice lax lx.levels.length lcx] 25)) w26.heap.size rax lax rcx lcx lx) := hid ((BG.new (nb := (nin [Bn, Bm])) (l := lx) HB.out hvx).weak (nb' := (nin [Bn, Bm])) (fun b _ h => h.2))
      have bb := (Below.refl w26.heap.size w26).alloc (Nat.le_refl _) (.cells #[.slice rax lx.reads.length rcx, .slice lax lx.levels.length lcx] 25)
      have hBwx := HB.out.size
      obtain ⟨w27, hw⟩ : ∃ z, w26.alloc (.cells #[.slice rax lx.reads.length rcx, .slice lax lx.levels.length lcx] 25) = z := ⟨_, rfl⟩
      rw [hw] at bb ⊢
      rw [hw] at Kx
      obtain ⟨Bx, hBx⟩ : ∃ z, w26.heap.size = z := ⟨_, rfl⟩
      rw [hBx] at Kx hBwx ⊢
      rw [hBx] at hnelx
      replace hnelx : w.heap.size ≠ Bx := Nat.ne_of_lt hnelx
      rw [hBx] at hnefx
      replace hnefx : Bm ≠ Bx := Nat.ne_of_lt hnefx
      rw [hBx] at hnegx
      replace hnegx : Bn ≠ Bx := Nat.ne_of_lt hnegx
      rw [hBx] at hnerx
      replace hnerx : Br ≠ Bx := Nat.ne_of_lt hnerx
      replace Kl := hid (Kl.out.more bb)
      replace Kf := hid (Kf.out.more bb)
      replace Kg := hid (Kg.out.more bb)
      replace Kr := hid (Kr.out.more bb)
      replace HB : Hid (Below w.heap.size w w27) := HB.out.trans (bb.mono HB.out.size)
      replace HS : Hid (∀ x ∈ ([Bn, Bm] : List Nat), x < w27.heap.size) := fun x hx => Nat.lt_of_lt_of_le (HS.out x hx) bb.size
      clear bb hw hvx hBx
      obtain ⟨ry, hry⟩ : ∃ r, r = mergeG lf := ⟨_, rfl⟩
      obtain ⟨ly, ey⟩ := ry
      have HRy := hid hry
      have hky : mergeG lf = ((⟨R, I ++ [P.foldl putL bl]⟩ : Lg), (0 : Int)) := by rw [HLf.out]; exact mergeG_snoc HD.out.2.2.1
      have hhy := HRy.out.trans hky
      obtain rfl : ey = 0 := by cases hhy; rfl
      have HLy : Hid (ly = ⟨R, I ++ [P.foldl putL bl]⟩) := by cases hhy; rfl
      clear hky hhy HRy
      have cf0 : w27.cell? ⟨Bm, 0, none⟩ = some (.slice raf lf.reads.length rcf) := Kf.out.c0
      have cf1 : w27.cell? ⟨Bm, 1, none⟩ = some (.slice laf lf.levels.length lcf) := Kf.out.c1
      have P := hid (merge_any w27 _ (.agg #[.slice raf lf.reads.length rcf, .slice laf lf.levels.length lcf]) lf Kf.out.val  (by rw [HLf.out]; exact HKf.out.mono (by decide)))
      rw [← hry] at P
      clear hry
      go_wp2_with fail
      refine P.out.mono ?_
      rintro e w28 ⟨ray, rcy, lay, lcy, rfl, hv, b⟩
      clear P
      clear cf0 cf1
      have hvy : GVal w28 (nin [Bn, Bm]) (.agg #[.slice ray ly.reads.length rcy, .slice lay ly.levels.length lcy]) ly := GVal.weak hv (fun b _ h => nin_res HS.out h)
      clear hv
      replace Kl := hid (Kl.out.more b)
      replace Kf := hid (Kf.out.more b)
      replace Kg := hid (Kg.out.more b)
      replace Kr := hid (Kr.out.more b)
      replace Kx := hid (Kx.out.more b)
      replace HB : Hid (Below w.heap.size w _) := HB.out.trans (b.mono HB.out.size)
      replace HS : Hid (∀ x ∈ ([Bn, Bm] : List Nat), x < _) := fun x hx => Nat.lt_of_lt_of_le (HS.out x hx) b.size
      clear b
      go_upto_region 27 with (fail)
      have hnely := Kl.out.lt
      have hnefy := Kf.out.lt
      have hnegy := Kg.out.lt
      have hnery := Kr.out.lt
      have hnexy := Kx.out.lt
      have Ky : Hid (BG (nin [Bn, Bm]) w (w28.alloc (.cells #[.slice ray ly.reads.length rcy, .slice lay ly.levels.length lcy] 25)) w28.heap.size ray lay rcy lcy ly) := hid ((BG.new (nb := (nin [Bn, Bm])) (l := ly) HB.out hvy).weak (nb' := (nin [Bn, Bm])) (fun b _ h => h.2))
      have bb := (Below.refl w28.heap.size w28).alloc (Nat.le_refl _) (.cells #[.slice ray ly.reads.length rcy, .slice lay ly.levels.length lcy] 25)
      have hBwy := HB.out.size
      obtain ⟨w29, hw⟩ : ∃ z, w28.alloc (.cells #[.slice ray ly.reads.length rcy, .slice lay ly.levels.length lcy] 25) = z := ⟨_, rfl⟩
      rw [hw] at bb ⊢
      rw [hw] at Ky
      obtain ⟨By, hBy⟩ : ∃ z, w28.heap.size = z := ⟨_, rfl⟩
      rw [hBy] at Ky hBwy ⊢
      rw [hBy] at hnely
      replace hnely : w.heap.size ≠ By := Nat.ne_of_lt hnely
      rw [hBy] at hnefy
      replace hnefy : Bm ≠ By := Nat.ne_of_lt hnefy
      rw [hBy] at hnegy
      replace hnegy : Bn ≠ By := Nat.ne_of_lt hnegy
      rw [hBy] at hnery
      replace hnery : Br ≠ By := Nat.ne_of_lt hnery
      rw [hBy] at hnexy
      replace hnexy : Bx ≠ By := Nat.ne_of_lt hnexy
      replace Kl := hid (Kl.out.more bb)
      replace Kf := hid (Kf.out.more bb)
      replace Kg := hid (Kg.out.more bb)
      replace Kr := hid (Kr.out.more bb)
      replace Kx := hid (Kx.out.more bb)
      replace HB : Hid (Below w.heap.size w w29) := HB.out.trans (bb.mono HB.out.size)
      replace HS : Hid (∀ x ∈ ([Bn, Bm] : List Nat), x < w29.heap.size) := fun x hx => Nat.lt_of_lt_of_le (HS.out x hx) bb.size
      clear bb hw hvy hBy
      obtain ⟨r1, hr1⟩ : ∃ r, r = getG lg v := ⟨_, rfl⟩
      obtain ⟨g1, i1⟩ := r1
      have HR1 := hid hr1
      clear hr1
      have cy0 : w29.cell? ⟨By, 0, none⟩ = some (.slice ray ly.reads.length rcy) := Ky.out.c0
      have cy1 : w29.cell? ⟨By, 1, none⟩ = some (.slice lay ly.levels.length lcy) := Ky.out.c1
      have P := hid (get_any w29 _ (.agg #[.slice ray ly.reads.length rcy, .slice lay ly.levels.length lcy]) ly v Ky.out.val hv (by rw [HLy.out]; exact HKy.out.mono (by decide)))
      have hg : getG ly v = (g1, i1) := by rw [HR1.out, HLy.out, HLg.out]; exact get_merged v HD.out.2.1 HD.out.1 HD.out.2.2.2.1 HD.out.2.2.2.2
      rw [hg] at P
      clear hg
      go_wp2_with fail
      refine P.out.mono ?_
      rintro e w30 ⟨rfl, b⟩
      clear P
      clear cy0 cy1
      replace Kl := hid (Kl.out.more b)
      replace Kf := hid (Kf.out.more b)
      replace Kg := hid (Kg.out.more b)
      replace Kr := hid (Kr.out.more b)
      replace Kx := hid (Kx.out.more b)
      replace Ky := hid (Ky.out.more b)
      replace HB : Hid (Below w.heap.size w _) := HB.out.trans (b.mono HB.out.size)
      replace HS : Hid (∀ x ∈ ([Bn, Bm] : List Nat), x < _) := fun x hx => Nat.lt_of_lt_of_le (HS.out x hx) b.size
      clear b
      go_upto_region 28 with (fail)
      have cg0 : w30.cell? ⟨Bn, 0, none⟩ = some (.slice rag lg.reads.length rcg) := Kg.out.c0
      have cg1 : w30.cell? ⟨Bn, 1, none⟩ = some (.slice lag lg.levels.length lcg) := Kg.out.c1
      have P := hid (get_any w30 _ (.agg #[.slice rag lg.reads.length rcg, .slice lag lg.levels.length lcg]) lg v Kg.out.val hv (by rw [HLg.out]; exact HKg.out.mono (by decide)))
      rw [← HR1.out] at P
      go_wp2_with fail
      refine P.out.mono ?_
      rintro e w31 ⟨rfl, b⟩
      clear P
      clear cg0 cg1
      replace Kl := hid (Kl.out.more b)
      replace Kf := hid (Kf.out.more b)
      replace Kg := hid (Kg.out.more b)
      replace Kr := hid (Kr.out.more b)
      replace Kx := hid (Kx.out.more b)
      replace Ky := hid (Ky.out.more b)
      replace HB : Hid (Below w.heap.size w _) := HB.out.trans (b.mono HB.out.size)
      replace HS : Hid (∀ x ∈ ([Bn, Bm] : List Nat), x < _) := fun x hx => Nat.lt_of_lt_of_le (HS.out x hx) b.size
      clear b
      go_upto_region 29 with (fail)
      have cf0 : w31.cell? ⟨Bm, 0, none⟩ = some (.slice raf lf.reads.length rcf) := Kf.out.c0
      have cf1 : w31.cell? ⟨Bm, 1, none⟩ = some (.slice laf lf.levels.length lcf) := Kf.out.c1
      have P := hid (get_any w31 _ (.agg #[.slice raf lf.reads.length rcf, .slice laf lf.levels.length lcf]) lf v Kf.out.val hv (by rw [HLf.out]; exact HKf.out.mono (by decide)))
      have hg : getG lf v = (g1, i1) := by rw [HR1.out, HLf.out, HLg.out]; exact get_over v HD.out.1 HD.out.2.2.1 HD.out.2.2.2.2
      rw [hg] at P
      clear hg
      go_wp2_with fail
      refine P.out.mono ?_
      rintro e w32 ⟨rfl, b⟩
      clear P
      clear cf0 cf1
      replace Kl := hid (Kl.out.more b)
      replace Kf := hid (Kf.out.more b)
      replace Kg := hid (Kg.out.more b)
      replace Kr := hid (Kr.out.more b)
      replace Kx := hid (Kx.out.more b)
      replace Ky := hid (Ky.out.more b)
      replace HB : Hid (Below w.heap.size w _) := HB.out.trans (b.mono HB.out.size)
      replace HS : Hid (∀ x ∈ ([Bn, Bm] : List Nat), x < _) := fun x hx => Nat.lt_of_lt_of_le (HS.out x hx) b.size
      clear b
      go_upto_region 30 with (fail)
      have hs : decide (lx = ln) = true := by simp [HLx.out]
      have hcy : chkG ly = true := by rw [HLy.out]; exact HD.out.2.2.2.1
      have hcf : chkG lf = true := by rw [HLf.out]; exact HD.out.2.2.1
      have hle : ((ly.levels.length : Int) == l.levels.length) = true := by rw [HLy.out, HLI.out]; simp
      have cx0 : w32.cell? ⟨Bx, 0, none⟩ = some (.slice rax lx.reads.length rcx) := Kx.out.c0
      have cx1 : w32.cell? ⟨Bx, 1, none⟩ = some (.slice lax lx.levels.length lcx) := Kx.out.c1
      have cr0 : w32.cell? ⟨Br, 0, none⟩ = some (.slice ran ln.reads.length rcn) := Kr.out.c0
      have cr1 : w32.cell? ⟨Br, 1, none⟩ = some (.slice lan ln.levels.length lcn) := Kr.out.c1
      have P := hid (same_any w32 _ _ (.agg #[.slice rax lx.reads.length rcx, .slice lax lx.levels.length lcx]) (.agg #[.slice ran ln.reads.length rcn, .slice lan ln.levels.length lcn]) lx ln Kx.out.val Kr.out.val)
      rw [hs] at P
      go_wp2_with fail
      refine P.out.mono ?_
      rintro e w33 ⟨rfl, b⟩
      clear P
      clear cx0 cx1 cr0 cr1
      replace Kl := hid (Kl.out.more b)
      replace Kf := hid (Kf.out.more b)
      replace Kg := hid (Kg.out.more b)
      replace Kr := hid (Kr.out.more b)
      replace Kx := hid (Kx.out.more b)
      replace Ky := hid (Ky.out.more b)
      replace HB : Hid (Below w.heap.size w _) := HB.out.trans (b.mono HB.out.size)
      replace HS : Hid (∀ x ∈ ([Bn, Bm] : List Nat), x < _) := fun x hx => Nat.lt_of_lt_of_le (HS.out x hx) b.size
      clear b hs
      have cy0 : w33.cell? ⟨By, 0, none⟩ = some (.slice ray ly.reads.length rcy) := Ky.out.c0
      have cy1 : w33.cell? ⟨By, 1, none⟩ = some (.slice lay ly.levels.length lcy) := Ky.out.c1
      have cl0 : w33.cell? ⟨w.heap.size, 0, none⟩ = some (.slice ra l.reads.length rc) := Kl.out.c0
      have cl1 : w33.cell? ⟨w.heap.size, 1, none⟩ = some (.slice la l.levels.length lc) := Kl.out.c1
      have cf0 : w33.cell? ⟨Bm, 0, none⟩ = some (.slice raf lf.reads.length rcf) := Kf.out.c0
      have cf1 : w33.cell? ⟨Bm, 1, none⟩ = some (.slice laf lf.levels.length lcf) := Kf.out.c1
      have P := hid (check_any w33 _ (.agg #[.slice raf lf.reads.length rcf, .slice laf lf.levels.length lcf]) lf Kf.out.val)
      rw [hcf] at P
      go_wp2_with fail
      refine P.out.mono ?_
      rintro e w34 ⟨rfl, b⟩
      clear P
      clear cf0 cf1
      clear cy0 cy1 cl0 cl1
      replace Kl := hid (Kl.out.more b)
      replace Kf := hid (Kf.out.more b)
      replace Kg := hid (Kg.out.more b)
      replace Kr := hid (Kr.out.more b)
      replace Kx := hid (Kx.out.more b)
      replace Ky := hid (Ky.out.more b)
      replace HB : Hid (Below w.heap.size w _) := HB.out.trans (b.mono HB.out.size)
      replace HS : Hid (∀ x ∈ ([Bn, Bm] : List Nat), x < _) := fun x hx => Nat.lt_of_lt_of_le (HS.out x hx) b.size
      clear b
      have cl0 : w34.cell? ⟨w.heap.size, 0, none⟩ = some (.slice ra l.reads.length rc) := Kl.out.c0
      have cl1 : w34.cell? ⟨w.heap.size, 1, none⟩ = some (.slice la l.levels.length lc) := Kl.out.c1
      have cy0 : w34.cell? ⟨By, 0, none⟩ = some (.slice ray ly.reads.length rcy) := Ky.out.c0
      have cy1 : w34.cell? ⟨By, 1, none⟩ = some (.slice lay ly.levels.length lcy) := Ky.out.c1
      have P := hid (check_any w34 _ (.agg #[.slice ray ly.reads.length rcy, .slice lay ly.levels.length lcy]) ly Ky.out.val)
      rw [hcy] at P
      go_wp2_with fail
      refine P.out.mono ?_
      rintro e w35 ⟨rfl, b⟩
      clear P
      clear cy0 cy1
      clear cl0 cl1
      replace Kl := hid (Kl.out.more b)
      replace Kf := hid (Kf.out.more b)
      replace Kg := hid (Kg.out.more b)
      replace Kr := hid (Kr.out.more b)
      replace Kx := hid (Kx.out.more b)
      replace Ky := hid (Ky.out.more b)
      replace HB : Hid (Below w.heap.size w _) := HB.out.trans (b.mono HB.out.size)
      replace HS : Hid (∀ x ∈ ([Bn, Bm] : List Nat), x < _) := fun x hx => Nat.lt_of_lt_of_le (HS.out x hx) b.size
      clear b
      go_wp2_with fail
      go_ret
      exact Bb.fin rfl HB.out
end Go.Proofs.Ytaajooemocdfgaa
