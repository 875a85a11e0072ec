/- TlogKeeps: the walk. -/
import Derived.Test.YtaajooemocdfgaaTlV
import Derived.Test.YtaajooemocdfgaaTlX
namespace Go.Proofs.Ytaajooemocdfgaa
open Go.RowKit Go.Shelf Go.Maps
attribute [local go_sem] Oper.semAt_some
theorem any_take {α : Type} {p : α → Bool} {xs : List α} {k : Nat} {x : α} (h : xs[k]? = some x) : (xs.take (k + 1)).any p = ((xs.take k).any p || p x) := by
  rw [take_more h, List.any_append]; simp
set_option maxRecDepth 100000 in
set_option maxHeartbeats 32000000 in
theorem keeps_way (v0 : Value) (v at_ u ver : Int) (w : World) (h0 : ∃ l, GVal w (fun _ => True) v0 l) (hv : In v) (ha : In at_) (hu : In u) (hver : In ver) :
    Calls Try.prog 5 #[v0, .int .i64 v, .int .i64 at_, .int .i64 u, .int .i64 ver] w (Bb true w) := by
  obtain ⟨l, hg⟩ := h0
  have hg0 := hg
  obtain ⟨ra, rc, la, lc, rfl, hr, hl⟩ := hg
  obtain ⟨_, _, e, l1, _⟩ := hr.shape
  cases e
  obtain ⟨_, _, e, l2, _⟩ := hl.shape
  cases e
  clear hr hl
  obtain ⟨W0, hW0⟩ : ∃ W0, w.alloc (Obj.cells #[.slice ra l.reads.length rc, .slice la l.levels.length lc] 25) = W0 := ⟨_, rfl⟩
  have Kl : Hid (BG (nin []) w W0 w.heap.size ra la rc lc l) := by
    have h := (BG.new (Below.refl _ w) hg0).weak (nb' := nin []) (fun _ _ _ hm => by cases hm)
    rw [hW0] at h; exact h
  have HW := hid hW0
  have hBl : Below w.heap.size w W0 := by rw [← hW0]; exact (Below.refl _ _).alloc (Nat.le_refl _) _
  clear hW0 hg0
  go_enter Try.func5, Try.ntmps5
  go_upto_region 1 with (fail)
  rw [HW.out]
  clear HW
  have HB : Hid (Below w.heap.size w W0) := hBl
  have HS : Hid (∀ x ∈ ([] : List Nat), x < W0.heap.size) := fun x hx => by simp at hx
  clear hBl
  have P := hid (awake_any W0)
  go_wp2_with fail
  refine P.out.mono ?_
  rintro e w11 ⟨rfl, b⟩
  clear P
  replace Kl := hid (Kl.out.more b)
  replace HB : Hid (Below w.heap.size w _) := HB.out.trans (b.mono HB.out.size)
  replace HS : Hid (∀ x ∈ ([] : List Nat), x < _) := fun x hx => Nat.lt_of_lt_of_le (HS.out x hx) b.size
  clear b
  obtain ⟨q, hq⟩ : ∃ q, q = fewG l := ⟨_, rfl⟩
  have cl0 : w11.cell? ⟨w.heap.size, 0, none⟩ = some (.slice ra l.reads.length rc) := Kl.out.c0
  have cl1 : w11.cell? ⟨w.heap.size, 1, none⟩ = some (.slice la l.levels.length lc) := Kl.out.c1
  have P := hid (few_any w11 _ (.agg #[.slice ra l.reads.length rc, .slice la l.levels.length lc]) l Kl.out.val)
  rw [← hq] at P
  have HQ := hid hq
  clear hq
  go_wp2_with fail
  refine P.out.mono ?_
  rintro e w12 ⟨rfl, b⟩
  clear P
  clear cl0 cl1
  replace Kl := hid (Kl.out.more b)
  replace HB : Hid (Below w.heap.size w _) := HB.out.trans (b.mono HB.out.size)
  replace HS : Hid (∀ x ∈ ([] : List Nat), x < _) := fun x hx => Nat.lt_of_lt_of_le (HS.out x hx) b.size
  clear b
  cases q
  · go_wp2_with fail
    go_ret
    exact Bb.fin rfl HB.out
  have HF := hid ((fewG_ok HQ.out.symm).mono (show 100 ≤ 10000 by decide))
  clear HQ
  obtain ⟨q, hq⟩ : ∃ q, q = chkG l := ⟨_, rfl⟩
  have cl0 : w12.cell? ⟨w.heap.size, 0, none⟩ = some (.slice ra l.reads.length rc) := Kl.out.c0
  have cl1 : w12.cell? ⟨w.heap.size, 1, none⟩ = some (.slice la l.levels.length lc) := Kl.out.c1
  have P := hid (check_any w12 _ (.agg #[.slice ra l.reads.length rc, .slice la l.levels.length lc]) l Kl.out.val)
  rw [← hq] at P
  have HQ := hid hq
  clear hq
  go_wp2_with fail
  refine P.out.mono ?_
  rintro e w13 ⟨rfl, b⟩
  clear P
  clear cl0 cl1
  replace Kl := hid (Kl.out.more b)
  replace HB : Hid (Below w.heap.size w _) := HB.out.trans (b.mono HB.out.size)
  replace HS : Hid (∀ x ∈ ([] : List Nat), x < _) := fun x hx => Nat.lt_of_lt_of_le (HS.out x hx) b.size
  clear b
  cases q
  · go_wp2_with fail
    go_ret
    exact Bb.fin rfl HB.out
  have HC := hid (show chkG l = true from HQ.out.symm)
  clear HQ
  by_cases hneg : v < 0
  · have f1 : decide (v < 0) = true := by simpa using hneg
    go_wp2_with fail
    go_ret
    exact Bb.fin rfl HB.out
  have f1 : decide (v < 0) = false := by simpa using hneg
  have HV := hid (show 0 ≤ v by omega)
  go_upto_region 4 with (fail)
  clear f1 hneg
  obtain ⟨rm, hrm⟩ : ∃ r, r = putG l v at_ := ⟨_, rfl⟩
  obtain ⟨lm, em⟩ := rm
  have HRm := hid hrm
  have hkm : putG l v at_ = ((⟨l.reads, putLs l.levels (v, at_)⟩ : Lg), (0 : Int)) := by exact putG_ok _ HC.out HV.out
  have hhm := HRm.out.trans hkm
  obtain rfl : em = 0 := by cases hhm; rfl
  have HLm : Hid (lm = ⟨l.reads, putLs l.levels (v, at_)⟩) := by cases hhm; rfl
  clear hkm hhm HRm
  have cl0 : w13.cell? ⟨w.heap.size, 0, none⟩ = some (.slice ra l.reads.length rc) := Kl.out.c0
  have cl1 : w13.cell? ⟨w.heap.size, 1, none⟩ = some (.slice la l.levels.length lc) := Kl.out.c1
  have P := hid (putg_any w13 _ (.agg #[.slice ra l.reads.length rc, .slice la l.levels.length lc]) l v at_ Kl.out.val hv ha (HF.out.mono (by decide)))
  rw [← hrm] at P
  clear hrm
  go_wp2_with fail
  refine P.out.mono ?_
  rintro e w14 ⟨ram, rcm, lam, lcm, rfl, hv, b⟩
  clear P
  clear cl0 cl1
  have hvm : GVal w14 (nin []) (.agg #[.slice ram lm.reads.length rcm, .slice lam lm.levels.length lcm]) lm := GVal.weak hv (fun b _ h => nin_res HS.out h)
  clear hv
  replace Kl := hid (Kl.out.more b)
  replace HB : Hid (Below w.heap.size w _) := HB.out.trans (b.mono HB.out.size)
  replace HS : Hid (∀ x ∈ ([] : List Nat), x < _) := fun x hx => Nat.lt_of_lt_of_le (HS.out x hx) b.size
  clear b
  have HFm : Hid (Okl lm 10001) := by have h := okl_put HF.out v at_; rw [putG_ok _ HC.out HV.out] at h; rw [HLm.out]; exact h
  have HCm : Hid (chkG lm = true) := by show _ = _; rw [HLm.out]; exact chk_put _ HC.out HV.out
  go_upto_region 5 with (fail)
  have hnelm := Kl.out.lt
  have Km : Hid (BG (nin []) w (w14.alloc (.cells #[.slice ram lm.reads.length rcm, .slice lam lm.levels.length lcm] 25)) w14.heap.size ram lam rcm lcm lm) := hid ((BG.new (nb := (nin [])) (l := lm) HB.out hvm).weak (nb' := (nin [])) (fun b _ h => h.2))
  have bb := (Below.refl w14.heap.size w14).alloc (Nat.le_refl _) (.cells #[.slice ram lm.reads.length rcm, .slice lam lm.levels.length lcm] 25)
  have hBwm := HB.out.size
  obtain ⟨w15, hw⟩ : ∃ z, w14.alloc (.cells #[.slice ram lm.reads.length rcm, .slice lam lm.levels.length lcm] 25) = z := ⟨_, rfl⟩
  rw [hw] at bb ⊢
  rw [hw] at Km
  obtain ⟨Bm, hBm⟩ : ∃ z, w14.heap.size = z := ⟨_, rfl⟩
  rw [hBm] at Km hBwm ⊢
  rw [hBm] at hnelm
  replace hnelm : w.heap.size ≠ Bm := Nat.ne_of_lt hnelm
  replace Kl := hid (Kl.out.more bb)
  replace HB : Hid (Below w.heap.size w w15) := HB.out.trans (bb.mono HB.out.size)
  replace HS : Hid (∀ x ∈ ([] : List Nat), x < w15.heap.size) := fun x hx => Nat.lt_of_lt_of_le (HS.out x hx) bb.size
  clear bb hw hvm hBm
  have cm0 : w15.cell? ⟨Bm, 0, none⟩ = some (.slice ram lm.reads.length rcm) := Km.out.c0
  have cm1 : w15.cell? ⟨Bm, 1, none⟩ = some (.slice lam lm.levels.length lcm) := Km.out.c1
  have P := hid (get_any w15 _ (.agg #[.slice ram lm.reads.length rcm, .slice lam lm.levels.length lcm]) lm v Km.out.val hv (HFm.out.mono (by decide)))
  have hg : getG lm v = (at_, true) := by rw [HLm.out, get_put _ _ HC.out HV.out, if_pos rfl]
  rw [hg] at P
  clear hg
  go_wp2_with fail
  refine P.out.mono ?_
  rintro e w16 ⟨rfl, b⟩
  clear P
  clear cm0 cm1
  replace Kl := hid (Kl.out.more b)
  replace Km := hid (Km.out.more b)
  replace HB : Hid (Below w.heap.size w _) := HB.out.trans (b.mono HB.out.size)
  replace HS : Hid (∀ x ∈ ([] : List Nat), x < _) := fun x hx => Nat.lt_of_lt_of_le (HS.out x hx) b.size
  clear b
  go_upto_region 6 with (fail)
  obtain ⟨r1, hr1⟩ : ∃ r, r = getG lm u := ⟨_, rfl⟩
  obtain ⟨g1, i1⟩ := r1
  have HR1 := hid hr1
  clear hr1
  have cm0 : w16.cell? ⟨Bm, 0, none⟩ = some (.slice ram lm.reads.length rcm) := Km.out.c0
  have cm1 : w16.cell? ⟨Bm, 1, none⟩ = some (.slice lam lm.levels.length lcm) := Km.out.c1
  have P := hid (get_any w16 _ (.agg #[.slice ram lm.reads.length rcm, .slice lam lm.levels.length lcm]) lm u Km.out.val hu (HFm.out.mono (by decide)))
  rw [← HR1.out] at P
  go_wp2_with fail
  refine P.out.mono ?_
  rintro e w17 ⟨rfl, b⟩
  clear P
  clear cm0 cm1
  replace Kl := hid (Kl.out.more b)
  replace Km := hid (Km.out.more b)
  replace HB : Hid (Below w.heap.size w _) := HB.out.trans (b.mono HB.out.size)
  replace HS : Hid (∀ x ∈ ([] : List Nat), x < _) := fun x hx => Nat.lt_of_lt_of_le (HS.out x hx) b.size
  clear b
  go_upto_region 7 with (fail)
  obtain ⟨r2, hr2⟩ : ∃ r, r = getG l u := ⟨_, rfl⟩
  obtain ⟨g2, i2⟩ := r2
  have HR2 := hid hr2
  clear hr2
  have cl0 : w17.cell? ⟨w.heap.size, 0, none⟩ = some (.slice ra l.reads.length rc) := Kl.out.c0
  have cl1 : w17.cell? ⟨w.heap.size, 1, none⟩ = some (.slice la l.levels.length lc) := Kl.out.c1
  have P := hid (get_any w17 _ (.agg #[.slice ra l.reads.length rc, .slice la l.levels.length lc]) l u Kl.out.val hu (HF.out.mono (by decide)))
  rw [← HR2.out] at P
  go_wp2_with fail
  refine P.out.mono ?_
  rintro e w18 ⟨rfl, b⟩
  clear P
  clear cl0 cl1
  replace Kl := hid (Kl.out.more b)
  replace Km := hid (Km.out.more b)
  replace HB : Hid (Below w.heap.size w _) := HB.out.trans (b.mono HB.out.size)
  replace HS : Hid (∀ x ∈ ([] : List Nat), x < _) := fun x hx => Nat.lt_of_lt_of_le (HS.out x hx) b.size
  clear b
  go_upto_region 8 with (fail)
  obtain ⟨rn, hrn⟩ : ∃ r, r = noteG l v ver := ⟨_, rfl⟩
  obtain ⟨ln, en⟩ := rn
  have HRn := hid hrn
  have hkn : noteG l v ver = ((⟨noteRs l.reads (v, ver), l.levels⟩ : Lg), (0 : Int)) := by exact noteG_ok _ HC.out HV.out
  have hhn := HRn.out.trans hkn
  obtain rfl : en = 0 := by cases hhn; rfl
  have HLn : Hid (ln = ⟨noteRs l.reads (v, ver), l.levels⟩) := by cases hhn; rfl
  clear hkn hhn HRn
  have cl0 : w18.cell? ⟨w.heap.size, 0, none⟩ = some (.slice ra l.reads.length rc) := Kl.out.c0
  have cl1 : w18.cell? ⟨w.heap.size, 1, none⟩ = some (.slice la l.levels.length lc) := Kl.out.c1
  have P := hid (note_any w18 _ (.agg #[.slice ra l.reads.length rc, .slice la l.levels.length lc]) l v ver Kl.out.val hv hver (HF.out.mono (by decide)))
  rw [← hrn] at P
  clear hrn
  go_wp2_with fail
  refine P.out.mono ?_
  rintro e w19 ⟨ran, rcn, lan, lcn, rfl, hv, b⟩
  clear P
  clear cl0 cl1
  have hvn : GVal w19 (nin []) (.agg #[.slice ran ln.reads.length rcn, .slice lan ln.levels.length lcn]) ln := GVal.weak hv (fun b _ h => nin_res HS.out h)
  clear hv
  replace Kl := hid (Kl.out.more b)
  replace Km := hid (Km.out.more b)
  replace HB : Hid (Below w.heap.size w _) := HB.out.trans (b.mono HB.out.size)
  replace HS : Hid (∀ x ∈ ([] : List Nat), x < _) := fun x hx => Nat.lt_of_lt_of_le (HS.out x hx) b.size
  clear b
  have HFn : Hid (Okl ln 10001) := by have h := okl_note HF.out v ver; rw [noteG_ok _ HC.out HV.out] at h; rw [HLn.out]; exact h
  have HCn : Hid (chkG ln = true) := by show _ = _; rw [HLn.out]; exact chk_note _ HC.out HV.out
  have HAn : Hid (ln.reads.any (hasV v) = true) := by show _ = _; rw [HLn.out]; exact note_has _ _
  go_upto_region 9 with (fail)
  have hneln := Kl.out.lt
  have hnemn := Km.out.lt
  have Kn : Hid (BG (nin []) w (w19.alloc (.cells #[.slice ran ln.reads.length rcn, .slice lan ln.levels.length lcn] 25)) w19.heap.size ran lan rcn lcn ln) := hid ((BG.new (nb := (nin [])) (l := ln) HB.out hvn).weak (nb' := (nin [])) (fun b _ h => h.2))
  have bb := (Below.refl w19.heap.size w19).alloc (Nat.le_refl _) (.cells #[.slice ran ln.reads.length rcn, .slice lan ln.levels.length lcn] 25)
  have hBwn := HB.out.size
  obtain ⟨w20, hw⟩ : ∃ z, w19.alloc (.cells #[.slice ran ln.reads.length rcn, .slice lan ln.levels.length lcn] 25) = z := ⟨_, rfl⟩
  rw [hw] at bb ⊢
  rw [hw] at Kn
  obtain ⟨Bn, hBn⟩ : ∃ z, w19.heap.size = z := ⟨_, rfl⟩
  rw [hBn] at Kn hBwn ⊢
  rw [hBn] at hneln
  replace hneln : w.heap.size ≠ Bn := Nat.ne_of_lt hneln
  rw [hBn] at hnemn
  replace hnemn : Bm ≠ Bn := Nat.ne_of_lt hnemn
  replace Kl := hid (Kl.out.more bb)
  replace Km := hid (Km.out.more bb)
  replace HB : Hid (Below w.heap.size w w20) := HB.out.trans (bb.mono HB.out.size)
  replace HS : Hid (∀ x ∈ ([] : List Nat), x < w20.heap.size) := fun x hx => Nat.lt_of_lt_of_le (HS.out x hx) bb.size
  clear bb hw hvn hBn
  obtain ⟨v1, hv1⟩ : ∃ z, IntKind.i64.wrap (ver + 1) = z := ⟨_, rfl⟩
  have hin1 : In v1 := by rw [← hv1, IntKind.wrap_i64]; unfold In; omega
  obtain ⟨ro, hro⟩ : ∃ r, r = noteG ln v v1 := ⟨_, rfl⟩
  obtain ⟨lo, eo⟩ := ro
  have HRo := hid hro
  have hko : noteG ln v v1 = ((ln : Lg), (0 : Int)) := by rw [noteG_ok _ HCn.out HV.out, note_again HAn.out]
  have hho := HRo.out.trans hko
  obtain rfl : eo = 0 := by cases hho; rfl
  have HLo : Hid (lo = ln) := by cases hho; rfl
  clear hko hho HRo
  have cn0 : w20.cell? ⟨Bn, 0, none⟩ = some (.slice ran ln.reads.length rcn) := Kn.out.c0
  have cn1 : w20.cell? ⟨Bn, 1, none⟩ = some (.slice lan ln.levels.length lcn) := Kn.out.c1
  have P := hid (note_any w20 _ (.agg #[.slice ran ln.reads.length rcn, .slice lan ln.levels.length lcn]) ln v v1 Kn.out.val hv hin1 (HFn.out.mono (by decide)))
  rw [← hro] at P
  clear hro
  go_wp2_with fail
  refine P.out.mono ?_
  rintro e w21 ⟨rao, rco, lao, lco, rfl, hv, b⟩
  clear P
  clear cn0 cn1
  have hvo : GVal w21 (nin []) (.agg #[.slice rao lo.reads.length rco, .slice lao lo.levels.length lco]) lo := GVal.weak hv (fun b _ h => nin_res HS.out h)
  clear hv
  replace Kl := hid (Kl.out.more b)
  replace Km := hid (Km.out.more b)
  replace Kn := hid (Kn.out.more b)
  replace HB : Hid (Below w.heap.size w _) := HB.out.trans (b.mono HB.out.size)
  replace HS : Hid (∀ x ∈ ([] : List Nat), x < _) := fun x hx => Nat.lt_of_lt_of_le (HS.out x hx) b.size
  clear b
  have hlo := HLo.out
  subst hlo
  clear HLo
  go_upto_region 12 with (fail)
  have hnelo := Kl.out.lt
  have hnemo := Km.out.lt
  have hneno := Kn.out.lt
  have Ko : Hid (BG (nin []) w (w21.alloc (.cells #[.slice rao lo.reads.length rco, .slice lao lo.levels.length lco] 25)) w21.heap.size rao lao rco lco lo) := hid ((BG.new (nb := (nin [])) (l := lo) HB.out hvo).weak (nb' := (nin [])) (fun b _ h => h.2))
  have bb := (Below.refl w21.heap.size w21).alloc (Nat.le_refl _) (.cells #[.slice rao lo.reads.length rco, .slice lao lo.levels.length lco] 25)
  have hBwo := HB.out.size
  obtain ⟨w22, hw⟩ : ∃ z, w21.alloc (.cells #[.slice rao lo.reads.length rco, .slice lao lo.levels.length lco] 25) = z := ⟨_, rfl⟩
  rw [hw] at bb ⊢
  rw [hw] at Ko
  obtain ⟨Bo, hBo⟩ : ∃ z, w21.heap.size = z := ⟨_, rfl⟩
  rw [hBo] at Ko hBwo ⊢
  rw [hBo] at hnelo
  replace hnelo : w.heap.size ≠ Bo := Nat.ne_of_lt hnelo
  rw [hBo] at hnemo
  replace hnemo : Bm ≠ Bo := Nat.ne_of_lt hnemo
  rw [hBo] at hneno
  replace hneno : Bn ≠ Bo := Nat.ne_of_lt hneno
  replace Kl := hid (Kl.out.more bb)
  replace Km := hid (Km.out.more bb)
  replace Kn := hid (Kn.out.more bb)
  replace HB : Hid (Below w.heap.size w w22) := HB.out.trans (bb.mono HB.out.size)
  replace HS : Hid (∀ x ∈ ([] : List Nat), x < w22.heap.size) := fun x hx => Nat.lt_of_lt_of_le (HS.out x hx) bb.size
  clear bb hw hvo hBo
  have hlb : lo.reads.length ≤ 10001 := HFn.out.1
  go_loopw [25, 24] (fun i f wr => ∃ k : Nat, k ≤ lo.reads.length ∧ i = .int .i64 k ∧ f = .bool ((lo.reads.take k).any (hasV v)) ∧ wr = w22) (fun i _ _ => lo.reads.length - (intOf i).toNat)
  case atStart => exact ⟨0, Nat.zero_le _, rfl, by simp, rfl⟩
  case round =>
    obtain ⟨k, hk, rfl, rfl, hwr⟩ := hrel
    subst hwr
    obtain ⟨fd, hfd⟩ : ∃ b, b = (lo.reads.take k).any (hasV v) := ⟨_, rfl⟩
    rw [← hfd]
    have HFD := hid hfd
    clear hfd
    by_cases hlt : k < lo.reads.length
    · have cn0 : wr.cell? ⟨Bn, 0, none⟩ = some (.slice ran lo.reads.length rcn) := Kn.out.c0
      obtain ⟨x, b1, o1, hv1, hx, e1⟩ : ∃ (x : Pr) (b1 o1 : Nat), ran = some ⟨b1, o1, none⟩ ∧ lo.reads[k]? = some x ∧ wr.cell? ⟨b1, o1 + k * 2, none⟩ = some (.int .i64 x.1) := by
        obtain ⟨_, _, _, _, e, hpr, _⟩ := Kn.out.val
        cases e
        obtain ⟨b1, o1, c1', x, hv1, hx, _, _, e1, _⟩ := hpr.at (Below.refl _ _) hlt
        cases hv1
        exact ⟨x, b1, o1, rfl, hx, e1⟩
      subst hv1
      have HX := hid (any_take (p := hasV v) hx)
      clear hx
      cases fd
      · cases hq : x.1 == v
        · have HQ := hid hq
          go_wp2_with fail
          go_roundw
          case rel => exact ⟨k + 1, by omega, by go_num, by rw [HX.out, ← HFD.out, show hasV v x = false from HQ.out]; rfl, trivial⟩
          case measure => simp [intOf]; omega
        · have HQ := hid hq
          go_wp2_with fail
          go_roundw
          case rel => exact ⟨k + 1, by omega, by go_num, by rw [HX.out, ← HFD.out, show hasV v x = true from HQ.out]; rfl, trivial⟩
          case measure => simp [intOf]; omega
      · go_wp2_with fail
        go_roundw
        case rel => exact ⟨k + 1, by omega, by go_num, by rw [HX.out, ← HFD.out]; rfl, trivial⟩
        case measure => simp [intOf]; omega
    obtain rfl : k = lo.reads.length := by omega
    obtain rfl : fd = true := by rw [HFD.out, List.take_length]; exact HAn.out
    have hs : decide (lo = lo) = true := by simp
    have hle : ((lm.reads.length : Int) == l.reads.length) = true := by rw [HLm.out]; simp
    have cn0 : wr.cell? ⟨Bn, 0, none⟩ = some (.slice ran lo.reads.length rcn) := Kn.out.c0
    go_upto_region 15 with (fail)
    clear cn0
    by_cases e : v = u
    · subst e
      have cn0 : wr.cell? ⟨Bn, 0, none⟩ = some (.slice ran lo.reads.length rcn) := Kn.out.c0
      have cn1 : wr.cell? ⟨Bn, 1, none⟩ = some (.slice lan lo.levels.length lcn) := Kn.out.c1
      have co0 : wr.cell? ⟨Bo, 0, none⟩ = some (.slice rao lo.reads.length rco) := Ko.out.c0
      have co1 : wr.cell? ⟨Bo, 1, none⟩ = some (.slice lao lo.levels.length lco) := Ko.out.c1
      have P := hid (same_any wr _ _ (.agg #[.slice ran lo.reads.length rcn, .slice lan lo.levels.length lcn]) (.agg #[.slice rao lo.reads.length rco, .slice lao lo.levels.length lco]) lo lo Kn.out.val Ko.out.val)
      rw [hs] at P
      go_wp2_with fail
      refine P.out.mono ?_
      rintro e w23 ⟨rfl, b⟩
      clear P
      clear cn0 cn1 co0 co1
      replace Kl := hid (Kl.out.more b)
      replace Km := hid (Km.out.more b)
      replace Kn := hid (Kn.out.more b)
      replace Ko := hid (Ko.out.more b)
      replace HB : Hid (Below w.heap.size w _) := HB.out.trans (b.mono HB.out.size)
      replace HS : Hid (∀ x ∈ ([] : List Nat), x < _) := fun x hx => Nat.lt_of_lt_of_le (HS.out x hx) b.size
      clear b
      have cm0 : w23.cell? ⟨Bm, 0, none⟩ = some (.slice ram lm.reads.length rcm) := Km.out.c0
      have cm1 : w23.cell? ⟨Bm, 1, none⟩ = some (.slice lam lm.levels.length lcm) := Km.out.c1
      have P := hid (check_any w23 _ (.agg #[.slice ram lm.reads.length rcm, .slice lam lm.levels.length lcm]) lm Km.out.val)
      rw [HCm.out] at P
      go_wp2_with fail
      refine P.out.mono ?_
      rintro e w24 ⟨rfl, b⟩
      clear P
      clear cm0 cm1
      replace Kl := hid (Kl.out.more b)
      replace Km := hid (Km.out.more b)
      replace Kn := hid (Kn.out.more b)
      replace Ko := hid (Ko.out.more b)
      replace HB : Hid (Below w.heap.size w _) := HB.out.trans (b.mono HB.out.size)
      replace HS : Hid (∀ x ∈ ([] : List Nat), x < _) := fun x hx => Nat.lt_of_lt_of_le (HS.out x hx) b.size
      clear b
      have cm0 : w24.cell? ⟨Bm, 0, none⟩ = some (.slice ram lm.reads.length rcm) := Km.out.c0
      have cm1 : w24.cell? ⟨Bm, 1, none⟩ = some (.slice lam lm.levels.length lcm) := Km.out.c1
      have cl0 : w24.cell? ⟨w.heap.size, 0, none⟩ = some (.slice ra l.reads.length rc) := Kl.out.c0
      have cl1 : w24.cell? ⟨w.heap.size, 1, none⟩ = some (.slice la l.levels.length lc) := Kl.out.c1
      have cn0 : w24.cell? ⟨Bn, 0, none⟩ = some (.slice ran lo.reads.length rcn) := Kn.out.c0
      have cn1 : w24.cell? ⟨Bn, 1, none⟩ = some (.slice lan lo.levels.length lcn) := Kn.out.c1
      have P := hid (check_any w24 _ (.agg #[.slice ran lo.reads.length rcn, .slice lan lo.levels.length lcn]) lo Kn.out.val)
      rw [HCn.out] at P
      go_wp2_with fail
      refine P.out.mono ?_
      rintro e w25 ⟨rfl, b⟩
      clear P
      clear cn0 cn1
      clear cm0 cm1 cl0 cl1
      replace Kl := hid (Kl.out.more b)
      replace Km := hid (Km.out.more b)
      replace Kn := hid (Kn.out.more b)
      replace Ko := hid (Ko.out.more b)
      replace HB : Hid (Below w.heap.size w _) := HB.out.trans (b.mono HB.out.size)
      replace HS : Hid (∀ x ∈ ([] : List Nat), x < _) := fun x hx => Nat.lt_of_lt_of_le (HS.out x hx) b.size
      clear b
      have cm0 : w25.cell? ⟨Bm, 0, none⟩ = some (.slice ram lm.reads.length rcm) := Km.out.c0
      have cm1 : w25.cell? ⟨Bm, 1, none⟩ = some (.slice lam lm.levels.length lcm) := Km.out.c1
      have cl0 : w25.cell? ⟨w.heap.size, 0, none⟩ = some (.slice ra l.reads.length rc) := Kl.out.c0
      have cl1 : w25.cell? ⟨w.heap.size, 1, none⟩ = some (.slice la l.levels.length lc) := Kl.out.c1
      go_wp2_with fail
      go_ret
      exact Bb.fin rfl HB.out
    · have hgg := HR1.out.trans ((show getG lm u = getG l u by rw [HLm.out, get_put _ _ HC.out HV.out, if_neg e]).trans HR2.out.symm)
      obtain ⟨rfl, rfl⟩ : g1 = g2 ∧ i1 = i2 := by cases hgg; exact ⟨rfl, rfl⟩
      have f9 : (u == v) = false := by rw [beq_eq_false_iff_ne]; exact fun h => e h.symm
      clear hgg
      have cn0 : wr.cell? ⟨Bn, 0, none⟩ = some (.slice ran lo.reads.length rcn) := Kn.out.c0
      have cn1 : wr.cell? ⟨Bn, 1, none⟩ = some (.slice lan lo.levels.length lcn) := Kn.out.c1
      have co0 : wr.cell? ⟨Bo, 0, none⟩ = some (.slice rao lo.reads.length rco) := Ko.out.c0
      have co1 : wr.cell? ⟨Bo, 1, none⟩ = some (.slice lao lo.levels.length lco) := Ko.out.c1
      have P := hid (same_any wr _ _ (.agg #[.slice ran lo.reads.length rcn, .slice lan lo.levels.length lcn]) (.agg #[.slice rao lo.reads.length rco, .slice lao lo.levels.length lco]) lo lo Kn.out.val Ko.out.val)
      rw [hs] at P
      go_wp2_with fail
      refine P.out.mono ?_
      rintro e w26 ⟨rfl, b⟩
      clear P
      clear cn0 cn1 co0 co1
      replace Kl := hid (Kl.out.more b)
      replace Km := hid (Km.out.more b)
      replace Kn := hid (Kn.out.more b)
      replace Ko := hid (Ko.out.more b)
      replace HB : Hid (Below w.heap.size w _) := HB.out.trans (b.mono HB.out.size)
      replace HS : Hid (∀ x ∈ ([] : List Nat), x < _) := fun x hx => Nat.lt_of_lt_of_le (HS.out x hx) b.size
      clear b
      have cm0 : w26.cell? ⟨Bm, 0, none⟩ = some (.slice ram lm.reads.length rcm) := Km.out.c0
      have cm1 : w26.cell? ⟨Bm, 1, none⟩ = some (.slice lam lm.levels.length lcm) := Km.out.c1
      have P := hid (check_any w26 _ (.agg #[.slice ram lm.reads.length rcm, .slice lam lm.levels.length lcm]) lm Km.out.val)
      rw [HCm.out] at P
      go_wp2_with fail
      refine P.out.mono ?_
      rintro e w27 ⟨rfl, b⟩
      clear P
      clear cm0 cm1
      replace Kl := hid (Kl.out.more b)
      replace Km := hid (Km.out.more b)
      replace Kn := hid (Kn.out.more b)
      replace Ko := hid (Ko.out.more b)
      replace HB : Hid (Below w.heap.size w _) := HB.out.trans (b.mono HB.out.size)
      replace HS : Hid (∀ x ∈ ([] : List Nat), x < _) := fun x hx => Nat.lt_of_lt_of_le (HS.out x hx) b.size
      clear b
      have cm0 : w27.cell? ⟨Bm, 0, none⟩ = some (.slice ram lm.reads.length rcm) := Km.out.c0
      have cm1 : w27.cell? ⟨Bm, 1, none⟩ = some (.slice lam lm.levels.length lcm) := Km.out.c1
      have cl0 : w27.cell? ⟨w.heap.size, 0, none⟩ = some (.slice ra l.reads.length rc) := Kl.out.c0
      have cl1 : w27.cell? ⟨w.heap.size, 1, none⟩ = some (.slice la l.levels.length lc) := Kl.out.c1
      have cn0 : w27.cell? ⟨Bn, 0, none⟩ = some (.slice ran lo.reads.length rcn) := Kn.out.c0
      have cn1 : w27.cell? ⟨Bn, 1, none⟩ = some (.slice lan lo.levels.length lcn) := Kn.out.c1
      have P := hid (check_any w27 _ (.agg #[.slice ran lo.reads.length rcn, .slice lan lo.levels.length lcn]) lo Kn.out.val)
      rw [HCn.out] at P
      go_wp2_with fail
      refine P.out.mono ?_
      rintro e w28 ⟨rfl, b⟩
      clear P
      clear cn0 cn1
      clear cm0 cm1 cl0 cl1
      replace Kl := hid (Kl.out.more b)
      replace Km := hid (Km.out.more b)
      replace Kn := hid (Kn.out.more b)
      replace Ko := hid (Ko.out.more b)
      replace HB : Hid (Below w.heap.size w _) := HB.out.trans (b.mono HB.out.size)
      replace HS : Hid (∀ x ∈ ([] : List Nat), x < _) := fun x hx => Nat.lt_of_lt_of_le (HS.out x hx) b.size
      clear b
      have cm0 : w28.cell? ⟨Bm, 0, none⟩ = some (.slice ram lm.reads.length rcm) := Km.out.c0
      have cm1 : w28.cell? ⟨Bm, 1, none⟩ = some (.slice lam lm.levels.length lcm) := Km.out.c1
      have cl0 : w28.cell? ⟨w.heap.size, 0, none⟩ = some (.slice ra l.reads.length rc) := Kl.out.c0
      have cl1 : w28.cell? ⟨w.heap.size, 1, none⟩ = some (.slice la l.levels.length lc) := Kl.out.c1
      go_wp2_with fail
      go_ret
      exact Bb.fin rfl HB.out
end Go.Proofs.Ytaajooemocdfgaa
