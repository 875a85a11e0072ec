/- StoreTells: the walk. -/
import Derived.Test.YtplckigmllkpoaaStN
import Derived.Test.YtplckigmllkpoaaStI
namespace Go.Proofs.Ytplckigmllkpoaa
open Go.RowKit Go.Shelf Go.Maps
attribute [local go_sem] Oper.semAt_some
set_option maxRecDepth 100000 in
set_option maxHeartbeats 32000000 in
theorem tells_way (vs : Value) (vl : Value) (z : Int) (vr : Value) (w : World) (hs : ∃ s, SVal w (fun _ => True) vs s) (hl : ∃ l, GVal w (fun _ => True) vl l) (hz : In z) (hr : ∃ r, ISl w (fun _ => True) vr r) :
    Calls Try.prog 3 #[vs, vl, .int .i64 z, vr] w (Bb true w) := by
  obtain ⟨s, hs⟩ := hs
  have qs := hs
  obtain ⟨ads, cps, rfl, his, hs⟩ := hs
  obtain ⟨_, _, e, l1, _⟩ := hs.shape
  cases e
  clear hs
  have HIs := hid his
  obtain ⟨l, hl⟩ := hl
  have ql := hl
  obtain ⟨rl, rcl, ll, lcl, rfl, hr, hl⟩ := hl
  obtain ⟨_, _, e, l2, _⟩ := hr.shape
  cases e
  obtain ⟨_, _, e, l3, _⟩ := hl.shape
  cases e
  clear hr hl
  obtain ⟨r, hr⟩ := hr
  have qr := hr
  obtain ⟨adr, cpr, rfl, l4, _⟩ := hr.shape
  have Kr := hid qr
  clear hr qr
  have HB : Hid (Below w.heap.size w w) := Below.refl _ _
  obtain ⟨Ws, hws⟩ : ∃ z, w.alloc (.cells #[.slice ads s.cells.length cps, .int .i64 s.ver] 24) = z := ⟨_, rfl⟩
  have bb := (Below.refl w.heap.size w).alloc (Nat.le_refl _) (.cells #[.slice ads s.cells.length cps, .int .i64 s.ver] 24)
  rw [hws] at bb
  have Ks := hid (BSt.new HB.out qs)
  rw [hws] at Ks
  replace Kr := hid (RSl.below intGood Kr.out bb)
  replace HB : Hid (Below w.heap.size w Ws) := HB.out.trans (bb.mono HB.out.size)
  have hzWs : Ws.heap.size = w.heap.size + 1 := by rw [← hws]; simp
  clear bb qs
  obtain ⟨Wl, hwl⟩ : ∃ z, Ws.alloc (.cells #[.slice rl l.reads.length rcl, .slice ll l.levels.length lcl] 28) = z := ⟨_, rfl⟩
  have bb := (Below.refl Ws.heap.size Ws).alloc (Nat.le_refl _) (.cells #[.slice rl l.reads.length rcl, .slice ll l.levels.length lcl] 28)
  rw [hwl] at bb
  have Kl := hid (BLg.new HB.out (ql.more HB.out))
  rw [hwl] at Kl
  rw [hzWs] at Kl
  replace Ks := hid (Ks.out.more bb)
  replace Kr := hid (RSl.below intGood Kr.out bb)
  replace HB : Hid (Below w.heap.size w Wl) := HB.out.trans (bb.mono HB.out.size)
  have hzWl : Wl.heap.size = w.heap.size + 2 := by rw [← hwl]; simp [hzWs]
  clear bb ql
  have HW := hwl
  rw [← hws] at HW
  replace HW := hid HW
  have HZ := hid hzWl
  clear hws hwl hzWs hzWl
  go_enter Try.func3, Try.ntmps3
  go_upto_region 1 with (fail)
  rw [HW.out]
  clear HW
  have P := hid (awake_any Wl)
  go_wp2_with fail
  refine P.out.mono ?_
  rintro e w11 ⟨rfl, b⟩
  clear P
  replace Kr := hid (RSl.below intGood Kr.out b)
  replace Ks := hid (Ks.out.more b)
  replace Kl := hid (Kl.out.more b)
  replace HB : Hid (Below w.heap.size w _) := HB.out.trans (b.mono HB.out.size)
  clear b
  obtain ⟨q, hq⟩ : ∃ q, q = (decide (s.cells.length ≤ 300) && fewG l) := ⟨_, rfl⟩
  have cs0 : w11.cell? ⟨w.heap.size, 0, none⟩ = some (.slice ads s.cells.length cps) := Ks.out.c0
  have cs1 : w11.cell? ⟨w.heap.size, 1, none⟩ = some (.int .i64 s.ver) := Ks.out.c1
  have cl0 : w11.cell? ⟨w.heap.size + 1, 0, none⟩ = some (.slice rl l.reads.length rcl) := Kl.out.c0
  have cl1 : w11.cell? ⟨w.heap.size + 1, 1, none⟩ = some (.slice ll l.levels.length lcl) := Kl.out.c1
  have P := hid (sfew_any w11 _ _ (.agg #[.slice ads s.cells.length cps, .int .i64 s.ver]) (.agg #[.slice rl l.reads.length rcl, .slice ll l.levels.length lcl]) s l Ks.out.val Kl.out.val)
  rw [← hq] at P
  have HQ := hid hq
  clear hq
  go_wp2_with fail
  refine P.out.mono ?_
  rintro e w12 ⟨rfl, b⟩
  clear P
  clear cs0 cs1 cl0 cl1
  replace Kr := hid (RSl.below intGood Kr.out b)
  replace Ks := hid (Ks.out.more b)
  replace Kl := hid (Kl.out.more b)
  replace HB : Hid (Below w.heap.size w _) := HB.out.trans (b.mono HB.out.size)
  clear b
  cases q
  · go_wp2_with fail
    go_ret
    exact Bb.fin rfl HB.out
  have HF := hid (show s.cells.length ≤ 300 by have h := HQ.out.symm; simp only [Bool.and_eq_true, decide_eq_true_eq] at h; exact h.1)
  have HG := hid (show Okl l 100 by have h := HQ.out.symm; simp only [Bool.and_eq_true] at h; exact fewG_ok h.2)
  clear HQ
  have HL := hid (show s.cells.length ≤ 100000 by have := HF.out; omega)
  have HLL := hid (show ∀ x ∈ l.levels, x.length ≤ 100000 from fun x hx => by have := HG.out.2.2 x hx; omega)
  by_cases hr3 : r.length ≤ 300
  rotate_left
  · have f3 : decide ((r.length : Int) > 300) = true := by simp; omega
    have f4 : decide (300 < (r.length : Int)) = true := by simp; omega
    go_wp2_with fail
    go_ret
    exact Bb.fin rfl HB.out
  have f3 : decide ((r.length : Int) > 300) = false := by simp; omega
  have f4 : decide (300 < (r.length : Int)) = false := by simp; omega
  obtain ⟨rr, hr⟩ : ∃ rr, rr = commitS s l := ⟨_, rfl⟩
  obtain ⟨ta, va, ea⟩ := rr
  have HRa := hid hr
  have cs0 : w12.cell? ⟨w.heap.size, 0, none⟩ = some (.slice ads s.cells.length cps) := Ks.out.c0
  have cs1 : w12.cell? ⟨w.heap.size, 1, none⟩ = some (.int .i64 s.ver) := Ks.out.c1
  have cl0 : w12.cell? ⟨w.heap.size + 1, 0, none⟩ = some (.slice rl l.reads.length rcl) := Kl.out.c0
  have cl1 : w12.cell? ⟨w.heap.size + 1, 1, none⟩ = some (.slice ll l.levels.length lcl) := Kl.out.c1
  have P := hid (commit_any w12 _ _ (.agg #[.slice ads s.cells.length cps, .int .i64 s.ver]) (.agg #[.slice rl l.reads.length rcl, .slice ll l.levels.length lcl]) s l Ks.out.val Kl.out.val HL.out HLL.out)
  rw [← hr] at P
  clear hr
  go_wp2_with fail
  refine P.out.mono ?_
  rintro e w13 ⟨saa, sca, vaa, vca, rfl, hs, hv, b⟩
  clear P
  clear cs0 cs1 cl0 cl1
  have hsa := hs.all
  have Kva := hid (RSl.weak intGood (by decide) (ok' := fun _ => True) hv (fun _ _ _ => trivial))
  clear hs hv
  obtain ⟨_, _, ev, lva, _⟩ := ISl.shape Kva.out
  clear ev
  replace Kr := hid (RSl.below intGood Kr.out b)
  replace Ks := hid (Ks.out.more b)
  replace Kl := hid (Kl.out.more b)
  replace HB : Hid (Below w.heap.size w _) := HB.out.trans (b.mono HB.out.size)
  clear b
  go_upto_region 5 with (fail)
  have bb := (Below.refl w13.heap.size w13).alloc (Nat.le_refl _) (.cells #[.slice saa ta.cells.length sca, .int .i64 ta.ver] 24)
  have Ka := hid (BSt.new HB.out hsa)
  have hBwa := HB.out.size
  obtain ⟨w14, hw⟩ : ∃ z, w13.alloc (.cells #[.slice saa ta.cells.length sca, .int .i64 ta.ver] 24) = z := ⟨_, rfl⟩
  rw [hw] at bb Ka ⊢
  obtain ⟨Ba, hBa⟩ : ∃ z, w13.heap.size = z := ⟨_, rfl⟩
  rw [hBa] at Ka hBwa ⊢
  replace Kr := hid (RSl.below intGood Kr.out bb)
  replace Ks := hid (Ks.out.more bb)
  replace Kl := hid (Kl.out.more bb)
  replace Kva := hid (RSl.below intGood Kva.out bb)
  replace HB : Hid (Below w.heap.size w w14) := HB.out.trans (bb.mono HB.out.size)
  clear bb hw hsa hBa hBwa
  clear f3 f4
  have cs0 : w14.cell? ⟨w.heap.size, 0, none⟩ = some (.slice ads s.cells.length cps) := Ks.out.c0
  have cs1 : w14.cell? ⟨w.heap.size, 1, none⟩ = some (.int .i64 s.ver) := Ks.out.c1
  have cl0 : w14.cell? ⟨w.heap.size + 1, 0, none⟩ = some (.slice rl l.reads.length rcl) := Kl.out.c0
  have cl1 : w14.cell? ⟨w.heap.size + 1, 1, none⟩ = some (.slice ll l.levels.length lcl) := Kl.out.c1
  have P := hid (rcommit_any w14 _ _ (.agg #[.slice ads s.cells.length cps, .int .i64 s.ver]) (.agg #[.slice rl l.reads.length rcl, .slice ll l.levels.length lcl]) s l Ks.out.val Kl.out.val HL.out HLL.out)
  rw [← HRa.out] at P
  go_wp2_with fail
  refine P.out.mono ?_
  rintro e w15 ⟨sab, scb, vab, vcb, rfl, hs, hv, b⟩
  clear P
  clear cs0 cs1 cl0 cl1
  have hsb := hs.all
  have Kvb := hid (RSl.weak intGood (by decide) (ok' := fun _ => True) hv (fun _ _ _ => trivial))
  clear hs hv
  obtain ⟨_, _, ev, lvb, _⟩ := ISl.shape Kvb.out
  clear ev
  replace Kr := hid (RSl.below intGood Kr.out b)
  replace Ks := hid (Ks.out.more b)
  replace Kl := hid (Kl.out.more b)
  replace Kva := hid (RSl.below intGood Kva.out b)
  replace Ka := hid (Ka.out.more b)
  replace HB : Hid (Below w.heap.size w _) := HB.out.trans (b.mono HB.out.size)
  clear b
  go_upto_region 6 with (fail)
  have bb := (Below.refl w15.heap.size w15).alloc (Nat.le_refl _) (.cells #[.slice sab ta.cells.length scb, .int .i64 ta.ver] 24)
  have Kb := hid (BSt.new HB.out hsb)
  have hBwb := HB.out.size
  obtain ⟨w16, hw⟩ : ∃ z, w15.alloc (.cells #[.slice sab ta.cells.length scb, .int .i64 ta.ver] 24) = z := ⟨_, rfl⟩
  rw [hw] at bb Kb ⊢
  obtain ⟨Bb, hBb⟩ : ∃ z, w15.heap.size = z := ⟨_, rfl⟩
  rw [hBb] at Kb hBwb ⊢
  replace Kr := hid (RSl.below intGood Kr.out bb)
  replace Ks := hid (Ks.out.more bb)
  replace Kl := hid (Kl.out.more bb)
  replace Kva := hid (RSl.below intGood Kva.out bb)
  replace Ka := hid (Ka.out.more bb)
  replace Kvb := hid (RSl.below intGood Kvb.out bb)
  replace HB : Hid (Below w.heap.size w w16) := HB.out.trans (bb.mono HB.out.size)
  clear bb hw hsb hBb hBwb
  obtain ⟨rr, hr⟩ : ∃ rr, rr = addS s z := ⟨_, rfl⟩
  obtain ⟨tc, nc, ec⟩ := rr
  have HRc := hid hr
  have cs0 : w16.cell? ⟨w.heap.size, 0, none⟩ = some (.slice ads s.cells.length cps) := Ks.out.c0
  have cs1 : w16.cell? ⟨w.heap.size, 1, none⟩ = some (.int .i64 s.ver) := Ks.out.c1
  have P := hid (add_any w16 _ (.agg #[.slice ads s.cells.length cps, .int .i64 s.ver]) s z Ks.out.val hz HL.out)
  rw [← hr] at P
  clear hr
  go_wp2_with fail
  refine P.out.mono ?_
  rintro e w17 ⟨sac, scc, rfl, hs, b⟩
  clear P
  clear cs0 cs1
  have hsc := hs.all
  clear hs
  replace Kr := hid (RSl.below intGood Kr.out b)
  replace Ks := hid (Ks.out.more b)
  replace Kl := hid (Kl.out.more b)
  replace Kva := hid (RSl.below intGood Kva.out b)
  replace Ka := hid (Ka.out.more b)
  replace Kvb := hid (RSl.below intGood Kvb.out b)
  replace Kb := hid (Kb.out.more b)
  replace HB : Hid (Below w.heap.size w _) := HB.out.trans (b.mono HB.out.size)
  clear b
  go_upto_region 7 with (fail)
  have bb := (Below.refl w17.heap.size w17).alloc (Nat.le_refl _) (.cells #[.slice sac tc.cells.length scc, .int .i64 tc.ver] 24)
  have Kc := hid (BSt.new HB.out hsc)
  have hBwc := HB.out.size
  obtain ⟨w18, hw⟩ : ∃ z, w17.alloc (.cells #[.slice sac tc.cells.length scc, .int .i64 tc.ver] 24) = z := ⟨_, rfl⟩
  rw [hw] at bb Kc ⊢
  obtain ⟨Bc, hBc⟩ : ∃ z, w17.heap.size = z := ⟨_, rfl⟩
  rw [hBc] at Kc hBwc ⊢
  replace Kr := hid (RSl.below intGood Kr.out bb)
  replace Ks := hid (Ks.out.more bb)
  replace Kl := hid (Kl.out.more bb)
  replace Kva := hid (RSl.below intGood Kva.out bb)
  replace Ka := hid (Ka.out.more bb)
  replace Kvb := hid (RSl.below intGood Kvb.out bb)
  replace Kb := hid (Kb.out.more bb)
  replace HB : Hid (Below w.heap.size w w18) := HB.out.trans (bb.mono HB.out.size)
  clear bb hw hsc hBc hBwc
  have cs0 : w18.cell? ⟨w.heap.size, 0, none⟩ = some (.slice ads s.cells.length cps) := Ks.out.c0
  have cs1 : w18.cell? ⟨w.heap.size, 1, none⟩ = some (.int .i64 s.ver) := Ks.out.c1
  have P := hid (radd_any w18 _ (.agg #[.slice ads s.cells.length cps, .int .i64 s.ver]) s z Ks.out.val hz HL.out)
  rw [← HRc.out] at P
  go_wp2_with fail
  refine P.out.mono ?_
  rintro e w19 ⟨sad, scd, rfl, hs, b⟩
  clear P
  clear cs0 cs1
  have hsd := hs.all
  clear hs
  replace Kr := hid (RSl.below intGood Kr.out b)
  replace Ks := hid (Ks.out.more b)
  replace Kl := hid (Kl.out.more b)
  replace Kva := hid (RSl.below intGood Kva.out b)
  replace Ka := hid (Ka.out.more b)
  replace Kvb := hid (RSl.below intGood Kvb.out b)
  replace Kb := hid (Kb.out.more b)
  replace Kc := hid (Kc.out.more b)
  replace HB : Hid (Below w.heap.size w _) := HB.out.trans (b.mono HB.out.size)
  clear b
  go_upto_region 8 with (fail)
  have bb := (Below.refl w19.heap.size w19).alloc (Nat.le_refl _) (.cells #[.slice sad tc.cells.length scd, .int .i64 tc.ver] 24)
  have Kd := hid (BSt.new HB.out hsd)
  have hBwd := HB.out.size
  obtain ⟨w20, hw⟩ : ∃ z, w19.alloc (.cells #[.slice sad tc.cells.length scd, .int .i64 tc.ver] 24) = z := ⟨_, rfl⟩
  rw [hw] at bb Kd ⊢
  obtain ⟨Bd, hBd⟩ : ∃ z, w19.heap.size = z := ⟨_, rfl⟩
  rw [hBd] at Kd hBwd ⊢
  replace Kr := hid (RSl.below intGood Kr.out bb)
  replace Ks := hid (Ks.out.more bb)
  replace Kl := hid (Kl.out.more bb)
  replace Kva := hid (RSl.below intGood Kva.out bb)
  replace Ka := hid (Ka.out.more bb)
  replace Kvb := hid (RSl.below intGood Kvb.out bb)
  replace Kb := hid (Kb.out.more bb)
  replace Kc := hid (Kc.out.more bb)
  replace HB : Hid (Below w.heap.size w w20) := HB.out.trans (bb.mono HB.out.size)
  clear bb hw hsd hBd hBwd
  obtain ⟨rr, hr⟩ : ∃ rr, rr = lookS s z := ⟨_, rfl⟩
  obtain ⟨ap, bp, ep⟩ := rr
  have HRp := hid hr
  have cs0 : w20.cell? ⟨w.heap.size, 0, none⟩ = some (.slice ads s.cells.length cps) := Ks.out.c0
  have cs1 : w20.cell? ⟨w.heap.size, 1, none⟩ = some (.int .i64 s.ver) := Ks.out.c1
  have P := hid (look_any w20 _ (.agg #[.slice ads s.cells.length cps, .int .i64 s.ver]) s z Ks.out.val)
  rw [← hr] at P
  clear hr
  go_wp2_with fail
  refine P.out.mono ?_
  rintro e w21 ⟨rfl, b⟩
  clear P
  clear cs0 cs1
  replace Kr := hid (RSl.below intGood Kr.out b)
  replace Ks := hid (Ks.out.more b)
  replace Kl := hid (Kl.out.more b)
  replace Kva := hid (RSl.below intGood Kva.out b)
  replace Ka := hid (Ka.out.more b)
  replace Kvb := hid (RSl.below intGood Kvb.out b)
  replace Kb := hid (Kb.out.more b)
  replace Kc := hid (Kc.out.more b)
  replace Kd := hid (Kd.out.more b)
  replace HB : Hid (Below w.heap.size w _) := HB.out.trans (b.mono HB.out.size)
  clear b
  go_upto_region 9 with (fail)
  have cs0 : w21.cell? ⟨w.heap.size, 0, none⟩ = some (.slice ads s.cells.length cps) := Ks.out.c0
  have cs1 : w21.cell? ⟨w.heap.size, 1, none⟩ = some (.int .i64 s.ver) := Ks.out.c1
  have P := hid (rlook_any w21 _ (.agg #[.slice ads s.cells.length cps, .int .i64 s.ver]) s z Ks.out.val)
  rw [← HRp.out] at P
  go_wp2_with fail
  refine P.out.mono ?_
  rintro e w22 ⟨rfl, b⟩
  clear P
  clear cs0 cs1
  replace Kr := hid (RSl.below intGood Kr.out b)
  replace Ks := hid (Ks.out.more b)
  replace Kl := hid (Kl.out.more b)
  replace Kva := hid (RSl.below intGood Kva.out b)
  replace Ka := hid (Ka.out.more b)
  replace Kvb := hid (RSl.below intGood Kvb.out b)
  replace Kb := hid (Kb.out.more b)
  replace Kc := hid (Kc.out.more b)
  replace Kd := hid (Kd.out.more b)
  replace HB : Hid (Below w.heap.size w _) := HB.out.trans (b.mono HB.out.size)
  clear b
  go_upto_region 10 with (fail)
  obtain ⟨rr, hr⟩ : ∃ rr, rr = moveS s r := ⟨_, rfl⟩
  obtain ⟨tm, em⟩ := rr
  have HRm := hid hr
  have cs0 : w22.cell? ⟨w.heap.size, 0, none⟩ = some (.slice ads s.cells.length cps) := Ks.out.c0
  have cs1 : w22.cell? ⟨w.heap.size, 1, none⟩ = some (.int .i64 s.ver) := Ks.out.c1
  have P := hid (move_any w22 _ _ (.agg #[.slice ads s.cells.length cps, .int .i64 s.ver]) (.slice adr r.length cpr) s r Ks.out.val Kr.out HL.out)
  rw [← hr] at P
  clear hr
  go_wp2_with fail
  refine P.out.mono ?_
  rintro e w23 ⟨sam, scm, rfl, hs, b⟩
  clear P
  clear cs0 cs1
  have hsm := hs.all
  clear hs
  replace Kr := hid (RSl.below intGood Kr.out b)
  replace Ks := hid (Ks.out.more b)
  replace Kl := hid (Kl.out.more b)
  replace Kva := hid (RSl.below intGood Kva.out b)
  replace Ka := hid (Ka.out.more b)
  replace Kvb := hid (RSl.below intGood Kvb.out b)
  replace Kb := hid (Kb.out.more b)
  replace Kc := hid (Kc.out.more b)
  replace Kd := hid (Kd.out.more b)
  replace HB : Hid (Below w.heap.size w _) := HB.out.trans (b.mono HB.out.size)
  clear b
  go_upto_region 11 with (fail)
  have bb := (Below.refl w23.heap.size w23).alloc (Nat.le_refl _) (.cells #[.slice sam tm.cells.length scm, .int .i64 tm.ver] 24)
  have Km := hid (BSt.new HB.out hsm)
  have hBwm := HB.out.size
  obtain ⟨w24, hw⟩ : ∃ z, w23.alloc (.cells #[.slice sam tm.cells.length scm, .int .i64 tm.ver] 24) = z := ⟨_, rfl⟩
  rw [hw] at bb Km ⊢
  obtain ⟨Bm, hBm⟩ : ∃ z, w23.heap.size = z := ⟨_, rfl⟩
  rw [hBm] at Km hBwm ⊢
  replace Kr := hid (RSl.below intGood Kr.out bb)
  replace Ks := hid (Ks.out.more bb)
  replace Kl := hid (Kl.out.more bb)
  replace Kva := hid (RSl.below intGood Kva.out bb)
  replace Ka := hid (Ka.out.more bb)
  replace Kvb := hid (RSl.below intGood Kvb.out bb)
  replace Kb := hid (Kb.out.more bb)
  replace Kc := hid (Kc.out.more bb)
  replace Kd := hid (Kd.out.more bb)
  replace HB : Hid (Below w.heap.size w w24) := HB.out.trans (bb.mono HB.out.size)
  clear bb hw hsm hBm hBwm
  have cs0 : w24.cell? ⟨w.heap.size, 0, none⟩ = some (.slice ads s.cells.length cps) := Ks.out.c0
  have cs1 : w24.cell? ⟨w.heap.size, 1, none⟩ = some (.int .i64 s.ver) := Ks.out.c1
  have P := hid (rmove_any w24 _ _ (.agg #[.slice ads s.cells.length cps, .int .i64 s.ver]) (.slice adr r.length cpr) s r Ks.out.val Kr.out HL.out)
  rw [← HRm.out] at P
  go_wp2_with fail
  refine P.out.mono ?_
  rintro e w25 ⟨sak, sck, rfl, hs, b⟩
  clear P
  clear cs0 cs1
  have hsk := hs.all
  clear hs
  replace Kr := hid (RSl.below intGood Kr.out b)
  replace Ks := hid (Ks.out.more b)
  replace Kl := hid (Kl.out.more b)
  replace Kva := hid (RSl.below intGood Kva.out b)
  replace Ka := hid (Ka.out.more b)
  replace Kvb := hid (RSl.below intGood Kvb.out b)
  replace Kb := hid (Kb.out.more b)
  replace Kc := hid (Kc.out.more b)
  replace Kd := hid (Kd.out.more b)
  replace Km := hid (Km.out.more b)
  replace HB : Hid (Below w.heap.size w _) := HB.out.trans (b.mono HB.out.size)
  clear b
  go_upto_region 12 with (fail)
  have bb := (Below.refl w25.heap.size w25).alloc (Nat.le_refl _) (.cells #[.slice sak tm.cells.length sck, .int .i64 tm.ver] 24)
  have Kk := hid (BSt.new HB.out hsk)
  have hBwk := HB.out.size
  obtain ⟨w26, hw⟩ : ∃ z, w25.alloc (.cells #[.slice sak tm.cells.length sck, .int .i64 tm.ver] 24) = z := ⟨_, rfl⟩
  rw [hw] at bb Kk ⊢
  obtain ⟨Bk, hBk⟩ : ∃ z, w25.heap.size = z := ⟨_, rfl⟩
  rw [hBk] at Kk hBwk ⊢
  replace Kr := hid (RSl.below intGood Kr.out bb)
  replace Ks := hid (Ks.out.more bb)
  replace Kl := hid (Kl.out.more bb)
  replace Kva := hid (RSl.below intGood Kva.out bb)
  replace Ka := hid (Ka.out.more bb)
  replace Kvb := hid (RSl.below intGood Kvb.out bb)
  replace Kb := hid (Kb.out.more bb)
  replace Kc := hid (Kc.out.more bb)
  replace Kd := hid (Kd.out.more bb)
  replace Km := hid (Km.out.more bb)
  replace HB : Hid (Below w.heap.size w w26) := HB.out.trans (bb.mono HB.out.size)
  clear bb hw hsk hBk hBwk
  have ca0 : w26.cell? ⟨Ba, 0, none⟩ = some (.slice saa ta.cells.length sca) := Ka.out.c0
  have ca1 : w26.cell? ⟨Ba, 1, none⟩ = some (.int .i64 ta.ver) := Ka.out.c1
  have cb0 : w26.cell? ⟨Bb, 0, none⟩ = some (.slice sab ta.cells.length scb) := Kb.out.c0
  have cb1 : w26.cell? ⟨Bb, 1, none⟩ = some (.int .i64 ta.ver) := Kb.out.c1
  have P := hid (ssame_any w26 _ _ (.agg #[.slice saa ta.cells.length sca, .int .i64 ta.ver]) (.agg #[.slice sab ta.cells.length scb, .int .i64 ta.ver]) ta ta Ka.out.val Kb.out.val)
  have hd : decide (ta = ta) = true := by simp
  rw [hd] at P
  clear hd
  go_wp2_with fail
  refine P.out.mono ?_
  rintro e w27 ⟨rfl, b⟩
  clear P
  clear ca0 ca1 cb0 cb1
  replace Kr := hid (RSl.below intGood Kr.out b)
  replace Ks := hid (Ks.out.more b)
  replace Kl := hid (Kl.out.more b)
  replace Kva := hid (RSl.below intGood Kva.out b)
  replace Ka := hid (Ka.out.more b)
  replace Kvb := hid (RSl.below intGood Kvb.out b)
  replace Kb := hid (Kb.out.more b)
  replace Kc := hid (Kc.out.more b)
  replace Kd := hid (Kd.out.more b)
  replace Km := hid (Km.out.more b)
  replace Kk := hid (Kk.out.more b)
  replace HB : Hid (Below w.heap.size w _) := HB.out.trans (b.mono HB.out.size)
  clear b
  have P := hid (numbers_any w27 _ _ (.slice vaa va.length vca) (.slice vab va.length vcb) va va Kva.out Kvb.out)
  have hd : (va == va) = true := by simp
  rw [hd] at P
  clear hd
  go_wp2_with fail
  refine P.out.mono ?_
  rintro e w28 ⟨rfl, b⟩
  clear P
  replace Kr := hid (RSl.below intGood Kr.out b)
  replace Ks := hid (Ks.out.more b)
  replace Kl := hid (Kl.out.more b)
  replace Kva := hid (RSl.below intGood Kva.out b)
  replace Ka := hid (Ka.out.more b)
  replace Kvb := hid (RSl.below intGood Kvb.out b)
  replace Kb := hid (Kb.out.more b)
  replace Kc := hid (Kc.out.more b)
  replace Kd := hid (Kd.out.more b)
  replace Km := hid (Km.out.more b)
  replace Kk := hid (Kk.out.more b)
  replace HB : Hid (Below w.heap.size w _) := HB.out.trans (b.mono HB.out.size)
  clear b
  have cc0 : w28.cell? ⟨Bc, 0, none⟩ = some (.slice sac tc.cells.length scc) := Kc.out.c0
  have cc1 : w28.cell? ⟨Bc, 1, none⟩ = some (.int .i64 tc.ver) := Kc.out.c1
  have cd0 : w28.cell? ⟨Bd, 0, none⟩ = some (.slice sad tc.cells.length scd) := Kd.out.c0
  have cd1 : w28.cell? ⟨Bd, 1, none⟩ = some (.int .i64 tc.ver) := Kd.out.c1
  have P := hid (ssame_any w28 _ _ (.agg #[.slice sac tc.cells.length scc, .int .i64 tc.ver]) (.agg #[.slice sad tc.cells.length scd, .int .i64 tc.ver]) tc tc Kc.out.val Kd.out.val)
  have hd : decide (tc = tc) = true := by simp
  rw [hd] at P
  clear hd
  go_wp2_with fail
  refine P.out.mono ?_
  rintro e w29 ⟨rfl, b⟩
  clear P
  clear cc0 cc1 cd0 cd1
  replace Kr := hid (RSl.below intGood Kr.out b)
  replace Ks := hid (Ks.out.more b)
  replace Kl := hid (Kl.out.more b)
  replace Kva := hid (RSl.below intGood Kva.out b)
  replace Ka := hid (Ka.out.more b)
  replace Kvb := hid (RSl.below intGood Kvb.out b)
  replace Kb := hid (Kb.out.more b)
  replace Kc := hid (Kc.out.more b)
  replace Kd := hid (Kd.out.more b)
  replace Km := hid (Km.out.more b)
  replace Kk := hid (Kk.out.more b)
  replace HB : Hid (Below w.heap.size w _) := HB.out.trans (b.mono HB.out.size)
  clear b
  go_upto_region 13 with (fail)
  obtain ⟨w30, hw5⟩ : ∃ z, w29.drew = z := ⟨_, rfl⟩
  have bd : Below w29.heap.size w29 w30 := by rw [← hw5]; exact (Below.refl _ _).drew
  replace Kr := hid (RSl.below intGood Kr.out bd)
  replace Ks := hid (Ks.out.more bd)
  replace Kl := hid (Kl.out.more bd)
  replace Kva := hid (RSl.below intGood Kva.out bd)
  replace Ka := hid (Ka.out.more bd)
  replace Kvb := hid (RSl.below intGood Kvb.out bd)
  replace Kb := hid (Kb.out.more bd)
  replace Kc := hid (Kc.out.more bd)
  replace Kd := hid (Kd.out.more bd)
  replace Km := hid (Km.out.more bd)
  replace Kk := hid (Kk.out.more bd)
  replace HB : Hid (Below w.heap.size w _) := HB.out.trans (bd.mono HB.out.size)
  have Cm0 : Hid (w30.cell? ⟨Bm, 0, none⟩ = some (.slice sam tm.cells.length scm)) := Km.out.c0
  have Cm1 : Hid (w30.cell? ⟨Bm, 1, none⟩ = some (.int .i64 tm.ver)) := Km.out.c1
  have Ck0 : Hid (w30.cell? ⟨Bk, 0, none⟩ = some (.slice sak tm.cells.length sck)) := Kk.out.c0
  have Ck1 : Hid (w30.cell? ⟨Bk, 1, none⟩ = some (.int .i64 tm.ver)) := Kk.out.c1
  have Cs0 : Hid (w30.cell? ⟨w.heap.size, 0, none⟩ = some (.slice ads s.cells.length cps)) := Ks.out.c0
  have Cs1 : Hid (w30.cell? ⟨w.heap.size, 1, none⟩ = some (.int .i64 s.ver)) := Ks.out.c1
  clear bd
  refine (wpIn_wide (n := 9)).1 ?_
  refine wpIn_region_held (fun W => Below w30.heap.size w30 W) (by kernel_rfl) ?_
  rw [hw5]
  clear hw5
  refine wpAnyHF_takeD (i := 0) 127 (v := .int .i64 ap) rfl rfl rfl (by kernel_rfl) (by kernel_rfl) (by kernel_rfl) (fun _ _ _ h => h) ⟨.inl ⟨rfl, fun W hW => by simp [execOp, go_sem]⟩, fun W => rfl⟩ (Below.refl _ _) ?_
  refine wpAnyHF_takeD (i := 1) 128 (v := .int .i64 ap) rfl rfl rfl (by kernel_rfl) (by kernel_rfl) (by kernel_rfl) (fun _ _ _ h => h) ⟨.inl ⟨rfl, fun W hW => by simp [execOp, go_sem]⟩, fun W => rfl⟩ (Below.refl _ _) ?_
  refine wpAnyHF_takeD (i := 2) 129 (v := .bool true) rfl rfl rfl (by kernel_rfl) (by kernel_rfl) (by kernel_rfl) (fun _ _ _ h => h) ⟨.inl ⟨rfl, fun W hW => by simp [execOp, go_sem]⟩, fun W => rfl⟩ (Below.refl _ _) ?_
  simp only [Act.put, List.setIfInBounds_toArray, List.set_cons_zero, List.set_cons_succ]
  refine wpAnyHF_takeD (i := 3) 130 (v := .bool true) rfl rfl rfl (by kernel_rfl) (by kernel_rfl) (by kernel_rfl) (fun _ _ _ h => h) ⟨.inl ⟨rfl, fun W hW => by simp [execOp, go_sem]⟩, fun W => rfl⟩ (Below.refl _ _) ?_
  refine wpAnyHF_takeD (i := 4) 131 (v := .int .i64 bp) rfl rfl rfl (by kernel_rfl) (by kernel_rfl) (by kernel_rfl) (fun _ _ _ h => h) ⟨.inl ⟨rfl, fun W hW => by simp [execOp, go_sem]⟩, fun W => rfl⟩ (Below.refl _ _) ?_
  refine wpAnyHF_takeD (i := 5) 132 (v := .int .i64 bp) rfl rfl rfl (by kernel_rfl) (by kernel_rfl) (by kernel_rfl) (fun _ _ _ h => h) ⟨.inl ⟨rfl, fun W hW => by simp [execOp, go_sem]⟩, fun W => rfl⟩ (Below.refl _ _) ?_
  simp only [Act.put, List.setIfInBounds_toArray, List.set_cons_zero, List.set_cons_succ]
  refine wpAnyHF_takeD (i := 6) 133 (v := .bool true) rfl rfl rfl (by kernel_rfl) (by kernel_rfl) (by kernel_rfl) (fun _ _ _ h => h) ⟨.inl ⟨rfl, fun W hW => by simp [execOp, go_sem]⟩, fun W => rfl⟩ (Below.refl _ _) ?_
  refine wpAnyHF_takeD (i := 7) 134 (v := .bool true) rfl rfl rfl (by kernel_rfl) (by kernel_rfl) (by kernel_rfl) (fun _ _ _ h => h) ⟨.inl ⟨rfl, fun W hW => by simp [execOp, go_sem]⟩, fun W => rfl⟩ (Below.refl _ _) ?_
  refine wpAnyHF_takeD (i := 8) 135 (v := .bool true) rfl rfl rfl (by kernel_rfl) (by kernel_rfl) (by kernel_rfl) (fun _ _ _ h => h) ⟨.inl ⟨rfl, fun W hW => by simp [execOp, go_sem]⟩, fun W => rfl⟩ (Below.refl _ _) ?_
  simp only [Act.put, List.setIfInBounds_toArray, List.set_cons_zero, List.set_cons_succ]
  refine wpAnyHF_takeD (i := 9) 136 (v := .int .i64 ep) rfl rfl rfl (by kernel_rfl) (by kernel_rfl) (by kernel_rfl) (fun _ _ _ h => h) ⟨.inl ⟨rfl, fun W hW => by simp [execOp, go_sem]⟩, fun W => rfl⟩ (Below.refl _ _) ?_
  refine wpAnyHF_takeD (i := 10) 137 (v := .int .i64 ep) rfl rfl rfl (by kernel_rfl) (by kernel_rfl) (by kernel_rfl) (fun _ _ _ h => h) ⟨.inl ⟨rfl, fun W hW => by simp [execOp, go_sem]⟩, fun W => rfl⟩ (Below.refl _ _) ?_
  refine wpAnyHF_takeD (i := 11) 138 (v := .bool true) rfl rfl rfl (by kernel_rfl) (by kernel_rfl) (by kernel_rfl) (fun _ _ _ h => h) ⟨.inl ⟨rfl, fun W hW => by simp [execOp, go_sem]⟩, fun W => rfl⟩ (Below.refl _ _) ?_
  simp only [Act.put, List.setIfInBounds_toArray, List.set_cons_zero, List.set_cons_succ]
  refine wpAnyHF_takeD (i := 12) 139 (v := .bool true) rfl rfl rfl (by kernel_rfl) (by kernel_rfl) (by kernel_rfl) (fun _ _ _ h => h) ⟨.inl ⟨rfl, fun W hW => by simp [execOp, go_sem]⟩, fun W => rfl⟩ (Below.refl _ _) ?_
  refine wpAnyHF_takeD (i := 13) 140 (v := .bool true) rfl rfl rfl (by kernel_rfl) (by kernel_rfl) (by kernel_rfl) (fun _ _ _ h => h) ⟨.inl ⟨rfl, fun W hW => by simp [execOp, go_sem]⟩, fun W => rfl⟩ (Below.refl _ _) ?_
  refine wpAnyHF_takeD (i := 14) 141 (v := .agg #[.slice sam tm.cells.length scm, .int .i64 tm.ver]) rfl rfl rfl (by kernel_rfl) (by kernel_rfl) (by kernel_rfl) (fun _ _ _ h => h) ⟨.inl ⟨rfl, fun W hW => by have m0 := later_cell hW Cm0.out; have m1 := later_cell hW Cm1.out; simp [execOp, go_sem, m0, m1]⟩, fun W => rfl⟩ (Below.refl _ _) ?_
  simp only [Act.put, List.setIfInBounds_toArray, List.set_cons_zero, List.set_cons_succ]
  refine wpAnyHF_takeD (i := 15) 142 (v := .agg #[.slice sak tm.cells.length sck, .int .i64 tm.ver]) rfl rfl rfl (by kernel_rfl) (by kernel_rfl) (by kernel_rfl) (fun _ _ _ h => h) ⟨.inl ⟨rfl, fun W hW => by have m0 := later_cell hW Ck0.out; have m1 := later_cell hW Ck1.out; simp [execOp, go_sem, m0, m1]⟩, fun W => rfl⟩ (Below.refl _ _) ?_
  refine wpAnyHF_one (i := 16) (by kernel_rfl) rfl rfl ?_
  refine wpIn_callD 143 rfl (P := Try.prog) (f := 18) (args := #[.agg #[.slice sam tm.cells.length scm, .int .i64 tm.ver], .agg #[.slice sak tm.cells.length sck, .int .i64 tm.ver]]) (by simp [execOp, resolve, invoke, go_sem]) ?_
  refine ((show decide (tm = tm) = true by simp) ▸ ssame_any _ _ _ _ _ tm tm (Km.out.val.more (Below.refl _ _)) (Kk.out.val.more (Below.refl _ _))).mono ?_
  rintro e w30x1 ⟨rfl, bx1'⟩
  have bx1 := bx1'
  refine ⟨_, rfl, bx1, ?_⟩
  simp only [Act.put, List.setIfInBounds_toArray, List.set_cons_zero, List.set_cons_succ]
  refine wpAnyHF_takeD (i := 17) 144 (v := .bool true) rfl rfl rfl (by kernel_rfl) (by kernel_rfl) (by kernel_rfl) (fun _ _ _ h => h) ⟨.inl ⟨rfl, fun W hW => by simp [execOp, go_sem]⟩, fun W => rfl⟩ bx1 ?_
  refine wpAnyHF_takeD (i := 18) 145 (v := .bool true) rfl rfl rfl (by kernel_rfl) (by kernel_rfl) (by kernel_rfl) (fun _ _ _ h => h) ⟨.inl ⟨rfl, fun W hW => by simp [execOp, go_sem]⟩, fun W => rfl⟩ bx1 ?_
  refine wpAnyHF_takeD (i := 19) 146 (v := .int .i64 em) rfl rfl rfl (by kernel_rfl) (by kernel_rfl) (by kernel_rfl) (fun _ _ _ h => h) ⟨.inl ⟨rfl, fun W hW => by simp [execOp, go_sem]⟩, fun W => rfl⟩ bx1 ?_
  simp only [Act.put, List.setIfInBounds_toArray, List.set_cons_zero, List.set_cons_succ]
  refine wpAnyHF_takeD (i := 20) 147 (v := .int .i64 em) rfl rfl rfl (by kernel_rfl) (by kernel_rfl) (by kernel_rfl) (fun _ _ _ h => h) ⟨.inl ⟨rfl, fun W hW => by simp [execOp, go_sem]⟩, fun W => rfl⟩ bx1 ?_
  refine wpAnyHF_takeD (i := 21) 148 (v := .bool true) rfl rfl rfl (by kernel_rfl) (by kernel_rfl) (by kernel_rfl) (fun _ _ _ h => h) ⟨.inl ⟨rfl, fun W hW => by simp [execOp, go_sem]⟩, fun W => rfl⟩ bx1 ?_
  refine wpAnyHF_takeD (i := 22) 149 (v := .bool true) rfl rfl rfl (by kernel_rfl) (by kernel_rfl) (by kernel_rfl) (fun _ _ _ h => h) ⟨.inl ⟨rfl, fun W hW => by simp [execOp, go_sem]⟩, fun W => rfl⟩ bx1 ?_
  simp only [Act.put, List.setIfInBounds_toArray, List.set_cons_zero, List.set_cons_succ]
  refine wpAnyHF_takeD (i := 23) 150 (v := .bool true) rfl rfl rfl (by kernel_rfl) (by kernel_rfl) (by kernel_rfl) (fun _ _ _ h => h) ⟨.inl ⟨rfl, fun W hW => by simp [execOp, go_sem]⟩, fun W => rfl⟩ bx1 ?_
  refine wpAnyHF_takeD (i := 24) 151 (v := .agg #[.slice ads s.cells.length cps, .int .i64 s.ver]) rfl rfl rfl (by kernel_rfl) (by kernel_rfl) (by kernel_rfl) (fun _ _ _ h => h) ⟨.inl ⟨rfl, fun W hW => by have m0 := later_cell hW Cs0.out; have m1 := later_cell hW Cs1.out; simp [execOp, go_sem, m0, m1]⟩, fun W => rfl⟩ bx1 ?_
  refine wpAnyHF_takeD (i := 26) 153 (v := .agg #[.slice ads s.cells.length cps, .int .i64 s.ver]) rfl rfl rfl (by kernel_rfl) (by kernel_rfl) (by kernel_rfl) (fun _ _ _ h => h) ⟨.inl ⟨rfl, fun W hW => by have m0 := later_cell hW Cs0.out; have m1 := later_cell hW Cs1.out; simp [execOp, go_sem, m0, m1]⟩, fun W => rfl⟩ bx1 ?_
  simp only [Act.put, List.setIfInBounds_toArray, List.set_cons_zero, List.set_cons_succ]
  refine wpAnyHF_one (i := 25) (by kernel_rfl) rfl rfl ?_
  refine wpIn_callD 152 rfl (P := Try.prog) (f := 20) (args := #[.agg #[.slice ads s.cells.length cps, .int .i64 s.ver]]) (by simp [execOp, resolve, invoke, go_sem]) ?_
  refine (roots_any _ _ _ s (Ks.out.val.more bx1) (by have := HF.out; omega)).mono ?_
  rintro e w30x2 ⟨vb1, vd1, rfl, hV, bx2'⟩
  have bx2 := bx1.trans (bx2'.mono bx1.size)
  refine ⟨_, rfl, bx2, ?_⟩
  simp only [Act.put, List.setIfInBounds_toArray, List.set_cons_zero, List.set_cons_succ]
  refine wpAnyHF_one (i := 27) (by kernel_rfl) rfl rfl ?_
  refine wpIn_callD 154 rfl (P := Try.prog) (f := 21) (args := #[.agg #[.slice ads s.cells.length cps, .int .i64 s.ver]]) (by simp [execOp, resolve, invoke, go_sem]) ?_
  refine (rroots_any _ _ _ s (Ks.out.val.more bx2) (by have := HF.out; omega)).mono ?_
  rintro e w30x3 ⟨vb2, vd2, rfl, hU, bx3'⟩
  have bx3 := bx2.trans (bx3'.mono bx2.size)
  replace hV := RSl.below intGood hV bx3'
  refine ⟨_, rfl, bx3, ?_⟩
  simp only [Act.put, List.setIfInBounds_toArray, List.set_cons_zero, List.set_cons_succ]
  refine wpAnyHF_one (i := 28) (by kernel_rfl) rfl rfl ?_
  refine wpIn_callD 155 rfl (P := Try.prog) (f := 19) (args := #[.slice vb1 s.cells.length vd1, .slice vb2 s.cells.length vd2]) (by simp [execOp, resolve, invoke, go_sem]) ?_
  refine ((show (s.cells.map (fun x : Pr => x.1) == s.cells.map (fun x : Pr => x.1)) = true by simp) ▸ numbers_any _ _ _ _ _ (s.cells.map (fun x : Pr => x.1)) (s.cells.map (fun x : Pr => x.1)) hV hU).mono ?_
  rintro e w30x4 ⟨rfl, bx4'⟩
  have bx4 := bx3.trans (bx4'.mono bx3.size)
  refine ⟨_, rfl, bx4, ?_⟩
  simp only [Act.put, List.setIfInBounds_toArray, List.set_cons_zero, List.set_cons_succ]
  refine wpAnyHF_takeD (i := 29) 156 (v := .bool true) rfl rfl rfl (by kernel_rfl) (by kernel_rfl) (by kernel_rfl) (fun _ _ _ h => h) ⟨.inl ⟨rfl, fun W hW => by simp [execOp, go_sem]⟩, fun W => rfl⟩ bx4 ?_
  refine wpAnyHF_takeD (i := 30) 33 (v := .bool true) rfl rfl rfl (by kernel_rfl) (by kernel_rfl) (by kernel_rfl) (fun _ _ _ h => h) ⟨.inl ⟨rfl, fun W hW => by simp [execOp, go_sem]⟩, fun W => rfl⟩ bx4 ?_
  simp only [Act.put, List.setIfInBounds_toArray, List.set_cons_zero, List.set_cons_succ]
  refine wpAnyHF_done (by kernel_rfl) ?_ _
  replace Kr := hid (RSl.below intGood Kr.out bx4)
  replace Ks := hid (Ks.out.more bx4)
  replace Kl := hid (Kl.out.more bx4)
  replace Kva := hid (RSl.below intGood Kva.out bx4)
  replace Ka := hid (Ka.out.more bx4)
  replace Kvb := hid (RSl.below intGood Kvb.out bx4)
  replace Kb := hid (Kb.out.more bx4)
  replace Kc := hid (Kc.out.more bx4)
  replace Kd := hid (Kd.out.more bx4)
  replace Km := hid (Km.out.more bx4)
  replace Kk := hid (Kk.out.more bx4)
  replace HB : Hid (Below w.heap.size w _) := HB.out.trans (bx4.mono HB.out.size)
  clear bx1 bx2 bx3 bx4 bx2' bx3' bx4' Cm0 Cm1 Ck0 Ck1 Cs0 Cs1
  gi_wp2
  clear hV hU
  obtain ⟨q, hq⟩ : ∃ q, q = validS s l := ⟨_, rfl⟩
  have HQ := hid hq
  clear hq
  obtain ⟨p, hp⟩ : ∃ q, q = chkS s := ⟨_, rfl⟩
  have HP := hid hp
  clear hp
  go_upto_region 14 with (fail)
  obtain ⟨w31, hw5⟩ : ∃ z, w30x4.drew = z := ⟨_, rfl⟩
  have bd : Below w30x4.heap.size w30x4 w31 := by rw [← hw5]; exact (Below.refl _ _).drew
  replace Kr := hid (RSl.below intGood Kr.out bd)
  replace Ks := hid (Ks.out.more bd)
  replace Kl := hid (Kl.out.more bd)
  replace Kva := hid (RSl.below intGood Kva.out bd)
  replace Ka := hid (Ka.out.more bd)
  replace Kvb := hid (RSl.below intGood Kvb.out bd)
  replace Kb := hid (Kb.out.more bd)
  replace Kc := hid (Kc.out.more bd)
  replace Kd := hid (Kd.out.more bd)
  replace Km := hid (Km.out.more bd)
  replace Kk := hid (Kk.out.more bd)
  replace HB : Hid (Below w.heap.size w _) := HB.out.trans (bd.mono HB.out.size)
  have Cs0 : Hid (w31.cell? ⟨w.heap.size, 0, none⟩ = some (.slice ads s.cells.length cps)) := Ks.out.c0
  have Cs1 : Hid (w31.cell? ⟨w.heap.size, 1, none⟩ = some (.int .i64 s.ver)) := Ks.out.c1
  have Cl0 : Hid (w31.cell? ⟨w.heap.size + 1, 0, none⟩ = some (.slice rl l.reads.length rcl)) := Kl.out.c0
  have Cl1 : Hid (w31.cell? ⟨w.heap.size + 1, 1, none⟩ = some (.slice ll l.levels.length lcl)) := Kl.out.c1
  clear bd
  refine (wpIn_wide (n := 9)).1 ?_
  refine wpIn_region_held (fun W => Below w31.heap.size w31 W) (by kernel_rfl) ?_
  rw [hw5]
  clear hw5
  refine wpAnyHF_takeD (i := 0) 157 (v := .bool true) rfl rfl rfl (by kernel_rfl) (by kernel_rfl) (by kernel_rfl) (fun _ _ _ h => h) ⟨.inl ⟨rfl, fun W hW => by simp [execOp, go_sem]⟩, fun W => rfl⟩ (Below.refl _ _) ?_
  refine wpAnyHF_takeD (i := 1) 158 (v := .bool true) rfl rfl rfl (by kernel_rfl) (by kernel_rfl) (by kernel_rfl) (fun _ _ _ h => h) ⟨.inl ⟨rfl, fun W hW => by simp [execOp, go_sem]⟩, fun W => rfl⟩ (Below.refl _ _) ?_
  refine wpAnyHF_takeD (i := 2) 159 (v := .bool true) rfl rfl rfl (by kernel_rfl) (by kernel_rfl) (by kernel_rfl) (fun _ _ _ h => h) ⟨.inl ⟨rfl, fun W hW => by simp [execOp, go_sem]⟩, fun W => rfl⟩ (Below.refl _ _) ?_
  simp only [Act.put, List.setIfInBounds_toArray, List.set_cons_zero, List.set_cons_succ]
  refine wpAnyHF_takeD (i := 3) 160 (v := .bool true) rfl rfl rfl (by kernel_rfl) (by kernel_rfl) (by kernel_rfl) (fun _ _ _ h => h) ⟨.inl ⟨rfl, fun W hW => by simp [execOp, go_sem]⟩, fun W => rfl⟩ (Below.refl _ _) ?_
  refine wpAnyHF_takeD (i := 4) 161 (v := .bool true) rfl rfl rfl (by kernel_rfl) (by kernel_rfl) (by kernel_rfl) (fun _ _ _ h => h) ⟨.inl ⟨rfl, fun W hW => by simp [execOp, go_sem]⟩, fun W => rfl⟩ (Below.refl _ _) ?_
  refine wpAnyHF_takeD (i := 5) 162 (v := .bool true) rfl rfl rfl (by kernel_rfl) (by kernel_rfl) (by kernel_rfl) (fun _ _ _ h => h) ⟨.inl ⟨rfl, fun W hW => by simp [execOp, go_sem]⟩, fun W => rfl⟩ (Below.refl _ _) ?_
  simp only [Act.put, List.setIfInBounds_toArray, List.set_cons_zero, List.set_cons_succ]
  refine wpAnyHF_takeD (i := 6) 163 (v := .bool true) rfl rfl rfl (by kernel_rfl) (by kernel_rfl) (by kernel_rfl) (fun _ _ _ h => h) ⟨.inl ⟨rfl, fun W hW => by simp [execOp, go_sem]⟩, fun W => rfl⟩ (Below.refl _ _) ?_
  refine wpAnyHF_takeD (i := 7) 164 (v := .bool true) rfl rfl rfl (by kernel_rfl) (by kernel_rfl) (by kernel_rfl) (fun _ _ _ h => h) ⟨.inl ⟨rfl, fun W hW => by simp [execOp, go_sem]⟩, fun W => rfl⟩ (Below.refl _ _) ?_
  refine wpAnyHF_takeD (i := 8) 165 (v := .agg #[.slice ads s.cells.length cps, .int .i64 s.ver]) rfl rfl rfl (by kernel_rfl) (by kernel_rfl) (by kernel_rfl) (fun _ _ _ h => h) ⟨.inl ⟨rfl, fun W hW => by have m0 := later_cell hW Cs0.out; have m1 := later_cell hW Cs1.out; simp [execOp, go_sem, m0, m1]⟩, fun W => rfl⟩ (Below.refl _ _) ?_
  simp only [Act.put, List.setIfInBounds_toArray, List.set_cons_zero, List.set_cons_succ]
  refine wpAnyHF_takeD (i := 10) 167 (v := .agg #[.slice ads s.cells.length cps, .int .i64 s.ver]) rfl rfl rfl (by kernel_rfl) (by kernel_rfl) (by kernel_rfl) (fun _ _ _ h => h) ⟨.inl ⟨rfl, fun W hW => by have m0 := later_cell hW Cs0.out; have m1 := later_cell hW Cs1.out; simp [execOp, go_sem, m0, m1]⟩, fun W => rfl⟩ (Below.refl _ _) ?_
  refine wpAnyHF_one (i := 9) (by kernel_rfl) rfl rfl ?_
  refine wpIn_callD 166 rfl (P := Try.prog) (f := 22) (args := #[.agg #[.slice ads s.cells.length cps, .int .i64 s.ver]]) (by simp [execOp, resolve, invoke, go_sem]) ?_
  refine (HP.out.symm ▸ scheck_any _ _ _ s (Ks.out.val.more (Below.refl _ _))).mono ?_
  rintro e w31x1 ⟨rfl, bx1'⟩
  have bx1 := bx1'
  refine ⟨_, rfl, bx1, ?_⟩
  simp only [Act.put, List.setIfInBounds_toArray, List.set_cons_zero, List.set_cons_succ]
  refine wpAnyHF_one (i := 11) (by kernel_rfl) rfl rfl ?_
  refine wpIn_callD 168 rfl (P := Try.prog) (f := 23) (args := #[.agg #[.slice ads s.cells.length cps, .int .i64 s.ver]]) (by simp [execOp, resolve, invoke, go_sem]) ?_
  refine (HP.out.symm ▸ rscheck_any _ _ _ s (Ks.out.val.more bx1)).mono ?_
  rintro e w31x2 ⟨rfl, bx2'⟩
  have bx2 := bx1.trans (bx2'.mono bx1.size)
  refine ⟨_, rfl, bx2, ?_⟩
  simp only [Act.put, List.setIfInBounds_toArray, List.set_cons_zero, List.set_cons_succ]
  refine wpAnyHF_takeD (i := 12) 169 (v := .bool true) rfl rfl rfl (by kernel_rfl) (by kernel_rfl) (by kernel_rfl) (fun _ _ _ h => h) ⟨.inl ⟨rfl, fun W hW => by simp [execOp, go_sem]⟩, fun W => rfl⟩ bx2 ?_
  refine wpAnyHF_takeD (i := 13) 170 (v := .bool true) rfl rfl rfl (by kernel_rfl) (by kernel_rfl) (by kernel_rfl) (fun _ _ _ h => h) ⟨.inl ⟨rfl, fun W hW => by simp [execOp, go_sem]⟩, fun W => rfl⟩ bx2 ?_
  refine wpAnyHF_takeD (i := 14) 171 (v := .bool true) rfl rfl rfl (by kernel_rfl) (by kernel_rfl) (by kernel_rfl) (fun _ _ _ h => h) ⟨.inl ⟨rfl, fun W hW => by simp [execOp, go_sem]⟩, fun W => rfl⟩ bx2 ?_
  simp only [Act.put, List.setIfInBounds_toArray, List.set_cons_zero, List.set_cons_succ]
  refine wpAnyHF_takeD (i := 15) 172 (v := .agg #[.slice ads s.cells.length cps, .int .i64 s.ver]) rfl rfl rfl (by kernel_rfl) (by kernel_rfl) (by kernel_rfl) (fun _ _ _ h => h) ⟨.inl ⟨rfl, fun W hW => by have m0 := later_cell hW Cs0.out; have m1 := later_cell hW Cs1.out; simp [execOp, go_sem, m0, m1]⟩, fun W => rfl⟩ bx2 ?_
  refine wpAnyHF_takeD (i := 16) 173 (v := .agg #[.slice rl l.reads.length rcl, .slice ll l.levels.length lcl]) rfl rfl rfl (by kernel_rfl) (by kernel_rfl) (by kernel_rfl) (fun _ _ _ h => h) ⟨.inl ⟨rfl, fun W hW => by have m0 := later_cell hW Cl0.out; have m1 := later_cell hW Cl1.out; simp [execOp, go_sem, m0, m1]⟩, fun W => rfl⟩ bx2 ?_
  refine wpAnyHF_takeD (i := 18) 175 (v := .agg #[.slice ads s.cells.length cps, .int .i64 s.ver]) rfl rfl rfl (by kernel_rfl) (by kernel_rfl) (by kernel_rfl) (fun _ _ _ h => h) ⟨.inl ⟨rfl, fun W hW => by have m0 := later_cell hW Cs0.out; have m1 := later_cell hW Cs1.out; simp [execOp, go_sem, m0, m1]⟩, fun W => rfl⟩ bx2 ?_
  simp only [Act.put, List.setIfInBounds_toArray, List.set_cons_zero, List.set_cons_succ]
  refine wpAnyHF_takeD (i := 19) 176 (v := .agg #[.slice rl l.reads.length rcl, .slice ll l.levels.length lcl]) rfl rfl rfl (by kernel_rfl) (by kernel_rfl) (by kernel_rfl) (fun _ _ _ h => h) ⟨.inl ⟨rfl, fun W hW => by have m0 := later_cell hW Cl0.out; have m1 := later_cell hW Cl1.out; simp [execOp, go_sem, m0, m1]⟩, fun W => rfl⟩ bx2 ?_
  refine wpAnyHF_one (i := 17) (by kernel_rfl) rfl rfl ?_
  refine wpIn_callD 174 rfl (P := Try.prog) (f := 24) (args := #[.agg #[.slice ads s.cells.length cps, .int .i64 s.ver], .agg #[.slice rl l.reads.length rcl, .slice ll l.levels.length lcl]]) (by simp [execOp, resolve, invoke, go_sem]) ?_
  refine (HQ.out.symm ▸ svalid_any _ _ _ _ _ s l (Ks.out.val.more bx2) (Kl.out.val.more bx2)).mono ?_
  rintro e w31x3 ⟨rfl, bx3'⟩
  have bx3 := bx2.trans (bx3'.mono bx2.size)
  refine ⟨_, rfl, bx3, ?_⟩
  simp only [Act.put, List.setIfInBounds_toArray, List.set_cons_zero, List.set_cons_succ]
  refine wpAnyHF_one (i := 20) (by kernel_rfl) rfl rfl ?_
  refine wpIn_callD 177 rfl (P := Try.prog) (f := 25) (args := #[.agg #[.slice ads s.cells.length cps, .int .i64 s.ver], .agg #[.slice rl l.reads.length rcl, .slice ll l.levels.length lcl]]) (by simp [execOp, resolve, invoke, go_sem]) ?_
  refine (HQ.out.symm ▸ rvalid_any _ _ _ _ _ s l (Ks.out.val.more bx3) (Kl.out.val.more bx3)).mono ?_
  rintro e w31x4 ⟨rfl, bx4'⟩
  have bx4 := bx3.trans (bx4'.mono bx3.size)
  refine ⟨_, rfl, bx4, ?_⟩
  simp only [Act.put, List.setIfInBounds_toArray, List.set_cons_zero, List.set_cons_succ]
  refine wpAnyHF_takeD (i := 21) 178 (v := .bool true) rfl rfl rfl (by kernel_rfl) (by kernel_rfl) (by kernel_rfl) (fun _ _ _ h => h) ⟨.inl ⟨rfl, fun W hW => by simp [execOp, go_sem]⟩, fun W => rfl⟩ bx4 ?_
  refine wpAnyHF_takeD (i := 22) 179 (v := .bool true) rfl rfl rfl (by kernel_rfl) (by kernel_rfl) (by kernel_rfl) (fun _ _ _ h => h) ⟨.inl ⟨rfl, fun W hW => by simp [execOp, go_sem]⟩, fun W => rfl⟩ bx4 ?_
  refine wpAnyHF_takeD (i := 23) 8 (v := .bool true) rfl rfl rfl (by kernel_rfl) (by kernel_rfl) (by kernel_rfl) (fun _ _ _ h => h) ⟨.inl ⟨rfl, fun W hW => by simp [execOp, go_sem]⟩, fun W => rfl⟩ bx4 ?_
  simp only [Act.put, List.setIfInBounds_toArray, List.set_cons_zero, List.set_cons_succ]
  refine wpAnyHF_done (by kernel_rfl) ?_ _
  replace Kr := hid (RSl.below intGood Kr.out bx4)
  replace Ks := hid (Ks.out.more bx4)
  replace Kl := hid (Kl.out.more bx4)
  replace Kva := hid (RSl.below intGood Kva.out bx4)
  replace Ka := hid (Ka.out.more bx4)
  replace Kvb := hid (RSl.below intGood Kvb.out bx4)
  replace Kb := hid (Kb.out.more bx4)
  replace Kc := hid (Kc.out.more bx4)
  replace Kd := hid (Kd.out.more bx4)
  replace Km := hid (Km.out.more bx4)
  replace Kk := hid (Kk.out.more bx4)
  replace HB : Hid (Below w.heap.size w _) := HB.out.trans (bx4.mono HB.out.size)
  clear bx1 bx2 bx3 bx4 bx2' bx3' bx4' Cs0 Cs1 Cl0 Cl1
  gi_wp2
  go_wp2_with fail
  go_ret
  exact Go.Proofs.Ytplckigmllkpoaa.Bb.fin rfl HB.out
end Go.Proofs.Ytplckigmllkpoaa
