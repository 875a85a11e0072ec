/- StoreStale: the walk. -/
import Derived.Test.YtplckigmllkpoaaStN
namespace Go.Proofs.Ytplckigmllkpoaa
open Go.RowKit Go.Shelf Go.Maps
attribute [local go_sem] Oper.semAt_some
set_option maxRecDepth 100000 in
set_option maxHeartbeats 32000000 in
theorem stale_way (vs : Value) (vl : Value) (vm : Value) (w : World) (hs : ∃ s, SVal w (fun _ => True) vs s) (hl : ∃ l, GVal w (fun _ => True) vl l) (hm : ∃ m, GVal w (fun _ => True) vm m) :
    Calls Try.prog 4 #[vs, vl, vm] w (Bb true w) := by
  obtain ⟨s, hs⟩ := hs
  have qs := hs
  obtain ⟨ads, cps, rfl, his, hs⟩ := hs
  obtain ⟨_, _, e, l1, _⟩ := hs.shape
  cases e
  clear hs
  have HIs := hid his
  obtain ⟨l, hl⟩ := hl
  have ql := hl
  obtain ⟨rl, rcl, ll, lcl, rfl, hr, hl⟩ := hl
  obtain ⟨_, _, e, l2, _⟩ := hr.shape
  cases e
  obtain ⟨_, _, e, l3, _⟩ := hl.shape
  cases e
  clear hr hl
  obtain ⟨m, hm⟩ := hm
  have qm := hm
  obtain ⟨rm, rcm, lm, lcm, rfl, hr, hl⟩ := hm
  obtain ⟨_, _, e, l2, _⟩ := hr.shape
  cases e
  obtain ⟨_, _, e, l3, _⟩ := hl.shape
  cases e
  clear hr hl
  have HB : Hid (Below w.heap.size w w) := Below.refl _ _
  obtain ⟨Ws, hws⟩ : ∃ z, w.alloc (.cells #[.slice ads s.cells.length cps, .int .i64 s.ver] 24) = z := ⟨_, rfl⟩
  have bb := (Below.refl w.heap.size w).alloc (Nat.le_refl _) (.cells #[.slice ads s.cells.length cps, .int .i64 s.ver] 24)
  rw [hws] at bb
  have Ks := hid (BSt.new HB.out qs)
  rw [hws] at Ks
  replace HB : Hid (Below w.heap.size w Ws) := HB.out.trans (bb.mono HB.out.size)
  have hzWs : Ws.heap.size = w.heap.size + 1 := by rw [← hws]; simp
  clear bb qs
  obtain ⟨Wl, hwl⟩ : ∃ z, Ws.alloc (.cells #[.slice rl l.reads.length rcl, .slice ll l.levels.length lcl] 28) = z := ⟨_, rfl⟩
  have bb := (Below.refl Ws.heap.size Ws).alloc (Nat.le_refl _) (.cells #[.slice rl l.reads.length rcl, .slice ll l.levels.length lcl] 28)
  rw [hwl] at bb
  have Kl := hid (BLg.new HB.out (ql.more HB.out))
  rw [hwl] at Kl
  rw [hzWs] at Kl
  replace Ks := hid (Ks.out.more bb)
  replace HB : Hid (Below w.heap.size w Wl) := HB.out.trans (bb.mono HB.out.size)
  have hzWl : Wl.heap.size = w.heap.size + 2 := by rw [← hwl]; simp [hzWs]
  clear bb ql
  obtain ⟨Wm, hwm⟩ : ∃ z, Wl.alloc (.cells #[.slice rm m.reads.length rcm, .slice lm m.levels.length lcm] 28) = z := ⟨_, rfl⟩
  have bb := (Below.refl Wl.heap.size Wl).alloc (Nat.le_refl _) (.cells #[.slice rm m.reads.length rcm, .slice lm m.levels.length lcm] 28)
  rw [hwm] at bb
  have Km := hid (BLg.new HB.out (qm.more HB.out))
  rw [hwm] at Km
  rw [hzWl] at Km
  replace Ks := hid (Ks.out.more bb)
  replace Kl := hid (Kl.out.more bb)
  replace HB : Hid (Below w.heap.size w Wm) := HB.out.trans (bb.mono HB.out.size)
  have hzWm : Wm.heap.size = w.heap.size + 3 := by rw [← hwm]; simp [hzWl]
  clear bb qm
  have HW := hwm
  rw [← hwl] at HW
  rw [← hws] at HW
  replace HW := hid HW
  have HZ := hid hzWm
  clear hws hwl hwm hzWs hzWl hzWm
  go_enter Try.func4, Try.ntmps4
  go_upto_region 1 with (fail)
  rw [HW.out]
  clear HW
  have P := hid (awake_any Wm)
  go_wp2_with fail
  refine P.out.mono ?_
  rintro e w11 ⟨rfl, b⟩
  clear P
  replace Ks := hid (Ks.out.more b)
  replace Kl := hid (Kl.out.more b)
  replace Km := hid (Km.out.more b)
  replace HB : Hid (Below w.heap.size w _) := HB.out.trans (b.mono HB.out.size)
  clear b
  obtain ⟨q, hq⟩ : ∃ q, q = (decide (s.cells.length ≤ 300) && fewG l) := ⟨_, rfl⟩
  have cs0 : w11.cell? ⟨w.heap.size, 0, none⟩ = some (.slice ads s.cells.length cps) := Ks.out.c0
  have cs1 : w11.cell? ⟨w.heap.size, 1, none⟩ = some (.int .i64 s.ver) := Ks.out.c1
  have cl0 : w11.cell? ⟨w.heap.size + 1, 0, none⟩ = some (.slice rl l.reads.length rcl) := Kl.out.c0
  have cl1 : w11.cell? ⟨w.heap.size + 1, 1, none⟩ = some (.slice ll l.levels.length lcl) := Kl.out.c1
  have P := hid (sfew_any w11 _ _ (.agg #[.slice ads s.cells.length cps, .int .i64 s.ver]) (.agg #[.slice rl l.reads.length rcl, .slice ll l.levels.length lcl]) s l Ks.out.val Kl.out.val)
  rw [← hq] at P
  have HQ := hid hq
  clear hq
  go_wp2_with fail
  refine P.out.mono ?_
  rintro e w12 ⟨rfl, b⟩
  clear P
  clear cs0 cs1 cl0 cl1
  replace Ks := hid (Ks.out.more b)
  replace Kl := hid (Kl.out.more b)
  replace Km := hid (Km.out.more b)
  replace HB : Hid (Below w.heap.size w _) := HB.out.trans (b.mono HB.out.size)
  clear b
  cases q
  · go_wp2_with fail
    go_ret
    exact Bb.fin rfl HB.out
  have HF := hid (show s.cells.length ≤ 300 by have h := HQ.out.symm; simp only [Bool.and_eq_true, decide_eq_true_eq] at h; exact h.1)
  have HG := hid (show Okl l 100 by have h := HQ.out.symm; simp only [Bool.and_eq_true] at h; exact fewG_ok h.2)
  clear HQ
  have HL := hid (show s.cells.length ≤ 100000 by have := HF.out; omega)
  have HLL := hid (show ∀ x ∈ l.levels, x.length ≤ 100000 from fun x hx => by have := HG.out.2.2 x hx; omega)
  obtain ⟨q, hq⟩ : ∃ q, q = fewG m := ⟨_, rfl⟩
  have cm0 : w12.cell? ⟨w.heap.size + 2, 0, none⟩ = some (.slice rm m.reads.length rcm) := Km.out.c0
  have cm1 : w12.cell? ⟨w.heap.size + 2, 1, none⟩ = some (.slice lm m.levels.length lcm) := Km.out.c1
  have P := hid (few_any w12 _ (.agg #[.slice rm m.reads.length rcm, .slice lm m.levels.length lcm]) m Km.out.val)
  rw [← hq] at P
  have HQ := hid hq
  clear hq
  go_wp2_with fail
  refine P.out.mono ?_
  rintro e w13 ⟨rfl, b⟩
  clear P
  clear cm0 cm1
  replace Ks := hid (Ks.out.more b)
  replace Kl := hid (Kl.out.more b)
  replace Km := hid (Km.out.more b)
  replace HB : Hid (Below w.heap.size w _) := HB.out.trans (b.mono HB.out.size)
  clear b
  cases q
  · go_wp2_with fail
    go_ret
    exact Bb.fin rfl HB.out
  have HM := hid (show Okl m 100 from fewG_ok HQ.out.symm)
  have HML := hid (show ∀ x ∈ m.levels, x.length ≤ 100000 from fun x hx => by have := HM.out.2.2 x hx; omega)
  clear HQ
  obtain ⟨r, hr⟩ : ∃ r, r = commitS s l := ⟨_, rfl⟩
  obtain ⟨tt, vt, et⟩ := r
  have HRt := hid hr
  have cs0 : w13.cell? ⟨w.heap.size, 0, none⟩ = some (.slice ads s.cells.length cps) := Ks.out.c0
  have cs1 : w13.cell? ⟨w.heap.size, 1, none⟩ = some (.int .i64 s.ver) := Ks.out.c1
  have cl0 : w13.cell? ⟨w.heap.size + 1, 0, none⟩ = some (.slice rl l.reads.length rcl) := Kl.out.c0
  have cl1 : w13.cell? ⟨w.heap.size + 1, 1, none⟩ = some (.slice ll l.levels.length lcl) := Kl.out.c1
  have P := hid (commit_any w13 _ _ (.agg #[.slice ads s.cells.length cps, .int .i64 s.ver]) (.agg #[.slice rl l.reads.length rcl, .slice ll l.levels.length lcl]) s l Ks.out.val Kl.out.val HL.out HLL.out)
  rw [← hr] at P
  clear hr
  go_wp2_with fail
  refine P.out.mono ?_
  rintro e w14 ⟨sat, sct, vat, vct, rfl, hs, hv, b⟩
  clear P
  clear cs0 cs1 cl0 cl1
  have hst := hs.all
  have Kvt := hid (RSl.weak intGood (by decide) (ok' := fun _ => True) hv (fun _ _ _ => trivial))
  clear hs hv
  obtain ⟨_, _, ev, lvt, _⟩ := ISl.shape Kvt.out
  clear ev
  replace Ks := hid (Ks.out.more b)
  replace Kl := hid (Kl.out.more b)
  replace Km := hid (Km.out.more b)
  replace HB : Hid (Below w.heap.size w _) := HB.out.trans (b.mono HB.out.size)
  clear b
  go_upto_region 5 with (fail)
  have bb := (Below.refl w14.heap.size w14).alloc (Nat.le_refl _) (.cells #[.slice sat tt.cells.length sct, .int .i64 tt.ver] 24)
  have Kt := hid (BSt.new HB.out hst)
  have hBwt := HB.out.size
  obtain ⟨w15, hw⟩ : ∃ z, w14.alloc (.cells #[.slice sat tt.cells.length sct, .int .i64 tt.ver] 24) = z := ⟨_, rfl⟩
  rw [hw] at bb Kt ⊢
  obtain ⟨Bt, hBt⟩ : ∃ z, w14.heap.size = z := ⟨_, rfl⟩
  rw [hBt] at Kt hBwt ⊢
  replace Ks := hid (Ks.out.more bb)
  replace Kl := hid (Kl.out.more bb)
  replace Km := hid (Km.out.more bb)
  replace Kvt := hid (RSl.below intGood Kvt.out bb)
  replace HB : Hid (Below w.heap.size w w15) := HB.out.trans (bb.mono HB.out.size)
  clear bb hw hst hBt hBwt
  obtain ⟨p, hp⟩ : ∃ p, p = validS s m := ⟨_, rfl⟩
  have cs0 : w15.cell? ⟨w.heap.size, 0, none⟩ = some (.slice ads s.cells.length cps) := Ks.out.c0
  have cs1 : w15.cell? ⟨w.heap.size, 1, none⟩ = some (.int .i64 s.ver) := Ks.out.c1
  have cm0 : w15.cell? ⟨w.heap.size + 2, 0, none⟩ = some (.slice rm m.reads.length rcm) := Km.out.c0
  have cm1 : w15.cell? ⟨w.heap.size + 2, 1, none⟩ = some (.slice lm m.levels.length lcm) := Km.out.c1
  have P := hid (svalid_any w15 _ _ (.agg #[.slice ads s.cells.length cps, .int .i64 s.ver]) (.agg #[.slice rm m.reads.length rcm, .slice lm m.levels.length lcm]) s m Ks.out.val Km.out.val)
  rw [← hp] at P
  have HP := hid hp
  clear hp
  go_wp2_with fail
  refine P.out.mono ?_
  rintro e w16 ⟨rfl, b⟩
  clear P
  clear cs0 cs1 cm0 cm1
  replace Ks := hid (Ks.out.more b)
  replace Kl := hid (Kl.out.more b)
  replace Km := hid (Km.out.more b)
  replace Kvt := hid (RSl.below intGood Kvt.out b)
  replace Kt := hid (Kt.out.more b)
  replace HB : Hid (Below w.heap.size w _) := HB.out.trans (b.mono HB.out.size)
  clear b
  obtain ⟨q, hq⟩ : ∃ p, p = validS tt m := ⟨_, rfl⟩
  have ct0 : w16.cell? ⟨Bt, 0, none⟩ = some (.slice sat tt.cells.length sct) := Kt.out.c0
  have ct1 : w16.cell? ⟨Bt, 1, none⟩ = some (.int .i64 tt.ver) := Kt.out.c1
  have cm0 : w16.cell? ⟨w.heap.size + 2, 0, none⟩ = some (.slice rm m.reads.length rcm) := Km.out.c0
  have cm1 : w16.cell? ⟨w.heap.size + 2, 1, none⟩ = some (.slice lm m.levels.length lcm) := Km.out.c1
  have P := hid (svalid_any w16 _ _ (.agg #[.slice sat tt.cells.length sct, .int .i64 tt.ver]) (.agg #[.slice rm m.reads.length rcm, .slice lm m.levels.length lcm]) tt m Kt.out.val Km.out.val)
  rw [← hq] at P
  have HQ := hid hq
  clear hq
  go_wp2_with fail
  refine P.out.mono ?_
  rintro e w17 ⟨rfl, b⟩
  clear P
  clear ct0 ct1 cm0 cm1
  replace Ks := hid (Ks.out.more b)
  replace Kl := hid (Kl.out.more b)
  replace Km := hid (Km.out.more b)
  replace Kvt := hid (RSl.below intGood Kvt.out b)
  replace Kt := hid (Kt.out.more b)
  replace HB : Hid (Below w.heap.size w _) := HB.out.trans (b.mono HB.out.size)
  clear b
  have LR := hid (show m.reads.length ≤ 100 from HM.out.1)
  go_upto_region 9 with (fail)
  go_loopw [13, 14] (fun f i wr => ∃ (k : Nat) (b : Bool), k ≤ m.reads.length ∧ i = .int .i64 k ∧ f = .bool b ∧ Hid (b = (m.reads.take k).any (fun x => vt.contains x.1)) ∧ Hid (Below w17.heap.size w17 wr)) (fun _ i _ => m.reads.length - (intOf i).toNat)
  case atStart => exact ⟨0, false, Nat.zero_le _, rfl, rfl, by show _ = _; simp, Below.refl _ _⟩
  case round =>
    obtain ⟨k, b, hk, rfl, rfl, HB1, HW1⟩ := hrel
    have K1 := hid (Km.out.more HW1.out)
    have c0 : wr.cell? ⟨w.heap.size + 2, 0, none⟩ = some (.slice rm m.reads.length rcm) := K1.out.c0
    by_cases hlt : k < m.reads.length
    · obtain ⟨x, hx⟩ : ∃ x, m.reads[k]? = some x := ⟨_, List.getElem?_eq_getElem hlt⟩
      have HX := hid hx
      clear hx
      go_upto_region 12 with (fail)
      clear c0
      go_loopw [13, 15] (fun f i wr' => ∃ (j : Nat) (c : Bool), j ≤ vt.length ∧ i = .int .i64 j ∧ f = .bool c ∧ Hid (c = ((m.reads.take k).any (fun x => vt.contains x.1) || (vt.take j).contains x.1)) ∧ Hid (Below w17.heap.size w17 wr')) (fun _ i _ => vt.length - (intOf i).toNat)
      case atStart => exact ⟨0, b, Nat.zero_le _, rfl, rfl, by show _ = _; rw [HB1.out]; simp, HW1⟩
      case round =>
        obtain ⟨j, c, hj, rfl, rfl, HC, HW2⟩ := hrel
        clear HB1 K1
        by_cases hlj : j < vt.length
        · have c0 : wr.cell? ⟨w.heap.size + 2, 0, none⟩ = some (.slice rm m.reads.length rcm) := (Km.out.more HW2.out).c0
          obtain ⟨_, _, _, _, ev, hr, _⟩ := Km.out.val
          cases ev
          obtain ⟨b1, o1, c1', hv1, _, _, e1, _⟩ := hr.pick HW2.out HX.out
          cases hv1
          clear hr
          obtain ⟨b2, o2, c2', y, hv2, hy, _, e2⟩ := ISl.at Kvt.out HW2.out hlj
          cases hv2
          have HY := hid hy
          clear hy
          have hs2 := HW2.out.size
          obtain ⟨q1, hq1⟩ : ∃ q, q = (x.1 == y) := ⟨_, rfl⟩
          have HN : Hid ((c || q1) = ((m.reads.take k).any (fun x => vt.contains x.1) || (vt.take (j + 1)).contains x.1)) := by show _ = _; rw [has_more HY.out, ← Bool.or_assoc, ← HC.out, hq1]
          clear HC
          cases c
          · cases q1
            · have f9 : (x.1 == y) = false := hq1.symm
              clear hq1
              go_wp2_with fail
              go_quiet (fail)
              go_wp2_with fail
              go_roundw
              case rel => exact ⟨j + 1, false, by omega, by go_num, rfl, HN, below_drewN HW2.out _⟩
              case measure => simp [intOf]; omega
            · have f9 : (x.1 == y) = true := hq1.symm
              clear hq1
              go_wp2_with fail
              go_quiet (fail)
              go_wp2_with fail
              go_roundw
              case rel => exact ⟨j + 1, true, by omega, by go_num, rfl, HN, below_drewN HW2.out _⟩
              case measure => simp [intOf]; omega
          · clear hq1
            go_wp2_with fail
            go_quiet (fail)
            go_wp2_with fail
            go_roundw
            case rel => exact ⟨j + 1, true, by omega, by go_num, rfl, HN, below_drewN HW2.out _⟩
            case measure => simp [intOf]; omega
        · obtain rfl : j = vt.length := by omega
          rw [List.take_length] at HC
          have HN : Hid (c = (m.reads.take (k + 1)).any (fun x => vt.contains x.1)) := by show _ = _; rw [any_more HX.out, ← HC.out]
          clear HC
          go_wp2_with fail
          go_roundw
          case rel => exact ⟨k + 1, c, by omega, by go_num, rfl, HN, HW2⟩
          case measure => simp [intOf]; omega
    · obtain rfl : k = m.reads.length := by omega
      rw [List.take_length] at HB1
      replace HB := hid (HB.out.trans (HW1.out.mono HB.out.size))
      by_cases he : et = 0
      · obtain ⟨wl, hD⟩ := com_yes HRt.out he
        have HD := hid hD
        have f1 : (et != 0) = false := by simp [he]
        clear hD he
        cases p
        · cases q
          · go_wp2_with fail
            go_ret
            exact Bb.fin rfl HB.out
          · obtain rfl : b = true := by rw [HB1.out]; exact HD.out.anew HP.out.symm HQ.out.symm
            go_wp2_with fail
            go_ret
            exact Bb.fin rfl HB.out
        · have hq2 : q = !b := by rw [HB1.out, HQ.out]; exact HD.out.stays HP.out.symm
          clear HB1 HQ
          cases b
          · obtain rfl : q = true := hq2
            go_wp2_with fail
            go_ret
            exact Bb.fin rfl HB.out
          · obtain rfl : q = false := hq2
            go_wp2_with fail
            go_ret
            exact Bb.fin rfl HB.out
      · obtain ⟨h1, h2⟩ := com_no HRt.out he
        have f1 : (et != 0) = true := by simp [he]
        have hq2 : q = p := by rw [HQ.out, HP.out, h1]
        clear HB1 HQ HP he
        have f2 : ((vt.length : Int) == 0) = true := by rw [h2]; rfl
        clear h1 h2
        subst hq2
        cases q
        · go_wp2_with fail
          go_ret
          exact Bb.fin rfl HB.out
        · go_wp2_with fail
          go_ret
          exact Bb.fin rfl HB.out
end Go.Proofs.Ytplckigmllkpoaa
