/- awake of layer 18: the walk. -/
import Derived.Test.YtplckigmllkpoaaStM
namespace Go.Proofs.Ytplckigmllkpoaa
open Go.RowKit Go.Shelf Go.Maps
attribute [local go_sem] Oper.semAt_some
/-- A log's box, never stored to again. -/
structure BLg (w W : World) (B : Nat) (ra la : Option Addr) (rc lc : Nat) (l : Lg) : Prop where
  bel : Below w.heap.size w W
  box : W.heap[B]? = some (.cells #[.slice ra l.reads.length rc, .slice la l.levels.length lc] 28)
  val : GVal W (fun _ => True) (.agg #[.slice ra l.reads.length rc, .slice la l.levels.length lc]) l
theorem BLg.more {w W W' : World} {B : Nat} {ra la : Option Addr} {rc lc : Nat} {l : Lg} (h : BLg w W B ra la rc lc l) (b : Below W.heap.size W W') : BLg w W' B ra la rc lc l :=
  ⟨h.bel.trans (b.mono h.bel.size), (b.block _ (lt_of_some h.box)).trans h.box, h.val.more b⟩
theorem BLg.c0 {w W : World} {B : Nat} {ra la : Option Addr} {rc lc : Nat} {l : Lg} (h : BLg w W B ra la rc lc l) : W.cell? ⟨B, 0, none⟩ = some (.slice ra l.reads.length rc) := cell_of h.box
theorem BLg.c1 {w W : World} {B : Nat} {ra la : Option Addr} {rc lc : Nat} {l : Lg} (h : BLg w W B ra la rc lc l) : W.cell? ⟨B, 1, none⟩ = some (.slice la l.levels.length lc) := cell_of h.box
theorem BLg.new {w W : World} {ok : Nat → Prop} {ra la : Option Addr} {rc lc : Nat} {l : Lg} (b : Below w.heap.size w W) (h : GVal W ok (.agg #[.slice ra l.reads.length rc, .slice la l.levels.length lc]) l) :
    BLg w (W.alloc (.cells #[.slice ra l.reads.length rc, .slice la l.levels.length lc] 28)) W.heap.size ra la rc lc l :=
  ⟨b.alloc b.size _, World.alloc_heap_new _ _, h.all.more ((Below.refl _ _).alloc (Nat.le_refl _) _)⟩
theorem inLit {n : Int} (h1 : -1000 ≤ n) (h2 : n ≤ 1000) : In n := by constructor <;> omega
theorem one_isl (w : World) {z : Int} (hz : In z) : ISl (w.alloc (.cells #[.int .i64 z] 3)) (fun _ => True) (.slice (some ⟨w.heap.size, 0, none⟩) 1 1) [z] :=
  RSl.of_block (B := w.heap.size) (e := 3) (rows := [[.int .i64 z]]) intGood (World.alloc_heap_new _ _) (Rows.one ⟨rfl, hz⟩) trivial (show (1 : Nat) ≤ maxLen by decide)
set_option maxRecDepth 100000 in
set_option maxHeartbeats 32000000 in
theorem awake_any (w : World) : Calls Try.prog 8 #[] w (Bb true w) := by
  go_enter Try.func8, Try.ntmps8
  have HB : Hid (Below w.heap.size w w) := Below.refl _ _
  obtain ⟨r, hr⟩ : ∃ r, r = addS (⟨[], 3⟩ : St) 5 := ⟨_, rfl⟩
  obtain ⟨ts, ns, es⟩ := r
  have HRs := hid hr
  have hk : addS (⟨[], 3⟩ : St) 5 = ((⟨[(5, 0)], 3⟩ : St), (0 : Int), (0 : Int)) := by decide
  have hh := HRs.out.trans hk
  obtain rfl : ns = 0 := by cases hh; rfl
  obtain rfl : es = 0 := by cases hh; rfl
  have HTs : Hid (ts = ⟨[(5, 0)], 3⟩) := by cases hh; rfl
  clear hk hh
  have P := hid (add_any w (fun _ => True) (.agg #[.slice none 0 0, .int .i64 3]) (⟨[], 3⟩ : St) 5 ⟨none, 0, rfl, inLit (by decide) (by decide), RSl.nil _ _ _ _⟩ (inLit (by decide) (by decide)) (by decide))
  rw [← hr] at P
  clear hr
  go_wp2_with fail
  refine P.out.mono ?_
  rintro e w11 ⟨sas, scs, rfl, hs, b⟩
  clear P
  have hss := hs.all
  clear hs
  replace HB : Hid (Below w.heap.size w _) := HB.out.trans (b.mono HB.out.size)
  clear b
  go_upto_region 2 with (fail)
  have bb := (Below.refl w11.heap.size w11).alloc (Nat.le_refl _) (.cells #[.slice sas ts.cells.length scs, .int .i64 ts.ver] 24)
  have Ks := hid (BSt.new HB.out hss)
  have hBws := HB.out.size
  obtain ⟨w12, hw⟩ : ∃ z, w11.alloc (.cells #[.slice sas ts.cells.length scs, .int .i64 ts.ver] 24) = z := ⟨_, rfl⟩
  rw [hw] at bb Ks ⊢
  obtain ⟨Bs, hBs⟩ : ∃ z, w11.heap.size = z := ⟨_, rfl⟩
  rw [hBs] at Ks hBws ⊢
  replace HB : Hid (Below w.heap.size w w12) := HB.out.trans (bb.mono HB.out.size)
  clear bb hw hss hBs hBws
  have P := hid (new_any w12)
  go_wp2_with fail
  refine P.out.mono ?_
  rintro e w13 ⟨la0, lc0, rfl, hv, b⟩
  clear P
  have hv0 := hid hv.all
  clear hv
  replace Ks := hid (Ks.out.more b)
  replace HB : Hid (Below w.heap.size w _) := HB.out.trans (b.mono HB.out.size)
  clear b
  obtain ⟨r, hr⟩ : ∃ r, r = putG (⟨[], [[]]⟩ : Lg) 0 9 := ⟨_, rfl⟩
  obtain ⟨tl, el⟩ := r
  have HRl := hid hr
  have hk : putG (⟨[], [[]]⟩ : Lg) 0 9 = ((⟨[], [[(0, 9)]]⟩ : Lg), (0 : Int)) := by decide
  have hh := HRl.out.trans hk
  obtain rfl : el = 0 := by cases hh; rfl
  have HTl : Hid (tl = ⟨[], [[(0, 9)]]⟩) := by cases hh; rfl
  clear hk hh
  have P := hid (putg_any w13 (fun _ => True) (.agg #[.slice none 0 0, .slice la0 1 lc0]) (⟨[], [[]]⟩ : Lg) 0 9 hv0.out (inLit (by decide) (by decide)) (inLit (by decide) (by decide)) (by exact ⟨by decide, by decide, by decide⟩))
  rw [← hr] at P
  clear hr
  go_wp2_with fail
  refine P.out.mono ?_
  rintro e w14 ⟨ral, rcl, lal, lcl, rfl, hv, b⟩
  clear P
  have hvl := hv.all
  clear hv
  replace Ks := hid (Ks.out.more b)
  replace HB : Hid (Below w.heap.size w _) := HB.out.trans (b.mono HB.out.size)
  clear b
  go_upto_region 3 with (fail)
  have bb := (Below.refl w14.heap.size w14).alloc (Nat.le_refl _) (.cells #[.slice ral tl.reads.length rcl, .slice lal tl.levels.length lcl] 28)
  have Kl := hid (BLg.new HB.out hvl)
  have hBwl := HB.out.size
  obtain ⟨w15, hw⟩ : ∃ z, w14.alloc (.cells #[.slice ral tl.reads.length rcl, .slice lal tl.levels.length lcl] 28) = z := ⟨_, rfl⟩
  rw [hw] at bb Kl ⊢
  obtain ⟨Bl, hBl⟩ : ∃ z, w14.heap.size = z := ⟨_, rfl⟩
  rw [hBl] at Kl hBwl ⊢
  replace Ks := hid (Ks.out.more bb)
  replace HB : Hid (Below w.heap.size w w15) := HB.out.trans (bb.mono HB.out.size)
  clear bb hw hvl hBl hBwl
  clear hv0
  obtain ⟨r, hr⟩ : ∃ r, r = commitS ts tl := ⟨_, rfl⟩
  obtain ⟨tt, vt, et⟩ := r
  have HRt := hid hr
  have hk : commitS ts tl = ((⟨[(9, 4)], 4⟩ : St), ([0] : List Int), (0 : Int)) := by rw [HTs.out]; rw [HTl.out]; decide
  have hh := HRt.out.trans hk
  obtain rfl : vt = [0] := by cases hh; rfl
  obtain rfl : et = 0 := by cases hh; rfl
  have HTt : Hid (tt = ⟨[(9, 4)], 4⟩) := by cases hh; rfl
  clear hk hh
  have cs0 : w15.cell? ⟨Bs, 0, none⟩ = some (.slice sas ts.cells.length scs) := Ks.out.c0
  have cs1 : w15.cell? ⟨Bs, 1, none⟩ = some (.int .i64 ts.ver) := Ks.out.c1
  have cl0 : w15.cell? ⟨Bl, 0, none⟩ = some (.slice ral tl.reads.length rcl) := Kl.out.c0
  have cl1 : w15.cell? ⟨Bl, 1, none⟩ = some (.slice lal tl.levels.length lcl) := Kl.out.c1
  have P := hid (commit_any w15 _ _ (.agg #[.slice sas ts.cells.length scs, .int .i64 ts.ver]) (.agg #[.slice ral tl.reads.length rcl, .slice lal tl.levels.length lcl]) ts tl Ks.out.val Kl.out.val (by rw [HTs.out]; decide) (by rw [HTl.out]; decide))
  rw [← hr] at P
  clear hr
  go_wp2_with fail
  refine P.out.mono ?_
  rintro e w16 ⟨sat, sct, vat, vct, rfl, hs, hv, b⟩
  clear P
  clear cs0 cs1 cl0 cl1
  have hst := hs.all
  have Kvt := hid (RSl.weak intGood (by decide) (ok' := fun _ => True) hv (fun _ _ _ => trivial))
  clear hs hv
  replace Ks := hid (Ks.out.more b)
  replace Kl := hid (Kl.out.more b)
  replace HB : Hid (Below w.heap.size w _) := HB.out.trans (b.mono HB.out.size)
  clear b
  go_upto_region 4 with (fail)
  have bb := (Below.refl w16.heap.size w16).alloc (Nat.le_refl _) (.cells #[.slice sat tt.cells.length sct, .int .i64 tt.ver] 24)
  have Kt := hid (BSt.new HB.out hst)
  have hBwt := HB.out.size
  obtain ⟨w17, hw⟩ : ∃ z, w16.alloc (.cells #[.slice sat tt.cells.length sct, .int .i64 tt.ver] 24) = z := ⟨_, rfl⟩
  rw [hw] at bb Kt ⊢
  obtain ⟨Bt, hBt⟩ : ∃ z, w16.heap.size = z := ⟨_, rfl⟩
  rw [hBt] at Kt hBwt ⊢
  replace Ks := hid (Ks.out.more bb)
  replace Kl := hid (Kl.out.more bb)
  replace Kvt := hid (RSl.below intGood Kvt.out bb)
  replace HB : Hid (Below w.heap.size w w17) := HB.out.trans (bb.mono HB.out.size)
  clear bb hw hst hBt hBwt
  obtain ⟨r, hr⟩ : ∃ r, r = lookS tt 0 := ⟨_, rfl⟩
  obtain ⟨ap, bp, ep⟩ := r
  have HRp := hid hr
  have hk : lookS tt 0 = ((9 : Int), (4 : Int), (0 : Int)) := by rw [HTt.out]; decide
  have hh := HRp.out.trans hk
  obtain rfl : ap = 9 := by cases hh; rfl
  obtain rfl : bp = 4 := by cases hh; rfl
  obtain rfl : ep = 0 := by cases hh; rfl
  clear hk hh
  have ct0 : w17.cell? ⟨Bt, 0, none⟩ = some (.slice sat tt.cells.length sct) := Kt.out.c0
  have ct1 : w17.cell? ⟨Bt, 1, none⟩ = some (.int .i64 tt.ver) := Kt.out.c1
  have P := hid (look_any w17 _ (.agg #[.slice sat tt.cells.length sct, .int .i64 tt.ver]) tt 0 Kt.out.val)
  rw [← hr] at P
  clear hr
  go_wp2_with fail
  refine P.out.mono ?_
  rintro e w18 ⟨rfl, b⟩
  clear P
  clear ct0 ct1
  replace Ks := hid (Ks.out.more b)
  replace Kl := hid (Kl.out.more b)
  replace Kvt := hid (RSl.below intGood Kvt.out b)
  replace Kt := hid (Kt.out.more b)
  replace HB : Hid (Below w.heap.size w _) := HB.out.trans (b.mono HB.out.size)
  clear b
  go_upto_region 5 with (fail)
  obtain ⟨r, hr⟩ : ∃ r, r = lookS tt 1 := ⟨_, rfl⟩
  obtain ⟨aq, bq, eq⟩ := r
  have HRq := hid hr
  have hk : lookS tt 1 = ((0 : Int), (0 : Int), (181 : Int)) := by rw [HTt.out]; decide
  have hh := HRq.out.trans hk
  obtain rfl : aq = 0 := by cases hh; rfl
  obtain rfl : bq = 0 := by cases hh; rfl
  obtain rfl : eq = 181 := by cases hh; rfl
  clear hk hh
  have ct0 : w18.cell? ⟨Bt, 0, none⟩ = some (.slice sat tt.cells.length sct) := Kt.out.c0
  have ct1 : w18.cell? ⟨Bt, 1, none⟩ = some (.int .i64 tt.ver) := Kt.out.c1
  have P := hid (look_any w18 _ (.agg #[.slice sat tt.cells.length sct, .int .i64 tt.ver]) tt 1 Kt.out.val)
  rw [← hr] at P
  clear hr
  go_wp2_with fail
  refine P.out.mono ?_
  rintro e w19 ⟨rfl, b⟩
  clear P
  clear ct0 ct1
  replace Ks := hid (Ks.out.more b)
  replace Kl := hid (Kl.out.more b)
  replace Kvt := hid (RSl.below intGood Kvt.out b)
  replace Kt := hid (Kt.out.more b)
  replace HB : Hid (Below w.heap.size w _) := HB.out.trans (b.mono HB.out.size)
  clear b
  go_upto_region 6 with (fail)
  obtain ⟨r, hr⟩ : ∃ r, r = noteG tl 0 2 := ⟨_, rfl⟩
  obtain ⟨tm, em⟩ := r
  have HRm := hid hr
  have hk : noteG tl 0 2 = ((⟨[(0, 2)], [[(0, 9)]]⟩ : Lg), (0 : Int)) := by rw [HTl.out]; decide
  have hh := HRm.out.trans hk
  obtain rfl : em = 0 := by cases hh; rfl
  have HTm : Hid (tm = ⟨[(0, 2)], [[(0, 9)]]⟩) := by cases hh; rfl
  clear hk hh
  have cl0 : w19.cell? ⟨Bl, 0, none⟩ = some (.slice ral tl.reads.length rcl) := Kl.out.c0
  have cl1 : w19.cell? ⟨Bl, 1, none⟩ = some (.slice lal tl.levels.length lcl) := Kl.out.c1
  have P := hid (note_any w19 _ (.agg #[.slice ral tl.reads.length rcl, .slice lal tl.levels.length lcl]) tl 0 2 Kl.out.val (inLit (by decide) (by decide)) (inLit (by decide) (by decide)) (by rw [HTl.out]; exact ⟨by decide, by decide, by decide⟩))
  rw [← hr] at P
  clear hr
  go_wp2_with fail
  refine P.out.mono ?_
  rintro e w20 ⟨ram, rcm, lam, lcm, rfl, hv, b⟩
  clear P
  clear cl0 cl1
  have hvm := hv.all
  clear hv
  replace Ks := hid (Ks.out.more b)
  replace Kl := hid (Kl.out.more b)
  replace Kvt := hid (RSl.below intGood Kvt.out b)
  replace Kt := hid (Kt.out.more b)
  replace HB : Hid (Below w.heap.size w _) := HB.out.trans (b.mono HB.out.size)
  clear b
  go_upto_region 7 with (fail)
  have bb := (Below.refl w20.heap.size w20).alloc (Nat.le_refl _) (.cells #[.slice ram tm.reads.length rcm, .slice lam tm.levels.length lcm] 28)
  have Km := hid (BLg.new HB.out hvm)
  have hBwm := HB.out.size
  obtain ⟨w21, hw⟩ : ∃ z, w20.alloc (.cells #[.slice ram tm.reads.length rcm, .slice lam tm.levels.length lcm] 28) = z := ⟨_, rfl⟩
  rw [hw] at bb Km ⊢
  obtain ⟨Bm, hBm⟩ : ∃ z, w20.heap.size = z := ⟨_, rfl⟩
  rw [hBm] at Km hBwm ⊢
  replace Ks := hid (Ks.out.more bb)
  replace Kl := hid (Kl.out.more bb)
  replace Kvt := hid (RSl.below intGood Kvt.out bb)
  replace Kt := hid (Kt.out.more bb)
  replace HB : Hid (Below w.heap.size w w21) := HB.out.trans (bb.mono HB.out.size)
  clear bb hw hvm hBm hBwm
  obtain ⟨r, hr⟩ : ∃ r, r = commitS ts tm := ⟨_, rfl⟩
  obtain ⟨tj, vj, ej⟩ := r
  have HRj := hid hr
  have hk : commitS ts tm = ((⟨[(5, 0)], 3⟩ : St), ([] : List Int), (180 : Int)) := by rw [HTs.out]; rw [HTm.out]; decide
  have hh := HRj.out.trans hk
  obtain rfl : vj = [] := by cases hh; rfl
  obtain rfl : ej = 180 := by cases hh; rfl
  have HTj : Hid (tj = ⟨[(5, 0)], 3⟩) := by cases hh; rfl
  clear hk hh
  have cs0 : w21.cell? ⟨Bs, 0, none⟩ = some (.slice sas ts.cells.length scs) := Ks.out.c0
  have cs1 : w21.cell? ⟨Bs, 1, none⟩ = some (.int .i64 ts.ver) := Ks.out.c1
  have cm0 : w21.cell? ⟨Bm, 0, none⟩ = some (.slice ram tm.reads.length rcm) := Km.out.c0
  have cm1 : w21.cell? ⟨Bm, 1, none⟩ = some (.slice lam tm.levels.length lcm) := Km.out.c1
  have P := hid (commit_any w21 _ _ (.agg #[.slice sas ts.cells.length scs, .int .i64 ts.ver]) (.agg #[.slice ram tm.reads.length rcm, .slice lam tm.levels.length lcm]) ts tm Ks.out.val Km.out.val (by rw [HTs.out]; decide) (by rw [HTm.out]; decide))
  rw [← hr] at P
  clear hr
  go_wp2_with fail
  refine P.out.mono ?_
  rintro e w22 ⟨saj, scj, vaj, vcj, rfl, hs, hv, b⟩
  clear P
  clear cs0 cs1 cm0 cm1
  have hsj := hs.all
  have Kvj := hid (RSl.weak intGood (by decide) (ok' := fun _ => True) hv (fun _ _ _ => trivial))
  clear hs hv
  replace Ks := hid (Ks.out.more b)
  replace Kl := hid (Kl.out.more b)
  replace Kvt := hid (RSl.below intGood Kvt.out b)
  replace Kt := hid (Kt.out.more b)
  replace Km := hid (Km.out.more b)
  replace HB : Hid (Below w.heap.size w _) := HB.out.trans (b.mono HB.out.size)
  clear b
  go_upto_region 8 with (fail)
  have bb := (Below.refl w22.heap.size w22).alloc (Nat.le_refl _) (.cells #[.slice saj tj.cells.length scj, .int .i64 tj.ver] 24)
  have Kj := hid (BSt.new HB.out hsj)
  have hBwj := HB.out.size
  obtain ⟨w23, hw⟩ : ∃ z, w22.alloc (.cells #[.slice saj tj.cells.length scj, .int .i64 tj.ver] 24) = z := ⟨_, rfl⟩
  rw [hw] at bb Kj ⊢
  obtain ⟨Bj, hBj⟩ : ∃ z, w22.heap.size = z := ⟨_, rfl⟩
  rw [hBj] at Kj hBwj ⊢
  replace Ks := hid (Ks.out.more bb)
  replace Kl := hid (Kl.out.more bb)
  replace Kvt := hid (RSl.below intGood Kvt.out bb)
  replace Kt := hid (Kt.out.more bb)
  replace Km := hid (Km.out.more bb)
  replace Kvj := hid (RSl.below intGood Kvj.out bb)
  replace HB : Hid (Below w.heap.size w w23) := HB.out.trans (bb.mono HB.out.size)
  clear bb hw hsj hBj hBwj
  obtain ⟨r, hr⟩ : ∃ r, r = commitS (⟨[], -1⟩ : St) tl := ⟨_, rfl⟩
  obtain ⟨tk, vk, ek⟩ := r
  have HRk := hid hr
  have hk : commitS (⟨[], -1⟩ : St) tl = ((⟨[], -1⟩ : St), ([] : List Int), (181 : Int)) := by rw [HTl.out]; decide
  have hh := HRk.out.trans hk
  obtain rfl : vk = [] := by cases hh; rfl
  obtain rfl : ek = 181 := by cases hh; rfl
  have HTk : Hid (tk = ⟨[], -1⟩) := by cases hh; rfl
  clear hk hh
  have cl0 : w23.cell? ⟨Bl, 0, none⟩ = some (.slice ral tl.reads.length rcl) := Kl.out.c0
  have cl1 : w23.cell? ⟨Bl, 1, none⟩ = some (.slice lal tl.levels.length lcl) := Kl.out.c1
  have P := hid (commit_any w23 (fun _ => True) _ (.agg #[.slice none 0 0, .int .i64 (-1)]) (.agg #[.slice ral tl.reads.length rcl, .slice lal tl.levels.length lcl]) (⟨[], -1⟩ : St) tl ⟨none, 0, rfl, inLit (by decide) (by decide), RSl.nil _ _ _ _⟩ Kl.out.val (by decide) (by rw [HTl.out]; decide))
  rw [← hr] at P
  clear hr
  go_wp2_with fail
  refine P.out.mono ?_
  rintro e w24 ⟨sak, sck, vak, vck, rfl, hs, hv, b⟩
  clear P
  clear cl0 cl1
  have hsk := hs.all
  have Kvk := hid (RSl.weak intGood (by decide) (ok' := fun _ => True) hv (fun _ _ _ => trivial))
  clear hs hv
  replace Ks := hid (Ks.out.more b)
  replace Kl := hid (Kl.out.more b)
  replace Kvt := hid (RSl.below intGood Kvt.out b)
  replace Kt := hid (Kt.out.more b)
  replace Km := hid (Km.out.more b)
  replace Kvj := hid (RSl.below intGood Kvj.out b)
  replace Kj := hid (Kj.out.more b)
  replace HB : Hid (Below w.heap.size w _) := HB.out.trans (b.mono HB.out.size)
  clear b
  go_upto_region 9 with (fail)
  have bb := (Below.refl w24.heap.size w24).alloc (Nat.le_refl _) (.cells #[.slice sak tk.cells.length sck, .int .i64 tk.ver] 24)
  have Kk := hid (BSt.new HB.out hsk)
  have hBwk := HB.out.size
  obtain ⟨w25, hw⟩ : ∃ z, w24.alloc (.cells #[.slice sak tk.cells.length sck, .int .i64 tk.ver] 24) = z := ⟨_, rfl⟩
  rw [hw] at bb Kk ⊢
  obtain ⟨Bk, hBk⟩ : ∃ z, w24.heap.size = z := ⟨_, rfl⟩
  rw [hBk] at Kk hBwk ⊢
  replace Ks := hid (Ks.out.more bb)
  replace Kl := hid (Kl.out.more bb)
  replace Kvt := hid (RSl.below intGood Kvt.out bb)
  replace Kt := hid (Kt.out.more bb)
  replace Km := hid (Km.out.more bb)
  replace Kvj := hid (RSl.below intGood Kvj.out bb)
  replace Kj := hid (Kj.out.more bb)
  replace Kvk := hid (RSl.below intGood Kvk.out bb)
  replace HB : Hid (Below w.heap.size w w25) := HB.out.trans (bb.mono HB.out.size)
  clear bb hw hsk hBk hBwk
  obtain ⟨r, hr⟩ : ∃ r, r = commitS ts (⟨[], []⟩ : Lg) := ⟨_, rfl⟩
  obtain ⟨tn, vn, en⟩ := r
  have HRn := hid hr
  have hk : commitS ts (⟨[], []⟩ : Lg) = ((⟨[(5, 0)], 3⟩ : St), ([] : List Int), (170 : Int)) := by rw [HTs.out]; decide
  have hh := HRn.out.trans hk
  obtain rfl : vn = [] := by cases hh; rfl
  obtain rfl : en = 170 := by cases hh; rfl
  have HTn : Hid (tn = ⟨[(5, 0)], 3⟩) := by cases hh; rfl
  clear hk hh
  have cs0 : w25.cell? ⟨Bs, 0, none⟩ = some (.slice sas ts.cells.length scs) := Ks.out.c0
  have cs1 : w25.cell? ⟨Bs, 1, none⟩ = some (.int .i64 ts.ver) := Ks.out.c1
  have P := hid (commit_any w25 _ (fun _ => True) (.agg #[.slice sas ts.cells.length scs, .int .i64 ts.ver]) (.agg #[.slice none 0 0, .slice none 0 0]) ts (⟨[], []⟩ : Lg) Ks.out.val ⟨none, 0, none, 0, rfl, RSl.nil _ _ _ _, RSl.nil _ _ _ _⟩ (by rw [HTs.out]; decide) (by decide))
  rw [← hr] at P
  clear hr
  go_wp2_with fail
  refine P.out.mono ?_
  rintro e w26 ⟨san, scn, van, vcn, rfl, hs, hv, b⟩
  clear P
  clear cs0 cs1
  have hsn := hs.all
  have Kvn := hid (RSl.weak intGood (by decide) (ok' := fun _ => True) hv (fun _ _ _ => trivial))
  clear hs hv
  replace Ks := hid (Ks.out.more b)
  replace Kl := hid (Kl.out.more b)
  replace Kvt := hid (RSl.below intGood Kvt.out b)
  replace Kt := hid (Kt.out.more b)
  replace Km := hid (Km.out.more b)
  replace Kvj := hid (RSl.below intGood Kvj.out b)
  replace Kj := hid (Kj.out.more b)
  replace Kvk := hid (RSl.below intGood Kvk.out b)
  replace Kk := hid (Kk.out.more b)
  replace HB : Hid (Below w.heap.size w _) := HB.out.trans (b.mono HB.out.size)
  clear b
  go_upto_region 10 with (fail)
  have bb := (Below.refl w26.heap.size w26).alloc (Nat.le_refl _) (.cells #[.slice san tn.cells.length scn, .int .i64 tn.ver] 24)
  have Kn := hid (BSt.new HB.out hsn)
  have hBwn := HB.out.size
  obtain ⟨w27, hw⟩ : ∃ z, w26.alloc (.cells #[.slice san tn.cells.length scn, .int .i64 tn.ver] 24) = z := ⟨_, rfl⟩
  rw [hw] at bb Kn ⊢
  obtain ⟨Bn, hBn⟩ : ∃ z, w26.heap.size = z := ⟨_, rfl⟩
  rw [hBn] at Kn hBwn ⊢
  replace Ks := hid (Ks.out.more bb)
  replace Kl := hid (Kl.out.more bb)
  replace Kvt := hid (RSl.below intGood Kvt.out bb)
  replace Kt := hid (Kt.out.more bb)
  replace Km := hid (Km.out.more bb)
  replace Kvj := hid (RSl.below intGood Kvj.out bb)
  replace Kj := hid (Kj.out.more bb)
  replace Kvk := hid (RSl.below intGood Kvk.out bb)
  replace Kk := hid (Kk.out.more bb)
  replace Kvn := hid (RSl.below intGood Kvn.out bb)
  replace HB : Hid (Below w.heap.size w w27) := HB.out.trans (bb.mono HB.out.size)
  clear bb hw hsn hBn hBwn
  obtain ⟨w70, hw70⟩ : ∃ z, w27.alloc (.cells #[.int .i64 7] 3) = z := ⟨_, rfl⟩
  have b : Below w27.heap.size w27 w70 := by rw [← hw70]; exact (Below.refl _ _).alloc (Nat.le_refl _) _
  have Ka := hid (one_isl w27 (inLit (n := 7) (by decide) (by decide)))
  rw [hw70] at Ka
  have HW70 := hid hw70
  clear hw70
  have ct0 : w27.cell? ⟨Bt, 0, none⟩ = some (.slice sat tt.cells.length sct) := Kt.out.c0
  have ct1 : w27.cell? ⟨Bt, 1, none⟩ = some (.int .i64 tt.ver) := Kt.out.c1
  replace Ks := hid (Ks.out.more b)
  replace Kl := hid (Kl.out.more b)
  replace Kvt := hid (RSl.below intGood Kvt.out b)
  replace Kt := hid (Kt.out.more b)
  replace Km := hid (Km.out.more b)
  replace Kvj := hid (RSl.below intGood Kvj.out b)
  replace Kj := hid (Kj.out.more b)
  replace Kvk := hid (RSl.below intGood Kvk.out b)
  replace Kk := hid (Kk.out.more b)
  replace Kvn := hid (RSl.below intGood Kvn.out b)
  replace Kn := hid (Kn.out.more b)
  replace HB : Hid (Below w.heap.size w _) := HB.out.trans (b.mono HB.out.size)
  obtain ⟨r, hr⟩ : ∃ r, r = moveS tt [7] := ⟨_, rfl⟩
  obtain ⟨tz, ez⟩ := r
  have HRz := hid hr
  have hk : moveS tt [7] = ((⟨[(7, 4)], 4⟩ : St), (0 : Int)) := by rw [HTt.out]; decide
  have hh := HRz.out.trans hk
  obtain rfl : ez = 0 := by cases hh; rfl
  have HTz : Hid (tz = ⟨[(7, 4)], 4⟩) := by cases hh; rfl
  clear hk hh
  have P := hid (move_any w70 _ _ (.agg #[.slice sat tt.cells.length sct, .int .i64 tt.ver]) (.slice (some ⟨w27.heap.size, 0, none⟩) 1 1) tt [7] Kt.out.val Ka.out (by rw [HTt.out]; decide))
  rw [← hr] at P
  clear hr b
  go_wp2_with (rw [HW70.out])
  refine P.out.mono ?_
  rintro e w71 ⟨saz, scz, rfl, hs, b⟩
  clear P ct0 ct1 HW70 Ka
  have hsz := hs.all
  clear hs
  replace Ks := hid (Ks.out.more b)
  replace Kl := hid (Kl.out.more b)
  replace Kvt := hid (RSl.below intGood Kvt.out b)
  replace Kt := hid (Kt.out.more b)
  replace Km := hid (Km.out.more b)
  replace Kvj := hid (RSl.below intGood Kvj.out b)
  replace Kj := hid (Kj.out.more b)
  replace Kvk := hid (RSl.below intGood Kvk.out b)
  replace Kk := hid (Kk.out.more b)
  replace Kvn := hid (RSl.below intGood Kvn.out b)
  replace Kn := hid (Kn.out.more b)
  replace HB : Hid (Below w.heap.size w _) := HB.out.trans (b.mono HB.out.size)
  clear b
  have f0 : (([0] : List Int).length : Int) = 1 := rfl
  obtain ⟨w72, hw⟩ : ∃ z, w71.alloc (.cells #[.slice saz tz.cells.length scz, .int .i64 tz.ver] 24) = z := ⟨_, rfl⟩
  have bb : Below w71.heap.size w71 w72 := by rw [← hw]; exact (Below.refl _ _).alloc (Nat.le_refl _) _
  have Kz := hid (BSt.new HB.out hsz)
  rw [hw] at Kz
  have HW := hid hw
  clear hw hsz
  replace Ks := hid (Ks.out.more bb)
  replace Kl := hid (Kl.out.more bb)
  replace Kvt := hid (RSl.below intGood Kvt.out bb)
  replace Kt := hid (Kt.out.more bb)
  replace Km := hid (Km.out.more bb)
  replace Kvj := hid (RSl.below intGood Kvj.out bb)
  replace Kj := hid (Kj.out.more bb)
  replace Kvk := hid (RSl.below intGood Kvk.out bb)
  replace Kk := hid (Kk.out.more bb)
  replace Kvn := hid (RSl.below intGood Kvn.out bb)
  replace Kn := hid (Kn.out.more bb)
  replace HB : Hid (Below w.heap.size w w72) := HB.out.trans (bb.mono HB.out.size)
  clear bb
  have rl : (tz.cells.length : Int) = 1 := by rw [HTz.out]; rfl
  have cz0 : w72.cell? ⟨w71.heap.size, 0, none⟩ = some (.slice saz tz.cells.length scz) := Kz.out.c0
  have cz1 : w72.cell? ⟨w71.heap.size, 1, none⟩ = some (.int .i64 tz.ver) := Kz.out.c1
  have P := hid (roots_any w72 _ (.agg #[.slice saz tz.cells.length scz, .int .i64 tz.ver]) tz Kz.out.val (by rw [HTz.out]; decide))
  go_wp2_with (rw [HW.out])
  refine P.out.mono ?_
  rintro e w73 ⟨va1, vc1, rfl, hv1, b⟩
  clear P cz0 cz1 HW
  replace Ks := hid (Ks.out.more b)
  replace Kl := hid (Kl.out.more b)
  replace Kvt := hid (RSl.below intGood Kvt.out b)
  replace Kt := hid (Kt.out.more b)
  replace Km := hid (Km.out.more b)
  replace Kvj := hid (RSl.below intGood Kvj.out b)
  replace Kj := hid (Kj.out.more b)
  replace Kvk := hid (RSl.below intGood Kvk.out b)
  replace Kk := hid (Kk.out.more b)
  replace Kvn := hid (RSl.below intGood Kvn.out b)
  replace Kn := hid (Kn.out.more b)
  replace Kz := hid (Kz.out.more b)
  replace HB : Hid (Below w.heap.size w _) := HB.out.trans (b.mono HB.out.size)
  clear b hv1
  have cz0 : w73.cell? ⟨w71.heap.size, 0, none⟩ = some (.slice saz tz.cells.length scz) := Kz.out.c0
  have cz1 : w73.cell? ⟨w71.heap.size, 1, none⟩ = some (.int .i64 tz.ver) := Kz.out.c1
  have P := hid (roots_any w73 _ (.agg #[.slice saz tz.cells.length scz, .int .i64 tz.ver]) tz Kz.out.val (by rw [HTz.out]; decide))
  go_wp2_with fail
  refine P.out.mono ?_
  rintro e w28 ⟨va2, vc2, rfl, hv2, b⟩
  clear P
  clear cz0 cz1
  replace Ks := hid (Ks.out.more b)
  replace Kl := hid (Kl.out.more b)
  replace Kvt := hid (RSl.below intGood Kvt.out b)
  replace Kt := hid (Kt.out.more b)
  replace Km := hid (Km.out.more b)
  replace Kvj := hid (RSl.below intGood Kvj.out b)
  replace Kj := hid (Kj.out.more b)
  replace Kvk := hid (RSl.below intGood Kvk.out b)
  replace Kk := hid (Kk.out.more b)
  replace Kvn := hid (RSl.below intGood Kvn.out b)
  replace Kn := hid (Kn.out.more b)
  replace Kz := hid (Kz.out.more b)
  replace HB : Hid (Below w.heap.size w _) := HB.out.trans (b.mono HB.out.size)
  clear b
  obtain ⟨b2, o2, c2, y, he2, hy, _, e2⟩ := ISl.at hv2 (Below.refl _ _) (k := 0) (by rw [List.length_map, HTz.out]; decide)
  rw [HTz.out] at hy
  obtain rfl : y = 7 := by simp at hy; exact hy.symm
  rw [List.length_map] at he2
  cases he2
  simp only [Nat.add_zero] at e2
  have f7 : decide ((0 : Int) < tz.cells.length) = true := by rw [HTz.out]; decide
  have f8 : 0 < tz.cells.length := by rw [HTz.out]; decide
  clear hy hv2
  have ct0 : w28.cell? ⟨Bt, 0, none⟩ = some (.slice sat tt.cells.length sct) := Kt.out.c0
  have ct1 : w28.cell? ⟨Bt, 1, none⟩ = some (.int .i64 tt.ver) := Kt.out.c1
  have P := hid (scheck_any w28 _ (.agg #[.slice sat tt.cells.length sct, .int .i64 tt.ver]) tt Kt.out.val)
  have hc : chkS tt = true := by rw [HTt.out]; decide
  rw [hc] at P
  clear hc
  go_wp2_with fail
  refine P.out.mono ?_
  rintro e w29 ⟨rfl, b⟩
  clear P
  clear ct0 ct1
  replace Ks := hid (Ks.out.more b)
  replace Kl := hid (Kl.out.more b)
  replace Kvt := hid (RSl.below intGood Kvt.out b)
  replace Kt := hid (Kt.out.more b)
  replace Km := hid (Km.out.more b)
  replace Kvj := hid (RSl.below intGood Kvj.out b)
  replace Kj := hid (Kj.out.more b)
  replace Kvk := hid (RSl.below intGood Kvk.out b)
  replace Kk := hid (Kk.out.more b)
  replace Kvn := hid (RSl.below intGood Kvn.out b)
  replace Kn := hid (Kn.out.more b)
  replace Kz := hid (Kz.out.more b)
  replace HB : Hid (Below w.heap.size w _) := HB.out.trans (b.mono HB.out.size)
  clear b
  have cs0 : w29.cell? ⟨Bs, 0, none⟩ = some (.slice sas ts.cells.length scs) := Ks.out.c0
  have cs1 : w29.cell? ⟨Bs, 1, none⟩ = some (.int .i64 ts.ver) := Ks.out.c1
  have cl0 : w29.cell? ⟨Bl, 0, none⟩ = some (.slice ral tl.reads.length rcl) := Kl.out.c0
  have cl1 : w29.cell? ⟨Bl, 1, none⟩ = some (.slice lal tl.levels.length lcl) := Kl.out.c1
  have P := hid (svalid_any w29 _ _ (.agg #[.slice sas ts.cells.length scs, .int .i64 ts.ver]) (.agg #[.slice ral tl.reads.length rcl, .slice lal tl.levels.length lcl]) ts tl Ks.out.val Kl.out.val)
  have hc : validS ts tl = true := by rw [HTs.out, HTl.out]; decide
  rw [hc] at P
  clear hc
  go_wp2_with fail
  refine P.out.mono ?_
  rintro e w30 ⟨rfl, b⟩
  clear P
  clear cs0 cs1 cl0 cl1
  replace Ks := hid (Ks.out.more b)
  replace Kl := hid (Kl.out.more b)
  replace Kvt := hid (RSl.below intGood Kvt.out b)
  replace Kt := hid (Kt.out.more b)
  replace Km := hid (Km.out.more b)
  replace Kvj := hid (RSl.below intGood Kvj.out b)
  replace Kj := hid (Kj.out.more b)
  replace Kvk := hid (RSl.below intGood Kvk.out b)
  replace Kk := hid (Kk.out.more b)
  replace Kvn := hid (RSl.below intGood Kvn.out b)
  replace Kn := hid (Kn.out.more b)
  replace Kz := hid (Kz.out.more b)
  replace HB : Hid (Below w.heap.size w _) := HB.out.trans (b.mono HB.out.size)
  clear b
  have cs0 : w30.cell? ⟨Bs, 0, none⟩ = some (.slice sas ts.cells.length scs) := Ks.out.c0
  have cs1 : w30.cell? ⟨Bs, 1, none⟩ = some (.int .i64 ts.ver) := Ks.out.c1
  have cm0 : w30.cell? ⟨Bm, 0, none⟩ = some (.slice ram tm.reads.length rcm) := Km.out.c0
  have cm1 : w30.cell? ⟨Bm, 1, none⟩ = some (.slice lam tm.levels.length lcm) := Km.out.c1
  have P := hid (svalid_any w30 _ _ (.agg #[.slice sas ts.cells.length scs, .int .i64 ts.ver]) (.agg #[.slice ram tm.reads.length rcm, .slice lam tm.levels.length lcm]) ts tm Ks.out.val Km.out.val)
  have hc : validS ts tm = false := by rw [HTs.out, HTm.out]; decide
  rw [hc] at P
  clear hc
  go_wp2_with fail
  refine P.out.mono ?_
  rintro e w31 ⟨rfl, b⟩
  clear P
  clear cs0 cs1 cm0 cm1
  replace Ks := hid (Ks.out.more b)
  replace Kl := hid (Kl.out.more b)
  replace Kvt := hid (RSl.below intGood Kvt.out b)
  replace Kt := hid (Kt.out.more b)
  replace Km := hid (Km.out.more b)
  replace Kvj := hid (RSl.below intGood Kvj.out b)
  replace Kj := hid (Kj.out.more b)
  replace Kvk := hid (RSl.below intGood Kvk.out b)
  replace Kk := hid (Kk.out.more b)
  replace Kvn := hid (RSl.below intGood Kvn.out b)
  replace Kn := hid (Kn.out.more b)
  replace Kz := hid (Kz.out.more b)
  replace HB : Hid (Below w.heap.size w _) := HB.out.trans (b.mono HB.out.size)
  clear b
  go_wp2_with fail
  go_ret
  exact Bb.fin rfl HB.out
end Go.Proofs.Ytplckigmllkpoaa
