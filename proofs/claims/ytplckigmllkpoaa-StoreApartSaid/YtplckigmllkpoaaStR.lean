/- StoreApart: the walk. -/
import Derived.Test.YtplckigmllkpoaaStN
namespace Go.Proofs.Ytplckigmllkpoaa
open Go.RowKit Go.Shelf Go.Maps
attribute [local go_sem] Oper.semAt_some
theorem wfold_at (v v' : Int) (j : Nat) : ∀ (xs c c' : List Pr), j < c.length → j < c'.length → (∃ x ∈ xs, x.1.toNat = j) → ((xs.foldl (wput v) c)[j]?).map (·.1) = ((xs.foldl (wput v') c')[j]?).map (·.1)
  | [], _, _, _, _, h => by obtain ⟨x, hx, _⟩ := h; cases hx
  | x :: xs, c, c', hj, hj', h => by
    rw [List.foldl_cons, List.foldl_cons]
    by_cases hr : ∃ x ∈ xs, x.1.toNat = j
    · exact wfold_at v v' j xs _ _ (by simp [wput, hj]) (by simp [wput, hj']) hr
    · rw [wfold_none v j xs _ (fun y hy e => hr ⟨y, hy, e⟩), wfold_none v' j xs _ (fun y hy e => hr ⟨y, hy, e⟩), wput, wput]
      obtain ⟨y, hy, he⟩ := h
      rcases List.mem_cons.1 hy with rfl | hm
      · rw [he, List.getElem?_set_self hj, List.getElem?_set_self hj']; rfl
      · exact absurd ⟨y, hm, he⟩ hr
theorem Done.next {s a b : St} {l m : Lg} {x y : List Int} {w1 w2 : List Pr} (C1 : Done s l a x w1) (C2 : Done s m b y w2) (hv : s.ver < 1099511627774) {t : St} {xs : List Int} {e : Int} (h : (t, xs, e) = commitS a m) :
    (m.reads.any (fun r => x.contains r.1) = true → e = 180) ∧ (m.reads.any (fun r => x.contains r.1) = false → e = 0 ∧ Done a m t xs w2) := by
  have hva : a.ver ≠ 1099511627776 := by
    have hve := C1.ve
    split at hve <;> omega
  have hok : ComOk a m w2 := ⟨C1.chk, hva, C2.p, C2.l1⟩
  have hlow := hok.low
  rw [if_neg (by simp only [List.any_eq_true, not_exists, not_and]; intro u hu; simp [C1.there, C2.th u hu]), C1.stays C2.va] at hlow
  constructor
  · intro hm
    rw [hm, if_pos (by rfl)] at hlow
    rw [hlow] at h; cases h; rfl
  · intro hm
    rw [hm, if_neg (by simp)] at hlow
    have he : e = 0 := by
      rw [hlow] at h
      split at h <;> (cases h; rfl)
    obtain ⟨w, hD⟩ := com_yes h he
    have hw : w = w2 := by have h1 := hD.l1; rw [C2.l1] at h1; simp at h1; exact h1.symm
    exact ⟨he, hw ▸ hD⟩
theorem Done.apart {s a b ab ba : St} {l m : Lg} {x y x' y' : List Int} {w1 w2 : List Pr} (C1 : Done s l a x w1) (C2 : Done s m b y w2) (D1 : Done a m ab x' w2) (D2 : Done b l ba y' w1) (hd : x.any (fun u => y.contains u) = false) :
    ab.ver = ba.ver ∧ ab.cells.length = ba.cells.length ∧ ∀ (k : Nat) (c d : Pr), ab.cells[k]? = some c → ba.cells[k]? = some d → c.1 = d.1 := by
  refine ⟨?_, by rw [D1.len, C1.len, D2.len, C2.len], fun k c d hc hk => ?_⟩
  · rw [D1.ve, D2.ve, C1.ve, C2.ve]
    by_cases h1 : w1 = [] <;> by_cases h2 : w2 = [] <;> simp [h1, h2]
  · have hkl : k < s.cells.length := by have := (List.getElem?_eq_some_iff.1 hc).1; rw [D1.len, C1.len] at this; exact this
    have hne : ∀ u ∈ w1, ∀ v ∈ w2, u.1.toNat ≠ v.1.toNat := fun u hu v hv e => by
      have h1 := (there_iff.1 (C1.th u hu)).1
      have h2 := (there_iff.1 (C2.th v hv)).1
      have := List.any_eq_false.1 hd u.1 (by rw [C1.xs]; exact List.mem_map.2 ⟨u, hu, rfl⟩)
      rw [List.contains_iff_mem, C2.xs] at this
      exact this (List.mem_map.2 ⟨v, hv, by omega⟩)
    have key : (ab.cells[k]?).map (·.1) = (ba.cells[k]?).map (·.1) := by
      rw [D1.ce, D2.ce, C1.ce, C2.ce]
      by_cases h1 : ∃ u ∈ w1, u.1.toNat = k
      · obtain ⟨u, hu, he⟩ := h1
        rw [wfold_none _ k w2 _ (fun v hv e => hne u hu v hv (by rw [he, e]))]
        exact wfold_at _ _ k w1 _ _ hkl (by rw [wput_len]; exact hkl) ⟨u, hu, he⟩
      · rw [wfold_none _ k w1 (w2.foldl _ _) (fun u hu e => h1 ⟨u, hu, e⟩)]
        by_cases h2 : ∃ v ∈ w2, v.1.toNat = k
        · exact wfold_at _ _ k w2 _ _ (by rw [wput_len]; exact hkl) hkl h2
        · rw [wfold_none _ k w2 _ (fun u hu e => h2 ⟨u, hu, e⟩), wfold_none _ k w2 _ (fun u hu e => h2 ⟨u, hu, e⟩), wfold_none _ k w1 _ (fun u hu e => h1 ⟨u, hu, e⟩)]
    rw [hc, hk] at key
    simpa using key
theorem any_moreI {xs : List Int} {p : Int → Bool} {k : Nat} {x : Int} (h : xs[k]? = some x) : (xs.take (k + 1)).any p = ((xs.take k).any p || p x) := by rw [take_more h, List.any_append]; simp
set_option maxRecDepth 100000 in
set_option maxHeartbeats 32000000 in
theorem apart_way (vs : Value) (vl : Value) (vm : Value) (w : World) (hs : ∃ s, SVal w (fun _ => True) vs s) (hl : ∃ l, GVal w (fun _ => True) vl l) (hm : ∃ m, GVal w (fun _ => True) vm m) :
    Calls Try.prog 5 #[vs, vl, vm] w (Bb true w) := by
  obtain ⟨s, hs⟩ := hs
  have qs := hs
  obtain ⟨ads, cps, rfl, his, hs⟩ := hs
  obtain ⟨_, _, e, l1, _⟩ := hs.shape
  cases e
  clear hs
  have HIs := hid his
  obtain ⟨l, hl⟩ := hl
  have ql := hl
  obtain ⟨rl, rcl, ll, lcl, rfl, hr, hl⟩ := hl
  obtain ⟨_, _, e, l2, _⟩ := hr.shape
  cases e
  obtain ⟨_, _, e, l3, _⟩ := hl.shape
  cases e
  clear hr hl
  obtain ⟨m, hm⟩ := hm
  have qm := hm
  obtain ⟨rm, rcm, lm, lcm, rfl, hr, hl⟩ := hm
  obtain ⟨_, _, e, l2, _⟩ := hr.shape
  cases e
  obtain ⟨_, _, e, l3, _⟩ := hl.shape
  cases e
  clear hr hl
  have HB : Hid (Below w.heap.size w w) := Below.refl _ _
  obtain ⟨Ws, hws⟩ : ∃ z, w.alloc (.cells #[.slice ads s.cells.length cps, .int .i64 s.ver] 24) = z := ⟨_, rfl⟩
  have bb := (Below.refl w.heap.size w).alloc (Nat.le_refl _) (.cells #[.slice ads s.cells.length cps, .int .i64 s.ver] 24)
  rw [hws] at bb
  have Ks := hid (BSt.new HB.out qs)
  rw [hws] at Ks
  replace HB : Hid (Below w.heap.size w Ws) := HB.out.trans (bb.mono HB.out.size)
  have hzWs : Ws.heap.size = w.heap.size + 1 := by rw [← hws]; simp
  clear bb qs
  obtain ⟨Wl, hwl⟩ : ∃ z, Ws.alloc (.cells #[.slice rl l.reads.length rcl, .slice ll l.levels.length lcl] 28) = z := ⟨_, rfl⟩
  have bb := (Below.refl Ws.heap.size Ws).alloc (Nat.le_refl _) (.cells #[.slice rl l.reads.length rcl, .slice ll l.levels.length lcl] 28)
  rw [hwl] at bb
  have Kl := hid (BLg.new HB.out (ql.more HB.out))
  rw [hwl] at Kl
  rw [hzWs] at Kl
  replace Ks := hid (Ks.out.more bb)
  replace HB : Hid (Below w.heap.size w Wl) := HB.out.trans (bb.mono HB.out.size)
  have hzWl : Wl.heap.size = w.heap.size + 2 := by rw [← hwl]; simp [hzWs]
  clear bb ql
  obtain ⟨Wm, hwm⟩ : ∃ z, Wl.alloc (.cells #[.slice rm m.reads.length rcm, .slice lm m.levels.length lcm] 28) = z := ⟨_, rfl⟩
  have bb := (Below.refl Wl.heap.size Wl).alloc (Nat.le_refl _) (.cells #[.slice rm m.reads.length rcm, .slice lm m.levels.length lcm] 28)
  rw [hwm] at bb
  have Km := hid (BLg.new HB.out (qm.more HB.out))
  rw [hwm] at Km
  rw [hzWl] at Km
  replace Ks := hid (Ks.out.more bb)
  replace Kl := hid (Kl.out.more bb)
  replace HB : Hid (Below w.heap.size w Wm) := HB.out.trans (bb.mono HB.out.size)
  have hzWm : Wm.heap.size = w.heap.size + 3 := by rw [← hwm]; simp [hzWl]
  clear bb qm
  have HW := hwm
  rw [← hwl] at HW
  rw [← hws] at HW
  replace HW := hid HW
  have HZ := hid hzWm
  clear hws hwl hwm hzWs hzWl hzWm
  go_enter Try.func5, Try.ntmps5
  go_upto_region 1 with (fail)
  rw [HW.out]
  clear HW
  have P := hid (awake_any Wm)
  go_wp2_with fail
  refine P.out.mono ?_
  rintro e w11 ⟨rfl, b⟩
  clear P
  replace Ks := hid (Ks.out.more b)
  replace Kl := hid (Kl.out.more b)
  replace Km := hid (Km.out.more b)
  replace HB : Hid (Below w.heap.size w _) := HB.out.trans (b.mono HB.out.size)
  clear b
  obtain ⟨q, hq⟩ : ∃ q, q = (decide (s.cells.length ≤ 300) && fewG l) := ⟨_, rfl⟩
  have cs0 : w11.cell? ⟨w.heap.size, 0, none⟩ = some (.slice ads s.cells.length cps) := Ks.out.c0
  have cs1 : w11.cell? ⟨w.heap.size, 1, none⟩ = some (.int .i64 s.ver) := Ks.out.c1
  have cl0 : w11.cell? ⟨w.heap.size + 1, 0, none⟩ = some (.slice rl l.reads.length rcl) := Kl.out.c0
  have cl1 : w11.cell? ⟨w.heap.size + 1, 1, none⟩ = some (.slice ll l.levels.length lcl) := Kl.out.c1
  have P := hid (sfew_any w11 _ _ (.agg #[.slice ads s.cells.length cps, .int .i64 s.ver]) (.agg #[.slice rl l.reads.length rcl, .slice ll l.levels.length lcl]) s l Ks.out.val Kl.out.val)
  rw [← hq] at P
  have HQ := hid hq
  clear hq
  go_wp2_with fail
  refine P.out.mono ?_
  rintro e w12 ⟨rfl, b⟩
  clear P
  clear cs0 cs1 cl0 cl1
  replace Ks := hid (Ks.out.more b)
  replace Kl := hid (Kl.out.more b)
  replace Km := hid (Km.out.more b)
  replace HB : Hid (Below w.heap.size w _) := HB.out.trans (b.mono HB.out.size)
  clear b
  cases q
  · go_wp2_with fail
    go_ret
    exact Bb.fin rfl HB.out
  have HF := hid (show s.cells.length ≤ 300 by have h := HQ.out.symm; simp only [Bool.and_eq_true, decide_eq_true_eq] at h; exact h.1)
  have HG := hid (show Okl l 100 by have h := HQ.out.symm; simp only [Bool.and_eq_true] at h; exact fewG_ok h.2)
  clear HQ
  have HL := hid (show s.cells.length ≤ 100000 by have := HF.out; omega)
  have HLL := hid (show ∀ x ∈ l.levels, x.length ≤ 100000 from fun x hx => by have := HG.out.2.2 x hx; omega)
  obtain ⟨q, hq⟩ : ∃ q, q = fewG m := ⟨_, rfl⟩
  have cm0 : w12.cell? ⟨w.heap.size + 2, 0, none⟩ = some (.slice rm m.reads.length rcm) := Km.out.c0
  have cm1 : w12.cell? ⟨w.heap.size + 2, 1, none⟩ = some (.slice lm m.levels.length lcm) := Km.out.c1
  have P := hid (few_any w12 _ (.agg #[.slice rm m.reads.length rcm, .slice lm m.levels.length lcm]) m Km.out.val)
  rw [← hq] at P
  have HQ := hid hq
  clear hq
  go_wp2_with fail
  refine P.out.mono ?_
  rintro e w13 ⟨rfl, b⟩
  clear P
  clear cm0 cm1
  replace Ks := hid (Ks.out.more b)
  replace Kl := hid (Kl.out.more b)
  replace Km := hid (Km.out.more b)
  replace HB : Hid (Below w.heap.size w _) := HB.out.trans (b.mono HB.out.size)
  clear b
  cases q
  · go_wp2_with fail
    go_ret
    exact Bb.fin rfl HB.out
  have HM := hid (show Okl m 100 from fewG_ok HQ.out.symm)
  have HML := hid (show ∀ x ∈ m.levels, x.length ≤ 100000 from fun x hx => by have := HM.out.2.2 x hx; omega)
  clear HQ
  obtain ⟨rr, hr⟩ : ∃ rr, rr = commitS s l := ⟨_, rfl⟩
  obtain ⟨ta, va, ea⟩ := rr
  have HRa := hid hr
  have cs0 : w13.cell? ⟨w.heap.size, 0, none⟩ = some (.slice ads s.cells.length cps) := Ks.out.c0
  have cs1 : w13.cell? ⟨w.heap.size, 1, none⟩ = some (.int .i64 s.ver) := Ks.out.c1
  have cl0 : w13.cell? ⟨w.heap.size + 1, 0, none⟩ = some (.slice rl l.reads.length rcl) := Kl.out.c0
  have cl1 : w13.cell? ⟨w.heap.size + 1, 1, none⟩ = some (.slice ll l.levels.length lcl) := Kl.out.c1
  have P := hid (commit_any w13 _ _ (.agg #[.slice ads s.cells.length cps, .int .i64 s.ver]) (.agg #[.slice rl l.reads.length rcl, .slice ll l.levels.length lcl]) s l Ks.out.val Kl.out.val HL.out HLL.out)
  rw [← hr] at P
  clear hr
  go_wp2_with fail
  refine P.out.mono ?_
  rintro e w14 ⟨saa, sca, vaa, vca, rfl, hs, hv, b⟩
  clear P
  clear cs0 cs1 cl0 cl1
  have hsa := hs.all
  have Kva := hid (RSl.weak intGood (by decide) (ok' := fun _ => True) hv (fun _ _ _ => trivial))
  clear hs hv
  obtain ⟨_, _, ev, lva, _⟩ := ISl.shape Kva.out
  clear ev
  replace Ks := hid (Ks.out.more b)
  replace Kl := hid (Kl.out.more b)
  replace Km := hid (Km.out.more b)
  replace HB : Hid (Below w.heap.size w _) := HB.out.trans (b.mono HB.out.size)
  clear b
  go_upto_region 5 with (fail)
  have bb := (Below.refl w14.heap.size w14).alloc (Nat.le_refl _) (.cells #[.slice saa ta.cells.length sca, .int .i64 ta.ver] 24)
  have Ka := hid (BSt.new HB.out hsa)
  have hBwa := HB.out.size
  obtain ⟨w15, hw⟩ : ∃ z, w14.alloc (.cells #[.slice saa ta.cells.length sca, .int .i64 ta.ver] 24) = z := ⟨_, rfl⟩
  rw [hw] at bb Ka ⊢
  obtain ⟨Ba, hBa⟩ : ∃ z, w14.heap.size = z := ⟨_, rfl⟩
  rw [hBa] at Ka hBwa ⊢
  replace Ks := hid (Ks.out.more bb)
  replace Kl := hid (Kl.out.more bb)
  replace Km := hid (Km.out.more bb)
  replace Kva := hid (RSl.below intGood Kva.out bb)
  replace HB : Hid (Below w.heap.size w w15) := HB.out.trans (bb.mono HB.out.size)
  clear bb hw hsa hBa hBwa
  obtain ⟨rr, hr⟩ : ∃ rr, rr = commitS s m := ⟨_, rfl⟩
  obtain ⟨td, vd, ed⟩ := rr
  have HRd := hid hr
  have cs0 : w15.cell? ⟨w.heap.size, 0, none⟩ = some (.slice ads s.cells.length cps) := Ks.out.c0
  have cs1 : w15.cell? ⟨w.heap.size, 1, none⟩ = some (.int .i64 s.ver) := Ks.out.c1
  have cm0 : w15.cell? ⟨w.heap.size + 2, 0, none⟩ = some (.slice rm m.reads.length rcm) := Km.out.c0
  have cm1 : w15.cell? ⟨w.heap.size + 2, 1, none⟩ = some (.slice lm m.levels.length lcm) := Km.out.c1
  have P := hid (commit_any w15 _ _ (.agg #[.slice ads s.cells.length cps, .int .i64 s.ver]) (.agg #[.slice rm m.reads.length rcm, .slice lm m.levels.length lcm]) s m Ks.out.val Km.out.val HL.out HML.out)
  rw [← hr] at P
  clear hr
  go_wp2_with fail
  refine P.out.mono ?_
  rintro e w16 ⟨sad, scd, vad, vcd, rfl, hs, hv, b⟩
  clear P
  clear cs0 cs1 cm0 cm1
  have hsd := hs.all
  have Kvd := hid (RSl.weak intGood (by decide) (ok' := fun _ => True) hv (fun _ _ _ => trivial))
  clear hs hv
  obtain ⟨_, _, ev, lvd, _⟩ := ISl.shape Kvd.out
  clear ev
  replace Ks := hid (Ks.out.more b)
  replace Kl := hid (Kl.out.more b)
  replace Km := hid (Km.out.more b)
  replace Kva := hid (RSl.below intGood Kva.out b)
  replace Ka := hid (Ka.out.more b)
  replace HB : Hid (Below w.heap.size w _) := HB.out.trans (b.mono HB.out.size)
  clear b
  go_upto_region 6 with (fail)
  have bb := (Below.refl w16.heap.size w16).alloc (Nat.le_refl _) (.cells #[.slice sad td.cells.length scd, .int .i64 td.ver] 24)
  have Kd := hid (BSt.new HB.out hsd)
  have hBwd := HB.out.size
  obtain ⟨w17, hw⟩ : ∃ z, w16.alloc (.cells #[.slice sad td.cells.length scd, .int .i64 td.ver] 24) = z := ⟨_, rfl⟩
  rw [hw] at bb Kd ⊢
  obtain ⟨Bd, hBd⟩ : ∃ z, w16.heap.size = z := ⟨_, rfl⟩
  rw [hBd] at Kd hBwd ⊢
  replace Ks := hid (Ks.out.more bb)
  replace Kl := hid (Kl.out.more bb)
  replace Km := hid (Km.out.more bb)
  replace Kva := hid (RSl.below intGood Kva.out bb)
  replace Ka := hid (Ka.out.more bb)
  replace Kvd := hid (RSl.below intGood Kvd.out bb)
  replace HB : Hid (Below w.heap.size w w17) := HB.out.trans (bb.mono HB.out.size)
  clear bb hw hsd hBd hBwd
  by_cases he : ea = 0
  rotate_left
  · have f1 : (ea != 0) = true := by simp [he]
    go_wp2_with fail
    go_ret
    exact Bb.fin rfl HB.out
  have f1 : (ea != 0) = false := by simp [he]
  by_cases hf : ed = 0
  rotate_left
  · have f2 : (ed != 0) = true := by simp [hf]
    go_wp2_with fail
    go_ret
    exact Bb.fin rfl HB.out
  have f2 : (ed != 0) = false := by simp [hf]
  have cs0 : w17.cell? ⟨w.heap.size, 0, none⟩ = some (.slice ads s.cells.length cps) := Ks.out.c0
  have cs1 : w17.cell? ⟨w.heap.size, 1, none⟩ = some (.int .i64 s.ver) := Ks.out.c1
  by_cases hv : s.ver < 1099511627774
  rotate_left
  · have f3 : decide (s.ver ≥ 1099511627774) = true := by simp; omega
    have f4 : decide (1099511627774 ≤ s.ver) = true := by simp; omega
    go_wp2_with fail
    go_ret
    exact Bb.fin rfl HB.out
  have f3 : decide (s.ver ≥ 1099511627774) = false := by simp; omega
  have f4 : decide (1099511627774 ≤ s.ver) = false := by simp; omega
  obtain ⟨w1, hD⟩ := com_yes HRa.out he
  have C1 := hid hD
  clear hD
  obtain ⟨w2, hD⟩ := com_yes HRd.out hf
  have C2 := hid hD
  clear hD
  have HV := hid hv
  clear he hf hv
  go_upto_region 8 with (fail)
  clear f1 f2 f3 f4 cs0 cs1
  obtain ⟨rr, hr⟩ : ∃ rr, rr = commitS ta m := ⟨_, rfl⟩
  obtain ⟨tp, vp, ep⟩ := rr
  have HRp := hid hr
  have ca0 : w17.cell? ⟨Ba, 0, none⟩ = some (.slice saa ta.cells.length sca) := Ka.out.c0
  have ca1 : w17.cell? ⟨Ba, 1, none⟩ = some (.int .i64 ta.ver) := Ka.out.c1
  have cm0 : w17.cell? ⟨w.heap.size + 2, 0, none⟩ = some (.slice rm m.reads.length rcm) := Km.out.c0
  have cm1 : w17.cell? ⟨w.heap.size + 2, 1, none⟩ = some (.slice lm m.levels.length lcm) := Km.out.c1
  have P := hid (commit_any w17 _ _ (.agg #[.slice saa ta.cells.length sca, .int .i64 ta.ver]) (.agg #[.slice rm m.reads.length rcm, .slice lm m.levels.length lcm]) ta m Ka.out.val Km.out.val (by have := C1.out.len; have := HL.out; omega) HML.out)
  rw [← hr] at P
  clear hr
  go_wp2_with fail
  refine P.out.mono ?_
  rintro e w18 ⟨sap, scp, vap, vcp, rfl, hs, hv, b⟩
  clear P
  clear ca0 ca1 cm0 cm1
  have hsp := hs.all
  have Kvp := hid (RSl.weak intGood (by decide) (ok' := fun _ => True) hv (fun _ _ _ => trivial))
  clear hs hv
  obtain ⟨_, _, ev, lvp, _⟩ := ISl.shape Kvp.out
  clear ev
  replace Ks := hid (Ks.out.more b)
  replace Kl := hid (Kl.out.more b)
  replace Km := hid (Km.out.more b)
  replace Kva := hid (RSl.below intGood Kva.out b)
  replace Ka := hid (Ka.out.more b)
  replace Kvd := hid (RSl.below intGood Kvd.out b)
  replace Kd := hid (Kd.out.more b)
  replace HB : Hid (Below w.heap.size w _) := HB.out.trans (b.mono HB.out.size)
  clear b
  go_upto_region 9 with (fail)
  have bb := (Below.refl w18.heap.size w18).alloc (Nat.le_refl _) (.cells #[.slice sap tp.cells.length scp, .int .i64 tp.ver] 24)
  have Kp := hid (BSt.new HB.out hsp)
  have hBwp := HB.out.size
  obtain ⟨w19, hw⟩ : ∃ z, w18.alloc (.cells #[.slice sap tp.cells.length scp, .int .i64 tp.ver] 24) = z := ⟨_, rfl⟩
  rw [hw] at bb Kp ⊢
  obtain ⟨Bp, hBp⟩ : ∃ z, w18.heap.size = z := ⟨_, rfl⟩
  rw [hBp] at Kp hBwp ⊢
  replace Ks := hid (Ks.out.more bb)
  replace Kl := hid (Kl.out.more bb)
  replace Km := hid (Km.out.more bb)
  replace Kva := hid (RSl.below intGood Kva.out bb)
  replace Ka := hid (Ka.out.more bb)
  replace Kvd := hid (RSl.below intGood Kvd.out bb)
  replace Kd := hid (Kd.out.more bb)
  replace Kvp := hid (RSl.below intGood Kvp.out bb)
  replace HB : Hid (Below w.heap.size w w19) := HB.out.trans (bb.mono HB.out.size)
  clear bb hw hsp hBp hBwp
  obtain ⟨rr, hr⟩ : ∃ rr, rr = commitS td l := ⟨_, rfl⟩
  obtain ⟨tq, vq, eq⟩ := rr
  have HRq := hid hr
  have cd0 : w19.cell? ⟨Bd, 0, none⟩ = some (.slice sad td.cells.length scd) := Kd.out.c0
  have cd1 : w19.cell? ⟨Bd, 1, none⟩ = some (.int .i64 td.ver) := Kd.out.c1
  have cl0 : w19.cell? ⟨w.heap.size + 1, 0, none⟩ = some (.slice rl l.reads.length rcl) := Kl.out.c0
  have cl1 : w19.cell? ⟨w.heap.size + 1, 1, none⟩ = some (.slice ll l.levels.length lcl) := Kl.out.c1
  have P := hid (commit_any w19 _ _ (.agg #[.slice sad td.cells.length scd, .int .i64 td.ver]) (.agg #[.slice rl l.reads.length rcl, .slice ll l.levels.length lcl]) td l Kd.out.val Kl.out.val (by have := C2.out.len; have := HL.out; omega) HLL.out)
  rw [← hr] at P
  clear hr
  go_wp2_with fail
  refine P.out.mono ?_
  rintro e w20 ⟨saq, scq, vaq, vcq, rfl, hs, hv, b⟩
  clear P
  clear cd0 cd1 cl0 cl1
  have hsq := hs.all
  have Kvq := hid (RSl.weak intGood (by decide) (ok' := fun _ => True) hv (fun _ _ _ => trivial))
  clear hs hv
  obtain ⟨_, _, ev, lvq, _⟩ := ISl.shape Kvq.out
  clear ev
  replace Ks := hid (Ks.out.more b)
  replace Kl := hid (Kl.out.more b)
  replace Km := hid (Km.out.more b)
  replace Kva := hid (RSl.below intGood Kva.out b)
  replace Ka := hid (Ka.out.more b)
  replace Kvd := hid (RSl.below intGood Kvd.out b)
  replace Kd := hid (Kd.out.more b)
  replace Kvp := hid (RSl.below intGood Kvp.out b)
  replace Kp := hid (Kp.out.more b)
  replace HB : Hid (Below w.heap.size w _) := HB.out.trans (b.mono HB.out.size)
  clear b
  go_upto_region 10 with (fail)
  have bb := (Below.refl w20.heap.size w20).alloc (Nat.le_refl _) (.cells #[.slice saq tq.cells.length scq, .int .i64 tq.ver] 24)
  have Kq := hid (BSt.new HB.out hsq)
  have hBwq := HB.out.size
  obtain ⟨w21, hw⟩ : ∃ z, w20.alloc (.cells #[.slice saq tq.cells.length scq, .int .i64 tq.ver] 24) = z := ⟨_, rfl⟩
  rw [hw] at bb Kq ⊢
  obtain ⟨Bq, hBq⟩ : ∃ z, w20.heap.size = z := ⟨_, rfl⟩
  rw [hBq] at Kq hBwq ⊢
  replace Ks := hid (Ks.out.more bb)
  replace Kl := hid (Kl.out.more bb)
  replace Km := hid (Km.out.more bb)
  replace Kva := hid (RSl.below intGood Kva.out bb)
  replace Ka := hid (Ka.out.more bb)
  replace Kvd := hid (RSl.below intGood Kvd.out bb)
  replace Kd := hid (Kd.out.more bb)
  replace Kvp := hid (RSl.below intGood Kvp.out bb)
  replace Kp := hid (Kp.out.more bb)
  replace Kvq := hid (RSl.below intGood Kvq.out bb)
  replace HB : Hid (Below w.heap.size w w21) := HB.out.trans (bb.mono HB.out.size)
  clear bb hw hsq hBq hBwq
  have N1 := hid (C1.out.next C2.out HV.out HRp.out)
  have N2 := hid (C2.out.next C1.out HV.out HRq.out)
  obtain ⟨m1, hm1⟩ : ∃ q, q = l.reads.any (fun r => vd.contains r.1) := ⟨_, rfl⟩
  obtain ⟨m2, hm2⟩ : ∃ q, q = m.reads.any (fun r => va.contains r.1) := ⟨_, rfl⟩
  have M1 := hid hm1
  have M2 := hid hm2
  clear hm1 hm2
  skip
  go_cut [20] (fun f wx => f = .bool (m1 || m2) ∧ Hid (Below w21.heap.size w21 wx))
  case first =>
    have HB0 : Hid (Below w21.heap.size w21 w21) := Below.refl _ _
    have cl0 : w21.cell? ⟨w.heap.size + 1, 0, none⟩ = some (.slice rl l.reads.length rcl) := Kl.out.c0
    have cl1 : w21.cell? ⟨w.heap.size + 1, 1, none⟩ = some (.slice ll l.levels.length lcl) := Kl.out.c1
    have P := hid (meets_any w21 _ _ (.agg #[.slice rl l.reads.length rcl, .slice ll l.levels.length lcl]) (.slice vad vd.length vcd) l vd Kl.out.val Kvd.out)
    rw [← M1.out] at P
    go_wp2_with fail
    refine P.out.mono ?_
    rintro e w22 ⟨rfl, b⟩
    clear P
    clear cl0 cl1
    replace Ks := hid (Ks.out.more b)
    replace Kl := hid (Kl.out.more b)
    replace Km := hid (Km.out.more b)
    replace Kva := hid (RSl.below intGood Kva.out b)
    replace Ka := hid (Ka.out.more b)
    replace Kvd := hid (RSl.below intGood Kvd.out b)
    replace Kd := hid (Kd.out.more b)
    replace Kvp := hid (RSl.below intGood Kvp.out b)
    replace Kp := hid (Kp.out.more b)
    replace Kvq := hid (RSl.below intGood Kvq.out b)
    replace Kq := hid (Kq.out.more b)
    replace HB : Hid (Below w.heap.size w _) := HB.out.trans (b.mono HB.out.size)
    replace HB0 : Hid (Below w21.heap.size w21 _) := HB0.out.trans (b.mono HB0.out.size)
    clear b
    cases m1
    ·
      have cm0 : w22.cell? ⟨w.heap.size + 2, 0, none⟩ = some (.slice rm m.reads.length rcm) := Km.out.c0
      have cm1 : w22.cell? ⟨w.heap.size + 2, 1, none⟩ = some (.slice lm m.levels.length lcm) := Km.out.c1
      have P := hid (meets_any w22 _ _ (.agg #[.slice rm m.reads.length rcm, .slice lm m.levels.length lcm]) (.slice vaa va.length vca) m va Km.out.val Kva.out)
      rw [← M2.out] at P
      go_wp2_with fail
      refine P.out.mono ?_
      rintro e w23 ⟨rfl, b⟩
      clear P
      clear cm0 cm1
      replace Ks := hid (Ks.out.more b)
      replace Kl := hid (Kl.out.more b)
      replace Km := hid (Km.out.more b)
      replace Kva := hid (RSl.below intGood Kva.out b)
      replace Ka := hid (Ka.out.more b)
      replace Kvd := hid (RSl.below intGood Kvd.out b)
      replace Kd := hid (Kd.out.more b)
      replace Kvp := hid (RSl.below intGood Kvp.out b)
      replace Kp := hid (Kp.out.more b)
      replace Kvq := hid (RSl.below intGood Kvq.out b)
      replace Kq := hid (Kq.out.more b)
      replace HB : Hid (Below w.heap.size w _) := HB.out.trans (b.mono HB.out.size)
      replace HB0 : Hid (Below w21.heap.size w21 _) := HB0.out.trans (b.mono HB0.out.size)
      clear b
      go_wp2_with fail
      go_meet
      case rel => exact ⟨by simp, HB0.out⟩
    · go_wp2_with fail
      go_meet
      case rel => exact ⟨by simp, HB0.out⟩
  case rest =>
    obtain ⟨rfl, HBC⟩ := hcut
    have b := HBC.out
    replace Ks := hid (Ks.out.more b)
    replace Kl := hid (Kl.out.more b)
    replace Km := hid (Km.out.more b)
    replace Kva := hid (RSl.below intGood Kva.out b)
    replace Ka := hid (Ka.out.more b)
    replace Kvd := hid (RSl.below intGood Kvd.out b)
    replace Kd := hid (Kd.out.more b)
    replace Kvp := hid (RSl.below intGood Kvp.out b)
    replace Kp := hid (Kp.out.more b)
    replace Kvq := hid (RSl.below intGood Kvq.out b)
    replace Kq := hid (Kq.out.more b)
    replace HB : Hid (Below w.heap.size w _) := HB.out.trans (b.mono HB.out.size)
    clear b HBC
    obtain ⟨mm, hmm⟩ : ∃ q, q = (m1 || m2) := ⟨_, rfl⟩
    have MM := hid hmm
    rw [← hmm]
    clear hmm
    go_upto_region 12 with (fail)
    go_loopw [20, 21] (fun f i wr => ∃ (k : Nat) (b : Bool), k ≤ va.length ∧ i = .int .i64 k ∧ f = .bool b ∧ Hid (b = (mm || (va.take k).any (fun x => vd.contains x))) ∧ Hid (Below wc.heap.size wc wr)) (fun _ i _ => va.length - (intOf i).toNat)
    case atStart => exact ⟨0, mm, Nat.zero_le _, rfl, rfl, by show _ = _; simp, Below.refl _ _⟩
    case round =>
      obtain ⟨k, b, hk, rfl, rfl, HB1, HW1⟩ := hrel
      by_cases hlt : k < va.length
      ·
        obtain ⟨x, hx⟩ : ∃ x, va[k]? = some x := ⟨_, List.getElem?_eq_getElem hlt⟩
        have HX := hid hx
        clear hx
        go_upto_region 15 with (fail)
        go_loopw [20, 22] (fun f i wr' => ∃ (j : Nat) (c : Bool), j ≤ vd.length ∧ i = .int .i64 j ∧ f = .bool c ∧ Hid (c = ((mm || (va.take k).any (fun x => vd.contains x)) || (vd.take j).contains x)) ∧ Hid (Below wc.heap.size wc wr')) (fun _ i _ => vd.length - (intOf i).toNat)
        case atStart => exact ⟨0, b, Nat.zero_le _, rfl, rfl, by show _ = _; rw [HB1.out]; simp, HW1⟩
        case round =>
          obtain ⟨j, c, hj, rfl, rfl, HC, HW2⟩ := hrel
          clear HB1
          by_cases hlj : j < vd.length
          ·
            obtain ⟨b1, o1, c1', x', hv1, hx', _, e1⟩ := ISl.at Kva.out HW2.out hlt
            obtain rfl : x' = x := by have h := HX.out; rw [hx'] at h; cases h; rfl
            cases hv1
            obtain ⟨b2, o2, c2', y, hv2, hy, _, e2⟩ := ISl.at Kvd.out HW2.out hlj
            cases hv2
            have HY := hid hy
            clear hy hx'
            have hs2 := HW2.out.size
            obtain ⟨q1, hq1⟩ : ∃ q, q = (x' == y) := ⟨_, rfl⟩
            have HN : Hid ((c || q1) = ((mm || (va.take k).any (fun x => vd.contains x)) || (vd.take (j + 1)).contains x')) := by show _ = _; rw [has_more HY.out, ← Bool.or_assoc, ← HC.out, hq1]
            clear HC
            cases c
            ·
              cases q1
              · have f9 : (x' == y) = false := hq1.symm
                clear hq1
                go_wp2_with fail
                go_quiet (fail)
                go_wp2_with fail
                go_roundw
                case rel => exact ⟨j + 1, false, by omega, by go_num, rfl, HN, below_drewN HW2.out _⟩
                case measure => simp [intOf]; omega
              · have f9 : (x' == y) = true := hq1.symm
                clear hq1
                go_wp2_with fail
                go_quiet (fail)
                go_wp2_with fail
                go_roundw
                case rel => exact ⟨j + 1, true, by omega, by go_num, rfl, HN, below_drewN HW2.out _⟩
                case measure => simp [intOf]; omega
            · clear hq1
              go_wp2_with fail
              go_quiet (fail)
              go_wp2_with fail
              go_roundw
              case rel => exact ⟨j + 1, true, by omega, by go_num, rfl, HN, below_drewN HW2.out _⟩
              case measure => simp [intOf]; omega
          · obtain rfl : j = vd.length := by omega
            rw [List.take_length] at HC
            have HN : Hid (c = (mm || (va.take (k + 1)).any (fun x => vd.contains x))) := by show _ = _; rw [any_moreI HX.out, ← Bool.or_assoc, ← HC.out]
            clear HC
            go_wp2_with fail
            go_roundw
            case rel => exact ⟨k + 1, c, by omega, by go_num, rfl, HN, HW2⟩
            case measure => simp [intOf]; omega
      ·
        obtain rfl : k = va.length := by omega
        rw [List.take_length] at HB1
        have b' := HW1.out
        replace Ks := hid (Ks.out.more b')
        replace Kl := hid (Kl.out.more b')
        replace Km := hid (Km.out.more b')
        replace Kva := hid (RSl.below intGood Kva.out b')
        replace Ka := hid (Ka.out.more b')
        replace Kvd := hid (RSl.below intGood Kvd.out b')
        replace Kd := hid (Kd.out.more b')
        replace Kvp := hid (RSl.below intGood Kvp.out b')
        replace Kp := hid (Kp.out.more b')
        replace Kvq := hid (RSl.below intGood Kvq.out b')
        replace Kq := hid (Kq.out.more b')
        replace HB : Hid (Below w.heap.size w _) := HB.out.trans (b'.mono HB.out.size)
        clear b' HW1
        cases b
        ·
          have hall : mm = false ∧ va.any (fun x => vd.contains x) = false := by have h := HB1.out.symm; simpa only [Bool.or_eq_false_iff] using h
          have hall2 : m1 = false ∧ m2 = false := by have h := MM.out.symm; rw [hall.1] at h; simpa only [Bool.or_eq_false_iff] using h
          obtain ⟨ep0, D1⟩ := N1.out.2 (by rw [← M2.out]; exact hall2.2)
          obtain ⟨eq0, D2⟩ := N2.out.2 (by rw [← M1.out]; exact hall2.1)
          obtain ⟨h1, h2, h3⟩ := C1.out.apart C2.out D1 D2 hall.2
          clear HB1 N1 N2 hall hall2
          subst ep0
          subst eq0
          have f1 : (tp.ver != tq.ver) = false := by rw [h1]; simp
          have f2 : ((tp.cells.length : Int) != tq.cells.length) = false := by rw [h2]; simp
          have H2 := hid h2
          have H3 := hid h3
          clear h1 h2 h3 D1 D2
          have cp0 : wr.cell? ⟨Bp, 0, none⟩ = some (.slice sap tp.cells.length scp) := Kp.out.c0
          have cp1 : wr.cell? ⟨Bp, 1, none⟩ = some (.int .i64 tp.ver) := Kp.out.c1
          have cq0 : wr.cell? ⟨Bq, 0, none⟩ = some (.slice saq tq.cells.length scq) := Kq.out.c0
          have cq1 : wr.cell? ⟨Bq, 1, none⟩ = some (.int .i64 tq.ver) := Kq.out.c1
          go_upto_region 23 with (fail)
          clear f1 f2
          clear cp0 cp1 cq0 cq1
          go_loopw [23] (fun i wr' => ∃ (k : Nat), k ≤ tp.cells.length ∧ i = .int .i64 k ∧ Hid (Below wr.heap.size wr wr')) (fun i _ => tp.cells.length - (intOf i).toNat)
          case atStart => exact ⟨0, Nat.zero_le _, rfl, Below.refl _ _⟩
          case round =>
            obtain ⟨k, hk, rfl, HW1⟩ := hrel
            have hs2 := HW1.out.size
            have b' := HW1.out
            have htpl : tp.cells.length ≤ 9223372036854775807 := by have h := Kp.out.cells.shape; obtain ⟨_, _, _, h, _⟩ := h; exact h
            have Kp' := hid (Kp.out.more b')
            have Kq' := hid (Kq.out.more b')
            have HBF := hid (HB.out.trans (b'.mono HB.out.size))
            clear b'
            have cp0 : wr.cell? ⟨Bp, 0, none⟩ = some (.slice sap tp.cells.length scp) := Kp'.out.c0
            have cq0 : wr.cell? ⟨Bq, 0, none⟩ = some (.slice saq tq.cells.length scq) := Kq'.out.c0
            by_cases hlt : k < tp.cells.length
            ·
              have hlt2 : k < tq.cells.length := by have := H2.out; omega
              obtain ⟨b1, o1, x, hv1, hx, _, _, _, e1, e2⟩ := Kp'.out.pick hlt
              obtain ⟨b2, o2, y, hv2, hy, _, _, _, e3, e4⟩ := Kq'.out.pick hlt2
              cases hv1
              cases hv2
              have f9 : (x.1 != y.1) = false := by rw [H3.out k x y hx hy]; simp
              clear hx hy
              go_wp2_with fail
              go_quiet (fail)
              go_wp2_with fail
              go_roundw
              case rel => exact ⟨k + 1, by omega, by go_num, below_drewN HW1.out _⟩
              case measure => simp [intOf]; omega
            · go_wp2_with fail
              go_ret
              exact Bb.fin rfl HBF.out
        ·
          clear HB1 MM
          have G1 : Hid (m2 = true → ep = 180) := fun h => N1.out.1 (by rw [← M2.out]; exact h)
          have G2 : Hid (m1 = true → eq = 180) := fun h => N2.out.1 (by rw [← M1.out]; exact h)
          clear N1 N2
          have cm0 : wr.cell? ⟨w.heap.size + 2, 0, none⟩ = some (.slice rm m.reads.length rcm) := Km.out.c0
          have cm1 : wr.cell? ⟨w.heap.size + 2, 1, none⟩ = some (.slice lm m.levels.length lcm) := Km.out.c1
          have P := hid (meets_any wr _ _ (.agg #[.slice rm m.reads.length rcm, .slice lm m.levels.length lcm]) (.slice vaa va.length vca) m va Km.out.val Kva.out)
          rw [← M2.out] at P
          go_wp2_with fail
          refine P.out.mono ?_
          rintro e w24 ⟨rfl, b⟩
          clear P
          clear cm0 cm1
          replace Ks := hid (Ks.out.more b)
          replace Kl := hid (Kl.out.more b)
          replace Km := hid (Km.out.more b)
          replace Kva := hid (RSl.below intGood Kva.out b)
          replace Ka := hid (Ka.out.more b)
          replace Kvd := hid (RSl.below intGood Kvd.out b)
          replace Kd := hid (Kd.out.more b)
          replace Kvp := hid (RSl.below intGood Kvp.out b)
          replace Kp := hid (Kp.out.more b)
          replace Kvq := hid (RSl.below intGood Kvq.out b)
          replace Kq := hid (Kq.out.more b)
          replace HB : Hid (Below w.heap.size w _) := HB.out.trans (b.mono HB.out.size)
          clear b
          cases m2
          ·
            have cl0 : w24.cell? ⟨w.heap.size + 1, 0, none⟩ = some (.slice rl l.reads.length rcl) := Kl.out.c0
            have cl1 : w24.cell? ⟨w.heap.size + 1, 1, none⟩ = some (.slice ll l.levels.length lcl) := Kl.out.c1
            have P := hid (meets_any w24 _ _ (.agg #[.slice rl l.reads.length rcl, .slice ll l.levels.length lcl]) (.slice vad vd.length vcd) l vd Kl.out.val Kvd.out)
            rw [← M1.out] at P
            go_wp2_with fail
            refine P.out.mono ?_
            rintro e w25 ⟨rfl, b⟩
            clear P
            clear cl0 cl1
            replace Ks := hid (Ks.out.more b)
            replace Kl := hid (Kl.out.more b)
            replace Km := hid (Km.out.more b)
            replace Kva := hid (RSl.below intGood Kva.out b)
            replace Ka := hid (Ka.out.more b)
            replace Kvd := hid (RSl.below intGood Kvd.out b)
            replace Kd := hid (Kd.out.more b)
            replace Kvp := hid (RSl.below intGood Kvp.out b)
            replace Kp := hid (Kp.out.more b)
            replace Kvq := hid (RSl.below intGood Kvq.out b)
            replace Kq := hid (Kq.out.more b)
            replace HB : Hid (Below w.heap.size w _) := HB.out.trans (b.mono HB.out.size)
            clear b
            cases m1
            · go_wp2_with fail
              go_ret
              exact Bb.fin rfl HB.out
            · obtain rfl : eq = 180 := G2.out rfl
              go_wp2_with fail
              go_ret
              exact Bb.fin rfl HB.out
          ·
            obtain rfl : ep = 180 := G1.out rfl
            have cl0 : w24.cell? ⟨w.heap.size + 1, 0, none⟩ = some (.slice rl l.reads.length rcl) := Kl.out.c0
            have cl1 : w24.cell? ⟨w.heap.size + 1, 1, none⟩ = some (.slice ll l.levels.length lcl) := Kl.out.c1
            have P := hid (meets_any w24 _ _ (.agg #[.slice rl l.reads.length rcl, .slice ll l.levels.length lcl]) (.slice vad vd.length vcd) l vd Kl.out.val Kvd.out)
            rw [← M1.out] at P
            go_wp2_with fail
            refine P.out.mono ?_
            rintro e w25 ⟨rfl, b⟩
            clear P
            clear cl0 cl1
            replace Ks := hid (Ks.out.more b)
            replace Kl := hid (Kl.out.more b)
            replace Km := hid (Km.out.more b)
            replace Kva := hid (RSl.below intGood Kva.out b)
            replace Ka := hid (Ka.out.more b)
            replace Kvd := hid (RSl.below intGood Kvd.out b)
            replace Kd := hid (Kd.out.more b)
            replace Kvp := hid (RSl.below intGood Kvp.out b)
            replace Kp := hid (Kp.out.more b)
            replace Kvq := hid (RSl.below intGood Kvq.out b)
            replace Kq := hid (Kq.out.more b)
            replace HB : Hid (Below w.heap.size w _) := HB.out.trans (b.mono HB.out.size)
            clear b
            cases m1
            · go_wp2_with fail
              go_ret
              exact Bb.fin rfl HB.out
            · obtain rfl : eq = 180 := G2.out rfl
              go_wp2_with fail
              go_ret
              exact Bb.fin rfl HB.out
end Go.Proofs.Ytplckigmllkpoaa
