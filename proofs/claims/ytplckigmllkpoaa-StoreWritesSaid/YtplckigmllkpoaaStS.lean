/- StoreWrites: the walk. -/
import Derived.Test.YtplckigmllkpoaaStN
namespace Go.Proofs.Ytplckigmllkpoaa
open Go.RowKit Go.Shelf Go.Maps
attribute [local go_sem] Oper.semAt_some
theorem once_pos {xs : List Int} (h : onceB xs = true) {z : Int} (hz : z ∈ xs) : 0 ≤ z := by
  induction xs with
  | nil => cases hz
  | cons x xs ih =>
    rw [onceB] at h
    simp only [Bool.and_eq_true, decide_eq_true_eq] at h
    rcases List.mem_cons.1 hz with rfl | hm
    · exact h.1.1
    · exact ih h.2 hm
theorem wfold_once (v : Int) : ∀ (xs c : List Pr), onceB (xs.map (·.1)) = true → ∀ y ∈ xs, y.1.toNat < c.length → (xs.foldl (wput v) c)[y.1.toNat]? = some (y.2, v)
  | [], _, _, y, hy, _ => by cases hy
  | x :: xs, c, h, y, hy, hl => by
    rw [List.map_cons, onceB] at h
    simp only [Bool.and_eq_true, decide_eq_true_eq, Bool.not_eq_true', ← Bool.not_eq_true (List.contains _ _), List.contains_iff_mem] at h
    rw [List.foldl_cons]
    rcases List.mem_cons.1 hy with e | hm
    · subst e
      rw [wfold_none, wput, List.getElem?_set_self hl]
      intro z hz e
      have hz0 := once_pos h.2 (List.mem_map.2 ⟨z, hz, rfl⟩)
      exact h.1.2 (List.mem_map.2 ⟨z, hz, by omega⟩)
    · exact wfold_once v xs _ h.2 y hm (by simpa [wput] using hl)
theorem Done.get {s : St} {l : Lg} {t : St} {xs : List Int} {w : List Pr} (h : Done s l t xs w) {k : Nat} (hk : k < s.cells.length) : (∃ n, getG l k = (n, true) ∧ t.cells[k]? = some (n, t.ver)) ∨ (getG l k = (0, false) ∧ t.cells[k]? = s.cells[k]?) := by
  have ho : ordB w = true := by
    have hp := h.p
    rw [chkG, h.l1] at hp
    simp only [Bool.and_eq_true, List.all_cons] at hp
    exact hp.2.1
  have hg : getG l k = match w.find? (hasV k) with | some y => (y.2, true) | none => (0, false) := by
    rw [getG, if_pos h.p, lastW, h.l1]
    simp only [List.reverse_cons, List.reverse_nil, List.nil_append, List.findSome?_cons, List.findSome?_nil]
    cases w.find? (hasV k) <;> rfl
  cases hf : w.find? (hasV k) with
  | some y =>
    rw [hf] at hg
    have hy := List.mem_of_find?_eq_some hf
    have he : y.1 = k := by have := List.find?_some hf; simpa [hasV] using this
    have hw : w ≠ [] := fun e => by rw [e] at hy; cases hy
    refine .inl ⟨y.2, hg, ?_⟩
    have h1 := wfold_once (s.ver + 1) w s.cells ho y hy (by omega)
    rw [he] at h1
    rw [h.ce, h.ve, if_neg hw, ← h1]; rfl
  | none =>
    rw [hf] at hg
    refine .inr ⟨hg, ?_⟩
    rw [h.ce, wfold_none]
    intro x hx e
    have h0 := (there_iff.1 (h.th x hx)).1
    have h1 := List.find?_eq_none.1 hf x hx
    exact h1 (by simp [hasV]; omega)
theorem add_okay {t : St} {z : Int} (h : chkS t = true) : addS t z = (⟨t.cells ++ [(z, 0)], t.ver⟩, (t.cells.length : Int), 0) := by rw [addS, if_pos h]
theorem look_new {t : St} {z : Int} (h : chkS t = true) : lookS ⟨t.cells ++ [(z, 0)], t.ver⟩ t.cells.length = (z, 0, 0) := by
  have hc : chkS ⟨t.cells ++ [(z, 0)], t.ver⟩ = true := by
    obtain ⟨h1, h2, h3⟩ := chkS_iff.1 h
    refine chkS_iff.2 ⟨h1, h2, fun c hc => ?_⟩
    rcases List.mem_append.1 hc with hm | hm
    · exact h3 c hm
    · rcases List.mem_singleton.1 hm with rfl; exact ⟨Int.le_refl _, h1⟩
  have ht : thereS ⟨t.cells ++ [(z, 0)], t.ver⟩ t.cells.length = true := there_iff.2 ⟨by omega, by simp⟩
  have hz : cellS ⟨t.cells ++ [(z, 0)], t.ver⟩ t.cells.length = (z, 0) := by simp [cellS, List.getD_eq_getElem?_getD]
  rw [lookS, hc, ht, hz]; rfl
set_option maxRecDepth 100000 in
set_option maxHeartbeats 32000000 in
theorem writes_way (vs : Value) (vl : Value) (z : Int) (w : World) (hs : ∃ s, SVal w (fun _ => True) vs s) (hl : ∃ l, GVal w (fun _ => True) vl l) (hz : In z) :
    Calls Try.prog 7 #[vs, vl, .int .i64 z] w (Bb true w) := by
  obtain ⟨s, hs⟩ := hs
  have qs := hs
  obtain ⟨ads, cps, rfl, his, hs⟩ := hs
  obtain ⟨_, _, e, l1, _⟩ := hs.shape
  cases e
  clear hs
  have HIs := hid his
  obtain ⟨l, hl⟩ := hl
  have ql := hl
  obtain ⟨rl, rcl, ll, lcl, rfl, hr, hl⟩ := hl
  obtain ⟨_, _, e, l2, _⟩ := hr.shape
  cases e
  obtain ⟨_, _, e, l3, _⟩ := hl.shape
  cases e
  clear hr hl
  have HB : Hid (Below w.heap.size w w) := Below.refl _ _
  obtain ⟨Ws, hws⟩ : ∃ z, w.alloc (.cells #[.slice ads s.cells.length cps, .int .i64 s.ver] 24) = z := ⟨_, rfl⟩
  have bb := (Below.refl w.heap.size w).alloc (Nat.le_refl _) (.cells #[.slice ads s.cells.length cps, .int .i64 s.ver] 24)
  rw [hws] at bb
  have Ks := hid (BSt.new HB.out qs)
  rw [hws] at Ks
  replace HB : Hid (Below w.heap.size w Ws) := HB.out.trans (bb.mono HB.out.size)
  have hzWs : Ws.heap.size = w.heap.size + 1 := by rw [← hws]; simp
  clear bb qs
  obtain ⟨Wl, hwl⟩ : ∃ z, Ws.alloc (.cells #[.slice rl l.reads.length rcl, .slice ll l.levels.length lcl] 28) = z := ⟨_, rfl⟩
  have bb := (Below.refl Ws.heap.size Ws).alloc (Nat.le_refl _) (.cells #[.slice rl l.reads.length rcl, .slice ll l.levels.length lcl] 28)
  rw [hwl] at bb
  have Kl := hid (BLg.new HB.out (ql.more HB.out))
  rw [hwl] at Kl
  rw [hzWs] at Kl
  replace Ks := hid (Ks.out.more bb)
  replace HB : Hid (Below w.heap.size w Wl) := HB.out.trans (bb.mono HB.out.size)
  have hzWl : Wl.heap.size = w.heap.size + 2 := by rw [← hwl]; simp [hzWs]
  clear bb ql
  have HW := hwl
  rw [← hws] at HW
  replace HW := hid HW
  have HZ := hid hzWl
  clear hws hwl hzWs hzWl
  go_enter Try.func7, Try.ntmps7
  go_upto_region 1 with (fail)
  rw [HW.out]
  clear HW
  have P := hid (awake_any Wl)
  go_wp2_with fail
  refine P.out.mono ?_
  rintro e w11 ⟨rfl, b⟩
  clear P
  replace Ks := hid (Ks.out.more b)
  replace Kl := hid (Kl.out.more b)
  replace HB : Hid (Below w.heap.size w _) := HB.out.trans (b.mono HB.out.size)
  clear b
  obtain ⟨q, hq⟩ : ∃ q, q = (decide (s.cells.length ≤ 300) && fewG l) := ⟨_, rfl⟩
  have cs0 : w11.cell? ⟨w.heap.size, 0, none⟩ = some (.slice ads s.cells.length cps) := Ks.out.c0
  have cs1 : w11.cell? ⟨w.heap.size, 1, none⟩ = some (.int .i64 s.ver) := Ks.out.c1
  have cl0 : w11.cell? ⟨w.heap.size + 1, 0, none⟩ = some (.slice rl l.reads.length rcl) := Kl.out.c0
  have cl1 : w11.cell? ⟨w.heap.size + 1, 1, none⟩ = some (.slice ll l.levels.length lcl) := Kl.out.c1
  have P := hid (sfew_any w11 _ _ (.agg #[.slice ads s.cells.length cps, .int .i64 s.ver]) (.agg #[.slice rl l.reads.length rcl, .slice ll l.levels.length lcl]) s l Ks.out.val Kl.out.val)
  rw [← hq] at P
  have HQ := hid hq
  clear hq
  go_wp2_with fail
  refine P.out.mono ?_
  rintro e w12 ⟨rfl, b⟩
  clear P
  clear cs0 cs1 cl0 cl1
  replace Ks := hid (Ks.out.more b)
  replace Kl := hid (Kl.out.more b)
  replace HB : Hid (Below w.heap.size w _) := HB.out.trans (b.mono HB.out.size)
  clear b
  cases q
  · go_wp2_with fail
    go_ret
    exact Bb.fin rfl HB.out
  have HF := hid (show s.cells.length ≤ 300 by have h := HQ.out.symm; simp only [Bool.and_eq_true, decide_eq_true_eq] at h; exact h.1)
  have HG := hid (show Okl l 100 by have h := HQ.out.symm; simp only [Bool.and_eq_true] at h; exact fewG_ok h.2)
  clear HQ
  have HL := hid (show s.cells.length ≤ 100000 by have := HF.out; omega)
  have HLL := hid (show ∀ x ∈ l.levels, x.length ≤ 100000 from fun x hx => by have := HG.out.2.2 x hx; omega)
  obtain ⟨rr, hr⟩ : ∃ rr, rr = commitS s l := ⟨_, rfl⟩
  obtain ⟨tt, vt, et⟩ := rr
  have HRt := hid hr
  have cs0 : w12.cell? ⟨w.heap.size, 0, none⟩ = some (.slice ads s.cells.length cps) := Ks.out.c0
  have cs1 : w12.cell? ⟨w.heap.size, 1, none⟩ = some (.int .i64 s.ver) := Ks.out.c1
  have cl0 : w12.cell? ⟨w.heap.size + 1, 0, none⟩ = some (.slice rl l.reads.length rcl) := Kl.out.c0
  have cl1 : w12.cell? ⟨w.heap.size + 1, 1, none⟩ = some (.slice ll l.levels.length lcl) := Kl.out.c1
  have P := hid (commit_any w12 _ _ (.agg #[.slice ads s.cells.length cps, .int .i64 s.ver]) (.agg #[.slice rl l.reads.length rcl, .slice ll l.levels.length lcl]) s l Ks.out.val Kl.out.val HL.out HLL.out)
  rw [← hr] at P
  clear hr
  go_wp2_with fail
  refine P.out.mono ?_
  rintro e w13 ⟨sat, sct, vat, vct, rfl, hs, hv, b⟩
  clear P
  clear cs0 cs1 cl0 cl1
  have hst := hs.all
  have Kvt := hid (RSl.weak intGood (by decide) (ok' := fun _ => True) hv (fun _ _ _ => trivial))
  clear hs hv
  obtain ⟨_, _, ev, lvt, _⟩ := ISl.shape Kvt.out
  clear ev
  replace Ks := hid (Ks.out.more b)
  replace Kl := hid (Kl.out.more b)
  replace HB : Hid (Below w.heap.size w _) := HB.out.trans (b.mono HB.out.size)
  clear b
  go_upto_region 5 with (fail)
  have bb := (Below.refl w13.heap.size w13).alloc (Nat.le_refl _) (.cells #[.slice sat tt.cells.length sct, .int .i64 tt.ver] 24)
  have Kt := hid (BSt.new HB.out hst)
  have hBwt := HB.out.size
  obtain ⟨w14, hw⟩ : ∃ z, w13.alloc (.cells #[.slice sat tt.cells.length sct, .int .i64 tt.ver] 24) = z := ⟨_, rfl⟩
  rw [hw] at bb Kt ⊢
  obtain ⟨Bt, hBt⟩ : ∃ z, w13.heap.size = z := ⟨_, rfl⟩
  rw [hBt] at Kt hBwt ⊢
  replace Ks := hid (Ks.out.more bb)
  replace Kl := hid (Kl.out.more bb)
  replace Kvt := hid (RSl.below intGood Kvt.out bb)
  replace HB : Hid (Below w.heap.size w w14) := HB.out.trans (bb.mono HB.out.size)
  clear bb hw hst hBt hBwt
  by_cases he : et = 0
  rotate_left
  ·
    obtain ⟨h1, h2⟩ := com_no HRt.out he
    have f1 : (et != 0) = true := by simp [he]
    have hd : decide (s = tt) = true := by rw [h1]; simp
    clear he h1 h2 HRt
    have cs0 : w14.cell? ⟨w.heap.size, 0, none⟩ = some (.slice ads s.cells.length cps) := Ks.out.c0
    have cs1 : w14.cell? ⟨w.heap.size, 1, none⟩ = some (.int .i64 s.ver) := Ks.out.c1
    have ct0 : w14.cell? ⟨Bt, 0, none⟩ = some (.slice sat tt.cells.length sct) := Kt.out.c0
    have ct1 : w14.cell? ⟨Bt, 1, none⟩ = some (.int .i64 tt.ver) := Kt.out.c1
    have P := hid (ssame_any w14 _ _ (.agg #[.slice ads s.cells.length cps, .int .i64 s.ver]) (.agg #[.slice sat tt.cells.length sct, .int .i64 tt.ver]) s tt Ks.out.val Kt.out.val)
    rw [hd] at P
    clear hd
    go_wp2_with fail
    refine P.out.mono ?_
    rintro e w15 ⟨rfl, b⟩
    clear P
    clear cs0 cs1 ct0 ct1
    replace Ks := hid (Ks.out.more b)
    replace Kl := hid (Kl.out.more b)
    replace Kvt := hid (RSl.below intGood Kvt.out b)
    replace Kt := hid (Kt.out.more b)
    replace HB : Hid (Below w.heap.size w _) := HB.out.trans (b.mono HB.out.size)
    clear b
    go_wp2_with fail
    go_ret
    exact Bb.fin rfl HB.out
  obtain ⟨wl, hD⟩ := com_yes HRt.out he
  have HD := hid hD
  have f1 : (et != 0) = false := by simp [he]
  clear hD he HRt
  obtain ⟨vv, hvv⟩ : ∃ z, IntKind.i64.wrap (s.ver + 1) = z := ⟨_, rfl⟩
  have HVV : Hid (vv = s.ver + 1) := by
    have h := chkS_iff.1 HD.out.q
    show _ = _
    rw [← hvv]; exact wrap_in ⟨by omega, by omega⟩
  have HTL := hid HD.out.len
  have f2 : ((tt.cells.length : Int) != s.cells.length) = false := by rw [HTL.out]; simp
  have f6 : 0 < l.levels.length := by rw [HD.out.l1]; simp
  obtain ⟨_, _, _, _, ev, hrr, hls⟩ := Kl.out.val
  cases ev
  obtain ⟨b4, o4, c4, y4, xa, xc, hv4, hy4, hs4, e4⟩ := hls.at (Below.refl _ _) (k := 0) f6
  cases hv4
  rw [Nat.add_zero] at e4
  obtain rfl : wl = y4 := by rw [HD.out.l1] at hy4; simp at hy4; exact hy4
  obtain ⟨_, _, e, l4, _⟩ := hs4.shape
  cases e
  have HVL := hid (show vt.length = wl.length by rw [HD.out.xs]; simp)
  have f3 : ((vt.length : Int) != wl.length) = false := by rw [HVL.out]; simp
  clear hrr hls hy4 hs4
  have cs0 : w14.cell? ⟨w.heap.size, 0, none⟩ = some (.slice ads s.cells.length cps) := Ks.out.c0
  have cs1 : w14.cell? ⟨w.heap.size, 1, none⟩ = some (.int .i64 s.ver) := Ks.out.c1
  have cl0 : w14.cell? ⟨w.heap.size + 1, 0, none⟩ = some (.slice rl l.reads.length rcl) := Kl.out.c0
  have cl1 : w14.cell? ⟨w.heap.size + 1, 1, none⟩ = some (.slice (some ⟨b4, o4, none⟩) l.levels.length lcl) := Kl.out.c1
  have ct0 : w14.cell? ⟨Bt, 0, none⟩ = some (.slice sat tt.cells.length sct) := Kt.out.c0
  have ct1 : w14.cell? ⟨Bt, 1, none⟩ = some (.int .i64 tt.ver) := Kt.out.c1
  have P := hid (scheck_any w14 _ (.agg #[.slice sat tt.cells.length sct, .int .i64 tt.ver]) tt Kt.out.val)
  rw [HD.out.chk] at P
  go_wp2_with fail
  refine P.out.mono ?_
  rintro e w16 ⟨rfl, b⟩
  clear P
  clear ct0 ct1
  clear cs0 cs1 cl0 cl1
  replace Ks := hid (Ks.out.more b)
  replace Kl := hid (Kl.out.more b)
  replace Kvt := hid (RSl.below intGood Kvt.out b)
  replace Kt := hid (Kt.out.more b)
  replace HB : Hid (Below w.heap.size w _) := HB.out.trans (b.mono HB.out.size)
  clear b e4 f2 f3 f6
  have ct0 : w16.cell? ⟨Bt, 0, none⟩ = some (.slice sat tt.cells.length sct) := Kt.out.c0
  have ct1 : w16.cell? ⟨Bt, 1, none⟩ = some (.int .i64 tt.ver) := Kt.out.c1
  have cs0 : w16.cell? ⟨w.heap.size, 0, none⟩ = some (.slice ads s.cells.length cps) := Ks.out.c0
  have cs1 : w16.cell? ⟨w.heap.size, 1, none⟩ = some (.int .i64 s.ver) := Ks.out.c1
  have HLOOP : Hid (((0 < vt.length) ∧ tt.ver = vv) ∨ (vt = [] ∧ tt.ver = s.ver)) := by
    by_cases hw : wl = []
    · exact .inr ⟨by rw [HD.out.xs, hw]; rfl, by rw [HD.out.ve, if_pos hw]⟩
    · exact .inl ⟨by rw [HVL.out]; exact List.length_pos_iff.2 hw, by rw [HD.out.ve, if_neg hw, HVV.out]⟩
  skip
  rcases HLOOP.out with ⟨h1, h2⟩ | ⟨h1, h2⟩
  ·
    have g1 : vt ≠ [] := fun e => by rw [e] at h1; exact absurd h1 (by decide)
    have g2 : 0 < vt.length := h1
    have g3 : ((vt.length : Int) == 0) = false := by rw [beq_eq_false_iff_ne]; omega
    have HTV := hid h2
    have g4 : (tt.ver == vv) = true := by simp [h2]
    clear h1 h2
    go_upto_region 10 with (fail)
    clear g1 g2 g3 g4
    clear ct0 ct1 cs0 cs1
    go_loopw [11] (fun i wr => ∃ (k : Nat), k ≤ tt.cells.length ∧ i = .int .i64 k ∧ Hid (Below w16.heap.size w16 wr)) (fun i _ => tt.cells.length - (intOf i).toNat)
    case atStart => exact ⟨0, Nat.zero_le _, rfl, Below.refl _ _⟩
    case round =>
      obtain ⟨k, hk, rfl, HW1⟩ := hrel
      have b := HW1.out
      replace Ks := hid (Ks.out.more b)
      replace Kl := hid (Kl.out.more b)
      replace Kvt := hid (RSl.below intGood Kvt.out b)
      replace Kt := hid (Kt.out.more b)
      replace HB : Hid (Below w.heap.size w _) := HB.out.trans (b.mono HB.out.size)
      clear b
      have ct0 : wr.cell? ⟨Bt, 0, none⟩ = some (.slice sat tt.cells.length sct) := Kt.out.c0
      have ct1 : wr.cell? ⟨Bt, 1, none⟩ = some (.int .i64 tt.ver) := Kt.out.c1
      by_cases hlt : k < tt.cells.length
      ·
        have hlt2 : k < s.cells.length := by have := HTL.out; omega
        have hin : In (k : Int) := by have := HF.out; constructor <;> omega
        obtain ⟨g, hg⟩ : ∃ g, g = getG l k := ⟨_, rfl⟩
        obtain ⟨gn, gi⟩ := g
        have HGG := hid hg
        have cl0 : wr.cell? ⟨w.heap.size + 1, 0, none⟩ = some (.slice rl l.reads.length rcl) := Kl.out.c0
        have cl1 : wr.cell? ⟨w.heap.size + 1, 1, none⟩ = some (.slice (some ⟨b4, o4, none⟩) l.levels.length lcl) := Kl.out.c1
        have P := hid (get_any wr _ (.agg #[.slice rl l.reads.length rcl, .slice (some ⟨b4, o4, none⟩) l.levels.length lcl]) l k Kl.out.val hin ⟨by have := HG.out.1; omega, by have := HG.out.2.1; omega, fun x hx => by have := HG.out.2.2 x hx; omega⟩)
        rw [← hg] at P
        clear hg
        go_wp2_with fail
        refine P.out.mono ?_
        rintro e w17 ⟨rfl, b⟩
        clear P
        clear cl0 cl1
        clear ct0 ct1
        replace Ks := hid (Ks.out.more b)
        replace Kl := hid (Kl.out.more b)
        replace Kvt := hid (RSl.below intGood Kvt.out b)
        replace Kt := hid (Kt.out.more b)
        replace HB : Hid (Below w.heap.size w _) := HB.out.trans (b.mono HB.out.size)
        replace HW1 : Hid (Below w16.heap.size w16 _) := HW1.out.trans (b.mono HW1.out.size)
        clear b
        have ct0 : w17.cell? ⟨Bt, 0, none⟩ = some (.slice sat tt.cells.length sct) := Kt.out.c0
        have ct1 : w17.cell? ⟨Bt, 1, none⟩ = some (.int .i64 tt.ver) := Kt.out.c1
        have cs0 : w17.cell? ⟨w.heap.size, 0, none⟩ = some (.slice ads s.cells.length cps) := Ks.out.c0
        have cs1 : w17.cell? ⟨w.heap.size, 1, none⟩ = some (.int .i64 s.ver) := Ks.out.c1
        obtain ⟨b1, o1, x, hv1, hx, _, _, _, e1, e2⟩ := Kt.out.pick hlt
        obtain ⟨b2, o2, y, hv2, hy, _, _, _, e3, e4⟩ := Ks.out.pick hlt2
        cases hv1
        cases hv2
        have HXY := hid (And.intro hx hy)
        clear hx hy
        have hs2 := HW1.out.size
        rcases HD.out.get hlt2 with ⟨n, h1, h2⟩ | ⟨h1, h2⟩
        · obtain ⟨rfl, rfl⟩ : gn = n ∧ gi = true := by have h := HGG.out.trans h1; cases h; exact ⟨rfl, rfl⟩
          obtain rfl : x = (gn, tt.ver) := by have h := HXY.out.1.symm.trans h2; cases h; rfl
          have hne : ∀ W, (binOp .neq 52 (.agg #[.int .i64 gn, .int .i64 tt.ver]) (.agg #[.int .i64 gn, .int .i64 tt.ver])).run Try.prog W = .ok (.bool false) W := fun W => by rw [neqC]; simp
          clear h1 h2
          simp only at e1 e2
          go_wp2_with fail
          go_quiet (fail)
          go_wp2_with fail
          go_roundw
          case rel => exact ⟨k + 1, by omega, by go_num, below_drewN HW1.out _⟩
          case measure => simp [intOf]; omega
        · obtain rfl : gi = false := by have h := HGG.out.trans h1; cases h; rfl
          obtain rfl : x = y := by rw [HXY.out.1, HXY.out.2] at h2; cases h2; rfl
          have hne : ∀ W, (binOp .neq 52 (.agg #[.int .i64 x.1, .int .i64 x.2]) (.agg #[.int .i64 x.1, .int .i64 x.2])).run Try.prog W = .ok (.bool false) W := fun W => by rw [neqC]; simp
          clear h1 h2
          go_wp2_with fail
          go_quiet (fail)
          go_wp2_with fail
          go_roundw
          case rel => exact ⟨k + 1, by omega, by go_num, below_drewN HW1.out _⟩
          case measure => simp [intOf]; omega
      ·
        have b := HW1.out
        clear HW1 b
        obtain ⟨rr, hr⟩ : ∃ rr, rr = addS tt z := ⟨_, rfl⟩
        obtain ⟨tu, nu, eu⟩ := rr
        have HRu := hid hr
        have hh := HRu.out.trans (add_okay HD.out.chk)
        obtain rfl : nu = (tt.cells.length : Int) := by cases hh; rfl
        obtain rfl : eu = 0 := by cases hh; rfl
        have HTU : Hid (tu = ⟨tt.cells ++ [(z, 0)], tt.ver⟩) := by cases hh; rfl
        clear hh
        have ct0 : wr.cell? ⟨Bt, 0, none⟩ = some (.slice sat tt.cells.length sct) := Kt.out.c0
        have ct1 : wr.cell? ⟨Bt, 1, none⟩ = some (.int .i64 tt.ver) := Kt.out.c1
        have P := hid (add_any wr _ (.agg #[.slice sat tt.cells.length sct, .int .i64 tt.ver]) tt z Kt.out.val hz (by have := HTL.out; have := HF.out; omega))
        rw [← hr] at P
        clear hr
        go_wp2_with fail
        refine P.out.mono ?_
        rintro e w18 ⟨sau, scu, rfl, hs, b⟩
        clear P
        clear ct0 ct1
        have hsu := hs.all
        clear hs
        replace Ks := hid (Ks.out.more b)
        replace Kl := hid (Kl.out.more b)
        replace Kvt := hid (RSl.below intGood Kvt.out b)
        replace Kt := hid (Kt.out.more b)
        replace HB : Hid (Below w.heap.size w _) := HB.out.trans (b.mono HB.out.size)
        clear b
        go_upto_region 16 with (fail)
        have bb := (Below.refl w18.heap.size w18).alloc (Nat.le_refl _) (.cells #[.slice sau tu.cells.length scu, .int .i64 tu.ver] 24)
        have Ku := hid (BSt.new HB.out hsu)
        have hBwu := HB.out.size
        obtain ⟨w19, hw⟩ : ∃ z, w18.alloc (.cells #[.slice sau tu.cells.length scu, .int .i64 tu.ver] 24) = z := ⟨_, rfl⟩
        rw [hw] at bb Ku ⊢
        obtain ⟨Bu, hBu⟩ : ∃ z, w18.heap.size = z := ⟨_, rfl⟩
        rw [hBu] at Ku hBwu ⊢
        replace Ks := hid (Ks.out.more bb)
        replace Kl := hid (Kl.out.more bb)
        replace Kvt := hid (RSl.below intGood Kvt.out bb)
        replace Kt := hid (Kt.out.more bb)
        replace HB : Hid (Below w.heap.size w w19) := HB.out.trans (bb.mono HB.out.size)
        clear bb hw hsu hBu hBwu
        obtain ⟨rr, hr⟩ : ∃ rr, rr = lookS tu (tt.cells.length : Int) := ⟨_, rfl⟩
        obtain ⟨ax, bx, ex⟩ := rr
        have HRx := hid hr
        have hh := HRx.out.trans (show lookS tu tt.cells.length = (z, 0, 0) by rw [HTU.out]; exact look_new HD.out.chk)
        obtain rfl : ax = z := by cases hh; rfl
        obtain rfl : bx = 0 := by cases hh; rfl
        obtain rfl : ex = 0 := by cases hh; rfl
        clear hh
        have cu0 : w19.cell? ⟨Bu, 0, none⟩ = some (.slice sau tu.cells.length scu) := Ku.out.c0
        have cu1 : w19.cell? ⟨Bu, 1, none⟩ = some (.int .i64 tu.ver) := Ku.out.c1
        have P := hid (look_any w19 _ (.agg #[.slice sau tu.cells.length scu, .int .i64 tu.ver]) tu (tt.cells.length : Int) Ku.out.val)
        rw [← hr] at P
        clear hr
        go_wp2_with fail
        refine P.out.mono ?_
        rintro e w20 ⟨rfl, b⟩
        clear P
        clear cu0 cu1
        replace Ks := hid (Ks.out.more b)
        replace Kl := hid (Kl.out.more b)
        replace Kvt := hid (RSl.below intGood Kvt.out b)
        replace Kt := hid (Kt.out.more b)
        replace Ku := hid (Ku.out.more b)
        replace HB : Hid (Below w.heap.size w _) := HB.out.trans (b.mono HB.out.size)
        clear b
        have hadd : IntKind.i64.wrap ((tt.cells.length : Int) + 1) = tu.cells.length := by
          rw [HTU.out]
          have h1 := HTL.out; have h2 := HF.out
          rw [show ((⟨tt.cells ++ [(ax, 0)], tt.ver⟩ : St).cells.length : Int) = tt.cells.length + 1 by simp]
          exact wrap_in ⟨by omega, by omega⟩
        have cu0 : w20.cell? ⟨Bu, 0, none⟩ = some (.slice sau tu.cells.length scu) := Ku.out.c0
        have cu1 : w20.cell? ⟨Bu, 1, none⟩ = some (.int .i64 tu.ver) := Ku.out.c1
        have ct0 : w20.cell? ⟨Bt, 0, none⟩ = some (.slice sat tt.cells.length sct) := Kt.out.c0
        have ct1 : w20.cell? ⟨Bt, 1, none⟩ = some (.int .i64 tt.ver) := Kt.out.c1
        go_wp2_with fail
        go_ret
        exact Bb.fin rfl HB.out
  ·
    have g4 : (tt.ver == vv) = false := by rw [beq_eq_false_iff_ne, h2, HVV.out]; omega
    have g5 : (tt.ver != s.ver) = false := by rw [h2]; simp
    have HTV := hid h2
    subst h1
    clear h2
    go_upto_region 10 with (fail)
    clear g4 g5
    clear ct0 ct1 cs0 cs1
    go_loopw [11] (fun i wr => ∃ (k : Nat), k ≤ tt.cells.length ∧ i = .int .i64 k ∧ Hid (Below w16.heap.size w16 wr)) (fun i _ => tt.cells.length - (intOf i).toNat)
    case atStart => exact ⟨0, Nat.zero_le _, rfl, Below.refl _ _⟩
    case round =>
      obtain ⟨k, hk, rfl, HW1⟩ := hrel
      have b := HW1.out
      replace Ks := hid (Ks.out.more b)
      replace Kl := hid (Kl.out.more b)
      replace Kvt := hid (RSl.below intGood Kvt.out b)
      replace Kt := hid (Kt.out.more b)
      replace HB : Hid (Below w.heap.size w _) := HB.out.trans (b.mono HB.out.size)
      clear b
      have ct0 : wr.cell? ⟨Bt, 0, none⟩ = some (.slice sat tt.cells.length sct) := Kt.out.c0
      have ct1 : wr.cell? ⟨Bt, 1, none⟩ = some (.int .i64 tt.ver) := Kt.out.c1
      by_cases hlt : k < tt.cells.length
      ·
        have hlt2 : k < s.cells.length := by have := HTL.out; omega
        have hin : In (k : Int) := by have := HF.out; constructor <;> omega
        obtain ⟨g, hg⟩ : ∃ g, g = getG l k := ⟨_, rfl⟩
        obtain ⟨gn, gi⟩ := g
        have HGG := hid hg
        have cl0 : wr.cell? ⟨w.heap.size + 1, 0, none⟩ = some (.slice rl l.reads.length rcl) := Kl.out.c0
        have cl1 : wr.cell? ⟨w.heap.size + 1, 1, none⟩ = some (.slice (some ⟨b4, o4, none⟩) l.levels.length lcl) := Kl.out.c1
        have P := hid (get_any wr _ (.agg #[.slice rl l.reads.length rcl, .slice (some ⟨b4, o4, none⟩) l.levels.length lcl]) l k Kl.out.val hin ⟨by have := HG.out.1; omega, by have := HG.out.2.1; omega, fun x hx => by have := HG.out.2.2 x hx; omega⟩)
        rw [← hg] at P
        clear hg
        go_wp2_with fail
        refine P.out.mono ?_
        rintro e w17 ⟨rfl, b⟩
        clear P
        clear cl0 cl1
        clear ct0 ct1
        replace Ks := hid (Ks.out.more b)
        replace Kl := hid (Kl.out.more b)
        replace Kvt := hid (RSl.below intGood Kvt.out b)
        replace Kt := hid (Kt.out.more b)
        replace HB : Hid (Below w.heap.size w _) := HB.out.trans (b.mono HB.out.size)
        replace HW1 : Hid (Below w16.heap.size w16 _) := HW1.out.trans (b.mono HW1.out.size)
        clear b
        have ct0 : w17.cell? ⟨Bt, 0, none⟩ = some (.slice sat tt.cells.length sct) := Kt.out.c0
        have ct1 : w17.cell? ⟨Bt, 1, none⟩ = some (.int .i64 tt.ver) := Kt.out.c1
        have cs0 : w17.cell? ⟨w.heap.size, 0, none⟩ = some (.slice ads s.cells.length cps) := Ks.out.c0
        have cs1 : w17.cell? ⟨w.heap.size, 1, none⟩ = some (.int .i64 s.ver) := Ks.out.c1
        obtain ⟨b1, o1, x, hv1, hx, _, _, _, e1, e2⟩ := Kt.out.pick hlt
        obtain ⟨b2, o2, y, hv2, hy, _, _, _, e3, e4⟩ := Ks.out.pick hlt2
        cases hv1
        cases hv2
        have HXY := hid (And.intro hx hy)
        clear hx hy
        have hs2 := HW1.out.size
        rcases HD.out.get hlt2 with ⟨n, h1, h2⟩ | ⟨h1, h2⟩
        · obtain ⟨rfl, rfl⟩ : gn = n ∧ gi = true := by have h := HGG.out.trans h1; cases h; exact ⟨rfl, rfl⟩
          obtain rfl : x = (gn, tt.ver) := by have h := HXY.out.1.symm.trans h2; cases h; rfl
          have hne : ∀ W, (binOp .neq 52 (.agg #[.int .i64 gn, .int .i64 tt.ver]) (.agg #[.int .i64 gn, .int .i64 tt.ver])).run Try.prog W = .ok (.bool false) W := fun W => by rw [neqC]; simp
          clear h1 h2
          simp only at e1 e2
          go_wp2_with fail
          go_quiet (fail)
          go_wp2_with fail
          go_roundw
          case rel => exact ⟨k + 1, by omega, by go_num, below_drewN HW1.out _⟩
          case measure => simp [intOf]; omega
        · obtain rfl : gi = false := by have h := HGG.out.trans h1; cases h; rfl
          obtain rfl : x = y := by rw [HXY.out.1, HXY.out.2] at h2; cases h2; rfl
          have hne : ∀ W, (binOp .neq 52 (.agg #[.int .i64 x.1, .int .i64 x.2]) (.agg #[.int .i64 x.1, .int .i64 x.2])).run Try.prog W = .ok (.bool false) W := fun W => by rw [neqC]; simp
          clear h1 h2
          go_wp2_with fail
          go_quiet (fail)
          go_wp2_with fail
          go_roundw
          case rel => exact ⟨k + 1, by omega, by go_num, below_drewN HW1.out _⟩
          case measure => simp [intOf]; omega
      ·
        have b := HW1.out
        clear HW1 b
        obtain ⟨rr, hr⟩ : ∃ rr, rr = addS tt z := ⟨_, rfl⟩
        obtain ⟨tu, nu, eu⟩ := rr
        have HRu := hid hr
        have hh := HRu.out.trans (add_okay HD.out.chk)
        obtain rfl : nu = (tt.cells.length : Int) := by cases hh; rfl
        obtain rfl : eu = 0 := by cases hh; rfl
        have HTU : Hid (tu = ⟨tt.cells ++ [(z, 0)], tt.ver⟩) := by cases hh; rfl
        clear hh
        have ct0 : wr.cell? ⟨Bt, 0, none⟩ = some (.slice sat tt.cells.length sct) := Kt.out.c0
        have ct1 : wr.cell? ⟨Bt, 1, none⟩ = some (.int .i64 tt.ver) := Kt.out.c1
        have P := hid (add_any wr _ (.agg #[.slice sat tt.cells.length sct, .int .i64 tt.ver]) tt z Kt.out.val hz (by have := HTL.out; have := HF.out; omega))
        rw [← hr] at P
        clear hr
        go_wp2_with fail
        refine P.out.mono ?_
        rintro e w18 ⟨sau, scu, rfl, hs, b⟩
        clear P
        clear ct0 ct1
        have hsu := hs.all
        clear hs
        replace Ks := hid (Ks.out.more b)
        replace Kl := hid (Kl.out.more b)
        replace Kvt := hid (RSl.below intGood Kvt.out b)
        replace Kt := hid (Kt.out.more b)
        replace HB : Hid (Below w.heap.size w _) := HB.out.trans (b.mono HB.out.size)
        clear b
        go_upto_region 16 with (fail)
        have bb := (Below.refl w18.heap.size w18).alloc (Nat.le_refl _) (.cells #[.slice sau tu.cells.length scu, .int .i64 tu.ver] 24)
        have Ku := hid (BSt.new HB.out hsu)
        have hBwu := HB.out.size
        obtain ⟨w19, hw⟩ : ∃ z, w18.alloc (.cells #[.slice sau tu.cells.length scu, .int .i64 tu.ver] 24) = z := ⟨_, rfl⟩
        rw [hw] at bb Ku ⊢
        obtain ⟨Bu, hBu⟩ : ∃ z, w18.heap.size = z := ⟨_, rfl⟩
        rw [hBu] at Ku hBwu ⊢
        replace Ks := hid (Ks.out.more bb)
        replace Kl := hid (Kl.out.more bb)
        replace Kvt := hid (RSl.below intGood Kvt.out bb)
        replace Kt := hid (Kt.out.more bb)
        replace HB : Hid (Below w.heap.size w w19) := HB.out.trans (bb.mono HB.out.size)
        clear bb hw hsu hBu hBwu
        obtain ⟨rr, hr⟩ : ∃ rr, rr = lookS tu (tt.cells.length : Int) := ⟨_, rfl⟩
        obtain ⟨ax, bx, ex⟩ := rr
        have HRx := hid hr
        have hh := HRx.out.trans (show lookS tu tt.cells.length = (z, 0, 0) by rw [HTU.out]; exact look_new HD.out.chk)
        obtain rfl : ax = z := by cases hh; rfl
        obtain rfl : bx = 0 := by cases hh; rfl
        obtain rfl : ex = 0 := by cases hh; rfl
        clear hh
        have cu0 : w19.cell? ⟨Bu, 0, none⟩ = some (.slice sau tu.cells.length scu) := Ku.out.c0
        have cu1 : w19.cell? ⟨Bu, 1, none⟩ = some (.int .i64 tu.ver) := Ku.out.c1
        have P := hid (look_any w19 _ (.agg #[.slice sau tu.cells.length scu, .int .i64 tu.ver]) tu (tt.cells.length : Int) Ku.out.val)
        rw [← hr] at P
        clear hr
        go_wp2_with fail
        refine P.out.mono ?_
        rintro e w20 ⟨rfl, b⟩
        clear P
        clear cu0 cu1
        replace Ks := hid (Ks.out.more b)
        replace Kl := hid (Kl.out.more b)
        replace Kvt := hid (RSl.below intGood Kvt.out b)
        replace Kt := hid (Kt.out.more b)
        replace Ku := hid (Ku.out.more b)
        replace HB : Hid (Below w.heap.size w _) := HB.out.trans (b.mono HB.out.size)
        clear b
        have hadd : IntKind.i64.wrap ((tt.cells.length : Int) + 1) = tu.cells.length := by
          rw [HTU.out]
          have h1 := HTL.out; have h2 := HF.out
          rw [show ((⟨tt.cells ++ [(ax, 0)], tt.ver⟩ : St).cells.length : Int) = tt.cells.length + 1 by simp]
          exact wrap_in ⟨by omega, by omega⟩
        have cu0 : w20.cell? ⟨Bu, 0, none⟩ = some (.slice sau tu.cells.length scu) := Ku.out.c0
        have cu1 : w20.cell? ⟨Bu, 1, none⟩ = some (.int .i64 tu.ver) := Ku.out.c1
        have ct0 : w20.cell? ⟨Bt, 0, none⟩ = some (.slice sat tt.cells.length sct) := Kt.out.c0
        have ct1 : w20.cell? ⟨Bt, 1, none⟩ = some (.int .i64 tt.ver) := Kt.out.c1
        go_wp2_with fail
        go_ret
        exact Bb.fin rfl HB.out
end Go.Proofs.Ytplckigmllkpoaa
