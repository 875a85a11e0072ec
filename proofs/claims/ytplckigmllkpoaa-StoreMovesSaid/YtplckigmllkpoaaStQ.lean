/- StoreMoves: the walk. -/
import Derived.Test.YtplckigmllkpoaaStN
namespace Go.Proofs.Ytplckigmllkpoaa
open Go.RowKit Go.Shelf Go.Maps
attribute [local go_sem] Oper.semAt_some
theorem sfill {w5 wz : World} {Z : Nat} {t : St} {ra : Option Addr} {rc : Nat} {u0 u1 : Value} (bz : Below w5.heap.size w5 wz) (hZ : wz.heap[Z]? = some (.cells #[u0, u1] 24)) (hZ5 : w5.heap.size ≤ Z) (hv : SVal wz (fun b => b ≠ Z) (.agg #[.slice ra t.cells.length rc, .int .i64 t.ver]) t) :
    BSt w5 ((wz.setCell ⟨Z, 0, none⟩ (.slice ra t.cells.length rc)).setCell ⟨Z, 1, none⟩ (.int .i64 t.ver)) Z ra rc t := by
  have F := sput_out (w := w5) (ok := fun _ => True) hZ hZ5 bz (hv.weak (fun _ _ h => ⟨h, .inl trivial⟩))
  exact ⟨F.2.2, F.1, F.2.1.all⟩
theorem BSt.back {w0 w W : World} {B : Nat} {sa : Option Addr} {sc : Nat} {s : St} (h : BSt w W B sa sc s) (b : Below w0.heap.size w0 w) : BSt w0 W B sa sc s := ⟨b.trans (h.bel.mono b.size), h.box, h.val⟩
theorem mvZ_own : ∀ (cs : List Pr), mvZ (cs.map (·.1)) cs = cs
  | [] => rfl
  | c :: cs => by
    have h := mvZ_own cs
    simp only [mvZ, List.map_cons, List.zipWith_cons_cons] at h ⊢
    rw [h]
theorem move_own (s : St) : moveS s (s.cells.map (·.1)) = (s, 0) := by rw [moveS, if_pos (by simp), mvZ_own]
theorem move_no {s t : St} {ats : List Int} {e : Int} (h : (t, e) = moveS s ats) (he : e ≠ 0) : t = s ∧ ats.length ≠ s.cells.length := by
  unfold moveS at h
  split at h
  · cases h; exact absurd rfl he
  · rename_i h1; cases h; exact ⟨rfl, h1⟩
theorem move_yes {s t : St} {ats : List Int} {e : Int} (h : (t, e) = moveS s ats) (he : e = 0) : t = ⟨mvZ ats s.cells, s.ver⟩ ∧ ats.length = s.cells.length := by
  subst he
  unfold moveS at h
  split at h
  · rename_i h1; cases h; exact ⟨rfl, h1⟩
  · cases h
theorem mvZ_get {ats : List Int} {cs : List Pr} {k : Nat} {a : Int} {c : Pr} (h1 : ats[k]? = some a) (h2 : cs[k]? = some c) : (mvZ ats cs)[k]? = some (a, c.2) := by
  simp [mvZ, List.getElem?_zipWith, h1, h2]
theorem mvZ_roots {ats : List Int} {cs : List Pr} (h : ats.length = cs.length) : (mvZ ats cs).map (·.1) = ats := by
  induction ats generalizing cs with
  | nil => simp [mvZ]
  | cons a ats ih => cases cs with
    | nil => cases h
    | cons c cs => simp only [mvZ, List.zipWith_cons_cons, List.map_cons]; exact congrArg _ (ih (by simpa using h))
theorem move_snd {s : St} {ats : List Int} (h : ats.length = s.cells.length) (z : Int) : (cellS ⟨mvZ ats s.cells, s.ver⟩ z).2 = (cellS s z).2 := by
  rw [cellS, cellS, List.getD_eq_getElem?_getD, List.getD_eq_getElem?_getD]
  show (((mvZ ats s.cells)[z.toNat]?).getD (0, 0)).2 = _
  by_cases hz : z.toNat < s.cells.length
  · rw [mvZ_get (List.getElem?_eq_getElem (by omega)) (List.getElem?_eq_getElem hz), List.getElem?_eq_getElem hz]; rfl
  · rw [List.getElem?_eq_none (by rw [mvZ_len h]; omega), List.getElem?_eq_none (by omega)]
theorem mvZ_all {p : Int → Bool} : ∀ (ats : List Int) (cs : List Pr), ats.length = cs.length → (mvZ ats cs).any (fun c => p c.2) = cs.any (fun c => p c.2)
  | [], [], _ => rfl
  | a :: ats, c :: cs, h => by
    have e := mvZ_all ats cs (by simpa using h) (p := p)
    simp only [mvZ, List.zipWith_cons_cons, List.any_cons] at e ⊢
    rw [e]
  | [], _ :: _, h => by cases h
  | _ :: _, [], h => by cases h
theorem move_chk {s : St} {ats : List Int} (h : ats.length = s.cells.length) : chkS ⟨mvZ ats s.cells, s.ver⟩ = chkS s := by
  unfold chkS
  have e : (fun c : Pr => cbad s.ver c) = (fun c : Pr => (fun z : Int => decide (z < 0) || decide (s.ver < z)) c.2) := rfl
  show (_ && _ && !((mvZ ats s.cells).any (fun c : Pr => cbad s.ver c))) = (_ && _ && !(s.cells.any (fun c : Pr => cbad s.ver c)))
  rw [e, mvZ_all _ _ h (p := fun z : Int => decide (z < 0) || decide (s.ver < z))]
theorem move_valid {s : St} {ats : List Int} (l : Lg) (h : ats.length = s.cells.length) : validS ⟨mvZ ats s.cells, s.ver⟩ l = validS s l := by
  unfold validS
  rw [move_chk h]
  congr 2
  have e : oldS ⟨mvZ ats s.cells, s.ver⟩ = oldS s := by
    funext x
    unfold oldS
    rw [move_snd h, show thereS ⟨mvZ ats s.cells, s.ver⟩ x.1 = thereS s x.1 by simp [thereS, mvZ_len h]]
  rw [e]
set_option maxRecDepth 100000 in
set_option maxHeartbeats 32000000 in
theorem moves_way (vs : Value) (vr : Value) (vl : Value) (w : World) (hs : ∃ s, SVal w (fun _ => True) vs s) (hr : ∃ r, ISl w (fun _ => True) vr r) (hl : ∃ l, GVal w (fun _ => True) vl l) :
    Calls Try.prog 6 #[vs, vr, vl] w (Bb true w) := by
  obtain ⟨s, hs⟩ := hs
  have qs := hs
  obtain ⟨ads, cps, rfl, his, hs⟩ := hs
  obtain ⟨_, _, e, l1, _⟩ := hs.shape
  cases e
  clear hs
  have HIs := hid his
  obtain ⟨r, hr⟩ := hr
  have qr := hr
  obtain ⟨adr, cpr, rfl, l4, _⟩ := hr.shape
  have Kr := hid qr
  clear hr qr
  obtain ⟨l, hl⟩ := hl
  have ql := hl
  obtain ⟨rl, rcl, ll, lcl, rfl, hr, hl⟩ := hl
  obtain ⟨_, _, e, l2, _⟩ := hr.shape
  cases e
  obtain ⟨_, _, e, l3, _⟩ := hl.shape
  cases e
  clear hr hl
  have HB : Hid (Below w.heap.size w w) := Below.refl _ _
  obtain ⟨Ws, hws⟩ : ∃ z, w.alloc (.cells #[.slice ads s.cells.length cps, .int .i64 s.ver] 24) = z := ⟨_, rfl⟩
  have bb := (Below.refl w.heap.size w).alloc (Nat.le_refl _) (.cells #[.slice ads s.cells.length cps, .int .i64 s.ver] 24)
  rw [hws] at bb
  have Ks := hid (BSt.new HB.out qs)
  rw [hws] at Ks
  replace Kr := hid (RSl.below intGood Kr.out bb)
  replace HB : Hid (Below w.heap.size w Ws) := HB.out.trans (bb.mono HB.out.size)
  have hzWs : Ws.heap.size = w.heap.size + 1 := by rw [← hws]; simp
  clear bb qs
  obtain ⟨Wl, hwl⟩ : ∃ z, Ws.alloc (.cells #[.slice rl l.reads.length rcl, .slice ll l.levels.length lcl] 28) = z := ⟨_, rfl⟩
  have bb := (Below.refl Ws.heap.size Ws).alloc (Nat.le_refl _) (.cells #[.slice rl l.reads.length rcl, .slice ll l.levels.length lcl] 28)
  rw [hwl] at bb
  have Kl := hid (BLg.new HB.out (ql.more HB.out))
  rw [hwl] at Kl
  rw [hzWs] at Kl
  replace Ks := hid (Ks.out.more bb)
  replace Kr := hid (RSl.below intGood Kr.out bb)
  replace HB : Hid (Below w.heap.size w Wl) := HB.out.trans (bb.mono HB.out.size)
  have hzWl : Wl.heap.size = w.heap.size + 2 := by rw [← hwl]; simp [hzWs]
  clear bb ql
  have HW := hwl
  rw [← hws] at HW
  replace HW := hid HW
  have HZ := hid hzWl
  clear hws hwl hzWs hzWl
  go_enter Try.func6, Try.ntmps6
  go_upto_region 1 with (fail)
  rw [HW.out]
  clear HW
  have P := hid (awake_any Wl)
  go_wp2_with fail
  refine P.out.mono ?_
  rintro e w11 ⟨rfl, b⟩
  clear P
  replace Kr := hid (RSl.below intGood Kr.out b)
  replace Ks := hid (Ks.out.more b)
  replace Kl := hid (Kl.out.more b)
  replace HB : Hid (Below w.heap.size w _) := HB.out.trans (b.mono HB.out.size)
  clear b
  obtain ⟨q, hq⟩ : ∃ q, q = (decide (s.cells.length ≤ 300) && fewG l) := ⟨_, rfl⟩
  have cs0 : w11.cell? ⟨w.heap.size, 0, none⟩ = some (.slice ads s.cells.length cps) := Ks.out.c0
  have cs1 : w11.cell? ⟨w.heap.size, 1, none⟩ = some (.int .i64 s.ver) := Ks.out.c1
  have cl0 : w11.cell? ⟨w.heap.size + 1, 0, none⟩ = some (.slice rl l.reads.length rcl) := Kl.out.c0
  have cl1 : w11.cell? ⟨w.heap.size + 1, 1, none⟩ = some (.slice ll l.levels.length lcl) := Kl.out.c1
  have P := hid (sfew_any w11 _ _ (.agg #[.slice ads s.cells.length cps, .int .i64 s.ver]) (.agg #[.slice rl l.reads.length rcl, .slice ll l.levels.length lcl]) s l Ks.out.val Kl.out.val)
  rw [← hq] at P
  have HQ := hid hq
  clear hq
  go_wp2_with fail
  refine P.out.mono ?_
  rintro e w12 ⟨rfl, b⟩
  clear P
  clear cs0 cs1 cl0 cl1
  replace Kr := hid (RSl.below intGood Kr.out b)
  replace Ks := hid (Ks.out.more b)
  replace Kl := hid (Kl.out.more b)
  replace HB : Hid (Below w.heap.size w _) := HB.out.trans (b.mono HB.out.size)
  clear b
  cases q
  · go_wp2_with fail
    go_ret
    exact Bb.fin rfl HB.out
  have HF := hid (show s.cells.length ≤ 300 by have h := HQ.out.symm; simp only [Bool.and_eq_true, decide_eq_true_eq] at h; exact h.1)
  have HG := hid (show Okl l 100 by have h := HQ.out.symm; simp only [Bool.and_eq_true] at h; exact fewG_ok h.2)
  clear HQ
  have HL := hid (show s.cells.length ≤ 100000 by have := HF.out; omega)
  have HLL := hid (show ∀ x ∈ l.levels, x.length ≤ 100000 from fun x hx => by have := HG.out.2.2 x hx; omega)
  by_cases hr3 : r.length ≤ 300
  rotate_left
  · have f3 : decide ((r.length : Int) > 300) = true := by simp; omega
    have f4 : decide (300 < (r.length : Int)) = true := by simp; omega
    go_wp2_with fail
    go_ret
    exact Bb.fin rfl HB.out
  have f3 : decide ((r.length : Int) > 300) = false := by simp; omega
  have f4 : decide (300 < (r.length : Int)) = false := by simp; omega
  obtain ⟨rr, hr⟩ : ∃ rr, rr = moveS s r := ⟨_, rfl⟩
  obtain ⟨tt, et⟩ := rr
  have HRt := hid hr
  have cs0 : w12.cell? ⟨w.heap.size, 0, none⟩ = some (.slice ads s.cells.length cps) := Ks.out.c0
  have cs1 : w12.cell? ⟨w.heap.size, 1, none⟩ = some (.int .i64 s.ver) := Ks.out.c1
  have P := hid (move_any w12 _ _ (.agg #[.slice ads s.cells.length cps, .int .i64 s.ver]) (.slice adr r.length cpr) s r Ks.out.val Kr.out HL.out)
  rw [← hr] at P
  clear hr
  go_wp2_with fail
  refine P.out.mono ?_
  rintro e w13 ⟨sat, sct, rfl, hs, b⟩
  clear P
  clear cs0 cs1
  have hst := hs.all
  clear hs
  replace Kr := hid (RSl.below intGood Kr.out b)
  replace Ks := hid (Ks.out.more b)
  replace Kl := hid (Kl.out.more b)
  replace HB : Hid (Below w.heap.size w _) := HB.out.trans (b.mono HB.out.size)
  clear b
  go_upto_region 5 with (fail)
  have bb := (Below.refl w13.heap.size w13).alloc (Nat.le_refl _) (.cells #[.slice sat tt.cells.length sct, .int .i64 tt.ver] 24)
  have Kt := hid (BSt.new HB.out hst)
  have hBwt := HB.out.size
  obtain ⟨w14, hw⟩ : ∃ z, w13.alloc (.cells #[.slice sat tt.cells.length sct, .int .i64 tt.ver] 24) = z := ⟨_, rfl⟩
  rw [hw] at bb Kt ⊢
  obtain ⟨Bt, hBt⟩ : ∃ z, w13.heap.size = z := ⟨_, rfl⟩
  rw [hBt] at Kt hBwt ⊢
  replace Kr := hid (RSl.below intGood Kr.out bb)
  replace Ks := hid (Ks.out.more bb)
  replace Kl := hid (Kl.out.more bb)
  replace HB : Hid (Below w.heap.size w w14) := HB.out.trans (bb.mono HB.out.size)
  clear bb hw hst hBt hBwt
  clear f3 f4
  go_cut [10, 11] (fun sb se wx => ∃ (Z : Nat) (ra : Option Addr) (rc : Nat), sb = .pointer (some ⟨Z, 0, none⟩) ∧ se = .int .i64 0 ∧ Hid (BSt w14 wx Z ra rc s))
  case first =>
    obtain ⟨w5, hw5⟩ : ∃ z, w14.drew = z := ⟨_, rfl⟩
    have bd : Below w14.heap.size w14 w5 := by rw [← hw5]; exact (Below.refl _ _).drew
    have K5 := hid (Ks.out.more bd)
    have KV := hid K5.out.val
    have BD := hid bd
    clear bd
    have C0 : Hid (w5.cell? ⟨w.heap.size, 0, none⟩ = some (.slice ads s.cells.length cps)) := K5.out.c0
    have C1 : Hid (w5.cell? ⟨w.heap.size, 1, none⟩ = some (.int .i64 s.ver)) := K5.out.c1
    refine (wpIn_wide (n := 9)).1 ?_
    refine wpIn_region_held (fun W => Below w5.heap.size w5 W) (by kernel_rfl) ?_
    rw [hw5]
    clear hw5
    refine wpAnyHF_takeD (i := 0) 31 (v := .agg #[.slice ads s.cells.length cps, .int .i64 s.ver]) rfl rfl rfl (by kernel_rfl) (by kernel_rfl) (by kernel_rfl) (fun _ _ _ h => h) ⟨.inl ⟨rfl, fun W hW => by have m0 := later_cell hW C0.out; have m1 := later_cell hW C1.out; simp [execOp, go_sem, m0, m1]⟩, fun W => rfl⟩ (Below.refl _ _) ?_
    refine wpAnyHF_takeD (i := 1) 32 (v := .agg #[.slice ads s.cells.length cps, .int .i64 s.ver]) rfl rfl rfl (by kernel_rfl) (by kernel_rfl) (by kernel_rfl) (fun _ _ _ h => h) ⟨.inl ⟨rfl, fun W hW => by have m0 := later_cell hW C0.out; have m1 := later_cell hW C1.out; simp [execOp, go_sem, m0, m1]⟩, fun W => rfl⟩ (Below.refl _ _) ?_
    simp only [Act.put, List.setIfInBounds_toArray, List.set_cons_zero, List.set_cons_succ]
    refine wpAnyHF_two (i := 2) (j := 7) (by kernel_rfl) rfl rfl rfl rfl ?_ ?_
    · refine wpIn_callD 33 rfl (P := Try.prog) (f := 20) (args := #[.agg #[.slice ads s.cells.length cps, .int .i64 s.ver]]) (by simp [execOp, resolve, invoke, go_sem]) ?_
      refine (roots_any _ _ _ s (KV.out.more (Below.refl w5.heap.size w5)) (by have := HF.out; omega)).mono ?_
      rintro e wa1 ⟨vb, vd, rfl, hV, ba1'⟩
      have ba1 := (Below.refl w5.heap.size w5).trans (ba1'.mono (Below.refl w5.heap.size w5).size)
      have HV := hid hV
      clear hV
      refine ⟨_, rfl, ba1, ?_⟩
      simp only [Act.put, List.setIfInBounds_toArray, List.set_cons_zero, List.set_cons_succ]
      refine wpAnyHF_two (i := 3) (j := 7) (by kernel_rfl) rfl rfl rfl rfl ?_ ?_
      · refine wpIn_callD 34 rfl (P := Try.prog) (f := 16) (args := #[.agg #[.slice ads s.cells.length cps, .int .i64 s.ver], .slice vb s.cells.length vd]) (by simp [execOp, resolve, invoke, go_sem]) ?_
        have P := move_any wa1 (fun _ => True) _ (.agg #[.slice ads s.cells.length cps, .int .i64 s.ver]) (.slice vb s.cells.length vd) s (s.cells.map (·.1)) (KV.out.more ba1) HV.out HL.out
        rw [move_own s] at P
        refine P.mono ?_
        rintro e wa2 ⟨ra, rc, rfl, hs, ba2'⟩
        have ba2 := ba1.trans (ba2'.mono ba1.size)
        refine ⟨_, rfl, ba2, ?_⟩
        simp only [Act.put, List.setIfInBounds_toArray, List.set_cons_zero, List.set_cons_succ]
        refine wpAnyHF_takeD (i := 4) 30 (v := .tuple #[.agg #[.slice ra s.cells.length rc, .int .i64 s.ver], .int .i64 0]) rfl rfl rfl (by kernel_rfl) (by kernel_rfl) (by kernel_rfl) (fun _ _ _ h => h) ⟨.inl ⟨rfl, fun W hW => by simp [execOp, go_sem]⟩, fun W => rfl⟩ ba2 ?_
        refine wpAnyHF_takeD (i := 5) 35 (v := .agg #[.slice ra s.cells.length rc, .int .i64 s.ver]) rfl rfl rfl (by kernel_rfl) (by kernel_rfl) (by kernel_rfl) (fun _ _ _ h => h) ⟨.inl ⟨rfl, fun W hW => by simp [execOp, go_sem]⟩, fun W => rfl⟩ ba2 ?_
        refine wpAnyHF_takeD (i := 6) 36 (v := .int .i64 0) rfl rfl rfl (by kernel_rfl) (by kernel_rfl) (by kernel_rfl) (fun _ _ _ h => h) ⟨.inl ⟨rfl, fun W hW => by simp [execOp, go_sem]⟩, fun W => rfl⟩ ba2 ?_
        simp only [Act.put, List.setIfInBounds_toArray, List.set_cons_zero, List.set_cons_succ]
        refine wpAnyHF_one (i := 7) (by kernel_rfl) rfl rfl ?_
        obtain ⟨wa3, hw'⟩ : ∃ z, wa2.alloc (.cells #[.slice none 0 0, .int .i64 0] 24) = z := ⟨_, rfl⟩
        have hZ3 : wa3.heap[wa2.heap.size]? = some (.cells #[.slice none 0 0, .int .i64 0] 24) := by rw [← hw']; exact World.alloc_heap_new _ _
        have ba3' : Below wa2.heap.size wa2 wa3 := by rw [← hw']; exact (Below.refl _ _).alloc (Nat.le_refl _) _
        have ba3 := ba2.trans (ba3'.mono ba2.size)
        refine wpIn_valueD 10 rfl (w' := wa3) (v := .pointer (some ⟨wa2.heap.size, 0, none⟩)) (by rw [← hw']; simp [execOp, go_sem]) ⟨ba3, ?_⟩
        simp only [Act.put, List.setIfInBounds_toArray, List.set_cons_zero, List.set_cons_succ]
        have hz5 : w5.heap.size ≤ wa2.heap.size := ba2.size
        have hzl3 : wa2.heap.size < wa3.heap.size := lt_of_some hZ3
        have hs' := (hs.weak (ok' := fun b => b ≠ wa2.heap.size) (fun b hb _ => Nat.ne_of_lt hb)).more ba3'
        have z0 : wa3.cell? ⟨wa2.heap.size, 0, none⟩ = some (.slice none 0 0) := cell_of hZ3
        have z1 : wa3.cell? ⟨wa2.heap.size, 1, none⟩ = some (.int .i64 0) := cell_of hZ3
        have zf : ∀ i, wa3.frozen? ⟨wa2.heap.size, i, none⟩ = false := fun i => free_of hZ3
        have hzz : w5.heap.size ≤ wa2.heap.size := hz5
        have b9 : Below w5.heap.size w5 ((wa3.setCell ⟨wa2.heap.size, 0, none⟩ (.slice ra s.cells.length rc)).setCell ⟨wa2.heap.size, 1, none⟩ (.int .i64 s.ver)) := (ba3.setCell (p := ⟨wa2.heap.size, 0, none⟩) hzz _).setCell (p := ⟨wa2.heap.size, 1, none⟩) hzz _
        have KF := hid (sfill ba3 hZ3 hzz hs')
        refine wpAnyHF_one (i := 8) (by kernel_rfl) rfl rfl ?_
        refine wpIn_skip rfl (w' := ((wa3.setCell ⟨wa2.heap.size, 0, none⟩ (.slice ra s.cells.length rc)).setCell ⟨wa2.heap.size, 1, none⟩ (.int .i64 s.ver))) (by simp [execOp, go_sem, z0, z1, zf]) ⟨b9, ?_⟩
        refine wpAnyHF_takeD (i := 9) 11 (v := .int .i64 0) rfl rfl rfl (by kernel_rfl) (by kernel_rfl) (by kernel_rfl) (fun _ _ _ h => h) ⟨.inl ⟨rfl, fun W hW => by simp [execOp, go_sem]⟩, fun W => rfl⟩ b9 ?_
        simp only [Act.put, List.setIfInBounds_toArray, List.set_cons_zero, List.set_cons_succ]
        refine wpAnyHF_done (by kernel_rfl) ?_ _
        clear z0 z1 zf b9 ba3 hZ3 hs' hs
        gi_wp2
        go_wp2_with fail
        go_meet
        case rel => exact ⟨_, ra, rc, rfl, rfl, KF.out.back BD.out⟩
      · obtain ⟨wa2, hw'⟩ : ∃ z, wa1.alloc (.cells #[.slice none 0 0, .int .i64 0] 24) = z := ⟨_, rfl⟩
        have hZ2 : wa2.heap[wa1.heap.size]? = some (.cells #[.slice none 0 0, .int .i64 0] 24) := by rw [← hw']; exact World.alloc_heap_new _ _
        have ba2' : Below wa1.heap.size wa1 wa2 := by rw [← hw']; exact (Below.refl _ _).alloc (Nat.le_refl _) _
        have ba2 := ba1.trans (ba2'.mono ba1.size)
        refine wpIn_valueD 10 rfl (w' := wa2) (v := .pointer (some ⟨wa1.heap.size, 0, none⟩)) (by rw [← hw']; simp [execOp, go_sem]) ⟨ba2, ?_⟩
        simp only [Act.put, List.setIfInBounds_toArray, List.set_cons_zero, List.set_cons_succ]
        have hz5 : w5.heap.size ≤ wa1.heap.size := ba1.size
        have hzl2 : wa1.heap.size < wa2.heap.size := lt_of_some hZ2
        refine wpAnyHF_one (i := 3) (by kernel_rfl) rfl rfl ?_
        refine wpIn_callD 34 rfl (P := Try.prog) (f := 16) (args := #[.agg #[.slice ads s.cells.length cps, .int .i64 s.ver], .slice vb s.cells.length vd]) (by simp [execOp, resolve, invoke, go_sem]) ?_
        have P := move_any wa2 (fun b => b ≠ wa1.heap.size) _ (.agg #[.slice ads s.cells.length cps, .int .i64 s.ver]) (.slice vb s.cells.length vd) s (s.cells.map (·.1)) ((KV.out.weak (ok' := fun b => b ≠ wa1.heap.size) (fun b hb _ => by have := hz5; omega)).more ba2) (RSl.below intGood HV.out ba2') HL.out
        rw [move_own s] at P
        refine P.mono ?_
        rintro e wa3 ⟨ra, rc, rfl, hs, ba3'⟩
        have ba3 := ba2.trans (ba3'.mono ba2.size)
        refine ⟨_, rfl, ba3, ?_⟩
        simp only [Act.put, List.setIfInBounds_toArray, List.set_cons_zero, List.set_cons_succ]
        refine wpAnyHF_takeD (i := 4) 30 (v := .tuple #[.agg #[.slice ra s.cells.length rc, .int .i64 s.ver], .int .i64 0]) rfl rfl rfl (by kernel_rfl) (by kernel_rfl) (by kernel_rfl) (fun _ _ _ h => h) ⟨.inl ⟨rfl, fun W hW => by simp [execOp, go_sem]⟩, fun W => rfl⟩ ba3 ?_
        refine wpAnyHF_takeD (i := 5) 35 (v := .agg #[.slice ra s.cells.length rc, .int .i64 s.ver]) rfl rfl rfl (by kernel_rfl) (by kernel_rfl) (by kernel_rfl) (fun _ _ _ h => h) ⟨.inl ⟨rfl, fun W hW => by simp [execOp, go_sem]⟩, fun W => rfl⟩ ba3 ?_
        refine wpAnyHF_takeD (i := 6) 36 (v := .int .i64 0) rfl rfl rfl (by kernel_rfl) (by kernel_rfl) (by kernel_rfl) (fun _ _ _ h => h) ⟨.inl ⟨rfl, fun W hW => by simp [execOp, go_sem]⟩, fun W => rfl⟩ ba3 ?_
        simp only [Act.put, List.setIfInBounds_toArray, List.set_cons_zero, List.set_cons_succ]
        have hs' := hs.weak (ok' := fun b => b ≠ wa1.heap.size) (fun b _ h => by have h1 := hzl2; rcases h with h | h <;> omega)
        have hZ3 := (ba3'.block _ (lt_of_some hZ2)).trans hZ2
        have hzl3 := Nat.lt_of_lt_of_le hzl2 ba3'.size
        have z0 : wa3.cell? ⟨wa1.heap.size, 0, none⟩ = some (.slice none 0 0) := cell_of hZ3
        have z1 : wa3.cell? ⟨wa1.heap.size, 1, none⟩ = some (.int .i64 0) := cell_of hZ3
        have zf : ∀ i, wa3.frozen? ⟨wa1.heap.size, i, none⟩ = false := fun i => free_of hZ3
        have hzz : w5.heap.size ≤ wa1.heap.size := hz5
        have b9 : Below w5.heap.size w5 ((wa3.setCell ⟨wa1.heap.size, 0, none⟩ (.slice ra s.cells.length rc)).setCell ⟨wa1.heap.size, 1, none⟩ (.int .i64 s.ver)) := (ba3.setCell (p := ⟨wa1.heap.size, 0, none⟩) hzz _).setCell (p := ⟨wa1.heap.size, 1, none⟩) hzz _
        have KF := hid (sfill ba3 hZ3 hzz hs')
        refine wpAnyHF_one (i := 8) (by kernel_rfl) rfl rfl ?_
        refine wpIn_skip rfl (w' := ((wa3.setCell ⟨wa1.heap.size, 0, none⟩ (.slice ra s.cells.length rc)).setCell ⟨wa1.heap.size, 1, none⟩ (.int .i64 s.ver))) (by simp [execOp, go_sem, z0, z1, zf]) ⟨b9, ?_⟩
        refine wpAnyHF_takeD (i := 9) 11 (v := .int .i64 0) rfl rfl rfl (by kernel_rfl) (by kernel_rfl) (by kernel_rfl) (fun _ _ _ h => h) ⟨.inl ⟨rfl, fun W hW => by simp [execOp, go_sem]⟩, fun W => rfl⟩ b9 ?_
        simp only [Act.put, List.setIfInBounds_toArray, List.set_cons_zero, List.set_cons_succ]
        refine wpAnyHF_done (by kernel_rfl) ?_ _
        clear z0 z1 zf b9 ba3 hZ3 hs' hs
        gi_wp2
        go_wp2_with fail
        go_meet
        case rel => exact ⟨_, ra, rc, rfl, rfl, KF.out.back BD.out⟩
    · obtain ⟨wa1, hw'⟩ : ∃ z, w5.alloc (.cells #[.slice none 0 0, .int .i64 0] 24) = z := ⟨_, rfl⟩
      have hZ1 : wa1.heap[w5.heap.size]? = some (.cells #[.slice none 0 0, .int .i64 0] 24) := by rw [← hw']; exact World.alloc_heap_new _ _
      have ba1' : Below w5.heap.size w5 wa1 := by rw [← hw']; exact (Below.refl _ _).alloc (Nat.le_refl _) _
      have ba1 := (Below.refl w5.heap.size w5).trans (ba1'.mono (Below.refl w5.heap.size w5).size)
      refine wpIn_valueD 10 rfl (w' := wa1) (v := .pointer (some ⟨w5.heap.size, 0, none⟩)) (by rw [← hw']; simp [execOp, go_sem]) ⟨ba1, ?_⟩
      simp only [Act.put, List.setIfInBounds_toArray, List.set_cons_zero, List.set_cons_succ]
      have hz5 : w5.heap.size ≤ w5.heap.size := (Below.refl w5.heap.size w5).size
      have hzl1 : w5.heap.size < wa1.heap.size := lt_of_some hZ1
      refine wpAnyHF_one (i := 2) (by kernel_rfl) rfl rfl ?_
      refine wpIn_callD 33 rfl (P := Try.prog) (f := 20) (args := #[.agg #[.slice ads s.cells.length cps, .int .i64 s.ver]]) (by simp [execOp, resolve, invoke, go_sem]) ?_
      refine (roots_any _ _ _ s (KV.out.more ba1) (by have := HF.out; omega)).mono ?_
      rintro e wa2 ⟨vb, vd, rfl, hV, ba2'⟩
      have ba2 := ba1.trans (ba2'.mono ba1.size)
      have HV := hid hV
      clear hV
      refine ⟨_, rfl, ba2, ?_⟩
      simp only [Act.put, List.setIfInBounds_toArray, List.set_cons_zero, List.set_cons_succ]
      have hZ2 := (ba2'.block _ (lt_of_some hZ1)).trans hZ1
      have hzl2 := Nat.lt_of_lt_of_le hzl1 ba2'.size
      refine wpAnyHF_one (i := 3) (by kernel_rfl) rfl rfl ?_
      refine wpIn_callD 34 rfl (P := Try.prog) (f := 16) (args := #[.agg #[.slice ads s.cells.length cps, .int .i64 s.ver], .slice vb s.cells.length vd]) (by simp [execOp, resolve, invoke, go_sem]) ?_
      have P := move_any wa2 (fun b => b ≠ w5.heap.size) _ (.agg #[.slice ads s.cells.length cps, .int .i64 s.ver]) (.slice vb s.cells.length vd) s (s.cells.map (·.1)) ((KV.out.weak (ok' := fun b => b ≠ w5.heap.size) (fun b hb _ => by have := hz5; omega)).more ba2) HV.out HL.out
      rw [move_own s] at P
      refine P.mono ?_
      rintro e wa3 ⟨ra, rc, rfl, hs, ba3'⟩
      have ba3 := ba2.trans (ba3'.mono ba2.size)
      refine ⟨_, rfl, ba3, ?_⟩
      simp only [Act.put, List.setIfInBounds_toArray, List.set_cons_zero, List.set_cons_succ]
      refine wpAnyHF_takeD (i := 4) 30 (v := .tuple #[.agg #[.slice ra s.cells.length rc, .int .i64 s.ver], .int .i64 0]) rfl rfl rfl (by kernel_rfl) (by kernel_rfl) (by kernel_rfl) (fun _ _ _ h => h) ⟨.inl ⟨rfl, fun W hW => by simp [execOp, go_sem]⟩, fun W => rfl⟩ ba3 ?_
      refine wpAnyHF_takeD (i := 5) 35 (v := .agg #[.slice ra s.cells.length rc, .int .i64 s.ver]) rfl rfl rfl (by kernel_rfl) (by kernel_rfl) (by kernel_rfl) (fun _ _ _ h => h) ⟨.inl ⟨rfl, fun W hW => by simp [execOp, go_sem]⟩, fun W => rfl⟩ ba3 ?_
      refine wpAnyHF_takeD (i := 6) 36 (v := .int .i64 0) rfl rfl rfl (by kernel_rfl) (by kernel_rfl) (by kernel_rfl) (fun _ _ _ h => h) ⟨.inl ⟨rfl, fun W hW => by simp [execOp, go_sem]⟩, fun W => rfl⟩ ba3 ?_
      simp only [Act.put, List.setIfInBounds_toArray, List.set_cons_zero, List.set_cons_succ]
      have hs' := hs.weak (ok' := fun b => b ≠ w5.heap.size) (fun b _ h => by have h1 := hzl2; rcases h with h | h <;> omega)
      have hZ3 := (ba3'.block _ (lt_of_some hZ2)).trans hZ2
      have hzl3 := Nat.lt_of_lt_of_le hzl2 ba3'.size
      have z0 : wa3.cell? ⟨w5.heap.size, 0, none⟩ = some (.slice none 0 0) := cell_of hZ3
      have z1 : wa3.cell? ⟨w5.heap.size, 1, none⟩ = some (.int .i64 0) := cell_of hZ3
      have zf : ∀ i, wa3.frozen? ⟨w5.heap.size, i, none⟩ = false := fun i => free_of hZ3
      have hzz : w5.heap.size ≤ w5.heap.size := hz5
      have b9 : Below w5.heap.size w5 ((wa3.setCell ⟨w5.heap.size, 0, none⟩ (.slice ra s.cells.length rc)).setCell ⟨w5.heap.size, 1, none⟩ (.int .i64 s.ver)) := (ba3.setCell (p := ⟨w5.heap.size, 0, none⟩) hzz _).setCell (p := ⟨w5.heap.size, 1, none⟩) hzz _
      have KF := hid (sfill ba3 hZ3 hzz hs')
      refine wpAnyHF_one (i := 8) (by kernel_rfl) rfl rfl ?_
      refine wpIn_skip rfl (w' := ((wa3.setCell ⟨w5.heap.size, 0, none⟩ (.slice ra s.cells.length rc)).setCell ⟨w5.heap.size, 1, none⟩ (.int .i64 s.ver))) (by simp [execOp, go_sem, z0, z1, zf]) ⟨b9, ?_⟩
      refine wpAnyHF_takeD (i := 9) 11 (v := .int .i64 0) rfl rfl rfl (by kernel_rfl) (by kernel_rfl) (by kernel_rfl) (fun _ _ _ h => h) ⟨.inl ⟨rfl, fun W hW => by simp [execOp, go_sem]⟩, fun W => rfl⟩ b9 ?_
      simp only [Act.put, List.setIfInBounds_toArray, List.set_cons_zero, List.set_cons_succ]
      refine wpAnyHF_done (by kernel_rfl) ?_ _
      clear z0 z1 zf b9 ba3 hZ3 hs' hs
      gi_wp2
      go_wp2_with fail
      go_meet
      case rel => exact ⟨_, ra, rc, rfl, rfl, KF.out.back BD.out⟩
  case rest =>
    obtain ⟨Bu, au, cu, rfl, rfl, KB⟩ := hcut
    have b := KB.out.bel
    have Ku0 := hid (KB.out.back HB.out)
    replace Kr := hid (RSl.below intGood Kr.out b)
    replace Ks := hid (Ks.out.more b)
    replace Kl := hid (Kl.out.more b)
    replace Kt := hid (Kt.out.more b)
    replace HB : Hid (Below w.heap.size w _) := HB.out.trans (b.mono HB.out.size)
    have Ku := Ku0
    clear KB b Ku0
    by_cases he : et = 0
    rotate_left
    ·
      obtain ⟨h1, h2⟩ := move_no HRt.out he
      have f1 : (et != 0) = true := by simp [he]
      have f2 : ((r.length : Int) != s.cells.length) = true := by simp; omega
      have hd : decide (s = tt) = true := by rw [h1]; simp
      clear he h2 h1 HRt
      have cs0 : wc.cell? ⟨w.heap.size, 0, none⟩ = some (.slice ads s.cells.length cps) := Ks.out.c0
      have cs1 : wc.cell? ⟨w.heap.size, 1, none⟩ = some (.int .i64 s.ver) := Ks.out.c1
      have ct0 : wc.cell? ⟨Bt, 0, none⟩ = some (.slice sat tt.cells.length sct) := Kt.out.c0
      have ct1 : wc.cell? ⟨Bt, 1, none⟩ = some (.int .i64 tt.ver) := Kt.out.c1
      have P := hid (ssame_any wc _ _ (.agg #[.slice ads s.cells.length cps, .int .i64 s.ver]) (.agg #[.slice sat tt.cells.length sct, .int .i64 tt.ver]) s tt Ks.out.val Kt.out.val)
      rw [hd] at P
      clear hd
      go_wp2_with fail
      refine P.out.mono ?_
      rintro e w15 ⟨rfl, b⟩
      clear P
      clear cs0 cs1 ct0 ct1
      replace Kr := hid (RSl.below intGood Kr.out b)
      replace Ks := hid (Ks.out.more b)
      replace Kl := hid (Kl.out.more b)
      replace Kt := hid (Kt.out.more b)
      replace Ku := hid (Ku.out.more b)
      replace HB : Hid (Below w.heap.size w _) := HB.out.trans (b.mono HB.out.size)
      clear b
      go_wp2_with fail
      go_ret
      exact Bb.fin rfl HB.out
    obtain ⟨h1, h2⟩ := move_yes HRt.out he
    have f1 : (et != 0) = false := by simp [he]
    have f2 : ((tt.cells.length : Int) != r.length) = false := by rw [h1]; simp [mvZ_len h2, h2]
    have f3 : ((s.cells.length : Int) != r.length) = false := by simp [h2]
    have H1 := hid h1
    have H2 := hid h2
    have HTL := hid (show tt.cells.length = r.length by rw [h1]; simp [mvZ_len h2, h2])
    clear he h1 h2 HRt
    have ct0 : wc.cell? ⟨Bt, 0, none⟩ = some (.slice sat tt.cells.length sct) := Kt.out.c0
    have ct1 : wc.cell? ⟨Bt, 1, none⟩ = some (.int .i64 tt.ver) := Kt.out.c1
    have cs0 : wc.cell? ⟨w.heap.size, 0, none⟩ = some (.slice ads s.cells.length cps) := Ks.out.c0
    have cs1 : wc.cell? ⟨w.heap.size, 1, none⟩ = some (.int .i64 s.ver) := Ks.out.c1
    go_upto_region 11 with (fail)
    clear ct0 ct1 cs0 cs1
    clear f1 f2 f3
    go_loopw [12] (fun i wr => ∃ (k : Nat), k ≤ r.length ∧ i = .int .i64 k ∧ Hid (Below wc.heap.size wc wr)) (fun i _ => r.length - (intOf i).toNat)
    case atStart => exact ⟨0, Nat.zero_le _, rfl, Below.refl _ _⟩
    case round =>
      obtain ⟨k, hk, rfl, HW1⟩ := hrel
      by_cases hlt : k < r.length
      ·
        have hlt1 : k < tt.cells.length := by have := HTL.out; omega
        have hlt2 : k < s.cells.length := by have := H2.out; omega
        have K1 := hid (Kt.out.more HW1.out)
        have K2 := hid (Ks.out.more HW1.out)
        have c0 : wr.cell? ⟨Bt, 0, none⟩ = some (.slice sat tt.cells.length sct) := K1.out.c0
        have d0 : wr.cell? ⟨w.heap.size, 0, none⟩ = some (.slice ads s.cells.length cps) := K2.out.c0
        obtain ⟨b1, o1, x, hv1, hx, _, _, _, e1, e2⟩ := K1.out.pick hlt1
        obtain ⟨b2, o2, y, hv2, hy, _, _, _, e3, e4⟩ := K2.out.pick hlt2
        obtain ⟨b3, o3, c3, z, hv3, hz, _, e5⟩ := ISl.at Kr.out HW1.out hlt
        cases hv1
        cases hv2
        cases hv3
        obtain rfl : x = (z, y.2) := by rw [H1.out, mvZ_get hz hy] at hx; cases hx; rfl
        simp only at e1 e2
        clear hx hy hz K1 K2
        have hs2 := HW1.out.size
        go_wp2_with fail
        go_quiet (fail)
        go_wp2_with fail
        go_roundw
        case rel => exact ⟨k + 1, by omega, by go_num, below_drewN HW1.out _⟩
        case measure => simp [intOf]; omega
      ·
        have b := HW1.out
        replace Kr := hid (RSl.below intGood Kr.out b)
        replace Ks := hid (Ks.out.more b)
        replace Kl := hid (Kl.out.more b)
        replace Kt := hid (Kt.out.more b)
        replace Ku := hid (Ku.out.more b)
        replace HB : Hid (Below w.heap.size w _) := HB.out.trans (b.mono HB.out.size)
        clear b HW1
        go_upto_region 15 with (fail)
        obtain ⟨w5, hw5⟩ : ∃ z, wr.drew = z := ⟨_, rfl⟩
        have bd : Below wr.heap.size wr w5 := by rw [← hw5]; exact (Below.refl _ _).drew
        replace Kr := hid (RSl.below intGood Kr.out bd)
        replace Ks := hid (Ks.out.more bd)
        replace Kl := hid (Kl.out.more bd)
        replace Kt := hid (Kt.out.more bd)
        replace Ku := hid (Ku.out.more bd)
        replace HB : Hid (Below w.heap.size w _) := HB.out.trans (bd.mono HB.out.size)
        have CS0 : Hid (w5.cell? ⟨w.heap.size, 0, none⟩ = some (.slice ads s.cells.length cps)) := Ks.out.c0
        have CS1 : Hid (w5.cell? ⟨w.heap.size, 1, none⟩ = some (.int .i64 s.ver)) := Ks.out.c1
        have CT0 : Hid (w5.cell? ⟨Bt, 0, none⟩ = some (.slice sat tt.cells.length sct)) := Kt.out.c0
        have CT1 : Hid (w5.cell? ⟨Bt, 1, none⟩ = some (.int .i64 tt.ver)) := Kt.out.c1
        have CU0 : Hid (w5.cell? ⟨Bu, 0, none⟩ = some (.slice au s.cells.length cu)) := Ku.out.c0
        have CU1 : Hid (w5.cell? ⟨Bu, 1, none⟩ = some (.int .i64 s.ver)) := Ku.out.c1
        have CG0 : Hid (w5.cell? ⟨w.heap.size + 1, 0, none⟩ = some (.slice rl l.reads.length rcl)) := Kl.out.c0
        have CG1 : Hid (w5.cell? ⟨w.heap.size + 1, 1, none⟩ = some (.slice ll l.levels.length lcl)) := Kl.out.c1
        obtain ⟨q, hq⟩ : ∃ q, q = validS s l := ⟨_, rfl⟩
        have HQ := hid hq
        clear hq
        obtain ⟨p, hp⟩ : ∃ q, q = chkS s := ⟨_, rfl⟩
        have HP := hid hp
        clear hp
        have HQ2 := hid (show validS tt l = q by rw [H1.out, move_valid l H2.out, HQ.out])
        have HP2 := hid (show chkS tt = p by rw [H1.out, move_chk H2.out, HP.out])
        have HRO := hid (show tt.cells.map (·.1) = r by rw [H1.out]; exact mvZ_roots H2.out)
        clear bd
        refine (wpIn_wide (n := 9)).1 ?_
        refine wpIn_region_held (fun W => Below w5.heap.size w5 W) (by kernel_rfl) ?_
        rw [hw5]
        clear hw5
        refine wpAnyHF_takeD (i := 0) 99 (v := .bool true) rfl rfl rfl (by kernel_rfl) (by kernel_rfl) (by kernel_rfl) (fun _ _ _ h => h) ⟨.inl ⟨rfl, fun W hW => by simp [execOp, go_sem]⟩, fun W => rfl⟩ (Below.refl _ _) ?_
        refine wpAnyHF_takeD (i := 1) 100 (v := .bool true) rfl rfl rfl (by kernel_rfl) (by kernel_rfl) (by kernel_rfl) (fun _ _ _ h => h) ⟨.inl ⟨rfl, fun W hW => by simp [execOp, go_sem]⟩, fun W => rfl⟩ (Below.refl _ _) ?_
        refine wpAnyHF_takeD (i := 2) 101 (v := .int .i64 0) rfl rfl rfl (by kernel_rfl) (by kernel_rfl) (by kernel_rfl) (fun _ _ _ h => h) ⟨.inl ⟨rfl, fun W hW => by simp [execOp, go_sem]⟩, fun W => rfl⟩ (Below.refl _ _) ?_
        simp only [Act.put, List.setIfInBounds_toArray, List.set_cons_zero, List.set_cons_succ]
        refine wpAnyHF_takeD (i := 3) 102 (v := .bool true) rfl rfl rfl (by kernel_rfl) (by kernel_rfl) (by kernel_rfl) (fun _ _ _ h => h) ⟨.inl ⟨rfl, fun W hW => by simp [execOp, go_sem]⟩, fun W => rfl⟩ (Below.refl _ _) ?_
        refine wpAnyHF_takeD (i := 4) 103 (v := .bool true) rfl rfl rfl (by kernel_rfl) (by kernel_rfl) (by kernel_rfl) (fun _ _ _ h => h) ⟨.inl ⟨rfl, fun W hW => by simp [execOp, go_sem]⟩, fun W => rfl⟩ (Below.refl _ _) ?_
        refine wpAnyHF_takeD (i := 5) 104 (v := .bool true) rfl rfl rfl (by kernel_rfl) (by kernel_rfl) (by kernel_rfl) (fun _ _ _ h => h) ⟨.inl ⟨rfl, fun W hW => by simp [execOp, go_sem]⟩, fun W => rfl⟩ (Below.refl _ _) ?_
        simp only [Act.put, List.setIfInBounds_toArray, List.set_cons_zero, List.set_cons_succ]
        refine wpAnyHF_takeD (i := 6) 105 (v := .agg #[.slice au s.cells.length cu, .int .i64 s.ver]) rfl rfl rfl (by kernel_rfl) (by kernel_rfl) (by kernel_rfl) (fun _ _ _ h => h) ⟨.inl ⟨rfl, fun W hW => by have m0 := later_cell hW CU0.out; have m1 := later_cell hW CU1.out; simp [execOp, go_sem, m0, m1]⟩, fun W => rfl⟩ (Below.refl _ _) ?_
        refine wpAnyHF_takeD (i := 7) 106 (v := .agg #[.slice ads s.cells.length cps, .int .i64 s.ver]) rfl rfl rfl (by kernel_rfl) (by kernel_rfl) (by kernel_rfl) (fun _ _ _ h => h) ⟨.inl ⟨rfl, fun W hW => by have m0 := later_cell hW CS0.out; have m1 := later_cell hW CS1.out; simp [execOp, go_sem, m0, m1]⟩, fun W => rfl⟩ (Below.refl _ _) ?_
        refine wpAnyHF_one (i := 8) (by kernel_rfl) rfl rfl ?_
        refine wpIn_callD 107 rfl (P := Try.prog) (f := 18) (args := #[.agg #[.slice au s.cells.length cu, .int .i64 s.ver], .agg #[.slice ads s.cells.length cps, .int .i64 s.ver]]) (by simp [execOp, resolve, invoke, go_sem]) ?_
        refine ((show decide (s = s) = true by simp) ▸ ssame_any _ _ _ _ _ s s (Ku.out.val.more (Below.refl _ _)) (Ks.out.val.more (Below.refl _ _))).mono ?_
        rintro e x1 ⟨rfl, bx1'⟩
        have bx1 := bx1'
        refine ⟨_, rfl, bx1, ?_⟩
        simp only [Act.put, List.setIfInBounds_toArray, List.set_cons_zero, List.set_cons_succ]
        refine wpAnyHF_takeD (i := 9) 108 (v := .bool true) rfl rfl rfl (by kernel_rfl) (by kernel_rfl) (by kernel_rfl) (fun _ _ _ h => h) ⟨.inl ⟨rfl, fun W hW => by simp [execOp, go_sem]⟩, fun W => rfl⟩ bx1 ?_
        refine wpAnyHF_takeD (i := 10) 109 (v := .bool true) rfl rfl rfl (by kernel_rfl) (by kernel_rfl) (by kernel_rfl) (fun _ _ _ h => h) ⟨.inl ⟨rfl, fun W hW => by simp [execOp, go_sem]⟩, fun W => rfl⟩ bx1 ?_
        refine wpAnyHF_takeD (i := 11) 110 (v := .agg #[.slice sat tt.cells.length sct, .int .i64 tt.ver]) rfl rfl rfl (by kernel_rfl) (by kernel_rfl) (by kernel_rfl) (fun _ _ _ h => h) ⟨.inl ⟨rfl, fun W hW => by have m0 := later_cell hW CT0.out; have m1 := later_cell hW CT1.out; simp [execOp, go_sem, m0, m1]⟩, fun W => rfl⟩ bx1 ?_
        simp only [Act.put, List.setIfInBounds_toArray, List.set_cons_zero, List.set_cons_succ]
        refine wpAnyHF_takeD (i := 13) 112 (v := .slice adr r.length cpr) rfl rfl rfl (by kernel_rfl) (by kernel_rfl) (by kernel_rfl) (fun _ _ _ h => h) ⟨.inl ⟨rfl, fun W hW => by simp [execOp, go_sem]⟩, fun W => rfl⟩ bx1 ?_
        refine wpAnyHF_one (i := 12) (by kernel_rfl) rfl rfl ?_
        refine wpIn_callD 111 rfl (P := Try.prog) (f := 20) (args := #[.agg #[.slice sat tt.cells.length sct, .int .i64 tt.ver]]) (by simp [execOp, resolve, invoke, go_sem]) ?_
        refine (roots_any _ _ _ tt (Kt.out.val.more bx1) (by have := HTL.out; omega)).mono ?_
        rintro e x2 ⟨vb, vd, rfl, hV, bx2'⟩
        have bx2 := bx1.trans (bx2'.mono bx1.size)
        refine ⟨_, rfl, bx2, ?_⟩
        simp only [Act.put, List.setIfInBounds_toArray, List.set_cons_zero, List.set_cons_succ]
        refine wpAnyHF_one (i := 14) (by kernel_rfl) rfl rfl ?_
        refine wpIn_callD 113 rfl (P := Try.prog) (f := 19) (args := #[.slice vb tt.cells.length vd, .slice adr r.length cpr]) (by simp [execOp, resolve, invoke, go_sem]) ?_
        refine ((show (tt.cells.map (fun x : Pr => x.1) == r) = true by rw [HRO.out]; simp) ▸ numbers_any _ _ _ _ _ (tt.cells.map (fun x : Pr => x.1)) r hV (RSl.below intGood Kr.out bx2)).mono ?_
        rintro e x3 ⟨rfl, bx3'⟩
        have bx3 := bx2.trans (bx3'.mono bx2.size)
        refine ⟨_, rfl, bx3, ?_⟩
        simp only [Act.put, List.setIfInBounds_toArray, List.set_cons_zero, List.set_cons_succ]
        refine wpAnyHF_takeD (i := 15) 114 (v := .bool true) rfl rfl rfl (by kernel_rfl) (by kernel_rfl) (by kernel_rfl) (fun _ _ _ h => h) ⟨.inl ⟨rfl, fun W hW => by simp [execOp, go_sem]⟩, fun W => rfl⟩ bx3 ?_
        refine wpAnyHF_takeD (i := 16) 115 (v := .bool true) rfl rfl rfl (by kernel_rfl) (by kernel_rfl) (by kernel_rfl) (fun _ _ _ h => h) ⟨.inl ⟨rfl, fun W hW => by simp [execOp, go_sem]⟩, fun W => rfl⟩ bx3 ?_
        refine wpAnyHF_takeD (i := 17) 116 (v := .agg #[.slice sat tt.cells.length sct, .int .i64 tt.ver]) rfl rfl rfl (by kernel_rfl) (by kernel_rfl) (by kernel_rfl) (fun _ _ _ h => h) ⟨.inl ⟨rfl, fun W hW => by have m0 := later_cell hW CT0.out; have m1 := later_cell hW CT1.out; simp [execOp, go_sem, m0, m1]⟩, fun W => rfl⟩ bx3 ?_
        simp only [Act.put, List.setIfInBounds_toArray, List.set_cons_zero, List.set_cons_succ]
        refine wpAnyHF_takeD (i := 18) 117 (v := .agg #[.slice rl l.reads.length rcl, .slice ll l.levels.length lcl]) rfl rfl rfl (by kernel_rfl) (by kernel_rfl) (by kernel_rfl) (fun _ _ _ h => h) ⟨.inl ⟨rfl, fun W hW => by have m0 := later_cell hW CG0.out; have m1 := later_cell hW CG1.out; simp [execOp, go_sem, m0, m1]⟩, fun W => rfl⟩ bx3 ?_
        refine wpAnyHF_takeD (i := 20) 119 (v := .agg #[.slice ads s.cells.length cps, .int .i64 s.ver]) rfl rfl rfl (by kernel_rfl) (by kernel_rfl) (by kernel_rfl) (fun _ _ _ h => h) ⟨.inl ⟨rfl, fun W hW => by have m0 := later_cell hW CS0.out; have m1 := later_cell hW CS1.out; simp [execOp, go_sem, m0, m1]⟩, fun W => rfl⟩ bx3 ?_
        refine wpAnyHF_takeD (i := 21) 120 (v := .agg #[.slice rl l.reads.length rcl, .slice ll l.levels.length lcl]) rfl rfl rfl (by kernel_rfl) (by kernel_rfl) (by kernel_rfl) (fun _ _ _ h => h) ⟨.inl ⟨rfl, fun W hW => by have m0 := later_cell hW CG0.out; have m1 := later_cell hW CG1.out; simp [execOp, go_sem, m0, m1]⟩, fun W => rfl⟩ bx3 ?_
        simp only [Act.put, List.setIfInBounds_toArray, List.set_cons_zero, List.set_cons_succ]
        refine wpAnyHF_one (i := 19) (by kernel_rfl) rfl rfl ?_
        refine wpIn_callD 118 rfl (P := Try.prog) (f := 24) (args := #[.agg #[.slice sat tt.cells.length sct, .int .i64 tt.ver], .agg #[.slice rl l.reads.length rcl, .slice ll l.levels.length lcl]]) (by simp [execOp, resolve, invoke, go_sem]) ?_
        refine (HQ2.out ▸ svalid_any _ _ _ _ _ tt l (Kt.out.val.more bx3) (Kl.out.val.more bx3)).mono ?_
        rintro e x4 ⟨rfl, bx4'⟩
        have bx4 := bx3.trans (bx4'.mono bx3.size)
        refine ⟨_, rfl, bx4, ?_⟩
        simp only [Act.put, List.setIfInBounds_toArray, List.set_cons_zero, List.set_cons_succ]
        refine wpAnyHF_one (i := 22) (by kernel_rfl) rfl rfl ?_
        refine wpIn_callD 121 rfl (P := Try.prog) (f := 24) (args := #[.agg #[.slice ads s.cells.length cps, .int .i64 s.ver], .agg #[.slice rl l.reads.length rcl, .slice ll l.levels.length lcl]]) (by simp [execOp, resolve, invoke, go_sem]) ?_
        refine (HQ.out.symm ▸ svalid_any _ _ _ _ _ s l (Ks.out.val.more bx4) (Kl.out.val.more bx4)).mono ?_
        rintro e x5 ⟨rfl, bx5'⟩
        have bx5 := bx4.trans (bx5'.mono bx4.size)
        refine ⟨_, rfl, bx5, ?_⟩
        simp only [Act.put, List.setIfInBounds_toArray, List.set_cons_zero, List.set_cons_succ]
        refine wpAnyHF_takeD (i := 23) 122 (v := .bool true) rfl rfl rfl (by kernel_rfl) (by kernel_rfl) (by kernel_rfl) (fun _ _ _ h => h) ⟨.inl ⟨rfl, fun W hW => by simp [execOp, go_sem]⟩, fun W => rfl⟩ bx5 ?_
        refine wpAnyHF_takeD (i := 24) 123 (v := .bool true) rfl rfl rfl (by kernel_rfl) (by kernel_rfl) (by kernel_rfl) (fun _ _ _ h => h) ⟨.inl ⟨rfl, fun W hW => by simp [execOp, go_sem]⟩, fun W => rfl⟩ bx5 ?_
        refine wpAnyHF_takeD (i := 25) 124 (v := .bool true) rfl rfl rfl (by kernel_rfl) (by kernel_rfl) (by kernel_rfl) (fun _ _ _ h => h) ⟨.inl ⟨rfl, fun W hW => by simp [execOp, go_sem]⟩, fun W => rfl⟩ bx5 ?_
        simp only [Act.put, List.setIfInBounds_toArray, List.set_cons_zero, List.set_cons_succ]
        refine wpAnyHF_takeD (i := 26) 125 (v := .agg #[.slice sat tt.cells.length sct, .int .i64 tt.ver]) rfl rfl rfl (by kernel_rfl) (by kernel_rfl) (by kernel_rfl) (fun _ _ _ h => h) ⟨.inl ⟨rfl, fun W hW => by have m0 := later_cell hW CT0.out; have m1 := later_cell hW CT1.out; simp [execOp, go_sem, m0, m1]⟩, fun W => rfl⟩ bx5 ?_
        refine wpAnyHF_takeD (i := 28) 127 (v := .agg #[.slice ads s.cells.length cps, .int .i64 s.ver]) rfl rfl rfl (by kernel_rfl) (by kernel_rfl) (by kernel_rfl) (fun _ _ _ h => h) ⟨.inl ⟨rfl, fun W hW => by have m0 := later_cell hW CS0.out; have m1 := later_cell hW CS1.out; simp [execOp, go_sem, m0, m1]⟩, fun W => rfl⟩ bx5 ?_
        refine wpAnyHF_one (i := 27) (by kernel_rfl) rfl rfl ?_
        refine wpIn_callD 126 rfl (P := Try.prog) (f := 22) (args := #[.agg #[.slice sat tt.cells.length sct, .int .i64 tt.ver]]) (by simp [execOp, resolve, invoke, go_sem]) ?_
        refine (HP2.out ▸ scheck_any _ _ _ tt (Kt.out.val.more bx5)).mono ?_
        rintro e x6 ⟨rfl, bx6'⟩
        have bx6 := bx5.trans (bx6'.mono bx5.size)
        refine ⟨_, rfl, bx6, ?_⟩
        simp only [Act.put, List.setIfInBounds_toArray, List.set_cons_zero, List.set_cons_succ]
        refine wpAnyHF_one (i := 29) (by kernel_rfl) rfl rfl ?_
        refine wpIn_callD 128 rfl (P := Try.prog) (f := 22) (args := #[.agg #[.slice ads s.cells.length cps, .int .i64 s.ver]]) (by simp [execOp, resolve, invoke, go_sem]) ?_
        refine (HP.out.symm ▸ scheck_any _ _ _ s (Ks.out.val.more bx6)).mono ?_
        rintro e x7 ⟨rfl, bx7'⟩
        have bx7 := bx6.trans (bx7'.mono bx6.size)
        refine ⟨_, rfl, bx7, ?_⟩
        simp only [Act.put, List.setIfInBounds_toArray, List.set_cons_zero, List.set_cons_succ]
        refine wpAnyHF_takeD (i := 30) 129 (v := .bool true) rfl rfl rfl (by kernel_rfl) (by kernel_rfl) (by kernel_rfl) (fun _ _ _ h => h) ⟨.inl ⟨rfl, fun W hW => by simp [execOp, go_sem]⟩, fun W => rfl⟩ bx7 ?_
        refine wpAnyHF_takeD (i := 31) 130 (v := .bool true) rfl rfl rfl (by kernel_rfl) (by kernel_rfl) (by kernel_rfl) (fun _ _ _ h => h) ⟨.inl ⟨rfl, fun W hW => by simp [execOp, go_sem]⟩, fun W => rfl⟩ bx7 ?_
        refine wpAnyHF_takeD (i := 32) 6 (v := .bool true) rfl rfl rfl (by kernel_rfl) (by kernel_rfl) (by kernel_rfl) (fun _ _ _ h => h) ⟨.inl ⟨rfl, fun W hW => by simp [execOp, go_sem]⟩, fun W => rfl⟩ bx7 ?_
        simp only [Act.put, List.setIfInBounds_toArray, List.set_cons_zero, List.set_cons_succ]
        refine wpAnyHF_done (by kernel_rfl) ?_ _
        have HBF := hid (HB.out.trans (bx7.mono HB.out.size))
        clear bx1 bx2 bx3 bx4 bx5 bx6 bx7
        gi_wp2
        go_wp2_with fail
        go_ret
        exact Bb.fin rfl HBF.out
end Go.Proofs.Ytplckigmllkpoaa
