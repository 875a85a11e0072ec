/- The reference of gc: Collect. -/
import Derived.Test.YtajhchfjoeblgaaGcT
namespace Go.Proofs.Ytajhchfjoeblgaa
open Go.RowKit Go.Shelf
attribute [local go_sem] Oper.semAt_some
theorem later_low {n : Nat} {w W : World} {a : Addr} {v : Value} (hW : Below n w W) (hl : a.block < n) (h : w.cell? a = some v) : W.cell? a = some v := (hW.cell hl).trans h
theorem cellAt {w : World} {b : Nat} {c : Array Value} {e : TypeId} {fr : Nat × Nat} {i : Nat} {v : Value} (h : w.heap[b]? = some (.cells c e fr)) (hv : c[i]? = some v) : w.cell? ⟨b, i, none⟩ = some v := by rw [cell_of h, hv]
theorem mvd_out {ns : List Nd} {S ps : List Int} (h : ∀ p ∈ ps, ∃ q, res ns p = some q ∧ q ∈ S) : mvd ns S ps = outOf ns S ps := by
  unfold mvd outOf
  refine List.map_congr_left fun p hp => ?_
  obtain ⟨q, hq, hm⟩ := h p hp
  rw [atP, hq]
  show plc S q = pl S q
  rw [plc, if_pos (List.contains_iff_mem.2 hm)]
theorem moved_snoc {ns : List Nd} {S : List Int} {k : Nat} {q : Int} (h : S[k]? = some q) : (S.take (k + 1)).map (moved ns S) = (S.take k).map (moved ns S) ++ [moved ns S q] := by rw [take_moreI h, List.map_append]; rfl
set_option maxRecDepth 100000 in
set_option maxHeartbeats 16000000 in
theorem rcoll_any (w : World) (ok ok2 : Nat → Prop) (v v1 : Value) (h : Hp) (roots : List Int) (hh : HVal w ok v h) (h1 : ISl w ok2 v1 roots) (hn : h.nodes.length ≤ 1000) (hkb : ∀ x ∈ h.nodes, x.kids.length ≤ 1000) (hrl : roots.length ≤ 1000) :
    Calls Try.prog 11 #[v, v1] w (CollPost w h roots v) := by
  have hh0 := hh
  obtain ⟨sa, sc, rfl, him, hs⟩ := hh
  obtain ⟨_, _, e, l1, _⟩ := hs.shape
  cases e
  obtain ⟨aP, cP, rfl, lP, _⟩ := h1.shape
  obtain ⟨W0, hW0⟩ : ∃ W0, w.alloc (Obj.cells #[.slice sa h.nodes.length sc, .int .i64 h.most] 24) = W0 := ⟨_, rfl⟩
  have hb0 : Below w.heap.size w W0 := by rw [← hW0]; exact (Below.refl _ _).alloc (Nat.le_refl _) _
  have hx0 : W0.heap[w.heap.size]? = some (.cells #[.slice sa h.nodes.length sc, .int .i64 h.most] 24) := by rw [← hW0]; exact World.alloc_heap_new _ _
  have hs0 : W0.heap.size = w.heap.size + 1 := by rw [← hW0]; simp
  obtain ⟨W1, hW1⟩ : ∃ W1, W0.alloc (Obj.cells #[.slice none 0 0, .int .i64 0] 24) = W1 := ⟨_, rfl⟩
  have hb1 : Below W0.heap.size W0 W1 := by rw [← hW1]; exact (Below.refl _ _).alloc (Nat.le_refl _) _
  have hr0 : W1.heap[w.heap.size + 1]? = some (.cells #[.slice none 0 0, .int .i64 0] 24) := by rw [← hW1, ← hs0]; exact World.alloc_heap_new _ _
  have hs1 : W1.heap.size = w.heap.size + 2 := by rw [← hW1]; simp [hs0]
  have hW := hW1
  rw [← hW0] at hW
  have bw := hb0.trans (hb1.mono hb0.size)
  have HB := hid bw
  have HX := hid ((hb1.block _ (lt_of_some hx0)).trans hx0)
  have HR := hid hr0
  have HV := hid (HVal.below hh0 bw)
  have HS := hid (RSl.below nodeGood hs bw)
  have HP := hid (RSl.below intGood h1 bw)
  have HK := hid hkb
  have HIM := hid him
  have HW := hid hW
  clear him hh0 hs h1 hb0 hx0 hW0 hb1 hr0 hs0 hW1 hW bw hkb
  obtain ⟨q, hq⟩ : ∃ q, q = chkH h := ⟨_, rfl⟩
  have HQ := hid hq
  go_enter Try.func11, Try.ntmps11
  go_upto_region 1 with (fail)
  rw [HW.out]
  clear HW
  have c0 : W1.cell? ⟨w.heap.size, 0, none⟩ = some (.slice sa h.nodes.length sc) := cell_of HX.out
  have c1 : W1.cell? ⟨w.heap.size, 1, none⟩ = some (.int .i64 h.most) := cell_of HX.out
  have PL := hid (rcheck_any W1 _ _ h HV.out)
  rw [← hq] at PL
  clear hq
  go_wp2_with fail
  refine PL.out.mono ?_
  rintro e w2 ⟨rfl, b⟩
  clear PL c0 c1
  replace HB := hid (HB.out.trans (b.mono HB.out.size))
  replace HX := hid ((b.block _ (lt_of_some HX.out)).trans HX.out)
  replace HR := hid ((b.block _ (lt_of_some HR.out)).trans HR.out)
  replace HV := hid (HVal.below HV.out b)
  replace HS := hid (RSl.below nodeGood HS.out b)
  replace HP := hid (RSl.below intGood HP.out b)
  clear b
  have hltR := lt_of_some HR.out
  cases q
  · have c0 : w2.cell? ⟨w.heap.size, 0, none⟩ = some (.slice sa h.nodes.length sc) := cell_of HX.out
    have c1 : w2.cell? ⟨w.heap.size, 1, none⟩ = some (.int .i64 h.most) := cell_of HX.out
    have q0 : w2.cell? ⟨w.heap.size + 1, 0, none⟩ = some (.slice none 0 0) := cell_of HR.out
    have q1 : w2.cell? ⟨w.heap.size + 1, 1, none⟩ = some (.int .i64 0) := cell_of HR.out
    have qf : ∀ i, w2.frozen? ⟨w.heap.size + 1, i, none⟩ = false := fun i => free_of HR.out
    go_wp2_with fail
    have F := heap_set (i := 1) (v := .int .i64 h.most) (heap_set (i := 0) (v := .slice sa h.nodes.length sc) HR.out)
    have t0 := cellAt (i := 0) (v := .slice sa h.nodes.length sc) F rfl
    have t1 := cellAt (i := 1) (v := .int .i64 h.most) F rfl
    exact bodyPost_ret (v := .tuple #[.agg #[.slice sa h.nodes.length sc, .int .i64 h.most], .slice none 0 0, .int .i64 140]) (by simp [results, Try.results11, go_sem, t0, t1]) rfl (by
      have hcn : collH h roots = none := by rw [collH, ← HQ.out]; rfl
      unfold CollPost
      rw [hcn]
      exact ⟨rfl, (HB.out.setCell (p := ⟨w.heap.size + 1, 0, none⟩) (by simp only; omega) _).setCell (p := ⟨w.heap.size + 1, 1, none⟩) (by simp only; omega) _⟩)
  have c0 : w2.cell? ⟨w.heap.size, 0, none⟩ = some (.slice sa h.nodes.length sc) := cell_of HX.out
  have c1 : w2.cell? ⟨w.heap.size, 1, none⟩ = some (.int .i64 h.most) := cell_of HX.out
  have PL := hid (reach_any w2 _ _ (.agg #[.slice sa h.nodes.length sc, .int .i64 h.most]) (.slice aP roots.length cP) h roots HV.out HP.out hn HK.out hrl)
  go_wp2_with fail
  refine PL.out.mono ?_
  intro e w3 hp
  obtain ⟨a, n, c, b, rfl, hy, hno, b1⟩ := hp
  clear PL c0 c1
  replace HB := hid (HB.out.trans (b1.mono HB.out.size))
  replace HX := hid ((b1.block _ (lt_of_some HX.out)).trans HX.out)
  replace HR := hid ((b1.block _ (lt_of_some HR.out)).trans HR.out)
  replace HV := hid (HVal.below HV.out b1)
  replace HS := hid (RSl.below nodeGood HS.out b1)
  replace HP := hid (RSl.below intGood HP.out b1)
  clear b1
  have HY := hid hy
  have HN := hid hno
  clear hy hno
  have hltR3 := lt_of_some HR.out
  cases b
  · have c0 : w3.cell? ⟨w.heap.size, 0, none⟩ = some (.slice sa h.nodes.length sc) := cell_of HX.out
    have c1 : w3.cell? ⟨w.heap.size, 1, none⟩ = some (.int .i64 h.most) := cell_of HX.out
    have q0 : w3.cell? ⟨w.heap.size + 1, 0, none⟩ = some (.slice none 0 0) := cell_of HR.out
    have q1 : w3.cell? ⟨w.heap.size + 1, 1, none⟩ = some (.int .i64 0) := cell_of HR.out
    have qf : ∀ i, w3.frozen? ⟨w.heap.size + 1, i, none⟩ = false := fun i => free_of HR.out
    go_wp2_with fail
    have F := heap_set (i := 1) (v := .int .i64 h.most) (heap_set (i := 0) (v := .slice sa h.nodes.length sc) HR.out)
    have t0 := cellAt (i := 0) (v := .slice sa h.nodes.length sc) F rfl
    have t1 := cellAt (i := 1) (v := .int .i64 h.most) F rfl
    exact bodyPost_ret (v := .tuple #[.agg #[.slice sa h.nodes.length sc, .int .i64 h.most], .slice none 0 0, .int .i64 140]) (by simp [results, Try.results11, go_sem, t0, t1]) rfl (by
      have hcn : collH h roots = none := by rw [collH, ← HQ.out, HN.out (by simp)]; rfl
      unfold CollPost
      rw [hcn]
      exact ⟨rfl, (HB.out.setCell (p := ⟨w.heap.size + 1, 0, none⟩) (by simp only; omega) _).setCell (p := ⟨w.heap.size + 1, 1, none⟩) (by simp only; omega) _⟩)
  obtain ⟨S, hS, rfl, hSI⟩ := HY.out rfl
  have HC := hid hS
  have HSI := hid hSI
  clear HY HN hS hSI
  have hfit := (coll_some HC.out).2.1
  have hSl : S.length ≤ 1000 := by have := fit_len hfit; omega
  have HFIT := hid hfit
  clear hfit
  have HOUT : Hid (collH h roots = some (⟨S.map (moved h.nodes S), h.most⟩, outOf h.nodes S roots)) := by show _ = _; rw [collH, ← HQ.out, HC.out]; rfl
  have HRO : Hid (∀ r ∈ roots, ∃ q, res h.nodes r = some q ∧ q ∈ S) := (coll_some HC.out).2.2.2.1
  have HSH : Hid (Shut h.nodes (· ∈ S)) := coll_shut (coll_some HC.out).2.2.1
  have c0 : w3.cell? ⟨w.heap.size, 0, none⟩ = some (.slice sa h.nodes.length sc) := cell_of HX.out
  have c1 : w3.cell? ⟨w.heap.size, 1, none⟩ = some (.int .i64 h.most) := cell_of HX.out
  go_upto_region 8 with (fail)
  clear c0 c1
  obtain ⟨w4, hw4⟩ : ∃ z, w3.alloc (.cells #[.slice none 0 0, .int .i64 h.most] 24) = z := ⟨_, rfl⟩
  have b34 : Below w3.heap.size w3 w4 := by rw [← hw4]; exact (Below.refl _ _).alloc (Nat.le_refl _) _
  have H4 : Hid (w4.heap[w3.heap.size]? = some (.cells #[.slice none 0 0, .int .i64 h.most] 24)) := by show _ = _; rw [← hw4]; exact World.alloc_heap_new _ _
  rw [hw4]
  have HB4 := hid b34
  obtain ⟨OB, hOB⟩ : ∃ z, w3.heap.size = z := ⟨_, rfl⟩
  rw [hOB] at H4 hltR3 ⊢
  clear hw4 b34
  have hOW : w.heap.size + 2 ≤ OB := by omega
  go_upto_region 9 with (fail)
  go_loopw [11] (fun i wr => ∃ (k : Nat) (oa : Option Addr) (oc : Nat), k ≤ S.length ∧ i = .int .i64 k ∧ Hid (wr.heap[OB]? = some (.cells #[.slice oa k oc, .int .i64 h.most] 24)) ∧ Hid (OSl NodeE 4 37 (OB + 1) wr (fun b => OB + 1 ≤ b) (.slice oa k oc) ((S.take k).map (moved h.nodes S))) ∧ Hid (Below w3.heap.size w3 wr)) (fun i _ => S.length - (intOf i).toNat)
  case atStart => exact ⟨0, none, 0, Nat.zero_le _, rfl, H4, OSl.nil _ _ _ _ _ _, HB4⟩
  case round =>
    obtain ⟨k, oa, oc, hk, rfl, H5, HO, HB5⟩ := hrel
    clear H4 HB4
    have hs3 := HB5.out.size
    by_cases hlt : k < S.length
    · obtain ⟨q, hq⟩ : ∃ q, S[k]? = some q := ⟨_, List.getElem?_eq_getElem (by omega)⟩
      obtain ⟨_, hq0, hq1, _, _, hq2⟩ := res_some (HFIT.out.2 q (List.mem_of_getElem? hq))
      obtain ⟨qn, rfl⟩ : ∃ qn : Nat, q = qn := ⟨q.toNat, by omega⟩
      have hqn : qn < h.nodes.length := by omega
      have HQQ := hid hq
      have HQ2 := hid hq2
      clear hq hq0 hq1 hq2
      go_upto_region 11 with (fail)
      obtain ⟨w5, hw5⟩ : ∃ z, wr.drew = z := ⟨_, rfl⟩
      have bd : Below wr.heap.size wr w5 := by rw [← hw5]; exact (Below.refl _ _).drew
      have H5b := hid ((bd.block _ (lt_of_some H5.out)).trans H5.out)
      have HO5 := hid (HO.out.below nodeGood bd)
      replace HB5 := hid (HB5.out.trans (bd.mono hs3))
      clear bd H5 HO
      have BX := (HB5.out.block _ (lt_of_some HX.out)).trans HX.out
      have C0 : Hid (w5.cell? ⟨w.heap.size, 0, none⟩ = some (.slice sa h.nodes.length sc)) := cell_of BX
      have C1 : Hid (w5.cell? ⟨w.heap.size, 1, none⟩ = some (.int .i64 h.most)) := cell_of BX
      obtain ⟨bN, oN, cN, x, ka, kc, hvN, hx, hx1, hx2, hki, e0, e1, e2, e3⟩ := NSl.at HS.out HB5.out hqn
      cases hvN
      obtain ⟨bS, oS, cS, q', hvS, hqq, _, eS⟩ := ISl.at HSI.out HB5.out (k := k) hlt
      cases hvS
      obtain rfl : q' = qn := by have h := HQQ.out; rw [hqq] at h; cases h; rfl
      have hxn : x = nodeAt h.nodes qn := by have h := HQ2.out; simp only [Int.toNat_natCast] at h; rw [hx] at h; cases h; rfl
      have HXN := hid hxn
      have E0 := hid e0
      have E1 := hid e1
      have E2 := hid e2
      have E3 := hid e3
      have LC := hid eS
      have KI := hid hki
      have hxk : x.kids.length ≤ 1000 := HK.out x (List.mem_of_getElem? hx)
      have HIN := hid (And.intro hx1 hx2)
      have hlt5 := lt_of_some H5b.out
      clear BX hx hki e0 e1 e2 e3 hqq eS hxn hx1 hx2
      refine (wpIn_wide (n := 9)).1 ?_
      refine wpIn_region_held (fun W => Below w5.heap.size w5 W) (by kernel_rfl) ?_
      rw [hw5]
      clear hw5
      refine wpAnyHF_takeD (i := 0) 36 (v := .pointer (some ⟨w.heap.size, 0, none⟩)) rfl rfl rfl (by kernel_rfl) (by kernel_rfl) (by kernel_rfl) (fun _ _ _ h => h) ⟨.inl ⟨rfl, fun W hW => by simp [execOp, go_sem]⟩, fun W => rfl⟩ (Below.refl _ _) ?_
      refine wpAnyHF_takeD (i := 1) 37 (v := .slice (some ⟨bN, oN, none⟩) h.nodes.length sc) rfl rfl rfl (by kernel_rfl) (by kernel_rfl) (by kernel_rfl) (fun _ _ _ h => h) ⟨.inl ⟨rfl, fun W hW => by have m0 := later_cell hW C0.out; simp [execOp, go_sem, m0]⟩, fun W => rfl⟩ (Below.refl _ _) ?_
      refine wpAnyHF_takeD (i := 2) 38 (v := .slice (some ⟨bS, oS, none⟩) S.length c) rfl rfl rfl (by kernel_rfl) (by kernel_rfl) (by kernel_rfl) (fun _ _ _ h => h) ⟨.inl ⟨rfl, fun W hW => by simp [execOp, go_sem]⟩, fun W => rfl⟩ (Below.refl _ _) ?_
      simp only [Act.put, List.setIfInBounds_toArray, List.set_cons_zero, List.set_cons_succ]
      refine wpAnyHF_takeD (i := 3) 39 (v := .int .i64 k) rfl rfl rfl (by kernel_rfl) (by kernel_rfl) (by kernel_rfl) (fun _ _ _ h => h) ⟨.inl ⟨rfl, fun W hW => by simp [execOp, go_sem]⟩, fun W => rfl⟩ (Below.refl _ _) ?_
      refine wpAnyHF_takeD (i := 4) 40 (v := .pointer (some ⟨bS, oS + k, none⟩)) rfl rfl rfl (by kernel_rfl) (by kernel_rfl) (by kernel_rfl) (fun _ _ _ h => h) ⟨.inl ⟨rfl, fun W hW => by simp [execOp, go_sem, hlt]⟩, fun W => rfl⟩ (Below.refl _ _) ?_
      refine wpAnyHF_takeD (i := 5) 41 (v := .int .i64 qn) rfl rfl rfl (by kernel_rfl) (by kernel_rfl) (by kernel_rfl) (fun _ _ _ h => h) ⟨.inl ⟨rfl, fun W hW => by have m0 := later_cell hW LC.out; simp [execOp, go_sem, m0]⟩, fun W => rfl⟩ (Below.refl _ _) ?_
      simp only [Act.put, List.setIfInBounds_toArray, List.set_cons_zero, List.set_cons_succ]
      refine wpAnyHF_takeD (i := 6) 42 (v := .pointer (some ⟨bN, oN + qn * 4, none⟩)) rfl rfl rfl (by kernel_rfl) (by kernel_rfl) (by kernel_rfl) (fun _ _ _ h => h) ⟨.inl ⟨rfl, fun W hW => by simp [execOp, go_sem, hqn]⟩, fun W => rfl⟩ (Below.refl _ _) ?_
      refine wpAnyHF_takeD (i := 7) 43 (v := .agg #[.int .i64 x.kind, .int .i64 x.num, .string x.name, .slice ka x.kids.length kc]) rfl rfl rfl (by kernel_rfl) (by kernel_rfl) (by kernel_rfl) (fun _ _ _ h => h) ⟨.inl ⟨rfl, fun W hW => by have m0 := later_cell hW E0.out; have m1 := later_cell hW E1.out; have m2 := later_cell hW E2.out; have m3 := later_cell hW E3.out; simp [execOp, go_sem, m0, m1, m2, m3]⟩, fun W => rfl⟩ (Below.refl _ _) ?_
      simp only [Act.put, List.setIfInBounds_toArray, List.set_cons_zero, List.set_cons_succ]
      refine wpAnyHF_one (i := 8) (by kernel_rfl) rfl rfl ?_
      obtain ⟨wz, hwz⟩ : ∃ z, w5.alloc (.cells #[.int .i64 0, .int .i64 0, .string ⟨#[]⟩, .slice none 0 0] 37) = z := ⟨_, rfl⟩
      have bz : Below w5.heap.size w5 wz := by rw [← hwz]; exact (Below.refl _ _).alloc (Nat.le_refl _) _
      have hZ : wz.heap[w5.heap.size]? = some (.cells #[.int .i64 0, .int .i64 0, .string ⟨#[]⟩, .slice none 0 0] 37) := by rw [← hwz]; exact World.alloc_heap_new _ _
      refine wpIn_valueD 12 rfl (w' := wz) (v := .pointer (some ⟨w5.heap.size, 0, none⟩)) (by rw [← hwz]; simp [execOp, go_sem]) ⟨bz, ?_⟩
      simp only [Act.put, List.setIfInBounds_toArray, List.set_cons_zero, List.set_cons_succ]
      have HO50 := HO5
      obtain ⟨NB, hNB⟩ : ∃ z, w5.heap.size = z := ⟨_, rfl⟩
      rw [hNB] at hZ ⊢
      have z0 : wz.cell? ⟨NB, 0, none⟩ = some (.int .i64 0) := cell_of hZ
      have z1 : wz.cell? ⟨NB, 1, none⟩ = some (.int .i64 0) := cell_of hZ
      have z2 : wz.cell? ⟨NB, 2, none⟩ = some (.string ⟨#[]⟩) := cell_of hZ
      have z3 : wz.cell? ⟨NB, 3, none⟩ = some (.slice none 0 0) := cell_of hZ
      have zf : ∀ i, wz.frozen? ⟨NB, i, none⟩ = false := fun i => free_of hZ
      have ZB := zero_box hZ (Nat.le_of_eq hNB) bz x.kind x.num x.name (.slice ka x.kids.length kc)
      obtain ⟨wf, hwf⟩ : ∃ z, (((wz.setCell ⟨NB, 0, none⟩ (.int .i64 x.kind)).setCell ⟨NB, 1, none⟩ (.int .i64 x.num)).setCell ⟨NB, 2, none⟩ (.string x.name)).setCell ⟨NB, 3, none⟩ (.slice ka x.kids.length kc) = z := ⟨_, rfl⟩
      rw [hwf] at ZB
      refine wpAnyHF_one (i := 9) (by kernel_rfl) rfl rfl ?_
      refine wpIn_skip rfl (w' := wf) (by rw [← hwf]; simp [execOp, go_sem, z0, z1, z2, z3, zf]) ⟨by rw [← hNB]; exact ZB.2, ?_⟩
      refine wpAnyHF_done (by kernel_rfl) ?_ _
      have hlNB : OB < NB := by omega
      clear z0 z1 z2 z3 zf hwf bz hZ hwz C0 C1 E0 E1 E2 E3 LC
      have HZB := hid ZB
      clear ZB
      gi_wp2
      go_upto_region 12 with (fail)
      obtain ⟨w6, hw6⟩ : ∃ z, wf.drew = z := ⟨_, rfl⟩
      have bd : Below wf.heap.size wf w6 := by rw [← hw6]; exact (Below.refl _ _).drew
      have b56 : Below w5.heap.size w5 w6 := HZB.out.2.trans (bd.mono HZB.out.2.size)
      have HNB : Hid (w6.heap[NB]? = some (.cells #[.int .i64 x.kind, .int .i64 x.num, .string x.name, .slice ka x.kids.length kc] 37)) := (bd.block _ (lt_of_some HZB.out.1)).trans HZB.out.1
      have hs5 := HB5.out.size
      replace H5b := hid ((b56.block _ hlt5).trans H5b.out)
      replace HO5 := hid (HO5.out.below nodeGood b56)
      replace HB5 := hid (HB5.out.trans (b56.mono hs5))
      replace KI := hid (RSl.below intGood KI.out b56)
      have BX := (HB5.out.block _ (lt_of_some HX.out)).trans HX.out
      have C0 : Hid (w6.cell? ⟨w.heap.size, 0, none⟩ = some (.slice (some ⟨bN, oN, none⟩) h.nodes.length sc)) := cell_of BX
      have C1 : Hid (w6.cell? ⟨w.heap.size, 1, none⟩ = some (.int .i64 h.most)) := cell_of BX
      have HV6 := hid (HVal.below HV.out HB5.out)
      have HS6 := hid (RSl.below intGood HSI.out HB5.out)
      have hl6 := lt_of_some H5b.out
      have hs6 := HB5.out.size
      have q6 : Hid (w6.cell? ⟨OB, 0, none⟩ = some (.slice oa k oc)) := cell_of H5b.out
      clear BX bd b56
      refine (wpIn_wide (n := 9)).1 ?_
      refine wpIn_region_held (fun W => Below w3.heap.size w6 W ∧ W.heap[NB]? = some (.cells #[.int .i64 x.kind, .int .i64 x.num, .string x.name, .slice ka x.kids.length kc] 37)) (by kernel_rfl) ?_
      rw [hw6]
      clear hw6
      have hNB6 := lt_of_some HNB.out
      refine wpAnyHF_takeD (i := 0) 44 (v := .pointer (some ⟨OB, 0, none⟩)) rfl rfl rfl (by kernel_rfl) (by kernel_rfl) (by kernel_rfl) (fun _ _ _ h => h) ⟨.inl ⟨rfl, fun W hW => by simp [execOp, go_sem]⟩, fun W => rfl⟩ ⟨Below.refl _ _, HNB.out⟩ ?_
      refine wpAnyHF_takeD (i := 2) 46 (v := .pointer (some ⟨NB, 0, none⟩)) rfl rfl rfl (by kernel_rfl) (by kernel_rfl) (by kernel_rfl) (fun _ _ _ h => h) ⟨.inl ⟨rfl, fun W hW => by simp [execOp, go_sem]⟩, fun W => rfl⟩ ⟨Below.refl _ _, HNB.out⟩ ?_
      refine wpAnyHF_takeD (i := 3) 47 (v := .int .i64 x.kind) rfl rfl rfl (by kernel_rfl) (by kernel_rfl) (by kernel_rfl) (fun _ _ _ h => h) ⟨.inl ⟨rfl, fun W hW => by have m0 := cellAt (i := 0) (v := .int .i64 x.kind) hW.2 rfl; simp [execOp, go_sem, m0]⟩, fun W => rfl⟩ ⟨Below.refl _ _, HNB.out⟩ ?_
      simp only [Act.put, List.setIfInBounds_toArray, List.set_cons_zero, List.set_cons_succ]
      refine wpAnyHF_takeD (i := 4) 48 (v := .pointer (some ⟨NB, 1, none⟩)) rfl rfl rfl (by kernel_rfl) (by kernel_rfl) (by kernel_rfl) (fun _ _ _ h => h) ⟨.inl ⟨rfl, fun W hW => by simp [execOp, go_sem]⟩, fun W => rfl⟩ ⟨Below.refl _ _, HNB.out⟩ ?_
      refine wpAnyHF_takeD (i := 5) 49 (v := .int .i64 x.num) rfl rfl rfl (by kernel_rfl) (by kernel_rfl) (by kernel_rfl) (fun _ _ _ h => h) ⟨.inl ⟨rfl, fun W hW => by have m0 := cellAt (i := 1) (v := .int .i64 x.num) hW.2 rfl; simp [execOp, go_sem, m0]⟩, fun W => rfl⟩ ⟨Below.refl _ _, HNB.out⟩ ?_
      refine wpAnyHF_takeD (i := 6) 50 (v := .pointer (some ⟨NB, 2, none⟩)) rfl rfl rfl (by kernel_rfl) (by kernel_rfl) (by kernel_rfl) (fun _ _ _ h => h) ⟨.inl ⟨rfl, fun W hW => by simp [execOp, go_sem]⟩, fun W => rfl⟩ ⟨Below.refl _ _, HNB.out⟩ ?_
      simp only [Act.put, List.setIfInBounds_toArray, List.set_cons_zero, List.set_cons_succ]
      refine wpAnyHF_takeD (i := 7) 51 (v := .string x.name) rfl rfl rfl (by kernel_rfl) (by kernel_rfl) (by kernel_rfl) (fun _ _ _ h => h) ⟨.inl ⟨rfl, fun W hW => by have m0 := cellAt (i := 2) (v := .string x.name) hW.2 rfl; simp [execOp, go_sem, m0]⟩, fun W => rfl⟩ ⟨Below.refl _ _, HNB.out⟩ ?_
      refine wpAnyHF_takeD (i := 8) 52 (v := .agg #[.slice (some ⟨bN, oN, none⟩) h.nodes.length sc, .int .i64 h.most]) rfl rfl rfl (by kernel_rfl) (by kernel_rfl) (by kernel_rfl) (fun _ _ _ h => h) ⟨.inl ⟨rfl, fun W hW => by have m0 := later_low hW.1 (show w.heap.size < w3.heap.size by omega) C0.out; have m1 := later_low hW.1 (show w.heap.size < w3.heap.size by omega) C1.out; simp [execOp, go_sem, m0, m1]⟩, fun W => rfl⟩ ⟨Below.refl _ _, HNB.out⟩ ?_
      refine wpAnyHF_takeD (i := 9) 53 (v := .slice (some ⟨bS, oS, none⟩) S.length c) rfl rfl rfl (by kernel_rfl) (by kernel_rfl) (by kernel_rfl) (fun _ _ _ h => h) ⟨.inl ⟨rfl, fun W hW => by simp [execOp, go_sem]⟩, fun W => rfl⟩ ⟨Below.refl _ _, HNB.out⟩ ?_
      simp only [Act.put, List.setIfInBounds_toArray, List.set_cons_zero, List.set_cons_succ]
      refine wpAnyHF_takeD (i := 10) 54 (v := .pointer (some ⟨NB, 3, none⟩)) rfl rfl rfl (by kernel_rfl) (by kernel_rfl) (by kernel_rfl) (fun _ _ _ h => h) ⟨.inl ⟨rfl, fun W hW => by simp [execOp, go_sem]⟩, fun W => rfl⟩ ⟨Below.refl _ _, HNB.out⟩ ?_
      refine wpAnyHF_takeD (i := 11) 55 (v := .slice ka x.kids.length kc) rfl rfl rfl (by kernel_rfl) (by kernel_rfl) (by kernel_rfl) (fun _ _ _ h => h) ⟨.inl ⟨rfl, fun W hW => by have m0 := cellAt (i := 3) (v := .slice ka x.kids.length kc) hW.2 rfl; simp [execOp, go_sem, m0]⟩, fun W => rfl⟩ ⟨Below.refl _ _, HNB.out⟩ ?_
      simp only [Act.put, List.setIfInBounds_toArray, List.set_cons_zero, List.set_cons_succ]
      have HNBO : ∀ b, (Value.slice oa k oc).ownBlock = some b → b ≠ NB := fun b e e2 => by
        obtain ⟨_, c', hc'⟩ := HO50.out.lt b e
        have := lt_of_some hc'; omega
      refine wpAnyHF_two (i := 1) (j := 12) (by kernel_rfl) rfl rfl rfl rfl ?_ ?_
      · have q : w6.cell? ⟨OB, 0, none⟩ = some (.slice oa k oc) := q6.out
        refine wpIn_valueD 45 rfl (w' := w6) (v := .slice oa k oc) (by simp [execOp, go_sem, q]) ⟨⟨Below.refl _ _, HNB.out⟩, ?_⟩
        clear q
        simp only [Act.put, List.setIfInBounds_toArray, List.set_cons_zero, List.set_cons_succ]
        refine wpAnyHF_one (i := 12) (by kernel_rfl) rfl rfl ?_
        refine wpIn_callD 56 rfl (P := Try.prog) (f := 21) (args := #[.agg #[.slice (some ⟨bN, oN, none⟩) h.nodes.length sc, .int .i64 h.most], .slice (some ⟨bS, oS, none⟩) S.length c, .slice ka x.kids.length kc]) (by simp [execOp, resolve, invoke, go_sem]) ?_
        refine (rmoved_any w6 _ _ _ (.agg #[.slice (some ⟨bN, oN, none⟩) h.nodes.length sc, .int .i64 h.most]) (.slice (some ⟨bS, oS, none⟩) S.length c) (.slice ka x.kids.length kc) h S x.kids HV6.out HS6.out KI.out hn hSl hxk).mono ?_
        rintro e w7 ⟨ma, mc, rfl, hmi, by7⟩
        have hN7 := (by7.block _ hNB6).trans HNB.out
        have b7 : Below w3.heap.size w6 w7 := by7.mono hs6
        refine ⟨_, rfl, ⟨b7, hN7⟩, ?_⟩
        simp only [Act.put, List.setIfInBounds_toArray, List.set_cons_zero, List.set_cons_succ]
        refine wpAnyHF_takeD (i := 13) 57 (v := .agg #[.int .i64 x.kind, .int .i64 x.num, .string x.name, .slice ma x.kids.length mc]) rfl rfl rfl (by kernel_rfl) (by kernel_rfl) (by kernel_rfl) (fun _ _ _ h => h) ⟨.inl ⟨rfl, fun W hW => by simp [execOp, go_sem]⟩, fun W => rfl⟩ ⟨b7, hN7⟩ ?_
        simp only [Act.put, List.setIfInBounds_toArray, List.set_cons_zero, List.set_cons_succ]
        refine wpAnyHF_one (i := 14) (by kernel_rfl) rfl rfl ?_
        obtain ⟨w8, hw8⟩ : ∃ z, w7.alloc (.cells #[.int .i64 x.kind, .int .i64 x.num, .string x.name, .slice ma x.kids.length mc] 37) = z := ⟨_, rfl⟩
        have b8' : Below w7.heap.size w7 w8 := by rw [← hw8]; exact (Below.refl _ _).alloc (Nat.le_refl _) _
        have h8 : w8.heap[w7.heap.size]? = some (.cells #[.int .i64 x.kind, .int .i64 x.num, .string x.name, .slice ma x.kids.length mc] 37) := by rw [← hw8]; exact World.alloc_heap_new _ _
        have hs7 := by7.size
        have b8 : Below w3.heap.size w6 w8 := b7.trans (b8'.mono (by omega))
        have hN8 := (b8'.block _ (lt_of_some hN7)).trans hN7
        refine wpIn_valueD 58 rfl (w' := w8) (v := .slice (some ⟨w7.heap.size, 0, none⟩) 1 1) (by rw [← hw8]; simp [execOp, go_sem]) ⟨⟨b8, hN8⟩, ?_⟩
        simp only [Act.put, List.setIfInBounds_toArray, List.set_cons_zero, List.set_cons_succ]
        have hO7 := HO5.out.below nodeGood by7
        have hO8 := hO7.below nodeGood b8'
        have hs8 := b8'.size
        have hrow : Rows NodeE w8 (fun b => OB + 1 ≤ b ∧ some b ≠ (Value.slice oa k oc).ownBlock) [moved h.nodes S qn] [[.int .i64 x.kind, .int .i64 x.num, .string x.name, .slice ma x.kids.length mc]] := Rows.one (by
          have hmk : mvd h.nodes S x.kids = (moved h.nodes S qn).kids := by
            rw [HXN.out]; exact mvd_out (HSH.out qn (List.mem_of_getElem? HQQ.out))
          have hi := (RSl.below intGood hmi b8').weak intGood (by decide) (ok' := fun b => OB + 1 ≤ b ∧ some b ≠ (Value.slice oa k oc).ownBlock) (fun b _ hb => ⟨by omega, fun e => by
            obtain ⟨_, c, hc⟩ := HO5.out.lt b e.symm
            have := lt_of_some hc; omega⟩)
          rw [hmk] at hi
          refine ⟨.slice ma x.kids.length mc, by rw [HXN.out]; rfl, by rw [show (moved h.nodes S qn).kind = x.kind by rw [HXN.out]; rfl]; exact HIN.out.1, by rw [show (moved h.nodes S qn).num = x.num by rw [HXN.out]; rfl]; exact HIN.out.2, hi⟩)
        obtain ⟨v2, w9, hrun, hO9, hg, _, _⟩ := hO8.append (P := Try.prog) nodeGood (by decide) 22 22 (.agg #[.int .i64 0, .int .i64 0, .string ⟨#[]⟩, .slice none 0 0]) 56 Try.underlying22 info_nd rfl ⟨w7.heap.size, 0, none⟩ 1 [moved h.nodes S qn] _ hrow (fun j u hj => by rw [addr_add, Nat.zero_add, cell_of h8]; simpa using hj) (by simp [Value.oneCell']) (by simp [maxLen]; omega) (by simp; omega) (by omega)
        rw [← moved_snoc HQQ.out] at hO9
        obtain ⟨a9, c9, rfl⟩ := hO9.shape2
        have hl9 : ((S.take (k + 1)).map (moved h.nodes S)).length = k + 1 := by simp; omega
        have hl8 : ((S.take k).map (moved h.nodes S)).length = k := by simp; omega
        rw [hl9] at hrun hO9
        have hown : ∀ b, (Value.slice oa k oc).ownBlock = some b → OB + 1 ≤ b ∧ b ≠ NB := fun b e => by
          obtain ⟨h1, c', hc'⟩ := HO5.out.lt b e
          exact ⟨h1, fun e2 => HNBO b e e2⟩
        have b9 : Below w3.heap.size w6 w9 := b8.grown hg (by omega) (fun r hr => by have := (hown r hr).1; omega)
        have hN9 := (hg.block _ (lt_of_some hN8) (fun e => (hown _ e.symm).2 rfl)).trans hN8
        have h59 : w9.heap[OB]? = some (.cells #[.slice oa k oc, .int .i64 h.most] 24) := (hg.block _ (by omega) (fun e => by have := (hown _ e.symm).1; omega)).trans ((b8'.block _ (by omega)).trans ((by7.block _ hl6).trans H5b.out))
        refine wpAnyHF_one (i := 15) (by kernel_rfl) rfl rfl ?_
        refine wpIn_valueD 59 rfl (w' := w9) (v := .slice a9 (k + 1) c9) (run_append_op (.tmp 45) (.tmp 58) 22 rfl rfl (v := .slice oa k oc) (xv := .slice (some ⟨w7.heap.size, 0, none⟩) 1 1) (by simp [go_sem]) (by simp [go_sem]) hrun) ⟨⟨b9, hN9⟩, ?_⟩
        simp only [Act.put, List.setIfInBounds_toArray, List.set_cons_zero, List.set_cons_succ]
        refine wpAnyHF_takeD (i := 16) 60 (v := .pointer (some ⟨OB, 0, none⟩)) rfl rfl rfl (by kernel_rfl) (by kernel_rfl) (by kernel_rfl) (fun _ _ _ h => h) ⟨.inl ⟨rfl, fun W hW => by simp [execOp, go_sem]⟩, fun W => rfl⟩ ⟨b9, hN9⟩ ?_
        simp only [Act.put, List.setIfInBounds_toArray, List.set_cons_zero, List.set_cons_succ]
        have q9 : w9.cell? ⟨OB, 0, none⟩ = some (.slice oa k oc) := cell_of h59
        have f9 : ∀ i, w9.frozen? ⟨OB, i, none⟩ = false := fun i => free_of h59
        obtain ⟨wx, hwx⟩ : ∃ z, w9.setCell ⟨OB, 0, none⟩ (.slice a9 (k + 1) c9) = z := ⟨_, rfl⟩
        have bx : Below w3.heap.size w6 wx := by rw [← hwx]; exact b9.setCell (p := ⟨OB, 0, none⟩) (by simp only; omega) _
        have hNx : wx.heap[NB]? = some (.cells #[.int .i64 x.kind, .int .i64 x.num, .string x.name, .slice ka x.kids.length kc] 37) := by rw [← hwx]; exact heap_far hN9 (show NB ≠ OB by omega)
        have H5x : Hid (wx.heap[OB]? = some (.cells #[.slice a9 (k + 1) c9, .int .i64 h.most] 24)) := by show _ = _; rw [← hwx]; exact heap_set (i := 0) h59
        have HOx : Hid (OSl NodeE 4 37 (OB + 1) wx (fun b => OB + 1 ≤ b) (.slice a9 (k + 1) c9) ((S.take (k + 1)).map (moved h.nodes S))) := by show OSl _ _ _ _ _ _ _ _; rw [← hwx]; exact hO9.keep nodeGood ((Same.refl _ _).setCell (a := ⟨OB, 0, none⟩) _ (fun h => by
          rcases h with h | h
          · simp only at h; omega
          · have h1 := (hO9.lt _ h.symm).1; simp only at h1; omega))
        refine wpAnyHF_one (i := 17) (by kernel_rfl) rfl rfl ?_
        refine wpIn_skip rfl (w' := wx) (by rw [← hwx]; simp [execOp, go_sem, q9, f9]) ⟨⟨bx, hNx⟩, ?_⟩
        refine wpAnyHF_done (by kernel_rfl) ?_ _
        have HBx := hid (HB5.out.trans bx)
        clear q9 f9 hwx hNx h59 hN9 b9 hg hO9 hrun hO8 hO7 h8 b8 b8' hN8 hN7 b7 by7 hmi hrow bx
        gi_wp2
        go_wp2_with fail
        go_roundw
        case rel => exact ⟨k + 1, a9, c9, by omega, by go_num, H5x, HOx, HBx⟩
        case measure => simp [intOf]; omega
      · refine wpIn_callD 56 rfl (P := Try.prog) (f := 21) (args := #[.agg #[.slice (some ⟨bN, oN, none⟩) h.nodes.length sc, .int .i64 h.most], .slice (some ⟨bS, oS, none⟩) S.length c, .slice ka x.kids.length kc]) (by simp [execOp, resolve, invoke, go_sem]) ?_
        refine (rmoved_any w6 _ _ _ (.agg #[.slice (some ⟨bN, oN, none⟩) h.nodes.length sc, .int .i64 h.most]) (.slice (some ⟨bS, oS, none⟩) S.length c) (.slice ka x.kids.length kc) h S x.kids HV6.out HS6.out KI.out hn hSl hxk).mono ?_
        rintro e w7 ⟨ma, mc, rfl, hmi, by7⟩
        have hN7 := (by7.block _ hNB6).trans HNB.out
        have b7 : Below w3.heap.size w6 w7 := by7.mono hs6
        refine ⟨_, rfl, ⟨b7, hN7⟩, ?_⟩
        simp only [Act.put, List.setIfInBounds_toArray, List.set_cons_zero, List.set_cons_succ]
        refine wpAnyHF_takeD (i := 13) 57 (v := .agg #[.int .i64 x.kind, .int .i64 x.num, .string x.name, .slice ma x.kids.length mc]) rfl rfl rfl (by kernel_rfl) (by kernel_rfl) (by kernel_rfl) (fun _ _ _ h => h) ⟨.inl ⟨rfl, fun W hW => by simp [execOp, go_sem]⟩, fun W => rfl⟩ ⟨b7, hN7⟩ ?_
        simp only [Act.put, List.setIfInBounds_toArray, List.set_cons_zero, List.set_cons_succ]
        refine wpAnyHF_two (i := 1) (j := 14) (by kernel_rfl) rfl rfl rfl rfl ?_ ?_
        · have q : w7.cell? ⟨OB, 0, none⟩ = some (.slice oa k oc) := later_cell by7 q6.out
          refine wpIn_valueD 45 rfl (w' := w7) (v := .slice oa k oc) (by simp [execOp, go_sem, q]) ⟨⟨b7, hN7⟩, ?_⟩
          clear q
          simp only [Act.put, List.setIfInBounds_toArray, List.set_cons_zero, List.set_cons_succ]
          refine wpAnyHF_one (i := 14) (by kernel_rfl) rfl rfl ?_
          obtain ⟨w8, hw8⟩ : ∃ z, w7.alloc (.cells #[.int .i64 x.kind, .int .i64 x.num, .string x.name, .slice ma x.kids.length mc] 37) = z := ⟨_, rfl⟩
          have b8' : Below w7.heap.size w7 w8 := by rw [← hw8]; exact (Below.refl _ _).alloc (Nat.le_refl _) _
          have h8 : w8.heap[w7.heap.size]? = some (.cells #[.int .i64 x.kind, .int .i64 x.num, .string x.name, .slice ma x.kids.length mc] 37) := by rw [← hw8]; exact World.alloc_heap_new _ _
          have hs7 := by7.size
          have b8 : Below w3.heap.size w6 w8 := b7.trans (b8'.mono (by omega))
          have hN8 := (b8'.block _ (lt_of_some hN7)).trans hN7
          refine wpIn_valueD 58 rfl (w' := w8) (v := .slice (some ⟨w7.heap.size, 0, none⟩) 1 1) (by rw [← hw8]; simp [execOp, go_sem]) ⟨⟨b8, hN8⟩, ?_⟩
          simp only [Act.put, List.setIfInBounds_toArray, List.set_cons_zero, List.set_cons_succ]
          have hO7 := HO5.out.below nodeGood by7
          have hO8 := hO7.below nodeGood b8'
          have hs8 := b8'.size
          have hrow : Rows NodeE w8 (fun b => OB + 1 ≤ b ∧ some b ≠ (Value.slice oa k oc).ownBlock) [moved h.nodes S qn] [[.int .i64 x.kind, .int .i64 x.num, .string x.name, .slice ma x.kids.length mc]] := Rows.one (by
            have hmk : mvd h.nodes S x.kids = (moved h.nodes S qn).kids := by
              rw [HXN.out]; exact mvd_out (HSH.out qn (List.mem_of_getElem? HQQ.out))
            have hi := (RSl.below intGood hmi b8').weak intGood (by decide) (ok' := fun b => OB + 1 ≤ b ∧ some b ≠ (Value.slice oa k oc).ownBlock) (fun b _ hb => ⟨by omega, fun e => by
              obtain ⟨_, c, hc⟩ := HO5.out.lt b e.symm
              have := lt_of_some hc; omega⟩)
            rw [hmk] at hi
            refine ⟨.slice ma x.kids.length mc, by rw [HXN.out]; rfl, by rw [show (moved h.nodes S qn).kind = x.kind by rw [HXN.out]; rfl]; exact HIN.out.1, by rw [show (moved h.nodes S qn).num = x.num by rw [HXN.out]; rfl]; exact HIN.out.2, hi⟩)
          obtain ⟨v2, w9, hrun, hO9, hg, _, _⟩ := hO8.append (P := Try.prog) nodeGood (by decide) 22 22 (.agg #[.int .i64 0, .int .i64 0, .string ⟨#[]⟩, .slice none 0 0]) 56 Try.underlying22 info_nd rfl ⟨w7.heap.size, 0, none⟩ 1 [moved h.nodes S qn] _ hrow (fun j u hj => by rw [addr_add, Nat.zero_add, cell_of h8]; simpa using hj) (by simp [Value.oneCell']) (by simp [maxLen]; omega) (by simp; omega) (by omega)
          rw [← moved_snoc HQQ.out] at hO9
          obtain ⟨a9, c9, rfl⟩ := hO9.shape2
          have hl9 : ((S.take (k + 1)).map (moved h.nodes S)).length = k + 1 := by simp; omega
          have hl8 : ((S.take k).map (moved h.nodes S)).length = k := by simp; omega
          rw [hl9] at hrun hO9
          have hown : ∀ b, (Value.slice oa k oc).ownBlock = some b → OB + 1 ≤ b ∧ b ≠ NB := fun b e => by
            obtain ⟨h1, c', hc'⟩ := HO5.out.lt b e
            exact ⟨h1, fun e2 => HNBO b e e2⟩
          have b9 : Below w3.heap.size w6 w9 := b8.grown hg (by omega) (fun r hr => by have := (hown r hr).1; omega)
          have hN9 := (hg.block _ (lt_of_some hN8) (fun e => (hown _ e.symm).2 rfl)).trans hN8
          have h59 : w9.heap[OB]? = some (.cells #[.slice oa k oc, .int .i64 h.most] 24) := (hg.block _ (by omega) (fun e => by have := (hown _ e.symm).1; omega)).trans ((b8'.block _ (by omega)).trans ((by7.block _ hl6).trans H5b.out))
          refine wpAnyHF_one (i := 15) (by kernel_rfl) rfl rfl ?_
          refine wpIn_valueD 59 rfl (w' := w9) (v := .slice a9 (k + 1) c9) (run_append_op (.tmp 45) (.tmp 58) 22 rfl rfl (v := .slice oa k oc) (xv := .slice (some ⟨w7.heap.size, 0, none⟩) 1 1) (by simp [go_sem]) (by simp [go_sem]) hrun) ⟨⟨b9, hN9⟩, ?_⟩
          simp only [Act.put, List.setIfInBounds_toArray, List.set_cons_zero, List.set_cons_succ]
          refine wpAnyHF_takeD (i := 16) 60 (v := .pointer (some ⟨OB, 0, none⟩)) rfl rfl rfl (by kernel_rfl) (by kernel_rfl) (by kernel_rfl) (fun _ _ _ h => h) ⟨.inl ⟨rfl, fun W hW => by simp [execOp, go_sem]⟩, fun W => rfl⟩ ⟨b9, hN9⟩ ?_
          simp only [Act.put, List.setIfInBounds_toArray, List.set_cons_zero, List.set_cons_succ]
          have q9 : w9.cell? ⟨OB, 0, none⟩ = some (.slice oa k oc) := cell_of h59
          have f9 : ∀ i, w9.frozen? ⟨OB, i, none⟩ = false := fun i => free_of h59
          obtain ⟨wx, hwx⟩ : ∃ z, w9.setCell ⟨OB, 0, none⟩ (.slice a9 (k + 1) c9) = z := ⟨_, rfl⟩
          have bx : Below w3.heap.size w6 wx := by rw [← hwx]; exact b9.setCell (p := ⟨OB, 0, none⟩) (by simp only; omega) _
          have hNx : wx.heap[NB]? = some (.cells #[.int .i64 x.kind, .int .i64 x.num, .string x.name, .slice ka x.kids.length kc] 37) := by rw [← hwx]; exact heap_far hN9 (show NB ≠ OB by omega)
          have H5x : Hid (wx.heap[OB]? = some (.cells #[.slice a9 (k + 1) c9, .int .i64 h.most] 24)) := by show _ = _; rw [← hwx]; exact heap_set (i := 0) h59
          have HOx : Hid (OSl NodeE 4 37 (OB + 1) wx (fun b => OB + 1 ≤ b) (.slice a9 (k + 1) c9) ((S.take (k + 1)).map (moved h.nodes S))) := by show OSl _ _ _ _ _ _ _ _; rw [← hwx]; exact hO9.keep nodeGood ((Same.refl _ _).setCell (a := ⟨OB, 0, none⟩) _ (fun h => by
            rcases h with h | h
            · simp only at h; omega
            · have h1 := (hO9.lt _ h.symm).1; simp only at h1; omega))
          refine wpAnyHF_one (i := 17) (by kernel_rfl) rfl rfl ?_
          refine wpIn_skip rfl (w' := wx) (by rw [← hwx]; simp [execOp, go_sem, q9, f9]) ⟨⟨bx, hNx⟩, ?_⟩
          refine wpAnyHF_done (by kernel_rfl) ?_ _
          have HBx := hid (HB5.out.trans bx)
          clear q9 f9 hwx hNx h59 hN9 b9 hg hO9 hrun hO8 hO7 h8 b8 b8' hN8 hN7 b7 by7 hmi hrow bx
          gi_wp2
          go_wp2_with fail
          go_roundw
          case rel => exact ⟨k + 1, a9, c9, by omega, by go_num, H5x, HOx, HBx⟩
          case measure => simp [intOf]; omega
        · obtain ⟨w8, hw8⟩ : ∃ z, w7.alloc (.cells #[.int .i64 x.kind, .int .i64 x.num, .string x.name, .slice ma x.kids.length mc] 37) = z := ⟨_, rfl⟩
          have b8' : Below w7.heap.size w7 w8 := by rw [← hw8]; exact (Below.refl _ _).alloc (Nat.le_refl _) _
          have h8 : w8.heap[w7.heap.size]? = some (.cells #[.int .i64 x.kind, .int .i64 x.num, .string x.name, .slice ma x.kids.length mc] 37) := by rw [← hw8]; exact World.alloc_heap_new _ _
          have hs7 := by7.size
          have b8 : Below w3.heap.size w6 w8 := b7.trans (b8'.mono (by omega))
          have hN8 := (b8'.block _ (lt_of_some hN7)).trans hN7
          refine wpIn_valueD 58 rfl (w' := w8) (v := .slice (some ⟨w7.heap.size, 0, none⟩) 1 1) (by rw [← hw8]; simp [execOp, go_sem]) ⟨⟨b8, hN8⟩, ?_⟩
          simp only [Act.put, List.setIfInBounds_toArray, List.set_cons_zero, List.set_cons_succ]
          refine wpAnyHF_one (i := 1) (by kernel_rfl) rfl rfl ?_
          have q : w8.cell? ⟨OB, 0, none⟩ = some (.slice oa k oc) := later_cell b8' (later_cell by7 q6.out)
          refine wpIn_valueD 45 rfl (w' := w8) (v := .slice oa k oc) (by simp [execOp, go_sem, q]) ⟨⟨b8, hN8⟩, ?_⟩
          clear q
          simp only [Act.put, List.setIfInBounds_toArray, List.set_cons_zero, List.set_cons_succ]
          have hO7 := HO5.out.below nodeGood by7
          have hO8 := hO7.below nodeGood b8'
          have hs8 := b8'.size
          have hrow : Rows NodeE w8 (fun b => OB + 1 ≤ b ∧ some b ≠ (Value.slice oa k oc).ownBlock) [moved h.nodes S qn] [[.int .i64 x.kind, .int .i64 x.num, .string x.name, .slice ma x.kids.length mc]] := Rows.one (by
            have hmk : mvd h.nodes S x.kids = (moved h.nodes S qn).kids := by
              rw [HXN.out]; exact mvd_out (HSH.out qn (List.mem_of_getElem? HQQ.out))
            have hi := (RSl.below intGood hmi b8').weak intGood (by decide) (ok' := fun b => OB + 1 ≤ b ∧ some b ≠ (Value.slice oa k oc).ownBlock) (fun b _ hb => ⟨by omega, fun e => by
              obtain ⟨_, c, hc⟩ := HO5.out.lt b e.symm
              have := lt_of_some hc; omega⟩)
            rw [hmk] at hi
            refine ⟨.slice ma x.kids.length mc, by rw [HXN.out]; rfl, by rw [show (moved h.nodes S qn).kind = x.kind by rw [HXN.out]; rfl]; exact HIN.out.1, by rw [show (moved h.nodes S qn).num = x.num by rw [HXN.out]; rfl]; exact HIN.out.2, hi⟩)
          obtain ⟨v2, w9, hrun, hO9, hg, _, _⟩ := hO8.append (P := Try.prog) nodeGood (by decide) 22 22 (.agg #[.int .i64 0, .int .i64 0, .string ⟨#[]⟩, .slice none 0 0]) 56 Try.underlying22 info_nd rfl ⟨w7.heap.size, 0, none⟩ 1 [moved h.nodes S qn] _ hrow (fun j u hj => by rw [addr_add, Nat.zero_add, cell_of h8]; simpa using hj) (by simp [Value.oneCell']) (by simp [maxLen]; omega) (by simp; omega) (by omega)
          rw [← moved_snoc HQQ.out] at hO9
          obtain ⟨a9, c9, rfl⟩ := hO9.shape2
          have hl9 : ((S.take (k + 1)).map (moved h.nodes S)).length = k + 1 := by simp; omega
          have hl8 : ((S.take k).map (moved h.nodes S)).length = k := by simp; omega
          rw [hl9] at hrun hO9
          have hown : ∀ b, (Value.slice oa k oc).ownBlock = some b → OB + 1 ≤ b ∧ b ≠ NB := fun b e => by
            obtain ⟨h1, c', hc'⟩ := HO5.out.lt b e
            exact ⟨h1, fun e2 => HNBO b e e2⟩
          have b9 : Below w3.heap.size w6 w9 := b8.grown hg (by omega) (fun r hr => by have := (hown r hr).1; omega)
          have hN9 := (hg.block _ (lt_of_some hN8) (fun e => (hown _ e.symm).2 rfl)).trans hN8
          have h59 : w9.heap[OB]? = some (.cells #[.slice oa k oc, .int .i64 h.most] 24) := (hg.block _ (by omega) (fun e => by have := (hown _ e.symm).1; omega)).trans ((b8'.block _ (by omega)).trans ((by7.block _ hl6).trans H5b.out))
          refine wpAnyHF_one (i := 15) (by kernel_rfl) rfl rfl ?_
          refine wpIn_valueD 59 rfl (w' := w9) (v := .slice a9 (k + 1) c9) (run_append_op (.tmp 45) (.tmp 58) 22 rfl rfl (v := .slice oa k oc) (xv := .slice (some ⟨w7.heap.size, 0, none⟩) 1 1) (by simp [go_sem]) (by simp [go_sem]) hrun) ⟨⟨b9, hN9⟩, ?_⟩
          simp only [Act.put, List.setIfInBounds_toArray, List.set_cons_zero, List.set_cons_succ]
          refine wpAnyHF_takeD (i := 16) 60 (v := .pointer (some ⟨OB, 0, none⟩)) rfl rfl rfl (by kernel_rfl) (by kernel_rfl) (by kernel_rfl) (fun _ _ _ h => h) ⟨.inl ⟨rfl, fun W hW => by simp [execOp, go_sem]⟩, fun W => rfl⟩ ⟨b9, hN9⟩ ?_
          simp only [Act.put, List.setIfInBounds_toArray, List.set_cons_zero, List.set_cons_succ]
          have q9 : w9.cell? ⟨OB, 0, none⟩ = some (.slice oa k oc) := cell_of h59
          have f9 : ∀ i, w9.frozen? ⟨OB, i, none⟩ = false := fun i => free_of h59
          obtain ⟨wx, hwx⟩ : ∃ z, w9.setCell ⟨OB, 0, none⟩ (.slice a9 (k + 1) c9) = z := ⟨_, rfl⟩
          have bx : Below w3.heap.size w6 wx := by rw [← hwx]; exact b9.setCell (p := ⟨OB, 0, none⟩) (by simp only; omega) _
          have hNx : wx.heap[NB]? = some (.cells #[.int .i64 x.kind, .int .i64 x.num, .string x.name, .slice ka x.kids.length kc] 37) := by rw [← hwx]; exact heap_far hN9 (show NB ≠ OB by omega)
          have H5x : Hid (wx.heap[OB]? = some (.cells #[.slice a9 (k + 1) c9, .int .i64 h.most] 24)) := by show _ = _; rw [← hwx]; exact heap_set (i := 0) h59
          have HOx : Hid (OSl NodeE 4 37 (OB + 1) wx (fun b => OB + 1 ≤ b) (.slice a9 (k + 1) c9) ((S.take (k + 1)).map (moved h.nodes S))) := by show OSl _ _ _ _ _ _ _ _; rw [← hwx]; exact hO9.keep nodeGood ((Same.refl _ _).setCell (a := ⟨OB, 0, none⟩) _ (fun h => by
            rcases h with h | h
            · simp only at h; omega
            · have h1 := (hO9.lt _ h.symm).1; simp only at h1; omega))
          refine wpAnyHF_one (i := 17) (by kernel_rfl) rfl rfl ?_
          refine wpIn_skip rfl (w' := wx) (by rw [← hwx]; simp [execOp, go_sem, q9, f9]) ⟨⟨bx, hNx⟩, ?_⟩
          refine wpAnyHF_done (by kernel_rfl) ?_ _
          have HBx := hid (HB5.out.trans bx)
          clear q9 f9 hwx hNx h59 hN9 b9 hg hO9 hrun hO8 hO7 h8 b8 b8' hN8 hN7 b7 by7 hmi hrow bx
          gi_wp2
          go_wp2_with fail
          go_roundw
          case rel => exact ⟨k + 1, a9, c9, by omega, by go_num, H5x, HOx, HBx⟩
          case measure => simp [intOf]; omega
    · obtain rfl : k = S.length := by omega
      rw [List.take_length] at HO
      go_upto_region 13 with (fail)
      obtain ⟨w5, hw5⟩ : ∃ z, wr.drew = z := ⟨_, rfl⟩
      have bd : Below wr.heap.size wr w5 := by rw [← hw5]; exact (Below.refl _ _).drew
      replace H5 := hid ((bd.block _ (lt_of_some H5.out)).trans H5.out)
      replace HO := hid (HO.out.below nodeGood bd)
      replace HB5 := hid (HB5.out.trans (bd.mono hs3))
      clear bd
      have BX := (HB5.out.block _ (lt_of_some HX.out)).trans HX.out
      have BR := hid ((HB5.out.block _ (lt_of_some HR.out)).trans HR.out)
      have C0 : Hid (w5.cell? ⟨w.heap.size, 0, none⟩ = some (.slice sa h.nodes.length sc)) := cell_of BX
      have C1 : Hid (w5.cell? ⟨w.heap.size, 1, none⟩ = some (.int .i64 h.most)) := cell_of BX
      have HV5 := hid (HVal.below HV.out HB5.out)
      have HS5 := hid (RSl.below intGood HSI.out HB5.out)
      have HP5 := hid (RSl.below intGood HP.out HB5.out)
      have hl5 := lt_of_some H5.out
      have hs5 := HB5.out.size
      have hBR := lt_of_some BR.out
      clear BX
      refine (wpIn_wide (n := 9)).1 ?_
      refine wpIn_region_held (fun W => Below (w.heap.size + 1) w5 W ∧ W.heap[OB]? = some (.cells #[.slice oa S.length oc, .int .i64 h.most] 24)) (by kernel_rfl) ?_
      rw [hw5]
      clear hw5
      refine wpAnyHF_takeD (i := 0) 61 (v := .agg #[.slice oa S.length oc, .int .i64 h.most]) rfl rfl rfl (by kernel_rfl) (by kernel_rfl) (by kernel_rfl) (fun _ _ _ h => h) ⟨.inl ⟨rfl, fun W hW => by have m0 := cellAt (i := 0) (v := .slice oa S.length oc) hW.2 rfl; have m1 := cellAt (i := 1) (v := .int .i64 h.most) hW.2 rfl; simp [execOp, go_sem, m0, m1]⟩, fun W => rfl⟩ ⟨Below.refl _ _, H5.out⟩ ?_
      refine wpAnyHF_takeD (i := 1) 62 (v := .agg #[.slice sa h.nodes.length sc, .int .i64 h.most]) rfl rfl rfl (by kernel_rfl) (by kernel_rfl) (by kernel_rfl) (fun _ _ _ h => h) ⟨.inl ⟨rfl, fun W hW => by have m0 := later_low hW.1 (show w.heap.size < w.heap.size + 1 by omega) C0.out; have m1 := later_low hW.1 (show w.heap.size < w.heap.size + 1 by omega) C1.out; simp [execOp, go_sem, m0, m1]⟩, fun W => rfl⟩ ⟨Below.refl _ _, H5.out⟩ ?_
      refine wpAnyHF_takeD (i := 2) 63 (v := .slice a S.length c) rfl rfl rfl (by kernel_rfl) (by kernel_rfl) (by kernel_rfl) (fun _ _ _ h => h) ⟨.inl ⟨rfl, fun W hW => by simp [execOp, go_sem]⟩, fun W => rfl⟩ ⟨Below.refl _ _, H5.out⟩ ?_
      simp only [Act.put, List.setIfInBounds_toArray, List.set_cons_zero, List.set_cons_succ]
      refine wpAnyHF_takeD (i := 3) 64 (v := .slice aP roots.length cP) rfl rfl rfl (by kernel_rfl) (by kernel_rfl) (by kernel_rfl) (fun _ _ _ h => h) ⟨.inl ⟨rfl, fun W hW => by simp [execOp, go_sem]⟩, fun W => rfl⟩ ⟨Below.refl _ _, H5.out⟩ ?_
      simp only [Act.put, List.setIfInBounds_toArray, List.set_cons_zero, List.set_cons_succ]
      refine wpAnyHF_one (i := 4) (by kernel_rfl) rfl rfl ?_
      refine wpIn_callD 65 rfl (P := Try.prog) (f := 21) (args := #[.agg #[.slice sa h.nodes.length sc, .int .i64 h.most], .slice a S.length c, .slice aP roots.length cP]) (by simp [execOp, resolve, invoke, go_sem]) ?_
      refine (rmoved_any w5 _ _ _ (.agg #[.slice sa h.nodes.length sc, .int .i64 h.most]) (.slice a S.length c) (.slice aP roots.length cP) h S roots HV5.out HS5.out HP5.out hn hSl hrl).mono ?_
      rintro e w7 ⟨ma, mc, rfl, hmi, by7⟩
      have h57 := (by7.block _ hl5).trans H5.out
      have hR7 := (by7.block _ hBR).trans BR.out
      have hs7 := by7.size
      have b7 : Below (w.heap.size + 1) w5 w7 := by7.mono (by omega)
      refine ⟨_, rfl, ⟨b7, h57⟩, ?_⟩
      simp only [Act.put, List.setIfInBounds_toArray, List.set_cons_zero, List.set_cons_succ]
      have z0 : w7.cell? ⟨w.heap.size + 1, 0, none⟩ = some (.slice none 0 0) := cell_of hR7
      have z1 : w7.cell? ⟨w.heap.size + 1, 1, none⟩ = some (.int .i64 0) := cell_of hR7
      have zf : ∀ i, w7.frozen? ⟨w.heap.size + 1, i, none⟩ = false := fun i => free_of hR7
      obtain ⟨wx, hwx⟩ : ∃ z, (w7.setCell ⟨w.heap.size + 1, 0, none⟩ (.slice oa S.length oc)).setCell ⟨w.heap.size + 1, 1, none⟩ (.int .i64 h.most) = z := ⟨_, rfl⟩
      have bx : Below (w.heap.size + 1) w5 wx := by rw [← hwx]; exact (b7.setCell (p := ⟨w.heap.size + 1, 0, none⟩) (Nat.le_refl _) _).setCell (p := ⟨w.heap.size + 1, 1, none⟩) (Nat.le_refl _) _
      have h5x : wx.heap[OB]? = some (.cells #[.slice oa S.length oc, .int .i64 h.most] 24) := by rw [← hwx]; exact heap_far (heap_far h57 (show OB ≠ w.heap.size + 1 by omega)) (show OB ≠ w.heap.size + 1 by omega)
      have hF : wx.heap[w.heap.size + 1]? = some (.cells #[.slice oa S.length oc, .int .i64 h.most] 24) := by rw [← hwx]; exact heap_set (i := 1) (heap_set (i := 0) hR7)
      have hSm : ∀ ok : Nat → Prop, ¬ ok (w.heap.size + 1) → Same ok w7 wx := fun ok hk => by rw [← hwx]; exact ((Same.refl ok w7).setCell (a := ⟨w.heap.size + 1, 0, none⟩) _ hk).setCell (a := ⟨w.heap.size + 1, 1, none⟩) _ hk
      refine wpAnyHF_one (i := 5) (by kernel_rfl) rfl rfl ?_
      refine wpIn_skip rfl (w' := wx) (by rw [← hwx]; simp [execOp, go_sem, z0, z1, zf]) ⟨⟨bx, h5x⟩, ?_⟩
      refine wpAnyHF_takeD (i := 6) 5 (v := .slice ma roots.length mc) rfl rfl rfl (by kernel_rfl) (by kernel_rfl) (by kernel_rfl) (fun _ _ _ h => h) ⟨.inl ⟨rfl, fun W hW => by simp [execOp, go_sem]⟩, fun W => rfl⟩ ⟨bx, h5x⟩ ?_
      refine wpAnyHF_takeD (i := 7) 6 (v := .int .i64 0) rfl rfl rfl (by kernel_rfl) (by kernel_rfl) (by kernel_rfl) (fun _ _ _ h => h) ⟨.inl ⟨rfl, fun W hW => by simp [execOp, go_sem]⟩, fun W => rfl⟩ ⟨bx, h5x⟩ ?_
      simp only [Act.put, List.setIfInBounds_toArray, List.set_cons_zero, List.set_cons_succ]
      refine wpAnyHF_done (by kernel_rfl) ?_ _
      have hO7 := HO.out.below nodeGood by7
      have hOx := hO7.keep nodeGood (hSm _ (fun h => by
        rcases h with h | h
        · omega
        · have h1 := (hO7.lt _ h.symm).1; omega))
      have hIx := RSl.keep intGood hmi (hSm _ (fun h => by omega))
      rw [mvd_out HRO.out] at hIx
      have HXX := hid (And.intro hOx hIx)
      have HBW : Hid (Below w.heap.size w wx) := HB.out.trans ((HB5.out.mono HB.out.size).trans (bx.mono (by omega)))
      have HF := hid hF
      clear z0 z1 zf hwx hSm hOx hIx hO7 hmi by7 h57 hR7 b7 bx h5x hF
      gi_wp2
      go_wp2_with fail
      have t0 := cellAt (i := 0) (v := .slice oa S.length oc) HF.out rfl
      have t1 := cellAt (i := 1) (v := .int .i64 h.most) HF.out rfl
      exact bodyPost_ret (v := .tuple #[.agg #[.slice oa S.length oc, .int .i64 h.most], .slice ma roots.length mc, .int .i64 0]) (by simp [results, Try.results11, go_sem, t0, t1]) rfl (by
        have hlm : S.length = (S.map (moved h.nodes S)).length := by simp
        unfold CollPost
        rw [HOUT.out]
        have hf := HXX.out.1.rslOwn nodeGood (fun b => w.heap.size ≤ b) (fun b _ hb => by omega) (fun b _ hb => by omega)
        refine ⟨oa, oc, .slice ma roots.length mc, by rw [← hlm], ?_, HXX.out.2.weak intGood (by decide) (fun b _ hb => by omega), HBW.out⟩
        rw [← hlm]
        rw [hlm] at hf ⊢
        exact ⟨oa, oc, rfl, HIM.out, hf⟩)
end Go.Proofs.Ytajhchfjoeblgaa
