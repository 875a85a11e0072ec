/- The reference's Commit: what it returns. -/
import Derived.Test.YtplckigmllkpoaaStH
namespace Go.Proofs.Ytplckigmllkpoaa
open Go.RowKit Go.Shelf Go.Maps
attribute [local go_sem] Oper.semAt_some
theorem later_low {n : Nat} {w W : World} {a : Addr} {v : Value} (hW : Below n w W) (hl : a.block < n) (h : w.cell? a = some v) : W.cell? a = some v := (hW.cell hl).trans h
set_option maxRecDepth 100000 in
set_option maxHeartbeats 8000000 in
theorem rcommit_any (w : World) (ok ok2 : Nat → Prop) (v v2 : Value) (s : St) (l : Lg) (hh : SVal w ok v s) (hg : GVal w ok2 v2 l) (hlen : s.cells.length ≤ 100000) (hll : ∀ x ∈ l.levels, x.length ≤ 100000) : Calls Try.prog 11 #[v, v2] w (ComP ok (commitS s l) w) := by
  have hh0 := hh
  obtain ⟨sa, sc, rfl, hi, hs⟩ := hh
  obtain ⟨_, _, e, l1, _⟩ := hs.shape
  cases e
  have hg0 := hg
  obtain ⟨ra, rc, la, lc, rfl, hr, hl⟩ := hg
  obtain ⟨_, _, e, l2, _⟩ := hr.shape
  cases e
  obtain ⟨_, _, e, l3, _⟩ := hl.shape
  cases e
  obtain ⟨W0, hW0⟩ : ∃ W0, w.alloc (Obj.cells #[.slice sa s.cells.length sc, .int .i64 s.ver] 24) = W0 := ⟨_, rfl⟩
  have K : Hid (BSt w W0 w.heap.size sa sc s) := by have h := BSt.new (Below.refl _ w) hh0; rw [hW0] at h; exact h
  obtain ⟨W2, hW2⟩ : ∃ W1, W0.alloc (Obj.cells #[.slice ra l.reads.length rc, .slice la l.levels.length lc] 28) = W1 := ⟨_, rfl⟩
  have hs0 : W0.heap.size = w.heap.size + 1 := by rw [← hW0]; simp
  have hs2 : W2.heap.size = w.heap.size + 2 := by rw [← hW2]; simp [hs0]
  have hb1 : Below W0.heap.size W0 W2 := by rw [← hW2]; exact (Below.refl _ _).alloc (Nat.le_refl _) _
  have h1 : W2.heap[w.heap.size + 1]? = some (.cells #[.slice ra l.reads.length rc, .slice la l.levels.length lc] 28) := by rw [← hW2, ← hs0]; exact World.alloc_heap_new _ _
  obtain ⟨W1, hW1⟩ : ∃ W1, W2.alloc (Obj.cells #[.slice none 0 0, .int .i64 0] 24) = W1 := ⟨_, rfl⟩
  have hb2 : Below W2.heap.size W2 W1 := by rw [← hW1]; exact (Below.refl _ _).alloc (Nat.le_refl _) _
  have H2 : Hid (W1.heap[w.heap.size + 2]? = some (.cells #[.slice none 0 0, .int .i64 0] 24)) := by rw [← hW1, ← hs2]; exact World.alloc_heap_new _ _
  have hs1 : W1.heap.size = w.heap.size + 3 := by rw [← hW1]; simp [hs2]
  have hW := hW1
  rw [← hW2, ← hW0] at hW
  have HW := hid hW
  have HI := hid hi
  have HV0 := hid hh0
  have bw1 : Below w.heap.size w W1 := K.out.bel.trans ((hb1.trans (hb2.mono hb1.size)).mono K.out.bel.size)
  replace K := hid ((K.out.more hb1).more hb2)
  have HG := hid (hg0.more bw1)
  have H1 := hid ((hb2.block _ (lt_of_some h1)).trans h1)
  clear hW0 hW1 hW2 hW hb1 hb2 hs hh0 hi hg0 hr hl h1 hs0 hs2 bw1
  obtain ⟨vv, hvv⟩ : ∃ z, IntKind.i64.wrap (s.ver + 1) = z := ⟨_, rfl⟩
  have hvin : In vv := by rw [← hvv, IntKind.wrap_i64]; unfold In; omega
  obtain ⟨q, hq⟩ : ∃ q, q = chkS s := ⟨_, rfl⟩
  have HQ := hid hq
  obtain ⟨p, hp⟩ : ∃ p, p = chkG l := ⟨_, rfl⟩
  have HP := hid hp
  go_enter Try.func11, Try.ntmps11
  go_upto_region 1 with (fail)
  rw [HW.out]
  clear HW
  have c0 : W1.cell? ⟨w.heap.size, 0, none⟩ = some (.slice sa s.cells.length sc) := K.out.c0
  have c1 : W1.cell? ⟨w.heap.size, 1, none⟩ = some (.int .i64 s.ver) := K.out.c1
  have P := hid (rscheck_any W1 _ _ s K.out.val)
  rw [← hq] at P
  clear hq
  go_wp2_with fail
  refine P.out.mono ?_
  rintro e w3 ⟨rfl, b⟩
  clear P c0 c1
  replace K := hid (K.out.more b)
  replace H2 := hid ((b.block _ (lt_of_some H2.out)).trans H2.out)
  replace HG := hid (HG.out.more b)
  replace H1 := hid ((b.block _ (lt_of_some H1.out)).trans H1.out)
  clear b
  have d0 : w3.cell? ⟨w.heap.size + 1, 0, none⟩ = some (.slice ra l.reads.length rc) := cell_of H1.out
  have d1 : w3.cell? ⟨w.heap.size + 1, 1, none⟩ = some (.slice la l.levels.length lc) := cell_of H1.out
  have P := hid (rcheckg_any w3 _ _ l HG.out)
  rw [← hp] at P
  clear hp
  go_wp2_with fail
  refine P.out.mono ?_
  rintro e w4 ⟨rfl, b⟩
  clear P d0 d1
  replace K := hid (K.out.more b)
  replace H2 := hid ((b.block _ (lt_of_some H2.out)).trans H2.out)
  replace HG := hid (HG.out.more b)
  replace H1 := hid ((b.block _ (lt_of_some H1.out)).trans H1.out)
  clear b
  have hlt2 := lt_of_some H2.out
  cases q
  · have c0 : w4.cell? ⟨w.heap.size, 0, none⟩ = some (.slice sa s.cells.length sc) := K.out.c0
    have c1 : w4.cell? ⟨w.heap.size, 1, none⟩ = some (.int .i64 s.ver) := K.out.c1
    have q0 : w4.cell? ⟨w.heap.size + 2, 0, none⟩ = some (.slice none 0 0) := cell_of H2.out
    have q1 : w4.cell? ⟨w.heap.size + 2, 1, none⟩ = some (.int .i64 0) := cell_of H2.out
    have qf : ∀ i, w4.frozen? ⟨w.heap.size + 2, i, none⟩ = false := fun i => free_of H2.out
    go_wp2_with fail
    have F := sput_out (w := w) (s := s) (ok := ok) H2.out (by omega) K.out.bel (sback (by omega) HV0.out K.out.bel)
    have t0 := cell_at (i := 0) (v := .slice sa s.cells.length sc) F.1 rfl
    have t1 := cell_at (i := 1) (v := .int .i64 s.ver) F.1 rfl
    exact bodyPost_ret (v := .tuple #[.agg #[.slice sa s.cells.length sc, .int .i64 s.ver], .slice none 0 0, .int .i64 181]) (by simp [results, Try.results11, go_sem, t0, t1]) rfl (ComP.nil (com1 HQ.out.symm) F.2.1 F.2.2)
  by_cases hvl : s.ver = 1099511627776
  · have f1 : (s.ver == 1099511627776) = true := by rw [hvl]; rfl
    have HVL := hid hvl
    clear hvl
    have c0 : w4.cell? ⟨w.heap.size, 0, none⟩ = some (.slice sa s.cells.length sc) := K.out.c0
    have c1 : w4.cell? ⟨w.heap.size, 1, none⟩ = some (.int .i64 s.ver) := K.out.c1
    have q0 : w4.cell? ⟨w.heap.size + 2, 0, none⟩ = some (.slice none 0 0) := cell_of H2.out
    have q1 : w4.cell? ⟨w.heap.size + 2, 1, none⟩ = some (.int .i64 0) := cell_of H2.out
    have qf : ∀ i, w4.frozen? ⟨w.heap.size + 2, i, none⟩ = false := fun i => free_of H2.out
    go_wp2_with fail
    have F := sput_out (w := w) (s := s) (ok := ok) H2.out (by omega) K.out.bel (sback (by omega) HV0.out K.out.bel)
    have t0 := cell_at (i := 0) (v := .slice sa s.cells.length sc) F.1 rfl
    have t1 := cell_at (i := 1) (v := .int .i64 s.ver) F.1 rfl
    exact bodyPost_ret (v := .tuple #[.agg #[.slice sa s.cells.length sc, .int .i64 s.ver], .slice none 0 0, .int .i64 181]) (by simp [results, Try.results11, go_sem, t0, t1]) rfl (ComP.nil (com2 HVL.out) F.2.1 F.2.2)
  have f1 : (s.ver == 1099511627776) = false := by simpa using hvl
  cases p
  · have c0 : w4.cell? ⟨w.heap.size, 0, none⟩ = some (.slice sa s.cells.length sc) := K.out.c0
    have c1 : w4.cell? ⟨w.heap.size, 1, none⟩ = some (.int .i64 s.ver) := K.out.c1
    have q0 : w4.cell? ⟨w.heap.size + 2, 0, none⟩ = some (.slice none 0 0) := cell_of H2.out
    have q1 : w4.cell? ⟨w.heap.size + 2, 1, none⟩ = some (.int .i64 0) := cell_of H2.out
    have qf : ∀ i, w4.frozen? ⟨w.heap.size + 2, i, none⟩ = false := fun i => free_of H2.out
    go_wp2_with fail
    have F := sput_out (w := w) (s := s) (ok := ok) H2.out (by omega) K.out.bel (sback (by omega) HV0.out K.out.bel)
    have t0 := cell_at (i := 0) (v := .slice sa s.cells.length sc) F.1 rfl
    have t1 := cell_at (i := 1) (v := .int .i64 s.ver) F.1 rfl
    exact bodyPost_ret (v := .tuple #[.agg #[.slice sa s.cells.length sc, .int .i64 s.ver], .slice none 0 0, .int .i64 170]) (by simp [results, Try.results11, go_sem, t0, t1]) rfl (ComP.nil (com3 HQ.out.symm hvl HP.out.symm) F.2.1 F.2.2)
  by_cases hl1 : l.levels.length = 1
  · obtain ⟨xs, hxs⟩ := List.length_eq_one_iff.1 hl1
    have HC : Hid (ComOk s l xs) := hid ⟨HQ.out.symm, hvl, HP.out.symm, hxs⟩
    have f2 : ((l.levels.length : Int) != 1) = false := by simp [hl1]
    have f6 : 0 < l.levels.length := by omega
    have hxl := hll xs (by rw [hxs]; simp)
    have hv1 : vv = s.ver + 1 := by have h := HQ.out; simp [chkS] at h; rw [← hvv]; exact wrap_in ⟨by omega, by omega⟩
    have HV1 := hid hv1
    clear hv1
    obtain ⟨_, _, _, _, ev, hrr, hls⟩ := HG.out
    cases ev
    obtain ⟨b4, o4, c4, y4, xa, xc, hv4, hy4, hs4, e4⟩ := hls.at (Below.refl _ _) (k := 0) f6
    cases hv4
    rw [Nat.add_zero] at e4
    obtain rfl : y4 = xs := by rw [hxs] at hy4; simp at hy4; exact hy4.symm
    obtain ⟨_, _, e, l4, _⟩ := hs4.shape
    cases e
    have HXS := hid hs4
    clear hrr hls hy4 hs4 hxs hl1
    have d1 : w4.cell? ⟨w.heap.size + 1, 1, none⟩ = some (.slice (some ⟨b4, o4, none⟩) l.levels.length lc) := cell_of H1.out
    have c0 : w4.cell? ⟨w.heap.size, 0, none⟩ = some (.slice sa s.cells.length sc) := K.out.c0
    have c1 : w4.cell? ⟨w.heap.size, 1, none⟩ = some (.int .i64 s.ver) := K.out.c1
    have hbl := K.out.bel.size
    obtain ⟨wa, hwa⟩ : ∃ z, w4.alloc (.cells #[] 52) = z := ⟨_, rfl⟩
    have bA : Below w4.heap.size w4 wa := by rw [← hwa]; exact (Below.refl _ _).alloc (Nat.le_refl _) _
    have hE : wa.heap[w4.heap.size]? = some (.cells #[] 52) := by rw [← hwa]; exact World.alloc_heap_new _ _
    obtain ⟨v1, w5, hrun, hO0, b5, _⟩ := append_fresh (w := w4) (W := wa) (ok := fun b => b < w4.heap.size) pairGood (by decide) (P := Try.prog) Try.underlying22 infoC rfl (by decide) (RSl.below pairGood (RSl.weak pairGood (by decide) (ok' := fun b => b < w4.heap.size) K.out.cells (fun _ h _ => h)) bA) (fun x row h => pr_cells _ _ x row h) (by omega) (E := w4.heap.size) (Nat.le_refl _) hE bA (fun b hb => by omega)
    have hO := hO0.anyP
    obtain ⟨oa, oc, rfl⟩ := hO.shape2
    have HO := hid hO
    have HRUN := hid hrun
    have HWA := hid hwa
    have HB5 := hid b5
    have c0a : wa.cell? ⟨w.heap.size, 0, none⟩ = some (.slice sa s.cells.length sc) := later_cell bA c0
    clear hrun hO0 hO hwa hE b5 bA
    go_wp2_with (first | rw [HWA.out] | (at_builtin; refine wpList_append_run rfl _ _ _ rfl _ _ rfl rfl _ _ HRUN.out ?_))
    clear c0 c1 c0a d1 e4 f1 f2 HRUN HWA
    have HO1 : Hid (OSl PairE 2 52 w4.heap.size w5 (fun _ => False) (.slice oa s.cells.length oc) ((y4.take 0).foldl (wput vv) s.cells)) := HO
    clear HO
    go_loopw [11, 12] (fun vs i wr => ∃ (k : Nat) (va : Option Addr) (vc : Nat), k ≤ y4.length ∧ i = .int .i64 k ∧ vs = .slice va k vc ∧ Hid (∀ (j : Nat) (y : Pr), j < k → y4[j]? = some y → thereS s y.1 = true) ∧ Hid (OSl PairE 2 52 w4.heap.size wr (fun _ => False) (.slice oa s.cells.length oc) ((y4.take k).foldl (wput vv) s.cells)) ∧ Hid (OSl IntE 1 3 w4.heap.size wr (fun _ => False) (.slice va k vc) ((y4.take k).map (·.1))) ∧ Hid (Below w4.heap.size w4 wr)) (fun _ i _ => y4.length - (intOf i).toNat)
    case atStart => exact ⟨0, none, 0, Nat.zero_le _, rfl, rfl, fun j y hj => absurd hj (by omega), HO1, OSl.nil _ _ _ _ _ _, HB5⟩
    case round =>
      obtain ⟨k, va, vc, hk, rfl, rfl, HA, HOk, HVk, HB⟩ := hrel
      clear HO1 HB5
      have hbs := HB.out.size
      have K1 := hid (K.out.more HB.out)
      have G1 := hid (HG.out.more HB.out)
      have H21 := hid ((HB.out.block _ (lt_of_some H2.out)).trans H2.out)
      have H11 := hid ((HB.out.block _ (lt_of_some H1.out)).trans H1.out)
      by_cases hlt : k < y4.length
      · obtain ⟨b5, o5, c5, x, hv5, hx, hi1, hi2, e1, e2⟩ := PSl.at HXS.out (Below.refl _ _) hlt
        cases hv5
        have hb5 : b5 < w4.heap.size := World.block_lt_of_cell? _ _ e1
        have E1 := hid e1
        have E2 := hid e2
        have HX := hid hx
        clear hx e1 e2
        obtain ⟨t, ht⟩ : ∃ t, t = thereS s x.1 := ⟨_, rfl⟩
        have HT := hid ht
        clear ht
        go_upto_region 13 with (fail)
        obtain ⟨w5d, hw5⟩ : ∃ z, wr.drew = z := ⟨_, rfl⟩
        have bd : Below wr.heap.size wr w5d := by rw [← hw5]; exact (Below.refl _ _).drew
        have CX : Hid (w5d.cell? ⟨b5, o5 + k * 2, none⟩ = some (.int .i64 x.1)) := later_cell bd (later_cell HB.out E1.out)
        replace K1 := hid (K1.out.more bd)
        replace G1 := hid (G1.out.more bd)
        replace H21 := hid ((bd.block _ (lt_of_some H21.out)).trans H21.out)
        replace H11 := hid ((bd.block _ (lt_of_some H11.out)).trans H11.out)
        replace HOk := hid (HOk.out.below pairGood bd)
        replace HVk := hid (HVk.out.below intGood bd)
        replace HB := hid (HB.out.trans (bd.mono hbs))
        have hs5 : w4.heap.size ≤ w5d.heap.size := HB.out.size
        have C0 : Hid (w5d.cell? ⟨w.heap.size, 0, none⟩ = some (.slice sa s.cells.length sc)) := K1.out.c0
        have C1 : Hid (w5d.cell? ⟨w.heap.size, 1, none⟩ = some (.int .i64 s.ver)) := K1.out.c1
        clear bd
        refine (wpIn_wide (n := 9)).1 ?_
        refine wpIn_region_held (fun W => Below w5d.heap.size w5d W) (by kernel_rfl) ?_
        rw [hw5]
        clear hw5
        cases t
        · refine wpAnyHF_takeD (i := 0) 49 (v := .agg #[.slice sa s.cells.length sc, .int .i64 s.ver]) rfl rfl rfl (by kernel_rfl) (by kernel_rfl) (by kernel_rfl) (fun _ _ _ h => h) ⟨.inl ⟨rfl, fun W hW => by have m0 := later_cell hW C0.out; have m1 := later_cell hW C1.out; simp [execOp, go_sem, m0, m1]⟩, fun W => rfl⟩ (Below.refl _ _) ?_
          refine wpAnyHF_takeD (i := 1) 50 (v := .slice (some ⟨b5, o5, none⟩) y4.length xc) rfl rfl rfl (by kernel_rfl) (by kernel_rfl) (by kernel_rfl) (fun _ _ _ h => h) ⟨.inl ⟨rfl, fun W hW => by simp [execOp, go_sem]⟩, fun W => rfl⟩ (Below.refl _ _) ?_
          refine wpAnyHF_takeD (i := 2) 51 (v := .int .i64 k) rfl rfl rfl (by kernel_rfl) (by kernel_rfl) (by kernel_rfl) (fun _ _ _ h => h) ⟨.inl ⟨rfl, fun W hW => by simp [execOp, go_sem]⟩, fun W => rfl⟩ (Below.refl _ _) ?_
          simp only [Act.put, List.setIfInBounds_toArray, List.set_cons_zero, List.set_cons_succ]
          refine wpAnyHF_takeD (i := 3) 52 (v := .pointer (some ⟨b5, o5 + k * 2, none⟩)) rfl rfl rfl (by kernel_rfl) (by kernel_rfl) (by kernel_rfl) (fun _ _ _ h => h) ⟨.inl ⟨rfl, fun W hW => by simp [execOp, go_sem, hlt]⟩, fun W => rfl⟩ (Below.refl _ _) ?_
          refine wpAnyHF_takeD (i := 4) 53 (v := .pointer (some ⟨b5, o5 + k * 2, none⟩)) rfl rfl rfl (by kernel_rfl) (by kernel_rfl) (by kernel_rfl) (fun _ _ _ h => h) ⟨.inl ⟨rfl, fun W hW => by simp [execOp, go_sem]⟩, fun W => rfl⟩ (Below.refl _ _) ?_
          refine wpAnyHF_takeD (i := 5) 54 (v := .int .i64 x.1) rfl rfl rfl (by kernel_rfl) (by kernel_rfl) (by kernel_rfl) (fun _ _ _ h => h) ⟨.inl ⟨rfl, fun W hW => by have m0 := later_cell hW CX.out; simp [execOp, go_sem, m0]⟩, fun W => rfl⟩ (Below.refl _ _) ?_
          simp only [Act.put, List.setIfInBounds_toArray, List.set_cons_zero, List.set_cons_succ]
          refine wpAnyHF_one (i := 6) (by kernel_rfl) rfl rfl ?_
          refine wpIn_callD 55 rfl (P := Try.prog) (f := 36) (args := #[.agg #[.slice sa s.cells.length sc, .int .i64 s.ver], .int .i64 x.1]) (by simp [execOp, resolve, invoke, go_sem]) ?_
          refine (HT.out ▸ rthere_any _ _ _ s x.1 K1.out.val).mono ?_
          rintro e w7 ⟨rfl, b⟩
          refine ⟨_, rfl, b, ?_⟩
          simp only [Act.put, List.setIfInBounds_toArray, List.set_cons_zero, List.set_cons_succ]
          refine wpAnyHF_takeD (i := 7) 56 (v := .bool true) rfl rfl rfl (by kernel_rfl) (by kernel_rfl) (by kernel_rfl) (fun _ _ _ h => h) ⟨.inl ⟨rfl, fun W hW => by simp [execOp, go_sem]⟩, fun W => rfl⟩ b ?_
          simp only [Act.put, List.setIfInBounds_toArray, List.set_cons_zero, List.set_cons_succ]
          refine wpAnyHF_done (by kernel_rfl) ?_ _
          replace K1 := hid (K1.out.more b)
          replace G1 := hid (G1.out.more b)
          replace H21 := hid ((b.block _ (lt_of_some H21.out)).trans H21.out)
          replace H11 := hid ((b.block _ (lt_of_some H11.out)).trans H11.out)
          replace HOk := hid (HOk.out.below pairGood b)
          replace HVk := hid (HVk.out.below intGood b)
          replace HB := hid (HB.out.trans (b.mono hs5))
          clear b C0 C1 CX
          gi_wp2
          have c0 : w7.cell? ⟨w.heap.size, 0, none⟩ = some (.slice sa s.cells.length sc) := K1.out.c0
          have c1 : w7.cell? ⟨w.heap.size, 1, none⟩ = some (.int .i64 s.ver) := K1.out.c1
          have q0 : w7.cell? ⟨w.heap.size + 2, 0, none⟩ = some (.slice none 0 0) := cell_of H21.out
          have q1 : w7.cell? ⟨w.heap.size + 2, 1, none⟩ = some (.int .i64 0) := cell_of H21.out
          have qf : ∀ i, w7.frozen? ⟨w.heap.size + 2, i, none⟩ = false := fun i => free_of H21.out
          go_wp2_with fail
          have F := sput_out (w := w) (s := s) (ok := ok) H21.out (by omega) K1.out.bel (sback (by omega) HV0.out K1.out.bel)
          have t0 := cell_at (i := 0) (v := .slice sa s.cells.length sc) F.1 rfl
          have t1 := cell_at (i := 1) (v := .int .i64 s.ver) F.1 rfl
          exact bodyPost_ret (v := .tuple #[.agg #[.slice sa s.cells.length sc, .int .i64 s.ver], .slice none 0 0, .int .i64 170]) (by simp [results, Try.results11, go_sem, t0, t1]) rfl (ComP.nil (HC.out.bad HX.out HT.out.symm) F.2.1 F.2.2)
        · refine wpAnyHF_takeD (i := 0) 49 (v := .agg #[.slice sa s.cells.length sc, .int .i64 s.ver]) rfl rfl rfl (by kernel_rfl) (by kernel_rfl) (by kernel_rfl) (fun _ _ _ h => h) ⟨.inl ⟨rfl, fun W hW => by have m0 := later_cell hW C0.out; have m1 := later_cell hW C1.out; simp [execOp, go_sem, m0, m1]⟩, fun W => rfl⟩ (Below.refl _ _) ?_
          refine wpAnyHF_takeD (i := 1) 50 (v := .slice (some ⟨b5, o5, none⟩) y4.length xc) rfl rfl rfl (by kernel_rfl) (by kernel_rfl) (by kernel_rfl) (fun _ _ _ h => h) ⟨.inl ⟨rfl, fun W hW => by simp [execOp, go_sem]⟩, fun W => rfl⟩ (Below.refl _ _) ?_
          refine wpAnyHF_takeD (i := 2) 51 (v := .int .i64 k) rfl rfl rfl (by kernel_rfl) (by kernel_rfl) (by kernel_rfl) (fun _ _ _ h => h) ⟨.inl ⟨rfl, fun W hW => by simp [execOp, go_sem]⟩, fun W => rfl⟩ (Below.refl _ _) ?_
          simp only [Act.put, List.setIfInBounds_toArray, List.set_cons_zero, List.set_cons_succ]
          refine wpAnyHF_takeD (i := 3) 52 (v := .pointer (some ⟨b5, o5 + k * 2, none⟩)) rfl rfl rfl (by kernel_rfl) (by kernel_rfl) (by kernel_rfl) (fun _ _ _ h => h) ⟨.inl ⟨rfl, fun W hW => by simp [execOp, go_sem, hlt]⟩, fun W => rfl⟩ (Below.refl _ _) ?_
          refine wpAnyHF_takeD (i := 4) 53 (v := .pointer (some ⟨b5, o5 + k * 2, none⟩)) rfl rfl rfl (by kernel_rfl) (by kernel_rfl) (by kernel_rfl) (fun _ _ _ h => h) ⟨.inl ⟨rfl, fun W hW => by simp [execOp, go_sem]⟩, fun W => rfl⟩ (Below.refl _ _) ?_
          refine wpAnyHF_takeD (i := 5) 54 (v := .int .i64 x.1) rfl rfl rfl (by kernel_rfl) (by kernel_rfl) (by kernel_rfl) (fun _ _ _ h => h) ⟨.inl ⟨rfl, fun W hW => by have m0 := later_cell hW CX.out; simp [execOp, go_sem, m0]⟩, fun W => rfl⟩ (Below.refl _ _) ?_
          simp only [Act.put, List.setIfInBounds_toArray, List.set_cons_zero, List.set_cons_succ]
          refine wpAnyHF_one (i := 6) (by kernel_rfl) rfl rfl ?_
          refine wpIn_callD 55 rfl (P := Try.prog) (f := 36) (args := #[.agg #[.slice sa s.cells.length sc, .int .i64 s.ver], .int .i64 x.1]) (by simp [execOp, resolve, invoke, go_sem]) ?_
          refine (HT.out ▸ rthere_any _ _ _ s x.1 K1.out.val).mono ?_
          rintro e w7 ⟨rfl, b⟩
          refine ⟨_, rfl, b, ?_⟩
          simp only [Act.put, List.setIfInBounds_toArray, List.set_cons_zero, List.set_cons_succ]
          refine wpAnyHF_takeD (i := 7) 56 (v := .bool false) rfl rfl rfl (by kernel_rfl) (by kernel_rfl) (by kernel_rfl) (fun _ _ _ h => h) ⟨.inl ⟨rfl, fun W hW => by simp [execOp, go_sem]⟩, fun W => rfl⟩ b ?_
          simp only [Act.put, List.setIfInBounds_toArray, List.set_cons_zero, List.set_cons_succ]
          refine wpAnyHF_done (by kernel_rfl) ?_ _
          replace K1 := hid (K1.out.more b)
          replace G1 := hid (G1.out.more b)
          replace H21 := hid ((b.block _ (lt_of_some H21.out)).trans H21.out)
          replace H11 := hid ((b.block _ (lt_of_some H11.out)).trans H11.out)
          replace HOk := hid (HOk.out.below pairGood b)
          replace HVk := hid (HVk.out.below intGood b)
          replace HB := hid (HB.out.trans (b.mono hs5))
          clear b C0 C1 CX
          gi_wp2
          go_upto_region 15 with (fail)
          obtain ⟨we, hwe⟩ : ∃ z, w7.drew = z := ⟨_, rfl⟩
          have bd : Below w7.heap.size w7 we := by rw [← hwe]; exact (Below.refl _ _).drew
          have hs7 := HB.out.size
          replace K1 := hid (K1.out.more bd)
          replace HOk := hid (HOk.out.below pairGood bd)
          replace HVk := hid (HVk.out.below intGood bd)
          replace HB := hid (HB.out.trans (bd.mono hs7))
          have hse := HB.out.size
          have CX : Hid (we.cell? ⟨b5, o5 + k * 2, none⟩ = some (.int .i64 x.1)) := later_cell HB.out E1.out
          have CY : Hid (we.cell? ⟨b5, o5 + k * 2 + 1, none⟩ = some (.int .i64 x.2)) := later_cell HB.out E2.out
          have C1 : Hid (we.cell? ⟨w.heap.size, 1, none⟩ = some (.int .i64 s.ver)) := K1.out.c1
          clear bd G1 H21 H11 K1
          obtain ⟨j, hj, hjn⟩ := there_nat HT.out.symm
          have hcl := wput_len vv (y4.take k) s.cells
          obtain ⟨y, hy⟩ : ∃ y, ((y4.take k).foldl (wput vv) s.cells)[j]? = some y := ⟨_, List.getElem?_eq_getElem (by omega)⟩
          obtain ⟨O, oc1, hv, hOb, hfz, ⟨u0, hu0⟩, hO3⟩ := OSl.setCell pairGood HOk.out (x' := (x.2, y.2)) hy (j := 0) (by decide) (.int .i64 x.2) (fun row hr => ⟨by rw [hr.1]; rfl, hi2, hr.2.2⟩)
          rw [hcl] at hv
          obtain ⟨rfl, rfl⟩ : oa = some ⟨O, 0, none⟩ ∧ oc = oc1 := by cases hv; exact ⟨rfl, rfl⟩
          obtain ⟨O2, oc2, hv2, _, _, ⟨u1, hu1⟩, hO4⟩ := OSl.setCell pairGood hO3 (x' := (x.2, vv)) (k := j) (by rw [List.getElem?_set_self (by omega)]) (j := 1) (by decide) (.int .i64 vv) (fun row hr => ⟨by rw [hr.1]; rfl, hi2, hvin⟩)
          rw [List.length_set, hcl] at hv2
          obtain ⟨rfl, rfl⟩ : O = O2 ∧ oc = oc2 := by cases hv2; exact ⟨rfl, rfl⟩
          rw [List.set_set, show ((y4.take k).foldl (wput vv) s.cells).set j (x.2, vv) = (y4.take (k + 1)).foldl (wput vv) s.cells by rw [fold_more' HX.out, wput, hj]; rfl] at hO4
          simp only [Nat.add_zero] at hu0 hu1 hO4
          have hu1' : we.cell? ⟨O, j * 2 + 1, none⟩ = some u1 := by
            obtain ⟨_, c, hc⟩ := HOk.out.lt O rfl
            rw [← hu1, cell_of hc, cell_of (heap_set hc), Array.getElem?_setIfInBounds_ne (by omega)]
          have hVO : some O ≠ (Value.slice va k vc).ownBlock := by
            obtain ⟨_, c, hc⟩ := HOk.out.lt O rfl
            exact HVk.out.type_ne hc (by decide)
          obtain ⟨w8, hw8⟩ : ∃ z, (we.setCell ⟨O, j * 2, none⟩ (.int .i64 x.2)).setCell ⟨O, j * 2 + 1, none⟩ (.int .i64 vv) = z := ⟨_, rfl⟩
          rw [hw8] at hO4
          have HO8 := hid hO4
          have HV8 : Hid (OSl IntE 1 3 w4.heap.size w8 (fun _ => False) (.slice va k vc) ((y4.take k).map (·.1))) := by show OSl _ _ _ _ _ _ _ _; rw [← hw8]; exact (HVk.out.far intGood _ hVO).far intGood _ hVO
          have b8 : Below w4.heap.size we w8 := by rw [← hw8]; exact ((Below.refl _ _).setCell (p := ⟨O, j * 2, none⟩) hOb _).setCell (p := ⟨O, j * 2 + 1, none⟩) hOb _
          have HB8 := hid (HB.out.trans b8)
          clear hO3 hO4 hy hv hv2 hu1 HOk HVk hVO hcl HB
          refine (wpIn_wide (n := 9)).1 ?_
          refine wpIn_region_held (fun W => Below w4.heap.size we W) (by kernel_rfl) ?_
          rw [hwe]
          clear hwe
          refine wpAnyHF_takeD (i := 0) 58 (v := .slice (some ⟨O, 0, none⟩) s.cells.length oc) rfl rfl rfl (by kernel_rfl) (by kernel_rfl) (by kernel_rfl) (fun _ _ _ h => h) ⟨.inl ⟨rfl, fun W hW => by simp [execOp, go_sem]⟩, fun W => rfl⟩ (Below.refl _ _) ?_
          refine wpAnyHF_takeD (i := 1) 59 (v := .slice (some ⟨b5, o5, none⟩) y4.length xc) rfl rfl rfl (by kernel_rfl) (by kernel_rfl) (by kernel_rfl) (fun _ _ _ h => h) ⟨.inl ⟨rfl, fun W hW => by simp [execOp, go_sem]⟩, fun W => rfl⟩ (Below.refl _ _) ?_
          refine wpAnyHF_takeD (i := 2) 60 (v := .int .i64 k) rfl rfl rfl (by kernel_rfl) (by kernel_rfl) (by kernel_rfl) (fun _ _ _ h => h) ⟨.inl ⟨rfl, fun W hW => by simp [execOp, go_sem]⟩, fun W => rfl⟩ (Below.refl _ _) ?_
          simp only [Act.put, List.setIfInBounds_toArray, List.set_cons_zero, List.set_cons_succ]
          refine wpAnyHF_takeD (i := 3) 61 (v := .pointer (some ⟨b5, o5 + k * 2, none⟩)) rfl rfl rfl (by kernel_rfl) (by kernel_rfl) (by kernel_rfl) (fun _ _ _ h => h) ⟨.inl ⟨rfl, fun W hW => by simp [execOp, go_sem, hlt]⟩, fun W => rfl⟩ (Below.refl _ _) ?_
          refine wpAnyHF_takeD (i := 4) 62 (v := .pointer (some ⟨b5, o5 + k * 2, none⟩)) rfl rfl rfl (by kernel_rfl) (by kernel_rfl) (by kernel_rfl) (fun _ _ _ h => h) ⟨.inl ⟨rfl, fun W hW => by simp [execOp, go_sem]⟩, fun W => rfl⟩ (Below.refl _ _) ?_
          refine wpAnyHF_takeD (i := 5) 63 (v := .int .i64 x.1) rfl rfl rfl (by kernel_rfl) (by kernel_rfl) (by kernel_rfl) (fun _ _ _ h => h) ⟨.inl ⟨rfl, fun W hW => by have m0 := later_low hW (show b5 < w4.heap.size by omega) CX.out; simp [execOp, go_sem, m0]⟩, fun W => rfl⟩ (Below.refl _ _) ?_
          simp only [Act.put, List.setIfInBounds_toArray, List.set_cons_zero, List.set_cons_succ]
          refine wpAnyHF_takeD (i := 6) 64 (v := .slice (some ⟨b5, o5, none⟩) y4.length xc) rfl rfl rfl (by kernel_rfl) (by kernel_rfl) (by kernel_rfl) (fun _ _ _ h => h) ⟨.inl ⟨rfl, fun W hW => by simp [execOp, go_sem]⟩, fun W => rfl⟩ (Below.refl _ _) ?_
          refine wpAnyHF_takeD (i := 7) 65 (v := .int .i64 k) rfl rfl rfl (by kernel_rfl) (by kernel_rfl) (by kernel_rfl) (fun _ _ _ h => h) ⟨.inl ⟨rfl, fun W hW => by simp [execOp, go_sem]⟩, fun W => rfl⟩ (Below.refl _ _) ?_
          refine wpAnyHF_takeD (i := 8) 66 (v := .pointer (some ⟨b5, o5 + k * 2, none⟩)) rfl rfl rfl (by kernel_rfl) (by kernel_rfl) (by kernel_rfl) (fun _ _ _ h => h) ⟨.inl ⟨rfl, fun W hW => by simp [execOp, go_sem, hlt]⟩, fun W => rfl⟩ (Below.refl _ _) ?_
          simp only [Act.put, List.setIfInBounds_toArray, List.set_cons_zero, List.set_cons_succ]
          refine wpAnyHF_takeD (i := 9) 67 (v := .pointer (some ⟨b5, o5 + k * 2 + 1, none⟩)) rfl rfl rfl (by kernel_rfl) (by kernel_rfl) (by kernel_rfl) (fun _ _ _ h => h) ⟨.inl ⟨rfl, fun W hW => by simp [execOp, go_sem]⟩, fun W => rfl⟩ (Below.refl _ _) ?_
          refine wpAnyHF_takeD (i := 10) 68 (v := .int .i64 x.2) rfl rfl rfl (by kernel_rfl) (by kernel_rfl) (by kernel_rfl) (fun _ _ _ h => h) ⟨.inl ⟨rfl, fun W hW => by have m0 := later_low hW (show b5 < w4.heap.size by omega) CY.out; simp [execOp, go_sem, m0]⟩, fun W => rfl⟩ (Below.refl _ _) ?_
          refine wpAnyHF_takeD (i := 11) 69 (v := .pointer (some ⟨w.heap.size, 1, none⟩)) rfl rfl rfl (by kernel_rfl) (by kernel_rfl) (by kernel_rfl) (fun _ _ _ h => h) ⟨.inl ⟨rfl, fun W hW => by simp [execOp, go_sem]⟩, fun W => rfl⟩ (Below.refl _ _) ?_
          simp only [Act.put, List.setIfInBounds_toArray, List.set_cons_zero, List.set_cons_succ]
          refine wpAnyHF_takeD (i := 12) 70 (v := .int .i64 s.ver) rfl rfl rfl (by kernel_rfl) (by kernel_rfl) (by kernel_rfl) (fun _ _ _ h => h) ⟨.inl ⟨rfl, fun W hW => by have m0 := later_low hW (show w.heap.size < w4.heap.size by omega) C1.out; simp [execOp, go_sem, m0]⟩, fun W => rfl⟩ (Below.refl _ _) ?_
          refine wpAnyHF_takeD (i := 13) 71 (v := .int .i64 vv) rfl rfl rfl (by kernel_rfl) (by kernel_rfl) (by kernel_rfl) (fun _ _ _ h => h) ⟨.inl ⟨rfl, fun W hW => by simp [execOp, go_sem, hvv]⟩, fun W => rfl⟩ (Below.refl _ _) ?_
          refine wpAnyHF_takeD (i := 14) 72 (v := .agg #[.int .i64 x.2, .int .i64 vv]) rfl rfl rfl (by kernel_rfl) (by kernel_rfl) (by kernel_rfl) (fun _ _ _ h => h) ⟨.inl ⟨rfl, fun W hW => by simp [execOp, go_sem]⟩, fun W => rfl⟩ (Below.refl _ _) ?_
          simp only [Act.put, List.setIfInBounds_toArray, List.set_cons_zero, List.set_cons_succ]
          refine wpAnyHF_takeD (i := 15) 73 (v := .pointer (some ⟨O, j * 2, none⟩)) rfl rfl rfl (by kernel_rfl) (by kernel_rfl) (by kernel_rfl) (fun _ _ _ h => h) ⟨.inl ⟨rfl, fun W hW => by simp [execOp, go_sem, hj, hjn]⟩, fun W => rfl⟩ (Below.refl _ _) ?_
          simp only [Act.put, List.setIfInBounds_toArray, List.set_cons_zero, List.set_cons_succ]
          refine wpAnyHF_one (i := 16) (by kernel_rfl) rfl rfl ?_
          refine wpIn_skip rfl (w' := w8) (by rw [← hw8]; simp [execOp, go_sem, hu0, hu1', hfz]) ⟨b8, ?_⟩
          refine wpAnyHF_done (by kernel_rfl) ?_ _
          clear hw8 hu0 hu1' hfz b8 CX CY C1
          gi_wp2
          have x0 : w8.cell? ⟨b5, o5 + k * 2, none⟩ = some (.int .i64 x.1) := later_cell HB8.out E1.out
          have hs8 := HB8.out.size
          obtain ⟨na, nc, w9, hrun, hV9, hg⟩ := append_int1g (z := x.1) HV8.out hi1 (by simp; omega) (by omega)
          rw [← map_take_more HX.out] at hV9
          have hmin : min k y4.length = k := by omega
          simp only [List.length_map, List.length_take, hmin] at hrun hV9
          have b8a : Below w8.heap.size w8 (w8.alloc (.cells #[.int .i64 x.1] 3)) := (Below.refl _ _).alloc (Nat.le_refl _) _
          have hV8a := HV8.out.below intGood b8a
          have HO9 := hid ((HO8.out.below pairGood b8a).grow pairGood hg (fun r hr e => by
            obtain ⟨_, c, hc⟩ := (HO8.out.below pairGood b8a).lt r e.symm
            exact hV8a.type_ne hc (by decide) hr.symm))
          have HB9 : Hid (Below w4.heap.size w4 w9) := (HB8.out.trans (b8a.mono (by omega))).grown hg (by have := b8a.size; omega) (fun r hr => by have := (hV8a.lt r hr).1; omega)
          rw [hj] at hrun
          have HR := hid hrun
          have HV9 := hid hV9
          have HA2 : Hid (∀ (j : Nat) (y : Pr), j < k + 1 → y4[j]? = some y → thereS s y.1 = true) := fun i z hi hz => by
            by_cases e : i = k
            · subst e; rw [HX.out] at hz; cases hz; exact HT.out.symm
            · exact HA.out i z (by omega) hz
          clear hrun hV9 hg b8a hV8a HV8 HO8 HB8 HA
          go_wp2_with (at_builtin; refine wpList_append_run rfl _ _ _ rfl _ _ rfl rfl _ _ HR.out ?_)
          go_roundw
          case rel => exact ⟨k + 1, na, nc, by omega, by go_num, rfl, HA2, HO9, HV9, HB9⟩
          case measure => simp [intOf]; omega
      · obtain rfl : k = y4.length := by omega
        rw [List.take_length] at HOk HVk
        obtain ⟨m, hm⟩ : ∃ m, m = validS s l := ⟨_, rfl⟩
        have HM := hid hm
        have c0 : wr.cell? ⟨w.heap.size, 0, none⟩ = some (.slice sa s.cells.length sc) := K1.out.c0
        have c1 : wr.cell? ⟨w.heap.size, 1, none⟩ = some (.int .i64 s.ver) := K1.out.c1
        have d0 : wr.cell? ⟨w.heap.size + 1, 0, none⟩ = some (.slice ra l.reads.length rc) := cell_of H11.out
        have d1 : wr.cell? ⟨w.heap.size + 1, 1, none⟩ = some (.slice (some ⟨b4, o4, none⟩) l.levels.length lc) := cell_of H11.out
        have P := hid (rvalid_any wr _ _ _ _ s l K1.out.val G1.out)
        rw [← hm] at P
        clear hm
        go_wp2_with fail
        refine P.out.mono ?_
        rintro e w7 ⟨rfl, b⟩
        clear P c0 c1 d0 d1
        replace K1 := hid (K1.out.more b)
        replace H21 := hid ((b.block _ (lt_of_some H21.out)).trans H21.out)
        replace HOk := hid (HOk.out.below pairGood b)
        replace HVk := hid (HVk.out.below intGood b)
        clear b G1
        have HALL := hid (HC.out.all HA.out)
        cases m
        · have c0 : w7.cell? ⟨w.heap.size, 0, none⟩ = some (.slice sa s.cells.length sc) := K1.out.c0
          have c1 : w7.cell? ⟨w.heap.size, 1, none⟩ = some (.int .i64 s.ver) := K1.out.c1
          have q0 : w7.cell? ⟨w.heap.size + 2, 0, none⟩ = some (.slice none 0 0) := cell_of H21.out
          have q1 : w7.cell? ⟨w.heap.size + 2, 1, none⟩ = some (.int .i64 0) := cell_of H21.out
          have qf : ∀ i, w7.frozen? ⟨w.heap.size + 2, i, none⟩ = false := fun i => free_of H21.out
          go_wp2_with fail
          have F := sput_out (w := w) (s := s) (ok := ok) H21.out (by omega) K1.out.bel (sback (by omega) HV0.out K1.out.bel)
          have t0 := cell_at (i := 0) (v := .slice sa s.cells.length sc) F.1 rfl
          have t1 := cell_at (i := 1) (v := .int .i64 s.ver) F.1 rfl
          exact bodyPost_ret (v := .tuple #[.agg #[.slice sa s.cells.length sc, .int .i64 s.ver], .slice none 0 0, .int .i64 180]) (by simp [results, Try.results11, go_sem, t0, t1]) rfl (ComP.nil (by rw [HALL.out, ← HM.out]; rfl) F.2.1 F.2.2)
        by_cases hy0 : y4.length = 0
        · have f9 : ((y4.length : Int) == 0) = true := by simp [hy0]
          have HY0 := hid hy0
          clear hy0
          have c0 : w7.cell? ⟨w.heap.size, 0, none⟩ = some (.slice sa s.cells.length sc) := K1.out.c0
          have c1 : w7.cell? ⟨w.heap.size, 1, none⟩ = some (.int .i64 s.ver) := K1.out.c1
          have q0 : w7.cell? ⟨w.heap.size + 2, 0, none⟩ = some (.slice none 0 0) := cell_of H21.out
          have q1 : w7.cell? ⟨w.heap.size + 2, 1, none⟩ = some (.int .i64 0) := cell_of H21.out
          have qf : ∀ i, w7.frozen? ⟨w.heap.size + 2, i, none⟩ = false := fun i => free_of H21.out
          go_wp2_with fail
          have F := sput_out (w := w) (s := s) (ok := ok) H21.out (by omega) K1.out.bel (sback (by omega) HV0.out K1.out.bel)
          have t0 := cell_at (i := 0) (v := .slice sa s.cells.length sc) F.1 rfl
          have t1 := cell_at (i := 1) (v := .int .i64 s.ver) F.1 rfl
          exact bodyPost_ret (v := .tuple #[.agg #[.slice sa s.cells.length sc, .int .i64 s.ver], .slice none 0 0, .int .i64 0]) (by simp [results, Try.results11, go_sem, t0, t1]) rfl (ComP.nil (by rw [HALL.out, ← HM.out, if_neg (by simp), if_pos HY0.out]) F.2.1 F.2.2)
        have f9 : ((y4.length : Int) == 0) = false := by rw [beq_eq_false_iff_ne]; omega
        have HY0 := hid hy0
        clear hy0
        have c1 : w7.cell? ⟨w.heap.size, 1, none⟩ = some (.int .i64 s.ver) := K1.out.c1
        have q0 : w7.cell? ⟨w.heap.size + 2, 0, none⟩ = some (.slice none 0 0) := cell_of H21.out
        have q1 : w7.cell? ⟨w.heap.size + 2, 1, none⟩ = some (.int .i64 0) := cell_of H21.out
        have qf : ∀ i, w7.frozen? ⟨w.heap.size + 2, i, none⟩ = false := fun i => free_of H21.out
        go_wp2_with fail
        obtain ⟨C, hC⟩ : ∃ C, C = y4.foldl (wput vv) s.cells := ⟨_, rfl⟩
        have hCl : s.cells.length = C.length := by rw [hC, wput_len]
        have hO := HOk.out
        rw [← hC, hCl] at hO
        rw [hCl]
        have F := sput_out (w := w) (s := ⟨C, vv⟩) (ok := ok) H21.out (by omega) K1.out.bel (show SVal w7 _ (.agg #[.slice oa C.length oc, .int .i64 vv]) ⟨C, vv⟩ from ⟨_, _, rfl, hvin, hO.rsl pairGood _ (fun b _ h => ⟨by omega, .inr (by omega)⟩) (fun _ _ h => h.elim)⟩)
        have hVV := ((HVk.out.far intGood (i := 0) (Z := w.heap.size + 2) (.slice oa C.length oc) (fun e => by have := (HVk.out.lt _ e.symm).1; omega)).far intGood (i := 1) (Z := w.heap.size + 2) (.int .i64 vv) (fun e => by have := (HVk.out.lt _ e.symm).1; omega)).rsl intGood (fun b => w.heap.size ≤ b) (fun b _ h => by omega) (fun _ _ h => h.elim)
        have t0 := cell_at (i := 0) (v := .slice oa C.length oc) F.1 rfl
        have t1 := cell_at (i := 1) (v := .int .i64 vv) F.1 rfl
        exact bodyPost_ret (v := .tuple #[.agg #[.slice oa C.length oc, .int .i64 vv], .slice va y4.length vc, .int .i64 0]) (by simp [results, Try.results11, go_sem, t0, t1]) rfl (ComP.of (t := ⟨C, vv⟩) (vs := y4.map (·.1)) (by rw [HALL.out, ← HM.out, if_neg (by simp), if_neg HY0.out, hC, ← HV1.out]) (by simp) F.2.1 hVV F.2.2)
  · have f2 : ((l.levels.length : Int) != 1) = true := by simp; omega
    have d1 : w4.cell? ⟨w.heap.size + 1, 1, none⟩ = some (.slice la l.levels.length lc) := cell_of H1.out
    have c0 : w4.cell? ⟨w.heap.size, 0, none⟩ = some (.slice sa s.cells.length sc) := K.out.c0
    have c1 : w4.cell? ⟨w.heap.size, 1, none⟩ = some (.int .i64 s.ver) := K.out.c1
    have q0 : w4.cell? ⟨w.heap.size + 2, 0, none⟩ = some (.slice none 0 0) := cell_of H2.out
    have q1 : w4.cell? ⟨w.heap.size + 2, 1, none⟩ = some (.int .i64 0) := cell_of H2.out
    have qf : ∀ i, w4.frozen? ⟨w.heap.size + 2, i, none⟩ = false := fun i => free_of H2.out
    go_wp2_with fail
    have F := sput_out (w := w) (s := s) (ok := ok) H2.out (by omega) K.out.bel (sback (by omega) HV0.out K.out.bel)
    have t0 := cell_at (i := 0) (v := .slice sa s.cells.length sc) F.1 rfl
    have t1 := cell_at (i := 1) (v := .int .i64 s.ver) F.1 rfl
    exact bodyPost_ret (v := .tuple #[.agg #[.slice sa s.cells.length sc, .int .i64 s.ver], .slice none 0 0, .int .i64 170]) (by simp [results, Try.results11, go_sem, t0, t1]) rfl (ComP.nil (com3b HQ.out.symm hvl hl1) F.2.1 F.2.2)
end Go.Proofs.Ytplckigmllkpoaa
