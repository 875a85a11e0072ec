/- GcLeast: the walk. -/
import Derived.Test.YtajhchfjoeblgaaKept
import Derived.Deep.CutRange
namespace Go.Proofs.Ytajhchfjoeblgaa
open Go.RowKit Go.Shelf
attribute [local go_sem] Oper.semAt_some
set_option maxRecDepth 100000 in
set_option maxHeartbeats 8000000 in
theorem least_any (v0 v1 : Value) (w : World) (h0 : ∃ h, HVal w (fun _ => True) v0 h) (h1 : ∃ xs, ISl w (fun _ => True) v1 xs) :
    Calls Try.prog 5 #[v0, v1] w (Bb true w) := by
  obtain ⟨h, hh⟩ := h0
  have hh0 := hh
  obtain ⟨sa, sc, rfl, _, hs⟩ := hh
  obtain ⟨_, _, e, l1, _⟩ := hs.shape
  cases e
  obtain ⟨rs, hr0⟩ := h1
  have hr0' := hr0
  obtain ⟨ars, crs, rfl, lrs, _⟩ := hr0'.shape
  obtain ⟨W0, hW0⟩ : ∃ W0, w.alloc (Obj.cells #[.slice sa h.nodes.length sc, .int .i64 h.most] 24) = W0 := ⟨_, rfl⟩
  have hb0 : Below w.heap.size w W0 := by rw [← hW0]; exact (Below.refl _ _).alloc (Nat.le_refl _) _
  have K0 : Kept w W0 w.heap.size 24 sa sc h := ⟨hb0, by rw [← hW0]; exact World.alloc_heap_new _ _, hh0.below hb0⟩
  have HW := hid hW0
  have S0 := hid (And.intro K0 (hr0.more hb0))
  clear hW0 hb0 K0 hh0 hs hr0 hr0'
  go_enter Try.func5, Try.ntmps5
  go_upto_region 1 with (fail)
  rw [HW.out]
  clear HW
  go_wp2_with fail
  refine (awake_any W0).mono ?_
  rintro e w1 ⟨rfl, b1⟩
  have S1 := hid (And.intro (S0.out.1.more b1) (ISl.more S0.out.2 b1))
  clear S0
  clear b1
  have c0 : w1.cell? ⟨w.heap.size, 0, none⟩ = some (.slice sa h.nodes.length sc) := S1.out.1.c0
  have c1 : w1.cell? ⟨w.heap.size, 1, none⟩ = some (.int .i64 h.most) := S1.out.1.c1
  have P2 := hid (few_any w1 _ _ _ S1.out.1.val)
  go_wp2_with fail
  refine P2.out.mono ?_
  rintro e w2 ⟨rfl, b2⟩
  have S2 := hid (And.intro (S1.out.1.more b2) (ISl.more S1.out.2 b2))
  clear S1
  clear b2 c0 c1 P2
  cases hq : fewH h
  · go_wp2_with fail
    go_ret
    exact Bb.fin rfl S2.out.1.bel
  have HF := hid (few_bounds hq)
  have hn := HF.out.1
  clear hq
  by_cases grs : ¬ rs.length ≤ 100
  · have frs : decide ((rs.length : Int) > 100) = true := by simp; omega
    go_wp2_with fail
    go_ret
    exact Bb.fin rfl S2.out.1.bel
  have frs : decide ((rs.length : Int) > 100) = false := by simp; omega
  replace grs : rs.length ≤ 1000 := by omega
  have c0 : w2.cell? ⟨w.heap.size, 0, none⟩ = some (.slice sa h.nodes.length sc) := S2.out.1.c0
  have c1 : w2.cell? ⟨w.heap.size, 1, none⟩ = some (.int .i64 h.most) := S2.out.1.c1
  have P := hid (coll_any w2 _ _ _ _ h rs S2.out.1.val S2.out.2 hn HF.out.2 grs)
  go_wp2_with fail
  refine P.out.mono ?_
  intro e w3 hpost
  clear c0 c1 P
  cases hc : collH h rs with
  | none =>
    rw [CollPost, hc] at hpost
    obtain ⟨rfl, b3⟩ := hpost
    have S3 := hid (And.intro (S2.out.1.more b3) (ISl.more S2.out.2 b3))
    clear S2
    clear b3
    go_upto_region 5 with (fail)
    obtain ⟨w4, hw4⟩ : ∃ z, w3.alloc (Obj.cells #[.slice sa h.nodes.length sc, .int .i64 h.most] 24) = z := ⟨_, rfl⟩
    have b34 : Below w3.heap.size w3 w4 := by rw [← hw4]; exact (Below.refl _ _).alloc (Nat.le_refl _) _
    rw [hw4]
    have S4 := hid (And.intro (S3.out.1.more b34) (ISl.more S3.out.2 b34))
    clear S3
    clear hw4 b34
    have c0 : w4.cell? ⟨w.heap.size, 0, none⟩ = some (.slice sa h.nodes.length sc) := S4.out.1.c0
    have c1 : w4.cell? ⟨w.heap.size, 1, none⟩ = some (.int .i64 h.most) := S4.out.1.c1
    have P' := live_any w4 _ _ _ _ h rs S4.out.1.val S4.out.2 hn HF.out.2 grs
    rw [live_none hc] at P'
    have P := hid P'
    clear P'
    go_wp2_with fail
    refine P.out.mono ?_
    rintro e w5 ⟨rfl, b5⟩
    have S5 := hid (And.intro (S4.out.1.more b5) (ISl.more S4.out.2 b5))
    clear S4
    clear b5 c0 c1 P
    go_wp2_with fail
    go_ret
    exact Bb.fin rfl S5.out.1.bel
  | some r =>
    obtain ⟨c, l⟩ := r
    rw [CollPost, hc] at hpost
    obtain ⟨ac, cc, lvl, rfl, hv, hl, b⟩ := hpost
    obtain ⟨al, cl, rfl, ll, _⟩ := hl.shape
    go_upto_region 5 with (fail)
    have bb := b.alloc b.size (.cells #[.slice ac c.nodes.length cc, .int .i64 c.most] 24)
    have hnew := Kept.new 24 (S2.out.1.bel.trans (b.mono S2.out.1.bel.size)) hv.all
    have hl2 := ISl.more hl.all ((Below.refl _ _).alloc (Nat.le_refl _) (.cells #[.slice ac c.nodes.length cc, .int .i64 c.most] 24))
    have S3 := hid (And.intro (S2.out.1.more bb) (And.intro (ISl.more S2.out.2 bb) (And.intro hnew hl2)))
    clear S2
    obtain ⟨w4, hww⟩ : ∃ z, w3.alloc (.cells #[.slice ac c.nodes.length cc, .int .i64 c.most] 24) = z := ⟨_, rfl⟩
    obtain ⟨Bc, hXX⟩ : ∃ z, w3.heap.size = z := ⟨_, rfl⟩
    rw [hww, hXX] at S3 ⊢
    clear hww hXX bb hnew b hv hl hl2
    have HC := hid (coll_bounds hc hn HF.out.2)
    have HG := hid (And.intro (coll_again hc) (live_coll hc))
    have hcn : c.nodes.length ≤ 1000 := by have := HC.out.1; omega
    have gl : l.length ≤ 1000 := by have := HC.out.2.2.1; omega
    clear hc
    have c0 : w4.cell? ⟨Bc, 0, none⟩ = some (.slice ac c.nodes.length cc) := S3.out.2.2.1.c0
    have c1 : w4.cell? ⟨Bc, 1, none⟩ = some (.int .i64 c.most) := S3.out.2.2.1.c1
    have P := hid (coll_any w4 _ _ _ _ c l S3.out.2.2.1.val S3.out.2.2.2 hcn HC.out.2.1 gl)
    go_wp2_with fail
    refine P.out.mono ?_
    intro e w5 hpost
    clear c0 c1 P
    rw [CollPost, HG.out.1] at hpost
    obtain ⟨ad, cd, lvm, rfl, hv, hl, b⟩ := hpost
    obtain ⟨am, cm, rfl, _⟩ := hl.shape
    go_upto_region 8 with (fail)
    have bb := b.alloc b.size (.cells #[.slice ad c.nodes.length cd, .int .i64 c.most] 24)
    have hnew := Kept.new 24 (S3.out.1.bel.trans (b.mono S3.out.1.bel.size)) hv.all
    have hl2 := ISl.more hl.all ((Below.refl _ _).alloc (Nat.le_refl _) (.cells #[.slice ad c.nodes.length cd, .int .i64 c.most] 24))
    have S4 := hid (And.intro (S3.out.1.more bb) (And.intro (ISl.more S3.out.2.1 bb) (And.intro (S3.out.2.2.1.more bb) (And.intro (ISl.more S3.out.2.2.2 bb) (And.intro hnew hl2)))))
    clear S3
    obtain ⟨w6, hww⟩ : ∃ z, w5.alloc (.cells #[.slice ad c.nodes.length cd, .int .i64 c.most] 24) = z := ⟨_, rfl⟩
    obtain ⟨Bd, hXX⟩ : ∃ z, w5.heap.size = z := ⟨_, rfl⟩
    rw [hww, hXX] at S4 ⊢
    clear hww hXX bb hnew b hv hl hl2
    have c0 : w6.cell? ⟨Bc, 0, none⟩ = some (.slice ac c.nodes.length cc) := S4.out.2.2.1.c0
    have c1 : w6.cell? ⟨Bc, 1, none⟩ = some (.int .i64 c.most) := S4.out.2.2.1.c1
    go_wp2_with fail
    go_loopw [12] (fun i wr => ∃ k : Nat, k ≤ c.nodes.length ∧ i = .int .i64 k ∧ Hid (wr = w6)) (fun i _ => c.nodes.length - (intOf i).toNat)
    case atStart => exact ⟨0, Nat.zero_le _, rfl, hid rfl⟩
    case round =>
      obtain ⟨k, hk, rfl, hwr⟩ := hrel
      obtain rfl := hwr.out
      clear hwr
      by_cases hlt : k < c.nodes.length
      · obtain ⟨b1, o1, c1', x, sx, cx, hv1, hx, _, _, _, d0, _, _, _⟩ := S4.out.2.2.1.nsl.at (Below.refl _ _) (k := k) hlt
        cases hv1
        have h6 : (x.kind == 6) = false := by simpa using HC.out.2.2.2 x (List.mem_of_getElem? hx)
        clear hx
        go_wp2_with fail
        go_roundw
        case rel => exact ⟨k + 1, by omega, by go_num, by first | exact hid rfl | trivial⟩
        case measure => simp [intOf]; omega
      · go_upto_region 13 with (fail)
        clear c0 c1
        obtain ⟨w7, hw5⟩ : ∃ z, wr.drew = z := ⟨_, rfl⟩
        have bd : Below wr.heap.size wr w7 := by rw [← hw5]; exact (Below.refl _ _).drew
        have BD := hid bd
        have S5 := hid (And.intro (S4.out.1.more bd) (And.intro (ISl.more S4.out.2.1 bd) (And.intro (S4.out.2.2.1.more bd) (And.intro (ISl.more S4.out.2.2.2.1 bd) (And.intro (S4.out.2.2.2.2.1.more bd) (ISl.more S4.out.2.2.2.2.2 bd))))))
        clear S4
        have A0 : Hid (w7.cell? ⟨w.heap.size, 0, none⟩ = some (.slice sa h.nodes.length sc)) := S5.out.1.c0
        have A1 : Hid (w7.cell? ⟨w.heap.size, 1, none⟩ = some (.int .i64 h.most)) := S5.out.1.c1
        have C0 : Hid (w7.cell? ⟨Bc, 0, none⟩ = some (.slice ac c.nodes.length cc)) := S5.out.2.2.1.c0
        have C1 : Hid (w7.cell? ⟨Bc, 1, none⟩ = some (.int .i64 c.most)) := S5.out.2.2.1.c1
        have D0 : Hid (w7.cell? ⟨Bd, 0, none⟩ = some (.slice ad c.nodes.length cd)) := S5.out.2.2.2.2.1.c0
        have D1 : Hid (w7.cell? ⟨Bd, 1, none⟩ = some (.int .i64 c.most)) := S5.out.2.2.2.2.1.c1
        have HS : Hid (∀ W, Below w7.heap.size w7 W → Calls Try.prog 12 #[.agg #[.slice ac c.nodes.length cc, .int .i64 c.most], .agg #[.slice ad c.nodes.length cd, .int .i64 c.most]] W (Bb true W)) := fun W hW => by
          have := same_any W _ _ _ _ c c (S5.out.2.2.1.val.below hW) (S5.out.2.2.2.2.1.val.below hW)
          rwa [decide_eq_true rfl] at this
        have HN : Hid (∀ W, Below w7.heap.size w7 W → Calls Try.prog 13 #[.slice al l.length cl, .slice am l.length cm] W (Bb true W)) := fun W hW => by
          have := numbers_any W _ _ _ _ l l (ISl.more S5.out.2.2.2.1 hW) (ISl.more S5.out.2.2.2.2.2 hW)
          rwa [show (l == l) = true from beq_self_eq_true l] at this
        have HV : Hid (∀ W, Below w7.heap.size w7 W → Calls Try.prog 14 #[.agg #[.slice sa h.nodes.length sc, .int .i64 h.most], .slice ars rs.length crs] W (Ib c.nodes.length W)) := fun W hW => by
          have := live_any W _ _ _ _ h rs (S5.out.1.val.below hW) (ISl.more S5.out.2.1 hW) hn HF.out.2 grs
          rwa [HG.out.2] at this
        have hle : c.nodes.length ≤ h.nodes.length := HC.out.1
        clear bd
        refine (wpIn_wide (n := 9)).1 ?_
        refine wpIn_region_held (fun W => Below w7.heap.size w7 W) (by kernel_rfl) ?_
        rw [hw5]
        clear hw5
        refine wpAnyHF_takeD (i := 0) 60 (v := .bool true) rfl rfl rfl (by kernel_rfl) (by kernel_rfl) (by kernel_rfl) (fun _ _ _ h => h) ⟨.inl ⟨rfl, fun W hW => by simp [execOp, go_sem]⟩, fun W => rfl⟩ (Below.refl _ _) ?_
        refine wpAnyHF_takeD (i := 1) 61 (v := .bool true) rfl rfl rfl (by kernel_rfl) (by kernel_rfl) (by kernel_rfl) (fun _ _ _ h => h) ⟨.inl ⟨rfl, fun W hW => by simp [execOp, go_sem]⟩, fun W => rfl⟩ (Below.refl _ _) ?_
        refine wpAnyHF_takeD (i := 2) 62 (v := .int .i64 0) rfl rfl rfl (by kernel_rfl) (by kernel_rfl) (by kernel_rfl) (fun _ _ _ h => h) ⟨.inl ⟨rfl, fun W hW => by simp [execOp, go_sem]⟩, fun W => rfl⟩ (Below.refl _ _) ?_
        simp only [Act.put, List.setIfInBounds_toArray, List.set_cons_zero, List.set_cons_succ]
        refine wpAnyHF_takeD (i := 3) 63 (v := .bool true) rfl rfl rfl (by kernel_rfl) (by kernel_rfl) (by kernel_rfl) (fun _ _ _ h => h) ⟨.inl ⟨rfl, fun W hW => by simp [execOp, go_sem]⟩, fun W => rfl⟩ (Below.refl _ _) ?_
        refine wpAnyHF_takeD (i := 4) 64 (v := .bool true) rfl rfl rfl (by kernel_rfl) (by kernel_rfl) (by kernel_rfl) (fun _ _ _ h => h) ⟨.inl ⟨rfl, fun W hW => by simp [execOp, go_sem]⟩, fun W => rfl⟩ (Below.refl _ _) ?_
        refine wpAnyHF_takeD (i := 5) 65 (v := .bool true) rfl rfl rfl (by kernel_rfl) (by kernel_rfl) (by kernel_rfl) (fun _ _ _ h => h) ⟨.inl ⟨rfl, fun W hW => by simp [execOp, go_sem]⟩, fun W => rfl⟩ (Below.refl _ _) ?_
        simp only [Act.put, List.setIfInBounds_toArray, List.set_cons_zero, List.set_cons_succ]
        refine wpAnyHF_takeD (i := 6) 66 (v := .agg #[.slice ac c.nodes.length cc, .int .i64 c.most]) rfl rfl rfl (by kernel_rfl) (by kernel_rfl) (by kernel_rfl) (fun _ _ _ h => h) ⟨.inl ⟨rfl, fun W hW => by have m0 := later_cell hW C0.out; have m1 := later_cell hW C1.out; simp [execOp, go_sem, m0, m1]⟩, fun W => rfl⟩ (Below.refl _ _) ?_
        refine wpAnyHF_takeD (i := 7) 67 (v := .agg #[.slice ad c.nodes.length cd, .int .i64 c.most]) rfl rfl rfl (by kernel_rfl) (by kernel_rfl) (by kernel_rfl) (fun _ _ _ h => h) ⟨.inl ⟨rfl, fun W hW => by have m0 := later_cell hW D0.out; have m1 := later_cell hW D1.out; simp [execOp, go_sem, m0, m1]⟩, fun W => rfl⟩ (Below.refl _ _) ?_
        refine wpAnyHF_one (i := 8) (by kernel_rfl) rfl rfl ?_
        refine wpIn_callD 68 rfl (P := Try.prog) (f := 12) (args := #[.agg #[.slice ac c.nodes.length cc, .int .i64 c.most], .agg #[.slice ad c.nodes.length cd, .int .i64 c.most]]) (by simp [execOp, resolve, invoke, go_sem]) ?_
        refine (HS.out _ (Below.refl _ _)).mono ?_
        rintro e w8 ⟨rfl, b8'⟩
        have b8 := b8'
        clear b8'
        refine ⟨_, rfl, b8, ?_⟩
        simp only [Act.put, List.setIfInBounds_toArray, List.set_cons_zero, List.set_cons_succ]
        refine wpAnyHF_takeD (i := 9) 69 (v := .bool true) rfl rfl rfl (by kernel_rfl) (by kernel_rfl) (by kernel_rfl) (fun _ _ _ h => h) ⟨.inl ⟨rfl, fun W hW => by simp [execOp, go_sem]⟩, fun W => rfl⟩ b8 ?_
        refine wpAnyHF_takeD (i := 10) 70 (v := .bool true) rfl rfl rfl (by kernel_rfl) (by kernel_rfl) (by kernel_rfl) (fun _ _ _ h => h) ⟨.inl ⟨rfl, fun W hW => by simp [execOp, go_sem]⟩, fun W => rfl⟩ b8 ?_
        refine wpAnyHF_takeD (i := 11) 71 (v := .slice al l.length cl) rfl rfl rfl (by kernel_rfl) (by kernel_rfl) (by kernel_rfl) (fun _ _ _ h => h) ⟨.inl ⟨rfl, fun W hW => by simp [execOp, go_sem]⟩, fun W => rfl⟩ b8 ?_
        simp only [Act.put, List.setIfInBounds_toArray, List.set_cons_zero, List.set_cons_succ]
        refine wpAnyHF_takeD (i := 12) 72 (v := .slice am l.length cm) rfl rfl rfl (by kernel_rfl) (by kernel_rfl) (by kernel_rfl) (fun _ _ _ h => h) ⟨.inl ⟨rfl, fun W hW => by simp [execOp, go_sem]⟩, fun W => rfl⟩ b8 ?_
        refine wpAnyHF_one (i := 13) (by kernel_rfl) rfl rfl ?_
        refine wpIn_callD 73 rfl (P := Try.prog) (f := 13) (args := #[.slice al l.length cl, .slice am l.length cm]) (by simp [execOp, resolve, invoke, go_sem]) ?_
        refine (HN.out _ b8).mono ?_
        rintro e w9 ⟨rfl, b9'⟩
        have b9 := b8.trans (b9'.mono b8.size)
        clear b9'
        refine ⟨_, rfl, b9, ?_⟩
        simp only [Act.put, List.setIfInBounds_toArray, List.set_cons_zero, List.set_cons_succ]
        refine wpAnyHF_takeD (i := 14) 74 (v := .bool true) rfl rfl rfl (by kernel_rfl) (by kernel_rfl) (by kernel_rfl) (fun _ _ _ h => h) ⟨.inl ⟨rfl, fun W hW => by simp [execOp, go_sem]⟩, fun W => rfl⟩ b9 ?_
        refine wpAnyHF_takeD (i := 15) 75 (v := .bool true) rfl rfl rfl (by kernel_rfl) (by kernel_rfl) (by kernel_rfl) (fun _ _ _ h => h) ⟨.inl ⟨rfl, fun W hW => by simp [execOp, go_sem]⟩, fun W => rfl⟩ b9 ?_
        refine wpAnyHF_takeD (i := 16) 76 (v := .pointer (some ⟨Bc, 0, none⟩)) rfl rfl rfl (by kernel_rfl) (by kernel_rfl) (by kernel_rfl) (fun _ _ _ h => h) ⟨.inl ⟨rfl, fun W hW => by simp [execOp, go_sem]⟩, fun W => rfl⟩ b9 ?_
        simp only [Act.put, List.setIfInBounds_toArray, List.set_cons_zero, List.set_cons_succ]
        refine wpAnyHF_takeD (i := 17) 77 (v := .slice ac c.nodes.length cc) rfl rfl rfl (by kernel_rfl) (by kernel_rfl) (by kernel_rfl) (fun _ _ _ h => h) ⟨.inl ⟨rfl, fun W hW => by have m0 := later_cell hW C0.out; simp [execOp, go_sem, m0]⟩, fun W => rfl⟩ b9 ?_
        refine wpAnyHF_takeD (i := 18) 78 (v := .int .i64 c.nodes.length) rfl rfl rfl (by kernel_rfl) (by kernel_rfl) (by kernel_rfl) (fun _ _ _ h => h) ⟨.inl ⟨rfl, fun W hW => by simp [execOp, go_sem, resolve, invoke, builtin]⟩, fun W => rfl⟩ b9 ?_
        refine wpAnyHF_takeD (i := 19) 79 (v := .pointer (some ⟨w.heap.size, 0, none⟩)) rfl rfl rfl (by kernel_rfl) (by kernel_rfl) (by kernel_rfl) (fun _ _ _ h => h) ⟨.inl ⟨rfl, fun W hW => by simp [execOp, go_sem]⟩, fun W => rfl⟩ b9 ?_
        simp only [Act.put, List.setIfInBounds_toArray, List.set_cons_zero, List.set_cons_succ]
        refine wpAnyHF_takeD (i := 20) 80 (v := .slice sa h.nodes.length sc) rfl rfl rfl (by kernel_rfl) (by kernel_rfl) (by kernel_rfl) (fun _ _ _ h => h) ⟨.inl ⟨rfl, fun W hW => by have m0 := later_cell hW A0.out; simp [execOp, go_sem, m0]⟩, fun W => rfl⟩ b9 ?_
        refine wpAnyHF_takeD (i := 21) 81 (v := .int .i64 h.nodes.length) rfl rfl rfl (by kernel_rfl) (by kernel_rfl) (by kernel_rfl) (fun _ _ _ h => h) ⟨.inl ⟨rfl, fun W hW => by simp [execOp, go_sem, resolve, invoke, builtin]⟩, fun W => rfl⟩ b9 ?_
        refine wpAnyHF_takeD (i := 22) 82 (v := .bool true) rfl rfl rfl (by kernel_rfl) (by kernel_rfl) (by kernel_rfl) (fun _ _ _ h => h) ⟨.inl ⟨rfl, fun W hW => by simp [execOp, go_sem, hle]⟩, fun W => rfl⟩ b9 ?_
        simp only [Act.put, List.setIfInBounds_toArray, List.set_cons_zero, List.set_cons_succ]
        refine wpAnyHF_takeD (i := 23) 83 (v := .bool true) rfl rfl rfl (by kernel_rfl) (by kernel_rfl) (by kernel_rfl) (fun _ _ _ h => h) ⟨.inl ⟨rfl, fun W hW => by simp [execOp, go_sem]⟩, fun W => rfl⟩ b9 ?_
        refine wpAnyHF_takeD (i := 24) 84 (v := .bool true) rfl rfl rfl (by kernel_rfl) (by kernel_rfl) (by kernel_rfl) (fun _ _ _ h => h) ⟨.inl ⟨rfl, fun W hW => by simp [execOp, go_sem]⟩, fun W => rfl⟩ b9 ?_
        refine wpAnyHF_takeD (i := 25) 85 (v := .agg #[.slice sa h.nodes.length sc, .int .i64 h.most]) rfl rfl rfl (by kernel_rfl) (by kernel_rfl) (by kernel_rfl) (fun _ _ _ h => h) ⟨.inl ⟨rfl, fun W hW => by have m0 := later_cell hW A0.out; have m1 := later_cell hW A1.out; simp [execOp, go_sem, m0, m1]⟩, fun W => rfl⟩ b9 ?_
        simp only [Act.put, List.setIfInBounds_toArray, List.set_cons_zero, List.set_cons_succ]
        refine wpAnyHF_takeD (i := 26) 86 (v := .slice ars rs.length crs) rfl rfl rfl (by kernel_rfl) (by kernel_rfl) (by kernel_rfl) (fun _ _ _ h => h) ⟨.inl ⟨rfl, fun W hW => by simp [execOp, go_sem]⟩, fun W => rfl⟩ b9 ?_
        refine wpAnyHF_takeD (i := 28) 88 (v := .pointer (some ⟨Bc, 0, none⟩)) rfl rfl rfl (by kernel_rfl) (by kernel_rfl) (by kernel_rfl) (fun _ _ _ h => h) ⟨.inl ⟨rfl, fun W hW => by simp [execOp, go_sem]⟩, fun W => rfl⟩ b9 ?_
        refine wpAnyHF_takeD (i := 29) 89 (v := .slice ac c.nodes.length cc) rfl rfl rfl (by kernel_rfl) (by kernel_rfl) (by kernel_rfl) (fun _ _ _ h => h) ⟨.inl ⟨rfl, fun W hW => by have m0 := later_cell hW C0.out; simp [execOp, go_sem, m0]⟩, fun W => rfl⟩ b9 ?_
        simp only [Act.put, List.setIfInBounds_toArray, List.set_cons_zero, List.set_cons_succ]
        refine wpAnyHF_takeD (i := 30) 90 (v := .int .i64 c.nodes.length) rfl rfl rfl (by kernel_rfl) (by kernel_rfl) (by kernel_rfl) (fun _ _ _ h => h) ⟨.inl ⟨rfl, fun W hW => by simp [execOp, go_sem, resolve, invoke, builtin]⟩, fun W => rfl⟩ b9 ?_
        refine wpAnyHF_one (i := 27) (by kernel_rfl) rfl rfl ?_
        refine wpIn_callD 87 rfl (P := Try.prog) (f := 14) (args := #[.agg #[.slice sa h.nodes.length sc, .int .i64 h.most], .slice ars rs.length crs]) (by simp [execOp, resolve, invoke, go_sem]) ?_
        refine (HV.out _ b9).mono ?_
        rintro e w10 ⟨rfl, b10'⟩
        have b10 := b9.trans (b10'.mono b9.size)
        clear b10'
        refine ⟨_, rfl, b10, ?_⟩
        simp only [Act.put, List.setIfInBounds_toArray, List.set_cons_zero, List.set_cons_succ]
        refine wpAnyHF_takeD (i := 31) 91 (v := .bool true) rfl rfl rfl (by kernel_rfl) (by kernel_rfl) (by kernel_rfl) (fun _ _ _ h => h) ⟨.inl ⟨rfl, fun W hW => by simp [execOp, go_sem]⟩, fun W => rfl⟩ b10 ?_
        refine wpAnyHF_takeD (i := 32) 92 (v := .bool true) rfl rfl rfl (by kernel_rfl) (by kernel_rfl) (by kernel_rfl) (fun _ _ _ h => h) ⟨.inl ⟨rfl, fun W hW => by simp [execOp, go_sem]⟩, fun W => rfl⟩ b10 ?_
        refine wpAnyHF_takeD (i := 33) 4 (v := .bool true) rfl rfl rfl (by kernel_rfl) (by kernel_rfl) (by kernel_rfl) (fun _ _ _ h => h) ⟨.inl ⟨rfl, fun W hW => by simp [execOp, go_sem]⟩, fun W => rfl⟩ b10 ?_
        simp only [Act.put, List.setIfInBounds_toArray, List.set_cons_zero, List.set_cons_succ]
        refine wpAnyHF_done (by kernel_rfl) ?_ _
        have SB := S5.out.1.bel
        gi_wp2
        go_wp2_with fail
        go_ret
        exact Bb.fin rfl (SB.trans (b10.mono SB.size))
end Go.Proofs.Ytajhchfjoeblgaa
