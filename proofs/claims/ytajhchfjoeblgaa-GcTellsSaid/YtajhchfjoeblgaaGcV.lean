/- The reference's Live; GcTells: the walk. -/
import Derived.Test.YtajhchfjoeblgaaGcU
import Derived.Test.YtajhchfjoeblgaaKept
namespace Go.Proofs.Ytajhchfjoeblgaa
open Go.RowKit Go.Shelf
attribute [local go_sem] Oper.semAt_some
set_option maxHeartbeats 2000000 in
theorem rlive_any (w : World) (ok ok2 : Nat → Prop) (v lv : Value) (h : Hp) (roots : List Int) (hh : HVal w ok v h) (hr : ISl w ok2 lv roots) (hn : h.nodes.length ≤ 1000) (hkb : ∀ x ∈ h.nodes, x.kids.length ≤ 1000) (hrl : roots.length ≤ 1000) :
    Calls Try.prog 15 #[v, lv] w (Ib (liveH h roots) w) := by
  have hh0 := hh
  obtain ⟨sa, sc, rfl, hi, hs⟩ := hh
  obtain ⟨_, _, e, l1, _⟩ := hs.shape
  cases e
  obtain ⟨W0, hW0⟩ : ∃ W0, w.alloc (Obj.cells #[.slice sa h.nodes.length sc, .int .i64 h.most] 24) = W0 := ⟨_, rfl⟩
  have hb0 : Below w.heap.size w W0 := by rw [← hW0]; exact (Below.refl _ _).alloc (Nat.le_refl _) _
  have h1 : W0.heap[w.heap.size]? = some (Obj.cells #[.slice sa h.nodes.length sc, .int .i64 h.most] 24) := by rw [← hW0]; exact World.alloc_heap_new _ _
  have HC := hid (rcoll_any W0 _ _ _ lv h roots (hh0.below hb0) (hr.below intGood hb0) hn hkb hrl)
  have HB := hid hb0
  have HW := hid hW0
  have c0 : W0.cell? ⟨w.heap.size, 0, none⟩ = some (.slice sa h.nodes.length sc) := cell_of h1
  have c1 : W0.cell? ⟨w.heap.size, 1, none⟩ = some (.int .i64 h.most) := cell_of h1
  clear hh0 hr hs hi hW0 hb0 h1 hkb
  go_enter Try.func15, Try.ntmps15
  go_upto_region 1 with (fail)
  rw [HW.out]
  clear HW
  go_wp2_with fail
  refine HC.out.mono ?_
  intro e w2 hpost
  clear c0 c1 HC
  cases hc : collH h roots with
  | none =>
    rw [CollPost, hc] at hpost
    obtain ⟨rfl, b2⟩ := hpost
    have BB := hid (HB.out.trans (b2.mono HB.out.size))
    have HL : Hid (liveH h roots = 0) := by show liveH h roots = 0; rw [liveH, hc]
    clear b2 hc HB
    go_wp2_with fail
    go_ret
    exact Ib.fin (by rw [HL.out]; rfl) (BB.out.alloc BB.out.size _)
  | some r =>
    obtain ⟨h', l⟩ := r
    rw [CollPost, hc] at hpost
    obtain ⟨a, c, lv', rfl, hv, hl, b2⟩ := hpost
    have BB := hid (HB.out.trans (b2.mono HB.out.size))
    have HL : Hid (liveH h roots = h'.nodes.length) := by show liveH h roots = _; rw [liveH, hc]
    clear b2 hc HB hv hl
    go_wp2_with fail
    go_ret
    exact Ib.fin (by rw [HL.out]) (BB.out.alloc BB.out.size _)
def collR (h : Hp) (roots : List Int) : Hp × List Int × Int := match collH h roots with | some (h', l) => (h', l, 0) | none => (h, [], 140)
theorem CollPost.any {w : World} {h : Hp} {roots : List Int} {v : Value} {e : Ending} {w' : World} {ok : Nat → Prop} (hp : CollPost w h roots v e w') (hv : HVal w ok v h) : ∃ a c al cl, e = .returned (.tuple #[.agg #[.slice a (collR h roots).1.nodes.length c, .int .i64 (collR h roots).1.most], .slice al (collR h roots).2.1.length cl, .int .i64 (collR h roots).2.2]) ∧
    HVal w' (fun _ => True) (.agg #[.slice a (collR h roots).1.nodes.length c, .int .i64 (collR h roots).1.most]) (collR h roots).1 ∧ ISl w' (fun _ => True) (.slice al (collR h roots).2.1.length cl) (collR h roots).2.1 ∧ Below w.heap.size w w' := by
  cases hc : collH h roots with
  | none =>
    have hr : collR h roots = (h, [], 140) := by rw [collR, hc]
    rw [CollPost, hc] at hp
    obtain ⟨rfl, b⟩ := hp
    have hv' := (HVal.below hv b).all
    obtain ⟨a, c, rfl, _⟩ := hv
    rw [hr]
    exact ⟨a, c, none, 0, rfl, hv', RSl.nil _ _ _ _, b⟩
  | some r =>
    obtain ⟨h', l⟩ := r
    have hr : collR h roots = (h', l, 0) := by rw [collR, hc]
    rw [CollPost, hc] at hp
    obtain ⟨a, c, lv, rfl, hh, hl, b⟩ := hp
    obtain ⟨al, cl, rfl, _⟩ := hl.shape
    rw [hr]
    exact ⟨a, c, al, cl, rfl, hh.all, hl.all, b⟩
set_option maxRecDepth 100000 in
set_option maxHeartbeats 8000000 in
theorem tells_any (v0 v1 : Value) (w : World) (h0 : ∃ h, HVal w (fun _ => True) v0 h) (h1 : ∃ xs, ISl w (fun _ => True) v1 xs) :
    Calls Try.prog 3 #[v0, v1] w (Bb true w) := by
  obtain ⟨h, hh⟩ := h0
  have hh0 := hh
  obtain ⟨sa, sc, rfl, _, hs⟩ := hh
  obtain ⟨_, _, e, l1, _⟩ := hs.shape
  cases e
  obtain ⟨rs, hr0⟩ := h1
  have hr0' := hr0
  obtain ⟨ars, crs, rfl, lrs, _⟩ := hr0'.shape
  obtain ⟨W0, hW0⟩ : ∃ W0, w.alloc (Obj.cells #[.slice sa h.nodes.length sc, .int .i64 h.most] 24) = W0 := ⟨_, rfl⟩
  have hb0 : Below w.heap.size w W0 := by rw [← hW0]; exact (Below.refl _ _).alloc (Nat.le_refl _) _
  have K0 : Kept w W0 w.heap.size 24 sa sc h := ⟨hb0, by rw [← hW0]; exact World.alloc_heap_new _ _, hh0.below hb0⟩
  have HW := hid hW0
  have S0 := hid (And.intro K0 (hr0.more hb0))
  clear hW0 hb0 K0 hh0 hs hr0 hr0'
  go_enter Try.func3, Try.ntmps3
  go_upto_region 1 with (fail)
  rw [HW.out]
  clear HW
  go_wp2_with fail
  refine (awake_any W0).mono ?_
  rintro e w1 ⟨rfl, b1⟩
  have S1 := hid (And.intro (S0.out.1.more b1) (ISl.more S0.out.2 b1))
  clear S0
  clear b1
  have c0 : w1.cell? ⟨w.heap.size, 0, none⟩ = some (.slice sa h.nodes.length sc) := S1.out.1.c0
  have c1 : w1.cell? ⟨w.heap.size, 1, none⟩ = some (.int .i64 h.most) := S1.out.1.c1
  have P2 := hid (few_any w1 _ _ _ S1.out.1.val)
  go_wp2_with fail
  refine P2.out.mono ?_
  rintro e w2 ⟨rfl, b2⟩
  have S2 := hid (And.intro (S1.out.1.more b2) (ISl.more S1.out.2 b2))
  clear S1
  clear b2 c0 c1 P2
  cases hq : fewH h
  · go_wp2_with fail
    go_ret
    exact Bb.fin rfl S2.out.1.bel
  have HF := hid (few_bounds hq)
  have hn := HF.out.1
  clear hq
  by_cases grs : ¬ rs.length ≤ 100
  · have frs : decide ((rs.length : Int) > 100) = true := by simp; omega
    go_wp2_with fail
    go_ret
    exact Bb.fin rfl S2.out.1.bel
  have frs : decide ((rs.length : Int) > 100) = false := by simp; omega
  replace grs : rs.length ≤ 1000 := by omega
  have c0 : w2.cell? ⟨w.heap.size, 0, none⟩ = some (.slice sa h.nodes.length sc) := S2.out.1.c0
  have c1 : w2.cell? ⟨w.heap.size, 1, none⟩ = some (.int .i64 h.most) := S2.out.1.c1
  clear c0 c1
  have K0 := hid S2.out.1
  have KR := hid S2.out.2
  clear S2
  obtain ⟨rr, hrr⟩ : ∃ z, z = collR h rs := ⟨_, rfl⟩
  obtain ⟨H, l, er⟩ := rr
  have HRR := hid hrr
  clear hrr
  have c0 : w2.cell? ⟨w.heap.size, 0, none⟩ = some (.slice sa h.nodes.length sc) := K0.out.c0
  have c1 : w2.cell? ⟨w.heap.size, 1, none⟩ = some (.int .i64 h.most) := K0.out.c1
  have P := hid (coll_any w2 _ _ (.agg #[.slice sa h.nodes.length sc, .int .i64 h.most]) (.slice ars rs.length crs) h rs K0.out.val KR.out hn HF.out.2 grs)
  go_wp2_with fail
  refine P.out.mono ?_
  intro e w3 hpost
  obtain ⟨aA, cA, alA, clA, he, hv, hl, b⟩ := hpost.any K0.out.val
  rw [← HRR.out] at he hv hl
  subst he
  clear c0 c1 P hpost
  replace K0 := hid (K0.out.more b)
  replace KR := hid (ISl.more KR.out b)
  have KLA := hid hl
  go_upto_region 5 with (fail)
  have bb := (Below.refl w3.heap.size w3).alloc (Nat.le_refl _) (.cells #[.slice aA H.nodes.length cA, .int .i64 H.most] 24)
  have KA := hid (Kept.new 24 K0.out.bel hv)
  replace K0 := hid (K0.out.more bb)
  replace KR := hid (ISl.more KR.out bb)
  replace KLA := hid (ISl.more KLA.out bb)
  obtain ⟨w3b, hww⟩ : ∃ z, w3.alloc (.cells #[.slice aA H.nodes.length cA, .int .i64 H.most] 24) = z := ⟨_, rfl⟩
  obtain ⟨BA, hXX⟩ : ∃ z, w3.heap.size = z := ⟨_, rfl⟩
  rw [hww] at K0 KR KLA KA ⊢
  rw [hXX] at KA ⊢
  clear hww hXX bb b hv hl
  have c0 : w3b.cell? ⟨w.heap.size, 0, none⟩ = some (.slice sa h.nodes.length sc) := K0.out.c0
  have c1 : w3b.cell? ⟨w.heap.size, 1, none⟩ = some (.int .i64 h.most) := K0.out.c1
  have P := hid (rcoll_any w3b _ _ (.agg #[.slice sa h.nodes.length sc, .int .i64 h.most]) (.slice ars rs.length crs) h rs K0.out.val KR.out hn HF.out.2 grs)
  go_wp2_with fail
  refine P.out.mono ?_
  intro e w4 hpost
  obtain ⟨aB, cB, alB, clB, he, hv, hl, b⟩ := hpost.any K0.out.val
  rw [← HRR.out] at he hv hl
  subst he
  clear c0 c1 P hpost
  replace K0 := hid (K0.out.more b)
  replace KR := hid (ISl.more KR.out b)
  replace KLA := hid (ISl.more KLA.out b)
  replace KA := hid (KA.out.more b)
  have KLB := hid hl
  go_upto_region 6 with (fail)
  have bb := (Below.refl w4.heap.size w4).alloc (Nat.le_refl _) (.cells #[.slice aB H.nodes.length cB, .int .i64 H.most] 24)
  have KB := hid (Kept.new 24 K0.out.bel hv)
  replace K0 := hid (K0.out.more bb)
  replace KR := hid (ISl.more KR.out bb)
  replace KLA := hid (ISl.more KLA.out bb)
  replace KA := hid (KA.out.more bb)
  replace KLB := hid (ISl.more KLB.out bb)
  obtain ⟨w4b, hww⟩ : ∃ z, w4.alloc (.cells #[.slice aB H.nodes.length cB, .int .i64 H.most] 24) = z := ⟨_, rfl⟩
  obtain ⟨BB, hXX⟩ : ∃ z, w4.heap.size = z := ⟨_, rfl⟩
  rw [hww] at K0 KR KLA KA KLB KB ⊢
  rw [hXX] at KB ⊢
  clear hww hXX bb b hv hl
  have d0 : w4b.cell? ⟨BA, 0, none⟩ = some (.slice aA H.nodes.length cA) := KA.out.c0
  have d1 : w4b.cell? ⟨BA, 1, none⟩ = some (.int .i64 H.most) := KA.out.c1
  have f0 : w4b.cell? ⟨BB, 0, none⟩ = some (.slice aB H.nodes.length cB) := KB.out.c0
  have f1 : w4b.cell? ⟨BB, 1, none⟩ = some (.int .i64 H.most) := KB.out.c1
  have P := hid (same_any w4b _ _ (.agg #[.slice aA H.nodes.length cA, .int .i64 H.most]) (.agg #[.slice aB H.nodes.length cB, .int .i64 H.most]) H H KA.out.val KB.out.val)
  have hd : decide (H = H) = true := by simp
  rw [hd] at P
  clear hd
  go_wp2_with fail
  refine P.out.mono ?_
  rintro e w5 ⟨rfl, b⟩
  clear P d0 d1 f0 f1
  replace K0 := hid (K0.out.more b)
  replace KR := hid (ISl.more KR.out b)
  replace KLA := hid (ISl.more KLA.out b)
  replace KA := hid (KA.out.more b)
  replace KLB := hid (ISl.more KLB.out b)
  replace KB := hid (KB.out.more b)
  clear b
  have P := hid (numbers_any w5 _ _ (.slice alA l.length clA) (.slice alB l.length clB) l l KLA.out KLB.out)
  have hd : (l == l) = true := by simp
  rw [hd] at P
  clear hd
  go_wp2_with fail
  refine P.out.mono ?_
  rintro e w6 ⟨rfl, b⟩
  clear P
  replace K0 := hid (K0.out.more b)
  replace KR := hid (ISl.more KR.out b)
  replace KLA := hid (ISl.more KLA.out b)
  replace KA := hid (KA.out.more b)
  replace KLB := hid (ISl.more KLB.out b)
  replace KB := hid (KB.out.more b)
  clear b
  go_upto_region 7 with (fail)
  obtain ⟨w7, hw7⟩ : ∃ z, w6.drew = z := ⟨_, rfl⟩
  have bd : Below w6.heap.size w6 w7 := by rw [← hw7]; exact (Below.refl _ _).drew
  replace K0 := hid (K0.out.more bd)
  replace KR := hid (ISl.more KR.out bd)
  replace KLA := hid (ISl.more KLA.out bd)
  replace KA := hid (KA.out.more bd)
  replace KLB := hid (ISl.more KLB.out bd)
  replace KB := hid (KB.out.more bd)
  have C0 : Hid (w7.cell? ⟨w.heap.size, 0, none⟩ = some (.slice sa h.nodes.length sc)) := K0.out.c0
  have C1 : Hid (w7.cell? ⟨w.heap.size, 1, none⟩ = some (.int .i64 h.most)) := K0.out.c1
  obtain ⟨lv, hlv⟩ : ∃ z : Int, z = (liveH h rs : Nat) := ⟨_, rfl⟩
  have HLV := hid hlv
  clear bd hlv
  refine (wpIn_wide (n := 9)).1 ?_
  refine wpIn_region_held (fun W => Below w7.heap.size w7 W) (by kernel_rfl) ?_
  rw [hw7]
  clear hw7
  refine wpAnyHF_takeD (i := 0) 45 (v := .bool true) rfl rfl rfl (by kernel_rfl) (by kernel_rfl) (by kernel_rfl) (fun _ _ _ h => h) ⟨.inl ⟨rfl, fun W hW => by simp [execOp, go_sem]⟩, fun W => rfl⟩ (Below.refl _ _) ?_
  refine wpAnyHF_takeD (i := 1) 46 (v := .bool true) rfl rfl rfl (by kernel_rfl) (by kernel_rfl) (by kernel_rfl) (fun _ _ _ h => h) ⟨.inl ⟨rfl, fun W hW => by simp [execOp, go_sem]⟩, fun W => rfl⟩ (Below.refl _ _) ?_
  refine wpAnyHF_takeD (i := 2) 47 (v := .bool true) rfl rfl rfl (by kernel_rfl) (by kernel_rfl) (by kernel_rfl) (fun _ _ _ h => h) ⟨.inl ⟨rfl, fun W hW => by simp [execOp, go_sem]⟩, fun W => rfl⟩ (Below.refl _ _) ?_
  simp only [Act.put, List.setIfInBounds_toArray, List.set_cons_zero, List.set_cons_succ]
  refine wpAnyHF_takeD (i := 3) 48 (v := .bool true) rfl rfl rfl (by kernel_rfl) (by kernel_rfl) (by kernel_rfl) (fun _ _ _ h => h) ⟨.inl ⟨rfl, fun W hW => by simp [execOp, go_sem]⟩, fun W => rfl⟩ (Below.refl _ _) ?_
  refine wpAnyHF_takeD (i := 4) 49 (v := .bool true) rfl rfl rfl (by kernel_rfl) (by kernel_rfl) (by kernel_rfl) (fun _ _ _ h => h) ⟨.inl ⟨rfl, fun W hW => by simp [execOp, go_sem]⟩, fun W => rfl⟩ (Below.refl _ _) ?_
  refine wpAnyHF_takeD (i := 5) 50 (v := .int .i64 er) rfl rfl rfl (by kernel_rfl) (by kernel_rfl) (by kernel_rfl) (fun _ _ _ h => h) ⟨.inl ⟨rfl, fun W hW => by simp [execOp, go_sem]⟩, fun W => rfl⟩ (Below.refl _ _) ?_
  simp only [Act.put, List.setIfInBounds_toArray, List.set_cons_zero, List.set_cons_succ]
  refine wpAnyHF_takeD (i := 6) 51 (v := .int .i64 er) rfl rfl rfl (by kernel_rfl) (by kernel_rfl) (by kernel_rfl) (fun _ _ _ h => h) ⟨.inl ⟨rfl, fun W hW => by simp [execOp, go_sem]⟩, fun W => rfl⟩ (Below.refl _ _) ?_
  refine wpAnyHF_takeD (i := 7) 52 (v := .bool true) rfl rfl rfl (by kernel_rfl) (by kernel_rfl) (by kernel_rfl) (fun _ _ _ h => h) ⟨.inl ⟨rfl, fun W hW => by simp [execOp, go_sem]⟩, fun W => rfl⟩ (Below.refl _ _) ?_
  refine wpAnyHF_takeD (i := 8) 53 (v := .bool true) rfl rfl rfl (by kernel_rfl) (by kernel_rfl) (by kernel_rfl) (fun _ _ _ h => h) ⟨.inl ⟨rfl, fun W hW => by simp [execOp, go_sem]⟩, fun W => rfl⟩ (Below.refl _ _) ?_
  simp only [Act.put, List.setIfInBounds_toArray, List.set_cons_zero, List.set_cons_succ]
  refine wpAnyHF_takeD (i := 9) 54 (v := .bool true) rfl rfl rfl (by kernel_rfl) (by kernel_rfl) (by kernel_rfl) (fun _ _ _ h => h) ⟨.inl ⟨rfl, fun W hW => by simp [execOp, go_sem]⟩, fun W => rfl⟩ (Below.refl _ _) ?_
  refine wpAnyHF_takeD (i := 10) 55 (v := .agg #[.slice sa h.nodes.length sc, .int .i64 h.most]) rfl rfl rfl (by kernel_rfl) (by kernel_rfl) (by kernel_rfl) (fun _ _ _ h => h) ⟨.inl ⟨rfl, fun W hW => by have m0 := later_cell hW C0.out; have m1 := later_cell hW C1.out; simp [execOp, go_sem, m0, m1]⟩, fun W => rfl⟩ (Below.refl _ _) ?_
  refine wpAnyHF_takeD (i := 11) 56 (v := .slice ars rs.length crs) rfl rfl rfl (by kernel_rfl) (by kernel_rfl) (by kernel_rfl) (fun _ _ _ h => h) ⟨.inl ⟨rfl, fun W hW => by simp [execOp, go_sem]⟩, fun W => rfl⟩ (Below.refl _ _) ?_
  simp only [Act.put, List.setIfInBounds_toArray, List.set_cons_zero, List.set_cons_succ]
  refine wpAnyHF_takeD (i := 13) 58 (v := .agg #[.slice sa h.nodes.length sc, .int .i64 h.most]) rfl rfl rfl (by kernel_rfl) (by kernel_rfl) (by kernel_rfl) (fun _ _ _ h => h) ⟨.inl ⟨rfl, fun W hW => by have m0 := later_cell hW C0.out; have m1 := later_cell hW C1.out; simp [execOp, go_sem, m0, m1]⟩, fun W => rfl⟩ (Below.refl _ _) ?_
  refine wpAnyHF_takeD (i := 14) 59 (v := .slice ars rs.length crs) rfl rfl rfl (by kernel_rfl) (by kernel_rfl) (by kernel_rfl) (fun _ _ _ h => h) ⟨.inl ⟨rfl, fun W hW => by simp [execOp, go_sem]⟩, fun W => rfl⟩ (Below.refl _ _) ?_
  refine wpAnyHF_one (i := 12) (by kernel_rfl) rfl rfl ?_
  refine wpIn_callD 57 rfl (P := Try.prog) (f := 14) (args := #[.agg #[.slice sa h.nodes.length sc, .int .i64 h.most], .slice ars rs.length crs]) (by simp [execOp, resolve, invoke, go_sem]) ?_
  refine (HLV.out.symm ▸ live_any _ _ _ (.agg #[.slice sa h.nodes.length sc, .int .i64 h.most]) (.slice ars rs.length crs) h rs (K0.out.val.below (Below.refl _ _)) (RSl.below intGood KR.out (Below.refl _ _)) hn HF.out.2 grs).mono ?_
  rintro e x1 ⟨rfl, bx1'⟩
  have bx1 := bx1'
  refine ⟨_, rfl, bx1, ?_⟩
  simp only [Act.put, List.setIfInBounds_toArray, List.set_cons_zero, List.set_cons_succ]
  refine wpAnyHF_one (i := 15) (by kernel_rfl) rfl rfl ?_
  refine wpIn_callD 60 rfl (P := Try.prog) (f := 15) (args := #[.agg #[.slice sa h.nodes.length sc, .int .i64 h.most], .slice ars rs.length crs]) (by simp [execOp, resolve, invoke, go_sem]) ?_
  refine (HLV.out.symm ▸ rlive_any _ _ _ (.agg #[.slice sa h.nodes.length sc, .int .i64 h.most]) (.slice ars rs.length crs) h rs (K0.out.val.below bx1) (RSl.below intGood KR.out bx1) hn HF.out.2 grs).mono ?_
  rintro e x2 ⟨rfl, bx2'⟩
  have bx2 := bx1.trans (bx2'.mono bx1.size)
  refine ⟨_, rfl, bx2, ?_⟩
  simp only [Act.put, List.setIfInBounds_toArray, List.set_cons_zero, List.set_cons_succ]
  refine wpAnyHF_takeD (i := 16) 61 (v := .bool true) rfl rfl rfl (by kernel_rfl) (by kernel_rfl) (by kernel_rfl) (fun _ _ _ h => h) ⟨.inl ⟨rfl, fun W hW => by simp [execOp, go_sem]⟩, fun W => rfl⟩ bx2 ?_
  refine wpAnyHF_takeD (i := 17) 62 (v := .bool true) rfl rfl rfl (by kernel_rfl) (by kernel_rfl) (by kernel_rfl) (fun _ _ _ h => h) ⟨.inl ⟨rfl, fun W hW => by simp [execOp, go_sem]⟩, fun W => rfl⟩ bx2 ?_
  refine wpAnyHF_takeD (i := 18) 4 (v := .bool true) rfl rfl rfl (by kernel_rfl) (by kernel_rfl) (by kernel_rfl) (fun _ _ _ h => h) ⟨.inl ⟨rfl, fun W hW => by simp [execOp, go_sem]⟩, fun W => rfl⟩ bx2 ?_
  simp only [Act.put, List.setIfInBounds_toArray, List.set_cons_zero, List.set_cons_succ]
  refine wpAnyHF_done (by kernel_rfl) ?_ _
  have HBF := hid (K0.out.bel.trans (bx2.mono K0.out.bel.size))
  clear bx1 bx2 bx2'
  gi_wp2
  go_wp2_with fail
  go_ret
  exact Bb.fin rfl HBF.out
end Go.Proofs.Ytajhchfjoeblgaa
