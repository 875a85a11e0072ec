/- The reference of heap: Same: what it returns. -/
import Derived.Test.YtajhchfjoeblgaaHeapG
namespace Go.Proofs.Ytajhchfjoeblgaa
open Go.RowKit Go.Shelf
attribute [local go_sem] Oper.semAt_some
theorem later_cell {w W : World} {a : Addr} {v : Value} (hW : Below w.heap.size w W) (h : w.cell? a = some v) : W.cell? a = some v := (hW.cell (World.block_lt_of_cell? w _ h)).trans h
theorem nds_true {xs ys : List Nd} (hl : xs.length = ys.length) (h : ∀ i, i < xs.length → xs[i]? = ys[i]?) : xs = ys := by
  apply List.ext_getElem?
  intro i
  by_cases hi : i < xs.length
  · exact h i hi
  · rw [List.getElem?_eq_none (by omega), List.getElem?_eq_none (by omega)]
set_option maxHeartbeats 4000000 in
theorem same_any (w : World) (ok ok' : Nat → Prop) (v v' : Value) (h h' : Hp) (hh : HVal w ok v h) (hh' : HVal w ok' v' h') : Calls Try.prog 12 #[v, v'] w (Bb (decide (h = h')) w) := by
  obtain ⟨sa, sc, rfl, hi, hs⟩ := hh
  obtain ⟨sb, sd, rfl, hi', hs'⟩ := hh'
  obtain ⟨ns, most⟩ := h
  obtain ⟨ms, most'⟩ := h'
  simp only at hi hs hi' hs' ⊢
  obtain ⟨_, _, e, l1, _⟩ := hs.shape
  cases e
  obtain ⟨_, _, e, l2, _⟩ := hs'.shape
  cases e
  obtain ⟨W0, hW0⟩ : ∃ W0, (w.alloc (Obj.cells #[.slice sa ns.length sc, .int .i64 most] 24)).alloc (Obj.cells #[.slice sb ms.length sd, .int .i64 most'] 24) = W0 := ⟨_, rfl⟩
  have hb0 : Below w.heap.size w W0 := by rw [← hW0]; exact ((Below.refl _ _).alloc (Nat.le_refl _) _).alloc (by simp) _
  have h1 := heap_one w (Obj.cells #[.slice sa ns.length sc, .int .i64 most] 24) (Obj.cells #[.slice sb ms.length sd, .int .i64 most'] 24)
  have h2 := heap_two w (Obj.cells #[.slice sa ns.length sc, .int .i64 most] 24) (Obj.cells #[.slice sb ms.length sd, .int .i64 most'] 24)
  rw [hW0] at h1 h2
  have c0 : W0.cell? ⟨w.heap.size, 0, none⟩ = some (.slice sa ns.length sc) := cell_of h1
  have c1 : W0.cell? ⟨w.heap.size, 1, none⟩ = some (.int .i64 most) := cell_of h1
  have q0 : W0.cell? ⟨w.heap.size + 1, 0, none⟩ = some (.slice sb ms.length sd) := cell_of h2
  have q1 : W0.cell? ⟨w.heap.size + 1, 1, none⟩ = some (.int .i64 most') := cell_of h2
  have HW := hid hW0
  have HB := hid (And.intro hb0 (And.intro (hs.below hb0) (hs'.below hb0)))
  have HC := hid (And.intro c0 q0)
  clear hs hs' hi hi' h1 h2 hW0 hb0
  go_enter Try.func12, Try.ntmps12
  go_upto_region 1 with (fail)
  rw [HW.out]
  by_cases e1 : most = most'
  · have f1 : (most != most') = false := by simp [e1]
    by_cases e2 : ns.length = ms.length
    · have f2 : ((ns.length : Int) != ms.length) = false := by simp [e2]
      have HE := hid e1
      have HL := hid e2
      clear e1 e2
      go_wp2_with fail
      clear c0 c1 q0 q1 f1 f2
      go_loopw [5] (fun i wr => ∃ k : Nat, k ≤ ns.length ∧ i = .int .i64 k ∧ Hid (∀ j, j < k → ns[j]? = ms[j]?) ∧ Below W0.heap.size W0 wr) (fun i _ => ns.length - (intOf i).toNat)
      case atStart => exact ⟨0, Nat.zero_le _, rfl, fun j hj => absurd hj (by omega), Below.refl _ _⟩
      case round =>
        obtain ⟨k, hk, rfl, HA, hb⟩ := hrel
        obtain ⟨wo, rfl⟩ : ∃ wo : World, wo = wr := ⟨_, rfl⟩
        have c0 : wo.cell? ⟨w.heap.size, 0, none⟩ = some (.slice sa ns.length sc) := later_cell hb HC.out.1
        by_cases hlt : k < ns.length
        · go_wp2_with fail
          obtain ⟨b1, o1, c1', x, sx, cx, hv1, hx, hk1, hk2, hsx, d0, d1, d2, d3⟩ := HB.out.2.1.at hb (k := k) hlt
          obtain ⟨b2, o2, c2', y, sy, cy, hv2, hy, hk3, hk4, hsy, g0, g1, g2, g3⟩ := HB.out.2.2.at hb (k := k) (by have := HL.out; omega)
          cases hv1; cases hv2
          obtain ⟨w5, hw5⟩ : ∃ w5, wo.drew = w5 := ⟨_, rfl⟩
          have hnode := node_any w5 _ _ (.agg #[.int .i64 x.kind, .int .i64 x.num, .string x.name, .slice sx x.kids.length cx]) (.agg #[.int .i64 y.kind, .int .i64 y.num, .string y.name, .slice sy y.kids.length cy]) x y ⟨sx, cx, rfl, hk1, hk2, by rw [← hw5]; exact hsx⟩ ⟨sy, cy, rfl, hk3, hk4, by rw [← hw5]; exact hsy⟩
          have q0 : wo.cell? ⟨w.heap.size + 1, 0, none⟩ = some (.slice (some ⟨b2, o2, none⟩) ms.length sd) := later_cell hb HC.out.2
          have b5 : Below W0.heap.size W0 w5 := by rw [← hw5]; exact hb.drew
          have C := And.intro c0 (And.intro q0 (And.intro d0 (And.intro d1 (And.intro d2 (And.intro d3 (And.intro g0 (And.intro g1 (And.intro g2 g3))))))))
          have HX := hid (And.intro hx hy)
          have HCC : Hid (∀ W, Below w5.heap.size w5 W → W.cell? ⟨w.heap.size, 0, none⟩ = some (.slice (some ⟨b1, o1, none⟩) ns.length sc) ∧ W.cell? ⟨w.heap.size + 1, 0, none⟩ = some (.slice (some ⟨b2, o2, none⟩) ms.length sd) ∧
              (W.cell? ⟨b1, o1 + k * 4, none⟩ = some (.int .i64 x.kind) ∧ W.cell? ⟨b1, o1 + k * 4 + 1, none⟩ = some (.int .i64 x.num) ∧ W.cell? ⟨b1, o1 + k * 4 + 2, none⟩ = some (.string x.name) ∧ W.cell? ⟨b1, o1 + k * 4 + 3, none⟩ = some (.slice sx x.kids.length cx)) ∧
              (W.cell? ⟨b2, o2 + k * 4, none⟩ = some (.int .i64 y.kind) ∧ W.cell? ⟨b2, o2 + k * 4 + 1, none⟩ = some (.int .i64 y.num) ∧ W.cell? ⟨b2, o2 + k * 4 + 2, none⟩ = some (.string y.name) ∧ W.cell? ⟨b2, o2 + k * 4 + 3, none⟩ = some (.slice sy y.kids.length cy))) := fun W hW => by
            rw [← hw5] at hW
            exact ⟨later_cell hW c0, later_cell hW q0, ⟨later_cell hW d0, later_cell hW d1, later_cell hW d2, later_cell hW d3⟩, later_cell hW g0, later_cell hW g1, later_cell hW g2, later_cell hW g3⟩
          have hkm : k < ms.length := by have := HL.out; omega
          have HN := hid hnode
          have HBB := hid b5
          clear C c0 q0 d0 d1 d2 d3 g0 g1 g2 g3 hx hy hnode hsx hsy hb b5 hk1 hk2 hk3 hk4
          refine (wpIn_wide (n := 9)).1 ?_
          refine wpIn_region_held (fun W => Below w5.heap.size w5 W) (by kernel_rfl) ?_
          rw [hw5]
          clear hw5
          refine wpAnyHF_takeD (i := 0) 28 (v := .pointer (some ⟨w.heap.size, 0, none⟩)) rfl rfl rfl (by kernel_rfl) (by kernel_rfl) (by kernel_rfl) (fun _ _ _ h => h) ⟨.inl ⟨rfl, fun W hW => by simp [execOp, go_sem]⟩, fun W => rfl⟩ (Below.refl _ _) ?_
          refine wpAnyHF_takeD (i := 1) 29 (v := .slice (some ⟨b1, o1, none⟩) ns.length sc) rfl rfl rfl (by kernel_rfl) (by kernel_rfl) (by kernel_rfl) (fun _ _ _ h => h) ⟨.inl ⟨rfl, fun W hW => by have := (HCC.out W hW).1; simp [execOp, go_sem, this]⟩, fun W => rfl⟩ (Below.refl _ _) ?_
          refine wpAnyHF_takeD (i := 2) 30 (v := .int .i64 k) rfl rfl rfl (by kernel_rfl) (by kernel_rfl) (by kernel_rfl) (fun _ _ _ h => h) ⟨.inl ⟨rfl, fun W hW => by simp [execOp, go_sem]⟩, fun W => rfl⟩ (Below.refl _ _) ?_
          simp only [Act.put, List.setIfInBounds_toArray, List.set_cons_zero, List.set_cons_succ]
          refine wpAnyHF_takeD (i := 3) 31 (v := .pointer (some ⟨b1, o1 + k * 4, none⟩)) rfl rfl rfl (by kernel_rfl) (by kernel_rfl) (by kernel_rfl) (fun _ _ _ h => h) ⟨.inl ⟨rfl, fun W hW => by simp [execOp, go_sem, hlt]⟩, fun W => rfl⟩ (Below.refl _ _) ?_
          refine wpAnyHF_takeD (i := 4) 32 (v := .agg #[.int .i64 x.kind, .int .i64 x.num, .string x.name, .slice sx x.kids.length cx]) rfl rfl rfl (by kernel_rfl) (by kernel_rfl) (by kernel_rfl) (fun _ _ _ h => h) ⟨.inl ⟨rfl, fun W hW => by have c := (HCC.out W hW).2.2.1; simp [execOp, go_sem, c.1, c.2.1, c.2.2.1, c.2.2.2]⟩, fun W => rfl⟩ (Below.refl _ _) ?_
          refine wpAnyHF_takeD (i := 5) 33 (v := .pointer (some ⟨w.heap.size + 1, 0, none⟩)) rfl rfl rfl (by kernel_rfl) (by kernel_rfl) (by kernel_rfl) (fun _ _ _ h => h) ⟨.inl ⟨rfl, fun W hW => by simp [execOp, go_sem]⟩, fun W => rfl⟩ (Below.refl _ _) ?_
          simp only [Act.put, List.setIfInBounds_toArray, List.set_cons_zero, List.set_cons_succ]
          refine wpAnyHF_takeD (i := 6) 34 (v := .slice (some ⟨b2, o2, none⟩) ms.length sd) rfl rfl rfl (by kernel_rfl) (by kernel_rfl) (by kernel_rfl) (fun _ _ _ h => h) ⟨.inl ⟨rfl, fun W hW => by have c := (HCC.out W hW).2.1; simp [execOp, go_sem, c]⟩, fun W => rfl⟩ (Below.refl _ _) ?_
          refine wpAnyHF_takeD (i := 7) 35 (v := .int .i64 k) rfl rfl rfl (by kernel_rfl) (by kernel_rfl) (by kernel_rfl) (fun _ _ _ h => h) ⟨.inl ⟨rfl, fun W hW => by simp [execOp, go_sem]⟩, fun W => rfl⟩ (Below.refl _ _) ?_
          simp only [Act.put, List.setIfInBounds_toArray, List.set_cons_zero, List.set_cons_succ]
          refine wpAnyHF_takeD (i := 8) 36 (v := .pointer (some ⟨b2, o2 + k * 4, none⟩)) rfl rfl rfl (by kernel_rfl) (by kernel_rfl) (by kernel_rfl) (fun _ _ _ h => h) ⟨.inl ⟨rfl, fun W hW => by simp [execOp, go_sem, hkm]⟩, fun W => rfl⟩ (Below.refl _ _) ?_
          refine wpAnyHF_takeD (i := 9) 37 (v := .agg #[.int .i64 y.kind, .int .i64 y.num, .string y.name, .slice sy y.kids.length cy]) rfl rfl rfl (by kernel_rfl) (by kernel_rfl) (by kernel_rfl) (fun _ _ _ h => h) ⟨.inl ⟨rfl, fun W hW => by have c := (HCC.out W hW).2.2.2; simp [execOp, go_sem, c.1, c.2.1, c.2.2.1, c.2.2.2]⟩, fun W => rfl⟩ (Below.refl _ _) ?_
          simp only [Act.put, List.setIfInBounds_toArray, List.set_cons_zero, List.set_cons_succ]
          refine wpAnyHF_one (i := 10) (by kernel_rfl) rfl rfl ?_
          refine wpIn_callD 38 rfl (P := Try.prog) (f := 22) (args := #[.agg #[.int .i64 x.kind, .int .i64 x.num, .string x.name, .slice sx x.kids.length cx], .agg #[.int .i64 y.kind, .int .i64 y.num, .string y.name, .slice sy y.kids.length cy]]) (by simp [execOp, resolve, invoke, go_sem]) ?_
          refine HN.out.mono ?_
          rintro e w6 ⟨rfl, b6⟩
          refine ⟨_, rfl, b6, ?_⟩
          refine wpAnyHF_takeD (i := 11) 6 (v := .bool (decide (x = y))) rfl rfl rfl (by kernel_rfl) (by kernel_rfl) (by kernel_rfl) (fun _ _ _ h => h) ⟨.inl ⟨rfl, fun W hW => by simp [execOp, go_sem]⟩, fun W => rfl⟩ b6 ?_
          simp only [Act.put, List.setIfInBounds_toArray, List.set_cons_zero, List.set_cons_succ]
          refine wpAnyHF_done (by kernel_rfl) ?_ _
          have B6 := hid (HBB.out.trans (b6.mono HBB.out.size))
          clear b6 HN HCC HBB
          cases hq : decide (x = y)
          · have HQ := hid hq
            gi_wp2
            go_wp2_with fail
            go_ret
            refine Bb.fin (Eq.symm (decide_eq_false ?_)) (HB.out.1.trans (B6.out.mono HB.out.1.size))
            intro e; cases e
            have h1 := HX.out.1; have h2 := HX.out.2
            rw [h1] at h2; cases h2
            have := HQ.out; simp at this
          · have HQ := hid hq
            gi_wp2
            go_wp2_with fail
            go_roundw
            case rel =>
              refine ⟨k + 1, by omega, by go_num, fun j hj => ?_, B6.out⟩
              by_cases e : j = k
              · subst e; rw [HX.out.1, HX.out.2, of_decide_eq_true HQ.out]
              · exact HA.out j (by omega)
            case measure => simp [intOf]; omega
        · obtain rfl : k = ns.length := by omega
          go_wp2_with fail
          go_ret
          exact Bb.fin (by rw [eq_comm, decide_eq_true_eq, nds_true HL.out HA.out, HE.out]) (HB.out.1.trans (hb.mono HB.out.1.size))
    · have f2 : ((ns.length : Int) != ms.length) = true := by simp; omega
      have HE2 := hid e2
      clear e1 e2
      go_wp2_with fail
      go_ret
      refine Bb.fin (Eq.symm (decide_eq_false ?_)) HB.out.1
      intro e; cases e; exact HE2.out rfl
  · have f1 : (most != most') = true := by simp [e1]
    have HE1 := hid e1
    clear e1
    go_wp2_with fail
    go_ret
    refine Bb.fin (Eq.symm (decide_eq_false ?_)) HB.out.1
    intro e; cases e; exact HE1.out rfl
end Go.Proofs.Ytajhchfjoeblgaa
