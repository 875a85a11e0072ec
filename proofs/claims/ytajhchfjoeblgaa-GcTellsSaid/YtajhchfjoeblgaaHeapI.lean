/- The reference of heap: May, Check: what each returns. -/
import Derived.Test.YtajhchfjoeblgaaHeapH
namespace Go.Proofs.Ytajhchfjoeblgaa
open Go.RowKit Go.Shelf
attribute [local go_sem] Oper.semAt_some
theorem kidsIn_no {ks : List Int} {many z : Int} {k : Nat} (h : ks[k]? = some z) (hz : z < 0 ∨ many ≤ z) : kidsIn ks many = false := by
  rw [kidsIn, any_true_of h (by simpa using hz)]; rfl
theorem kidsIn_yes {ks : List Int} {many : Int} (h : ∀ (k : Nat) (z : Int), k < ks.length → ks[k]? = some z → 0 ≤ z ∧ z < many) : kidsIn ks many = true := by
  rw [kidsIn, any_false_of (fun i x hx => by
    have := h i x (List.getElem?_eq_some_iff.1 hx).1 hx
    simp; omega)]; rfl
set_option maxRecDepth 100000 in
set_option maxHeartbeats 4000000 in
theorem rmay_any (w : World) (ok : Nat → Prop) (v : Value) (x : Nd) (many : Int) (h : NVal w ok v x) (hm : In many) :
    Calls Try.prog 29 #[v, .int .i64 many] w (Bb (mayN x many) w) := by
  obtain ⟨sa, sc, rfl, hi, hj, hs⟩ := h
  obtain ⟨kd, n, nm, ks⟩ := x
  simp only at hi hj hs ⊢
  obtain ⟨_, _, e, l1, _⟩ := hs.shape
  cases e
  obtain ⟨W0, hW0⟩ : ∃ W0, w.alloc (Obj.cells #[.int .i64 kd, .int .i64 n, .string nm, .slice sa ks.length sc] 37) = W0 := ⟨_, rfl⟩
  have hb0 : Below w.heap.size w W0 := by rw [← hW0]; exact (Below.refl _ _).alloc (Nat.le_refl _) _
  have h1 : W0.heap[w.heap.size]? = some (Obj.cells #[.int .i64 kd, .int .i64 n, .string nm, .slice sa ks.length sc] 37) := by rw [← hW0]; exact World.alloc_heap_new _ _
  have p0 : W0.cell? ⟨w.heap.size, 0, none⟩ = some (.int .i64 kd) := cell_of h1
  have p1 : W0.cell? ⟨w.heap.size, 1, none⟩ = some (.int .i64 n) := cell_of h1
  have p2 : W0.cell? ⟨w.heap.size, 2, none⟩ = some (.string nm) := cell_of h1
  have p3 : W0.cell? ⟨w.heap.size, 3, none⟩ = some (.slice sa ks.length sc) := cell_of h1
  have HS := hid (hs.below intGood hb0)
  have HB := hid hb0
  have HW := hid hW0
  clear hs hb0 hW0 h1
  show Calls _ _ _ _ (Bb (kidsIn ks many && kindOk kd n nm ks.length) w)
  go_enter Try.func29, Try.ntmps29
  go_upto_region 1 with (fail)
  rw [HW.out]
  go_wp2_with fail
  go_loopw [5] (fun i wr => ∃ k : Nat, k ≤ ks.length ∧ i = .int .i64 k ∧ Hid (∀ (j : Nat) (z : Int), j < k → ks[j]? = some z → 0 ≤ z ∧ z < many) ∧ wr = W0) (fun i _ => ks.length - (intOf i).toNat)
  case atStart => exact ⟨0, Nat.zero_le _, rfl, fun j x hj => absurd hj (by omega), rfl⟩
  case round =>
    obtain ⟨k, hk, rfl, HA, rfl⟩ := hrel
    by_cases hlt : k < ks.length
    · obtain ⟨b1, o1, c1', z, hv1, hz, hin, e1⟩ := ISl.at HS.out (Below.refl _ _) (k := k) hlt
      cases hv1
      have HX := hid hz
      clear hz hin p0 p1 p2
      by_cases h1 : z < 0
      · have f1 : decide (z < 0) = true := by simp; omega
        have HN := hid (kidsIn_no (many := many) HX.out (.inl h1))
        go_wp2_with fail
        go_ret
        exact Bb.fin (by rw [HN.out]; rfl) HB.out
      · have f1 : decide (z < 0) = false := by simp; omega
        by_cases h2 : many ≤ z
        · have f2 : decide (z ≥ many) = true := by simp; omega
          have HN := hid (kidsIn_no HX.out (.inr h2))
          go_wp2_with fail
          go_ret
          exact Bb.fin (by rw [HN.out]; rfl) HB.out
        · have f2 : decide (z ≥ many) = false := by simp; omega
          go_wp2_with fail
          go_roundw
          case rel =>
            refine ⟨k + 1, by omega, by go_num, fun j y hj hy => ?_, trivial⟩
            by_cases e : j = k
            · subst e; rw [HX.out] at hy; cases hy; exact ⟨by omega, by omega⟩
            · exact HA.out j y (by omega) hy
          case measure => simp [intOf]; omega
    · obtain rfl : k = ks.length := by omega
      have HY := hid (kidsIn_yes HA.out)
      clear HS HA
      by_cases e1 : kd = 1
      · subst e1
        go_wp2_with fail
        all_goals (go_ret; refine Bb.fin ?_ HB.out; rw [HY.out]; simp [kindOk, emp, *] <;> first | omega | (rw [Bool.eq_iff_iff]; simp; done) | (rw [Bool.eq_iff_iff]; simp; omega))
      by_cases e2 : kd = 2
      · subst e2
        go_wp2_with fail
        all_goals (go_ret; refine Bb.fin ?_ HB.out; rw [HY.out]; simp [kindOk, emp, *] <;> first | omega | (rw [Bool.eq_iff_iff]; simp; done) | (rw [Bool.eq_iff_iff]; simp; omega))
      by_cases e3 : kd = 3
      · subst e3
        go_wp2_with fail
        all_goals (go_ret; refine Bb.fin ?_ HB.out; rw [HY.out]; simp [kindOk, emp, *] <;> first | omega | (rw [Bool.eq_iff_iff]; simp; done) | (rw [Bool.eq_iff_iff]; simp; omega))
      by_cases e4 : kd = 4
      · subst e4
        go_wp2_with fail
        all_goals (go_ret; refine Bb.fin ?_ HB.out; rw [HY.out]; simp [kindOk, emp, *] <;> first | omega | (rw [Bool.eq_iff_iff]; simp; done) | (rw [Bool.eq_iff_iff]; simp; omega))
      by_cases e5 : kd = 5
      · subst e5
        go_wp2_with fail
        all_goals (go_ret; refine Bb.fin ?_ HB.out; rw [HY.out]; simp [kindOk, emp, *] <;> first | omega | (rw [Bool.eq_iff_iff]; simp; done) | (rw [Bool.eq_iff_iff]; simp; omega))
      by_cases e6 : kd = 6
      · subst e6
        go_wp2_with fail
        all_goals (go_ret; refine Bb.fin ?_ HB.out; rw [HY.out]; simp [kindOk, emp, *] <;> first | omega | (rw [Bool.eq_iff_iff]; simp; done) | (rw [Bool.eq_iff_iff]; simp; omega))
      by_cases e7 : kd = 7
      · subst e7
        go_wp2_with fail
        all_goals (go_ret; refine Bb.fin ?_ HB.out; rw [HY.out]; simp [kindOk, emp, *] <;> first | omega | (rw [Bool.eq_iff_iff]; simp; done) | (rw [Bool.eq_iff_iff]; simp; omega))
      have hk : kindOk kd n nm ks.length = false := by simp [kindOk, e1, e2, e3, e4, e5, e6, e7]
      have g1 : (kd == 1) = false := by simpa using e1
      have g2 : (kd == 2) = false := by simpa using e2
      by_cases e8 : kd < 1
      · have g3 : decide (kd < 1) = true := by simp; omega
        go_wp2_with fail
        go_ret
        exact Bb.fin (by first | rfl | (rw [hk, Bool.and_false])) HB.out
      · have g3 : decide (kd < 1) = false := by simp; omega
        have g4 : decide (kd > 7) = true := by simp; omega
        go_wp2_with fail
        go_ret
        exact Bb.fin (by first | rfl | (rw [hk, Bool.and_false])) HB.out
theorem chkH_no {h : Hp} {k : Nat} {x : Nd} (hx : h.nodes[k]? = some x) (hm : mayN x h.nodes.length = false) : chkH h = false := by
  rw [chkH, any_true_of hx (by rw [hm]; rfl)]; simp
theorem chkH_yes {h : Hp} (h1 : 0 ≤ h.most) (h2 : h.most ≤ 5000) (h3 : (h.nodes.length : Int) ≤ h.most) (hx : ∀ (k : Nat) (x : Nd), k < h.nodes.length → h.nodes[k]? = some x → mayN x h.nodes.length = true) : chkH h = true := by
  rw [chkH, any_false_of (fun i x hh => by rw [hx i x (List.getElem?_eq_some_iff.1 hh).1 hh]; rfl)]; simp [h1, h2, h3]
set_option maxHeartbeats 4000000 in
theorem rcheck_any (w : World) (ok : Nat → Prop) (v : Value) (h : Hp) (hh : HVal w ok v h) : Calls Try.prog 19 #[v] w (Bb (chkH h) w) := by
  obtain ⟨sa, sc, rfl, hi, hs⟩ := hh
  obtain ⟨ns, most⟩ := h
  simp only at hi hs ⊢
  obtain ⟨_, _, e, l1, _⟩ := hs.shape
  cases e
  obtain ⟨W0, hW0⟩ : ∃ W0, w.alloc (Obj.cells #[.slice sa ns.length sc, .int .i64 most] 24) = W0 := ⟨_, rfl⟩
  have hb0 : Below w.heap.size w W0 := by rw [← hW0]; exact (Below.refl _ _).alloc (Nat.le_refl _) _
  have h1 : W0.heap[w.heap.size]? = some (Obj.cells #[.slice sa ns.length sc, .int .i64 most] 24) := by rw [← hW0]; exact World.alloc_heap_new _ _
  have c0 : W0.cell? ⟨w.heap.size, 0, none⟩ = some (.slice sa ns.length sc) := cell_of h1
  have c1 : W0.cell? ⟨w.heap.size, 1, none⟩ = some (.int .i64 most) := cell_of h1
  have HW := hid hW0
  have HB := hid (And.intro hb0 (hs.below hb0))
  have HC := hid c0
  clear hs hi h1 hW0 hb0
  go_enter Try.func19, Try.ntmps19
  go_upto_region 1 with (fail)
  rw [HW.out]
  by_cases e1 : most < 0
  · have f1 : decide (most < 0) = true := by simp; omega
    go_wp2_with fail
    go_ret
    exact Bb.fin (by simp [chkH]; omega) HB.out.1
  have f1 : decide (most < 0) = false := by simp; omega
  by_cases e2 : most > 5000
  · have f2 : decide (most > 5000) = true := by simp; omega
    go_wp2_with fail
    go_ret
    exact Bb.fin (by simp [chkH]; omega) HB.out.1
  have f2 : decide (most > 5000) = false := by simp; omega
  by_cases e3 : (ns.length : Int) > most
  · have f3 : decide ((ns.length : Int) > most) = true := by simp; omega
    go_wp2_with fail
    go_ret
    exact Bb.fin (by simp [chkH]; omega) HB.out.1
  have f3 : decide ((ns.length : Int) > most) = false := by simp; omega
  go_wp2_with fail
  clear c0 c1 f1 f2 f3
  go_loopw [3] (fun i wr => ∃ k : Nat, k ≤ ns.length ∧ i = .int .i64 k ∧ Hid (∀ (j : Nat) (x : Nd), j < k → ns[j]? = some x → mayN x ns.length = true) ∧ Below W0.heap.size W0 wr) (fun i _ => ns.length - (intOf i).toNat)
  case atStart => exact ⟨0, Nat.zero_le _, rfl, fun j x hj => absurd hj (by omega), Below.refl _ _⟩
  case round =>
    obtain ⟨k, hk, rfl, HA, hb⟩ := hrel
    obtain ⟨wo, rfl⟩ : ∃ wo : World, wo = wr := ⟨_, rfl⟩
    have c0 : wo.cell? ⟨w.heap.size, 0, none⟩ = some (.slice sa ns.length sc) := later_cell hb HC.out
    by_cases hlt : k < ns.length
    · go_wp2_with fail
      obtain ⟨b1, o1, c1', x, sx, cx, hv1, hx, hk1, hk2, hsx, d0, d1, d2, d3⟩ := HB.out.2.at hb (k := k) hlt
      cases hv1
      obtain ⟨w5, hw5⟩ : ∃ w5, wo.drew = w5 := ⟨_, rfl⟩
      have hmay := rmay_any w5 _ (.agg #[.int .i64 x.kind, .int .i64 x.num, .string x.name, .slice sx x.kids.length cx]) x ns.length ⟨sx, cx, rfl, hk1, hk2, by rw [← hw5]; exact hsx⟩ ⟨by omega, by omega⟩
      have b5 : Below W0.heap.size W0 w5 := by rw [← hw5]; exact hb.drew
      have HX := hid hx
      have HCC : Hid (∀ W, Below w5.heap.size w5 W → W.cell? ⟨w.heap.size, 0, none⟩ = some (.slice (some ⟨b1, o1, none⟩) ns.length sc) ∧
          (W.cell? ⟨b1, o1 + k * 4, none⟩ = some (.int .i64 x.kind) ∧ W.cell? ⟨b1, o1 + k * 4 + 1, none⟩ = some (.int .i64 x.num) ∧ W.cell? ⟨b1, o1 + k * 4 + 2, none⟩ = some (.string x.name) ∧ W.cell? ⟨b1, o1 + k * 4 + 3, none⟩ = some (.slice sx x.kids.length cx))) := fun W hW => by
        rw [← hw5] at hW
        exact ⟨later_cell hW c0, later_cell hW d0, later_cell hW d1, later_cell hW d2, later_cell hW d3⟩
      have HN := hid hmay
      have HBB := hid b5
      clear d0 d1 d2 d3 hx hmay hsx hb b5 hk1 hk2
      refine (wpIn_wide (n := 9)).1 ?_
      refine wpIn_region_held (fun W => Below w5.heap.size w5 W) (by kernel_rfl) ?_
      rw [hw5]
      clear hw5
      refine wpAnyHF_takeD (i := 0) 28 (v := .pointer (some ⟨w.heap.size, 0, none⟩)) rfl rfl rfl (by kernel_rfl) (by kernel_rfl) (by kernel_rfl) (fun _ _ _ h => h) ⟨.inl ⟨rfl, fun W hW => by simp [execOp, go_sem]⟩, fun W => rfl⟩ (Below.refl _ _) ?_
      refine wpAnyHF_takeD (i := 1) 29 (v := .slice (some ⟨b1, o1, none⟩) ns.length sc) rfl rfl rfl (by kernel_rfl) (by kernel_rfl) (by kernel_rfl) (fun _ _ _ h => h) ⟨.inl ⟨rfl, fun W hW => by have c := (HCC.out W hW).1; simp [execOp, go_sem, c]⟩, fun W => rfl⟩ (Below.refl _ _) ?_
      refine wpAnyHF_takeD (i := 2) 30 (v := .int .i64 k) rfl rfl rfl (by kernel_rfl) (by kernel_rfl) (by kernel_rfl) (fun _ _ _ h => h) ⟨.inl ⟨rfl, fun W hW => by simp [execOp, go_sem]⟩, fun W => rfl⟩ (Below.refl _ _) ?_
      simp only [Act.put, List.setIfInBounds_toArray, List.set_cons_zero, List.set_cons_succ]
      refine wpAnyHF_takeD (i := 3) 31 (v := .pointer (some ⟨b1, o1 + k * 4, none⟩)) rfl rfl rfl (by kernel_rfl) (by kernel_rfl) (by kernel_rfl) (fun _ _ _ h => h) ⟨.inl ⟨rfl, fun W hW => by simp [execOp, go_sem, hlt]⟩, fun W => rfl⟩ (Below.refl _ _) ?_
      refine wpAnyHF_takeD (i := 4) 32 (v := .agg #[.int .i64 x.kind, .int .i64 x.num, .string x.name, .slice sx x.kids.length cx]) rfl rfl rfl (by kernel_rfl) (by kernel_rfl) (by kernel_rfl) (fun _ _ _ h => h) ⟨.inl ⟨rfl, fun W hW => by have c := (HCC.out W hW).2; simp [execOp, go_sem, c.1, c.2.1, c.2.2.1, c.2.2.2]⟩, fun W => rfl⟩ (Below.refl _ _) ?_
      simp only [Act.put, List.setIfInBounds_toArray, List.set_cons_zero, List.set_cons_succ]
      refine wpAnyHF_takeD (i := 5) 33 (v := .pointer (some ⟨w.heap.size, 0, none⟩)) rfl rfl rfl (by kernel_rfl) (by kernel_rfl) (by kernel_rfl) (fun _ _ _ h => h) ⟨.inl ⟨rfl, fun W hW => by simp [execOp, go_sem]⟩, fun W => rfl⟩ (Below.refl _ _) ?_
      refine wpAnyHF_takeD (i := 6) 34 (v := .slice (some ⟨b1, o1, none⟩) ns.length sc) rfl rfl rfl (by kernel_rfl) (by kernel_rfl) (by kernel_rfl) (fun _ _ _ h => h) ⟨.inl ⟨rfl, fun W hW => by have c := (HCC.out W hW).1; simp [execOp, go_sem, c]⟩, fun W => rfl⟩ (Below.refl _ _) ?_
      refine wpAnyHF_takeD (i := 7) 35 (v := .int .i64 ns.length) rfl rfl rfl (by kernel_rfl) (by kernel_rfl) (by kernel_rfl) (fun _ _ _ h => h) ⟨.inl ⟨rfl, fun W hW => by simp [execOp, resolve, invoke, builtin, go_sem]⟩, fun W => rfl⟩ (Below.refl _ _) ?_
      simp only [Act.put, List.setIfInBounds_toArray, List.set_cons_zero, List.set_cons_succ]
      refine wpAnyHF_one (i := 8) (by kernel_rfl) rfl rfl ?_
      refine wpIn_callD 36 rfl (P := Try.prog) (f := 29) (args := #[.agg #[.int .i64 x.kind, .int .i64 x.num, .string x.name, .slice sx x.kids.length cx], .int .i64 ns.length]) (by simp [execOp, resolve, invoke, go_sem]) ?_
      refine HN.out.mono ?_
      rintro e w6 ⟨rfl, b6⟩
      refine ⟨_, rfl, b6, ?_⟩
      refine wpAnyHF_takeD (i := 9) 4 (v := .bool (mayN x ns.length)) rfl rfl rfl (by kernel_rfl) (by kernel_rfl) (by kernel_rfl) (fun _ _ _ h => h) ⟨.inl ⟨rfl, fun W hW => by simp [execOp, go_sem]⟩, fun W => rfl⟩ b6 ?_
      simp only [Act.put, List.setIfInBounds_toArray, List.set_cons_zero, List.set_cons_succ]
      refine wpAnyHF_done (by kernel_rfl) ?_ _
      have B6 := hid (HBB.out.trans (b6.mono HBB.out.size))
      clear b6 HN HCC HBB
      cases hq : mayN x ns.length
      · have HQ := hid (chkH_no (h := ⟨ns, most⟩) HX.out hq)
        gi_wp2
        go_wp2_with fail
        go_ret
        exact Bb.fin HQ.out.symm (HB.out.1.trans (B6.out.mono HB.out.1.size))
      · have HQ := hid hq
        gi_wp2
        go_wp2_with fail
        go_roundw
        case rel =>
          refine ⟨k + 1, by omega, by go_num, fun j y hj hy => ?_, B6.out⟩
          by_cases e : j = k
          · subst e; rw [HX.out] at hy; cases hy; exact HQ.out
          · exact HA.out j y (by omega) hy
        case measure => simp [intOf]; omega
    · obtain rfl : k = ns.length := by omega
      go_wp2_with fail
      go_ret
      exact Bb.fin (chkH_yes (h := ⟨ns, most⟩) (by simp; omega) (by simp; omega) (by simp; omega) HA.out).symm (HB.out.1.trans (hb.mono HB.out.1.size))
end Go.Proofs.Ytajhchfjoeblgaa
