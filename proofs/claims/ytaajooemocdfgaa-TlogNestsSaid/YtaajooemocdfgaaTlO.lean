/- The reference of tlog: Same: what it returns. -/
import Derived.Test.YtaajooemocdfgaaTlN
namespace Go.Proofs.Ytaajooemocdfgaa
open Go.RowKit Go.Shelf Go.Maps
attribute [local go_sem] Oper.semAt_some
theorem later_cell {w W : World} (h : Below w.heap.size w W) {a : Addr} {v : Value} (hc : w.cell? a = some v) : W.cell? a = some v := by
  rw [h.cell (World.block_lt_of_cell? w a hc)]; exact hc
set_option maxRecDepth 100000 in
set_option maxHeartbeats 8000000 in
theorem same_any (w : World) (ok ok' : Nat → Prop) (v v' : Value) (l m : Lg) (h : GVal w ok v l) (h' : GVal w ok' v' m) : Calls Try.prog 12 #[v, v'] w (Bb (decide (l = m)) w) := by
  obtain ⟨ra, rc, la, lc, rfl, hr, hl⟩ := h
  obtain ⟨_, _, e, l1, _⟩ := hr.shape
  cases e
  obtain ⟨_, _, e, l2, _⟩ := hl.shape
  cases e
  obtain ⟨sa, sc, ma, mc, rfl, hr', hl'⟩ := h'
  obtain ⟨_, _, e, l3, _⟩ := hr'.shape
  cases e
  obtain ⟨_, _, e, l4, _⟩ := hl'.shape
  cases e
  obtain ⟨q, hq⟩ : ∃ q, q = decide (l = m) := ⟨_, rfl⟩
  rw [← hq]
  have HQ := hid hq
  clear hq
  obtain ⟨R, L⟩ := l
  obtain ⟨R', L'⟩ := m
  simp only at hr hl hr' hl' l1 l2 l3 l4 HQ ⊢
  obtain ⟨W0, hW0⟩ : ∃ W0, (w.alloc (Obj.cells #[.slice ra R.length rc, .slice la L.length lc] 25)).alloc (Obj.cells #[.slice sa R'.length sc, .slice ma L'.length mc] 25) = W0 := ⟨_, rfl⟩
  have hb0 : Below w.heap.size w W0 := by rw [← hW0]; exact ((Below.refl _ _).alloc (Nat.le_refl _) _).alloc (by simp) _
  have h0 : W0.heap[w.heap.size]? = some (.cells #[.slice ra R.length rc, .slice la L.length lc] 25) := by rw [← hW0]; exact heap_one _ _ _
  have h1 : W0.heap[w.heap.size + 1]? = some (.cells #[.slice sa R'.length sc, .slice ma L'.length mc] 25) := by rw [← hW0]; exact heap_two _ _ _
  have HH := hid (And.intro hr (And.intro hl (And.intro hr' (And.intro hl' (And.intro hb0 (And.intro h0 h1))))))
  have HW := hid hW0
  clear hr hl hr' hl' hb0 h0 h1 hW0
  go_enter Try.func12, Try.ntmps12
  go_upto_region 1 with (fail)
  rw [HW.out]
  clear HW
  have c0 : W0.cell? ⟨w.heap.size, 0, none⟩ = some (.slice ra R.length rc) := cell_of HH.out.2.2.2.2.2.1
  have c1 : W0.cell? ⟨w.heap.size, 1, none⟩ = some (.slice la L.length lc) := cell_of HH.out.2.2.2.2.2.1
  have d0 : W0.cell? ⟨w.heap.size + 1, 0, none⟩ = some (.slice sa R'.length sc) := cell_of HH.out.2.2.2.2.2.2
  have d1 : W0.cell? ⟨w.heap.size + 1, 1, none⟩ = some (.slice ma L'.length mc) := cell_of HH.out.2.2.2.2.2.2
  by_cases e1 : R.length = R'.length
  · have f1 : ((R.length : Int) != R'.length) = false := by simp; omega
    by_cases e2 : L.length = L'.length
    · have f2 : ((L.length : Int) != L'.length) = false := by simp; omega
      have HE := hid (And.intro e1 e2)
      clear e1 e2
      go_upto_region 4 with (fail)
      clear c0 c1 d0 d1
      go_loopw [5] (fun i wr => ∃ k : Nat, k ≤ R.length ∧ i = .int .i64 k ∧ Hid (∀ j, j < k → R[j]? = R'[j]?) ∧ Below W0.heap.size W0 wr) (fun i _ => R.length - (intOf i).toNat)
      case atStart => exact ⟨0, Nat.zero_le _, rfl, fun j hj => absurd hj (by omega), Below.refl _ _⟩
      case round =>
        obtain ⟨k, hk, rfl, HA, hb⟩ := hrel
        have c0 : wr.cell? ⟨w.heap.size, 0, none⟩ = some (.slice ra R.length rc) := (hb.cell (lt_of_some HH.out.2.2.2.2.2.1)).trans (cell_of HH.out.2.2.2.2.2.1)
        have c1 : wr.cell? ⟨w.heap.size, 1, none⟩ = some (.slice la L.length lc) := (hb.cell (lt_of_some HH.out.2.2.2.2.2.1)).trans (cell_of HH.out.2.2.2.2.2.1)
        have d0 : wr.cell? ⟨w.heap.size + 1, 0, none⟩ = some (.slice sa R'.length sc) := (hb.cell (lt_of_some HH.out.2.2.2.2.2.2)).trans (cell_of HH.out.2.2.2.2.2.2)
        have d1 : wr.cell? ⟨w.heap.size + 1, 1, none⟩ = some (.slice ma L'.length mc) := (hb.cell (lt_of_some HH.out.2.2.2.2.2.2)).trans (cell_of HH.out.2.2.2.2.2.2)
        by_cases hlt : k < R.length
        · obtain ⟨b1, o1, c1', x, hv1, hx, _, _, q1, q1'⟩ := (HH.out.1.more HH.out.2.2.2.2.1).at hb (k := k) hlt
          obtain ⟨b2, o2, c2', y, hv2, hy, _, _, q2, q2'⟩ := (HH.out.2.2.1.more HH.out.2.2.2.2.1).at hb (k := k) (by have := HE.out.1; omega)
          cases hv1; cases hv2
          have hlt' : k < R'.length := by have := HE.out.1; omega
          have HF := hid (And.intro hx hy)
          have hne := fun W => neqR W x.1 x.2 y.1 y.2
          have HBW := hid (HH.out.2.2.2.2.1.trans (hb.mono HH.out.2.2.2.2.1.size))
          clear hx hy
          cases hxy : !(x.1 == y.1 && x.2 == y.2)
          · rw [hxy] at hne
            have HX := hid hxy
            clear hxy
            go_wp2
            go_quiet (fail)
            go_wp2
            go_roundw
            case rel =>
              exact ⟨k + 1, by omega, by go_num, fun j hj => by
                by_cases h : j = k
                · subst h; rw [HF.out.1, HF.out.2]; have := HX.out; rw [bne_pr] at this; simp at this; rw [this]
                · exact HA.out j (by omega), below_drewN hb _⟩
            case measure => simp [intOf]; omega
          · rw [hxy] at hne
            have HX := hid hxy
            clear hxy
            go_wp2
            go_quiet (fail)
            go_wp2
            go_ret
            refine Bb.fin (HQ.out.trans (decide_eq_false ?_)).symm (below_drewN HBW.out _)
            intro e; cases e
            have h1 := HF.out.1; have h2 := HF.out.2
            rw [h1] at h2; cases h2
            have := HX.out; simp at this
        · obtain rfl : k = R.length := by omega
          have HR := hid (show R = R' from by have := beqP_true HE.out.1 HA.out; simpa using this)
          go_upto_region 9 with (fail)
          clear c0 c1 d0 d1
          go_loopw [6] (fun i wr => ∃ k : Nat, k ≤ L.length ∧ i = .int .i64 k ∧ Hid (∀ j, j < k → L[j]? = L'[j]?) ∧ Below W0.heap.size W0 wr) (fun i _ => L.length - (intOf i).toNat)
          case atStart => exact ⟨0, Nat.zero_le _, rfl, fun j hj => absurd hj (by omega), hb⟩
          case round =>
            clear hb HA
            obtain ⟨k, hk, rfl, HA, hb⟩ := hrel
            have c1 : wr.cell? ⟨w.heap.size, 1, none⟩ = some (.slice la L.length lc) := (hb.cell (lt_of_some HH.out.2.2.2.2.2.1)).trans (cell_of HH.out.2.2.2.2.2.1)
            have d1 : wr.cell? ⟨w.heap.size + 1, 1, none⟩ = some (.slice ma L'.length mc) := (hb.cell (lt_of_some HH.out.2.2.2.2.2.2)).trans (cell_of HH.out.2.2.2.2.2.2)
            by_cases hlt : k < L.length
            · obtain ⟨b1, o1, cc1, x, xa, xc, hv1, hx, hs, q1⟩ := (HH.out.2.1.more HH.out.2.2.2.2.1).at hb (k := k) hlt
              obtain ⟨b2, o2, cc2, y, ya, yc, hv2, hy, ht, q2⟩ := (HH.out.2.2.2.1.more HH.out.2.2.2.2.1).at hb (k := k) (by have := HE.out.2; omega)
              cases hv1; cases hv2
              have hlt' : k < L'.length := by have := HE.out.2; omega
              have HF := hid (And.intro hx hy)
              have HBW := hid (HH.out.2.2.2.2.1.trans (hb.mono HH.out.2.2.2.2.1.size))
              have HBB := hid hb
              have HBR := hid hb
              have C1 := hid c1
              have D1 := hid d1
              have Q1 := hid q1
              have Q2 := hid q2
              obtain ⟨t, hT⟩ : ∃ t, t = (x == y) := ⟨_, rfl⟩
              have HN := hid (fun W (hB : Below wr.heap.size wr W) => writes_any W _ _ _ _ x y (hs.more hB) (ht.more hB))
              rw [← hT] at HN
              have HT := hid hT
              clear hx hy hs ht hT q1 q2 hb
              go_upto_region 11 with (fail)
              clear c1 d1
              have BD := hid (Below.refl wr.heap.size wr).drew
              refine (wpIn_wide (n := 9)).1 ?_
              refine wpIn_region_held (fun W => Below wr.heap.size wr W) (by kernel_rfl) ?_
              obtain ⟨w5, hw5⟩ : ∃ w5, wr.drew = w5 := ⟨_, rfl⟩
              rw [hw5] at BD ⊢
              clear hw5
              refine wpAnyHF_takeD (i := 0) 49 (v := .pointer (some ⟨w.heap.size, 1, none⟩)) rfl rfl rfl (by kernel_rfl) (by kernel_rfl) (by kernel_rfl) (fun _ _ _ h => h) ⟨.inl ⟨rfl, fun W hW => by simp [execOp, go_sem]⟩, fun W => rfl⟩ BD.out ?_
              refine wpAnyHF_takeD (i := 1) 50 (v := .slice (some ⟨b1, o1, none⟩) L.length lc) rfl rfl rfl (by kernel_rfl) (by kernel_rfl) (by kernel_rfl) (fun _ _ _ h => h) ⟨.inl ⟨rfl, fun W hW => by have m0 := later_cell hW C1.out; simp [execOp, go_sem, m0]⟩, fun W => rfl⟩ BD.out ?_
              refine wpAnyHF_takeD (i := 2) 51 (v := .int .i64 k) rfl rfl rfl (by kernel_rfl) (by kernel_rfl) (by kernel_rfl) (fun _ _ _ h => h) ⟨.inl ⟨rfl, fun W hW => by simp [execOp, go_sem]⟩, fun W => rfl⟩ BD.out ?_
              simp only [Act.put, List.setIfInBounds_toArray, List.set_cons_zero, List.set_cons_succ]
              refine wpAnyHF_takeD (i := 3) 52 (v := .pointer (some ⟨b1, o1 + k, none⟩)) rfl rfl rfl (by kernel_rfl) (by kernel_rfl) (by kernel_rfl) (fun _ _ _ h => h) ⟨.inl ⟨rfl, fun W hW => by simp [execOp, go_sem, hlt]⟩, fun W => rfl⟩ BD.out ?_
              refine wpAnyHF_takeD (i := 4) 53 (v := .slice xa x.length xc) rfl rfl rfl (by kernel_rfl) (by kernel_rfl) (by kernel_rfl) (fun _ _ _ h => h) ⟨.inl ⟨rfl, fun W hW => by have m0 := later_cell hW Q1.out; simp [execOp, go_sem, m0]⟩, fun W => rfl⟩ BD.out ?_
              refine wpAnyHF_takeD (i := 5) 54 (v := .pointer (some ⟨w.heap.size + 1, 1, none⟩)) rfl rfl rfl (by kernel_rfl) (by kernel_rfl) (by kernel_rfl) (fun _ _ _ h => h) ⟨.inl ⟨rfl, fun W hW => by simp [execOp, go_sem]⟩, fun W => rfl⟩ BD.out ?_
              simp only [Act.put, List.setIfInBounds_toArray, List.set_cons_zero, List.set_cons_succ]
              refine wpAnyHF_takeD (i := 6) 55 (v := .slice (some ⟨b2, o2, none⟩) L'.length mc) rfl rfl rfl (by kernel_rfl) (by kernel_rfl) (by kernel_rfl) (fun _ _ _ h => h) ⟨.inl ⟨rfl, fun W hW => by have m0 := later_cell hW D1.out; simp [execOp, go_sem, m0]⟩, fun W => rfl⟩ BD.out ?_
              refine wpAnyHF_takeD (i := 7) 56 (v := .int .i64 k) rfl rfl rfl (by kernel_rfl) (by kernel_rfl) (by kernel_rfl) (fun _ _ _ h => h) ⟨.inl ⟨rfl, fun W hW => by simp [execOp, go_sem]⟩, fun W => rfl⟩ BD.out ?_
              refine wpAnyHF_takeD (i := 8) 57 (v := .pointer (some ⟨b2, o2 + k, none⟩)) rfl rfl rfl (by kernel_rfl) (by kernel_rfl) (by kernel_rfl) (fun _ _ _ h => h) ⟨.inl ⟨rfl, fun W hW => by simp [execOp, go_sem, hlt']⟩, fun W => rfl⟩ BD.out ?_
              simp only [Act.put, List.setIfInBounds_toArray, List.set_cons_zero, List.set_cons_succ]
              refine wpAnyHF_takeD (i := 9) 58 (v := .slice ya y.length yc) rfl rfl rfl (by kernel_rfl) (by kernel_rfl) (by kernel_rfl) (fun _ _ _ h => h) ⟨.inl ⟨rfl, fun W hW => by have m0 := later_cell hW Q2.out; simp [execOp, go_sem, m0]⟩, fun W => rfl⟩ BD.out ?_
              refine wpAnyHF_one (i := 10) (by kernel_rfl) rfl rfl ?_
              refine wpIn_callD 59 rfl (P := Try.prog) (f := 29) (args := #[.slice xa x.length xc, .slice ya y.length yc]) (by simp [execOp, resolve, invoke, go_sem]) ?_
              refine (HN.out _ BD.out).mono ?_
              rintro e w6 ⟨rfl, b6⟩
              have b7 := BD.out.trans (b6.mono BD.out.size)
              refine ⟨_, rfl, b7, ?_⟩
              simp only [Act.put, List.setIfInBounds_toArray, List.set_cons_zero, List.set_cons_succ]
              refine wpAnyHF_takeD (i := 11) 7 (v := .bool t) rfl rfl rfl (by kernel_rfl) (by kernel_rfl) (by kernel_rfl) (fun _ _ _ h => h) ⟨.inl ⟨rfl, fun W hW => by simp [execOp, go_sem]⟩, fun W => rfl⟩ b7 ?_
              simp only [Act.put, List.setIfInBounds_toArray, List.set_cons_zero, List.set_cons_succ]
              refine wpAnyHF_done (by kernel_rfl) ?_ _
              have B7 := hid b7
              clear b7 b6 BD HN HBB
              cases t
              · gi_wp2
                go_wp2_with fail
                go_ret
                refine Bb.fin (HQ.out.trans (decide_eq_false ?_)).symm (HBW.out.trans (B7.out.mono HBW.out.size))
                intro e; cases e
                have h1 := HF.out.1; have h2 := HF.out.2
                rw [h1] at h2; cases h2
                have := HT.out; simp at this
              · gi_wp2
                go_wp2_with fail
                go_roundw
                case rel =>
                  have h9 := HBR.out.trans (B7.out.mono HBR.out.size)
                  refine ⟨k + 1, by omega, by go_num, fun j hj => ?_, h9⟩
                  by_cases e : j = k
                  · subst e; rw [HF.out.1, HF.out.2]; have := HT.out; simp at this; rw [this]
                  · exact HA.out j (by omega)
                case measure => simp [intOf]; omega
            · obtain rfl : k = L.length := by omega
              have HBW := hid (HH.out.2.2.2.2.1.trans (hb.mono HH.out.2.2.2.2.1.size))
              go_wp2_with fail
              go_ret
              refine Bb.fin (HQ.out.trans (decide_eq_true ?_)).symm HBW.out
              have := beqP_true HE.out.2 HA.out
              rw [HR.out, show L = L' by simpa using this]
    · have f2 : ((L.length : Int) != L'.length) = true := by simp; omega
      have HE2 := hid e2
      clear e1 e2
      go_wp2_with fail
      go_ret
      refine Bb.fin (HQ.out.trans (decide_eq_false ?_)).symm HH.out.2.2.2.2.1
      intro e; cases e; exact HE2.out rfl
  · have f1 : ((R.length : Int) != R'.length) = true := by simp; omega
    have HE1 := hid e1
    clear e1
    go_wp2_with fail
    go_ret
    refine Bb.fin (HQ.out.trans (decide_eq_false ?_)).symm HH.out.2.2.2.2.1
    intro e; cases e; exact HE1.out rfl
end Go.Proofs.Ytaajooemocdfgaa
