/- The reference of wait: Check, Few, waits, Same: what each returns. -/
import Derived.Test.YteogmehbjopedaaWaitF
namespace Go.Proofs.Yteogmehbjopedaa
open Go.RowKit Go.Shelf Go.Maps
def few (xs : List W) : Bool := decide (xs.length ≤ 100) && xs.all fun x => decide (x.2.length ≤ 100)
theorem few_fits {xs : List W} (h : few xs = true) : xs.length ≤ 100 ∧ ∀ x ∈ xs, x.2.length ≤ 100 := by
  simp [few] at h
  exact ⟨h.1, fun x hx => h.2 x.1 x.2 hx⟩
set_option maxHeartbeats 1000000 in
theorem few_any (w : World) (ok : Nat → Prop) (lv : Value) (xs : List W) (h : WSl w ok lv xs) :
    Calls Try.prog 8 #[lv] w (Bb (few xs) w) := by
  obtain ⟨a1, c1, rfl, l1, _⟩ := h.shape
  by_cases hl : xs.length ≤ 100
  · go_enter Try.func8, Try.ntmps8
    go_wp2
    go_loopw [3] (fun i wr => ∃ k : Nat, k ≤ xs.length ∧ i = .int .i64 k ∧ Hid (∀ j x, j < k → xs[j]? = some x → x.2.length ≤ 100) ∧ Below w.heap.size w wr) (fun i _ => xs.length - (intOf i).toNat)
    case atStart => exact ⟨0, Nat.zero_le _, rfl, fun j x hj => absurd hj (by omega), Below.refl _ _⟩
    case round =>
      obtain ⟨k, hk, rfl, HA, hb⟩ := hrel
      by_cases hlt : k < xs.length
      · obtain ⟨b1, o1, c1', x, sv, hv1, hx, hin, hs, e1, e2⟩ := h.at hb (k := k) hlt
        cases hv1
        obtain ⟨sa, sc, rfl, hsl, _⟩ := hs.shape
        have HX := hid hx
        clear hx hs h
        by_cases hq : x.2.length ≤ 100
        · go_wp2
          go_roundw
          case rel =>
            refine ⟨k + 1, by omega, by go_num, fun j y hj hy => ?_, hb⟩
            by_cases e : j = k
            · subst e; rw [HX.out] at hy; cases hy; exact hq
            · exact HA.out j y (by omega) hy
          case measure => simp [intOf]; omega
        · go_wp2
          go_ret
          refine Bb.fin (Eq.symm ?_) hb
          cases hf : few xs
          · rfl
          · exact absurd ((few_fits hf).2 x (List.mem_of_getElem? HX.out)) hq
      · obtain rfl : k = xs.length := by omega
        clear h
        go_wp2
        go_ret
        refine Bb.fin (Eq.symm ?_) hb
        simp only [few, hl, decide_true, Bool.true_and, List.all_eq_true, decide_eq_true_eq]
        intro x hx
        obtain ⟨i, hi⟩ := List.getElem?_of_mem hx
        exact HA.out i x (List.getElem?_eq_some_iff.1 hi).1 hi
  · go_enter Try.func8, Try.ntmps8
    go_wp2
    go_ret
    exact Bb.fin (by simp [few, hl]) (Below.refl _ _)
set_option maxHeartbeats 1000000 in
theorem waits_any (w : World) (ok : Nat → Prop) (lv : Value) (t : Int) (xs : List W) (h : WSl w ok lv xs) :
    Calls Try.prog 28 #[lv, .int .i64 t] w (Bb (xs.any fun x => x.1 == t) w) := by
  obtain ⟨a1, c1, rfl, l1, _⟩ := h.shape
  go_enter Try.func28, Try.ntmps28
  go_wp2
  go_loopw [5] (fun i wr => ∃ k : Nat, k ≤ xs.length ∧ i = .int .i64 k ∧ Hid (∀ j x, j < k → xs[j]? = some x → (x.1 == t) = false) ∧ Below w.heap.size w wr) (fun i _ => xs.length - (intOf i).toNat)
  case atStart => exact ⟨0, Nat.zero_le _, rfl, fun j x hj => absurd hj (by omega), Below.refl _ _⟩
  case round =>
    obtain ⟨k, hk, rfl, HA, hb⟩ := hrel
    by_cases hlt : k < xs.length
    · obtain ⟨b1, o1, c1', x, sv, hv1, hx, hin, hs, e1, e2⟩ := h.at hb (k := k) hlt
      cases hv1
      have HX := hid hx
      clear hx hs h e2
      cases hq : x.1 == t
      · have HQ := hid hq
        go_wp2
        go_roundw
        case rel =>
          refine ⟨k + 1, by omega, by go_num, fun j y hj hy => ?_, hb⟩
          by_cases e : j = k
          · subst e; rw [HX.out] at hy; cases hy; exact HQ.out
          · exact HA.out j y (by omega) hy
        case measure => simp [intOf]; omega
      · have HQ := hid hq
        go_wp2
        go_ret
        exact Bb.fin (any_true_of HX.out HQ.out).symm hb
    · obtain rfl : k = xs.length := by omega
      clear h
      go_wp2
      go_ret
      exact Bb.fin (any_false_of (fun i x hx => HA.out i x (List.getElem?_eq_some_iff.1 hx).1 hx)).symm hb
theorem contains_take {xs : List W} {k : Nat} {t : Int} : ((xs.take k).map (·.1)).contains t = true ↔ ∃ (j : Nat) (y : W), j < k ∧ xs[j]? = some y ∧ y.1 = t := by
  rw [List.contains_iff_mem, List.mem_map]
  constructor
  · rintro ⟨y, hy, rfl⟩
    obtain ⟨j, hj⟩ := List.getElem?_of_mem hy
    have hlt := (List.getElem?_eq_some_iff.1 hj).1
    rw [List.length_take] at hlt
    rw [List.getElem?_take_of_lt (by omega)] at hj
    exact ⟨j, y, by omega, hj, rfl⟩
  · rintro ⟨j, y, hj, hy, rfl⟩
    exact ⟨y, List.mem_of_getElem? (i := j) (by rw [List.getElem?_take_of_lt hj]; exact hy), rfl⟩
set_option maxHeartbeats 2000000 in
theorem rcheck_any (w : World) (ok : Nat → Prop) (lv : Value) (xs : List W) (h : WSl w ok lv xs) :
    Calls Try.prog 16 #[lv] w (Bb (chk xs) w) := by
  obtain ⟨a1, c1, rfl, l1, _⟩ := h.shape
  go_enter Try.func16, Try.ntmps16
  go_wp2
  go_loopw [3] (fun i wr => ∃ k : Nat, k ≤ xs.length ∧ i = .int .i64 k ∧ Hid (∀ j x, j < k → xs[j]? = some x → okAtB xs j x = true) ∧ Below w.heap.size w wr) (fun i _ => xs.length - (intOf i).toNat)
  case atStart => exact ⟨0, Nat.zero_le _, rfl, fun j x hj => absurd hj (by omega), Below.refl _ _⟩
  case round =>
    obtain ⟨k, hk, rfl, HA, hb⟩ := hrel
    obtain ⟨wo, rfl⟩ : ∃ wo : World, wo = wr := ⟨_, rfl⟩
    by_cases hlt : k < xs.length
    · obtain ⟨b1, o1, c1', x, sv, hv1, hx, hin, hs, e1, e2⟩ := h.at hb (k := k) hlt
      cases hv1
      have hlow := rlow_any wo _ sv x.2 hs
      obtain ⟨sa, sc, rfl, _⟩ := hs.shape
      have HX := hid hx
      have HL := hid hlow
      clear hx hlow hs
      go_wp2_with fail
      refine HL.out.mono ?_
      rintro e w2 ⟨rfl, hb2⟩
      have hbw := hb.trans (hb2.mono hb.size)
      have e1' := (hb2.cell (World.block_lt_of_cell? wo _ e1)).trans e1
      clear HL hb2 e1 e2
      cases hc1 : decide (x.1 < 0)
      · cases hc3 : x.2.any fun v => decide (v < 0)
        · have HO : Hid (((xs.take k).map (·.1)).contains x.1 = false → okAtB xs k x = true) := fun hc2 => by rw [okAtB, hc1, hc2, hc3]; rfl
          have HN : Hid (((xs.take k).map (·.1)).contains x.1 = true → okAtB xs k x = false) := fun hc2 => by rw [okAtB, hc1, hc2, hc3]; rfl
          go_wp2
          clear hc1 hc3
          go_loopw [5, 2] (fun i _ wr => ∃ m : Nat, m ≤ k ∧ i = .int .i64 m ∧ Hid (∀ j y, j < m → xs[j]? = some y → (y.1 == x.1) = false) ∧ Below w.heap.size w wr) (fun i _ _ => k - (intOf i).toNat)
          case atStart => exact ⟨0, Nat.zero_le _, rfl, fun j x hj => absurd hj (by omega), hbw⟩
          case round =>
            obtain ⟨m, hm, rfl, HB, hb'⟩ := hrel
            by_cases hlm : m < k
            · obtain ⟨b2, o2, c2', y, sv2, hv2, hy, _, _, e3, e4⟩ := h.at hb' (k := m) (by omega)
              obtain ⟨b3, o3, c3', x', sv3, hv3, hx', _, _, e5, e6⟩ := h.at hb' (k := k) hlt
              cases hv2; cases hv3
              have hxx : x' = x := by have := HX.out; rw [this] at hx'; cases hx'; rfl
              subst hxx
              have HY := hid hy
              clear hx' hy h e4 e6 e1'
              cases hq : y.1 == x'.1
              · have HQ := hid hq
                go_wp2
                go_quiet (fail)
                go_wp2
                go_roundw
                case rel =>
                  refine ⟨m + 1, by omega, by go_num, fun j z hj hz => ?_, below_drewN hb' _⟩
                  by_cases e : j = m
                  · subst e; rw [HY.out] at hz; cases hz; exact HQ.out
                  · exact HB.out j z (by omega) hz
                case measure => simp [intOf]; omega
              · have HQ := hid hq
                go_wp2
                go_quiet (fail)
                go_wp2
                go_ret
                exact Bb.fin (chk_no HX.out (HN.out (contains_take.2 ⟨m, y, hlm, HY.out, by simpa using HQ.out⟩))).symm (below_drewN hb' _)
            · obtain rfl : m = k := by omega
              have HO' : Hid (okAtB xs m x = true) := HO.out (by
                cases hc : ((xs.take m).map (·.1)).contains x.1
                · rfl
                · obtain ⟨j, y, hj, hy, e⟩ := contains_take.1 hc
                  have := HB.out j y hj hy
                  rw [e] at this; simp at this)
              clear h e1'
              go_wp2
              go_roundw
              case rel =>
                refine ⟨m + 1, by omega, by go_num, fun j y hj hy => ?_, hb'⟩
                by_cases e : j = m
                · subst e; rw [HX.out] at hy; cases hy; exact HO'.out
                · exact HA.out j y (by omega) hy
              case measure => simp [intOf]; omega
        · have HN : Hid (okAtB xs k x = false) := by show okAtB xs k x = false; rw [okAtB, hc3]; simp
          clear h
          go_wp2
          go_ret
          exact Bb.fin (chk_no HX.out HN.out).symm hbw
      · have HN : Hid (okAtB xs k x = false) := by show okAtB xs k x = false; rw [okAtB, hc1]; rfl
        clear h
        go_wp2
        go_ret
        exact Bb.fin (chk_no HX.out HN.out).symm hbw
    · obtain rfl : k = xs.length := by omega
      clear h
      go_wp2
      go_ret
      exact Bb.fin (chk_yes (fun i x hx => HA.out i x (List.getElem?_eq_some_iff.1 hx).1 hx)).symm hb
theorem wbeq_false {xs ys : List W} {k : Nat} (h : xs[k]? ≠ ys[k]?) : (xs == ys) = false := by
  apply beq_eq_false_iff_ne.2
  intro e; rw [e] at h; exact h rfl
theorem wbeq_true {xs ys : List W} (hl : xs.length = ys.length) (h : ∀ i, i < xs.length → xs[i]? = ys[i]?) : (xs == ys) = true := by
  rw [beq_iff_eq]
  apply List.ext_getElem?
  intro i
  by_cases hi : i < xs.length
  · exact h i hi
  · rw [List.getElem?_eq_none (by omega), List.getElem?_eq_none (by omega)]
set_option maxRecDepth 100000 in
set_option maxHeartbeats 2000000 in
theorem same_any (w : World) (ok ok' : Nat → Prop) (v v' : Value) (xs ys : List W) (h : WSl w ok v xs) (h' : WSl w ok' v' ys) :
    Calls Try.prog 13 #[v, v'] w (Bb (xs == ys) w) := by
  obtain ⟨a1, c1, rfl, l1, _⟩ := h.shape
  obtain ⟨a2, c2, rfl, l2, _⟩ := h'.shape
  by_cases hl : xs.length = ys.length
  · have hle : ((ys.length : Int) != ys.length) = false := by simp
    have HE : xs.length = ys.length → ∀ n, n = xs.length → (∀ i, i < n → xs[i]? = ys[i]?) → (xs == ys) = true := fun h n hn hh => wbeq_true h (fun i hi => hh i (by omega))
    have HL := hid (HE hl)
    clear HE
    have HXL := hid hl
    rw [hl]
    clear hl
    go_enter Try.func13, Try.ntmps13
    go_wp2
    go_loopw [5] (fun i wr => ∃ k : Nat, k ≤ ys.length ∧ i = .int .i64 k ∧ Hid (∀ j, j < k → xs[j]? = ys[j]?) ∧ Below w.heap.size w wr) (fun i _ => ys.length - (intOf i).toNat)
    case atStart => exact ⟨0, Nat.zero_le _, rfl, fun j hj => absurd hj (by omega), Below.refl _ _⟩
    case round =>
      obtain ⟨k, hk, rfl, HA, hb⟩ := hrel
      obtain ⟨wo, rfl⟩ : ∃ wo : World, wo = wr := ⟨_, rfl⟩
      by_cases hlt : k < ys.length
      · obtain ⟨b1, o1, c1', x, sx, hv1, hx, _, hsx, e1, e2⟩ := h.at hb (k := k) (by have := HXL.out; omega)
        obtain ⟨b2, o2, c2', y, sy, hv2, hy, _, hsy, e3, e4⟩ := h'.at hb (k := k) hlt
        cases hv1; cases hv2
        obtain ⟨ax, cx, rfl, lx, _⟩ := hsx.shape
        obtain ⟨ay, cy, rfl, ly, _⟩ := hsy.shape
        have HF := hid (And.intro hx hy)
        clear hx hy
        cases hq1 : x.1 != y.1
        · cases hq2 : ((x.2.length : Int) != y.2.length)
          · have hll : x.2.length = y.2.length := by have := hq2; simp at this; omega
            have HQ := hid (And.intro hq1 hll)
            go_wp2
            go_quiet (fail)
            clear hll hq1
            go_wp2
            go_loopw [6, 4] (fun i _ wr => ∃ m : Nat, m ≤ x.2.length ∧ i = .int .i64 m ∧ Hid (∀ j, j < m → x.2[j]? = y.2[j]?) ∧ Below w.heap.size w wr) (fun i _ _ => x.2.length - (intOf i).toNat)
            case atStart => exact ⟨0, Nat.zero_le _, rfl, fun j hj => absurd hj (by omega), below_drewN hb _⟩
            case round =>
              obtain ⟨m, hm, rfl, HB, hb'⟩ := hrel
              obtain ⟨b1', o1', c1', x', sx', hv1, hx', _, hsx', e1', e2'⟩ := h.at hb' (k := k) (by have := HXL.out; omega)
              obtain ⟨b2', o2', c2', y', sy', hv2, hy', _, hsy', e3', e4'⟩ := h'.at hb' (k := k) hlt
              have ex : x' = x := by rw [HF.out.1] at hx'; cases hx'; rfl
              have ey : y' = y := by rw [HF.out.2] at hy'; cases hy'; rfl
              subst ex; subst ey
              have g1 := hv1
              cases hv2
              have g2 : b1 = b1' ∧ o1 = o1' := by injection g1 with g1 _ _; injection g1 with g1; injection g1 with g1 g2 _; exact ⟨g1, g2⟩
              obtain ⟨rfl, rfl⟩ := g2
              by_cases hlm : m < x'.2.length
              · obtain ⟨p1, q1, r1, u, hw1, hu, _, f1⟩ := hsx'.at (Below.refl _ _) (k := m) hlm
                obtain ⟨p2, q2, r2, z, hw2, hz, _, f2⟩ := hsy'.at (Below.refl _ _) (k := m) (by have := HQ.out.2; omega)
                subst hw1; subst hw2
                have hmz : m < y'.2.length := by have := HQ.out.2; omega
                have HU := hid (And.intro hu hz)
                have HL2 := HQ.out.2
                clear hu hz h h' hx' hy' hsx hsy hsx' hsy' hv1 g1 e1 e2 e3 e4 HL2
                cases hq : u != z
                · have HW := hid hq
                  go_wp2
                  go_quiet (fail)
                  go_wp2
                  go_roundw
                  case rel =>
                    refine ⟨m + 1, by omega, by go_num, fun j hj => ?_, below_drewN hb' _⟩
                    by_cases e : j = m
                    · subst e; rw [HU.out.1, HU.out.2]; have := HW.out; simp at this; rw [this]
                    · exact HB.out j (by omega)
                  case measure => simp [intOf]; omega
                · have HW := hid hq
                  go_wp2
                  go_quiet (fail)
                  go_wp2
                  go_ret
                  refine Bb.fin (wbeq_false (k := k) ?_).symm (below_drewN hb' _)
                  rw [HF.out.1, HF.out.2]
                  intro e; cases e
                  have h1 := HU.out.1; have h2 := HU.out.2
                  rw [h1] at h2; cases h2
                  have := HW.out; simp at this
              · obtain rfl : m = x'.2.length := by omega
                have HK : Hid (xs[k]? = ys[k]?) := by
                  show xs[k]? = ys[k]?
                  rw [HF.out.1, HF.out.2]
                  have h1 : x'.1 = y'.1 := by have := HQ.out.1; simpa using this
                  have h2 : x'.2 = y'.2 := by
                    apply List.ext_getElem?
                    intro i
                    by_cases hi : i < x'.2.length
                    · exact HB.out i hi
                    · rw [List.getElem?_eq_none (by omega), List.getElem?_eq_none (by have := HQ.out.2; omega)]
                  rw [Prod.ext h1 h2]
                obtain ⟨px, qx, rfl, _, _⟩ := hsx'.shape
                obtain ⟨py, qy, rfl, _, _⟩ := hsy'.shape
                clear h h' hx' hy' hsx hsy hsx' hsy' hv1 g1 e1 e2 e3 e4
                go_wp2
                go_roundw
                case rel =>
                  refine ⟨k + 1, by omega, by go_num, fun j hj => ?_, hb'⟩
                  by_cases e : j = k
                  · subst e; exact HK.out
                  · exact HA.out j (by omega)
                case measure => simp [intOf]; omega
          · have HQ := hid hq2
            go_wp2
            go_quiet (fail)
            go_wp2
            go_ret
            exact Bb.fin (wbeq_false (k := k) (by rw [HF.out.1, HF.out.2]; have := HQ.out; intro e; cases e; simp at this)).symm (below_drewN hb _)
        · have HQ := hid hq1
          go_wp2
          go_quiet (fail)
          go_wp2
          go_ret
          exact Bb.fin (wbeq_false (k := k) (by rw [HF.out.1, HF.out.2]; have := HQ.out; intro e; cases e; simp at this)).symm (below_drewN hb _)
      · obtain rfl : k = ys.length := by omega
        clear h h'
        go_wp2
        go_ret
        exact Bb.fin (HL.out _ HXL.out.symm HA.out).symm hb
  · have hle : ((xs.length : Int) != ys.length) = true := by simp; omega
    go_enter Try.func13, Try.ntmps13
    go_wp2
    go_ret
    refine Bb.fin (Eq.symm (beq_eq_false_iff_ne.2 ?_)) (Below.refl _ _)
    intro e; rw [e] at hl; exact hl rfl
end Go.Proofs.Yteogmehbjopedaa
