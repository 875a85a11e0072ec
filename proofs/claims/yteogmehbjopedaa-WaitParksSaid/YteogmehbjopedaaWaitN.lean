/- WaitTells: the walk. -/
import Derived.Test.YteogmehbjopedaaWaitM
namespace Go.Proofs.Yteogmehbjopedaa
open Go.RowKit Go.Shelf Go.Maps
attribute [local go_sem] Oper.semAt_some
theorem few_Fits {xs : List W} (h : few xs = true) : Fits xs ∧ xs.length ≤ 100 :=
  ⟨⟨fun x hx => Nat.le_trans ((few_fits h).2 x hx) (by decide), Nat.le_trans (few_fits h).1 (by decide)⟩, (few_fits h).1⟩
set_option maxRecDepth 100000 in
set_option maxHeartbeats 4000000 in
theorem tells_any (v0 : Value) (t : Int) (v2 : Value) (w : World) (h0 : ∃ xs, WSl w (fun _ => True) v0 xs) (ht : In t) (h2 : ∃ vs, ISl w (fun _ => True) v2 vs) :
    Calls Try.prog 3 #[v0, .int .i64 t, v2] w (Bb true w) := by
  obtain ⟨xs, h⟩ := h0
  obtain ⟨vs, h'⟩ := h2
  obtain ⟨a1, c1, rfl, l1, _⟩ := h.shape
  obtain ⟨a2, c2, rfl, l2, _⟩ := h'.shape
  obtain ⟨p, hp⟩ : ∃ p : W → Bool, p = fun x => x.2.any fun v => vs.contains v := ⟨_, rfl⟩
  have HI := hid (And.intro h (And.intro h' ht))
  obtain ⟨pq, hq⟩ : ∃ p : W → Bool, p = fun x => x.2.contains t := ⟨_, rfl⟩
  have HP := hid hp
  have HPq := hid hq
  clear h h' ht hp hq
  go_enter Try.func3, Try.ntmps3
  go_wp2_with fail
  refine (awake_any w).mono ?_
  rintro e w1 ⟨rfl, b1⟩
  have P := hid (few_any w1 _ _ xs (HI.out.1.below waiterGood b1))
  have B1 := hid b1
  clear b1
  go_wp2_with fail
  refine P.out.mono ?_
  rintro e w2 ⟨rfl, b2⟩
  have B2 := hid (B1.out.trans (b2.mono B1.out.size))
  clear b2 B1 P
  cases q : few xs
  · go_wp2_with fail
    go_ret
    exact Bb.fin rfl B2.out
  have HF := hid (few_Fits q)
  by_cases hv : vs.length ≤ 100
  · have hv' : decide ((vs.length : Int) > 100) = false := by simp; omega
    have P3 := hid (park_any w2 _ _ _ _ t xs vs (HI.out.1.below waiterGood B2.out) (HI.out.2.1.below intGood B2.out) HI.out.2.2 (by have := HF.out.2; omega) (by omega))
    go_wp2_with fail
    refine P3.out.mono ?_
    rintro e w3 ⟨u3, rfl, h3, b3⟩
    have B3 := hid (B2.out.trans (b3.mono B2.out.size))
    obtain ⟨a3, c3, rfl, _⟩ := h3.shape
    have H3 := hid h3
    clear h3 b3 B2 P3
    have P4 := hid (rpark_any w3 _ _ _ _ t xs vs (HI.out.1.below waiterGood B3.out) (HI.out.2.1.below intGood B3.out) HI.out.2.2 (by have := HF.out.2; omega))
    go_wp2_with fail
    refine P4.out.mono ?_
    rintro e w4 ⟨u4, rfl, h4, b4⟩
    obtain ⟨a4, c4, rfl, _⟩ := h4.shape
    have B4 := hid (B3.out.trans (b4.mono B3.out.size))
    have H4 := hid (And.intro (H3.out.below waiterGood b4) h4)
    clear h4 b4 B3 P4 H3
    have P5' := wake_any w4 _ _ _ _ xs vs (HI.out.1.below waiterGood B4.out) (HI.out.2.1.below intGood B4.out) HF.out.1 (by omega)
    rw [← HP.out] at P5'
    have P5 := hid P5'
    clear P5'
    go_wp2_with fail
    refine P5.out.mono ?_
    rintro e w5 ⟨u5, u5', rfl, h5, h5', b5⟩
    obtain ⟨a5, c5, rfl, _⟩ := h5.shape
    obtain ⟨a5', c5', rfl, _⟩ := h5'.shape
    have B5 := hid (B4.out.trans (b5.mono B4.out.size))
    have H5 := hid (And.intro (H4.out.1.below waiterGood b5) (And.intro (H4.out.2.below waiterGood b5) (And.intro h5 h5')))
    clear h5 h5' b5 B4 P5 H4
    have P6' := rwake_any w5 _ _ _ _ xs vs (HI.out.1.below waiterGood B5.out) (HI.out.2.1.below intGood B5.out) (by have := HF.out.2; omega)
    rw [← HP.out] at P6'
    have P6 := hid P6'
    clear P6'
    go_wp2_with fail
    refine P6.out.mono ?_
    rintro e w6 ⟨u6, u6', rfl, h6, h6', b6⟩
    obtain ⟨a6, c6, rfl, _⟩ := h6.shape
    obtain ⟨a6', c6', rfl, _⟩ := h6'.shape
    have B6 := hid (B5.out.trans (b6.mono B5.out.size))
    have P7 := same_any w6 _ _ _ _ _ _ (H5.out.1.below waiterGood b6) (H5.out.2.1.below waiterGood b6)
    rw [beq_self_eq_true] at P7
    have H6 := hid (And.intro (H5.out.2.2.1.below intGood b6) (And.intro (H5.out.2.2.2.below waiterGood b6) (And.intro h6 h6')))
    have P7' := hid P7
    clear P7 h6 h6' b6 B5 P6 H5
    go_wp2_with fail
    refine P7'.out.mono ?_
    rintro e w7 ⟨rfl, b7⟩
    have B7 := hid (B6.out.trans (b7.mono B6.out.size))
    have P8 := numbers_any w7 _ _ _ _ _ _ (H6.out.1.below intGood b7) (H6.out.2.2.1.below intGood b7)
    rw [beq_self_eq_true] at P8
    have P8' := hid P8
    have H7 := hid (And.intro (H6.out.2.1.below waiterGood b7) (H6.out.2.2.2.below waiterGood b7))
    clear P8 b7 B6 P7' H6
    go_wp2_with fail
    refine P8'.out.mono ?_
    rintro e w8 ⟨rfl, b8⟩
    have B8 := hid (B7.out.trans (b8.mono B7.out.size))
    have P9 := same_any w8 _ _ _ _ _ _ (H7.out.1.below waiterGood b8) (H7.out.2.below waiterGood b8)
    rw [beq_self_eq_true] at P9
    have P9' := hid P9
    clear P9 b8 B7 P8' H7
    go_wp2_with fail
    refine P9'.out.mono ?_
    rintro e w9 ⟨rfl, b9⟩
    have B9 := hid (B8.out.trans (b9.mono B8.out.size))
    clear b9 B8 P9'
    have P10 := hid (check_any w9 _ _ xs (HI.out.1.below waiterGood B9.out) (by have := HF.out.2; omega))
    go_wp2_with fail
    refine P10.out.mono ?_
    rintro e w10 ⟨rfl, b10⟩
    have B10 := hid (B9.out.trans (b10.mono B9.out.size))
    clear b10 B9 P10
    have P11 := hid (rcheck_any w10 _ _ xs (HI.out.1.below waiterGood B10.out))
    go_wp2_with fail
    refine P11.out.mono ?_
    rintro e w11 ⟨rfl, b11⟩
    have B11 := hid (B10.out.trans (b11.mono B10.out.size))
    clear b11 B10 P11
    have P12 := hid (leave_any w11 _ _ t xs (HI.out.1.below waiterGood B11.out) HF.out.1)
    go_wp2_with fail
    refine P12.out.mono ?_
    rintro e w12 ⟨u12, rfl, h12, b12⟩
    obtain ⟨a12, c12, rfl, _⟩ := h12.shape
    have B12 := hid (B11.out.trans (b12.mono B11.out.size))
    have H12 := hid h12
    clear h12 b12 B11 P12
    have P13 := hid (rleave_any w12 _ _ t xs (HI.out.1.below waiterGood B12.out) (by have := HF.out.2; omega))
    go_wp2_with fail
    refine P13.out.mono ?_
    rintro e w13 ⟨u13, rfl, h13, b13⟩
    obtain ⟨a13, c13, rfl, _⟩ := h13.shape
    have B13 := hid (B12.out.trans (b13.mono B12.out.size))
    have P14 := same_any w13 _ _ _ _ _ _ (H12.out.below waiterGood b13) h13
    rw [beq_self_eq_true] at P14
    have P14' := hid P14
    clear P14 h13 b13 B12 P13 H12
    go_wp2_with fail
    refine P14'.out.mono ?_
    rintro e w14 ⟨rfl, b14⟩
    have B14 := hid (B13.out.trans (b14.mono B13.out.size))
    clear b14 B13 P14'
    have P15' := queue_any w14 _ _ t xs (HI.out.1.below waiterGood B14.out) HF.out.1
    rw [← HPq.out] at P15'
    have P15 := hid P15'
    clear P15'
    go_wp2_with fail
    refine P15.out.mono ?_
    rintro e w15 ⟨u15, rfl, h15, b15⟩
    obtain ⟨a15, c15, rfl, _⟩ := h15.shape
    have B15 := hid (B14.out.trans (b15.mono B14.out.size))
    have H15 := hid h15
    clear h15 b15 B14 P15
    have P16' := rqueue_any w15 _ _ t xs (HI.out.1.below waiterGood B15.out) HI.out.2.2 (by have := HF.out.2; omega)
    rw [← HPq.out] at P16'
    have P16 := hid P16'
    clear P16'
    go_wp2_with fail
    refine P16.out.mono ?_
    rintro e w16 ⟨u16, rfl, h16, b16⟩
    obtain ⟨a16, c16, rfl, _⟩ := h16.shape
    have B16 := hid (B15.out.trans (b16.mono B15.out.size))
    have P17 := numbers_any w16 _ _ _ _ _ _ (H15.out.below intGood b16) h16
    rw [beq_self_eq_true] at P17
    have P17' := hid P17
    clear P17 h16 b16 B15 P16 H15
    go_wp2_with fail
    refine P17'.out.mono ?_
    rintro e w17 ⟨rfl, b17⟩
    have B17 := hid (B16.out.trans (b17.mono B16.out.size))
    clear b17 B16 P17'
    go_wp2_with fail
    go_ret
    exact Bb.fin rfl B17.out
  · have hv' : decide ((vs.length : Int) > 100) = true := by simp; omega
    go_wp2_with fail
    go_ret
    exact Bb.fin rfl B2.out
end Go.Proofs.Yteogmehbjopedaa
