/- WaitUnion: the walk. -/
import Derived.Test.YteogmehbjopedaaWaitR
namespace Go.Proofs.Yteogmehbjopedaa
open Go.RowKit Go.Shelf Go.Maps
attribute [local go_sem] Oper.semAt_some
set_option maxRecDepth 100000 in
set_option maxHeartbeats 4000000 in
theorem union_any (v0 v1 v2 : Value) (w : World) (h0 : ∃ xs, WSl w (fun _ => True) v0 xs) (h1 : ∃ vs, ISl w (fun _ => True) v1 vs) (h2 : ∃ vs, ISl w (fun _ => True) v2 vs) :
    Calls Try.prog 6 #[v0, v1, v2] w (Bb true w) := by
  obtain ⟨xs, h⟩ := h0
  obtain ⟨va, ha⟩ := h1
  obtain ⟨vb, hb⟩ := h2
  obtain ⟨a1, c1, rfl, l1, _⟩ := h.shape
  obtain ⟨a2, c2, rfl, l2, _⟩ := ha.shape
  obtain ⟨a3, c3, rfl, l3, _⟩ := hb.shape
  obtain ⟨pa, hpa⟩ : ∃ p : W → Bool, p = fun x => x.2.any fun v => va.contains v := ⟨_, rfl⟩
  obtain ⟨pb, hpb⟩ : ∃ p : W → Bool, p = fun x => x.2.any fun v => vb.contains v := ⟨_, rfl⟩
  obtain ⟨vc, hvc⟩ : ∃ vc, vc = va ++ vb := ⟨_, rfl⟩
  obtain ⟨pc, hpc⟩ : ∃ p : W → Bool, p = fun x => x.2.any fun v => vc.contains v := ⟨_, rfl⟩
  have hor : ∀ x, pc x = (pa x || pb x) := fun x => by
    rw [hpa, hpb, hpc, hvc, Bool.eq_iff_iff]
    simp only [List.any_eq_true, List.contains_eq_mem, decide_eq_true_eq, List.mem_append, Bool.or_eq_true]
    constructor
    · rintro ⟨v, h1, h2 | h2⟩
      · exact .inl ⟨v, h1, h2⟩
      · exact .inr ⟨v, h1, h2⟩
    · rintro (⟨v, h1, h2⟩ | ⟨v, h1, h2⟩)
      · exact ⟨v, h1, .inl h2⟩
      · exact ⟨v, h1, .inr h2⟩
  have HI := hid (And.intro h (And.intro ha hb))
  have HP := hid (And.intro hpa (And.intro hpb (And.intro hpc hvc)))
  have HOR := hid hor
  clear h ha hb hpa hpb hpc hor hvc
  go_enter Try.func6, Try.ntmps6
  go_wp2_with fail
  refine (awake_any w).mono ?_
  rintro e w1 ⟨rfl, b1⟩
  have P := hid (few_any w1 _ _ xs (HI.out.1.below waiterGood b1))
  have B1 := hid b1
  clear b1
  go_wp2_with fail
  refine P.out.mono ?_
  rintro e w2 ⟨rfl, b2⟩
  have B2 := hid (B1.out.trans (b2.mono B1.out.size))
  clear b2 B1 P
  cases q : few xs
  · go_wp2_with fail
    go_ret
    exact Bb.fin rfl B2.out
  have HF := hid (few_Fits q)
  by_cases hv : va.length ≤ 100
  · have hv' : decide ((va.length : Int) > 100) = false := by simp; omega
    by_cases hw : vb.length ≤ 100
    · have hw' : decide ((vb.length : Int) > 100) = false := by simp; omega
      have P3' := wake_any w2 _ _ _ _ xs va (HI.out.1.below waiterGood B2.out) (HI.out.2.1.below intGood B2.out) HF.out.1 (by omega)
      rw [← HP.out.1] at P3'
      have P3 := hid P3'
      clear P3'
      go_wp2_with fail
      refine P3.out.mono ?_
      rintro e w3 ⟨u3, u3', rfl, h3, h3', b3⟩
      have hfits := hid (rests_Fits (p := pa) HF.out.1)
      have hbound := HF.out.2
      have hlx := outs_len pa xs
      have hll := union_len HOR.out xs
      have hlz := outs_len pc xs
      have hleft := union_left HOR.out xs
      have hcn := fun hc => union_cnt HOR.out (xs := xs) hc
      obtain ⟨os, hos⟩ : ∃ os, os = outs pa xs := ⟨_, rfl⟩
      obtain ⟨rs, hrs⟩ : ∃ rs, rs = rests pa xs := ⟨_, rfl⟩
      obtain ⟨zs, hzs⟩ : ∃ zs, zs = outs pc xs := ⟨_, rfl⟩
      obtain ⟨ss, hss⟩ : ∃ ss, ss = rests pc xs := ⟨_, rfl⟩
      rw [← hos] at h3 hlx hll
      rw [← hrs] at h3' hleft hll hfits
      rw [← hss] at hleft
      rw [← hzs] at hll hlz
      have hcn' : chk xs = true → cnt os zs zs.length = os.length := by rw [hos, hzs]; exact hcn
      obtain ⟨ys, hys⟩ : ∃ ys, ys = outs pb rs := ⟨_, rfl⟩
      rw [← hys] at hll
      obtain ⟨a4, c4, rfl, _⟩ := h3.shape
      obtain ⟨a4', c4', rfl, _⟩ := h3'.shape
      have B3 := hid (B2.out.trans (b3.mono B2.out.size))
      have H3 := hid (And.intro h3 h3')
      have P4' := wake_any w3 _ _ _ _ rs vb h3' (HI.out.2.2.below intGood B3.out) hfits.out (by omega)
      rw [← HP.out.2.1, hleft, ← hys] at P4'
      have P4 := hid P4'
      have HO := hid (And.intro hcn' (And.intro hzs hss))
      clear P4' h3 h3' b3 B2 P3 hleft hos hrs hzs hss hcn hcn' hys
      go_wp2_with fail
      refine P4.out.mono ?_
      rintro e w4 ⟨u4, u4', rfl, h4, h4', b4⟩
      obtain ⟨a5, c5, rfl, _⟩ := h4.shape
      obtain ⟨a5', c5', rfl, _⟩ := h4'.shape
      have B4 := hid (B3.out.trans (b4.mono B3.out.size))
      have bm := (Below.refl w4.heap.size w4).alloc (Nat.le_refl _) (.cells #[] 3)
      have o1 := OSl.madeI w4 (fun _ => True)
      obtain ⟨v6, w6, hr6, o6, b6⟩ := o1.addI (HI.out.2.1.below intGood (B4.out.trans (bm.mono B4.out.size))) (by simp; omega) bm.size
      have b46 := bm.trans b6
      obtain ⟨v7, w7, hr7, o7, b7⟩ := o6.addI (HI.out.2.2.below intGood (B4.out.trans (b46.mono B4.out.size))) (by simp; omega) b46.size
      have b47 := b46.trans b7
      have h7 := o7.rsl intGood (fun _ => True) (fun _ _ _ => trivial) (fun _ _ _ => trivial)
      rw [List.nil_append, ← HP.out.2.2.2] at h7
      obtain ⟨a7, c7, rfl, _⟩ := ISl.shape h7
      obtain ⟨a6, c6, rfl⟩ := o6.shape
      have hapl : ([] ++ va : List Int).length = va.length := by rw [List.nil_append]
      rw [hapl] at hr6 hr7
      have P5' := wake_any w7 _ _ _ _ xs vc (HI.out.1.below waiterGood (B4.out.trans (b47.mono B4.out.size))) h7 HF.out.1 (by rw [HP.out.2.2.2, List.length_append]; omega)
      rw [← HP.out.2.2.1, ← HO.out.2.1, ← HO.out.2.2] at P5'
      have P5 := hid P5'
      have HR := hid (And.intro hr6 hr7)
      have B5 := hid (B4.out.trans (b47.mono B4.out.size))
      have H5 := hid (And.intro (H3.out.1.below intGood (b4.trans (b47.mono b4.size))) (RSl.below waiterGood h4' b47))
      clear P5' P4 h4 h4' b4 B3 B4 bm o1 o6 o7 b6 b7 hr6 hr7 b46 b47 h7 H3
      go_wp2_with (at_builtin; first | refine wpList_append_run rfl _ _ _ rfl _ _ rfl rfl _ _ HR.out.1 ?_ | refine wpList_append_run rfl _ _ _ rfl _ _ rfl rfl _ _ HR.out.2 ?_)
      refine P5.out.mono ?_
      rintro e w8 ⟨u8, u8', rfl, h8, h8', b8⟩
      obtain ⟨a8, c8, rfl, _⟩ := h8.shape
      obtain ⟨a8', c8', rfl, _⟩ := h8'.shape
      have B8 := hid (B5.out.trans (b8.mono B5.out.size))
      have H8 := hid (And.intro (H5.out.1.below intGood b8) (And.intro (RSl.below waiterGood H5.out.2 b8) (And.intro h8 h8')))
      clear P5 h8 h8' b8 B5 H5 HR
      have hq1 : zs.length ≤ 100 := by omega
      have ho1 : os.length ≤ 100 := by omega
      go_wp2_with fail
      go_loopw [15, 14] (fun i f wr => ∃ k : Nat, k ≤ zs.length ∧ i = .int .i64 k ∧ f = .int .i64 (cnt os zs k) ∧ Below w8.heap.size w8 wr) (fun i _ _ => zs.length - (intOf i).toNat)
      case atStart => exact ⟨0, Nat.zero_le _, rfl, by simp [cnt], Below.refl _ _⟩
      case round =>
        obtain ⟨k, hk, rfl, rfl, hb⟩ := hrel
        obtain ⟨wo, rfl⟩ : ∃ wo : World, wo = wr := ⟨_, rfl⟩
        have hck := cnt_le os zs k
        by_cases hlt : k < zs.length
        · obtain ⟨bb, o1, c1', x, hv1, hx, hin, e1⟩ := ISl.at H8.out.2.2.1 hb (k := k) hlt
          cases hv1
          have HX := hid hx
          have HE := hid e1
          have HB := hid hb
          clear hx hin e1 hb
          go_wp2_with fail
          go_loopw [16, 14] (fun j f wr => ∃ m : Nat, m ≤ os.length ∧ j = .int .i64 m ∧ f = .int .i64 (cnt os zs k) ∧ Hid (∀ j z, j < m → os[j]? = some z → (z == x) = false) ∧ Below wo.heap.size wo wr) (fun i _ _ => os.length - (intOf i).toNat)
          case atStart => exact ⟨0, Nat.zero_le _, rfl, rfl, fun j z hj => absurd hj (by omega), Below.refl _ _⟩
          case round =>
            obtain ⟨m, hm, rfl, rfl, HA, hb2⟩ := hrel
            by_cases hlm : m < os.length
            · obtain ⟨b2, o2, c2', z, hv2, hz, _, e2⟩ := ISl.at H8.out.1 (HB.out.trans (hb2.mono HB.out.size)) (k := m) hlm
              cases hv2
              have e1 := (hb2.cell (World.block_lt_of_cell? wo _ HE.out)).trans HE.out
              have HZ := hid hz
              clear hz
              cases hq : z == x
              · have HW := hid hq
                go_wp2_with fail
                go_quiet (fail)
                go_wp2_with fail
                go_roundw
                case rel =>
                  refine ⟨m + 1, by omega, by go_num, rfl, fun j y hj hy => ?_, below_drewN hb2 _⟩
                  by_cases e : j = m
                  · subst e; rw [HZ.out] at hy; cases hy; exact HW.out
                  · exact HA.out j y (by omega) hy
                case measure => simp [intOf]; omega
              · have HW := hid hq
                have hx' : z = x := by simpa using hq
                have hc := cnt_yes HX.out (hit_at (HZ.out.trans (by rw [hx'])))
                have HC := hid hc
                clear hc hx'
                go_wp2_with fail
                go_quiet (fail)
                go_wp2_with fail
                go_roundw
                case rel => exact ⟨k + 1, by omega, by go_num, by rw [HC.out]; go_num, HB.out.trans (below_drewN (hb2.mono HB.out.size) _)⟩
                case measure => simp [intOf]; omega
            · obtain rfl : m = os.length := by omega
              have HC := hid (cnt_no HX.out (hit_none HA.out))
              go_wp2_with fail
              go_roundw
              case rel => exact ⟨k + 1, by omega, by go_num, by rw [HC.out], HB.out.trans (hb2.mono HB.out.size)⟩
              case measure => simp [intOf]; omega
        · obtain rfl : k = zs.length := by omega
          have B9 := hid (B8.out.trans (hb.mono B8.out.size))
          have HR := hid (And.intro (RSl.below waiterGood H8.out.2.1 hb) (RSl.below waiterGood H8.out.2.2.2 hb))
          clear hb
          have P9 := hid (check_any wo _ _ xs (HI.out.1.below waiterGood B9.out) (by omega))
          go_wp2_with fail
          refine P9.out.mono ?_
          rintro e w10 ⟨rfl, b10⟩
          have B10 := hid (B9.out.trans (b10.mono B9.out.size))
          have P10' := same_any w10 _ _ _ _ _ _ (RSl.below waiterGood HR.out.1 b10) (RSl.below waiterGood HR.out.2 b10)
          rw [beq_self_eq_true] at P10'
          have P10 := hid P10'
          clear P9 P10' b10 B9 HR
          cases hz : chk xs
          · go_wp2_with fail
            go_ret
            exact Bb.fin rfl B10.out
          · rw [HO.out.1 hz]
            have hne : ((os.length : Int) + ys.length == zs.length) = true := by simp; omega
            go_wp2_with fail
            refine P10.out.mono ?_
            rintro e w11 ⟨rfl, b11⟩
            have B11 := hid (B10.out.trans (b11.mono B10.out.size))
            clear b11 B10 P10
            go_wp2_with fail
            go_ret
            exact Bb.fin rfl B11.out
    · have hw' : decide ((vb.length : Int) > 100) = true := by simp; omega
      go_wp2_with fail
      go_ret
      exact Bb.fin rfl B2.out
  · have hv' : decide ((va.length : Int) > 100) = true := by simp; omega
    go_wp2_with fail
    go_ret
    exact Bb.fin rfl B2.out
end Go.Proofs.Yteogmehbjopedaa
