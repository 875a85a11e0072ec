/- WaitWakes: the walk. -/
import Derived.Test.YteogmehbjopedaaWaitP
namespace Go.Proofs.Yteogmehbjopedaa
open Go.RowKit Go.Shelf Go.Maps
attribute [local go_sem] Oper.semAt_some
def hasI (vs : List Int) (v : Int) (k : Nat) : Bool := (vs.take k).contains v
theorem hasI_zero (vs : List Int) (v : Int) : hasI vs v 0 = false := by simp [hasI]
theorem hasI_succ {vs : List Int} {v x : Int} {k : Nat} (h : vs[k]? = some x) : hasI vs v (k + 1) = (hasI vs v k || (x == v)) := by
  rw [hasI, List.take_succ_eq_append_getElem (List.getElem?_eq_some_iff.1 h).1, (List.getElem?_eq_some_iff.1 h).2, List.contains_eq_any_beq, List.any_append, ← List.contains_eq_any_beq, List.any_cons, List.any_nil, Bool.or_false, hasI, Bool.beq_comm]
theorem hasI_all (vs : List Int) (v : Int) : hasI vs v vs.length = vs.contains v := by rw [hasI, List.take_length]
set_option maxRecDepth 100000 in
set_option maxHeartbeats 4000000 in
theorem wakes_any (v0 v1 : Value) (v : Int) (w : World) (h0 : ∃ xs, WSl w (fun _ => True) v0 xs) (h2 : ∃ vs, ISl w (fun _ => True) v1 vs) (_ht : In v) :
    Calls Try.prog 4 #[v0, v1, .int .i64 v] w (Bb true w) := by
  obtain ⟨xs, h⟩ := h0
  obtain ⟨vs, h'⟩ := h2
  obtain ⟨a1, c1, rfl, l1, _⟩ := h.shape
  obtain ⟨a2, c2, rfl, l2, _⟩ := h'.shape
  obtain ⟨p, hp⟩ : ∃ p : W → Bool, p = fun x => x.2.any fun v => vs.contains v := ⟨_, rfl⟩
  obtain ⟨pq, hq⟩ : ∃ p : W → Bool, p = fun x => x.2.contains v := ⟨_, rfl⟩
  have hpq : vs.contains v = true → ∀ x, pq x = true → p x = true := fun hv x hx => by
    rw [hq] at hx; rw [hp]
    simp at hx hv ⊢
    exact ⟨v, hx, hv⟩
  have HI := hid (And.intro h (And.intro h' hpq))
  have HP := hid hp
  have HPq := hid hq
  clear h h' hp hq hpq
  go_enter Try.func4, Try.ntmps4
  go_wp2_with fail
  refine (awake_any w).mono ?_
  rintro e w1 ⟨rfl, b1⟩
  have P := hid (few_any w1 _ _ xs (HI.out.1.below waiterGood b1))
  have B1 := hid b1
  clear b1
  go_wp2_with fail
  refine P.out.mono ?_
  rintro e w2 ⟨rfl, b2⟩
  have B2 := hid (B1.out.trans (b2.mono B1.out.size))
  clear b2 B1 P
  cases q : few xs
  · go_wp2_with fail
    go_ret
    exact Bb.fin rfl B2.out
  have HF := hid (few_Fits q)
  by_cases hv : vs.length ≤ 100
  · have hv' : decide ((vs.length : Int) > 100) = false := by simp; omega
    have P3' := wake_any w2 _ _ _ _ xs vs (HI.out.1.below waiterGood B2.out) (HI.out.2.1.below intGood B2.out) HF.out.1 (by omega)
    rw [← HP.out] at P3'
    have P3 := hid P3'
    clear P3'
    go_wp2_with fail
    refine P3.out.mono ?_
    rintro e w3 ⟨u3, u3', rfl, h3, h3', b3⟩
    have hlen := wakes_len p xs
    have hfits := hid (rests_Fits (p := p) HF.out.1)
    have hag := wakes_again p xs
    have hle := wakes_left p xs
    obtain ⟨os, hos⟩ : ∃ os, os = outs p xs := ⟨_, rfl⟩
    obtain ⟨rs, hrs⟩ : ∃ rs, rs = rests p xs := ⟨_, rfl⟩
    rw [← hos] at h3 hlen
    rw [← hrs] at h3' hlen hag hle hfits
    obtain ⟨a3, c3, rfl, _⟩ := h3.shape
    obtain ⟨a3', c3', rfl, _⟩ := h3'.shape
    have B3 := hid (B2.out.trans (b3.mono B2.out.size))
    have H3 := hid (And.intro h3 h3')
    have P4' := wake_any w3 _ _ _ _ rs vs h3' (HI.out.2.1.below intGood B3.out) hfits.out (by omega)
    rw [← HP.out, hag, hle] at P4'
    have P4 := hid P4'
    have HO := hid (And.intro hos hrs)
    clear P4' h3 h3' b3 B2 P3 hag hle hos hrs
    go_wp2_with fail
    refine P4.out.mono ?_
    rintro e w4 ⟨u4, u4', rfl, h4, h4', b4⟩
    obtain ⟨a4, c4, rfl, _⟩ := h4.shape
    obtain ⟨a4', c4', rfl, _⟩ := h4'.shape
    have B4 := hid (B3.out.trans (b4.mono B3.out.size))
    have H4 := hid (And.intro (H3.out.1.below intGood b4) (H3.out.2.below waiterGood b4))
    have P5' := same_any w4 _ _ _ _ _ _ h4' (H3.out.2.below waiterGood b4)
    rw [beq_self_eq_true] at P5'
    have P5 := hid P5'
    have hbound := HF.out.2
    have hne : ((os.length : Int) + rs.length != xs.length) = false := by simp; omega
    clear P5' h4 h4' b4 B3 P4 H3
    simp only [List.length_nil]
    go_wp2_with fail
    refine P5.out.mono ?_
    rintro e w5 ⟨rfl, b5⟩
    have B5 := hid (B4.out.trans (b5.mono B4.out.size))
    have H5 := hid (And.intro (H4.out.1.below intGood b5) (H4.out.2.below waiterGood b5))
    clear b5 B4 P5 H4
    have HL := hid (And.intro hlen hbound)
    clear hne
    have hn : vs.length ≤ 100 := hv
    go_wp2_with fail
    go_loopw [13, 12] (fun i b wr => ∃ k : Nat, k ≤ vs.length ∧ i = .int .i64 k ∧ b = .bool (hasI vs v k) ∧ wr = w5) (fun i _ _ => vs.length - (intOf i).toNat)
    case atStart => exact ⟨0, Nat.zero_le _, rfl, by rw [hasI_zero], rfl⟩
    case round =>
      obtain ⟨k, hk, rfl, rfl, rfl⟩ := hrel
      have hmn : vs.length ≤ 100 := hv
      by_cases hlt : k < vs.length
      · obtain ⟨bb, o1, c1', x, hv1, hx, hin, e1⟩ := HI.out.2.1.at B5.out (k := k) hlt
        cases hv1
        have hs := hasI_succ (v := v) hx
        cases hq : hasI vs v k
        · rw [hq, Bool.false_or] at hs
          have HS := hid hs
          clear hs hx hin
          go_wp2_with fail
          go_roundw
          case rel => exact ⟨k + 1, by omega, by go_num, by rw [HS.out], trivial⟩
          case measure => simp [intOf]; omega
        · rw [hq, Bool.true_or] at hs
          have HS := hid hs
          clear hs hx hin e1
          go_wp2_with fail
          go_roundw
          case rel => exact ⟨k + 1, by omega, by go_num, by rw [HS.out], trivial⟩
          case measure => simp [intOf]; omega
      · obtain rfl : k = vs.length := by omega
        have P6' := queue_any wr _ _ v xs (HI.out.1.below waiterGood B5.out) HF.out.1
        rw [← HPq.out] at P6'
        have P6 := hid P6'
        clear P6'
        go_wp2_with fail
        refine P6.out.mono ?_
        rintro e w6 ⟨u6, rfl, h6, b6⟩
        have hql := outs_len pq xs
        obtain ⟨qs, hqs⟩ : ∃ qs, qs = outs pq xs := ⟨_, rfl⟩
        rw [← hqs] at h6 hql
        obtain ⟨a6, c6, rfl, _⟩ := h6.shape
        have B6 := hid (B5.out.trans (b6.mono B5.out.size))
        have H6 := hid (And.intro (H5.out.1.below intGood b6) (And.intro (H5.out.2.below waiterGood b6) h6))
        have HQ := hid hqs
        have hq1 : qs.length ≤ 100 := by omega
        have ho1 : os.length ≤ 100 := by omega
        clear P6 h6 b6 B5 H5 hqs hql hlt hk hmn hn hlen hbound hv hv'
        go_wp2_with fail
        go_loopw [16, 15] (fun i f wr => ∃ k : Nat, k ≤ qs.length ∧ i = .int .i64 k ∧ f = .int .i64 (cnt os qs k) ∧ Below w6.heap.size w6 wr) (fun i _ _ => qs.length - (intOf i).toNat)
        case atStart => exact ⟨0, Nat.zero_le _, rfl, by simp [cnt], Below.refl _ _⟩
        case round =>
          obtain ⟨k, hk, rfl, rfl, hb⟩ := hrel
          obtain ⟨wo, rfl⟩ : ∃ wo : World, wo = wr := ⟨_, rfl⟩
          have hck := cnt_le os qs k
          by_cases hlt : k < qs.length
          · obtain ⟨bb, o1, c1', x, hv1, hx, hin, e1⟩ := H6.out.2.2.at hb (k := k) hlt
            cases hv1
            have HX := hid hx
            have HE := hid e1
            have HB := hid hb
            clear hx hin e1 hb
            go_wp2_with fail
            go_loopw [17, 15] (fun j f wr => ∃ m : Nat, m ≤ os.length ∧ j = .int .i64 m ∧ f = .int .i64 (cnt os qs k) ∧ Hid (∀ j z, j < m → os[j]? = some z → (z == x) = false) ∧ Below wo.heap.size wo wr) (fun i _ _ => os.length - (intOf i).toNat)
            case atStart => exact ⟨0, Nat.zero_le _, rfl, rfl, fun j z hj => absurd hj (by omega), Below.refl _ _⟩
            case round =>
              obtain ⟨m, hm, rfl, rfl, HA, hb2⟩ := hrel
              by_cases hlm : m < os.length
              · obtain ⟨b2, o2, c2', z, hv2, hz, _, e2⟩ := ISl.at H6.out.1 (HB.out.trans (hb2.mono HB.out.size)) (k := m) hlm
                cases hv2
                have e1 := (hb2.cell (World.block_lt_of_cell? wo _ HE.out)).trans HE.out
                have HZ := hid hz
                clear hz
                cases hq : z == x
                · have HW := hid hq
                  go_wp2_with fail
                  go_quiet (fail)
                  go_wp2_with fail
                  go_roundw
                  case rel =>
                    refine ⟨m + 1, by omega, by go_num, rfl, fun j y hj hy => ?_, below_drewN hb2 _⟩
                    by_cases e : j = m
                    · subst e; rw [HZ.out] at hy; cases hy; exact HW.out
                    · exact HA.out j y (by omega) hy
                  case measure => simp [intOf]; omega
                · have HW := hid hq
                  have hx' : z = x := by simpa using hq
                  have hc := cnt_yes HX.out (hit_at (HZ.out.trans (by rw [hx'])))
                  have HC := hid hc
                  clear hc hx'
                  go_wp2_with fail
                  go_quiet (fail)
                  go_wp2_with fail
                  go_roundw
                  case rel => exact ⟨k + 1, by omega, by go_num, by rw [HC.out]; go_num, HB.out.trans (below_drewN (hb2.mono HB.out.size) _)⟩
                  case measure => simp [intOf]; omega
              · obtain rfl : m = os.length := by omega
                have HC := hid (cnt_no HX.out (hit_none HA.out))
                go_wp2_with fail
                go_roundw
                case rel => exact ⟨k + 1, by omega, by go_num, by rw [HC.out], HB.out.trans (hb2.mono HB.out.size)⟩
                case measure => simp [intOf]; omega
          · obtain rfl : k = qs.length := by omega
            have B7 := hid (B6.out.trans (hb.mono B6.out.size))
            have HR := hid (H6.out.2.1.below waiterGood hb)
            clear hb
            cases hz : hasI vs v vs.length
            · go_wp2_with fail
              go_ret
              exact Bb.fin rfl B7.out
            · have hyes := HI.out.2.2 (by rw [← hasI_all]; exact hz)
              have P7' := queue_any wo _ _ v rs HR.out hfits.out
              have hnil : outs pq rs = [] := by rw [HO.out.2]; exact outs_rests hyes
              have hcnt : cnt os qs qs.length = qs.length := cnt_all (by rw [HQ.out, HO.out.1]; exact outs_mono hyes)
              rw [← HPq.out, hnil] at P7'
              have P7 := hid P7'
              rw [hcnt]
              clear P7' hyes hnil hcnt
              go_wp2_with fail
              refine P7.out.mono ?_
              rintro e w7 ⟨u7, rfl, h7, b7⟩
              obtain ⟨a7, c7, rfl, _⟩ := h7.shape
              have B8 := hid (B7.out.trans (b7.mono B7.out.size))
              clear b7 B7 P7 h7
              simp only [List.length_nil]
              go_wp2_with fail
              go_ret
              exact Bb.fin rfl B8.out
  · have hv' : decide ((vs.length : Int) > 100) = true := by simp; omega
    go_wp2_with fail
    go_ret
    exact Bb.fin rfl B2.out
end Go.Proofs.Yteogmehbjopedaa
