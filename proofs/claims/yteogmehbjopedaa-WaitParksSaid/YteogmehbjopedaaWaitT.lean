/- WaitParks: the walk. -/
import Derived.Test.YteogmehbjopedaaWaitR
namespace Go.Proofs.Yteogmehbjopedaa
open Go.RowKit Go.Shelf Go.Maps
attribute [local go_sem] Oper.semAt_some
theorem parks_Fits {xs : List W} {t : Int} {vars : List Int} (h : Fits xs) (hn : xs.length ≤ 100) (hv : vars.length ≤ 100) : Fits (xs ++ [(t, vars)]) :=
  ⟨fun x hx => by
    rcases List.mem_append.1 hx with h' | h'
    · exact h.each x h'
    · simp at h'; subst h'; show vars.length ≤ _; omega, by simp; omega⟩
set_option maxRecDepth 100000 in
set_option maxHeartbeats 4000000 in
theorem parks_any (v0 : Value) (t : Int) (v2 : Value) (v : Int) (w : World) (h0 : ∃ xs, WSl w (fun _ => True) v0 xs) (ht : In t) (h2 : ∃ vs, ISl w (fun _ => True) v2 vs) (_hv : In v) :
    Calls Try.prog 5 #[v0, .int .i64 t, v2, .int .i64 v] w (Bb true w) := by
  obtain ⟨xs, h⟩ := h0
  obtain ⟨vs, h'⟩ := h2
  obtain ⟨a1, c1, rfl, l1, _⟩ := h.shape
  obtain ⟨a2, c2, rfl, l2, _⟩ := h'.shape
  obtain ⟨pq, hq⟩ : ∃ p : W → Bool, p = fun x => x.2.contains v := ⟨_, rfl⟩
  have HI := hid (And.intro h (And.intro h' ht))
  have HPq := hid hq
  clear h h' ht hq
  go_enter Try.func5, Try.ntmps5
  go_wp2_with fail
  refine (awake_any w).mono ?_
  rintro e w1 ⟨rfl, b1⟩
  have P := hid (few_any w1 _ _ xs (HI.out.1.below waiterGood b1))
  have B1 := hid b1
  clear b1
  go_wp2_with fail
  refine P.out.mono ?_
  rintro e w2 ⟨rfl, b2⟩
  have B2 := hid (B1.out.trans (b2.mono B1.out.size))
  clear b2 B1 P
  cases q : few xs
  · go_wp2_with fail
    go_ret
    exact Bb.fin rfl B2.out
  have HF := hid (few_Fits q)
  by_cases hv : vs.length ≤ 100
  · have hv' : decide ((vs.length : Int) > 100) = false := by simp; omega
    have hbound := HF.out.2
    have P3 := hid (park_any w2 _ _ _ _ t xs vs (HI.out.1.below waiterGood B2.out) (HI.out.2.1.below intGood B2.out) HI.out.2.2 (by omega) (by omega))
    go_wp2_with fail
    refine P3.out.mono ?_
    rintro e w3 ⟨u3, rfl, h3, b3⟩
    have B3 := hid (B2.out.trans (b3.mono B2.out.size))
    cases hbad : parkBad xs t vs
    · have hE : parkE xs t vs = 0 := by rw [parkE, hbad]; rfl
      have hS : parkS xs t vs = xs ++ [(t, vs)] := by rw [parkS, hbad]; rfl
      obtain ⟨ms, hms⟩ : ∃ ms, ms = xs ++ [(t, vs)] := ⟨_, rfl⟩
      rw [hS, ← hms] at h3
      rw [hE]
      obtain ⟨a3, c3, rfl, _⟩ := h3.shape
      have HM := hid (And.intro hms (And.intro hbad (by rw [hms]; exact parks_Fits HF.out.1 hbound hv : Fits ms)))
      have hml : ms.length ≤ 101 := by rw [hms]; simp; omega
      have H3 := hid h3
      clear h3 b3 B2 P3 hE hS hms hbad
      go_wp2_with fail
      go_loopw [13, 12] (fun i b wr => ∃ k : Nat, k ≤ vs.length ∧ i = .int .i64 k ∧ b = .bool (hasI vs v k) ∧ wr = w3) (fun i _ _ => vs.length - (intOf i).toNat)
      case atStart => exact ⟨0, Nat.zero_le _, rfl, by rw [hasI_zero], rfl⟩
      case round =>
        obtain ⟨k, hk, rfl, rfl, rfl⟩ := hrel
        by_cases hlt : k < vs.length
        · obtain ⟨bb, o1, c1', x, hv1, hx, hin, e1⟩ := HI.out.2.1.at B3.out (k := k) hlt
          cases hv1
          have hs := hasI_succ (v := v) hx
          cases hq : hasI vs v k
          · rw [hq, Bool.false_or] at hs
            have HS := hid hs
            clear hs hx hin
            go_wp2_with fail
            go_roundw
            case rel => exact ⟨k + 1, by omega, by go_num, by rw [HS.out], trivial⟩
            case measure => simp [intOf]; omega
          · rw [hq, Bool.true_or] at hs
            have HS := hid hs
            clear hs hx hin e1
            go_wp2_with fail
            go_roundw
            case rel => exact ⟨k + 1, by omega, by go_num, by rw [HS.out], trivial⟩
            case measure => simp [intOf]; omega
        · obtain rfl : k = vs.length := by omega
          have hin := hasI_all vs v
          have P6' := queue_any wr _ _ v xs (HI.out.1.below waiterGood B3.out) HF.out.1
          rw [← HPq.out] at P6'
          have P6 := hid P6'
          clear P6' hk hlt
          go_wp2_with fail
          refine P6.out.mono ?_
          rintro e w6 ⟨u6, rfl, h6, b6⟩
          have hql := outs_len pq xs
          have hqm : outs pq ms = outs pq xs ++ (if hasI vs v vs.length then [t] else []) := by
            rw [HM.out.1, outs_append, outs_one pq t vs (hasI vs v vs.length) (by rw [HPq.out, hin])]
          obtain ⟨qs, hqs⟩ : ∃ qs, qs = outs pq xs := ⟨_, rfl⟩
          rw [← hqs] at h6 hql hqm
          obtain ⟨a6, c6, rfl, _⟩ := h6.shape
          have B6 := hid (B3.out.trans (b6.mono B3.out.size))
          have H6 := hid (And.intro (H3.out.below waiterGood b6) h6)
          have P7' := queue_any w6 _ _ v ms (H3.out.below waiterGood b6) HM.out.2.2
          rw [← HPq.out, hqm] at P7'
          have hq1 : qs.length ≤ 100 := by omega
          have P7 := hid P7'
          clear P6 P7' h6 b6 B3 H3 hqs hql hqm hin
          go_wp2_with fail
          refine P7.out.mono ?_
          rintro e w7 ⟨u7, rfl, h7, b7⟩
          have B7 := hid (B6.out.trans (b7.mono B6.out.size))
          have hm7 := H6.out.1.below waiterGood b7
          have hq7 := RSl.below intGood H6.out.2 b7
          cases hz : hasI vs v vs.length
          · rw [hz] at h7
            simp only [Bool.false_eq_true, if_false, List.append_nil] at h7
            obtain ⟨a7, c7, rfl, _⟩ := h7.shape
            have P8' := check_any w7 _ _ ms hm7 (by omega)
            rw [show chk ms = true from by rw [HM.out.1]; exact parks_chk HM.out.2.1] at P8'
            have P8 := hid P8'
            have H7 := hid (And.intro hm7 (And.intro hq7 h7))
            clear P8' hm7 hq7 h7 b7 B6 P7 H6
            go_wp2_with fail
            refine P8.out.mono ?_
            rintro e w8 ⟨rfl, b8⟩
            have B8 := hid (B7.out.trans (b8.mono B7.out.size))
            have P9' := numbers_any w8 _ _ _ _ _ _ (RSl.below intGood H7.out.2.1 b8) (RSl.below intGood H7.out.2.2 b8)
            rw [beq_self_eq_true] at P9'
            have P9 := hid P9'
            have H8 := hid (H7.out.1.below waiterGood b8)
            clear P9' b8 B7 P8 H7
            go_wp2_with fail
            refine P9.out.mono ?_
            rintro e w9 ⟨rfl, b9⟩
            have B9 := hid (B8.out.trans (b9.mono B8.out.size))
            have P10' := leave_any w9 _ _ t ms (H8.out.below waiterGood b9) HM.out.2.2
            rw [show rests (fun x => x.1 == t) ms = xs from by rw [HM.out.1]; exact parks_leave HM.out.2.1] at P10'
            have P10 := hid P10'
            clear P10' b9 B8 P9 H8
            go_wp2_with fail
            refine P10.out.mono ?_
            rintro e w10 ⟨u10, rfl, h10, b10⟩
            obtain ⟨a10, c10, rfl, _⟩ := h10.shape
            have B10 := hid (B9.out.trans (b10.mono B9.out.size))
            have P11' := same_any w10 _ _ _ _ _ _ h10 (HI.out.1.below waiterGood B10.out)
            rw [beq_self_eq_true] at P11'
            have P11 := hid P11'
            clear P11' h10 b10 B9 P10
            go_wp2_with fail
            refine P11.out.mono ?_
            rintro e w11 ⟨rfl, b11⟩
            have B11 := hid (B10.out.trans (b11.mono B10.out.size))
            clear b11 B10 P11
            go_wp2_with fail
            go_ret
            exact Bb.fin rfl B11.out
          · rw [hz] at h7
            simp only [if_true] at h7
            obtain ⟨rs, hrs⟩ : ∃ rs, rs = qs ++ [t] := ⟨_, rfl⟩
            rw [← hrs] at h7
            obtain ⟨a7, c7, rfl, _⟩ := h7.shape
            have bm := (Below.refl w7.heap.size w7).alloc (Nat.le_refl _) (.cells #[] 3)
            have o1 := OSl.madeI w7 (fun _ => True)
            obtain ⟨v8, w8, hr8, o8, b8⟩ := o1.addI (RSl.below intGood hq7 bm) (by simp; omega) bm.size
            have b78 := bm.trans b8
            rw [List.nil_append] at o8
            obtain ⟨a8, c8, rfl⟩ := o8.shape
            obtain ⟨v9, w9, hr9, o9, b9, _⟩ := o8.pushI HI.out.2.2 (by omega) b78.size
            have b79 := b78.trans b9
            have h9 := o9.rsl intGood (fun _ => True) (fun _ _ _ => trivial) (fun _ _ _ => trivial)
            rw [← hrs] at h9
            obtain ⟨a9, c9, rfl, _⟩ := ISl.shape h9
            have hm9 := hm7.below waiterGood b79
            have P8' := check_any w9 _ _ ms hm9 (by omega)
            rw [show chk ms = true from by rw [HM.out.1]; exact parks_chk HM.out.2.1] at P8'
            have P8 := hid P8'
            have H7 := hid (And.intro hm9 (And.intro h9 (RSl.below intGood h7 b79)))
            have HR := hid (And.intro hr8 hr9)
            have B9 := hid (B7.out.trans (b79.mono B7.out.size))
            clear P8' hm7 hm9 hq7 h7 h9 b7 B6 P7 H6 o1 o8 o9 bm b8 b9 b78 b79 hr8 hr9 hrs B7
            go_wp2_with (at_builtin; first | refine wpList_append_run rfl _ _ _ rfl _ _ rfl rfl _ _ HR.out.1 ?_ | refine wpList_append_run rfl _ _ _ rfl _ _ rfl rfl _ _ HR.out.2 ?_)
            refine P8.out.mono ?_
            rintro e w10 ⟨rfl, b10⟩
            have B10 := hid (B9.out.trans (b10.mono B9.out.size))
            have P9' := numbers_any w10 _ _ _ _ _ _ (RSl.below intGood H7.out.2.1 b10) (RSl.below intGood H7.out.2.2 b10)
            rw [beq_self_eq_true] at P9'
            have P9 := hid P9'
            have H8 := hid (H7.out.1.below waiterGood b10)
            clear P9' b10 B9 P8 H7 HR
            go_wp2_with fail
            refine P9.out.mono ?_
            rintro e w11 ⟨rfl, b11⟩
            have B11 := hid (B10.out.trans (b11.mono B10.out.size))
            have P10' := leave_any w11 _ _ t ms (H8.out.below waiterGood b11) HM.out.2.2
            rw [show rests (fun x => x.1 == t) ms = xs from by rw [HM.out.1]; exact parks_leave HM.out.2.1] at P10'
            have P10 := hid P10'
            clear P10' b11 B10 P9 H8
            go_wp2_with fail
            refine P10.out.mono ?_
            rintro e w12 ⟨u12, rfl, h12, b12⟩
            obtain ⟨a12, c12, rfl, _⟩ := h12.shape
            have B12 := hid (B11.out.trans (b12.mono B11.out.size))
            have P11' := same_any w12 _ _ _ _ _ _ h12 (HI.out.1.below waiterGood B12.out)
            rw [beq_self_eq_true] at P11'
            have P11 := hid P11'
            clear P11' h12 b12 B11 P10
            go_wp2_with fail
            refine P11.out.mono ?_
            rintro e w13 ⟨rfl, b13⟩
            have B13 := hid (B12.out.trans (b13.mono B12.out.size))
            clear b13 B12 P11
            go_wp2_with fail
            go_ret
            exact Bb.fin rfl B13.out
    · have hE : parkE xs t vs = 1 := by rw [parkE, hbad]; rfl
      have hS : parkS xs t vs = xs := by rw [parkS, hbad]; rfl
      rw [hS] at h3
      rw [hE]
      obtain ⟨a3, c3, rfl, _⟩ := h3.shape
      have P4' := same_any w3 _ _ _ _ _ _ h3 (HI.out.1.below waiterGood B3.out)
      rw [beq_self_eq_true] at P4'
      have P4 := hid P4'
      clear P4' h3 b3 B2 P3
      go_wp2_with fail
      refine P4.out.mono ?_
      rintro e w4 ⟨rfl, b4⟩
      have B4 := hid (B3.out.trans (b4.mono B3.out.size))
      clear b4 B3 P4
      go_wp2_with fail
      go_ret
      exact Bb.fin rfl B4.out
  · have hv' : decide ((vs.length : Int) > 100) = true := by simp; omega
    go_wp2_with fail
    go_ret
    exact Bb.fin rfl B2.out
end Go.Proofs.Yteogmehbjopedaa
