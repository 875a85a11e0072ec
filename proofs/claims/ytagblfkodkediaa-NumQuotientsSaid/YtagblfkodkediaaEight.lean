/- num's statements NumQuotients, NumSmall: each one's own walk: it returns true, and old memory is as it was. -/
import Derived.Test.YtagblfkodkediaaFive
namespace Go.Proofs.Ytagblfkodkediaa
open Go.RowKit
theorem ret_true {b : Bool} (h : b = true) : Ending.returned (.bool b) = .returned (.bool true) := by rw [h]
theorem mul31 (a b : Int) (ha : -2147483648 ≤ a ∧ a ≤ 2147483647) (hb : -2147483648 ≤ b ∧ b ≤ 2147483647) : -4611686018427387904 ≤ a * b ∧ a * b ≤ 4611686018427387904 := by
  have h : (a * b).natAbs = a.natAbs * b.natAbs := Int.natAbs_mul a b
  have h2 : a.natAbs * b.natAbs ≤ 2147483648 * 2147483648 := Nat.mul_le_mul (by omega) (by omega)
  omega
set_option maxHeartbeats 1000000 in
theorem small (a b : Int) (w : World) (ha : -2147483648 ≤ a ∧ a ≤ 2147483647) (hb : -2147483648 ≤ b ∧ b ≤ 2147483647) : Calls Try.prog 7 #[.int .i32 a, .int .i32 b] w (Y w) := by
  have ia : In a := by unfold In; omega
  have ib : In b := by unfold In; omega
  have m1 := mul31 a b ha hb
  have f1 : fit (a + b) := by unfold fit; omega
  have f2 : fit (a - b) := by unfold fit; omega
  have f3 : fit (a * b) := by unfold fit; omega
  have C1 := doB [43] a b (a + b) 0 ia ib ⟨by rw [(d_add _ _).1, (res_yes _ f1).1], by rw [(d_add _ _).2, (res_yes _ f1).2]⟩ w
  have C2 := doB [45] a b (a - b) 0 ia ib ⟨by rw [(d_sub _ _).1, (res_yes _ f2).1], by rw [(d_sub _ _).2, (res_yes _ f2).2]⟩ w
  have C3 := doB [42] a b (a * b) 0 ia ib ⟨by rw [(d_mul _ _).1, (res_yes _ f3).1], by rw [(d_mul _ _).2, (res_yes _ f3).2]⟩ w
  have C4 : ∃ q h : Int, (b == 0 → h = 12) ∧ ((b == 0) = false → h = 0 ∧ q = a.tdiv b) ∧ ∀ v, Below w.heap.size w v → Calls Try.prog 9 #[.string ⟨[47].toArray⟩, .int .i64 a, .int .i64 b] v fun e w' => e = .returned (.tuple #[.int .i64 q, .int .i64 h]) ∧ Below w.heap.size w w' := by
    refine ⟨_, _, ?_, ?_, doB [47] a b _ _ ia ib (d_div a b) w⟩
    · intro h; simp only [rd2, h, if_true]
    · intro h
      have f4 : fit (a.tdiv b) := by
        have h1 : (a.tdiv b).natAbs = a.natAbs / b.natAbs := Int.natAbs_tdiv a b
        have h2 : a.natAbs / b.natAbs ≤ a.natAbs := Nat.div_le_self _ _
        unfold fit; omega
      simp only [rd1, rd2, h]; exact ⟨(res_yes _ f4).2, (res_yes _ f4).1⟩
  obtain ⟨q, h, q1, q2, C4⟩ := C4
  have q3 : (b == 0) = false → wrap64 (a.tdiv b) = a.tdiv b := by
    intro _
    have h1 : (a.tdiv b).natAbs = a.natAbs / b.natAbs := Int.natAbs_tdiv a b
    have h2 : a.natAbs / b.natAbs ≤ a.natAbs := Nat.div_le_self _ _
    exact IntWalk.wrap64_in _ (by omega)
  have C5 := holdsB [60] a b _ rfl rfl w
  have hl : hd1 [60] a b = decide (a - b < 0) := by rw [show hd1 [60] a b = decide (a < b) from rfl, decide_eq_decide]; omega
  rw [hl] at C5
  cases hz : b == 0
  · obtain ⟨rfl, rfl⟩ := q2 hz
    have q3' := q3 hz
    have hbz : ¬ b = 0 := by simpa using hz
    have hne : (b != 0) = true := by simpa using hbz
    clear q1 q2 q3 ia ib f1 f2 f3 hl hz
    generalize hg : a * b = p at *
    generalize hd : decide (a - b < 0) = d at *
    go_enter Try.func7, Try.ntmps7
    go_wp2_with fail
    refine (awakeB w _ (Below.refl _ _)).mono ?_; rintro e0 w1 ⟨rfl, hb1⟩
    go_wp2_with fail
    refine (C1 _ hb1).mono ?_; rintro e0 w2 ⟨rfl, hb2⟩
    go_wp2_with fail
    refine (C2 _ hb2).mono ?_; rintro e0 w3 ⟨rfl, hb3⟩
    go_wp2_with fail
    refine (C3 _ hb3).mono ?_; rintro e0 w4 ⟨rfl, hb4⟩
    go_wp2_with fail
    refine (C4 _ hb4).mono ?_; rintro e0 w5 ⟨rfl, hb5⟩
    go_wp2_with fail
    refine (C5 _ hb5).mono ?_; rintro e0 w6 ⟨rfl, hb6⟩
    go_wp2
    go_ret
    exact ⟨rfl, hb6⟩
  · obtain rfl := q1 hz
    have hbz : b = 0 := by simpa using hz
    subst hbz
    clear q1 q2 q3 ia ib f1 f2 f3 hl hz
    simp only [Int.sub_zero, Int.add_zero, Int.mul_zero] at C1 C2 C3 C5
    generalize hd : decide (a < 0) = d at *
    go_enter Try.func7, Try.ntmps7
    go_wp2_with fail
    refine (awakeB w _ (Below.refl _ _)).mono ?_; rintro e0 w1 ⟨rfl, hb1⟩
    go_wp2_with fail
    refine (C1 _ hb1).mono ?_; rintro e0 w2 ⟨rfl, hb2⟩
    go_wp2_with fail
    refine (C2 _ hb2).mono ?_; rintro e0 w3 ⟨rfl, hb3⟩
    go_wp2_with fail
    refine (C3 _ hb3).mono ?_; rintro e0 w4 ⟨rfl, hb4⟩
    go_wp2_with fail
    refine (C4 _ hb4).mono ?_; rintro e0 w5 ⟨rfl, hb5⟩
    go_wp2_with fail
    refine (C5 _ hb5).mono ?_; rintro e0 w6 ⟨rfl, hb6⟩
    go_wp2
    go_ret
    exact ⟨rfl, hb6⟩
set_option maxHeartbeats 1000000 in
theorem quot (a b : Int) (w : World) (ha : In a) (hb : In b) : Calls Try.prog 5 #[.int .i64 a, .int .i64 b] w (Y w) := by
  cases hz : b == 0
  · by_cases hm : a = -9223372036854775808 ∧ b = -1
    · obtain ⟨rfl, rfl⟩ := hm
      have C1 := doB [47] (-9223372036854775808) (-1) 0 11 ha hb ⟨by decide, by decide⟩ w
      go_enter Try.func5, Try.ntmps5
      go_wp2_with fail
      refine (awakeB w _ (Below.refl _ _)).mono ?_; rintro e0 w1 ⟨rfl, hb1⟩
      go_wp2_with fail
      refine (C1 _ hb1).mono ?_; rintro e0 w2 ⟨rfl, hb2⟩
      go_wp2_with fail
      go_ret
      exact ⟨rfl, hb2⟩
    · have hb0 : b ≠ 0 := by simpa using hz
      have h1 : (a.tdiv b).natAbs = a.natAbs / b.natAbs := Int.natAbs_tdiv a b
      have h2 : a.natAbs / b.natAbs ≤ a.natAbs := Nat.div_le_self _ _
      have f4 : fit (a.tdiv b) := by
        unfold fit
        by_cases k : b = -1
        · subst k
          have : a ≠ -9223372036854775808 := fun e => hm ⟨e, rfl⟩
          unfold In at ha; omega
        · by_cases k2 : b = 1
          · subst k2; rw [Int.tdiv_one]; exact ha
          · have h3 : a.natAbs / b.natAbs ≤ a.natAbs / 2 := Nat.div_le_div_left (by omega) (by omega)
            unfold In at ha; omega
      have e1 := Int.mul_tdiv_add_tmod a b
      have e2 : (a.tmod b).natAbs < b.natAbs := by rw [Int.natAbs_tmod]; exact Nat.mod_lt _ (by omega)
      have e3 : 0 ≤ a → 0 ≤ a.tmod b := fun h => Int.tmod_nonneg b h
      have e4 : a ≤ 0 → a.tmod b ≤ 0 := fun h => by have := Int.tmod_nonneg (a := -a) b (by omega); rw [Int.neg_tmod] at this; omega
      have e5 : (a.tmod b).natAbs ≤ a.natAbs := by rw [Int.natAbs_tmod]; exact Nat.mod_le _ _
      have e6 : a.tdiv b * b = a - a.tmod b := by rw [Int.mul_comm]; omega
      have key : ∃ q p r : Int, In q ∧ In p ∧ (do1 [47] a b = q ∧ do2 [47] a b = 0) ∧ (do1 [42] q b = p ∧ do2 [42] q b = 0) ∧ (do1 [45] a p = r ∧ do2 [45] a p = 0) ∧
          r.natAbs < b.natAbs ∧ (0 ≤ a → 0 ≤ r) ∧ (a ≤ 0 → r ≤ 0) := by
        generalize a.tmod b = r at *
        have fp : fit (a - r) := by unfold In at ha; unfold fit; omega
        have fr : fit r := by unfold In at ha; unfold fit; omega
        refine ⟨a.tdiv b, a - r, r, f4, fp, ?_, ?_, ?_, e2, e3, e4⟩
        · rw [(d_div _ _).1, (d_div _ _).2, rd1, rd2, hz, (res_yes _ f4).1, (res_yes _ f4).2]; exact ⟨rfl, rfl⟩
        · rw [(d_mul _ _).1, (d_mul _ _).2, e6]; exact res_yes _ fp
        · rw [(d_sub _ _).1, (d_sub _ _).2, show a - (a - r) = r by omega]; exact res_yes _ fr
      clear h1 h2 f4 e1 e2 e3 e4 e5 e6 hm
      obtain ⟨q, p, r, iq, ip, k1, k2, k3, k4, k5, k6⟩ := key
      have C1 := doB _ _ _ _ _ ha hb k1 w
      have C2 := doB _ _ _ _ _ iq hb k2 w
      have C3 := doB _ _ _ _ _ ha ip k3 w
      unfold In at ha hb
      obtain ⟨a0, a1⟩ := ha
      obtain ⟨b0, b1⟩ := hb
      clear k1 k2 k3 iq ip hz
      have k7 : (b = -9223372036854775808) ∨ (-9223372036854775808 < b ∧ b < 0 ∧ b < r ∧ r < -b) ∨ (0 < b ∧ r < b ∧ -b < r) := by omega
      have k8 : r = 0 ∨ (r < 0 ∧ a < 0) ∨ (0 < r ∧ 0 < a) := by omega
      clear k4 k5 k6 hb0
      have hwl : wrap64 9223372036854775808 = -9223372036854775808 := by unfold wrap64; omega
      rcases k7 with rfl | ⟨k71, k72, k73, k74⟩ | ⟨k71, k72, k73⟩ <;> rcases k8 with rfl | ⟨k81, k82⟩ | ⟨k81, k82⟩
      all_goals
        go_enter Try.func5, Try.ntmps5
        go_wp2_with fail
        refine (awakeB w _ (Below.refl _ _)).mono ?_; rintro e0 w1 ⟨rfl, hb1⟩
        go_wp2_with fail
        refine (C1 _ hb1).mono ?_; rintro e0 w2 ⟨rfl, hb2⟩
        go_wp2_with fail
        refine (C2 _ hb2).mono ?_; rintro e0 w3 ⟨rfl, hb3⟩
        go_wp2_with fail
        refine (C3 _ hb3).mono ?_; rintro e0 w4 ⟨rfl, hb4⟩
        go_wp2
        all_goals first | (go_ret; exact ⟨rfl, hb4⟩) | (go_ret; refine ⟨ret_true ?_, hb4⟩; show (r == 0 || decide (r < 0) == decide (a < 0)) = true; rw [decide_eq_false (by omega), decide_eq_false (by omega)]; simp)
  · obtain rfl : b = 0 := by simpa using hz
    have C1 := doB [47] a 0 0 12 ha hb ⟨by rw [(d_div _ _).1]; rfl, by rw [(d_div _ _).2]; rfl⟩ w
    go_enter Try.func5, Try.ntmps5
    go_wp2_with fail
    refine (awakeB w _ (Below.refl _ _)).mono ?_; rintro e0 w1 ⟨rfl, hb1⟩
    go_wp2_with fail
    refine (C1 _ hb1).mono ?_; rintro e0 w2 ⟨rfl, hb2⟩
    go_wp2_with fail
    go_ret
    exact ⟨rfl, hb2⟩
end Go.Proofs.Ytagblfkodkediaa
