/- num.Do: for every text and every two numbers it returns what the plain functions do1, do2 say; old memory is as it was. -/
import Derived.Test.YtagblfkodkediaaOne
namespace Go.Proofs.Ytagblfkodkediaa
open Go.RowKit
def do1 (l : List UInt8) (a b : Int) : Int := if l == [45] then res1 (a - b) else if l == [43] then res1 (a + b) else if l == [42] then res1 (a * b) else if l == [47] then (if b == 0 then 0 else res1 (a.tdiv b)) else 0
def do2 (l : List UInt8) (a b : Int) : Int := if l == [45] then res2 (a - b) else if l == [43] then res2 (a + b) else if l == [42] then res2 (a * b) else if l == [47] then (if b == 0 then 12 else res2 (a.tdiv b)) else 1
theorem add_ok (a b : Int) (a0 : -9223372036854775808 ≤ a) (a1 : a ≤ 9223372036854775807) (b0 : -9223372036854775808 ≤ b) (b1 : b ≤ 9223372036854775807)
    (h : (decide (a < wrap64 (a + b)) == decide (0 < b)) = true) : wrap64 (a + b) = res1 (a + b) ∧ 0 = res2 (a + b) := by
  rw [beq_iff_eq, decide_eq_decide] at h
  have : fit (a + b) := by unfold fit; unfold wrap64 at h; omega
  simp only [res1, res2, this, if_true, and_true]
  unfold fit at this; exact IntWalk.wrap64_in _ ⟨by omega, by omega⟩
theorem add_no (a b : Int) (a0 : -9223372036854775808 ≤ a) (a1 : a ≤ 9223372036854775807) (b0 : -9223372036854775808 ≤ b) (b1 : b ≤ 9223372036854775807)
    (h : (decide (a < wrap64 (a + b)) == decide (0 < b)) = false) : 0 = res1 (a + b) ∧ 11 = res2 (a + b) := by
  rw [beq_eq_false_iff_ne, ne_eq, decide_eq_decide] at h
  have : ¬ fit (a + b) := by unfold fit; unfold wrap64 at h; omega
  simp only [res1, res2, this, if_false, and_true]
theorem neg_in (b : Int) (b0 : -9223372036854775808 ≤ b) (b1 : b ≤ 9223372036854775807) (h : (b == -9223372036854775808) = false) : wrap64 (-b) = -b := by
  have : b ≠ -9223372036854775808 := by simpa using h
  exact IntWalk.wrap64_in _ ⟨by omega, by omega⟩
theorem tdiv_plain (a b : Int) (x y : Nat) (hx : x = a.natAbs) (hy : y = b.natAbs) : (a.tdiv b = if (decide (a < 0) != decide (b < 0)) then -((x / y : Nat) : Int) else ((x / y : Nat) : Int)) := by
  subst hx; subst hy
  have hna : (a.tdiv b).natAbs = a.natAbs / b.natAbs := Int.natAbs_tdiv a b
  generalize a.natAbs / b.natAbs = q at *
  by_cases h : a < 0 <;> by_cases k : b < 0 <;> simp [h, k]
  · have : 0 ≤ a.tdiv b := by
      have := Int.tdiv_nonneg (a := -a) (b := -b) (by omega) (by omega); simpa using this
    omega
  · have := Int.tdiv_nonneg (a := -a) (b := b) (by omega) (by omega); rw [Int.neg_tdiv] at this; omega
  · have := Int.tdiv_nonneg (a := a) (b := -b) (by omega) (by omega); rw [Int.tdiv_neg] at this; omega
  · have := Int.tdiv_nonneg (a := a) (b := b) (by omega) (by omega); omega
theorem div_fin (a b : Int) (x y : Nat) (hx : x = a.natAbs) (hy : y = b.natAbs) (m : Bool) (hm : m = ((decide (a < 0) != decide (b < 0)) && decide (y ≤ x))) :
    sg1 ((x / y : Nat) : Int) m = res1 (a.tdiv b) ∧ sg2 ((x / y : Nat) : Int) m = res2 (a.tdiv b) := by
  rw [tdiv_plain a b x y hx hy]; subst hm
  by_cases h : y ≤ x
  · simp [h, sg1, sg2]
  · rw [Nat.div_eq_of_lt (by omega)]; simp [sg1, sg2]

def DoPost (l : List UInt8) (a b : Int) (w : World) (e : Ending) (w' : World) : Prop := e = .returned (.tuple #[.int .i64 (do1 l a b), .int .i64 (do2 l a b)]) ∧ Below w.heap.size w w'
theorem do_fin {l : List UInt8} {a b x y : Int} {w w' : World} (h : x = do1 l a b ∧ y = do2 l a b) (hb : Below w.heap.size w w') : DoPost l a b w (.returned (.tuple #[.int .i64 x, .int .i64 y])) w' := by
  rw [h.1, h.2]; exact ⟨rfl, hb⟩
def sz (n : Int) : Int := n.natAbs
theorem size_sz (n : Int) (w : World) (h0 : -9223372036854775808 ≤ n) (h1 : n ≤ 9223372036854775807) :
    Calls Try.prog 17 #[.int .i64 n] w fun e w' => e = .returned (.int .u64 (sz n)) ∧ w' = w := (size_any n w h0 h1).mono fun _ _ ⟨h, k⟩ => ⟨h, k.symm⟩
theorem div_fin' (a b : Int) (m : Bool) (hm : m = ((decide (a < 0) != decide (b < 0)) && decide (sz b ≤ sz a))) :
    sg1 (sz a / sz b) m = res1 (a.tdiv b) ∧ sg2 (sz a / sz b) m = res2 (a.tdiv b) :=
  div_fin a b a.natAbs b.natAbs rfl rfl m (by rw [hm]; simp [sz])
theorem sz_in (n : Int) (h0 : -9223372036854775808 ≤ n) (h1 : n ≤ 9223372036854775807) : 0 ≤ sz n ∧ sz n ≤ 9223372036854775808 := by unfold sz; omega
theorem div_in (x y : Int) (hx : 0 ≤ x ∧ x ≤ 9223372036854775808) (hy : 0 ≤ y) : 0 ≤ x / y ∧ x / y < 18446744073709551616 :=
  ⟨Int.ediv_nonneg hx.1 hy, by have := Int.ediv_le_self y hx.1; omega⟩
theorem signed_q (n : Int) (m : Bool) (w : World) (h0 : 0 ≤ n) (h1 : n < 18446744073709551616) :
    Calls Try.prog 16 #[.int .u64 n, .bool m] w fun e w' => e = .returned (.tuple #[.int .i64 (sg1 n m), .int .i64 (sg2 n m)]) ∧ w' = w := (signed_any n m w h0 h1).mono fun _ _ ⟨h, k⟩ => ⟨h, k.symm⟩
section
set_option linter.unusedSectionVars false
variable (op : ByteArray) (a b : Int) (w : World) (a0 : -9223372036854775808 ≤ a) (a1 : a ≤ 9223372036854775807) (b0 : -9223372036854775808 ≤ b) (b1 : b ≤ 9223372036854775807)
include a0 a1 b0 b1
set_option maxHeartbeats 400000 in
theorem do_sub_min (h1 : (op.toList == [45]) = true) (hb : (b == -9223372036854775808) = true) :
    Calls Try.prog 9 #[.string op, .int .i64 a, .int .i64 b] w (DoPost op.toList a b w) := by
  have e1 : op.toList = [45] := by simpa using h1
  obtain rfl : b = -9223372036854775808 := by simpa using hb
  by_cases h : 0 ≤ a
  · have hf : (0 : Int) = do1 op.toList a (-9223372036854775808) ∧ 11 = do2 op.toList a (-9223372036854775808) := by simp [do1, do2, e1, res1, res2, fit]; omega
    have HF := hid hf
    clear hf e1 hb
    go_enter Try.func9, Try.ntmps9
    go_wp2
    go_ret2
    exact do_fin HF.out (Below.refl _ _)
  · have hf : a - -9223372036854775808 = do1 op.toList a (-9223372036854775808) ∧ 0 = do2 op.toList a (-9223372036854775808) := by simp [do1, do2, e1, res1, res2, fit]; omega
    have HF := hid hf
    clear hf e1 hb
    go_enter Try.func9, Try.ntmps9
    go_wp2
    go_ret2
    exact do_fin HF.out (Below.refl _ _)
set_option maxHeartbeats 400000 in
theorem do_sub (h1 : (op.toList == [45]) = true) (hb : (b == -9223372036854775808) = false) :
    Calls Try.prog 9 #[.string op, .int .i64 a, .int .i64 b] w (DoPost op.toList a b w) := by
  have e1 : op.toList = [45] := by simpa using h1
  have hne : b ≠ -9223372036854775808 := by simpa using hb
  have hd : do1 op.toList a b = res1 (a + -b) ∧ do2 op.toList a b = res2 (a + -b) := by simp [do1, do2, e1, Int.sub_eq_add_neg]
  have H1 := hid (add_ok a (-b) a0 a1 (by omega) (by omega))
  have H0 := hid (add_no a (-b) a0 a1 (by omega) (by omega))
  have HD := hid hd
  have hb' : -9223372036854775807 ≤ b := by omega
  clear hd e1 hne
  go_enter Try.func9, Try.ntmps9
  go_wp2
  · have h : (decide (a < wrap64 (a + -b)) == decide (b < 0)) = true := by assumption
    have := H1.out (by rw [← h]; congr 2; simp)
    go_ret2
    exact do_fin ⟨this.1.trans HD.out.1.symm, this.2.trans HD.out.2.symm⟩ (Below.refl _ _)
  · have h : (decide (a < wrap64 (a + -b)) == decide (b < 0)) = false := by assumption
    have := H0.out (by rw [← h]; congr 2; simp)
    go_ret2
    exact do_fin ⟨this.1.trans HD.out.1.symm, this.2.trans HD.out.2.symm⟩ (Below.refl _ _)
set_option maxHeartbeats 400000 in
theorem do_add (h1 : (op.toList == [45]) = false) (h2 : (op.toList == [43]) = true) :
    Calls Try.prog 9 #[.string op, .int .i64 a, .int .i64 b] w (DoPost op.toList a b w) := by
  have e1 : op.toList = [43] := by simpa using h2
  have hd : do1 op.toList a b = res1 (a + b) ∧ do2 op.toList a b = res2 (a + b) := by simp [do1, do2, e1]
  have H1 := hid (add_ok a b a0 a1 b0 b1)
  have H0 := hid (add_no a b a0 a1 b0 b1)
  have HD := hid hd
  clear hd e1
  go_enter Try.func9, Try.ntmps9
  go_wp2
  · have h : (decide (a < wrap64 (a + b)) == decide (0 < b)) = true := by assumption
    have := H1.out h
    go_ret2
    exact do_fin ⟨this.1.trans HD.out.1.symm, this.2.trans HD.out.2.symm⟩ (Below.refl _ _)
  · have h : (decide (a < wrap64 (a + b)) == decide (0 < b)) = false := by assumption
    have := H0.out h
    go_ret2
    exact do_fin ⟨this.1.trans HD.out.1.symm, this.2.trans HD.out.2.symm⟩ (Below.refl _ _)
set_option maxHeartbeats 400000 in
theorem do_mul (h1 : (op.toList == [45]) = false) (h2 : (op.toList == [43]) = false) (h3 : (op.toList == [42]) = true) :
    Calls Try.prog 9 #[.string op, .int .i64 a, .int .i64 b] w (DoPost op.toList a b w) := by
  have e1 : op.toList = [42] := by simpa using h3
  have hd : res1 (a * b) = do1 op.toList a b ∧ res2 (a * b) = do2 op.toList a b := by simp [do1, do2, e1]
  have HD := hid hd
  clear hd e1
  go_enter Try.func9, Try.ntmps9
  go_wp2_with fail
  refine (mul_any a b _ a0 a1 b0 b1).mono ?_; rintro e w' ⟨rfl, hbel⟩
  go_wp2_with fail
  go_ret2
  exact do_fin HD.out hbel
set_option maxHeartbeats 400000 in
theorem do_zero (h1 : (op.toList == [45]) = false) (h2 : (op.toList == [43]) = false) (h3 : (op.toList == [42]) = false) (h4 : (op.toList == [47]) = true) (hz : (b == 0) = true) :
    Calls Try.prog 9 #[.string op, .int .i64 a, .int .i64 b] w (DoPost op.toList a b w) := by
  have e1 : op.toList = [47] := by simpa using h4
  have hd : 0 = do1 op.toList a b ∧ 12 = do2 op.toList a b := by simp [do1, do2, e1, hz]
  have HD := hid hd
  clear hd e1
  go_enter Try.func9, Try.ntmps9
  go_wp2
  go_ret2
  exact do_fin HD.out (Below.refl _ _)
set_option maxHeartbeats 400000 in
theorem do_else (h1 : (op.toList == [45]) = false) (h2 : (op.toList == [43]) = false) (h3 : (op.toList == [42]) = false) (h4 : (op.toList == [47]) = false) :
    Calls Try.prog 9 #[.string op, .int .i64 a, .int .i64 b] w (DoPost op.toList a b w) := by
  have hd : 0 = do1 op.toList a b ∧ 1 = do2 op.toList a b := by simp only [do1, do2, h1, h2, h3, h4]; simp
  have HD := hid hd
  clear hd
  go_enter Try.func9, Try.ntmps9
  go_wp2
  go_ret2
  exact do_fin HD.out (Below.refl _ _)

set_option maxHeartbeats 400000 in
theorem do_div (h1 : (op.toList == [45]) = false) (h2 : (op.toList == [43]) = false) (h3 : (op.toList == [42]) = false) (h4 : (op.toList == [47]) = true) (hz : (b == 0) = false) :
    Calls Try.prog 9 #[.string op, .int .i64 a, .int .i64 b] w (DoPost op.toList a b w) := by
  have e1 : op.toList = [47] := by simpa using h4
  have hd : do1 op.toList a b = res1 (a.tdiv b) ∧ do2 op.toList a b = res2 (a.tdiv b) := by simp only [do1, do2, e1, hz]; simp
  have hfin := div_fin' a b
  rw [← hd.1, ← hd.2] at hfin
  have HF := hid hfin
  obtain ⟨x0, x1⟩ := sz_in a a0 a1
  obtain ⟨y0, y1⟩ := sz_in b b0 b1
  have hyz : (sz b == 0) = false := by have : b ≠ 0 := by simpa using hz
                                       simp [sz]; omega
  have hq := div_in _ (sz b) ⟨x0, x1⟩ y0
  have HQ := hid hq
  have hyp : 1 ≤ sz b := by have : sz b ≠ 0 := by simpa using hyz
                            omega
  have hwr := IntWalk.u64_quo (sz a) (sz b) ⟨x0, by omega, hyp⟩
  have hne : ¬ sz b = 0 := by omega
  clear hfin hd e1 hq
  cases hda : decide (a < 0) <;> cases hdb : decide (b < 0) <;> cases hdp : decide (sz b ≤ sz a)
  all_goals
    have ha := hda; have hb := hdb; have hp := hdp
    simp only [decide_eq_true_eq, decide_eq_false_iff_not] at ha hb hp
    go_enter Try.func9, Try.ntmps9
    go_wp2_with fail
    go_quiet ((first | (go_at_call 17; refine Calls.quiet_of_same (size_sz _ _ (by assumption) (by assumption))) | (go_at_call 16; refine Calls.quiet_of_same (signed_q _ _ _ HQ.out.1 HQ.out.2))))
    go_wp2
    go_ret2
    exact do_fin (HF.out _ (by simp [hda, hdb, hdp])) (below_drewN (Below.refl _ _) _)
theorem do_any : Calls Try.prog 9 #[.string op, .int .i64 a, .int .i64 b] w (DoPost op.toList a b w) := by
  cases h1 : op.toList == [45]
  · cases h2 : op.toList == [43]
    · cases h3 : op.toList == [42]
      · cases h4 : op.toList == [47]
        · exact do_else op a b w a0 a1 b0 b1 h1 h2 h3 h4
        · cases h5 : b == 0
          · exact do_div op a b w a0 a1 b0 b1 h1 h2 h3 h4 h5
          · exact do_zero op a b w a0 a1 b0 b1 h1 h2 h3 h4 h5
      · exact do_mul op a b w a0 a1 b0 b1 h1 h2 h3
    · exact do_add op a b w a0 a1 b0 b1 h1 h2
  · cases h5 : b == -9223372036854775808
    · exact do_sub op a b w a0 a1 b0 b1 h1 h5
    · exact do_sub_min op a b w a0 a1 b0 b1 h1 h5
end
end Go.Proofs.Ytagblfkodkediaa
