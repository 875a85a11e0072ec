/- The reference of num, and Holds of both: what each returns, for every text and every two numbers. -/
import Derived.Test.YtagblfkodkediaaTwo
namespace Go.Proofs.Ytagblfkodkediaa
open Go.RowKit
theorem rmul_ok (a b : Int) (a0 : -9223372036854775808 ≤ a) (a1 : a ≤ 9223372036854775807) (b0 : -9223372036854775808 ≤ b) (b1 : b ≤ 9223372036854775807)
    (hb : b ≠ 0) (h : (wrap64 (a * b)).tdiv b = a) : wrap64 (a * b) = a * b := by
  have e := Int.mul_tdiv_add_tmod (wrap64 (a * b)) b
  rw [h] at e
  have e2 : b * a = a * b := Int.mul_comm _ _
  rw [e2] at e
  have r : ((wrap64 (a * b)).tmod b).natAbs < b.natAbs := by
    rw [Int.natAbs_tmod]; exact Nat.mod_lt _ (by omega)
  generalize (wrap64 (a * b)).tmod b = q at *
  generalize a * b = p at *
  unfold wrap64 at *
  omega
set_option maxHeartbeats 400000 in
theorem radd_any (a b : Int) (w : World) (a0 : -9223372036854775808 ≤ a) (a1 : a ≤ 9223372036854775807) (b0 : -9223372036854775808 ≤ b) (b1 : b ≤ 9223372036854775807) :
    Calls Try.prog 18 #[.int .i64 a, .int .i64 b] w fun e w' => e = .returned (.tuple #[.int .i64 (res1 (a + b)), .int .i64 (res2 (a + b))]) ∧ w = w' := by
  go_enter Try.func18, Try.ntmps18
  go_wp2
  all_goals
    go_ret2
    first
      | exact ⟨ret_two (by show (a + b : Int) = _; rw [res1, if_pos (by unfold fit; omega)]) (by show (0 : Int) = _; rw [res2, if_pos (by unfold fit; omega)]), rfl⟩
      | exact ⟨ret_two (by show (0 : Int) = _; rw [res1, if_neg (by unfold fit; omega)]) (by show (11 : Int) = _; rw [res2, if_neg (by unfold fit; omega)]), rfl⟩
set_option maxHeartbeats 400000 in
theorem rsub_any (a b : Int) (w : World) (a0 : -9223372036854775808 ≤ a) (a1 : a ≤ 9223372036854775807) (b0 : -9223372036854775808 ≤ b) (b1 : b ≤ 9223372036854775807) :
    Calls Try.prog 19 #[.int .i64 a, .int .i64 b] w fun e w' => e = .returned (.tuple #[.int .i64 (res1 (a - b)), .int .i64 (res2 (a - b))]) ∧ w = w' := by
  go_enter Try.func19, Try.ntmps19
  go_wp2
  all_goals
    go_ret2
    first
      | exact ⟨ret_two (by show (a - b : Int) = _; rw [res1, if_pos (by unfold fit; omega)]) (by show (0 : Int) = _; rw [res2, if_pos (by unfold fit; omega)]), rfl⟩
      | exact ⟨ret_two (by show (0 : Int) = _; rw [res1, if_neg (by unfold fit; omega)]) (by show (11 : Int) = _; rw [res2, if_neg (by unfold fit; omega)]), rfl⟩
theorem quo_in (n b : Int) (hn : -9223372036854775808 ≤ n ∧ n ≤ 9223372036854775807) (hb : b ≠ 0) (hb1 : b ≠ -1) : wrap64 (n.tdiv b) = n.tdiv b := by
  have h : (n.tdiv b).natAbs = n.natAbs / b.natAbs := Int.natAbs_tdiv n b
  have h1 : n.natAbs / b.natAbs ≤ n.natAbs := Nat.div_le_self _ _
  by_cases hb2 : b = 1
  · subst hb2; rw [Int.tdiv_one]; exact IntWalk.wrap64_in _ hn
  · have h2 : n.natAbs / b.natAbs ≤ n.natAbs / 2 := Nat.div_le_div_left (by omega) (by omega)
    exact IntWalk.wrap64_in _ (by omega)
theorem wrap64_rng (n : Int) : -9223372036854775808 ≤ wrap64 n ∧ wrap64 n ≤ 9223372036854775807 := by unfold wrap64; omega
theorem rmul_yes (a b : Int) (a0 : -9223372036854775808 ≤ a) (a1 : a ≤ 9223372036854775807) (b0 : -9223372036854775808 ≤ b) (b1 : b ≤ 9223372036854775807) (hb : b ≠ 0) (hb1 : b ≠ -1)
    (h : (wrap64 ((wrap64 (a * b)).tdiv b) != a) = false) : wrap64 (a * b) = res1 (a * b) ∧ 0 = res2 (a * b) := by
  have h' : wrap64 ((wrap64 (a * b)).tdiv b) = a := by simpa using h
  rw [quo_in _ b (wrap64_rng _) hb hb1] at h'
  have e := rmul_ok a b a0 a1 b0 b1 hb h'
  have r := wrap64_rng (a * b)
  rw [e] at r ⊢
  have r' : fit (a * b) := r
  exact ⟨by rw [res1, if_pos r'], by rw [res2, if_pos r']⟩
theorem rmul_no (a b : Int) (hb : b ≠ 0) (a0 : -9223372036854775808 ≤ a) (a1 : a ≤ 9223372036854775807)
    (h : (wrap64 ((wrap64 (a * b)).tdiv b) != a) = true) : 0 = res1 (a * b) ∧ 11 = res2 (a * b) := by
  have h' : wrap64 ((wrap64 (a * b)).tdiv b) ≠ a := by simpa using h
  have : ¬ fit (a * b) := by
    intro hf
    apply h'
    rw [IntWalk.wrap64_in (a * b) hf, Int.mul_tdiv_cancel _ hb]
    exact IntWalk.wrap64_in _ ⟨a0, a1⟩
  exact ⟨by rw [res1, if_neg this], by rw [res2, if_neg this]⟩
def MPost (p : Int) (w : World) (e : Ending) (w' : World) : Prop := e = .returned (.tuple #[.int .i64 (res1 p), .int .i64 (res2 p)]) ∧ w = w'
theorem mfin {p x y : Int} {w : World} (h : x = res1 p ∧ y = res2 p) : MPost p w (.returned (.tuple #[.int .i64 x, .int .i64 y])) w := by
  rw [h.1, h.2]; exact ⟨rfl, rfl⟩
def rd1 (a b : Int) : Int := if b == 0 then 0 else res1 (a.tdiv b)
def rd2 (a b : Int) : Int := if b == 0 then 12 else res2 (a.tdiv b)
def RPost (x y : Int) (w : World) (e : Ending) (w' : World) : Prop := e = .returned (.tuple #[.int .i64 x, .int .i64 y]) ∧ w = w'
theorem rfin {x y x' y' : Int} {w : World} (h : x = x' ∧ y = y') : RPost x' y' w (.returned (.tuple #[.int .i64 x, .int .i64 y])) w := by
  rw [h.1, h.2]; exact ⟨rfl, rfl⟩
section
set_option linter.unusedSectionVars false
variable (a b : Int) (w : World) (a0 : -9223372036854775808 ≤ a) (a1 : a ≤ 9223372036854775807) (b0 : -9223372036854775808 ≤ b) (b1 : b ≤ 9223372036854775807)
include a0 a1 b0 b1
set_option maxHeartbeats 400000 in
theorem rmul_else (ha : (a == 0) = false) (hb : (b == 0) = false) (hc : (b == -1) = false) (hd : ((a == -1) && (b == -9223372036854775808)) = false) :
    Calls Try.prog 20 #[.int .i64 a, .int .i64 b] w (MPost (a * b) w) := by
  have hb' : b ≠ 0 := by simpa using hb
  have hc' : b ≠ -1 := by simpa using hc
  have H1 := hid (rmul_yes a b a0 a1 b0 b1 hb' hc')
  have H0 := hid (rmul_no a b hb' a0 a1)
  have hz : ¬ b = 0 := hb'
  have hor : ((a == 0) || (b == 0)) = false := by simp [ha, hb]
  generalize hg : a * b = p at *
  cases he : a == -1
  · clear hd
    go_enter Try.func20, Try.ntmps20
    go_wp2
    · have := H0.out (by assumption)
      go_ret2
      exact mfin this
    · have := H1.out (by assumption)
      go_ret2
      exact mfin this
  · have hf : (b == -9223372036854775808) = false := by simpa [he] using hd
    clear hd
    go_enter Try.func20, Try.ntmps20
    go_wp2
    · have := H0.out (by assumption)
      go_ret2
      exact mfin this
    · have := H1.out (by assumption)
      go_ret2
      exact mfin this
set_option maxHeartbeats 400000 in
theorem rmul_any : Calls Try.prog 20 #[.int .i64 a, .int .i64 b] w (MPost (a * b) w) := by
  cases ha : a == 0
  · cases hb : b == 0
    · cases hd : (a == -1) && (b == -9223372036854775808)
      · cases hc : b == -1
        · exact rmul_else a b w a0 a1 b0 b1 ha hb hc hd
        · obtain rfl : b = -1 := by simpa using hc
          cases he : a == -9223372036854775808
          · have ha' : a ≠ -9223372036854775808 := by simpa using he
            have HF : Hid (-a = res1 (a * -1) ∧ 0 = res2 (a * -1)) := by
              have : fit (a * -1) := by unfold fit; omega
              exact ⟨by rw [res1, if_pos this]; omega, by rw [res2, if_pos this]⟩
            have a0' : -9223372036854775807 ≤ a := by omega
            generalize a * -1 = p at *
            clear hd ha' hb hc b0 b1
            cases hg : a == -1
            · go_enter Try.func20, Try.ntmps20
              go_wp2
              go_ret2
              exact mfin HF.out
            · obtain rfl : a = -1 := by simpa using hg
              go_enter Try.func20, Try.ntmps20
              go_wp2
              go_ret2
              exact mfin HF.out
          · obtain rfl : a = -9223372036854775808 := by simpa using he
            clear hd hb hc b0 b1
            go_enter Try.func20, Try.ntmps20
            go_wp2
            go_ret2
            exact mfin (by decide)
      · have h1 : a = -1 := by have : (a == -1) = true := by revert hd; cases (a == -1) <;> simp
                               simpa using this
        have h2 : b = -9223372036854775808 := by have : (b == -9223372036854775808) = true := by revert hd; cases (b == -9223372036854775808) <;> simp
                                                 simpa using this
        subst h1; subst h2
        go_enter Try.func20, Try.ntmps20
        go_wp2
        go_ret2
        exact mfin (by decide)
    · obtain rfl : b = 0 := by simpa using hb
      have HF : Hid (0 = res1 (a * 0) ∧ 0 = res2 (a * 0)) := by simp [Hid, res1, res2, fit]
      generalize a * 0 = p at *
      go_enter Try.func20, Try.ntmps20
      go_wp2
      go_ret2
      exact mfin HF.out
  · obtain rfl : a = 0 := by simpa using ha
    have HF : Hid (0 = res1 (0 * b) ∧ 0 = res2 (0 * b)) := by simp [Hid, res1, res2, fit]
    generalize 0 * b = p at *
    go_enter Try.func20, Try.ntmps20
    go_wp2
    all_goals
      go_ret2
      exact mfin HF.out
set_option maxHeartbeats 400000 in
theorem rdiv_any : Calls Try.prog 21 #[.int .i64 a, .int .i64 b] w (RPost (rd1 a b) (rd2 a b) w) := by
  cases hb : b == 0
  · cases hd : (a == -9223372036854775808)
    · have ha' : a ≠ -9223372036854775808 := by simpa using hd
      have hb' : b ≠ 0 := by simpa using hb
      have HF : Hid (a.tdiv b = rd1 a b ∧ 0 = rd2 a b) := by
        have : fit (a.tdiv b) := by
          have h : (a.tdiv b).natAbs = a.natAbs / b.natAbs := Int.natAbs_tdiv a b
          have h1 : a.natAbs / b.natAbs ≤ a.natAbs := Nat.div_le_self _ _
          unfold fit; omega
        exact ⟨by rw [rd1, hb, if_neg (by simp), res1, if_pos this], by rw [rd2, hb, if_neg (by simp), res2, if_pos this]⟩
      have hq : wrap64 (a.tdiv b) = a.tdiv b := by
        have h : (a.tdiv b).natAbs = a.natAbs / b.natAbs := Int.natAbs_tdiv a b
        have h1 : a.natAbs / b.natAbs ≤ a.natAbs := Nat.div_le_self _ _
        exact IntWalk.wrap64_in _ (by omega)
      rw [← hq] at HF
      clear ha' hq
      go_enter Try.func21, Try.ntmps21
      go_wp2
      go_ret2
      exact rfin HF.out
    · obtain rfl : a = -9223372036854775808 := by simpa using hd
      have hb' : b ≠ 0 := by simpa using hb
      cases he : b == -1
      · have he' : b ≠ -1 := by simpa using he
        have hq := quo_in (-9223372036854775808) b (by omega) hb' he'
        have HF : Hid (wrap64 (Int.tdiv (-9223372036854775808) b) = rd1 (-9223372036854775808) b ∧ 0 = rd2 (-9223372036854775808) b) := by
          have hr := wrap64_rng (Int.tdiv (-9223372036854775808) b)
          have : fit (Int.tdiv (-9223372036854775808) b) := by rw [hq] at hr; exact hr
          exact ⟨by rw [rd1, hb, if_neg (by simp), res1, if_pos this, hq], by rw [rd2, hb, if_neg (by simp), res2, if_pos this]⟩
        clear hq he'
        go_enter Try.func21, Try.ntmps21
        go_wp2
        go_ret2
        exact rfin (by have h := HF.out; rw [Int.neg_tdiv] at h; exact h)
      · obtain rfl : b = -1 := by simpa using he
        go_enter Try.func21, Try.ntmps21
        go_wp2
        go_ret2
        exact rfin (by decide)
  · obtain rfl : b = 0 := by simpa using hb
    have HF : Hid (0 = rd1 a 0 ∧ 12 = rd2 a 0) := ⟨rfl, rfl⟩
    go_enter Try.func21, Try.ntmps21
    go_wp2
    go_ret2
    exact rfin HF.out

set_option maxHeartbeats 400000 in
theorem rdo_any (op : ByteArray) : Calls Try.prog 10 #[.string op, .int .i64 a, .int .i64 b] w (RPost (do1 op.toList a b) (do2 op.toList a b) w) := by
  cases h2 : op.toList == [43]
  · cases h1 : op.toList == [45]
    · cases h3 : op.toList == [42]
      · cases h4 : op.toList == [47]
        · have HF : Hid (0 = do1 op.toList a b ∧ 1 = do2 op.toList a b) := by simp only [Hid, do1, do2, h1, h2, h3, h4]; simp
          go_enter Try.func10, Try.ntmps10
          go_wp2
          go_ret2
          exact rfin HF.out
        · have HF : Hid (rd1 a b = do1 op.toList a b ∧ rd2 a b = do2 op.toList a b) := by simp only [Hid, do1, do2, rd1, rd2, h1, h2, h3, h4]; simp
          go_enter Try.func10, Try.ntmps10
          go_wp2_with fail
          refine (rdiv_any a b _ a0 a1 b0 b1).mono ?_; rintro e w' ⟨rfl, rfl⟩
          go_wp2_with fail
          go_ret2
          exact rfin HF.out
      · have HF : Hid (res1 (a * b) = do1 op.toList a b ∧ res2 (a * b) = do2 op.toList a b) := by simp only [Hid, do1, do2, h1, h2, h3]; simp
        go_enter Try.func10, Try.ntmps10
        go_wp2_with fail
        refine (rmul_any a b _ a0 a1 b0 b1).mono ?_; rintro e w' ⟨rfl, rfl⟩
        go_wp2_with fail
        go_ret2
        exact rfin HF.out
    · have e1 : op.toList = [45] := by simpa using h1
      have HF : Hid (res1 (a - b) = do1 op.toList a b ∧ res2 (a - b) = do2 op.toList a b) := by simp only [Hid, do1, do2, h1]; simp
      go_enter Try.func10, Try.ntmps10
      go_wp2_with fail
      refine (rsub_any a b _ a0 a1 b0 b1).mono ?_; rintro e w' ⟨rfl, rfl⟩
      go_wp2_with fail
      go_ret2
      exact rfin HF.out
  · have e1 : op.toList = [43] := by simpa using h2
    have HF : Hid (res1 (a + b) = do1 op.toList a b ∧ res2 (a + b) = do2 op.toList a b) := by simp only [Hid, do1, do2, e1]; simp
    clear e1
    go_enter Try.func10, Try.ntmps10
    go_wp2_with fail
    refine (radd_any a b _ a0 a1 b0 b1).mono ?_; rintro e w' ⟨rfl, rfl⟩
    go_wp2_with fail
    go_ret2
    exact rfin HF.out
end
def hd1 (l : List UInt8) (a b : Int) : Bool := if l == [61, 61] then a == b else if l == [60] then decide (a < b) else false
def hd2 (l : List UInt8) : Int := if l == [61, 61] then 0 else if l == [60] then 0 else 1
def HPost (x : Bool) (y : Int) (w : World) (e : Ending) (w' : World) : Prop := e = .returned (.tuple #[.bool x, .int .i64 y]) ∧ w = w'
theorem hfin {x x' : Bool} {y y' : Int} {w : World} (h : x = x' ∧ y = y') : HPost x' y' w (.returned (.tuple #[.bool x, .int .i64 y])) w := by
  rw [h.1, h.2]; exact ⟨rfl, rfl⟩
set_option maxHeartbeats 400000 in
theorem holds_any (op : ByteArray) (a b : Int) (w : World) : Calls Try.prog 11 #[.string op, .int .i64 a, .int .i64 b] w (HPost (hd1 op.toList a b) (hd2 op.toList) w) := by
  cases h1 : op.toList == [61, 61] <;> cases h2 : op.toList == [60]
  all_goals
    have HF : Hid ((if op.toList == [61, 61] then a == b else if op.toList == [60] then decide (a < b) else false) = hd1 op.toList a b ∧ (if op.toList == [61, 61] then (0 : Int) else if op.toList == [60] then 0 else 1) = hd2 op.toList) := ⟨rfl, rfl⟩
    rw [h1, h2] at HF
    go_enter Try.func11, Try.ntmps11
    go_wp2
    go_ret2
    exact hfin HF.out
set_option maxHeartbeats 400000 in
theorem rholds_any (op : ByteArray) (a b : Int) (w : World) : Calls Try.prog 12 #[.string op, .int .i64 a, .int .i64 b] w (HPost (hd1 op.toList a b) (hd2 op.toList) w) := by
  cases h1 : op.toList == [61, 61] <;> cases h2 : op.toList == [60]
  all_goals
    have HF : Hid ((if op.toList == [61, 61] then a == b else if op.toList == [60] then decide (a < b) else false) = hd1 op.toList a b ∧ (if op.toList == [61, 61] then (0 : Int) else if op.toList == [60] then 0 else 1) = hd2 op.toList) := ⟨rfl, rfl⟩
    rw [h1, h2] at HF
    go_enter Try.func12, Try.ntmps12
    go_wp2
    go_ret2
    exact hfin HF.out
def is1 (l : List UInt8) : Bool := l == [43] || l == [45] || l == [42] || l == [47]
def is2 (l : List UInt8) : Bool := l == [61, 61] || l == [60]
def IPost (x y : Bool) (w : World) (e : Ending) (w' : World) : Prop := e = .returned (.tuple #[.bool x, .bool y]) ∧ w = w'
theorem ifin {x x' y y' : Bool} {w : World} (h : x = x' ∧ y = y') : IPost x' y' w (.returned (.tuple #[.bool x, .bool y])) w := by
  rw [h.1, h.2]; exact ⟨rfl, rfl⟩
end Go.Proofs.Ytagblfkodkediaa
