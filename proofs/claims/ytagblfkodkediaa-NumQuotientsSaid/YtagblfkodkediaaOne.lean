/- The contracts of num's size, signed, mul and of math/bits.Mul64: what each returns; the world below the call's own blocks is as it was. -/
import Derived.Test.YtagblfkodkediaaRows
import Derived.WalkKit
import Derived.WalkSpells
import Derived.WalkLawsBesides
import Derived.Lib.Mul64
import Derived.Laws.Bits64b
import Derived.Shelf.Bits.Mul64
import Derived.Deep.QuietTactic
import Derived.BigQuiet
namespace Go.Proofs.Ytagblfkodkediaa
open Go.RowKit
theorem hid {p : Prop} (h : p) : Hid p := h
theorem ret_int {k : IntKind} {a b : Int} (h : a = b) : Ending.returned (.int k a) = .returned (.int k b) := by rw [h]
theorem ret_two {k k' : IntKind} {a b a' b' : Int} (h : a = b) (h' : a' = b') : Ending.returned (.tuple #[.int k a, .int k' a']) = .returned (.tuple #[.int k b, .int k' b']) := by rw [h, h']
def fit (x : Int) : Prop := -9223372036854775808 ≤ x ∧ x ≤ 9223372036854775807
instance (x : Int) : Decidable (fit x) := by unfold fit; infer_instance
def res1 (x : Int) : Int := if fit x then x else 0
def res2 (x : Int) : Int := if fit x then 0 else 11
set_option maxHeartbeats 400000 in
theorem size_any (n : Int) (w : World) (h0 : -9223372036854775808 ≤ n) (h1 : n ≤ 9223372036854775807) :
    Calls Try.prog 17 #[.int .i64 n] w fun e w' => e = .returned (.int .u64 n.natAbs) ∧ w = w' := by
  by_cases h : n < 0
  · go_enter Try.func17, Try.ntmps17
    go_wp2
    go_ret
    exact ⟨ret_int (by show (-(n + 1) + 1 : Int) = _; omega), rfl⟩
  · go_enter Try.func17, Try.ntmps17
    go_wp2
    go_ret
    exact ⟨ret_int (by show (n : Int) = _; omega), rfl⟩
def sg1 (n : Int) (minus : Bool) : Int := res1 (if minus then -n else n)
def sg2 (n : Int) (minus : Bool) : Int := res2 (if minus then -n else n)
set_option maxHeartbeats 400000 in
theorem signed_any (n : Int) (minus : Bool) (w : World) (h0 : 0 ≤ n) (h1 : n < 18446744073709551616) :
    Calls Try.prog 16 #[.int .u64 n, .bool minus] w fun e w' => e = .returned (.tuple #[.int .i64 (sg1 n minus), .int .i64 (sg2 n minus)]) ∧ w = w' := by
  cases minus
  · by_cases h : n < 9223372036854775808
    · go_enter Try.func16, Try.ntmps16
      go_wp2
      go_ret2
      exact ⟨ret_two (by show (n : Int) = _; simp [sg1, res1, fit]; omega) (by show (0 : Int) = _; simp [sg2, res2, fit]; omega), rfl⟩
    · go_enter Try.func16, Try.ntmps16
      go_wp2
      go_ret2
      exact ⟨ret_two (by show (0 : Int) = _; simp [sg1, res1, fit]; omega) (by show (11 : Int) = _; simp [sg2, res2, fit]; omega), rfl⟩
  · by_cases h : n = 9223372036854775808
    · subst h
      go_enter Try.func16, Try.ntmps16
      go_wp2
      go_ret2
      exact ⟨ret_two (by decide) (by decide), rfl⟩
    · have hb : (n == 9223372036854775808) = false := by simp; omega
      by_cases h : n < 9223372036854775808
      · go_enter Try.func16, Try.ntmps16
        go_wp2
        go_ret2
        exact ⟨ret_two (by show (-n : Int) = _; simp [sg1, res1, fit]; omega) (by show (0 : Int) = _; simp [sg2, res2, fit]; omega), rfl⟩
      · go_enter Try.func16, Try.ntmps16
        go_wp2
        go_ret2
        exact ⟨ret_two (by show (0 : Int) = _; simp [sg1, res1, fit]; omega) (by show (11 : Int) = _; simp [sg2, res2, fit]; omega), rfl⟩
set_option maxHeartbeats 1000000 in
theorem mul64_any (x y : Nat) (hx : x < 18446744073709551616) (hy : y < 18446744073709551616) (w : World) :
    Calls Try.prog 22 #[.int .u64 x, .int .u64 y] w fun e w' => e = .returned (.tuple #[.int .u64 ((x * y / 18446744073709551616 : Nat) : Int), .int .u64 ((x * y % 18446744073709551616 : Nat) : Int)]) ∧ w = w' := by
  obtain ⟨bd, bt, bw, hhi⟩ := Lib.mul64_hi x y hx hy
  have ba := Lib.half_mul_le (a := x / 4294967296) (b := y / 4294967296) (by omega) (by omega)
  have bb := Lib.half_mul_le (a := x / 4294967296) (b := y % 4294967296) (by omega) (by omega)
  have bc := Lib.half_mul_le (a := x % 4294967296) (b := y / 4294967296) (by omega) (by omega)
  have ba' : x / 4294967296 * (y / 4294967296) < 18446744073709551616 := by omega
  have bb' : x / 4294967296 * (y % 4294967296) < 18446744073709551616 := by omega
  have bc' : x % 4294967296 * (y / 4294967296) < 18446744073709551616 := by omega
  have bh1 : x / 4294967296 * (y / 4294967296) + (x / 4294967296 * (y % 4294967296) + x % 4294967296 * (y % 4294967296) / 4294967296) / 4294967296 < 18446744073709551616 := by omega
  have bh : x / 4294967296 * (y / 4294967296) + (x / 4294967296 * (y % 4294967296) + x % 4294967296 * (y % 4294967296) / 4294967296) / 4294967296 + ((x / 4294967296 * (y % 4294967296) + x % 4294967296 * (y % 4294967296) / 4294967296) % 4294967296 + x % 4294967296 * (y / 4294967296)) / 4294967296 < 18446744073709551616 := by omega
  go_enter Try.func22, Try.ntmps22
  go_wp2
  simp only [Mul64.maskN x hx, Mul64.maskN y hy, Mul64.divN, Mul64.mulN, Mul64.addN, Mul64.wrapN _ bd, Mul64.wrapN _ bb', Mul64.wrapN _ bt, Mul64.maskN _ bt, Mul64.wrapN _ bc', Mul64.wrapN _ bw, Mul64.wrapN _ ba', Mul64.wrapN _ bh1, Mul64.wrapN _ bh, Mul64.wrapM (x * y)]
  rw [hhi]
  go_ret2
  exact ⟨rfl, rfl⟩

theorem mul_plain (a b : Int) (x y : Nat) (hx : x = a.natAbs) (hy : y = b.natAbs) : (a * b = if (decide (a < 0) != decide (b < 0)) then -((x * y : Nat) : Int) else ((x * y : Nat) : Int)) := by
  subst hx; subst hy
  rw [← Int.natAbs_mul]
  by_cases h : a < 0 <;> by_cases k : b < 0 <;> simp [h, k]
  · have := Int.mul_nonneg_of_nonpos_of_nonpos (a := a) (b := b) (by omega) (by omega); omega
  · have := Int.mul_nonneg (a := -a) (b := b) (by omega) (by omega); rw [Int.neg_mul] at this; omega
  · have := Int.mul_nonneg (a := a) (b := -b) (by omega) (by omega); rw [Int.mul_neg] at this; omega
  · have := Int.mul_nonneg (a := a) (b := b) (by omega) (by omega); omega
theorem big_mul (x y : Nat) (h : 4294967296 ≤ x) (k : 4294967296 ≤ y) : 18446744073709551616 ≤ x * y := Nat.mul_le_mul h k
theorem res_big1 (a b : Int) (x y : Nat) (hx : x = a.natAbs) (hy : y = b.natAbs) (h : 18446744073709551616 ≤ x * y) : res1 (a * b) = 0 ∧ res2 (a * b) = 11 := by
  have := mul_plain a b x y hx hy
  generalize x * y = p at *
  generalize a * b = q at *
  have hf : ¬ fit q := by unfold fit; split at this <;> omega
  simp [res1, res2, hf]
set_option maxHeartbeats 1000000 in
theorem mul_any (a b : Int) (w : World) (a0 : -9223372036854775808 ≤ a) (a1 : a ≤ 9223372036854775807) (b0 : -9223372036854775808 ≤ b) (b1 : b ≤ 9223372036854775807) :
    Calls Try.prog 15 #[.int .i64 a, .int .i64 b] w fun e w' => e = .returned (.tuple #[.int .i64 (res1 (a * b)), .int .i64 (res2 (a * b))]) ∧ Below w.heap.size w w' := by
  obtain ⟨x, hx⟩ : ∃ x, x = a.natAbs := ⟨_, rfl⟩
  obtain ⟨y, hy⟩ : ∃ y, y = b.natAbs := ⟨_, rfl⟩
  have sa := size_any a
  have sb := size_any b
  rw [← hx] at sa
  rw [← hy] at sb
  by_cases hc : 4294967296 ≤ x ∧ 4294967296 ≤ y
  · obtain ⟨c1, c2⟩ := hc
    have hr := res_big1 a b x y hx hy (big_mul x y c1 c2)
    have HR := hid hr
    clear hr hx hy
    go_enter Try.func15, Try.ntmps15
    go_wp2_with fail
    refine (sa _ a0 a1).mono ?_; rintro e w' ⟨rfl, rfl⟩
    go_wp2_with fail
    refine (sb _ b0 b1).mono ?_; rintro e w' ⟨rfl, rfl⟩
    go_wp2
    all_goals (go_ret2; exact ⟨ret_two HR.out.1.symm HR.out.2.symm, (Below.refl _ _).alloc (Nat.le_refl _) _⟩)
  · by_cases hm : 18446744073709551616 ≤ x * y
    · have hr := res_big1 a b x y hx hy hm
      have HR := hid hr
      have hxl : x < 18446744073709551616 := by omega
      have hyl : y < 18446744073709551616 := by omega
      have ml := mul64_any x y hxl hyl
      have hh : 0 < x * y / 18446744073709551616 := by omega
      generalize x * y / 18446744073709551616 = hi at *
      generalize x * y % 18446744073709551616 = lo at *
      have ht : x < 4294967296 ∨ y < 4294967296 := by omega
      clear hr hx hy hm
      go_enter Try.func15, Try.ntmps15
      go_wp2_with fail
      refine (sa _ a0 a1).mono ?_; rintro e w' ⟨rfl, rfl⟩
      go_wp2_with fail
      refine (sb _ b0 b1).mono ?_; rintro e w' ⟨rfl, rfl⟩
      go_wp2_with fail
      all_goals
        refine (ml _).mono ?_; rintro e w' ⟨rfl, rfl⟩
        go_wp2
        go_ret2
        exact ⟨ret_two HR.out.1.symm HR.out.2.symm, (Below.refl _ _).alloc (Nat.le_refl _) _⟩
    · have hp := mul_plain a b x y hx hy
      have hxl : x < 18446744073709551616 := by omega
      have hyl : y < 18446744073709551616 := by omega
      have ml := mul64_any x y hxl hyl
      rw [show x * y / 18446744073709551616 = 0 by omega, show x * y % 18446744073709551616 = x * y by omega] at ml
      have sg := signed_any ((x * y : Nat) : Int) (w := w)
      generalize x * y = p at *
      have hfin : ∀ (m : Bool), m = ((decide (a < 0) != decide (b < 0)) && decide (0 < p)) → sg1 (p : Int) m = res1 (a * b) ∧ sg2 (p : Int) m = res2 (a * b) := by
        intro m hm; subst hm; rw [hp]; by_cases h : 0 < p
        · simp [h, sg1, sg2]
        · have : p = 0 := by omega
          subst this; simp [sg1, sg2]
      have HF := hid hfin
      have hp0 : 0 ≤ (p : Int) := by omega
      have ht : x < 4294967296 ∨ y < 4294967296 := by omega
      have hpl : (p : Int) < 18446744073709551616 := by omega
      have HP := hid (And.intro hp0 hpl)
      clear hfin hp hx hy hm sg hxl hyl hp0 hpl
      by_cases ha : a < 0 <;> by_cases hb : b < 0 <;> by_cases hpp : 0 < p
      all_goals
        go_enter Try.func15, Try.ntmps15
        go_wp2_with fail
        refine (sa _ a0 a1).mono ?_; rintro e w' ⟨rfl, rfl⟩
        go_wp2_with fail
        refine (sb _ b0 b1).mono ?_; rintro e w' ⟨rfl, rfl⟩
        go_wp2_with fail
        all_goals
          refine (ml _).mono ?_; rintro e w' ⟨rfl, rfl⟩
          go_wp2_with fail
          refine (signed_any _ _ _ HP.out.1 HP.out.2).mono ?_; rintro e w' ⟨rfl, rfl⟩
          go_wp2_with fail
          go_ret2
          exact ⟨ret_two (HF.out _ (by simp [ha, hb, hpp] <;> omega)).1 (HF.out _ (by simp [ha, hb, hpp] <;> omega)).2, (Below.refl _ _).alloc (Nat.le_refl _) _⟩

end Go.Proofs.Ytagblfkodkediaa
