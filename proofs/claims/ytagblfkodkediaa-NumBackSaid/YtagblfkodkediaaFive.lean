/- num's statements: the calls that the document fixes, and each statement's own walk: it returns true, and old memory is as it was. -/
import Derived.Test.YtagblfkodkediaaFour
import Derived.Deep.DeepCutAuto
namespace Go.Proofs.Ytagblfkodkediaa
open Go.RowKit
theorem bthen {a b c : World} (h : Below a.heap.size a b) (k : Below b.heap.size b c) : Below a.heap.size a c := h.trans (k.mono h.size)
def In (a : Int) : Prop := -9223372036854775808 ≤ a ∧ a ≤ 9223372036854775807
instance (a : Int) : Decidable (In a) := by unfold In; infer_instance
def R2 (x y : Int) (w : World) (e : Ending) (w' : World) : Prop := e = .returned (.tuple #[.int .i64 x, .int .i64 y]) ∧ Below w.heap.size w w'
def RB2 (x : Bool) (y : Int) (w : World) (e : Ending) (w' : World) : Prop := e = .returned (.tuple #[.bool x, .int .i64 y]) ∧ Below w.heap.size w w'
def Y (w : World) (e : Ending) (w' : World) : Prop := e = .returned (.bool true) ∧ Below w.heap.size w w'
theorem doC (l : List UInt8) (a b x y : Int) (ha : In a) (hb : In b) (hx : do1 l a b = x) (hy : do2 l a b = y) (w : World) :
    Calls Try.prog 9 #[.string ⟨l.toArray⟩, .int .i64 a, .int .i64 b] w (R2 x y w) := by
  subst hx; subst hy
  exact (do_any ⟨l.toArray⟩ a b w ha.1 ha.2 hb.1 hb.2).mono fun e w' h => by simpa [DoPost, R2] using h
theorem rdoC (l : List UInt8) (a b x y : Int) (ha : In a) (hb : In b) (hx : do1 l a b = x) (hy : do2 l a b = y) (w : World) :
    Calls Try.prog 10 #[.string ⟨l.toArray⟩, .int .i64 a, .int .i64 b] w (R2 x y w) := by
  subst hx; subst hy
  exact (rdo_any a b w ha.1 ha.2 hb.1 hb.2 ⟨l.toArray⟩).mono fun e w' h => by
    obtain ⟨h, rfl⟩ := h; exact ⟨by simpa using h, Below.refl _ _⟩
theorem holdsC (l : List UInt8) (a b : Int) (x : Bool) (y : Int) (hx : hd1 l a b = x) (hy : hd2 l = y) (w : World) :
    Calls Try.prog 11 #[.string ⟨l.toArray⟩, .int .i64 a, .int .i64 b] w (RB2 x y w) := by
  subst hx; subst hy
  exact (holds_any ⟨l.toArray⟩ a b w).mono fun e w' h => by
    obtain ⟨h, rfl⟩ := h; exact ⟨by simpa using h, Below.refl _ _⟩
theorem isC (l : List UInt8) (x y : Bool) (hx : is1 l = x) (hy : is2 l = y) (w : World) :
    Calls Try.prog 13 #[.string ⟨l.toArray⟩] w fun e w' => e = .returned (.tuple #[.bool x, .bool y]) ∧ Below w.heap.size w w' := by
  subst hx; subst hy
  exact (is_any ⟨l.toArray⟩ w).mono fun e w' h => by
    obtain ⟨h, rfl⟩ := h; exact ⟨by simpa using h, Below.refl _ _⟩
set_option maxHeartbeats 1000000 in
theorem awake_any (w : World) : Calls Try.prog 8 #[] w (Y w) := by
  go_enter Try.func8, Try.ntmps8
  go_wp2_with fail
  refine (doC [47] (-7) 2 (-3) 0 (by decide) (by decide) (by decide) (by decide) _).mono ?_; rintro e w1 ⟨rfl, hb1⟩
  go_wp2_with fail
  refine (doC [47] 1 0 0 12 (by decide) (by decide) (by decide) (by decide) _).mono ?_; rintro e w2 ⟨rfl, hb2⟩
  go_wp2_with fail
  refine (doC [42] 4611686018427387904 2 0 11 (by decide) (by decide) (by decide) (by decide) _).mono ?_; rintro e w3 ⟨rfl, hb3⟩
  go_wp2_with fail
  refine (doC [45] 3 5 (-2) 0 (by decide) (by decide) (by decide) (by decide) _).mono ?_; rintro e w4 ⟨rfl, hb4⟩
  go_wp2_with fail
  refine (doC [63] 1 1 0 1 (by decide) (by decide) (by decide) (by decide) _).mono ?_; rintro e w5 ⟨rfl, hb5⟩
  go_wp2_with fail
  refine (holdsC [60] 1 2 true 0 (by decide) (by decide) _).mono ?_; rintro e w6 ⟨rfl, hb6⟩
  go_wp2_with fail
  refine (isC [61, 61] false true (by decide) (by decide) _).mono ?_; rintro e w7 ⟨rfl, hb7⟩
  go_wp2_with fail
  go_ret
  exact ⟨rfl, bthen hb1 (bthen hb2 (bthen hb3 (bthen hb4 (bthen hb5 (bthen hb6 hb7)))))⟩

theorem awakeB (w0 w : World) (h : Below w0.heap.size w0 w) : Calls Try.prog 8 #[] w fun e w' => e = .returned (.bool true) ∧ Below w0.heap.size w0 w' := (awake_any w).mono fun _ _ ⟨a, b⟩ => ⟨a, bthen h b⟩
theorem doB (l : List UInt8) (a b x y : Int) (ha : In a) (hb : In b) (h : do1 l a b = x ∧ do2 l a b = y) (w0 w : World) (h0 : Below w0.heap.size w0 w) :
    Calls Try.prog 9 #[.string ⟨l.toArray⟩, .int .i64 a, .int .i64 b] w fun e w' => e = .returned (.tuple #[.int .i64 x, .int .i64 y]) ∧ Below w0.heap.size w0 w' :=
  (doC l a b x y ha hb h.1 h.2 w).mono fun _ _ ⟨a, b⟩ => ⟨a, bthen h0 b⟩
theorem holdsB (l : List UInt8) (a b : Int) (x : Bool) (hx : hd1 l a b = x) (hy : hd2 l = 0) (w0 w : World) (h0 : Below w0.heap.size w0 w) :
    Calls Try.prog 11 #[.string ⟨l.toArray⟩, .int .i64 a, .int .i64 b] w fun e w' => e = .returned (.tuple #[.bool x, .int .i64 0]) ∧ Below w0.heap.size w0 w' :=
  (holdsC l a b x 0 hx hy w).mono fun _ _ ⟨a, b⟩ => ⟨a, bthen h0 b⟩
set_option maxHeartbeats 1000000 in
theorem tells (op : ByteArray) (a b : Int) (w : World) (ha : In a) (hb : In b) : Calls Try.prog 3 #[.string op, .int .i64 a, .int .i64 b] w (Y w) := by
  have D : ∀ v, Calls Try.prog 9 #[.string op, .int .i64 a, .int .i64 b] v (R2 (do1 op.toList a b) (do2 op.toList a b) v) := fun v => do_any op a b v ha.1 ha.2 hb.1 hb.2
  have R := fun v => rdo_any a b v ha.1 ha.2 hb.1 hb.2 op
  have H := fun v => holds_any op a b v
  have RH := fun v => rholds_any op a b v
  have I := fun v => is_any op v
  have RI := fun v => ris_any op v
  generalize do1 op.toList a b = x1 at *
  generalize do2 op.toList a b = x2 at *
  generalize hd1 op.toList a b = x3 at *
  generalize hd2 op.toList = x4 at *
  generalize is1 op.toList = x5 at *
  generalize is2 op.toList = x6 at *
  go_enter Try.func3, Try.ntmps3
  go_wp2_with fail
  refine (awakeB w _ (Below.refl _ _)).mono ?_; rintro e w1 ⟨rfl, hb1⟩
  go_wp2_with fail
  refine (D _).mono ?_; rintro e w2 ⟨rfl, hb2⟩
  have hb2 := bthen hb1 hb2
  go_wp2_with fail
  refine (R _).mono ?_; rintro e w3 ⟨rfl, rfl⟩
  go_wp2_with fail
  refine (H _).mono ?_; rintro e w4 ⟨rfl, rfl⟩
  go_wp2_with fail
  refine (RH _).mono ?_; rintro e w5 ⟨rfl, rfl⟩
  go_wp2_with fail
  refine (I _).mono ?_; rintro e w6 ⟨rfl, rfl⟩
  go_wp2_with fail
  refine (RI _).mono ?_; rintro e w7 ⟨rfl, rfl⟩
  go_wp2_with fail
  go_ret
  exact ⟨rfl, hb2⟩
theorem res_in (x : Int) : In (res1 x) := by unfold res1 In; split
                                             · assumption
                                             · omega
theorem d_add (a b : Int) : do1 [43] a b = res1 (a + b) ∧ do2 [43] a b = res2 (a + b) := ⟨rfl, rfl⟩
theorem d_sub (a b : Int) : do1 [45] a b = res1 (a - b) ∧ do2 [45] a b = res2 (a - b) := ⟨rfl, rfl⟩
theorem d_mul (a b : Int) : do1 [42] a b = res1 (a * b) ∧ do2 [42] a b = res2 (a * b) := ⟨rfl, rfl⟩
theorem d_div (a b : Int) : do1 [47] a b = rd1 a b ∧ do2 [47] a b = rd2 a b := ⟨rfl, rfl⟩
theorem res_yes (x : Int) (h : fit x) : res1 x = x ∧ res2 x = 0 := ⟨by rw [res1, if_pos h], by rw [res2, if_pos h]⟩
theorem res_not (x : Int) (h : ¬ fit x) : res1 x = 0 ∧ res2 x = 11 := ⟨by rw [res1, if_neg h], by rw [res2, if_neg h]⟩
set_option maxHeartbeats 1000000 in
theorem back (a b : Int) (w : World) (ha : In a) (hb : In b) : Calls Try.prog 4 #[.int .i64 a, .int .i64 b] w (Y w) := by
  have key : ∃ s e d g p h : Int, (In s ∧ do1 [43] a b = s ∧ do2 [43] a b = e) ∧ (do1 [43] b a = s ∧ do2 [43] b a = e) ∧ (do1 [45] s b = d ∧ do2 [45] s b = g) ∧ (do1 [42] a b = p ∧ do2 [42] a b = h) ∧ (do1 [42] b a = p ∧ do2 [42] b a = h) ∧ (e = 0 ∧ g = 0 ∧ d = a ∨ e = 11) := by
    refine ⟨_, _, _, _, _, _, ⟨res_in _, (d_add a b)⟩, ?_, ⟨rfl, rfl⟩, d_mul a b, ?_, ?_⟩
    · rw [Int.add_comm a b]; exact d_add b a
    · rw [Int.mul_comm a b]; exact d_mul b a
    · by_cases h : fit (a + b)
      · rw [(res_yes _ h).1, (res_yes _ h).2, (d_sub _ _).1, (d_sub _ _).2, show a + b - b = a by omega, (res_yes _ ha).1, (res_yes _ ha).2]; simp
      · rw [(res_not _ h).2]; simp
  obtain ⟨s, e, d, g, p, h, ⟨hs, h1⟩, h2, h3, h4, h5, h6⟩ := key
  have C1 := doB _ _ _ _ _ ha hb h1 w
  have C2 := doB _ _ _ _ _ hb ha h2 w
  have C3 := doB _ _ _ _ _ hs hb h3 w
  have C4 := doB _ _ _ _ _ ha hb h4 w
  have C5 := doB _ _ _ _ _ hb ha h5 w
  clear h1 h2 h3 h4 h5
  have L : (a < b ∧ decide (a < b) = true ∧ decide (b < a) = false ∧ (a == b) = false) ∨ (b < a ∧ decide (a < b) = false ∧ decide (b < a) = true ∧ (a == b) = false) ∨ (decide (a < b) = false ∧ decide (b < a) = false ∧ (a == b) = true) := by
    simp only [decide_eq_true_eq, decide_eq_false_iff_not, beq_iff_eq, beq_eq_false_iff_ne]; omega
  have key2 : ∃ p1 p2 p3 : Bool, hd1 [60] a b = p1 ∧ hd1 [60] b a = p2 ∧ hd1 [61, 61] a b = p3 ∧ ((p1 = true ∧ p2 = false ∧ p3 = false) ∨ (p1 = false ∧ p2 = true ∧ p3 = false) ∨ (p1 = false ∧ p2 = false ∧ p3 = true)) := by
    refine ⟨_, _, _, rfl, rfl, rfl, ?_⟩
    simp only [show hd1 [60] a b = decide (a < b) from rfl, show hd1 [60] b a = decide (b < a) from rfl, show hd1 [61, 61] a b = (a == b) from rfl]
    rcases L with ⟨_, x, y, z⟩ | ⟨_, x, y, z⟩ | ⟨x, y, z⟩ <;> simp only [x, y, z] <;> simp
  clear L
  obtain ⟨p1, p2, p3, k1, k2, k3, k4⟩ := key2
  have C6 := holdsB _ _ _ _ k1 rfl w
  have C7 := holdsB _ _ _ _ k2 rfl w
  have C8 := holdsB _ _ _ _ k3 rfl w
  clear k1 k2 k3
  rcases h6 with ⟨rfl, rfl, rfl⟩ | rfl <;> rcases k4 with ⟨rfl, rfl, rfl⟩ | ⟨rfl, rfl, rfl⟩ | ⟨rfl, rfl, rfl⟩
  all_goals
    go_enter Try.func4, Try.ntmps4
    go_wp2_with fail
    refine (awakeB w _ (Below.refl _ _)).mono ?_; rintro e w1 ⟨rfl, hb1⟩
    go_wp2_with fail
    refine (C1 _ hb1).mono ?_; rintro e w2 ⟨rfl, hb2⟩
    go_wp2_with fail
    refine (C2 _ hb2).mono ?_; rintro e w3 ⟨rfl, hb3⟩
    go_wp2_with fail
    refine (C3 _ hb3).mono ?_; rintro e w4 ⟨rfl, hb4⟩
    go_wp2_with fail
    refine (C4 _ hb4).mono ?_; rintro e w5 ⟨rfl, hb5⟩
    go_wp2_with fail
    refine (C5 _ hb5).mono ?_; rintro e w6 ⟨rfl, hb6⟩
    go_wp2_with fail
    refine (C6 _ hb6).mono ?_; rintro e w7 ⟨rfl, hb7⟩
    go_wp2_with fail
    refine (C7 _ hb7).mono ?_; rintro e w8 ⟨rfl, hb8⟩
    go_wp2_with fail
    refine (C8 _ hb8).mono ?_; rintro e w9 ⟨rfl, hb9⟩
    go_wp2_with fail
    go_ret
    exact ⟨rfl, hb9⟩
end Go.Proofs.Ytagblfkodkediaa
