/- The calls whose answers the document fixes: awake answers true. -/
import Derived.Test.YteogmehbjopedaaWaitL
namespace Go.Proofs.Yteogmehbjopedaa
open Go.RowKit Go.Shelf Go.Maps
attribute [local go_sem] Oper.semAt_some
/-- A slice of numbers just laid. -/
theorem isl_new (w : World) (t : TypeId) (xs : List Int) (hin : ∀ x ∈ xs, In x) (hl : xs.length ≤ 1000) :
    ISl (w.alloc (.cells (xs.map (.int .i64)).toArray t)) (fun _ => True) (.slice (some ⟨w.heap.size, 0, none⟩) xs.length xs.length) xs := by
  refine ⟨_, _, rfl, Nat.le_refl _, by simp [maxLen]; omega, (fun h => by cases h), fun _ => ⟨_, 0, rfl, trivial, fun i hi => ⟨[.int .i64 xs[i]], ⟨rfl, hin _ (List.getElem_mem hi)⟩, fun j u hj => ?_⟩⟩⟩
  rw [cell_of (World.alloc_heap_new w _)]
  match j, hj with
  | 0, hj => simp at hj; simp [hi, hj]
  | j + 1, hj => simp at hj
theorem in_small {z : Int} (h : -1000 ≤ z) (k : z ≤ 1000) : In z := ⟨by omega, by omega⟩
theorem park_new (w : World) (ok : Nat → Prop) (lv : Value) (t : Int) (xs ys : List W) (vars : List Int) (n : Nat) (h : WSl w ok lv xs) (ht : In t) (hn : xs.length ≤ 1000) (hv : vars.length ≤ 1000) (hin : ∀ x ∈ vars, In x)
    (hb : parkBad xs t vars = false) (hy : xs ++ [(t, vars)] = ys) (hk : ys.length = n) :
    Calls Try.prog 9 #[lv, .int .i64 t, .slice (some ⟨w.heap.size, 0, none⟩) vars.length vars.length] (w.alloc (.cells (vars.map (.int .i64)).toArray 3)) fun e w' =>
      ∃ av cv, e = .returned (.tuple #[.slice av n cv, .int .i64 0]) ∧ WSl w' (fun _ => True) (.slice av n cv) ys ∧ Below w.heap.size w w' := by
  have hA := (Below.refl w.heap.size w).alloc (Nat.le_refl _) (.cells (vars.map (.int .i64)).toArray 3)
  refine (park_any _ _ _ lv _ t xs vars (h.below waiterGood hA) (isl_new w 3 vars hin hv) ht hn hv).mono ?_
  rintro e w' ⟨vr, rfl, hs, hb'⟩
  rw [parkS, hb] at hs
  simp only [Bool.false_eq_true, if_false, hy] at hs
  obtain ⟨av, cv, rfl, _⟩ := hs.shape
  subst hk
  exact ⟨av, cv, by rw [parkE, hb]; rfl, hs, hA.trans (hb'.mono hA.size)⟩
theorem bad_waiter (w : World) : WSl (w.alloc (.cells #[.int .i64 (-1), .slice none 0 0] 40)) (fun _ => True) (.slice (some ⟨w.heap.size, 0, none⟩) 1 1) [(-1, [])] :=
  ⟨_, 1, rfl, by simp, by simp [maxLen], (fun h => by cases h), fun _ => ⟨_, 0, rfl, trivial, fun i hi => by
    simp at hi; subst hi
    exact ⟨[.int .i64 (-1), .slice none 0 0], ⟨_, rfl, in_small (z := -1) (by decide) (by decide), RSl.nil _ _ _ _⟩, fun j u hj => by rw [cell_of (World.alloc_heap_new w _)]; simpa using hj⟩⟩⟩
theorem in_list {l : List Int} (h : (l.all fun x => decide (-1000 ≤ x) && decide (x ≤ 1000)) = true) : ∀ x ∈ l, In x := fun x hx => by
  have := List.all_eq_true.1 h x hx
  simp at this; exact in_small this.1 this.2
def l1 : List W := [(1, [3])]
def l2 : List W := [(1, [3]), (2, [4, 3])]
def l3 : List W := [(1, [3]), (2, [4, 3]), (5, [6])]
theorem l3fits : Fits l3 := ⟨by simp [l3], by simp [l3]⟩
set_option maxRecDepth 100000 in
set_option maxHeartbeats 4000000 in
theorem awake_any (w : World) : Calls Try.prog 7 #[] w (Bb true w) := by
  have p1 : Calls Try.prog 9 #[.slice none 0 0, .int .i64 1, .slice (some ⟨w.heap.size, 0, none⟩) 1 1] (w.alloc (.cells #[.int .i64 3] 3)) _ :=
    park_new w (fun _ => True) (.slice none 0 0) 1 [] l1 [3] 1 (RSl.nil _ _ _ _) (in_small (by decide) (by decide)) (by decide) (by decide) (in_list (by decide)) (by decide) rfl rfl
  have P1 := hid p1
  clear p1
  go_enter Try.func7, Try.ntmps7
  go_wp2_with fail
  refine P1.out.mono ?_
  rintro e w1 ⟨a1, c1, rfl, h1, b1⟩
  have p2 : Calls Try.prog 9 #[.slice a1 1 c1, .int .i64 2, .slice (some ⟨w1.heap.size, 0, none⟩) 2 2] (w1.alloc (.cells #[.int .i64 4, .int .i64 3] 3)) _ :=
    park_new w1 _ (.slice a1 1 c1) 2 l1 l2 [4, 3] 2 h1 (in_small (by decide) (by decide)) (by decide) (by decide) (in_list (by decide)) (by decide) rfl rfl
  have P2 := hid p2
  clear p2 h1 P1
  go_wp2_with fail
  refine P2.out.mono ?_
  rintro e w2 ⟨a2, c2, rfl, h2, b2⟩
  have p3 : Calls Try.prog 9 #[.slice a2 2 c2, .int .i64 5, .slice (some ⟨w2.heap.size, 0, none⟩) 1 1] (w2.alloc (.cells #[.int .i64 6] 3)) _ :=
    park_new w2 _ (.slice a2 2 c2) 5 l2 l3 [6] 3 h2 (in_small (by decide) (by decide)) (by decide) (by decide) (in_list (by decide)) (by decide) rfl rfl
  have P3 := hid p3
  clear p3 h2 P2
  go_wp2_with fail
  refine P3.out.mono ?_
  rintro e w3 ⟨a3, c3, rfl, h3, b3⟩
  have p4 := park_any w3 _ (fun _ => True) (.slice a3 3 c3) (.slice none 0 0) 5 l3 [] h3 (RSl.nil _ _ _ _) (in_small (by decide) (by decide)) (by decide) (by decide)
  have P4 := hid p4
  have H3 := hid (And.intro h3 (b1.trans ((b2.mono b1.size).trans (b3.mono (Nat.le_trans b1.size b2.size)))))
  clear p4 h3 P3 b1 b2 b3
  go_wp2_with fail
  refine P4.out.mono ?_
  rintro e w4 ⟨v4, rfl, h4, b4⟩
  obtain ⟨a4, c4, rfl, _⟩ := h4.shape
  have h34 := RSl.below waiterGood H3.out.1 b4
  have hA5 := (Below.refl w4.heap.size w4).alloc (Nat.le_refl _) (.cells #[.int .i64 3] 3)
  have p5 := wake_any (w4.alloc (.cells #[.int .i64 3] 3)) _ _ (.slice a3 3 c3) (.slice (some ⟨w4.heap.size, 0, none⟩) 1 1) l3 [3] (h34.below waiterGood hA5) (isl_new w4 3 [3] (in_list (by decide)) (by decide)) l3fits (by decide)
  rw [show parkE l3 5 [] = 1 from by decide]
  have P5 := hid p5
  have H4 := hid (And.intro h34 (And.intro (H3.out.2.trans (b4.mono H3.out.2.size)) hA5))
  clear p5 h4 h34 b4 P4 H3 hA5
  go_wp2_with fail
  refine P5.out.mono ?_
  rintro e w5 ⟨v5, v6, rfl, h5, h6, b5⟩
  have h5' : ISl w5 (fun _ => True) v5 [1, 2] := h5.weak intGood (by decide) (fun _ _ _ => trivial)
  have h6' : WSl w5 (fun _ => True) v6 [(5, [6])] := h6.weak waiterGood (by decide) (fun _ _ _ => trivial)
  obtain ⟨a5, c5, rfl, _⟩ := h5'.shape
  obtain ⟨a6, c6, rfl, _⟩ := h6'.shape
  have b45 := H4.out.2.2.trans (b5.mono H4.out.2.2.size)
  have h35 := RSl.below waiterGood H4.out.1 b45
  have hbw5 := H4.out.2.1.trans (b45.mono H4.out.2.1.size)
  have hA6 := (Below.refl w5.heap.size w5).alloc (Nat.le_refl _) (.cells #[.int .i64 1, .int .i64 2] 3)
  have p6 := numbers_any (w5.alloc (.cells #[.int .i64 1, .int .i64 2] 3)) _ _ (.slice a5 2 c5) (.slice (some ⟨w5.heap.size, 0, none⟩) 2 2) [1, 2] [1, 2] (h5'.below intGood hA6) (isl_new w5 3 [1, 2] (in_list (by decide)) (by decide))
  rw [show (([1, 2] : List Int) == [1, 2]) = true from by decide] at p6
  have P6 := hid p6
  have H5 := hid (And.intro h35 (And.intro hbw5 (And.intro hA6 h6')))
  clear p6 h5 h6 h5' h6' b5 b45 h35 hbw5 P5 H4 hA6
  go_wp2_with fail
  refine P6.out.mono ?_
  rintro e w6 ⟨rfl, b6⟩
  have b56 := H5.out.2.2.1.trans (b6.mono H5.out.2.2.1.size)
  have h36 := RSl.below waiterGood H5.out.1 b56
  have hbw6 := H5.out.2.1.trans (b56.mono H5.out.2.1.size)
  obtain ⟨bb, o1, c1', x, sv, hv1, hx, hin, hs, e1, e2⟩ := WSl.at H5.out.2.2.2 b56 (k := 0) (by decide)
  cases hx
  cases hv1
  replace e1 : w6.cell? ⟨bb, o1, none⟩ = some (.int .i64 5) := by simpa using e1
  have p7 := leave_any w6 _ (.slice a3 3 c3) 1 l3 h36 l3fits
  have P7 := hid p7
  have H6 := hid (And.intro h36 hbw6)
  clear p7 P6 H5 b6 b56 h36 hbw6 e2 hs
  go_wp2_with fail
  refine P7.out.mono ?_
  rintro e w7 ⟨v7, rfl, h7, b7⟩
  replace h7 : WSl w7 (okOf w6) v7 [(2, [4, 3]), (5, [6])] := h7
  obtain ⟨a7, c7, rfl, _⟩ := h7.shape
  have h37 := RSl.below waiterGood H6.out.1 b7
  have p8 := queue_any w7 _ (.slice a3 3 c3) 4 l3 h37 l3fits
  have P8 := hid p8
  have H7 := hid (And.intro h37 (H6.out.2.trans (b7.mono H6.out.2.size)))
  clear p8 P7 H6 h7 h37 b7 e1
  go_wp2_with fail
  refine P8.out.mono ?_
  rintro e w8 ⟨v8, rfl, h8, b8⟩
  replace h8 : ISl w8 (okOf w7) v8 [2] := h8
  obtain ⟨a8, c8, rfl, _⟩ := h8.shape
  have h38 := RSl.below waiterGood H7.out.1 b8
  have hA9 := (Below.refl w8.heap.size w8).alloc (Nat.le_refl _) (.cells #[.int .i64 2] 3)
  have p9 := numbers_any (w8.alloc (.cells #[.int .i64 2] 3)) _ _ (.slice a8 1 c8) (.slice (some ⟨w8.heap.size, 0, none⟩) 1 1) [2] [2] (h8.below intGood hA9) (isl_new w8 3 [2] (in_list (by decide)) (by decide))
  rw [show (([2] : List Int) == [2]) = true from by decide] at p9
  have P9 := hid p9
  have H8 := hid (And.intro h38 (And.intro (H7.out.2.trans (b8.mono H7.out.2.size)) hA9))
  clear p9 P8 H7 h8 h38 b8 hA9
  go_wp2_with fail
  refine P9.out.mono ?_
  rintro e w9 ⟨rfl, b9⟩
  have b89 := H8.out.2.2.trans (b9.mono H8.out.2.2.size)
  have p10 := check_any w9 _ (.slice a3 3 c3) l3 (RSl.below waiterGood H8.out.1 b89) (by decide)
  rw [show chk l3 = true from by decide] at p10
  have P10 := hid p10
  have H9 := hid (H8.out.2.1.trans (b89.mono H8.out.2.1.size))
  clear p10 P9 H8 b9 b89
  go_wp2_with fail
  refine P10.out.mono ?_
  rintro e w10 ⟨rfl, b10⟩
  have hA11 := (Below.refl w10.heap.size w10).alloc (Nat.le_refl _) (.cells #[.int .i64 (-1), .slice none 0 0] 40)
  have p11 := check_any (w10.alloc (.cells #[.int .i64 (-1), .slice none 0 0] 40)) _ (.slice (some ⟨w10.heap.size, 0, none⟩) 1 1) [(-1, [])] (bad_waiter w10) (by decide)
  rw [show chk [(-1, [])] = false from by decide] at p11
  have P11 := hid p11
  have H10 := hid (And.intro (H9.out.trans (b10.mono H9.out.size)) hA11)
  clear p11 P10 H9 b10 hA11
  go_wp2_with fail
  refine P11.out.mono ?_
  rintro e w11 ⟨rfl, b11⟩
  have b1011 := H10.out.2.trans (b11.mono H10.out.2.size)
  have HZ := hid (H10.out.1.trans (b1011.mono H10.out.1.size))
  clear P11 H10 b11 b1011
  go_wp2_with fail
  go_ret
  exact Bb.fin rfl HZ.out
end Go.Proofs.Yteogmehbjopedaa
