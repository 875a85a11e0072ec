/- tlog.Check: what it returns. -/
import Derived.Test.YtplckigmllkpoaaTlD
namespace Go.Proofs.Ytplckigmllkpoaa
open Go.RowKit Go.Shelf Go.Maps
attribute [local go_sem] Oper.semAt_some
def ordB (xs : List Pr) : Bool := onceB (xs.map (·.1))
def chkG (l : Lg) : Bool := decide (0 < l.levels.length) && ordB l.reads && l.levels.all ordB
def PredL (g : Nat) (lb : Array Value) (p : List Pr → Bool) (w : World) : Prop :=
  ∀ (W : World) (x : List Pr) (v : Value), Below w.heap.size w W → PSl W (fun _ => True) v x → Calls Try.prog g (#[v] ++ lb) W (Bb (p x) W)
set_option maxHeartbeats 1000000 in
theorem indexL (g : Nat) (lb : Array Value) (eg : ∀ args w, (callFunc g args).run Try.prog w = .ok (.enter g args) w) (w : World) (ok : Nat → Prop) (v : Value) (xs : List (List Pr)) (p : List Pr → Bool)
    (h : LSl w ok v xs) (hp : PredL g lb p w) :
    Calls Try.prog 63 #[v, .func (.func g) #[] lb] w fun e w' => ∃ i : Int, e = .returned (.int .i64 i) ∧ (decide (0 ≤ i) = xs.any p) ∧ Below w.heap.size w w' := by
  obtain ⟨a1, c1, rfl, l1, _⟩ := h.shape
  go_enter Try.func63, Try.ntmps63
  go_wp2
  go_loopg [5, 8] xs.length (fun gg _ s8 wr => ∃ k : Nat, k ≤ xs.length ∧ xs.length - k ≤ gg ∧ s8 = .int .i64 k ∧ Hid (∀ j x, j < k → xs[j]? = some x → p x = false) ∧ Below w.heap.size w wr)
  case atStart => exact ⟨0, Nat.zero_le _, by omega, rfl, fun j x hj => absurd hj (by omega), Below.refl _ _⟩
  case round =>
    obtain ⟨k, hk, hg, rfl, HA, hb⟩ := hrel
    by_cases hlt : k < xs.length
    · obtain ⟨b1, o1, c1', x, sa, sc, hv1, hx, hs, e1⟩ := h.at hb (k := k) hlt
      cases hv1
      have HX := hid hx
      have hcall := hp wr x _ hb hs.all
      clear hx h hp hs
      cases hq : p x with
      | true =>
        rw [hq] at hcall
        go_wp2_with (go_at_fn g; refine hcall.mono ?_; rintro e w' ⟨rfl, hb'⟩)
        go_ret
        exact ⟨_, rfl, by rw [any_true_of HX.out hq]; simp, bthen hb hb'⟩
      | false =>
        rw [hq] at hcall
        go_wp2_with (go_at_fn g; refine hcall.mono ?_; rintro e w' ⟨rfl, hb'⟩)
        go_roundg (xs.length - (k + 1))
        case measure => omega
        case rel =>
          refine ⟨k + 1, by omega, by omega, by go_num, fun j y hj hy => ?_, bthen hb hb'⟩
          by_cases e : j = k
          · subst e; rw [HX.out] at hy; cases hy; exact hq
          · exact HA.out j y (by omega) hy
    · obtain rfl : k = xs.length := by omega
      go_wp2
      go_ret
      exact ⟨_, rfl, by rw [any_false_of (fun i x hx => HA.out i x (List.getElem?_eq_some_iff.1 hx).1 hx)]; simp, hb⟩
set_option maxHeartbeats 1000000 in
theorem containsL (g : Nat) (lb : Array Value) (eg : ∀ args w, (callFunc g args).run Try.prog w = .ok (.enter g args) w) (w : World) (ok : Nat → Prop) (v : Value) (xs : List (List Pr)) (p : List Pr → Bool)
    (h : LSl w ok v xs) (hp : PredL g lb p w) :
    Calls Try.prog 52 #[v, .func (.func g) #[] lb] w (Bb (xs.any p) w) := by
  go_enter Try.func52, Try.ntmps52
  go_wp2_with fail
  refine (indexL g lb eg w ok v xs p h hp).mono ?_
  rintro e w' ⟨i, rfl, hi, hb⟩
  have HI := hid hi
  clear hi
  go_wp2_with fail
  go_ret
  exact Bb.fin HI.out hb
set_option maxHeartbeats 2000000 in
theorem check1_any (w : World) (ok : Nat → Prop) (v : Value) (xs : List Pr) (h : PSl w ok v xs) :
    Calls Try.prog 46 #[v] w (Bb (!ordB xs) w) := by
  obtain ⟨a1, c1, rfl, l1, _⟩ := h.shape
  have hn : xs.length ≤ maxLen := by obtain ⟨_, _, _, q1, q2, _⟩ := h; omega
  have HP := hid h
  have HN := hid hn
  clear h hn
  obtain ⟨q, hq⟩ : ∃ q, q = ordB xs := ⟨_, rfl⟩
  show Calls _ _ _ _ (Bb (!ordB xs) w)
  rw [← hq]
  have HQ := hid hq
  clear hq
  go_enter Try.func46, Try.ntmps46
  go_wp2_with fail
  refine (varsW_any w _ _ ⟨_, _, _, rfl⟩ ⟨_, _, rfl⟩).mono ?_
  rintro e w2 ⟨rfl, hw2⟩
  have hb2 : Below w.heap.size w w2 := by rw [hw2]; exact ((Below.refl _ _).alloc (Nat.le_refl _) _).alloc (by simp) _
  have h1 : w2.heap[w.heap.size]? = some (.cells #[.slice a1 xs.length c1] 54) := by rw [hw2]; exact heap_one _ _ _
  have h2 : w2.heap[w.heap.size + 1]? = some (.cells #[.func (.func 49) #[] #[]] 80) := by rw [hw2]; exact heap_two _ _ _
  have P' := once_any w2 61 _ xs _ (varsW_seq 8 w2 w.heap.size (w.heap.size + 1) (.slice a1 xs.length c1) 49 #[] xs (HP.out.more hb2).all firstW (enters_of Try.func49 (by kernel_rfl) rfl))
    (fun W hW => ⟨hW, (hW.block _ (lt_of_some h1)).trans h1, (hW.block _ (lt_of_some h2)).trans h2⟩) (enters_of Try.func61 (by kernel_rfl) rfl) HN.out
  rw [show onceB (xs.map (·.1)) = q from HQ.out.symm] at P'
  have P := hid P'
  have HB := hid hb2
  clear P' hw2 h1 h2 hb2
  go_wp2_with fail
  refine P.out.mono ?_
  rintro e w3 ⟨rfl, b3⟩
  have BB := hid (HB.out.trans (b3.mono HB.out.size))
  clear b3 HB P
  go_wp2_with fail
  go_ret
  exact Bb.fin rfl BB.out
theorem check1_pred (w : World) : PredL 46 #[] (fun x => !ordB x) w := fun W x v _ hv => by
  simpa using check1_any W _ v x hv
set_option maxHeartbeats 4000000 in
theorem check_any (w : World) (ok : Nat → Prop) (v : Value) (l : Lg) (h : GVal w ok v l) : Calls Try.prog 33 #[v] w (Bb (chkG l) w) := by
  obtain ⟨ra, rc, la, lc, rfl, hr, hl⟩ := h
  obtain ⟨_, _, e, l1, _⟩ := hr.shape
  cases e
  obtain ⟨_, _, e, l2, _⟩ := hl.shape
  cases e
  obtain ⟨q1, hq1⟩ : ∃ q, q = ordB l.reads := ⟨_, rfl⟩
  obtain ⟨q2, hq2⟩ : ∃ q, q = l.levels.any (fun x => !ordB x) := ⟨_, rfl⟩
  have hall : l.levels.all ordB = !q2 := by
    rw [hq2, Bool.eq_iff_iff]; simp
  have hn : l.reads.length ≤ maxLen := by obtain ⟨_, _, _, q1, q2, _⟩ := hr; omega
  show Calls _ _ _ _ (Bb (decide (0 < l.levels.length) && ordB l.reads && l.levels.all ordB) w)
  rw [hall, ← hq1]
  obtain ⟨W0, hW0⟩ : ∃ W0, w.alloc (Obj.cells #[.slice ra l.reads.length rc, .slice la l.levels.length lc] 28) = W0 := ⟨_, rfl⟩
  have hb0 : Below w.heap.size w W0 := by rw [← hW0]; exact (Below.refl _ _).alloc (Nat.le_refl _) _
  have h0 : W0.heap[w.heap.size]? = some (.cells #[.slice ra l.reads.length rc, .slice la l.levels.length lc] 28) := by rw [← hW0]; exact World.alloc_heap_new _ _
  have HH := hid (And.intro hr (And.intro hl (And.intro hb0 (And.intro h0 (And.intro hq1 (And.intro hq2 hn))))))
  have HW := hid hW0
  clear hr hl hb0 h0 hq1 hq2 hall hW0 hn
  go_enter Try.func33, Try.ntmps33
  go_upto_region 1 with (fail)
  rw [HW.out]
  clear HW
  have c0 : W0.cell? ⟨w.heap.size, 0, none⟩ = some (.slice ra l.reads.length rc) := cell_of HH.out.2.2.2.1
  have c1 : W0.cell? ⟨w.heap.size, 1, none⟩ = some (.slice la l.levels.length lc) := cell_of HH.out.2.2.2.1
  by_cases hz : 0 < l.levels.length
  · have f0 : decide ((l.levels.length : Int) > 0) = true := by simp; omega
    go_wp2_with fail
    refine (varsR_any W0 _ _ ⟨_, _, _, rfl⟩ ⟨_, _, rfl⟩).mono ?_
    rintro e w2 ⟨rfl, hw2⟩
    clear c0 c1
    have hb2 : Below W0.heap.size W0 w2 := by rw [hw2]; exact ((Below.refl _ _).alloc (Nat.le_refl _) _).alloc (by simp) _
    have h1 : w2.heap[W0.heap.size]? = some (.cells #[.slice ra l.reads.length rc] 25) := by rw [hw2]; exact heap_one _ _ _
    have h2 : w2.heap[W0.heap.size + 1]? = some (.cells #[.func (.func 51) #[] #[]] 83) := by rw [hw2]; exact heap_two _ _ _
    have P' := once_any w2 62 _ l.reads _ (varsR_seq 8 w2 W0.heap.size (W0.heap.size + 1) (.slice ra l.reads.length rc) 51 #[] l.reads ((HH.out.1.more HH.out.2.2.1).more hb2).all firstR (enters_of Try.func51 (by kernel_rfl) rfl))
      (fun W hW => ⟨hW, (hW.block _ (lt_of_some h1)).trans h1, (hW.block _ (lt_of_some h2)).trans h2⟩) (enters_of Try.func62 (by kernel_rfl) rfl) HH.out.2.2.2.2.2.2
    rw [show onceB (l.reads.map (·.1)) = q1 from HH.out.2.2.2.2.1.symm] at P'
    have P := hid P'
    have HB := hid (HH.out.2.2.1.trans (hb2.mono HH.out.2.2.1.size))
    have h02 := (hb2.block _ (lt_of_some HH.out.2.2.2.1)).trans HH.out.2.2.2.1
    have H02 := hid h02
    clear P' hw2 h1 h2 hb2 h02
    go_wp2_with fail
    refine P.out.mono ?_
    rintro e w3 ⟨rfl, b3⟩
    have BB := hid (HB.out.trans (b3.mono HB.out.size))
    have h03 := (b3.block _ (lt_of_some H02.out)).trans H02.out
    have c1 : w3.cell? ⟨w.heap.size, 1, none⟩ = some (.slice la l.levels.length lc) := cell_of h03
    have P2' := containsL 46 #[] (enters_of Try.func46 (by kernel_rfl) rfl) w3 _ _ l.levels _ (HH.out.2.1.more BB.out) (check1_pred w3)
    rw [← HH.out.2.2.2.2.2.1] at P2'
    have P2 := hid P2'
    clear P2' h03 b3 HB P H02
    cases q1
    · go_wp2_with fail
      go_ret
      exact Bb.fin (by simp) BB.out
    · go_wp2_with fail
      refine P2.out.mono ?_
      rintro e w4 ⟨rfl, b4⟩
      have B4 := hid (BB.out.trans (b4.mono BB.out.size))
      clear b4 BB P2 c1
      go_wp2_with fail
      go_ret
      exact Bb.fin (by simp [hz]) B4.out
  · have f0 : decide ((l.levels.length : Int) > 0) = false := by rw [decide_eq_false_iff_not]; omega
    go_wp2_with fail
    go_ret
    exact Bb.fin (by rw [decide_eq_false hz]; rfl) HH.out.2.2.1
end Go.Proofs.Ytplckigmllkpoaa
