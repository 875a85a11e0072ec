/- Waiters in memory; the contracts of wait's small functions and closures, and of slices' on waiters. -/
import Derived.Test.YteogmehbjopedaaInts
import Derived.Deep.RegionHeld3
namespace Go.Proofs.Yteogmehbjopedaa
open Go.RowKit Go.Shelf
abbrev W := Int × List Int
/-- A waiter in its two cells. -/
def WaiterE : Enc W := fun w ok x row => ∃ sv, row = [.int .i64 x.1, sv] ∧ In x.1 ∧ ISl w ok sv x.2
theorem waiterGood : Good WaiterE 2 :=
  ⟨fun _ _ _ _ ⟨_, h, _⟩ => by rw [h]; rfl, fun _ _ _ _ _ hs ⟨sv, h, i, s⟩ => ⟨sv, h, i, s.keep intGood hs⟩, fun _ _ _ _ _ hs ⟨sv, h, i, s⟩ => ⟨sv, h, i, s.weak intGood (by decide) hs⟩⟩
abbrev WSl := RSl WaiterE 2
/-- A waiter as a value. -/
def WVal (w : World) (ok : Nat → Prop) (v : Value) (x : W) : Prop := ∃ sv, v = .agg #[.int .i64 x.1, sv] ∧ In x.1 ∧ ISl w ok sv x.2
theorem WVal.below {w w' : World} {ok : Nat → Prop} {v : Value} {x : W} (h : WVal w ok v x) (hb : Below w.heap.size w w') : WVal w' ok v x := by
  obtain ⟨sv, e, i, s⟩ := h; exact ⟨sv, e, i, s.below intGood hb⟩
theorem ISl.all {w : World} {ok : Nat → Prop} {v : Value} {xs : List Int} (h : ISl w ok v xs) : ISl w (fun _ => True) v xs := h.weak intGood (by decide) (fun _ _ _ => trivial)
/-- The k-th waiter of a slice, in a later world. -/
theorem WSl.at {w wr : World} {ok : Nat → Prop} {v : Value} {xs : List W} (h : WSl w ok v xs) (hb : Below w.heap.size w wr) {k : Nat} (hk : k < xs.length) :
    ∃ b off cap x sv, v = .slice (some ⟨b, off, none⟩) xs.length cap ∧ xs[k]? = some x ∧ In x.1 ∧ ISl wr ok sv x.2 ∧
      wr.cell? ⟨b, off + k * 2, none⟩ = some (.int .i64 x.1) ∧ wr.cell? ⟨b, off + k * 2 + 1, none⟩ = some sv := by
  obtain ⟨ao, cap, rfl, _, _, _, h4⟩ := h
  obtain ⟨b, off, rfl, _, hc⟩ := h4 (by omega)
  obtain ⟨row, ⟨sv, hr, hi, hs⟩, hu⟩ := hc k hk
  have c0 := hu 0 _ (by rw [hr]; rfl)
  have c1 := hu 1 _ (by rw [hr]; rfl)
  refine ⟨b, off, cap, xs[k], sv, rfl, List.getElem?_eq_getElem hk, hi, hs.below intGood hb, ?_, ?_⟩
  · rw [Nat.add_zero] at c0; rw [hb.cell (World.block_lt_of_cell? w _ c0)]; exact c0
  · rw [hb.cell (World.block_lt_of_cell? w _ c1)]; exact c1
theorem WSl.shape {w : World} {ok : Nat → Prop} {v : Value} {xs : List W} (h : WSl w ok v xs) : ∃ ao cap, v = .slice ao xs.length cap ∧ xs.length ≤ 9223372036854775807 ∧ (ao = none → xs.length = 0) := by
  obtain ⟨ao, cap, rfl, h1, h2, h3, _⟩ := h
  unfold maxLen at h2
  exact ⟨ao, cap, rfl, by omega, fun h => by have := h3 h; omega⟩

/-- A predicate on waiters, as a function value: what it answers in every later world. -/
def PredW (g : Nat) (lb : Array Value) (p : W → Bool) (w : World) : Prop :=
  ∀ (w' : World) (x : W) (v : Value), Below w.heap.size w w' → WVal w' (fun _ => True) v x → Calls Try.prog g (#[v] ++ lb) w' (Bb (p x) w')
theorem PredW.below {g : Nat} {lb : Array Value} {p : W → Bool} {w w' : World} (h : PredW g lb p w) (hb : Below w.heap.size w w') : PredW g lb p w' :=
  fun W x v hW hx => h W x v (bthen hb hW) hx

set_option maxHeartbeats 1000000 in
theorem indexFuncW (g : Nat) (lb : Array Value) (eg : ∀ args w, (callFunc g args).run Try.prog w = .ok (.enter g args) w) (w : World) (ok : Nat → Prop) (v : Value) (xs : List W) (p : W → Bool)
    (h : WSl w ok v xs) (hp : PredW g lb p w) :
    Calls Try.prog 37 #[v, .func (.func g) #[] lb] w fun e w' => ∃ i : Int, e = .returned (.int .i64 i) ∧ (decide (0 ≤ i) = xs.any p) ∧ Below w.heap.size w w' := by
  obtain ⟨a1, c1, rfl, l1, _⟩ := h.shape
  go_enter Try.func37, Try.ntmps37
  go_wp2
  go_loopg [5, 8] xs.length (fun gg _ s8 wr => ∃ k : Nat, k ≤ xs.length ∧ xs.length - k ≤ gg ∧ s8 = .int .i64 k ∧ Hid (∀ j x, j < k → xs[j]? = some x → p x = false) ∧ Below w.heap.size w wr)
  case atStart => exact ⟨0, Nat.zero_le _, by omega, rfl, fun j x hj => absurd hj (by omega), Below.refl _ _⟩
  case round =>
    obtain ⟨k, hk, hg, rfl, HA, hb⟩ := hrel
    by_cases hlt : k < xs.length
    · obtain ⟨b1, o1, c1', x, sv, hv1, hx, hin, hs, e1, e2⟩ := h.at hb (k := k) hlt
      cases hv1
      have HX := hid hx
      have hcall := hp wr x (.agg #[.int .i64 x.1, sv]) hb ⟨sv, rfl, hin, hs.all⟩
      obtain ⟨sa, sc, rfl, _⟩ := hs.shape
      clear hx h hp hs
      cases hq : p x with
      | true =>
        rw [hq] at hcall
        go_wp2_with (go_at_fn g; refine hcall.mono ?_; rintro e w' ⟨rfl, hb'⟩)
        go_ret
        exact ⟨_, rfl, by rw [any_true_of HX.out hq]; simp, bthen hb hb'⟩
      | false =>
        rw [hq] at hcall
        go_wp2_with (go_at_fn g; refine hcall.mono ?_; rintro e w' ⟨rfl, hb'⟩)
        go_roundg (xs.length - (k + 1))
        case measure => omega
        case rel =>
          refine ⟨k + 1, by omega, by omega, by go_num, fun j y hj hy => ?_, bthen hb hb'⟩
          by_cases e : j = k
          · subst e; rw [HX.out] at hy; cases hy; exact hq
          · exact HA.out j y (by omega) hy
    · obtain rfl : k = xs.length := by omega
      go_wp2
      go_ret
      exact ⟨_, rfl, by rw [any_false_of (fun i x hx => HA.out i x (List.getElem?_eq_some_iff.1 hx).1 hx)]; simp, hb⟩
set_option maxHeartbeats 1000000 in
theorem containsFuncW (g : Nat) (lb : Array Value) (eg : ∀ args w, (callFunc g args).run Try.prog w = .ok (.enter g args) w) (w : World) (ok : Nat → Prop) (v : Value) (xs : List W) (p : W → Bool)
    (h : WSl w ok v xs) (hp : PredW g lb p w) :
    Calls Try.prog 24 #[v, .func (.func g) #[] lb] w (Bb (xs.any p) w) := by
  go_enter Try.func24, Try.ntmps24
  go_wp2_with fail
  refine (indexFuncW g lb eg w ok v xs p h hp).mono ?_
  rintro e w' ⟨i, rfl, hi, hb⟩
  have HI := hid hi
  clear hi
  go_wp2_with fail
  go_ret
  exact Bb.fin HI.out hb
set_option maxHeartbeats 400000 in
theorem low_any (w : World) (x : Int) : Calls Try.prog 22 #[.int .i64 x] w (Bb (decide (x < 0)) w) := by
  cases h : decide (x < 0)
  · go_enter Try.func22, Try.ntmps22
    go_wp2
    go_ret
    exact Bb.fin rfl (Below.refl _ _)
  · go_enter Try.func22, Try.ntmps22
    go_wp2
    go_ret
    exact Bb.fin rfl (Below.refl _ _)
theorem low_pred (w : World) : PredI 22 #[] (fun x => decide (x < 0)) w := fun W x _ _ => by simpa using low_any W x
theorem box_cell (w : World) (t : TypeId) (xs : Array Value) (i : Nat) : (w.alloc (.cells xs t)).cell? ⟨w.heap.size, i, none⟩ = xs[i]? := by
  simp only [World.cell?, World.alloc_heap_new]; simp
set_option maxHeartbeats 400000 in
/-- 'w.Thread == thread', thread captured. -/
theorem park1_pred (w : World) (B : Nat) (t : Int) (hB : w.cell? ⟨B, 0, none⟩ = some (.int .i64 t)) : PredW 21 #[.pointer (some ⟨B, 0, none⟩)] (fun x => x.1 == t) w := by
  rintro w' x v hb ⟨sv, rfl, hi, hs⟩
  have hc : w'.cell? ⟨B, 0, none⟩ = some (.int .i64 t) := (hb.cell (World.block_lt_of_cell? w _ hB)).trans hB
  have hlt := World.block_lt_of_cell? w' _ hc
  simp only at hlt
  obtain ⟨sa, sc, rfl, _⟩ := hs.shape
  clear hB hs hb
  simp only [List.append_toArray, List.cons_append, List.nil_append]
  cases hq : x.1 == t
  · go_enter Try.func21, Try.ntmps21
    go_wp2
    go_ret
    exact Bb.fin rfl ((Below.refl _ _).alloc (Nat.le_refl _) _)
  · go_enter Try.func21, Try.ntmps21
    go_wp2
    go_ret
    exact Bb.fin rfl ((Below.refl _ _).alloc (Nat.le_refl _) _)
set_option maxHeartbeats 400000 in
theorem leave1_pred (w : World) (B : Nat) (t : Int) (hB : w.cell? ⟨B, 0, none⟩ = some (.int .i64 t)) : PredW 33 #[.pointer (some ⟨B, 0, none⟩)] (fun x => x.1 == t) w := by
  rintro w' x v hb ⟨sv, rfl, hi, hs⟩
  have hc : w'.cell? ⟨B, 0, none⟩ = some (.int .i64 t) := (hb.cell (World.block_lt_of_cell? w _ hB)).trans hB
  have hlt := World.block_lt_of_cell? w' _ hc
  simp only at hlt
  obtain ⟨sa, sc, rfl, _⟩ := hs.shape
  clear hB hs hb
  simp only [List.append_toArray, List.cons_append, List.nil_append]
  cases hq : x.1 == t
  · go_enter Try.func33, Try.ntmps33
    go_wp2
    go_ret
    exact Bb.fin rfl ((Below.refl _ _).alloc (Nat.le_refl _) _)
  · go_enter Try.func33, Try.ntmps33
    go_wp2
    go_ret
    exact Bb.fin rfl ((Below.refl _ _).alloc (Nat.le_refl _) _)
set_option maxHeartbeats 400000 in
/-- 'slices.Contains(w.Vars, v)', v captured. -/
theorem queue1_pred (w : World) (B : Nat) (t : Int) (hB : w.cell? ⟨B, 0, none⟩ = some (.int .i64 t)) : PredW 34 #[.pointer (some ⟨B, 0, none⟩)] (fun x => x.2.contains t) w := by
  rintro w' x v hb ⟨sv, rfl, hi, hs⟩
  have hc : w'.cell? ⟨B, 0, none⟩ = some (.int .i64 t) := (hb.cell (World.block_lt_of_cell? w _ hB)).trans hB
  have hlt := World.block_lt_of_cell? w' _ hc
  simp only at hlt
  obtain ⟨sa, sc, rfl, _⟩ := hs.shape
  have hcall := fun W hW => containsI W _ _ x.2 t (hs.below (w' := W) intGood hW)
  obtain ⟨q, hq⟩ : ∃ q, q = x.2.contains t := ⟨_, rfl⟩
  show Calls _ _ _ _ (Bb (x.2.contains t) w')
  rw [← hq] at hcall ⊢
  have HC := hid hcall
  clear hq
  clear hB hs hb hcall
  simp only [List.append_toArray, List.cons_append, List.nil_append]
  go_enter Try.func34, Try.ntmps34
  go_wp2_with fail
  refine (HC.out _ ((Below.refl _ _).alloc (Nat.le_refl _) _)).mono ?_
  rintro e w2 ⟨rfl, hb2⟩
  go_wp2_with fail
  go_ret
  exact Bb.fin rfl (((Below.refl _ _).alloc (Nat.le_refl _) _).trans (hb2.mono (by simp)))
end Go.Proofs.Yteogmehbjopedaa
