/- Park, of both: what it returns. -/
import Derived.Test.YteogmehbjopedaaWaitH
namespace Go.Proofs.Yteogmehbjopedaa
open Go.RowKit Go.Shelf Go.Maps
attribute [local go_sem] Oper.semAt_some
def parkBad (xs : List W) (t : Int) (vars : List Int) : Bool := !chk xs || decide (t < 0) || (vars.any fun v => decide (v < 0)) || xs.any fun x => x.1 == t
def parkS (xs : List W) (t : Int) (vars : List Int) : List W := if parkBad xs t vars then xs else xs ++ [(t, vars)]
def parkE (xs : List W) (t : Int) (vars : List Int) : Int := if parkBad xs t vars then 1 else 0
def ParkPost (w : World) (xs : List W) (t : Int) (vars : List Int) (e : Ending) (w' : World) : Prop :=
  ∃ vr, e = .returned (.tuple #[vr, .int .i64 (parkE xs t vars)]) ∧ WSl w' (fun _ => True) vr (parkS xs t vars) ∧ Below w.heap.size w w'
theorem WSl.all {w : World} {ok : Nat → Prop} {v : Value} {xs : List W} (h : WSl w ok v xs) : WSl w (fun _ => True) v xs := h.weak waiterGood (by decide) (fun _ _ _ => trivial)
theorem park_bad {w w' : World} {xs : List W} {t : Int} {vars : List Int} {ok : Nat → Prop} {lv : Value} (hb : parkBad xs t vars = true) (h : WSl w ok lv xs) (hw : Below w.heap.size w w') : ParkPost w xs t vars (.returned (.tuple #[lv, .int .i64 1])) w' :=
  ⟨lv, by rw [parkE, hb]; rfl, by rw [parkS, hb]; exact (RSl.below waiterGood h hw).weak waiterGood (by decide) (fun _ _ _ => trivial), hw⟩
theorem park_good {w w' : World} {xs : List W} {t : Int} {vars : List Int} {ok : Nat → Prop} {vr : Value} (hb : parkBad xs t vars = false) (h : WSl w' ok vr (xs ++ [(t, vars)])) (hw : Below w.heap.size w w') : ParkPost w xs t vars (.returned (.tuple #[vr, .int .i64 0])) w' :=
  ⟨vr, by rw [parkE, hb]; rfl, by rw [parkS, hb]; exact RSl.weak waiterGood (by decide) h (fun _ _ _ => trivial), hw⟩
theorem WSl.shape4 {w : World} {ok : Nat → Prop} {v : Value} {xs : List W} (h : WSl w ok v xs) : ∃ ao cap, v = .slice ao xs.length cap ∧ xs.length ≤ cap ∧ cap ≤ 9223372036854775807 ∧ (ao = none → cap = 0) := by
  obtain ⟨ao, cap, rfl, h1, h2, h3, _⟩ := h
  unfold maxLen at h2
  exact ⟨ao, cap, rfl, h1, by omega, h3⟩
/-- A slice that came in, copied behind an empty one. -/
theorem copyW {w : World} {ok : Nat → Prop} {lv : Value} {xs : List W} (h0 : WSl w ok lv xs) (hn : xs.length ≤ 1000000) : ∃ av cv, lv = .slice av xs.length cv ∧
    ∃ v' w', (Builtin.append_ #[22, 22] 22 #[.slice (some ⟨w.heap.size, 0, none⟩) 0 0, lv]).run Try.prog (w.alloc (.cells #[] 40)) = .ok v' w' ∧
      OSl WaiterE 2 40 w.heap.size w' (oldB w) v' xs ∧ Below w.heap.size w w' := by
  have h := h0.old
  clear h0
  obtain ⟨a1, c1, rfl, l1, _, hnil⟩ := h.shape4
  refine ⟨_, _, rfl, ?_⟩
  have hb := (Below.refl w.heap.size w).alloc (Nat.le_refl _) (.cells #[] 40)
  have hown : OSl WaiterE 2 40 w.heap.size (w.alloc (.cells #[] 40)) (oldB w) (.slice (some ⟨w.heap.size, 0, none⟩) 0 0) [] :=
    ⟨[], Rows.nil _ _ _, by simp, .inr ⟨w.heap.size, 0, #[], rfl, Nat.le_refl _, World.alloc_heap_new _ _, Nat.le_refl _, by simp [maxLen], by simp, by simp⟩⟩
  cases a1 with
  | none =>
    obtain rfl := hnil rfl
    have hx : xs = [] := List.length_eq_zero_iff.1 (by omega)
    subst hx
    obtain ⟨i, hi, _, _, _⟩ := info_parts info_waiter
    obtain ⟨rows, _, hrow⟩ := hown
    have hown : OSl WaiterE 2 40 w.heap.size (w.alloc (.cells #[] 40)) (oldB w) (.slice (some ⟨w.heap.size, 0, none⟩) 0 0) [] := ⟨rows, by assumption, hrow⟩
    refine ⟨.slice (some ⟨w.heap.size, 0, none⟩) 0 0, w.alloc (.cells #[] 40), ?_, hown, hb⟩
    exact run_append_owned_none (P := Try.prog) _ w.heap.size 22 22 40 i 2 Try.underlying22 hi _ _ _ hrow
  | some a =>
    have hrow : ∃ rows, Rows WaiterE (w.alloc (.cells #[] 40)) (fun b => oldB w b ∧ some b ≠ (Value.slice (some ⟨w.heap.size, 0, none⟩) 0 0).ownBlock) xs rows ∧ ∀ j u, rows.flatten[j]? = some u → (w.alloc (.cells #[] 40)).cell? (a.add j) = some u := by
      by_cases hp : 0 < xs.length
      · obtain ⟨b, off, cap, rows, hv, _, hr, hu⟩ := h.rows waiterGood hp
        cases hv
        refine ⟨rows, (hr.keep waiterGood (Same.of_below hb)).weak waiterGood (fun b _ h' => ⟨h', fun e => by cases e; exact absurd h' (Nat.lt_irrefl _)⟩), fun j u hj => ?_⟩
        have hc := hu j u hj
        rw [addr_add, hb.cell (World.block_lt_of_cell? w _ hc)]; exact hc
      · have hx : xs = [] := List.length_eq_zero_iff.1 (by omega)
        subst hx
        exact ⟨[], Rows.nil _ _ _, fun j u h => by simp at h⟩
    obtain ⟨rows, hr, hu⟩ := hrow
    have h1 : ∀ u ∈ rows.flatten, u.oneCell' = true := by
      intro u hu
      obtain ⟨row, hr', hu⟩ := List.mem_flatten.1 hu
      obtain ⟨i, hi⟩ := List.getElem?_of_mem hr'
      have hlt : i < xs.length := by rw [← hr.1]; exact (List.getElem?_eq_some_iff.1 hi).1
      obtain ⟨sv, e, _, hs⟩ := hr.2 i _ row (List.getElem?_eq_getElem hlt) hi
      obtain ⟨p, q, rfl, _⟩ := hs.shape
      subst e; simp at hu; rcases hu with rfl | rfl <;> rfl
    obtain ⟨v', w', hrun, hO, hg, _, _⟩ := OSl.append (P := Try.prog) waiterGood (by decide) hown 22 22 (.agg #[.int .i64 0, .slice none 0 0]) 32 Try.underlying22 info_waiter rfl a c1 xs rows hr hu h1 (by simp [maxLen]; omega) (by simp; omega) (by simp)
    exact ⟨v', w', hrun, hO, hb.grown hg (by simp) (fun k hk => by cases hk; exact Nat.le_refl _)⟩
set_option maxHeartbeats 1000000 in
theorem clip_any (w : World) (a : Option Addr) (n c : Nat) (h : n ≤ c) (hc : c ≤ 9223372036854775807) (h0 : a = none → c = 0) :
    Calls Try.prog 25 #[.slice a n c] w fun e w' => e = .returned (.slice a n n) ∧ w' = w := by
  cases a with
  | none =>
    obtain rfl := h0 rfl
    obtain rfl : n = 0 := by omega
    go_enter Try.func25, Try.ntmps25
    go_wp2
    go_ret
    exact ⟨rfl, rfl⟩
  | some p =>
    go_enter Try.func25, Try.ntmps25
    go_wp2
    go_ret
    exact ⟨rfl, rfl⟩
set_option maxHeartbeats 1000000 in
theorem rpark_any (w : World) (ok ok' : Nat → Prop) (lv vv : Value) (t : Int) (xs : List W) (vars : List Int) (h : WSl w ok lv xs) (h' : ISl w ok' vv vars) (ht : In t) (hn : xs.length ≤ 1000) :
    Calls Try.prog 10 #[lv, .int .i64 t, vv] w (ParkPost w xs t vars) := by
  obtain ⟨a1, c1, rfl, l1, _⟩ := h.shape
  obtain ⟨a2, c2, rfl, l2, _⟩ := h'.shape
  have hc := rcheck_any w _ _ xs h
  have HC := hid hc
  have HH := hid (And.intro h h')
  clear hc h h'
  go_enter Try.func10, Try.ntmps10
  go_wp2_with fail
  refine HC.out.mono ?_
  rintro e w1 ⟨rfl, hb1⟩
  go_wp2_with fail
  have hlow := rlow_any w1 _ _ vars (HH.out.2.below intGood hb1)
  refine hlow.mono ?_
  rintro e w2 ⟨rfl, hb2⟩
  have hb12 := bthen hb1 hb2
  have hw := waits_any w2 _ _ t xs (HH.out.1.below waiterGood hb12)
  have HW := hid hw
  clear hlow hw hb1 hb2
  have hbad : ∀ b1 b2 b3 b4, chk xs = b1 → decide (t < 0) = b2 → (vars.any fun v => decide (v < 0)) = b3 → (xs.any fun x => x.1 == t) = b4 → parkBad xs t vars = (!b1 || b2 || b3 || b4) := fun b1 b2 b3 b4 e1 e2 e3 e4 => by rw [parkBad, e1, e2, e3, e4]
  have HB := hid hbad
  clear hbad
  cases q1 : chk xs
  · have HQ : Hid (parkBad xs t vars = true) := by show _ = true; rw [parkBad, q1]; simp
    go_wp2_with fail
    go_ret2
    exact park_bad HQ.out HH.out.1 hb12
  · cases q3 : vars.any fun v => decide (v < 0)
    · cases q2 : decide (t < 0)
      · cases q4 : xs.any fun x => x.1 == t
        · have HQ : Hid (parkBad xs t vars = false) := by show _ = false; rw [HB.out _ _ _ _ q1 q2 q3 q4]; rfl
          rw [q4] at HW
          clear HB
          go_wp2_with fail
          refine HW.out.mono ?_
          rintro e w3 ⟨rfl, hb3⟩
          have hb13 := bthen hb12 hb3
          obtain ⟨av, cv, hlv, v', w4, hrun, hO, hb4⟩ := copyW (HH.out.1.below waiterGood hb13) (by omega)
          cases hlv
          obtain ⟨a4, c4, rfl⟩ := hO.shape
          have hvs := ((HH.out.2.below intGood hb13).weak intGood (by decide) (ok' := oldB w3) (fun _ hb _ => hb)).below intGood (hb4)
          obtain ⟨v5, w5, hrun5, hO5, hb5, _⟩ := hO.pushW (x := (t, vars)) ht (hvs.weak intGood (by decide) (fun b _ hb' => ⟨hb', fun e => by have := (hO.lt b e.symm).1; exact absurd hb' (by unfold oldB; omega)⟩)) (by omega) (by have := hb4.size; omega)
          obtain ⟨a5, c5, rfl⟩ := hO5.shape
          have HR := hid (And.intro hrun hrun5)
          have HF := hid (And.intro (hO5.rsl waiterGood (fun _ => True) (fun _ _ _ => trivial) (fun _ _ _ => trivial)) (bthen hb13 ((hb4.trans hb5))))
          clear hrun hrun5 hO hO5 hb4 hb5 hvs hb3 hb12 hb13
          go_wp2_with (at_builtin; first | refine wpList_append_run rfl _ _ _ rfl _ _ rfl rfl _ _ HR.out.1 ?_ | refine wpList_append_run rfl _ _ _ rfl _ _ rfl rfl _ _ HR.out.2 ?_)
          go_ret2
          exact park_good HQ.out (by have h := HF.out.1; rw [List.length_append] at h; exact h) HF.out.2
        · have HQ : Hid (parkBad xs t vars = true) := by show _ = true; rw [HB.out _ _ _ _ q1 q2 q3 q4]; rfl
          rw [q4] at HW
          go_wp2_with fail
          refine HW.out.mono ?_
          rintro e w3 ⟨rfl, hb3⟩
          go_wp2_with fail
          go_ret2
          exact park_bad HQ.out HH.out.1 (bthen hb12 hb3)
      · have HQ : Hid (parkBad xs t vars = true) := by show _ = true; rw [parkBad, q2]; simp
        go_wp2_with fail
        go_ret2
        exact park_bad HQ.out HH.out.1 hb12
    · have HQ : Hid (parkBad xs t vars = true) := by show _ = true; rw [parkBad, q3]; simp
      go_wp2_with fail
      go_ret2
      exact park_bad HQ.out HH.out.1 hb12
end Go.Proofs.Yteogmehbjopedaa
