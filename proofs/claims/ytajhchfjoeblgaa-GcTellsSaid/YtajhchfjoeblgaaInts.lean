/- The contracts of the functions on slices of integers: what each returns; all that was there is as it was. -/
import Derived.Test.YtajhchfjoeblgaaLib
import Derived.Test.YtajhchfjoeblgaaOwn
import Derived.Lib.BufferMore
namespace Go.Proofs.Ytajhchfjoeblgaa
open Go.RowKit Go.Shelf
theorem beq_false_of {xs ys : List Int} {k : Nat} (h : xs[k]? ≠ ys[k]?) : (xs == ys) = false := by
  apply beq_eq_false_iff_ne.2
  intro e; rw [e] at h; exact h rfl
theorem beq_true_of {xs ys : List Int} (hl : xs.length = ys.length) (h : ∀ i, i < xs.length → xs[i]? = ys[i]?) : (xs == ys) = true := by
  rw [beq_iff_eq]
  apply List.ext_getElem?
  intro i
  by_cases hi : i < xs.length
  · exact h i hi
  · rw [List.getElem?_eq_none (by omega), List.getElem?_eq_none (by omega)]
theorem any_false_of {α : Type} {xs : List α} {p : α → Bool} (h : ∀ (i : Nat) (x : α), xs[i]? = some x → p x = false) : xs.any p = false := by
  rw [List.any_eq_false]; intro x hx
  obtain ⟨i, hi⟩ := List.getElem?_of_mem hx
  rw [h i x hi]; simp
theorem any_true_of {α : Type} {xs : List α} {p : α → Bool} {i : Nat} {x : α} (h : xs[i]? = some x) (k : p x = true) : xs.any p = true :=
  List.any_eq_true.2 ⟨x, List.mem_of_getElem? h, k⟩

/-- The k-th element of a slice of integers, in a later world. -/
theorem ISl.at {w wr : World} {ok : Nat → Prop} {v : Value} {xs : List Int} (h : ISl w ok v xs) (hb : Below w.heap.size w wr) {k : Nat} (hk : k < xs.length) :
    ∃ b off cap x, v = .slice (some ⟨b, off, none⟩) xs.length cap ∧ xs[k]? = some x ∧ In x ∧ wr.cell? ⟨b, off + k, none⟩ = some (.int .i64 x) := by
  obtain ⟨ao, cap, rfl, _, _, _, h1, h2⟩ := h.open
  obtain ⟨b, off, rfl, _, hc⟩ := h1 (by omega)
  refine ⟨b, off, cap, xs[k], rfl, List.getElem?_eq_getElem hk, h2 _ (List.getElem_mem hk), ?_⟩
  have hk' := hc k hk
  rw [hb.cell (World.block_lt_of_cell? w _ hk'), hk']; simp [hk]
theorem ISl.shape {w : World} {ok : Nat → Prop} {v : Value} {xs : List Int} (h : ISl w ok v xs) : ∃ ao cap, v = .slice ao xs.length cap ∧ xs.length ≤ 9223372036854775807 ∧ (ao = none → xs.length = 0) := by
  obtain ⟨ao, cap, rfl, h1, h2, h3, _⟩ := h.open
  unfold maxLen at h2
  exact ⟨ao, cap, rfl, by omega, fun h => by have := h3 h; omega⟩
theorem ISl.shape2 {w : World} {ok : Nat → Prop} {ao : Option Addr} {n c : Nat} {xs : List Int} (h : ISl w ok (.slice ao n c) xs) : n = xs.length := by
  obtain ⟨ao, cap, h, _⟩ := h; cases h; rfl

set_option maxHeartbeats 1000000 in
theorem numbers_any (w : World) (ok ok' : Nat → Prop) (v1 v2 : Value) (xs ys : List Int) (h1 : ISl w ok v1 xs) (h2 : ISl w ok' v2 ys) :
    Calls Try.prog 13 #[v1, v2] w (Bb (xs == ys) w) := by
  obtain ⟨a1, c1, rfl, l1, _⟩ := h1.shape
  obtain ⟨a2, c2, rfl, l2, _⟩ := h2.shape
  by_cases hl : xs.length = ys.length
  · have hle : ((xs.length : Int) != ys.length) = false := by simp [hl]
    have HE : xs.length = ys.length → ∀ n, n = xs.length → (∀ i, i < n → xs[i]? = ys[i]?) → (xs == ys) = true := fun h n hn hh => beq_true_of h (fun i hi => hh i (by omega))
    have HL := hid (HE hl)
    clear HE
    have HXL := hid hl
    rw [hl]
    clear hl
    go_enter Try.func13, Try.ntmps13
    go_wp2
    go_loopw [5] (fun i wr => ∃ k : Nat, k ≤ ys.length ∧ i = .int .i64 k ∧ Hid (∀ j, j < k → xs[j]? = ys[j]?) ∧ Below w.heap.size w wr) (fun i _ => ys.length - (intOf i).toNat)
    case atStart => exact ⟨0, Nat.zero_le _, rfl, fun j hj => absurd hj (by omega), Below.refl _ _⟩
    case round =>
      obtain ⟨k, hk, rfl, HA, hb⟩ := hrel
      by_cases hlt : k < ys.length
      · obtain ⟨b1, o1, c1', x, hv1, hx, _, e1⟩ := h1.at hb (k := k) (by have := HXL.out; omega)
        obtain ⟨b2, o2, c2', y, hv2, hy, _, e2⟩ := h2.at hb (k := k) hlt
        cases hv1; cases hv2
        have HF := hid (And.intro hx hy)
        clear hx hy h1 h2
        cases hxy : x != y
        · have HX := hid hxy
          go_wp2
          go_quiet (fail)
          go_wp2
          go_roundw
          case rel =>
            exact ⟨k + 1, by omega, by go_num, fun j hj => by
              by_cases h : j = k
              · subst h; rw [HF.out.1, HF.out.2]; have := HX.out; simp at this; rw [this]
              · exact HA.out j (by omega), below_drewN hb _⟩
          case measure => simp [intOf]; omega
        · have HX := hid hxy
          go_wp2
          go_quiet (fail)
          go_wp2
          go_ret
          exact Bb.fin (beq_false_of (k := k) (by rw [HF.out.1, HF.out.2]; have := HX.out; simp at this; simpa using this)).symm (below_drewN hb _)
      · obtain rfl : k = ys.length := by omega
        go_wp2
        go_ret
        exact Bb.fin (HL.out _ HXL.out.symm HA.out).symm hb
  · have hle : ((xs.length : Int) != ys.length) = true := by simp; omega
    go_enter Try.func13, Try.ntmps13
    go_wp2
    go_ret
    refine Bb.fin (Eq.symm (beq_eq_false_iff_ne.2 ?_)) (Below.refl _ _)
    intro e; rw [e] at hl; exact hl rfl

/-- A predicate on ints, as a function value: what it answers in every later world. -/
def PredI (g : Nat) (lb : Array Value) (p : Int → Bool) (w : World) : Prop :=
  ∀ (W : World) (x : Int), Below w.heap.size w W → In x → Calls Try.prog g (#[.int .i64 x] ++ lb) W (Bb (p x) W)
theorem PredI.below {g : Nat} {lb : Array Value} {p : Int → Bool} {w w' : World} (h : PredI g lb p w) (hb : Below w.heap.size w w') : PredI g lb p w' :=
  fun W x hW hx => h W x (bthen hb hW) hx

set_option maxHeartbeats 1000000 in
theorem indexFuncI (g : Nat) (lb : Array Value) (eg : ∀ args w, (callFunc g args).run Try.prog w = .ok (.enter g args) w) (w : World) (ok : Nat → Prop) (v : Value) (xs : List Int) (p : Int → Bool)
    (h : ISl w ok v xs) (hp : PredI g lb p w) :
    Calls Try.prog 36 #[v, .func (.func g) #[] lb] w fun e w' => ∃ i : Int, e = .returned (.int .i64 i) ∧ (decide (0 ≤ i) = xs.any p) ∧ Below w.heap.size w w' := by
  obtain ⟨a1, c1, rfl, l1, _⟩ := h.shape
  go_enter Try.func36, Try.ntmps36
  go_wp2
  go_loopg [5, 8] xs.length (fun gg _ s8 wr => ∃ k : Nat, k ≤ xs.length ∧ xs.length - k ≤ gg ∧ s8 = .int .i64 k ∧ Hid (∀ j x, j < k → xs[j]? = some x → p x = false) ∧ Below w.heap.size w wr)
  case atStart => exact ⟨0, Nat.zero_le _, by omega, rfl, fun j x hj => absurd hj (by omega), Below.refl _ _⟩
  case round =>
    obtain ⟨k, hk, hg, rfl, HA, hb⟩ := hrel
    by_cases hlt : k < xs.length
    · obtain ⟨b1, o1, c1', x, hv1, hx, hin, e1⟩ := h.at hb (k := k) hlt
      cases hv1
      have HX := hid hx
      have hcall := hp wr x hb hin
      clear hx h hp
      cases hq : p x with
      | true =>
        rw [hq] at hcall
        go_wp2_with (go_at_fn g; refine hcall.mono ?_; rintro e w' ⟨rfl, hb'⟩)
        go_ret
        exact ⟨_, rfl, by rw [any_true_of HX.out hq]; simp, bthen hb hb'⟩
      | false =>
        rw [hq] at hcall
        go_wp2_with (go_at_fn g; refine hcall.mono ?_; rintro e w' ⟨rfl, hb'⟩)
        go_roundg (xs.length - (k + 1))
        case measure => omega
        case rel =>
          refine ⟨k + 1, by omega, by omega, by go_num, fun j y hj hy => ?_, bthen hb hb'⟩
          by_cases e : j = k
          · subst e; rw [HX.out] at hy; cases hy; exact hq
          · exact HA.out j y (by omega) hy
    · obtain rfl : k = xs.length := by omega
      go_wp2
      go_ret
      exact ⟨_, rfl, by rw [any_false_of (fun i x hx => HA.out i x (List.getElem?_eq_some_iff.1 hx).1 hx)]; simp, hb⟩
set_option maxHeartbeats 1000000 in
theorem containsFuncI (g : Nat) (lb : Array Value) (eg : ∀ args w, (callFunc g args).run Try.prog w = .ok (.enter g args) w) (w : World) (ok : Nat → Prop) (v : Value) (xs : List Int) (p : Int → Bool)
    (h : ISl w ok v xs) (hp : PredI g lb p w) :
    Calls Try.prog 33 #[v, .func (.func g) #[] lb] w (Bb (xs.any p) w) := by
  go_enter Try.func33, Try.ntmps33
  go_wp2_with fail
  refine (indexFuncI g lb eg w ok v xs p h hp).mono ?_
  rintro e w' ⟨i, rfl, hi, hb⟩
  have HI := hid hi
  clear hi
  go_wp2_with fail
  go_ret
  exact Bb.fin HI.out hb


theorem info_int : (Try.prog.info? 3).map (fun i => (i.zero, i.size, i.bytes)) = some (some (.int .i64 0), 1, 8) := by kernel_rfl
theorem addr_add (b off j : Nat) : (⟨b, off, none⟩ : Addr).add j = ⟨b, off + j, none⟩ := by
  unfold Addr.add; split <;> simp_all
theorem ints_cells {w : World} {ok : Nat → Prop} {xs : List Int} {rows : List (List Value)} (h : Rows IntE w ok xs rows) : ∀ u ∈ rows.flatten, u.oneCell' = true := by
  intro u hu
  obtain ⟨row, hr, hu⟩ := List.mem_flatten.1 hu
  obtain ⟨i, hi⟩ := List.getElem?_of_mem hr
  have hlt : i < xs.length := by rw [← h.1]; exact (List.getElem?_eq_some_iff.1 hi).1
  obtain ⟨e, _⟩ := h.2 i _ row (List.getElem?_eq_getElem hlt) hi
  subst e; simp at hu; subst hu; rfl
set_option maxHeartbeats 1000000 in
theorem cloneO (w : World) (ok : Nat → Prop) (v : Value) (xs : List Int) (h : ISl w ok v xs) (hlen : xs.length ≤ 1000000000) :
    Calls Try.prog 27 #[v] w fun e w' => ∃ v', e = .returned v' ∧ OSl IntE 1 3 w.heap.size w' (fun _ => False) v' xs ∧ Below w.heap.size w w' := by
  obtain ⟨a1, c1, rfl, l1, hz⟩ := h.shape
  cases a1 with
  | none =>
    have hx : xs = [] := List.length_eq_zero_iff.1 (hz rfl)
    subst hx
    have he := fun w => eql_nil (P := Try.prog) w 25 3 none 0 c1 Try.underlying25
    go_enter Try.func27, Try.ntmps27
    go_wp2
    go_ret
    exact ⟨_, rfl, OSl.nil _ _ _ _ _ _, Below.refl _ _⟩
  | some a =>
    have he := fun w => eql_nil (P := Try.prog) w 25 3 (some a) xs.length c1 Try.underlying25
    have hown : OSl IntE 1 3 w.heap.size (w.alloc (.cells #[] 3)) (fun _ => False) (.slice (some ⟨w.heap.size, 0, none⟩) 0 0) [] :=
      ⟨[], Rows.nil _ _ _, by simp, .inr ⟨w.heap.size, 0, #[], rfl, Nat.le_refl _, World.alloc_heap_new _ _, Nat.le_refl _, by simp [maxLen], by simp, by simp⟩⟩
    have hrow : ∃ rows ad, a = ad ∧ Rows IntE (w.alloc (.cells #[] 3)) (fun b => False ∧ some b ≠ (Value.slice (some ⟨w.heap.size, 0, none⟩) 0 0).ownBlock) xs rows ∧ ∀ j u, rows.flatten[j]? = some u → (w.alloc (.cells #[] 3)).cell? (ad.add j) = some u := by
      by_cases hp : 0 < xs.length
      · obtain ⟨b, off, cap, rows, hv, _, hr, hu⟩ := h.rows intGood hp
        cases hv
        have hb := (Below.refl w.heap.size w).alloc (Nat.le_refl _) (.cells #[] 3)
        refine ⟨rows, _, rfl, ⟨hr.1, fun i x row hx hr' => hr.2 i x row hx hr'⟩, fun j u hj => ?_⟩
        have hc := hu j u hj
        rw [addr_add, hb.cell (World.block_lt_of_cell? w _ hc)]; exact hc
      · have hx : xs = [] := List.length_eq_zero_iff.1 (by omega)
        subst hx
        exact ⟨[], a, rfl, Rows.nil _ _ _, fun j u h => by simp at h⟩
    obtain ⟨rows, ad, rfl, hr, hu⟩ := hrow
    obtain ⟨v', w', hrun, hO, hg, _, _⟩ := OSl.append (P := Try.prog) intGood (by decide) hown 25 25 (.int .i64 0) 8 Try.underlying25 info_int rfl a c1 xs rows hr hu (ints_cells hr) (by simp [maxLen]; omega) (by simp; omega) (by simp)
    have HO := hid hO
    have HG := hid hg
    have HR := hid hrun
    clear hO hg hr hu hown hrun
    go_enter Try.func27, Try.ntmps27
    go_wp2_with (at_builtin; refine wpList_append_run rfl _ _ _ rfl _ _ rfl rfl _ _ HR.out ?_)
    go_ret
    have hb : Below w.heap.size w w' := ((Below.refl w.heap.size w).alloc (Nat.le_refl _) _).grown HG.out (by simp) (fun k hk => by cases hk; exact Nat.le_refl _)
    exact ⟨_, rfl, HO.out, hb⟩
theorem cloneI (w : World) (ok : Nat → Prop) (v : Value) (xs : List Int) (h : ISl w ok v xs) (hlen : xs.length ≤ 1000000000) :
    Calls Try.prog 27 #[v] w fun e w' => ∃ v', e = .returned v' ∧ ISl w' (fun b => w.heap.size ≤ b) v' xs ∧ Below w.heap.size w w' :=
  (cloneO w ok v xs h hlen).mono fun e w' ⟨v', he, hO, hb⟩ => ⟨v', he, hO.rsl intGood _ (fun b _ h => h) (fun b _ h => h.elim), hb⟩
end Go.Proofs.Ytajhchfjoeblgaa
