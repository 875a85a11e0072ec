/- Appends of numbers to an own slice; the plain laws of Parks and Union. -/
import Derived.Test.YteogmehbjopedaaWaitQ
namespace Go.Proofs.Yteogmehbjopedaa
open Go.RowKit Go.Shelf Go.Maps
theorem OSl.madeI (w : World) (ok : Nat → Prop) : OSl IntE 1 3 w.heap.size (w.alloc (.cells #[] 3)) ok (.slice (some ⟨w.heap.size, 0, none⟩) 0 0) [] :=
  ⟨[], Rows.nil _ _ _, by simp, .inr ⟨w.heap.size, 0, #[], rfl, Nat.le_refl _, World.alloc_heap_new _ _, Nat.le_refl _, by simp [maxLen], by simp, by simp⟩⟩
/-- All of a slice of numbers behind an own one. -/
theorem OSl.addI {S : Nat} {A : World} {ok ok' : Nat → Prop} {vo lv : Value} {ys xs : List Int} (h : OSl IntE 1 3 S A ok vo ys) (h' : ISl A ok' lv xs) (hn : ys.length + xs.length ≤ 1000000) (hS : S ≤ A.heap.size) :
    ∃ v' w3, (Builtin.append_ #[23, 23] 23 #[vo, lv]).run Try.prog A = .ok v' w3 ∧ OSl IntE 1 3 S w3 ok v' (ys ++ xs) ∧ Below S A w3 := by
  obtain ⟨a1, c1, rfl, l1, l1', hnil, _⟩ := h'.open
  cases a1 with
  | none =>
    obtain rfl := hnil rfl
    have hx : xs = [] := List.length_eq_zero_iff.1 (by omega)
    subst hx
    obtain ⟨i, hi, _, _, _⟩ := info_parts info_int
    obtain ⟨rows, hr, hrow⟩ := h
    refine ⟨vo, A, ?_, by rw [List.append_nil]; exact ⟨rows, hr, hrow⟩, Below.refl _ _⟩
    exact run_append_owned_none (P := Try.prog) _ S 23 23 3 i 1 Try.underlying23 hi _ _ _ hrow
  | some a =>
    have hrow : ∃ rows, Rows IntE A (fun b => ok b ∧ some b ≠ vo.ownBlock) xs rows ∧ ∀ j u, rows.flatten[j]? = some u → A.cell? (a.add j) = some u := by
      by_cases hp : 0 < xs.length
      · obtain ⟨b, off, cap, rows, hv, _, hr, hu⟩ := h'.rows intGood hp
        cases hv
        exact ⟨rows, ⟨hr.1, fun i x row hx hr' => hr.2 i x row hx hr'⟩, fun j u hj => by rw [addr_add]; exact hu j u hj⟩
      · have hx : xs = [] := List.length_eq_zero_iff.1 (by omega)
        subst hx
        exact ⟨[], Rows.nil _ _ _, fun j u h => by simp at h⟩
    obtain ⟨rows, hr, hu⟩ := hrow
    have h1 : ∀ u ∈ rows.flatten, u.oneCell' = true := by
      intro u hu
      obtain ⟨row, hr', hu⟩ := List.mem_flatten.1 hu
      obtain ⟨i, hi⟩ := List.getElem?_of_mem hr'
      have hlt : i < xs.length := by rw [← hr.1]; exact (List.getElem?_eq_some_iff.1 hi).1
      obtain ⟨e, _⟩ := hr.2 i _ row (List.getElem?_eq_getElem hlt) hi
      subst e; simp at hu; subst hu; rfl
    have hlt := h.lt
    obtain ⟨v', w', hrun, hO, hg, _, _⟩ := OSl.append (P := Try.prog) intGood (by decide) h 23 23 (.int .i64 0) 8 Try.underlying23 info_int rfl a c1 xs rows hr hu h1 (by simp [maxLen]; omega) (by omega) hS
    exact ⟨v', w', hrun, hO, (Below.refl S A).grown hg hS (fun k hk => (hlt k hk).1)⟩
theorem chk_at {xs : List W} (h : chk xs = true) {k : Nat} {x : W} (hx : xs[k]? = some x) : okAtB xs k x = true := by
  rw [chk, List.all_eq_true] at h
  have := h k (List.mem_range.2 (List.getElem?_eq_some_iff.1 hx).1)
  rw [hx] at this; exact this
theorem chk_distinct {xs : List W} (h : chk xs = true) : ∀ x ∈ xs, ∀ y ∈ xs, x.1 = y.1 → x = y := by
  have key : ∀ (i j : Nat) (x y : W), i < j → xs[i]? = some x → xs[j]? = some y → x.1 ≠ y.1 := fun i j x y hij hx hy e => by
    have h1 := chk_at h hy
    have h2 : ((xs.take j).map (·.1)).contains y.1 = true := by
      simp only [List.contains_eq_mem, decide_eq_true_eq, List.mem_map]
      exact ⟨x, List.mem_of_getElem? (i := i) (by rw [List.getElem?_take_of_lt hij]; exact hx), e⟩
    rw [okAtB, h2] at h1; simp at h1
  intro x hx y hy e
  obtain ⟨i, hi⟩ := List.getElem?_of_mem hx
  obtain ⟨j, hj⟩ := List.getElem?_of_mem hy
  rcases Nat.lt_trichotomy i j with hij | rfl | hij
  · exact absurd e (key i j x y hij hi hj)
  · rw [hi] at hj; cases hj; rfl
  · exact absurd e.symm (key j i y x hij hj hi)
/-- Parks. -/
theorem parks_chk {xs : List W} {t : Int} {vars : List Int} (h : parkBad xs t vars = false) : chk (xs ++ [(t, vars)]) = true := by
  simp only [parkBad, Bool.or_eq_false_iff, Bool.not_eq_false'] at h
  obtain ⟨⟨⟨h1, h2⟩, h3⟩, h4⟩ := h
  refine chk_yes fun k x hx => ?_
  by_cases hk : k < xs.length
  · rw [List.getElem?_append_left hk] at hx
    have := chk_at h1 hx
    rw [okAtB, List.take_append_of_le_length (by omega)]; exact this
  · have hk2 := (List.getElem?_eq_some_iff.1 hx).1
    rw [List.length_append] at hk2
    obtain rfl : k = xs.length := by simp at hk2; omega
    rw [List.getElem?_append_right (Nat.le_refl _)] at hx
    simp at hx; subst hx
    have h5 : ((xs.take xs.length).map (·.1)).contains t = false := by
      rw [List.take_length]
      simp only [List.contains_eq_mem, decide_eq_false_iff_not, List.mem_map]
      rintro ⟨x, hx, e⟩
      have := List.any_eq_false.1 h4 x hx
      simp [e] at this
    rw [okAtB, List.take_append_of_le_length (Nat.le_refl _), h5, h2, h3]; rfl
theorem parks_leave {xs : List W} {t : Int} {vars : List Int} (h : parkBad xs t vars = false) : rests (fun x => x.1 == t) (xs ++ [(t, vars)]) = xs := by
  simp only [parkBad, Bool.or_eq_false_iff, Bool.not_eq_false'] at h
  rw [rests, List.filter_append, List.filter_eq_self.2 fun x hx => by
    have := List.any_eq_false.1 h.2 x hx
    simpa using this]
  simp
theorem outs_append (p : W → Bool) (xs ys : List W) : outs p (xs ++ ys) = outs p xs ++ outs p ys := by
  rw [outs, outs, outs, List.filter_append, List.map_append]
theorem outs_one (p : W → Bool) (t : Int) (vars : List Int) (b : Bool) (h : p (t, vars) = b) : outs p [(t, vars)] = if b then [t] else [] := by
  rw [outs, List.filter_cons, h]; cases b <;> rfl
/-- Union. -/
theorem union_left {pa pb pc : W → Bool} (h : ∀ x, pc x = (pa x || pb x)) (xs : List W) : rests pb (rests pa xs) = rests pc xs := by
  rw [rests, rests, rests, List.filter_filter]
  congr 1; funext x; rw [h x]; cases pa x <;> cases pb x <;> rfl
theorem union_len {pa pb pc : W → Bool} (h : ∀ x, pc x = (pa x || pb x)) (xs : List W) : (outs pa xs).length + (outs pb (rests pa xs)).length = (outs pc xs).length := by
  rw [outs, outs, outs, rests, List.length_map, List.length_map, List.length_map, List.filter_filter]
  induction xs with
  | nil => rfl
  | cons x xs ih => have hx := h x; cases h1 : pa x <;> cases h2 : pb x <;> simp [h1, h2] at hx <;> simp [List.filter_cons, h1, h2, hx] <;> omega
theorem union_cnt {pa pb pc : W → Bool} (h : ∀ x, pc x = (pa x || pb x)) {xs : List W} (hc : chk xs = true) : cnt (outs pa xs) (outs pc xs) (outs pc xs).length = (outs pa xs).length := by
  rw [cnt, List.take_length]
  have hd := chk_distinct hc
  have key : ∀ x ∈ xs, (outs pa xs).contains x.1 = pa x := fun x hx => by
    rw [Bool.eq_iff_iff]
    simp only [outs, List.contains_eq_mem, decide_eq_true_eq, List.mem_map, List.mem_filter]
    constructor
    · rintro ⟨y, ⟨hy, hp⟩, e⟩
      rw [hd x hx y hy e.symm]; exact hp
    · intro hp; exact ⟨x, ⟨hx, hp⟩, rfl⟩
  rw [show outs pc xs = (xs.filter pc).map (·.1) from rfl, List.filter_map, List.length_map, List.filter_filter, show (outs pa xs).length = (xs.filter pa).length from by rw [outs, List.length_map]]
  congr 1
  refine List.filter_congr fun x hx => ?_
  rw [Function.comp, key x hx, h x]; cases pa x <;> simp
end Go.Proofs.Yteogmehbjopedaa
