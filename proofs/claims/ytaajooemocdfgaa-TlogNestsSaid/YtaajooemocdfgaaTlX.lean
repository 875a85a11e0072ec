/- The plain law of logs: what is got behind what is put. -/
import Derived.Test.YtaajooemocdfgaaTlN
namespace Go.Proofs.Ytaajooemocdfgaa
theorem or_right {α : Type} (a : Option α) : a.or none = a := by cases a <;> rfl
theorem lastW_snoc (L : List (List Pr)) (b : List Pr) (v : Int) : lastW (L ++ [b]) v = (b.find? (hasV v)).or (lastW L v) := by
  rw [lastW, List.reverse_append]
  simp only [List.reverse_cons, List.reverse_nil, List.nil_append, List.cons_append, List.findSome?_cons]
  cases b.find? (hasV v) <;> rfl
theorem split_last {α : Type} {L : List α} (h : 0 < L.length) : ∃ I b, L = I ++ [b] ∧ I.length = L.length - 1 := by
  refine ⟨L.dropLast, L.getLast (by intro e; subst e; simp at h), (List.dropLast_concat_getLast _).symm, by simp⟩
theorem putLs_snoc (I : List (List Pr)) (b : List Pr) (x : Pr) : putLs (I ++ [b]) x = I ++ [putL b x] := by
  have h1 : (I ++ [b]).length - 1 = I.length := by simp
  rw [putLs, h1, List.getD_eq_getElem?_getD, List.getElem?_append_right (Nat.le_refl _), List.set_append_right _ _ (Nat.le_refl _)]
  simp
theorem putL_cases (xs : List Pr) (x : Pr) : (∃ k y, xs[k]? = some y ∧ y.1 = x.1 ∧ (∀ j z, j < k → xs[j]? = some z → z.1 ≠ x.1) ∧ putL xs x = xs.set k x) ∨ ((∀ y ∈ xs, y.1 ≠ x.1) ∧ putL xs x = xs ++ [x]) := by
  cases hf : xs.findIdx? (hasV x.1) with
  | none =>
    right
    rw [putL, hf]
    rw [List.findIdx?_eq_none_iff] at hf
    exact ⟨fun y hy => by have := hf y hy; simpa [hasV] using this, rfl⟩
  | some k =>
    left
    rw [putL, hf]
    obtain ⟨h1, h2, h3⟩ := List.findIdx?_eq_some_iff_getElem.1 hf
    refine ⟨k, xs[k], List.getElem?_eq_getElem h1, by simpa [hasV] using h2, fun j z hj hz => ?_, rfl⟩
    have := h3 j hj
    obtain ⟨hjl, rfl⟩ := List.getElem?_eq_some_iff.1 hz
    simpa [hasV] using this
theorem find_set_same {xs : List Pr} {k : Nat} {x : Pr} (hk : k < xs.length) (hn : ∀ (j : Nat) (z : Pr), j < k → xs[j]? = some z → z.1 ≠ x.1) : (xs.set k x).find? (hasV x.1) = some x := by
  rw [List.find?_eq_some_iff_getElem]
  refine ⟨by simp [hasV], k, by simpa using hk, by simp, fun j hj => ?_⟩
  rw [List.getElem_set_ne (by omega)]
  have := hn j xs[j] hj (List.getElem?_eq_getElem (by omega))
  simpa [hasV] using this
theorem find_set_other {x y : Pr} {v : Int} (hy : y.1 ≠ v) (hx : x.1 ≠ v) : ∀ {xs : List Pr} {k : Nat}, xs[k]? = some y → (xs.set k x).find? (hasV v) = xs.find? (hasV v)
  | [], _, h => by simp at h
  | z :: zs, 0, h => by
    simp at h; subst h
    have e1 : hasV v x = false := by simpa [hasV] using hx
    have e2 : hasV v z = false := by simpa [hasV] using hy
    simp [List.find?_cons, e1, e2]
  | z :: zs, k + 1, h => by
    have := find_set_other hy hx (xs := zs) (k := k) (by simpa using h)
    simp only [List.set_cons_succ, List.find?_cons, this]
theorem putL_same (xs : List Pr) (x : Pr) : (putL xs x).find? (hasV x.1) = some x := by
  rcases putL_cases xs x with ⟨k, y, hy, _, hn, e⟩ | ⟨hn, e⟩
  · rw [e]; exact find_set_same (List.getElem?_eq_some_iff.1 hy).1 hn
  · rw [e, List.find?_append, List.find?_eq_none.2 (fun y hy => by have := hn y hy; simpa [hasV] using this)]
    simp [hasV]
theorem putL_other (xs : List Pr) (x : Pr) {v : Int} (hv : x.1 ≠ v) : (putL xs x).find? (hasV v) = xs.find? (hasV v) := by
  rcases putL_cases xs x with ⟨k, y, hy, he, _, e⟩ | ⟨_, e⟩
  · rw [e]; exact find_set_other (by rw [he]; exact hv) hv hy
  · have h1 : hasV v x = false := by simpa [hasV] using hv
    rw [e, List.find?_append]
    simp [List.find?_cons, h1, or_right]
theorem putL_find (xs : List Pr) (x : Pr) (v : Int) : (putL xs x).find? (hasV v) = if x.1 = v then some x else xs.find? (hasV v) := by
  split
  · rename_i h; subst h; exact putL_same xs x
  · rename_i h; exact putL_other xs x h
theorem putL_fst (xs : List Pr) (x : Pr) : (putL xs x).map (·.1) = if (xs.map (·.1)).contains x.1 then xs.map (·.1) else xs.map (·.1) ++ [x.1] := by
  rcases putL_cases xs x with ⟨k, y, hy, he, _, e⟩ | ⟨hn, e⟩
  · have hm : (xs.map (·.1)).contains x.1 = true := by
      rw [List.contains_iff_mem, List.mem_map]; exact ⟨y, List.mem_of_getElem? hy, he⟩
    rw [if_pos hm, e]
    apply List.ext_getElem?
    intro i
    rw [List.getElem?_map, List.getElem?_map]
    by_cases ei : k = i
    · subst ei
      rw [List.getElem?_set_self (List.getElem?_eq_some_iff.1 hy).1, hy]; simp [he]
    · rw [List.getElem?_set_ne ei]
  · have hm : (xs.map (·.1)).contains x.1 = false := by
      rw [← Bool.not_eq_true, List.contains_iff_mem, List.mem_map]
      rintro ⟨y, hy, he⟩; exact hn y hy he
    rw [hm, e]; simp
theorem ord_put {xs : List Pr} {x : Pr} (h : ordB xs = true) (hx : 0 ≤ x.1) : ordB (putL xs x) = true := by
  rw [ordB, putL_fst]
  split
  · exact h
  · rename_i hm
    rw [onceB_snoc, show onceB (xs.map (·.1)) = true from h, decide_eq_true hx]; simpa using hm
theorem ord_fold {xs : List Pr} : ∀ (ys : List Pr), (∀ y ∈ ys, 0 ≤ y.1) → ordB xs = true → ordB (ys.foldl putL xs) = true
  | [], _, h => h
  | y :: ys, hy, h => by
    have h1 := ord_put (x := y) h (hy y (by simp))
    have : ∀ {xs : List Pr}, ordB xs = true → ordB (ys.foldl putL xs) = true := fun h => ord_fold ys (fun z hz => hy z (by simp [hz])) h
    exact this h1
theorem chk_parts {l : Lg} (h : chkG l = true) : 0 < l.levels.length ∧ ordB l.reads = true ∧ ∀ x ∈ l.levels, ordB x = true := by
  simp only [chkG, Bool.and_eq_true, decide_eq_true_eq, List.all_eq_true] at h
  exact ⟨h.1.1, h.1.2, h.2⟩
theorem chk_mk {l : Lg} (h1 : 0 < l.levels.length) (h2 : ordB l.reads = true) (h3 : ∀ x ∈ l.levels, ordB x = true) : chkG l = true := by
  simp only [chkG, Bool.and_eq_true, decide_eq_true_eq, List.all_eq_true]
  exact ⟨⟨h1, h2⟩, h3⟩
theorem putOk_of {l : Lg} {v : Int} (h : chkG l = true) (hv : 0 ≤ v) : putOk l v = true := by simp [putOk, h, hv]
theorem chk_put {l : Lg} {v : Int} (a : Int) (h : chkG l = true) (hv : 0 ≤ v) : chkG ⟨l.reads, putLs l.levels (v, a)⟩ = true := by
  obtain ⟨h1, h2, h3⟩ := chk_parts h
  obtain ⟨I, b, e, _⟩ := split_last h1
  refine chk_mk (by rw [e, putLs_snoc]; simp) h2 (fun x hx => ?_)
  rw [e, putLs_snoc] at hx
  rcases List.mem_append.1 hx with hx | hx
  · exact h3 x (by rw [e]; simp [hx])
  · simp at hx; subst hx
    exact ord_put (h3 b (by rw [e]; simp)) hv
theorem ord_note {R : List Pr} {x : Pr} (h : ordB R = true) (hx : 0 ≤ x.1) : ordB (noteRs R x) = true := by
  unfold noteRs
  split
  · exact h
  · rename_i hm
    have h1 : (R.map (·.1)).contains x.1 = false := by
      rw [← Bool.not_eq_true, List.contains_iff_mem, List.mem_map]
      rintro ⟨y, hy, he⟩
      exact hm (List.any_eq_true.2 ⟨y, hy, by simpa [hasV] using he⟩)
    rw [ordB, List.map_append]
    show onceB (_ ++ [x.1]) = true
    rw [onceB_snoc, show onceB (R.map (·.1)) = true from h, h1, decide_eq_true hx]; rfl
theorem chk_note {l : Lg} {v : Int} (a : Int) (h : chkG l = true) (hv : 0 ≤ v) : chkG ⟨noteRs l.reads (v, a), l.levels⟩ = true := by
  obtain ⟨h1, h2, h3⟩ := chk_parts h
  exact chk_mk h1 (ord_note h2 hv) h3
theorem note_has (R : List Pr) (x : Pr) : (noteRs R x).any (hasV x.1) = true := by
  unfold noteRs
  split
  · assumption
  · simp [hasV]
theorem note_again {R : List Pr} {x : Pr} (h : R.any (hasV x.1) = true) : noteRs R x = R := by rw [noteRs, if_pos h]
theorem lastW_put {L : List (List Pr)} (x : Pr) (v : Int) (h : 0 < L.length) : lastW (putLs L x) v = if x.1 = v then some x else lastW L v := by
  obtain ⟨I, b, e, _⟩ := split_last h
  rw [e, putLs_snoc, lastW_snoc, lastW_snoc, putL_find]
  split <;> rfl
theorem get_put {l : Lg} {v : Int} (a : Int) (u : Int) (h : chkG l = true) (hv : 0 ≤ v) : getG ⟨l.reads, putLs l.levels (v, a)⟩ u = if v = u then (a, true) else getG l u := by
  rw [getG, if_pos (chk_put a h hv), getG, if_pos h]
  show (match lastW (putLs l.levels (v, a)) u with | some y => (y.2, true) | none => (0, false)) = _
  rw [lastW_put _ _ (chk_parts h).1]
  by_cases e : v = u
  · simp [e]
  · simp [e]; rfl
theorem putLs_len (L : List (List Pr)) (x : Pr) : (putLs L x).length = L.length := by simp [putLs]
theorem putG_ok {l : Lg} {v : Int} (a : Int) (h : chkG l = true) (hv : 0 ≤ v) : putG l v a = (⟨l.reads, putLs l.levels (v, a)⟩, 0) := by rw [putG, if_pos (putOk_of h hv)]
theorem noteG_ok {l : Lg} {v : Int} (a : Int) (h : chkG l = true) (hv : 0 ≤ v) : noteG l v a = (⟨noteRs l.reads (v, a), l.levels⟩, 0) := by rw [noteG, if_pos (putOk_of h hv)]
theorem pushG_ok {l : Lg} (h : chkG l = true) : pushG l = (⟨l.reads, l.levels ++ [[]]⟩, 0) := by rw [pushG, if_pos h]
theorem chk_push {l : Lg} (h : chkG l = true) : chkG ⟨l.reads, l.levels ++ [[]]⟩ = true := by
  obtain ⟨h1, h2, h3⟩ := chk_parts h
  refine chk_mk (by simp) h2 (fun x hx => ?_)
  rcases List.mem_append.1 hx with hx | hx
  · exact h3 x hx
  · simp at hx; subst hx; rfl
theorem fold_find (b : List Pr) (v : Int) : ∀ (ys : List Pr), (ys.foldl putL b).find? (hasV v) = (ys.reverse.find? (hasV v)).or (b.find? (hasV v)) := by
  intro ys
  induction ys generalizing b with
  | nil => simp
  | cons y ys ih =>
    rw [List.foldl_cons, ih, List.reverse_cons, List.find?_append, putL_find]
    by_cases e : y.1 = v
    · have h1 : hasV v y = true := by simpa [hasV] using e
      simp only [e, if_true, List.find?_cons, h1]
      cases ys.reverse.find? (hasV v) <;> rfl
    · have h1 : hasV v y = false := by simpa [hasV] using e
      simp only [e, if_false, List.find?_cons, h1, List.find?_nil, or_right]
theorem ord_rev {ys : List Pr} (h : ordB ys = true) (v : Int) : ys.reverse.find? (hasV v) = ys.find? (hasV v) := by
  have hinj : ∀ (i j : Nat) (x y : Pr), ys[i]? = some x → ys[j]? = some y → i < j → x.1 ≠ y.1 := fun i j x y hx hy hij e => by
    rw [ord_dup hy hx hij e] at h; cases h
  cases hf : ys.find? (hasV v) with
  | none =>
    rw [List.find?_eq_none] at hf ⊢
    exact fun x hx => hf x (by simpa using hx)
  | some y =>
    obtain ⟨hy, i, hi, rfl, hb⟩ := List.find?_eq_some_iff_getElem.1 hf
    rw [List.find?_eq_some_iff_getElem]
    refine ⟨hy, ys.length - 1 - i, by simp; omega, ?_, fun j hj => ?_⟩
    · rw [List.getElem_reverse]; congr 1; omega
    · rw [List.getElem_reverse]
      have h1 := hinj i (ys.length - 1 - j) ys[i] ys[ys.length - 1 - j] (List.getElem?_eq_getElem hi) (List.getElem?_eq_getElem (by omega)) (by omega)
      have h2 : ys[i].1 = v := by simpa [hasV] using hy
      have h3 : ys[ys.length - 1 - j].1 ≠ v := fun e => h1 (by rw [h2, e])
      simpa [hasV] using h3
end Go.Proofs.Ytaajooemocdfgaa
