/- The plain law of logs: levels of one Write each; a level more that is dropped or merged then; the order of Writes. -/
import Derived.Test.YtaajooemocdfgaaTlX
namespace Go.Proofs.Ytaajooemocdfgaa
/-- Levels of one Write each, of one variable. -/
def stk (v : Int) (xs : List Int) : Lg := ⟨[], xs.map (fun a => [(v, a)])⟩
theorem ord_one {v a : Int} (h : 0 ≤ v) : ordB [(v, a)] = true := ord_put (xs := []) (x := (v, a)) rfl h
theorem stk_chk {v : Int} {xs : List Int} (hv : 0 ≤ v) (h : 0 < xs.length) : chkG (stk v xs) = true :=
  chk_mk (by simpa [stk] using h) rfl (fun x hx => by
    simp [stk] at hx; obtain ⟨a, _, rfl⟩ := hx; exact ord_one hv)
theorem stk_new {v : Int} (a : Int) (hv : 0 ≤ v) : putG ⟨[], [[]]⟩ v a = (stk v [a], 0) := by rw [putG_ok a rfl hv]; rfl
theorem stk_push {v : Int} {xs : List Int} (hv : 0 ≤ v) (h : 0 < xs.length) : pushG (stk v xs) = (⟨[], xs.map (fun a => [(v, a)]) ++ [[]]⟩, 0) := pushG_ok (stk_chk hv h)
theorem stk_put {v : Int} {xs : List Int} (a : Int) (hv : 0 ≤ v) (h : 0 < xs.length) : putG ⟨[], xs.map (fun a => [(v, a)]) ++ [[]]⟩ v a = (stk v (xs ++ [a]), 0) := by
  rw [putG_ok a (show chkG ⟨[], xs.map (fun a => [(v, a)]) ++ [[]]⟩ = true from chk_push (stk_chk hv h)) hv]
  show ((⟨[], putLs (xs.map (fun a => [(v, a)]) ++ [[]]) (v, a)⟩ : Lg), (0 : Int)) = _
  rw [putLs_snoc]
  simp [stk, putL]
theorem stk_get {v : Int} {xs : List Int} (a : Int) (hv : 0 ≤ v) : getG (stk v (xs ++ [a])) v = (a, true) := by
  rw [getG, if_pos (stk_chk hv (by simp))]
  show (match lastW ((xs ++ [a]).map (fun a => [(v, a)])) v with | some y => (y.2, true) | none => (0, false)) = _
  rw [List.map_append, List.map_cons, List.map_nil, lastW_snoc]
  simp [hasV]
theorem dropG_snoc {R : List Pr} {L : List (List Pr)} {P : List Pr} (h : chkG ⟨R, L ++ [P]⟩ = true) (hL : 0 < L.length) : dropG ⟨R, L ++ [P]⟩ = (⟨R, L⟩, 0) := by
  rw [dropG, if_pos (by simp [dropOk, h]; omega)]
  simp
theorem mergeG_snoc {R : List Pr} {I : List (List Pr)} {b P : List Pr} (h : chkG ⟨R, I ++ [b] ++ [P]⟩ = true) : mergeG ⟨R, I ++ [b] ++ [P]⟩ = (⟨R, I ++ [P.foldl putL b]⟩, 0) := by
  rw [mergeG, if_pos (by rw [dropOk, h]; simp)]
  have h1 : (I ++ [b] ++ [P]).length - 1 = I.length + 1 := by simp
  show ((⟨R, mergeL (I ++ [b] ++ [P]) ((I ++ [b] ++ [P]).length - 1)⟩ : Lg), (0 : Int)) = _
  rw [h1, mergeL]
  have h2 : (I ++ [b] ++ [P]).take (I.length + 1) = I ++ [b] := by
    rw [List.take_append_of_le_length (by simp), List.take_of_length_le (by simp)]
  have h3 : (I ++ [b] ++ [P]).getD (I.length + 1) [] = P := by
    rw [List.getD_eq_getElem?_getD, List.getElem?_append_right (by simp)]; simp
  have h4 : (I ++ [b] ++ [P]).getD (I.length + 1 - 1) [] = b := by
    rw [List.getD_eq_getElem?_getD, List.append_assoc, Nat.add_sub_cancel, List.getElem?_append_right (Nat.le_refl _)]; simp
  rw [h2, h3, h4, Nat.add_sub_cancel, List.set_append_right _ _ (Nat.le_refl _)]
  simp
theorem stk_drop {v : Int} {xs : List Int} (a : Int) (hv : 0 ≤ v) (h : 0 < xs.length) : dropG (stk v (xs ++ [a])) = (stk v xs, 0) := by
  have hc := stk_chk (v := v) (xs := xs ++ [a]) hv (by simp)
  simp only [stk, List.map_append, List.map_cons, List.map_nil] at hc ⊢
  exact dropG_snoc hc (by simpa using h)
theorem stk_drop_one {v : Int} (a : Int) : dropG (stk v [a]) = (stk v [a], 170) := by
  rw [dropG, if_neg (by simp [dropOk, stk])]
theorem stk_dropped {v : Int} {xs : List Int} {k : Nat} (hv : 0 ≤ v) (hk : k < xs.length) : (dropG (stk v (xs.take (k + 1)))).1 = stk v (xs.take (max k 1)) := by
  have e : xs.take (k + 1) = xs.take k ++ [xs[k]] := take_more (List.getElem?_eq_getElem hk)
  by_cases h0 : k = 0
  · subst h0
    rw [e, List.take_zero, List.nil_append, stk_drop_one]
    show stk v [xs[0]] = stk v (xs.take 1)
    rw [e]; rfl
  · rw [e, stk_drop _ hv (by simp; omega), Nat.max_eq_left (by omega)]
theorem stk_merge {v : Int} {xs : List Int} (a b : Int) (hv : 0 ≤ v) : mergeG (stk v (xs ++ [b] ++ [a])) = (stk v (xs ++ [a]), 0) := by
  have hc := stk_chk (v := v) (xs := xs ++ [b] ++ [a]) hv (by simp)
  simp only [stk, List.map_append, List.map_cons, List.map_nil] at hc ⊢
  rw [mergeG_snoc hc]
  simp [putL, hasV]
theorem stk_merged {v a : Int} {xs : List Int} {k : Nat} (hv : 0 ≤ v) (hk : k < xs.length) : mergeG (stk v (xs.take (k + 1) ++ [a])) = (stk v (xs.take k ++ [a]), 0) := by
  rw [take_more (List.getElem?_eq_getElem hk), stk_merge _ _ hv]
theorem stk_none {v : Int} (a u : Int) (hv : 0 ≤ v) (h : v ≠ u) : getG (stk v [a]) u = (0, false) := by
  rw [getG, if_pos (stk_chk hv (by simp))]
  have h1 : hasV u (v, a) = false := by simpa [hasV] using h
  simp [stk, lastW, h1]
theorem stk_okl {v : Int} {xs : List Int} {n : Nat} (h : xs.length ≤ n) (hn : 1 ≤ n) : Okl (stk v xs) n :=
  ⟨by simp [stk], by simpa [stk] using h, fun x hx => by simp [stk] at hx; obtain ⟨a, _, rfl⟩ := hx; simpa using hn⟩
theorem stk_okl2 {v : Int} {xs : List Int} {n : Nat} (h : xs.length + 1 ≤ n) : Okl ⟨[], xs.map (fun a => [(v, a)]) ++ [[]]⟩ n :=
  ⟨by simp, by simpa using h, fun x hx => by
    rcases List.mem_append.1 hx with hx | hx
    · simp at hx; obtain ⟨a, _, rfl⟩ := hx; simp; omega
    · simp at hx; subst hx; simp⟩
/-- A Read noted, a Write put, if it may be. -/
def noteTo (R : List Pr) (x : Pr) : List Pr := if 0 ≤ x.1 then noteRs R x else R
def putTo (P : List Pr) (x : Pr) : List Pr := if 0 ≤ x.1 then putL P x else P
def erTo (v : Int) : Int := if 0 ≤ v then 0 else 170
theorem erTo_ok (v : Int) : (erTo v == 0) = decide (0 ≤ v) := by
  unfold erTo; split <;> simp [*]
theorem noteG_to {R : List Pr} {L : List (List Pr)} (v a : Int) (h : chkG ⟨R, L⟩ = true) : noteG ⟨R, L⟩ v a = (⟨noteTo R (v, a), L⟩, erTo v) := by
  unfold noteTo erTo
  split
  · rename_i hv; rw [noteG_ok a h hv]
  · rename_i hv; rw [noteG, if_neg (by simp [putOk]; intro _; omega)]
theorem putG_to {R : List Pr} {I : List (List Pr)} {P : List Pr} (v a : Int) (h : chkG ⟨R, I ++ [P]⟩ = true) : putG ⟨R, I ++ [P]⟩ v a = (⟨R, I ++ [putTo P (v, a)]⟩, erTo v) := by
  unfold putTo erTo
  split
  · rename_i hv; rw [putG_ok a h hv, putLs_snoc]
  · rename_i hv; rw [putG, if_neg (by simp [putOk]; intro _; omega)]
theorem ord_noteTo {R : List Pr} (x : Pr) (h : ordB R = true) : ordB (noteTo R x) = true := by
  unfold noteTo; split
  · rename_i hx; exact ord_note h hx
  · exact h
theorem ord_putTo {R : List Pr} (x : Pr) (h : ordB R = true) : ordB (putTo R x) = true := by
  unfold putTo; split
  · rename_i hx; exact ord_put h hx
  · exact h
theorem len_noteTo (R : List Pr) (x : Pr) : (noteTo R x).length ≤ R.length + 1 := by
  unfold noteTo noteRs; split
  · split
    · omega
    · simp
  · omega
theorem len_putTo (R : List Pr) (x : Pr) : (putTo R x).length ≤ R.length + 1 := by
  unfold putTo; split
  · exact putL_length _ _
  · omega
theorem fold_inv {α β : Type} {f : α → β → α} {p : Nat → α → Prop} (hs : ∀ n a b, p n a → p (n + 1) (f a b)) : ∀ (ys : List β) (n : Nat) (a : α), p n a → p (n + ys.length) (ys.foldl f a)
  | [], _, _, h => h
  | y :: ys, n, a, h => by
    have := fold_inv hs ys (n + 1) (f a y) (hs n a y h)
    rw [List.length_cons, Nat.add_comm ys.length 1, ← Nat.add_assoc]; exact this
theorem ord_notes {R : List Pr} (ys : List Pr) (h : ordB R = true) : ordB (ys.foldl noteTo R) = true := fold_inv (p := fun _ a => ordB a = true) (fun _ _ b h => ord_noteTo b h) ys 0 R h
theorem ord_puts {R : List Pr} (ys : List Pr) (h : ordB R = true) : ordB (ys.foldl putTo R) = true := fold_inv (p := fun _ a => ordB a = true) (fun _ _ b h => ord_putTo b h) ys 0 R h
theorem len_notes (R : List Pr) (ys : List Pr) : (ys.foldl noteTo R).length ≤ R.length + ys.length := fold_inv (p := fun n a => a.length ≤ n) (fun _ a b h => by have := len_noteTo a b; omega) ys R.length R (Nat.le_refl _)
theorem len_puts (R : List Pr) (ys : List Pr) : (ys.foldl putTo R).length ≤ R.length + ys.length := fold_inv (p := fun n a => a.length ≤ n) (fun _ a b h => by have := len_putTo a b; omega) ys R.length R (Nat.le_refl _)
theorem fold_more {α β : Type} {f : α → β → α} {a : α} {xs : List β} {k : Nat} {x : β} (h : xs[k]? = some x) : (xs.take (k + 1)).foldl f a = f ((xs.take k).foldl f a) x := by
  rw [take_more h, List.foldl_append]; rfl
def Over (P Q b : List Pr) : Prop := ∀ v, Q.find? (hasV v) = (P.find? (hasV v)).or (b.find? (hasV v))
theorem Over.step {P Q b : List Pr} (h : Over P Q b) (x : Pr) : Over (putTo P x) (putTo Q x) b := fun v => by
  unfold putTo; split
  · rw [putL_find, putL_find]; split
    · rfl
    · exact h v
  · exact h v
theorem over_fold (b : List Pr) (ys : List Pr) : Over (ys.foldl putTo []) (ys.foldl putTo b) b := by
  have : ∀ (ys : List Pr) (P Q : List Pr), Over P Q b → Over (ys.foldl putTo P) (ys.foldl putTo Q) b := by
    intro ys; induction ys with
    | nil => exact fun _ _ h => h
    | cons y ys ih => exact fun P Q h => ih _ _ (h.step y)
  exact this ys [] b (fun v => by simp)
theorem or_assoc' {α : Type} (a b c : Option α) : (a.or b).or c = a.or (b.or c) := by cases a <;> rfl
theorem chk_last {R : List Pr} {I : List (List Pr)} {b c : List Pr} (h : chkG ⟨R, I ++ [b]⟩ = true) (hc : ordB c = true) : chkG ⟨R, I ++ [c]⟩ = true := by
  obtain ⟨_, h2, h3⟩ := chk_parts h
  refine chk_mk (by simp) h2 (fun x hx => ?_)
  rcases List.mem_append.1 hx with hx | hx
  · exact h3 x (List.mem_append_left _ hx)
  · simp at hx; subst hx; exact hc
theorem chk_over {R : List Pr} {L : List (List Pr)} {c : List Pr} (h : chkG ⟨R, L⟩ = true) (hc : ordB c = true) : chkG ⟨R, L ++ [c]⟩ = true := by
  obtain ⟨h1, h2, h3⟩ := chk_parts h
  refine chk_mk (by simp) h2 (fun x hx => ?_)
  rcases List.mem_append.1 hx with hx | hx
  · exact h3 x hx
  · simp at hx; subst hx; exact hc
theorem chk_reads {R S : List Pr} {L : List (List Pr)} (h : chkG ⟨R, L⟩ = true) (hs : ordB S = true) : chkG ⟨S, L⟩ = true := by
  obtain ⟨h1, _, h3⟩ := chk_parts h
  exact chk_mk h1 hs h3
theorem get_of {l m : Lg} {v : Int} (hl : chkG l = true) (hm : chkG m = true) (h : lastW l.levels v = lastW m.levels v) : getG l v = getG m v := by
  rw [getG, getG, if_pos hl, if_pos hm, h]
theorem ord_merged {b P : List Pr} (hb : ordB b = true) (hP : ordB P = true) : ordB (P.foldl putL b) = true :=
  ord_fold P (fun y hy => by
    obtain ⟨i, hi⟩ := List.getElem?_of_mem hy
    by_cases h : 0 ≤ y.1
    · exact h
    · rw [ord_neg hi (by omega)] at hP; cases hP) hb
theorem get_merged {R : List Pr} {I : List (List Pr)} {b P Q : List Pr} (v : Int) (hP : ordB P = true) (h : Over P Q b) (h1 : chkG ⟨R, I ++ [P.foldl putL b]⟩ = true) (h2 : chkG ⟨R, I ++ [Q]⟩ = true) :
    getG ⟨R, I ++ [P.foldl putL b]⟩ v = getG ⟨R, I ++ [Q]⟩ v := by
  refine get_of h1 h2 ?_
  show lastW (I ++ [_]) v = lastW (I ++ [_]) v
  rw [lastW_snoc, lastW_snoc, fold_find, ord_rev hP, h v]
theorem get_over {R : List Pr} {I : List (List Pr)} {b P Q : List Pr} (v : Int) (h : Over P Q b) (h1 : chkG ⟨R, I ++ [b] ++ [P]⟩ = true) (h2 : chkG ⟨R, I ++ [Q]⟩ = true) :
    getG ⟨R, I ++ [b] ++ [P]⟩ v = getG ⟨R, I ++ [Q]⟩ v := by
  refine get_of h1 h2 ?_
  show lastW (I ++ [b] ++ [P]) v = lastW (I ++ [_]) v
  rw [lastW_snoc, lastW_snoc, lastW_snoc, h v, or_assoc']
theorem get_put2 {l : Lg} {v w : Int} (a b n : Int) (h : chkG l = true) (hv : 0 ≤ v) (hw : 0 ≤ w) (hne : v ≠ w) :
    getG ⟨l.reads, putLs (putLs l.levels (v, a)) (w, b)⟩ n = getG ⟨l.reads, putLs (putLs l.levels (w, b)) (v, a)⟩ n := by
  have e1 := get_put (l := ⟨l.reads, putLs l.levels (v, a)⟩) b n (chk_put a h hv) hw
  have e2 := get_put (l := ⟨l.reads, putLs l.levels (w, b)⟩) a n (chk_put b h hw) hv
  have e3 := get_put (l := l) a n h hv
  have e4 := get_put (l := l) b n h hw
  refine e1.trans (Eq.trans ?_ e2.symm)
  rw [e3, e4]
  by_cases e : w = n
  · rw [if_pos e, if_neg (by omega), if_pos e]
  · rw [if_neg e, if_neg e]
end Go.Proofs.Ytaajooemocdfgaa
