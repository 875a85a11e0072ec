/- The plain law of Collect: its lists, step by step. -/
import Derived.Test.YtajhchfjoeblgaaMapI
namespace Go.Proofs.Ytajhchfjoeblgaa
def mvS (ns : List Nd) (S : List Int) (p : Int) : List Int := match res ns p with | none => S | some q => push S q
def mvT (ns : List Nd) (S : List Int) (T : List Nd) (p : Int) : List Nd := match res ns p with | none => T | some q => if S.contains q then T else T ++ [nodeAt ns q]
def mvP (ns : List Nd) (S : List Int) (p : Int) : Int := match res ns p with | none => 0 | some q => pl (push S q) q
theorem mvS_prefix (ns : List Nd) (S : List Int) (p : Int) : S <+: mvS ns S p := by
  unfold mvS; cases res ns p
  · exact List.prefix_refl _
  · exact push_prefix _ _
theorem addT_step (ns : List Nd) (S ps : List Int) {k : Nat} {p : Int} (h : ps[k]? = some p) : addT ns S (ps.take (k + 1)) = mvS ns (addT ns S (ps.take k)) p := by
  have hk := (List.getElem?_eq_some_iff.1 h).1
  rw [List.take_succ_eq_append_getElem hk, addT_append, (List.getElem?_eq_some_iff.1 h).2]
  simp only [addT, mvS]; rfl
def rawT (ns : List Nd) (n0 : Nat) (S : List Int) : List Nd := (S.drop n0).map (nodeAt ns)
theorem rawT_step (ns : List Nd) (n0 : Nat) (T : List Nd) {S : List Int} (hn : n0 ≤ S.length) (p : Int) : mvT ns S (T ++ rawT ns n0 S) p = T ++ rawT ns n0 (mvS ns S p) := by
  unfold mvT mvS
  cases res ns p with
  | none => rfl
  | some q =>
    simp only [push]
    split
    · rfl
    · rw [rawT, rawT, List.drop_append_of_le_length hn, List.map_append, List.append_assoc]; rfl
theorem pl_push {S : List Int} {q x : Int} (hx : x ∈ S) : pl (push S q) x = pl S x := by
  unfold push; split
  · rfl
  · rw [pl, pl, List.idxOf_append, if_pos hx]
theorem pl_prefix {S S' : List Int} (h : S <+: S') {x : Int} (hx : x ∈ S) : pl S' x = pl S x := by
  obtain ⟨t, rfl⟩ := h; rw [pl, pl, List.idxOf_append, if_pos hx]
theorem outOf_later {ns : List Nd} {S S' ps : List Int} (h : S <+: S') (hp : ∀ p ∈ ps, ∀ q, res ns p = some q → q ∈ S) : outOf ns S' ps = outOf ns S ps := by
  refine List.map_congr_left fun p hm => ?_
  cases hr : res ns p with
  | none => rfl
  | some q => exact pl_prefix h (hp p hm q hr)
theorem outOf_len (ns : List Nd) (S ps : List Int) : (outOf ns S ps).length = ps.length := by simp [outOf]
def outAt (ns : List Nd) (S ps : List Int) (k : Nat) : List Int := outOf ns (addT ns S (ps.take k)) (ps.take k) ++ ps.drop k
theorem outAt_step (ns : List Nd) (S ps : List Int) {k : Nat} {p : Int} (h : ps[k]? = some p) : (outAt ns S ps k).set k (mvP ns (addT ns S (ps.take k)) p) = outAt ns S ps (k + 1) := by
  obtain ⟨hk, hp⟩ := List.getElem?_eq_some_iff.1 h
  have hl : (outOf ns (addT ns S (ps.take k)) (ps.take k)).length = k := by rw [outOf_len, List.length_take]; omega
  have hpre := mvS_prefix ns (addT ns S (ps.take k)) p
  have hstep := addT_step ns S ps h
  rw [outAt, outAt, List.set_append_right _ _ (by omega), hl, Nat.sub_self, List.drop_eq_getElem_cons hk, List.set_cons_zero, hstep]
  rw [List.take_succ_eq_append_getElem hk, hp]
  have e1 : outOf ns (mvS ns (addT ns S (ps.take k)) p) (ps.take k ++ [p]) = outOf ns (addT ns S (ps.take k)) (ps.take k) ++ [mvP ns (addT ns S (ps.take k)) p] := by
    rw [outOf, List.map_append, ← outOf, ← outOf, outOf_later hpre (fun p' hp' q' hq' => mem_addT.2 (.inr ⟨p', hp', hq'⟩))]
    congr 1
    simp only [outOf, List.map_cons, List.map_nil, mvP, mvS]
    cases res ns p <;> rfl
  rw [e1]; simp
theorem outAt_len (ns : List Nd) (S ps : List Int) (k : Nat) : (outAt ns S ps k).length = ps.length := by simp [outAt, outOf_len]; omega
theorem outAt_get (ns : List Nd) (S ps : List Int) {k : Nat} : (outAt ns S ps k)[k]? = ps[k]? := by
  by_cases hk : k < ps.length
  · have hl : (outOf ns (addT ns S (ps.take k)) (ps.take k)).length = k := by rw [outOf_len, List.length_take]; omega
    rw [outAt, List.getElem?_append_right (by omega), hl, Nat.sub_self, List.getElem?_drop]; rfl
  · have h1 : (outAt ns S ps k)[k]? = none := List.getElem?_eq_none (by rw [outAt_len]; omega)
    have h2 : ps[k]? = none := List.getElem?_eq_none (by omega)
    rw [h1, h2]
theorem outAt_zero (ns : List Nd) (S ps : List Int) : outAt ns S ps 0 = ps := by simp [outAt, outOf]
theorem outAt_end (ns : List Nd) (S ps : List Int) : outAt ns S ps ps.length = outOf ns (addT ns S ps) ps := by simp [outAt]
theorem fails_step (ns : List Nd) (ps : List Int) {k : Nat} {p : Int} (h : ps[k]? = some p) (bad : Bool) : (bad || fails ns (ps.take (k + 1))) = ((bad || fails ns (ps.take k)) || (res ns p).isNone) := by
  have hk := (List.getElem?_eq_some_iff.1 h).1
  rw [List.take_succ_eq_append_getElem hk, (List.getElem?_eq_some_iff.1 h).2]
  simp [fails, Bool.or_assoc]
/-- The nodes, those up to i with their kids' new places. -/
def doneT (ns : List Nd) (i : Nat) (S : List Int) : List Nd := (S.take i).map (moved ns S) ++ (S.drop i).map (nodeAt ns)
theorem doneT_len (ns : List Nd) {i : Nat} {S : List Int} (hi : i ≤ S.length) : (doneT ns i S).length = S.length := by simp [doneT]; omega
theorem doneT_get (ns : List Nd) {i : Nat} {S : List Int} {q : Int} (h : S[i]? = some q) : (doneT ns i S)[i]? = some (nodeAt ns q) := by
  have hi := (List.getElem?_eq_some_iff.1 h).1
  rw [doneT, List.getElem?_append_right (by simp; omega)]
  simp only [List.length_map, List.length_take, show i - min i S.length = 0 by omega, List.getElem?_map, List.getElem?_drop, Nat.add_zero, h, Option.map_some]
theorem moved_later {ns : List Nd} {S S' : List Int} (h : S <+: S') {q : Int} (hp : ∀ k ∈ (nodeAt ns q).kids, ∀ q', res ns k = some q' → q' ∈ S) : moved ns S' q = moved ns S q := by
  rw [moved, moved, outOf_later h hp]
theorem doneT_step {ns : List Nd} {i : Nat} {S : List Int} {q : Int} (h : S[i]? = some q) (hc : Closed ns i S) :
    (doneT ns i S ++ rawT ns S.length (addT ns S (nodeAt ns q).kids)).set i { nodeAt ns q with kids := outOf ns (addT ns S (nodeAt ns q).kids) (nodeAt ns q).kids } = doneT ns (i + 1) (addT ns S (nodeAt ns q).kids) := by
  obtain ⟨hi, hq⟩ := List.getElem?_eq_some_iff.1 h
  obtain ⟨t, ht⟩ := addT_prefix ns (nodeAt ns q).kids S
  have hpre := addT_prefix ns (nodeAt ns q).kids S
  generalize hS' : addT ns S (nodeAt ns q).kids = S' at ht hpre ⊢
  have e1 : S'.take (i + 1) = S.take i ++ [q] := by
    rw [← ht, List.take_append_of_le_length (by omega), List.take_succ_eq_append_getElem hi, hq]
  have e2 : S'.drop (i + 1) = S.drop (i + 1) ++ t := by rw [← ht, List.drop_append_of_le_length (by omega)]
  have e3 : S'.drop S.length = t := by rw [← ht]; simp
  have em : (S.take i).map (moved ns S') = (S.take i).map (moved ns S) := by
    refine List.map_congr_left fun x hx => ?_
    obtain ⟨j, hj⟩ := List.getElem?_of_mem hx
    have hji : j < i := by have := (List.getElem?_eq_some_iff.1 hj).1; simp at this; omega
    rw [List.getElem?_take_of_lt hji] at hj
    refine moved_later hpre fun k hk q' hq' => ?_
    obtain ⟨q'', h1, h2⟩ := hc j x hji hj k hk
    rw [hq'] at h1; cases h1; exact h2
  rw [doneT, doneT, rawT, e1, e2, e3, List.map_append, List.map_append, em, List.append_assoc, List.append_assoc]
  rw [List.set_append_right _ _ (by simp; omega)]
  congr 1
  rw [show i - ((S.take i).map (moved ns S)).length = 0 by simp; omega, List.drop_eq_getElem_cons hi, hq]
  simp only [List.map_cons, List.cons_append, List.set_cons_zero, List.map_nil, List.nil_append]
  rw [moved]
theorem doneT_zero (ns : List Nd) (S : List Int) : doneT ns 0 S = rawT ns 0 S := by simp [doneT, rawT]
theorem doneT_end (ns : List Nd) (S : List Int) : doneT ns S.length S = S.map (moved ns S) := by simp [doneT]
end Go.Proofs.Ytajhchfjoeblgaa
