/- tlog.Merge. -/
import Derived.Test.YtplckigmllkpoaaTlH
namespace Go.Proofs.Ytplckigmllkpoaa
open Go.RowKit Go.Shelf Go.Maps
attribute [local go_sem] Oper.semAt_some
theorem OwnIn.grow {w : World} {B2 B3 : Nat} {R : List Pr} {L : List (List Pr)} {rv sv : Value} {W W' : World} (h : OwnIn w B2 B3 R L rv sv W) (b : Below W.heap.size W W') : OwnIn w B2 B3 R L rv sv W' :=
  ⟨h.bel.trans (b.mono h.bel.size), (b.block _ (lt_of_some h.h2)).trans h.h2, (b.block _ (lt_of_some h.h3)).trans h.h3, h.fr.below b⟩
/-- Where a level of it may lie. -/
def okL (w : World) (B2 B3 : Nat) (rv sv : Value) (b : Nat) : Prop := (w.heap.size ≤ b ∧ some b ≠ rv.ownBlock ∧ ¬ (b = B2 ∨ b = B3)) ∧ some b ≠ sv.ownBlock
theorem OwnIn.old {w : World} {B2 B3 : Nat} {R : List Pr} {L : List (List Pr)} {rv sv : Value} {W : World} (h : OwnIn w B2 B3 R L rv sv W) {b : Nat} (hb : W.heap.size ≤ b) : okL w B2 B3 rv sv b := by
  have h1 := h.bel.size
  have h2 := lt_of_some h.h2
  have h3 := lt_of_some h.h3
  refine ⟨⟨by omega, fun e => ?_, by omega⟩, fun e => ?_⟩
  · obtain ⟨_, c, hc⟩ := h.fr.hr.lt b e.symm; have := lt_of_some hc; omega
  · obtain ⟨_, c, hc⟩ := h.fr.hl.lt b e.symm; have := lt_of_some hc; omega
/-- A level of it is put anew. -/
theorem OwnIn.put {w : World} {B2 B3 : Nat} {R : List Pr} {L : List (List Pr)} {rv : Value} {a : Option Addr} {c N : Nat} {W : World} (hN : L.length = N) (h : OwnIn w B2 B3 R L rv (.slice a N c) W) {n : Nat} {x x' : List Pr} (hk : L[n]? = some x) {u : Value} (hu : PSl W (okL w B2 B3 rv (.slice a N c)) u x') :
    ∃ b, a = some ⟨b, 0, none⟩ ∧ W.frozen? ⟨b, n, none⟩ = false ∧ (∃ u0, W.cell? ⟨b, n, none⟩ = some u0) ∧ OwnIn w B2 B3 R (L.set n x') rv (.slice a N c) (W.setCell ⟨b, n, none⟩ u) := by
  subst hN
  obtain ⟨b, cap, hv, hb, hf, hu0, hO⟩ := OSl.setCell levGood h.fr.hl (x' := x') hk (j := 0) (by decide) u (fun row hr => by obtain ⟨sv, e, _⟩ := hr; subst e; exact ⟨u, rfl, hu⟩)
  cases hv
  simp only [Nat.mul_one, Nat.add_zero] at hu0 hO
  have hb23 := h.far.2 b rfl
  refine ⟨b, rfl, hf n, hu0, h.bel.setCell hb _, heap_far h.h2 (fun e => hb23.1 e.symm), heap_far h.h3 (fun e => hb23.2 e.symm), h.fr.hr.keep pairGood ((Same.refl _ _).setCell _ ?_), ?_⟩
  · rintro (h1 | h1)
    · exact h1
    · exact h.fr.ne b rfl h1.symm
  · exact hO
def mergeL (L : List (List Pr)) (m : Nat) : List (List Pr) := (L.take m).set (m - 1) ((L.getD m []).foldl putL (L.getD (m - 1) []))
def mergeG (l : Lg) : Lg × Int := if dropOk l then (⟨l.reads, mergeL l.levels (l.levels.length - 1)⟩, 0) else (l, 170)
theorem putL_length (l : List Pr) (x : Pr) : (putL l x).length ≤ l.length + 1 := by
  unfold putL
  split <;> simp
theorem foldl_put_length (ys : List Pr) : ∀ (l : List Pr), (ys.foldl putL l).length ≤ l.length + ys.length := by
  induction ys with
  | nil => intro l; simp
  | cons y ys ih => intro l; have h1 := ih (putL l y); have h2 := putL_length l y; simp only [List.foldl_cons, List.length_cons]; omega
end Go.Proofs.Ytplckigmllkpoaa
