/- tlog.ended, Drop. -/
import Derived.Test.YtplckigmllkpoaaTlG
namespace Go.Proofs.Ytplckigmllkpoaa
open Go.RowKit Go.Shelf Go.Maps
attribute [local go_sem] Oper.semAt_some
theorem flatten_take {size : Nat} : ∀ (rows : List (List Value)) (k : Nat), (∀ (i : Nat) (row : List Value), rows[i]? = some row → row.length = size) → (rows.take k).flatten = rows.flatten.take (k * size)
  | [], k, _ => by simp
  | r :: rs, 0, _ => by simp
  | r :: rs, k + 1, h => by
    have h0 := h 0 r rfl
    rw [List.take_succ_cons, List.flatten_cons, List.flatten_cons, flatten_take rs k (fun i row hi => h (i + 1) row (by simpa using hi)), List.take_append, List.take_of_length_le (l := r) (by rw [h0, Nat.succ_mul]; omega), show (k + 1) * size - r.length = k * size by rw [h0, Nat.succ_mul]; omega]
theorem OSl.take {α : Type} {R : Enc α} {size : Nat} (g : Good R size) {e : TypeId} {base : Nat} {w : World} {ok : Nat → Prop} {a : Option Addr} {c : Nat} {xs : List α} (h : OSl R size e base w ok (.slice a xs.length c) xs) {k : Nat} (hk : k ≤ xs.length) :
    OSl R size e base w ok (.slice a k c) (xs.take k) := by
  obtain ⟨rows, hr, hl, hown⟩ := h
  have hlen := hr.len g
  have ob : (Value.slice a k c).ownBlock = (Value.slice a xs.length c).ownBlock := by cases a <;> rfl
  refine ⟨rows.take k, ⟨by rw [List.length_take, List.length_take, hr.1], fun i x row hx hrow => ?_⟩, ?_, ?_⟩
  · rw [ob]
    rw [List.getElem?_take] at hx hrow
    split at hx
    · rw [if_pos (by assumption)] at hrow
      exact hr.2 i x row hx hrow
    · cases hx
  · rw [flatten_take rows k hlen, List.length_take, flatten_len hlen, hr.1, List.length_take]
    rw [Nat.min_eq_left hk, Nat.min_eq_left (Nat.mul_le_mul_right _ hk)]
  · rw [List.length_take, Nat.min_eq_left hk]
    rcases hown with ⟨h1, h2⟩ | ⟨b, cap, cur, hv, hb, hh, h1, h2, h3, h4⟩
    · rw [h2] at h1
      cases h1
      exact .inl ⟨by rw [show k = 0 by omega], by omega⟩
    · cases hv
      exact .inr ⟨b, c, cur, rfl, hb, hh, by omega, h2, h3, by rw [flatten_take rows k hlen, ← h4, List.take_take, Nat.min_eq_left (Nat.mul_le_mul_right _ hk)]⟩
theorem OSl.lev_at {e : TypeId} {base : Nat} {w : World} {ok : Nat → Prop} {v : Value} {xs : List (List Pr)} (h : OSl LevE 1 e base w ok v xs) {k : Nat} {x : List Pr} (hk : xs[k]? = some x) :
    ∃ b cap xa xc, v = .slice (some ⟨b, 0, none⟩) xs.length cap ∧ base ≤ b ∧ xs.length ≤ cap ∧ (∃ c, w.heap[b]? = some (.cells c e (0, 0))) ∧ w.cell? ⟨b, k, none⟩ = some (.slice xa x.length xc) ∧ PSl w (fun b' => ok b' ∧ b' ≠ b) (.slice xa x.length xc) x := by
  have hlt : k < xs.length := (List.getElem?_eq_some_iff.1 hk).1
  obtain ⟨b1, o1, c1, x1, xa, xc, hv1, hx1, _, e1⟩ := LSl.at (h.rsl levGood (fun _ => True) (fun _ _ _ => trivial) (fun _ _ _ => trivial)) (Below.refl _ _) hlt
  rw [hk] at hx1; cases hx1
  obtain ⟨rows, hr, hl, hown⟩ := h
  rcases hown with ⟨_, h0⟩ | ⟨b, cap, cur, hv, hb, hh, g1, g2, g3, g4⟩
  · omega
  · rw [hv1] at hv
    cases hv
    have hkr : k < rows.length := by rw [hr.1]; exact hlt
    have hlen := hr.len levGood
    obtain ⟨sv, hrow, hs⟩ := hr.2 k x _ hk (List.getElem?_eq_getElem hkr)
    have hf := flatten_get hlen (List.getElem?_eq_getElem hkr) (j := 0) (u := sv) (by rw [hrow]; rfl)
    rw [← g4] at hf
    have hlt' := (List.getElem?_eq_some_iff.1 hf).1
    rw [List.length_take] at hlt'
    rw [List.getElem?_take_of_lt (by omega)] at hf
    rw [Nat.zero_add, cell_of hh] at e1
    have : sv = .slice xa x.length xc := by
      have h2 : cur[k]? = some sv := by simpa using hf
      rw [h2] at e1; cases e1; rfl
    subst this
    refine ⟨b1, c1, xa, xc, hv1, hb, g1, ⟨cur, hh⟩, by rw [cell_of hh]; exact e1, hs.weak pairGood (by decide) (fun b' _ hb' => ⟨hb'.1, fun e => hb'.2 (by rw [hv1, e]; rfl)⟩)⟩
theorem OwnIn.cut {w : World} {B2 B3 : Nat} {R : List Pr} {L : List (List Pr)} {rv : Value} {a : Option Addr} {c : Nat} {W : World} (h : OwnIn w B2 B3 R L rv (.slice a L.length c) W) (hB3 : w.heap.size ≤ B3) (hne : B2 ≠ B3) {k : Nat} (hk : k ≤ L.length) :
    OwnIn w B2 B3 R (L.take k) rv (.slice a k c) (W.setCell ⟨B3, 1, none⟩ (.slice a k c)) := by
  have ob : (Value.slice a k c).ownBlock = (Value.slice a L.length c).ownBlock := by cases a <;> rfl
  refine ⟨h.bel.setCell hB3 _, heap_far h.h2 hne, heap_set h.h3, h.fr.hr.keep pairGood ((Same.refl _ _).setCell _ ?_), ((h.fr.hl.take levGood hk).keep levGood ((Same.refl _ _).setCell _ ?_))⟩
  · rintro (hb | hb)
    · exact hb
    · exact (h.far.1 B3 hb.symm).2 rfl
  · rintro (hb | hb)
    · exact hb.2.2 (.inr rfl)
    · rw [ob] at hb
      exact (h.far.2 B3 hb.symm).2 rfl
def dropOk (l : Lg) : Bool := chkG l && decide (2 ≤ l.levels.length)
def EndP (l : Lg) (v : Value) (w : World) (e : Ending) (w' : World) : Prop :=
  if dropOk l = true then ∃ ra rc la lc xa xc x, l.levels[l.levels.length - 1]? = some x ∧ e = .returned (.tuple #[.agg #[.slice ra l.reads.length rc, .slice la (l.levels.length - 1) lc], .slice xa x.length xc, .bool true]) ∧
    Fresh w.heap.size w' (.slice ra l.reads.length rc) (.slice la (l.levels.length - 1) lc) (fun _ => False) l.reads (l.levels.take (l.levels.length - 1)) ∧ PSl w' (fun _ => True) (.slice xa x.length xc) x ∧ Below w.heap.size w w'
  else e = .returned (.tuple #[v, .slice none 0 0, .bool false]) ∧ Below w.heap.size w w'
theorem LP.of {r : Lg} {c : Int} {n : Nat} {w w' : World} {no ok : Nat → Prop} {ra la : Option Addr} {rc lc : Nat} (hn : r.levels.length = n) (F : Fresh w.heap.size w' (.slice ra r.reads.length rc) (.slice la n lc) no r.reads r.levels) (b : Below w.heap.size w w') :
    LP ok (r, c) w (.returned (.tuple #[.agg #[.slice ra r.reads.length rc, .slice la n lc], .int .i64 c])) w' := by
  subst hn; exact ⟨_, _, _, _, rfl, F.gval, b⟩
def dropG (l : Lg) : Lg × Int := if dropOk l then (⟨l.reads, l.levels.take (l.levels.length - 1)⟩, 0) else (l, 170)
end Go.Proofs.Ytplckigmllkpoaa
