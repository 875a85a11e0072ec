/- The plain law of Follows: who leads to a place is told by that many steps as there are nodes. -/
import Derived.Test.YtajhchfjoeblgaaHeapD
namespace Go.Proofs.Ytajhchfjoeblgaa
open Go.RowKit Go.Shelf
theorem pigeon (len : Nat) : ∀ (f : Nat) (R : Nat → Nat → Prop), (∀ q k k', R q k → R q k' → k = k') → (∀ k, 1 ≤ k → k ≤ f → ∃ q, q < len ∧ R q k) → f ≤ len := by
  induction len with
  | zero =>
    intro f R _ h
    rcases Nat.eq_zero_or_pos f with rfl | hf
    · exact Nat.le_refl _
    · obtain ⟨q, hq, _⟩ := h 1 (Nat.le_refl _) hf; omega
  | succ len ih =>
    intro f R hR h
    by_cases hv : ∃ v, 1 ≤ v ∧ v ≤ f ∧ R len v
    · obtain ⟨v, h1, h2, hv⟩ := hv
      have := ih (f - 1) (fun q k => if k < v then R q k else R q (k + 1)) (fun q k k' hk hk' => by
        split at hk <;> split at hk' <;> (have := hR _ _ _ hk hk'; omega)) (fun k hk1 hk2 => by
        by_cases hkv : k < v
        · obtain ⟨q, hq, hr⟩ := h k hk1 (by omega)
          refine ⟨q, ?_, by simpa [hkv] using hr⟩
          rcases Nat.lt_succ_iff_lt_or_eq.1 hq with hq | rfl
          · exact hq
          · have := hR _ _ _ hr hv; omega
        · obtain ⟨q, hq, hr⟩ := h (k + 1) (by omega) (by omega)
          refine ⟨q, ?_, by simpa [hkv] using hr⟩
          rcases Nat.lt_succ_iff_lt_or_eq.1 hq with hq | rfl
          · exact hq
          · have := hR _ _ _ hr hv; omega)
      omega
    · have := ih f R hR (fun k hk1 hk2 => by
        obtain ⟨q, hq, hr⟩ := h k hk1 hk2
        refine ⟨q, ?_, hr⟩
        rcases Nat.lt_succ_iff_lt_or_eq.1 hq with hq | rfl
        · exact hq
        · exact absurd ⟨k, hk1, hk2, hr⟩ hv)
      omega
theorem follow_more {ns : List Nd} {r : Nd × Int} : ∀ (f : Nat) (p : Int), follow ns f p = some r → follow ns (f + 1) p = some r := by
  intro f
  induction f with
  | zero => intro p h; cases h
  | succ f ih =>
    intro p h
    rw [follow] at h ⊢
    split at h
    · cases h
    · rename_i hp
      simp only [hp, if_false]
      cases hn : ns[p.toNat]? with
      | none => rw [hn] at h; cases h
      | some n =>
        rw [hn] at h
        simp only at h ⊢
        split at h
        · rename_i hk
          simp only [hk, if_true]
          split at h
          · exact ih _ h
          · cases h
        · rename_i hk
          simp only [hk, if_false]
          exact h
theorem follow_mono {ns : List Nd} {r : Nd × Int} {f : Nat} {p : Int} (h : follow ns f p = some r) : ∀ g, f ≤ g → follow ns g p = some r := by
  intro g hg
  induction g with
  | zero => obtain rfl : f = 0 := by omega
            exact h
  | succ g ih =>
    by_cases e : f = g + 1
    · subst e; exact h
    · exact follow_more g p (ih (by omega))
theorem follow_some {ns : List Nd} {x : Nd} {q : Int} : ∀ (f : Nat) (p : Int), follow ns f p = some (x, q) → x.kind ≠ 6 ∧ 0 ≤ q ∧ q < ns.length ∧ ns[q.toNat]? = some x := by
  intro f
  induction f with
  | zero => intro p h; cases h
  | succ f ih =>
    intro p h
    rw [follow] at h
    split at h
    · cases h
    · rename_i hp
      cases hn : ns[p.toNat]? with
      | none => rw [hn] at h; cases h
      | some n =>
        rw [hn] at h
        simp only at h
        split at h
        · split at h
          · exact ih _ h
          · cases h
        · rename_i hk
          cases h
          exact ⟨hk, by omega, by have := (List.getElem?_eq_some_iff.1 hn).1; omega, hn⟩
/-- A place of which k steps are wanted, and no fewer. -/
def Wants (ns : List Nd) (q k : Nat) : Prop := (follow ns k q).isSome = true ∧ ∀ j, j < k → follow ns j q = none
theorem wants_down {ns : List Nd} : ∀ (f : Nat) (p : Nat), Wants ns p f → ∀ k, 1 ≤ k → k ≤ f → ∃ q, q < ns.length ∧ Wants ns q k := by
  intro f
  induction f with
  | zero => intro p _ k h1 h2; omega
  | succ f ih =>
    intro p hw k h1 h2
    obtain ⟨hs, hmin⟩ := hw
    have hlt : p < ns.length := by
      rw [follow] at hs
      simp only [show ¬ ((p : Int) < 0) by omega, if_false, Int.toNat_natCast] at hs
      cases hn : ns[p]? with
      | none => rw [hn] at hs; cases hs
      | some n => exact (List.getElem?_eq_some_iff.1 hn).1
    by_cases hk : k = f + 1
    · subst hk; exact ⟨p, hlt, hs, hmin⟩
    · rw [follow] at hs
      simp only [show ¬ ((p : Int) < 0) by omega, if_false, Int.toNat_natCast] at hs
      have hn : ns[p]? = some ns[p] := List.getElem?_eq_getElem hlt
      rw [hn] at hs
      simp only at hs
      by_cases h6 : ns[p].kind = 6
      · simp only [h6, if_true] at hs
        split at hs
        · rename_i z hz
          have hz0 : 0 ≤ z ∧ z < ns.length ∨ ¬ (0 ≤ z ∧ z < ns.length) := Classical.em _
          have hzn : 0 ≤ z := by
            cases f with
            | zero => cases hs
            | succ f => rw [follow] at hs; split at hs
                        · cases hs
                        · omega
          obtain ⟨zn, rfl⟩ : ∃ zn : Nat, z = zn := ⟨z.toNat, by omega⟩
          refine ih zn ⟨hs, fun j hj => ?_⟩ k h1 (by omega)
          have := hmin (j + 1) (by omega)
          rw [follow] at this
          simp only [show ¬ ((p : Int) < 0) by omega, if_false, Int.toNat_natCast, hn, h6, if_true, hz] at this
          exact this
        · cases hs
      · have h1' := hmin 1 (by omega)
        rw [follow] at h1'
        simp only [show ¬ ((p : Int) < 0) by omega, if_false, Int.toNat_natCast, hn, h6] at h1'
        cases h1'
theorem wants_one {ns : List Nd} {q k k' : Nat} (h : Wants ns q k) (h' : Wants ns q k') : k = k' := by
  rcases Nat.lt_trichotomy k k' with hl | rfl | hl
  · have h1 := h.1; rw [h'.2 k hl] at h1; cases h1
  · rfl
  · have h1 := h'.1; rw [h.2 k' hl] at h1; cases h1
theorem wants_ex {ns : List Nd} {p : Nat} : ∀ f, (follow ns f p).isSome = true → ∃ k, k ≤ f ∧ Wants ns p k := by
  intro f
  induction f using Nat.strongRecOn with
  | _ f ih =>
    intro h
    by_cases hx : ∃ j, j < f ∧ (follow ns j p).isSome = true
    · obtain ⟨j, hj, hs⟩ := hx
      obtain ⟨k, hk, hw⟩ := ih j hj hs
      exact ⟨k, by omega, hw⟩
    · refine ⟨f, Nat.le_refl _, h, fun j hj => ?_⟩
      cases hf : follow ns j p with
      | none => rfl
      | some r => exact absurd ⟨j, hj, by rw [hf]; rfl⟩ hx
theorem follow_len {ns : List Nd} {f : Nat} {p : Int} {r : Nd × Int} (h : follow ns f p = some r) : follow ns ns.length p = some r := by
  have hp : 0 ≤ p := by
    cases f with
    | zero => cases h
    | succ f => rw [follow] at h; split at h
                · cases h
                · omega
  obtain ⟨pn, rfl⟩ : ∃ pn : Nat, p = pn := ⟨p.toNat, by omega⟩
  obtain ⟨k, hk, hw⟩ := wants_ex f (by rw [h]; rfl)
  have hkl := pigeon ns.length k (Wants ns) (fun q k k' => wants_one) (wants_down k pn hw)
  obtain ⟨r', hr'⟩ := Option.isSome_iff_exists.1 hw.1
  have h1 := follow_mono hr' f hk
  rw [h] at h1
  rw [h1]
  exact follow_mono hr' ns.length hkl
/-- Who is another one, and leads to a place, comes where that one comes. -/
theorem at_ind {ns : List Nd} {p : Int} {i : Nat} {k : Nd} {r : Nd × Int} (h : atN ns p = some r) (hi : ns[i]? = some k) (h6 : k.kind = 6) (hk : k.kids = [p]) : atN ns i = some r := by
  rw [atN, follow]
  simp only [show ¬ ((i : Int) < 0) by omega, if_false, Int.toNat_natCast, hi, h6, if_true, hk]
  exact follow_len h
end Go.Proofs.Ytajhchfjoeblgaa
