/- The plain law of Collect: which places roots reach, and in which order. -/
import Derived.Test.YtajhchfjoeblgaaHeapK
namespace Go.Proofs.Ytajhchfjoeblgaa
def res (ns : List Nd) (p : Int) : Option Int := (atN ns p).map (·.2)
def nodeAt (ns : List Nd) (q : Int) : Nd := (ns[q.toNat]?).getD default
def push (S : List Int) (q : Int) : List Int := if S.contains q then S else S ++ [q]
def addT (ns : List Nd) : List Int → List Int → List Int
  | S, [] => S
  | S, p :: ps => addT ns (match res ns p with | none => S | some q => push S q) ps
def fails (ns : List Nd) (ps : List Int) : Bool := ps.any fun p => (res ns p).isNone
def pl (S : List Int) (q : Int) : Int := (S.idxOf q : Nat)
def outOf (ns : List Nd) (S ps : List Int) : List Int := ps.map fun p => match res ns p with | none => 0 | some q => pl S q
def moved (ns : List Nd) (S : List Int) (q : Int) : Nd := { nodeAt ns q with kids := outOf ns S (nodeAt ns q).kids }
def loopS (ns : List Nd) : Nat → Nat → List Int → Option (List Int)
  | 0, _, S => some S
  | f + 1, i, S => match S[i]? with
    | none => some S
    | some q => if fails ns (nodeAt ns q).kids then none else loopS ns f (i + 1) (addT ns S (nodeAt ns q).kids)
def collS (ns : List Nd) (roots : List Int) : Option (List Int) := if fails ns roots then none else loopS ns (ns.length + 1) 0 (addT ns [] roots)
def Fit (ns : List Nd) (S : List Int) : Prop := S.Nodup ∧ ∀ q ∈ S, res ns q = some q
def Closed (ns : List Nd) (i : Nat) (S : List Int) : Prop := ∀ j q, j < i → S[j]? = some q → ∀ k ∈ (nodeAt ns q).kids, ∃ q', res ns k = some q' ∧ q' ∈ S
def Shut (ns : List Nd) (X : Int → Prop) : Prop := ∀ q, X q → ∀ k ∈ (nodeAt ns q).kids, ∃ q', res ns k = some q' ∧ X q'
theorem res_some {ns : List Nd} {p q : Int} (h : res ns p = some q) : res ns q = some q ∧ 0 ≤ q ∧ q < ns.length ∧ atN ns p = some (nodeAt ns q, q) ∧ (nodeAt ns q).kind ≠ 6 ∧ ns[q.toNat]? = some (nodeAt ns q) := by
  simp only [res, Option.map_eq_some_iff] at h
  obtain ⟨⟨x, q'⟩, hat, rfl⟩ := h
  obtain ⟨h1, h2, h3, h4⟩ := follow_some _ _ hat
  have hx : nodeAt ns q' = x := by simp [nodeAt, h4]
  refine ⟨?_, h2, h3, by rw [hx]; exact hat, by rw [hx]; exact h1, by rw [hx]; exact h4⟩
  have : atN ns q' = some (x, q') := by
    rw [atN, follow]
    simp only [show ¬ (q' < 0) by omega, if_false, h4, h1]
  simp [res, this]
theorem res_none {ns : List Nd} {p : Int} (h : res ns p = none) : atN ns p = none := by simpa [res] using h
theorem mem_push {S : List Int} {q x : Int} : x ∈ push S q ↔ x ∈ S ∨ x = q := by
  unfold push
  split
  · rename_i h
    constructor
    · exact Or.inl
    · rintro (h' | rfl)
      · exact h'
      · simpa using h
  · simp
theorem push_prefix (S : List Int) (q : Int) : S <+: push S q := by
  unfold push
  split
  · exact List.prefix_refl _
  · exact List.prefix_append _ _
theorem fit_push {ns : List Nd} {S : List Int} {q : Int} (h : Fit ns S) (hq : res ns q = some q) : Fit ns (push S q) := by
  refine ⟨?_, fun x hx => ?_⟩
  · unfold push
    split
    · exact h.1
    · rename_i hn
      refine List.nodup_append.2 ⟨h.1, by simp, fun a ha b hb => ?_⟩
      simp at hb; subst hb
      intro e; subst e
      exact hn (by simpa using ha)
  · rcases mem_push.1 hx with h' | rfl
    · exact h.2 _ h'
    · exact hq
theorem addT_prefix (ns : List Nd) : ∀ (ps S : List Int), S <+: addT ns S ps
  | [], S => List.prefix_refl _
  | p :: ps, S => by
    rw [addT]
    refine List.IsPrefix.trans ?_ (addT_prefix ns ps _)
    cases res ns p
    · exact List.prefix_refl _
    · exact push_prefix _ _
theorem mem_addT {ns : List Nd} {x : Int} : ∀ {ps S : List Int}, x ∈ addT ns S ps ↔ x ∈ S ∨ ∃ p ∈ ps, res ns p = some x
  | [], S => by simp [addT]
  | p :: ps, S => by
    rw [addT, mem_addT (ps := ps)]
    cases hp : res ns p with
    | none => simp [hp]
    | some q =>
      simp only [mem_push, List.mem_cons, exists_eq_or_imp, hp, Option.some.injEq]
      constructor
      · rintro ((h | h) | h)
        · exact .inl h
        · exact .inr (.inl h.symm)
        · exact .inr (.inr h)
      · rintro (h | h | h)
        · exact .inl (.inl h)
        · exact .inl (.inr h.symm)
        · exact .inr h
theorem fit_addT {ns : List Nd} : ∀ (ps : List Int) {S : List Int}, Fit ns S → Fit ns (addT ns S ps)
  | [], _, h => h
  | p :: ps, S, h => by
    rw [addT]
    refine fit_addT ps ?_
    cases hp : res ns p with
    | none => exact h
    | some q => exact fit_push h (res_some hp).1
theorem addT_append (ns : List Nd) : ∀ (ps qs S : List Int), addT ns S (ps ++ qs) = addT ns (addT ns S ps) qs
  | [], _, _ => rfl
  | p :: ps, qs, S => by rw [List.cons_append, addT, addT, addT_append ns ps qs]
theorem nodup_sub : ∀ {A B : List Int}, A.Nodup → (∀ x ∈ A, x ∈ B) → A.length ≤ B.length
  | [], B, _, _ => Nat.zero_le _
  | a :: A, B, hn, hs => by
    rw [List.nodup_cons] at hn
    have hm := hs a (by simp)
    have := nodup_sub (A := A) (B := B.erase a) hn.2 (fun x hx => (List.mem_erase_of_ne (fun e => hn.1 (by rw [← e]; exact hx))).2 (hs x (by simp [hx])))
    have hl := List.length_erase_of_mem hm
    have hpos : 0 < B.length := List.length_pos_of_mem hm
    simp only [List.length_cons]; omega
theorem fit_len {ns : List Nd} {S : List Int} (h : Fit ns S) : S.length ≤ ns.length := by
  have := nodup_sub (A := S) (B := (List.range ns.length).map Int.ofNat) h.1 (fun x hx => by
    obtain ⟨_, h1, h2, _⟩ := res_some (h.2 x hx)
    simp only [List.mem_map, List.mem_range]
    exact ⟨x.toNat, by omega, by simp; omega⟩)
  simpa using this
theorem fails_no {ns : List Nd} {ps : List Int} (h : fails ns ps = false) : ∀ p ∈ ps, ∃ q, res ns p = some q := fun p hp => by
  simp only [fails, List.any_eq_false] at h
  have := h p hp
  cases hr : res ns p with
  | none => simp [hr] at this
  | some q => exact ⟨q, rfl⟩
theorem fails_yes {ns : List Nd} {ps : List Int} (h : fails ns ps = true) : ∃ p ∈ ps, res ns p = none := by
  simp only [fails, List.any_eq_true] at h
  obtain ⟨p, hp, hr⟩ := h
  exact ⟨p, hp, by simpa using hr⟩
theorem fails_mk {ns : List Nd} {ps : List Int} (h : ∀ p ∈ ps, ∃ q, res ns p = some q) : fails ns ps = false := by
  cases hf : fails ns ps
  · rfl
  · obtain ⟨p, hp, hr⟩ := fails_yes hf
    obtain ⟨q, hq⟩ := h p hp
    rw [hr] at hq; cases hq
theorem prefix_get {S S' : List Int} (h : S <+: S') {j : Nat} (hj : j < S.length) : S'[j]? = S[j]? := by
  obtain ⟨t, rfl⟩ := h; rw [List.getElem?_append_left hj]
theorem closed_step {ns : List Nd} {S : List Int} {i : Nat} {q : Int} (hc : Closed ns i S) (hi : S[i]? = some q) (hf : fails ns (nodeAt ns q).kids = false) : Closed ns (i + 1) (addT ns S (nodeAt ns q).kids) := by
  intro j x hj hx k hk
  have hil := (List.getElem?_eq_some_iff.1 hi).1
  rw [prefix_get (addT_prefix ns _ S) (by omega)] at hx
  by_cases e : j = i
  · subst e
    rw [hi] at hx; cases hx
    obtain ⟨q', hq'⟩ := fails_no hf k hk
    exact ⟨q', hq', mem_addT.2 (.inr ⟨k, hk, hq'⟩)⟩
  · obtain ⟨q', h1, h2⟩ := hc j x (by omega) hx k hk
    exact ⟨q', h1, mem_addT.2 (.inl h2)⟩
def LoopOk (ns : List Nd) (S : List Int) : Option (List Int) → Prop
  | some S' => S <+: S' ∧ Fit ns S' ∧ Closed ns S'.length S' ∧ ∀ X : Int → Prop, (∀ q ∈ S, X q) → Shut ns X → ∀ q ∈ S', X q
  | none => ∀ X : Int → Prop, (∀ q ∈ S, X q) → ¬ Shut ns X
theorem loopS_ok {ns : List Nd} : ∀ (f i : Nat) (S : List Int), Fit ns S → ns.length + 1 ≤ f + i → i ≤ S.length → Closed ns i S → LoopOk ns S (loopS ns f i S)
  | 0, i, S, h, hf, hi, _ => by have := fit_len h; omega
  | f + 1, i, S, h, hf, hi, hc => by
    rw [loopS]
    cases hq : S[i]? with
    | none =>
      have : i = S.length := by rw [List.getElem?_eq_none_iff] at hq; omega
      subst this
      exact ⟨List.prefix_refl _, h, hc, fun X hX _ => hX⟩
    | some q =>
      simp only
      have hil := (List.getElem?_eq_some_iff.1 hq).1
      have hqm := List.mem_of_getElem? hq
      cases hfl : fails ns (nodeAt ns q).kids with
      | true =>
        simp only [if_true]
        intro X hX hsh
        obtain ⟨p, hp, hr⟩ := fails_yes hfl
        obtain ⟨q', hq', _⟩ := hsh q (hX q hqm) p hp
        rw [hr] at hq'; cases hq'
      | false =>
        simp only [Bool.false_eq_true, if_false]
        have ih := loopS_ok f (i + 1) (addT ns S (nodeAt ns q).kids) (fit_addT _ h) (by omega) (by have := (addT_prefix ns (nodeAt ns q).kids S).length_le; omega) (closed_step hc hq hfl)
        have up : ∀ X : Int → Prop, (∀ q ∈ S, X q) → Shut ns X → ∀ x ∈ addT ns S (nodeAt ns q).kids, X x := fun X hX hsh x hx => by
          rcases mem_addT.1 hx with h' | ⟨p, hp, hr⟩
          · exact hX x h'
          · obtain ⟨q', hq', hXq⟩ := hsh q (hX q hqm) p hp
            rw [hr] at hq'; cases hq'; exact hXq
        cases hl : loopS ns f (i + 1) (addT ns S (nodeAt ns q).kids) with
        | none => rw [hl] at ih; exact fun X hX hsh => ih X (up X hX hsh) hsh
        | some S' =>
          rw [hl] at ih
          exact ⟨(addT_prefix ns _ S).trans ih.1, ih.2.1, ih.2.2.1, fun X hX hsh => ih.2.2.2 X (up X hX hsh) hsh⟩
theorem fit_nil (ns : List Nd) : Fit ns [] := ⟨List.nodup_nil, fun _ h => by cases h⟩
theorem closed_zero (ns : List Nd) (S : List Int) : Closed ns 0 S := fun _ _ h => absurd h (by omega)
theorem coll_some {ns : List Nd} {roots S : List Int} (h : collS ns roots = some S) : addT ns [] roots <+: S ∧ Fit ns S ∧ Closed ns S.length S ∧ (∀ r ∈ roots, ∃ q, res ns r = some q ∧ q ∈ S) ∧
    ∀ X : Int → Prop, (∀ r ∈ roots, ∃ q, res ns r = some q ∧ X q) → Shut ns X → ∀ q ∈ S, X q := by
  rw [collS] at h
  cases hf : fails ns roots with
  | true => rw [hf] at h; cases h
  | false =>
    rw [hf] at h
    simp only [Bool.false_eq_true, if_false] at h
    have := loopS_ok (ns.length + 1) 0 (addT ns [] roots) (fit_addT _ (fit_nil ns)) (by omega) (Nat.zero_le _) (closed_zero _ _)
    rw [h] at this
    refine ⟨this.1, this.2.1, this.2.2.1, fun r hr => ?_, fun X hX hsh => this.2.2.2 X (fun q hq => ?_) hsh⟩
    · obtain ⟨q, hq⟩ := fails_no hf r hr
      exact ⟨q, hq, this.1.subset (mem_addT.2 (.inr ⟨r, hr, hq⟩))⟩
    · rcases mem_addT.1 hq with h' | ⟨p, hp, hr⟩
      · cases h'
      · obtain ⟨q', hq', hXq⟩ := hX p hp
        rw [hr] at hq'; cases hq'; exact hXq
theorem coll_ok {ns : List Nd} {roots : List Int} (X : Int → Prop) (hX : ∀ r ∈ roots, ∃ q, res ns r = some q ∧ X q) (hsh : Shut ns X) : ∃ S, collS ns roots = some S := by
  rw [collS, fails_mk (fun r hr => (hX r hr).imp fun _ h => h.1)]
  simp only [Bool.false_eq_true, if_false]
  have := loopS_ok (ns.length + 1) 0 (addT ns [] roots) (fit_addT _ (fit_nil ns)) (by omega) (Nat.zero_le _) (closed_zero _ _)
  cases hl : loopS ns (ns.length + 1) 0 (addT ns [] roots) with
  | none =>
    rw [hl] at this
    refine absurd hsh (this X fun q hq => ?_)
    rcases mem_addT.1 hq with h' | ⟨p, hp, hr⟩
    · cases h'
    · obtain ⟨q', hq', hXq⟩ := hX p hp
      rw [hr] at hq'; cases hq'; exact hXq
  | some S => exact ⟨S, rfl⟩
/-- What was found is shut. -/
theorem coll_shut {ns : List Nd} {S : List Int} (h : Closed ns S.length S) : Shut ns (· ∈ S) := fun q hq k hk => by
  obtain ⟨j, hj, rfl⟩ := List.getElem_of_mem hq
  exact h j _ hj (List.getElem?_eq_getElem hj) k hk
theorem coll_more {ns : List Nd} {a b A B : List Int} (ha : collS ns a = some A) (hb : collS ns b = some B) : ∃ C, collS ns (a ++ b) = some C ∧ (∀ q, q ∈ C ↔ q ∈ A ∨ q ∈ B) := by
  obtain ⟨_, _, ca, ra, ma⟩ := coll_some ha
  obtain ⟨_, _, cb, rb, mb⟩ := coll_some hb
  have hX : ∀ r ∈ a ++ b, ∃ q, res ns r = some q ∧ (q ∈ A ∨ q ∈ B) := fun r hr => by
    rcases List.mem_append.1 hr with h | h
    · obtain ⟨q, h1, h2⟩ := ra r h; exact ⟨q, h1, .inl h2⟩
    · obtain ⟨q, h1, h2⟩ := rb r h; exact ⟨q, h1, .inr h2⟩
  have hsh : Shut ns (fun q => q ∈ A ∨ q ∈ B) := fun q hq k hk => by
    rcases hq with h | h
    · obtain ⟨q', h1, h2⟩ := coll_shut ca q h k hk; exact ⟨q', h1, .inl h2⟩
    · obtain ⟨q', h1, h2⟩ := coll_shut cb q h k hk; exact ⟨q', h1, .inr h2⟩
  obtain ⟨C, hC⟩ := coll_ok _ hX hsh
  obtain ⟨_, _, cc, rc, mc⟩ := coll_some hC
  refine ⟨C, hC, fun q => ⟨fun h => mc _ hX hsh q h, ?_⟩⟩
  rintro (h | h)
  · exact ma (· ∈ C) (fun r hr => rc r (List.mem_append_left _ hr)) (coll_shut cc) q h
  · exact mb (· ∈ C) (fun r hr => rc r (List.mem_append_right _ hr)) (coll_shut cc) q h
end Go.Proofs.Ytajhchfjoeblgaa
