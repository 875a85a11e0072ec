/- The plain law of Collect: what the collected heap is. -/
import Derived.Test.YtajhchfjoeblgaaGcC
import Derived.Test.YtajhchfjoeblgaaHeapI
namespace Go.Proofs.Ytajhchfjoeblgaa
def collH (h : Hp) (roots : List Int) : Option (Hp × List Int) := if chkH h then (collS h.nodes roots).map fun S => (⟨S.map (moved h.nodes S), h.most⟩, outOf h.nodes S roots) else none
def liveH (h : Hp) (roots : List Int) : Nat := match collH h roots with | some (c, _) => c.nodes.length | none => 0
theorem chkH_may {h : Hp} (hc : chkH h = true) {k : Nat} {x : Nd} (hx : h.nodes[k]? = some x) : mayN x h.nodes.length = true := by
  cases hm : mayN x h.nodes.length
  · rw [chkH_no hx hm] at hc; cases hc
  · rfl
theorem chkH_parts {h : Hp} (hc : chkH h = true) : 0 ≤ h.most ∧ h.most ≤ 5000 ∧ (h.nodes.length : Int) ≤ h.most := by
  simp only [chkH, Bool.and_eq_true, decide_eq_true_eq] at hc
  exact ⟨hc.1.1.1, hc.1.1.2, hc.1.2⟩
theorem pl_lt {S : List Int} {q : Int} (h : q ∈ S) : 0 ≤ pl S q ∧ pl S q < S.length := by
  have := List.idxOf_lt_length_of_mem h
  unfold pl; omega
theorem pl_get {S : List Int} {q : Int} (h : q ∈ S) : S[(pl S q).toNat]? = some q := by
  have := List.idxOf_lt_length_of_mem h
  rw [show (pl S q).toNat = S.idxOf q by unfold pl; omega, List.getElem?_eq_getElem this, List.getElem_idxOf this]
theorem pl_inj {S : List Int} {q q' : Int} (h : q ∈ S) (h' : q' ∈ S) (e : pl S q = pl S q') : q = q' := by
  have h1 := pl_get h
  rw [e, pl_get h'] at h1
  cases h1; rfl
/-- What a collected heap is told by. -/
structure Col (ns : List Nd) (S : List Int) : Prop where
  fit : Fit ns S
  shut : Shut ns (· ∈ S)
theorem col_of {ns : List Nd} {roots S : List Int} (h : collS ns roots = some S) : Col ns S := ⟨(coll_some h).2.1, coll_shut (coll_some h).2.2.1⟩
theorem nc_get {ns : List Nd} {S : List Int} {q : Int} (h : q ∈ S) : (S.map (moved ns S))[(pl S q).toNat]? = some (moved ns S q) := by
  rw [List.getElem?_map, pl_get h]; rfl
theorem nc_res {ns : List Nd} {S : List Int} (c : Col ns S) {q : Int} (h : q ∈ S) : res (S.map (moved ns S)) (pl S q) = some (pl S q) ∧ nodeAt (S.map (moved ns S)) (pl S q) = moved ns S q ∧ atN (S.map (moved ns S)) (pl S q) = some (moved ns S q, pl S q) := by
  have h1 := nc_get (ns := ns) h
  have h2 := (pl_lt h).1
  have hk : (moved ns S q).kind ≠ 6 := (res_some (c.fit.2 q h)).2.2.2.2.1
  have hat : atN (S.map (moved ns S)) (pl S q) = some (moved ns S q, pl S q) := by
    rw [atN, follow]
    simp only [show ¬ (pl S q < 0) by omega, if_false, h1, hk]
  exact ⟨by rw [res, hat]; rfl, by rw [nodeAt, h1]; rfl, hat⟩
theorem out_mem {ns : List Nd} {S ps : List Int} (hps : ∀ p ∈ ps, ∃ q, res ns p = some q ∧ q ∈ S) {k : Int} (h : k ∈ outOf ns S ps) : ∃ q ∈ S, k = pl S q := by
  simp only [outOf, List.mem_map] at h
  obtain ⟨p, hp, rfl⟩ := h
  obtain ⟨q, hq, hS⟩ := hps p hp
  exact ⟨q, hS, by rw [hq]⟩
theorem nc_chk {h : Hp} {S : List Int} (hc : chkH h = true) (c : Col h.nodes S) : chkH ⟨S.map (moved h.nodes S), h.most⟩ = true := by
  obtain ⟨p1, p2, p3⟩ := chkH_parts hc
  have hl := fit_len c.fit
  refine chkH_yes p1 p2 (by simp; omega) ?_
  intro k x hk hx
  simp only [List.getElem?_map, Option.map_eq_some_iff] at hx
  obtain ⟨q, hq, rfl⟩ := hx
  have hqS := List.mem_of_getElem? hq
  have hm := chkH_may hc (res_some (c.fit.2 q hqS)).2.2.2.2.2
  simp only [mayN, Bool.and_eq_true] at hm ⊢
  refine ⟨kidsIn_yes fun j z hj hz => ?_, ?_⟩
  · obtain ⟨q', hq', rfl⟩ := out_mem (c.shut q hqS) (List.mem_of_getElem? hz)
    have := pl_lt hq'
    simp only [List.length_map]; exact this
  · have := hm.2
    simpa [moved, outOf_len] using this
theorem push_map {S A : List Int} {q : Int} (hA : ∀ a ∈ A, a ∈ S) (hq : q ∈ S) : push (A.map (pl S)) (pl S q) = (push A q).map (pl S) := by
  have e : (A.map (pl S)).contains (pl S q) = A.contains q := by
    rw [Bool.eq_iff_iff]
    simp only [List.contains_iff_mem, List.mem_map]
    constructor
    · rintro ⟨a, ha, e⟩; rw [← pl_inj (hA a ha) hq e]; exact ha
    · intro h; exact ⟨q, h, rfl⟩
  unfold push
  rw [e]
  split
  · rfl
  · rw [List.map_append]; rfl
theorem sim_add {ns : List Nd} {S : List Int} (c : Col ns S) : ∀ (ps A : List Int), (∀ p ∈ ps, ∃ q, res ns p = some q ∧ q ∈ S) → (∀ a ∈ A, a ∈ S) →
    addT (S.map (moved ns S)) (A.map (pl S)) (outOf ns S ps) = (addT ns A ps).map (pl S)
  | [], A, _, _ => rfl
  | p :: ps, A, hps, hA => by
    obtain ⟨q, hq, hqS⟩ := hps p (by simp)
    have e1 : outOf ns S (p :: ps) = pl S q :: outOf ns S ps := by simp [outOf, hq]
    rw [e1, addT, addT, (nc_res c hqS).1, hq]
    simp only
    rw [push_map hA hqS]
    exact sim_add c ps (push A q) (fun p hp => hps p (by simp [hp])) (fun a ha => by
      rcases mem_push.1 ha with h | rfl
      · exact hA a h
      · exact hqS)
theorem sim_fails {ns : List Nd} {S ps : List Int} (c : Col ns S) (hps : ∀ p ∈ ps, ∃ q, res ns p = some q ∧ q ∈ S) : fails (S.map (moved ns S)) (outOf ns S ps) = false :=
  fails_mk fun k hk => by
    obtain ⟨q, hq, rfl⟩ := out_mem hps hk
    exact ⟨_, (nc_res c hq).1⟩
theorem sim_loop {ns : List Nd} {S : List Int} (c : Col ns S) : ∀ (f i : Nat) (A : List Int), (∀ a ∈ A, a ∈ S) → loopS ns f i A = some S → loopS (S.map (moved ns S)) f i (A.map (pl S)) = some (S.map (pl S))
  | 0, i, A, _, h => by rw [loopS] at h ⊢; cases h; rfl
  | f + 1, i, A, hA, h => by
    rw [loopS] at h ⊢
    rw [List.getElem?_map]
    cases hq : A[i]? with
    | none => rw [hq] at h; cases h; rfl
    | some q =>
      rw [hq] at h
      simp only [Option.map_some] at h ⊢
      have hqS := hA q (List.mem_of_getElem? hq)
      cases hf : fails ns (nodeAt ns q).kids with
      | true => rw [hf] at h; cases h
      | false =>
        rw [hf] at h
        simp only [Bool.false_eq_true, if_false] at h
        have hk : (nodeAt (S.map (moved ns S)) (pl S q)).kids = outOf ns S (nodeAt ns q).kids := by rw [(nc_res c hqS).2.1]; rfl
        rw [hk, sim_fails c (c.shut q hqS)]
        simp only [Bool.false_eq_true, if_false]
        rw [sim_add c _ _ (c.shut q hqS) hA]
        refine sim_loop c f (i + 1) _ (fun a ha => ?_) h
        rcases mem_addT.1 ha with h' | ⟨p, hp, hr⟩
        · exact hA a h'
        · obtain ⟨q', h1, h2⟩ := c.shut q hqS p hp
          rw [hr] at h1; cases h1; exact h2
theorem loopS_more {ns : List Nd} : ∀ (f i : Nat) (S : List Int), Fit ns S → ns.length + 1 ≤ f + i → i ≤ S.length → loopS ns (f + 1) i S = loopS ns f i S
  | 0, i, S, h, hf, hi => by have := fit_len h; omega
  | f + 1, i, S, h, hf, hi => by
    rw [loopS, loopS]
    cases hq : S[i]? with
    | none => rfl
    | some q =>
      have hil := (List.getElem?_eq_some_iff.1 hq).1
      simp only
      split
      · rfl
      · exact loopS_more f (i + 1) _ (fit_addT _ h) (by omega) (by have := (addT_prefix ns (nodeAt ns q).kids S).length_le; omega)
theorem loopS_fuel {ns : List Nd} {S : List Int} (h : Fit ns S) : ∀ d, loopS ns (ns.length + 1 + d) 0 S = loopS ns (ns.length + 1) 0 S
  | 0 => rfl
  | d + 1 => by
    rw [← loopS_fuel h d]
    have := loopS_more (ns.length + 1 + d) 0 S h (by omega) (Nat.zero_le _)
    exact this
theorem map_pl {S : List Int} (h : S.Nodup) : S.map (pl S) = (List.range S.length).map Int.ofNat := by
  apply List.ext_getElem?
  intro j
  rw [List.getElem?_map, List.getElem?_map]
  by_cases hj : j < S.length
  · rw [List.getElem?_eq_getElem hj, List.getElem?_range hj]
    simp only [Option.map_some, pl, h.idxOf_getElem]; rfl
  · rw [List.getElem?_eq_none (by omega), List.getElem?_eq_none (by simp; omega)]; rfl
/-- A collected heap, collected again, is what it is. -/
theorem again {ns : List Nd} {roots S : List Int} (h : collS ns roots = some S) :
    collS (S.map (moved ns S)) (outOf ns S roots) = some (S.map (pl S)) ∧ (S.map (pl S)).map (moved (S.map (moved ns S)) (S.map (pl S))) = S.map (moved ns S) ∧ outOf (S.map (moved ns S)) (S.map (pl S)) (outOf ns S roots) = outOf ns S roots := by
  have c := col_of h
  have hroots := (coll_some h).2.2.2.1
  have hpp : ∀ q ∈ S, pl (S.map (pl S)) (pl S q) = pl S q := fun q hq => by
    have hl := List.idxOf_lt_length_of_mem hq
    have hi : (S.map (pl S)).idxOf (pl S q) = S.idxOf q := by
      have hj : S.idxOf q < (S.map (pl S)).length := by simpa using hl
      have hnd : (S.map (pl S)).Nodup := by
        rw [map_pl c.fit.1]
        exact List.Pairwise.map _ (fun a b h e => h (Int.ofNat.inj e)) List.nodup_range
      have hg : (S.map (pl S))[S.idxOf q] = pl S q := by rw [List.getElem_map, List.getElem_idxOf hl]
      rw [← hg]
      exact hnd.idxOf_getElem _ _
    rw [pl, hi]; rfl
  have hout : ∀ ps : List Int, (∀ p ∈ ps, ∃ q, res ns p = some q ∧ q ∈ S) → outOf (S.map (moved ns S)) (S.map (pl S)) (outOf ns S ps) = outOf ns S ps := fun ps hps => by
    have : outOf (S.map (moved ns S)) (S.map (pl S)) (outOf ns S ps) = (outOf ns S ps).map id := List.map_congr_left fun k hk => by
      obtain ⟨q, hq, rfl⟩ := out_mem hps hk
      simp only [(nc_res c hq).1, id]
      exact hpp q hq
    rw [this, List.map_id]
  refine ⟨?_, ?_, hout roots hroots⟩
  · rw [collS, sim_fails c hroots]
    simp only [Bool.false_eq_true, if_false]
    have e := sim_add c roots [] hroots (fun _ h => by cases h)
    rw [List.map_nil] at e
    rw [e]
    have h' := h
    rw [collS, fails_mk (fun r hr => (hroots r hr).imp fun _ h => h.1)] at h'
    simp only [Bool.false_eq_true, if_false] at h'
    have hsim := sim_loop c _ 0 _ (fun a ha => (coll_some h).1.subset ha) h'
    have hfit : Fit (S.map (moved ns S)) ((addT ns [] roots).map (pl S)) := by rw [← e]; exact fit_addT _ (fit_nil _)
    have hle := fit_len c.fit
    rw [← hsim, show ns.length + 1 = (S.map (moved ns S)).length + 1 + (ns.length - S.length) by simp; omega]
    exact (loopS_fuel hfit _).symm
  · rw [List.map_map]
    refine List.map_congr_left fun q hq => ?_
    simp only [Function.comp_apply]
    rw [moved, (nc_res c hq).2.1]
    have : outOf (S.map (moved ns S)) (S.map (pl S)) (moved ns S q).kids = (moved ns S q).kids := hout _ (c.shut q hq)
    rw [this]
/-- How many places are no other one. -/
def plains (ns : List Nd) : List Int := ((List.range ns.length).map Int.ofNat).filter fun i => res ns i == some i
theorem mem_plains {ns : List Nd} {q : Int} : q ∈ plains ns ↔ res ns q = some q := by
  simp only [plains, List.mem_filter, List.mem_map, List.mem_range, beq_iff_eq]
  constructor
  · exact fun h => h.2
  · intro h
    obtain ⟨_, h1, h2, _⟩ := res_some h
    exact ⟨⟨q.toNat, by omega, by simp; omega⟩, h⟩
theorem nodup_plains (ns : List Nd) : (plains ns).Nodup := by
  refine List.Pairwise.filter _ ?_
  exact List.Pairwise.map _ (fun a b h e => h (Int.ofNat.inj e)) List.nodup_range
theorem fit_plains {ns : List Nd} {S : List Int} (h : Fit ns S) : S.length ≤ (plains ns).length := nodup_sub h.1 fun x hx => mem_plains.2 (h.2 x hx)
/-- All places reach all that is no other one. -/
theorem whole_plains {ns : List Nd} {all A : List Int} (hall : ∀ q, res ns q = some q → q ∈ all) (h : collS ns all = some A) : A.length = (plains ns).length := by
  refine Nat.le_antisymm (fit_plains (col_of h).fit) (nodup_sub (nodup_plains ns) fun x hx => ?_)
  have hr := mem_plains.1 hx
  obtain ⟨q, hq, hA⟩ := (coll_some h).2.2.2.1 x (hall x hr)
  rw [hr] at hq; cases hq; exact hA
theorem more_len {ns : List Nd} {a b A B : List Int} (ha : collS ns a = some A) (hb : collS ns b = some B) : ∃ C D, collS ns (a ++ b) = some C ∧ collS ns (b ++ a ++ b) = some D ∧
    A.length ≤ C.length ∧ B.length ≤ C.length ∧ C.length ≤ A.length + B.length ∧ C.length = D.length ∧ C.length ≤ (plains ns).length := by
  obtain ⟨C, hC, hmem⟩ := coll_more ha hb
  obtain ⟨E, hE, hmemE⟩ := coll_more hb ha
  obtain ⟨D, hD, hmemD⟩ := coll_more hE hb
  have fa := (col_of ha).fit
  have fb := (col_of hb).fit
  have fc := (col_of hC).fit
  have fd := (col_of hD).fit
  refine ⟨C, D, hC, hD, nodup_sub fa.1 (fun x hx => (hmem x).2 (.inl hx)), nodup_sub fb.1 (fun x hx => (hmem x).2 (.inr hx)), ?_, ?_, fit_plains fc⟩
  · have := nodup_sub (B := A ++ B) fc.1 (fun x hx => List.mem_append.2 ((hmem x).1 hx))
    rwa [List.length_append] at this
  · have hCD : ∀ x, x ∈ C ↔ x ∈ D := fun x => by
      rw [hmem, hmemD, hmemE]
      constructor
      · rintro (h | h)
        · exact .inl (.inr h)
        · exact .inr h
      · rintro ((h | h) | h)
        · exact .inr h
        · exact .inl h
        · exact .inr h
    exact Nat.le_antisymm (nodup_sub fc.1 fun x hx => (hCD x).1 hx) (nodup_sub fd.1 fun x hx => (hCD x).2 hx)
/-- The place of a root that is met for the first time is the next one. -/
theorem first_place {ns : List Nd} {roots S : List Int} (h : collS ns roots = some S) {i : Nat} {r q : Int} (hr : roots[i]? = some r) (hq : res ns r = some q) :
    (q ∉ addT ns [] (roots.take i) → pl S q = (addT ns [] (roots.take i)).length ∧ (addT ns [] (roots.take (i + 1))).length = (addT ns [] (roots.take i)).length + 1) ∧
    (q ∈ addT ns [] (roots.take i) → addT ns [] (roots.take (i + 1)) = addT ns [] (roots.take i)) := by
  have hs := addT_step ns [] roots hr
  rw [mvS, hq] at hs
  simp only [push] at hs
  constructor
  · intro hn
    rw [if_neg (by simpa using hn)] at hs
    refine ⟨?_, by rw [hs]; simp⟩
    have hp : addT ns [] (roots.take (i + 1)) <+: S := by
      refine List.IsPrefix.trans ?_ (coll_some h).1
      have : addT ns [] roots = addT ns (addT ns [] (roots.take (i + 1))) (roots.drop (i + 1)) := by rw [← addT_append, List.take_append_drop]
      rw [this]; exact addT_prefix _ _ _
    rw [pl_prefix hp (by rw [hs]; simp), hs, pl_last hn]
  · intro hm
    rw [if_pos (by simpa using hm)] at hs
    exact hs
end Go.Proofs.Ytajhchfjoeblgaa
