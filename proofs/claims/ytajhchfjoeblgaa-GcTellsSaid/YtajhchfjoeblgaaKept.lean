/- Boxes of heaps that are kept; an element of a heap's nodes, in a later world. -/
import Derived.Test.YtajhchfjoeblgaaGcH
namespace Go.Proofs.Ytajhchfjoeblgaa
open Go.RowKit Go.Shelf
/-- The box of a heap, and what it reads as, in a later world. -/
structure Kept (w wk : World) (B : Nat) (t : TypeId) (sa : Option Addr) (sc : Nat) (h : Hp) : Prop where
  bel : Below w.heap.size w wk
  box : wk.heap[B]? = some (.cells #[.slice sa h.nodes.length sc, .int .i64 h.most] t)
  val : HVal wk (fun _ => True) (.agg #[.slice sa h.nodes.length sc, .int .i64 h.most]) h
theorem Kept.more {w wk wl : World} {B : Nat} {t : TypeId} {sa : Option Addr} {sc : Nat} {h : Hp} (k : Kept w wk B t sa sc h) (b : Below wk.heap.size wk wl) : Kept w wl B t sa sc h :=
  ⟨k.bel.trans (b.mono k.bel.size), (b.block _ (lt_of_some k.box)).trans k.box, k.val.below b⟩
theorem Kept.c0 {w wk : World} {B : Nat} {t : TypeId} {sa : Option Addr} {sc : Nat} {h : Hp} (k : Kept w wk B t sa sc h) : wk.cell? ⟨B, 0, none⟩ = some (.slice sa h.nodes.length sc) := cell_of k.box
theorem Kept.c1 {w wk : World} {B : Nat} {t : TypeId} {sa : Option Addr} {sc : Nat} {h : Hp} (k : Kept w wk B t sa sc h) : wk.cell? ⟨B, 1, none⟩ = some (.int .i64 h.most) := cell_of k.box
theorem Kept.nsl {w wk : World} {B : Nat} {t : TypeId} {sa : Option Addr} {sc : Nat} {h : Hp} (k : Kept w wk B t sa sc h) : NSl wk (fun _ => True) (.slice sa h.nodes.length sc) h.nodes := by
  obtain ⟨a, c, e, _, s⟩ := k.val; cases e; exact s
/-- A heap just put into a box. -/
theorem Kept.new {w wk : World} (t : TypeId) {sa : Option Addr} {sc : Nat} {h : Hp} (b : Below w.heap.size w wk) (hv : HVal wk (fun _ => True) (.agg #[.slice sa h.nodes.length sc, .int .i64 h.most]) h) :
    Kept w (wk.alloc (.cells #[.slice sa h.nodes.length sc, .int .i64 h.most] t)) wk.heap.size t sa sc h :=
  ⟨b.alloc b.size _, World.alloc_heap_new _ _, hv.below ((Below.refl _ _).alloc (Nat.le_refl _) _)⟩
theorem ISl.more {w w' : World} {v : Value} {xs : List Int} (h : ISl w (fun _ => True) v xs) (b : Below w.heap.size w w') : ISl w' (fun _ => True) v xs := RSl.below intGood h b
/-- What a statement asks of heaps and roots: bounds. -/
theorem few_bounds {h : Hp} (hq : fewH h = true) : h.nodes.length ≤ 1000 ∧ ∀ x ∈ h.nodes, x.kids.length ≤ 1000 := by
  obtain ⟨h1, h2⟩ := few_fits hq
  exact ⟨by omega, fun x hx => by have := (h2 x hx).1; omega⟩
theorem coll_parts {h c : Hp} {roots l : List Int} (hc : collH h roots = some (c, l)) : ∃ S, collS h.nodes roots = some S ∧ chkH h = true ∧ c = ⟨S.map (moved h.nodes S), h.most⟩ ∧ l = outOf h.nodes S roots := by
  rw [collH] at hc
  split at hc
  · rename_i hk
    cases hS : collS h.nodes roots with
    | none => rw [hS] at hc; cases hc
    | some S => rw [hS] at hc; simp only [Option.map_some, Option.some.injEq, Prod.mk.injEq] at hc; exact ⟨S, rfl, hk, hc.1.symm, hc.2.symm⟩
  · cases hc
theorem coll_bounds {h c : Hp} {roots l : List Int} (hc : collH h roots = some (c, l)) (h1 : h.nodes.length ≤ 1000) (h2 : ∀ x ∈ h.nodes, x.kids.length ≤ 1000) : c.nodes.length ≤ h.nodes.length ∧ (∀ x ∈ c.nodes, x.kids.length ≤ 1000) ∧ l.length = roots.length ∧ ∀ x ∈ c.nodes, x.kind ≠ 6 := by
  obtain ⟨S, hS, _, rfl, rfl⟩ := coll_parts hc
  have c := col_of hS
  refine ⟨by simpa using fit_len c.fit, fun x hx => ?_, outOf_len _ _ _, fun x hx => ?_⟩
  · simp only [List.mem_map] at hx
    obtain ⟨q, hq, rfl⟩ := hx
    have := h2 _ (List.mem_of_getElem? (res_some (c.fit.2 q hq)).2.2.2.2.2)
    simpa [moved, outOf_len] using this
  · simp only [List.mem_map] at hx
    obtain ⟨q, hq, rfl⟩ := hx
    exact (res_some (c.fit.2 q hq)).2.2.2.2.1
theorem coll_again {h c : Hp} {roots l : List Int} (hc : collH h roots = some (c, l)) : collH c l = some (c, l) := by
  obtain ⟨S, hS, hk, rfl, rfl⟩ := coll_parts hc
  obtain ⟨h1, h2, h3⟩ := again hS
  rw [collH, nc_chk hk (col_of hS), if_pos rfl]
  simp only [h1, Option.map_some, h2, h3]
theorem live_coll {h c : Hp} {roots l : List Int} (hc : collH h roots = some (c, l)) : liveH h roots = c.nodes.length := by rw [liveH, hc]
theorem live_none {h : Hp} {roots : List Int} (hc : collH h roots = none) : liveH h roots = 0 := by rw [liveH, hc]
end Go.Proofs.Ytajhchfjoeblgaa
