/- What came in, opened: a node, a heap. -/
import Derived.Test.YtajhchfjoeblgaaOpenG
import Derived.Test.YtajhchfjoeblgaaHeapB
import Derived.Lib.SmallJoins
namespace Go.Proofs.Ytajhchfjoeblgaa
open Go.RowKit Go.ChangeShapes Go.WideShapes Go.Deep Go.Joins
section
variable {H : Type} {enc : TypeId × Value → H} {w : World} {base : Nat} {spare : Nat → Bool} {held : Bool}
theorem node_of_trod (n : Nat) (cs : List Value) (y : DataW H × List MemPlace) (h : DataW.trod enc Try.prog w base spare held n 37 cs = some y) (hl : cs.length = 4) : ∃ x, NodeE w (fun _ => True) x cs := by
  obtain ⟨ys, k, _, _, _, hyl, hf⟩ := DataW.trod_struct Try.underlying37 h
  have hfl : ys.length = 4 := hyl
  match cs, hl, ys, hfl with
  | [c0, c1, c2, c3], _, [y0, y1, y2, y3], _ =>
    have f0 : DataW.trod enc Try.prog w base spare held k 3 (([c0, c1, c2, c3].drop 0).take (Try.prog.cellsOf 3)) = some y0 := hf 0 _ rfl
    have f1 : DataW.trod enc Try.prog w base spare held k 3 (([c0, c1, c2, c3].drop 1).take (Try.prog.cellsOf 3)) = some y1 := hf 1 _ rfl
    have f2 : DataW.trod enc Try.prog w base spare held k 9 (([c0, c1, c2, c3].drop 2).take (Try.prog.cellsOf 9)) = some y2 := hf 2 _ rfl
    have f3 : DataW.trod enc Try.prog w base spare held k 25 (([c0, c1, c2, c3].drop 3).take (Try.prog.cellsOf 25)) = some y3 := hf 3 _ rfl
    rw [show Try.prog.cellsOf 3 = 1 from by kernel_rfl] at f0 f1
    rw [show Try.prog.cellsOf 9 = 1 from by kernel_rfl] at f2
    rw [show Try.prog.cellsOf 25 = 1 from by kernel_rfl] at f3
    obtain ⟨z0, hz0, _, hw0⟩ := DataW.trod_int Try.underlying3 f0
    obtain ⟨z1, hz1, _, hw1⟩ := DataW.trod_int Try.underlying3 f1
    obtain ⟨s2, hs2, _⟩ := DataW.trod_string Try.underlying9 f2
    obtain ⟨v, xs, he, hs⟩ := ints_of_trod Try.underlying25 (by kernel_rfl) Try.underlying3 f3
    simp at hz0 hz1 hs2 he
    subst hz0; subst hz1; subst hs2; subst he
    exact ⟨⟨z0, z1, s2, xs⟩, c3, rfl, bounds_i64 hw0, bounds_i64 hw1, hs⟩
theorem nodes_of_trod {fuel : Nat} {cs : List Value} {y : DataW H × List MemPlace} (h : DataW.trod enc Try.prog w base spare held fuel 22 cs = some y) : ∃ v xs, cs = [v] ∧ NSl w (fun _ => True) v xs :=
  rsl_of_trod (R := NodeE) (by decide) Try.underlying22 (by kernel_rfl) node_of_trod h
theorem node_open {r : Reach} {b0 : Nat} {v : Value} {d : DataW H} {p : List MemPlace} (hv : Value.okWide Try.prog w r b0 37 v) (h : DataW.Trod enc Try.prog w base spare held 37 v d p) : ∃ x, NVal w (fun _ => True) v x := by
  obtain ⟨cs, rfl, hsz⟩ := okWide_struct Try.underlying37 hv
  obtain ⟨fuel, hf⟩ := h
  have hc : (Value.agg cs).cells.toList = cs.toList := by simp [Value.cells]
  rw [hc] at hf
  have hs4 : cs.toList.length = 4 := by
    have h4 : Try.prog.cellsOf 37 = 4 := by kernel_rfl
    simp [hsz, h4]
  obtain ⟨x, sv, hr, hi, hj, hs⟩ := node_of_trod _ _ _ hf hs4
  obtain ⟨sa, sc, rfl, _⟩ := hs.shape
  have : cs = #[.int .i64 x.kind, .int .i64 x.num, .string x.name, .slice sa x.kids.length sc] := by apply Array.toList_inj.1; exact hr
  exact ⟨x, sa, sc, by rw [this], hi, hj, hs⟩
theorem heap_open {r : Reach} {b0 : Nat} {v : Value} {d : DataW H} {p : List MemPlace} (hv : Value.okWide Try.prog w r b0 24 v) (h : DataW.Trod enc Try.prog w base spare held 24 v d p) : ∃ x, HVal w (fun _ => True) v x := by
  obtain ⟨cs, rfl, hsz⟩ := okWide_struct Try.underlying24 hv
  obtain ⟨fuel, hf⟩ := h
  have hc : (Value.agg cs).cells.toList = cs.toList := by simp [Value.cells]
  rw [hc] at hf
  have hs2 : cs.toList.length = 2 := by
    have h2 : Try.prog.cellsOf 24 = 2 := by kernel_rfl
    simp [hsz, h2]
  obtain ⟨ys, k, _, _, _, hyl, hg⟩ := DataW.trod_struct Try.underlying24 hf
  have hfl : ys.length = 2 := hyl
  obtain ⟨l⟩ := cs
  match l, hs2, ys, hfl with
  | [c0, c1], _, [y0, y1], _ =>
    have f0 : DataW.trod enc Try.prog w base spare held k 22 (([c0, c1].drop 0).take (Try.prog.cellsOf 22)) = some y0 := hg 0 _ rfl
    have f1 : DataW.trod enc Try.prog w base spare held k 3 (([c0, c1].drop 1).take (Try.prog.cellsOf 3)) = some y1 := hg 1 _ rfl
    rw [show Try.prog.cellsOf 22 = 1 from by kernel_rfl] at f0
    rw [show Try.prog.cellsOf 3 = 1 from by kernel_rfl] at f1
    obtain ⟨v, xs, he, hs⟩ := nodes_of_trod f0
    obtain ⟨z, hz, _, hw⟩ := DataW.trod_int Try.underlying3 f1
    simp at hz he
    subst hz; subst he
    obtain ⟨sa, sc, rfl, _⟩ := hs.shape
    exact ⟨⟨xs, z⟩, sa, sc, rfl, bounds_i64 hw, hs⟩
end
end Go.Proofs.Ytajhchfjoeblgaa
