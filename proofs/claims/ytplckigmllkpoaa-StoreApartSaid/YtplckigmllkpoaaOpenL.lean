/- What came in, opened: a log. -/
import Derived.Test.YtplckigmllkpoaaOpenG
import Derived.Test.YtplckigmllkpoaaTlA
import Derived.Lib.SmallJoins
namespace Go.Proofs.Ytplckigmllkpoaa
open Go.RowKit Go.ChangeShapes Go.WideShapes Go.Deep Go.Joins
section
variable {H : Type} {enc : TypeId × Value → H} {w : World} {base : Nat} {spare : Nat → Bool} {held : Bool}
theorem write_of_trod (n : Nat) (cs : List Value) (y : DataW H × List MemPlace) (h : DataW.trod enc Try.prog w base spare held n 63 cs = some y) (hl : cs.length = 2) : ∃ x, PairE w (fun _ => True) x cs := by
  obtain ⟨ys, k, _, _, _, hyl, hf⟩ := DataW.trod_struct Try.underlying63 h
  have hfl : ys.length = 2 := hyl
  match cs, hl, ys, hfl with
  | [c0, c1], _, [y0, y1], _ =>
    have f0 : DataW.trod enc Try.prog w base spare held k 3 (([c0, c1].drop 0).take (Try.prog.cellsOf 3)) = some y0 := hf 0 _ rfl
    have f1 : DataW.trod enc Try.prog w base spare held k 3 (([c0, c1].drop 1).take (Try.prog.cellsOf 3)) = some y1 := hf 1 _ rfl
    rw [show Try.prog.cellsOf 3 = 1 from by kernel_rfl] at f0 f1
    obtain ⟨z0, hz0, _, hw0⟩ := DataW.trod_int Try.underlying3 f0
    obtain ⟨z1, hz1, _, hw1⟩ := DataW.trod_int Try.underlying3 f1
    simp at hz0 hz1
    subst hz0; subst hz1
    exact ⟨(z0, z1), rfl, bounds_i64 hw0, bounds_i64 hw1⟩
theorem read_of_trod (n : Nat) (cs : List Value) (y : DataW H × List MemPlace) (h : DataW.trod enc Try.prog w base spare held n 48 cs = some y) (hl : cs.length = 2) : ∃ x, PairE w (fun _ => True) x cs := by
  obtain ⟨ys, k, _, _, _, hyl, hf⟩ := DataW.trod_struct Try.underlying48 h
  have hfl : ys.length = 2 := hyl
  match cs, hl, ys, hfl with
  | [c0, c1], _, [y0, y1], _ =>
    have f0 : DataW.trod enc Try.prog w base spare held k 3 (([c0, c1].drop 0).take (Try.prog.cellsOf 3)) = some y0 := hf 0 _ rfl
    have f1 : DataW.trod enc Try.prog w base spare held k 3 (([c0, c1].drop 1).take (Try.prog.cellsOf 3)) = some y1 := hf 1 _ rfl
    rw [show Try.prog.cellsOf 3 = 1 from by kernel_rfl] at f0 f1
    obtain ⟨z0, hz0, _, hw0⟩ := DataW.trod_int Try.underlying3 f0
    obtain ⟨z1, hz1, _, hw1⟩ := DataW.trod_int Try.underlying3 f1
    simp at hz0 hz1
    subst hz0; subst hz1
    exact ⟨(z0, z1), rfl, bounds_i64 hw0, bounds_i64 hw1⟩
theorem writes_of_trod {fuel : Nat} {cs : List Value} {y : DataW H × List MemPlace} (h : DataW.trod enc Try.prog w base spare held fuel 54 cs = some y) : ∃ v xs, cs = [v] ∧ PSl w (fun _ => True) v xs :=
  rsl_of_trod (R := PairE) (by decide) Try.underlying54 (by kernel_rfl) write_of_trod h
theorem reads_of_trod {fuel : Nat} {cs : List Value} {y : DataW H × List MemPlace} (h : DataW.trod enc Try.prog w base spare held fuel 25 cs = some y) : ∃ v xs, cs = [v] ∧ PSl w (fun _ => True) v xs :=
  rsl_of_trod (R := PairE) (by decide) Try.underlying25 (by kernel_rfl) read_of_trod h
theorem levels_of_trod {fuel : Nat} {cs : List Value} {y : DataW H × List MemPlace} (h : DataW.trod enc Try.prog w base spare held fuel 26 cs = some y) : ∃ v xs, cs = [v] ∧ LSl w (fun _ => True) v xs :=
  rsl_of_trod (R := LevE) (by decide) Try.underlying26 (by kernel_rfl) (fun n cs y h _ => by
    obtain ⟨v, xs, he, hs⟩ := writes_of_trod h
    exact ⟨xs, v, he, hs⟩) h
theorem writes_open {r : Reach} {b0 : Nat} {v : Value} {d : DataW H} {p : List MemPlace} (hv : Value.okWide Try.prog w r b0 54 v) (h : DataW.Trod enc Try.prog w base spare held 54 v d p) : ∃ xs, PSl w (fun _ => True) v xs := by
  obtain ⟨a, n, c, rfl⟩ := okWide_slice Try.underlying54 hv
  obtain ⟨fuel, hf⟩ := h
  obtain ⟨v, xs, he, hs⟩ := writes_of_trod hf
  cases he
  exact ⟨xs, hs⟩
theorem reads_open {r : Reach} {b0 : Nat} {v : Value} {d : DataW H} {p : List MemPlace} (hv : Value.okWide Try.prog w r b0 25 v) (h : DataW.Trod enc Try.prog w base spare held 25 v d p) : ∃ xs, PSl w (fun _ => True) v xs := by
  obtain ⟨a, n, c, rfl⟩ := okWide_slice Try.underlying25 hv
  obtain ⟨fuel, hf⟩ := h
  obtain ⟨v, xs, he, hs⟩ := reads_of_trod hf
  cases he
  exact ⟨xs, hs⟩
theorem log_open {r : Reach} {b0 : Nat} {v : Value} {d : DataW H} {p : List MemPlace} (hv : Value.okWide Try.prog w r b0 28 v) (h : DataW.Trod enc Try.prog w base spare held 28 v d p) : ∃ x, GVal w (fun _ => True) v x := by
  obtain ⟨cs, rfl, hsz⟩ := okWide_struct Try.underlying28 hv
  obtain ⟨fuel, hf⟩ := h
  have hc : (Value.agg cs).cells.toList = cs.toList := by simp [Value.cells]
  rw [hc] at hf
  have hs2 : cs.toList.length = 2 := by
    have h2 : Try.prog.cellsOf 28 = 2 := by kernel_rfl
    simp [hsz, h2]
  obtain ⟨ys, k, _, _, _, hyl, hg⟩ := DataW.trod_struct Try.underlying28 hf
  have hfl : ys.length = 2 := hyl
  obtain ⟨l⟩ := cs
  match l, hs2, ys, hfl with
  | [c0, c1], _, [y0, y1], _ =>
    have f0 : DataW.trod enc Try.prog w base spare held k 25 (([c0, c1].drop 0).take (Try.prog.cellsOf 25)) = some y0 := hg 0 _ rfl
    have f1 : DataW.trod enc Try.prog w base spare held k 26 (([c0, c1].drop 1).take (Try.prog.cellsOf 26)) = some y1 := hg 1 _ rfl
    rw [show Try.prog.cellsOf 25 = 1 from by kernel_rfl] at f0
    rw [show Try.prog.cellsOf 26 = 1 from by kernel_rfl] at f1
    obtain ⟨v, xs, he, hs⟩ := reads_of_trod f0
    obtain ⟨v', xs', he', hs'⟩ := levels_of_trod f1
    simp at he he'
    subst he; subst he'
    obtain ⟨ra, rc, rfl, _⟩ := hs.shape
    obtain ⟨la, lc, rfl, _⟩ := hs'.shape
    exact ⟨⟨xs, xs'⟩, ra, rc, la, lc, rfl, hs, hs'⟩
end
end Go.Proofs.Ytplckigmllkpoaa
