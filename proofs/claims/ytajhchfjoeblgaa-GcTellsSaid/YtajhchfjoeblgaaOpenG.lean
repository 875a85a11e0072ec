/- What came in, opened: a slice that reads so is a list; of numbers. -/
import Derived.Test.YtajhchfjoeblgaaInts
import Derived.Deep.Slices
import Derived.OpenShut
import Derived.KernelRfl
namespace Go.Proofs.Ytajhchfjoeblgaa
open Go.RowKit Go.ChangeShapes Go.WideShapes Go.Deep
section
variable {H : Type} {enc : TypeId × Value → H} {w : World} {base : Nat} {spare : Nat → Bool} {held : Bool}
theorem addr_at {a : Addr} (h : a.spot = none) (k : Nat) : a.add k = ⟨a.block, a.off + k, none⟩ := by
  obtain ⟨b, o, s⟩ := a
  cases h
  unfold Addr.add
  split
  · rename_i h; subst h; rfl
  · rfl
theorem spot_none {a : Addr} {v : Value} (h : w.cell? a = some v) : a.spot = none := by
  unfold World.cell? at h
  split at h
  · split at h
    · cases h
    · rename_i h'; simpa using h'
  · cases h
/-- A slice of whatever elements. -/
theorem rsl_of_trod {α : Type} [Inhabited α] {R : Enc α} {size : Nat} {t e : TypeId} (hz : 0 < size) (ht : Try.prog.underlying t = some (.slice e)) (hc : Try.prog.cellsOf e = size)
    (hel : ∀ n cs y, DataW.trod enc Try.prog w base spare held n e cs = some y → cs.length = size → ∃ x, R w (fun _ => True) x cs) {fuel : Nat} {cs : List Value} {y : DataW H × List MemPlace} (h : DataW.trod enc Try.prog w base spare held fuel t cs = some y) :
    ∃ v xs, cs = [v] ∧ RSl R size w (fun _ => True) v xs := by
  rcases open_slice ht h with ⟨rfl, _⟩ | ⟨a, len, cap, m, n, D, Pl, rfl, hb, hl, hm, hmm, rfl, hx⟩
  · exact ⟨_, [], rfl, RSl.nil _ _ _ _⟩
  · have hlm : len ≤ m := by rw [hmm]; split <;> omega
    rw [hc] at hx
    obtain ⟨X, hX⟩ := choose_lt (α := α) (n := len) (p := fun i x => ∃ cs', w.cells? base (a.add (i * size)) size = some cs' ∧ R w (fun _ => True) x cs') (fun i hi => by
      obtain ⟨cs', h1, h2⟩ := hx i (by omega)
      obtain ⟨x, hx⟩ := hel _ _ _ h2 (World.cells?_some h1).2.1
      exact ⟨x, cs', h1, hx⟩)
    have hlen : ((List.range len).map X).length = len := by simp
    refine ⟨_, (List.range len).map X, rfl, some a, cap, by rw [hlen], by rw [hlen]; exact hl, hm, (fun h => by cases h), fun hp => ?_⟩
    rw [hlen] at hp
    have hsp : a.spot = none := by
      obtain ⟨cs', h1, _⟩ := hX 0 hp
      obtain ⟨_, hl', hcell⟩ := World.cells?_some h1
      have h0 := hcell 0 hz
      rw [Nat.zero_mul, show (a.add 0).add 0 = a by simp [Addr.add]] at h0
      cases hv : cs'[0]? with
      | none => rw [List.getElem?_eq_none_iff] at hv; omega
      | some v => rw [hv] at h0; exact spot_none h0
    refine ⟨a.block, a.off, by obtain ⟨b, o, s⟩ := a; cases hsp; rfl, trivial, fun i hi => ?_⟩
    rw [hlen] at hi
    obtain ⟨cs', h1, h2⟩ := hX i hi
    obtain ⟨_, hl', hcell⟩ := World.cells?_some h1
    refine ⟨cs', by simpa using h2, fun j u hj => ?_⟩
    have hjs : j < size := by rw [← hl']; exact (List.getElem?_eq_some_iff.1 hj).1
    have := hcell j hjs
    rw [hj, add_add, addr_at hsp] at this
    rw [← this, Nat.add_assoc]
theorem int_of_trod {e : TypeId} (he : Try.prog.underlying e = some (.int .i64)) (n : Nat) (cs : List Value) (y : DataW H × List MemPlace) (h : DataW.trod enc Try.prog w base spare held n e cs = some y) : ∃ x, IntE w (fun _ => True) x cs := by
  obtain ⟨z, rfl, _, hw⟩ := DataW.trod_int he h
  exact ⟨z, rfl, bounds_i64 hw⟩
theorem ints_of_trod {t e : TypeId} (ht : Try.prog.underlying t = some (.slice e)) (hc : Try.prog.cellsOf e = 1) (he : Try.prog.underlying e = some (.int .i64)) {fuel : Nat} {cs : List Value} {y : DataW H × List MemPlace} (h : DataW.trod enc Try.prog w base spare held fuel t cs = some y) :
    ∃ v xs, cs = [v] ∧ ISl w (fun _ => True) v xs := rsl_of_trod (by decide) ht hc (fun n cs y h _ => int_of_trod he n cs y h) h
theorem ints_open {r : Reach} {b0 : Nat} {v : Value} {d : DataW H} {p : List MemPlace} (hv : Value.okWide Try.prog w r b0 25 v) (h : DataW.Trod enc Try.prog w base spare held 25 v d p) : ∃ xs, ISl w (fun _ => True) v xs := by
  obtain ⟨a, n, c, rfl⟩ := okWide_slice Try.underlying25 hv
  obtain ⟨fuel, hf⟩ := h
  obtain ⟨v, xs, he, hs⟩ := ints_of_trod Try.underlying25 (by kernel_rfl) Try.underlying3 hf
  cases he
  exact ⟨xs, hs⟩
end
end Go.Proofs.Ytajhchfjoeblgaa
