/- What came in, opened: bytes. -/
import Derived.Test.YtajhchfjoeblgaaOpenH
import Derived.Test.YtajhchfjoeblgaaGcN
namespace Go.Proofs.Ytajhchfjoeblgaa
open Go.RowKit Go.ChangeShapes Go.WideShapes Go.Deep
section
variable {H : Type} {enc : TypeId × Value → H} {w : World} {base : Nat} {spare : Nat → Bool} {held : Bool}
theorem byte_of_trod (n : Nat) (cs : List Value) (y : DataW H × List MemPlace) (h : DataW.trod enc Try.prog w base spare held n 5 cs = some y) : ∃ x, ByteE w (fun _ => True) x cs := by
  obtain ⟨z, rfl, _, hw⟩ := DataW.trod_int Try.underlying5 h
  simp [Lit.wf, IntKind.min, IntKind.max, IntKind.signed, IntKind.bits] at hw
  exact ⟨z.toNat, by rw [show ((z.toNat : Nat) : Int) = z by omega], by omega⟩
theorem bytes_open {r : Reach} {b0 : Nat} {v : Value} {d : DataW H} {p : List MemPlace} (hv : Value.okWide Try.prog w r b0 35 v) (h : DataW.Trod enc Try.prog w base spare held 35 v d p) : ∃ xs, BSl w (fun _ => True) v xs := by
  obtain ⟨a, n, c, rfl⟩ := okWide_slice Try.underlying35 hv
  obtain ⟨fuel, hf⟩ := h
  obtain ⟨v, xs, he, hs⟩ := rsl_of_trod (R := ByteE) (size := 1) (by decide) Try.underlying35 (by kernel_rfl) (fun n cs y h _ => byte_of_trod n cs y h) hf
  cases he
  exact ⟨xs, hs⟩
end
end Go.Proofs.Ytajhchfjoeblgaa
