/- A region that draws its order: an operation that is not wanted, a call too. -/
import Derived.Test.YtajhchfjoeblgaaHeldB
namespace Go.Proofs.Ytajhchfjoeblgaa
section
variable {F : Fence} {n : Nat} {P : Program} {ops : Array Oper} {Q : Exit → Act → World → Prop} {md : Region.Mode} {S : World → Prop}
theorem wpAnyHF_off {i : Nat} {o : Oper} (d : Tmp) {fuel : Nat} {listed : Array Bool} {a : Act} {w : World} (hr : Region.ready md ops listed = [i]) (hi : ops[i]? = some o) (hd : o.dst = some d) (hg : Region.wanted o (yielded ops a.tmps) = false) (hF : ∀ f, F.fn f) (hS : S w)
    (h : wpAnyHF F n P md ops Q S fuel (listed.setIfInBounds i true) (a.put (some d) undef) w) : wpAnyHF F n P md ops Q S (fuel + 1) listed a w :=
  ⟨(fun h0 => by rw [hr] at h0; cases h0), fun j hj => by
    rw [hr] at hj; simp at hj; subst hj
    unfold wpOpIn; rw [hi]; simp only [hg, Bool.false_eq_true, if_false]; exact ⟨fun f _ => hF f, hS, by rw [hd]; exact h⟩⟩
end
end Go.Proofs.Ytajhchfjoeblgaa
