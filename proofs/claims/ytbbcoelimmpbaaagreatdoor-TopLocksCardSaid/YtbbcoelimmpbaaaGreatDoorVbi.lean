/- A part of the proof of TopLocks. -/
import Derived.Test.YtbbcoelimmpbaaaGreatDoorVax
set_option linter.all false
set_option linter.unusedVariables false
set_option linter.unusedSimpArgs false
set_option maxRecDepth 1000000
noncomputable section
namespace Go.Vx
section
open Go Go.RowKit
noncomputable section
def VJ:Nat→List (List Bool)
 |0=>[[]]
 |n+1=>[]::((VJ n).map (List.cons true)++(VJ n).map (List.cons false))
theorem Tv:∀ (m:Nat) (bs:List Bool),bs.length≤m→bs∈VJ m
 |0,bs,h=>by
  have:bs=[]:=List.length_eq_zero_iff.1 (by omega)
  subst this;simp [VJ]
 |m+1,[],_=>by simp [VJ]
 |m+1,b::bs,h=>by
  have h1:=Tv m bs (by simpa using h)
  simp only [VJ,List.mem_cons,List.mem_append,List.mem_map]
  cases b with
  |true=>exact .inr (.inl ⟨bs,h1,rfl⟩)
  |false=>exact .inr (.inr ⟨bs,h1,rfl⟩)
def axU (l:List Nat):Bool:=match l with|[]=>true|_=>false
def Ie:List (List Bool)→Bool
 |[]=>true
 |bs::r=>(axU (runs bs 0)||Hu bs false)&&Ie r
theorem IL:∀ {l:List (List Bool)},Ie l=true→∀ bs∈l,runs bs 0≠[]→Hu bs false=true
 |[],_,bs,h,_=>by simp at h
 |b::l,h,bs,hm,hr=>by
  simp only [Ie,au,gu] at h
  rcases List.mem_cons.1 hm with rfl|hm
  ·rcases h.1 with h1|h1
   ·cases hq:runs bs 0 with
    |nil=>exact absurd hq hr
    |cons a r=>rw [hq] at h1;cases h1
   ·exact h1
  ·exact IL h.2 bs hm hr
theorem Dk:Hu [true] true=true:=by decide +kernel
theorem aAo:Ie (VJ 5)=true:=by decide +kernel
theorem ad7 (bs:List Bool) (hl:bs.length≤5) (hr:runs bs 0≠[]):Hu bs false=true:=IL aAo bs (Tv 5 bs hl) hr
end
end
end Go.Vx
