/- A part of the proof of TopForks. -/
import Derived.Test.YteajegmpafjbgaaGreatDoorRows
import Derived.Deep.Slices
import Derived.OpenShut
import Derived.KernelRfl
import Derived.WalkKit
import Derived.ProofKit
set_option linter.all false
set_option maxRecDepth 1000000
set_option maxHeartbeats 80000000
noncomputable section
section
namespace Go.Proofs.YteajegmpafjbgaaGreatDoor.topForks
open Go.RowKit Go.ChangeShapes Go.WideShapes Go.Deep
theorem au8(b o k:Nat):(⟨b,o,none⟩:Addr).add k=⟨b,o+k,none⟩:=by
 unfold Addr.add
 split
 .rename_i h;subst h;rfl
 .rfl
def BytesIn(w:World)(v:Value):Prop:=v=.slice none 0 0\/∃b o cap,∃bs:List Nat,v=.slice (some ⟨b,o,none⟩) bs.length cap/\bs.length<=cap/\∀i n,bs[i]?=some n->n<256/\w.cell? ⟨b,o+i,none⟩=some (.int .u8 (.ofNat n))
theorem asE{P:Program}{w:World}{r:Reach}{b0:Nat}{t e:TypeId}{a:Addr}{len cap:Nat}(ht:P.underlying t=some (.slice e))(hv:Value.okWide P w r b0 t (.slice (some a) len cap)):a.spot=none:=by
 unfold Value.okWide at hv;rw[ht]at hv;have hv:Cell.okWide P w r b0 t (.slice (some a) len cap):=hv;unfold Cell.okWide at hv;rw[ht]at hv;have hv:Cell.ok P w r b0 t (.slice (some a) len cap):=hv;unfold Cell.ok at hv;rw[ht]at hv;exact hv.2.2.2.1
theorem abB{H:Type}{enc:TypeId×Value->H}{w:World}{base:Nat}{spare:Nat->Bool}{held:Bool}{r:Reach}{b0:Nat}{v:Value}{d:DataW H}{p:List MemPlace}(hv:Value.okWide Tryz.prog w r b0 22 v)(h:DataW.Trod enc Tryz.prog w base spare held 22 v d p):BytesIn w v:=by
 obtain⟨a0,len,cap,rfl⟩:=okWide_slice Tryz.underlying22 hv;obtain⟨fuel,hf⟩:=h;rcases open_slice1 Tryz.underlying22 (by kernel_rfl) hf with⟨h1,_⟩|⟨a,l2,c2,m,n,V,D,Pl,h1,hb,hl,hm,hmm,_,hx⟩
 .cases h1;exact .inl rfl
 .cases h1;have hsp:=asE Tryz.underlying22 hv;have hlm:len<=m:=by rw[hmm];split<;>omega
  obtain⟨b,o,s⟩:=a;cases hsp;obtain⟨X,hX⟩:=choose_lt (α:=Nat) (n:=len) (p:=λi x=>x<256/\w.cell? ⟨b,o+i,none⟩=some (.int .u8 (.ofNat x))) (λi hi=>by
   obtain⟨k1,k2⟩:=hx i (by omega);obtain⟨z,e,_,hw⟩:=DataW.trod_int Tryz.underlying5 k2;obtain⟨z0,z1⟩:=bounds_u8 hw;have e':V i=.int .u8 z:=by simpa using e
   obtain⟨q,rfl⟩:=Int.eq_ofNat_of_zero_le z0;rw[au8,e']at k1;exact⟨q,by omega,k1⟩)
  have hlen:((List.range len).map X).length=len:=by simp
  refine .inr ⟨b,o,cap,(List.range len).map X,by rw[hlen],by rw[hlen];exact hl,λi n hn=>?_⟩;have hi:i<len:=by have:=(List.getElem?_eq_some_iff.1 hn).1;rwa[hlen]at this
  have:n=X i:=by simpa[hi]using hn.symm
  subst this;exact hX i hi
end Go.Proofs.YteajegmpafjbgaaGreatDoor.topForks
end
