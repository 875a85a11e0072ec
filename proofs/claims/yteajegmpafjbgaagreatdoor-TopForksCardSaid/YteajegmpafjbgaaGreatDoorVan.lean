/- A part of the proof of TopForks. -/
import Derived.Test.YteajegmpafjbgaaGreatDoorVam
set_option linter.all false
set_option maxRecDepth 1000000
set_option maxHeartbeats 80000000
noncomputable section
namespace Go.Vx
section
open Go
def ana(o:Option bF):Bool:=match o with|some v=>qX v.body|none=>true
def KT(a n:Nat):Bool:=Nat.rec true (λi ih=>ih&&ana (Tab.cf (a+i))) n
def zL{a:Nat}{v:bF}:∀{n i:Nat},KT a n=true->a<=i->i<a+n->Tab.cf i=some v->qX v.body=true
 |0,i,_,h1,h2,_=>by omega
 |n+1,i,h,h1,h2,hc=>by
  have h:(KT a n&&ana (Tab.cf (a+n)))=true:=h;rw[ah]at h;by_cases he:i=a+n
  .subst he;have h3:=h.2;rw[hc]at h3;exact h3
  .exact zL h.1 h1 (by omega) hc
def pu0:KT 0 130=true:=by decide +kernel
end
end Go.Vx
