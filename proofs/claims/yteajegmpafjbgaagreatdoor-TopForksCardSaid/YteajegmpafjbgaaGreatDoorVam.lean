/- A part of the proof of TopForks. -/
import Derived.Test.YteajegmpafjbgaaGreatDoorVal
set_option linter.all false
set_option maxRecDepth 1000000
set_option maxHeartbeats 80000000
noncomputable section
namespace Go.Vx
section
open Go Go.RowKit
variable {mm:eF}
def ab6{m k n a b:Int}{nm:List Nat}{L:Nat}{ks:V}(hk:Kids m L ks) :
  ∃h2,qo (.tuple [.agg [.int .i64 k,.int .i64 n,.str nm,mG ks],.int .i64 a,.int .i64 b]) (BR ks)=(.tuple [nd k n nm (dU ks),.int .i64 a,.int .i64 b],h2):=by
 have hg:∀x xs e,ks=.list (x::xs) e->(BR ks).get 0=some (.cells (x::xs)):=by
  intro x xs e hx;subst hx;rfl
 generalize BR ks=H0 at hg|-;cases hk with
 |nil=>exact⟨H0,by simp[nd,mG,dU,qo,dF,kQ]⟩
 |k0=>exact⟨H0,by simp[nd,mG,dU,qo,dF,kQ]⟩
 |_ =>
  have e:=hg _ _ _ rfl;refine⟨H0.del 0,?_⟩;simp[nd,mG,dU,qo,dF,kQ,e,chunk,takeN,skip,elemOf]
def sub_one{a:Nat}(h:Nat.ble 1 a=true):Int.sub (.ofNat a) (.ofNat 1)=.ofNat (a-1):=by
 have:1<=a:=by simpa using h
 show(a:Int)-1=((a-1:Nat):Int);omega
def apE{ns rest:List V}{e:Bool}{most k n:Int}{i:Nat}{nm:List Nat}{L:Nat}{ks:V}{m:Int}(h0:mm 88=none)(h1:mm 199=none)(h2:mm 184=none)
  (hk:Kids m L ks) (hl:ns.length<=100000) (hi:Nat.ble (i+1) ns.length=true) (hs:skip i ns=nd k n nm ks::rest) (h6:sK k (Int.ofNat 6)=false) (N:Nat) :
  ∃h2,runM mm Tab.fns (N+200) (.call 88 [.agg [.list ns e,.int .i64 most],.int .i64 (Int.ofNat i)]) [] [] emp=.val (.tuple [nd k n nm (dU ks),.int .i64 (Int.ofNat i),.int .i64 (Int.ofNat 0)]) h2:=by
 obtain⟨hz,ez⟩:=ab6 (k:=k) (n:=n) (nm:=nm) (a:=Int.ofNat i) (b:=Int.ofNat 0) hk;refine⟨hz,?_⟩;rw[bn (by simp[ay,h0]) (show Tab.fns 88=some Tab.abb from rfl) rfl];have hown:=λN=>NV (k:=k) (n:=n) (nm:=nm) h1 h2 hk N;have hL:wo ks=false:=by cases hk<;>rfl
 have hV:isVal (mG ks)=true:=by cases hk<;>rfl
 have hC:(mG ks).cells=[mG ks]:=by cases hk<;>rfl
 have hO:qW (mG ks)=true:=by cases hk<;>rfl
 have hO1:qW ks=true:=by cases hk<;>rfl
 clear hk;generalize mG ks=X at *;generalize BR ks=Y at *;generalize dU ks=Z at *;unfold nd at *;generalize hlen:ns.length=len at *;simp -implicitDefEqProofs only[Tab.abb,WW,aS,aZ,aK,pad,aC.ev,aC.evs,fJ,bG,aF,dA,eP,bH,splice,bC,takeN,skip,bf,bK,Nat.reduceAdd,Nat.beq,Nat.blt,Nat.ble,finish,resV,dI,mk,cO,dD,eH,eqK,nH,fU,gX,jU,OR.eU,hown,hO,hO1,hs,h6,hi,hlen,ez]
def apF{ns rest:List V}{e:Bool}{most k n:Int}{i:Nat}{nm:List Nat}{L:Nat}{ks:V}{m:Int}{n0:Int}{nm0:List Nat}{e0:Bool}{j0:Nat}{r0:List V}(h0:mm 88=none)(h1:mm 199=none)(h2:mm 184=none)
  (hk:Kids m L ks) (hl:ns.length<=100000) (hi:Nat.ble (i+1) ns.length=true) (hs:skip i ns=nd k n nm ks::rest) (h6:sK k (Int.ofNat 6)=false) (hi0:Nat.ble (j0+1) ns.length=true) (hs0:skip j0 ns=nd 6 n0 nm0 (.list [.int .i64 (Int.ofNat i)] e0)::r0) (hlen1:Nat.ble 2 ns.length=true) (N:Nat) :
  ∃h2,runM mm Tab.fns (N+400) (.call 88 [.agg [.list ns e,.int .i64 most],.int .i64 (Int.ofNat j0)]) [] [] emp=.val (.tuple [nd k n nm (dU ks),.int .i64 (Int.ofNat i),.int .i64 (Int.ofNat 0)]) h2:=by
 obtain⟨hz,ez⟩:=ab6 (k:=k) (n:=n) (nm:=nm) (a:=Int.ofNat i) (b:=Int.ofNat 0) hk;refine⟨hz,?_⟩;rw[bn (by simp[ay,h0]) (show Tab.fns 88=some Tab.abb from rfl) rfl];have hown:=λN=>NV (k:=k) (n:=n) (nm:=nm) h1 h2 hk N;have hL:wo ks=false:=by cases hk<;>rfl
 have hV:isVal (mG ks)=true:=by cases hk<;>rfl
 have hC:(mG ks).cells=[mG ks]:=by cases hk<;>rfl
 have hO:qW (mG ks)=true:=by cases hk<;>rfl
 have hO1:qW ks=true:=by cases hk<;>rfl
 clear hk;generalize mG ks=X at *;generalize BR ks=Y at *;generalize dU ks=Z at *;unfold nd at *;generalize hlen:ns.length=len at *;have l1:Nat.ble 1 len=true:=by simp at hlen1|-;omega
 have l2:Nat.ble 1 (len-1)=true:=by simp at hlen1|-;omega
 have w1:Nat.ble (len-1) 9223372036854775807=true:=by simp;omega
 have w2:Nat.ble (len-1-1) 9223372036854775807=true:=by simp;omega
 simp -implicitDefEqProofs only[Tab.abb,WW,aS,aZ,aK,pad,aC.ev,aC.evs,fJ,bG,aF,dA,eP,bH,splice,bC,takeN,skip,bf,bK,Nat.reduceAdd,Nat.beq,Nat.blt,Nat.ble,finish,resV,dI,mk,cO,dD,mV,eH,eqK,nH,fU,gX,jU,OR.eU,findLabel,hown,hO,hO1,hs,h6,hi,hlen,ez,hi0,hs0,l1,sub_one,w1]
def apG{ns rest:List V}{e:Bool}{most k n:Int}{i:Nat}{nm:List Nat}{L:Nat}{ks:V}{m:Int}{n0:Int}{nm0:List Nat}{e0:Bool}{j0:Nat}{r0:List V}{n1:Int}{nm1:List Nat}{e1:Bool}{j1:Nat}{r1:List V}(h0:mm 88=none)(h1:mm 199=none)(h2:mm 184=none)
  (hk:Kids m L ks) (hl:ns.length<=100000) (hi:Nat.ble (i+1) ns.length=true) (hs:skip i ns=nd k n nm ks::rest) (h6:sK k (Int.ofNat 6)=false) (hi0:Nat.ble (j0+1) ns.length=true) (hs0:skip j0 ns=nd 6 n0 nm0 (.list [.int .i64 (Int.ofNat j1)] e0)::r0) (hi1:Nat.ble (j1+1) ns.length=true) (hs1:skip j1 ns=nd 6 n1 nm1 (.list [.int .i64 (Int.ofNat i)] e1)::r1) (hlen1:Nat.ble 2 ns.length=true) (N:Nat) :
  ∃h2,runM mm Tab.fns (N+400) (.call 88 [.agg [.list ns e,.int .i64 most],.int .i64 (Int.ofNat j0)]) [] [] emp=.val (.tuple [nd k n nm (dU ks),.int .i64 (Int.ofNat i),.int .i64 (Int.ofNat 0)]) h2:=by
 obtain⟨hz,ez⟩:=ab6 (k:=k) (n:=n) (nm:=nm) (a:=Int.ofNat i) (b:=Int.ofNat 0) hk;refine⟨hz,?_⟩;rw[bn (by simp[ay,h0]) (show Tab.fns 88=some Tab.abb from rfl) rfl];have hown:=λN=>NV (k:=k) (n:=n) (nm:=nm) h1 h2 hk N;have hL:wo ks=false:=by cases hk<;>rfl
 have hV:isVal (mG ks)=true:=by cases hk<;>rfl
 have hC:(mG ks).cells=[mG ks]:=by cases hk<;>rfl
 have hO:qW (mG ks)=true:=by cases hk<;>rfl
 have hO1:qW ks=true:=by cases hk<;>rfl
 clear hk;generalize mG ks=X at *;generalize BR ks=Y at *;generalize dU ks=Z at *;unfold nd at *;generalize hlen:ns.length=len at *;have l1:Nat.ble 1 len=true:=by simp at hlen1|-;omega
 have l2:Nat.ble 1 (len-1)=true:=by simp at hlen1|-;omega
 have w1:Nat.ble (len-1) 9223372036854775807=true:=by simp;omega
 have w2:Nat.ble (len-1-1) 9223372036854775807=true:=by simp;omega
 simp -implicitDefEqProofs only[Tab.abb,WW,aS,aZ,aK,pad,aC.ev,aC.evs,fJ,bG,aF,dA,eP,bH,splice,bC,takeN,skip,bf,bK,Nat.reduceAdd,Nat.beq,Nat.blt,Nat.ble,finish,resV,dI,mk,cO,dD,mV,eH,eqK,nH,fU,gX,jU,OR.eU,findLabel,hown,hO,hO1,hs,h6,hi,hlen,ez,hi0,hs0,hi1,hs1,l1,l2,sub_one,w1,w2]
end
section
open Go Go.RowKit
variable {mm:eF}
def nV(i:Nat):V->V
 |.list (x::xs) _=>.hsl i 0 (xs.length+1) none 1
 |.list [] _=>.list [] true
 |v=>v
def Uj(h:H):V->H
 |.list (x::xs) _=>h.new (.cells (x::xs))
 |_=>h
def amU{k n m:Int}{nm:List Nat}{L:Nat}{ks:V}{h:H}(h0:mm 199=none)(h1:mm 184=none)(hk:Kids m L ks)(N:Nat) :
  runM mm Tab.fns (N+60) (.call 199 [nd k n nm ks]) [] [] h=.val (nd k n nm (nV h.next ks)) (Uj h ks):=by
 have hcl:∀N,runM mm Tab.fns (N+30) (.call 184 [ks]) [] [] h=.val (nV h.next ks) (Uj h ks):=by
  intro N;rw[bn (by simp[ay,h1]) (show Tab.fns 184=some Tab.G8 from rfl) rfl];cases hk<;>simp -implicitDefEqProofs only[Tab.G8,WW,aS,aZ,aK,dN,pad,aC.ev,bG,aF,takeN,bf,yH,bK,Nat.reduceAdd,Nat.reduceMul,Nat.beq,Nat.ble,finish,resV,dI,nH,uV,gX,jU,OR.eU,rep,chunk,fH,bJ,xY,oO,List.length,ou,iJ,SK,nV,Uj]
 rw[bn (by simp[ay,h0]) (show Tab.fns 199=some Tab.UR from rfl) rfl];have hL:wo ks=false:=by cases hk<;>rfl
 have hc:V.cells (nV h.next ks)=[nV h.next ks]:=by cases hk<;>rfl
 have ho:qW (nV h.next ks)=true:=by cases hk<;>rfl
 have hm:isVal (nV h.next ks)=true:=by cases hk<;>rfl
 generalize nV h.next ks=X at hcl hc ho hm|-;generalize Uj h ks=Y at hcl|-;generalize hx:ks=Z at hcl hL;unfold nd;simp -implicitDefEqProofs only[Tab.UR,WW,aS,aZ,aK,pad,aC.ev,aC.evs,fJ,bG,aF,dA,eP,bH,splice,bC,takeN,skip,bf,bK,Nat.reduceAdd,Nat.beq,finish,resV,dI,mk,hL,hcl,hm,hc,ho]
def ak9{m k n:Int}{nm:List Nat}{L i:Nat}{ks:V}{suf:List V}(hk:Kids m L ks){h:H}(hg:∀x xs e,ks=.list (x::xs) e->h.get i=some (.cells (x::xs)))(hs:Nodes suf)(N:Nat) :
  ∃h2,dF (N+26+suf.length) (nd k n nm (nV i ks)::suf) h=(nd k n nm (dU ks)::suf,h2):=by
 have e0:N+26+suf.length=(N+suf.length)+26:=by omega
 have e1:∀h,dF ((N+suf.length)+25) suf h=(suf,h):=by
  intro h;have:=CU (ns:=suf) [] (N+20) h hs;have q:N+20+5+suf.length=(N+suf.length)+25:=by omega
  rw[iY,q]at this;rw[this];simp[dF]
 rw[e0];generalize N+suf.length=M at e1|-;cases hk with
 |nil=>exact⟨h,by simp[nd,nV,dU,dF,kQ,e1]⟩
 |k0=>exact⟨h,by simp[nd,nV,dU,dF,kQ,e1]⟩
 |_=>exact⟨h.del i,by have e:=hg _ _ _ rfl;simp[nd,nV,dU,dF,kQ,e,chunk,takeN,skip,elemOf,e1]⟩
def aqt{ns:List V}{m k n b most:Int}{nm:List Nat}{L a:Nat}{ks:V}{H0:H}(hn:Nodes ns)(hk:Kids m L ks)(hl:ns.length<=100000)(ha:a<ns.length)
  (hg:H0.get 0=some (.cells (fl (ns.set a (nd k n nm (nV 1 ks)))))) (hg1:∀x xs e,ks=.list (x::xs) e->H0.get 1=some (.cells (x::xs))) :
  ∃h2,qo (.tuple [.agg [.hsl 0 0 ns.length (some ns.length) 4,.int .i64 most],.int .i64 b]) H0=(.tuple [.agg [.list (ns.set a (nd k n nm (dU ks))) true,.int .i64 most],.int .i64 b],h2):=by
 have hch:chunk 4 ns.length (fl (ns.set a (nd k n nm (nV 1 ks))))=some (ns.set a (nd k n nm (nV 1 ks))):=by
  have:=OH (ns:=ns.set a (nd k n nm (nV 1 ks))) (λv hv=>by
   rcases List.mem_or_eq_of_mem_set hv with h|h
   .exact hn.n4 v h
   .subst h;exact aut _ _ _ _)
  simpa using this
 have sp:∀v,ns.set a v=ns.take a++v::ns.drop (a+1):=λv=>by
  rw[List.set_eq_take_append_cons_drop];simp[ha]
 have n1:Nodes (ns.take a):=λv hv=>hn v (List.mem_of_mem_take hv);have n2:Nodes (ns.drop (a+1)):=λv hv=>hn v (List.mem_of_mem_drop hv);have t1:(ns.take a).length=a:=by simp;omega
 have t2:(ns.drop (a+1)).length=ns.length-(a+1):=by simp
 have hgd:∀x xs e,ks=.list (x::xs) e->(H0.del 0).get 1=some (.cells (x::xs)):=by
  intro x xs e hx;rw[H.Ag];simpa using hg1 x xs e hx
 obtain⟨h2,e2⟩:=ak9 (k:=k) (n:=n) (nm:=nm) hk hgd n2 (999997-25-ns.length);have e3:=CU (ns:=ns.take a) (nd k n nm (nV 1 ks)::ns.drop (a+1)) (999997-5-a) (H0.del 0) n1;have q1:999997-5-a+5+(ns.take a).length=999997:=by omega
 have q2:999997-5-a+5=999997-25-ns.length+26+(ns.drop (a+1)).length:=by omega
 rw[q1,q2,e2,<- sp]at e3;rw[sp (nd k n nm (dU ks))];refine⟨h2,?_⟩;have hq:=hch;simp[qo,dF,kQ,hg,hch,skip,e3]
def asA{ns:List V}{e:Bool}{k n most:Int}{nm:List Nat}{L a:Nat}{ks:V}{m:Int}(h0:mm 282=none)(h1:mm 199=none)(h2:mm 184=none)
  (hn:Nodes ns) (hk:Kids m L ks) (hl:ns.length<=100000) (ha:a<ns.length)
  (hmay:ay mm 285 [nd k n nm ks,.int .i64 (Int.ofNat ns.length)]=some (.bool true)) (N:Nat) :
  ∃h2,runM mm Tab.fns (N+300) (.call 282 [.agg [.list ns e,.int .i64 most],.int .i64 (Int.ofNat a),nd k n nm ks]) [] [] emp=.val (.tuple [.agg [.list (ns.set a (nd k n nm (dU ks))) true,.int .i64 most],.int .i64 (Int.ofNat 0)]) h2:=by
 let z:List V:=[.int .i64 (Int.ofNat 0),.int .i64 (Int.ofNat 0),.str [],.aj]
 let H1:H:=emp.new (.cells (rep z ns.length))
 let H2:H:=H1.set 0 (.cells (fl ns))
 let H3:H:=Uj H2 ks
 let H4:H:=H3.set 0 (.cells (fl (ns.set a (nd k n nm (nV 1 ks)))))
 have g4:H4.get 0=some (.cells (fl (ns.set a (nd k n nm (nV 1 ks))))):=by rw[H.qG];simp
 have g41:∀x xs e,ks=.list (x::xs) e->H4.get 1=some (.cells (x::xs)):=by
  intro x xs e hx;rw[H.qG];show H3.get 1=_;subst hx;show(H2.new (.cells (x::xs))).get 1=_;rw[H.rY];rfl
 obtain⟨hz,ez⟩:=aqt (b:=Int.ofNat 0) (most:=most) hn hk hl ha g4 g41;refine⟨hz,?_⟩;rw[bn (by simp[ay,h0]) (show Tab.fns 282=some Tab.afZ from rfl) rfl];have hown:=λN=>amU (k:=k) (n:=n) (nm:=nm) (h:=H2) h1 h2 hk N;have e21:H2.next=1:=rfl;rw[e21]at hown;have c1:getCells H1 0=some (rep z ns.length):=rfl;have c3:getCells H3 0=some (fl ns):=by cases hk<;>rfl
 have sp1:bC (rep z ns.length) (fl ns)=some (fl ns):=by
  have q1:=MG z ns.length;have q2:=FT hn;have q3:z.length=4:=rfl;rw[Ie _ _ (by rw[q1,q2,q3];omega)];rw[List.drop_eq_nil_of_le (by rw[q1,q2,q3];omega),iY]
 have sp2:splice (a*4) (fl ns) [.int .i64 k,.int .i64 n,.str nm,nV 1 ks]=some (fl (ns.set a (nd k n nm (nV 1 ks)))):=UE (v:=nd k n nm (nV 1 ks)) hn ha rfl;have aln:=λN fr lo h=>dJ (fns:=Tab.fns) (n:=N) (fr:=fr) (lo:=lo) (h:=h) hmay;have hb:Nat.ble ns.length ns.length=true:=Nat.ble_self_eq_true _;have hb2:Nat.ble ns.length 16777216=true:=by simp;omega
 have hb3:Nat.ble (a+1) ns.length=true:=by simp;omega
 have hsrc:=λh=>anY (e:=e) (h:=h) hn;have hok:=afq hn;have hL:wo ks=false:=by cases hk<;>rfl
 have hV:isVal (nV 1 ks)=true:=by cases hk<;>rfl
 have hC:(nV 1 ks).cells=[nV 1 ks]:=by cases hk<;>rfl
 have hO:qW (nV 1 ks)=true:=by cases hk<;>rfl
 have m1:emp.new (.cells (rep z ns.length))=H1:=rfl;have m2:H1.set 0 (.cells (fl ns))=H2:=rfl;have m3:Uj H2 ks=H3:=rfl;have m4:H3.set 0 (.cells (fl (ns.set a (nd k n nm (nV 1 ks)))))=H4:=rfl;rw[m3]at hown;clear hk g4 g41;generalize nV 1 ks=X at *
 clear_value H4 H3 H2 H1
 simp only[show z=[.int .i64 (Int.ofNat 0),.int .i64 (Int.ofNat 0),.str [],.aj]from rfl]at *;clear z;generalize dU ks=Z at *;unfold nd at *;generalize hlen:ns.length=len at *;simp -implicitDefEqProofs only[Tab.afZ,WW,aS,aZ,aK,pad,aC.ev,aC.evs,fJ,bG,aF,dA,eP,bH,splice,bC,takeN,skip,bf,bK,Nat.reduceAdd,Nat.beq,Nat.blt,Nat.ble,finish,resV,dI,mk,cO,dD,eH,eqK,OR.eU,hown,aln,hb,hb2,hb3,hsrc,hO,fH,iC,uF,zl,vG,c1,c3,sp1,sp2,hok,m1,m2,m4,hlen,ez]
end
section
open Go Go.RowKit
def jw(v:V):Option Nat:=match v with
 |.int k n=>bif eqK k .i64 then(match n with|.ofNat j=>some j|_=>none)else none
 |_=>none
def kH{v:V}{j:Nat}(h:jw v=some j):v=.int .i64 (.ofNat j):=by
 cases v<;>first|(cases h;done)|skip
 rename_i k n;cases k<;>cases n<;>first|(cases h;done)|skip
 rename_i n;cases h;rfl
def gV(v:V):Option (Int×Int×List Nat×V):=match v with
 |.agg cs=>(match cs with
  |[a,b,c,d]=>(match a with
   |.int k x=>(match b with
    |.int k2 y=>(match c with
     |.str s=>bif eqK k .i64&&eqK k2 .i64 then some (x,y,s,d)else none
     |_=>none)
    |_=>none)
   |_=>none)
  |_=>none)
 |_=>none
def jV{v:V}{k n:Int}{nm:List Nat}{ks:V}(h:gV v=some (k,n,nm,ks)):v=nd k n nm ks:=by
 cases v<;>first|(cases h;done)|skip
 rename_i cs
 match cs,h with
 |[a,b,c,d],h =>
  cases a<;>first|(cases h;done)|skip
  rename_i k1 x;cases b<;>first|(cases h;done)|skip
  rename_i k2 y;cases c<;>first|(cases h;done)|skip
  rename_i s;cases k1<;>cases k2<;>first|(cases h;done)|skip
  cases h;rfl
 |[],h=>cases h
 |[_],h=>cases h
 |[_,_],h=>cases h
 |[_,_,_],h=>cases h
 |_::_::_::_::_::_,h=>cases h
def eG(k n:Int)(nm:List Nat)(ks:V):gV (nd k n nm ks)=some (k,n,nm,ks):=rfl
def zG:List V->Option (List Nat)
 |[]=>some []
 |x::xs=>match jw x with
  |some j=>(match zG xs with|some js=>some (j::js)|none=>none)
  |none=>none
def Aj:∀{xs:List V} {js:List Nat},zG xs=some js->xs=js.map λj=>.int .i64 (.ofNat j)
 |[],js,h=>by cases h;rfl
 |x::xs,js,h=>by
  simp only[zG]at h;cases h1:jw x with
  |none=>rw[h1]at h;cases h
  |some j =>
   rw[h1]at h;dsimp only at h;cases h2:zG xs with
   |none=>rw[h2]at h;cases h
   |some RF=>rw[h2]at h;cases h;rw[kH h1,Aj h2];rfl
def Dh:∀js:List Nat,zG (js.map λj=>V.int .i64 (.ofNat j))=some js
 |[]=>rfl
 |j::js=>by
  have h1:jw (.int .i64 (.ofNat j))=some j:=rfl;simp only[bD,zG,h1,Dh js]
def pR(m:Nat):List Nat->Bool
 |[]=>true
 |j::js=>Nat.blt j m&&pR m js
def iT(m:Nat)(ks:V):Option (List Nat):=match ks with
 |.aj=>some []
 |.list xs _=>(match zG xs with
  |some js=>bif Nat.ble js.length 8&&pR m js then some js else none
  |none=>none)
 |_=>none
def gI{j m:Nat}(h:Nat.blt j m=true):qH (Int.ofNat m) (Int.ofNat j):=⟨rfl,h⟩
def mZ{m:Nat}{ks:V}{js:List Nat}(h:iT m ks=some js):Kids (Int.ofNat m) js.length ks:=by
 cases ks<;>first|(cases h;done)|skip
 .cases h;exact .nil
 .rename_i xs e;simp only[iT]at h;cases h1:zG xs with
  |none=>rw[h1]at h;cases h
  |some RF =>
   rw[h1]at h;dsimp only at h;cases hb:Nat.ble RF.length 8&&pR m RF with
   |false=>rw[hb]at h;cases h
   |true =>
    rw[hb]at h;cases h;rw[Aj h1];simp only[ah,jg]at hb;obtain⟨hl,ha⟩:=hb
    match js,hl,ha with
    |[],_,_=>exact .k0
    |[a],_,h=>simp only[pR,cZ]at h;exact .k1 (gI h)
    |[a,b],_,h=>simp only[pR,ah,cZ]at h;exact .k2 (gI h.1) (gI h.2)
    |[a,b,c],_,h=>simp only[pR,ah,cZ]at h;exact .k3 (gI h.1) (gI h.2.1) (gI h.2.2)
    |[a,b,c,d],_,h=>simp only[pR,ah,cZ]at h;exact .k4 (gI h.1) (gI h.2.1) (gI h.2.2.1) (gI h.2.2.2)
    |[a,b,c,d,e],_,h=>simp only[pR,ah,cZ]at h;exact .k5 (gI h.1) (gI h.2.1) (gI h.2.2.1) (gI h.2.2.2.1) (gI h.2.2.2.2)
    |[a,b,c,d,e,f],_,h=>simp only[pR,ah,cZ]at h;exact .k6 (gI h.1) (gI h.2.1) (gI h.2.2.1) (gI h.2.2.2.1) (gI h.2.2.2.2.1) (gI h.2.2.2.2.2)
    |[a,b,c,d,e,f,g],_,h=>simp only[pR,ah,cZ]at h;exact .k7 (gI h.1) (gI h.2.1) (gI h.2.2.1) (gI h.2.2.2.1) (gI h.2.2.2.2.1) (gI h.2.2.2.2.2.1) (gI h.2.2.2.2.2.2)
    |[a,b,c,d,e,f,g,i],_,h=>simp only[pR,ah,cZ]at h;exact .k8 (gI h.1) (gI h.2.1) (gI h.2.2.1) (gI h.2.2.2.1) (gI h.2.2.2.2.1) (gI h.2.2.2.2.2.1) (gI h.2.2.2.2.2.2.1) (gI h.2.2.2.2.2.2.2)
    |_::_::_::_::_::_::_::_::_::_,hl,_=>simp at hl
def pG(k n:Int)(nm:List Nat)(L:Nat):Bool:=match k with
 |.ofNat 1=>nm.isEmpty&&Nat.beq L 0
 |.ofNat 2=>!(wX n (Int.ofNat L))
 |.ofNat 3=>nm.isEmpty&&!(wX n (Int.ofNat 0))
 |.ofNat 4=>nm.isEmpty&&!(wX n (Int.ofNat 0))
 |.ofNat 5=>nm.isEmpty&&!(wX n (Int.ofNat 0))&&Nat.beq L 0
 |.ofNat 6=>nm.isEmpty&&!(wX n (Int.ofNat 0))&&Nat.beq L 1
 |.ofNat 7=>nm.isEmpty&&!(wX n (Int.ofNat 0))&&Nat.beq L 0
 |_=>false
def adh{k n:Int}{nm:List Nat}{L:Nat}(h:pG k n nm L=true):Ci k n nm L:=by
 have e0:∀l:List Nat,l.isEmpty=true->l=[]:=λl h=>by cases l<;>first|rfl|cases h
 unfold pG at h
 split at h
 .simp only[ah]at h;have:=aP h.2;subst this;rw[e0 _ h.1];exact .int n
 .simp only[fQ]at h;exact .con h
 .simp only[ah,fQ]at h;rw[e0 _ h.1];exact .fn h.2
 .simp only[ah,fQ]at h;rw[e0 _ h.1];exact .thunk h.2
 .simp only[ah,fQ]at h;have:=aP h.2;subst this;rw[e0 _ h.1.1];exact .hole h.1.2
 .simp only[ah,fQ]at h;have:=aP h.2;subst this;rw[e0 _ h.1.1];exact .ind h.1.2
 .simp only[ah,fQ]at h;have:=aP h.2;subst this;rw[e0 _ h.1.1];exact .aAD h.1.2
 .cases h
def RP(v:V):Bool:=match gV v with
 |some (_,_,_,ks)=>(match iT 1000000000 ks with|some _=>true|none=>false)
 |none=>false
def wB:List V->Bool
 |[]=>true
 |v::ns=>RP v&&wB ns
def aqB{v:V}(h:RP v=true):∃k n nm ks js,v=nd k n nm ks/\iT 1000000000 ks=some js:=by
 unfold RP at h;cases h1:gV v with
 |none=>rw[h1]at h;cases h
 |some p =>
  obtain⟨k,n,nm,ks⟩:=p;rw[h1]at h;dsimp only at h;cases h2:iT 1000000000 ks with
  |none=>rw[h2]at h;cases h
  |some js=>exact⟨k,n,nm,ks,js,jV h1,h2⟩
def wM{m:Nat}{ks:V}{js:List Nat}(h:iT m ks=some js):aO ks=true/\aO (dU ks)=true:=by
 have hk:=mZ h;generalize js.length=L at hk;cases hk<;>exact⟨by simp[aO,aW],by simp[dU,aO,aW]⟩
def zy:∀{ns:List V},wB ns=true->Nodes ns/\aW ns=true
 |[],_=>⟨Nodes.nil,by simp[aW]⟩
 |v::ns,h=>by
  simp only[wB,ah]at h;obtain⟨k,n,nm,ks,js,rfl,hk⟩:=aqB h.1;obtain⟨h1,h2⟩:=zy h.2;refine⟨Nodes.cons ?_ h1,?_⟩
  .have hq:=mZ hk;generalize js.length=L at hq;cases hq<;>first|exact .nil _ _ _|exact .list _ _ _ _ _
  .simp only[aW,nd,aO,(wM hk).1,h2,aU]
def DK(ks:V):Option Nat:=match ks with
 |.list xs _=>(match xs with|[x]=>jw x|_=>none)
 |_=>none
def acn{ks:V}{b:Nat}(h:DK ks=some b):∃e,ks=.list [.int .i64 (.ofNat b)] e:=by
 cases ks<;>first|(cases h;done)|skip
 rename_i xs e
 match xs,h with
 |[x],h=>exact⟨e,by rw[kH h]⟩
 |[],h=>cases h
 |_::_::_,h=>cases h
def JO(ns:List V):Nat->Nat->Option V
 |0,_=>none
 |f+1,i=>match skip i ns with
  |[]=>none
  |v::_=>match gV v with
   |none=>none
   |some (k,n,nm,ks)=>bif sK k (Int.ofNat 6)then(match DK ks with|some b=>JO ns f b|none=>none)
    else(match iT 1000000000 ks with|some _=>some (.tuple [nd k n nm (dU ks),.int .i64 (.ofNat i),.int .i64 (.ofNat 0)])|none=>none)
end
section
open Go Go.RowKit
abbrev Ans(f:Nat)(a:List V)(v:V):Prop:=ajq Go.Proofs.Tryz.prog vZ f a v
def AB(v:V):Option (List V×Int):=match v with
 |.agg cs=>(match cs with
  |[a,b]=>(match a with
   |.list ns _=>(match b with
    |.int k most=>bif eqK k .i64 then some (ns,most)else none
    |_=>none)
   |_=>none)
  |_=>none)
 |_=>none
def Ey{v:V}{ns:List V}{most:Int}(h:AB v=some (ns,most)):∃e,v=.agg [.list ns e,.int .i64 most]:=by
 cases v<;>first|(cases h;done)|skip
 rename_i cs
 match cs,h with
 |[a,b],h =>
  cases a<;>first|(cases h;done)|skip
  rename_i xs e;cases b<;>first|(cases h;done)|skip
  rename_i k n;cases k<;>first|(cases h;done)|skip
  cases h;exact⟨e,rfl⟩
 |[],h=>cases h
 |[_],h=>cases h
 |_::_::_::_,h=>cases h
def vJ(args:List V):Option V:=match args with
 |[a,b]=>(match gV a with
  |some (k,n,nm,ks)=>(match jw b with
   |some m=>(match iT m ks with
    |some js=>bif pG k n nm js.length then some (.bool true)else none
    |none=>none)
   |none=>none)
  |none=>none)
 |_=>none
def Jj:eF:=λf=>bif Nat.beq f 285 then some ⟨vJ⟩else none
def GH:eF:=λ_=>none
def Jk:qN Go.Proofs.Tryz.prog vZ GH:=λf args v h=>by cases h
def Ji{args:List V}{v:V}(h:vJ args=some v):∃k n nm ks m js,args=[nd k n nm ks,.int .i64 (Int.ofNat m)]/\v=.bool true/\iT m ks=some js/\pG k n nm js.length=true:=by
 match args,h with
 |[],h=>cases h
 |[_],h=>cases h
 |_::_::_::_,h=>cases h
 |[a,b],h =>
  simp only[vJ]at h;cases h1:gV a with
  |none=>rw[h1]at h;cases h
  |some p =>
   obtain⟨k,n,nm,ks⟩:=p;rw[h1]at h;dsimp only at h;cases h2:jw b with
   |none=>rw[h2]at h;cases h
   |some m =>
    rw[h2]at h;dsimp only at h;cases h3:iT m ks with
    |none=>rw[h3]at h;cases h
    |some js =>
     rw[h3]at h;dsimp only at h;cases h4:pG k n nm js.length with
     |false=>rw[h4]at h;cases h
     |true=>rw[h4]at h;cases h;exact⟨k,n,nm,ks,m,js,by rw[jV h1,kH h2],rfl,h3,h4⟩
def arD{args:List V}{v:V}(h:vJ args=some v):Ans 285 args v:=by
 obtain⟨k,n,nm,ks,m,js,rfl,rfl,hk,hn⟩:=Ji h;have hr:=arF (mm:=GH) (k:=k) (n:=n) (m:=Int.ofNat m) (nm:=nm) rfl rfl rfl rfl (mZ hk) (adh hn) 0;exact XW (Tab.pY Jk) hr (by simp only[aW,nd,aO,(wM hk).1,aU]) rfl
def Qi:qN Go.Proofs.Tryz.prog vZ Jj:=λf args v h=>by
 unfold ay Jj at h;cases hb:Nat.beq f 285 with
 |false=>rw[hb]at h;cases h
 |true=>rw[hb]at h;rw[aP hb];exact arD h
def atS(args:List V):Option V:=match args with
 |[a,b]=>(match AB a with
  |some (ns,_)=>(match jw b with
   |some i=>bif wB ns&&Nat.ble ns.length 100000 then JO ns 3 i else none
   |none=>none)
  |none=>none)
 |_=>none
def qM{ns rest:List V}{i:Nat}{v:V}(h:skip i ns=v::rest):Nat.ble (i+1) ns.length=true/\ns[i]?=some v:=by
 rw[pX]at h;have h1:i<ns.length:=by
  rcases dP i ns.length with h1|h1
  .exact h1
  .rw[List.drop_eq_nil_of_le h1]at h;cases h
 refine⟨by simp;omega,?_⟩;have:=uM h1;rw[this]at h;cases h;simp[h1]
def NI{ns:List V}{f i:Nat}{v:V}(h:JO ns (f+1) i=some v):∃k n nm ks rest,skip i ns=nd k n nm ks::rest /\
  ((sK k (Int.ofNat 6)=false/\v=.tuple [nd k n nm (dU ks),.int .i64 (.ofNat i),.int .i64 (.ofNat 0)]/\∃js,iT 1000000000 ks=some js) \/
   (k=6/\∃b e,ks=.list [.int .i64 (.ofNat b)] e/\JO ns f b=some v)):=by
 simp only[JO]at h;cases h1:skip i ns with
 |nil=>rw[h1]at h;cases h
 |cons x rest =>
  rw[h1]at h;dsimp only at h;cases h2:gV x with
  |none=>rw[h2]at h;cases h
  |some p =>
   obtain⟨k,n,nm,ks⟩:=p;rw[h2]at h;dsimp only at h;refine⟨k,n,nm,ks,rest,by rw[jV h2],?_⟩;cases h3:sK k (Int.ofNat 6)with
   |true =>
    rw[h3]at h;simp only[cond_true]at h;have hk:k=6:=by rw[uo]at h3;simpa using h3
    cases h4:DK ks with
    |none=>rw[h4]at h;cases h
    |some b=>rw[h4]at h;obtain⟨e,he⟩:=acn h4;exact .inr ⟨hk,b,e,he,h⟩
   |false =>
    rw[h3]at h;simp only[cond_false]at h;cases h4:iT 1000000000 ks with
    |none=>rw[h4]at h;cases h
    |some js=>rw[h4]at h;cases h;exact .inl ⟨rfl,rfl,js,rfl⟩
def ajJ{args:List V}{v:V}(h:atS args=some v):Ans 88 args v:=by
 match args,h with
 |[],h=>cases h
 |[_],h=>cases h
 |_::_::_::_,h=>cases h
 |[a,b],h =>
  simp only[atS]at h;cases h1:AB a with
  |none=>rw[h1]at h;cases h
  |some p =>
   obtain⟨ns,most⟩:=p;rw[h1]at h;dsimp only at h;cases h2:jw b with
   |none=>rw[h2]at h;cases h
   |some i =>
    rw[h2]at h;dsimp only at h;cases h3:wB ns&&Nat.ble ns.length 100000 with
    |false=>rw[h3]at h;cases h
    |true =>
     rw[h3]at h;simp only[cond_true]at h;simp only[ah,jg]at h3;obtain⟨e,rfl⟩:=Ey h1;rw[kH h2];obtain⟨hn,hf⟩:=zy h3.1;have fa:∀i,aW [.agg [.list ns e,.int .i64 most],.int .i64 (Int.ofNat i)]=true:=λi=>by simp only[aW,aO,hf,aU]
     have fv:∀k n nm ks i js,iT 1000000000 ks=some js->aO (.tuple [nd k n nm (dU ks),.int .i64 (.ofNat i),.int .i64 (.ofNat 0)])=true:=λk n nm ks i js hk=>by simp only[aW,nd,aO,(wM hk).2,aU]
     have snd:=Tab.pY Jk;have two:∀{i j:Nat} {u w:V} {r s:List V},skip i ns=u::r->skip j ns=w::s->u≠w->Nat.ble 2 ns.length=true:=by
      intro i j u w r s e1 e2 hne;have q1:=qM e1;have q2:=qM e2;have:i≠j:=by rintro rfl;rw[q1.2]at q2;exact hne (gZ q2.2)
      have l1:=q1.1;have l2:=q2.1;simp at l1 l2|-;omega
     obtain⟨k,n,nm,ks,rest,hs,hc⟩:=NI h;rcases hc with⟨h6,rfl,js,hk⟩|⟨rfl,b1,e1,rfl,h⟩
     .obtain⟨h',hr⟩:=apE (mm:=GH) (e:=e) (most:=most) rfl rfl rfl (mZ hk) h3.2 (qM hs).1 hs h6 0;exact XW snd hr (fa _) (fv _ _ _ _ _ _ hk)
     .obtain⟨k1,n1,nm1,NM,aFe,hs1,hc⟩:=NI h;rcases hc with⟨h6,rfl,js,hk⟩|⟨rfl,b2,e2,rfl,h⟩
      .have hne:nd 6 n nm (.list [.int .i64 (.ofNat b1)] e1)≠nd k1 n1 nm1 NM:=by intro hq;simp only[nd,V.agg.injEq,gu,V.int.injEq]at hq;rw[<- hq.1.2]at h6;cases h6
       obtain⟨h',hr⟩:=apF (mm:=GH) (e:=e) (most:=most) rfl rfl rfl (mZ hk) h3.2 (qM hs1).1 hs1 h6 (qM hs).1 hs (two hs hs1 hne) 0;exact XW snd hr (fa _) (fv _ _ _ _ _ _ hk)
      .obtain⟨k2,n2,nm2,PZ,anl,hs2,hc⟩:=NI h;rcases hc with⟨h6,rfl,js,hk⟩|⟨rfl,b3,e3,rfl,h⟩
       .have hne:nd 6 n nm (.list [.int .i64 (.ofNat b1)] e1)≠nd k2 n2 nm2 PZ:=by intro hq;simp only[nd,V.agg.injEq,gu,V.int.injEq]at hq;rw[<- hq.1.2]at h6;cases h6
        obtain⟨h',hr⟩:=apG (mm:=GH) (e:=e) (most:=most) rfl rfl rfl (mZ hk) h3.2 (qM hs2).1 hs2 h6 (qM hs).1 hs (qM hs1).1 hs1 (two hs hs2 hne) 0;exact XW snd hr (fa _) (fv _ _ _ _ _ _ hk)
       .cases h
end
section
open Go Go.RowKit
def Ot(args:List V):Option V:=match args with
 |[a,b]=>(match AB a with
  |some (ns,most)=>(match gV b with
   |some (k,n,nm,ks)=>(match iT (ns.length+1) ks with
    |some js=>bif wB ns&&Nat.ble ns.length 100000&&wX (Int.ofNat ns.length) most&&pG k n nm js.length
     then some (.tuple [.agg [.list (ns++[nd k n nm (dU ks)]) false,.int .i64 most],.int .i64 (.ofNat ns.length),.int .i64 (.ofNat 0)])else none
    |none=>none)
   |none=>none)
  |none=>none)
 |_=>none
def anO(args:List V):Option V:=match args with
 |[a,i,b]=>(match AB a with
  |some (ns,most)=>(match jw i with
   |some i=>(match gV b with
    |some (k,n,nm,ks)=>(match iT ns.length ks with
     |some js=>bif wB ns&&Nat.ble ns.length 100000&&Nat.blt i ns.length&&pG k n nm js.length
      then some (.tuple [.agg [.list (ns.set i (nd k n nm (dU ks))) true,.int .i64 most],.int .i64 (.ofNat 0)])else none
     |none=>none)
    |none=>none)
   |none=>none)
  |none=>none)
 |_=>none
def LU:∀{a b:List V},aW a=true->aW b=true->aW (a++b)=true
 |[],b,_,h=>h
 |x::a,b,h1,h2=>by
  simp only[aW,ah]at h1;simp only[dZ,aW,h1.1,LU h1.2 h2,aU]
def YO:∀{a:List V} {i:Nat} {v:V},aW a=true->aO v=true->aW (a.set i v)=true
 |[],i,v,h,_=>by simpa using h
 |x::a,0,v,h,hv=>by
  simp only[aW,ah]at h;simp only[List.set_cons_zero,aW,hv,h.2,aU]
 |x::a,i+1,v,h,hv=>by
  simp only[aW,ah]at h;simp only[rO,aW,h.1,YO h.2 hv,aU]
def afd(a:List V):ay Jj 285 a=vJ a:=by
 unfold ay Jj;rw[show Nat.beq 285 285=true from rfl];rfl
def agh{args:List V}{v:V}(h:Ot args=some v):Ans 399 args v:=by
 match args,h with
 |[],h=>cases h
 |[_],h=>cases h
 |_::_::_::_,h=>cases h
 |[a,b],h =>
  simp only[Ot]at h;cases h1:AB a with
  |none=>rw[h1]at h;cases h
  |some p =>
   obtain⟨ns,most⟩:=p;rw[h1]at h;dsimp only at h;cases h2:gV b with
   |none=>rw[h2]at h;cases h
   |some q =>
    obtain⟨k,n,nm,ks⟩:=q;rw[h2]at h;dsimp only at h;cases h3:iT (ns.length+1) ks with
    |none=>rw[h3]at h;cases h
    |some js =>
     rw[h3]at h;dsimp only at h;cases h4:wB ns&&Nat.ble ns.length 100000&&wX (Int.ofNat ns.length) most&&pG k n nm js.length with
     |false=>rw[h4]at h;cases h
     |true =>
      rw[h4]at h;simp only[cond_true,aG]at h;subst h;simp only[ah,jg]at h4;obtain⟨⟨⟨g1,g2⟩,g3⟩,g4⟩:=h4;obtain⟨e,rfl⟩:=Ey h1;rw[jV h2];obtain⟨hn,hf⟩:=zy g1;have hmay:ay Jj 285 [nd k n nm ks,.int .i64 (Int.ofNat (ns.length+1))]=some (.bool true):=by
       rw[afd];have e1:jw (.int .i64 (Int.ofNat (ns.length+1)))=some (ns.length+1):=rfl;simp only[vJ,eG,e1,h3,g4,cond_true]
      obtain⟨h',hr⟩:=agi (mm:=Jj) (e:=e) (most:=most) rfl rfl rfl rfl hn (mZ h3) g2 g3 hmay 0;have q1:=(wM h3).1;have q2:=(wM h3).2;have q3:aW [nd k n nm (dU ks)]=true:=by simp only[aW,nd,aO,q2,aU]
      exact XW (Tab.pY Qi) hr (by simp only[aW,aO,nd,hf,q1,aU]) (by simp only[aO,aW,LU hf q3,aU])
def asz{args:List V}{v:V}(h:anO args=some v):Ans 282 args v:=by
 match args,h with
 |[],h=>cases h
 |[_],h=>cases h
 |[_,_],h=>cases h
 |_::_::_::_::_,h=>cases h
 |[a,i,b],h =>
  simp only[anO]at h;cases h1:AB a with
  |none=>rw[h1]at h;cases h
  |some p =>
   obtain⟨ns,most⟩:=p;rw[h1]at h;dsimp only at h;cases h0:jw i with
   |none=>rw[h0]at h;cases h
   |some i2 =>
    rw[h0]at h;dsimp only at h;cases h2:gV b with
    |none=>rw[h2]at h;cases h
    |some q =>
     obtain⟨k,n,nm,ks⟩:=q;rw[h2]at h;dsimp only at h;cases h3:iT ns.length ks with
     |none=>rw[h3]at h;cases h
     |some js =>
      rw[h3]at h;dsimp only at h;cases h4:wB ns&&Nat.ble ns.length 100000&&Nat.blt i2 ns.length&&pG k n nm js.length with
      |false=>rw[h4]at h;cases h
      |true =>
       rw[h4]at h;simp only[cond_true,aG]at h;subst h;simp only[ah,jg]at h4;obtain⟨⟨⟨g1,g2⟩,g3⟩,g4⟩:=h4;have g3:i2<ns.length:=Nat.lt_of_succ_le (by simpa[Nat.blt]using g3);obtain⟨e,rfl⟩:=Ey h1;rw[jV h2,kH h0];obtain⟨hn,hf⟩:=zy g1;have hmay:ay Jj 285 [nd k n nm ks,.int .i64 (Int.ofNat ns.length)]=some (.bool true):=by
        rw[afd];have e1:jw (.int .i64 (Int.ofNat ns.length))=some ns.length:=rfl;simp only[vJ,eG,e1,h3,g4,cond_true]
       obtain⟨h',hr⟩:=asA (mm:=Jj) (e:=e) (most:=most) rfl rfl rfl hn (mZ h3) g2 g3 hmay 0;have q1:=(wM h3).1;have q2:=(wM h3).2;have q3:aO (nd k n nm (dU ks))=true:=by simp only[aW,nd,aO,q2,aU]
       exact XW (Tab.pY Qi) hr (by simp only[aW,aO,nd,hf,q1,aU]) (by simp only[aO,aW,YO hf q3,aU])
end
section
open Go Go.RowKit
def ad(j:Nat):V:=.iface 1000000 (.int .i64 (.ofNat j))
def Hl(v:V):Option Nat:=match v with
 |.iface t p=>bif Nat.beq t 1000000 then jw p else none
 |_=>none
def Ba{v:V}{j:Nat}(h:Hl v=some j):v=ad j:=by
 cases v<;>first|(cases h;done)|skip
 rename_i t p;simp only[Hl]at h;cases hb:Nat.beq t 1000000 with
 |false=>rw[hb]at h;cases h
 |true=>rw[hb]at h;rw[aP hb,kH h];rfl
def DI:List V->Option (List Nat)
 |[]=>some []
 |x::xs=>match Hl x with
  |some j=>(match DI xs with|some js=>some (j::js)|none=>none)
  |none=>none
def Om:∀{xs:List V} {js:List Nat},DI xs=some js->xs=js.map ad
 |[],js,h=>by cases h;rfl
 |x::xs,js,h=>by
  simp only[DI]at h;cases h1:Hl x with
  |none=>rw[h1]at h;cases h
  |some j =>
   rw[h1]at h;dsimp only at h;cases h2:DI xs with
   |none=>rw[h2]at h;cases h
   |some RF=>rw[h2]at h;cases h;rw[Ba h1,Om h2];rfl
def jr(m:Nat)(ks:V):Option (List Nat):=match ks with
 |.aj=>some []
 |.list xs _=>(match DI xs with
  |some js=>bif Nat.ble js.length 8&&pR m js then some js else none
  |none=>none)
 |_=>none
def jk{m:Nat}{ks:V}{js:List Nat}(h:jr m ks=some js):Nat.ble js.length 8=true/\pR m js=true/\((ks=.aj/\js=[])\/∃e,ks=.list (js.map ad) e):=by
 cases ks<;>first|(cases h;done)|skip
 .cases h;exact⟨rfl,rfl,.inl ⟨rfl,rfl⟩⟩
 .rename_i xs e;simp only[jr]at h;cases h1:DI xs with
  |none=>rw[h1]at h;cases h
  |some RF =>
   rw[h1]at h;dsimp only at h;cases hb:Nat.ble RF.length 8&&pR m RF with
   |false=>rw[hb]at h;cases h
   |true =>
    rw[hb]at h;cases h;simp only[ah]at hb;exact⟨hb.1,hb.2,.inr ⟨e,by rw[Om h1]⟩⟩
def sZ:∀{m:Nat} {js:List Nat},pR m js=true<->∀j∈js,j<m
 |m,[]=>by simp[pR]
 |m,j::js=>by simp[pR,sZ (js:=js),Nat.blt];omega
def BG(v:V):Bool:=match gV v with
 |some (_,_,_,ks)=>(match jr 1000 ks with|some _=>true|none=>false)
 |none=>false
structure Th where
 σ:List (Nat×Bool)
 ns:List V
 e:Bool
 oth:List V->V
 nodup:σ.Pairwise λa b=>¬(a.2=true/\b.2=true/\a.1=b.1)
 low:∀s∈σ,s.1<ns.length
 ok:wB ns=true
 room:ns.length+60<=100000
 plain:∀p,fM (oth p)=true
 flat:∀p,aO (oth p)=true
variable (T:Th)
def Th.zV(j:Nat):Nat:=((T.σ[j]?).map (·.1)).getD (T.ns.length+(j-T.σ.length))
def Th.ra(p:V):V:=match p with
 |.int _ n=>(match n with|.ofNat j=>.int .i64 (.ofNat (T.zV j))|_=>.int .i64 (.ofNat 0))
 |_=>.int .i64 (.ofNat 0)
def Th.img(v:V):V:=bif BG v then sub T.ra v else nd 1 (.ofNat 0) [] .aj
def uX(v:V):Bool:=match v with|.undef=>true|_=>false
def Th.wu:List (Nat×Bool)->List V->List V->List V
 |s::σ,v::l,ns=>wu σ l (bif uX v||!s.2 then ns else ns.set s.1 (T.img v))
 |[],_,ns=>ns
 |_::_,[],ns=>ns
def Th.G(l:List V):List V:=T.wu T.σ l T.ns++(l.drop T.σ.length).map T.img
def Th.ro(p:V):V:=match p with
 |.int _ n=>(match n with|.ofNat j=>.int .i64 (.ofNat (T.zV j))|_=>.int .i64 (.ofNat 0))
 |.iE l=>.list (T.G l) T.e
 |.list l e=>.list (T.G l) e
 |.tuple ps=>T.oth ps
 |_=>.int .i64 (.ofNat 0)
instance aBS:Good T.ra where
 plain v:=by
  cases v<;>first|rfl|skip
  rename_i k n;cases n<;>rfl
 flat v:=by
  cases v<;>first|rfl|skip
  rename_i k n;cases n<;>rfl
def aAj(j:Nat):sub T.ra (ad j)=.int .i64 (.ofNat (T.zV j)):=by rw[ad,nD];rfl
def Ut(j:Nat):sub T.ro (ad j)=.int .i64 (.ofNat (T.zV j)):=by rw[ad,nD];rfl
def adu:∀js:List Nat,subs T.ra (js.map ad)=(js.map T.zV).map λj=>.int .i64 (.ofNat j)
 |[]=>by simp[subs]
 |j::js=>by simp only[bD,subs,aAj,adu js]
def Xf:∀js:List Nat,subs T.ro (js.map ad)=(js.map T.zV).map λj=>.int .i64 (.ofNat j)
 |[]=>by simp[subs]
 |j::js=>by simp only[bD,subs,Ut,Xf js]
def BA{m:Nat}{ks:V}{js:List Nat}(h:jr m ks=some js):sub T.ra ks=sub T.ro ks/\sub T.ro (dU ks)=dU (sub T.ro ks)/\∀M,(∀j∈js,T.zV j<M)->iT M (sub T.ro ks)=some (js.map T.zV):=by
 obtain⟨h8,_,hc⟩:=jk h;rcases hc with⟨rfl,rfl⟩|⟨e,rfl⟩
 .exact⟨by simp[sub],by simp[sub,dU],λM _=>by simp[sub,iT]⟩
 .refine⟨by simp only[sub,adu,Xf],?_,λM hM=>?_⟩
  .cases js with
   |nil=>simp[dU,sub,subs]
   |cons j js=>simp only[bD,dU,sub,subs,Ut,Xf]
  .have hl:pR M (js.map T.zV)=true:=sZ.2 λx hx=>by
    obtain⟨j,hj,rfl⟩:=kC.1 hx;exact hM j hj
   have h8':Nat.ble (js.map T.zV).length 8=true:=by rw[jo];exact h8
   simp only[sub,Xf,iT,Dh,hl,h8',aU,cond_true]
def yw(ρ:V->V)(k n:Int)(nm:List Nat)(ks:V):sub ρ (nd k n nm ks)=nd k n nm (sub ρ ks):=by simp only[nd,sub,subs]
def Ql(k n:Int)(nm:List Nat)(ks:V):uX (nd k n nm ks)=false:=rfl
def abx{j:Nat}:T.zV j<T.ns.length+(j-T.σ.length)+1:=by
 unfold Th.zV;cases h:T.σ[j]? with
 |none=>simp
 |some s=>have:=T.low s (lK h);simp;omega
def Jc{v:V}(h:BG v=true):∃k n nm ks js,v=nd k n nm ks/\jr 1000 ks=some js:=by
 unfold BG at h;cases h1:gV v with
 |none=>rw[h1]at h;cases h
 |some p =>
  obtain⟨k,n,nm,ks⟩:=p;rw[h1]at h;dsimp only at h;cases h2:jr 1000 ks with
  |none=>rw[h2]at h;cases h
  |some js=>exact⟨k,n,nm,ks,js,jV h1,h2⟩
def alD(v:V):RP (T.img v)=true:=by
 unfold Th.img;cases h:BG v with
 |false=>rfl
 |true =>
  obtain⟨k,n,nm,ks,js,rfl,hk⟩:=Jc h;obtain⟨h1,h2,h3⟩:=BA T hk;have hr:=T.room;have hj:=(jk hk).2.1;have h3:=h3 1000000000 (λj hj2=>by
   have:=abx T (j:=j);have:=sZ.1 hj j hj2;omega)
  simp only[cond_true,yw,RP,eG,h1,h3]
def aeR:∀{ns:List V} {s:Nat} {v:V},wB ns=true->RP v=true->wB (ns.set s v)=true
 |[],s,v,h,_=>by simpa using h
 |x::ns,0,v,h,hv=>by simp only[wB,ah]at h;simp only[List.set_cons_zero,wB,hv,h.2,aU]
 |x::ns,s+1,v,h,hv=>by simp only[wB,ah]at h;simp only[rO,wB,h.1,aeR h.2 hv,aU]
def Py:∀{a b:List V},wB a=true->wB b=true->wB (a++b)=true
 |[],b,_,h=>h
 |x::a,b,h1,h2=>by simp only[wB,ah]at h1;simp only[dZ,wB,h1.1,Py h1.2 h2,aU]
def amT:∀(σ:List (Nat×Bool)) (l ns:List V),wB ns=true->wB (T.wu σ l ns)=true
 |[],l,ns,h=>by simpa[Th.wu]using h
 |s::σ,[],ns,h=>by simpa[Th.wu]using h
 |s::σ,v::l,ns,h=>by
  simp only[Th.wu];refine amT σ l _ ?_;cases uX v||!s.2 with
  |true=>exact h
  |false=>exact aeR h (alD T v)
def nI:∀(σ:List (Nat×Bool)) (l ns:List V),(T.wu σ l ns).length=ns.length
 |[],l,ns=>by simp[Th.wu]
 |s::σ,[],ns=>by simp[Th.wu]
 |s::σ,v::l,ns=>by
  simp only[Th.wu];rw[nI σ l];cases uX v||!s.2<;>simp
def Ed(l:List V):(T.G l).length=T.ns.length+(l.length-T.σ.length):=by
 simp only[Th.G,bI,nI,jo,List.length_drop]
def Qc:∀l:List V,wB (l.map T.img)=true
 |[]=>rfl
 |v::l=>by simp only[bD,wB,alD,Qc l,aU]
def abu(l:List V):wB (T.G l)=true:=Py (amT T _ _ _ T.ok) (Qc T _)
instance aBT:Good T.ro where
 plain v:=by
  cases v<;>first|rfl|exact T.plain _|skip
  rename_i k n;cases n<;>rfl
 flat v:=by
  cases v<;>first|rfl|exact T.flat _|skip
  .rename_i k n;cases n<;>rfl
  .rename_i l;simpa[Th.ro,aO]using(zy (abu T l)).2
  .rename_i l e;simpa[Th.ro,aO]using(zy (abu T l)).2
def ER:∀(σ:List (Nat×Bool)) (l ns:List V) (s:Nat) (x:V),(s,true)∉σ->T.wu σ l (ns.set s x)=(T.wu σ l ns).set s x
 |[],l,ns,s,x,_=>by simp[Th.wu]
 |t::σ,[],ns,s,x,_=>by simp[Th.wu]
 |t::σ,v::l,ns,s,x,h=>by
  have hr:(s,true)∉σ:=λe=>h (bW _ e);simp only[Th.wu];cases hb:uX v||!t.2 with
  |true=>exact ER σ l ns s x hr
  |false =>
   have ht:t.2=true:=by
    cases h2:t.2 with
    |true=>rfl
    |false=>rw[h2]at hb;simp at hb
   have hne:t.1≠s:=λe=>h (by
    have:t=(s,true):=Prod.ext e ht;rw[this];exact bZ)
   simp only[cond_false];rw[List.set_comm _ _ (Ne.symm hne),ER σ l _ s x hr]
def NU:∀(σ:List (Nat×Bool)) (l ns:List V) (s:Nat),(s,true)∉σ->(T.wu σ l ns)[s]?=ns[s]?
 |[],l,ns,s,_=>by simp[Th.wu]
 |t::σ,[],ns,s,_=>by simp[Th.wu]
 |t::σ,v::l,ns,s,h=>by
  have hr:(s,true)∉σ:=λe=>h (bW _ e);simp only[Th.wu];rw[NU σ l _ s hr];cases hb:uX v||!t.2 with
  |true=>rfl
  |false =>
   have ht:t.2=true:=by
    cases h2:t.2 with
    |true=>rfl
    |false=>rw[h2]at hb;simp at hb
   have hne:t.1≠s:=λe=>h (by
    have:t=(s,true):=Prod.ext e ht;rw[this];exact bZ)
   simp[hne]
abbrev NdO(σ:List (Nat×Bool)):Prop:=σ.Pairwise λa b=>¬(a.2=true/\b.2=true/\a.1=b.1)
def NdO.out{s:Nat}{σ:List (Nat×Bool)}(h:NdO ((s,true)::σ)):(s,true)∉σ:=λhm=>(List.pairwise_cons.1 h).1 _ hm ⟨rfl,rfl,rfl⟩
def NdO.tail{s:Nat×Bool}{σ:List (Nat×Bool)}(h:NdO (s::σ)):NdO σ:=(List.pairwise_cons.1 h).2
def WS:∀(σ:List (Nat×Bool)) (l ns:List V) (j s:Nat) (v:V),NdO σ->(∀s∈σ,s.1<ns.length)->σ[j]?=some (s,true)->l[j]?=some v->uX v=false->(T.wu σ l ns)[s]?=some (T.img v)
 |[],l,ns,j,s,v,_,_,h,_,_=>by simp at h
 |t::σ,[],ns,j,s,v,_,_,_,h,_=>by simp at h
 |t::σ,x::l,ns,0,s,v,hd,hl,h1,h2,hu=>by
  simp at h1 h2;subst h1;subst h2;simp only[Th.wu,hu,Bool.not_true,Bool.or_false,cond_false];rw[NU T σ l _ s hd.out];have:=hl (s,true) bZ;simp[this]
 |t::σ,x::l,ns,j+1,s,v,hd,hl,h1,h2,hu=>by
  simp only[List.getElem?_cons_succ]at h1 h2;simp only[Th.wu];refine WS σ l _ j s v hd.tail (λs hs=>?_) h1 h2 hu;have:=hl s (bW _ hs);cases uX x||!t.2<;>simpa using this
def afv:∀(σ:List (Nat×Bool)) (l ns:List V) (j s:Nat) (v w:V),NdO σ->σ[j]?=some (s,true)->l[j]?=some w->uX w=false->uX v=false->T.wu σ (l.set j v) ns=(T.wu σ l ns).set s (T.img v)
 |[],l,ns,j,s,v,w,_,h,_,_,_=>by simp at h
 |t::σ,[],ns,j,s,v,w,_,_,h,_,_=>by simp at h
 |t::σ,x::l,ns,0,s,v,w,hd,h1,h2,hw,hv=>by
  simp at h1 h2;subst h1;subst h2;simp only[List.set_cons_zero,Th.wu,hv,hw,Bool.not_true,Bool.or_false,cond_false];rw[<- ER T σ l _ s _ hd.out,List.set_set]
 |t::σ,x::l,ns,j+1,s,v,w,hd,h1,h2,hw,hv=>by
  simp only[List.getElem?_cons_succ]at h1 h2;simp only[rO,Th.wu];exact afv σ l _ j s v w hd.tail h1 h2 hw hv
def Th.own(j:Nat):Prop:=∀s,T.σ[j]?=some s->s.2=true
def aad{j s:Nat}{b:Bool}(h:T.own j)(hs:T.σ[j]?=some (s,b)):T.σ[j]?=some (s,true):=by
 have:=h _ hs;simp only at this;rw[hs,this]
def atL{l:List V}{j:Nat}{v:V}(h:l[j]?=some v)(hu:uX v=false)(ho:T.own j):(T.G l)[T.zV j]?=some (T.img v):=by
 unfold Th.G;cases hs:T.σ[j]? with
 |some p =>
  obtain⟨s,b⟩:=p;have ha:T.zV j=s:=by simp[Th.zV,hs]
  have hl:=T.low (s,b) (lK hs);rw[ha,jf (by rw[nI];exact hl)];exact WS T _ _ _ _ _ _ T.nodup T.low (aad T ho hs) h hu
 |none =>
  have hj:T.σ.length<=j:=by simpa using hs
  have ha:T.zV j=T.ns.length+(j-T.σ.length):=by simp[Th.zV,hs]
  rw[ha,rE (by rw[nI];omega),nI];have:T.ns.length+(j-T.σ.length)-T.ns.length=j-T.σ.length:=by omega
  rw[this,iW,jm];have:T.σ.length+(j-T.σ.length)=j:=by omega
  rw[this,h];rfl
def atM{l:List V}{s:Nat}(h:(s,true)∉T.σ)(hl:s<T.ns.length):(T.G l)[s]?=T.ns[s]?:=by
 unfold Th.G;rw[jf (by rw[nI];exact hl),NU T _ _ _ _ h]
def apq{l:List V}(v:V)(h:T.σ.length<=l.length):T.G (l++[v])=T.G l++[T.img v]:=by
 have hov:∀(σ:List (Nat×Bool)) (l ns:List V),σ.length<=l.length->T.wu σ (l++[v]) ns=T.wu σ l ns:=by
  intro σ
  induction σ with
  |nil=>intro l ns _;cases l<;>simp[Th.wu]
  |cons s σ ih =>
   intro l ns h;cases l with
   |nil=>simp at h
   |cons x l=>simp only[dZ,Th.wu];exact ih l _ (by simpa using h)
 unfold Th.G;rw[hov _ _ _ h,List.drop_append_of_le_length h,rQ,fP];rfl
def aym{l:List V}{j:Nat}{v w:V}(h:l[j]?=some w)(hw:uX w=false)(hv:uX v=false)(ho:T.own j):T.G (l.set j v)=(T.G l).set (T.zV j) (T.img v):=by
 unfold Th.G;cases hs:T.σ[j]? with
 |some p =>
  obtain⟨s,b⟩:=p;have ha:T.zV j=s:=by simp[Th.zV,hs]
  have hl:=T.low (s,b) (lK hs);have hj:j<T.σ.length:=by
   rcases dP j T.σ.length with h1|h1
   .exact h1
   .rw[gU h1]at hs;cases hs
  rw[ha,List.set_append_left _ _ (by rw[nI];exact hl),afv T _ _ _ _ _ _ _ T.nodup (aad T ho hs) h hw hv];rw[List.drop_set_of_lt hj]
 |none =>
  have hj:T.σ.length<=j:=by simpa using hs
  have ha:T.zV j=T.ns.length+(j-T.σ.length):=by simp[Th.zV,hs]
  have hov:∀(σ:List (Nat×Bool)) (l ns:List V) (j:Nat),σ.length<=j->T.wu σ (l.set j v) ns=T.wu σ l ns:=by
   intro σ
   induction σ with
   |nil=>intro l ns j _;cases h:l.set j v<;>cases l<;>simp[Th.wu]
   |cons s σ ih =>
    intro l ns j h;cases l with
    |nil=>simp[Th.wu]
    |cons x l =>
     cases j with
     |zero=>simp at h
     |succ j=>simp only[rO,Th.wu];exact ih l _ j (by simpa using h)
  rw[ha,hov _ _ _ _ hj,List.set_append_right _ _ (by rw[nI];omega),nI];have e:T.ns.length+(j-T.σ.length)-T.ns.length=j-T.σ.length:=by omega
  rw[e,List.drop_set,if_neg (by omega),List.map_set]
end
section
open Go Go.RowKit
def amW(p:V):Option (List V):=match p with
 |.iE l=>some l
 |.list l _=>some l
 |_=>none
def afK(v:V):Option V:=match v with
 |.iface t p=>bif Nat.beq t 1000000 then some p else none
 |_=>none
def ad5{v p:V}(h:afK v=some p):v=.iface 1000000 p:=by
 cases v<;>first|(cases h;done)|skip
 rename_i t q;simp only[afK]at h;cases hb:Nat.beq t 1000000 with
 |false=>rw[hb]at h;cases h
 |true=>rw[hb]at h;cases h;rw[aP hb]
def Yr{a b:V}(h:lZ a b=true):a=b:=by
 have h2:wL [a] [b]=true:=by
  change(bif lZ a b then true else false)=true;rw[h];rfl
 exact(List.cons.inj (oU _ _ h2)).1
def Wp(k0:Nat)(v:V):Option (List V×Int):=match v with
 |.agg cs=>(match cs with
  |[a,b]=>(match afK a with
   |some p=>(match amW p with
    |some l=>(match b with
     |.int k most=>bif eqK k .i64&&(Nat.ble k0 l.length&&(Nat.blt l.length (k0+50)&&Nat.blt l.length 1000))then some (l,most)else none
     |_=>none)
    |none=>none)
   |none=>none)
  |_=>none)
 |_=>none
def ahT{k0:Nat}{v:V}{l:List V}{most:Int}(h:Wp k0 v=some (l,most)):k0<=l.length/\l.length<k0+50/\l.length<1000/\∃p,(p=.iE l\/∃e,p=.list l e)/\v=.agg [.iface 1000000 p,.int .i64 most]:=by
 cases v<;>first|(cases h;done)|skip
 rename_i cs
 match cs,h with
 |[],h=>cases h
 |[_],h=>cases h
 |_::_::_::_,h=>cases h
 |[a,b],h =>
  simp only[Wp]at h;cases h1:afK a with
  |none=>rw[h1]at h;cases h
  |some p =>
   rw[h1]at h;dsimp only at h;cases h2:amW p with
   |none=>rw[h2]at h;cases h
   |some l2 =>
    rw[h2]at h;dsimp only at h;cases b<;>first|(cases h;done)|skip
    rename_i k m;dsimp only at h;cases hb:eqK k .i64&&(Nat.ble k0 l2.length&&(Nat.blt l2.length (k0+50)&&Nat.blt l2.length 1000))with
    |false=>rw[hb]at h;cases h
    |true =>
     rw[hb]at h;cases h;simp only[ah,jg,Nat.blt,l7,decide_eq_true_eq]at hb;obtain⟨rfl,g1,g2,g3⟩:=hb;refine⟨g1,g2,g3,p,?_,by rw[ad5 h1]⟩;cases p<;>first|(cases h2;done)|skip
     .cases h2;exact .inl rfl
     .cases h2;exact .inr ⟨_,rfl⟩
def ownB(l0:List V)(j:Nat):Bool:=match skip j l0 with
 |[]=>true
 |v::_=>match gV v with
  |some (k,_,_,_)=>!(sK k (Int.ofNat 6))
  |none=>false
def awd(l0:List V)(j:Nat)(v:V):Bool:=match skip j l0 with
 |[]=>false
 |w::_=>lZ v w
def lAt(l0 l:List V):Nat->Nat->Option V
 |0,_=>none
 |f+1,j=>match skip j l with
  |[]=>none
  |v::_=>bif ownB l0 j||awd l0 j v then(match gV v with
   |none=>none
   |some (k,n,nm,ks)=>match jr 1000 ks with
    |none=>none
    |some js=>bif sK k (Int.ofNat 6)then(match js with|[b]=>lAt l0 l f b|_=>none)
     else bif ownB l0 j then some (.tuple [nd k n nm (dU ks),ad j,.int .i64 (.ofNat 0)])else none)else none
def awn(l0:List V)(D:Nat)(args:List V):Option V:=match args with
 |[a,b]=>(match Wp l0.length a with
  |some (l,_)=>(match Hl b with
   |some j=>lAt l0 l 3 j
   |none=>(match jw b with
    |some j=>bif Nat.blt j D then lAt l0 l 2 j else none
    |none=>none))
  |none=>none)
 |_=>none
def Wh(k0:Nat)(M:Int)(args:List V):Option V:=match args with
 |[a,b]=>(match Wp k0 a with
  |some (l,most)=>(match gV b with
   |some (k,n,nm,ks)=>(match jr (l.length+1) ks with
    |some js=>bif pG k n nm js.length&&sK most M&&Nat.ble l.length 900
     then some (.tuple [.agg [.iface 1000000 (.list (l++[nd k n nm (dU ks)]) false),.int .i64 most],ad l.length,.int .i64 (.ofNat 0)])else none
    |none=>none)
   |none=>none)
  |none=>none)
 |_=>none
def I7(v:V):Bool:=match gV v with
 |some (k,_,_,_)=>sK k (Int.ofNat 4)||sK k (Int.ofNat 5)
 |none=>false
def al9(l0:List V)(args:List V):Option V:=match args with
 |[a,i,b]=>(match Wp l0.length a with
  |some (l,most)=>(match Hl i with
   |some j=>(match gV b with
    |some (k,n,nm,ks)=>(match jr l.length ks with
     |some js=>(match skip j l with
      |w::_=>bif pG k n nm js.length&&(I7 w&&ownB l0 j)
       then some (.tuple [.agg [.iface 1000000 (.list (l.set j (nd k n nm (dU ks))) true),.int .i64 most],.int .i64 (.ofNat 0)])else none
      |[]=>none)
     |none=>none)
    |none=>none)
   |none=>none)
  |none=>none)
 |_=>none
variable (T:Th)
def lD{ns:List V}{i:Nat}{v:V}(h:ns[i]?=some v):∃rest,skip i ns=v::rest:=by
 have h1:i<ns.length:=by
  rcases dP i ns.length with h1|h1
  .exact h1
  .rw[gU h1]at h;cases h
 rw[pX,uM h1];have:ns[i]=v:=by
  have h2:=bV h1;rw[h2]at h;exact gZ h
 exact⟨_,by rw[this]⟩
def Ew{ns rest:List V}{i:Nat}{v:V}(h:skip i ns=v::rest):ns[i]?=some v:=(qM h).2
def acj{k n:Int}{nm:List Nat}{ks:V}{js:List Nat}(hk:jr 1000 ks=some js):T.img (nd k n nm ks)=nd k n nm (sub T.ro ks):=by
 have h1:BG (nd k n nm ks)=true:=by simp only[BG,eG,hk]
 simp only[Th.img,h1,cond_true,yw,(BA T hk).1]
def apx{j:Nat}(h:j<1000):T.zV j<1000000000:=by
 have:=abx T (j:=j);have:=T.room;omega
def Pv{ns:List V}:∀{f g i:Nat} {v:V},f<=g->JO ns f i=some v->JO ns g i=some v
 |0,g,i,v,_,h=>by cases h
 |f+1,0,i,v,hl,_=>by omega
 |f+1,g+1,i,v,hl,h=>by
  simp only[JO]at h|-;cases h1:skip i ns with
  |nil=>rw[h1]at h;cases h
  |cons w rest =>
   rw[h1]at h;dsimp only at h|-;cases h2:gV w with
   |none=>rw[h2]at h;cases h
   |some p =>
    obtain⟨k,n,nm,ks⟩:=p;rw[h2]at h;dsimp only at h|-;cases h6:sK k (Int.ofNat 6)with
    |true =>
     rw[h6]at h;simp only[cond_true]at h|-;cases h3:DK ks with
     |none=>rw[h3]at h;cases h
     |some b =>
      rw[h3]at h;exact Pv (by omega) h
    |false=>rw[h6]at h;exact h
structure Tie (l0:List V)(D:Nat):Prop where
 len:T.σ.length=l0.length
 own:∀j,ownB l0 j=true->T.own j
 coll:∀j n nm b e,l0[j]?=some (nd 6 n nm (.list [ad b] e))->T.own j\/T.zV j=T.zV b
 zero:∀d,d<D->T.zV d=d\/((d,true)∉T.σ/\∃n nm e,T.ns[d]?=some (nd 6 n nm (.list [.int .i64 (.ofNat (T.zV d))] e)))
variable {T}{l0:List V}{D:Nat}(hT:Tie T l0 D)
include hT
def FY{l:List V}:∀{f j:Nat} {v:V},lAt l0 l f j=some v->JO (T.G l) f (T.zV j)=some (sub T.ro v)
 |0,j,v,h=>by cases h
 |f+1,j,v,h=>by
  simp only[lAt]at h;cases h1:skip j l with
  |nil=>rw[h1]at h;cases h
  |cons w rest =>
   rw[h1]at h;dsimp only at h;cases hoi:ownB l0 j||awd l0 j w with
   |false=>rw[hoi]at h;cases h
   |true =>
   rw[hoi]at h;simp only[cond_true]at h;cases h2:gV w with
   |none=>rw[h2]at h;cases h
   |some p =>
    obtain⟨k,n,nm,ks⟩:=p;rw[h2]at h;dsimp only at h;have hw:=jV h2;subst hw;cases h3:jr 1000 ks with
    |none=>rw[h3]at h;cases h
    |some js =>
     rw[h3]at h;dsimp only at h;have own:T.own j->JO (T.G l) (f+1) (T.zV j)=some (sub T.ro v):=λho=>by
      have hg:=atL T (Ew h1) rfl ho;rw[acj T h3]at hg;obtain⟨r2,hs⟩:=lD hg;obtain⟨_,k2,k3⟩:=BA T h3;simp only[JO,hs,eG];cases h6:sK k (Int.ofNat 6)with
      |true =>
       rw[h6]at h;simp only[cond_true]at h|-
       match js,h,h3 with
       |[],h,_=>cases h
       |[b],h,h3 =>
        obtain⟨_,_,hc⟩:=jk h3;rcases hc with⟨_,hq⟩|⟨e,rfl⟩
        .cases hq
        .have hi:DK (sub T.ro (.list ([b].map ad) e))=some (T.zV b):=by
          simp only[sub,bD,kX,DK];rfl
         rw[hi];exact FY h
       |_::_::_,h,_=>cases h
      |false =>
       rw[h6]at h;simp only[cond_false]at h|-;cases hob:ownB l0 j with
       |false=>rw[hob]at h;cases h
       |true =>
       rw[hob]at h;simp only[cond_true,aG]at h;subst h;have k3:=k3 1000000000 (λj hj=>apx T (sZ.1 (jk h3).2.1 j hj));rw[k3];simp only[sub,subs,yw,Ut,k2]
     cases hob:ownB l0 j with
     |true=>exact own (hT.own j hob)
     |false =>
      rw[hob]at hoi h;simp only[Bool.false_or]at hoi;cases h6:sK k (Int.ofNat 6)with
      |false=>rw[h6]at h;cases h
      |true =>
       have hk6:k=6:=by rw[uo]at h6;simpa using h6
       subst hk6;have h':=h;rw[h6]at h';simp only[cond_true]at h'
       match js,h',h3 with
       |[],h',_=>cases h'
       |_::_::_,h',_=>cases h'
       |[b],h',h3 =>
        obtain⟨_,_,hc⟩:=jk h3;rcases hc with⟨_,hq⟩|⟨e,rfl⟩
        .cases hq
        .unfold awd at hoi;cases hz:skip j l0 with
         |nil=>rw[hz]at hoi;cases hoi
         |cons w0 r0 =>
          rw[hz]at hoi;have he:=Yr hoi;subst he;rcases hT.coll j n nm b e (Ew hz)with ho|ho
          .exact own ho
          .rw[ho];exact Pv (by omega) (FY h')
omit hT in
def ac5(T:Th){k0:Nat}{v:V}{l:List V}{most:Int}(hk:T.σ.length=k0)(h:Wp k0 v=some (l,most)):AB (sub T.ro v)=some (T.G l,most)/\Nat.ble (T.G l).length 100000=true/\(T.G l).length=T.ns.length+(l.length-T.σ.length)/\T.σ.length<=l.length/\l.length<T.σ.length+50/\l.length<1000:=by
 obtain⟨h1,h2,h3,p,hp,rfl⟩:=ahT h;have hl:=Ed T l;have hr:=T.room;refine⟨?_,by simp;omega,hl,by omega,by omega,h3⟩;rcases hp with rfl|⟨e,rfl⟩<;>(simp only[sub,subs];rfl)
def al4{args:List V}{v:V}(h:awn l0 D args=some v):atS (subs T.ro args)=some (sub T.ro v):=by
 match args,h with
 |[],h=>cases h
 |[_],h=>cases h
 |_::_::_::_,h=>cases h
 |[a,b],h =>
  simp only[awn]at h;cases h1:Wp l0.length a with
  |none=>rw[h1]at h;cases h
  |some p =>
   obtain⟨l,most⟩:=p;rw[h1]at h;dsimp only at h;obtain⟨g1,g2,aFO,_⟩:=ac5 T hT.len h1;cases h2:Hl b with
   |none =>
    rw[h2]at h;dsimp only at h;cases h3:jw b with
    |none=>rw[h3]at h;cases h
    |some j =>
     rw[h3]at h;dsimp only at h;cases h4:Nat.blt j D with
     |false=>rw[h4]at h;cases h
     |true =>
      rw[h4]at h;simp only[cond_true]at h;have hjD:j<D:=by simpa[Nat.blt,Nat.succ_le_iff]using h4
      have hb:=kH h3;subst hb;have hn:jw (sub T.ro (.int .i64 (.ofNat j)))=some j:=by simp only[sub];rfl
      simp only[subs,atS,g1,hn,abu,g2,aU,cond_true];have key:=FY hT h;rcases hT.zero j hjD with hz|⟨ho,n,nm,e,hz⟩
      .rw[hz]at key;exact Pv (by omega) key
      .have hjl:j<T.ns.length:=by
        rcases dP j T.ns.length with h1|h1
        .exact h1
        .rw[gU h1]at hz;cases hz
       obtain⟨r,hs⟩:=lD ((atM T (l:=l) ho hjl).trans hz);show JO (T.G l) (2+1) j=_;simp only[JO,hs,eG];exact key
   |some j =>
    rw[h2]at h;dsimp only at h;have hb:=Ba h2;subst hb;have hn:jw (sub T.ro (ad j))=some (T.zV j):=by rw[Ut];rfl
    simp only[subs,atS,g1,hn,abu,g2,aU,cond_true];exact FY hT h
omit hT in
def Cm(T:Th){l:List V}{j:Nat}(hs:T.σ.length<=l.length)(h:j<l.length):T.zV j<T.ns.length+(l.length-T.σ.length):=by
 unfold Th.zV;cases hq:T.σ[j]? with
 |none =>
      have:T.σ.length<=j:=by simpa using hq
      simp;omega
 |some s=>have:=T.low s (lK hq);simp;omega
omit hT in
def LY{m m2:Nat}{ks:V}{js:List Nat}(h:jr m ks=some js)(hm:m<=m2):jr m2 ks=some js:=by
 obtain⟨h8,ha,hc⟩:=jk h;have hb:pR m2 js=true:=sZ.2 λj hj=>by have:=sZ.1 ha j hj;omega
 cases ks<;>first|(cases h;done)|exact h|skip
 rename_i xs e;simp only[jr]at h|-;cases h1:DI xs with
 |none=>rw[h1]at h;cases h
 |some RF =>
  rw[h1]at h;dsimp only at h|-;cases hq:Nat.ble RF.length 8&&pR m RF with
  |false=>rw[hq]at h;cases h
  |true=>rw[hq]at h;cases h;simp only[h8,hb,aU,cond_true]
omit hT in
def ZB(T:Th){k0:Nat}{M:Int}{args:List V}{v:V}(hk:T.σ.length=k0)(hM:wX (Int.ofNat (T.ns.length+50)) M=true)(h:Wh k0 M args=some v):Ot (subs T.ro args)=some (sub T.ro v):=by
 match args,h with
 |[],h=>cases h
 |[_],h=>cases h
 |_::_::_::_,h=>cases h
 |[a,b],h =>
  simp only[Wh]at h;cases h1:Wp k0 a with
  |none=>rw[h1]at h;cases h
  |some p =>
   obtain⟨l,most⟩:=p;rw[h1]at h;dsimp only at h;cases h2:gV b with
   |none=>rw[h2]at h;cases h
   |some q =>
    obtain⟨k,n,nm,ks⟩:=q;rw[h2]at h;dsimp only at h;cases h3:jr (l.length+1) ks with
    |none=>rw[h3]at h;cases h
    |some js =>
     rw[h3]at h;dsimp only at h;cases h4:pG k n nm js.length&&sK most M&&Nat.ble l.length 900 with
     |false=>rw[h4]at h;cases h
     |true =>
      rw[h4]at h;simp only[cond_true,aG]at h;subst h;simp only[ah,jg]at h4;obtain⟨⟨g1,g2⟩,g3⟩:=h4;have g2:most=M:=by rw[uo]at g2;simpa using g2
      subst g2;obtain⟨e1,e2,e3,e4,e5,e6⟩:=ac5 T hk h1;have hw:=jV h2;subst hw;have h5:=LY h3 (show l.length+1<=1000 by omega);obtain⟨_,k2,k3⟩:=BA T h3;have k3:=k3 ((T.G l).length+1) (λj hj=>by
       have hj2:=sZ.1 (jk h3).2.1 j hj;have:=abx T (j:=j);rw[e3];rcases dP j l.length with h6|h6
       .have:=Cm T e4 h6;omega
       .have:j=l.length:=by omega
        subst this;omega)
      have hlt:wX (Int.ofNat (T.G l).length) most=true:=by
       rw[vH]at hM|-;simp only[decide_eq_true_eq,lJ]at hM|-;omega
      have hjs:(js.map T.zV).length=js.length:=by simp
      simp only[subs,yw,Ot,e1,eG,k3,abu,e2,hlt,hjs,g1,aU,cond_true];have hal:=apq T (l:=l) (nd k n nm (dU ks)) e4;have hci:T.img (nd k n nm (dU ks))=nd k n nm (dU (sub T.ro ks)):=by
       have hk3:∃RF,jr 1000 (dU ks)=some RF:=by
        obtain⟨h8,ha,hc⟩:=jk h5;rcases hc with⟨rfl,_⟩|⟨e,rfl⟩
        .exact⟨[],rfl⟩
        .cases js with
         |nil=>exact⟨[],rfl⟩
         |cons j js=>exact⟨j::js,by simpa[dU,jr]using h5⟩
       obtain⟨RF,hk3⟩:=hk3;rw[acj T hk3,k2]
      have had:T.zV l.length=(T.G l).length:=by
       rw[e3];unfold Th.zV;rw[gU e4];rfl
      simp only[sub,subs,Ut,had,Th.ro,hal,hci];rfl
def ahI{args:List V}{v:V}(h:al9 l0 args=some v):anO (subs T.ro args)=some (sub T.ro v):=by
 match args,h with
 |[],h=>cases h
 |[_],h=>cases h
 |[_,_],h=>cases h
 |_::_::_::_::_,h=>cases h
 |[a,i,b],h =>
  simp only[al9]at h;cases h1:Wp l0.length a with
  |none=>rw[h1]at h;cases h
  |some p =>
   obtain⟨l,most⟩:=p;rw[h1]at h;dsimp only at h;cases h0:Hl i with
   |none=>rw[h0]at h;cases h
   |some j =>
    rw[h0]at h;dsimp only at h;cases h2:gV b with
    |none=>rw[h2]at h;cases h
    |some q =>
     obtain⟨k,n,nm,ks⟩:=q;rw[h2]at h;dsimp only at h;cases h3:jr l.length ks with
     |none=>rw[h3]at h;cases h
     |some js =>
      rw[h3]at h;dsimp only at h;cases hs:skip j l with
      |nil=>rw[hs]at h;cases h
      |cons w rest =>
       rw[hs]at h;dsimp only at h;cases h4:pG k n nm js.length&&(I7 w&&ownB l0 j)with
       |false=>rw[h4]at h;cases h
       |true =>
        rw[h4]at h;simp only[cond_true,aG]at h;subst h;simp only[ah]at h4;obtain⟨e1,e2,e3,e4,e5,e6⟩:=ac5 T hT.len h1;have hi:=Ba h0;subst hi;have hw:=jV h2;subst hw;have h5:=LY h3 (show l.length<=1000 by omega);obtain⟨_,k2,k3⟩:=BA T h3;have hget:=Ew hs;have hj:j<l.length:=by
         rcases dP j l.length with h6|h6
         .exact h6
         .rw[gU h6]at hget;cases hget
        have k3:=k3 (T.G l).length (λj hj=>by
         have hj2:=sZ.1 (jk h3).2.1 j hj;rw[e3];exact Cm T e4 hj2)
        have hlt:Nat.blt (T.zV j) (T.G l).length=true:=by
         have:=Cm T e4 hj;rw[e3];simp[Nat.blt];omega
        have hu:uX w=false:=by
         cases w<;>first|rfl|(have:=h4.2.1;cases this)
        have hn:jw (sub T.ro (ad j))=some (T.zV j):=by rw[Ut];rfl
        have hjs:(js.map T.zV).length=js.length:=by simp
        simp only[subs,yw,anO,e1,hn,eG,k3,abu,e2,hlt,hjs,h4.1,aU,cond_true];have hst:=aym T (v:=nd k n nm (dU ks)) hget hu rfl (hT.own j h4.2.2);have hci:T.img (nd k n nm (dU ks))=nd k n nm (dU (sub T.ro ks)):=by
         have hk3:∃RF,jr 1000 (dU ks)=some RF:=by
          obtain⟨h8,ha,hc⟩:=jk h5;rcases hc with⟨rfl,_⟩|⟨e,rfl⟩
          .exact⟨[],rfl⟩
          .cases js with
           |nil=>exact⟨[],rfl⟩
           |cons j js=>exact⟨j::js,by simpa[dU,jr]using h5⟩
         obtain⟨RF,hk3⟩:=hk3;rw[acj T hk3,k2]
        simp only[sub,subs,Th.ro,hst,hci];rfl
end
section
open Go
mutual
def nX:V->Bool
 |.iface _ _=>false
 |.iE cs=>pJ cs
 |.list xs _=>pJ xs
 |.func _ a b=>pJ a&&pJ b
 |.agg cs=>pJ cs
 |.tuple cs=>pJ cs
 |_=>true
def pJ:List V->Bool
 |[]=>true
 |v::vs=>nX v&&pJ vs
end
variable {ρ:V->V}
mutual
def nC:∀(v:V),nX v=true->sub ρ v=v
 |.iface _ _,h=>by simp[nX]at h
 |.iE cs,h=>by simp only[sub];rw[jT cs (by simpa[nX]using h)]
 |.list xs e,h=>by simp only[sub];rw[jT xs (by simpa[nX]using h)]
 |.func fn a b,h=>by
  simp only[nX,ah]at h;simp only[sub];rw[jT a h.1,jT b h.2]
 |.agg cs,h=>by simp only[sub];rw[jT cs (by simpa[nX]using h)]
 |.tuple cs,h=>by simp only[sub];rw[jT cs (by simpa[nX]using h)]
 |.undef,_=>by simp only[sub]
 |.bool _,_=>by simp only[sub]
 |.int _ _,_=>by simp only[sub]
 |.str _,_=>by simp only[sub]
 |.nilPtr,_=>by simp only[sub]
 |.aY _ _,_=>by simp only[sub]
 |.bg _ _,_=>by simp only[sub]
 |.aj,_=>by simp only[sub]
 |.hsl _ _ _ _ _,_=>by simp only[sub]
 |.fA,_=>by simp only[sub]
 |.map _,_=>by simp only[sub]
 |.nilFunc,_=>by simp only[sub]
 |.nilIface,_=>by simp only[sub]
def jT:∀(l:List V),pJ l=true->subs ρ l=l
 |[],_=>by simp only[subs]
 |v::l,h=>by
  simp only[pJ,ah]at h;simp only[subs];rw[nC v h.1,jT l h.2]
end
def dY:aC->Bool
 |.tmp _=>true
 |.const v=>nX v
def aI{x:aC}(h:dY x=true):aQ ρ x=x:=by
 cases x with
 |tmp t=>rfl
 |const v=>simp only[aQ];rw[nC v h]
def afy:Option aC->Bool
 |none=>true
 |some x=>dY x
def Ik{x:Option aC}(h:afy x=true):G6 ρ x=x:=by
 cases x with
 |none=>rfl
 |some x=>simp only[G6];rw[aI h]
def MB:List aC->Bool
 |[]=>true
 |x::l=>dY x&&MB l
def xu:∀{l:List aC},MB l=true->Ce ρ l=l
 |[],_=>rfl
 |x::l,h=>by
  simp only[MB,ah]at h;simp only[Ce];rw[aI h.1,xu h.2]
def aal:List (Nat×Nat×aC)->Bool
 |[]=>true
 |(_,_,x)::l=>dY x&&aal l
def Il:∀{l:List (Nat×Nat×aC)},aal l=true->DU ρ l=l
 |[],_=>rfl
 |(a,b,x)::l,h=>by
  simp only[aal,ah]at h;simp only[DU];rw[aI h.1,Il h.2]
def fD:oM->Bool
 |.mv x=>dY x
 |.pick c a b=>dY c&&dY a&&dY b
 |.alloc z=>pJ z
 |.jy z=>pJ z
 |.CJ x=>dY x
 |.Gw x=>dY x
 |.build z p=>pJ z&&aal p
 |.lit z _ _ p=>pJ z&&aal p
 |.qR a=>dY a
 |.qI _ a=>dY a
 |.store _ a x=>dY a&&dY x
 |.tK x=>dY x
 |.eq _ _ x y=>dY x&&dY y
 |.bin _ x y=>dY x&&dY y
 |.not x=>dY x
 |.neg x=>dY x
 |.mM _ x=>dY x
 |.zN x=>dY x
 |.Ic x=>dY x
 |.nG x=>dY x
 |.toStr x=>dY x
 |.pF _ x=>dY x
 |.l9 _ a b=>MB a&&MB b
 |.mkMap =>true
 |.mkSlice z l c=>pJ z&&dY l&&dY c
 |.slice _ _ x l h m=>dY x&&afy l&&afy h&&afy m
 |.fieldAddr _ x=>dY x
 |.field _ _ _ x=>dY x
 |.ji _ x i=>dY x&&dY i
 |.wS _ _ x i=>dY x&&dY i
 |.index x i=>dY x&&dY i
 |.uw _ _ _ x i=>dY x&&dY i
 |.lookup _ z _ m k=>nX z&&dY m&&dY k
 |.vI _ m k x=>dY m&&dY k&&dY x
 |.wY _ z m k=>nX z&&dY m&&dY k
 |.oz m s x=>dY m&&dY s&&dY x
 |.extract _ x=>dY x
 |.len _ x=>dY x
 |.cap x=>dY x
 |.max x y=>dY x&&dY y
 |.min x y=>dY x&&dY y
 |.append _ x y=>dY x&&dY y
 |.qE z x n=>pJ z&&dY x&&dY n
 |.copy _ x y=>dY x&&dY y
 |.clear z x=>pJ z&&dY x
 |.qJ x y=>dY x&&dY y
 |.ni z l c=>pJ z&&dY l&&dY c
 |.rU n x y=>dY x&&dY y
 |.recover =>true
 |.bad =>true
def QZ{o:oM}(h:fD o=true):iD ρ o=o:=by
 cases o with
 |mv x=>simp only[fD]at h;simp only[iD];rw[aI h]
 |pick c a b=>simp only[fD,ah]at h;simp only[iD];rw[aI h.1.1,aI h.1.2,aI h.2]
 |alloc z=>simp only[fD]at h;simp only[iD];rw[jT _ h]
 |jy z=>simp only[fD]at h;simp only[iD];rw[jT _ h]
 |CJ x=>simp only[fD]at h;simp only[iD];rw[aI h]
 |Gw x=>simp only[fD]at h;simp only[iD];rw[aI h]
 |build z p=>simp only[fD,ah]at h;simp only[iD];rw[jT _ h.1,Il h.2]
 |lit z a b p=>simp only[fD,ah]at h;simp only[iD];rw[jT _ h.1,Il h.2]
 |qR a=>simp only[fD]at h;simp only[iD];rw[aI h]
 |qI n a=>simp only[fD]at h;simp only[iD];rw[aI h]
 |store n a x=>simp only[fD,ah]at h;simp only[iD];rw[aI h.1,aI h.2]
 |tK x=>simp only[fD]at h;simp only[iD];rw[aI h]
 |eq n c x y=>simp only[fD,ah]at h;simp only[iD];rw[aI h.1,aI h.2]
 |bin b x y=>simp only[fD,ah]at h;simp only[iD];rw[aI h.1,aI h.2]
 |not x=>simp only[fD]at h;simp only[iD];rw[aI h]
 |neg x=>simp only[fD]at h;simp only[iD];rw[aI h]
 |mM k x=>simp only[fD]at h;simp only[iD];rw[aI h]
 |zN x=>simp only[fD]at h;simp only[iD];rw[aI h]
 |Ic x=>simp only[fD]at h;simp only[iD];rw[aI h]
 |nG x=>simp only[fD]at h;simp only[iD];rw[aI h]
 |toStr x=>simp only[fD]at h;simp only[iD];rw[aI h]
 |pF t x=>simp only[fD]at h;simp only[iD];rw[aI h]
 |l9 f a b=>simp only[fD,ah]at h;simp only[iD];rw[xu h.1,xu h.2]
 |mkMap=>rfl
 |mkSlice z l c=>simp only[fD,ah]at h;simp only[iD];rw[jT _ h.1.1,aI h.1.2,aI h.2]
 |slice s n x l h m=>simp only[fD,ah]at h;simp only[iD];rw[aI h.1.1.1,Ik h.1.1.2,Ik h.1.2,Ik h.2]
 |fieldAddr f x=>simp only[fD]at h;simp only[iD];rw[aI h]
 |field a f n x=>simp only[fD]at h;simp only[iD];rw[aI h]
 |ji n x i=>simp only[fD,ah]at h;simp only[iD];rw[aI h.1,aI h.2]
 |wS s n x i=>simp only[fD,ah]at h;simp only[iD];rw[aI h.1,aI h.2]
 |index x i=>simp only[fD,ah]at h;simp only[iD];rw[aI h.1,aI h.2]
 |uw a s n x i=>simp only[fD,ah]at h;simp only[iD];rw[aI h.1,aI h.2]
 |lookup kc z ok m k=>simp only[fD,ah]at h;simp only[iD];rw[nC _ h.1.1,aI h.1.2,aI h.2]
 |vI kc m k x=>simp only[fD,ah]at h;simp only[iD];rw[aI h.1.1,aI h.1.2,aI h.2]
 |wY kc z m k=>simp only[fD,ah]at h;simp only[iD];rw[nC _ h.1.1,aI h.1.2,aI h.2]
 |oz m s x=>simp only[fD,ah]at h;simp only[iD];rw[aI h.1.1,aI h.1.2,aI h.2]
 |extract i x=>simp only[fD]at h;simp only[iD];rw[aI h]
 |len c x=>simp only[fD]at h;simp only[iD];rw[aI h]
 |cap x=>simp only[fD]at h;simp only[iD];rw[aI h]
 |max x y=>simp only[fD,ah]at h;simp only[iD];rw[aI h.1,aI h.2]
 |min x y=>simp only[fD,ah]at h;simp only[iD];rw[aI h.1,aI h.2]
 |append n x y=>simp only[fD,ah]at h;simp only[iD];rw[aI h.1,aI h.2]
 |qE z x n=>simp only[fD,ah]at h;simp only[iD];rw[jT _ h.1.1,aI h.1.2,aI h.2]
 |copy n x y=>simp only[fD,ah]at h;simp only[iD];rw[aI h.1,aI h.2]
 |clear z x=>simp only[fD,ah]at h;simp only[iD];rw[jT _ h.1,aI h.2]
 |qJ x y=>simp only[fD,ah]at h;simp only[iD];rw[aI h.1,aI h.2]
 |rU n x y=>simp only[fD,ah]at h;simp only[iD];rw[aI h.1,aI h.2]
 |ni z l c=>simp only[fD,ah]at h;simp only[iD];rw[jT _ h.1.1,aI h.1.2,aI h.2]
 |recover=>rfl
 |bad=>rfl
def Jq:Ins->Bool
 |.op _ o=>fD o
 |.call _ _ a0s=>MB a0s
 |.dyn _ f a0s=>dY f&&MB a0s
 |.defer _ f a0s=>dY f&&MB a0s
 |.grd _ _ _ i=>Jq i
 |.chk _ _ o=>fD o
def UH:∀{i:Ins},Jq i=true->Cc ρ i=i
 |.op d o,h=>by simp only[Cc];rw[QZ (by simpa[Jq]using h)]
 |.call d f a0s,h=>by simp only[Cc];rw[xu (by simpa[Jq]using h)]
 |.dyn d f a0s,h=>by simp only[Jq,ah]at h;simp only[Cc];rw[aI h.1,xu h.2]
 |.defer d f a0s,h=>by simp only[Jq,ah]at h;simp only[Cc];rw[aI h.1,xu h.2]
 |.grd t b d i,h=>by simp only[Cc];rw[UH (by simpa[Jq]using h)]
 |.chk g t o,h=>by simp only[Cc];rw[QZ (by simpa[Jq]using h)]
def QE:List Ins->Bool
 |[]=>true
 |i::l=>Jq i&&QE l
def Ij:∀{l:List Ins},QE l=true->yB ρ l=l
 |[],_=>rfl
 |i::l,h=>by
  simp only[QE,ah]at h;simp only[yB];rw[UH h.1,Ij h.2]
def qX:aN->Bool
 |.region l=>QE l
 |.draw l=>QE l
 |.seq a b=>qX a&&qX b
 |.cond c a b=>dY c&&qX a&&qX b
 |.block _ c=>qX c
 |.loop c=>qX c
 |.rangeFunc f _ a b=>dY f&&qX a&&qX b
 |.scope c=>qX c
 |_=>true
def lV:∀{c:aN},qX c=true->lF ρ c=c
 |.skip,_=>rfl
 |.exit _,_=>rfl
 |.label _,_=>rfl
 |.goto _,_=>rfl
 |.ret,_=>rfl
 |.region l,h=>by simp only[lF];rw[Ij (by simpa[qX]using h)]
 |.draw l,h=>by simp only[lF];rw[Ij (by simpa[qX]using h)]
 |.seq a b,h=>by simp only[qX,ah]at h;simp only[lF];rw[lV h.1,lV h.2]
 |.cond c a b,h=>by simp only[qX,ah]at h;simp only[lF];rw[aI h.1.1,lV h.1.2,lV h.2]
 |.block i c,h=>by simp only[lF];rw[lV (by simpa[qX]using h)]
 |.loop c,h=>by simp only[lF];rw[lV (by simpa[qX]using h)]
 |.rangeFunc f ps a b,h=>by simp only[qX,ah]at h;simp only[lF];rw[aI h.1.1,lV h.1.2,lV h.2]
 |.scope c,h=>by simp only[lF];rw[lV (by simpa[qX]using h)]
def aam:T bF->Bool
 |.leaf=>true
 |.node o l r=>(match o with|some v=>qX v.body|none=>true)&&aam l&&aam r
def KU:∀{t:T bF} {i:Nat} {v:bF},aam t=true->t.get i=some v->qX v.body=true
 |.leaf,i,v,_,h=>by cases h
 |.node o l r,i,v,hp,h=>by
  simp only[aam,ah]at hp;simp only[T.get]at h;cases h0:Nat.beq i 0 with
  |true =>
   rw[h0]at h;simp only[cond_true]at h;subst h;exact hp.1.1
  |false =>
   rw[h0]at h;simp only[cond_false]at h;cases h1:Nat.beq (i%2) 1 with
   |true=>rw[h1]at h;exact KU hp.1.2 h
   |false=>rw[h1]at h;exact KU hp.2 h
end
end Go.Vx
