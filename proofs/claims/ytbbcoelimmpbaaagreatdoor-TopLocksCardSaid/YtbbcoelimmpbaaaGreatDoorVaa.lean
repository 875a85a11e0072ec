/- A part of the proof of TopLocks. -/
import GoSem.Core.View
import GoSem.Dispatch
import Derived.CallsIn
import Derived.RangeFuncIn
import Derived.RangeFuncRecord
import Derived.Laws.World
import Derived.Below
import Derived.IntWalk
set_option linter.all false
set_option linter.unusedVariables false
set_option linter.unusedSimpArgs false
set_option maxRecDepth 1000000
noncomputable section
namespace Go.Vx
section
open Go
abbrev ay:=@Option.bind_eq_some_iff
abbrev au:=@Bool.and_eq_true
abbrev aJ:=@Nat.eq_of_beq_eq_true
abbrev aC:=@Option.some.injEq
abbrev eX:=@List.mem_cons_of_mem
abbrev fM:=@List.getElem?_eq_getElem
abbrev fG:=@Array.getElem?_eq_some_iff
abbrev iW:=@List.getElem?_eq_some_iff
abbrev aA:=@Sem.run_bind
abbrev dw:=@Bool.cond_eq_ite
abbrev fF:=@List.mem_cons_self
abbrev dL:=@not_false_eq_true
abbrev gu:=@Bool.or_eq_true
abbrev gI:=@List.getElem?_eq_none
abbrev fK:=@List.mem_filter
abbrev gy:=@Option.some.inj
theorem ah:True:=trivial
abbrev bC:=@Nat.le_refl
abbrev bP:=@Option.map_some
abbrev iJ:=@Option.bind_eq_bind
inductive V where
 |undef
 |bool (b:Bool)
 |int (k:IntKind) (n:Int)
 |str (s:List Nat)
 |nilPtr
 |bf (t off:Nat)
 |dF (id off:Nat)
 |gX (cs:List V)
 |aj
 |list (xs:List V) (exact:Bool)
 |hsl (id off len:Nat) (cap:Option Nat) (sz:Nat)
 |dV
 |map (id:Nat)
 |nilFunc
 |func (fn:Fn) (first caps:List V)
 |nilIface
 |iface (t:TypeId) (v:V)
 |agg (cs:List V)
 |tuple (vs:List V)
 deriving Inhabited
def V.cells:V→List V
 |.agg cs=>cs
 |v=>[v]
inductive aF where
 |tmp (t:Nat)
 |const (v:V)
 deriving Inhabited
inductive l7 where
 |mv (x:aF)
 |pick (c a b:aF)
 |alloc (zero:List V)
 |bM (zero:List V)
 |yA (x:aF)
 |BR (x:aF)
 |build (zero:List V) (parts:List (Nat×Nat×aF))
 |lit (zero:List V) (sz len:Nat) (parts:List (Nat×Nat×aF))
 |mF (a:aF)
 |nR (sz:Nat) (a:aF)
 |store (sz:Nat) (a x:aF)
 |ji (x:aF)
 |eq (neg:Bool) (cls:Nat) (x y:aF)
 |bin (op:BinOp) (x y:aF)
 |not (x:aF)
 |neg (x:aF)
 |iF (k:IntKind) (x:aF)
 |vS (x:aF)
 |zK (x:aF)
 |jV (x:aF)
 |toStr (x:aF)
 |gY (t:TypeId) (x:aF)
 |bJ (fn:Fn) (first caps:List aF)
 |mkMap
 |mkSlice (zero:List V) (len cap:aF)
 |slice (str:Bool) (sz:Nat) (x:aF) (lo hi mx:Option aF)
 |fieldAddr (off:Nat) (x:aF)
 |field (agg:Bool) (off sz:Nat) (x:aF)
 |aV (sz:Nat) (x i:aF)
 |qZ (sz n:Nat) (x i:aF)
 |index (x i:aF)
 |oM (agg:Bool) (sz n:Nat) (x i:aF)
 |lookup (kc:Nat) (zero:V) (ok:Bool) (m k:aF)
 |bV (kc:Nat) (m k x:aF)
 |wU (zero:V) (m k:aF)
 |oU (m s x:aF)
 |extract (i:Nat) (x:aF)
 |len (cls:Nat) (x:aF)
 |cap (x:aF)
 |max (x y:aF)
 |min (x y:aF)
 |append (sz:Nat) (x y:aF)
 |lI (zero:List V) (x n:aF)
 |copy (sz:Nat) (x y:aF)
 |clear (zero:List V) (x:aF)
 |nS (x y:aF)
 |kQ (zero:List V) (len cap:aF)
 |mG (sz:Nat) (x y:aF)
 |recover
 |bad
 deriving Inhabited
inductive Ins where
 |op (d:Option Nat) (o:l7)
 |call (d:Option Nat) (f:Nat) (args:List aF)
 |dyn (d:Option Nat) (f:aF) (args:List aF)
 |defer (ids:List Nat) (f:aF) (args:List aF)
 |grd (t:Nat) (b:Bool) (d:Option Nat) (i:Ins)
 |chk (g:Option (Nat×Bool)) (t:Nat) (o:l7)
 deriving Inhabited
inductive aH where
 |skip
 |region (ops:List Ins)
 |draw (ops:List Ins)
 |seq (a b:aH)
 |cond (c:aF) (t e:aH)
 |block (id:Nat) (c:aH)
 |loop (c:aH)
 |rangeFunc (f:aF) (params:List Nat) (assign body:aH)
 |exit (id:Nat)
 |scope (c:aH)
 |label (l:Nat)
 |goto (l:Nat)
 |ret
 deriving Inhabited
inductive Jump where
 |ret|exit (id:Nat)|goto (l:Nat)
 deriving Inhabited,DecidableEq
structure zN where
 st:Nat
 pending:Option Jump
 fr:List V
 params:List Nat
 assign:aH
 body:aH
 deriving Inhabited
inductive Obj where
 |cells (cs:List V)
 |map (es:List (V×V))
 |loop (l:zN)
 deriving Inhabited
inductive T (α:Type) where
 |leaf
 |node (o:Option α) (l r:T α)
 deriving Inhabited
def T.get {α:Type}:T α→Nat→Option α
 |.leaf,_=>none
 |.node o l r,i=>bif Nat.beq i 0 then o else bif Nat.beq (i%2) 1 then l.get (i / 2) else r.get (i / 2-1)
def T.lU {α:Type} (o:Option α):Nat→T α→Nat→T α
 |0,t,_=>t
 |n+1,.leaf,i=>bif Nat.beq i 0 then .node o .leaf .leaf else bif Nat.beq (i%2) 1 then .node none (T.lU o n .leaf (i / 2)) .leaf else .node none .leaf (T.lU o n .leaf (i / 2-1))
 |n+1,.node p l r,i=>bif Nat.beq i 0 then .node o l r else bif Nat.beq (i%2) 1 then .node p (T.lU o n l (i / 2)) r else .node p l (T.lU o n r (i / 2-1))
def T.put {α:Type} (t:T α) (o:Option α) (n i:Nat):T α:=T.lU o n t i
structure H where
 next:Nat
 objs:T Obj
 deriving Inhabited
def H.get (h:H) (i:Nat):Option Obj:=h.objs.get i
def H.set (h:H) (i:Nat) (o:Obj):H:=⟨h.next,h.objs.put (some o) (i+1) i⟩
def H.del (h:H) (i:Nat):H:=⟨h.next,h.objs.put none (i+1) i⟩
def H.new (h:H) (o:Obj):H:=⟨h.next+1,h.objs.put (some o) (h.next+1) h.next⟩
def aBt:List V→Nat→V
 |[],_=>.undef
 |x::_,0=>x
 |_::xs,n+1=>aBt xs n
def aBy:List V→Nat→V→List V
 |[],_,_=>[]
 |_::xs,0,v=>v::xs
 |x::xs,n+1,v=>x::aBy xs n v
def aO (l:List V):Nat→V:=List.rec (motive:=fun _=>Nat→V) (fun _=>.undef) (fun x _ ih n=>Nat.rec (motive:=fun _=>V) x (fun m _=>ih m) n) l
def jW (l:List V):Nat→V→List V:=List.rec (motive:=fun _=>Nat→V→List V) (fun _ _=>[]) (fun x xs ih n v=>Nat.rec (motive:=fun _=>List V) (v::xs) (fun m _=>x::ih m v) n) l
theorem Eu (n:Nat):aO [] n=.undef:=rfl
theorem kF (x:V) (xs:List V):aO (x::xs) 0=x:=rfl
theorem iL (x:V) (xs:List V) (n:Nat):aO (x::xs) (n+1)=aO xs n:=rfl
theorem sH (n:Nat) (v:V):jW [] n v=[]:=rfl
theorem nK (x v:V) (xs:List V):jW (x::xs) 0 v=v::xs:=rfl
theorem lT (x v:V) (xs:List V) (n:Nat):jW (x::xs) (n+1) v=x::jW xs n v:=rfl
abbrev Lo:=List (Nat×List V)
def dQ:Lo→Nat→Option (List V)
 |[],_=>none
 |(u,cs)::r,t=>bif Nat.beq u t then some cs else dQ r t
def dS:Lo→Nat→List V→Lo
 |[],t,cs=>[(t,cs)]
 |(u,ds)::r,t,cs=>bif Nat.beq u t then (u,cs)::r else (u,ds)::dS r t cs
def aF.ev (x:aF):List V→V:=match x with
 |.tmp t=>fun fr=>aO fr t
 |.const v=>fun _=>v
def aF.evs:List aF→List V→List V
 |[],_=>[]
 |x::xs,fr=>x.ev fr::aF.evs xs fr
def bG:List V→List V→Option (List V)
 |cs,[]=>some cs
 |[],_::_=>none
 |_::cs,v::vs=>match bG cs vs with|some r=>some (v::r)|none=>none
def splice:Nat→List V→List V→Option (List V)
 |0,cs,vs=>bG cs vs
 |_+1,[],_=>none
 |n+1,c::cs,vs=>match splice n cs vs with|some r=>some (c::r)|none=>none
def takeN:Nat→List V→Option (List V)
 |0,_=>some []
 |_+1,[]=>none
 |n+1,x::xs=>match takeN n xs with|some r=>some (x::r)|none=>none
def skip:Nat→List V→List V
 |0,xs=>xs
 |_+1,[]=>[]
 |n+1,_::xs=>skip n xs
def bn (n:Nat) (xs:List V):Option V:=match skip n xs with|x::_=>some x|[]=>none
def bY (v:V):Bool:=match v with|.bf _ _=>true|.undef=>true|_=>false
def iD:List V→Bool
 |[]=>false
 |v::vs=>match v with|.bf _ _=>true|_=>iD vs
inductive OR where
 |fail
 |ok (v:V) (lo:Lo) (h:H)
def OR.iG (o:Option V) (lo:Lo) (h:H):OR:=match o with|some v=>.ok v lo h|none=>.fail
def mk (agg:Bool) (o:Option (List V)):Option V:=match o with
 |none=>none
 |some cs=>bif agg then some (.agg cs) else match cs with|[c]=>some c|_=>none
def elemOf (x:List V):V:=match x with
 |[c]=>(match c with|.agg _=>.agg x|c=>c)
 |x=>.agg x
def chunk (sz:Nat):Nat→List V→Option (List V)
 |0,_=>some []
 |n+1,cs=>match takeN sz cs with
  |none=>none
  |some x=>match chunk sz n (skip sz cs) with
   |none=>none
   |some r=>some (elemOf x::r)
def lM (v:V) (r:List V×H):List V×H:=match r with|(r,h)=>(v::r,h)
def dW:Nat→List V→H→List V×H
 |0,vs,h=>(vs,h)
 |_+1,[],h=>([],h)
 |n+1,v::vs,h=>match v with
  |.hsl id off len cap sz=>(match h.get id with
   |some (.cells cs)=>(match chunk sz len (skip off cs) with
    |some xs=>(match dW n xs (h.del id) with
     |(xs,h)=>lM (.list xs (match cap with|some c=>Nat.beq c len|none=>false)) (dW n vs h))
    |none=>lM v (dW n vs h))
   |_=>lM v (dW n vs h))
  |.agg cs=>(match dW n cs h with|(cs,h)=>lM (.agg cs) (dW n vs h))
  |.tuple cs=>(match dW n cs h with|(cs,h)=>lM (.tuple cs) (dW n vs h))
  |v=>lM v (dW n vs h)
def vW (v:V) (h:H):V×H:=match dW 1000000 [v] h with|(w::_,h)=>(w,h)|([],h)=>(v,h)
def kU:List Nat→List Nat→Bool
 |[],[]=>true
 |a::x,b::y=>Nat.beq a b&&kU x y
 |_,_=>false
def Ii:List Nat→List Nat→Bool
 |_,[]=>false
 |[],_::_=>true
 |a::x,b::y=>Nat.blt a b||(Nat.beq a b&&Ii x y)
def uK:Int→Int→Bool
 |.ofNat a,.ofNat b=>Nat.blt a b
 |.ofNat _,.negSucc _=>false
 |.negSucc _,.ofNat _=>true
 |.negSucc a,.negSucc b=>Nat.blt b a
def vZ:Int→Int→Bool
 |.ofNat a,.ofNat b=>Nat.beq a b
 |.negSucc a,.negSucc b=>Nat.beq a b
 |_,_=>false
def leI (a b:Int):Bool:=!(uK b a)
def eqK:IntKind→IntKind→Bool
 |.i64,.i64=>true
 |.u8,.u8=>true
 |.u16,.u16=>true
 |.u64,.u64=>true
 |.u32,.u32=>true
 |.i32,.i32=>true
 |.i8,.i8=>true
 |.i16,.i16=>true
 |_,_=>false
def yj (k:IntKind) (n:Int):Int :=
 match k,n with
 |.i64,.ofNat m=>bif Nat.blt m 9223372036854775808 then .ofNat m else k.wrap n
 |.i64,.negSucc m=>bif Nat.blt m 9223372036854775808 then .negSucc m else k.wrap n
 |.u8,.ofNat m=>.ofNat (m%256)
 |.u16,.ofNat m=>.ofNat (m%65536)
 |.u64,.ofNat m=>.ofNat (m%18446744073709551616)
 |_,_=>k.wrap n
def getCells (h:H) (id:Nat):Option (List V):=match h.get id with
 |some o=>(match o with|.cells cs=>some cs|_=>none)
 |none=>none
def mO (h:H) (id:Nat):Option (List (V×V)):=match h.get id with
 |some o=>(match o with|.map cs=>some cs|_=>none)
 |none=>none
def dZ (x y:V):Option Bool:=match x with
 |.int k a=>(match y with|.int k' b=>bif eqK k k' then some (vZ a b) else none|_=>none)
 |.str a=>(match y with|.str b=>some (kU a b)|_=>none)
 |_=>none
def dK (x y:V):Option Bool:=match x with
 |.bool a=>(match y with|.bool b=>some (bif a then b else !b)|_=>none)
 |_=>none
def jB (h:H) (x y:V):Option Bool:=match x with
 |.nilPtr=>(match y with|.nilPtr=>some true|.dF _ _=>some false|.bf _ _=>some false|.gX _=>some false|_=>none)
 |.dF a o=>(match y with
  |.nilPtr=>some false
  |.dF b p=>(match getCells h a with
   |some cs=>(match getCells h b with
    |some ds=>bif Nat.blt o cs.length&&Nat.blt p ds.length then some (Nat.beq a b&&Nat.beq o p) else none
    |none=>none)
   |none=>none)
  |_=>none)
 |.bf _ _=>(match y with|.nilPtr=>some false|_=>none)
 |.gX _=>(match y with|.nilPtr=>some false|_=>none)
 |_=>none
def iK (x y:V):Option Bool:=match x with
 |.aj=>(match y with|.aj=>some true|.list _ _=>some false|.hsl _ _ _ _ _=>some false|_=>none)
 |.list _ _=>(match y with|.aj=>some false|_=>none)
 |.hsl _ _ _ _ _=>(match y with|.aj=>some false|_=>none)
 |_=>none
def wo (x y:V):Option Bool:=match x with
 |.dV=>(match y with|.dV=>some true|.map _=>some false|_=>none)
 |.map _=>(match y with|.dV=>some false|_=>none)
 |_=>none
def eqFn (x y:V):Option Bool:=match x with
 |.nilFunc=>(match y with|.nilFunc=>some true|.func _ _ _=>some false|_=>none)
 |.func _ _ _=>(match y with|.nilFunc=>some false|_=>none)
 |_=>none
def zG (x y:V):Option Bool:=match x with
 |.nilIface=>(match y with|.nilIface=>some true|.iface _ _=>some false|_=>none)
 |.iface _ _=>(match y with|.nilIface=>some false|_=>none)
 |_=>none
def Ad (v:V):Bool:=match v with|.iface t _=>Nat.beq t 1000000|_=>false
def y8 (x y:V):Option Bool:=bif Ad x||Ad y then none else zG x y
theorem uY {x y:V} {b:Bool} (e:y8 x y=some b):zG x y=some b:=by
 unfold y8 at e
 cases h:Ad x||Ad y with
 |true=>rw [h] at e;cases e
 |false=>rw [h] at e;exact e
def lH (h:H) (cls:Nat):V→V→Option Bool:=match cls with
 |0=>dZ
 |1=>dK
 |2=>jB h
 |3=>iK
 |4=>wo
 |5=>eqFn
 |6=>y8
 |_=>fun _ _=>none
def eqV (h:H) (x y:V):Option Bool:=match x with
 |.dF _ _=>jB h x y
 |.bool _=>dK x y
 |_=>dZ x y
def gJ (o:Option Bool):Option V:=match o with|some b=>some (.bool b)|none=>none
def jF (o:Option Bool):Option V:=match o with|some b=>some (.bool !b)|none=>none
def fE (f:Int→Int→Bool) (x y:V):Option V:=match x with
 |.int k a=>(match y with|.int k' b=>bif eqK k k' then some (.bool (f a b)) else none|_=>none)
 |_=>none
def kC (f:Int→Int→Int) (x y:V):Option V:=match x with
 |.int k a=>(match y with|.int k' b=>bif eqK k k' then some (.int k (yj k (f a b))) else none|_=>none)
 |_=>none
def gq (x y:V):Option V:=match x with
 |.str a=>(match y with|.str b=>some (.bool (Ii a b))|_=>none)
 |x=>fE uK x y
def fZ (x y:V):Option V:=match x with
 |.str a=>(match y with|.str b=>bif Nat.blt (a.length+b.length) 4294967296 then some (.str (a++b)) else none|_=>none)
 |x=>kC Int.add x y
def nD (x y:V):Option V:=match y with
 |.int _ b=>bif vZ b 0 then none else kC Int.tdiv x y
 |_=>none
def kW (x y:V):Option V:=match x with
 |.int k a=>(match y with|.int k' b=>bif vZ b 0||!(eqK k k') then none else some (.int k (a.tmod b))|_=>none)
 |_=>none
def nG (x y:V):Option V:=match x with
 |.int k a=>(match y with|.int _ b=>bif uK b 0 then none else some (.int k (k.wrap (a*2 ^ (min b.toNat k.bits))))|_=>none)
 |_=>none
def nH (x y:V):Option V:=match x with
 |.int k a=>(match y with|.int _ b=>bif uK b 0 then none else some (.int k (a.fdiv (2 ^ (min b.toNat k.bits))))|_=>none)
 |_=>none
def eH (op:BinOp):V→V→Option V:=match op with
 |.lss=>gq
 |.leq=>fE leI
 |.gtr=>fE (fun a b=>uK b a)
 |.geq=>fE (fun a b=>leI b a)
 |.add=>fZ
 |.sub=>kC Int.sub
 |.mul=>kC Int.mul
 |.quo=>nD
 |.rem=>kW
 |.shl=>nG
 |.shr=>nH
 |_=>fun _ _=>none
def oV (h:H) (k:V):List (V×V)→Nat→Option (Option (Nat×V))
 |[],_=>some none
 |(k',v)::es,i=>match eqV h k k' with
  |some b=>bif b then some (some (i,v)) else oV h k es (i+1)
  |none=>none
def Dz:List (V×V)→Nat→V→List (V×V)
 |[],_,_=>[]
 |(k,_)::es,0,v=>(k,v)::es
 |e::es,n+1,v=>e::Dz es n v
def JL:List Nat→Nat→Option Nat
 |[],_=>none
 |x::_,0=>some x
 |_::xs,n+1=>JL xs n
def bytesOf:List V→Option (List Nat)
 |[]=>some []
 |v::vs=>match v with
  |.int .u8 (.ofNat n)=>bif Nat.blt n 256 then (match bytesOf vs with|some r=>some (n::r)|none=>none) else none
  |_=>none
def ofBytes:List Nat→List V
 |[]=>[]
 |b::bs=>.int .u8 (.ofNat b)::ofBytes bs
def sU:List V→List V
 |[]=>[]
 |x::xs=>match x with|.agg cs=>cs++sU xs|x=>x::sU xs
def rep (z:List V):Nat→List V
 |0=>[]
 |n+1=>z++rep z n
def vT (n:Nat) (o:Option (List V)) (off:Nat):Option (List V):=match o with
 |some cs=>takeN n (skip off cs)
 |none=>none
def gU (v:V):Option Nat:=match v with
 |.aj=>some 0
 |.list xs _=>some xs.length
 |.hsl _ _ len _ _=>some len
 |.str s=>some s.length
 |_=>none
def AZ (sz:Nat) (xs:List V):Bool:=match xs with|[]=>true|x::_=>Nat.beq x.cells.length sz
def dM (h:H) (sz n:Nat) (v:V):Option (List V):=match v with
 |.aj=>bif Nat.beq n 0 then some [] else none
 |.list xs _=>bif AZ sz xs&&Nat.ble n xs.length then takeN (n*sz) (sU xs) else none
 |.hsl id off len _ sz'=>bif Nat.beq sz sz'&&Nat.ble n len then vT (n*sz) (getCells h id) off else none
 |.str s=>bif Nat.beq sz 1 then takeN n (ofBytes s) else none
 |_=>none
def bound (v:Option V) (d:Nat) (y:Nat):Option Nat :=
 match v with
 |none=>some d
 |some (.int _ (.ofNat n))=>bif Nat.ble n y then some n else none
 |_=>none
def fill (cells:List V):List (Nat×Nat×aF)→List V→Option (List V)
 |[],_=>some cells
 |(off,sz,x)::r,fr =>
  match x.ev fr with
  |.bf _ _=>none
  |.undef=>none
  |v=>bif Nat.beq v.cells.length sz then (match splice off cells v.cells with|some cs=>fill cs r fr|none=>none) else none
def dI (t:Nat):List V→List V
 |[]=>[]
 |v::vs=>(match v with|.bf u _=>(bif Nat.beq u t then .undef else v)|v=>v)::dI t vs
def jA (h:H) (n sz:Nat) (old:Option (List V)) (new:List V):Option (V×H):=match old with
 |some old=>bif Nat.ble n 16777216 then some (.hsl h.next 0 n none sz,h.new (.cells (old++new))) else none
 |none=>none
def jg (v:V):Bool:=match v with|.aj=>true|.list _ _=>true|.hsl _ _ _ _ _=>true|_=>false
def Y7 (h:H) (id off len cap sz n:Nat) (new:List V):Option (V×H):=match getCells h id with
 |some cs=>(match splice (off+len*sz) cs new with|some cs=>some (.hsl id off (len+n) (some cap) sz,h.set id (.cells cs))|none=>none)
 |none=>none
def zO (h:H) (sz id off len:Nat) (cap:Option Nat) (n:Nat) (old:Option (List V)) (new:List V):Option (V×H):=match cap with
 |some c=>bif Nat.ble (len+n) c then Y7 h id off len c sz n new else jA h (len+n) sz old new
 |none=>bif Nat.beq off 0 then jA (h.del id) (len+n) sz old new else none
def wM (h:H) (sz:Nat) (s:V) (n:Nat) (new:List V):Option (V×H) :=
 bif Nat.beq n 0 then (bif jg s then some (s,h) else none) else
 match s with
 |.aj=>jA h n sz (some []) new
 |.list xs ex=>bif ex then jA h (xs.length+n) sz (dM h sz xs.length s) new else none
 |.hsl id off len cap sz'=>bif Nat.beq sz sz' then zO h sz id off len cap n (dM h sz len s) new else none
 |_=>none
abbrev rX:=List V→Lo→H→OR
def jh (x:aF):rX:=fun fr lo h=>.ok (x.ev fr) lo h
def qG (c a b:aF):rX:=fun fr lo h=>match c.ev fr with|.bool t=>.ok (bif t then a.ev fr else b.ev fr) lo h|_=>.fail
def dD (d:Nat) (z:List V):rX:=fun _ lo h=>.ok (.bf d 0) (dS lo d z) h
def bI (z:List V):rX:=fun _ lo h=>.ok (.dF h.next 0) lo (h.new (.cells z))
def wV (d:Nat) (x:aF):rX:=fun fr lo h=>match x.ev fr with
 |.bf _ _=>.fail
 |.undef=>.fail
 |v=>.ok (.bf d 0) (dS lo d v.cells) h
def yU (x:aF):rX:=fun fr lo h=>match x.ev fr with
 |.bf _ _=>.fail
 |.undef=>.fail
 |v=>.ok (.dF h.next 0) lo (h.new (.cells v.cells))
def dB (z:List V) (ps:List (Nat×Nat×aF)):rX:=fun fr lo h=>match fill z ps fr with|some cs=>.ok (.agg cs) lo h|none=>.fail
def fO (z:List V) (sz n:Nat) (ps:List (Nat×Nat×aF)):rX:=fun fr lo h=>match fill (rep z n) ps fr with
 |some cs=>(match chunk sz n cs with|some xs=>.ok (.list xs true) lo h|none=>.fail)
 |none=>.fail
def bg (a:V) (lo:Lo) (h:H):Option (List V):=match a with
 |.bf t off=>(match dQ lo t with|some cs=>some (skip off cs)|none=>none)
 |.dF id off=>(match getCells h id with|some cs=>some (skip off cs)|none=>none)
 |.gX cs=>some cs
 |_=>none
def cu (a:aF):rX:=fun fr lo h=>match bg (a.ev fr) lo h with
 |some cs=>(match cs with|c::_=>.ok c lo h|[]=>.fail)
 |none=>.fail
def cO (sz:Nat) (a:aF):rX:=fun fr lo h=>match bg (a.ev fr) lo h with
 |some cs=>(match takeN sz cs with|some r=>.ok (.agg r) lo h|none=>.fail)
 |none=>.fail
def yT (v:V):Bool:=match v with|.undef=>false|.agg _=>false|.tuple _=>false|.bf _ _=>false|_=>true
def dO:List V→Bool
 |[]=>true
 |v::vs=>yT v&&dO vs
def bH (a:V) (vs:List V) (lo:Lo) (h:H):OR:=match a with
 |.bf t off=>(match dQ lo t with
  |some cs=>(match splice off cs vs with|some cs=>.ok .undef (dS lo t cs) h|none=>.fail)
  |none=>.fail)
 |.dF id off=>(match getCells h id with
  |some cs=>(match splice off cs vs with|some cs=>.ok .undef lo (h.set id (.cells cs))|none=>.fail)
  |none=>.fail)
 |_=>.fail
def jT (sz:Nat) (a x:aF):rX:=fun fr lo h=>match x.ev fr with
 |.bf _ _=>.fail
 |.undef=>.fail
 |v=>bif Nat.beq v.cells.length sz&&dO v.cells then bH (a.ev fr) v.cells lo h else .fail
def cZ (x:aF):rX:=fun fr lo h=>match x.ev fr with
 |.nilPtr=>.fail
 |.nilFunc=>.fail
 |.nilIface=>.fail
 |.undef=>.fail
 |v=>.ok v lo h
def iE (neg:Bool) (cls:Nat) (x y:aF):rX:=fun fr lo h=>OR.iG (bif neg then jF (lH h cls (x.ev fr) (y.ev fr)) else gJ (lH h cls (x.ev fr) (y.ev fr))) lo h
def eY (op:BinOp) (x y:aF):rX:=fun fr lo h=>OR.iG (eH op (x.ev fr) (y.ev fr)) lo h
def fU (x:aF):rX:=fun fr lo h=>match x.ev fr with|.bool b=>.ok (.bool !b) lo h|_=>.fail
def xR (x:aF):rX:=fun fr lo h=>match x.ev fr with|.int k n=>.ok (.int k (yj k (0-n))) lo h|_=>.fail
def aS (k:IntKind) (x:aF):rX:=fun fr lo h=>match x.ev fr with|.int _ n=>.ok (.int k (yj k n)) lo h|_=>.fail
def oD (x:aF):rX:=fun fr lo h=>match x.ev fr with|.str s=>.ok (.str s) lo h|_=>.fail
def Jz (v:V):Bool:=match v with|.int _ _=>true|_=>false
def rF (x:aF):rX:=fun fr lo h=>match x.ev fr with
 |.list xs ex=>(match xs with|[]=>.fail|x::xs=>(bif Jz x then .ok (.list (x::xs) ex) lo h else .fail))
 |_=>.fail
def jU (x:aF):rX:=fun fr lo h=>match x.ev fr with|.str s=>.ok (.list (ofBytes s) false) lo h|_=>.fail
def bytesIn (h:H) (v:V):Option (List Nat):=match v with
 |.aj=>some []
 |.list xs _=>bytesOf xs
 |.hsl id off len _ _=>(match vT len (getCells h id) off with|some cs=>bytesOf cs|none=>none)
 |_=>none
def oG (x:aF):rX:=fun fr lo h=>match bytesIn h (x.ev fr) with
 |some s=>.ok (.str s) lo h
 |none=>.fail
def kJ (t:TypeId) (x:aF):rX:=fun fr lo h=>match x.ev fr with|.bf _ _=>.fail|v=>bif Nat.beq t 1000000 then .fail else .ok (.iface t v) lo h
def bD (fn:Fn) (a b:List aF):rX:=fun fr lo h=>bif iD (aF.evs a fr)||iD (aF.evs b fr) then .fail else .ok (.func fn (aF.evs a fr) (aF.evs b fr)) lo h
def EG:rX:=fun _ lo h=>.ok (.map h.next) lo (h.new (.map []))
def gW (z:List V) (l c:aF):rX:=fun fr lo h=>match l.ev fr with
 |.int _ (.ofNat l)=>(match c.ev fr with
  |.int _ (.ofNat c)=>bif Nat.ble l c&&Nat.ble c 16777216 then .ok (.hsl h.next 0 l (some c) z.length) lo (h.new (.cells (rep z c))) else .fail
  |_=>.fail)
 |_=>.fail
def jG (z:List V) (l c:aF):rX:=fun fr lo h=>match gW z l c fr lo h with
 |.ok v lo h=>(match vW v h with|(v,h)=>.ok v lo h)
 |.fail=>.fail
def lF (o:Option aF) (fr:List V):Option V:=match o with|some x=>some (x.ev fr)|none=>none
def je (len cap:Nat) (lo hi mx:Option V):Option (Nat×Nat×Nat):=match mx,hi with
 |some _,none=>none
 |_,_=>(match bound mx cap cap with
  |some m=>(match bound hi len m with
   |some hh=>(match bound lo 0 hh with|some l=>some (l,hh,m)|none=>none)
   |none=>none)
  |none=>none)
def KA (s:List Nat) (lo hi mx:Option V):Option V:=match mx with
 |some _=>none
 |none=>(match je s.length s.length lo hi none with
  |some p=>some (.str ((s.take p.2.1).drop p.1))
  |none=>none)
def Kz (lo hi mx:Option V):Option V:=match je 0 0 lo hi mx with
 |some _=>some .aj
 |none=>none
def YC (mx:Option V) (m hh:Nat) (ex:Bool) (n:Nat):Bool:=match mx with|some _=>Nat.beq m hh|none=>ex&&Nat.beq hh n
def AO (sz:Nat) (xs:List V) (ex:Bool) (lo hi mx:Option V):Option V:=bif AZ sz xs then (match je xs.length xs.length lo hi mx with
 |some p=>some (.list ((xs.take p.2.1).drop p.1) (YC mx p.2.2 p.2.1 ex xs.length))
 |none=>none) else none
def ad2 (cap:Option Nat) (l:Nat):Option Nat:=match cap with|some c=>some (c-l)|none=>none
def Ky (sz id off len:Nat) (cap:Option Nat) (sz':Nat) (lo hi mx:Option V):Option V:=bif Nat.beq sz sz' then (match je len (cap.getD len) lo hi mx with
 |some p=>bif Nat.beq p.1 p.2.2&&!(Nat.beq p.1 0) then some (.list [] false)
  else some (.hsl id (off+p.1*sz) (p.2.1-p.1) (match mx with|some _=>some (p.2.2-p.1)|none=>ad2 cap p.1) sz)
 |none=>none) else none
def dh (str:Bool) (sz:Nat) (x:aF) (lo hi mx:Option aF):rX:=fun fr lc h=>match x.ev fr with
 |.str s=>bif str then OR.iG (KA s (lF lo fr) (lF hi fr) (lF mx fr)) lc h else .fail
 |.aj=>bif str then .fail else OR.iG (Kz (lF lo fr) (lF hi fr) (lF mx fr)) lc h
 |.list xs ex=>bif str then .fail else OR.iG (AO sz xs ex (lF lo fr) (lF hi fr) (lF mx fr)) lc h
 |.hsl id off len cap sz'=>bif str then .fail else OR.iG (Ky sz id off len cap sz' (lF lo fr) (lF hi fr) (lF mx fr)) lc h
 |_=>.fail
def aK (off:Nat) (x:aF):rX:=fun fr lo h=>match x.ev fr with
 |.bf t o=>.ok (.bf t (o+off)) lo h
 |.dF id o=>.ok (.dF id (o+off)) lo h
 |.gX cs=>.ok (.gX (skip off cs)) lo h
 |_=>.fail
def bU (ag:Bool) (off sz:Nat) (x:aF):rX:=fun fr lo h=>match x.ev fr with
 |.agg cs=>OR.iG (mk ag (takeN sz (skip off cs))) lo h
 |_=>.fail
def aP (sz:Nat) (x i:aF):rX:=fun fr lo h=>match i.ev fr with
 |.int _ (.ofNat i)=>(match x.ev fr with
  |.list xs _=>(match bn i xs with
   |some x=>bif Nat.beq x.cells.length sz then .ok (.gX x.cells) lo h else .fail
   |none=>.fail)
  |.hsl id off len _ _=>bif Nat.blt i len then .ok (.dF id (off+i*sz)) lo h else .fail
  |_=>.fail)
 |_=>.fail
def sJ (sz n:Nat) (x i:aF):rX:=fun fr lo h=>match i.ev fr with
 |.int _ (.ofNat i)=>bif Nat.blt i n then (match x.ev fr with
  |.bf t o=>.ok (.bf t (o+i*sz)) lo h
  |.dF t o=>.ok (.dF t (o+i*sz)) lo h
  |_=>.fail) else .fail
 |_=>.fail
def mV (x i:aF):rX:=fun fr lo h=>match x.ev fr with
 |.str s=>(match i.ev fr with
  |.int _ (.ofNat i)=>(match JL s i with|some b=>.ok (.int .u8 (.ofNat b)) lo h|none=>.fail)
  |_=>.fail)
 |_=>.fail
def kR (ag:Bool) (sz n:Nat) (x i:aF):rX:=fun fr lo h=>match x.ev fr with
 |.agg cs=>(match i.ev fr with
  |.int _ (.ofNat i)=>bif Nat.blt i n then OR.iG (mk ag (takeN sz (skip (i*sz) cs))) lo h else .fail
  |_=>.fail)
 |_=>.fail
def mapOf (m:V) (h:H):Option (List (V×V)):=match m with
 |.dV=>some []
 |.map id=>mO h id
 |_=>none
def iC (kc:Nat) (v:V):Bool:=match v with
 |.int _ _=>Nat.beq kc 0
 |.str _=>Nat.beq kc 1
 |.dF _ _=>Nat.beq kc 2
 |.bool _=>Nat.beq kc 3
 |_=>false
def uq (z:V) (ok:Bool) (r:Option (Nat×V)):V:=match r with
 |some p=>bif ok then .tuple [p.2,.bool true] else p.2
 |none=>bif ok then .tuple [z,.bool false] else z
def kS (kc:Nat) (z:V) (ok:Bool) (m k:aF):rX:=fun fr lo h=>bif iC kc (k.ev fr) then (match mapOf (m.ev fr) h with
 |some es=>(match oV h (k.ev fr) es 0 with
  |some r=>.ok (uq z ok r) lo h
  |none=>.fail)
 |none=>.fail) else .fail
def Gj (id:Nat) (es:List (V×V)) (k v:V) (r:Option (Nat×V)) (lo:Lo) (h:H):OR:=match r with
 |some p=>.ok .undef lo (h.set id (.map (Dz es p.1 v)))
 |none=>.ok .undef lo (h.set id (.map (es++[(k,v)])))
def ni (kc:Nat) (m k x:aF):rX:=fun fr lo h=>bif iC kc (k.ev fr)&&!bY (x.ev fr) then (match m.ev fr with
  |.map id=>(match mO h id with
   |some es=>(match oV h (k.ev fr) es 0 with
    |some r=>Gj id es (k.ev fr) (x.ev fr) r lo h
    |none=>.fail)
   |none=>.fail)
  |_=>.fail) else .fail
def Ar (z:V) (m k:aF):rX:=fun fr lo h=>match m.ev fr with
 |.map id=>(match mO h id with
  |some es=>(match oV h (k.ev fr) es 0 with
   |some r=>(match r with
    |some p=>.ok (.tuple [p.2,.int .i64 p.1]) lo h
    |none=>.ok (.tuple [z,.int .i64 es.length]) lo (h.set id (.map (es++[(k.ev fr,z)]))))
   |none=>.fail)
  |none=>.fail)
 |_=>.fail
def vN (m s x:aF):rX:=fun fr lo h=>match x.ev fr with
 |.bf _ _=>.fail
 |.undef=>.fail
 |v=>(match m.ev fr with
  |.map id=>(match s.ev fr with
   |.int _ (.ofNat i)=>(match mO h id with
    |some es=>bif Nat.blt i es.length then .ok .undef lo (h.set id (.map (Dz es i v))) else .fail
    |none=>.fail)
   |_=>.fail)
  |_=>.fail)
def aX (i:Nat) (x:aF):rX:=fun fr lo h=>match x.ev fr with|.tuple vs=>OR.iG (bn i vs) lo h|_=>.fail
def lenOf (h:H) (cls:Nat) (v:V):Option Nat:=match cls with
 |0=>(match v with
  |.aj=>some 0
  |.list xs _=>some xs.length
  |.hsl _ _ len _ _=>some len
  |_=>none)
 |1=>(match v with|.str s=>some s.length|_=>none)
 |2=>(match v with
  |.dV=>some 0
  |.map id=>(match mO h id with|some es=>some es.length|none=>none)
  |_=>none)
 |_=>none
def eP (cls:Nat) (x:aF):rX:=fun fr lo h=>match lenOf h cls (x.ev fr) with
 |some n=>.ok (.int .i64 (.ofNat n)) lo h
 |none=>.fail
def xQ (x:aF):rX:=fun fr lo h=>match x.ev fr with
 |.aj=>.ok (.int .i64 0) lo h
 |.list xs ex=>bif ex then .ok (.int .i64 (.ofNat xs.length)) lo h else .fail
 |.hsl _ _ _ c _=>(match c with|some c=>.ok (.int .i64 (.ofNat c)) lo h|none=>.fail)
 |_=>.fail
def vO (x y:aF):rX:=fun fr lo h=>match x.ev fr with
 |.int k a=>(match y.ev fr with|.int _ b=>.ok (.int k (bif uK a b then b else a)) lo h|_=>.fail)
 |_=>.fail
def vP (x y:aF):rX:=fun fr lo h=>match x.ev fr with
 |.int k a=>(match y.ev fr with|.int _ b=>.ok (.int k (bif uK b a then b else a)) lo h|_=>.fail)
 |_=>.fail
def ORp (o:Option (V×H)) (lo:Lo):OR:=match o with|some p=>.ok p.1 lo p.2|none=>.fail
def aU (sz:Nat) (x y:aF):rX:=fun fr lo h=>match gU (y.ev fr) with
 |some n=>(match dM h sz n (y.ev fr) with|some new=>bif dO new then ORp (wM h sz (x.ev fr) n new) lo else .fail|none=>.fail)
 |none=>.fail
def kG (sz:Nat) (x y:aF):rX:=fun fr lo h=>match aU sz x y fr lo h with
 |.ok v lo h=>(match vW v h with|(v,h)=>.ok v lo h)
 |.fail=>.fail
def kH (z:List V) (x n:aF):rX:=fun fr lo h=>match n.ev fr with
 |.int k (.ofNat n)=>bif eqK k .i64&&Nat.ble n 16777216&&Nat.blt 0 n then (match x.ev fr with
  |.aj=>.ok (.hsl h.next 0 n none z.length) lo (h.new (.cells (rep z n)))
  |_=>.fail) else .fail
 |_=>.fail
def wO (sz:Nat) (x y:V) (n:Nat) (lo:Lo) (h:H):OR:=match x with
 |.hsl id off _ _ sz'=>bif Nat.beq sz sz' then (match dM h sz n y with
  |some new=>(match getCells h id with
   |some cs=>bif dO new then (match splice off cs new with
    |some cs=>.ok (.int .i64 (.ofNat n)) lo (h.set id (.cells cs))
    |none=>.fail) else .fail
   |none=>.fail)
  |none=>.fail) else .fail
 |_=>bif Nat.beq n 0 then .ok (.int .i64 0) lo h else .fail
def qF (sz:Nat) (x y:aF):rX:=fun fr lo h=>match gU (y.ev fr) with
 |some n=>(match lenOf h 0 (x.ev fr) with
  |some m=>wO sz (x.ev fr) (y.ev fr) (bif Nat.ble n m then n else m) lo h
  |none=>.fail)
 |none=>.fail
def qE (z:List V) (x:aF):rX:=fun fr lo h=>match x.ev fr with
 |.aj=>.ok .undef lo h
 |.list xs _=>(match xs with|[]=>.ok .undef lo h|_::_=>.fail)
 |.hsl id off len _ _=>bif dO z then (match getCells h id with
  |some cs=>(match splice off cs (rep z len) with|some cs=>.ok .undef lo (h.set id (.cells cs))|none=>.fail)
  |none=>.fail) else .fail
 |_=>.fail
def pI (x y:aF):rX:=fun fr lo h=>match x.ev fr with
 |.dF a o=>(match y.ev fr with
  |.dF b _=>bif Nat.beq a b then .fail else .ok (.dF a o) lo h
  |_=>.fail)
 |_=>.fail
def ay0:rX:=fun _ _ _=>.fail
def aZ (d:Nat) (o:l7):rX:=match o with
 |.mv x=>jh x
 |.pick c a b=>qG c a b
 |.alloc z=>dD d z
 |.bM z=>bI z
 |.yA x=>wV d x
 |.BR x=>yU x
 |.build z ps=>dB z ps
 |.lit z sz n ps=>fO z sz n ps
 |.mF a=>cu a
 |.nR sz a=>cO sz a
 |.store sz a x=>jT sz a x
 |.ji x=>cZ x
 |.eq n c x y=>iE n c x y
 |.bin op x y=>eY op x y
 |.not x=>fU x
 |.neg x=>xR x
 |.iF k x=>aS k x
 |.vS x=>oD x
 |.zK x=>rF x
 |.jV x=>jU x
 |.toStr x=>oG x
 |.gY t x=>kJ t x
 |.bJ fn a b=>bD fn a b
 |.mkMap=>EG
 |.mkSlice z l c=>gW z l c
 |.slice st sz x lo hi mx=>dh st sz x lo hi mx
 |.fieldAddr off x=>aK off x
 |.field ag off sz x=>bU ag off sz x
 |.aV sz x i=>aP sz x i
 |.qZ sz n x i=>sJ sz n x i
 |.index x i=>mV x i
 |.oM ag sz n x i=>kR ag sz n x i
 |.lookup kc z ok m k=>kS kc z ok m k
 |.bV kc m k x=>ni kc m k x
 |.wU z m k=>Ar z m k
 |.oU m s x=>vN m s x
 |.extract i x=>aX i x
 |.len c x=>eP c x
 |.cap x=>xQ x
 |.max x y=>vO x y
 |.min x y=>vP x y
 |.append sz x y=>aU sz x y
 |.lI z x n=>kH z x n
 |.copy sz x y=>qF sz x y
 |.clear z x=>qE z x
 |.nS x y=>pI x y
 |.kQ z l c=>jG z l c
 |.mG sz x y=>kG sz x y
 |.recover=>fun _ lo h=>.ok .nilIface lo h
 |.bad=>ay0
inductive Out where
 |fail
 |norm (fr:List V) (lo:Lo) (h:H)
 |jump (j:Jump) (fr:List V) (lo:Lo) (h:H)
 |val (v:V) (h:H)
 deriving Inhabited
def findLabel:aH→Nat→Option aH
 |.seq a b,l=>match findLabel a l with
  |some r=>some (.seq r b)
  |none=>findLabel b l
 |.label l',l=>bif Nat.beq l' l then some .skip else none
 |_,_=>none
inductive Cmd where
 |code (c:aH)
 |ops (l:List Ins)
 |draws (l:List Ins)
 |call (f:Nat) (args:List V)
 |app (f:V) (args:List V)
 |scope (c rest:aH)
 deriving Inhabited
structure ak where
 nt:Nat
 results:List (Nat×Bool×Bool×Nat)
 ext:Nat
 body:aH
 vW:Bool
 deriving Inhabited
def Hy (l:List Nat) (c:Nat) (i:Nat):Option Nat:=match l with
 |[]=>none
 |b::bs=>bif Nat.beq b c then some i else Hy bs c (i+1)
def ae0 (o:Option Nat):V:=match o with|some i=>.int .i64 (.ofNat i)|none=>.int .i64 (-1)
def V5 (l:List Nat) (c:Nat):Nat:=match l with
 |[]=>0
 |b::bs=>bif Nat.beq b c then V5 bs c+1 else V5 bs c
def ext (n:Nat) (args:List V) (h:H):Out:=match n,args with
 |2,[b,.int .u8 (.ofNat c)]=>bif Nat.blt c 256 then (match bytesIn h b with
  |some bs=>.val (ae0 (Hy bs c 0)) h
  |none=>.fail) else .fail
 |3,[.str b,.int .u8 (.ofNat c)]=>bif Nat.blt c 256 then .val (ae0 (Hy b c 0)) h else .fail
 |4,[b,.int .u8 (.ofNat c)]=>bif Nat.blt c 256 then (match bytesIn h b with
  |some bs=>.val (.int .i64 (.ofNat (V5 bs c))) h
  |none=>.fail) else .fail
 |_,_=>.fail
def eF (fr:List V) (d:Option Nat) (v:V):List V:=match d with|some t=>jW fr t v|none=>fr
def resV (fr:List V) (lo:Lo) (h:H):List (Nat×Bool×Bool×Nat)→Option (List V)
 |[]=>some []
 |(t,Jy,ag,sz)::r =>
  let v:Option V:=bif Jy then (match bg (aO fr t) lo h with|some cs=>mk ag (takeN sz cs)|none=>none) else some (aO fr t)
  match v with
  |none=>none
  |some v=>bif bY v then none else (match resV fr lo h r with|some vs=>some (v::vs)|none=>none)
abbrev Ih:=Cmd→List V→Lo→H→Out
def vI (ih:Ih) (b:aH) (o:Out):Out:=match o with
 |.norm fr lo h=>ih (.code b) fr lo h
 |.jump j fr lo h=>.jump j fr lo h
 |_=>.fail
def mP (id:Nat) (o:Out):Out:=match o with
 |.jump j fr lo h=>(match j with
  |.exit id'=>bif Nat.beq id' id then .norm fr lo h else .jump j fr lo h
  |_=>.jump j fr lo h)
 |o=>o
def pO (ih:Ih) (c:aH) (o:Out):Out:=match o with
 |.jump j fr lo h=>(match j with
  |.goto l=>(match findLabel c l with|some r=>ih (.scope c r) fr lo h|none=>.jump j fr lo h)
  |_=>.jump j fr lo h)
 |o=>o
def nT:List V→List V
 |[]=>[]
 |v::vs=>(match v with|.bf _ _=>.undef|v=>v)::nT vs
def getLoop (h:H) (id:Nat):Option zN:=match h.get id with
 |some o=>(match o with|.loop l=>some l|_=>none)
 |none=>none
def Dp (l:Nat) (fr:List V) (lo:Lo) (o:Out):Out:=match o with
 |.val _ h=>(match getLoop h l with
  |some lp=>bif Nat.beq lp.st 1 then .fail else (match lp.pending with
   |none=>.norm fr lo (h.del l)
   |some j=>.jump j fr lo (h.del l))
  |none=>.fail)
 |_=>.fail
def uI (ih:Ih) (f:aF) (ps:List Nat) (a b:aH) (fr:List V) (lo:Lo) (h:H):Out:=match f.ev fr with
 |.func fn first caps=>(match fn with
  |.func q=>Dp h.next fr lo (ih (.call q (first++(.func (.yield h.next) [] []::caps))) [] [] (h.new (.loop ⟨0,none,nT fr,ps,a,b⟩)))
  |_=>.fail)
 |_=>.fail
def Em (ih:Ih) (c:V) (a b:aH) (fr:List V) (lo:Lo) (h:H):Out:=match c with
 |.bool t=>bif t then ih (.code a) fr lo h else ih (.code b) fr lo h
 |_=>.fail
def dA (ih:Ih) (c:aH):List V→Lo→H→Out:=match c with
 |.skip=>.norm
 |.label _=>.norm
 |.region ops=>ih (.ops ops)
 |.draw ops=>ih (.draws ops)
 |.seq a b=>fun fr lo h=>vI ih b (ih (.code a) fr lo h)
 |.cond c a b=>fun fr lo h=>Em ih (c.ev fr) a b fr lo h
 |.block id c=>fun fr lo h=>mP id (ih (.code c) fr lo h)
 |.loop c=>fun fr lo h=>vI ih (.loop c) (ih (.code c) fr lo h)
 |.exit id=>.jump (.exit id)
 |.goto l=>.jump (.goto l)
 |.ret=>.jump .ret
 |.scope c=>ih (.scope c c)
 |.rangeFunc f ps a b=>uI ih f ps a b
def FU (ih:Ih) (os:List Ins) (fr:List V) (d:Option Nat) (o:OR):Out:=match o with
 |.ok v lo h=>ih (.ops os) (eF fr d v) lo h
 |.fail=>.fail
def FT (ih:Ih) (os:List Ins) (fr:List V) (d:Nat) (o:OR):Out:=match o with
 |.ok v lo h=>ih (.ops os) (jW (dI d fr) d v) lo h
 |.fail=>.fail
def LH (ih:Ih) (os:List Ins) (fr:List V) (lo:Lo) (d:Option Nat) (o:Out):Out:=match o with
 |.val v h=>ih (.ops os) (eF fr d v) lo h
 |_=>.fail
def eqO:Option Nat→Option Nat→Bool
 |none,none=>true
 |some a,some b=>Nat.beq a b
 |_,_=>false
mutual
def mY:V→V→Bool
 |.undef,.undef=>true
 |.bool a,.bool b=>bif a then b else !b
 |.int k a,.int l b=>eqK k l&&vZ a b
 |.str a,.str b=>kU a b
 |.nilPtr,.nilPtr=>true
 |.bf a b,.bf c d=>Nat.beq a c&&Nat.beq b d
 |.dF a b,.dF c d=>Nat.beq a c&&Nat.beq b d
 |.gX a,.gX b=>xu a b
 |.aj,.aj=>true
 |.list a x,.list b y=>(bif x then y else !y)&&xu a b
 |.hsl a b c x d,.hsl a' b' c' x' d'=>Nat.beq a a'&&Nat.beq b b'&&Nat.beq c c'&&Nat.beq d d'&&eqO x x'
 |.dV,.dV=>true
 |.map a,.map b=>Nat.beq a b
 |.nilFunc,.nilFunc=>true
 |.func (.func f) a b,.func (.func g) c d=>Nat.beq f g&&xu a c&&xu b d
 |.nilIface,.nilIface=>true
 |.iface t a,.iface u b=>Nat.beq t u&&mY a b
 |.agg a,.agg b=>xu a b
 |.tuple a,.tuple b=>xu a b
 |_,_=>false
def xu:List V→List V→Bool
 |[],[]=>true
 |a::as,b::bs=>mY a b&&xu as bs
 |_,_=>false
end
def vK (n:Nat):List Nat→Bool
 |[]=>false
 |x::xs=>Nat.beq x n||vK n xs
def Ee (ids:List Nat) (v:V):Bool:=match v with|.func fn _ _=>(match fn with|.func g=>vK g ids|_=>false)|_=>false
def bF (o:l7):Bool:=match o with|.alloc _=>true|.yA _=>true|_=>false
def qK (ih:Ih) (os:List Ins) (i:Ins):List V→Lo→H→Out:=match i with
 |.op d o=>(match d with
  |some t=>bif bF o then (fun fr lo h=>FT ih os fr t (aZ t o fr lo h)) else (fun fr lo h=>FU ih os fr d (aZ t o fr lo h))
  |none=>bif bF o then (fun _ _ _=>.fail) else fun fr lo h=>FU ih os fr none (aZ 0 o fr lo h))
 |.call d f args=>fun fr lo h=>bif iD (aF.evs args fr) then .fail else LH ih os fr lo d (ih (.call f (aF.evs args fr)) [] [] h)
 |.dyn d f args=>fun fr lo h=>bif iD (aF.evs args fr) then .fail else LH ih os fr lo d (ih (.app (f.ev fr) (aF.evs args fr)) [] [] h)
 |.defer ids f _=>fun fr lo h=>bif Ee ids (f.ev fr) then ih (.ops os) fr lo h else .fail
 |.grd _ _ _ _=>fun _ _ _=>.fail
 |.chk _ _ _=>fun _ _ _=>.fail
def qP (ih:Ih) (os:List Ins) (t:Nat) (b:Bool) (d:Option Nat) (i:Ins) (fr:List V) (lo:Lo) (h:H):Out:=match aO fr t with
 |.bool c=>bif (bif b then c else !c) then qK ih os i fr lo h else ih (.ops os) (eF fr d (.tuple [])) lo h
 |.tuple vs=>(match vs with|[]=>ih (.ops os) (eF fr d (.tuple [])) lo h|_::_=>.fail)
 |_=>.fail
def jQ (ih:Ih) (os:List Ins) (i:Ins):List V→Lo→H→Out:=match i with
 |.grd t b d i=>qP ih os t b d i
 |i=>qK ih os i
def fC (t:Nat) (o:l7) (fr:List V) (lo:Lo) (h:H):Bool:=match aZ t o fr lo h with
 |.ok v _ _=>mY v (aO fr t)
 |.fail=>false
def iM (g:Option (Nat×Bool)) (t:Nat) (o:l7) (fr:List V) (lo:Lo) (h:H):Bool:=match g with
 |none=>fC t o fr lo h
 |some (s,b)=>(match aO fr s with
  |.bool c=>bif (bif b then c else !c) then fC t o fr lo h else mY (.tuple []) (aO fr t)
  |.tuple vs=>(match vs with|[]=>mY (.tuple []) (aO fr t)|_::_=>false)
  |_=>false)
def yL (ih:Ih):Ih:=fun c fr lo h=>match c with
 |.ops _=>.norm fr lo h
 |c=>ih c fr lo h
def xE (k:List V→Lo→H→Out) (o:Out):Out:=match o with
 |.norm fr lo h=>k fr lo h
 |_=>.fail
def AV (ih:Ih) (i:Ins) (k:List V→Lo→H→Out):List V→Lo→H→Out:=match i with
 |.chk g t o=>fun fr lo h=>bif iM g t o fr lo h then k fr lo h else .fail
 |i=>fun fr lo h=>xE k (jQ (yL ih) [] i fr lo h)
def bW (ih:Ih):List Ins→List V→Lo→H→Out
 |[]=>.norm
 |i::is=>AV ih i (bW ih is)
def gG (ih:Ih) (l:List Ins):List V→Lo→H→Out:=match l with
 |[]=>.norm
 |i::os=>jQ ih os i
def setSt (l st:Nat) (pend:Option Jump) (lp:zN) (h:H):H:=h.set l (.loop ⟨st,pend,lp.fr,lp.params,lp.assign,lp.body⟩)
def um (l:Nat) (o:Out):Out:=match o with
 |.norm _ _ h=>(match getLoop h l with|some lp=>.val (.bool true) (setSt l 0 none lp h)|none=>.fail)
 |.jump j _ _ h=>(match getLoop h l with|some lp=>.val (.bool false) (setSt l 2 (some j) lp h)|none=>.fail)
 |_=>.fail
def Dq (ih:Ih) (l:Nat) (body:aH) (o:Out):Out:=match o with
 |.norm fr lo h=>(match getLoop h l with
  |some lp=>bif Nat.beq lp.st 0 then um l (ih (.code body) fr lo (setSt l 1 lp.pending lp h)) else .fail
  |none=>.fail)
 |_=>.fail
def sK:List Nat→List V→List V→Option (List V)
 |[],[],fr=>some fr
 |t::ts,v::vs,fr=>sK ts vs (jW fr t v)
 |_,_,_=>none
def rW (ih:Ih) (l:Nat) (args:List V) (h:H):Out:=match getLoop h l with
 |some lp=>bif Nat.beq lp.st 0 then (match sK lp.params args lp.fr with
   |some fr=>Dq ih l lp.body (ih (.code lp.assign) fr [] h)
   |none=>.fail) else .fail
 |none=>.fail
def Hg (ih:Ih) (f:V) (args:List V):List V→Lo→H→Out:=match f with
 |.func fn first caps=>(match fn with
  |.func g=>ih (.call g (first++(args++caps)))
  |.yield l=>(match first with|[]=>fun _ _ h=>rW ih l args h|_::_=>fun _ _ _=>.fail)
  |_=>fun _ _ _=>.fail)
 |_=>fun _ _ _=>.fail
def eG (vs:List V):V:=match vs with|[v]=>v|vs=>.tuple vs
def finish (fn:ak) (o:Option (List V)) (h:H):Out:=match o with
 |some vs=>bif fn.vW then (match vW (eG vs) h with|(v,h)=>.val v h) else .val (eG vs) h
 |none=>.fail
def leave (fn:ak) (fr:List V) (lo:Lo) (h:H):Out:=finish fn (resV fr lo h fn.results) h
def GK (fn:ak) (o:Out):Out:=match o with
 |.norm fr lo h=>leave fn fr lo h
 |.jump j fr lo h=>(match j with|.ret=>leave fn fr lo h|_=>.fail)
 |_=>.fail
def pad (n:Nat):List V→List V:=match n with
 |0=>fun xs=>xs
 |n+1=>fun xs=>match xs with
  |[]=>.undef::pad n []
  |x::xs=>x::pad n xs
def sQ (fns:Nat→Option ak) (ih:Ih) (f:Nat) (args:List V) (h:H):Out:=match fns f with
 |none=>.fail
 |some fn=>bif Nat.beq fn.ext 0 then GK fn (ih (.code fn.body) (pad fn.nt args) [] h) else ext fn.ext args h
def step (fns:Nat→Option ak) (ih:Ih) (c:Cmd):List V→Lo→H→Out:=match c with
 |.code c=>dA ih c
 |.ops l=>gG ih l
 |.draws l=>bW ih l
 |.call f args=>fun _ _ h=>sQ fns ih f args h
 |.app f args=>Hg ih f args
 |.scope c r=>fun fr lo h=>pO ih c (ih (.code r) fr lo h)
def flat:Code→Bool
 |.rangeFunc ..=>false
 |.region _ ops _=>ops.all fun o=>match o.op with|.defer _=>false|_=>true
 |.seq a b=>flat a&&flat b
 |.cond _ a b=>flat a&&flat b
 |.block _ c=>flat c
 |.loop c=>flat c
 |.scope c=>flat c
 |_=>true
def aF.slots:aF→List Nat
 |.tmp t=>[t]
 |.const _=>[]
def AP:Option aF→List Nat
 |none=>[]
 |some x=>x.slots
def pX:List aF→List Nat
 |[]=>[]
 |x::xs=>x.slots++pX xs
def KC:List (Nat×Nat×aF)→List Nat
 |[]=>[]
 |(_,_,x)::ps=>x.slots++KC ps
def l7.slots:l7→List Nat
 |.mv x|.yA x|.BR x|.mF x|.nR _ x|.ji x|.not x|.neg x|.iF _ x|.vS x|.zK x|.jV x|.toStr x|.gY _ x|.fieldAddr _ x|.field _ _ _ x|.extract _ x|.len _ x|.cap x|.clear _ x=>x.slots
 |.alloc _|.bM _|.mkMap|.recover|.bad=>[]
 |.pick a b c|.bV _ a b c|.oU a b c=>a.slots++(b.slots++c.slots)
 |.build _ ps|.lit _ _ _ ps=>KC ps
 |.store _ x y|.eq _ _ x y|.bin _ x y|.aV _ x y|.qZ _ _ x y|.index x y|.oM _ _ _ x y|.lookup _ _ _ x y|.wU _ x y|.max x y|.min x y|.append _ x y|.lI _ x y|.copy _ x y|.mkSlice _ x y|.nS x y|.kQ _ x y|.mG _ x y=>x.slots++y.slots
 |.bJ _ a b=>pX a++pX b
 |.slice _ _ x a b c=>x.slots++(AP a++(AP b++AP c))
def l7.cls:l7→Nat
 |.mv _|.pick _ _ _|.build _ _|.lit _ _ _ _|.ji _|.bin _ _ _|.not _|.neg _|.iF _ _|.vS _|.zK _|.jV _|.gY _ _|.bJ _ _ _|.slice _ _ _ _ _ _|.fieldAddr _ _|.field _ _ _ _|.aV _ _ _|.qZ _ _ _ _|.index _ _|.oM _ _ _ _ _|.extract _ _|.cap _|.max _ _|.min _ _=>0
 |.eq _ c _ _=>bif Nat.beq c 2 then 1 else 0
 |.len c _=>bif Nat.beq c 2 then 1 else 0
 |.mF _|.nR _ _|.toStr _|.lookup _ _ _ _ _=>1
 |_=>2
def Ins.slots:Ins→List Nat
 |.op _ o=>o.slots
 |.call _ _ l=>pX l
 |.dyn _ f l=>f.slots++pX l
 |.defer _ f l=>f.slots++pX l
 |.grd t _ _ i=>t::i.slots
 |.chk _ _ o=>o.slots
def Ins.dst:Ins→Option Nat
 |.op d _=>d
 |.call d _ _=>d
 |.dyn d _ _=>d
 |.defer _ _ _=>none
 |.grd _ _ d _=>d
 |.chk _ _ _=>none
def QH (a b:List Nat):Bool:=match a with
 |[]=>true
 |x::xs=>!(vK x b)&&QH xs b
end
section
open Go
theorem DZ {a b:Nat} (h:a≠b):Nat.beq a b=false:=by
 cases hq:Nat.beq a b with
 |true=>exact absurd (aJ hq) h
 |false=>rfl
theorem VR (a:Nat):Nat.beq a a=true:=Nat.beq_refl a
theorem T.FM {α:Type} (o:Option α):∀ (n:Nat) (t:T α) (i j:Nat),i<n→(T.lU o n t i).get j=if i=j then o else t.get j:=by
 intro n
 induction n with
 |zero=>intro t i j h;omega
 |succ n ih =>
  intro t i j h
  have hp:∀ (l r:T α) (p:Option α),(bif Nat.beq i 0 then T.node o l r else bif Nat.beq (i%2) 1 then .node p (T.lU o n l (i / 2)) r else .node p l (T.lU o n r (i / 2-1))).get j
    = if i=j then o else (T.node p l r).get j:=by
   intro l r p
   by_cases h0:i=0
   ·subst h0
    by_cases hj:j=0
    ·subst hj;simp [T.get]
    ·have hb:Nat.beq j 0=false:=DZ hj
     simp [T.get,hb,Ne.symm hj]
   ·have hb:Nat.beq i 0=false:=DZ h0
    by_cases hm:i%2=1
    ·have hm':Nat.beq (i%2) 1=true:=by simp [hm]
     simp only [hb,hm',cond_false,cond_true,T.get]
     by_cases hj:j=0
     ·subst hj;simp [h0]
     ·have hjb:Nat.beq j 0=false:=DZ hj
      simp only [hjb,cond_false]
      by_cases hjm:j%2=1
      ·have WU:Nat.beq (j%2) 1=true:=by simp [hjm]
       simp only [WU,cond_true]
       rw [ih _ _ _ (by omega)]
       by_cases e:i=j
       ·subst e;simp
       ·have:¬i / 2=j / 2:=by omega
        simp [e,this]
      ·have WU:Nat.beq (j%2) 1=false:=by
        cases hq:Nat.beq (j%2) 1 with
        |true=>exact absurd (aJ hq) hjm
        |false=>rfl
       simp only [WU,cond_false]
       have:¬i=j:=by intro e;subst e;exact hjm hm
       simp [this]
    ·have hm':Nat.beq (i%2) 1=false:=by
      cases hq:Nat.beq (i%2) 1 with
      |true=>exact absurd (aJ hq) hm
      |false=>rfl
     simp only [hb,hm',cond_false,T.get]
     by_cases hj:j=0
     ·subst hj;simp [h0]
     ·have hjb:Nat.beq j 0=false:=DZ hj
      simp only [hjb,cond_false]
      by_cases hjm:j%2=1
      ·have WU:Nat.beq (j%2) 1=true:=by simp [hjm]
       simp only [WU,cond_true]
       have:¬i=j:=by intro e;subst e;exact hm hjm
       simp [this]
      ·have WU:Nat.beq (j%2) 1=false:=by
        cases hq:Nat.beq (j%2) 1 with
        |true=>exact absurd (aJ hq) hjm
        |false=>rfl
       simp only [WU,cond_false]
       rw [ih _ _ _ (by omega)]
       by_cases e:i=j
       ·subst e;simp
       ·have:¬i / 2-1=j / 2-1:=by omega
        simp [e,this]
  cases t with
  |leaf =>
   have:=hp .leaf .leaf none
   have hl:(T.node none .leaf .leaf:T α).get j=T.leaf.get j:=by
    simp only [T.get]
    cases Nat.beq j 0<;>cases Nat.beq (j%2) 1<;>rfl
   rw [hl] at this
   exact this
  |node p l r=>exact hp l r p
theorem H.rQ (h:H) (i j:Nat) (o:Obj):(h.set i o).get j=if i=j then some o else h.get j:=T.FM _ _ _ _ _ (Nat.lt_succ_self i)
theorem H.wC (h:H) (i j:Nat):(h.del i).get j=if i=j then none else h.get j:=T.FM _ _ _ _ _ (Nat.lt_succ_self i)
theorem H.qw (h:H) (j:Nat) (o:Obj):(h.new o).get j=if h.next=j then some o else h.get j:=T.FM _ _ _ _ _ (Nat.lt_succ_self h.next)
@[simp] theorem H.aBG (h:H) (i:Nat) (o:Obj):(h.set i o).next=h.next:=rfl
@[simp] theorem H.aBE (h:H) (i:Nat):(h.del i).next=h.next:=rfl
@[simp] theorem H.aBF (h:H) (o:Obj):(h.new o).next=h.next+1:=rfl
structure G where
 ρ:Nat→Option (Nat×Nat)
 φ:Nat→Nat→Option Value
 pin:Nat→Prop
 aeT:∀ k,pin k→∃ o,φ k o≠none
structure G.le (g g':G):Prop where
 ρ:∀ i x,g.ρ i=some x→g'.ρ i=some x
 φ:∀ b o v,g.φ b o=some v→g'.φ b o=some v
 pin:∀ k,g.pin k↔g'.pin k
theorem G.le.refl (g:G):g.le g:=⟨fun _ _ h=>h,fun _ _ _ h=>h,fun _=>.rfl⟩
theorem G.le.trans {a b c:G} (h:a.le b) (k:b.le c):a.le c:=⟨fun i x e=>k.ρ i x (h.ρ i x e),fun b o v e=>k.φ b o v (h.φ b o v e),fun i=>(h.pin i).trans (k.pin i)⟩
theorem G.free {g:G} {b:Nat} (h:∀ o,g.φ b o=none):¬g.pin b:=fun hp=>let ⟨o,ho⟩:=g.aeT b hp;ho (h o)
inductive Rf (g:G):Fn→Fn→Prop
 |func (f:FuncId):Rf g (.func f) (.func f)
 |yield {i b n:Nat} (h:g.ρ i=some (b,n)):Rf g (.yield i) (.yield b)
inductive Rv (g:G):V→Value→Prop
 |undef (w:Value):Rv g .undef w
 |bool (b:Bool):Rv g (.bool b) (.bool b)
 |int (k:IntKind) (n:Int):Rv g (.int k n) (.int k n)
 |str (bs:ByteArray):Rv g (.str (bs.data.toList.map UInt8.toNat)) (.string bs)
 |nilPtr:Rv g .nilPtr (.pointer none)
 |dF {i b n:Nat} (off:Nat) (h:g.ρ i=some (b,n)):Rv g (.dF i off) (.pointer (some ⟨b,off,none⟩))
 |gX {cs:List V} {b o:Nat} (vs:Nat→Value) (h:∀ (j:Nat) (c:V),cs[j]?=some c→g.φ b (o+j)=some (vs j)) (hr:∀ (j:Nat) (c:V),cs[j]?=some c→Rv g c (vs j)):Rv g (.gX cs) (.pointer (some ⟨b,o,none⟩))
 |aj:Rv g .aj (.slice none 0 0)
 |list {xs:List V} {ex:Bool} {b o cap:Nat} (k:Nat) (vs:Nat→Nat→Value) (hk:∀ x∈xs,x.cells.length=k) (hc:xs.length≤cap) (he:ex=true→cap=xs.length) (hp:∀ x∈xs,Jz x=true→¬g.pin b)
   (h:∀ (i:Nat) (x:V) (j:Nat) (c:V),xs[i]?=some x→x.cells[j]?=some c→g.φ b (o+i*k+j)=some (vs i j)) (hr:∀ (i:Nat) (x:V) (j:Nat) (c:V),xs[i]?=some x→x.cells[j]?=some c→Rv g c (vs i j)) :
   Rv g (.list xs ex) (.slice (some ⟨b,o,none⟩) xs.length cap)
 |hsl {i b n off len sz c':Nat} {cap:Option Nat} (h:g.ρ i=some (b,n)) (hl:len≤c') (hc:∀ c,cap=some c→c'=c) (hn:off+c'*sz≤n) :
   Rv g (.hsl i off len cap sz) (.slice (some ⟨b,off,none⟩) len c')
 |dV:Rv g .dV (.map none)
 |map {i b n:Nat} (h:g.ρ i=some (b,n)):Rv g (.map i) (.map (some b))
 |nilFunc:Rv g .nilFunc .nilFunc
 |func {fn fn':Fn} {as bs:List V} {As Bs:Array Value} (hf:Rf g fn fn') (ha:as.length=As.size) (hb:bs.length=Bs.size)
   (has:∀ (i:Nat) (v:V) (w:Value),as[i]?=some v→As[i]?=some w→Rv g v w) (hbs:∀ (i:Nat) (v:V) (w:Value),bs[i]?=some v→Bs[i]?=some w→Rv g v w):Rv g (.func fn as bs) (.func fn' As Bs)
 |nilIface:Rv g .nilIface .nilIface
 |iface {v:V} {w:Value} (t:TypeId) (h:Rv g v w):Rv g (.iface t v) (.iface t w)
 |agg {cs:List V} {A:Array Value} (hl:cs.length=A.size) (h:∀ (i:Nat) (v:V) (w:Value),cs[i]?=some v→A[i]?=some w→Rv g v w):Rv g (.agg cs) (.agg A)
 |tuple {cs:List V} {A:Array Value} (hl:cs.length=A.size) (h:∀ (i:Nat) (v:V) (w:Value),cs[i]?=some v→A[i]?=some w→Rv g v w):Rv g (.tuple cs) (.tuple A)
theorem Rf.mono {g g':G} (hg:g.le g') {f f':Fn} (h:Rf g f f'):Rf g' f f':=by
 cases h with
 |func f=>exact .func f
 |yield h=>exact .yield (hg.ρ _ _ h)
theorem Rv.mono {g g':G} (hg:g.le g') {v:V} {w:Value} (h:Rv g v w):Rv g' v w:=by
 induction h with
 |undef w=>exact .undef w
 |bool b=>exact .bool b
 |int k n=>exact .int k n
 |str bs=>exact .str bs
 |nilPtr=>exact .nilPtr
 |dF off h=>exact .dF off (hg.ρ _ _ h)
 |gX vs h hr ih=>exact .gX vs (fun j c e=>hg.φ _ _ _ (h j c e)) ih
 |aj=>exact .aj
 |list k vs hk hc he hp h hr ih=>exact .list k vs hk hc he (fun x hx e hq=>hp x hx e ((hg.pin _).2 hq)) (fun i x j c e e'=>hg.φ _ _ _ (h i x j c e e')) ih
 |hsl h hl hc hn=>exact .hsl (hg.ρ _ _ h) hl hc hn
 |dV=>exact .dV
 |map h=>exact .map (hg.ρ _ _ h)
 |nilFunc=>exact .nilFunc
 |func hf ha hb has hbs i1 i2=>exact .func (hf.mono hg) ha hb i1 i2
 |nilIface=>exact .nilIface
 |iface t h ih=>exact .iface t ih
 |agg hl h ih=>exact .agg hl ih
 |tuple hl h ih=>exact .tuple hl ih
def kK (g:G) (vs:List V) (ws:List Value):Prop:=vs.length=ws.length∧∀ (i:Nat) (v:V) (w:Value),vs[i]?=some v→ws[i]?=some w→Rv g v w
theorem kK.mono {g g':G} (hg:g.le g') {v:List V} {w:List Value} (h:kK g v w):kK g' v w:=⟨h.1,fun i v w a b=>(h.2 i v w a b).mono hg⟩
theorem kK.nil (g:G):kK g [] []:=⟨rfl,fun i v w h=>by simp at h⟩
theorem kK.cons {g:G} {v:V} {w:Value} {vs:List V} {ws:List Value} (h:Rv g v w) (hs:kK g vs ws):kK g (v::vs) (w::ws) :=
 ⟨by simp [hs.1],fun i x y a b=>by
  cases i with
  |zero=>simp at a b;subst a;subst b;exact h
  |succ i=>simp at a b;exact hs.2 i x y a b⟩
theorem kK.y5 {g:G} {v:V} {vs:List V} {W:List Value} (h:kK g (v::vs) W):∃ w ws,W=w::ws∧Rv g v w∧kK g vs ws:=by
 obtain ⟨hl,hh⟩:=h
 cases W with
 |nil=>simp at hl
 |cons w ws=>exact ⟨w,ws,rfl,hh 0 v w rfl rfl,by simpa using hl,fun i x y a b=>hh (i+1) x y (by simpa using a) (by simpa using b)⟩
theorem kK.KW {g:G} {W:List Value} (h:kK g [] W):W=[]:=by
 cases W with
 |nil=>rfl
 |cons w ws=>have:=h.1;simp at this
theorem kK.append {g:G} {a b:List V} {A B:List Value} (h:kK g a A) (k:kK g b B):kK g (a++b) (A++B):=by
 induction a generalizing A with
 |nil=>rw [h.KW];exact k
 |cons x xs ih=>obtain ⟨w,ws,rfl,hx,hs⟩:=h.y5;exact .cons hx (ih hs)
theorem kK.get {g:G} {vs:List V} {ws:List Value} (h:kK g vs ws) {i:Nat} {v:V} (hv:vs[i]?=some v):∃ w,ws[i]?=some w∧Rv g v w:=by
 have hi:i<vs.length:=(iW.1 hv).1
 have hi':i<ws.length:=by rw [←h.1];exact hi
 exact ⟨ws[i],fM hi',h.2 i v _ hv (fM hi')⟩
theorem Rv.Ic {g:G} {cs:List V} {W:Value} (h:Rv g (.agg cs) W):∃ A,W=.agg A∧kK g cs A.toList:=by
 cases h with
 |agg hl h=>exact ⟨_,rfl,by simpa using hl,fun i v w a b=>h i v w a (by simpa using b)⟩
theorem Rv.NU {g:G} {cs:List V} {W:Value} (h:Rv g (.tuple cs) W):∃ A,W=.tuple A∧kK g cs A.toList:=by
 cases h with
 |tuple hl h=>exact ⟨_,rfl,by simpa using hl,fun i v w a b=>h i v w a (by simpa using b)⟩
theorem Rv.JJ {g:G} {cs:List V} {A:Array Value} (h:kK g cs A.toList):Rv g (.agg cs) (.agg A) :=
 .agg (by simpa using h.1) (fun i v w a b=>h.2 i v w a (by simpa using b))
theorem Rv.mkTuple {g:G} {cs:List V} {A:Array Value} (h:kK g cs A.toList):Rv g (.tuple cs) (.tuple A) :=
 .tuple (by simpa using h.1) (fun i v w a b=>h.2 i v w a (by simpa using b))
theorem Rv.cells {g:G} {v:V} {w:Value} (h:Rv g v w) (hu:v≠.undef):kK g v.cells w.cells.toList:=by
 have h0:=h
 cases h with
 |agg hl h=>exact ⟨by simpa [V.cells,Value.cells] using hl,fun i v w a b=>h i v w a (by simpa [Value.cells] using b)⟩
 |undef w=>exact absurd rfl hu
 |_=>exact kK.cons h0 (.nil _)
def Ro (P:Program) (comp:FuncId→Code→aH) (g:G) (ob:Obj) (b n:Nat) (w:World):Prop :=
 match ob with
 |.cells cs=>∃ (c:Array Value) (e:TypeId),w.heap[b]?=some (.cells c e (0,0))∧c.size=n∧cs.length≤n ∧
   (∀ (j:Nat) (x:V),cs[j]?=some x→∃ v,c[j]?=some v∧Rv g x v)
 |.map es=>∃ ents:Array MapEntry,w.heap[b]?=some (.map ents ents.size)∧ents.size=es.length ∧
   (∀ (i:Nat) (k x:V),es[i]?=some (k,x)→∃ e,ents[i]?=some e∧Rv g k e.key∧Rv g x e.val∧e.born=i)
 |.loop l=>∃ L:Loop,w.heap[b]?=some (.loop L)∧(L.state=match l.st with|0=>.ready|1=>.busy|2=>.done|_=>.exhausted) ∧
   (L.pending=l.pending.map fun|.ret=>.ret|.exit i=>.exit i|.goto i=>.goto i)∧kK g l.fr L.tmps.toList∧L.params.toList=l.params∧∃ f,comp f L.assign=l.assign∧comp f L.body=l.body∧flat L.assign=true∧flat L.body=true
structure Rw (P:Program) (comp:FuncId→Code→aH) (g:G) (σ:H) (w:World):Prop where
 frozen:∀ b o v,g.φ b o=some v→w.cell? ⟨b,o,none⟩=some v
 objs:∀ i ob,σ.get i=some ob→∃ b n,g.ρ i=some (b,n)∧Ro P comp g ob b n w∧∀ o,g.φ b o=none
 inj:∀ i j b n m,(σ.get i).isSome=true→(σ.get j).isSome=true→g.ρ i=some (b,n)→g.ρ j=some (b,m)→i=j
 fresh:∀ i,σ.next≤i→g.ρ i=none∧σ.get i=none
 bound:∀ i b n,g.ρ i=some (b,n)→b<w.heap.size
def Live (g:G) (σ:H) (b:Nat):Prop:=∃ i n,(σ.get i).isSome=true∧g.ρ i=some (b,n)
structure Frm (g:G) (σ:H) (B:Nat→Prop) (w w':World):Prop where
 os:w'.os=w.os
 tape:w'.tape=w.tape
 output:w'.output=w.output
 size:w.heap.size≤w'.heap.size
 block:∀ k,k<w.heap.size→¬Live g σ k→¬B k→((∀ o,g.φ k o=none)∨g.pin k)→w'.heap[k]?=w.heap[k]?
theorem Ro.mono {P:Program} {comp:FuncId→Code→aH} {g g':G} (hg:g.le g') {ob:Obj} {b n:Nat} {w w':World} (hb:w'.heap[b]?=w.heap[b]?) (h:Ro P comp g ob b n w):Ro P comp g' ob b n w':=by
 cases ob with
 |cells cs =>
  obtain ⟨c,e,h1,h2,h3,h4⟩:=h
  exact ⟨c,e,hb.trans h1,h2,h3,fun j x hx=>let ⟨v,a,r⟩:=h4 j x hx;⟨v,a,r.mono hg⟩⟩
 |map es =>
  obtain ⟨ents,h1,h2,h3⟩:=h
  exact ⟨ents,hb.trans h1,h2,fun i k x hx=>let ⟨e,a,r,s,t⟩:=h3 i k x hx;⟨e,a,r.mono hg,s.mono hg,t⟩⟩
 |loop l =>
  obtain ⟨L,h1,h2,h3,h4,h5⟩:=h
  exact ⟨L,hb.trans h1,h2,h3,h4.mono hg,h5⟩
end
section
open Go Go.RowKit
def G.bind (g:G) (i:Nat) (x:Nat×Nat):G:={ g with ρ:=fun j=>if j=i then some x else g.ρ j }
def G.freeze (g:G) (b:Nat) (c:Array Value):G:={ g with φ:=fun b' o=>if b'=b then c[o]? else g.φ b' o,pin:=fun k=>g.pin k∧k≠b,aeT:=fun k h=>let ⟨o,ho⟩:=g.aeT k h.1;⟨o,by rw [if_neg h.2];exact ho⟩ }
theorem G.uo {g:G} {i:Nat} (x:Nat×Nat) (h:g.ρ i=none):g.le (g.bind i x) :=
 ⟨fun j y e=>by
  by_cases hj:j=i
  ·subst hj;rw [h] at e;cases e
  ·simp [G.bind,hj,e],fun _ _ _ e=>e,fun _=>.rfl⟩
theorem G.BA {g:G} {b:Nat} (c:Array Value) (h:∀ o,g.φ b o=none):g.le (g.freeze b c) :=
 ⟨fun _ _ e=>e,fun b' o v e=>by
  by_cases hb:b'=b
  ·subst hb;rw [h] at e;cases e
  ·simp [G.freeze,hb,e],fun k=>⟨fun hk=>⟨hk,fun e=>G.free h (e▸hk)⟩,fun hk=>hk.1⟩⟩
@[simp] theorem G.oq (g:G) (i:Nat) (x:Nat×Nat):(g.bind i x).ρ i=some x:=by simp [G.bind]
theorem G.kL {g:G} {i j:Nat} (x:Nat×Nat) (h:j≠i):(g.bind i x).ρ j=g.ρ j:=by simp [G.bind,h]
@[simp] theorem G.aAl (g:G) (i:Nat) (x:Nat×Nat):(g.bind i x).φ=g.φ:=rfl
@[simp] theorem G.ax3 (g:G) (b:Nat) (c:Array Value):(g.freeze b c).ρ=g.ρ:=rfl
theorem G.wu (g:G) (b:Nat) (c:Array Value) (o:Nat):(g.freeze b c).φ b o=c[o]?:=by simp [G.freeze]
theorem G.jJ {g:G} {b b':Nat} (c:Array Value) (o:Nat) (h:b'≠b):(g.freeze b c).φ b' o=g.φ b' o:=by simp [G.freeze,h]
theorem cell_of_block {w w':World} {a:Addr} (h:w'.heap[a.block]?=w.heap[a.block]?):w'.cell? a=w.cell? a:=by
 unfold World.cell?;rw [h]
theorem Lh {w:World} {a:Addr} {v:Value} (h:w.cell? a=some v):a.block<w.heap.size:=by
 unfold World.cell? at h
 cases hh:w.heap[a.block]? with
 |none=>rw [hh] at h;simp at h
 |some o=>exact (fG.1 hh).1
theorem rZ {w:World} {b:Nat} {c:Array Value} {e:TypeId} {fz:Nat×Nat} (h:w.heap[b]?=some (.cells c e fz)) (o:Nat):w.cell? ⟨b,o,none⟩=c[o]?:=by
 simp [World.cell?,h]
variable {P:Program} {comp:FuncId→Code→aH} {g:G} {σ:H} {w w':World}
theorem Ro.lt {ob:Obj} {b n:Nat} (h:Ro P comp g ob b n w):b<w.heap.size:=by
 cases ob with
 |cells cs=>obtain ⟨c,e,h1,_⟩:=h;exact (fG.1 h1).1
 |map es=>obtain ⟨ents,h1,_⟩:=h;exact (fG.1 h1).1
 |loop l=>obtain ⟨L,h1,_⟩:=h;exact (fG.1 h1).1
theorem Rw.Yj (h:Rw P comp g σ w) {b o:Nat} {v:Value} (e:g.φ b o=some v):b<w.heap.size:=Lh (h.frozen b o v e)
theorem Rw.nC (h:Rw P comp g σ w) {b:Nat} (hb:w.heap.size≤b) (o:Nat):g.φ b o=none:=by
 cases e:g.φ b o with
 |none=>rfl
 |some v=>exact absurd (h.Yj e) (by omega)
theorem Rw.same (h:Rw P comp g σ w) (hs:w.heap.size≤w'.heap.size) (hb:∀ k,k<w.heap.size→w'.heap[k]?=w.heap[k]?):Rw P comp g σ w' where
 frozen b o v e:=(cell_of_block (a:=⟨b,o,none⟩) (hb b (h.Yj e))).trans (h.frozen b o v e)
 objs i ob e:=let ⟨b,n,r,k,f⟩:=h.objs i ob e;⟨b,n,r,k.mono (.refl g) (hb b k.lt),f⟩
 inj:=h.inj
 fresh:=h.fresh
 bound i b n e:=Nat.lt_of_lt_of_le (h.bound i b n e) hs
theorem Rw.add (h:Rw P comp g σ w) {b n:Nat} {ob:Obj} (hl:¬Live g σ b) (hp:∀ o,g.φ b o=none) (ho:Ro P comp (g.bind σ.next (b,n)) ob b n w) :
  Rw P comp (g.bind σ.next (b,n)) (σ.new ob) w:=by
 have hle:g.le (g.bind σ.next (b,n)):=G.uo _ (h.fresh _ (bC _)).1
 refine ⟨h.frozen,fun i ob' e=>?_,fun i j b' n' m hi hj ei ej=>?_,fun i hi=>?_,fun i b' n' e=>?_⟩
 ·rw [H.qw] at e
  by_cases hi:σ.next=i
  ·subst hi
   simp at e;subst e
   exact ⟨b,n,by simp,ho,hp⟩
  ·simp [hi] at e
   obtain ⟨b',n',r,k,f⟩:=h.objs i ob' e
   exact ⟨b',n',by rw [G.kL _ (Ne.symm hi)];exact r,k.mono hle rfl,f⟩
 ·rw [H.qw] at hi hj
  by_cases e1:σ.next=i
  ·by_cases e2:σ.next=j
   ·exact e1.symm.trans e2
   ·exfalso
    subst e1
    simp [e2] at hj
    rw [G.kL _ (Ne.symm e2)] at ej
    simp at ei
    exact hl ⟨j,m,hj,by rw [ei.1];exact ej⟩
  ·by_cases e2:σ.next=j
   ·exfalso
    subst e2
    simp [e1] at hi
    rw [G.kL _ (Ne.symm e1)] at ei
    simp at ej
    exact hl ⟨i,n',hi,by rw [ej.1];exact ei⟩
   ·simp [e1] at hi
    simp [e2] at hj
    rw [G.kL _ (Ne.symm e1)] at ei
    rw [G.kL _ (Ne.symm e2)] at ej
    exact h.inj i j b' n' m hi hj ei ej
 ·have hi':σ.next+1≤i:=hi
  have hne:i≠σ.next:=by omega
  rw [G.kL _ hne,H.qw]
  simp [Ne.symm hne]
  exact h.fresh i (by omega)
 ·by_cases hi:i=σ.next
  ·subst hi;simp at e;rw [←e.1];exact ho.lt
  ·rw [G.kL _ hi] at e;exact h.bound i b' n' e
theorem Rw.del (h:Rw P comp g σ w) (i:Nat):Rw P comp g (σ.del i) w where
 frozen:=h.frozen
 objs j ob e:=by
  rw [H.wC] at e
  by_cases hi:i=j
  ·simp [hi] at e
  ·simp [hi] at e;exact h.objs j ob e
 inj j k b n m hj hk ej ek:=by
  rw [H.wC] at hj hk
  by_cases e1:i=j
  ·simp [e1] at hj
  ·by_cases e2:i=k
   ·simp [e2] at hk
   ·simp [e1] at hj;simp [e2] at hk;exact h.inj j k b n m hj hk ej ek
 fresh j hj:=by
  have:=h.fresh j hj
  refine ⟨this.1,?_⟩
  rw [H.wC]
  by_cases e:i=j<;>simp [e,this.2]
 bound:=h.bound
theorem Rw.put (h:Rw P comp g σ w) {i b n:Nat} {ob:Obj} (hi:(σ.get i).isSome=true) (hr:g.ρ i=some (b,n)) (hs:w'.heap.size=w.heap.size)
  (hb:∀ k,k≠b→w'.heap[k]?=w.heap[k]?) (ho:Ro P comp g ob b n w'):Rw P comp g (σ.set i ob) w':=by
 have OU:∀ o,g.φ b o=none:=by
  cases e:σ.get i with
  |none=>simp [e] at hi
  |some ob0 =>
   obtain ⟨b',n',r,_,f⟩:=h.objs i ob0 e
   rw [hr] at r;cases r;exact f
 refine ⟨fun b' o v e=>?_,fun j ob' e=>?_,fun j k b' n' m hj hk ej ek=>?_,fun j hj=>?_,fun j b' n' e=>by rw [hs];exact h.bound j b' n' e⟩
 ·have hne:b'≠b:=by intro e';subst e';rw [OU] at e;cases e
  exact (cell_of_block (a:=⟨b',o,none⟩) (hb b' hne)).trans (h.frozen b' o v e)
 ·rw [H.rQ] at e
  by_cases hij:i=j
  ·subst hij;simp at e;subst e;exact ⟨b,n,hr,ho,OU⟩
  ·simp [hij] at e
   obtain ⟨b',n',r,k,f⟩:=h.objs j ob' e
   have hne:b'≠b:=by
    intro e';subst e'
    exact hij (h.inj i j b' n n' hi (by simp [e]) hr r)
   exact ⟨b',n',r,k.mono (.refl g) (hb b' hne),f⟩
 ·have aux:∀ l,(((σ.set i ob).get l)).isSome=true→(σ.get l).isSome=true:=by
   intro l hl
   rw [H.rQ] at hl
   by_cases e1:i=l
   ·subst e1;exact hi
   ·simpa [e1] using hl
  exact h.inj j k b' n' m (aux j hj) (aux k hk) ej ek
 ·have:=h.fresh j hj
  refine ⟨this.1,?_⟩
  rw [H.rQ]
  by_cases e1:i=j
  ·subst e1;simp [this.2] at hi
  ·simp [e1,this.2]
theorem Rw.freeze (h:Rw P comp g σ w) {b:Nat} {c:Array Value} {e:TypeId} {fz:Nat×Nat} (hw:w.heap[b]?=some (.cells c e fz)) (hl:¬Live g σ b) (hp:∀ o,g.φ b o=none) :
  Rw P comp (g.freeze b c) σ w:=by
 have hle:=G.BA (g:=g) c hp
 refine ⟨fun b' o v e'=>?_,fun i ob e'=>?_,h.inj,h.fresh,h.bound⟩
 ·by_cases hb:b'=b
  ·subst hb
   rw [G.wu] at e'
   rw [rZ hw];exact e'
  ·rw [G.jJ _ _ hb] at e'
   exact h.frozen b' o v e'
 ·obtain ⟨b',n,r,k,f⟩:=h.objs i ob e'
  have hb:b'≠b:=by intro e1;subst e1;exact hl ⟨i,n,by simp [e'],r⟩
  exact ⟨b',n,r,k.mono hle rfl,fun o=>by rw [G.jJ _ _ hb];exact f o⟩
theorem Live.lt (h:Rw P comp g σ w) {b:Nat} (hl:Live g σ b):b<w.heap.size:=let ⟨i,n,_,r⟩:=hl;h.bound i b n r
theorem uz (h:Rw P comp g σ w):¬Live g σ w.heap.size:=fun hl=>absurd (hl.lt h) (by omega)
theorem Rw.alloc (h:Rw P comp g σ w) (o:Go.Obj):Rw P comp g σ (w.alloc o) :=
 h.same (by simp) (fun k hk=>Below.heap_alloc w o k hk)
theorem Rw.acj (h:Rw P comp g σ w) (c:Array Value) (e:TypeId) (fz:Nat×Nat):g.le (g.freeze w.heap.size c)∧Rw P comp (g.freeze w.heap.size c) σ (w.alloc (.cells c e fz)) :=
 ⟨G.BA c fun o=>h.nC (bC _) o,(h.alloc _).freeze (World.alloc_heap_new w _) (uz h) fun o=>h.nC (bC _) o⟩
end
section
open Go
def cV:Nat→Value→V
 |0,_=>.undef
 |n+1,v=>match v with
 |.bool b=>.bool b
 |.int k n=>.int k n
 |.string s=>.str (s.data.toList.map UInt8.toNat)
 |.pointer none=>.nilPtr
 |.slice none 0 0=>.aj
 |.map none=>.dV
 |.nilFunc=>.nilFunc
 |.nilIface=>.nilIface
 |.func (.func f) first cap=>.func (.func f) (first.toList.map (cV n)) (cap.toList.map (cV n))
 |.agg cs=>.agg (cs.toList.map (cV n))
 |.tuple cs=>.tuple (cs.toList.map (cV n))
 |.iface t v=>.iface t (cV n v)
 |_=>.undef
def bQ:Operand→Option aF
 |.tmp t=>some (.tmp t)
 |.const v=>some (.const (cV 5 v))
 |.func f=>some (.const (.func (.func f) [] []))
 |.global _=>none
structure Hints where
 hp:Nat→Nat→Bool
 fr:Nat→Bool
 fz:Nat→Bool
 idle:List Nat
def kM (P:Program) (t:TypeId):Option Nat:=(P.info? t).map (·.size)
def mg (P:Program) (t:TypeId):Option V:=do
 let i ←P.info? t
 let z ←i.zero
 match cV 5 z with
 |.undef=>none
 |v=>pure v
def Fj (P:Program) (t:TypeId):Option Bool:=do
 match ←P.underlying t with
 |.struct _|.array _ _=>pure true
 |_=>pure false
def Fp (P:Program) (t:TypeId) (i:Nat):Option (Nat×Bool×Nat):=do
 match ←P.underlying t with
 |.struct fs=>do
  let f ←fs[i]?
  pure (f.offset,←Fj P f.type,←kM P f.type)
 |_=>none
def isC:Operand→Bool|.const _=>true|_=>false
def adW (P:Program) (t:TypeId) (x y:Operand):Option Nat:=do
 match ←P.underlying t with
 |.int _|.string=>pure 0
 |.bool=>pure 1
 |.pointer e=>if (←kM P e)=0 then none else pure 2
 |.slice _=>pure 3
 |.map _ _=>pure 4
 |.func _ _ _=>pure 5
 |.interface _=>if isC x||isC y then pure 6 else none
 |_=>none
def aaA (P:Program) (t:TypeId):Option Nat:=do
 match ←P.underlying t with
 |.int _=>pure 0
 |.string=>pure 1
 |.bool=>pure 3
 |.pointer e=>if (←kM P e)=0 then none else pure 2
 |_=>none
def Lj (P:Program) (e:TypeId):Option Nat:=do
 let i ←P.info? e
 let z ←mg P e
 if i.size=0||65536<i.bytes||z.cells.length≠i.size then none else pure i.size
def cOp (P:Program) (H:Hints) (f:Nat) (o:Oper):Option l7 :=
 let d:=o.dst.getD 0
 match o.op with
 |.move x|.assign x=>do pure (.mv (←bQ x))
 |.pick c a b=>do pure (.pick (←bQ c) (←bQ a) (←bQ b))
 |.alloc t=>do
  let z:=(←mg P t).cells
  pure (if H.hp f d then .bM z else .alloc z)
 |.box _ x=>do
  let x ←bQ x
  pure (if H.hp f d then .BR x else .yA x)
 |.build t ps=>do
  let z ←mg P t
  match ←P.underlying t with
  |.struct fs=>do
   let places ←fs.toList.mapM fun f=>(P.info? f.type).map fun i=>(f.offset,i.size)
   let ps ←ps.toList.mapM fun (q:Nat×Operand)=>do
    let p ←places[q.1]?
    let x ←bQ q.2
    pure (p.1,p.2,x)
   pure (.build z.cells ps)
  |.array _ e=>do
   let s ←kM P e
   let ps ←ps.toList.mapM fun (q:Nat×Operand)=>do
    let x ←bQ q.2
    pure (q.1*s,s,x)
   pure (.build z.cells ps)
  |_=>none
 |.buildSlice t n ps=>do
  match ←P.underlying t with
  |.slice e=>do
   let s ←kM P e
   let z ←mg P e
   let ps ←ps.toList.mapM fun (q:Nat×Operand)=>do
    let x ←bQ q.2
    pure (q.1*s,s,x)
   if n*s > 2 ^ 20||s=0||z.cells.length≠s then none else
   pure (.lit z.cells s n ps)
  |_=>none
 |.load t a=>do
  let a ←bQ a
  if ←Fj P t then pure (.nR (←kM P t) a) else pure (.mF a)
 |.store t a x=>do pure (.store (←kM P t) (←bQ a) (←bQ x))
 |.nilCheck x=>do pure (.ji (←bQ x))
 |.binOp .eql t x y _=>do pure (.eq false (←adW P t x y) (←bQ x) (←bQ y))
 |.binOp .neq t x y _=>do pure (.eq true (←adW P t x y) (←bQ x) (←bQ y))
 |.binOp b _ x y _=>do pure (.bin b (←bQ x) (←bQ y))
 |.unOp .not _ x=>do pure (.not (←bQ x))
 |.unOp .neg _ x=>do pure (.neg (←bQ x))
 |.convert s t x=>do
  match ←P.underlying s,←P.underlying t with
  |_,.int k=>do pure (.iF k (←bQ x))
  |.string,.string=>do pure (.vS (←bQ x))
  |.slice e,.slice _=>do
   match ←P.underlying e with
   |.int .u8=>if s==t then do pure (.zK (←bQ x)) else none
   |_=>none
  |.string,.slice e=>do
   match ←P.underlying e with
   |.int .u8=>do pure (.jV (←bQ x))
   |_=>none
  |.slice e,.string=>do
   match ←P.underlying e with
   |.int .u8=>do pure (.toStr (←bQ x))
   |_=>none
  |_,_=>none
 |.makeInterface t x=>do
  match ←P.underlying t with
  |.interface _=>none
  |_=>pure (.gY t (←bQ x))
 |.makeFunc (.func f) a b=>do pure (.bJ (.func f) (←a.toList.mapM bQ) (←b.toList.mapM bQ))
 |.makeMap _ none=>pure .mkMap
 |.makeSlice t l c=>do
  match ←P.underlying t with
  |.slice e=>do
   let _ ←Lj P e
   if H.fz f then pure (.kQ (←mg P e).cells (←bQ l) (←bQ c)) else pure (.mkSlice (←mg P e).cells (←bQ l) (←bQ c))
  |_=>none
 |.slice t x lo hi mx=>do
  match ←P.underlying t with
  |.slice e=>do pure (.slice false (←kM P e) (←bQ x) (←lo.mapM bQ) (←hi.mapM bQ) (←mx.mapM bQ))
  |.string=>do pure (.slice true 1 (←bQ x) (←lo.mapM bQ) (←hi.mapM bQ) (←mx.mapM bQ))
  |_=>none
 |.fieldAddr t x i=>do
  let (o,_,s) ←Fp P t i
  if s=0 then none else pure (.fieldAddr o (←bQ x))
 |.field t x i=>do
  let (o,a,s) ←Fp P t i
  pure (.field a o s (←bQ x))
 |.indexAddr t x i=>do
  match ←P.underlying t with
  |.slice e=>do pure (.aV (←kM P e) (←bQ x) (←bQ i))
  |.array n e=>do pure (.qZ (←kM P e) n (←bQ x) (←bQ i))
  |_=>none
 |.index t x i=>do
  match ←P.underlying t with
  |.string=>do pure (.index (←bQ x) (←bQ i))
  |.array n e=>do pure (.oM (←Fj P e) (←kM P e) n (←bQ x) (←bQ i))
  |_=>none
 |.lookup t x i ok=>do
  match ←P.underlying t with
  |.map kt e=>do pure (.lookup (←aaA P kt) (←mg P e) ok (←bQ x) (←bQ i))
  |_=>none
 |.mapUpdate t m k x|.insert t m k x=>do
  match ←P.underlying t with
  |.map kt _=>do pure (.bV (←aaA P kt) (←bQ m) (←bQ k) (←bQ x))
  |_=>none
 |.extract x i=>do pure (.extract i (←bQ x))
 |.call { callee:=.builtin b,args,argTypes } =>
  match b,args.toList with
  |.len,[x]=>do
   match ←P.underlying (←argTypes[0]?) with
   |.array n _=>pure (.mv (.const (.int .i64 n)))
   |.slice _=>do pure (.len 0 (←bQ x))
   |.string=>do pure (.len 1 (←bQ x))
   |.map _ _=>do pure (.len 2 (←bQ x))
   |_=>none
  |.cap,[x]=>do
   match ←P.underlying (←argTypes[0]?) with
   |.slice _=>do pure (.cap (←bQ x))
   |_=>none
  |.max,[x,y]=>do pure (.max (←bQ x) (←bQ y))
  |.min,[x,y]=>do pure (.min (←bQ x) (←bQ y))
  |.append,[x,y]=>do
   match ←P.underlying (←argTypes[0]?) with
   |.slice e=>do
    let s ←Lj P e
    match ←P.underlying (←argTypes[1]?) with
    |.int _=>do pure (.lI (←mg P e).cells (←bQ x) (←bQ y))
    |.slice _=>do if H.fz f then pure (.mG s (←bQ x) (←bQ y)) else pure (.append s (←bQ x) (←bQ y))
    |.string=>do pure (.append s (←bQ x) (←bQ y))
    |_=>none
   |_=>none
  |.copy,[x,y]=>do
   match ←P.underlying (←argTypes[0]?) with
   |.slice e=>do pure (.copy (←kM P e) (←bQ x) (←bQ y))
   |_=>none
  |.clear,[x]=>do
   match ←P.underlying (←argTypes[0]?) with
   |.slice e=>do
    let _ ←Lj P e
    pure (.clear (←mg P e).cells (←bQ x))
   |_=>none
  |_,_=>none
 |_=>none
def ug (P:Program) (H:Hints) (f:Nat) (o:Oper):Option Ins :=
 match o.op with
 |.call { callee:=.value (.func g),args,.. }=>do pure (.call o.dst g (←args.toList.mapM bQ))
 |.call { callee:=.value g,args,.. }=>do pure (.dyn o.dst (←bQ g) (←args.toList.mapM bQ))
 |.defer { callee:=.value g,args,.. }=>if o.dst.isSome then none else do pure (.defer H.idle (←bQ g) (←args.toList.mapM bQ))
 |_=>do pure (.op o.dst (←cOp P H f o))
def gK (P:Program) (H:Hints) (f:Nat) (ops:Array Oper) (o:Oper):Ins :=
 let i:=(ug P H f o).getD (.op none .bad)
 match o.guard with
  |none=>i
  |some (j,b)=>match (ops[j]?).bind (·.dst) with
   |some t=>.grd t b o.dst i
   |none=>.op none .bad
def masks (ops:List Oper):List Nat:=ops.foldl (fun acc o=>acc++[o.after.toList.foldl (fun s e=>if Region.binds .any e then s ||| 2 ^ e.on ||| acc.getD e.on 0 else s) 0]) []
def vG (o:Oper) (i:Ins):Nat:=match o.op with
 |.assign _=>2
 |_=>match i with
  |.op (some _) (.bM _)=>3
  |.op (some _) v=>v.cls
  |.grd _ _ (some d) (.op (some d') v)=>bif Nat.beq d d' then (match v.cls with|0=>0|1=>1|_=>2) else 2
  |_=>2
structure iU where
 chk:List Nat
 pre:List Nat
 lD:List Nat
 eff:Option Nat
 deriving Inhabited
def stages (cls ms:Nat→Nat) (n:Nat) (jZ:List Nat):List iU :=
 let N:=(List.range n).filter fun i=>cls i<2
 let A:=(List.range n).filter fun i=>cls i==3
 let home:=fun i=>(jZ.filter fun e=>(ms i).testBit e).length
 let rec go:List Nat→Nat→List Nat→Option Nat→List iU
  |[],k,done,_=>[⟨if k=0 then [] else N.filter fun i=>cls i==1&&home i<k&&(jZ.take k).all fun e=>!(ms e).testBit i,N.filter (fun i=>home i==k),A.filter (fun a=>!done.contains a),none⟩]
  |e::es,k,done,_ =>
   let al:=A.filter fun a=>(ms e).testBit a&&!done.contains a
   ⟨if k=0 then [] else N.filter fun i=>cls i==1&&home i<k&&(jZ.take k).all fun e=>!(ms e).testBit i,N.filter (fun i=>home i==k),al,some e⟩::go es (k+1) (done++al) (some e)
 go jZ 0 [] none
def Ce:Ins→Option Ins
 |.op (some d) o=>some (.chk none d o)
 |.grd t b (some d) (.op (some _) o)=>some (.chk (some (t,b)) d o)
 |_=>none
def U6 (ins:Nat→Ins) (s:iU):List Ins:=s.chk.map (fun i=>(Ce (ins i)).getD (.op none .bad))++s.pre.map ins++s.lD.map ins++s.eff.toList.map ins
def flatten (ins:Nat→Ins) (l:List iU):List Ins:=l.flatMap (U6 ins)
def ou (ins:Nat→Ins) (l:List Nat):List Nat:=match l with
 |[]=>[]
 |i::is=>(match (ins i).dst with|some d=>d::ou ins is|none=>ou ins is)
def rdd (i:Ins):List Nat:=match i.dst with|some d=>d::i.slots|none=>i.slots
def J4 (ins:Nat→Ins):List Nat→Bool
 |[]=>true
 |i::is=>QH (ins i).slots (ou ins (i::is))&&QH (rdd (ins i)) (ou ins is)&&J4 ins is
def xg (p:Nat→Bool):List Nat→Bool
 |[]=>true
 |i::is=>p i&&xg p is
def JW (p:Nat→Bool):Option Nat→Bool
 |none=>true
 |some i=>p i
def uJ:List Nat→Bool
 |[]=>true
 |x::xs=>!(vK x xs)&&uJ xs
def qL (ms:Nat→Nat) (win:List Nat) (eff:Option Nat):List Nat:=match eff with|none=>win|some e=>win.filter fun i=>!(ms e).testBit i
def lX (ins:Nat→Ins) (cls ms:Nat→Nat) (n:Nat) (aL:List Nat):List iU→List Nat→List Nat→Option Nat→List Nat→List Nat→Bool
 |[],_,_,eff,born,_=>eff.isNone&&xg (fun a=>vK a born) aL
 |s::rest,win,lD,eff,born,jZ =>
  xg (fun i=>QH (rdd (ins i)) (ou ins lD++(ou ins eff.toList++ou ins s.pre))&&(!(Nat.beq (cls i) 1)||vK i s.chk)) (qL ms win eff)
  && xg (fun i=>vK i (qL ms win eff)&&(Ce (ins i)).isSome) s.chk
  && J4 ins s.pre&&xg (fun i=>Nat.blt (cls i) 2&&JW (fun e=>(ms i).testBit e) eff) s.pre
  && xg (fun a=>Nat.beq (cls a) 3&&JW (fun e=>(ms e).testBit a) s.eff&&!(vK a born)) s.lD&&uJ s.lD
  && JW (fun e=>Nat.beq (cls e) 2&&Nat.blt e n&&xg (fun e'=>(ms e).testBit e') (jZ++eff.toList)&&xg (fun a=>!((ms e).testBit a)||vK a (born++s.lD)) aL) s.eff
  && (s.eff.isSome||rest.isEmpty)
  && lX ins cls ms n aL rest (qL ms win eff++s.pre) s.lD s.eff (born++s.lD) (jZ++eff.toList)
def BI:Ins→Bool
 |.op _ o=>!(bF o)
 |.grd _ _ d j=>eqO d j.dst&&(match j with|.op _ o=>!(bF o)|.grd _ _ _ _=>false|_=>true)
 |_=>true
def pW (l:List iU):List Nat:=l.flatMap (·.pre)
def jE (l:List iU):List Nat:=l.flatMap fun s=>s.eff.toList
def zU (ins:Nat→Ins) (cls ms:Nat→Nat) (n:Nat) (l:List iU):Bool :=
 let N:=(List.range n).filter fun i=>!(Nat.beq (cls i) 2)
 let E:=(List.range n).filter fun i=>Nat.beq (cls i) 2
 let A:=(List.range n).filter fun i=>Nat.beq (cls i) 3
 xg (fun i=>Nat.blt (cls i) 2&&vK i (pW l)||Nat.beq (cls i) 2&&vK i (jE l)||Nat.beq (cls i) 3) (List.range n)
 && uJ (ou ins N)&&xg (fun i=>(ins i).dst.isSome) N&&QH (ou ins E) (ou ins N)
 && xg (fun i=>xg (fun j=>match (ins j).dst with
   |some t=>!(vK t (ins i).slots)||((ms i).testBit j&&(Nat.beq (cls i) 2||!(Nat.beq (cls j) 3)))
   |none=>true) N) ((List.range n).filter fun i=>!(Nat.beq (cls i) 3))
 && xg (fun i=>BI (ins i)) (List.range n)
 && lX ins cls ms n A l [] [] none [] []
def nX:List Oper→Nat→Bool
 |[],_=>true
 |o::os,i=>(o.after.toList.all fun e=>!(Region.binds .any e)||Nat.blt e.on i)&&nX os (i+1)
def gZ (H:Hints):Hints:={ H with hp:=fun _ _=>true }
def PS (P:Program) (H:Hints) (f:Nat) (ops:Array Oper):Option (List iU) :=
 let il:=ops.toList.map (gK P (gZ H) f ops)
 let ins:=fun i=>il.getD i (.op none .bad)
 let ml:=masks ops.toList
 let ms:=fun i=>ml.getD i 0
 let cl:=ops.toList.map fun o=>vG o (gK P (gZ H) f ops o)
 let cls:=fun i=>cl.getD i 2
 let n:=ops.size
 let l:=stages cls ms n ((List.range n).filter fun i=>cls i==2)
 if zU ins cls ms n l&&nX ops.toList 0&&!(l.isEmpty) then some l else none
def vH (l:List Nat):Bool:=match l with|[]=>true|_=>false
def QS (a b:Option Nat):Bool:=match a,b with|none,none=>true|some x,some y=>Nat.beq x y|_,_=>false
def Ql (e2:Nat) (r:List iU):Bool:=match r with
 |[b,c]=>vH b.chk&&vH b.pre&&vH b.lD&&QS b.eff (some e2)&&vH c.chk&&vH c.pre&&vH c.lD&&QS c.eff none
 |_=>false
def AY (e1 e2:Nat):List iU→Bool
 |[]=>true
 |s::r=>(!(QS s.eff (some e1))||(vH s.lD&&Ql e2 r))&&AY e1 e2 r
def PX (ins:Nat→Ins) (cls ms:Nat→Nat) (n:Nat):Bool :=
 xg (fun i=>xg (fun j=>match (ins j).dst with
   |some t=>!(vK t (ins i).slots)||((ms i).testBit j&&(Nat.beq (cls i) 2||!(Nat.beq (cls j) 3)))
   |none=>true) ((List.range n).filter fun i=>!(Nat.beq (cls i) 2))) ((List.range n).filter fun i=>!(Nat.beq (cls i) 3))
def storeAt (i:Ins):Option Nat:=match i with|.op none (.store _ (.tmp p) _)=>some p|_=>none
def yO (ms:Nat→Nat) (e1 e2:Nat):Nat→Nat:=fun i=>bif Nat.beq i e2 then ms e2 ||| (2 ^ e1 ||| ms e1) else ms i
structure Swap where
 l:List iU
 e1:Nat
 e2:Nat
 p1:Nat
 p2:Nat
def aC6 (ins:Nat→Ins) (cls ms:Nat→Nat) (n:Nat) (l:List iU) (e1 e2:Nat):Bool :=
 zU ins cls (yO ms e1 e2) n l&&PX ins cls ms n&&AY e1 e2 l&&Nat.blt e1 n&&Nat.blt e2 n&&!(Nat.beq e1 e2)&&!((ms e1).testBit e2)
 && Nat.beq (cls e1) 2&&Nat.beq (cls e2) 2
 && xg (fun e=>!(Nat.beq (cls e) 2)||Nat.beq e e1||Nat.beq e e2||(ms e2).testBit e) (List.range n)
 && xg (fun i=>!(Nat.beq (cls i) 1)||(ms e2).testBit i) (List.range n)
def Zw:List Nat→Option (Nat×Nat)
 |[]=>none
 |[_]=>none
 |[a,b]=>some (a,b)
 |_::l=>Zw l
def J3 (P:Program) (H:Hints) (f:Nat) (ops:Array Oper):Option Swap :=
 let il:=ops.toList.map (gK P (gZ H) f ops)
 let ins:=fun i=>il.getD i (.op none .bad)
 let ml:=masks ops.toList
 let ms:=fun i=>ml.getD i 0
 let cl:=ops.toList.map fun o=>vG o (gK P (gZ H) f ops o)
 let cls:=fun i=>cl.getD i 2
 let n:=ops.size
 let E:=(List.range n).filter fun i=>cls i==2
 match Zw E with
 |none=>none
 |some (e1,e2)=>match storeAt (ins e1),storeAt (ins e2) with
  |some p1,some p2 =>
   let l:=stages cls (yO ms e1 e2) n E
   if aC6 ins cls ms n l e1 e2&&nX ops.toList 0&&!(l.isEmpty) then some ⟨l,e1,e2,p1,p2⟩ else none
  |_,_=>none
def IY (P:Program) (H:Hints) (f:Nat) (ops:Array Oper):List Ins:=match PS P H f ops with
 |some l=>flatten (fun i=>(ops.toList.map (gK P (gZ H) f ops)).getD i (.op none .bad)) l
 |none=>match J3 P H f ops with
  |some s=>flatten (fun i=>(ops.toList.map (gK P (gZ H) f ops)).getD i (.op none .bad)) s.l++[.chk none s.p2 (.nS (.tmp s.p2) (.tmp s.p1))]
  |none=>[.op none .bad]
def aQ (P:Program) (H:Hints) (f:Nat):Code→aH
 |.skip=>.skip
 |.region _ ops d=>if d then .draw (IY P H f ops) else .region (ops.toList.map (gK P H f ops))
 |.seq a b=>.seq (aQ P H f a) (aQ P H f b)
 |.cond c a b=>.cond ((bQ c).getD (.const .undef)) (aQ P H f a) (aQ P H f b)
 |.block i c=>.block i (aQ P H f c)
 |.loop c=>.loop (aQ P H f c)
 |.rangeFunc g ps a b=>if flat a&&flat b then .rangeFunc ((bQ g).getD (.const .undef)) ps.toList (aQ P H f a) (aQ P H f b) else .region [.op none .bad]
 |.exit i=>.exit i
 |.scope c=>.scope (aQ P H f c)
 |.label l=>.label l
 |.goto l=>.goto l
 |.ret=>.ret
 |.refuse _=>.region [.op none .bad]
def aaC (P:Program) (r:ResultVar):Option (Nat×Bool×Bool×Nat):=match r with
 |.tmp t=>some (t,false,false,0)
 |.cell t ty=>do pure (t,true,←Fj P ty,←kM P ty)
def aro (n:String):Nat :=
 if n== "internal/abi.NoEscape" then 1 else if n== "internal/bytealg.IndexByte" then 2 else if n== "internal/bytealg.IndexByteString" then 3 else if n== "internal/bytealg.Count" then 4 else 9
def Gv (P:Program) (H:Hints) (f:Nat):Option ak:=do
 let fn ←P.funcs[f]?
 if fn.name== "runtime.NumGoroutine" then none else
 let res ←fn.results.toList.mapM (aaC P)
 match fn.body with
 |none=>pure { nt:=0,results:=[],ext:=aro fn.name,body:=.skip,vW:=false }
 |some b=>pure { nt:=fn.ntmps,results:=res,ext:=0,body:=aQ P H f b,vW:=H.fr f }
end
section
open Go Go.RowKit
variable {P:Program} {comp:FuncId→Code→aH} {g g':G} {σ σ':H} {w w':World}
def Rs (g:G) (β:Nat→Option Nat) (v:V) (x:Value):Prop:=match v with
 |.bf t off=>∃ b,β t=some b∧x=.pointer (some ⟨b,off,none⟩)
 |v=>Rv g v x
theorem Rs.dP {β:Nat→Option Nat} {v:V} {x:Value} (h:Rv g v x):Rs g β v x:=by
 cases h<;>simp only [Rs]<;>first|(constructor<;>assumption)|skip
 all_goals first|exact .dF _ (by assumption)|exact .gX _ (by assumption) (by assumption)|exact .list _ _ (by assumption) (by assumption) (by assumption) (by assumption) (by assumption) (by assumption)|exact .map (by assumption)
theorem Rs.rv {β:Nat→Option Nat} {v:V} {x:Value} (h:Rs g β v x) (hn:∀ t o,v≠.bf t o):Rv g v x:=by
 cases v<;>first|exact h|exact absurd rfl (hn _ _)
theorem Rs.mono {β:Nat→Option Nat} (hg:g.le g') {v:V} {x:Value} (h:Rs g β v x):Rs g' β v x:=by
 cases v<;>first|exact Rv.mono hg h|exact h
structure Rb (g:G) (σ:H) (β:Nat→Option Nat) (lo:Lo) (w:World):Prop where
 boxes:∀ t b,β t=some b→∃ (cs:List V) (c:Array Value) (e:TypeId),dQ lo t=some cs∧w.heap[b]?=some (.cells c e (0,0))∧cs.length=c.size ∧
  (∀ (j:Nat) (x:V),cs[j]?=some x→∃ v,c[j]?=some v∧Rv g x v)
 apart:∀ t b,β t=some b→¬Live g σ b∧∀ o,g.φ b o=none
 inj:∀ t u b,β t=some b→β u=some b→t=u
structure wL (g:G) (β:Nat→Option Nat) (fr:List V) (tmps:Array Value):Prop where
 size:fr.length=tmps.size
 slots:∀ (t:Nat) (v:V) (x:Value),fr[t]?=some v→tmps[t]?=some x→Rs g β v x
def Cj (β:Nat→Option Nat) (b:Nat):Prop:=∃ t,β t=some b
theorem pG (fr:List V) (t:Nat):aO fr t=(fr[t]?).getD .undef:=by
 induction fr generalizing t with
 |nil=>simp [Eu]
 |cons x xs ih=>cases t<;>simp [kF,iL,ih]
theorem wL.aO {β:Nat→Option Nat} {fr:List V} {tmps:Array Value} (h:wL g β fr tmps) (t:Nat):Rs g β (aO fr t) (tmps.getD t undef):=by
 rw [pG]
 cases hv:fr[t]? with
 |none=>exact .dP (.undef _)
 |some v =>
  have ht:t<tmps.size:=by rw [←h.size];exact (iW.1 hv).1
  have:tmps[t]?=some (tmps.getD t undef):=by simp [Array.getElem?_eq_getElem ht,Array.getD,ht]
  exact h.slots t v _ hv this
theorem kK.aci (n:Nat) (ih:∀ (g:G) v,Rv g (cV n v) v) (a:List Value):kK g (a.map (cV n)) a :=
 ⟨by simp,fun i v w hv hw=>by simp [hw] at hv;subst hv;exact ih g w⟩
theorem Rv.cV:∀ (n:Nat) (g:G) (v:Value),Rv g (cV n v) v:=by
 intro n
 induction n with
 |zero=>intro g v;exact .undef v
 |succ n ih =>
  intro g v
  have hm:=fun a=>kK.aci (g:=g) n ih a
  unfold Vx.cV
  split<;>first|(constructor;done)|skip
  ·exact .func (.func _) (by simp) (by simp) (fun i v w a b=>(hm _).2 i v w a (by simpa using b)) (fun i v w a b=>(hm _).2 i v w a (by simpa using b))
  ·exact .JJ (hm _)
  ·exact .mkTuple (hm _)
  ·exact .iface _ (ih g _)
theorem Rs.ev {β:Nat→Option Nat} {fr:List V} {A:Act} (h:wL g β fr A.tmps) {x:Operand} {y:aF} (hx:bQ x=some y):Rs g β (y.ev fr) (A.eval x):=by
 cases x with
 |tmp t=>simp [bQ] at hx;subst hx;exact h.aO t
 |const v=>simp [bQ] at hx;subst hx;exact .dP (Rv.cV 5 g v)
 |func f =>
  simp [bQ] at hx;subst hx
  exact .dP (.func (.func f) rfl rfl (fun i v w a b=>by simp at a) (fun i v w a b=>by simp at a))
 |global i=>simp [bQ] at hx
end
section
open Go Go.RowKit
variable {P:Program} {comp:FuncId→Code→aH} {g g':G} {σ σ':H} {w w':World} {β:Nat→Option Nat} {lo lo':Lo} {fr:List V} {A:Act}
theorem Frm.refl (B:Nat→Prop):Frm g σ B w w:=⟨rfl,rfl,rfl,bC _,fun _ _ _ _ _=>rfl⟩
def Phi (g g':G) (σ:H) (w:World):Prop:=∀ b,b<w.heap.size→(∀ o,g.φ b o=none)→¬Live g σ b→∀ o,g'.φ b o=none
def nU (P:Program) (comp:FuncId→Code→aH) (g:G) (β:Nat→Option Nat) (σ:H) (w:World) (v:V) (lo':Lo) (σ':H) (r:Result Next):Prop :=
 ∃ (x:Value) (w':World) (g':G),(r=.ok (.value x) w'∨(r=.ok .skip w'∧x=undef))∧g.le g'∧Rs g' β v x∧Rw P comp g' σ' w'∧Rb g' σ' β lo' w'∧Frm g σ (Cj β) w w'∧(∀ b,Live g' σ' b→b<w.heap.size→Live g σ b)∧Phi g g' σ w
structure St (P:Program) (comp:FuncId→Code→aH) (g:G) (β:Nat→Option Nat) (σ:H) (lo:Lo) (fr:List V) (A:Act) (w:World):Prop where
 f:wL g β fr A.tmps
 b:Rb g σ β lo w
 w:Rw P comp g σ w
theorem nU.pure (h:St P comp g β σ lo fr A w) {v:V} {x:Value} {r:Result Next} (hr:r=.ok (.value x) w) (hv:Rs g β v x):nU P comp g β σ w v lo σ r :=
 ⟨x,w,g,.inl hr,.refl g,hv,h.w,h.b,.refl _,fun _ h _=>h,fun _ _ h _=>h⟩
def Sound (P:Program) (comp:FuncId→Code→aH) (d:Nat) (Cb:l7) (o:Oper):Prop :=
 ∀ (g:G) (β:Nat→Option Nat) (σ:H) (lo:Lo) (fr:List V) (A:Act) (w:World) (v:V) (lo':Lo) (σ':H),St P comp g β σ lo fr A w→aZ d Cb fr lo σ=.ok v lo' σ' →
  nU P comp g β σ w v lo' σ' ((execOp A.eval o).run P w)
theorem UZ {d:Nat} {o:Oper} {x:Operand} {y:aF} (hx:bQ x=some y) (ho:o.op=.move x∨o.op=.assign x):Sound P comp d (.mv y) o:=by
 intro g β σ lo fr A w v lo' σ' h e
 simp only [aZ,jh,OR.ok.injEq] at e
 obtain ⟨rfl,rfl,rfl⟩:=e
 refine .pure h (x:=A.eval x) ?_ (Rs.ev h.f hx)
 rcases ho with ho|ho<;>simp [execOp,ho]
theorem D5 {v:V} {x:Value} {b:Bool} (h:Rs g β v x) (hv:v=.bool b):x=.bool b:=by
 subst hv;cases h;rfl
theorem jv {v:V} {x:Value} {k:IntKind} {n:Int} (h:Rs g β v x) (hv:v=.int k n):x=.int k n:=by
 subst hv;cases h;rfl
theorem sS {v:V} {x:Value} {s:List Nat} (h:Rs g β v x) (hv:v=.str s):∃ bs:ByteArray,x=.string bs∧s=bs.data.toList.map UInt8.toNat:=by
 subst hv;cases h;exact ⟨_,rfl,rfl⟩
theorem YG {d:Nat} {o:Oper} {c a b:Operand} {c' a' b':aF} (hc:bQ c=some c') (ha:bQ a=some a') (hb:bQ b=some b') (ho:o.op=.pick c a b):Sound P comp d (.pick c' a' b') o:=by
 intro g β σ lo fr A w v lo' σ' h e
 simp only [aZ,qG] at e
 split at e
 ·rename_i t ht
  simp only [OR.ok.injEq] at e
  obtain ⟨rfl,rfl,rfl⟩:=e
  have hcv:=D5 (Rs.ev h.f hc) ht
  refine .pure h (x:=if t then A.eval a else A.eval b) ?_ ?_
  ·simp [execOp,ho,asBool,hcv]
  ·cases t
   ·exact Rs.ev h.f hb
   ·exact Rs.ev h.f ha
 ·cases e
theorem ac8 {d:Nat} {o:Oper} {x:Operand} {y:aF} {t:TypeId} (hx:bQ x=some y) (ho:o.op=.unOp .not t x):Sound P comp d (.not y) o:=by
 intro g β σ lo fr A w v lo' σ' h e
 simp only [aZ,fU] at e
 split at e
 ·rename_i b hb
  simp only [OR.ok.injEq] at e
  obtain ⟨rfl,rfl,rfl⟩:=e
  have hv:=D5 (Rs.ev h.f hx) hb
  exact .pure h (x:=.bool !b) (by simp [execOp,ho,hv,Op.unary]) (.dP (.bool _))
 ·cases e
theorem sO (a b:Int):uK a b=decide (a<b):=by
 cases a<;>cases b<;>simp only [uK,Int.ofNat_eq_natCast]<;>rw [Bool.eq_iff_iff]<;>simp only [Nat.blt_eq,decide_eq_true_eq,Bool.false_eq_true,true_iff,false_iff]<;>omega
theorem qW (a b:Int):vZ a b=(a==b):=by
 cases a<;>cases b<;>simp only [vZ,Int.ofNat_eq_natCast]<;>rw [Bool.eq_iff_iff]<;>simp<;>omega
theorem afu (a b:Int):leI a b=decide (a≤b):=by
 rw [leI,sO,Bool.eq_iff_iff];simp
theorem kP (j k:IntKind):eqK j k=decide (j=k):=by cases j<;>cases k<;>rfl
theorem wrap_i64 {n:Int} (h1:-9223372036854775808≤n) (h2:n<9223372036854775808):IntKind.i64.wrap n=n:=IntWalk.i64_in n ⟨by omega,by omega⟩
theorem qp {m:Nat} {k:Nat} (h:Nat.blt m k=true):m<k:=Nat.le_of_ble_eq_true h
theorem KX (k:IntKind) (n:Int):yj k n=k.wrap n:=by
 have key:∀ (j:Int) (m:Nat),(Nat.blt m 9223372036854775808=true→IntKind.i64.wrap j=j)→(bif Nat.blt m 9223372036854775808 then j else IntKind.i64.wrap j)=IntKind.i64.wrap j:=by
  intro j m h
  generalize hb:Nat.blt m 9223372036854775808=b at h
  cases b
  ·simp only [cond_false]
  ·simp only [cond_true];exact (h rfl).symm
 unfold yj
 split
 ·rename_i m
  exact key _ m fun h=>by
   have:=qp h
   exact wrap_i64 (by simp only [Int.ofNat_eq_natCast];omega) (by simp only [Int.ofNat_eq_natCast];omega)
 ·rename_i m
  exact key _ m fun h=>by
   have:=qp h
   exact wrap_i64 (by omega) (by omega)
 ·rename_i m;simp [IntKind.wrap,IntKind.bits,IntKind.signed]
 ·rename_i m;simp [IntKind.wrap,IntKind.bits,IntKind.signed]
 ·rename_i m;simp [IntKind.wrap,IntKind.bits,IntKind.signed]
 ·rfl
end
end Go.Vx
