/- A part of the proof of TopForks. -/
import GoSem.Core.View
import GoSem.Dispatch
import Derived.CallsIn
import Derived.RangeFuncIn
import Derived.RangeFuncRecord
import Derived.Laws.World
import Derived.Below
import Derived.IntWalk
import Derived.Laws.Strings
set_option linter.all false
set_option maxRecDepth 1000000
set_option maxHeartbeats 80000000
noncomputable section
namespace Go.Vx
section
open Go
def aI9{a b:Prop}(x:a)(y:b):a/\b:=⟨x,y⟩
abbrev au:=@Option.bind_eq_some_iff
abbrev ah:=@Bool.and_eq_true
abbrev aP:=@Nat.eq_of_beq_eq_true
abbrev aG:=@Option.some.injEq
abbrev bW:=@List.mem_cons_of_mem
abbrev bV:=@List.getElem?_eq_getElem
abbrev eY:=@Array.getElem?_eq_some_iff
abbrev fB:=@List.getElem?_eq_some_iff
abbrev aH:=@Sem.run_bind
abbrev cu:=@Bool.cond_eq_ite
abbrev bZ:=@List.mem_cons_self
abbrev SQ:=@not_false_eq_true
abbrev gQ:=@Bool.or_eq_true
abbrev gU:=@List.getElem?_eq_none
abbrev fZ:=@List.mem_filter
abbrev gZ:=@Option.some.inj
def ak:True:=trivial
abbrev aJ:=@Nat.le_refl
abbrev bT:=@Option.map_some
abbrev jc:=@Option.bind_eq_bind
abbrev aU:=@Bool.and_self
abbrev bD:=@List.map_cons
abbrev bI:=@List.length_append
abbrev bP:=@List.length_cons
abbrev bU:=@List.mem_cons
abbrev cZ:=@Bool.and_true
abbrev dh:=@List.mem_range
abbrev dH:=@List.mem_append
abbrev dP:=@Nat.lt_or_ge
abbrev dW:=@Option.map_none
abbrev dZ:=@List.cons_append
abbrev eX:=@Nat.zero_le
abbrev fP:=@List.append_assoc
abbrev fQ:=@Bool.not_eq_true'
abbrev gq:=@Nat.add_assoc
abbrev gu:=@List.cons.injEq
abbrev iF:=@Nat.zero_add
abbrev iW:=@List.getElem?_map
abbrev iY:=@List.append_nil
abbrev jd:=@List.getElem?_take
abbrev je:=@List.nil_append
abbrev jf:=@List.getElem?_append_left
abbrev jg:=@Nat.ble_eq
abbrev jm:=@List.getElem?_drop
abbrev jo:=@List.length_map
abbrev jA:=@Nat.le_of_ble_eq_true
abbrev jP:=@Nat.beq_refl
abbrev jQ:=@Nat.lt_of_lt_of_le
abbrev jR:=@Option.pure_def
abbrev jS:=@List.length_nil
abbrev ku:=@List.getElem_mem
abbrev kC:=@List.mem_map
abbrev kW:=@Nat.succ_mul
abbrev kX:=@List.map_nil
abbrev lJ:=@Int.ofNat_eq_natCast
abbrev lK:=@List.mem_of_getElem?
abbrev lM:=@Nat.le_trans
abbrev oq:=@Bool.eq_iff_iff
abbrev qc:=@Array.getElem?_toList
abbrev rD:=@Array.getElem?_setIfInBounds
abbrev rE:=@List.getElem?_append_right
abbrev rG:=@List.drop_zero
abbrev rH:=@Array.getElem?_eq_getElem
abbrev rJ:=@Option.getD_some
abbrev rM:=@List.mem_append_left
abbrev rO:=@List.set_cons_succ
abbrev rQ:=@List.map_append
abbrev uK:=@Nat.mul_le_mul_right
abbrev uM:=@List.drop_eq_getElem_cons
abbrev uN:=@List.length_pos_iff
abbrev wG:=@List.flatMap_cons
abbrev wH:=@Option.mem_toList
abbrev wI:=@List.idxOf_lt_length_of_mem
abbrev yR:=@List.getElem?_append
abbrev Bc:=@List.length_eq_zero_iff
inductive V where
 |undef
 |bool (b:Bool)
 |int (k:IntKind) (n:Int)
 |str (s:List Nat)
 |nilPtr
 |aY (t off:Nat)
 |bg (id off:Nat)
 |iE (cs:List V)
 |aj
 |list (xs:List V) (exact:Bool)
 |hsl (id off len:Nat) (cap:Option Nat) (sz:Nat)
 |fA
 |map (id:Nat)
 |nilFunc
 |func (fn:Fn) (first caps:List V)
 |nilIface
 |iface (t:TypeId) (v:V)
 |agg (cs:List V)
 |tuple (vs:List V)
 deriving Inhabited
def V.cells:V->List V
 |.agg cs=>cs
 |v=>[v]
inductive aC where
 |tmp (t:Nat)
 |const (v:V)
 deriving Inhabited
inductive oM where
 |mv (x:aC)
 |pick (c a b:aC)
 |alloc (zero:List V)
 |jy (zero:List V)
 |CJ (x:aC)
 |Gw (x:aC)
 |build (zero:List V) (parts:List (Nat×Nat×aC))
 |lit (zero:List V) (sz len:Nat) (parts:List (Nat×Nat×aC))
 |qR (a:aC)
 |qI (sz:Nat) (a:aC)
 |store (sz:Nat) (a x:aC)
 |tK (x:aC)
 |eq (neg:Bool) (cls:Nat) (x y:aC)
 |bin (op:BinOp) (x y:aC)
 |not (x:aC)
 |neg (x:aC)
 |mM (k:IntKind) (x:aC)
 |zN (x:aC)
 |Ic (x:aC)
 |nG (x:aC)
 |toStr (x:aC)
 |pF (t:TypeId) (x:aC)
 |l9 (fn:Fn) (first caps:List aC)
 |mkMap
 |mkSlice (zero:List V) (len cap:aC)
 |slice (str:Bool) (sz:Nat) (x:aC) (lo hi mx:Option aC)
 |fieldAddr (off:Nat) (x:aC)
 |field (agg:Bool) (off sz:Nat) (x:aC)
 |ji (sz:Nat) (x i:aC)
 |wS (sz n:Nat) (x i:aC)
 |index (x i:aC)
 |uw (agg:Bool) (sz n:Nat) (x i:aC)
 |lookup (kc:Nat) (zero:V) (ok:Bool) (m k:aC)
 |vI (kc:Nat) (m k x:aC)
 |wY (kc:Nat) (zero:V) (m k:aC)
 |oz (m s x:aC)
 |extract (i:Nat) (x:aC)
 |len (cls:Nat) (x:aC)
 |cap (x:aC)
 |max (x y:aC)
 |min (x y:aC)
 |append (sz:Nat) (x y:aC)
 |qE (zero:List V) (x n:aC)
 |copy (sz:Nat) (x y:aC)
 |clear (zero:List V) (x:aC)
 |qJ (x y:aC)
 |ni (zero:List V) (len cap:aC)
 |rU (sz:Nat) (x y:aC)
 |recover
 |bad
 deriving Inhabited
inductive Ins where
 |op (d:Option Nat) (o:oM)
 |call (d:Option Nat) (f:Nat) (args:List aC)
 |dyn (d:Option Nat) (f:aC) (args:List aC)
 |defer (ids:List Nat) (f:aC) (args:List aC)
 |grd (t:Nat) (b:Bool) (d:Option Nat) (i:Ins)
 |chk (g:Option (Nat×Bool)) (t:Nat) (o:oM)
 deriving Inhabited
inductive aN where
 |skip
 |region (ops:List Ins)
 |draw (ops:List Ins)
 |seq (a b:aN)
 |cond (c:aC) (t e:aN)
 |block (id:Nat) (c:aN)
 |loop (c:aN)
 |rangeFunc (f:aC) (params:List Nat) (assign body:aN)
 |exit (id:Nat)
 |scope (c:aN)
 |label (l:Nat)
 |goto (l:Nat)
 |ret
 deriving Inhabited
inductive Jump where
 |ret|exit (id:Nat)|goto (l:Nat)
 deriving Inhabited,DecidableEq
structure Ee where
 st:Nat
 pending:Option Jump
 fr:List V
 params:List Nat
 assign:aN
 body:aN
 deriving Inhabited
inductive Obj where
 |cells (cs:List V)
 |map (es:List (V×V))
 |loop (l:Ee)
 deriving Inhabited
inductive T (α:Type) where
 |leaf
 |node (o:Option α) (l r:T α)
 deriving Inhabited
def T.get{α:Type}:T α->Nat->Option α
 |.leaf,_=>none
 |.node o l r,i=>bif Nat.beq i 0 then o else bif Nat.beq (i%2) 1 then l.get (i / 2)else r.get (i / 2-1)
def T.oI{α:Type}(o:Option α):Nat->T α->Nat->T α
 |0,t,_=>t
 |n+1,.leaf,i=>bif Nat.beq i 0 then .node o .leaf .leaf else bif Nat.beq (i%2) 1 then .node none (T.oI o n .leaf (i / 2)) .leaf else .node none .leaf (T.oI o n .leaf (i / 2-1))
 |n+1,.node p l r,i=>bif Nat.beq i 0 then .node o l r else bif Nat.beq (i%2) 1 then .node p (T.oI o n l (i / 2)) r else .node p l (T.oI o n r (i / 2-1))
def T.put{α:Type}(t:T α)(o:Option α)(n i:Nat):T α:=T.oI o n t i
structure H where
 next:Nat
 objs:T Obj
 deriving Inhabited
def H.get(h:H)(i:Nat):Option Obj:=h.objs.get i
def H.set(h:H)(i:Nat)(o:Obj):H:=⟨h.next,h.objs.put (some o) (i+1) i⟩
def H.del(h:H)(i:Nat):H:=⟨h.next,h.objs.put none (i+1) i⟩
def H.new(h:H)(o:Obj):H:=⟨h.next+1,h.objs.put (some o) (h.next+1) h.next⟩
def azK:List V->Nat->V
 |[],_=>.undef
 |x::_,0=>x
 |_::xs,n+1=>azK xs n
def azN:List V->Nat->V->List V
 |[],_,_=>[]
 |_::xs,0,v=>v::xs
 |x::xs,n+1,v=>x::azN xs n v
def aA(l:List V):Nat->V:=List.rec (motive:=λ_=>Nat->V) (λ_=>.undef) (λx _ ih n=>Nat.rec (motive:=λ_=>V) x (λm _=>ih m) n) l
def lC(l:List V):Nat->V->List V:=List.rec (motive:=λ_=>Nat->V->List V) (λ_ _=>[]) (λx xs ih n v=>Nat.rec (motive:=λ_=>List V) (v::xs) (λm _=>x::ih m v) n) l
def Jb(n:Nat):aA [] n=.undef:=rfl
def kG(x:V)(xs:List V):aA (x::xs) 0=x:=rfl
def iL(x:V)(xs:List V)(n:Nat):aA (x::xs) (n+1)=aA xs n:=rfl
def Je(n:Nat)(v:V):lC [] n v=[]:=rfl
def wW(x v:V)(xs:List V):lC (x::xs) 0 v=v::xs:=rfl
def su(x v:V)(xs:List V)(n:Nat):lC (x::xs) (n+1) v=x::lC xs n v:=rfl
abbrev Lo:=List (Nat×List V)
def dA:Lo->Nat->Option (List V)
 |[],_=>none
 |(u,cs)::r,t=>bif Nat.beq u t then some cs else dA r t
def eP:Lo->Nat->List V->Lo
 |[],t,cs=>[(t,cs)]
 |(u,ds)::r,t,cs=>bif Nat.beq u t then(u,cs)::r else(u,ds)::eP r t cs
def aC.ev(x:aC):List V->V:=match x with
 |.tmp t=>λfr=>aA fr t
 |.const v=>λ_=>v
def aC.evs:List aC->List V->List V
 |[],_=>[]
 |x::xs,fr=>x.ev fr::aC.evs xs fr
def bC:List V->List V->Option (List V)
 |cs,[]=>some cs
 |[],_::_=>none
 |_::cs,v::vs=>match bC cs vs with|some r=>some (v::r)|none=>none
def splice:Nat->List V->List V->Option (List V)
 |0,cs,vs=>bC cs vs
 |_+1,[],_=>none
 |n+1,c::cs,vs=>match splice n cs vs with|some r=>some (c::r)|none=>none
def takeN:Nat->List V->Option (List V)
 |0,_=>some []
 |_+1,[]=>none
 |n+1,x::xs=>match takeN n xs with|some r=>some (x::r)|none=>none
def skip:Nat->List V->List V
 |0,xs=>xs
 |_+1,[]=>[]
 |n+1,_::xs=>skip n xs
def ng(n:Nat)(xs:List V):Option V:=match skip n xs with|x::_=>some x|[]=>none
def bK(v:V):Bool:=match v with|.aY _ _=>true|.undef=>true|_=>false
def iV:List V->Bool
 |[]=>false
 |v::vs=>match v with|.aY _ _=>true|_=>iV vs
inductive OR where
 |fail
 |ok (v:V) (lo:Lo) (h:H)
def OR.eU(o:Option V)(lo:Lo)(h:H):OR:=match o with|some v=>.ok v lo h|none=>.fail
def mk(agg:Bool)(o:Option (List V)):Option V:=match o with
 |none=>none
 |some cs=>bif agg then some (.agg cs)else match cs with|[c]=>some c|_=>none
def elemOf(x:List V):V:=match x with
 |[c]=>(match c with|.agg _=>.agg x|c=>c)
 |x=>.agg x
def chunk(sz:Nat):Nat->List V->Option (List V)
 |0,_=>some []
 |n+1,cs=>match takeN sz cs with
  |none=>none
  |some x=>match chunk sz n (skip sz cs)with
   |none=>none
   |some r=>some (elemOf x::r)
def kQ(v:V)(r:List V×H):List V×H:=match r with|(r,h)=>(v::r,h)
def dF:Nat->List V->H->List V×H
 |0,vs,h=>(vs,h)
 |_+1,[],h=>([],h)
 |n+1,v::vs,h=>match v with
  |.hsl id off len cap sz=>(match h.get id with
   |some (.cells cs)=>(match chunk sz len (skip off cs)with
    |some xs=>(match dF n xs (h.del id)with
     |(xs,h)=>kQ (.list xs (match cap with|some c=>Nat.beq c len|none=>false)) (dF n vs h))
    |none=>kQ v (dF n vs h))
   |_=>kQ v (dF n vs h))
  |.agg cs=>(match dF n cs h with|(cs,h)=>kQ (.agg cs) (dF n vs h))
  |.tuple cs=>(match dF n cs h with|(cs,h)=>kQ (.tuple cs) (dF n vs h))
  |v=>kQ v (dF n vs h)
def qo(v:V)(h:H):V×H:=match dF 1000000 [v] h with|(w::_,h)=>(w,h)|([],h)=>(v,h)
def mW:List Nat->List Nat->Bool
 |[],[]=>true
 |a::x,b::y=>Nat.beq a b&&mW x y
 |_,_=>false
def NC:List Nat->List Nat->Bool
 |_,[]=>false
 |[],_::_=>true
 |a::x,b::y=>Nat.blt a b||(Nat.beq a b&&NC x y)
def wX:Int->Int->Bool
 |.ofNat a,.ofNat b=>Nat.blt a b
 |.ofNat _,.negSucc _=>false
 |.negSucc _,.ofNat _=>true
 |.negSucc a,.negSucc b=>Nat.blt b a
def sK:Int->Int->Bool
 |.ofNat a,.ofNat b=>Nat.beq a b
 |.negSucc a,.negSucc b=>Nat.beq a b
 |_,_=>false
def leI(a b:Int):Bool:=!(wX b a)
def eqK:IntKind->IntKind->Bool
 |.i64,.i64=>true
 |.u8,.u8=>true
 |.u16,.u16=>true
 |.u64,.u64=>true
 |.u32,.u32=>true
 |.i32,.i32=>true
 |.i8,.i8=>true
 |.i16,.i16=>true
 |_,_=>false
def xZ(k:IntKind)(n:Int):Int :=
 match k,n with
 |.i64,.ofNat m=>bif Nat.blt m 9223372036854775808 then .ofNat m else k.wrap n
 |.i64,.negSucc m=>bif Nat.blt m 9223372036854775808 then .negSucc m else k.wrap n
 |.u8,.ofNat m=>.ofNat (m%256)
 |.u16,.ofNat m=>.ofNat (m%65536)
 |.u64,.ofNat m=>.ofNat (m%18446744073709551616)
 |_,_=>k.wrap n
def getCells(h:H)(id:Nat):Option (List V):=match h.get id with
 |some o=>(match o with|.cells cs=>some cs|_=>none)
 |none=>none
def gK(h:H)(id:Nat):Option (List (V×V)):=match h.get id with
 |some o=>(match o with|.map cs=>some cs|_=>none)
 |none=>none
def fU(x y:V):Option Bool:=match x with
 |.int k a=>(match y with|.int k' b=>bif eqK k k' then some (sK a b)else none|_=>none)
 |.str a=>(match y with|.str b=>some (mW a b)|_=>none)
 |_=>none
def sS(x y:V):Option Bool:=match x with
 |.bool a=>(match y with|.bool b=>some (bif a then b else !b)|_=>none)
 |_=>none
def jY(h:H)(x y:V):Option Bool:=match x with
 |.nilPtr=>(match y with|.nilPtr=>some true|.bg _ _=>some false|.aY _ _=>some false|.iE _=>some false|_=>none)
 |.bg a o=>(match y with
  |.nilPtr=>some false
  |.bg b p=>(match getCells h a with
   |some cs=>(match getCells h b with
    |some ds=>bif Nat.blt o cs.length&&Nat.blt p ds.length then some (Nat.beq a b&&Nat.beq o p)else none
    |none=>none)
   |none=>none)
  |_=>none)
 |.aY _ _=>(match y with|.nilPtr=>some false|_=>none)
 |.iE _=>(match y with|.nilPtr=>some false|_=>none)
 |_=>none
def uV(x y:V):Option Bool:=match x with
 |.aj=>(match y with|.aj=>some true|.list _ _=>some false|.hsl _ _ _ _ _=>some false|_=>none)
 |.list _ _=>(match y with|.aj=>some false|_=>none)
 |.hsl _ _ _ _ _=>(match y with|.aj=>some false|_=>none)
 |_=>none
def Ad(x y:V):Option Bool:=match x with
 |.fA=>(match y with|.fA=>some true|.map _=>some false|_=>none)
 |.map _=>(match y with|.fA=>some false|_=>none)
 |_=>none
def eqFn(x y:V):Option Bool:=match x with
 |.nilFunc=>(match y with|.nilFunc=>some true|.func _ _ _=>some false|_=>none)
 |.func _ _ _=>(match y with|.nilFunc=>some false|_=>none)
 |_=>none
def DW(x y:V):Option Bool:=match x with
 |.nilIface=>(match y with|.nilIface=>some true|.iface _ _=>some false|_=>none)
 |.iface _ _=>(match y with|.nilIface=>some false|_=>none)
 |_=>none
def ED(v:V):Bool:=match v with|.iface t _=>Nat.beq t 1000000|_=>false
def DJ(x y:V):Option Bool:=bif ED x||ED y then none else DW x y
def zo{x y:V}{b:Bool}(e:DJ x y=some b):DW x y=some b:=by
 unfold DJ at e;cases h:ED x||ED y with
 |true=>rw[h]at e;cases e
 |false=>rw[h]at e;exact e
def nH(h:H)(cls:Nat):V->V->Option Bool:=match cls with
 |0=>fU
 |1=>sS
 |2=>jY h
 |3=>uV
 |4=>Ad
 |5=>eqFn
 |6=>DJ
 |_=>λ_ _=>none
def eqV(h:H)(x y:V):Option Bool:=match x with
 |.bg _ _=>jY h x y
 |.bool _=>sS x y
 |_=>fU x y
def gX(o:Option Bool):Option V:=match o with|some b=>some (.bool b)|none=>none
def jU(o:Option Bool):Option V:=match o with|some b=>some (.bool !b)|none=>none
def dD(f:Int->Int->Bool)(x y:V):Option V:=match x with
 |.int k a=>(match y with|.int k' b=>bif eqK k k' then some (.bool (f a b))else none|_=>none)
 |_=>none
def mV(f:Int->Int->Int)(x y:V):Option V:=match x with
 |.int k a=>(match y with|.int k' b=>bif eqK k k' then some (.int k (xZ k (f a b)))else none|_=>none)
 |_=>none
def eH(x y:V):Option V:=match x with
 |.str a=>(match y with|.str b=>some (.bool (NC a b))|_=>none)
 |x=>dD wX x y
def iK(x y:V):Option V:=match x with
 |.str a=>(match y with|.str b=>bif Nat.blt (a.length+b.length) 4294967296 then some (.str (a++b))else none|_=>none)
 |x=>mV Int.add x y
def qw(x y:V):Option V:=match y with
 |.int _ b=>bif sK b 0 then none else mV Int.tdiv x y
 |_=>none
def nM(x y:V):Option V:=match x with
 |.int k a=>(match y with|.int k' b=>bif sK b 0||!(eqK k k')then none else some (.int k (a.tmod b))|_=>none)
 |_=>none
def qx(x y:V):Option V:=match x with
 |.int k a=>(match y with|.int _ b=>bif wX b 0 then none else some (.int k (k.wrap (a*2 ^ (min b.toNat k.bits))))|_=>none)
 |_=>none
def qy(x y:V):Option V:=match x with
 |.int k a=>(match y with|.int _ b=>bif wX b 0 then none else some (.int k (a.fdiv (2 ^ (min b.toNat k.bits))))|_=>none)
 |_=>none
def cO(op:BinOp):V->V->Option V:=match op with
 |.lss=>eH
 |.leq=>dD leI
 |.gtr=>dD (λa b=>wX b a)
 |.geq=>dD (λa b=>leI b a)
 |.add=>iK
 |.sub=>mV Int.sub
 |.mul=>mV Int.mul
 |.quo=>qw
 |.rem=>nM
 |.shl=>qx
 |.shr=>qy
 |_=>λ_ _=>none
def oN(h:H)(k:V):List (V×V)->Nat->Option (Option (Nat×V))
 |[],_=>some none
 |(k',v)::es,i=>match eqV h k k' with
  |some b=>bif b then some (some (i,v))else oN h k es (i+1)
  |none=>none
def AQ:List (V×V)->Nat->V->List (V×V)
 |[],_,_=>[]
 |(k,_)::es,0,v=>(k,v)::es
 |e::es,n+1,v=>e::AQ es n v
def Qj:List Nat->Nat->Option Nat
 |[],_=>none
 |x::_,0=>some x
 |_::xs,n+1=>Qj xs n
def bytesOf:List V->Option (List Nat)
 |[]=>some []
 |v::vs=>match v with
  |.int .u8 (.ofNat n)=>bif Nat.blt n 256 then(match bytesOf vs with|some r=>some (n::r)|none=>none)else none
  |_=>none
def ofBytes:List Nat->List V
 |[]=>[]
 |b::bs=>.int .u8 (.ofNat b)::ofBytes bs
def oO:List V->List V
 |[]=>[]
 |x::xs=>match x with|.agg cs=>cs++oO xs|x=>x::oO xs
def rep(z:List V):Nat->List V
 |0=>[]
 |n+1=>z++rep z n
def yC(n:Nat)(o:Option (List V))(off:Nat):Option (List V):=match o with
 |some cs=>takeN n (skip off cs)
 |none=>none
def fH(v:V):Option Nat:=match v with
 |.aj=>some 0
 |.list xs _=>some xs.length
 |.hsl _ _ len _ _=>some len
 |.str s=>some s.length
 |_=>none
def xY(sz:Nat)(xs:List V):Bool:=match xs with|[]=>true|x::_=>Nat.beq x.cells.length sz
def bJ(h:H)(sz n:Nat)(v:V):Option (List V):=match v with
 |.aj=>bif Nat.beq n 0 then some []else none
 |.list xs _=>bif xY sz xs&&Nat.ble n xs.length then takeN (n*sz) (oO xs)else none
 |.hsl id off len _ sz'=>bif Nat.beq sz sz'&&Nat.ble n len then yC (n*sz) (getCells h id) off else none
 |.str s=>bif Nat.beq sz 1 then takeN n (ofBytes s)else none
 |_=>none
def bound(v:Option V)(d:Nat)(y:Nat):Option Nat :=
 match v with
 |none=>some d
 |some (.int _ (.ofNat n))=>bif Nat.ble n y then some n else none
 |_=>none
def fill(cells:List V):List (Nat×Nat×aC)->List V->Option (List V)
 |[],_=>some cells
 |(off,sz,x)::r,fr =>
  match x.ev fr with
  |.aY _ _=>none
  |.undef=>none
  |v=>bif Nat.beq v.cells.length sz then(match splice off cells v.cells with|some cs=>fill cs r fr|none=>none)else none
def fJ(t:Nat):List V->List V
 |[]=>[]
 |v::vs=>(match v with|.aY u _=>(bif Nat.beq u t then .undef else v)|v=>v)::fJ t vs
def iJ(h:H)(n sz:Nat)(old:Option (List V))(new:List V):Option (V×H):=match old with
 |some old=>bif Nat.ble n 16777216 then some (.hsl h.next 0 n none sz,h.new (.cells (old++new)))else none
 |none=>none
def yH(v:V):Bool:=match v with|.aj=>true|.list _ _=>true|.hsl _ _ _ _ _=>true|_=>false
def aep(h:H)(id off len cap sz n:Nat)(new:List V):Option (V×H):=match getCells h id with
 |some cs=>(match splice (off+len*sz) cs new with|some cs=>some (.hsl id off (len+n) (some cap) sz,h.set id (.cells cs))|none=>none)
 |none=>none
def Aq(h:H)(sz id off len:Nat)(cap:Option Nat)(n:Nat)(old:Option (List V))(new:List V):Option (V×H):=match cap with
 |some c=>bif Nat.ble (len+n) c then aep h id off len c sz n new else iJ h (len+n) sz old new
 |none=>bif Nat.beq off 0 then iJ (h.del id) (len+n) sz old new else none
def ou(h:H)(sz:Nat)(s:V)(n:Nat)(new:List V):Option (V×H) :=
 bif Nat.beq n 0 then(bif yH s then some (s,h)else none)else
 match s with
 |.aj=>iJ h n sz (some []) new
 |.list xs ex=>bif ex then iJ h (xs.length+n) sz (bJ h sz xs.length s) new else none
 |.hsl id off len cap sz'=>bif Nat.beq sz sz' then Aq h sz id off len cap n (bJ h sz len s) new else none
 |_=>none
abbrev xI:=List V->Lo->H->OR
def Qu(x:aC):xI:=λfr lo h=>.ok (x.ev fr) lo h
def vS(c a b:aC):xI:=λfr lo h=>match c.ev fr with|.bool t=>.ok (bif t then a.ev fr else b.ev fr) lo h|_=>.fail
def Gi(d:Nat)(z:List V):xI:=λ_ lo h=>.ok (.aY d 0) (eP lo d z) h
def zH(z:List V):xI:=λ_ lo h=>.ok (.bg h.next 0) lo (h.new (.cells z))
def AP(d:Nat)(x:aC):xI:=λfr lo h=>match x.ev fr with
 |.aY _ _=>.fail
 |.undef=>.fail
 |v=>.ok (.aY d 0) (eP lo d v.cells) h
def Dq(x:aC):xI:=λfr lo h=>match x.ev fr with
 |.aY _ _=>.fail
 |.undef=>.fail
 |v=>.ok (.bg h.next 0) lo (h.new (.cells v.cells))
def xE(z:List V)(ps:List (Nat×Nat×aC)):xI:=λfr lo h=>match fill z ps fr with|some cs=>.ok (.agg cs) lo h|none=>.fail
def GX(z:List V)(sz n:Nat)(ps:List (Nat×Nat×aC)):xI:=λfr lo h=>match fill (rep z n) ps fr with
 |some cs=>(match chunk sz n cs with|some xs=>.ok (.list xs true) lo h|none=>.fail)
 |none=>.fail
def aF(a:V)(lo:Lo)(h:H):Option (List V):=match a with
 |.aY t off=>(match dA lo t with|some cs=>some (skip off cs)|none=>none)
 |.bg id off=>(match getCells h id with|some cs=>some (skip off cs)|none=>none)
 |.iE cs=>some cs
 |_=>none
def vO(a:aC):xI:=λfr lo h=>match aF (a.ev fr) lo h with
 |some cs=>(match cs with|c::_=>.ok c lo h|[]=>.fail)
 |none=>.fail
def vP(sz:Nat)(a:aC):xI:=λfr lo h=>match aF (a.ev fr) lo h with
 |some cs=>(match takeN sz cs with|some r=>.ok (.agg r) lo h|none=>.fail)
 |none=>.fail
def qW(v:V):Bool:=match v with|.undef=>false|.agg _=>false|.tuple _=>false|.aY _ _=>false|_=>true
def bf:List V->Bool
 |[]=>true
 |v::vs=>qW v&&bf vs
def bH(a:V)(vs:List V)(lo:Lo)(h:H):OR:=match a with
 |.aY t off=>(match dA lo t with
  |some cs=>(match splice off cs vs with|some cs=>.ok .undef (eP lo t cs) h|none=>.fail)
  |none=>.fail)
 |.bg id off=>(match getCells h id with
  |some cs=>(match splice off cs vs with|some cs=>.ok .undef lo (h.set id (.cells cs))|none=>.fail)
  |none=>.fail)
 |_=>.fail
def lq(sz:Nat)(a x:aC):xI:=λfr lo h=>match x.ev fr with
 |.aY _ _=>.fail
 |.undef=>.fail
 |v=>bif Nat.beq v.cells.length sz&&bf v.cells then bH (a.ev fr) v.cells lo h else .fail
def ug(x:aC):xI:=λfr lo h=>match x.ev fr with
 |.nilPtr=>.fail
 |.nilFunc=>.fail
 |.nilIface=>.fail
 |.undef=>.fail
 |v=>.ok v lo h
def zY(neg:Bool)(cls:Nat)(x y:aC):xI:=λfr lo h=>OR.eU (bif neg then jU (nH h cls (x.ev fr) (y.ev fr))else gX (nH h cls (x.ev fr) (y.ev fr))) lo h
def xR(op:BinOp)(x y:aC):xI:=λfr lo h=>OR.eU (cO op (x.ev fr) (y.ev fr)) lo h
def GY(x:aC):xI:=λfr lo h=>match x.ev fr with|.bool b=>.ok (.bool !b) lo h|_=>.fail
def BQ(x:aC):xI:=λfr lo h=>match x.ev fr with|.int k n=>.ok (.int k (xZ k (0-n))) lo h|_=>.fail
def lg(k:IntKind)(x:aC):xI:=λfr lo h=>match x.ev fr with|.int _ n=>.ok (.int k (xZ k n)) lo h|_=>.fail
def sF(x:aC):xI:=λfr lo h=>match x.ev fr with|.str s=>.ok (.str s) lo h|_=>.fail
def EC(v:V):Bool:=match v with|.int _ _=>true|_=>false
def xk(x:aC):xI:=λfr lo h=>match x.ev fr with
 |.list xs ex=>(match xs with|[]=>.fail|x::xs=>(bif EC x then .ok (.list (x::xs) ex) lo h else .fail))
 |_=>.fail
def jE(x:aC):xI:=λfr lo h=>match x.ev fr with|.str s=>.ok (.list (ofBytes s) false) lo h|_=>.fail
def bytesIn(h:H)(v:V):Option (List Nat):=match v with
 |.aj=>some []
 |.list xs _=>bytesOf xs
 |.hsl id off len _ _=>(match yC len (getCells h id) off with|some cs=>bytesOf cs|none=>none)
 |_=>none
def uj(x:aC):xI:=λfr lo h=>match bytesIn h (x.ev fr)with
 |some s=>.ok (.str s) lo h
 |none=>.fail
def lU(t:TypeId)(x:aC):xI:=λfr lo h=>match x.ev fr with|.aY _ _=>.fail|v=>bif Nat.beq t 1000000 then .fail else .ok (.iface t v) lo h
def tN(fn:Fn)(a b:List aC):xI:=λfr lo h=>bif iV (aC.evs a fr)||iV (aC.evs b fr)then .fail else .ok (.func fn (aC.evs a fr) (aC.evs b fr)) lo h
def Gj:xI:=λ_ lo h=>.ok (.map h.next) lo (h.new (.map []))
def iC(z:List V)(l c:aC):xI:=λfr lo h=>match l.ev fr with
 |.int _ (.ofNat l)=>(match c.ev fr with
  |.int _ (.ofNat c)=>bif Nat.ble l c&&Nat.ble c 16777216 then .ok (.hsl h.next 0 l (some c) z.length) lo (h.new (.cells (rep z c)))else .fail
  |_=>.fail)
 |_=>.fail
def kJ(z:List V)(l c:aC):xI:=λfr lo h=>match iC z l c fr lo h with
 |.ok v lo h=>(match qo v h with|(v,h)=>.ok v lo h)
 |.fail=>.fail
def D7(o:Option aC)(fr:List V):Option V:=match o with|some x=>some (x.ev fr)|none=>none
def jG(len cap:Nat)(lo hi mx:Option V):Option (Nat×Nat×Nat):=match mx,hi with
 |some _,none=>none
 |_,_=>(match bound mx cap cap with
  |some m=>(match bound hi len m with
   |some hh=>(match bound lo 0 hh with|some l=>some (l,hh,m)|none=>none)
   |none=>none)
  |none=>none)
def QT(s:List Nat)(lo hi mx:Option V):Option V:=match mx with
 |some _=>none
 |none=>(match jG s.length s.length lo hi none with
  |some p=>some (.str ((s.take p.2.1).drop p.1))
  |none=>none)
def QS(lo hi mx:Option V):Option V:=match jG 0 0 lo hi mx with
 |some _=>some .aj
 |none=>none
def adO(mx:Option V)(m hh:Nat)(ex:Bool)(n:Nat):Bool:=match mx with|some _=>Nat.beq m hh|none=>ex&&Nat.beq hh n
def EY(sz:Nat)(xs:List V)(ex:Bool)(lo hi mx:Option V):Option V:=bif xY sz xs then(match jG xs.length xs.length lo hi mx with
 |some p=>some (.list ((xs.take p.2.1).drop p.1) (adO mx p.2.2 p.2.1 ex xs.length))
 |none=>none)else none
def ajW(cap:Option Nat)(l:Nat):Option Nat:=match cap with|some c=>some (c-l)|none=>none
def QO(sz id off len:Nat)(cap:Option Nat)(sz':Nat)(lo hi mx:Option V):Option V:=bif Nat.beq sz sz' then(match jG len (cap.getD len) lo hi mx with
 |some p=>bif Nat.beq p.1 p.2.2&&!(Nat.beq p.1 0)then some (.list [] false)
  else some (.hsl id (off+p.1*sz) (p.2.1-p.1) (match mx with|some _=>some (p.2.2-p.1)|none=>ajW cap p.1) sz)
 |none=>none)else none
def uh(str:Bool)(sz:Nat)(x:aC)(lo hi mx:Option aC):xI:=λfr lc h=>match x.ev fr with
 |.str s=>bif str then OR.eU (QT s (D7 lo fr) (D7 hi fr) (D7 mx fr)) lc h else .fail
 |.aj=>bif str then .fail else OR.eU (QS (D7 lo fr) (D7 hi fr) (D7 mx fr)) lc h
 |.list xs ex=>bif str then .fail else OR.eU (EY sz xs ex (D7 lo fr) (D7 hi fr) (D7 mx fr)) lc h
 |.hsl id off len cap sz'=>bif str then .fail else OR.eU (QO sz id off len cap sz' (D7 lo fr) (D7 hi fr) (D7 mx fr)) lc h
 |_=>.fail
def jD(off:Nat)(x:aC):xI:=λfr lo h=>match x.ev fr with
 |.aY t o=>.ok (.aY t (o+off)) lo h
 |.bg id o=>.ok (.bg id (o+off)) lo h
 |.iE cs=>.ok (.iE (skip off cs)) lo h
 |_=>.fail
def qL(ag:Bool)(off sz:Nat)(x:aC):xI:=λfr lo h=>match x.ev fr with
 |.agg cs=>OR.eU (mk ag (takeN sz (skip off cs))) lo h
 |_=>.fail
def iG(sz:Nat)(x i:aC):xI:=λfr lo h=>match i.ev fr with
 |.int _ (.ofNat i)=>(match x.ev fr with
  |.list xs _=>(match ng i xs with
   |some x=>bif Nat.beq x.cells.length sz then .ok (.iE x.cells) lo h else .fail
   |none=>.fail)
  |.hsl id off len _ _=>bif Nat.blt i len then .ok (.bg id (off+i*sz)) lo h else .fail
  |_=>.fail)
 |_=>.fail
def xU(sz n:Nat)(x i:aC):xI:=λfr lo h=>match i.ev fr with
 |.int _ (.ofNat i)=>bif Nat.blt i n then(match x.ev fr with
  |.aY t o=>.ok (.aY t (o+i*sz)) lo h
  |.bg t o=>.ok (.bg t (o+i*sz)) lo h
  |_=>.fail)else .fail
 |_=>.fail
def pI(x i:aC):xI:=λfr lo h=>match x.ev fr with
 |.str s=>(match i.ev fr with
  |.int _ (.ofNat i)=>(match Qj s i with|some b=>.ok (.int .u8 (.ofNat b)) lo h|none=>.fail)
  |_=>.fail)
 |_=>.fail
def mg(ag:Bool)(sz n:Nat)(x i:aC):xI:=λfr lo h=>match x.ev fr with
 |.agg cs=>(match i.ev fr with
  |.int _ (.ofNat i)=>bif Nat.blt i n then OR.eU (mk ag (takeN sz (skip (i*sz) cs))) lo h else .fail
  |_=>.fail)
 |_=>.fail
def mapOf(m:V)(h:H):Option (List (V×V)):=match m with
 |.fA=>some []
 |.map id=>gK h id
 |_=>none
def iy(kc:Nat)(v:V):Bool:=match v with
 |.int _ _=>Nat.beq kc 0
 |.str _=>Nat.beq kc 1
 |.bg _ _=>Nat.beq kc 2
 |.bool _=>Nat.beq kc 3
 |_=>false
def tZ(z:V)(ok:Bool)(r:Option (Nat×V)):V:=match r with
 |some p=>bif ok then .tuple [p.2,.bool true]else p.2
 |none=>bif ok then .tuple [z,.bool false]else z
def mD(kc:Nat)(z:V)(ok:Bool)(m k:aC):xI:=λfr lo h=>bif iy kc (k.ev fr)then(match mapOf (m.ev fr) h with
 |some es=>(match oN h (k.ev fr) es 0 with
  |some r=>.ok (tZ z ok r) lo h
  |none=>.fail)
 |none=>.fail)else .fail
def La(id:Nat)(es:List (V×V))(k v:V)(r:Option (Nat×V))(lo:Lo)(h:H):OR:=match r with
 |some p=>.ok .undef lo (h.set id (.map (AQ es p.1 v)))
 |none=>.ok .undef lo (h.set id (.map (es++[(k,v)])))
def oH(kc:Nat)(m k x:aC):xI:=λfr lo h=>bif iy kc (k.ev fr)&&!bK (x.ev fr)then(match m.ev fr with
  |.map id=>(match gK h id with
   |some es=>(match oN h (k.ev fr) es 0 with
    |some r=>La id es (k.ev fr) (x.ev fr) r lo h
    |none=>.fail)
   |none=>.fail)
  |_=>.fail)else .fail
def Hu(z:V)(id:Nat)(es:List (V×V))(k:V)(r:Option (Nat×V))(lo:Lo)(h:H):OR:=match r with
 |some p=>.ok (.tuple [p.2,.int .i64 (.ofNat p.1)]) lo (h.set id (.map es))
 |none=>.ok (.tuple [z,.int .i64 (.ofNat es.length)]) lo (h.set id (.map (es++[(k,z)])))
def zI(kc:Nat)(z:V)(m k:aC):xI:=λfr lo h=>bif iy kc (k.ev fr)then(match m.ev fr with
 |.map id=>(match gK h id with
  |some es=>(match oN h (k.ev fr) es 0 with
   |some r=>Hu z id es (k.ev fr) r lo h
   |none=>.fail)
  |none=>.fail)
 |_=>.fail)else .fail
def uG(m s x:aC):xI:=λfr lo h=>match x.ev fr with
 |.aY _ _=>.fail
 |.undef=>.fail
 |v=>(match m.ev fr with
  |.map id=>(match s.ev fr with
   |.int _ (.ofNat i)=>(match gK h id with
    |some es=>bif Nat.blt i es.length then .ok .undef lo (h.set id (.map (AQ es i v)))else .fail
    |none=>.fail)
   |_=>.fail)
  |_=>.fail)
def qj(i:Nat)(x:aC):xI:=λfr lo h=>match x.ev fr with|.tuple vs=>OR.eU (ng i vs) lo h|_=>.fail
def lenOf(h:H)(cls:Nat)(v:V):Option Nat:=match cls with
 |0=>(match v with
  |.aj=>some 0
  |.list xs _=>some xs.length
  |.hsl _ _ len _ _=>some len
  |_=>none)
 |1=>(match v with|.str s=>some s.length|_=>none)
 |2=>(match v with
  |.fA=>some 0
  |.map id=>(match gK h id with|some es=>some es.length|none=>none)
  |_=>none)
 |_=>none
def vN(cls:Nat)(x:aC):xI:=λfr lo h=>match lenOf h cls (x.ev fr)with
 |some n=>.ok (.int .i64 (.ofNat n)) lo h
 |none=>.fail
def BP(x:aC):xI:=λfr lo h=>match x.ev fr with
 |.aj=>.ok (.int .i64 0) lo h
 |.list xs ex=>bif ex then .ok (.int .i64 (.ofNat xs.length)) lo h else .fail
 |.hsl _ _ _ c _=>(match c with|some c=>.ok (.int .i64 (.ofNat c)) lo h|none=>.fail)
 |_=>.fail
def zJ(x y:aC):xI:=λfr lo h=>match x.ev fr with
 |.int k a=>(match y.ev fr with|.int _ b=>.ok (.int k (bif wX a b then b else a)) lo h|_=>.fail)
 |_=>.fail
def zK(x y:aC):xI:=λfr lo h=>match x.ev fr with
 |.int k a=>(match y.ev fr with|.int _ b=>.ok (.int k (bif wX b a then b else a)) lo h|_=>.fail)
 |_=>.fail
def SK(o:Option (V×H))(lo:Lo):OR:=match o with|some p=>.ok p.1 lo p.2|none=>.fail
def dN(sz:Nat)(x y:aC):xI:=λfr lo h=>match fH (y.ev fr)with
 |some n=>(match bJ h sz n (y.ev fr)with|some new=>bif bf new then SK (ou h sz (x.ev fr) n new) lo else .fail|none=>.fail)
 |none=>.fail
def lS(sz:Nat)(x y:aC):xI:=λfr lo h=>match dN sz x y fr lo h with
 |.ok v lo h=>(match qo v h with|(v,h)=>.ok v lo h)
 |.fail=>.fail
def lT(z:List V)(x n:aC):xI:=λfr lo h=>match n.ev fr with
 |.int k (.ofNat n)=>bif eqK k .i64&&Nat.ble n 16777216&&Nat.blt 0 n then(match x.ev fr with
  |.aj=>.ok (.hsl h.next 0 n none z.length) lo (h.new (.cells (rep z n)))
  |_=>.fail)else .fail
 |_=>.fail
def zl(sz:Nat)(x y:V)(n:Nat)(lo:Lo)(h:H):OR:=match x with
 |.hsl id off _ _ sz'=>bif Nat.beq sz sz' then(match bJ h sz n y with
  |some new=>(match getCells h id with
   |some cs=>bif bf new then(match splice off cs new with
    |some cs=>.ok (.int .i64 (.ofNat n)) lo (h.set id (.cells cs))
    |none=>.fail)else .fail
   |none=>.fail)
  |none=>.fail)else .fail
 |_=>bif Nat.beq n 0 then .ok (.int .i64 0) lo h else .fail
def uF(sz:Nat)(x y:aC):xI:=λfr lo h=>match fH (y.ev fr)with
 |some n=>(match lenOf h 0 (x.ev fr)with
  |some m=>zl sz (x.ev fr) (y.ev fr) (bif Nat.ble n m then n else m) lo h
  |none=>.fail)
 |none=>.fail
def vM(z:List V)(x:aC):xI:=λfr lo h=>match x.ev fr with
 |.aj=>.ok .undef lo h
 |.list xs _=>(match xs with|[]=>.ok .undef lo h|_::_=>.fail)
 |.hsl id off len _ _=>bif bf z then(match getCells h id with
  |some cs=>(match splice off cs (rep z len)with|some cs=>.ok .undef lo (h.set id (.cells cs))|none=>.fail)
  |none=>.fail)else .fail
 |_=>.fail
def uf(x y:aC):xI:=λfr lo h=>match x.ev fr with
 |.bg a o=>(match y.ev fr with
  |.bg b _=>bif Nat.beq a b then .fail else .ok (.bg a o) lo h
  |_=>.fail)
 |_=>.fail
def aw3:xI:=λ_ _ _=>.fail
def aK(d:Nat)(o:oM):xI:=match o with
 |.mv x=>Qu x
 |.pick c a b=>vS c a b
 |.alloc z=>Gi d z
 |.jy z=>zH z
 |.CJ x=>AP d x
 |.Gw x=>Dq x
 |.build z ps=>xE z ps
 |.lit z sz n ps=>GX z sz n ps
 |.qR a=>vO a
 |.qI sz a=>vP sz a
 |.store sz a x=>lq sz a x
 |.tK x=>ug x
 |.eq n c x y=>zY n c x y
 |.bin op x y=>xR op x y
 |.not x=>GY x
 |.neg x=>BQ x
 |.mM k x=>lg k x
 |.zN x=>sF x
 |.Ic x=>xk x
 |.nG x=>jE x
 |.toStr x=>uj x
 |.pF t x=>lU t x
 |.l9 fn a b=>tN fn a b
 |.mkMap=>Gj
 |.mkSlice z l c=>iC z l c
 |.slice st sz x lo hi mx=>uh st sz x lo hi mx
 |.fieldAddr off x=>jD off x
 |.field ag off sz x=>qL ag off sz x
 |.ji sz x i=>iG sz x i
 |.wS sz n x i=>xU sz n x i
 |.index x i=>pI x i
 |.uw ag sz n x i=>mg ag sz n x i
 |.lookup kc z ok m k=>mD kc z ok m k
 |.vI kc m k x=>oH kc m k x
 |.wY kc z m k=>zI kc z m k
 |.oz m s x=>uG m s x
 |.extract i x=>qj i x
 |.len c x=>vN c x
 |.cap x=>BP x
 |.max x y=>zJ x y
 |.min x y=>zK x y
 |.append sz x y=>dN sz x y
 |.qE z x n=>lT z x n
 |.copy sz x y=>uF sz x y
 |.clear z x=>vM z x
 |.qJ x y=>uf x y
 |.ni z l c=>kJ z l c
 |.rU sz x y=>lS sz x y
 |.recover=>λ_ lo h=>.ok .nilIface lo h
 |.bad=>aw3
inductive Out where
 |fail
 |norm (fr:List V) (lo:Lo) (h:H)
 |jump (j:Jump) (fr:List V) (lo:Lo) (h:H)
 |val (v:V) (h:H)
 deriving Inhabited
def findLabel:aN->Nat->Option aN
 |.seq a b,l=>match findLabel a l with
  |some r=>some (.seq r b)
  |none=>findLabel b l
 |.label l',l=>bif Nat.beq l' l then some .skip else none
 |_,_=>none
inductive Cmd where
 |code (c:aN)
 |ops (l:List Ins)
 |draws (l:List Ins)
 |call (f:Nat) (args:List V)
 |app (f:V) (args:List V)
 |scope (c rest:aN)
 deriving Inhabited
structure bF where
 nt:Nat
 results:List (Nat×Bool×Bool×Nat)
 ext:Nat
 body:aN
 qo:Bool
 deriving Inhabited
def Nh(l:List Nat)(c:Nat)(i:Nat):Option Nat:=match l with
 |[]=>none
 |b::bs=>bif Nat.beq b c then some i else Nh bs c (i+1)
def alB(o:Option Nat):V:=match o with|some i=>.int .i64 (.ofNat i)|none=>.int .i64 (-1)
def abK(l:List Nat)(c:Nat):Nat:=match l with
 |[]=>0
 |b::bs=>bif Nat.beq b c then abK bs c+1 else abK bs c
def ext(n:Nat)(args:List V)(h:H):Out:=match n,args with
 |2,[b,.int .u8 (.ofNat c)]=>bif Nat.blt c 256 then(match bytesIn h b with
  |some bs=>.val (alB (Nh bs c 0)) h
  |none=>.fail)else .fail
 |3,[.str b,.int .u8 (.ofNat c)]=>bif Nat.blt c 256 then .val (alB (Nh b c 0)) h else .fail
 |4,[b,.int .u8 (.ofNat c)]=>bif Nat.blt c 256 then(match bytesIn h b with
  |some bs=>.val (.int .i64 (.ofNat (abK bs c))) h
  |none=>.fail)else .fail
 |_,_=>.fail
def bG(fr:List V)(d:Option Nat)(v:V):List V:=match d with|some t=>lC fr t v|none=>fr
def resV(fr:List V)(lo:Lo)(h:H):List (Nat×Bool×Bool×Nat)->Option (List V)
 |[]=>some []
 |(t,PO,ag,sz)::r =>
  let v:Option V:=bif PO then(match aF (aA fr t) lo h with|some cs=>mk ag (takeN sz cs)|none=>none)else some (aA fr t)
  match v with
  |none=>none
  |some v=>bif bK v then none else(match resV fr lo h r with|some vs=>some (v::vs)|none=>none)
abbrev Ih:=Cmd->List V->Lo->H->Out
def jC(ih:Ih)(b:aN)(o:Out):Out:=match o with
 |.norm fr lo h=>ih (.code b) fr lo h
 |.jump j fr lo h=>.jump j fr lo h
 |_=>.fail
def iw(id:Nat)(o:Out):Out:=match o with
 |.jump j fr lo h=>(match j with
  |.exit id'=>bif Nat.beq id' id then .norm fr lo h else .jump j fr lo h
  |_=>.jump j fr lo h)
 |o=>o
def uy(ih:Ih)(c:aN)(o:Out):Out:=match o with
 |.jump j fr lo h=>(match j with
  |.goto l=>(match findLabel c l with|some r=>ih (.scope c r) fr lo h|none=>.jump j fr lo h)
  |_=>.jump j fr lo h)
 |o=>o
def qK:List V->List V
 |[]=>[]
 |v::vs=>(match v with|.aY _ _=>.undef|v=>v)::qK vs
def getLoop(h:H)(id:Nat):Option Ee:=match h.get id with
 |some o=>(match o with|.loop l=>some l|_=>none)
 |none=>none
def HY(l:Nat)(fr:List V)(lo:Lo)(o:Out):Out:=match o with
 |.val _ h=>(match getLoop h l with
  |some lp=>bif Nat.beq lp.st 1 then .fail else(match lp.pending with
   |none=>.norm fr lo (h.del l)
   |some j=>.jump j fr lo (h.del l))
  |none=>.fail)
 |_=>.fail
def yO(ih:Ih)(f:aC)(ps:List Nat)(a b:aN)(fr:List V)(lo:Lo)(h:H):Out:=match f.ev fr with
 |.func fn first caps=>(match fn with
  |.func q=>HY h.next fr lo (ih (.call q (first++(.func (.yield h.next) [] []::caps))) [] [] (h.new (.loop ⟨0,none,qK fr,ps,a,b⟩)))
  |_=>.fail)
 |_=>.fail
def I9(ih:Ih)(c:V)(a b:aN)(fr:List V)(lo:Lo)(h:H):Out:=match c with
 |.bool t=>bif t then ih (.code a) fr lo h else ih (.code b) fr lo h
 |_=>.fail
def aS(ih:Ih)(c:aN):List V->Lo->H->Out:=match c with
 |.skip=>.norm
 |.label _=>.norm
 |.region ops=>ih (.ops ops)
 |.draw ops=>ih (.draws ops)
 |.seq a b=>λfr lo h=>jC ih b (ih (.code a) fr lo h)
 |.cond c a b=>λfr lo h=>I9 ih (c.ev fr) a b fr lo h
 |.block id c=>λfr lo h=>iw id (ih (.code c) fr lo h)
 |.loop c=>λfr lo h=>jC ih (.loop c) (ih (.code c) fr lo h)
 |.exit id=>.jump (.exit id)
 |.goto l=>.jump (.goto l)
 |.ret=>.jump .ret
 |.scope c=>ih (.scope c c)
 |.rangeFunc f ps a b=>yO ih f ps a b
def KC(ih:Ih)(os:List Ins)(fr:List V)(d:Option Nat)(o:OR):Out:=match o with
 |.ok v lo h=>ih (.ops os) (bG fr d v) lo h
 |.fail=>.fail
def KA(ih:Ih)(os:List Ins)(fr:List V)(d:Nat)(o:OR):Out:=match o with
 |.ok v lo h=>ih (.ops os) (lC (fJ d fr) d v) lo h
 |.fail=>.fail
def RZ(ih:Ih)(os:List Ins)(fr:List V)(lo:Lo)(d:Option Nat)(o:Out):Out:=match o with
 |.val v h=>ih (.ops os) (bG fr d v) lo h
 |_=>.fail
def eqO:Option Nat->Option Nat->Bool
 |none,none=>true
 |some a,some b=>Nat.beq a b
 |_,_=>false
mutual
def nT:V->V->Bool
 |.undef,.undef=>true
 |.bool a,.bool b=>bif a then b else !b
 |.int k a,.int l b=>eqK k l&&sK a b
 |.str a,.str b=>mW a b
 |.nilPtr,.nilPtr=>true
 |.aY a b,.aY c d=>Nat.beq a c&&Nat.beq b d
 |.bg a b,.bg c d=>Nat.beq a c&&Nat.beq b d
 |.iE a,.iE b=>Au a b
 |.aj,.aj=>true
 |.list a x,.list b y=>(bif x then y else !y)&&Au a b
 |.hsl a b c x d,.hsl a' b' c' x' d'=>Nat.beq a a'&&Nat.beq b b'&&Nat.beq c c'&&Nat.beq d d'&&eqO x x'
 |.fA,.fA=>true
 |.map a,.map b=>Nat.beq a b
 |.nilFunc,.nilFunc=>true
 |.func (.func f) a b,.func (.func g) c d=>Nat.beq f g&&Au a c&&Au b d
 |.nilIface,.nilIface=>true
 |.iface t a,.iface u b=>Nat.beq t u&&nT a b
 |.agg a,.agg b=>Au a b
 |.tuple a,.tuple b=>Au a b
 |_,_=>false
def Au:List V->List V->Bool
 |[],[]=>true
 |a::as,b::bs=>nT a b&&Au as bs
 |_,_=>false
end
def uz(n:Nat):List Nat->Bool
 |[]=>false
 |x::xs=>Nat.beq x n||uz n xs
def IZ(ids:List Nat)(v:V):Bool:=match v with|.func fn _ _=>(match fn with|.func g=>uz g ids|_=>false)|_=>false
def bM(o:oM):Bool:=match o with|.alloc _=>true|.CJ _=>true|_=>false
def vV(ih:Ih)(os:List Ins)(i:Ins):List V->Lo->H->Out:=match i with
 |.op d o=>(match d with
  |some t=>bif bM o then(λfr lo h=>KA ih os fr t (aK t o fr lo h))else(λfr lo h=>KC ih os fr d (aK t o fr lo h))
  |none=>bif bM o then(λ_ _ _=>.fail)else λfr lo h=>KC ih os fr none (aK 0 o fr lo h))
 |.call d f args=>λfr lo h=>bif iV (aC.evs args fr)then .fail else RZ ih os fr lo d (ih (.call f (aC.evs args fr)) [] [] h)
 |.dyn d f args=>λfr lo h=>bif iV (aC.evs args fr)then .fail else RZ ih os fr lo d (ih (.app (f.ev fr) (aC.evs args fr)) [] [] h)
 |.defer ids f _=>λfr lo h=>bif IZ ids (f.ev fr)then ih (.ops os) fr lo h else .fail
 |.grd _ _ _ _=>λ_ _ _=>.fail
 |.chk _ _ _=>λ_ _ _=>.fail
def wE(ih:Ih)(os:List Ins)(t:Nat)(b:Bool)(d:Option Nat)(i:Ins)(fr:List V)(lo:Lo)(h:H):Out:=match aA fr t with
 |.bool c=>bif (bif b then c else !c)then vV ih os i fr lo h else ih (.ops os) (bG fr d (.tuple [])) lo h
 |.tuple vs=>(match vs with|[]=>ih (.ops os) (bG fr d (.tuple [])) lo h|_::_=>.fail)
 |_=>.fail
def kT(ih:Ih)(os:List Ins)(i:Ins):List V->Lo->H->Out:=match i with
 |.grd t b d i=>wE ih os t b d i
 |i=>vV ih os i
def yx(t:Nat)(o:oM)(fr:List V)(lo:Lo)(h:H):Bool:=match aK t o fr lo h with
 |.ok v _ _=>nT v (aA fr t)
 |.fail=>false
def yg(g:Option (Nat×Bool))(t:Nat)(o:oM)(fr:List V)(lo:Lo)(h:H):Bool:=match g with
 |none=>yx t o fr lo h
 |some (s,b)=>(match aA fr s with
  |.bool c=>bif (bif b then c else !c)then yx t o fr lo h else nT (.tuple []) (aA fr t)
  |.tuple vs=>(match vs with|[]=>nT (.tuple []) (aA fr t)|_::_=>false)
  |_=>false)
def CW(ih:Ih):Ih:=λc fr lo h=>match c with
 |.ops _=>.norm fr lo h
 |c=>ih c fr lo h
def Bz(k:List V->Lo->H->Out)(o:Out):Out:=match o with
 |.norm fr lo h=>k fr lo h
 |_=>.fail
def E8(ih:Ih)(i:Ins)(k:List V->Lo->H->Out):List V->Lo->H->Out:=match i with
 |.chk g t o=>λfr lo h=>bif yg g t o fr lo h then k fr lo h else .fail
 |i=>λfr lo h=>Bz k (kT (CW ih) [] i fr lo h)
def fG(ih:Ih):List Ins->List V->Lo->H->Out
 |[]=>.norm
 |i::is=>E8 ih i (fG ih is)
def aZ(ih:Ih)(l:List Ins):List V->Lo->H->Out:=match l with
 |[]=>.norm
 |i::os=>kT ih os i
def setSt(l st:Nat)(pend:Option Jump)(lp:Ee)(h:H):H:=h.set l (.loop ⟨st,pend,lp.fr,lp.params,lp.assign,lp.body⟩)
def yI(l:Nat)(o:Out):Out:=match o with
 |.norm _ _ h=>(match getLoop h l with|some lp=>.val (.bool true) (setSt l 0 none lp h)|none=>.fail)
 |.jump j _ _ h=>(match getLoop h l with|some lp=>.val (.bool false) (setSt l 2 (some j) lp h)|none=>.fail)
 |_=>.fail
def H6(ih:Ih)(l:Nat)(body:aN)(o:Out):Out:=match o with
 |.norm fr lo h=>(match getLoop h l with
  |some lp=>bif Nat.beq lp.st 0 then yI l (ih (.code body) fr lo (setSt l 1 lp.pending lp h))else .fail
  |none=>.fail)
 |_=>.fail
def xW:List Nat->List V->List V->Option (List V)
 |[],[],fr=>some fr
 |t::ts,v::vs,fr=>xW ts vs (lC fr t v)
 |_,_,_=>none
def xG(ih:Ih)(l:Nat)(args:List V)(h:H):Out:=match getLoop h l with
 |some lp=>bif Nat.beq lp.st 0 then(match xW lp.params args lp.fr with
   |some fr=>H6 ih l lp.body (ih (.code lp.assign) fr [] h)
   |none=>.fail)else .fail
 |none=>.fail
def MN(ih:Ih)(f:V)(args:List V):List V->Lo->H->Out:=match f with
 |.func fn first caps=>(match fn with
  |.func g=>ih (.call g (first++(args++caps)))
  |.yield l=>(match first with|[]=>λ_ _ h=>xG ih l args h|_::_=>λ_ _ _=>.fail)
  |_=>λ_ _ _=>.fail)
 |_=>λ_ _ _=>.fail
def dI(vs:List V):V:=match vs with|[v]=>v|vs=>.tuple vs
def finish(fn:bF)(o:Option (List V))(h:H):Out:=match o with
 |some vs=>bif fn.qo then(match qo (dI vs) h with|(v,h)=>.val v h)else .val (dI vs) h
 |none=>.fail
def leave(fn:bF)(fr:List V)(lo:Lo)(h:H):Out:=finish fn (resV fr lo h fn.results) h
def wC(fn:bF)(o:Out):Out:=match o with
 |.norm fr lo h=>leave fn fr lo h
 |.jump j fr lo h=>(match j with|.ret=>leave fn fr lo h|_=>.fail)
 |_=>.fail
def pad(n:Nat):List V->List V:=match n with
 |0=>λxs=>xs
 |n+1=>λxs=>match xs with
  |[]=>.undef::pad n []
  |x::xs=>x::pad n xs
def yj(fns:Nat->Option bF)(ih:Ih)(f:Nat)(args:List V)(h:H):Out:=match fns f with
 |none=>.fail
 |some fn=>bif Nat.beq fn.ext 0 then wC fn (ih (.code fn.body) (pad fn.nt args) [] h)else ext fn.ext args h
def step(fns:Nat->Option bF)(ih:Ih)(c:Cmd):List V->Lo->H->Out:=match c with
 |.code c=>aS ih c
 |.ops l=>aZ ih l
 |.draws l=>fG ih l
 |.call f args=>λ_ _ h=>yj fns ih f args h
 |.app f args=>MN ih f args
 |.scope c r=>λfr lo h=>uy ih c (ih (.code r) fr lo h)
def axk(fns:Nat->Option bF):Nat->Ih
 |0,_,_,_,_=>.fail
 |n+1,c,fr,lo,h=>step fns (axk fns n) c fr lo h
def flat:Code->Bool
 |.rangeFunc ..=>false
 |.region _ ops _=>ops.all λo=>match o.op with|.defer _=>false|_=>true
 |.seq a b=>flat a&&flat b
 |.cond _ a b=>flat a&&flat b
 |.block _ c=>flat c
 |.loop c=>flat c
 |.scope c=>flat c
 |_=>true
def aC.slots:aC->List Nat
 |.tmp t=>[t]
 |.const _=>[]
def EZ:Option aC->List Nat
 |none=>[]
 |some x=>x.slots
def uI:List aC->List Nat
 |[]=>[]
 |x::xs=>x.slots++uI xs
def QU:List (Nat×Nat×aC)->List Nat
 |[]=>[]
 |(_,_,x)::ps=>x.slots++QU ps
def oM.slots:oM->List Nat
 |.mv x|.CJ x|.Gw x|.qR x|.qI _ x|.tK x|.not x|.neg x|.mM _ x|.zN x|.Ic x|.nG x|.toStr x|.pF _ x|.fieldAddr _ x|.field _ _ _ x|.extract _ x|.len _ x|.cap x|.clear _ x=>x.slots
 |.alloc _|.jy _|.mkMap|.recover|.bad=>[]
 |.pick a b c|.vI _ a b c|.oz a b c=>a.slots++(b.slots++c.slots)
 |.build _ ps|.lit _ _ _ ps=>QU ps
 |.store _ x y|.eq _ _ x y|.bin _ x y|.ji _ x y|.wS _ _ x y|.index x y|.uw _ _ _ x y|.lookup _ _ _ x y|.wY _ _ x y|.max x y|.min x y|.append _ x y|.qE _ x y|.copy _ x y|.mkSlice _ x y|.qJ x y|.ni _ x y|.rU _ x y=>x.slots++y.slots
 |.l9 _ a b=>uI a++uI b
 |.slice _ _ x a b c=>x.slots++(EZ a++(EZ b++EZ c))
def oM.cls:oM->Nat
 |.mv _|.pick _ _ _|.build _ _|.lit _ _ _ _|.tK _|.bin _ _ _|.not _|.neg _|.mM _ _|.zN _|.Ic _|.nG _|.pF _ _|.l9 _ _ _|.slice _ _ _ _ _ _|.fieldAddr _ _|.field _ _ _ _|.ji _ _ _|.wS _ _ _ _|.index _ _|.uw _ _ _ _ _|.extract _ _|.cap _|.max _ _|.min _ _=>0
 |.eq _ c _ _=>bif Nat.beq c 2 then 1 else 0
 |.len c _=>bif Nat.beq c 2 then 1 else 0
 |.qR _|.qI _ _|.toStr _|.lookup _ _ _ _ _=>1
 |_=>2
def Ins.slots:Ins->List Nat
 |.op _ o=>o.slots
 |.call _ _ l=>uI l
 |.dyn _ f l=>f.slots++uI l
 |.defer _ f l=>f.slots++uI l
 |.grd t _ _ i=>t::i.slots
 |.chk _ _ o=>o.slots
def Ins.dst:Ins->Option Nat
 |.op d _=>d
 |.call d _ _=>d
 |.dyn d _ _=>d
 |.defer _ _ _=>none
 |.grd _ _ d _=>d
 |.chk _ _ _=>none
def Ym(a b:List Nat):Bool:=match a with
 |[]=>true
 |x::xs=>!(uz x b)&&Ym xs b
end
section
open Go
def Iy{a b:Nat}(h:a≠b):Nat.beq a b=false:=by
 cases hq:Nat.beq a b with
 |true=>exact absurd (aP hq) h
 |false=>rfl
def abA(a:Nat):Nat.beq a a=true:=jP a
def T.Ko{α:Type}(o:Option α):∀(n:Nat) (t:T α) (i j:Nat),i<n->(T.oI o n t i).get j=if i=j then o else t.get j:=by
 intro n
 induction n with
 |zero=>intro t i j h;omega
 |succ n ih =>
  intro t i j h;have hp:∀(l r:T α) (p:Option α),(bif Nat.beq i 0 then T.node o l r else bif Nat.beq (i%2) 1 then .node p (T.oI o n l (i / 2)) r else .node p l (T.oI o n r (i / 2-1))).get j
    = if i=j then o else(T.node p l r).get j:=by
   intro l r p;by_cases h0:i=0
   .subst h0;by_cases hj:j=0
    .subst hj;simp[T.get]
    .have hb:Nat.beq j 0=false:=Iy hj;simp[T.get,hb,Ne.symm hj]
   .have hb:Nat.beq i 0=false:=Iy h0;by_cases hm:i%2=1
    .have hm':Nat.beq (i%2) 1=true:=by simp[hm]
     simp only[hb,hm',cond_false,cond_true,T.get];by_cases hj:j=0
     .subst hj;simp[h0]
     .have hjb:Nat.beq j 0=false:=Iy hj;simp only[hjb,cond_false];by_cases hjm:j%2=1
      .have ab9:Nat.beq (j%2) 1=true:=by simp[hjm]
       simp only[ab9,cond_true];rw[ih _ _ _ (by omega)];by_cases e:i=j
       .subst e;simp
       .have:¬i / 2=j / 2:=by omega
        simp[e,this]
      .have ab9:Nat.beq (j%2) 1=false:=by
        cases hq:Nat.beq (j%2) 1 with
        |true=>exact absurd (aP hq) hjm
        |false=>rfl
       simp only[ab9,cond_false];have:¬i=j:=by intro e;subst e;exact hjm hm
       simp[this]
    .have hm':Nat.beq (i%2) 1=false:=by
      cases hq:Nat.beq (i%2) 1 with
      |true=>exact absurd (aP hq) hm
      |false=>rfl
     simp only[hb,hm',cond_false,T.get];by_cases hj:j=0
     .subst hj;simp[h0]
     .have hjb:Nat.beq j 0=false:=Iy hj;simp only[hjb,cond_false];by_cases hjm:j%2=1
      .have ab9:Nat.beq (j%2) 1=true:=by simp[hjm]
       simp only[ab9,cond_true];have:¬i=j:=by intro e;subst e;exact hm hjm
       simp[this]
      .have ab9:Nat.beq (j%2) 1=false:=by
        cases hq:Nat.beq (j%2) 1 with
        |true=>exact absurd (aP hq) hjm
        |false=>rfl
       simp only[ab9,cond_false];rw[ih _ _ _ (by omega)];by_cases e:i=j
       .subst e;simp
       .have:¬i / 2-1=j / 2-1:=by omega
        simp[e,this]
  cases t with
  |leaf =>
   have:=hp .leaf .leaf none;have hl:(T.node none .leaf .leaf:T α).get j=T.leaf.get j:=by
    simp only[T.get];cases Nat.beq j 0<;>cases Nat.beq (j%2) 1<;>rfl
   rw[hl]at this;exact this
  |node p l r=>exact hp l r p
def H.qG(h:H)(i j:Nat)(o:Obj):(h.set i o).get j=if i=j then some o else h.get j:=T.Ko _ _ _ _ _ (Nat.lt_succ_self i)
def H.Ag(h:H)(i j:Nat):(h.del i).get j=if i=j then none else h.get j:=T.Ko _ _ _ _ _ (Nat.lt_succ_self i)
def H.rY(h:H)(j:Nat)(o:Obj):(h.new o).get j=if h.next=j then some o else h.get j:=T.Ko _ _ _ _ _ (Nat.lt_succ_self h.next)
@[simp] def H.azW(h:H)(i:Nat)(o:Obj):(h.set i o).next=h.next:=rfl
@[simp] def H.azU(h:H)(i:Nat):(h.del i).next=h.next:=rfl
@[simp] def H.azV(h:H)(o:Obj):(h.new o).next=h.next+1:=rfl
structure G where
 ρ:Nat->Option (Nat×Nat)
 φ:Nat->Nat->Option Value
 pin:Nat->Prop
 alr:∀k,pin k->∃o,φ k o≠none
structure G.le (g g':G):Prop where
 ρ:∀i x,g.ρ i=some x->g'.ρ i=some x
 φ:∀b o v,g.φ b o=some v->g'.φ b o=some v
 pin:∀k,g.pin k<->g'.pin k
def G.le.refl(g:G):g.le g:=⟨λ_ _ h=>h,λ_ _ _ h=>h,λ_=>.rfl⟩
def G.le.trans{a b c:G}(h:a.le b)(k:b.le c):a.le c:=⟨λi x e=>k.ρ i x (h.ρ i x e),λb o v e=>k.φ b o v (h.φ b o v e),λi=>(h.pin i).trans (k.pin i)⟩
def G.free{g:G}{b:Nat}(h:∀o,g.φ b o=none):¬g.pin b:=λhp=>let⟨o,ho⟩:=g.alr b hp;ho (h o)
inductive Rf (g:G):Fn->Fn->Prop
 |func (f:FuncId):Rf g (.func f) (.func f)
 |yield {i b n:Nat} (h:g.ρ i=some (b,n)):Rf g (.yield i) (.yield b)
inductive Rv (g:G):V->Value->Prop
 |undef (w:Value):Rv g .undef w
 |bool (b:Bool):Rv g (.bool b) (.bool b)
 |int (k:IntKind) (n:Int):Rv g (.int k n) (.int k n)
 |str (bs:ByteArray):Rv g (.str (bs.data.toList.map UInt8.toNat)) (.string bs)
 |nilPtr:Rv g .nilPtr (.pointer none)
 |bg {i b n:Nat} (off:Nat) (h:g.ρ i=some (b,n)):Rv g (.bg i off) (.pointer (some ⟨b,off,none⟩))
 |iE {cs:List V} {b o:Nat} (vs:Nat->Value) (h:∀(j:Nat) (c:V),cs[j]?=some c->g.φ b (o+j)=some (vs j)) (hr:∀(j:Nat) (c:V),cs[j]?=some c->Rv g c (vs j)):Rv g (.iE cs) (.pointer (some ⟨b,o,none⟩))
 |aj:Rv g .aj (.slice none 0 0)
 |list {xs:List V} {ex:Bool} {b o cap:Nat} (k:Nat) (vs:Nat->Nat->Value) (hk:∀x∈xs,x.cells.length=k) (hc:xs.length<=cap) (he:ex=true->cap=xs.length) (hp:∀x∈xs,EC x=true->¬g.pin b)
   (h:∀(i:Nat) (x:V) (j:Nat) (c:V),xs[i]?=some x->x.cells[j]?=some c->g.φ b (o+i*k+j)=some (vs i j)) (hr:∀(i:Nat) (x:V) (j:Nat) (c:V),xs[i]?=some x->x.cells[j]?=some c->Rv g c (vs i j)) :
   Rv g (.list xs ex) (.slice (some ⟨b,o,none⟩) xs.length cap)
 |hsl {i b n off len sz c':Nat} {cap:Option Nat} (h:g.ρ i=some (b,n)) (hl:len<=c') (hc:∀c,cap=some c->c'=c) (hn:off+c'*sz<=n) :
   Rv g (.hsl i off len cap sz) (.slice (some ⟨b,off,none⟩) len c')
 |fA:Rv g .fA (.map none)
 |map {i b n:Nat} (h:g.ρ i=some (b,n)):Rv g (.map i) (.map (some b))
 |nilFunc:Rv g .nilFunc .nilFunc
 |func {fn fn':Fn} {as bs:List V} {As Bs:Array Value} (hf:Rf g fn fn') (ha:as.length=As.size) (hb:bs.length=Bs.size)
   (has:∀(i:Nat) (v:V) (w:Value),as[i]?=some v->As[i]?=some w->Rv g v w) (hbs:∀(i:Nat) (v:V) (w:Value),bs[i]?=some v->Bs[i]?=some w->Rv g v w):Rv g (.func fn as bs) (.func fn' As Bs)
 |nilIface:Rv g .nilIface .nilIface
 |iface {v:V} {w:Value} (t:TypeId) (h:Rv g v w):Rv g (.iface t v) (.iface t w)
 |agg {cs:List V} {A:Array Value} (hl:cs.length=A.size) (h:∀(i:Nat) (v:V) (w:Value),cs[i]?=some v->A[i]?=some w->Rv g v w):Rv g (.agg cs) (.agg A)
 |tuple {cs:List V} {A:Array Value} (hl:cs.length=A.size) (h:∀(i:Nat) (v:V) (w:Value),cs[i]?=some v->A[i]?=some w->Rv g v w):Rv g (.tuple cs) (.tuple A)
def Rf.mono{g g':G}(hg:g.le g'){f f':Fn}(h:Rf g f f'):Rf g' f f':=by
 cases h with
 |func f=>exact .func f
 |yield h=>exact .yield (hg.ρ _ _ h)
def Rv.mono{g g':G}(hg:g.le g'){v:V}{w:Value}(h:Rv g v w):Rv g' v w:=by
 induction h with
 |undef w=>exact .undef w
 |bool b=>exact .bool b
 |int k n=>exact .int k n
 |str bs=>exact .str bs
 |nilPtr=>exact .nilPtr
 |bg off h=>exact .bg off (hg.ρ _ _ h)
 |iE vs h hr ih=>exact .iE vs (λj c e=>hg.φ _ _ _ (h j c e)) ih
 |aj=>exact .aj
 |list k vs hk hc he hp h hr ih=>exact .list k vs hk hc he (λx hx e hq=>hp x hx e ((hg.pin _).2 hq)) (λi x j c e e'=>hg.φ _ _ _ (h i x j c e e')) ih
 |hsl h hl hc hn=>exact .hsl (hg.ρ _ _ h) hl hc hn
 |fA=>exact .fA
 |map h=>exact .map (hg.ρ _ _ h)
 |nilFunc=>exact .nilFunc
 |func hf ha hb has hbs i1 i2=>exact .func (hf.mono hg) ha hb i1 i2
 |nilIface=>exact .nilIface
 |iface t h ih=>exact .iface t ih
 |agg hl h ih=>exact .agg hl ih
 |tuple hl h ih=>exact .tuple hl ih
def lW(g:G)(vs:List V)(ws:List Value):Prop:=vs.length=ws.length/\∀(i:Nat) (v:V) (w:Value),vs[i]?=some v->ws[i]?=some w->Rv g v w
def lW.mono{g g':G}(hg:g.le g'){v:List V}{w:List Value}(h:lW g v w):lW g' v w:=⟨h.1,λi v w a b=>(h.2 i v w a b).mono hg⟩
def lW.nil(g:G):lW g [] []:=⟨rfl,λi v w h=>by simp at h⟩
def lW.cons{g:G}{v:V}{w:Value}{vs:List V}{ws:List Value}(h:Rv g v w)(hs:lW g vs ws):lW g (v::vs) (w::ws) :=
 ⟨by simp[hs.1],λi x y a b=>by
  cases i with
  |zero=>simp at a b;subst a;subst b;exact h
  |succ i=>simp at a b;exact hs.2 i x y a b⟩
def lW.Dz{g:G}{v:V}{vs:List V}{W:List Value}(h:lW g (v::vs) W):∃w ws,W=w::ws/\Rv g v w/\lW g vs ws:=by
 obtain⟨hl,hh⟩:=h;cases W with
 |nil=>simp at hl
 |cons w ws=>exact⟨w,ws,rfl,hh 0 v w rfl rfl,by simpa using hl,λi x y a b=>hh (i+1) x y (by simpa using a) (by simpa using b)⟩
def lW.Rl{g:G}{W:List Value}(h:lW g [] W):W=[]:=by
 cases W with
 |nil=>rfl
 |cons w ws=>have:=h.1;simp at this
def lW.append{g:G}{a b:List V}{A B:List Value}(h:lW g a A)(k:lW g b B):lW g (a++b) (A++B):=by
 induction a generalizing A with
 |nil=>rw[h.Rl];exact k
 |cons x xs ih=>obtain⟨w,ws,rfl,hx,hs⟩:=h.Dz;exact .cons hx (ih hs)
def lW.get{g:G}{vs:List V}{ws:List Value}(h:lW g vs ws){i:Nat}{v:V}(hv:vs[i]?=some v):∃w,ws[i]?=some w/\Rv g v w:=by
 have hi:i<vs.length:=(fB.1 hv).1;have hi':i<ws.length:=by rw[<- h.1];exact hi
 exact⟨ws[i],bV hi',h.2 i v _ hv (bV hi')⟩
def Rv.Nw{g:G}{cs:List V}{W:Value}(h:Rv g (.agg cs) W):∃A,W=.agg A/\lW g cs A.toList:=by
 cases h with
 |agg hl h=>exact⟨_,rfl,by simpa using hl,λi v w a b=>h i v w a (by simpa using b)⟩
def Rv.UM{g:G}{cs:List V}{W:Value}(h:Rv g (.tuple cs) W):∃A,W=.tuple A/\lW g cs A.toList:=by
 cases h with
 |tuple hl h=>exact⟨_,rfl,by simpa using hl,λi v w a b=>h i v w a (by simpa using b)⟩
def Rv.Qg{g:G}{cs:List V}{A:Array Value}(h:lW g cs A.toList):Rv g (.agg cs) (.agg A) :=
 .agg (by simpa using h.1) (λi v w a b=>h.2 i v w a (by simpa using b))
def Rv.mkTuple{g:G}{cs:List V}{A:Array Value}(h:lW g cs A.toList):Rv g (.tuple cs) (.tuple A) :=
 .tuple (by simpa using h.1) (λi v w a b=>h.2 i v w a (by simpa using b))
def Rv.cells{g:G}{v:V}{w:Value}(h:Rv g v w)(hu:v≠.undef):lW g v.cells w.cells.toList:=by
 have h0:=h;cases h with
 |agg hl h=>exact⟨by simpa[V.cells,Value.cells]using hl,λi v w a b=>h i v w a (by simpa[Value.cells]using b)⟩
 |undef w=>exact absurd rfl hu
 |_=>exact lW.cons h0 (.nil _)
def Ro(P:Program)(comp:FuncId->Code->aN)(g:G)(ob:Obj)(b n:Nat)(w:World):Prop :=
 match ob with
 |.cells cs=>∃(c:Array Value) (e:TypeId),w.heap[b]?=some (.cells c e (0,0))/\c.size=n/\cs.length<=n /\
   (∀(j:Nat) (x:V),cs[j]?=some x->∃v,c[j]?=some v/\Rv g x v)
 |.map es=>∃ents:Array MapEntry,w.heap[b]?=some (.map ents ents.size)/\ents.size=es.length /\
   (∀(i:Nat) (k x:V),es[i]?=some (k,x)->∃e,ents[i]?=some e/\Rv g k e.key/\Rv g x e.val/\e.born=i)
 |.loop l=>∃L:Loop,w.heap[b]?=some (.loop L)/\(L.state=match l.st with|0=>.ready|1=>.busy|2=>.done|_=>.exhausted) /\
   (L.pending=l.pending.map λ|.ret=>.ret|.exit i=>.exit i|.goto i=>.goto i)/\lW g l.fr L.tmps.toList/\L.params.toList=l.params/\∃f,comp f L.assign=l.assign/\comp f L.body=l.body/\flat L.assign=true/\flat L.body=true
structure Rw (P:Program)(comp:FuncId->Code->aN)(g:G)(σ:H)(w:World):Prop where
 frozen:∀b o v,g.φ b o=some v->w.cell? ⟨b,o,none⟩=some v
 objs:∀i ob,σ.get i=some ob->∃b n,g.ρ i=some (b,n)/\Ro P comp g ob b n w/\∀o,g.φ b o=none
 inj:∀i j b n m,(σ.get i).isSome=true->(σ.get j).isSome=true->g.ρ i=some (b,n)->g.ρ j=some (b,m)->i=j
 fresh:∀i,σ.next<=i->g.ρ i=none/\σ.get i=none
 bound:∀i b n,g.ρ i=some (b,n)->b<w.heap.size
def Live(g:G)(σ:H)(b:Nat):Prop:=∃i n,(σ.get i).isSome=true/\g.ρ i=some (b,n)
structure Frm (g:G)(σ:H)(B:Nat->Prop)(w w':World):Prop where
 os:w'.os=w.os
 tape:w'.tape=w.tape
 output:w'.output=w.output
 size:w.heap.size<=w'.heap.size
 block:∀k,k<w.heap.size->¬Live g σ k->¬B k->((∀o,g.φ k o=none)\/g.pin k)->w'.heap[k]?=w.heap[k]?
def Ro.mono{P:Program}{comp:FuncId->Code->aN}{g g':G}(hg:g.le g'){ob:Obj}{b n:Nat}{w w':World}(hb:w'.heap[b]?=w.heap[b]?)(h:Ro P comp g ob b n w):Ro P comp g' ob b n w':=by
 cases ob with
 |cells cs =>
  obtain⟨c,e,h1,h2,h3,h4⟩:=h;exact⟨c,e,hb.trans h1,h2,h3,λj x hx=>let⟨v,a,r⟩:=h4 j x hx;⟨v,a,r.mono hg⟩⟩
 |map es =>
  obtain⟨ents,h1,h2,h3⟩:=h;exact⟨ents,hb.trans h1,h2,λi k x hx=>let⟨e,a,r,s,t⟩:=h3 i k x hx;⟨e,a,r.mono hg,s.mono hg,t⟩⟩
 |loop l =>
  obtain⟨L,h1,h2,h3,h4,h5⟩:=h;exact⟨L,hb.trans h1,h2,h3,h4.mono hg,h5⟩
end
section
open Go Go.RowKit
def G.bind(g:G)(i:Nat)(x:Nat×Nat):G:={ g with ρ:=λj=>if j=i then some x else g.ρ j }
def G.freeze(g:G)(b:Nat)(c:Array Value):G:={ g with φ:=λb' o=>if b'=b then c[o]? else g.φ b' o,pin:=λk=>g.pin k/\k≠b,alr:=λk h=>let⟨o,ho⟩:=g.alr k h.1;⟨o,by rw[if_neg h.2];exact ho⟩ }
def G.yJ{g:G}{i:Nat}(x:Nat×Nat)(h:g.ρ i=none):g.le (g.bind i x) :=
 ⟨λj y e=>by
  by_cases hj:j=i
  .subst hj;rw[h]at e;cases e
  .simp[G.bind,hj,e],λ_ _ _ e=>e,λ_=>.rfl⟩
def G.FZ{g:G}{b:Nat}(c:Array Value)(h:∀o,g.φ b o=none):g.le (g.freeze b c) :=
 ⟨λ_ _ e=>e,λb' o v e=>by
  by_cases hb:b'=b
  .subst hb;rw[h]at e;cases e
  .simp[G.freeze,hb,e],λk=>⟨λhk=>⟨hk,λe=>G.free h (e▸hk)⟩,λhk=>hk.1⟩⟩
@[simp] def G.rV(g:G)(i:Nat)(x:Nat×Nat):(g.bind i x).ρ i=some x:=by simp[G.bind]
def G.lX{g:G}{i j:Nat}(x:Nat×Nat)(h:j≠i):(g.bind i x).ρ j=g.ρ j:=by simp[G.bind,h]
@[simp] def G.ayu(g:G)(i:Nat)(x:Nat×Nat):(g.bind i x).φ=g.φ:=rfl
@[simp] def G.avI(g:G)(b:Nat)(c:Array Value):(g.freeze b c).ρ=g.ρ:=rfl
def G.Ae(g:G)(b:Nat)(c:Array Value)(o:Nat):(g.freeze b c).φ b o=c[o]?:=by simp[G.freeze]
def G.kL{g:G}{b b':Nat}(c:Array Value)(o:Nat)(h:b'≠b):(g.freeze b c).φ b' o=g.φ b' o:=by simp[G.freeze,h]
def cell_of_block{w w':World}{a:Addr}(h:w'.heap[a.block]?=w.heap[a.block]?):w'.cell? a=w.cell? a:=by
 unfold World.cell?;rw[h]
def RH{w:World}{a:Addr}{v:Value}(h:w.cell? a=some v):a.block<w.heap.size:=by
 unfold World.cell? at h;cases hh:w.heap[a.block]? with
 |none=>rw[hh]at h;simp at h
 |some o=>exact(eY.1 hh).1
def xK{w:World}{b:Nat}{c:Array Value}{e:TypeId}{fz:Nat×Nat}(h:w.heap[b]?=some (.cells c e fz))(o:Nat):w.cell? ⟨b,o,none⟩=c[o]?:=by
 simp[World.cell?,h]
variable {P:Program}{comp:FuncId->Code->aN}{g:G}{σ:H}{w w':World}
def Ro.lt{ob:Obj}{b n:Nat}(h:Ro P comp g ob b n w):b<w.heap.size:=by
 cases ob with
 |cells cs=>obtain⟨c,e,h1,_⟩:=h;exact(eY.1 h1).1
 |map es=>obtain⟨ents,h1,_⟩:=h;exact(eY.1 h1).1
 |loop l=>obtain⟨L,h1,_⟩:=h;exact(eY.1 h1).1
def Rw.ads(h:Rw P comp g σ w){b o:Nat}{v:Value}(e:g.φ b o=some v):b<w.heap.size:=RH (h.frozen b o v e)
def Rw.pW(h:Rw P comp g σ w){b:Nat}(hb:w.heap.size<=b)(o:Nat):g.φ b o=none:=by
 cases e:g.φ b o with
 |none=>rfl
 |some v=>exact absurd (h.ads e) (by omega)
def Rw.same(h:Rw P comp g σ w)(hs:w.heap.size<=w'.heap.size)(hb:∀k,k<w.heap.size->w'.heap[k]?=w.heap[k]?):Rw P comp g σ w' where
 frozen b o v e:=(cell_of_block (a:=⟨b,o,none⟩) (hb b (h.ads e))).trans (h.frozen b o v e)
 objs i ob e:=let⟨b,n,r,k,f⟩:=h.objs i ob e;⟨b,n,r,k.mono (.refl g) (hb b k.lt),f⟩
 inj:=h.inj
 fresh:=h.fresh
 bound i b n e:=jQ (h.bound i b n e) hs
def Rw.add(h:Rw P comp g σ w){b n:Nat}{ob:Obj}(hl:¬Live g σ b)(hp:∀o,g.φ b o=none)(ho:Ro P comp (g.bind σ.next (b,n)) ob b n w) :
  Rw P comp (g.bind σ.next (b,n)) (σ.new ob) w:=by
 have hle:g.le (g.bind σ.next (b,n)):=G.yJ _ (h.fresh _ (aJ _)).1;refine⟨h.frozen,λi ob' e=>?_,λi j b' n' m hi hj ei ej=>?_,λi hi=>?_,λi b' n' e=>?_⟩
 .rw[H.rY]at e;by_cases hi:σ.next=i
  .subst hi;simp at e;subst e;exact⟨b,n,by simp,ho,hp⟩
  .simp[hi]at e;obtain⟨b',n',r,k,f⟩:=h.objs i ob' e;exact⟨b',n',by rw[G.lX _ (Ne.symm hi)];exact r,k.mono hle rfl,f⟩
 .rw[H.rY]at hi hj;by_cases e1:σ.next=i
  .by_cases e2:σ.next=j
   .exact e1.symm.trans e2
   .exfalso;subst e1;simp[e2]at hj;rw[G.lX _ (Ne.symm e2)]at ej;simp at ei;exact hl ⟨j,m,hj,by rw[ei.1];exact ej⟩
  .by_cases e2:σ.next=j
   .exfalso;subst e2;simp[e1]at hi;rw[G.lX _ (Ne.symm e1)]at ei;simp at ej;exact hl ⟨i,n',hi,by rw[ej.1];exact ei⟩
   .simp[e1]at hi;simp[e2]at hj;rw[G.lX _ (Ne.symm e1)]at ei;rw[G.lX _ (Ne.symm e2)]at ej;exact h.inj i j b' n' m hi hj ei ej
 .have hi':σ.next+1<=i:=hi;have hne:i≠σ.next:=by omega
  rw[G.lX _ hne,H.rY];simp[Ne.symm hne];exact h.fresh i (by omega)
 .by_cases hi:i=σ.next
  .subst hi;simp at e;rw[<- e.1];exact ho.lt
  .rw[G.lX _ hi]at e;exact h.bound i b' n' e
def Rw.del(h:Rw P comp g σ w)(i:Nat):Rw P comp g (σ.del i) w where
 frozen:=h.frozen
 objs j ob e:=by
  rw[H.Ag]at e;by_cases hi:i=j
  .simp[hi]at e
  .simp[hi]at e;exact h.objs j ob e
 inj j k b n m hj hk ej ek:=by
  rw[H.Ag]at hj hk;by_cases e1:i=j
  .simp[e1]at hj
  .by_cases e2:i=k
   .simp[e2]at hk
   .simp[e1]at hj;simp[e2]at hk;exact h.inj j k b n m hj hk ej ek
 fresh j hj:=by
  have:=h.fresh j hj;refine⟨this.1,?_⟩;rw[H.Ag];by_cases e:i=j<;>simp[e,this.2]
 bound:=h.bound
def Rw.put(h:Rw P comp g σ w){i b n:Nat}{ob:Obj}(hi:(σ.get i).isSome=true)(hr:g.ρ i=some (b,n))(hs:w'.heap.size=w.heap.size)
  (hb:∀k,k≠b->w'.heap[k]?=w.heap[k]?) (ho:Ro P comp g ob b n w'):Rw P comp g (σ.set i ob) w':=by
 have VR:∀o,g.φ b o=none:=by
  cases e:σ.get i with
  |none=>simp[e]at hi
  |some ob0 =>
   obtain⟨b',n',r,_,f⟩:=h.objs i ob0 e;rw[hr]at r;cases r;exact f
 refine⟨λb' o v e=>?_,λj ob' e=>?_,λj k b' n' m hj hk ej ek=>?_,λj hj=>?_,λj b' n' e=>by rw[hs];exact h.bound j b' n' e⟩
 .have hne:b'≠b:=by intro e';subst e';rw[VR]at e;cases e
  exact(cell_of_block (a:=⟨b',o,none⟩) (hb b' hne)).trans (h.frozen b' o v e)
 .rw[H.qG]at e;by_cases hij:i=j
  .subst hij;simp at e;subst e;exact⟨b,n,hr,ho,VR⟩
  .simp[hij]at e;obtain⟨b',n',r,k,f⟩:=h.objs j ob' e;have hne:b'≠b:=by
    intro e';subst e';exact hij (h.inj i j b' n n' hi (by simp[e]) hr r)
   exact⟨b',n',r,k.mono (.refl g) (hb b' hne),f⟩
 .have aux:∀l,(((σ.set i ob).get l)).isSome=true->(σ.get l).isSome=true:=by
   intro l hl;rw[H.qG]at hl;by_cases e1:i=l
   .subst e1;exact hi
   .simpa[e1]using hl
  exact h.inj j k b' n' m (aux j hj) (aux k hk) ej ek
 .have:=h.fresh j hj;refine⟨this.1,?_⟩;rw[H.qG];by_cases e1:i=j
  .subst e1;simp[this.2]at hi
  .simp[e1,this.2]
def Rw.freeze(h:Rw P comp g σ w){b:Nat}{c:Array Value}{e:TypeId}{fz:Nat×Nat}(hw:w.heap[b]?=some (.cells c e fz))(hl:¬Live g σ b)(hp:∀o,g.φ b o=none) :
  Rw P comp (g.freeze b c) σ w:=by
 have hle:=G.FZ (g:=g) c hp;refine⟨λb' o v e'=>?_,λi ob e'=>?_,h.inj,h.fresh,h.bound⟩
 .by_cases hb:b'=b
  .subst hb;rw[G.Ae]at e';rw[xK hw];exact e'
  .rw[G.kL _ _ hb]at e';exact h.frozen b' o v e'
 .obtain⟨b',n,r,k,f⟩:=h.objs i ob e';have hb:b'≠b:=by intro e1;subst e1;exact hl ⟨i,n,by simp[e'],r⟩
  exact⟨b',n,r,k.mono hle rfl,λo=>by rw[G.kL _ _ hb];exact f o⟩
def Live.lt(h:Rw P comp g σ w){b:Nat}(hl:Live g σ b):b<w.heap.size:=let⟨i,n,_,r⟩:=hl;h.bound i b n r
def yM(h:Rw P comp g σ w):¬Live g σ w.heap.size:=λhl=>absurd (hl.lt h) (by omega)
def Rw.alloc(h:Rw P comp g σ w)(o:Go.Obj):Rw P comp g σ (w.alloc o) :=
 h.same (by simp) (λk hk=>Below.heap_alloc w o k hk)
def Rw.ah5(h:Rw P comp g σ w)(c:Array Value)(e:TypeId)(fz:Nat×Nat):g.le (g.freeze w.heap.size c)/\Rw P comp (g.freeze w.heap.size c) σ (w.alloc (.cells c e fz)) :=
 ⟨G.FZ c λo=>h.pW (aJ _) o,(h.alloc _).freeze (World.alloc_heap_new w _) (yM h) λo=>h.pW (aJ _) o⟩
end
section
open Go
def cV:Nat->Value->V
 |0,_=>.undef
 |n+1,v=>match v with
 |.bool b=>.bool b
 |.int k n=>.int k n
 |.string s=>.str (s.data.toList.map UInt8.toNat)
 |.pointer none=>.nilPtr
 |.slice none 0 0=>.aj
 |.map none=>.fA
 |.nilFunc=>.nilFunc
 |.nilIface=>.nilIface
 |.func (.func f) first cap=>.func (.func f) (first.toList.map (cV n)) (cap.toList.map (cV n))
 |.agg cs=>.agg (cs.toList.map (cV n))
 |.tuple cs=>.tuple (cs.toList.map (cV n))
 |.iface t v=>.iface t (cV n v)
 |_=>.undef
def bQ:Operand->Option aC
 |.tmp t=>some (.tmp t)
 |.const v=>some (.const (cV 5 v))
 |.func f=>some (.const (.func (.func f) [] []))
 |.global _=>none
structure Hints where
 hp:Nat->Nat->Bool
 fr:Nat->Bool
 fz:Nat->Bool
 idle:List Nat
def lY(P:Program)(t:TypeId):Option Nat:=(P.info? t).map (·.size)
def nR(P:Program)(t:TypeId):Option V:=do
 let i <- P.info? t
 let z <- i.zero
 match cV 5 z with
 |.undef=>none
 |v=>pure v
def JW(P:Program)(t:TypeId):Option Bool:=do
 match <- P.underlying t with
 |.struct _|.array _ _=>pure true
 |_=>pure false
def JX(P:Program)(t:TypeId)(i:Nat):Option (Nat×Bool×Nat):=do
 match <- P.underlying t with
 |.struct fs=>do
  let f <- fs[i]?
  pure (f.offset,<- JW P f.type,<- lY P f.type)
 |_=>none
def isC:Operand->Bool|.const _=>true|_=>false
def ajQ(P:Program)(t:TypeId)(x y:Operand):Option Nat:=do
 match <- P.underlying t with
 |.int _|.string=>pure 0
 |.bool=>pure 1
 |.pointer e=>if(<- lY P e)=0 then none else pure 2
 |.slice _=>pure 3
 |.map _ _=>pure 4
 |.func _ _ _=>pure 5
 |.interface _=>if isC x||isC y then pure 6 else none
 |_=>none
def X4(P:Program)(t:TypeId):Option Nat:=do
 match <- P.underlying t with
 |.int _=>pure 0
 |.string=>pure 1
 |.bool=>pure 3
 |.pointer e=>if(<- lY P e)=0 then none else pure 2
 |_=>none
def RI(P:Program)(e:TypeId):Option Nat:=do
 let i <- P.info? e
 let z <- nR P e
 if i.size=0||65536<i.bytes||z.cells.length≠i.size then none else pure i.size
def cOp(P:Program)(H:Hints)(f:Nat)(o:Oper):Option oM :=
 let d:=o.dst.getD 0
 match o.op with
 |.move x|.assign x=>do pure (.mv (<- bQ x))
 |.pick c a b=>do pure (.pick (<- bQ c) (<- bQ a) (<- bQ b))
 |.alloc t=>do
  let z:=(<- nR P t).cells
  pure (if H.hp f d then .jy z else .alloc z)
 |.box _ x=>do
  let x <- bQ x
  pure (if H.hp f d then .Gw x else .CJ x)
 |.build t ps=>do
  let z <- nR P t
  match <- P.underlying t with
  |.struct fs=>do
   let places <- fs.toList.mapM λf=>(P.info? f.type).map λi=>(f.offset,i.size)
   let ps <- ps.toList.mapM λ(q:Nat×Operand)=>do
    let p <- places[q.1]?
    let x <- bQ q.2
    pure (p.1,p.2,x)
   pure (.build z.cells ps)
  |.array _ e=>do
   let s <- lY P e
   let ps <- ps.toList.mapM λ(q:Nat×Operand)=>do
    let x <- bQ q.2
    pure (q.1*s,s,x)
   pure (.build z.cells ps)
  |_=>none
 |.buildSlice t n ps=>do
  match <- P.underlying t with
  |.slice e=>do
   let s <- lY P e
   let z <- nR P e
   let ps <- ps.toList.mapM λ(q:Nat×Operand)=>do
    let x <- bQ q.2
    pure (q.1*s,s,x)
   if n*s > 2 ^ 20||s=0||z.cells.length≠s then none else
   pure (.lit z.cells s n ps)
  |_=>none
 |.load t a=>do
  let a <- bQ a
  if <- JW P t then pure (.qI (<- lY P t) a)else pure (.qR a)
 |.store t a x=>do pure (.store (<- lY P t) (<- bQ a) (<- bQ x))
 |.nilCheck x=>do pure (.tK (<- bQ x))
 |.binOp .eql t x y _=>do pure (.eq false (<- ajQ P t x y) (<- bQ x) (<- bQ y))
 |.binOp .neq t x y _=>do pure (.eq true (<- ajQ P t x y) (<- bQ x) (<- bQ y))
 |.binOp b _ x y _=>do pure (.bin b (<- bQ x) (<- bQ y))
 |.unOp .not _ x=>do pure (.not (<- bQ x))
 |.unOp .neg _ x=>do pure (.neg (<- bQ x))
 |.convert s t x=>do
  match <- P.underlying s,<- P.underlying t with
  |_,.int k=>do pure (.mM k (<- bQ x))
  |.string,.string=>do pure (.zN (<- bQ x))
  |.slice e,.slice _=>do
   match <- P.underlying e with
   |.int .u8=>if s==t then do pure (.Ic (<- bQ x))else none
   |_=>none
  |.string,.slice e=>do
   match <- P.underlying e with
   |.int .u8=>do pure (.nG (<- bQ x))
   |_=>none
  |.slice e,.string=>do
   match <- P.underlying e with
   |.int .u8=>do pure (.toStr (<- bQ x))
   |_=>none
  |_,_=>none
 |.makeInterface t x=>do
  match <- P.underlying t with
  |.interface _=>none
  |_=>pure (.pF t (<- bQ x))
 |.makeFunc (.func f) a b=>do pure (.l9 (.func f) (<- a.toList.mapM bQ) (<- b.toList.mapM bQ))
 |.makeMap _ none=>pure .mkMap
 |.makeSlice t l c=>do
  match <- P.underlying t with
  |.slice e=>do
   let _ <- RI P e
   if H.fz f then pure (.ni (<- nR P e).cells (<- bQ l) (<- bQ c))else pure (.mkSlice (<- nR P e).cells (<- bQ l) (<- bQ c))
  |_=>none
 |.slice t x lo hi mx=>do
  match <- P.underlying t with
  |.slice e=>do pure (.slice false (<- lY P e) (<- bQ x) (<- lo.mapM bQ) (<- hi.mapM bQ) (<- mx.mapM bQ))
  |.string=>do pure (.slice true 1 (<- bQ x) (<- lo.mapM bQ) (<- hi.mapM bQ) (<- mx.mapM bQ))
  |_=>none
 |.fieldAddr t x i=>do
  let(o,_,s) <- JX P t i
  if s=0 then none else pure (.fieldAddr o (<- bQ x))
 |.field t x i=>do
  let(o,a,s) <- JX P t i
  pure (.field a o s (<- bQ x))
 |.indexAddr t x i=>do
  match <- P.underlying t with
  |.slice e=>do pure (.ji (<- lY P e) (<- bQ x) (<- bQ i))
  |.array n e=>do pure (.wS (<- lY P e) n (<- bQ x) (<- bQ i))
  |_=>none
 |.index t x i=>do
  match <- P.underlying t with
  |.string=>do pure (.index (<- bQ x) (<- bQ i))
  |.array n e=>do pure (.uw (<- JW P e) (<- lY P e) n (<- bQ x) (<- bQ i))
  |_=>none
 |.lookup t x i ok=>do
  match <- P.underlying t with
  |.map kt e=>do pure (.lookup (<- X4 P kt) (<- nR P e) ok (<- bQ x) (<- bQ i))
  |_=>none
 |.mapUpdate t m k x|.insert t m k x=>do
  match <- P.underlying t with
  |.map kt _=>do pure (.vI (<- X4 P kt) (<- bQ m) (<- bQ k) (<- bQ x))
  |_=>none
 |.mapEntry t m k=>do
  match <- P.underlying t with
  |.map kt e=>do pure (.wY (<- X4 P kt) (<- nR P e) (<- bQ m) (<- bQ k))
  |_=>none
 |.entryStore _ m s x=>do pure (.oz (<- bQ m) (<- bQ s) (<- bQ x))
 |.extract x i=>do pure (.extract i (<- bQ x))
 |.call { callee:=.builtin b,args,argTypes } =>
  match b,args.toList with
  |.len,[x]=>do
   match <- P.underlying (<- argTypes[0]?)with
   |.array n _=>pure (.mv (.const (.int .i64 n)))
   |.slice _=>do pure (.len 0 (<- bQ x))
   |.string=>do pure (.len 1 (<- bQ x))
   |.map _ _=>do pure (.len 2 (<- bQ x))
   |_=>none
  |.cap,[x]=>do
   match <- P.underlying (<- argTypes[0]?)with
   |.slice _=>do pure (.cap (<- bQ x))
   |_=>none
  |.max,[x,y]=>do pure (.max (<- bQ x) (<- bQ y))
  |.min,[x,y]=>do pure (.min (<- bQ x) (<- bQ y))
  |.append,[x,y]=>do
   match <- P.underlying (<- argTypes[0]?)with
   |.slice e=>do
    let s <- RI P e
    match <- P.underlying (<- argTypes[1]?)with
    |.int _=>do pure (.qE (<- nR P e).cells (<- bQ x) (<- bQ y))
    |.slice _=>do if H.fz f then pure (.rU s (<- bQ x) (<- bQ y))else pure (.append s (<- bQ x) (<- bQ y))
    |.string=>do pure (.append s (<- bQ x) (<- bQ y))
    |_=>none
   |_=>none
  |.copy,[x,y]=>do
   match <- P.underlying (<- argTypes[0]?)with
   |.slice e=>do pure (.copy (<- lY P e) (<- bQ x) (<- bQ y))
   |_=>none
  |.clear,[x]=>do
   match <- P.underlying (<- argTypes[0]?)with
   |.slice e=>do
    let _ <- RI P e
    pure (.clear (<- nR P e).cells (<- bQ x))
   |_=>none
  |_,_=>none
 |_=>none
def yG(P:Program)(H:Hints)(f:Nat)(o:Oper):Option Ins :=
 match o.op with
 |.call { callee:=.value (.func g),args,.. }=>do pure (.call o.dst g (<- args.toList.mapM bQ))
 |.call { callee:=.value g,args,.. }=>do pure (.dyn o.dst (<- bQ g) (<- args.toList.mapM bQ))
 |.defer { callee:=.value g,args,.. }=>if o.dst.isSome then none else do pure (.defer H.idle (<- bQ g) (<- args.toList.mapM bQ))
 |_=>do pure (.op o.dst (<- cOp P H f o))
def ig(P:Program)(H:Hints)(f:Nat)(ops:Array Oper)(o:Oper):Ins :=
 let i:=(yG P H f o).getD (.op none .bad)
 match o.guard with
  |none=>i
  |some (j,b)=>match(ops[j]?).bind (·.dst)with
   |some t=>.grd t b o.dst i
   |none=>.op none .bad
def masks(ops:List Oper):List Nat:=ops.foldl (λacc o=>acc++[o.after.toList.foldl (λs e=>if Region.binds .any e then s |||2 ^ e.on |||acc.getD e.on 0 else s) 0]) []
def zC(o:Oper)(i:Ins):Nat:=match o.op with
 |.assign _=>2
 |_=>match i with
  |.op (some _) (.jy _)=>3
  |.op (some _) v=>v.cls
  |.grd _ _ (some d) (.op (some d') v)=>bif Nat.beq d d' then(match v.cls with|0=>0|1=>1|_=>2)else 2
  |_=>2
structure jh where
 chk:List Nat
 pre:List Nat
 nO:List Nat
 eff:Option Nat
 deriving Inhabited
def stages(cls ms:Nat->Nat)(n:Nat)(lG:List Nat):List jh :=
 let N:=(List.range n).filter λi=>cls i<2
 let A:=(List.range n).filter λi=>cls i==3
 let home:=λi=>(lG.filter λe=>(ms i).testBit e).length
 let rec go:List Nat->Nat->List Nat->Option Nat->List jh
  |[],k,done,_=>[⟨if k=0 then[]else N.filter λi=>cls i==1&&home i<k&&(lG.take k).all λe=>!(ms e).testBit i,N.filter (λi=>home i==k),A.filter (λa=>!done.contains a),none⟩]
  |e::es,k,done,_ =>
   let al:=A.filter λa=>(ms e).testBit a&&!done.contains a
   ⟨if k=0 then[]else N.filter λi=>cls i==1&&home i<k&&(lG.take k).all λe=>!(ms e).testBit i,N.filter (λi=>home i==k),al,some e⟩::go es (k+1) (done++al) (some e)
 go lG 0 [] none
def GL:Ins->Option Ins
 |.op (some d) o=>some (.chk none d o)
 |.grd t b (some d) (.op (some _) o)=>some (.chk (some (t,b)) d o)
 |_=>none
def aaP(ins:Nat->Ins)(s:jh):List Ins:=s.chk.map (λi=>(GL (ins i)).getD (.op none .bad))++s.pre.map ins++s.nO.map ins++s.eff.toList.map ins
def flatten(ins:Nat->Ins)(l:List jh):List Ins:=l.flatMap (aaP ins)
def rW(ins:Nat->Ins)(l:List Nat):List Nat:=match l with
 |[]=>[]
 |i::is=>(match(ins i).dst with|some d=>d::rW ins is|none=>rW ins is)
def rdd(i:Ins):List Nat:=match i.dst with|some d=>d::i.slots|none=>i.slots
def QC(ins:Nat->Ins):List Nat->Bool
 |[]=>true
 |i::is=>Ym (ins i).slots (rW ins (i::is))&&Ym (rdd (ins i)) (rW ins is)&&QC ins is
def Bf(p:Nat->Bool):List Nat->Bool
 |[]=>true
 |i::is=>p i&&Bf p is
def Qw(p:Nat->Bool):Option Nat->Bool
 |none=>true
 |some i=>p i
def yS:List Nat->Bool
 |[]=>true
 |x::xs=>!(uz x xs)&&yS xs
def vW(ms:Nat->Nat)(win:List Nat)(eff:Option Nat):List Nat:=match eff with|none=>win|some e=>win.filter λi=>!(ms e).testBit i
def oJ(ins:Nat->Ins)(cls ms:Nat->Nat)(n:Nat)(aL:List Nat):List jh->List Nat->List Nat->Option Nat->List Nat->List Nat->Bool
 |[],_,_,eff,born,_=>eff.isNone&&Bf (λa=>uz a born) aL
 |s::rest,win,nO,eff,born,lG =>
  Bf (λi=>Ym (rdd (ins i)) (rW ins nO++(rW ins eff.toList++rW ins s.pre))&&(!(Nat.beq (cls i) 1)||uz i s.chk)) (vW ms win eff)
  && Bf (λi=>uz i (vW ms win eff)&&(GL (ins i)).isSome) s.chk
  && QC ins s.pre&&Bf (λi=>Nat.blt (cls i) 2&&Qw (λe=>(ms i).testBit e) eff) s.pre
  && Bf (λa=>Nat.beq (cls a) 3&&Qw (λe=>(ms e).testBit a) s.eff&&!(uz a born)) s.nO&&yS s.nO
  && Qw (λe=>Nat.beq (cls e) 2&&Nat.blt e n&&Bf (λe'=>(ms e).testBit e') (lG++eff.toList)&&Bf (λa=>!((ms e).testBit a)||uz a (born++s.nO)) aL) s.eff
  && (s.eff.isSome||rest.isEmpty)
  && oJ ins cls ms n aL rest (vW ms win eff++s.pre) s.nO s.eff (born++s.nO) (lG++eff.toList)
def Gh:Ins->Bool
 |.op _ o=>!(bM o)
 |.grd _ _ d j=>eqO d j.dst&&(match j with|.op _ o=>!(bM o)|.grd _ _ _ _=>false|_=>true)
 |_=>true
def uH(l:List jh):List Nat:=l.flatMap (·.pre)
def kD(l:List jh):List Nat:=l.flatMap λs=>s.eff.toList
def Em(ins:Nat->Ins)(cls ms:Nat->Nat)(n:Nat)(l:List jh):Bool :=
 let N:=(List.range n).filter λi=>!(Nat.beq (cls i) 2)
 let E:=(List.range n).filter λi=>Nat.beq (cls i) 2
 let A:=(List.range n).filter λi=>Nat.beq (cls i) 3
 Bf (λi=>Nat.blt (cls i) 2&&uz i (uH l)||Nat.beq (cls i) 2&&uz i (kD l)||Nat.beq (cls i) 3) (List.range n)
 && yS (rW ins N)&&Bf (λi=>(ins i).dst.isSome) N&&Ym (rW ins E) (rW ins N)
 && Bf (λi=>Bf (λj=>match(ins j).dst with
   |some t=>!(uz t (ins i).slots)||((ms i).testBit j&&(Nat.beq (cls i) 2||!(Nat.beq (cls j) 3)))
   |none=>true) N) ((List.range n).filter λi=>!(Nat.beq (cls i) 3))
 && Bf (λi=>Gh (ins i)) (List.range n)
 && oJ ins cls ms n A l [] [] none [] []
def qU:List Oper->Nat->Bool
 |[],_=>true
 |o::os,i=>(o.after.toList.all λe=>!(Region.binds .any e)||Nat.blt e.on i)&&qU os (i+1)
def iI(H:Hints):Hints:={ H with hp:=λ_ _=>true }
def WX(P:Program)(H:Hints)(f:Nat)(ops:Array Oper):Option (List jh) :=
 let il:=ops.toList.map (ig P (iI H) f ops)
 let ins:=λi=>il.getD i (.op none .bad)
 let ml:=masks ops.toList
 let ms:=λi=>ml.getD i 0
 let cl:=ops.toList.map λo=>zC o (ig P (iI H) f ops o)
 let cls:=λi=>cl.getD i 2
 let n:=ops.size
 let l:=stages cls ms n ((List.range n).filter λi=>cls i==2)
 if Em ins cls ms n l&&qU ops.toList 0&&!(l.isEmpty)then some l else none
def zD(l:List Nat):Bool:=match l with|[]=>true|_=>false
def Yu(a b:Option Nat):Bool:=match a,b with|none,none=>true|some x,some y=>Nat.beq x y|_,_=>false
def XD(e2:Nat)(r:List jh):Bool:=match r with
 |[b,c]=>zD b.chk&&zD b.pre&&zD b.nO&&Yu b.eff (some e2)&&zD c.chk&&zD c.pre&&zD c.nO&&Yu c.eff none
 |_=>false
def Fb(e1 e2:Nat):List jh->Bool
 |[]=>true
 |s::r=>(!(Yu s.eff (some e1))||(zD s.nO&&XD e2 r))&&Fb e1 e2 r
def Xb(ins:Nat->Ins)(cls ms:Nat->Nat)(n:Nat):Bool :=
 Bf (λi=>Bf (λj=>match(ins j).dst with
   |some t=>!(uz t (ins i).slots)||((ms i).testBit j&&(Nat.beq (cls i) 2||!(Nat.beq (cls j) 3)))
   |none=>true) ((List.range n).filter λi=>!(Nat.beq (cls i) 2))) ((List.range n).filter λi=>!(Nat.beq (cls i) 3))
def storeAt(i:Ins):Option Nat:=match i with|.op none (.store _ (.tmp p) _)=>some p|_=>none
def Dc(ms:Nat->Nat)(e1 e2:Nat):Nat->Nat:=λi=>bif Nat.beq i e2 then ms e2 |||(2 ^ e1 |||ms e1)else ms i
structure Swap where
 l:List jh
 e1:Nat
 e2:Nat
 p1:Nat
 p2:Nat
def aAz(ins:Nat->Ins)(cls ms:Nat->Nat)(n:Nat)(l:List jh)(e1 e2:Nat):Bool :=
 Em ins cls (Dc ms e1 e2) n l&&Xb ins cls ms n&&Fb e1 e2 l&&Nat.blt e1 n&&Nat.blt e2 n&&!(Nat.beq e1 e2)&&!((ms e1).testBit e2)
 && Nat.beq (cls e1) 2&&Nat.beq (cls e2) 2
 && Bf (λe=>!(Nat.beq (cls e) 2)||Nat.beq e e1||Nat.beq e e2||(ms e2).testBit e) (List.range n)
 && Bf (λi=>!(Nat.beq (cls i) 1)||(ms e2).testBit i) (List.range n)
def ae8:List Nat->Option (Nat×Nat)
 |[]=>none
 |[_]=>none
 |[a,b]=>some (a,b)
 |_::l=>ae8 l
def QB(P:Program)(H:Hints)(f:Nat)(ops:Array Oper):Option Swap :=
 let il:=ops.toList.map (ig P (iI H) f ops)
 let ins:=λi=>il.getD i (.op none .bad)
 let ml:=masks ops.toList
 let ms:=λi=>ml.getD i 0
 let cl:=ops.toList.map λo=>zC o (ig P (iI H) f ops o)
 let cls:=λi=>cl.getD i 2
 let n:=ops.size
 let E:=(List.range n).filter λi=>cls i==2
 match ae8 E with
 |none=>none
 |some (e1,e2)=>match storeAt (ins e1),storeAt (ins e2)with
  |some p1,some p2 =>
   let l:=stages cls (Dc ms e1 e2) n E
   if aAz ins cls ms n l e1 e2&&qU ops.toList 0&&!(l.isEmpty)then some ⟨l,e1,e2,p1,p2⟩else none
  |_,_=>none
def Oz(P:Program)(H:Hints)(f:Nat)(ops:Array Oper):List Ins:=match WX P H f ops with
 |some l=>flatten (λi=>(ops.toList.map (ig P (iI H) f ops)).getD i (.op none .bad)) l
 |none=>match QB P H f ops with
  |some s=>flatten (λi=>(ops.toList.map (ig P (iI H) f ops)).getD i (.op none .bad)) s.l++[.chk none s.p2 (.qJ (.tmp s.p2) (.tmp s.p1))]
  |none=>[.op none .bad]
def aX(P:Program)(H:Hints)(f:Nat):Code->aN
 |.skip=>.skip
 |.region _ ops d=>if d then .draw (Oz P H f ops)else .region (ops.toList.map (ig P H f ops))
 |.seq a b=>.seq (aX P H f a) (aX P H f b)
 |.cond c a b=>.cond ((bQ c).getD (.const .undef)) (aX P H f a) (aX P H f b)
 |.block i c=>.block i (aX P H f c)
 |.loop c=>.loop (aX P H f c)
 |.rangeFunc g ps a b=>if flat a&&flat b then .rangeFunc ((bQ g).getD (.const .undef)) ps.toList (aX P H f a) (aX P H f b)else .region [.op none .bad]
 |.exit i=>.exit i
 |.scope c=>.scope (aX P H f c)
 |.label l=>.label l
 |.goto l=>.goto l
 |.ret=>.ret
 |.refuse _=>.region [.op none .bad]
def agm(P:Program)(r:ResultVar):Option (Nat×Bool×Bool×Nat):=match r with
 |.tmp t=>some (t,false,false,0)
 |.cell t ty=>do pure (t,true,<- JW P ty,<- lY P ty)
def at1(n:String):Nat :=
 if n== "internal/abi.NoEscape" then 1 else if n== "internal/bytealg.IndexByte" then 2 else if n== "internal/bytealg.IndexByteString" then 3 else if n== "internal/bytealg.Count" then 4 else 9
def OA(P:Program)(H:Hints)(f:Nat):Option bF:=do
 let fn <- P.funcs[f]?
 if fn.name== "runtime.NumGoroutine" then none else
 let res <- fn.results.toList.mapM (agm P)
 match fn.body with
 |none=>pure { nt:=0,results:=[],ext:=at1 fn.name,body:=.skip,qo:=false }
 |some b=>pure { nt:=fn.ntmps,results:=res,ext:=0,body:=aX P H f b,qo:=H.fr f }
end
section
open Go Go.RowKit
variable {P:Program}{comp:FuncId->Code->aN}{g g':G}{σ σ':H}{w w':World}
def Rs(g:G)(β:Nat->Option Nat)(v:V)(x:Value):Prop:=match v with
 |.aY t off=>∃b,β t=some b/\x=.pointer (some ⟨b,off,none⟩)
 |v=>Rv g v x
def Rs.dK{β:Nat->Option Nat}{v:V}{x:Value}(h:Rv g v x):Rs g β v x:=by
 cases h<;>simp only[Rs]<;>first|(constructor<;>assumption)|skip
 all_goals first|exact .bg _ (by assumption)|exact .iE _ (by assumption) (by assumption)|exact .list _ _ (by assumption) (by assumption) (by assumption) (by assumption) (by assumption) (by assumption)|exact .map (by assumption)
def Rs.rv{β:Nat->Option Nat}{v:V}{x:Value}(h:Rs g β v x)(hn:∀t o,v≠.aY t o):Rv g v x:=by
 cases v<;>first|exact h|exact absurd rfl (hn _ _)
def Rs.mono{β:Nat->Option Nat}(hg:g.le g'){v:V}{x:Value}(h:Rs g β v x):Rs g' β v x:=by
 cases v<;>first|exact Rv.mono hg h|exact h
structure Rb (g:G)(σ:H)(β:Nat->Option Nat)(lo:Lo)(w:World):Prop where
 boxes:∀t b,β t=some b->∃(cs:List V) (c:Array Value) (e:TypeId),dA lo t=some cs/\w.heap[b]?=some (.cells c e (0,0))/\cs.length=c.size /\
  (∀(j:Nat) (x:V),cs[j]?=some x->∃v,c[j]?=some v/\Rv g x v)
 apart:∀t b,β t=some b->¬Live g σ b/\∀o,g.φ b o=none
 inj:∀t u b,β t=some b->β u=some b->t=u
structure Ap (g:G)(β:Nat->Option Nat)(fr:List V)(tmps:Array Value):Prop where
 size:fr.length=tmps.size
 slots:∀(t:Nat) (v:V) (x:Value),fr[t]?=some v->tmps[t]?=some x->Rs g β v x
def GU(β:Nat->Option Nat)(b:Nat):Prop:=∃t,β t=some b
def tY(fr:List V)(t:Nat):aA fr t=(fr[t]?).getD .undef:=by
 induction fr generalizing t with
 |nil=>simp[Jb]
 |cons x xs ih=>cases t<;>simp[kG,iL,ih]
def Ap.aA{β:Nat->Option Nat}{fr:List V}{tmps:Array Value}(h:Ap g β fr tmps)(t:Nat):Rs g β (aA fr t) (tmps.getD t undef):=by
 rw[tY];cases hv:fr[t]? with
 |none=>exact .dK (.undef _)
 |some v =>
  have ht:t<tmps.size:=by rw[<- h.size];exact(fB.1 hv).1
  have:tmps[t]?=some (tmps.getD t undef):=by simp[Array.getD,ht]
  exact h.slots t v _ hv this
def lW.ahZ(n:Nat)(ih:∀(g:G) v,Rv g (cV n v) v)(a:List Value):lW g (a.map (cV n)) a :=
 ⟨by simp,λi v w hv hw=>by simp[hw]at hv;subst hv;exact ih g w⟩
def Rv.cV:∀(n:Nat) (g:G) (v:Value),Rv g (cV n v) v:=by
 intro n
 induction n with
 |zero=>intro g v;exact .undef v
 |succ n ih =>
  intro g v;have hm:=λa=>lW.ahZ (g:=g) n ih a;unfold Vx.cV
  split<;>first|(constructor;done)|skip
  .exact .func (.func _) (by simp) (by simp) (λi v w a b=>(hm _).2 i v w a (by simpa using b)) (λi v w a b=>(hm _).2 i v w a (by simpa using b))
  .exact .Qg (hm _)
  .exact .mkTuple (hm _)
  .exact .iface _ (ih g _)
def Rs.ev{β:Nat->Option Nat}{fr:List V}{A:Act}(h:Ap g β fr A.tmps){x:Operand}{y:aC}(hx:bQ x=some y):Rs g β (y.ev fr) (A.eval x):=by
 cases x with
 |tmp t=>simp[bQ]at hx;subst hx;exact h.aA t
 |const v=>simp[bQ]at hx;subst hx;exact .dK (Rv.cV 5 g v)
 |func f =>
  simp[bQ]at hx;subst hx;exact .dK (.func (.func f) rfl rfl (λi v w a b=>by simp at a) (λi v w a b=>by simp at a))
 |global i=>simp[bQ]at hx
end
section
open Go Go.RowKit
variable {P:Program}{comp:FuncId->Code->aN}{g g':G}{σ σ':H}{w w':World}{β:Nat->Option Nat}{lo lo':Lo}{fr:List V}{A:Act}
def Frm.refl(B:Nat->Prop):Frm g σ B w w:=⟨rfl,rfl,rfl,aJ _,λ_ _ _ _ _=>rfl⟩
def Phi(g g':G)(σ:H)(w:World):Prop:=∀b,b<w.heap.size->(∀o,g.φ b o=none)->¬Live g σ b->∀o,g'.φ b o=none
def pO(P:Program)(comp:FuncId->Code->aN)(g:G)(β:Nat->Option Nat)(σ:H)(w:World)(v:V)(lo':Lo)(σ':H)(r:Result Next):Prop :=
 ∃(x:Value) (w':World) (g':G),(r=.ok (.value x) w'\/(r=.ok .skip w'/\x=undef))/\g.le g'/\Rs g' β v x/\Rw P comp g' σ' w'/\Rb g' σ' β lo' w'/\Frm g σ (GU β) w w'/\(∀b,Live g' σ' b->b<w.heap.size->Live g σ b)/\Phi g g' σ w
structure St (P:Program)(comp:FuncId->Code->aN)(g:G)(β:Nat->Option Nat)(σ:H)(lo:Lo)(fr:List V)(A:Act)(w:World):Prop where
 f:Ap g β fr A.tmps
 b:Rb g σ β lo w
 w:Rw P comp g σ w
def pO.pure(h:St P comp g β σ lo fr A w){v:V}{x:Value}{r:Result Next}(hr:r=.ok (.value x) w)(hv:Rs g β v x):pO P comp g β σ w v lo σ r :=
 ⟨x,w,g,.inl hr,.refl g,hv,h.w,h.b,.refl _,λ_ h _=>h,λ_ _ h _=>h⟩
def Sound(P:Program)(comp:FuncId->Code->aN)(d:Nat)(GK:oM)(o:Oper):Prop :=
 ∀(g:G) (β:Nat->Option Nat) (σ:H) (lo:Lo) (fr:List V) (A:Act) (w:World) (v:V) (lo':Lo) (σ':H),St P comp g β σ lo fr A w->aK d GK fr lo σ=.ok v lo' σ' ->
  pO P comp g β σ w v lo' σ' ((execOp A.eval o).run P w)
def aaI{d:Nat}{o:Oper}{x:Operand}{y:aC}(hx:bQ x=some y)(ho:o.op=.move x\/o.op=.assign x):Sound P comp d (.mv y) o:=by
 intro g β σ lo fr A w v lo' σ' h e;simp only[aK,Qu,OR.ok.injEq]at e;obtain⟨rfl,rfl,rfl⟩:=e;refine .pure h (x:=A.eval x) ?_ (Rs.ev h.f hx);rcases ho with ho|ho<;>simp[execOp,ho]
def Iz{v:V}{x:Value}{b:Bool}(h:Rs g β v x)(hv:v=.bool b):x=.bool b:=by
 subst hv;cases h;rfl
def jL{v:V}{x:Value}{k:IntKind}{n:Int}(h:Rs g β v x)(hv:v=.int k n):x=.int k n:=by
 subst hv;cases h;rfl
def yu{v:V}{x:Value}{s:List Nat}(h:Rs g β v x)(hv:v=.str s):∃bs:ByteArray,x=.string bs/\s=bs.data.toList.map UInt8.toNat:=by
 subst hv;cases h;exact⟨_,rfl,rfl⟩
def adS{d:Nat}{o:Oper}{c a b:Operand}{c' a' b':aC}(hc:bQ c=some c')(ha:bQ a=some a')(hb:bQ b=some b')(ho:o.op=.pick c a b):Sound P comp d (.pick c' a' b') o:=by
 intro g β σ lo fr A w v lo' σ' h e;simp only[aK,vS]at e
 split at e
 .rename_i t ht;simp only[OR.ok.injEq]at e;obtain⟨rfl,rfl,rfl⟩:=e;have hcv:=Iz (Rs.ev h.f hc) ht;refine .pure h (x:=if t then A.eval a else A.eval b) ?_ ?_
  .simp[execOp,ho,asBool,hcv]
  .cases t
   .exact Rs.ev h.f hb
   .exact Rs.ev h.f ha
 .cases e
def aiY{d:Nat}{o:Oper}{x:Operand}{y:aC}{t:TypeId}(hx:bQ x=some y)(ho:o.op=.unOp .not t x):Sound P comp d (.not y) o:=by
 intro g β σ lo fr A w v lo' σ' h e;simp only[aK,GY]at e
 split at e
 .rename_i b hb;simp only[OR.ok.injEq]at e;obtain⟨rfl,rfl,rfl⟩:=e;have hv:=Iz (Rs.ev h.f hx) hb;exact .pure h (x:=.bool !b) (by simp[execOp,ho,hv,Op.unary]) (.dK (.bool _))
 .cases e
def vH(a b:Int):wX a b=decide (a<b):=by
 cases a<;>cases b<;>simp only[wX,lJ]<;>rw[oq]<;>simp only[Nat.blt_eq,decide_eq_true_eq,Bool.false_eq_true,true_iff,false_iff]<;>omega
def uo(a b:Int):sK a b=(a==b):=by
 cases a<;>cases b<;>simp only[sK,lJ]<;>rw[oq]<;>simp<;>omega
def amd(a b:Int):leI a b=decide (a<=b):=by
 rw[leI,vH,oq];simp
def l7(j k:IntKind):eqK j k=decide (j=k):=by cases j<;>cases k<;>rfl
def wrap_i64{n:Int}(h1:-9223372036854775808<=n)(h2:n<9223372036854775808):IntKind.i64.wrap n=n:=IntWalk.i64_in n ⟨by omega,by omega⟩
def vg{m:Nat}{k:Nat}(h:Nat.blt m k=true):m<k:=jA h
def Ry(k:IntKind)(n:Int):xZ k n=k.wrap n:=by
 have key:∀(j:Int) (m:Nat),(Nat.blt m 9223372036854775808=true->IntKind.i64.wrap j=j)->(bif Nat.blt m 9223372036854775808 then j else IntKind.i64.wrap j)=IntKind.i64.wrap j:=by
  intro j m h;generalize hb:Nat.blt m 9223372036854775808=b at h;cases b
  .simp only[cond_false]
  .simp only[cond_true];exact(h rfl).symm
 unfold xZ
 split
 .rename_i m;exact key _ m λh=>by
   have:=vg h;exact wrap_i64 (by simp only[lJ];omega) (by simp only[lJ];omega)
 .rename_i m;exact key _ m λh=>by
   have:=vg h;exact wrap_i64 (by omega) (by omega)
 .rename_i m;simp[IntKind.wrap,IntKind.bits,IntKind.signed]
 .rename_i m;simp[IntKind.wrap,IntKind.bits,IntKind.signed]
 .rename_i m;simp[IntKind.wrap,IntKind.bits,IntKind.signed]
 .rfl
end
section
open Go Go.RowKit
variable {P:Program}{comp:FuncId->Code->aN}{g g':G}{σ σ':H}{w w':World}{β:Nat->Option Nat}{lo lo':Lo}{fr:List V}{A:Act}
def Dl{o:Option V}{v:V}(e:OR.eU o lo σ=.ok v lo' σ'):o=some v/\lo=lo'/\σ=σ':=by
 cases o with
 |none=>simp[OR.eU]at e
 |some x=>simp[OR.eU]at e;exact⟨by rw[e.1],e.2.1,e.2.2⟩
def um:∀a b:List Nat,mW a b=(a==b)
 |[],[]=>rfl
 |[],_::_=>rfl
 |_::_,[]=>rfl
 |a::x,b::y=>by
  have:(a::x==b::y)=(a==b&&x==y):=rfl;rw[this,mW,um x y];congr 1;rw[oq];simp
def GV(a b:List UInt8):(a.map UInt8.toNat==b.map UInt8.toNat)=(a==b):=by
 rw[oq];simp only[beq_iff_eq];constructor
 .intro h;exact(List.map_inj_right (λx y e=>UInt8.toNat_inj.1 e)).1 h
 .intro h;rw[h]
def Oy:∀a b:List UInt8,NC (a.map UInt8.toNat) (b.map UInt8.toNat)=Op.bytesLess a b
 |[],[]=>rfl
 |[],_::_=>rfl
 |_::_,[]=>rfl
 |a::x,b::y=>by
  simp only[bD,NC,Op.bytesLess,Oy x y];congr 1
  .rw[oq];simp[Nat.blt_eq,UInt8.lt_iff_toNat_lt]
  .congr 1;rw[oq];simp only[Nat.beq_eq,beq_iff_eq];exact⟨λh=>UInt8.toNat_inj.1 h,λh=>by rw[h]⟩
def toList_data(b:ByteArray):b.toList=b.data.toList:=ByteArray.toList_eq b
def agy{f:Int->Int->Bool}{vx vy v:V}(e:dD f vx vy=some v):∃k a b,vx=.int k a/\vy=.int k b/\v=.bool (f a b):=by
 cases vx with
 |int k a =>
  cases vy with
  |int k' b =>
   by_cases hk:k=k'
   .subst hk;simp[dD,l7]at e;exact⟨k,a,b,rfl,rfl,e.symm⟩
   .simp[dD,l7,hk]at e
  |_=>simp[dD]at e
 |_=>simp[dD]at e
def XY{f:Int->Int->Int}{vx vy v:V}(e:mV f vx vy=some v):∃k a b,vx=.int k a/\vy=.int k b/\v=.int k (k.wrap (f a b)):=by
 cases vx with
 |int k a =>
  cases vy with
  |int k' b =>
   by_cases hk:k=k'
   .subst hk;simp[mV,l7]at e;exact⟨k,a,b,rfl,rfl,by rw[<- e,Ry]⟩
   .simp[mV,l7,hk]at e
  |_=>simp[mV]at e
 |_=>simp[mV]at e
def ank{vx vy v:V}(e:nM vx vy=some v):∃k a b,vx=.int k a/\vy=.int k b/\b≠0/\v=.int k (a.tmod b):=by
 cases vx with
 |int k a =>
  cases vy with
  |int k' b =>
   by_cases hb:b=0
   .subst hb;simp[nM,uo]at e
   .by_cases hk:k=k'
    .subst hk;simp[nM,uo,l7]at e;have h0:(b==0)=false:=by simpa using hb
     rw[h0]at e;simp at e;exact⟨k,a,b,rfl,rfl,hb,e.symm⟩
    .simp[nM,uo,l7,hk]at e
  |_=>simp[nM]at e
 |_=>simp[nM]at e
def ane{vx vy v:V}(e:qw vx vy=some v):∃k a b,vx=.int k a/\vy=.int k b/\b≠0/\v=.int k (k.wrap (a.tdiv b)):=by
 cases vy with
 |int k' b =>
  by_cases hb:b=0
  .subst hb;simp[qw,uo]at e
  .have h0:(b==0)=false:=by simpa using hb
   simp only[qw,uo,h0,cond_false]at e;obtain⟨k,a,b',h1,h2,h3⟩:=XY e;cases h2;exact⟨k',a,b,h1,rfl,hb,h3⟩
 |_=>simp[qw]at e
def anS{vx vy v:V}(e:qx vx vy=some v):∃k k' a b,vx=.int k a/\vy=.int k' b/\¬b<0/\v=.int k (k.wrap (a*2 ^ (min b.toNat k.bits))):=by
 cases vx with
 |int k a =>
  cases vy with
  |int k' b =>
   by_cases hb:b<0
   .simp[qx,vH,hb]at e
   .have h0:decide (b<0)=false:=by simpa using hb
    simp only[qx,vH,h0,cond_false,aG]at e;exact⟨k,k',a,b,rfl,rfl,hb,e.symm⟩
  |_=>simp[qx]at e
 |_=>simp[qx]at e
def anU{vx vy v:V}(e:qy vx vy=some v):∃k k' a b,vx=.int k a/\vy=.int k' b/\¬b<0/\v=.int k (a.fdiv (2 ^ (min b.toNat k.bits))):=by
 cases vx with
 |int k a =>
  cases vy with
  |int k' b =>
   by_cases hb:b<0
   .simp[qy,vH,hb]at e
   .have h0:decide (b<0)=false:=by simpa using hb
    simp only[qy,vH,h0,cond_false,aG]at e;exact⟨k,k',a,b,rfl,rfl,hb,e.symm⟩
  |_=>simp[qy]at e
 |_=>simp[qy]at e
def aiR{d:Nat}{o:Oper}{op:BinOp}{x y:Operand}{x' y':aC}{t yt:TypeId}(hx:bQ x=some x')(hy:bQ y=some y')(ho:o.op=.binOp op t x y yt):Sound P comp d (.bin op x' y') o:=by
 intro g β σ lo fr A w v lo' σ' h e;simp only[aK,xR]at e;obtain⟨e1,rfl,rfl⟩:=Dl e;clear e;have e:=e1;clear e1;have rx:=Rs.ev h.f hx;have ry:=Rs.ev h.f hy;generalize hvx:x'.ev fr=vx at e rx;generalize hvy:y'.ev fr=vy at e ry;have aeC:∀(f:Int->Int->Bool),dD f vx vy=some v->(∀k a b w,(binOp op t (.int k a) (.int k b)).run P w=.ok (.bool (f a b)) w)->(op≠.eql/\op≠.neq)->pO P comp g β σ w v lo σ ((execOp A.eval o).run P w):=by
  intro f e hf hne;obtain⟨k,a,b,rfl,rfl,rfl⟩:=agy e;have h1:=jL rx rfl;have h2:=jL ry rfl;refine .pure h (x:=.bool (f a b)) ?_ (.dK (.bool _));simp[execOp,ho,h1,h2,eqGuard,hne.1,hne.2,hf,Result.andThen]
 have avr:∀(f:Int->Int->Int),mV f vx vy=some v->(∀k a b w,(binOp op t (.int k a) (.int k b)).run P w=.ok (.int k (k.wrap (f a b))) w)->(op≠.eql/\op≠.neq)->pO P comp g β σ w v lo σ ((execOp A.eval o).run P w):=by
  intro f e hf hne;obtain⟨k,a,b,rfl,rfl,rfl⟩:=XY e;have h1:=jL rx rfl;have h2:=jL ry rfl;refine .pure h (x:=.int k (k.wrap (f a b))) ?_ (.dK (.int _ _));simp[execOp,ho,h1,h2,eqGuard,hne.1,hne.2,hf,Result.andThen]
 have hs:∀s s',vx=.str s->vy=.str s'->∃bs bs',A.eval x=.string bs/\A.eval y=.string bs'/\s=bs.data.toList.map UInt8.toNat/\s'=bs'.data.toList.map UInt8.toNat:=by
  intro s s' e1 e2;obtain⟨bs,h1,h2⟩:=yu rx e1;obtain⟨bs',h3,h4⟩:=yu ry e2;exact⟨bs,bs',h1,h3,h2,h4⟩
 cases op with
 |eql=>simp[cO]at e
 |neq=>simp[cO]at e
 |lss =>
  by_cases hstr:∃s s',vx=.str s/\vy=.str s'
  .obtain⟨s,s',e1,e2⟩:=hstr;obtain⟨bs,bs',h1,h2,h3,h4⟩:=hs s s' e1 e2;subst e1 e2;simp only[cO,eH,aG]at e;subst e;refine .pure h (x:=.bool (Op.bytesLess bs.data.toList bs'.data.toList)) ?_ ?_
   .simp[execOp,ho,h1,h2,eqGuard,binOp,Op.stringOp,toList_data]
   .rw[h3,h4,Oy];exact .dK (.bool _)
  .have e':dD wX vx vy=some v:=by
    simp only[cO,eH]at e
    split at e
    .split at e
     .exact absurd ⟨_,_,rfl,rfl⟩ hstr
     .cases e
    .exact e
   exact aeC wX e' (λk a b w=>by simp[binOp,Op.intCmp,vH]) ⟨by simp,by simp⟩
 |leq=>exact aeC leI e (λk a b w=>by simp[binOp,Op.intCmp,amd]) ⟨by simp,by simp⟩
 |gtr=>exact aeC _ e (λk a b w=>by simp[binOp,Op.intCmp,vH]) ⟨by simp,by simp⟩
 |geq=>exact aeC _ e (λk a b w=>by simp[binOp,Op.intCmp,amd]) ⟨by simp,by simp⟩
 |sub=>exact avr Int.sub e (λk a b w=>by simp[binOp,Op.intArith];rfl) ⟨by simp,by simp⟩
 |mul=>exact avr Int.mul e (λk a b w=>by simp[binOp,Op.intArith]) ⟨by simp,by simp⟩
 |add =>
  by_cases hstr:∃s s',vx=.str s/\vy=.str s'
  .obtain⟨s,s',e1,e2⟩:=hstr;obtain⟨bs,bs',h1,h2,h3,h4⟩:=hs s s' e1 e2;subst e1 e2;simp only[cO,iK]at e;generalize hq:Nat.blt (s.length+s'.length) 4294967296=q at e;cases q
   .simp at e
   .simp at e;have hlt:=vg hq;subst e;have l1:bs.size=s.length:=by rw[h3];simp
    have l2:bs'.size=s'.length:=by rw[h4];simp
    refine .pure h (x:=.string (bs++bs')) ?_ ?_
    .have hno:¬(((bs.size+bs'.size:Nat):Int) > IntKind.i64.max):=by rw[l1,l2];simp[IntKind.max,IntKind.bits,IntKind.signed];omega
     simp only[execOp,ho,h1,h2];simp only[eqGuard,binOp,Op.stringOp,if_neg hno];simp[]
    .have:s++s'=(bs++bs').data.toList.map UInt8.toNat:=by rw[h3,h4];simp
     rw[this];exact .dK (.str _)
  .have e':mV Int.add vx vy=some v:=by
    simp only[cO,iK]at e
    split at e
    .split at e
     .exact absurd ⟨_,_,rfl,rfl⟩ hstr
     .cases e
    .exact e
   exact avr Int.add e' (λk a b w=>by simp[binOp,Op.intArith]) ⟨by simp,by simp⟩
 |quo =>
  obtain⟨k,a,b,rfl,rfl,hb,rfl⟩:=ane e;have h1:=jL rx rfl;have h2:=jL ry rfl;refine .pure h (x:=.int k (k.wrap (a.tdiv b))) ?_ (.dK (.int _ _));simp[execOp,ho,h1,h2,eqGuard,binOp,Op.intDiv,hb]
 |rem =>
  obtain⟨k,a,b,rfl,rfl,hb,rfl⟩:=ank e;have h1:=jL rx rfl;have h2:=jL ry rfl;refine .pure h (x:=.int k (a.tmod b)) ?_ (.dK (.int _ _));simp[execOp,ho,h1,h2,eqGuard,binOp,Op.intDiv,hb]
 |shl =>
  obtain⟨k,k',a,b,rfl,rfl,hb,rfl⟩:=anS e;have h1:=jL rx rfl;have h2:=jL ry rfl;refine .pure h (x:=.int k (k.wrap (a*2 ^ (min b.toNat k.bits)))) ?_ (.dK (.int _ _));simp[execOp,ho,h1,h2,eqGuard,binOp,Op.shift,hb]
 |shr =>
  obtain⟨k,k',a,b,rfl,rfl,hb,rfl⟩:=anU e;have h1:=jL rx rfl;have h2:=jL ry rfl;refine .pure h (x:=.int k (a.fdiv (2 ^ (min b.toNat k.bits)))) ?_ (.dK (.int _ _));simp[execOp,ho,h1,h2,eqGuard,binOp,Op.shift,hb]
 |_=>simp[cO]at e
end
section
open Go Go.RowKit
variable {P:Program}{comp:FuncId->Code->aN}{g g':G}{σ σ':H}{w w':World}{β:Nat->Option Nat}{lo lo':Lo}{fr:List V}{A:Act}
def Eb(P:Program)(t:TypeId)(x y:Value)(w:World)(b:Bool):Prop:=∀op,(op=.eql\/op=.neq)->(binOp op t x y).run P w=.ok (.bool (if op=.eql then b else !b)) w
def jB{t:TypeId}{x y:Value}{b:Bool}(hn:∀k a k' c,¬(x=.int k a/\y=.int k' c))(hs:∀a c,¬(x=.string a/\y=.string c))(hf:∀k a k' c,¬(x=.float k a/\y=.float k' c))
  (hc:∀k a a' k' c c',¬(x=.complex k a a'/\y=.complex k' c c')) (he:(Op.equal t x y).run P w=.ok b w):Eb P t x y w b:=by
 intro op hop;rcases hop with rfl|rfl
 .have:binOp .eql t x y=(do pure (.bool (<- Op.equal t x y))):=by
   unfold binOp
   split<;>first|rfl|(exfalso;first|exact hn _ _ _ _ ⟨rfl,rfl⟩|exact hs _ _ ⟨rfl,rfl⟩|exact hf _ _ _ _ ⟨rfl,rfl⟩|exact hc _ _ _ _ _ _ ⟨rfl,rfl⟩)|simp_all
  rw[this];simp[he,Result.andThen]
 .have:binOp .neq t x y=(do pure (.bool (!(<- Op.equal t x y)))):=by
   unfold binOp
   split<;>first|rfl|(exfalso;first|exact hn _ _ _ _ ⟨rfl,rfl⟩|exact hs _ _ ⟨rfl,rfl⟩|exact hf _ _ _ _ ⟨rfl,rfl⟩|exact hc _ _ _ _ _ _ ⟨rfl,rfl⟩)|simp_all
  rw[this];simp[he,Result.andThen]
def lN(t:TypeId)(x y:Value):Op.equal t x y=Op.equalIn (9999+1) t x y:=rfl
def Yt{t:TypeId}{vx vy:V}{x y:Value}{b:Bool}(hx:Rs g β vx x)(hy:Rs g β vy y)(e:fU vx vy=some b):Eb P t x y w b:=by
 cases vx with
 |int k a =>
  cases vy with
  |int k' c =>
   cases jL hx rfl;cases jL hy rfl;by_cases hk:k=k'
   .subst hk;simp[fU,l7,uo]at e;intro op hop;rcases hop with rfl|rfl<;>simp[binOp,Op.intCmp,<- e,bne]
   .simp[fU,l7,hk]at e
  |_=>simp[fU]at e
 |str s =>
  cases vy with
  |str s' =>
   obtain⟨bs,rfl,h1⟩:=yu hx rfl;obtain⟨bs',rfl,h2⟩:=yu hy rfl;simp[fU,um,h1,h2,GV]at e;intro op hop;rcases hop with rfl|rfl<;>simp[binOp,Op.stringOp,toList_data,<- e]
  |_=>simp[fU]at e
 |_=>simp[fU]at e
def agE{t:TypeId}(ht:P.underlying t=some .bool){vx vy:V}{x y:Value}{b:Bool}(hx:Rs g β vx x)(hy:Rs g β vy y)(e:sS vx vy=some b):Eb P t x y w b:=by
 cases vx with
 |bool a =>
  cases vy with
  |bool c =>
   cases Iz hx rfl;cases Iz hy rfl;refine jB (by simp) (by simp) (by simp) (by simp) ?_;simp[sS]at e;subst e;rw[lN,Op.equalIn,aH,run_underlying ht];cases a<;>cases c<;>rfl
  |_=>simp[sS]at e
 |_=>simp[sS]at e
def jq{h:H}{i:Nat}{cs:List V}(e:getCells h i=some cs):h.get i=some (.cells cs):=by
 unfold getCells at e;cases hg:h.get i with
 |none=>simp[hg]at e
 |some o=>cases o<;>simp[hg]at e;subst e;rfl
def lI{h:H}{i:Nat}{es:List (V×V)}(e:gK h i=some es):h.get i=some (.map es):=by
 unfold gK at e;cases hg:h.get i with
 |none=>simp[hg]at e
 |some o=>cases o<;>simp[hg]at e;subst e;rfl
def Rw.cells(h:Rw P comp g σ w){i:Nat}{cs:List V}(e:getCells σ i=some cs):∃b n c ty,g.ρ i=some (b,n)/\w.heap[b]?=some (.cells c ty (0,0))/\c.size=n/\cs.length<=n /\
  (∀(j:Nat) (x:V),cs[j]?=some x->∃v,c[j]?=some v/\Rv g x v)/\(∀o,g.φ b o=none)/\Live g σ b:=by
 have e':=jq e;obtain⟨b,n,r,⟨c,ty,h1,h2,h3,h4⟩,f⟩:=h.objs i _ e';exact⟨b,n,c,ty,r,h1,h2,h3,h4,f,⟨i,n,by simp[e'],r⟩⟩
def Af{a:Addr}{c:Array Value}{ty:TypeId}(h:w.heap[a.block]?=some (.cells c ty (0,0))):w.frozen? a=false:=by
 simp[World.frozen?,h]
def EX{r:Nat}{c:Array Value}{ty:TypeId}{fz:Nat×Nat}(h:w.heap[r]?=some (.cells c ty fz)):w.shape? r=some (ty,c.size):=by
 simp[World.shape?,h]
def Xh{a b:Addr}{c c':Array Value}{ty ty':TypeId}(h1:w.heap[a.block]?=some (.cells c ty (0,0)))(h2:w.heap[b.block]?=some (.cells c' ty' (0,0))) :
  (sameAddr a b).run P w=.ok (a==b) w:=by
 unfold sameAddr;by_cases hb:a.block=b.block
 .have:(a.block==b.block)=true:=by simpa using hb
  simp[this]
 .have hbf:(a.block==b.block)=false:=by simpa using hb
  have hne:(a==b)=false:=by
   cases e:a==b with
   |false=>rfl
   |true=>exact absurd (by rw[eq_of_beq e]) hb
  have f1:∀off spot,w.frozen? { block:=a.block,off:=off,spot:=spot }=false:=λoff spot=>Af (a:=⟨a.block,off,spot⟩) h1;have f2:∀off spot,w.frozen? { block:=b.block,off:=off,spot:=spot }=false:=λoff spot=>Af (a:=⟨b.block,off,spot⟩) h2;have s1:=EX h1;have s2:=EX h2;have f1':=Af h1;have f2':=Af h2;simp[hbf,frozen,Go.shape,noView,viewAt,mayBeOne,stringish,Sem.run,Result.andThen,f1,f2,s1,s2,hne]
def Yv{t el:TypeId}{sz:Nat}(ht:P.underlying t=some (.pointer el))(hz:(P.info? el).map (·.size)=some sz)(hn:sz≠0)(hw:Rw P comp g σ w){vx vy:V}{x y:Value}{b:Bool}(hx:Rs g β vx x)(hy:Rs g β vy y)
  (e:jY σ vx vy=some b):Eb P t x y w b:=by
 have bg:∀{v:V} {z:Value},Rs g β v z->(∃i o,v=.bg i o)\/(∃u o,v=.aY u o)\/(∃cs,v=.iE cs)->∃a,z=.pointer (some a):=by
  intro v z hz' hv;rcases hv with⟨i,o,rfl⟩|⟨u,o,rfl⟩|⟨cs,rfl⟩
  .cases hz';exact⟨_,rfl⟩
  .obtain⟨b,_,rfl⟩:=hz';exact⟨_,rfl⟩
  .cases hz';exact⟨_,rfl⟩
 have hnil:∀{z:Value},Rs g β .nilPtr z->z=.pointer none:=by intro z hz';cases hz';rfl
 have nn:∀a,Eb P t (.pointer none) (.pointer (some a)) w false:=λa=>by
  refine jB (by simp) (by simp) (by simp) (by simp) ?_;rw[lN,Op.equalIn,aH,run_underlying ht];rfl
 have ns:∀a,Eb P t (.pointer (some a)) (.pointer none) w false:=λa=>by
  refine jB (by simp) (by simp) (by simp) (by simp) ?_;rw[lN,Op.equalIn,aH,run_underlying ht];rfl
 have n0:Eb P t (.pointer none) (.pointer none) w true:=by
  refine jB (by simp) (by simp) (by simp) (by simp) ?_;rw[lN,Op.equalIn,aH,run_underlying ht];rfl
 cases vx with
 |nilPtr =>
  rw[hnil hx];cases vy with
  |nilPtr=>rw[hnil hy];simp[jY]at e;subst e;exact n0
  |bg i o=>obtain⟨a,rfl⟩:=bg hy (.inl ⟨_,_,rfl⟩);simp[jY]at e;subst e;exact nn a
  |aY i o=>obtain⟨a,rfl⟩:=bg hy (.inr (.inl ⟨_,_,rfl⟩));simp[jY]at e;subst e;exact nn a
  |iE cs=>obtain⟨a,rfl⟩:=bg hy (.inr (.inr ⟨_,rfl⟩));simp[jY]at e;subst e;exact nn a
  |_=>simp[jY]at e
 |aY i o =>
  obtain⟨a,rfl⟩:=bg hx (.inr (.inl ⟨_,_,rfl⟩));cases vy with
  |nilPtr=>rw[hnil hy];simp[jY]at e;subst e;exact ns a
  |_=>simp[jY]at e
 |iE cs =>
  obtain⟨a,rfl⟩:=bg hx (.inr (.inr ⟨_,rfl⟩));cases vy with
  |nilPtr=>rw[hnil hy];simp[jY]at e;subst e;exact ns a
  |_=>simp[jY]at e
 |bg i o =>
  cases vy with
  |nilPtr=>obtain⟨a,rfl⟩:=bg hx (.inl ⟨_,_,rfl⟩);rw[hnil hy];simp[jY]at e;subst e;exact ns a
  |bg j p =>
   simp only[jY]at e
   split at e<;>try cases e
   rename_i cs hcs
   split at e<;>try cases e
   rename_i ds hds;generalize hq:(Nat.blt o cs.length&&Nat.blt p ds.length)=q at e;cases q
   .simp at e
   simp at e;obtain⟨b1,n1,c1,ty1,r1,hb1,_,_,_,_,l1⟩:=hw.cells hcs;obtain⟨b2,n2,c2,ty2,r2,hb2,_,_,_,_,l2⟩:=hw.cells hds;cases hx with
   |bg _ hr1 =>
   cases hy with
   |bg _ hr2 =>
   rw[r1]at hr1;cases hr1;rw[r2]at hr2;cases hr2;refine jB (by simp) (by simp) (by simp) (by simp) ?_;have hsz:(sizeOf el).run P w=.ok sz w:=by
    cases hi:P.info? el with
    |none=>simp[hi]at hz
    |some info=>simp[hi]at hz;simp[sizeOf,typeInfo,program,Sem.run,hi,Result.andThen,hz]
   rw[lN,Op.equalIn,aH,run_underlying ht];show Sem.run P (do if(<- sizeOf el)≠0 then sameAddr ⟨b1,o,none⟩ ⟨b2,p,none⟩else if((⟨b1,o,none⟩:Addr)==⟨b2,p,none⟩)=true then pure true else pure ((<- choose .zeroSizeEq)==1)) w=_;rw[aH,hsz];show Sem.run P (if sz≠0 then _ else _) w=_;rw[if_pos hn,Xh (a:=⟨b1,o,none⟩) (b:=⟨b2,p,none⟩) hb1 hb2];congr 1;rw[<- e,oq];simp only[beq_iff_eq,ah,Nat.beq_eq];constructor
   .intro h';cases h';exact⟨hw.inj i j b1 n1 n2 (by simp[jq hcs]) (by simp[jq hds]) r1 r2,rfl⟩
   .rintro ⟨rfl,rfl⟩
    rw[r1]at r2;cases r2;rfl
  |_=>simp[jY]at e
 |_=>simp[jY]at e
end
section
open Go Go.RowKit
variable {P:Program}{comp:FuncId->Code->aN}{g g':G}{σ σ':H}{w w':World}{β:Nat->Option Nat}{lo lo':Lo}{fr:List V}{A:Act}
def aqg{t el:TypeId}(ht:P.underlying t=some (.slice el)){vx vy:V}{x y:Value}{b:Bool}(hx:Rs g β vx x)(hy:Rs g β vy y)(e:uV vx vy=some b):Eb P t x y w b:=by
 have key:∀(a a':Option Addr) (n c n' c':Nat) (b:Bool),((a=none/\b=a'.isNone)\/(a'=none/\a.isSome=true/\b=false))->Eb P t (.slice a n c) (.slice a' n' c') w b:=by
  intro a a' n c n' c' b h;refine jB (by simp) (by simp) (by simp) (by simp) ?_;rw[lN,Op.equalIn,aH,run_underlying ht];rcases h with⟨rfl,rfl⟩|⟨rfl,h2,rfl⟩
  .rfl
  .cases a with
   |none=>simp at h2
   |some a=>rfl
 cases vx with
 |aj =>
  cases hx;cases vy with
  |aj=>cases hy;simp[uV]at e;subst e;exact key _ _ _ _ _ _ _ (.inl ⟨rfl,rfl⟩)
  |list _ _=>cases hy;simp[uV]at e;subst e;exact key _ _ _ _ _ _ _ (.inl ⟨rfl,rfl⟩)
  |hsl _ _ _ _ _=>cases hy;simp[uV]at e;subst e;exact key _ _ _ _ _ _ _ (.inl ⟨rfl,rfl⟩)
  |_=>simp[uV]at e
 |list _ _ =>
  cases hx;cases vy with
  |aj=>cases hy;simp[uV]at e;subst e;exact key _ _ _ _ _ _ _ (.inr ⟨rfl,rfl,rfl⟩)
  |_=>simp[uV]at e
 |hsl _ _ _ _ _ =>
  cases hx;cases vy with
  |aj=>cases hy;simp[uV]at e;subst e;exact key _ _ _ _ _ _ _ (.inr ⟨rfl,rfl,rfl⟩)
  |_=>simp[uV]at e
 |_=>simp[uV]at e
def akK{t k el:TypeId}(ht:P.underlying t=some (.map k el)){vx vy:V}{x y:Value}{b:Bool}(hx:Rs g β vx x)(hy:Rs g β vy y)(e:Ad vx vy=some b):Eb P t x y w b:=by
 have key:∀(a a':Option Nat) (b:Bool),((a=none/\b=a'.isNone)\/(a'=none/\a.isSome=true/\b=false))->Eb P t (.map a) (.map a') w b:=by
  intro a a' b h;refine jB (by simp) (by simp) (by simp) (by simp) ?_;rw[lN,Op.equalIn,aH,run_underlying ht];rcases h with⟨rfl,rfl⟩|⟨rfl,h2,rfl⟩
  .rfl
  .cases a with
   |none=>simp at h2
   |some a=>rfl
 cases vx with
 |fA =>
  cases hx;cases vy with
  |fA=>cases hy;simp[Ad]at e;subst e;exact key _ _ _ (.inl ⟨rfl,rfl⟩)
  |map _=>cases hy;simp[Ad]at e;subst e;exact key _ _ _ (.inl ⟨rfl,rfl⟩)
  |_=>simp[Ad]at e
 |map _ =>
  cases hx;cases vy with
  |fA=>cases hy;simp[Ad]at e;subst e;exact key _ _ _ (.inr ⟨rfl,rfl,rfl⟩)
  |_=>simp[Ad]at e
 |_=>simp[Ad]at e
def aqd{t:TypeId}{ps rs:Array TypeId}{va:Bool}(ht:P.underlying t=some (.func ps rs va)){vx vy:V}{x y:Value}{b:Bool}(hx:Rs g β vx x)(hy:Rs g β vy y)(e:eqFn vx vy=some b):Eb P t x y w b:=by
 cases vx with
 |nilFunc =>
  cases hx;cases vy with
  |nilFunc =>
   cases hy;simp[eqFn]at e;subst e;refine jB (by simp) (by simp) (by simp) (by simp) ?_;rw[lN,Op.equalIn,aH,run_underlying ht];rfl
  |func _ _ _ =>
   cases hy;simp[eqFn]at e;subst e;refine jB (by simp) (by simp) (by simp) (by simp) ?_;rw[lN,Op.equalIn,aH,run_underlying ht];rfl
  |_=>simp[eqFn]at e
 |func _ _ _ =>
  cases hx;cases vy with
  |nilFunc =>
   cases hy;simp[eqFn]at e;subst e;refine jB (by simp) (by simp) (by simp) (by simp) ?_;rw[lN,Op.equalIn,aH,run_underlying ht];rfl
  |_=>simp[eqFn]at e
 |_=>simp[eqFn]at e
def aqe{t:TypeId}{ms:Array (String×TypeId)}(ht:P.underlying t=some (.interface ms)){vx vy:V}{x y:Value}{b:Bool}(hx:Rs g β vx x)(hy:Rs g β vy y)(e:DW vx vy=some b):Eb P t x y w b:=by
 cases vx with
 |nilIface =>
  cases hx;cases vy with
  |nilIface =>
   cases hy;simp[DW]at e;subst e;refine jB (by simp) (by simp) (by simp) (by simp) ?_;rw[lN,Op.equalIn,aH,run_underlying ht];rfl
  |iface _ _ =>
   cases hy;simp[DW]at e;subst e;refine jB (by simp) (by simp) (by simp) (by simp) ?_;rw[lN,Op.equalIn,aH,run_underlying ht];rfl
  |_=>simp[DW]at e
 |iface _ _ =>
  cases hx;cases vy with
  |nilIface =>
   cases hy;simp[DW]at e;subst e;refine jB (by simp) (by simp) (by simp) (by simp) ?_;rw[lN,Op.equalIn,aH,run_underlying ht];rfl
  |_=>simp[DW]at e
 |_=>simp[DW]at e
def apL{t:TypeId}{x y:Operand}{c:Nat}(hc:ajQ P t x y=some c)(hw:Rw P comp g σ w){vx vy:V}{X Y:Value}{b:Bool}(hx:Rs g β vx X)(hy:Rs g β vy Y)(e:nH σ c vx vy=some b) :
  Eb P t X Y w b/\(isC x=true\/isC y=true\/¬(X=.nilIface/\Y=.nilIface))/\¬(∃a a',X=.agg a/\Y=.agg a'):=by
 unfold ajQ at hc;cases hu:P.underlying t with
 |none=>simp[hu]at hc
 |some d =>
  simp only[hu,jc,Option.bind_some]at hc;have azY:∀{v:V} {Z:Value} {a:Array Value},Rs g β v Z->Z=.agg a->v=.undef\/∃cs,v=.agg cs:=by
   intro v Z a h he;subst he;cases v<;>first|exact .inl rfl|exact .inr ⟨_,rfl⟩|(exfalso;cases h;done)|(exfalso;obtain⟨_,_,h⟩:=h;cases h)
  have aDL:∀{v:V} {Z:Value},Rs g β v Z->Z=.nilIface->v=.undef\/v=.nilIface:=by
   intro v Z h he;subst he;cases v<;>first|exact .inl rfl|exact .inr rfl|(exfalso;cases h;done)|(exfalso;obtain⟨_,_,h⟩:=h;cases h)
  have fin:∀{b:Bool},Eb P t X Y w b->(∀{z:V},(vx=.undef->False)/\(∀cs,vx=.agg cs->False))->(isC x=true\/isC y=true\/vx≠.nilIface) ->
    Eb P t X Y w b/\(isC x=true\/isC y=true\/¬(X=.nilIface/\Y=.nilIface))/\¬(∃a a',X=.agg a/\Y=.agg a'):=by
   intro b h1 h2 h3;refine⟨h1,?_,?_⟩
   .rcases h3 with h3|h3|h3
    .exact .inl h3
    .exact .inr (.inl h3)
    .refine .inr (.inr λhh=>?_);rcases aDL hx hh.1 with e1|e1
     .exact(h2 (z:=.undef)).1 e1
     .exact h3 e1
   .rintro ⟨a,a',ha,_⟩
    rcases azY hx ha with e1|⟨cs,e1⟩
    .exact(h2 (z:=.undef)).1 e1
    .exact(h2 (z:=.undef)).2 cs e1
  cases d with
  |int k =>
   simp at hc;subst hc;exact fin (Yt hx hy e) (by intro z;constructor<;>intros<;>subst_vars<;>simp[nH,fU]at e) (.inr (.inr (by rintro rfl;simp[nH,fU]at e)))
  |string =>
   simp at hc;subst hc;exact fin (Yt hx hy e) (by intro z;constructor<;>intros<;>subst_vars<;>simp[nH,fU]at e) (.inr (.inr (by rintro rfl;simp[nH,fU]at e)))
  |bool =>
   simp at hc;subst hc;exact fin (agE hu hx hy e) (by intro z;constructor<;>intros<;>subst_vars<;>simp[nH,sS]at e) (.inr (.inr (by rintro rfl;simp[nH,sS]at e)))
  |pointer el =>
   simp only[lY]at hc;cases hz:P.info? el with
   |none=>simp[hz]at hc
   |some inf =>
    simp[hz]at hc;obtain⟨hn,rfl⟩:=hc;exact fin (Yv (sz:=inf.size) hu (by simp[hz]) hn hw hx hy e) (by intro z;constructor<;>intros<;>subst_vars<;>simp[nH,jY]at e) (.inr (.inr (by rintro rfl;simp[nH,jY]at e)))
  |slice el =>
   simp at hc;subst hc;exact fin (aqg hu hx hy e) (by intro z;constructor<;>intros<;>subst_vars<;>simp[nH,uV]at e) (.inr (.inr (by rintro rfl;simp[nH,uV]at e)))
  |map k el =>
   simp at hc;subst hc;exact fin (akK hu hx hy e) (by intro z;constructor<;>intros<;>subst_vars<;>simp[nH,Ad]at e) (.inr (.inr (by rintro rfl;simp[nH,Ad]at e)))
  |func ps rs va =>
   simp at hc;subst hc;exact fin (aqd hu hx hy e) (by intro z;constructor<;>intros<;>subst_vars<;>simp[nH,eqFn]at e) (.inr (.inr (by rintro rfl;simp[nH,eqFn]at e)))
  |interface ms =>
   by_cases hq:isC x=true\/isC y=true
   .simp[hq]at hc;subst hc;exact fin (aqe hu hx hy (zo e)) (by intro z;constructor<;>intros<;>subst_vars<;>(replace e:=zo e;simp[DW]at e)) (by rcases hq with h|h;exact .inl h;exact .inr (.inl h))
   .simp[hq]at hc
  |_=>simp at hc
def aau{op:BinOp}{t:TypeId}{x y:Operand}{a b:Value}(hop:op=.eql\/op=.neq)(hg:isC x=true\/isC y=true\/¬(a=.nilIface/\b=.nilIface))(hag:¬∃c c',a=.agg c/\b=.agg c') :
  (eqGuard op t x y a b).run P w=.ok () w:=by
 have hnil:∀{op:BinOp},(op=.eql\/op=.neq)->(isC x=true\/isC y=true)->(eqGuard op t x y .nilIface .nilIface).run P w=.ok () w:=by
  intro op hop hc;rcases hop with rfl|rfl<;>cases x<;>cases y<;>first|rfl|(simp[isC]at hc;done)
 have hop':=hop;rcases hop with rfl|rfl<;>cases a<;>first|rfl|skip
 all_goals (cases b<;>first|rfl|skip)
 all_goals first
  |exact absurd ⟨_,_,rfl,rfl⟩ hag
  |(rcases hg with hg|hg|hg
    .exact hnil hop' (.inl hg)
    .exact hnil hop' (.inr hg)
    .exact absurd ⟨rfl,rfl⟩ hg)
def aaC{d:Nat}{o:Oper}{op:BinOp}{neg:Bool}{c:Nat}{x y:Operand}{x' y':aC}{t yt:TypeId}(hx:bQ x=some x')(hy:bQ y=some y')(hc:ajQ P t x y=some c)
  (hop:op=if neg then .neq else .eql) (ho:o.op=.binOp op t x y yt):Sound P comp d (.eq neg c x' y') o:=by
 intro g β σ lo fr A w v lo' σ' h e;simp only[aK,zY]at e;obtain⟨e1,rfl,rfl⟩:=Dl e;clear e;obtain⟨b,hb,hv⟩:∃b,nH σ c (x'.ev fr) (y'.ev fr)=some b/\v=.bool (if neg then !b else b):=by
  cases neg
  .simp only[cond_false,gX]at e1;cases hq:nH σ c (x'.ev fr) (y'.ev fr)with
   |none=>rw[hq]at e1;cases e1
   |some b=>rw[hq]at e1;cases e1;exact⟨b,rfl,rfl⟩
  .simp only[cond_true,jU]at e1;cases hq:nH σ c (x'.ev fr) (y'.ev fr)with
   |none=>rw[hq]at e1;cases e1
   |some b=>rw[hq]at e1;cases e1;exact⟨b,rfl,rfl⟩
 obtain⟨hq,hg,hag⟩:=apL hc h.w (Rs.ev h.f hx) (Rs.ev h.f hy) hb;refine .pure h (x:=.bool (if neg then !b else b)) ?_ (by rw[hv];exact .dK (.bool _));have hguard:(eqGuard op t x y (A.eval x) (A.eval y)).run P w=.ok () w:=aau (by rw[hop];cases neg<;>simp) hg hag;have:=hq op (by rw[hop];cases neg<;>simp);simp only[execOp,ho];simp[hguard,this,Result.andThen];rw[hop];cases neg<;>simp
end
section
open Go Go.RowKit
variable {P:Program}{comp:FuncId->Code->aN}{g g':G}{σ σ':H}{w w':World}{β:Nat->Option Nat}{lo lo':Lo}{fr:List V}{A:Act}
def aiX{d:Nat}{o:Oper}{x:Operand}{y:aC}{t:TypeId}(hx:bQ x=some y)(ho:o.op=.unOp .neg t x):Sound P comp d (.neg y) o:=by
 intro g β σ lo fr A w v lo' σ' h e;simp only[aK,BQ]at e
 split at e
 .rename_i k n hb;simp only[OR.ok.injEq]at e;obtain⟨rfl,rfl,rfl⟩:=e;have hv:=jL (Rs.ev h.f hx) hb;exact .pure h (x:=.int k (k.wrap (0-n))) (by simp[execOp,ho,hv,Op.unary,Op.intArith]) (by rw[Ry];exact .dK (.int _ _))
 .cases e
def Sr{d:Nat}{o:Oper}{x:Operand}{y:aC}{s t:TypeId}{k:IntKind}{ds:TypeDesc}(hs:P.underlying s=some ds)(ht:P.underlying t=some (.int k))(hx:bQ x=some y)(ho:o.op=.convert s t x):Sound P comp d (.mM k y) o:=by
 intro g β σ lo fr A w v lo' σ' h e;simp only[aK,lg]at e
 split at e
 .rename_i k' n hb;simp only[OR.ok.injEq]at e;obtain⟨rfl,rfl,rfl⟩:=e;have hv:=jL (Rs.ev h.f hx) hb;refine .pure h (x:=.int k (k.wrap n)) ?_ (by rw[Ry];exact .dK (.int _ _));simp only[execOp,ho,hv,convert];simp[run_underlying hs,run_underlying ht,Result.andThen];cases ds<;>simp[Conv.intToInt]
 .cases e
def aaJ{d:Nat}{o:Oper}{x:Operand}{y:aC}(hx:bQ x=some y)(ho:o.op=.nilCheck x):Sound P comp d (.tK y) o:=by
 intro g β σ lo fr A w v lo' σ' h e;have hr:=Rs.ev h.f hx;simp only[aK,ug]at e;generalize hv:y.ev fr=vx at e hr;have fin:∀x',A.eval x=x'->(x'≠.pointer none/\x'≠.nilIface/\x'≠.nilFunc/\∀n a b,x'≠.func (.method n) a b)->pO P comp g β σ w vx lo σ ((execOp A.eval o).run P w):=by
  intro x' hx' hn;refine .pure h (x:=x') ?_ (by rw[<- hx'];exact hr);simp only[execOp,ho,hx']
  split
  .exact absurd rfl hn.1
  .exact absurd rfl hn.2.1
  .exact absurd rfl hn.2.2.1
  .exact absurd rfl (hn.2.2.2 _ _ _)
  .simp
 cases vx with
 |nilPtr=>cases e
 |nilFunc=>cases e
 |nilIface=>cases e
 |undef=>cases e
 |aY t off =>
  simp only[OR.ok.injEq]at e;obtain⟨rfl,rfl,rfl⟩:=e;obtain⟨b,_,hb⟩:=hr;exact fin _ hb (by simp)
 |func fn a b =>
  simp only[OR.ok.injEq]at e;obtain⟨rfl,rfl,rfl⟩:=e;have hr':=hr;generalize hq:A.eval x=q at hr';cases hr' with
  |func hf _ _ _ _=>cases hf<;>exact fin _ hq (by simp)
 |_ =>
  simp only[OR.ok.injEq]at e;obtain⟨rfl,rfl,rfl⟩:=e;have hr':=hr;generalize hq:A.eval x=q at hr';cases hr'<;>exact fin _ hq (by simp)
def P8(i:Nat)(xs:List V):ng i xs=xs[i]?:=by
 have:∀(i:Nat) (xs:List V),skip i xs=xs.drop i:=by
  intro i
  induction i with
  |zero=>intro xs;cases xs<;>rfl
  |succ i ih=>intro xs;cases xs<;>simp[skip,ih]
 unfold ng;rw[this];cases h:xs.drop i with
 |nil =>
  have:xs.length<=i:=by simpa using h
  simp[gU this]
 |cons y ys =>
  have:(xs.drop i)[0]?=some y:=by rw[h];rfl
  simpa using this.symm
def xF:∀(i:Nat) (xs:List V),skip i xs=xs.drop i:=by
 intro i
 induction i with
 |zero=>intro xs;cases xs<;>rfl
 |succ i ih=>intro xs;cases xs<;>simp[skip,ih]
def pK:∀{n:Nat} {xs ys:List V},takeN n xs=some ys->n<=xs.length/\ys=xs.take n:=by
 intro n
 induction n with
 |zero=>intro xs ys h;simp[takeN]at h;subst h;simp
 |succ n ih =>
  intro xs ys h;cases xs with
  |nil=>simp[takeN]at h
  |cons x xs =>
   simp only[takeN]at h;cases hq:takeN n xs with
   |none=>simp[hq]at h
   |some r=>simp[hq]at h;subst h;obtain⟨h1,h2⟩:=ih hq;subst h2;simp;omega
def Sv{d:Nat}{o:Oper}{x:Operand}{y:aC}{i:Nat}(hx:bQ x=some y)(ho:o.op=.extract x i):Sound P comp d (.extract i y) o:=by
 intro g β σ lo fr A w v lo' σ' h e;have hr:=Rs.ev h.f hx;simp only[aK,qj]at e;generalize hv:y.ev fr=vx at e hr;cases vx<;>try (cases e;done)
 rename_i vs;obtain⟨e1,rfl,rfl⟩:=Dl e;rw[P8]at e1;obtain⟨W,hW,hs⟩:=Rv.UM (g:=g) hr;obtain⟨z,hz,CV⟩:=hs.get e1;refine .pure h (x:=z) ?_ (.dK CV);have hz':W[i]?=some z:=by simpa using hz
 simp[execOp,ho,hW,Instr.extract,hz']
def SA{d:Nat}{o:Oper}{x:Operand}{y:aC}{t:TypeId}{ds:TypeDesc}(ht:P.underlying t=some ds)(hn:∀ms,ds≠.interface ms)(hx:bQ x=some y)(ho:o.op=.makeInterface t x):Sound P comp d (.pF t y) o:=by
 intro g β σ lo fr A w v lo' σ' h e;have hr:=Rs.ev h.f hx;simp only[aK,lU]at e;generalize hv:y.ev fr=vx at e hr;have fin:Rv g vx (A.eval x)->pO P comp g β σ w (.iface t vx) lo σ ((execOp A.eval o).run P w):=λRD=>by
  refine .pure h (x:=.iface t (A.eval x)) ?_ (.dK (.iface t RD));simp only[execOp,ho,Instr.makeInterface];rw[aH,aH,run_underlying ht];cases ds<;>first|rfl|exact absurd rfl (hn _)
 cases hb:Nat.beq t 1000000 with
 |true=>rw[hb]at e;cases vx<;>cases e
 |false =>
 rw[hb]at e;cases vx with
 |aY t off=>cases e
 |_ =>
  simp only[cond_false,OR.ok.injEq]at e;obtain⟨rfl,rfl,rfl⟩:=e;exact fin (hr.rv (by simp))
def aaE{d:Nat}{o:Oper}{x i:Operand}{x' i':aC}{t:TypeId}(ht:P.underlying t=some .string)(hx:bQ x=some x')(hi:bQ i=some i')(ho:o.op=.index t x i):Sound P comp d (.index x' i') o:=by
 intro g β σ lo fr A w v lo' σ' h e;have hr:=Rs.ev h.f hx;have D8:=Rs.ev h.f hi;simp only[aK,pI]at e;generalize hv:x'.ev fr=vx at e hr;generalize hvi:i'.ev fr=vi at e D8;cases vx<;>try (cases e;done)
 rename_i s;cases vi<;>try (cases e;done)
 rename_i k n;cases n with
 |negSucc n=>cases e
 |ofNat n =>
 obtain⟨bs,hb,hs⟩:=yu hr rfl;have hq:=jL D8 rfl;have hng:∀(l:List Nat) (n:Nat),Qj l n=l[n]?:=by
  intro l
  induction l with
  |nil=>intro n;rfl
  |cons a l ih=>intro n;cases n<;>simp[Qj,ih]
 dsimp only at e;rw[hng,hs]at e;simp only[iW]at e;cases hc:bs.data.toList[n]? with
 |none=>simp[hc]at e
 |some c =>
  simp[hc]at e;obtain⟨rfl,rfl,rfl⟩:=e;refine .pure h (x:=.int .u8 c.toNat) ?_ (.dK (.int _ _));have hlt:n<bs.size:=by have:=(fB.1 hc).1;simpa using this
  have hc':bs[n]?=some c:=by
   rw[getElem?_pos bs n hlt];have:=(fB.1 hc).2;rw[<- this];rfl
  simp only[execOp,ho,Instr.index,hb,hq,asIntOf];rw[aH,aH,Sem.run_pure,Result.andThen,aH,run_underlying ht];have h0:(0:Int)<=Int.ofNat n:=Int.natCast_nonneg n;simp only[Result.andThen,if_pos h0];have:(Int.ofNat n).toNat=n:=rfl;rw[this,hc'];rfl
end
end Go.Vx
