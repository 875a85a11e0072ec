/- A part of the proof of TopLoops: VxDef, VxRel, VxWorld, VxComp, VxFrame, VxOpsA. -/
import GoSem.Core.View
import GoSem.Dispatch
import Derived.CallsIn
import Derived.RangeFuncIn
import Derived.RangeFuncRecord
import Derived.Laws.World
import Derived.Below
import Derived.IntWalk
set_option linter.all false
set_option linter.unusedVariables false
set_option linter.unusedSimpArgs false
noncomputable section
open Go
namespace Go.Vx

inductive V where
  | undef
  | bool (b : Bool)
  | int (k : IntKind) (n : Int)
  | str (s : List Nat)
  | nilPtr
  | lptr (t off : Nat)
  | hptr (id off : Nat)
  | fptr (cs : List V)
  | nilSl
  | list (xs : List V) (exact : Bool)
  | hsl (id off len : Nat) (cap : Option Nat) (sz : Nat)
  | nilMap
  | map (id : Nat)
  | nilFunc
  | func (fn : Fn) (first caps : List V)
  | nilIface
  | iface (t : TypeId) (v : V)
  | agg (cs : List V)
  | tuple (vs : List V)
  deriving Inhabited

def V.cells : V → List V
  | .agg cs => cs
  | v => [v]

inductive Opd where
  | tmp (t : Nat)
  | const (v : V)
  deriving Inhabited

inductive VOp where
  | mv (x : Opd)
  | pick (c a b : Opd)
  | alloc (zero : List V)
  | allocH (zero : List V)
  | boxv (x : Opd)
  | boxH (x : Opd)
  | build (zero : List V) (parts : List (Nat × Nat × Opd))
  | lit (zero : List V) (sz len : Nat) (parts : List (Nat × Nat × Opd))
  | load1 (a : Opd)
  | loadA (sz : Nat) (a : Opd)
  | store (sz : Nat) (a x : Opd)
  | nilck (x : Opd)
  | eq (neg : Bool) (cls : Nat) (x y : Opd)
  | bin (op : BinOp) (x y : Opd)
  | not (x : Opd)
  | neg (x : Opd)
  | convInt (k : IntKind) (x : Opd)
  | strMv (x : Opd)
  | slMv (x : Opd)
  | toBytes (x : Opd)
  | toStr (x : Opd)
  | mkIface (t : TypeId) (x : Opd)
  | mkFunc (fn : Fn) (first caps : List Opd)
  | mkMap
  | mkSlice (zero : List V) (len cap : Opd)
  | slice (str : Bool) (sz : Nat) (x : Opd) (lo hi mx : Option Opd)
  | fieldAddr (off : Nat) (x : Opd)
  | field (agg : Bool) (off sz : Nat) (x : Opd)
  | idxAddr (sz : Nat) (x i : Opd)
  | idxArr (sz n : Nat) (x i : Opd)
  | index (x i : Opd)
  | indexA (agg : Bool) (sz n : Nat) (x i : Opd)
  | lookup (kc : Nat) (zero : V) (ok : Bool) (m k : Opd)
  | mapUpd (kc : Nat) (m k x : Opd)
  | mapEnt (zero : V) (m k : Opd)
  | entStore (m s x : Opd)
  | extract (i : Nat) (x : Opd)
  | len (cls : Nat) (x : Opd)
  | cap (x : Opd)
  | max (x y : Opd)
  | min (x y : Opd)
  | append (sz : Nat) (x y : Opd)
  | appendZ (zero : List V) (x n : Opd)
  | copy (sz : Nat) (x y : Opd)
  | clear (zero : List V) (x : Opd)
  | neqId (x y : Opd)
  | mkSliceF (zero : List V) (len cap : Opd)
  | recover
  | bad
  deriving Inhabited

inductive Ins where
  | op (d : Option Nat) (o : VOp)
  | call (d : Option Nat) (f : Nat) (args : List Opd)
  | dyn (d : Option Nat) (f : Opd) (args : List Opd)
  | defer (ids : List Nat) (f : Opd) (args : List Opd)
  | grd (t : Nat) (b : Bool) (d : Option Nat) (i : Ins)
  | chk (g : Option (Nat × Bool)) (t : Nat) (o : VOp)
  deriving Inhabited

inductive VCode where
  | skip
  | region (ops : List Ins)
  | draw (ops : List Ins)
  | seq (a b : VCode)
  | cond (c : Opd) (t e : VCode)
  | block (id : Nat) (c : VCode)
  | loop (c : VCode)
  | rangeFunc (f : Opd) (params : List Nat) (assign body : VCode)
  | exit (id : Nat)
  | scope (c : VCode)
  | label (l : Nat)
  | goto (l : Nat)
  | ret
  deriving Inhabited

inductive Jump where
  | ret | exit (id : Nat) | goto (l : Nat)
  deriving Inhabited, DecidableEq

structure VLoop where
  st : Nat
  pending : Option Jump
  fr : List V
  params : List Nat
  assign : VCode
  body : VCode
  deriving Inhabited

inductive Obj where
  | cells (cs : List V)
  | map (es : List (V × V))
  | loop (l : VLoop)
  deriving Inhabited

inductive T (α : Type) where
  | leaf
  | node (o : Option α) (l r : T α)
  deriving Inhabited

def T.get {α : Type} : T α → Nat → Option α
  | .leaf, _ => none
  | .node o l r, i => bif Nat.beq i 0 then o else bif Nat.beq (i % 2) 1 then l.get (i / 2) else r.get (i / 2 - 1)

def T.putGo {α : Type} (o : Option α) : Nat → T α → Nat → T α
  | 0, t, _ => t
  | n + 1, .leaf, i => bif Nat.beq i 0 then .node o .leaf .leaf else bif Nat.beq (i % 2) 1 then .node none (T.putGo o n .leaf (i / 2)) .leaf else .node none .leaf (T.putGo o n .leaf (i / 2 - 1))
  | n + 1, .node p l r, i => bif Nat.beq i 0 then .node o l r else bif Nat.beq (i % 2) 1 then .node p (T.putGo o n l (i / 2)) r else .node p l (T.putGo o n r (i / 2 - 1))
def T.put {α : Type} (t : T α) (o : Option α) (n i : Nat) : T α := T.putGo o n t i

structure H where
  next : Nat
  objs : T Obj
  deriving Inhabited

def H.get (h : H) (i : Nat) : Option Obj := h.objs.get i
def H.set (h : H) (i : Nat) (o : Obj) : H := ⟨h.next, h.objs.put (some o) (i + 1) i⟩
def H.del (h : H) (i : Nat) : H := ⟨h.next, h.objs.put none (i + 1) i⟩
def H.new (h : H) (o : Obj) : H := ⟨h.next + 1, h.objs.put (some o) (h.next + 1) h.next⟩

def lgetC : List V → Nat → V
  | [], _ => .undef
  | x :: _, 0 => x
  | _ :: xs, n + 1 => lgetC xs n
def lsetC : List V → Nat → V → List V
  | [], _, _ => []
  | _ :: xs, 0, v => v :: xs
  | x :: xs, n + 1, v => x :: lsetC xs n v
/- by the recursors themselves: the kernel has fewer steps to take -/
def lget (l : List V) : Nat → V := List.rec (motive := fun _ => Nat → V) (fun _ => .undef) (fun x _ ih n => Nat.rec (motive := fun _ => V) x (fun m _ => ih m) n) l
def lset (l : List V) : Nat → V → List V := List.rec (motive := fun _ => Nat → V → List V) (fun _ _ => []) (fun x xs ih n v => Nat.rec (motive := fun _ => List V) (v :: xs) (fun m _ => x :: ih m v) n) l
theorem lget_nil (n : Nat) : lget [] n = .undef := rfl
theorem lget_zero (x : V) (xs : List V) : lget (x :: xs) 0 = x := rfl
theorem lget_succ (x : V) (xs : List V) (n : Nat) : lget (x :: xs) (n + 1) = lget xs n := rfl
theorem lset_nil (n : Nat) (v : V) : lset [] n v = [] := rfl
theorem lset_zero (x v : V) (xs : List V) : lset (x :: xs) 0 v = v :: xs := rfl
theorem lset_succ (x v : V) (xs : List V) (n : Nat) : lset (x :: xs) (n + 1) v = x :: lset xs n v := rfl

abbrev Lo := List (Nat × List V)
def loGet : Lo → Nat → Option (List V)
  | [], _ => none
  | (u, cs) :: r, t => bif Nat.beq u t then some cs else loGet r t
def loSet : Lo → Nat → List V → Lo
  | [], t, cs => [(t, cs)]
  | (u, ds) :: r, t, cs => bif Nat.beq u t then (u, cs) :: r else (u, ds) :: loSet r t cs

def Opd.ev (x : Opd) : List V → V := match x with
  | .tmp t => fun fr => lget fr t
  | .const v => fun _ => v

def Opd.evs : List Opd → List V → List V
  | [], _ => []
  | x :: xs, fr => x.ev fr :: Opd.evs xs fr

/-- replace cells at an offset; fails if it does not fit -/
def splice0 : List V → List V → Option (List V)
  | cs, [] => some cs
  | [], _ :: _ => none
  | _ :: cs, v :: vs => match splice0 cs vs with | some r => some (v :: r) | none => none
def splice : Nat → List V → List V → Option (List V)
  | 0, cs, vs => splice0 cs vs
  | _ + 1, [], _ => none
  | n + 1, c :: cs, vs => match splice n cs vs with | some r => some (c :: r) | none => none

def takeN : Nat → List V → Option (List V)
  | 0, _ => some []
  | _ + 1, [] => none
  | n + 1, x :: xs => match takeN n xs with | some r => some (x :: r) | none => none
def skip : Nat → List V → List V
  | 0, xs => xs
  | _ + 1, [] => []
  | n + 1, _ :: xs => skip n xs
def listGet (n : Nat) (xs : List V) : Option V := match skip n xs with | x :: _ => some x | [] => none

def isLoc (v : V) : Bool := match v with | .lptr _ _ => true | .undef => true | _ => false
def anyLoc : List V → Bool
  | [] => false
  | v :: vs => match v with | .lptr _ _ => true | _ => anyLoc vs

inductive OR where
  | fail
  | ok (v : V) (lo : Lo) (h : H)
def OR.ofO (o : Option V) (lo : Lo) (h : H) : OR := match o with | some v => .ok v lo h | none => .fail

def mk (agg : Bool) (o : Option (List V)) : Option V := match o with
  | none => none
  | some cs => bif agg then some (.agg cs) else match cs with | [c] => some c | _ => none

def elemOf (x : List V) : V := match x with
  | [c] => (match c with | .agg _ => .agg x | c => c)
  | x => .agg x
def chunk (sz : Nat) : Nat → List V → Option (List V)
  | 0, _ => some []
  | n + 1, cs => match takeN sz cs with
    | none => none
    | some x => match chunk sz n (skip sz cs) with
      | none => none
      | some r => some (elemOf x :: r)

-- freeze: deep, by fuel; one function over lists
def frzC (v : V) (r : List V × H) : List V × H := match r with | (r, h) => (v :: r, h)
def frzL : Nat → List V → H → List V × H
  | 0, vs, h => (vs, h)
  | _ + 1, [], h => ([], h)
  | n + 1, v :: vs, h => match v with
    | .hsl id off len cap sz => (match h.get id with
      | some (.cells cs) => (match chunk sz len (skip off cs) with
        | some xs => (match frzL n xs (h.del id) with
          | (xs, h) => frzC (.list xs (match cap with | some c => Nat.beq c len | none => false)) (frzL n vs h))
        | none => frzC v (frzL n vs h))
      | _ => frzC v (frzL n vs h))
    | .agg cs => (match frzL n cs h with | (cs, h) => frzC (.agg cs) (frzL n vs h))
    | .tuple cs => (match frzL n cs h with | (cs, h) => frzC (.tuple cs) (frzL n vs h))
    | v => frzC v (frzL n vs h)
def frz (v : V) (h : H) : V × H := match frzL 1000000 [v] h with | (w :: _, h) => (w, h) | ([], h) => (v, h)

def bytesEq : List Nat → List Nat → Bool
  | [], [] => true
  | a :: x, b :: y => Nat.beq a b && bytesEq x y
  | _, _ => false
def bytesLt : List Nat → List Nat → Bool
  | _, [] => false
  | [], _ :: _ => true
  | a :: x, b :: y => Nat.blt a b || (Nat.beq a b && bytesLt x y)

def ltI : Int → Int → Bool
  | .ofNat a, .ofNat b => Nat.blt a b
  | .ofNat _, .negSucc _ => false
  | .negSucc _, .ofNat _ => true
  | .negSucc a, .negSucc b => Nat.blt b a
def eqI : Int → Int → Bool
  | .ofNat a, .ofNat b => Nat.beq a b
  | .negSucc a, .negSucc b => Nat.beq a b
  | _, _ => false
def leI (a b : Int) : Bool := !(ltI b a)
def eqK : IntKind → IntKind → Bool
  | .i64, .i64 => true
  | .u8, .u8 => true
  | .u16, .u16 => true
  | .u64, .u64 => true
  | .u32, .u32 => true
  | .i32, .i32 => true
  | .i8, .i8 => true
  | .i16, .i16 => true
  | _, _ => false
def wrapF (k : IntKind) (n : Int) : Int :=
  match k, n with
  | .i64, .ofNat m => bif Nat.blt m 9223372036854775808 then .ofNat m else k.wrap n
  | .i64, .negSucc m => bif Nat.blt m 9223372036854775808 then .negSucc m else k.wrap n
  | .u8, .ofNat m => .ofNat (m % 256)
  | .u16, .ofNat m => .ofNat (m % 65536)
  | .u64, .ofNat m => .ofNat (m % 18446744073709551616)
  | _, _ => k.wrap n

def getCells (h : H) (id : Nat) : Option (List V) := match h.get id with
  | some o => (match o with | .cells cs => some cs | _ => none)
  | none => none
def getMap (h : H) (id : Nat) : Option (List (V × V)) := match h.get id with
  | some o => (match o with | .map cs => some cs | _ => none)
  | none => none
def eqNum (x y : V) : Option Bool := match x with
  | .int k a => (match y with | .int k' b => bif eqK k k' then some (eqI a b) else none | _ => none)
  | .str a => (match y with | .str b => some (bytesEq a b) | _ => none)
  | _ => none
def eqBool (x y : V) : Option Bool := match x with
  | .bool a => (match y with | .bool b => some (bif a then b else !b) | _ => none)
  | _ => none
def eqPtr (h : H) (x y : V) : Option Bool := match x with
  | .nilPtr => (match y with | .nilPtr => some true | .hptr _ _ => some false | .lptr _ _ => some false | .fptr _ => some false | _ => none)
  | .hptr a o => (match y with
    | .nilPtr => some false
    | .hptr b p => (match getCells h a with
      | some cs => (match getCells h b with
        | some ds => bif Nat.blt o cs.length && Nat.blt p ds.length then some (Nat.beq a b && Nat.beq o p) else none
        | none => none)
      | none => none)
    | _ => none)
  | .lptr _ _ => (match y with | .nilPtr => some false | _ => none)
  | .fptr _ => (match y with | .nilPtr => some false | _ => none)
  | _ => none
def eqSl (x y : V) : Option Bool := match x with
  | .nilSl => (match y with | .nilSl => some true | .list _ _ => some false | .hsl _ _ _ _ _ => some false | _ => none)
  | .list _ _ => (match y with | .nilSl => some false | _ => none)
  | .hsl _ _ _ _ _ => (match y with | .nilSl => some false | _ => none)
  | _ => none
def eqMap (x y : V) : Option Bool := match x with
  | .nilMap => (match y with | .nilMap => some true | .map _ => some false | _ => none)
  | .map _ => (match y with | .nilMap => some false | _ => none)
  | _ => none
def eqFn (x y : V) : Option Bool := match x with
  | .nilFunc => (match y with | .nilFunc => some true | .func _ _ _ => some false | _ => none)
  | .func _ _ _ => (match y with | .nilFunc => some false | _ => none)
  | _ => none
def eqIf (x y : V) : Option Bool := match x with
  | .nilIface => (match y with | .nilIface => some true | .iface _ _ => some false | _ => none)
  | .iface _ _ => (match y with | .nilIface => some false | _ => none)
  | _ => none
/-- equality, by the kind of the type: 0 numbers and strings, 1 bools, 2 pointers, 3 slices, 4 maps, 5 functions, 6 interface values, one of them the literal nil -/
def eqC (h : H) (cls : Nat) : V → V → Option Bool := match cls with
  | 0 => eqNum
  | 1 => eqBool
  | 2 => eqPtr h
  | 3 => eqSl
  | 4 => eqMap
  | 5 => eqFn
  | 6 => eqIf
  | _ => fun _ _ => none
def eqV (h : H) (x y : V) : Option Bool := match x with
  | .hptr _ _ => eqPtr h x y
  | .bool _ => eqBool x y
  | _ => eqNum x y

def boolO (o : Option Bool) : Option V := match o with | some b => some (.bool b) | none => none
def notO (o : Option Bool) : Option V := match o with | some b => some (.bool !b) | none => none
def cmp2 (f : Int → Int → Bool) (x y : V) : Option V := match x with
  | .int k a => (match y with | .int k' b => bif eqK k k' then some (.bool (f a b)) else none | _ => none)
  | _ => none
def ar2 (f : Int → Int → Int) (x y : V) : Option V := match x with
  | .int k a => (match y with | .int k' b => bif eqK k k' then some (.int k (wrapF k (f a b))) else none | _ => none)
  | _ => none
def lssV (x y : V) : Option V := match x with
  | .str a => (match y with | .str b => some (.bool (bytesLt a b)) | _ => none)
  | x => cmp2 ltI x y
def addV (x y : V) : Option V := match x with
  | .str a => (match y with | .str b => bif Nat.blt (a.length + b.length) 4294967296 then some (.str (a ++ b)) else none | _ => none)
  | x => ar2 Int.add x y
def quoV (x y : V) : Option V := match y with
  | .int _ b => bif eqI b 0 then none else ar2 Int.tdiv x y
  | _ => none
def remV (x y : V) : Option V := match x with
  | .int k a => (match y with | .int k' b => bif eqI b 0 || !(eqK k k') then none else some (.int k (a.tmod b)) | _ => none)
  | _ => none
def shlV (x y : V) : Option V := match x with
  | .int k a => (match y with | .int _ b => bif ltI b 0 then none else some (.int k (k.wrap (a * 2 ^ (min b.toNat k.bits)))) | _ => none)
  | _ => none
def shrV (x y : V) : Option V := match x with
  | .int k a => (match y with | .int _ b => bif ltI b 0 then none else some (.int k (a.fdiv (2 ^ (min b.toNat k.bits)))) | _ => none)
  | _ => none
def binV (op : BinOp) : V → V → Option V := match op with
  | .lss => lssV
  | .leq => cmp2 leI
  | .gtr => cmp2 (fun a b => ltI b a)
  | .geq => cmp2 (fun a b => leI b a)
  | .add => addV
  | .sub => ar2 Int.sub
  | .mul => ar2 Int.mul
  | .quo => quoV
  | .rem => remV
  | .shl => shlV
  | .shr => shrV
  | _ => fun _ _ => none

def findE (h : H) (k : V) : List (V × V) → Nat → Option (Option (Nat × V))
  | [], _ => some none
  | (k', v) :: es, i => match eqV h k k' with
    | some b => bif b then some (some (i, v)) else findE h k es (i + 1)
    | none => none
def setE : List (V × V) → Nat → V → List (V × V)
  | [], _, _ => []
  | (k, _) :: es, 0, v => (k, v) :: es
  | e :: es, n + 1, v => e :: setE es n v

def natGet : List Nat → Nat → Option Nat
  | [], _ => none
  | x :: _, 0 => some x
  | _ :: xs, n + 1 => natGet xs n
def bytesOf : List V → Option (List Nat)
  | [] => some []
  | v :: vs => match v with
    | .int .u8 (.ofNat n) => bif Nat.blt n 256 then (match bytesOf vs with | some r => some (n :: r) | none => none) else none
    | _ => none
def ofBytes : List Nat → List V
  | [] => []
  | b :: bs => .int .u8 (.ofNat b) :: ofBytes bs
def flatC : List V → List V
  | [] => []
  | x :: xs => match x with | .agg cs => cs ++ flatC xs | x => x :: flatC xs
def rep (z : List V) : Nat → List V
  | 0 => []
  | n + 1 => z ++ rep z n

def takeO (n : Nat) (o : Option (List V)) (off : Nat) : Option (List V) := match o with
  | some cs => takeN n (skip off cs)
  | none => none

/-- elements of a slice value, cells flattened -/
def slCells (h : H) (v : V) : Option (List V) := match v with
  | .nilSl => some []
  | .list xs _ => some (flatC xs)
  | .hsl id off len _ sz => takeO (len * sz) (getCells h id) off
  | .str s => some (ofBytes s)
  | _ => none
def slLen (v : V) : Option Nat := match v with
  | .nilSl => some 0
  | .list xs _ => some xs.length
  | .hsl _ _ len _ _ => some len
  | .str s => some s.length
  | _ => none

def szOk (sz : Nat) (xs : List V) : Bool := match xs with | [] => true | x :: _ => Nat.beq x.cells.length sz
/-- the cells of the first n elements -/
def srcCells (h : H) (sz n : Nat) (v : V) : Option (List V) := match v with
  | .nilSl => bif Nat.beq n 0 then some [] else none
  | .list xs _ => bif szOk sz xs && Nat.ble n xs.length then takeN (n * sz) (flatC xs) else none
  | .hsl id off len _ sz' => bif Nat.beq sz sz' && Nat.ble n len then takeO (n * sz) (getCells h id) off else none
  | .str s => bif Nat.beq sz 1 then takeN n (ofBytes s) else none
  | _ => none

def bound (v : Option V) (d : Nat) (y : Nat) : Option Nat :=
  match v with
  | none => some d
  | some (.int _ (.ofNat n)) => bif Nat.ble n y then some n else none
  | _ => none

def fill (cells : List V) : List (Nat × Nat × Opd) → List V → Option (List V)
  | [], _ => some cells
  | (off, sz, x) :: r, fr =>
    match x.ev fr with
    | .lptr _ _ => none
    | .undef => none
    | v => bif Nat.beq v.cells.length sz then (match splice off cells v.cells with | some cs => fill cs r fr | none => none) else none

def killL (t : Nat) : List V → List V
  | [] => []
  | v :: vs => (match v with | .lptr u _ => (bif Nat.beq u t then .undef else v) | v => v) :: killL t vs

/-- append of n elements, their cells `new` -/
def appFresh (h : H) (n sz : Nat) (old : Option (List V)) (new : List V) : Option (V × H) := match old with
  | some old => bif Nat.ble n 16777216 then some (.hsl h.next 0 n none sz, h.new (.cells (old ++ new))) else none
  | none => none
def isSl (v : V) : Bool := match v with | .nilSl => true | .list _ _ => true | .hsl _ _ _ _ _ => true | _ => false
def appIn (h : H) (id off len cap sz n : Nat) (new : List V) : Option (V × H) := match getCells h id with
  | some cs => (match splice (off + len * sz) cs new with | some cs => some (.hsl id off (len + n) (some cap) sz, h.set id (.cells cs)) | none => none)
  | none => none
def appHsl (h : H) (sz id off len : Nat) (cap : Option Nat) (n : Nat) (old : Option (List V)) (new : List V) : Option (V × H) := match cap with
  | some c => bif Nat.ble (len + n) c then appIn h id off len c sz n new else appFresh h (len + n) sz old new
  | none => bif Nat.beq off 0 then appFresh (h.del id) (len + n) sz old new else none
def appV (h : H) (sz : Nat) (s : V) (n : Nat) (new : List V) : Option (V × H) :=
  bif Nat.beq n 0 then (bif isSl s then some (s, h) else none) else
  match s with
  | .nilSl => appFresh h n sz (some []) new
  | .list xs ex => bif ex then appFresh h (xs.length + n) sz (srcCells h sz xs.length s) new else none
  | .hsl id off len cap sz' => bif Nat.beq sz sz' then appHsl h sz id off len cap n (srcCells h sz len s) new else none
  | _ => none

abbrev OpF := List V → Lo → H → OR

def okv (v : V) (lo : Lo) (h : H) : OR := .ok v lo h
def opMv (x : Opd) : OpF := fun fr lo h => .ok (x.ev fr) lo h
def opPick (c a b : Opd) : OpF := fun fr lo h => match c.ev fr with | .bool t => .ok (bif t then a.ev fr else b.ev fr) lo h | _ => .fail
def opAlloc (d : Nat) (z : List V) : OpF := fun _ lo h => .ok (.lptr d 0) (loSet lo d z) h
def opAllocH (z : List V) : OpF := fun _ lo h => .ok (.hptr h.next 0) lo (h.new (.cells z))
def opBoxv (d : Nat) (x : Opd) : OpF := fun fr lo h => match x.ev fr with
  | .lptr _ _ => .fail
  | .undef => .fail
  | v => .ok (.lptr d 0) (loSet lo d v.cells) h
def opBoxH (x : Opd) : OpF := fun fr lo h => match x.ev fr with
  | .lptr _ _ => .fail
  | .undef => .fail
  | v => .ok (.hptr h.next 0) lo (h.new (.cells v.cells))
def opBuild (z : List V) (ps : List (Nat × Nat × Opd)) : OpF := fun fr lo h => match fill z ps fr with | some cs => .ok (.agg cs) lo h | none => .fail
def opLit (z : List V) (sz n : Nat) (ps : List (Nat × Nat × Opd)) : OpF := fun fr lo h => match fill (rep z n) ps fr with
  | some cs => (match chunk sz n cs with | some xs => .ok (.list xs true) lo h | none => .fail)
  | none => .fail
def cellsAt (a : V) (lo : Lo) (h : H) : Option (List V) := match a with
  | .lptr t off => (match loGet lo t with | some cs => some (skip off cs) | none => none)
  | .hptr id off => (match getCells h id with | some cs => some (skip off cs) | none => none)
  | .fptr cs => some cs
  | _ => none
def opLoad1 (a : Opd) : OpF := fun fr lo h => match cellsAt (a.ev fr) lo h with
  | some cs => (match cs with | c :: _ => .ok c lo h | [] => .fail)
  | none => .fail
def opLoadA (sz : Nat) (a : Opd) : OpF := fun fr lo h => match cellsAt (a.ev fr) lo h with
  | some cs => (match takeN sz cs with | some r => .ok (.agg r) lo h | none => .fail)
  | none => .fail
def okc (v : V) : Bool := match v with | .undef => false | .agg _ => false | .tuple _ => false | .lptr _ _ => false | _ => true
def okcs : List V → Bool
  | [] => true
  | v :: vs => okc v && okcs vs
def storeTo (a : V) (vs : List V) (lo : Lo) (h : H) : OR := match a with
  | .lptr t off => (match loGet lo t with
    | some cs => (match splice off cs vs with | some cs => .ok .undef (loSet lo t cs) h | none => .fail)
    | none => .fail)
  | .hptr id off => (match getCells h id with
    | some cs => (match splice off cs vs with | some cs => .ok .undef lo (h.set id (.cells cs)) | none => .fail)
    | none => .fail)
  | _ => .fail
def opStore (sz : Nat) (a x : Opd) : OpF := fun fr lo h => match x.ev fr with
  | .lptr _ _ => .fail
  | .undef => .fail
  | v => bif Nat.beq v.cells.length sz && okcs v.cells then storeTo (a.ev fr) v.cells lo h else .fail
def opNilck (x : Opd) : OpF := fun fr lo h => match x.ev fr with
  | .nilPtr => .fail
  | .nilFunc => .fail
  | .nilIface => .fail
  | .undef => .fail
  | v => .ok v lo h
def opEq (neg : Bool) (cls : Nat) (x y : Opd) : OpF := fun fr lo h => OR.ofO (bif neg then notO (eqC h cls (x.ev fr) (y.ev fr)) else boolO (eqC h cls (x.ev fr) (y.ev fr))) lo h
def opBin (op : BinOp) (x y : Opd) : OpF := fun fr lo h => OR.ofO (binV op (x.ev fr) (y.ev fr)) lo h
def opNot (x : Opd) : OpF := fun fr lo h => match x.ev fr with | .bool b => .ok (.bool !b) lo h | _ => .fail
def opNeg (x : Opd) : OpF := fun fr lo h => match x.ev fr with | .int k n => .ok (.int k (wrapF k (0 - n))) lo h | _ => .fail
def opConvInt (k : IntKind) (x : Opd) : OpF := fun fr lo h => match x.ev fr with | .int _ n => .ok (.int k (wrapF k n)) lo h | _ => .fail
def opStrMv (x : Opd) : OpF := fun fr lo h => match x.ev fr with | .str s => .ok (.str s) lo h | _ => .fail
def opSlMv (x : Opd) : OpF := fun fr lo h => match x.ev fr with
  | .list xs ex => (match xs with | [] => .fail | x :: xs => (match x.cells with | [] => .fail | _ :: _ => .ok (.list (x :: xs) ex) lo h))
  | _ => .fail
def opToBytes (x : Opd) : OpF := fun fr lo h => match x.ev fr with | .str s => .ok (.list (ofBytes s) false) lo h | _ => .fail
/-- the bytes of a slice of bytes -/
def bytesIn (h : H) (v : V) : Option (List Nat) := match v with
  | .nilSl => some []
  | .list xs _ => bytesOf xs
  | .hsl id off len _ _ => (match takeO len (getCells h id) off with | some cs => bytesOf cs | none => none)
  | _ => none
def opToStr (x : Opd) : OpF := fun fr lo h => match bytesIn h (x.ev fr) with
  | some s => .ok (.str s) lo h
  | none => .fail
def opMkIface (t : TypeId) (x : Opd) : OpF := fun fr lo h => match x.ev fr with | .lptr _ _ => .fail | v => .ok (.iface t v) lo h
def opMkFunc (fn : Fn) (a b : List Opd) : OpF := fun fr lo h => bif anyLoc (Opd.evs a fr) || anyLoc (Opd.evs b fr) then .fail else .ok (.func fn (Opd.evs a fr) (Opd.evs b fr)) lo h
def opMkMap : OpF := fun _ lo h => .ok (.map h.next) lo (h.new (.map []))
def opMkSlice (z : List V) (l c : Opd) : OpF := fun fr lo h => match l.ev fr with
  | .int _ (.ofNat l) => (match c.ev fr with
    | .int _ (.ofNat c) => bif Nat.ble l c && Nat.ble c 16777216 then .ok (.hsl h.next 0 l (some c) z.length) lo (h.new (.cells (rep z c))) else .fail
    | _ => .fail)
  | _ => .fail
/-- a slice that is made, and frozen at once -/
def opMkSliceF (z : List V) (l c : Opd) : OpF := fun fr lo h => match opMkSlice z l c fr lo h with
  | .ok v lo h => (match frz v h with | (v, h) => .ok v lo h)
  | .fail => .fail
def evO (o : Option Opd) (fr : List V) : Option V := match o with | some x => some (x.ev fr) | none => none
def slBounds (len cap : Nat) (lo hi mx : Option V) : Option (Nat × Nat × Nat) := match mx, hi with
  | some _, none => none
  | _, _ => (match bound mx cap cap with
    | some m => (match bound hi len m with
      | some hh => (match bound lo 0 hh with | some l => some (l, hh, m) | none => none)
      | none => none)
    | none => none)
def slStr (s : List Nat) (lo hi mx : Option V) : Option V := match mx with
  | some _ => none
  | none => (match slBounds s.length s.length lo hi none with
    | some p => some (.str ((s.take p.2.1).drop p.1))
    | none => none)
def slNil (lo hi mx : Option V) : Option V := match slBounds 0 0 lo hi mx with
  | some _ => some .nilSl
  | none => none
def slEx (mx : Option V) (m hh : Nat) (ex : Bool) (n : Nat) : Bool := match mx with | some _ => Nat.beq m hh | none => ex && Nat.beq hh n
def slList (sz : Nat) (xs : List V) (ex : Bool) (lo hi mx : Option V) : Option V := bif szOk sz xs then (match slBounds xs.length xs.length lo hi mx with
  | some p => some (.list ((xs.take p.2.1).drop p.1) (slEx mx p.2.2 p.2.1 ex xs.length))
  | none => none) else none
def capSub (cap : Option Nat) (l : Nat) : Option Nat := match cap with | some c => some (c - l) | none => none
def slHsl (sz id off len : Nat) (cap : Option Nat) (sz' : Nat) (lo hi mx : Option V) : Option V := bif Nat.beq sz sz' then (match slBounds len (cap.getD len) lo hi mx with
  | some p => bif Nat.beq p.1 p.2.2 && !(Nat.beq p.1 0) then some (.list [] false)
    else some (.hsl id (off + p.1 * sz) (p.2.1 - p.1) (match mx with | some _ => some (p.2.2 - p.1) | none => capSub cap p.1) sz)
  | none => none) else none
def opSlice (str : Bool) (sz : Nat) (x : Opd) (lo hi mx : Option Opd) : OpF := fun fr lc h => match x.ev fr with
  | .str s => bif str then OR.ofO (slStr s (evO lo fr) (evO hi fr) (evO mx fr)) lc h else .fail
  | .nilSl => bif str then .fail else OR.ofO (slNil (evO lo fr) (evO hi fr) (evO mx fr)) lc h
  | .list xs ex => bif str then .fail else OR.ofO (slList sz xs ex (evO lo fr) (evO hi fr) (evO mx fr)) lc h
  | .hsl id off len cap sz' => bif str then .fail else OR.ofO (slHsl sz id off len cap sz' (evO lo fr) (evO hi fr) (evO mx fr)) lc h
  | _ => .fail
def opFieldAddr (off : Nat) (x : Opd) : OpF := fun fr lo h => match x.ev fr with
  | .lptr t o => .ok (.lptr t (o + off)) lo h
  | .hptr id o => .ok (.hptr id (o + off)) lo h
  | .fptr cs => .ok (.fptr (skip off cs)) lo h
  | _ => .fail
def opField (ag : Bool) (off sz : Nat) (x : Opd) : OpF := fun fr lo h => match x.ev fr with
  | .agg cs => OR.ofO (mk ag (takeN sz (skip off cs))) lo h
  | _ => .fail
def opIdxAddr (sz : Nat) (x i : Opd) : OpF := fun fr lo h => match i.ev fr with
  | .int _ (.ofNat i) => (match x.ev fr with
    | .list xs _ => (match listGet i xs with
      | some x => bif Nat.beq x.cells.length sz then .ok (.fptr x.cells) lo h else .fail
      | none => .fail)
    | .hsl id off len _ _ => bif Nat.blt i len then .ok (.hptr id (off + i * sz)) lo h else .fail
    | _ => .fail)
  | _ => .fail
def opIdxArr (sz n : Nat) (x i : Opd) : OpF := fun fr lo h => match i.ev fr with
  | .int _ (.ofNat i) => bif Nat.blt i n then (match x.ev fr with
    | .lptr t o => .ok (.lptr t (o + i * sz)) lo h
    | .hptr t o => .ok (.hptr t (o + i * sz)) lo h
    | _ => .fail) else .fail
  | _ => .fail
def opIndex (x i : Opd) : OpF := fun fr lo h => match x.ev fr with
  | .str s => (match i.ev fr with
    | .int _ (.ofNat i) => (match natGet s i with | some b => .ok (.int .u8 (.ofNat b)) lo h | none => .fail)
    | _ => .fail)
  | _ => .fail
def opIndexA (ag : Bool) (sz n : Nat) (x i : Opd) : OpF := fun fr lo h => match x.ev fr with
  | .agg cs => (match i.ev fr with
    | .int _ (.ofNat i) => bif Nat.blt i n then OR.ofO (mk ag (takeN sz (skip (i * sz) cs))) lo h else .fail
    | _ => .fail)
  | _ => .fail
def mapOf (m : V) (h : H) : Option (List (V × V)) := match m with
  | .nilMap => some []
  | .map id => getMap h id
  | _ => none
/-- the kind of a key: 0 a number, 1 a string, 2 a pointer into the heap, 3 a bool -/
def keyIs (kc : Nat) (v : V) : Bool := match v with
  | .int _ _ => Nat.beq kc 0
  | .str _ => Nat.beq kc 1
  | .hptr _ _ => Nat.beq kc 2
  | .bool _ => Nat.beq kc 3
  | _ => false
def lookRes (z : V) (ok : Bool) (r : Option (Nat × V)) : V := match r with
  | some p => bif ok then .tuple [p.2, .bool true] else p.2
  | none => bif ok then .tuple [z, .bool false] else z
def opLookup (kc : Nat) (z : V) (ok : Bool) (m k : Opd) : OpF := fun fr lo h => bif keyIs kc (k.ev fr) then (match mapOf (m.ev fr) h with
  | some es => (match findE h (k.ev fr) es 0 with
    | some r => .ok (lookRes z ok r) lo h
    | none => .fail)
  | none => .fail) else .fail
def updMap (id : Nat) (es : List (V × V)) (k v : V) (r : Option (Nat × V)) (lo : Lo) (h : H) : OR := match r with
  | some p => .ok .undef lo (h.set id (.map (setE es p.1 v)))
  | none => .ok .undef lo (h.set id (.map (es ++ [(k, v)])))
def opMapUpd (kc : Nat) (m k x : Opd) : OpF := fun fr lo h => bif keyIs kc (k.ev fr) && !isLoc (x.ev fr) then (match m.ev fr with
    | .map id => (match getMap h id with
      | some es => (match findE h (k.ev fr) es 0 with
        | some r => updMap id es (k.ev fr) (x.ev fr) r lo h
        | none => .fail)
      | none => .fail)
    | _ => .fail) else .fail
def opMapEnt (z : V) (m k : Opd) : OpF := fun fr lo h => match m.ev fr with
  | .map id => (match getMap h id with
    | some es => (match findE h (k.ev fr) es 0 with
      | some r => (match r with
        | some p => .ok (.tuple [p.2, .int .i64 p.1]) lo h
        | none => .ok (.tuple [z, .int .i64 es.length]) lo (h.set id (.map (es ++ [(k.ev fr, z)]))))
      | none => .fail)
    | none => .fail)
  | _ => .fail
def opEntStore (m s x : Opd) : OpF := fun fr lo h => match x.ev fr with
  | .lptr _ _ => .fail
  | .undef => .fail
  | v => (match m.ev fr with
    | .map id => (match s.ev fr with
      | .int _ (.ofNat i) => (match getMap h id with
        | some es => bif Nat.blt i es.length then .ok .undef lo (h.set id (.map (setE es i v))) else .fail
        | none => .fail)
      | _ => .fail)
    | _ => .fail)
def opExtract (i : Nat) (x : Opd) : OpF := fun fr lo h => match x.ev fr with | .tuple vs => OR.ofO (listGet i vs) lo h | _ => .fail
/-- 0 slice, 1 string, 2 map -/
def lenOf (h : H) (cls : Nat) (v : V) : Option Nat := match cls with
  | 0 => (match v with
    | .nilSl => some 0
    | .list xs _ => some xs.length
    | .hsl _ _ len _ _ => some len
    | _ => none)
  | 1 => (match v with | .str s => some s.length | _ => none)
  | 2 => (match v with
    | .nilMap => some 0
    | .map id => (match getMap h id with | some es => some es.length | none => none)
    | _ => none)
  | _ => none
def opLen (cls : Nat) (x : Opd) : OpF := fun fr lo h => match lenOf h cls (x.ev fr) with
  | some n => .ok (.int .i64 (.ofNat n)) lo h
  | none => .fail
def opCap (x : Opd) : OpF := fun fr lo h => match x.ev fr with
  | .nilSl => .ok (.int .i64 0) lo h
  | .list xs ex => bif ex then .ok (.int .i64 (.ofNat xs.length)) lo h else .fail
  | .hsl _ _ _ c _ => (match c with | some c => .ok (.int .i64 (.ofNat c)) lo h | none => .fail)
  | _ => .fail
def opMax (x y : Opd) : OpF := fun fr lo h => match x.ev fr with
  | .int k a => (match y.ev fr with | .int _ b => .ok (.int k (bif ltI a b then b else a)) lo h | _ => .fail)
  | _ => .fail
def opMin (x y : Opd) : OpF := fun fr lo h => match x.ev fr with
  | .int k a => (match y.ev fr with | .int _ b => .ok (.int k (bif ltI b a then b else a)) lo h | _ => .fail)
  | _ => .fail
def ORp (o : Option (V × H)) (lo : Lo) : OR := match o with | some p => .ok p.1 lo p.2 | none => .fail
def opAppend (sz : Nat) (x y : Opd) : OpF := fun fr lo h => match slLen (y.ev fr) with
  | some n => (match srcCells h sz n (y.ev fr) with | some new => bif okcs new then ORp (appV h sz (x.ev fr) n new) lo else .fail | none => .fail)
  | none => .fail
def opAppendZ (z : List V) (x n : Opd) : OpF := fun fr lo h => match n.ev fr with
  | .int k (.ofNat n) => bif eqK k .i64 && Nat.ble n 16777216 && Nat.blt 0 n then (match x.ev fr with
    | .nilSl => .ok (.hsl h.next 0 n none z.length) lo (h.new (.cells (rep z n)))
    | _ => .fail) else .fail
  | _ => .fail
def copyTo (sz : Nat) (x y : V) (n : Nat) (lo : Lo) (h : H) : OR := match x with
  | .hsl id off _ _ sz' => bif Nat.beq sz sz' then (match srcCells h sz n y with
    | some new => (match getCells h id with
      | some cs => bif okcs new then (match splice off cs new with
        | some cs => .ok (.int .i64 (.ofNat n)) lo (h.set id (.cells cs))
        | none => .fail) else .fail
      | none => .fail)
    | none => .fail) else .fail
  | _ => bif Nat.beq n 0 then .ok (.int .i64 0) lo h else .fail
def opCopy (sz : Nat) (x y : Opd) : OpF := fun fr lo h => match slLen (y.ev fr) with
  | some n => (match lenOf h 0 (x.ev fr) with
    | some m => copyTo sz (x.ev fr) (y.ev fr) (bif Nat.ble n m then n else m) lo h
    | none => .fail)
  | none => .fail
def opClear (z : List V) (x : Opd) : OpF := fun fr lo h => match x.ev fr with
  | .nilSl => .ok .undef lo h
  | .list xs _ => (match xs with | [] => .ok .undef lo h | _ :: _ => .fail)
  | .hsl id off len _ _ => bif okcs z then (match getCells h id with
    | some cs => (match splice off cs (rep z len) with | some cs => .ok .undef lo (h.set id (.cells cs)) | none => .fail)
    | none => .fail) else .fail
  | _ => .fail
/-- the first one, if the two point into two objects of the heap -/
def opNeqId (x y : Opd) : OpF := fun fr lo h => match x.ev fr with
  | .hptr a o => (match y.ev fr with
    | .hptr b _ => bif Nat.beq a b then .fail else .ok (.hptr a o) lo h
    | _ => .fail)
  | _ => .fail
def opFail : OpF := fun _ _ _ => .fail

def evOp (d : Nat) (o : VOp) : OpF := match o with
  | .mv x => opMv x
  | .pick c a b => opPick c a b
  | .alloc z => opAlloc d z
  | .allocH z => opAllocH z
  | .boxv x => opBoxv d x
  | .boxH x => opBoxH x
  | .build z ps => opBuild z ps
  | .lit z sz n ps => opLit z sz n ps
  | .load1 a => opLoad1 a
  | .loadA sz a => opLoadA sz a
  | .store sz a x => opStore sz a x
  | .nilck x => opNilck x
  | .eq n c x y => opEq n c x y
  | .bin op x y => opBin op x y
  | .not x => opNot x
  | .neg x => opNeg x
  | .convInt k x => opConvInt k x
  | .strMv x => opStrMv x
  | .slMv x => opSlMv x
  | .toBytes x => opToBytes x
  | .toStr x => opToStr x
  | .mkIface t x => opMkIface t x
  | .mkFunc fn a b => opMkFunc fn a b
  | .mkMap => opMkMap
  | .mkSlice z l c => opMkSlice z l c
  | .slice st sz x lo hi mx => opSlice st sz x lo hi mx
  | .fieldAddr off x => opFieldAddr off x
  | .field ag off sz x => opField ag off sz x
  | .idxAddr sz x i => opIdxAddr sz x i
  | .idxArr sz n x i => opIdxArr sz n x i
  | .index x i => opIndex x i
  | .indexA ag sz n x i => opIndexA ag sz n x i
  | .lookup kc z ok m k => opLookup kc z ok m k
  | .mapUpd kc m k x => opMapUpd kc m k x
  | .mapEnt z m k => opMapEnt z m k
  | .entStore m s x => opEntStore m s x
  | .extract i x => opExtract i x
  | .len c x => opLen c x
  | .cap x => opCap x
  | .max x y => opMax x y
  | .min x y => opMin x y
  | .append sz x y => opAppend sz x y
  | .appendZ z x n => opAppendZ z x n
  | .copy sz x y => opCopy sz x y
  | .clear z x => opClear z x
  | .neqId x y => opNeqId x y
  | .mkSliceF z l c => opMkSliceF z l c
  | .recover => fun _ lo h => .ok .nilIface lo h
  | .bad => opFail

inductive Out where
  | fail
  | norm (fr : List V) (lo : Lo) (h : H)
  | jump (j : Jump) (fr : List V) (lo : Lo) (h : H)
  | val (v : V) (h : H)
  deriving Inhabited

def findLabel : VCode → Nat → Option VCode
  | .seq a b, l => match findLabel a l with
    | some r => some (.seq r b)
    | none => findLabel b l
  | .label l', l => bif Nat.beq l' l then some .skip else none
  | _, _ => none

inductive Cmd where
  | code (c : VCode)
  | ops (l : List Ins)
  | draws (l : List Ins)
  | call (f : Nat) (args : List V)
  | app (f : V) (args : List V)
  | scope (c rest : VCode)
  deriving Inhabited

structure VFunc where
  nt : Nat
  results : List (Nat × Bool × Bool × Nat)
  ext : Nat
  body : VCode
  frz : Bool
  deriving Inhabited

def idxN (l : List Nat) (c : Nat) (i : Nat) : Option Nat := match l with
  | [] => none
  | b :: bs => bif Nat.beq b c then some i else idxN bs c (i + 1)
def idxV (o : Option Nat) : V := match o with | some i => .int .i64 (.ofNat i) | none => .int .i64 (-1)
def cntN (l : List Nat) (c : Nat) : Nat := match l with
  | [] => 0
  | b :: bs => bif Nat.beq b c then cntN bs c + 1 else cntN bs c
/-- the externs: 2 IndexByte, 3 IndexByteString, 4 Count -/
def ext (n : Nat) (args : List V) (h : H) : Out := match n, args with
  | 2, [b, .int .u8 (.ofNat c)] => bif Nat.blt c 256 then (match bytesIn h b with
    | some bs => .val (idxV (idxN bs c 0)) h
    | none => .fail) else .fail
  | 3, [.str b, .int .u8 (.ofNat c)] => bif Nat.blt c 256 then .val (idxV (idxN b c 0)) h else .fail
  | 4, [b, .int .u8 (.ofNat c)] => bif Nat.blt c 256 then (match bytesIn h b with
    | some bs => .val (.int .i64 (.ofNat (cntN bs c))) h
    | none => .fail) else .fail
  | _, _ => .fail

def putD (fr : List V) (d : Option Nat) (v : V) : List V := match d with | some t => lset fr t v | none => fr

def resV (fr : List V) (lo : Lo) (h : H) : List (Nat × Bool × Bool × Nat) → Option (List V)
  | [] => some []
  | (t, isCell, ag, sz) :: r =>
    let v : Option V := bif isCell then (match cellsAt (lget fr t) lo h with | some cs => mk ag (takeN sz cs) | none => none) else some (lget fr t)
    match v with
    | none => none
    | some v => bif isLoc v then none else (match resV fr lo h r with | some vs => some (v :: vs) | none => none)

abbrev Ih := Cmd → List V → Lo → H → Out

def kNorm (ih : Ih) (b : VCode) (o : Out) : Out := match o with
  | .norm fr lo h => ih (.code b) fr lo h
  | .jump j fr lo h => .jump j fr lo h
  | _ => .fail
def kBlock (id : Nat) (o : Out) : Out := match o with
  | .jump j fr lo h => (match j with
    | .exit id' => bif Nat.beq id' id then .norm fr lo h else .jump j fr lo h
    | _ => .jump j fr lo h)
  | o => o
def kScope (ih : Ih) (c : VCode) (o : Out) : Out := match o with
  | .jump j fr lo h => (match j with
    | .goto l => (match findLabel c l with | some r => ih (.scope c r) fr lo h | none => .jump j fr lo h)
    | _ => .jump j fr lo h)
  | o => o
def noLoc : List V → List V
  | [] => []
  | v :: vs => (match v with | .lptr _ _ => .undef | v => v) :: noLoc vs
def getLoop (h : H) (id : Nat) : Option VLoop := match h.get id with
  | some o => (match o with | .loop l => some l | _ => none)
  | none => none
def kRange (l : Nat) (fr : List V) (lo : Lo) (o : Out) : Out := match o with
  | .val _ h => (match getLoop h l with
    | some lp => bif Nat.beq lp.st 1 then .fail else (match lp.pending with
      | none => .norm fr lo (h.del l)
      | some j => .jump j fr lo (h.del l))
    | none => .fail)
  | _ => .fail
def stRange (ih : Ih) (f : Opd) (ps : List Nat) (a b : VCode) (fr : List V) (lo : Lo) (h : H) : Out := match f.ev fr with
  | .func fn first caps => (match fn with
    | .func q => kRange h.next fr lo (ih (.call q (first ++ (.func (.yield h.next) [] [] :: caps))) [] [] (h.new (.loop ⟨0, none, noLoc fr, ps, a, b⟩)))
    | _ => .fail)
  | _ => .fail
def kCond (ih : Ih) (c : V) (a b : VCode) (fr : List V) (lo : Lo) (h : H) : Out := match c with
  | .bool t => bif t then ih (.code a) fr lo h else ih (.code b) fr lo h
  | _ => .fail

def stCode (ih : Ih) (c : VCode) : List V → Lo → H → Out := match c with
  | .skip => .norm
  | .label _ => .norm
  | .region ops => ih (.ops ops)
  | .draw ops => ih (.draws ops)
  | .seq a b => fun fr lo h => kNorm ih b (ih (.code a) fr lo h)
  | .cond c a b => fun fr lo h => kCond ih (c.ev fr) a b fr lo h
  | .block id c => fun fr lo h => kBlock id (ih (.code c) fr lo h)
  | .loop c => fun fr lo h => kNorm ih (.loop c) (ih (.code c) fr lo h)
  | .exit id => .jump (.exit id)
  | .goto l => .jump (.goto l)
  | .ret => .jump .ret
  | .scope c => ih (.scope c c)
  | .rangeFunc f ps a b => stRange ih f ps a b

def kPut (ih : Ih) (os : List Ins) (fr : List V) (d : Option Nat) (o : OR) : Out := match o with
  | .ok v lo h => ih (.ops os) (putD fr d v) lo h
  | .fail => .fail
def kAlloc (ih : Ih) (os : List Ins) (fr : List V) (d : Nat) (o : OR) : Out := match o with
  | .ok v lo h => ih (.ops os) (lset (killL d fr) d v) lo h
  | .fail => .fail
def kVal (ih : Ih) (os : List Ins) (fr : List V) (lo : Lo) (d : Option Nat) (o : Out) : Out := match o with
  | .val v h => ih (.ops os) (putD fr d v) lo h
  | _ => .fail
def eqO : Option Nat → Option Nat → Bool
  | none, none => true
  | some a, some b => Nat.beq a b
  | _, _ => false
mutual
/-- sameness of values; true only if they are one -/
def eqD : V → V → Bool
  | .undef, .undef => true
  | .bool a, .bool b => bif a then b else !b
  | .int k a, .int l b => eqK k l && eqI a b
  | .str a, .str b => bytesEq a b
  | .nilPtr, .nilPtr => true
  | .lptr a b, .lptr c d => Nat.beq a c && Nat.beq b d
  | .hptr a b, .hptr c d => Nat.beq a c && Nat.beq b d
  | .fptr a, .fptr b => eqDs a b
  | .nilSl, .nilSl => true
  | .list a x, .list b y => (bif x then y else !y) && eqDs a b
  | .hsl a b c x d, .hsl a' b' c' x' d' => Nat.beq a a' && Nat.beq b b' && Nat.beq c c' && Nat.beq d d' && eqO x x'
  | .nilMap, .nilMap => true
  | .map a, .map b => Nat.beq a b
  | .nilFunc, .nilFunc => true
  | .func (.func f) a b, .func (.func g) c d => Nat.beq f g && eqDs a c && eqDs b d
  | .nilIface, .nilIface => true
  | .agg a, .agg b => eqDs a b
  | .tuple a, .tuple b => eqDs a b
  | _, _ => false
def eqDs : List V → List V → Bool
  | [], [] => true
  | a :: as, b :: bs => eqD a b && eqDs as bs
  | _, _ => false
end
def memN (n : Nat) : List Nat → Bool
  | [] => false
  | x :: xs => Nat.beq x n || memN n xs
def idleV (ids : List Nat) (v : V) : Bool := match v with | .func fn _ _ => (match fn with | .func g => memN g ids | _ => false) | _ => false
def isAlloc (o : VOp) : Bool := match o with | .alloc _ => true | .boxv _ => true | _ => false
def stI (ih : Ih) (os : List Ins) (i : Ins) : List V → Lo → H → Out := match i with
  | .op d o => (match d with
    | some t => bif isAlloc o then (fun fr lo h => kAlloc ih os fr t (evOp t o fr lo h)) else (fun fr lo h => kPut ih os fr d (evOp t o fr lo h))
    | none => bif isAlloc o then (fun _ _ _ => .fail) else fun fr lo h => kPut ih os fr none (evOp 0 o fr lo h))
  | .call d f args => fun fr lo h => bif anyLoc (Opd.evs args fr) then .fail else kVal ih os fr lo d (ih (.call f (Opd.evs args fr)) [] [] h)
  | .dyn d f args => fun fr lo h => bif anyLoc (Opd.evs args fr) then .fail else kVal ih os fr lo d (ih (.app (f.ev fr) (Opd.evs args fr)) [] [] h)
  | .defer ids f _ => fun fr lo h => bif idleV ids (f.ev fr) then ih (.ops os) fr lo h else .fail
  | .grd _ _ _ _ => fun _ _ _ => .fail
  | .chk _ _ _ => fun _ _ _ => .fail
def stGrd (ih : Ih) (os : List Ins) (t : Nat) (b : Bool) (d : Option Nat) (i : Ins) (fr : List V) (lo : Lo) (h : H) : Out := match lget fr t with
  | .bool c => bif (bif b then c else !c) then stI ih os i fr lo h else ih (.ops os) (putD fr d (.tuple [])) lo h
  | .tuple vs => (match vs with | [] => ih (.ops os) (putD fr d (.tuple [])) lo h | _ :: _ => .fail)
  | _ => .fail
def stIns (ih : Ih) (os : List Ins) (i : Ins) : List V → Lo → H → Out := match i with
  | .grd t b d i => stGrd ih os t b d i
  | i => stI ih os i
/-- the operation is done again: nothing is another one -/
def chkOp (t : Nat) (o : VOp) (fr : List V) (lo : Lo) (h : H) : Bool := match evOp t o fr lo h with
  | .ok v _ _ => eqD v (lget fr t)
  | .fail => false
def chkG (g : Option (Nat × Bool)) (t : Nat) (o : VOp) (fr : List V) (lo : Lo) (h : H) : Bool := match g with
  | none => chkOp t o fr lo h
  | some (s, b) => (match lget fr s with
    | .bool c => bif (bif b then c else !c) then chkOp t o fr lo h else eqD (.tuple []) (lget fr t)
    | .tuple vs => (match vs with | [] => eqD (.tuple []) (lget fr t) | _ :: _ => false)
    | _ => false)
/-- the operations of a region that draws, one behind the other -/
def ihN (ih : Ih) : Ih := fun c fr lo h => match c with
  | .ops _ => .norm fr lo h
  | c => ih c fr lo h
def kRun (k : List V → Lo → H → Out) (o : Out) : Out := match o with
  | .norm fr lo h => k fr lo h
  | _ => .fail
def stRun (ih : Ih) (i : Ins) (k : List V → Lo → H → Out) : List V → Lo → H → Out := match i with
  | .chk g t o => fun fr lo h => bif chkG g t o fr lo h then k fr lo h else .fail
  | i => fun fr lo h => kRun k (stIns (ihN ih) [] i fr lo h)
def runIs (ih : Ih) : List Ins → List V → Lo → H → Out
  | [] => .norm
  | i :: is => stRun ih i (runIs ih is)
def stOps (ih : Ih) (l : List Ins) : List V → Lo → H → Out := match l with
  | [] => .norm
  | i :: os => stIns ih os i

def setSt (l st : Nat) (pend : Option Jump) (lp : VLoop) (h : H) : H := h.set l (.loop ⟨st, pend, lp.fr, lp.params, lp.assign, lp.body⟩)
def kRound2 (l : Nat) (o : Out) : Out := match o with
  | .norm _ _ h => (match getLoop h l with | some lp => .val (.bool true) (setSt l 0 none lp h) | none => .fail)
  | .jump j _ _ h => (match getLoop h l with | some lp => .val (.bool false) (setSt l 2 (some j) lp h) | none => .fail)
  | _ => .fail
def kRound (ih : Ih) (l : Nat) (body : VCode) (o : Out) : Out := match o with
  | .norm fr lo h => (match getLoop h l with
    | some lp => bif Nat.beq lp.st 0 then kRound2 l (ih (.code body) fr lo (setSt l 1 lp.pending lp h)) else .fail
    | none => .fail)
  | _ => .fail
def setPs : List Nat → List V → List V → Option (List V)
  | [], [], fr => some fr
  | t :: ts, v :: vs, fr => setPs ts vs (lset fr t v)
  | _, _, _ => none
def stYield (ih : Ih) (l : Nat) (args : List V) (h : H) : Out := match getLoop h l with
  | some lp => bif Nat.beq lp.st 0 then (match setPs lp.params args lp.fr with
      | some fr => kRound ih l lp.body (ih (.code lp.assign) fr [] h)
      | none => .fail) else .fail
  | none => .fail
def stApp (ih : Ih) (f : V) (args : List V) : List V → Lo → H → Out := match f with
  | .func fn first caps => (match fn with
    | .func g => ih (.call g (first ++ (args ++ caps)))
    | .yield l => (match first with | [] => fun _ _ h => stYield ih l args h | _ :: _ => fun _ _ _ => .fail)
    | _ => fun _ _ _ => .fail)
  | _ => fun _ _ _ => .fail

def toRes (vs : List V) : V := match vs with | [v] => v | vs => .tuple vs
def finish (fn : VFunc) (o : Option (List V)) (h : H) : Out := match o with
  | some vs => bif fn.frz then (match frz (toRes vs) h with | (v, h) => .val v h) else .val (toRes vs) h
  | none => .fail
def leave (fn : VFunc) (fr : List V) (lo : Lo) (h : H) : Out := finish fn (resV fr lo h fn.results) h
def kBody (fn : VFunc) (o : Out) : Out := match o with
  | .norm fr lo h => leave fn fr lo h
  | .jump j fr lo h => (match j with | .ret => leave fn fr lo h | _ => .fail)
  | _ => .fail
def pad (n : Nat) : List V → List V := match n with
  | 0 => fun xs => xs
  | n + 1 => fun xs => match xs with
    | [] => .undef :: pad n []
    | x :: xs => x :: pad n xs
def stCall (fns : Nat → Option VFunc) (ih : Ih) (f : Nat) (args : List V) (h : H) : Out := match fns f with
  | none => .fail
  | some fn => bif Nat.beq fn.ext 0 then kBody fn (ih (.code fn.body) (pad fn.nt args) [] h) else ext fn.ext args h

def step (fns : Nat → Option VFunc) (ih : Ih) (c : Cmd) : List V → Lo → H → Out := match c with
  | .code c => stCode ih c
  | .ops l => stOps ih l
  | .draws l => runIs ih l
  | .call f args => fun _ _ h => stCall fns ih f args h
  | .app f args => stApp ih f args
  | .scope c r => fun fr lo h => kScope ih c (ih (.code r) fr lo h)

def runF (fns : Nat → Option VFunc) : Nat → Ih
  | 0, _, _, _, _ => .fail
  | n + 1, c, fr, lo, h => step fns (runF fns n) c fr lo h

/-- No range over a function within, and no defer statement. -/
def flat : Code → Bool
  | .rangeFunc .. => false
  | .region _ ops _ => ops.all fun o => match o.op with | .defer _ => false | _ => true
  | .seq a b => flat a && flat b
  | .cond _ a b => flat a && flat b
  | .block _ c => flat c
  | .loop c => flat c
  | .scope c => flat c
  | _ => true


/-! ### Which slots an operation looks at; classes of operations -/
def Opd.slots : Opd → List Nat
  | .tmp t => [t]
  | .const _ => []
def slotsO : Option Opd → List Nat
  | none => []
  | some x => x.slots
def slotsL : List Opd → List Nat
  | [] => []
  | x :: xs => x.slots ++ slotsL xs
def slotsP : List (Nat × Nat × Opd) → List Nat
  | [] => []
  | (_, _, x) :: ps => x.slots ++ slotsP ps
def VOp.slots : VOp → List Nat
  | .mv x | .boxv x | .boxH x | .load1 x | .loadA _ x | .nilck x | .not x | .neg x | .convInt _ x | .strMv x | .slMv x | .toBytes x | .toStr x | .mkIface _ x | .fieldAddr _ x | .field _ _ _ x | .extract _ x | .len _ x | .cap x | .clear _ x => x.slots
  | .alloc _ | .allocH _ | .mkMap | .recover | .bad => []
  | .pick a b c | .mapUpd _ a b c | .entStore a b c => a.slots ++ (b.slots ++ c.slots)
  | .build _ ps | .lit _ _ _ ps => slotsP ps
  | .store _ x y | .eq _ _ x y | .bin _ x y | .idxAddr _ x y | .idxArr _ _ x y | .index x y | .indexA _ _ _ x y | .lookup _ _ _ x y | .mapEnt _ x y | .max x y | .min x y | .append _ x y | .appendZ _ x y | .copy _ x y | .mkSlice _ x y | .neqId x y | .mkSliceF _ x y => x.slots ++ y.slots
  | .mkFunc _ a b => slotsL a ++ slotsL b
  | .slice _ _ x a b c => x.slots ++ (slotsO a ++ (slotsO b ++ slotsO c))
/-- 0: nothing of memory is looked at; 1: it is looked at; 2: an effect -/
def VOp.cls : VOp → Nat
  | .mv _ | .pick _ _ _ | .build _ _ | .lit _ _ _ _ | .nilck _ | .bin _ _ _ | .not _ | .neg _ | .convInt _ _ | .strMv _ | .slMv _ | .toBytes _ | .mkIface _ _ | .mkFunc _ _ _ | .slice _ _ _ _ _ _ | .fieldAddr _ _ | .field _ _ _ _ | .idxAddr _ _ _ | .idxArr _ _ _ _ | .index _ _ | .indexA _ _ _ _ _ | .extract _ _ | .cap _ | .max _ _ | .min _ _ => 0
  | .eq _ c _ _ => bif Nat.beq c 2 then 1 else 0
  | .len c _ => bif Nat.beq c 2 then 1 else 0
  | .load1 _ | .loadA _ _ | .toStr _ | .lookup _ _ _ _ _ => 1
  | _ => 2
def Ins.slots : Ins → List Nat
  | .op _ o => o.slots
  | .call _ _ l => slotsL l
  | .dyn _ f l => f.slots ++ slotsL l
  | .defer _ f l => f.slots ++ slotsL l
  | .grd t _ _ i => t :: i.slots
  | .chk _ _ o => o.slots
def Ins.dst : Ins → Option Nat
  | .op d _ => d
  | .call d _ _ => d
  | .dyn d _ _ => d
  | .defer _ _ _ => none
  | .grd _ _ d _ => d
  | .chk _ _ _ => none
def disj (a b : List Nat) : Bool := match a with
  | [] => true
  | x :: xs => !(memN x b) && disj xs b
end Go.Vx
end
noncomputable section
open Go
namespace Go.Vx

theorem beqF {a b : Nat} (h : a ≠ b) : Nat.beq a b = false := by
  cases hq : Nat.beq a b with
  | true => exact absurd (Nat.eq_of_beq_eq_true hq) h
  | false => rfl
theorem beqT (a : Nat) : Nat.beq a a = true := Nat.beq_refl a

theorem T.get_putGo {α : Type} (o : Option α) : ∀ (n : Nat) (t : T α) (i j : Nat), i < n → (T.putGo o n t i).get j = if i = j then o else t.get j := by
  intro n
  induction n with
  | zero => intro t i j h; omega
  | succ n ih =>
    intro t i j h
    have hp : ∀ (l r : T α) (p : Option α), (bif Nat.beq i 0 then T.node o l r else bif Nat.beq (i % 2) 1 then .node p (T.putGo o n l (i / 2)) r else .node p l (T.putGo o n r (i / 2 - 1))).get j
        = if i = j then o else (T.node p l r).get j := by
      intro l r p
      by_cases h0 : i = 0
      · subst h0
        by_cases hj : j = 0
        · subst hj; simp [T.get]
        · have hb : Nat.beq j 0 = false := beqF hj
          simp [T.get, hb, Ne.symm hj]
      · have hb : Nat.beq i 0 = false := beqF h0
        by_cases hm : i % 2 = 1
        · have hm' : Nat.beq (i % 2) 1 = true := by simp [hm]
          simp only [hb, hm', cond_false, cond_true, T.get]
          by_cases hj : j = 0
          · subst hj; simp [h0]
          · have hjb : Nat.beq j 0 = false := beqF hj
            simp only [hjb, cond_false]
            by_cases hjm : j % 2 = 1
            · have hjm' : Nat.beq (j % 2) 1 = true := by simp [hjm]
              simp only [hjm', cond_true]
              rw [ih _ _ _ (by omega)]
              by_cases e : i = j
              · subst e; simp
              · have : ¬ i / 2 = j / 2 := by omega
                simp [e, this]
            · have hjm' : Nat.beq (j % 2) 1 = false := by
                cases hq : Nat.beq (j % 2) 1 with
                | true => exact absurd (Nat.eq_of_beq_eq_true hq) hjm
                | false => rfl
              simp only [hjm', cond_false]
              have : ¬ i = j := by intro e; subst e; exact hjm hm
              simp [this]
        · have hm' : Nat.beq (i % 2) 1 = false := by
            cases hq : Nat.beq (i % 2) 1 with
            | true => exact absurd (Nat.eq_of_beq_eq_true hq) hm
            | false => rfl
          simp only [hb, hm', cond_false, T.get]
          by_cases hj : j = 0
          · subst hj; simp [h0]
          · have hjb : Nat.beq j 0 = false := beqF hj
            simp only [hjb, cond_false]
            by_cases hjm : j % 2 = 1
            · have hjm' : Nat.beq (j % 2) 1 = true := by simp [hjm]
              simp only [hjm', cond_true]
              have : ¬ i = j := by intro e; subst e; exact hm hjm
              simp [this]
            · have hjm' : Nat.beq (j % 2) 1 = false := by
                cases hq : Nat.beq (j % 2) 1 with
                | true => exact absurd (Nat.eq_of_beq_eq_true hq) hjm
                | false => rfl
              simp only [hjm', cond_false]
              rw [ih _ _ _ (by omega)]
              by_cases e : i = j
              · subst e; simp
              · have : ¬ i / 2 - 1 = j / 2 - 1 := by omega
                simp [e, this]
    cases t with
    | leaf =>
      have := hp .leaf .leaf none
      have hl : (T.node none .leaf .leaf : T α).get j = T.leaf.get j := by
        simp only [T.get]
        cases Nat.beq j 0 <;> cases Nat.beq (j % 2) 1 <;> rfl
      rw [hl] at this
      exact this
    | node p l r => exact hp l r p

theorem H.get_set (h : H) (i j : Nat) (o : Obj) : (h.set i o).get j = if i = j then some o else h.get j := T.get_putGo _ _ _ _ _ (Nat.lt_succ_self i)
theorem H.get_del (h : H) (i j : Nat) : (h.del i).get j = if i = j then none else h.get j := T.get_putGo _ _ _ _ _ (Nat.lt_succ_self i)
theorem H.get_new (h : H) (j : Nat) (o : Obj) : (h.new o).get j = if h.next = j then some o else h.get j := T.get_putGo _ _ _ _ _ (Nat.lt_succ_self h.next)
@[simp] theorem H.next_set (h : H) (i : Nat) (o : Obj) : (h.set i o).next = h.next := rfl
@[simp] theorem H.next_del (h : H) (i : Nat) : (h.del i).next = h.next := rfl
@[simp] theorem H.next_new (h : H) (o : Obj) : (h.new o).next = h.next + 1 := rfl

/-- What a run knows of a world: which block each number of the heap's stands for and how many cells it has; which cells will never be written again. -/
structure G where
  ρ : Nat → Option (Nat × Nat)
  φ : Nat → Nat → Option Value

structure G.le (g g' : G) : Prop where
  ρ : ∀ i x, g.ρ i = some x → g'.ρ i = some x
  φ : ∀ b o v, g.φ b o = some v → g'.φ b o = some v
theorem G.le.refl (g : G) : g.le g := ⟨fun _ _ h => h, fun _ _ _ h => h⟩
theorem G.le.trans {a b c : G} (h : a.le b) (k : b.le c) : a.le c := ⟨fun i x e => k.ρ i x (h.ρ i x e), fun b o v e => k.φ b o v (h.φ b o v e)⟩

inductive Rf (g : G) : Fn → Fn → Prop
  | func (f : FuncId) : Rf g (.func f) (.func f)
  | yield {i b n : Nat} (h : g.ρ i = some (b, n)) : Rf g (.yield i) (.yield b)

inductive Rv (g : G) : V → Value → Prop
  | undef (w : Value) : Rv g .undef w
  | bool (b : Bool) : Rv g (.bool b) (.bool b)
  | int (k : IntKind) (n : Int) : Rv g (.int k n) (.int k n)
  | str (bs : ByteArray) : Rv g (.str (bs.data.toList.map UInt8.toNat)) (.string bs)
  | nilPtr : Rv g .nilPtr (.pointer none)
  | hptr {i b n : Nat} (off : Nat) (h : g.ρ i = some (b, n)) : Rv g (.hptr i off) (.pointer (some ⟨b, off, none⟩))
  | fptr {cs : List V} {b o : Nat} (vs : Nat → Value) (h : ∀ (j : Nat) (c : V), cs[j]? = some c → g.φ b (o + j) = some (vs j)) (hr : ∀ (j : Nat) (c : V), cs[j]? = some c → Rv g c (vs j)) : Rv g (.fptr cs) (.pointer (some ⟨b, o, none⟩))
  | nilSl : Rv g .nilSl (.slice none 0 0)
  | list {xs : List V} {ex : Bool} {b o cap : Nat} (k : Nat) (vs : Nat → Nat → Value) (hk : ∀ x ∈ xs, x.cells.length = k) (hc : xs.length ≤ cap) (he : ex = true → cap = xs.length)
      (h : ∀ (i : Nat) (x : V) (j : Nat) (c : V), xs[i]? = some x → x.cells[j]? = some c → g.φ b (o + i * k + j) = some (vs i j)) (hr : ∀ (i : Nat) (x : V) (j : Nat) (c : V), xs[i]? = some x → x.cells[j]? = some c → Rv g c (vs i j)) :
      Rv g (.list xs ex) (.slice (some ⟨b, o, none⟩) xs.length cap)
  | hsl {i b n off len sz c' : Nat} {cap : Option Nat} (h : g.ρ i = some (b, n)) (hl : len ≤ c') (hc : ∀ c, cap = some c → c' = c) (hn : off + c' * sz ≤ n) :
      Rv g (.hsl i off len cap sz) (.slice (some ⟨b, off, none⟩) len c')
  | nilMap : Rv g .nilMap (.map none)
  | map {i b n : Nat} (h : g.ρ i = some (b, n)) : Rv g (.map i) (.map (some b))
  | nilFunc : Rv g .nilFunc .nilFunc
  | func {fn fn' : Fn} {as bs : List V} {As Bs : Array Value} (hf : Rf g fn fn') (ha : as.length = As.size) (hb : bs.length = Bs.size)
      (has : ∀ (i : Nat) (v : V) (w : Value), as[i]? = some v → As[i]? = some w → Rv g v w) (hbs : ∀ (i : Nat) (v : V) (w : Value), bs[i]? = some v → Bs[i]? = some w → Rv g v w) : Rv g (.func fn as bs) (.func fn' As Bs)
  | nilIface : Rv g .nilIface .nilIface
  | iface {v : V} {w : Value} (t : TypeId) (h : Rv g v w) : Rv g (.iface t v) (.iface t w)
  | agg {cs : List V} {A : Array Value} (hl : cs.length = A.size) (h : ∀ (i : Nat) (v : V) (w : Value), cs[i]? = some v → A[i]? = some w → Rv g v w) : Rv g (.agg cs) (.agg A)
  | tuple {cs : List V} {A : Array Value} (hl : cs.length = A.size) (h : ∀ (i : Nat) (v : V) (w : Value), cs[i]? = some v → A[i]? = some w → Rv g v w) : Rv g (.tuple cs) (.tuple A)

theorem Rf.mono {g g' : G} (hg : g.le g') {f f' : Fn} (h : Rf g f f') : Rf g' f f' := by
  cases h with
  | func f => exact .func f
  | yield h => exact .yield (hg.ρ _ _ h)

theorem Rv.mono {g g' : G} (hg : g.le g') {v : V} {w : Value} (h : Rv g v w) : Rv g' v w := by
  induction h with
  | undef w => exact .undef w
  | bool b => exact .bool b
  | int k n => exact .int k n
  | str bs => exact .str bs
  | nilPtr => exact .nilPtr
  | hptr off h => exact .hptr off (hg.ρ _ _ h)
  | fptr vs h hr ih => exact .fptr vs (fun j c e => hg.φ _ _ _ (h j c e)) ih
  | nilSl => exact .nilSl
  | list k vs hk hc he h hr ih => exact .list k vs hk hc he (fun i x j c e e' => hg.φ _ _ _ (h i x j c e e')) ih
  | hsl h hl hc hn => exact .hsl (hg.ρ _ _ h) hl hc hn
  | nilMap => exact .nilMap
  | map h => exact .map (hg.ρ _ _ h)
  | nilFunc => exact .nilFunc
  | func hf ha hb has hbs i1 i2 => exact .func (hf.mono hg) ha hb i1 i2
  | nilIface => exact .nilIface
  | iface t h ih => exact .iface t ih
  | agg hl h ih => exact .agg hl ih
  | tuple hl h ih => exact .tuple hl ih

/-- Lists of values, place by place. -/
def Rvs (g : G) (vs : List V) (ws : List Value) : Prop := vs.length = ws.length ∧ ∀ (i : Nat) (v : V) (w : Value), vs[i]? = some v → ws[i]? = some w → Rv g v w
theorem Rvs.mono {g g' : G} (hg : g.le g') {v : List V} {w : List Value} (h : Rvs g v w) : Rvs g' v w := ⟨h.1, fun i v w a b => (h.2 i v w a b).mono hg⟩
theorem Rvs.nil (g : G) : Rvs g [] [] := ⟨rfl, fun i v w h => by simp at h⟩
theorem Rvs.cons {g : G} {v : V} {w : Value} {vs : List V} {ws : List Value} (h : Rv g v w) (hs : Rvs g vs ws) : Rvs g (v :: vs) (w :: ws) :=
  ⟨by simp [hs.1], fun i x y a b => by
    cases i with
    | zero => simp at a b; subst a; subst b; exact h
    | succ i => simp at a b; exact hs.2 i x y a b⟩
theorem Rvs.uncons {g : G} {v : V} {vs : List V} {W : List Value} (h : Rvs g (v :: vs) W) : ∃ w ws, W = w :: ws ∧ Rv g v w ∧ Rvs g vs ws := by
  obtain ⟨hl, hh⟩ := h
  cases W with
  | nil => simp at hl
  | cons w ws => exact ⟨w, ws, rfl, hh 0 v w rfl rfl, by simpa using hl, fun i x y a b => hh (i + 1) x y (by simpa using a) (by simpa using b)⟩
theorem Rvs.unnil {g : G} {W : List Value} (h : Rvs g [] W) : W = [] := by
  cases W with
  | nil => rfl
  | cons w ws => have := h.1; simp at this
theorem Rvs.append {g : G} {a b : List V} {A B : List Value} (h : Rvs g a A) (k : Rvs g b B) : Rvs g (a ++ b) (A ++ B) := by
  induction a generalizing A with
  | nil => rw [h.unnil]; exact k
  | cons x xs ih => obtain ⟨w, ws, rfl, hx, hs⟩ := h.uncons; exact .cons hx (ih hs)
theorem Rvs.get {g : G} {vs : List V} {ws : List Value} (h : Rvs g vs ws) {i : Nat} {v : V} (hv : vs[i]? = some v) : ∃ w, ws[i]? = some w ∧ Rv g v w := by
  have hi : i < vs.length := (List.getElem?_eq_some_iff.1 hv).1
  have hi' : i < ws.length := by rw [← h.1]; exact hi
  exact ⟨ws[i], List.getElem?_eq_getElem hi', h.2 i v _ hv (List.getElem?_eq_getElem hi')⟩
theorem Rv.agg_iff {g : G} {cs : List V} {W : Value} (h : Rv g (.agg cs) W) : ∃ A, W = .agg A ∧ Rvs g cs A.toList := by
  cases h with
  | agg hl h => exact ⟨_, rfl, by simpa using hl, fun i v w a b => h i v w a (by simpa using b)⟩
theorem Rv.tuple_iff {g : G} {cs : List V} {W : Value} (h : Rv g (.tuple cs) W) : ∃ A, W = .tuple A ∧ Rvs g cs A.toList := by
  cases h with
  | tuple hl h => exact ⟨_, rfl, by simpa using hl, fun i v w a b => h i v w a (by simpa using b)⟩
theorem Rv.mkAgg {g : G} {cs : List V} {A : Array Value} (h : Rvs g cs A.toList) : Rv g (.agg cs) (.agg A) :=
  .agg (by simpa using h.1) (fun i v w a b => h.2 i v w a (by simpa using b))
theorem Rv.mkTuple {g : G} {cs : List V} {A : Array Value} (h : Rvs g cs A.toList) : Rv g (.tuple cs) (.tuple A) :=
  .tuple (by simpa using h.1) (fun i v w a b => h.2 i v w a (by simpa using b))
/-- The cells of a value that is known. -/
theorem Rv.cells {g : G} {v : V} {w : Value} (h : Rv g v w) (hu : v ≠ .undef) : Rvs g v.cells w.cells.toList := by
  have h0 := h
  cases h with
  | agg hl h => exact ⟨by simpa [V.cells, Value.cells] using hl, fun i v w a b => h i v w a (by simpa [Value.cells] using b)⟩
  | undef w => exact absurd rfl hu
  | _ => exact Rvs.cons h0 (.nil _)

/-! ### Worlds -/

/-- What a number of the heap's stands for. -/
def Ro (P : Program) (comp : FuncId → Code → VCode) (g : G) (ob : Obj) (b n : Nat) (w : World) : Prop :=
  match ob with
  | .cells cs => ∃ (c : Array Value) (e : TypeId), w.heap[b]? = some (.cells c e (0, 0)) ∧ c.size = n ∧ cs.length ≤ n ∧
      (∀ (j : Nat) (x : V), cs[j]? = some x → ∃ v, c[j]? = some v ∧ Rv g x v)
  | .map es => ∃ ents : Array MapEntry, w.heap[b]? = some (.map ents ents.size) ∧ ents.size = es.length ∧
      (∀ (i : Nat) (k x : V), es[i]? = some (k, x) → ∃ e, ents[i]? = some e ∧ Rv g k e.key ∧ Rv g x e.val ∧ e.born = i)
  | .loop l => ∃ L : Loop, w.heap[b]? = some (.loop L) ∧ (L.state = match l.st with | 0 => .ready | 1 => .busy | 2 => .done | _ => .exhausted) ∧
      (L.pending = l.pending.map fun | .ret => .ret | .exit i => .exit i | .goto i => .goto i) ∧ Rvs g l.fr L.tmps.toList ∧ L.params.toList = l.params ∧ ∃ f, comp f L.assign = l.assign ∧ comp f L.body = l.body ∧ flat L.assign = true ∧ flat L.body = true

structure Rw (P : Program) (comp : FuncId → Code → VCode) (g : G) (σ : H) (w : World) : Prop where
  frozen : ∀ b o v, g.φ b o = some v → w.cell? ⟨b, o, none⟩ = some v
  objs : ∀ i ob, σ.get i = some ob → ∃ b n, g.ρ i = some (b, n) ∧ Ro P comp g ob b n w ∧ ∀ o, g.φ b o = none
  inj : ∀ i j b n m, (σ.get i).isSome = true → (σ.get j).isSome = true → g.ρ i = some (b, n) → g.ρ j = some (b, m) → i = j
  fresh : ∀ i, σ.next ≤ i → g.ρ i = none ∧ σ.get i = none
  bound : ∀ i b n, g.ρ i = some (b, n) → b < w.heap.size

/-- A block that a living number stands for. -/
def Live (g : G) (σ : H) (b : Nat) : Prop := ∃ i n, (σ.get i).isSome = true ∧ g.ρ i = some (b, n)

/-- What a piece of a run leaves as it was: whatever is no living block of the heap's (and, of the local boxes, nothing that B names). -/
structure Frm (g : G) (σ : H) (B : Nat → Prop) (w w' : World) : Prop where
  os : w'.os = w.os
  tape : w'.tape = w.tape
  output : w'.output = w.output
  size : w.heap.size ≤ w'.heap.size
  block : ∀ k, k < w.heap.size → ¬ Live g σ k → ¬ B k → (∀ o, g.φ k o = none) → w'.heap[k]? = w.heap[k]?

theorem Ro.mono {P : Program} {comp : FuncId → Code → VCode} {g g' : G} (hg : g.le g') {ob : Obj} {b n : Nat} {w w' : World} (hb : w'.heap[b]? = w.heap[b]?) (h : Ro P comp g ob b n w) : Ro P comp g' ob b n w' := by
  cases ob with
  | cells cs =>
    obtain ⟨c, e, h1, h2, h3, h4⟩ := h
    exact ⟨c, e, hb.trans h1, h2, h3, fun j x hx => let ⟨v, a, r⟩ := h4 j x hx; ⟨v, a, r.mono hg⟩⟩
  | map es =>
    obtain ⟨ents, h1, h2, h3⟩ := h
    exact ⟨ents, hb.trans h1, h2, fun i k x hx => let ⟨e, a, r, s, t⟩ := h3 i k x hx; ⟨e, a, r.mono hg, s.mono hg, t⟩⟩
  | loop l =>
    obtain ⟨L, h1, h2, h3, h4, h5⟩ := h
    exact ⟨L, hb.trans h1, h2, h3, h4.mono hg, h5⟩
end Go.Vx
end
noncomputable section
open Go Go.RowKit
namespace Go.Vx

def G.bind (g : G) (i : Nat) (x : Nat × Nat) : G := { g with ρ := fun j => if j = i then some x else g.ρ j }
def G.freeze (g : G) (b : Nat) (c : Array Value) : G := { g with φ := fun b' o => if b' = b then c[o]? else g.φ b' o }

theorem G.le_bind {g : G} {i : Nat} (x : Nat × Nat) (h : g.ρ i = none) : g.le (g.bind i x) :=
  ⟨fun j y e => by
    by_cases hj : j = i
    · subst hj; rw [h] at e; cases e
    · simp [G.bind, hj, e], fun _ _ _ e => e⟩
theorem G.le_freeze {g : G} {b : Nat} (c : Array Value) (h : ∀ o, g.φ b o = none) : g.le (g.freeze b c) :=
  ⟨fun _ _ e => e, fun b' o v e => by
    by_cases hb : b' = b
    · subst hb; rw [h] at e; cases e
    · simp [G.freeze, hb, e]⟩
@[simp] theorem G.bind_same (g : G) (i : Nat) (x : Nat × Nat) : (g.bind i x).ρ i = some x := by simp [G.bind]
theorem G.bind_other {g : G} {i j : Nat} (x : Nat × Nat) (h : j ≠ i) : (g.bind i x).ρ j = g.ρ j := by simp [G.bind, h]
@[simp] theorem G.bind_phi (g : G) (i : Nat) (x : Nat × Nat) : (g.bind i x).φ = g.φ := rfl
@[simp] theorem G.freeze_rho (g : G) (b : Nat) (c : Array Value) : (g.freeze b c).ρ = g.ρ := rfl
theorem G.freeze_same (g : G) (b : Nat) (c : Array Value) (o : Nat) : (g.freeze b c).φ b o = c[o]? := by simp [G.freeze]
theorem G.freeze_other {g : G} {b b' : Nat} (c : Array Value) (o : Nat) (h : b' ≠ b) : (g.freeze b c).φ b' o = g.φ b' o := by simp [G.freeze, h]

theorem cell_of_block {w w' : World} {a : Addr} (h : w'.heap[a.block]? = w.heap[a.block]?) : w'.cell? a = w.cell? a := by
  unfold World.cell?; rw [h]
theorem block_of_cell {w : World} {a : Addr} {v : Value} (h : w.cell? a = some v) : a.block < w.heap.size := by
  unfold World.cell? at h
  cases hh : w.heap[a.block]? with
  | none => rw [hh] at h; simp at h
  | some o => exact (Array.getElem?_eq_some_iff.1 hh).1
theorem cell_of_obj {w : World} {b : Nat} {c : Array Value} {e : TypeId} {fz : Nat × Nat} (h : w.heap[b]? = some (.cells c e fz)) (o : Nat) : w.cell? ⟨b, o, none⟩ = c[o]? := by
  simp [World.cell?, h]

variable {P : Program} {comp : FuncId → Code → VCode} {g : G} {σ : H} {w w' : World}

theorem Ro.lt {ob : Obj} {b n : Nat} (h : Ro P comp g ob b n w) : b < w.heap.size := by
  cases ob with
  | cells cs => obtain ⟨c, e, h1, _⟩ := h; exact (Array.getElem?_eq_some_iff.1 h1).1
  | map es => obtain ⟨ents, h1, _⟩ := h; exact (Array.getElem?_eq_some_iff.1 h1).1
  | loop l => obtain ⟨L, h1, _⟩ := h; exact (Array.getElem?_eq_some_iff.1 h1).1

theorem Rw.phi_lt (h : Rw P comp g σ w) {b o : Nat} {v : Value} (e : g.φ b o = some v) : b < w.heap.size := block_of_cell (h.frozen b o v e)
theorem Rw.phi_none (h : Rw P comp g σ w) {b : Nat} (hb : w.heap.size ≤ b) (o : Nat) : g.φ b o = none := by
  cases e : g.φ b o with
  | none => rfl
  | some v => exact absurd (h.phi_lt e) (by omega)

/-- The old blocks lie as they lay. -/
theorem Rw.same (h : Rw P comp g σ w) (hs : w.heap.size ≤ w'.heap.size) (hb : ∀ k, k < w.heap.size → w'.heap[k]? = w.heap[k]?) : Rw P comp g σ w' where
  frozen b o v e := (cell_of_block (a := ⟨b, o, none⟩) (hb b (h.phi_lt e))).trans (h.frozen b o v e)
  objs i ob e := let ⟨b, n, r, k, f⟩ := h.objs i ob e; ⟨b, n, r, k.mono (.refl g) (hb b k.lt), f⟩
  inj := h.inj
  fresh := h.fresh
  bound i b n e := Nat.lt_of_lt_of_le (h.bound i b n e) hs

/-- A new number for a block that no living number stands for, and of which nothing is frozen. -/
theorem Rw.add (h : Rw P comp g σ w) {b n : Nat} {ob : Obj} (hl : ¬ Live g σ b) (hp : ∀ o, g.φ b o = none) (ho : Ro P comp (g.bind σ.next (b, n)) ob b n w) :
    Rw P comp (g.bind σ.next (b, n)) (σ.new ob) w := by
  have hle : g.le (g.bind σ.next (b, n)) := G.le_bind _ (h.fresh _ (Nat.le_refl _)).1
  refine ⟨h.frozen, fun i ob' e => ?_, fun i j b' n' m hi hj ei ej => ?_, fun i hi => ?_, fun i b' n' e => ?_⟩
  · rw [H.get_new] at e
    by_cases hi : σ.next = i
    · subst hi
      simp at e; subst e
      exact ⟨b, n, by simp, ho, hp⟩
    · simp [hi] at e
      obtain ⟨b', n', r, k, f⟩ := h.objs i ob' e
      exact ⟨b', n', by rw [G.bind_other _ (Ne.symm hi)]; exact r, k.mono hle rfl, f⟩
  · rw [H.get_new] at hi hj
    by_cases e1 : σ.next = i
    · by_cases e2 : σ.next = j
      · exact e1.symm.trans e2
      · exfalso
        subst e1
        simp [e2] at hj
        rw [G.bind_other _ (Ne.symm e2)] at ej
        simp at ei
        exact hl ⟨j, m, hj, by rw [ei.1]; exact ej⟩
    · by_cases e2 : σ.next = j
      · exfalso
        subst e2
        simp [e1] at hi
        rw [G.bind_other _ (Ne.symm e1)] at ei
        simp at ej
        exact hl ⟨i, n', hi, by rw [ej.1]; exact ei⟩
      · simp [e1] at hi
        simp [e2] at hj
        rw [G.bind_other _ (Ne.symm e1)] at ei
        rw [G.bind_other _ (Ne.symm e2)] at ej
        exact h.inj i j b' n' m hi hj ei ej
  · have hi' : σ.next + 1 ≤ i := hi
    have hne : i ≠ σ.next := by omega
    rw [G.bind_other _ hne, H.get_new]
    simp [Ne.symm hne]
    exact h.fresh i (by omega)
  · by_cases hi : i = σ.next
    · subst hi; simp at e; rw [← e.1]; exact ho.lt
    · rw [G.bind_other _ hi] at e; exact h.bound i b' n' e

theorem Rw.del (h : Rw P comp g σ w) (i : Nat) : Rw P comp g (σ.del i) w where
  frozen := h.frozen
  objs j ob e := by
    rw [H.get_del] at e
    by_cases hi : i = j
    · simp [hi] at e
    · simp [hi] at e; exact h.objs j ob e
  inj j k b n m hj hk ej ek := by
    rw [H.get_del] at hj hk
    by_cases e1 : i = j
    · simp [e1] at hj
    · by_cases e2 : i = k
      · simp [e2] at hk
      · simp [e1] at hj; simp [e2] at hk; exact h.inj j k b n m hj hk ej ek
  fresh j hj := by
    have := h.fresh j hj
    refine ⟨this.1, ?_⟩
    rw [H.get_del]
    by_cases e : i = j <;> simp [e, this.2]
  bound := h.bound

/-- What a living number stands for is another thing now: of the world, its block alone has turned. -/
theorem Rw.put (h : Rw P comp g σ w) {i b n : Nat} {ob : Obj} (hi : (σ.get i).isSome = true) (hr : g.ρ i = some (b, n)) (hs : w'.heap.size = w.heap.size)
    (hb : ∀ k, k ≠ b → w'.heap[k]? = w.heap[k]?) (ho : Ro P comp g ob b n w') : Rw P comp g (σ.set i ob) w' := by
  have hphi : ∀ o, g.φ b o = none := by
    cases e : σ.get i with
    | none => simp [e] at hi
    | some ob0 =>
      obtain ⟨b', n', r, _, f⟩ := h.objs i ob0 e
      rw [hr] at r; cases r; exact f
  refine ⟨fun b' o v e => ?_, fun j ob' e => ?_, fun j k b' n' m hj hk ej ek => ?_, fun j hj => ?_, fun j b' n' e => by rw [hs]; exact h.bound j b' n' e⟩
  · have hne : b' ≠ b := by intro e'; subst e'; rw [hphi] at e; cases e
    exact (cell_of_block (a := ⟨b', o, none⟩) (hb b' hne)).trans (h.frozen b' o v e)
  · rw [H.get_set] at e
    by_cases hij : i = j
    · subst hij; simp at e; subst e; exact ⟨b, n, hr, ho, hphi⟩
    · simp [hij] at e
      obtain ⟨b', n', r, k, f⟩ := h.objs j ob' e
      have hne : b' ≠ b := by
        intro e'; subst e'
        exact hij (h.inj i j b' n n' hi (by simp [e]) hr r)
      exact ⟨b', n', r, k.mono (.refl g) (hb b' hne), f⟩
  · have aux : ∀ l, (((σ.set i ob).get l)).isSome = true → (σ.get l).isSome = true := by
      intro l hl
      rw [H.get_set] at hl
      by_cases e1 : i = l
      · subst e1; exact hi
      · simpa [e1] using hl
    exact h.inj j k b' n' m (aux j hj) (aux k hk) ej ek
  · have := h.fresh j hj
    refine ⟨this.1, ?_⟩
    rw [H.get_set]
    by_cases e1 : i = j
    · subst e1; simp [this.2] at hi
    · simp [e1, this.2]

/-- A block that no living number stands for: its cells will never be written again. -/
theorem Rw.freeze (h : Rw P comp g σ w) {b : Nat} {c : Array Value} {e : TypeId} {fz : Nat × Nat} (hw : w.heap[b]? = some (.cells c e fz)) (hl : ¬ Live g σ b) (hp : ∀ o, g.φ b o = none) :
    Rw P comp (g.freeze b c) σ w := by
  have hle := G.le_freeze (g := g) c hp
  refine ⟨fun b' o v e' => ?_, fun i ob e' => ?_, h.inj, h.fresh, h.bound⟩
  · by_cases hb : b' = b
    · subst hb
      rw [G.freeze_same] at e'
      rw [cell_of_obj hw]; exact e'
    · rw [G.freeze_other _ _ hb] at e'
      exact h.frozen b' o v e'
  · obtain ⟨b', n, r, k, f⟩ := h.objs i ob e'
    have hb : b' ≠ b := by intro e1; subst e1; exact hl ⟨i, n, by simp [e'], r⟩
    exact ⟨b', n, r, k.mono hle rfl, fun o => by rw [G.freeze_other _ _ hb]; exact f o⟩

theorem Live.lt (h : Rw P comp g σ w) {b : Nat} (hl : Live g σ b) : b < w.heap.size := let ⟨i, n, _, r⟩ := hl; h.bound i b n r
theorem not_live_new (h : Rw P comp g σ w) : ¬ Live g σ w.heap.size := fun hl => absurd (hl.lt h) (by omega)

theorem Rw.alloc (h : Rw P comp g σ w) (o : Go.Obj) : Rw P comp g σ (w.alloc o) :=
  h.same (by simp) (fun k hk => Below.heap_alloc w o k hk)

/-- A new block that is frozen at once. -/
theorem Rw.newFrozen (h : Rw P comp g σ w) (c : Array Value) (e : TypeId) (fz : Nat × Nat) : g.le (g.freeze w.heap.size c) ∧ Rw P comp (g.freeze w.heap.size c) σ (w.alloc (.cells c e fz)) :=
  ⟨G.le_freeze c fun o => h.phi_none (Nat.le_refl _) o, (h.alloc _).freeze (World.alloc_heap_new w _) (not_live_new h) fun o => h.phi_none (Nat.le_refl _) o⟩
end Go.Vx
end
noncomputable section
open Go
namespace Go.Vx

def cV : Nat → Value → V
  | 0, _ => .undef
  | n + 1, v => match v with
  | .bool b => .bool b
  | .int k n => .int k n
  | .string s => .str (s.data.toList.map UInt8.toNat)
  | .pointer none => .nilPtr
  | .slice none 0 0 => .nilSl
  | .map none => .nilMap
  | .nilFunc => .nilFunc
  | .nilIface => .nilIface
  | .func (.func f) first cap => .func (.func f) (first.toList.map (cV n)) (cap.toList.map (cV n))
  | .agg cs => .agg (cs.toList.map (cV n))
  | .tuple cs => .tuple (cs.toList.map (cV n))
  | .iface t v => .iface t (cV n v)
  | _ => .undef

def cOpd : Operand → Option Opd
  | .tmp t => some (.tmp t)
  | .const v => some (.const (cV 5 v))
  | .func f => some (.const (.func (.func f) [] []))
  | .global _ => none

structure Hints where
  hp : Nat → Nat → Bool      -- func, tmp: the box escapes
  fr : Nat → Bool            -- func: freeze its results
  fz : Nat → Bool            -- func: freeze the slices that it makes
  idle : List Nat            -- deferred functions that do nothing when nobody panics

def cSize (P : Program) (t : TypeId) : Option Nat := (P.info? t).map (·.size)
def cZero (P : Program) (t : TypeId) : Option V := do
  let i ← P.info? t
  let z ← i.zero
  match cV 5 z with
  | .undef => none
  | v => pure v
def cAgg (P : Program) (t : TypeId) : Option Bool := do
  match ← P.underlying t with
  | .struct _ | .array _ _ => pure true
  | _ => pure false

def cField (P : Program) (t : TypeId) (i : Nat) : Option (Nat × Bool × Nat) := do
  match ← P.underlying t with
  | .struct fs => do
    let f ← fs[i]?
    pure (f.offset, ← cAgg P f.type, ← cSize P f.type)
  | _ => none

def isC : Operand → Bool | .const _ => true | _ => false
def cCls (P : Program) (t : TypeId) (x y : Operand) : Option Nat := do
  match ← P.underlying t with
  | .int _ | .string => pure 0
  | .bool => pure 1
  | .pointer e => if (← cSize P e) = 0 then none else pure 2
  | .slice _ => pure 3
  | .map _ _ => pure 4
  | .func _ _ _ => pure 5
  | .interface _ => if isC x || isC y then pure 6 else none
  | _ => none

def cKey (P : Program) (t : TypeId) : Option Nat := do
  match ← P.underlying t with
  | .int _ => pure 0
  | .string => pure 1
  | .bool => pure 3
  | .pointer e => if (← cSize P e) = 0 then none else pure 2
  | _ => none

/-- the size of an element that may be appended -/
def cApp (P : Program) (e : TypeId) : Option Nat := do
  let i ← P.info? e
  let z ← cZero P e
  if i.size = 0 || 65536 < i.bytes || z.cells.length ≠ i.size then none else pure i.size

def cOp (P : Program) (H : Hints) (f : Nat) (o : Oper) : Option VOp :=
  let d := o.dst.getD 0
  match o.op with
  | .move x | .assign x => do pure (.mv (← cOpd x))
  | .pick c a b => do pure (.pick (← cOpd c) (← cOpd a) (← cOpd b))
  | .alloc t => do
    let z := (← cZero P t).cells
    pure (if H.hp f d then .allocH z else .alloc z)
  | .box _ x => do
    let x ← cOpd x
    pure (if H.hp f d then .boxH x else .boxv x)
  | .build t ps => do
    let z ← cZero P t
    match ← P.underlying t with
    | .struct fs => do
      let places ← fs.toList.mapM fun f => (P.info? f.type).map fun i => (f.offset, i.size)
      let ps ← ps.toList.mapM fun (q : Nat × Operand) => do
        let p ← places[q.1]?
        let x ← cOpd q.2
        pure (p.1, p.2, x)
      pure (.build z.cells ps)
    | .array _ e => do
      let s ← cSize P e
      let ps ← ps.toList.mapM fun (q : Nat × Operand) => do
        let x ← cOpd q.2
        pure (q.1 * s, s, x)
      pure (.build z.cells ps)
    | _ => none
  | .buildSlice t n ps => do
    match ← P.underlying t with
    | .slice e => do
      let s ← cSize P e
      let z ← cZero P e
      let ps ← ps.toList.mapM fun (q : Nat × Operand) => do
        let x ← cOpd q.2
        pure (q.1 * s, s, x)
      if n * s > 2 ^ 20 || s = 0 || z.cells.length ≠ s then none else
      pure (.lit z.cells s n ps)
    | _ => none
  | .load t a => do
    let a ← cOpd a
    if ← cAgg P t then pure (.loadA (← cSize P t) a) else pure (.load1 a)
  | .store t a x => do pure (.store (← cSize P t) (← cOpd a) (← cOpd x))
  | .nilCheck x => do pure (.nilck (← cOpd x))
  | .binOp .eql t x y _ => do pure (.eq false (← cCls P t x y) (← cOpd x) (← cOpd y))
  | .binOp .neq t x y _ => do pure (.eq true (← cCls P t x y) (← cOpd x) (← cOpd y))
  | .binOp b _ x y _ => do pure (.bin b (← cOpd x) (← cOpd y))
  | .unOp .not _ x => do pure (.not (← cOpd x))
  | .unOp .neg _ x => do pure (.neg (← cOpd x))
  | .convert s t x => do
    match ← P.underlying s, ← P.underlying t with
    | _, .int k => do pure (.convInt k (← cOpd x))
    | .string, .string => do pure (.strMv (← cOpd x))
    | .slice e, .slice _ => do
      match ← P.underlying e with
      | .int .u8 => if s == t then do pure (.slMv (← cOpd x)) else none
      | _ => none
    | .string, .slice e => do
      match ← P.underlying e with
      | .int .u8 => do pure (.toBytes (← cOpd x))
      | _ => none
    | .slice e, .string => do
      match ← P.underlying e with
      | .int .u8 => do pure (.toStr (← cOpd x))
      | _ => none
    | _, _ => none
  | .makeInterface t x => do
    match ← P.underlying t with
    | .interface _ => none
    | _ => pure (.mkIface t (← cOpd x))
  | .makeFunc (.func f) a b => do pure (.mkFunc (.func f) (← a.toList.mapM cOpd) (← b.toList.mapM cOpd))
  | .makeMap _ none => pure .mkMap
  | .makeSlice t l c => do
    match ← P.underlying t with
    | .slice e => do
      let _ ← cApp P e
      if H.fz f then pure (.mkSliceF (← cZero P e).cells (← cOpd l) (← cOpd c)) else pure (.mkSlice (← cZero P e).cells (← cOpd l) (← cOpd c))
    | _ => none
  | .slice t x lo hi mx => do
    match ← P.underlying t with
    | .slice e => do pure (.slice false (← cSize P e) (← cOpd x) (← lo.mapM cOpd) (← hi.mapM cOpd) (← mx.mapM cOpd))
    | .string => do pure (.slice true 1 (← cOpd x) (← lo.mapM cOpd) (← hi.mapM cOpd) (← mx.mapM cOpd))
    | _ => none
  | .fieldAddr t x i => do
    let (o, _, s) ← cField P t i
    if s = 0 then none else pure (.fieldAddr o (← cOpd x))
  | .field t x i => do
    let (o, a, s) ← cField P t i
    pure (.field a o s (← cOpd x))
  | .indexAddr t x i => do
    match ← P.underlying t with
    | .slice e => do pure (.idxAddr (← cSize P e) (← cOpd x) (← cOpd i))
    | .array n e => do pure (.idxArr (← cSize P e) n (← cOpd x) (← cOpd i))
    | _ => none
  | .index t x i => do
    match ← P.underlying t with
    | .string => do pure (.index (← cOpd x) (← cOpd i))
    | .array n e => do pure (.indexA (← cAgg P e) (← cSize P e) n (← cOpd x) (← cOpd i))
    | _ => none
  | .lookup t x i ok => do
    match ← P.underlying t with
    | .map kt e => do pure (.lookup (← cKey P kt) (← cZero P e) ok (← cOpd x) (← cOpd i))
    | _ => none
  | .mapUpdate t m k x | .insert t m k x => do
    match ← P.underlying t with
    | .map kt _ => do pure (.mapUpd (← cKey P kt) (← cOpd m) (← cOpd k) (← cOpd x))
    | _ => none
  | .extract x i => do pure (.extract i (← cOpd x))
  | .call { callee := .builtin b, args, argTypes } =>
    match b, args.toList with
    | .len, [x] => do
      match ← P.underlying (← argTypes[0]?) with
      | .array n _ => pure (.mv (.const (.int .i64 n)))
      | .slice _ => do pure (.len 0 (← cOpd x))
      | .string => do pure (.len 1 (← cOpd x))
      | .map _ _ => do pure (.len 2 (← cOpd x))
      | _ => none
    | .cap, [x] => do
      match ← P.underlying (← argTypes[0]?) with
      | .slice _ => do pure (.cap (← cOpd x))
      | _ => none
    | .max, [x, y] => do pure (.max (← cOpd x) (← cOpd y))
    | .min, [x, y] => do pure (.min (← cOpd x) (← cOpd y))
    | .append, [x, y] => do
      match ← P.underlying (← argTypes[0]?) with
      | .slice e => do
        let s ← cApp P e
        match ← P.underlying (← argTypes[1]?) with
        | .int _ => do pure (.appendZ (← cZero P e).cells (← cOpd x) (← cOpd y))
        | .slice _ => do pure (.append s (← cOpd x) (← cOpd y))
        | .string => do pure (.append s (← cOpd x) (← cOpd y))
        | _ => none
      | _ => none
    | .copy, [x, y] => do
      match ← P.underlying (← argTypes[0]?) with
      | .slice e => do pure (.copy (← cSize P e) (← cOpd x) (← cOpd y))
      | _ => none
    | .clear, [x] => do
      match ← P.underlying (← argTypes[0]?) with
      | .slice e => do
        let _ ← cApp P e
        pure (.clear (← cZero P e).cells (← cOpd x))
      | _ => none
    | _, _ => none
  | _ => none

def cIns (P : Program) (H : Hints) (f : Nat) (o : Oper) : Option Ins :=
  match o.op with
  | .call { callee := .value (.func g), args, .. } => do pure (.call o.dst g (← args.toList.mapM cOpd))
  | .call { callee := .value g, args, .. } => do pure (.dyn o.dst (← cOpd g) (← args.toList.mapM cOpd))
  | .defer { callee := .value g, args, .. } => if o.dst.isSome then none else do pure (.defer H.idle (← cOpd g) (← args.toList.mapM cOpd))
  | _ => do pure (.op o.dst (← cOp P H f o))

def cOper (P : Program) (H : Hints) (f : Nat) (ops : Array Oper) (o : Oper) : Ins :=
  let i := (cIns P H f o).getD (.op none .bad)
  match o.guard with
    | none => i
    | some (j, b) => match (ops[j]?).bind (·.dst) with
      | some t => .grd t b o.dst i
      | none => .op none .bad

/-! ### A region that draws: a plan -/
/-- What comes before each operation: bits. -/
def masks (ops : List Oper) : List Nat := ops.foldl (fun acc o => acc ++ [o.after.toList.foldl (fun s e => if Region.binds .any e then s ||| 2 ^ e.on ||| acc.getD e.on 0 else s) 0]) []

/-- 0, 1: no effect; 2: an effect; 3: a new object -/
def insCls (o : Oper) (i : Ins) : Nat := match o.op with
  | .assign _ => 2
  | _ => match i with
    | .op (some _) (.allocH _) => 3
    | .op (some _) v => v.cls
    | .grd _ _ (some d) (.op (some d') v) => bif Nat.beq d d' then (match v.cls with | 0 => 0 | 1 => 1 | _ => 2) else 2
    | _ => 2

structure Stage where
  chk : List Nat
  pre : List Nat
  als : List Nat
  eff : Option Nat
  deriving Inhabited

def stages (cls ms : Nat → Nat) (n : Nat) (effs : List Nat) : List Stage :=
  let N := (List.range n).filter fun i => cls i < 2
  let A := (List.range n).filter fun i => cls i == 3
  let home := fun i => (effs.filter fun e => (ms i).testBit e).length
  let rec go : List Nat → Nat → List Nat → Option Nat → List Stage
    | [], k, done, _ => [⟨if k = 0 then [] else N.filter fun i => cls i == 1 && home i < k && (effs.take k).all fun e => !(ms e).testBit i, N.filter (fun i => home i == k), A.filter (fun a => !done.contains a), none⟩]
    | e :: es, k, done, _ =>
      let al := A.filter fun a => (ms e).testBit a && !done.contains a
      ⟨if k = 0 then [] else N.filter fun i => cls i == 1 && home i < k && (effs.take k).all fun e => !(ms e).testBit i, N.filter (fun i => home i == k), al, some e⟩ :: go es (k + 1) (done ++ al) (some e)
  go effs 0 [] none

def chkOf : Ins → Option Ins
  | .op (some d) o => some (.chk none d o)
  | .grd t b (some d) (.op (some _) o) => some (.chk (some (t, b)) d o)
  | _ => none
def stageIns (ins : Nat → Ins) (s : Stage) : List Ins := s.chk.map (fun i => (chkOf (ins i)).getD (.op none .bad)) ++ s.pre.map ins ++ s.als.map ins ++ s.eff.toList.map ins
def flatten (ins : Nat → Ins) (l : List Stage) : List Ins := l.flatMap (stageIns ins)

/-! What is asked of a plan -/
def dstL (ins : Nat → Ins) (l : List Nat) : List Nat := match l with
  | [] => []
  | i :: is => (match (ins i).dst with | some d => d :: dstL ins is | none => dstL ins is)
def rdd (i : Ins) : List Nat := match i.dst with | some d => d :: i.slots | none => i.slots
/-- within a stage: what comes later turns nothing that was looked at, or made -/
def preOk (ins : Nat → Ins) : List Nat → Bool
  | [] => true
  | i :: is => disj (ins i).slots (dstL ins (i :: is)) && disj (rdd (ins i)) (dstL ins is) && preOk ins is
def allN (p : Nat → Bool) : List Nat → Bool
  | [] => true
  | i :: is => p i && allN p is
def optAll (p : Nat → Bool) : Option Nat → Bool
  | none => true
  | some i => p i
def distinctN : List Nat → Bool
  | [] => true
  | x :: xs => !(memN x xs) && distinctN xs

/-- win: the operations of the window; als, eff: those that end the stage before -/
def survOf (ms : Nat → Nat) (win : List Nat) (eff : Option Nat) : List Nat := match eff with | none => win | some e => win.filter fun i => !(ms e).testBit i
def stagesOk (ins : Nat → Ins) (cls ms : Nat → Nat) (n : Nat) (aL : List Nat) : List Stage → List Nat → List Nat → Option Nat → List Nat → List Nat → Bool
  | [], _, _, eff, born, _ => eff.isNone && allN (fun a => memN a born) aL
  | s :: rest, win, als, eff, born, effs =>
    allN (fun i => disj (rdd (ins i)) (dstL ins als ++ (dstL ins eff.toList ++ dstL ins s.pre)) && (!(Nat.beq (cls i) 1) || memN i s.chk)) (survOf ms win eff)
    && allN (fun i => memN i (survOf ms win eff) && (chkOf (ins i)).isSome) s.chk
    && preOk ins s.pre && allN (fun i => Nat.blt (cls i) 2 && optAll (fun e => (ms i).testBit e) eff) s.pre
    && allN (fun a => Nat.beq (cls a) 3 && optAll (fun e => (ms e).testBit a) s.eff && !(memN a born)) s.als && distinctN s.als
    && optAll (fun e => Nat.beq (cls e) 2 && Nat.blt e n && allN (fun e' => (ms e).testBit e') (effs ++ eff.toList) && allN (fun a => !((ms e).testBit a) || memN a (born ++ s.als)) aL) s.eff
    && (s.eff.isSome || rest.isEmpty)
    && stagesOk ins cls ms n aL rest (survOf ms win eff ++ s.pre) s.als s.eff (born ++ s.als) (effs ++ eff.toList)

def noLocal : Ins → Bool
  | .op _ o => !(isAlloc o)
  | .grd _ _ d j => eqO d j.dst && (match j with | .op _ o => !(isAlloc o) | .grd _ _ _ _ => false | _ => true)
  | _ => true
def preAll (l : List Stage) : List Nat := l.flatMap (·.pre)
def effAll (l : List Stage) : List Nat := l.flatMap fun s => s.eff.toList
def drawOk (ins : Nat → Ins) (cls ms : Nat → Nat) (n : Nat) (l : List Stage) : Bool :=
  let N := (List.range n).filter fun i => !(Nat.beq (cls i) 2)
  let E := (List.range n).filter fun i => Nat.beq (cls i) 2
  let A := (List.range n).filter fun i => Nat.beq (cls i) 3
  allN (fun i => Nat.blt (cls i) 2 && memN i (preAll l) || Nat.beq (cls i) 2 && memN i (effAll l) || Nat.beq (cls i) 3) (List.range n)
  && distinctN (dstL ins N) && allN (fun i => (ins i).dst.isSome) N && disj (dstL ins E) (dstL ins N)
  && allN (fun i => allN (fun j => match (ins j).dst with
      | some t => !(memN t (ins i).slots) || ((ms i).testBit j && (Nat.beq (cls i) 2 || !(Nat.beq (cls j) 3)))
      | none => true) N) ((List.range n).filter fun i => !(Nat.beq (cls i) 3))
  && allN (fun i => noLocal (ins i)) (List.range n)
  && stagesOk ins cls ms n A l [] [] none [] []
def lowEdges : List Oper → Nat → Bool
  | [], _ => true
  | o :: os, i => (o.after.toList.all fun e => !(Region.binds .any e) || Nat.blt e.on i) && lowEdges os (i + 1)

def heapy (H : Hints) : Hints := { H with hp := fun _ _ => true }
def planOf (P : Program) (H : Hints) (f : Nat) (ops : Array Oper) : Option (List Stage) :=
  let il := ops.toList.map (cOper P (heapy H) f ops)
  let ins := fun i => il.getD i (.op none .bad)
  let ml := masks ops.toList
  let ms := fun i => ml.getD i 0
  let cl := ops.toList.map fun o => insCls o (cOper P (heapy H) f ops o)
  let cls := fun i => cl.getD i 2
  let n := ops.size
  let l := stages cls ms n ((List.range n).filter fun i => cls i == 2)
  if drawOk ins cls ms n l && lowEdges ops.toList 0 && !(l.isEmpty) then some l else none
/-! Two stores at the end that may come in either order -/
def isNilN (l : List Nat) : Bool := match l with | [] => true | _ => false
def eqOn (a b : Option Nat) : Bool := match a, b with | none, none => true | some x, some y => Nat.beq x y | _, _ => false
def swTail (e2 : Nat) (r : List Stage) : Bool := match r with
  | [b, c] => isNilN b.chk && isNilN b.pre && isNilN b.als && eqOn b.eff (some e2) && isNilN c.chk && isNilN c.pre && isNilN c.als && eqOn c.eff none
  | _ => false
def swStages (e1 e2 : Nat) : List Stage → Bool
  | [] => true
  | s :: r => (!(eqOn s.eff (some e1)) || (isNilN s.als && swTail e2 r)) && swStages e1 e2 r
def readsOk (ins : Nat → Ins) (cls ms : Nat → Nat) (n : Nat) : Bool :=
  allN (fun i => allN (fun j => match (ins j).dst with
      | some t => !(memN t (ins i).slots) || ((ms i).testBit j && (Nat.beq (cls i) 2 || !(Nat.beq (cls j) 3)))
      | none => true) ((List.range n).filter fun i => !(Nat.beq (cls i) 2))) ((List.range n).filter fun i => !(Nat.beq (cls i) 3))
def storeAt (i : Ins) : Option Nat := match i with | .op none (.store _ (.tmp p) _) => some p | _ => none
def msSw (ms : Nat → Nat) (e1 e2 : Nat) : Nat → Nat := fun i => bif Nat.beq i e2 then ms e2 ||| (2 ^ e1 ||| ms e1) else ms i
structure Swap where
  l : List Stage
  e1 : Nat
  e2 : Nat
  p1 : Nat
  p2 : Nat
def swOk (ins : Nat → Ins) (cls ms : Nat → Nat) (n : Nat) (l : List Stage) (e1 e2 : Nat) : Bool :=
  drawOk ins cls (msSw ms e1 e2) n l && readsOk ins cls ms n && swStages e1 e2 l && Nat.blt e1 n && Nat.blt e2 n && !(Nat.beq e1 e2) && !((ms e1).testBit e2)
  && Nat.beq (cls e1) 2 && Nat.beq (cls e2) 2
  && allN (fun e => !(Nat.beq (cls e) 2) || Nat.beq e e1 || Nat.beq e e2 || (ms e2).testBit e) (List.range n)
  && allN (fun i => !(Nat.beq (cls i) 1) || (ms e2).testBit i) (List.range n)
def lastTwo : List Nat → Option (Nat × Nat)
  | [] => none
  | [_] => none
  | [a, b] => some (a, b)
  | _ :: l => lastTwo l
def planSw (P : Program) (H : Hints) (f : Nat) (ops : Array Oper) : Option Swap :=
  let il := ops.toList.map (cOper P (heapy H) f ops)
  let ins := fun i => il.getD i (.op none .bad)
  let ml := masks ops.toList
  let ms := fun i => ml.getD i 0
  let cl := ops.toList.map fun o => insCls o (cOper P (heapy H) f ops o)
  let cls := fun i => cl.getD i 2
  let n := ops.size
  let E := (List.range n).filter fun i => cls i == 2
  match lastTwo E with
  | none => none
  | some (e1, e2) => match storeAt (ins e1), storeAt (ins e2) with
    | some p1, some p2 =>
      let l := stages cls (msSw ms e1 e2) n E
      if swOk ins cls ms n l e1 e2 && lowEdges ops.toList 0 && !(l.isEmpty) then some ⟨l, e1, e2, p1, p2⟩ else none
    | _, _ => none
def cDraw (P : Program) (H : Hints) (f : Nat) (ops : Array Oper) : List Ins := match planOf P H f ops with
  | some l => flatten (fun i => (ops.toList.map (cOper P (heapy H) f ops)).getD i (.op none .bad)) l
  | none => match planSw P H f ops with
    | some s => flatten (fun i => (ops.toList.map (cOper P (heapy H) f ops)).getD i (.op none .bad)) s.l ++ [.chk none s.p2 (.neqId (.tmp s.p2) (.tmp s.p1))]
    | none => [.op none .bad]

def cCode (P : Program) (H : Hints) (f : Nat) : Code → VCode
  | .skip => .skip
  | .region _ ops d => if d then .draw (cDraw P H f ops) else .region (ops.toList.map (cOper P H f ops))
  | .seq a b => .seq (cCode P H f a) (cCode P H f b)
  | .cond c a b => .cond ((cOpd c).getD (.const .undef)) (cCode P H f a) (cCode P H f b)
  | .block i c => .block i (cCode P H f c)
  | .loop c => .loop (cCode P H f c)
  | .rangeFunc g ps a b => if flat a && flat b then .rangeFunc ((cOpd g).getD (.const .undef)) ps.toList (cCode P H f a) (cCode P H f b) else .region [.op none .bad]
  | .exit i => .exit i
  | .scope c => .scope (cCode P H f c)
  | .label l => .label l
  | .goto l => .goto l
  | .ret => .ret
  | .refuse _ => .region [.op none .bad]

/-- How a function's results are told. -/
def cRes (P : Program) (r : ResultVar) : Option (Nat × Bool × Bool × Nat) := match r with
  | .tmp t => some (t, false, false, 0)
  | .cell t ty => do pure (t, true, ← cAgg P ty, ← cSize P ty)

def extNo (n : String) : Nat :=
  if n == "internal/abi.NoEscape" then 1 else if n == "internal/bytealg.IndexByte" then 2 else if n == "internal/bytealg.IndexByteString" then 3 else if n == "internal/bytealg.Count" then 4 else 9

def cFunc (P : Program) (H : Hints) (f : Nat) : Option VFunc := do
  let fn ← P.funcs[f]?
  if fn.name == "runtime.NumGoroutine" then none else
  let res ← fn.results.toList.mapM (cRes P)
  match fn.body with
  | none => pure { nt := 0, results := [], ext := extNo fn.name, body := .skip, frz := false }
  | some b => pure { nt := fn.ntmps, results := res, ext := 0, body := cCode P H f b, frz := H.fr f }
end Go.Vx
end
noncomputable section
open Go Go.RowKit
namespace Go.Vx
variable {P : Program} {comp : FuncId → Code → VCode} {g g' : G} {σ σ' : H} {w w' : World}

/-- What a slot of a frame holds. -/
def Rs (g : G) (β : Nat → Option Nat) (v : V) (x : Value) : Prop := match v with
  | .lptr t off => ∃ b, β t = some b ∧ x = .pointer (some ⟨b, off, none⟩)
  | v => Rv g v x

theorem Rs.of_rv {β : Nat → Option Nat} {v : V} {x : Value} (h : Rv g v x) : Rs g β v x := by
  cases h <;> simp only [Rs] <;> first | (constructor <;> assumption) | skip
  all_goals first | exact .hptr _ (by assumption) | exact .fptr _ (by assumption) (by assumption) | exact .list _ _ (by assumption) (by assumption) (by assumption) (by assumption) (by assumption) | exact .map (by assumption)
theorem Rs.rv {β : Nat → Option Nat} {v : V} {x : Value} (h : Rs g β v x) (hn : ∀ t o, v ≠ .lptr t o) : Rv g v x := by
  cases v <;> first | exact h | exact absurd rfl (hn _ _)
theorem Rs.mono {β : Nat → Option Nat} (hg : g.le g') {v : V} {x : Value} (h : Rs g β v x) : Rs g' β v x := by
  cases v <;> first | exact Rv.mono hg h | exact h

/-- The boxes that do not leave the frame. -/
structure Rb (g : G) (σ : H) (β : Nat → Option Nat) (lo : Lo) (w : World) : Prop where
  boxes : ∀ t b, β t = some b → ∃ (cs : List V) (c : Array Value) (e : TypeId), loGet lo t = some cs ∧ w.heap[b]? = some (.cells c e (0, 0)) ∧ cs.length = c.size ∧
    (∀ (j : Nat) (x : V), cs[j]? = some x → ∃ v, c[j]? = some v ∧ Rv g x v)
  apart : ∀ t b, β t = some b → ¬ Live g σ b ∧ ∀ o, g.φ b o = none
  inj : ∀ t u b, β t = some b → β u = some b → t = u

structure Rf_ (g : G) (β : Nat → Option Nat) (fr : List V) (tmps : Array Value) : Prop where
  size : fr.length = tmps.size
  slots : ∀ (t : Nat) (v : V) (x : Value), fr[t]? = some v → tmps[t]? = some x → Rs g β v x

def isBox (β : Nat → Option Nat) (b : Nat) : Prop := ∃ t, β t = some b

theorem lget_eq (fr : List V) (t : Nat) : lget fr t = (fr[t]?).getD .undef := by
  induction fr generalizing t with
  | nil => simp [lget_nil]
  | cons x xs ih => cases t <;> simp [lget_zero, lget_succ, ih]

theorem Rf_.lget {β : Nat → Option Nat} {fr : List V} {tmps : Array Value} (h : Rf_ g β fr tmps) (t : Nat) : Rs g β (lget fr t) (tmps.getD t undef) := by
  rw [lget_eq]
  cases hv : fr[t]? with
  | none => exact .of_rv (.undef _)
  | some v =>
    have ht : t < tmps.size := by rw [← h.size]; exact (List.getElem?_eq_some_iff.1 hv).1
    have : tmps[t]? = some (tmps.getD t undef) := by simp [Array.getElem?_eq_getElem ht, Array.getD, ht]
    exact h.slots t v _ hv this

theorem Rvs.mk_of_map (n : Nat) (ih : ∀ (g : G) v, Rv g (cV n v) v) (a : List Value) : Rvs g (a.map (cV n)) a :=
  ⟨by simp, fun i v w hv hw => by simp [hw] at hv; subst hv; exact ih g w⟩
theorem Rv.cV : ∀ (n : Nat) (g : G) (v : Value), Rv g (cV n v) v := by
  intro n
  induction n with
  | zero => intro g v; exact .undef v
  | succ n ih =>
    intro g v
    have hm := fun a => Rvs.mk_of_map (g := g) n ih a
    unfold Vx.cV
    split <;> first | (constructor; done) | skip
    · exact .func (.func _) (by simp) (by simp) (fun i v w a b => (hm _).2 i v w a (by simpa using b)) (fun i v w a b => (hm _).2 i v w a (by simpa using b))
    · exact .mkAgg (hm _)
    · exact .mkTuple (hm _)
    · exact .iface _ (ih g _)

theorem Rs.ev {β : Nat → Option Nat} {fr : List V} {A : Act} (h : Rf_ g β fr A.tmps) {x : Operand} {y : Opd} (hx : cOpd x = some y) : Rs g β (y.ev fr) (A.eval x) := by
  cases x with
  | tmp t => simp [cOpd] at hx; subst hx; exact h.lget t
  | const v => simp [cOpd] at hx; subst hx; exact .of_rv (Rv.cV 5 g v)
  | func f =>
    simp [cOpd] at hx; subst hx
    exact .of_rv (.func (.func f) rfl rfl (fun i v w a b => by simp at a) (fun i v w a b => by simp at a))
  | global i => simp [cOpd] at hx
end Go.Vx
end
noncomputable section
open Go Go.RowKit
namespace Go.Vx
variable {P : Program} {comp : FuncId → Code → VCode} {g g' : G} {σ σ' : H} {w w' : World} {β : Nat → Option Nat} {lo lo' : Lo} {fr : List V} {A : Act}

theorem Frm.refl (B : Nat → Prop) : Frm g σ B w w := ⟨rfl, rfl, rfl, Nat.le_refl _, fun _ _ _ _ _ => rfl⟩

/-- Of old blocks those alone are frozen that lived, or were frozen. -/
def Phi (g g' : G) (σ : H) (w : World) : Prop := ∀ b, b < w.heap.size → (∀ o, g.φ b o = none) → ¬ Live g σ b → ∀ o, g'.φ b o = none

/-- What an operation must come to. -/
def OpOk (P : Program) (comp : FuncId → Code → VCode) (g : G) (β : Nat → Option Nat) (σ : H) (w : World) (v : V) (lo' : Lo) (σ' : H) (r : Result Next) : Prop :=
  ∃ (x : Value) (w' : World) (g' : G), (r = .ok (.value x) w' ∨ (r = .ok .skip w' ∧ x = undef)) ∧ g.le g' ∧ Rs g' β v x ∧ Rw P comp g' σ' w' ∧ Rb g' σ' β lo' w' ∧ Frm g σ (isBox β) w w' ∧ (∀ b, Live g' σ' b → b < w.heap.size → Live g σ b) ∧ Phi g g' σ w

structure St (P : Program) (comp : FuncId → Code → VCode) (g : G) (β : Nat → Option Nat) (σ : H) (lo : Lo) (fr : List V) (A : Act) (w : World) : Prop where
  f : Rf_ g β fr A.tmps
  b : Rb g σ β lo w
  w : Rw P comp g σ w

theorem OpOk.pure (h : St P comp g β σ lo fr A w) {v : V} {x : Value} {r : Result Next} (hr : r = .ok (.value x) w) (hv : Rs g β v x) : OpOk P comp g β σ w v lo σ r :=
  ⟨x, w, g, .inl hr, .refl g, hv, h.w, h.b, .refl _, fun _ h _ => h, fun _ _ h _ => h⟩

/-- `evOp` of an operation is that of its Go form. -/
def Sound (P : Program) (comp : FuncId → Code → VCode) (d : Nat) (vop : VOp) (o : Oper) : Prop :=
  ∀ (g : G) (β : Nat → Option Nat) (σ : H) (lo : Lo) (fr : List V) (A : Act) (w : World) (v : V) (lo' : Lo) (σ' : H), St P comp g β σ lo fr A w → evOp d vop fr lo σ = .ok v lo' σ' →
    OpOk P comp g β σ w v lo' σ' ((execOp A.eval o).run P w)

theorem sound_mv {d : Nat} {o : Oper} {x : Operand} {y : Opd} (hx : cOpd x = some y) (ho : o.op = .move x ∨ o.op = .assign x) : Sound P comp d (.mv y) o := by
  intro g β σ lo fr A w v lo' σ' h e
  simp only [evOp, opMv, OR.ok.injEq] at e
  obtain ⟨rfl, rfl, rfl⟩ := e
  refine .pure h (x := A.eval x) ?_ (Rs.ev h.f hx)
  rcases ho with ho | ho <;> simp [execOp, ho]

theorem bool_of {v : V} {x : Value} {b : Bool} (h : Rs g β v x) (hv : v = .bool b) : x = .bool b := by
  subst hv; cases h; rfl
theorem int_of {v : V} {x : Value} {k : IntKind} {n : Int} (h : Rs g β v x) (hv : v = .int k n) : x = .int k n := by
  subst hv; cases h; rfl
theorem str_of {v : V} {x : Value} {s : List Nat} (h : Rs g β v x) (hv : v = .str s) : ∃ bs : ByteArray, x = .string bs ∧ s = bs.data.toList.map UInt8.toNat := by
  subst hv; cases h; exact ⟨_, rfl, rfl⟩

theorem sound_pick {d : Nat} {o : Oper} {c a b : Operand} {c' a' b' : Opd} (hc : cOpd c = some c') (ha : cOpd a = some a') (hb : cOpd b = some b') (ho : o.op = .pick c a b) : Sound P comp d (.pick c' a' b') o := by
  intro g β σ lo fr A w v lo' σ' h e
  simp only [evOp, opPick] at e
  split at e
  · rename_i t ht
    simp only [OR.ok.injEq] at e
    obtain ⟨rfl, rfl, rfl⟩ := e
    have hcv := bool_of (Rs.ev h.f hc) ht
    refine .pure h (x := if t then A.eval a else A.eval b) ?_ ?_
    · simp [execOp, ho, asBool, hcv]
    · cases t
      · exact Rs.ev h.f hb
      · exact Rs.ev h.f ha
  · cases e

theorem sound_not {d : Nat} {o : Oper} {x : Operand} {y : Opd} {t : TypeId} (hx : cOpd x = some y) (ho : o.op = .unOp .not t x) : Sound P comp d (.not y) o := by
  intro g β σ lo fr A w v lo' σ' h e
  simp only [evOp, opNot] at e
  split at e
  · rename_i b hb
    simp only [OR.ok.injEq] at e
    obtain ⟨rfl, rfl, rfl⟩ := e
    have hv := bool_of (Rs.ev h.f hx) hb
    exact .pure h (x := .bool !b) (by simp [execOp, ho, hv, Op.unary]) (.of_rv (.bool _))
  · cases e

theorem ltI_eq (a b : Int) : ltI a b = decide (a < b) := by
  cases a <;> cases b <;> simp only [ltI, Int.ofNat_eq_natCast] <;> rw [Bool.eq_iff_iff] <;> simp only [Nat.blt_eq, decide_eq_true_eq, Bool.false_eq_true, true_iff, false_iff] <;> omega
theorem eqI_eq (a b : Int) : eqI a b = (a == b) := by
  cases a <;> cases b <;> simp only [eqI, Int.ofNat_eq_natCast] <;> rw [Bool.eq_iff_iff] <;> simp <;> omega
theorem leI_eq (a b : Int) : leI a b = decide (a ≤ b) := by
  rw [leI, ltI_eq, Bool.eq_iff_iff]; simp
theorem eqK_eq (j k : IntKind) : eqK j k = decide (j = k) := by cases j <;> cases k <;> rfl
theorem wrap_i64 {n : Int} (h1 : -9223372036854775808 ≤ n) (h2 : n < 9223372036854775808) : IntKind.i64.wrap n = n := IntWalk.i64_in n ⟨by omega, by omega⟩
theorem blt_lit {m : Nat} {k : Nat} (h : Nat.blt m k = true) : m < k := Nat.le_of_ble_eq_true h
theorem wrapF_eq (k : IntKind) (n : Int) : wrapF k n = k.wrap n := by
  have key : ∀ (j : Int) (m : Nat), (Nat.blt m 9223372036854775808 = true → IntKind.i64.wrap j = j) → (bif Nat.blt m 9223372036854775808 then j else IntKind.i64.wrap j) = IntKind.i64.wrap j := by
    intro j m h
    generalize hb : Nat.blt m 9223372036854775808 = b at h
    cases b
    · simp only [cond_false]
    · simp only [cond_true]; exact (h rfl).symm
  unfold wrapF
  split
  · rename_i m
    exact key _ m fun h => by
      have := blt_lit h
      exact wrap_i64 (by simp only [Int.ofNat_eq_natCast]; omega) (by simp only [Int.ofNat_eq_natCast]; omega)
  · rename_i m
    exact key _ m fun h => by
      have := blt_lit h
      exact wrap_i64 (by omega) (by omega)
  · rename_i m; simp [IntKind.wrap, IntKind.bits, IntKind.signed]
  · rename_i m; simp [IntKind.wrap, IntKind.bits, IntKind.signed]
  · rename_i m; simp [IntKind.wrap, IntKind.bits, IntKind.signed]
  · rfl
end Go.Vx
end
