/- A part of the proof of TopForks. -/
import Derived.Test.YteajegmpafjbgaaGreatDoorProg
import Derived.KernelRfl
import Derived.Test.YteajegmpafjbgaaGreatDoorVaa
set_option linter.all false
set_option maxRecDepth 1000000
set_option maxHeartbeats 80000000
noncomputable section
section
namespace Go.Vx
def azl:List (Nat×List Nat):=[(7,[10]),(9,[27]),(19,[2,3,4,5]),(20,[9,13]),(21,[2,5,10]),(27,[1,4]),(28,[4,5,11,13]),(30,[6,7,10,11,15]),(32,[1,2]),(33,[3]),(34,[2,3,6,7,24]),(37,[2]),(38,[2,6,16,20]),(39,[7]),(44,[1]),(57,[4,5]),(64,[5]),(66,[2,6]),(71,[1]),(72,[1]),(74,[2]),(75,[31]),(78,[3]),(79,[18]),(84,[40]),(103,[1]),(104,[3,6]),(107,[3]),(112,[1]),(115,[3,4,36,46]),(117,[8]),(118,[7]),(119,[21]),(120,[7]),(121,[21]),(123,[2]),(124,[1]),(125,[44]),(126,[2]),(128,[2]),(130,[9]),(132,[11]),(138,[2,3]),(140,[5]),(160,[1]),(161,[1]),(163,[3,4]),(169,[5,7]),(174,[2]),(177,[1]),(180,[2]),(189,[1]),(192,[2]),(196,[3,4]),(198,[21]),(203,[3]),(211,[1]),(220,[1]),(221,[3]),(226,[4,5,8]),(232,[2]),(243,[1]),(246,[1]),(258,[5]),(259,[1]),(262,[1]),(270,[1]),(274,[2,3]),(275,[2,3]),(277,[2,3]),(281,[1]),(285,[3]),(296,[3,7]),(302,[5]),(326,[10]),(327,[10]),(328,[15]),(329,[15]),(354,[3,4,5]),(357,[4]),(363,[2,3]),(369,[5]),(375,[12]),(377,[3,5]),(388,[5]),(397,[1]),(398,[1]),(404,[1]),(405,[3]),(439,[4]),(446,[6]),(467,[4,5]),(473,[2,3])]
def ayM:List Nat:=[3,4,5,6,7,8,9,11,12,13,14,15,17,19,20,21,22,23,24,25,26,27,28,29,30,31,32,33,34,36,37,38,39,41,42,43,44,45,47,48,49,50,51,52,53,54,55,56,57,58,59,60,61,62,63,64,65,68,69,70,71,72,73,74,75,76,77,78,80,81,84,85,86,87,88,90,91,92,93,94,95,96,98,99,102,103,104,106,107,108,109,110,111,112,113,114,115,116,117,118,119,120,121,122,123,124,125,126,127,128,130,131,132,133,134,135,139,140,142,143,144,145,148,150,151,152,153,154,155,156,157,158,159,160,161,163,164,165,166,169,171,172,173,174,175,176,177,178,180,181,182,183,189,193,194,195,196,197,198,202,203,205,206,208,210,212,214,215,216,217,218,219,221,222,223,224,225,226,227,228,229,230,232,234,236,238,239,240,243,244,251,252,253,254,255,256,257,258,260,261,263,265,266,267,269,271,273,274,275,276,277,278,282,283,284,285,287,288,289,290,291,292,294,295,296,297,298,299,300,301,304,308,310,311,312,313,318,319,331,332,333,334,335,336,337,343,344,347,349,350,351,352,353,354,355,356,357,359,360,361,362,363,364,365,366,367,368,369,370,371,377,390,391,392,393,394,395,396,397,398,399,400,401,402,403,405,406,409,410,411,412,413,414,415,416,417,420,421,430,435,436,437,439,440,441,442,444,445,446,450,451,453,454,455,460,461,462,463,466,467,468,469,471,473,474,490]
def auk:List (Nat×List Nat)->Nat->Nat->Bool
 |[],_,_=>false
 |(g,l)::r,f,t=>bif Nat.beq g f then uz t l else auk r f t
def vZ:Hints:={ hp:=auk azl,fr:=λf=>uz f ayM,fz:=λf=>uz f [4,368,395],idle:=[155] }
namespace Tab
def j(n:Int):V:=.int .i64 n
def y(n:Int):V:=.iface 1000000 (.int .i64 n)
def b(n:Int):V:=.int .u8 n
def S(l:List Nat):V:=.str l
def A(l:List V):V:=.agg l
def U(l:List V):V:=.tuple l
def L(l:List V):V:=.list l false
def M(l:List V):V:=.list l true
def t(n:Nat):aC:=.tmp n
def i(n:Int):aC:=.const (.int .i64 n)
def c(v:V):aC:=.const v
def T1:aC:=.const (.bool true)
def T0:aC:=.const (.bool false)
def o(d:Nat)(x:oM):Ins:=.op (some d) x
def q(x:oM):Ins:=.op none x
def m(d n:Nat):Ins:=.op (some d) (.mv (.tmp n))
def g1(a d:Nat)(x:oM):Ins:=.grd a true (some d) (.op (some d) x)
def g0(a d:Nat)(x:oM):Ins:=.grd a false (some d) (.op (some d) x)
def h1(a d n:Nat):Ins:=.grd a true (some d) (.op (some d) (.mv (.tmp n)))
def h0(a d n:Nat):Ins:=.grd a false (some d) (.op (some d) (.mv (.tmp n)))
def f(k n:Nat):oM:=.fieldAddr k (.tmp n)
def l(n:Nat):oM:=.qR (.tmp n)
def ll(k n:Nat):oM:=.qI k (.tmp n)
def e(k n:Nat):oM:=.extract k (.tmp n)
def k(d n:Nat)(xs:List aC):Ins:=.call (some d) n xs
def s(a b:aN):aN:=.seq a b
def r(l:List Ins):aN:=.region l
def z(n:Nat)(a b:aN):aN:=.cond (.tmp n) a b
def u1(d:Nat):Ins:=.op (some d) (.mv (.const (.bool true)))
def u0(d:Nat):Ins:=.op (some d) (.mv (.const (.bool false)))
def ci(d:Nat)(n:Int):Ins:=.op (some d) (.mv (.const (.int .i64 n)))
def fa(d k n:Nat):Ins:=.op (some d) (.fieldAddr k (.tmp n))
def ld(d n:Nat):Ins:=.op (some d) (.qR (.tmp n))
def la(d k n:Nat):Ins:=.op (some d) (.qI k (.tmp n))
def ex(d k n:Nat):Ins:=.op (some d) (.extract k (.tmp n))
def nc(d n:Nat):Ins:=.op (some d) (.tK (.tmp n))
def bv(d n:Nat):Ins:=.op (some d) (.CJ (.tmp n))
def bh(d n:Nat):Ins:=.op (some d) (.Gw (.tmp n))
def nt(d n:Nat):Ins:=.op (some d) (.not (.tmp n))
def ln(d k n:Nat):Ins:=.op (some d) (.len k (.tmp n))
def ia(d k a b:Nat):Ins:=.op (some d) (.ji k (.tmp a) (.tmp b))
def ap(d k a b:Nat):Ins:=.op (some d) (.append k (.tmp a) (.tmp b))
def ei(d k a:Nat)(n:Int):Ins:=.op (some d) (.eq false k (.tmp a) (.const (.int .i64 n)))
def bt(d:Nat)(x:BinOp)(a b:Nat):Ins:=.op (some d) (.bin x (.tmp a) (.tmp b))
def bi(d:Nat)(x:BinOp)(a:Nat)(n:Int):Ins:=.op (some d) (.bin x (.tmp a) (.const (.int .i64 n)))
def ka(d a b:Nat):Ins:=.op (some d) (.pick (.tmp a) (.const (.bool true)) (.tmp b))
def kb(d a b:Nat):Ins:=.op (some d) (.pick (.tmp a) (.const (.bool false)) (.tmp b))
def kc(d a b:Nat):Ins:=.op (some d) (.pick (.tmp a) (.tmp b) (.const (.bool true)))
def kd(d a b:Nat):Ins:=.op (some d) (.pick (.tmp a) (.tmp b) (.const (.bool false)))
def st(k a b:Nat):Ins:=.op none (.store k (.tmp a) (.tmp b))
def zx(n i:Nat):aN:=.cond (.tmp n) .skip (.exit i)
def bl(i:Nat)(c:aN):aN:=.block i (.loop c)
def R(n:Nat):Nat×Bool×Bool×Nat:=(n,false,false,0)
def Q2(n k:Nat):Nat×Bool×Bool×Nat:=(n,true,true,k)
def ck(n k m:Nat):Ins:=.chk none n (.qI k (.tmp m))
abbrev cf(i:Nat):Option bF:=OA Go.Proofs.Tryz.prog vZ i
end Tab
end Go.Vx
end
