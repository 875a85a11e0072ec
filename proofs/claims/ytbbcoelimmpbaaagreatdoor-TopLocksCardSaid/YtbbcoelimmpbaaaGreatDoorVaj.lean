/- A part of the proof of TopLocks. -/
import Derived.Test.YtbbcoelimmpbaaaGreatDoorProg
import Derived.KernelRfl
import Derived.Test.YtbbcoelimmpbaaaGreatDoorVaa
set_option linter.all false
set_option linter.unusedVariables false
set_option linter.unusedSimpArgs false
set_option maxRecDepth 1000000
noncomputable section
section
namespace Go.Vx
def aA6:List (Nat×List Nat):=[(6,[10]),(8,[27]),(18,[2,3,4,5]),(19,[9,13]),(20,[2,5,10]),(26,[1,4]),(27,[4,5,11,13]),(29,[6,7,10,11,15]),(31,[1,2]),(32,[3]),(33,[2,3,6,7,24]),(36,[2]),(37,[2,6,16,20]),(38,[7]),(43,[1]),(56,[4,5]),(63,[5]),(65,[2,6]),(70,[1]),(71,[1]),(73,[2]),(74,[31]),(77,[3]),(78,[18]),(83,[40]),(102,[1]),(103,[3,6]),(106,[3]),(111,[1]),(114,[3,4,36,46]),(116,[8]),(117,[7]),(118,[21]),(119,[7]),(120,[21]),(122,[2]),(123,[1]),(124,[44]),(125,[2]),(127,[2]),(129,[9]),(131,[11]),(137,[2,3]),(139,[5]),(159,[1]),(160,[1]),(162,[3,4]),(168,[5,7]),(173,[2]),(176,[1]),(179,[2]),(188,[1]),(191,[2]),(195,[3,4]),(197,[21]),(202,[3]),(210,[1]),(219,[1]),(220,[3]),(225,[4,5,8]),(231,[2]),(242,[1]),(245,[1]),(257,[5]),(258,[1]),(261,[1]),(269,[1]),(273,[2,3]),(274,[2,3]),(276,[2,3]),(280,[1]),(284,[3]),(295,[3,7]),(301,[5]),(325,[10]),(326,[10]),(327,[15]),(328,[15]),(353,[3,4,5]),(356,[4]),(362,[2,3]),(368,[5]),(374,[12]),(376,[3,5]),(387,[5]),(396,[1]),(397,[1]),(403,[1]),(404,[3]),(438,[4]),(445,[6]),(466,[4,5]),(472,[2,3])]
def aAw:List Nat:=[3,4,5,6,7,8,10,11,12,13,14,16,18,19,20,21,22,23,24,25,26,27,28,29,30,31,32,33,35,36,37,38,40,41,42,43,44,46,47,48,49,50,51,52,53,54,55,56,57,58,59,60,61,62,63,64,67,68,69,70,71,72,73,74,75,76,77,78,79,80,83,84,85,86,87,89,90,91,92,93,94,95,97,98,101,102,103,105,106,107,108,109,110,111,112,113,114,115,116,117,118,119,120,121,122,123,124,125,126,127,129,130,131,132,133,134,138,139,141,142,143,144,147,149,150,151,152,153,154,155,156,157,158,159,160,162,163,164,165,168,170,171,172,173,174,175,176,177,179,180,181,182,188,189,192,193,194,195,196,197,201,202,204,205,207,209,211,213,214,215,216,217,218,220,221,222,223,224,225,226,227,228,229,231,233,235,237,238,239,242,243,250,251,252,253,254,255,256,257,259,260,262,264,265,266,268,270,272,273,274,275,276,277,281,282,283,284,286,287,288,289,290,291,293,294,295,296,297,298,299,300,303,307,309,310,311,312,317,318,330,331,332,333,334,335,336,342,343,346,348,349,350,351,352,353,354,355,356,358,359,360,361,362,363,364,365,366,367,368,369,370,376,389,390,391,392,393,394,395,396,397,398,399,400,401,402,404,405,408,409,410,411,412,413,414,415,416,419,420,429,434,435,436,438,439,440,441,443,444,445,449,450,452,453,454,459,460,461,462,465,466,467,468,470,472,473,489]
def arv:List (Nat×List Nat)→Nat→Nat→Bool
 |[],_,_=>false
 |(g,l)::r,f,t=>bif Nat.beq g f then vK t l else arv r f t
def qQ:Hints:={ hp:=arv aA6,fr:=fun f=>vK f aAw,fz:=fun f=>vK f [4,367,394],idle:=[154] }
namespace Tab
def j (n:Int):V:=.int .i64 n
def y (n:Int):V:=.iface 1000000 (.int .i64 n)
def b (n:Int):V:=.int .u8 n
def S (l:List Nat):V:=.str l
def A (l:List V):V:=.agg l
def U (l:List V):V:=.tuple l
def L (l:List V):V:=.list l false
def M (l:List V):V:=.list l true
def t (n:Nat):aF:=.tmp n
def i (n:Int):aF:=.const (.int .i64 n)
def c (v:V):aF:=.const v
def T1:aF:=.const (.bool true)
def T0:aF:=.const (.bool false)
def o (d:Nat) (x:l7):Ins:=.op (some d) x
def q (x:l7):Ins:=.op none x
def m (d n:Nat):Ins:=.op (some d) (.mv (.tmp n))
def g1 (a d:Nat) (x:l7):Ins:=.grd a true (some d) (.op (some d) x)
def g0 (a d:Nat) (x:l7):Ins:=.grd a false (some d) (.op (some d) x)
def h1 (a d n:Nat):Ins:=.grd a true (some d) (.op (some d) (.mv (.tmp n)))
def h0 (a d n:Nat):Ins:=.grd a false (some d) (.op (some d) (.mv (.tmp n)))
def f (k n:Nat):l7:=.fieldAddr k (.tmp n)
def l (n:Nat):l7:=.mF (.tmp n)
def ll (k n:Nat):l7:=.nR k (.tmp n)
def e (k n:Nat):l7:=.extract k (.tmp n)
def k (d n:Nat) (xs:List aF):Ins:=.call (some d) n xs
def s (a b:aH):aH:=.seq a b
def r (l:List Ins):aH:=.region l
def z (n:Nat) (a b:aH):aH:=.cond (.tmp n) a b
def u1 (d:Nat):Ins:=.op (some d) (.mv (.const (.bool true)))
def u0 (d:Nat):Ins:=.op (some d) (.mv (.const (.bool false)))
def ci (d:Nat) (n:Int):Ins:=.op (some d) (.mv (.const (.int .i64 n)))
def fa (d k n:Nat):Ins:=.op (some d) (.fieldAddr k (.tmp n))
def ld (d n:Nat):Ins:=.op (some d) (.mF (.tmp n))
def la (d k n:Nat):Ins:=.op (some d) (.nR k (.tmp n))
def ex (d k n:Nat):Ins:=.op (some d) (.extract k (.tmp n))
def nc (d n:Nat):Ins:=.op (some d) (.ji (.tmp n))
def bv (d n:Nat):Ins:=.op (some d) (.yA (.tmp n))
def bh (d n:Nat):Ins:=.op (some d) (.BR (.tmp n))
def nt (d n:Nat):Ins:=.op (some d) (.not (.tmp n))
def ln (d k n:Nat):Ins:=.op (some d) (.len k (.tmp n))
def ia (d k a b:Nat):Ins:=.op (some d) (.aV k (.tmp a) (.tmp b))
def ap (d k a b:Nat):Ins:=.op (some d) (.append k (.tmp a) (.tmp b))
def ei (d k a:Nat) (n:Int):Ins:=.op (some d) (.eq false k (.tmp a) (.const (.int .i64 n)))
def bt (d:Nat) (x:BinOp) (a b:Nat):Ins:=.op (some d) (.bin x (.tmp a) (.tmp b))
def bi (d:Nat) (x:BinOp) (a:Nat) (n:Int):Ins:=.op (some d) (.bin x (.tmp a) (.const (.int .i64 n)))
def ka (d a b:Nat):Ins:=.op (some d) (.pick (.tmp a) (.const (.bool true)) (.tmp b))
def kb (d a b:Nat):Ins:=.op (some d) (.pick (.tmp a) (.const (.bool false)) (.tmp b))
def kc (d a b:Nat):Ins:=.op (some d) (.pick (.tmp a) (.tmp b) (.const (.bool true)))
def kd (d a b:Nat):Ins:=.op (some d) (.pick (.tmp a) (.tmp b) (.const (.bool false)))
def st (k a b:Nat):Ins:=.op none (.store k (.tmp a) (.tmp b))
def zx (n i:Nat):aH:=.cond (.tmp n) .skip (.exit i)
def bl (i:Nat) (c:aH):aH:=.block i (.loop c)
def R (n:Nat):Nat×Bool×Bool×Nat:=(n,false,false,0)
def Q2 (n k:Nat):Nat×Bool×Bool×Nat:=(n,true,true,k)
def ck (n k m:Nat):Ins:=.chk none n (.nR k (.tmp m))
def z0:aH:=r [o 8 (.mv (c .aj))]
def z1:aH:=r [o 6 (.mv (c .aj))]
def z2:aH:=r [o 2 (.mv (c .aj))]
def z3:aH:=r [o 4 (.mv (c .aj))]
def z4:aH:=s (r [ci 4 0,u0 5]) .ret
def z5:aH:=r [m 6 0,ln 7 0 6,ci 8 0]
def z6:aH:=r [bi 18 .add 8 1,m 8 18]
def z7:aH:=r [o 4 (.mv (c .nilPtr))]
def z8:aH:=r [bv 1 0,o 2 (.mv (c (S [])))]
def z9:aH:=r [bv 1 0,o 2 (.mv (c .aj))]
def z10:aH:=r [m 9 3,bi 10 .sub 9 1,m 3 10]
def z11:aH:=r [bv 3 1,o 4 (.mv (c .nilPtr))]
def z12:aH:=r [la 4 5 1,k 5 36 [t 4],nt 6 5]
def z13:aH:=r [ia 12 1 8 10,ld 13 12,m 7 13]
def z14:aH:=s (r [la 21 5 3,st 5 2 21]) .ret
def z15:aH:=r [bh 1 0,o 2 (.mv (c .nilFunc))]
def z16:aH:=s z2 .ret
def z17:aH:=s (r [q (.store 1 (t 2) T0)]) .ret
def z18:aH:=s (r [q (.store 1 (t 2) T1)]) .ret
def z19:aH:=r [o 4 (.alloc [S [],j 0,.aj])]
def z20:aH:=r [ci 6 0,o 7 (.mv (c .nilIface))]
def z21:aH:=s (r [m 7 3,bi 8 .geq 7 0]) (zx 8 0)
def z22:aH:=r [bv 1 0,o 2 (.bM [.bool false])]
def z23:aH:=z 16 (s (r [m 17 5,m 4 17]) .ret) .skip
def z24:aH:=r [ld 4 1,ln 5 0 4,bi 6 .sub 5 1,m 3 6]
def z25:aH:=r [bh 2 0,bh 3 1,o 4 (.mv (c .nilFunc))]
def z26:aH:=r [bv 3 1,o 4 (.alloc [S [],j 0,.aj])]
def z27:aH:=z 5 (s (r [o 2 (.mv (c (S [])))]) .ret) .skip
def z28:aH:=r [o 2 (.alloc [j 0,S [],j 0,.aj,.aj])]
def z29:aH:=r [bv 3 1,o 4 (.alloc [j 0,S [],j 0,.aj,.aj])]
def z30:aH:=s (r [u0 2]) (s (r [m 3 0,bi 4 .lss 3 0,m 2 4]) .ret)
def z31:aH:=r [o 6 (.build [.nilPtr,S [],.aj] []),bh 7 6,m 5 7]
def z32:aH:=s (r [q (.store 1 (t 4) (i 0)),q (.store 1 (t 5) T0)]) .ret
def z33:aH:=s (r [q (.store 1 (t 2) (c .aj)),q (.store 1 (t 3) (i 100))]) .ret
def z34:aH:=r [m 14 0,nc 15 14,fa 16 1 15,ld 17 16,bi 18 .add 17 1,nc 19 14,fa 20 1 19,st 1 20 18]
def z35:aH:=r [m 8 1,m 9 0,o 10 (.cap (t 9)),m 11 0,ln 12 0 11,bt 13 .sub 10 12,bt 14 .sub 8 13,m 1 14]
def z36:aH:=s (r [bv 2 0,u0 3]) (s (r [fa 4 0 2,ld 5 4,ld 6 1,o 7 (.eq false 0 (t 5) (t 6)),m 3 7]) .ret)
def z37:aH:=s (r [m 3 0,o 4 (.eq false 3 (t 3) (c .aj))]) (z 4 z16 .skip)
def z38:aH:=r [bv 5 0,bv 6 1,bv 7 2,o 10 (.alloc [.aj,j 0]),o 11 (.alloc [j 0,.aj,j 0,.aj]),o 12 (.alloc [j 0,j 0])]
def z39:aH:=s z2 (s (r [m 3 0,m 4 0,ln 5 0 4,m 6 0,ln 7 0 6,o 8 (.slice false 2 (t 3) none (some (t 5)) (some (t 7))),m 2 8]) .ret)
def z40:aH:=s (r [m 5 1,bi 6 .lss 5 0]) (z 6 (r [o 7 (.gY 9 (c (S [99,97,110,110,111,116,32,98,101,32,110,101,103,97,116,105,118,101]))),q .bad]) .skip)
def z41:aH:=s z2 (s z37 (s (r [o 5 (.lit [j 0,j 0] 2 0 []),m 6 0,ap 7 2 5 6,m 2 7]) .ret))
def z42:aH:=s (s (r [m 25 0,ln 26 0 25,ci 27 0]) (bl 2 (s (r [bt 28 .lss 27 26]) (s (zx 28 2) (s (.block 3 (s (r [ia 29 1 25 27,ld 30 29,m 8 30]) (r [m 31 6,m 32 8,ap 33 1 31 32,m 6 33]))) (r [bi 34 .add 27 1,m 27 34])))))) (s (r [m 35 6,m 2 35]) .ret)
def z43:aH:=s z24 (bl 0 (s z21 (s (.block 1 (s (r [m 11 0,m 12 3,ld 13 1,m 14 3,ia 15 1 13 14,ld 16 15,.dyn (some 17) (t 11) [t 12,t 16],nt 18 17]) (z 18 .ret .skip))) z10)))
def z44:aH:=s (r [ld 6 1,ln 7 0 6,ci 8 0]) (bl 0 (s (r [bt 9 .lss 8 7]) (s (zx 9 0) (s (.block 1 (s (r [ia 10 2 6 8,la 11 2 10,o 5 (.alloc [j 0,j 0]),st 2 5 11]) (s (r [m 12 0,ld 13 2,la 14 2 5,.dyn (some 15) (t 13) [t 14],.dyn (some 16) (t 12) [t 15],nt 17 16]) (z 17 .ret .skip)))) z6))))
def z45:aH:=s (r [ci 4 0]) (s (s z5 (bl 0 (s (r [bt 9 .lss 8 7]) (s (zx 9 0) (s (.block 1 (s (r [m 10 8,m 5 10]) (s (r [m 11 1,m 12 0,m 13 5,ia 14 1 12 13,ld 15 14,.dyn (some 16) (t 11) [t 15]]) z23))) z6))))) (s (r [ci 4 (-1)]) .ret))
def z46:aH:=s (r [ci 4 0]) (s (s z5 (bl 0 (s (r [bt 9 .lss 8 7]) (s (zx 9 0) (s (.block 1 (s (r [m 10 8,m 5 10]) (s (r [m 11 1,m 12 0,m 13 5,ia 14 3 12 13,la 15 3 14,.dyn (some 16) (t 11) [t 15]]) z23))) z6))))) (s (r [ci 4 (-1)]) .ret))
def z47:aH:=s (r [ci 4 0]) (s (s z5 (bl 0 (s (r [bt 9 .lss 8 7]) (s (zx 9 0) (s (.block 1 (s (r [m 10 8,m 5 10]) (s (r [m 11 1,m 12 0,m 13 5,ia 14 5 12 13,la 15 5 14,.dyn (some 16) (t 11) [t 15]]) z23))) z6))))) (s (r [ci 4 (-1)]) .ret))
def z48:aH:=s (r [ci 4 0]) (s (s z5 (bl 0 (s (r [bt 9 .lss 8 7]) (s (zx 9 0) (s (.block 1 (s (r [m 10 8,m 5 10]) (s (r [m 11 1,m 12 0,m 13 5,ia 14 4 12 13,la 15 4 14,.dyn (some 16) (t 11) [t 15]]) z23))) z6))))) (s (r [ci 4 (-1)]) .ret))
def z49:aH:=s (r [ci 4 0]) (s (s z5 (bl 0 (s (r [bt 9 .lss 8 7]) (s (zx 9 0) (s (.block 1 (s (r [m 10 8,m 5 10]) (s (r [m 11 1,m 12 0,m 13 5,ia 14 2 12 13,la 15 2 14,.dyn (some 16) (t 11) [t 15]]) z23))) z6))))) (s (r [ci 4 (-1)]) .ret))
def z50:aH:=s (r [ci 4 0]) (s (s z5 (bl 0 (s (r [bt 9 .lss 8 7]) (s (zx 9 0) (s (.block 1 (s (r [m 10 8,m 5 10]) (s (r [m 11 1,m 12 0,m 13 5,ia 14 1 12 13,ld 15 14,o 16 (.eq false 0 (t 11) (t 15))]) z23))) z6))))) (s (r [ci 4 (-1)]) .ret))
def z51:aH:=s (r [m 9 0,ln 10 0 9,ci 11 0]) (bl 0 (s (r [bt 12 .lss 11 10]) (s (zx 12 0) (s (.block 1 (s (r [ia 13 1 9 11,ld 14 13,m 5 14]) (s (r [m 15 3,m 16 5,ln 17 0 16,bt 18 .add 15 17,m 3 18]) (s (r [m 19 3,bi 20 .lss 19 0]) (z 20 (r [o 21 (.gY 9 (c (S [108,101,110,32,111,117,116,32,111,102,32,114,97,110,103,101]))),q .bad]) .skip))))) (r [bi 22 .add 11 1,m 11 22])))))
noncomputable abbrev cf (i:Nat):Option ak:=Gv Go.Proofs.Tryz.prog qQ i
end Tab
end Go.Vx
end
