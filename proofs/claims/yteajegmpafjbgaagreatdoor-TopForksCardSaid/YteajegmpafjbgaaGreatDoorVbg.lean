/- A part of the proof of TopForks. -/
import Derived.Test.YteajegmpafjbgaaGreatDoorProg
import Derived.Shelf.Strings.Builder1
import Derived.KernelRfl
set_option maxRecDepth 1000000
set_option maxHeartbeats 80000000
noncomputable section
section
namespace Go.Proofs.YteajegmpafjbgaaGreatDoor.bld
open Go.Shelf Go.RowKit
def rho:Ren:=⟨λx=>match x with|166=>16|240=>40|276=>141|169=>18|_=>0,λx=>match x with|0=>0|3=>3|4=>4|5=>5|9=>9|20=>20|37=>22|70=>73|72=>75|75=>84|80=>88|164=>268|127=>137|_=>0,λx=>x⟩
theorem lays166:Lays.n166 Tryz.prog rho where
 mixed:=by kernel_rfl
 f166:=by kernel_rfl
 f240:=by kernel_rfl
 f276:=by kernel_rfl
 t0:=Tryz.underlying0
 a0:=Tryz.isAgg0
 z0:=Tryz.sizeOf0
 v0:=Tryz.zeroValue0
 t3:=Tryz.underlying3
 a3:=Tryz.isAgg3
 z3:=Tryz.sizeOf3
 v3:=Tryz.zeroValue3
 t4:=Tryz.underlying4
 a4:=Tryz.isAgg4
 z4:=Tryz.sizeOf4
 v4:=Tryz.zeroValue4
 t9:=Tryz.underlying9
 a9:=Tryz.isAgg9
 z9:=Tryz.sizeOf9
 v9:=Tryz.zeroValue9
 t20:=Tryz.underlying20
 a20:=Tryz.isAgg20
 z20:=Tryz.sizeOf20
 v20:=Tryz.zeroValue20
 t37:=Tryz.underlying22
 a37:=Tryz.isAgg22
 z37:=Tryz.sizeOf22
 v37:=Tryz.zeroValue22
 t70:=Tryz.underlying73
 a70:=Tryz.isAgg73
 z70:=Tryz.sizeOf73
 v70:=Tryz.zeroValue73
 t72:=Tryz.underlying75
 a72:=Tryz.isAgg75
 z72:=Tryz.sizeOf75
 v72:=Tryz.zeroValue75
 t75:=Tryz.underlying84
 a75:=Tryz.isAgg84
 z75:=Tryz.sizeOf84
 v75:=Tryz.zeroValue84
 t164:=Tryz.underlying268
 a164:=Tryz.isAgg268
 z164:=Tryz.sizeOf268
 v164:=Tryz.zeroValue268
theorem lays169:Lays.n169 Tryz.prog rho where
 mixed:=by kernel_rfl
 f169:=by kernel_rfl
 t0:=Tryz.underlying0
 a0:=Tryz.isAgg0
 z0:=Tryz.sizeOf0
 v0:=Tryz.zeroValue0
 t3:=Tryz.underlying3
 a3:=Tryz.isAgg3
 z3:=Tryz.sizeOf3
 v3:=Tryz.zeroValue3
 t9:=Tryz.underlying9
 a9:=Tryz.isAgg9
 z9:=Tryz.sizeOf9
 v9:=Tryz.zeroValue9
 t37:=Tryz.underlying22
 a37:=Tryz.isAgg22
 z37:=Tryz.sizeOf22
 v37:=Tryz.zeroValue22
 t70:=Tryz.underlying73
 a70:=Tryz.isAgg73
 z70:=Tryz.sizeOf73
 v70:=Tryz.zeroValue73
 t72:=Tryz.underlying75
 a72:=Tryz.isAgg75
 z72:=Tryz.sizeOf75
 v72:=Tryz.zeroValue75
 t127:=Tryz.underlying137
 a127:=Tryz.isAgg137
 z127:=Tryz.sizeOf137
 v127:=Tryz.zeroValue137
theorem extra:Builder.Extra Tryz.prog rho where
 sizeBuilder:=by kernel_rfl
 liesBuilder:=by kernel_rfl
 t5:=Tryz.underlying5
 a5:=Tryz.isAgg5
 z5:=Tryz.sizeOf5
 v5:=Tryz.zeroValue5
 infoByte:=by kernel_rfl
 cellsByte:=by kernel_rfl
 sizeByte:=by kernel_rfl
 neB5:=by decide
theorem write(B b:Nat)(bs:List Value)(s:ByteArray)(w:World)(h:Lib.IsBuilder 75 5 B b bs w)(hlen:bs.length+s.size<=140737488355328)(hBw:B<=w.heap.size) :
  Calls Tryz.prog 16 #[.pointer (some ⟨b,0,none⟩),.string s] w λe w'=>e=.returned (.tuple #[.int .i64 s.size,.nilIface])/\(Lib.BuilderAt 75 5 B b (.pointer (some ⟨b,0,none⟩)) (bs++Lib.strCells s) w'/\Below B w w'):=Any.Builder_WriteString lays166 extra B b bs s w h hlen hBw
theorem string(B b:Nat)(l:List UInt8)(w:World)(h:Lib.IsBuilder 75 5 B b (Lib.byteCells l) w)(h0:l≠[]) :
  Calls Tryz.prog 18 #[.pointer (some ⟨b,0,none⟩)] w λe w'=>e=.returned (.string ⟨l.toArray⟩)/\Below B w w':=Any.Builder_String lays169 extra B b l w h h0
end Go.Proofs.YteajegmpafjbgaaGreatDoor.bld
end
