/- A part of the proof of TopLocks. -/
import Derived.Test.YtbbcoelimmpbaaaGreatDoorProg
import Derived.Shelf.Strings.Builder1
import Derived.KernelRfl
set_option maxRecDepth 1000000
noncomputable section
section
namespace Go.Proofs.YtbbcoelimmpbaaaGreatDoor.bld
open Go.Shelf Go.RowKit
def rho:Ren:=⟨fun x=>match x with|166=>15|240=>39|276=>140|169=>17|_=>0,fun x=>match x with|0=>0|3=>3|4=>4|5=>5|9=>9|20=>20|37=>22|70=>72|72=>74|75=>83|80=>87|164=>268|127=>136|_=>0,fun x=>x⟩
theorem lays166:Lays.n166 Tryz.prog rho where
 mixed:=by kernel_rfl
 f166:=by kernel_rfl
 f240:=by kernel_rfl
 f276:=by kernel_rfl
 t0:=Tryz.underlying0
 a0:=Tryz.isAgg0
 z0:=Tryz.sizeOf0
 v0:=Tryz.zeroValue0
 t3:=Tryz.underlying3
 a3:=Tryz.isAgg3
 z3:=Tryz.sizeOf3
 v3:=Tryz.zeroValue3
 t4:=Tryz.underlying4
 a4:=Tryz.isAgg4
 z4:=Tryz.sizeOf4
 v4:=Tryz.zeroValue4
 t9:=Tryz.underlying9
 a9:=Tryz.isAgg9
 z9:=Tryz.sizeOf9
 v9:=Tryz.zeroValue9
 t20:=Tryz.underlying20
 a20:=Tryz.isAgg20
 z20:=Tryz.sizeOf20
 v20:=Tryz.zeroValue20
 t37:=Tryz.underlying22
 a37:=Tryz.isAgg22
 z37:=Tryz.sizeOf22
 v37:=Tryz.zeroValue22
 t70:=Tryz.underlying72
 a70:=Tryz.isAgg72
 z70:=Tryz.sizeOf72
 v70:=Tryz.zeroValue72
 t72:=Tryz.underlying74
 a72:=Tryz.isAgg74
 z72:=Tryz.sizeOf74
 v72:=Tryz.zeroValue74
 t75:=Tryz.underlying83
 a75:=Tryz.isAgg83
 z75:=Tryz.sizeOf83
 v75:=Tryz.zeroValue83
 t164:=Tryz.underlying268
 a164:=Tryz.isAgg268
 z164:=Tryz.sizeOf268
 v164:=Tryz.zeroValue268
theorem lays169:Lays.n169 Tryz.prog rho where
 mixed:=by kernel_rfl
 f169:=by kernel_rfl
 t0:=Tryz.underlying0
 a0:=Tryz.isAgg0
 z0:=Tryz.sizeOf0
 v0:=Tryz.zeroValue0
 t3:=Tryz.underlying3
 a3:=Tryz.isAgg3
 z3:=Tryz.sizeOf3
 v3:=Tryz.zeroValue3
 t9:=Tryz.underlying9
 a9:=Tryz.isAgg9
 z9:=Tryz.sizeOf9
 v9:=Tryz.zeroValue9
 t37:=Tryz.underlying22
 a37:=Tryz.isAgg22
 z37:=Tryz.sizeOf22
 v37:=Tryz.zeroValue22
 t70:=Tryz.underlying72
 a70:=Tryz.isAgg72
 z70:=Tryz.sizeOf72
 v70:=Tryz.zeroValue72
 t72:=Tryz.underlying74
 a72:=Tryz.isAgg74
 z72:=Tryz.sizeOf74
 v72:=Tryz.zeroValue74
 t127:=Tryz.underlying136
 a127:=Tryz.isAgg136
 z127:=Tryz.sizeOf136
 v127:=Tryz.zeroValue136
theorem extra:Builder.Extra Tryz.prog rho where
 sizeBuilder:=by kernel_rfl
 liesBuilder:=by kernel_rfl
 t5:=Tryz.underlying5
 a5:=Tryz.isAgg5
 z5:=Tryz.sizeOf5
 v5:=Tryz.zeroValue5
 infoByte:=by kernel_rfl
 cellsByte:=by kernel_rfl
 sizeByte:=by kernel_rfl
 neB5:=by decide
theorem write (B b:Nat) (bs:List Value) (s:ByteArray) (w:World) (h:Lib.IsBuilder 74 5 B b bs w) (hlen:bs.length+s.size≤140737488355328) (hBw:B≤w.heap.size) :
  Calls Tryz.prog 15 #[.pointer (some ⟨b,0,none⟩),.string s] w fun e w'=>e=.returned (.tuple #[.int .i64 s.size,.nilIface])∧(Lib.BuilderAt 74 5 B b (.pointer (some ⟨b,0,none⟩)) (bs++Lib.strCells s) w'∧Below B w w'):=Any.Builder_WriteString lays166 extra B b bs s w h hlen hBw
theorem string (B b:Nat) (l:List UInt8) (w:World) (h:Lib.IsBuilder 74 5 B b (Lib.byteCells l) w) (h0:l≠[]) :
  Calls Tryz.prog 17 #[.pointer (some ⟨b,0,none⟩)] w fun e w'=>e=.returned (.string ⟨l.toArray⟩)∧Below B w w':=Any.Builder_String lays169 extra B b l w h h0
end Go.Proofs.YtbbcoelimmpbaaaGreatDoor.bld
end
