/- A part of the proof of TopLocks. -/
import Derived.Test.YtbbcoelimmpbaaaGreatDoorVax
import Derived.Test.YtbbcoelimmpbaaaGreatDoorVay
set_option linter.all false
set_option linter.unusedVariables false
set_option linter.unusedSimpArgs false
set_option maxRecDepth 1000000
noncomputable section
namespace Go.Vx.L0
section
open Go Go.Vx Go.Vx.Tab
noncomputable section
def s0:Ks:=⟨[j 1,j (-1),.aj,y 0,.aj,.aj,.aj,.aj,j 0,j 0,j 0],[A [j 4,j 37,S [],.aj]],.aj,0,1,true⟩
def C:Cst:=⟨aO (cellsD ami) 0,aO (cellsD ami) 1,4000,100⟩
def S (t:Nat):Ks:=s0
def K (t:Nat):Nat:=bif Nat.beq t 0 then 58 else 39
end
end
end Go.Vx.L0
namespace Go.Vx.L1
section
open Go Go.Vx Go.Vx.Tab
noncomputable section
def s0:Ks:=⟨[j 1,j (-1),.aj,y 0,.aj,.aj,.aj,.aj,j 0,j 0,j 0],[A [j 4,j 72,S [],.aj]],.aj,0,1,true⟩
def k1:Ks:=⟨[j 1,j (-1),.aj,y 18,.aj,.aj,.aj,.aj,j 0,j 0,j 0],[A [j 6,j 0,S [],L [y 5]],A [j 3,j 71,S [],.aj],A [j 6,j 0,S [],L [y 8]],.undef,.undef,A [j 2,j 2,S [98,105,110,100,73,79],L [y 2,y 1]],A [j 6,j 0,S [],L [y 11]],.undef,A [j 2,j 1,S [97,116,111,109,105,99,97,108,108,121],L [y 6]],A [j 1,j 0,S [],.aj],.undef,A [j 2,j 1,S [110,101,119,84,86,97,114],L [y 9]],A [j 7,j 0,S [],.aj],.undef,.undef,.undef,.undef,.undef,A [j 4,j 37,S [],L [y 12]],.undef,.undef,.undef],L [A [y 9,j 0]],0,2,false⟩
def C:Cst:=⟨aO (cellsD x150) 0,aO (cellsD x150) 1,4000,100⟩
def S (t:Nat):Ks:=bif Nat.beq t 1 then k1 else s0
def K (t:Nat):Nat:=bif Nat.beq t 0 then 71 else 39
end
end
end Go.Vx.L1
namespace Go.Vx.L2
section
open Go Go.Vx Go.Vx.Tab
noncomputable section
def s0:Ks:=⟨[j 1,j (-1),.aj,y 0,.aj,.aj,.aj,.aj,j 0,j 0,j 0],[A [j 4,j 107,S [],.aj]],.aj,0,1,true⟩
def k1:Ks:=⟨[j 1,j (-1),.aj,y 18,.aj,.aj,.aj,.aj,j 0,j 0,j 0],[A [j 6,j 0,S [],L [y 5]],A [j 3,j 106,S [],.aj],A [j 6,j 0,S [],L [y 8]],.undef,.undef,A [j 2,j 2,S [98,105,110,100,73,79],L [y 2,y 1]],A [j 6,j 0,S [],L [y 11]],.undef,A [j 2,j 1,S [97,116,111,109,105,99,97,108,108,121],L [y 6]],A [j 1,j 0,S [],.aj],.undef,A [j 2,j 1,S [110,101,119,84,86,97,114],L [y 9]],A [j 7,j 0,S [],.aj],.undef,.undef,.undef,.undef,.undef,A [j 4,j 37,S [],L [y 12]],.undef,.undef,.undef],L [A [y 9,j 0]],0,3,false⟩
def k2:Ks:=⟨[j 1,j (-1),.aj,y 27,.aj,.aj,.aj,.aj,j 0,j 0,j 0],[A [j 6,j 0,S [],L [y 5]],A [j 3,j 106,S [],.aj],A [j 6,j 0,S [],L [y 8]],.undef,.undef,A [j 2,j 2,S [98,105,110,100,73,79],L [y 2,y 1]],A [j 6,j 0,S [],L [y 11]],.undef,A [j 2,j 1,S [97,116,111,109,105,99,97,108,108,121],L [y 6]],A [j 1,j 0,S [],.aj],.undef,A [j 2,j 1,S [110,101,119,84,86,97,114],L [y 9]],A [j 7,j 0,S [],.aj],.undef,.undef,.undef,.undef,.undef,.undef,.undef,.undef,.undef,.undef,.undef,.undef,.undef,.undef,A [j 4,j 70,S [],L [y 12]],.undef,.undef,.undef],L [A [y 9,j 0]],0,3,false⟩
def C:Cst:=⟨aO (cellsD amh) 0,aO (cellsD amh) 1,4000,100⟩
def S (t:Nat):Ks:=bif Nat.beq t 1 then k1 else bif Nat.beq t 2 then k2 else s0
def K (t:Nat):Nat:=bif Nat.beq t 0 then 84 else 39
end
end
end Go.Vx.L2
namespace Go.Vx.L3
section
open Go Go.Vx Go.Vx.Tab
noncomputable section
def s0:Ks:=⟨[j 1,j (-1),.aj,y 0,.aj,.aj,.aj,.aj,j 0,j 0,j 0],[A [j 4,j 142,S [],.aj]],.aj,0,1,true⟩
def k1:Ks:=⟨[j 1,j (-1),.aj,y 18,.aj,.aj,.aj,.aj,j 0,j 0,j 0],[A [j 6,j 0,S [],L [y 5]],A [j 3,j 141,S [],.aj],A [j 6,j 0,S [],L [y 8]],.undef,.undef,A [j 2,j 2,S [98,105,110,100,73,79],L [y 2,y 1]],A [j 6,j 0,S [],L [y 11]],.undef,A [j 2,j 1,S [97,116,111,109,105,99,97,108,108,121],L [y 6]],A [j 1,j 0,S [],.aj],.undef,A [j 2,j 1,S [110,101,119,84,86,97,114],L [y 9]],A [j 7,j 0,S [],.aj],.undef,.undef,.undef,.undef,.undef,A [j 4,j 37,S [],L [y 12]],.undef,.undef,.undef],L [A [y 9,j 0]],0,4,false⟩
def k2:Ks:=⟨[j 1,j (-1),.aj,y 27,.aj,.aj,.aj,.aj,j 0,j 0,j 0],[A [j 6,j 0,S [],L [y 5]],A [j 3,j 141,S [],.aj],A [j 6,j 0,S [],L [y 8]],.undef,.undef,A [j 2,j 2,S [98,105,110,100,73,79],L [y 2,y 1]],A [j 6,j 0,S [],L [y 11]],.undef,A [j 2,j 1,S [97,116,111,109,105,99,97,108,108,121],L [y 6]],A [j 1,j 0,S [],.aj],.undef,A [j 2,j 1,S [110,101,119,84,86,97,114],L [y 9]],A [j 7,j 0,S [],.aj],.undef,.undef,.undef,.undef,.undef,.undef,.undef,.undef,.undef,.undef,.undef,.undef,.undef,.undef,A [j 4,j 70,S [],L [y 12]],.undef,.undef,.undef],L [A [y 9,j 0]],0,4,false⟩
def k3:Ks:=⟨[j 1,j (-1),.aj,y 36,.aj,.aj,.aj,.aj,j 0,j 0,j 0],[A [j 6,j 0,S [],L [y 5]],A [j 3,j 141,S [],.aj],A [j 6,j 0,S [],L [y 8]],.undef,.undef,A [j 2,j 2,S [98,105,110,100,73,79],L [y 2,y 1]],A [j 6,j 0,S [],L [y 11]],.undef,A [j 2,j 1,S [97,116,111,109,105,99,97,108,108,121],L [y 6]],A [j 1,j 0,S [],.aj],.undef,A [j 2,j 1,S [110,101,119,84,86,97,114],L [y 9]],A [j 7,j 0,S [],.aj],.undef,.undef,.undef,.undef,.undef,.undef,.undef,.undef,.undef,.undef,.undef,.undef,.undef,.undef,.undef,.undef,.undef,.undef,.undef,.undef,.undef,.undef,.undef,A [j 4,j 103,S [],L [y 12]],.undef,.undef,.undef],L [A [y 9,j 0]],0,4,false⟩
def C:Cst:=⟨aO (cellsD amg) 0,aO (cellsD amg) 1,4000,100⟩
def S (t:Nat):Ks:=bif Nat.beq t 1 then k1 else bif Nat.beq t 2 then k2 else bif Nat.beq t 3 then k3 else s0
def K (t:Nat):Nat:=bif Nat.beq t 0 then 97 else 39
end
end
end Go.Vx.L3
namespace Go.Vx.L4
section
open Go Go.Vx Go.Vx.Tab
noncomputable section
def s0:Ks:=⟨[j 1,j (-1),.aj,y 0,.aj,.aj,.aj,.aj,j 0,j 0,j 0],[A [j 4,j 177,S [],.aj]],.aj,0,1,true⟩
def k1:Ks:=⟨[j 1,j (-1),.aj,y 18,.aj,.aj,.aj,.aj,j 0,j 0,j 0],[A [j 6,j 0,S [],L [y 5]],A [j 3,j 176,S [],.aj],A [j 6,j 0,S [],L [y 8]],.undef,.undef,A [j 2,j 2,S [98,105,110,100,73,79],L [y 2,y 1]],A [j 6,j 0,S [],L [y 11]],.undef,A [j 2,j 1,S [97,116,111,109,105,99,97,108,108,121],L [y 6]],A [j 1,j 0,S [],.aj],.undef,A [j 2,j 1,S [110,101,119,84,86,97,114],L [y 9]],A [j 7,j 0,S [],.aj],.undef,.undef,.undef,.undef,.undef,A [j 4,j 37,S [],L [y 12]],.undef,.undef,.undef],L [A [y 9,j 0]],0,5,false⟩
def k2:Ks:=⟨[j 1,j (-1),.aj,y 27,.aj,.aj,.aj,.aj,j 0,j 0,j 0],[A [j 6,j 0,S [],L [y 5]],A [j 3,j 176,S [],.aj],A [j 6,j 0,S [],L [y 8]],.undef,.undef,A [j 2,j 2,S [98,105,110,100,73,79],L [y 2,y 1]],A [j 6,j 0,S [],L [y 11]],.undef,A [j 2,j 1,S [97,116,111,109,105,99,97,108,108,121],L [y 6]],A [j 1,j 0,S [],.aj],.undef,A [j 2,j 1,S [110,101,119,84,86,97,114],L [y 9]],A [j 7,j 0,S [],.aj],.undef,.undef,.undef,.undef,.undef,.undef,.undef,.undef,.undef,.undef,.undef,.undef,.undef,.undef,A [j 4,j 70,S [],L [y 12]],.undef,.undef,.undef],L [A [y 9,j 0]],0,5,false⟩
def k3:Ks:=⟨[j 1,j (-1),.aj,y 36,.aj,.aj,.aj,.aj,j 0,j 0,j 0],[A [j 6,j 0,S [],L [y 5]],A [j 3,j 176,S [],.aj],A [j 6,j 0,S [],L [y 8]],.undef,.undef,A [j 2,j 2,S [98,105,110,100,73,79],L [y 2,y 1]],A [j 6,j 0,S [],L [y 11]],.undef,A [j 2,j 1,S [97,116,111,109,105,99,97,108,108,121],L [y 6]],A [j 1,j 0,S [],.aj],.undef,A [j 2,j 1,S [110,101,119,84,86,97,114],L [y 9]],A [j 7,j 0,S [],.aj],.undef,.undef,.undef,.undef,.undef,.undef,.undef,.undef,.undef,.undef,.undef,.undef,.undef,.undef,.undef,.undef,.undef,.undef,.undef,.undef,.undef,.undef,.undef,A [j 4,j 103,S [],L [y 12]],.undef,.undef,.undef],L [A [y 9,j 0]],0,5,false⟩
def k4:Ks:=⟨[j 1,j (-1),.aj,y 45,.aj,.aj,.aj,.aj,j 0,j 0,j 0],[A [j 6,j 0,S [],L [y 5]],A [j 3,j 176,S [],.aj],A [j 6,j 0,S [],L [y 8]],.undef,.undef,A [j 2,j 2,S [98,105,110,100,73,79],L [y 2,y 1]],A [j 6,j 0,S [],L [y 11]],.undef,A [j 2,j 1,S [97,116,111,109,105,99,97,108,108,121],L [y 6]],A [j 1,j 0,S [],.aj],.undef,A [j 2,j 1,S [110,101,119,84,86,97,114],L [y 9]],A [j 7,j 0,S [],.aj],.undef,.undef,.undef,.undef,.undef,.undef,.undef,.undef,.undef,.undef,.undef,.undef,.undef,.undef,.undef,.undef,.undef,.undef,.undef,.undef,.undef,.undef,.undef,.undef,.undef,.undef,.undef,.undef,.undef,.undef,.undef,.undef,A [j 4,j 136,S [],L [y 12]],.undef,.undef,.undef],L [A [y 9,j 0]],0,5,false⟩
def C:Cst:=⟨aO (cellsD amj) 0,aO (cellsD amj) 1,4000,100⟩
def S (t:Nat):Ks:=bif Nat.beq t 1 then k1 else bif Nat.beq t 2 then k2 else bif Nat.beq t 3 then k3 else bif Nat.beq t 4 then k4 else s0
def K (t:Nat):Nat:=bif Nat.beq t 0 then 110 else 39
end
end
end Go.Vx.L4
