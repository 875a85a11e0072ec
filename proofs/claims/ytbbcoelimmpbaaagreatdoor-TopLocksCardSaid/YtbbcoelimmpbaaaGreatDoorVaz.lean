/- A part of the proof of TopLocks. -/
import Derived.Test.YtbbcoelimmpbaaaGreatDoorVax
import Derived.Test.YtbbcoelimmpbaaaGreatDoorVay
set_option linter.all false
set_option linter.unusedVariables false
set_option linter.unusedSimpArgs false
set_option maxRecDepth 1000000
noncomputable section
namespace Go.Vx.Tab
section
open Go
set_option maxHeartbeats 8000000
theorem k0:TT [] e0=true:=by decide +kernel
theorem k1:TT [e0] e1=true:=by decide +kernel
theorem k2:TT [] e2=true:=by decide +kernel
theorem k3:TT [] e3=true:=by decide +kernel
theorem k4:TT [] e4=true:=by decide +kernel
theorem k5:TT [e4] e5=true:=by decide +kernel
theorem k6:TT [] e6=true:=by decide +kernel
theorem k7:TT [] e7=true:=by decide +kernel
theorem k8:TT [e7] e8=true:=by decide +kernel
theorem k9:TT [] e9=true:=by decide +kernel
theorem k10:TT [] e10=true:=by decide +kernel
theorem k11:TT [] e11=true:=by decide +kernel
theorem k12:TT [e11] e12=true:=by decide +kernel
theorem k13:TT [] e13=true:=by decide +kernel
theorem k14:TT [] e14=true:=by decide +kernel
theorem k15:TT [] e15=true:=by decide +kernel
theorem k16:TT [] e16=true:=by decide +kernel
theorem k17:TT [] e17=true:=by decide +kernel
theorem k18:TT [e17] e18=true:=by decide +kernel
theorem k19:TT [] e19=true:=by decide +kernel
theorem k20:TT [] e20=true:=by decide +kernel
theorem k21:TT [e17,e20] e21=true:=by decide +kernel
theorem k22:TT [] e22=true:=by decide +kernel
theorem k23:TT [] e23=true:=by decide +kernel
theorem k24:TT [] e24=true:=by decide +kernel
theorem k25:TT [e21,e24] e25=true:=by decide +kernel
theorem k26:TT [] e26=true:=by decide +kernel
theorem k27:TT [e17,e20,e22] e27=true:=by decide +kernel
theorem k28:TT [] e28=true:=by decide +kernel
theorem k29:TT [e18,e24] e29=true:=by decide +kernel
theorem k30:TT [] e30=true:=by decide +kernel
theorem k31:TT [e24,e30] e31=true:=by decide +kernel
theorem k32:TT [] e32=true:=by decide +kernel
theorem k33:TT [e32] e33=true:=by decide +kernel
theorem k34:TT [] e34=true:=by decide +kernel
theorem k35:TT [e34] e35=true:=by decide +kernel
theorem k36:TT [] e36=true:=by decide +kernel
theorem k37:TT [e36] e37=true:=by decide +kernel
theorem k38:TT [] e38=true:=by decide +kernel
theorem k39:TT [e38] e39=true:=by decide +kernel
end
section
open Go
set_option maxHeartbeats 8000000
theorem k40:TT [] e40=true:=by decide +kernel
theorem k41:TT [e40] e41=true:=by decide +kernel
theorem k42:TT [] e42=true:=by decide +kernel
theorem k43:TT [] e43=true:=by decide +kernel
theorem k44:TT [] e44=true:=by decide +kernel
theorem k45:TT [] e45=true:=by decide +kernel
theorem k46:TT [] e46=true:=by decide +kernel
theorem k47:TT [e45,e46] e47=true:=by decide +kernel
theorem k48:TT [] e48=true:=by decide +kernel
theorem k49:TT [e46] e49=true:=by decide +kernel
theorem k50:TT [] e50=true:=by decide +kernel
theorem k51:TT [] e51=true:=by decide +kernel
theorem k52:TT [e45,e46,e51] e52=true:=by decide +kernel
theorem k53:TT [] e53=true:=by decide +kernel
theorem k54:TT [] e54=true:=by decide +kernel
theorem k55:TT [] e55=true:=by decide +kernel
theorem k56:TT [] e56=true:=by decide +kernel
theorem k57:TT [] e57=true:=by decide +kernel
theorem k58:TT [] e58=true:=by decide +kernel
theorem k59:TT [] e59=true:=by decide +kernel
theorem k60:TT [] e60=true:=by decide +kernel
theorem k61:TT [e60] e61=true:=by decide +kernel
end
section
open Go
set_option maxHeartbeats 8000000
theorem k62:TT [e17,e20,e22,e42,e50,e55,e58,e59] e62=true:=by decide +kernel
theorem k63:TT [e62] e63=true:=by decide +kernel
theorem k64:TT [e0,e1] e64=true:=by decide +kernel
theorem k65:TT [e2] e65=true:=by decide +kernel
theorem k66:TT [e3] e66=true:=by decide +kernel
theorem k67:TT [e4,e5] e67=true:=by decide +kernel
theorem k68:TT [] e68=true:=by decide +kernel
theorem k69:TT [e6] e69=true:=by decide +kernel
theorem k70:TT [e7,e8] e70=true:=by decide +kernel
theorem k71:TT [e9] e71=true:=by decide +kernel
theorem k72:TT [e10] e72=true:=by decide +kernel
theorem k73:TT [e11,e12] e73=true:=by decide +kernel
theorem k74:TT [e13] e74=true:=by decide +kernel
theorem k75:TT [e14] e75=true:=by decide +kernel
theorem k76:TT [e15] e76=true:=by decide +kernel
theorem k77:TT [e16] e77=true:=by decide +kernel
theorem k78:TT [] e78=true:=by decide +kernel
end
section
open Go
set_option maxHeartbeats 8000000
theorem k79:TT [e24,e27,e45,e46,e51,e58,e59] e79=true:=by decide +kernel
theorem k80:TT [e79] e80=true:=by decide +kernel
theorem k81:TT [e27,e42,e50,e55,e58,e59] e81=true:=by decide +kernel
end
end Go.Vx.Tab
