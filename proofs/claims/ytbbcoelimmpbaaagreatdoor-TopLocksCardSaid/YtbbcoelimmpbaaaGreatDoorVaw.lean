/- A part of the proof of TopLocks. -/
import Derived.Test.YtbbcoelimmpbaaaGreatDoorVau
set_option linter.all false
set_option linter.unusedVariables false
set_option linter.unusedSimpArgs false
set_option maxRecDepth 1000000
noncomputable section
namespace Go.Vx
section
open Go Go.RowKit
noncomputable section
def Um (ts:List Nat) (t:Nat):Bool:=qN (pz ED Tab.fns 1000000 (.call 438 [wv ts,jn t,zl]) zX bx0 emp) (.tuple [wv (ts++[t]),.int .i64 0])&&(bT [wv ts,jn t,zl]&&aW (.tuple [wv (ts++[t]),.int .i64 0]))
def inL (t:Nat):List Nat→Bool
 |[]=>false
 |u::us=>Nat.beq u t||inL t us
def allB (p:Nat→Bool):Nat→Bool
 |0=>true
 |t+1=>p t&&allB p t
def Aw:Nat→List Nat→Bool
 |0,_=>false
 |n+1,ts=>allB (fun t=>inL t ts||Um ts t) 6&&allB (fun t=>inL t ts||Aw n (ts++[t])) 5
theorem Oi {p:Nat→Bool}:∀ {n:Nat},allB p n=true→∀ t,t<n→p t=true
 |0,_,t,ht=>by omega
 |n+1,h,t,ht=>by
  simp only [allB,au] at h
  by_cases e:t=n
  ·subst e;exact h.1
  ·exact Oi h.2 t (by omega)
theorem W9 {t:Nat}:∀ {ts:List Nat},inL t ts=true→t∈ts
 |[],h=>by cases h
 |u::us,h=>by
  simp only [inL,gu] at h
  rcases h with h|h
  ·rw [aJ h];exact fF
  ·exact eX _ (W9 h)
theorem Un:∀ {n:Nat} {ts:List Nat},Aw n ts=true→∀ us:List Nat,(ts++us).Nodup→(∀ u∈us,u≤4)→∀ t,t≤5→t∉ts++us→Um (ts++us) t=true
 |0,ts,h,us,hn,hu,t,ht,hm=>by cases h
 |n+1,ts,h,us,hn,hu,t,ht,hm=>by
  simp only [Aw,au] at h
  cases us with
  |nil =>
   rw [List.append_nil] at hm ⊢
   have h1:=Oi h.1 t (by omega)
   simp only [gu] at h1
   rcases h1 with h1|h1
   ·exact absurd (W9 h1) hm
   ·exact h1
  |cons u us =>
   have h1:=Oi h.2 u (by have:=hu u fF;omega)
   simp only [gu] at h1
   have e:ts++u::us=(ts++[u])++us:=by simp
   rcases h1 with h1|h1
   ·have:=W9 h1
    rw [List.nodup_append] at hn
    exact absurd rfl (hn.2.2 u this u fF)
   ·rw [e] at hn hm ⊢
    exact Un h1 us hn (fun v hv=>hu v (eX _ hv)) t ht hm
theorem ay5:allB (fun t=>inL t []||Um [] t) 6=true:=by decide +kernel
theorem ay6:Aw 5 [0]=true:=by decide +kernel
theorem ay7:Aw 5 [1]=true:=by decide +kernel
theorem ay8:Aw 5 [2]=true:=by decide +kernel
theorem ay9:Aw 5 [3]=true:=by decide +kernel
theorem aza:Aw 5 [4]=true:=by decide +kernel
theorem Yi {n:Nat} {ts:List Nat}:Aw (n+1) ts=(allB (fun t=>inL t ts||Um ts t) 6&&allB (fun t=>inL t ts||Aw n (ts++[t])) 5):=rfl
theorem agm:Aw (5+1) []=true:=by
 rw [Yi,ay5,Bool.true_and]
 simp only [allB,inL,Bool.false_or,List.nil_append,ay6,ay7,ay8,ay9,aza,Bool.and_true]
theorem EH {N:Nat} (hN:N≤4) (ts:List Nat) (t:Nat) (h1:ts.Nodup) (h2:∀ u∈ts,u≤N) (h3:t≤N+1) (h4:t∉ts):Cc 438 [wv ts,jn t,zl] (.tuple [wv (ts++[t]),.int .i64 0]):=by
 have h:=Un agm ts (by simpa using h1) (fun u hu=>by have:=h2 u hu;omega) t (by omega) (by simpa using h4)
 simp only [List.nil_append,Um,au] at h
 exact evX h.1 h.2.1 h.2.2
end
end
end Go.Vx
