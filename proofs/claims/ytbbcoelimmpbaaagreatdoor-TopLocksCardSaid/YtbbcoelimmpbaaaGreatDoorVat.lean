/- A part of the proof of TopLocks. -/
import Derived.Test.YtbbcoelimmpbaaaGreatDoorWaa
import Derived.Test.YtbbcoelimmpbaaaGreatDoorVak
import Derived.Test.YtbbcoelimmpbaaaGreatDoorVal
import Derived.Test.YtbbcoelimmpbaaaGreatDoorVam
import Derived.Test.YtbbcoelimmpbaaaGreatDoorVan
import Derived.Test.YtbbcoelimmpbaaaGreatDoorVao
import Derived.Test.YtbbcoelimmpbaaaGreatDoorVap
import Derived.Test.YtbbcoelimmpbaaaGreatDoorVaq
import Derived.Test.YtbbcoelimmpbaaaGreatDoorVar
import Derived.Test.YtbbcoelimmpbaaaGreatDoorVas
set_option linter.all false
set_option linter.unusedVariables false
set_option linter.unusedSimpArgs false
set_option maxRecDepth 1000000
noncomputable section
open Go Go.RowKit
namespace Go.Vx.Tab
def Q (i:Nat) (v:ak):Prop:=Gv Go.Proofs.Tryz.prog qQ i=some v∧(v.ext≠0→Gq Go.Proofs.Tryz.prog qQ i v)
theorem qe {i:Nat} {v:ak} (h:cf i=some v) (h0:v.ext=0):Q i v:=⟨h,fun hn=>absurd h0 hn⟩
def ns (v:ak) (l r:T ak):T ak:=.node (some v) l r
def nn (l r:T ak):T ak:=.node none l r
def E8 (p:Nat→ak→Prop):T ak→Nat→Nat→Prop
 |.leaf,_,_=>True
 |.node v l r,a,b=>(match v with|some x=>p b x|none=>True)∧E8 p l (2*a) (a+b)∧E8 p r (2*a) (2*a+b)
theorem E8.get {p:Nat→ak→Prop}:∀ {t:T ak} {a b:Nat},E8 p t a b→∀ (j:Nat) (x:ak),t.get j=some x→p (a*j+b) x
 |.leaf,_,_,_,j,x,h=>by cases h
 |.node v l r,a,b,ha,j,x,h=>by
  obtain ⟨h1,h2,h3⟩:=ha
  simp only [T.get] at h
  by_cases h0:j=0
  ·subst h0
   simp only [Nat.beq_refl,cond_true] at h
   subst h
   simpa using h1
  ·have hb:Nat.beq j 0=false:=by
    cases hq:Nat.beq j 0 with
    |false=>rfl
    |true=>exact absurd (aJ hq) h0
   simp only [hb,cond_false] at h
   cases hq:Nat.beq (j%2) 1 with
   |true =>
    have hm:=aJ hq
    simp only [hq,cond_true] at h
    have:=h2.get _ _ h
    have e:2*a*(j / 2)+(a+b)=a*j+b:=by
     have hj:j=2*(j / 2)+1:=by omega
     conv=>rhs;rw [hj]
     rw [Nat.mul_add,←Nat.mul_assoc,Nat.mul_comm a 2];omega
    rwa [e] at this
   |false =>
    have hm:j%2≠1:=by intro e;rw [e] at hq;cases hq
    simp only [hq,cond_false] at h
    have:=h3.get _ _ h
    have e:2*a*(j / 2-1)+(2*a+b)=a*j+b:=by
     have hj:j=2*(j / 2-1)+2:=by omega
     conv=>rhs;rw [hj]
     rw [Nat.mul_add,←Nat.mul_assoc,Nat.mul_comm a 2];omega
    rwa [e] at this
def ft7:T ak:=(ns vf7 (nn (ns aDl (ns aDP (ns asQ (ns auH .leaf .leaf) (nn .leaf .leaf)) (ns atJ (ns avq .leaf .leaf) (ns awN .leaf .leaf))) (ns aD7 (ns atl (ns au5 .leaf .leaf) (nn .leaf .leaf)) (ns aue (ns avL .leaf .leaf) .leaf))) (nn (nn (ns as6 (ns auW .leaf .leaf) (nn .leaf .leaf)) (ns atT (ns avy .leaf .leaf) (ns awX .leaf .leaf))) (ns asA (ns atA (nn .leaf .leaf) (nn .leaf .leaf)) (ns auu (ns avZ .leaf .leaf) .leaf)))) (ns aDh (ns aDt (ns aDX (ns asY (ns auP .leaf .leaf) (nn .leaf .leaf)) (nn (nn .leaf .leaf) (nn .leaf .leaf))) (nn (ns atu (ns ava .leaf .leaf) (nn .leaf .leaf)) (ns aum (ns avS .leaf .leaf) .leaf))) (ns aDI (ns Vj (ns ate (ns au3 .leaf .leaf) (nn .leaf .leaf)) (ns atZ (ns avG .leaf .leaf) (ns aw2 .leaf .leaf))) (ns asI (ns N7 (ns avj .leaf .leaf) (ns awJ .leaf .leaf)) (ns auB (nn .leaf .leaf) .leaf)))))
theorem ax5:E8 Q ft7 8 7:=⟨qe azy rfl,⟨ah,⟨qe ap6 rfl,⟨qe aqB rfl,⟨qe ahU rfl,⟨qe ajG rfl,ah,ah⟩,⟨ah,ah,ah⟩⟩,⟨qe aiQ rfl,⟨qe aku rfl,ah,ah⟩,⟨qe alS rfl,ah,ah⟩⟩⟩,⟨qe aqU rfl,⟨qe air rfl,⟨qe aj8 rfl,ah,ah⟩,⟨ah,ah,ah⟩⟩,⟨qe ajd rfl,⟨qe akP rfl,ah,ah⟩,ah⟩⟩⟩,⟨ah,⟨ah,⟨qe ah9 rfl,⟨qe ajV rfl,ah,ah⟩,⟨ah,ah,ah⟩⟩,⟨qe aiZ rfl,⟨qe akC rfl,ah,ah⟩,⟨qe al1 rfl,ah,ah⟩⟩⟩,⟨qe ahE rfl,⟨qe aiG rfl,⟨ah,ah,ah⟩,⟨ah,ah,ah⟩⟩,⟨qe ajt rfl,⟨qe ak3 rfl,ah,ah⟩,ah⟩⟩⟩⟩,⟨qe apZ rfl,⟨qe aqe rfl,⟨qe aqJ rfl,⟨qe ah2 rfl,⟨qe ajO rfl,ah,ah⟩,⟨ah,ah,ah⟩⟩,⟨ah,⟨ah,ah,ah⟩,⟨ah,ah,ah⟩⟩⟩,⟨ah,⟨qe aiz rfl,⟨qe ake rfl,ah,ah⟩,⟨ah,ah,ah⟩⟩,⟨qe ajl rfl,⟨qe akW rfl,ah,ah⟩,ah⟩⟩⟩,⟨qe aqu rfl,⟨qe aqQ rfl,⟨qe aik rfl,⟨qe aj2 rfl,ah,ah⟩,⟨ah,ah,ah⟩⟩,⟨qe ai5 rfl,⟨qe akJ rfl,ah,ah⟩,⟨qe al6 rfl,ah,ah⟩⟩⟩,⟨qe ahM rfl,⟨qe aiL rfl,⟨qe akn rfl,ah,ah⟩,⟨qe alN rfl,ah,ah⟩⟩,⟨qe ajA rfl,⟨ah,ah,ah⟩,ah⟩⟩⟩⟩⟩
def aAy:T ak:=(ns aC9 (ns aDd (ns aDp (ns aDT (ns asV (ns auL .leaf .leaf) (nn .leaf .leaf)) (ns atM (ns avt .leaf .leaf) (ns awQ .leaf .leaf))) (ns aEa (ns atp (ns au7 .leaf .leaf) (ns awx .leaf .leaf)) (ns aui (ns avP .leaf .leaf) .leaf))) (ns aDE (ns aD1 (ns ata (nn .leaf .leaf) (ns awj .leaf .leaf)) (nn (ns avD .leaf .leaf) (nn .leaf .leaf))) (ns asE (nn (ns avf .leaf .leaf) (ns awF .leaf .leaf)) (nn (nn .leaf .leaf) .leaf)))) (nn (ns aDx (nn (ns as3 (ns auT .leaf .leaf) (ns awe .leaf .leaf)) (nn (nn .leaf .leaf) (ns awS .leaf .leaf))) (ns asw (ns atx (ns avc .leaf .leaf) (nn .leaf .leaf)) (ns auq (ns avV .leaf .leaf) .leaf))) (nn (nn (ns ath (nn .leaf .leaf) (ns awp .leaf .leaf)) (ns aua (nn .leaf .leaf) .leaf)) (ns asM (ns atH (ns avm .leaf .leaf) (nn .leaf .leaf)) (ns auE (ns av5 .leaf .leaf) .leaf)))))
theorem anL:E8 Q aAy 8 11:=⟨qe apP rfl,⟨qe apV rfl,⟨qe aqa rfl,⟨qe aqF rfl,⟨qe ahZ rfl,⟨qe ajK rfl,ah,ah⟩,⟨ah,ah,ah⟩⟩,⟨qe aiT rfl,⟨qe akx rfl,ah,ah⟩,⟨qe alV rfl,ah,ah⟩⟩⟩,⟨qe aqX rfl,⟨qe aiv rfl,⟨qe akb rfl,ah,ah⟩,⟨qe alD rfl,ah,ah⟩⟩,⟨qe ajh rfl,⟨qe akT rfl,ah,ah⟩,ah⟩⟩⟩,⟨qe aqp rfl,⟨qe aqN rfl,⟨qe aie rfl,⟨ah,ah,ah⟩,⟨qe aln rfl,ah,ah⟩⟩,⟨ah,⟨qe akG rfl,ah,ah⟩,⟨ah,ah,ah⟩⟩⟩,⟨qe ahI rfl,⟨ah,⟨qe akj rfl,ah,ah⟩,⟨qe alJ rfl,ah,ah⟩⟩,⟨ah,⟨ah,ah,ah⟩,ah⟩⟩⟩⟩,⟨ah,⟨qe aqi rfl,⟨ah,⟨qe ah6 rfl,⟨qe ajS rfl,ah,ah⟩,⟨qe alg rfl,ah,ah⟩⟩,⟨ah,⟨ah,ah,ah⟩,⟨qe alX rfl,ah,ah⟩⟩⟩,⟨qe ahA rfl,⟨qe aiD rfl,⟨qe akg rfl,ah,ah⟩,⟨ah,ah,ah⟩⟩,⟨qe ajp rfl,⟨qe akZ rfl,ah,ah⟩,ah⟩⟩⟩,⟨ah,⟨ah,⟨qe aio rfl,⟨ah,ah,ah⟩,⟨qe alv rfl,ah,ah⟩⟩,⟨qe ai9 rfl,⟨ah,ah,ah⟩,ah⟩⟩,⟨qe ahQ rfl,⟨qe aiO rfl,⟨qe akq rfl,ah,ah⟩,⟨ah,ah,ah⟩⟩,⟨qe ajD rfl,⟨⟨ak8,fun _=>aa1 Go.Proofs.Tryz.func379 (by kernel_rfl) (by kernel_rfl) (by kernel_rfl) (by kernel_rfl) rfl⟩,ah,ah⟩,ah⟩⟩⟩⟩⟩
def ft9:T ak:=(ns vf9 (nn (ns aDn (ns aDR (ns asT (ns auJ .leaf .leaf) (nn .leaf .leaf)) (nn (nn .leaf .leaf) (nn .leaf .leaf))) (ns aD8 (ns atn (ns au6 .leaf .leaf) (ns awv .leaf .leaf)) (ns aug (ns avN .leaf .leaf) .leaf))) (ns aDC (ns aDZ (ns as8 (ns auY .leaf .leaf) (ns awi .leaf .leaf)) (ns atV (ns avA .leaf .leaf) (ns awZ .leaf .leaf))) (ns asC (ns atC (nn .leaf .leaf) (nn .leaf .leaf)) (ns oL (ns av2 .leaf .leaf) .leaf)))) (ns aDj (ns aDv (ns aDY (ns as1 (ns auR .leaf .leaf) (ns awc .leaf .leaf)) (nn (ns avv .leaf .leaf) (nn .leaf .leaf))) (nn (ns aan (nn .leaf .leaf) (nn .leaf .leaf)) (ns auo (nn .leaf .leaf) .leaf))) (ns aDK (ns aD4 (ns atg (ns aao .leaf .leaf) (ns awn .leaf .leaf)) (ns at6 (nn .leaf .leaf) (ns aw4 .leaf .leaf))) (ns asK (ns atG (ns avk .leaf .leaf) (nn .leaf .leaf)) (ns auC (nn .leaf .leaf) .leaf)))))
theorem ax7:E8 Q ft9 8 9:=⟨qe azA rfl,⟨ah,⟨qe ap8 rfl,⟨qe aqD rfl,⟨qe ahW rfl,⟨qe ajI rfl,ah,ah⟩,⟨ah,ah,ah⟩⟩,⟨ah,⟨ah,ah,ah⟩,⟨ah,ah,ah⟩⟩⟩,⟨qe aqV rfl,⟨qe ait rfl,⟨qe aj9 rfl,ah,ah⟩,⟨qe alB rfl,ah,ah⟩⟩,⟨qe ajf rfl,⟨qe akR rfl,ah,ah⟩,ah⟩⟩⟩,⟨qe aqn rfl,⟨qe aqL rfl,⟨qe aib rfl,⟨qe ajX rfl,ah,ah⟩,⟨qe alm rfl,ah,ah⟩⟩,⟨qe ai1 rfl,⟨qe akE rfl,ah,ah⟩,⟨qe al3 rfl,ah,ah⟩⟩⟩,⟨qe ahG rfl,⟨qe aiI rfl,⟨ah,ah,ah⟩,⟨ah,ah,ah⟩⟩,⟨qe ajv rfl,⟨qe ak5 rfl,ah,ah⟩,ah⟩⟩⟩⟩,⟨qe ap1 rfl,⟨qe aqg rfl,⟨qe aqK rfl,⟨qe ah4 rfl,⟨qe ajQ rfl,ah,ah⟩,⟨qe ale rfl,ah,ah⟩⟩,⟨ah,⟨qe akz rfl,ah,ah⟩,⟨ah,ah,ah⟩⟩⟩,⟨ah,⟨qe aiB rfl,⟨ah,ah,ah⟩,⟨ah,ah,ah⟩⟩,⟨qe ajn rfl,⟨ah,ah,ah⟩,ah⟩⟩⟩,⟨qe aqw rfl,⟨qe aqR rfl,⟨qe ain rfl,⟨qe aj3 rfl,ah,ah⟩,⟨qe alr rfl,ah,ah⟩⟩,⟨qe ai7 rfl,⟨ah,ah,ah⟩,⟨qe al8 rfl,ah,ah⟩⟩⟩,⟨qe ahO rfl,⟨qe aiN rfl,⟨qe ako rfl,ah,ah⟩,⟨ah,ah,ah⟩⟩,⟨qe ajB rfl,⟨ah,ah,ah⟩,ah⟩⟩⟩⟩⟩
def aAA:T ak:=(ns ahX (ns aDf (ns aDr (ns aDV (ns asX (ns auN .leaf .leaf) (nn .leaf .leaf)) (ns atO (nn .leaf .leaf) (nn .leaf .leaf))) (ns asq (ns atr (ns au9 .leaf .leaf) (nn .leaf .leaf)) (ns auk (ns avR .leaf .leaf) .leaf))) (ns aDG (ns aD3 (ns atc (ns au1 .leaf .leaf) (nn .leaf .leaf)) (ns atX (ns avE .leaf .leaf) (nn .leaf .leaf))) (ns asG (nn (ns avh .leaf .leaf) (ns awH .leaf .leaf)) (ns auz (nn .leaf .leaf) .leaf)))) (ns aDk (ns aDz (nn (ns as4 (nn .leaf .leaf) (ns awg .leaf .leaf)) (ns atQ (ns avx .leaf .leaf) (ns awV .leaf .leaf))) (ns asy (nn (nn .leaf .leaf) (ns awC .leaf .leaf)) (ns aus (ns avX .leaf .leaf) .leaf))) (ns aDN (nn (nn (nn .leaf .leaf) (ns awr .leaf .leaf)) (ns auc (ns avJ .leaf .leaf) .leaf)) (ns asO (nn (ns avo .leaf .leaf) (ns awL .leaf .leaf)) (ns auG (nn .leaf .leaf) .leaf)))))
theorem anN:E8 Q aAA 8 13:=⟨qe apR rfl,⟨qe apX rfl,⟨qe aqc rfl,⟨qe aqH rfl,⟨qe ah1 rfl,⟨qe ajM rfl,ah,ah⟩,⟨ah,ah,ah⟩⟩,⟨qe aiV rfl,⟨ah,ah,ah⟩,⟨ah,ah,ah⟩⟩⟩,⟨qe ahw rfl,⟨qe aix rfl,⟨qe akd rfl,ah,ah⟩,⟨ah,ah,ah⟩⟩,⟨qe ajj rfl,⟨qe akV rfl,ah,ah⟩,ah⟩⟩⟩,⟨qe aqs rfl,⟨qe aqP rfl,⟨qe aii rfl,⟨qe aj0 rfl,ah,ah⟩,⟨ah,ah,ah⟩⟩,⟨qe ai3 rfl,⟨qe akH rfl,ah,ah⟩,⟨ah,ah,ah⟩⟩⟩,⟨qe ahK rfl,⟨ah,⟨qe akl rfl,ah,ah⟩,⟨qe alL rfl,ah,ah⟩⟩,⟨qe ajy rfl,⟨ah,ah,ah⟩,ah⟩⟩⟩⟩,⟨qe ap4 rfl,⟨qe aqk rfl,⟨ah,⟨qe ah7 rfl,⟨ah,ah,ah⟩,⟨qe ali rfl,ah,ah⟩⟩,⟨qe aiY rfl,⟨qe akB rfl,ah,ah⟩,⟨qe alZ rfl,ah,ah⟩⟩⟩,⟨qe ahC rfl,⟨ah,⟨ah,ah,ah⟩,⟨qe alG rfl,ah,ah⟩⟩,⟨qe ajr rfl,⟨qe ak1 rfl,ah,ah⟩,ah⟩⟩⟩,⟨qe aqz rfl,⟨ah,⟨ah,⟨ah,ah,ah⟩,⟨qe aly rfl,ah,ah⟩⟩,⟨qe ajb rfl,⟨qe akN rfl,ah,ah⟩,ah⟩⟩,⟨qe ahS rfl,⟨ah,⟨qe aks rfl,ah,ah⟩,⟨qe alQ rfl,ah,ah⟩⟩,⟨qe ajF rfl,⟨ah,ah,ah⟩,ah⟩⟩⟩⟩⟩
def ft8:T ak:=(ns vf8 (ns aDb (ns aDm (ns aDQ (ns asR (ns auI .leaf .leaf) (nn .leaf .leaf)) (ns atK (ns avr .leaf .leaf) (ns awO .leaf .leaf))) (nn (ns atm (nn .leaf .leaf) (ns awu .leaf .leaf)) (ns auf (ns avM .leaf .leaf) .leaf))) (ns aDB (nn (ns as7 (ns auX .leaf .leaf) (ns awh .leaf .leaf)) (ns atU (ns avz .leaf .leaf) (ns awY .leaf .leaf))) (ns asB (ns atB (nn .leaf .leaf) (ns awD .leaf .leaf)) (ns auv (ns av1 .leaf .leaf) .leaf)))) (ns aDi (ns aDu (nn (ns asZ (ns auQ .leaf .leaf) (ns av9 .leaf .leaf)) (nn (nn .leaf .leaf) (nn .leaf .leaf))) (ns asu (ns atv (ns avb .leaf .leaf) (nn .leaf .leaf)) (ns aun (ns avT .leaf .leaf) .leaf))) (ns aDJ (nn (ns atf (nn .leaf .leaf) (ns awm .leaf .leaf)) (ns at1 (ns avH .leaf .leaf) (ns aw3 .leaf .leaf))) (ns asJ (ns atF (nn .leaf .leaf) (nn .leaf .leaf)) (nn (ns av4 .leaf .leaf) .leaf)))))
theorem ax6:E8 Q ft8 8 8:=⟨qe azz rfl,⟨qe apT rfl,⟨qe ap7 rfl,⟨qe aqC rfl,⟨qe ahV rfl,⟨qe ajH rfl,ah,ah⟩,⟨ah,ah,ah⟩⟩,⟨qe aiR rfl,⟨qe akv rfl,ah,ah⟩,⟨qe alT rfl,ah,ah⟩⟩⟩,⟨ah,⟨qe ais rfl,⟨ah,ah,ah⟩,⟨qe alA rfl,ah,ah⟩⟩,⟨qe aje rfl,⟨qe akQ rfl,ah,ah⟩,ah⟩⟩⟩,⟨qe aqm rfl,⟨ah,⟨qe aia rfl,⟨qe ajW rfl,ah,ah⟩,⟨qe alk rfl,ah,ah⟩⟩,⟨qe ai0 rfl,⟨qe akD rfl,ah,ah⟩,⟨qe al2 rfl,ah,ah⟩⟩⟩,⟨qe ahF rfl,⟨qe aiH rfl,⟨ah,ah,ah⟩,⟨⟨alH,fun _=>aa2 Go.Proofs.Tryz.func432 (by kernel_rfl) (by kernel_rfl) (by kernel_rfl) (by kernel_rfl) rfl⟩,ah,ah⟩⟩,⟨qe aju rfl,⟨qe ak4 rfl,ah,ah⟩,ah⟩⟩⟩⟩,⟨qe ap0 rfl,⟨qe aqf rfl,⟨ah,⟨qe ah3 rfl,⟨qe ajP rfl,ah,ah⟩,⟨qe ald rfl,ah,ah⟩⟩,⟨ah,⟨ah,ah,ah⟩,⟨ah,ah,ah⟩⟩⟩,⟨qe ahy rfl,⟨qe aiA rfl,⟨qe akf rfl,ah,ah⟩,⟨ah,ah,ah⟩⟩,⟨qe ajm rfl,⟨qe akX rfl,ah,ah⟩,ah⟩⟩⟩,⟨qe aqv rfl,⟨ah,⟨qe ail rfl,⟨ah,ah,ah⟩,⟨qe alq rfl,ah,ah⟩⟩,⟨qe ai6 rfl,⟨qe akK rfl,ah,ah⟩,⟨qe al7 rfl,ah,ah⟩⟩⟩,⟨qe ahN rfl,⟨qe aiM rfl,⟨ah,ah,ah⟩,⟨ah,ah,ah⟩⟩,⟨ah,⟨qe ak7 rfl,ah,ah⟩,ah⟩⟩⟩⟩⟩
def aAz:T ak:=(ns Bh (ns aDe (ns aDq (ns aDU (ns asW (ns auM .leaf .leaf) (ns av7 .leaf .leaf)) (ns atN (ns avu .leaf .leaf) (nn .leaf .leaf))) (ns aso (ns atq (ns au8 .leaf .leaf) (ns awy .leaf .leaf)) (ns auj (ns avQ .leaf .leaf) .leaf))) (ns aDF (ns aD2 (ns atb (ns au0 .leaf .leaf) (ns awk .leaf .leaf)) (ns atW (nn .leaf .leaf) (nn .leaf .leaf))) (ns asF (ns atE (ns avg .leaf .leaf) (ns awG .leaf .leaf)) (ns auy (nn .leaf .leaf) .leaf)))) (ns ap2 (ns aDy (nn (nn (ns auU .leaf .leaf) (ns awf .leaf .leaf)) (ns atP (nn .leaf .leaf) (ns awU .leaf .leaf))) (ns asx (ns aty (ns avd .leaf .leaf) (ns awz .leaf .leaf)) (ns aur (ns avW .leaf .leaf) .leaf))) (ns aDM (nn (ns ati (ns CP .leaf .leaf) (ns awq .leaf .leaf)) (ns aub (ns avI .leaf .leaf) .leaf)) (ns asN (nn (ns avn .leaf .leaf) (ns awK .leaf .leaf)) (ns auF (ns av6 .leaf .leaf) .leaf)))))
theorem anM:E8 Q aAz 8 12:=⟨qe apQ rfl,⟨qe apW rfl,⟨qe aqb rfl,⟨qe aqG rfl,⟨qe ah0 rfl,⟨qe ajL rfl,ah,ah⟩,⟨⟨ala,fun _=>WB Go.Proofs.Tryz.func388 (by kernel_rfl) (by kernel_rfl) (by kernel_rfl) (by kernel_rfl) rfl⟩,ah,ah⟩⟩,⟨qe aiU rfl,⟨qe aky rfl,ah,ah⟩,⟨ah,ah,ah⟩⟩⟩,⟨qe ahv rfl,⟨qe aiw rfl,⟨qe akc rfl,ah,ah⟩,⟨qe alE rfl,ah,ah⟩⟩,⟨qe aji rfl,⟨qe akU rfl,ah,ah⟩,ah⟩⟩⟩,⟨qe aqr rfl,⟨qe aqO rfl,⟨qe aif rfl,⟨qe ajZ rfl,ah,ah⟩,⟨qe alo rfl,ah,ah⟩⟩,⟨qe ai2 rfl,⟨ah,ah,ah⟩,⟨ah,ah,ah⟩⟩⟩,⟨qe ahJ rfl,⟨qe aiK rfl,⟨qe akk rfl,ah,ah⟩,⟨qe alK rfl,ah,ah⟩⟩,⟨qe ajx rfl,⟨ah,ah,ah⟩,ah⟩⟩⟩⟩,⟨qe ap3 rfl,⟨qe aqj rfl,⟨ah,⟨ah,⟨qe ajT rfl,ah,ah⟩,⟨qe alh rfl,ah,ah⟩⟩,⟨qe aiX rfl,⟨ah,ah,ah⟩,⟨qe alY rfl,ah,ah⟩⟩⟩,⟨qe ahB rfl,⟨qe aiE rfl,⟨qe akh rfl,ah,ah⟩,⟨qe alF rfl,ah,ah⟩⟩,⟨qe ajq rfl,⟨qe ak0 rfl,ah,ah⟩,ah⟩⟩⟩,⟨qe aqy rfl,⟨ah,⟨qe aip rfl,⟨qe aj7 rfl,ah,ah⟩,⟨qe alx rfl,ah,ah⟩⟩,⟨qe aja rfl,⟨qe akM rfl,ah,ah⟩,ah⟩⟩,⟨qe ahR rfl,⟨ah,⟨qe akr rfl,ah,ah⟩,⟨qe alP rfl,ah,ah⟩⟩,⟨qe ajE rfl,⟨qe ak9 rfl,ah,ah⟩,ah⟩⟩⟩⟩⟩
def aAx:T ak:=(ns aC8 (ns aDc (ns aDo (ns aDS (ns asU (ns auK .leaf .leaf) (nn .leaf .leaf)) (ns atL (ns avs .leaf .leaf) (ns awP .leaf .leaf))) (ns aD9 (ns ato (nn .leaf .leaf) (ns aww .leaf .leaf)) (ns auh (ns avO .leaf .leaf) .leaf))) (ns aDD (ns aD0 (ns as9 (ns auZ .leaf .leaf) (nn .leaf .leaf)) (nn (ns avC .leaf .leaf) (ns aw0 .leaf .leaf))) (ns asD (ns atD (ns ave .leaf .leaf) (ns awE .leaf .leaf)) (ns auw (ns av3 .leaf .leaf) .leaf)))) (nn (ns aDw (nn (ns as2 (ns auS .leaf .leaf) (ns awd .leaf .leaf)) (nn (ns avw .leaf .leaf) (ns awR .leaf .leaf))) (ns asv (ns atw (nn .leaf .leaf) (nn .leaf .leaf)) (ns aup (ns avU .leaf .leaf) .leaf))) (ns aDL (ns aD5 (nn (ns au4 .leaf .leaf) (ns awo .leaf .leaf)) (ns at7 (ns aaq .leaf .leaf) .leaf)) (ns asL (nn (ns avl .leaf .leaf) (ns aas .leaf .leaf)) (ns auD (nn .leaf .leaf) .leaf)))))
theorem anK:E8 Q aAx 8 10:=⟨qe apO rfl,⟨qe apU rfl,⟨qe ap9 rfl,⟨qe aqE rfl,⟨qe ahY rfl,⟨qe ajJ rfl,ah,ah⟩,⟨ah,ah,ah⟩⟩,⟨qe aiS rfl,⟨qe akw rfl,ah,ah⟩,⟨qe alU rfl,ah,ah⟩⟩⟩,⟨qe aqW rfl,⟨qe aiu rfl,⟨ah,ah,ah⟩,⟨qe alC rfl,ah,ah⟩⟩,⟨qe ajg rfl,⟨qe akS rfl,ah,ah⟩,ah⟩⟩⟩,⟨qe aqo rfl,⟨qe aqM rfl,⟨qe aic rfl,⟨qe ajY rfl,ah,ah⟩,⟨ah,ah,ah⟩⟩,⟨ah,⟨qe akF rfl,ah,ah⟩,⟨qe al4 rfl,ah,ah⟩⟩⟩,⟨qe ahH rfl,⟨qe aiJ rfl,⟨qe aki rfl,ah,ah⟩,⟨qe alI rfl,ah,ah⟩⟩,⟨qe ajw rfl,⟨qe ak6 rfl,ah,ah⟩,ah⟩⟩⟩⟩,⟨ah,⟨qe aqh rfl,⟨ah,⟨qe ah5 rfl,⟨qe ajR rfl,ah,ah⟩,⟨qe alf rfl,ah,ah⟩⟩,⟨ah,⟨qe akA rfl,ah,ah⟩,⟨qe alW rfl,ah,ah⟩⟩⟩,⟨qe ahz rfl,⟨qe aiC rfl,⟨ah,ah,ah⟩,⟨ah,ah,ah⟩⟩,⟨qe ajo rfl,⟨qe akY rfl,ah,ah⟩,ah⟩⟩⟩,⟨qe aqx rfl,⟨qe aqS rfl,⟨ah,⟨qe aj6 rfl,ah,ah⟩,⟨qe alu rfl,ah,ah⟩⟩,⟨qe ai8 rfl,⟨qe akL rfl,ah,ah⟩,ah⟩⟩,⟨qe ahP rfl,⟨ah,⟨qe akp rfl,ah,ah⟩,⟨qe alO rfl,ah,ah⟩⟩,⟨qe ajC rfl,⟨ah,ah,ah⟩,ah⟩⟩⟩⟩⟩
def aAB:T ak:=(ns aDa (ns aDg (ns aDs (ns aDW (nn (ns auO .leaf .leaf) (ns av8 .leaf .leaf)) (ns N8 (nn .leaf .leaf) (nn .leaf .leaf))) (ns asr (ns att (nn .leaf .leaf) (nn .leaf .leaf)) (ns aul (nn .leaf .leaf) .leaf))) (ns aDH (nn (ns atd (ns au2 .leaf .leaf) (ns awl .leaf .leaf)) (ns atY (ns avF .leaf .leaf) (ns aw1 .leaf .leaf))) (ns asH (nn (ns avi .leaf .leaf) (ns awI .leaf .leaf)) (ns auA (nn .leaf .leaf) .leaf)))) (ns Vh (ns aDA (nn (ns as5 (ns auV .leaf .leaf) (ns aar .leaf .leaf)) (nn (nn .leaf .leaf) (ns awW .leaf .leaf))) (ns asz (ns atz (nn .leaf .leaf) (nn .leaf .leaf)) (ns aut (ns avY .leaf .leaf) .leaf))) (ns aDO (ns aD6 (ns atj (nn .leaf .leaf) (ns awt .leaf .leaf)) (ns aud (ns avK .leaf .leaf) .leaf)) (ns asP (ns atI (ns avp .leaf .leaf) (ns awM .leaf .leaf)) (nn (nn .leaf .leaf) .leaf)))))
theorem anO:E8 Q aAB 8 14:=⟨qe apS rfl,⟨qe apY rfl,⟨qe aqd rfl,⟨qe aqI rfl,⟨ah,⟨qe ajN rfl,ah,ah⟩,⟨qe alb rfl,ah,ah⟩⟩,⟨qe aiW rfl,⟨ah,ah,ah⟩,⟨ah,ah,ah⟩⟩⟩,⟨qe ahx rfl,⟨qe aiy rfl,⟨ah,ah,ah⟩,⟨ah,ah,ah⟩⟩,⟨qe ajk rfl,⟨ah,ah,ah⟩,ah⟩⟩⟩,⟨qe aqt rfl,⟨ah,⟨qe aij rfl,⟨qe aj1 rfl,ah,ah⟩,⟨qe alp rfl,ah,ah⟩⟩,⟨qe ai4 rfl,⟨qe akI rfl,ah,ah⟩,⟨qe al5 rfl,ah,ah⟩⟩⟩,⟨qe ahL rfl,⟨ah,⟨qe akm rfl,ah,ah⟩,⟨qe alM rfl,ah,ah⟩⟩,⟨qe ajz rfl,⟨ah,ah,ah⟩,ah⟩⟩⟩⟩,⟨qe ap5 rfl,⟨qe aql rfl,⟨ah,⟨qe ah8 rfl,⟨qe ajU rfl,ah,ah⟩,⟨qe alj rfl,ah,ah⟩⟩,⟨ah,⟨ah,ah,ah⟩,⟨qe al0 rfl,ah,ah⟩⟩⟩,⟨qe ahD rfl,⟨qe aiF rfl,⟨ah,ah,ah⟩,⟨ah,ah,ah⟩⟩,⟨qe ajs rfl,⟨qe ak2 rfl,ah,ah⟩,ah⟩⟩⟩,⟨qe aqA rfl,⟨qe aqT rfl,⟨qe aiq rfl,⟨ah,ah,ah⟩,⟨qe alz rfl,ah,ah⟩⟩,⟨qe ajc rfl,⟨qe akO rfl,ah,ah⟩,ah⟩⟩,⟨qe ahT rfl,⟨qe aiP rfl,⟨qe akt rfl,ah,ah⟩,⟨qe alR rfl,ah,ah⟩⟩,⟨ah,⟨ah,ah,ah⟩,ah⟩⟩⟩⟩⟩
def ft:T ak:=(nn (nn (ns vf3 ft7 aAy) (ns vf5 ft9 aAA)) (nn (ns vf4 ft8 aAz) (nn aAx aAB)))
theorem aAC:E8 Q ft 1 0:=⟨ah,⟨ah,⟨qe azu rfl,ax5,anL⟩,⟨qe azw rfl,ax7,anN⟩⟩,⟨ah,⟨qe azv rfl,ax6,anM⟩,⟨ah,anK,anO⟩⟩⟩
def fns (i:Nat):Option ak:=ft.get i
theorem Jm:∀ f vf,fns f=some vf→Q f vf:=fun f vf h=>by
 have:=aAC.get f vf h
 rw [Nat.one_mul,Nat.add_zero] at this
 exact this
theorem mixes:Go.Proofs.Tryz.prog.follows .mixedOrders=true:=by kernel_rfl
theorem lW {mm:iO} (h:qR Go.Proofs.Tryz.prog qQ mm):∀ n,La Go.Proofs.Tryz.prog qQ (runM mm fns n) :=
 AU mixes h (fun f vf hf=>(Jm f vf hf).1) (fun f vf hf=>(Jm f vf hf).2) (fun q hq=>by
  have:q=154:=by simpa [qQ] using hq
  subst this;exact Ed)
end Go.Vx.Tab
namespace Go.Vx
section
def I (ns:List Int):List V:=ns.map (V.int .i64)
def nd (k n:Int) (nm:List Nat) (ks:V):V:=.agg [.int .i64 k,.int .i64 n,.str nm,ks]
variable {mm:iO}
theorem aK4:(0:Int)=Int.ofNat 0:=rfl
theorem aK5:(1:Int)=Int.ofNat 1:=rfl
theorem aK6:(2:Int)=Int.ofNat 2:=rfl
theorem aK7:(3:Int)=Int.ofNat 3:=rfl
theorem aK8:(4:Int)=Int.ofNat 4:=rfl
theorem aK9:(5:Int)=Int.ofNat 5:=rfl
theorem aLa:(6:Int)=Int.ofNat 6:=rfl
theorem aLb:(7:Int)=Int.ofNat 7:=rfl
theorem ays:(130:Int)=Int.ofNat 130:=rfl
theorem ayt:(140:Int)=Int.ofNat 140:=rfl
theorem ayy (a b:Nat):uK (.ofNat a) (.ofNat b)=Nat.blt a b:=rfl
theorem ayz (a b:Nat):uK (.ofNat a) (.negSucc b)=false:=rfl
theorem ayA (a b:Nat):uK (.negSucc a) (.ofNat b)=true:=rfl
theorem axW (a b:Nat):vZ (.ofNat a) (.ofNat b)=Nat.beq a b:=rfl
theorem axc (a b:Nat):Int.add (.ofNat a) (.ofNat b)=.ofNat (a+b):=rfl
theorem ame (m:Nat):yj .i64 (.ofNat m)=bif Nat.blt m 9223372036854775808 then .ofNat m else IntKind.i64.wrap (.ofNat m):=rfl
theorem ab4 (h:H):lenOf h 0 .aj=some 0:=rfl
theorem XK (h:H) (l:List V) (e:Bool):lenOf h 0 (.list l e)=some l.length:=rfl
theorem ab3 (h:H) (a b c:Nat) (d:Option Nat) (e:Nat):lenOf h 0 (.hsl a b c d e)=some c:=rfl
theorem ab5 (h:H) (s:List Nat):lenOf h 1 (.str s)=some s.length:=rfl
def zL (v:V):Bool:=match v with|.bf _ _=>true|_=>false
theorem adK:iD []=false:=rfl
theorem adJ (v:V) (l:List V):iD (v::l)=bif zL v then true else iD l:=by cases v<;>rfl
theorem abH:zL .undef=false:=rfl
theorem afc (b:Bool):zL (.bool b)=false:=rfl
theorem aoi (k:IntKind) (n:Int):zL (.int k n)=false:=rfl
theorem aok (s:List Nat):zL (.str s)=false:=rfl
theorem Xl:zL .nilPtr=false:=rfl
theorem afh (a b:Nat):zL (.bf a b)=true:=rfl
theorem aff (a b:Nat):zL (.dF a b)=false:=rfl
theorem afd (l:List V):zL (.gX l)=false:=rfl
theorem abE:zL .aj=false:=rfl
theorem afg (l:List V) (e:Bool):zL (.list l e)=false:=rfl
theorem aoh (a b c:Nat) (d:Option Nat) (e:Nat):zL (.hsl a b c d e)=false:=rfl
theorem Xk:zL .dV=false:=rfl
theorem aoj (a:Nat):zL (.map a)=false:=rfl
theorem Sr:zL .nilFunc=false:=rfl
theorem afe (f:Fn) (a b:List V):zL (.func f a b)=false:=rfl
theorem aog (l:List V):zL (.agg l)=false:=rfl
theorem abG (l:List V):zL (.tuple l)=false:=rfl
def WW:=And.intro @lV (And.intro @agV (And.intro @Yy (And.intro @Yz (And.intro @agU (And.intro @ahf (And.intro @YN (And.intro @adf (And.intro @adg (And.intro @amc (And.intro @ade (And.intro @apv (And.intro @ahe (And.intro @apu (And.intro @ahd (And.intro @YM (And.intro @YL (And.intro @YI (And.intro @ayn (And.intro @afa (And.intro @Xc (And.intro @ae7 (And.intro @abq (And.intro @aob (And.intro @abv (And.intro @abw (And.intro @abB (And.intro @abz (And.intro @aym (And.intro @an8 (And.intro @aof (And.intro @aoe (And.intro @RS (And.intro @abC (And.intro @afb (And.intro @Sl (And.intro @abD (And.intro @RZ (And.intro @Xj (And.intro @abx (And.intro @Si (And.intro @abA (And.intro @LC (And.intro @abt (And.intro @RY (And.intro @Xe (And.intro @abu (And.intro @Xf (And.intro @Xg (And.intro @Xi (And.intro @Xh (And.intro @OY (And.intro @RU (And.intro @aoa (And.intro @an9 (And.intro @aoc (And.intro @aod (And.intro @Xd (And.intro @RQ (And.intro @ae9 (And.intro @abr (And.intro @aby (And.intro @OZ (And.intro @Sj (And.intro @abp (And.intro @ae8 (And.intro @Ui (And.intro @PG (And.intro @amb (And.intro @ama (And.intro @adv (And.intro @abN (And.intro @aol (And.intro @afm (And.intro @ru (And.intro @yM (And.intro @Xz (And.intro @SE (And.intro @SC (And.intro @Ae (And.intro @Xw (And.intro @SB (And.intro @SL (And.intro @XC (And.intro @SI (And.intro @SK (And.intro @afk (And.intro @afj (And.intro @Xy (And.intro @abO (And.intro @abR (And.intro @adi (And.intro @ahg (And.intro @YO (And.intro @adk (And.intro @adl (And.intro @adu (And.intro @ae1 (And.intro @an3 (And.intro @kF (And.intro @iL (And.intro @Eu (And.intro @nK (And.intro @lT (And.intro @QD (And.intro @acv (And.intro @VW (And.intro @af5 (And.intro @aaH (And.intro @ao0 (And.intro @aaJ (And.intro @ao3 (And.intro @Oq (And.intro @Yf (And.intro @V3 (And.intro @aga (And.intro @VY (And.intro @af8 (And.intro @VX (And.intro @af6 (And.intro @QB (And.intro @acs (And.intro @VZ (And.intro @af9 (And.intro @aaG (And.intro @aoZ (And.intro @Oo (And.intro @Ye (And.intro @aaI (And.intro @ao1 (And.intro @Ll (And.intro @Ug (And.intro @cells_func (And.intro @af7 (And.intro @I8 (And.intro @PD (And.intro @aaF (And.intro @aoY (And.intro @QC (And.intro @acu (And.intro @adJ (And.intro @adK (And.intro @abH (And.intro @afc (And.intro @aoi (And.intro @aok (And.intro @Xl (And.intro @afh (And.intro @aff (And.intro @afd (And.intro @abE (And.intro @afg (And.intro @aoh (And.intro @Xk (And.intro @aoj (And.intro @Sr (And.intro @afe (And.intro @aog (And.intro @abG (And.intro @SA (And.intro @Xo (And.intro @abK (And.intro @abM (And.intro @O4 (And.intro @Xu (And.intro @Xr (And.intro @Xp (And.intro @Sv (And.intro @Xt (And.intro @abJ (And.intro @O1 (And.intro @abL (And.intro @LG (And.intro @Xq (And.intro @JA (And.intro @abI (And.intro @Sz (And.intro @azB (And.intro @aqZ (And.intro @ab4 (And.intro @XK (And.intro @ab3 (And.intro @ab5 (And.intro @aK4 (And.intro @aK5 (And.intro @aK6 (And.intro @aK7 (And.intro @aK8 (And.intro @aK9 (And.intro @aLa (And.intro @aLb (And.intro @ays (And.intro @ayt (And.intro @ayy (And.intro @ayz (And.intro @ayA (And.intro @axW (And.intro @axc (And.intro @ame (And.intro @Tab.j.eq_1 (And.intro @Tab.y.eq_1 (And.intro @Tab.b.eq_1 (And.intro @Tab.S.eq_1 (And.intro @Tab.A.eq_1 (And.intro @Tab.U.eq_1 (And.intro @Tab.L.eq_1 (And.intro @Tab.M.eq_1 (And.intro @Tab.t.eq_1 (And.intro @Tab.i.eq_1 (And.intro @Tab.c.eq_1 (And.intro @Tab.T1.eq_1 (And.intro @Tab.T0.eq_1 (And.intro @Tab.o.eq_1 (And.intro @Tab.q.eq_1 (And.intro @Tab.m.eq_1 (And.intro @Tab.g1.eq_1 (And.intro @Tab.g0.eq_1 (And.intro @Tab.h1.eq_1 (And.intro @Tab.h0.eq_1 (And.intro @Tab.f.eq_1 (And.intro @Tab.l.eq_1 (And.intro @Tab.ll.eq_1 (And.intro @Tab.e.eq_1 (And.intro @Tab.k.eq_1 (And.intro @Tab.s.eq_1 (And.intro @Tab.r.eq_1 (And.intro @Tab.z.eq_1 (And.intro @Tab.u1.eq_1 (And.intro @Tab.u0.eq_1 (And.intro @Tab.ci.eq_1 (And.intro @Tab.fa.eq_1 (And.intro @Tab.ld.eq_1 (And.intro @Tab.la.eq_1 (And.intro @Tab.ex.eq_1 (And.intro @Tab.nc.eq_1 (And.intro @Tab.bv.eq_1 (And.intro @Tab.bh.eq_1 (And.intro @Tab.nt.eq_1 (And.intro @Tab.ln.eq_1 (And.intro @Tab.ia.eq_1 (And.intro @Tab.ap.eq_1 (And.intro @Tab.ei.eq_1 (And.intro @Tab.bt.eq_1 (And.intro @Tab.bi.eq_1 (And.intro @Tab.ka.eq_1 (And.intro @Tab.kb.eq_1 (And.intro @Tab.kc.eq_1 (And.intro @Tab.kd.eq_1 (And.intro @Tab.st.eq_1 (And.intro @Tab.zx.eq_1 (And.intro @Tab.bl.eq_1 (And.intro @Tab.R.eq_1 (And.intro @Tab.Q2.eq_1 (And.intro @Tab.ck.eq_1 (And.intro @cond_true.{1} (And.intro @cond_false.{1} (And.intro @List.length_cons.{0} (And.intro @List.length_nil.{0} (And.intro @Nat.zero_add (And.intro @Nat.add_zero (And.intro @Bool.and_true (And.intro @Bool.true_and (And.intro @Bool.false_and (And.intro @Bool.and_false (And.intro @Bool.not_true (And.intro @Bool.not_false (And.intro @Bool.or_false (And.intro @Bool.false_or (And.intro @List.nil_append.{0} (@List.cons_append.{0})))))))))))))))))))))))))))))))))))))))))))))))))))))))))))))))))))))))))))))))))))))))))))))))))))))))))))))))))))))))))))))))))))))))))))))))))))))))))))))))))))))))))))))))))))))))))))))))))))))))))))))))))))))))))))))))))))))))))))))))))))))))))))))))))))))))))))))
def nP (m:Int) (x:Int):Prop:=uK x (Int.ofNat 0)=false∧uK x m=true
theorem fQ {m x:Int} {N:Nat} {h:H} (hx:nP m x) (hc:getCells h 0=some [.int .i64 m]) (h1:mm 346=none) :
  runM mm Tab.fns (N+40) (.call 346 [.int .i64 x,.dF 0 0]) [] [] h=.val (.bool false) h:=by
 obtain ⟨ha,hb⟩:=hx
 rw [dY (by simp [aG,h1]) (show Tab.fns 346=some Tab.aaq from rfl) rfl]
 simp -implicitDefEqProofs only [Tab.aaq,WW,dA,gG,aZ,jh,dD,bI,aK,cu,cO,eY,iE,fU,eP,aP,bD,aX,dB,dh,fO,aU,aS,bU,cZ,bW,pad,aF.ev,aF.evs,lF,dI,eF,bg,dQ,dS,bH,splice,bG,takeN,skip,dO,jg,bY,Nat.reduceAdd,Nat.reduceMul,Nat.reduceSub,Nat.beq,Nat.blt,Nat.ble,leave,finish,resV,eG,mk,eH,fE,kC,gq,fZ,eqK,lH,dZ,dK,iK,gJ,jF,OR.iG,findLabel,bn,iM,fC,leI,hc,ha,hb]
 simp [vW,dW,lM]
inductive Kids (m:Int):Nat→V→Prop
 |nil:Kids m 0 .aj
 |k0 {e:Bool}:Kids m 0 (.list [] e)
 |k1 {x0:Int} {e:Bool} (i0:nP m x0):Kids m 1 (.list [.int .i64 x0] e)
 |k2 {x0 x1:Int} {e:Bool} (i0:nP m x0) (i1:nP m x1):Kids m 2 (.list [.int .i64 x0,.int .i64 x1] e)
 |k3 {x0 x1 x2:Int} {e:Bool} (i0:nP m x0) (i1:nP m x1) (i2:nP m x2):Kids m 3 (.list [.int .i64 x0,.int .i64 x1,.int .i64 x2] e)
 |k4 {x0 x1 x2 x3:Int} {e:Bool} (i0:nP m x0) (i1:nP m x1) (i2:nP m x2) (i3:nP m x3):Kids m 4 (.list [.int .i64 x0,.int .i64 x1,.int .i64 x2,.int .i64 x3] e)
 |k5 {x0 x1 x2 x3 x4:Int} {e:Bool} (i0:nP m x0) (i1:nP m x1) (i2:nP m x2) (i3:nP m x3) (i4:nP m x4):Kids m 5 (.list [.int .i64 x0,.int .i64 x1,.int .i64 x2,.int .i64 x3,.int .i64 x4] e)
 |k6 {x0 x1 x2 x3 x4 x5:Int} {e:Bool} (i0:nP m x0) (i1:nP m x1) (i2:nP m x2) (i3:nP m x3) (i4:nP m x4) (i5:nP m x5):Kids m 6 (.list [.int .i64 x0,.int .i64 x1,.int .i64 x2,.int .i64 x3,.int .i64 x4,.int .i64 x5] e)
 |k7 {x0 x1 x2 x3 x4 x5 x6:Int} {e:Bool} (i0:nP m x0) (i1:nP m x1) (i2:nP m x2) (i3:nP m x3) (i4:nP m x4) (i5:nP m x5) (i6:nP m x6):Kids m 7 (.list [.int .i64 x0,.int .i64 x1,.int .i64 x2,.int .i64 x3,.int .i64 x4,.int .i64 x5,.int .i64 x6] e)
 |k8 {x0 x1 x2 x3 x4 x5 x6 x7:Int} {e:Bool} (i0:nP m x0) (i1:nP m x1) (i2:nP m x2) (i3:nP m x3) (i4:nP m x4) (i5:nP m x5) (i6:nP m x6) (i7:nP m x7):Kids m 8 (.list [.int .i64 x0,.int .i64 x1,.int .i64 x2,.int .i64 x3,.int .i64 x4,.int .i64 x5,.int .i64 x6,.int .i64 x7] e)
theorem an1 {h:H} {m:Int} (hc:getCells h 0=some [.int .i64 m]) (h1:mm 346=none) (h2:mm 241=none) (N:Nat):runM mm Tab.fns (N+400) (.call 241 [.aj,.func (.func 346) [] [.dF 0 0]]) [] [] h=.val (.int .i64 (-1)) h:=by
 rw [dY (by simp [aG,h2]) (show Tab.fns 241=some Tab.oL from rfl) rfl]
 simp -implicitDefEqProofs only [Tab.oL,WW,dA,gG,aZ,jh,dD,bI,aK,cu,cO,eY,iE,fU,eP,aP,bD,aX,dB,dh,fO,aU,aS,bU,cZ,bW,pad,aF.ev,aF.evs,lF,dI,eF,bg,dQ,dS,bH,splice,bG,takeN,skip,dO,jg,bY,Nat.reduceAdd,Nat.reduceMul,Nat.reduceSub,Nat.beq,Nat.blt,Nat.ble,leave,finish,resV,eG,mk,eH,fE,kC,gq,fZ,eqK,lH,dZ,dK,iK,gJ,jF,OR.iG,findLabel,bn,iM,fC,leI]
set_option maxHeartbeats 1000000 in
theorem aJb  {e:Bool} {h:H} {m:Int} (hc:getCells h 0=some [.int .i64 m]) (h1:mm 346=none) (h2:mm 241=none) (N:Nat) :runM mm Tab.fns (N+400) (.call 241 [.list [] e,.func (.func 346) [] [.dF 0 0]]) [] [] h=.val (.int .i64 (-1)) h:=by
 rw [dY (by simp [aG,h2]) (show Tab.fns 241=some Tab.oL from rfl) rfl]
 simp -implicitDefEqProofs only [Tab.oL,WW,dA,gG,aZ,jh,dD,bI,aK,cu,cO,eY,iE,fU,eP,aP,bD,aX,dB,dh,fO,aU,aS,bU,cZ,bW,pad,aF.ev,aF.evs,lF,dI,eF,bg,dQ,dS,bH,splice,bG,takeN,skip,dO,jg,bY,Nat.reduceAdd,Nat.reduceMul,Nat.reduceSub,Nat.beq,Nat.blt,Nat.ble,leave,finish,resV,eG,mk,eH,fE,kC,gq,fZ,eqK,lH,dZ,dK,iK,gJ,jF,OR.iG,findLabel,bn,iM,fC,leI]
set_option maxHeartbeats 1000000 in
theorem aJc {x0:Int} {e:Bool} {h:H} {m:Int} (hc:getCells h 0=some [.int .i64 m]) (h1:mm 346=none) (h2:mm 241=none) (N:Nat) (i0:nP m x0):runM mm Tab.fns (N+400) (.call 241 [.list [.int .i64 x0] e,.func (.func 346) [] [.dF 0 0]]) [] [] h=.val (.int .i64 (-1)) h:=by
 rw [dY (by simp [aG,h2]) (show Tab.fns 241=some Tab.oL from rfl) rfl]
 simp -implicitDefEqProofs only [Tab.oL,WW,dA,gG,aZ,jh,dD,bI,aK,cu,cO,eY,iE,fU,eP,aP,bD,aX,dB,dh,fO,aU,aS,bU,cZ,bW,pad,aF.ev,aF.evs,lF,dI,eF,bg,dQ,dS,bH,splice,bG,takeN,skip,dO,jg,bY,Nat.reduceAdd,Nat.reduceMul,Nat.reduceSub,Nat.beq,Nat.blt,Nat.ble,leave,finish,resV,eG,mk,eH,fE,kC,gq,fZ,eqK,lH,dZ,dK,iK,gJ,jF,OR.iG,findLabel,bn,iM,fC,leI,fQ i0 hc h1]
set_option maxHeartbeats 1000000 in
theorem aJd {x0 x1:Int} {e:Bool} {h:H} {m:Int} (hc:getCells h 0=some [.int .i64 m]) (h1:mm 346=none) (h2:mm 241=none) (N:Nat) (i0:nP m x0) (i1:nP m x1):runM mm Tab.fns (N+400) (.call 241 [.list [.int .i64 x0,.int .i64 x1] e,.func (.func 346) [] [.dF 0 0]]) [] [] h=.val (.int .i64 (-1)) h:=by
 rw [dY (by simp [aG,h2]) (show Tab.fns 241=some Tab.oL from rfl) rfl]
 simp -implicitDefEqProofs only [Tab.oL,WW,dA,gG,aZ,jh,dD,bI,aK,cu,cO,eY,iE,fU,eP,aP,bD,aX,dB,dh,fO,aU,aS,bU,cZ,bW,pad,aF.ev,aF.evs,lF,dI,eF,bg,dQ,dS,bH,splice,bG,takeN,skip,dO,jg,bY,Nat.reduceAdd,Nat.reduceMul,Nat.reduceSub,Nat.beq,Nat.blt,Nat.ble,leave,finish,resV,eG,mk,eH,fE,kC,gq,fZ,eqK,lH,dZ,dK,iK,gJ,jF,OR.iG,findLabel,bn,iM,fC,leI,fQ i0 hc h1,fQ i1 hc h1]
set_option maxHeartbeats 1000000 in
theorem aJe {x0 x1 x2:Int} {e:Bool} {h:H} {m:Int} (hc:getCells h 0=some [.int .i64 m]) (h1:mm 346=none) (h2:mm 241=none) (N:Nat) (i0:nP m x0) (i1:nP m x1) (i2:nP m x2):runM mm Tab.fns (N+400) (.call 241 [.list [.int .i64 x0,.int .i64 x1,.int .i64 x2] e,.func (.func 346) [] [.dF 0 0]]) [] [] h=.val (.int .i64 (-1)) h:=by
 rw [dY (by simp [aG,h2]) (show Tab.fns 241=some Tab.oL from rfl) rfl]
 simp -implicitDefEqProofs only [Tab.oL,WW,dA,gG,aZ,jh,dD,bI,aK,cu,cO,eY,iE,fU,eP,aP,bD,aX,dB,dh,fO,aU,aS,bU,cZ,bW,pad,aF.ev,aF.evs,lF,dI,eF,bg,dQ,dS,bH,splice,bG,takeN,skip,dO,jg,bY,Nat.reduceAdd,Nat.reduceMul,Nat.reduceSub,Nat.beq,Nat.blt,Nat.ble,leave,finish,resV,eG,mk,eH,fE,kC,gq,fZ,eqK,lH,dZ,dK,iK,gJ,jF,OR.iG,findLabel,bn,iM,fC,leI,fQ i0 hc h1,fQ i1 hc h1,fQ i2 hc h1]
set_option maxHeartbeats 1000000 in
theorem aJf {x0 x1 x2 x3:Int} {e:Bool} {h:H} {m:Int} (hc:getCells h 0=some [.int .i64 m]) (h1:mm 346=none) (h2:mm 241=none) (N:Nat) (i0:nP m x0) (i1:nP m x1) (i2:nP m x2) (i3:nP m x3):runM mm Tab.fns (N+400) (.call 241 [.list [.int .i64 x0,.int .i64 x1,.int .i64 x2,.int .i64 x3] e,.func (.func 346) [] [.dF 0 0]]) [] [] h=.val (.int .i64 (-1)) h:=by
 rw [dY (by simp [aG,h2]) (show Tab.fns 241=some Tab.oL from rfl) rfl]
 simp -implicitDefEqProofs only [Tab.oL,WW,dA,gG,aZ,jh,dD,bI,aK,cu,cO,eY,iE,fU,eP,aP,bD,aX,dB,dh,fO,aU,aS,bU,cZ,bW,pad,aF.ev,aF.evs,lF,dI,eF,bg,dQ,dS,bH,splice,bG,takeN,skip,dO,jg,bY,Nat.reduceAdd,Nat.reduceMul,Nat.reduceSub,Nat.beq,Nat.blt,Nat.ble,leave,finish,resV,eG,mk,eH,fE,kC,gq,fZ,eqK,lH,dZ,dK,iK,gJ,jF,OR.iG,findLabel,bn,iM,fC,leI,fQ i0 hc h1,fQ i1 hc h1,fQ i2 hc h1,fQ i3 hc h1]
set_option maxHeartbeats 1000000 in
theorem aJg {x0 x1 x2 x3 x4:Int} {e:Bool} {h:H} {m:Int} (hc:getCells h 0=some [.int .i64 m]) (h1:mm 346=none) (h2:mm 241=none) (N:Nat) (i0:nP m x0) (i1:nP m x1) (i2:nP m x2) (i3:nP m x3) (i4:nP m x4):runM mm Tab.fns (N+400) (.call 241 [.list [.int .i64 x0,.int .i64 x1,.int .i64 x2,.int .i64 x3,.int .i64 x4] e,.func (.func 346) [] [.dF 0 0]]) [] [] h=.val (.int .i64 (-1)) h:=by
 rw [dY (by simp [aG,h2]) (show Tab.fns 241=some Tab.oL from rfl) rfl]
 simp -implicitDefEqProofs only [Tab.oL,WW,dA,gG,aZ,jh,dD,bI,aK,cu,cO,eY,iE,fU,eP,aP,bD,aX,dB,dh,fO,aU,aS,bU,cZ,bW,pad,aF.ev,aF.evs,lF,dI,eF,bg,dQ,dS,bH,splice,bG,takeN,skip,dO,jg,bY,Nat.reduceAdd,Nat.reduceMul,Nat.reduceSub,Nat.beq,Nat.blt,Nat.ble,leave,finish,resV,eG,mk,eH,fE,kC,gq,fZ,eqK,lH,dZ,dK,iK,gJ,jF,OR.iG,findLabel,bn,iM,fC,leI,fQ i0 hc h1,fQ i1 hc h1,fQ i2 hc h1,fQ i3 hc h1,fQ i4 hc h1]
set_option maxHeartbeats 1000000 in
theorem aJh {x0 x1 x2 x3 x4 x5:Int} {e:Bool} {h:H} {m:Int} (hc:getCells h 0=some [.int .i64 m]) (h1:mm 346=none) (h2:mm 241=none) (N:Nat) (i0:nP m x0) (i1:nP m x1) (i2:nP m x2) (i3:nP m x3) (i4:nP m x4) (i5:nP m x5):runM mm Tab.fns (N+400) (.call 241 [.list [.int .i64 x0,.int .i64 x1,.int .i64 x2,.int .i64 x3,.int .i64 x4,.int .i64 x5] e,.func (.func 346) [] [.dF 0 0]]) [] [] h=.val (.int .i64 (-1)) h:=by
 rw [dY (by simp [aG,h2]) (show Tab.fns 241=some Tab.oL from rfl) rfl]
 simp -implicitDefEqProofs only [Tab.oL,WW,dA,gG,aZ,jh,dD,bI,aK,cu,cO,eY,iE,fU,eP,aP,bD,aX,dB,dh,fO,aU,aS,bU,cZ,bW,pad,aF.ev,aF.evs,lF,dI,eF,bg,dQ,dS,bH,splice,bG,takeN,skip,dO,jg,bY,Nat.reduceAdd,Nat.reduceMul,Nat.reduceSub,Nat.beq,Nat.blt,Nat.ble,leave,finish,resV,eG,mk,eH,fE,kC,gq,fZ,eqK,lH,dZ,dK,iK,gJ,jF,OR.iG,findLabel,bn,iM,fC,leI,fQ i0 hc h1,fQ i1 hc h1,fQ i2 hc h1,fQ i3 hc h1,fQ i4 hc h1,fQ i5 hc h1]
set_option maxHeartbeats 1000000 in
theorem aJi {x0 x1 x2 x3 x4 x5 x6:Int} {e:Bool} {h:H} {m:Int} (hc:getCells h 0=some [.int .i64 m]) (h1:mm 346=none) (h2:mm 241=none) (N:Nat) (i0:nP m x0) (i1:nP m x1) (i2:nP m x2) (i3:nP m x3) (i4:nP m x4) (i5:nP m x5) (i6:nP m x6):runM mm Tab.fns (N+400) (.call 241 [.list [.int .i64 x0,.int .i64 x1,.int .i64 x2,.int .i64 x3,.int .i64 x4,.int .i64 x5,.int .i64 x6] e,.func (.func 346) [] [.dF 0 0]]) [] [] h=.val (.int .i64 (-1)) h:=by
 rw [dY (by simp [aG,h2]) (show Tab.fns 241=some Tab.oL from rfl) rfl]
 simp -implicitDefEqProofs only [Tab.oL,WW,dA,gG,aZ,jh,dD,bI,aK,cu,cO,eY,iE,fU,eP,aP,bD,aX,dB,dh,fO,aU,aS,bU,cZ,bW,pad,aF.ev,aF.evs,lF,dI,eF,bg,dQ,dS,bH,splice,bG,takeN,skip,dO,jg,bY,Nat.reduceAdd,Nat.reduceMul,Nat.reduceSub,Nat.beq,Nat.blt,Nat.ble,leave,finish,resV,eG,mk,eH,fE,kC,gq,fZ,eqK,lH,dZ,dK,iK,gJ,jF,OR.iG,findLabel,bn,iM,fC,leI,fQ i0 hc h1,fQ i1 hc h1,fQ i2 hc h1,fQ i3 hc h1,fQ i4 hc h1,fQ i5 hc h1,fQ i6 hc h1]
set_option maxHeartbeats 1000000 in
theorem aJj {x0 x1 x2 x3 x4 x5 x6 x7:Int} {e:Bool} {h:H} {m:Int} (hc:getCells h 0=some [.int .i64 m]) (h1:mm 346=none) (h2:mm 241=none) (N:Nat) (i0:nP m x0) (i1:nP m x1) (i2:nP m x2) (i3:nP m x3) (i4:nP m x4) (i5:nP m x5) (i6:nP m x6) (i7:nP m x7):runM mm Tab.fns (N+400) (.call 241 [.list [.int .i64 x0,.int .i64 x1,.int .i64 x2,.int .i64 x3,.int .i64 x4,.int .i64 x5,.int .i64 x6,.int .i64 x7] e,.func (.func 346) [] [.dF 0 0]]) [] [] h=.val (.int .i64 (-1)) h:=by
 rw [dY (by simp [aG,h2]) (show Tab.fns 241=some Tab.oL from rfl) rfl]
 simp -implicitDefEqProofs only [Tab.oL,WW,dA,gG,aZ,jh,dD,bI,aK,cu,cO,eY,iE,fU,eP,aP,bD,aX,dB,dh,fO,aU,aS,bU,cZ,bW,pad,aF.ev,aF.evs,lF,dI,eF,bg,dQ,dS,bH,splice,bG,takeN,skip,dO,jg,bY,Nat.reduceAdd,Nat.reduceMul,Nat.reduceSub,Nat.beq,Nat.blt,Nat.ble,leave,finish,resV,eG,mk,eH,fE,kC,gq,fZ,eqK,lH,dZ,dK,iK,gJ,jF,OR.iG,findLabel,bn,iM,fC,leI,fQ i0 hc h1,fQ i1 hc h1,fQ i2 hc h1,fQ i3 hc h1,fQ i4 hc h1,fQ i5 hc h1,fQ i6 hc h1,fQ i7 hc h1]
theorem an2 {h:H} {m:Int} (hc:getCells h 0=some [.int .i64 m]) (h1:mm 346=none) (h2:mm 241=none) (N:Nat) {L:Nat} {ks:V} (hk:Kids m L ks):runM mm Tab.fns (N+400) (.call 241 [ks,.func (.func 346) [] [.dF 0 0]]) [] [] h=.val (.int .i64 (-1)) h:=by
 cases hk with
 |nil=>exact an1 hc h1 h2 N
 |k0 =>exact aJb hc h1 h2 N
 |k1 i0=>exact aJc hc h1 h2 N i0
 |k2 i0 i1=>exact aJd hc h1 h2 N i0 i1
 |k3 i0 i1 i2=>exact aJe hc h1 h2 N i0 i1 i2
 |k4 i0 i1 i2 i3=>exact aJf hc h1 h2 N i0 i1 i2 i3
 |k5 i0 i1 i2 i3 i4=>exact aJg hc h1 h2 N i0 i1 i2 i3 i4
 |k6 i0 i1 i2 i3 i4 i5=>exact aJh hc h1 h2 N i0 i1 i2 i3 i4 i5
 |k7 i0 i1 i2 i3 i4 i5 i6=>exact aJi hc h1 h2 N i0 i1 i2 i3 i4 i5 i6
 |k8 i0 i1 i2 i3 i4 i5 i6 i7=>exact aJj hc h1 h2 N i0 i1 i2 i3 i4 i5 i6 i7
theorem axt {h:H} {m:Int} {L:Nat} {ks:V} (hc:getCells h 0=some [.int .i64 m]) (h1:mm 346=none) (h2:mm 241=none) (h3:mm 169=none) (hk:Kids m L ks) (N:Nat) :
  runM mm Tab.fns (N+500) (.call 169 [ks,.func (.func 346) [] [.dF 0 0]]) [] [] h=.val (.bool false) h:=by
 rw [dY (by simp [aG,h3]) (show Tab.fns 169=some Tab.aan from rfl) rfl]
 have hl1:uK (-(Int.ofNat 1)) (Int.ofNat 0)=true:=rfl
 have hi:=fun N=>an2 hc h1 h2 N hk
 have hL:zL ks=false:=by cases hk<;>rfl
 generalize hx:ks=X at hi hL
 simp -implicitDefEqProofs only [Tab.aan,WW,dA,gG,aZ,jh,dD,bI,aK,cu,cO,eY,iE,fU,eP,aP,bD,aX,dB,dh,fO,aU,aS,bU,cZ,bW,pad,aF.ev,aF.evs,lF,dI,eF,bg,dQ,dS,bH,splice,bG,takeN,skip,dO,jg,bY,Nat.reduceAdd,Nat.reduceMul,Nat.reduceSub,Nat.beq,Nat.blt,Nat.ble,leave,finish,resV,eG,mk,eH,fE,kC,gq,fZ,eqK,lH,dZ,dK,iK,gJ,jF,OR.iG,findLabel,bn,iM,fC,leI,hx,hL,hi,hl1]
inductive yw:Int→Int→List Nat→Nat→Prop
 |int (n:Int):yw 1 n [] 0
 |con {n:Int} {nm:List Nat} {L:Nat} (h:uK n (Int.ofNat L)=false):yw 2 n nm L
 |fn {n:Int} {L:Nat} (h:uK n (Int.ofNat 0)=false):yw 3 n [] L
 |thunk {n:Int} {L:Nat} (h:uK n (Int.ofNat 0)=false):yw 4 n [] L
 |hole {n:Int} (h:uK n (Int.ofNat 0)=false):yw 5 n [] 0
 |ind {n:Int} (h:uK n (Int.ofNat 0)=false):yw 6 n [] 1
 |aC7 {n:Int} (h:uK n (Int.ofNat 0)=false):yw 7 n [] 0
end
section
variable {mm:iO}
theorem oQ:emp.next=0:=rfl
theorem boxed (m:V):getCells (emp.new (.cells [m])) 0=some [m]:=rfl
theorem vg (b:Bool) (h:H):vW (.bool b) h=(.bool b,h):=by simp [vW,dW,lM]
set_option maxHeartbeats 4000000 in
theorem aoG {k n m:Int} {nm:List Nat} {L:Nat} {ks:V} (h0:mm 284=none) (h1:mm 346=none) (h2:mm 241=none) (h3:mm 169=none) (hk:Kids m L ks) (hn:yw k n nm L) (N:Nat) :
  runM mm Tab.fns (N+700) (.call 284 [nd k n nm ks,.int .i64 m]) [] [] emp=.val (.bool true) (emp.new (.cells [.int .i64 m])):=by
 rw [dY (by simp [aG,h0]) (show Tab.fns 284=some Tab.CP from rfl) rfl]
 have hi:=fun N=>axt (boxed (.int .i64 m)) h1 h2 h3 hk N
 have hL:zL ks=false:=by cases hk<;>rfl
 have hl:lenOf (emp.new (.cells [.int .i64 m])) 0 ks=some L:=by cases hk<;>rfl
 generalize hx:ks=X at hi hL hl
 unfold nd
 cases hn with
 |int n=>simp -implicitDefEqProofs only [Tab.CP,WW,dA,gG,aZ,jh,dD,bI,aK,cu,cO,eY,iE,fU,eP,aP,bD,aX,dB,dh,fO,aU,aS,bU,cZ,bW,pad,aF.ev,aF.evs,lF,dI,eF,bg,dQ,dS,bH,splice,bG,takeN,skip,dO,jg,bY,Nat.reduceAdd,Nat.reduceMul,Nat.reduceSub,Nat.beq,Nat.blt,Nat.ble,leave,finish,resV,eG,mk,eH,fE,kC,gq,fZ,eqK,lH,dZ,dK,iK,gJ,jF,OR.iG,findLabel,bn,iM,fC,leI,hx,hL,hi,oQ,hl,kU,vg]
 |con hh=>simp -implicitDefEqProofs only [Tab.CP,WW,dA,gG,aZ,jh,dD,bI,aK,cu,cO,eY,iE,fU,eP,aP,bD,aX,dB,dh,fO,aU,aS,bU,cZ,bW,pad,aF.ev,aF.evs,lF,dI,eF,bg,dQ,dS,bH,splice,bG,takeN,skip,dO,jg,bY,Nat.reduceAdd,Nat.reduceMul,Nat.reduceSub,Nat.beq,Nat.blt,Nat.ble,leave,finish,resV,eG,mk,eH,fE,kC,gq,fZ,eqK,lH,dZ,dK,iK,gJ,jF,OR.iG,findLabel,bn,iM,fC,leI,hx,hL,hi,oQ,hl,kU,vg,hh,Nat.beq_refl]
 |fn hh=>simp -implicitDefEqProofs only [Tab.CP,WW,dA,gG,aZ,jh,dD,bI,aK,cu,cO,eY,iE,fU,eP,aP,bD,aX,dB,dh,fO,aU,aS,bU,cZ,bW,pad,aF.ev,aF.evs,lF,dI,eF,bg,dQ,dS,bH,splice,bG,takeN,skip,dO,jg,bY,Nat.reduceAdd,Nat.reduceMul,Nat.reduceSub,Nat.beq,Nat.blt,Nat.ble,leave,finish,resV,eG,mk,eH,fE,kC,gq,fZ,eqK,lH,dZ,dK,iK,gJ,jF,OR.iG,findLabel,bn,iM,fC,leI,hx,hL,hi,oQ,hl,kU,vg,hh,Nat.beq_refl]
 |thunk hh=>simp -implicitDefEqProofs only [Tab.CP,WW,dA,gG,aZ,jh,dD,bI,aK,cu,cO,eY,iE,fU,eP,aP,bD,aX,dB,dh,fO,aU,aS,bU,cZ,bW,pad,aF.ev,aF.evs,lF,dI,eF,bg,dQ,dS,bH,splice,bG,takeN,skip,dO,jg,bY,Nat.reduceAdd,Nat.reduceMul,Nat.reduceSub,Nat.beq,Nat.blt,Nat.ble,leave,finish,resV,eG,mk,eH,fE,kC,gq,fZ,eqK,lH,dZ,dK,iK,gJ,jF,OR.iG,findLabel,bn,iM,fC,leI,hx,hL,hi,oQ,hl,kU,vg,hh,Nat.beq_refl]
 |hole hh=>simp -implicitDefEqProofs only [Tab.CP,WW,dA,gG,aZ,jh,dD,bI,aK,cu,cO,eY,iE,fU,eP,aP,bD,aX,dB,dh,fO,aU,aS,bU,cZ,bW,pad,aF.ev,aF.evs,lF,dI,eF,bg,dQ,dS,bH,splice,bG,takeN,skip,dO,jg,bY,Nat.reduceAdd,Nat.reduceMul,Nat.reduceSub,Nat.beq,Nat.blt,Nat.ble,leave,finish,resV,eG,mk,eH,fE,kC,gq,fZ,eqK,lH,dZ,dK,iK,gJ,jF,OR.iG,findLabel,bn,iM,fC,leI,hx,hL,hi,oQ,hl,kU,vg,hh,Nat.beq_refl]
 |ind hh=>simp -implicitDefEqProofs only [Tab.CP,WW,dA,gG,aZ,jh,dD,bI,aK,cu,cO,eY,iE,fU,eP,aP,bD,aX,dB,dh,fO,aU,aS,bU,cZ,bW,pad,aF.ev,aF.evs,lF,dI,eF,bg,dQ,dS,bH,splice,bG,takeN,skip,dO,jg,bY,Nat.reduceAdd,Nat.reduceMul,Nat.reduceSub,Nat.beq,Nat.blt,Nat.ble,leave,finish,resV,eG,mk,eH,fE,kC,gq,fZ,eqK,lH,dZ,dK,iK,gJ,jF,OR.iG,findLabel,bn,iM,fC,leI,hx,hL,hi,oQ,hl,kU,vg,hh,Nat.beq_refl]
 |aC7 hh=>simp -implicitDefEqProofs only [Tab.CP,WW,dA,gG,aZ,jh,dD,bI,aK,cu,cO,eY,iE,fU,eP,aP,bD,aX,dB,dh,fO,aU,aS,bU,cZ,bW,pad,aF.ev,aF.evs,lF,dI,eF,bg,dQ,dS,bH,splice,bG,takeN,skip,dO,jg,bY,Nat.reduceAdd,Nat.reduceMul,Nat.reduceSub,Nat.beq,Nat.blt,Nat.ble,leave,finish,resV,eG,mk,eH,fE,kC,gq,fZ,eqK,lH,dZ,dK,iK,gJ,jF,OR.iG,findLabel,bn,iM,fC,leI,hx,hL,hi,oQ,hl,kU,vg,hh,Nat.beq_refl]
end
inductive IsNode:V→Prop
 |nil (k n:Int) (nm:List Nat):IsNode (nd k n nm .aj)
 |list (k n:Int) (nm:List Nat) (l:List V) (e:Bool):IsNode (nd k n nm (.list l e))
def Nodes (ns:List V):Prop:=∀ v∈ns,IsNode v
theorem Nodes.nil:Nodes []:=fun _ h=>by cases h
theorem Nodes.cons {v:V} {ns:List V} (h:IsNode v) (hs:Nodes ns):Nodes (v::ns):=fun x hx=>by
 rcases List.mem_cons.1 hx with rfl|hx
 ·exact h
 ·exact hs x hx
theorem Nodes.head {v:V} {ns:List V} (h:Nodes (v::ns)):IsNode v:=h v fF
theorem Nodes.tail {v:V} {ns:List V} (h:Nodes (v::ns)):Nodes ns:=fun x hx=>h x (eX _ hx)
theorem Nodes.append {a b:List V} (h1:Nodes a) (h2:Nodes b):Nodes (a++b):=fun x hx=>by
 rcases List.mem_append.1 hx with hx|hx
 ·exact h1 x hx
 ·exact h2 x hx
theorem IsNode.cells {v:V} (h:IsNode v):v.cells.length=4∧v=.agg v.cells:=by cases h<;>exact ⟨rfl,rfl⟩
def fl:List V→List V
 |[]=>[]
 |v::ns=>v.cells++fl ns
theorem MJ:∀ a b:List V,fl (a++b)=fl a++fl b
 |[],b=>rfl
 |v::a,b=>by simp only [List.cons_append,fl,MJ a b,List.append_assoc]
theorem Rk:∀ {ns:List V},Nodes ns→sU ns=fl ns
 |[],_=>rfl
 |v::ns,h=>by
  have ih:=Rk h.tail
  cases h.head<;>simp only [nd,sU,fl,V.cells,ih]
theorem Bq:∀ {ns:List V},Nodes ns→(fl ns).length=ns.length*4
 |[],_=>rfl
 |v::ns,h=>by
  simp only [fl,List.length_append,Bq h.tail,h.head.cells.1,List.length_cons]
  omega
theorem KO:∀ (n:Nat) (l:List V),n≤l.length→takeN n l=some (l.take n)
 |0,l,_=>by simp [takeN]
 |n+1,[],h=>by simp at h
 |n+1,x::l,h=>by
  simp only [takeN,KO n l (by simpa using h),List.take_succ_cons]
theorem EK:∀ (n:Nat) (l:List V),skip n l=l.drop n
 |0,l=>by simp [skip]
 |n+1,[]=>by simp [skip]
 |n+1,x::l=>by simp only [skip,EK n l,List.drop_succ_cons]
theorem BQ {l:List V} {n:Nat} (h:n=l.length):takeN n l=some l:=by
 rw [KO n l (by omega),h,List.take_length]
def N4 (v:V):Prop:=v.cells.length=4∧elemOf v.cells=v
theorem IsNode.n4 {v:V} (h:IsNode v):N4 v:=⟨h.cells.1,by cases h<;>rfl⟩
theorem arF (k n:Int) (nm:List Nat) (ks:V):N4 (nd k n nm ks):=⟨rfl,rfl⟩
theorem I9:∀ {ns:List V},(∀ v∈ns,N4 v)→chunk 4 ns.length (fl ns)=some ns
 |[],_=>rfl
 |v::ns,h=>by
  have hc:=h v fF
  have h1:takeN 4 (v.cells++fl ns)=some v.cells:=by
   rw [KO 4 _ (by simp [hc.1])]
   simp [hc.1]
  have h2:skip 4 (v.cells++fl ns)=fl ns:=by
   rw [EK]
   simp [hc.1]
  simp only [List.length_cons,fl,chunk,h1,h2,I9 fun x hx=>h x (eX _ hx),hc.2]
theorem Nodes.n4 {ns:List V} (h:Nodes ns):∀ v∈ns,N4 v:=fun v hv=>(h v hv).n4
theorem DC:∀ (cs vs:List V),vs.length≤cs.length→bG cs vs=some (vs++cs.drop vs.length)
 |cs,[],_=>by cases cs<;>simp [bG]
 |[],v::vs,h=>by simp at h
 |c::cs,v::vs,h=>by
  simp only [bG,DC cs vs (by simpa using h),List.length_cons,List.drop_succ_cons,List.cons_append]
theorem BP:∀ (n:Nat) (cs vs:List V),n+vs.length≤cs.length→splice n cs vs=some (cs.take n++(vs++cs.drop (n+vs.length)))
 |0,cs,vs,h=>by simp only [splice,DC cs vs (by omega),List.take_zero,List.nil_append,Nat.zero_add]
 |n+1,[],vs,h=>by simp at h
 |n+1,c::cs,vs,h=>by
  simp only [List.length_cons] at h
  have h1:n+1+vs.length=(n+vs.length)+1:=by omega
  simp only [splice,BP n cs vs (by omega),List.take_succ_cons,h1,List.drop_succ_cons,List.cons_append]
theorem NM:∀ {ns:List V} {a:Nat} {v:V},Nodes ns→a<ns.length→v.cells.length=4→splice (a*4) (fl ns) v.cells=some (fl (ns.set a v))
 |[],a,v,_,h,_=>by simp at h
 |x::ns,0,v,hn,_,hv=>by
  have h1:=hn.head.cells.1
  have h2:=hv
  rw [Nat.zero_mul,BP 0 _ _ (by simp [fl,h1,h2])]
  simp [fl,h1,h2]
 |x::ns,a+1,v,hn,h,hv=>by
  have h1:=hn.head.cells.1
  have h2:=hv
  have ha:a<ns.length:=by simpa using h
  have hl:=Bq hn.tail
  have ih:=NM hn.tail ha hv
  rw [BP (a*4) _ _ (by omega)] at ih
  rw [BP ((a+1)*4) _ _ (by simp only [fl,List.length_append];omega)]
  have e1:(a+1)*4=x.cells.length+a*4:=by omega
  have e2:(a+1)*4+v.cells.length=x.cells.length+(a*4+v.cells.length):=by omega
  rw [e2,e1]
  simp only [fl,List.set_cons_succ,List.take_length_add_append,List.drop_length_add_append,List.append_assoc]
  rw [aC] at ih ⊢
  rw [ih]
theorem G7 (z:List V):∀ n,(rep z n).length=n*z.length
 |0=>by simp [rep]
 |n+1=>by simp only [rep,List.length_append,G7 z n,Nat.succ_mul];omega
theorem KN {ns:List V} (h:Nodes ns):AZ 4 ns=true:=by
 cases ns with
 |nil=>rfl
 |cons v ns=>simp only [AZ,h.head.cells.1];rfl
theorem abf {v:V} (h:IsNode v) (N:Nat) (vs:List V) (hh:H):dW (N+6) (v::vs) hh=lM v (dW (N+5) vs hh):=by
 cases h<;>simp [nd,dW,lM]
theorem yJ:∀ {ns:List V} (rest:List V) (N:Nat) (hh:H),Nodes ns→dW (N+5+ns.length) (ns++rest) hh=(ns++(dW (N+5) rest hh).1,(dW (N+5) rest hh).2)
 |[],rest,N,hh,_=>by simp
 |v::ns,rest,N,hh,h=>by
  have e:N+5+(v::ns).length=(N+ns.length)+6:=by simp only [List.length_cons];omega
  have e2:N+ns.length+5=N+5+ns.length:=by omega
  rw [e,List.cons_append,abf h.head,e2,yJ rest N hh h.tail]
  rfl
theorem acw (a b:List V):dO (a++b)=(dO a&&dO b):=by
 induction a with
 |nil=>simp [dO]
 |cons x a ih=>simp [dO,ih,Bool.and_assoc]
theorem ZQ:∀ {ns:List V},Nodes ns→dO (fl ns)=true
 |[],_=>rfl
 |v::ns,h=>by
  have ih:=ZQ h.tail
  rw [fl,acw,ih]
  cases h.head<;>rfl
def kT:V→V
 |.list (x::xs) _=>.hsl 0 0 (xs.length+1) none 1
 |.list [] _=>.list [] true
 |v=>v
def xU:V→H
 |.list (x::xs) _=>emp.new (.cells (x::xs))
 |_=>emp
def eu:V→V
 |.list (x::xs) _=>.list (x::xs) false
 |.list [] _=>.list [] true
 |v=>v
section
variable {mm:iO}
theorem Ir {k n m:Int} {nm:List Nat} {L:Nat} {ks:V} (h0:mm 198=none) (h1:mm 183=none) (hk:Kids m L ks) (N:Nat) :
  runM mm Tab.fns (N+60) (.call 198 [nd k n nm ks]) [] [] emp=.val (nd k n nm (kT ks)) (xU ks):=by
 have hcl:∀ N,runM mm Tab.fns (N+30) (.call 183 [ks]) [] [] emp=.val (kT ks) (xU ks):=by
  intro N
  rw [dY (by simp [aG,h1]) (show Tab.fns 183=some Tab.N7 from rfl) rfl]
  cases hk<;>simp -implicitDefEqProofs only [Tab.N7,WW,dA,gG,aZ,jh,dD,bI,aK,cu,cO,eY,iE,fU,eP,aP,bD,aX,dB,dh,fO,aU,aS,bU,cZ,bW,pad,aF.ev,aF.evs,lF,dI,eF,bg,dQ,dS,bH,splice,bG,takeN,skip,dO,jg,bY,Nat.reduceAdd,Nat.reduceMul,Nat.reduceSub,Nat.beq,Nat.blt,Nat.ble,leave,finish,resV,eG,mk,eH,fE,kC,gq,fZ,eqK,lH,dZ,dK,iK,gJ,jF,OR.iG,findLabel,bn,iM,fC,leI,rep,chunk,gU,dM,AZ,sU,List.length,List.cons_append,List.nil_append,wM,jA,ORp,oQ,kT,xU]
 rw [dY (by simp [aG,h0]) (show Tab.fns 198=some Tab.N8 from rfl) rfl]
 have hL:zL ks=false:=by cases hk<;>rfl
 have hc:V.cells (kT ks)=[kT ks]:=by cases hk<;>rfl
 have ho:yT (kT ks)=true:=by cases hk<;>rfl
 have hm:isVal (kT ks)=true:=by cases hk<;>rfl
 generalize kT ks=X at hcl hc ho hm ⊢
 generalize xU ks=Y at hcl ⊢
 generalize hx:ks=Z at hcl hL
 unfold nd
 simp -implicitDefEqProofs only [Tab.N8,WW,dA,gG,aZ,jh,dD,bI,aK,cu,cO,eY,iE,fU,eP,aP,bD,aX,dB,dh,fO,aU,aS,bU,cZ,bW,pad,aF.ev,aF.evs,lF,dI,eF,bg,dQ,dS,bH,splice,bG,takeN,skip,dO,jg,bY,Nat.reduceAdd,Nat.reduceMul,Nat.reduceSub,Nat.beq,Nat.blt,Nat.ble,leave,finish,resV,eG,mk,eH,fE,kC,gq,fZ,eqK,lH,dZ,dK,iK,gJ,jF,OR.iG,findLabel,bn,iM,fC,leI,hx,hL,hcl,hm,hc,ho]
end
section
variable {mm:iO}
theorem aek {m k n:Int} {nm:List Nat} {L:Nat} {ks:V} (hk:Kids m L ks):mY (.agg [.int .i64 k,.int .i64 n,.str nm,ks]) (.agg [.int .i64 k,.int .i64 n,.str nm,ks])=true:=by
 have hi:∀ x:Int,vZ x x=true:=fun x=>by rw [qW];simp
 have hb:kU nm nm=true:=by rw [pJ];simp
 cases hk<;>simp [mY,xu,eqK,hi,hb]
theorem Kids.node {m:Int} {L:Nat} {ks:V} (hk:Kids m L ks) (k n:Int) (nm:List Nat):IsNode (nd k n nm (eu ks)):=by
 cases hk with
 |nil=>exact .nil _ _ _
 |k0=>exact .list _ _ _ _ _
 |_=>exact .list _ _ _ _ _
theorem ad5 {ns:List V} {e:Bool} {h:H} (h0:mm 442=none) (hn:Nodes ns) (N:Nat) :
  runM mm Tab.fns (N+30) (.call 442 [.list ns e]) [] [] h=.val (.list ns true) h:=by
 rw [dY (by simp [aG,h0]) (show Tab.fns 442=some Tab.aas from rfl) rfl]
 have hz:=KN hn
 have hb:Nat.ble ns.length ns.length=true:=Nat.ble_self_eq_true _
 have h0:Nat.ble 0 ns.length=true:=by simp
 simp -implicitDefEqProofs only [Tab.aas,WW,dA,gG,aZ,jh,dD,bI,aK,cu,cO,eY,iE,fU,eP,aP,bD,aX,dB,dh,fO,aU,aS,bU,cZ,bW,pad,aF.ev,aF.evs,lF,dI,eF,bg,dQ,dS,bH,splice,bG,takeN,skip,dO,jg,bY,Nat.reduceAdd,Nat.reduceMul,Nat.reduceSub,Nat.beq,Nat.blt,Nat.ble,leave,finish,resV,eG,mk,eH,fE,kC,gq,fZ,eqK,lH,dZ,dK,iK,gJ,jF,OR.iG,findLabel,bn,iM,fC,leI,AO,hz,je,bound,hb,h0,List.take_length,List.drop_zero,YC,Nat.beq_refl]
theorem ahc {ns:List V} {e:Bool} {h:H} (hn:Nodes ns):dM h 4 ns.length (.list ns e)=some (fl ns):=by
 have hb:Nat.ble ns.length ns.length=true:=Nat.ble_self_eq_true _
 simp only [dM,KN hn,hb,Bool.and_self,cond_true,Rk hn]
 exact BQ (Bq hn).symm
theorem abe {m k n:Int} {nm:List Nat} {L:Nat} {ks:V} (hk:Kids m L ks) {h:H} (hg:∀ x xs e,ks=.list (x::xs) e→h.get 0=some (.cells (x::xs))) (N:Nat) :
  ∃ h2,dW (N+20) [nd k n nm (kT ks)] h=([nd k n nm (eu ks)],h2):=by
 cases hk with
 |nil=>exact ⟨h,by simp [nd,kT,eu,dW,lM]⟩
 |k0=>exact ⟨h,by simp [nd,kT,eu,dW,lM]⟩
 |_=>exact ⟨h.del 0,by have e:=hg _ _ _ rfl;simp [nd,kT,eu,dW,lM,e,chunk,takeN,skip,elemOf]⟩
theorem apb {m:Int} {L:Nat} {ks:V} (hk:Kids m L ks) (o:Obj):∀ x xs e,ks=.list (x::xs) e→(((xU ks).new o).del (xU ks).next).get 0=some (.cells (x::xs)):=by
 intro x xs e hx
 subst hx
 rw [H.wC,H.qw]
 rfl
theorem abg {ns:List V} {m k n a b most:Int} {nm:List Nat} {L:Nat} {ks:V} (hn:Nodes ns) (hk:Kids m L ks) (hl:ns.length≤100000) :
  ∃ h2,vW (.tuple [.agg [.hsl (xU ks).next 0 (ns.length+1) none 4,.int .i64 most],.int .i64 a,.int .i64 b]) ((xU ks).new (.cells (fl ns++[.int .i64 k,.int .i64 n,.str nm,kT ks])))=(.tuple [.agg [.list (ns++[nd k n nm (eu ks)]) false,.int .i64 most],.int .i64 a,.int .i64 b],h2):=by
 have hch:chunk 4 (ns.length+1) (fl ns++[.int .i64 k,.int .i64 n,.str nm,kT ks])=some (ns++[nd k n nm (kT ks)]):=by
  have:=I9 (ns:=ns++[nd k n nm (kT ks)]) (fun v hv=>by
   rcases List.mem_append.1 hv with h|h
   ·exact hn.n4 v h
   ·simp at h;subst h;exact arF _ _ _ _)
  simpa [MJ,fl,nd,V.cells] using this
 have hg:=H.qw (xU ks) (xU ks).next (.cells (fl ns++[.int .i64 k,.int .i64 n,.str nm,kT ks]))
 rw [if_pos rfl] at hg
 obtain ⟨h2,e2⟩:=abe (k:=k) (n:=n) (nm:=nm) hk (apb hk (.cells (fl ns++[.int .i64 k,.int .i64 n,.str nm,kT ks]))) (999997-20-ns.length)
 have e3:=yJ (ns:=ns) [nd k n nm (kT ks)] (999997-5-ns.length) (((xU ks).new (.cells (fl ns++[.int .i64 k,.int .i64 n,.str nm,kT ks]))).del (xU ks).next) hn
 have q1:999997-5-ns.length+5+ns.length=999997:=by omega
 have q2:999997-5-ns.length+5=999997-20-ns.length+20:=by omega
 rw [q1,q2,e2] at e3
 generalize (xU ks).new (.cells (fl ns++[.int .i64 k,.int .i64 n,.str nm,kT ks]))=H0 at hg e3 ⊢
 refine ⟨h2,?_⟩
 simp [vW,dW,lM,hg,hch,skip,e3]
set_option maxHeartbeats 4000000 in
theorem aay {ns:List V} {e:Bool} {k n most:Int} {nm:List Nat} {L:Nat} {ks:V} (h0:mm 398=none) (h1:mm 198=none) (h2:mm 183=none) (h3:mm 442=none)
  (hn:Nodes ns) (hk:Kids (Int.ofNat (ns.length+1)) L ks) (hl:ns.length≤100000) (aA1:uK (Int.ofNat ns.length) most=true)
  (hmay:aG mm 284 [nd k n nm ks,.int .i64 (Int.ofNat (ns.length+1))]=some (.bool true)) (N:Nat) :
  ∃ h2,runM mm Tab.fns (N+300) (.call 398 [.agg [.list ns e,.int .i64 most],nd k n nm ks]) [] [] emp=.val (.tuple [.agg [.list (ns++[nd k n nm (eu ks)]) false,.int .i64 most],.int .i64 (Int.ofNat ns.length),.int .i64 (Int.ofNat 0)]) h2:=by
 obtain ⟨hz,ez⟩:=abg (k:=k) (n:=n) (nm:=nm) (a:=Int.ofNat ns.length) (b:=Int.ofNat 0) (most:=most) hn hk hl
 refine ⟨hz,?_⟩
 rw [dY (by simp [aG,h0]) (show Tab.fns 398=some Tab.aar from rfl) rfl]
 have hown:=fun N=>Ir (k:=k) (n:=n) (nm:=nm) h1 h2 hk N
 have aAN:=fun N h=>ad5 (e:=e) (h:=h) h3 hn N
 have zZ:=aek (k:=k) (n:=n) (nm:=nm) hk
 have aeQ:=fun N fr lo h=>iZ (fns:=Tab.fns) (n:=N) (fr:=fr) (lo:=lo) (h:=h) hmay
 have hb:Nat.ble ns.length 9223372036854775806=true:=by simp;omega
 have hb2:Nat.ble ns.length 16777215=true:=by simp;omega
 have hsrc:=fun h=>ahc (e:=true) (h:=h) hn
 have hL:zL ks=false:=by cases hk<;>rfl
 have hV:isVal (kT ks)=true:=by cases hk<;>rfl
 have hC:(kT ks).cells=[kT ks]:=by cases hk<;>rfl
 have hO:yT (kT ks)=true:=by cases hk<;>rfl
 clear hk
 have hs1:∀ h:H,dM h 4 1 (.list [.agg [.int .i64 k,.int .i64 n,.str nm,kT ks]] true)=some [.int .i64 k,.int .i64 n,.str nm,kT ks]:=fun _=>rfl
 generalize kT ks=X at *
 generalize xU ks=Y at *
 generalize eu ks=Z at *
 unfold nd at *
 generalize hlen:ns.length=len at *
 simp -implicitDefEqProofs only [Tab.aar,WW,dA,gG,aZ,jh,dD,bI,aK,cu,cO,eY,iE,fU,eP,aP,bD,aX,dB,dh,fO,aU,aS,bU,cZ,bW,pad,aF.ev,aF.evs,lF,dI,eF,bg,dQ,dS,bH,splice,bG,takeN,skip,dO,jg,bY,Nat.reduceAdd,Nat.reduceMul,Nat.reduceSub,Nat.beq,Nat.blt,Nat.ble,leave,finish,resV,eG,mk,eH,fE,kC,gq,fZ,eqK,lH,dZ,dK,iK,gJ,jF,OR.iG,findLabel,bn,iM,fC,leI,hown,aAN,zZ,aeQ,aA1,hb,hb2,hsrc,hL,hV,hC,hO,gU,hs1,wM,jA,ORp,chunk,elemOf,rep,List.append_nil,ez,Nat.zero_add,hlen]
end
section
variable {mm:iO}
theorem WO {m k n a b:Int} {nm:List Nat} {L:Nat} {ks:V} (hk:Kids m L ks) :
  ∃ h2,vW (.tuple [.agg [.int .i64 k,.int .i64 n,.str nm,kT ks],.int .i64 a,.int .i64 b]) (xU ks)=(.tuple [nd k n nm (eu ks),.int .i64 a,.int .i64 b],h2):=by
 have hg:∀ x xs e,ks=.list (x::xs) e→(xU ks).get 0=some (.cells (x::xs)):=by
  intro x xs e hx;subst hx;rfl
 generalize xU ks=H0 at hg ⊢
 cases hk with
 |nil=>exact ⟨H0,by simp [nd,kT,eu,vW,dW,lM]⟩
 |k0=>exact ⟨H0,by simp [nd,kT,eu,vW,dW,lM]⟩
 |_ =>
  have e:=hg _ _ _ rfl
  refine ⟨H0.del 0,?_⟩
  simp [nd,kT,eu,vW,dW,lM,e,chunk,takeN,skip,elemOf]
theorem sub_one {a:Nat} (h:Nat.ble 1 a=true):Int.sub (.ofNat a) (.ofNat 1)=.ofNat (a-1):=by
 have:1≤a:=by simpa using h
 show (a:Int)-1=((a-1:Nat):Int)
 omega
theorem amN {ns rest:List V} {e:Bool} {most k n:Int} {i:Nat} {nm:List Nat} {L:Nat} {ks:V} {m:Int} (h0:mm 87=none) (h1:mm 198=none) (h2:mm 183=none)
  (hk:Kids m L ks) (hl:ns.length≤100000) (hi:Nat.ble (i+1) ns.length=true) (hs:skip i ns=nd k n nm ks::rest) (h6:vZ k (Int.ofNat 6)=false) (N:Nat) :
  ∃ h2,runM mm Tab.fns (N+200) (.call 87 [.agg [.list ns e,.int .i64 most],.int .i64 (Int.ofNat i)]) [] [] emp=.val (.tuple [nd k n nm (eu ks),.int .i64 (Int.ofNat i),.int .i64 (Int.ofNat 0)]) h2:=by
 obtain ⟨hz,ez⟩:=WO (k:=k) (n:=n) (nm:=nm) (a:=Int.ofNat i) (b:=Int.ofNat 0) hk
 refine ⟨hz,?_⟩
 rw [dY (by simp [aG,h0]) (show Tab.fns 87=some Tab.Vj from rfl) rfl]
 have hown:=fun N=>Ir (k:=k) (n:=n) (nm:=nm) h1 h2 hk N
 have hL:zL ks=false:=by cases hk<;>rfl
 have hV:isVal (kT ks)=true:=by cases hk<;>rfl
 have hC:(kT ks).cells=[kT ks]:=by cases hk<;>rfl
 have hO:yT (kT ks)=true:=by cases hk<;>rfl
 have hO1:yT ks=true:=by cases hk<;>rfl
 clear hk
 generalize kT ks=X at *
 generalize xU ks=Y at *
 generalize eu ks=Z at *
 unfold nd at *
 generalize hlen:ns.length=len at *
 simp -implicitDefEqProofs only [Tab.Vj,WW,dA,gG,aZ,jh,dD,bI,aK,cu,cO,eY,iE,fU,eP,aP,bD,aX,dB,dh,fO,aU,aS,bU,cZ,bW,pad,aF.ev,aF.evs,lF,dI,eF,bg,dQ,dS,bH,splice,bG,takeN,skip,dO,jg,bY,Nat.reduceAdd,Nat.reduceMul,Nat.reduceSub,Nat.beq,Nat.blt,Nat.ble,leave,finish,resV,eG,mk,eH,fE,kC,gq,fZ,eqK,lH,dZ,dK,iK,gJ,jF,OR.iG,findLabel,bn,iM,fC,leI,hown,hL,hV,hC,hO,hO1,hs,h6,hi,hlen,ez]
theorem amO {ns rest:List V} {e:Bool} {most k n:Int} {i:Nat} {nm:List Nat} {L:Nat} {ks:V} {m:Int} {n0:Int} {nm0:List Nat} {e0:Bool} {j0:Nat} {r0:List V} (h0:mm 87=none) (h1:mm 198=none) (h2:mm 183=none)
  (hk:Kids m L ks) (hl:ns.length≤100000) (hi:Nat.ble (i+1) ns.length=true) (hs:skip i ns=nd k n nm ks::rest) (h6:vZ k (Int.ofNat 6)=false) (hi0:Nat.ble (j0+1) ns.length=true) (hs0:skip j0 ns=nd 6 n0 nm0 (.list [.int .i64 (Int.ofNat i)] e0)::r0) (hlen1:Nat.ble 2 ns.length=true) (N:Nat) :
  ∃ h2,runM mm Tab.fns (N+400) (.call 87 [.agg [.list ns e,.int .i64 most],.int .i64 (Int.ofNat j0)]) [] [] emp=.val (.tuple [nd k n nm (eu ks),.int .i64 (Int.ofNat i),.int .i64 (Int.ofNat 0)]) h2:=by
 obtain ⟨hz,ez⟩:=WO (k:=k) (n:=n) (nm:=nm) (a:=Int.ofNat i) (b:=Int.ofNat 0) hk
 refine ⟨hz,?_⟩
 rw [dY (by simp [aG,h0]) (show Tab.fns 87=some Tab.Vj from rfl) rfl]
 have hown:=fun N=>Ir (k:=k) (n:=n) (nm:=nm) h1 h2 hk N
 have hL:zL ks=false:=by cases hk<;>rfl
 have hV:isVal (kT ks)=true:=by cases hk<;>rfl
 have hC:(kT ks).cells=[kT ks]:=by cases hk<;>rfl
 have hO:yT (kT ks)=true:=by cases hk<;>rfl
 have hO1:yT ks=true:=by cases hk<;>rfl
 clear hk
 generalize kT ks=X at *
 generalize xU ks=Y at *
 generalize eu ks=Z at *
 unfold nd at *
 generalize hlen:ns.length=len at *
 have l1:Nat.ble 1 len=true:=by simp at hlen1 ⊢;omega
 have l2:Nat.ble 1 (len-1)=true:=by simp at hlen1 ⊢;omega
 have w1:Nat.ble (len-1) 9223372036854775807=true:=by simp;omega
 have w2:Nat.ble (len-1-1) 9223372036854775807=true:=by simp;omega
 simp -implicitDefEqProofs only [Tab.Vj,WW,dA,gG,aZ,jh,dD,bI,aK,cu,cO,eY,iE,fU,eP,aP,bD,aX,dB,dh,fO,aU,aS,bU,cZ,bW,pad,aF.ev,aF.evs,lF,dI,eF,bg,dQ,dS,bH,splice,bG,takeN,skip,dO,jg,bY,Nat.reduceAdd,Nat.reduceMul,Nat.reduceSub,Nat.beq,Nat.blt,Nat.ble,leave,finish,resV,eG,mk,eH,fE,kC,gq,fZ,eqK,lH,dZ,dK,iK,gJ,jF,OR.iG,findLabel,bn,iM,fC,leI,hown,hL,hV,hC,hO,hO1,hs,h6,hi,hlen,ez,hi0,hs0,l1,l2,sub_one,w1,w2]
theorem amP {ns rest:List V} {e:Bool} {most k n:Int} {i:Nat} {nm:List Nat} {L:Nat} {ks:V} {m:Int} {n0:Int} {nm0:List Nat} {e0:Bool} {j0:Nat} {r0:List V} {n1:Int} {nm1:List Nat} {e1:Bool} {j1:Nat} {r1:List V} (h0:mm 87=none) (h1:mm 198=none) (h2:mm 183=none)
  (hk:Kids m L ks) (hl:ns.length≤100000) (hi:Nat.ble (i+1) ns.length=true) (hs:skip i ns=nd k n nm ks::rest) (h6:vZ k (Int.ofNat 6)=false) (hi0:Nat.ble (j0+1) ns.length=true) (hs0:skip j0 ns=nd 6 n0 nm0 (.list [.int .i64 (Int.ofNat j1)] e0)::r0) (hi1:Nat.ble (j1+1) ns.length=true) (hs1:skip j1 ns=nd 6 n1 nm1 (.list [.int .i64 (Int.ofNat i)] e1)::r1) (hlen1:Nat.ble 2 ns.length=true) (N:Nat) :
  ∃ h2,runM mm Tab.fns (N+400) (.call 87 [.agg [.list ns e,.int .i64 most],.int .i64 (Int.ofNat j0)]) [] [] emp=.val (.tuple [nd k n nm (eu ks),.int .i64 (Int.ofNat i),.int .i64 (Int.ofNat 0)]) h2:=by
 obtain ⟨hz,ez⟩:=WO (k:=k) (n:=n) (nm:=nm) (a:=Int.ofNat i) (b:=Int.ofNat 0) hk
 refine ⟨hz,?_⟩
 rw [dY (by simp [aG,h0]) (show Tab.fns 87=some Tab.Vj from rfl) rfl]
 have hown:=fun N=>Ir (k:=k) (n:=n) (nm:=nm) h1 h2 hk N
 have hL:zL ks=false:=by cases hk<;>rfl
 have hV:isVal (kT ks)=true:=by cases hk<;>rfl
 have hC:(kT ks).cells=[kT ks]:=by cases hk<;>rfl
 have hO:yT (kT ks)=true:=by cases hk<;>rfl
 have hO1:yT ks=true:=by cases hk<;>rfl
 clear hk
 generalize kT ks=X at *
 generalize xU ks=Y at *
 generalize eu ks=Z at *
 unfold nd at *
 generalize hlen:ns.length=len at *
 have l1:Nat.ble 1 len=true:=by simp at hlen1 ⊢;omega
 have l2:Nat.ble 1 (len-1)=true:=by simp at hlen1 ⊢;omega
 have w1:Nat.ble (len-1) 9223372036854775807=true:=by simp;omega
 have w2:Nat.ble (len-1-1) 9223372036854775807=true:=by simp;omega
 simp -implicitDefEqProofs only [Tab.Vj,WW,dA,gG,aZ,jh,dD,bI,aK,cu,cO,eY,iE,fU,eP,aP,bD,aX,dB,dh,fO,aU,aS,bU,cZ,bW,pad,aF.ev,aF.evs,lF,dI,eF,bg,dQ,dS,bH,splice,bG,takeN,skip,dO,jg,bY,Nat.reduceAdd,Nat.reduceMul,Nat.reduceSub,Nat.beq,Nat.blt,Nat.ble,leave,finish,resV,eG,mk,eH,fE,kC,gq,fZ,eqK,lH,dZ,dK,iK,gJ,jF,OR.iG,findLabel,bn,iM,fC,leI,hown,hL,hV,hC,hO,hO1,hs,h6,hi,hlen,ez,hi0,hs0,hi1,hs1,l1,l2,sub_one,w1,w2]
end
section
variable {mm:iO}
def lG (i:Nat):V→V
 |.list (x::xs) _=>.hsl i 0 (xs.length+1) none 1
 |.list [] _=>.list [] true
 |v=>v
def Nv (h:H):V→H
 |.list (x::xs) _=>h.new (.cells (x::xs))
 |_=>h
theorem agj {k n m:Int} {nm:List Nat} {L:Nat} {ks:V} {h:H} (h0:mm 198=none) (h1:mm 183=none) (hk:Kids m L ks) (N:Nat) :
  runM mm Tab.fns (N+60) (.call 198 [nd k n nm ks]) [] [] h=.val (nd k n nm (lG h.next ks)) (Nv h ks):=by
 have hcl:∀ N,runM mm Tab.fns (N+30) (.call 183 [ks]) [] [] h=.val (lG h.next ks) (Nv h ks):=by
  intro N
  rw [dY (by simp [aG,h1]) (show Tab.fns 183=some Tab.N7 from rfl) rfl]
  cases hk<;>simp -implicitDefEqProofs only [Tab.N7,WW,dA,gG,aZ,jh,dD,bI,aK,cu,cO,eY,iE,fU,eP,aP,bD,aX,dB,dh,fO,aU,aS,bU,cZ,bW,pad,aF.ev,aF.evs,lF,dI,eF,bg,dQ,dS,bH,splice,bG,takeN,skip,dO,jg,bY,Nat.reduceAdd,Nat.reduceMul,Nat.reduceSub,Nat.beq,Nat.blt,Nat.ble,leave,finish,resV,eG,mk,eH,fE,kC,gq,fZ,eqK,lH,dZ,dK,iK,gJ,jF,OR.iG,findLabel,bn,iM,fC,leI,rep,chunk,gU,dM,AZ,sU,List.length,List.cons_append,List.nil_append,wM,jA,ORp,oQ,lG,Nv]
 rw [dY (by simp [aG,h0]) (show Tab.fns 198=some Tab.N8 from rfl) rfl]
 have hL:zL ks=false:=by cases hk<;>rfl
 have hc:V.cells (lG h.next ks)=[lG h.next ks]:=by cases hk<;>rfl
 have ho:yT (lG h.next ks)=true:=by cases hk<;>rfl
 have hm:isVal (lG h.next ks)=true:=by cases hk<;>rfl
 generalize lG h.next ks=X at hcl hc ho hm ⊢
 generalize Nv h ks=Y at hcl ⊢
 generalize hx:ks=Z at hcl hL
 unfold nd
 simp -implicitDefEqProofs only [Tab.N8,WW,dA,gG,aZ,jh,dD,bI,aK,cu,cO,eY,iE,fU,eP,aP,bD,aX,dB,dh,fO,aU,aS,bU,cZ,bW,pad,aF.ev,aF.evs,lF,dI,eF,bg,dQ,dS,bH,splice,bG,takeN,skip,dO,jg,bY,Nat.reduceAdd,Nat.reduceMul,Nat.reduceSub,Nat.beq,Nat.blt,Nat.ble,leave,finish,resV,eG,mk,eH,fE,kC,gq,fZ,eqK,lH,dZ,dK,iK,gJ,jF,OR.iG,findLabel,bn,iM,fC,leI,hx,hL,hcl,hm,hc,ho]
theorem aeI {m k n:Int} {nm:List Nat} {L i:Nat} {ks:V} {suf:List V} (hk:Kids m L ks) {h:H} (hg:∀ x xs e,ks=.list (x::xs) e→h.get i=some (.cells (x::xs))) (hs:Nodes suf) (N:Nat) :
  ∃ h2,dW (N+26+suf.length) (nd k n nm (lG i ks)::suf) h=(nd k n nm (eu ks)::suf,h2):=by
 have e0:N+26+suf.length=(N+suf.length)+26:=by omega
 have e1:∀ h,dW ((N+suf.length)+25) suf h=(suf,h):=by
  intro h
  have:=yJ (ns:=suf) [] (N+20) h hs
  have q:N+20+5+suf.length=(N+suf.length)+25:=by omega
  rw [List.append_nil,q] at this
  rw [this]
  simp [dW]
 rw [e0]
 generalize N+suf.length=M at e1 ⊢
 cases hk with
 |nil=>exact ⟨h,by simp [nd,lG,eu,dW,lM,e1]⟩
 |k0=>exact ⟨h,by simp [nd,lG,eu,dW,lM,e1]⟩
 |_=>exact ⟨h.del i,by have e:=hg _ _ _ rfl;simp [nd,lG,eu,dW,lM,e,chunk,takeN,skip,elemOf,e1]⟩
theorem anJ {ns:List V} {m k n b most:Int} {nm:List Nat} {L a:Nat} {ks:V} {H0:H} (hn:Nodes ns) (hk:Kids m L ks) (hl:ns.length≤100000) (ha:a<ns.length)
  (hg:H0.get 0=some (.cells (fl (ns.set a (nd k n nm (lG 1 ks)))))) (hg1:∀ x xs e,ks=.list (x::xs) e→H0.get 1=some (.cells (x::xs))) :
  ∃ h2,vW (.tuple [.agg [.hsl 0 0 ns.length (some ns.length) 4,.int .i64 most],.int .i64 b]) H0=(.tuple [.agg [.list (ns.set a (nd k n nm (eu ks))) true,.int .i64 most],.int .i64 b],h2):=by
 have hch:chunk 4 ns.length (fl (ns.set a (nd k n nm (lG 1 ks))))=some (ns.set a (nd k n nm (lG 1 ks))):=by
  have:=I9 (ns:=ns.set a (nd k n nm (lG 1 ks))) (fun v hv=>by
   rcases List.mem_or_eq_of_mem_set hv with h|h
   ·exact hn.n4 v h
   ·subst h;exact arF _ _ _ _)
  simpa using this
 have sp:∀ v,ns.set a v=ns.take a++v::ns.drop (a+1):=fun v=>by
  rw [List.set_eq_take_append_cons_drop]
  simp [ha]
 have n1:Nodes (ns.take a):=fun v hv=>hn v (List.mem_of_mem_take hv)
 have n2:Nodes (ns.drop (a+1)):=fun v hv=>hn v (List.mem_of_mem_drop hv)
 have t1:(ns.take a).length=a:=by simp;omega
 have t2:(ns.drop (a+1)).length=ns.length-(a+1):=by simp
 have hgd:∀ x xs e,ks=.list (x::xs) e→(H0.del 0).get 1=some (.cells (x::xs)):=by
  intro x xs e hx
  rw [H.wC]
  simpa using hg1 x xs e hx
 obtain ⟨h2,e2⟩:=aeI (k:=k) (n:=n) (nm:=nm) hk hgd n2 (999997-25-ns.length)
 have e3:=yJ (ns:=ns.take a) (nd k n nm (lG 1 ks)::ns.drop (a+1)) (999997-5-a) (H0.del 0) n1
 have q1:999997-5-a+5+(ns.take a).length=999997:=by omega
 have q2:999997-5-a+5=999997-25-ns.length+26+(ns.drop (a+1)).length:=by omega
 rw [q1,q2,e2,←sp] at e3
 rw [sp (nd k n nm (eu ks))]
 refine ⟨h2,?_⟩
 have hq:=hch
 simp [vW,dW,lM,hg,hch,skip,e3]
set_option maxHeartbeats 4000000 in
theorem apr {ns:List V} {e:Bool} {k n most:Int} {nm:List Nat} {L a:Nat} {ks:V} {m:Int} (h0:mm 281=none) (h1:mm 198=none) (h2:mm 183=none)
  (hn:Nodes ns) (hk:Kids m L ks) (hl:ns.length≤100000) (ha:a<ns.length)
  (hmay:aG mm 284 [nd k n nm ks,.int .i64 (Int.ofNat ns.length)]=some (.bool true)) (N:Nat) :
  ∃ h2,runM mm Tab.fns (N+300) (.call 281 [.agg [.list ns e,.int .i64 most],.int .i64 (Int.ofNat a),nd k n nm ks]) [] [] emp=.val (.tuple [.agg [.list (ns.set a (nd k n nm (eu ks))) true,.int .i64 most],.int .i64 (Int.ofNat 0)]) h2:=by
 let z:List V:=[.int .i64 (Int.ofNat 0),.int .i64 (Int.ofNat 0),.str [],.aj]
 let H1:H:=emp.new (.cells (rep z ns.length))
 let H2:H:=H1.set 0 (.cells (fl ns))
 let H3:H:=Nv H2 ks
 let H4:H:=H3.set 0 (.cells (fl (ns.set a (nd k n nm (lG 1 ks)))))
 have g4:H4.get 0=some (.cells (fl (ns.set a (nd k n nm (lG 1 ks))))):=by rw [H.rQ];simp
 have g41:∀ x xs e,ks=.list (x::xs) e→H4.get 1=some (.cells (x::xs)):=by
  intro x xs e hx
  rw [H.rQ]
  show H3.get 1=_
  subst hx
  show (H2.new (.cells (x::xs))).get 1=_
  rw [H.qw]
  rfl
 obtain ⟨hz,ez⟩:=anJ (b:=Int.ofNat 0) (most:=most) hn hk hl ha g4 g41
 refine ⟨hz,?_⟩
 rw [dY (by simp [aG,h0]) (show Tab.fns 281=some Tab.aao from rfl) rfl]
 have hown:=fun N=>agj (k:=k) (n:=n) (nm:=nm) (h:=H2) h1 h2 hk N
 have e21:H2.next=1:=rfl
 rw [e21] at hown
 have c1:getCells H1 0=some (rep z ns.length):=rfl
 have c3:getCells H3 0=some (fl ns):=by cases hk<;>rfl
 have sp1:bG (rep z ns.length) (fl ns)=some (fl ns):=by
  have q1:=G7 z ns.length
  have q2:=Bq hn
  have q3:z.length=4:=rfl
  rw [DC _ _ (by rw [q1,q2,q3];omega)]
  rw [List.drop_eq_nil_of_le (by rw [q1,q2,q3];omega),List.append_nil]
 have sp2:splice (a*4) (fl ns) [.int .i64 k,.int .i64 n,.str nm,lG 1 ks]=some (fl (ns.set a (nd k n nm (lG 1 ks)))):=NM (v:=nd k n nm (lG 1 ks)) hn ha rfl
 have aeQ:=fun N fr lo h=>iZ (fns:=Tab.fns) (n:=N) (fr:=fr) (lo:=lo) (h:=h) hmay
 have hb:Nat.ble ns.length ns.length=true:=Nat.ble_self_eq_true _
 have hb2:Nat.ble ns.length 16777216=true:=by simp;omega
 have hb3:Nat.ble (a+1) ns.length=true:=by simp;omega
 have hsrc:=fun h=>ahc (e:=e) (h:=h) hn
 have hok:=ZQ hn
 have hL:zL ks=false:=by cases hk<;>rfl
 have hV:isVal (lG 1 ks)=true:=by cases hk<;>rfl
 have hC:(lG 1 ks).cells=[lG 1 ks]:=by cases hk<;>rfl
 have hO:yT (lG 1 ks)=true:=by cases hk<;>rfl
 have m1:emp.new (.cells (rep z ns.length))=H1:=rfl
 have m2:H1.set 0 (.cells (fl ns))=H2:=rfl
 have m3:Nv H2 ks=H3:=rfl
 have m4:H3.set 0 (.cells (fl (ns.set a (nd k n nm (lG 1 ks)))))=H4:=rfl
 rw [m3] at hown
 clear hk g4 g41
 generalize lG 1 ks=X at *
 clear_value H4 H3 H2 H1
 simp only [show z=[.int .i64 (Int.ofNat 0),.int .i64 (Int.ofNat 0),.str [],.aj] from rfl] at *
 clear z
 generalize eu ks=Z at *
 unfold nd at *
 generalize hlen:ns.length=len at *
 simp -implicitDefEqProofs only [Tab.aao,WW,dA,gG,aZ,jh,dD,bI,aK,cu,cO,eY,iE,fU,eP,aP,bD,aX,dB,dh,fO,aU,aS,bU,cZ,bW,pad,aF.ev,aF.evs,lF,dI,eF,bg,dQ,dS,bH,splice,bG,takeN,skip,dO,jg,bY,Nat.reduceAdd,Nat.reduceMul,Nat.reduceSub,Nat.beq,Nat.blt,Nat.ble,leave,finish,resV,eG,mk,eH,fE,kC,gq,fZ,eqK,lH,dZ,dK,iK,gJ,jF,OR.iG,findLabel,bn,iM,fC,leI,hown,aeQ,hb,hb2,hb3,hsrc,hL,hV,hC,hO,gU,gW,qF,wO,oQ,c1,c3,sp1,sp2,hok,m1,m2,m4,hlen,ez,Nat.zero_mul]
end
def lg (v:V):Option Nat:=match v with
 |.int k n=>bif eqK k .i64 then (match n with|.ofNat j=>some j|_=>none) else none
 |_=>none
theorem lu {v:V} {j:Nat} (h:lg v=some j):v=.int .i64 (.ofNat j):=by
 cases v<;>first|(cases h;done)|skip
 rename_i k n
 cases k<;>cases n<;>first|(cases h;done)|skip
 rename_i n
 cases h;rfl
def lC (v:V):Option (Int×Int×List Nat×V):=match v with
 |.agg cs=>(match cs with
  |[a,b,c,d]=>(match a with
   |.int k x=>(match b with
    |.int k2 y=>(match c with
     |.str s=>bif eqK k .i64&&eqK k2 .i64 then some (x,y,s,d) else none
     |_=>none)
    |_=>none)
   |_=>none)
  |_=>none)
 |_=>none
theorem lq {v:V} {k n:Int} {nm:List Nat} {ks:V} (h:lC v=some (k,n,nm,ks)):v=nd k n nm ks:=by
 cases v<;>first|(cases h;done)|skip
 rename_i cs
 match cs,h with
 |[a,b,c,d],h =>
  cases a<;>first|(cases h;done)|skip
  rename_i k1 x
  cases b<;>first|(cases h;done)|skip
  rename_i k2 y
  cases c<;>first|(cases h;done)|skip
  rename_i s
  cases k1<;>cases k2<;>first|(cases h;done)|skip
  cases h;rfl
 |[],h=>cases h
 |[_],h=>cases h
 |[_,_],h=>cases h
 |[_,_,_],h=>cases h
 |_::_::_::_::_::_,h=>cases h
theorem rE (k n:Int) (nm:List Nat) (ks:V):lC (nd k n nm ks)=some (k,n,nm,ks):=rfl
def Ak:List V→Option (List Nat)
 |[]=>some []
 |x::xs=>match lg x with
  |some j=>(match Ak xs with|some js=>some (j::js)|none=>none)
  |none=>none
theorem GY:∀ {xs:List V} {js:List Nat},Ak xs=some js→xs=js.map fun j=>.int .i64 (.ofNat j)
 |[],js,h=>by cases h;rfl
 |x::xs,js,h=>by
  simp only [Ak] at h
  cases h1:lg x with
  |none=>rw [h1] at h;cases h
  |some j =>
   rw [h1] at h
   dsimp only at h
   cases h2:Ak xs with
   |none=>rw [h2] at h;cases h
   |some Vr=>rw [h2] at h;cases h;rw [lu h1,GY h2];rfl
theorem JM:∀ js:List Nat,Ak (js.map fun j=>V.int .i64 (.ofNat j))=some js
 |[]=>rfl
 |j::js=>by
  have h1:lg (.int .i64 (.ofNat j))=some j:=rfl
  simp only [List.map_cons,Ak,h1,JM js]
def qc (m:Nat):List Nat→Bool
 |[]=>true
 |j::js=>Nat.blt j m&&qc m js
def lS (m:Nat) (ks:V):Option (List Nat):=match ks with
 |.aj=>some []
 |.list xs _=>(match Ak xs with
  |some js=>bif Nat.ble js.length 8&&qc m js then some js else none
  |none=>none)
 |_=>none
theorem fP {j m:Nat} (h:Nat.blt j m=true):nP (Int.ofNat m) (Int.ofNat j):=⟨rfl,h⟩
theorem mD {m:Nat} {ks:V} {js:List Nat} (h:lS m ks=some js):Kids (Int.ofNat m) js.length ks:=by
 cases ks<;>first|(cases h;done)|skip
 ·cases h;exact .nil
 ·rename_i xs e
  simp only [lS] at h
  cases h1:Ak xs with
  |none=>rw [h1] at h;cases h
  |some Vr =>
   rw [h1] at h
   dsimp only at h
   cases hb:Nat.ble Vr.length 8&&qc m Vr with
   |false=>rw [hb] at h;cases h
   |true =>
    rw [hb] at h;cases h
    rw [GY h1]
    simp only [au,Nat.ble_eq] at hb
    obtain ⟨hl,ha⟩:=hb
    match js,hl,ha with
    |[],_,_=>exact .k0
    |[a],_,h=>simp only [qc,au,Bool.and_true] at h;exact .k1 (fP h)
    |[a,b],_,h=>simp only [qc,au,Bool.and_true] at h;exact .k2 (fP h.1) (fP h.2)
    |[a,b,c],_,h=>simp only [qc,au,Bool.and_true] at h;exact .k3 (fP h.1) (fP h.2.1) (fP h.2.2)
    |[a,b,c,d],_,h=>simp only [qc,au,Bool.and_true] at h;exact .k4 (fP h.1) (fP h.2.1) (fP h.2.2.1) (fP h.2.2.2)
    |[a,b,c,d,e],_,h=>simp only [qc,au,Bool.and_true] at h;exact .k5 (fP h.1) (fP h.2.1) (fP h.2.2.1) (fP h.2.2.2.1) (fP h.2.2.2.2)
    |[a,b,c,d,e,f],_,h=>simp only [qc,au,Bool.and_true] at h;exact .k6 (fP h.1) (fP h.2.1) (fP h.2.2.1) (fP h.2.2.2.1) (fP h.2.2.2.2.1) (fP h.2.2.2.2.2)
    |[a,b,c,d,e,f,g],_,h=>simp only [qc,au,Bool.and_true] at h;exact .k7 (fP h.1) (fP h.2.1) (fP h.2.2.1) (fP h.2.2.2.1) (fP h.2.2.2.2.1) (fP h.2.2.2.2.2.1) (fP h.2.2.2.2.2.2)
    |[a,b,c,d,e,f,g,i],_,h=>simp only [qc,au,Bool.and_true] at h;exact .k8 (fP h.1) (fP h.2.1) (fP h.2.2.1) (fP h.2.2.2.1) (fP h.2.2.2.2.1) (fP h.2.2.2.2.2.1) (fP h.2.2.2.2.2.2.1) (fP h.2.2.2.2.2.2.2)
    |_::_::_::_::_::_::_::_::_::_,hl,_=>simp at hl
def oC (k n:Int) (nm:List Nat) (L:Nat):Bool:=match k with
 |.ofNat 1=>nm.isEmpty&&Nat.beq L 0
 |.ofNat 2=>!(uK n (Int.ofNat L))
 |.ofNat 3=>nm.isEmpty&&!(uK n (Int.ofNat 0))
 |.ofNat 4=>nm.isEmpty&&!(uK n (Int.ofNat 0))
 |.ofNat 5=>nm.isEmpty&&!(uK n (Int.ofNat 0))&&Nat.beq L 0
 |.ofNat 6=>nm.isEmpty&&!(uK n (Int.ofNat 0))&&Nat.beq L 1
 |.ofNat 7=>nm.isEmpty&&!(uK n (Int.ofNat 0))&&Nat.beq L 0
 |_=>false
theorem XU {k n:Int} {nm:List Nat} {L:Nat} (h:oC k n nm L=true):yw k n nm L:=by
 have e0:∀ l:List Nat,l.isEmpty=true→l=[]:=fun l h=>by cases l<;>first|rfl|cases h
 unfold oC at h
 split at h
 ·simp only [au] at h;have:=aJ h.2;subst this;rw [e0 _ h.1];exact .int n
 ·simp only [Bool.not_eq_true'] at h;exact .con h
 ·simp only [au,Bool.not_eq_true'] at h;rw [e0 _ h.1];exact .fn h.2
 ·simp only [au,Bool.not_eq_true'] at h;rw [e0 _ h.1];exact .thunk h.2
 ·simp only [au,Bool.not_eq_true'] at h;have:=aJ h.2;subst this;rw [e0 _ h.1.1];exact .hole h.1.2
 ·simp only [au,Bool.not_eq_true'] at h;have:=aJ h.2;subst this;rw [e0 _ h.1.1];exact .ind h.1.2
 ·simp only [au,Bool.not_eq_true'] at h;have:=aJ h.2;subst this;rw [e0 _ h.1.1];exact .aC7 h.1.2
 ·cases h
def abj (v:V):Bool:=match lC v with
 |some (_,_,_,ks)=>(match lS 1000000000 ks with|some _=>true|none=>false)
 |none=>false
def zH:List V→Bool
 |[]=>true
 |v::ns=>abj v&&zH ns
theorem anT {v:V} (h:abj v=true):∃ k n nm ks js,v=nd k n nm ks∧lS 1000000000 ks=some js:=by
 unfold abj at h
 cases h1:lC v with
 |none=>rw [h1] at h;cases h
 |some p =>
  obtain ⟨k,n,nm,ks⟩:=p
  rw [h1] at h
  dsimp only at h
  cases h2:lS 1000000000 ks with
  |none=>rw [h2] at h;cases h
  |some js=>exact ⟨k,n,nm,ks,js,lq h1,h2⟩
theorem qX {m:Nat} {ks:V} {js:List Nat} (h:lS m ks=some js):aW ks=true∧aW (eu ks)=true:=by
 have hk:=mD h
 generalize js.length=L at hk
 cases hk<;>exact ⟨by simp [aW,bT],by simp [eu,aW,bT]⟩
theorem wS:∀ {ns:List V},zH ns=true→Nodes ns∧bT ns=true
 |[],_=>⟨Nodes.nil,by simp [bT]⟩
 |v::ns,h=>by
  simp only [zH,au] at h
  obtain ⟨k,n,nm,ks,js,rfl,hk⟩:=anT h.1
  obtain ⟨h1,h2⟩:=wS h.2
  refine ⟨Nodes.cons ?_ h1,?_⟩
  ·have hq:=mD hk
   generalize js.length=L at hq
   cases hq<;>first|exact .nil _ _ _|exact .list _ _ _ _ _
  ·simp only [bT,nd,aW,(qX hk).1,h2,Bool.and_self]
def RP (ks:V):Option Nat:=match ks with
 |.list xs _=>(match xs with|[x]=>lg x|_=>none)
 |_=>none
theorem Xa {ks:V} {b:Nat} (h:RP ks=some b):∃ e,ks=.list [.int .i64 (.ofNat b)] e:=by
 cases ks<;>first|(cases h;done)|skip
 rename_i xs e
 match xs,h with
 |[x],h=>exact ⟨e,by rw [lu h]⟩
 |[],h=>cases h
 |_::_::_,h=>cases h
def gAt (ns:List V):Nat→Nat→Option V
 |0,_=>none
 |f+1,i=>match skip i ns with
  |[]=>none
  |v::_=>match lC v with
   |none=>none
   |some (k,n,nm,ks)=>bif vZ k (Int.ofNat 6) then (match RP ks with|some b=>gAt ns f b|none=>none)
    else (match lS 1000000000 ks with|some _=>some (.tuple [nd k n nm (eu ks),.int .i64 (.ofNat i),.int .i64 (.ofNat 0)])|none=>none)
abbrev Ans (f:Nat) (a:List V) (v:V):Prop:=aAf Go.Proofs.Tryz.prog qQ f a v
def Aa (v:V):Option (List V×Int):=match v with
 |.agg cs=>(match cs with
  |[a,b]=>(match a with
   |.list ns _=>(match b with
    |.int k most=>bif eqK k .i64 then some (ns,most) else none
    |_=>none)
   |_=>none)
  |_=>none)
 |_=>none
theorem Ac {v:V} {ns:List V} {most:Int} (h:Aa v=some (ns,most)):∃ e,v=.agg [.list ns e,.int .i64 most]:=by
 cases v<;>first|(cases h;done)|skip
 rename_i cs
 match cs,h with
 |[a,b],h =>
  cases a<;>first|(cases h;done)|skip
  rename_i xs e
  cases b<;>first|(cases h;done)|skip
  rename_i k n
  cases k<;>first|(cases h;done)|skip
  cases h;exact ⟨e,rfl⟩
 |[],h=>cases h
 |[_],h=>cases h
 |_::_::_::_,h=>cases h
def XR (args:List V):Option V:=match args with
 |[a,b]=>(match lC a with
  |some (k,n,nm,ks)=>(match lg b with
   |some m=>(match lS m ks with
    |some js=>bif oC k n nm js.length then some (.bool true) else none
    |none=>none)
   |none=>none)
  |none=>none)
 |_=>none
def GX:iO:=fun f=>bif Nat.beq f 284 then some ⟨XR⟩ else none
def ED:iO:=fun _=>none
theorem wG:qR Go.Proofs.Tryz.prog qQ ED:=fun f args v h=>by cases h
theorem aoF {args:List V} {v:V} (h:XR args=some v):∃ k n nm ks m js,args=[nd k n nm ks,.int .i64 (Int.ofNat m)]∧v=.bool true∧lS m ks=some js∧oC k n nm js.length=true:=by
 match args,h with
 |[],h=>cases h
 |[_],h=>cases h
 |_::_::_::_,h=>cases h
 |[a,b],h =>
  simp only [XR] at h
  cases h1:lC a with
  |none=>rw [h1] at h;cases h
  |some p =>
   obtain ⟨k,n,nm,ks⟩:=p
   rw [h1] at h
   dsimp only at h
   cases h2:lg b with
   |none=>rw [h2] at h;cases h
   |some m =>
    rw [h2] at h
    dsimp only at h
    cases h3:lS m ks with
    |none=>rw [h3] at h;cases h
    |some js =>
     rw [h3] at h
     dsimp only at h
     cases h4:oC k n nm js.length with
     |false=>rw [h4] at h;cases h
     |true=>rw [h4] at h;cases h;exact ⟨k,n,nm,ks,m,js,by rw [lq h1,lu h2],rfl,h3,h4⟩
theorem aoE {args:List V} {v:V} (h:XR args=some v):Ans 284 args v:=by
 obtain ⟨k,n,nm,ks,m,js,rfl,rfl,hk,hn⟩:=aoF h
 have hr:=aoG (mm:=ED) (k:=k) (n:=n) (m:=Int.ofNat m) (nm:=nm) rfl rfl rfl rfl (mD hk) (XU hn) 0
 exact VN (Tab.lW wG) hr (by simp only [bT,nd,aW,(qX hk).1,Bool.and_self]) rfl
theorem TG:qR Go.Proofs.Tryz.prog qQ GX:=fun f args v h=>by
 unfold aG GX at h
 cases hb:Nat.beq f 284 with
 |false=>rw [hb] at h;cases h
 |true=>rw [hb] at h;rw [aJ hb];exact aoE h
def atS (args:List V):Option V:=match args with
 |[a,b]=>(match Aa a with
  |some (ns,_)=>(match lg b with
   |some i=>bif zH ns&&Nat.ble ns.length 100000 then gAt ns 3 i else none
   |none=>none)
  |none=>none)
 |_=>none
theorem uG {ns rest:List V} {i:Nat} {v:V} (h:skip i ns=v::rest):Nat.ble (i+1) ns.length=true∧ns[i]?=some v:=by
 rw [EK] at h
 have h1:i<ns.length:=by
  rcases Nat.lt_or_ge i ns.length with h1|h1
  ·exact h1
  ·rw [List.drop_eq_nil_of_le h1] at h;cases h
 refine ⟨by simp;omega,?_⟩
 have:=List.drop_eq_getElem_cons h1
 rw [this] at h
 cases h
 simp [h1]
theorem OM {ns:List V} {f i:Nat} {v:V} (h:gAt ns (f+1) i=some v):∃ k n nm ks rest,skip i ns=nd k n nm ks::rest ∧
  ((vZ k (Int.ofNat 6)=false∧v=.tuple [nd k n nm (eu ks),.int .i64 (.ofNat i),.int .i64 (.ofNat 0)]∧∃ js,lS 1000000000 ks=some js) ∨
   (k=6∧∃ b e,ks=.list [.int .i64 (.ofNat b)] e∧gAt ns f b=some v)):=by
 simp only [gAt] at h
 cases h1:skip i ns with
 |nil=>rw [h1] at h;cases h
 |cons x rest =>
  rw [h1] at h
  dsimp only at h
  cases h2:lC x with
  |none=>rw [h2] at h;cases h
  |some p =>
   obtain ⟨k,n,nm,ks⟩:=p
   rw [h2] at h
   dsimp only at h
   refine ⟨k,n,nm,ks,rest,by rw [lq h2],?_⟩
   cases h3:vZ k (Int.ofNat 6) with
   |true =>
    rw [h3] at h
    simp only [cond_true] at h
    have hk:k=6:=by rw [qW] at h3;simpa using h3
    cases h4:RP ks with
    |none=>rw [h4] at h;cases h
    |some b=>rw [h4] at h;obtain ⟨e,he⟩:=Xa h4;exact .inr ⟨hk,b,e,he,h⟩
   |false =>
    rw [h3] at h
    simp only [cond_false] at h
    cases h4:lS 1000000000 ks with
    |none=>rw [h4] at h;cases h
    |some js=>rw [h4] at h;cases h;exact .inl ⟨rfl,rfl,js,rfl⟩
theorem axg {args:List V} {v:V} (h:atS args=some v):Ans 87 args v:=by
 match args,h with
 |[],h=>cases h
 |[_],h=>cases h
 |_::_::_::_,h=>cases h
 |[a,b],h =>
  simp only [atS] at h
  cases h1:Aa a with
  |none=>rw [h1] at h;cases h
  |some p =>
   obtain ⟨ns,most⟩:=p
   rw [h1] at h
   dsimp only at h
   cases h2:lg b with
   |none=>rw [h2] at h;cases h
   |some i =>
    rw [h2] at h
    dsimp only at h
    cases h3:zH ns&&Nat.ble ns.length 100000 with
    |false=>rw [h3] at h;cases h
    |true =>
     rw [h3] at h
     simp only [cond_true] at h
     simp only [au,Nat.ble_eq] at h3
     obtain ⟨e,rfl⟩:=Ac h1
     rw [lu h2]
     obtain ⟨hn,hf⟩:=wS h3.1
     have fa:∀ i,bT [.agg [.list ns e,.int .i64 most],.int .i64 (Int.ofNat i)]=true:=fun i=>by simp only [bT,aW,hf,Bool.and_self]
     have fv:∀ k n nm ks i js,lS 1000000000 ks=some js→aW (.tuple [nd k n nm (eu ks),.int .i64 (.ofNat i),.int .i64 (.ofNat 0)])=true:=fun k n nm ks i js hk=>by simp only [bT,nd,aW,(qX hk).2,Bool.and_self]
     have snd:=Tab.lW wG
     have two:∀ {i j:Nat} {u w:V} {r s:List V},skip i ns=u::r→skip j ns=w::s→u≠w→Nat.ble 2 ns.length=true:=by
      intro i j u w r s e1 e2 hne
      have q1:=uG e1
      have q2:=uG e2
      have:i≠j:=by rintro rfl;rw [q1.2] at q2;exact hne (gy q2.2)
      have l1:=q1.1;have l2:=q2.1
      simp at l1 l2 ⊢
      omega
     obtain ⟨k,n,nm,ks,rest,hs,hc⟩:=OM h
     rcases hc with ⟨h6,rfl,js,hk⟩|⟨rfl,b1,e1,rfl,h⟩
     ·obtain ⟨h',hr⟩:=amN (mm:=ED) (e:=e) (most:=most) rfl rfl rfl (mD hk) h3.2 (uG hs).1 hs h6 0
      exact VN snd hr (fa _) (fv _ _ _ _ _ _ hk)
     ·obtain ⟨k1,n1,nm1,ks1,aMD,hs1,hc⟩:=OM h
      rcases hc with ⟨h6,rfl,js,hk⟩|⟨rfl,b2,e2,rfl,h⟩
      ·have hne:nd 6 n nm (.list [.int .i64 (.ofNat b1)] e1)≠nd k1 n1 nm1 ks1:=by intro hq;simp only [nd,V.agg.injEq,List.cons.injEq,V.int.injEq] at hq;rw [←hq.1.2] at h6;cases h6
       obtain ⟨h',hr⟩:=amO (mm:=ED) (e:=e) (most:=most) rfl rfl rfl (mD hk) h3.2 (uG hs1).1 hs1 h6 (uG hs).1 hs (two hs hs1 hne) 0
       exact VN snd hr (fa _) (fv _ _ _ _ _ _ hk)
      ·obtain ⟨k2,n2,nm2,ks2,aME,hs2,hc⟩:=OM h
       rcases hc with ⟨h6,rfl,js,hk⟩|⟨rfl,b3,e3,rfl,h⟩
       ·have hne:nd 6 n nm (.list [.int .i64 (.ofNat b1)] e1)≠nd k2 n2 nm2 ks2:=by intro hq;simp only [nd,V.agg.injEq,List.cons.injEq,V.int.injEq] at hq;rw [←hq.1.2] at h6;cases h6
        obtain ⟨h',hr⟩:=amP (mm:=ED) (e:=e) (most:=most) rfl rfl rfl (mD hk) h3.2 (uG hs2).1 hs2 h6 (uG hs).1 hs (uG hs1).1 hs1 (two hs hs2 hne) 0
        exact VN snd hr (fa _) (fv _ _ _ _ _ _ hk)
       ·cases h
def IQ (args:List V):Option V:=match args with
 |[a,b]=>(match Aa a with
  |some (ns,most)=>(match lC b with
   |some (k,n,nm,ks)=>(match lS (ns.length+1) ks with
    |some js=>bif zH ns&&Nat.ble ns.length 100000&&uK (Int.ofNat ns.length) most&&oC k n nm js.length
     then some (.tuple [.agg [.list (ns++[nd k n nm (eu ks)]) false,.int .i64 most],.int .i64 (.ofNat ns.length),.int .i64 (.ofNat 0)]) else none
    |none=>none)
   |none=>none)
  |none=>none)
 |_=>none
def ag3 (args:List V):Option V:=match args with
 |[a,i,b]=>(match Aa a with
  |some (ns,most)=>(match lg i with
   |some i=>(match lC b with
    |some (k,n,nm,ks)=>(match lS ns.length ks with
     |some js=>bif zH ns&&Nat.ble ns.length 100000&&Nat.blt i ns.length&&oC k n nm js.length
      then some (.tuple [.agg [.list (ns.set i (nd k n nm (eu ks))) true,.int .i64 most],.int .i64 (.ofNat 0)]) else none
     |none=>none)
    |none=>none)
   |none=>none)
  |none=>none)
 |_=>none
theorem Gy:∀ {a b:List V},bT a=true→bT b=true→bT (a++b)=true
 |[],b,_,h=>h
 |x::a,b,h1,h2=>by
  simp only [bT,au] at h1
  simp only [List.cons_append,bT,h1.1,Gy h1.2 h2,Bool.and_self]
theorem Rq:∀ {a:List V} {i:Nat} {v:V},bT a=true→aW v=true→bT (a.set i v)=true
 |[],i,v,h,_=>by simpa using h
 |x::a,0,v,h,hv=>by
  simp only [bT,au] at h
  simp only [List.set_cons_zero,bT,hv,h.2,Bool.and_self]
 |x::a,i+1,v,h,hv=>by
  simp only [bT,au] at h
  simp only [List.set_cons_succ,bT,h.1,Rq h.2 hv,Bool.and_self]
theorem ZB (a:List V):aG GX 284 a=XR a:=by
 unfold aG GX
 rw [show Nat.beq 284 284=true from rfl]
 rfl
theorem aax {args:List V} {v:V} (h:IQ args=some v):Ans 398 args v:=by
 match args,h with
 |[],h=>cases h
 |[_],h=>cases h
 |_::_::_::_,h=>cases h
 |[a,b],h =>
  simp only [IQ] at h
  cases h1:Aa a with
  |none=>rw [h1] at h;cases h
  |some p =>
   obtain ⟨ns,most⟩:=p
   rw [h1] at h
   dsimp only at h
   cases h2:lC b with
   |none=>rw [h2] at h;cases h
   |some q =>
    obtain ⟨k,n,nm,ks⟩:=q
    rw [h2] at h
    dsimp only at h
    cases h3:lS (ns.length+1) ks with
    |none=>rw [h3] at h;cases h
    |some js =>
     rw [h3] at h
     dsimp only at h
     cases h4:zH ns&&Nat.ble ns.length 100000&&uK (Int.ofNat ns.length) most&&oC k n nm js.length with
     |false=>rw [h4] at h;cases h
     |true =>
      rw [h4] at h
      simp only [cond_true,aC] at h
      subst h
      simp only [au,Nat.ble_eq] at h4
      obtain ⟨⟨⟨g1,g2⟩,g3⟩,g4⟩:=h4
      obtain ⟨e,rfl⟩:=Ac h1
      rw [lq h2]
      obtain ⟨hn,hf⟩:=wS g1
      have hmay:aG GX 284 [nd k n nm ks,.int .i64 (Int.ofNat (ns.length+1))]=some (.bool true):=by
       rw [ZB]
       have e1:lg (.int .i64 (Int.ofNat (ns.length+1)))=some (ns.length+1):=rfl
       simp only [XR,rE,e1,h3,g4,cond_true]
      obtain ⟨h',hr⟩:=aay (mm:=GX) (e:=e) (most:=most) rfl rfl rfl rfl hn (mD h3) g2 g3 hmay 0
      have q1:=(qX h3).1
      have q2:=(qX h3).2
      have q3:bT [nd k n nm (eu ks)]=true:=by simp only [bT,nd,aW,q2,Bool.and_self]
      exact VN (Tab.lW TG) hr (by simp only [bT,aW,nd,hf,q1,Bool.and_self]) (by simp only [aW,bT,Gy hf q3,Bool.and_self])
theorem apq {args:List V} {v:V} (h:ag3 args=some v):Ans 281 args v:=by
 match args,h with
 |[],h=>cases h
 |[_],h=>cases h
 |[_,_],h=>cases h
 |_::_::_::_::_,h=>cases h
 |[a,i,b],h =>
  simp only [ag3] at h
  cases h1:Aa a with
  |none=>rw [h1] at h;cases h
  |some p =>
   obtain ⟨ns,most⟩:=p
   rw [h1] at h
   dsimp only at h
   cases h0:lg i with
   |none=>rw [h0] at h;cases h
   |some i2 =>
    rw [h0] at h
    dsimp only at h
    cases h2:lC b with
    |none=>rw [h2] at h;cases h
    |some q =>
     obtain ⟨k,n,nm,ks⟩:=q
     rw [h2] at h
     dsimp only at h
     cases h3:lS ns.length ks with
     |none=>rw [h3] at h;cases h
     |some js =>
      rw [h3] at h
      dsimp only at h
      cases h4:zH ns&&Nat.ble ns.length 100000&&Nat.blt i2 ns.length&&oC k n nm js.length with
      |false=>rw [h4] at h;cases h
      |true =>
       rw [h4] at h
       simp only [cond_true,aC] at h
       subst h
       simp only [au,Nat.ble_eq] at h4
       obtain ⟨⟨⟨g1,g2⟩,g3⟩,g4⟩:=h4
       have g3:i2<ns.length:=Nat.lt_of_succ_le (by simpa [Nat.blt] using g3)
       obtain ⟨e,rfl⟩:=Ac h1
       rw [lq h2,lu h0]
       obtain ⟨hn,hf⟩:=wS g1
       have hmay:aG GX 284 [nd k n nm ks,.int .i64 (Int.ofNat ns.length)]=some (.bool true):=by
        rw [ZB]
        have e1:lg (.int .i64 (Int.ofNat ns.length))=some ns.length:=rfl
        simp only [XR,rE,e1,h3,g4,cond_true]
       obtain ⟨h',hr⟩:=apr (mm:=GX) (e:=e) (most:=most) rfl rfl rfl hn (mD h3) g2 g3 hmay 0
       have q1:=(qX h3).1
       have q2:=(qX h3).2
       have q3:aW (nd k n nm (eu ks))=true:=by simp only [bT,nd,aW,q2,Bool.and_self]
       exact VN (Tab.lW TG) hr (by simp only [bT,aW,nd,hf,q1,Bool.and_self]) (by simp only [aW,bT,Rq hf q3,Bool.and_self])
end Go.Vx
