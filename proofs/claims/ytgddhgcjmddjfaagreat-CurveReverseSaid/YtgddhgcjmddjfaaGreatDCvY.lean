/- Equal curves: the program's; clockwise segments do not occur. -/
import Derived.Test.YtgddhgcjmddjfaaGreatD20
noncomputable section
namespace Go.Proofs.YtgddhgcjmddjfaaGreat
open Go.RowKit Go.IntKind
def Ze:Env:=[(58,RO),(55,yO)]
theorem P1:EnvAll Tryz.prog Ze:=⟨SU,uH,trivial⟩
def as2:Ctx:=CX Ze []
def afB(a b:BCU)(_k:KT):OLR:=match decide (fi a b)with|true=>(match cL (dC a) (dC b)with|true=>(match a.2.2.2.1==b.2.2.2.1 with|true=>(match decide (okP 4000 a.2.2.2.2.1∧okP 4000 b.2.2.2.2.1)with|true=>(match aV (dec a.2.2.2.2.1) (dec b.2.2.2.2.1)==0 with|true=>(match decide (okP 4000 a.2.2.2.2.2∧okP 4000 b.2.2.2.2.2)with|true=>some [RV.d .bool (aV (dec a.2.2.2.2.2) (dec b.2.2.2.2.2)==0)]|false=>none)|false=>some [RV.d .bool false])|false=>none)|false=>some [RV.d .bool false])|false=>some [RV.d .bool false])|false=>none
theorem arN(a b:BCU):RS as2 27 [.d tCU a,.d tCU b] (afB a b):=rsX
theorem adk(a b:BCU)(h:dQ a b):Con Tryz.prog 27 [.d tCU a,.d tCU b] [.d .bool (rv (dC a) (dC b))]:=by
 refine aO P1 (arN _ _ ⟨0,?_⟩)
 obtain⟨⟨a1,a2⟩,b1,b2⟩:=h
 have a4:=ck (k:=4000) a1 (by decide) (by decide)
 have b4:=ck (k:=4000) b1 (by decide) (by decide)
 unfold afB rv
 rw[dT (show fi a b from⟨a2,b2⟩),dT (show okP 4000 a.2.2.2.2.1∧okP 4000 b.2.2.2.2.1 from⟨a4.2.2.1,b4.2.2.1⟩),dT (show okP 4000 a.2.2.2.2.2∧okP 4000 b.2.2.2.2.2 from⟨a4.2.2.2,b4.2.2.2⟩)]
 have e2:∀c,cwC (dC c)=c.2.2.2.1:=fun _=>rfl
 have e3:∀c,frC (dC c)=dec c.2.2.2.2.1:=fun _=>rfl
 have e4:∀c,toC (dC c)=dec c.2.2.2.2.2:=fun _=>rfl
 rw[e2,e2,e3,e3,e4,e4]
 cases cL (dC a) (dC b)<;>cases(a.2.2.2.1==b.2.2.2.1)<;>cases(aV (dec a.2.2.2.2.1) (dec b.2.2.2.2.1)==0)<;>rfl
def S3:aM:=spN true true [tCU,tCU] (fun x=>decide (dQ x.1 x.2.1)) (fun x=>[RV.d .bool (rv (dC x.1) (dC x.2.1))])
theorem Tm:SpK 27 S3:=spX fun x h=>adk x.1 x.2.1 (auN h)
theorem asm{x:Dr}:∀c∈ofL x,c.1=false→c.2.2.2.1=false:=by
 intro c hc ha
 unfold ofL at hc
 cases h2:x.1%3==2<;>rw[h2]at hc
 ·cases h1:x.1%3==1<;>rw[h1]at hc
  ·cases hs:oI (drA x) (drB x) !=0<;>rw[hs]at hc
   ·have:c=AA (drA x) (drB x):=by simpa using hc
    rw[this]
    unfold AA
    cases uf (drA x) (drB x)<;>rfl
   ·cases hc
  ·cases hs:oK (drA x) (drB x) (drC x) !=0<;>rw[hs]at hc
   ·have:c=As (drA x) (drB x) (drC x):=by simpa using hc
    rw[this]at ha ⊢
    revert ha
    unfold As
    cases decide (dq (drA x) (drB x) (drC x)=0)
    ·intro ha;cases ha
    ·intro _;rfl
   ·cases hc
 ·cases hs:decide ((drB x).1≤0)<;>rw[hs]at hc
  ·have:c∈Ea (enc (drQ x)):=hc
   unfold Ea at this
   simp only[au5,awi,axz]at this
   rcases this with e|e<;>(rw[e]at ha;cases ha)
  ·cases hc
theorem ajc{x:Pce}(h:uD x)(ho:rC x=true):(aU x).1=false→(aU x).2.2.2.1=false:=by
 have hp:=Nh h ho
 intro ha
 unfold Fl at hp
 cases hl:ofL x.1 with
 |nil=>rw[hl]at hp;cases hp
 |cons c r=>
  rw[hl]at hp
  obtain⟨u,v,_,_,e⟩:=Ed (show aU x∈jG c (vD c (kI c (ofL x.2.1))) from hp)
  rw[e]at ha ⊢
  exact asm (x:=x.1) c (by rw[hl];simp) ha
theorem ajF{c:BCU}(h:gdN c)(hw:c.1=false→c.2.2.2.1=false):Ay (dC c)=true:=by
 unfold Ay
 have e1:em (dC c) (frC (dC c))=true:=h.2.1
 have e2:em (dC c) (toC (dC c))=true:=h.2.2.1
 have e3:(aV (frC (dC c)) (toC (dC c))==0)=false:=awo.2 h.ne
 rw[e1,e2,e3]
 show((c.1||!c.2.2.2.1)&&_)=true
 cases ha:c.1
 ·rw[hw ha];rfl
 ·rfl
theorem H4{c:BCU}(h:gdN c):rv (dC c) (dC c)=true:=by
 unfold rv
 have e1:(aV (frC (dC c)) (frC (dC c))==0)=true:=avQ.2 (AP h.crp.f.1)
 have e2:(aV (toC (dC c)) (toC (dC c))==0)=true:=avQ.2 (AP h.crp.t.1)
 rw[yU,awW,e1,e2]
 rfl
theorem adQ{c:BCU}(h:gdN c):rv (dC (cH c)) (dC c)=false:=by
 unfold rv
 have i1:Rpd (frC (dC c)):=h.crp.f.1
 have i2:Rpd (toC (dC c)):=h.crp.t.1
 have e1:(aV (frC (dC (cH c))) (frC (dC c))==0)=false:=awo.2 fun e=>h.ne (iJ (p:=toC (dC c)) (q:=frC (dC c)) e)
 rw[e1]
 cases cL (dC (cH c)) (dC c)<;>cases(cwC (dC (cH c))==cwC (dC c))<;>rfl
end Go.Proofs.YtgddhgcjmddjfaaGreat
end
