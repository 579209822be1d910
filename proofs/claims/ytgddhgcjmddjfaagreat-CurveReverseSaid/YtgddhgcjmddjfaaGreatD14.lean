/- Lines and circles: the reference's contracts. -/
import Derived.Test.YtgddhgcjmddjfaaGreatD13
noncomputable section
namespace Go.Proofs.YtgddhgcjmddjfaaGreat
open Go.RowKit Go.IntKind
theorem awI:type_of% @not_false_eq_true:=@not_false_eq_true
def GY(l:Ln)(p:Pt):Rt:=mkR (OT l p) (Qe l p) p.2.2.2.2
def we(c:Ln)(p:Pt):Rt:=arT (sqP p (ctr c)) (-c.2.2)
instance auj {r:Rt} {a:Rat} [h:Rdd r]:Rdd (arT r a):=⟨h.rd⟩
instance aej {l:Ln} {p:Pt} [h:Rpd p]:Rdd (GY l p):=by
 have:Nn p.2.2.2.2:=inferInstance
 exact WR
instance atd {l:Ln} {p:Pt} {i j:Nat} [h:Bd l i] [h':Bd p j]:Bd (GY l p) (5*i+5*j+5):=by
 have a1:Bd (OT l p) _:=inferInstance
 have a2:Bd (Qe l p) _:=inferInstance
 have a3:Bd (mkR (OT l p) (Qe l p) p.2.2.2.2) _:=inferInstance
 exact a3.mono (by omega)
theorem adM{l:Ln}{p:Pt}[h:Rpd p]:sgR (GY l p)=pN l p:=by
 unfold pN
 rw[aae (aej (l:=l) (p:=p)).nn,RE.sgn2_re h.nn]
 unfold GY
 rw[RE.vR_mk]
namespace RE
theorem aef(a b q:RE):a+ -q+b=a+b-q:=by
 induction a using auM
 induction b using auM
 induction q using auM
 exact snd fun n=>by
  simp only[RL.add,RL.neg]
  grind
theorem aeZ(a b q:RE):a-q+b=a+b-q:=by
 induction a using auM
 induction b using auM
 induction q using auM
 exact snd fun n=>by
  simp only[RL.add,RL.neg]
  grind
theorem shift_l(a b d q:RE)(h:a+b=a+d):a+ -q+b=a-q+d:=by
 rw[aef,aeZ,h]
end RE
theorem adY{c:Ln}{p:Pt}[h:Rpd p]: -sgR (we c p)=nS c p:=by
 unfold nS
 have hr:Rdd (we c p):=inferInstanceAs (Rdd (arT (sqP p (ctr c)) (-c.2.2)))
 rw[aae hr.nn,RE.sgn2_re h.nn]
 have e:RE.vR (we c p)=RE.v2 (sqA p (ctr c)-c.2.2) (sqB p (ctr c)) p.2.2.2.2:=by
  have e1:=RE.vR_co (sqA p (ctr c)) (sqB p (ctr c)) p.2.2.2.2
  unfold RE.vR RE.v2 at e1
  unfold we arT sqP RE.vR RE.v2
  simp only
  rw[RE.of_add,RE.of_neg,RE.of_sub]
  have e2:RE.of (coR (sqA p (ctr c)) (sqB p (ctr c)) p.2.2.2.2).1=RE.of (sqA p (ctr c)):=by
   unfold coR
   cases decide (sqB p (ctr c)=0)<;>rfl
  rw[e2]at e1 ⊢
  exact RE.shift_l _ _ _ _ e1
 rw[e]
theorem zY{q:Rat}(h:q≠0):aR q 0=if 0<q then 1 else-1:=by
 rcases(by grind:q<0∨0<q)with h'|h'
 ·rw[dM h',avf (by grind)]
 ·rw[dA h',avn h']
def CW:aM:=spN false true [tR,tR] (fun x=>decide (gb x.1 x.2.1)) (fun x=>[RV.d tR (hid (ai (ae x.1/ae x.2.1))),RV.d ayb 0])
theorem Ba:SpK 167 CW:=spX fun x h=>by simp only[am];exact E3 x.1 x.2.1 (auN h)
def D0:aM:=spN false true [tR,tR,tR] (fun x=>decide (ok Rat 100000 x.1∧ok Rat 100000 x.2.1∧ok Rat 100000 x.2.2.1∧0≤ae x.2.2.1)) (fun x=>[RV.d tO (hid (enc (mkR (ae x.1) (ae x.2.1) (ae x.2.2.1)))),RV.d ayb 0])
theorem B7:SpK 36 D0:=spX fun x h=>by simp only[am];exact Ve x.1 x.2.1 x.2.2.1 (auN h)
def nI:Env:=[(69,jS),(35,nv),(85,qU),(168,qs),(86,ng),(92,rg),(169,ri),(167,CW),(36,D0),(234,CL),(235,Mi)]
theorem iI:EnvAll Tryz.prog nI:=⟨gU,kq,mg,mM,j8,mX,mp,Ba,B7,A9,Pz,trivial⟩
def alM:Ctx:=CX nI []
def Wa(a:BR)(_k:KT):OLR:=match decide (okR a∧okR a)with|true=>some [RV.d tR (hid (ai (ae a*ae a)))]|false=>none
theorem ajX(a:BR):RS alM 192 [.d tR a] (Wa a):=rsX
theorem Zc(a:BR)(h:okR a):Con Tryz.prog 192 [.d tR a] [.d tR (ai (ae a*ae a))]:=by
 refine aO iI (ajX _ ⟨0,?_⟩)
 unfold Wa
 rw[dT ⟨h,h⟩]
 simp only[am]
def amP:Ctx:=CX nI []
def Ug(a b:BR)(_k:KT):OLR:=match decide (okR a∧okR b)with|true=>some [RV.d tR (hid (ai (ae a+ae b)))]|false=>none
theorem alV(a b:BR):RS amP 133 [.d tR a,.d tR b] (Ug a b):=rsX
theorem QI(a b:BR)(h:okR a∧okR b):Con Tryz.prog 133 [.d tR a,.d tR b] [.d tR (ai (ae a+ae b))]:=by
 refine aO iI (alV _ _ ⟨0,?_⟩)
 unfold Ug
 rw[dT h]
 simp only[am]
def amq:Ctx:=CX nI []
def W9(a b:BR)(_k:KT):OLR:=match decide (okR a∧okR b)with|true=>some [RV.d tR (hid (ai (ae a-ae b)))]|false=>none
theorem aio(a b:BR):RS amq 132 [.d tR a,.d tR b] (W9 a b):=rsX
theorem Qn(a b:BR)(h:okR a∧okR b):Con Tryz.prog 132 [.d tR a,.d tR b] [.d tR (ai (ae a-ae b))]:=by
 refine aO iI (aio _ _ ⟨0,?_⟩)
 unfold W9
 rw[dT h]
 simp only[am]
def aj9:Ctx:=CX nI []
def S5(a b:BR)(_k:KT):OLR:=match decide (okR a∧okR b)with|true=>some [RV.d tR (hid (ai (ae a*ae b)))]|false=>none
theorem ajV(a b:BR):RS aj9 94 [.d tR a,.d tR b] (S5 a b):=rsX
theorem Wf(a b:BR)(h:okR a∧okR b):Con Tryz.prog 94 [.d tR a,.d tR b] [.d tR (ai (ae a*ae b))]:=by
 refine aO iI (ajV _ _ ⟨0,?_⟩)
 unfold S5
 rw[dT h]
 simp only[am]
def ait:Ctx:=CX nI []
def TN(a b:BR)(_k:KT):OLR:=match decide (gb a b)with|true=>some [RV.d tR (hid (ai (ae a/ae b)))]|false=>none
theorem ajj(a b:BR):RS ait 193 [.d tR a,.d tR b] (TN a b):=rsX
theorem UW(a b:BR)(h:gb a b):Con Tryz.prog 193 [.d tR a,.d tR b] [.d tR (ai (ae a/ae b))]:=by
 refine aO iI (ajj _ _ ⟨0,?_⟩)
 unfold TN
 rw[dT h]
 simp only[am]
def K5:aM:=spN false true [tR] (fun x=>decide (okR x.1)) (fun x=>[RV.d tR (hid (ai (ae x.1*ae x.1)))])
theorem Oj:SpK 192 K5:=spX fun x h=>by simp only[am];exact Zc x.1 (auN h)
def Dc:aM:=spN false true [tR,tR] (fun x=>decide (okR x.1∧okR x.2.1)) (fun x=>[RV.d tR (hid (ai (ae x.1+ae x.2.1)))])
theorem BT:SpK 133 Dc:=spX fun x h=>by simp only[am];exact QI x.1 x.2.1 (auN h)
def DR:aM:=spN false true [tR,tR] (fun x=>decide (okR x.1∧okR x.2.1)) (fun x=>[RV.d tR (hid (ai (ae x.1-ae x.2.1)))])
theorem Bv:SpK 132 DR:=spX fun x h=>by simp only[am];exact Qn x.1 x.2.1 (auN h)
def xh:aM:=spN false true [tR,tR] (fun x=>decide (okR x.1∧okR x.2.1)) (fun x=>[RV.d tR (hid (ai (ae x.1*ae x.2.1)))])
theorem uS:SpK 94 xh:=spX fun x h=>by simp only[am];exact Wf x.1 x.2.1 (auN h)
def ED:aM:=spN false true [tR,tR] (fun x=>decide (gb x.1 x.2.1)) (fun x=>[RV.d tR (hid (ai (ae x.1/ae x.2.1)))])
theorem Cd:SpK 193 ED:=spX fun x h=>by simp only[am];exact UW x.1 x.2.1 (auN h)
def uG:Env:=(192,K5)::(133,Dc)::(132,DR)::(94,xh)::(193,ED)::nI
theorem n8:EnvAll Tryz.prog uG:=⟨Oj,BT,Bv,uS,Cd,iI⟩
def aku:Ctx:=CX uG []
def WU(r:BO3)(_k:KT):OLR:=match decide (okR r.1)with|true=>(match decide (okR r.2.1)with|true=>(match decide (okR (hid (ai (ae r.2.1*ae r.2.1)))∧okR r.2.2)with|true=>(match decide (okR (hid (ai (ae r.1*ae r.1)))∧okR (hid (ai (ae (hid (ai (ae r.2.1*ae r.2.1)))*ae r.2.2))))with|true=>some [RV.d tR (hid (ai (ae (hid (ai (ae r.1*ae r.1)))-ae (hid (ai (ae (hid (ai (ae r.2.1*ae r.2.1)))*ae r.2.2))))))]|false=>none)|false=>none)|false=>none)|false=>none
theorem akC(r:BO3):RS aku 131 [.d tO r] (WU r):=rsX
theorem Z1(r:BO3)(h:ok Rt 90000 r):Con Tryz.prog 131 [.d tO r] [.d tR (ai (noR (dec r)))]:=by
 refine aO n8 (akC _ ⟨0,?_⟩)
 have hr:=h
 obtain⟨r,rfl,br⟩:=aY hr
 unfold WU
 simp only[am,aq,aH,aI,aF,az,aZ,auR,auT,Nat.reduceAdd,Nat.reduceLeDiff]
 rfl
def ajG:Ctx:=CX uG []
def Zx(l:BO3)(p:BP)(_k:KT):OLR:=match decide (okR l.1∧okR p.1)with|true=>(match decide (okR l.2.1∧okR p.2.2.1)with|true=>(match decide (okR (hid (ai (ae l.1*ae p.1)))∧okR (hid (ai (ae l.2.1*ae p.2.2.1))))with|true=>(match decide (okR (hid (ai (ae (hid (ai (ae l.1*ae p.1)))+ae (hid (ai (ae l.2.1*ae p.2.2.1))))))∧okR l.2.2)with|true=>(match decide (okR l.1∧okR p.2.1)with|true=>(match decide (okR l.2.1∧okR p.2.2.2.1)with|true=>(match decide (okR (hid (ai (ae l.1*ae p.2.1)))∧okR (hid (ai (ae l.2.1*ae p.2.2.2.1))))with|true=>(match decide (ok Rat 100000 (hid (ai (ae (hid (ai (ae (hid (ai (ae l.1*ae p.1)))+ae (hid (ai (ae l.2.1*ae p.2.2.1))))))-ae l.2.2)))∧ok Rat 100000 (hid (ai (ae (hid (ai (ae l.1*ae p.2.1)))+ae (hid (ai (ae l.2.1*ae p.2.2.2.1))))))∧ok Rat 100000 p.2.2.2.2∧0≤ae p.2.2.2.2)with|true=>some [RV.d tO (hid (enc (mkR (ae (hid (ai (ae (hid (ai (ae (hid (ai (ae l.1*ae p.1)))+ae (hid (ai (ae l.2.1*ae p.2.2.1))))))-ae l.2.2)))) (ae (hid (ai (ae (hid (ai (ae l.1*ae p.2.1)))+ae (hid (ai (ae l.2.1*ae p.2.2.2.1))))))) (ae p.2.2.2.2))))]|false=>none)|false=>none)|false=>none)|false=>none)|false=>none)|false=>none)|false=>none)|false=>none
theorem akc(l:BO3)(p:BP):RS ajG 66 [.d tO l,.d tP p] (Zx l p):=rsX
theorem ZR(l:BO3)(p:BP)(h:ok Ln 300 l∧okP 4000 p):Con Tryz.prog 66 [.d tO l,.d tP p] [.d tO (enc (GY (dec l) (dec p)))]:=by
 refine aO n8 (akc _ _ ⟨0,?_⟩)
 obtain⟨hl,hp⟩:=h
 obtain⟨l,rfl,bl⟩:=aY hl
 obtain⟨p,rfl,bp,rp⟩:=dz hp
 have hn:0≤p.2.2.2.2:=rp.nn
 unfold Zx
 simp only[am,aq,aH,aI,aF,az,aD,aZ,auR,auT,Nat.reduceAdd,Nat.reduceLeDiff,dT hn]
 rfl
def aiK:Ctx:=CX uG []
def SX(c:BO3)(p:BP)(_k:KT):OLR:=match decide (okP 3500 p∧ok (Rat×Rat) 300 (c.1,c.2.1))with|true=>(match decide (okR c.2.2)with|true=>(match decide (ok Rt 100000 (hid (enc (sqP (dec p) (dec (c.1,c.2.1)))))∧ok Rat 100000 (hid (ai (-ae c.2.2))))with|true=>some [RV.d tO (hid (enc (arT (dec (hid (enc (sqP (dec p) (dec (c.1,c.2.1)))))) (ae (hid (ai (-ae c.2.2)))))))]|false=>none)|false=>none)|false=>none
theorem alO(c:BO3)(p:BP):RS aiK 179 [.d tO c,.d tP p] (SX c p):=rsX
theorem aad(c:BO3)(p:BP)(h:ok Ln 300 c∧okP 3500 p):Con Tryz.prog 179 [.d tO c,.d tP p] [.d tO (enc (we (dec c) (dec p)))]:=by
 refine aO n8 (alO _ _ ⟨0,?_⟩)
 obtain⟨hc,hp⟩:=h
 obtain⟨c,rfl,bc⟩:=aY hc
 obtain⟨p,rfl,bp,rp⟩:=dz hp
 have e0:(dec ((ai c.1,ai c.2.1):BV):Rat×Rat)=ctr c:=aq (ctr c)
 have e1:decide (ok (Rat×Rat) 300 ((ai c.1,ai c.2.1):BV))=true:=okd (x:=ctr c) (by decide) (by decide)
 unfold SX
 simp only[am,aq,aH,aI,aF,az,okd,aD,aZ,auR,auT,mx,Nat.reduceAdd,Nat.reduceMul,Nat.reduceLeDiff,au2,cond_true,bG,e0,e1]
 rfl
def KO:aM:=spN false true [tO] (fun x=>decide (ok Rt 90000 x.1)) (fun x=>[RV.d tR (hid (ai (noR (dec x.1))))])
theorem Py:SpK 131 KO:=spX fun x h=>by simp only[am];exact Z1 x.1 (auN h)
def Lz:aM:=spN false true [tO,tP] (fun x=>decide (ok Ln 300 x.1∧okP 4000 x.2.1)) (fun x=>[RV.d tO (hid (enc (GY (dec x.1) (dec x.2.1))))])
theorem PG:SpK 66 Lz:=spX fun x h=>by simp only[am];exact ZR x.1 x.2.1 (auN h)
def KG:aM:=spN false true [tO,tP] (fun x=>decide (ok Ln 300 x.1∧okP 3500 x.2.1)) (fun x=>[RV.d tO (hid (enc (we (dec x.1) (dec x.2.1))))])
theorem OF:SpK 179 KG:=spX fun x h=>by simp only[am];exact aad x.1 x.2.1 (auN h)
def Cy:Env:=(131,KO)::(66,Lz)::(179,KG)::uG
theorem zp:EnvAll Tryz.prog Cy:=⟨Py,PG,OF,n8⟩
def ajA:Ctx:=CX Cy []
def ZO(r:BO3)(_k:KT):OLR:=match decide (okR r.1)with|true=>(match decide (okR r.2.1)with|true=>(match(aR (ae r.1) 0)==(aR (ae r.2.1) 0)with|true=>some [RV.d ayb (aR (ae r.1) 0)]|false=>(match(aR (ae r.2.1) 0)==0 with|true=>some [RV.d ayb (aR (ae r.1) 0)]|false=>(match(aR (ae r.1) 0)==0 with|true=>some [RV.d ayb (aR (ae r.2.1) 0)]|false=>(match decide (ok Rt 90000 r)with|true=>(match decide (okR (hid (ai (noR (dec r)))))with|true=>(match decide ((aR (ae (hid (ai (noR (dec r))))) 0)>0)with|true=>some [RV.d ayb (aR (ae r.1) 0)]|false=>some [RV.d ayb (aR (ae r.2.1) 0)])|false=>none)|false=>none))))|false=>none)|false=>none
theorem amR(r:BO3):RS ajA 65 [.d tO r] (ZO r):=rsX
theorem UH(r:BO3)(h:okT 90000 r):Con Tryz.prog 65 [.d tO r] [.d ayb (sgR (dec r))]:=by
 refine aO zp (amR _ ⟨0,?_⟩)
 have hr:=h
 obtain⟨r,rfl,br,rr⟩:=kx hr
 unfold ZO
 simp only[am,aq,aH,aI,aF,az,okd,aZ,Nat.reduceAdd,Nat.reduceMul,Nat.reduceLeDiff,aE,aL]
 rw[an6 rr]
 by_cases hb:r.2.1=0
 ·rw[auO hb,hb,dY]
  by_cases ha:aR r.1 0=0
  ·rw[ha];rfl
  ·rw[show(aR r.1 0==0)=false by simp[ha]];rfl
 ·have hn:=akf rr hb
  have e2:=zY hn
  have hb2:=zY hb
  rw[auQ hb,show(aR r.2.1 0==0)=false by rw[aE,auQ hb]]
  by_cases ha:r.1=0
  ·rw[auO ha,ha,dY,show((0:Int)==aR r.2.1 0)=false by rw[hb2];split<;>rfl]
   rfl
  ·have ha2:=zY ha
   rw[auQ ha,show(aR r.1 0==0)=false by rw[aE,auQ ha]]
   cases hq:(aR r.1 0==aR r.2.1 0)
   ·have hne:aR r.1 0≠aR r.2.1 0:=by simpa using hq
    rw[e2]
    by_cases hp:0<noR r
    ·rw[auO hp,avn hp,axf]
     rfl
    ·rw[auQ hp,avf hp]
     show some [RV.d ayb (aR r.2.1 0)]=some [RV.d ayb (aR r.1 0* -1)]
     rw[show aR r.2.1 0=aR r.1 0* -1 by
      rw[ha2,hb2]at hne ⊢
      split at hne<;>split at hne<;>simp_all]
   ·rfl
def LR:aM:=spN true true [tO] (fun x=>decide (okT 90000 x.1)) (fun x=>[RV.d ayb (sgR (dec x.1))])
theorem Ow:SpK 65 LR:=spX fun x h=>UH x.1 (auN h)
def Dk:Env:=(65,LR)::Cy
theorem yM:EnvAll Tryz.prog Dk:=⟨Ow,zp⟩
def akR:Ctx:=CX Dk []
def Tc(l:BO3)(p:BP)(_k:KT):OLR:=match decide (ok Ln 300 l∧okP 4000 p)with|true=>(match decide (okT 90000 (hid (enc (GY (dec l) (dec p)))))with|true=>some [RV.d ayb (sgR (dec (hid (enc (GY (dec l) (dec p))))))]|false=>none)|false=>none
theorem alC(l:BO3)(p:BP):RS akR 25 [.d tO l,.d tP p] (Tc l p):=rsX
theorem XT(l:BO3)(p:BP)(h:ok Ln 300 l∧okP 4000 p):Con Tryz.prog 25 [.d tO l,.d tP p] [.d ayb (pN (dec l) (dec p))]:=by
 refine aO yM (alC _ _ ⟨0,?_⟩)
 obtain⟨hl,hp⟩:=h
 obtain⟨l,rfl,bl⟩:=aY hl
 obtain⟨p,rfl,bp,rp⟩:=dz hp
 unfold Tc
 simp only[am,aq,okd,auR,auT,Nat.reduceAdd,Nat.reduceMul,Nat.reduceLeDiff,bH,bG]
 rw[adM]
def ajM:Ctx:=CX Dk []
def Uf(c:BO3)(p:BP)(_k:KT):OLR:=match decide (ok Ln 300 c∧okP 3500 p)with|true=>(match decide (okT 90000 (hid (enc (we (dec c) (dec p)))))with|true=>some [RV.d ayb (i64.wrap (0-(sgR (dec (hid (enc (we (dec c) (dec p))))))))]|false=>none)|false=>none
theorem alK(c:BO3)(p:BP):RS ajM 111 [.d tO c,.d tP p] (Uf c p):=rsX
theorem Uk(c:BO3)(p:BP)(h:ok Ln 300 c∧okP 3500 p):Con Tryz.prog 111 [.d tO c,.d tP p] [.d ayb (nS (dec c) (dec p))]:=by
 refine aO yM (alK _ _ ⟨0,?_⟩)
 obtain⟨hc,hp⟩:=h
 obtain⟨c,rfl,bc⟩:=aY hc
 obtain⟨p,rfl,bp,rp⟩:=dz hp
 have hr:Rdd (we c p):=inferInstanceAs (Rdd (arT (sqP p (ctr c)) (-c.2.2)))
 have br:Bd (we c p) 90000:=(inferInstance:Bd (arT (sqP p (ctr c)) (-c.2.2)) _).mono (by decide)
 have hb: -1≤sgR (we c p)∧sgR (we c p)≤1:=lM _ _ _
 unfold Uf
 simp only[am,aq,okd,auR,auT,Nat.reduceLeDiff,bH,bG,awS,bz (x:= -sgR (we c p)) (by omega) (by omega)]
 rw[adY]
def C4:aM:=spN true true [tO,tP] (fun x=>decide (ok Ln 300 x.1∧okP 4000 x.2.1)) (fun x=>[RV.d ayb (pN (dec x.1) (dec x.2.1))])
theorem A5:SpK 25 C4:=spX fun x h=>XT x.1 x.2.1 (auN h)
def M8:aM:=spN true true [tO,tP] (fun x=>decide (ok Ln 300 x.1∧okP 3500 x.2.1)) (fun x=>[RV.d ayb (nS (dec x.1) (dec x.2.1))])
theorem Od:SpK 111 M8:=spX fun x h=>Uk x.1 x.2.1 (auN h)
abbrev tCU:Ty:=.st (.pair .bool (.pair tO (.pair tO (.pair .bool (.pair tP tP)))))
abbrev BCU:=Bool×BO3×BO3×Bool×BP×BP
abbrev Cv:=Bool×Ln×Ln×Bool×Pt×Pt
def dC(c:BCU):Cv:=(c.1,dec c.2.1,dec c.2.2.1,c.2.2.2.1,dec c.2.2.2.2.1,dec c.2.2.2.2.2)
def uo(x:BO3):Prop:=ok Ln 300 x∧(0:Rat)<(dec x:Ln).2.2
instance (x:BO3):Decidable (uo x):=by unfold uo;infer_instance
def Hr(x:BO3):Prop:=ok Ln 300 x∧((dec x:Ln).1≠0∨(dec x:Ln).2.1≠0)
instance (x:BO3):Decidable (Hr x):=by unfold Hr;infer_instance
def okC(k:Nat)(c:BCU):Prop:=(c.1=true→uo c.2.2.1)∧(c.1=false→Hr c.2.1)∧okP k c.2.2.2.2.1∧okP k c.2.2.2.2.2
instance (k:Nat) (c:BCU):Decidable (okC k c):=by unfold okC;infer_instance
def frC(c:Cv):Pt:=c.2.2.2.2.1
def toC(c:Cv):Pt:=c.2.2.2.2.2
def lnC(c:Cv):Ln:=c.2.1
def ciC(c:Cv):Ln:=c.2.2.1
def cwC(c:Cv):Bool:=c.2.2.2.1
def em(c:Cv)(p:Pt):Bool:=bif c.1 then nS (ciC c) p==0 else pN (lnC c) p==0
def upR(c:Ln)(p:Pt):Bool:=decide (gE (yP p) c.2.1>0)||(gE (yP p) c.2.1==0&&decide (gE (xP p) c.1>0))
def ptd(c:Ln)(p:Pt):Bool×Rt:=(upR c p,xP p)
def Du(c:Ln)(p:Pt):Int:=bif upR c p then 0 else 1
def ccF(c:Cv):Pt:=bif cwC c then toC c else frC c
def ccT(c:Cv):Pt:=bif cwC c then frC c else toC c
def gO(c:Cv)(p:Pt):Bool:=bif c.1 then decide (eZ bS (ptd (ciC c) (ccF c)) (ptd (ciC c) p) (ptd (ciC c) (ccT c))≤0)else AF (aV (frC c) p) (aV p (toC c))
def onP(c:Cv)(p:Pt):Bool:=em c p&&gO c p
def cH(c:BCU):BCU:=(c.1,c.2.1,c.2.2.1,c.1&&!c.2.2.2.1,c.2.2.2.2.2,c.2.2.2.2.1)
def dR(c:BCU):BCU:=bif c.2.2.2.1 then cH c else c
def flP(p:Pt):Pt:=(-p.1,-p.2.1,p.2.2.1,p.2.2.2.1,p.2.2.2.2)
def flC(c:Ln):Ln:=(-c.1,c.2.1,c.2.2)
def cj(c:Cv)(p q:Pt):Int:=bif c.1 then(bif cwC c then jJ bS (ptd (flC (ciC c)) (flP (frC c))) (ptd (flC (ciC c)) (flP p)) (ptd (flC (ciC c)) (flP q))else jJ bS (ptd (ciC c) (frC c)) (ptd (ciC c) p) (ptd (ciC c) q))
 else(bif decide (aV (frC c) (toC c)>0)then-aV p q else aV p q)
def onR(c:Cv)(p:Pt):Bool:=em c p&&(decide (cj c (frC c) p≤0)&&decide (cj c p (toC c)≤0))
theorem Jz(k:Nat){c:BCU}(h:okC k c):okC k (cH c):=⟨h.1,h.2.1,h.2.2.2,h.2.2.1⟩
theorem i9(p q:Pt): -1≤aV p q∧aV p q≤1:=by
 unfold aV
 cases bS (xP p) (xP q)==0
 ·exact wP _ _
 ·exact wP _ _
theorem MU{p q:Bool×Rt}:0≤ni bS p q∧ni bS p q≤2:=by
 unfold ni
 cases ru bS q p==0<;>cases decide (ru bS q p>0)<;>simp only[cond_true,cond_false]<;>omega
def wB(c:BCU):BCU:=(c.1,c.2.1,(ai (-ae c.2.2.1.1),c.2.2.1.2),!c.2.2.2.1,enc (flP (dec c.2.2.2.2.1)),enc (flP (dec c.2.2.2.2.2)))
instance auB {p:Pt} [h:Rpd p]:Rpd (flP p):=by
 refine⟨?_⟩
 have:=h.rd
 unfold Je flP at*
 simp only
 have e:(-p.2.1=0)↔p.2.1=0:=by constructor<;>intro h<;>grind
 rw[e]
 exact this
instance aux {p:Pt} {j:Nat} [h:Bd p j]:Bd (flP p) j:=by
 have i1:Bd ((-p.1,-p.2.1,p.2.2.1,p.2.2.2.1,p.2.2.2.2):Pt) _:=inferInstance
 exact i1.mono (kN (by omega) (kN (by omega) (kN (by omega) (kN (by omega) (by omega)))))
theorem qt{j k:Nat}{x:BP}(h:okP j x)(hj:j≤k)(hk:k≤480000):okP k x:=by
 obtain⟨p,rfl,bp,rp⟩:=dz h
 exact auN (bG hj hk)
theorem Ot{j k:Nat}{c:BCU}(h:okC j c)(hj:j≤k)(hk:k≤480000):okC k c:=⟨h.1,h.2.1,qt h.2.2.1 hj hk,qt h.2.2.2 hj hk⟩
theorem Jf{x:BP}(h:okP 4000 x):okP 4000 (enc (flP (dec x))):=by
 obtain⟨p,rfl,bp,rp⟩:=dz h
 rw[aq]
 exact auN (bG (x:=flP p) (by decide) (by decide))
theorem ak6{x:BO3}(h:ok Ln 300 x):ok Ln 300 ((ai (-ae x.1),x.2):BO3)∧(dec ((ai (-ae x.1),x.2):BO3):Ln)=flC (dec x):=by
 obtain⟨l,rfl,bl⟩:=aY h
 have e:((ai (-ae (enc l:BO3).1),(enc l:BO3).2):BO3)=enc (flC l):=by
  rw[aH,aF,az]
  rfl
 rw[e,aq,aq]
 refine⟨?_,rfl⟩
 have i1:Bd (flC l) 300:=(inferInstance:Bd ((-l.1,l.2.1,l.2.2):Ln) _).mono (by decide)
 exact auN (okd (x:=flC l) (auY _) (by decide))
def Bm:Env:=[(169,ri),(90,wY),(267,CN),(40,DQ),(115,Kh),(51,qT),(25,C4),(111,M8)]
theorem qe:EnvAll Tryz.prog Bm:=⟨mp,u7,Bj,zX,FX,mL,A5,Od,trivial⟩
def asD:Ctx:=CX Bm []
def ae8(c:BCU)(p:BP)(_k:KT):OLR:=match c.1 with|true=>(match decide (ok Ln 300 c.2.2.1∧okP 3500 p)with|true=>some [RV.d .bool ((nS (dec c.2.2.1) (dec p))==0)]|false=>none)|false=>(match decide (ok Ln 300 c.2.1∧okP 4000 p)with|true=>some [RV.d .bool ((pN (dec c.2.1) (dec p))==0)]|false=>none)
theorem arg(c:BCU)(p:BP):RS asD 49 [.d tCU c,.d tP p] (ae8 c p):=rsX
theorem ad1(c:BCU)(p:BP)(h:okC 3500 c∧okP 3500 p):Con Tryz.prog 49 [.d tCU c,.d tP p] [.d .bool (em (dC c) (dec p))]:=by
 refine aO qe (arg _ _ ⟨0,?_⟩)
 obtain⟨hc,hp⟩:=h
 have op:decide (okP 3500 p)=true:=auO hp
 have op4:decide (okP 4000 p)=true:=auO (qt hp (by decide) (by decide))
 obtain⟨ar,li,ci,cw,fr,to⟩:=c
 obtain⟨c1,c2,_⟩:=hc
 unfold ae8
 cases ar
 ·have e:=(c2 rfl).1
  simp only[auR,dT e,op4,auT]
  rfl
 ·have e:=(c1 rfl).1
  simp only[auR,dT e,op,auT]
  rfl
def anF:Ctx:=CX Bm []
def afe(c:BO3)(p:BP)(_k:KT):OLR:=match decide (okP 4000 p)with|true=>(match decide (okT 15000 (hid (enc (yP (dec p))))∧ok Rat 15000 c.2.1)with|true=>(match decide ((gE (dec (hid (enc (yP (dec p))))) (ae c.2.1))>0)with|true=>some [RV.d .bool true]|false=>(match(gE (dec (hid (enc (yP (dec p))))) (ae c.2.1))==0 with|true=>(match decide (okP 4000 p)with|true=>(match decide (okT 15000 (hid (enc (xP (dec p))))∧ok Rat 15000 c.1)with|true=>some [RV.d .bool (decide ((gE (dec (hid (enc (xP (dec p))))) (ae c.1))>0))]|false=>none)|false=>none)|false=>some [RV.d .bool false]))|false=>none)|false=>none
theorem asq(c:BO3)(p:BP):RS anF 236 [.d tO c,.d tP p] (afe c p):=rsX
theorem acJ(c:BO3)(p:BP)(h:ok Ln 300 c∧okP 4000 p):Con Tryz.prog 236 [.d tO c,.d tP p] [.d .bool (upR (dec c) (dec p))]:=by
 refine aO qe (asq _ _ ⟨0,?_⟩)
 obtain⟨hc,hp⟩:=h
 obtain⟨c,rfl,bc⟩:=aY hc
 obtain⟨p,rfl,bp,rp⟩:=dz hp
 unfold afe upR
 simp only[am,aq,aH,aI,aF,az,aD,auR,auT,mx,Nat.reduceLeDiff,au2,cond_true,bH,bG]
 cases decide (gE (yP p) c.2.1>0)<;>cases gE (yP p) c.2.1==0<;>rfl
def ari:Ctx:=CX Bm []
def af0(p:BP)(_k:KT):OLR:=match decide (okR p.1)with|true=>(match decide (okR p.2.1)with|true=>some [RV.d tP (hid (ai (-ae p.1)),(hid (ai (-ae p.2.1)),p.2.2))]|false=>none)|false=>none
theorem aqR(p:BP):RS ari 114 [.d tP p] (af0 p):=rsX
theorem adz(p:BP)(h:okP 4000 p):Con Tryz.prog 114 [.d tP p] [.d tP (enc (flP (dec p)))]:=by
 refine aO qe (aqR _ ⟨0,?_⟩)
 have hp:=h
 obtain⟨p,rfl,bp,rp⟩:=dz hp
 unfold af0
 simp only[am,aq,aH,aI,aF,az,aZ,Nat.reduceLeDiff]
 rfl
def apQ:Ctx:=CX Bm []
def aqn(c:BCU)(_k:KT):OLR:=match c.1 with|true=>some [RV.d tCU (c.1,(c.2.1,(c.2.2.1,(!c.2.2.2.1,(c.2.2.2.2.2,c.2.2.2.2.1)))))]|false=>some [RV.d tCU (c.1,(c.2.1,(c.2.2.1,(false,(c.2.2.2.2.2,c.2.2.2.2.1)))))]
theorem arr(c:BCU):RS apQ 21 [.d tCU c] (aqn c):=rsX
theorem acd(c:BCU):Con Tryz.prog 21 [.d tCU c] [.d tCU (cH c)]:=by
 refine aO qe (arr _ ⟨0,?_⟩)
 obtain⟨ar,li,ci,cw,fr,to⟩:=c
 cases ar<;>rfl
def Im:aM:=spN true true [tCU,tP] (fun x=>decide (okC 3500 x.1∧okP 3500 x.2.1)) (fun x=>[RV.d .bool (em (dC x.1) (dec x.2.1))])
theorem Ib:SpK 49 Im:=spX fun x h=>ad1 x.1 x.2.1 (auN h)
def Yg:aM:=spN true true [tO,tP] (fun x=>decide (ok Ln 300 x.1∧okP 4000 x.2.1)) (fun x=>[RV.d .bool (upR (dec x.1) (dec x.2.1))])
theorem Rj:SpK 236 Yg:=spX fun x h=>acJ x.1 x.2.1 (auN h)
def RD:aM:=spN false true [tP] (fun x=>decide (okP 4000 x.1)) (fun x=>[RV.d tP (hid (enc (flP (dec x.1))))])
theorem Xf:SpK 114 RD:=spX fun x h=>by simp only[am];exact adz x.1 (auN h)
def zQ:aM:=spN false true [tCU] (fun _=>true) (fun x=>[RV.d tCU (hid (cH x.1))])
theorem tZ:SpK 21 zQ:=spX fun x _=>by simp only[am];exact acd x.1
def LD:Env:=(49,Im)::(236,Yg)::(114,RD)::(21,zQ)::Bm
theorem zb:EnvAll Tryz.prog LD:=⟨Ib,Rj,Xf,tZ,qe⟩
def apC:Ctx:=CX LD []
def ahS(c:BO3)(p q:BP)(_k:KT):OLR:=match decide (ok Ln 300 c∧okP 4000 p)with|true=>(match decide (ok Ln 300 c∧okP 4000 q)with|true=>(match !((upR (dec c) (dec p))==(upR (dec c) (dec q)))with|true=>(match upR (dec c) (dec q)with|true=>some [RV.d ayb (-1)]|false=>some [RV.d ayb 1])|false=>(match decide (okP 4000 p)with|true=>(match decide (okP 4000 q)with|true=>(match decide (okT 15000 (hid (enc (xP (dec p))))∧okT 15000 (hid (enc (xP (dec q)))))with|true=>(match upR (dec c) (dec p)with|true=>some [RV.d ayb (i64.wrap (0-(bS (dec (hid (enc (xP (dec p))))) (dec (hid (enc (xP (dec q))))))))]|false=>some [RV.d ayb (bS (dec (hid (enc (xP (dec p))))) (dec (hid (enc (xP (dec q))))))])|false=>none)|false=>none)|false=>none))|false=>none)|false=>none
theorem arG(c:BO3)(p q:BP):RS apC 180 [.d tO c,.d tP p,.d tP q] (ahS c p q):=rsX
theorem acY(c:BO3)(p q:BP)(h:ok Ln 300 c∧okP 4000 p∧okP 4000 q):Con Tryz.prog 180 [.d tO c,.d tP p,.d tP q] [.d ayb (jx bS (ptd (dec c) (dec p)) (ptd (dec c) (dec q)))]:=by
 refine aO zb (arG _ _ _ ⟨0,?_⟩)
 obtain⟨hc,hp,hq⟩:=h
 obtain⟨c,rfl,bc⟩:=aY hc
 obtain⟨p,rfl,bp,rp⟩:=dz hp
 obtain⟨q,rfl,bq,rq⟩:=dz hq
 have xb:=wP (xP p) (xP q)
 unfold ahS
 simp only[am,aq,okd,auR,auT,mx,Nat.reduceLeDiff,au2,cond_true,bH,bG,bz (x:= -bS (xP p) (xP q)) (by omega) (by omega),awS]
 unfold jx ptd
 cases upR c p<;>cases upR c q<;>rfl
def asv:Ctx:=CX LD []
def agC(c:BCU)(_k:KT):OLR:=match decide (okR c.2.2.1.1)with|true=>(match decide (okP 4000 c.2.2.2.2.1)with|true=>(match decide (okP 4000 c.2.2.2.2.2)with|true=>some [RV.d tCU (c.1,(c.2.1,((hid (ai (-ae c.2.2.1.1)),c.2.2.1.2),(!c.2.2.2.1,(hid (enc (flP (dec c.2.2.2.2.1))),hid (enc (flP (dec c.2.2.2.2.2))))))))]|false=>none)|false=>none)|false=>none
theorem arU(c:BCU):RS asv 113 [.d tCU c] (agC c):=rsX
theorem aaD(c:BCU)(h:uo c.2.2.1∧okP 4000 c.2.2.2.2.1∧okP 4000 c.2.2.2.2.2):Con Tryz.prog 113 [.d tCU c] [.d tCU (wB c)]:=by
 refine aO zb (arU _ ⟨0,?_⟩)
 obtain⟨hc,hf,ht⟩:=h
 have e:okR c.2.2.1.1:=by
  obtain⟨l,hl,bl⟩:=aY hc.1
  rw[hl,aH,aF]
  exact auN (aZ (q:=l.1) (by decide))
 unfold agC
 rw[dT e,dT hf,dT ht]
 simp only[am]
 rfl
def RU:aM:=spN true true [tO,tP,tP] (fun x=>decide (ok Ln 300 x.1∧okP 4000 x.2.1∧okP 4000 x.2.2.1)) (fun x=>[RV.d ayb (jx bS (ptd (dec x.1) (dec x.2.1)) (ptd (dec x.1) (dec x.2.2.1)))])
theorem So:SpK 180 RU:=spX fun x h=>acY x.1 x.2.1 x.2.2.1 (auN h)
def T0:aM:=spN false true [tCU] (fun x=>decide (uo x.1.2.2.1∧okP 4000 x.1.2.2.2.2.1∧okP 4000 x.1.2.2.2.2.2)) (fun x=>[RV.d tCU (hid (wB x.1))])
theorem Zs:SpK 113 T0:=spX fun x h=>by simp only[am];exact aaD x.1 (auN h)
def RT:Env:=(180,RU)::(113,T0)::LD
theorem GH:EnvAll Tryz.prog RT:=⟨So,Zs,zb⟩
def asi:Ctx:=CX RT []
def ah4(c:BO3)(f p q:BP)(_k:KT):OLR:=match decide (ok Ln 300 c∧okP 4000 p∧okP 4000 f)with|true=>(match decide (ok Ln 300 c∧okP 4000 q∧okP 4000 f)with|true=>(match !((decide ((jx bS (ptd (dec c) (dec p)) (ptd (dec c) (dec f)))<0))==(decide ((jx bS (ptd (dec c) (dec q)) (ptd (dec c) (dec f)))<0)))with|true=>(match decide ((jx bS (ptd (dec c) (dec q)) (ptd (dec c) (dec f)))<0)with|true=>some [RV.d ayb (-1)]|false=>some [RV.d ayb 1])|false=>(match decide (ok Ln 300 c∧okP 4000 p∧okP 4000 q)with|true=>some [RV.d ayb (jx bS (ptd (dec c) (dec p)) (ptd (dec c) (dec q)))]|false=>none))|false=>none)|false=>none
theorem arb(c:BO3)(f p q:BP):RS asi 112 [.d tO c,.d tP f,.d tP p,.d tP q] (ah4 c f p q):=rsX
theorem aa6(c:BO3)(f p q:BP)(h:ok Ln 300 c∧okP 4000 f∧okP 4000 p∧okP 4000 q):Con Tryz.prog 112 [.d tO c,.d tP f,.d tP p,.d tP q] [.d ayb (jJ bS (ptd (dec c) (dec f)) (ptd (dec c) (dec p)) (ptd (dec c) (dec q)))]:=by
 refine aO GH (arb _ _ _ _ ⟨0,?_⟩)
 obtain⟨hc,hf,hp,hq⟩:=h
 unfold ah4 jJ
 rw[dT (show ok Ln 300 c∧okP 4000 p∧okP 4000 f from⟨hc,hp,hf⟩),dT (show ok Ln 300 c∧okP 4000 q∧okP 4000 f from⟨hc,hq,hf⟩),dT (show ok Ln 300 c∧okP 4000 p∧okP 4000 q from⟨hc,hp,hq⟩)]
 dsimp only
 cases decide (jx bS (ptd (dec c) (dec p)) (ptd (dec c) (dec f))<0)<;>cases decide (jx bS (ptd (dec c) (dec q)) (ptd (dec c) (dec f))<0)<;>rfl
def Vk:aM:=spN true true [tO,tP,tP,tP] (fun x=>decide (ok Ln 300 x.1∧okP 4000 x.2.1∧okP 4000 x.2.2.1∧okP 4000 x.2.2.2.1)) (fun x=>[RV.d ayb (jJ bS (ptd (dec x.1) (dec x.2.1)) (ptd (dec x.1) (dec x.2.2.1)) (ptd (dec x.1) (dec x.2.2.2.1)))])
theorem WT:SpK 112 Vk:=spX fun x h=>aa6 x.1 x.2.1 x.2.2.1 x.2.2.2.1 (auN h)
def WH:Env:=(112,Vk)::RT
theorem GG:EnvAll Tryz.prog WH:=⟨WT,GH⟩
def anQ:Ctx:=CX WH []
def afT(c:BCU)(p q:BP)(_k:KT):OLR:=match !c.1 with|true=>(match decide (okP 4000 p∧okP 4000 q)with|true=>(match decide (okP 4000 c.2.2.2.2.1∧okP 4000 c.2.2.2.2.2)with|true=>(match decide ((aV (dec c.2.2.2.2.1) (dec c.2.2.2.2.2))>0)with|true=>some [RV.d ayb (i64.wrap (0-(aV (dec p) (dec q))))]|false=>some [RV.d ayb (aV (dec p) (dec q))])|false=>none)|false=>none)|false=>(match !c.2.2.2.1 with|true=>(match decide (ok Ln 300 c.2.2.1∧okP 4000 c.2.2.2.2.1∧okP 4000 p∧okP 4000 q)with|true=>some [RV.d ayb (jJ bS (ptd (dec c.2.2.1) (dec c.2.2.2.2.1)) (ptd (dec c.2.2.1) (dec p)) (ptd (dec c.2.2.1) (dec q)))]|false=>none)|false=>(match decide (uo c.2.2.1∧okP 4000 c.2.2.2.2.1∧okP 4000 c.2.2.2.2.2)with|true=>(match decide (okP 4000 p)with|true=>(match decide (okP 4000 q)with|true=>(match decide (ok Ln 300 ((((hid (wB c)).2).2).1)∧okP 4000 ((((((hid (wB c)).2).2).2).2).1)∧okP 4000 (hid (enc (flP (dec p))))∧okP 4000 (hid (enc (flP (dec q)))))with|true=>some [RV.d ayb (jJ bS (ptd (dec ((((hid (wB c)).2).2).1)) (dec ((((((hid (wB c)).2).2).2).2).1))) (ptd (dec ((((hid (wB c)).2).2).1)) (dec (hid (enc (flP (dec p)))))) (ptd (dec ((((hid (wB c)).2).2).1)) (dec (hid (enc (flP (dec q)))))))]|false=>none)|false=>none)|false=>none)|false=>none))
theorem arX(c:BCU)(p q:BP):RS anQ 50 [.d tCU c,.d tP p,.d tP q] (afT c p q):=rsX
theorem aeq(c:BCU)(p q:BP)(h:okC 4000 c∧okP 4000 p∧okP 4000 q):Con Tryz.prog 50 [.d tCU c,.d tP p,.d tP q] [.d ayb (cj (dC c) (dec p) (dec q))]:=by
 refine aO GG (arX _ _ _ ⟨0,?_⟩)
 obtain⟨hc,hp,hq⟩:=h
 have xb:=i9 (dec p) (dec q)
 obtain⟨ar,li,ci,cw,fr,to⟩:=c
 obtain⟨c1,c2,c3,c4⟩:=hc
 simp only at c1 c2 c3 c4
 unfold afT cj
 cases ar
 ·simp only[awS,bz (x:= -aV (dec p) (dec q)) (by omega) (by omega),dT (show okP 4000 p∧okP 4000 q from⟨hp,hq⟩),dT (show okP 4000 fr∧okP 4000 to from⟨c3,c4⟩),Bool.not_false]
  simp only[dC,frC,toC,cond_false]
  by_cases hd:aV (dec fr) (dec to)>0
  ·simp[hd]
  ·simp[hd]
 ·have e:=(c1 rfl).1
  have hci:=c1 rfl
  obtain⟨f1,f2⟩:=ak6 e
  cases cw
  ·simp only[dT (show ok Ln 300 ci∧okP 4000 fr∧okP 4000 p∧okP 4000 q from⟨e,c3,hp,hq⟩),Bool.not_true,Bool.not_false]
   rfl
  ·have hm:ok Ln 300 (wB (true,li,ci,true,fr,to)).2.2.1∧okP 4000 (wB (true,li,ci,true,fr,to)).2.2.2.2.1∧okP 4000 (enc (flP (dec p)))∧okP 4000 (enc (flP (dec q))):=⟨f1,Jf c3,Jf hp,Jf hq⟩
   have m1:(dec (wB (true,li,ci,true,fr,to)).2.2.1:Ln)=flC (dec ci):=f2
   have m2:(dec (wB (true,li,ci,true,fr,to)).2.2.2.2.1:Pt)=flP (dec fr):=aq _
   simp only[am,dT (show uo ci∧okP 4000 fr∧okP 4000 to from⟨hci,c3,c4⟩),dT hp,dT hq,dT hm,Bool.not_true,m1,m2,aq]
   rfl
def xU:aM:=spN true true [tCU,tP,tP] (fun x=>decide (okC 4000 x.1∧okP 4000 x.2.1∧okP 4000 x.2.2.1)) (fun x=>[RV.d ayb (cj (dC x.1) (dec x.2.1) (dec x.2.2.1))])
theorem tW:SpK 50 xU:=spX fun x h=>aeq x.1 x.2.1 x.2.2.1 (auN h)
def afp:Env:=(50,xU)::WH
theorem Zh:EnvAll Tryz.prog afp:=⟨tW,GG⟩
def aoh:Ctx:=CX afp []
def agk(c:BCU)(p:BP)(_k:KT):OLR:=match decide (okC 3500 c∧okP 3500 p)with|true=>(match em (dC c) (dec p)with|true=>(match decide (okC 4000 c∧okP 4000 c.2.2.2.2.1∧okP 4000 p)with|true=>(match decide ((cj (dC c) (dec c.2.2.2.2.1) (dec p))≤0)with|true=>(match decide (okC 4000 c∧okP 4000 p∧okP 4000 c.2.2.2.2.2)with|true=>some [RV.d .bool (decide ((cj (dC c) (dec p) (dec c.2.2.2.2.2))≤0))]|false=>none)|false=>some [RV.d .bool false])|false=>none)|false=>some [RV.d .bool false])|false=>none
theorem anq(c:BCU)(p:BP):RS aoh 15 [.d tCU c,.d tP p] (agk c p):=rsX
theorem ad6(c:BCU)(p:BP)(h:okC 3500 c∧okP 3500 p):Con Tryz.prog 15 [.d tCU c,.d tP p] [.d .bool (onR (dC c) (dec p))]:=by
 refine aO Zh (anq _ _ ⟨0,?_⟩)
 obtain⟨hc,hp⟩:=h
 have hc4:=Ot (k:=4000) hc (by decide) (by decide)
 have hp4:=qt (k:=4000) hp (by decide) (by decide)
 unfold agk onR
 rw[dT (show okC 3500 c∧okP 3500 p from⟨hc,hp⟩),dT (show okC 4000 c∧okP 4000 c.2.2.2.2.1∧okP 4000 p from⟨hc4,hc4.2.2.1,hp4⟩),dT (show okC 4000 c∧okP 4000 p∧okP 4000 c.2.2.2.2.2 from⟨hc4,hp4,hc4.2.2.2⟩)]
 dsimp only
 cases em (dC c) (dec p)
 ·rfl
 ·show(match decide (cj (dC c) (frC (dC c)) (dec p)≤0)with|true=>some [RV.d .bool (decide (cj (dC c) (dec p) (toC (dC c))≤0))]|false=>some [RV.d .bool false])=_
  cases decide (cj (dC c) (frC (dC c)) (dec p)≤0)<;>rfl
def Dy:aM:=spN true true [tCU,tP] (fun x=>decide (okC 3500 x.1∧okP 3500 x.2.1)) (fun x=>[RV.d .bool (onR (dC x.1) (dec x.2.1))])
theorem zC:SpK 15 Dy:=spX fun x h=>ad6 x.1 x.2.1 (auN h)
section
namespace RE
theorem Xt{u v:RE}:cls u v=2↔v=0∧¬0<u:=by
 unfold cls
 rcases dE v with⟨a,h1⟩|⟨a,h1⟩|⟨a,h1⟩<;>rcases dE u with⟨b,h2⟩|⟨b,h2⟩|⟨b,h2⟩<;>rw[h1,h2]
 all_goals first
  |exact⟨fun _=>⟨a,fun h=>by rw[b]at h;exact lt_irrefl _ h⟩,fun _=>rfl⟩
  |exact⟨fun _=>⟨a,fun h=>lt_irrefl _ (fP h b)⟩,fun _=>rfl⟩
  |(refine⟨fun h=>absurd h (by decide),fun h=>?_⟩;first|(rw[h.1]at a;exact absurd a (lt_irrefl _))|exact absurd b h.2)
theorem BB{u v Q:RE}(hQ:0<Q)(h:u*u+v*v=Q)(hv:v=0)(hu:¬0<u):u<0:=by
 rcases qi u 0 with e|e|e
 ·exact e
 ·rw[e,hv,mul_zero,add_zero]at h
  rw[←h]at hQ
  exact absurd hQ (lt_irrefl _)
 ·exact absurd e hu
theorem Oe(u w Q:RE):((u-(0))*(u-(w)))+((w-(0))*(u-(w)))+((Q-(u*u)))+((w*w-(Q)))=0:=by
 induction u using auM
 induction w using auM
 induction Q using auM
 exact snd fun n=>by
  simp only[RL.add,RL.mul,RL.neg,RL.const]
  grind
theorem MO(u w Q:RE)(h1:u*u=Q)(h2:w*w=Q)(h3:0<u)(h4:0<w):u≤w:=fun hg=>far (aT (aT (aT (mul_pos (aX h3) (aX hg)) (le_of_lt (mul_pos (aX h4) (aX hg)))) (aQ (jw h1))) (aQ (iy h2))) (Oe u w Q)
theorem OI(u w Q:RE):((0-(u))*(u-(w)))+((0-(w))*(u-(w)))+((u*u-(Q)))+((Q-(w*w)))=0:=by
 induction u using auM
 induction w using auM
 induction Q using auM
 exact snd fun n=>by
  simp only[RL.add,RL.mul,RL.neg,RL.const]
  grind
theorem MP(u w Q:RE)(h1:u*u=Q)(h2:w*w=Q)(h3:u<0)(h4:w<0):u≤w:=fun hg=>far (aT (aT (aT (mul_pos (aX h3) (aX hg)) (le_of_lt (mul_pos (aX h4) (aX hg)))) (aQ (iy h1))) (aQ (jw h2))) (OI u w Q)
theorem JO(x y c:RE):((y-c-(x-c)))+((x-(y)))=0:=by
 induction x using auM
 induction y using auM
 induction c using auM
 exact snd fun n=>by
  simp only[RL.add,RL.neg,RL.const]
  grind
theorem H5(x y c:RE)(h1:x-c<y-c):x<y:=iS.1 fun hg=>far (aT (aX h1) (aQ hg)) (JO x y c)
theorem Gb(x y c:RE):((x-(y)))+((y-c-(x-c)))=0:=by
 induction x using auM
 induction y using auM
 induction c using auM
 exact snd fun n=>by
  simp only[RL.add,RL.neg,RL.const]
  grind
theorem OC(x y c:RE)(h1:x-c=y-c):x≤y:=fun hg=>far (aT (aX hg) (aQ (jw h1))) (Gb x y c)
theorem Gl(x y c:RE):((y-(x)))+((x-c-(y-c)))=0:=by
 induction x using auM
 induction y using auM
 induction c using auM
 exact snd fun n=>by
  simp only[RL.add,RL.neg,RL.const]
  grind
theorem Qa(x y c:RE)(h1:x-c=y-c):y≤x:=fun hg=>far (aT (aX hg) (aQ (iy h1))) (Gl x y c)
theorem tD(x y c:RE)(h1:x-c=y-c):x=y:=le_antisymm (OC x y c h1) (Qa x y c h1)
theorem Gg(x c:RE): -x- -c= -(x-c):=by
 induction x using auM
 induction c using auM
 exact snd fun n=>by
  simp only[RL.add,RL.neg]
  grind
theorem aco(x y:RE): -x- -y=y-x:=by
 induction x using auM
 induction y using auM
 exact snd fun n=>by
  simp only[RL.add,RL.neg]
  grind
theorem ajD(a b r:RE): -a+ -b*r= -(a+b*r):=by
 induction a using auM
 induction b using auM
 induction r using auM
 exact snd fun n=>by
  simp only[RL.add,RL.mul,RL.neg]
  grind
theorem I1(x q:RE):((x-(q)))+((0-(x+ -q)))=0:=by
 induction x using auM
 induction q using auM
 exact snd fun n=>by
  simp only[RL.add,RL.neg,RL.const]
  grind
theorem QW(x q:RE)(h1:x+ -q=0):x≤q:=fun hg=>far (aT (aX hg) (aQ (jw h1))) (I1 x q)
theorem JH(x q:RE):((q-(x)))+((x+ -q-(0)))=0:=by
 induction x using auM
 induction q using auM
 exact snd fun n=>by
  simp only[RL.add,RL.neg,RL.const]
  grind
theorem ZY(x q:RE)(h1:x+ -q=0):q≤x:=fun hg=>far (aT (aX hg) (aQ (iy h1))) (JH x q)
theorem Nv(x q:RE)(h1:x+ -q=0):x=q:=le_antisymm (QW x q h1) (ZY x q h1)
section
variable {x y x' y' cx cy Q:RE}
theorem dp(hQ:0<Q)(h:(x-cx)*(x-cx)+(y-cy)*(y-cy)=Q)(h':(x'-cx)*(x'-cx)+(y'-cy)*(y'-cy)=Q){L:List RE}(hx:x∈L)(hx':x'∈L):
  mD (cls (x-cx) (y-cy)) (rk (fun a b:RE=>a<b) L x) (cls (x'-cx) (y'-cy)) (rk (fun a b:RE=>a<b) L x')=true:=by
 unfold mD
 rw[auW]
 have vv:∀{u v:RE},u*u+v*v=Q→v=0→u*u=Q:=fun h e=>by rw[e,mul_zero,add_zero]at h;exact h
 refine⟨?_,?_⟩
 ·by_cases e:cls (x-cx) (y-cy)=0
  ·obtain⟨e1,e2⟩:=WI.1 e
   rw[e]
   by_cases e':cls (x'-cx) (y'-cy)=0
   ·obtain⟨f1,f2⟩:=WI.1 e'
    rw[e']
    have:=tD _ _ cx (le_antisymm (MO _ _ _ (vv h e1) (vv h' f1) e2 f2) (MO _ _ _ (vv h' f1) (vv h e1) f2 e2))
    rw[this]
    simp
   ·have hle:=ajY _ _ _ _ _ h h' e1 e2 (Dp (y'-cy))
    have hlt:x'-cx<x-cx:=by
     rcases qi (x'-cx) (x-cx)with g|g|g
     ·exact g
     ·exfalso
      have z:=Ur (x-cx) (x'-cx) (y'-cy) Q (vv h e1) h' (by rw[g])
      exact e' (WI.2 ⟨Nu z,by rw[g];exact e2⟩)
     ·exact absurd g ((EL _ _).1 hle)
    have:=tM lt_lin (H5 _ _ _ hlt) hx'
    rw[show(cls (x'-cx) (y'-cy)==0)=false by simp[e']]
    simp[this]
  ·simp[e]
 ·by_cases e:cls (x-cx) (y-cy)=2
  ·obtain⟨e1,e2⟩:=Xt.1 e
   have e3:=BB hQ h e1 e2
   rw[e]
   by_cases e':cls (x'-cx) (y'-cy)=2
   ·obtain⟨f1,f2⟩:=Xt.1 e'
    have f3:=BB hQ h' f1 f2
    rw[e']
    have:=tD _ _ cx (le_antisymm (MP _ _ _ (vv h e1) (vv h' f1) e3 f3) (MP _ _ _ (vv h' f1) (vv h e1) f3 e3))
    rw[this]
    simp
   ·have hle:=alE _ _ _ _ _ h h' e1 e3 (Dp (y'-cy))
    have hlt:x-cx<x'-cx:=by
     rcases qi (x-cx) (x'-cx)with g|g|g
     ·exact g
     ·exfalso
      have z:=Ur (x-cx) (x'-cx) (y'-cy) Q (vv h e1) h' (by rw[g])
      exact e' (Xt.2 ⟨Nu z,by rw[←g];exact e2⟩)
     ·exact absurd g ((EL _ _).1 hle)
    have:=tM lt_lin (H5 _ _ _ hlt) hx
    rw[show(cls (x'-cx) (y'-cy)==2)=false by simp[e']]
    simp[this]
  ·simp[e]
end
def onCi(c:Ln)(p:Pt):Prop:=(pX p-of c.1)*(pX p-of c.1)+(pY p-of c.2.1)*(pY p-of c.2.1)=of c.2.2
theorem ins_on{c:Ln}{p:Pt}[Rpd p](h:nS c p=0):onCi c p:=by
 rw[Ei]at h
 exact Nv _ _ (Yl.1 (Int.neg_eq_zero.1 h))
theorem jy{c:Ln}{p:Pt}[Rpd p]:upR c p=upA (cls (pX p-of c.1) (pY p-of c.2.1)):=by
 unfold upR
 rw[cmpTR_re Me,cmpTR_re oE,wD,abR,amJ]
theorem HX(p:Pt):pX (flP p)= -pX p:=by
 unfold pX flP v2
 rw[of_neg,of_neg]
 exact ajD _ _ _
theorem asz(p:Pt):pY (flP p)=pY p:=rfl
theorem wm{c:Ln}{p:Pt}[h:Rpd p](hQ:0<c.2.2)(hp:onCi c p):upR (flC c) (flP p)=ufA (cls (pX p-of c.1) (pY p-of c.2.1)):=by
 unfold upR
 rw[cmpTR_re Me,cmpTR_re oE,wD,abR,HX,asz]
 show(decide (sg (pY p-of c.2.1)>0)||(sg (pY p-of c.2.1)==0&&decide (sg (-pX p-of (-c.1))>0)))=_
 rw[of_neg,Gg,akS]
 exact alU (jz hQ) hp
theorem fo{L:List RE}{p q:Pt}[Rpd p][Rpd q](hp:pX p∈L)(hq:pX q∈L):bS (xP p) (xP q)=cI (rk (fun a b:RE=>a<b) L (pX p)) (rk (fun a b:RE=>a<b) L (pX q)):=by
 rw[cmpT_re oE oE,wD,wD]
 exact yI lt_lin sg_cmpO hp hq
theorem np{L:List RE}{p q:Pt}[Rpd p][Rpd q](hp:pX p∈L)(hq:pX q∈L):bS (xP (flP p)) (xP (flP q))=dI (rk (fun a b:RE=>a<b) L (pX p)) (rk (fun a b:RE=>a<b) L (pX q)):=by
 rw[cmpT_re oE oE,wD,wD,HX,HX,aco]
 exact yI lt_lin sg_cmpO hq hp
theorem arc_eq{ci:Ln}{F P T:Pt}[Rpd F][Rpd P][Rpd T](hQ:0<ci.2.2)(hF:onCi ci F)(hP:onCi ci P)(hT:onCi ci T):
  decide (eZ bS (ptd ci F) (ptd ci P) (ptd ci T)≤0)=(decide (jJ bS (ptd ci F) (ptd ci F) (ptd ci P)≤0)&&decide (jJ bS (ptd ci F) (ptd ci P) (ptd ci T)≤0))∧
  decide (eZ bS (ptd ci T) (ptd ci P) (ptd ci F)≤0)=(decide (jJ bS (ptd (flC ci) (flP F)) (ptd (flC ci) (flP F)) (ptd (flC ci) (flP P))≤0)&&decide (jJ bS (ptd (flC ci) (flP F)) (ptd (flC ci) (flP P)) (ptd (flC ci) (flP T))≤0)):=by
 have mF:pX F∈[pX F,pX P,pX T]:=by simp
 have mP:pX P∈[pX F,pX P,pX T]:=by simp
 have mT:pX T∈[pX F,pX P,pX T]:=by simp
 have hq:0<of ci.2.2:=jz hQ
 have bF:=lJ lt_lin mF
 have bP:=lJ lt_lin mP
 have bT:=lJ lt_lin mT
 have cF:=lW (pX F-of ci.1) (pY F-of ci.2.1)
 have cP:=lW (pX P-of ci.1) (pY P-of ci.2.1)
 have cT:=lW (pX T-of ci.1) (pY T-of ci.2.1)
 have hcon:Jc (cls (pX F-of ci.1) (pY F-of ci.2.1)) (rk (fun a b:RE=>a<b) [pX F,pX P,pX T] (pX F)) (cls (pX P-of ci.1) (pY P-of ci.2.1)) (rk (fun a b:RE=>a<b) [pX F,pX P,pX T] (pX P)) (cls (pX T-of ci.1) (pY T-of ci.2.1)) (rk (fun a b:RE=>a<b) [pX F,pX P,pX T] (pX T))=true:=by
  unfold Jc
  rw[dp hq hF hP mF mP,dp hq hP hF mP mF,dp hq hF hT mF mT,dp hq hT hF mT mF,dp hq hP hT mP mT,dp hq hT hP mT mP]
  rfl
 have a1:=ada ⟨_,cF⟩ ⟨_,cP⟩ ⟨_,cT⟩ ⟨_,bF⟩ ⟨_,bP⟩ ⟨_,bT⟩ hcon
 have a2:=ake ⟨_,cF⟩ ⟨_,cP⟩ ⟨_,cT⟩ ⟨_,bF⟩ ⟨_,bP⟩ ⟨_,bT⟩ hcon
 simp only at a1 a2
 refine⟨?_,?_⟩
 ·unfold ptd
  rw[jy,jy,jy,iV (fo mP mF) (fo mT mF) (fo mP mT),fN (fo mF mF) (fo mP mF) (fo mF mP),fN (fo mP mF) (fo mT mF) (fo mP mT)]
  exact a1
 ·unfold ptd
  rw[jy,jy,jy,wm hQ hF,wm hQ hP,wm hQ hT,iV (fo mP mT) (fo mF mT) (fo mP mF),fN (np mF mF) (np mP mF) (np mF mP),fN (np mP mF) (np mT mF) (np mP mT)]
  exact a2
theorem seg_eq{F P T:Pt}[Rpd F][Rpd P][Rpd T]:AF (aV F P) (aV P T)=aqC (aV F T) (aV F P) (aV P T):=by
 have mF:pR F∈[pR F,pR P,pR T]:=by simp
 have mP:pR P∈[pR F,pR P,pR T]:=by simp
 have mT:pR T∈[pR F,pR P,pR T]:=by simp
 rw[lQ,lQ,lQ,yI jM ij mF mP,yI jM ij mP mT,yI jM ij mF mT]
 exact aeL ⟨_,lJ jM mF⟩ ⟨_,lJ jM mP⟩ ⟨_,lJ jM mT⟩
end RE
structure Crv (c:Cv):Prop where
 f:Rpd (frC c)
 t:Rpd (toC c)
 q:c.1=true→0<(ciC c).2.2∧RE.onCi (ciC c) (frC c)∧RE.onCi (ciC c) (toC c)
theorem ar5{c:Cv}(h:Crv c){p:Pt}(hp:Rpd p):onP c p=onR c p:=by
 have hf:=h.f
 have ht:=h.t
 unfold onP onR
 cases hs:em c p
 ·rfl
 ·simp only[auS]
  unfold gO cj
  obtain⟨ar,li,ci,cw,fr,to⟩:=c
  have hf:Rpd fr:=hf
  have ht:Rpd to:=ht
  cases ar
  ·exact RE.seg_eq (F:=fr) (P:=p) (T:=to)
  ·obtain⟨q1,q2,q3⟩:=h.q rfl
   have hi:nS ci p=0:=by
    have:(nS ci p==0)=true:=hs
    exact avQ.1 this
   obtain⟨e1,e2⟩:=RE.arc_eq (ci:=ci) (F:=fr) (P:=p) (T:=to) q1 q2 (RE.ins_on hi) q3
   cases cw
   ·exact e1
   ·exact e2
end
theorem alW(d:Rat×Rat):0≤arR d d:=by
 unfold arR
 have h:∀a:Rat,0≤a*a:=fun a=>by
  rcases(by grind:0≤a∨0≤ -a)with h|h
  ·exact avI h h
  ·have:=avI h h;grind
 have:=h d.1
 have:=h d.2
 grind
theorem El(a b d e s:Rat):wC (mkR a d s) (mkR b e s):=by
 unfold wC mkR
 cases fF s
 ·simp only[cond_false]
  by_cases hd:d=0
  ·rw[auO hd];exact .inl rfl
  ·by_cases he:e=0
   ·rw[auO he];exact .inr (.inl rfl)
   ·rw[auQ hd,auQ he];exact .inr (.inr rfl)
 ·exact .inl rfl
namespace RE
def aih(l:Ln)(p:Pt):Prop:=of l.1*pX p+of l.2.1*pY p=of l.2.2
theorem Ja{l:Ln}{p:Pt}[Rpd p](h:pN l p=0):aih l p:=by
 rw[DU]at h
 exact Nv _ _ (Yl.1 h)
end RE
def gdC(c:BCU):Prop:=okC 500 c∧em (dC c) (frC (dC c))=true∧em (dC c) (toC (dC c))=true
theorem kM{k:Nat}{x:BP}(h:okP k x):Rpd (dec x):=by
 obtain⟨p,rfl,bp,rp⟩:=dz h
 rw[aq]
 exact rp
def II:aM:=spN false true [tR,tR] (fun x=>decide (gb x.1 x.2.1)) (fun x=>[RV.d tR (hid (ai (ae x.1/ae x.2.1))),RV.d ayb 0])
theorem Fb:SpK 194 II:=spX fun x h=>by simp only[am];exact ab4 x.1 x.2.1 (auN h)
def zI:Env:=[(151,lg),(76,kC),(144,qb),(74,l4),(145,sC),(147,kX),(75,n6),(194,II),(229,uX),(223,Et),(224,DY),(222,EO),(221,EH),(226,zS),(225,EG),(227,IA)]
theorem mR:EnvAll Tryz.prog zI:=⟨gj,gk,lj,il,mu,gG,jE,Fb,oR,zv,Ah,zB,yE,ti,zm,GT,trivial⟩
def apK:Ctx:=CX zI []
def ahB(l:BO3)(p:BP)(_k:KT):OLR:=let y1:=b9 (dec (p.1,(p.2.1,p.2.2.2.2)));let y2:=hid ((b9 (dec p.2.2)).1);let y3:=iH (ae l.1) (hid (y1.1)) (y1.2);let y4:=iH (ae l.2.1) y2 ((b9 (dec p.2.2)).2);let y5:=dJ (hid (y3.1)) (hid (y4.1));let y6:=hid ((frF (ae l.2.2)).1);let y7:=dJ (hid (y5.1)) (hid (lV y6));match decide (ok Rt 100000 (p.1,(p.2.1,p.2.2.2.2)))with|true=>(match decide (ok Rat 100000 l.1∧prI (hid (y1.1)))with|true=>(match decide (ok Rt 100000 p.2.2)with|true=>(match decide (ok Rat 100000 l.2.1∧prI y2)with|true=>(match decide (ok Rat 200000 l.2.2)with|true=>(match !(y3.2)with|true=>some [RV.d ayb 0,RV.d .bool false]|false=>(match !(y4.2)with|true=>some [RV.d ayb 0,RV.d .bool false]|false=>(match !((frF (ae l.2.2)).2)with|true=>some [RV.d ayb 0,RV.d .bool false]|false=>(match decide (prI (hid (y3.1))∧prI (hid (y4.1)))with|true=>(match !(y5.2)with|true=>some [RV.d ayb 0,RV.d .bool false]|false=>(match decide (prI y6)with|true=>(match decide (prI (hid (y5.1))∧prI (hid (lV y6)))with|true=>(match !(y7.2)with|true=>some [RV.d ayb 0,RV.d .bool false]|false=>some [RV.d ayb ((sgF (hid (y7.1))).1),RV.d .bool ((sgF (hid (y7.1))).2)])|false=>none)|false=>none))|false=>none))))|false=>none)|false=>none)|false=>none)|false=>none)|false=>none
theorem aqz(l:BO3)(p:BP):RS apK 172 [.d tO l,.d tP p] (ahB l p):=rsX
theorem abM(l:BO3)(p:BP)(h:ok Ln 300 l∧ok Pt 4000 p):Con Tryz.prog 172 [.d tO l,.d tP p] [.d ayb ((ve (dec l) (dec p)).1),.d .bool ((ve (dec l) (dec p)).2)]:=by
 refine aO mR (aqz _ _ ⟨0,?_⟩)
 obtain⟨hl,hp⟩:=h
 obtain⟨l,rfl,bl⟩:=aY hl
 obtain⟨p,rfl,bp⟩:=aY hp
 have dx:(dec ((ai p.1,ai p.2.1,ai p.2.2.2.2):BO3):Rt)=pxR p:=aq (pxR p)
 have dy:(dec ((ai p.2.2.1,ai p.2.2.2.1,ai p.2.2.2.2):BO3):Rt)=pyR p:=aq (pyR p)
 have dy':(dec (enc p.2.2:BO3):Rt)=pyR p:=aq (pyR p)
 have px:Bd (pxR p) 4000:=(inferInstance:Bd ((p.1,p.2.1,p.2.2.2.2):Rt) _).mono (by decide)
 have py:Bd (pyR p) 4000:=(inferInstance:Bd ((p.2.2.1,p.2.2.2.1,p.2.2.2.2):Rt) _).mono (by decide)
 have ox:decide (ok Rt 100000 ((ai p.1,ai p.2.1,ai p.2.2.2.2):BO3))=true:=okd (x:=pxR p) (by decide) (by decide)
 have oy:decide (ok Rt 100000 (enc p.2.2:BO3))=true:=okd (x:=pyR p) (by decide) (by decide)
 have pr:∀r,prI (b9 r).1:=yh
 have pt:∀n a k,prI (iH n a k).1:=abF
 have pf:∀q,prI (frF q).1:=RE.frF_pr
 unfold ahB
 simp only[am,aq,aH,aI,aF,az,aD,auR,auT,Nat.reduceLeDiff,dx,dy',ox,oy,dT (pr _),dT (pt _ _ _),dT (pf _),dT (RE.addF_pr (pt _ _ _) (pt _ _ _)),dT (RE.negF_pr (pf _))]
 unfold ve
 generalize b9 (pxR p)=X
 generalize b9 (pyR p)=Y
 generalize iH l.1 X.1 X.2=U
 generalize iH l.2.1 Y.1 Y.2=V
 generalize frF l.2.2=W
 generalize dJ U.1 V.1=S
 generalize dJ S.1 (lV W.1)=D
 generalize sgF D.1=Z
 obtain⟨_,u⟩:=U
 obtain⟨_,v⟩:=V
 obtain⟨_,w⟩:=W
 obtain⟨_,s⟩:=S
 obtain⟨_,d⟩:=D
 cases u<;>cases v<;>cases w<;>try rfl
 cases s<;>cases d<;>rfl
def anh:Ctx:=CX zI []
def afM(a b:BR)(_k:KT):OLR:=match decide (okR a∧okR b)with|true=>some [RV.d tR (hid (ai (ae a+ae b)))]|false=>none
theorem asj(a b:BR):RS anh 142 [.d tR a,.d tR b] (afM a b):=rsX
theorem ae1(a b:BR)(h:okR a∧okR b):Con Tryz.prog 142 [.d tR a,.d tR b] [.d tR (ai (ae a+ae b))]:=by
 refine aO mR (asj _ _ ⟨0,?_⟩)
 unfold afM
 rw[dT h,am]
def arj:Ctx:=CX zI []
def ahO(a b:BR)(_k:KT):OLR:=match decide (okR a∧okR b)with|true=>some [RV.d tR (hid (ai (ae a-ae b)))]|false=>none
theorem asI(a b:BR):RS arj 139 [.d tR a,.d tR b] (ahO a b):=rsX
theorem abd(a b:BR)(h:okR a∧okR b):Con Tryz.prog 139 [.d tR a,.d tR b] [.d tR (ai (ae a-ae b))]:=by
 refine aO mR (asI _ _ ⟨0,?_⟩)
 unfold ahO
 rw[dT h,am]
def arA:Ctx:=CX zI []
def ag7(a b:BR)(_k:KT):OLR:=match decide (okR a∧okR b)with|true=>some [RV.d tR (hid (ai (ae a*ae b)))]|false=>none
theorem ao5(a b:BR):RS arA 140 [.d tR a,.d tR b] (ag7 a b):=rsX
theorem abv(a b:BR)(h:okR a∧okR b):Con Tryz.prog 140 [.d tR a,.d tR b] [.d tR (ai (ae a*ae b))]:=by
 refine aO mR (ao5 _ _ ⟨0,?_⟩)
 unfold ag7
 rw[dT h,am]
def ap4:Ctx:=CX zI []
def ae2(a b:BR)(_k:KT):OLR:=match decide (gb a b)with|true=>(match 0 !=0 with|true=>(match decide (bU (0:Int))with|true=>some [RV.d tR (hid (ai ((0:Int):Rat)))]|false=>none)|false=>some [RV.d tR (hid (ai (ae a/ae b)))])|false=>none
theorem anA(a b:BR):RS ap4 143 [.d tR a,.d tR b] (ae2 a b):=rsX
theorem ac4(a b:BR)(h:gb a b):Con Tryz.prog 143 [.d tR a,.d tR b] [.d tR (ai (ae a/ae b))]:=by
 refine aO mR (anA _ _ ⟨0,?_⟩)
 unfold ae2
 rw[dT h]
 simp only[am]
 rfl
def XL:aM:=spN true true [tO,tP] (fun x=>decide (ok Ln 300 x.1∧ok Pt 4000 x.2.1)) (fun x=>[RV.d ayb ((ve (dec x.1) (dec x.2.1)).1),RV.d .bool ((ve (dec x.1) (dec x.2.1)).2)])
theorem ZZ:SpK 172 XL:=spX fun x h=>abM x.1 x.2.1 (auN h)
def DD:aM:=spN false true [tR,tR] (fun x=>decide (okR x.1∧okR x.2.1)) (fun x=>[RV.d tR (hid (ai (ae x.1+ae x.2.1)))])
theorem yV:SpK 142 DD:=spX fun x h=>by simp only[am];exact ae1 x.1 x.2.1 (auN h)
def CY:aM:=spN false true [tR,tR] (fun x=>decide (okR x.1∧okR x.2.1)) (fun x=>[RV.d tR (hid (ai (ae x.1-ae x.2.1)))])
theorem zJ:SpK 139 CY:=spX fun x h=>by simp only[am];exact abd x.1 x.2.1 (auN h)
def CO:aM:=spN false true [tR,tR] (fun x=>decide (okR x.1∧okR x.2.1)) (fun x=>[RV.d tR (hid (ai (ae x.1*ae x.2.1)))])
theorem yF:SpK 140 CO:=spX fun x h=>by simp only[am];exact abv x.1 x.2.1 (auN h)
def Jt:aM:=spN false true [tR,tR] (fun x=>decide (gb x.1 x.2.1)) (fun x=>[RV.d tR (hid (ai (ae x.1/ae x.2.1)))])
theorem Fp:SpK 143 Jt:=spX fun x h=>by simp only[am];exact ac4 x.1 x.2.1 (auN h)
def Ky:Env:=(172,XL)::(142,DD)::(139,CY)::(140,CO)::(143,Jt)::zI
theorem yo:EnvAll Tryz.prog Ky:=⟨ZZ,yV,zJ,yF,Fp,mR⟩
def aop:Ctx:=CX Ky []
def afS(a b c:BR)(_k:KT):OLR:=match decide (okR a)with|true=>(match decide (okR b)with|true=>(match decide (okR c)with|true=>(match(i64.wrap ((aR (ae b) 0)*(aR (ae c) 0)))==0 with|true=>some [RV.d ayb (aR (ae a) 0)]|false=>(match(aR (ae a) 0)==(i64.wrap ((aR (ae b) 0)*(aR (ae c) 0)))with|true=>some [RV.d ayb (aR (ae a) 0)]|false=>(match(aR (ae a) 0)==0 with|true=>some [RV.d ayb (i64.wrap ((aR (ae b) 0)*(aR (ae c) 0)))]|false=>(match decide (okR a∧okR a)with|true=>(match decide (okR b∧okR b)with|true=>(match decide (okR (hid (ai (ae b*ae b)))∧okR c)with|true=>(match decide (okR (hid (ai (ae a*ae a)))∧okR (hid (ai (ae (hid (ai (ae b*ae b)))*ae c))))with|true=>some [RV.d ayb (i64.wrap ((aR (ae a) 0)*(aR (ae (hid (ai (ae a*ae a)))) (ae (hid (ai (ae (hid (ai (ae b*ae b)))*ae c)))))))]|false=>none)|false=>none)|false=>none)|false=>none))))|false=>none)|false=>none)|false=>none
theorem anL(a b c:BR):RS aop 171 [.d tR a,.d tR b,.d tR c] (afS a b c):=rsX
theorem aaN(a b c:BR)(h:ok Rat 240000 a∧ok Rat 170000 b∧ok Rat 30000 c):Con Tryz.prog 171 [.d tR a,.d tR b,.d tR c] [.d ayb (fZ (ae a) (ae b) (ae c))]:=by
 refine aO yo (anL _ _ _ ⟨0,?_⟩)
 obtain⟨ha,hb,hc⟩:=h
 obtain⟨a,rfl,ba⟩:=aY ha
 obtain⟨b,rfl,bb⟩:=aY hb
 obtain⟨c,rfl,bc⟩:=aY hc
 unfold afS
 simp only[am,aF,az,aZ,auR,auT,Nat.reduceAdd,Nat.reduceLeDiff,qD]
 exact CJ _ _ _
def aoW:Ctx:=CX Ky []
def agK(a b c f:BR)(_k:KT):OLR:=match decide (ok Rt 100000 (a,(b,c)))with|true=>(match decide (ok Rat 200000 f)with|true=>(match !((b9 (dec (a,(b,c)))).2)with|true=>some [RV.d tG (0,0),RV.d .bool false]|false=>(match !((frF (ae f)).2)with|true=>some [RV.d tG (0,0),RV.d .bool false]|false=>(match decide (prI (hid ((frF (ae f)).1)))with|true=>(match decide (prI (hid ((b9 (dec (a,(b,c)))).1))∧prI (hid (lV (hid ((frF (ae f)).1)))))with|true=>some [RV.d tG (hid ((dJ (hid ((b9 (dec (a,(b,c)))).1)) (hid (lV (hid ((frF (ae f)).1))))).1)),RV.d .bool ((dJ (hid ((b9 (dec (a,(b,c)))).1)) (hid (lV (hid ((frF (ae f)).1))))).2)]|false=>none)|false=>none)))|false=>none)|false=>none
theorem aqa(a b c f:BR):RS aoW 220 [.d tR a,.d tR b,.d tR c,.d tR f] (agK a b c f):=rsX
theorem aa0(a b c f:BR)(h:ok Rat 100000 a∧ok Rat 100000 b∧ok Rat 100000 c∧ok Rat 100000 f):Con Tryz.prog 220 [.d tR a,.d tR b,.d tR c,.d tR f] [.d tG ((fh (ae a,ae b,ae c) (ae f)).1),.d .bool ((fh (ae a,ae b,ae c) (ae f)).2)]:=by
 refine aO yo (aqa _ _ _ _ ⟨0,?_⟩)
 obtain⟨ha,hb,hc,hf⟩:=h
 obtain⟨a,rfl,ba⟩:=aY ha
 obtain⟨b,rfl,bb⟩:=aY hb
 obtain⟨c,rfl,bc⟩:=aY hc
 obtain⟨f,rfl,bf⟩:=aY hf
 have dr:(dec ((ai a,ai b,ai c):BO3):Rt)=(a,b,c):=aq ((a,b,c):Rt)
 have orr:decide (ok Rt 100000 ((ai a,ai b,ai c):BO3))=true:=okd (x:=((a,b,c):Rt)) (by decide) (by decide)
 unfold agK
 simp only[am,aF,az,aD,auR,auT,Nat.reduceLeDiff,dr,orr,dT (RE.frF_pr _),dT (RE.negF_pr (RE.frF_pr _)),dT (yh _)]
 unfold fh
 generalize b9 (a,b,c)=X
 generalize frF f=Y
 obtain⟨_,x⟩:=X
 obtain⟨_,y⟩:=Y
 cases x<;>cases y<;>rfl
def Tq:aM:=spN true true [tR,tR,tR] (fun x=>decide (ok Rat 240000 x.1∧ok Rat 170000 x.2.1∧ok Rat 30000 x.2.2.1)) (fun x=>[RV.d ayb (fZ (ae x.1) (ae x.2.1) (ae x.2.2.1))])
theorem Z2:SpK 171 Tq:=spX fun x h=>aaN x.1 x.2.1 x.2.2.1 (auN h)
def Uj:aM:=spN false true [tR,tR,tR,tR] (fun x=>decide (ok Rat 100000 x.1∧ok Rat 100000 x.2.1∧ok Rat 100000 x.2.2.1∧ok Rat 100000 x.2.2.2.1)) (fun x=>[RV.d tG (hid ((fh (ae x.1,ae x.2.1,ae x.2.2.1) (ae x.2.2.2.1)).1)),RV.d .bool ((fh (ae x.1,ae x.2.1,ae x.2.2.1) (ae x.2.2.2.1)).2)])
theorem U5:SpK 220 Uj:=spX fun x h=>by simp only[am];exact aa0 x.1 x.2.1 x.2.2.1 x.2.2.2.1 (auN h)
def Ls:Env:=(171,Tq)::(220,Uj)::Ky
theorem zr:EnvAll Tryz.prog Ls:=⟨Z2,U5,yo⟩
def apG:Ctx:=CX Ls []
def ahR(c:BO3)(p:BP)(_k:KT):OLR:=let y1:=fh (ae p.1,ae p.2.1,ae p.2.2.2.2) (ae c.1);let y2:=fh (ae p.2.2.1,ae p.2.2.2.1,ae p.2.2.2.2) (ae c.2.1);let y3:=cW (hid (y1.1)) (hid (y1.1));let y4:=cW (hid (y2.1)) (hid (y2.1));let y5:=dJ (hid (y3.1)) (hid (y4.1));let y6:=hid ((frF (ae c.2.2)).1);let y7:=dJ (hid (y5.1)) (hid (lV y6));match decide (ok Rat 100000 p.1∧ok Rat 100000 p.2.1∧ok Rat 100000 p.2.2.2.2∧ok Rat 100000 c.1)with|true=>(match decide (ok Rat 100000 p.2.2.1∧ok Rat 100000 p.2.2.2.1∧ok Rat 100000 p.2.2.2.2∧ok Rat 100000 c.2.1)with|true=>(match decide (ok Rat 200000 c.2.2)with|true=>(match !(y1.2)with|true=>some [RV.d ayb 0,RV.d .bool false]|false=>(match !(y2.2)with|true=>some [RV.d ayb 0,RV.d .bool false]|false=>(match !((frF (ae c.2.2)).2)with|true=>some [RV.d ayb 0,RV.d .bool false]|false=>(match decide (prI (hid (y1.1))∧prI (hid (y1.1)))with|true=>(match decide (prI (hid (y2.1))∧prI (hid (y2.1)))with|true=>(match !(y3.2)with|true=>some [RV.d ayb 0,RV.d .bool false]|false=>(match !(y4.2)with|true=>some [RV.d ayb 0,RV.d .bool false]|false=>(match decide (prI (hid (y3.1))∧prI (hid (y4.1)))with|true=>(match !(y5.2)with|true=>some [RV.d ayb 0,RV.d .bool false]|false=>(match decide (prI y6)with|true=>(match decide (prI (hid (y5.1))∧prI (hid (lV y6)))with|true=>(match !(y7.2)with|true=>some [RV.d ayb 0,RV.d .bool false]|false=>some [RV.d ayb ((sgF (hid (y7.1))).1),RV.d .bool ((sgF (hid (y7.1))).2)])|false=>none)|false=>none))|false=>none)))|false=>none)|false=>none))))|false=>none)|false=>none)|false=>none
theorem aqB(c:BO3)(p:BP):RS apG 170 [.d tO c,.d tP p] (ahR c p):=rsX
theorem aec(c:BO3)(p:BP)(h:ok Ln 300 c∧ok Pt 4000 p):Con Tryz.prog 170 [.d tO c,.d tP p] [.d ayb ((tb (dec c) (dec p)).1),.d .bool ((tb (dec c) (dec p)).2)]:=by
 refine aO zr (aqB _ _ ⟨0,?_⟩)
 obtain⟨hc,hp⟩:=h
 obtain⟨c,rfl,bc⟩:=aY hc
 obtain⟨p,rfl,bp⟩:=aY hp
 have pd:∀r q,prI (fh r q).1:=abS
 have pf:∀q,prI (frF q).1:=RE.frF_pr
 have pm:∀a b,prI (cW a b).1:=tL
 have dx:fh (p.1,p.2.1,p.2.2.2.2) c.1=fh (pxR p) c.1:=rfl
 have dy:fh (p.2.2.1,p.2.2.2.1,p.2.2.2.2) c.2.1=fh (pyR p) c.2.1:=rfl
 unfold ahR
 simp only[am,aq,aH,aI,aF,az,aD,auR,auT,Nat.reduceLeDiff,dx,dy,dT (pd _ _),dT (pm _ _),dT (pf _),dT (RE.negF_pr (pf _)),dT (RE.addF_pr (pm _ _) (pm _ _))]
 unfold tb
 generalize fh (pxR p) c.1=X
 generalize fh (pyR p) c.2.1=Y
 generalize frF c.2.2=W
 generalize cW X.1 X.1=U
 generalize cW Y.1 Y.1=V
 generalize dJ U.1 V.1=S
 generalize dJ S.1 (lV W.1)=D
 generalize sgF D.1=Z
 obtain⟨_,x⟩:=X
 obtain⟨_,y⟩:=Y
 obtain⟨_,w⟩:=W
 obtain⟨_,u⟩:=U
 obtain⟨_,v⟩:=V
 obtain⟨_,s⟩:=S
 obtain⟨_,d⟩:=D
 cases x<;>cases y<;>cases w<;>try rfl
 cases u<;>cases v<;>try rfl
 cases s<;>cases d<;>rfl
def apq:Ctx:=CX Ls []
def agf(l:BO3)(p:BP)(_k:KT):OLR:=match decide (ok Ln 300 l∧ok Pt 4000 p)with|true=>(match(ve (dec l) (dec p)).2 with|true=>some [RV.d ayb ((ve (dec l) (dec p)).1)]|false=>(match decide (okR l.1∧okR p.1)with|true=>(match decide (okR l.2.1∧okR p.2.2.1)with|true=>(match decide (okR (hid (ai (ae l.1*ae p.1)))∧okR (hid (ai (ae l.2.1*ae p.2.2.1))))with|true=>(match decide (okR (hid (ai (ae (hid (ai (ae l.1*ae p.1)))+ae (hid (ai (ae l.2.1*ae p.2.2.1))))))∧okR l.2.2)with|true=>(match decide (okR l.1∧okR p.2.1)with|true=>(match decide (okR l.2.1∧okR p.2.2.2.1)with|true=>(match decide (okR (hid (ai (ae l.1*ae p.2.1)))∧okR (hid (ai (ae l.2.1*ae p.2.2.2.1))))with|true=>(match decide (ok Rat 240000 (hid (ai (ae (hid (ai (ae (hid (ai (ae l.1*ae p.1)))+ae (hid (ai (ae l.2.1*ae p.2.2.1))))))-ae l.2.2)))∧ok Rat 170000 (hid (ai (ae (hid (ai (ae l.1*ae p.2.1)))+ae (hid (ai (ae l.2.1*ae p.2.2.2.1))))))∧ok Rat 30000 p.2.2.2.2)with|true=>some [RV.d ayb (fZ (ae (hid (ai (ae (hid (ai (ae (hid (ai (ae l.1*ae p.1)))+ae (hid (ai (ae l.2.1*ae p.2.2.1))))))-ae l.2.2)))) (ae (hid (ai (ae (hid (ai (ae l.1*ae p.2.1)))+ae (hid (ai (ae l.2.1*ae p.2.2.2.1))))))) (ae p.2.2.2.2))]|false=>none)|false=>none)|false=>none)|false=>none)|false=>none)|false=>none)|false=>none)|false=>none))|false=>none
theorem aol(l:BO3)(p:BP):RS apq 107 [.d tO l,.d tP p] (agf l p):=rsX
theorem ab2(l:BO3)(p:BP)(h:ok Ln 300 l∧okP 4000 p):Con Tryz.prog 107 [.d tO l,.d tP p] [.d ayb (pN (dec l) (dec p))]:=by
 refine aO zr (aol _ _ ⟨0,?_⟩)
 obtain⟨hl,hp⟩:=h
 obtain⟨l,rfl,bl⟩:=aY hl
 obtain⟨p,rfl,bp,rp⟩:=dz hp
 unfold agf
 simp only[am,aq,aH,aI,aF,az,okd,aD,aZ,auR,auT,Nat.reduceAdd,Nat.reduceLeDiff]
 cases hq:(ve l p).2
 ·rfl
 ·rw[RE.sidL_ok l hq]
def QG:aM:=spN true true [tO,tP] (fun x=>decide (ok Ln 300 x.1∧ok Pt 4000 x.2.1)) (fun x=>[RV.d ayb ((tb (dec x.1) (dec x.2.1)).1),RV.d .bool ((tb (dec x.1) (dec x.2.1)).2)])
theorem W5:SpK 170 QG:=spX fun x h=>aec x.1 x.2.1 (auN h)
def Tp:Env:=(170,QG)::Ls
theorem Ia:EnvAll Tryz.prog Tp:=⟨W5,zr⟩
def as4:Ctx:=CX Tp []
def agt(c:BO3)(p:BP)(_k:KT):OLR:=let y1:=tb (dec c) (dec p);let y2:=hid (ai (ae p.1-ae c.1));let y3:=hid (ai (ae p.2.2.1-ae c.2.1));let y4:=hid (ai (ae y2*ae y2));let y5:=hid (ai (ae y3*ae y3));let y6:=hid (ai (ae p.2.1*ae p.2.1));let y7:=hid (ai (ae p.2.2.2.1*ae p.2.2.2.1));let y8:=hid (ai (ae y6+ae y7));let y9:=hid (ai (ae y4+ae y5));let y10:=hid (ai (ae p.2.2.2.2*ae y8));let y11:=hid (ai (ae y2*ae p.2.1));let y12:=hid (ai (ae y3*ae p.2.2.2.1));let y13:=hid (ai (ae y9+ae y10));let y14:=hid (ai (ae y11+ae y12));let y15:=hid (ai (ae y13-ae c.2.2));let y16:=hid (ai (ae y14+ae y14));match decide (ok Ln 300 c∧ok Pt 4000 p)with|true=>(match y1.2 with|true=>some [RV.d ayb (i64.wrap (0-(y1.1)))]|false=>(match decide (okR p.1∧okR c.1)with|true=>(match decide (okR p.2.2.1∧okR c.2.1)with|true=>(match decide (okR y2∧okR y2)with|true=>(match decide (okR y3∧okR y3)with|true=>(match decide (okR y4∧okR y5)with|true=>(match decide (okR p.2.1∧okR p.2.1)with|true=>(match decide (okR p.2.2.2.1∧okR p.2.2.2.1)with|true=>(match decide (okR y6∧okR y7)with|true=>(match decide (okR p.2.2.2.2∧okR y8)with|true=>(match decide (okR y9∧okR y10)with|true=>(match decide (okR y2∧okR p.2.1)with|true=>(match decide (okR y3∧okR p.2.2.2.1)with|true=>(match decide (okR y11∧okR y12)with|true=>(match decide (okR y13∧okR c.2.2)with|true=>(match decide (okR y14∧okR y14)with|true=>(match decide (ok Rat 240000 y15∧ok Rat 170000 y16∧ok Rat 30000 p.2.2.2.2)with|true=>some [RV.d ayb (i64.wrap (0-(fZ (ae y15) (ae y16) (ae p.2.2.2.2))))]|false=>none)|false=>none)|false=>none)|false=>none)|false=>none)|false=>none)|false=>none)|false=>none)|false=>none)|false=>none)|false=>none)|false=>none)|false=>none)|false=>none)|false=>none)|false=>none))|false=>none
theorem anl(c:BO3)(p:BP):RS as4 106 [.d tO c,.d tP p] (agt c p):=rsX
theorem aaW(c:BO3)(p:BP)(h:ok Ln 300 c∧okP 4000 p):Con Tryz.prog 106 [.d tO c,.d tP p] [.d ayb (nS (dec c) (dec p))]:=by
 refine aO Ia (anl _ _ ⟨0,?_⟩)
 obtain⟨hc,hp⟩:=h
 obtain⟨c,rfl,bc⟩:=aY hc
 obtain⟨p,rfl,bp,rp⟩:=dz hp
 have sb:=lM (sqA p (ctr c)-c.2.2) (sqB p (ctr c)) p.2.2.2.2
 unfold agt
 simp only[am,aq,aH,aI,aF,az,okd,aD,aZ,auR,auT,Nat.reduceAdd,Nat.reduceLeDiff]
 cases hq:(tb c p).2
 ·unfold nS sqA sqB ctr at*
  dsimp only at sb ⊢
  rw[show(p.2.2.2.2*(p.2.1*p.2.1+p.2.2.2.1*p.2.2.2.1))=(p.2.1*p.2.1+p.2.2.2.1*p.2.2.2.1)*p.2.2.2.2 by grind]
  rw[bz (by omega) (by omega),awS]
 ·have hb: -1≤(tb c p).1∧(tb c p).1≤1:=by
   have:=RE.insC_ok c hq
   unfold nS at this
   omega
  dsimp only
  rw[bz (by omega) (by omega),awS,RE.insC_ok c hq]
def ao7:Ctx:=CX Tp []
def ahW(l:BO3)(v:BV)(_k:KT):OLR:=let y1:=hid (ai (ae l.1*ae v.1));let y2:=hid (ai (ae l.2.1*ae v.2));let y3:=hid (ai (ae y1+ae y2));let y4:=hid (ai (ae l.1*ae l.1));let y5:=hid (ai (ae l.2.1*ae l.2.1));let y6:=hid (ai (ae y3-ae l.2.2));let y7:=hid (ai (ae y4+ae y5));let y8:=hid (ai (ae y6/ae y7));let y9:=hid (ai (ae y8*ae l.1));let y10:=hid (ai (ae y8*ae l.2.1));match decide (okR l.1∧okR v.1)with|true=>(match decide (okR l.2.1∧okR v.2)with|true=>(match decide (okR y1∧okR y2)with|true=>(match decide (okR y3∧okR l.2.2)with|true=>(match decide (okR l.1∧okR l.1)with|true=>(match decide (okR l.2.1∧okR l.2.1)with|true=>(match decide (okR y4∧okR y5)with|true=>(match decide (gb y6 y7)with|true=>(match decide (okR y8∧okR l.1)with|true=>(match decide (okR v.1∧okR y9)with|true=>(match decide (okR y8∧okR l.2.1)with|true=>(match decide (okR v.2∧okR y10)with|true=>some [RV.d tV (hid (ai (ae v.1-ae y9)),hid (ai (ae v.2-ae y10)))]|false=>none)|false=>none)|false=>none)|false=>none)|false=>none)|false=>none)|false=>none)|false=>none)|false=>none)|false=>none)|false=>none)|false=>none
theorem aq1(l:BO3)(v:BV):RS ao7 241 [.d tO l,.d tV v] (ahW l v):=rsX
theorem acE(l:BO3)(v:BV)(h:ok Ln 300 l∧ok (Rat×Rat) 200 v∧((dec l:Ln).1≠0∨(dec l:Ln).2.1≠0)):Con Tryz.prog 241 [.d tO l,.d tV v] [.d tV (enc (Np (dec l) (dec v)))]:=by
 refine aO Ia (aq1 _ _ ⟨0,?_⟩)
 obtain⟨hl,hv,h0⟩:=h
 obtain⟨l,rfl,bl⟩:=aY hl
 obtain⟨v,rfl,bv⟩:=aY hv
 have hn:l.1*l.1+l.2.1*l.2.1≠0:=KB (by rw[aq]at h0;exact h0)
 unfold ahW
 simp only[am,aq,aH,aI,aF,az,aZ,aC,auR,auT,Nat.reduceAdd,Nat.reduceLeDiff,hn,ne_eq,awI]
 rfl
theorem adI(n:Int):(if(if n>(-1)then n else(-1))<1 then(if n>(-1)then n else(-1))else 1)=zq n:=by
 unfold zq
 split<;>split<;>(try split)<;>(try split)<;>omega
def aag:aM:=spN true true [tO,tR] (fun x=>decide (okT 15000 x.1∧ok Rat 15000 x.2.1)) (fun x=>[RV.d ayb (gE (dec x.1) (ae x.2.1))])
theorem Vi:SpK 262 aag:=spX fun x h=>abw x.1 x.2.1 (auN h)
def RX:aM:=spN true true [tO,tP] (fun x=>decide (ok Ln 300 x.1∧okP 4000 x.2.1)) (fun x=>[RV.d ayb (pN (dec x.1) (dec x.2.1))])
theorem Sr:SpK 107 RX:=spX fun x h=>ab2 x.1 x.2.1 (auN h)
def Qo:aM:=spN true true [tO,tP] (fun x=>decide (ok Ln 300 x.1∧okP 4000 x.2.1)) (fun x=>[RV.d ayb (nS (dec x.1) (dec x.2.1))])
theorem R9:SpK 106 Qo:=spX fun x h=>aaW x.1 x.2.1 (auN h)
def AS:Env:=[(173,CE),(262,aag),(174,TD),(175,Sj),(108,Ew),(107,RX),(106,Qo)]
theorem pj:EnvAll Tryz.prog AS:=⟨xK,Vi,Nc,Ly,zh,Sr,R9,trivial⟩
def aoY:Ctx:=CX AS []
def afA(c:BCU)(p:BP)(_k:KT):OLR:=match c.1 with|true=>(match decide (ok Ln 300 c.2.2.1∧okP 4000 p)with|true=>some [RV.d .bool ((nS (dec c.2.2.1) (dec p))==0)]|false=>none)|false=>(match decide (ok Ln 300 c.2.1∧okP 4000 p)with|true=>some [RV.d .bool ((pN (dec c.2.1) (dec p))==0)]|false=>none)
theorem apf(c:BCU)(p:BP):RS aoY 47 [.d tCU c,.d tP p] (afA c p):=rsX
theorem aeJ(c:BCU)(p:BP)(h:okC 4000 c∧okP 4000 p):Con Tryz.prog 47 [.d tCU c,.d tP p] [.d .bool (em (dC c) (dec p))]:=by
 refine aO pj (apf _ _ ⟨0,?_⟩)
 obtain⟨hc,hp⟩:=h
 have op:decide (okP 4000 p)=true:=auO hp
 obtain⟨ar,li,ci,cw,fr,to⟩:=c
 obtain⟨c1,c2,_⟩:=hc
 unfold afA
 cases ar
 ·have e:=(c2 rfl).1
  simp only[auR,dT e,op,auT]
  rfl
 ·have e:=(c1 rfl).1
  simp only[auR,dT e,op,auT]
  rfl
def ar2:Ctx:=CX AS []
def ahV(c:BO3)(p:BP)(_k:KT):OLR:=match decide (okP 4000 p)with|true=>(match decide (okT 15000 (hid (enc (yP (dec p))))∧ok Rat 15000 c.2.1)with|true=>(match decide ((gE (dec (hid (enc (yP (dec p))))) (ae c.2.1))>0)with|true=>some [RV.d ayb 0]|false=>(match(gE (dec (hid (enc (yP (dec p))))) (ae c.2.1))==0 with|true=>(match decide (okP 4000 p)with|true=>(match decide (okT 15000 (hid (enc (xP (dec p))))∧ok Rat 15000 c.1)with|true=>(match decide ((gE (dec (hid (enc (xP (dec p))))) (ae c.1))>0)with|true=>some [RV.d ayb 0]|false=>some [RV.d ayb 1])|false=>none)|false=>none)|false=>some [RV.d ayb 1]))|false=>none)|false=>none
theorem apW(c:BO3)(p:BP):RS ar2 233 [.d tO c,.d tP p] (ahV c p):=rsX
theorem abo(c:BO3)(p:BP)(h:ok Ln 300 c∧okP 4000 p):Con Tryz.prog 233 [.d tO c,.d tP p] [.d ayb (Du (dec c) (dec p))]:=by
 refine aO pj (apW _ _ ⟨0,?_⟩)
 obtain⟨hc,hp⟩:=h
 obtain⟨c,rfl,bc⟩:=aY hc
 obtain⟨p,rfl,bp,rp⟩:=dz hp
 unfold ahV Du upR
 simp only[am,aq,aH,aI,aF,az,aD,auR,auT,mx,Nat.reduceLeDiff,au2,cond_true,bH,bG]
 cases decide (gE (yP p) c.2.1>0)<;>cases gE (yP p) c.2.1==0<;>cases decide (gE (xP p) c.1>0)<;>rfl
def anC:Ctx:=CX AS []
def afN(n:Int)(_k:KT):OLR:=some [RV.d ayb (if(if n>(-1)then n else(-1))<1 then(if n>(-1)then n else(-1))else 1)]
theorem aoP(n:Int):RS anC 177 [SI n] (afN n):=rsX
theorem adW(n:Int):Con Tryz.prog 177 [.d ayb n] [.d ayb (zq n)]:=by
 refine aO pj (aoP _ ⟨0,?_⟩)
 unfold afN
 rw[adI]
def apM:Ctx:=CX AS []
def aqK(c:BCU)(_k:KT):OLR:=match c.1 with|true=>some [RV.d tCU (c.1,(c.2.1,(c.2.2.1,(!c.2.2.2.1,(c.2.2.2.2.2,c.2.2.2.2.1)))))]|false=>some [RV.d tCU (c.1,(c.2.1,(c.2.2.1,(false,(c.2.2.2.2.2,c.2.2.2.2.1)))))]
theorem aoZ(c:BCU):RS apM 26 [.d tCU c] (aqK c):=rsX
theorem aar(c:BCU):Con Tryz.prog 26 [.d tCU c] [.d tCU (cH c)]:=by
 refine aO pj (aoZ _ ⟨0,?_⟩)
 obtain⟨ar,li,ci,cw,fr,to⟩:=c
 cases ar<;>rfl
def SW:aM:=spN true true [tCU,tP] (fun x=>decide (okC 4000 x.1∧okP 4000 x.2.1)) (fun x=>[RV.d .bool (em (dC x.1) (dec x.2.1))])
theorem Vf:SpK 47 SW:=spX fun x h=>aeJ x.1 x.2.1 (auN h)
def Qy:aM:=spN true true [tO,tP] (fun x=>decide (ok Ln 300 x.1∧okP 4000 x.2.1)) (fun x=>[RV.d ayb (Du (dec x.1) (dec x.2.1))])
theorem VL:SpK 233 Qy:=spX fun x h=>abo x.1 x.2.1 (auN h)
def XO:aM:=spN true true [ayb] (fun _=>true) (fun x=>[RV.d ayb (zq x.1)])
theorem Zv:SpK 177 XO:=spX fun x _=>adW x.1
def Jl:aM:=spN false true [tCU] (fun _=>true) (fun x=>[RV.d tCU (hid (cH x.1))])
theorem EY:SpK 26 Jl:=spX fun x _=>by simp only[am];exact aar x.1
def LY:Env:=(47,SW)::(233,Qy)::(177,XO)::(26,Jl)::AS
theorem yw:EnvAll Tryz.prog LY:=⟨Vf,VL,Zv,EY,pj⟩
def anV:Ctx:=CX LY []
def agi(c:BO3)(p q:BP)(_k:KT):OLR:=match decide (ok Ln 300 c∧okP 4000 p)with|true=>(match decide (ok Ln 300 c∧okP 4000 q)with|true=>(match(Du (dec c) (dec p)) !=(Du (dec c) (dec q))with|true=>some [RV.d ayb (i64.wrap ((Du (dec c) (dec p))-(Du (dec c) (dec q))))]|false=>(match decide (okP 4000 p)with|true=>(match decide (okP 4000 q)with|true=>(match decide (okT 15000 (hid (enc (xP (dec p))))∧okT 15000 (hid (enc (xP (dec q)))))with|true=>(match(Du (dec c) (dec p))==0 with|true=>some [RV.d ayb (i64.wrap (0-(bS (dec (hid (enc (xP (dec p))))) (dec (hid (enc (xP (dec q))))))))]|false=>some [RV.d ayb (bS (dec (hid (enc (xP (dec p))))) (dec (hid (enc (xP (dec q))))))])|false=>none)|false=>none)|false=>none))|false=>none)|false=>none
theorem aqj(c:BO3)(p q:BP):RS anV 178 [.d tO c,.d tP p,.d tP q] (agi c p q):=rsX
theorem acz(c:BO3)(p q:BP)(h:ok Ln 300 c∧okP 4000 p∧okP 4000 q):Con Tryz.prog 178 [.d tO c,.d tP p,.d tP q] [.d ayb (ru bS (ptd (dec c) (dec p)) (ptd (dec c) (dec q)))]:=by
 refine aO yw (aqj _ _ _ ⟨0,?_⟩)
 obtain⟨hc,hp,hq⟩:=h
 obtain⟨c,rfl,bc⟩:=aY hc
 obtain⟨p,rfl,bp,rp⟩:=dz hp
 obtain⟨q,rfl,bq,rq⟩:=dz hq
 have xb:=wP (xP p) (xP q)
 unfold agi
 simp only[am,aq,okd,auR,auT,mx,Nat.reduceLeDiff,au2,cond_true,bH,bG,bz (x:= -bS (xP p) (xP q)) (by omega) (by omega),awS]
 unfold ru Du ptd
 cases upR c p<;>cases upR c q<;>rfl
def ap9:Ctx:=CX LY []
def ahe(c:BCU)(_k:KT):OLR:=match c.2.2.2.1 with|true=>some [RV.d tCU (hid (cH c))]|false=>some [RV.d tCU c]
theorem aq7(c:BCU):RS ap9 109 [.d tCU c] (ahe c):=rsX
theorem ady(c:BCU):Con Tryz.prog 109 [.d tCU c] [.d tCU (dR c)]:=by
 refine aO yw (aq7 _ ⟨0,?_⟩)
 obtain⟨ar,li,ci,cw,fr,to⟩:=c
 unfold ahe dR
 cases cw
 ·rfl
 ·simp only[am];rfl
def Tj:aM:=spN true true [tO,tP,tP] (fun x=>decide (ok Ln 300 x.1∧okP 4000 x.2.1∧okP 4000 x.2.2.1)) (fun x=>[RV.d ayb (ru bS (ptd (dec x.1) (dec x.2.1)) (ptd (dec x.1) (dec x.2.2.1)))])
theorem ZV:SpK 178 Tj:=spX fun x h=>acz x.1 x.2.1 x.2.2.1 (auN h)
def Iz:aM:=spN false true [tCU] (fun _=>true) (fun x=>[RV.d tCU (hid (dR x.1))])
theorem GW:SpK 109 Iz:=spX fun x _=>by simp only[am];exact ady x.1
def SY:Env:=(178,Tj)::(109,Iz)::LY
theorem FW:EnvAll Tryz.prog SY:=⟨ZV,GW,yw⟩
def apA:Ctx:=CX SY []
def agL(c:BO3)(f p:BP)(_k:KT):OLR:=match decide (ok Ln 300 c∧okP 4000 p∧okP 4000 f)with|true=>(match(ru bS (ptd (dec c) (dec p)) (ptd (dec c) (dec f)))==0 with|true=>some [RV.d ayb 0]|false=>(match decide ((ru bS (ptd (dec c) (dec p)) (ptd (dec c) (dec f)))>0)with|true=>some [RV.d ayb 1]|false=>some [RV.d ayb 2]))|false=>none
theorem aoL(c:BO3)(f p:BP):RS apA 176 [.d tO c,.d tP f,.d tP p] (agL c f p):=rsX
theorem aby(c:BO3)(f p:BP)(h:ok Ln 300 c∧okP 4000 f∧okP 4000 p):Con Tryz.prog 176 [.d tO c,.d tP f,.d tP p] [.d ayb (ni bS (ptd (dec c) (dec f)) (ptd (dec c) (dec p)))]:=by
 refine aO FW (aoL _ _ _ ⟨0,?_⟩)
 obtain⟨hc,hf,hp⟩:=h
 unfold agL ni
 rw[dT ⟨hc,hp,hf⟩]
 dsimp only
 cases ru bS (ptd (dec c) (dec p)) (ptd (dec c) (dec f))==0<;>cases decide (ru bS (ptd (dec c) (dec p)) (ptd (dec c) (dec f))>0)<;>rfl
def U9:aM:=spN true true [tO,tP,tP] (fun x=>decide (ok Ln 300 x.1∧okP 4000 x.2.1∧okP 4000 x.2.2.1)) (fun x=>[RV.d ayb (ni bS (ptd (dec x.1) (dec x.2.1)) (ptd (dec x.1) (dec x.2.2.1)))])
theorem XQ:SpK 176 U9:=spX fun x h=>aby x.1 x.2.1 x.2.2.1 (auN h)
def QH:Env:=(176,U9)::SY
theorem Gp:EnvAll Tryz.prog QH:=⟨XQ,FW⟩
def an5:Ctx:=CX QH []
def af9(c:BO3)(f p q:BP)(_k:KT):OLR:=match decide (ok Ln 300 c∧okP 4000 f∧okP 4000 p)with|true=>(match decide (ok Ln 300 c∧okP 4000 f∧okP 4000 q)with|true=>(match(ni bS (ptd (dec c) (dec f)) (ptd (dec c) (dec p))) !=(ni bS (ptd (dec c) (dec f)) (ptd (dec c) (dec q)))with|true=>some [RV.d ayb (zq (i64.wrap ((ni bS (ptd (dec c) (dec f)) (ptd (dec c) (dec p)))-(ni bS (ptd (dec c) (dec f)) (ptd (dec c) (dec q))))))]|false=>(match decide (ok Ln 300 c∧okP 4000 p∧okP 4000 q)with|true=>some [RV.d ayb (zq (ru bS (ptd (dec c) (dec p)) (ptd (dec c) (dec q))))]|false=>none))|false=>none)|false=>none
theorem asG(c:BO3)(f p q:BP):RS an5 110 [.d tO c,.d tP f,.d tP p,.d tP q] (af9 c f p q):=rsX
theorem ab7(c:BO3)(f p q:BP)(h:ok Ln 300 c∧okP 4000 f∧okP 4000 p∧okP 4000 q):Con Tryz.prog 110 [.d tO c,.d tP f,.d tP p,.d tP q] [.d ayb (eZ bS (ptd (dec c) (dec f)) (ptd (dec c) (dec p)) (ptd (dec c) (dec q)))]:=by
 refine aO Gp (asG _ _ _ _ ⟨0,?_⟩)
 obtain⟨hc,hf,hp,hq⟩:=h
 unfold af9 eZ bne
 have b1:=MU (p:=ptd (dec c) (dec f)) (q:=ptd (dec c) (dec p))
 have b2:=MU (p:=ptd (dec c) (dec f)) (q:=ptd (dec c) (dec q))
 rw[dT ⟨hc,hf,hp⟩,dT ⟨hc,hf,hq⟩,dT ⟨hc,hp,hq⟩,bz (by omega) (by omega)]
 dsimp only
 cases ni bS (ptd (dec c) (dec f)) (ptd (dec c) (dec p))==ni bS (ptd (dec c) (dec f)) (ptd (dec c) (dec q))<;>rfl
def CC:aM:=spN true true [tO,tP,tP,tP] (fun x=>decide (ok Ln 300 x.1∧okP 4000 x.2.1∧okP 4000 x.2.2.1∧okP 4000 x.2.2.2.1)) (fun x=>[RV.d ayb (eZ bS (ptd (dec x.1) (dec x.2.1)) (ptd (dec x.1) (dec x.2.2.1)) (ptd (dec x.1) (dec x.2.2.2.1)))])
theorem yR:SpK 110 CC:=spX fun x h=>ab7 x.1 x.2.1 x.2.2.1 x.2.2.2.1 (auN h)
def WN:Env:=(110,CC)::QH
theorem HB:EnvAll Tryz.prog WN:=⟨yR,Gp⟩
def anX:Ctx:=CX WN []
def afR(c:BCU)(p:BP)(_k:KT):OLR:=match !c.1 with|true=>(match decide (okP 4000 c.2.2.2.2.1∧okP 4000 p)with|true=>(match decide (okP 4000 p∧okP 4000 c.2.2.2.2.2)with|true=>(match(aV (dec c.2.2.2.2.1) (dec p))==0 with|true=>some [RV.d .bool true]|false=>(match(aV (dec p) (dec c.2.2.2.2.2))==0 with|true=>some [RV.d .bool true]|false=>some [RV.d .bool ((aV (dec c.2.2.2.2.1) (dec p))==(aV (dec p) (dec c.2.2.2.2.2)))]))|false=>none)|false=>none)|false=>(match decide (ok Ln 300 ((((hid (dR c)).2).2).1)∧okP 4000 ((((((hid (dR c)).2).2).2).2).1)∧okP 4000 p∧okP 4000 ((((((hid (dR c)).2).2).2).2).2))with|true=>some [RV.d .bool (decide ((eZ bS (ptd (dec ((((hid (dR c)).2).2).1)) (dec ((((((hid (dR c)).2).2).2).2).1))) (ptd (dec ((((hid (dR c)).2).2).1)) (dec p)) (ptd (dec ((((hid (dR c)).2).2).1)) (dec ((((((hid (dR c)).2).2).2).2).2))))≤0))]|false=>none)
theorem arV(c:BCU)(p:BP):RS anX 48 [.d tCU c,.d tP p] (afR c p):=rsX
theorem aao(c:BCU)(p:BP)(h:okC 4000 c∧okP 4000 p):Con Tryz.prog 48 [.d tCU c,.d tP p] [.d .bool (gO (dC c) (dec p))]:=by
 refine aO HB (arV _ _ ⟨0,?_⟩)
 obtain⟨hc,hp⟩:=h
 obtain⟨ar,li,ci,cw,fr,to⟩:=c
 obtain⟨c1,c2,c3,c4⟩:=hc
 unfold afR gO
 simp only[am]
 cases ar
 ·try dsimp only[Bool.not_false]
  rw[dT ⟨c3,hp⟩,dT ⟨hp,c4⟩]
  show _=some [RV.d .bool (AF (aV (dec fr) (dec p)) (aV (dec p) (dec to)))]
  unfold AF
  dsimp only
  cases aV (dec fr) (dec p)==0<;>cases aV (dec p) (dec to)==0<;>rfl
 ·have e:=(c1 rfl).1
  cases cw
  ·rw[dT (show ok Ln 300 (dR (true,li,ci,false,fr,to)).2.2.1∧okP 4000 (dR (true,li,ci,false,fr,to)).2.2.2.2.1∧okP 4000 p∧okP 4000 (dR (true,li,ci,false,fr,to)).2.2.2.2.2 from⟨e,c3,hp,c4⟩)]
   rfl
  ·rw[dT (show ok Ln 300 (dR (true,li,ci,true,fr,to)).2.2.1∧okP 4000 (dR (true,li,ci,true,fr,to)).2.2.2.2.1∧okP 4000 p∧okP 4000 (dR (true,li,ci,true,fr,to)).2.2.2.2.2 from⟨e,c4,hp,c3⟩)]
   rfl
def Ef:aM:=spN true true [tCU,tP] (fun x=>decide (okC 4000 x.1∧okP 4000 x.2.1)) (fun x=>[RV.d .bool (gO (dC x.1) (dec x.2.1))])
theorem ze:SpK 48 Ef:=spX fun x h=>aao x.1 x.2.1 (auN h)
def af6:Env:=(48,Ef)::WN
theorem Xh:EnvAll Tryz.prog af6:=⟨ze,HB⟩
def asf:Ctx:=CX af6 []
def agz(c:BCU)(p:BP)(_k:KT):OLR:=match decide (okC 4000 c∧okP 4000 p)with|true=>(match em (dC c) (dec p)with|true=>(match decide (okC 4000 c∧okP 4000 p)with|true=>some [RV.d .bool (gO (dC c) (dec p))]|false=>none)|false=>some [RV.d .bool false])|false=>none
theorem ans(c:BCU)(p:BP):RS asf 14 [.d tCU c,.d tP p] (agz c p):=rsX
theorem aaE(c:BCU)(p:BP)(h:okC 4000 c∧okP 4000 p):Con Tryz.prog 14 [.d tCU c,.d tP p] [.d .bool (onP (dC c) (dec p))]:=by
 refine aO Xh (ans _ _ ⟨0,?_⟩)
 unfold agz onP
 rw[dT h]
 dsimp only
 cases em (dC c) (dec p)<;>rfl
def xL:aM:=spN true true [tCU,tP] (fun x=>decide (okC 4000 x.1∧okP 4000 x.2.1)) (fun x=>[RV.d .bool (onP (dC x.1) (dec x.2.1))])
theorem sT:SpK 14 xL:=spX fun x h=>aaE x.1 x.2.1 (auN h)
theorem db{j k:Nat}{x:BP}(h:okP j x)(hj:j≤k)(hk:k≤480000):okP k x:=by
 obtain⟨p,rfl,bp,rp⟩:=dz h
 exact auN (bG hj hk)
theorem ck{j k:Nat}{c:BCU}(h:okC j c)(hj:j≤k)(hk:k≤480000):okC k c:=⟨h.1,h.2.1,db h.2.2.1 hj hk,db h.2.2.2 hj hk⟩
end Go.Proofs.YtgddhgcjmddjfaaGreat
end
