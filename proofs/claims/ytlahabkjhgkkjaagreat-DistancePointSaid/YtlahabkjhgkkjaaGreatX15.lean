/- Lines and circles: the reference's contracts. -/
import Derived.Test.YtlahabkjhgkkjaaGreatX14
import Derived.Test.YtlahabkjhgkkjaaGreatX12
noncomputable section
namespace Go.Proofs.YtlahabkjhgkkjaaGreat
open Go.RowKit Go.IntKind
theorem avI:type_of% @Rat.div_mul_cancel:=@Rat.div_mul_cancel
theorem avZ:type_of% @not_false_eq_true:=@not_false_eq_true
theorem av2:type_of% @Bool.eq_iff_iff:=@Bool.eq_iff_iff
def o9(l:Ln)(p:Pt):Rt:=mkR (mN l p) (mz l p) p.2.2.2.2
def rm(c:Ln)(p:Pt):Rt:=arT (sqP p (ctr c)) (-c.2.2)
instance asE {r:Rt} {a:Rat} [h:Rdd r]:Rdd (arT r a):=⟨h.rd⟩
instance aaq {l:Ln} {p:Pt} [h:Rpd p]:Rdd (o9 l p):=by
 have:Nn p.2.2.2.2:=inferInstance
 exact mR
instance ash {l:Ln} {p:Pt} {i j:Nat} [h:Bd l i] [h':Bd p j]:Bd (o9 l p) (5*i+5*j+5):=by
 have a1:Bd (mN l p) _:=inferInstance
 have a2:Bd (mz l p) _:=inferInstance
 have a3:Bd (mkR (mN l p) (mz l p) p.2.2.2.2) _:=inferInstance
 exact a3.mono (by omega)
theorem Y7{l:Ln}{p:Pt}[h:Rpd p]:sgR (o9 l p)=oe l p:=by
 unfold oe
 rw[Gj (aaq (l:=l) (p:=p)).nn,RE.sgn2_re h.nn]
 unfold o9
 rw[RE.vR_mk]
namespace RE
theorem Yo(a b q:RE):a+ -q+b=a+b-q:=by
 induction a using at5
 induction b using at5
 induction q using at5
 exact snd fun n=>by
  simp only[RL.add,RL.neg]
  grind
theorem abt(a b q:RE):a-q+b=a+b-q:=by
 induction a using at5
 induction b using at5
 induction q using at5
 exact snd fun n=>by
  simp only[RL.add,RL.neg]
  grind
theorem shift_l(a b d q:RE)(h:a+b=a+d):a+ -q+b=a-q+d:=by
 rw[Yo,abt,h]
end RE
theorem Zq{c:Ln}{p:Pt}[h:Rpd p]: -sgR (rm c p)=lT c p:=by
 unfold lT
 have hr:Rdd (rm c p):=inferInstanceAs (Rdd (arT (sqP p (ctr c)) (-c.2.2)))
 rw[Gj hr.nn,RE.sgn2_re h.nn]
 have e:RE.vR (rm c p)=RE.v2 (sqA p (ctr c)-c.2.2) (sqB p (ctr c)) p.2.2.2.2:=by
  have e1:=RE.vR_co (sqA p (ctr c)) (sqB p (ctr c)) p.2.2.2.2
  unfold RE.vR RE.v2 at e1
  unfold rm arT sqP RE.vR RE.v2
  simp only
  rw[RE.of_add,RE.of_neg,RE.of_sub]
  have e2:RE.of (coR (sqA p (ctr c)) (sqB p (ctr c)) p.2.2.2.2).1=RE.of (sqA p (ctr c)):=by
   unfold coR
   cases decide (sqB p (ctr c)=0)<;>rfl
  rw[e2]at e1 ⊢
  exact RE.shift_l _ _ _ _ e1
 rw[e]
theorem wk{q:Rat}(h:q≠0):aU q 0=if 0<q then 1 else-1:=by
 rcases(by grind:q<0∨0<q)with h'|h'
 ·rw[c9 h',aus (by grind)]
 ·rw[cX h',auw h']
def B8:aN:=spN false true [tR,tR] (fun x=>decide (fh x.1 x.2.1)) (fun x=>[RV.d tR (hid (ag (ae x.1/ae x.2.1))),RV.d axf 0])
theorem yd:SpK 217 B8:=spX fun x h=>by simp only[aj];exact DP x.1 x.2.1 (at6 h)
def pz:aN:=spN false true [tR,tR,tR] (fun x=>decide (ok Rat 100000 x.1∧ok Rat 100000 x.2.1∧ok Rat 100000 x.2.2.1∧0≤ae x.2.2.1)) (fun x=>[RV.d tO (hid (enc (mkR (ae x.1) (ae x.2.1) (ae x.2.2.1)))),RV.d axf 0])
theorem nQ:SpK 49 pz:=spX fun x h=>by simp only[aj];exact WR x.1 x.2.1 x.2.2.1 (at6 h)
def lA:Env:=[(78,fu),(50,gQ),(127,iw),(161,iu),(132,gL),(107,jw),(124,jD),(217,B8),(49,pz),(266,An),(54,ui)]
theorem gz:EnvAll Tryz.prog lA:=⟨dW,fq,fT,fS,fk,gG,gH,yd,nQ,xU,sP,trivial⟩
def aiz:Ctx:=CX lA []
def Wt(a:BR)(_k:KT):Option (List RV):=match decide (okR a∧okR a)with|true=>some [RV.d tR (hid (ag (ae a*ae a)))]|false=>none
theorem akw(a:BR):RS aiz 162 [.d tR a] (Wt a):=rsX
theorem VN(a:BR)(h:okR a):Con Tryz.prog 162 [.d tR a] [.d tR (ag (ae a*ae a))]:=by
 refine aP gz (akw _ ⟨0,?_⟩)
 unfold Wt
 rw[dT ⟨h,h⟩]
 simp only[aj]
def ajl:Ctx:=CX lA []
def WO(a b:BR)(_k:KT):Option (List RV):=match decide (okR a∧okR b)with|true=>some [RV.d tR (hid (ag (ae a+ae b)))]|false=>none
theorem akj(a b:BR):RS ajl 140 [.d tR a,.d tR b] (WO a b):=rsX
theorem O6(a b:BR)(h:okR a∧okR b):Con Tryz.prog 140 [.d tR a,.d tR b] [.d tR (ag (ae a+ae b))]:=by
 refine aP gz (akj _ _ ⟨0,?_⟩)
 unfold WO
 rw[dT h]
 simp only[aj]
def ahv:Ctx:=CX lA []
def WH(a b:BR)(_k:KT):Option (List RV):=match decide (okR a∧okR b)with|true=>some [RV.d tR (hid (ag (ae a-ae b)))]|false=>none
theorem ajA(a b:BR):RS ahv 143 [.d tR a,.d tR b] (WH a b):=rsX
theorem Qt(a b:BR)(h:okR a∧okR b):Con Tryz.prog 143 [.d tR a,.d tR b] [.d tR (ag (ae a-ae b))]:=by
 refine aP gz (ajA _ _ ⟨0,?_⟩)
 unfold WH
 rw[dT h]
 simp only[aj]
def agL:Ctx:=CX lA []
def O5(a b:BR)(_k:KT):Option (List RV):=match decide (okR a∧okR b)with|true=>some [RV.d tR (hid (ag (ae a*ae b)))]|false=>none
theorem ajB(a b:BR):RS agL 141 [.d tR a,.d tR b] (O5 a b):=rsX
theorem Wa(a b:BR)(h:okR a∧okR b):Con Tryz.prog 141 [.d tR a,.d tR b] [.d tR (ag (ae a*ae b))]:=by
 refine aP gz (ajB _ _ ⟨0,?_⟩)
 unfold O5
 rw[dT h]
 simp only[aj]
def ai0:Ctx:=CX lA []
def Oy(a b:BR)(_k:KT):Option (List RV):=match decide (fh a b)with|true=>some [RV.d tR (hid (ag (ae a/ae b)))]|false=>none
theorem ahz(a b:BR):RS ai0 142 [.d tR a,.d tR b] (Oy a b):=rsX
theorem QP(a b:BR)(h:fh a b):Con Tryz.prog 142 [.d tR a,.d tR b] [.d tR (ag (ae a/ae b))]:=by
 refine aP gz (ahz _ _ ⟨0,?_⟩)
 unfold Oy
 rw[dT h]
 simp only[aj]
def I6:aN:=spN false true [tR] (fun x=>decide (okR x.1)) (fun x=>[RV.d tR (hid (ag (ae x.1*ae x.1)))])
theorem Lg:SpK 162 I6:=spX fun x h=>by simp only[aj];exact VN x.1 (at6 h)
def tk:aN:=spN false true [tR,tR] (fun x=>decide (okR x.1∧okR x.2.1)) (fun x=>[RV.d tR (hid (ag (ae x.1+ae x.2.1)))])
theorem qZ:SpK 140 tk:=spX fun x h=>by simp only[aj];exact O6 x.1 x.2.1 (at6 h)
def Bn:aN:=spN false true [tR,tR] (fun x=>decide (okR x.1∧okR x.2.1)) (fun x=>[RV.d tR (hid (ag (ae x.1-ae x.2.1)))])
theorem ya:SpK 143 Bn:=spX fun x h=>by simp only[aj];exact Qt x.1 x.2.1 (at6 h)
def qk:aN:=spN false true [tR,tR] (fun x=>decide (okR x.1∧okR x.2.1)) (fun x=>[RV.d tR (hid (ag (ae x.1*ae x.2.1)))])
theorem nN:SpK 141 qk:=spX fun x h=>by simp only[aj];exact Wa x.1 x.2.1 (at6 h)
def BZ:aN:=spN false true [tR,tR] (fun x=>decide (fh x.1 x.2.1)) (fun x=>[RV.d tR (hid (ag (ae x.1/ae x.2.1)))])
theorem yC:SpK 142 BZ:=spX fun x h=>by simp only[aj];exact QP x.1 x.2.1 (at6 h)
def nV:Env:=(162,I6)::(140,tk)::(143,Bn)::(141,qk)::(142,BZ)::lA
theorem jm:EnvAll Tryz.prog nV:=⟨Lg,qZ,ya,nN,yC,gz⟩
def air:Ctx:=CX nV []
def OU(r:BO3)(_k:KT):Option (List RV):=match decide (okR r.1)with|true=>(match decide (okR r.2.1)with|true=>(match decide (okR (hid (ag (ae r.2.1*ae r.2.1)))∧okR r.2.2)with|true=>(match decide (okR (hid (ag (ae r.1*ae r.1)))∧okR (hid (ag (ae (hid (ag (ae r.2.1*ae r.2.1)))*ae r.2.2))))with|true=>some [RV.d tR (hid (ag (ae (hid (ag (ae r.1*ae r.1)))-ae (hid (ag (ae (hid (ag (ae r.2.1*ae r.2.1)))*ae r.2.2))))))]|false=>none)|false=>none)|false=>none)|false=>none
theorem agP(r:BO3):RS air 79 [.d tO r] (OU r):=rsX
theorem P0(r:BO3)(h:ok Rt 90000 r):Con Tryz.prog 79 [.d tO r] [.d tR (ag (noR (dec r)))]:=by
 refine aP jm (agP _ ⟨0,?_⟩)
 have hr:=h
 obtain⟨r,rfl,br⟩:=aS hr
 unfold OU
 simp only[aj,am,aE,aF,aB,az,aW,aua,aub,Nat.reduceAdd,Nat.reduceLeDiff]
 rfl
def alg:Ctx:=CX nV []
def RO(l:BO3)(p:BP)(_k:KT):Option (List RV):=match decide (okR l.1∧okR p.1)with|true=>(match decide (okR l.2.1∧okR p.2.2.1)with|true=>(match decide (okR (hid (ag (ae l.1*ae p.1)))∧okR (hid (ag (ae l.2.1*ae p.2.2.1))))with|true=>(match decide (okR (hid (ag (ae (hid (ag (ae l.1*ae p.1)))+ae (hid (ag (ae l.2.1*ae p.2.2.1))))))∧okR l.2.2)with|true=>(match decide (okR l.1∧okR p.2.1)with|true=>(match decide (okR l.2.1∧okR p.2.2.2.1)with|true=>(match decide (okR (hid (ag (ae l.1*ae p.2.1)))∧okR (hid (ag (ae l.2.1*ae p.2.2.2.1))))with|true=>(match decide (ok Rat 100000 (hid (ag (ae (hid (ag (ae (hid (ag (ae l.1*ae p.1)))+ae (hid (ag (ae l.2.1*ae p.2.2.1))))))-ae l.2.2)))∧ok Rat 100000 (hid (ag (ae (hid (ag (ae l.1*ae p.2.1)))+ae (hid (ag (ae l.2.1*ae p.2.2.2.1))))))∧ok Rat 100000 p.2.2.2.2∧0≤ae p.2.2.2.2)with|true=>some [RV.d tO (hid (enc (mkR (ae (hid (ag (ae (hid (ag (ae (hid (ag (ae l.1*ae p.1)))+ae (hid (ag (ae l.2.1*ae p.2.2.1))))))-ae l.2.2)))) (ae (hid (ag (ae (hid (ag (ae l.1*ae p.2.1)))+ae (hid (ag (ae l.2.1*ae p.2.2.2.1))))))) (ae p.2.2.2.2))))]|false=>none)|false=>none)|false=>none)|false=>none)|false=>none)|false=>none)|false=>none)|false=>none
theorem ah1(l:BO3)(p:BP):RS alg 121 [.d tO l,.d tP p] (RO l p):=rsX
theorem TU(l:BO3)(p:BP)(h:ok Ln 300 l∧okP 4000 p):Con Tryz.prog 121 [.d tO l,.d tP p] [.d tO (enc (o9 (dec l) (dec p)))]:=by
 refine aP jm (ah1 _ _ ⟨0,?_⟩)
 obtain⟨hl,hp⟩:=h
 obtain⟨l,rfl,bl⟩:=aS hl
 obtain⟨p,rfl,bp,rp⟩:=bz hp
 have hn:0≤p.2.2.2.2:=rp.nn
 unfold RO
 simp only[aj,am,aE,aF,aB,az,aC,aW,aua,aub,Nat.reduceAdd,Nat.reduceLeDiff,dT hn]
 rfl
def agE:Ctx:=CX nV []
def OR(c:BO3)(p:BP)(_k:KT):Option (List RV):=match decide (okP 3500 p∧ok (Rat×Rat) 300 (c.1,c.2.1))with|true=>(match decide (okR c.2.2)with|true=>(match decide (ok Rt 100000 (hid (enc (sqP (dec p) (dec (c.1,c.2.1)))))∧ok Rat 100000 (hid (ag (-ae c.2.2))))with|true=>some [RV.d tO (hid (enc (arT (dec (hid (enc (sqP (dec p) (dec (c.1,c.2.1)))))) (ae (hid (ag (-ae c.2.2)))))))]|false=>none)|false=>none)|false=>none
theorem aiP(c:BO3)(p:BP):RS agE 228 [.d tO c,.d tP p] (OR c p):=rsX
theorem PP(c:BO3)(p:BP)(h:ok Ln 300 c∧okP 3500 p):Con Tryz.prog 228 [.d tO c,.d tP p] [.d tO (enc (rm (dec c) (dec p)))]:=by
 refine aP jm (aiP _ _ ⟨0,?_⟩)
 obtain⟨hc,hp⟩:=h
 obtain⟨c,rfl,bc⟩:=aS hc
 obtain⟨p,rfl,bp,rp⟩:=bz hp
 have e0:(dec ((ag c.1,ag c.2.1):BV):Rat×Rat)=ctr c:=am (ctr c)
 have e1:decide (ok (Rat×Rat) 300 ((ag c.1,ag c.2.1):BV))=true:=okd (x:=ctr c) (by decide) (by decide)
 unfold OR
 simp only[aj,am,aE,aF,aB,az,okd,aC,aW,aua,aub,mx,Nat.reduceAdd,Nat.reduceMul,Nat.reduceLeDiff,auf,cond_true,aZ,e0,e1]
 rfl
def ajt:Ctx:=CX nV []
def U2(l:BO3)(v:BV)(_k:KT):Option (List RV):=let y1:=hid (ag (ae l.1*ae l.1));let y2:=hid (ag (ae l.2.1*ae l.2.1));let y3:=hid (ag (ae l.1*ae v.1));let y4:=hid (ag (ae l.2.1*ae v.2));let y5:=hid (ag (ae y3+ae y4));let y6:=hid (ag (ae l.2.2-ae y5));let y7:=hid (ag (ae y1+ae y2));let y8:=hid (ag (ae y6/ae y7));let y9:=hid (ag (ae y8*ae l.1));let y10:=hid (ag (ae y8*ae l.2.1));match decide (okR l.1∧okR l.1)with|true=>(match decide (okR l.2.1∧okR l.2.1)with|true=>(match decide (okR y1∧okR y2)with|true=>(match decide (okR l.1∧okR v.1)with|true=>(match decide (okR l.2.1∧okR v.2)with|true=>(match decide (okR y3∧okR y4)with|true=>(match decide (okR l.2.2∧okR y5)with|true=>(match decide (fh y6 y7)with|true=>(match decide (okR y8∧okR l.1)with|true=>(match decide (okR v.1∧okR y9)with|true=>(match decide (okR y8∧okR l.2.1)with|true=>(match decide (okR v.2∧okR y10)with|true=>some [RV.d tV (hid (ag (ae v.1+ae y9)),hid (ag (ae v.2+ae y10)))]|false=>none)|false=>none)|false=>none)|false=>none)|false=>none)|false=>none)|false=>none)|false=>none)|false=>none)|false=>none)|false=>none)|false=>none
theorem ajw(l:BO3)(v:BV):RS ajt 55 [.d tO l,.d tV v] (U2 l v):=rsX
theorem Q4(l:BO3)(v:BV)(h:ok Ln 300 l∧ok (Rat×Rat) 200 v∧((dec l:Ln).1≠0∨(dec l:Ln).2.1≠0)):Con Tryz.prog 55 [.d tO l,.d tV v] [.d tV (enc (gn (dec l) (dec v)))]:=by
 refine aP jm (ajw _ _ ⟨0,?_⟩)
 obtain⟨hl,hv,h0⟩:=h
 obtain⟨l,rfl,bl⟩:=aS hl
 obtain⟨v,rfl,bv⟩:=aS hv
 have hn:l.1*l.1+l.2.1*l.2.1≠0:=kX (by rw[am]at h0;exact h0)
 have e:(l.2.2-(l.1*v.1+l.2.1*v.2))/(l.1*l.1+l.2.1*l.2.1)= -pj l v:=by
  unfold pj
  grind
 unfold U2
 simp only[aj,am,aE,aF,aB,az,aW,aD,aua,aub,Nat.reduceAdd,Nat.reduceLeDiff,hn,ne_eq,avZ]
 unfold gn
 rw[e,show v.1+ -pj l v*l.1=v.1-pj l v*l.1 by grind,show v.2+ -pj l v*l.2.1=v.2-pj l v*l.2.1 by grind]
 rfl
def Jt:aN:=spN false true [tO] (fun x=>decide (ok Rt 90000 x.1)) (fun x=>[RV.d tR (hid (ag (noR (dec x.1))))])
theorem Lb:SpK 79 Jt:=spX fun x h=>by simp only[aj];exact P0 x.1 (at6 h)
def AD:aN:=spN false true [tO,tP] (fun x=>decide (ok Ln 300 x.1∧okP 4000 x.2.1)) (fun x=>[RV.d tO (hid (enc (o9 (dec x.1) (dec x.2.1))))])
theorem zb:SpK 121 AD:=spX fun x h=>by simp only[aj];exact TU x.1 x.2.1 (at6 h)
def J4:aN:=spN false true [tO,tP] (fun x=>decide (ok Ln 300 x.1∧okP 3500 x.2.1)) (fun x=>[RV.d tO (hid (enc (rm (dec x.1) (dec x.2.1))))])
theorem Kv:SpK 228 J4:=spX fun x h=>by simp only[aj];exact PP x.1 x.2.1 (at6 h)
def AJ:aN:=spN false true [tO,tV] (fun x=>decide (ok Ln 300 x.1∧ok (Rat×Rat) 200 x.2.1∧((dec x.1:Ln).1≠0∨(dec x.1:Ln).2.1≠0))) (fun x=>[RV.d tV (hid (enc (gn (dec x.1) (dec x.2.1))))])
theorem zw:SpK 55 AJ:=spX fun x h=>by simp only[aj];exact Q4 x.1 x.2.1 (at6 h)
def z8:Env:=(79,Jt)::(121,AD)::(228,J4)::(55,AJ)::nV
theorem wN:EnvAll Tryz.prog z8:=⟨Lb,zb,Kv,zw,jm⟩
def aiU:Ctx:=CX z8 []
def So(r:BO3)(_k:KT):Option (List RV):=match decide (okR r.1)with|true=>(match decide (okR r.2.1)with|true=>(match(aU (ae r.1) 0)==(aU (ae r.2.1) 0)with|true=>some [RV.d axf (aU (ae r.1) 0)]|false=>(match(aU (ae r.2.1) 0)==0 with|true=>some [RV.d axf (aU (ae r.1) 0)]|false=>(match(aU (ae r.1) 0)==0 with|true=>some [RV.d axf (aU (ae r.2.1) 0)]|false=>(match decide (ok Rt 90000 r)with|true=>(match decide (okR (hid (ag (noR (dec r)))))with|true=>(match decide ((aU (ae (hid (ag (noR (dec r))))) 0)>0)with|true=>some [RV.d axf (aU (ae r.1) 0)]|false=>some [RV.d axf (aU (ae r.2.1) 0)])|false=>none)|false=>none))))|false=>none)|false=>none
theorem aiE(r:BO3):RS aiU 18 [.d tO r] (So r):=rsX
theorem SH(r:BO3)(h:okT 90000 r):Con Tryz.prog 18 [.d tO r] [.d axf (sgR (dec r))]:=by
 refine aP wN (aiE _ ⟨0,?_⟩)
 have hr:=h
 obtain⟨r,rfl,br,rr⟩:=fa hr
 unfold So
 simp only[aj,am,aE,aF,aB,az,okd,aW,Nat.reduceAdd,Nat.reduceMul,Nat.reduceLeDiff,aI,aL]
 rw[afF rr]
 by_cases hb:r.2.1=0
 ·rw[at7 hb,hb,dH]
  by_cases ha:aU r.1 0=0
  ·rw[ha];rfl
  ·rw[show(aU r.1 0==0)=false by simp[ha]];rfl
 ·have hn:=aiG rr hb
  have e2:=wk hn
  have hb2:=wk hb
  rw[at9 hb,show(aU r.2.1 0==0)=false by rw[aI,at9 hb]]
  by_cases ha:r.1=0
  ·rw[at7 ha,ha,dH,show((0:Int)==aU r.2.1 0)=false by rw[hb2];split<;>rfl]
   rfl
  ·have ha2:=wk ha
   rw[at9 ha,show(aU r.1 0==0)=false by rw[aI,at9 ha]]
   cases hq:(aU r.1 0==aU r.2.1 0)
   ·have hne:aU r.1 0≠aU r.2.1 0:=by simpa using hq
    rw[e2]
    by_cases hp:0<noR r
    ·rw[at7 hp,auw hp,av9]
     rfl
    ·rw[at9 hp,aus hp]
     show some [RV.d axf (aU r.2.1 0)]=some [RV.d axf (aU r.1 0* -1)]
     rw[show aU r.2.1 0=aU r.1 0* -1 by
      rw[ha2,hb2]at hne ⊢
      split at hne<;>split at hne<;>simp_all]
   ·rfl
def Iz:aN:=spN true true [tO] (fun x=>decide (okT 90000 x.1)) (fun x=>[RV.d axf (sgR (dec x.1))])
theorem Mq:SpK 18 Iz:=spX fun x h=>SH x.1 (at6 h)
def B9:Env:=(18,Iz)::z8
theorem uS:EnvAll Tryz.prog B9:=⟨Mq,wN⟩
def ag6:Ctx:=CX B9 []
def OP(l:BO3)(p:BP)(_k:KT):Option (List RV):=match decide (ok Ln 300 l∧okP 4000 p)with|true=>(match decide (okT 90000 (hid (enc (o9 (dec l) (dec p)))))with|true=>some [RV.d axf (sgR (dec (hid (enc (o9 (dec l) (dec p))))))]|false=>none)|false=>none
theorem ah4(l:BO3)(p:BP):RS ag6 164 [.d tO l,.d tP p] (OP l p):=rsX
theorem Sy(l:BO3)(p:BP)(h:ok Ln 300 l∧okP 4000 p):Con Tryz.prog 164 [.d tO l,.d tP p] [.d axf (oe (dec l) (dec p))]:=by
 refine aP uS (ah4 _ _ ⟨0,?_⟩)
 obtain⟨hl,hp⟩:=h
 obtain⟨l,rfl,bl⟩:=aS hl
 obtain⟨p,rfl,bp,rp⟩:=bz hp
 unfold OP
 simp only[aj,am,okd,aua,aub,Nat.reduceAdd,Nat.reduceMul,Nat.reduceLeDiff,a9,aZ]
 rw[Y7]
def ajr:Ctx:=CX B9 []
def TG(c:BO3)(p:BP)(_k:KT):Option (List RV):=match decide (ok Ln 300 c∧okP 3500 p)with|true=>(match decide (okT 90000 (hid (enc (rm (dec c) (dec p)))))with|true=>some [RV.d axf (i64.wrap (0-(sgR (dec (hid (enc (rm (dec c) (dec p))))))))]|false=>none)|false=>none
theorem ajK(c:BO3)(p:BP):RS ajr 163 [.d tO c,.d tP p] (TG c p):=rsX
theorem S7(c:BO3)(p:BP)(h:ok Ln 300 c∧okP 3500 p):Con Tryz.prog 163 [.d tO c,.d tP p] [.d axf (lT (dec c) (dec p))]:=by
 refine aP uS (ajK _ _ ⟨0,?_⟩)
 obtain⟨hc,hp⟩:=h
 obtain⟨c,rfl,bc⟩:=aS hc
 obtain⟨p,rfl,bp,rp⟩:=bz hp
 have hr:Rdd (rm c p):=inferInstanceAs (Rdd (arT (sqP p (ctr c)) (-c.2.2)))
 have br:Bd (rm c p) 90000:=(inferInstance:Bd (arT (sqP p (ctr c)) (-c.2.2)) _).mono (by decide)
 have hb: -1≤sgR (rm c p)∧sgR (rm c p)≤1:=jN _ _ _
 unfold TG
 simp only[aj,am,okd,aua,aub,Nat.reduceLeDiff,a9,aZ,av7,bj (x:= -sgR (rm c p)) (by omega) (by omega)]
 rw[Zq]
def Ip:aN:=spN true true [tO,tP] (fun x=>decide (ok Ln 300 x.1∧okP 4000 x.2.1)) (fun x=>[RV.d axf (oe (dec x.1) (dec x.2.1))])
theorem KA:SpK 164 Ip:=spX fun x h=>Sy x.1 x.2.1 (at6 h)
def Kq:aN:=spN true true [tO,tP] (fun x=>decide (ok Ln 300 x.1∧okP 3500 x.2.1)) (fun x=>[RV.d axf (lT (dec x.1) (dec x.2.1))])
theorem MG:SpK 163 Kq:=spX fun x h=>S7 x.1 x.2.1 (at6 h)
abbrev tCU:Ty:=.st (.pair .bool (.pair tO (.pair tO (.pair .bool (.pair tP tP)))))
abbrev BCU:=Bool×BO3×BO3×Bool×BP×BP
abbrev Cv:=Bool×Ln×Ln×Bool×Pt×Pt
def dC(c:BCU):Cv:=(c.1,dec c.2.1,dec c.2.2.1,c.2.2.2.1,dec c.2.2.2.2.1,dec c.2.2.2.2.2)
def kY(x:BO3):Prop:=ok Ln 300 x∧(0:Rat)<(dec x:Ln).2.2
instance (x:BO3):Decidable (kY x):=by unfold kY;infer_instance
def Vo(x:BO3):Prop:=ok Ln 300 x∧((dec x:Ln).1≠0∨(dec x:Ln).2.1≠0)
instance (x:BO3):Decidable (Vo x):=by unfold Vo;infer_instance
def okC(k:Nat)(c:BCU):Prop:=(c.1=true→kY c.2.2.1)∧(c.1=false→Vo c.2.1)∧okP k c.2.2.2.2.1∧okP k c.2.2.2.2.2
instance (k:Nat) (c:BCU):Decidable (okC k c):=by unfold okC;infer_instance
def frC(c:Cv):Pt:=c.2.2.2.2.1
def toC(c:Cv):Pt:=c.2.2.2.2.2
def lnC(c:Cv):Ln:=c.2.1
def ciC(c:Cv):Ln:=c.2.2.1
def cwC(c:Cv):Bool:=c.2.2.2.1
def im(c:Cv)(p:Pt):Bool:=bif c.1 then lT (ciC c) p==0 else oe (lnC c) p==0
def upR(c:Ln)(p:Pt):Bool:=decide (eu (yP p) c.2.1>0)||(eu (yP p) c.2.1==0&&decide (eu (xP p) c.1>0))
def ptd(c:Ln)(p:Pt):Bool×Rt:=(upR c p,xP p)
def A9(c:Ln)(p:Pt):Int:=bif upR c p then 0 else 1
def ccF(c:Cv):Pt:=bif cwC c then toC c else frC c
def ccT(c:Cv):Pt:=bif cwC c then frC c else toC c
def QR(c:Cv)(p:Pt):Bool:=bif c.1 then decide (wB bG (ptd (ciC c) (ccF c)) (ptd (ciC c) p) (ptd (ciC c) (ccT c))≤0)else wy (cj (frC c) p) (cj p (toC c))
def onP(c:Cv)(p:Pt):Bool:=im c p&&QR c p
def jj(c:BCU):BCU:=(c.1,c.2.1,c.2.2.1,c.1&&!c.2.2.2.1,c.2.2.2.2.2,c.2.2.2.2.1)
def mf(c:BCU):BCU:=bif c.2.2.2.1 then jj c else c
def flP(p:Pt):Pt:=(-p.1,-p.2.1,p.2.2.1,p.2.2.2.1,p.2.2.2.2)
def flC(c:Ln):Ln:=(-c.1,c.2.1,c.2.2)
def dR(c:Cv)(p q:Pt):Int:=bif c.1 then(bif cwC c then sL bG (ptd (flC (ciC c)) (flP (frC c))) (ptd (flC (ciC c)) (flP p)) (ptd (flC (ciC c)) (flP q))else sL bG (ptd (ciC c) (frC c)) (ptd (ciC c) p) (ptd (ciC c) q))
 else(bif decide (cj (frC c) (toC c)>0)then-cj p q else cj p q)
def onR(c:Cv)(p:Pt):Bool:=im c p&&(decide (dR c (frC c) p≤0)&&decide (dR c p (toC c)≤0))
theorem MV(k:Nat){c:BCU}(h:okC k c):okC k (jj c):=⟨h.1,h.2.1,h.2.2.2,h.2.2.1⟩
theorem aa9(p q:Pt): -1≤cj p q∧cj p q≤1:=by
 unfold cj
 cases bG (xP p) (xP q)==0
 ·exact t7 _ _
 ·exact t7 _ _
theorem H8{p q:Bool×Rt}:0≤mS bG p q∧mS bG p q≤2:=by
 unfold mS
 cases n8 bG q p==0<;>cases decide (n8 bG q p>0)<;>simp only[cond_true,cond_false]<;>omega
def th(c:BCU):BCU:=(c.1,c.2.1,(ag (-ae c.2.2.1.1),c.2.2.1.2),!c.2.2.2.1,enc (flP (dec c.2.2.2.2.1)),enc (flP (dec c.2.2.2.2.2)))
instance atG {p:Pt} [h:Rpd p]:Rpd (flP p):=by
 refine⟨?_⟩
 have:=h.rd
 unfold Hr flP at*
 simp only
 have e:(-p.2.1=0)↔p.2.1=0:=by constructor<;>intro h<;>grind
 rw[e]
 exact this
instance atH {p:Pt} {j:Nat} [h:Bd p j]:Bd (flP p) j:=by
 have i1:Bd ((-p.1,-p.2.1,p.2.2.1,p.2.2.2.1,p.2.2.2.2):Pt) _:=inferInstance
 exact i1.mono (cM (by omega) (cM (by omega) (cM (by omega) (cM (by omega) (by omega)))))
theorem ng{j k:Nat}{x:BP}(h:okP j x)(hj:j≤k)(hk:k≤480000):okP k x:=by
 obtain⟨p,rfl,bp,rp⟩:=bz h
 exact at6 (aZ hj hk)
theorem LI{j k:Nat}{c:BCU}(h:okC j c)(hj:j≤k)(hk:k≤480000):okC k c:=⟨h.1,h.2.1,ng h.2.2.1 hj hk,ng h.2.2.2 hj hk⟩
theorem Hv{x:BP}(h:okP 4000 x):okP 4000 (enc (flP (dec x))):=by
 obtain⟨p,rfl,bp,rp⟩:=bz h
 rw[am]
 exact at6 (aZ (x:=flP p) (by decide) (by decide))
theorem aiX{x:BO3}(h:ok Ln 300 x):ok Ln 300 ((ag (-ae x.1),x.2):BO3)∧(dec ((ag (-ae x.1),x.2):BO3):Ln)=flC (dec x):=by
 obtain⟨l,rfl,bl⟩:=aS h
 have e:((ag (-ae (enc l:BO3).1),(enc l:BO3).2):BO3)=enc (flC l):=by
  rw[aE,aB,az]
  rfl
 rw[e,am,am]
 refine⟨?_,rfl⟩
 have i1:Bd (flC l) 300:=(inferInstance:Bd ((-l.1,l.2.1,l.2.2):Ln) _).mono (by decide)
 exact at6 (okd (x:=flC l) (auj _) (by decide))
def yg:Env:=[(124,jD),(119,nI),(85,qK),(138,GM),(139,GQ),(96,nX),(164,Ip),(163,Kq)]
theorem mq:EnvAll Tryz.prog yg:=⟨gH,kH,nK,E5,Dk,kr,KA,MG,trivial⟩
def aoR:Ctx:=CX yg []
def afq(c:BCU)(p:BP)(_k:KT):Option (List RV):=match c.1 with|true=>(match decide (ok Ln 300 c.2.2.1∧okP 3500 p)with|true=>some [RV.d .bool ((lT (dec c.2.2.1) (dec p))==0)]|false=>none)|false=>(match decide (ok Ln 300 c.2.1∧okP 4000 p)with|true=>some [RV.d .bool ((oe (dec c.2.1) (dec p))==0)]|false=>none)
theorem arR(c:BCU)(p:BP):RS aoR 80 [.d tCU c,.d tP p] (afq c p):=rsX
theorem Yv(c:BCU)(p:BP)(h:okC 3500 c∧okP 3500 p):Con Tryz.prog 80 [.d tCU c,.d tP p] [.d .bool (im (dC c) (dec p))]:=by
 refine aP mq (arR _ _ ⟨0,?_⟩)
 obtain⟨hc,hp⟩:=h
 have op:decide (okP 3500 p)=true:=at7 hp
 have op4:decide (okP 4000 p)=true:=at7 (ng hp (by decide) (by decide))
 obtain⟨ar,li,ci,cw,fr,to⟩:=c
 obtain⟨c1,c2,_⟩:=hc
 unfold afq
 cases ar
 ·have e:=(c2 rfl).1
  simp only[aua,dT e,op4,aub]
  rfl
 ·have e:=(c1 rfl).1
  simp only[aua,dT e,op,aub]
  rfl
def an5:Ctx:=CX yg []
def aew(c:BO3)(p:BP)(_k:KT):Option (List RV):=match decide (okP 4000 p)with|true=>(match decide (okT 15000 (hid (enc (yP (dec p))))∧ok Rat 15000 c.2.1)with|true=>(match decide ((eu (dec (hid (enc (yP (dec p))))) (ae c.2.1))>0)with|true=>some [RV.d .bool true]|false=>(match(eu (dec (hid (enc (yP (dec p))))) (ae c.2.1))==0 with|true=>(match decide (okP 4000 p)with|true=>(match decide (okT 15000 (hid (enc (xP (dec p))))∧ok Rat 15000 c.1)with|true=>some [RV.d .bool (decide ((eu (dec (hid (enc (xP (dec p))))) (ae c.1))>0))]|false=>none)|false=>none)|false=>some [RV.d .bool false]))|false=>none)|false=>none
theorem amr(c:BO3)(p:BP):RS an5 267 [.d tO c,.d tP p] (aew c p):=rsX
theorem Ye(c:BO3)(p:BP)(h:ok Ln 300 c∧okP 4000 p):Con Tryz.prog 267 [.d tO c,.d tP p] [.d .bool (upR (dec c) (dec p))]:=by
 refine aP mq (amr _ _ ⟨0,?_⟩)
 obtain⟨hc,hp⟩:=h
 obtain⟨c,rfl,bc⟩:=aS hc
 obtain⟨p,rfl,bp,rp⟩:=bz hp
 unfold aew upR
 simp only[aj,am,aE,aF,aB,az,aC,aua,aub,mx,Nat.reduceLeDiff,auf,cond_true,a9,aZ]
 cases decide (eu (yP p) c.2.1>0)<;>cases eu (yP p) c.2.1==0<;>rfl
def api:Ctx:=CX yg []
def af1(p:BP)(_k:KT):Option (List RV):=match decide (okR p.1)with|true=>(match decide (okR p.2.1)with|true=>some [RV.d tP (hid (ag (-ae p.1)),(hid (ag (-ae p.2.1)),p.2.2))]|false=>none)|false=>none
theorem aqq(p:BP):RS api 167 [.d tP p] (af1 p):=rsX
theorem abG(p:BP)(h:okP 4000 p):Con Tryz.prog 167 [.d tP p] [.d tP (enc (flP (dec p)))]:=by
 refine aP mq (aqq _ ⟨0,?_⟩)
 have hp:=h
 obtain⟨p,rfl,bp,rp⟩:=bz hp
 unfold af1
 simp only[aj,am,aE,aF,aB,az,aW,Nat.reduceLeDiff]
 rfl
def app:Ctx:=CX yg []
def al7(c:BCU)(_k:KT):Option (List RV):=match c.1 with|true=>some [RV.d tCU (c.1,(c.2.1,(c.2.2.1,(!c.2.2.2.1,(c.2.2.2.2.2,c.2.2.2.2.1)))))]|false=>some [RV.d tCU (c.1,(c.2.1,(c.2.2.1,(false,(c.2.2.2.2.2,c.2.2.2.2.1)))))]
theorem ame(c:BCU):RS app 17 [.d tCU c] (al7 c):=rsX
theorem aa6(c:BCU):Con Tryz.prog 17 [.d tCU c] [.d tCU (jj c)]:=by
 refine aP mq (ame _ ⟨0,?_⟩)
 obtain⟨ar,li,ci,cw,fr,to⟩:=c
 cases ar<;>rfl
def Xw:aN:=spN true true [tCU,tP] (fun x=>decide (okC 3500 x.1∧okP 3500 x.2.1)) (fun x=>[RV.d .bool (im (dC x.1) (dec x.2.1))])
theorem NJ:SpK 80 Xw:=spX fun x h=>Yv x.1 x.2.1 (at6 h)
def Qk:aN:=spN true true [tO,tP] (fun x=>decide (ok Ln 300 x.1∧okP 4000 x.2.1)) (fun x=>[RV.d .bool (upR (dec x.1) (dec x.2.1))])
theorem Ni:SpK 267 Qk:=spX fun x h=>Ye x.1 x.2.1 (at6 h)
def TE:aN:=spN false true [tP] (fun x=>decide (okP 4000 x.1)) (fun x=>[RV.d tP (hid (enc (flP (dec x.1))))])
theorem XF:SpK 167 TE:=spX fun x h=>by simp only[aj];exact abG x.1 (at6 h)
def uV:aN:=spN false true [tCU] (fun _=>true) (fun x=>[RV.d tCU (hid (jj x.1))])
theorem qo:SpK 17 uV:=spX fun x _=>by simp only[aj];exact aa6 x.1
def Jr:Env:=(80,Xw)::(267,Qk)::(167,TE)::(17,uV)::yg
theorem wh:EnvAll Tryz.prog Jr:=⟨NJ,Ni,XF,qo,mq⟩
def amA:Ctx:=CX Jr []
def adW(c:BO3)(p q:BP)(_k:KT):Option (List RV):=match decide (ok Ln 300 c∧okP 4000 p)with|true=>(match decide (ok Ln 300 c∧okP 4000 q)with|true=>(match !((upR (dec c) (dec p))==(upR (dec c) (dec q)))with|true=>(match upR (dec c) (dec q)with|true=>some [RV.d axf (-1)]|false=>some [RV.d axf 1])|false=>(match decide (okP 4000 p)with|true=>(match decide (okP 4000 q)with|true=>(match decide (okT 15000 (hid (enc (xP (dec p))))∧okT 15000 (hid (enc (xP (dec q)))))with|true=>(match upR (dec c) (dec p)with|true=>some [RV.d axf (i64.wrap (0-(bG (dec (hid (enc (xP (dec p))))) (dec (hid (enc (xP (dec q))))))))]|false=>some [RV.d axf (bG (dec (hid (enc (xP (dec p))))) (dec (hid (enc (xP (dec q))))))])|false=>none)|false=>none)|false=>none))|false=>none)|false=>none
theorem amo(c:BO3)(p q:BP):RS amA 229 [.d tO c,.d tP p,.d tP q] (adW c p q):=rsX
theorem acL(c:BO3)(p q:BP)(h:ok Ln 300 c∧okP 4000 p∧okP 4000 q):Con Tryz.prog 229 [.d tO c,.d tP p,.d tP q] [.d axf (ii bG (ptd (dec c) (dec p)) (ptd (dec c) (dec q)))]:=by
 refine aP wh (amo _ _ _ ⟨0,?_⟩)
 obtain⟨hc,hp,hq⟩:=h
 obtain⟨c,rfl,bc⟩:=aS hc
 obtain⟨p,rfl,bp,rp⟩:=bz hp
 obtain⟨q,rfl,bq,rq⟩:=bz hq
 have xb:=t7 (xP p) (xP q)
 unfold adW
 simp only[aj,am,okd,aua,aub,mx,Nat.reduceLeDiff,auf,cond_true,a9,aZ,bj (x:= -bG (xP p) (xP q)) (by omega) (by omega),av7]
 unfold ii ptd
 cases upR c p<;>cases upR c q<;>rfl
def alC:Ctx:=CX Jr []
def adP(c:BCU)(_k:KT):Option (List RV):=match decide (okR c.2.2.1.1)with|true=>(match decide (okP 4000 c.2.2.2.2.1)with|true=>(match decide (okP 4000 c.2.2.2.2.2)with|true=>some [RV.d tCU (c.1,(c.2.1,((hid (ag (-ae c.2.2.1.1)),c.2.2.1.2),(!c.2.2.2.1,(hid (enc (flP (dec c.2.2.2.2.1))),hid (enc (flP (dec c.2.2.2.2.2))))))))]|false=>none)|false=>none)|false=>none
theorem ami(c:BCU):RS alC 166 [.d tCU c] (adP c):=rsX
theorem X1(c:BCU)(h:kY c.2.2.1∧okP 4000 c.2.2.2.2.1∧okP 4000 c.2.2.2.2.2):Con Tryz.prog 166 [.d tCU c] [.d tCU (th c)]:=by
 refine aP wh (ami _ ⟨0,?_⟩)
 obtain⟨hc,hf,ht⟩:=h
 have e:okR c.2.2.1.1:=by
  obtain⟨l,hl,bl⟩:=aS hc.1
  rw[hl,aE,aB]
  exact at6 (aW (q:=l.1) (by decide))
 unfold adP
 rw[dT e,dT hf,dT ht]
 simp only[aj]
 rfl
def To:aN:=spN true true [tO,tP,tP] (fun x=>decide (ok Ln 300 x.1∧okP 4000 x.2.1∧okP 4000 x.2.2.1)) (fun x=>[RV.d axf (ii bG (ptd (dec x.1) (dec x.2.1)) (ptd (dec x.1) (dec x.2.2.1)))])
theorem Xr:SpK 229 To:=spX fun x h=>acL x.1 x.2.1 x.2.2.1 (at6 h)
def Oq:aN:=spN false true [tCU] (fun x=>decide (kY x.1.2.2.1∧okP 4000 x.1.2.2.2.2.1∧okP 4000 x.1.2.2.2.2.2)) (fun x=>[RV.d tCU (hid (th x.1))])
theorem SK:SpK 166 Oq:=spX fun x h=>by simp only[aj];exact X1 x.1 (at6 h)
def VJ:Env:=(229,To)::(166,Oq)::Jr
theorem ER:EnvAll Tryz.prog VJ:=⟨Xr,SK,wh⟩
def apn:Ctx:=CX VJ []
def adS(c:BO3)(f p q:BP)(_k:KT):Option (List RV):=match decide (ok Ln 300 c∧okP 4000 p∧okP 4000 f)with|true=>(match decide (ok Ln 300 c∧okP 4000 q∧okP 4000 f)with|true=>(match !((decide ((ii bG (ptd (dec c) (dec p)) (ptd (dec c) (dec f)))<0))==(decide ((ii bG (ptd (dec c) (dec q)) (ptd (dec c) (dec f)))<0)))with|true=>(match decide ((ii bG (ptd (dec c) (dec q)) (ptd (dec c) (dec f)))<0)with|true=>some [RV.d axf (-1)]|false=>some [RV.d axf 1])|false=>(match decide (ok Ln 300 c∧okP 4000 p∧okP 4000 q)with|true=>some [RV.d axf (ii bG (ptd (dec c) (dec p)) (ptd (dec c) (dec q)))]|false=>none))|false=>none)|false=>none
theorem aoz(c:BO3)(f p q:BP):RS apn 165 [.d tO c,.d tP f,.d tP p,.d tP q] (adS c f p q):=rsX
theorem XU(c:BO3)(f p q:BP)(h:ok Ln 300 c∧okP 4000 f∧okP 4000 p∧okP 4000 q):Con Tryz.prog 165 [.d tO c,.d tP f,.d tP p,.d tP q] [.d axf (sL bG (ptd (dec c) (dec f)) (ptd (dec c) (dec p)) (ptd (dec c) (dec q)))]:=by
 refine aP ER (aoz _ _ _ _ ⟨0,?_⟩)
 obtain⟨hc,hf,hp,hq⟩:=h
 unfold adS sL
 rw[dT (show ok Ln 300 c∧okP 4000 p∧okP 4000 f from⟨hc,hp,hf⟩),dT (show ok Ln 300 c∧okP 4000 q∧okP 4000 f from⟨hc,hq,hf⟩),dT (show ok Ln 300 c∧okP 4000 p∧okP 4000 q from⟨hc,hp,hq⟩)]
 dsimp only
 cases decide (ii bG (ptd (dec c) (dec p)) (ptd (dec c) (dec f))<0)<;>cases decide (ii bG (ptd (dec c) (dec q)) (ptd (dec c) (dec f))<0)<;>rfl
def SP:aN:=spN true true [tO,tP,tP,tP] (fun x=>decide (ok Ln 300 x.1∧okP 4000 x.2.1∧okP 4000 x.2.2.1∧okP 4000 x.2.2.2.1)) (fun x=>[RV.d axf (sL bG (ptd (dec x.1) (dec x.2.1)) (ptd (dec x.1) (dec x.2.2.1)) (ptd (dec x.1) (dec x.2.2.2.1)))])
theorem PV:SpK 165 SP:=spX fun x h=>XU x.1 x.2.1 x.2.2.1 x.2.2.2.1 (at6 h)
def M4:Env:=(165,SP)::VJ
theorem Eh:EnvAll Tryz.prog M4:=⟨PV,ER⟩
def aqW:Ctx:=CX M4 []
def agm(c:BCU)(p q:BP)(_k:KT):Option (List RV):=match !c.1 with|true=>(match decide (okP 4000 p∧okP 4000 q)with|true=>(match decide (okP 4000 c.2.2.2.2.1∧okP 4000 c.2.2.2.2.2)with|true=>(match decide ((cj (dec c.2.2.2.2.1) (dec c.2.2.2.2.2))>0)with|true=>some [RV.d axf (i64.wrap (0-(cj (dec p) (dec q))))]|false=>some [RV.d axf (cj (dec p) (dec q))])|false=>none)|false=>none)|false=>(match !c.2.2.2.1 with|true=>(match decide (ok Ln 300 c.2.2.1∧okP 4000 c.2.2.2.2.1∧okP 4000 p∧okP 4000 q)with|true=>some [RV.d axf (sL bG (ptd (dec c.2.2.1) (dec c.2.2.2.2.1)) (ptd (dec c.2.2.1) (dec p)) (ptd (dec c.2.2.1) (dec q)))]|false=>none)|false=>(match decide (kY c.2.2.1∧okP 4000 c.2.2.2.2.1∧okP 4000 c.2.2.2.2.2)with|true=>(match decide (okP 4000 p)with|true=>(match decide (okP 4000 q)with|true=>(match decide (ok Ln 300 ((((hid (th c)).2).2).1)∧okP 4000 ((((((hid (th c)).2).2).2).2).1)∧okP 4000 (hid (enc (flP (dec p))))∧okP 4000 (hid (enc (flP (dec q)))))with|true=>some [RV.d axf (sL bG (ptd (dec ((((hid (th c)).2).2).1)) (dec ((((((hid (th c)).2).2).2).2).1))) (ptd (dec ((((hid (th c)).2).2).1)) (dec (hid (enc (flP (dec p)))))) (ptd (dec ((((hid (th c)).2).2).1)) (dec (hid (enc (flP (dec q)))))))]|false=>none)|false=>none)|false=>none)|false=>none))
theorem aor(c:BCU)(p q:BP):RS aqW 81 [.d tCU c,.d tP p,.d tP q] (agm c p q):=rsX
theorem abI(c:BCU)(p q:BP)(h:okC 4000 c∧okP 4000 p∧okP 4000 q):Con Tryz.prog 81 [.d tCU c,.d tP p,.d tP q] [.d axf (dR (dC c) (dec p) (dec q))]:=by
 refine aP Eh (aor _ _ _ ⟨0,?_⟩)
 obtain⟨hc,hp,hq⟩:=h
 have xb:=aa9 (dec p) (dec q)
 obtain⟨ar,li,ci,cw,fr,to⟩:=c
 obtain⟨c1,c2,c3,c4⟩:=hc
 simp only at c1 c2 c3 c4
 unfold agm dR
 cases ar
 ·simp only[av7,bj (x:= -cj (dec p) (dec q)) (by omega) (by omega),dT (show okP 4000 p∧okP 4000 q from⟨hp,hq⟩),dT (show okP 4000 fr∧okP 4000 to from⟨c3,c4⟩),Bool.not_false]
  simp only[dC,frC,toC,cond_false]
  by_cases hd:cj (dec fr) (dec to)>0
  ·simp[hd]
  ·simp[hd]
 ·have e:=(c1 rfl).1
  have hci:=c1 rfl
  obtain⟨f1,f2⟩:=aiX e
  cases cw
  ·simp only[dT (show ok Ln 300 ci∧okP 4000 fr∧okP 4000 p∧okP 4000 q from⟨e,c3,hp,hq⟩),Bool.not_true,Bool.not_false]
   rfl
  ·have hm:ok Ln 300 (th (true,li,ci,true,fr,to)).2.2.1∧okP 4000 (th (true,li,ci,true,fr,to)).2.2.2.2.1∧okP 4000 (enc (flP (dec p)))∧okP 4000 (enc (flP (dec q))):=⟨f1,Hv c3,Hv hp,Hv hq⟩
   have m1:(dec (th (true,li,ci,true,fr,to)).2.2.1:Ln)=flC (dec ci):=f2
   have m2:(dec (th (true,li,ci,true,fr,to)).2.2.2.2.1:Pt)=flP (dec fr):=am _
   simp only[aj,dT (show kY ci∧okP 4000 fr∧okP 4000 to from⟨hci,c3,c4⟩),dT hp,dT hq,dT hm,Bool.not_true,m1,m2,am]
   rfl
def vt:aN:=spN true true [tCU,tP,tP] (fun x=>decide (okC 4000 x.1∧okP 4000 x.2.1∧okP 4000 x.2.2.1)) (fun x=>[RV.d axf (dR (dC x.1) (dec x.2.1) (dec x.2.2.1))])
theorem qI:SpK 81 vt:=spX fun x h=>abI x.1 x.2.1 x.2.2.1 (at6 h)
def af2:Env:=(81,vt)::M4
theorem MS:EnvAll Tryz.prog af2:=⟨qI,Eh⟩
def aqR:Ctx:=CX af2 []
def afy(c:BCU)(p:BP)(_k:KT):Option (List RV):=match decide (okC 3500 c∧okP 3500 p)with|true=>(match im (dC c) (dec p)with|true=>(match decide (okC 4000 c∧okP 4000 c.2.2.2.2.1∧okP 4000 p)with|true=>(match decide ((dR (dC c) (dec c.2.2.2.2.1) (dec p))≤0)with|true=>(match decide (okC 4000 c∧okP 4000 p∧okP 4000 c.2.2.2.2.2)with|true=>some [RV.d .bool (decide ((dR (dC c) (dec p) (dec c.2.2.2.2.2))≤0))]|false=>none)|false=>some [RV.d .bool false])|false=>none)|false=>some [RV.d .bool false])|false=>none
theorem arr(c:BCU)(p:BP):RS aqR 19 [.d tCU c,.d tP p] (afy c p):=rsX
theorem aan(c:BCU)(p:BP)(h:okC 3500 c∧okP 3500 p):Con Tryz.prog 19 [.d tCU c,.d tP p] [.d .bool (onR (dC c) (dec p))]:=by
 refine aP MS (arr _ _ ⟨0,?_⟩)
 obtain⟨hc,hp⟩:=h
 have hc4:=LI (k:=4000) hc (by decide) (by decide)
 have hp4:=ng (k:=4000) hp (by decide) (by decide)
 unfold afy onR
 rw[dT (show okC 3500 c∧okP 3500 p from⟨hc,hp⟩),dT (show okC 4000 c∧okP 4000 c.2.2.2.2.1∧okP 4000 p from⟨hc4,hc4.2.2.1,hp4⟩),dT (show okC 4000 c∧okP 4000 p∧okP 4000 c.2.2.2.2.2 from⟨hc4,hp4,hc4.2.2.2⟩)]
 dsimp only
 cases im (dC c) (dec p)
 ·rfl
 ·show(match decide (dR (dC c) (frC (dC c)) (dec p)≤0)with|true=>some [RV.d .bool (decide (dR (dC c) (dec p) (toC (dC c))≤0))]|false=>some [RV.d .bool false])=_
  cases decide (dR (dC c) (frC (dC c)) (dec p)≤0)<;>rfl
def uo:aN:=spN true true [tCU,tP] (fun x=>decide (okC 3500 x.1∧okP 3500 x.2.1)) (fun x=>[RV.d .bool (onR (dC x.1) (dec x.2.1))])
theorem pP:SpK 19 uo:=spX fun x h=>aan x.1 x.2.1 (at6 h)
section
namespace RE
theorem amB{u v:RE}:cls u v=2↔v=0∧¬0<u:=by
 unfold cls
 rcases bP v with⟨a,h1⟩|⟨a,h1⟩|⟨a,h1⟩<;>rcases bP u with⟨b,h2⟩|⟨b,h2⟩|⟨b,h2⟩<;>rw[h1,h2]
 all_goals first
  |exact⟨fun _=>⟨a,fun h=>by rw[b]at h;exact lt_irrefl _ h⟩,fun _=>rfl⟩
  |exact⟨fun _=>⟨a,fun h=>lt_irrefl _ (dq h b)⟩,fun _=>rfl⟩
  |(refine⟨fun h=>absurd h (by decide),fun h=>?_⟩;first|(rw[h.1]at a;exact absurd a (lt_irrefl _))|exact absurd b h.2)
theorem Li{u v Q:RE}(hQ:0<Q)(h:u*u+v*v=Q)(hv:v=0)(hu:¬0<u):u<0:=by
 rcases ou u 0 with e|e|e
 ·exact e
 ·rw[e,hv,mul_zero,add_zero]at h
  rw[←h]at hQ
  exact absurd hQ (lt_irrefl _)
 ·exact absurd e hu
theorem CC(x y c:RE):((x-(y)))+((y-c-(x-c)))=0:=by
 induction x using at5
 induction y using at5
 induction c using at5
 exact snd fun n=>by
  simp only[RL.add,RL.neg,RL.const]
  grind
theorem LK(x y c:RE)(h1:x-c=y-c):x≤y:=fun hg=>far (aQ (aV hg) (aO (iq h1))) (CC x y c)
theorem DO(x y c:RE):((y-(x)))+((x-c-(y-c)))=0:=by
 induction x using at5
 induction y using at5
 induction c using at5
 exact snd fun n=>by
  simp only[RL.add,RL.neg,RL.const]
  grind
theorem Lq(x y c:RE)(h1:x-c=y-c):y≤x:=fun hg=>far (aQ (aV hg) (aO (jA h1))) (DO x y c)
theorem p6(x y c:RE)(h1:x-c=y-c):x=y:=le_antisymm (LK x y c h1) (Lq x y c h1)
theorem Da(x c:RE): -x- -c= -(x-c):=by
 induction x using at5
 induction c using at5
 exact snd fun n=>by
  simp only[RL.add,RL.neg]
  grind
theorem agI(a b r:RE): -a+ -b*r= -(a+b*r):=by
 induction a using at5
 induction b using at5
 induction r using at5
 exact snd fun n=>by
  simp only[RL.add,RL.mul,RL.neg]
  grind
theorem Gx(x q:RE):((x-(q)))+((0-(x+ -q)))=0:=by
 induction x using at5
 induction q using at5
 exact snd fun n=>by
  simp only[RL.add,RL.neg,RL.const]
  grind
theorem OV(x q:RE)(h1:x+ -q=0):x≤q:=fun hg=>far (aQ (aV hg) (aO (iq h1))) (Gx x q)
theorem Fo(x q:RE):((q-(x)))+((x+ -q-(0)))=0:=by
 induction x using at5
 induction q using at5
 exact snd fun n=>by
  simp only[RL.add,RL.neg,RL.const]
  grind
theorem PJ(x q:RE)(h1:x+ -q=0):q≤x:=fun hg=>far (aQ (aV hg) (aO (jA h1))) (Fo x q)
theorem Kh(x q:RE)(h1:x+ -q=0):x=q:=le_antisymm (OV x q h1) (PJ x q h1)
section
variable {x y x' y' cx cy Q:RE}
end
def onCi(c:Ln)(p:Pt):Prop:=(pX p-of c.1)*(pX p-of c.1)+(pY p-of c.2.1)*(pY p-of c.2.1)=of c.2.2
theorem BC{c:Ln}{p:Pt}[Rpd p](h:lT c p=0):onCi c p:=by
 rw[AS]at h
 exact Kh _ _ (sT.1 (Int.neg_eq_zero.1 h))
theorem ur{c:Ln}{p:Pt}[Rpd p]:upR c p=upA (cls (pX p-of c.1) (pY p-of c.2.1)):=by
 unfold upR
 rw[cmpTR_re Ke,cmpTR_re oz,xA,Y1,ai3]
theorem S8(p:Pt):pX (flP p)= -pX p:=by
 unfold pX flP v2
 rw[of_neg,of_neg]
 exact agI _ _ _
theorem aqI(p:Pt):pY (flP p)=pY p:=rfl
theorem adK{c:Ln}{p:Pt}[h:Rpd p](hQ:0<c.2.2)(hp:onCi c p):upR (flC c) (flP p)=ufA (cls (pX p-of c.1) (pY p-of c.2.1)):=by
 unfold upR
 rw[cmpTR_re Ke,cmpTR_re oz,xA,Y1,S8,aqI]
 show(decide (sg (pY p-of c.2.1)>0)||(sg (pY p-of c.2.1)==0&&decide (sg (-pX p-of (-c.1))>0)))=_
 rw[of_neg,Da,l4]
 exact aiA (i7 hQ) hp
end RE
structure Crv (c:Cv):Prop where
 f:Rpd (frC c)
 t:Rpd (toC c)
 q:c.1=true→0<(ciC c).2.2∧RE.onCi (ciC c) (frC c)∧RE.onCi (ciC c) (toC c)
end
def dZ(l:Ln)(p:Pt):Rt:=mkR (-l.2.1*p.1+l.1*p.2.2.1) (-l.2.1*p.2.1+l.1*p.2.2.2.1) p.2.2.2.2
def oI(c:Cv)(p:Pt):Bool:=
 bif decide (bG (dZ (lnC c) (frC c)) (dZ (lnC c) (toC c))>0)then decide (bG (dZ (lnC c) (toC c)) (dZ (lnC c) p)≤0)&&decide (bG (dZ (lnC c) p) (dZ (lnC c) (frC c))≤0)
 else decide (bG (dZ (lnC c) (frC c)) (dZ (lnC c) p)≤0)&&decide (bG (dZ (lnC c) p) (dZ (lnC c) (toC c))≤0)
def pN(a b:Rt):Rt:=bif decide (bG b a<0)then b else a
def zeV(v:Rat×Rat):Bool:=decide (v.1=0)&&decide (v.2=0)
def xB(c:Ln)(d:Rat×Rat):Pt:=mkP (mkR c.1 d.1 (c.2.2/df d d)) (mkR c.2.1 d.2 (c.2.2/df d d))
def pF(c:Cv)(d:Rat×Rat):Bool:=bif c.1&&!(zeV d)then onP c (xB (ciC c) d)else c.1
def AV(c:Cv)(v:Rat×Rat):Rt:=pN (sqP (frC c) v) (sqP (toC c) v)
def cW(c:Cv)(v:Rat×Rat):Rat×Rat:=fL (ctr (ciC c)) v
def iY(c:Cv)(v:Rat×Rat):Rt:=
 bif c.1 then(bif pF c (cW c v)then mkR (df (cW c v) (cW c v)+(ciC c).2.2) (-2) (df (cW c v) (cW c v)*(ciC c).2.2)else AV c v)
 else(bif oI c (atP v)then(df (fL v (gn (lnC c) v)) (fL v (gn (lnC c) v)),0,0)else AV c v)
def xq(c:Cv)(v:Rat×Rat)(r:Rat):Int:=bif decide (r<0)then 1 else eu (iY c v) (r*r)
instance V5 {l:Ln} {p:Pt} [h:Rpd p]:Rdd (dZ l p):=by
 have:Nn p.2.2.2.2:=inferInstance
 exact mR
instance asI {l:Ln} {p:Pt} {i j:Nat} [h:Bd l i] [h':Bd p j] [hp:Rpd p]:Bd (dZ l p) (4*i+4*j+5):=by
 have a1:Bd (-l.2.1*p.1+l.1*p.2.2.1) _:=inferInstance
 have a2:Bd (-l.2.1*p.2.1+l.1*p.2.2.2.1) _:=inferInstance
 exact(aiI (a:= -l.2.1*p.1+l.1*p.2.2.1) (b:= -l.2.1*p.2.1+l.1*p.2.2.2.1) (c:=p.2.2.2.2)).mono (cM (by omega) (by omega))
theorem UB(a b:Rt):pN a b=a∨pN a b=b:=by
 unfold pN
 cases decide (bG b a<0)
 ·exact .inl rfl
 ·exact .inr rfl
instance W3 {a b:Rt} [h:Rdd a] [h':Rdd b]:Rdd (pN a b):=by
 rcases UB a b with e|e<;>rw[e]<;>assumption
instance atx {a b:Rt} {i j:Nat} [h:Bd a i] [h':Bd b j]:Bd (pN a b) (mx i j):=by
 rcases UB a b with e|e<;>rw[e]
 ·exact h.mono (BX _ _)
 ·exact h'.mono (BF _ _)
theorem Bv(d:Rat×Rat):0≤df d d:=by
 unfold df
 have h:∀a:Rat,0≤a*a:=fun a=>by
  rcases(by grind:0≤a∨0≤ -a)with h|h
  ·exact auF h h
  ·have:=auF h h;grind
 have:=h d.1
 have:=h d.2
 grind
theorem Bk{d:Rat×Rat}(h:zeV d=false):df d d≠0:=by
 refine kX ?_
 unfold zeV at h
 by_cases e:d.1=0
 ·rw[at7 e,auc]at h
  exact .inr (avb h)
 ·exact .inl e
theorem qG(a b d e s:Rat):ri (mkR a d s) (mkR b e s):=by
 unfold ri mkR
 cases eK s
 ·simp only[cond_false]
  by_cases hd:d=0
  ·rw[at7 hd];exact .inl rfl
  ·by_cases he:e=0
   ·rw[at7 he];exact .inr (.inl rfl)
   ·rw[at9 hd,at9 he];exact .inr (.inr rfl)
 ·exact .inl rfl
theorem UP{a b:Rat}(ha:0≤a)(hb:0≤b):0≤a/b:=by
 by_cases h0:b=0
 ·rw[h0,awN,Rat.inv_zero,Rat.mul_zero]
  exact Rat.le_refl
 ·rcases(by grind:0≤a/b∨0< -(a/b))with h|h
  ·exact h
  ·have h1:=avf h (show 0<b by grind)
   have h2:a/b*b=a:=avI h0
   grind
class Cir (c:Ln):Prop where q:0<c.2.2
instance aj9 {c:Ln} {d:Rat×Rat} [h:Cir c]:Nn (c.2.2/df d d):=⟨UP (by have:=h.q;grind) (Bv d)⟩
instance asz {c:Ln} {d:Rat×Rat} [h:Cir c]:Rpd (xB c d):=aem mR mR (qG _ _ _ _ _)
instance YX {c:Ln} {d:Rat×Rat} [h:Cir c]:Nn (df d d*c.2.2):=⟨auF (Bv d) (by have:=h.q;grind)⟩
instance asM {c:Ln} {d:Rat×Rat} {i j:Nat} [h:Bd c i] [h':Bd d j]:Bd (xB c d) (2*i+5*j+2):=by
 have s1:Bd (c.2.2/df d d) _:=inferInstance
 have a1:Bd (mkR c.1 d.1 (c.2.2/df d d)) _:=inferInstance
 have a2:Bd (mkR c.2.1 d.2 (c.2.2/df d d)) _:=inferInstance
 have b1:=a1.mono (k:=2*i+5*j+2) (by omega)
 have b2:=a2.mono (k:=2*i+5*j+2) (by omega)
 have e:∀n,mx n n=n:=fun n=>by unfold mx;rw[at7 (auj n)];rfl
 exact(Nq (h:=b1) (h':=b2)).mono (by
  simp only[e]
  refine cM (by omega) (cM (by omega) (cM (by omega) (cM (by omega) (cM (by omega) (by omega))))))
def abW(d a b a' b':Int):Bool:=bif decide (d>0)then decide (b'≤0)&&decide (a'≤0)else decide (a≤0)&&decide (b≤0)
theorem abh:∀f p t:Fin 3,wy (cI f.1 p.1) (cI p.1 t.1)=abW (cI f.1 t.1) (cI f.1 p.1) (cI p.1 t.1) (cI p.1 f.1) (cI t.1 p.1):=by decide+kernel
theorem Zv(a b:Int):wy (-a) (-b)=wy a b:=by
 unfold wy
 have e1:(-a==0)=(a==0):=av2.2 (by simp only[avx];omega)
 have e2:(-b==0)=(b==0):=av2.2 (by simp only[avx];omega)
 have e3:(-a== -b)=(a==b):=av2.2 (by simp only[avx];omega)
 rw[e1,e2,e3]
namespace RE
theorem R4(a b x s y t r:RE): -b*x+a*y+(-b*s+a*t)*r= -b*(x+s*r)+a*(y+t*r):=by
 induction a using at5
 induction b using at5
 induction x using at5
 induction s using at5
 induction y using at5
 induction t using at5
 induction r using at5
 exact snd fun n=>by
  simp only[RL.add,RL.mul,RL.neg]
  grind
theorem aob(a b x y u w:RE):(a*a+b*b)*(x-u)= -b*(-b*x+a*y-(-b*u+a*w))+a*(a*x+b*y-(a*u+b*w)):=by
 induction a using at5
 induction b using at5
 induction x using at5
 induction y using at5
 induction u using at5
 induction w using at5
 exact snd fun n=>by
  simp only[RL.add,RL.mul,RL.neg]
  grind
theorem arW(a b x y u w:RE):(a*a+b*b)*(y-w)=a*(-b*x+a*y-(-b*u+a*w))+b*(a*x+b*y-(a*u+b*w)):=by
 induction a using at5
 induction b using at5
 induction x using at5
 induction y using at5
 induction u using at5
 induction w using at5
 exact snd fun n=>by
  simp only[RL.add,RL.mul,RL.neg]
  grind
theorem Yy(a b c x y u w:RE)(h:a*x+b*y=c)(h':a*u+b*w=c):(a*a+b*b)*(x-u)= -b*(-b*x+a*y-(-b*u+a*w)):=by
 rw[aob a b x y u w,h,h',sub_self,mul_zero,add_zero]
theorem acx(a b c x y u w:RE)(h:a*x+b*y=c)(h':a*u+b*w=c):(a*a+b*b)*(y-w)=a*(-b*x+a*y-(-b*u+a*w)):=by
 rw[arW a b x y u w,h,h',sub_self,mul_zero,add_zero]
def tL(l:Ln)(p:Pt):RE:= -of l.2.1*pX p+of l.1*pY p
theorem Rb(l:Ln){p:Pt}[_h:Rpd p]:vR (dZ l p)=tL l p:=by
 unfold dZ tL pX pY
 rw[vR_mk]
 unfold v2
 simp only[of_add,bJ,of_neg]
 exact R4 _ _ _ _ _ _ _
theorem qD{l:Ln}{p q:Pt}[Rpd p][Rpd q]:bG (dZ l p) (dZ l q)=sg (tL l p-tL l q):=by
 rw[cmpT_re (V5 (l:=l) (p:=p)).nn (V5 (l:=l) (p:=q)).nn,Rb,Rb]
def oh(l:Ln)(p:Pt):Prop:=of l.1*pX p+of l.2.1*pY p=of l.2.2
theorem FL{l:Ln}{p:Pt}[Rpd p](h:oe l p=0):oh l p:=by
 rw[A8]at h
 exact Kh _ _ (sT.1 h)
theorem OA{l:Ln}{p q:Pt}(hp:oh l p)(hq:oh l q):(of l.1*of l.1+of l.2.1*of l.2.1)*(pX p-pX q)= -of l.2.1*(tL l p-tL l q):=by
 unfold oh at hp hq
 unfold tL
 exact Yy _ _ _ _ _ _ _ hp hq
theorem Qv{l:Ln}{p q:Pt}(hp:oh l p)(hq:oh l q):(of l.1*of l.1+of l.2.1*of l.2.1)*(pY p-pY q)=of l.1*(tL l p-tL l q):=by
 unfold oh at hp hq
 unfold tL
 exact acx _ _ _ _ _ _ _ hp hq
theorem RK{a b:Rat}(h:a≠0∨b≠0):0<of a*of a+of b*of b:=by
 have h1:=kX h
 have h2:0≤a*a:=by
  rcases(by grind:0≤a∨0≤ -a)with h|h
  ·exact auF h h
  ·have:=auF h h;grind
 have h3:0≤b*b:=by
  rcases(by grind:0≤b∨0≤ -b)with h|h
  ·exact auF h h
  ·have:=auF h h;grind
 rw[←bJ,←bJ,←of_add]
 exact i7 (by grind)
theorem V2{q:Rat}(h:q≠0):sg (of q)=1∨sg (of q)= -1:=by
 rw[sg_of]
 rcases(by grind:q<0∨0<q)with h'|h'
 ·exact .inr (c9 h')
 ·exact .inl (cX h')
theorem PA{l:Ln}(hl:l.1≠0∨l.2.1≠0):∃s:Int,(s=1∨s= -1)∧∀p q:Pt,Rpd p→Rpd q→oh l p→oh l q→cj p q=s*sg (tL l p-tL l q):=by
 have hn:=RK hl
 by_cases hb:l.2.1=0
 ·have ha:l.1≠0:=hl.resolve_right (fun h=>h hb)
  refine⟨sg (of l.1),V2 ha,fun p q hp hq op oq=>?_⟩
  rw[qr]
  unfold lxc pR
  have e1:=OA op oq
  have e2:=Qv op oq
  have s1:=congrArg sg e1
  have s2:=congrArg sg e2
  rw[dP,dJ hn,dP,hb,B4,Du,dG]at s1
  rw[dP,dJ hn,dP]at s2
  rw[show sg (pX p-pX q)=0 by omega]
  show sg (pY p-pY q)=_
  omega
 ·refine⟨-sg (of l.2.1),by rcases V2 hb with h|h<;>rw[h]<;>simp,fun p q hp hq op oq=>?_⟩
  rw[qr]
  unfold lxc pR
  have e1:=OA op oq
  have e2:=Qv op oq
  have s1:=congrArg sg e1
  have s2:=congrArg sg e2
  rw[dP,dJ hn,dP,l4]at s1
  rw[dP,dJ hn,dP]at s2
  rcases bP (tL l p-tL l q)with⟨_,h⟩|⟨_,h⟩|⟨_,h⟩<;>rw[h]at s1 s2 ⊢ <;>rcases V2 hb with g|g<;>rw[g]at s1 ⊢
  all_goals
   simp only[avz,av9,av5,awM,Int.neg_neg]at s1 s2 ⊢
   try rw[s1]
   try rw[s2]
   try rfl
theorem Py{l:Ln}(hl:l.1≠0∨l.2.1≠0){F P T:Pt}[hF:Rpd F][hP:Rpd P][hT:Rpd T](oF:oh l F)(oP:oh l P)(oT:oh l T):
  wy (cj F P) (cj P T)=abW (sg (tL l F-tL l T)) (sg (tL l F-tL l P)) (sg (tL l P-tL l T)) (sg (tL l P-tL l F)) (sg (tL l T-tL l P)):=by
 obtain⟨s,hs,h⟩:=PA hl
 have mF:tL l F∈[tL l F,tL l P,tL l T]:=by simp
 have mP:tL l P∈[tL l F,tL l P,tL l T]:=by simp
 have mT:tL l T∈[tL l F,tL l P,tL l T]:=by simp
 have e:wy (cj F P) (cj P T)=wy (sg (tL l F-tL l P)) (sg (tL l P-tL l T)):=by
  rw[h F P hF hP oF oP,h P T hP hT oP oT]
  rcases hs with rfl|rfl
  ·rw[avz,avz]
  ·rw[show(-1:Int)*sg (tL l F-tL l P)= -sg (tL l F-tL l P) by omega,show(-1:Int)*sg (tL l P-tL l T)= -sg (tL l P-tL l T) by omega,Zv]
 have c:=fun{x y:RE} (hx:x∈[tL l F,tL l P,tL l T]) (hy:y∈[tL l F,tL l P,tL l T])=>UQ mh zI hx hy
 rw[e,c mF mP,c mP mT,c mF mT,c mP mF,c mT mP]
 exact abh ⟨_,Ew mh mF⟩ ⟨_,Ew mh mP⟩ ⟨_,Ew mh mT⟩
end RE
def gdC(c:BCU):Prop:=okC 500 c∧im (dC c) (frC (dC c))=true∧im (dC c) (toC (dC c))=true
theorem jR{k:Nat}{x:BP}(h:okP k x):Rpd (dec x):=by
 obtain⟨p,rfl,bp,rp⟩:=bz h
 rw[am]
 exact rp
def uJ:Env:=[(76,io),(148,ip),(149,jQ),(147,jq),(202,lX),(83,gr),(99,k9),(170,zZ),(219,rN),(283,zH),(290,AX),(282,AA),(281,Bh),(259,vg),(284,AH),(291,Fk)]
theorem ke:EnvAll Tryz.prog uJ:=⟨fc,eW,fY,fC,jd,eM,ie,wv,mO,vo,vc,wT,wZ,qb,v7,EW,trivial⟩
def alP:Ctx:=CX uJ []
def ac0(l:BO3)(p:BP)(_k:KT):Option (List RV):=let y1:=bO (dec (p.1,(p.2.1,p.2.2.2.2)));let y2:=hid ((bO (dec p.2.2)).1);let y3:=gu (ae l.1) (hid (y1.1)) (y1.2);let y4:=gu (ae l.2.1) y2 ((bO (dec p.2.2)).2);let y5:=dk (hid (y3.1)) (hid (y4.1));let y6:=hid ((frF (ae l.2.2)).1);let y7:=dk (hid (y5.1)) (hid (jT y6));match decide (ok Rt 100000 (p.1,(p.2.1,p.2.2.2.2)))with|true=>(match decide (ok Rat 100000 l.1∧prI (hid (y1.1)))with|true=>(match decide (ok Rt 100000 p.2.2)with|true=>(match decide (ok Rat 100000 l.2.1∧prI y2)with|true=>(match decide (ok Rat 200000 l.2.2)with|true=>(match !(y3.2)with|true=>some [RV.d axf 0,RV.d .bool false]|false=>(match !(y4.2)with|true=>some [RV.d axf 0,RV.d .bool false]|false=>(match !((frF (ae l.2.2)).2)with|true=>some [RV.d axf 0,RV.d .bool false]|false=>(match decide (prI (hid (y3.1))∧prI (hid (y4.1)))with|true=>(match !(y5.2)with|true=>some [RV.d axf 0,RV.d .bool false]|false=>(match decide (prI y6)with|true=>(match decide (prI (hid (y5.1))∧prI (hid (jT y6)))with|true=>(match !(y7.2)with|true=>some [RV.d axf 0,RV.d .bool false]|false=>some [RV.d axf ((sgF (hid (y7.1))).1),RV.d .bool ((sgF (hid (y7.1))).2)])|false=>none)|false=>none))|false=>none))))|false=>none)|false=>none)|false=>none)|false=>none)|false=>none
theorem aqN(l:BO3)(p:BP):RS alP 270 [.d tO l,.d tP p] (ac0 l p):=rsX
theorem aaX(l:BO3)(p:BP)(h:ok Ln 300 l∧ok Pt 4000 p):Con Tryz.prog 270 [.d tO l,.d tP p] [.d axf ((rE (dec l) (dec p)).1),.d .bool ((rE (dec l) (dec p)).2)]:=by
 refine aP ke (aqN _ _ ⟨0,?_⟩)
 obtain⟨hl,hp⟩:=h
 obtain⟨l,rfl,bl⟩:=aS hl
 obtain⟨p,rfl,bp⟩:=aS hp
 have dx:(dec ((ag p.1,ag p.2.1,ag p.2.2.2.2):BO3):Rt)=pxR p:=am (pxR p)
 have dy:(dec ((ag p.2.2.1,ag p.2.2.2.1,ag p.2.2.2.2):BO3):Rt)=pyR p:=am (pyR p)
 have dy':(dec (enc p.2.2:BO3):Rt)=pyR p:=am (pyR p)
 have px:Bd (pxR p) 4000:=(inferInstance:Bd ((p.1,p.2.1,p.2.2.2.2):Rt) _).mono (by decide)
 have py:Bd (pyR p) 4000:=(inferInstance:Bd ((p.2.2.1,p.2.2.2.1,p.2.2.2.2):Rt) _).mono (by decide)
 have ox:decide (ok Rt 100000 ((ag p.1,ag p.2.1,ag p.2.2.2.2):BO3))=true:=okd (x:=pxR p) (by decide) (by decide)
 have oy:decide (ok Rt 100000 (enc p.2.2:BO3))=true:=okd (x:=pyR p) (by decide) (by decide)
 have pr:∀r,prI (bO r).1:=u5
 have pt:∀n a k,prI (gu n a k).1:=aab
 have pf:∀q,prI (frF q).1:=RE.frF_pr
 unfold ac0
 simp only[aj,am,aE,aF,aB,az,aC,aua,aub,Nat.reduceLeDiff,dx,dy',ox,oy,dT (pr _),dT (pt _ _ _),dT (pf _),dT (RE.addF_pr (pt _ _ _) (pt _ _ _)),dT (RE.negF_pr (pf _))]
 unfold rE
 generalize bO (pxR p)=X
 generalize bO (pyR p)=Y
 generalize gu l.1 X.1 X.2=U
 generalize gu l.2.1 Y.1 Y.2=V
 generalize frF l.2.2=W
 generalize dk U.1 V.1=S
 generalize dk S.1 (jT W.1)=D
 generalize sgF D.1=Z
 obtain⟨_,u⟩:=U
 obtain⟨_,v⟩:=V
 obtain⟨_,w⟩:=W
 obtain⟨_,s⟩:=S
 obtain⟨_,d⟩:=D
 cases u<;>cases v<;>cases w<;>try rfl
 cases s<;>cases d<;>rfl
def aqb:Ctx:=CX uJ []
def adN(a b:BR)(_k:KT):Option (List RV):=match decide (okR a∧okR b)with|true=>some [RV.d tR (hid (ag (ae a+ae b)))]|false=>none
theorem anO(a b:BR):RS aqb 154 [.d tR a,.d tR b] (adN a b):=rsX
theorem acR(a b:BR)(h:okR a∧okR b):Con Tryz.prog 154 [.d tR a,.d tR b] [.d tR (ag (ae a+ae b))]:=by
 refine aP ke (anO _ _ ⟨0,?_⟩)
 unfold adN
 rw[dT h,aj]
def anT:Ctx:=CX uJ []
def aff(a b:BR)(_k:KT):Option (List RV):=match decide (okR a∧okR b)with|true=>some [RV.d tR (hid (ag (ae a-ae b)))]|false=>none
theorem aph(a b:BR):RS anT 153 [.d tR a,.d tR b] (aff a b):=rsX
theorem Zh(a b:BR)(h:okR a∧okR b):Con Tryz.prog 153 [.d tR a,.d tR b] [.d tR (ag (ae a-ae b))]:=by
 refine aP ke (aph _ _ ⟨0,?_⟩)
 unfold aff
 rw[dT h,aj]
def aqM:Ctx:=CX uJ []
def afG(a b:BR)(_k:KT):Option (List RV):=match decide (okR a∧okR b)with|true=>some [RV.d tR (hid (ag (ae a*ae b)))]|false=>none
theorem apN(a b:BR):RS aqM 155 [.d tR a,.d tR b] (afG a b):=rsX
theorem abH(a b:BR)(h:okR a∧okR b):Con Tryz.prog 155 [.d tR a,.d tR b] [.d tR (ag (ae a*ae b))]:=by
 refine aP ke (apN _ _ ⟨0,?_⟩)
 unfold afG
 rw[dT h,aj]
def an6:Ctx:=CX uJ []
def ae9(a b:BR)(_k:KT):Option (List RV):=match decide (fh a b)with|true=>(match 0 !=0 with|true=>(match decide (aY (0:Int))with|true=>some [RV.d tR (hid (ag ((0:Int):Rat)))]|false=>none)|false=>some [RV.d tR (hid (ag (ae a/ae b)))])|false=>none
theorem al5(a b:BR):RS an6 156 [.d tR a,.d tR b] (ae9 a b):=rsX
theorem aaO(a b:BR)(h:fh a b):Con Tryz.prog 156 [.d tR a,.d tR b] [.d tR (ag (ae a/ae b))]:=by
 refine aP ke (al5 _ _ ⟨0,?_⟩)
 unfold ae9
 rw[dT h]
 simp only[aj]
 rfl
def MY:aN:=spN true true [tO,tP] (fun x=>decide (ok Ln 300 x.1∧ok Pt 4000 x.2.1)) (fun x=>[RV.d axf ((rE (dec x.1) (dec x.2.1)).1),RV.d .bool ((rE (dec x.1) (dec x.2.1)).2)])
theorem Vy:SpK 270 MY:=spX fun x h=>aaX x.1 x.2.1 (at6 h)
def Wu:aN:=spN false true [tR,tR] (fun x=>decide (okR x.1∧okR x.2.1)) (fun x=>[RV.d tR (hid (ag (ae x.1+ae x.2.1)))])
theorem V8:SpK 154 Wu:=spX fun x h=>by simp only[aj];exact acR x.1 x.2.1 (at6 h)
def Nj:aN:=spN false true [tR,tR] (fun x=>decide (okR x.1∧okR x.2.1)) (fun x=>[RV.d tR (hid (ag (ae x.1-ae x.2.1)))])
theorem Qy:SpK 153 Nj:=spX fun x h=>by simp only[aj];exact Zh x.1 x.2.1 (at6 h)
def Te:aN:=spN false true [tR,tR] (fun x=>decide (okR x.1∧okR x.2.1)) (fun x=>[RV.d tR (hid (ag (ae x.1*ae x.2.1)))])
theorem Tp:SpK 155 Te:=spX fun x h=>by simp only[aj];exact abH x.1 x.2.1 (at6 h)
def VR:aN:=spN false true [tR,tR] (fun x=>decide (fh x.1 x.2.1)) (fun x=>[RV.d tR (hid (ag (ae x.1/ae x.2.1)))])
theorem NW:SpK 156 VR:=spX fun x h=>by simp only[aj];exact aaO x.1 x.2.1 (at6 h)
def IL:Env:=(270,MY)::(154,Wu)::(153,Nj)::(155,Te)::(156,VR)::uJ
theorem uH:EnvAll Tryz.prog IL:=⟨Vy,V8,Qy,Tp,NW,ke⟩
def ao9:Ctx:=CX IL []
def afv(a b c:BR)(_k:KT):Option (List RV):=match decide (okR a)with|true=>(match decide (okR b)with|true=>(match decide (okR c)with|true=>(match(i64.wrap ((aU (ae b) 0)*(aU (ae c) 0)))==0 with|true=>some [RV.d axf (aU (ae a) 0)]|false=>(match(aU (ae a) 0)==(i64.wrap ((aU (ae b) 0)*(aU (ae c) 0)))with|true=>some [RV.d axf (aU (ae a) 0)]|false=>(match(aU (ae a) 0)==0 with|true=>some [RV.d axf (i64.wrap ((aU (ae b) 0)*(aU (ae c) 0)))]|false=>(match decide (okR a∧okR a)with|true=>(match decide (okR b∧okR b)with|true=>(match decide (okR (hid (ag (ae b*ae b)))∧okR c)with|true=>(match decide (okR (hid (ag (ae a*ae a)))∧okR (hid (ag (ae (hid (ag (ae b*ae b)))*ae c))))with|true=>some [RV.d axf (i64.wrap ((aU (ae a) 0)*(aU (ae (hid (ag (ae a*ae a)))) (ae (hid (ag (ae (hid (ag (ae b*ae b)))*ae c)))))))]|false=>none)|false=>none)|false=>none)|false=>none))))|false=>none)|false=>none)|false=>none
theorem arO(a b c:BR):RS ao9 269 [.d tR a,.d tR b,.d tR c] (afv a b c):=rsX
theorem abx(a b c:BR)(h:ok Rat 240000 a∧ok Rat 170000 b∧ok Rat 30000 c):Con Tryz.prog 269 [.d tR a,.d tR b,.d tR c] [.d axf (ff (ae a) (ae b) (ae c))]:=by
 refine aP uH (arO _ _ _ ⟨0,?_⟩)
 obtain⟨ha,hb,hc⟩:=h
 obtain⟨a,rfl,ba⟩:=aS ha
 obtain⟨b,rfl,bb⟩:=aS hb
 obtain⟨c,rfl,bc⟩:=aS hc
 unfold afv
 simp only[aj,aB,az,aW,aua,aub,Nat.reduceAdd,Nat.reduceLeDiff,nA]
 exact BM _ _ _
def anl:Ctx:=CX IL []
def agv(a b c f:BR)(_k:KT):Option (List RV):=match decide (ok Rt 100000 (a,(b,c)))with|true=>(match decide (ok Rat 200000 f)with|true=>(match !((bO (dec (a,(b,c)))).2)with|true=>some [RV.d tG (0,0),RV.d .bool false]|false=>(match !((frF (ae f)).2)with|true=>some [RV.d tG (0,0),RV.d .bool false]|false=>(match decide (prI (hid ((frF (ae f)).1)))with|true=>(match decide (prI (hid ((bO (dec (a,(b,c)))).1))∧prI (hid (jT (hid ((frF (ae f)).1)))))with|true=>some [RV.d tG (hid ((dk (hid ((bO (dec (a,(b,c)))).1)) (hid (jT (hid ((frF (ae f)).1))))).1)),RV.d .bool ((dk (hid ((bO (dec (a,(b,c)))).1)) (hid (jT (hid ((frF (ae f)).1))))).2)]|false=>none)|false=>none)))|false=>none)|false=>none
theorem arS(a b c f:BR):RS anl 289 [.d tR a,.d tR b,.d tR c,.d tR f] (agv a b c f):=rsX
theorem ZP(a b c f:BR)(h:ok Rat 100000 a∧ok Rat 100000 b∧ok Rat 100000 c∧ok Rat 100000 f):Con Tryz.prog 289 [.d tR a,.d tR b,.d tR c,.d tR f] [.d tG ((eh (ae a,ae b,ae c) (ae f)).1),.d .bool ((eh (ae a,ae b,ae c) (ae f)).2)]:=by
 refine aP uH (arS _ _ _ _ ⟨0,?_⟩)
 obtain⟨ha,hb,hc,hf⟩:=h
 obtain⟨a,rfl,ba⟩:=aS ha
 obtain⟨b,rfl,bb⟩:=aS hb
 obtain⟨c,rfl,bc⟩:=aS hc
 obtain⟨f,rfl,bf⟩:=aS hf
 have dr:(dec ((ag a,ag b,ag c):BO3):Rt)=(a,b,c):=am ((a,b,c):Rt)
 have orr:decide (ok Rt 100000 ((ag a,ag b,ag c):BO3))=true:=okd (x:=((a,b,c):Rt)) (by decide) (by decide)
 unfold agv
 simp only[aj,aB,az,aC,aua,aub,Nat.reduceLeDiff,dr,orr,dT (RE.frF_pr _),dT (RE.negF_pr (RE.frF_pr _)),dT (u5 _)]
 unfold eh
 generalize bO (a,b,c)=X
 generalize frF f=Y
 obtain⟨_,x⟩:=X
 obtain⟨_,y⟩:=Y
 cases x<;>cases y<;>rfl
def Wy:aN:=spN true true [tR,tR,tR] (fun x=>decide (ok Rat 240000 x.1∧ok Rat 170000 x.2.1∧ok Rat 30000 x.2.2.1)) (fun x=>[RV.d axf (ff (ae x.1) (ae x.2.1) (ae x.2.2.1))])
theorem SF:SpK 269 Wy:=spX fun x h=>abx x.1 x.2.1 x.2.2.1 (at6 h)
def Rw:aN:=spN false true [tR,tR,tR,tR] (fun x=>decide (ok Rat 100000 x.1∧ok Rat 100000 x.2.1∧ok Rat 100000 x.2.2.1∧ok Rat 100000 x.2.2.2.1)) (fun x=>[RV.d tG (hid ((eh (ae x.1,ae x.2.1,ae x.2.2.1) (ae x.2.2.2.1)).1)),RV.d .bool ((eh (ae x.1,ae x.2.1,ae x.2.2.1) (ae x.2.2.2.1)).2)])
theorem Xs:SpK 289 Rw:=spX fun x h=>by simp only[aj];exact ZP x.1 x.2.1 x.2.2.1 x.2.2.2.1 (at6 h)
def IN:Env:=(269,Wy)::(289,Rw)::IL
theorem wE:EnvAll Tryz.prog IN:=⟨SF,Xs,uH⟩
def amd:Ctx:=CX IN []
def ad7(c:BO3)(p:BP)(_k:KT):Option (List RV):=let y1:=eh (ae p.1,ae p.2.1,ae p.2.2.2.2) (ae c.1);let y2:=eh (ae p.2.2.1,ae p.2.2.2.1,ae p.2.2.2.2) (ae c.2.1);let y3:=cG (hid (y1.1)) (hid (y1.1));let y4:=cG (hid (y2.1)) (hid (y2.1));let y5:=dk (hid (y3.1)) (hid (y4.1));let y6:=hid ((frF (ae c.2.2)).1);let y7:=dk (hid (y5.1)) (hid (jT y6));match decide (ok Rat 100000 p.1∧ok Rat 100000 p.2.1∧ok Rat 100000 p.2.2.2.2∧ok Rat 100000 c.1)with|true=>(match decide (ok Rat 100000 p.2.2.1∧ok Rat 100000 p.2.2.2.1∧ok Rat 100000 p.2.2.2.2∧ok Rat 100000 c.2.1)with|true=>(match decide (ok Rat 200000 c.2.2)with|true=>(match !(y1.2)with|true=>some [RV.d axf 0,RV.d .bool false]|false=>(match !(y2.2)with|true=>some [RV.d axf 0,RV.d .bool false]|false=>(match !((frF (ae c.2.2)).2)with|true=>some [RV.d axf 0,RV.d .bool false]|false=>(match decide (prI (hid (y1.1))∧prI (hid (y1.1)))with|true=>(match decide (prI (hid (y2.1))∧prI (hid (y2.1)))with|true=>(match !(y3.2)with|true=>some [RV.d axf 0,RV.d .bool false]|false=>(match !(y4.2)with|true=>some [RV.d axf 0,RV.d .bool false]|false=>(match decide (prI (hid (y3.1))∧prI (hid (y4.1)))with|true=>(match !(y5.2)with|true=>some [RV.d axf 0,RV.d .bool false]|false=>(match decide (prI y6)with|true=>(match decide (prI (hid (y5.1))∧prI (hid (jT y6)))with|true=>(match !(y7.2)with|true=>some [RV.d axf 0,RV.d .bool false]|false=>some [RV.d axf ((sgF (hid (y7.1))).1),RV.d .bool ((sgF (hid (y7.1))).2)])|false=>none)|false=>none))|false=>none)))|false=>none)|false=>none))))|false=>none)|false=>none)|false=>none
theorem amI(c:BO3)(p:BP):RS amd 268 [.d tO c,.d tP p] (ad7 c p):=rsX
theorem Y9(c:BO3)(p:BP)(h:ok Ln 300 c∧ok Pt 4000 p):Con Tryz.prog 268 [.d tO c,.d tP p] [.d axf ((qq (dec c) (dec p)).1),.d .bool ((qq (dec c) (dec p)).2)]:=by
 refine aP wE (amI _ _ ⟨0,?_⟩)
 obtain⟨hc,hp⟩:=h
 obtain⟨c,rfl,bc⟩:=aS hc
 obtain⟨p,rfl,bp⟩:=aS hp
 have pd:∀r q,prI (eh r q).1:=abz
 have pf:∀q,prI (frF q).1:=RE.frF_pr
 have pm:∀a b,prI (cG a b).1:=ql
 have dx:eh (p.1,p.2.1,p.2.2.2.2) c.1=eh (pxR p) c.1:=rfl
 have dy:eh (p.2.2.1,p.2.2.2.1,p.2.2.2.2) c.2.1=eh (pyR p) c.2.1:=rfl
 unfold ad7
 simp only[aj,am,aE,aF,aB,az,aC,aua,aub,Nat.reduceLeDiff,dx,dy,dT (pd _ _),dT (pm _ _),dT (pf _),dT (RE.negF_pr (pf _)),dT (RE.addF_pr (pm _ _) (pm _ _))]
 unfold qq
 generalize eh (pxR p) c.1=X
 generalize eh (pyR p) c.2.1=Y
 generalize frF c.2.2=W
 generalize cG X.1 X.1=U
 generalize cG Y.1 Y.1=V
 generalize dk U.1 V.1=S
 generalize dk S.1 (jT W.1)=D
 generalize sgF D.1=Z
 obtain⟨_,x⟩:=X
 obtain⟨_,y⟩:=Y
 obtain⟨_,w⟩:=W
 obtain⟨_,u⟩:=U
 obtain⟨_,v⟩:=V
 obtain⟨_,s⟩:=S
 obtain⟨_,d⟩:=D
 cases x<;>cases y<;>cases w<;>try rfl
 cases u<;>cases v<;>try rfl
 cases s<;>cases d<;>rfl
def aqu:Ctx:=CX IN []
def acY(l:BO3)(p:BP)(_k:KT):Option (List RV):=match decide (ok Ln 300 l∧ok Pt 4000 p)with|true=>(match(rE (dec l) (dec p)).2 with|true=>some [RV.d axf ((rE (dec l) (dec p)).1)]|false=>(match decide (okR l.1∧okR p.1)with|true=>(match decide (okR l.2.1∧okR p.2.2.1)with|true=>(match decide (okR (hid (ag (ae l.1*ae p.1)))∧okR (hid (ag (ae l.2.1*ae p.2.2.1))))with|true=>(match decide (okR (hid (ag (ae (hid (ag (ae l.1*ae p.1)))+ae (hid (ag (ae l.2.1*ae p.2.2.1))))))∧okR l.2.2)with|true=>(match decide (okR l.1∧okR p.2.1)with|true=>(match decide (okR l.2.1∧okR p.2.2.2.1)with|true=>(match decide (okR (hid (ag (ae l.1*ae p.2.1)))∧okR (hid (ag (ae l.2.1*ae p.2.2.2.1))))with|true=>(match decide (ok Rat 240000 (hid (ag (ae (hid (ag (ae (hid (ag (ae l.1*ae p.1)))+ae (hid (ag (ae l.2.1*ae p.2.2.1))))))-ae l.2.2)))∧ok Rat 170000 (hid (ag (ae (hid (ag (ae l.1*ae p.2.1)))+ae (hid (ag (ae l.2.1*ae p.2.2.2.1))))))∧ok Rat 30000 p.2.2.2.2)with|true=>some [RV.d axf (ff (ae (hid (ag (ae (hid (ag (ae (hid (ag (ae l.1*ae p.1)))+ae (hid (ag (ae l.2.1*ae p.2.2.1))))))-ae l.2.2)))) (ae (hid (ag (ae (hid (ag (ae l.1*ae p.2.1)))+ae (hid (ag (ae l.2.1*ae p.2.2.2.1))))))) (ae p.2.2.2.2))]|false=>none)|false=>none)|false=>none)|false=>none)|false=>none)|false=>none)|false=>none)|false=>none))|false=>none
theorem apU(l:BO3)(p:BP):RS aqu 231 [.d tO l,.d tP p] (acY l p):=rsX
theorem abe(l:BO3)(p:BP)(h:ok Ln 300 l∧okP 4000 p):Con Tryz.prog 231 [.d tO l,.d tP p] [.d axf (oe (dec l) (dec p))]:=by
 refine aP wE (apU _ _ ⟨0,?_⟩)
 obtain⟨hl,hp⟩:=h
 obtain⟨l,rfl,bl⟩:=aS hl
 obtain⟨p,rfl,bp,rp⟩:=bz hp
 unfold acY
 simp only[aj,am,aE,aF,aB,az,okd,aC,aW,aua,aub,Nat.reduceAdd,Nat.reduceLeDiff]
 cases hq:(rE l p).2
 ·rfl
 ·rw[RE.sidL_ok l hq]
def MU:aN:=spN true true [tO,tP] (fun x=>decide (ok Ln 300 x.1∧ok Pt 4000 x.2.1)) (fun x=>[RV.d axf ((qq (dec x.1) (dec x.2.1)).1),RV.d .bool ((qq (dec x.1) (dec x.2.1)).2)])
theorem WW:SpK 268 MU:=spX fun x h=>Y9 x.1 x.2.1 (at6 h)
def Pe:Env:=(268,MU)::IN
theorem Dm:EnvAll Tryz.prog Pe:=⟨WW,wE⟩
def aqS:Ctx:=CX Pe []
def ags(c:BO3)(p:BP)(_k:KT):Option (List RV):=let y1:=qq (dec c) (dec p);let y2:=hid (ag (ae p.1-ae c.1));let y3:=hid (ag (ae p.2.2.1-ae c.2.1));let y4:=hid (ag (ae y2*ae y2));let y5:=hid (ag (ae y3*ae y3));let y6:=hid (ag (ae p.2.1*ae p.2.1));let y7:=hid (ag (ae p.2.2.2.1*ae p.2.2.2.1));let y8:=hid (ag (ae y6+ae y7));let y9:=hid (ag (ae y4+ae y5));let y10:=hid (ag (ae p.2.2.2.2*ae y8));let y11:=hid (ag (ae y2*ae p.2.1));let y12:=hid (ag (ae y3*ae p.2.2.2.1));let y13:=hid (ag (ae y9+ae y10));let y14:=hid (ag (ae y11+ae y12));let y15:=hid (ag (ae y13-ae c.2.2));let y16:=hid (ag (ae y14+ae y14));match decide (ok Ln 300 c∧ok Pt 4000 p)with|true=>(match y1.2 with|true=>some [RV.d axf (i64.wrap (0-(y1.1)))]|false=>(match decide (okR p.1∧okR c.1)with|true=>(match decide (okR p.2.2.1∧okR c.2.1)with|true=>(match decide (okR y2∧okR y2)with|true=>(match decide (okR y3∧okR y3)with|true=>(match decide (okR y4∧okR y5)with|true=>(match decide (okR p.2.1∧okR p.2.1)with|true=>(match decide (okR p.2.2.2.1∧okR p.2.2.2.1)with|true=>(match decide (okR y6∧okR y7)with|true=>(match decide (okR p.2.2.2.2∧okR y8)with|true=>(match decide (okR y9∧okR y10)with|true=>(match decide (okR y2∧okR p.2.1)with|true=>(match decide (okR y3∧okR p.2.2.2.1)with|true=>(match decide (okR y11∧okR y12)with|true=>(match decide (okR y13∧okR c.2.2)with|true=>(match decide (okR y14∧okR y14)with|true=>(match decide (ok Rat 240000 y15∧ok Rat 170000 y16∧ok Rat 30000 p.2.2.2.2)with|true=>some [RV.d axf (i64.wrap (0-(ff (ae y15) (ae y16) (ae p.2.2.2.2))))]|false=>none)|false=>none)|false=>none)|false=>none)|false=>none)|false=>none)|false=>none)|false=>none)|false=>none)|false=>none)|false=>none)|false=>none)|false=>none)|false=>none)|false=>none)|false=>none))|false=>none
theorem amZ(c:BO3)(p:BP):RS aqS 230 [.d tO c,.d tP p] (ags c p):=rsX
theorem acy(c:BO3)(p:BP)(h:ok Ln 300 c∧okP 4000 p):Con Tryz.prog 230 [.d tO c,.d tP p] [.d axf (lT (dec c) (dec p))]:=by
 refine aP Dm (amZ _ _ ⟨0,?_⟩)
 obtain⟨hc,hp⟩:=h
 obtain⟨c,rfl,bc⟩:=aS hc
 obtain⟨p,rfl,bp,rp⟩:=bz hp
 have sb:=jN (sqA p (ctr c)-c.2.2) (sqB p (ctr c)) p.2.2.2.2
 unfold ags
 simp only[aj,am,aE,aF,aB,az,okd,aC,aW,aua,aub,Nat.reduceAdd,Nat.reduceLeDiff]
 cases hq:(qq c p).2
 ·unfold lT sqA sqB ctr at*
  dsimp only at sb ⊢
  rw[show(p.2.2.2.2*(p.2.1*p.2.1+p.2.2.2.1*p.2.2.2.1))=(p.2.1*p.2.1+p.2.2.2.1*p.2.2.2.1)*p.2.2.2.2 by grind]
  rw[bj (by omega) (by omega),av7]
 ·have hb: -1≤(qq c p).1∧(qq c p).1≤1:=by
   have:=RE.insC_ok c hq
   unfold lT at this
   omega
  dsimp only
  rw[bj (by omega) (by omega),av7,RE.insC_ok c hq]
def aq4:Ctx:=CX Pe []
def aeR(l:BO3)(v:BV)(_k:KT):Option (List RV):=let y1:=hid (ag (ae l.1*ae v.1));let y2:=hid (ag (ae l.2.1*ae v.2));let y3:=hid (ag (ae y1+ae y2));let y4:=hid (ag (ae l.1*ae l.1));let y5:=hid (ag (ae l.2.1*ae l.2.1));let y6:=hid (ag (ae y3-ae l.2.2));let y7:=hid (ag (ae y4+ae y5));let y8:=hid (ag (ae y6/ae y7));let y9:=hid (ag (ae y8*ae l.1));let y10:=hid (ag (ae y8*ae l.2.1));match decide (okR l.1∧okR v.1)with|true=>(match decide (okR l.2.1∧okR v.2)with|true=>(match decide (okR y1∧okR y2)with|true=>(match decide (okR y3∧okR l.2.2)with|true=>(match decide (okR l.1∧okR l.1)with|true=>(match decide (okR l.2.1∧okR l.2.1)with|true=>(match decide (okR y4∧okR y5)with|true=>(match decide (fh y6 y7)with|true=>(match decide (okR y8∧okR l.1)with|true=>(match decide (okR v.1∧okR y9)with|true=>(match decide (okR y8∧okR l.2.1)with|true=>(match decide (okR v.2∧okR y10)with|true=>some [RV.d tV (hid (ag (ae v.1-ae y9)),hid (ag (ae v.2-ae y10)))]|false=>none)|false=>none)|false=>none)|false=>none)|false=>none)|false=>none)|false=>none)|false=>none)|false=>none)|false=>none)|false=>none)|false=>none
theorem ap5(l:BO3)(v:BV):RS aq4 70 [.d tO l,.d tV v] (aeR l v):=rsX
theorem Y6(l:BO3)(v:BV)(h:ok Ln 300 l∧ok (Rat×Rat) 200 v∧((dec l:Ln).1≠0∨(dec l:Ln).2.1≠0)):Con Tryz.prog 70 [.d tO l,.d tV v] [.d tV (enc (gn (dec l) (dec v)))]:=by
 refine aP Dm (ap5 _ _ ⟨0,?_⟩)
 obtain⟨hl,hv,h0⟩:=h
 obtain⟨l,rfl,bl⟩:=aS hl
 obtain⟨v,rfl,bv⟩:=aS hv
 have hn:l.1*l.1+l.2.1*l.2.1≠0:=kX (by rw[am]at h0;exact h0)
 unfold aeR
 simp only[aj,am,aE,aF,aB,az,aW,aD,aua,aub,Nat.reduceAdd,Nat.reduceLeDiff,hn,ne_eq,avZ]
 rfl
theorem X3(n:Int):(if(if n>(-1)then n else(-1))<1 then(if n>(-1)then n else(-1))else 1)=ju n:=by
 unfold ju
 split<;>split<;>(try split)<;>(try split)<;>omega
def Ag:aN:=spN true true [tO,tR] (fun x=>decide (okT 15000 x.1∧ok Rat 15000 x.2.1)) (fun x=>[RV.d axf (eu (dec x.1) (ae x.2.1))])
theorem vp:SpK 84 Ag:=spX fun x h=>YM x.1 x.2.1 (at6 h)
def Pd:aN:=spN true true [tO,tP] (fun x=>decide (ok Ln 300 x.1∧okP 4000 x.2.1)) (fun x=>[RV.d axf (oe (dec x.1) (dec x.2.1))])
theorem Tl:SpK 231 Pd:=spX fun x h=>abe x.1 x.2.1 (at6 h)
def Rf:aN:=spN true true [tO,tP] (fun x=>decide (ok Ln 300 x.1∧okP 4000 x.2.1)) (fun x=>[RV.d axf (lT (dec x.1) (dec x.2.1))])
theorem Ux:SpK 230 Rf:=spX fun x h=>acy x.1 x.2.1 (at6 h)
def xQ:Env:=[(146,se),(84,Ag),(271,Vn),(272,TW),(232,UF),(231,Pd),(230,Rf)]
theorem l9:EnvAll Tryz.prog xQ:=⟨mC,vp,I1,IK,Qa,Tl,Ux,trivial⟩
def arX:Ctx:=CX xQ []
def afP(c:BCU)(p:BP)(_k:KT):Option (List RV):=match c.1 with|true=>(match decide (ok Ln 300 c.2.2.1∧okP 4000 p)with|true=>some [RV.d .bool ((lT (dec c.2.2.1) (dec p))==0)]|false=>none)|false=>(match decide (ok Ln 300 c.2.1∧okP 4000 p)with|true=>some [RV.d .bool ((oe (dec c.2.1) (dec p))==0)]|false=>none)
theorem aoM(c:BCU)(p:BP):RS arX 172 [.d tCU c,.d tP p] (afP c p):=rsX
theorem acw(c:BCU)(p:BP)(h:okC 4000 c∧okP 4000 p):Con Tryz.prog 172 [.d tCU c,.d tP p] [.d .bool (im (dC c) (dec p))]:=by
 refine aP l9 (aoM _ _ ⟨0,?_⟩)
 obtain⟨hc,hp⟩:=h
 have op:decide (okP 4000 p)=true:=at7 hp
 obtain⟨ar,li,ci,cw,fr,to⟩:=c
 obtain⟨c1,c2,_⟩:=hc
 unfold afP
 cases ar
 ·have e:=(c2 rfl).1
  simp only[aua,dT e,op,aub]
  rfl
 ·have e:=(c1 rfl).1
  simp only[aua,dT e,op,aub]
  rfl
def apZ:Ctx:=CX xQ []
def af8(c:BO3)(p:BP)(_k:KT):Option (List RV):=match decide (okP 4000 p)with|true=>(match decide (okT 15000 (hid (enc (yP (dec p))))∧ok Rat 15000 c.2.1)with|true=>(match decide ((eu (dec (hid (enc (yP (dec p))))) (ae c.2.1))>0)with|true=>some [RV.d axf 0]|false=>(match(eu (dec (hid (enc (yP (dec p))))) (ae c.2.1))==0 with|true=>(match decide (okP 4000 p)with|true=>(match decide (okT 15000 (hid (enc (xP (dec p))))∧ok Rat 15000 c.1)with|true=>(match decide ((eu (dec (hid (enc (xP (dec p))))) (ae c.1))>0)with|true=>some [RV.d axf 0]|false=>some [RV.d axf 1])|false=>none)|false=>none)|false=>some [RV.d axf 1]))|false=>none)|false=>none
theorem arf(c:BO3)(p:BP):RS apZ 292 [.d tO c,.d tP p] (af8 c p):=rsX
theorem acO(c:BO3)(p:BP)(h:ok Ln 300 c∧okP 4000 p):Con Tryz.prog 292 [.d tO c,.d tP p] [.d axf (A9 (dec c) (dec p))]:=by
 refine aP l9 (arf _ _ ⟨0,?_⟩)
 obtain⟨hc,hp⟩:=h
 obtain⟨c,rfl,bc⟩:=aS hc
 obtain⟨p,rfl,bp,rp⟩:=bz hp
 unfold af8 A9 upR
 simp only[aj,am,aE,aF,aB,az,aC,aua,aub,mx,Nat.reduceLeDiff,auf,cond_true,a9,aZ]
 cases decide (eu (yP p) c.2.1>0)<;>cases eu (yP p) c.2.1==0<;>cases decide (eu (xP p) c.1>0)<;>rfl
def alY:Ctx:=CX xQ []
def afV(n:Int)(_k:KT):Option (List RV):=some [RV.d axf (if(if n>(-1)then n else(-1))<1 then(if n>(-1)then n else(-1))else 1)]
theorem arA(n:Int):RS alY 275 [SI n] (afV n):=rsX
theorem Zc(n:Int):Con Tryz.prog 275 [.d axf n] [.d axf (ju n)]:=by
 refine aP l9 (arA _ ⟨0,?_⟩)
 unfold afV
 rw[X3]
def aq5:Ctx:=CX xQ []
def al3(c:BCU)(_k:KT):Option (List RV):=match c.1 with|true=>some [RV.d tCU (c.1,(c.2.1,(c.2.2.1,(!c.2.2.2.1,(c.2.2.2.2.2,c.2.2.2.2.1)))))]|false=>some [RV.d tCU (c.1,(c.2.1,(c.2.2.1,(false,(c.2.2.2.2.2,c.2.2.2.2.1)))))]
theorem am9(c:BCU):RS aq5 273 [.d tCU c] (al3 c):=rsX
theorem ZX(c:BCU):Con Tryz.prog 273 [.d tCU c] [.d tCU (jj c)]:=by
 refine aP l9 (am9 _ ⟨0,?_⟩)
 obtain⟨ar,li,ci,cw,fr,to⟩:=c
 cases ar<;>rfl
def Q1:aN:=spN true true [tCU,tP] (fun x=>decide (okC 4000 x.1∧okP 4000 x.2.1)) (fun x=>[RV.d .bool (im (dC x.1) (dec x.2.1))])
theorem Oe:SpK 172 Q1:=spX fun x h=>acw x.1 x.2.1 (at6 h)
def T3:aN:=spN true true [tO,tP] (fun x=>decide (ok Ln 300 x.1∧okP 4000 x.2.1)) (fun x=>[RV.d axf (A9 (dec x.1) (dec x.2.1))])
theorem MP:SpK 292 T3:=spX fun x h=>acO x.1 x.2.1 (at6 h)
def Px:aN:=spN true true [axf] (fun _=>true) (fun x=>[RV.d axf (ju x.1)])
theorem Qc:SpK 275 Px:=spX fun x _=>Zc x.1
def VD:aN:=spN false true [tCU] (fun _=>true) (fun x=>[RV.d tCU (hid (jj x.1))])
theorem Pr:SpK 273 VD:=spX fun x _=>by simp only[aj];exact ZX x.1
def Ih:Env:=(172,Q1)::(292,T3)::(275,Px)::(273,VD)::xQ
theorem vf:EnvAll Tryz.prog Ih:=⟨Oe,MP,Qc,Pr,l9⟩
def aqT:Ctx:=CX Ih []
def adt(c:BO3)(p q:BP)(_k:KT):Option (List RV):=match decide (ok Ln 300 c∧okP 4000 p)with|true=>(match decide (ok Ln 300 c∧okP 4000 q)with|true=>(match(A9 (dec c) (dec p)) !=(A9 (dec c) (dec q))with|true=>some [RV.d axf (i64.wrap ((A9 (dec c) (dec p))-(A9 (dec c) (dec q))))]|false=>(match decide (okP 4000 p)with|true=>(match decide (okP 4000 q)with|true=>(match decide (okT 15000 (hid (enc (xP (dec p))))∧okT 15000 (hid (enc (xP (dec q)))))with|true=>(match(A9 (dec c) (dec p))==0 with|true=>some [RV.d axf (i64.wrap (0-(bG (dec (hid (enc (xP (dec p))))) (dec (hid (enc (xP (dec q))))))))]|false=>some [RV.d axf (bG (dec (hid (enc (xP (dec p))))) (dec (hid (enc (xP (dec q))))))])|false=>none)|false=>none)|false=>none))|false=>none)|false=>none
theorem apj(c:BO3)(p q:BP):RS aqT 276 [.d tO c,.d tP p,.d tP q] (adt c p q):=rsX
theorem aa8(c:BO3)(p q:BP)(h:ok Ln 300 c∧okP 4000 p∧okP 4000 q):Con Tryz.prog 276 [.d tO c,.d tP p,.d tP q] [.d axf (n8 bG (ptd (dec c) (dec p)) (ptd (dec c) (dec q)))]:=by
 refine aP vf (apj _ _ _ ⟨0,?_⟩)
 obtain⟨hc,hp,hq⟩:=h
 obtain⟨c,rfl,bc⟩:=aS hc
 obtain⟨p,rfl,bp,rp⟩:=bz hp
 obtain⟨q,rfl,bq,rq⟩:=bz hq
 have xb:=t7 (xP p) (xP q)
 unfold adt
 simp only[aj,am,okd,aua,aub,mx,Nat.reduceLeDiff,auf,cond_true,a9,aZ,bj (x:= -bG (xP p) (xP q)) (by omega) (by omega),av7]
 unfold n8 A9 ptd
 cases upR c p<;>cases upR c q<;>rfl
def ao6:Ctx:=CX Ih []
def aej(c:BCU)(_k:KT):Option (List RV):=match c.2.2.2.1 with|true=>some [RV.d tCU (hid (jj c))]|false=>some [RV.d tCU c]
theorem aox(c:BCU):RS ao6 233 [.d tCU c] (aej c):=rsX
theorem abX(c:BCU):Con Tryz.prog 233 [.d tCU c] [.d tCU (mf c)]:=by
 refine aP vf (aox _ ⟨0,?_⟩)
 obtain⟨ar,li,ci,cw,fr,to⟩:=c
 unfold aej mf
 cases cw
 ·rfl
 ·simp only[aj];rfl
def Tn:aN:=spN true true [tO,tP,tP] (fun x=>decide (ok Ln 300 x.1∧okP 4000 x.2.1∧okP 4000 x.2.2.1)) (fun x=>[RV.d axf (n8 bG (ptd (dec x.1) (dec x.2.1)) (ptd (dec x.1) (dec x.2.2.1)))])
theorem Xq:SpK 276 Tn:=spX fun x h=>aa8 x.1 x.2.1 x.2.2.1 (at6 h)
def Wq:aN:=spN false true [tCU] (fun _=>true) (fun x=>[RV.d tCU (hid (mf x.1))])
theorem RX:SpK 233 Wq:=spX fun x _=>by simp only[aj];exact abX x.1
def Sz:Env:=(276,Tn)::(233,Wq)::Ih
theorem D2:EnvAll Tryz.prog Sz:=⟨Xq,RX,vf⟩
def amF:Ctx:=CX Sz []
def ae5(c:BO3)(f p:BP)(_k:KT):Option (List RV):=match decide (ok Ln 300 c∧okP 4000 p∧okP 4000 f)with|true=>(match(n8 bG (ptd (dec c) (dec p)) (ptd (dec c) (dec f)))==0 with|true=>some [RV.d axf 0]|false=>(match decide ((n8 bG (ptd (dec c) (dec p)) (ptd (dec c) (dec f)))>0)with|true=>some [RV.d axf 1]|false=>some [RV.d axf 2]))|false=>none
theorem anL(c:BO3)(f p:BP):RS amF 274 [.d tO c,.d tP f,.d tP p] (ae5 c f p):=rsX
theorem ab8(c:BO3)(f p:BP)(h:ok Ln 300 c∧okP 4000 f∧okP 4000 p):Con Tryz.prog 274 [.d tO c,.d tP f,.d tP p] [.d axf (mS bG (ptd (dec c) (dec f)) (ptd (dec c) (dec p)))]:=by
 refine aP D2 (anL _ _ _ ⟨0,?_⟩)
 obtain⟨hc,hf,hp⟩:=h
 unfold ae5 mS
 rw[dT ⟨hc,hp,hf⟩]
 dsimp only
 cases n8 bG (ptd (dec c) (dec p)) (ptd (dec c) (dec f))==0<;>cases decide (n8 bG (ptd (dec c) (dec p)) (ptd (dec c) (dec f))>0)<;>rfl
def M9:aN:=spN true true [tO,tP,tP] (fun x=>decide (ok Ln 300 x.1∧okP 4000 x.2.1∧okP 4000 x.2.2.1)) (fun x=>[RV.d axf (mS bG (ptd (dec x.1) (dec x.2.1)) (ptd (dec x.1) (dec x.2.2.1)))])
theorem U7:SpK 274 M9:=spX fun x h=>ab8 x.1 x.2.1 x.2.2.1 (at6 h)
def UM:Env:=(274,M9)::Sz
theorem C1:EnvAll Tryz.prog UM:=⟨U7,D2⟩
def apg:Ctx:=CX UM []
def adx(c:BO3)(f p q:BP)(_k:KT):Option (List RV):=match decide (ok Ln 300 c∧okP 4000 f∧okP 4000 p)with|true=>(match decide (ok Ln 300 c∧okP 4000 f∧okP 4000 q)with|true=>(match(mS bG (ptd (dec c) (dec f)) (ptd (dec c) (dec p))) !=(mS bG (ptd (dec c) (dec f)) (ptd (dec c) (dec q)))with|true=>some [RV.d axf (ju (i64.wrap ((mS bG (ptd (dec c) (dec f)) (ptd (dec c) (dec p)))-(mS bG (ptd (dec c) (dec f)) (ptd (dec c) (dec q))))))]|false=>(match decide (ok Ln 300 c∧okP 4000 p∧okP 4000 q)with|true=>some [RV.d axf (ju (n8 bG (ptd (dec c) (dec p)) (ptd (dec c) (dec q))))]|false=>none))|false=>none)|false=>none
theorem apb(c:BO3)(f p q:BP):RS apg 234 [.d tO c,.d tP f,.d tP p,.d tP q] (adx c f p q):=rsX
theorem abi(c:BO3)(f p q:BP)(h:ok Ln 300 c∧okP 4000 f∧okP 4000 p∧okP 4000 q):Con Tryz.prog 234 [.d tO c,.d tP f,.d tP p,.d tP q] [.d axf (wB bG (ptd (dec c) (dec f)) (ptd (dec c) (dec p)) (ptd (dec c) (dec q)))]:=by
 refine aP C1 (apb _ _ _ _ ⟨0,?_⟩)
 obtain⟨hc,hf,hp,hq⟩:=h
 unfold adx wB bne
 have b1:=H8 (p:=ptd (dec c) (dec f)) (q:=ptd (dec c) (dec p))
 have b2:=H8 (p:=ptd (dec c) (dec f)) (q:=ptd (dec c) (dec q))
 rw[dT ⟨hc,hf,hp⟩,dT ⟨hc,hf,hq⟩,dT ⟨hc,hp,hq⟩,bj (by omega) (by omega)]
 dsimp only
 cases mS bG (ptd (dec c) (dec f)) (ptd (dec c) (dec p))==mS bG (ptd (dec c) (dec f)) (ptd (dec c) (dec q))<;>rfl
def Vt:aN:=spN true true [tO,tP,tP,tP] (fun x=>decide (ok Ln 300 x.1∧okP 4000 x.2.1∧okP 4000 x.2.2.1∧okP 4000 x.2.2.2.1)) (fun x=>[RV.d axf (wB bG (ptd (dec x.1) (dec x.2.1)) (ptd (dec x.1) (dec x.2.2.1)) (ptd (dec x.1) (dec x.2.2.2.1)))])
theorem Qz:SpK 234 Vt:=spX fun x h=>abi x.1 x.2.1 x.2.2.1 x.2.2.2.1 (at6 h)
def XO:Env:=(234,Vt)::UM
theorem EY:EnvAll Tryz.prog XO:=⟨Qz,C1⟩
def amY:Ctx:=CX XO []
def adh(c:BCU)(p:BP)(_k:KT):Option (List RV):=match !c.1 with|true=>(match decide (okP 4000 c.2.2.2.2.1∧okP 4000 p)with|true=>(match decide (okP 4000 p∧okP 4000 c.2.2.2.2.2)with|true=>(match(cj (dec c.2.2.2.2.1) (dec p))==0 with|true=>some [RV.d .bool true]|false=>(match(cj (dec p) (dec c.2.2.2.2.2))==0 with|true=>some [RV.d .bool true]|false=>some [RV.d .bool ((cj (dec c.2.2.2.2.1) (dec p))==(cj (dec p) (dec c.2.2.2.2.2)))]))|false=>none)|false=>none)|false=>(match decide (ok Ln 300 ((((hid (mf c)).2).2).1)∧okP 4000 ((((((hid (mf c)).2).2).2).2).1)∧okP 4000 p∧okP 4000 ((((((hid (mf c)).2).2).2).2).2))with|true=>some [RV.d .bool (decide ((wB bG (ptd (dec ((((hid (mf c)).2).2).1)) (dec ((((((hid (mf c)).2).2).2).2).1))) (ptd (dec ((((hid (mf c)).2).2).1)) (dec p)) (ptd (dec ((((hid (mf c)).2).2).1)) (dec ((((((hid (mf c)).2).2).2).2).2))))≤0))]|false=>none)
theorem amk(c:BCU)(p:BP):RS amY 173 [.d tCU c,.d tP p] (adh c p):=rsX
theorem YL(c:BCU)(p:BP)(h:okC 4000 c∧okP 4000 p):Con Tryz.prog 173 [.d tCU c,.d tP p] [.d .bool (QR (dC c) (dec p))]:=by
 refine aP EY (amk _ _ ⟨0,?_⟩)
 obtain⟨hc,hp⟩:=h
 obtain⟨ar,li,ci,cw,fr,to⟩:=c
 obtain⟨c1,c2,c3,c4⟩:=hc
 unfold adh QR
 simp only[aj]
 cases ar
 ·try dsimp only[Bool.not_false]
  rw[dT ⟨c3,hp⟩,dT ⟨hp,c4⟩]
  show _=some [RV.d .bool (wy (cj (dec fr) (dec p)) (cj (dec p) (dec to)))]
  unfold wy
  dsimp only
  cases cj (dec fr) (dec p)==0<;>cases cj (dec p) (dec to)==0<;>rfl
 ·have e:=(c1 rfl).1
  cases cw
  ·rw[dT (show ok Ln 300 (mf (true,li,ci,false,fr,to)).2.2.1∧okP 4000 (mf (true,li,ci,false,fr,to)).2.2.2.2.1∧okP 4000 p∧okP 4000 (mf (true,li,ci,false,fr,to)).2.2.2.2.2 from⟨e,c3,hp,c4⟩)]
   rfl
  ·rw[dT (show ok Ln 300 (mf (true,li,ci,true,fr,to)).2.2.1∧okP 4000 (mf (true,li,ci,true,fr,to)).2.2.2.2.1∧okP 4000 p∧okP 4000 (mf (true,li,ci,true,fr,to)).2.2.2.2.2 from⟨e,c4,hp,c3⟩)]
   rfl
def Xo:aN:=spN true true [tCU,tP] (fun x=>decide (okC 4000 x.1∧okP 4000 x.2.1)) (fun x=>[RV.d .bool (QR (dC x.1) (dec x.2.1))])
theorem Vb:SpK 173 Xo:=spX fun x h=>YL x.1 x.2.1 (at6 h)
def aeM:Env:=(173,Xo)::XO
theorem P8:EnvAll Tryz.prog aeM:=⟨Vb,EY⟩
def apJ:Ctx:=CX aeM []
def aek(c:BCU)(p:BP)(_k:KT):Option (List RV):=match decide (okC 4000 c∧okP 4000 p)with|true=>(match im (dC c) (dec p)with|true=>(match decide (okC 4000 c∧okP 4000 p)with|true=>some [RV.d .bool (QR (dC c) (dec p))]|false=>none)|false=>some [RV.d .bool false])|false=>none
theorem anD(c:BCU)(p:BP):RS apJ 89 [.d tCU c,.d tP p] (aek c p):=rsX
theorem acG(c:BCU)(p:BP)(h:okC 4000 c∧okP 4000 p):Con Tryz.prog 89 [.d tCU c,.d tP p] [.d .bool (onP (dC c) (dec p))]:=by
 refine aP P8 (anD _ _ ⟨0,?_⟩)
 unfold aek onP
 rw[dT h]
 dsimp only
 cases im (dC c) (dec p)<;>rfl
def Ut:aN:=spN true true [tCU,tP] (fun x=>decide (okC 4000 x.1∧okP 4000 x.2.1)) (fun x=>[RV.d .bool (onP (dC x.1) (dec x.2.1))])
theorem Wo:SpK 89 Ut:=spX fun x h=>acG x.1 x.2.1 (at6 h)
end Go.Proofs.YtlahabkjhgkkjaaGreat
end
