/- Lines and circles: the reference's contracts. -/
import Derived.Test.YtlahabkjhgkkjaaGreatW14
import Derived.Test.YtlahabkjhgkkjaaGreatW12
noncomputable section
namespace Go.Proofs.YtlahabkjhgkkjaaGreat
open Go.RowKit Go.IntKind
theorem asj:type_of% @not_false_eq_true:=@not_false_eq_true
def Cj(l:Ln)(p:Pt):Rt:=mkR (np l p) (m7 l p) p.2.2.2.2
def qm(c:Ln)(p:Pt):Rt:=arT (sqP p (ctr c)) (-c.2.2)
instance ao2 {r:Rt} {a:Rat} [h:Rdd r]:Rdd (arT r a):=⟨h.rd⟩
instance Xa {l:Ln} {p:Pt} [h:Rpd p]:Rdd (Cj l p):=by
 have:Nn p.2.2.2.2:=inferInstance
 exact pP
instance aoV {l:Ln} {p:Pt} {i j:Nat} [h:Bd l i] [h':Bd p j]:Bd (Cj l p) (5*i+5*j+5):=by
 have a1:Bd (np l p) _:=inferInstance
 have a2:Bd (m7 l p) _:=inferInstance
 have a3:Bd (mkR (np l p) (m7 l p) p.2.2.2.2) _:=inferInstance
 exact a3.mono (by omega)
theorem VV{l:Ln}{p:Pt}[h:Rpd p]:sgR (Cj l p)=nB l p:=by
 unfold nB
 rw[Et (Xa (l:=l) (p:=p)).nn,RE.sgn2_re h.nn]
 unfold Cj
 rw[RE.vR_mk]
namespace RE
theorem XZ(a b q:RE):a+ -q+b=a+b-q:=by
 induction a using aqq
 induction b using aqq
 induction q using aqq
 exact snd fun n=>by
  simp only[RL.add,RL.neg]
  grind
theorem Zj(a b q:RE):a-q+b=a+b-q:=by
 induction a using aqq
 induction b using aqq
 induction q using aqq
 exact snd fun n=>by
  simp only[RL.add,RL.neg]
  grind
theorem shift_l(a b d q:RE)(h:a+b=a+d):a+ -q+b=a-q+d:=by
 rw[XZ,Zj,h]
end RE
theorem VZ{c:Ln}{p:Pt}[h:Rpd p]: -sgR (qm c p)=lF c p:=by
 unfold lF
 have hr:Rdd (qm c p):=inferInstanceAs (Rdd (arT (sqP p (ctr c)) (-c.2.2)))
 rw[Et hr.nn,RE.sgn2_re h.nn]
 have e:RE.vR (qm c p)=RE.v2 (sqA p (ctr c)-c.2.2) (sqB p (ctr c)) p.2.2.2.2:=by
  have e1:=RE.vR_co (sqA p (ctr c)) (sqB p (ctr c)) p.2.2.2.2
  unfold RE.vR RE.v2 at e1
  unfold qm arT sqP RE.vR RE.v2
  simp only
  rw[RE.of_add,RE.of_neg,RE.of_sub]
  have e2:RE.of (coR (sqA p (ctr c)) (sqB p (ctr c)) p.2.2.2.2).1=RE.of (sqA p (ctr c)):=by
   unfold coR
   cases decide (sqB p (ctr c)=0)<;>rfl
  rw[e2]at e1 ⊢
  exact RE.shift_l _ _ _ _ e1
 rw[e]
theorem u6{q:Rat}(h:q≠0):aS q 0=if 0<q then 1 else-1:=by
 rcases(by grind:q<0∨0<q)with h'|h'
 ·rw[c7 h',aqQ (by grind)]
 ·rw[cS h',aqW h']
def Ax:aM:=spN false true [tR,tR] (fun x=>decide (eL x.1 x.2.1)) (fun x=>[RV.d tR (hid (ag (ab x.1/ab x.2.1))),RV.d atB 0])
theorem xz:SpK 217 Ax:=spX fun x h=>by simp only[aj];exact BF x.1 x.2.1 (aqr h)
def oS:aM:=spN false true [tR,tR,tR] (fun x=>decide (ok Rat 100000 x.1∧ok Rat 100000 x.2.1∧ok Rat 100000 x.2.2.1∧0≤ab x.2.2.1)) (fun x=>[RV.d tO (hid (enc (mkR (ab x.1) (ab x.2.1) (ab x.2.2.1)))),RV.d atB 0])
theorem mi:SpK 49 oS:=spX fun x h=>by simp only[aj];exact S3 x.1 x.2.1 x.2.2.1 (aqr h)
def kv:Env:=[(78,fo),(50,gA),(127,gW),(161,gY),(132,gn),(107,jb),(124,i7),(217,Ax),(49,oS),(266,zh),(54,sB)]
theorem gh:EnvAll Tryz.prog kv:=⟨dR,eP,fG,fA,eJ,fY,fZ,xz,mi,wM,qO,trivial⟩
def af5:Ctx:=CX kv []
def QX(a:BR)(_k:KT):Option (List RV):=match decide (okR a∧okR a)with|true=>some [RV.d tR (hid (ag (ab a*ab a)))]|false=>none
theorem aft(a:BR):RS af5 162 [.d tR a] (QX a):=rsX
theorem Nf(a:BR)(h:okR a):Con Tryz.prog 162 [.d tR a] [.d tR (ag (ab a*ab a))]:=by
 refine aN gh (aft _ ⟨0,?_⟩)
 unfold QX
 rw[dT ⟨h,h⟩]
 simp only[aj]
def aet:Ctx:=CX kv []
def KQ(a b:BR)(_k:KT):Option (List RV):=match decide (okR a∧okR b)with|true=>some [RV.d tR (hid (ag (ab a+ab b)))]|false=>none
theorem aeM(a b:BR):RS aet 140 [.d tR a,.d tR b] (KQ a b):=rsX
theorem L6(a b:BR)(h:okR a∧okR b):Con Tryz.prog 140 [.d tR a,.d tR b] [.d tR (ag (ab a+ab b))]:=by
 refine aN gh (aeM _ _ ⟨0,?_⟩)
 unfold KQ
 rw[dT h]
 simp only[aj]
def adQ:Ctx:=CX kv []
def RQ(a b:BR)(_k:KT):Option (List RV):=match decide (okR a∧okR b)with|true=>some [RV.d tR (hid (ag (ab a-ab b)))]|false=>none
theorem adS(a b:BR):RS adQ 143 [.d tR a,.d tR b] (RQ a b):=rsX
theorem QQ(a b:BR)(h:okR a∧okR b):Con Tryz.prog 143 [.d tR a,.d tR b] [.d tR (ag (ab a-ab b))]:=by
 refine aN gh (adS _ _ ⟨0,?_⟩)
 unfold RQ
 rw[dT h]
 simp only[aj]
def aeu:Ctx:=CX kv []
def MT(a b:BR)(_k:KT):Option (List RV):=match decide (okR a∧okR b)with|true=>some [RV.d tR (hid (ag (ab a*ab b)))]|false=>none
theorem aeX(a b:BR):RS aeu 141 [.d tR a,.d tR b] (MT a b):=rsX
theorem Pm(a b:BR)(h:okR a∧okR b):Con Tryz.prog 141 [.d tR a,.d tR b] [.d tR (ag (ab a*ab b))]:=by
 refine aN gh (aeX _ _ ⟨0,?_⟩)
 unfold MT
 rw[dT h]
 simp only[aj]
def aeH:Ctx:=CX kv []
def Mv(a b:BR)(_k:KT):Option (List RV):=match decide (eL a b)with|true=>some [RV.d tR (hid (ag (ab a/ab b)))]|false=>none
theorem aeo(a b:BR):RS aeH 142 [.d tR a,.d tR b] (Mv a b):=rsX
theorem QB(a b:BR)(h:eL a b):Con Tryz.prog 142 [.d tR a,.d tR b] [.d tR (ag (ab a/ab b))]:=by
 refine aN gh (aeo _ _ ⟨0,?_⟩)
 unfold Mv
 rw[dT h]
 simp only[aj]
def G3:aM:=spN false true [tR] (fun x=>decide (okR x.1)) (fun x=>[RV.d tR (hid (ag (ab x.1*ab x.1)))])
theorem JY:SpK 162 G3:=spX fun x h=>by simp only[aj];exact Nf x.1 (aqr h)
def sR:aM:=spN false true [tR,tR] (fun x=>decide (okR x.1∧okR x.2.1)) (fun x=>[RV.d tR (hid (ag (ab x.1+ab x.2.1)))])
theorem rE:SpK 140 sR:=spX fun x h=>by simp only[aj];exact L6 x.1 x.2.1 (aqr h)
def AL:aM:=spN false true [tR,tR] (fun x=>decide (okR x.1∧okR x.2.1)) (fun x=>[RV.d tR (hid (ag (ab x.1-ab x.2.1)))])
theorem wN:SpK 143 AL:=spX fun x h=>by simp only[aj];exact QQ x.1 x.2.1 (aqr h)
def pM:aM:=spN false true [tR,tR] (fun x=>decide (okR x.1∧okR x.2.1)) (fun x=>[RV.d tR (hid (ag (ab x.1*ab x.2.1)))])
theorem mt:SpK 141 pM:=spX fun x h=>by simp only[aj];exact Pm x.1 x.2.1 (aqr h)
def As:aM:=spN false true [tR,tR] (fun x=>decide (eL x.1 x.2.1)) (fun x=>[RV.d tR (hid (ag (ab x.1/ab x.2.1)))])
theorem wT:SpK 142 As:=spX fun x h=>by simp only[aj];exact QB x.1 x.2.1 (aqr h)
def mu:Env:=(162,G3)::(140,sR)::(143,AL)::(141,pM)::(142,As)::kv
theorem iE:EnvAll Tryz.prog mu:=⟨JY,rE,wN,mt,wT,gh⟩
def afj:Ctx:=CX mu []
def UV(r:BO3)(_k:KT):Option (List RV):=match decide (okR r.1)with|true=>(match decide (okR r.2.1)with|true=>(match decide (okR (hid (ag (ab r.2.1*ab r.2.1)))∧okR r.2.2)with|true=>(match decide (okR (hid (ag (ab r.1*ab r.1)))∧okR (hid (ag (ab (hid (ag (ab r.2.1*ab r.2.1)))*ab r.2.2))))with|true=>some [RV.d tR (hid (ag (ab (hid (ag (ab r.1*ab r.1)))-ab (hid (ag (ab (hid (ag (ab r.2.1*ab r.2.1)))*ab r.2.2))))))]|false=>none)|false=>none)|false=>none)|false=>none
theorem agi(r:BO3):RS afj 79 [.d tO r] (UV r):=rsX
theorem My(r:BO3)(h:ok Rt 90000 r):Con Tryz.prog 79 [.d tO r] [.d tR (ag (noR (dec r)))]:=by
 refine aN iE (agi _ ⟨0,?_⟩)
 have hr:=h
 obtain⟨r,rfl,br⟩:=aQ hr
 unfold UV
 simp only[aj,ak,aD,aE,aA,av,aT,aqv,aqw,Nat.reduceAdd,Nat.reduceLeDiff]
 rfl
def ahM:Ctx:=CX mu []
def PZ(l:BO3)(p:BP)(_k:KT):Option (List RV):=match decide (okR l.1∧okR p.1)with|true=>(match decide (okR l.2.1∧okR p.2.2.1)with|true=>(match decide (okR (hid (ag (ab l.1*ab p.1)))∧okR (hid (ag (ab l.2.1*ab p.2.2.1))))with|true=>(match decide (okR (hid (ag (ab (hid (ag (ab l.1*ab p.1)))+ab (hid (ag (ab l.2.1*ab p.2.2.1))))))∧okR l.2.2)with|true=>(match decide (okR l.1∧okR p.2.1)with|true=>(match decide (okR l.2.1∧okR p.2.2.2.1)with|true=>(match decide (okR (hid (ag (ab l.1*ab p.2.1)))∧okR (hid (ag (ab l.2.1*ab p.2.2.2.1))))with|true=>(match decide (ok Rat 100000 (hid (ag (ab (hid (ag (ab (hid (ag (ab l.1*ab p.1)))+ab (hid (ag (ab l.2.1*ab p.2.2.1))))))-ab l.2.2)))∧ok Rat 100000 (hid (ag (ab (hid (ag (ab l.1*ab p.2.1)))+ab (hid (ag (ab l.2.1*ab p.2.2.2.1))))))∧ok Rat 100000 p.2.2.2.2∧0≤ab p.2.2.2.2)with|true=>some [RV.d tO (hid (enc (mkR (ab (hid (ag (ab (hid (ag (ab (hid (ag (ab l.1*ab p.1)))+ab (hid (ag (ab l.2.1*ab p.2.2.1))))))-ab l.2.2)))) (ab (hid (ag (ab (hid (ag (ab l.1*ab p.2.1)))+ab (hid (ag (ab l.2.1*ab p.2.2.2.1))))))) (ab p.2.2.2.2))))]|false=>none)|false=>none)|false=>none)|false=>none)|false=>none)|false=>none)|false=>none)|false=>none
theorem aeZ(l:BO3)(p:BP):RS ahM 121 [.d tO l,.d tP p] (PZ l p):=rsX
theorem OZ(l:BO3)(p:BP)(h:ok Ln 300 l∧okP 4000 p):Con Tryz.prog 121 [.d tO l,.d tP p] [.d tO (enc (Cj (dec l) (dec p)))]:=by
 refine aN iE (aeZ _ _ ⟨0,?_⟩)
 obtain⟨hl,hp⟩:=h
 obtain⟨l,rfl,bl⟩:=aQ hl
 obtain⟨p,rfl,bp,rp⟩:=bG hp
 have hn:0≤p.2.2.2.2:=rp.nn
 unfold PZ
 simp only[aj,ak,aD,aE,aA,av,aC,aT,aqv,aqw,Nat.reduceAdd,Nat.reduceLeDiff,dT hn]
 rfl
def ah6:Ctx:=CX mu []
def Tz(c:BO3)(p:BP)(_k:KT):Option (List RV):=match decide (okP 3500 p∧ok (Rat×Rat) 300 (c.1,c.2.1))with|true=>(match decide (okR c.2.2)with|true=>(match decide (ok Rt 100000 (hid (enc (sqP (dec p) (dec (c.1,c.2.1)))))∧ok Rat 100000 (hid (ag (-ab c.2.2))))with|true=>some [RV.d tO (hid (enc (arT (dec (hid (enc (sqP (dec p) (dec (c.1,c.2.1)))))) (ab (hid (ag (-ab c.2.2)))))))]|false=>none)|false=>none)|false=>none
theorem aer(c:BO3)(p:BP):RS ah6 228 [.d tO c,.d tP p] (Tz c p):=rsX
theorem Po(c:BO3)(p:BP)(h:ok Ln 300 c∧okP 3500 p):Con Tryz.prog 228 [.d tO c,.d tP p] [.d tO (enc (qm (dec c) (dec p)))]:=by
 refine aN iE (aer _ _ ⟨0,?_⟩)
 obtain⟨hc,hp⟩:=h
 obtain⟨c,rfl,bc⟩:=aQ hc
 obtain⟨p,rfl,bp,rp⟩:=bG hp
 have e0:(dec ((ag c.1,ag c.2.1):BV):Rat×Rat)=ctr c:=ak (ctr c)
 have e1:decide (ok (Rat×Rat) 300 ((ag c.1,ag c.2.1):BV))=true:=okd (x:=ctr c) (by decide) (by decide)
 unfold Tz
 simp only[aj,ak,aD,aE,aA,av,okd,aC,aT,aqv,aqw,mx,Nat.reduceAdd,Nat.reduceMul,Nat.reduceLeDiff,aqC,cond_true,bg,e0,e1]
 rfl
def ago:Ctx:=CX mu []
def RW(l:BO3)(v:BV)(_k:KT):Option (List RV):=let y1:=hid (ag (ab l.1*ab l.1));let y2:=hid (ag (ab l.2.1*ab l.2.1));let y3:=hid (ag (ab l.1*ab v.1));let y4:=hid (ag (ab l.2.1*ab v.2));let y5:=hid (ag (ab y3+ab y4));let y6:=hid (ag (ab l.2.2-ab y5));let y7:=hid (ag (ab y1+ab y2));let y8:=hid (ag (ab y6/ab y7));let y9:=hid (ag (ab y8*ab l.1));let y10:=hid (ag (ab y8*ab l.2.1));match decide (okR l.1∧okR l.1)with|true=>(match decide (okR l.2.1∧okR l.2.1)with|true=>(match decide (okR y1∧okR y2)with|true=>(match decide (okR l.1∧okR v.1)with|true=>(match decide (okR l.2.1∧okR v.2)with|true=>(match decide (okR y3∧okR y4)with|true=>(match decide (okR l.2.2∧okR y5)with|true=>(match decide (eL y6 y7)with|true=>(match decide (okR y8∧okR l.1)with|true=>(match decide (okR v.1∧okR y9)with|true=>(match decide (okR y8∧okR l.2.1)with|true=>(match decide (okR v.2∧okR y10)with|true=>some [RV.d tV (hid (ag (ab v.1+ab y9)),hid (ag (ab v.2+ab y10)))]|false=>none)|false=>none)|false=>none)|false=>none)|false=>none)|false=>none)|false=>none)|false=>none)|false=>none)|false=>none)|false=>none)|false=>none
theorem afX(l:BO3)(v:BV):RS ago 55 [.d tO l,.d tV v] (RW l v):=rsX
theorem K3(l:BO3)(v:BV)(h:ok Ln 300 l∧ok (Rat×Rat) 200 v∧((dec l:Ln).1≠0∨(dec l:Ln).2.1≠0)):Con Tryz.prog 55 [.d tO l,.d tV v] [.d tV (enc (lA (dec l) (dec v)))]:=by
 refine aN iE (afX _ _ ⟨0,?_⟩)
 obtain⟨hl,hv,h0⟩:=h
 obtain⟨l,rfl,bl⟩:=aQ hl
 obtain⟨v,rfl,bv⟩:=aQ hv
 have hn:l.1*l.1+l.2.1*l.2.1≠0:=sO (by rw[ak]at h0;exact h0)
 have e:(l.2.2-(l.1*v.1+l.2.1*v.2))/(l.1*l.1+l.2.1*l.2.1)= -qZ l v:=by
  unfold qZ
  grind
 unfold RW
 simp only[aj,ak,aD,aE,aA,av,aT,aB,aqv,aqw,Nat.reduceAdd,Nat.reduceLeDiff,hn,ne_eq,asj]
 unfold lA
 rw[e,show v.1+ -qZ l v*l.1=v.1-qZ l v*l.1 by grind,show v.2+ -qZ l v*l.2.1=v.2-qZ l v*l.2.1 by grind]
 rfl
def Gu:aM:=spN false true [tO] (fun x=>decide (ok Rt 90000 x.1)) (fun x=>[RV.d tR (hid (ag (noR (dec x.1))))])
theorem IP:SpK 79 Gu:=spX fun x h=>by simp only[aj];exact My x.1 (aqr h)
def AC:aM:=spN false true [tO,tP] (fun x=>decide (ok Ln 300 x.1∧okP 4000 x.2.1)) (fun x=>[RV.d tO (hid (enc (Cj (dec x.1) (dec x.2.1))))])
theorem xg:SpK 121 AC:=spX fun x h=>by simp only[aj];exact OZ x.1 x.2.1 (aqr h)
def Gh:aM:=spN false true [tO,tP] (fun x=>decide (ok Ln 300 x.1∧okP 3500 x.2.1)) (fun x=>[RV.d tO (hid (enc (qm (dec x.1) (dec x.2.1))))])
theorem Ke:SpK 228 Gh:=spX fun x h=>by simp only[aj];exact Po x.1 x.2.1 (aqr h)
def yT:aM:=spN false true [tO,tV] (fun x=>decide (ok Ln 300 x.1∧ok (Rat×Rat) 200 x.2.1∧((dec x.1:Ln).1≠0∨(dec x.1:Ln).2.1≠0))) (fun x=>[RV.d tV (hid (enc (lA (dec x.1) (dec x.2.1))))])
theorem wV:SpK 55 yT:=spX fun x h=>by simp only[aj];exact K3 x.1 x.2.1 (aqr h)
def zu:Env:=(79,Gu)::(121,AC)::(228,Gh)::(55,yT)::mu
theorem uu:EnvAll Tryz.prog zu:=⟨IP,xg,Ke,wV,iE⟩
def adT:Ctx:=CX zu []
def NO(r:BO3)(_k:KT):Option (List RV):=match decide (okR r.1)with|true=>(match decide (okR r.2.1)with|true=>(match(aS (ab r.1) 0)==(aS (ab r.2.1) 0)with|true=>some [RV.d atB (aS (ab r.1) 0)]|false=>(match(aS (ab r.2.1) 0)==0 with|true=>some [RV.d atB (aS (ab r.1) 0)]|false=>(match(aS (ab r.1) 0)==0 with|true=>some [RV.d atB (aS (ab r.2.1) 0)]|false=>(match decide (ok Rt 90000 r)with|true=>(match decide (okR (hid (ag (noR (dec r)))))with|true=>(match decide ((aS (ab (hid (ag (noR (dec r))))) 0)>0)with|true=>some [RV.d atB (aS (ab r.1) 0)]|false=>some [RV.d atB (aS (ab r.2.1) 0)])|false=>none)|false=>none))))|false=>none)|false=>none
theorem afB(r:BO3):RS adT 18 [.d tO r] (NO r):=rsX
theorem UZ(r:BO3)(h:okT 90000 r):Con Tryz.prog 18 [.d tO r] [.d atB (sgR (dec r))]:=by
 refine aN uu (afB _ ⟨0,?_⟩)
 have hr:=h
 obtain⟨r,rfl,br,rr⟩:=ew hr
 unfold NO
 simp only[aj,ak,aD,aE,aA,av,okd,aT,Nat.reduceAdd,Nat.reduceMul,Nat.reduceLeDiff,aH,aL]
 rw[aak rr]
 by_cases hb:r.2.1=0
 ·rw[aqs hb,hb,dp]
  by_cases ha:aS r.1 0=0
  ·rw[ha];rfl
  ·rw[show(aS r.1 0==0)=false by simp[ha]];rfl
 ·have hn:=agA rr hb
  have e2:=u6 hn
  have hb2:=u6 hb
  rw[aqu hb,show(aS r.2.1 0==0)=false by rw[aH,aqu hb]]
  by_cases ha:r.1=0
  ·rw[aqs ha,ha,dp,show((0:Int)==aS r.2.1 0)=false by rw[hb2];split<;>rfl]
   rfl
  ·have ha2:=u6 ha
   rw[aqu ha,show(aS r.1 0==0)=false by rw[aH,aqu ha]]
   cases hq:(aS r.1 0==aS r.2.1 0)
   ·have hne:aS r.1 0≠aS r.2.1 0:=by simpa using hq
    rw[e2]
    by_cases hp:0<noR r
    ·rw[aqs hp,aqW hp,asC]
     rfl
    ·rw[aqu hp,aqQ hp]
     show some [RV.d atB (aS r.2.1 0)]=some [RV.d atB (aS r.1 0* -1)]
     rw[show aS r.2.1 0=aS r.1 0* -1 by
      rw[ha2,hb2]at hne ⊢
      split at hne<;>split at hne<;>simp_all]
   ·rfl
def Gg:aM:=spN true true [tO] (fun x=>decide (okT 90000 x.1)) (fun x=>[RV.d atB (sgR (dec x.1))])
theorem IZ:SpK 18 Gg:=spX fun x h=>UZ x.1 (aqr h)
def yC:Env:=(18,Gg)::zu
theorem tM:EnvAll Tryz.prog yC:=⟨IZ,uu⟩
def adR:Ctx:=CX yC []
def PY(l:BO3)(p:BP)(_k:KT):Option (List RV):=match decide (ok Ln 300 l∧okP 4000 p)with|true=>(match decide (okT 90000 (hid (enc (Cj (dec l) (dec p)))))with|true=>some [RV.d atB (sgR (dec (hid (enc (Cj (dec l) (dec p))))))]|false=>none)|false=>none
theorem aif(l:BO3)(p:BP):RS adR 164 [.d tO l,.d tP p] (PY l p):=rsX
theorem Tv(l:BO3)(p:BP)(h:ok Ln 300 l∧okP 4000 p):Con Tryz.prog 164 [.d tO l,.d tP p] [.d atB (nB (dec l) (dec p))]:=by
 refine aN tM (aif _ _ ⟨0,?_⟩)
 obtain⟨hl,hp⟩:=h
 obtain⟨l,rfl,bl⟩:=aQ hl
 obtain⟨p,rfl,bp,rp⟩:=bG hp
 unfold PY
 simp only[aj,ak,okd,aqv,aqw,Nat.reduceAdd,Nat.reduceMul,Nat.reduceLeDiff,bh,bg]
 rw[VV]
def agx:Ctx:=CX yC []
def Rs(c:BO3)(p:BP)(_k:KT):Option (List RV):=match decide (ok Ln 300 c∧okP 3500 p)with|true=>(match decide (okT 90000 (hid (enc (qm (dec c) (dec p)))))with|true=>some [RV.d atB (i64.wrap (0-(sgR (dec (hid (enc (qm (dec c) (dec p))))))))]|false=>none)|false=>none
theorem agv(c:BO3)(p:BP):RS agx 163 [.d tO c,.d tP p] (Rs c p):=rsX
theorem Ml(c:BO3)(p:BP)(h:ok Ln 300 c∧okP 3500 p):Con Tryz.prog 163 [.d tO c,.d tP p] [.d atB (lF (dec c) (dec p))]:=by
 refine aN tM (agv _ _ ⟨0,?_⟩)
 obtain⟨hc,hp⟩:=h
 obtain⟨c,rfl,bc⟩:=aQ hc
 obtain⟨p,rfl,bp,rp⟩:=bG hp
 have hr:Rdd (qm c p):=inferInstanceAs (Rdd (arT (sqP p (ctr c)) (-c.2.2)))
 have br:Bd (qm c p) 90000:=(inferInstance:Bd (arT (sqP p (ctr c)) (-c.2.2)) _).mono (by decide)
 have hb: -1≤sgR (qm c p)∧sgR (qm c p)≤1:=jd _ _ _
 unfold Rs
 simp only[aj,ak,okd,aqv,aqw,Nat.reduceLeDiff,bh,bg,asp,bi (x:= -sgR (qm c p)) (by omega) (by omega)]
 rw[VZ]
def F6:aM:=spN true true [tO,tP] (fun x=>decide (ok Ln 300 x.1∧okP 4000 x.2.1)) (fun x=>[RV.d atB (nB (dec x.1) (dec x.2.1))])
theorem JB:SpK 164 F6:=spX fun x h=>Tv x.1 x.2.1 (aqr h)
def Hr:aM:=spN true true [tO,tP] (fun x=>decide (ok Ln 300 x.1∧okP 3500 x.2.1)) (fun x=>[RV.d atB (lF (dec x.1) (dec x.2.1))])
theorem IS:SpK 163 Hr:=spX fun x h=>Ml x.1 x.2.1 (aqr h)
abbrev tCU:Ty:=.st (.pair .bool (.pair tO (.pair tO (.pair .bool (.pair tP tP)))))
abbrev BCU:=Bool×BO3×BO3×Bool×BP×BP
abbrev Cv:=Bool×Ln×Ln×Bool×Pt×Pt
def dC(c:BCU):Cv:=(c.1,dec c.2.1,dec c.2.2.1,c.2.2.2.1,dec c.2.2.2.2.1,dec c.2.2.2.2.2)
def nY(x:BO3):Prop:=ok Ln 300 x∧(0:Rat)<(dec x:Ln).2.2
instance (x:BO3):Decidable (nY x):=by unfold nY;infer_instance
def Mc(x:BO3):Prop:=ok Ln 300 x∧((dec x:Ln).1≠0∨(dec x:Ln).2.1≠0)
instance (x:BO3):Decidable (Mc x):=by unfold Mc;infer_instance
def okC(k:Nat)(c:BCU):Prop:=(c.1=true→nY c.2.2.1)∧(c.1=false→Mc c.2.1)∧okP k c.2.2.2.2.1∧okP k c.2.2.2.2.2
instance (k:Nat) (c:BCU):Decidable (okC k c):=by unfold okC;infer_instance
def frC(c:Cv):Pt:=c.2.2.2.2.1
def toC(c:Cv):Pt:=c.2.2.2.2.2
def lnC(c:Cv):Ln:=c.2.1
def ciC(c:Cv):Ln:=c.2.2.1
def cwC(c:Cv):Bool:=c.2.2.2.1
def gQ(c:Cv)(p:Pt):Bool:=bif c.1 then lF (ciC c) p==0 else nB (lnC c) p==0
def upR(c:Ln)(p:Pt):Bool:=decide (d9 (yP p) c.2.1>0)||(d9 (yP p) c.2.1==0&&decide (d9 (xP p) c.1>0))
def ptd(c:Ln)(p:Pt):Bool×Rt:=(upR c p,xP p)
def yq(c:Ln)(p:Pt):Int:=bif upR c p then 0 else 1
def ccF(c:Cv):Pt:=bif cwC c then toC c else frC c
def ccT(c:Cv):Pt:=bif cwC c then frC c else toC c
def Lf(c:Cv)(p:Pt):Bool:=bif c.1 then decide (So bL (ptd (ciC c) (ccF c)) (ptd (ciC c) p) (ptd (ciC c) (ccT c))≤0)else aia (cz (frC c) p) (cz p (toC c))
def onP(c:Cv)(p:Pt):Bool:=gQ c p&&Lf c p
def nh(c:BCU):BCU:=(c.1,c.2.1,c.2.2.1,c.1&&!c.2.2.2.1,c.2.2.2.2.2,c.2.2.2.2.1)
def lk(c:BCU):BCU:=bif c.2.2.2.1 then nh c else c
def flP(p:Pt):Pt:=(-p.1,-p.2.1,p.2.2.1,p.2.2.2.1,p.2.2.2.2)
def flC(c:Ln):Ln:=(-c.1,c.2.1,c.2.2)
def du(c:Cv)(p q:Pt):Int:=bif c.1 then(bif cwC c then pW bL (ptd (flC (ciC c)) (flP (frC c))) (ptd (flC (ciC c)) (flP p)) (ptd (flC (ciC c)) (flP q))else pW bL (ptd (ciC c) (frC c)) (ptd (ciC c) p) (ptd (ciC c) q))
 else(bif decide (cz (frC c) (toC c)>0)then-cz p q else cz p q)
def onR(c:Cv)(p:Pt):Bool:=gQ c p&&(decide (du c (frC c) p≤0)&&decide (du c p (toC c)≤0))
theorem aim(k:Nat){c:BCU}(h:okC k c):okC k (nh c):=⟨h.1,h.2.1,h.2.2.2,h.2.2.1⟩
theorem Wh(p q:Pt): -1≤cz p q∧cz p q≤1:=by
 unfold cz
 cases bL (xP p) (xP q)==0
 ·exact sX _ _
 ·exact sX _ _
theorem Gi{p q:Bool×Rt}:0≤m9 bL p q∧m9 bL p q≤2:=by
 unfold m9
 cases qX bL q p==0<;>cases decide (qX bL q p>0)<;>simp only[cond_true,cond_false]<;>omega
def rQ(c:BCU):BCU:=(c.1,c.2.1,(ag (-ab c.2.2.1.1),c.2.2.1.2),!c.2.2.2.1,enc (flP (dec c.2.2.2.2.1)),enc (flP (dec c.2.2.2.2.2)))
instance aqc {p:Pt} [h:Rpd p]:Rpd (flP p):=by
 refine⟨?_⟩
 have:=h.rd
 unfold FJ flP at*
 simp only
 have e:(-p.2.1=0)↔p.2.1=0:=by constructor<;>intro h<;>grind
 rw[e]
 exact this
instance ap5 {p:Pt} {j:Nat} [h:Bd p j]:Bd (flP p) j:=by
 have i1:Bd ((-p.1,-p.2.1,p.2.2.1,p.2.2.2.1,p.2.2.2.2):Pt) _:=inferInstance
 exact i1.mono (cH (by omega) (cH (by omega) (cH (by omega) (cH (by omega) (by omega)))))
theorem mh{j k:Nat}{x:BP}(h:okP j x)(hj:j≤k)(hk:k≤480000):okP k x:=by
 obtain⟨p,rfl,bp,rp⟩:=bG h
 exact aqr (bg hj hk)
theorem Jq{j k:Nat}{c:BCU}(h:okC j c)(hj:j≤k)(hk:k≤480000):okC k c:=⟨h.1,h.2.1,mh h.2.2.1 hj hk,mh h.2.2.2 hj hk⟩
theorem DI{x:BP}(h:okP 4000 x):okP 4000 (enc (flP (dec x))):=by
 obtain⟨p,rfl,bp,rp⟩:=bG h
 rw[ak]
 exact aqr (bg (x:=flP p) (by decide) (by decide))
theorem afO{x:BO3}(h:ok Ln 300 x):ok Ln 300 ((ag (-ab x.1),x.2):BO3)∧(dec ((ag (-ab x.1),x.2):BO3):Ln)=flC (dec x):=by
 obtain⟨l,rfl,bl⟩:=aQ h
 have e:((ag (-ab (enc l:BO3).1),(enc l:BO3).2):BO3)=enc (flC l):=by
  rw[aD,aA,av]
  rfl
 rw[e,ak,ak]
 refine⟨?_,rfl⟩
 have i1:Bd (flC l) 300:=(inferInstance:Bd ((-l.1,l.2.1,l.2.2):Ln) _).mono (by decide)
 exact aqr (okd (x:=flC l) (aqE _) (by decide))
def xf:Env:=[(124,i7),(119,mo),(85,oA),(138,FS),(139,ES),(96,mH),(164,F6),(163,Hr)]
theorem lX:EnvAll Tryz.prog xf:=⟨fZ,jF,mM,Bk,Cl,jW,JB,IS,trivial⟩
def al2:Ctx:=CX xf []
def adl(c:BCU)(p:BP)(_k:KT):Option (List RV):=match c.1 with|true=>(match decide (ok Ln 300 c.2.2.1∧okP 3500 p)with|true=>some [RV.d .bool ((lF (dec c.2.2.1) (dec p))==0)]|false=>none)|false=>(match decide (ok Ln 300 c.2.1∧okP 4000 p)with|true=>some [RV.d .bool ((nB (dec c.2.1) (dec p))==0)]|false=>none)
theorem aox(c:BCU)(p:BP):RS al2 80 [.d tCU c,.d tP p] (adl c p):=rsX
theorem X4(c:BCU)(p:BP)(h:okC 3500 c∧okP 3500 p):Con Tryz.prog 80 [.d tCU c,.d tP p] [.d .bool (gQ (dC c) (dec p))]:=by
 refine aN lX (aox _ _ ⟨0,?_⟩)
 obtain⟨hc,hp⟩:=h
 have op:decide (okP 3500 p)=true:=aqs hp
 have op4:decide (okP 4000 p)=true:=aqs (mh hp (by decide) (by decide))
 obtain⟨ar,li,ci,cw,fr,to⟩:=c
 obtain⟨c1,c2,_⟩:=hc
 unfold adl
 cases ar
 ·have e:=(c2 rfl).1
  simp only[aqv,dT e,op4,aqw]
  rfl
 ·have e:=(c1 rfl).1
  simp only[aqv,dT e,op,aqw]
  rfl
def aiX:Ctx:=CX xf []
def acw(c:BO3)(p:BP)(_k:KT):Option (List RV):=match decide (okP 4000 p)with|true=>(match decide (okT 15000 (hid (enc (yP (dec p))))∧ok Rat 15000 c.2.1)with|true=>(match decide ((d9 (dec (hid (enc (yP (dec p))))) (ab c.2.1))>0)with|true=>some [RV.d .bool true]|false=>(match(d9 (dec (hid (enc (yP (dec p))))) (ab c.2.1))==0 with|true=>(match decide (okP 4000 p)with|true=>(match decide (okT 15000 (hid (enc (xP (dec p))))∧ok Rat 15000 c.1)with|true=>some [RV.d .bool (decide ((d9 (dec (hid (enc (xP (dec p))))) (ab c.1))>0))]|false=>none)|false=>none)|false=>some [RV.d .bool false]))|false=>none)|false=>none
theorem ait(c:BO3)(p:BP):RS aiX 267 [.d tO c,.d tP p] (acw c p):=rsX
theorem Zb(c:BO3)(p:BP)(h:ok Ln 300 c∧okP 4000 p):Con Tryz.prog 267 [.d tO c,.d tP p] [.d .bool (upR (dec c) (dec p))]:=by
 refine aN lX (ait _ _ ⟨0,?_⟩)
 obtain⟨hc,hp⟩:=h
 obtain⟨c,rfl,bc⟩:=aQ hc
 obtain⟨p,rfl,bp,rp⟩:=bG hp
 unfold acw upR
 simp only[aj,ak,aD,aE,aA,av,aC,aqv,aqw,mx,Nat.reduceLeDiff,aqC,cond_true,bh,bg]
 cases decide (d9 (yP p) c.2.1>0)<;>cases d9 (yP p) c.2.1==0<;>rfl
def alG:Ctx:=CX xf []
def acC(p:BP)(_k:KT):Option (List RV):=match decide (okR p.1)with|true=>(match decide (okR p.2.1)with|true=>some [RV.d tP (hid (ag (-ab p.1)),(hid (ag (-ab p.2.1)),p.2.2))]|false=>none)|false=>none
theorem alB(p:BP):RS alG 167 [.d tP p] (acC p):=rsX
theorem Xy(p:BP)(h:okP 4000 p):Con Tryz.prog 167 [.d tP p] [.d tP (enc (flP (dec p)))]:=by
 refine aN lX (alB _ ⟨0,?_⟩)
 have hp:=h
 obtain⟨p,rfl,bp,rp⟩:=bG hp
 unfold acC
 simp only[aj,ak,aD,aE,aA,av,aT,Nat.reduceLeDiff]
 rfl
def ai6:Ctx:=CX xf []
def al8(c:BCU)(_k:KT):Option (List RV):=match c.1 with|true=>some [RV.d tCU (c.1,(c.2.1,(c.2.2.1,(!c.2.2.2.1,(c.2.2.2.2.2,c.2.2.2.2.1)))))]|false=>some [RV.d tCU (c.1,(c.2.1,(c.2.2.1,(false,(c.2.2.2.2.2,c.2.2.2.2.1)))))]
theorem al9(c:BCU):RS ai6 17 [.d tCU c] (al8 c):=rsX
theorem Xq(c:BCU):Con Tryz.prog 17 [.d tCU c] [.d tCU (nh c)]:=by
 refine aN lX (al9 _ ⟨0,?_⟩)
 obtain⟨ar,li,ci,cw,fr,to⟩:=c
 cases ar<;>rfl
def PI:aM:=spN true true [tCU,tP] (fun x=>decide (okC 3500 x.1∧okP 3500 x.2.1)) (fun x=>[RV.d .bool (gQ (dC x.1) (dec x.2.1))])
theorem SU:SpK 80 PI:=spX fun x h=>X4 x.1 x.2.1 (aqr h)
def Sk:aM:=spN true true [tO,tP] (fun x=>decide (ok Ln 300 x.1∧okP 4000 x.2.1)) (fun x=>[RV.d .bool (upR (dec x.1) (dec x.2.1))])
theorem Nw:SpK 267 Sk:=spX fun x h=>Zb x.1 x.2.1 (aqr h)
def TE:aM:=spN false true [tP] (fun x=>decide (okP 4000 x.1)) (fun x=>[RV.d tP (hid (enc (flP (dec x.1))))])
theorem Ov:SpK 167 TE:=spX fun x h=>by simp only[aj];exact Xy x.1 (aqr h)
def z9:aM:=spN false true [tCU] (fun _=>true) (fun x=>[RV.d tCU (hid (nh x.1))])
theorem tv:SpK 17 z9:=spX fun x _=>by simp only[aj];exact Xq x.1
def HI:Env:=(80,PI)::(267,Sk)::(167,TE)::(17,z9)::xf
theorem vL:EnvAll Tryz.prog HI:=⟨SU,Nw,Ov,tv,lX⟩
def aoL:Ctx:=CX HI []
def acU(c:BO3)(p q:BP)(_k:KT):Option (List RV):=match decide (ok Ln 300 c∧okP 4000 p)with|true=>(match decide (ok Ln 300 c∧okP 4000 q)with|true=>(match !((upR (dec c) (dec p))==(upR (dec c) (dec q)))with|true=>(match upR (dec c) (dec q)with|true=>some [RV.d atB (-1)]|false=>some [RV.d atB 1])|false=>(match decide (okP 4000 p)with|true=>(match decide (okP 4000 q)with|true=>(match decide (okT 15000 (hid (enc (xP (dec p))))∧okT 15000 (hid (enc (xP (dec q)))))with|true=>(match upR (dec c) (dec p)with|true=>some [RV.d atB (i64.wrap (0-(bL (dec (hid (enc (xP (dec p))))) (dec (hid (enc (xP (dec q))))))))]|false=>some [RV.d atB (bL (dec (hid (enc (xP (dec p))))) (dec (hid (enc (xP (dec q))))))])|false=>none)|false=>none)|false=>none))|false=>none)|false=>none
theorem amP(c:BO3)(p q:BP):RS aoL 229 [.d tO c,.d tP p,.d tP q] (acU c p q):=rsX
theorem Y8(c:BO3)(p q:BP)(h:ok Ln 300 c∧okP 4000 p∧okP 4000 q):Con Tryz.prog 229 [.d tO c,.d tP p,.d tP q] [.d atB (gG bL (ptd (dec c) (dec p)) (ptd (dec c) (dec q)))]:=by
 refine aN vL (amP _ _ _ ⟨0,?_⟩)
 obtain⟨hc,hp,hq⟩:=h
 obtain⟨c,rfl,bc⟩:=aQ hc
 obtain⟨p,rfl,bp,rp⟩:=bG hp
 obtain⟨q,rfl,bq,rq⟩:=bG hq
 have xb:=sX (xP p) (xP q)
 unfold acU
 simp only[aj,ak,okd,aqv,aqw,mx,Nat.reduceLeDiff,aqC,cond_true,bh,bg,bi (x:= -bL (xP p) (xP q)) (by omega) (by omega),asp]
 unfold gG ptd
 cases upR c p<;>cases upR c q<;>rfl
def aoG:Ctx:=CX HI []
def aaI(c:BCU)(_k:KT):Option (List RV):=match decide (okR c.2.2.1.1)with|true=>(match decide (okP 4000 c.2.2.2.2.1)with|true=>(match decide (okP 4000 c.2.2.2.2.2)with|true=>some [RV.d tCU (c.1,(c.2.1,((hid (ag (-ab c.2.2.1.1)),c.2.2.1.2),(!c.2.2.2.1,(hid (enc (flP (dec c.2.2.2.2.1))),hid (enc (flP (dec c.2.2.2.2.2))))))))]|false=>none)|false=>none)|false=>none
theorem ajp(c:BCU):RS aoG 166 [.d tCU c] (aaI c):=rsX
theorem Wf(c:BCU)(h:nY c.2.2.1∧okP 4000 c.2.2.2.2.1∧okP 4000 c.2.2.2.2.2):Con Tryz.prog 166 [.d tCU c] [.d tCU (rQ c)]:=by
 refine aN vL (ajp _ ⟨0,?_⟩)
 obtain⟨hc,hf,ht⟩:=h
 have e:okR c.2.2.1.1:=by
  obtain⟨l,hl,bl⟩:=aQ hc.1
  rw[hl,aD,aA]
  exact aqr (aT (q:=l.1) (by decide))
 unfold aaI
 rw[dT e,dT hf,dT ht]
 simp only[aj]
 rfl
def Vs:aM:=spN true true [tO,tP,tP] (fun x=>decide (ok Ln 300 x.1∧okP 4000 x.2.1∧okP 4000 x.2.2.1)) (fun x=>[RV.d atB (gG bL (ptd (dec x.1) (dec x.2.1)) (ptd (dec x.1) (dec x.2.2.1)))])
theorem Pj:SpK 229 Vs:=spX fun x h=>Y8 x.1 x.2.1 x.2.2.1 (aqr h)
def OQ:aM:=spN false true [tCU] (fun x=>decide (nY x.1.2.2.1∧okP 4000 x.1.2.2.2.2.1∧okP 4000 x.1.2.2.2.2.2)) (fun x=>[RV.d tCU (hid (rQ x.1))])
theorem Lt:SpK 166 OQ:=spX fun x h=>by simp only[aj];exact Wf x.1 (aqr h)
def Ri:Env:=(229,Vs)::(166,OQ)::HI
theorem Du:EnvAll Tryz.prog Ri:=⟨Pj,Lt,vL⟩
def ajf:Ctx:=CX Ri []
def acX(c:BO3)(f p q:BP)(_k:KT):Option (List RV):=match decide (ok Ln 300 c∧okP 4000 p∧okP 4000 f)with|true=>(match decide (ok Ln 300 c∧okP 4000 q∧okP 4000 f)with|true=>(match !((decide ((gG bL (ptd (dec c) (dec p)) (ptd (dec c) (dec f)))<0))==(decide ((gG bL (ptd (dec c) (dec q)) (ptd (dec c) (dec f)))<0)))with|true=>(match decide ((gG bL (ptd (dec c) (dec q)) (ptd (dec c) (dec f)))<0)with|true=>some [RV.d atB (-1)]|false=>some [RV.d atB 1])|false=>(match decide (ok Ln 300 c∧okP 4000 p∧okP 4000 q)with|true=>some [RV.d atB (gG bL (ptd (dec c) (dec p)) (ptd (dec c) (dec q)))]|false=>none))|false=>none)|false=>none
theorem aoI(c:BO3)(f p q:BP):RS ajf 165 [.d tO c,.d tP f,.d tP p,.d tP q] (acX c f p q):=rsX
theorem Xf(c:BO3)(f p q:BP)(h:ok Ln 300 c∧okP 4000 f∧okP 4000 p∧okP 4000 q):Con Tryz.prog 165 [.d tO c,.d tP f,.d tP p,.d tP q] [.d atB (pW bL (ptd (dec c) (dec f)) (ptd (dec c) (dec p)) (ptd (dec c) (dec q)))]:=by
 refine aN Du (aoI _ _ _ _ ⟨0,?_⟩)
 obtain⟨hc,hf,hp,hq⟩:=h
 unfold acX pW
 rw[dT (show ok Ln 300 c∧okP 4000 p∧okP 4000 f from⟨hc,hp,hf⟩),dT (show ok Ln 300 c∧okP 4000 q∧okP 4000 f from⟨hc,hq,hf⟩),dT (show ok Ln 300 c∧okP 4000 p∧okP 4000 q from⟨hc,hp,hq⟩)]
 dsimp only
 cases decide (gG bL (ptd (dec c) (dec p)) (ptd (dec c) (dec f))<0)<;>cases decide (gG bL (ptd (dec c) (dec q)) (ptd (dec c) (dec f))<0)<;>rfl
def Mz:aM:=spN true true [tO,tP,tP,tP] (fun x=>decide (ok Ln 300 x.1∧okP 4000 x.2.1∧okP 4000 x.2.2.1∧okP 4000 x.2.2.2.1)) (fun x=>[RV.d atB (pW bL (ptd (dec x.1) (dec x.2.1)) (ptd (dec x.1) (dec x.2.2.1)) (ptd (dec x.1) (dec x.2.2.2.1)))])
theorem Oz:SpK 165 Mz:=spX fun x h=>Xf x.1 x.2.1 x.2.2.1 x.2.2.2.1 (aqr h)
def KO:Env:=(165,Mz)::Ri
theorem Bx:EnvAll Tryz.prog KO:=⟨Oz,Du⟩
def akj:Ctx:=CX KO []
def ada(c:BCU)(p q:BP)(_k:KT):Option (List RV):=match !c.1 with|true=>(match decide (okP 4000 p∧okP 4000 q)with|true=>(match decide (okP 4000 c.2.2.2.2.1∧okP 4000 c.2.2.2.2.2)with|true=>(match decide ((cz (dec c.2.2.2.2.1) (dec c.2.2.2.2.2))>0)with|true=>some [RV.d atB (i64.wrap (0-(cz (dec p) (dec q))))]|false=>some [RV.d atB (cz (dec p) (dec q))])|false=>none)|false=>none)|false=>(match !c.2.2.2.1 with|true=>(match decide (ok Ln 300 c.2.2.1∧okP 4000 c.2.2.2.2.1∧okP 4000 p∧okP 4000 q)with|true=>some [RV.d atB (pW bL (ptd (dec c.2.2.1) (dec c.2.2.2.2.1)) (ptd (dec c.2.2.1) (dec p)) (ptd (dec c.2.2.1) (dec q)))]|false=>none)|false=>(match decide (nY c.2.2.1∧okP 4000 c.2.2.2.2.1∧okP 4000 c.2.2.2.2.2)with|true=>(match decide (okP 4000 p)with|true=>(match decide (okP 4000 q)with|true=>(match decide (ok Ln 300 ((((hid (rQ c)).2).2).1)∧okP 4000 ((((((hid (rQ c)).2).2).2).2).1)∧okP 4000 (hid (enc (flP (dec p))))∧okP 4000 (hid (enc (flP (dec q)))))with|true=>some [RV.d atB (pW bL (ptd (dec ((((hid (rQ c)).2).2).1)) (dec ((((((hid (rQ c)).2).2).2).2).1))) (ptd (dec ((((hid (rQ c)).2).2).1)) (dec (hid (enc (flP (dec p)))))) (ptd (dec ((((hid (rQ c)).2).2).1)) (dec (hid (enc (flP (dec q)))))))]|false=>none)|false=>none)|false=>none)|false=>none))
theorem akv(c:BCU)(p q:BP):RS akj 81 [.d tCU c,.d tP p,.d tP q] (ada c p q):=rsX
theorem Yv(c:BCU)(p q:BP)(h:okC 4000 c∧okP 4000 p∧okP 4000 q):Con Tryz.prog 81 [.d tCU c,.d tP p,.d tP q] [.d atB (du (dC c) (dec p) (dec q))]:=by
 refine aN Bx (akv _ _ _ ⟨0,?_⟩)
 obtain⟨hc,hp,hq⟩:=h
 have xb:=Wh (dec p) (dec q)
 obtain⟨ar,li,ci,cw,fr,to⟩:=c
 obtain⟨c1,c2,c3,c4⟩:=hc
 simp only at c1 c2 c3 c4
 unfold ada du
 cases ar
 ·simp only[asp,bi (x:= -cz (dec p) (dec q)) (by omega) (by omega),dT (show okP 4000 p∧okP 4000 q from⟨hp,hq⟩),dT (show okP 4000 fr∧okP 4000 to from⟨c3,c4⟩),Bool.not_false]
  simp only[dC,frC,toC,cond_false]
  by_cases hd:cz (dec fr) (dec to)>0
  ·simp[hd]
  ·simp[hd]
 ·have e:=(c1 rfl).1
  have hci:=c1 rfl
  obtain⟨f1,f2⟩:=afO e
  cases cw
  ·simp only[dT (show ok Ln 300 ci∧okP 4000 fr∧okP 4000 p∧okP 4000 q from⟨e,c3,hp,hq⟩),Bool.not_true,Bool.not_false]
   rfl
  ·have hm:ok Ln 300 (rQ (true,li,ci,true,fr,to)).2.2.1∧okP 4000 (rQ (true,li,ci,true,fr,to)).2.2.2.2.1∧okP 4000 (enc (flP (dec p)))∧okP 4000 (enc (flP (dec q))):=⟨f1,DI c3,DI hp,DI hq⟩
   have m1:(dec (rQ (true,li,ci,true,fr,to)).2.2.1:Ln)=flC (dec ci):=f2
   have m2:(dec (rQ (true,li,ci,true,fr,to)).2.2.2.2.1:Pt)=flP (dec fr):=ak _
   simp only[aj,dT (show nY ci∧okP 4000 fr∧okP 4000 to from⟨hci,c3,c4⟩),dT hp,dT hq,dT hm,Bool.not_true,m1,m2,ak]
   rfl
def vm:aM:=spN true true [tCU,tP,tP] (fun x=>decide (okC 4000 x.1∧okP 4000 x.2.1∧okP 4000 x.2.2.1)) (fun x=>[RV.d atB (du (dC x.1) (dec x.2.1) (dec x.2.2.1))])
theorem pz:SpK 81 vm:=spX fun x h=>Yv x.1 x.2.1 x.2.2.1 (aqr h)
def adq:Env:=(81,vm)::KO
theorem Sb:EnvAll Tryz.prog adq:=⟨pz,Bx⟩
def an7:Ctx:=CX adq []
def aaD(c:BCU)(p:BP)(_k:KT):Option (List RV):=match decide (okC 3500 c∧okP 3500 p)with|true=>(match gQ (dC c) (dec p)with|true=>(match decide (okC 4000 c∧okP 4000 c.2.2.2.2.1∧okP 4000 p)with|true=>(match decide ((du (dC c) (dec c.2.2.2.2.1) (dec p))≤0)with|true=>(match decide (okC 4000 c∧okP 4000 p∧okP 4000 c.2.2.2.2.2)with|true=>some [RV.d .bool (decide ((du (dC c) (dec p) (dec c.2.2.2.2.2))≤0))]|false=>none)|false=>some [RV.d .bool false])|false=>none)|false=>some [RV.d .bool false])|false=>none
theorem alz(c:BCU)(p:BP):RS an7 19 [.d tCU c,.d tP p] (aaD c p):=rsX
theorem VQ(c:BCU)(p:BP)(h:okC 3500 c∧okP 3500 p):Con Tryz.prog 19 [.d tCU c,.d tP p] [.d .bool (onR (dC c) (dec p))]:=by
 refine aN Sb (alz _ _ ⟨0,?_⟩)
 obtain⟨hc,hp⟩:=h
 have hc4:=Jq (k:=4000) hc (by decide) (by decide)
 have hp4:=mh (k:=4000) hp (by decide) (by decide)
 unfold aaD onR
 rw[dT (show okC 3500 c∧okP 3500 p from⟨hc,hp⟩),dT (show okC 4000 c∧okP 4000 c.2.2.2.2.1∧okP 4000 p from⟨hc4,hc4.2.2.1,hp4⟩),dT (show okC 4000 c∧okP 4000 p∧okP 4000 c.2.2.2.2.2 from⟨hc4,hp4,hc4.2.2.2⟩)]
 dsimp only
 cases gQ (dC c) (dec p)
 ·rfl
 ·show(match decide (du (dC c) (frC (dC c)) (dec p)≤0)with|true=>some [RV.d .bool (decide (du (dC c) (dec p) (toC (dC c))≤0))]|false=>some [RV.d .bool false])=_
  cases decide (du (dC c) (frC (dC c)) (dec p)≤0)<;>rfl
def t6:aM:=spN true true [tCU,tP] (fun x=>decide (okC 3500 x.1∧okP 3500 x.2.1)) (fun x=>[RV.d .bool (onR (dC x.1) (dec x.2.1))])
theorem pA:SpK 19 t6:=spX fun x h=>VQ x.1 x.2.1 (aqr h)
section
namespace RE
theorem CI(x y c:RE):((x-(y)))+((y-c-(x-c)))=0:=by
 induction x using aqq
 induction y using aqq
 induction c using aqq
 exact snd fun n=>by
  simp only[RL.add,RL.neg,RL.const]
  grind
theorem Jn(x y c:RE)(h1:x-c=y-c):x≤y:=fun hg=>far (aU (a8 hg) (aR (jx h1))) (CI x y c)
theorem Bm(x y c:RE):((y-(x)))+((x-c-(y-c)))=0:=by
 induction x using aqq
 induction y using aqq
 induction c using aqq
 exact snd fun n=>by
  simp only[RL.add,RL.neg,RL.const]
  grind
theorem J6(x y c:RE)(h1:x-c=y-c):y≤x:=fun hg=>far (aU (a8 hg) (aR (lM h1))) (Bm x y c)
theorem C7(x y c:RE)(h1:x-c=y-c):x=y:=le_antisymm (Jn x y c h1) (J6 x y c h1)
theorem Bw(x c:RE): -x- -c= -(x-c):=by
 induction x using aqq
 induction c using aqq
 exact snd fun n=>by
  simp only[RL.add,RL.neg]
  grind
theorem ahg(a b r:RE): -a+ -b*r= -(a+b*r):=by
 induction a using aqq
 induction b using aqq
 induction r using aqq
 exact snd fun n=>by
  simp only[RL.add,RL.mul,RL.neg]
  grind
theorem DJ(x q:RE):((x-(q)))+((0-(x+ -q)))=0:=by
 induction x using aqq
 induction q using aqq
 exact snd fun n=>by
  simp only[RL.add,RL.neg,RL.const]
  grind
theorem On(x q:RE)(h1:x+ -q=0):x≤q:=fun hg=>far (aU (a8 hg) (aR (jx h1))) (DJ x q)
theorem E0(x q:RE):((q-(x)))+((x+ -q-(0)))=0:=by
 induction x using aqq
 induction q using aqq
 exact snd fun n=>by
  simp only[RL.add,RL.neg,RL.const]
  grind
theorem Vi(x q:RE)(h1:x+ -q=0):q≤x:=fun hg=>far (aU (a8 hg) (aR (lM h1))) (E0 x q)
theorem GL(x q:RE)(h1:x+ -q=0):x=q:=le_antisymm (On x q h1) (Vi x q h1)
section
variable {x y x' y' cx cy Q:RE}
end
def onCi(c:Ln)(p:Pt):Prop:=(pX p-of c.1)*(pX p-of c.1)+(pY p-of c.2.1)*(pY p-of c.2.1)=of c.2.2
theorem yH{c:Ln}{p:Pt}[Rpd p](h:lF c p=0):onCi c p:=by
 rw[Ad]at h
 exact GL _ _ (Ei.1 (Int.neg_eq_zero.1 h))
theorem FY{c:Ln}{p:Pt}[Rpd p]:upR c p=upA (cls (pX p-of c.1) (pY p-of c.2.1)):=by
 unfold upR
 rw[cmpTR_re GI,cmpTR_re rO,Da,YX,ahJ]
theorem SD(p:Pt):pX (flP p)= -pX p:=by
 unfold pX flP v2
 rw[of_neg,of_neg]
 exact ahg _ _ _
theorem amK(p:Pt):pY (flP p)=pY p:=rfl
theorem adH{c:Ln}{p:Pt}[h:Rpd p](hQ:0<c.2.2)(hp:onCi c p):upR (flC c) (flP p)=ufA (cls (pX p-of c.1) (pY p-of c.2.1)):=by
 unfold upR
 rw[cmpTR_re GI,cmpTR_re rO,Da,YX,SD,amK]
 show(decide (sg (pY p-of c.2.1)>0)||(sg (pY p-of c.2.1)==0&&decide (sg (-pX p-of (-c.1))>0)))=_
 rw[of_neg,Bw,SJ]
 exact ahY (jM hQ) hp
end RE
structure Crv (c:Cv):Prop where
 f:Rpd (frC c)
 t:Rpd (toC c)
 q:c.1=true→0<(ciC c).2.2∧RE.onCi (ciC c) (frC c)∧RE.onCi (ciC c) (toC c)
end
def dJ(l:Ln)(p:Pt):Rt:=mkR (-l.2.1*p.1+l.1*p.2.2.1) (-l.2.1*p.2.1+l.1*p.2.2.2.1) p.2.2.2.2
def qa(c:Cv)(p:Pt):Bool:=
 bif decide (bL (dJ (lnC c) (frC c)) (dJ (lnC c) (toC c))>0)then decide (bL (dJ (lnC c) (toC c)) (dJ (lnC c) p)≤0)&&decide (bL (dJ (lnC c) p) (dJ (lnC c) (frC c))≤0)
 else decide (bL (dJ (lnC c) (frC c)) (dJ (lnC c) p)≤0)&&decide (bL (dJ (lnC c) p) (dJ (lnC c) (toC c))≤0)
def rS(a b:Rt):Rt:=bif decide (bL b a<0)then b else a
def zeV(v:Rat×Rat):Bool:=decide (v.1=0)&&decide (v.2=0)
def K6(c:Ln)(d:Rat×Rat):Pt:=mkP (mkR c.1 d.1 (c.2.2/fJ d d)) (mkR c.2.1 d.2 (c.2.2/fJ d d))
def EH(c:Cv)(d:Rat×Rat):Bool:=bif c.1&&!(zeV d)then onP c (K6 (ciC c) d)else c.1
def IR(c:Cv)(v:Rat×Rat):Rt:=rS (sqP (frC c) v) (sqP (toC c) v)
def DE(c:Cv)(v:Rat×Rat):Rat×Rat:=kD (ctr (ciC c)) v
def jN(c:Cv)(v:Rat×Rat):Rt:=
 bif c.1 then(bif EH c (DE c v)then mkR (fJ (DE c v) (DE c v)+(ciC c).2.2) (-2) (fJ (DE c v) (DE c v)*(ciC c).2.2)else IR c v)
 else(bif qa c (atP v)then(fJ (kD v (lA (lnC c) v)) (kD v (lA (lnC c) v)),0,0)else IR c v)
def D3(c:Cv)(v:Rat×Rat)(r:Rat):Int:=bif decide (r<0)then 1 else d9 (jN c v) (r*r)
instance NU {l:Ln} {p:Pt} [h:Rpd p]:Rdd (dJ l p):=by
 have:Nn p.2.2.2.2:=inferInstance
 exact pP
instance ao3 {l:Ln} {p:Pt} {i j:Nat} [h:Bd l i] [h':Bd p j] [hp:Rpd p]:Bd (dJ l p) (4*i+4*j+5):=by
 have a1:Bd (-l.2.1*p.1+l.1*p.2.2.1) _:=inferInstance
 have a2:Bd (-l.2.1*p.2.1+l.1*p.2.2.2.1) _:=inferInstance
 exact(ae5 (a:= -l.2.1*p.1+l.1*p.2.2.1) (b:= -l.2.1*p.2.1+l.1*p.2.2.2.1) (c:=p.2.2.2.2)).mono (cH (by omega) (by omega))
theorem K4(a b:Rt):rS a b=a∨rS a b=b:=by
 unfold rS
 cases decide (bL b a<0)
 ·exact .inl rfl
 ·exact .inr rfl
instance QS {a b:Rt} [h:Rdd a] [h':Rdd b]:Rdd (rS a b):=by
 rcases K4 a b with e|e<;>rw[e]<;>assumption
instance ao4 {a b:Rt} {i j:Nat} [h:Bd a i] [h':Bd b j]:Bd (rS a b) (mx i j):=by
 rcases K4 a b with e|e<;>rw[e]
 ·exact h.mono (yy _ _)
 ·exact h'.mono (zw _ _)
theorem Lx(d:Rat×Rat):0≤fJ d d:=by
 unfold fJ
 have h:∀a:Rat,0≤a*a:=fun a=>by
  rcases(by grind:0≤a∨0≤ -a)with h|h
  ·exact ari h h
  ·have:=ari h h;grind
 have:=h d.1
 have:=h d.2
 grind
theorem ae1{d:Rat×Rat}(h:zeV d=false):fJ d d≠0:=by
 refine sO ?_
 unfold zeV at h
 by_cases e:d.1=0
 ·rw[aqs e,aqx]at h
  exact .inr (arw h)
 ·exact .inl e
theorem sI(a b d e s:Rat):rR (mkR a d s) (mkR b e s):=by
 unfold rR mkR
 cases ec s
 ·simp only[cond_false]
  by_cases hd:d=0
  ·rw[aqs hd];exact .inl rfl
  ·by_cases he:e=0
   ·rw[aqs he];exact .inr (.inl rfl)
   ·rw[aqu hd,aqu he];exact .inr (.inr rfl)
 ·exact .inl rfl
theorem afg{a b:Rat}(ha:0≤a)(hb:0≤b):0≤a/b:=by
 by_cases h0:b=0
 ·rw[h0,atx,Rat.inv_zero,Rat.mul_zero]
  exact Rat.le_refl
 ·rcases(by grind:0≤a/b∨0< -(a/b))with h|h
  ·exact h
  ·have h1:=arB h (show 0<b by grind)
   have h2:a/b*b=a:=Rat.div_mul_cancel h0
   grind
class Cir (c:Ln):Prop where q:0<c.2.2
instance adM {c:Ln} {d:Rat×Rat} [h:Cir c]:Nn (c.2.2/fJ d d):=⟨afg (by have:=h.q;grind) (Lx d)⟩
instance apO {c:Ln} {d:Rat×Rat} [h:Cir c]:Rpd (K6 c d):=abq pP pP (sI _ _ _ _ _)
instance WD {c:Ln} {d:Rat×Rat} [h:Cir c]:Nn (fJ d d*c.2.2):=⟨ari (Lx d) (by have:=h.q;grind)⟩
instance apg {c:Ln} {d:Rat×Rat} {i j:Nat} [h:Bd c i] [h':Bd d j]:Bd (K6 c d) (2*i+5*j+2):=by
 have s1:Bd (c.2.2/fJ d d) _:=inferInstance
 have a1:Bd (mkR c.1 d.1 (c.2.2/fJ d d)) _:=inferInstance
 have a2:Bd (mkR c.2.1 d.2 (c.2.2/fJ d d)) _:=inferInstance
 have b1:=a1.mono (k:=2*i+5*j+2) (by omega)
 have b2:=a2.mono (k:=2*i+5*j+2) (by omega)
 have e:∀n,mx n n=n:=fun n=>by unfold mx;rw[aqs (aqE n)];rfl
 exact(M0 (h:=b1) (h':=b2)).mono (by
  simp only[e]
  refine cH (by omega) (cH (by omega) (cH (by omega) (cH (by omega) (cH (by omega) (by omega))))))
def akc(d a b a' b':Int):Bool:=bif decide (d>0)then decide (b'≤0)&&decide (a'≤0)else decide (a≤0)&&decide (b≤0)
namespace RE
theorem UH(a b x s y t r:RE): -b*x+a*y+(-b*s+a*t)*r= -b*(x+s*r)+a*(y+t*r):=by
 induction a using aqq
 induction b using aqq
 induction x using aqq
 induction s using aqq
 induction y using aqq
 induction t using aqq
 induction r using aqq
 exact snd fun n=>by
  simp only[RL.add,RL.mul,RL.neg]
  grind
def tL(l:Ln)(p:Pt):RE:= -of l.2.1*pX p+of l.1*pY p
theorem R6(l:Ln){p:Pt}[_h:Rpd p]:vR (dJ l p)=tL l p:=by
 unfold dJ tL pX pY
 rw[vR_mk]
 unfold v2
 simp only[of_add,cE,of_neg]
 exact UH _ _ _ _ _ _ _
theorem ph{l:Ln}{p q:Pt}[Rpd p][Rpd q]:bL (dJ l p) (dJ l q)=sg (tL l p-tL l q):=by
 rw[cmpT_re (NU (l:=l) (p:=p)).nn (NU (l:=l) (p:=q)).nn,R6,R6]
def ahz(l:Ln)(p:Pt):Prop:=of l.1*pX p+of l.2.1*pY p=of l.2.2
theorem Eb{l:Ln}{p:Pt}[Rpd p](h:nB l p=0):ahz l p:=by
 rw[yS]at h
 exact GL _ _ (Ei.1 h)
end RE
def gdC(c:BCU):Prop:=okC 500 c∧gQ (dC c) (frC (dC c))=true∧gQ (dC c) (toC (dC c))=true
theorem ll{k:Nat}{x:BP}(h:okP k x):Rpd (dec x):=by
 obtain⟨p,rfl,bp,rp⟩:=bG h
 rw[ak]
 exact rp
def vM:Env:=[(76,gT),(148,gU),(149,jr),(147,iC),(202,lS),(83,fW),(99,kx),(170,AO),(219,pZ),(283,zb),(290,zi),(282,zg),(281,zT),(259,ul),(284,yW),(291,Ea)]
theorem jw:EnvAll Tryz.prog vM:=⟨eI,eH,fN,fi,iO,eg,gE,uD,lR,uy,vt,v8,sY,oV,uk,Cw,trivial⟩
def aj0:Ctx:=CX vM []
def aaq(l:BO3)(p:BP)(_k:KT):Option (List RV):=let y1:=bJ (dec (p.1,(p.2.1,p.2.2.2.2)));let y2:=hid ((bJ (dec p.2.2)).1);let y3:=gb (ab l.1) (hid (y1.1)) (y1.2);let y4:=gb (ab l.2.1) y2 ((bJ (dec p.2.2)).2);let y5:=cV (hid (y3.1)) (hid (y4.1));let y6:=hid ((frF (ab l.2.2)).1);let y7:=cV (hid (y5.1)) (hid (jn y6));match decide (ok Rt 100000 (p.1,(p.2.1,p.2.2.2.2)))with|true=>(match decide (ok Rat 100000 l.1∧prI (hid (y1.1)))with|true=>(match decide (ok Rt 100000 p.2.2)with|true=>(match decide (ok Rat 100000 l.2.1∧prI y2)with|true=>(match decide (ok Rat 200000 l.2.2)with|true=>(match !(y3.2)with|true=>some [RV.d atB 0,RV.d .bool false]|false=>(match !(y4.2)with|true=>some [RV.d atB 0,RV.d .bool false]|false=>(match !((frF (ab l.2.2)).2)with|true=>some [RV.d atB 0,RV.d .bool false]|false=>(match decide (prI (hid (y3.1))∧prI (hid (y4.1)))with|true=>(match !(y5.2)with|true=>some [RV.d atB 0,RV.d .bool false]|false=>(match decide (prI y6)with|true=>(match decide (prI (hid (y5.1))∧prI (hid (jn y6)))with|true=>(match !(y7.2)with|true=>some [RV.d atB 0,RV.d .bool false]|false=>some [RV.d atB ((sgF (hid (y7.1))).1),RV.d .bool ((sgF (hid (y7.1))).2)])|false=>none)|false=>none))|false=>none))))|false=>none)|false=>none)|false=>none)|false=>none)|false=>none
theorem alf(l:BO3)(p:BP):RS aj0 270 [.d tO l,.d tP p] (aaq l p):=rsX
theorem X6(l:BO3)(p:BP)(h:ok Ln 300 l∧ok Pt 4000 p):Con Tryz.prog 270 [.d tO l,.d tP p] [.d atB ((qs (dec l) (dec p)).1),.d .bool ((qs (dec l) (dec p)).2)]:=by
 refine aN jw (alf _ _ ⟨0,?_⟩)
 obtain⟨hl,hp⟩:=h
 obtain⟨l,rfl,bl⟩:=aQ hl
 obtain⟨p,rfl,bp⟩:=aQ hp
 have dx:(dec ((ag p.1,ag p.2.1,ag p.2.2.2.2):BO3):Rt)=pxR p:=ak (pxR p)
 have dy:(dec ((ag p.2.2.1,ag p.2.2.2.1,ag p.2.2.2.2):BO3):Rt)=pyR p:=ak (pyR p)
 have dy':(dec (enc p.2.2:BO3):Rt)=pyR p:=ak (pyR p)
 have px:Bd (pxR p) 4000:=(inferInstance:Bd ((p.1,p.2.1,p.2.2.2.2):Rt) _).mono (by decide)
 have py:Bd (pyR p) 4000:=(inferInstance:Bd ((p.2.2.1,p.2.2.2.1,p.2.2.2.2):Rt) _).mono (by decide)
 have ox:decide (ok Rt 100000 ((ag p.1,ag p.2.1,ag p.2.2.2.2):BO3))=true:=okd (x:=pxR p) (by decide) (by decide)
 have oy:decide (ok Rt 100000 (enc p.2.2:BO3))=true:=okd (x:=pyR p) (by decide) (by decide)
 have pr:∀r,prI (bJ r).1:=tJ
 have pt:∀n a k,prI (gb n a k).1:=Za
 have pf:∀q,prI (frF q).1:=RE.frF_pr
 unfold aaq
 simp only[aj,ak,aD,aE,aA,av,aC,aqv,aqw,Nat.reduceLeDiff,dx,dy',ox,oy,dT (pr _),dT (pt _ _ _),dT (pf _),dT (RE.addF_pr (pt _ _ _) (pt _ _ _)),dT (RE.negF_pr (pf _))]
 unfold qs
 generalize bJ (pxR p)=X
 generalize bJ (pyR p)=Y
 generalize gb l.1 X.1 X.2=U
 generalize gb l.2.1 Y.1 Y.2=V
 generalize frF l.2.2=W
 generalize cV U.1 V.1=S
 generalize cV S.1 (jn W.1)=D
 generalize sgF D.1=Z
 obtain⟨_,u⟩:=U
 obtain⟨_,v⟩:=V
 obtain⟨_,w⟩:=W
 obtain⟨_,s⟩:=S
 obtain⟨_,d⟩:=D
 cases u<;>cases v<;>cases w<;>try rfl
 cases s<;>cases d<;>rfl
def al0:Ctx:=CX vM []
def act(a b:BR)(_k:KT):Option (List RV):=match decide (okR a∧okR b)with|true=>some [RV.d tR (hid (ag (ab a+ab b)))]|false=>none
theorem ajc(a b:BR):RS al0 154 [.d tR a,.d tR b] (act a b):=rsX
theorem XO(a b:BR)(h:okR a∧okR b):Con Tryz.prog 154 [.d tR a,.d tR b] [.d tR (ag (ab a+ab b))]:=by
 refine aN jw (ajc _ _ ⟨0,?_⟩)
 unfold act
 rw[dT h,aj]
def amj:Ctx:=CX vM []
def abI(a b:BR)(_k:KT):Option (List RV):=match decide (okR a∧okR b)with|true=>some [RV.d tR (hid (ag (ab a-ab b)))]|false=>none
theorem ajX(a b:BR):RS amj 153 [.d tR a,.d tR b] (abI a b):=rsX
theorem Yg(a b:BR)(h:okR a∧okR b):Con Tryz.prog 153 [.d tR a,.d tR b] [.d tR (ag (ab a-ab b))]:=by
 refine aN jw (ajX _ _ ⟨0,?_⟩)
 unfold abI
 rw[dT h,aj]
def alg:Ctx:=CX vM []
def abP(a b:BR)(_k:KT):Option (List RV):=match decide (okR a∧okR b)with|true=>some [RV.d tR (hid (ag (ab a*ab b)))]|false=>none
theorem anG(a b:BR):RS alg 155 [.d tR a,.d tR b] (abP a b):=rsX
theorem Yn(a b:BR)(h:okR a∧okR b):Con Tryz.prog 155 [.d tR a,.d tR b] [.d tR (ag (ab a*ab b))]:=by
 refine aN jw (anG _ _ ⟨0,?_⟩)
 unfold abP
 rw[dT h,aj]
def anP:Ctx:=CX vM []
def abw(a b:BR)(_k:KT):Option (List RV):=match decide (eL a b)with|true=>(match 0 !=0 with|true=>(match decide (aX (0:Int))with|true=>some [RV.d tR (hid (ag ((0:Int):Rat)))]|false=>none)|false=>some [RV.d tR (hid (ag (ab a/ab b)))])|false=>none
theorem ajR(a b:BR):RS anP 156 [.d tR a,.d tR b] (abw a b):=rsX
theorem Wl(a b:BR)(h:eL a b):Con Tryz.prog 156 [.d tR a,.d tR b] [.d tR (ag (ab a/ab b))]:=by
 refine aN jw (ajR _ _ ⟨0,?_⟩)
 unfold abw
 rw[dT h]
 simp only[aj]
 rfl
def NA:aM:=spN true true [tO,tP] (fun x=>decide (ok Ln 300 x.1∧ok Pt 4000 x.2.1)) (fun x=>[RV.d atB ((qs (dec x.1) (dec x.2.1)).1),RV.d .bool ((qs (dec x.1) (dec x.2.1)).2)])
theorem PX:SpK 270 NA:=spX fun x h=>X6 x.1 x.2.1 (aqr h)
def Td:aM:=spN false true [tR,tR] (fun x=>decide (okR x.1∧okR x.2.1)) (fun x=>[RV.d tR (hid (ag (ab x.1+ab x.2.1)))])
theorem KS:SpK 154 Td:=spX fun x h=>by simp only[aj];exact XO x.1 x.2.1 (aqr h)
def QK:aM:=spN false true [tR,tR] (fun x=>decide (okR x.1∧okR x.2.1)) (fun x=>[RV.d tR (hid (ag (ab x.1-ab x.2.1)))])
theorem Sm:SpK 153 QK:=spX fun x h=>by simp only[aj];exact Yg x.1 x.2.1 (aqr h)
def L8:aM:=spN false true [tR,tR] (fun x=>decide (okR x.1∧okR x.2.1)) (fun x=>[RV.d tR (hid (ag (ab x.1*ab x.2.1)))])
theorem PP:SpK 155 L8:=spX fun x h=>by simp only[aj];exact Yn x.1 x.2.1 (aqr h)
def MU:aM:=spN false true [tR,tR] (fun x=>decide (eL x.1 x.2.1)) (fun x=>[RV.d tR (hid (ag (ab x.1/ab x.2.1)))])
theorem Rp:SpK 156 MU:=spX fun x h=>by simp only[aj];exact Wl x.1 x.2.1 (aqr h)
def H9:Env:=(270,NA)::(154,Td)::(153,QK)::(155,L8)::(156,MU)::vM
theorem tK:EnvAll Tryz.prog H9:=⟨PX,KS,Sm,PP,Rp,jw⟩
def akw:Ctx:=CX H9 []
def ac4(a b c:BR)(_k:KT):Option (List RV):=match decide (okR a)with|true=>(match decide (okR b)with|true=>(match decide (okR c)with|true=>(match(i64.wrap ((aS (ab b) 0)*(aS (ab c) 0)))==0 with|true=>some [RV.d atB (aS (ab a) 0)]|false=>(match(aS (ab a) 0)==(i64.wrap ((aS (ab b) 0)*(aS (ab c) 0)))with|true=>some [RV.d atB (aS (ab a) 0)]|false=>(match(aS (ab a) 0)==0 with|true=>some [RV.d atB (i64.wrap ((aS (ab b) 0)*(aS (ab c) 0)))]|false=>(match decide (okR a∧okR a)with|true=>(match decide (okR b∧okR b)with|true=>(match decide (okR (hid (ag (ab b*ab b)))∧okR c)with|true=>(match decide (okR (hid (ag (ab a*ab a)))∧okR (hid (ag (ab (hid (ag (ab b*ab b)))*ab c))))with|true=>some [RV.d atB (i64.wrap ((aS (ab a) 0)*(aS (ab (hid (ag (ab a*ab a)))) (ab (hid (ag (ab (hid (ag (ab b*ab b)))*ab c)))))))]|false=>none)|false=>none)|false=>none)|false=>none))))|false=>none)|false=>none)|false=>none
theorem alr(a b c:BR):RS akw 269 [.d tR a,.d tR b,.d tR c] (ac4 a b c):=rsX
theorem XW(a b c:BR)(h:ok Rat 240000 a∧ok Rat 170000 b∧ok Rat 30000 c):Con Tryz.prog 269 [.d tR a,.d tR b,.d tR c] [.d atB (eK (ab a) (ab b) (ab c))]:=by
 refine aN tK (alr _ _ _ ⟨0,?_⟩)
 obtain⟨ha,hb,hc⟩:=h
 obtain⟨a,rfl,ba⟩:=aQ ha
 obtain⟨b,rfl,bb⟩:=aQ hb
 obtain⟨c,rfl,bc⟩:=aQ hc
 unfold ac4
 simp only[aj,aA,av,aT,aqv,aqw,Nat.reduceAdd,Nat.reduceLeDiff,m4]
 exact AP _ _ _
def aj2:Ctx:=CX H9 []
def acm(a b c f:BR)(_k:KT):Option (List RV):=match decide (ok Rt 100000 (a,(b,c)))with|true=>(match decide (ok Rat 200000 f)with|true=>(match !((bJ (dec (a,(b,c)))).2)with|true=>some [RV.d tG (0,0),RV.d .bool false]|false=>(match !((frF (ab f)).2)with|true=>some [RV.d tG (0,0),RV.d .bool false]|false=>(match decide (prI (hid ((frF (ab f)).1)))with|true=>(match decide (prI (hid ((bJ (dec (a,(b,c)))).1))∧prI (hid (jn (hid ((frF (ab f)).1)))))with|true=>some [RV.d tG (hid ((cV (hid ((bJ (dec (a,(b,c)))).1)) (hid (jn (hid ((frF (ab f)).1))))).1)),RV.d .bool ((cV (hid ((bJ (dec (a,(b,c)))).1)) (hid (jn (hid ((frF (ab f)).1))))).2)]|false=>none)|false=>none)))|false=>none)|false=>none
theorem anz(a b c f:BR):RS aj2 289 [.d tR a,.d tR b,.d tR c,.d tR f] (acm a b c f):=rsX
theorem Zw(a b c f:BR)(h:ok Rat 100000 a∧ok Rat 100000 b∧ok Rat 100000 c∧ok Rat 100000 f):Con Tryz.prog 289 [.d tR a,.d tR b,.d tR c,.d tR f] [.d tG ((dV (ab a,ab b,ab c) (ab f)).1),.d .bool ((dV (ab a,ab b,ab c) (ab f)).2)]:=by
 refine aN tK (anz _ _ _ _ ⟨0,?_⟩)
 obtain⟨ha,hb,hc,hf⟩:=h
 obtain⟨a,rfl,ba⟩:=aQ ha
 obtain⟨b,rfl,bb⟩:=aQ hb
 obtain⟨c,rfl,bc⟩:=aQ hc
 obtain⟨f,rfl,bf⟩:=aQ hf
 have dr:(dec ((ag a,ag b,ag c):BO3):Rt)=(a,b,c):=ak ((a,b,c):Rt)
 have orr:decide (ok Rt 100000 ((ag a,ag b,ag c):BO3))=true:=okd (x:=((a,b,c):Rt)) (by decide) (by decide)
 unfold acm
 simp only[aj,aA,av,aC,aqv,aqw,Nat.reduceLeDiff,dr,orr,dT (RE.frF_pr _),dT (RE.negF_pr (RE.frF_pr _)),dT (tJ _)]
 unfold dV
 generalize bJ (a,b,c)=X
 generalize frF f=Y
 obtain⟨_,x⟩:=X
 obtain⟨_,y⟩:=Y
 cases x<;>cases y<;>rfl
def NE:aM:=spN true true [tR,tR,tR] (fun x=>decide (ok Rat 240000 x.1∧ok Rat 170000 x.2.1∧ok Rat 30000 x.2.2.1)) (fun x=>[RV.d atB (eK (ab x.1) (ab x.2.1) (ab x.2.2.1))])
theorem LB:SpK 269 NE:=spX fun x h=>XW x.1 x.2.1 x.2.2.1 (aqr h)
def KE:aM:=spN false true [tR,tR,tR,tR] (fun x=>decide (ok Rat 100000 x.1∧ok Rat 100000 x.2.1∧ok Rat 100000 x.2.2.1∧ok Rat 100000 x.2.2.2.1)) (fun x=>[RV.d tG (hid ((dV (ab x.1,ab x.2.1,ab x.2.2.1) (ab x.2.2.2.1)).1)),RV.d .bool ((dV (ab x.1,ab x.2.1,ab x.2.2.1) (ab x.2.2.2.1)).2)])
theorem PV:SpK 289 KE:=spX fun x h=>by simp only[aj];exact Zw x.1 x.2.1 x.2.2.1 x.2.2.2.1 (aqr h)
def H6:Env:=(269,NE)::(289,KE)::H9
theorem vP:EnvAll Tryz.prog H6:=⟨LB,PV,tK⟩
def aoA:Ctx:=CX H6 []
def ac3(c:BO3)(p:BP)(_k:KT):Option (List RV):=let y1:=dV (ab p.1,ab p.2.1,ab p.2.2.2.2) (ab c.1);let y2:=dV (ab p.2.2.1,ab p.2.2.2.1,ab p.2.2.2.2) (ab c.2.1);let y3:=cr (hid (y1.1)) (hid (y1.1));let y4:=cr (hid (y2.1)) (hid (y2.1));let y5:=cV (hid (y3.1)) (hid (y4.1));let y6:=hid ((frF (ab c.2.2)).1);let y7:=cV (hid (y5.1)) (hid (jn y6));match decide (ok Rat 100000 p.1∧ok Rat 100000 p.2.1∧ok Rat 100000 p.2.2.2.2∧ok Rat 100000 c.1)with|true=>(match decide (ok Rat 100000 p.2.2.1∧ok Rat 100000 p.2.2.2.1∧ok Rat 100000 p.2.2.2.2∧ok Rat 100000 c.2.1)with|true=>(match decide (ok Rat 200000 c.2.2)with|true=>(match !(y1.2)with|true=>some [RV.d atB 0,RV.d .bool false]|false=>(match !(y2.2)with|true=>some [RV.d atB 0,RV.d .bool false]|false=>(match !((frF (ab c.2.2)).2)with|true=>some [RV.d atB 0,RV.d .bool false]|false=>(match decide (prI (hid (y1.1))∧prI (hid (y1.1)))with|true=>(match decide (prI (hid (y2.1))∧prI (hid (y2.1)))with|true=>(match !(y3.2)with|true=>some [RV.d atB 0,RV.d .bool false]|false=>(match !(y4.2)with|true=>some [RV.d atB 0,RV.d .bool false]|false=>(match decide (prI (hid (y3.1))∧prI (hid (y4.1)))with|true=>(match !(y5.2)with|true=>some [RV.d atB 0,RV.d .bool false]|false=>(match decide (prI y6)with|true=>(match decide (prI (hid (y5.1))∧prI (hid (jn y6)))with|true=>(match !(y7.2)with|true=>some [RV.d atB 0,RV.d .bool false]|false=>some [RV.d atB ((sgF (hid (y7.1))).1),RV.d .bool ((sgF (hid (y7.1))).2)])|false=>none)|false=>none))|false=>none)))|false=>none)|false=>none))))|false=>none)|false=>none)|false=>none
theorem am6(c:BO3)(p:BP):RS aoA 268 [.d tO c,.d tP p] (ac3 c p):=rsX
theorem V3(c:BO3)(p:BP)(h:ok Ln 300 c∧ok Pt 4000 p):Con Tryz.prog 268 [.d tO c,.d tP p] [.d atB ((oB (dec c) (dec p)).1),.d .bool ((oB (dec c) (dec p)).2)]:=by
 refine aN vP (am6 _ _ ⟨0,?_⟩)
 obtain⟨hc,hp⟩:=h
 obtain⟨c,rfl,bc⟩:=aQ hc
 obtain⟨p,rfl,bp⟩:=aQ hp
 have pd:∀r q,prI (dV r q).1:=YV
 have pf:∀q,prI (frF q).1:=RE.frF_pr
 have pm:∀a b,prI (cr a b).1:=oq
 have dx:dV (p.1,p.2.1,p.2.2.2.2) c.1=dV (pxR p) c.1:=rfl
 have dy:dV (p.2.2.1,p.2.2.2.1,p.2.2.2.2) c.2.1=dV (pyR p) c.2.1:=rfl
 unfold ac3
 simp only[aj,ak,aD,aE,aA,av,aC,aqv,aqw,Nat.reduceLeDiff,dx,dy,dT (pd _ _),dT (pm _ _),dT (pf _),dT (RE.negF_pr (pf _)),dT (RE.addF_pr (pm _ _) (pm _ _))]
 unfold oB
 generalize dV (pxR p) c.1=X
 generalize dV (pyR p) c.2.1=Y
 generalize frF c.2.2=W
 generalize cr X.1 X.1=U
 generalize cr Y.1 Y.1=V
 generalize cV U.1 V.1=S
 generalize cV S.1 (jn W.1)=D
 generalize sgF D.1=Z
 obtain⟨_,x⟩:=X
 obtain⟨_,y⟩:=Y
 obtain⟨_,w⟩:=W
 obtain⟨_,u⟩:=U
 obtain⟨_,v⟩:=V
 obtain⟨_,s⟩:=S
 obtain⟨_,d⟩:=D
 cases x<;>cases y<;>cases w<;>try rfl
 cases u<;>cases v<;>try rfl
 cases s<;>cases d<;>rfl
def ajE:Ctx:=CX H6 []
def adI(l:BO3)(p:BP)(_k:KT):Option (List RV):=match decide (ok Ln 300 l∧ok Pt 4000 p)with|true=>(match(qs (dec l) (dec p)).2 with|true=>some [RV.d atB ((qs (dec l) (dec p)).1)]|false=>(match decide (okR l.1∧okR p.1)with|true=>(match decide (okR l.2.1∧okR p.2.2.1)with|true=>(match decide (okR (hid (ag (ab l.1*ab p.1)))∧okR (hid (ag (ab l.2.1*ab p.2.2.1))))with|true=>(match decide (okR (hid (ag (ab (hid (ag (ab l.1*ab p.1)))+ab (hid (ag (ab l.2.1*ab p.2.2.1))))))∧okR l.2.2)with|true=>(match decide (okR l.1∧okR p.2.1)with|true=>(match decide (okR l.2.1∧okR p.2.2.2.1)with|true=>(match decide (okR (hid (ag (ab l.1*ab p.2.1)))∧okR (hid (ag (ab l.2.1*ab p.2.2.2.1))))with|true=>(match decide (ok Rat 240000 (hid (ag (ab (hid (ag (ab (hid (ag (ab l.1*ab p.1)))+ab (hid (ag (ab l.2.1*ab p.2.2.1))))))-ab l.2.2)))∧ok Rat 170000 (hid (ag (ab (hid (ag (ab l.1*ab p.2.1)))+ab (hid (ag (ab l.2.1*ab p.2.2.2.1))))))∧ok Rat 30000 p.2.2.2.2)with|true=>some [RV.d atB (eK (ab (hid (ag (ab (hid (ag (ab (hid (ag (ab l.1*ab p.1)))+ab (hid (ag (ab l.2.1*ab p.2.2.1))))))-ab l.2.2)))) (ab (hid (ag (ab (hid (ag (ab l.1*ab p.2.1)))+ab (hid (ag (ab l.2.1*ab p.2.2.2.1))))))) (ab p.2.2.2.2))]|false=>none)|false=>none)|false=>none)|false=>none)|false=>none)|false=>none)|false=>none)|false=>none))|false=>none
theorem aku(l:BO3)(p:BP):RS ajE 231 [.d tO l,.d tP p] (adI l p):=rsX
theorem Ze(l:BO3)(p:BP)(h:ok Ln 300 l∧okP 4000 p):Con Tryz.prog 231 [.d tO l,.d tP p] [.d atB (nB (dec l) (dec p))]:=by
 refine aN vP (aku _ _ ⟨0,?_⟩)
 obtain⟨hl,hp⟩:=h
 obtain⟨l,rfl,bl⟩:=aQ hl
 obtain⟨p,rfl,bp,rp⟩:=bG hp
 unfold adI
 simp only[aj,ak,aD,aE,aA,av,okd,aC,aT,aqv,aqw,Nat.reduceAdd,Nat.reduceLeDiff]
 cases hq:(qs l p).2
 ·rfl
 ·rw[RE.sidL_ok l hq]
def UB:aM:=spN true true [tO,tP] (fun x=>decide (ok Ln 300 x.1∧ok Pt 4000 x.2.1)) (fun x=>[RV.d atB ((oB (dec x.1) (dec x.2.1)).1),RV.d .bool ((oB (dec x.1) (dec x.2.1)).2)])
theorem OO:SpK 268 UB:=spX fun x h=>V3 x.1 x.2.1 (aqr h)
def Oc:Env:=(268,UB)::H6
theorem Bs:EnvAll Tryz.prog Oc:=⟨OO,vP⟩
def alu:Ctx:=CX Oc []
def ac5(c:BO3)(p:BP)(_k:KT):Option (List RV):=let y1:=oB (dec c) (dec p);let y2:=hid (ag (ab p.1-ab c.1));let y3:=hid (ag (ab p.2.2.1-ab c.2.1));let y4:=hid (ag (ab y2*ab y2));let y5:=hid (ag (ab y3*ab y3));let y6:=hid (ag (ab p.2.1*ab p.2.1));let y7:=hid (ag (ab p.2.2.2.1*ab p.2.2.2.1));let y8:=hid (ag (ab y6+ab y7));let y9:=hid (ag (ab y4+ab y5));let y10:=hid (ag (ab p.2.2.2.2*ab y8));let y11:=hid (ag (ab y2*ab p.2.1));let y12:=hid (ag (ab y3*ab p.2.2.2.1));let y13:=hid (ag (ab y9+ab y10));let y14:=hid (ag (ab y11+ab y12));let y15:=hid (ag (ab y13-ab c.2.2));let y16:=hid (ag (ab y14+ab y14));match decide (ok Ln 300 c∧ok Pt 4000 p)with|true=>(match y1.2 with|true=>some [RV.d atB (i64.wrap (0-(y1.1)))]|false=>(match decide (okR p.1∧okR c.1)with|true=>(match decide (okR p.2.2.1∧okR c.2.1)with|true=>(match decide (okR y2∧okR y2)with|true=>(match decide (okR y3∧okR y3)with|true=>(match decide (okR y4∧okR y5)with|true=>(match decide (okR p.2.1∧okR p.2.1)with|true=>(match decide (okR p.2.2.2.1∧okR p.2.2.2.1)with|true=>(match decide (okR y6∧okR y7)with|true=>(match decide (okR p.2.2.2.2∧okR y8)with|true=>(match decide (okR y9∧okR y10)with|true=>(match decide (okR y2∧okR p.2.1)with|true=>(match decide (okR y3∧okR p.2.2.2.1)with|true=>(match decide (okR y11∧okR y12)with|true=>(match decide (okR y13∧okR c.2.2)with|true=>(match decide (okR y14∧okR y14)with|true=>(match decide (ok Rat 240000 y15∧ok Rat 170000 y16∧ok Rat 30000 p.2.2.2.2)with|true=>some [RV.d atB (i64.wrap (0-(eK (ab y15) (ab y16) (ab p.2.2.2.2))))]|false=>none)|false=>none)|false=>none)|false=>none)|false=>none)|false=>none)|false=>none)|false=>none)|false=>none)|false=>none)|false=>none)|false=>none)|false=>none)|false=>none)|false=>none)|false=>none))|false=>none
theorem al3(c:BO3)(p:BP):RS alu 230 [.d tO c,.d tP p] (ac5 c p):=rsX
theorem XA(c:BO3)(p:BP)(h:ok Ln 300 c∧okP 4000 p):Con Tryz.prog 230 [.d tO c,.d tP p] [.d atB (lF (dec c) (dec p))]:=by
 refine aN Bs (al3 _ _ ⟨0,?_⟩)
 obtain⟨hc,hp⟩:=h
 obtain⟨c,rfl,bc⟩:=aQ hc
 obtain⟨p,rfl,bp,rp⟩:=bG hp
 have sb:=jd (sqA p (ctr c)-c.2.2) (sqB p (ctr c)) p.2.2.2.2
 unfold ac5
 simp only[aj,ak,aD,aE,aA,av,okd,aC,aT,aqv,aqw,Nat.reduceAdd,Nat.reduceLeDiff]
 cases hq:(oB c p).2
 ·unfold lF sqA sqB ctr at*
  dsimp only at sb ⊢
  rw[show(p.2.2.2.2*(p.2.1*p.2.1+p.2.2.2.1*p.2.2.2.1))=(p.2.1*p.2.1+p.2.2.2.1*p.2.2.2.1)*p.2.2.2.2 by grind]
  rw[bi (by omega) (by omega),asp]
 ·have hb: -1≤(oB c p).1∧(oB c p).1≤1:=by
   have:=RE.insC_ok c hq
   unfold lF at this
   omega
  dsimp only
  rw[bi (by omega) (by omega),asp,RE.insC_ok c hq]
def ajA:Ctx:=CX Oc []
def ab0(l:BO3)(v:BV)(_k:KT):Option (List RV):=let y1:=hid (ag (ab l.1*ab v.1));let y2:=hid (ag (ab l.2.1*ab v.2));let y3:=hid (ag (ab y1+ab y2));let y4:=hid (ag (ab l.1*ab l.1));let y5:=hid (ag (ab l.2.1*ab l.2.1));let y6:=hid (ag (ab y3-ab l.2.2));let y7:=hid (ag (ab y4+ab y5));let y8:=hid (ag (ab y6/ab y7));let y9:=hid (ag (ab y8*ab l.1));let y10:=hid (ag (ab y8*ab l.2.1));match decide (okR l.1∧okR v.1)with|true=>(match decide (okR l.2.1∧okR v.2)with|true=>(match decide (okR y1∧okR y2)with|true=>(match decide (okR y3∧okR l.2.2)with|true=>(match decide (okR l.1∧okR l.1)with|true=>(match decide (okR l.2.1∧okR l.2.1)with|true=>(match decide (okR y4∧okR y5)with|true=>(match decide (eL y6 y7)with|true=>(match decide (okR y8∧okR l.1)with|true=>(match decide (okR v.1∧okR y9)with|true=>(match decide (okR y8∧okR l.2.1)with|true=>(match decide (okR v.2∧okR y10)with|true=>some [RV.d tV (hid (ag (ab v.1-ab y9)),hid (ag (ab v.2-ab y10)))]|false=>none)|false=>none)|false=>none)|false=>none)|false=>none)|false=>none)|false=>none)|false=>none)|false=>none)|false=>none)|false=>none)|false=>none
theorem aoj(l:BO3)(v:BV):RS ajA 70 [.d tO l,.d tV v] (ab0 l v):=rsX
theorem Wc(l:BO3)(v:BV)(h:ok Ln 300 l∧ok (Rat×Rat) 200 v∧((dec l:Ln).1≠0∨(dec l:Ln).2.1≠0)):Con Tryz.prog 70 [.d tO l,.d tV v] [.d tV (enc (lA (dec l) (dec v)))]:=by
 refine aN Bs (aoj _ _ ⟨0,?_⟩)
 obtain⟨hl,hv,h0⟩:=h
 obtain⟨l,rfl,bl⟩:=aQ hl
 obtain⟨v,rfl,bv⟩:=aQ hv
 have hn:l.1*l.1+l.2.1*l.2.1≠0:=sO (by rw[ak]at h0;exact h0)
 unfold ab0
 simp only[aj,ak,aD,aE,aA,av,aT,aB,aqv,aqw,Nat.reduceAdd,Nat.reduceLeDiff,hn,ne_eq,asj]
 rfl
theorem X9(n:Int):(if(if n>(-1)then n else(-1))<1 then(if n>(-1)then n else(-1))else 1)=Cg n:=by
 unfold Cg
 split<;>split<;>(try split)<;>(try split)<;>omega
def AR:aM:=spN true true [tO,tR] (fun x=>decide (okT 15000 x.1∧ok Rat 15000 x.2.1)) (fun x=>[RV.d atB (d9 (dec x.1) (ab x.2.1))])
theorem vw:SpK 84 AR:=spX fun x h=>Xk x.1 x.2.1 (aqr h)
def Pr:aM:=spN true true [tO,tP] (fun x=>decide (ok Ln 300 x.1∧okP 4000 x.2.1)) (fun x=>[RV.d atB (nB (dec x.1) (dec x.2.1))])
theorem OH:SpK 231 Pr:=spX fun x h=>Ze x.1 x.2.1 (aqr h)
def Rv:aM:=spN true true [tO,tP] (fun x=>decide (ok Ln 300 x.1∧okP 4000 x.2.1)) (fun x=>[RV.d atB (lF (dec x.1) (dec x.2.1))])
theorem U3:SpK 230 Rv:=spX fun x h=>XA x.1 x.2.1 (aqr h)
def ye:Env:=[(146,qv),(84,AR),(271,T3),(272,Mo),(232,OI),(231,Pr),(230,Rv)]
theorem lH:EnvAll Tryz.prog ye:=⟨lJ,vw,Hl,FW,Oa,OH,U3,trivial⟩
def al5:Ctx:=CX ye []
def aay(c:BCU)(p:BP)(_k:KT):Option (List RV):=match c.1 with|true=>(match decide (ok Ln 300 c.2.2.1∧okP 4000 p)with|true=>some [RV.d .bool ((lF (dec c.2.2.1) (dec p))==0)]|false=>none)|false=>(match decide (ok Ln 300 c.2.1∧okP 4000 p)with|true=>some [RV.d .bool ((nB (dec c.2.1) (dec p))==0)]|false=>none)
theorem ali(c:BCU)(p:BP):RS al5 172 [.d tCU c,.d tP p] (aay c p):=rsX
theorem VP(c:BCU)(p:BP)(h:okC 4000 c∧okP 4000 p):Con Tryz.prog 172 [.d tCU c,.d tP p] [.d .bool (gQ (dC c) (dec p))]:=by
 refine aN lH (ali _ _ ⟨0,?_⟩)
 obtain⟨hc,hp⟩:=h
 have op:decide (okP 4000 p)=true:=aqs hp
 obtain⟨ar,li,ci,cw,fr,to⟩:=c
 obtain⟨c1,c2,_⟩:=hc
 unfold aay
 cases ar
 ·have e:=(c2 rfl).1
  simp only[aqv,dT e,op,aqw]
  rfl
 ·have e:=(c1 rfl).1
  simp only[aqv,dT e,op,aqw]
  rfl
def aiE:Ctx:=CX ye []
def ab5(c:BO3)(p:BP)(_k:KT):Option (List RV):=match decide (okP 4000 p)with|true=>(match decide (okT 15000 (hid (enc (yP (dec p))))∧ok Rat 15000 c.2.1)with|true=>(match decide ((d9 (dec (hid (enc (yP (dec p))))) (ab c.2.1))>0)with|true=>some [RV.d atB 0]|false=>(match(d9 (dec (hid (enc (yP (dec p))))) (ab c.2.1))==0 with|true=>(match decide (okP 4000 p)with|true=>(match decide (okT 15000 (hid (enc (xP (dec p))))∧ok Rat 15000 c.1)with|true=>(match decide ((d9 (dec (hid (enc (xP (dec p))))) (ab c.1))>0)with|true=>some [RV.d atB 0]|false=>some [RV.d atB 1])|false=>none)|false=>none)|false=>some [RV.d atB 1]))|false=>none)|false=>none
theorem aiN(c:BO3)(p:BP):RS aiE 292 [.d tO c,.d tP p] (ab5 c p):=rsX
theorem Zo(c:BO3)(p:BP)(h:ok Ln 300 c∧okP 4000 p):Con Tryz.prog 292 [.d tO c,.d tP p] [.d atB (yq (dec c) (dec p))]:=by
 refine aN lH (aiN _ _ ⟨0,?_⟩)
 obtain⟨hc,hp⟩:=h
 obtain⟨c,rfl,bc⟩:=aQ hc
 obtain⟨p,rfl,bp,rp⟩:=bG hp
 unfold ab5 yq upR
 simp only[aj,ak,aD,aE,aA,av,aC,aqv,aqw,mx,Nat.reduceLeDiff,aqC,cond_true,bh,bg]
 cases decide (d9 (yP p) c.2.1>0)<;>cases d9 (yP p) c.2.1==0<;>cases decide (d9 (xP p) c.1>0)<;>rfl
def alY:Ctx:=CX ye []
def acj(n:Int)(_k:KT):Option (List RV):=some [RV.d atB (if(if n>(-1)then n else(-1))<1 then(if n>(-1)then n else(-1))else 1)]
theorem amE(n:Int):RS alY 275 [SI n] (acj n):=rsX
theorem ZZ(n:Int):Con Tryz.prog 275 [.d atB n] [.d atB (Cg n)]:=by
 refine aN lH (amE _ ⟨0,?_⟩)
 unfold acj
 rw[X9]
def anm:Ctx:=CX ye []
def amy(c:BCU)(_k:KT):Option (List RV):=match c.1 with|true=>some [RV.d tCU (c.1,(c.2.1,(c.2.2.1,(!c.2.2.2.1,(c.2.2.2.2.2,c.2.2.2.2.1)))))]|false=>some [RV.d tCU (c.1,(c.2.1,(c.2.2.1,(false,(c.2.2.2.2.2,c.2.2.2.2.1)))))]
theorem aki(c:BCU):RS anm 273 [.d tCU c] (amy c):=rsX
theorem Wg(c:BCU):Con Tryz.prog 273 [.d tCU c] [.d tCU (nh c)]:=by
 refine aN lH (aki _ ⟨0,?_⟩)
 obtain⟨ar,li,ci,cw,fr,to⟩:=c
 cases ar<;>rfl
def R5:aM:=spN true true [tCU,tP] (fun x=>decide (okC 4000 x.1∧okP 4000 x.2.1)) (fun x=>[RV.d .bool (gQ (dC x.1) (dec x.2.1))])
theorem Lk:SpK 172 R5:=spX fun x h=>VP x.1 x.2.1 (aqr h)
def O8:aM:=spN true true [tO,tP] (fun x=>decide (ok Ln 300 x.1∧okP 4000 x.2.1)) (fun x=>[RV.d atB (yq (dec x.1) (dec x.2.1))])
theorem ST:SpK 292 O8:=spX fun x h=>Zo x.1 x.2.1 (aqr h)
def KL:aM:=spN true true [atB] (fun _=>true) (fun x=>[RV.d atB (Cg x.1)])
theorem Ub:SpK 275 KL:=spX fun x _=>ZZ x.1
def TZ:aM:=spN false true [tCU] (fun _=>true) (fun x=>[RV.d tCU (hid (nh x.1))])
theorem NM:SpK 273 TZ:=spX fun x _=>by simp only[aj];exact Wg x.1
def Gz:Env:=(172,R5)::(292,O8)::(275,KL)::(273,TZ)::ye
theorem ux:EnvAll Tryz.prog Gz:=⟨Lk,ST,Ub,NM,lH⟩
def am8:Ctx:=CX Gz []
def aaU(c:BO3)(p q:BP)(_k:KT):Option (List RV):=match decide (ok Ln 300 c∧okP 4000 p)with|true=>(match decide (ok Ln 300 c∧okP 4000 q)with|true=>(match(yq (dec c) (dec p)) !=(yq (dec c) (dec q))with|true=>some [RV.d atB (i64.wrap ((yq (dec c) (dec p))-(yq (dec c) (dec q))))]|false=>(match decide (okP 4000 p)with|true=>(match decide (okP 4000 q)with|true=>(match decide (okT 15000 (hid (enc (xP (dec p))))∧okT 15000 (hid (enc (xP (dec q)))))with|true=>(match(yq (dec c) (dec p))==0 with|true=>some [RV.d atB (i64.wrap (0-(bL (dec (hid (enc (xP (dec p))))) (dec (hid (enc (xP (dec q))))))))]|false=>some [RV.d atB (bL (dec (hid (enc (xP (dec p))))) (dec (hid (enc (xP (dec q))))))])|false=>none)|false=>none)|false=>none))|false=>none)|false=>none
theorem amg(c:BO3)(p q:BP):RS am8 276 [.d tO c,.d tP p,.d tP q] (aaU c p q):=rsX
theorem VX(c:BO3)(p q:BP)(h:ok Ln 300 c∧okP 4000 p∧okP 4000 q):Con Tryz.prog 276 [.d tO c,.d tP p,.d tP q] [.d atB (qX bL (ptd (dec c) (dec p)) (ptd (dec c) (dec q)))]:=by
 refine aN ux (amg _ _ _ ⟨0,?_⟩)
 obtain⟨hc,hp,hq⟩:=h
 obtain⟨c,rfl,bc⟩:=aQ hc
 obtain⟨p,rfl,bp,rp⟩:=bG hp
 obtain⟨q,rfl,bq,rq⟩:=bG hq
 have xb:=sX (xP p) (xP q)
 unfold aaU
 simp only[aj,ak,okd,aqv,aqw,mx,Nat.reduceLeDiff,aqC,cond_true,bh,bg,bi (x:= -bL (xP p) (xP q)) (by omega) (by omega),asp]
 unfold qX yq ptd
 cases upR c p<;>cases upR c q<;>rfl
def ajG:Ctx:=CX Gz []
def aas(c:BCU)(_k:KT):Option (List RV):=match c.2.2.2.1 with|true=>some [RV.d tCU (hid (nh c))]|false=>some [RV.d tCU c]
theorem anW(c:BCU):RS ajG 233 [.d tCU c] (aas c):=rsX
theorem ZE(c:BCU):Con Tryz.prog 233 [.d tCU c] [.d tCU (lk c)]:=by
 refine aN ux (anW _ ⟨0,?_⟩)
 obtain⟨ar,li,ci,cw,fr,to⟩:=c
 unfold aas lk
 cases cw
 ·rfl
 ·simp only[aj];rfl
def Q6:aM:=spN true true [tO,tP,tP] (fun x=>decide (ok Ln 300 x.1∧okP 4000 x.2.1∧okP 4000 x.2.2.1)) (fun x=>[RV.d atB (qX bL (ptd (dec x.1) (dec x.2.1)) (ptd (dec x.1) (dec x.2.2.1)))])
theorem Ot:SpK 276 Q6:=spX fun x h=>VX x.1 x.2.1 x.2.2.1 (aqr h)
def LX:aM:=spN false true [tCU] (fun _=>true) (fun x=>[RV.d tCU (hid (lk x.1))])
theorem LO:SpK 233 LX:=spX fun x _=>by simp only[aj];exact ZE x.1
def Uu:Env:=(276,Q6)::(233,LX)::Gz
theorem BE:EnvAll Tryz.prog Uu:=⟨Ot,LO,ux⟩
def aiT:Ctx:=CX Uu []
def adt(c:BO3)(f p:BP)(_k:KT):Option (List RV):=match decide (ok Ln 300 c∧okP 4000 p∧okP 4000 f)with|true=>(match(qX bL (ptd (dec c) (dec p)) (ptd (dec c) (dec f)))==0 with|true=>some [RV.d atB 0]|false=>(match decide ((qX bL (ptd (dec c) (dec p)) (ptd (dec c) (dec f)))>0)with|true=>some [RV.d atB 1]|false=>some [RV.d atB 2]))|false=>none
theorem aiv(c:BO3)(f p:BP):RS aiT 274 [.d tO c,.d tP f,.d tP p] (adt c f p):=rsX
theorem Vz(c:BO3)(f p:BP)(h:ok Ln 300 c∧okP 4000 f∧okP 4000 p):Con Tryz.prog 274 [.d tO c,.d tP f,.d tP p] [.d atB (m9 bL (ptd (dec c) (dec f)) (ptd (dec c) (dec p)))]:=by
 refine aN BE (aiv _ _ _ ⟨0,?_⟩)
 obtain⟨hc,hf,hp⟩:=h
 unfold adt m9
 rw[dT ⟨hc,hp,hf⟩]
 dsimp only
 cases qX bL (ptd (dec c) (dec p)) (ptd (dec c) (dec f))==0<;>cases decide (qX bL (ptd (dec c) (dec p)) (ptd (dec c) (dec f))>0)<;>rfl
def LW:aM:=spN true true [tO,tP,tP] (fun x=>decide (ok Ln 300 x.1∧okP 4000 x.2.1∧okP 4000 x.2.2.1)) (fun x=>[RV.d atB (m9 bL (ptd (dec x.1) (dec x.2.1)) (ptd (dec x.1) (dec x.2.2.1)))])
theorem L9:SpK 274 LW:=spX fun x h=>Vz x.1 x.2.1 x.2.2.1 (aqr h)
def Nt:Env:=(274,LW)::Uu
theorem BA:EnvAll Tryz.prog Nt:=⟨L9,BE⟩
def anQ:Ctx:=CX Nt []
def abR(c:BO3)(f p q:BP)(_k:KT):Option (List RV):=match decide (ok Ln 300 c∧okP 4000 f∧okP 4000 p)with|true=>(match decide (ok Ln 300 c∧okP 4000 f∧okP 4000 q)with|true=>(match(m9 bL (ptd (dec c) (dec f)) (ptd (dec c) (dec p))) !=(m9 bL (ptd (dec c) (dec f)) (ptd (dec c) (dec q)))with|true=>some [RV.d atB (Cg (i64.wrap ((m9 bL (ptd (dec c) (dec f)) (ptd (dec c) (dec p)))-(m9 bL (ptd (dec c) (dec f)) (ptd (dec c) (dec q))))))]|false=>(match decide (ok Ln 300 c∧okP 4000 p∧okP 4000 q)with|true=>some [RV.d atB (Cg (qX bL (ptd (dec c) (dec p)) (ptd (dec c) (dec q))))]|false=>none))|false=>none)|false=>none
theorem akX(c:BO3)(f p q:BP):RS anQ 234 [.d tO c,.d tP f,.d tP p,.d tP q] (abR c f p q):=rsX
theorem VW(c:BO3)(f p q:BP)(h:ok Ln 300 c∧okP 4000 f∧okP 4000 p∧okP 4000 q):Con Tryz.prog 234 [.d tO c,.d tP f,.d tP p,.d tP q] [.d atB (So bL (ptd (dec c) (dec f)) (ptd (dec c) (dec p)) (ptd (dec c) (dec q)))]:=by
 refine aN BA (akX _ _ _ _ ⟨0,?_⟩)
 obtain⟨hc,hf,hp,hq⟩:=h
 unfold abR So bne
 have b1:=Gi (p:=ptd (dec c) (dec f)) (q:=ptd (dec c) (dec p))
 have b2:=Gi (p:=ptd (dec c) (dec f)) (q:=ptd (dec c) (dec q))
 rw[dT ⟨hc,hf,hp⟩,dT ⟨hc,hf,hq⟩,dT ⟨hc,hp,hq⟩,bi (by omega) (by omega)]
 dsimp only
 cases m9 bL (ptd (dec c) (dec f)) (ptd (dec c) (dec p))==m9 bL (ptd (dec c) (dec f)) (ptd (dec c) (dec q))<;>rfl
def T0:aM:=spN true true [tO,tP,tP,tP] (fun x=>decide (ok Ln 300 x.1∧okP 4000 x.2.1∧okP 4000 x.2.2.1∧okP 4000 x.2.2.2.1)) (fun x=>[RV.d atB (So bL (ptd (dec x.1) (dec x.2.1)) (ptd (dec x.1) (dec x.2.2.1)) (ptd (dec x.1) (dec x.2.2.2.1)))])
theorem LK:SpK 234 T0:=spX fun x h=>VW x.1 x.2.1 x.2.2.1 x.2.2.2.1 (aqr h)
def Qu:Env:=(234,T0)::Nt
theorem C2:EnvAll Tryz.prog Qu:=⟨LK,BA⟩
def ajV:Ctx:=CX Qu []
def acV(c:BCU)(p:BP)(_k:KT):Option (List RV):=match !c.1 with|true=>(match decide (okP 4000 c.2.2.2.2.1∧okP 4000 p)with|true=>(match decide (okP 4000 p∧okP 4000 c.2.2.2.2.2)with|true=>(match(cz (dec c.2.2.2.2.1) (dec p))==0 with|true=>some [RV.d .bool true]|false=>(match(cz (dec p) (dec c.2.2.2.2.2))==0 with|true=>some [RV.d .bool true]|false=>some [RV.d .bool ((cz (dec c.2.2.2.2.1) (dec p))==(cz (dec p) (dec c.2.2.2.2.2)))]))|false=>none)|false=>none)|false=>(match decide (ok Ln 300 ((((hid (lk c)).2).2).1)∧okP 4000 ((((((hid (lk c)).2).2).2).2).1)∧okP 4000 p∧okP 4000 ((((((hid (lk c)).2).2).2).2).2))with|true=>some [RV.d .bool (decide ((So bL (ptd (dec ((((hid (lk c)).2).2).1)) (dec ((((((hid (lk c)).2).2).2).2).1))) (ptd (dec ((((hid (lk c)).2).2).1)) (dec p)) (ptd (dec ((((hid (lk c)).2).2).1)) (dec ((((((hid (lk c)).2).2).2).2).2))))≤0))]|false=>none)
theorem aov(c:BCU)(p:BP):RS ajV 173 [.d tCU c,.d tP p] (acV c p):=rsX
theorem VO(c:BCU)(p:BP)(h:okC 4000 c∧okP 4000 p):Con Tryz.prog 173 [.d tCU c,.d tP p] [.d .bool (Lf (dC c) (dec p))]:=by
 refine aN C2 (aov _ _ ⟨0,?_⟩)
 obtain⟨hc,hp⟩:=h
 obtain⟨ar,li,ci,cw,fr,to⟩:=c
 obtain⟨c1,c2,c3,c4⟩:=hc
 unfold acV Lf
 simp only[aj]
 cases ar
 ·try dsimp only[Bool.not_false]
  rw[dT ⟨c3,hp⟩,dT ⟨hp,c4⟩]
  show _=some [RV.d .bool (aia (cz (dec fr) (dec p)) (cz (dec p) (dec to)))]
  unfold aia
  dsimp only
  cases cz (dec fr) (dec p)==0<;>cases cz (dec p) (dec to)==0<;>rfl
 ·have e:=(c1 rfl).1
  cases cw
  ·rw[dT (show ok Ln 300 (lk (true,li,ci,false,fr,to)).2.2.1∧okP 4000 (lk (true,li,ci,false,fr,to)).2.2.2.2.1∧okP 4000 p∧okP 4000 (lk (true,li,ci,false,fr,to)).2.2.2.2.2 from⟨e,c3,hp,c4⟩)]
   rfl
  ·rw[dT (show ok Ln 300 (lk (true,li,ci,true,fr,to)).2.2.1∧okP 4000 (lk (true,li,ci,true,fr,to)).2.2.2.2.1∧okP 4000 p∧okP 4000 (lk (true,li,ci,true,fr,to)).2.2.2.2.2 from⟨e,c4,hp,c3⟩)]
   rfl
def PN:aM:=spN true true [tCU,tP] (fun x=>decide (okC 4000 x.1∧okP 4000 x.2.1)) (fun x=>[RV.d .bool (Lf (dC x.1) (dec x.2.1))])
theorem PD:SpK 173 PN:=spX fun x h=>VO x.1 x.2.1 (aqr h)
def ac2:Env:=(173,PN)::Qu
theorem Lv:EnvAll Tryz.prog ac2:=⟨PD,C2⟩
def air:Ctx:=CX ac2 []
def acJ(c:BCU)(p:BP)(_k:KT):Option (List RV):=match decide (okC 4000 c∧okP 4000 p)with|true=>(match gQ (dC c) (dec p)with|true=>(match decide (okC 4000 c∧okP 4000 p)with|true=>some [RV.d .bool (Lf (dC c) (dec p))]|false=>none)|false=>some [RV.d .bool false])|false=>none
theorem aja(c:BCU)(p:BP):RS air 89 [.d tCU c,.d tP p] (acJ c p):=rsX
theorem Wi(c:BCU)(p:BP)(h:okC 4000 c∧okP 4000 p):Con Tryz.prog 89 [.d tCU c,.d tP p] [.d .bool (onP (dC c) (dec p))]:=by
 refine aN Lv (aja _ _ ⟨0,?_⟩)
 unfold acJ onP
 rw[dT h]
 dsimp only
 cases gQ (dC c) (dec p)<;>rfl
def Ui:aM:=spN true true [tCU,tP] (fun x=>decide (okC 4000 x.1∧okP 4000 x.2.1)) (fun x=>[RV.d .bool (onP (dC x.1) (dec x.2.1))])
theorem Mi:SpK 89 Ui:=spX fun x h=>Wi x.1 x.2.1 (aqr h)
theorem cI{j k:Nat}{x:BP}(h:okP j x)(hj:j≤k)(hk:k≤480000):okP k x:=by
 obtain⟨p,rfl,bp,rp⟩:=bG h
 exact aqr (bg hj hk)
theorem dB{j k:Nat}{c:BCU}(h:okC j c)(hj:j≤k)(hk:k≤480000):okC k c:=⟨h.1,h.2.1,cI h.2.2.1 hj hk,cI h.2.2.2 hj hk⟩
end Go.Proofs.YtlahabkjhgkkjaaGreat
end
