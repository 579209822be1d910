/- Lines and circles: the reference's contracts. -/
import Derived.Test.YtlahabkjhgkkjaaGreatY14
noncomputable section
namespace Go.Proofs.YtlahabkjhgkkjaaGreat
open Go.RowKit Go.IntKind
theorem awq:type_of% @Rat.div_mul_cancel:=@Rat.div_mul_cancel
theorem awK:type_of% @not_false_eq_true:=@not_false_eq_true
def FZ(l:Ln)(p:Pt):Rt:=mkR (HH l p) (G6 l p) p.2.2.2.2
def t9(c:Ln)(p:Pt):Rt:=arT (sqP p (ctr c)) (-c.2.2)
instance atC {r:Rt} {a:Rat} [h:Rdd r]:Rdd (arT r a):=⟨h.rd⟩
instance aan {l:Ln} {p:Pt} [h:Rpd p]:Rdd (FZ l p):=by
 have:Nn p.2.2.2.2:=inferInstance
 exact Gj
instance atr {l:Ln} {p:Pt} {i j:Nat} [h:Bd l i] [h':Bd p j]:Bd (FZ l p) (5*i+5*j+5):=by
 have a1:Bd (HH l p) _:=inferInstance
 have a2:Bd (G6 l p) _:=inferInstance
 have a3:Bd (mkR (HH l p) (G6 l p) p.2.2.2.2) _:=inferInstance
 exact a3.mono (by omega)
theorem adf{l:Ln}{p:Pt}[h:Rpd p]:sgR (FZ l p)=mh l p:=by
 unfold mh
 rw[G4 (aan (l:=l) (p:=p)).nn,RE.sgn2_re h.nn]
 unfold FZ
 rw[RE.vR_mk]
namespace RE
theorem ac8(a b q:RE):a+ -q+b=a+b-q:=by
 induction a using auZ
 induction b using auZ
 induction q using auZ
 exact snd fun n=>by
  simp only[RL.add,RL.neg]
  grind
theorem ZS(a b q:RE):a-q+b=a+b-q:=by
 induction a using auZ
 induction b using auZ
 induction q using auZ
 exact snd fun n=>by
  simp only[RL.add,RL.neg]
  grind
theorem shift_l(a b d q:RE)(h:a+b=a+d):a+ -q+b=a-q+d:=by
 rw[ac8,ZS,h]
end RE
theorem abP{c:Ln}{p:Pt}[h:Rpd p]: -sgR (t9 c p)=lm c p:=by
 unfold lm
 have hr:Rdd (t9 c p):=inferInstanceAs (Rdd (arT (sqP p (ctr c)) (-c.2.2)))
 rw[G4 hr.nn,RE.sgn2_re h.nn]
 have e:RE.vR (t9 c p)=RE.v2 (sqA p (ctr c)-c.2.2) (sqB p (ctr c)) p.2.2.2.2:=by
  have e1:=RE.vR_co (sqA p (ctr c)) (sqB p (ctr c)) p.2.2.2.2
  unfold RE.vR RE.v2 at e1
  unfold t9 arT sqP RE.vR RE.v2
  simp only
  rw[RE.of_add,RE.of_neg,RE.of_sub]
  have e2:RE.of (coR (sqA p (ctr c)) (sqB p (ctr c)) p.2.2.2.2).1=RE.of (sqA p (ctr c)):=by
   unfold coR
   cases decide (sqB p (ctr c)=0)<;>rfl
  rw[e2]at e1 ⊢
  exact RE.shift_l _ _ _ _ e1
 rw[e]
theorem wJ{q:Rat}(h:q≠0):aV q 0=if 0<q then 1 else-1:=by
 rcases(by grind:q<0∨0<q)with h'|h'
 ·rw[dh h',avn (by grind)]
 ·rw[c9 h',avr h']
def Co:aO:=spN false true [tR,tR] (fun x=>decide (fD x.1 x.2.1)) (fun x=>[RV.d tR (hid (ai (ae x.1/ae x.2.1))),RV.d ax8 0])
theorem Ay:SpK 217 Co:=spX fun x h=>by simp only[ak];exact D6 x.1 x.2.1 (au0 h)
def vi:aO:=spN false true [tR,tR,tR] (fun x=>decide (ok Rat 100000 x.1∧ok Rat 100000 x.2.1∧ok Rat 100000 x.2.2.1∧0≤ae x.2.2.1)) (fun x=>[RV.d tO (hid (enc (mkR (ae x.1) (ae x.2.1) (ae x.2.2.1)))),RV.d ax8 0])
theorem sN:SpK 49 vi:=spX fun x h=>by simp only[ak];exact Yr x.1 x.2.1 x.2.2.1 (au0 h)
def lV:Env:=[(78,gv),(50,iN),(127,jR),(161,jS),(132,iL),(107,lY),(124,lP),(217,Co),(49,vi),(266,Br),(54,A8)]
theorem gX:EnvAll Tryz.prog lV:=⟨fc,gi,gV,gQ,ga,iS,jc,Ay,sN,Ac,Ak,trivial⟩
def akE:Ctx:=CX lV []
def Ub(a:BR)(_k:KT):Option (List RV):=match decide (okR a∧okR a)with|true=>some [RV.d tR (hid (ai (ae a*ae a)))]|false=>none
theorem ala(a:BR):RS akE 162 [.d tR a] (Ub a):=rsX
theorem YX(a:BR)(h:okR a):Con Tryz.prog 162 [.d tR a] [.d tR (ai (ae a*ae a))]:=by
 refine aR gX (ala _ ⟨0,?_⟩)
 unfold Ub
 rw[dT ⟨h,h⟩]
 simp only[ak]
def alb:Ctx:=CX lV []
def V5(a b:BR)(_k:KT):Option (List RV):=match decide (okR a∧okR b)with|true=>some [RV.d tR (hid (ai (ae a+ae b)))]|false=>none
theorem amh(a b:BR):RS alb 140 [.d tR a,.d tR b] (V5 a b):=rsX
theorem Ve(a b:BR)(h:okR a∧okR b):Con Tryz.prog 140 [.d tR a,.d tR b] [.d tR (ai (ae a+ae b))]:=by
 refine aR gX (amh _ _ ⟨0,?_⟩)
 unfold V5
 rw[dT h]
 simp only[ak]
def aiH:Ctx:=CX lV []
def V9(a b:BR)(_k:KT):Option (List RV):=match decide (okR a∧okR b)with|true=>some [RV.d tR (hid (ai (ae a-ae b)))]|false=>none
theorem ah7(a b:BR):RS aiH 143 [.d tR a,.d tR b] (V9 a b):=rsX
theorem Wi(a b:BR)(h:okR a∧okR b):Con Tryz.prog 143 [.d tR a,.d tR b] [.d tR (ai (ae a-ae b))]:=by
 refine aR gX (ah7 _ _ ⟨0,?_⟩)
 unfold V9
 rw[dT h]
 simp only[ak]
def alF:Ctx:=CX lV []
def Wf(a b:BR)(_k:KT):Option (List RV):=match decide (okR a∧okR b)with|true=>some [RV.d tR (hid (ai (ae a*ae b)))]|false=>none
theorem ajH(a b:BR):RS alF 141 [.d tR a,.d tR b] (Wf a b):=rsX
theorem Sz(a b:BR)(h:okR a∧okR b):Con Tryz.prog 141 [.d tR a,.d tR b] [.d tR (ai (ae a*ae b))]:=by
 refine aR gX (ajH _ _ ⟨0,?_⟩)
 unfold Wf
 rw[dT h]
 simp only[ak]
def amA:Ctx:=CX lV []
def Ua(a b:BR)(_k:KT):Option (List RV):=match decide (fD a b)with|true=>some [RV.d tR (hid (ai (ae a/ae b)))]|false=>none
theorem al3(a b:BR):RS amA 142 [.d tR a,.d tR b] (Ua a b):=rsX
theorem Pb(a b:BR)(h:fD a b):Con Tryz.prog 142 [.d tR a,.d tR b] [.d tR (ai (ae a/ae b))]:=by
 refine aR gX (al3 _ _ ⟨0,?_⟩)
 unfold Ua
 rw[dT h]
 simp only[ak]
def Kc:aO:=spN false true [tR] (fun x=>decide (okR x.1)) (fun x=>[RV.d tR (hid (ai (ae x.1*ae x.1)))])
theorem NM:SpK 162 Kc:=spX fun x h=>by simp only[ak];exact YX x.1 (au0 h)
def BA:aO:=spN false true [tR,tR] (fun x=>decide (okR x.1∧okR x.2.1)) (fun x=>[RV.d tR (hid (ai (ae x.1+ae x.2.1)))])
theorem yF:SpK 140 BA:=spX fun x h=>by simp only[ak];exact Ve x.1 x.2.1 (au0 h)
def AG:aO:=spN false true [tR,tR] (fun x=>decide (okR x.1∧okR x.2.1)) (fun x=>[RV.d tR (hid (ai (ae x.1-ae x.2.1)))])
theorem yR:SpK 143 AG:=spX fun x h=>by simp only[ak];exact Wi x.1 x.2.1 (au0 h)
def vm:aO:=spN false true [tR,tR] (fun x=>decide (okR x.1∧okR x.2.1)) (fun x=>[RV.d tR (hid (ai (ae x.1*ae x.2.1)))])
theorem sA:SpK 141 vm:=spX fun x h=>by simp only[ak];exact Sz x.1 x.2.1 (au0 h)
def B5:aO:=spN false true [tR,tR] (fun x=>decide (fD x.1 x.2.1)) (fun x=>[RV.d tR (hid (ai (ae x.1/ae x.2.1)))])
theorem zy:SpK 142 B5:=spX fun x h=>by simp only[ak];exact Pb x.1 x.2.1 (au0 h)
def oD:Env:=(162,Kc)::(140,BA)::(143,AG)::(141,vm)::(142,B5)::lV
theorem jB:EnvAll Tryz.prog oD:=⟨NM,yF,yR,sA,zy,gX⟩
def ajl:Ctx:=CX oD []
def TA(r:BO3)(_k:KT):Option (List RV):=match decide (okR r.1)with|true=>(match decide (okR r.2.1)with|true=>(match decide (okR (hid (ai (ae r.2.1*ae r.2.1)))∧okR r.2.2)with|true=>(match decide (okR (hid (ai (ae r.1*ae r.1)))∧okR (hid (ai (ae (hid (ai (ae r.2.1*ae r.2.1)))*ae r.2.2))))with|true=>some [RV.d tR (hid (ai (ae (hid (ai (ae r.1*ae r.1)))-ae (hid (ai (ae (hid (ai (ae r.2.1*ae r.2.1)))*ae r.2.2))))))]|false=>none)|false=>none)|false=>none)|false=>none
theorem aiJ(r:BO3):RS ajl 79 [.d tO r] (TA r):=rsX
theorem PY(r:BO3)(h:ok Rt 90000 r):Con Tryz.prog 79 [.d tO r] [.d tR (ai (noR (dec r)))]:=by
 refine aR jB (aiJ _ ⟨0,?_⟩)
 have hr:=h
 obtain⟨r,rfl,br⟩:=aU hr
 unfold TA
 simp only[ak,am,aI,aJ,aG,az,aX,au4,au6,Nat.reduceAdd,Nat.reduceLeDiff]
 rfl
def ajp:Ctx:=CX oD []
def QU(l:BO3)(p:BP)(_k:KT):Option (List RV):=match decide (okR l.1∧okR p.1)with|true=>(match decide (okR l.2.1∧okR p.2.2.1)with|true=>(match decide (okR (hid (ai (ae l.1*ae p.1)))∧okR (hid (ai (ae l.2.1*ae p.2.2.1))))with|true=>(match decide (okR (hid (ai (ae (hid (ai (ae l.1*ae p.1)))+ae (hid (ai (ae l.2.1*ae p.2.2.1))))))∧okR l.2.2)with|true=>(match decide (okR l.1∧okR p.2.1)with|true=>(match decide (okR l.2.1∧okR p.2.2.2.1)with|true=>(match decide (okR (hid (ai (ae l.1*ae p.2.1)))∧okR (hid (ai (ae l.2.1*ae p.2.2.2.1))))with|true=>(match decide (ok Rat 100000 (hid (ai (ae (hid (ai (ae (hid (ai (ae l.1*ae p.1)))+ae (hid (ai (ae l.2.1*ae p.2.2.1))))))-ae l.2.2)))∧ok Rat 100000 (hid (ai (ae (hid (ai (ae l.1*ae p.2.1)))+ae (hid (ai (ae l.2.1*ae p.2.2.2.1))))))∧ok Rat 100000 p.2.2.2.2∧0≤ae p.2.2.2.2)with|true=>some [RV.d tO (hid (enc (mkR (ae (hid (ai (ae (hid (ai (ae (hid (ai (ae l.1*ae p.1)))+ae (hid (ai (ae l.2.1*ae p.2.2.1))))))-ae l.2.2)))) (ae (hid (ai (ae (hid (ai (ae l.1*ae p.2.1)))+ae (hid (ai (ae l.2.1*ae p.2.2.2.1))))))) (ae p.2.2.2.2))))]|false=>none)|false=>none)|false=>none)|false=>none)|false=>none)|false=>none)|false=>none)|false=>none
theorem ajQ(l:BO3)(p:BP):RS ajp 121 [.d tO l,.d tP p] (QU l p):=rsX
theorem RF(l:BO3)(p:BP)(h:ok Ln 300 l∧okP 4000 p):Con Tryz.prog 121 [.d tO l,.d tP p] [.d tO (enc (FZ (dec l) (dec p)))]:=by
 refine aR jB (ajQ _ _ ⟨0,?_⟩)
 obtain⟨hl,hp⟩:=h
 obtain⟨l,rfl,bl⟩:=aU hl
 obtain⟨p,rfl,bp,rp⟩:=cO hp
 have hn:0≤p.2.2.2.2:=rp.nn
 unfold QU
 simp only[ak,am,aI,aJ,aG,az,aH,aX,au4,au6,Nat.reduceAdd,Nat.reduceLeDiff,dT hn]
 rfl
def aiG:Ctx:=CX oD []
def XR(c:BO3)(p:BP)(_k:KT):Option (List RV):=match decide (okP 3500 p∧ok (Rat×Rat) 300 (c.1,c.2.1))with|true=>(match decide (okR c.2.2)with|true=>(match decide (ok Rt 100000 (hid (enc (sqP (dec p) (dec (c.1,c.2.1)))))∧ok Rat 100000 (hid (ai (-ae c.2.2))))with|true=>some [RV.d tO (hid (enc (arT (dec (hid (enc (sqP (dec p) (dec (c.1,c.2.1)))))) (ae (hid (ai (-ae c.2.2)))))))]|false=>none)|false=>none)|false=>none
theorem aiB(c:BO3)(p:BP):RS aiG 228 [.d tO c,.d tP p] (XR c p):=rsX
theorem U9(c:BO3)(p:BP)(h:ok Ln 300 c∧okP 3500 p):Con Tryz.prog 228 [.d tO c,.d tP p] [.d tO (enc (t9 (dec c) (dec p)))]:=by
 refine aR jB (aiB _ _ ⟨0,?_⟩)
 obtain⟨hc,hp⟩:=h
 obtain⟨c,rfl,bc⟩:=aU hc
 obtain⟨p,rfl,bp,rp⟩:=cO hp
 have e0:(dec ((ai c.1,ai c.2.1):BV):Rat×Rat)=ctr c:=am (ctr c)
 have e1:decide (ok (Rat×Rat) 300 ((ai c.1,ai c.2.1):BV))=true:=okd (x:=ctr c) (by decide) (by decide)
 unfold XR
 simp only[ak,am,aI,aJ,aG,az,okd,aH,aX,au4,au6,mx,Nat.reduceAdd,Nat.reduceMul,Nat.reduceLeDiff,ave,cond_true,bH,e0,e1]
 rfl
def ajB:Ctx:=CX oD []
def QM(l:BO3)(v:BV)(_k:KT):Option (List RV):=let y1:=hid (ai (ae l.1*ae l.1));let y2:=hid (ai (ae l.2.1*ae l.2.1));let y3:=hid (ai (ae l.1*ae v.1));let y4:=hid (ai (ae l.2.1*ae v.2));let y5:=hid (ai (ae y3+ae y4));let y6:=hid (ai (ae l.2.2-ae y5));let y7:=hid (ai (ae y1+ae y2));let y8:=hid (ai (ae y6/ae y7));let y9:=hid (ai (ae y8*ae l.1));let y10:=hid (ai (ae y8*ae l.2.1));match decide (okR l.1∧okR l.1)with|true=>(match decide (okR l.2.1∧okR l.2.1)with|true=>(match decide (okR y1∧okR y2)with|true=>(match decide (okR l.1∧okR v.1)with|true=>(match decide (okR l.2.1∧okR v.2)with|true=>(match decide (okR y3∧okR y4)with|true=>(match decide (okR l.2.2∧okR y5)with|true=>(match decide (fD y6 y7)with|true=>(match decide (okR y8∧okR l.1)with|true=>(match decide (okR v.1∧okR y9)with|true=>(match decide (okR y8∧okR l.2.1)with|true=>(match decide (okR v.2∧okR y10)with|true=>some [RV.d tV (hid (ai (ae v.1+ae y9)),hid (ai (ae v.2+ae y10)))]|false=>none)|false=>none)|false=>none)|false=>none)|false=>none)|false=>none)|false=>none)|false=>none)|false=>none)|false=>none)|false=>none)|false=>none
theorem ajg(l:BO3)(v:BV):RS ajB 55 [.d tO l,.d tV v] (QM l v):=rsX
theorem UN(l:BO3)(v:BV)(h:ok Ln 300 l∧ok (Rat×Rat) 200 v∧((dec l:Ln).1≠0∨(dec l:Ln).2.1≠0)):Con Tryz.prog 55 [.d tO l,.d tV v] [.d tV (enc (c8 (dec l) (dec v)))]:=by
 refine aR jB (ajg _ _ ⟨0,?_⟩)
 obtain⟨hl,hv,h0⟩:=h
 obtain⟨l,rfl,bl⟩:=aU hl
 obtain⟨v,rfl,bv⟩:=aU hv
 have hn:l.1*l.1+l.2.1*l.2.1≠0:=jX (by rw[am]at h0;exact h0)
 have e:(l.2.2-(l.1*v.1+l.2.1*v.2))/(l.1*l.1+l.2.1*l.2.1)= -nj l v:=by
  unfold nj
  grind
 unfold QM
 simp only[ak,am,aI,aJ,aG,az,aX,aF,au4,au6,Nat.reduceAdd,Nat.reduceLeDiff,hn,ne_eq,awK]
 unfold c8
 rw[e,show v.1+ -nj l v*l.1=v.1-nj l v*l.1 by grind,show v.2+ -nj l v*l.2.1=v.2-nj l v*l.2.1 by grind]
 rfl
def JI:aO:=spN false true [tO] (fun x=>decide (ok Rt 90000 x.1)) (fun x=>[RV.d tR (hid (ai (noR (dec x.1))))])
theorem MA:SpK 79 JI:=spX fun x h=>by simp only[ak];exact PY x.1 (au0 h)
def J3:aO:=spN false true [tO,tP] (fun x=>decide (ok Ln 300 x.1∧okP 4000 x.2.1)) (fun x=>[RV.d tO (hid (enc (FZ (dec x.1) (dec x.2.1))))])
theorem M7:SpK 121 J3:=spX fun x h=>by simp only[ak];exact RF x.1 x.2.1 (au0 h)
def J1:aO:=spN false true [tO,tP] (fun x=>decide (ok Ln 300 x.1∧okP 3500 x.2.1)) (fun x=>[RV.d tO (hid (enc (t9 (dec x.1) (dec x.2.1))))])
theorem N7:SpK 228 J1:=spX fun x h=>by simp only[ak];exact U9 x.1 x.2.1 (au0 h)
def Df:aO:=spN false true [tO,tV] (fun x=>decide (ok Ln 300 x.1∧ok (Rat×Rat) 200 x.2.1∧((dec x.1:Ln).1≠0∨(dec x.1:Ln).2.1≠0))) (fun x=>[RV.d tV (hid (enc (c8 (dec x.1) (dec x.2.1))))])
theorem yS:SpK 55 Df:=spX fun x h=>by simp only[ak];exact UN x.1 x.2.1 (au0 h)
def CG:Env:=(79,JI)::(121,J3)::(228,J1)::(55,Df)::oD
theorem vD:EnvAll Tryz.prog CG:=⟨MA,M7,N7,yS,jB⟩
def akB:Ctx:=CX CG []
def P4(r:BO3)(_k:KT):Option (List RV):=match decide (okR r.1)with|true=>(match decide (okR r.2.1)with|true=>(match(aV (ae r.1) 0)==(aV (ae r.2.1) 0)with|true=>some [RV.d ax8 (aV (ae r.1) 0)]|false=>(match(aV (ae r.2.1) 0)==0 with|true=>some [RV.d ax8 (aV (ae r.1) 0)]|false=>(match(aV (ae r.1) 0)==0 with|true=>some [RV.d ax8 (aV (ae r.2.1) 0)]|false=>(match decide (ok Rt 90000 r)with|true=>(match decide (okR (hid (ai (noR (dec r)))))with|true=>(match decide ((aV (ae (hid (ai (noR (dec r))))) 0)>0)with|true=>some [RV.d ax8 (aV (ae r.1) 0)]|false=>some [RV.d ax8 (aV (ae r.2.1) 0)])|false=>none)|false=>none))))|false=>none)|false=>none
theorem amW(r:BO3):RS akB 18 [.d tO r] (P4 r):=rsX
theorem XM(r:BO3)(h:okT 90000 r):Con Tryz.prog 18 [.d tO r] [.d ax8 (sgR (dec r))]:=by
 refine aR vD (amW _ ⟨0,?_⟩)
 have hr:=h
 obtain⟨r,rfl,br,rr⟩:=fK hr
 unfold P4
 simp only[ak,am,aI,aJ,aG,az,okd,aX,Nat.reduceAdd,Nat.reduceMul,Nat.reduceLeDiff,aM,aQ]
 rw[arI rr]
 by_cases hb:r.2.1=0
 ·rw[au1 hb,hb,dN]
  by_cases ha:aV r.1 0=0
  ·rw[ha];rfl
  ·rw[show(aV r.1 0==0)=false by simp[ha]];rfl
 ·have hn:=ak4 rr hb
  have e2:=wJ hn
  have hb2:=wJ hb
  rw[au3 hb,show(aV r.2.1 0==0)=false by rw[aM,au3 hb]]
  by_cases ha:r.1=0
  ·rw[au1 ha,ha,dN,show((0:Int)==aV r.2.1 0)=false by rw[hb2];split<;>rfl]
   rfl
  ·have ha2:=wJ ha
   rw[au3 ha,show(aV r.1 0==0)=false by rw[aM,au3 ha]]
   cases hq:(aV r.1 0==aV r.2.1 0)
   ·have hne:aV r.1 0≠aV r.2.1 0:=by simpa using hq
    rw[e2]
    by_cases hp:0<noR r
    ·rw[au1 hp,avr hp,aw6]
     rfl
    ·rw[au3 hp,avn hp]
     show some [RV.d ax8 (aV r.2.1 0)]=some [RV.d ax8 (aV r.1 0* -1)]
     rw[show aV r.2.1 0=aV r.1 0* -1 by
      rw[ha2,hb2]at hne ⊢
      split at hne<;>split at hne<;>simp_all]
   ·rfl
def Bt:aO:=spN true true [tO] (fun x=>decide (okT 90000 x.1)) (fun x=>[RV.d ax8 (sgR (dec x.1))])
theorem Ad:SpK 18 Bt:=spX fun x h=>XM x.1 (au0 h)
def CV:Env:=(18,Bt)::CG
theorem wI:EnvAll Tryz.prog CV:=⟨Ad,vD⟩
def alD:Ctx:=CX CV []
def Pa(l:BO3)(p:BP)(_k:KT):Option (List RV):=match decide (ok Ln 300 l∧okP 4000 p)with|true=>(match decide (okT 90000 (hid (enc (FZ (dec l) (dec p)))))with|true=>some [RV.d ax8 (sgR (dec (hid (enc (FZ (dec l) (dec p))))))]|false=>none)|false=>none
theorem ajL(l:BO3)(p:BP):RS alD 164 [.d tO l,.d tP p] (Pa l p):=rsX
theorem WY(l:BO3)(p:BP)(h:ok Ln 300 l∧okP 4000 p):Con Tryz.prog 164 [.d tO l,.d tP p] [.d ax8 (mh (dec l) (dec p))]:=by
 refine aR wI (ajL _ _ ⟨0,?_⟩)
 obtain⟨hl,hp⟩:=h
 obtain⟨l,rfl,bl⟩:=aU hl
 obtain⟨p,rfl,bp,rp⟩:=cO hp
 unfold Pa
 simp only[ak,am,okd,au4,au6,Nat.reduceAdd,Nat.reduceMul,Nat.reduceLeDiff,bh,bH]
 rw[adf]
def aly:Ctx:=CX CV []
def Wg(c:BO3)(p:BP)(_k:KT):Option (List RV):=match decide (ok Ln 300 c∧okP 3500 p)with|true=>(match decide (okT 90000 (hid (enc (t9 (dec c) (dec p)))))with|true=>some [RV.d ax8 (i64.wrap (0-(sgR (dec (hid (enc (t9 (dec c) (dec p))))))))]|false=>none)|false=>none
theorem alW(c:BO3)(p:BP):RS aly 163 [.d tO c,.d tP p] (Wg c p):=rsX
theorem TK(c:BO3)(p:BP)(h:ok Ln 300 c∧okP 3500 p):Con Tryz.prog 163 [.d tO c,.d tP p] [.d ax8 (lm (dec c) (dec p))]:=by
 refine aR wI (alW _ _ ⟨0,?_⟩)
 obtain⟨hc,hp⟩:=h
 obtain⟨c,rfl,bc⟩:=aU hc
 obtain⟨p,rfl,bp,rp⟩:=cO hp
 have hr:Rdd (t9 c p):=inferInstanceAs (Rdd (arT (sqP p (ctr c)) (-c.2.2)))
 have br:Bd (t9 c p) 90000:=(inferInstance:Bd (arT (sqP p (ctr c)) (-c.2.2)) _).mono (by decide)
 have hb: -1≤sgR (t9 c p)∧sgR (t9 c p)≤1:=jO _ _ _
 unfold Wg
 simp only[ak,am,okd,au4,au6,Nat.reduceLeDiff,bh,bH,aw3,bi (x:= -sgR (t9 c p)) (by omega) (by omega)]
 rw[abP]
def Js:aO:=spN true true [tO,tP] (fun x=>decide (ok Ln 300 x.1∧okP 4000 x.2.1)) (fun x=>[RV.d ax8 (mh (dec x.1) (dec x.2.1))])
theorem Nq:SpK 164 Js:=spX fun x h=>WY x.1 x.2.1 (au0 h)
def JV:aO:=spN true true [tO,tP] (fun x=>decide (ok Ln 300 x.1∧okP 3500 x.2.1)) (fun x=>[RV.d ax8 (lm (dec x.1) (dec x.2.1))])
theorem Ot:SpK 163 JV:=spX fun x h=>TK x.1 x.2.1 (au0 h)
abbrev tCU:Ty:=.st (.pair .bool (.pair tO (.pair tO (.pair .bool (.pair tP tP)))))
abbrev BCU:=Bool×BO3×BO3×Bool×BP×BP
abbrev Cv:=Bool×Ln×Ln×Bool×Pt×Pt
def dC(c:BCU):Cv:=(c.1,dec c.2.1,dec c.2.2.1,c.2.2.2.1,dec c.2.2.2.2.1,dec c.2.2.2.2.2)
def qN(x:BO3):Prop:=ok Ln 300 x∧(0:Rat)<(dec x:Ln).2.2
instance (x:BO3):Decidable (qN x):=by unfold qN;infer_instance
def adZ(x:BO3):Prop:=ok Ln 300 x∧((dec x:Ln).1≠0∨(dec x:Ln).2.1≠0)
instance (x:BO3):Decidable (adZ x):=by unfold adZ;infer_instance
def okC(k:Nat)(c:BCU):Prop:=(c.1=true→qN c.2.2.1)∧(c.1=false→adZ c.2.1)∧okP k c.2.2.2.2.1∧okP k c.2.2.2.2.2
instance (k:Nat) (c:BCU):Decidable (okC k c):=by unfold okC;infer_instance
def frC(c:Cv):Pt:=c.2.2.2.2.1
def toC(c:Cv):Pt:=c.2.2.2.2.2
def lnC(c:Cv):Ln:=c.2.1
def ciC(c:Cv):Ln:=c.2.2.1
def cwC(c:Cv):Bool:=c.2.2.2.1
def gn(c:Cv)(p:Pt):Bool:=bif c.1 then lm (ciC c) p==0 else mh (lnC c) p==0
def upR(c:Ln)(p:Pt):Bool:=decide (fh (yP p) c.2.1>0)||(fh (yP p) c.2.1==0&&decide (fh (xP p) c.1>0))
def ptd(c:Ln)(p:Pt):Bool×Rt:=(upR c p,xP p)
def BT(c:Ln)(p:Pt):Int:=bif upR c p then 0 else 1
def ccF(c:Cv):Pt:=bif cwC c then toC c else frC c
def ccT(c:Cv):Pt:=bif cwC c then frC c else toC c
def ME(c:Cv)(p:Pt):Bool:=bif c.1 then decide (pq bI (ptd (ciC c) (ccF c)) (ptd (ciC c) p) (ptd (ciC c) (ccT c))≤0)else qs (b9 (frC c) p) (b9 p (toC c))
def onP(c:Cv)(p:Pt):Bool:=gn c p&&ME c p
def iK(c:BCU):BCU:=(c.1,c.2.1,c.2.2.1,c.1&&!c.2.2.2.1,c.2.2.2.2.2,c.2.2.2.2.1)
def mH(c:BCU):BCU:=bif c.2.2.2.1 then iK c else c
def flP(p:Pt):Pt:=(-p.1,-p.2.1,p.2.2.1,p.2.2.2.1,p.2.2.2.2)
def flC(c:Ln):Ln:=(-c.1,c.2.1,c.2.2)
def cB(c:Cv)(p q:Pt):Int:=bif c.1 then(bif cwC c then ku bI (ptd (flC (ciC c)) (flP (frC c))) (ptd (flC (ciC c)) (flP p)) (ptd (flC (ciC c)) (flP q))else ku bI (ptd (ciC c) (frC c)) (ptd (ciC c) p) (ptd (ciC c) q))
 else(bif decide (b9 (frC c) (toC c)>0)then-b9 p q else b9 p q)
def onR(c:Cv)(p:Pt):Bool:=gn c p&&(decide (cB c (frC c) p≤0)&&decide (cB c p (toC c)≤0))
theorem XH(k:Nat){c:BCU}(h:okC k c):okC k (iK c):=⟨h.1,h.2.1,h.2.2.2,h.2.2.1⟩
theorem aaj(p q:Pt): -1≤b9 p q∧b9 p q≤1:=by
 unfold b9
 cases bI (xP p) (xP q)==0
 ·exact uT _ _
 ·exact uT _ _
theorem JO{p q:Bool×Rt}:0≤mD bI p q∧mD bI p q≤2:=by
 unfold mD
 cases pj bI q p==0<;>cases decide (pj bI q p>0)<;>simp only[cond_true,cond_false]<;>omega
def uz(c:BCU):BCU:=(c.1,c.2.1,(ai (-ae c.2.2.1.1),c.2.2.1.2),!c.2.2.2.1,enc (flP (dec c.2.2.2.2.1)),enc (flP (dec c.2.2.2.2.2)))
instance auL {p:Pt} [h:Rpd p]:Rpd (flP p):=by
 refine⟨?_⟩
 have:=h.rd
 unfold Hl flP at*
 simp only
 have e:(-p.2.1=0)↔p.2.1=0:=by constructor<;>intro h<;>grind
 rw[e]
 exact this
instance auJ {p:Pt} {j:Nat} [h:Bd p j]:Bd (flP p) j:=by
 have i1:Bd ((-p.1,-p.2.1,p.2.2.1,p.2.2.2.1,p.2.2.2.2):Pt) _:=inferInstance
 exact i1.mono (fG (by omega) (fG (by omega) (fG (by omega) (fG (by omega) (by omega)))))
theorem nZ{j k:Nat}{x:BP}(h:okP j x)(hj:j≤k)(hk:k≤480000):okP k x:=by
 obtain⟨p,rfl,bp,rp⟩:=cO h
 exact au0 (bH hj hk)
theorem NK{j k:Nat}{c:BCU}(h:okC j c)(hj:j≤k)(hk:k≤480000):okC k c:=⟨h.1,h.2.1,nZ h.2.2.1 hj hk,nZ h.2.2.2 hj hk⟩
theorem I0{x:BP}(h:okP 4000 x):okP 4000 (enc (flP (dec x))):=by
 obtain⟨p,rfl,bp,rp⟩:=cO h
 rw[am]
 exact au0 (bH (x:=flP p) (by decide) (by decide))
theorem alP{x:BO3}(h:ok Ln 300 x):ok Ln 300 ((ai (-ae x.1),x.2):BO3)∧(dec ((ai (-ae x.1),x.2):BO3):Ln)=flC (dec x):=by
 obtain⟨l,rfl,bl⟩:=aU h
 have e:((ai (-ae (enc l:BO3).1),(enc l:BO3).2):BO3)=enc (flC l):=by
  rw[aI,aG,az]
  rfl
 rw[e,am,am]
 refine⟨?_,rfl⟩
 have i1:Bd (flC l) 300:=(inferInstance:Bd ((-l.1,l.2.1,l.2.2):Ln) _).mono (by decide)
 exact au0 (okd (x:=flC l) (avb _) (by decide))
def yE:Env:=[(124,lP),(119,ri),(85,uI),(138,ID),(139,GO),(96,oK),(164,Js),(163,JV)]
theorem mC:EnvAll Tryz.prog yE:=⟨jc,n7,ue,FQ,EH,ld,Nq,Ot,trivial⟩
def anP:Ctx:=CX yE []
def ah1(c:BCU)(p:BP)(_k:KT):Option (List RV):=match c.1 with|true=>(match decide (ok Ln 300 c.2.2.1∧okP 3500 p)with|true=>some [RV.d .bool ((lm (dec c.2.2.1) (dec p))==0)]|false=>none)|false=>(match decide (ok Ln 300 c.2.1∧okP 4000 p)with|true=>some [RV.d .bool ((mh (dec c.2.1) (dec p))==0)]|false=>none)
theorem aoA(c:BCU)(p:BP):RS anP 80 [.d tCU c,.d tP p] (ah1 c p):=rsX
theorem aam(c:BCU)(p:BP)(h:okC 3500 c∧okP 3500 p):Con Tryz.prog 80 [.d tCU c,.d tP p] [.d .bool (gn (dC c) (dec p))]:=by
 refine aR mC (aoA _ _ ⟨0,?_⟩)
 obtain⟨hc,hp⟩:=h
 have op:decide (okP 3500 p)=true:=au1 hp
 have op4:decide (okP 4000 p)=true:=au1 (nZ hp (by decide) (by decide))
 obtain⟨ar,li,ci,cw,fr,to⟩:=c
 obtain⟨c1,c2,_⟩:=hc
 unfold ah1
 cases ar
 ·have e:=(c2 rfl).1
  simp only[au4,dT e,op4,au6]
  rfl
 ·have e:=(c1 rfl).1
  simp only[au4,dT e,op,au6]
  rfl
def asf:Ctx:=CX yE []
def ahb(c:BO3)(p:BP)(_k:KT):Option (List RV):=match decide (okP 4000 p)with|true=>(match decide (okT 15000 (hid (enc (yP (dec p))))∧ok Rat 15000 c.2.1)with|true=>(match decide ((fh (dec (hid (enc (yP (dec p))))) (ae c.2.1))>0)with|true=>some [RV.d .bool true]|false=>(match(fh (dec (hid (enc (yP (dec p))))) (ae c.2.1))==0 with|true=>(match decide (okP 4000 p)with|true=>(match decide (okT 15000 (hid (enc (xP (dec p))))∧ok Rat 15000 c.1)with|true=>some [RV.d .bool (decide ((fh (dec (hid (enc (xP (dec p))))) (ae c.1))>0))]|false=>none)|false=>none)|false=>some [RV.d .bool false]))|false=>none)|false=>none
theorem aqf(c:BO3)(p:BP):RS asf 267 [.d tO c,.d tP p] (ahb c p):=rsX
theorem aaE(c:BO3)(p:BP)(h:ok Ln 300 c∧okP 4000 p):Con Tryz.prog 267 [.d tO c,.d tP p] [.d .bool (upR (dec c) (dec p))]:=by
 refine aR mC (aqf _ _ ⟨0,?_⟩)
 obtain⟨hc,hp⟩:=h
 obtain⟨c,rfl,bc⟩:=aU hc
 obtain⟨p,rfl,bp,rp⟩:=cO hp
 unfold ahb upR
 simp only[ak,am,aI,aJ,aG,az,aH,au4,au6,mx,Nat.reduceLeDiff,ave,cond_true,bh,bH]
 cases decide (fh (yP p) c.2.1>0)<;>cases fh (yP p) c.2.1==0<;>rfl
def anS:Ctx:=CX yE []
def ah4(p:BP)(_k:KT):Option (List RV):=match decide (okR p.1)with|true=>(match decide (okR p.2.1)with|true=>some [RV.d tP (hid (ai (-ae p.1)),(hid (ai (-ae p.2.1)),p.2.2))]|false=>none)|false=>none
theorem ao1(p:BP):RS anS 167 [.d tP p] (ah4 p):=rsX
theorem aeD(p:BP)(h:okP 4000 p):Con Tryz.prog 167 [.d tP p] [.d tP (enc (flP (dec p)))]:=by
 refine aR mC (ao1 _ ⟨0,?_⟩)
 have hp:=h
 obtain⟨p,rfl,bp,rp⟩:=cO hp
 unfold ah4
 simp only[ak,am,aI,aJ,aG,az,aX,Nat.reduceLeDiff]
 rfl
def aoT:Ctx:=CX yE []
def aqr(c:BCU)(_k:KT):Option (List RV):=match c.1 with|true=>some [RV.d tCU (c.1,(c.2.1,(c.2.2.1,(!c.2.2.2.1,(c.2.2.2.2.2,c.2.2.2.2.1)))))]|false=>some [RV.d tCU (c.1,(c.2.1,(c.2.2.1,(false,(c.2.2.2.2.2,c.2.2.2.2.1)))))]
theorem aof(c:BCU):RS aoT 17 [.d tCU c] (aqr c):=rsX
theorem abR(c:BCU):Con Tryz.prog 17 [.d tCU c] [.d tCU (iK c)]:=by
 refine aR mC (aof _ ⟨0,?_⟩)
 obtain⟨ar,li,ci,cw,fr,to⟩:=c
 cases ar<;>rfl
def Wn:aO:=spN true true [tCU,tP] (fun x=>decide (okC 3500 x.1∧okP 3500 x.2.1)) (fun x=>[RV.d .bool (gn (dC x.1) (dec x.2.1))])
theorem Ps:SpK 80 Wn:=spX fun x h=>aam x.1 x.2.1 (au0 h)
def O9:aO:=spN true true [tO,tP] (fun x=>decide (ok Ln 300 x.1∧okP 4000 x.2.1)) (fun x=>[RV.d .bool (upR (dec x.1) (dec x.2.1))])
theorem UA:SpK 267 O9:=spX fun x h=>aaE x.1 x.2.1 (au0 h)
def Wy:aO:=spN false true [tP] (fun x=>decide (okP 4000 x.1)) (fun x=>[RV.d tP (hid (enc (flP (dec x.1))))])
theorem Y2:SpK 167 Wy:=spX fun x h=>by simp only[ak];exact aeD x.1 (au0 h)
def vV:aO:=spN false true [tCU] (fun _=>true) (fun x=>[RV.d tCU (hid (iK x.1))])
theorem rM:SpK 17 vV:=spX fun x _=>by simp only[ak];exact abR x.1
def JH:Env:=(80,Wn)::(267,O9)::(167,Wy)::(17,vV)::yE
theorem vT:EnvAll Tryz.prog JH:=⟨Ps,UA,Y2,rM,mC⟩
def arb:Ctx:=CX JH []
def ahT(c:BO3)(p q:BP)(_k:KT):Option (List RV):=match decide (ok Ln 300 c∧okP 4000 p)with|true=>(match decide (ok Ln 300 c∧okP 4000 q)with|true=>(match !((upR (dec c) (dec p))==(upR (dec c) (dec q)))with|true=>(match upR (dec c) (dec q)with|true=>some [RV.d ax8 (-1)]|false=>some [RV.d ax8 1])|false=>(match decide (okP 4000 p)with|true=>(match decide (okP 4000 q)with|true=>(match decide (okT 15000 (hid (enc (xP (dec p))))∧okT 15000 (hid (enc (xP (dec q)))))with|true=>(match upR (dec c) (dec p)with|true=>some [RV.d ax8 (i64.wrap (0-(bI (dec (hid (enc (xP (dec p))))) (dec (hid (enc (xP (dec q))))))))]|false=>some [RV.d ax8 (bI (dec (hid (enc (xP (dec p))))) (dec (hid (enc (xP (dec q))))))])|false=>none)|false=>none)|false=>none))|false=>none)|false=>none
theorem apj(c:BO3)(p q:BP):RS arb 229 [.d tO c,.d tP p,.d tP q] (ahT c p q):=rsX
theorem ZC(c:BO3)(p q:BP)(h:ok Ln 300 c∧okP 4000 p∧okP 4000 q):Con Tryz.prog 229 [.d tO c,.d tP p,.d tP q] [.d ax8 (iz bI (ptd (dec c) (dec p)) (ptd (dec c) (dec q)))]:=by
 refine aR vT (apj _ _ _ ⟨0,?_⟩)
 obtain⟨hc,hp,hq⟩:=h
 obtain⟨c,rfl,bc⟩:=aU hc
 obtain⟨p,rfl,bp,rp⟩:=cO hp
 obtain⟨q,rfl,bq,rq⟩:=cO hq
 have xb:=uT (xP p) (xP q)
 unfold ahT
 simp only[ak,am,okd,au4,au6,mx,Nat.reduceLeDiff,ave,cond_true,bh,bH,bi (x:= -bI (xP p) (xP q)) (by omega) (by omega),aw3]
 unfold iz ptd
 cases upR c p<;>cases upR c q<;>rfl
def aol:Ctx:=CX JH []
def aeT(c:BCU)(_k:KT):Option (List RV):=match decide (okR c.2.2.1.1)with|true=>(match decide (okP 4000 c.2.2.2.2.1)with|true=>(match decide (okP 4000 c.2.2.2.2.2)with|true=>some [RV.d tCU (c.1,(c.2.1,((hid (ai (-ae c.2.2.1.1)),c.2.2.1.2),(!c.2.2.2.1,(hid (enc (flP (dec c.2.2.2.2.1))),hid (enc (flP (dec c.2.2.2.2.2))))))))]|false=>none)|false=>none)|false=>none
theorem asa(c:BCU):RS aol 166 [.d tCU c] (aeT c):=rsX
theorem ad7(c:BCU)(h:qN c.2.2.1∧okP 4000 c.2.2.2.2.1∧okP 4000 c.2.2.2.2.2):Con Tryz.prog 166 [.d tCU c] [.d tCU (uz c)]:=by
 refine aR vT (asa _ ⟨0,?_⟩)
 obtain⟨hc,hf,ht⟩:=h
 have e:okR c.2.2.1.1:=by
  obtain⟨l,hl,bl⟩:=aU hc.1
  rw[hl,aI,aG]
  exact au0 (aX (q:=l.1) (by decide))
 unfold aeT
 rw[dT e,dT hf,dT ht]
 simp only[ak]
 rfl
def Qk:aO:=spN true true [tO,tP,tP] (fun x=>decide (ok Ln 300 x.1∧okP 4000 x.2.1∧okP 4000 x.2.2.1)) (fun x=>[RV.d ax8 (iz bI (ptd (dec x.1) (dec x.2.1)) (ptd (dec x.1) (dec x.2.2.1)))])
theorem UC:SpK 229 Qk:=spX fun x h=>ZC x.1 x.2.1 x.2.2.1 (au0 h)
def Ww:aO:=spN false true [tCU] (fun x=>decide (qN x.1.2.2.1∧okP 4000 x.1.2.2.2.2.1∧okP 4000 x.1.2.2.2.2.2)) (fun x=>[RV.d tCU (hid (uz x.1))])
theorem Yh:SpK 166 Ww:=spX fun x h=>by simp only[ak];exact ad7 x.1 (au0 h)
def Sm:Env:=(229,Qk)::(166,Ww)::JH
theorem EW:EnvAll Tryz.prog Sm:=⟨UC,Yh,vT⟩
def arl:Ctx:=CX Sm []
def afX(c:BO3)(f p q:BP)(_k:KT):Option (List RV):=match decide (ok Ln 300 c∧okP 4000 p∧okP 4000 f)with|true=>(match decide (ok Ln 300 c∧okP 4000 q∧okP 4000 f)with|true=>(match !((decide ((iz bI (ptd (dec c) (dec p)) (ptd (dec c) (dec f)))<0))==(decide ((iz bI (ptd (dec c) (dec q)) (ptd (dec c) (dec f)))<0)))with|true=>(match decide ((iz bI (ptd (dec c) (dec q)) (ptd (dec c) (dec f)))<0)with|true=>some [RV.d ax8 (-1)]|false=>some [RV.d ax8 1])|false=>(match decide (ok Ln 300 c∧okP 4000 p∧okP 4000 q)with|true=>some [RV.d ax8 (iz bI (ptd (dec c) (dec p)) (ptd (dec c) (dec q)))]|false=>none))|false=>none)|false=>none
theorem aoW(c:BO3)(f p q:BP):RS arl 165 [.d tO c,.d tP f,.d tP p,.d tP q] (afX c f p q):=rsX
theorem abG(c:BO3)(f p q:BP)(h:ok Ln 300 c∧okP 4000 f∧okP 4000 p∧okP 4000 q):Con Tryz.prog 165 [.d tO c,.d tP f,.d tP p,.d tP q] [.d ax8 (ku bI (ptd (dec c) (dec f)) (ptd (dec c) (dec p)) (ptd (dec c) (dec q)))]:=by
 refine aR EW (aoW _ _ _ _ ⟨0,?_⟩)
 obtain⟨hc,hf,hp,hq⟩:=h
 unfold afX ku
 rw[dT (show ok Ln 300 c∧okP 4000 p∧okP 4000 f from⟨hc,hp,hf⟩),dT (show ok Ln 300 c∧okP 4000 q∧okP 4000 f from⟨hc,hq,hf⟩),dT (show ok Ln 300 c∧okP 4000 p∧okP 4000 q from⟨hc,hp,hq⟩)]
 dsimp only
 cases decide (iz bI (ptd (dec c) (dec p)) (ptd (dec c) (dec f))<0)<;>cases decide (iz bI (ptd (dec c) (dec q)) (ptd (dec c) (dec f))<0)<;>rfl
def Yd:aO:=spN true true [tO,tP,tP,tP] (fun x=>decide (ok Ln 300 x.1∧okP 4000 x.2.1∧okP 4000 x.2.2.1∧okP 4000 x.2.2.2.1)) (fun x=>[RV.d ax8 (ku bI (ptd (dec x.1) (dec x.2.1)) (ptd (dec x.1) (dec x.2.2.1)) (ptd (dec x.1) (dec x.2.2.2.1)))])
theorem P5:SpK 165 Yd:=spX fun x h=>abG x.1 x.2.1 x.2.2.1 x.2.2.2.1 (au0 h)
def Rl:Env:=(165,Yd)::Sm
theorem Fy:EnvAll Tryz.prog Rl:=⟨P5,EW⟩
def aqs:Ctx:=CX Rl []
def ahM(c:BCU)(p q:BP)(_k:KT):Option (List RV):=match !c.1 with|true=>(match decide (okP 4000 p∧okP 4000 q)with|true=>(match decide (okP 4000 c.2.2.2.2.1∧okP 4000 c.2.2.2.2.2)with|true=>(match decide ((b9 (dec c.2.2.2.2.1) (dec c.2.2.2.2.2))>0)with|true=>some [RV.d ax8 (i64.wrap (0-(b9 (dec p) (dec q))))]|false=>some [RV.d ax8 (b9 (dec p) (dec q))])|false=>none)|false=>none)|false=>(match !c.2.2.2.1 with|true=>(match decide (ok Ln 300 c.2.2.1∧okP 4000 c.2.2.2.2.1∧okP 4000 p∧okP 4000 q)with|true=>some [RV.d ax8 (ku bI (ptd (dec c.2.2.1) (dec c.2.2.2.2.1)) (ptd (dec c.2.2.1) (dec p)) (ptd (dec c.2.2.1) (dec q)))]|false=>none)|false=>(match decide (qN c.2.2.1∧okP 4000 c.2.2.2.2.1∧okP 4000 c.2.2.2.2.2)with|true=>(match decide (okP 4000 p)with|true=>(match decide (okP 4000 q)with|true=>(match decide (ok Ln 300 ((((hid (uz c)).2).2).1)∧okP 4000 ((((((hid (uz c)).2).2).2).2).1)∧okP 4000 (hid (enc (flP (dec p))))∧okP 4000 (hid (enc (flP (dec q)))))with|true=>some [RV.d ax8 (ku bI (ptd (dec ((((hid (uz c)).2).2).1)) (dec ((((((hid (uz c)).2).2).2).2).1))) (ptd (dec ((((hid (uz c)).2).2).1)) (dec (hid (enc (flP (dec p)))))) (ptd (dec ((((hid (uz c)).2).2).1)) (dec (hid (enc (flP (dec q)))))))]|false=>none)|false=>none)|false=>none)|false=>none))
theorem aoS(c:BCU)(p q:BP):RS aqs 81 [.d tCU c,.d tP p,.d tP q] (ahM c p q):=rsX
theorem ZG(c:BCU)(p q:BP)(h:okC 4000 c∧okP 4000 p∧okP 4000 q):Con Tryz.prog 81 [.d tCU c,.d tP p,.d tP q] [.d ax8 (cB (dC c) (dec p) (dec q))]:=by
 refine aR Fy (aoS _ _ _ ⟨0,?_⟩)
 obtain⟨hc,hp,hq⟩:=h
 have xb:=aaj (dec p) (dec q)
 obtain⟨ar,li,ci,cw,fr,to⟩:=c
 obtain⟨c1,c2,c3,c4⟩:=hc
 simp only at c1 c2 c3 c4
 unfold ahM cB
 cases ar
 ·simp only[aw3,bi (x:= -b9 (dec p) (dec q)) (by omega) (by omega),dT (show okP 4000 p∧okP 4000 q from⟨hp,hq⟩),dT (show okP 4000 fr∧okP 4000 to from⟨c3,c4⟩),Bool.not_false]
  simp only[dC,frC,toC,cond_false]
  by_cases hd:b9 (dec fr) (dec to)>0
  ·simp[hd]
  ·simp[hd]
 ·have e:=(c1 rfl).1
  have hci:=c1 rfl
  obtain⟨f1,f2⟩:=alP e
  cases cw
  ·simp only[dT (show ok Ln 300 ci∧okP 4000 fr∧okP 4000 p∧okP 4000 q from⟨e,c3,hp,hq⟩),Bool.not_true,Bool.not_false]
   rfl
  ·have hm:ok Ln 300 (uz (true,li,ci,true,fr,to)).2.2.1∧okP 4000 (uz (true,li,ci,true,fr,to)).2.2.2.2.1∧okP 4000 (enc (flP (dec p)))∧okP 4000 (enc (flP (dec q))):=⟨f1,I0 c3,I0 hp,I0 hq⟩
   have m1:(dec (uz (true,li,ci,true,fr,to)).2.2.1:Ln)=flC (dec ci):=f2
   have m2:(dec (uz (true,li,ci,true,fr,to)).2.2.2.2.1:Pt)=flP (dec fr):=am _
   simp only[ak,dT (show qN ci∧okP 4000 fr∧okP 4000 to from⟨hci,c3,c4⟩),dT hp,dT hq,dT hm,Bool.not_true,m1,m2,am]
   rfl
def wk:aO:=spN true true [tCU,tP,tP] (fun x=>decide (okC 4000 x.1∧okP 4000 x.2.1∧okP 4000 x.2.2.1)) (fun x=>[RV.d ax8 (cB (dC x.1) (dec x.2.1) (dec x.2.2.1))])
theorem rh:SpK 81 wk:=spX fun x h=>ZG x.1 x.2.1 x.2.2.1 (au0 h)
def afb:Env:=(81,wk)::Rl
theorem WG:EnvAll Tryz.prog afb:=⟨rh,Fy⟩
def aoF:Ctx:=CX afb []
def ahK(c:BCU)(p:BP)(_k:KT):Option (List RV):=match decide (okC 3500 c∧okP 3500 p)with|true=>(match gn (dC c) (dec p)with|true=>(match decide (okC 4000 c∧okP 4000 c.2.2.2.2.1∧okP 4000 p)with|true=>(match decide ((cB (dC c) (dec c.2.2.2.2.1) (dec p))≤0)with|true=>(match decide (okC 4000 c∧okP 4000 p∧okP 4000 c.2.2.2.2.2)with|true=>some [RV.d .bool (decide ((cB (dC c) (dec p) (dec c.2.2.2.2.2))≤0))]|false=>none)|false=>some [RV.d .bool false])|false=>none)|false=>some [RV.d .bool false])|false=>none
theorem asU(c:BCU)(p:BP):RS aoF 19 [.d tCU c,.d tP p] (ahK c p):=rsX
theorem aeu(c:BCU)(p:BP)(h:okC 3500 c∧okP 3500 p):Con Tryz.prog 19 [.d tCU c,.d tP p] [.d .bool (onR (dC c) (dec p))]:=by
 refine aR WG (asU _ _ ⟨0,?_⟩)
 obtain⟨hc,hp⟩:=h
 have hc4:=NK (k:=4000) hc (by decide) (by decide)
 have hp4:=nZ (k:=4000) hp (by decide) (by decide)
 unfold ahK onR
 rw[dT (show okC 3500 c∧okP 3500 p from⟨hc,hp⟩),dT (show okC 4000 c∧okP 4000 c.2.2.2.2.1∧okP 4000 p from⟨hc4,hc4.2.2.1,hp4⟩),dT (show okC 4000 c∧okP 4000 p∧okP 4000 c.2.2.2.2.2 from⟨hc4,hp4,hc4.2.2.2⟩)]
 dsimp only
 cases gn (dC c) (dec p)
 ·rfl
 ·show(match decide (cB (dC c) (frC (dC c)) (dec p)≤0)with|true=>some [RV.d .bool (decide (cB (dC c) (dec p) (toC (dC c))≤0))]|false=>some [RV.d .bool false])=_
  cases decide (cB (dC c) (frC (dC c)) (dec p)≤0)<;>rfl
def rU:aO:=spN true true [tCU,tP] (fun x=>decide (okC 3500 x.1∧okP 3500 x.2.1)) (fun x=>[RV.d .bool (onR (dC x.1) (dec x.2.1))])
theorem nz:SpK 19 rU:=spX fun x h=>aeu x.1 x.2.1 (au0 h)
section
namespace RE
theorem Jr{u v:RE}:cls u v=2↔v=0∧¬0<u:=by
 unfold cls
 rcases bZ v with⟨a,h1⟩|⟨a,h1⟩|⟨a,h1⟩<;>rcases bZ u with⟨b,h2⟩|⟨b,h2⟩|⟨b,h2⟩<;>rw[h1,h2]
 all_goals first
  |exact⟨fun _=>⟨a,fun h=>by rw[b]at h;exact lt_irrefl _ h⟩,fun _=>rfl⟩
  |exact⟨fun _=>⟨a,fun h=>lt_irrefl _ (c7 h b)⟩,fun _=>rfl⟩
  |(refine⟨fun h=>absurd h (by decide),fun h=>?_⟩;first|(rw[h.1]at a;exact absurd a (lt_irrefl _))|exact absurd b h.2)
theorem tK{u v Q:RE}(hQ:0<Q)(h:u*u+v*v=Q)(hv:v=0)(hu:¬0<u):u<0:=by
 rcases kV u 0 with e|e|e
 ·exact e
 ·rw[e,hv,mul_zero,add_zero]at h
  rw[←h]at hQ
  exact absurd hQ (lt_irrefl _)
 ·exact absurd e hu
theorem MJ(u w Q:RE):((u-(0))*(u-(w)))+((w-(0))*(u-(w)))+((Q-(u*u)))+((w*w-(Q)))=0:=by
 induction u using auZ
 induction w using auZ
 induction Q using auZ
 exact snd fun n=>by
  simp only[RL.add,RL.mul,RL.neg,RL.const]
  grind
theorem JT(u w Q:RE)(h1:u*u=Q)(h2:w*w=Q)(h3:0<u)(h4:0<w):u≤w:=fun hg=>far (aB (aB (aB (mul_pos (aE h3) (aE hg)) (le_of_lt (mul_pos (aE h4) (aE hg)))) (aA (dP h1))) (aA (d7 h2))) (MJ u w Q)
theorem OD(u w Q:RE):((0-(u))*(u-(w)))+((0-(w))*(u-(w)))+((u*u-(Q)))+((Q-(w*w)))=0:=by
 induction u using auZ
 induction w using auZ
 induction Q using auZ
 exact snd fun n=>by
  simp only[RL.add,RL.mul,RL.neg,RL.const]
  grind
theorem Jo(u w Q:RE)(h1:u*u=Q)(h2:w*w=Q)(h3:u<0)(h4:w<0):u≤w:=fun hg=>far (aB (aB (aB (mul_pos (aE h3) (aE hg)) (le_of_lt (mul_pos (aE h4) (aE hg)))) (aA (d7 h1))) (aA (dP h2))) (OD u w Q)
theorem GS(x y c:RE):((y-c-(x-c)))+((x-(y)))=0:=by
 induction x using auZ
 induction y using auZ
 induction c using auZ
 exact snd fun n=>by
  simp only[RL.add,RL.neg,RL.const]
  grind
theorem Fr(x y c:RE)(h1:x-c<y-c):x<y:=d9.1 fun hg=>far (aB (aE h1) (aA hg)) (GS x y c)
theorem FE(x y c:RE):((x-(y)))+((y-c-(x-c)))=0:=by
 induction x using auZ
 induction y using auZ
 induction c using auZ
 exact snd fun n=>by
  simp only[RL.add,RL.neg,RL.const]
  grind
theorem NR(x y c:RE)(h1:x-c=y-c):x≤y:=fun hg=>far (aB (aE hg) (aA (dP h1))) (FE x y c)
theorem Dz(x y c:RE):((y-(x)))+((x-c-(y-c)))=0:=by
 induction x using auZ
 induction y using auZ
 induction c using auZ
 exact snd fun n=>by
  simp only[RL.add,RL.neg,RL.const]
  grind
theorem NN(x y c:RE)(h1:x-c=y-c):y≤x:=fun hg=>far (aB (aE hg) (aA (d7 h1))) (Dz x y c)
theorem iB(x y c:RE)(h1:x-c=y-c):x=y:=le_antisymm (NR x y c h1) (NN x y c h1)
theorem EE(x c:RE): -x- -c= -(x-c):=by
 induction x using auZ
 induction c using auZ
 exact snd fun n=>by
  simp only[RL.add,RL.neg]
  grind
theorem ady(x y:RE): -x- -y=y-x:=by
 induction x using auZ
 induction y using auZ
 exact snd fun n=>by
  simp only[RL.add,RL.neg]
  grind
theorem aiV(a b r:RE): -a+ -b*r= -(a+b*r):=by
 induction a using auZ
 induction b using auZ
 induction r using auZ
 exact snd fun n=>by
  simp only[RL.add,RL.mul,RL.neg]
  grind
theorem Gx(x q:RE):((x-(q)))+((0-(x+ -q)))=0:=by
 induction x using auZ
 induction q using auZ
 exact snd fun n=>by
  simp only[RL.add,RL.neg,RL.const]
  grind
theorem TE(x q:RE)(h1:x+ -q=0):x≤q:=fun hg=>far (aB (aE hg) (aA (dP h1))) (Gx x q)
theorem GJ(x q:RE):((q-(x)))+((x+ -q-(0)))=0:=by
 induction x using auZ
 induction q using auZ
 exact snd fun n=>by
  simp only[RL.add,RL.neg,RL.const]
  grind
theorem XP(x q:RE)(h1:x+ -q=0):q≤x:=fun hg=>far (aB (aE hg) (aA (d7 h1))) (GJ x q)
theorem Ji(x q:RE)(h1:x+ -q=0):x=q:=le_antisymm (TE x q h1) (XP x q h1)
section
variable {x y x' y' cx cy Q:RE}
theorem oL(hQ:0<Q)(h:(x-cx)*(x-cx)+(y-cy)*(y-cy)=Q)(h':(x'-cx)*(x'-cx)+(y'-cy)*(y'-cy)=Q){L:List RE}(hx:x∈L)(hx':x'∈L):
  Es (cls (x-cx) (y-cy)) (rk (fun a b:RE=>a<b) L x) (cls (x'-cx) (y'-cy)) (rk (fun a b:RE=>a<b) L x')=true:=by
 unfold Es
 rw[au8]
 have vv:∀{u v:RE},u*u+v*v=Q→v=0→u*u=Q:=fun h e=>by rw[e,mul_zero,add_zero]at h;exact h
 refine⟨?_,?_⟩
 ·by_cases e:cls (x-cx) (y-cy)=0
  ·obtain⟨e1,e2⟩:=KE.1 e
   rw[e]
   by_cases e':cls (x'-cx) (y'-cy)=0
   ·obtain⟨f1,f2⟩:=KE.1 e'
    rw[e']
    have:=iB _ _ cx (le_antisymm (JT _ _ _ (vv h e1) (vv h' f1) e2 f2) (JT _ _ _ (vv h' f1) (vv h e1) f2 e2))
    rw[this]
    simp
   ·have hle:=amC _ _ _ _ _ h h' e1 e2 (gY (y'-cy))
    have hlt:x'-cx<x-cx:=by
     rcases kV (x'-cx) (x-cx)with g|g|g
     ·exact g
     ·exfalso
      have z:=Ze (x-cx) (x'-cx) (y'-cy) Q (vv h e1) h' (by rw[g])
      exact e' (KE.2 ⟨uS z,by rw[g];exact e2⟩)
     ·exact absurd g ((Bp _ _).1 hle)
    have:=w9 lt_lin (Fr _ _ _ hlt) hx'
    rw[show(cls (x'-cx) (y'-cy)==0)=false by simp[e']]
    simp[this]
  ·simp[e]
 ·by_cases e:cls (x-cx) (y-cy)=2
  ·obtain⟨e1,e2⟩:=Jr.1 e
   have e3:=tK hQ h e1 e2
   rw[e]
   by_cases e':cls (x'-cx) (y'-cy)=2
   ·obtain⟨f1,f2⟩:=Jr.1 e'
    have f3:=tK hQ h' f1 f2
    rw[e']
    have:=iB _ _ cx (le_antisymm (Jo _ _ _ (vv h e1) (vv h' f1) e3 f3) (Jo _ _ _ (vv h' f1) (vv h e1) f3 e3))
    rw[this]
    simp
   ·have hle:=akc _ _ _ _ _ h h' e1 e3 (gY (y'-cy))
    have hlt:x-cx<x'-cx:=by
     rcases kV (x-cx) (x'-cx)with g|g|g
     ·exact g
     ·exfalso
      have z:=Ze (x-cx) (x'-cx) (y'-cy) Q (vv h e1) h' (by rw[g])
      exact e' (Jr.2 ⟨uS z,by rw[←g];exact e2⟩)
     ·exact absurd g ((Bp _ _).1 hle)
    have:=w9 lt_lin (Fr _ _ _ hlt) hx
    rw[show(cls (x'-cx) (y'-cy)==2)=false by simp[e']]
    simp[this]
  ·simp[e]
end
def onCi(c:Ln)(p:Pt):Prop:=(pX p-of c.1)*(pX p-of c.1)+(pY p-of c.2.1)*(pY p-of c.2.1)=of c.2.2
theorem ins_on{c:Ln}{p:Pt}[Rpd p](h:lm c p=0):onCi c p:=by
 rw[B4]at h
 exact Ji _ _ (l4.1 (Int.neg_eq_zero.1 h))
theorem lk{c:Ln}{p:Pt}[Rpd p]:upR c p=upA (cls (pX p-of c.1) (pY p-of c.2.1)):=by
 unfold upR
 rw[cmpTR_re Lm,cmpTR_re jY,qO,aaL,amY]
theorem DU(p:Pt):pX (flP p)= -pX p:=by
 unfold pX flP v2
 rw[of_neg,of_neg]
 exact aiV _ _ _
theorem asj(p:Pt):pY (flP p)=pY p:=rfl
theorem Fu{c:Ln}{p:Pt}[h:Rpd p](hQ:0<c.2.2)(hp:onCi c p):upR (flC c) (flP p)=ufA (cls (pX p-of c.1) (pY p-of c.2.1)):=by
 unfold upR
 rw[cmpTR_re Lm,cmpTR_re jY,qO,aaL,DU,asj]
 show(decide (sg (pY p-of c.2.1)>0)||(sg (pY p-of c.2.1)==0&&decide (sg (-pX p-of (-c.1))>0)))=_
 rw[of_neg,EE,tc]
 exact ali (iI hQ) hp
theorem mn{L:List RE}{p q:Pt}[Rpd p][Rpd q](hp:pX p∈L)(hq:pX q∈L):bI (xP p) (xP q)=cI (rk (fun a b:RE=>a<b) L (pX p)) (rk (fun a b:RE=>a<b) L (pX q)):=by
 rw[cmpT_re jY jY,qO,qO]
 exact pU lt_lin sg_cmpO hp hq
theorem r9{L:List RE}{p q:Pt}[Rpd p][Rpd q](hp:pX p∈L)(hq:pX q∈L):bI (xP (flP p)) (xP (flP q))=dI (rk (fun a b:RE=>a<b) L (pX p)) (rk (fun a b:RE=>a<b) L (pX q)):=by
 rw[cmpT_re jY jY,qO,qO,DU,DU,ady]
 exact pU lt_lin sg_cmpO hq hp
theorem arc_eq{ci:Ln}{F P T:Pt}[Rpd F][Rpd P][Rpd T](hQ:0<ci.2.2)(hF:onCi ci F)(hP:onCi ci P)(hT:onCi ci T):
  decide (pq bI (ptd ci F) (ptd ci P) (ptd ci T)≤0)=(decide (ku bI (ptd ci F) (ptd ci F) (ptd ci P)≤0)&&decide (ku bI (ptd ci F) (ptd ci P) (ptd ci T)≤0))∧
  decide (pq bI (ptd ci T) (ptd ci P) (ptd ci F)≤0)=(decide (ku bI (ptd (flC ci) (flP F)) (ptd (flC ci) (flP F)) (ptd (flC ci) (flP P))≤0)&&decide (ku bI (ptd (flC ci) (flP F)) (ptd (flC ci) (flP P)) (ptd (flC ci) (flP T))≤0)):=by
 have mF:pX F∈[pX F,pX P,pX T]:=by simp
 have mP:pX P∈[pX F,pX P,pX T]:=by simp
 have mT:pX T∈[pX F,pX P,pX T]:=by simp
 have hq:0<of ci.2.2:=iI hQ
 have bF:=ng lt_lin mF
 have bP:=ng lt_lin mP
 have bT:=ng lt_lin mT
 have cF:=nL (pX F-of ci.1) (pY F-of ci.2.1)
 have cP:=nL (pX P-of ci.1) (pY P-of ci.2.1)
 have cT:=nL (pX T-of ci.1) (pY T-of ci.2.1)
 have hcon:ZV (cls (pX F-of ci.1) (pY F-of ci.2.1)) (rk (fun a b:RE=>a<b) [pX F,pX P,pX T] (pX F)) (cls (pX P-of ci.1) (pY P-of ci.2.1)) (rk (fun a b:RE=>a<b) [pX F,pX P,pX T] (pX P)) (cls (pX T-of ci.1) (pY T-of ci.2.1)) (rk (fun a b:RE=>a<b) [pX F,pX P,pX T] (pX T))=true:=by
  unfold ZV
  rw[oL hq hF hP mF mP,oL hq hP hF mP mF,oL hq hF hT mF mT,oL hq hT hF mT mF,oL hq hP hT mP mT,oL hq hT hP mT mP]
  rfl
 have a1:=acb ⟨_,cF⟩ ⟨_,cP⟩ ⟨_,cT⟩ ⟨_,bF⟩ ⟨_,bP⟩ ⟨_,bT⟩ hcon
 have a2:=ah9 ⟨_,cF⟩ ⟨_,cP⟩ ⟨_,cT⟩ ⟨_,bF⟩ ⟨_,bP⟩ ⟨_,bT⟩ hcon
 simp only at a1 a2
 refine⟨?_,?_⟩
 ·unfold ptd
  rw[lk,lk,lk,pL (mn mP mF) (mn mT mF) (mn mP mT),gT (mn mF mF) (mn mP mF) (mn mF mP),gT (mn mP mF) (mn mT mF) (mn mP mT)]
  exact a1
 ·unfold ptd
  rw[lk,lk,lk,Fu hQ hF,Fu hQ hP,Fu hQ hT,pL (mn mP mT) (mn mF mT) (mn mP mF),gT (r9 mF mF) (r9 mP mF) (r9 mF mP),gT (r9 mP mF) (r9 mT mF) (r9 mP mT)]
  exact a2
theorem seg_eq{F P T:Pt}[Rpd F][Rpd P][Rpd T]:qs (b9 F P) (b9 P T)=aod (b9 F T) (b9 F P) (b9 P T):=by
 have mF:pR F∈[pR F,pR P,pR T]:=by simp
 have mP:pR P∈[pR F,pR P,pR T]:=by simp
 have mT:pR T∈[pR F,pR P,pR T]:=by simp
 rw[jW,jW,jW,pU jg oB mF mP,pU jg oB mP mT,pU jg oB mF mT]
 exact CN ⟨_,ng jg mF⟩ ⟨_,ng jg mP⟩ ⟨_,ng jg mT⟩
end RE
structure Crv (c:Cv):Prop where
 f:Rpd (frC c)
 t:Rpd (toC c)
 q:c.1=true→0<(ciC c).2.2∧RE.onCi (ciC c) (frC c)∧RE.onCi (ciC c) (toC c)
theorem asi{c:Cv}(h:Crv c){p:Pt}(hp:Rpd p):onP c p=onR c p:=by
 have hf:=h.f
 have ht:=h.t
 unfold onP onR
 cases hs:gn c p
 ·rfl
 ·simp only[au5]
  unfold ME cB
  obtain⟨ar,li,ci,cw,fr,to⟩:=c
  have hf:Rpd fr:=hf
  have ht:Rpd to:=ht
  cases ar
  ·exact RE.seg_eq (F:=fr) (P:=p) (T:=to)
  ·obtain⟨q1,q2,q3⟩:=h.q rfl
   have hi:lm ci p=0:=by
    have:(lm ci p==0)=true:=hs
    exact awf.1 this
   obtain⟨e1,e2⟩:=RE.arc_eq (ci:=ci) (F:=fr) (P:=p) (T:=to) q1 q2 (RE.ins_on hi) q3
   cases cw
   ·exact e1
   ·exact e2
end
def eh(l:Ln)(p:Pt):Rt:=mkR (-l.2.1*p.1+l.1*p.2.2.1) (-l.2.1*p.2.1+l.1*p.2.2.2.1) p.2.2.2.2
def pe(c:Cv)(p:Pt):Bool:=
 bif decide (bI (eh (lnC c) (frC c)) (eh (lnC c) (toC c))>0)then decide (bI (eh (lnC c) (toC c)) (eh (lnC c) p)≤0)&&decide (bI (eh (lnC c) p) (eh (lnC c) (frC c))≤0)
 else decide (bI (eh (lnC c) (frC c)) (eh (lnC c) p)≤0)&&decide (bI (eh (lnC c) p) (eh (lnC c) (toC c))≤0)
def kq(a b:Rt):Rt:=bif decide (bI b a<0)then b else a
def zeV(v:Rat×Rat):Bool:=decide (v.1=0)&&decide (v.2=0)
def gK(c:Ln)(d:Rat×Rat):Pt:=mkP (mkR c.1 d.1 (c.2.2/cg d d)) (mkR c.2.1 d.2 (c.2.2/cg d d))
def jj(c:Cv)(d:Rat×Rat):Bool:=bif c.1&&!(zeV d)then onP c (gK (ciC c) d)else c.1
def yk(c:Cv)(v:Rat×Rat):Rt:=kq (sqP (frC c) v) (sqP (toC c) v)
def bK(c:Cv)(v:Rat×Rat):Rat×Rat:=eG (ctr (ciC c)) v
def cd(c:Cv)(v:Rat×Rat):Rt:=
 bif c.1 then(bif jj c (bK c v)then mkR (cg (bK c v) (bK c v)+(ciC c).2.2) (-2) (cg (bK c v) (bK c v)*(ciC c).2.2)else yk c v)
 else(bif pe c (atP v)then(cg (eG v (c8 (lnC c) v)) (eG v (c8 (lnC c) v)),0,0)else yk c v)
def ux(c:Cv)(v:Rat×Rat)(r:Rat):Int:=bif decide (r<0)then 1 else fh (cd c v) (r*r)
instance Xz {l:Ln} {p:Pt} [h:Rpd p]:Rdd (eh l p):=by
 have:Nn p.2.2.2.2:=inferInstance
 exact Gj
instance aui {l:Ln} {p:Pt} {i j:Nat} [h:Bd l i] [h':Bd p j] [hp:Rpd p]:Bd (eh l p) (4*i+4*j+5):=by
 have a1:Bd (-l.2.1*p.1+l.1*p.2.2.1) _:=inferInstance
 have a2:Bd (-l.2.1*p.2.1+l.1*p.2.2.2.1) _:=inferInstance
 exact(aiu (a:= -l.2.1*p.1+l.1*p.2.2.1) (b:= -l.2.1*p.2.1+l.1*p.2.2.2.1) (c:=p.2.2.2.2)).mono (fG (by omega) (by omega))
theorem Ba(a b:Rt):kq a b=a∨kq a b=b:=by
 unfold kq
 cases decide (bI b a<0)
 ·exact .inl rfl
 ·exact .inr rfl
instance Ip {a b:Rt} [h:Rdd a] [h':Rdd b]:Rdd (kq a b):=by
 rcases Ba a b with e|e<;>rw[e]<;>assumption
instance at3 {a b:Rt} {i j:Nat} [h:Bd a i] [h':Bd b j]:Bd (kq a b) (mx i j):=by
 rcases Ba a b with e|e<;>rw[e]
 ·exact h.mono (Ct _ _)
 ·exact h'.mono (A9 _ _)
theorem xQ(d:Rat×Rat):0≤cg d d:=by
 unfold cg
 have h:∀a:Rat,0≤a*a:=fun a=>by
  rcases(by grind:0≤a∨0≤ -a)with h|h
  ·exact avC h h
  ·have:=avC h h;grind
 have:=h d.1
 have:=h d.2
 grind
theorem vN{d:Rat×Rat}(h:zeV d=false):cg d d≠0:=by
 refine jX ?_
 unfold zeV at h
 by_cases e:d.1=0
 ·rw[au1 e,au5]at h
  exact .inr (avW h)
 ·exact .inl e
theorem uB(a b d e s:Rat):qm (mkR a d s) (mkR b e s):=by
 unfold qm mkR
 cases eZ s
 ·simp only[cond_false]
  by_cases hd:d=0
  ·rw[au1 hd];exact .inl rfl
  ·by_cases he:e=0
   ·rw[au1 he];exact .inr (.inl rfl)
   ·rw[au3 hd,au3 he];exact .inr (.inr rfl)
 ·exact .inl rfl
theorem GU{a b:Rat}(ha:0≤a)(hb:0≤b):0≤a/b:=by
 by_cases h0:b=0
 ·rw[h0,axJ,Rat.inv_zero,Rat.mul_zero]
  exact Rat.le_refl
 ·rcases(by grind:0≤a/b∨0< -(a/b))with h|h
  ·exact h
  ·have h1:=awb h (show 0<b by grind)
   have h2:a/b*b=a:=awq h0
   grind
class Cir (c:Ln):Prop where q:0<c.2.2
instance WM {c:Ln} {d:Rat×Rat} [h:Cir c]:Nn (c.2.2/cg d d):=⟨GU (by have:=h.q;grind) (xQ d)⟩
instance akR {c:Ln} {d:Rat×Rat} [h:Cir c]:Rpd (gK c d):=apm Gj Gj (uB _ _ _ _ _)
instance Ll {c:Ln} {d:Rat×Rat} [h:Cir c]:Nn (cg d d*c.2.2):=⟨avC (xQ d) (by have:=h.q;grind)⟩
instance auB {c:Ln} {d:Rat×Rat} {i j:Nat} [h:Bd c i] [h':Bd d j]:Bd (gK c d) (2*i+5*j+2):=by
 have s1:Bd (c.2.2/cg d d) _:=inferInstance
 have a1:Bd (mkR c.1 d.1 (c.2.2/cg d d)) _:=inferInstance
 have a2:Bd (mkR c.2.1 d.2 (c.2.2/cg d d)) _:=inferInstance
 have b1:=a1.mono (k:=2*i+5*j+2) (by omega)
 have b2:=a2.mono (k:=2*i+5*j+2) (by omega)
 have e:∀n,mx n n=n:=fun n=>by unfold mx;rw[au1 (avb n)];rfl
 exact(aku (h:=b1) (h':=b2)).mono (by
  simp only[e]
  refine fG (by omega) (fG (by omega) (fG (by omega) (fG (by omega) (fG (by omega) (by omega))))))
def VF(d a b a' b':Int):Bool:=bif decide (d>0)then decide (b'≤0)&&decide (a'≤0)else decide (a≤0)&&decide (b≤0)
theorem ac0:∀f p t:Fin 3,qs (cI f.1 p.1) (cI p.1 t.1)=VF (cI f.1 t.1) (cI f.1 p.1) (cI p.1 t.1) (cI p.1 f.1) (cI t.1 p.1):=by decide+kernel
theorem aai(a b:Int):qs (-a) (-b)=qs a b:=by
 unfold qs
 have e1:(-a==0)=(a==0):=Bool.eq_iff_iff.2 (by simp only[awf];omega)
 have e2:(-b==0)=(b==0):=Bool.eq_iff_iff.2 (by simp only[awf];omega)
 have e3:(-a== -b)=(a==b):=Bool.eq_iff_iff.2 (by simp only[awf];omega)
 rw[e1,e2,e3]
namespace RE
theorem VC(a b x s y t r:RE): -b*x+a*y+(-b*s+a*t)*r= -b*(x+s*r)+a*(y+t*r):=by
 induction a using auZ
 induction b using auZ
 induction x using auZ
 induction s using auZ
 induction y using auZ
 induction t using auZ
 induction r using auZ
 exact snd fun n=>by
  simp only[RL.add,RL.mul,RL.neg]
  grind
theorem aoE(a b x y u w:RE):(a*a+b*b)*(x-u)= -b*(-b*x+a*y-(-b*u+a*w))+a*(a*x+b*y-(a*u+b*w)):=by
 induction a using auZ
 induction b using auZ
 induction x using auZ
 induction y using auZ
 induction u using auZ
 induction w using auZ
 exact snd fun n=>by
  simp only[RL.add,RL.mul,RL.neg]
  grind
theorem aqD(a b x y u w:RE):(a*a+b*b)*(y-w)=a*(-b*x+a*y-(-b*u+a*w))+b*(a*x+b*y-(a*u+b*w)):=by
 induction a using auZ
 induction b using auZ
 induction x using auZ
 induction y using auZ
 induction u using auZ
 induction w using auZ
 exact snd fun n=>by
  simp only[RL.add,RL.mul,RL.neg]
  grind
theorem acU(a b c x y u w:RE)(h:a*x+b*y=c)(h':a*u+b*w=c):(a*a+b*b)*(x-u)= -b*(-b*x+a*y-(-b*u+a*w)):=by
 rw[aoE a b x y u w,h,h',sub_self,mul_zero,add_zero]
theorem adn(a b c x y u w:RE)(h:a*x+b*y=c)(h':a*u+b*w=c):(a*a+b*b)*(y-w)=a*(-b*x+a*y-(-b*u+a*w)):=by
 rw[aqD a b x y u w,h,h',sub_self,mul_zero,add_zero]
def tL(l:Ln)(p:Pt):RE:= -of l.2.1*pX p+of l.1*pY p
theorem OS(l:Ln){p:Pt}[_h:Rpd p]:vR (eh l p)=tL l p:=by
 unfold eh tL pX pY
 rw[vR_mk]
 unfold v2
 simp only[of_add,of_mul,of_neg]
 exact VC _ _ _ _ _ _ _
theorem alo_cmp{l:Ln}{p q:Pt}[Rpd p][Rpd q]:bI (eh l p) (eh l q)=sg (tL l p-tL l q):=by
 rw[cmpT_re (Xz (l:=l) (p:=p)).nn (Xz (l:=l) (p:=q)).nn,OS,OS]
def onLi(l:Ln)(p:Pt):Prop:=of l.1*pX p+of l.2.1*pY p=of l.2.2
theorem sid_on{l:Ln}{p:Pt}[Rpd p](h:mh l p=0):onLi l p:=by
 rw[Cs]at h
 exact Ji _ _ (l4.1 h)
theorem Sd{l:Ln}{p q:Pt}(hp:onLi l p)(hq:onLi l q):(of l.1*of l.1+of l.2.1*of l.2.1)*(pX p-pX q)= -of l.2.1*(tL l p-tL l q):=by
 unfold onLi at hp hq
 unfold tL
 exact acU _ _ _ _ _ _ _ hp hq
theorem TS{l:Ln}{p q:Pt}(hp:onLi l p)(hq:onLi l q):(of l.1*of l.1+of l.2.1*of l.2.1)*(pY p-pY q)=of l.1*(tL l p-tL l q):=by
 unfold onLi at hp hq
 unfold tL
 exact adn _ _ _ _ _ _ _ hp hq
theorem Xp{a b:Rat}(h:a≠0∨b≠0):0<of a*of a+of b*of b:=by
 have h1:=jX h
 have h2:0≤a*a:=by
  rcases(by grind:0≤a∨0≤ -a)with h|h
  ·exact avC h h
  ·have:=avC h h;grind
 have h3:0≤b*b:=by
  rcases(by grind:0≤b∨0≤ -b)with h|h
  ·exact avC h h
  ·have:=avC h h;grind
 rw[←of_mul,←of_mul,←of_add]
 exact iI (by grind)
theorem YR{q:Rat}(h:q≠0):sg (of q)=1∨sg (of q)= -1:=by
 rw[sg_of]
 rcases(by grind:q<0∨0<q)with h'|h'
 ·exact .inr (dh h')
 ·exact .inl (c9 h')
theorem U4{l:Ln}(hl:l.1≠0∨l.2.1≠0):∃s:Int,(s=1∨s= -1)∧∀p q:Pt,Rpd p→Rpd q→onLi l p→onLi l q→b9 p q=s*sg (tL l p-tL l q):=by
 have hn:=Xp hl
 by_cases hb:l.2.1=0
 ·have ha:l.1≠0:=hl.resolve_right (fun h=>h hb)
  refine⟨sg (of l.1),YR ha,fun p q hp hq op oq=>?_⟩
  rw[jW]
  unfold lxc pR
  have e1:=Sd op oq
  have e2:=TS op oq
  have s1:=congrArg sg e1
  have s2:=congrArg sg e2
  rw[dU,dR hn,dU,hb,AW,DO,dE]at s1
  rw[dU,dR hn,dU]at s2
  rw[show sg (pX p-pX q)=0 by omega]
  show sg (pY p-pY q)=_
  omega
 ·refine⟨-sg (of l.2.1),by rcases YR hb with h|h<;>rw[h]<;>simp,fun p q hp hq op oq=>?_⟩
  rw[jW]
  unfold lxc pR
  have e1:=Sd op oq
  have e2:=TS op oq
  have s1:=congrArg sg e1
  have s2:=congrArg sg e2
  rw[dU,dR hn,dU,tc]at s1
  rw[dU,dR hn,dU]at s2
  rcases bZ (tL l p-tL l q)with⟨_,h⟩|⟨_,h⟩|⟨_,h⟩<;>rw[h]at s1 s2 ⊢ <;>rcases YR hb with g|g<;>rw[g]at s1 ⊢
  all_goals
   simp only[awu,aw6,aw1,axI,Int.neg_neg]at s1 s2 ⊢
   try rw[s1]
   try rw[s2]
   try rfl
theorem btw_tL{l:Ln}(hl:l.1≠0∨l.2.1≠0){F P T:Pt}[hF:Rpd F][hP:Rpd P][hT:Rpd T](oF:onLi l F)(oP:onLi l P)(oT:onLi l T):
  qs (b9 F P) (b9 P T)=VF (sg (tL l F-tL l T)) (sg (tL l F-tL l P)) (sg (tL l P-tL l T)) (sg (tL l P-tL l F)) (sg (tL l T-tL l P)):=by
 obtain⟨s,hs,h⟩:=U4 hl
 have mF:tL l F∈[tL l F,tL l P,tL l T]:=by simp
 have mP:tL l P∈[tL l F,tL l P,tL l T]:=by simp
 have mT:tL l T∈[tL l F,tL l P,tL l T]:=by simp
 have e:qs (b9 F P) (b9 P T)=qs (sg (tL l F-tL l P)) (sg (tL l P-tL l T)):=by
  rw[h F P hF hP oF oP,h P T hP hT oP oT]
  rcases hs with rfl|rfl
  ·rw[awu,awu]
  ·rw[show(-1:Int)*sg (tL l F-tL l P)= -sg (tL l F-tL l P) by omega,show(-1:Int)*sg (tL l P-tL l T)= -sg (tL l P-tL l T) by omega,aai]
 have c:=fun{x y:RE} (hx:x∈[tL l F,tL l P,tL l T]) (hy:y∈[tL l F,tL l P,tL l T])=>pU lt_lin sg_cmpO hx hy
 rw[e,c mF mP,c mP mT,c mF mT,c mP mF,c mT mP]
 exact ac0 ⟨_,ng lt_lin mF⟩ ⟨_,ng lt_lin mP⟩ ⟨_,ng lt_lin mT⟩
end RE
theorem CE{l:Ln}(hl:l.1≠0∨l.2.1≠0)(v:Rat×Rat):l.1*(c8 l v).1+l.2.1*(c8 l v).2=l.2.2:=by
 have hn:=jX hl
 have he:nj l v*(l.1*l.1+l.2.1*l.2.1)=l.1*v.1+l.2.1*v.2-l.2.2:=by
  unfold nj
  exact awq hn
 unfold c8
 simp only
 grind
theorem HD(l:Ln)(v:Rat×Rat): -l.2.1*(c8 l v).1+l.1*(c8 l v).2= -l.2.1*v.1+l.1*v.2:=by
 unfold c8
 simp only
 grind
theorem TV{l:Ln}(hl:l.1≠0∨l.2.1≠0)(v:Rat×Rat):mh l (atP (c8 l v))=0:=by
 have h:=CE hl v
 unfold mh HH G6 atP
 simp only
 rw[show l.1*(c8 l v).1+l.2.1*(c8 l v).2-l.2.2=0 by grind,show l.1*0+l.2.1*0=(0:Rat) by grind]
 decide+kernel
def gdC(c:BCU):Prop:=okC 500 c∧gn (dC c) (frC (dC c))=true∧gn (dC c) (toC (dC c))=true
instance (c:BCU):Decidable (gdC c):=by unfold gdC;infer_instance
theorem f0{k:Nat}{x:BP}(h:okP k x):Rpd (dec x):=by
 obtain⟨p,rfl,bp,rp⟩:=cO h
 rw[am]
 exact rp
theorem akA{c:BCU}(h:gdC c):Crv (dC c):=by
 obtain⟨h1,h2,h3⟩:=h
 obtain⟨ar,li,ci,cw,fr,to⟩:=c
 have hf:Rpd (frC (dC (ar,li,ci,cw,fr,to))):=f0 h1.2.2.1
 have ht:Rpd (toC (dC (ar,li,ci,cw,fr,to))):=f0 h1.2.2.2
 refine⟨hf,ht,fun e=>?_⟩
 have e:ar=true:=e
 subst e
 exact⟨(h1.1 rfl).2,RE.ins_on (awf.1 h2),RE.ins_on (awf.1 h3)⟩
theorem yO{c:BCU}(h:gdC c){p:Pt}(hp:Rpd p):onR (dC c) p=onP (dC c) p:=(asi (akA h) hp).symm
theorem P0{c:BCU}(h:gdC c)(ha:c.1=false)(v:Rat×Rat):onP (dC c) (atP (c8 (lnC (dC c)) v))=pe (dC c) (atP v):=by
 obtain⟨h1,h2,h3⟩:=h
 obtain⟨ar,li,ci,cw,fr,to⟩:=c
 have ha:ar=false:=ha
 subst ha
 have hl:=(h1.2.1 rfl).2
 simp only at hl
 have hf:Rpd (dec fr:Pt):=f0 h1.2.2.1
 have ht:Rpd (dec to:Pt):=f0 h1.2.2.2
 have o2:RE.onLi (dec li) (dec fr):=RE.sid_on (awf.1 h2)
 have o3:RE.onLi (dec li) (dec to):=RE.sid_on (awf.1 h3)
 have s0:=TV hl v
 have oP:RE.onLi (dec li) (atP (c8 (dec li) v)):=RE.sid_on s0
 have key:=RE.btw_tL hl (F:=dec fr) (P:=atP (c8 (dec li) v)) (T:=dec to) o2 oP o3
 have et:RE.tL (dec li) (atP (c8 (dec li) v))=RE.tL (dec li) (atP v):=by
  unfold RE.tL
  rw[RE.pX_at,RE.pY_at,RE.pX_at,RE.pY_at,←RE.of_neg,←RE.of_mul,←RE.of_mul,←RE.of_add,HD,RE.of_add,RE.of_mul,RE.of_mul]
 show((mh (dec li) (atP (c8 (dec li) v))==0)&&qs (b9 (dec fr) (atP (c8 (dec li) v))) (b9 (atP (c8 (dec li) v)) (dec to)))=pe _ _
 rw[s0,key,et]
 unfold pe VF
 simp only[dC,lnC,frC,toC,RE.alo_cmp]
 rfl
theorem ajV(c:Ln)(d:Rat×Rat):trP (mkP (mkR 0 d.1 (c.2.2/cg d d)) (mkR 0 d.2 (c.2.2/cg d d))) (ctr c)=gK c d:=by
 unfold gK mkP rdP trP mkR ctr
 generalize c.2.2/cg d d=s
 cases eZ s
 ·simp only[cond_false]
  by_cases h1:d.1=0<;>by_cases h2:d.2=0
  ·rw[au1 h1,au1 h2];simp;constructor<;>grind
  ·rw[au1 h1,au3 h2];simp[h2];constructor<;>grind
  ·rw[au3 h1,au1 h2];simp[h1];constructor<;>grind
  ·rw[au3 h1,au3 h2];simp[h1,h2];constructor<;>grind
 ·simp
  constructor<;>grind
def wE:Env:=[(76,jw),(148,ju),(149,lE),(147,kr),(202,p7),(83,jr),(99,nQ),(170,Bc),(219,ta),(283,AM),(290,BS),(282,Be),(281,Dc),(259,w8),(284,Bg),(291,GT)]
theorem kR:EnvAll Tryz.prog wE:=⟨fM,fO,io,gD,kZ,fL,jD,w7,nM,xF,v6,yb,xd,qU,xu,Ej,trivial⟩
def ap0:Ctx:=CX wE []
def agn(l:BO3)(p:BP)(_k:KT):Option (List RV):=let y1:=bQ (dec (p.1,(p.2.1,p.2.2.2.2)));let y2:=hid ((bQ (dec p.2.2)).1);let y3:=gS (ae l.1) (hid (y1.1)) (y1.2);let y4:=gS (ae l.2.1) y2 ((bQ (dec p.2.2)).2);let y5:=dm (hid (y3.1)) (hid (y4.1));let y6:=hid ((frF (ae l.2.2)).1);let y7:=dm (hid (y5.1)) (hid (kn y6));match decide (ok Rt 100000 (p.1,(p.2.1,p.2.2.2.2)))with|true=>(match decide (ok Rat 100000 l.1∧prI (hid (y1.1)))with|true=>(match decide (ok Rt 100000 p.2.2)with|true=>(match decide (ok Rat 100000 l.2.1∧prI y2)with|true=>(match decide (ok Rat 200000 l.2.2)with|true=>(match !(y3.2)with|true=>some [RV.d ax8 0,RV.d .bool false]|false=>(match !(y4.2)with|true=>some [RV.d ax8 0,RV.d .bool false]|false=>(match !((frF (ae l.2.2)).2)with|true=>some [RV.d ax8 0,RV.d .bool false]|false=>(match decide (prI (hid (y3.1))∧prI (hid (y4.1)))with|true=>(match !(y5.2)with|true=>some [RV.d ax8 0,RV.d .bool false]|false=>(match decide (prI y6)with|true=>(match decide (prI (hid (y5.1))∧prI (hid (kn y6)))with|true=>(match !(y7.2)with|true=>some [RV.d ax8 0,RV.d .bool false]|false=>some [RV.d ax8 ((sgF (hid (y7.1))).1),RV.d .bool ((sgF (hid (y7.1))).2)])|false=>none)|false=>none))|false=>none))))|false=>none)|false=>none)|false=>none)|false=>none)|false=>none
theorem asT(l:BO3)(p:BP):RS ap0 270 [.d tO l,.d tP p] (agn l p):=rsX
theorem ZE(l:BO3)(p:BP)(h:ok Ln 300 l∧ok Pt 4000 p):Con Tryz.prog 270 [.d tO l,.d tP p] [.d ax8 ((se (dec l) (dec p)).1),.d .bool ((se (dec l) (dec p)).2)]:=by
 refine aR kR (asT _ _ ⟨0,?_⟩)
 obtain⟨hl,hp⟩:=h
 obtain⟨l,rfl,bl⟩:=aU hl
 obtain⟨p,rfl,bp⟩:=aU hp
 have dx:(dec ((ai p.1,ai p.2.1,ai p.2.2.2.2):BO3):Rt)=pxR p:=am (pxR p)
 have dy:(dec ((ai p.2.2.1,ai p.2.2.2.1,ai p.2.2.2.2):BO3):Rt)=pyR p:=am (pyR p)
 have dy':(dec (enc p.2.2:BO3):Rt)=pyR p:=am (pyR p)
 have px:Bd (pxR p) 4000:=(inferInstance:Bd ((p.1,p.2.1,p.2.2.2.2):Rt) _).mono (by decide)
 have py:Bd (pyR p) 4000:=(inferInstance:Bd ((p.2.2.1,p.2.2.2.1,p.2.2.2.2):Rt) _).mono (by decide)
 have ox:decide (ok Rt 100000 ((ai p.1,ai p.2.1,ai p.2.2.2.2):BO3))=true:=okd (x:=pxR p) (by decide) (by decide)
 have oy:decide (ok Rt 100000 (enc p.2.2:BO3))=true:=okd (x:=pyR p) (by decide) (by decide)
 have pr:∀r,prI (bQ r).1:=yh
 have pt:∀n a k,prI (gS n a k).1:=abs
 have pf:∀q,prI (frF q).1:=RE.frF_pr
 unfold agn
 simp only[ak,am,aI,aJ,aG,az,aH,au4,au6,Nat.reduceLeDiff,dx,dy',ox,oy,dT (pr _),dT (pt _ _ _),dT (pf _),dT (RE.addF_pr (pt _ _ _) (pt _ _ _)),dT (RE.negF_pr (pf _))]
 unfold se
 generalize bQ (pxR p)=X
 generalize bQ (pyR p)=Y
 generalize gS l.1 X.1 X.2=U
 generalize gS l.2.1 Y.1 Y.2=V
 generalize frF l.2.2=W
 generalize dm U.1 V.1=S
 generalize dm S.1 (kn W.1)=D
 generalize sgF D.1=Z
 obtain⟨_,u⟩:=U
 obtain⟨_,v⟩:=V
 obtain⟨_,w⟩:=W
 obtain⟨_,s⟩:=S
 obtain⟨_,d⟩:=D
 cases u<;>cases v<;>cases w<;>try rfl
 cases s<;>cases d<;>rfl
def an8:Ctx:=CX wE []
def af7(a b:BR)(_k:KT):Option (List RV):=match decide (okR a∧okR b)with|true=>some [RV.d tR (hid (ai (ae a+ae b)))]|false=>none
theorem aq8(a b:BR):RS an8 154 [.d tR a,.d tR b] (af7 a b):=rsX
theorem ZQ(a b:BR)(h:okR a∧okR b):Con Tryz.prog 154 [.d tR a,.d tR b] [.d tR (ai (ae a+ae b))]:=by
 refine aR kR (aq8 _ _ ⟨0,?_⟩)
 unfold af7
 rw[dT h,ak]
def apz:Ctx:=CX wE []
def agC(a b:BR)(_k:KT):Option (List RV):=match decide (okR a∧okR b)with|true=>some [RV.d tR (hid (ai (ae a-ae b)))]|false=>none
theorem aqX(a b:BR):RS apz 153 [.d tR a,.d tR b] (agC a b):=rsX
theorem aes(a b:BR)(h:okR a∧okR b):Con Tryz.prog 153 [.d tR a,.d tR b] [.d tR (ai (ae a-ae b))]:=by
 refine aR kR (aqX _ _ ⟨0,?_⟩)
 unfold agC
 rw[dT h,ak]
def ar6:Ctx:=CX wE []
def aeI(a b:BR)(_k:KT):Option (List RV):=match decide (okR a∧okR b)with|true=>some [RV.d tR (hid (ai (ae a*ae b)))]|false=>none
theorem an0(a b:BR):RS ar6 155 [.d tR a,.d tR b] (aeI a b):=rsX
theorem ac6(a b:BR)(h:okR a∧okR b):Con Tryz.prog 155 [.d tR a,.d tR b] [.d tR (ai (ae a*ae b))]:=by
 refine aR kR (an0 _ _ ⟨0,?_⟩)
 unfold aeI
 rw[dT h,ak]
def aoV:Ctx:=CX wE []
def ahp(a b:BR)(_k:KT):Option (List RV):=match decide (fD a b)with|true=>(match 0 !=0 with|true=>(match decide (bg (0:Int))with|true=>some [RV.d tR (hid (ai ((0:Int):Rat)))]|false=>none)|false=>some [RV.d tR (hid (ai (ae a/ae b)))])|false=>none
theorem arj(a b:BR):RS aoV 156 [.d tR a,.d tR b] (ahp a b):=rsX
theorem abl(a b:BR)(h:fD a b):Con Tryz.prog 156 [.d tR a,.d tR b] [.d tR (ai (ae a/ae b))]:=by
 refine aR kR (arj _ _ ⟨0,?_⟩)
 unfold ahp
 rw[dT h]
 simp only[ak]
 rfl
def RA:aO:=spN true true [tO,tP] (fun x=>decide (ok Ln 300 x.1∧ok Pt 4000 x.2.1)) (fun x=>[RV.d ax8 ((se (dec x.1) (dec x.2.1)).1),RV.d .bool ((se (dec x.1) (dec x.2.1)).2)])
theorem Tf:SpK 270 RA:=spX fun x h=>ZE x.1 x.2.1 (au0 h)
def Ye:aO:=spN false true [tR,tR] (fun x=>decide (okR x.1∧okR x.2.1)) (fun x=>[RV.d tR (hid (ai (ae x.1+ae x.2.1)))])
theorem Ya:SpK 154 Ye:=spX fun x h=>by simp only[ak];exact ZQ x.1 x.2.1 (au0 h)
def Rf:aO:=spN false true [tR,tR] (fun x=>decide (okR x.1∧okR x.2.1)) (fun x=>[RV.d tR (hid (ai (ae x.1-ae x.2.1)))])
theorem Vm:SpK 153 Rf:=spX fun x h=>by simp only[ak];exact aes x.1 x.2.1 (au0 h)
def WJ:aO:=spN false true [tR,tR] (fun x=>decide (okR x.1∧okR x.2.1)) (fun x=>[RV.d tR (hid (ai (ae x.1*ae x.2.1)))])
theorem OR:SpK 155 WJ:=spX fun x h=>by simp only[ak];exact ac6 x.1 x.2.1 (au0 h)
def Wv:aO:=spN false true [tR,tR] (fun x=>decide (fD x.1 x.2.1)) (fun x=>[RV.d tR (hid (ai (ae x.1/ae x.2.1)))])
theorem Sa:SpK 156 Wv:=spX fun x h=>by simp only[ak];exact abl x.1 x.2.1 (au0 h)
def L9:Env:=(270,RA)::(154,Ye)::(153,Rf)::(155,WJ)::(156,Wv)::wE
theorem xK:EnvAll Tryz.prog L9:=⟨Tf,Ya,Vm,OR,Sa,kR⟩
def arM:Ctx:=CX L9 []
def aeN(a b c:BR)(_k:KT):Option (List RV):=match decide (okR a)with|true=>(match decide (okR b)with|true=>(match decide (okR c)with|true=>(match(i64.wrap ((aV (ae b) 0)*(aV (ae c) 0)))==0 with|true=>some [RV.d ax8 (aV (ae a) 0)]|false=>(match(aV (ae a) 0)==(i64.wrap ((aV (ae b) 0)*(aV (ae c) 0)))with|true=>some [RV.d ax8 (aV (ae a) 0)]|false=>(match(aV (ae a) 0)==0 with|true=>some [RV.d ax8 (i64.wrap ((aV (ae b) 0)*(aV (ae c) 0)))]|false=>(match decide (okR a∧okR a)with|true=>(match decide (okR b∧okR b)with|true=>(match decide (okR (hid (ai (ae b*ae b)))∧okR c)with|true=>(match decide (okR (hid (ai (ae a*ae a)))∧okR (hid (ai (ae (hid (ai (ae b*ae b)))*ae c))))with|true=>some [RV.d ax8 (i64.wrap ((aV (ae a) 0)*(aV (ae (hid (ai (ae a*ae a)))) (ae (hid (ai (ae (hid (ai (ae b*ae b)))*ae c)))))))]|false=>none)|false=>none)|false=>none)|false=>none))))|false=>none)|false=>none)|false=>none
theorem aqk(a b c:BR):RS arM 269 [.d tR a,.d tR b,.d tR c] (aeN a b c):=rsX
theorem ZA(a b c:BR)(h:ok Rat 240000 a∧ok Rat 170000 b∧ok Rat 30000 c):Con Tryz.prog 269 [.d tR a,.d tR b,.d tR c] [.d ax8 (fy (ae a) (ae b) (ae c))]:=by
 refine aR xK (aqk _ _ _ ⟨0,?_⟩)
 obtain⟨ha,hb,hc⟩:=h
 obtain⟨a,rfl,ba⟩:=aU ha
 obtain⟨b,rfl,bb⟩:=aU hb
 obtain⟨c,rfl,bc⟩:=aU hc
 unfold aeN
 simp only[ak,aG,az,aX,au4,au6,Nat.reduceAdd,Nat.reduceLeDiff,oM]
 exact BX _ _ _
def asb:Ctx:=CX L9 []
def ahh(a b c f:BR)(_k:KT):Option (List RV):=match decide (ok Rt 100000 (a,(b,c)))with|true=>(match decide (ok Rat 200000 f)with|true=>(match !((bQ (dec (a,(b,c)))).2)with|true=>some [RV.d tG (0,0),RV.d .bool false]|false=>(match !((frF (ae f)).2)with|true=>some [RV.d tG (0,0),RV.d .bool false]|false=>(match decide (prI (hid ((frF (ae f)).1)))with|true=>(match decide (prI (hid ((bQ (dec (a,(b,c)))).1))∧prI (hid (kn (hid ((frF (ae f)).1)))))with|true=>some [RV.d tG (hid ((dm (hid ((bQ (dec (a,(b,c)))).1)) (hid (kn (hid ((frF (ae f)).1))))).1)),RV.d .bool ((dm (hid ((bQ (dec (a,(b,c)))).1)) (hid (kn (hid ((frF (ae f)).1))))).2)]|false=>none)|false=>none)))|false=>none)|false=>none
theorem anf(a b c f:BR):RS asb 289 [.d tR a,.d tR b,.d tR c,.d tR f] (ahh a b c f):=rsX
theorem Zy(a b c f:BR)(h:ok Rat 100000 a∧ok Rat 100000 b∧ok Rat 100000 c∧ok Rat 100000 f):Con Tryz.prog 289 [.d tR a,.d tR b,.d tR c,.d tR f] [.d tG ((eI (ae a,ae b,ae c) (ae f)).1),.d .bool ((eI (ae a,ae b,ae c) (ae f)).2)]:=by
 refine aR xK (anf _ _ _ _ ⟨0,?_⟩)
 obtain⟨ha,hb,hc,hf⟩:=h
 obtain⟨a,rfl,ba⟩:=aU ha
 obtain⟨b,rfl,bb⟩:=aU hb
 obtain⟨c,rfl,bc⟩:=aU hc
 obtain⟨f,rfl,bf⟩:=aU hf
 have dr:(dec ((ai a,ai b,ai c):BO3):Rt)=(a,b,c):=am ((a,b,c):Rt)
 have orr:decide (ok Rt 100000 ((ai a,ai b,ai c):BO3))=true:=okd (x:=((a,b,c):Rt)) (by decide) (by decide)
 unfold ahh
 simp only[ak,aG,az,aH,au4,au6,Nat.reduceLeDiff,dr,orr,dT (RE.frF_pr _),dT (RE.negF_pr (RE.frF_pr _)),dT (yh _)]
 unfold eI
 generalize bQ (a,b,c)=X
 generalize frF f=Y
 obtain⟨_,x⟩:=X
 obtain⟨_,y⟩:=Y
 cases x<;>cases y<;>rfl
def X3:aO:=spN true true [tR,tR,tR] (fun x=>decide (ok Rat 240000 x.1∧ok Rat 170000 x.2.1∧ok Rat 30000 x.2.2.1)) (fun x=>[RV.d ax8 (fy (ae x.1) (ae x.2.1) (ae x.2.2.1))])
theorem X9:SpK 269 X3:=spX fun x h=>ZA x.1 x.2.1 x.2.2.1 (au0 h)
def S6:aO:=spN false true [tR,tR,tR,tR] (fun x=>decide (ok Rat 100000 x.1∧ok Rat 100000 x.2.1∧ok Rat 100000 x.2.2.1∧ok Rat 100000 x.2.2.2.1)) (fun x=>[RV.d tG (hid ((eI (ae x.1,ae x.2.1,ae x.2.2.1) (ae x.2.2.2.1)).1)),RV.d .bool ((eI (ae x.1,ae x.2.1,ae x.2.2.1) (ae x.2.2.2.1)).2)])
theorem RX:SpK 289 S6:=spX fun x h=>by simp only[ak];exact Zy x.1 x.2.1 x.2.2.1 x.2.2.2.1 (au0 h)
def Ld:Env:=(269,X3)::(289,S6)::L9
theorem wx:EnvAll Tryz.prog Ld:=⟨X9,RX,xK⟩
def apI:Ctx:=CX Ld []
def ahc(c:BO3)(p:BP)(_k:KT):Option (List RV):=let y1:=eI (ae p.1,ae p.2.1,ae p.2.2.2.2) (ae c.1);let y2:=eI (ae p.2.2.1,ae p.2.2.2.1,ae p.2.2.2.2) (ae c.2.1);let y3:=cN (hid (y1.1)) (hid (y1.1));let y4:=cN (hid (y2.1)) (hid (y2.1));let y5:=dm (hid (y3.1)) (hid (y4.1));let y6:=hid ((frF (ae c.2.2)).1);let y7:=dm (hid (y5.1)) (hid (kn y6));match decide (ok Rat 100000 p.1∧ok Rat 100000 p.2.1∧ok Rat 100000 p.2.2.2.2∧ok Rat 100000 c.1)with|true=>(match decide (ok Rat 100000 p.2.2.1∧ok Rat 100000 p.2.2.2.1∧ok Rat 100000 p.2.2.2.2∧ok Rat 100000 c.2.1)with|true=>(match decide (ok Rat 200000 c.2.2)with|true=>(match !(y1.2)with|true=>some [RV.d ax8 0,RV.d .bool false]|false=>(match !(y2.2)with|true=>some [RV.d ax8 0,RV.d .bool false]|false=>(match !((frF (ae c.2.2)).2)with|true=>some [RV.d ax8 0,RV.d .bool false]|false=>(match decide (prI (hid (y1.1))∧prI (hid (y1.1)))with|true=>(match decide (prI (hid (y2.1))∧prI (hid (y2.1)))with|true=>(match !(y3.2)with|true=>some [RV.d ax8 0,RV.d .bool false]|false=>(match !(y4.2)with|true=>some [RV.d ax8 0,RV.d .bool false]|false=>(match decide (prI (hid (y3.1))∧prI (hid (y4.1)))with|true=>(match !(y5.2)with|true=>some [RV.d ax8 0,RV.d .bool false]|false=>(match decide (prI y6)with|true=>(match decide (prI (hid (y5.1))∧prI (hid (kn y6)))with|true=>(match !(y7.2)with|true=>some [RV.d ax8 0,RV.d .bool false]|false=>some [RV.d ax8 ((sgF (hid (y7.1))).1),RV.d .bool ((sgF (hid (y7.1))).2)])|false=>none)|false=>none))|false=>none)))|false=>none)|false=>none))))|false=>none)|false=>none)|false=>none
theorem as6(c:BO3)(p:BP):RS apI 268 [.d tO c,.d tP p] (ahc c p):=rsX
theorem abj(c:BO3)(p:BP)(h:ok Ln 300 c∧ok Pt 4000 p):Con Tryz.prog 268 [.d tO c,.d tP p] [.d ax8 ((qJ (dec c) (dec p)).1),.d .bool ((qJ (dec c) (dec p)).2)]:=by
 refine aR wx (as6 _ _ ⟨0,?_⟩)
 obtain⟨hc,hp⟩:=h
 obtain⟨c,rfl,bc⟩:=aU hc
 obtain⟨p,rfl,bp⟩:=aU hp
 have pd:∀r q,prI (eI r q).1:=adD
 have pf:∀q,prI (frF q).1:=RE.frF_pr
 have pm:∀a b,prI (cN a b).1:=rE
 have dx:eI (p.1,p.2.1,p.2.2.2.2) c.1=eI (pxR p) c.1:=rfl
 have dy:eI (p.2.2.1,p.2.2.2.1,p.2.2.2.2) c.2.1=eI (pyR p) c.2.1:=rfl
 unfold ahc
 simp only[ak,am,aI,aJ,aG,az,aH,au4,au6,Nat.reduceLeDiff,dx,dy,dT (pd _ _),dT (pm _ _),dT (pf _),dT (RE.negF_pr (pf _)),dT (RE.addF_pr (pm _ _) (pm _ _))]
 unfold qJ
 generalize eI (pxR p) c.1=X
 generalize eI (pyR p) c.2.1=Y
 generalize frF c.2.2=W
 generalize cN X.1 X.1=U
 generalize cN Y.1 Y.1=V
 generalize dm U.1 V.1=S
 generalize dm S.1 (kn W.1)=D
 generalize sgF D.1=Z
 obtain⟨_,x⟩:=X
 obtain⟨_,y⟩:=Y
 obtain⟨_,w⟩:=W
 obtain⟨_,u⟩:=U
 obtain⟨_,v⟩:=V
 obtain⟨_,s⟩:=S
 obtain⟨_,d⟩:=D
 cases x<;>cases y<;>cases w<;>try rfl
 cases u<;>cases v<;>try rfl
 cases s<;>cases d<;>rfl
def asq:Ctx:=CX Ld []
def afa(l:BO3)(p:BP)(_k:KT):Option (List RV):=match decide (ok Ln 300 l∧ok Pt 4000 p)with|true=>(match(se (dec l) (dec p)).2 with|true=>some [RV.d ax8 ((se (dec l) (dec p)).1)]|false=>(match decide (okR l.1∧okR p.1)with|true=>(match decide (okR l.2.1∧okR p.2.2.1)with|true=>(match decide (okR (hid (ai (ae l.1*ae p.1)))∧okR (hid (ai (ae l.2.1*ae p.2.2.1))))with|true=>(match decide (okR (hid (ai (ae (hid (ai (ae l.1*ae p.1)))+ae (hid (ai (ae l.2.1*ae p.2.2.1))))))∧okR l.2.2)with|true=>(match decide (okR l.1∧okR p.2.1)with|true=>(match decide (okR l.2.1∧okR p.2.2.2.1)with|true=>(match decide (okR (hid (ai (ae l.1*ae p.2.1)))∧okR (hid (ai (ae l.2.1*ae p.2.2.2.1))))with|true=>(match decide (ok Rat 240000 (hid (ai (ae (hid (ai (ae (hid (ai (ae l.1*ae p.1)))+ae (hid (ai (ae l.2.1*ae p.2.2.1))))))-ae l.2.2)))∧ok Rat 170000 (hid (ai (ae (hid (ai (ae l.1*ae p.2.1)))+ae (hid (ai (ae l.2.1*ae p.2.2.2.1))))))∧ok Rat 30000 p.2.2.2.2)with|true=>some [RV.d ax8 (fy (ae (hid (ai (ae (hid (ai (ae (hid (ai (ae l.1*ae p.1)))+ae (hid (ai (ae l.2.1*ae p.2.2.1))))))-ae l.2.2)))) (ae (hid (ai (ae (hid (ai (ae l.1*ae p.2.1)))+ae (hid (ai (ae l.2.1*ae p.2.2.2.1))))))) (ae p.2.2.2.2))]|false=>none)|false=>none)|false=>none)|false=>none)|false=>none)|false=>none)|false=>none)|false=>none))|false=>none
theorem aoM(l:BO3)(p:BP):RS asq 231 [.d tO l,.d tP p] (afa l p):=rsX
theorem abI(l:BO3)(p:BP)(h:ok Ln 300 l∧okP 4000 p):Con Tryz.prog 231 [.d tO l,.d tP p] [.d ax8 (mh (dec l) (dec p))]:=by
 refine aR wx (aoM _ _ ⟨0,?_⟩)
 obtain⟨hl,hp⟩:=h
 obtain⟨l,rfl,bl⟩:=aU hl
 obtain⟨p,rfl,bp,rp⟩:=cO hp
 unfold afa
 simp only[ak,am,aI,aJ,aG,az,okd,aH,aX,au4,au6,Nat.reduceAdd,Nat.reduceLeDiff]
 cases hq:(se l p).2
 ·rfl
 ·rw[RE.sidL_ok l hq]
def W8:aO:=spN true true [tO,tP] (fun x=>decide (ok Ln 300 x.1∧ok Pt 4000 x.2.1)) (fun x=>[RV.d ax8 ((qJ (dec x.1) (dec x.2.1)).1),RV.d .bool ((qJ (dec x.1) (dec x.2.1)).2)])
theorem TN:SpK 268 W8:=spX fun x h=>abj x.1 x.2.1 (au0 h)
def Rp:Env:=(268,W8)::Ld
theorem DK:EnvAll Tryz.prog Rp:=⟨TN,wx⟩
def arO:Ctx:=CX Rp []
def afq(c:BO3)(p:BP)(_k:KT):Option (List RV):=let y1:=qJ (dec c) (dec p);let y2:=hid (ai (ae p.1-ae c.1));let y3:=hid (ai (ae p.2.2.1-ae c.2.1));let y4:=hid (ai (ae y2*ae y2));let y5:=hid (ai (ae y3*ae y3));let y6:=hid (ai (ae p.2.1*ae p.2.1));let y7:=hid (ai (ae p.2.2.2.1*ae p.2.2.2.1));let y8:=hid (ai (ae y6+ae y7));let y9:=hid (ai (ae y4+ae y5));let y10:=hid (ai (ae p.2.2.2.2*ae y8));let y11:=hid (ai (ae y2*ae p.2.1));let y12:=hid (ai (ae y3*ae p.2.2.2.1));let y13:=hid (ai (ae y9+ae y10));let y14:=hid (ai (ae y11+ae y12));let y15:=hid (ai (ae y13-ae c.2.2));let y16:=hid (ai (ae y14+ae y14));match decide (ok Ln 300 c∧ok Pt 4000 p)with|true=>(match y1.2 with|true=>some [RV.d ax8 (i64.wrap (0-(y1.1)))]|false=>(match decide (okR p.1∧okR c.1)with|true=>(match decide (okR p.2.2.1∧okR c.2.1)with|true=>(match decide (okR y2∧okR y2)with|true=>(match decide (okR y3∧okR y3)with|true=>(match decide (okR y4∧okR y5)with|true=>(match decide (okR p.2.1∧okR p.2.1)with|true=>(match decide (okR p.2.2.2.1∧okR p.2.2.2.1)with|true=>(match decide (okR y6∧okR y7)with|true=>(match decide (okR p.2.2.2.2∧okR y8)with|true=>(match decide (okR y9∧okR y10)with|true=>(match decide (okR y2∧okR p.2.1)with|true=>(match decide (okR y3∧okR p.2.2.2.1)with|true=>(match decide (okR y11∧okR y12)with|true=>(match decide (okR y13∧okR c.2.2)with|true=>(match decide (okR y14∧okR y14)with|true=>(match decide (ok Rat 240000 y15∧ok Rat 170000 y16∧ok Rat 30000 p.2.2.2.2)with|true=>some [RV.d ax8 (i64.wrap (0-(fy (ae y15) (ae y16) (ae p.2.2.2.2))))]|false=>none)|false=>none)|false=>none)|false=>none)|false=>none)|false=>none)|false=>none)|false=>none)|false=>none)|false=>none)|false=>none)|false=>none)|false=>none)|false=>none)|false=>none)|false=>none))|false=>none
theorem aqN(c:BO3)(p:BP):RS arO 230 [.d tO c,.d tP p] (afq c p):=rsX
theorem Z7(c:BO3)(p:BP)(h:ok Ln 300 c∧okP 4000 p):Con Tryz.prog 230 [.d tO c,.d tP p] [.d ax8 (lm (dec c) (dec p))]:=by
 refine aR DK (aqN _ _ ⟨0,?_⟩)
 obtain⟨hc,hp⟩:=h
 obtain⟨c,rfl,bc⟩:=aU hc
 obtain⟨p,rfl,bp,rp⟩:=cO hp
 have sb:=jO (sqA p (ctr c)-c.2.2) (sqB p (ctr c)) p.2.2.2.2
 unfold afq
 simp only[ak,am,aI,aJ,aG,az,okd,aH,aX,au4,au6,Nat.reduceAdd,Nat.reduceLeDiff]
 cases hq:(qJ c p).2
 ·unfold lm sqA sqB ctr at*
  dsimp only at sb ⊢
  rw[show(p.2.2.2.2*(p.2.1*p.2.1+p.2.2.2.1*p.2.2.2.1))=(p.2.1*p.2.1+p.2.2.2.1*p.2.2.2.1)*p.2.2.2.2 by grind]
  rw[bi (by omega) (by omega),aw3]
 ·have hb: -1≤(qJ c p).1∧(qJ c p).1≤1:=by
   have:=RE.insC_ok c hq
   unfold lm at this
   omega
  dsimp only
  rw[bi (by omega) (by omega),aw3,RE.insC_ok c hq]
def arW:Ctx:=CX Rp []
def afN(l:BO3)(v:BV)(_k:KT):Option (List RV):=let y1:=hid (ai (ae l.1*ae v.1));let y2:=hid (ai (ae l.2.1*ae v.2));let y3:=hid (ai (ae y1+ae y2));let y4:=hid (ai (ae l.1*ae l.1));let y5:=hid (ai (ae l.2.1*ae l.2.1));let y6:=hid (ai (ae y3-ae l.2.2));let y7:=hid (ai (ae y4+ae y5));let y8:=hid (ai (ae y6/ae y7));let y9:=hid (ai (ae y8*ae l.1));let y10:=hid (ai (ae y8*ae l.2.1));match decide (okR l.1∧okR v.1)with|true=>(match decide (okR l.2.1∧okR v.2)with|true=>(match decide (okR y1∧okR y2)with|true=>(match decide (okR y3∧okR l.2.2)with|true=>(match decide (okR l.1∧okR l.1)with|true=>(match decide (okR l.2.1∧okR l.2.1)with|true=>(match decide (okR y4∧okR y5)with|true=>(match decide (fD y6 y7)with|true=>(match decide (okR y8∧okR l.1)with|true=>(match decide (okR v.1∧okR y9)with|true=>(match decide (okR y8∧okR l.2.1)with|true=>(match decide (okR v.2∧okR y10)with|true=>some [RV.d tV (hid (ai (ae v.1-ae y9)),hid (ai (ae v.2-ae y10)))]|false=>none)|false=>none)|false=>none)|false=>none)|false=>none)|false=>none)|false=>none)|false=>none)|false=>none)|false=>none)|false=>none)|false=>none
theorem aqn(l:BO3)(v:BV):RS arW 70 [.d tO l,.d tV v] (afN l v):=rsX
theorem aa6(l:BO3)(v:BV)(h:ok Ln 300 l∧ok (Rat×Rat) 200 v∧((dec l:Ln).1≠0∨(dec l:Ln).2.1≠0)):Con Tryz.prog 70 [.d tO l,.d tV v] [.d tV (enc (c8 (dec l) (dec v)))]:=by
 refine aR DK (aqn _ _ ⟨0,?_⟩)
 obtain⟨hl,hv,h0⟩:=h
 obtain⟨l,rfl,bl⟩:=aU hl
 obtain⟨v,rfl,bv⟩:=aU hv
 have hn:l.1*l.1+l.2.1*l.2.1≠0:=jX (by rw[am]at h0;exact h0)
 unfold afN
 simp only[ak,am,aI,aJ,aG,az,aX,aF,au4,au6,Nat.reduceAdd,Nat.reduceLeDiff,hn,ne_eq,awK]
 rfl
end Go.Proofs.YtlahabkjhgkkjaaGreat
end
