/- Lines and circles: the reference's contracts. -/
import Derived.Test.YtgddhgcjmddjfaaGreatC13
noncomputable section
namespace Go.Proofs.YtgddhgcjmddjfaaGreat
open Go.RowKit Go.IntKind
theorem avN:type_of% @not_false_eq_true:=@not_false_eq_true
def GY(l:Ln)(p:Pt):Rt:=mkR (N6 l p) (OB l p) p.2.2.2.2
def uO(c:Ln)(p:Pt):Rt:=arT (sqP p (ctr c)) (-c.2.2)
instance as9 {r:Rt} {a:Rat} [h:Rdd r]:Rdd (arT r a):=⟨h.rd⟩
instance adO {l:Ln} {p:Pt} [h:Rpd p]:Rdd (GY l p):=by
 have:Nn p.2.2.2.2:=inferInstance
 exact Hg
instance ass {l:Ln} {p:Pt} {i j:Nat} [h:Bd l i] [h':Bd p j]:Bd (GY l p) (5*i+5*j+5):=by
 have a1:Bd (N6 l p) _:=inferInstance
 have a2:Bd (OB l p) _:=inferInstance
 have a3:Bd (mkR (N6 l p) (OB l p) p.2.2.2.2) _:=inferInstance
 exact a3.mono (by omega)
theorem adf{l:Ln}{p:Pt}[h:Rpd p]:sgR (GY l p)=rE l p:=by
 unfold rE
 rw[Xs (adO (l:=l) (p:=p)).nn,RE.sgn2_re h.nn]
 unfold GY
 rw[RE.vR_mk]
namespace RE
theorem acH(a b q:RE):a+ -q+b=a+b-q:=by
 induction a using atR
 induction b using atR
 induction q using atR
 exact snd fun n=>by
  simp only[RL.add,RL.neg]
  grind
theorem Z1(a b q:RE):a-q+b=a+b-q:=by
 induction a using atR
 induction b using atR
 induction q using atR
 exact snd fun n=>by
  simp only[RL.add,RL.neg]
  grind
theorem shift_l(a b d q:RE)(h:a+b=a+d):a+ -q+b=a-q+d:=by
 rw[acH,Z1,h]
end RE
theorem ZQ{c:Ln}{p:Pt}[h:Rpd p]: -sgR (uO c p)=m9 c p:=by
 unfold m9
 have hr:Rdd (uO c p):=inferInstanceAs (Rdd (arT (sqP p (ctr c)) (-c.2.2)))
 rw[Xs hr.nn,RE.sgn2_re h.nn]
 have e:RE.vR (uO c p)=RE.v2 (sqA p (ctr c)-c.2.2) (sqB p (ctr c)) p.2.2.2.2:=by
  have e1:=RE.vR_co (sqA p (ctr c)) (sqB p (ctr c)) p.2.2.2.2
  unfold RE.vR RE.v2 at e1
  unfold uO arT sqP RE.vR RE.v2
  simp only
  rw[RE.of_add,RE.of_neg,RE.of_sub]
  have e2:RE.of (coR (sqA p (ctr c)) (sqB p (ctr c)) p.2.2.2.2).1=RE.of (sqA p (ctr c)):=by
   unfold coR
   cases decide (sqB p (ctr c)=0)<;>rfl
  rw[e2]at e1 ⊢
  exact RE.shift_l _ _ _ _ e1
 rw[e]
theorem yr{q:Rat}(h:q≠0):aS q 0=if 0<q then 1 else-1:=by
 rcases(by grind:q<0∨0<q)with h'|h'
 ·rw[dK h',aum (by grind)]
 ·rw[dA h',auv h']
def CU:aN:=spN false true [tR,tR] (fun x=>decide (fS x.1 x.2.1)) (fun x=>[RV.d tR (hid (ai (ae x.1/ae x.2.1))),RV.d axf 0])
theorem Br:SpK 167 CU:=spX fun x h=>by simp only[ak];exact GK x.1 x.2.1 (atS h)
def xh:aN:=spN false true [tR,tR,tR] (fun x=>decide (ok Rat 100000 x.1∧ok Rat 100000 x.2.1∧ok Rat 100000 x.2.2.1∧0≤ae x.2.2.1)) (fun x=>[RV.d tO (hid (enc (mkR (ae x.1) (ae x.2.1) (ae x.2.2.1)))),RV.d axf 0])
theorem u4:SpK 36 xh:=spX fun x h=>by simp only[ak];exact Ru x.1 x.2.1 x.2.2.1 (atS h)
def nA:Env:=[(69,jI),(35,lE),(85,qk),(168,qv),(86,nC),(92,qE),(169,qw),(167,CU),(36,xh),(234,Dm),(235,LZ)]
theorem iG:EnvAll Tryz.prog nA:=⟨gN,iC,lX,mg,jT,mB,ma,Br,u4,AO,Oy,trivial⟩
def ajN:Ctx:=CX nA []
def YG(a:BR)(_k:KT):Option (List RV):=match decide (okR a∧okR a)with|true=>some [RV.d tR (hid (ai (ae a*ae a)))]|false=>none
theorem alo(a:BR):RS ajN 192 [.d tR a] (YG a):=rsX
theorem U4(a:BR)(h:okR a):Con Tryz.prog 192 [.d tR a] [.d tR (ai (ae a*ae a))]:=by
 refine aP iG (alo _ ⟨0,?_⟩)
 unfold YG
 rw[dT ⟨h,h⟩]
 simp only[ak]
def aju:Ctx:=CX nA []
def Sm(a b:BR)(_k:KT):Option (List RV):=match decide (okR a∧okR b)with|true=>some [RV.d tR (hid (ai (ae a+ae b)))]|false=>none
theorem aix(a b:BR):RS aju 133 [.d tR a,.d tR b] (Sm a b):=rsX
theorem WF(a b:BR)(h:okR a∧okR b):Con Tryz.prog 133 [.d tR a,.d tR b] [.d tR (ai (ae a+ae b))]:=by
 refine aP iG (aix _ _ ⟨0,?_⟩)
 unfold Sm
 rw[dT h]
 simp only[ak]
def ajm:Ctx:=CX nA []
def Ry(a b:BR)(_k:KT):Option (List RV):=match decide (okR a∧okR b)with|true=>some [RV.d tR (hid (ai (ae a-ae b)))]|false=>none
theorem amg(a b:BR):RS ajm 132 [.d tR a,.d tR b] (Ry a b):=rsX
theorem Sw(a b:BR)(h:okR a∧okR b):Con Tryz.prog 132 [.d tR a,.d tR b] [.d tR (ai (ae a-ae b))]:=by
 refine aP iG (amg _ _ ⟨0,?_⟩)
 unfold Ry
 rw[dT h]
 simp only[ak]
def aiU:Ctx:=CX nA []
def Qf(a b:BR)(_k:KT):Option (List RV):=match decide (okR a∧okR b)with|true=>some [RV.d tR (hid (ai (ae a*ae b)))]|false=>none
theorem ajO(a b:BR):RS aiU 94 [.d tR a,.d tR b] (Qf a b):=rsX
theorem Uo(a b:BR)(h:okR a∧okR b):Con Tryz.prog 94 [.d tR a,.d tR b] [.d tR (ai (ae a*ae b))]:=by
 refine aP iG (ajO _ _ ⟨0,?_⟩)
 unfold Qf
 rw[dT h]
 simp only[ak]
def al7:Ctx:=CX nA []
def T7(a b:BR)(_k:KT):Option (List RV):=match decide (fS a b)with|true=>some [RV.d tR (hid (ai (ae a/ae b)))]|false=>none
theorem ajf(a b:BR):RS al7 193 [.d tR a,.d tR b] (T7 a b):=rsX
theorem Rz(a b:BR)(h:fS a b):Con Tryz.prog 193 [.d tR a,.d tR b] [.d tR (ai (ae a/ae b))]:=by
 refine aP iG (ajf _ _ ⟨0,?_⟩)
 unfold T7
 rw[dT h]
 simp only[ak]
def ME:aN:=spN false true [tR] (fun x=>decide (okR x.1)) (fun x=>[RV.d tR (hid (ai (ae x.1*ae x.1)))])
theorem Nk:SpK 192 ME:=spX fun x h=>by simp only[ak];exact U4 x.1 (atS h)
def Dc:aN:=spN false true [tR,tR] (fun x=>decide (okR x.1∧okR x.2.1)) (fun x=>[RV.d tR (hid (ai (ae x.1+ae x.2.1)))])
theorem BX:SpK 133 Dc:=spX fun x h=>by simp only[ak];exact WF x.1 x.2.1 (atS h)
def Cs:aN:=spN false true [tR,tR] (fun x=>decide (okR x.1∧okR x.2.1)) (fun x=>[RV.d tR (hid (ai (ae x.1-ae x.2.1)))])
theorem Cd:SpK 132 Cs:=spX fun x h=>by simp only[ak];exact Sw x.1 x.2.1 (atS h)
def wX:aN:=spN false true [tR,tR] (fun x=>decide (okR x.1∧okR x.2.1)) (fun x=>[RV.d tR (hid (ai (ae x.1*ae x.2.1)))])
theorem vc:SpK 94 wX:=spX fun x h=>by simp only[ak];exact Uo x.1 x.2.1 (atS h)
def Cz:aN:=spN false true [tR,tR] (fun x=>decide (fS x.1 x.2.1)) (fun x=>[RV.d tR (hid (ai (ae x.1/ae x.2.1)))])
theorem AX:SpK 193 Cz:=spX fun x h=>by simp only[ak];exact Rz x.1 x.2.1 (atS h)
def tT:Env:=(192,ME)::(133,Dc)::(132,Cs)::(94,wX)::(193,Cz)::nA
theorem m8:EnvAll Tryz.prog tT:=⟨Nk,BX,Cd,vc,AX,iG⟩
def ajz:Ctx:=CX tT []
def Zh(r:BO3)(_k:KT):Option (List RV):=match decide (okR r.1)with|true=>(match decide (okR r.2.1)with|true=>(match decide (okR (hid (ai (ae r.2.1*ae r.2.1)))∧okR r.2.2)with|true=>(match decide (okR (hid (ai (ae r.1*ae r.1)))∧okR (hid (ai (ae (hid (ai (ae r.2.1*ae r.2.1)))*ae r.2.2))))with|true=>some [RV.d tR (hid (ai (ae (hid (ai (ae r.1*ae r.1)))-ae (hid (ai (ae (hid (ai (ae r.2.1*ae r.2.1)))*ae r.2.2))))))]|false=>none)|false=>none)|false=>none)|false=>none
theorem ah7(r:BO3):RS ajz 131 [.d tO r] (Zh r):=rsX
theorem QO(r:BO3)(h:ok Rt 90000 r):Con Tryz.prog 131 [.d tO r] [.d tR (ai (noR (dec r)))]:=by
 refine aP m8 (ah7 _ ⟨0,?_⟩)
 have hr:=h
 obtain⟨r,rfl,br⟩:=aZ hr
 unfold Zh
 simp only[ak,aq,aI,aL,aF,az,aX,atW,atY,Nat.reduceAdd,Nat.reduceLeDiff]
 rfl
def al8:Ctx:=CX tT []
def Yo(l:BO3)(p:BP)(_k:KT):Option (List RV):=match decide (okR l.1∧okR p.1)with|true=>(match decide (okR l.2.1∧okR p.2.2.1)with|true=>(match decide (okR (hid (ai (ae l.1*ae p.1)))∧okR (hid (ai (ae l.2.1*ae p.2.2.1))))with|true=>(match decide (okR (hid (ai (ae (hid (ai (ae l.1*ae p.1)))+ae (hid (ai (ae l.2.1*ae p.2.2.1))))))∧okR l.2.2)with|true=>(match decide (okR l.1∧okR p.2.1)with|true=>(match decide (okR l.2.1∧okR p.2.2.2.1)with|true=>(match decide (okR (hid (ai (ae l.1*ae p.2.1)))∧okR (hid (ai (ae l.2.1*ae p.2.2.2.1))))with|true=>(match decide (ok Rat 100000 (hid (ai (ae (hid (ai (ae (hid (ai (ae l.1*ae p.1)))+ae (hid (ai (ae l.2.1*ae p.2.2.1))))))-ae l.2.2)))∧ok Rat 100000 (hid (ai (ae (hid (ai (ae l.1*ae p.2.1)))+ae (hid (ai (ae l.2.1*ae p.2.2.2.1))))))∧ok Rat 100000 p.2.2.2.2∧0≤ae p.2.2.2.2)with|true=>some [RV.d tO (hid (enc (mkR (ae (hid (ai (ae (hid (ai (ae (hid (ai (ae l.1*ae p.1)))+ae (hid (ai (ae l.2.1*ae p.2.2.1))))))-ae l.2.2)))) (ae (hid (ai (ae (hid (ai (ae l.1*ae p.2.1)))+ae (hid (ai (ae l.2.1*ae p.2.2.2.1))))))) (ae p.2.2.2.2))))]|false=>none)|false=>none)|false=>none)|false=>none)|false=>none)|false=>none)|false=>none)|false=>none
theorem al9(l:BO3)(p:BP):RS al8 66 [.d tO l,.d tP p] (Yo l p):=rsX
theorem Rp(l:BO3)(p:BP)(h:ok Ln 300 l∧okP 4000 p):Con Tryz.prog 66 [.d tO l,.d tP p] [.d tO (enc (GY (dec l) (dec p)))]:=by
 refine aP m8 (al9 _ _ ⟨0,?_⟩)
 obtain⟨hl,hp⟩:=h
 obtain⟨l,rfl,bl⟩:=aZ hl
 obtain⟨p,rfl,bp,rp⟩:=dz hp
 have hn:0≤p.2.2.2.2:=rp.nn
 unfold Yo
 simp only[ak,aq,aI,aL,aF,az,aD,aX,atW,atY,Nat.reduceAdd,Nat.reduceLeDiff,dT hn]
 rfl
def aj7:Ctx:=CX tT []
def So(c:BO3)(p:BP)(_k:KT):Option (List RV):=match decide (okP 3500 p∧ok (Rat×Rat) 300 (c.1,c.2.1))with|true=>(match decide (okR c.2.2)with|true=>(match decide (ok Rt 100000 (hid (enc (sqP (dec p) (dec (c.1,c.2.1)))))∧ok Rat 100000 (hid (ai (-ae c.2.2))))with|true=>some [RV.d tO (hid (enc (arT (dec (hid (enc (sqP (dec p) (dec (c.1,c.2.1)))))) (ae (hid (ai (-ae c.2.2)))))))]|false=>none)|false=>none)|false=>none
theorem akB(c:BO3)(p:BP):RS aj7 179 [.d tO c,.d tP p] (So c p):=rsX
theorem ZD(c:BO3)(p:BP)(h:ok Ln 300 c∧okP 3500 p):Con Tryz.prog 179 [.d tO c,.d tP p] [.d tO (enc (uO (dec c) (dec p)))]:=by
 refine aP m8 (akB _ _ ⟨0,?_⟩)
 obtain⟨hc,hp⟩:=h
 obtain⟨c,rfl,bc⟩:=aZ hc
 obtain⟨p,rfl,bp,rp⟩:=dz hp
 have e0:(dec ((ai c.1,ai c.2.1):BV):Rat×Rat)=ctr c:=aq (ctr c)
 have e1:decide (ok (Rat×Rat) 300 ((ai c.1,ai c.2.1):BV))=true:=okd (x:=ctr c) (by decide) (by decide)
 unfold So
 simp only[ak,aq,aI,aL,aF,az,okd,aD,aX,atW,atY,mx,Nat.reduceAdd,Nat.reduceMul,Nat.reduceLeDiff,at8,cond_true,bG,e0,e1]
 rfl
def K6:aN:=spN false true [tO] (fun x=>decide (ok Rt 90000 x.1)) (fun x=>[RV.d tR (hid (ai (noR (dec x.1))))])
theorem PG:SpK 131 K6:=spX fun x h=>by simp only[ak];exact QO x.1 (atS h)
def KC:aN:=spN false true [tO,tP] (fun x=>decide (ok Ln 300 x.1∧okP 4000 x.2.1)) (fun x=>[RV.d tO (hid (enc (GY (dec x.1) (dec x.2.1))))])
theorem Pa:SpK 66 KC:=spX fun x h=>by simp only[ak];exact Rp x.1 x.2.1 (atS h)
def Lo:aN:=spN false true [tO,tP] (fun x=>decide (ok Ln 300 x.1∧okP 3500 x.2.1)) (fun x=>[RV.d tO (hid (enc (uO (dec x.1) (dec x.2.1))))])
theorem Nw:SpK 179 Lo:=spX fun x h=>by simp only[ak];exact ZD x.1 x.2.1 (atS h)
def DV:Env:=(131,K6)::(66,KC)::(179,Lo)::tT
theorem yc:EnvAll Tryz.prog DV:=⟨PG,Pa,Nw,m8⟩
def aiN:Ctx:=CX DV []
def QH(r:BO3)(_k:KT):Option (List RV):=match decide (okR r.1)with|true=>(match decide (okR r.2.1)with|true=>(match(aS (ae r.1) 0)==(aS (ae r.2.1) 0)with|true=>some [RV.d axf (aS (ae r.1) 0)]|false=>(match(aS (ae r.2.1) 0)==0 with|true=>some [RV.d axf (aS (ae r.1) 0)]|false=>(match(aS (ae r.1) 0)==0 with|true=>some [RV.d axf (aS (ae r.2.1) 0)]|false=>(match decide (ok Rt 90000 r)with|true=>(match decide (okR (hid (ai (noR (dec r)))))with|true=>(match decide ((aS (ae (hid (ai (noR (dec r))))) 0)>0)with|true=>some [RV.d axf (aS (ae r.1) 0)]|false=>some [RV.d axf (aS (ae r.2.1) 0)])|false=>none)|false=>none))))|false=>none)|false=>none
theorem alY(r:BO3):RS aiN 65 [.d tO r] (QH r):=rsX
theorem Q4(r:BO3)(h:okT 90000 r):Con Tryz.prog 65 [.d tO r] [.d axf (sgR (dec r))]:=by
 refine aP yc (alY _ ⟨0,?_⟩)
 have hr:=h
 obtain⟨r,rfl,br,rr⟩:=ks hr
 unfold QH
 simp only[ak,aq,aI,aL,aF,az,okd,aX,Nat.reduceAdd,Nat.reduceMul,Nat.reduceLeDiff,aE,aM]
 rw[an0 rr]
 by_cases hb:r.2.1=0
 ·rw[atT hb,hb,dY]
  by_cases ha:aS r.1 0=0
  ·rw[ha];rfl
  ·rw[show(aS r.1 0==0)=false by simp[ha]];rfl
 ·have hn:=aji rr hb
  have e2:=yr hn
  have hb2:=yr hb
  rw[atV hb,show(aS r.2.1 0==0)=false by rw[aE,atV hb]]
  by_cases ha:r.1=0
  ·rw[atT ha,ha,dY,show((0:Int)==aS r.2.1 0)=false by rw[hb2];split<;>rfl]
   rfl
  ·have ha2:=yr ha
   rw[atV ha,show(aS r.1 0==0)=false by rw[aE,atV ha]]
   cases hq:(aS r.1 0==aS r.2.1 0)
   ·have hne:aS r.1 0≠aS r.2.1 0:=by simpa using hq
    rw[e2]
    by_cases hp:0<noR r
    ·rw[atT hp,auv hp,awk]
     rfl
    ·rw[atV hp,aum hp]
     show some [RV.d axf (aS r.2.1 0)]=some [RV.d axf (aS r.1 0* -1)]
     rw[show aS r.2.1 0=aS r.1 0* -1 by
      rw[ha2,hb2]at hne ⊢
      split at hne<;>split at hne<;>simp_all]
   ·rfl
def Mw:aN:=spN true true [tO] (fun x=>decide (okT 90000 x.1)) (fun x=>[RV.d axf (sgR (dec x.1))])
theorem NJ:SpK 65 Mw:=spX fun x h=>Q4 x.1 (atS h)
def DH:Env:=(65,Mw)::DV
theorem xy:EnvAll Tryz.prog DH:=⟨NJ,yc⟩
def aiS:Ctx:=CX DH []
def Yn(l:BO3)(p:BP)(_k:KT):Option (List RV):=match decide (ok Ln 300 l∧okP 4000 p)with|true=>(match decide (okT 90000 (hid (enc (GY (dec l) (dec p)))))with|true=>some [RV.d axf (sgR (dec (hid (enc (GY (dec l) (dec p))))))]|false=>none)|false=>none
theorem ajw(l:BO3)(p:BP):RS aiS 25 [.d tO l,.d tP p] (Yn l p):=rsX
theorem Wh(l:BO3)(p:BP)(h:ok Ln 300 l∧okP 4000 p):Con Tryz.prog 25 [.d tO l,.d tP p] [.d axf (rE (dec l) (dec p))]:=by
 refine aP xy (ajw _ _ ⟨0,?_⟩)
 obtain⟨hl,hp⟩:=h
 obtain⟨l,rfl,bl⟩:=aZ hl
 obtain⟨p,rfl,bp,rp⟩:=dz hp
 unfold Yn
 simp only[ak,aq,okd,atW,atY,Nat.reduceAdd,Nat.reduceMul,Nat.reduceLeDiff,bH,bG]
 rw[adf]
def alu:Ctx:=CX DH []
def S9(c:BO3)(p:BP)(_k:KT):Option (List RV):=match decide (ok Ln 300 c∧okP 3500 p)with|true=>(match decide (okT 90000 (hid (enc (uO (dec c) (dec p)))))with|true=>some [RV.d axf (i64.wrap (0-(sgR (dec (hid (enc (uO (dec c) (dec p))))))))]|false=>none)|false=>none
theorem aih(c:BO3)(p:BP):RS alu 111 [.d tO c,.d tP p] (S9 c p):=rsX
theorem TL(c:BO3)(p:BP)(h:ok Ln 300 c∧okP 3500 p):Con Tryz.prog 111 [.d tO c,.d tP p] [.d axf (m9 (dec c) (dec p))]:=by
 refine aP xy (aih _ _ ⟨0,?_⟩)
 obtain⟨hc,hp⟩:=h
 obtain⟨c,rfl,bc⟩:=aZ hc
 obtain⟨p,rfl,bp,rp⟩:=dz hp
 have hr:Rdd (uO c p):=inferInstanceAs (Rdd (arT (sqP p (ctr c)) (-c.2.2)))
 have br:Bd (uO c p) 90000:=(inferInstance:Bd (arT (sqP p (ctr c)) (-c.2.2)) _).mono (by decide)
 have hb: -1≤sgR (uO c p)∧sgR (uO c p)≤1:=lg _ _ _
 unfold S9
 simp only[ak,aq,okd,atW,atY,Nat.reduceLeDiff,bH,bG,avY,bz (x:= -sgR (uO c p)) (by omega) (by omega)]
 rw[ZQ]
def LP:aN:=spN true true [tO,tP] (fun x=>decide (ok Ln 300 x.1∧okP 4000 x.2.1)) (fun x=>[RV.d axf (rE (dec x.1) (dec x.2.1))])
theorem Od:SpK 25 LP:=spX fun x h=>Wh x.1 x.2.1 (atS h)
def Lu:aN:=spN true true [tO,tP] (fun x=>decide (ok Ln 300 x.1∧okP 3500 x.2.1)) (fun x=>[RV.d axf (m9 (dec x.1) (dec x.2.1))])
theorem NN:SpK 111 Lu:=spX fun x h=>TL x.1 x.2.1 (atS h)
abbrev tCU:Ty:=.st (.pair .bool (.pair tO (.pair tO (.pair .bool (.pair tP tP)))))
abbrev BCU:=Bool×BO3×BO3×Bool×BP×BP
abbrev Cv:=Bool×Ln×Ln×Bool×Pt×Pt
def dC(c:BCU):Cv:=(c.1,dec c.2.1,dec c.2.2.1,c.2.2.2.1,dec c.2.2.2.2.1,dec c.2.2.2.2.2)
def AC(x:BO3):Prop:=ok Ln 300 x∧(0:Rat)<(dec x:Ln).2.2
instance (x:BO3):Decidable (AC x):=by unfold AC;infer_instance
def abf(x:BO3):Prop:=ok Ln 300 x∧((dec x:Ln).1≠0∨(dec x:Ln).2.1≠0)
instance (x:BO3):Decidable (abf x):=by unfold abf;infer_instance
def okC(k:Nat)(c:BCU):Prop:=(c.1=true→AC c.2.2.1)∧(c.1=false→abf c.2.1)∧okP k c.2.2.2.2.1∧okP k c.2.2.2.2.2
instance (k:Nat) (c:BCU):Decidable (okC k c):=by unfold okC;infer_instance
def frC(c:Cv):Pt:=c.2.2.2.2.1
def toC(c:Cv):Pt:=c.2.2.2.2.2
def lnC(c:Cv):Ln:=c.2.1
def ciC(c:Cv):Ln:=c.2.2.1
def cwC(c:Cv):Bool:=c.2.2.2.1
def fE(c:Cv)(p:Pt):Bool:=bif c.1 then m9 (ciC c) p==0 else rE (lnC c) p==0
def upR(c:Ln)(p:Pt):Bool:=decide (gk (yP p) c.2.1>0)||(gk (yP p) c.2.1==0&&decide (gk (xP p) c.1>0))
def ptd(c:Ln)(p:Pt):Bool×Rt:=(upR c p,xP p)
def D8(c:Ln)(p:Pt):Int:=bif upR c p then 0 else 1
def ccF(c:Cv):Pt:=bif cwC c then toC c else frC c
def ccT(c:Cv):Pt:=bif cwC c then frC c else toC c
def gI(c:Cv)(p:Pt):Bool:=bif c.1 then decide (eU bR (ptd (ciC c) (ccF c)) (ptd (ciC c) p) (ptd (ciC c) (ccT c))≤0)else Az (aW (frC c) p) (aW p (toC c))
def onP(c:Cv)(p:Pt):Bool:=fE c p&&gI c p
def da(c:BCU):BCU:=(c.1,c.2.1,c.2.2.1,c.1&&!c.2.2.2.1,c.2.2.2.2.2,c.2.2.2.2.1)
def dP(c:BCU):BCU:=bif c.2.2.2.1 then da c else c
def flP(p:Pt):Pt:=(-p.1,-p.2.1,p.2.2.1,p.2.2.2.1,p.2.2.2.2)
def flC(c:Ln):Ln:=(-c.1,c.2.1,c.2.2)
def cd(c:Cv)(p q:Pt):Int:=bif c.1 then(bif cwC c then jy bR (ptd (flC (ciC c)) (flP (frC c))) (ptd (flC (ciC c)) (flP p)) (ptd (flC (ciC c)) (flP q))else jy bR (ptd (ciC c) (frC c)) (ptd (ciC c) p) (ptd (ciC c) q))
 else(bif decide (aW (frC c) (toC c)>0)then-aW p q else aW p q)
def onR(c:Cv)(p:Pt):Bool:=fE c p&&(decide (cd c (frC c) p≤0)&&decide (cd c p (toC c)≤0))
theorem IM(k:Nat){c:BCU}(h:okC k c):okC k (da c):=⟨h.1,h.2.1,h.2.2.2,h.2.2.1⟩
theorem lj(p q:Pt): -1≤aW p q∧aW p q≤1:=by
 unfold aW
 cases bR (xP p) (xP q)==0
 ·exact w9 _ _
 ·exact w9 _ _
theorem MI{p q:Bool×Rt}:0≤nE bR p q∧nE bR p q≤2:=by
 unfold nE
 cases qV bR q p==0<;>cases decide (qV bR q p>0)<;>simp only[cond_true,cond_false]<;>omega
def ww(c:BCU):BCU:=(c.1,c.2.1,(ai (-ae c.2.2.1.1),c.2.2.1.2),!c.2.2.2.1,enc (flP (dec c.2.2.2.2.1)),enc (flP (dec c.2.2.2.2.2)))
instance atC {p:Pt} [h:Rpd p]:Rpd (flP p):=by
 refine⟨?_⟩
 have:=h.rd
 unfold IE flP at*
 simp only
 have e:(-p.2.1=0)↔p.2.1=0:=by constructor<;>intro h<;>grind
 rw[e]
 exact this
instance atz {p:Pt} {j:Nat} [h:Bd p j]:Bd (flP p) j:=by
 have i1:Bd ((-p.1,-p.2.1,p.2.2.1,p.2.2.2.1,p.2.2.2.2):Pt) _:=inferInstance
 exact i1.mono (kE (by omega) (kE (by omega) (kE (by omega) (kE (by omega) (by omega)))))
theorem qg{j k:Nat}{x:BP}(h:okP j x)(hj:j≤k)(hk:k≤480000):okP k x:=by
 obtain⟨p,rfl,bp,rp⟩:=dz h
 exact atS (bG hj hk)
theorem O3{j k:Nat}{c:BCU}(h:okC j c)(hj:j≤k)(hk:k≤480000):okC k c:=⟨h.1,h.2.1,qg h.2.2.1 hj hk,qg h.2.2.2 hj hk⟩
theorem JI{x:BP}(h:okP 4000 x):okP 4000 (enc (flP (dec x))):=by
 obtain⟨p,rfl,bp,rp⟩:=dz h
 rw[aq]
 exact atS (bG (x:=flP p) (by decide) (by decide))
theorem al1{x:BO3}(h:ok Ln 300 x):ok Ln 300 ((ai (-ae x.1),x.2):BO3)∧(dec ((ai (-ae x.1),x.2):BO3):Ln)=flC (dec x):=by
 obtain⟨l,rfl,bl⟩:=aZ h
 have e:((ai (-ae (enc l:BO3).1),(enc l:BO3).2):BO3)=enc (flC l):=by
  rw[aI,aF,az]
  rfl
 rw[e,aq,aq]
 refine⟨?_,rfl⟩
 have i1:Bd (flC l) 300:=(inferInstance:Bd ((-l.1,l.2.1,l.2.2):Ln) _).mono (by decide)
 exact atS (okd (x:=flC l) (at5 _) (by decide))
def A0:Env:=[(169,qw),(90,xo),(267,Du),(40,CD),(115,H6),(51,qD),(25,LP),(111,Lu)]
theorem pe:EnvAll Tryz.prog A0:=⟨ma,wa,AF,Ag,EM,mv,Od,NN,trivial⟩
def apM:Ctx:=CX A0 []
def aeV(c:BCU)(p:BP)(_k:KT):Option (List RV):=match c.1 with|true=>(match decide (ok Ln 300 c.2.2.1∧okP 3500 p)with|true=>some [RV.d .bool ((m9 (dec c.2.2.1) (dec p))==0)]|false=>none)|false=>(match decide (ok Ln 300 c.2.1∧okP 4000 p)with|true=>some [RV.d .bool ((rE (dec c.2.1) (dec p))==0)]|false=>none)
theorem aq8(c:BCU)(p:BP):RS apM 49 [.d tCU c,.d tP p] (aeV c p):=rsX
theorem aba(c:BCU)(p:BP)(h:okC 3500 c∧okP 3500 p):Con Tryz.prog 49 [.d tCU c,.d tP p] [.d .bool (fE (dC c) (dec p))]:=by
 refine aP pe (aq8 _ _ ⟨0,?_⟩)
 obtain⟨hc,hp⟩:=h
 have op:decide (okP 3500 p)=true:=atT hp
 have op4:decide (okP 4000 p)=true:=atT (qg hp (by decide) (by decide))
 obtain⟨ar,li,ci,cw,fr,to⟩:=c
 obtain⟨c1,c2,_⟩:=hc
 unfold aeV
 cases ar
 ·have e:=(c2 rfl).1
  simp only[atW,dT e,op4,atY]
  rfl
 ·have e:=(c1 rfl).1
  simp only[atW,dT e,op,atY]
  rfl
def arw:Ctx:=CX A0 []
def afP(c:BO3)(p:BP)(_k:KT):Option (List RV):=match decide (okP 4000 p)with|true=>(match decide (okT 15000 (hid (enc (yP (dec p))))∧ok Rat 15000 c.2.1)with|true=>(match decide ((gk (dec (hid (enc (yP (dec p))))) (ae c.2.1))>0)with|true=>some [RV.d .bool true]|false=>(match(gk (dec (hid (enc (yP (dec p))))) (ae c.2.1))==0 with|true=>(match decide (okP 4000 p)with|true=>(match decide (okT 15000 (hid (enc (xP (dec p))))∧ok Rat 15000 c.1)with|true=>some [RV.d .bool (decide ((gk (dec (hid (enc (xP (dec p))))) (ae c.1))>0))]|false=>none)|false=>none)|false=>some [RV.d .bool false]))|false=>none)|false=>none
theorem arn(c:BO3)(p:BP):RS arw 236 [.d tO c,.d tP p] (afP c p):=rsX
theorem ZZ(c:BO3)(p:BP)(h:ok Ln 300 c∧okP 4000 p):Con Tryz.prog 236 [.d tO c,.d tP p] [.d .bool (upR (dec c) (dec p))]:=by
 refine aP pe (arn _ _ ⟨0,?_⟩)
 obtain⟨hc,hp⟩:=h
 obtain⟨c,rfl,bc⟩:=aZ hc
 obtain⟨p,rfl,bp,rp⟩:=dz hp
 unfold afP upR
 simp only[ak,aq,aI,aL,aF,az,aD,atW,atY,mx,Nat.reduceLeDiff,at8,cond_true,bH,bG]
 cases decide (gk (yP p) c.2.1>0)<;>cases gk (yP p) c.2.1==0<;>rfl
def aqj:Ctx:=CX A0 []
def ahr(p:BP)(_k:KT):Option (List RV):=match decide (okR p.1)with|true=>(match decide (okR p.2.1)with|true=>some [RV.d tP (hid (ai (-ae p.1)),(hid (ai (-ae p.2.1)),p.2.2))]|false=>none)|false=>none
theorem anX(p:BP):RS aqj 114 [.d tP p] (ahr p):=rsX
theorem ZW(p:BP)(h:okP 4000 p):Con Tryz.prog 114 [.d tP p] [.d tP (enc (flP (dec p)))]:=by
 refine aP pe (anX _ ⟨0,?_⟩)
 have hp:=h
 obtain⟨p,rfl,bp,rp⟩:=dz hp
 unfold ahr
 simp only[ak,aq,aI,aL,aF,az,aX,Nat.reduceLeDiff]
 rfl
def am5:Ctx:=CX A0 []
def aoK(c:BCU)(_k:KT):Option (List RV):=match c.1 with|true=>some [RV.d tCU (c.1,(c.2.1,(c.2.2.1,(!c.2.2.2.1,(c.2.2.2.2.2,c.2.2.2.2.1)))))]|false=>some [RV.d tCU (c.1,(c.2.1,(c.2.2.1,(false,(c.2.2.2.2.2,c.2.2.2.2.1)))))]
theorem arU(c:BCU):RS am5 21 [.d tCU c] (aoK c):=rsX
theorem aad(c:BCU):Con Tryz.prog 21 [.d tCU c] [.d tCU (da c)]:=by
 refine aP pe (arU _ ⟨0,?_⟩)
 obtain⟨ar,li,ci,cw,fr,to⟩:=c
 cases ar<;>rfl
def UB:aN:=spN true true [tCU,tP] (fun x=>decide (okC 3500 x.1∧okP 3500 x.2.1)) (fun x=>[RV.d .bool (fE (dC x.1) (dec x.2.1))])
theorem Xf:SpK 49 UB:=spX fun x h=>aba x.1 x.2.1 (atS h)
def VR:aN:=spN true true [tO,tP] (fun x=>decide (ok Ln 300 x.1∧okP 4000 x.2.1)) (fun x=>[RV.d .bool (upR (dec x.1) (dec x.2.1))])
theorem XY:SpK 236 VR:=spX fun x h=>ZZ x.1 x.2.1 (atS h)
def Uv:aN:=spN false true [tP] (fun x=>decide (okP 4000 x.1)) (fun x=>[RV.d tP (hid (enc (flP (dec x.1))))])
theorem UF:SpK 114 Uv:=spX fun x h=>by simp only[ak];exact ZW x.1 (atS h)
def yE:aN:=spN false true [tCU] (fun _=>true) (fun x=>[RV.d tCU (hid (da x.1))])
theorem tY:SpK 21 yE:=spX fun x _=>by simp only[ak];exact aad x.1
def Lz:Env:=(49,UB)::(236,VR)::(114,Uv)::(21,yE)::A0
theorem zl:EnvAll Tryz.prog Lz:=⟨Xf,XY,UF,tY,pe⟩
def aq9:Ctx:=CX Lz []
def afw(c:BO3)(p q:BP)(_k:KT):Option (List RV):=match decide (ok Ln 300 c∧okP 4000 p)with|true=>(match decide (ok Ln 300 c∧okP 4000 q)with|true=>(match !((upR (dec c) (dec p))==(upR (dec c) (dec q)))with|true=>(match upR (dec c) (dec q)with|true=>some [RV.d axf (-1)]|false=>some [RV.d axf 1])|false=>(match decide (okP 4000 p)with|true=>(match decide (okP 4000 q)with|true=>(match decide (okT 15000 (hid (enc (xP (dec p))))∧okT 15000 (hid (enc (xP (dec q)))))with|true=>(match upR (dec c) (dec p)with|true=>some [RV.d axf (i64.wrap (0-(bR (dec (hid (enc (xP (dec p))))) (dec (hid (enc (xP (dec q))))))))]|false=>some [RV.d axf (bR (dec (hid (enc (xP (dec p))))) (dec (hid (enc (xP (dec q))))))])|false=>none)|false=>none)|false=>none))|false=>none)|false=>none
theorem arv(c:BO3)(p q:BP):RS aq9 180 [.d tO c,.d tP p,.d tP q] (afw c p q):=rsX
theorem adq(c:BO3)(p q:BP)(h:ok Ln 300 c∧okP 4000 p∧okP 4000 q):Con Tryz.prog 180 [.d tO c,.d tP p,.d tP q] [.d axf (jb bR (ptd (dec c) (dec p)) (ptd (dec c) (dec q)))]:=by
 refine aP zl (arv _ _ _ ⟨0,?_⟩)
 obtain⟨hc,hp,hq⟩:=h
 obtain⟨c,rfl,bc⟩:=aZ hc
 obtain⟨p,rfl,bp,rp⟩:=dz hp
 obtain⟨q,rfl,bq,rq⟩:=dz hq
 have xb:=w9 (xP p) (xP q)
 unfold afw
 simp only[ak,aq,okd,atW,atY,mx,Nat.reduceLeDiff,at8,cond_true,bH,bG,bz (x:= -bR (xP p) (xP q)) (by omega) (by omega),avY]
 unfold jb ptd
 cases upR c p<;>cases upR c q<;>rfl
def amO:Ctx:=CX Lz []
def ag9(c:BCU)(_k:KT):Option (List RV):=match decide (okR c.2.2.1.1)with|true=>(match decide (okP 4000 c.2.2.2.2.1)with|true=>(match decide (okP 4000 c.2.2.2.2.2)with|true=>some [RV.d tCU (c.1,(c.2.1,((hid (ai (-ae c.2.2.1.1)),c.2.2.1.2),(!c.2.2.2.1,(hid (enc (flP (dec c.2.2.2.2.1))),hid (enc (flP (dec c.2.2.2.2.2))))))))]|false=>none)|false=>none)|false=>none
theorem aoI(c:BCU):RS amO 113 [.d tCU c] (ag9 c):=rsX
theorem aby(c:BCU)(h:AC c.2.2.1∧okP 4000 c.2.2.2.2.1∧okP 4000 c.2.2.2.2.2):Con Tryz.prog 113 [.d tCU c] [.d tCU (ww c)]:=by
 refine aP zl (aoI _ ⟨0,?_⟩)
 obtain⟨hc,hf,ht⟩:=h
 have e:okR c.2.2.1.1:=by
  obtain⟨l,hl,bl⟩:=aZ hc.1
  rw[hl,aI,aF]
  exact atS (aX (q:=l.1) (by decide))
 unfold ag9
 rw[dT e,dT hf,dT ht]
 simp only[ak]
 rfl
def VZ:aN:=spN true true [tO,tP,tP] (fun x=>decide (ok Ln 300 x.1∧okP 4000 x.2.1∧okP 4000 x.2.2.1)) (fun x=>[RV.d axf (jb bR (ptd (dec x.1) (dec x.2.1)) (ptd (dec x.1) (dec x.2.2.1)))])
theorem Rh:SpK 180 VZ:=spX fun x h=>adq x.1 x.2.1 x.2.2.1 (atS h)
def Ud:aN:=spN false true [tCU] (fun x=>decide (AC x.1.2.2.1∧okP 4000 x.1.2.2.2.2.1∧okP 4000 x.1.2.2.2.2.2)) (fun x=>[RV.d tCU (hid (ww x.1))])
theorem Zo:SpK 113 Ud:=spX fun x h=>by simp only[ak];exact aby x.1 (atS h)
def XC:Env:=(180,VZ)::(113,Ud)::Lz
theorem Gh:EnvAll Tryz.prog XC:=⟨Rh,Zo,zl⟩
def aoe:Ctx:=CX XC []
def afX(c:BO3)(f p q:BP)(_k:KT):Option (List RV):=match decide (ok Ln 300 c∧okP 4000 p∧okP 4000 f)with|true=>(match decide (ok Ln 300 c∧okP 4000 q∧okP 4000 f)with|true=>(match !((decide ((jb bR (ptd (dec c) (dec p)) (ptd (dec c) (dec f)))<0))==(decide ((jb bR (ptd (dec c) (dec q)) (ptd (dec c) (dec f)))<0)))with|true=>(match decide ((jb bR (ptd (dec c) (dec q)) (ptd (dec c) (dec f)))<0)with|true=>some [RV.d axf (-1)]|false=>some [RV.d axf 1])|false=>(match decide (ok Ln 300 c∧okP 4000 p∧okP 4000 q)with|true=>some [RV.d axf (jb bR (ptd (dec c) (dec p)) (ptd (dec c) (dec q)))]|false=>none))|false=>none)|false=>none
theorem aqd(c:BO3)(f p q:BP):RS aoe 112 [.d tO c,.d tP f,.d tP p,.d tP q] (afX c f p q):=rsX
theorem aac(c:BO3)(f p q:BP)(h:ok Ln 300 c∧okP 4000 f∧okP 4000 p∧okP 4000 q):Con Tryz.prog 112 [.d tO c,.d tP f,.d tP p,.d tP q] [.d axf (jy bR (ptd (dec c) (dec f)) (ptd (dec c) (dec p)) (ptd (dec c) (dec q)))]:=by
 refine aP Gh (aqd _ _ _ _ ⟨0,?_⟩)
 obtain⟨hc,hf,hp,hq⟩:=h
 unfold afX jy
 rw[dT (show ok Ln 300 c∧okP 4000 p∧okP 4000 f from⟨hc,hp,hf⟩),dT (show ok Ln 300 c∧okP 4000 q∧okP 4000 f from⟨hc,hq,hf⟩),dT (show ok Ln 300 c∧okP 4000 p∧okP 4000 q from⟨hc,hp,hq⟩)]
 dsimp only
 cases decide (jb bR (ptd (dec c) (dec p)) (ptd (dec c) (dec f))<0)<;>cases decide (jb bR (ptd (dec c) (dec q)) (ptd (dec c) (dec f))<0)<;>rfl
def Xc:aN:=spN true true [tO,tP,tP,tP] (fun x=>decide (ok Ln 300 x.1∧okP 4000 x.2.1∧okP 4000 x.2.2.1∧okP 4000 x.2.2.2.1)) (fun x=>[RV.d axf (jy bR (ptd (dec x.1) (dec x.2.1)) (ptd (dec x.1) (dec x.2.2.1)) (ptd (dec x.1) (dec x.2.2.2.1)))])
theorem Y7:SpK 112 Xc:=spX fun x h=>aac x.1 x.2.1 x.2.2.1 x.2.2.2.1 (atS h)
def Qq:Env:=(112,Xc)::XC
theorem F5:EnvAll Tryz.prog Qq:=⟨Y7,Gh⟩
def anY:Ctx:=CX Qq []
def aeC(c:BCU)(p q:BP)(_k:KT):Option (List RV):=match !c.1 with|true=>(match decide (okP 4000 p∧okP 4000 q)with|true=>(match decide (okP 4000 c.2.2.2.2.1∧okP 4000 c.2.2.2.2.2)with|true=>(match decide ((aW (dec c.2.2.2.2.1) (dec c.2.2.2.2.2))>0)with|true=>some [RV.d axf (i64.wrap (0-(aW (dec p) (dec q))))]|false=>some [RV.d axf (aW (dec p) (dec q))])|false=>none)|false=>none)|false=>(match !c.2.2.2.1 with|true=>(match decide (ok Ln 300 c.2.2.1∧okP 4000 c.2.2.2.2.1∧okP 4000 p∧okP 4000 q)with|true=>some [RV.d axf (jy bR (ptd (dec c.2.2.1) (dec c.2.2.2.2.1)) (ptd (dec c.2.2.1) (dec p)) (ptd (dec c.2.2.1) (dec q)))]|false=>none)|false=>(match decide (AC c.2.2.1∧okP 4000 c.2.2.2.2.1∧okP 4000 c.2.2.2.2.2)with|true=>(match decide (okP 4000 p)with|true=>(match decide (okP 4000 q)with|true=>(match decide (ok Ln 300 ((((hid (ww c)).2).2).1)∧okP 4000 ((((((hid (ww c)).2).2).2).2).1)∧okP 4000 (hid (enc (flP (dec p))))∧okP 4000 (hid (enc (flP (dec q)))))with|true=>some [RV.d axf (jy bR (ptd (dec ((((hid (ww c)).2).2).1)) (dec ((((((hid (ww c)).2).2).2).2).1))) (ptd (dec ((((hid (ww c)).2).2).1)) (dec (hid (enc (flP (dec p)))))) (ptd (dec ((((hid (ww c)).2).2).1)) (dec (hid (enc (flP (dec q)))))))]|false=>none)|false=>none)|false=>none)|false=>none))
theorem aob(c:BCU)(p q:BP):RS anY 50 [.d tCU c,.d tP p,.d tP q] (aeC c p q):=rsX
theorem ad2(c:BCU)(p q:BP)(h:okC 4000 c∧okP 4000 p∧okP 4000 q):Con Tryz.prog 50 [.d tCU c,.d tP p,.d tP q] [.d axf (cd (dC c) (dec p) (dec q))]:=by
 refine aP F5 (aob _ _ _ ⟨0,?_⟩)
 obtain⟨hc,hp,hq⟩:=h
 have xb:=lj (dec p) (dec q)
 obtain⟨ar,li,ci,cw,fr,to⟩:=c
 obtain⟨c1,c2,c3,c4⟩:=hc
 simp only at c1 c2 c3 c4
 unfold aeC cd
 cases ar
 ·simp only[avY,bz (x:= -aW (dec p) (dec q)) (by omega) (by omega),dT (show okP 4000 p∧okP 4000 q from⟨hp,hq⟩),dT (show okP 4000 fr∧okP 4000 to from⟨c3,c4⟩),Bool.not_false]
  simp only[dC,frC,toC,cond_false]
  by_cases hd:aW (dec fr) (dec to)>0
  ·simp[hd]
  ·simp[hd]
 ·have e:=(c1 rfl).1
  have hci:=c1 rfl
  obtain⟨f1,f2⟩:=al1 e
  cases cw
  ·simp only[dT (show ok Ln 300 ci∧okP 4000 fr∧okP 4000 p∧okP 4000 q from⟨e,c3,hp,hq⟩),Bool.not_true,Bool.not_false]
   rfl
  ·have hm:ok Ln 300 (ww (true,li,ci,true,fr,to)).2.2.1∧okP 4000 (ww (true,li,ci,true,fr,to)).2.2.2.2.1∧okP 4000 (enc (flP (dec p)))∧okP 4000 (enc (flP (dec q))):=⟨f1,JI c3,JI hp,JI hq⟩
   have m1:(dec (ww (true,li,ci,true,fr,to)).2.2.1:Ln)=flC (dec ci):=f2
   have m2:(dec (ww (true,li,ci,true,fr,to)).2.2.2.2.1:Pt)=flP (dec fr):=aq _
   simp only[ak,dT (show AC ci∧okP 4000 fr∧okP 4000 to from⟨hci,c3,c4⟩),dT hp,dT hq,dT hm,Bool.not_true,m1,m2,aq]
   rfl
def vV:aN:=spN true true [tCU,tP,tP] (fun x=>decide (okC 4000 x.1∧okP 4000 x.2.1∧okP 4000 x.2.2.1)) (fun x=>[RV.d axf (cd (dC x.1) (dec x.2.1) (dec x.2.2.1))])
theorem pE:SpK 50 vV:=spX fun x h=>ad2 x.1 x.2.1 x.2.2.1 (atS h)
def af4:Env:=(50,vV)::Qq
theorem Uy:EnvAll Tryz.prog af4:=⟨pE,F5⟩
def asi:Ctx:=CX af4 []
def aeM(c:BCU)(p:BP)(_k:KT):Option (List RV):=match decide (okC 3500 c∧okP 3500 p)with|true=>(match fE (dC c) (dec p)with|true=>(match decide (okC 4000 c∧okP 4000 c.2.2.2.2.1∧okP 4000 p)with|true=>(match decide ((cd (dC c) (dec c.2.2.2.2.1) (dec p))≤0)with|true=>(match decide (okC 4000 c∧okP 4000 p∧okP 4000 c.2.2.2.2.2)with|true=>some [RV.d .bool (decide ((cd (dC c) (dec p) (dec c.2.2.2.2.2))≤0))]|false=>none)|false=>some [RV.d .bool false])|false=>none)|false=>some [RV.d .bool false])|false=>none
theorem apo(c:BCU)(p:BP):RS asi 15 [.d tCU c,.d tP p] (aeM c p):=rsX
theorem ac3(c:BCU)(p:BP)(h:okC 3500 c∧okP 3500 p):Con Tryz.prog 15 [.d tCU c,.d tP p] [.d .bool (onR (dC c) (dec p))]:=by
 refine aP Uy (apo _ _ ⟨0,?_⟩)
 obtain⟨hc,hp⟩:=h
 have hc4:=O3 (k:=4000) hc (by decide) (by decide)
 have hp4:=qg (k:=4000) hp (by decide) (by decide)
 unfold aeM onR
 rw[dT (show okC 3500 c∧okP 3500 p from⟨hc,hp⟩),dT (show okC 4000 c∧okP 4000 c.2.2.2.2.1∧okP 4000 p from⟨hc4,hc4.2.2.1,hp4⟩),dT (show okC 4000 c∧okP 4000 p∧okP 4000 c.2.2.2.2.2 from⟨hc4,hp4,hc4.2.2.2⟩)]
 dsimp only
 cases fE (dC c) (dec p)
 ·rfl
 ·show(match decide (cd (dC c) (frC (dC c)) (dec p)≤0)with|true=>some [RV.d .bool (decide (cd (dC c) (dec p) (toC (dC c))≤0))]|false=>some [RV.d .bool false])=_
  cases decide (cd (dC c) (frC (dC c)) (dec p)≤0)<;>rfl
def uC:aN:=spN true true [tCU,tP] (fun x=>decide (okC 3500 x.1∧okP 3500 x.2.1)) (fun x=>[RV.d .bool (onR (dC x.1) (dec x.2.1))])
theorem pK:SpK 15 uC:=spX fun x h=>ac3 x.1 x.2.1 (atS h)
section
namespace RE
theorem YL{u v:RE}:cls u v=2↔v=0∧¬0<u:=by
 unfold cls
 rcases dB v with⟨a,h1⟩|⟨a,h1⟩|⟨a,h1⟩<;>rcases dB u with⟨b,h2⟩|⟨b,h2⟩|⟨b,h2⟩<;>rw[h1,h2]
 all_goals first
  |exact⟨fun _=>⟨a,fun h=>by rw[b]at h;exact lt_irrefl _ h⟩,fun _=>rfl⟩
  |exact⟨fun _=>⟨a,fun h=>lt_irrefl _ (fN h b)⟩,fun _=>rfl⟩
  |(refine⟨fun h=>absurd h (by decide),fun h=>?_⟩;first|(rw[h.1]at a;exact absurd a (lt_irrefl _))|exact absurd b h.2)
theorem Be{u v Q:RE}(hQ:0<Q)(h:u*u+v*v=Q)(hv:v=0)(hu:¬0<u):u<0:=by
 rcases ow u 0 with e|e|e
 ·exact e
 ·rw[e,hv,mul_zero,add_zero]at h
  rw[←h]at hQ
  exact absurd hQ (lt_irrefl _)
 ·exact absurd e hu
theorem NL(u w Q:RE):((u-(0))*(u-(w)))+((w-(0))*(u-(w)))+((Q-(u*u)))+((w*w-(Q)))=0:=by
 induction u using atR
 induction w using atR
 induction Q using atR
 exact snd fun n=>by
  simp only[RL.add,RL.mul,RL.neg,RL.const]
  grind
theorem J2(u w Q:RE)(h1:u*u=Q)(h2:w*w=Q)(h3:0<u)(h4:0<w):u≤w:=fun hg=>far (aU (aU (aU (mul_pos (a8 h3) (a8 hg)) (le_of_lt (mul_pos (a8 h4) (a8 hg)))) (aR (jH h1))) (aR (ji h2))) (NL u w Q)
theorem OU(u w Q:RE):((0-(u))*(u-(w)))+((0-(w))*(u-(w)))+((u*u-(Q)))+((Q-(w*w)))=0:=by
 induction u using atR
 induction w using atR
 induction Q using atR
 exact snd fun n=>by
  simp only[RL.add,RL.mul,RL.neg,RL.const]
  grind
theorem Kr(u w Q:RE)(h1:u*u=Q)(h2:w*w=Q)(h3:u<0)(h4:w<0):u≤w:=fun hg=>far (aU (aU (aU (mul_pos (a8 h3) (a8 hg)) (le_of_lt (mul_pos (a8 h4) (a8 hg)))) (aR (ji h1))) (aR (jH h2))) (OU u w Q)
theorem Jf(x y c:RE):((y-c-(x-c)))+((x-(y)))=0:=by
 induction x using atR
 induction y using atR
 induction c using atR
 exact snd fun n=>by
  simp only[RL.add,RL.neg,RL.const]
  grind
theorem Gw(x y c:RE)(h1:x-c<y-c):x<y:=iK.1 fun hg=>far (aU (a8 h1) (aR hg)) (Jf x y c)
theorem GM(x y c:RE):((x-(y)))+((y-c-(x-c)))=0:=by
 induction x using atR
 induction y using atR
 induction c using atR
 exact snd fun n=>by
  simp only[RL.add,RL.neg,RL.const]
  grind
theorem Pc(x y c:RE)(h1:x-c=y-c):x≤y:=fun hg=>far (aU (a8 hg) (aR (jH h1))) (GM x y c)
theorem EJ(x y c:RE):((y-(x)))+((x-c-(y-c)))=0:=by
 induction x using atR
 induction y using atR
 induction c using atR
 exact snd fun n=>by
  simp only[RL.add,RL.neg,RL.const]
  grind
theorem Ph(x y c:RE)(h1:x-c=y-c):y≤x:=fun hg=>far (aU (a8 hg) (aR (ji h1))) (EJ x y c)
theorem sI(x y c:RE)(h1:x-c=y-c):x=y:=le_antisymm (Pc x y c h1) (Ph x y c h1)
theorem Fw(x c:RE): -x- -c= -(x-c):=by
 induction x using atR
 induction c using atR
 exact snd fun n=>by
  simp only[RL.add,RL.neg]
  grind
theorem ab6(x y:RE): -x- -y=y-x:=by
 induction x using atR
 induction y using atR
 exact snd fun n=>by
  simp only[RL.add,RL.neg]
  grind
theorem alT(a b r:RE): -a+ -b*r= -(a+b*r):=by
 induction a using atR
 induction b using atR
 induction r using atR
 exact snd fun n=>by
  simp only[RL.add,RL.mul,RL.neg]
  grind
theorem JE(x q:RE):((x-(q)))+((0-(x+ -q)))=0:=by
 induction x using atR
 induction q using atR
 exact snd fun n=>by
  simp only[RL.add,RL.neg,RL.const]
  grind
theorem XF(x q:RE)(h1:x+ -q=0):x≤q:=fun hg=>far (aU (a8 hg) (aR (jH h1))) (JE x q)
theorem Jq(x q:RE):((q-(x)))+((x+ -q-(0)))=0:=by
 induction x using atR
 induction q using atR
 exact snd fun n=>by
  simp only[RL.add,RL.neg,RL.const]
  grind
theorem Ye(x q:RE)(h1:x+ -q=0):q≤x:=fun hg=>far (aU (a8 hg) (aR (ji h1))) (Jq x q)
theorem Kb(x q:RE)(h1:x+ -q=0):x=q:=le_antisymm (XF x q h1) (Ye x q h1)
section
variable {x y x' y' cx cy Q:RE}
theorem dq(hQ:0<Q)(h:(x-cx)*(x-cx)+(y-cy)*(y-cy)=Q)(h':(x'-cx)*(x'-cx)+(y'-cy)*(y'-cy)=Q){L:List RE}(hx:x∈L)(hx':x'∈L):
  mj (cls (x-cx) (y-cy)) (rk (fun a b:RE=>a<b) L x) (cls (x'-cx) (y'-cy)) (rk (fun a b:RE=>a<b) L x')=true:=by
 unfold mj
 rw[at3]
 have vv:∀{u v:RE},u*u+v*v=Q→v=0→u*u=Q:=fun h e=>by rw[e,mul_zero,add_zero]at h;exact h
 refine⟨?_,?_⟩
 ·by_cases e:cls (x-cx) (y-cy)=0
  ·obtain⟨e1,e2⟩:=Wu.1 e
   rw[e]
   by_cases e':cls (x'-cx) (y'-cy)=0
   ·obtain⟨f1,f2⟩:=Wu.1 e'
    rw[e']
    have:=sI _ _ cx (le_antisymm (J2 _ _ _ (vv h e1) (vv h' f1) e2 f2) (J2 _ _ _ (vv h' f1) (vv h e1) f2 e2))
    rw[this]
    simp
   ·have hle:=ajr _ _ _ _ _ h h' e1 e2 (HP (y'-cy))
    have hlt:x'-cx<x-cx:=by
     rcases ow (x'-cx) (x-cx)with g|g|g
     ·exact g
     ·exfalso
      have z:=Rm (x-cx) (x'-cx) (y'-cy) Q (vv h e1) h' (by rw[g])
      exact e' (Wu.2 ⟨MJ z,by rw[g];exact e2⟩)
     ·exact absurd g ((Ek _ _).1 hle)
    have:=tF lt_lin (Gw _ _ _ hlt) hx'
    rw[show(cls (x'-cx) (y'-cy)==0)=false by simp[e']]
    simp[this]
  ·simp[e]
 ·by_cases e:cls (x-cx) (y-cy)=2
  ·obtain⟨e1,e2⟩:=YL.1 e
   have e3:=Be hQ h e1 e2
   rw[e]
   by_cases e':cls (x'-cx) (y'-cy)=2
   ·obtain⟨f1,f2⟩:=YL.1 e'
    have f3:=Be hQ h' f1 f2
    rw[e']
    have:=sI _ _ cx (le_antisymm (Kr _ _ _ (vv h e1) (vv h' f1) e3 f3) (Kr _ _ _ (vv h' f1) (vv h e1) f3 e3))
    rw[this]
    simp
   ·have hle:=aml _ _ _ _ _ h h' e1 e3 (HP (y'-cy))
    have hlt:x-cx<x'-cx:=by
     rcases ow (x-cx) (x'-cx)with g|g|g
     ·exact g
     ·exfalso
      have z:=Rm (x-cx) (x'-cx) (y'-cy) Q (vv h e1) h' (by rw[g])
      exact e' (YL.2 ⟨MJ z,by rw[←g];exact e2⟩)
     ·exact absurd g ((Ek _ _).1 hle)
    have:=tF lt_lin (Gw _ _ _ hlt) hx
    rw[show(cls (x'-cx) (y'-cy)==2)=false by simp[e']]
    simp[this]
  ·simp[e]
end
def onCi(c:Ln)(p:Pt):Prop:=(pX p-of c.1)*(pX p-of c.1)+(pY p-of c.2.1)*(pY p-of c.2.1)=of c.2.2
theorem ins_on{c:Ln}{p:Pt}[Rpd p](h:m9 c p=0):onCi c p:=by
 rw[Er]at h
 exact Kb _ _ (TF.1 (Int.neg_eq_zero.1 h))
theorem jd{c:Ln}{p:Pt}[Rpd p]:upR c p=upA (cls (pX p-of c.1) (pY p-of c.2.1)):=by
 unfold upR
 rw[cmpTR_re Mt,cmpTR_re nX,wm,adc,ahZ]
theorem He(p:Pt):pX (flP p)= -pX p:=by
 unfold pX flP v2
 rw[of_neg,of_neg]
 exact alT _ _ _
theorem arI(p:Pt):pY (flP p)=pY p:=rfl
theorem wg{c:Ln}{p:Pt}[h:Rpd p](hQ:0<c.2.2)(hp:onCi c p):upR (flC c) (flP p)=ufA (cls (pX p-of c.1) (pY p-of c.2.1)):=by
 unfold upR
 rw[cmpTR_re Mt,cmpTR_re nX,wm,adc,He,arI]
 show(decide (sg (pY p-of c.2.1)>0)||(sg (pY p-of c.2.1)==0&&decide (sg (-pX p-of (-c.1))>0)))=_
 rw[of_neg,Fw,akM]
 exact ai8 (jG hQ) hp
theorem fd{L:List RE}{p q:Pt}[Rpd p][Rpd q](hp:pX p∈L)(hq:pX q∈L):bR (xP p) (xP q)=cI (rk (fun a b:RE=>a<b) L (pX p)) (rk (fun a b:RE=>a<b) L (pX q)):=by
 rw[cmpT_re nX nX,wm,wm]
 exact yL lt_lin sg_cmpO hp hq
theorem m5{L:List RE}{p q:Pt}[Rpd p][Rpd q](hp:pX p∈L)(hq:pX q∈L):bR (xP (flP p)) (xP (flP q))=dI (rk (fun a b:RE=>a<b) L (pX p)) (rk (fun a b:RE=>a<b) L (pX q)):=by
 rw[cmpT_re nX nX,wm,wm,He,He,ab6]
 exact yL lt_lin sg_cmpO hq hp
theorem arc_eq{ci:Ln}{F P T:Pt}[Rpd F][Rpd P][Rpd T](hQ:0<ci.2.2)(hF:onCi ci F)(hP:onCi ci P)(hT:onCi ci T):
  decide (eU bR (ptd ci F) (ptd ci P) (ptd ci T)≤0)=(decide (jy bR (ptd ci F) (ptd ci F) (ptd ci P)≤0)&&decide (jy bR (ptd ci F) (ptd ci P) (ptd ci T)≤0))∧
  decide (eU bR (ptd ci T) (ptd ci P) (ptd ci F)≤0)=(decide (jy bR (ptd (flC ci) (flP F)) (ptd (flC ci) (flP F)) (ptd (flC ci) (flP P))≤0)&&decide (jy bR (ptd (flC ci) (flP F)) (ptd (flC ci) (flP P)) (ptd (flC ci) (flP T))≤0)):=by
 have mF:pX F∈[pX F,pX P,pX T]:=by simp
 have mP:pX P∈[pX F,pX P,pX T]:=by simp
 have mT:pX T∈[pX F,pX P,pX T]:=by simp
 have hq:0<of ci.2.2:=jG hQ
 have bF:=k9 lt_lin mF
 have bP:=k9 lt_lin mP
 have bT:=k9 lt_lin mT
 have cF:=lO (pX F-of ci.1) (pY F-of ci.2.1)
 have cP:=lO (pX P-of ci.1) (pY P-of ci.2.1)
 have cT:=lO (pX T-of ci.1) (pY T-of ci.2.1)
 have hcon:Ip (cls (pX F-of ci.1) (pY F-of ci.2.1)) (rk (fun a b:RE=>a<b) [pX F,pX P,pX T] (pX F)) (cls (pX P-of ci.1) (pY P-of ci.2.1)) (rk (fun a b:RE=>a<b) [pX F,pX P,pX T] (pX P)) (cls (pX T-of ci.1) (pY T-of ci.2.1)) (rk (fun a b:RE=>a<b) [pX F,pX P,pX T] (pX T))=true:=by
  unfold Ip
  rw[dq hq hF hP mF mP,dq hq hP hF mP mF,dq hq hF hT mF mT,dq hq hT hF mT mF,dq hq hP hT mP mT,dq hq hT hP mT mP]
  rfl
 have a1:=abv ⟨_,cF⟩ ⟨_,cP⟩ ⟨_,cT⟩ ⟨_,bF⟩ ⟨_,bP⟩ ⟨_,bT⟩ hcon
 have a2:=akH ⟨_,cF⟩ ⟨_,cP⟩ ⟨_,cT⟩ ⟨_,bF⟩ ⟨_,bP⟩ ⟨_,bT⟩ hcon
 simp only at a1 a2
 refine⟨?_,?_⟩
 ·unfold ptd
  rw[jd,jd,jd,iy (fd mP mF) (fd mT mF) (fd mP mT),fI (fd mF mF) (fd mP mF) (fd mF mP),fI (fd mP mF) (fd mT mF) (fd mP mT)]
  exact a1
 ·unfold ptd
  rw[jd,jd,jd,wg hQ hF,wg hQ hP,wg hQ hT,iy (fd mP mT) (fd mF mT) (fd mP mF),fI (m5 mF mF) (m5 mP mF) (m5 mF mP),fI (m5 mP mF) (m5 mT mF) (m5 mP mT)]
  exact a2
theorem seg_eq{F P T:Pt}[Rpd F][Rpd P][Rpd T]:Az (aW F P) (aW P T)=apZ (aW F T) (aW F P) (aW P T):=by
 have mF:pR F∈[pR F,pR P,pR T]:=by simp
 have mP:pR P∈[pR F,pR P,pR T]:=by simp
 have mT:pR T∈[pR F,pR P,pR T]:=by simp
 rw[lC,lC,lC,yL jD hZ mF mP,yL jD hZ mP mT,yL jD hZ mF mT]
 exact aa4 ⟨_,k9 jD mF⟩ ⟨_,k9 jD mP⟩ ⟨_,k9 jD mT⟩
end RE
structure Crv (c:Cv):Prop where
 f:Rpd (frC c)
 t:Rpd (toC c)
 q:c.1=true→0<(ciC c).2.2∧RE.onCi (ciC c) (frC c)∧RE.onCi (ciC c) (toC c)
theorem aox{c:Cv}(h:Crv c){p:Pt}(hp:Rpd p):onP c p=onR c p:=by
 have hf:=h.f
 have ht:=h.t
 unfold onP onR
 cases hs:fE c p
 ·rfl
 ·simp only[atX]
  unfold gI cd
  obtain⟨ar,li,ci,cw,fr,to⟩:=c
  have hf:Rpd fr:=hf
  have ht:Rpd to:=ht
  cases ar
  ·exact RE.seg_eq (F:=fr) (P:=p) (T:=to)
  ·obtain⟨q1,q2,q3⟩:=h.q rfl
   have hi:m9 ci p=0:=by
    have:(m9 ci p==0)=true:=hs
    exact avb.1 this
   obtain⟨e1,e2⟩:=RE.arc_eq (ci:=ci) (F:=fr) (P:=p) (T:=to) q1 q2 (RE.ins_on hi) q3
   cases cw
   ·exact e1
   ·exact e2
end
theorem aiW(d:Rat×Rat):0≤aqE d d:=by
 unfold aqE
 have h:∀a:Rat,0≤a*a:=fun a=>by
  rcases(by grind:0≤a∨0≤ -a)with h|h
  ·exact auP h h
  ·have:=auP h h;grind
 have:=h d.1
 have:=h d.2
 grind
theorem tK(a b d e s:Rat):vO (mkR a d s) (mkR b e s):=by
 unfold vO mkR
 cases fy s
 ·simp only[cond_false]
  by_cases hd:d=0
  ·rw[atT hd];exact .inl rfl
  ·by_cases he:e=0
   ·rw[atT he];exact .inr (.inl rfl)
   ·rw[atV hd,atV he];exact .inr (.inr rfl)
 ·exact .inl rfl
namespace RE
def aiY(l:Ln)(p:Pt):Prop:=of l.1*pX p+of l.2.1*pY p=of l.2.2
theorem IA{l:Ln}{p:Pt}[Rpd p](h:rE l p=0):aiY l p:=by
 rw[D2]at h
 exact Kb _ _ (TF.1 h)
end RE
def gdC(c:BCU):Prop:=okC 500 c∧fE (dC c) (frC (dC c))=true∧fE (dC c) (toC (dC c))=true
theorem gc{k:Nat}{x:BP}(h:okP k x):Rpd (dec x):=by
 obtain⟨p,rfl,bp,rp⟩:=dz h
 rw[aq]
 exact rp
def I2:aN:=spN false true [tR,tR] (fun x=>decide (fS x.1 x.2.1)) (fun x=>[RV.d tR (hid (ai (ae x.1/ae x.2.1))),RV.d axf 0])
theorem Gy:SpK 194 I2:=spX fun x h=>by simp only[ak];exact ack x.1 x.2.1 (atS h)
def zt:Env:=[(151,ke),(76,ky),(144,oZ),(74,lS),(145,rU),(147,kJ),(75,m6),(194,I2),(229,uX),(223,C4),(224,Cp),(222,Es),(221,DA),(226,zb),(225,Ex),(227,IZ)]
theorem l7:EnvAll Tryz.prog zt:=⟨gu,gh,kV,ic,mu,gj,jo,Gy,oS,yK,yg,zo,xM,sW,xB,Hi,trivial⟩
def apv:Ctx:=CX zt []
def agX(l:BO3)(p:BP)(_k:KT):Option (List RV):=let y1:=b8 (dec (p.1,(p.2.1,p.2.2.2.2)));let y2:=hid ((b8 (dec p.2.2)).1);let y3:=iq (ae l.1) (hid (y1.1)) (y1.2);let y4:=iq (ae l.2.1) y2 ((b8 (dec p.2.2)).2);let y5:=dG (hid (y3.1)) (hid (y4.1));let y6:=hid ((frF (ae l.2.2)).1);let y7:=dG (hid (y5.1)) (hid (lL y6));match decide (ok Rt 100000 (p.1,(p.2.1,p.2.2.2.2)))with|true=>(match decide (ok Rat 100000 l.1∧prI (hid (y1.1)))with|true=>(match decide (ok Rt 100000 p.2.2)with|true=>(match decide (ok Rat 100000 l.2.1∧prI y2)with|true=>(match decide (ok Rat 200000 l.2.2)with|true=>(match !(y3.2)with|true=>some [RV.d axf 0,RV.d .bool false]|false=>(match !(y4.2)with|true=>some [RV.d axf 0,RV.d .bool false]|false=>(match !((frF (ae l.2.2)).2)with|true=>some [RV.d axf 0,RV.d .bool false]|false=>(match decide (prI (hid (y3.1))∧prI (hid (y4.1)))with|true=>(match !(y5.2)with|true=>some [RV.d axf 0,RV.d .bool false]|false=>(match decide (prI y6)with|true=>(match decide (prI (hid (y5.1))∧prI (hid (lL y6)))with|true=>(match !(y7.2)with|true=>some [RV.d axf 0,RV.d .bool false]|false=>some [RV.d axf ((sgF (hid (y7.1))).1),RV.d .bool ((sgF (hid (y7.1))).2)])|false=>none)|false=>none))|false=>none))))|false=>none)|false=>none)|false=>none)|false=>none)|false=>none
theorem anN(l:BO3)(p:BP):RS apv 172 [.d tO l,.d tP p] (agX l p):=rsX
theorem acK(l:BO3)(p:BP)(h:ok Ln 300 l∧ok Pt 4000 p):Con Tryz.prog 172 [.d tO l,.d tP p] [.d axf ((vS (dec l) (dec p)).1),.d .bool ((vS (dec l) (dec p)).2)]:=by
 refine aP l7 (anN _ _ ⟨0,?_⟩)
 obtain⟨hl,hp⟩:=h
 obtain⟨l,rfl,bl⟩:=aZ hl
 obtain⟨p,rfl,bp⟩:=aZ hp
 have dx:(dec ((ai p.1,ai p.2.1,ai p.2.2.2.2):BO3):Rt)=pxR p:=aq (pxR p)
 have dy:(dec ((ai p.2.2.1,ai p.2.2.2.1,ai p.2.2.2.2):BO3):Rt)=pyR p:=aq (pyR p)
 have dy':(dec (enc p.2.2:BO3):Rt)=pyR p:=aq (pyR p)
 have px:Bd (pxR p) 4000:=(inferInstance:Bd ((p.1,p.2.1,p.2.2.2.2):Rt) _).mono (by decide)
 have py:Bd (pyR p) 4000:=(inferInstance:Bd ((p.2.2.1,p.2.2.2.1,p.2.2.2.2):Rt) _).mono (by decide)
 have ox:decide (ok Rt 100000 ((ai p.1,ai p.2.1,ai p.2.2.2.2):BO3))=true:=okd (x:=pxR p) (by decide) (by decide)
 have oy:decide (ok Rt 100000 (enc p.2.2:BO3))=true:=okd (x:=pyR p) (by decide) (by decide)
 have pr:∀r,prI (b8 r).1:=ze
 have pt:∀n a k,prI (iq n a k).1:=aaW
 have pf:∀q,prI (frF q).1:=RE.frF_pr
 unfold agX
 simp only[ak,aq,aI,aL,aF,az,aD,atW,atY,Nat.reduceLeDiff,dx,dy',ox,oy,dT (pr _),dT (pt _ _ _),dT (pf _),dT (RE.addF_pr (pt _ _ _) (pt _ _ _)),dT (RE.negF_pr (pf _))]
 unfold vS
 generalize b8 (pxR p)=X
 generalize b8 (pyR p)=Y
 generalize iq l.1 X.1 X.2=U
 generalize iq l.2.1 Y.1 Y.2=V
 generalize frF l.2.2=W
 generalize dG U.1 V.1=S
 generalize dG S.1 (lL W.1)=D
 generalize sgF D.1=Z
 obtain⟨_,u⟩:=U
 obtain⟨_,v⟩:=V
 obtain⟨_,w⟩:=W
 obtain⟨_,s⟩:=S
 obtain⟨_,d⟩:=D
 cases u<;>cases v<;>cases w<;>try rfl
 cases s<;>cases d<;>rfl
def amG:Ctx:=CX zt []
def ahM(a b:BR)(_k:KT):Option (List RV):=match decide (okR a∧okR b)with|true=>some [RV.d tR (hid (ai (ae a+ae b)))]|false=>none
theorem anj(a b:BR):RS amG 142 [.d tR a,.d tR b] (ahM a b):=rsX
theorem aaM(a b:BR)(h:okR a∧okR b):Con Tryz.prog 142 [.d tR a,.d tR b] [.d tR (ai (ae a+ae b))]:=by
 refine aP l7 (anj _ _ ⟨0,?_⟩)
 unfold ahM
 rw[dT h,ak]
def aoa:Ctx:=CX zt []
def age(a b:BR)(_k:KT):Option (List RV):=match decide (okR a∧okR b)with|true=>some [RV.d tR (hid (ai (ae a-ae b)))]|false=>none
theorem ar2(a b:BR):RS aoa 139 [.d tR a,.d tR b] (age a b):=rsX
theorem abh(a b:BR)(h:okR a∧okR b):Con Tryz.prog 139 [.d tR a,.d tR b] [.d tR (ai (ae a-ae b))]:=by
 refine aP l7 (ar2 _ _ ⟨0,?_⟩)
 unfold age
 rw[dT h,ak]
def anq:Ctx:=CX zt []
def agR(a b:BR)(_k:KT):Option (List RV):=match decide (okR a∧okR b)with|true=>some [RV.d tR (hid (ai (ae a*ae b)))]|false=>none
theorem apf(a b:BR):RS anq 140 [.d tR a,.d tR b] (agR a b):=rsX
theorem aaw(a b:BR)(h:okR a∧okR b):Con Tryz.prog 140 [.d tR a,.d tR b] [.d tR (ai (ae a*ae b))]:=by
 refine aP l7 (apf _ _ ⟨0,?_⟩)
 unfold agR
 rw[dT h,ak]
def aoq:Ctx:=CX zt []
def ae7(a b:BR)(_k:KT):Option (List RV):=match decide (fS a b)with|true=>(match 0 !=0 with|true=>(match decide (bO (0:Int))with|true=>some [RV.d tR (hid (ai ((0:Int):Rat)))]|false=>none)|false=>some [RV.d tR (hid (ai (ae a/ae b)))])|false=>none
theorem amq(a b:BR):RS aoq 143 [.d tR a,.d tR b] (ae7 a b):=rsX
theorem acG(a b:BR)(h:fS a b):Con Tryz.prog 143 [.d tR a,.d tR b] [.d tR (ai (ae a/ae b))]:=by
 refine aP l7 (amq _ _ ⟨0,?_⟩)
 unfold ae7
 rw[dT h]
 simp only[ak]
 rfl
def Uu:aN:=spN true true [tO,tP] (fun x=>decide (ok Ln 300 x.1∧ok Pt 4000 x.2.1)) (fun x=>[RV.d axf ((vS (dec x.1) (dec x.2.1)).1),RV.d .bool ((vS (dec x.1) (dec x.2.1)).2)])
theorem Y8:SpK 172 Uu:=spX fun x h=>acK x.1 x.2.1 (atS h)
def Ei:aN:=spN false true [tR,tR] (fun x=>decide (okR x.1∧okR x.2.1)) (fun x=>[RV.d tR (hid (ai (ae x.1+ae x.2.1)))])
theorem Ak:SpK 142 Ei:=spX fun x h=>by simp only[ak];exact aaM x.1 x.2.1 (atS h)
def Ee:aN:=spN false true [tR,tR] (fun x=>decide (okR x.1∧okR x.2.1)) (fun x=>[RV.d tR (hid (ai (ae x.1-ae x.2.1)))])
theorem zi:SpK 139 Ee:=spX fun x h=>by simp only[ak];exact abh x.1 x.2.1 (atS h)
def DG:aN:=spN false true [tR,tR] (fun x=>decide (okR x.1∧okR x.2.1)) (fun x=>[RV.d tR (hid (ai (ae x.1*ae x.2.1)))])
theorem xR:SpK 140 DG:=spX fun x h=>by simp only[ak];exact aaw x.1 x.2.1 (atS h)
def HX:aN:=spN false true [tR,tR] (fun x=>decide (fS x.1 x.2.1)) (fun x=>[RV.d tR (hid (ai (ae x.1/ae x.2.1)))])
theorem Gr:SpK 143 HX:=spX fun x h=>by simp only[ak];exact acG x.1 x.2.1 (atS h)
def LJ:Env:=(172,Uu)::(142,Ei)::(139,Ee)::(140,DG)::(143,HX)::zt
theorem xZ:EnvAll Tryz.prog LJ:=⟨Y8,Ak,zi,xR,Gr,l7⟩
def ao7:Ctx:=CX LJ []
def aeI(a b c:BR)(_k:KT):Option (List RV):=match decide (okR a)with|true=>(match decide (okR b)with|true=>(match decide (okR c)with|true=>(match(i64.wrap ((aS (ae b) 0)*(aS (ae c) 0)))==0 with|true=>some [RV.d axf (aS (ae a) 0)]|false=>(match(aS (ae a) 0)==(i64.wrap ((aS (ae b) 0)*(aS (ae c) 0)))with|true=>some [RV.d axf (aS (ae a) 0)]|false=>(match(aS (ae a) 0)==0 with|true=>some [RV.d axf (i64.wrap ((aS (ae b) 0)*(aS (ae c) 0)))]|false=>(match decide (okR a∧okR a)with|true=>(match decide (okR b∧okR b)with|true=>(match decide (okR (hid (ai (ae b*ae b)))∧okR c)with|true=>(match decide (okR (hid (ai (ae a*ae a)))∧okR (hid (ai (ae (hid (ai (ae b*ae b)))*ae c))))with|true=>some [RV.d axf (i64.wrap ((aS (ae a) 0)*(aS (ae (hid (ai (ae a*ae a)))) (ae (hid (ai (ae (hid (ai (ae b*ae b)))*ae c)))))))]|false=>none)|false=>none)|false=>none)|false=>none))))|false=>none)|false=>none)|false=>none
theorem arP(a b c:BR):RS ao7 171 [.d tR a,.d tR b,.d tR c] (aeI a b c):=rsX
theorem adB(a b c:BR)(h:ok Rat 240000 a∧ok Rat 170000 b∧ok Rat 30000 c):Con Tryz.prog 171 [.d tR a,.d tR b,.d tR c] [.d axf (fU (ae a) (ae b) (ae c))]:=by
 refine aP xZ (arP _ _ _ ⟨0,?_⟩)
 obtain⟨ha,hb,hc⟩:=h
 obtain⟨a,rfl,ba⟩:=aZ ha
 obtain⟨b,rfl,bb⟩:=aZ hb
 obtain⟨c,rfl,bc⟩:=aZ hc
 unfold aeI
 simp only[ak,aF,az,aX,atW,atY,Nat.reduceAdd,Nat.reduceLeDiff,qb]
 exact DR _ _ _
def ao8:Ctx:=CX LJ []
def agc(a b c f:BR)(_k:KT):Option (List RV):=match decide (ok Rt 100000 (a,(b,c)))with|true=>(match decide (ok Rat 200000 f)with|true=>(match !((b8 (dec (a,(b,c)))).2)with|true=>some [RV.d tG (0,0),RV.d .bool false]|false=>(match !((frF (ae f)).2)with|true=>some [RV.d tG (0,0),RV.d .bool false]|false=>(match decide (prI (hid ((frF (ae f)).1)))with|true=>(match decide (prI (hid ((b8 (dec (a,(b,c)))).1))∧prI (hid (lL (hid ((frF (ae f)).1)))))with|true=>some [RV.d tG (hid ((dG (hid ((b8 (dec (a,(b,c)))).1)) (hid (lL (hid ((frF (ae f)).1))))).1)),RV.d .bool ((dG (hid ((b8 (dec (a,(b,c)))).1)) (hid (lL (hid ((frF (ae f)).1))))).2)]|false=>none)|false=>none)))|false=>none)|false=>none
theorem amJ(a b c f:BR):RS ao8 220 [.d tR a,.d tR b,.d tR c,.d tR f] (agc a b c f):=rsX
theorem abi(a b c f:BR)(h:ok Rat 100000 a∧ok Rat 100000 b∧ok Rat 100000 c∧ok Rat 100000 f):Con Tryz.prog 220 [.d tR a,.d tR b,.d tR c,.d tR f] [.d tG ((fb (ae a,ae b,ae c) (ae f)).1),.d .bool ((fb (ae a,ae b,ae c) (ae f)).2)]:=by
 refine aP xZ (amJ _ _ _ _ ⟨0,?_⟩)
 obtain⟨ha,hb,hc,hf⟩:=h
 obtain⟨a,rfl,ba⟩:=aZ ha
 obtain⟨b,rfl,bb⟩:=aZ hb
 obtain⟨c,rfl,bc⟩:=aZ hc
 obtain⟨f,rfl,bf⟩:=aZ hf
 have dr:(dec ((ai a,ai b,ai c):BO3):Rt)=(a,b,c):=aq ((a,b,c):Rt)
 have orr:decide (ok Rt 100000 ((ai a,ai b,ai c):BO3))=true:=okd (x:=((a,b,c):Rt)) (by decide) (by decide)
 unfold agc
 simp only[ak,aF,az,aD,atW,atY,Nat.reduceLeDiff,dr,orr,dT (RE.frF_pr _),dT (RE.negF_pr (RE.frF_pr _)),dT (ze _)]
 unfold fb
 generalize b8 (a,b,c)=X
 generalize frF f=Y
 obtain⟨_,x⟩:=X
 obtain⟨_,y⟩:=Y
 cases x<;>cases y<;>rfl
def UY:aN:=spN true true [tR,tR,tR] (fun x=>decide (ok Rat 240000 x.1∧ok Rat 170000 x.2.1∧ok Rat 30000 x.2.2.1)) (fun x=>[RV.d axf (fU (ae x.1) (ae x.2.1) (ae x.2.2.1))])
theorem YC:SpK 171 UY:=spX fun x h=>adB x.1 x.2.1 x.2.2.1 (atS h)
def XQ:aN:=spN false true [tR,tR,tR,tR] (fun x=>decide (ok Rat 100000 x.1∧ok Rat 100000 x.2.1∧ok Rat 100000 x.2.2.1∧ok Rat 100000 x.2.2.2.1)) (fun x=>[RV.d tG (hid ((fb (ae x.1,ae x.2.1,ae x.2.2.1) (ae x.2.2.2.1)).1)),RV.d .bool ((fb (ae x.1,ae x.2.1,ae x.2.2.1) (ae x.2.2.2.1)).2)])
theorem Ro:SpK 220 XQ:=spX fun x h=>by simp only[ak];exact abi x.1 x.2.1 x.2.2.1 x.2.2.2.1 (atS h)
def MY:Env:=(171,UY)::(220,XQ)::LJ
theorem yQ:EnvAll Tryz.prog MY:=⟨YC,Ro,xZ⟩
def aqU:Ctx:=CX MY []
def afU(c:BO3)(p:BP)(_k:KT):Option (List RV):=let y1:=fb (ae p.1,ae p.2.1,ae p.2.2.2.2) (ae c.1);let y2:=fb (ae p.2.2.1,ae p.2.2.2.1,ae p.2.2.2.2) (ae c.2.1);let y3:=cV (hid (y1.1)) (hid (y1.1));let y4:=cV (hid (y2.1)) (hid (y2.1));let y5:=dG (hid (y3.1)) (hid (y4.1));let y6:=hid ((frF (ae c.2.2)).1);let y7:=dG (hid (y5.1)) (hid (lL y6));match decide (ok Rat 100000 p.1∧ok Rat 100000 p.2.1∧ok Rat 100000 p.2.2.2.2∧ok Rat 100000 c.1)with|true=>(match decide (ok Rat 100000 p.2.2.1∧ok Rat 100000 p.2.2.2.1∧ok Rat 100000 p.2.2.2.2∧ok Rat 100000 c.2.1)with|true=>(match decide (ok Rat 200000 c.2.2)with|true=>(match !(y1.2)with|true=>some [RV.d axf 0,RV.d .bool false]|false=>(match !(y2.2)with|true=>some [RV.d axf 0,RV.d .bool false]|false=>(match !((frF (ae c.2.2)).2)with|true=>some [RV.d axf 0,RV.d .bool false]|false=>(match decide (prI (hid (y1.1))∧prI (hid (y1.1)))with|true=>(match decide (prI (hid (y2.1))∧prI (hid (y2.1)))with|true=>(match !(y3.2)with|true=>some [RV.d axf 0,RV.d .bool false]|false=>(match !(y4.2)with|true=>some [RV.d axf 0,RV.d .bool false]|false=>(match decide (prI (hid (y3.1))∧prI (hid (y4.1)))with|true=>(match !(y5.2)with|true=>some [RV.d axf 0,RV.d .bool false]|false=>(match decide (prI y6)with|true=>(match decide (prI (hid (y5.1))∧prI (hid (lL y6)))with|true=>(match !(y7.2)with|true=>some [RV.d axf 0,RV.d .bool false]|false=>some [RV.d axf ((sgF (hid (y7.1))).1),RV.d .bool ((sgF (hid (y7.1))).2)])|false=>none)|false=>none))|false=>none)))|false=>none)|false=>none))))|false=>none)|false=>none)|false=>none
theorem aou(c:BO3)(p:BP):RS aqU 170 [.d tO c,.d tP p] (afU c p):=rsX
theorem aa2(c:BO3)(p:BP)(h:ok Ln 300 c∧ok Pt 4000 p):Con Tryz.prog 170 [.d tO c,.d tP p] [.d axf ((t9 (dec c) (dec p)).1),.d .bool ((t9 (dec c) (dec p)).2)]:=by
 refine aP yQ (aou _ _ ⟨0,?_⟩)
 obtain⟨hc,hp⟩:=h
 obtain⟨c,rfl,bc⟩:=aZ hc
 obtain⟨p,rfl,bp⟩:=aZ hp
 have pd:∀r q,prI (fb r q).1:=adK
 have pf:∀q,prI (frF q).1:=RE.frF_pr
 have pm:∀a b,prI (cV a b).1:=ut
 have dx:fb (p.1,p.2.1,p.2.2.2.2) c.1=fb (pxR p) c.1:=rfl
 have dy:fb (p.2.2.1,p.2.2.2.1,p.2.2.2.2) c.2.1=fb (pyR p) c.2.1:=rfl
 unfold afU
 simp only[ak,aq,aI,aL,aF,az,aD,atW,atY,Nat.reduceLeDiff,dx,dy,dT (pd _ _),dT (pm _ _),dT (pf _),dT (RE.negF_pr (pf _)),dT (RE.addF_pr (pm _ _) (pm _ _))]
 unfold t9
 generalize fb (pxR p) c.1=X
 generalize fb (pyR p) c.2.1=Y
 generalize frF c.2.2=W
 generalize cV X.1 X.1=U
 generalize cV Y.1 Y.1=V
 generalize dG U.1 V.1=S
 generalize dG S.1 (lL W.1)=D
 generalize sgF D.1=Z
 obtain⟨_,x⟩:=X
 obtain⟨_,y⟩:=Y
 obtain⟨_,w⟩:=W
 obtain⟨_,u⟩:=U
 obtain⟨_,v⟩:=V
 obtain⟨_,s⟩:=S
 obtain⟨_,d⟩:=D
 cases x<;>cases y<;>cases w<;>try rfl
 cases u<;>cases v<;>try rfl
 cases s<;>cases d<;>rfl
def apk:Ctx:=CX MY []
def agS(l:BO3)(p:BP)(_k:KT):Option (List RV):=match decide (ok Ln 300 l∧ok Pt 4000 p)with|true=>(match(vS (dec l) (dec p)).2 with|true=>some [RV.d axf ((vS (dec l) (dec p)).1)]|false=>(match decide (okR l.1∧okR p.1)with|true=>(match decide (okR l.2.1∧okR p.2.2.1)with|true=>(match decide (okR (hid (ai (ae l.1*ae p.1)))∧okR (hid (ai (ae l.2.1*ae p.2.2.1))))with|true=>(match decide (okR (hid (ai (ae (hid (ai (ae l.1*ae p.1)))+ae (hid (ai (ae l.2.1*ae p.2.2.1))))))∧okR l.2.2)with|true=>(match decide (okR l.1∧okR p.2.1)with|true=>(match decide (okR l.2.1∧okR p.2.2.2.1)with|true=>(match decide (okR (hid (ai (ae l.1*ae p.2.1)))∧okR (hid (ai (ae l.2.1*ae p.2.2.2.1))))with|true=>(match decide (ok Rat 240000 (hid (ai (ae (hid (ai (ae (hid (ai (ae l.1*ae p.1)))+ae (hid (ai (ae l.2.1*ae p.2.2.1))))))-ae l.2.2)))∧ok Rat 170000 (hid (ai (ae (hid (ai (ae l.1*ae p.2.1)))+ae (hid (ai (ae l.2.1*ae p.2.2.2.1))))))∧ok Rat 30000 p.2.2.2.2)with|true=>some [RV.d axf (fU (ae (hid (ai (ae (hid (ai (ae (hid (ai (ae l.1*ae p.1)))+ae (hid (ai (ae l.2.1*ae p.2.2.1))))))-ae l.2.2)))) (ae (hid (ai (ae (hid (ai (ae l.1*ae p.2.1)))+ae (hid (ai (ae l.2.1*ae p.2.2.2.1))))))) (ae p.2.2.2.2))]|false=>none)|false=>none)|false=>none)|false=>none)|false=>none)|false=>none)|false=>none)|false=>none))|false=>none
theorem amM(l:BO3)(p:BP):RS apk 107 [.d tO l,.d tP p] (agS l p):=rsX
theorem aaU(l:BO3)(p:BP)(h:ok Ln 300 l∧okP 4000 p):Con Tryz.prog 107 [.d tO l,.d tP p] [.d axf (rE (dec l) (dec p))]:=by
 refine aP yQ (amM _ _ ⟨0,?_⟩)
 obtain⟨hl,hp⟩:=h
 obtain⟨l,rfl,bl⟩:=aZ hl
 obtain⟨p,rfl,bp,rp⟩:=dz hp
 unfold agS
 simp only[ak,aq,aI,aL,aF,az,okd,aD,aX,atW,atY,Nat.reduceAdd,Nat.reduceLeDiff]
 cases hq:(vS l p).2
 ·rfl
 ·rw[RE.sidL_ok l hq]
def Ql:aN:=spN true true [tO,tP] (fun x=>decide (ok Ln 300 x.1∧ok Pt 4000 x.2.1)) (fun x=>[RV.d axf ((t9 (dec x.1) (dec x.2.1)).1),RV.d .bool ((t9 (dec x.1) (dec x.2.1)).2)])
theorem YQ:SpK 170 Ql:=spX fun x h=>aa2 x.1 x.2.1 (atS h)
def U8:Env:=(170,Ql)::MY
theorem GE:EnvAll Tryz.prog U8:=⟨YQ,yQ⟩
def apa:Ctx:=CX U8 []
def ahI(c:BO3)(p:BP)(_k:KT):Option (List RV):=let y1:=t9 (dec c) (dec p);let y2:=hid (ai (ae p.1-ae c.1));let y3:=hid (ai (ae p.2.2.1-ae c.2.1));let y4:=hid (ai (ae y2*ae y2));let y5:=hid (ai (ae y3*ae y3));let y6:=hid (ai (ae p.2.1*ae p.2.1));let y7:=hid (ai (ae p.2.2.2.1*ae p.2.2.2.1));let y8:=hid (ai (ae y6+ae y7));let y9:=hid (ai (ae y4+ae y5));let y10:=hid (ai (ae p.2.2.2.2*ae y8));let y11:=hid (ai (ae y2*ae p.2.1));let y12:=hid (ai (ae y3*ae p.2.2.2.1));let y13:=hid (ai (ae y9+ae y10));let y14:=hid (ai (ae y11+ae y12));let y15:=hid (ai (ae y13-ae c.2.2));let y16:=hid (ai (ae y14+ae y14));match decide (ok Ln 300 c∧ok Pt 4000 p)with|true=>(match y1.2 with|true=>some [RV.d axf (i64.wrap (0-(y1.1)))]|false=>(match decide (okR p.1∧okR c.1)with|true=>(match decide (okR p.2.2.1∧okR c.2.1)with|true=>(match decide (okR y2∧okR y2)with|true=>(match decide (okR y3∧okR y3)with|true=>(match decide (okR y4∧okR y5)with|true=>(match decide (okR p.2.1∧okR p.2.1)with|true=>(match decide (okR p.2.2.2.1∧okR p.2.2.2.1)with|true=>(match decide (okR y6∧okR y7)with|true=>(match decide (okR p.2.2.2.2∧okR y8)with|true=>(match decide (okR y9∧okR y10)with|true=>(match decide (okR y2∧okR p.2.1)with|true=>(match decide (okR y3∧okR p.2.2.2.1)with|true=>(match decide (okR y11∧okR y12)with|true=>(match decide (okR y13∧okR c.2.2)with|true=>(match decide (okR y14∧okR y14)with|true=>(match decide (ok Rat 240000 y15∧ok Rat 170000 y16∧ok Rat 30000 p.2.2.2.2)with|true=>some [RV.d axf (i64.wrap (0-(fU (ae y15) (ae y16) (ae p.2.2.2.2))))]|false=>none)|false=>none)|false=>none)|false=>none)|false=>none)|false=>none)|false=>none)|false=>none)|false=>none)|false=>none)|false=>none)|false=>none)|false=>none)|false=>none)|false=>none)|false=>none))|false=>none
theorem ao0(c:BO3)(p:BP):RS apa 106 [.d tO c,.d tP p] (ahI c p):=rsX
theorem aaY(c:BO3)(p:BP)(h:ok Ln 300 c∧okP 4000 p):Con Tryz.prog 106 [.d tO c,.d tP p] [.d axf (m9 (dec c) (dec p))]:=by
 refine aP GE (ao0 _ _ ⟨0,?_⟩)
 obtain⟨hc,hp⟩:=h
 obtain⟨c,rfl,bc⟩:=aZ hc
 obtain⟨p,rfl,bp,rp⟩:=dz hp
 have sb:=lg (sqA p (ctr c)-c.2.2) (sqB p (ctr c)) p.2.2.2.2
 unfold ahI
 simp only[ak,aq,aI,aL,aF,az,okd,aD,aX,atW,atY,Nat.reduceAdd,Nat.reduceLeDiff]
 cases hq:(t9 c p).2
 ·unfold m9 sqA sqB ctr at*
  dsimp only at sb ⊢
  rw[show(p.2.2.2.2*(p.2.1*p.2.1+p.2.2.2.1*p.2.2.2.1))=(p.2.1*p.2.1+p.2.2.2.1*p.2.2.2.1)*p.2.2.2.2 by grind]
  rw[bz (by omega) (by omega),avY]
 ·have hb: -1≤(t9 c p).1∧(t9 c p).1≤1:=by
   have:=RE.insC_ok c hq
   unfold m9 at this
   omega
  dsimp only
  rw[bz (by omega) (by omega),avY,RE.insC_ok c hq]
def aqO:Ctx:=CX U8 []
def aeW(l:BO3)(v:BV)(_k:KT):Option (List RV):=let y1:=hid (ai (ae l.1*ae v.1));let y2:=hid (ai (ae l.2.1*ae v.2));let y3:=hid (ai (ae y1+ae y2));let y4:=hid (ai (ae l.1*ae l.1));let y5:=hid (ai (ae l.2.1*ae l.2.1));let y6:=hid (ai (ae y3-ae l.2.2));let y7:=hid (ai (ae y4+ae y5));let y8:=hid (ai (ae y6/ae y7));let y9:=hid (ai (ae y8*ae l.1));let y10:=hid (ai (ae y8*ae l.2.1));match decide (okR l.1∧okR v.1)with|true=>(match decide (okR l.2.1∧okR v.2)with|true=>(match decide (okR y1∧okR y2)with|true=>(match decide (okR y3∧okR l.2.2)with|true=>(match decide (okR l.1∧okR l.1)with|true=>(match decide (okR l.2.1∧okR l.2.1)with|true=>(match decide (okR y4∧okR y5)with|true=>(match decide (fS y6 y7)with|true=>(match decide (okR y8∧okR l.1)with|true=>(match decide (okR v.1∧okR y9)with|true=>(match decide (okR y8∧okR l.2.1)with|true=>(match decide (okR v.2∧okR y10)with|true=>some [RV.d tV (hid (ai (ae v.1-ae y9)),hid (ai (ae v.2-ae y10)))]|false=>none)|false=>none)|false=>none)|false=>none)|false=>none)|false=>none)|false=>none)|false=>none)|false=>none)|false=>none)|false=>none)|false=>none
theorem anQ(l:BO3)(v:BV):RS aqO 241 [.d tO l,.d tV v] (aeW l v):=rsX
theorem ad3(l:BO3)(v:BV)(h:ok Ln 300 l∧ok (Rat×Rat) 200 v∧((dec l:Ln).1≠0∨(dec l:Ln).2.1≠0)):Con Tryz.prog 241 [.d tO l,.d tV v] [.d tV (enc (MP (dec l) (dec v)))]:=by
 refine aP GE (anQ _ _ ⟨0,?_⟩)
 obtain⟨hl,hv,h0⟩:=h
 obtain⟨l,rfl,bl⟩:=aZ hl
 obtain⟨v,rfl,bv⟩:=aZ hv
 have hn:l.1*l.1+l.2.1*l.2.1≠0:=LL (by rw[aq]at h0;exact h0)
 unfold aeW
 simp only[ak,aq,aI,aL,aF,az,aX,aC,atW,atY,Nat.reduceAdd,Nat.reduceLeDiff,hn,ne_eq,avN]
 rfl
theorem abm(n:Int):(if(if n>(-1)then n else(-1))<1 then(if n>(-1)then n else(-1))else 1)=zJ n:=by
 unfold zJ
 split<;>split<;>(try split)<;>(try split)<;>omega
def Sf:aN:=spN true true [tO,tR] (fun x=>decide (okT 15000 x.1∧ok Rat 15000 x.2.1)) (fun x=>[RV.d axf (gk (dec x.1) (ae x.2.1))])
theorem R8:SpK 262 Sf:=spX fun x h=>aeg x.1 x.2.1 (atS h)
def TR:aN:=spN true true [tO,tP] (fun x=>decide (ok Ln 300 x.1∧okP 4000 x.2.1)) (fun x=>[RV.d axf (rE (dec x.1) (dec x.2.1))])
theorem U5:SpK 107 TR:=spX fun x h=>aaU x.1 x.2.1 (atS h)
def Tk:aN:=spN true true [tO,tP] (fun x=>decide (ok Ln 300 x.1∧okP 4000 x.2.1)) (fun x=>[RV.d axf (m9 (dec x.1) (dec x.2.1))])
theorem Sq:SpK 106 Tk:=spX fun x h=>aaY x.1 x.2.1 (atS h)
def AU:Env:=[(173,En),(262,Sf),(174,Vs),(175,Vf),(108,Cw),(107,TR),(106,Tk)]
theorem ov:EnvAll Tryz.prog AU:=⟨xz,R8,M7,Kz,zw,U5,Sq,trivial⟩
def anf:Ctx:=CX AU []
def afW(c:BCU)(p:BP)(_k:KT):Option (List RV):=match c.1 with|true=>(match decide (ok Ln 300 c.2.2.1∧okP 4000 p)with|true=>some [RV.d .bool ((m9 (dec c.2.2.1) (dec p))==0)]|false=>none)|false=>(match decide (ok Ln 300 c.2.1∧okP 4000 p)with|true=>some [RV.d .bool ((rE (dec c.2.1) (dec p))==0)]|false=>none)
theorem arl(c:BCU)(p:BP):RS anf 47 [.d tCU c,.d tP p] (afW c p):=rsX
theorem aaf(c:BCU)(p:BP)(h:okC 4000 c∧okP 4000 p):Con Tryz.prog 47 [.d tCU c,.d tP p] [.d .bool (fE (dC c) (dec p))]:=by
 refine aP ov (arl _ _ ⟨0,?_⟩)
 obtain⟨hc,hp⟩:=h
 have op:decide (okP 4000 p)=true:=atT hp
 obtain⟨ar,li,ci,cw,fr,to⟩:=c
 obtain⟨c1,c2,_⟩:=hc
 unfold afW
 cases ar
 ·have e:=(c2 rfl).1
  simp only[atW,dT e,op,atY]
  rfl
 ·have e:=(c1 rfl).1
  simp only[atW,dT e,op,atY]
  rfl
def anC:Ctx:=CX AU []
def afu(c:BO3)(p:BP)(_k:KT):Option (List RV):=match decide (okP 4000 p)with|true=>(match decide (okT 15000 (hid (enc (yP (dec p))))∧ok Rat 15000 c.2.1)with|true=>(match decide ((gk (dec (hid (enc (yP (dec p))))) (ae c.2.1))>0)with|true=>some [RV.d axf 0]|false=>(match(gk (dec (hid (enc (yP (dec p))))) (ae c.2.1))==0 with|true=>(match decide (okP 4000 p)with|true=>(match decide (okT 15000 (hid (enc (xP (dec p))))∧ok Rat 15000 c.1)with|true=>(match decide ((gk (dec (hid (enc (xP (dec p))))) (ae c.1))>0)with|true=>some [RV.d axf 0]|false=>some [RV.d axf 1])|false=>none)|false=>none)|false=>some [RV.d axf 1]))|false=>none)|false=>none
theorem ar6(c:BO3)(p:BP):RS anC 233 [.d tO c,.d tP p] (afu c p):=rsX
theorem acz(c:BO3)(p:BP)(h:ok Ln 300 c∧okP 4000 p):Con Tryz.prog 233 [.d tO c,.d tP p] [.d axf (D8 (dec c) (dec p))]:=by
 refine aP ov (ar6 _ _ ⟨0,?_⟩)
 obtain⟨hc,hp⟩:=h
 obtain⟨c,rfl,bc⟩:=aZ hc
 obtain⟨p,rfl,bp,rp⟩:=dz hp
 unfold afu D8 upR
 simp only[ak,aq,aI,aL,aF,az,aD,atW,atY,mx,Nat.reduceLeDiff,at8,cond_true,bH,bG]
 cases decide (gk (yP p) c.2.1>0)<;>cases gk (yP p) c.2.1==0<;>cases decide (gk (xP p) c.1>0)<;>rfl
def arx:Ctx:=CX AU []
def afZ(n:Int)(_k:KT):Option (List RV):=some [RV.d axf (if(if n>(-1)then n else(-1))<1 then(if n>(-1)then n else(-1))else 1)]
theorem apP(n:Int):RS arx 177 [SI n] (afZ n):=rsX
theorem aas(n:Int):Con Tryz.prog 177 [.d axf n] [.d axf (zJ n)]:=by
 refine aP ov (apP _ ⟨0,?_⟩)
 unfold afZ
 rw[abm]
def amy:Ctx:=CX AU []
def aqz(c:BCU)(_k:KT):Option (List RV):=match c.1 with|true=>some [RV.d tCU (c.1,(c.2.1,(c.2.2.1,(!c.2.2.2.1,(c.2.2.2.2.2,c.2.2.2.2.1)))))]|false=>some [RV.d tCU (c.1,(c.2.1,(c.2.2.1,(false,(c.2.2.2.2.2,c.2.2.2.2.1)))))]
theorem anA(c:BCU):RS amy 26 [.d tCU c] (aqz c):=rsX
theorem aaF(c:BCU):Con Tryz.prog 26 [.d tCU c] [.d tCU (da c)]:=by
 refine aP ov (anA _ ⟨0,?_⟩)
 obtain⟨ar,li,ci,cw,fr,to⟩:=c
 cases ar<;>rfl
def X9:aN:=spN true true [tCU,tP] (fun x=>decide (okC 4000 x.1∧okP 4000 x.2.1)) (fun x=>[RV.d .bool (fE (dC x.1) (dec x.2.1))])
theorem S5:SpK 47 X9:=spX fun x h=>aaf x.1 x.2.1 (atS h)
def Un:aN:=spN true true [tO,tP] (fun x=>decide (ok Ln 300 x.1∧okP 4000 x.2.1)) (fun x=>[RV.d axf (D8 (dec x.1) (dec x.2.1))])
theorem Qb:SpK 233 Un:=spX fun x h=>acz x.1 x.2.1 (atS h)
def Sy:aN:=spN true true [axf] (fun _=>true) (fun x=>[RV.d axf (zJ x.1)])
theorem Zt:SpK 177 Sy:=spX fun x _=>aas x.1
def Y6:aN:=spN false true [tCU] (fun _=>true) (fun x=>[RV.d tCU (hid (da x.1))])
theorem R9:SpK 26 Y6:=spX fun x _=>by simp only[ak];exact aaF x.1
def Mg:Env:=(47,X9)::(233,Un)::(177,Sy)::(26,Y6)::AU
theorem ym:EnvAll Tryz.prog Mg:=⟨S5,Qb,Zt,R9,ov⟩
def asj:Ctx:=CX Mg []
def agM(c:BO3)(p q:BP)(_k:KT):Option (List RV):=match decide (ok Ln 300 c∧okP 4000 p)with|true=>(match decide (ok Ln 300 c∧okP 4000 q)with|true=>(match(D8 (dec c) (dec p)) !=(D8 (dec c) (dec q))with|true=>some [RV.d axf (i64.wrap ((D8 (dec c) (dec p))-(D8 (dec c) (dec q))))]|false=>(match decide (okP 4000 p)with|true=>(match decide (okP 4000 q)with|true=>(match decide (okT 15000 (hid (enc (xP (dec p))))∧okT 15000 (hid (enc (xP (dec q)))))with|true=>(match(D8 (dec c) (dec p))==0 with|true=>some [RV.d axf (i64.wrap (0-(bR (dec (hid (enc (xP (dec p))))) (dec (hid (enc (xP (dec q))))))))]|false=>some [RV.d axf (bR (dec (hid (enc (xP (dec p))))) (dec (hid (enc (xP (dec q))))))])|false=>none)|false=>none)|false=>none))|false=>none)|false=>none
theorem aqI(c:BO3)(p q:BP):RS asj 178 [.d tO c,.d tP p,.d tP q] (agM c p q):=rsX
theorem adW(c:BO3)(p q:BP)(h:ok Ln 300 c∧okP 4000 p∧okP 4000 q):Con Tryz.prog 178 [.d tO c,.d tP p,.d tP q] [.d axf (qV bR (ptd (dec c) (dec p)) (ptd (dec c) (dec q)))]:=by
 refine aP ym (aqI _ _ _ ⟨0,?_⟩)
 obtain⟨hc,hp,hq⟩:=h
 obtain⟨c,rfl,bc⟩:=aZ hc
 obtain⟨p,rfl,bp,rp⟩:=dz hp
 obtain⟨q,rfl,bq,rq⟩:=dz hq
 have xb:=w9 (xP p) (xP q)
 unfold agM
 simp only[ak,aq,okd,atW,atY,mx,Nat.reduceLeDiff,at8,cond_true,bH,bG,bz (x:= -bR (xP p) (xP q)) (by omega) (by omega),avY]
 unfold qV D8 ptd
 cases upR c p<;>cases upR c q<;>rfl
def aoQ:Ctx:=CX Mg []
def agd(c:BCU)(_k:KT):Option (List RV):=match c.2.2.2.1 with|true=>some [RV.d tCU (hid (da c))]|false=>some [RV.d tCU c]
theorem asn(c:BCU):RS aoQ 109 [.d tCU c] (agd c):=rsX
theorem adr(c:BCU):Con Tryz.prog 109 [.d tCU c] [.d tCU (dP c)]:=by
 refine aP ym (asn _ ⟨0,?_⟩)
 obtain⟨ar,li,ci,cw,fr,to⟩:=c
 unfold agd dP
 cases cw
 ·rfl
 ·simp only[ak];rfl
def QP:aN:=spN true true [tO,tP,tP] (fun x=>decide (ok Ln 300 x.1∧okP 4000 x.2.1∧okP 4000 x.2.2.1)) (fun x=>[RV.d axf (qV bR (ptd (dec x.1) (dec x.2.1)) (ptd (dec x.1) (dec x.2.2.1)))])
theorem RU:SpK 178 QP:=spX fun x h=>adW x.1 x.2.1 x.2.2.1 (atS h)
def II:aN:=spN false true [tCU] (fun _=>true) (fun x=>[RV.d tCU (hid (dP x.1))])
theorem EL:SpK 109 II:=spX fun x _=>by simp only[ak];exact adr x.1
def SK:Env:=(178,QP)::(109,II)::Mg
theorem GO:EnvAll Tryz.prog SK:=⟨RU,EL,ym⟩
def apY:Ctx:=CX SK []
def ahm(c:BO3)(f p:BP)(_k:KT):Option (List RV):=match decide (ok Ln 300 c∧okP 4000 p∧okP 4000 f)with|true=>(match(qV bR (ptd (dec c) (dec p)) (ptd (dec c) (dec f)))==0 with|true=>some [RV.d axf 0]|false=>(match decide ((qV bR (ptd (dec c) (dec p)) (ptd (dec c) (dec f)))>0)with|true=>some [RV.d axf 1]|false=>some [RV.d axf 2]))|false=>none
theorem am7(c:BO3)(f p:BP):RS apY 176 [.d tO c,.d tP f,.d tP p] (ahm c f p):=rsX
theorem aer(c:BO3)(f p:BP)(h:ok Ln 300 c∧okP 4000 f∧okP 4000 p):Con Tryz.prog 176 [.d tO c,.d tP f,.d tP p] [.d axf (nE bR (ptd (dec c) (dec f)) (ptd (dec c) (dec p)))]:=by
 refine aP GO (am7 _ _ _ ⟨0,?_⟩)
 obtain⟨hc,hf,hp⟩:=h
 unfold ahm nE
 rw[dT ⟨hc,hp,hf⟩]
 dsimp only
 cases qV bR (ptd (dec c) (dec p)) (ptd (dec c) (dec f))==0<;>cases decide (qV bR (ptd (dec c) (dec p)) (ptd (dec c) (dec f))>0)<;>rfl
def TC:aN:=spN true true [tO,tP,tP] (fun x=>decide (ok Ln 300 x.1∧okP 4000 x.2.1∧okP 4000 x.2.2.1)) (fun x=>[RV.d axf (nE bR (ptd (dec x.1) (dec x.2.1)) (ptd (dec x.1) (dec x.2.2.1)))])
theorem Sg:SpK 176 TC:=spX fun x h=>aer x.1 x.2.1 x.2.2.1 (atS h)
def Wm:Env:=(176,TC)::SK
theorem Fp:EnvAll Tryz.prog Wm:=⟨Sg,GO⟩
def aq3:Ctx:=CX Wm []
def ahv(c:BO3)(f p q:BP)(_k:KT):Option (List RV):=match decide (ok Ln 300 c∧okP 4000 f∧okP 4000 p)with|true=>(match decide (ok Ln 300 c∧okP 4000 f∧okP 4000 q)with|true=>(match(nE bR (ptd (dec c) (dec f)) (ptd (dec c) (dec p))) !=(nE bR (ptd (dec c) (dec f)) (ptd (dec c) (dec q)))with|true=>some [RV.d axf (zJ (i64.wrap ((nE bR (ptd (dec c) (dec f)) (ptd (dec c) (dec p)))-(nE bR (ptd (dec c) (dec f)) (ptd (dec c) (dec q))))))]|false=>(match decide (ok Ln 300 c∧okP 4000 p∧okP 4000 q)with|true=>some [RV.d axf (zJ (qV bR (ptd (dec c) (dec p)) (ptd (dec c) (dec q))))]|false=>none))|false=>none)|false=>none
theorem asm(c:BO3)(f p q:BP):RS aq3 110 [.d tO c,.d tP f,.d tP p,.d tP q] (ahv c f p q):=rsX
theorem acv(c:BO3)(f p q:BP)(h:ok Ln 300 c∧okP 4000 f∧okP 4000 p∧okP 4000 q):Con Tryz.prog 110 [.d tO c,.d tP f,.d tP p,.d tP q] [.d axf (eU bR (ptd (dec c) (dec f)) (ptd (dec c) (dec p)) (ptd (dec c) (dec q)))]:=by
 refine aP Fp (asm _ _ _ _ ⟨0,?_⟩)
 obtain⟨hc,hf,hp,hq⟩:=h
 unfold ahv eU bne
 have b1:=MI (p:=ptd (dec c) (dec f)) (q:=ptd (dec c) (dec p))
 have b2:=MI (p:=ptd (dec c) (dec f)) (q:=ptd (dec c) (dec q))
 rw[dT ⟨hc,hf,hp⟩,dT ⟨hc,hf,hq⟩,dT ⟨hc,hp,hq⟩,bz (by omega) (by omega)]
 dsimp only
 cases nE bR (ptd (dec c) (dec f)) (ptd (dec c) (dec p))==nE bR (ptd (dec c) (dec f)) (ptd (dec c) (dec q))<;>rfl
def C3:aN:=spN true true [tO,tP,tP,tP] (fun x=>decide (ok Ln 300 x.1∧okP 4000 x.2.1∧okP 4000 x.2.2.1∧okP 4000 x.2.2.2.1)) (fun x=>[RV.d axf (eU bR (ptd (dec x.1) (dec x.2.1)) (ptd (dec x.1) (dec x.2.2.1)) (ptd (dec x.1) (dec x.2.2.2.1)))])
theorem z8:SpK 110 C3:=spX fun x h=>acv x.1 x.2.1 x.2.2.1 x.2.2.2.1 (atS h)
def Yy:Env:=(110,C3)::Wm
theorem FL:EnvAll Tryz.prog Yy:=⟨z8,Fp⟩
def aqx:Ctx:=CX Yy []
def ahf(c:BCU)(p:BP)(_k:KT):Option (List RV):=match !c.1 with|true=>(match decide (okP 4000 c.2.2.2.2.1∧okP 4000 p)with|true=>(match decide (okP 4000 p∧okP 4000 c.2.2.2.2.2)with|true=>(match(aW (dec c.2.2.2.2.1) (dec p))==0 with|true=>some [RV.d .bool true]|false=>(match(aW (dec p) (dec c.2.2.2.2.2))==0 with|true=>some [RV.d .bool true]|false=>some [RV.d .bool ((aW (dec c.2.2.2.2.1) (dec p))==(aW (dec p) (dec c.2.2.2.2.2)))]))|false=>none)|false=>none)|false=>(match decide (ok Ln 300 ((((hid (dP c)).2).2).1)∧okP 4000 ((((((hid (dP c)).2).2).2).2).1)∧okP 4000 p∧okP 4000 ((((((hid (dP c)).2).2).2).2).2))with|true=>some [RV.d .bool (decide ((eU bR (ptd (dec ((((hid (dP c)).2).2).1)) (dec ((((((hid (dP c)).2).2).2).2).1))) (ptd (dec ((((hid (dP c)).2).2).1)) (dec p)) (ptd (dec ((((hid (dP c)).2).2).1)) (dec ((((((hid (dP c)).2).2).2).2).2))))≤0))]|false=>none)
theorem apm(c:BCU)(p:BP):RS aqx 48 [.d tCU c,.d tP p] (ahf c p):=rsX
theorem aai(c:BCU)(p:BP)(h:okC 4000 c∧okP 4000 p):Con Tryz.prog 48 [.d tCU c,.d tP p] [.d .bool (gI (dC c) (dec p))]:=by
 refine aP FL (apm _ _ ⟨0,?_⟩)
 obtain⟨hc,hp⟩:=h
 obtain⟨ar,li,ci,cw,fr,to⟩:=c
 obtain⟨c1,c2,c3,c4⟩:=hc
 unfold ahf gI
 simp only[ak]
 cases ar
 ·try dsimp only[Bool.not_false]
  rw[dT ⟨c3,hp⟩,dT ⟨hp,c4⟩]
  show _=some [RV.d .bool (Az (aW (dec fr) (dec p)) (aW (dec p) (dec to)))]
  unfold Az
  dsimp only
  cases aW (dec fr) (dec p)==0<;>cases aW (dec p) (dec to)==0<;>rfl
 ·have e:=(c1 rfl).1
  cases cw
  ·rw[dT (show ok Ln 300 (dP (true,li,ci,false,fr,to)).2.2.1∧okP 4000 (dP (true,li,ci,false,fr,to)).2.2.2.2.1∧okP 4000 p∧okP 4000 (dP (true,li,ci,false,fr,to)).2.2.2.2.2 from⟨e,c3,hp,c4⟩)]
   rfl
  ·rw[dT (show ok Ln 300 (dP (true,li,ci,true,fr,to)).2.2.1∧okP 4000 (dP (true,li,ci,true,fr,to)).2.2.2.2.1∧okP 4000 p∧okP 4000 (dP (true,li,ci,true,fr,to)).2.2.2.2.2 from⟨e,c4,hp,c3⟩)]
   rfl
def Ds:aN:=spN true true [tCU,tP] (fun x=>decide (okC 4000 x.1∧okP 4000 x.2.1)) (fun x=>[RV.d .bool (gI (dC x.1) (dec x.2.1))])
theorem ye:SpK 48 Ds:=spX fun x h=>aai x.1 x.2.1 (atS h)
def agk:Env:=(48,Ds)::Yy
theorem RP:EnvAll Tryz.prog agk:=⟨ye,FL⟩
def aqy:Ctx:=CX agk []
def ahz(c:BCU)(p:BP)(_k:KT):Option (List RV):=match decide (okC 4000 c∧okP 4000 p)with|true=>(match fE (dC c) (dec p)with|true=>(match decide (okC 4000 c∧okP 4000 p)with|true=>some [RV.d .bool (gI (dC c) (dec p))]|false=>none)|false=>some [RV.d .bool false])|false=>none
theorem aoU(c:BCU)(p:BP):RS aqy 14 [.d tCU c,.d tP p] (ahz c p):=rsX
theorem ad9(c:BCU)(p:BP)(h:okC 4000 c∧okP 4000 p):Con Tryz.prog 14 [.d tCU c,.d tP p] [.d .bool (onP (dC c) (dec p))]:=by
 refine aP RP (aoU _ _ ⟨0,?_⟩)
 unfold ahz onP
 rw[dT h]
 dsimp only
 cases fE (dC c) (dec p)<;>rfl
def vX:aN:=spN true true [tCU,tP] (fun x=>decide (okC 4000 x.1∧okP 4000 x.2.1)) (fun x=>[RV.d .bool (onP (dC x.1) (dec x.2.1))])
theorem oV:SpK 14 vX:=spX fun x h=>ad9 x.1 x.2.1 (atS h)
theorem cE{j k:Nat}{x:BP}(h:okP j x)(hj:j≤k)(hk:k≤480000):okP k x:=by
 obtain⟨p,rfl,bp,rp⟩:=dz h
 exact atS (bG hj hk)
theorem cq{j k:Nat}{c:BCU}(h:okC j c)(hj:j≤k)(hk:k≤480000):okC k c:=⟨h.1,h.2.1,cE h.2.2.1 hj hk,cE h.2.2.2 hj hk⟩
end Go.Proofs.YtgddhgcjmddjfaaGreat
end
