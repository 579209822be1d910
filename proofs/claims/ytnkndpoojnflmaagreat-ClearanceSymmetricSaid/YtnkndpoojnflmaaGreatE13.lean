/- Lines and circles: the reference's contracts. -/
import Derived.Test.YtnkndpoojnflmaaGreatE12
noncomputable section
namespace Go.Proofs.YtnkndpoojnflmaaGreat
open Go.RowKit Go.IntKind
theorem alh:type_of% @List.mem_cons_of_mem:=@List.mem_cons_of_mem
theorem als:type_of% @Rat.div_mul_cancel:=@Rat.div_mul_cancel
theorem amA:type_of% @not_false_eq_true:=@not_false_eq_true
theorem am7:type_of% @Bool.eq_iff_iff:=@Bool.eq_iff_iff
def Gp(l:Ln)(p:Pt):Rt:=mkR (qy l p) (qz l p) p.2.2.2.2
def vJ(c:Ln)(p:Pt):Rt:=arT (sqP p (ctr c)) (-c.2.2)
instance aku {r:Rt} {a:Rat} [h:Rdd r]:Rdd (arT r a):=⟨h.rd⟩
instance TE {l:Ln} {p:Pt} [h:Rpd p]:Rdd (Gp l p):=by
 have:Nn p.2.2.2.2:=inferInstance
 exact sO
instance aiH {l:Ln} {p:Pt} {i j:Nat} [h:Bd l i] [h':Bd p j]:Bd (Gp l p) (5*i+5*j+5):=by
 have a1:Bd (qy l p) _:=inferInstance
 have a2:Bd (qz l p) _:=inferInstance
 have a3:Bd (mkR (qy l p) (qz l p) p.2.2.2.2) _:=inferInstance
 exact a3.mono (by omega)
theorem Sg{l:Ln}{p:Pt}[h:Rpd p]:sgR (Gp l p)=sR l p:=by
 unfold sR
 rw[E3 (TE (l:=l) (p:=p)).nn,RE.sgn2_re h.nn]
 unfold Gp
 rw[RE.vR_mk]
namespace RE
theorem Tm(a b q:RE):a+ -q+b=a+b-q:=by grind
theorem U1(a b q:RE):a-q+b=a+b-q:=by grind
theorem shift_l(a b d q:RE)(h:a+b=a+d):a+ -q+b=a-q+d:=by
 rw[Tm,U1,h]
end RE
theorem Vq{c:Ln}{p:Pt}[h:Rpd p]: -sgR (vJ c p)=ow c p:=by
 unfold ow
 have hr:Rdd (vJ c p):=inferInstanceAs (Rdd (arT (sqP p (ctr c)) (-c.2.2)))
 rw[E3 hr.nn,RE.sgn2_re h.nn]
 have e:RE.vR (vJ c p)=RE.v2 (sqA p (ctr c)-c.2.2) (sqB p (ctr c)) p.2.2.2.2:=by
  have e1:=RE.vR_co (sqA p (ctr c)) (sqB p (ctr c)) p.2.2.2.2
  unfold RE.vR RE.v2 at e1
  unfold vJ arT sqP RE.vR RE.v2
  simp only
  rw[RE.of_add,RE.of_neg,RE.of_sub]
  have e2:RE.of (coR (sqA p (ctr c)) (sqB p (ctr c)) p.2.2.2.2).1=RE.of (sqA p (ctr c)):=by
   unfold coR
   cases decide (sqB p (ctr c)=0)<;>rfl
  rw[e2]at e1 ⊢
  exact RE.shift_l _ _ _ _ e1
 rw[e]
theorem w7{q:Rat}(h:q≠0):aC q 0=if 0<q then 1 else-1:=by
 rcases(by grind:q<0∨0<q)with h'|h'
 ·rw[dJ h',alq (by grind)]
 ·rw[dp h',alx h']
def qg:List En:=[enT pg,enL oG,enL re,enL ux,enL rK,enT uk,enL uz,enL FL,enL ac0,enL Ly,enL ZO]
def P9(a:BR)(_k:KT):Option (List RV):=match decide (okR a∧okR a)with|true=>some [RV.d tR (hMu a a)]|false=>none
def acg:Cn 364 [tR]:=cn fun(a:BR)=>lf (okR a) [.d tR (am (ah a*ah a))] fun h=>by
 refine aA qg (P9 a) ⟨0,?_⟩
 unfold P9
 rw[dT ⟨h,h⟩]
 simp only[bL]
def OX:Cn 140 [tR,tR]:=cn fun(a b:BR)=>lf (okR a∧okR b) [.d tR (am (ah a+ah b))] fun h=>jJ [RV.d tR (hAd a b)] (du qg) h
def KS:Cn 238 [tR,tR]:=cn fun(a b:BR)=>lf (okR a∧okR b) [.d tR (am (ah a-ah b))] fun h=>jJ [RV.d tR (hSu a b)] (du qg) h
def FQ:Cn 141 [tR,tR]:=cn fun(a b:BR)=>lf (okR a∧okR b) [.d tR (am (ah a*ah b))] fun h=>jJ [RV.d tR (hMu a b)] (du qg) h
def PJ:Cn 248 [tR,tR]:=cn fun(a b:BR)=>lf (iv a b) [.d tR (am (ah a/ah b))] fun h=>jJ [RV.d tR (hDi a b)] (du qg) h
def t4:List En:=enL acg::enL OX::enL KS::enL FQ::enL PJ::qg
def Nk(r:BO3)(_k:KT):Option (List RV):=og (o1 r.1) (og (o1 r.2.1) (og (o2 (hid (am (ah r.2.1*ah r.2.1))) r.2.2) (og (o2 (hid (am (ah r.1*ah r.1))) (hMu (hid (am (ah r.2.1*ah r.2.1))) r.2.2)) (some [RV.d tR (hSu (hid (am (ah r.1*ah r.1))) (hMu (hid (am (ah r.2.1*ah r.2.1))) r.2.2))]))))
def aad:Cn 348 [tO]:=cn fun(r:BO3)=>lf (ok Rt 90000 r) [.d tR (am (noR (dec r)))] fun h=>by
 refine aA t4 (Nk r) ⟨0,?_⟩
 have hr:=h
 obtain⟨r,rfl,br⟩:=aF hr
 unfold Nk
 simp only[aU,Nat.reduceAdd,Nat.reduceLeDiff]
 rfl
def PO(l:BO3)(p:BP)(_k:KT):Option (List RV):=og (o2 l.1 p.1) (og (o2 l.2.1 p.2.2.1) (og (o2 (hMu l.1 p.1) (hMu l.2.1 p.2.2.1)) (og (o2 (hAd (hMu l.1 p.1) (hMu l.2.1 p.2.2.1)) l.2.2) (og (o2 l.1 p.2.1) (og (o2 l.2.1 p.2.2.2.1) (og (o2 (hMu l.1 p.2.1) (hMu l.2.1 p.2.2.2.1)) (og (decide (ok Rat 100000 (hSu (hAd (hMu l.1 p.1) (hMu l.2.1 p.2.2.1)) l.2.2)∧ok Rat 100000 (hAd (hMu l.1 p.2.1) (hMu l.2.1 p.2.2.2.1))∧ok Rat 100000 p.2.2.2.2∧0≤ah p.2.2.2.2)) (some [RV.d tO (hid (enc (mkR (ah (hSu (hAd (hMu l.1 p.1) (hMu l.2.1 p.2.2.1)) l.2.2)) (ah (hAd (hMu l.1 p.2.1) (hMu l.2.1 p.2.2.2.1))) (ah p.2.2.2.2))))]))))))))
def aa3:Cn 124 [tO,tP]:=cn fun(l:BO3) (p:BP)=>lf (ok Ln 300 l∧okP 4000 p) [.d tO (enc (Gp (dec l) (dec p)))] fun h=>by
 refine aA t4 (PO l p) ⟨0,?_⟩
 obtain⟨hl,hp⟩:=h
 obtain⟨l,rfl,bl⟩:=aF hl
 obtain⟨p,rfl,bp,rp⟩:=bS hp
 have hn:0≤p.2.2.2.2:=rp.nn
 unfold PO
 simp only[aU,Nat.reduceAdd,Nat.reduceLeDiff,dT hn]
 rfl
def K4(c:BO3)(p:BP)(_k:KT):Option (List RV):=og (decide (okP 3500 p∧ok (Rat×Rat) 300 (c.1,c.2.1))) (og (o1 c.2.2) (og (decide (ok Rt 100000 (hid (enc (sqP (dec p) (dec (c.1,c.2.1)))))∧ok Rat 100000 (hNe c.2.2))) (some [RV.d tO (hid (enc (arT (dec (hid (enc (sqP (dec p) (dec (c.1,c.2.1)))))) (ah (hNe c.2.2)))))])))
def abD:Cn 319 [tO,tP]:=cn fun(c:BO3) (p:BP)=>lf (ok Ln 300 c∧okP 3500 p) [.d tO (enc (vJ (dec c) (dec p)))] fun h=>by
 refine aA t4 (K4 c p) ⟨0,?_⟩
 obtain⟨hc,hp⟩:=h
 obtain⟨c,rfl,bc⟩:=aF hc
 obtain⟨p,rfl,bp,rp⟩:=bS hp
 have e0:(dec ((am c.1,am c.2.1):BV):Rat×Rat)=ctr c:=az (ctr c)
 have e1:decide (ok (Rat×Rat) 300 ((am c.1,am c.2.1):BV))=true:=okd (x:=ctr c) (by decide) (by decide)
 unfold K4
 simp only[aU,Nat.reduceAdd,Nat.reduceMul,Nat.reduceLeDiff,aN,e0,e1]
 rfl
def LB(l:BO3)(v:BV)(_k:KT):Option (List RV):=og (o2 l.1 l.1) (og (o2 l.2.1 l.2.1) (og (o2 (hMu l.1 l.1) (hMu l.2.1 l.2.1)) (og (o2 l.1 v.1) (og (o2 l.2.1 v.2) (og (o2 (hMu l.1 v.1) (hMu l.2.1 v.2)) (og (o2 l.2.2 (hAd (hMu l.1 v.1) (hMu l.2.1 v.2))) (og (decide (iv (hSu l.2.2 (hAd (hMu l.1 v.1) (hMu l.2.1 v.2))) (hAd (hMu l.1 l.1) (hMu l.2.1 l.2.1)))) (og (o2 (hDi (hSu l.2.2 (hAd (hMu l.1 v.1) (hMu l.2.1 v.2))) (hAd (hMu l.1 l.1) (hMu l.2.1 l.2.1))) l.1) (og (o2 v.1 (hMu (hDi (hSu l.2.2 (hAd (hMu l.1 v.1) (hMu l.2.1 v.2))) (hAd (hMu l.1 l.1) (hMu l.2.1 l.2.1))) l.1)) (og (o2 (hDi (hSu l.2.2 (hAd (hMu l.1 v.1) (hMu l.2.1 v.2))) (hAd (hMu l.1 l.1) (hMu l.2.1 l.2.1))) l.2.1) (og (o2 v.2 (hMu (hDi (hSu l.2.2 (hAd (hMu l.1 v.1) (hMu l.2.1 v.2))) (hAd (hMu l.1 l.1) (hMu l.2.1 l.2.1))) l.2.1)) (some [RV.d tV (hAd v.1 (hMu (hDi (hSu l.2.2 (hAd (hMu l.1 v.1) (hMu l.2.1 v.2))) (hAd (hMu l.1 l.1) (hMu l.2.1 l.2.1))) l.1),hAd v.2 (hMu (hDi (hSu l.2.2 (hAd (hMu l.1 v.1) (hMu l.2.1 v.2))) (hAd (hMu l.1 l.1) (hMu l.2.1 l.2.1))) l.2.1))]))))))))))))
def abU:Cn 138 [tO,tV]:=cn fun(l:BO3) (v:BV)=>lf (ok Ln 300 l∧ok (Rat×Rat) 200 v∧((dec l:Ln).1≠0∨(dec l:Ln).2.1≠0)) [.d tV (enc (d7 (dec l) (dec v)))] fun h=>by
 refine aA t4 (LB l v) ⟨0,?_⟩
 obtain⟨hl,hv,h0⟩:=h
 obtain⟨l,rfl,bl⟩:=aF hl
 obtain⟨v,rfl,bv⟩:=aF hv
 have hn:l.1*l.1+l.2.1*l.2.1≠0:=jY (by rw[az]at h0;exact h0)
 have e:(l.2.2-(l.1*v.1+l.2.1*v.2))/(l.1*l.1+l.2.1*l.2.1)= -mh l v:=by
  unfold mh
  grind
 unfold LB
 simp only[aU,Nat.reduceAdd,Nat.reduceLeDiff,hn,ne_eq,amA]
 unfold d7
 rw[e,show v.1+ -mh l v*l.1=v.1-mh l v*l.1 by grind,show v.2+ -mh l v*l.2.1=v.2-mh l v*l.2.1 by grind]
 rfl
def Iu:List En:=enL aad::enL aa3::enL abD::enL abU::t4
def Mu(r:BO3)(_k:KT):Option (List RV):=og (o1 r.1) (og (o1 r.2.1) (match(aC (ah r.1) 0)==(aC (ah r.2.1) 0)with|true=>some [RV.d aon (aC (ah r.1) 0)]|false=>(match(aC (ah r.2.1) 0)==0 with|true=>some [RV.d aon (aC (ah r.1) 0)]|false=>(match(aC (ah r.1) 0)==0 with|true=>some [RV.d aon (aC (ah r.2.1) 0)]|false=>(og (decide (ok Rt 90000 r)) (og (o1 (hid (am (noR (dec r))))) (match decide ((aC (ah (hid (am (noR (dec r))))) 0)>0)with|true=>some [RV.d aon (aC (ah r.1) 0)]|false=>some [RV.d aon (aC (ah r.2.1) 0)])))))))
def aaL:Cn 318 [tO]:=cn fun(r:BO3)=>lf (okT 90000 r) [.d aon (sgR (dec r))] fun h=>by
 refine aA Iu (Mu r) ⟨0,?_⟩
 have hr:=h
 obtain⟨r,rfl,br,rr⟩:=gk hr
 unfold Mu
 simp only[aU,Nat.reduceAdd,Nat.reduceMul,Nat.reduceLeDiff,aq,av]
 rw[YX rr]
 by_cases hb:r.2.1=0
 ·rw[ak3 hb,hb,dV]
  by_cases ha:aC r.1 0=0
  ·rw[ha];rfl
  ·rw[show(aC r.1 0==0)=false by simp[ha]];rfl
 ·have hn:=aaF rr hb
  have e2:=w7 hn
  have hb2:=w7 hb
  rw[ak5 hb,show(aC r.2.1 0==0)=false by rw[aq,ak5 hb]]
  by_cases ha:r.1=0
  ·rw[ak3 ha,ha,dV,show((0:Int)==aC r.2.1 0)=false by rw[hb2];split<;>rfl]
   rfl
  ·have ha2:=w7 ha
   rw[ak5 ha,show(aC r.1 0==0)=false by rw[aq,ak5 ha]]
   cases hq:(aC r.1 0==aC r.2.1 0)
   ·have hne:aC r.1 0≠aC r.2.1 0:=by simpa using hq
    rw[e2]
    by_cases hp:0<noR r
    ·rw[ak3 hp,alx hp,ans]
     rfl
    ·rw[ak5 hp,alq hp]
     show some [RV.d aon (aC r.2.1 0)]=some [RV.d aon (aC r.1 0* -1)]
     rw[show aC r.2.1 0=aC r.1 0* -1 by
      rw[ha2,hb2]at hne ⊢
      split at hne<;>split at hne<;>simp_all]
   ·rfl
def IT:List En:=enT aaL::Iu
def MF(l:BO3)(p:BP)(_k:KT):Option (List RV):=og (decide (ok Ln 300 l∧okP 4000 p)) (og (decide (okT 90000 (hid (enc (Gp (dec l) (dec p)))))) (some [RV.d aon (sgR (dec (hid (enc (Gp (dec l) (dec p))))))]))
def ZR:Cn 259 [tO,tP]:=cn fun(l:BO3) (p:BP)=>lf (ok Ln 300 l∧okP 4000 p) [.d aon (sR (dec l) (dec p))] fun h=>by
 refine aA IT (MF l p) ⟨0,?_⟩
 obtain⟨hl,hp⟩:=h
 obtain⟨l,rfl,bl⟩:=aF hl
 obtain⟨p,rfl,bp,rp⟩:=bS hp
 unfold MF
 simp only[aU,Nat.reduceAdd,Nat.reduceMul,Nat.reduceLeDiff,aM,aN]
 rw[Sg]
def KQ(c:BO3)(p:BP)(_k:KT):Option (List RV):=og (decide (ok Ln 300 c∧okP 3500 p)) (og (decide (okT 90000 (hid (enc (vJ (dec c) (dec p)))))) (some [RV.d aon (i64.wrap (0-(sgR (dec (hid (enc (vJ (dec c) (dec p))))))))]))
def acw:Cn 258 [tO,tP]:=cn fun(c:BO3) (p:BP)=>lf (ok Ln 300 c∧okP 3500 p) [.d aon (ow (dec c) (dec p))] fun h=>by
 refine aA IT (KQ c p) ⟨0,?_⟩
 obtain⟨hc,hp⟩:=h
 obtain⟨c,rfl,bc⟩:=aF hc
 obtain⟨p,rfl,bp,rp⟩:=bS hp
 have hr:Rdd (vJ c p):=inferInstanceAs (Rdd (arT (sqP p (ctr c)) (-c.2.2)))
 have br:Bd (vJ c p) 90000:=(inferInstance:Bd (arT (sqP p (ctr c)) (-c.2.2)) _).mono (by decide)
 have hb: -1≤sgR (vJ c p)∧sgR (vJ c p)≤1:=ld _ _ _
 unfold KQ
 simp only[aU,Nat.reduceLeDiff,aM,aN,amZ,aS (x:= -sgR (vJ c p)) (by omega) (by omega)]
 rw[Vq]
abbrev tCU:Ty:=.st (.pair .bool (.pair tO (.pair tO (.pair .bool (.pair tP tP)))))
abbrev BCU:=Bool×BO3×BO3×Bool×BP×BP
abbrev Cv:=Bool×Ln×Ln×Bool×Pt×Pt
def dC(c:BCU):Cv:=(c.1,dec c.2.1,dec c.2.2.1,c.2.2.2.1,dec c.2.2.2.2.1,dec c.2.2.2.2.2)
def vu(x:BO3):Prop:=ok Ln 300 x∧(0:Rat)<(dec x:Ln).2.2
instance (x:BO3):Decidable (vu x):=by unfold vu;infer_instance
def SO(x:BO3):Prop:=ok Ln 300 x∧((dec x:Ln).1≠0∨(dec x:Ln).2.1≠0)
instance (x:BO3):Decidable (SO x):=by unfold SO;infer_instance
def okC(k:Nat)(c:BCU):Prop:=(c.1=true→vu c.2.2.1)∧(c.1=false→SO c.2.1)∧okP k c.2.2.2.2.1∧okP k c.2.2.2.2.2
instance (k:Nat) (c:BCU):Decidable (okC k c):=by unfold okC;infer_instance
def frC(c:Cv):Pt:=c.2.2.2.2.1
def toC(c:Cv):Pt:=c.2.2.2.2.2
def lnC(c:Cv):Ln:=c.2.1
def ciC(c:Cv):Ln:=c.2.2.1
def cwC(c:Cv):Bool:=c.2.2.2.1
def fZ(c:Cv)(p:Pt):Bool:=bif c.1 then ow (ciC c) p==0 else sR (lnC c) p==0
def upR(c:Ln)(p:Pt):Bool:=decide (fR (yP p) c.2.1>0)||(fR (yP p) c.2.1==0&&decide (fR (xP p) c.1>0))
def ptd(c:Ln)(p:Pt):Bool×Rt:=(upR c p,xP p)
def Dq(c:Ln)(p:Pt):Int:=bif upR c p then 0 else 1
def ccF(c:Cv):Pt:=bif cwC c then toC c else frC c
def ccT(c:Cv):Pt:=bif cwC c then frC c else toC c
def ik(c:Cv)(p:Pt):Bool:=bif c.1 then decide (gF a8 (ptd (ciC c) (ccF c)) (ptd (ciC c) p) (ptd (ciC c) (ccT c))≤0)else oo (aV (frC c) p) (aV p (toC c))
def onP(c:Cv)(p:Pt):Bool:=fZ c p&&ik c p
def dX(c:BCU):BCU:=(c.1,c.2.1,c.2.2.1,c.1&&!c.2.2.2.1,c.2.2.2.2.2,c.2.2.2.2.1)
def dS(c:BCU):BCU:=bif c.2.2.2.1 then dX c else c
def flP(p:Pt):Pt:=(-p.1,-p.2.1,p.2.2.1,p.2.2.2.1,p.2.2.2.2)
def flC(c:Ln):Ln:=(-c.1,c.2.1,c.2.2)
def df(c:Cv)(p q:Pt):Int:=bif c.1 then(bif cwC c then j9 a8 (ptd (flC (ciC c)) (flP (frC c))) (ptd (flC (ciC c)) (flP p)) (ptd (flC (ciC c)) (flP q))else j9 a8 (ptd (ciC c) (frC c)) (ptd (ciC c) p) (ptd (ciC c) q))
 else(bif decide (aV (frC c) (toC c)>0)then-aV p q else aV p q)
def onR(c:Cv)(p:Pt):Bool:=fZ c p&&(decide (df c (frC c) p≤0)&&decide (df c p (toC c)≤0))
theorem Bq(k:Nat){c:BCU}(h:okC k c):okC k (dX c):=⟨h.1,h.2.1,h.2.2.2,h.2.2.1⟩
theorem pZ(p q:Pt): -1≤aV p q∧aV p q≤1:=by
 unfold aV
 cases a8 (xP p) (xP q)==0
 ·exact v9 _ _
 ·exact v9 _ _
theorem HF{p q:Bool×Rt}:0≤ot a8 p q∧ot a8 p q≤2:=by
 unfold ot
 cases rQ a8 q p==0<;>cases decide (rQ a8 q p>0)<;>simp only[cond_true,cond_false]<;>omega
def wC(c:BCU):BCU:=(c.1,c.2.1,(am (-ah c.2.2.1.1),c.2.2.1.2),!c.2.2.2.1,enc (flP (dec c.2.2.2.2.1)),enc (flP (dec c.2.2.2.2.2)))
instance akV {p:Pt} [h:Rpd p]:Rpd (flP p):=by
 refine⟨?_⟩
 have:=h.rd
 unfold EZ flP at*
 simp only
 have e:(-p.2.1=0)↔p.2.1=0:=by constructor<;>intro h<;>grind
 rw[e]
 exact this
instance akG {p:Pt} {j:Nat} [h:Bd p j]:Bd (flP p) j:=by
 have i1:Bd ((-p.1,-p.2.1,p.2.2.1,p.2.2.2.1,p.2.2.2.2):Pt) _:=inferInstance
 exact i1.mono (fq (by omega) (fq (by omega) (fq (by omega) (fq (by omega) (by omega)))))
theorem qf{j k:Nat}{x:BP}(h:okP j x)(hj:j≤k)(hk:k≤480000):okP k x:=by
 obtain⟨p,rfl,bp,rp⟩:=bS h
 exact ak6 (aN hj hk)
theorem KG{j k:Nat}{c:BCU}(h:okC j c)(hj:j≤k)(hk:k≤480000):okC k c:=⟨h.1,h.2.1,qf h.2.2.1 hj hk,qf h.2.2.2 hj hk⟩
theorem GR{x:BP}(h:okP 4000 x):okP 4000 (enc (flP (dec x))):=by
 obtain⟨p,rfl,bp,rp⟩:=bS h
 rw[az]
 exact ak6 (aN (x:=flP p) (by decide) (by decide))
theorem ac5{x:BO3}(h:ok Ln 300 x):ok Ln 300 ((am (-ah x.1),x.2):BO3)∧(dec ((am (-ah x.1),x.2):BO3):Ln)=flC (dec x):=by
 obtain⟨l,rfl,bl⟩:=aF h
 have e:((am (-ah (enc l:BO3).1),(enc l:BO3).2):BO3)=enc (flC l):=by
  rw[rW,eT,cB]
  rfl
 rw[e,az,az]
 refine⟨?_,rfl⟩
 have i1:Bd (flC l) 300:=(inferInstance:Bd ((-l.1,l.2.1,l.2.2):Ln) _).mono (by decide)
 exact ak6 (okd (x:=flC l) (ak9 _) (by decide))
def zZ:List En:=[enL uz,enT N8,enT R4,enL WM,enL Xx,enT xD,enT ZR,enT acw]
def Xy(c:BCU)(p:BP)(_k:KT):Option (List RV):=match c.1 with|true=>(og (decide (ok Ln 300 c.2.2.1∧okP 3500 p)) (some [RV.d .bool ((ow (dec c.2.2.1) (dec p))==0)]))|false=>(og (decide (ok Ln 300 c.2.1∧okP 4000 p)) (some [RV.d .bool ((sR (dec c.2.1) (dec p))==0)]))
def aft:Cn 150 [tCU,tP]:=cn fun(c:BCU) (p:BP)=>lf (okC 3500 c∧okP 3500 p) [.d .bool (fZ (dC c) (dec p))] fun h=>by
 refine aA zZ (Xy c p) ⟨0,?_⟩
 obtain⟨hc,hp⟩:=h
 have op:decide (okP 3500 p)=true:=ak3 hp
 have op4:decide (okP 4000 p)=true:=ak3 (qf hp (by decide) (by decide))
 obtain⟨ar,li,ci,cw,fr,to⟩:=c
 obtain⟨c1,c2,_⟩:=hc
 unfold Xy
 cases ar
 ·have e:=(c2 rfl).1
  simp only[am4,dT e,op4,amC]
  rfl
 ·have e:=(c1 rfl).1
  simp only[am4,dT e,op,amC]
  rfl
def Wi(c:BO3)(p:BP)(_k:KT):Option (List RV):=og (decide (okP 4000 p)) (og (decide (okT 15000 (hid (enc (yP (dec p))))∧ok Rat 15000 c.2.1)) (match decide ((fR (dec (hid (enc (yP (dec p))))) (ah c.2.1))>0)with|true=>some [RV.d .bool true]|false=>(match(fR (dec (hid (enc (yP (dec p))))) (ah c.2.1))==0 with|true=>(og (decide (okP 4000 p)) (og (decide (okT 15000 (hid (enc (xP (dec p))))∧ok Rat 15000 c.1)) (some [RV.d .bool (decide ((fR (dec (hid (enc (xP (dec p))))) (ah c.1))>0))])))|false=>some [RV.d .bool false])))
def agq:Cn 320 [tO,tP]:=cn fun(c:BO3) (p:BP)=>lf (ok Ln 300 c∧okP 4000 p) [.d .bool (upR (dec c) (dec p))] fun h=>by
 refine aA zZ (Wi c p) ⟨0,?_⟩
 obtain⟨hc,hp⟩:=h
 obtain⟨c,rfl,bc⟩:=aF hc
 obtain⟨p,rfl,bp,rp⟩:=bS hp
 unfold Wi upR
 simp only[aU,Nat.reduceLeDiff,aM,aN]
 cases decide (fR (yP p) c.2.1>0)<;>cases fR (yP p) c.2.1==0<;>rfl
def YC(p:BP)(_k:KT):Option (List RV):=og (o1 p.1) (og (o1 p.2.1) (some [RV.d tP (hNe p.1,(hNe p.2.1,p.2.2))]))
def adM:Cn 155 [tP]:=cn fun(p:BP)=>lf (okP 4000 p) [.d tP (enc (flP (dec p)))] fun h=>by
 refine aA zZ (YC p) ⟨0,?_⟩
 have hp:=h
 obtain⟨p,rfl,bp,rp⟩:=bS hp
 unfold YC
 simp only[aU,Nat.reduceLeDiff]
 rfl
def aij:Ctx:=CX (ens zZ) []
def afV(c:BCU)(_k:KT):Option (List RV):=match c.1 with|true=>some [RV.d tCU (c.1,(c.2.1,(c.2.2.1,(!c.2.2.2.1,(c.2.2.2.2.2,c.2.2.2.2.1)))))]|false=>some [RV.d tCU (c.1,(c.2.1,(c.2.2.1,(false,(c.2.2.2.2.2,c.2.2.2.2.1)))))]
theorem ahB(c:BCU):RS aij 16 [.d tCU c] (afV c):=rsX
def H9:Cn 16 [tCU]:=cn fun(c:BCU)=>lf True [.d tCU (dX c)] fun _=>by
 refine c7 zZ (ahB _ ⟨0,?_⟩)
 obtain⟨ar,li,ci,cw,fr,to⟩:=c
 cases ar<;>rfl
def OI:List En:=enT aft::enT agq::enL adM::enL H9::zZ
def YQ(c:BO3)(p q:BP)(_k:KT):Option (List RV):=og (decide (ok Ln 300 c∧okP 4000 p)) (og (decide (ok Ln 300 c∧okP 4000 q)) (match !((upR (dec c) (dec p))==(upR (dec c) (dec q)))with|true=>(match upR (dec c) (dec q)with|true=>some [RV.d aon (-1)]|false=>some [RV.d aon 1])|false=>(og (decide (okP 4000 p)) (og (decide (okP 4000 q)) (og (decide (okT 15000 (hid (enc (xP (dec p))))∧okT 15000 (hid (enc (xP (dec q)))))) (match upR (dec c) (dec p)with|true=>some [RV.d aon (i64.wrap (0-(a8 (dec (hid (enc (xP (dec p))))) (dec (hid (enc (xP (dec q))))))))]|false=>some [RV.d aon (a8 (dec (hid (enc (xP (dec p))))) (dec (hid (enc (xP (dec q))))))]))))))
def aep:Cn 261 [tO,tP,tP]:=cn fun(c:BO3) (p q:BP)=>lf (ok Ln 300 c∧okP 4000 p∧okP 4000 q) [.d aon (jK a8 (ptd (dec c) (dec p)) (ptd (dec c) (dec q)))] fun h=>by
 refine aA OI (YQ c p q) ⟨0,?_⟩
 obtain⟨hc,hp,hq⟩:=h
 obtain⟨c,rfl,bc⟩:=aF hc
 obtain⟨p,rfl,bp,rp⟩:=bS hp
 obtain⟨q,rfl,bq,rq⟩:=bS hq
 have xb:=v9 (xP p) (xP q)
 unfold YQ
 simp only[aU,Nat.reduceLeDiff,aM,aN,aS (x:= -a8 (xP p) (xP q)) (by omega) (by omega),amZ]
 unfold jK ptd
 cases upR c p<;>cases upR c q<;>rfl
def YI(c:BCU)(_k:KT):Option (List RV):=match decide (okR c.2.2.1.1)with|true=>(match decide (okP 4000 c.2.2.2.2.1)with|true=>(match decide (okP 4000 c.2.2.2.2.2)with|true=>some [RV.d tCU (c.1,(c.2.1,((hNe c.2.2.1.1,c.2.2.1.2),(!c.2.2.2.1,(hid (enc (flP (dec c.2.2.2.2.1))),hid (enc (flP (dec c.2.2.2.2.2))))))))]|false=>none)|false=>none)|false=>none
def agS:Cn 154 [tCU]:=cn fun(c:BCU)=>lf (vu c.2.2.1∧okP 4000 c.2.2.2.2.1∧okP 4000 c.2.2.2.2.2) [.d tCU (wC c)] fun h=>by
 refine aA OI (YI c) ⟨0,?_⟩
 obtain⟨hc,hf,ht⟩:=h
 have e:okR c.2.2.1.1:=by
  obtain⟨l,hl,bl⟩:=aF hc.1
  rw[hl,rW,eT]
  exact ak6 (ID (q:=l.1) (by decide))
 unfold YI
 rw[dT e,dT hf,dT ht]
 simp only[bL]
 rfl
def W6:List En:=enT aep::enL agS::OI
def Wc(c:BO3)(f p q:BP)(_k:KT):Option (List RV):=og (decide (ok Ln 300 c∧okP 4000 p∧okP 4000 f)) (og (decide (ok Ln 300 c∧okP 4000 q∧okP 4000 f)) (match !((decide ((jK a8 (ptd (dec c) (dec p)) (ptd (dec c) (dec f)))<0))==(decide ((jK a8 (ptd (dec c) (dec q)) (ptd (dec c) (dec f)))<0)))with|true=>(match decide ((jK a8 (ptd (dec c) (dec q)) (ptd (dec c) (dec f)))<0)with|true=>some [RV.d aon (-1)]|false=>some [RV.d aon 1])|false=>(og (decide (ok Ln 300 c∧okP 4000 p∧okP 4000 q)) (some [RV.d aon (jK a8 (ptd (dec c) (dec p)) (ptd (dec c) (dec q)))]))))
def agN:Cn 153 [tO,tP,tP,tP]:=cn fun(c:BO3) (f p q:BP)=>lf (ok Ln 300 c∧okP 4000 f∧okP 4000 p∧okP 4000 q) [.d aon (j9 a8 (ptd (dec c) (dec f)) (ptd (dec c) (dec p)) (ptd (dec c) (dec q)))] fun h=>by
 refine aA W6 (Wc c f p q) ⟨0,?_⟩
 obtain⟨hc,hf,hp,hq⟩:=h
 unfold Wc j9
 rw[dT (show ok Ln 300 c∧okP 4000 p∧okP 4000 f from⟨hc,hp,hf⟩),dT (show ok Ln 300 c∧okP 4000 q∧okP 4000 f from⟨hc,hq,hf⟩),dT (show ok Ln 300 c∧okP 4000 p∧okP 4000 q from⟨hc,hp,hq⟩)]
 cases decide (jK a8 (ptd (dec c) (dec p)) (ptd (dec c) (dec f))<0)<;>cases decide (jK a8 (ptd (dec c) (dec q)) (ptd (dec c) (dec f))<0)<;>rfl
def W5:List En:=enT agN::W6
def Xo(c:BCU)(p q:BP)(_k:KT):Option (List RV):=match !c.1 with|true=>(og (decide (okP 4000 p∧okP 4000 q)) (og (decide (okP 4000 c.2.2.2.2.1∧okP 4000 c.2.2.2.2.2)) (match decide ((aV (dec c.2.2.2.2.1) (dec c.2.2.2.2.2))>0)with|true=>some [RV.d aon (i64.wrap (0-(aV (dec p) (dec q))))]|false=>some [RV.d aon (aV (dec p) (dec q))])))|false=>(match !c.2.2.2.1 with|true=>(og (decide (ok Ln 300 c.2.2.1∧okP 4000 c.2.2.2.2.1∧okP 4000 p∧okP 4000 q)) (some [RV.d aon (j9 a8 (ptd (dec c.2.2.1) (dec c.2.2.2.2.1)) (ptd (dec c.2.2.1) (dec p)) (ptd (dec c.2.2.1) (dec q)))]))|false=>(og (decide (vu c.2.2.1∧okP 4000 c.2.2.2.2.1∧okP 4000 c.2.2.2.2.2)) (og (decide (okP 4000 p)) (og (decide (okP 4000 q)) (og (decide (ok Ln 300 ((((hid (wC c)).2).2).1)∧okP 4000 ((((((hid (wC c)).2).2).2).2).1)∧okP 4000 (hid (enc (flP (dec p))))∧okP 4000 (hid (enc (flP (dec q)))))) (some [RV.d aon (j9 a8 (ptd (dec ((((hid (wC c)).2).2).1)) (dec ((((((hid (wC c)).2).2).2).2).1))) (ptd (dec ((((hid (wC c)).2).2).1)) (dec (hid (enc (flP (dec p)))))) (ptd (dec ((((hid (wC c)).2).2).1)) (dec (hid (enc (flP (dec q)))))))]))))))
def Hw:Cn 61 [tCU,tP,tP]:=cn fun(c:BCU) (p q:BP)=>lf (okC 4000 c∧okP 4000 p∧okP 4000 q) [.d aon (df (dC c) (dec p) (dec q))] fun h=>by
 refine aA W5 (Xo c p q) ⟨0,?_⟩
 obtain⟨hc,hp,hq⟩:=h
 have xb:=pZ (dec p) (dec q)
 obtain⟨ar,li,ci,cw,fr,to⟩:=c
 obtain⟨c1,c2,c3,c4⟩:=hc
 simp only at c1 c2 c3 c4
 unfold Xo df
 cases ar
 ·simp only[amZ,aS (x:= -aV (dec p) (dec q)) (by omega) (by omega),dT (show okP 4000 p∧okP 4000 q from⟨hp,hq⟩),dT (show okP 4000 fr∧okP 4000 to from⟨c3,c4⟩),Bool.not_false]
  simp only[dC,frC,toC,cond_false]
  by_cases hd:aV (dec fr) (dec to)>0
  ·simp[hd]
  ·simp[hd]
 ·have e:=(c1 rfl).1
  have hci:=c1 rfl
  obtain⟨f1,f2⟩:=ac5 e
  cases cw
  ·simp only[dT (show ok Ln 300 ci∧okP 4000 fr∧okP 4000 p∧okP 4000 q from⟨e,c3,hp,hq⟩),Bool.not_true,Bool.not_false]
   rfl
  ·have hm:ok Ln 300 (wC (true,li,ci,true,fr,to)).2.2.1∧okP 4000 (wC (true,li,ci,true,fr,to)).2.2.2.2.1∧okP 4000 (enc (flP (dec p)))∧okP 4000 (enc (flP (dec q))):=⟨f1,GR c3,GR hp,GR hq⟩
   have m1:(dec (wC (true,li,ci,true,fr,to)).2.2.1:Ln)=flC (dec ci):=f2
   have m2:(dec (wC (true,li,ci,true,fr,to)).2.2.2.2.1:Pt)=flP (dec fr):=az _
   simp only[bL,dT (show vu ci∧okP 4000 fr∧okP 4000 to from⟨hci,c3,c4⟩),dT hp,dT hq,dT hm,Bool.not_true,m1,m2,az]
   rfl
def afW:List En:=enT Hw::W5
def VW(c:BCU)(p:BP)(_k:KT):Option (List RV):=og (decide (okC 3500 c∧okP 3500 p)) (match fZ (dC c) (dec p)with|true=>(og (decide (okC 4000 c∧okP 4000 c.2.2.2.2.1∧okP 4000 p)) (match decide ((df (dC c) (dec c.2.2.2.2.1) (dec p))≤0)with|true=>(og (decide (okC 4000 c∧okP 4000 p∧okP 4000 c.2.2.2.2.2)) (some [RV.d .bool (decide ((df (dC c) (dec p) (dec c.2.2.2.2.2))≤0))]))|false=>some [RV.d .bool false]))|false=>some [RV.d .bool false])
def Na:Cn 58 [tCU,tP]:=cn fun(c:BCU) (p:BP)=>lf (okC 3500 c∧okP 3500 p) [.d .bool (onR (dC c) (dec p))] fun h=>by
 refine aA afW (VW c p) ⟨0,?_⟩
 obtain⟨hc,hp⟩:=h
 have hc4:=KG (k:=4000) hc (by decide) (by decide)
 have hp4:=qf (k:=4000) hp (by decide) (by decide)
 unfold VW onR
 rw[dT (show okC 3500 c∧okP 3500 p from⟨hc,hp⟩),dT (show okC 4000 c∧okP 4000 c.2.2.2.2.1∧okP 4000 p from⟨hc4,hc4.2.2.1,hp4⟩),dT (show okC 4000 c∧okP 4000 p∧okP 4000 c.2.2.2.2.2 from⟨hc4,hp4,hc4.2.2.2⟩)]
 cases fZ (dC c) (dec p)
 ·rfl
 ·show(match decide (df (dC c) (frC (dC c)) (dec p)≤0)with|true=>some [RV.d .bool (decide (df (dC c) (dec p) (toC (dC c))≤0))]|false=>some [RV.d .bool false])=_
  cases decide (df (dC c) (frC (dC c)) (dec p)≤0)<;>rfl
section
namespace RE
theorem Jv{u v:RE}:cls u v=2↔v=0∧¬0<u:=by
 unfold cls
 rcases bg v with⟨a,h1⟩|⟨a,h1⟩|⟨a,h1⟩<;>rcases bg u with⟨b,h2⟩|⟨b,h2⟩|⟨b,h2⟩<;>rw[h1,h2]
 all_goals first
  |exact⟨fun _=>⟨a,fun h=>by rw[b]at h;exact lt_irrefl _ h⟩,fun _=>rfl⟩
  |exact⟨fun _=>⟨a,fun h=>lt_irrefl _ (cV h b)⟩,fun _=>rfl⟩
  |(refine⟨fun h=>absurd h (by decide),fun h=>?_⟩;first|(rw[h.1]at a;exact absurd a (lt_irrefl _))|exact absurd b h.2)
theorem uq{u v Q:RE}(hQ:0<Q)(h:u*u+v*v=Q)(hv:v=0)(hu:¬0<u):u<0:=by
 rcases mN u 0 with e|e|e
 ·exact e
 ·rw[e,hv,mul_zero,add_zero]at h
  rw[←h]at hQ
  exact absurd hQ (lt_irrefl _)
 ·exact absurd e hu
theorem J0(u w Q:RE):((u-(0))*(u-(w)))+((w-(0))*(u-(w)))+((Q-(u*u)))+((w*w-(Q)))=0:=by grind
theorem G8(u w Q:RE)(h1:u*u=Q)(h2:w*w=Q)(h3:0<u)(h4:0<w):u≤w:=fun hg=>far (aI (aI (aI (mul_pos (aJ h3) (aJ hg)) (le_of_lt (mul_pos (aJ h4) (aJ hg)))) (aD (n4 h1))) (aD (lh h2))) (J0 u w Q)
theorem JR(u w Q:RE):((0-(u))*(u-(w)))+((0-(w))*(u-(w)))+((u*u-(Q)))+((Q-(w*w)))=0:=by grind
theorem I5(u w Q:RE)(h1:u*u=Q)(h2:w*w=Q)(h3:u<0)(h4:w<0):u≤w:=fun hg=>far (aI (aI (aI (mul_pos (aJ h3) (aJ hg)) (le_of_lt (mul_pos (aJ h4) (aJ hg)))) (aD (lh h1))) (aD (n4 h2))) (JR u w Q)
theorem EC(x y c:RE)(h1:x-c<y-c):x<y:=by grind
theorem J8(x y c:RE)(h1:x-c=y-c):x≤y:=by grind
theorem J7(x y c:RE)(h1:x-c=y-c):y≤x:=by grind
theorem gI(x y c:RE)(h1:x-c=y-c):x=y:=le_antisymm (J8 x y c h1) (J7 x y c h1)
theorem Cy(x c:RE): -x- -c= -(x-c):=by grind
theorem S2(x y:RE): -x- -y=y-x:=by grind
theorem aaS(a b r:RE): -a+ -b*r= -(a+b*r):=by grind
theorem Mh(x q:RE)(h1:x+ -q=0):x≤q:=by grind
theorem OH(x q:RE)(h1:x+ -q=0):q≤x:=by grind
theorem Is(x q:RE)(h1:x+ -q=0):x=q:=le_antisymm (Mh x q h1) (OH x q h1)
section
variable {x y x' y' cx cy Q:RE}
theorem c8(hQ:0<Q)(h:(x-cx)*(x-cx)+(y-cy)*(y-cy)=Q)(h':(x'-cx)*(x'-cx)+(y'-cy)*(y'-cy)=Q){L:List RE}(hx:x∈L)(hx':x'∈L):
  m5 (cls (x-cx) (y-cy)) (rk (fun a b:RE=>a<b) L x) (cls (x'-cx) (y'-cy)) (rk (fun a b:RE=>a<b) L x')=true:=by
 unfold m5
 rw[ak7]
 have vv:∀{u v:RE},u*u+v*v=Q→v=0→u*u=Q:=fun h e=>by rw[e,mul_zero,add_zero]at h;exact h
 refine⟨?_,?_⟩
 ·by_cases e:cls (x-cx) (y-cy)=0
  ·obtain⟨e1,e2⟩:=IK.1 e
   rw[e]
   by_cases e':cls (x'-cx) (y'-cy)=0
   ·obtain⟨f1,f2⟩:=IK.1 e'
    rw[e']
    have:=gI _ _ cx (le_antisymm (G8 _ _ _ (vv h e1) (vv h' f1) e2 f2) (G8 _ _ _ (vv h' f1) (vv h e1) f2 e2))
    rw[this]
    simp
   ·have hle:=acI _ _ _ _ _ h h' e1 e2 (gn (y'-cy))
    have hlt:x'-cx<x-cx:=by
     rcases mN (x'-cx) (x-cx)with g|g|g
     ·exact g
     ·exfalso
      have z:=QY (x-cx) (x'-cx) (y'-cy) Q (vv h e1) h' (by rw[g])
      exact e' (IK.2 ⟨wc z,by rw[g];exact e2⟩)
     ·exact absurd g ((A5 _ _).1 hle)
    have:=Ei lt_lin (EC _ _ _ hlt) hx'
    rw[show(cls (x'-cx) (y'-cy)==0)=false by simp[e']]
    simp[this]
  ·simp[e]
 ·by_cases e:cls (x-cx) (y-cy)=2
  ·obtain⟨e1,e2⟩:=Jv.1 e
   have e3:=uq hQ h e1 e2
   rw[e]
   by_cases e':cls (x'-cx) (y'-cy)=2
   ·obtain⟨f1,f2⟩:=Jv.1 e'
    have f3:=uq hQ h' f1 f2
    rw[e']
    have:=gI _ _ cx (le_antisymm (I5 _ _ _ (vv h e1) (vv h' f1) e3 f3) (I5 _ _ _ (vv h' f1) (vv h e1) f3 e3))
    rw[this]
    simp
   ·have hle:=acY _ _ _ _ _ h h' e1 e3 (gn (y'-cy))
    have hlt:x-cx<x'-cx:=by
     rcases mN (x-cx) (x'-cx)with g|g|g
     ·exact g
     ·exfalso
      have z:=QY (x-cx) (x'-cx) (y'-cy) Q (vv h e1) h' (by rw[g])
      exact e' (Jv.2 ⟨wc z,by rw[←g];exact e2⟩)
     ·exact absurd g ((A5 _ _).1 hle)
    have:=Ei lt_lin (EC _ _ _ hlt) hx
    rw[show(cls (x'-cx) (y'-cy)==2)=false by simp[e']]
    simp[this]
  ·simp[e]
end
def onCi(c:Ln)(p:Pt):Prop:=(pX p-of c.1)*(pX p-of c.1)+(pY p-of c.2.1)*(pY p-of c.2.1)=of c.2.2
theorem ins_on{c:Ln}{p:Pt}[Rpd p](h:ow c p=0):onCi c p:=by
 rw[BD]at h
 exact Is _ _ (nL.1 (Int.neg_eq_zero.1 h))
theorem ib{c:Ln}{p:Pt}[Rpd p]:upR c p=upA (cls (pX p-of c.1) (pY p-of c.2.1)):=by
 unfold upR
 rw[cmpTR_re H7,cmpTR_re ln,sZ,Tg,adC]
theorem Ep(p:Pt):pX (flP p)= -pX p:=by
 unfold pX flP v2
 rw[of_neg,of_neg]
 exact aaS _ _ _
theorem aew(p:Pt):pY (flP p)=pY p:=rfl
theorem ve{c:Ln}{p:Pt}[h:Rpd p](hQ:0<c.2.2)(hp:onCi c p):upR (flC c) (flP p)=ufA (cls (pX p-of c.1) (pY p-of c.2.1)):=by
 unfold upR
 rw[cmpTR_re H7,cmpTR_re ln,sZ,Tg,Ep,aew]
 show(decide (sg (pY p-of c.2.1)>0)||(sg (pY p-of c.2.1)==0&&decide (sg (-pX p-of (-c.1))>0)))=_
 rw[of_neg,Cy,qU]
 exact aba (hZ hQ) hp
theorem fo{L:List RE}{p q:Pt}[Rpd p][Rpd q](hp:pX p∈L)(hq:pX q∈L):a8 (xP p) (xP q)=cI (rk (fun a b:RE=>a<b) L (pX p)) (rk (fun a b:RE=>a<b) L (pX q)):=by
 rw[cmpT_re ln ln,sZ,sZ]
 exact rm lt_lin sg_cmpO hp hq
theorem m6{L:List RE}{p q:Pt}[Rpd p][Rpd q](hp:pX p∈L)(hq:pX q∈L):a8 (xP (flP p)) (xP (flP q))=dI (rk (fun a b:RE=>a<b) L (pX p)) (rk (fun a b:RE=>a<b) L (pX q)):=by
 rw[cmpT_re ln ln,sZ,sZ,Ep,Ep,S2]
 exact rm lt_lin sg_cmpO hq hp
theorem arc_eq{ci:Ln}{F P T:Pt}[Rpd F][Rpd P][Rpd T](hQ:0<ci.2.2)(hF:onCi ci F)(hP:onCi ci P)(hT:onCi ci T):
  decide (gF a8 (ptd ci F) (ptd ci P) (ptd ci T)≤0)=(decide (j9 a8 (ptd ci F) (ptd ci F) (ptd ci P)≤0)&&decide (j9 a8 (ptd ci F) (ptd ci P) (ptd ci T)≤0))∧
  decide (gF a8 (ptd ci T) (ptd ci P) (ptd ci F)≤0)=(decide (j9 a8 (ptd (flC ci) (flP F)) (ptd (flC ci) (flP F)) (ptd (flC ci) (flP P))≤0)&&decide (j9 a8 (ptd (flC ci) (flP F)) (ptd (flC ci) (flP P)) (ptd (flC ci) (flP T))≤0)):=by
 have mF:pX F∈[pX F,pX P,pX T]:=by simp
 have mP:pX P∈[pX F,pX P,pX T]:=by simp
 have mT:pX T∈[pX F,pX P,pX T]:=by simp
 have hq:0<of ci.2.2:=hZ hQ
 have bF:=iL lt_lin mF
 have bP:=iL lt_lin mP
 have bT:=iL lt_lin mT
 have cF:=gT (pX F-of ci.1) (pY F-of ci.2.1)
 have cP:=gT (pX P-of ci.1) (pY P-of ci.2.1)
 have cT:=gT (pX T-of ci.1) (pY T-of ci.2.1)
 have hcon:GM (cls (pX F-of ci.1) (pY F-of ci.2.1)) (rk (fun a b:RE=>a<b) [pX F,pX P,pX T] (pX F)) (cls (pX P-of ci.1) (pY P-of ci.2.1)) (rk (fun a b:RE=>a<b) [pX F,pX P,pX T] (pX P)) (cls (pX T-of ci.1) (pY T-of ci.2.1)) (rk (fun a b:RE=>a<b) [pX F,pX P,pX T] (pX T))=true:=by
  unfold GM
  rw[c8 hq hF hP mF mP,c8 hq hP hF mP mF,c8 hq hF hT mF mT,c8 hq hT hF mT mF,c8 hq hP hT mP mT,c8 hq hT hP mT mP]
  rfl
 have a1:=R9 ⟨_,cF⟩ ⟨_,cP⟩ ⟨_,cT⟩ ⟨_,bF⟩ ⟨_,bP⟩ ⟨_,bT⟩ hcon
 have a2:=abV ⟨_,cF⟩ ⟨_,cP⟩ ⟨_,cT⟩ ⟨_,bF⟩ ⟨_,bP⟩ ⟨_,bT⟩ hcon
 simp only at a1 a2
 refine⟨?_,?_⟩
 ·unfold ptd
  rw[ib,ib,ib,gY (fo mP mF) (fo mT mF) (fo mP mT),fK (fo mF mF) (fo mP mF) (fo mF mP),fK (fo mP mF) (fo mT mF) (fo mP mT)]
  exact a1
 ·unfold ptd
  rw[ib,ib,ib,ve hQ hF,ve hQ hP,ve hQ hT,gY (fo mP mT) (fo mF mT) (fo mP mF),fK (m6 mF mF) (m6 mP mF) (m6 mF mP),fK (m6 mP mF) (m6 mT mF) (m6 mP mT)]
  exact a2
theorem seg_eq{F P T:Pt}[Rpd F][Rpd P][Rpd T]:oo (aV F P) (aV P T)=afg (aV F T) (aV F P) (aV P T):=by
 have mF:pR F∈[pR F,pR P,pR T]:=by simp
 have mP:pR P∈[pR F,pR P,pR T]:=by simp
 have mT:pR T∈[pR F,pR P,pR T]:=by simp
 rw[iZ,iZ,iZ,rm jQ iz mF mP,rm jQ iz mP mT,rm jQ iz mF mT]
 exact vO ⟨_,iL jQ mF⟩ ⟨_,iL jQ mP⟩ ⟨_,iL jQ mT⟩
end RE
structure Crv (c:Cv):Prop where
 f:Rpd (frC c)
 t:Rpd (toC c)
 q:c.1=true→0<(ciC c).2.2∧RE.onCi (ciC c) (frC c)∧RE.onCi (ciC c) (toC c)
theorem ah5{c:Cv}(h:Crv c){p:Pt}(hp:Rpd p):onP c p=onR c p:=by
 have hf:=h.f
 have ht:=h.t
 unfold onP onR
 cases hs:fZ c p
 ·rfl
 ·simp only[amo]
  unfold ik df
  obtain⟨ar,li,ci,cw,fr,to⟩:=c
  have hf:Rpd fr:=hf
  have ht:Rpd to:=ht
  cases ar
  ·exact RE.seg_eq (F:=fr) (P:=p) (T:=to)
  ·obtain⟨q1,q2,q3⟩:=h.q rfl
   have hi:ow ci p=0:=by
    have:(ow ci p==0)=true:=hs
    exact ama.1 this
   obtain⟨e1,e2⟩:=RE.arc_eq (ci:=ci) (F:=fr) (P:=p) (T:=to) q1 q2 (RE.ins_on hi) q3
   cases cw
   ·exact e1
   ·exact e2
end
def fc(l:Ln)(p:Pt):Rt:=mkR (-l.2.1*p.1+l.1*p.2.2.1) (-l.2.1*p.2.1+l.1*p.2.2.2.1) p.2.2.2.2
def rT(c:Cv)(p:Pt):Bool:=
 bif decide (a8 (fc (lnC c) (frC c)) (fc (lnC c) (toC c))>0)then decide (a8 (fc (lnC c) (toC c)) (fc (lnC c) p)≤0)&&decide (a8 (fc (lnC c) p) (fc (lnC c) (frC c))≤0)
 else decide (a8 (fc (lnC c) (frC c)) (fc (lnC c) p)≤0)&&decide (a8 (fc (lnC c) p) (fc (lnC c) (toC c))≤0)
def ug(a b:Rt):Rt:=bif decide (a8 b a<0)then b else a
def zeV(v:Rat×Rat):Bool:=decide (v.1=0)&&decide (v.2=0)
def sf(c:Ln)(d:Rat×Rat):Pt:=mkP (mkR c.1 d.1 (c.2.2/bI d d)) (mkR c.2.1 d.2 (c.2.2/bI d d))
def d9(c:Cv)(d:Rat×Rat):Bool:=bif c.1&&!(zeV d)then onP c (sf (ciC c) d)else c.1
def AA(c:Cv)(v:Rat×Rat):Rt:=ug (sqP (frC c) v) (sqP (toC c) v)
def aW(c:Cv)(v:Rat×Rat):Rat×Rat:=cS (ctr (ciC c)) v
def lP(c:Cv)(v:Rat×Rat):Rt:=
 bif c.1 then(bif d9 c (aW c v)then mkR (bI (aW c v) (aW c v)+(ciC c).2.2) (-2) (bI (aW c v) (aW c v)*(ciC c).2.2)else AA c v)
 else(bif rT c (atP v)then(bI (cS v (d7 (lnC c) v)) (cS v (d7 (lnC c) v)),0,0)else AA c v)
def rI(c:Cv)(v:Rat×Rat)(r:Rat):Int:=bif decide (r<0)then 1 else fR (lP c v) (r*r)
instance P7 {l:Ln} {p:Pt} [h:Rpd p]:Rdd (fc l p):=by
 have:Nn p.2.2.2.2:=inferInstance
 exact sO
instance ajf {l:Ln} {p:Pt} {i j:Nat} [h:Bd l i] [h':Bd p j] [hp:Rpd p]:Bd (fc l p) (4*i+4*j+5):=by
 have a1:Bd (-l.2.1*p.1+l.1*p.2.2.1) _:=inferInstance
 have a2:Bd (-l.2.1*p.2.1+l.1*p.2.2.2.1) _:=inferInstance
 exact(aay (a:= -l.2.1*p.1+l.1*p.2.2.1) (b:= -l.2.1*p.2.1+l.1*p.2.2.2.1) (c:=p.2.2.2.2)).mono (fq (by omega) (by omega))
theorem Mb(a b:Rt):ug a b=a∨ug a b=b:=by
 unfold ug
 cases decide (a8 b a<0)
 ·exact .inl rfl
 ·exact .inr rfl
instance NH {a b:Rt} [h:Rdd a] [h':Rdd b]:Rdd (ug a b):=by
 rcases Mb a b with e|e<;>rw[e]<;>assumption
instance ajF {a b:Rt} {i j:Nat} [h:Bd a i] [h':Bd b j]:Bd (ug a b) (mx i j):=by
 rcases Mb a b with e|e<;>rw[e]
 ·exact h.mono (Bn _ _)
 ·exact h'.mono (Bl _ _)
theorem lX(d:Rat×Rat):0≤bI d d:=by
 unfold bI
 have h:∀a:Rat,0≤a*a:=fun a=>by
  rcases(by grind:0≤a∨0≤ -a)with h|h
  ·exact alp h h
  ·have:=alp h h;grind
 have:=h d.1
 have:=h d.2
 grind
theorem xZ{d:Rat×Rat}(h:zeV d=false):bI d d≠0:=by
 refine jY ?_
 unfold zeV at h
 by_cases e:d.1=0
 ·rw[ak3 e,amo]at h
  exact .inr (alW h)
 ·exact .inl e
theorem qq(a b d e s:Rat):vD (mkR a d s) (mkR b e s):=by
 unfold vD mkR
 cases fN s
 ·simp only[cond_false]
  by_cases hd:d=0
  ·rw[ak3 hd];exact .inl rfl
  ·by_cases he:e=0
   ·rw[ak3 he];exact .inr (.inl rfl)
   ·rw[ak5 hd,ak5 he];exact .inr (.inr rfl)
 ·exact .inl rfl
theorem FZ{a b:Rat}(ha:0≤a)(hb:0≤b):0≤a/b:=by
 by_cases h0:b=0
 ·rw[h0,anM,Rat.inv_zero,Rat.mul_zero]
  exact Rat.le_refl
 ·rcases(by grind:0≤a/b∨0< -(a/b))with h|h
  ·exact h
  ·have h1:=alv h (show 0<b by grind)
   have h2:a/b*b=a:=als h0
   grind
class Cir (c:Ln):Prop where q:0<c.2.2
instance abO {c:Ln} {d:Rat×Rat} [h:Cir c]:Nn (c.2.2/bI d d):=⟨FZ (by have:=h.q;grind) (lX d)⟩
instance ajI {c:Ln} {d:Rat×Rat} [h:Cir c]:Rpd (sf c d):=Yy sO sO (qq _ _ _ _ _)
instance Sv {c:Ln} {d:Rat×Rat} [h:Cir c]:Nn (bI d d*c.2.2):=⟨alp (lX d) (by have:=h.q;grind)⟩
instance akl {c:Ln} {d:Rat×Rat} {i j:Nat} [h:Bd c i] [h':Bd d j]:Bd (sf c d) (2*i+5*j+2):=by
 have s1:Bd (c.2.2/bI d d) _:=inferInstance
 have a1:Bd (mkR c.1 d.1 (c.2.2/bI d d)) _:=inferInstance
 have a2:Bd (mkR c.2.1 d.2 (c.2.2/bI d d)) _:=inferInstance
 have b1:=a1.mono (k:=2*i+5*j+2) (by omega)
 have b2:=a2.mono (k:=2*i+5*j+2) (by omega)
 have e:∀n,mx n n=n:=fun n=>by unfold mx;rw[ak3 (ak9 n)];rfl
 exact(acW (h:=b1) (h':=b2)).mono (by
  simp only[e]
  refine fq (by omega) (fq (by omega) (fq (by omega) (fq (by omega) (fq (by omega) (by omega))))))
def VR(d a b a' b':Int):Bool:=bif decide (d>0)then decide (b'≤0)&&decide (a'≤0)else decide (a≤0)&&decide (b≤0)
theorem UR:∀f p t:Fin 3,oo (cI f.1 p.1) (cI p.1 t.1)=VR (cI f.1 t.1) (cI f.1 p.1) (cI p.1 t.1) (cI p.1 f.1) (cI t.1 p.1):=by decide+kernel
theorem Th(a b:Int):oo (-a) (-b)=oo a b:=by
 unfold oo
 have e1:(-a==0)=(a==0):=am7.2 (by simp only[ama];omega)
 have e2:(-b==0)=(b==0):=am7.2 (by simp only[ama];omega)
 have e3:(-a== -b)=(a==b):=am7.2 (by simp only[ama];omega)
 rw[e1,e2,e3]
namespace RE
theorem Mz(a b x s y t r:RE): -b*x+a*y+(-b*s+a*t)*r= -b*(x+s*r)+a*(y+t*r):=by grind
theorem af6(a b x y u w:RE):(a*a+b*b)*(x-u)= -b*(-b*x+a*y-(-b*u+a*w))+a*(a*x+b*y-(a*u+b*w)):=by grind
theorem ahW(a b x y u w:RE):(a*a+b*b)*(y-w)=a*(-b*x+a*y-(-b*u+a*w))+b*(a*x+b*y-(a*u+b*w)):=by grind
theorem Sa(a b c x y u w:RE)(h:a*x+b*y=c)(h':a*u+b*w=c):(a*a+b*b)*(x-u)= -b*(-b*x+a*y-(-b*u+a*w)):=by
 rw[af6 a b x y u w,h,h',sub_self,mul_zero,add_zero]
theorem TA(a b c x y u w:RE)(h:a*x+b*y=c)(h':a*u+b*w=c):(a*a+b*b)*(y-w)=a*(-b*x+a*y-(-b*u+a*w)):=by
 rw[ahW a b x y u w,h,h',sub_self,mul_zero,add_zero]
def tL(l:Ln)(p:Pt):RE:= -of l.2.1*pX p+of l.1*pY p
theorem RJ(l:Ln){p:Pt}[_h:Rpd p]:vR (fc l p)=tL l p:=by
 unfold fc tL pX pY
 rw[vR_mk]
 unfold v2
 simp only[of_add,aH,of_neg]
 exact Mz _ _ _ _ _ _ _
theorem rY{l:Ln}{p q:Pt}[Rpd p][Rpd q]:a8 (fc l p) (fc l q)=sg (tL l p-tL l q):=by
 rw[cmpT_re (P7 (l:=l) (p:=p)).nn (P7 (l:=l) (p:=q)).nn,RJ,RJ]
def qE(l:Ln)(p:Pt):Prop:=of l.1*pX p+of l.2.1*pY p=of l.2.2
theorem Ft{l:Ln}{p:Pt}[Rpd p](h:sR l p=0):qE l p:=by
 rw[Ba]at h
 exact Is _ _ (nL.1 h)
theorem RG{l:Ln}{p q:Pt}(hp:qE l p)(hq:qE l q):(of l.1*of l.1+of l.2.1*of l.2.1)*(pX p-pX q)= -of l.2.1*(tL l p-tL l q):=by
 unfold qE at hp hq
 unfold tL
 exact Sa _ _ _ _ _ _ _ hp hq
theorem Ny{l:Ln}{p q:Pt}(hp:qE l p)(hq:qE l q):(of l.1*of l.1+of l.2.1*of l.2.1)*(pY p-pY q)=of l.1*(tL l p-tL l q):=by
 unfold qE at hp hq
 unfold tL
 exact TA _ _ _ _ _ _ _ hp hq
theorem B3{a b:Rat}(h:a≠0∨b≠0):0<of a*of a+of b*of b:=by
 have h1:=jY h
 have h2:0≤a*a:=by
  rcases(by grind:0≤a∨0≤ -a)with h|h
  ·exact alp h h
  ·have:=alp h h;grind
 have h3:0≤b*b:=by
  rcases(by grind:0≤b∨0≤ -b)with h|h
  ·exact alp h h
  ·have:=alp h h;grind
 rw[←aH,←aH,←of_add]
 exact hZ (by grind)
theorem MR{q:Rat}(h:q≠0):sg (of q)=1∨sg (of q)= -1:=by
 rw[sg_of]
 rcases(by grind:q<0∨0<q)with h'|h'
 ·exact .inr (dJ h')
 ·exact .inl (dp h')
theorem OQ{l:Ln}(hl:l.1≠0∨l.2.1≠0):∃s:Int,(s=1∨s= -1)∧∀p q:Pt,Rpd p→Rpd q→qE l p→qE l q→aV p q=s*sg (tL l p-tL l q):=by
 have hn:=B3 hl
 by_cases hb:l.2.1=0
 ·have ha:l.1≠0:=hl.resolve_right (fun h=>h hb)
  refine⟨sg (of l.1),MR ha,fun p q hp hq op oq=>?_⟩
  rw[iZ]
  unfold lxc pR
  have e1:=RG op oq
  have e2:=Ny op oq
  have s1:=congrArg sg e1
  have s2:=congrArg sg e2
  rw[dh,dk hn,dh,hb,nf,CQ,da]at s1
  rw[dh,dk hn,dh]at s2
  rw[show sg (pX p-pX q)=0 by omega]
  show sg (pY p-pY q)=_
  omega
 ·refine⟨-sg (of l.2.1),by rcases MR hb with h|h<;>rw[h]<;>simp,fun p q hp hq op oq=>?_⟩
  rw[iZ]
  unfold lxc pR
  have e1:=RG op oq
  have e2:=Ny op oq
  have s1:=congrArg sg e1
  have s2:=congrArg sg e2
  rw[dh,dk hn,dh,qU]at s1
  rw[dh,dk hn,dh]at s2
  rcases bg (tL l p-tL l q)with⟨_,h⟩|⟨_,h⟩|⟨_,h⟩<;>rw[h]at s1 s2 ⊢ <;>rcases MR hb with g|g<;>rw[g]at s1 ⊢
  all_goals
   simp only[amk,ans,anp,anX,Int.neg_neg]at s1 s2 ⊢
   try rw[s1]
   try rw[s2]
   try rfl
theorem On{l:Ln}(hl:l.1≠0∨l.2.1≠0){F P T:Pt}[hF:Rpd F][hP:Rpd P][hT:Rpd T](oF:qE l F)(oP:qE l P)(oT:qE l T):
  oo (aV F P) (aV P T)=VR (sg (tL l F-tL l T)) (sg (tL l F-tL l P)) (sg (tL l P-tL l T)) (sg (tL l P-tL l F)) (sg (tL l T-tL l P)):=by
 obtain⟨s,hs,h⟩:=OQ hl
 have mF:tL l F∈[tL l F,tL l P,tL l T]:=by simp
 have mP:tL l P∈[tL l F,tL l P,tL l T]:=by simp
 have mT:tL l T∈[tL l F,tL l P,tL l T]:=by simp
 have e:oo (aV F P) (aV P T)=oo (sg (tL l F-tL l P)) (sg (tL l P-tL l T)):=by
  rw[h F P hF hP oF oP,h P T hP hT oP oT]
  rcases hs with rfl|rfl
  ·rw[amk,amk]
  ·rw[show(-1:Int)*sg (tL l F-tL l P)= -sg (tL l F-tL l P) by omega,show(-1:Int)*sg (tL l P-tL l T)= -sg (tL l P-tL l T) by omega,Th]
 have c:=fun{x y:RE} (hx:x∈[tL l F,tL l P,tL l T]) (hy:y∈[tL l F,tL l P,tL l T])=>rm lt_lin sg_cmpO hx hy
 rw[e,c mF mP,c mP mT,c mF mT,c mP mF,c mT mP]
 exact UR ⟨_,iL lt_lin mF⟩ ⟨_,iL lt_lin mP⟩ ⟨_,iL lt_lin mT⟩
end RE
theorem Hh{l:Ln}(hl:l.1≠0∨l.2.1≠0)(v:Rat×Rat):l.1*(d7 l v).1+l.2.1*(d7 l v).2=l.2.2:=by
 have hn:=jY hl
 have he:mh l v*(l.1*l.1+l.2.1*l.2.1)=l.1*v.1+l.2.1*v.2-l.2.2:=by
  unfold mh
  exact als hn
 unfold d7
 simp only
 grind
def gdC(c:BCU):Prop:=okC 500 c∧fZ (dC c) (frC (dC c))=true∧fZ (dC c) (toC (dC c))=true
theorem jO{k:Nat}{x:BP}(h:okP k x):Rpd (dec x):=by
 obtain⟨p,rfl,bp,rp⟩:=bS h
 rw[az]
 exact rp
section
namespace RE
abbrev PE:=RE×RE
def crs(u w:PE):RE:=u.1*w.2-u.2*w.1
def dtE(u w:PE):RE:=u.1*w.1+u.2*w.2
def ysC(k:Nat):Int:=if k=1 then 1 else if k=3 then-1 else 0
def msC(i:Nat):Int:=(i:Int)-3
def crI(k i l j:Nat):Int:=addS (kb (msC i)*ysC l) (-(ysC k*kb (msC j))) (cI (msC i).natAbs (msC j).natAbs)
def C2(k i l j:Nat):Bool:=(k !=0||decide (0<msC i))&&(k !=2||decide (msC i<0))&&(!(k==0||k==2)||(bif l==0||l==2 then(msC i).natAbs==(msC j).natAbs else decide ((msC j).natAbs<(msC i).natAbs)))
def GK(a b c:Int):Bool:=bif decide (0≤a)then decide (0≤b)&&decide (0≤c)else !(decide (c<0)&&decide (b<0))
theorem ST:∀kF kT:Fin 4,∀iF iT:Fin 7,(C2 kF.1 iF.1 kT.1 iT.1&&C2 kT.1 iT.1 kF.1 iF.1&&!(kF.1==kT.1&&iF.1==iT.1))=true→∀kP:Fin 4,∀iP:Fin 7,(C2 kF.1 iF.1 kP.1 iP.1&&C2 kP.1 iP.1 kF.1 iF.1&&C2 kT.1 iT.1 kP.1 iP.1&&C2 kP.1 iP.1 kT.1 iT.1)=true→
  decide (gF cI (upA kF.1,iF.1) (upA kP.1,iP.1) (upA kT.1,iT.1)≤0)=GK (crI kF.1 iF.1 kT.1 iT.1) (crI kF.1 iF.1 kP.1 iP.1) (crI kP.1 iP.1 kT.1 iT.1):=by decide+kernel
theorem G9{x:RE}(h:x≠0):0<x*x:=by
 rcases mN x 0 with e|e|e
 ·have:=mul_pos (jN e) (jN e)
  rw[neg_mul,mul_neg,neg_neg]at this
  exact this
 ·exact absurd e h
 ·exact mul_pos e e
theorem F4(i j:Nat):cI i j=kb ((i:Int)-(j:Int)):=by
 unfold cI kb
 by_cases h:i<j
 ·rw[alx h,alx (by omega)]
 ·by_cases h':i=j
  ·rw[alq h,alx h',alq (by omega),alx (by omega)]
  ·rw[alq h,alq h',alq (by omega),alq (by omega)]
theorem Ag{n:Int}(h:0<n):kb n=1:=by unfold kb;rw[alq (by omega),alq (by omega)]
theorem AH{n:Int}(h:n<0):kb n= -1:=by unfold kb;rw[alx h]
def rkS(L:List RE)(x:RE):Nat:=rk (fun a b:RE=>a<b) (0::L) (x*x)
def mI(L:List RE)(x:RE):Int:=sg x*(rkS L x:Int)
def ixL(L:List RE)(x:RE):Nat:=(mI L x+3).toNat
theorem jd{L:List RE}{x:RE}(h:x≠0):0<rkS L x:=by
 unfold rkS rk
 rw[alx (G9 h)]
 omega
theorem Ie{L:List RE}{x y:RE}(hx:x*x∈L)(hy:y*y∈L):sg (x*x-y*y)=cI (rkS L x) (rkS L y):=rm (c:=fun x y=>sg (x-y)) lt_lin sg_cmpO (alh _ hx) (alh _ hy)
theorem GZ{x:RE}(h:0<x):x≠0:=fun e=>by rw[e]at h;exact lt_irrefl _ h
theorem Js{x:RE}(h:x<0):x≠0:=fun e=>by rw[e]at h;exact lt_irrefl _ h
theorem Pz(L:List RE)(x:RE):kb (mI L x)=sg x:=by
 unfold mI
 rcases bg x with⟨h,e⟩|⟨h,e⟩|⟨h,e⟩<;>rw[e]
 ·have:=jd (L:=L) (GZ h)
  exact Ag (by omega)
 ·rw[an1];rfl
 ·have:=jd (L:=L) (Js h)
  exact AH (by omega)
theorem Rb(x y:RE)(h1:x<0)(h2:y<0):x+y<0:=by grind
theorem adh(a b c d:RE):a*d*(a*d)- -(b*c)* -(b*c)=a*a*(c*c+d*d)-(a*a+b*b)*(c*c):=by grind
theorem sub_zero(x:RE):x-0=x:=by grind
theorem zero_sub(x:RE):0-x= -x:=by grind
theorem adz(x y c:RE):x-c-(y-c)=x-y:=by grind
theorem aiA(x y q:RE):x*q-q*y=q*(x-y):=by grind
theorem Gv(x y:RE)(h1:x-y=0):x≤y:=by grind
theorem Gi(x y:RE)(h1:x-y=0):y≤x:=by grind
theorem gg(x y:RE)(h1:x-y=0):x=y:=le_antisymm (Gv x y h1) (Gi x y h1)
theorem Kd(a b c:RE)(h1:a+b=a+c):b≤c:=by grind
theorem Ks(a b c:RE)(h1:a+b=a+c):c≤b:=by grind
theorem PP(a b c:RE)(h1:a+b=a+c):b=c:=le_antisymm (Kd a b c h1) (Ks a b c h1)
theorem DM(x y:RE):((x-(0))*(x-(y)))+((y-(0))*(x-(y)))+((y*y-(x*x)))=0:=by grind
theorem J3(x y:RE)(h1:x*x=y*y)(h2:0<x)(h3:0<y):x≤y:=fun hg=>far (aI (aI (mul_pos (aJ h2) (aJ hg)) (le_of_lt (mul_pos (aJ h3) (aJ hg)))) (aD (n4 h1))) (DM x y)
theorem Dc(x y:RE):((x-(0))*(y-(x)))+((y-(0))*(y-(x)))+((x*x-(y*y)))=0:=by grind
theorem Kk(x y:RE)(h1:x*x=y*y)(h2:0<x)(h3:0<y):y≤x:=fun hg=>far (aI (aI (mul_pos (aJ h2) (aJ hg)) (le_of_lt (mul_pos (aJ h3) (aJ hg)))) (aD (lh h1))) (Dc x y)
theorem K1(x y:RE)(h1:x*x=y*y)(h2:0<x)(h3:0<y):x=y:=le_antisymm (J3 x y h1 h2 h3) (Kk x y h1 h2 h3)
theorem Cj(x y:RE):((0-(x))*(x-(y)))+((0-(y))*(x-(y)))+((x*x-(y*y)))=0:=by grind
theorem JH(x y:RE)(h1:x*x=y*y)(h2:x<0)(h3:y<0):x≤y:=fun hg=>far (aI (aI (mul_pos (aJ h2) (aJ hg)) (le_of_lt (mul_pos (aJ h3) (aJ hg)))) (aD (lh h1))) (Cj x y)
theorem Eg(x y:RE):((0-(x))*(y-(x)))+((0-(y))*(y-(x)))+((y*y-(x*x)))=0:=by grind
theorem JF(x y:RE)(h1:x*x=y*y)(h2:x<0)(h3:y<0):y≤x:=fun hg=>far (aI (aI (mul_pos (aJ h2) (aJ hg)) (le_of_lt (mul_pos (aJ h3) (aJ hg)))) (aD (n4 h1))) (Eg x y)
theorem PM(x y:RE)(h1:x*x=y*y)(h2:x<0)(h3:y<0):x=y:=le_antisymm (JH x y h1 h2 h3) (JF x y h1 h2 h3)
theorem J2(x y:RE)(h1:x-y≤0):x≤y:=by grind
theorem T2(x y:RE)(h1:x≤y):x-y≤0:=by grind
theorem QU{x y:RE}(hx:0<x)(hy:0<y):sg (x*x-y*y)=sg (x-y):=by
 rw[←GO,dh,dk (QR _ _ hx hy),amk]
theorem L8{x y:RE}(hx:x<0)(hy:y<0):sg (x*x-y*y)= -sg (x-y):=by
 rw[←GO,dh,gh (Rb _ _ hx hy)]
 omega
theorem acE{L:List RE}{x y:RE}(hx:x*x∈L)(hy:y*y∈L):kb (mI L x-mI L y)=sg (x-y):=by
 have hc:=Ie hx hy
 unfold mI
 rcases bg x with⟨h,e⟩|⟨h,e⟩|⟨h,e⟩<;>rcases bg y with⟨h',e'⟩|⟨h',e'⟩|⟨h',e'⟩<;>rw[e,e']
 ·rw[←QU h h',hc,F4,amk,amk]
 ·have:=jd (L:=L) (GZ h)
  rw[h',sub_zero,e]
  exact Ag (by omega)
 ·have:=jd (L:=L) (GZ h)
  rw[dk (Q2 _ _ h h')]
  exact Ag (by omega)
 ·have:=jd (L:=L) (GZ h')
  rw[h,zero_sub,qU,e']
  exact AH (by omega)
 ·rw[h,h',sub_self,da,an1];rfl
 ·have:=jd (L:=L) (Js h')
  rw[h,zero_sub,qU,e']
  exact Ag (by omega)
 ·have:=jd (L:=L) (Js h)
  rw[gh (RW _ _ h h')]
  exact AH (by omega)
 ·have:=jd (L:=L) (Js h)
  rw[h',sub_zero,e]
  exact AH (by omega)
 ·have h2:=L8 h h'
  rw[hc,F4]at h2
  have:sg (x-y)= -kb ((rkS L x:Int)-(rkS L y:Int)):=by omega
  rw[this]
  unfold kb
  split<;>split<;>(try split)<;>(try split)<;>omega
theorem L7{L:List RE}{x y:RE}(hx:x*x∈L)(hy:y*y∈L):cI (mI L x).natAbs (mI L y).natAbs=sg (x*x-y*y):=by
 have hc:=Ie hx hy
 have ab:∀z:RE,z≠0→(mI L z).natAbs=rkS L z:=fun z hz=>by
  unfold mI
  rcases bg z with⟨h,e⟩|⟨h,e⟩|⟨h,e⟩<;>rw[e]
  ·omega
  ·exact absurd h hz
  ·omega
 have ab0:(mI L 0).natAbs=0:=by unfold mI;rw[da,an1];rfl
 by_cases h:x=0
 ·subst h
  by_cases h':y=0
  ·subst h';rw[sub_self,da];unfold cI;rw[alq (by omega),alx rfl]
  ·have:=jd (L:=L) h'
   rw[ab0,ab y h',mul_zero,zero_sub,qU,dk (G9 h')]
   unfold cI;rw[alx (by omega)]
 ·by_cases h':y=0
  ·subst h'
   have:=jd (L:=L) h
   rw[ab0,ab x h,mul_zero,sub_zero,dk (G9 h)]
   unfold cI;rw[alq (by omega),alq (by omega)]
  ·rw[ab x h,ab y h',hc]
theorem abd{L:List RE}{x:RE}(hL:L.length=3)(hx:x*x∈L):rkS L x≤3:=by
 have:=iL lt_lin (alh (0:RE) hx)
 rw[alj,hL]at this
 unfold rkS
 omega
theorem G6{L:List RE}{x:RE}(hL:L.length=3)(hx:x*x∈L): -3≤mI L x∧mI L x≤3:=by
 have h1:=abd hL hx
 have h2:=X7 x
 unfold mI
 rcases(by omega:sg x= -1∨sg x=0∨sg x=1)with e|e|e<;>rw[e]<;>omega
theorem IE{L:List RE}{x:RE}(hL:L.length=3)(hx:x*x∈L):msC (ixL L x)=mI L x:=by
 have:=G6 hL hx
 unfold msC ixL
 omega
theorem O7{L:List RE}{x:RE}(hL:L.length=3)(hx:x*x∈L):ixL L x<7:=by
 have:=G6 hL hx
 unfold ixL
 omega
theorem Re{L:List RE}{x y:RE}(hL:L.length=3)(hx:x*x∈L)(hy:y*y∈L):cI (ixL L x) (ixL L y)=sg (x-y):=by
 have h1:=G6 hL hx
 have h2:=G6 hL hy
 rw[F4,←acE hx hy]
 unfold ixL
 congr 1
 omega
theorem xu(u v:RE):ysC (cls u v)=sg v:=by
 unfold cls ysC
 rcases bg v with⟨_,h⟩|⟨_,h⟩|⟨_,h⟩<;>rcases bg u with⟨_,h'⟩|⟨_,h'⟩|⟨_,h'⟩<;>rw[h,h']<;>rfl
section
variable {u w:PE} {Q:RE} {L:List RE}
theorem GN(hQ:0<Q)(hu:u.1*u.1+u.2*u.2=Q)(hw:w.1*w.1+w.2*w.2=Q)(hL:L.length=3)(mu:u.1*u.1∈L)(mw:w.1*w.1∈L):sg (crs u w)=crI (cls u.1 u.2) (ixL L u.1) (cls w.1 w.2) (ixL L w.1):=by
 unfold crs crI
 show sg (u.1*w.2+ -(u.2*w.1))=_
 rw[Ge,adh,hu,hw,aiA,dh Q,dk hQ,amk,qU,dh u.1,dh u.2,IE hL mu,IE hL mw,L7 mu mw,Pz,Pz,xu,xu]
theorem qr(hQ:0<Q)(hu:u.1*u.1+u.2*u.2=Q)(hw:w.1*w.1+w.2*w.2=Q)(hL:L.length=3)(mu:u.1*u.1∈L)(mw:w.1*w.1∈L):C2 (cls u.1 u.2) (ixL L u.1) (cls w.1 w.2) (ixL L w.1)=true:=by
 have cb:=gT u.1 u.2
 have y0:∀a b:RE,(cls a b==0||cls a b==2)=true↔b=0:=fun a b=>by
  have:=xu a b
  have hb:=gT a b
  rw[←nL,←this]
  unfold ysC
  constructor
  ·intro h
   simp at h
   rcases h with h|h<;>rw[h]<;>rfl
  ·intro h
   rcases(by omega:cls a b=0∨cls a b=1∨cls a b=2∨cls a b=3)with e|e|e|e<;>rw[e]at h ⊢ <;>simp at h ⊢
 unfold C2
 rw[IE hL mu,IE hL mw,ak7,ak7]
 have ms:=Pz L u.1
 refine⟨⟨?_,?_⟩,?_⟩
 ·by_cases e:cls u.1 u.2=0
  ·have h:=(IK.1 e).2
   rw[dk h]at ms
   have:0<mI L u.1:=by
    unfold kb at ms
    split at ms
    ·cases ms
    ·split at ms
     ·cases ms
     ·omega
   simp[this]
  ·simp[e]
 ·by_cases e:cls u.1 u.2=2
  ·have h:=Jv.1 e
   rw[gh (uq hQ hu h.1 h.2)]at ms
   have:mI L u.1<0:=by
    unfold kb at ms
    split at ms
    ·omega
    ·split at ms<;>cases ms
   simp[this]
  ·simp[e]
 ·cases hc:(cls u.1 u.2==0||cls u.1 u.2==2)
  ·rfl
  ·have hv:=(y0 _ _).1 hc
   have hu':u.1*u.1=Q:=by rw[hv,mul_zero,add_zero]at hu;exact hu
   have ha:=L7 mu mw
   cases hd:(cls w.1 w.2==0||cls w.1 w.2==2)
   ·have hz:w.2≠0:=fun e=>by rw[(y0 _ _).2 e]at hd;cases hd
    have hlt:w.1*w.1<u.1*u.1:=by
     rw[hu',←hw]
     have:=ku (w.1*w.1) (G9 hz)
     rw[zero_add,add_comm]at this
     exact this
    rw[dk (aJ hlt)]at ha
    have:(mI L w.1).natAbs<(mI L u.1).natAbs:=by
     unfold cI at ha
     split at ha
     ·cases ha
     ·split at ha
      ·cases ha
      ·omega
    simp[this]
   ·have hz:=(y0 _ _).1 hd
    rw[hz,mul_zero,add_zero]at hw
    rw[hu',hw,sub_self,da]at ha
    have:(mI L u.1).natAbs=(mI L w.1).natAbs:=by
     unfold cI at ha
     split at ha
     ·cases ha
     ·split at ha
      ·assumption
      ·cases ha
    simp[this]
end
def frm(c:Ln)(p:PE):PE:=(p.1-of c.1,p.2-of c.2.1)
def mj(u w z:PE):Bool:=GK (sg (crs u w)) (sg (crs u z)) (sg (crs z w))
theorem wm{ci:Ln}{F P T:Pt}[Rpd F][Rpd P][Rpd T](hQ:0<ci.2.2)(hF:onCi ci F)(hP:onCi ci P)(hT:onCi ci T)(hne:pR F≠pR T):
  decide (gF a8 (ptd ci F) (ptd ci P) (ptd ci T)≤0)=mj (frm ci (pR F)) (frm ci (pR T)) (frm ci (pR P)):=by
 have hq:0<of ci.2.2:=hZ hQ
 have hL:[(frm ci (pR F)).1*(frm ci (pR F)).1,(frm ci (pR P)).1*(frm ci (pR P)).1,(frm ci (pR T)).1*(frm ci (pR T)).1].length=3:=rfl
 revert hL
 generalize hL0:[(frm ci (pR F)).1*(frm ci (pR F)).1,(frm ci (pR P)).1*(frm ci (pR P)).1,(frm ci (pR T)).1*(frm ci (pR T)).1]=L
 intro hL
 have mF:(frm ci (pR F)).1*(frm ci (pR F)).1∈L:=by rw[←hL0];simp
 have mP:(frm ci (pR P)).1*(frm ci (pR P)).1∈L:=by rw[←hL0];simp
 have mT:(frm ci (pR T)).1*(frm ci (pR T)).1∈L:=by rw[←hL0];simp
 have cF:=gT (frm ci (pR F)).1 (frm ci (pR F)).2
 have cP:=gT (frm ci (pR P)).1 (frm ci (pR P)).2
 have cT:=gT (frm ci (pR T)).1 (frm ci (pR T)).2
 have hF:(frm ci (pR F)).1*(frm ci (pR F)).1+(frm ci (pR F)).2*(frm ci (pR F)).2=of ci.2.2:=hF
 have hP:(frm ci (pR P)).1*(frm ci (pR P)).1+(frm ci (pR P)).2*(frm ci (pR P)).2=of ci.2.2:=hP
 have hT:(frm ci (pR T)).1*(frm ci (pR T)).1+(frm ci (pR T)).2*(frm ci (pR T)).2=of ci.2.2:=hT
 have hd:(!(cls (frm ci (pR F)).1 (frm ci (pR F)).2==cls (frm ci (pR T)).1 (frm ci (pR T)).2&&ixL L (frm ci (pR F)).1==ixL L (frm ci (pR T)).1))=true:=by
  cases h1:cls (frm ci (pR F)).1 (frm ci (pR F)).2==cls (frm ci (pR T)).1 (frm ci (pR T)).2
  ·rfl
  ·cases h2:ixL L (frm ci (pR F)).1==ixL L (frm ci (pR T)).1
   ·rfl
   ·exfalso
    have h1:=ama.1 h1
    have h2:=ama.1 h2
    have h3:=Re hL mF mT
    rw[h2]at h3
    have e0:∀n,cI n n=0:=fun n=>by unfold cI;rw[alq (by omega),alx rfl]
    rw[e0]at h3
    have ex:(frm ci (pR F)).1=(frm ci (pR T)).1:=gg _ _ (nL.1 h3.symm)
    have ey:sg (frm ci (pR F)).2=sg (frm ci (pR T)).2:=by rw[←xu (frm ci (pR F)).1,←xu (frm ci (pR T)).1,h1]
    have es:(frm ci (pR F)).2*(frm ci (pR F)).2=(frm ci (pR T)).2*(frm ci (pR T)).2:=by
     rw[←hT,ex]at hF
     exact PP _ _ _ hF
    have e2:(frm ci (pR F)).2=(frm ci (pR T)).2:=by
     rcases bg (frm ci (pR F)).2 with⟨g,e⟩|⟨g,e⟩|⟨g,e⟩
     ·rw[e]at ey
      exact K1 _ _ es g (Cc.1 ey.symm)
     ·rw[e]at ey
      rw[g,nL.1 ey.symm]
     ·rw[e]at ey
      exact PM _ _ es g (aaY.1 ey.symm)
    exact hne (amp (gI _ _ _ ex) (gI _ _ _ e2))
 have a:=ST ⟨_,cF⟩ ⟨_,cT⟩ ⟨_,O7 hL mF⟩ ⟨_,O7 hL mT⟩ (by
  simp only
  rw[qr hq hF hT hL mF mT,qr hq hT hF hL mT mF,hd]
  rfl) ⟨_,cP⟩ ⟨_,O7 hL mP⟩ (by
  simp only
  rw[qr hq hF hP hL mF mP,qr hq hP hF hL mP mF,qr hq hT hP hL mT mP,qr hq hP hT hL mP mT]
  rfl)
 simp only at a
 unfold mj
 rw[GN hq hF hT hL mF mT,GN hq hF hP hL mF mP,GN hq hP hT hL mP mT,←a]
 have cx:∀{p q:Pt} [Rpd p] [Rpd q],(frm ci (pR p)).1*(frm ci (pR p)).1∈L→(frm ci (pR q)).1*(frm ci (pR q)).1∈L→a8 (xP p) (xP q)=cI (ixL L (frm ci (pR p)).1) (ixL L (frm ci (pR q)).1):=fun{p q} _ _ hp hq'=>by
  rw[cmpT_re ln ln,sZ,sZ,Re hL hp hq',←adz _ _ (of ci.1)]
  rfl
 unfold ptd
 rw[ib,ib,ib]
 exact congrArg (fun n:Int=>decide (n≤0)) (gY (cx mP mF) (cx mT mF) (cx mP mT))
def fW(c:Ln)(p:PE):Prop:=(frm c p).1*(frm c p).1+(frm c p).2*(frm c p).2=of c.2.2
def iG(l:Ln)(p:PE):Prop:=of l.1*p.1+of l.2.1*p.2=of l.2.2
def tE(l:Ln)(p:PE):RE:= -of l.2.1*p.1+of l.1*p.2
def lS(c:Ln)(F T p:PE):Prop:=fW c p∧mj (frm c F) (frm c T) (frm c p)=true
def btE(a b x:RE):Prop:=(a≤x∧x≤b)∨(b≤x∧x≤a)
def lV(l:Ln)(F T p:PE):Prop:=iG l p∧btE (tE l F) (tE l T) (tE l p)
def onE(c:Cv)(p:PE):Prop:=if c.1=true then lS (ciC c) (pR (ccF c)) (pR (ccT c)) p else lV (lnC c) (pR (frC c)) (pR (toC c)) p
structure GdE (c:Cv):Prop where
 f:Rpd (frC c)
 t:Rpd (toC c)
 ne:pR (frC c)≠pR (toC c)
 q:c.1=true→0<(ciC c).2.2∧onCi (ciC c) (frC c)∧onCi (ciC c) (toC c)
 l:c.1=false→((lnC c).1≠0∨(lnC c).2.1≠0)∧qE (lnC c) (frC c)∧qE (lnC c) (toC c)
theorem sQ{c:Ln}{p:Pt}[Rpd p]:(ow c p==0)=true↔fW c (pR p):=by
 rw[ama]
 refine⟨fun h=>ins_on h,fun h=>?_⟩
 rw[BD]
 have:(pX p-of c.1)*(pX p-of c.1)+(pY p-of c.2.1)*(pY p-of c.2.1)=of c.2.2:=h
 rw[this,lC,da]
 rfl
theorem AB{l:Ln}{p:Pt}[Rpd p]:(sR l p==0)=true↔iG l (pR p):=by
 rw[ama]
 refine⟨fun h=>Ft h,fun h=>?_⟩
 rw[Ba]
 have:of l.1*pX p+of l.2.1*pY p=of l.2.2:=h
 rw[this,lC,da]
theorem AP(a b x:RE):VR (sg (a-b)) (sg (a-x)) (sg (x-b)) (sg (x-a)) (sg (b-x))=true↔btE a b x:=by
 have h1:∀y z:RE,sg (y-z)≤0↔y≤z:=fun y z=>by
  rw[agB]
  exact⟨fun h=>J2 _ _ h,fun h=>T2 _ _ h⟩
 unfold VR btE
 cases h:decide (sg (a-b)>0)
 ·have h2:a≤b:=(h1 _ _).1 (by have:=alW h;omega)
  simp only[cond_false,ak7,ann,h1]
  exact⟨fun h=>.inl h,fun h'=>h'.elim id (fun g=>⟨le_trans h2 g.1,le_trans g.2 h2⟩)⟩
 ·have h2:b≤a:=by
   have:=ak6 h
   rcases lt_or_ge a b with g|g
   ·rw[gh (tD _ _ g)]at this
    omega
   ·exact g
  simp only[cond_true,ak7,ann,h1]
  exact⟨fun h=>.inr ⟨h.1,h.2⟩,fun h'=>h'.elim (fun g=>⟨le_trans h2 g.1,le_trans g.2 h2⟩) (fun g=>⟨g.1,g.2⟩)⟩
theorem Jg{c:Cv}(h:GdE c){p:Pt}[hp:Rpd p]:onP c p=true↔onE c (pR p):=by
 have hf:=h.f
 have ht:=h.t
 obtain⟨ar,li,ci,cw,fr,to⟩:=c
 have hf:Rpd fr:=hf
 have ht:Rpd to:=ht
 unfold onP onE
 rw[ak7]
 cases ar
 ·obtain⟨l1,l2,l3⟩:=h.l rfl
  rw[alq (by intro h;cases h)]
  show(sR li p==0)=true∧oo (aV fr p) (aV p to)=true↔iG li (pR p)∧btE (tL li fr) (tL li to) (tL li p)
  rw[AB]
  constructor
  ·intro ⟨h1,h2⟩
   refine⟨h1,?_⟩
   rw[On (F:=fr) (P:=p) (T:=to) l1 l2 (show qE li p from h1) l3]at h2
   exact(AP _ _ _).1 h2
  ·intro ⟨h1,h2⟩
   refine⟨h1,?_⟩
   rw[On (F:=fr) (P:=p) (T:=to) l1 l2 (show qE li p from h1) l3]
   exact(AP _ _ _).2 h2
 ·obtain⟨q1,q2,q3⟩:=h.q rfl
  have hne:pR fr≠pR to:=h.ne
  rw[alx rfl]
  show(ow ci p==0)=true∧decide (gF a8 (ptd ci (ccF (true,li,ci,cw,fr,to))) (ptd ci p) (ptd ci (ccT (true,li,ci,cw,fr,to)))≤0)=true↔fW ci (pR p)∧mj _ _ _=true
  rw[sQ]
  cases cw
  ·constructor
   ·intro ⟨h1,h2⟩
    refine⟨h1,?_⟩
    have:=wm (ci:=ci) (F:=fr) (P:=p) (T:=to) q1 q2 h1 q3 hne
    exact this▸h2
   ·intro ⟨h1,h2⟩
    refine⟨h1,?_⟩
    have:=wm (ci:=ci) (F:=fr) (P:=p) (T:=to) q1 q2 h1 q3 hne
    exact this.trans h2
  ·constructor
   ·intro ⟨h1,h2⟩
    refine⟨h1,?_⟩
    have:=wm (ci:=ci) (F:=to) (P:=p) (T:=fr) q1 q3 h1 q2 (amM hne)
    exact this▸h2
   ·intro ⟨h1,h2⟩
    refine⟨h1,?_⟩
    have:=wm (ci:=ci) (F:=to) (P:=p) (T:=fr) q1 q3 h1 q2 (amM hne)
    exact this.trans h2
end RE
end
section
namespace RE
def dsE(p v:PE):RE:=(p.1-v.1)*(p.1-v.1)+(p.2-v.2)*(p.2-v.2)
def Mn(S:PE→Prop)(v:PE)(m:RE):Prop:=(∃p,S p∧dsE p v=m)∧∀p,S p→m≤dsE p v
theorem Mn.uni{S:PE→Prop}{v:PE}{m n:RE}(h:Mn S v m)(h':Mn S v n):m=n:=by
 obtain⟨⟨p,hp,ep⟩,h1⟩:=h
 obtain⟨⟨q,hq,eq⟩,h2⟩:=h'
 exact le_antisymm (eq▸h1 q hq) (ep▸h2 p hp)
open Classical in
def mnE(a b:RE):RE:=if b<a then b else a
theorem Aj{S:PE→Prop}{v F T:PE}(hF:S F)(hT:S T)(h:∀p,S p→dsE F v≤dsE p v∨dsE T v≤dsE p v):Mn S v (mnE (dsE F v) (dsE T v)):=by
 unfold mnE
 by_cases e:dsE T v<dsE F v
 ·rw[alx e]
  exact⟨⟨T,hT,rfl⟩,fun p hp=>(h p hp).elim (fun g=>le_trans (le_of_lt e) g) id⟩
 ·rw[alq e]
  exact⟨⟨F,hF,rfl⟩,fun p hp=>(h p hp).elim id (fun g=>le_trans e g)⟩
theorem ZP(a b _c p q v w:RE):(a*a+b*b)*((p-v)*(p-v)+(q-w)*(q-w))=(a*v+b*w-(a*p+b*q))*(a*v+b*w-(a*p+b*q))+(-b*p+a*q-(-b*v+a*w))*(-b*p+a*q-(-b*v+a*w)):=by grind
theorem Si(a b e k v w:RE):(v-a*(e*k)-v)*(v-a*(e*k)-v)+(w-b*(e*k)-w)*(w-b*(e*k)-w)=e*e*k*((a*a+b*b)*k):=by grind
theorem Hh(a b c k v w:RE):a*(v-a*((a*v+b*w-c)*k))+b*(w-b*((a*v+b*w-c)*k))=a*v+b*w-(a*v+b*w-c)*((a*a+b*b)*k):=by grind
theorem abl(a b x v w:RE): -b*(v-a*x)+a*(w-b*x)= -b*v+a*w:=by grind
theorem J6(x c:RE):x-(x-c)=c:=by grind
theorem Uc(x y:RE):((x*x-(y*y)))+2*((x-(0))*(y-(x)))+((y-(x))*(y-(x)))=0:=by grind
theorem ago(x y:RE)(h1:0≤x)(h2:x≤y):x*x≤y*y:=fun hg=>far (aI (aI (aJ hg) (iD (by decide+kernel:(0:Rat)<2) (a9 (aD h1) (aD h2)))) (a9 (aD h2) (aD h2))) (Uc x y)
theorem TK(x y:RE):((x*x-(y*y)))+((x-(y))*(x-(y)))+2*((x-(y))*(0-(x)))=0:=by grind
theorem ad7(x y:RE)(h1:y≤x)(h2:x≤0):x*x≤y*y:=fun hg=>far (aI (aI (aJ hg) (a9 (aD h1) (aD h1))) (iD (by decide+kernel:(0:Rat)<2) (a9 (aD h1) (aD h2)))) (TK x y)
theorem M5(n x y s t e:RE):((n-(0))*(x-(y)))+((e+s-(n*x)))+((n*y-(e+t)))+((t-(s)))=0:=by grind
theorem aaC(n x y s t e:RE)(h1:0<n)(h2:n*x=e+s)(h3:n*y=e+t)(h4:s≤t):x≤y:=fun hg=>far (aI (aI (aI (mul_pos (aJ h1) (aJ hg)) (aD (n4 h2))) (aD (lh h3))) (aD h4)) (M5 n x y s t e)
theorem ajO(a v x:RE)(_h1:v<a)(h2:a≤x):a-v≤x-v:=by grind
theorem agX(a v:RE)(h1:v<a):0≤a-v:=by grind
theorem aje(a v x:RE)(_h1:a<v)(h2:x≤a):x-v≤a-v:=by grind
theorem ahG(a v:RE)(h1:a<v):a-v≤0:=by grind
theorem asc(n k x:RE):n*x*k=n*k*x:=by grind
theorem Jx(e t:RE)(h1:0≤t):e≤e+t:=by grind
theorem FG(x y k:RE):((x*k-(y*k)))+((y-(x))*(k-(0)))=0:=by grind
theorem O9(x y k:RE)(h1:x≤y)(h2:0<k):x*k≤y*k:=fun hg=>far (aI (aJ hg) (a9 (aD h1) (le_of_lt (aJ h2)))) (FG x y k)
theorem ME{n:RE}(h:0<n):∃k,0<k∧n*k=1:=by
 obtain⟨k,hk⟩:=E7 n h
 refine⟨k,?_,hk⟩
 have:=dh n k
 rw[hk,dk zero_lt_one,dk h,amk]at this
 exact Cc.1 this.symm
def exE(l:Ln)(v:PE):RE:=of l.1*v.1+of l.2.1*v.2-of l.2.2
def nrE(l:Ln):RE:=of l.1*of l.1+of l.2.1*of l.2.1
theorem ET{l:Ln}{p v:PE}(h:iG l p):nrE l*dsE p v=exE l v*exE l v+(tE l p-tE l v)*(tE l p-tE l v):=by
 unfold nrE dsE exE tE
 rw[ZP _ _ (of l.2.2),h]
theorem vO{l:Ln}{F T v:PE}(_hn:0<nrE l)(hb:btE (tE l F) (tE l T) (tE l v)){k:RE}(hk:0<k)(ek:nrE l*k=1):Mn (lV l F T) v (exE l v*exE l v*k):=by
 refine⟨⟨(v.1-of l.1*(exE l v*k),v.2-of l.2.1*(exE l v*k)),⟨?_,?_⟩,?_⟩,fun p hp=>?_⟩
 ·show of l.1*(v.1-of l.1*(exE l v*k))+of l.2.1*(v.2-of l.2.1*(exE l v*k))=of l.2.2
  unfold exE
  rw[Hh]
  show _-_*(nrE l*k)=_
  rw[ek,mul_one,J6]
 ·show btE _ _ (-of l.2.1*(v.1-of l.1*(exE l v*k))+of l.1*(v.2-of l.2.1*(exE l v*k)))
  rw[abl]
  exact hb
 ·show(v.1-of l.1*(exE l v*k)-v.1)*(v.1-of l.1*(exE l v*k)-v.1)+(v.2-of l.2.1*(exE l v*k)-v.2)*(v.2-of l.2.1*(exE l v*k)-v.2)=_
  rw[Si]
  show _*(nrE l*k)=_
  rw[ek,mul_one]
 ·have h1:=ET (v:=v) hp.1
  have h2:=O9 _ _ k (Jx (exE l v*exE l v) ((tE l p-tE l v)*(tE l p-tE l v)) (gn _)) hk
  rw[←h1,asc (nrE l),ek,one_mul]at h2
  exact h2
theorem Ia{l:Ln}{F T v:PE}(hn:0<nrE l)(hF:iG l F)(hT:iG l T)(hb:¬btE (tE l F) (tE l T) (tE l v)):Mn (lV l F T) v (mnE (dsE F v) (dsE T v)):=by
 have le_of:=fun(p q:PE) (hp:iG l p) (hq:iG l q) (h:(tE l p-tE l v)*(tE l p-tE l v)≤(tE l q-tE l v)*(tE l q-tE l v))=>aaC _ _ _ _ _ _ hn (ET (v:=v) hp) (ET (v:=v) hq) h
 have nn:∀p q:PE,iG l p→iG l q→tE l v<tE l p→tE l p≤tE l q→dsE p v≤dsE q v:=fun p q hp hq h1 h2=>le_of p q hp hq (ago _ _ (agX _ _ h1) (ajO _ _ _ h1 h2))
 have np:∀p q:PE,iG l p→iG l q→tE l p<tE l v→tE l q≤tE l p→dsE p v≤dsE q v:=fun p q hp hq h1 h2=>le_of p q hp hq (ad7 _ _ (aje _ _ _ h1 h2) (ahG _ _ h1))
 have sF:lV l F T F:=⟨hF,(lt_or_ge (tE l F) (tE l T)).elim (fun h=>.inl ⟨le_refl _,le_of_lt h⟩) (fun h=>.inr ⟨h,le_refl _⟩)⟩
 have sT:lV l F T T:=⟨hT,(lt_or_ge (tE l F) (tE l T)).elim (fun h=>.inl ⟨le_of_lt h,le_refl _⟩) (fun h=>.inr ⟨le_refl _,h⟩)⟩
 refine Aj sF sT fun p ⟨hp,hbp⟩=>?_
 rcases lt_or_ge (tE l v) (tE l F)with g|g
 ·rcases lt_or_ge (tE l v) (tE l T)with g'|g'
  ·rcases hbp with⟨h1,h2⟩|⟨h1,h2⟩
   ·exact .inl (nn F p hF hp g h1)
   ·exact .inr (nn T p hT hp g' h1)
  ·exact absurd (.inr ⟨g',le_of_lt g⟩) hb
 ·rcases lt_or_ge (tE l T) (tE l v)with g'|g'
  ·rcases lt_or_ge (tE l F) (tE l v)with g2|g2
   ·rcases hbp with⟨h1,h2⟩|⟨h1,h2⟩
    ·exact .inr (np T p hT hp g' h2)
    ·exact .inl (np F p hF hp g2 h2)
   ·exact absurd (.inr ⟨le_of_lt g',g2⟩) hb
  ·exact absurd (.inl ⟨g,g'⟩) hb
theorem agI(a b x y d e q:RE):(a*y-b*x)*((d*b-e*a)+(d*y-e*x))=((a*d+b*e)-(x*d+y*e))*(q+(a*x+b*y))+(a*d+b*e)*(x*x+y*y-q)-(x*d+y*e)*(a*a+b*b-q):=by grind
theorem plk(a b x y z t d e:RE):(a*y-b*x)*(d*t-e*z)=(z*y-t*x)*(d*b-e*a)+(a*t-b*z)*(d*y-e*x):=by grind
theorem UJ(x k m:RE):x+k*0-m*0=x:=by grind
theorem Gj(x y:RE)(h1:0≤x)(h2:0≤y):0≤x+y:=by grind
theorem acH(x y:RE)(h1:x≤0)(h2:y≤0):x+y≤0:=by grind
theorem Pi(x:RE)(h1:0≤x): -x≤0:=by grind
theorem T3(x:RE)(h1:x≤0):0≤ -x:=by grind
theorem DK(x k y:RE):((k-(0))*(0-(x)))+((x*k-(y)))+((y-(0)))=0:=by grind
theorem Kv(x k y:RE)(h1:x*k=y)(h2:0≤y)(h3:0<k):0≤x:=fun hg=>far (aI (aI (mul_pos (aJ h3) (aJ hg)) (aD (lh h1))) (aD h2)) (DK x k y)
theorem JI(x y:RE)(h1:0≤x-y):y≤x:=by grind
theorem ZZ(a b x y:RE):(a+x)*(a+x)+(b+y)*(b+y)=a*a+b*b+(x*x+y*y)+((a*x+b*y)+(a*x+b*y)):=by grind
theorem Ts(a b x y:RE):(a-x)*(a-x)+(b-y)*(b-y)=a*a+b*b+(x*x+y*y)-((a*x+b*y)+(a*x+b*y)):=by grind
theorem ajQ(q s t:RE)(h1:t=q+q+(s+s))(h2:0≤t):0≤q+s:=by grind
theorem aiV(q s t:RE)(h1:t=q+q+(s+s))(h2:q+s=0):t≤0:=by grind
theorem ajM(q s t:RE)(h1:t=q+q+(s+s))(h2:q+s=0):0≤t:=by grind
theorem q_z(q s t:RE)(h1:t=q+q+(s+s))(h2:q+s=0):t=0:=le_antisymm (aiV q s t h1 h2) (ajM q s t h1 h2)
theorem TN(x y:RE)(h1:x+y=0)(_h2:0≤x)(h3:0≤y):x≤0:=by grind
theorem Lv(x y:RE)(h1:x+y=0)(h2:0≤x)(_h3:0≤y):y≤0:=by grind
theorem ajD(a x:RE)(h1:a+x=0):x≤ -a:=by grind
theorem akE(a x:RE)(h1:a+x=0): -a≤x:=by grind
theorem opp(a x:RE)(h1:a+x=0):x= -a:=le_antisymm (ajD a x h1) (akE a x h1)
theorem tk{x y:RE}(h:x*x+y*y=0):x=0∧y=0:=⟨wc (TN _ _ h (gn x) (gn y)),wc (Lv _ _ h (gn x) (gn y))⟩
theorem gl{u z d:PE}{Q:RE}(hu:dtE u u=Q)(hz:dtE z z=Q):crs u z*(crs d u+crs d z)=(dtE u d-dtE z d)*(Q+dtE u z):=by
 unfold dtE at hu hz
 unfold crs dtE
 rw[agI _ _ _ _ _ _ Q,hu,hz,sub_self,UJ]
theorem TS(a b c d:RE):a*d-b*c= -(c*b-d*a):=by grind
theorem adA(u w:PE):crs u w= -crs w u:=TS _ _ _ _
theorem akn(u w z d:PE):crs u w*crs d z=crs z w*crs d u+crs u z*crs d w:=plk _ _ _ _ _ _ _ _
theorem xk{u z:PE}{Q:RE}(hu:dtE u u=Q)(hz:dtE z z=Q):0<Q+dtE u z∨z=(-u.1,-u.2):=by
 have h1:(u.1+z.1)*(u.1+z.1)+(u.2+z.2)*(u.2+z.2)=Q+Q+(dtE u z+dtE u z):=by
  rw[ZZ]
  unfold dtE at hu hz ⊢
  rw[hu,hz]
 have nn:∀x y:RE,0≤x*x+y*y:=fun x y=>Gj _ _ (gn x) (gn y)
 rcases fO (ajQ _ _ _ h1 (nn _ _))with h|h
 ·exact .inl h
 ·have h2:=q_z _ _ _ h1 h
  obtain⟨a,b⟩:=tk h2
  exact .inr (amp (opp _ _ a) (opp _ _ b))
theorem Jb{u z d:PE}{Q:RE}(hu:dtE u u=Q)(hz:dtE z z=Q)(hk:0<Q+dtE u z)(h:0≤crs u z*(crs d u+crs d z)):dtE z d≤dtE u d:=by
 rw[gl hu hz]at h
 exact JI _ _ (Kv _ _ _ rfl h hk)
theorem Fd(a b c d:RE):(a*d-b*c)*(a*d-b*c)+(a*c+b*d)*(a*c+b*d)=(a*a+b*b)*(c*c+d*d):=by grind
theorem aar(s q:RE):(s+q)*(s-q)=s*s-q*q:=by grind
theorem agC(q s t:RE)(h1:t=q+q-(s+s))(h2:s-q=0):t≤0:=by grind
theorem aeq(q s t:RE)(h1:t=q+q-(s+s))(h2:s-q=0):0≤t:=by grind
theorem ai5(q s t:RE)(h1:t=q+q-(s+s))(h2:s-q=0):t=0:=le_antisymm (agC q s t h1 h2) (aeq q s t h1 h2)
theorem QA(s q:RE)(h1:s+q=0):q+s≤0:=by grind
theorem LG(s q:RE)(h1:s+q=0):0≤q+s:=by grind
theorem U2(s q:RE)(h1:s+q=0):q+s=0:=le_antisymm (QA s q h1) (LG s q h1)
theorem UC{x y:RE}(h:x*y=0):x=0∨y=0:=by
 have:=dh x y
 rw[h,da]at this
 rcases Int.mul_eq_zero.1 this.symm with e|e
 ·exact .inl (nL.1 e)
 ·exact .inr (nL.1 e)
theorem ake{u w:PE}{Q:RE}(hu:dtE u u=Q)(hw:dtE w w=Q)(h:crs u w=0):u=w∨w=(-u.1,-u.2):=by
 have h1:crs u w*crs u w+dtE u w*dtE u w=dtE u u*dtE w w:=Fd _ _ _ _
 rw[h,hu,hw,mul_zero,zero_add]at h1
 have h2:(dtE u w+Q)*(dtE u w-Q)=0:=by rw[aar,h1,sub_self]
 rcases UC h2 with e|e
 ·right
  rcases xk hu hw with g|g
  ·rw[U2 _ _ e]at g
   exact absurd g (lt_irrefl _)
  ·exact g
 ·left
  have h3:(u.1-w.1)*(u.1-w.1)+(u.2-w.2)*(u.2-w.2)=Q+Q-(dtE u w+dtE u w):=by
   rw[Ts]
   unfold dtE at hu hw ⊢
   rw[hu,hw]
  obtain⟨a,b⟩:=tk (ai5 _ _ _ h3 e)
  exact amp (gg _ _ a) (gg _ _ b)
theorem Nd{u w z:PE}(h:0≤crs u w):mj u w z=true↔0≤crs u z∧0≤crs z w:=by
 unfold mj GK
 rw[ak3 (OP.2 h),cond_true,ak7,ann,ann,OP,OP]
theorem EK{x:RE}:sg x<0↔x<0:=by
 rcases bg x with⟨h,e⟩|⟨h,e⟩|⟨h,e⟩<;>rw[e]
 ·exact⟨fun h'=>absurd h' (by decide),fun h'=>absurd (cV h h') (lt_irrefl _)⟩
 ·rw[h];exact⟨fun h'=>absurd h' (by decide),fun h'=>absurd h' (lt_irrefl _)⟩
 ·exact⟨fun _=>h,fun _=>by decide⟩
theorem Pb{u w z:PE}(h:crs u w<0):mj u w z=true↔¬(crs z w<0∧crs u z<0):=by
 unfold mj GK
 rw[ak5 (by have:=EK.2 h;omega),cond_false]
 simp only[am0,Bool.and_eq_false_iff,decide_eq_false_iff_not,EK]
 exact⟨fun g g'=>g.elim (fun k=>k g'.1) (fun k=>k g'.2),fun g=>by
  by_cases e:crs z w<0
  ·exact .inr (fun e'=>g ⟨e,e'⟩)
  ·exact .inl e⟩
theorem Qs(d e a b:RE):d* -b-e* -a= -(d*b-e*a):=by grind
theorem P4(a b c d:RE): -a*d- -b*c= -(a*d-b*c):=by grind
theorem aci(x:RE)(h1:0≤ -x)(_h2:0≤x):x≤0:=by grind
theorem acX(x:RE)(_h1:0≤ -x)(h2:0≤x):0≤x:=by grind
theorem YM(x:RE)(h1:0≤ -x)(h2:0≤x):x=0:=le_antisymm (aci x h1 h2) (acX x h1 h2)
theorem akq(bu bz bw:RE)(h1:bu+bz<0)(h2:0<bw+bz)(h3:0<bu):0<bw:=by grind
theorem ajZ(bu bz:RE)(h1:bu+bz<0)(h2:0<bu):bz<0:=by grind
theorem ajX(bu bz bw:RE)(h1:bu+bz<0)(h2:0<bw+bz)(h3:bw<0):bu<0:=by grind
theorem aj2(bw bz:RE)(h1:0<bw+bz)(h2:bw<0):0<bz:=by grind
theorem k_e(k bz s bu t bw:RE)(h1:k*bz=s*bu+t*bw)(h2:0≤s*bu)(h3:0<t*bw):0<k*bz:=by grind
theorem aj1(bu s bz k bw t:RE)(h1:k*bz=s*bu+t*bw)(h2:s*bu<0)(h3:0<k*bz)(h4:t*bw≤0):0<k:=by grind
theorem JM(x y:RE):((x*y-(0)))+((x-(0))*(0-(y)))=0:=by grind
theorem BS(x y:RE)(h1:0≤x)(h2:y≤0):x*y≤0:=fun hg=>far (aI (aJ hg) (a9 (aD h1) (aD h2))) (JM x y)
theorem Ku(x y:RE):((x*y-(0)))+((0-(x))*(y-(0)))=0:=by grind
theorem Vh(x y:RE)(h1:x≤0)(h2:0≤y):x*y≤0:=fun hg=>far (aI (aJ hg) (a9 (aD h1) (aD h2))) (Ku x y)
theorem LM(x y:RE):((0-(x))*(0-(y)))+((0-(x*y)))=0:=by grind
theorem Lb(x y:RE)(h1:x<0)(h2:y<0):0<x*y:=qV.1 fun hg=>far (aI (mul_pos (aJ h1) (aJ h2)) (aD hg)) (LM x y)
theorem M2(x y:RE):((0-(x))*(y-(0)))+((x*y-(0)))=0:=by grind
theorem adq(x y:RE)(h1:x<0)(h2:0<y):x*y<0:=qV.1 fun hg=>far (aI (mul_pos (aJ h1) (aJ h2)) (aD hg)) (M2 x y)
theorem JB(x y:RE):((0-(x*y)))+((0-(x))*(0-(y)))=0:=by grind
theorem Hp(x y:RE)(h1:x≤0)(h2:y≤0):0≤x*y:=fun hg=>far (aI (aJ hg) (a9 (aD h1) (aD h2))) (JB x y)
theorem t3(d u:PE):crs d (-u.1,-u.2)= -crs d u:=Qs _ _ _ _
theorem Se(u d:PE):crs (-u.1,-u.2) d= -crs u d:=P4 _ _ _ _
theorem HG{u w z d:PE}{Q:RE}(hu:dtE u u=Q)(hw:dtE w w=Q)(hz:dtE z z=Q)(hne:u≠w)(h:mj u w z=true)(hd:¬mj u w d=true):dtE z d≤dtE u d∨dtE z d≤dtE w d:=by
 have ac:=adA
 have key:=akn u w z d
 rcases lt_or_ge (crs u w) 0 with hk|hk
 ·rw[Pb hk]at h hd
  obtain⟨d1,d2⟩:=Classical.not_not.1 hd
  have bu:0<crs d u:=by rw[ac];exact jN d2
  rcases lt_or_ge (crs d z) 0 with hb|hb
  ·rcases lt_or_ge (crs z w) 0 with hc|hc
   ·have hz':0≤crs u z:=fun g=>h ⟨hc,g⟩
    exact absurd hk (fun g=>lt_irrefl _ (cV g (aj1 _ _ _ _ _ _ key (adq _ _ hc bu) (Lb _ _ hk hb) (BS _ _ hz' (le_of_lt d1)))))
   ·right
    refine Jb hw hz ?_ ?_
    ·rcases xk hw hz with g|g
     ·exact g
     ·rw[g,t3]at hb
      exact absurd (cV (jN d1) hb) (lt_irrefl _)
    ·rw[ac w z]
     exact Hp _ _ (Pi _ hc) (le_of_lt (Rb _ _ d1 hb))
  ·rcases lt_or_ge (crs u z) 0 with hc|hc
   ·have hz':0≤crs z w:=fun g=>h ⟨g,hc⟩
    have:=Lb _ _ hc d1
    have h2:=a9 hz' (le_of_lt bu)
    have h3:=Vh _ _ (le_of_lt hk) hb
    exact absurd (k_e _ _ _ _ _ _ key h2 this) h3
   ·left
    refine Jb hu hz ?_ (a9 hc (le_of_lt (aI bu hb)))
    rcases xk hu hz with g|g
    ·exact g
    ·rw[g,t3]at hb
     exact absurd (Fy bu) hb
 ·rw[Nd hk]at h hd
  obtain⟨h1,h2⟩:=h
  have zero_case:crs u w=0→w=(-u.1,-u.2):=fun e=>(ake hu hw e).resolve_left hne
  rcases lt_or_ge (crs d u+crs d z) 0 with g1|g1
  ·rcases lt_or_ge 0 (crs d w+crs d z)with g2|g2
   ·exfalso
    by_cases hb:0<crs d u
    ·have b1:=ajZ _ _ g1 hb
     have b2:=akq _ _ _ g1 g2 hb
     have r1:=a9 h2 (le_of_lt hb)
     have r2:=a9 h1 (le_of_lt b2)
     rcases fO hk with k1|k1
     ·have:=FF _ _ k1 b1
      rw[key]at this
      exact absurd this (Gj _ _ r1 r2)
     ·have e:=zero_case k1
      rw[e,t3]at b2
      exact lt_irrefl _ (cV b2 (Fy hb))
    ·have hb':crs d w<0:=by
      rcases lt_or_ge (crs d w) 0 with q|q
      ·exact q
      ·exact absurd ⟨by rw[ac];exact T3 _ hb,q⟩ hd
     have b1:=aj2 _ _ g2 hb'
     have b2:=ajX _ _ _ g1 g2 hb'
     have r1:=BS _ _ h2 (le_of_lt b2)
     have r2:=BS _ _ h1 (le_of_lt hb')
     rcases fO hk with k1|k1
     ·have:=mul_pos k1 b1
      rw[key]at this
      exact absurd this (acH _ _ r1 r2)
     ·have e:=zero_case k1
      rw[e,t3]at hb'
      exact lt_irrefl _ (cV hb' (jN b2))
   ·rcases xk hw hz with g|g
    ·right
     refine Jb hw hz g ?_
     rw[ac w z]
     exact Hp _ _ (Pi _ h2) g2
    ·left
     rw[g,t3]at h1
     have e:=zero_case (YM _ h1 hk)
     have:z=u:=by rw[g,e];exact amp (neg_neg _) (neg_neg _)
     rw[this];exact le_refl _
  ·rcases xk hu hz with g|g
   ·left
    exact Jb hu hz g (a9 h1 g1)
   ·right
    rw[g,Se]at h2
    have e:=zero_case (YM _ h2 hk)
    rw[g,e];exact le_refl _
end RE
end
end Go.Proofs.YtnkndpoojnflmaaGreat
end
