/- Lines and circles: the reference's contracts. -/
import Derived.Test.YtnkndpoojnflmaaGreatF12
noncomputable section
namespace Go.Proofs.YtnkndpoojnflmaaGreat
open Go.RowKit Go.IntKind
theorem anj:type_of% @List.mem_cons_of_mem:=@List.mem_cons_of_mem
theorem anv:type_of% @Rat.div_mul_cancel:=@Rat.div_mul_cancel
theorem aop:type_of% @not_false_eq_true:=@not_false_eq_true
theorem ao6:type_of% @Bool.eq_iff_iff:=@Bool.eq_iff_iff
def pO(l:Ln)(p:Pt):Rt:=mkR (ka l p) (ke l p) p.2.2.2.2
def vX(c:Ln)(p:Pt):Rt:=arT (sqP p (ctr c)) (-c.2.2)
instance alT {r:Rt} {a:Rat} [h:Rdd r]:Rdd (arT r a):=⟨h.rd⟩
instance Tn {l:Ln} {p:Pt} [h:Rpd p]:Rdd (pO l p):=by
 have:Nn p.2.2.2.2:=inferInstance;exact o8
instance akx {l:Ln} {p:Pt} {i j:Nat} [h:Bd l i] [h':Bd p j]:Bd (pO l p) (5*i+5*j+5):=by
 have a1:Bd (ka l p) _:=inferInstance;have a2:Bd (ke l p) _:=inferInstance;have a3:Bd (mkR (ka l p) (ke l p) p.2.2.2.2) _:=inferInstance;exact a3.mono (by omega)
theorem Uw{l:Ln}{p:Pt}[h:Rpd p]:sgR (pO l p)=ud l p:=by
 unfold ud;rw[E7 (Tn (l:=l) (p:=p)).nn,RE.sgn2_re h.nn];unfold pO;rw[RE.vR_mk]
namespace RE
theorem VV(a b q:RE):a+ -q+b=a+b-q:=by grind
theorem UH(a b q:RE):a-q+b=a+b-q:=by grind
theorem shift_l(a b d q:RE)(h:a+b=a+d):a+ -q+b=a-q+d:=by
 rw[VV,UH,h]
end RE
theorem Tr{c:Ln}{p:Pt}[h:Rpd p]: -sgR (vX c p)=oN c p:=by
 unfold oN;have hr:Rdd (vX c p):=inferInstanceAs (Rdd (arT (sqP p (ctr c)) (-c.2.2)));rw[E7 hr.nn,RE.sgn2_re h.nn]
 have e:RE.vR (vX c p)=RE.v2 (sqA p (ctr c)-c.2.2) (sqB p (ctr c)) p.2.2.2.2:=by
  have e1:=RE.vR_co (sqA p (ctr c)) (sqB p (ctr c)) p.2.2.2.2;unfold RE.vR RE.v2 at e1;unfold vX arT sqP RE.vR RE.v2;simp only;rw[RE.of_add,RE.of_neg,RE.of_sub]
  have e2:RE.of (coR (sqA p (ctr c)) (sqB p (ctr c)) p.2.2.2.2).1=RE.of (sqA p (ctr c)):=by
   unfold coR;cases decide (sqB p (ctr c)=0)<;>rfl
  rw[e2]at e1 ⊢;exact RE.shift_l _ _ _ _ e1
 rw[e]
theorem xO{q:Rat}(h:q≠0):aD q 0=if 0<q then 1 else-1:=by
 rcases(by grind:q<0∨0<q)with h'|h'
 ·rw[dK h',anr (by grind)]
 ·rw[dp h',anB h']
def qO:List En:=[enT iY,enL lj,enL lY,enL n8,enL mh,enT qf,enL pI,enL Gi,enL Fl,enL Qv,enL Fx]
def Mb(a:BR)(_k:KT):OLR:=match decide (okR a∧okR a)with|true=>some [RV.d tR (hMu a a)]|false=>none
def ads:Cn 364 [tR]:=cn fun(a:BR)=>lf (okR a) [.d tR (aj (ae a*ae a))] fun h=>by
 refine aA qO (Mb a) ⟨0,?_⟩;unfold Mb;rw[dT ⟨h,h⟩];simp only[bJ]
def GY:Cn 140 [tR,tR]:=cn fun(a b:BR)=>lf (okR a∧okR b) [.d tR (aj (ae a+ae b))] fun h=>jx [RV.d tR (hAd a b)] (du qO) h
def OZ:Cn 238 [tR,tR]:=cn fun(a b:BR)=>lf (okR a∧okR b) [.d tR (aj (ae a-ae b))] fun h=>jx [RV.d tR (hSu a b)] (du qO) h
def Ck:Cn 141 [tR,tR]:=cn fun(a b:BR)=>lf (okR a∧okR b) [.d tR (aj (ae a*ae b))] fun h=>jx [RV.d tR (hMu a b)] (du qO) h
def NU:Cn 248 [tR,tR]:=cn fun(a b:BR)=>lf (ij a b) [.d tR (aj (ae a/ae b))] fun h=>jx [RV.d tR (hDi a b)] (du qO) h
def sQ:List En:=enL ads::enL GY::enL OZ::enL Ck::enL NU::qO
def Nh(r:BO3)(_k:KT):OLR:=og (o1 r.1) (og (o1 r.2.1) (og (o2 (hid (aj (ae r.2.1*ae r.2.1))) r.2.2) (og (o2 (hid (aj (ae r.1*ae r.1))) (hMu (hid (aj (ae r.2.1*ae r.2.1))) r.2.2)) (some [RV.d tR (hSu (hid (aj (ae r.1*ae r.1))) (hMu (hid (aj (ae r.2.1*ae r.2.1))) r.2.2))]))))
def abh:Cn 348 [tO]:=cn fun(r:BO3)=>lf (ok Rt 90000 r) [.d tR (aj (noR (dec r)))] fun h=>by
 refine aA sQ (Nh r) ⟨0,?_⟩;have hr:=h;obtain⟨r,rfl,br⟩:=aB hr;unfold Nh;simp only[aO,Nat.reduceAdd,Nat.reduceLeDiff];rfl
def Nz(l:BO3)(p:BP)(_k:KT):OLR:=og (o2 l.1 p.1) (og (o2 l.2.1 p.2.2.1) (og (o2 (hMu l.1 p.1) (hMu l.2.1 p.2.2.1)) (og (o2 (hAd (hMu l.1 p.1) (hMu l.2.1 p.2.2.1)) l.2.2) (og (o2 l.1 p.2.1) (og (o2 l.2.1 p.2.2.2.1) (og (o2 (hMu l.1 p.2.1) (hMu l.2.1 p.2.2.2.1)) (og (decide (ok Rat 100000 (hSu (hAd (hMu l.1 p.1) (hMu l.2.1 p.2.2.1)) l.2.2)∧ok Rat 100000 (hAd (hMu l.1 p.2.1) (hMu l.2.1 p.2.2.2.1))∧ok Rat 100000 p.2.2.2.2∧0≤ae p.2.2.2.2)) (some [RV.d tO (hid (enc (mkR (ae (hSu (hAd (hMu l.1 p.1) (hMu l.2.1 p.2.2.1)) l.2.2)) (ae (hAd (hMu l.1 p.2.1) (hMu l.2.1 p.2.2.2.1))) (ae p.2.2.2.2))))]))))))))
def PJ:Cn 124 [tO,tP]:=cn fun(l:BO3) (p:BP)=>lf (ok Ln 300 l∧okP 4000 p) [.d tO (enc (pO (dec l) (dec p)))] fun h=>by
 refine aA sQ (Nz l p) ⟨0,?_⟩;obtain⟨hl,hp⟩:=h;obtain⟨l,rfl,bl⟩:=aB hl;obtain⟨p,rfl,bp,rp⟩:=aZ hp;have hn:0≤p.2.2.2.2:=rp.nn;unfold Nz;simp only[aO,Nat.reduceAdd,Nat.reduceLeDiff,dT hn];rfl
def Qh(c:BO3)(p:BP)(_k:KT):OLR:=og (decide (okP 3500 p∧ok (Rat×Rat) 300 (c.1,c.2.1))) (og (o1 c.2.2) (og (decide (ok Rt 100000 (hid (enc (sqP (dec p) (dec (c.1,c.2.1)))))∧ok Rat 100000 (hNe c.2.2))) (some [RV.d tO (hid (enc (arT (dec (hid (enc (sqP (dec p) (dec (c.1,c.2.1)))))) (ae (hNe c.2.2)))))])))
def acC:Cn 319 [tO,tP]:=cn fun(c:BO3) (p:BP)=>lf (ok Ln 300 c∧okP 3500 p) [.d tO (enc (vX (dec c) (dec p)))] fun h=>by
 refine aA sQ (Qh c p) ⟨0,?_⟩;obtain⟨hc,hp⟩:=h;obtain⟨c,rfl,bc⟩:=aB hc;obtain⟨p,rfl,bp,rp⟩:=aZ hp;have e0:(dec ((aj c.1,aj c.2.1):BV):Rat×Rat)=ctr c:=az (ctr c);have e1:decide (ok (Rat×Rat) 300 ((aj c.1,aj c.2.1):BV))=true:=okd (x:=ctr c) (by decide) (by decide);unfold Qh;simp only[aO,Nat.reduceAdd,Nat.reduceMul,Nat.reduceLeDiff,aJ,e0,e1];rfl
def MW(l:BO3)(v:BV)(_k:KT):OLR:=og (o2 l.1 l.1) (og (o2 l.2.1 l.2.1) (og (o2 (hMu l.1 l.1) (hMu l.2.1 l.2.1)) (og (o2 l.1 v.1) (og (o2 l.2.1 v.2) (og (o2 (hMu l.1 v.1) (hMu l.2.1 v.2)) (og (o2 l.2.2 (hAd (hMu l.1 v.1) (hMu l.2.1 v.2))) (og (decide (ij (hSu l.2.2 (hAd (hMu l.1 v.1) (hMu l.2.1 v.2))) (hAd (hMu l.1 l.1) (hMu l.2.1 l.2.1)))) (og (o2 (hDi (hSu l.2.2 (hAd (hMu l.1 v.1) (hMu l.2.1 v.2))) (hAd (hMu l.1 l.1) (hMu l.2.1 l.2.1))) l.1) (og (o2 v.1 (hMu (hDi (hSu l.2.2 (hAd (hMu l.1 v.1) (hMu l.2.1 v.2))) (hAd (hMu l.1 l.1) (hMu l.2.1 l.2.1))) l.1)) (og (o2 (hDi (hSu l.2.2 (hAd (hMu l.1 v.1) (hMu l.2.1 v.2))) (hAd (hMu l.1 l.1) (hMu l.2.1 l.2.1))) l.2.1) (og (o2 v.2 (hMu (hDi (hSu l.2.2 (hAd (hMu l.1 v.1) (hMu l.2.1 v.2))) (hAd (hMu l.1 l.1) (hMu l.2.1 l.2.1))) l.2.1)) (some [RV.d tV (hAd v.1 (hMu (hDi (hSu l.2.2 (hAd (hMu l.1 v.1) (hMu l.2.1 v.2))) (hAd (hMu l.1 l.1) (hMu l.2.1 l.2.1))) l.1),hAd v.2 (hMu (hDi (hSu l.2.2 (hAd (hMu l.1 v.1) (hMu l.2.1 v.2))) (hAd (hMu l.1 l.1) (hMu l.2.1 l.2.1))) l.2.1))]))))))))))))
def GL:Cn 138 [tO,tV]:=cn fun(l:BO3) (v:BV)=>lf (ok Ln 300 l∧ok (Rat×Rat) 200 v∧((dec l:Ln).1≠0∨(dec l:Ln).2.1≠0)) [.d tV (enc (dt (dec l) (dec v)))] fun h=>by
 refine aA sQ (MW l v) ⟨0,?_⟩;obtain⟨hl,hv,h0⟩:=h;obtain⟨l,rfl,bl⟩:=aB hl;obtain⟨v,rfl,bv⟩:=aB hv;have hn:l.1*l.1+l.2.1*l.2.1≠0:=lK (by rw[az]at h0;exact h0)
 have e:(l.2.2-(l.1*v.1+l.2.1*v.2))/(l.1*l.1+l.2.1*l.2.1)= -mv l v:=by
  unfold mv;grind
 unfold MW;simp only[aO,Nat.reduceAdd,Nat.reduceLeDiff,hn,ne_eq,aop];unfold dt;rw[e,show v.1+ -mv l v*l.1=v.1-mv l v*l.1 by grind,show v.2+ -mv l v*l.2.1=v.2-mv l v*l.2.1 by grind];rfl
def Jr:List En:=enL abh::enL PJ::enL acC::enL GL::sQ
def Ov(r:BO3)(_k:KT):OLR:=og (o1 r.1) (og (o1 r.2.1) (match(aD (ae r.1) 0)==(aD (ae r.2.1) 0)with|true=>some [RV.d aqt (aD (ae r.1) 0)]|false=>(match(aD (ae r.2.1) 0)==0 with|true=>some [RV.d aqt (aD (ae r.1) 0)]|false=>(match(aD (ae r.1) 0)==0 with|true=>some [RV.d aqt (aD (ae r.2.1) 0)]|false=>(og (decide (ok Rt 90000 r)) (og (o1 (hid (aj (noR (dec r))))) (match decide ((aD (ae (hid (aj (noR (dec r))))) 0)>0)with|true=>some [RV.d aqt (aD (ae r.1) 0)]|false=>some [RV.d aqt (aD (ae r.2.1) 0)])))))))
def abP:Cn 318 [tO]:=cn fun(r:BO3)=>lf (okT 90000 r) [.d aqt (sgR (dec r))] fun h=>by
 refine aA Jr (Ov r) ⟨0,?_⟩;have hr:=h;obtain⟨r,rfl,br,rr⟩:=fH hr;unfold Ov;simp only[aO,Nat.reduceAdd,Nat.reduceMul,Nat.reduceLeDiff,ao,au];rw[Y4 rr];by_cases hb:r.2.1=0
 ·rw[am5 hb,hb,d8];by_cases ha:aD r.1 0=0
  ·rw[ha];rfl
  ·rw[show(aD r.1 0==0)=false by simp[ha]];rfl
 ·have hn:=aeH rr hb;have e2:=xO hn;have hb2:=xO hb;rw[am7 hb,show(aD r.2.1 0==0)=false by rw[ao,am7 hb]];by_cases ha:r.1=0
  ·rw[am5 ha,ha,d8,show((0:Int)==aD r.2.1 0)=false by rw[hb2];split<;>rfl];rfl
  ·have ha2:=xO ha;rw[am7 ha,show(aD r.1 0==0)=false by rw[ao,am7 ha]];cases hq:(aD r.1 0==aD r.2.1 0)
   ·have hne:aD r.1 0≠aD r.2.1 0:=by simpa using hq
    rw[e2];by_cases hp:0<noR r
    ·rw[am5 hp,anB hp,app];rfl
    ·rw[am7 hp,anr hp];show some [RV.d aqt (aD r.2.1 0)]=some [RV.d aqt (aD r.1 0* -1)]
     rw[show aD r.2.1 0=aD r.1 0* -1 by
      rw[ha2,hb2]at hne ⊢;split at hne<;>split at hne<;>simp_all]
   ·rfl
def HR:List En:=enT abP::Jr
def Qg(l:BO3)(p:BP)(_k:KT):OLR:=og (decide (ok Ln 300 l∧okP 4000 p)) (og (decide (okT 90000 (hid (enc (pO (dec l) (dec p)))))) (some [RV.d aqt (sgR (dec (hid (enc (pO (dec l) (dec p))))))]))
def aeq:Cn 259 [tO,tP]:=cn fun(l:BO3) (p:BP)=>lf (ok Ln 300 l∧okP 4000 p) [.d aqt (ud (dec l) (dec p))] fun h=>by
 refine aA HR (Qg l p) ⟨0,?_⟩;obtain⟨hl,hp⟩:=h;obtain⟨l,rfl,bl⟩:=aB hl;obtain⟨p,rfl,bp,rp⟩:=aZ hp;unfold Qg;simp only[aO,Nat.reduceAdd,Nat.reduceMul,Nat.reduceLeDiff,aI,aJ];rw[Uw]
def NR(c:BO3)(p:BP)(_k:KT):OLR:=og (decide (ok Ln 300 c∧okP 3500 p)) (og (decide (okT 90000 (hid (enc (vX (dec c) (dec p)))))) (some [RV.d aqt (i64.wrap (0-(sgR (dec (hid (enc (vX (dec c) (dec p))))))))]))
def abs:Cn 258 [tO,tP]:=cn fun(c:BO3) (p:BP)=>lf (ok Ln 300 c∧okP 3500 p) [.d aqt (oN (dec c) (dec p))] fun h=>by
 refine aA HR (NR c p) ⟨0,?_⟩;obtain⟨hc,hp⟩:=h;obtain⟨c,rfl,bc⟩:=aB hc;obtain⟨p,rfl,bp,rp⟩:=aZ hp;have hr:Rdd (vX c p):=inferInstanceAs (Rdd (arT (sqP p (ctr c)) (-c.2.2)));have br:Bd (vX c p) 90000:=(inferInstance:Bd (arT (sqP p (ctr c)) (-c.2.2)) _).mono (by decide);have hb: -1≤sgR (vX c p)∧sgR (vX c p)≤1:=lN _ _ _;unfold NR;simp only[aO,Nat.reduceLeDiff,aI,aJ,ao1,aT (x:= -sgR (vX c p)) (by omega) (by omega)];rw[Tr]
abbrev tCU:Ty:=.st (.pair .bool (.pair tO (.pair tO (.pair .bool (.pair tP tP)))))
abbrev BCU:=Bool×BO3×BO3×Bool×BP×BP
abbrev Cv:=Bool×Ln×Ln×Bool×Pt×Pt
def dC(c:BCU):Cv:=(c.1,dec c.2.1,dec c.2.2.1,c.2.2.2.1,dec c.2.2.2.2.1,dec c.2.2.2.2.2)
def nM(x:BO3):Prop:=ok Ln 300 x∧(0:Rat)<(dec x:Ln).2.2
instance (x:BO3):Decidable (nM x):=by unfold nM;infer_instance
def Tp(x:BO3):Prop:=ok Ln 300 x∧((dec x:Ln).1≠0∨(dec x:Ln).2.1≠0)
instance (x:BO3):Decidable (Tp x):=by unfold Tp;infer_instance
def okC(k:Nat)(c:BCU):Prop:=(c.1=true→nM c.2.2.1)∧(c.1=false→Tp c.2.1)∧okP k c.2.2.2.2.1∧okP k c.2.2.2.2.2
instance (k:Nat) (c:BCU):Decidable (okC k c):=by unfold okC;infer_instance
def frC(c:Cv):Pt:=c.2.2.2.2.1
def toC(c:Cv):Pt:=c.2.2.2.2.2
def lnC(c:Cv):Ln:=c.2.1
def ciC(c:Cv):Ln:=c.2.2.1
def cwC(c:Cv):Bool:=c.2.2.2.1
def gD(c:Cv)(p:Pt):Bool:=bif c.1 then oN (ciC c) p==0 else ud (lnC c) p==0
def upR(c:Ln)(p:Pt):Bool:=decide (fC (yP p) c.2.1>0)||(fC (yP p) c.2.1==0&&decide (fC (xP p) c.1>0))
def ptd(c:Ln)(p:Pt):Bool×Rt:=(upR c p,xP p)
def Ec(c:Ln)(p:Pt):Int:=bif upR c p then 0 else 1
def ccF(c:Cv):Pt:=bif cwC c then toC c else frC c
def ccT(c:Cv):Pt:=bif cwC c then frC c else toC c
def ii(c:Cv)(p:Pt):Bool:=bif c.1 then decide (gI aW (ptd (ciC c) (ccF c)) (ptd (ciC c) p) (ptd (ciC c) (ccT c))≤0)else uH (aX (frC c) p) (aX p (toC c))
def onP(c:Cv)(p:Pt):Bool:=gD c p&&ii c p
def tY(c:BCU):BCU:=(c.1,c.2.1,c.2.2.1,c.1&&!c.2.2.2.1,c.2.2.2.2.2,c.2.2.2.2.1)
def dY(c:BCU):BCU:=bif c.2.2.2.1 then tY c else c
def flP(p:Pt):Pt:=(-p.1,-p.2.1,p.2.2.1,p.2.2.2.1,p.2.2.2.2)
def flC(c:Ln):Ln:=(-c.1,c.2.1,c.2.2)
def dk(c:Cv)(p q:Pt):Int:=bif c.1 then(bif cwC c then j8 aW (ptd (flC (ciC c)) (flP (frC c))) (ptd (flC (ciC c)) (flP p)) (ptd (flC (ciC c)) (flP q))else j8 aW (ptd (ciC c) (frC c)) (ptd (ciC c) p) (ptd (ciC c) q))
 else(bif decide (aX (frC c) (toC c)>0)then-aX p q else aX p q)
def onR(c:Cv)(p:Pt):Bool:=gD c p&&(decide (dk c (frC c) p≤0)&&decide (dk c p (toC c)≤0))
theorem PS(k:Nat){c:BCU}(h:okC k c):okC k (tY c):=⟨h.1,h.2.1,h.2.2.2,h.2.2.1⟩
theorem wA(p q:Pt): -1≤aX p q∧aX p q≤1:=by
 unfold aX;cases aW (xP p) (xP q)==0
 ·exact wC _ _
 ·exact wC _ _
theorem IS{p q:Bool×Rt}:0≤oM aW p q∧oM aW p q≤2:=by
 unfold oM;cases sh aW q p==0<;>cases decide (sh aW q p>0)<;>simp only[cond_true,cond_false]<;>omega
def xn(c:BCU):BCU:=(c.1,c.2.1,(aj (-ae c.2.2.1.1),c.2.2.1.2),!c.2.2.2.1,enc (flP (dec c.2.2.2.2.1)),enc (flP (dec c.2.2.2.2.2)))
instance amR {p:Pt} [h:Rpd p]:Rpd (flP p):=by
 refine⟨?_⟩;have:=h.rd;unfold GR flP at*
 simp only;have e:(-p.2.1=0)↔p.2.1=0:=by constructor<;>intro h<;>grind
 rw[e];exact this
instance amM {p:Pt} {j:Nat} [h:Bd p j]:Bd (flP p) j:=by
 have i1:Bd ((-p.1,-p.2.1,p.2.2.1,p.2.2.2.1,p.2.2.2.2):Pt) _:=inferInstance;exact i1.mono (cL (by omega) (cL (by omega) (cL (by omega) (cL (by omega) (by omega)))))
theorem qm{j k:Nat}{x:BP}(h:okP j x)(hj:j≤k)(hk:k≤480000):okP k x:=by
 obtain⟨p,rfl,bp,rp⟩:=aZ h;exact am8 (aJ hj hk)
theorem Lb{j k:Nat}{c:BCU}(h:okC j c)(hj:j≤k)(hk:k≤480000):okC k c:=⟨h.1,h.2.1,qm h.2.2.1 hj hk,qm h.2.2.2 hj hk⟩
theorem F5{x:BP}(h:okP 4000 x):okP 4000 (enc (flP (dec x))):=by
 obtain⟨p,rfl,bp,rp⟩:=aZ h;rw[az];exact am8 (aJ (x:=flP p) (by decide) (by decide))
theorem adG{x:BO3}(h:ok Ln 300 x):ok Ln 300 ((aj (-ae x.1),x.2):BO3)∧(dec ((aj (-ae x.1),x.2):BO3):Ln)=flC (dec x):=by
 obtain⟨l,rfl,bl⟩:=aB h
 have e:((aj (-ae (enc l:BO3).1),(enc l:BO3).2):BO3)=enc (flC l):=by
  rw[te,dQ,co];rfl
 rw[e,az,az];refine⟨?_,rfl⟩;have i1:Bd (flC l) 300:=(inferInstance:Bd ((-l.1,l.2.1,l.2.2):Ln) _).mono (by decide);exact am8 (okd (x:=flC l) (anb _) (by decide))
def zY:List En:=[enL pI,enT Cm,enT Bn,enL WW,enL WM,enT Au,enT aeq,enT abs]
def WN(c:BCU)(p:BP)(_k:KT):OLR:=match c.1 with|true=>(og (decide (ok Ln 300 c.2.2.1∧okP 3500 p)) (some [RV.d .bool ((oN (dec c.2.2.1) (dec p))==0)]))|false=>(og (decide (ok Ln 300 c.2.1∧okP 4000 p)) (some [RV.d .bool ((ud (dec c.2.1) (dec p))==0)]))
def ahV:Cn 150 [tCU,tP]:=cn fun(c:BCU) (p:BP)=>lf (okC 3500 c∧okP 3500 p) [.d .bool (gD (dC c) (dec p))] fun h=>by
 refine aA zY (WN c p) ⟨0,?_⟩;obtain⟨hc,hp⟩:=h;have op:decide (okP 3500 p)=true:=am5 hp;have op4:decide (okP 4000 p)=true:=am5 (qm hp (by decide) (by decide));obtain⟨ar,li,ci,cw,fr,to⟩:=c;obtain⟨c1,c2,_⟩:=hc;unfold WN;cases ar
 ·have e:=(c2 rfl).1;simp only[ao4,dT e,op4,aoB];rfl
 ·have e:=(c1 rfl).1;simp only[ao4,dT e,op,aoB];rfl
def aa2(c:BO3)(p:BP)(_k:KT):OLR:=og (decide (okP 4000 p)) (og (decide (okT 15000 (hid (enc (yP (dec p))))∧ok Rat 15000 c.2.1)) (match decide ((fC (dec (hid (enc (yP (dec p))))) (ae c.2.1))>0)with|true=>some [RV.d .bool true]|false=>(match(fC (dec (hid (enc (yP (dec p))))) (ae c.2.1))==0 with|true=>(og (decide (okP 4000 p)) (og (decide (okT 15000 (hid (enc (xP (dec p))))∧ok Rat 15000 c.1)) (some [RV.d .bool (decide ((fC (dec (hid (enc (xP (dec p))))) (ae c.1))>0))])))|false=>some [RV.d .bool false])))
def ahi:Cn 320 [tO,tP]:=cn fun(c:BO3) (p:BP)=>lf (ok Ln 300 c∧okP 4000 p) [.d .bool (upR (dec c) (dec p))] fun h=>by
 refine aA zY (aa2 c p) ⟨0,?_⟩;obtain⟨hc,hp⟩:=h;obtain⟨c,rfl,bc⟩:=aB hc;obtain⟨p,rfl,bp,rp⟩:=aZ hp;unfold aa2 upR;simp only[aO,Nat.reduceLeDiff,aI,aJ];cases decide (fC (yP p) c.2.1>0)<;>cases fC (yP p) c.2.1==0<;>rfl
def W5(p:BP)(_k:KT):OLR:=og (o1 p.1) (og (o1 p.2.1) (some [RV.d tP (hNe p.1,(hNe p.2.1,p.2.2))]))
def ahX:Cn 155 [tP]:=cn fun(p:BP)=>lf (okP 4000 p) [.d tP (enc (flP (dec p)))] fun h=>by
 refine aA zY (W5 p) ⟨0,?_⟩;have hp:=h;obtain⟨p,rfl,bp,rp⟩:=aZ hp;unfold W5;simp only[aO,Nat.reduceLeDiff];rfl
def af1:Ctx:=CX (ens zY) []
def ah5(c:BCU)(_k:KT):OLR:=match c.1 with|true=>some [RV.d tCU (c.1,(c.2.1,(c.2.2.1,(!c.2.2.2.1,(c.2.2.2.2.2,c.2.2.2.2.1)))))]|false=>some [RV.d tCU (c.1,(c.2.1,(c.2.2.1,(false,(c.2.2.2.2.2,c.2.2.2.2.1)))))]
theorem ahQ(c:BCU):RS af1 16 [.d tCU c] (ah5 c):=rsX
def aaA:Cn 16 [tCU]:=cn fun(c:BCU)=>lf True [.d tCU (tY c)] fun _=>by
 refine cY zY (ahQ _ ⟨0,?_⟩);obtain⟨ar,li,ci,cw,fr,to⟩:=c;cases ar<;>rfl
def LL:List En:=enT ahV::enT ahi::enL ahX::enL aaA::zY
def aai(c:BO3)(p q:BP)(_k:KT):OLR:=og (decide (ok Ln 300 c∧okP 4000 p)) (og (decide (ok Ln 300 c∧okP 4000 q)) (match !((upR (dec c) (dec p))==(upR (dec c) (dec q)))with|true=>(match upR (dec c) (dec q)with|true=>some [RV.d aqt (-1)]|false=>some [RV.d aqt 1])|false=>(og (decide (okP 4000 p)) (og (decide (okP 4000 q)) (og (decide (okT 15000 (hid (enc (xP (dec p))))∧okT 15000 (hid (enc (xP (dec q)))))) (match upR (dec c) (dec p)with|true=>some [RV.d aqt (i64.wrap (0-(aW (dec (hid (enc (xP (dec p))))) (dec (hid (enc (xP (dec q))))))))]|false=>some [RV.d aqt (aW (dec (hid (enc (xP (dec p))))) (dec (hid (enc (xP (dec q))))))]))))))
def agt:Cn 261 [tO,tP,tP]:=cn fun(c:BO3) (p q:BP)=>lf (ok Ln 300 c∧okP 4000 p∧okP 4000 q) [.d aqt (jP aW (ptd (dec c) (dec p)) (ptd (dec c) (dec q)))] fun h=>by
 refine aA LL (aai c p q) ⟨0,?_⟩;obtain⟨hc,hp,hq⟩:=h;obtain⟨c,rfl,bc⟩:=aB hc;obtain⟨p,rfl,bp,rp⟩:=aZ hp;obtain⟨q,rfl,bq,rq⟩:=aZ hq;have xb:=wC (xP p) (xP q);unfold aai;simp only[aO,Nat.reduceLeDiff,aI,aJ,aT (x:= -aW (xP p) (xP q)) (by omega) (by omega),ao1];unfold jP ptd;cases upR c p<;>cases upR c q<;>rfl
def YU(c:BCU)(_k:KT):OLR:=match decide (okR c.2.2.1.1)with|true=>(match decide (okP 4000 c.2.2.2.2.1)with|true=>(match decide (okP 4000 c.2.2.2.2.2)with|true=>some [RV.d tCU (c.1,(c.2.1,((hNe c.2.2.1.1,c.2.2.1.2),(!c.2.2.2.1,(hid (enc (flP (dec c.2.2.2.2.1))),hid (enc (flP (dec c.2.2.2.2.2))))))))]|false=>none)|false=>none)|false=>none
def af3:Cn 154 [tCU]:=cn fun(c:BCU)=>lf (nM c.2.2.1∧okP 4000 c.2.2.2.2.1∧okP 4000 c.2.2.2.2.2) [.d tCU (xn c)] fun h=>by
 refine aA LL (YU c) ⟨0,?_⟩;obtain⟨hc,hf,ht⟩:=h
 have e:okR c.2.2.1.1:=by
  obtain⟨l,hl,bl⟩:=aB hc.1;rw[hl,te,dQ];exact am8 (JP (q:=l.1) (by decide))
 unfold YU;rw[dT e,dT hf,dT ht];simp only[bJ];rfl
def ZS:List En:=enT agt::enL af3::LL
def Z1(c:BO3)(f p q:BP)(_k:KT):OLR:=og (decide (ok Ln 300 c∧okP 4000 p∧okP 4000 f)) (og (decide (ok Ln 300 c∧okP 4000 q∧okP 4000 f)) (match !((decide ((jP aW (ptd (dec c) (dec p)) (ptd (dec c) (dec f)))<0))==(decide ((jP aW (ptd (dec c) (dec q)) (ptd (dec c) (dec f)))<0)))with|true=>(match decide ((jP aW (ptd (dec c) (dec q)) (ptd (dec c) (dec f)))<0)with|true=>some [RV.d aqt (-1)]|false=>some [RV.d aqt 1])|false=>(og (decide (ok Ln 300 c∧okP 4000 p∧okP 4000 q)) (some [RV.d aqt (jP aW (ptd (dec c) (dec p)) (ptd (dec c) (dec q)))]))))
def aha:Cn 153 [tO,tP,tP,tP]:=cn fun(c:BO3) (f p q:BP)=>lf (ok Ln 300 c∧okP 4000 f∧okP 4000 p∧okP 4000 q) [.d aqt (j8 aW (ptd (dec c) (dec f)) (ptd (dec c) (dec p)) (ptd (dec c) (dec q)))] fun h=>by
 refine aA ZS (Z1 c f p q) ⟨0,?_⟩;obtain⟨hc,hf,hp,hq⟩:=h;unfold Z1 j8;rw[dT (show ok Ln 300 c∧okP 4000 p∧okP 4000 f from⟨hc,hp,hf⟩),dT (show ok Ln 300 c∧okP 4000 q∧okP 4000 f from⟨hc,hq,hf⟩),dT (show ok Ln 300 c∧okP 4000 p∧okP 4000 q from⟨hc,hp,hq⟩)];cases decide (jP aW (ptd (dec c) (dec p)) (ptd (dec c) (dec f))<0)<;>cases decide (jP aW (ptd (dec c) (dec q)) (ptd (dec c) (dec f))<0)<;>rfl
def aaN:List En:=enT aha::ZS
def Zm(c:BCU)(p q:BP)(_k:KT):OLR:=match !c.1 with|true=>(og (decide (okP 4000 p∧okP 4000 q)) (og (decide (okP 4000 c.2.2.2.2.1∧okP 4000 c.2.2.2.2.2)) (match decide ((aX (dec c.2.2.2.2.1) (dec c.2.2.2.2.2))>0)with|true=>some [RV.d aqt (i64.wrap (0-(aX (dec p) (dec q))))]|false=>some [RV.d aqt (aX (dec p) (dec q))])))|false=>(match !c.2.2.2.1 with|true=>(og (decide (ok Ln 300 c.2.2.1∧okP 4000 c.2.2.2.2.1∧okP 4000 p∧okP 4000 q)) (some [RV.d aqt (j8 aW (ptd (dec c.2.2.1) (dec c.2.2.2.2.1)) (ptd (dec c.2.2.1) (dec p)) (ptd (dec c.2.2.1) (dec q)))]))|false=>(og (decide (nM c.2.2.1∧okP 4000 c.2.2.2.2.1∧okP 4000 c.2.2.2.2.2)) (og (decide (okP 4000 p)) (og (decide (okP 4000 q)) (og (decide (ok Ln 300 ((((hid (xn c)).2).2).1)∧okP 4000 ((((((hid (xn c)).2).2).2).2).1)∧okP 4000 (hid (enc (flP (dec p))))∧okP 4000 (hid (enc (flP (dec q)))))) (some [RV.d aqt (j8 aW (ptd (dec ((((hid (xn c)).2).2).1)) (dec ((((((hid (xn c)).2).2).2).2).1))) (ptd (dec ((((hid (xn c)).2).2).1)) (dec (hid (enc (flP (dec p)))))) (ptd (dec ((((hid (xn c)).2).2).1)) (dec (hid (enc (flP (dec q)))))))]))))))
def ST:Cn 61 [tCU,tP,tP]:=cn fun(c:BCU) (p q:BP)=>lf (okC 4000 c∧okP 4000 p∧okP 4000 q) [.d aqt (dk (dC c) (dec p) (dec q))] fun h=>by
 refine aA aaN (Zm c p q) ⟨0,?_⟩;obtain⟨hc,hp,hq⟩:=h;have xb:=wA (dec p) (dec q);obtain⟨ar,li,ci,cw,fr,to⟩:=c;obtain⟨c1,c2,c3,c4⟩:=hc;simp only at c1 c2 c3 c4;unfold Zm dk;cases ar
 ·simp only[ao1,aT (x:= -aX (dec p) (dec q)) (by omega) (by omega),dT (show okP 4000 p∧okP 4000 q from⟨hp,hq⟩),dT (show okP 4000 fr∧okP 4000 to from⟨c3,c4⟩),Bool.not_false];simp only[dC,frC,toC,cond_false];by_cases hd:aX (dec fr) (dec to)>0
  ·simp[hd]
  ·simp[hd]
 ·have e:=(c1 rfl).1;have hci:=c1 rfl;obtain⟨f1,f2⟩:=adG e;cases cw
  ·simp only[dT (show ok Ln 300 ci∧okP 4000 fr∧okP 4000 p∧okP 4000 q from⟨e,c3,hp,hq⟩),Bool.not_true,Bool.not_false];rfl
  ·have hm:ok Ln 300 (xn (true,li,ci,true,fr,to)).2.2.1∧okP 4000 (xn (true,li,ci,true,fr,to)).2.2.2.2.1∧okP 4000 (enc (flP (dec p)))∧okP 4000 (enc (flP (dec q))):=⟨f1,F5 c3,F5 hp,F5 hq⟩
   have m1:(dec (xn (true,li,ci,true,fr,to)).2.2.1:Ln)=flC (dec ci):=f2;have m2:(dec (xn (true,li,ci,true,fr,to)).2.2.2.2.1:Pt)=flP (dec fr):=az _;simp only[bJ,dT (show nM ci∧okP 4000 fr∧okP 4000 to from⟨hci,c3,c4⟩),dT hp,dT hq,dT hm,Bool.not_true,m1,m2,az];rfl
def ahh:List En:=enT ST::aaN
def X8(c:BCU)(p:BP)(_k:KT):OLR:=og (decide (okC 3500 c∧okP 3500 p)) (match gD (dC c) (dec p)with|true=>(og (decide (okC 4000 c∧okP 4000 c.2.2.2.2.1∧okP 4000 p)) (match decide ((dk (dC c) (dec c.2.2.2.2.1) (dec p))≤0)with|true=>(og (decide (okC 4000 c∧okP 4000 p∧okP 4000 c.2.2.2.2.2)) (some [RV.d .bool (decide ((dk (dC c) (dec p) (dec c.2.2.2.2.2))≤0))]))|false=>some [RV.d .bool false]))|false=>some [RV.d .bool false])
def Jn:Cn 58 [tCU,tP]:=cn fun(c:BCU) (p:BP)=>lf (okC 3500 c∧okP 3500 p) [.d .bool (onR (dC c) (dec p))] fun h=>by
 refine aA ahh (X8 c p) ⟨0,?_⟩;obtain⟨hc,hp⟩:=h;have hc4:=Lb (k:=4000) hc (by decide) (by decide);have hp4:=qm (k:=4000) hp (by decide) (by decide);unfold X8 onR;rw[dT (show okC 3500 c∧okP 3500 p from⟨hc,hp⟩),dT (show okC 4000 c∧okP 4000 c.2.2.2.2.1∧okP 4000 p from⟨hc4,hc4.2.2.1,hp4⟩),dT (show okC 4000 c∧okP 4000 p∧okP 4000 c.2.2.2.2.2 from⟨hc4,hp4,hc4.2.2.2⟩)];cases gD (dC c) (dec p)
 ·rfl
 ·show(match decide (dk (dC c) (frC (dC c)) (dec p)≤0)with|true=>some [RV.d .bool (decide (dk (dC c) (dec p) (toC (dC c))≤0))]|false=>some [RV.d .bool false])=_;cases decide (dk (dC c) (frC (dC c)) (dec p)≤0)<;>rfl
section
namespace RE
theorem H9{u v:RE}:cls u v=2↔v=0∧¬0<u:=by
 unfold cls;rcases bi v with⟨a,h1⟩|⟨a,h1⟩|⟨a,h1⟩<;>rcases bi u with⟨b,h2⟩|⟨b,h2⟩|⟨b,h2⟩<;>rw[h1,h2]
 all_goals first
  |exact⟨fun _=>⟨a,fun h=>by rw[b]at h;exact lt_irrefl _ h⟩,fun _=>rfl⟩
  |exact⟨fun _=>⟨a,fun h=>lt_irrefl _ (cO h b)⟩,fun _=>rfl⟩
  |(refine⟨fun h=>absurd h (by decide),fun h=>?_⟩;first|(rw[h.1]at a;exact absurd a (lt_irrefl _))|exact absurd b h.2)
theorem vj{u v Q:RE}(hQ:0<Q)(h:u*u+v*v=Q)(hv:v=0)(hu:¬0<u):u<0:=by
 rcases m9 u 0 with e|e|e
 ·exact e
 ·rw[e,hv,mul_zero,add_zero]at h;rw[←h]at hQ;exact absurd hQ (lt_irrefl _)
 ·exact absurd e hu
theorem KS(u w Q:RE):((u-(0))*(u-(w)))+((w-(0))*(u-(w)))+((Q-(u*u)))+((w*w-(Q)))=0:=by grind
theorem Ja(u w Q:RE)(h1:u*u=Q)(h2:w*w=Q)(h3:0<u)(h4:0<w):u≤w:=fun hg=>far (aK (aK (aK (mul_pos (aL h3) (aL hg)) (le_of_lt (mul_pos (aL h4) (aL hg)))) (aF (ow h1))) (aF (lT h2))) (KS u w Q)
theorem J8(u w Q:RE):((0-(u))*(u-(w)))+((0-(w))*(u-(w)))+((u*u-(Q)))+((Q-(w*w)))=0:=by grind
theorem Jy(u w Q:RE)(h1:u*u=Q)(h2:w*w=Q)(h3:u<0)(h4:w<0):u≤w:=fun hg=>far (aK (aK (aK (mul_pos (aL h3) (aL hg)) (le_of_lt (mul_pos (aL h4) (aL hg)))) (aF (lT h1))) (aF (ow h2))) (J8 u w Q)
theorem DO(x y c:RE)(h1:x-c<y-c):x<y:=by grind
theorem JY(x y c:RE)(h1:x-c=y-c):x≤y:=by grind
theorem Le(x y c:RE)(h1:x-c=y-c):y≤x:=by grind
theorem jA(x y c:RE)(h1:x-c=y-c):x=y:=le_antisymm (JY x y c h1) (Le x y c h1)
theorem CK(x c:RE): -x- -c= -(x-c):=by grind
theorem TP(x y:RE): -x- -y=y-x:=by grind
theorem adl(a b r:RE): -a+ -b*r= -(a+b*r):=by grind
theorem Pg(x q:RE)(h1:x+ -q=0):x≤q:=by grind
theorem Sc(x q:RE)(h1:x+ -q=0):q≤x:=by grind
theorem HD(x q:RE)(h1:x+ -q=0):x=q:=le_antisymm (Pg x q h1) (Sc x q h1)
section
variable {x y x' y' cx cy Q:RE}
theorem df(hQ:0<Q)(h:(x-cx)*(x-cx)+(y-cy)*(y-cy)=Q)(h':(x'-cx)*(x'-cx)+(y'-cy)*(y'-cy)=Q){L:List RE}(hx:x∈L)(hx':x'∈L):
  mU (cls (x-cx) (y-cy)) (rk (fun a b:RE=>a<b) L x) (cls (x'-cx) (y'-cy)) (rk (fun a b:RE=>a<b) L x')=true:=by
 unfold mU;rw[am9];have vv:∀{u v:RE},u*u+v*v=Q→v=0→u*u=Q:=fun h e=>by rw[e,mul_zero,add_zero]at h;exact h
 refine⟨?_,?_⟩
 ·by_cases e:cls (x-cx) (y-cy)=0
  ·obtain⟨e1,e2⟩:=JL.1 e;rw[e];by_cases e':cls (x'-cx) (y'-cy)=0
   ·obtain⟨f1,f2⟩:=JL.1 e';rw[e'];have:=jA _ _ cx (le_antisymm (Ja _ _ _ (vv h e1) (vv h' f1) e2 f2) (Ja _ _ _ (vv h' f1) (vv h e1) f2 e2));rw[this];simp
   ·have hle:=aew _ _ _ _ _ h h' e1 e2 (fo (y'-cy))
    have hlt:x'-cx<x-cx:=by
     rcases m9 (x'-cx) (x-cx)with g|g|g
     ·exact g
     ·exfalso;have z:=SA (x-cx) (x'-cx) (y'-cy) Q (vv h e1) h' (by rw[g]);exact e' (JL.2 ⟨v9 z,by rw[g];exact e2⟩)
     ·exact absurd g ((AS _ _).1 hle)
    have:=Ei lt_lin (DO _ _ _ hlt) hx';rw[show(cls (x'-cx) (y'-cy)==0)=false by simp[e']];simp[this]
  ·simp[e]
 ·by_cases e:cls (x-cx) (y-cy)=2
  ·obtain⟨e1,e2⟩:=H9.1 e;have e3:=vj hQ h e1 e2;rw[e];by_cases e':cls (x'-cx) (y'-cy)=2
   ·obtain⟨f1,f2⟩:=H9.1 e';have f3:=vj hQ h' f1 f2;rw[e'];have:=jA _ _ cx (le_antisymm (Jy _ _ _ (vv h e1) (vv h' f1) e3 f3) (Jy _ _ _ (vv h' f1) (vv h e1) f3 e3));rw[this];simp
   ·have hle:=acK _ _ _ _ _ h h' e1 e3 (fo (y'-cy))
    have hlt:x-cx<x'-cx:=by
     rcases m9 (x-cx) (x'-cx)with g|g|g
     ·exact g
     ·exfalso;have z:=SA (x-cx) (x'-cx) (y'-cy) Q (vv h e1) h' (by rw[g]);exact e' (H9.2 ⟨v9 z,by rw[←g];exact e2⟩)
     ·exact absurd g ((AS _ _).1 hle)
    have:=Ei lt_lin (DO _ _ _ hlt) hx;rw[show(cls (x'-cx) (y'-cy)==2)=false by simp[e']];simp[this]
  ·simp[e]
end
def onCi(c:Ln)(p:Pt):Prop:=(pX p-of c.1)*(pX p-of c.1)+(pY p-of c.2.1)*(pY p-of c.2.1)=of c.2.2
theorem ins_on{c:Ln}{p:Pt}[Rpd p](h:oN c p=0):onCi c p:=by
 rw[BA]at h;exact HD _ _ (pC.1 (Int.neg_eq_zero.1 h))
theorem ic{c:Ln}{p:Pt}[Rpd p]:upR c p=upA (cls (pX p-of c.1) (pY p-of c.2.1)):=by
 unfold upR;rw[cmpTR_re IW,cmpTR_re lW,tH,Uj,acq]
theorem Dx(p:Pt):pX (flP p)= -pX p:=by
 unfold pX flP v2;rw[of_neg,of_neg];exact adl _ _ _
theorem aj3(p:Pt):pY (flP p)=pY p:=rfl
theorem vJ{c:Ln}{p:Pt}[h:Rpd p](hQ:0<c.2.2)(hp:onCi c p):upR (flC c) (flP p)=ufA (cls (pX p-of c.1) (pY p-of c.2.1)):=by
 unfold upR;rw[cmpTR_re IW,cmpTR_re lW,tH,Uj,Dx,aj3];show(decide (sg (pY p-of c.2.1)>0)||(sg (pY p-of c.2.1)==0&&decide (sg (-pX p-of (-c.1))>0)))=_;rw[of_neg,CK,pD];exact aev (ib hQ) hp
theorem fk{L:List RE}{p q:Pt}[Rpd p][Rpd q](hp:pX p∈L)(hq:pX q∈L):aW (xP p) (xP q)=cI (rk (fun a b:RE=>a<b) L (pX p)) (rk (fun a b:RE=>a<b) L (pX q)):=by
 rw[cmpT_re lW lW,tH,tH];exact sB lt_lin sg_cmpO hp hq
theorem nJ{L:List RE}{p q:Pt}[Rpd p][Rpd q](hp:pX p∈L)(hq:pX q∈L):aW (xP (flP p)) (xP (flP q))=dI (rk (fun a b:RE=>a<b) L (pX p)) (rk (fun a b:RE=>a<b) L (pX q)):=by
 rw[cmpT_re lW lW,tH,tH,Dx,Dx,TP];exact sB lt_lin sg_cmpO hq hp
theorem arc_eq{ci:Ln}{F P T:Pt}[Rpd F][Rpd P][Rpd T](hQ:0<ci.2.2)(hF:onCi ci F)(hP:onCi ci P)(hT:onCi ci T):
  decide (gI aW (ptd ci F) (ptd ci P) (ptd ci T)≤0)=(decide (j8 aW (ptd ci F) (ptd ci F) (ptd ci P)≤0)&&decide (j8 aW (ptd ci F) (ptd ci P) (ptd ci T)≤0))∧
  decide (gI aW (ptd ci T) (ptd ci P) (ptd ci F)≤0)=(decide (j8 aW (ptd (flC ci) (flP F)) (ptd (flC ci) (flP F)) (ptd (flC ci) (flP P))≤0)&&decide (j8 aW (ptd (flC ci) (flP F)) (ptd (flC ci) (flP P)) (ptd (flC ci) (flP T))≤0)):=by
 have mF:pX F∈[pX F,pX P,pX T]:=by simp
 have mP:pX P∈[pX F,pX P,pX T]:=by simp
 have mT:pX T∈[pX F,pX P,pX T]:=by simp
 have hq:0<of ci.2.2:=ib hQ;have bF:=iN lt_lin mF;have bP:=iN lt_lin mP;have bT:=iN lt_lin mT;have cF:=gQ (pX F-of ci.1) (pY F-of ci.2.1);have cP:=gQ (pX P-of ci.1) (pY P-of ci.2.1);have cT:=gQ (pX T-of ci.1) (pY T-of ci.2.1)
 have hcon:FJ (cls (pX F-of ci.1) (pY F-of ci.2.1)) (rk (fun a b:RE=>a<b) [pX F,pX P,pX T] (pX F)) (cls (pX P-of ci.1) (pY P-of ci.2.1)) (rk (fun a b:RE=>a<b) [pX F,pX P,pX T] (pX P)) (cls (pX T-of ci.1) (pY T-of ci.2.1)) (rk (fun a b:RE=>a<b) [pX F,pX P,pX T] (pX T))=true:=by
  unfold FJ;rw[df hq hF hP mF mP,df hq hP hF mP mF,df hq hF hT mF mT,df hq hT hF mT mF,df hq hP hT mP mT,df hq hT hP mT mP];rfl
 have a1:=Vb ⟨_,cF⟩ ⟨_,cP⟩ ⟨_,cT⟩ ⟨_,bF⟩ ⟨_,bP⟩ ⟨_,bT⟩ hcon;have a2:=acj ⟨_,cF⟩ ⟨_,cP⟩ ⟨_,cT⟩ ⟨_,bF⟩ ⟨_,bP⟩ ⟨_,bT⟩ hcon;simp only at a1 a2;refine⟨?_,?_⟩
 ·unfold ptd;rw[ic,ic,ic,gS (fk mP mF) (fk mT mF) (fk mP mT),fL (fk mF mF) (fk mP mF) (fk mF mP),fL (fk mP mF) (fk mT mF) (fk mP mT)];exact a1
 ·unfold ptd;rw[ic,ic,ic,vJ hQ hF,vJ hQ hP,vJ hQ hT,gS (fk mP mT) (fk mF mT) (fk mP mF),fL (nJ mF mF) (nJ mP mF) (nJ mF mP),fL (nJ mP mF) (nJ mT mF) (nJ mP mT)];exact a2
theorem seg_eq{F P T:Pt}[Rpd F][Rpd P][Rpd T]:uH (aX F P) (aX P T)=ajq (aX F T) (aX F P) (aX P T):=by
 have mF:pR F∈[pR F,pR P,pR T]:=by simp
 have mP:pR P∈[pR F,pR P,pR T]:=by simp
 have mT:pR T∈[pR F,pR P,pR T]:=by simp
 rw[jl,jl,jl,sB jS iz mF mP,sB jS iz mP mT,sB jS iz mF mT];exact Ce ⟨_,iN jS mF⟩ ⟨_,iN jS mP⟩ ⟨_,iN jS mT⟩
end RE
structure Crv (c:Cv):Prop where
 f:Rpd (frC c)
 t:Rpd (toC c)
 q:c.1=true→0<(ciC c).2.2∧RE.onCi (ciC c) (frC c)∧RE.onCi (ciC c) (toC c)
theorem Xg{c:Cv}(h:Crv c){p:Pt}(hp:Rpd p):onP c p=onR c p:=by
 have hf:=h.f;have ht:=h.t;unfold onP onR;cases hs:gD c p
 ·rfl
 ·simp only[aoj];unfold ii dk;obtain⟨ar,li,ci,cw,fr,to⟩:=c;have hf:Rpd fr:=hf;have ht:Rpd to:=ht;cases ar
  ·exact RE.seg_eq (F:=fr) (P:=p) (T:=to)
  ·obtain⟨q1,q2,q3⟩:=h.q rfl
   have hi:oN ci p=0:=by
    have:(oN ci p==0)=true:=hs;exact an3.1 this
   obtain⟨e1,e2⟩:=RE.arc_eq (ci:=ci) (F:=fr) (P:=p) (T:=to) q1 q2 (RE.ins_on hi) q3;cases cw
   ·exact e1
   ·exact e2
end
def fb(l:Ln)(p:Pt):Rt:=mkR (-l.2.1*p.1+l.1*p.2.2.1) (-l.2.1*p.2.1+l.1*p.2.2.2.1) p.2.2.2.2
def ul(c:Cv)(p:Pt):Bool:=
 bif decide (aW (fb (lnC c) (frC c)) (fb (lnC c) (toC c))>0)then decide (aW (fb (lnC c) (toC c)) (fb (lnC c) p)≤0)&&decide (aW (fb (lnC c) p) (fb (lnC c) (frC c))≤0)
 else decide (aW (fb (lnC c) (frC c)) (fb (lnC c) p)≤0)&&decide (aW (fb (lnC c) p) (fb (lnC c) (toC c))≤0)
def rU(a b:Rt):Rt:=bif decide (aW b a<0)then b else a
def zeV(v:Rat×Rat):Bool:=decide (v.1=0)&&decide (v.2=0)
def jY(c:Ln)(d:Rat×Rat):Pt:=mkP (mkR c.1 d.1 (c.2.2/aY d d)) (mkR c.2.1 d.2 (c.2.2/aY d d))
def cf(c:Cv)(d:Rat×Rat):Bool:=bif c.1&&!(zeV d)then onP c (jY (ciC c) d)else c.1
def yV(c:Cv)(v:Rat×Rat):Rt:=rU (sqP (frC c) v) (sqP (toC c) v)
def bV(c:Cv)(v:Rat×Rat):Rat×Rat:=bh (ctr (ciC c)) v
def oR(c:Cv)(v:Rat×Rat):Rt:=
 bif c.1 then(bif cf c (bV c v)then mkR (aY (bV c v) (bV c v)+(ciC c).2.2) (-2) (aY (bV c v) (bV c v)*(ciC c).2.2)else yV c v)
 else(bif ul c (atP v)then(aY (bh v (dt (lnC c) v)) (bh v (dt (lnC c) v)),0,0)else yV c v)
def so(c:Cv)(v:Rat×Rat)(r:Rat):Int:=bif decide (r<0)then 1 else fC (oR c v) (r*r)
instance NF {l:Ln} {p:Pt} [h:Rpd p]:Rdd (fb l p):=by
 have:Nn p.2.2.2.2:=inferInstance;exact o8
instance amq {l:Ln} {p:Pt} {i j:Nat} [h:Bd l i] [h':Bd p j] [hp:Rpd p]:Bd (fb l p) (4*i+4*j+5):=by
 have a1:Bd (-l.2.1*p.1+l.1*p.2.2.1) _:=inferInstance;have a2:Bd (-l.2.1*p.2.1+l.1*p.2.2.2.1) _:=inferInstance;exact(adr (a:= -l.2.1*p.1+l.1*p.2.2.1) (b:= -l.2.1*p.2.1+l.1*p.2.2.2.1) (c:=p.2.2.2.2)).mono (cL (by omega) (by omega))
theorem Pw(a b:Rt):rU a b=a∨rU a b=b:=by
 unfold rU;cases decide (aW b a<0)
 ·exact .inl rfl
 ·exact .inr rfl
instance RA {a b:Rt} [h:Rdd a] [h':Rdd b]:Rdd (rU a b):=by
 rcases Pw a b with e|e<;>rw[e]<;>assumption
instance amn {a b:Rt} {i j:Nat} [h:Bd a i] [h':Bd b j]:Bd (rU a b) (mx i j):=by
 rcases Pw a b with e|e<;>rw[e]
 ·exact h.mono (A7 _ _)
 ·exact h'.mono (Cx _ _)
theorem jc(d:Rat×Rat):0≤aY d d:=by
 unfold aY
 have h:∀a:Rat,0≤a*a:=fun a=>by
  rcases(by grind:0≤a∨0≤ -a)with h|h
  ·exact anl h h
  ·have:=anl h h;grind
 have:=h d.1;have:=h d.2;grind
theorem vw{d:Rat×Rat}(h:zeV d=false):aY d d≠0:=by
 refine lK ?_;unfold zeV at h;by_cases e:d.1=0
 ·rw[am5 e,aoj]at h;exact .inr (anZ h)
 ·exact .inl e
theorem nW(a b d e s:Rat):t5 (mkR a d s) (mkR b e s):=by
 unfold t5 mkR;cases fE s
 ·simp only[cond_false];by_cases hd:d=0
  ·rw[am5 hd];exact .inl rfl
  ·by_cases he:e=0
   ·rw[am5 he];exact .inr (.inl rfl)
   ·rw[am7 hd,am7 he];exact .inr (.inr rfl)
 ·exact .inl rfl
theorem GG{a b:Rat}(ha:0≤a)(hb:0≤b):0≤a/b:=by
 by_cases h0:b=0
 ·rw[h0,apK,Rat.inv_zero,Rat.mul_zero];exact Rat.le_refl
 ·rcases(by grind:0≤a/b∨0< -(a/b))with h|h
  ·exact h
  ·have h1:=anA h (show 0<b by grind);have h2:a/b*b=a:=anv h0;grind
class Cir (c:Ln):Prop where q:0<c.2.2
instance Rp {c:Ln} {d:Rat×Rat} [h:Cir c]:Nn (c.2.2/aY d d):=⟨GG (by have:=h.q;grind) (jc d)⟩
instance abf {c:Ln} {d:Rat×Rat} [h:Cir c]:Rpd (jY c d):=Z9 o8 o8 (nW _ _ _ _ _)
instance Ud {c:Ln} {d:Rat×Rat} [h:Cir c]:Nn (aY d d*c.2.2):=⟨anl (jc d) (by have:=h.q;grind)⟩
instance amA {c:Ln} {d:Rat×Rat} {i j:Nat} [h:Bd c i] [h':Bd d j]:Bd (jY c d) (2*i+5*j+2):=by
 have s1:Bd (c.2.2/aY d d) _:=inferInstance;have a1:Bd (mkR c.1 d.1 (c.2.2/aY d d)) _:=inferInstance;have a2:Bd (mkR c.2.1 d.2 (c.2.2/aY d d)) _:=inferInstance;have b1:=a1.mono (k:=2*i+5*j+2) (by omega);have b2:=a2.mono (k:=2*i+5*j+2) (by omega);have e:∀n,mx n n=n:=fun n=>by unfold mx;rw[am5 (anb n)];rfl
 exact(abW (h:=b1) (h':=b2)).mono (by
  simp only[e];refine cL (by omega) (cL (by omega) (cL (by omega) (cL (by omega) (cL (by omega) (by omega))))))
def TQ(d a b a' b':Int):Bool:=bif decide (d>0)then decide (b'≤0)&&decide (a'≤0)else decide (a≤0)&&decide (b≤0)
theorem Wp:∀f p t:Fin 3,uH (cI f.1 p.1) (cI p.1 t.1)=TQ (cI f.1 t.1) (cI f.1 p.1) (cI p.1 t.1) (cI p.1 f.1) (cI t.1 p.1):=by decide+kernel
theorem Ui(a b:Int):uH (-a) (-b)=uH a b:=by
 unfold uH;have e1:(-a==0)=(a==0):=ao6.2 (by simp only[an3];omega);have e2:(-b==0)=(b==0):=ao6.2 (by simp only[an3];omega);have e3:(-a== -b)=(a==b):=ao6.2 (by simp only[an3];omega);rw[e1,e2,e3]
namespace RE
theorem PO(a b x s y t r:RE): -b*x+a*y+(-b*s+a*t)*r= -b*(x+s*r)+a*(y+t*r):=by grind
theorem ahw(a b x y u w:RE):(a*a+b*b)*(x-u)= -b*(-b*x+a*y-(-b*u+a*w))+a*(a*x+b*y-(a*u+b*w)):=by grind
theorem ahb(a b x y u w:RE):(a*a+b*b)*(y-w)=a*(-b*x+a*y-(-b*u+a*w))+b*(a*x+b*y-(a*u+b*w)):=by grind
theorem Wd(a b c x y u w:RE)(h:a*x+b*y=c)(h':a*u+b*w=c):(a*a+b*b)*(x-u)= -b*(-b*x+a*y-(-b*u+a*w)):=by
 rw[ahw a b x y u w,h,h',sub_self,mul_zero,add_zero]
theorem VT(a b c x y u w:RE)(h:a*x+b*y=c)(h':a*u+b*w=c):(a*a+b*b)*(y-w)=a*(-b*x+a*y-(-b*u+a*w)):=by
 rw[ahb a b x y u w,h,h',sub_self,mul_zero,add_zero]
def tL(l:Ln)(p:Pt):RE:= -of l.2.1*pX p+of l.1*pY p
theorem QA(l:Ln){p:Pt}[_h:Rpd p]:vR (fb l p)=tL l p:=by
 unfold fb tL pX pY;rw[vR_mk];unfold v2;simp only[of_add,aG,of_neg];exact PO _ _ _ _ _ _ _
theorem uj{l:Ln}{p q:Pt}[Rpd p][Rpd q]:aW (fb l p) (fb l q)=sg (tL l p-tL l q):=by
 rw[cmpT_re (NF (l:=l) (p:=p)).nn (NF (l:=l) (p:=q)).nn,QA,QA]
def qT(l:Ln)(p:Pt):Prop:=of l.1*pX p+of l.2.1*pY p=of l.2.2
theorem Gb{l:Ln}{p:Pt}[Rpd p](h:ud l p=0):qT l p:=by
 rw[Bc]at h;exact HD _ _ (pC.1 h)
theorem Mh{l:Ln}{p q:Pt}(hp:qT l p)(hq:qT l q):(of l.1*of l.1+of l.2.1*of l.2.1)*(pX p-pX q)= -of l.2.1*(tL l p-tL l q):=by
 unfold qT at hp hq;unfold tL;exact Wd _ _ _ _ _ _ _ hp hq
theorem MR{l:Ln}{p q:Pt}(hp:qT l p)(hq:qT l q):(of l.1*of l.1+of l.2.1*of l.2.1)*(pY p-pY q)=of l.1*(tL l p-tL l q):=by
 unfold qT at hp hq;unfold tL;exact VT _ _ _ _ _ _ _ hp hq
theorem FF{a b:Rat}(h:a≠0∨b≠0):0<of a*of a+of b*of b:=by
 have h1:=lK h
 have h2:0≤a*a:=by
  rcases(by grind:0≤a∨0≤ -a)with h|h
  ·exact anl h h
  ·have:=anl h h;grind
 have h3:0≤b*b:=by
  rcases(by grind:0≤b∨0≤ -b)with h|h
  ·exact anl h h
  ·have:=anl h h;grind
 rw[←aG,←aG,←of_add];exact ib (by grind)
theorem OU{q:Rat}(h:q≠0):sg (of q)=1∨sg (of q)= -1:=by
 rw[sg_of];rcases(by grind:q<0∨0<q)with h'|h'
 ·exact .inr (dK h')
 ·exact .inl (dp h')
theorem RH{l:Ln}(hl:l.1≠0∨l.2.1≠0):∃s:Int,(s=1∨s= -1)∧∀p q:Pt,Rpd p→Rpd q→qT l p→qT l q→aX p q=s*sg (tL l p-tL l q):=by
 have hn:=FF hl;by_cases hb:l.2.1=0
 ·have ha:l.1≠0:=hl.resolve_right (fun h=>h hb);refine⟨sg (of l.1),OU ha,fun p q hp hq op oq=>?_⟩;rw[jl];unfold lxc pR;have e1:=Mh op oq;have e2:=MR op oq;have s1:=congrArg sg e1;have s2:=congrArg sg e2;rw[dA,dB hn,dA,hb,nj,C0,dg]at s1;rw[dA,dB hn,dA]at s2;rw[show sg (pX p-pX q)=0 by omega];show sg (pY p-pY q)=_;omega
 ·refine⟨-sg (of l.2.1),by rcases OU hb with h|h<;>rw[h]<;>simp,fun p q hp hq op oq=>?_⟩;rw[jl];unfold lxc pR;have e1:=Mh op oq;have e2:=MR op oq;have s1:=congrArg sg e1;have s2:=congrArg sg e2;rw[dA,dB hn,dA,pD]at s1;rw[dA,dB hn,dA]at s2;rcases bi (tL l p-tL l q)with⟨_,h⟩|⟨_,h⟩|⟨_,h⟩<;>rw[h]at s1 s2 ⊢ <;>rcases OU hb with g|g<;>rw[g]at s1 ⊢
  all_goals
   simp only[aol,app,apl,apZ,Int.neg_neg]at s1 s2 ⊢;try rw[s1]
   try rw[s2]
   try rfl
theorem Rn{l:Ln}(hl:l.1≠0∨l.2.1≠0){F P T:Pt}[hF:Rpd F][hP:Rpd P][hT:Rpd T](oF:qT l F)(oP:qT l P)(oT:qT l T):
  uH (aX F P) (aX P T)=TQ (sg (tL l F-tL l T)) (sg (tL l F-tL l P)) (sg (tL l P-tL l T)) (sg (tL l P-tL l F)) (sg (tL l T-tL l P)):=by
 obtain⟨s,hs,h⟩:=RH hl;have mF:tL l F∈[tL l F,tL l P,tL l T]:=by simp
 have mP:tL l P∈[tL l F,tL l P,tL l T]:=by simp
 have mT:tL l T∈[tL l F,tL l P,tL l T]:=by simp
 have e:uH (aX F P) (aX P T)=uH (sg (tL l F-tL l P)) (sg (tL l P-tL l T)):=by
  rw[h F P hF hP oF oP,h P T hP hT oP oT];rcases hs with rfl|rfl
  ·rw[aol,aol]
  ·rw[show(-1:Int)*sg (tL l F-tL l P)= -sg (tL l F-tL l P) by omega,show(-1:Int)*sg (tL l P-tL l T)= -sg (tL l P-tL l T) by omega,Ui]
 have c:=fun{x y:RE} (hx:x∈[tL l F,tL l P,tL l T]) (hy:y∈[tL l F,tL l P,tL l T])=>sB lt_lin sg_cmpO hx hy;rw[e,c mF mP,c mP mT,c mF mT,c mP mF,c mT mP];exact Wp ⟨_,iN lt_lin mF⟩ ⟨_,iN lt_lin mP⟩ ⟨_,iN lt_lin mT⟩
end RE
theorem IX{l:Ln}(hl:l.1≠0∨l.2.1≠0)(v:Rat×Rat):l.1*(dt l v).1+l.2.1*(dt l v).2=l.2.2:=by
 have hn:=lK hl
 have he:mv l v*(l.1*l.1+l.2.1*l.2.1)=l.1*v.1+l.2.1*v.2-l.2.2:=by
  unfold mv;exact anv hn
 unfold dt;simp only;grind
def gdC(c:BCU):Prop:=okC 500 c∧gD (dC c) (frC (dC c))=true∧gD (dC c) (toC (dC c))=true
instance (c:BCU):Decidable (gdC c):=by unfold gdC;infer_instance
theorem wX{k:Nat}{x:BP}(h:okP k x):Rpd (dec x):=by
 obtain⟨p,rfl,bp,rp⟩:=aZ h;rw[az];exact rp
theorem acJ{c:BCU}(h:gdC c):Crv (dC c):=by
 obtain⟨h1,h2,h3⟩:=h;obtain⟨ar,li,ci,cw,fr,to⟩:=c;have hf:Rpd (frC (dC (ar,li,ci,cw,fr,to))):=wX h1.2.2.1;have ht:Rpd (toC (dC (ar,li,ci,cw,fr,to))):=wX h1.2.2.2;refine⟨hf,ht,fun e=>?_⟩;have e:ar=true:=e;subst e;exact⟨(h1.1 rfl).2,RE.ins_on (an3.1 h2),RE.ins_on (an3.1 h3)⟩
theorem ag4{c:BCU}(h:gdC c){p:Pt}(hp:Rpd p):onR (dC c) p=onP (dC c) p:=(Xg (acJ h) hp).symm
theorem adi(c:Ln)(d:Rat×Rat):trP (mkP (mkR 0 d.1 (c.2.2/aY d d)) (mkR 0 d.2 (c.2.2/aY d d))) (ctr c)=jY c d:=by
 unfold jY mkP rdP trP mkR ctr;generalize c.2.2/aY d d=s;cases fE s
 ·simp only[cond_false];by_cases h1:d.1=0<;>by_cases h2:d.2=0
  ·rw[am5 h1,am5 h2];simp;constructor<;>grind
  ·rw[am5 h1,am7 h2];simp[h2];constructor<;>grind
  ·rw[am7 h1,am5 h2];simp[h1];constructor<;>grind
  ·rw[am7 h1,am7 h2];simp[h1,h2];constructor<;>grind
 ·simp;constructor<;>grind
section
namespace RE
abbrev PE:=RE×RE
def crs(u w:PE):RE:=u.1*w.2-u.2*w.1
def dtE(u w:PE):RE:=u.1*w.1+u.2*w.2
def ysC(k:Nat):Int:=if k=1 then 1 else if k=3 then-1 else 0
def msC(i:Nat):Int:=(i:Int)-3
def crI(k i l j:Nat):Int:=addS (kj (msC i)*ysC l) (-(ysC k*kj (msC j))) (cI (msC i).natAbs (msC j).natAbs)
def Dp(k i l j:Nat):Bool:=(k !=0||decide (0<msC i))&&(k !=2||decide (msC i<0))&&(!(k==0||k==2)||(bif l==0||l==2 then(msC i).natAbs==(msC j).natAbs else decide ((msC j).natAbs<(msC i).natAbs)))
def AW(a b c:Int):Bool:=bif decide (0≤a)then decide (0≤b)&&decide (0≤c)else !(decide (c<0)&&decide (b<0))
theorem VY:∀kF kT:Fin 4,∀iF iT:Fin 7,(Dp kF.1 iF.1 kT.1 iT.1&&Dp kT.1 iT.1 kF.1 iF.1&&!(kF.1==kT.1&&iF.1==iT.1))=true→∀kP:Fin 4,∀iP:Fin 7,(Dp kF.1 iF.1 kP.1 iP.1&&Dp kP.1 iP.1 kF.1 iF.1&&Dp kT.1 iT.1 kP.1 iP.1&&Dp kP.1 iP.1 kT.1 iT.1)=true→
  decide (gI cI (upA kF.1,iF.1) (upA kP.1,iP.1) (upA kT.1,iT.1)≤0)=AW (crI kF.1 iF.1 kT.1 iT.1) (crI kF.1 iF.1 kP.1 iP.1) (crI kP.1 iP.1 kT.1 iT.1):=by decide+kernel
theorem HE{x:RE}(h:x≠0):0<x*x:=by
 rcases m9 x 0 with e|e|e
 ·have:=mul_pos (jQ e) (jQ e);rw[neg_mul,mul_neg,neg_neg]at this;exact this
 ·exact absurd e h
 ·exact mul_pos e e
theorem He(i j:Nat):cI i j=kj ((i:Int)-(j:Int)):=by
 unfold cI kj;by_cases h:i<j
 ·rw[anB h,anB (by omega)]
 ·by_cases h':i=j
  ·rw[anr h,anB h',anr (by omega),anB (by omega)]
  ·rw[anr h,anr h',anr (by omega),anr (by omega)]
theorem Ar{n:Int}(h:0<n):kj n=1:=by unfold kj;rw[anr (by omega),anr (by omega)]
theorem Ch{n:Int}(h:n<0):kj n= -1:=by unfold kj;rw[anB h]
def rkS(L:List RE)(x:RE):Nat:=rk (fun a b:RE=>a<b) (0::L) (x*x)
def mI(L:List RE)(x:RE):Int:=sg x*(rkS L x:Int)
def ixL(L:List RE)(x:RE):Nat:=(mI L x+3).toNat
theorem jk{L:List RE}{x:RE}(h:x≠0):0<rkS L x:=by
 unfold rkS rk;rw[anB (HE h)];omega
theorem Jl{L:List RE}{x y:RE}(hx:x*x∈L)(hy:y*y∈L):sg (x*x-y*y)=cI (rkS L x) (rkS L y):=sB (c:=fun x y=>sg (x-y)) lt_lin sg_cmpO (anj _ hx) (anj _ hy)
theorem I0{x:RE}(h:0<x):x≠0:=fun e=>by rw[e]at h;exact lt_irrefl _ h
theorem I4{x:RE}(h:x<0):x≠0:=fun e=>by rw[e]at h;exact lt_irrefl _ h
theorem MN(L:List RE)(x:RE):kj (mI L x)=sg x:=by
 unfold mI;rcases bi x with⟨h,e⟩|⟨h,e⟩|⟨h,e⟩<;>rw[e]
 ·have:=jk (L:=L) (I0 h);exact Ar (by omega)
 ·rw[ap4];rfl
 ·have:=jk (L:=L) (I4 h);exact Ch (by omega)
theorem Q6(x y:RE)(h1:x<0)(h2:y<0):x+y<0:=by grind
theorem adq(a b c d:RE):a*d*(a*d)- -(b*c)* -(b*c)=a*a*(c*c+d*d)-(a*a+b*b)*(c*c):=by grind
theorem sub_zero(x:RE):x-0=x:=by grind
theorem zero_sub(x:RE):0-x= -x:=by grind
theorem ab9(x y c:RE):x-c-(y-c)=x-y:=by grind
theorem ajd(x y q:RE):x*q-q*y=q*(x-y):=by grind
theorem GS(x y:RE)(h1:x-y=0):x≤y:=by grind
theorem Hw(x y:RE)(h1:x-y=0):y≤x:=by grind
theorem fZ(x y:RE)(h1:x-y=0):x=y:=le_antisymm (GS x y h1) (Hw x y h1)
theorem Ld(a b c:RE)(h1:a+b=a+c):b≤c:=by grind
theorem KA(a b c:RE)(h1:a+b=a+c):c≤b:=by grind
theorem Ss(a b c:RE)(h1:a+b=a+c):b=c:=le_antisymm (Ld a b c h1) (KA a b c h1)
theorem EK(x y:RE):((x-(0))*(x-(y)))+((y-(0))*(x-(y)))+((y*y-(x*x)))=0:=by grind
theorem Kt(x y:RE)(h1:x*x=y*y)(h2:0<x)(h3:0<y):x≤y:=fun hg=>far (aK (aK (mul_pos (aL h2) (aL hg)) (le_of_lt (mul_pos (aL h3) (aL hg)))) (aF (ow h1))) (EK x y)
theorem DL(x y:RE):((x-(0))*(y-(x)))+((y-(0))*(y-(x)))+((x*x-(y*y)))=0:=by grind
theorem KX(x y:RE)(h1:x*x=y*y)(h2:0<x)(h3:0<y):y≤x:=fun hg=>far (aK (aK (mul_pos (aL h2) (aL hg)) (le_of_lt (mul_pos (aL h3) (aL hg)))) (aF (lT h1))) (DL x y)
theorem LB(x y:RE)(h1:x*x=y*y)(h2:0<x)(h3:0<y):x=y:=le_antisymm (Kt x y h1 h2 h3) (KX x y h1 h2 h3)
theorem E0(x y:RE):((0-(x))*(x-(y)))+((0-(y))*(x-(y)))+((x*x-(y*y)))=0:=by grind
theorem Ky(x y:RE)(h1:x*x=y*y)(h2:x<0)(h3:y<0):x≤y:=fun hg=>far (aK (aK (mul_pos (aL h2) (aL hg)) (le_of_lt (mul_pos (aL h3) (aL hg)))) (aF (lT h1))) (E0 x y)
theorem EG(x y:RE):((0-(x))*(y-(x)))+((0-(y))*(y-(x)))+((y*y-(x*x)))=0:=by grind
theorem Kg(x y:RE)(h1:x*x=y*y)(h2:x<0)(h3:y<0):y≤x:=fun hg=>far (aK (aK (mul_pos (aL h2) (aL hg)) (le_of_lt (mul_pos (aL h3) (aL hg)))) (aF (ow h1))) (EG x y)
theorem QK(x y:RE)(h1:x*x=y*y)(h2:x<0)(h3:y<0):x=y:=le_antisymm (Ky x y h1 h2 h3) (Kg x y h1 h2 h3)
theorem Kf(x y:RE)(h1:x-y≤0):x≤y:=by grind
theorem U2(x y:RE)(h1:x≤y):x-y≤0:=by grind
theorem O4{x y:RE}(hx:0<x)(hy:0<y):sg (x*x-y*y)=sg (x-y):=by
 rw[←Ht,dA,dB (QT _ _ hx hy),aol]
theorem Pa{x y:RE}(hx:x<0)(hy:y<0):sg (x*x-y*y)= -sg (x-y):=by
 rw[←Ht,dA,gE (Q6 _ _ hx hy)];omega
theorem aeF{L:List RE}{x y:RE}(hx:x*x∈L)(hy:y*y∈L):kj (mI L x-mI L y)=sg (x-y):=by
 have hc:=Jl hx hy;unfold mI;rcases bi x with⟨h,e⟩|⟨h,e⟩|⟨h,e⟩<;>rcases bi y with⟨h',e'⟩|⟨h',e'⟩|⟨h',e'⟩<;>rw[e,e']
 ·rw[←O4 h h',hc,He,aol,aol]
 ·have:=jk (L:=L) (I0 h);rw[h',sub_zero,e];exact Ar (by omega)
 ·have:=jk (L:=L) (I0 h);rw[dB (Lx _ _ h h')];exact Ar (by omega)
 ·have:=jk (L:=L) (I0 h');rw[h,zero_sub,pD,e'];exact Ch (by omega)
 ·rw[h,h',sub_self,dg,ap4];rfl
 ·have:=jk (L:=L) (I4 h');rw[h,zero_sub,pD,e'];exact Ar (by omega)
 ·have:=jk (L:=L) (I4 h);rw[gE (P1 _ _ h h')];exact Ch (by omega)
 ·have:=jk (L:=L) (I4 h);rw[h',sub_zero,e];exact Ch (by omega)
 ·have h2:=Pa h h';rw[hc,He]at h2;have:sg (x-y)= -kj ((rkS L x:Int)-(rkS L y:Int)):=by omega
  rw[this];unfold kj;split<;>split<;>(try split)<;>(try split)<;>omega
theorem ME{L:List RE}{x y:RE}(hx:x*x∈L)(hy:y*y∈L):cI (mI L x).natAbs (mI L y).natAbs=sg (x*x-y*y):=by
 have hc:=Jl hx hy
 have ab:∀z:RE,z≠0→(mI L z).natAbs=rkS L z:=fun z hz=>by
  unfold mI;rcases bi z with⟨h,e⟩|⟨h,e⟩|⟨h,e⟩<;>rw[e]
  ·omega
  ·exact absurd h hz
  ·omega
 have ab0:(mI L 0).natAbs=0:=by unfold mI;rw[dg,ap4];rfl
 by_cases h:x=0
 ·subst h;by_cases h':y=0
  ·subst h';rw[sub_self,dg];unfold cI;rw[anr (by omega),anB rfl]
  ·have:=jk (L:=L) h';rw[ab0,ab y h',mul_zero,zero_sub,pD,dB (HE h')];unfold cI;rw[anB (by omega)]
 ·by_cases h':y=0
  ·subst h';have:=jk (L:=L) h;rw[ab0,ab x h,mul_zero,sub_zero,dB (HE h)];unfold cI;rw[anr (by omega),anr (by omega)]
  ·rw[ab x h,ab y h',hc]
theorem ac8{L:List RE}{x:RE}(hL:L.length=3)(hx:x*x∈L):rkS L x≤3:=by
 have:=iN lt_lin (anj (0:RE) hx);rw[anp,hL]at this;unfold rkS;omega
theorem IU{L:List RE}{x:RE}(hL:L.length=3)(hx:x*x∈L): -3≤mI L x∧mI L x≤3:=by
 have h1:=ac8 hL hx;have h2:=aaU x;unfold mI;rcases(by omega:sg x= -1∨sg x=0∨sg x=1)with e|e|e<;>rw[e]<;>omega
theorem IM{L:List RE}{x:RE}(hL:L.length=3)(hx:x*x∈L):msC (ixL L x)=mI L x:=by
 have:=IU hL hx;unfold msC ixL;omega
theorem Nu{L:List RE}{x:RE}(hL:L.length=3)(hx:x*x∈L):ixL L x<7:=by
 have:=IU hL hx;unfold ixL;omega
theorem Ri{L:List RE}{x y:RE}(hL:L.length=3)(hx:x*x∈L)(hy:y*y∈L):cI (ixL L x) (ixL L y)=sg (x-y):=by
 have h1:=IU hL hx;have h2:=IU hL hy;rw[He,←aeF hx hy];unfold ixL;congr 1;omega
theorem xl(u v:RE):ysC (cls u v)=sg v:=by
 unfold cls ysC;rcases bi v with⟨_,h⟩|⟨_,h⟩|⟨_,h⟩<;>rcases bi u with⟨_,h'⟩|⟨_,h'⟩|⟨_,h'⟩<;>rw[h,h']<;>rfl
section
variable {u w:PE} {Q:RE} {L:List RE}
theorem GH(hQ:0<Q)(hu:u.1*u.1+u.2*u.2=Q)(hw:w.1*w.1+w.2*w.2=Q)(hL:L.length=3)(mu:u.1*u.1∈L)(mw:w.1*w.1∈L):sg (crs u w)=crI (cls u.1 u.2) (ixL L u.1) (cls w.1 w.2) (ixL L w.1):=by
 unfold crs crI;show sg (u.1*w.2+ -(u.2*w.1))=_;rw[Gv,adq,hu,hw,ajd,dA Q,dB hQ,aol,pD,dA u.1,dA u.2,IM hL mu,IM hL mw,ME mu mw,MN,MN,xl,xl]
theorem qK(hQ:0<Q)(hu:u.1*u.1+u.2*u.2=Q)(hw:w.1*w.1+w.2*w.2=Q)(hL:L.length=3)(mu:u.1*u.1∈L)(mw:w.1*w.1∈L):Dp (cls u.1 u.2) (ixL L u.1) (cls w.1 w.2) (ixL L w.1)=true:=by
 have cb:=gQ u.1 u.2
 have y0:∀a b:RE,(cls a b==0||cls a b==2)=true↔b=0:=fun a b=>by
  have:=xl a b;have hb:=gQ a b;rw[←pC,←this];unfold ysC;constructor
  ·intro h;simp at h;rcases h with h|h<;>rw[h]<;>rfl
  ·intro h;rcases(by omega:cls a b=0∨cls a b=1∨cls a b=2∨cls a b=3)with e|e|e|e<;>rw[e]at h ⊢ <;>simp at h ⊢
 unfold Dp;rw[IM hL mu,IM hL mw,am9,am9];have ms:=MN L u.1;refine⟨⟨?_,?_⟩,?_⟩
 ·by_cases e:cls u.1 u.2=0
  ·have h:=(JL.1 e).2;rw[dB h]at ms
   have:0<mI L u.1:=by
    unfold kj at ms;split at ms
    ·cases ms
    ·split at ms
     ·cases ms
     ·omega
   simp[this]
  ·simp[e]
 ·by_cases e:cls u.1 u.2=2
  ·have h:=H9.1 e;rw[gE (vj hQ hu h.1 h.2)]at ms
   have:mI L u.1<0:=by
    unfold kj at ms;split at ms
    ·omega
    ·split at ms<;>cases ms
   simp[this]
  ·simp[e]
 ·cases hc:(cls u.1 u.2==0||cls u.1 u.2==2)
  ·rfl
  ·have hv:=(y0 _ _).1 hc;have hu':u.1*u.1=Q:=by rw[hv,mul_zero,add_zero]at hu;exact hu
   have ha:=ME mu mw;cases hd:(cls w.1 w.2==0||cls w.1 w.2==2)
   ·have hz:w.2≠0:=fun e=>by rw[(y0 _ _).2 e]at hd;cases hd
    have hlt:w.1*w.1<u.1*u.1:=by
     rw[hu',←hw];have:=kO (w.1*w.1) (HE hz);rw[zero_add,add_comm]at this;exact this
    rw[dB (aL hlt)]at ha
    have:(mI L w.1).natAbs<(mI L u.1).natAbs:=by
     unfold cI at ha;split at ha
     ·cases ha
     ·split at ha
      ·cases ha
      ·omega
    simp[this]
   ·have hz:=(y0 _ _).1 hd;rw[hz,mul_zero,add_zero]at hw;rw[hu',hw,sub_self,dg]at ha
    have:(mI L u.1).natAbs=(mI L w.1).natAbs:=by
     unfold cI at ha;split at ha
     ·cases ha
     ·split at ha
      ·assumption
      ·cases ha
    simp[this]
end
def frm(c:Ln)(p:PE):PE:=(p.1-of c.1,p.2-of c.2.1)
def nF(u w z:PE):Bool:=AW (sg (crs u w)) (sg (crs u z)) (sg (crs z w))
theorem wg{ci:Ln}{F P T:Pt}[Rpd F][Rpd P][Rpd T](hQ:0<ci.2.2)(hF:onCi ci F)(hP:onCi ci P)(hT:onCi ci T)(hne:pR F≠pR T):
  decide (gI aW (ptd ci F) (ptd ci P) (ptd ci T)≤0)=nF (frm ci (pR F)) (frm ci (pR T)) (frm ci (pR P)):=by
 have hq:0<of ci.2.2:=ib hQ;have hL:[(frm ci (pR F)).1*(frm ci (pR F)).1,(frm ci (pR P)).1*(frm ci (pR P)).1,(frm ci (pR T)).1*(frm ci (pR T)).1].length=3:=rfl;revert hL;generalize hL0:[(frm ci (pR F)).1*(frm ci (pR F)).1,(frm ci (pR P)).1*(frm ci (pR P)).1,(frm ci (pR T)).1*(frm ci (pR T)).1]=L;intro hL;have mF:(frm ci (pR F)).1*(frm ci (pR F)).1∈L:=by rw[←hL0];simp
 have mP:(frm ci (pR P)).1*(frm ci (pR P)).1∈L:=by rw[←hL0];simp
 have mT:(frm ci (pR T)).1*(frm ci (pR T)).1∈L:=by rw[←hL0];simp
 have cF:=gQ (frm ci (pR F)).1 (frm ci (pR F)).2;have cP:=gQ (frm ci (pR P)).1 (frm ci (pR P)).2;have cT:=gQ (frm ci (pR T)).1 (frm ci (pR T)).2;have hF:(frm ci (pR F)).1*(frm ci (pR F)).1+(frm ci (pR F)).2*(frm ci (pR F)).2=of ci.2.2:=hF;have hP:(frm ci (pR P)).1*(frm ci (pR P)).1+(frm ci (pR P)).2*(frm ci (pR P)).2=of ci.2.2:=hP;have hT:(frm ci (pR T)).1*(frm ci (pR T)).1+(frm ci (pR T)).2*(frm ci (pR T)).2=of ci.2.2:=hT
 have hd:(!(cls (frm ci (pR F)).1 (frm ci (pR F)).2==cls (frm ci (pR T)).1 (frm ci (pR T)).2&&ixL L (frm ci (pR F)).1==ixL L (frm ci (pR T)).1))=true:=by
  cases h1:cls (frm ci (pR F)).1 (frm ci (pR F)).2==cls (frm ci (pR T)).1 (frm ci (pR T)).2
  ·rfl
  ·cases h2:ixL L (frm ci (pR F)).1==ixL L (frm ci (pR T)).1
   ·rfl
   ·exfalso;have h1:=an3.1 h1;have h2:=an3.1 h2;have h3:=Ri hL mF mT;rw[h2]at h3;have e0:∀n,cI n n=0:=fun n=>by unfold cI;rw[anr (by omega),anB rfl]
    rw[e0]at h3;have ex:(frm ci (pR F)).1=(frm ci (pR T)).1:=fZ _ _ (pC.1 h3.symm);have ey:sg (frm ci (pR F)).2=sg (frm ci (pR T)).2:=by rw[←xl (frm ci (pR F)).1,←xl (frm ci (pR T)).1,h1]
    have es:(frm ci (pR F)).2*(frm ci (pR F)).2=(frm ci (pR T)).2*(frm ci (pR T)).2:=by
     rw[←hT,ex]at hF;exact Ss _ _ _ hF
    have e2:(frm ci (pR F)).2=(frm ci (pR T)).2:=by
     rcases bi (frm ci (pR F)).2 with⟨g,e⟩|⟨g,e⟩|⟨g,e⟩
     ·rw[e]at ey;exact LB _ _ es g (Fe.1 ey.symm)
     ·rw[e]at ey;rw[g,pC.1 ey.symm]
     ·rw[e]at ey;exact QK _ _ es g (acN.1 ey.symm)
    exact hne (aoq (jA _ _ _ ex) (jA _ _ _ e2))
 have a:=VY ⟨_,cF⟩ ⟨_,cT⟩ ⟨_,Nu hL mF⟩ ⟨_,Nu hL mT⟩ (by
  simp only;rw[qK hq hF hT hL mF mT,qK hq hT hF hL mT mF,hd];rfl) ⟨_,cP⟩ ⟨_,Nu hL mP⟩ (by
  simp only;rw[qK hq hF hP hL mF mP,qK hq hP hF hL mP mF,qK hq hT hP hL mT mP,qK hq hP hT hL mP mT];rfl)
 simp only at a;unfold nF;rw[GH hq hF hT hL mF mT,GH hq hF hP hL mF mP,GH hq hP hT hL mP mT,←a]
 have cx:∀{p q:Pt} [Rpd p] [Rpd q],(frm ci (pR p)).1*(frm ci (pR p)).1∈L→(frm ci (pR q)).1*(frm ci (pR q)).1∈L→aW (xP p) (xP q)=cI (ixL L (frm ci (pR p)).1) (ixL L (frm ci (pR q)).1):=fun{p q} _ _ hp hq'=>by
  rw[cmpT_re lW lW,tH,tH,Ri hL hp hq',←ab9 _ _ (of ci.1)];rfl
 unfold ptd;rw[ic,ic,ic];exact congrArg (fun n:Int=>decide (n≤0)) (gS (cx mP mF) (cx mT mF) (cx mP mT))
def gC(c:Ln)(p:PE):Prop:=(frm c p).1*(frm c p).1+(frm c p).2*(frm c p).2=of c.2.2
def iK(l:Ln)(p:PE):Prop:=of l.1*p.1+of l.2.1*p.2=of l.2.2
def tE(l:Ln)(p:PE):RE:= -of l.2.1*p.1+of l.1*p.2
def arcE(c:Ln)(F T p:PE):Prop:=gC c p∧nF (frm c F) (frm c T) (frm c p)=true
def btE(a b x:RE):Prop:=(a≤x∧x≤b)∨(b≤x∧x≤a)
def qb(l:Ln)(F T p:PE):Prop:=iK l p∧btE (tE l F) (tE l T) (tE l p)
def onE(c:Cv)(p:PE):Prop:=if c.1=true then arcE (ciC c) (pR (ccF c)) (pR (ccT c)) p else qb (lnC c) (pR (frC c)) (pR (toC c)) p
structure GdE (c:Cv):Prop where
 f:Rpd (frC c)
 t:Rpd (toC c)
 ne:pR (frC c)≠pR (toC c)
 q:c.1=true→0<(ciC c).2.2∧onCi (ciC c) (frC c)∧onCi (ciC c) (toC c)
 l:c.1=false→((lnC c).1≠0∨(lnC c).2.1≠0)∧qT (lnC c) (frC c)∧qT (lnC c) (toC c)
theorem ui{c:Ln}{p:Pt}[Rpd p]:(oN c p==0)=true↔gC c (pR p):=by
 rw[an3];refine⟨fun h=>ins_on h,fun h=>?_⟩;rw[BA];have:(pX p-of c.1)*(pX p-of c.1)+(pY p-of c.2.1)*(pY p-of c.2.1)=of c.2.2:=h;rw[this,lD,dg];rfl
theorem Aw{l:Ln}{p:Pt}[Rpd p]:(ud l p==0)=true↔iK l (pR p):=by
 rw[an3];refine⟨fun h=>Gb h,fun h=>?_⟩;rw[Bc];have:of l.1*pX p+of l.2.1*pY p=of l.2.2:=h;rw[this,lD,dg]
theorem Ca(a b x:RE):TQ (sg (a-b)) (sg (a-x)) (sg (x-b)) (sg (x-a)) (sg (b-x))=true↔btE a b x:=by
 have h1:∀y z:RE,sg (y-z)≤0↔y≤z:=fun y z=>by
  rw[ajf];exact⟨fun h=>Kf _ _ h,fun h=>U2 _ _ h⟩
 unfold TQ btE;cases h:decide (sg (a-b)>0)
 ·have h2:a≤b:=(h1 _ _).1 (by have:=anZ h;omega);simp only[cond_false,am9,ao3,h1];exact⟨fun h=>.inl h,fun h'=>h'.elim id (fun g=>⟨le_trans h2 g.1,le_trans g.2 h2⟩)⟩
 ·have h2:b≤a:=by
   have:=am8 h;rcases lt_or_ge a b with g|g
   ·rw[gE (tD _ _ g)]at this;omega
   ·exact g
  simp only[cond_true,am9,ao3,h1];exact⟨fun h=>.inr ⟨h.1,h.2⟩,fun h'=>h'.elim (fun g=>⟨le_trans h2 g.1,le_trans g.2 h2⟩) (fun g=>⟨g.1,g.2⟩)⟩
theorem Jc{c:Cv}(h:GdE c){p:Pt}[hp:Rpd p]:onP c p=true↔onE c (pR p):=by
 have hf:=h.f;have ht:=h.t;obtain⟨ar,li,ci,cw,fr,to⟩:=c;have hf:Rpd fr:=hf;have ht:Rpd to:=ht;unfold onP onE;rw[am9];cases ar
 ·obtain⟨l1,l2,l3⟩:=h.l rfl;rw[anr (by intro h;cases h)];show(ud li p==0)=true∧uH (aX fr p) (aX p to)=true↔iK li (pR p)∧btE (tL li fr) (tL li to) (tL li p);rw[Aw];constructor
  ·intro ⟨h1,h2⟩;refine⟨h1,?_⟩;rw[Rn (F:=fr) (P:=p) (T:=to) l1 l2 (show qT li p from h1) l3]at h2;exact(Ca _ _ _).1 h2
  ·intro ⟨h1,h2⟩;refine⟨h1,?_⟩;rw[Rn (F:=fr) (P:=p) (T:=to) l1 l2 (show qT li p from h1) l3];exact(Ca _ _ _).2 h2
 ·obtain⟨q1,q2,q3⟩:=h.q rfl;have hne:pR fr≠pR to:=h.ne;rw[anB rfl];show(oN ci p==0)=true∧decide (gI aW (ptd ci (ccF (true,li,ci,cw,fr,to))) (ptd ci p) (ptd ci (ccT (true,li,ci,cw,fr,to)))≤0)=true↔gC ci (pR p)∧nF _ _ _=true;rw[ui];cases cw
  ·constructor
   ·intro ⟨h1,h2⟩;refine⟨h1,?_⟩;have:=wg (ci:=ci) (F:=fr) (P:=p) (T:=to) q1 q2 h1 q3 hne;exact this▸h2
   ·intro ⟨h1,h2⟩;refine⟨h1,?_⟩;have:=wg (ci:=ci) (F:=fr) (P:=p) (T:=to) q1 q2 h1 q3 hne;exact this.trans h2
  ·constructor
   ·intro ⟨h1,h2⟩;refine⟨h1,?_⟩;have:=wg (ci:=ci) (F:=to) (P:=p) (T:=fr) q1 q3 h1 q2 (aoL hne);exact this▸h2
   ·intro ⟨h1,h2⟩;refine⟨h1,?_⟩;have:=wg (ci:=ci) (F:=to) (P:=p) (T:=fr) q1 q3 h1 q2 (aoL hne);exact this.trans h2
end RE
end
section
namespace RE
def dsE(p v:PE):RE:=(p.1-v.1)*(p.1-v.1)+(p.2-v.2)*(p.2-v.2)
def Mn(S:PE→Prop)(v:PE)(m:RE):Prop:=(∃p,S p∧dsE p v=m)∧∀p,S p→m≤dsE p v
open Classical in
def mnE(a b:RE):RE:=if b<a then b else a
theorem Jt{S:PE→Prop}{v F T:PE}(hF:S F)(hT:S T)(h:∀p,S p→dsE F v≤dsE p v∨dsE T v≤dsE p v):Mn S v (mnE (dsE F v) (dsE T v)):=by
 unfold mnE;by_cases e:dsE T v<dsE F v
 ·rw[anB e];exact⟨⟨T,hT,rfl⟩,fun p hp=>(h p hp).elim (fun g=>le_trans (le_of_lt e) g) id⟩
 ·rw[anr e];exact⟨⟨F,hF,rfl⟩,fun p hp=>(h p hp).elim id (fun g=>le_trans e g)⟩
theorem adz(a b _c p q v w:RE):(a*a+b*b)*((p-v)*(p-v)+(q-w)*(q-w))=(a*v+b*w-(a*p+b*q))*(a*v+b*w-(a*p+b*q))+(-b*p+a*q-(-b*v+a*w))*(-b*p+a*q-(-b*v+a*w)):=by grind
theorem TL(a b e k v w:RE):(v-a*(e*k)-v)*(v-a*(e*k)-v)+(w-b*(e*k)-w)*(w-b*(e*k)-w)=e*e*k*((a*a+b*b)*k):=by grind
theorem IX(a b c k v w:RE):a*(v-a*((a*v+b*w-c)*k))+b*(w-b*((a*v+b*w-c)*k))=a*v+b*w-(a*v+b*w-c)*((a*a+b*b)*k):=by grind
theorem abX(a b x v w:RE): -b*(v-a*x)+a*(w-b*x)= -b*v+a*w:=by grind
theorem KG(x c:RE):x-(x-c)=c:=by grind
theorem Th(x y:RE):((x*x-(y*y)))+2*((x-(0))*(y-(x)))+((y-(x))*(y-(x)))=0:=by grind
theorem afY(x y:RE)(h1:0≤x)(h2:x≤y):x*x≤y*y:=fun hg=>far (aK (aK (aL hg) (iH (by decide+kernel:(0:Rat)<2) (bg (aF h1) (aF h2)))) (bg (aF h2) (aF h2))) (Th x y)
theorem UW(x y:RE):((x*x-(y*y)))+((x-(y))*(x-(y)))+2*((x-(y))*(0-(x)))=0:=by grind
theorem akc(x y:RE)(h1:y≤x)(h2:x≤0):x*x≤y*y:=fun hg=>far (aK (aK (aL hg) (bg (aF h1) (aF h1))) (iH (by decide+kernel:(0:Rat)<2) (bg (aF h1) (aF h2)))) (UW x y)
theorem O8(n x y s t e:RE):((n-(0))*(x-(y)))+((e+s-(n*x)))+((n*y-(e+t)))+((t-(s)))=0:=by grind
theorem adn(n x y s t e:RE)(h1:0<n)(h2:n*x=e+s)(h3:n*y=e+t)(h4:s≤t):x≤y:=fun hg=>far (aK (aK (aK (mul_pos (aL h1) (aL hg)) (aF (ow h2))) (aF (lT h3))) (aF h4)) (O8 n x y s t e)
theorem alO(a v x:RE)(_h1:v<a)(h2:a≤x):a-v≤x-v:=by grind
theorem agm(a v:RE)(h1:v<a):0≤a-v:=by grind
theorem amj(a v x:RE)(_h1:a<v)(h2:x≤a):x-v≤a-v:=by grind
theorem aff(a v:RE)(h1:a<v):a-v≤0:=by grind
theorem asc(n k x:RE):n*x*k=n*k*x:=by grind
theorem Kw(e t:RE)(h1:0≤t):e≤e+t:=by grind
theorem GI(x y k:RE):((x*k-(y*k)))+((y-(x))*(k-(0)))=0:=by grind
theorem LA(x y k:RE)(h1:x≤y)(h2:0<k):x*k≤y*k:=fun hg=>far (aK (aL hg) (bg (aF h1) (le_of_lt (aL h2)))) (GI x y k)
theorem NA{n:RE}(h:0<n):∃k,0<k∧n*k=1:=by
 obtain⟨k,hk⟩:=GQ n h;refine⟨k,?_,hk⟩;have:=dA n k;rw[hk,dB zero_lt_one,dB h,aol]at this;exact Fe.1 this.symm
def exE(l:Ln)(v:PE):RE:=of l.1*v.1+of l.2.1*v.2-of l.2.2
def nrE(l:Ln):RE:=of l.1*of l.1+of l.2.1*of l.2.1
theorem Gu{l:Ln}{p v:PE}(h:iK l p):nrE l*dsE p v=exE l v*exE l v+(tE l p-tE l v)*(tE l p-tE l v):=by
 unfold nrE dsE exE tE;rw[adz _ _ (of l.2.2),h]
theorem Ce{l:Ln}{F T v:PE}(_hn:0<nrE l)(hb:btE (tE l F) (tE l T) (tE l v)){k:RE}(hk:0<k)(ek:nrE l*k=1):Mn (qb l F T) v (exE l v*exE l v*k):=by
 refine⟨⟨(v.1-of l.1*(exE l v*k),v.2-of l.2.1*(exE l v*k)),⟨?_,?_⟩,?_⟩,fun p hp=>?_⟩
 ·show of l.1*(v.1-of l.1*(exE l v*k))+of l.2.1*(v.2-of l.2.1*(exE l v*k))=of l.2.2;unfold exE;rw[IX];show _-_*(nrE l*k)=_;rw[ek,mul_one,KG]
 ·show btE _ _ (-of l.2.1*(v.1-of l.1*(exE l v*k))+of l.1*(v.2-of l.2.1*(exE l v*k)));rw[abX];exact hb
 ·show(v.1-of l.1*(exE l v*k)-v.1)*(v.1-of l.1*(exE l v*k)-v.1)+(v.2-of l.2.1*(exE l v*k)-v.2)*(v.2-of l.2.1*(exE l v*k)-v.2)=_;rw[TL];show _*(nrE l*k)=_;rw[ek,mul_one]
 ·have h1:=Gu (v:=v) hp.1;have h2:=LA _ _ k (Kw (exE l v*exE l v) ((tE l p-tE l v)*(tE l p-tE l v)) (fo _)) hk;rw[←h1,asc (nrE l),ek,one_mul]at h2;exact h2
theorem UD{l:Ln}{F T v:PE}(hn:0<nrE l)(hF:iK l F)(hT:iK l T)(hb:¬btE (tE l F) (tE l T) (tE l v)):Mn (qb l F T) v (mnE (dsE F v) (dsE T v)):=by
 have le_of:=fun(p q:PE) (hp:iK l p) (hq:iK l q) (h:(tE l p-tE l v)*(tE l p-tE l v)≤(tE l q-tE l v)*(tE l q-tE l v))=>adn _ _ _ _ _ _ hn (Gu (v:=v) hp) (Gu (v:=v) hq) h;have nn:∀p q:PE,iK l p→iK l q→tE l v<tE l p→tE l p≤tE l q→dsE p v≤dsE q v:=fun p q hp hq h1 h2=>le_of p q hp hq (afY _ _ (agm _ _ h1) (alO _ _ _ h1 h2));have np:∀p q:PE,iK l p→iK l q→tE l p<tE l v→tE l q≤tE l p→dsE p v≤dsE q v:=fun p q hp hq h1 h2=>le_of p q hp hq (akc _ _ (amj _ _ _ h1 h2) (aff _ _ h1));have sF:qb l F T F:=⟨hF,(lt_or_ge (tE l F) (tE l T)).elim (fun h=>.inl ⟨le_refl _,le_of_lt h⟩) (fun h=>.inr ⟨h,le_refl _⟩)⟩
 have sT:qb l F T T:=⟨hT,(lt_or_ge (tE l F) (tE l T)).elim (fun h=>.inl ⟨le_of_lt h,le_refl _⟩) (fun h=>.inr ⟨le_refl _,h⟩)⟩
 refine Jt sF sT fun p ⟨hp,hbp⟩=>?_;rcases lt_or_ge (tE l v) (tE l F)with g|g
 ·rcases lt_or_ge (tE l v) (tE l T)with g'|g'
  ·rcases hbp with⟨h1,h2⟩|⟨h1,h2⟩
   ·exact .inl (nn F p hF hp g h1)
   ·exact .inr (nn T p hT hp g' h1)
  ·exact absurd (.inr ⟨g',le_of_lt g⟩) hb
 ·rcases lt_or_ge (tE l T) (tE l v)with g'|g'
  ·rcases lt_or_ge (tE l F) (tE l v)with g2|g2
   ·rcases hbp with⟨h1,h2⟩|⟨h1,h2⟩
    ·exact .inr (np T p hT hp g' h2)
    ·exact .inl (np F p hF hp g2 h2)
   ·exact absurd (.inr ⟨le_of_lt g',g2⟩) hb
  ·exact absurd (.inl ⟨g,g'⟩) hb
theorem aht(a b x y d e q:RE):(a*y-b*x)*((d*b-e*a)+(d*y-e*x))=((a*d+b*e)-(x*d+y*e))*(q+(a*x+b*y))+(a*d+b*e)*(x*x+y*y-q)-(x*d+y*e)*(a*a+b*b-q):=by grind
theorem plk(a b x y z t d e:RE):(a*y-b*x)*(d*t-e*z)=(z*y-t*x)*(d*b-e*a)+(a*t-b*z)*(d*y-e*x):=by grind
theorem Tk(x k m:RE):x+k*0-m*0=x:=by grind
theorem Gn(x y:RE)(h1:0≤x)(h2:0≤y):0≤x+y:=by grind
theorem adT(x y:RE)(h1:x≤0)(h2:y≤0):x+y≤0:=by grind
theorem NJ(x:RE)(h1:0≤x): -x≤0:=by grind
theorem Wb(x:RE)(h1:x≤0):0≤ -x:=by grind
theorem Eu(x k y:RE):((k-(0))*(0-(x)))+((x*k-(y)))+((y-(0)))=0:=by grind
theorem Lc(x k y:RE)(h1:x*k=y)(h2:0≤y)(h3:0<k):0≤x:=fun hg=>far (aK (aK (mul_pos (aL h3) (aL hg)) (aF (lT h1))) (aF h2)) (Eu x k y)
theorem Kp(x y:RE)(h1:0≤x-y):y≤x:=by grind
theorem ady(a b x y:RE):(a+x)*(a+x)+(b+y)*(b+y)=a*a+b*b+(x*x+y*y)+((a*x+b*y)+(a*x+b*y)):=by grind
theorem TX(a b x y:RE):(a-x)*(a-x)+(b-y)*(b-y)=a*a+b*b+(x*x+y*y)-((a*x+b*y)+(a*x+b*y)):=by grind
theorem akI(q s t:RE)(h1:t=q+q+(s+s))(h2:0≤t):0≤q+s:=by grind
theorem alK(q s t:RE)(h1:t=q+q+(s+s))(h2:q+s=0):t≤0:=by grind
theorem ak2(q s t:RE)(h1:t=q+q+(s+s))(h2:q+s=0):0≤t:=by grind
theorem q_z(q s t:RE)(h1:t=q+q+(s+s))(h2:q+s=0):t=0:=le_antisymm (alK q s t h1 h2) (ak2 q s t h1 h2)
theorem Tc(x y:RE)(h1:x+y=0)(_h2:0≤x)(h3:0≤y):x≤0:=by grind
theorem Qq(x y:RE)(h1:x+y=0)(h2:0≤x)(_h3:0≤y):y≤0:=by grind
theorem amh(a x:RE)(h1:a+x=0):x≤ -a:=by grind
theorem alj(a x:RE)(h1:a+x=0): -a≤x:=by grind
theorem opp(a x:RE)(h1:a+x=0):x= -a:=le_antisymm (amh a x h1) (alj a x h1)
theorem tF{x y:RE}(h:x*x+y*y=0):x=0∧y=0:=⟨v9 (Tc _ _ h (fo x) (fo y)),v9 (Qq _ _ h (fo x) (fo y))⟩
theorem gl{u z d:PE}{Q:RE}(hu:dtE u u=Q)(hz:dtE z z=Q):crs u z*(crs d u+crs d z)=(dtE u d-dtE z d)*(Q+dtE u z):=by
 unfold dtE at hu hz;unfold crs dtE;rw[aht _ _ _ _ _ _ Q,hu,hz,sub_self,Tk]
theorem Uh(a b c d:RE):a*d-b*c= -(c*b-d*a):=by grind
theorem adB(u w:PE):crs u w= -crs w u:=Uh _ _ _ _
theorem aln(u w z d:PE):crs u w*crs d z=crs z w*crs d u+crs u z*crs d w:=plk _ _ _ _ _ _ _ _
theorem xC{u z:PE}{Q:RE}(hu:dtE u u=Q)(hz:dtE z z=Q):0<Q+dtE u z∨z=(-u.1,-u.2):=by
 have h1:(u.1+z.1)*(u.1+z.1)+(u.2+z.2)*(u.2+z.2)=Q+Q+(dtE u z+dtE u z):=by
  rw[ady];unfold dtE at hu hz ⊢;rw[hu,hz]
 have nn:∀x y:RE,0≤x*x+y*y:=fun x y=>Gn _ _ (fo x) (fo y);rcases fS (akI _ _ _ h1 (nn _ _))with h|h
 ·exact .inl h
 ·have h2:=q_z _ _ _ h1 h;obtain⟨a,b⟩:=tF h2;exact .inr (aoq (opp _ _ a) (opp _ _ b))
theorem HO{u z d:PE}{Q:RE}(hu:dtE u u=Q)(hz:dtE z z=Q)(hk:0<Q+dtE u z)(h:0≤crs u z*(crs d u+crs d z)):dtE z d≤dtE u d:=by
 rw[gl hu hz]at h;exact Kp _ _ (Lc _ _ _ rfl h hk)
theorem FV(a b c d:RE):(a*d-b*c)*(a*d-b*c)+(a*c+b*d)*(a*c+b*d)=(a*a+b*b)*(c*c+d*d):=by grind
theorem acz(s q:RE):(s+q)*(s-q)=s*s-q*q:=by grind
theorem aiS(q s t:RE)(h1:t=q+q-(s+s))(h2:s-q=0):t≤0:=by grind
theorem afB(q s t:RE)(h1:t=q+q-(s+s))(h2:s-q=0):0≤t:=by grind
theorem alP(q s t:RE)(h1:t=q+q-(s+s))(h2:s-q=0):t=0:=le_antisymm (aiS q s t h1 h2) (afB q s t h1 h2)
theorem QF(s q:RE)(h1:s+q=0):q+s≤0:=by grind
theorem Sv(s q:RE)(h1:s+q=0):0≤q+s:=by grind
theorem UZ(s q:RE)(h1:s+q=0):q+s=0:=le_antisymm (QF s q h1) (Sv s q h1)
theorem TK{x y:RE}(h:x*y=0):x=0∨y=0:=by
 have:=dA x y;rw[h,dg]at this;rcases Int.mul_eq_zero.1 this.symm with e|e
 ·exact .inl (pC.1 e)
 ·exact .inr (pC.1 e)
theorem akS{u w:PE}{Q:RE}(hu:dtE u u=Q)(hw:dtE w w=Q)(h:crs u w=0):u=w∨w=(-u.1,-u.2):=by
 have h1:crs u w*crs u w+dtE u w*dtE u w=dtE u u*dtE w w:=FV _ _ _ _;rw[h,hu,hw,mul_zero,zero_add]at h1;have h2:(dtE u w+Q)*(dtE u w-Q)=0:=by rw[acz,h1,sub_self]
 rcases TK h2 with e|e
 ·right;rcases xC hu hw with g|g
  ·rw[UZ _ _ e]at g;exact absurd g (lt_irrefl _)
  ·exact g
 ·left
  have h3:(u.1-w.1)*(u.1-w.1)+(u.2-w.2)*(u.2-w.2)=Q+Q-(dtE u w+dtE u w):=by
   rw[TX];unfold dtE at hu hw ⊢;rw[hu,hw]
  obtain⟨a,b⟩:=tF (alP _ _ _ h3 e);exact aoq (fZ _ _ a) (fZ _ _ b)
theorem Q4{u w z:PE}(h:0≤crs u w):nF u w z=true↔0≤crs u z∧0≤crs z w:=by
 unfold nF AW;rw[am5 (Lz.2 h),cond_true,am9,ao3,ao3,Lz,Lz]
theorem Bq{x:RE}:sg x<0↔x<0:=by
 rcases bi x with⟨h,e⟩|⟨h,e⟩|⟨h,e⟩<;>rw[e]
 ·exact⟨fun h'=>absurd h' (by decide),fun h'=>absurd (cO h h') (lt_irrefl _)⟩
 ·rw[h];exact⟨fun h'=>absurd h' (by decide),fun h'=>absurd h' (lt_irrefl _)⟩
 ·exact⟨fun _=>h,fun _=>by decide⟩
theorem Qf{u w z:PE}(h:crs u w<0):nF u w z=true↔¬(crs z w<0∧crs u z<0):=by
 unfold nF AW;rw[am7 (by have:=Bq.2 h;omega),cond_false];simp only[aoJ,Bool.and_eq_false_iff,decide_eq_false_iff_not,Bq]
 exact⟨fun g g'=>g.elim (fun k=>k g'.1) (fun k=>k g'.2),fun g=>by
  by_cases e:crs z w<0
  ·exact .inr (fun e'=>g ⟨e,e'⟩)
  ·exact .inl e⟩
theorem PI(d e a b:RE):d* -b-e* -a= -(d*b-e*a):=by grind
theorem OK(a b c d:RE): -a*d- -b*c= -(a*d-b*c):=by grind
theorem abz(x:RE)(h1:0≤ -x)(_h2:0≤x):x≤0:=by grind
theorem acb(x:RE)(_h1:0≤ -x)(h2:0≤x):0≤x:=by grind
theorem aaY(x:RE)(h1:0≤ -x)(h2:0≤x):x=0:=le_antisymm (abz x h1 h2) (acb x h1 h2)
theorem alC(bu bz bw:RE)(h1:bu+bz<0)(h2:0<bw+bz)(h3:0<bu):0<bw:=by grind
theorem ald(bu bz:RE)(h1:bu+bz<0)(h2:0<bu):bz<0:=by grind
theorem alI(bu bz bw:RE)(h1:bu+bz<0)(h2:0<bw+bz)(h3:bw<0):bu<0:=by grind
theorem alp(bw bz:RE)(h1:0<bw+bz)(h2:bw<0):0<bz:=by grind
theorem k_e(k bz s bu t bw:RE)(h1:k*bz=s*bu+t*bw)(h2:0≤s*bu)(h3:0<t*bw):0<k*bz:=by grind
theorem alZ(bu s bz k bw t:RE)(h1:k*bz=s*bu+t*bw)(h2:s*bu<0)(h3:0<k*bz)(h4:t*bw≤0):0<k:=by grind
theorem Ko(x y:RE):((x*y-(0)))+((x-(0))*(0-(y)))=0:=by grind
theorem Bw(x y:RE)(h1:0≤x)(h2:y≤0):x*y≤0:=fun hg=>far (aK (aL hg) (bg (aF h1) (aF h2))) (Ko x y)
theorem K5(x y:RE):((x*y-(0)))+((0-(x))*(y-(0)))=0:=by grind
theorem U8(x y:RE)(h1:x≤0)(h2:0≤y):x*y≤0:=fun hg=>far (aK (aL hg) (bg (aF h1) (aF h2))) (K5 x y)
theorem LF(x y:RE):((0-(x))*(0-(y)))+((0-(x*y)))=0:=by grind
theorem Mf(x y:RE)(h1:x<0)(h2:y<0):0<x*y:=rX.1 fun hg=>far (aK (mul_pos (aL h1) (aL h2)) (aF hg)) (LF x y)
theorem MH(x y:RE):((0-(x))*(y-(0)))+((x*y-(0)))=0:=by grind
theorem abm(x y:RE)(h1:x<0)(h2:0<y):x*y<0:=rX.1 fun hg=>far (aK (mul_pos (aL h1) (aL h2)) (aF hg)) (MH x y)
theorem Kz(x y:RE):((0-(x*y)))+((0-(x))*(0-(y)))=0:=by grind
theorem Jk(x y:RE)(h1:x≤0)(h2:y≤0):0≤x*y:=fun hg=>far (aK (aL hg) (bg (aF h1) (aF h2))) (Kz x y)
theorem sH(d u:PE):crs d (-u.1,-u.2)= -crs d u:=PI _ _ _ _
theorem U6(u d:PE):crs (-u.1,-u.2) d= -crs u d:=OK _ _ _ _
theorem V9{u w z d:PE}{Q:RE}(hu:dtE u u=Q)(hw:dtE w w=Q)(hz:dtE z z=Q)(hne:u≠w)(h:nF u w z=true)(hd:¬nF u w d=true):dtE z d≤dtE u d∨dtE z d≤dtE w d:=by
 have ac:=adB;have key:=aln u w z d;rcases lt_or_ge (crs u w) 0 with hk|hk
 ·rw[Qf hk]at h hd;obtain⟨d1,d2⟩:=Classical.not_not.1 hd;have bu:0<crs d u:=by rw[ac];exact jQ d2
  rcases lt_or_ge (crs d z) 0 with hb|hb
  ·rcases lt_or_ge (crs z w) 0 with hc|hc
   ·have hz':0≤crs u z:=fun g=>h ⟨hc,g⟩;exact absurd hk (fun g=>lt_irrefl _ (cO g (alZ _ _ _ _ _ _ key (abm _ _ hc bu) (Mf _ _ hk hb) (Bw _ _ hz' (le_of_lt d1)))))
   ·right;refine HO hw hz ?_ ?_
    ·rcases xC hw hz with g|g
     ·exact g
     ·rw[g,sH]at hb;exact absurd (cO (jQ d1) hb) (lt_irrefl _)
    ·rw[ac w z];exact Jk _ _ (NJ _ hc) (le_of_lt (Q6 _ _ d1 hb))
  ·rcases lt_or_ge (crs u z) 0 with hc|hc
   ·have hz':0≤crs z w:=fun g=>h ⟨g,hc⟩;have:=Mf _ _ hc d1;have h2:=bg hz' (le_of_lt bu);have h3:=U8 _ _ (le_of_lt hk) hb;exact absurd (k_e _ _ _ _ _ _ key h2 this) h3
   ·left;refine HO hu hz ?_ (bg hc (le_of_lt (aK bu hb)));rcases xC hu hz with g|g
    ·exact g
    ·rw[g,sH]at hb;exact absurd (Fd bu) hb
 ·rw[Q4 hk]at h hd;obtain⟨h1,h2⟩:=h;have zero_case:crs u w=0→w=(-u.1,-u.2):=fun e=>(akS hu hw e).resolve_left hne;rcases lt_or_ge (crs d u+crs d z) 0 with g1|g1
  ·rcases lt_or_ge 0 (crs d w+crs d z)with g2|g2
   ·exfalso;by_cases hb:0<crs d u
    ·have b1:=ald _ _ g1 hb;have b2:=alC _ _ _ g1 g2 hb;have r1:=bg h2 (le_of_lt hb);have r2:=bg h1 (le_of_lt b2);rcases fS hk with k1|k1
     ·have:=Fw _ _ k1 b1;rw[key]at this;exact absurd this (Gn _ _ r1 r2)
     ·have e:=zero_case k1;rw[e,sH]at b2;exact lt_irrefl _ (cO b2 (Fd hb))
    ·have hb':crs d w<0:=by
      rcases lt_or_ge (crs d w) 0 with q|q
      ·exact q
      ·exact absurd ⟨by rw[ac];exact Wb _ hb,q⟩ hd
     have b1:=alp _ _ g2 hb';have b2:=alI _ _ _ g1 g2 hb';have r1:=Bw _ _ h2 (le_of_lt b2);have r2:=Bw _ _ h1 (le_of_lt hb');rcases fS hk with k1|k1
     ·have:=mul_pos k1 b1;rw[key]at this;exact absurd this (adT _ _ r1 r2)
     ·have e:=zero_case k1;rw[e,sH]at hb';exact lt_irrefl _ (cO hb' (jQ b2))
   ·rcases xC hw hz with g|g
    ·right;refine HO hw hz g ?_;rw[ac w z];exact Jk _ _ (NJ _ h2) g2
    ·left;rw[g,sH]at h1;have e:=zero_case (aaY _ h1 hk);have:z=u:=by rw[g,e];exact aoq (neg_neg _) (neg_neg _)
     rw[this];exact le_refl _
  ·rcases xC hu hz with g|g
   ·left;exact HO hu hz g (bg h1 g1)
   ·right;rw[g,U6]at h2;have e:=zero_case (aaY _ h2 hk);rw[g,e];exact le_refl _
end RE
end
end Go.Proofs.YtnkndpoojnflmaaGreat
end
