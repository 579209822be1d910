/- Lines and circles: the reference's contracts. -/
import Derived.Test.YtnkndpoojnflmaaGreatA12
noncomputable section
namespace Go.Proofs.YtnkndpoojnflmaaGreat
open Go.RowKit Go.IntKind
theorem amQ:type_of% @List.mem_cons_of_mem:=@List.mem_cons_of_mem
theorem anf:type_of% @Rat.div_mul_cancel:=@Rat.div_mul_cancel
theorem anY:type_of% @not_false_eq_true:=@not_false_eq_true
theorem aoC:type_of% @Bool.eq_iff_iff:=@Bool.eq_iff_iff
def oU(l:Ln)(p:Pt):Rt:=mkR (jY l p) (j7 l p) p.2.2.2.2
def vH(c:Ln)(p:Pt):Rt:=arT (sqP p (ctr c)) (-c.2.2)
instance aku {r:Rt} {a:Rat} [h:Rdd r]:Rdd (arT r a):=⟨h.rd⟩
instance TA {l:Ln} {p:Pt} [h:Rpd p]:Rdd (oU l p):=by
 have:Nn p.2.2.2.2:=inferInstance;exact pO
instance akh {l:Ln} {p:Pt} {i j:Nat} [h:Bd l i] [h':Bd p j]:Bd (oU l p) (5*i+5*j+5):=by
 have a1:Bd (jY l p) _:=inferInstance;have a2:Bd (j7 l p) _:=inferInstance;have a3:Bd (mkR (jY l p) (j7 l p) p.2.2.2.2) _:=inferInstance;exact a3.mono (by omega)
theorem U5{l:Ln}{p:Pt}[h:Rpd p]:sgR (oU l p)=sO l p:=by
 unfold sO;rw[Fy (TA (l:=l) (p:=p)).nn,RE.sgn2_re h.nn];unfold oU;rw[RE.vR_mk]
namespace RE
theorem Vj(a b q:RE):a+ -q+b=a+b-q:=by grind
theorem U6(a b q:RE):a-q+b=a+b-q:=by grind
theorem shift_l(a b d q:RE)(h:a+b=a+d):a+ -q+b=a-q+d:=by
 rw[Vj,U6,h]
end RE
theorem Ua{c:Ln}{p:Pt}[h:Rpd p]: -sgR (vH c p)=oz c p:=by
 unfold oz;have hr:Rdd (vH c p):=inferInstanceAs (Rdd (arT (sqP p (ctr c)) (-c.2.2)));rw[Fy hr.nn,RE.sgn2_re h.nn]
 have e:RE.vR (vH c p)=RE.v2 (sqA p (ctr c)-c.2.2) (sqB p (ctr c)) p.2.2.2.2:=by
  have e1:=RE.vR_co (sqA p (ctr c)) (sqB p (ctr c)) p.2.2.2.2;unfold RE.vR RE.v2 at e1;unfold vH arT sqP RE.vR RE.v2;simp only;rw[RE.of_add,RE.of_neg,RE.of_sub]
  have e2:RE.of (coR (sqA p (ctr c)) (sqB p (ctr c)) p.2.2.2.2).1=RE.of (sqA p (ctr c)):=by
   unfold coR;cases decide (sqB p (ctr c)=0)<;>rfl
  rw[e2]at e1 ⊢;exact RE.shift_l _ _ _ _ e1
 rw[e]
theorem wV{q:Rat}(h:q≠0):aD q 0=if 0<q then 1 else-1:=by
 rcases(by grind:q<0∨0<q)with h'|h'
 ·rw[dH h',am0 (by grind)]
 ·rw[dk h',am7 h']
def qy:List En:=[enT iV,enL kD,enL lV,enL m7,enL lT,enT pu,enL o8,enL GG,enL GK,enL Rc,enL Fe]
def Q2(a:BR)(_k:KT):OLR:=match decide (okR a∧okR a)with|true=>some [RV.d tR (hMu a a)]|false=>none
def aba:Cn 364 [tR]:=cn fun(a:BR)=>lf (okR a) [.d tR (ak (ag a*ag a))] fun h=>by
 refine aA qy (Q2 a) ⟨0,?_⟩;unfold Q2;rw[dT ⟨h,h⟩];simp only[bK]
def GQ:Cn 140 [tR,tR]:=cn fun(a b:BR)=>lf (okR a∧okR b) [.d tR (ak (ag a+ag b))] fun h=>jH [RV.d tR (hAd a b)] (du qy) h
def Qb:Cn 238 [tR,tR]:=cn fun(a b:BR)=>lf (okR a∧okR b) [.d tR (ak (ag a-ag b))] fun h=>jH [RV.d tR (hSu a b)] (du qy) h
def BS:Cn 141 [tR,tR]:=cn fun(a b:BR)=>lf (okR a∧okR b) [.d tR (ak (ag a*ag b))] fun h=>jH [RV.d tR (hMu a b)] (du qy) h
def RF:Cn 248 [tR,tR]:=cn fun(a b:BR)=>lf (hZ a b) [.d tR (ak (ag a/ag b))] fun h=>jH [RV.d tR (hDi a b)] (du qy) h
def th:List En:=enL aba::enL GQ::enL Qb::enL BS::enL RF::qy
def Qr(r:BO3)(_k:KT):OLR:=og (o1 r.1) (og (o1 r.2.1) (og (o2 (hid (ak (ag r.2.1*ag r.2.1))) r.2.2) (og (o2 (hid (ak (ag r.1*ag r.1))) (hMu (hid (ak (ag r.2.1*ag r.2.1))) r.2.2)) (some [RV.d tR (hSu (hid (ak (ag r.1*ag r.1))) (hMu (hid (ak (ag r.2.1*ag r.2.1))) r.2.2))]))))
def adO:Cn 348 [tO]:=cn fun(r:BO3)=>lf (ok Rt 90000 r) [.d tR (ak (noR (dec r)))] fun h=>by
 refine aA th (Qr r) ⟨0,?_⟩;have hr:=h;obtain⟨r,rfl,br⟩:=aB hr;unfold Qr;simp only[aO,Nat.reduceAdd,Nat.reduceLeDiff];rfl
def Qu(l:BO3)(p:BP)(_k:KT):OLR:=og (o2 l.1 p.1) (og (o2 l.2.1 p.2.2.1) (og (o2 (hMu l.1 p.1) (hMu l.2.1 p.2.2.1)) (og (o2 (hAd (hMu l.1 p.1) (hMu l.2.1 p.2.2.1)) l.2.2) (og (o2 l.1 p.2.1) (og (o2 l.2.1 p.2.2.2.1) (og (o2 (hMu l.1 p.2.1) (hMu l.2.1 p.2.2.2.1)) (og (decide (ok Rat 100000 (hSu (hAd (hMu l.1 p.1) (hMu l.2.1 p.2.2.1)) l.2.2)∧ok Rat 100000 (hAd (hMu l.1 p.2.1) (hMu l.2.1 p.2.2.2.1))∧ok Rat 100000 p.2.2.2.2∧0≤ag p.2.2.2.2)) (some [RV.d tO (hid (enc (mkR (ag (hSu (hAd (hMu l.1 p.1) (hMu l.2.1 p.2.2.1)) l.2.2)) (ag (hAd (hMu l.1 p.2.1) (hMu l.2.1 p.2.2.2.1))) (ag p.2.2.2.2))))]))))))))
def Lu:Cn 124 [tO,tP]:=cn fun(l:BO3) (p:BP)=>lf (ok Ln 300 l∧okP 4000 p) [.d tO (enc (oU (dec l) (dec p)))] fun h=>by
 refine aA th (Qu l p) ⟨0,?_⟩;obtain⟨hl,hp⟩:=h;obtain⟨l,rfl,bl⟩:=aB hl;obtain⟨p,rfl,bp,rp⟩:=aZ hp;have hn:0≤p.2.2.2.2:=rp.nn;unfold Qu;simp only[aO,Nat.reduceAdd,Nat.reduceLeDiff,dT hn];rfl
def QW(c:BO3)(p:BP)(_k:KT):OLR:=og (decide (okP 3500 p∧ok (Rat×Rat) 300 (c.1,c.2.1))) (og (o1 c.2.2) (og (decide (ok Rt 100000 (hid (enc (sqP (dec p) (dec (c.1,c.2.1)))))∧ok Rat 100000 (hNe c.2.2))) (some [RV.d tO (hid (enc (arT (dec (hid (enc (sqP (dec p) (dec (c.1,c.2.1)))))) (ag (hNe c.2.2)))))])))
def abd:Cn 319 [tO,tP]:=cn fun(c:BO3) (p:BP)=>lf (ok Ln 300 c∧okP 3500 p) [.d tO (enc (vH (dec c) (dec p)))] fun h=>by
 refine aA th (QW c p) ⟨0,?_⟩;obtain⟨hc,hp⟩:=h;obtain⟨c,rfl,bc⟩:=aB hc;obtain⟨p,rfl,bp,rp⟩:=aZ hp;have e0:(dec ((ak c.1,ak c.2.1):BV):Rat×Rat)=ctr c:=az (ctr c);have e1:decide (ok (Rat×Rat) 300 ((ak c.1,ak c.2.1):BV))=true:=okd (x:=ctr c) (by decide) (by decide);unfold QW;simp only[aO,Nat.reduceAdd,Nat.reduceMul,Nat.reduceLeDiff,aI,e0,e1];rfl
def Ny(l:BO3)(v:BV)(_k:KT):OLR:=og (o2 l.1 l.1) (og (o2 l.2.1 l.2.1) (og (o2 (hMu l.1 l.1) (hMu l.2.1 l.2.1)) (og (o2 l.1 v.1) (og (o2 l.2.1 v.2) (og (o2 (hMu l.1 v.1) (hMu l.2.1 v.2)) (og (o2 l.2.2 (hAd (hMu l.1 v.1) (hMu l.2.1 v.2))) (og (decide (hZ (hSu l.2.2 (hAd (hMu l.1 v.1) (hMu l.2.1 v.2))) (hAd (hMu l.1 l.1) (hMu l.2.1 l.2.1)))) (og (o2 (hDi (hSu l.2.2 (hAd (hMu l.1 v.1) (hMu l.2.1 v.2))) (hAd (hMu l.1 l.1) (hMu l.2.1 l.2.1))) l.1) (og (o2 v.1 (hMu (hDi (hSu l.2.2 (hAd (hMu l.1 v.1) (hMu l.2.1 v.2))) (hAd (hMu l.1 l.1) (hMu l.2.1 l.2.1))) l.1)) (og (o2 (hDi (hSu l.2.2 (hAd (hMu l.1 v.1) (hMu l.2.1 v.2))) (hAd (hMu l.1 l.1) (hMu l.2.1 l.2.1))) l.2.1) (og (o2 v.2 (hMu (hDi (hSu l.2.2 (hAd (hMu l.1 v.1) (hMu l.2.1 v.2))) (hAd (hMu l.1 l.1) (hMu l.2.1 l.2.1))) l.2.1)) (some [RV.d tV (hAd v.1 (hMu (hDi (hSu l.2.2 (hAd (hMu l.1 v.1) (hMu l.2.1 v.2))) (hAd (hMu l.1 l.1) (hMu l.2.1 l.2.1))) l.1),hAd v.2 (hMu (hDi (hSu l.2.2 (hAd (hMu l.1 v.1) (hMu l.2.1 v.2))) (hAd (hMu l.1 l.1) (hMu l.2.1 l.2.1))) l.2.1))]))))))))))))
def Gj:Cn 138 [tO,tV]:=cn fun(l:BO3) (v:BV)=>lf (ok Ln 300 l∧ok (Rat×Rat) 200 v∧((dec l:Ln).1≠0∨(dec l:Ln).2.1≠0)) [.d tV (enc (dp (dec l) (dec v)))] fun h=>by
 refine aA th (Ny l v) ⟨0,?_⟩;obtain⟨hl,hv,h0⟩:=h;obtain⟨l,rfl,bl⟩:=aB hl;obtain⟨v,rfl,bv⟩:=aB hv;have hn:l.1*l.1+l.2.1*l.2.1≠0:=lI (by rw[az]at h0;exact h0)
 have e:(l.2.2-(l.1*v.1+l.2.1*v.2))/(l.1*l.1+l.2.1*l.2.1)= -mZ l v:=by
  unfold mZ;grind
 unfold Ny;simp only[aO,Nat.reduceAdd,Nat.reduceLeDiff,hn,ne_eq,anY];unfold dp;rw[e,show v.1+ -mZ l v*l.1=v.1-mZ l v*l.1 by grind,show v.2+ -mZ l v*l.2.1=v.2-mZ l v*l.2.1 by grind];rfl
def H7:List En:=enL adO::enL Lu::enL abd::enL Gj::th
def LM(r:BO3)(_k:KT):OLR:=og (o1 r.1) (og (o1 r.2.1) (match(aD (ag r.1) 0)==(aD (ag r.2.1) 0)with|true=>some [RV.d apY (aD (ag r.1) 0)]|false=>(match(aD (ag r.2.1) 0)==0 with|true=>some [RV.d apY (aD (ag r.1) 0)]|false=>(match(aD (ag r.1) 0)==0 with|true=>some [RV.d apY (aD (ag r.2.1) 0)]|false=>(og (decide (ok Rt 90000 r)) (og (o1 (hid (ak (noR (dec r))))) (match decide ((aD (ag (hid (ak (noR (dec r))))) 0)>0)with|true=>some [RV.d apY (aD (ag r.1) 0)]|false=>some [RV.d apY (aD (ag r.2.1) 0)])))))))
def adJ:Cn 318 [tO]:=cn fun(r:BO3)=>lf (okT 90000 r) [.d apY (sgR (dec r))] fun h=>by
 refine aA H7 (LM r) ⟨0,?_⟩;have hr:=h;obtain⟨r,rfl,br,rr⟩:=fB hr;unfold LM;simp only[aO,Nat.reduceAdd,Nat.reduceMul,Nat.reduceLeDiff,ao,au];rw[Yv rr];by_cases hb:r.2.1=0
 ·rw[amE hb,hb,d7];by_cases ha:aD r.1 0=0
  ·rw[ha];rfl
  ·rw[show(aD r.1 0==0)=false by simp[ha]];rfl
 ·have hn:=ad6 rr hb;have e2:=wV hn;have hb2:=wV hb;rw[amG hb,show(aD r.2.1 0==0)=false by rw[ao,amG hb]];by_cases ha:r.1=0
  ·rw[amE ha,ha,d7,show((0:Int)==aD r.2.1 0)=false by rw[hb2];split<;>rfl];rfl
  ·have ha2:=wV ha;rw[amG ha,show(aD r.1 0==0)=false by rw[ao,amG ha]];cases hq:(aD r.1 0==aD r.2.1 0)
   ·have hne:aD r.1 0≠aD r.2.1 0:=by simpa using hq
    rw[e2];by_cases hp:0<noR r
    ·rw[amE hp,am7 hp,aoX];rfl
    ·rw[amG hp,am0 hp];show some [RV.d apY (aD r.2.1 0)]=some [RV.d apY (aD r.1 0* -1)]
     rw[show aD r.2.1 0=aD r.1 0* -1 by
      rw[ha2,hb2]at hne ⊢;split at hne<;>split at hne<;>simp_all]
   ·rfl
def IJ:List En:=enT adJ::H7
def Mx(l:BO3)(p:BP)(_k:KT):OLR:=og (decide (ok Ln 300 l∧okP 4000 p)) (og (decide (okT 90000 (hid (enc (oU (dec l) (dec p)))))) (some [RV.d apY (sgR (dec (hid (enc (oU (dec l) (dec p))))))]))
def aeu:Cn 259 [tO,tP]:=cn fun(l:BO3) (p:BP)=>lf (ok Ln 300 l∧okP 4000 p) [.d apY (sO (dec l) (dec p))] fun h=>by
 refine aA IJ (Mx l p) ⟨0,?_⟩;obtain⟨hl,hp⟩:=h;obtain⟨l,rfl,bl⟩:=aB hl;obtain⟨p,rfl,bp,rp⟩:=aZ hp;unfold Mx;simp only[aO,Nat.reduceAdd,Nat.reduceMul,Nat.reduceLeDiff,aH,aI];rw[U5]
def Ol(c:BO3)(p:BP)(_k:KT):OLR:=og (decide (ok Ln 300 c∧okP 3500 p)) (og (decide (okT 90000 (hid (enc (vH (dec c) (dec p)))))) (some [RV.d apY (i64.wrap (0-(sgR (dec (hid (enc (vH (dec c) (dec p))))))))]))
def act:Cn 258 [tO,tP]:=cn fun(c:BO3) (p:BP)=>lf (ok Ln 300 c∧okP 3500 p) [.d apY (oz (dec c) (dec p))] fun h=>by
 refine aA IJ (Ol c p) ⟨0,?_⟩;obtain⟨hc,hp⟩:=h;obtain⟨c,rfl,bc⟩:=aB hc;obtain⟨p,rfl,bp,rp⟩:=aZ hp;have hr:Rdd (vH c p):=inferInstanceAs (Rdd (arT (sqP p (ctr c)) (-c.2.2)));have br:Bd (vH c p) 90000:=(inferInstance:Bd (arT (sqP p (ctr c)) (-c.2.2)) _).mono (by decide);have hb: -1≤sgR (vH c p)∧sgR (vH c p)≤1:=lP _ _ _;unfold Ol;simp only[aO,Nat.reduceLeDiff,aH,aI,aox,aT (x:= -sgR (vH c p)) (by omega) (by omega)];rw[Ua]
abbrev tCU:Ty:=.st (.pair .bool (.pair tO (.pair tO (.pair .bool (.pair tP tP)))))
abbrev BCU:=Bool×BO3×BO3×Bool×BP×BP
abbrev Cv:=Bool×Ln×Ln×Bool×Pt×Pt
def dC(c:BCU):Cv:=(c.1,dec c.2.1,dec c.2.2.1,c.2.2.2.1,dec c.2.2.2.2.1,dec c.2.2.2.2.2)
def nE(x:BO3):Prop:=ok Ln 300 x∧(0:Rat)<(dec x:Ln).2.2
instance (x:BO3):Decidable (nE x):=by unfold nE;infer_instance
def Wp(x:BO3):Prop:=ok Ln 300 x∧((dec x:Ln).1≠0∨(dec x:Ln).2.1≠0)
instance (x:BO3):Decidable (Wp x):=by unfold Wp;infer_instance
def okC(k:Nat)(c:BCU):Prop:=(c.1=true→nE c.2.2.1)∧(c.1=false→Wp c.2.1)∧okP k c.2.2.2.2.1∧okP k c.2.2.2.2.2
instance (k:Nat) (c:BCU):Decidable (okC k c):=by unfold okC;infer_instance
def frC(c:Cv):Pt:=c.2.2.2.2.1
def toC(c:Cv):Pt:=c.2.2.2.2.2
def lnC(c:Cv):Ln:=c.2.1
def ciC(c:Cv):Ln:=c.2.2.1
def cwC(c:Cv):Bool:=c.2.2.2.1
def gi(c:Cv)(p:Pt):Bool:=bif c.1 then oz (ciC c) p==0 else sO (lnC c) p==0
def upR(c:Ln)(p:Pt):Bool:=decide (fq (yP p) c.2.1>0)||(fq (yP p) c.2.1==0&&decide (fq (xP p) c.1>0))
def ptd(c:Ln)(p:Pt):Bool×Rt:=(upR c p,xP p)
def EA(c:Ln)(p:Pt):Int:=bif upR c p then 0 else 1
def ccF(c:Cv):Pt:=bif cwC c then toC c else frC c
def ccT(c:Cv):Pt:=bif cwC c then frC c else toC c
def gZ(c:Cv)(p:Pt):Bool:=bif c.1 then decide (gu aW (ptd (ciC c) (ccF c)) (ptd (ciC c) p) (ptd (ciC c) (ccT c))≤0)else vc (aX (frC c) p) (aX p (toC c))
def onP(c:Cv)(p:Pt):Bool:=gi c p&&gZ c p
def sh(c:BCU):BCU:=(c.1,c.2.1,c.2.2.1,c.1&&!c.2.2.2.1,c.2.2.2.2.2,c.2.2.2.2.1)
def dS(c:BCU):BCU:=bif c.2.2.2.1 then sh c else c
def flP(p:Pt):Pt:=(-p.1,-p.2.1,p.2.2.1,p.2.2.2.1,p.2.2.2.2)
def flC(c:Ln):Ln:=(-c.1,c.2.1,c.2.2)
def c9(c:Cv)(p q:Pt):Int:=bif c.1 then(bif cwC c then jZ aW (ptd (flC (ciC c)) (flP (frC c))) (ptd (flC (ciC c)) (flP p)) (ptd (flC (ciC c)) (flP q))else jZ aW (ptd (ciC c) (frC c)) (ptd (ciC c) p) (ptd (ciC c) q))
 else(bif decide (aX (frC c) (toC c)>0)then-aX p q else aX p q)
def onR(c:Cv)(p:Pt):Bool:=gi c p&&(decide (c9 c (frC c) p≤0)&&decide (c9 c p (toC c)≤0))
theorem OU(k:Nat){c:BCU}(h:okC k c):okC k (sh c):=⟨h.1,h.2.1,h.2.2.2,h.2.2.1⟩
theorem wb(p q:Pt): -1≤aX p q∧aX p q≤1:=by
 unfold aX;cases aW (xP p) (xP q)==0
 ·exact vT _ _
 ·exact vT _ _
theorem JL{p q:Bool×Rt}:0≤oo aW p q∧oo aW p q≤2:=by
 unfold oo;cases rH aW q p==0<;>cases decide (rH aW q p>0)<;>simp only[cond_true,cond_false]<;>omega
def xw(c:BCU):BCU:=(c.1,c.2.1,(ak (-ag c.2.2.1.1),c.2.2.1.2),!c.2.2.2.1,enc (flP (dec c.2.2.2.2.1)),enc (flP (dec c.2.2.2.2.2)))
instance ami {p:Pt} [h:Rpd p]:Rpd (flP p):=by
 refine⟨?_⟩;have:=h.rd;unfold Fv flP at*;simp only;have e:(-p.2.1=0)↔p.2.1=0:=by constructor<;>intro h<;>grind
 rw[e];exact this
instance amn {p:Pt} {j:Nat} [h:Bd p j]:Bd (flP p) j:=by
 have i1:Bd ((-p.1,-p.2.1,p.2.2.1,p.2.2.2.1,p.2.2.2.2):Pt) _:=inferInstance;exact i1.mono (cK (by omega) (cK (by omega) (cK (by omega) (cK (by omega) (by omega)))))
theorem qB{j k:Nat}{x:BP}(h:okP j x)(hj:j≤k)(hk:k≤480000):okP k x:=by
 obtain⟨p,rfl,bp,rp⟩:=aZ h;exact amH (aI hj hk)
theorem JQ{j k:Nat}{c:BCU}(h:okC j c)(hj:j≤k)(hk:k≤480000):okC k c:=⟨h.1,h.2.1,qB h.2.2.1 hj hk,qB h.2.2.2 hj hk⟩
theorem Gp{x:BP}(h:okP 4000 x):okP 4000 (enc (flP (dec x))):=by
 obtain⟨p,rfl,bp,rp⟩:=aZ h;rw[az];exact amH (aI (x:=flP p) (by decide) (by decide))
theorem aed{x:BO3}(h:ok Ln 300 x):ok Ln 300 ((ak (-ag x.1),x.2):BO3)∧(dec ((ak (-ag x.1),x.2):BO3):Ln)=flC (dec x):=by
 obtain⟨l,rfl,bl⟩:=aB h
 have e:((ak (-ag (enc l:BO3).1),(enc l:BO3).2):BO3)=enc (flC l):=by
  rw[tb,dN,ck];rfl
 rw[e,az,az];refine⟨?_,rfl⟩;have i1:Bd (flC l) 300:=(inferInstance:Bd ((-l.1,l.2.1,l.2.2):Ln) _).mono (by decide);exact amH (okd (x:=flC l) (amK _) (by decide))
def zs:List En:=[enL o8,enT Bx,enT Ba,enL YD,enL W4,enT xL,enT aeu,enT act]
def aan(c:BCU)(p:BP)(_k:KT):OLR:=match c.1 with|true=>(og (decide (ok Ln 300 c.2.2.1∧okP 3500 p)) (some [RV.d .bool ((oz (dec c.2.2.1) (dec p))==0)]))|false=>(og (decide (ok Ln 300 c.2.1∧okP 4000 p)) (some [RV.d .bool ((sO (dec c.2.1) (dec p))==0)]))
def agp:Cn 150 [tCU,tP]:=cn fun(c:BCU) (p:BP)=>lf (okC 3500 c∧okP 3500 p) [.d .bool (gi (dC c) (dec p))] fun h=>by
 refine aA zs (aan c p) ⟨0,?_⟩;obtain⟨hc,hp⟩:=h;have op:decide (okP 3500 p)=true:=amE hp;have op4:decide (okP 4000 p)=true:=amE (qB hp (by decide) (by decide));obtain⟨ar,li,ci,cw,fr,to⟩:=c;obtain⟨c1,c2,_⟩:=hc;unfold aan;cases ar
 ·have e:=(c2 rfl).1;simp only[aoz,dT e,op4,aoa];rfl
 ·have e:=(c1 rfl).1;simp only[aoz,dT e,op,aoa];rfl
def aaj(c:BO3)(p:BP)(_k:KT):OLR:=og (decide (okP 4000 p)) (og (decide (okT 15000 (hid (enc (yP (dec p))))∧ok Rat 15000 c.2.1)) (match decide ((fq (dec (hid (enc (yP (dec p))))) (ag c.2.1))>0)with|true=>some [RV.d .bool true]|false=>(match(fq (dec (hid (enc (yP (dec p))))) (ag c.2.1))==0 with|true=>(og (decide (okP 4000 p)) (og (decide (okT 15000 (hid (enc (xP (dec p))))∧ok Rat 15000 c.1)) (some [RV.d .bool (decide ((fq (dec (hid (enc (xP (dec p))))) (ag c.1))>0))])))|false=>some [RV.d .bool false])))
def ahp:Cn 320 [tO,tP]:=cn fun(c:BO3) (p:BP)=>lf (ok Ln 300 c∧okP 4000 p) [.d .bool (upR (dec c) (dec p))] fun h=>by
 refine aA zs (aaj c p) ⟨0,?_⟩;obtain⟨hc,hp⟩:=h;obtain⟨c,rfl,bc⟩:=aB hc;obtain⟨p,rfl,bp,rp⟩:=aZ hp;unfold aaj upR;simp only[aO,Nat.reduceLeDiff,aH,aI];cases decide (fq (yP p) c.2.1>0)<;>cases fq (yP p) c.2.1==0<;>rfl
def aaT(p:BP)(_k:KT):OLR:=og (o1 p.1) (og (o1 p.2.1) (some [RV.d tP (hNe p.1,(hNe p.2.1,p.2.2))]))
def aiU:Cn 155 [tP]:=cn fun(p:BP)=>lf (okP 4000 p) [.d tP (enc (flP (dec p)))] fun h=>by
 refine aA zs (aaT p) ⟨0,?_⟩;have hp:=h;obtain⟨p,rfl,bp,rp⟩:=aZ hp;unfold aaT;simp only[aO,Nat.reduceLeDiff];rfl
def ae7:Ctx:=CX (ens zs) []
def ahs(c:BCU)(_k:KT):OLR:=match c.1 with|true=>some [RV.d tCU (c.1,(c.2.1,(c.2.2.1,(!c.2.2.2.1,(c.2.2.2.2.2,c.2.2.2.2.1)))))]|false=>some [RV.d tCU (c.1,(c.2.1,(c.2.2.1,(false,(c.2.2.2.2.2,c.2.2.2.2.1)))))]
theorem aiW(c:BCU):RS ae7 16 [.d tCU c] (ahs c):=rsX
def QS:Cn 16 [tCU]:=cn fun(c:BCU)=>lf True [.d tCU (sh c)] fun _=>by
 refine c8 zs (aiW _ ⟨0,?_⟩);obtain⟨ar,li,ci,cw,fr,to⟩:=c;cases ar<;>rfl
def LO:List En:=enT agp::enT ahp::enL aiU::enL QS::zs
def YA(c:BO3)(p q:BP)(_k:KT):OLR:=og (decide (ok Ln 300 c∧okP 4000 p)) (og (decide (ok Ln 300 c∧okP 4000 q)) (match !((upR (dec c) (dec p))==(upR (dec c) (dec q)))with|true=>(match upR (dec c) (dec q)with|true=>some [RV.d apY (-1)]|false=>some [RV.d apY 1])|false=>(og (decide (okP 4000 p)) (og (decide (okP 4000 q)) (og (decide (okT 15000 (hid (enc (xP (dec p))))∧okT 15000 (hid (enc (xP (dec q)))))) (match upR (dec c) (dec p)with|true=>some [RV.d apY (i64.wrap (0-(aW (dec (hid (enc (xP (dec p))))) (dec (hid (enc (xP (dec q))))))))]|false=>some [RV.d apY (aW (dec (hid (enc (xP (dec p))))) (dec (hid (enc (xP (dec q))))))]))))))
def aeY:Cn 261 [tO,tP,tP]:=cn fun(c:BO3) (p q:BP)=>lf (ok Ln 300 c∧okP 4000 p∧okP 4000 q) [.d apY (jP aW (ptd (dec c) (dec p)) (ptd (dec c) (dec q)))] fun h=>by
 refine aA LO (YA c p q) ⟨0,?_⟩;obtain⟨hc,hp,hq⟩:=h;obtain⟨c,rfl,bc⟩:=aB hc;obtain⟨p,rfl,bp,rp⟩:=aZ hp;obtain⟨q,rfl,bq,rq⟩:=aZ hq;have xb:=vT (xP p) (xP q);unfold YA;simp only[aO,Nat.reduceLeDiff,aH,aI,aT (x:= -aW (xP p) (xP q)) (by omega) (by omega),aox];unfold jP ptd;cases upR c p<;>cases upR c q<;>rfl
def XP(c:BCU)(_k:KT):OLR:=match decide (okR c.2.2.1.1)with|true=>(match decide (okP 4000 c.2.2.2.2.1)with|true=>(match decide (okP 4000 c.2.2.2.2.2)with|true=>some [RV.d tCU (c.1,(c.2.1,((hNe c.2.2.1.1,c.2.2.1.2),(!c.2.2.2.1,(hid (enc (flP (dec c.2.2.2.2.1))),hid (enc (flP (dec c.2.2.2.2.2))))))))]|false=>none)|false=>none)|false=>none
def ajG:Cn 154 [tCU]:=cn fun(c:BCU)=>lf (nE c.2.2.1∧okP 4000 c.2.2.2.2.1∧okP 4000 c.2.2.2.2.2) [.d tCU (xw c)] fun h=>by
 refine aA LO (XP c) ⟨0,?_⟩;obtain⟨hc,hf,ht⟩:=h
 have e:okR c.2.2.1.1:=by
  obtain⟨l,hl,bl⟩:=aB hc.1;rw[hl,tb,dN];exact amH (HO (q:=l.1) (by decide))
 unfold XP;rw[dT e,dT hf,dT ht];simp only[bK];rfl
def YX:List En:=enT aeY::enL ajG::LO
def XW(c:BO3)(f p q:BP)(_k:KT):OLR:=og (decide (ok Ln 300 c∧okP 4000 p∧okP 4000 f)) (og (decide (ok Ln 300 c∧okP 4000 q∧okP 4000 f)) (match !((decide ((jP aW (ptd (dec c) (dec p)) (ptd (dec c) (dec f)))<0))==(decide ((jP aW (ptd (dec c) (dec q)) (ptd (dec c) (dec f)))<0)))with|true=>(match decide ((jP aW (ptd (dec c) (dec q)) (ptd (dec c) (dec f)))<0)with|true=>some [RV.d apY (-1)]|false=>some [RV.d apY 1])|false=>(og (decide (ok Ln 300 c∧okP 4000 p∧okP 4000 q)) (some [RV.d apY (jP aW (ptd (dec c) (dec p)) (ptd (dec c) (dec q)))]))))
def agZ:Cn 153 [tO,tP,tP,tP]:=cn fun(c:BO3) (f p q:BP)=>lf (ok Ln 300 c∧okP 4000 f∧okP 4000 p∧okP 4000 q) [.d apY (jZ aW (ptd (dec c) (dec f)) (ptd (dec c) (dec p)) (ptd (dec c) (dec q)))] fun h=>by
 refine aA YX (XW c f p q) ⟨0,?_⟩;obtain⟨hc,hf,hp,hq⟩:=h;unfold XW jZ;rw[dT (show ok Ln 300 c∧okP 4000 p∧okP 4000 f from⟨hc,hp,hf⟩),dT (show ok Ln 300 c∧okP 4000 q∧okP 4000 f from⟨hc,hq,hf⟩),dT (show ok Ln 300 c∧okP 4000 p∧okP 4000 q from⟨hc,hp,hq⟩)];cases decide (jP aW (ptd (dec c) (dec p)) (ptd (dec c) (dec f))<0)<;>cases decide (jP aW (ptd (dec c) (dec q)) (ptd (dec c) (dec f))<0)<;>rfl
def aao:List En:=enT agZ::YX
def WN(c:BCU)(p q:BP)(_k:KT):OLR:=match !c.1 with|true=>(og (decide (okP 4000 p∧okP 4000 q)) (og (decide (okP 4000 c.2.2.2.2.1∧okP 4000 c.2.2.2.2.2)) (match decide ((aX (dec c.2.2.2.2.1) (dec c.2.2.2.2.2))>0)with|true=>some [RV.d apY (i64.wrap (0-(aX (dec p) (dec q))))]|false=>some [RV.d apY (aX (dec p) (dec q))])))|false=>(match !c.2.2.2.1 with|true=>(og (decide (ok Ln 300 c.2.2.1∧okP 4000 c.2.2.2.2.1∧okP 4000 p∧okP 4000 q)) (some [RV.d apY (jZ aW (ptd (dec c.2.2.1) (dec c.2.2.2.2.1)) (ptd (dec c.2.2.1) (dec p)) (ptd (dec c.2.2.1) (dec q)))]))|false=>(og (decide (nE c.2.2.1∧okP 4000 c.2.2.2.2.1∧okP 4000 c.2.2.2.2.2)) (og (decide (okP 4000 p)) (og (decide (okP 4000 q)) (og (decide (ok Ln 300 ((((hid (xw c)).2).2).1)∧okP 4000 ((((((hid (xw c)).2).2).2).2).1)∧okP 4000 (hid (enc (flP (dec p))))∧okP 4000 (hid (enc (flP (dec q)))))) (some [RV.d apY (jZ aW (ptd (dec ((((hid (xw c)).2).2).1)) (dec ((((((hid (xw c)).2).2).2).2).1))) (ptd (dec ((((hid (xw c)).2).2).1)) (dec (hid (enc (flP (dec p)))))) (ptd (dec ((((hid (xw c)).2).2).1)) (dec (hid (enc (flP (dec q)))))))]))))))
def IB:Cn 61 [tCU,tP,tP]:=cn fun(c:BCU) (p q:BP)=>lf (okC 4000 c∧okP 4000 p∧okP 4000 q) [.d apY (c9 (dC c) (dec p) (dec q))] fun h=>by
 refine aA aao (WN c p q) ⟨0,?_⟩;obtain⟨hc,hp,hq⟩:=h;have xb:=wb (dec p) (dec q);obtain⟨ar,li,ci,cw,fr,to⟩:=c;obtain⟨c1,c2,c3,c4⟩:=hc;simp only at c1 c2 c3 c4;unfold WN c9;cases ar
 ·simp only[aox,aT (x:= -aX (dec p) (dec q)) (by omega) (by omega),dT (show okP 4000 p∧okP 4000 q from⟨hp,hq⟩),dT (show okP 4000 fr∧okP 4000 to from⟨c3,c4⟩),Bool.not_false];simp only[dC,frC,toC,cond_false];by_cases hd:aX (dec fr) (dec to)>0
  ·simp[hd]
  ·simp[hd]
 ·have e:=(c1 rfl).1;have hci:=c1 rfl;obtain⟨f1,f2⟩:=aed e;cases cw
  ·simp only[dT (show ok Ln 300 ci∧okP 4000 fr∧okP 4000 p∧okP 4000 q from⟨e,c3,hp,hq⟩),Bool.not_true,Bool.not_false];rfl
  ·have hm:ok Ln 300 (xw (true,li,ci,true,fr,to)).2.2.1∧okP 4000 (xw (true,li,ci,true,fr,to)).2.2.2.2.1∧okP 4000 (enc (flP (dec p)))∧okP 4000 (enc (flP (dec q))):=⟨f1,Gp c3,Gp hp,Gp hq⟩
   have m1:(dec (xw (true,li,ci,true,fr,to)).2.2.1:Ln)=flC (dec ci):=f2;have m2:(dec (xw (true,li,ci,true,fr,to)).2.2.2.2.1:Pt)=flP (dec fr):=az _;simp only[bK,dT (show nE ci∧okP 4000 fr∧okP 4000 to from⟨hci,c3,c4⟩),dT hp,dT hq,dT hm,Bool.not_true,m1,m2,az];rfl
def aiY:List En:=enT IB::aao
def Zz(c:BCU)(p:BP)(_k:KT):OLR:=og (decide (okC 3500 c∧okP 3500 p)) (match gi (dC c) (dec p)with|true=>(og (decide (okC 4000 c∧okP 4000 c.2.2.2.2.1∧okP 4000 p)) (match decide ((c9 (dC c) (dec c.2.2.2.2.1) (dec p))≤0)with|true=>(og (decide (okC 4000 c∧okP 4000 p∧okP 4000 c.2.2.2.2.2)) (some [RV.d .bool (decide ((c9 (dC c) (dec p) (dec c.2.2.2.2.2))≤0))]))|false=>some [RV.d .bool false]))|false=>some [RV.d .bool false])
def Ek:Cn 58 [tCU,tP]:=cn fun(c:BCU) (p:BP)=>lf (okC 3500 c∧okP 3500 p) [.d .bool (onR (dC c) (dec p))] fun h=>by
 refine aA aiY (Zz c p) ⟨0,?_⟩;obtain⟨hc,hp⟩:=h;have hc4:=JQ (k:=4000) hc (by decide) (by decide);have hp4:=qB (k:=4000) hp (by decide) (by decide);unfold Zz onR;rw[dT (show okC 3500 c∧okP 3500 p from⟨hc,hp⟩),dT (show okC 4000 c∧okP 4000 c.2.2.2.2.1∧okP 4000 p from⟨hc4,hc4.2.2.1,hp4⟩),dT (show okC 4000 c∧okP 4000 p∧okP 4000 c.2.2.2.2.2 from⟨hc4,hp4,hc4.2.2.2⟩)];cases gi (dC c) (dec p)
 ·rfl
 ·show(match decide (c9 (dC c) (frC (dC c)) (dec p)≤0)with|true=>some [RV.d .bool (decide (c9 (dC c) (dec p) (toC (dC c))≤0))]|false=>some [RV.d .bool false])=_;cases decide (c9 (dC c) (frC (dC c)) (dec p)≤0)<;>rfl
section
namespace RE
theorem JF{u v:RE}:cls u v=2↔v=0∧¬0<u:=by
 unfold cls;rcases bh v with⟨a,h1⟩|⟨a,h1⟩|⟨a,h1⟩<;>rcases bh u with⟨b,h2⟩|⟨b,h2⟩|⟨b,h2⟩<;>rw[h1,h2]
 all_goals first
  |exact⟨fun _=>⟨a,fun h=>by rw[b]at h;exact lt_irrefl _ h⟩,fun _=>rfl⟩
  |exact⟨fun _=>⟨a,fun h=>lt_irrefl _ (cO h b)⟩,fun _=>rfl⟩
  |(refine⟨fun h=>absurd h (by decide),fun h=>?_⟩;first|(rw[h.1]at a;exact absurd a (lt_irrefl _))|exact absurd b h.2)
theorem uc{u v Q:RE}(hQ:0<Q)(h:u*u+v*v=Q)(hv:v=0)(hu:¬0<u):u<0:=by
 rcases mW u 0 with e|e|e
 ·exact e
 ·rw[e,hv,mul_zero,add_zero]at h;rw[←h]at hQ;exact absurd hQ (lt_irrefl _)
 ·exact absurd e hu
theorem J8(u w Q:RE):((u-(0))*(u-(w)))+((w-(0))*(u-(w)))+((Q-(u*u)))+((w*w-(Q)))=0:=by grind
theorem Ir(u w Q:RE)(h1:u*u=Q)(h2:w*w=Q)(h3:0<u)(h4:0<w):u≤w:=fun hg=>far (aK (aK (aK (mul_pos (aL h3) (aL hg)) (le_of_lt (mul_pos (aL h4) (aL hg)))) (aF (ob h1))) (aF (ls h2))) (J8 u w Q)
theorem JY(u w Q:RE):((0-(u))*(u-(w)))+((0-(w))*(u-(w)))+((u*u-(Q)))+((Q-(w*w)))=0:=by grind
theorem JI(u w Q:RE)(h1:u*u=Q)(h2:w*w=Q)(h3:u<0)(h4:w<0):u≤w:=fun hg=>far (aK (aK (aK (mul_pos (aL h3) (aL hg)) (le_of_lt (mul_pos (aL h4) (aL hg)))) (aF (ls h1))) (aF (ob h2))) (JY u w Q)
theorem CW(x y c:RE)(h1:x-c<y-c):x<y:=by grind
theorem JM(x y c:RE)(h1:x-c=y-c):x≤y:=by grind
theorem Kh(x y c:RE)(h1:x-c=y-c):y≤x:=by grind
theorem jI(x y c:RE)(h1:x-c=y-c):x=y:=le_antisymm (JM x y c h1) (Kh x y c h1)
theorem CO(x c:RE): -x- -c= -(x-c):=by grind
theorem T2(x y:RE): -x- -y=y-x:=by grind
theorem aeh(a b r:RE): -a+ -b*r= -(a+b*r):=by grind
theorem L9(x q:RE)(h1:x+ -q=0):x≤q:=by grind
theorem Ob(x q:RE)(h1:x+ -q=0):q≤x:=by grind
theorem JA(x q:RE)(h1:x+ -q=0):x=q:=le_antisymm (L9 x q h1) (Ob x q h1)
section
variable {x y x' y' cx cy Q:RE}
theorem dg(hQ:0<Q)(h:(x-cx)*(x-cx)+(y-cy)*(y-cy)=Q)(h':(x'-cx)*(x'-cx)+(y'-cy)*(y'-cy)=Q){L:List RE}(hx:x∈L)(hx':x'∈L):
  mO (cls (x-cx) (y-cy)) (rk (fun a b:RE=>a<b) L x) (cls (x'-cx) (y'-cy)) (rk (fun a b:RE=>a<b) L x')=true:=by
 unfold mO;rw[amI];have vv:∀{u v:RE},u*u+v*v=Q→v=0→u*u=Q:=fun h e=>by rw[e,mul_zero,add_zero]at h;exact h
 refine⟨?_,?_⟩
 ·by_cases e:cls (x-cx) (y-cy)=0
  ·obtain⟨e1,e2⟩:=Jm.1 e;rw[e];by_cases e':cls (x'-cx) (y'-cy)=0
   ·obtain⟨f1,f2⟩:=Jm.1 e';rw[e'];have:=jI _ _ cx (le_antisymm (Ir _ _ _ (vv h e1) (vv h' f1) e2 f2) (Ir _ _ _ (vv h' f1) (vv h e1) f2 e2));rw[this];simp
   ·have hle:=abo _ _ _ _ _ h h' e1 e2 (gh (y'-cy))
    have hlt:x'-cx<x-cx:=by
     rcases mW (x'-cx) (x-cx)with g|g|g
     ·exact g
     ·exfalso;have z:=NY (x-cx) (x'-cx) (y'-cy) Q (vv h e1) h' (by rw[g]);exact e' (Jm.2 ⟨vZ z,by rw[g];exact e2⟩)
     ·exact absurd g ((BA _ _).1 hle)
    have:=ED lt_lin (CW _ _ _ hlt) hx';rw[show(cls (x'-cx) (y'-cy)==0)=false by simp[e']];simp[this]
  ·simp[e]
 ·by_cases e:cls (x-cx) (y-cy)=2
  ·obtain⟨e1,e2⟩:=JF.1 e;have e3:=uc hQ h e1 e2;rw[e];by_cases e':cls (x'-cx) (y'-cy)=2
   ·obtain⟨f1,f2⟩:=JF.1 e';have f3:=uc hQ h' f1 f2;rw[e'];have:=jI _ _ cx (le_antisymm (JI _ _ _ (vv h e1) (vv h' f1) e3 f3) (JI _ _ _ (vv h' f1) (vv h e1) f3 e3));rw[this];simp
   ·have hle:=aeD _ _ _ _ _ h h' e1 e3 (gh (y'-cy))
    have hlt:x-cx<x'-cx:=by
     rcases mW (x-cx) (x'-cx)with g|g|g
     ·exact g
     ·exfalso;have z:=NY (x-cx) (x'-cx) (y'-cy) Q (vv h e1) h' (by rw[g]);exact e' (JF.2 ⟨vZ z,by rw[←g];exact e2⟩)
     ·exact absurd g ((BA _ _).1 hle)
    have:=ED lt_lin (CW _ _ _ hlt) hx;rw[show(cls (x'-cx) (y'-cy)==2)=false by simp[e']];simp[this]
  ·simp[e]
end
def onCi(c:Ln)(p:Pt):Prop:=(pX p-of c.1)*(pX p-of c.1)+(pY p-of c.2.1)*(pY p-of c.2.1)=of c.2.2
theorem ins_on{c:Ln}{p:Pt}[Rpd p](h:oz c p=0):onCi c p:=by
 rw[AE]at h;exact JA _ _ (oZ.1 (Int.neg_eq_zero.1 h))
theorem gU{c:Ln}{p:Pt}[Rpd p]:upR c p=upA (cls (pX p-of c.1) (pY p-of c.2.1)):=by
 unfold upR;rw[cmpTR_re HY,cmpTR_re ln,sG,S7,ad9]
theorem Ed(p:Pt):pX (flP p)= -pX p:=by
 unfold pX flP v2;rw[of_neg,of_neg];exact aeh _ _ _
theorem ajz(p:Pt):pY (flP p)=pY p:=rfl
theorem vh{c:Ln}{p:Pt}[h:Rpd p](hQ:0<c.2.2)(hp:onCi c p):upR (flC c) (flP p)=ufA (cls (pX p-of c.1) (pY p-of c.2.1)):=by
 unfold upR;rw[cmpTR_re HY,cmpTR_re ln,sG,S7,Ed,ajz];show(decide (sg (pY p-of c.2.1)>0)||(sg (pY p-of c.2.1)==0&&decide (sg (-pX p-of (-c.1))>0)))=_;rw[of_neg,CO,o0];exact acz (ik hQ) hp
theorem fd{L:List RE}{p q:Pt}[Rpd p][Rpd q](hp:pX p∈L)(hq:pX q∈L):aW (xP p) (xP q)=cI (rk (fun a b:RE=>a<b) L (pX p)) (rk (fun a b:RE=>a<b) L (pX q)):=by
 rw[cmpT_re ln ln,sG,sG];exact rE lt_lin sg_cmpO hp hq
theorem nS{L:List RE}{p q:Pt}[Rpd p][Rpd q](hp:pX p∈L)(hq:pX q∈L):aW (xP (flP p)) (xP (flP q))=dI (rk (fun a b:RE=>a<b) L (pX p)) (rk (fun a b:RE=>a<b) L (pX q)):=by
 rw[cmpT_re ln ln,sG,sG,Ed,Ed,T2];exact rE lt_lin sg_cmpO hq hp
theorem arc_eq{ci:Ln}{F P T:Pt}[Rpd F][Rpd P][Rpd T](hQ:0<ci.2.2)(hF:onCi ci F)(hP:onCi ci P)(hT:onCi ci T):
  decide (gu aW (ptd ci F) (ptd ci P) (ptd ci T)≤0)=(decide (jZ aW (ptd ci F) (ptd ci F) (ptd ci P)≤0)&&decide (jZ aW (ptd ci F) (ptd ci P) (ptd ci T)≤0))∧
  decide (gu aW (ptd ci T) (ptd ci P) (ptd ci F)≤0)=(decide (jZ aW (ptd (flC ci) (flP F)) (ptd (flC ci) (flP F)) (ptd (flC ci) (flP P))≤0)&&decide (jZ aW (ptd (flC ci) (flP F)) (ptd (flC ci) (flP P)) (ptd (flC ci) (flP T))≤0)):=by
 have mF:pX F∈[pX F,pX P,pX T]:=by simp
 have mP:pX P∈[pX F,pX P,pX T]:=by simp
 have mT:pX T∈[pX F,pX P,pX T]:=by simp
 have hq:0<of ci.2.2:=ik hQ;have bF:=iE lt_lin mF;have bP:=iE lt_lin mP;have bT:=iE lt_lin mT;have cF:=gT (pX F-of ci.1) (pY F-of ci.2.1);have cP:=gT (pX P-of ci.1) (pY P-of ci.2.1);have cT:=gT (pX T-of ci.1) (pY T-of ci.2.1)
 have hcon:Fq (cls (pX F-of ci.1) (pY F-of ci.2.1)) (rk (fun a b:RE=>a<b) [pX F,pX P,pX T] (pX F)) (cls (pX P-of ci.1) (pY P-of ci.2.1)) (rk (fun a b:RE=>a<b) [pX F,pX P,pX T] (pX P)) (cls (pX T-of ci.1) (pY T-of ci.2.1)) (rk (fun a b:RE=>a<b) [pX F,pX P,pX T] (pX T))=true:=by
  unfold Fq;rw[dg hq hF hP mF mP,dg hq hP hF mP mF,dg hq hF hT mF mT,dg hq hT hF mT mF,dg hq hP hT mP mT,dg hq hT hP mT mP];rfl
 have a1:=Tq ⟨_,cF⟩ ⟨_,cP⟩ ⟨_,cT⟩ ⟨_,bF⟩ ⟨_,bP⟩ ⟨_,bT⟩ hcon;have a2:=acd ⟨_,cF⟩ ⟨_,cP⟩ ⟨_,cT⟩ ⟨_,bF⟩ ⟨_,bP⟩ ⟨_,bT⟩ hcon;simp only at a1 a2;refine⟨?_,?_⟩
 ·unfold ptd;rw[gU,gU,gU,gN (fd mP mF) (fd mT mF) (fd mP mT),fR (fd mF mF) (fd mP mF) (fd mF mP),fR (fd mP mF) (fd mT mF) (fd mP mT)];exact a1
 ·unfold ptd;rw[gU,gU,gU,vh hQ hF,vh hQ hP,vh hQ hT,gN (fd mP mT) (fd mF mT) (fd mP mF),fR (nS mF mF) (nS mP mF) (nS mF mP),fR (nS mP mF) (nS mT mF) (nS mP mT)];exact a2
theorem seg_eq{F P T:Pt}[Rpd F][Rpd P][Rpd T]:vc (aX F P) (aX P T)=ajU (aX F T) (aX F P) (aX P T):=by
 have mF:pR F∈[pR F,pR P,pR T]:=by simp
 have mP:pR P∈[pR F,pR P,pR T]:=by simp
 have mT:pR T∈[pR F,pR P,pR T]:=by simp
 rw[jm,jm,jm,rE jR ie mF mP,rE jR ie mP mT,rE jR ie mF mT];exact BG ⟨_,iE jR mF⟩ ⟨_,iE jR mP⟩ ⟨_,iE jR mT⟩
end RE
structure Crv (c:Cv):Prop where
 f:Rpd (frC c)
 t:Rpd (toC c)
 q:c.1=true→0<(ciC c).2.2∧RE.onCi (ciC c) (frC c)∧RE.onCi (ciC c) (toC c)
theorem Xt{c:Cv}(h:Crv c){p:Pt}(hp:Rpd p):onP c p=onR c p:=by
 have hf:=h.f;have ht:=h.t;unfold onP onR;cases hs:gi c p
 ·rfl
 ·simp only[anU];unfold gZ c9;obtain⟨ar,li,ci,cw,fr,to⟩:=c;have hf:Rpd fr:=hf;have ht:Rpd to:=ht;cases ar
  ·exact RE.seg_eq (F:=fr) (P:=p) (T:=to)
  ·obtain⟨q1,q2,q3⟩:=h.q rfl
   have hi:oz ci p=0:=by
    have:(oz ci p==0)=true:=hs;exact anE.1 this
   obtain⟨e1,e2⟩:=RE.arc_eq (ci:=ci) (F:=fr) (P:=p) (T:=to) q1 q2 (RE.ins_on hi) q3;cases cw
   ·exact e1
   ·exact e2
end
def eU(l:Ln)(p:Pt):Rt:=mkR (-l.2.1*p.1+l.1*p.2.2.1) (-l.2.1*p.2.1+l.1*p.2.2.2.1) p.2.2.2.2
def ti(c:Cv)(p:Pt):Bool:=
 bif decide (aW (eU (lnC c) (frC c)) (eU (lnC c) (toC c))>0)then decide (aW (eU (lnC c) (toC c)) (eU (lnC c) p)≤0)&&decide (aW (eU (lnC c) p) (eU (lnC c) (frC c))≤0)
 else decide (aW (eU (lnC c) (frC c)) (eU (lnC c) p)≤0)&&decide (aW (eU (lnC c) p) (eU (lnC c) (toC c))≤0)
def rg(a b:Rt):Rt:=bif decide (aW b a<0)then b else a
def zeV(v:Rat×Rat):Bool:=decide (v.1=0)&&decide (v.2=0)
def jO(c:Ln)(d:Rat×Rat):Pt:=mkP (mkR c.1 d.1 (c.2.2/aY d d)) (mkR c.2.1 d.2 (c.2.2/aY d d))
def co(c:Cv)(d:Rat×Rat):Bool:=bif c.1&&!(zeV d)then onP c (jO (ciC c) d)else c.1
def yV(c:Cv)(v:Rat×Rat):Rt:=rg (sqP (frC c) v) (sqP (toC c) v)
def bW(c:Cv)(v:Rat×Rat):Rat×Rat:=bi (ctr (ciC c)) v
def ow(c:Cv)(v:Rat×Rat):Rt:=
 bif c.1 then(bif co c (bW c v)then mkR (aY (bW c v) (bW c v)+(ciC c).2.2) (-2) (aY (bW c v) (bW c v)*(ciC c).2.2)else yV c v)
 else(bif ti c (atP v)then(aY (bi v (dp (lnC c) v)) (bi v (dp (lnC c) v)),0,0)else yV c v)
def qY(c:Cv)(v:Rat×Rat)(r:Rat):Int:=bif decide (r<0)then 1 else fq (ow c v) (r*r)
instance Nr {l:Ln} {p:Pt} [h:Rpd p]:Rdd (eU l p):=by
 have:Nn p.2.2.2.2:=inferInstance;exact pO
instance akG {l:Ln} {p:Pt} {i j:Nat} [h:Bd l i] [h':Bd p j] [hp:Rpd p]:Bd (eU l p) (4*i+4*j+5):=by
 have a1:Bd (-l.2.1*p.1+l.1*p.2.2.1) _:=inferInstance;have a2:Bd (-l.2.1*p.2.1+l.1*p.2.2.2.1) _:=inferInstance;exact(acn (a:= -l.2.1*p.1+l.1*p.2.2.1) (b:= -l.2.1*p.2.1+l.1*p.2.2.2.1) (c:=p.2.2.2.2)).mono (cK (by omega) (by omega))
theorem Qn(a b:Rt):rg a b=a∨rg a b=b:=by
 unfold rg;cases decide (aW b a<0)
 ·exact .inl rfl
 ·exact .inr rfl
instance Ld {a b:Rt} [h:Rdd a] [h':Rdd b]:Rdd (rg a b):=by
 rcases Qn a b with e|e<;>rw[e]<;>assumption
instance alt {a b:Rt} {i j:Nat} [h:Bd a i] [h':Bd b j]:Bd (rg a b) (mx i j):=by
 rcases Qn a b with e|e<;>rw[e]
 ·exact h.mono (Cw _ _)
 ·exact h'.mono (BX _ _)
theorem jT(d:Rat×Rat):0≤aY d d:=by
 unfold aY
 have h:∀a:Rat,0≤a*a:=fun a=>by
  rcases(by grind:0≤a∨0≤ -a)with h|h
  ·exact amU h h
  ·have:=amU h h;grind
 have:=h d.1;have:=h d.2;grind
theorem uK{d:Rat×Rat}(h:zeV d=false):aY d d≠0:=by
 refine lI ?_;unfold zeV at h;by_cases e:d.1=0
 ·rw[amE e,anU]at h;exact .inr (anw h)
 ·exact .inl e
theorem nJ(a b d e s:Rat):sW (mkR a d s) (mkR b e s):=by
 unfold sW mkR;cases fA s
 ·simp only[cond_false];by_cases hd:d=0
  ·rw[amE hd];exact .inl rfl
  ·by_cases he:e=0
   ·rw[amE he];exact .inr (.inl rfl)
   ·rw[amG hd,amG he];exact .inr (.inr rfl)
 ·exact .inl rfl
theorem Gh{a b:Rat}(ha:0≤a)(hb:0≤b):0≤a/b:=by
 by_cases h0:b=0
 ·rw[h0,aph,Rat.inv_zero,Rat.mul_zero];exact Rat.le_refl
 ·rcases(by grind:0≤a/b∨0< -(a/b))with h|h
  ·exact h
  ·have h1:=am6 h (show 0<b by grind);have h2:a/b*b=a:=anf h0;grind
class Cir (c:Ln):Prop where q:0<c.2.2
instance RA {c:Ln} {d:Rat×Rat} [h:Cir c]:Nn (c.2.2/aY d d):=⟨Gh (by have:=h.q;grind) (jT d)⟩
instance ack {c:Ln} {d:Rat×Rat} [h:Cir c]:Rpd (jO c d):=XE pO pO (nJ _ _ _ _ _)
instance Uq {c:Ln} {d:Rat×Rat} [h:Cir c]:Nn (aY d d*c.2.2):=⟨amU (jT d) (by have:=h.q;grind)⟩
instance akr {c:Ln} {d:Rat×Rat} {i j:Nat} [h:Bd c i] [h':Bd d j]:Bd (jO c d) (2*i+5*j+2):=by
 have s1:Bd (c.2.2/aY d d) _:=inferInstance;have a1:Bd (mkR c.1 d.1 (c.2.2/aY d d)) _:=inferInstance;have a2:Bd (mkR c.2.1 d.2 (c.2.2/aY d d)) _:=inferInstance;have b1:=a1.mono (k:=2*i+5*j+2) (by omega);have b2:=a2.mono (k:=2*i+5*j+2) (by omega);have e:∀n,mx n n=n:=fun n=>by unfold mx;rw[amE (amK n)];rfl
 exact(adc (h:=b1) (h':=b2)).mono (by
  simp only[e];refine cK (by omega) (cK (by omega) (cK (by omega) (cK (by omega) (cK (by omega) (by omega))))))
def Tp(d a b a' b':Int):Bool:=bif decide (d>0)then decide (b'≤0)&&decide (a'≤0)else decide (a≤0)&&decide (b≤0)
theorem VR:∀f p t:Fin 3,vc (cI f.1 p.1) (cI p.1 t.1)=Tp (cI f.1 t.1) (cI f.1 p.1) (cI p.1 t.1) (cI p.1 f.1) (cI t.1 p.1):=by decide+kernel
theorem UP(a b:Int):vc (-a) (-b)=vc a b:=by
 unfold vc;have e1:(-a==0)=(a==0):=aoC.2 (by simp only[anE];omega);have e2:(-b==0)=(b==0):=aoC.2 (by simp only[anE];omega);have e3:(-a== -b)=(a==b):=aoC.2 (by simp only[anE];omega);rw[e1,e2,e3]
namespace RE
theorem SF(a b x s y t r:RE): -b*x+a*y+(-b*s+a*t)*r= -b*(x+s*r)+a*(y+t*r):=by grind
theorem agT(a b x y u w:RE):(a*a+b*b)*(x-u)= -b*(-b*x+a*y-(-b*u+a*w))+a*(a*x+b*y-(a*u+b*w)):=by grind
theorem ai0(a b x y u w:RE):(a*a+b*b)*(y-w)=a*(-b*x+a*y-(-b*u+a*w))+b*(a*x+b*y-(a*u+b*w)):=by grind
theorem Vq(a b c x y u w:RE)(h:a*x+b*y=c)(h':a*u+b*w=c):(a*a+b*b)*(x-u)= -b*(-b*x+a*y-(-b*u+a*w)):=by
 rw[agT a b x y u w,h,h',sub_self,mul_zero,add_zero]
theorem TP(a b c x y u w:RE)(h:a*x+b*y=c)(h':a*u+b*w=c):(a*a+b*b)*(y-w)=a*(-b*x+a*y-(-b*u+a*w)):=by
 rw[ai0 a b x y u w,h,h',sub_self,mul_zero,add_zero]
def tL(l:Ln)(p:Pt):RE:= -of l.2.1*pX p+of l.1*pY p
theorem Nz(l:Ln){p:Pt}[_h:Rpd p]:vR (eU l p)=tL l p:=by
 unfold eU tL pX pY;rw[vR_mk];unfold v2;simp only[of_add,aJ,of_neg];exact SF _ _ _ _ _ _ _
theorem tj{l:Ln}{p q:Pt}[Rpd p][Rpd q]:aW (eU l p) (eU l q)=sg (tL l p-tL l q):=by
 rw[cmpT_re (Nr (l:=l) (p:=p)).nn (Nr (l:=l) (p:=q)).nn,Nz,Nz]
def qK(l:Ln)(p:Pt):Prop:=of l.1*pX p+of l.2.1*pY p=of l.2.2
theorem E9{l:Ln}{p:Pt}[Rpd p](h:sO l p=0):qK l p:=by
 rw[BD]at h;exact JA _ _ (oZ.1 h)
theorem Sj{l:Ln}{p q:Pt}(hp:qK l p)(hq:qK l q):(of l.1*of l.1+of l.2.1*of l.2.1)*(pX p-pX q)= -of l.2.1*(tL l p-tL l q):=by
 unfold qK at hp hq;unfold tL;exact Vq _ _ _ _ _ _ _ hp hq
theorem P8{l:Ln}{p q:Pt}(hp:qK l p)(hq:qK l q):(of l.1*of l.1+of l.2.1*of l.2.1)*(pY p-pY q)=of l.1*(tL l p-tL l q):=by
 unfold qK at hp hq;unfold tL;exact TP _ _ _ _ _ _ _ hp hq
theorem Gv{a b:Rat}(h:a≠0∨b≠0):0<of a*of a+of b*of b:=by
 have h1:=lI h
 have h2:0≤a*a:=by
  rcases(by grind:0≤a∨0≤ -a)with h|h
  ·exact amU h h
  ·have:=amU h h;grind
 have h3:0≤b*b:=by
  rcases(by grind:0≤b∨0≤ -b)with h|h
  ·exact amU h h
  ·have:=amU h h;grind
 rw[←aJ,←aJ,←of_add];exact ik (by grind)
theorem LI{q:Rat}(h:q≠0):sg (of q)=1∨sg (of q)= -1:=by
 rw[sg_of];rcases(by grind:q<0∨0<q)with h'|h'
 ·exact .inr (dH h')
 ·exact .inl (dk h')
theorem Ls{l:Ln}(hl:l.1≠0∨l.2.1≠0):∃s:Int,(s=1∨s= -1)∧∀p q:Pt,Rpd p→Rpd q→qK l p→qK l q→aX p q=s*sg (tL l p-tL l q):=by
 have hn:=Gv hl;by_cases hb:l.2.1=0
 ·have ha:l.1≠0:=hl.resolve_right (fun h=>h hb);refine⟨sg (of l.1),LI ha,fun p q hp hq op oq=>?_⟩;rw[jm];unfold lxc pR;have e1:=Sj op oq;have e2:=P8 op oq;have s1:=congrArg sg e1;have s2:=congrArg sg e2;rw[dQ,dM hn,dQ,hb,ta,Do,dZ]at s1;rw[dQ,dM hn,dQ]at s2;rw[show sg (pX p-pX q)=0 by omega];show sg (pY p-pY q)=_;omega
 ·refine⟨-sg (of l.2.1),by rcases LI hb with h|h<;>rw[h]<;>simp,fun p q hp hq op oq=>?_⟩;rw[jm];unfold lxc pR;have e1:=Sj op oq;have e2:=P8 op oq;have s1:=congrArg sg e1;have s2:=congrArg sg e2;rw[dQ,dM hn,dQ,o0]at s1;rw[dQ,dM hn,dQ]at s2;rcases bh (tL l p-tL l q)with⟨_,h⟩|⟨_,h⟩|⟨_,h⟩<;>rw[h]at s1 s2 ⊢ <;>rcases LI hb with g|g<;>rw[g]at s1 ⊢
  all_goals
   simp only[anW,aoX,aoU,apt,Int.neg_neg]at s1 s2 ⊢;try rw[s1]
   try rw[s2]
   try rfl
theorem Qj{l:Ln}(hl:l.1≠0∨l.2.1≠0){F P T:Pt}[hF:Rpd F][hP:Rpd P][hT:Rpd T](oF:qK l F)(oP:qK l P)(oT:qK l T):
  vc (aX F P) (aX P T)=Tp (sg (tL l F-tL l T)) (sg (tL l F-tL l P)) (sg (tL l P-tL l T)) (sg (tL l P-tL l F)) (sg (tL l T-tL l P)):=by
 obtain⟨s,hs,h⟩:=Ls hl;have mF:tL l F∈[tL l F,tL l P,tL l T]:=by simp
 have mP:tL l P∈[tL l F,tL l P,tL l T]:=by simp
 have mT:tL l T∈[tL l F,tL l P,tL l T]:=by simp
 have e:vc (aX F P) (aX P T)=vc (sg (tL l F-tL l P)) (sg (tL l P-tL l T)):=by
  rw[h F P hF hP oF oP,h P T hP hT oP oT];rcases hs with rfl|rfl
  ·rw[anW,anW]
  ·rw[show(-1:Int)*sg (tL l F-tL l P)= -sg (tL l F-tL l P) by omega,show(-1:Int)*sg (tL l P-tL l T)= -sg (tL l P-tL l T) by omega,UP]
 have c:=fun{x y:RE} (hx:x∈[tL l F,tL l P,tL l T]) (hy:y∈[tL l F,tL l P,tL l T])=>rE lt_lin sg_cmpO hx hy;rw[e,c mF mP,c mP mT,c mF mT,c mP mF,c mT mP];exact VR ⟨_,iE lt_lin mF⟩ ⟨_,iE lt_lin mP⟩ ⟨_,iE lt_lin mT⟩
end RE
theorem Jb{l:Ln}(hl:l.1≠0∨l.2.1≠0)(v:Rat×Rat):l.1*(dp l v).1+l.2.1*(dp l v).2=l.2.2:=by
 have hn:=lI hl
 have he:mZ l v*(l.1*l.1+l.2.1*l.2.1)=l.1*v.1+l.2.1*v.2-l.2.2:=by
  unfold mZ;exact anf hn
 unfold dp;simp only;grind
def gdC(c:BCU):Prop:=okC 500 c∧gi (dC c) (frC (dC c))=true∧gi (dC c) (toC (dC c))=true
instance (c:BCU):Decidable (gdC c):=by unfold gdC;infer_instance
theorem kZ{k:Nat}{x:BP}(h:okP k x):Rpd (dec x):=by
 obtain⟨p,rfl,bp,rp⟩:=aZ h;rw[az];exact rp
theorem abE{c:BCU}(h:gdC c):Crv (dC c):=by
 obtain⟨h1,h2,h3⟩:=h;obtain⟨ar,li,ci,cw,fr,to⟩:=c;have hf:Rpd (frC (dC (ar,li,ci,cw,fr,to))):=kZ h1.2.2.1;have ht:Rpd (toC (dC (ar,li,ci,cw,fr,to))):=kZ h1.2.2.2;refine⟨hf,ht,fun e=>?_⟩;have e:ar=true:=e;subst e;exact⟨(h1.1 rfl).2,RE.ins_on (anE.1 h2),RE.ins_on (anE.1 h3)⟩
theorem ago{c:BCU}(h:gdC c){p:Pt}(hp:Rpd p):onR (dC c) p=onP (dC c) p:=(Xt (abE h) hp).symm
theorem aeA(c:Ln)(d:Rat×Rat):trP (mkP (mkR 0 d.1 (c.2.2/aY d d)) (mkR 0 d.2 (c.2.2/aY d d))) (ctr c)=jO c d:=by
 unfold jO mkP rdP trP mkR ctr;generalize c.2.2/aY d d=s;cases fA s
 ·simp only[cond_false];by_cases h1:d.1=0<;>by_cases h2:d.2=0
  ·rw[amE h1,amE h2];simp;constructor<;>grind
  ·rw[amE h1,amG h2];simp[h2];constructor<;>grind
  ·rw[amG h1,amE h2];simp[h1];constructor<;>grind
  ·rw[amG h1,amG h2];simp[h1,h2];constructor<;>grind
 ·simp;constructor<;>grind
section
namespace RE
abbrev PE:=RE×RE
def crs(u w:PE):RE:=u.1*w.2-u.2*w.1
def dtE(u w:PE):RE:=u.1*w.1+u.2*w.2
def ysC(k:Nat):Int:=if k=1 then 1 else if k=3 then-1 else 0
def msC(i:Nat):Int:=(i:Int)-3
def crI(k i l j:Nat):Int:=addS (jV (msC i)*ysC l) (-(ysC k*jV (msC j))) (cI (msC i).natAbs (msC j).natAbs)
def D0(k i l j:Nat):Bool:=(k !=0||decide (0<msC i))&&(k !=2||decide (msC i<0))&&(!(k==0||k==2)||(bif l==0||l==2 then(msC i).natAbs==(msC j).natAbs else decide ((msC j).natAbs<(msC i).natAbs)))
def AF(a b c:Int):Bool:=bif decide (0≤a)then decide (0≤b)&&decide (0≤c)else !(decide (c<0)&&decide (b<0))
theorem SZ:∀kF kT:Fin 4,∀iF iT:Fin 7,(D0 kF.1 iF.1 kT.1 iT.1&&D0 kT.1 iT.1 kF.1 iF.1&&!(kF.1==kT.1&&iF.1==iT.1))=true→∀kP:Fin 4,∀iP:Fin 7,(D0 kF.1 iF.1 kP.1 iP.1&&D0 kP.1 iP.1 kF.1 iF.1&&D0 kT.1 iT.1 kP.1 iP.1&&D0 kP.1 iP.1 kT.1 iT.1)=true→
  decide (gu cI (upA kF.1,iF.1) (upA kP.1,iP.1) (upA kT.1,iT.1)≤0)=AF (crI kF.1 iF.1 kT.1 iT.1) (crI kF.1 iF.1 kP.1 iP.1) (crI kP.1 iP.1 kT.1 iT.1):=by decide+kernel
theorem H8{x:RE}(h:x≠0):0<x*x:=by
 rcases mW x 0 with e|e|e
 ·have:=mul_pos (jN e) (jN e);rw[neg_mul,mul_neg,neg_neg]at this;exact this
 ·exact absurd e h
 ·exact mul_pos e e
theorem GW(i j:Nat):cI i j=jV ((i:Int)-(j:Int)):=by
 unfold cI jV;by_cases h:i<j
 ·rw[am7 h,am7 (by omega)]
 ·by_cases h':i=j
  ·rw[am0 h,am7 h',am0 (by omega),am7 (by omega)]
  ·rw[am0 h,am0 h',am0 (by omega),am0 (by omega)]
theorem Cp{n:Int}(h:0<n):jV n=1:=by unfold jV;rw[am0 (by omega),am0 (by omega)]
theorem Cf{n:Int}(h:n<0):jV n= -1:=by unfold jV;rw[am7 h]
def rkS(L:List RE)(x:RE):Nat:=rk (fun a b:RE=>a<b) (0::L) (x*x)
def mI(L:List RE)(x:RE):Int:=sg x*(rkS L x:Int)
def ixL(L:List RE)(x:RE):Nat:=(mI L x+3).toNat
theorem jh{L:List RE}{x:RE}(h:x≠0):0<rkS L x:=by
 unfold rkS rk;rw[am7 (H8 h)];omega
theorem IH{L:List RE}{x y:RE}(hx:x*x∈L)(hy:y*y∈L):sg (x*x-y*y)=cI (rkS L x) (rkS L y):=rE (c:=fun x y=>sg (x-y)) lt_lin sg_cmpO (amQ _ hx) (amQ _ hy)
theorem HC{x:RE}(h:0<x):x≠0:=fun e=>by rw[e]at h;exact lt_irrefl _ h
theorem IV{x:RE}(h:x<0):x≠0:=fun e=>by rw[e]at h;exact lt_irrefl _ h
theorem Mr(L:List RE)(x:RE):jV (mI L x)=sg x:=by
 unfold mI;rcases bh x with⟨h,e⟩|⟨h,e⟩|⟨h,e⟩<;>rw[e]
 ·have:=jh (L:=L) (HC h);exact Cp (by omega)
 ·rw[apx];rfl
 ·have:=jh (L:=L) (IV h);exact Cf (by omega)
theorem Se(x y:RE)(h1:x<0)(h2:y<0):x+y<0:=by grind
theorem abF(a b c d:RE):a*d*(a*d)- -(b*c)* -(b*c)=a*a*(c*c+d*d)-(a*a+b*b)*(c*c):=by grind
theorem sub_zero(x:RE):x-0=x:=by grind
theorem zero_sub(x:RE):0-x= -x:=by grind
theorem acU(x y c:RE):x-c-(y-c)=x-y:=by grind
theorem af0(x y q:RE):x*q-q*y=q*(x-y):=by grind
theorem FY(x y:RE)(h1:x-y=0):x≤y:=by grind
theorem FU(x y:RE)(h1:x-y=0):y≤x:=by grind
theorem mt(x y:RE)(h1:x-y=0):x=y:=le_antisymm (FY x y h1) (FU x y h1)
theorem Kt(a b c:RE)(h1:a+b=a+c):b≤c:=by grind
theorem K3(a b c:RE)(h1:a+b=a+c):c≤b:=by grind
theorem M6(a b c:RE)(h1:a+b=a+c):b=c:=le_antisymm (Kt a b c h1) (K3 a b c h1)
theorem Ds(x y:RE):((x-(0))*(x-(y)))+((y-(0))*(x-(y)))+((y*y-(x*x)))=0:=by grind
theorem JZ(x y:RE)(h1:x*x=y*y)(h2:0<x)(h3:0<y):x≤y:=fun hg=>far (aK (aK (mul_pos (aL h2) (aL hg)) (le_of_lt (mul_pos (aL h3) (aL hg)))) (aF (ob h1))) (Ds x y)
theorem CN(x y:RE):((x-(0))*(y-(x)))+((y-(0))*(y-(x)))+((x*x-(y*y)))=0:=by grind
theorem Ke(x y:RE)(h1:x*x=y*y)(h2:0<x)(h3:0<y):y≤x:=fun hg=>far (aK (aK (mul_pos (aL h2) (aL hg)) (le_of_lt (mul_pos (aL h3) (aL hg)))) (aF (ls h1))) (CN x y)
theorem M2(x y:RE)(h1:x*x=y*y)(h2:0<x)(h3:0<y):x=y:=le_antisymm (JZ x y h1 h2 h3) (Ke x y h1 h2 h3)
theorem Eg(x y:RE):((0-(x))*(x-(y)))+((0-(y))*(x-(y)))+((x*x-(y*y)))=0:=by grind
theorem KH(x y:RE)(h1:x*x=y*y)(h2:x<0)(h3:y<0):x≤y:=fun hg=>far (aK (aK (mul_pos (aL h2) (aL hg)) (le_of_lt (mul_pos (aL h3) (aL hg)))) (aF (ls h1))) (Eg x y)
theorem DL(x y:RE):((0-(x))*(y-(x)))+((0-(y))*(y-(x)))+((y*y-(x*x)))=0:=by grind
theorem Kb(x y:RE)(h1:x*x=y*y)(h2:x<0)(h3:y<0):y≤x:=fun hg=>far (aK (aK (mul_pos (aL h2) (aL hg)) (le_of_lt (mul_pos (aL h3) (aL hg)))) (aF (ob h1))) (DL x y)
theorem L7(x y:RE)(h1:x*x=y*y)(h2:x<0)(h3:y<0):x=y:=le_antisymm (KH x y h1 h2 h3) (Kb x y h1 h2 h3)
theorem Kx(x y:RE)(h1:x-y≤0):x≤y:=by grind
theorem Ut(x y:RE)(h1:x≤y):x-y≤0:=by grind
theorem Lc{x y:RE}(hx:0<x)(hy:0<y):sg (x*x-y*y)=sg (x-y):=by
 rw[←Hm,dQ,dM (OX _ _ hx hy),anW]
theorem SA{x y:RE}(hx:x<0)(hy:y<0):sg (x*x-y*y)= -sg (x-y):=by
 rw[←Hm,dQ,ju (Se _ _ hx hy)];omega
theorem adR{L:List RE}{x y:RE}(hx:x*x∈L)(hy:y*y∈L):jV (mI L x-mI L y)=sg (x-y):=by
 have hc:=IH hx hy;unfold mI;rcases bh x with⟨h,e⟩|⟨h,e⟩|⟨h,e⟩<;>rcases bh y with⟨h',e'⟩|⟨h',e'⟩|⟨h',e'⟩<;>rw[e,e']
 ·rw[←Lc h h',hc,GW,anW,anW]
 ·have:=jh (L:=L) (HC h);rw[h',sub_zero,e];exact Cp (by omega)
 ·have:=jh (L:=L) (HC h);rw[dM (Lb _ _ h h')];exact Cp (by omega)
 ·have:=jh (L:=L) (HC h');rw[h,zero_sub,o0,e'];exact Cf (by omega)
 ·rw[h,h',sub_self,dZ,apx];rfl
 ·have:=jh (L:=L) (IV h');rw[h,zero_sub,o0,e'];exact Cp (by omega)
 ·have:=jh (L:=L) (IV h);rw[ju (QM _ _ h h')];exact Cf (by omega)
 ·have:=jh (L:=L) (IV h);rw[h',sub_zero,e];exact Cf (by omega)
 ·have h2:=SA h h';rw[hc,GW]at h2;have:sg (x-y)= -jV ((rkS L x:Int)-(rkS L y:Int)):=by omega
  rw[this];unfold jV;split<;>split<;>(try split)<;>(try split)<;>omega
theorem RZ{L:List RE}{x y:RE}(hx:x*x∈L)(hy:y*y∈L):cI (mI L x).natAbs (mI L y).natAbs=sg (x*x-y*y):=by
 have hc:=IH hx hy
 have ab:∀z:RE,z≠0→(mI L z).natAbs=rkS L z:=fun z hz=>by
  unfold mI;rcases bh z with⟨h,e⟩|⟨h,e⟩|⟨h,e⟩<;>rw[e]
  ·omega
  ·exact absurd h hz
  ·omega
 have ab0:(mI L 0).natAbs=0:=by unfold mI;rw[dZ,apx];rfl
 by_cases h:x=0
 ·subst h;by_cases h':y=0
  ·subst h';rw[sub_self,dZ];unfold cI;rw[am0 (by omega),am7 rfl]
  ·have:=jh (L:=L) h';rw[ab0,ab y h',mul_zero,zero_sub,o0,dM (H8 h')];unfold cI;rw[am7 (by omega)]
 ·by_cases h':y=0
  ·subst h';have:=jh (L:=L) h;rw[ab0,ab x h,mul_zero,sub_zero,dM (H8 h)];unfold cI;rw[am0 (by omega),am0 (by omega)]
  ·rw[ab x h,ab y h',hc]
theorem adV{L:List RE}{x:RE}(hL:L.length=3)(hx:x*x∈L):rkS L x≤3:=by
 have:=iE lt_lin (amQ (0:RE) hx);rw[amV,hL]at this;unfold rkS;omega
theorem Jn{L:List RE}{x:RE}(hL:L.length=3)(hx:x*x∈L): -3≤mI L x∧mI L x≤3:=by
 have h1:=adV hL hx;have h2:=WK x;unfold mI;rcases(by omega:sg x= -1∨sg x=0∨sg x=1)with e|e|e<;>rw[e]<;>omega
theorem Jf{L:List RE}{x:RE}(hL:L.length=3)(hx:x*x∈L):msC (ixL L x)=mI L x:=by
 have:=Jn hL hx;unfold msC ixL;omega
theorem Rh{L:List RE}{x:RE}(hL:L.length=3)(hx:x*x∈L):ixL L x<7:=by
 have:=Jn hL hx;unfold ixL;omega
theorem Oz{L:List RE}{x y:RE}(hL:L.length=3)(hx:x*x∈L)(hy:y*y∈L):cI (ixL L x) (ixL L y)=sg (x-y):=by
 have h1:=Jn hL hx;have h2:=Jn hL hy;rw[GW,←adR hx hy];unfold ixL;congr 1;omega
theorem xx(u v:RE):ysC (cls u v)=sg v:=by
 unfold cls ysC;rcases bh v with⟨_,h⟩|⟨_,h⟩|⟨_,h⟩<;>rcases bh u with⟨_,h'⟩|⟨_,h'⟩|⟨_,h'⟩<;>rw[h,h']<;>rfl
section
variable {u w:PE} {Q:RE} {L:List RE}
theorem Fb(hQ:0<Q)(hu:u.1*u.1+u.2*u.2=Q)(hw:w.1*w.1+w.2*w.2=Q)(hL:L.length=3)(mu:u.1*u.1∈L)(mw:w.1*w.1∈L):sg (crs u w)=crI (cls u.1 u.2) (ixL L u.1) (cls w.1 w.2) (ixL L w.1):=by
 unfold crs crI;show sg (u.1*w.2+ -(u.2*w.1))=_;rw[Fk,abF,hu,hw,af0,dQ Q,dM hQ,anW,o0,dQ u.1,dQ u.2,Jf hL mu,Jf hL mw,RZ mu mw,Mr,Mr,xx,xx]
theorem qb(hQ:0<Q)(hu:u.1*u.1+u.2*u.2=Q)(hw:w.1*w.1+w.2*w.2=Q)(hL:L.length=3)(mu:u.1*u.1∈L)(mw:w.1*w.1∈L):D0 (cls u.1 u.2) (ixL L u.1) (cls w.1 w.2) (ixL L w.1)=true:=by
 have cb:=gT u.1 u.2
 have y0:∀a b:RE,(cls a b==0||cls a b==2)=true↔b=0:=fun a b=>by
  have:=xx a b;have hb:=gT a b;rw[←oZ,←this];unfold ysC;constructor
  ·intro h;simp at h;rcases h with h|h<;>rw[h]<;>rfl
  ·intro h;rcases(by omega:cls a b=0∨cls a b=1∨cls a b=2∨cls a b=3)with e|e|e|e<;>rw[e]at h ⊢ <;>simp at h ⊢
 unfold D0;rw[Jf hL mu,Jf hL mw,amI,amI];have ms:=Mr L u.1;refine⟨⟨?_,?_⟩,?_⟩
 ·by_cases e:cls u.1 u.2=0
  ·have h:=(Jm.1 e).2;rw[dM h]at ms
   have:0<mI L u.1:=by
    unfold jV at ms;split at ms
    ·cases ms
    ·split at ms
     ·cases ms
     ·omega
   simp[this]
  ·simp[e]
 ·by_cases e:cls u.1 u.2=2
  ·have h:=JF.1 e;rw[ju (uc hQ hu h.1 h.2)]at ms
   have:mI L u.1<0:=by
    unfold jV at ms;split at ms
    ·omega
    ·split at ms<;>cases ms
   simp[this]
  ·simp[e]
 ·cases hc:(cls u.1 u.2==0||cls u.1 u.2==2)
  ·rfl
  ·have hv:=(y0 _ _).1 hc;have hu':u.1*u.1=Q:=by rw[hv,mul_zero,add_zero]at hu;exact hu
   have ha:=RZ mu mw;cases hd:(cls w.1 w.2==0||cls w.1 w.2==2)
   ·have hz:w.2≠0:=fun e=>by rw[(y0 _ _).2 e]at hd;cases hd
    have hlt:w.1*w.1<u.1*u.1:=by
     rw[hu',←hw];have:=kR (w.1*w.1) (H8 hz);rw[zero_add,add_comm]at this;exact this
    rw[dM (aL hlt)]at ha
    have:(mI L w.1).natAbs<(mI L u.1).natAbs:=by
     unfold cI at ha;split at ha
     ·cases ha
     ·split at ha
      ·cases ha
      ·omega
    simp[this]
   ·have hz:=(y0 _ _).1 hd;rw[hz,mul_zero,add_zero]at hw;rw[hu',hw,sub_self,dZ]at ha
    have:(mI L u.1).natAbs=(mI L w.1).natAbs:=by
     unfold cI at ha;split at ha
     ·cases ha
     ·split at ha
      ·assumption
      ·cases ha
    simp[this]
end
def frm(c:Ln)(p:PE):PE:=(p.1-of c.1,p.2-of c.2.1)
def n4(u w z:PE):Bool:=AF (sg (crs u w)) (sg (crs u z)) (sg (crs z w))
theorem wa{ci:Ln}{F P T:Pt}[Rpd F][Rpd P][Rpd T](hQ:0<ci.2.2)(hF:onCi ci F)(hP:onCi ci P)(hT:onCi ci T)(hne:pR F≠pR T):
  decide (gu aW (ptd ci F) (ptd ci P) (ptd ci T)≤0)=n4 (frm ci (pR F)) (frm ci (pR T)) (frm ci (pR P)):=by
 have hq:0<of ci.2.2:=ik hQ;have hL:[(frm ci (pR F)).1*(frm ci (pR F)).1,(frm ci (pR P)).1*(frm ci (pR P)).1,(frm ci (pR T)).1*(frm ci (pR T)).1].length=3:=rfl;revert hL;generalize hL0:[(frm ci (pR F)).1*(frm ci (pR F)).1,(frm ci (pR P)).1*(frm ci (pR P)).1,(frm ci (pR T)).1*(frm ci (pR T)).1]=L;intro hL;have mF:(frm ci (pR F)).1*(frm ci (pR F)).1∈L:=by rw[←hL0];simp
 have mP:(frm ci (pR P)).1*(frm ci (pR P)).1∈L:=by rw[←hL0];simp
 have mT:(frm ci (pR T)).1*(frm ci (pR T)).1∈L:=by rw[←hL0];simp
 have cF:=gT (frm ci (pR F)).1 (frm ci (pR F)).2;have cP:=gT (frm ci (pR P)).1 (frm ci (pR P)).2;have cT:=gT (frm ci (pR T)).1 (frm ci (pR T)).2;have hF:(frm ci (pR F)).1*(frm ci (pR F)).1+(frm ci (pR F)).2*(frm ci (pR F)).2=of ci.2.2:=hF;have hP:(frm ci (pR P)).1*(frm ci (pR P)).1+(frm ci (pR P)).2*(frm ci (pR P)).2=of ci.2.2:=hP;have hT:(frm ci (pR T)).1*(frm ci (pR T)).1+(frm ci (pR T)).2*(frm ci (pR T)).2=of ci.2.2:=hT
 have hd:(!(cls (frm ci (pR F)).1 (frm ci (pR F)).2==cls (frm ci (pR T)).1 (frm ci (pR T)).2&&ixL L (frm ci (pR F)).1==ixL L (frm ci (pR T)).1))=true:=by
  cases h1:cls (frm ci (pR F)).1 (frm ci (pR F)).2==cls (frm ci (pR T)).1 (frm ci (pR T)).2
  ·rfl
  ·cases h2:ixL L (frm ci (pR F)).1==ixL L (frm ci (pR T)).1
   ·rfl
   ·exfalso;have h1:=anE.1 h1;have h2:=anE.1 h2;have h3:=Oz hL mF mT;rw[h2]at h3;have e0:∀n,cI n n=0:=fun n=>by unfold cI;rw[am0 (by omega),am7 rfl]
    rw[e0]at h3;have ex:(frm ci (pR F)).1=(frm ci (pR T)).1:=mt _ _ (oZ.1 h3.symm);have ey:sg (frm ci (pR F)).2=sg (frm ci (pR T)).2:=by rw[←xx (frm ci (pR F)).1,←xx (frm ci (pR T)).1,h1]
    have es:(frm ci (pR F)).2*(frm ci (pR F)).2=(frm ci (pR T)).2*(frm ci (pR T)).2:=by
     rw[←hT,ex]at hF;exact M6 _ _ _ hF
    have e2:(frm ci (pR F)).2=(frm ci (pR T)).2:=by
     rcases bh (frm ci (pR F)).2 with⟨g,e⟩|⟨g,e⟩|⟨g,e⟩
     ·rw[e]at ey;exact M2 _ _ es g (Gz.1 ey.symm)
     ·rw[e]at ey;rw[g,oZ.1 ey.symm]
     ·rw[e]at ey;exact L7 _ _ es g (aa8.1 ey.symm)
    exact hne (aoE (jI _ _ _ ex) (jI _ _ _ e2))
 have a:=SZ ⟨_,cF⟩ ⟨_,cT⟩ ⟨_,Rh hL mF⟩ ⟨_,Rh hL mT⟩ (by
  simp only;rw[qb hq hF hT hL mF mT,qb hq hT hF hL mT mF,hd];rfl) ⟨_,cP⟩ ⟨_,Rh hL mP⟩ (by
  simp only;rw[qb hq hF hP hL mF mP,qb hq hP hF hL mP mF,qb hq hT hP hL mT mP,qb hq hP hT hL mP mT];rfl)
 simp only at a;unfold n4;rw[Fb hq hF hT hL mF mT,Fb hq hF hP hL mF mP,Fb hq hP hT hL mP mT,←a]
 have cx:∀{p q:Pt} [Rpd p] [Rpd q],(frm ci (pR p)).1*(frm ci (pR p)).1∈L→(frm ci (pR q)).1*(frm ci (pR q)).1∈L→aW (xP p) (xP q)=cI (ixL L (frm ci (pR p)).1) (ixL L (frm ci (pR q)).1):=fun{p q} _ _ hp hq'=>by
  rw[cmpT_re ln ln,sG,sG,Oz hL hp hq',←acU _ _ (of ci.1)];rfl
 unfold ptd;rw[gU,gU,gU];exact congrArg (fun n:Int=>decide (n≤0)) (gN (cx mP mF) (cx mT mF) (cx mP mT))
def iM(c:Ln)(p:PE):Prop:=(frm c p).1*(frm c p).1+(frm c p).2*(frm c p).2=of c.2.2
def j9(l:Ln)(p:PE):Prop:=of l.1*p.1+of l.2.1*p.2=of l.2.2
def tE(l:Ln)(p:PE):RE:= -of l.2.1*p.1+of l.1*p.2
def arcE(c:Ln)(F T p:PE):Prop:=iM c p∧n4 (frm c F) (frm c T) (frm c p)=true
def btE(a b x:RE):Prop:=(a≤x∧x≤b)∨(b≤x∧x≤a)
def oE(l:Ln)(F T p:PE):Prop:=j9 l p∧btE (tE l F) (tE l T) (tE l p)
def onE(c:Cv)(p:PE):Prop:=if c.1=true then arcE (ciC c) (pR (ccF c)) (pR (ccT c)) p else oE (lnC c) (pR (frC c)) (pR (toC c)) p
structure GdE (c:Cv):Prop where
 f:Rpd (frC c)
 t:Rpd (toC c)
 ne:pR (frC c)≠pR (toC c)
 q:c.1=true→0<(ciC c).2.2∧onCi (ciC c) (frC c)∧onCi (ciC c) (toC c)
 l:c.1=false→((lnC c).1≠0∨(lnC c).2.1≠0)∧qK (lnC c) (frC c)∧qK (lnC c) (toC c)
theorem sL{c:Ln}{p:Pt}[Rpd p]:(oz c p==0)=true↔iM c (pR p):=by
 rw[anE];refine⟨fun h=>ins_on h,fun h=>?_⟩;rw[AE];have:(pX p-of c.1)*(pX p-of c.1)+(pY p-of c.2.1)*(pY p-of c.2.1)=of c.2.2:=h;rw[this,lR,dZ];rfl
theorem AD{l:Ln}{p:Pt}[Rpd p]:(sO l p==0)=true↔j9 l (pR p):=by
 rw[anE];refine⟨fun h=>E9 h,fun h=>?_⟩;rw[BD];have:of l.1*pX p+of l.2.1*pY p=of l.2.2:=h;rw[this,lR,dZ]
theorem Cj(a b x:RE):Tp (sg (a-b)) (sg (a-x)) (sg (x-b)) (sg (x-a)) (sg (b-x))=true↔btE a b x:=by
 have h1:∀y z:RE,sg (y-z)≤0↔y≤z:=fun y z=>by
  rw[aju];exact⟨fun h=>Kx _ _ h,fun h=>Ut _ _ h⟩
 unfold Tp btE;cases h:decide (sg (a-b)>0)
 ·have h2:a≤b:=(h1 _ _).1 (by have:=anw h;omega);simp only[cond_false,amI,aoT,h1];exact⟨fun h=>.inl h,fun h'=>h'.elim id (fun g=>⟨le_trans h2 g.1,le_trans g.2 h2⟩)⟩
 ·have h2:b≤a:=by
   have:=amH h;rcases lt_or_ge a b with g|g
   ·rw[ju (sZ _ _ g)]at this;omega
   ·exact g
  simp only[cond_true,amI,aoT,h1];exact⟨fun h=>.inr ⟨h.1,h.2⟩,fun h'=>h'.elim (fun g=>⟨le_trans h2 g.1,le_trans g.2 h2⟩) (fun g=>⟨g.1,g.2⟩)⟩
theorem H5{c:Cv}(h:GdE c){p:Pt}[hp:Rpd p]:onP c p=true↔onE c (pR p):=by
 have hf:=h.f;have ht:=h.t;obtain⟨ar,li,ci,cw,fr,to⟩:=c;have hf:Rpd fr:=hf;have ht:Rpd to:=ht;unfold onP onE;rw[amI];cases ar
 ·obtain⟨l1,l2,l3⟩:=h.l rfl;rw[am0 (by intro h;cases h)];show(sO li p==0)=true∧vc (aX fr p) (aX p to)=true↔j9 li (pR p)∧btE (tL li fr) (tL li to) (tL li p);rw[AD];constructor
  ·intro ⟨h1,h2⟩;refine⟨h1,?_⟩;rw[Qj (F:=fr) (P:=p) (T:=to) l1 l2 (show qK li p from h1) l3]at h2;exact(Cj _ _ _).1 h2
  ·intro ⟨h1,h2⟩;refine⟨h1,?_⟩;rw[Qj (F:=fr) (P:=p) (T:=to) l1 l2 (show qK li p from h1) l3];exact(Cj _ _ _).2 h2
 ·obtain⟨q1,q2,q3⟩:=h.q rfl;have hne:pR fr≠pR to:=h.ne;rw[am7 rfl];show(oz ci p==0)=true∧decide (gu aW (ptd ci (ccF (true,li,ci,cw,fr,to))) (ptd ci p) (ptd ci (ccT (true,li,ci,cw,fr,to)))≤0)=true↔iM ci (pR p)∧n4 _ _ _=true;rw[sL];cases cw
  ·constructor
   ·intro ⟨h1,h2⟩;refine⟨h1,?_⟩;have:=wa (ci:=ci) (F:=fr) (P:=p) (T:=to) q1 q2 h1 q3 hne;exact this▸h2
   ·intro ⟨h1,h2⟩;refine⟨h1,?_⟩;have:=wa (ci:=ci) (F:=fr) (P:=p) (T:=to) q1 q2 h1 q3 hne;exact this.trans h2
  ·constructor
   ·intro ⟨h1,h2⟩;refine⟨h1,?_⟩;have:=wa (ci:=ci) (F:=to) (P:=p) (T:=fr) q1 q3 h1 q2 (aok hne);exact this▸h2
   ·intro ⟨h1,h2⟩;refine⟨h1,?_⟩;have:=wa (ci:=ci) (F:=to) (P:=p) (T:=fr) q1 q3 h1 q2 (aok hne);exact this.trans h2
end RE
end
section
namespace RE
def dsE(p v:PE):RE:=(p.1-v.1)*(p.1-v.1)+(p.2-v.2)*(p.2-v.2)
def Mn(S:PE→Prop)(v:PE)(m:RE):Prop:=(∃p,S p∧dsE p v=m)∧∀p,S p→m≤dsE p v
open Classical in
def mnE(a b:RE):RE:=if b<a then b else a
theorem HB{S:PE→Prop}{v F T:PE}(hF:S F)(hT:S T)(h:∀p,S p→dsE F v≤dsE p v∨dsE T v≤dsE p v):Mn S v (mnE (dsE F v) (dsE T v)):=by
 unfold mnE;by_cases e:dsE T v<dsE F v
 ·rw[am7 e];exact⟨⟨T,hT,rfl⟩,fun p hp=>(h p hp).elim (fun g=>le_trans (le_of_lt e) g) id⟩
 ·rw[am0 e];exact⟨⟨F,hF,rfl⟩,fun p hp=>(h p hp).elim id (fun g=>le_trans e g)⟩
theorem abT(a b _c p q v w:RE):(a*a+b*b)*((p-v)*(p-v)+(q-w)*(q-w))=(a*v+b*w-(a*p+b*q))*(a*v+b*w-(a*p+b*q))+(-b*p+a*q-(-b*v+a*w))*(-b*p+a*q-(-b*v+a*w)):=by grind
theorem VB(a b e k v w:RE):(v-a*(e*k)-v)*(v-a*(e*k)-v)+(w-b*(e*k)-w)*(w-b*(e*k)-w)=e*e*k*((a*a+b*b)*k):=by grind
theorem Jb(a b c k v w:RE):a*(v-a*((a*v+b*w-c)*k))+b*(w-b*((a*v+b*w-c)*k))=a*v+b*w-(a*v+b*w-c)*((a*a+b*b)*k):=by grind
theorem aeP(a b x v w:RE): -b*(v-a*x)+a*(w-b*x)= -b*v+a*w:=by grind
theorem K0(x c:RE):x-(x-c)=c:=by grind
theorem Vr(x y:RE):((x*x-(y*y)))+2*((x-(0))*(y-(x)))+((y-(x))*(y-(x)))=0:=by grind
theorem afV(x y:RE)(h1:0≤x)(h2:x≤y):x*x≤y*y:=fun hg=>far (aK (aK (aL hg) (iy (by decide+kernel:(0:Rat)<2) (bg (aF h1) (aF h2)))) (bg (aF h2) (aF h2))) (Vr x y)
theorem Vy(x y:RE):((x*x-(y*y)))+((x-(y))*(x-(y)))+2*((x-(y))*(0-(x)))=0:=by grind
theorem ajW(x y:RE)(h1:y≤x)(h2:x≤0):x*x≤y*y:=fun hg=>far (aK (aK (aL hg) (bg (aF h1) (aF h1))) (iy (by decide+kernel:(0:Rat)<2) (bg (aF h1) (aF h2)))) (Vy x y)
theorem M0(n x y s t e:RE):((n-(0))*(x-(y)))+((e+s-(n*x)))+((n*y-(e+t)))+((t-(s)))=0:=by grind
theorem aa0(n x y s t e:RE)(h1:0<n)(h2:n*x=e+s)(h3:n*y=e+t)(h4:s≤t):x≤y:=fun hg=>far (aK (aK (aK (mul_pos (aL h1) (aL hg)) (aF (ob h2))) (aF (ls h3))) (aF h4)) (M0 n x y s t e)
theorem alf(a v x:RE)(_h1:v<a)(h2:a≤x):a-v≤x-v:=by grind
theorem agY(a v:RE)(h1:v<a):0≤a-v:=by grind
theorem akx(a v x:RE)(_h1:a<v)(h2:x≤a):x-v≤a-v:=by grind
theorem agD(a v:RE)(h1:a<v):a-v≤0:=by grind
theorem asc(n k x:RE):n*x*k=n*k*x:=by grind
theorem J3(e t:RE)(h1:0≤t):e≤e+t:=by grind
theorem FI(x y k:RE):((x*k-(y*k)))+((y-(x))*(k-(0)))=0:=by grind
theorem NP(x y k:RE)(h1:x≤y)(h2:0<k):x*k≤y*k:=fun hg=>far (aK (aL hg) (bg (aF h1) (le_of_lt (aL h2)))) (FI x y k)
theorem Pp{n:RE}(h:0<n):∃k,0<k∧n*k=1:=by
 obtain⟨k,hk⟩:=F8 n h;refine⟨k,?_,hk⟩;have:=dQ n k;rw[hk,dM zero_lt_one,dM h,anW]at this;exact Gz.1 this.symm
def exE(l:Ln)(v:PE):RE:=of l.1*v.1+of l.2.1*v.2-of l.2.2
def nrE(l:Ln):RE:=of l.1*of l.1+of l.2.1*of l.2.1
theorem FG{l:Ln}{p v:PE}(h:j9 l p):nrE l*dsE p v=exE l v*exE l v+(tE l p-tE l v)*(tE l p-tE l v):=by
 unfold nrE dsE exE tE;rw[abT _ _ (of l.2.2),h]
theorem BG{l:Ln}{F T v:PE}(_hn:0<nrE l)(hb:btE (tE l F) (tE l T) (tE l v)){k:RE}(hk:0<k)(ek:nrE l*k=1):Mn (oE l F T) v (exE l v*exE l v*k):=by
 refine⟨⟨(v.1-of l.1*(exE l v*k),v.2-of l.2.1*(exE l v*k)),⟨?_,?_⟩,?_⟩,fun p hp=>?_⟩
 ·show of l.1*(v.1-of l.1*(exE l v*k))+of l.2.1*(v.2-of l.2.1*(exE l v*k))=of l.2.2;unfold exE;rw[Jb];show _-_*(nrE l*k)=_;rw[ek,mul_one,K0]
 ·show btE _ _ (-of l.2.1*(v.1-of l.1*(exE l v*k))+of l.1*(v.2-of l.2.1*(exE l v*k)));rw[aeP];exact hb
 ·show(v.1-of l.1*(exE l v*k)-v.1)*(v.1-of l.1*(exE l v*k)-v.1)+(v.2-of l.2.1*(exE l v*k)-v.2)*(v.2-of l.2.1*(exE l v*k)-v.2)=_;rw[VB];show _*(nrE l*k)=_;rw[ek,mul_one]
 ·have h1:=FG (v:=v) hp.1;have h2:=NP _ _ k (J3 (exE l v*exE l v) ((tE l p-tE l v)*(tE l p-tE l v)) (gh _)) hk;rw[←h1,asc (nrE l),ek,one_mul]at h2;exact h2
theorem V7{l:Ln}{F T v:PE}(hn:0<nrE l)(hF:j9 l F)(hT:j9 l T)(hb:¬btE (tE l F) (tE l T) (tE l v)):Mn (oE l F T) v (mnE (dsE F v) (dsE T v)):=by
 have le_of:=fun(p q:PE) (hp:j9 l p) (hq:j9 l q) (h:(tE l p-tE l v)*(tE l p-tE l v)≤(tE l q-tE l v)*(tE l q-tE l v))=>aa0 _ _ _ _ _ _ hn (FG (v:=v) hp) (FG (v:=v) hq) h;have nn:∀p q:PE,j9 l p→j9 l q→tE l v<tE l p→tE l p≤tE l q→dsE p v≤dsE q v:=fun p q hp hq h1 h2=>le_of p q hp hq (afV _ _ (agY _ _ h1) (alf _ _ _ h1 h2));have np:∀p q:PE,j9 l p→j9 l q→tE l p<tE l v→tE l q≤tE l p→dsE p v≤dsE q v:=fun p q hp hq h1 h2=>le_of p q hp hq (ajW _ _ (akx _ _ _ h1 h2) (agD _ _ h1));have sF:oE l F T F:=⟨hF,(lt_or_ge (tE l F) (tE l T)).elim (fun h=>.inl ⟨le_refl _,le_of_lt h⟩) (fun h=>.inr ⟨h,le_refl _⟩)⟩
 have sT:oE l F T T:=⟨hT,(lt_or_ge (tE l F) (tE l T)).elim (fun h=>.inl ⟨le_of_lt h,le_refl _⟩) (fun h=>.inr ⟨le_refl _,h⟩)⟩
 refine HB sF sT fun p ⟨hp,hbp⟩=>?_;rcases lt_or_ge (tE l v) (tE l F)with g|g
 ·rcases lt_or_ge (tE l v) (tE l T)with g'|g'
  ·rcases hbp with⟨h1,h2⟩|⟨h1,h2⟩
   ·exact .inl (nn F p hF hp g h1)
   ·exact .inr (nn T p hT hp g' h1)
  ·exact absurd (.inr ⟨g',le_of_lt g⟩) hb
 ·rcases lt_or_ge (tE l T) (tE l v)with g'|g'
  ·rcases lt_or_ge (tE l F) (tE l v)with g2|g2
   ·rcases hbp with⟨h1,h2⟩|⟨h1,h2⟩
    ·exact .inr (np T p hT hp g' h2)
    ·exact .inl (np F p hF hp g2 h2)
   ·exact absurd (.inr ⟨le_of_lt g',g2⟩) hb
  ·exact absurd (.inl ⟨g,g'⟩) hb
theorem aft(a b x y d e q:RE):(a*y-b*x)*((d*b-e*a)+(d*y-e*x))=((a*d+b*e)-(x*d+y*e))*(q+(a*x+b*y))+(a*d+b*e)*(x*x+y*y-q)-(x*d+y*e)*(a*a+b*b-q):=by grind
theorem plk(a b x y z t d e:RE):(a*y-b*x)*(d*t-e*z)=(z*y-t*x)*(d*b-e*a)+(a*t-b*z)*(d*y-e*x):=by grind
theorem VO(x k m:RE):x+k*0-m*0=x:=by grind
theorem LR(x y:RE)(h1:0≤x)(h2:0≤y):0≤x+y:=by grind
theorem adm(x y:RE)(h1:x≤0)(h2:y≤0):x+y≤0:=by grind
theorem Sc(x:RE)(h1:0≤x): -x≤0:=by grind
theorem US(x:RE)(h1:x≤0):0≤ -x:=by grind
theorem DS(x k y:RE):((k-(0))*(0-(x)))+((x*k-(y)))+((y-(0)))=0:=by grind
theorem KQ(x k y:RE)(h1:x*k=y)(h2:0≤y)(h3:0<k):0≤x:=fun hg=>far (aK (aK (mul_pos (aL h3) (aL hg)) (aF (ls h1))) (aF h2)) (DS x k y)
theorem Kr(x y:RE)(h1:0≤x-y):y≤x:=by grind
theorem acN(a b x y:RE):(a+x)*(a+x)+(b+y)*(b+y)=a*a+b*b+(x*x+y*y)+((a*x+b*y)+(a*x+b*y)):=by grind
theorem Vs(a b x y:RE):(a-x)*(a-x)+(b-y)*(b-y)=a*a+b*b+(x*x+y*y)-((a*x+b*y)+(a*x+b*y)):=by grind
theorem alT(q s t:RE)(h1:t=q+q+(s+s))(h2:0≤t):0≤q+s:=by grind
theorem alc(q s t:RE)(h1:t=q+q+(s+s))(h2:q+s=0):t≤0:=by grind
theorem al1(q s t:RE)(h1:t=q+q+(s+s))(h2:q+s=0):0≤t:=by grind
theorem q_z(q s t:RE)(h1:t=q+q+(s+s))(h2:q+s=0):t=0:=le_antisymm (alc q s t h1 h2) (al1 q s t h1 h2)
theorem Uh(x y:RE)(h1:x+y=0)(_h2:0≤x)(h3:0≤y):x≤0:=by grind
theorem Pn(x y:RE)(h1:x+y=0)(h2:0≤x)(_h3:0≤y):y≤0:=by grind
theorem ak2(a x:RE)(h1:a+x=0):x≤ -a:=by grind
theorem akR(a x:RE)(h1:a+x=0): -a≤x:=by grind
theorem opp(a x:RE)(h1:a+x=0):x= -a:=le_antisymm (ak2 a x h1) (akR a x h1)
theorem we{x y:RE}(h:x*x+y*y=0):x=0∧y=0:=⟨vZ (Uh _ _ h (gh x) (gh y)),vZ (Pn _ _ h (gh x) (gh y))⟩
theorem gl{u z d:PE}{Q:RE}(hu:dtE u u=Q)(hz:dtE z z=Q):crs u z*(crs d u+crs d z)=(dtE u d-dtE z d)*(Q+dtE u z):=by
 unfold dtE at hu hz;unfold crs dtE;rw[aft _ _ _ _ _ _ Q,hu,hz,sub_self,VO]
theorem Ug(a b c d:RE):a*d-b*c= -(c*b-d*a):=by grind
theorem abg(u w:PE):crs u w= -crs w u:=Ug _ _ _ _
theorem ak1(u w z d:PE):crs u w*crs d z=crs z w*crs d u+crs u z*crs d w:=plk _ _ _ _ _ _ _ _
theorem xS{u z:PE}{Q:RE}(hu:dtE u u=Q)(hz:dtE z z=Q):0<Q+dtE u z∨z=(-u.1,-u.2):=by
 have h1:(u.1+z.1)*(u.1+z.1)+(u.2+z.2)*(u.2+z.2)=Q+Q+(dtE u z+dtE u z):=by
  rw[acN];unfold dtE at hu hz ⊢;rw[hu,hz]
 have nn:∀x y:RE,0≤x*x+y*y:=fun x y=>LR _ _ (gh x) (gh y);rcases fU (alT _ _ _ h1 (nn _ _))with h|h
 ·exact .inl h
 ·have h2:=q_z _ _ _ h1 h;obtain⟨a,b⟩:=we h2;exact .inr (aoE (opp _ _ a) (opp _ _ b))
theorem IZ{u z d:PE}{Q:RE}(hu:dtE u u=Q)(hz:dtE z z=Q)(hk:0<Q+dtE u z)(h:0≤crs u z*(crs d u+crs d z)):dtE z d≤dtE u d:=by
 rw[gl hu hz]at h;exact Kr _ _ (KQ _ _ _ rfl h hk)
theorem GI(a b c d:RE):(a*d-b*c)*(a*d-b*c)+(a*c+b*d)*(a*c+b*d)=(a*a+b*b)*(c*c+d*d):=by grind
theorem aaZ(s q:RE):(s+q)*(s-q)=s*s-q*q:=by grind
theorem ahw(q s t:RE)(h1:t=q+q-(s+s))(h2:s-q=0):t≤0:=by grind
theorem afy(q s t:RE)(h1:t=q+q-(s+s))(h2:s-q=0):0≤t:=by grind
theorem als(q s t:RE)(h1:t=q+q-(s+s))(h2:s-q=0):t=0:=le_antisymm (ahw q s t h1 h2) (afy q s t h1 h2)
theorem Rs(s q:RE)(h1:s+q=0):q+s≤0:=by grind
theorem RJ(s q:RE)(h1:s+q=0):0≤q+s:=by grind
theorem Vg(s q:RE)(h1:s+q=0):q+s=0:=le_antisymm (Rs s q h1) (RJ s q h1)
theorem Tm{x y:RE}(h:x*y=0):x=0∨y=0:=by
 have:=dQ x y;rw[h,dZ]at this;rcases Int.mul_eq_zero.1 this.symm with e|e
 ·exact .inl (oZ.1 e)
 ·exact .inr (oZ.1 e)
theorem ak7{u w:PE}{Q:RE}(hu:dtE u u=Q)(hw:dtE w w=Q)(h:crs u w=0):u=w∨w=(-u.1,-u.2):=by
 have h1:crs u w*crs u w+dtE u w*dtE u w=dtE u u*dtE w w:=GI _ _ _ _;rw[h,hu,hw,mul_zero,zero_add]at h1;have h2:(dtE u w+Q)*(dtE u w-Q)=0:=by rw[aaZ,h1,sub_self]
 rcases Tm h2 with e|e
 ·right;rcases xS hu hw with g|g
  ·rw[Vg _ _ e]at g;exact absurd g (lt_irrefl _)
  ·exact g
 ·left
  have h3:(u.1-w.1)*(u.1-w.1)+(u.2-w.2)*(u.2-w.2)=Q+Q-(dtE u w+dtE u w):=by
   rw[Vs];unfold dtE at hu hw ⊢;rw[hu,hw]
  obtain⟨a,b⟩:=we (als _ _ _ h3 e);exact aoE (mt _ _ a) (mt _ _ b)
theorem P5{u w z:PE}(h:0≤crs u w):n4 u w z=true↔0≤crs u z∧0≤crs z w:=by
 unfold n4 AF;rw[amE (R6.2 h),cond_true,amI,aoT,aoT,R6,R6]
theorem AR{x:RE}:sg x<0↔x<0:=by
 rcases bh x with⟨h,e⟩|⟨h,e⟩|⟨h,e⟩<;>rw[e]
 ·exact⟨fun h'=>absurd h' (by decide),fun h'=>absurd (cO h h') (lt_irrefl _)⟩
 ·rw[h];exact⟨fun h'=>absurd h' (by decide),fun h'=>absurd h' (lt_irrefl _)⟩
 ·exact⟨fun _=>h,fun _=>by decide⟩
theorem Og{u w z:PE}(h:crs u w<0):n4 u w z=true↔¬(crs z w<0∧crs u z<0):=by
 unfold n4 AF;rw[amG (by have:=AR.2 h;omega),cond_false];simp only[aoy,Bool.and_eq_false_iff,decide_eq_false_iff_not,AR]
 exact⟨fun g g'=>g.elim (fun k=>k g'.1) (fun k=>k g'.2),fun g=>by
  by_cases e:crs z w<0
  ·exact .inr (fun e'=>g ⟨e,e'⟩)
  ·exact .inl e⟩
theorem ST(d e a b:RE):d* -b-e* -a= -(d*b-e*a):=by grind
theorem PZ(a b c d:RE): -a*d- -b*c= -(a*d-b*c):=by grind
theorem ab4(x:RE)(h1:0≤ -x)(_h2:0≤x):x≤0:=by grind
theorem aey(x:RE)(_h1:0≤ -x)(h2:0≤x):0≤x:=by grind
theorem XF(x:RE)(h1:0≤ -x)(h2:0≤x):x=0:=le_antisymm (ab4 x h1 h2) (aey x h1 h2)
theorem ali(bu bz bw:RE)(h1:bu+bz<0)(h2:0<bw+bz)(h3:0<bu):0<bw:=by grind
theorem alY(bu bz:RE)(h1:bu+bz<0)(h2:0<bu):bz<0:=by grind
theorem alm(bu bz bw:RE)(h1:bu+bz<0)(h2:0<bw+bz)(h3:bw<0):bu<0:=by grind
theorem alH(bw bz:RE)(h1:0<bw+bz)(h2:bw<0):0<bz:=by grind
theorem k_e(k bz s bu t bw:RE)(h1:k*bz=s*bu+t*bw)(h2:0≤s*bu)(h3:0<t*bw):0<k*bz:=by grind
theorem ak4(bu s bz k bw t:RE)(h1:k*bz=s*bu+t*bw)(h2:s*bu<0)(h3:0<k*bz)(h4:t*bw≤0):0<k:=by grind
theorem KU(x y:RE):((x*y-(0)))+((x-(0))*(0-(y)))=0:=by grind
theorem Cc(x y:RE)(h1:0≤x)(h2:y≤0):x*y≤0:=fun hg=>far (aK (aL hg) (bg (aF h1) (aF h2))) (KU x y)
theorem J1(x y:RE):((x*y-(0)))+((0-(x))*(y-(0)))=0:=by grind
theorem VD(x y:RE)(h1:x≤0)(h2:0≤y):x*y≤0:=fun hg=>far (aK (aL hg) (bg (aF h1) (aF h2))) (J1 x y)
theorem NJ(x y:RE):((0-(x))*(0-(y)))+((0-(x*y)))=0:=by grind
theorem NK(x y:RE)(h1:x<0)(h2:y<0):0<x*y:=re.1 fun hg=>far (aK (mul_pos (aL h1) (aL h2)) (aF hg)) (NJ x y)
theorem Ot(x y:RE):((0-(x))*(y-(0)))+((x*y-(0)))=0:=by grind
theorem adB(x y:RE)(h1:x<0)(h2:0<y):x*y<0:=re.1 fun hg=>far (aK (mul_pos (aL h1) (aL h2)) (aF hg)) (Ot x y)
theorem K4(x y:RE):((0-(x*y)))+((0-(x))*(0-(y)))=0:=by grind
theorem Hy(x y:RE)(h1:x≤0)(h2:y≤0):0≤x*y:=fun hg=>far (aK (aL hg) (bg (aF h1) (aF h2))) (K4 x y)
theorem tZ(d u:PE):crs d (-u.1,-u.2)= -crs d u:=ST _ _ _ _
theorem VL(u d:PE):crs (-u.1,-u.2) d= -crs u d:=PZ _ _ _ _
theorem VQ{u w z d:PE}{Q:RE}(hu:dtE u u=Q)(hw:dtE w w=Q)(hz:dtE z z=Q)(hne:u≠w)(h:n4 u w z=true)(hd:¬n4 u w d=true):dtE z d≤dtE u d∨dtE z d≤dtE w d:=by
 have ac:=abg;have key:=ak1 u w z d;rcases lt_or_ge (crs u w) 0 with hk|hk
 ·rw[Og hk]at h hd;obtain⟨d1,d2⟩:=Classical.not_not.1 hd;have bu:0<crs d u:=by rw[ac];exact jN d2
  rcases lt_or_ge (crs d z) 0 with hb|hb
  ·rcases lt_or_ge (crs z w) 0 with hc|hc
   ·have hz':0≤crs u z:=fun g=>h ⟨hc,g⟩;exact absurd hk (fun g=>lt_irrefl _ (cO g (ak4 _ _ _ _ _ _ key (adB _ _ hc bu) (NK _ _ hk hb) (Cc _ _ hz' (le_of_lt d1)))))
   ·right;refine IZ hw hz ?_ ?_
    ·rcases xS hw hz with g|g
     ·exact g
     ·rw[g,tZ]at hb;exact absurd (cO (jN d1) hb) (lt_irrefl _)
    ·rw[ac w z];exact Hy _ _ (Sc _ hc) (le_of_lt (Se _ _ d1 hb))
  ·rcases lt_or_ge (crs u z) 0 with hc|hc
   ·have hz':0≤crs z w:=fun g=>h ⟨g,hc⟩;have:=NK _ _ hc d1;have h2:=bg hz' (le_of_lt bu);have h3:=VD _ _ (le_of_lt hk) hb;exact absurd (k_e _ _ _ _ _ _ key h2 this) h3
   ·left;refine IZ hu hz ?_ (bg hc (le_of_lt (aK bu hb)));rcases xS hu hz with g|g
    ·exact g
    ·rw[g,tZ]at hb;exact absurd (Gq bu) hb
 ·rw[P5 hk]at h hd;obtain⟨h1,h2⟩:=h;have zero_case:crs u w=0→w=(-u.1,-u.2):=fun e=>(ak7 hu hw e).resolve_left hne;rcases lt_or_ge (crs d u+crs d z) 0 with g1|g1
  ·rcases lt_or_ge 0 (crs d w+crs d z)with g2|g2
   ·exfalso;by_cases hb:0<crs d u
    ·have b1:=alY _ _ g1 hb;have b2:=ali _ _ _ g1 g2 hb;have r1:=bg h2 (le_of_lt hb);have r2:=bg h1 (le_of_lt b2);rcases fU hk with k1|k1
     ·have:=F6 _ _ k1 b1;rw[key]at this;exact absurd this (LR _ _ r1 r2)
     ·have e:=zero_case k1;rw[e,tZ]at b2;exact lt_irrefl _ (cO b2 (Gq hb))
    ·have hb':crs d w<0:=by
      rcases lt_or_ge (crs d w) 0 with q|q
      ·exact q
      ·exact absurd ⟨by rw[ac];exact US _ hb,q⟩ hd
     have b1:=alH _ _ g2 hb';have b2:=alm _ _ _ g1 g2 hb';have r1:=Cc _ _ h2 (le_of_lt b2);have r2:=Cc _ _ h1 (le_of_lt hb');rcases fU hk with k1|k1
     ·have:=mul_pos k1 b1;rw[key]at this;exact absurd this (adm _ _ r1 r2)
     ·have e:=zero_case k1;rw[e,tZ]at hb';exact lt_irrefl _ (cO hb' (jN b2))
   ·rcases xS hw hz with g|g
    ·right;refine IZ hw hz g ?_;rw[ac w z];exact Hy _ _ (Sc _ h2) g2
    ·left;rw[g,tZ]at h1;have e:=zero_case (XF _ h1 hk);have:z=u:=by rw[g,e];exact aoE (neg_neg _) (neg_neg _)
     rw[this];exact le_refl _
  ·rcases xS hu hz with g|g
   ·left;exact IZ hu hz g (bg h1 g1)
   ·right;rw[g,VL]at h2;have e:=zero_case (XF _ h2 hk);rw[g,e];exact le_refl _
end RE
end
end Go.Proofs.YtnkndpoojnflmaaGreat
end
