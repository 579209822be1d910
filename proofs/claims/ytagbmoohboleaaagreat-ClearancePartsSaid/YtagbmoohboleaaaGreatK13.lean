/- Lines and circles: the reference's contracts. -/
import Derived.Test.YtagbmoohboleaaaGreatK12
noncomputable section
namespace Go.Proofs.YtagbmoohboleaaaGreat
open Go.RowKit Go.IntKind
theorem ann:type_of% @List.mem_cons_of_mem:=@List.mem_cons_of_mem
theorem anx:type_of% @Rat.div_mul_cancel:=@Rat.div_mul_cancel
theorem aoG:type_of% @not_false_eq_true:=@not_false_eq_true
theorem aps:type_of% @Bool.eq_iff_iff:=@Bool.eq_iff_iff
def Ir(l:Ln)(p:Pt):Rt:=mkR (so l p) (sH l p) p.2.2.2.2
def xe(c:Ln)(p:Pt):Rt:=arT (sqP p (ctr c)) (-c.2.2)
instance al8 {r:Rt} {a:Rat} [h:Rdd r]:Rdd (arT r a):=⟨h.rd⟩
instance WM {l:Ln} {p:Pt} [h:Rpd p]:Rdd (Ir l p):=by
 have:Nn p.2.2.2.2:=inferInstance;exact uQ
instance akS {l:Ln} {p:Pt} {i j:Nat} [h:Bd l i] [h':Bd p j]:Bd (Ir l p) (5*i+5*j+5):=by
 have a1:Bd (so l p) _:=inferInstance;have a2:Bd (sH l p) _:=inferInstance;have a3:Bd (mkR (so l p) (sH l p) p.2.2.2.2) _:=inferInstance;exact a3.mono (by omega)
theorem WL{l:Ln}{p:Pt}[h:Rpd p]:sgR (Ir l p)=uF l p:=by
 unfold uF;rw[Il (WM (l:=l) (p:=p)).nn,RE.sgn2_re h.nn];unfold Ir;rw[RE.vR_mk]
namespace RE
theorem U4(a b q:RE):a+ -q+b=a+b-q:=by grind
theorem Xb(a b q:RE):a-q+b=a+b-q:=by grind
theorem shift_l(a b d q:RE)(h:a+b=a+d):a+ -q+b=a-q+d:=by
 rw[U4,Xb,h]
end RE
theorem Xh{c:Ln}{p:Pt}[h:Rpd p]: -sgR (xe c p)=qn c p:=by
 unfold qn;have hr:Rdd (xe c p):=inferInstanceAs (Rdd (arT (sqP p (ctr c)) (-c.2.2)));rw[Il hr.nn,RE.sgn2_re h.nn]
 have e:RE.vR (xe c p)=RE.v2 (sqA p (ctr c)-c.2.2) (sqB p (ctr c)) p.2.2.2.2:=by
  have e1:=RE.vR_co (sqA p (ctr c)) (sqB p (ctr c)) p.2.2.2.2;unfold RE.vR RE.v2 at e1;unfold xe arT sqP RE.vR RE.v2;simp only;rw[RE.of_add,RE.of_neg,RE.of_sub]
  have e2:RE.of (coR (sqA p (ctr c)) (sqB p (ctr c)) p.2.2.2.2).1=RE.of (sqA p (ctr c)):=by
   unfold coR;cases decide (sqB p (ctr c)=0)<;>rfl
  rw[e2]at e1 ⊢;exact RE.shift_l _ _ _ _ e1
 rw[e]
theorem yu{q:Rat}(h:q≠0):aF q 0=if 0<q then 1 else-1:=by
 rcases(by grind:q<0\/0<q)with h'|h'
 ·rw[dU h',anA (by grind)]
 ·rw[dG h',anH h']
def rZ:List En:=[enT qZ,enL qy,enL ti,enL wE,enL sZ,enT wL,enL wG,enL Hg,enL acd,enL M1,enL acp]
def Ti(a:BR)(_k:KT):OLR:=match decide (okR a/\okR a)with|true=>some [RV.d tR (hMu a a)]|false=>none
def acW:Cn 317 [tR]:=cn λ(a:BR)=>lf (okR a) [.d tR (ao (ah a*ah a))] λh=>by
 refine aB rZ (Ti a) ⟨0,?_⟩;unfold Ti;rw[dT ⟨h,h⟩];simp only[bL]
def PY:Cn 209 [tR,tR]:=cn λ(a b:BR)=>lf (okR a/\okR b) [.d tR (ao (ah a+ah b))] λh=>kO [RV.d tR (hAd a b)] (dN rZ) h
def SW:Cn 208 [tR,tR]:=cn λ(a b:BR)=>lf (okR a/\okR b) [.d tR (ao (ah a-ah b))] λh=>kO [RV.d tR (hSu a b)] (dN rZ) h
def G3:Cn 186 [tR,tR]:=cn λ(a b:BR)=>lf (okR a/\okR b) [.d tR (ao (ah a*ah b))] λh=>kO [RV.d tR (hMu a b)] (dN rZ) h
def RK:Cn 210 [tR,tR]:=cn λ(a b:BR)=>lf (ju a b) [.d tR (ao (ah a/ah b))] λh=>kO [RV.d tR (hDi a b)] (dN rZ) h
def vh:List En:=enL acW::enL PY::enL SW::enL G3::enL RK::rZ
def S7(r:BO3)(_k:KT):OLR:=og (o1 r.1) (og (o1 r.2.1) (og (o2 (hid (ao (ah r.2.1*ah r.2.1))) r.2.2) (og (o2 (hid (ao (ah r.1*ah r.1))) (hMu (hid (ao (ah r.2.1*ah r.2.1))) r.2.2)) (some [RV.d tR (hSu (hid (ao (ah r.1*ah r.1))) (hMu (hid (ao (ah r.2.1*ah r.2.1))) r.2.2))]))))
def afu:Cn 279 [tO]:=cn λ(r:BO3)=>lf (ok Rt 90000 r) [.d tR (ao (noR (dec r)))] λh=>by
 refine aB vh (S7 r) ⟨0,?_⟩;have hr:=h;obtain⟨r,rfl,br⟩:=aI hr;unfold S7;simp only[aX,Nat.reduceAdd,Nat.reduceLeDiff];rfl
def OC(l:BO3)(p:BP)(_k:KT):OLR:=og (o2 l.1 p.1) (og (o2 l.2.1 p.2.2.1) (og (o2 (hMu l.1 p.1) (hMu l.2.1 p.2.2.1)) (og (o2 (hAd (hMu l.1 p.1) (hMu l.2.1 p.2.2.1)) l.2.2) (og (o2 l.1 p.2.1) (og (o2 l.2.1 p.2.2.2.1) (og (o2 (hMu l.1 p.2.1) (hMu l.2.1 p.2.2.2.1)) (og (decide (ok Rat 100000 (hSu (hAd (hMu l.1 p.1) (hMu l.2.1 p.2.2.1)) l.2.2)/\ok Rat 100000 (hAd (hMu l.1 p.2.1) (hMu l.2.1 p.2.2.2.1))/\ok Rat 100000 p.2.2.2.2/\0<=ah p.2.2.2.2)) (some [RV.d tO (hid (enc (mkR (ah (hSu (hAd (hMu l.1 p.1) (hMu l.2.1 p.2.2.1)) l.2.2)) (ah (hAd (hMu l.1 p.2.1) (hMu l.2.1 p.2.2.2.1))) (ah p.2.2.2.2))))]))))))))
def aev:Cn 207 [tO,tP]:=cn λ(l:BO3) (p:BP)=>lf (ok Ln 300 l/\okP 4000 p) [.d tO (enc (Ir (dec l) (dec p)))] λh=>by
 refine aB vh (OC l p) ⟨0,?_⟩;obtain⟨hl,hp⟩:=h;obtain⟨l,rfl,bl⟩:=aI hl;obtain⟨p,rfl,bp,rp⟩:=bU hp;have hn:0<=p.2.2.2.2:=rp.nn;unfold OC;simp only[aX,Nat.reduceAdd,Nat.reduceLeDiff,dT hn];rfl
def M7(c:BO3)(p:BP)(_k:KT):OLR:=og (decide (okP 3500 p/\ok (Rat×Rat) 300 (c.1,c.2.1))) (og (o1 c.2.2) (og (decide (ok Rt 100000 (hid (enc (sqP (dec p) (dec (c.1,c.2.1)))))/\ok Rat 100000 (hNe c.2.2))) (some [RV.d tO (hid (enc (arT (dec (hid (enc (sqP (dec p) (dec (c.1,c.2.1)))))) (ah (hNe c.2.2)))))])))
def abP:Cn 206 [tO,tP]:=cn λ(c:BO3) (p:BP)=>lf (ok Ln 300 c/\okP 3500 p) [.d tO (enc (xe (dec c) (dec p)))] λh=>by
 refine aB vh (M7 c p) ⟨0,?_⟩;obtain⟨hc,hp⟩:=h;obtain⟨c,rfl,bc⟩:=aI hc;obtain⟨p,rfl,bp,rp⟩:=bU hp;have e0:(dec ((ao c.1,ao c.2.1):BV):Rat×Rat)=ctr c:=aA (ctr c);have e1:decide (ok (Rat×Rat) 300 ((ao c.1,ao c.2.1):BV))=true:=okd (x:=ctr c) (by decide) (by decide);unfold M7;simp only[aX,Nat.reduceAdd,Nat.reduceMul,Nat.reduceLeDiff,aQ,e0,e1];rfl
def TW(l:BO3)(v:BV)(_k:KT):OLR:=og (o2 l.1 l.1) (og (o2 l.2.1 l.2.1) (og (o2 (hMu l.1 l.1) (hMu l.2.1 l.2.1)) (og (o2 l.1 v.1) (og (o2 l.2.1 v.2) (og (o2 (hMu l.1 v.1) (hMu l.2.1 v.2)) (og (o2 l.2.2 (hAd (hMu l.1 v.1) (hMu l.2.1 v.2))) (og (decide (ju (hSu l.2.2 (hAd (hMu l.1 v.1) (hMu l.2.1 v.2))) (hAd (hMu l.1 l.1) (hMu l.2.1 l.2.1)))) (og (o2 (hDi (hSu l.2.2 (hAd (hMu l.1 v.1) (hMu l.2.1 v.2))) (hAd (hMu l.1 l.1) (hMu l.2.1 l.2.1))) l.1) (og (o2 v.1 (hMu (hDi (hSu l.2.2 (hAd (hMu l.1 v.1) (hMu l.2.1 v.2))) (hAd (hMu l.1 l.1) (hMu l.2.1 l.2.1))) l.1)) (og (o2 (hDi (hSu l.2.2 (hAd (hMu l.1 v.1) (hMu l.2.1 v.2))) (hAd (hMu l.1 l.1) (hMu l.2.1 l.2.1))) l.2.1) (og (o2 v.2 (hMu (hDi (hSu l.2.2 (hAd (hMu l.1 v.1) (hMu l.2.1 v.2))) (hAd (hMu l.1 l.1) (hMu l.2.1 l.2.1))) l.2.1)) (some [RV.d tV (hAd v.1 (hMu (hDi (hSu l.2.2 (hAd (hMu l.1 v.1) (hMu l.2.1 v.2))) (hAd (hMu l.1 l.1) (hMu l.2.1 l.2.1))) l.1),hAd v.2 (hMu (hDi (hSu l.2.2 (hAd (hMu l.1 v.1) (hMu l.2.1 v.2))) (hAd (hMu l.1 l.1) (hMu l.2.1 l.2.1))) l.2.1))]))))))))))))
def adz:Cn 143 [tO,tV]:=cn λ(l:BO3) (v:BV)=>lf (ok Ln 300 l/\ok (Rat×Rat) 200 v/\((dec l:Ln).1≠0\/(dec l:Ln).2.1≠0)) [.d tV (enc (dZ (dec l) (dec v)))] λh=>by
 refine aB vh (TW l v) ⟨0,?_⟩;obtain⟨hl,hv,h0⟩:=h;obtain⟨l,rfl,bl⟩:=aI hl;obtain⟨v,rfl,bv⟩:=aI hv;have hn:l.1*l.1+l.2.1*l.2.1≠0:=lk (by rw[aA]at h0;exact h0)
 have e:(l.2.2-(l.1*v.1+l.2.1*v.2))/(l.1*l.1+l.2.1*l.2.1)= -ou l v:=by
  unfold ou;grind
 unfold TW;simp only[aX,Nat.reduceAdd,Nat.reduceLeDiff,hn,ne_eq,aoG];unfold dZ;rw[e,show v.1+ -ou l v*l.1=v.1-ou l v*l.1 by grind,show v.2+ -ou l v*l.2.1=v.2-ou l v*l.2.1 by grind];rfl
def Jp:List En:=enL afu::enL aev::enL abP::enL adz::vh
def Rc(r:BO3)(_k:KT):OLR:=og (o1 r.1) (og (o1 r.2.1) (match(aF (ah r.1) 0)==(aF (ah r.2.1) 0)with|true=>some [RV.d aqw (aF (ah r.1) 0)]|false=>(match(aF (ah r.2.1) 0)==0 with|true=>some [RV.d aqw (aF (ah r.1) 0)]|false=>(match(aF (ah r.1) 0)==0 with|true=>some [RV.d aqw (aF (ah r.2.1) 0)]|false=>(og (decide (ok Rt 90000 r)) (og (o1 (hid (ao (noR (dec r))))) (match decide ((aF (ah (hid (ao (noR (dec r))))) 0)>0)with|true=>some [RV.d aqw (aF (ah r.1) 0)]|false=>some [RV.d aqw (aF (ah r.2.1) 0)])))))))
def abY:Cn 205 [tO]:=cn λ(r:BO3)=>lf (okT 90000 r) [.d aqw (sgR (dec r))] λh=>by
 refine aB Jp (Rc r) ⟨0,?_⟩;have hr:=h;obtain⟨r,rfl,br,rr⟩:=ii hr;unfold Rc;simp only[aX,Nat.reduceAdd,Nat.reduceMul,Nat.reduceLeDiff,au,az];rw[Zy rr];by_cases hb:r.2.1=0
 ·rw[anb hb,hb,eU];by_cases ha:aF r.1 0=0
  ·rw[ha];rfl
  ·rw[show(aF r.1 0==0)=false by simp[ha]];rfl
 ·have hn:=adA rr hb;have e2:=yu hn;have hb2:=yu hb;rw[ane hb,show(aF r.2.1 0==0)=false by rw[au,ane hb]];by_cases ha:r.1=0
  ·rw[anb ha,ha,eU,show((0:Int)==aF r.2.1 0)=false by rw[hb2];split<;>rfl];rfl
  ·have ha2:=yu ha;rw[ane ha,show(aF r.1 0==0)=false by rw[au,ane ha]];cases hq:(aF r.1 0==aF r.2.1 0)
   ·have hne:aF r.1 0≠aF r.2.1 0:=by simpa using hq
    rw[e2];by_cases hp:0<noR r
    ·rw[anb hp,anH hp,apw];rfl
    ·rw[ane hp,anA hp];show some [RV.d aqw (aF r.2.1 0)]=some [RV.d aqw (aF r.1 0* -1)]
     rw[show aF r.2.1 0=aF r.1 0* -1 by
      rw[ha2,hb2]at hne ⊢;split at hne<;>split at hne<;>simp_all]
   ·rfl
def Kv:List En:=enT abY::Jp
def O4(l:BO3)(p:BP)(_k:KT):OLR:=og (decide (ok Ln 300 l/\okP 4000 p)) (og (decide (okT 90000 (hid (enc (Ir (dec l) (dec p)))))) (some [RV.d aqw (sgR (dec (hid (enc (Ir (dec l) (dec p))))))]))
def acb:Cn 108 [tO,tP]:=cn λ(l:BO3) (p:BP)=>lf (ok Ln 300 l/\okP 4000 p) [.d aqw (uF (dec l) (dec p))] λh=>by
 refine aB Kv (O4 l p) ⟨0,?_⟩;obtain⟨hl,hp⟩:=h;obtain⟨l,rfl,bl⟩:=aI hl;obtain⟨p,rfl,bp,rp⟩:=bU hp;unfold O4;simp only[aX,Nat.reduceAdd,Nat.reduceMul,Nat.reduceLeDiff,aP,aQ];rw[WL]
def Q2(c:BO3)(p:BP)(_k:KT):OLR:=og (decide (ok Ln 300 c/\okP 3500 p)) (og (decide (okT 90000 (hid (enc (xe (dec c) (dec p)))))) (some [RV.d aqw (i64.wrap (0-(sgR (dec (hid (enc (xe (dec c) (dec p))))))))]))
def aeD:Cn 107 [tO,tP]:=cn λ(c:BO3) (p:BP)=>lf (ok Ln 300 c/\okP 3500 p) [.d aqw (qn (dec c) (dec p))] λh=>by
 refine aB Kv (Q2 c p) ⟨0,?_⟩;obtain⟨hc,hp⟩:=h;obtain⟨c,rfl,bc⟩:=aI hc;obtain⟨p,rfl,bp,rp⟩:=bU hp;have hr:Rdd (xe c p):=inferInstanceAs (Rdd (arT (sqP p (ctr c)) (-c.2.2)));have br:Bd (xe c p) 90000:=(inferInstance:Bd (arT (sqP p (ctr c)) (-c.2.2)) _).mono (by decide);have hb: -1<=sgR (xe c p)/\sgR (xe c p)<=1:=m6 _ _ _;unfold Q2;simp only[aX,Nat.reduceLeDiff,aP,aQ,ao7,aV (x:= -sgR (xe c p)) (by omega) (by omega)];rw[Xh]
abbrev tCU:Ty:=.st (.pair .bool (.pair tO (.pair tO (.pair .bool (.pair tP tP)))))
abbrev BCU:=Bool×BO3×BO3×Bool×BP×BP
abbrev Cv:=Bool×Ln×Ln×Bool×Pt×Pt
def dC(c:BCU):Cv:=(c.1,dec c.2.1,dec c.2.2.1,c.2.2.2.1,dec c.2.2.2.2.1,dec c.2.2.2.2.2)
def xi(x:BO3):Prop:=ok Ln 300 x/\(0:Rat)<(dec x:Ln).2.2
instance (x:BO3):Decidable (xi x):=by unfold xi;infer_instance
def WZ(x:BO3):Prop:=ok Ln 300 x/\((dec x:Ln).1≠0\/(dec x:Ln).2.1≠0)
instance (x:BO3):Decidable (WZ x):=by unfold WZ;infer_instance
def okC(k:Nat)(c:BCU):Prop:=(c.1=true->xi c.2.2.1)/\(c.1=false->WZ c.2.1)/\okP k c.2.2.2.2.1/\okP k c.2.2.2.2.2
instance (k:Nat) (c:BCU):Decidable (okC k c):=by unfold okC;infer_instance
def frC(c:Cv):Pt:=c.2.2.2.2.1
def toC(c:Cv):Pt:=c.2.2.2.2.2
def lnC(c:Cv):Ln:=c.2.1
def ciC(c:Cv):Ln:=c.2.2.1
def cwC(c:Cv):Bool:=c.2.2.2.1
def gv(c:Cv)(p:Pt):Bool:=bif c.1 then qn (ciC c) p==0 else uF (lnC c) p==0
def upR(c:Ln)(p:Pt):Bool:=decide (gQ (yP p) c.2.1>0)||(gQ (yP p) c.2.1==0&&decide (gQ (xP p) c.1>0))
def ptd(c:Ln)(p:Pt):Bool×Rt:=(upR c p,xP p)
def EU(c:Ln)(p:Pt):Int:=bif upR c p then 0 else 1
def ccF(c:Cv):Pt:=bif cwC c then toC c else frC c
def ccT(c:Cv):Pt:=bif cwC c then frC c else toC c
def jd(c:Cv)(p:Pt):Bool:=bif c.1 then decide (iE bi (ptd (ciC c) (ccF c)) (ptd (ciC c) p) (ptd (ciC c) (ccT c))<=0)else wc (aZ (frC c) p) (aZ p (toC c))
def onP(c:Cv)(p:Pt):Bool:=gv c p&&jd c p
def uG(c:BCU):BCU:=(c.1,c.2.1,c.2.2.1,c.1&&!c.2.2.2.1,c.2.2.2.2.2,c.2.2.2.2.1)
def eo(c:BCU):BCU:=bif c.2.2.2.1 then uG c else c
def flP(p:Pt):Pt:=(-p.1,-p.2.1,p.2.2.1,p.2.2.2.1,p.2.2.2.2)
def flC(c:Ln):Ln:=(-c.1,c.2.1,c.2.2)
def co(c:Cv)(p q:Pt):Int:=bif c.1 then(bif cwC c then kU bi (ptd (flC (ciC c)) (flP (frC c))) (ptd (flC (ciC c)) (flP p)) (ptd (flC (ciC c)) (flP q))else kU bi (ptd (ciC c) (frC c)) (ptd (ciC c) p) (ptd (ciC c) q))
 else(bif decide (aZ (frC c) (toC c)>0)then-aZ p q else aZ p q)
def onR(c:Cv)(p:Pt):Bool:=gv c p&&(decide (co c (frC c) p<=0)&&decide (co c p (toC c)<=0))
theorem MR(k:Nat){c:BCU}(h:okC k c):okC k (uG c):=⟨h.1,h.2.1,h.2.2.2,h.2.2.1⟩
theorem xx(p q:Pt): -1<=aZ p q/\aZ p q<=1:=by
 unfold aZ;cases bi (xP p) (xP q)==0
 ·exact xD _ _
 ·exact xD _ _
theorem KY{p q:Bool×Rt}:0<=qp bi p q/\qp bi p q<=2:=by
 unfold qp;cases tZ bi q p==0<;>cases decide (tZ bi q p>0)<;>simp only[cond_true,cond_false]<;>omega
def Al(c:BCU):BCU:=(c.1,c.2.1,(ao (-ah c.2.2.1.1),c.2.2.1.2),!c.2.2.2.1,enc (flP (dec c.2.2.2.2.1)),enc (flP (dec c.2.2.2.2.2)))
instance am0 {p:Pt} [h:Rpd p]:Rpd (flP p):=by
 refine⟨?_⟩;have:=h.rd;unfold Iu flP at*
 simp only;have e:(-p.2.1=0)↔p.2.1=0:=by constructor<;>intro h<;>grind
 rw[e];exact this
instance am2 {p:Pt} {j:Nat} [h:Bd p j]:Bd (flP p) j:=by
 have i1:Bd ((-p.1,-p.2.1,p.2.2.1,p.2.2.2.1,p.2.2.2.2):Pt) _:=inferInstance;exact i1.mono (gn (by omega) (gn (by omega) (gn (by omega) (gn (by omega) (by omega)))))
theorem rV{j k:Nat}{x:BP}(h:okP j x)(hj:j<=k)(hk:k<=480000):okP k x:=by
 obtain⟨p,rfl,bp,rp⟩:=bU h;exact anf (aQ hj hk)
theorem LA{j k:Nat}{c:BCU}(h:okC j c)(hj:j<=k)(hk:k<=480000):okC k c:=⟨h.1,h.2.1,rV h.2.2.1 hj hk,rV h.2.2.2 hj hk⟩
theorem HB{x:BP}(h:okP 4000 x):okP 4000 (enc (flP (dec x))):=by
 obtain⟨p,rfl,bp,rp⟩:=bU h;rw[aA];exact anf (aQ (x:=flP p) (by decide) (by decide))
theorem acN{x:BO3}(h:ok Ln 300 x):ok Ln 300 ((ao (-ah x.1),x.2):BO3)/\(dec ((ao (-ah x.1),x.2):BO3):Ln)=flC (dec x):=by
 obtain⟨l,rfl,bl⟩:=aI h
 have e:((ao (-ah (enc l:BO3).1),(enc l:BO3).2):BO3)=enc (flC l):=by
  rw[uY,fk,cC];rfl
 rw[e,aA,aA];refine⟨?_,rfl⟩;have i1:Bd (flC l) 300:=(inferInstance:Bd ((-l.1,l.2.1,l.2.2):Ln) _).mono (by decide);exact anf (okd (x:=flC l) (ani _) (by decide))
def Bn:List En:=[enL wG,enT TE,enT OR,enL Zi,enL YW,enT Ag,enT acb,enT aeD]
def Zl(c:BCU)(p:BP)(_k:KT):OLR:=match c.1 with|true=>(og (decide (ok Ln 300 c.2.2.1/\okP 3500 p)) (some [RV.d .bool ((qn (dec c.2.2.1) (dec p))==0)]))|false=>(og (decide (ok Ln 300 c.2.1/\okP 4000 p)) (some [RV.d .bool ((uF (dec c.2.1) (dec p))==0)]))
def ah8:Cn 44 [tCU,tP]:=cn λ(c:BCU) (p:BP)=>lf (okC 3500 c/\okP 3500 p) [.d .bool (gv (dC c) (dec p))] λh=>by
 refine aB Bn (Zl c p) ⟨0,?_⟩;obtain⟨hc,hp⟩:=h;have op:decide (okP 3500 p)=true:=anb hp;have op4:decide (okP 4000 p)=true:=anb (rV hp (by decide) (by decide));obtain⟨ar,li,ci,cw,fr,to⟩:=c;obtain⟨c1,c2,_⟩:=hc;unfold Zl;cases ar
 ·have e:=(c2 rfl).1;simp only[apa,dT e,op4,aoI];rfl
 ·have e:=(c1 rfl).1;simp only[apa,dT e,op,aoI];rfl
def abL(c:BO3)(p:BP)(_k:KT):OLR:=og (decide (okP 4000 p)) (og (decide (okT 15000 (hid (enc (yP (dec p))))/\ok Rat 15000 c.2.1)) (match decide ((gQ (dec (hid (enc (yP (dec p))))) (ah c.2.1))>0)with|true=>some [RV.d .bool true]|false=>(match(gQ (dec (hid (enc (yP (dec p))))) (ah c.2.1))==0 with|true=>(og (decide (okP 4000 p)) (og (decide (okT 15000 (hid (enc (xP (dec p))))/\ok Rat 15000 c.1)) (some [RV.d .bool (decide ((gQ (dec (hid (enc (xP (dec p))))) (ah c.1))>0))])))|false=>some [RV.d .bool false])))
def ahZ:Cn 272 [tO,tP]:=cn λ(c:BO3) (p:BP)=>lf (ok Ln 300 c/\okP 4000 p) [.d .bool (upR (dec c) (dec p))] λh=>by
 refine aB Bn (abL c p) ⟨0,?_⟩;obtain⟨hc,hp⟩:=h;obtain⟨c,rfl,bc⟩:=aI hc;obtain⟨p,rfl,bp,rp⟩:=bU hp;unfold abL upR;simp only[aX,Nat.reduceLeDiff,aP,aQ];cases decide (gQ (yP p) c.2.1>0)<;>cases gQ (yP p) c.2.1==0<;>rfl
def abs(p:BP)(_k:KT):OLR:=og (o1 p.1) (og (o1 p.2.1) (some [RV.d tP (hNe p.1,(hNe p.2.1,p.2.2))]))
def aix:Cn 97 [tP]:=cn λ(p:BP)=>lf (okP 4000 p) [.d tP (enc (flP (dec p)))] λh=>by
 refine aB Bn (abs p) ⟨0,?_⟩;have hp:=h;obtain⟨p,rfl,bp,rp⟩:=bU hp;unfold abs;simp only[aX,Nat.reduceLeDiff];rfl
def agP:Ctx:=CX (ens Bn) []
def ais(c:BCU)(_k:KT):OLR:=match c.1 with|true=>some [RV.d tCU (c.1,(c.2.1,(c.2.2.1,(!c.2.2.2.1,(c.2.2.2.2.2,c.2.2.2.2.1)))))]|false=>some [RV.d tCU (c.1,(c.2.1,(c.2.2.1,(false,(c.2.2.2.2.2,c.2.2.2.2.1)))))]
theorem agw(c:BCU):RS agP 36 [.d tCU c] (ais c):=rsX
def OH:Cn 36 [tCU]:=cn λ(c:BCU)=>lf True [.d tCU (uG c)] λ_=>by
 refine dk Bn (agw _ ⟨0,?_⟩);obtain⟨ar,li,ci,cw,fr,to⟩:=c;cases ar<;>rfl
def PL:List En:=enT ah8::enT ahZ::enL aix::enL OH::Bn
def abn(c:BO3)(p q:BP)(_k:KT):OLR:=og (decide (ok Ln 300 c/\okP 4000 p)) (og (decide (ok Ln 300 c/\okP 4000 q)) (match !((upR (dec c) (dec p))==(upR (dec c) (dec q)))with|true=>(match upR (dec c) (dec q)with|true=>some [RV.d aqw (-1)]|false=>some [RV.d aqw 1])|false=>(og (decide (okP 4000 p)) (og (decide (okP 4000 q)) (og (decide (okT 15000 (hid (enc (xP (dec p))))/\okT 15000 (hid (enc (xP (dec q)))))) (match upR (dec c) (dec p)with|true=>some [RV.d aqw (i64.wrap (0-(bi (dec (hid (enc (xP (dec p))))) (dec (hid (enc (xP (dec q))))))))]|false=>some [RV.d aqw (bi (dec (hid (enc (xP (dec p))))) (dec (hid (enc (xP (dec q))))))]))))))
def agF:Cn 198 [tO,tP,tP]:=cn λ(c:BO3) (p q:BP)=>lf (ok Ln 300 c/\okP 4000 p/\okP 4000 q) [.d aqw (kG bi (ptd (dec c) (dec p)) (ptd (dec c) (dec q)))] λh=>by
 refine aB PL (abn c p q) ⟨0,?_⟩;obtain⟨hc,hp,hq⟩:=h;obtain⟨c,rfl,bc⟩:=aI hc;obtain⟨p,rfl,bp,rp⟩:=bU hp;obtain⟨q,rfl,bq,rq⟩:=bU hq;have xb:=xD (xP p) (xP q);unfold abn;simp only[aX,Nat.reduceLeDiff,aP,aQ,aV (x:= -bi (xP p) (xP q)) (by omega) (by omega),ao7];unfold kG ptd;cases upR c p<;>cases upR c q<;>rfl
def Yy(c:BCU)(_k:KT):OLR:=match decide (okR c.2.2.1.1)with|true=>(match decide (okP 4000 c.2.2.2.2.1)with|true=>(match decide (okP 4000 c.2.2.2.2.2)with|true=>some [RV.d tCU (c.1,(c.2.1,((hNe c.2.2.1.1,c.2.2.1.2),(!c.2.2.2.1,(hid (enc (flP (dec c.2.2.2.2.1))),hid (enc (flP (dec c.2.2.2.2.2))))))))]|false=>none)|false=>none)|false=>none
def ahT:Cn 96 [tCU]:=cn λ(c:BCU)=>lf (xi c.2.2.1/\okP 4000 c.2.2.2.2.1/\okP 4000 c.2.2.2.2.2) [.d tCU (Al c)] λh=>by
 refine aB PL (Yy c) ⟨0,?_⟩;obtain⟨hc,hf,ht⟩:=h
 have e:okR c.2.2.1.1:=by
  obtain⟨l,hl,bl⟩:=aI hc.1;rw[hl,uY,fk];exact anf (JZ (q:=l.1) (by decide))
 unfold Yy;rw[dT e,dT hf,dT ht];simp only[bL];rfl
def X8:List En:=enT agF::enL ahT::PL
def Yx(c:BO3)(f p q:BP)(_k:KT):OLR:=og (decide (ok Ln 300 c/\okP 4000 p/\okP 4000 f)) (og (decide (ok Ln 300 c/\okP 4000 q/\okP 4000 f)) (match !((decide ((kG bi (ptd (dec c) (dec p)) (ptd (dec c) (dec f)))<0))==(decide ((kG bi (ptd (dec c) (dec q)) (ptd (dec c) (dec f)))<0)))with|true=>(match decide ((kG bi (ptd (dec c) (dec q)) (ptd (dec c) (dec f)))<0)with|true=>some [RV.d aqw (-1)]|false=>some [RV.d aqw 1])|false=>(og (decide (ok Ln 300 c/\okP 4000 p/\okP 4000 q)) (some [RV.d aqw (kG bi (ptd (dec c) (dec p)) (ptd (dec c) (dec q)))]))))
def aiU:Cn 95 [tO,tP,tP,tP]:=cn λ(c:BO3) (f p q:BP)=>lf (ok Ln 300 c/\okP 4000 f/\okP 4000 p/\okP 4000 q) [.d aqw (kU bi (ptd (dec c) (dec f)) (ptd (dec c) (dec p)) (ptd (dec c) (dec q)))] λh=>by
 refine aB X8 (Yx c f p q) ⟨0,?_⟩;obtain⟨hc,hf,hp,hq⟩:=h;unfold Yx kU;rw[dT (show ok Ln 300 c/\okP 4000 p/\okP 4000 f from⟨hc,hp,hf⟩),dT (show ok Ln 300 c/\okP 4000 q/\okP 4000 f from⟨hc,hq,hf⟩),dT (show ok Ln 300 c/\okP 4000 p/\okP 4000 q from⟨hc,hp,hq⟩)];cases decide (kG bi (ptd (dec c) (dec p)) (ptd (dec c) (dec f))<0)<;>cases decide (kG bi (ptd (dec c) (dec q)) (ptd (dec c) (dec f))<0)<;>rfl
def abA:List En:=enT aiU::X8
def aal(c:BCU)(p q:BP)(_k:KT):OLR:=match !c.1 with|true=>(og (decide (okP 4000 p/\okP 4000 q)) (og (decide (okP 4000 c.2.2.2.2.1/\okP 4000 c.2.2.2.2.2)) (match decide ((aZ (dec c.2.2.2.2.1) (dec c.2.2.2.2.2))>0)with|true=>some [RV.d aqw (i64.wrap (0-(aZ (dec p) (dec q))))]|false=>some [RV.d aqw (aZ (dec p) (dec q))])))|false=>(match !c.2.2.2.1 with|true=>(og (decide (ok Ln 300 c.2.2.1/\okP 4000 c.2.2.2.2.1/\okP 4000 p/\okP 4000 q)) (some [RV.d aqw (kU bi (ptd (dec c.2.2.1) (dec c.2.2.2.2.1)) (ptd (dec c.2.2.1) (dec p)) (ptd (dec c.2.2.1) (dec q)))]))|false=>(og (decide (xi c.2.2.1/\okP 4000 c.2.2.2.2.1/\okP 4000 c.2.2.2.2.2)) (og (decide (okP 4000 p)) (og (decide (okP 4000 q)) (og (decide (ok Ln 300 ((((hid (Al c)).2).2).1)/\okP 4000 ((((((hid (Al c)).2).2).2).2).1)/\okP 4000 (hid (enc (flP (dec p))))/\okP 4000 (hid (enc (flP (dec q)))))) (some [RV.d aqw (kU bi (ptd (dec ((((hid (Al c)).2).2).1)) (dec ((((((hid (Al c)).2).2).2).2).1))) (ptd (dec ((((hid (Al c)).2).2).1)) (dec (hid (enc (flP (dec p)))))) (ptd (dec ((((hid (Al c)).2).2).1)) (dec (hid (enc (flP (dec q)))))))]))))))
def Ju:Cn 37 [tCU,tP,tP]:=cn λ(c:BCU) (p q:BP)=>lf (okC 4000 c/\okP 4000 p/\okP 4000 q) [.d aqw (co (dC c) (dec p) (dec q))] λh=>by
 refine aB abA (aal c p q) ⟨0,?_⟩;obtain⟨hc,hp,hq⟩:=h;have xb:=xx (dec p) (dec q);obtain⟨ar,li,ci,cw,fr,to⟩:=c;obtain⟨c1,c2,c3,c4⟩:=hc;simp only at c1 c2 c3 c4;unfold aal co;cases ar
 ·simp only[ao7,aV (x:= -aZ (dec p) (dec q)) (by omega) (by omega),dT (show okP 4000 p/\okP 4000 q from⟨hp,hq⟩),dT (show okP 4000 fr/\okP 4000 to from⟨c3,c4⟩),Bool.not_false];simp only[dC,frC,toC,cond_false];by_cases hd:aZ (dec fr) (dec to)>0
  ·simp[hd]
  ·simp[hd]
 ·have e:=(c1 rfl).1;have hci:=c1 rfl;obtain⟨f1,f2⟩:=acN e;cases cw
  ·simp only[dT (show ok Ln 300 ci/\okP 4000 fr/\okP 4000 p/\okP 4000 q from⟨e,c3,hp,hq⟩),Bool.not_true,Bool.not_false];rfl
  ·have hm:ok Ln 300 (Al (true,li,ci,true,fr,to)).2.2.1/\okP 4000 (Al (true,li,ci,true,fr,to)).2.2.2.2.1/\okP 4000 (enc (flP (dec p)))/\okP 4000 (enc (flP (dec q))):=⟨f1,HB c3,HB hp,HB hq⟩
   have m1:(dec (Al (true,li,ci,true,fr,to)).2.2.1:Ln)=flC (dec ci):=f2;have m2:(dec (Al (true,li,ci,true,fr,to)).2.2.2.2.1:Pt)=flP (dec fr):=aA _;simp only[bL,dT (show xi ci/\okP 4000 fr/\okP 4000 to from⟨hci,c3,c4⟩),dT hp,dT hq,dT hm,Bool.not_true,m1,m2,aA];rfl
def afP:List En:=enT Ju::abA
def aaI(c:BCU)(p:BP)(_k:KT):OLR:=og (decide (okC 3500 c/\okP 3500 p)) (match gv (dC c) (dec p)with|true=>(og (decide (okC 4000 c/\okP 4000 c.2.2.2.2.1/\okP 4000 p)) (match decide ((co (dC c) (dec c.2.2.2.2.1) (dec p))<=0)with|true=>(og (decide (okC 4000 c/\okP 4000 p/\okP 4000 c.2.2.2.2.2)) (some [RV.d .bool (decide ((co (dC c) (dec p) (dec c.2.2.2.2.2))<=0))]))|false=>some [RV.d .bool false]))|false=>some [RV.d .bool false])
def Ph:Cn 13 [tCU,tP]:=cn λ(c:BCU) (p:BP)=>lf (okC 3500 c/\okP 3500 p) [.d .bool (onR (dC c) (dec p))] λh=>by
 refine aB afP (aaI c p) ⟨0,?_⟩;obtain⟨hc,hp⟩:=h;have hc4:=LA (k:=4000) hc (by decide) (by decide);have hp4:=rV (k:=4000) hp (by decide) (by decide);unfold aaI onR;rw[dT (show okC 3500 c/\okP 3500 p from⟨hc,hp⟩),dT (show okC 4000 c/\okP 4000 c.2.2.2.2.1/\okP 4000 p from⟨hc4,hc4.2.2.1,hp4⟩),dT (show okC 4000 c/\okP 4000 p/\okP 4000 c.2.2.2.2.2 from⟨hc4,hp4,hc4.2.2.2⟩)];cases gv (dC c) (dec p)
 ·rfl
 ·show(match decide (co (dC c) (frC (dC c)) (dec p)<=0)with|true=>some [RV.d .bool (decide (co (dC c) (dec p) (toC (dC c))<=0))]|false=>some [RV.d .bool false])=_;cases decide (co (dC c) (frC (dC c)) (dec p)<=0)<;>rfl
section
namespace RE
theorem KR{u v:RE}:cls u v=2↔v=0/\¬0<u:=by
 unfold cls;rcases bj v with⟨a,h1⟩|⟨a,h1⟩|⟨a,h1⟩<;>rcases bj u with⟨b,h2⟩|⟨b,h2⟩|⟨b,h2⟩<;>rw[h1,h2]
 all_goals first
  |exact⟨λ_=>⟨a,λh=>by rw[b]at h;exact lt_irrefl _ h⟩,λ_=>rfl⟩
  |exact⟨λ_=>⟨a,λh=>lt_irrefl _ (da h b)⟩,λ_=>rfl⟩
  |(refine⟨λh=>absurd h (by decide),λh=>?_⟩;first|(rw[h.1]at a;exact absurd a (lt_irrefl _))|exact absurd b h.2)
theorem wk{u v Q:RE}(hQ:0<Q)(h:u*u+v*v=Q)(hv:v=0)(hu:¬0<u):u<0:=by
 rcases n8 u 0 with e|e|e
 ·exact e
 ·rw[e,hv,mul_zero,add_zero]at h;rw[<-h]at hQ;exact absurd hQ (lt_irrefl _)
 ·exact absurd e hu
theorem Mx(u w Q:RE):((u-(0))*(u-(w)))+((w-(0))*(u-(w)))+((Q-(u*u)))+((w*w-(Q)))=0:=by grind
theorem JD(u w Q:RE)(h1:u*u=Q)(h2:w*w=Q)(h3:0<u)(h4:0<w):u<=w:=λhg=>far (aK (aK (aK (mul_pos (aL h3) (aL hg)) (le_of_lt (mul_pos (aL h4) (aL hg)))) (aG (ge h1))) (aG (mZ h2))) (Mx u w Q)
theorem Lg(u w Q:RE):((0-(u))*(u-(w)))+((0-(w))*(u-(w)))+((u*u-(Q)))+((Q-(w*w)))=0:=by grind
theorem I5(u w Q:RE)(h1:u*u=Q)(h2:w*w=Q)(h3:u<0)(h4:w<0):u<=w:=λhg=>far (aK (aK (aK (mul_pos (aL h3) (aL hg)) (le_of_lt (mul_pos (aL h4) (aL hg)))) (aG (mZ h1))) (aG (ge h2))) (Lg u w Q)
theorem EY(x y c:RE)(h1:x-c<y-c):x<y:=by grind
theorem LB(x y c:RE)(h1:x-c=y-c):x<=y:=by grind
theorem LN(x y c:RE)(h1:x-c=y-c):y<=x:=by grind
theorem gf(x y c:RE)(h1:x-c=y-c):x=y:=le_antisymm (LB x y c h1) (LN x y c h1)
theorem E5(x c:RE): -x- -c= -(x-c):=by grind
theorem Vw(x y:RE): -x- -y=y-x:=by grind
theorem acA(a b r:RE): -a+ -b*r= -(a+b*r):=by grind
theorem MX(x q:RE)(h1:x+ -q=0):x<=q:=by grind
theorem MO(x q:RE)(h1:x+ -q=0):q<=x:=by grind
theorem Kh(x q:RE)(h1:x+ -q=0):x=q:=le_antisymm (MX x q h1) (MO x q h1)
section
variable {x y x' y' cx cy Q:RE}
theorem dm(hQ:0<Q)(h:(x-cx)*(x-cx)+(y-cy)*(y-cy)=Q)(h':(x'-cx)*(x'-cx)+(y'-cy)*(y'-cy)=Q){L:List RE}(hx:x∈L)(hx':x'∈L):
  nZ (cls (x-cx) (y-cy)) (rk (λa b:RE=>a<b) L x) (cls (x'-cx) (y'-cy)) (rk (λa b:RE=>a<b) L x')=true:=by
 unfold nZ;rw[ang];have vv:∀{u v:RE},u*u+v*v=Q->v=0->u*u=Q:=λh e=>by rw[e,mul_zero,add_zero]at h;exact h
 refine⟨?_,?_⟩
 ·by_cases e:cls (x-cx) (y-cy)=0
  ·obtain⟨e1,e2⟩:=Ja.1 e;rw[e];by_cases e':cls (x'-cx) (y'-cy)=0
   ·obtain⟨f1,f2⟩:=Ja.1 e';rw[e'];have:=gf _ _ cx (le_antisymm (JD _ _ _ (vv h e1) (vv h' f1) e2 f2) (JD _ _ _ (vv h' f1) (vv h e1) f2 e2));rw[this];simp
   ·have hle:=aeU _ _ _ _ _ h h' e1 e2 (c9 (y'-cy))
    have hlt:x'-cx<x-cx:=by
     rcases n8 (x'-cx) (x-cx)with g|g|g
     ·exact g
     ·exfalso;have z:=Pm (x-cx) (x'-cx) (y'-cy) Q (vv h e1) h' (by rw[g]);exact e' (Ja.2 ⟨xH z,by rw[g];exact e2⟩)
     ·exact absurd g ((DQ _ _).1 hle)
    have:=Ai lt_lin (EY _ _ _ hlt) hx';rw[show(cls (x'-cx) (y'-cy)==0)=false by simp[e']];simp[this]
  ·simp[e]
 ·by_cases e:cls (x-cx) (y-cy)=2
  ·obtain⟨e1,e2⟩:=KR.1 e;have e3:=wk hQ h e1 e2;rw[e];by_cases e':cls (x'-cx) (y'-cy)=2
   ·obtain⟨f1,f2⟩:=KR.1 e';have f3:=wk hQ h' f1 f2;rw[e'];have:=gf _ _ cx (le_antisymm (I5 _ _ _ (vv h e1) (vv h' f1) e3 f3) (I5 _ _ _ (vv h' f1) (vv h e1) f3 e3));rw[this];simp
   ·have hle:=ae0 _ _ _ _ _ h h' e1 e3 (c9 (y'-cy))
    have hlt:x-cx<x'-cx:=by
     rcases n8 (x-cx) (x'-cx)with g|g|g
     ·exact g
     ·exfalso;have z:=Pm (x-cx) (x'-cx) (y'-cy) Q (vv h e1) h' (by rw[g]);exact e' (KR.2 ⟨xH z,by rw[<-g];exact e2⟩)
     ·exact absurd g ((DQ _ _).1 hle)
    have:=Ai lt_lin (EY _ _ _ hlt) hx;rw[show(cls (x'-cx) (y'-cy)==2)=false by simp[e']];simp[this]
  ·simp[e]
end
def onCi(c:Ln)(p:Pt):Prop:=(pX p-of c.1)*(pX p-of c.1)+(pY p-of c.2.1)*(pY p-of c.2.1)=of c.2.2
theorem ins_on{c:Ln}{p:Pt}[Rpd p](h:qn c p=0):onCi c p:=by
 rw[DO]at h;exact Kh _ _ (qK.1 (Int.neg_eq_zero.1 h))
theorem jc{c:Ln}{p:Pt}[Rpd p]:upR c p=upA (cls (pX p-of c.1) (pY p-of c.2.1)):=by
 unfold upR;rw[cmpTR_re KB,cmpTR_re mW,uX,Xg,adU]
theorem EM(p:Pt):pX (flP p)= -pX p:=by
 unfold pX flP v2;rw[of_neg,of_neg];exact acA _ _ _
theorem ajb(p:Pt):pY (flP p)=pY p:=rfl
theorem wY{c:Ln}{p:Pt}[h:Rpd p](hQ:0<c.2.2)(hp:onCi c p):upR (flC c) (flP p)=ufA (cls (pX p-of c.1) (pY p-of c.2.1)):=by
 unfold upR;rw[cmpTR_re KB,cmpTR_re mW,uX,Xg,EM,ajb];show(decide (sg (pY p-of c.2.1)>0)||(sg (pY p-of c.2.1)==0&&decide (sg (-pX p-of (-c.1))>0)))=_;rw[of_neg,E5,tF];exact ad3 (fS hQ) hp
theorem fP{L:List RE}{p q:Pt}[Rpd p][Rpd q](hp:pX p∈L)(hq:pX q∈L):bi (xP p) (xP q)=cI (rk (λa b:RE=>a<b) L (pX p)) (rk (λa b:RE=>a<b) L (pX q)):=by
 rw[cmpT_re mW mW,uX,uX];exact tk lt_lin sg_cmpO hp hq
theorem pL{L:List RE}{p q:Pt}[Rpd p][Rpd q](hp:pX p∈L)(hq:pX q∈L):bi (xP (flP p)) (xP (flP q))=dI (rk (λa b:RE=>a<b) L (pX p)) (rk (λa b:RE=>a<b) L (pX q)):=by
 rw[cmpT_re mW mW,uX,uX,EM,EM,Vw];exact tk lt_lin sg_cmpO hq hp
theorem arc_eq{ci:Ln}{F P T:Pt}[Rpd F][Rpd P][Rpd T](hQ:0<ci.2.2)(hF:onCi ci F)(hP:onCi ci P)(hT:onCi ci T):
  decide (iE bi (ptd ci F) (ptd ci P) (ptd ci T)<=0)=(decide (kU bi (ptd ci F) (ptd ci F) (ptd ci P)<=0)&&decide (kU bi (ptd ci F) (ptd ci P) (ptd ci T)<=0))/\
  decide (iE bi (ptd ci T) (ptd ci P) (ptd ci F)<=0)=(decide (kU bi (ptd (flC ci) (flP F)) (ptd (flC ci) (flP F)) (ptd (flC ci) (flP P))<=0)&&decide (kU bi (ptd (flC ci) (flP F)) (ptd (flC ci) (flP P)) (ptd (flC ci) (flP T))<=0)):=by
 have mF:pX F∈[pX F,pX P,pX T]:=by simp
 have mP:pX P∈[pX F,pX P,pX T]:=by simp
 have mT:pX T∈[pX F,pX P,pX T]:=by simp
 have hq:0<of ci.2.2:=fS hQ;have bF:=jE lt_lin mF;have bP:=jE lt_lin mP;have bT:=jE lt_lin mT;have cF:=iX (pX F-of ci.1) (pY F-of ci.2.1);have cP:=iX (pX P-of ci.1) (pY P-of ci.2.1);have cT:=iX (pX T-of ci.1) (pY T-of ci.2.1)
 have hcon:Gz (cls (pX F-of ci.1) (pY F-of ci.2.1)) (rk (λa b:RE=>a<b) [pX F,pX P,pX T] (pX F)) (cls (pX P-of ci.1) (pY P-of ci.2.1)) (rk (λa b:RE=>a<b) [pX F,pX P,pX T] (pX P)) (cls (pX T-of ci.1) (pY T-of ci.2.1)) (rk (λa b:RE=>a<b) [pX F,pX P,pX T] (pX T))=true:=by
  unfold Gz;rw[dm hq hF hP mF mP,dm hq hP hF mP mF,dm hq hF hT mF mT,dm hq hT hF mT mF,dm hq hP hT mP mT,dm hq hT hP mT mP];rfl
 have a1:=Uq ⟨_,cF⟩ ⟨_,cP⟩ ⟨_,cT⟩ ⟨_,bF⟩ ⟨_,bP⟩ ⟨_,bT⟩ hcon;have a2:=aeH ⟨_,cF⟩ ⟨_,cP⟩ ⟨_,cT⟩ ⟨_,bF⟩ ⟨_,bP⟩ ⟨_,bT⟩ hcon;simp only at a1 a2;refine⟨?_,?_⟩
 ·unfold ptd;rw[jc,jc,jc,iL (fP mP mF) (fP mT mF) (fP mP mT),gM (fP mF mF) (fP mP mF) (fP mF mP),gM (fP mP mF) (fP mT mF) (fP mP mT)];exact a1
 ·unfold ptd;rw[jc,jc,jc,wY hQ hF,wY hQ hP,wY hQ hT,iL (fP mP mT) (fP mF mT) (fP mP mF),gM (pL mF mF) (pL mP mF) (pL mF mP),gM (pL mP mF) (pL mT mF) (pL mP mT)];exact a2
theorem seg_eq{F P T:Pt}[Rpd F][Rpd P][Rpd T]:wc (aZ F P) (aZ P T)=akG (aZ F T) (aZ F P) (aZ P T):=by
 have mF:pR F∈[pR F,pR P,pR T]:=by simp
 have mP:pR P∈[pR F,pR P,pR T]:=by simp
 have mT:pR T∈[pR F,pR P,pR T]:=by simp
 rw[j8,j8,j8,tk kN jz mF mP,tk kN jz mP mT,tk kN jz mF mT];exact u5 ⟨_,jE kN mF⟩ ⟨_,jE kN mP⟩ ⟨_,jE kN mT⟩
end RE
structure Crv (c:Cv):Prop where
 f:Rpd (frC c)
 t:Rpd (toC c)
 q:c.1=true->0<(ciC c).2.2/\RE.onCi (ciC c) (frC c)/\RE.onCi (ciC c) (toC c)
theorem aj3{c:Cv}(h:Crv c){p:Pt}(hp:Rpd p):onP c p=onR c p:=by
 have hf:=h.f;have ht:=h.t;unfold onP onR;cases hs:gv c p
 ·rfl
 ·simp only[aow];unfold jd co;obtain⟨ar,li,ci,cw,fr,to⟩:=c;have hf:Rpd fr:=hf;have ht:Rpd to:=ht;cases ar
  ·exact RE.seg_eq (F:=fr) (P:=p) (T:=to)
  ·obtain⟨q1,q2,q3⟩:=h.q rfl
   have hi:qn ci p=0:=by
    have:(qn ci p==0)=true:=hs;exact aop.1 this
   obtain⟨e1,e2⟩:=RE.arc_eq (ci:=ci) (F:=fr) (P:=p) (T:=to) q1 q2 (RE.ins_on hi) q3;cases cw
   ·exact e1
   ·exact e2
end
def fH(l:Ln)(p:Pt):Rt:=mkR (-l.2.1*p.1+l.1*p.2.2.1) (-l.2.1*p.2.1+l.1*p.2.2.2.1) p.2.2.2.2
def tn(c:Cv)(p:Pt):Bool:=
 bif decide (bi (fH (lnC c) (frC c)) (fH (lnC c) (toC c))>0)then decide (bi (fH (lnC c) (toC c)) (fH (lnC c) p)<=0)&&decide (bi (fH (lnC c) p) (fH (lnC c) (frC c))<=0)
 else decide (bi (fH (lnC c) (frC c)) (fH (lnC c) p)<=0)&&decide (bi (fH (lnC c) p) (fH (lnC c) (toC c))<=0)
def we(a b:Rt):Rt:=bif decide (bi b a<0)then b else a
def zeV(v:Rat×Rat):Bool:=decide (v.1=0)&&decide (v.2=0)
def qo(c:Ln)(d:Rat×Rat):Pt:=mkP (mkR c.1 d.1 (c.2.2/a9 d d)) (mkR c.2.1 d.2 (c.2.2/a9 d d))
def dM(c:Cv)(d:Rat×Rat):Bool:=bif c.1&&!(zeV d)then onP c (qo (ciC c) d)else c.1
def C1(c:Cv)(v:Rat×Rat):Rt:=we (sqP (frC c) v) (sqP (toC c) v)
def aY(c:Cv)(v:Rat×Rat):Rat×Rat:=cV (ctr (ciC c)) v
def pg(c:Cv)(v:Rat×Rat):Rt:=
 bif c.1 then(bif dM c (aY c v)then mkR (a9 (aY c v) (aY c v)+(ciC c).2.2) (-2) (a9 (aY c v) (aY c v)*(ciC c).2.2)else C1 c v)
 else(bif tn c (atP v)then(a9 (cV v (dZ (lnC c) v)) (cV v (dZ (lnC c) v)),0,0)else C1 c v)
def vF(c:Cv)(v:Rat×Rat)(r:Rat):Int:=bif decide (r<0)then 1 else gQ (pg c v) (r*r)
instance Pu {l:Ln} {p:Pt} [h:Rpd p]:Rdd (fH l p):=by
 have:Nn p.2.2.2.2:=inferInstance;exact uQ
instance ak4 {l:Ln} {p:Pt} {i j:Nat} [h:Bd l i] [h':Bd p j] [hp:Rpd p]:Bd (fH l p) (4*i+4*j+5):=by
 have a1:Bd (-l.2.1*p.1+l.1*p.2.2.1) _:=inferInstance;have a2:Bd (-l.2.1*p.2.1+l.1*p.2.2.2.1) _:=inferInstance;exact(acQ (a:= -l.2.1*p.1+l.1*p.2.2.1) (b:= -l.2.1*p.2.1+l.1*p.2.2.2.1) (c:=p.2.2.2.2)).mono (gn (by omega) (by omega))
theorem Ts(a b:Rt):we a b=a\/we a b=b:=by
 unfold we;cases decide (bi b a<0)
 ·exact .inl rfl
 ·exact .inr rfl
instance Sj {a b:Rt} [h:Rdd a] [h':Rdd b]:Rdd (we a b):=by
 rcases Ts a b with e|e<;>rw[e]<;>assumption
instance ak8 {a b:Rt} {i j:Nat} [h:Bd a i] [h':Bd b j]:Bd (we a b) (mx i j):=by
 rcases Ts a b with e|e<;>rw[e]
 ·exact h.mono (CL _ _)
 ·exact h'.mono (C4 _ _)
theorem jN(d:Rat×Rat):0<=a9 d d:=by
 unfold a9
 have h:∀a:Rat,0<=a*a:=λa=>by
  rcases(by grind:0<=a\/0<= -a)with h|h
  ·exact anw h h
  ·have:=anw h h;grind
 have:=h d.1;have:=h d.2;grind
theorem zn{d:Rat×Rat}(h:zeV d=false):a9 d d≠0:=by
 refine lk ?_;unfold zeV at h;by_cases e:d.1=0
 ·rw[anb e,aow]at h;exact .inr (an4 h)
 ·exact .inl e
theorem rN(a b d e s:Rat):xn (mkR a d s) (mkR b e s):=by
 unfold xn mkR;cases gR s
 ·simp only[cond_false];by_cases hd:d=0
  ·rw[anb hd];exact .inl rfl
  ·by_cases he:e=0
   ·rw[anb he];exact .inr (.inl rfl)
   ·rw[ane hd,ane he];exact .inr (.inr rfl)
 ·exact .inl rfl
theorem Dk{a b:Rat}(ha:0<=a)(hb:0<=b):0<=a/b:=by
 by_cases h0:b=0
 ·rw[h0,apb,Rat.inv_zero,Rat.mul_zero];exact aqm
 ·rcases(by grind:0<=a/b\/0< -(a/b))with h|h
  ·exact h
  ·have h1:=anE h (show 0<b by grind);have h2:a/b*b=a:=anx h0;grind
class Cir (c:Ln):Prop where q:0<c.2.2
instance aeV {c:Ln} {d:Rat×Rat} [h:Cir c]:Nn (c.2.2/a9 d d):=⟨Dk (by have:=h.q;grind) (jN d)⟩
instance amo {c:Ln} {d:Rat×Rat} [h:Cir c]:Rpd (qo c d):=aar uQ uQ (rN _ _ _ _ _)
instance XJ {c:Ln} {d:Rat×Rat} [h:Cir c]:Nn (a9 d d*c.2.2):=⟨anw (jN d) (by have:=h.q;grind)⟩
instance amf {c:Ln} {d:Rat×Rat} {i j:Nat} [h:Bd c i] [h':Bd d j]:Bd (qo c d) (2*i+5*j+2):=by
 have s1:Bd (c.2.2/a9 d d) _:=inferInstance;have a1:Bd (mkR c.1 d.1 (c.2.2/a9 d d)) _:=inferInstance;have a2:Bd (mkR c.2.1 d.2 (c.2.2/a9 d d)) _:=inferInstance;have b1:=a1.mono (k:=2*i+5*j+2) (by omega);have b2:=a2.mono (k:=2*i+5*j+2) (by omega);have e:∀n,mx n n=n:=λn=>by unfold mx;rw[anb (ani n)];rfl
 exact(acH (h:=b1) (h':=b2)).mono (by
  simp only[e];refine gn (by omega) (gn (by omega) (gn (by omega) (gn (by omega) (gn (by omega) (by omega))))))
def Vr(d a b a' b':Int):Bool:=bif decide (d>0)then decide (b'<=0)&&decide (a'<=0)else decide (a<=0)&&decide (b<=0)
theorem V0:∀f p t:Fin 3,wc (cI f.1 p.1) (cI p.1 t.1)=Vr (cI f.1 t.1) (cI f.1 p.1) (cI p.1 t.1) (cI p.1 f.1) (cI t.1 p.1):=by decide+kernel
theorem VV(a b:Int):wc (-a) (-b)=wc a b:=by
 unfold wc;have e1:(-a==0)=(a==0):=aps.2 (by simp only[aop];omega);have e2:(-b==0)=(b==0):=aps.2 (by simp only[aop];omega);have e3:(-a== -b)=(a==b):=aps.2 (by simp only[aop];omega);rw[e1,e2,e3]
namespace RE
theorem Ou(a b x s y t r:RE): -b*x+a*y+(-b*s+a*t)*r= -b*(x+s*r)+a*(y+t*r):=by grind
theorem akd(a b x y u w:RE):(a*a+b*b)*(x-u)= -b*(-b*x+a*y-(-b*u+a*w))+a*(a*x+b*y-(a*u+b*w)):=by grind
theorem ag4(a b x y u w:RE):(a*a+b*b)*(y-w)=a*(-b*x+a*y-(-b*u+a*w))+b*(a*x+b*y-(a*u+b*w)):=by grind
theorem VP(a b c x y u w:RE)(h:a*x+b*y=c)(h':a*u+b*w=c):(a*a+b*b)*(x-u)= -b*(-b*x+a*y-(-b*u+a*w)):=by
 rw[akd a b x y u w,h,h',sub_self,mul_zero,add_zero]
theorem UI(a b c x y u w:RE)(h:a*x+b*y=c)(h':a*u+b*w=c):(a*a+b*b)*(y-w)=a*(-b*x+a*y-(-b*u+a*w)):=by
 rw[ag4 a b x y u w,h,h',sub_self,mul_zero,add_zero]
def tL(l:Ln)(p:Pt):RE:= -of l.2.1*pX p+of l.1*pY p
theorem P8(l:Ln){p:Pt}[_h:Rpd p]:vR (fH l p)=tL l p:=by
 unfold fH tL pX pY;rw[vR_mk];unfold v2;simp only[of_add,aC,of_neg];exact Ou _ _ _ _ _ _ _
theorem uu{l:Ln}{p q:Pt}[Rpd p][Rpd q]:bi (fH l p) (fH l q)=sg (tL l p-tL l q):=by
 rw[cmpT_re (Pu (l:=l) (p:=p)).nn (Pu (l:=l) (p:=q)).nn,P8,P8]
def sC(l:Ln)(p:Pt):Prop:=of l.1*pX p+of l.2.1*pY p=of l.2.2
theorem GA{l:Ln}{p:Pt}[Rpd p](h:uF l p=0):sC l p:=by
 rw[CW]at h;exact Kh _ _ (qK.1 h)
theorem Qe{l:Ln}{p q:Pt}(hp:sC l p)(hq:sC l q):(of l.1*of l.1+of l.2.1*of l.2.1)*(pX p-pX q)= -of l.2.1*(tL l p-tL l q):=by
 unfold sC at hp hq;unfold tL;exact VP _ _ _ _ _ _ _ hp hq
theorem Oi{l:Ln}{p q:Pt}(hp:sC l p)(hq:sC l q):(of l.1*of l.1+of l.2.1*of l.2.1)*(pY p-pY q)=of l.1*(tL l p-tL l q):=by
 unfold sC at hp hq;unfold tL;exact UI _ _ _ _ _ _ _ hp hq
theorem pV{a b:Rat}(h:a≠0\/b≠0):0<of a*of a+of b*of b:=by
 have h1:=lk h
 have h2:0<=a*a:=by
  rcases(by grind:0<=a\/0<= -a)with h|h
  ·exact anw h h
  ·have:=anw h h;grind
 have h3:0<=b*b:=by
  rcases(by grind:0<=b\/0<= -b)with h|h
  ·exact anw h h
  ·have:=anw h h;grind
 rw[<-aC,<-aC,<-of_add];exact fS (by grind)
theorem Pk{q:Rat}(h:q≠0):sg (of q)=1\/sg (of q)= -1:=by
 rw[sg_of];rcases(by grind:q<0\/0<q)with h'|h'
 ·exact .inr (dU h')
 ·exact .inl (dG h')
theorem Q8{l:Ln}(hl:l.1≠0\/l.2.1≠0):∃s:Int,(s=1\/s= -1)/\∀p q:Pt,Rpd p->Rpd q->sC l p->sC l q->aZ p q=s*sg (tL l p-tL l q):=by
 have hn:=pV hl;by_cases hb:l.2.1=0
 ·have ha:l.1≠0:=hl.resolve_right (λh=>h hb);refine⟨sg (of l.1),Pk ha,λp q hp hq op oq=>?_⟩;rw[j8];unfold lxc pR;have e1:=Qe op oq;have e2:=Oi op oq;have s1:=congrArg sg e1;have s2:=congrArg sg e2;rw[dA,dD hn,dA,hb,pI,FJ,du]at s1;rw[dA,dD hn,dA]at s2;rw[show sg (pX p-pX q)=0 by omega];show sg (pY p-pY q)=_;omega
 ·refine⟨-sg (of l.2.1),by rcases Pk hb with h|h<;>rw[h]<;>simp,λp q hp hq op oq=>?_⟩;rw[j8];unfold lxc pR;have e1:=Qe op oq;have e2:=Oi op oq;have s1:=congrArg sg e1;have s2:=congrArg sg e2;rw[dA,dD hn,dA,tF]at s1;rw[dA,dD hn,dA]at s2;rcases bj (tL l p-tL l q)with⟨_,h⟩|⟨_,h⟩|⟨_,h⟩<;>rw[h]at s1 s2 ⊢ <;>rcases Pk hb with g|g<;>rw[g]at s1 ⊢
  all_goals
   simp only[aor,apw,apt,ap6,Int.neg_neg]at s1 s2 ⊢;try rw[s1]
   try rw[s2]
   try rfl
theorem QV{l:Ln}(hl:l.1≠0\/l.2.1≠0){F P T:Pt}[hF:Rpd F][hP:Rpd P][hT:Rpd T](oF:sC l F)(oP:sC l P)(oT:sC l T):
  wc (aZ F P) (aZ P T)=Vr (sg (tL l F-tL l T)) (sg (tL l F-tL l P)) (sg (tL l P-tL l T)) (sg (tL l P-tL l F)) (sg (tL l T-tL l P)):=by
 obtain⟨s,hs,h⟩:=Q8 hl;have mF:tL l F∈[tL l F,tL l P,tL l T]:=by simp
 have mP:tL l P∈[tL l F,tL l P,tL l T]:=by simp
 have mT:tL l T∈[tL l F,tL l P,tL l T]:=by simp
 have e:wc (aZ F P) (aZ P T)=wc (sg (tL l F-tL l P)) (sg (tL l P-tL l T)):=by
  rw[h F P hF hP oF oP,h P T hP hT oP oT];rcases hs with rfl|rfl
  ·rw[aor,aor]
  ·rw[show(-1:Int)*sg (tL l F-tL l P)= -sg (tL l F-tL l P) by omega,show(-1:Int)*sg (tL l P-tL l T)= -sg (tL l P-tL l T) by omega,VV]
 have c:=λ{x y:RE} (hx:x∈[tL l F,tL l P,tL l T]) (hy:y∈[tL l F,tL l P,tL l T])=>tk lt_lin sg_cmpO hx hy;rw[e,c mF mP,c mP mT,c mF mT,c mP mF,c mT mP];exact V0 ⟨_,jE lt_lin mF⟩ ⟨_,jE lt_lin mP⟩ ⟨_,jE lt_lin mT⟩
end RE
theorem Cf{l:Ln}(hl:l.1≠0\/l.2.1≠0)(v:Rat×Rat):l.1*(dZ l v).1+l.2.1*(dZ l v).2=l.2.2:=by
 have hn:=lk hl
 have he:ou l v*(l.1*l.1+l.2.1*l.2.1)=l.1*v.1+l.2.1*v.2-l.2.2:=by
  unfold ou;exact anx hn
 unfold dZ;simp only;grind
theorem Ia(l:Ln)(v:Rat×Rat): -l.2.1*(dZ l v).1+l.1*(dZ l v).2= -l.2.1*v.1+l.1*v.2:=by
 unfold dZ;simp only;grind
def gdC(c:BCU):Prop:=okC 580 c/\gv (dC c) (frC (dC c))=true/\gv (dC c) (toC (dC c))=true
theorem nM{k:Nat}{x:BP}(h:okP k x):Rpd (dec x):=by
 obtain⟨p,rfl,bp,rp⟩:=bU h;rw[aA];exact rp
section
namespace RE
abbrev PE:=RE×RE
def crs(u w:PE):RE:=u.1*w.2-u.2*w.1
def dtE(u w:PE):RE:=u.1*w.1+u.2*w.2
def ysC(k:Nat):Int:=if k=1 then 1 else if k=3 then-1 else 0
def msC(i:Nat):Int:=(i:Int)-3
def crI(k i l j:Nat):Int:=addS (kV (msC i)*ysC l) (-(ysC k*kV (msC j))) (cI (msC i).natAbs (msC j).natAbs)
def Ey(k i l j:Nat):Bool:=(k !=0||decide (0<msC i))&&(k !=2||decide (msC i<0))&&(!(k==0||k==2)||(bif l==0||l==2 then(msC i).natAbs==(msC j).natAbs else decide ((msC j).natAbs<(msC i).natAbs)))
def HZ(a b c:Int):Bool:=bif decide (0<=a)then decide (0<=b)&&decide (0<=c)else !(decide (c<0)&&decide (b<0))
theorem XC:∀kF kT:Fin 4,∀iF iT:Fin 7,(Ey kF.1 iF.1 kT.1 iT.1&&Ey kT.1 iT.1 kF.1 iF.1&&!(kF.1==kT.1&&iF.1==iT.1))=true->∀kP:Fin 4,∀iP:Fin 7,(Ey kF.1 iF.1 kP.1 iP.1&&Ey kP.1 iP.1 kF.1 iF.1&&Ey kT.1 iT.1 kP.1 iP.1&&Ey kP.1 iP.1 kT.1 iT.1)=true->
  decide (iE cI (upA kF.1,iF.1) (upA kP.1,iP.1) (upA kT.1,iT.1)<=0)=HZ (crI kF.1 iF.1 kT.1 iT.1) (crI kF.1 iF.1 kP.1 iP.1) (crI kP.1 iP.1 kT.1 iT.1):=by decide+kernel
theorem JT{x:RE}(h:x≠0):0<x*x:=by
 rcases n8 x 0 with e|e|e
 ·have:=mul_pos (kE e) (kE e);rw[neg_mul,mul_neg,neg_neg]at this;exact this
 ·exact absurd e h
 ·exact mul_pos e e
theorem HQ(i j:Nat):cI i j=kV ((i:Int)-(j:Int)):=by
 unfold cI kV;by_cases h:i<j
 ·rw[anH h,anH (by omega)]
 ·by_cases h':i=j
  ·rw[anA h,anH h',anA (by omega),anH (by omega)]
  ·rw[anA h,anA h',anA (by omega),anA (by omega)]
theorem DA{n:Int}(h:0<n):kV n=1:=by unfold kV;rw[anA (by omega),anA (by omega)]
theorem CA{n:Int}(h:n<0):kV n= -1:=by unfold kV;rw[anH h]
def rkS(L:List RE)(x:RE):Nat:=rk (λa b:RE=>a<b) (0::L) (x*x)
def mI(L:List RE)(x:RE):Int:=sg x*(rkS L x:Int)
def ixL(L:List RE)(x:RE):Nat:=(mI L x+3).toNat
theorem j9{L:List RE}{x:RE}(h:x≠0):0<rkS L x:=by
 unfold rkS rk;rw[anH (JT h)];omega
theorem J3{L:List RE}{x y:RE}(hx:x*x∈L)(hy:y*y∈L):sg (x*x-y*y)=cI (rkS L x) (rkS L y):=tk (c:=λx y=>sg (x-y)) lt_lin sg_cmpO (ann _ hx) (ann _ hy)
theorem Jg{x:RE}(h:0<x):x≠0:=λe=>by rw[e]at h;exact lt_irrefl _ h
theorem JP{x:RE}(h:x<0):x≠0:=λe=>by rw[e]at h;exact lt_irrefl _ h
theorem R7(L:List RE)(x:RE):kV (mI L x)=sg x:=by
 unfold mI;rcases bj x with⟨h,e⟩|⟨h,e⟩|⟨h,e⟩<;>rw[e]
 ·have:=j9 (L:=L) (Jg h);exact DA (by omega)
 ·rw[aqa];rfl
 ·have:=j9 (L:=L) (JP h);exact CA (by omega)
theorem T3(x y:RE)(h1:x<0)(h2:y<0):x+y<0:=by grind
theorem acR(a b c d:RE):a*d*(a*d)- -(b*c)* -(b*c)=a*a*(c*c+d*d)-(a*a+b*b)*(c*c):=by grind
theorem sub_zero(x:RE):x-0=x:=by grind
theorem zero_sub(x:RE):0-x= -x:=by grind
theorem acz(x y c:RE):x-c-(y-c)=x-y:=by grind
theorem ahk(x y q:RE):x*q-q*y=q*(x-y):=by grind
theorem Hi(x y:RE)(h1:x-y=0):x<=y:=by grind
theorem Hd(x y:RE)(h1:x-y=0):y<=x:=by grind
theorem gV(x y:RE)(h1:x-y=0):x=y:=le_antisymm (Hi x y h1) (Hd x y h1)
theorem L5(a b c:RE)(h1:a+b=a+c):b<=c:=by grind
theorem LS(a b c:RE)(h1:a+b=a+c):c<=b:=by grind
theorem Tf(a b c:RE)(h1:a+b=a+c):b=c:=le_antisymm (L5 a b c h1) (LS a b c h1)
theorem EJ(x y:RE):((x-(0))*(x-(y)))+((y-(0))*(x-(y)))+((y*y-(x*x)))=0:=by grind
theorem LJ(x y:RE)(h1:x*x=y*y)(h2:0<x)(h3:0<y):x<=y:=λhg=>far (aK (aK (mul_pos (aL h2) (aL hg)) (le_of_lt (mul_pos (aL h3) (aL hg)))) (aG (ge h1))) (EJ x y)
theorem FQ(x y:RE):((x-(0))*(y-(x)))+((y-(0))*(y-(x)))+((x*x-(y*y)))=0:=by grind
theorem Ly(x y:RE)(h1:x*x=y*y)(h2:0<x)(h3:0<y):y<=x:=λhg=>far (aK (aK (mul_pos (aL h2) (aL hg)) (le_of_lt (mul_pos (aL h3) (aL hg)))) (aG (mZ h1))) (FQ x y)
theorem Sa(x y:RE)(h1:x*x=y*y)(h2:0<x)(h3:0<y):x=y:=le_antisymm (LJ x y h1 h2 h3) (Ly x y h1 h2 h3)
theorem Fq(x y:RE):((0-(x))*(x-(y)))+((0-(y))*(x-(y)))+((x*x-(y*y)))=0:=by grind
theorem Lu(x y:RE)(h1:x*x=y*y)(h2:x<0)(h3:y<0):x<=y:=λhg=>far (aK (aK (mul_pos (aL h2) (aL hg)) (le_of_lt (mul_pos (aL h3) (aL hg)))) (aG (mZ h1))) (Fq x y)
theorem D3(x y:RE):((0-(x))*(y-(x)))+((0-(y))*(y-(x)))+((y*y-(x*x)))=0:=by grind
theorem LP(x y:RE)(h1:x*x=y*y)(h2:x<0)(h3:y<0):y<=x:=λhg=>far (aK (aK (mul_pos (aL h2) (aL hg)) (le_of_lt (mul_pos (aL h3) (aL hg)))) (aG (ge h1))) (D3 x y)
theorem OA(x y:RE)(h1:x*x=y*y)(h2:x<0)(h3:y<0):x=y:=le_antisymm (Lu x y h1 h2 h3) (LP x y h1 h2 h3)
theorem LX(x y:RE)(h1:x-y<=0):x<=y:=by grind
theorem W4(x y:RE)(h1:x<=y):x-y<=0:=by grind
theorem S3{x y:RE}(hx:0<x)(hy:0<y):sg (x*x-y*y)=sg (x-y):=by
 rw[<-Iq,dA,dD (RI _ _ hx hy),aor]
theorem Qt{x y:RE}(hx:x<0)(hy:y<0):sg (x*x-y*y)= -sg (x-y):=by
 rw[<-Iq,dA,iw (T3 _ _ hx hy)];omega
theorem adI{L:List RE}{x y:RE}(hx:x*x∈L)(hy:y*y∈L):kV (mI L x-mI L y)=sg (x-y):=by
 have hc:=J3 hx hy;unfold mI;rcases bj x with⟨h,e⟩|⟨h,e⟩|⟨h,e⟩<;>rcases bj y with⟨h',e'⟩|⟨h',e'⟩|⟨h',e'⟩<;>rw[e,e']
 ·rw[<-S3 h h',hc,HQ,aor,aor]
 ·have:=j9 (L:=L) (Jg h);rw[h',sub_zero,e];exact DA (by omega)
 ·have:=j9 (L:=L) (Jg h);rw[dD (NR _ _ h h')];exact DA (by omega)
 ·have:=j9 (L:=L) (Jg h');rw[h,zero_sub,tF,e'];exact CA (by omega)
 ·rw[h,h',sub_self,du,aqa];rfl
 ·have:=j9 (L:=L) (JP h');rw[h,zero_sub,tF,e'];exact DA (by omega)
 ·have:=j9 (L:=L) (JP h);rw[iw (NJ _ _ h h')];exact CA (by omega)
 ·have:=j9 (L:=L) (JP h);rw[h',sub_zero,e];exact CA (by omega)
 ·have h2:=Qt h h';rw[hc,HQ]at h2;have:sg (x-y)= -kV ((rkS L x:Int)-(rkS L y:Int)):=by omega
  rw[this];unfold kV;split<;>split<;>(try split)<;>(try split)<;>omega
theorem QF{L:List RE}{x y:RE}(hx:x*x∈L)(hy:y*y∈L):cI (mI L x).natAbs (mI L y).natAbs=sg (x*x-y*y):=by
 have hc:=J3 hx hy
 have ab:∀z:RE,z≠0->(mI L z).natAbs=rkS L z:=λz hz=>by
  unfold mI;rcases bj z with⟨h,e⟩|⟨h,e⟩|⟨h,e⟩<;>rw[e]
  ·omega
  ·exact absurd h hz
  ·omega
 have ab0:(mI L 0).natAbs=0:=by unfold mI;rw[du,aqa];rfl
 by_cases h:x=0
 ·subst h;by_cases h':y=0
  ·subst h';rw[sub_self,du];unfold cI;rw[anA (by omega),anH rfl]
  ·have:=j9 (L:=L) h';rw[ab0,ab y h',mul_zero,zero_sub,tF,dD (JT h')];unfold cI;rw[anH (by omega)]
 ·by_cases h':y=0
  ·subst h';have:=j9 (L:=L) h;rw[ab0,ab x h,mul_zero,sub_zero,dD (JT h)];unfold cI;rw[anA (by omega),anA (by omega)]
  ·rw[ab x h,ab y h',hc]
theorem adn{L:List RE}{x:RE}(hL:L.length=3)(hx:x*x∈L):rkS L x<=3:=by
 have:=jE lt_lin (ann (0:RE) hx);rw[ans,hL]at this;unfold rkS;omega
theorem JC{L:List RE}{x:RE}(hL:L.length=3)(hx:x*x∈L): -3<=mI L x/\mI L x<=3:=by
 have h1:=adn hL hx;have h2:=aa7 x;unfold mI;rcases(by omega:sg x= -1\/sg x=0\/sg x=1)with e|e|e<;>rw[e]<;>omega
theorem K6{L:List RE}{x:RE}(hL:L.length=3)(hx:x*x∈L):msC (ixL L x)=mI L x:=by
 have:=JC hL hx;unfold msC ixL;omega
theorem T1{L:List RE}{x:RE}(hL:L.length=3)(hx:x*x∈L):ixL L x<7:=by
 have:=JC hL hx;unfold ixL;omega
theorem Nh{L:List RE}{x y:RE}(hL:L.length=3)(hx:x*x∈L)(hy:y*y∈L):cI (ixL L x) (ixL L y)=sg (x-y):=by
 have h1:=JC hL hx;have h2:=JC hL hy;rw[HQ,<-adI hx hy];unfold ixL;congr 1;omega
theorem zh(u v:RE):ysC (cls u v)=sg v:=by
 unfold cls ysC;rcases bj v with⟨_,h⟩|⟨_,h⟩|⟨_,h⟩<;>rcases bj u with⟨_,h'⟩|⟨_,h'⟩|⟨_,h'⟩<;>rw[h,h']<;>rfl
section
variable {u w:PE} {Q:RE} {L:List RE}
theorem HX(hQ:0<Q)(hu:u.1*u.1+u.2*u.2=Q)(hw:w.1*w.1+w.2*w.2=Q)(hL:L.length=3)(mu:u.1*u.1∈L)(mw:w.1*w.1∈L):sg (crs u w)=crI (cls u.1 u.2) (ixL L u.1) (cls w.1 w.2) (ixL L w.1):=by
 unfold crs crI;show sg (u.1*w.2+ -(u.2*w.1))=_;rw[Ix,acR,hu,hw,ahk,dA Q,dD hQ,aor,tF,dA u.1,dA u.2,K6 hL mu,K6 hL mw,QF mu mw,R7,R7,zh,zh]
theorem rO(hQ:0<Q)(hu:u.1*u.1+u.2*u.2=Q)(hw:w.1*w.1+w.2*w.2=Q)(hL:L.length=3)(mu:u.1*u.1∈L)(mw:w.1*w.1∈L):Ey (cls u.1 u.2) (ixL L u.1) (cls w.1 w.2) (ixL L w.1)=true:=by
 have cb:=iX u.1 u.2
 have y0:∀a b:RE,(cls a b==0||cls a b==2)=true↔b=0:=λa b=>by
  have:=zh a b;have hb:=iX a b;rw[<-qK,<-this];unfold ysC;constructor
  ·intro h;simp at h;rcases h with h|h<;>rw[h]<;>rfl
  ·intro h;rcases(by omega:cls a b=0\/cls a b=1\/cls a b=2\/cls a b=3)with e|e|e|e<;>rw[e]at h ⊢ <;>simp at h ⊢
 unfold Ey;rw[K6 hL mu,K6 hL mw,ang,ang];have ms:=R7 L u.1;refine⟨⟨?_,?_⟩,?_⟩
 ·by_cases e:cls u.1 u.2=0
  ·have h:=(Ja.1 e).2;rw[dD h]at ms
   have:0<mI L u.1:=by
    unfold kV at ms;split at ms
    ·cases ms
    ·split at ms
     ·cases ms
     ·omega
   simp[this]
  ·simp[e]
 ·by_cases e:cls u.1 u.2=2
  ·have h:=KR.1 e;rw[iw (wk hQ hu h.1 h.2)]at ms
   have:mI L u.1<0:=by
    unfold kV at ms;split at ms
    ·omega
    ·split at ms<;>cases ms
   simp[this]
  ·simp[e]
 ·cases hc:(cls u.1 u.2==0||cls u.1 u.2==2)
  ·rfl
  ·have hv:=(y0 _ _).1 hc;have hu':u.1*u.1=Q:=by rw[hv,mul_zero,add_zero]at hu;exact hu
   have ha:=QF mu mw;cases hd:(cls w.1 w.2==0||cls w.1 w.2==2)
   ·have hz:w.2≠0:=λe=>by rw[(y0 _ _).2 e]at hd;cases hd
    have hlt:w.1*w.1<u.1*u.1:=by
     rw[hu',<-hw];have:=l7 (w.1*w.1) (JT hz);rw[zero_add,add_comm]at this;exact this
    rw[dD (aL hlt)]at ha
    have:(mI L w.1).natAbs<(mI L u.1).natAbs:=by
     unfold cI at ha;split at ha
     ·cases ha
     ·split at ha
      ·cases ha
      ·omega
    simp[this]
   ·have hz:=(y0 _ _).1 hd;rw[hz,mul_zero,add_zero]at hw;rw[hu',hw,sub_self,du]at ha
    have:(mI L u.1).natAbs=(mI L w.1).natAbs:=by
     unfold cI at ha;split at ha
     ·cases ha
     ·split at ha
      ·assumption
      ·cases ha
    simp[this]
end
def frm(c:Ln)(p:PE):PE:=(p.1-of c.1,p.2-of c.2.1)
def fx(u w z:PE):Bool:=HZ (sg (crs u w)) (sg (crs u z)) (sg (crs z w))
theorem ye{ci:Ln}{F P T:Pt}[Rpd F][Rpd P][Rpd T](hQ:0<ci.2.2)(hF:onCi ci F)(hP:onCi ci P)(hT:onCi ci T)(hne:pR F≠pR T):
  decide (iE bi (ptd ci F) (ptd ci P) (ptd ci T)<=0)=fx (frm ci (pR F)) (frm ci (pR T)) (frm ci (pR P)):=by
 have hq:0<of ci.2.2:=fS hQ;have hL:[(frm ci (pR F)).1*(frm ci (pR F)).1,(frm ci (pR P)).1*(frm ci (pR P)).1,(frm ci (pR T)).1*(frm ci (pR T)).1].length=3:=rfl;revert hL;generalize hL0:[(frm ci (pR F)).1*(frm ci (pR F)).1,(frm ci (pR P)).1*(frm ci (pR P)).1,(frm ci (pR T)).1*(frm ci (pR T)).1]=L;intro hL;have mF:(frm ci (pR F)).1*(frm ci (pR F)).1∈L:=by rw[<-hL0];simp
 have mP:(frm ci (pR P)).1*(frm ci (pR P)).1∈L:=by rw[<-hL0];simp
 have mT:(frm ci (pR T)).1*(frm ci (pR T)).1∈L:=by rw[<-hL0];simp
 have cF:=iX (frm ci (pR F)).1 (frm ci (pR F)).2;have cP:=iX (frm ci (pR P)).1 (frm ci (pR P)).2;have cT:=iX (frm ci (pR T)).1 (frm ci (pR T)).2;have hF:(frm ci (pR F)).1*(frm ci (pR F)).1+(frm ci (pR F)).2*(frm ci (pR F)).2=of ci.2.2:=hF;have hP:(frm ci (pR P)).1*(frm ci (pR P)).1+(frm ci (pR P)).2*(frm ci (pR P)).2=of ci.2.2:=hP;have hT:(frm ci (pR T)).1*(frm ci (pR T)).1+(frm ci (pR T)).2*(frm ci (pR T)).2=of ci.2.2:=hT
 have hd:(!(cls (frm ci (pR F)).1 (frm ci (pR F)).2==cls (frm ci (pR T)).1 (frm ci (pR T)).2&&ixL L (frm ci (pR F)).1==ixL L (frm ci (pR T)).1))=true:=by
  cases h1:cls (frm ci (pR F)).1 (frm ci (pR F)).2==cls (frm ci (pR T)).1 (frm ci (pR T)).2
  ·rfl
  ·cases h2:ixL L (frm ci (pR F)).1==ixL L (frm ci (pR T)).1
   ·rfl
   ·exfalso;have h1:=aop.1 h1;have h2:=aop.1 h2;have h3:=Nh hL mF mT;rw[h2]at h3;have e0:∀n,cI n n=0:=λn=>by unfold cI;rw[anA (by omega),anH rfl]
    rw[e0]at h3;have ex:(frm ci (pR F)).1=(frm ci (pR T)).1:=gV _ _ (qK.1 h3.symm);have ey:sg (frm ci (pR F)).2=sg (frm ci (pR T)).2:=by rw[<-zh (frm ci (pR F)).1,<-zh (frm ci (pR T)).1,h1]
    have es:(frm ci (pR F)).2*(frm ci (pR F)).2=(frm ci (pR T)).2*(frm ci (pR T)).2:=by
     rw[<-hT,ex]at hF;exact Tf _ _ _ hF
    have e2:(frm ci (pR F)).2=(frm ci (pR T)).2:=by
     rcases bj (frm ci (pR F)).2 with⟨g,e⟩|⟨g,e⟩|⟨g,e⟩
     ·rw[e]at ey;exact Sa _ _ es g (BZ.1 ey.symm)
     ·rw[e]at ey;rw[g,qK.1 ey.symm]
     ·rw[e]at ey;exact OA _ _ es g (ab1.1 ey.symm)
    exact hne (anN (gf _ _ _ ex) (gf _ _ _ e2))
 have a:=XC ⟨_,cF⟩ ⟨_,cT⟩ ⟨_,T1 hL mF⟩ ⟨_,T1 hL mT⟩ (by
  simp only;rw[rO hq hF hT hL mF mT,rO hq hT hF hL mT mF,hd];rfl) ⟨_,cP⟩ ⟨_,T1 hL mP⟩ (by
  simp only;rw[rO hq hF hP hL mF mP,rO hq hP hF hL mP mF,rO hq hT hP hL mT mP,rO hq hP hT hL mP mT];rfl)
 simp only at a;unfold fx;rw[HX hq hF hT hL mF mT,HX hq hF hP hL mF mP,HX hq hP hT hL mP mT,<-a]
 have cx:∀{p q:Pt} [Rpd p] [Rpd q],(frm ci (pR p)).1*(frm ci (pR p)).1∈L->(frm ci (pR q)).1*(frm ci (pR q)).1∈L->bi (xP p) (xP q)=cI (ixL L (frm ci (pR p)).1) (ixL L (frm ci (pR q)).1):=λ{p q} _ _ hp hq'=>by
  rw[cmpT_re mW mW,uX,uX,Nh hL hp hq',<-acz _ _ (of ci.1)];rfl
 unfold ptd;rw[jc,jc,jc];exact congrArg (λn:Int=>decide (n<=0)) (iL (cx mP mF) (cx mT mF) (cx mP mT))
def gi(c:Ln)(p:PE):Prop:=(frm c p).1*(frm c p).1+(frm c p).2*(frm c p).2=of c.2.2
def eI(l:Ln)(p:PE):Prop:=of l.1*p.1+of l.2.1*p.2=of l.2.2
def tE(l:Ln)(p:PE):RE:= -of l.2.1*p.1+of l.1*p.2
def arcE(c:Ln)(F T p:PE):Prop:=gi c p/\fx (frm c F) (frm c T) (frm c p)=true
def btE(a b x:RE):Prop:=(a<=x/\x<=b)\/(b<=x/\x<=a)
def segE(l:Ln)(F T p:PE):Prop:=eI l p/\btE (tE l F) (tE l T) (tE l p)
def onE(c:Cv)(p:PE):Prop:=if c.1=true then arcE (ciC c) (pR (ccF c)) (pR (ccT c)) p else segE (lnC c) (pR (frC c)) (pR (toC c)) p
structure GdE (c:Cv):Prop where
 f:Rpd (frC c)
 t:Rpd (toC c)
 ne:pR (frC c)≠pR (toC c)
 q:c.1=true->0<(ciC c).2.2/\onCi (ciC c) (frC c)/\onCi (ciC c) (toC c)
 l:c.1=false->((lnC c).1≠0\/(lnC c).2.1≠0)/\sC (lnC c) (frC c)/\sC (lnC c) (toC c)
theorem uJ{c:Ln}{p:Pt}[Rpd p]:(qn c p==0)=true↔gi c (pR p):=by
 rw[aop];refine⟨λh=>ins_on h,λh=>?_⟩;rw[DO];have:(pX p-of c.1)*(pX p-of c.1)+(pY p-of c.2.1)*(pY p-of c.2.1)=of c.2.2:=h;rw[this,nf,du];rfl
theorem Dz{l:Ln}{p:Pt}[Rpd p]:(uF l p==0)=true↔eI l (pR p):=by
 rw[aop];refine⟨λh=>GA h,λh=>?_⟩;rw[CW];have:of l.1*pX p+of l.2.1*pY p=of l.2.2:=h;rw[this,nf,du]
theorem Cg(a b x:RE):Vr (sg (a-b)) (sg (a-x)) (sg (x-b)) (sg (x-a)) (sg (b-x))=true↔btE a b x:=by
 have h1:∀y z:RE,sg (y-z)<=0↔y<=z:=λy z=>by
  rw[aia];exact⟨λh=>LX _ _ h,λh=>W4 _ _ h⟩
 unfold Vr btE;cases h:decide (sg (a-b)>0)
 ·have h2:a<=b:=(h1 _ _).1 (by have:=an4 h;omega);simp only[cond_false,ang,apq,h1];exact⟨λh=>.inl h,λh'=>h'.elim id (λg=>⟨le_trans h2 g.1,le_trans g.2 h2⟩)⟩
 ·have h2:b<=a:=by
   have:=anf h;rcases lt_or_ge a b with g|g
   ·rw[iw (uL _ _ g)]at this;omega
   ·exact g
  simp only[cond_true,ang,apq,h1];exact⟨λh=>.inr ⟨h.1,h.2⟩,λh'=>h'.elim (λg=>⟨le_trans h2 g.1,le_trans g.2 h2⟩) (λg=>⟨g.1,g.2⟩)⟩
theorem fU{c:Cv}(h:GdE c){p:Pt}[hp:Rpd p]:onP c p=true↔onE c (pR p):=by
 have hf:=h.f;have ht:=h.t;obtain⟨ar,li,ci,cw,fr,to⟩:=c;have hf:Rpd fr:=hf;have ht:Rpd to:=ht;unfold onP onE;rw[ang];cases ar
 ·obtain⟨l1,l2,l3⟩:=h.l rfl;rw[anA (by intro h;cases h)];show(uF li p==0)=true/\wc (aZ fr p) (aZ p to)=true↔eI li (pR p)/\btE (tL li fr) (tL li to) (tL li p);rw[Dz];constructor
  ·intro ⟨h1,h2⟩;refine⟨h1,?_⟩;rw[QV (F:=fr) (P:=p) (T:=to) l1 l2 (show sC li p from h1) l3]at h2;exact(Cg _ _ _).1 h2
  ·intro ⟨h1,h2⟩;refine⟨h1,?_⟩;rw[QV (F:=fr) (P:=p) (T:=to) l1 l2 (show sC li p from h1) l3];exact(Cg _ _ _).2 h2
 ·obtain⟨q1,q2,q3⟩:=h.q rfl;have hne:pR fr≠pR to:=h.ne;rw[anH rfl];show(qn ci p==0)=true/\decide (iE bi (ptd ci (ccF (true,li,ci,cw,fr,to))) (ptd ci p) (ptd ci (ccT (true,li,ci,cw,fr,to)))<=0)=true↔gi ci (pR p)/\fx _ _ _=true;rw[uJ];cases cw
  ·constructor
   ·intro ⟨h1,h2⟩;refine⟨h1,?_⟩;have:=ye (ci:=ci) (F:=fr) (P:=p) (T:=to) q1 q2 h1 q3 hne;exact this▸h2
   ·intro ⟨h1,h2⟩;refine⟨h1,?_⟩;have:=ye (ci:=ci) (F:=fr) (P:=p) (T:=to) q1 q2 h1 q3 hne;exact this.trans h2
  ·constructor
   ·intro ⟨h1,h2⟩;refine⟨h1,?_⟩;have:=ye (ci:=ci) (F:=to) (P:=p) (T:=fr) q1 q3 h1 q2 (aoO hne);exact this▸h2
   ·intro ⟨h1,h2⟩;refine⟨h1,?_⟩;have:=ye (ci:=ci) (F:=to) (P:=p) (T:=fr) q1 q3 h1 q2 (aoO hne);exact this.trans h2
end RE
end
section
namespace RE
def dsE(p v:PE):RE:=(p.1-v.1)*(p.1-v.1)+(p.2-v.2)*(p.2-v.2)
def Mn(S:PE->Prop)(v:PE)(m:RE):Prop:=(∃p,S p/\dsE p v=m)/\∀p,S p->m<=dsE p v
open Classical in
def mnE(a b:RE):RE:=if b<a then b else a
theorem Dt{S:PE->Prop}{v F T:PE}(hF:S F)(hT:S T)(h:∀p,S p->dsE F v<=dsE p v\/dsE T v<=dsE p v):Mn S v (mnE (dsE F v) (dsE T v)):=by
 unfold mnE;by_cases e:dsE T v<dsE F v
 ·rw[anH e];exact⟨⟨T,hT,rfl⟩,λp hp=>(h p hp).elim (λg=>le_trans (le_of_lt e) g) id⟩
 ·rw[anA e];exact⟨⟨F,hF,rfl⟩,λp hp=>(h p hp).elim id (λg=>le_trans e g)⟩
theorem afb(a b _c p q v w:RE):(a*a+b*b)*((p-v)*(p-v)+(q-w)*(q-w))=(a*v+b*w-(a*p+b*q))*(a*v+b*w-(a*p+b*q))+(-b*p+a*q-(-b*v+a*w))*(-b*p+a*q-(-b*v+a*w)):=by grind
theorem VW(a b e k v w:RE):(v-a*(e*k)-v)*(v-a*(e*k)-v)+(w-b*(e*k)-w)*(w-b*(e*k)-w)=e*e*k*((a*a+b*b)*k):=by grind
theorem Cf(a b c k v w:RE):a*(v-a*((a*v+b*w-c)*k))+b*(w-b*((a*v+b*w-c)*k))=a*v+b*w-(a*v+b*w-c)*((a*a+b*b)*k):=by grind
theorem aeO(a b x v w:RE): -b*(v-a*x)+a*(w-b*x)= -b*v+a*w:=by grind
theorem LY(x c:RE):x-(x-c)=c:=by grind
theorem Vm(x y:RE):((x*x-(y*y)))+2*((x-(0))*(y-(x)))+((y-(x))*(y-(x)))=0:=by grind
theorem agM(x y:RE)(h1:0<=x)(h2:x<=y):x*x<=y*y:=λhg=>far (aK (aK (aL hg) (jq (by decide+kernel:(0:Rat)<2) (aD (aG h1) (aG h2)))) (aD (aG h2) (aG h2))) (Vm x y)
theorem Ut(x y:RE):((x*x-(y*y)))+((x-(y))*(x-(y)))+2*((x-(y))*(0-(x)))=0:=by grind
theorem ahw(x y:RE)(h1:y<=x)(h2:x<=0):x*x<=y*y:=λhg=>far (aK (aK (aL hg) (aD (aG h1) (aG h1))) (jq (by decide+kernel:(0:Rat)<2) (aD (aG h1) (aG h2)))) (Ut x y)
theorem Ri(n x y s t e:RE):((n-(0))*(x-(y)))+((e+s-(n*x)))+((n*y-(e+t)))+((t-(s)))=0:=by grind
theorem acs(n x y s t e:RE)(h1:0<n)(h2:n*x=e+s)(h3:n*y=e+t)(h4:s<=t):x<=y:=λhg=>far (aK (aK (aK (mul_pos (aL h1) (aL hg)) (aG (ge h2))) (aG (mZ h3))) (aG h4)) (Ri n x y s t e)
theorem alK(a v x:RE)(_h1:v<a)(h2:a<=x):a-v<=x-v:=by grind
theorem ai6(a v:RE)(h1:v<a):0<=a-v:=by grind
theorem alj(a v x:RE)(_h1:a<v)(h2:x<=a):x-v<=a-v:=by grind
theorem ahV(a v:RE)(h1:a<v):a-v<=0:=by grind
theorem asc(n k x:RE):n*x*k=n*k*x:=by grind
theorem LU(e t:RE)(h1:0<=t):e<=e+t:=by grind
theorem HV(x y k:RE):((x*k-(y*k)))+((y-(x))*(k-(0)))=0:=by grind
theorem Oq(x y k:RE)(h1:x<=y)(h2:0<k):x*k<=y*k:=λhg=>far (aK (aL hg) (aD (aG h1) (le_of_lt (aL h2)))) (HV x y k)
theorem yW{n:RE}(h:0<n):∃k,0<k/\n*k=1:=by
 obtain⟨k,hk⟩:=IB n h;refine⟨k,?_,hk⟩;have:=dA n k;rw[hk,dD zero_lt_one,dD h,aor]at this;exact BZ.1 this.symm
def exE(l:Ln)(v:PE):RE:=of l.1*v.1+of l.2.1*v.2-of l.2.2
def nrE(l:Ln):RE:=of l.1*of l.1+of l.2.1*of l.2.1
theorem As{l:Ln}{p v:PE}(h:eI l p):nrE l*dsE p v=exE l v*exE l v+(tE l p-tE l v)*(tE l p-tE l v):=by
 unfold nrE dsE exE tE;rw[afb _ _ (of l.2.2),h]
theorem u5{l:Ln}{F T v:PE}(_hn:0<nrE l)(hb:btE (tE l F) (tE l T) (tE l v)){k:RE}(hk:0<k)(ek:nrE l*k=1):Mn (segE l F T) v (exE l v*exE l v*k):=by
 refine⟨⟨(v.1-of l.1*(exE l v*k),v.2-of l.2.1*(exE l v*k)),⟨?_,?_⟩,?_⟩,λp hp=>?_⟩
 ·show of l.1*(v.1-of l.1*(exE l v*k))+of l.2.1*(v.2-of l.2.1*(exE l v*k))=of l.2.2;unfold exE;rw[Cf];show _-_*(nrE l*k)=_;rw[ek,mul_one,LY]
 ·show btE _ _ (-of l.2.1*(v.1-of l.1*(exE l v*k))+of l.1*(v.2-of l.2.1*(exE l v*k)));rw[aeO];exact hb
 ·show(v.1-of l.1*(exE l v*k)-v.1)*(v.1-of l.1*(exE l v*k)-v.1)+(v.2-of l.2.1*(exE l v*k)-v.2)*(v.2-of l.2.1*(exE l v*k)-v.2)=_;rw[VW];show _*(nrE l*k)=_;rw[ek,mul_one]
 ·have h1:=As (v:=v) hp.1;have h2:=Oq _ _ k (LU (exE l v*exE l v) ((tE l p-tE l v)*(tE l p-tE l v)) (c9 _)) hk;rw[<-h1,asc (nrE l),ek,one_mul]at h2;exact h2
theorem xF{l:Ln}{F T v:PE}(hn:0<nrE l)(hF:eI l F)(hT:eI l T)(hb:¬btE (tE l F) (tE l T) (tE l v)):Mn (segE l F T) v (mnE (dsE F v) (dsE T v)):=by
 have le_of:=λ(p q:PE) (hp:eI l p) (hq:eI l q) (h:(tE l p-tE l v)*(tE l p-tE l v)<=(tE l q-tE l v)*(tE l q-tE l v))=>acs _ _ _ _ _ _ hn (As (v:=v) hp) (As (v:=v) hq) h;have nn:∀p q:PE,eI l p->eI l q->tE l v<tE l p->tE l p<=tE l q->dsE p v<=dsE q v:=λp q hp hq h1 h2=>le_of p q hp hq (agM _ _ (ai6 _ _ h1) (alK _ _ _ h1 h2));have np:∀p q:PE,eI l p->eI l q->tE l p<tE l v->tE l q<=tE l p->dsE p v<=dsE q v:=λp q hp hq h1 h2=>le_of p q hp hq (ahw _ _ (alj _ _ _ h1 h2) (ahV _ _ h1));have sF:segE l F T F:=⟨hF,(lt_or_ge (tE l F) (tE l T)).elim (λh=>.inl ⟨le_refl _,le_of_lt h⟩) (λh=>.inr ⟨h,le_refl _⟩)⟩
 have sT:segE l F T T:=⟨hT,(lt_or_ge (tE l F) (tE l T)).elim (λh=>.inl ⟨le_of_lt h,le_refl _⟩) (λh=>.inr ⟨le_refl _,h⟩)⟩
 refine Dt sF sT λp ⟨hp,hbp⟩=>?_;rcases lt_or_ge (tE l v) (tE l F)with g|g
 ·rcases lt_or_ge (tE l v) (tE l T)with g'|g'
  ·rcases hbp with⟨h1,h2⟩|⟨h1,h2⟩
   ·exact .inl (nn F p hF hp g h1)
   ·exact .inr (nn T p hT hp g' h1)
  ·exact absurd (.inr ⟨g',le_of_lt g⟩) hb
 ·rcases lt_or_ge (tE l T) (tE l v)with g'|g'
  ·rcases lt_or_ge (tE l F) (tE l v)with g2|g2
   ·rcases hbp with⟨h1,h2⟩|⟨h1,h2⟩
    ·exact .inr (np T p hT hp g' h2)
    ·exact .inl (np F p hF hp g2 h2)
   ·exact absurd (.inr ⟨le_of_lt g',g2⟩) hb
  ·exact absurd (.inl ⟨g,g'⟩) hb
theorem ai5(a b x y d e q:RE):(a*y-b*x)*((d*b-e*a)+(d*y-e*x))=((a*d+b*e)-(x*d+y*e))*(q+(a*x+b*y))+(a*d+b*e)*(x*x+y*y-q)-(x*d+y*e)*(a*a+b*b-q):=by grind
theorem plk(a b x y z t d e:RE):(a*y-b*x)*(d*t-e*z)=(z*y-t*x)*(d*b-e*a)+(a*t-b*z)*(d*y-e*x):=by grind
theorem WY(x k m:RE):x+k*0-m*0=x:=by grind
theorem G6(x y:RE)(h1:0<=x)(h2:0<=y):0<=x+y:=by grind
theorem aeG(x y:RE)(h1:x<=0)(h2:y<=0):x+y<=0:=by grind
theorem TJ(x:RE)(h1:0<=x): -x<=0:=by grind
theorem W1(x:RE)(h1:x<=0):0<= -x:=by grind
theorem Gp(x k y:RE):((k-(0))*(0-(x)))+((x*k-(y)))+((y-(0)))=0:=by grind
theorem Mi(x k y:RE)(h1:x*k=y)(h2:0<=y)(h3:0<k):0<=x:=λhg=>far (aK (aK (mul_pos (aL h3) (aL hg)) (aG (mZ h1))) (aG h2)) (Gp x k y)
theorem Mv(x y:RE)(h1:0<=x-y):y<=x:=by grind
theorem ae4(a b x y:RE):(a+x)*(a+x)+(b+y)*(b+y)=a*a+b*b+(x*x+y*y)+((a*x+b*y)+(a*x+b*y)):=by grind
theorem WK(a b x y:RE):(a-x)*(a-x)+(b-y)*(b-y)=a*a+b*b+(x*x+y*y)-((a*x+b*y)+(a*x+b*y)):=by grind
theorem amK(q s t:RE)(h1:t=q+q+(s+s))(h2:0<=t):0<=q+s:=by grind
theorem aln(q s t:RE)(h1:t=q+q+(s+s))(h2:q+s=0):t<=0:=by grind
theorem amJ(q s t:RE)(h1:t=q+q+(s+s))(h2:q+s=0):0<=t:=by grind
theorem q_z(q s t:RE)(h1:t=q+q+(s+s))(h2:q+s=0):t=0:=le_antisymm (aln q s t h1 h2) (amJ q s t h1 h2)
theorem Ur(x y:RE)(h1:x+y=0)(_h2:0<=x)(h3:0<=y):x<=0:=by grind
theorem Sq(x y:RE)(h1:x+y=0)(h2:0<=x)(_h3:0<=y):y<=0:=by grind
theorem ama(a x:RE)(h1:a+x=0):x<= -a:=by grind
theorem ak7(a x:RE)(h1:a+x=0): -a<=x:=by grind
theorem opp(a x:RE)(h1:a+x=0):x= -a:=le_antisymm (ama a x h1) (ak7 a x h1)
theorem lc{x y:RE}(h:x*x+y*y=0):x=0/\y=0:=⟨xH (Ur _ _ h (c9 x) (c9 y)),xH (Sq _ _ h (c9 x) (c9 y))⟩
theorem gl{u z d:PE}{Q:RE}(hu:dtE u u=Q)(hz:dtE z z=Q):crs u z*(crs d u+crs d z)=(dtE u d-dtE z d)*(Q+dtE u z):=by
 unfold dtE at hu hz;unfold crs dtE;rw[ai5 _ _ _ _ _ _ Q,hu,hz,sub_self,WY]
theorem VT(a b c d:RE):a*d-b*c= -(c*b-d*a):=by grind
theorem zY(u w:PE):crs u w= -crs w u:=VT _ _ _ _
theorem amh(u w z d:PE):crs u w*crs d z=crs z w*crs d u+crs u z*crs d w:=plk _ _ _ _ _ _ _ _
theorem zg{u z:PE}{Q:RE}(hu:dtE u u=Q)(hz:dtE z z=Q):0<Q+dtE u z\/z=(-u.1,-u.2):=by
 have h1:(u.1+z.1)*(u.1+z.1)+(u.2+z.2)*(u.2+z.2)=Q+Q+(dtE u z+dtE u z):=by
  rw[ae4];unfold dtE at hu hz ⊢;rw[hu,hz]
 have nn:∀x y:RE,0<=x*x+y*y:=λx y=>G6 _ _ (c9 x) (c9 y);rcases cJ (amK _ _ _ h1 (nn _ _))with h|h
 ·exact .inl h
 ·have h2:=q_z _ _ _ h1 h;obtain⟨a,b⟩:=lc h2;exact .inr (anN (opp _ _ a) (opp _ _ b))
theorem JI{u z d:PE}{Q:RE}(hu:dtE u u=Q)(hz:dtE z z=Q)(hk:0<Q+dtE u z)(h:0<=crs u z*(crs d u+crs d z)):dtE z d<=dtE u d:=by
 rw[gl hu hz]at h;exact Mv _ _ (Mi _ _ _ rfl h hk)
theorem B3(a b c d:RE):(a*d-b*c)*(a*d-b*c)+(a*c+b*d)*(a*c+b*d)=(a*a+b*b)*(c*c+d*d):=by grind
theorem aeQ(s q:RE):(s+q)*(s-q)=s*s-q*q:=by grind
theorem akf(q s t:RE)(h1:t=q+q-(s+s))(h2:s-q=0):t<=0:=by grind
theorem agk(q s t:RE)(h1:t=q+q-(s+s))(h2:s-q=0):0<=t:=by grind
theorem akU(q s t:RE)(h1:t=q+q-(s+s))(h2:s-q=0):t=0:=le_antisymm (akf q s t h1 h2) (agk q s t h1 h2)
theorem MZ(s q:RE)(h1:s+q=0):q+s<=0:=by grind
theorem RC(s q:RE)(h1:s+q=0):0<=q+s:=by grind
theorem VB(s q:RE)(h1:s+q=0):q+s=0:=le_antisymm (MZ s q h1) (RC s q h1)
theorem WN{x y:RE}(h:x*y=0):x=0\/y=0:=by
 have:=dA x y;rw[h,du]at this;rcases Int.mul_eq_zero.1 this.symm with e|e
 ·exact .inl (qK.1 e)
 ·exact .inr (qK.1 e)
theorem alL{u w:PE}{Q:RE}(hu:dtE u u=Q)(hw:dtE w w=Q)(h:crs u w=0):u=w\/w=(-u.1,-u.2):=by
 have h1:crs u w*crs u w+dtE u w*dtE u w=dtE u u*dtE w w:=B3 _ _ _ _;rw[h,hu,hw,mul_zero,zero_add]at h1;have h2:(dtE u w+Q)*(dtE u w-Q)=0:=by rw[aeQ,h1,sub_self]
 rcases WN h2 with e|e
 ·right;rcases zg hu hw with g|g
  ·rw[VB _ _ e]at g;exact absurd g (lt_irrefl _)
  ·exact g
 ·left
  have h3:(u.1-w.1)*(u.1-w.1)+(u.2-w.2)*(u.2-w.2)=Q+Q-(dtE u w+dtE u w):=by
   rw[WK];unfold dtE at hu hw ⊢;rw[hu,hw]
  obtain⟨a,b⟩:=lc (akU _ _ _ h3 e);exact anN (gV _ _ a) (gV _ _ b)
theorem Ei{u w z:PE}(h:0<=crs u w):fx u w z=true↔0<=crs u z/\0<=crs z w:=by
 unfold fx HZ;rw[anb (QE.2 h),cond_true,ang,apq,apq,QE,QE]
theorem HE{x:RE}:sg x<0↔x<0:=by
 rcases bj x with⟨h,e⟩|⟨h,e⟩|⟨h,e⟩<;>rw[e]
 ·exact⟨λh'=>absurd h' (by decide),λh'=>absurd (da h h') (lt_irrefl _)⟩
 ·rw[h];exact⟨λh'=>absurd h' (by decide),λh'=>absurd h' (lt_irrefl _)⟩
 ·exact⟨λ_=>h,λ_=>by decide⟩
theorem Fp{u w z:PE}(h:crs u w<0):fx u w z=true↔¬(crs z w<0/\crs u z<0):=by
 unfold fx HZ;rw[ane (by have:=HE.2 h;omega),cond_false];simp only[ao8,Bool.and_eq_false_iff,decide_eq_false_iff_not,HE]
 exact⟨λg g'=>g.elim (λk=>k g'.1) (λk=>k g'.2),λg=>by
  by_cases e:crs z w<0
  ·exact .inr (λe'=>g ⟨e,e'⟩)
  ·exact .inl e⟩
theorem OX(d e a b:RE):d* -b-e* -a= -(d*b-e*a):=by grind
theorem Og(a b c d:RE): -a*d- -b*c= -(a*d-b*c):=by grind
theorem aeN(x:RE)(h1:0<= -x)(_h2:0<=x):x<=0:=by grind
theorem acy(x:RE)(_h1:0<= -x)(h2:0<=x):0<=x:=by grind
theorem YP(x:RE)(h1:0<= -x)(h2:0<=x):x=0:=le_antisymm (aeN x h1 h2) (acy x h1 h2)
theorem ale(bu bz bw:RE)(h1:bu+bz<0)(h2:0<bw+bz)(h3:0<bu):0<bw:=by grind
theorem ak1(bu bz:RE)(h1:bu+bz<0)(h2:0<bu):bz<0:=by grind
theorem ali(bu bz bw:RE)(h1:bu+bz<0)(h2:0<bw+bz)(h3:bw<0):bu<0:=by grind
theorem akT(bw bz:RE)(h1:0<bw+bz)(h2:bw<0):0<bz:=by grind
theorem k_e(k bz s bu t bw:RE)(h1:k*bz=s*bu+t*bw)(h2:0<=s*bu)(h3:0<t*bw):0<k*bz:=by grind
theorem amw(bu s bz k bw t:RE)(h1:k*bz=s*bu+t*bw)(h2:s*bu<0)(h3:0<k*bz)(h4:t*bw<=0):0<k:=by grind
theorem Mf(x y:RE):((x*y-(0)))+((x-(0))*(0-(y)))=0:=by grind
theorem Dp(x y:RE)(h1:0<=x)(h2:y<=0):x*y<=0:=λhg=>far (aK (aL hg) (aD (aG h1) (aG h2))) (Mf x y)
theorem Mu(x y:RE):((x*y-(0)))+((0-(x))*(y-(0)))=0:=by grind
theorem Wx(x y:RE)(h1:x<=0)(h2:0<=y):x*y<=0:=λhg=>far (aK (aL hg) (aD (aG h1) (aG h2))) (Mu x y)
theorem PI(x y:RE):((0-(x))*(0-(y)))+((0-(x*y)))=0:=by grind
theorem QY(x y:RE)(h1:x<0)(h2:y<0):0<x*y:=td.1 λhg=>far (aK (mul_pos (aL h1) (aL h2)) (aG hg)) (PI x y)
theorem PS(x y:RE):((0-(x))*(y-(0)))+((x*y-(0)))=0:=by grind
theorem adC(x y:RE)(h1:x<0)(h2:0<y):x*y<0:=td.1 λhg=>far (aK (mul_pos (aL h1) (aL h2)) (aG hg)) (PS x y)
theorem Mq(x y:RE):((0-(x*y)))+((0-(x))*(0-(y)))=0:=by grind
theorem K1(x y:RE)(h1:x<=0)(h2:y<=0):0<=x*y:=λhg=>far (aK (aL hg) (aD (aG h1) (aG h2))) (Mq x y)
theorem uA(d u:PE):crs d (-u.1,-u.2)= -crs d u:=OX _ _ _ _
theorem Xi(u d:PE):crs (-u.1,-u.2) d= -crs u d:=Og _ _ _ _
theorem CB{u w z d:PE}{Q:RE}(hu:dtE u u=Q)(hw:dtE w w=Q)(hz:dtE z z=Q)(hne:u≠w)(h:fx u w z=true)(hd:¬fx u w d=true):dtE z d<=dtE u d\/dtE z d<=dtE w d:=by
 have ac:=zY;have key:=amh u w z d;rcases lt_or_ge (crs u w) 0 with hk|hk
 ·rw[Fp hk]at h hd;obtain⟨d1,d2⟩:=Classical.not_not.1 hd;have bu:0<crs d u:=by rw[ac];exact kE d2
  rcases lt_or_ge (crs d z) 0 with hb|hb
  ·rcases lt_or_ge (crs z w) 0 with hc|hc
   ·have hz':0<=crs u z:=λg=>h ⟨hc,g⟩;exact absurd hk (λg=>lt_irrefl _ (da g (amw _ _ _ _ _ _ key (adC _ _ hc bu) (QY _ _ hk hb) (Dp _ _ hz' (le_of_lt d1)))))
   ·right;refine JI hw hz ?_ ?_
    ·rcases zg hw hz with g|g
     ·exact g
     ·rw[g,uA]at hb;exact absurd (da (kE d1) hb) (lt_irrefl _)
    ·rw[ac w z];exact K1 _ _ (TJ _ hc) (le_of_lt (T3 _ _ d1 hb))
  ·rcases lt_or_ge (crs u z) 0 with hc|hc
   ·have hz':0<=crs z w:=λg=>h ⟨g,hc⟩;have:=QY _ _ hc d1;have h2:=aD hz' (le_of_lt bu);have h3:=Wx _ _ (le_of_lt hk) hb;exact absurd (k_e _ _ _ _ _ _ key h2 this) h3
   ·left;refine JI hu hz ?_ (aD hc (le_of_lt (aK bu hb)));rcases zg hu hz with g|g
    ·exact g
    ·rw[g,uA]at hb;exact absurd (GD bu) hb
 ·rw[Ei hk]at h hd;obtain⟨h1,h2⟩:=h;have zero_case:crs u w=0->w=(-u.1,-u.2):=λe=>(alL hu hw e).resolve_left hne;rcases lt_or_ge (crs d u+crs d z) 0 with g1|g1
  ·rcases lt_or_ge 0 (crs d w+crs d z)with g2|g2
   ·exfalso;by_cases hb:0<crs d u
    ·have b1:=ak1 _ _ g1 hb;have b2:=ale _ _ _ g1 g2 hb;have r1:=aD h2 (le_of_lt hb);have r2:=aD h1 (le_of_lt b2);rcases cJ hk with k1|k1
     ·have:=IH _ _ k1 b1;rw[key]at this;exact absurd this (G6 _ _ r1 r2)
     ·have e:=zero_case k1;rw[e,uA]at b2;exact lt_irrefl _ (da b2 (GD hb))
    ·have hb':crs d w<0:=by
      rcases lt_or_ge (crs d w) 0 with q|q
      ·exact q
      ·exact absurd ⟨by rw[ac];exact W1 _ hb,q⟩ hd
     have b1:=akT _ _ g2 hb';have b2:=ali _ _ _ g1 g2 hb';have r1:=Dp _ _ h2 (le_of_lt b2);have r2:=Dp _ _ h1 (le_of_lt hb');rcases cJ hk with k1|k1
     ·have:=mul_pos k1 b1;rw[key]at this;exact absurd this (aeG _ _ r1 r2)
     ·have e:=zero_case k1;rw[e,uA]at hb';exact lt_irrefl _ (da hb' (kE b2))
   ·rcases zg hw hz with g|g
    ·right;refine JI hw hz g ?_;rw[ac w z];exact K1 _ _ (TJ _ h2) g2
    ·left;rw[g,uA]at h1;have e:=zero_case (YP _ h1 hk);have:z=u:=by rw[g,e];exact anN (neg_neg _) (neg_neg _)
     rw[this];exact le_refl _
  ·rcases zg hu hz with g|g
   ·left;exact JI hu hz g (aD h1 g1)
   ·right;rw[g,Xi]at h2;have e:=zero_case (YP _ h2 hk);rw[g,e];exact le_refl _
end RE
end
end Go.Proofs.YtagbmoohboleaaaGreat
end
