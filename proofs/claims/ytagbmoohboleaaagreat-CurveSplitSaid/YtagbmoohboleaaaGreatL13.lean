/- Lines and circles: the reference's contracts. -/
import Derived.Test.YtagbmoohboleaaaGreatL12
import Derived.Test.YtagbmoohboleaaaGreatL10
noncomputable section
namespace Go.Proofs.YtagbmoohboleaaaGreat
open Go.RowKit Go.IntKind
theorem afw:type_of% @List.mem_cons_of_mem:=@List.mem_cons_of_mem
theorem agP:type_of% @not_false_eq_true:=@not_false_eq_true
def EV(l:Ln)(p:Pt):Rt:=mkR (IY l p) (IF l p) p.2.2.2.2
def uQ(c:Ln)(p:Pt):Rt:=arT (sqP p (ctr c)) (-c.2.2)
instance aeK {r:Rt} {a:Rat} [h:Rdd r]:Rdd (arT r a):=⟨h.rd⟩
instance QN {l:Ln} {p:Pt} [h:Rpd p]:Rdd (EV l p):=by
 have:Nn p.2.2.2.2:=inferInstance;exact J1
instance adW {l:Ln} {p:Pt} {i j:Nat} [h:Bd l i] [h':Bd p j]:Bd (EV l p) (5*i+5*j+5):=by
 have a1:Bd (IY l p) _:=inferInstance;have a2:Bd (IF l p) _:=inferInstance;have a3:Bd (mkR (IY l p) (IF l p) p.2.2.2.2) _:=inferInstance;exact a3.mono (by omega)
theorem RK{l:Ln}{p:Pt}[h:Rpd p]:sgR (EV l p)=tK l p:=by
 unfold tK;rw[NM (QN (l:=l) (p:=p)).nn,RE.sgn2_re h.nn];unfold EV;rw[RE.vR_mk]
namespace RE
theorem Sk(a b q:RE):a+ -q+b=a+b-q:=by grind
theorem Qz(a b q:RE):a-q+b=a+b-q:=by grind
theorem shift_l(a b d q:RE)(h:a+b=a+d):a+ -q+b=a-q+d:=by
 rw[Sk,Qz,h]
end RE
theorem PP{c:Ln}{p:Pt}[h:Rpd p]: -sgR (uQ c p)=n6 c p:=by
 unfold n6;have hr:Rdd (uQ c p):=inferInstanceAs (Rdd (arT (sqP p (ctr c)) (-c.2.2)));rw[NM hr.nn,RE.sgn2_re h.nn]
 have e:RE.vR (uQ c p)=RE.v2 (sqA p (ctr c)-c.2.2) (sqB p (ctr c)) p.2.2.2.2:=by
  have e1:=RE.vR_co (sqA p (ctr c)) (sqB p (ctr c)) p.2.2.2.2;unfold RE.vR RE.v2 at e1;unfold uQ arT sqP RE.vR RE.v2;simp only;rw[RE.of_add,RE.of_neg,RE.of_sub]
  have e2:RE.of (coR (sqA p (ctr c)) (sqB p (ctr c)) p.2.2.2.2).1=RE.of (sqA p (ctr c)):=by
   unfold coR;cases decide (sqB p (ctr c)=0)<;>rfl
  rw[e2]at e1 ⊢;exact RE.shift_l _ _ _ _ e1
 rw[e]
theorem wJ{q:Rat}(h:q≠0):aE q 0=if 0<q then 1 else-1:=by
 rcases(by grind:q<0\/0<q)with h'|h'
 ·rw[dD h',afQ (by grind)]
 ·rw[dq h',af2 h']
def pk:List En:=[enT nh,enL qx,enL re,enL uo,enL qr,enT tC,enL ux,enL Ee,enL N8,enL N5,enL Y3]
def OC(a:BR)(_k:KT):OLR:=match decide (okR a/\okR a)with|true=>some [RV.d tR (hMu a a)]|false=>none
def Wl:Cn 317 [tR]:=cn λ(a:BR)=>lf (okR a) [.d tR (ao (ah a*ah a))] λh=>by
 refine az pk (OC a) ⟨0,?_⟩;unfold OC;rw[dT ⟨h,h⟩];simp only[bL]
def MP:Cn 209 [tR,tR]:=cn λ(a b:BR)=>lf (okR a/\okR b) [.d tR (ao (ah a+ah b))] λh=>kx [RV.d tR (hAd a b)] (dk pk) h
def Pa:Cn 208 [tR,tR]:=cn λ(a b:BR)=>lf (okR a/\okR b) [.d tR (ao (ah a-ah b))] λh=>kx [RV.d tR (hSu a b)] (dk pk) h
def EY:Cn 186 [tR,tR]:=cn λ(a b:BR)=>lf (okR a/\okR b) [.d tR (ao (ah a*ah b))] λh=>kx [RV.d tR (hMu a b)] (dk pk) h
def OJ:Cn 210 [tR,tR]:=cn λ(a b:BR)=>lf (ij a b) [.d tR (ao (ah a/ah b))] λh=>kx [RV.d tR (hDi a b)] (dk pk) h
def r9:List En:=enL Wl::enL MP::enL Pa::enL EY::enL OJ::pk
def NF(r:BO3)(_k:KT):OLR:=og (o1 r.1) (og (o1 r.2.1) (og (o2 (hid (ao (ah r.2.1*ah r.2.1))) r.2.2) (og (o2 (hid (ao (ah r.1*ah r.1))) (hMu (hid (ao (ah r.2.1*ah r.2.1))) r.2.2)) (some [RV.d tR (hSu (hid (ao (ah r.1*ah r.1))) (hMu (hid (ao (ah r.2.1*ah r.2.1))) r.2.2))]))))
def Yb:Cn 279 [tO]:=cn λ(r:BO3)=>lf (ok Rt 90000 r) [.d tR (ao (noR (dec r)))] λh=>by
 refine az r9 (NF r) ⟨0,?_⟩;have hr:=h;obtain⟨r,rfl,br⟩:=aH hr;unfold NF;simp only[aW,Nat.reduceAdd,Nat.reduceLeDiff];rfl
def OL(l:BO3)(p:BP)(_k:KT):OLR:=og (o2 l.1 p.1) (og (o2 l.2.1 p.2.2.1) (og (o2 (hMu l.1 p.1) (hMu l.2.1 p.2.2.1)) (og (o2 (hAd (hMu l.1 p.1) (hMu l.2.1 p.2.2.1)) l.2.2) (og (o2 l.1 p.2.1) (og (o2 l.2.1 p.2.2.2.1) (og (o2 (hMu l.1 p.2.1) (hMu l.2.1 p.2.2.2.1)) (og (decide (ok Rat 100000 (hSu (hAd (hMu l.1 p.1) (hMu l.2.1 p.2.2.1)) l.2.2)/\ok Rat 100000 (hAd (hMu l.1 p.2.1) (hMu l.2.1 p.2.2.2.1))/\ok Rat 100000 p.2.2.2.2/\0<=ah p.2.2.2.2)) (some [RV.d tO (hid (enc (mkR (ah (hSu (hAd (hMu l.1 p.1) (hMu l.2.1 p.2.2.1)) l.2.2)) (ah (hAd (hMu l.1 p.2.1) (hMu l.2.1 p.2.2.2.1))) (ah p.2.2.2.2))))]))))))))
def X1:Cn 207 [tO,tP]:=cn λ(l:BO3) (p:BP)=>lf (ok Ln 300 l/\okP 4000 p) [.d tO (enc (EV (dec l) (dec p)))] λh=>by
 refine az r9 (OL l p) ⟨0,?_⟩;obtain⟨hl,hp⟩:=h;obtain⟨l,rfl,bl⟩:=aH hl;obtain⟨p,rfl,bp,rp⟩:=db hp;have hn:0<=p.2.2.2.2:=rp.nn;unfold OL;simp only[aW,Nat.reduceAdd,Nat.reduceLeDiff,dT hn];rfl
def KL(c:BO3)(p:BP)(_k:KT):OLR:=og (decide (okP 3500 p/\ok (Rat×Rat) 300 (c.1,c.2.1))) (og (o1 c.2.2) (og (decide (ok Rt 100000 (hid (enc (sqP (dec p) (dec (c.1,c.2.1)))))/\ok Rat 100000 (hNe c.2.2))) (some [RV.d tO (hid (enc (arT (dec (hid (enc (sqP (dec p) (dec (c.1,c.2.1)))))) (ah (hNe c.2.2)))))])))
def YP:Cn 206 [tO,tP]:=cn λ(c:BO3) (p:BP)=>lf (ok Ln 300 c/\okP 3500 p) [.d tO (enc (uQ (dec c) (dec p)))] λh=>by
 refine az r9 (KL c p) ⟨0,?_⟩;obtain⟨hc,hp⟩:=h;obtain⟨c,rfl,bc⟩:=aH hc;obtain⟨p,rfl,bp,rp⟩:=db hp;have e0:(dec ((ao c.1,ao c.2.1):BV):Rat×Rat)=ctr c:=aB (ctr c);have e1:decide (ok (Rat×Rat) 300 ((ao c.1,ao c.2.1):BV))=true:=okd (x:=ctr c) (by decide) (by decide);unfold KL;simp only[aW,Nat.reduceAdd,Nat.reduceMul,Nat.reduceLeDiff,aQ,e0,e1];rfl
def LJ(l:BO3)(v:BV)(_k:KT):OLR:=og (o2 l.1 l.1) (og (o2 l.2.1 l.2.1) (og (o2 (hMu l.1 l.1) (hMu l.2.1 l.2.1)) (og (o2 l.1 v.1) (og (o2 l.2.1 v.2) (og (o2 (hMu l.1 v.1) (hMu l.2.1 v.2)) (og (o2 l.2.2 (hAd (hMu l.1 v.1) (hMu l.2.1 v.2))) (og (decide (ij (hSu l.2.2 (hAd (hMu l.1 v.1) (hMu l.2.1 v.2))) (hAd (hMu l.1 l.1) (hMu l.2.1 l.2.1)))) (og (o2 (hDi (hSu l.2.2 (hAd (hMu l.1 v.1) (hMu l.2.1 v.2))) (hAd (hMu l.1 l.1) (hMu l.2.1 l.2.1))) l.1) (og (o2 v.1 (hMu (hDi (hSu l.2.2 (hAd (hMu l.1 v.1) (hMu l.2.1 v.2))) (hAd (hMu l.1 l.1) (hMu l.2.1 l.2.1))) l.1)) (og (o2 (hDi (hSu l.2.2 (hAd (hMu l.1 v.1) (hMu l.2.1 v.2))) (hAd (hMu l.1 l.1) (hMu l.2.1 l.2.1))) l.2.1) (og (o2 v.2 (hMu (hDi (hSu l.2.2 (hAd (hMu l.1 v.1) (hMu l.2.1 v.2))) (hAd (hMu l.1 l.1) (hMu l.2.1 l.2.1))) l.2.1)) (some [RV.d tV (hAd v.1 (hMu (hDi (hSu l.2.2 (hAd (hMu l.1 v.1) (hMu l.2.1 v.2))) (hAd (hMu l.1 l.1) (hMu l.2.1 l.2.1))) l.1),hAd v.2 (hMu (hDi (hSu l.2.2 (hAd (hMu l.1 v.1) (hMu l.2.1 v.2))) (hAd (hMu l.1 l.1) (hMu l.2.1 l.2.1))) l.2.1))]))))))))))))
def YO:Cn 143 [tO,tV]:=cn λ(l:BO3) (v:BV)=>lf (ok Ln 300 l/\ok (Rat×Rat) 200 v/\((dec l:Ln).1≠0\/(dec l:Ln).2.1≠0)) [.d tV (enc (DP (dec l) (dec v)))] λh=>by
 refine az r9 (LJ l v) ⟨0,?_⟩;obtain⟨hl,hv,h0⟩:=h;obtain⟨l,rfl,bl⟩:=aH hl;obtain⟨v,rfl,bv⟩:=aH hv;have hn:l.1*l.1+l.2.1*l.2.1≠0:=zQ (by rw[aB]at h0;exact h0)
 have e:(l.2.2-(l.1*v.1+l.2.1*v.2))/(l.1*l.1+l.2.1*l.2.1)= -Cc l v:=by
  unfold Cc;grind
 unfold LJ;simp only[aW,Nat.reduceAdd,Nat.reduceLeDiff,hn,ne_eq,agP];unfold DP;rw[e,show v.1+ -Cc l v*l.1=v.1-Cc l v*l.1 by grind,show v.2+ -Cc l v*l.2.1=v.2-Cc l v*l.2.1 by grind];rfl
def Gl:List En:=enL Yb::enL X1::enL YP::enL YO::r9
def MH(r:BO3)(_k:KT):OLR:=og (o1 r.1) (og (o1 r.2.1) (match(aE (ah r.1) 0)==(aE (ah r.2.1) 0)with|true=>some [RV.d aiy (aE (ah r.1) 0)]|false=>(match(aE (ah r.2.1) 0)==0 with|true=>some [RV.d aiy (aE (ah r.1) 0)]|false=>(match(aE (ah r.1) 0)==0 with|true=>some [RV.d aiy (aE (ah r.2.1) 0)]|false=>(og (decide (ok Rt 90000 r)) (og (o1 (hid (ao (noR (dec r))))) (match decide ((aE (ah (hid (ao (noR (dec r))))) 0)>0)with|true=>some [RV.d aiy (aE (ah r.1) 0)]|false=>some [RV.d aiy (aE (ah r.2.1) 0)])))))))
def Xp:Cn 205 [tO]:=cn λ(r:BO3)=>lf (okT 90000 r) [.d aiy (sgR (dec r))] λh=>by
 refine az Gl (MH r) ⟨0,?_⟩;have hr:=h;obtain⟨r,rfl,br,rr⟩:=kv hr;unfold MH;simp only[aW,Nat.reduceAdd,Nat.reduceMul,Nat.reduceLeDiff,aq,av];rw[ZW rr];by_cases hb:r.2.1=0
 ·rw[afm hb,hb,dP];by_cases ha:aE r.1 0=0
  ·rw[ha];rfl
  ·rw[show(aE r.1 0==0)=false by simp[ha]];rfl
 ·have hn:=Wz rr hb;have e2:=wJ hn;have hb2:=wJ hb;rw[afo hb,show(aE r.2.1 0==0)=false by rw[aq,afo hb]];by_cases ha:r.1=0
  ·rw[afm ha,ha,dP,show((0:Int)==aE r.2.1 0)=false by rw[hb2];split<;>rfl];rfl
  ·have ha2:=wJ ha;rw[afo ha,show(aE r.1 0==0)=false by rw[aq,afo ha]];cases hq:(aE r.1 0==aE r.2.1 0)
   ·have hne:aE r.1 0≠aE r.2.1 0:=by simpa using hq
    rw[e2];by_cases hp:0<noR r
    ·rw[afm hp,af2 hp,ahX];rfl
    ·rw[afo hp,afQ hp];show some [RV.d aiy (aE r.2.1 0)]=some [RV.d aiy (aE r.1 0* -1)]
     rw[show aE r.2.1 0=aE r.1 0* -1 by
      rw[ha2,hb2]at hne ⊢;split at hne<;>split at hne<;>simp_all]
   ·rfl
def HE:List En:=enT Xp::Gl
def LQ(l:BO3)(p:BP)(_k:KT):OLR:=og (decide (ok Ln 300 l/\okP 4000 p)) (og (decide (okT 90000 (hid (enc (EV (dec l) (dec p)))))) (some [RV.d aiy (sgR (dec (hid (enc (EV (dec l) (dec p))))))]))
def XG:Cn 108 [tO,tP]:=cn λ(l:BO3) (p:BP)=>lf (ok Ln 300 l/\okP 4000 p) [.d aiy (tK (dec l) (dec p))] λh=>by
 refine az HE (LQ l p) ⟨0,?_⟩;obtain⟨hl,hp⟩:=h;obtain⟨l,rfl,bl⟩:=aH hl;obtain⟨p,rfl,bp,rp⟩:=db hp;unfold LQ;simp only[aW,Nat.reduceAdd,Nat.reduceMul,Nat.reduceLeDiff,aP,aQ];rw[RK]
def JA(c:BO3)(p:BP)(_k:KT):OLR:=og (decide (ok Ln 300 c/\okP 3500 p)) (og (decide (okT 90000 (hid (enc (uQ (dec c) (dec p)))))) (some [RV.d aiy (i64.wrap (0-(sgR (dec (hid (enc (uQ (dec c) (dec p))))))))]))
def WE:Cn 107 [tO,tP]:=cn λ(c:BO3) (p:BP)=>lf (ok Ln 300 c/\okP 3500 p) [.d aiy (n6 (dec c) (dec p))] λh=>by
 refine az HE (JA c p) ⟨0,?_⟩;obtain⟨hc,hp⟩:=h;obtain⟨c,rfl,bc⟩:=aH hc;obtain⟨p,rfl,bp,rp⟩:=db hp;have hr:Rdd (uQ c p):=inferInstanceAs (Rdd (arT (sqP p (ctr c)) (-c.2.2)));have br:Bd (uQ c p) 90000:=(inferInstance:Bd (arT (sqP p (ctr c)) (-c.2.2)) _).mono (by decide);have hb: -1<=sgR (uQ c p)/\sgR (uQ c p)<=1:=k9 _ _ _;unfold JA;simp only[aW,Nat.reduceLeDiff,aP,aQ,ahl,aM (x:= -sgR (uQ c p)) (by omega) (by omega)];rw[PP]
abbrev tCU:Ty:=.st (.pair .bool (.pair tO (.pair tO (.pair .bool (.pair tP tP)))))
abbrev BCU:=Bool×BO3×BO3×Bool×BP×BP
abbrev Cv:=Bool×Ln×Ln×Bool×Pt×Pt
def dC(c:BCU):Cv:=(c.1,dec c.2.1,dec c.2.2.1,c.2.2.2.1,dec c.2.2.2.2.1,dec c.2.2.2.2.2)
def uV(x:BO3):Prop:=ok Ln 300 x/\(0:Rat)<(dec x:Ln).2.2
instance (x:BO3):Decidable (uV x):=by unfold uV;infer_instance
def Fg(x:BO3):Prop:=ok Ln 300 x/\((dec x:Ln).1≠0\/(dec x:Ln).2.1≠0)
instance (x:BO3):Decidable (Fg x):=by unfold Fg;infer_instance
def okC(k:Nat)(c:BCU):Prop:=(c.1=true->uV c.2.2.1)/\(c.1=false->Fg c.2.1)/\okP k c.2.2.2.2.1/\okP k c.2.2.2.2.2
instance (k:Nat) (c:BCU):Decidable (okC k c):=by unfold okC;infer_instance
def frC(c:Cv):Pt:=c.2.2.2.2.1
def toC(c:Cv):Pt:=c.2.2.2.2.2
def lnC(c:Cv):Ln:=c.2.1
def ciC(c:Cv):Ln:=c.2.2.1
def cwC(c:Cv):Bool:=c.2.2.2.1
def em(c:Cv)(p:Pt):Bool:=bif c.1 then n6 (ciC c) p==0 else tK (lnC c) p==0
def upR(c:Ln)(p:Pt):Bool:=decide (hZ (yP p) c.2.1>0)||(hZ (yP p) c.2.1==0&&decide (hZ (xP p) c.1>0))
def ptd(c:Ln)(p:Pt):Bool×Rt:=(upR c p,xP p)
def BY(c:Ln)(p:Pt):Int:=bif upR c p then 0 else 1
def ccF(c:Cv):Pt:=bif cwC c then toC c else frC c
def ccT(c:Cv):Pt:=bif cwC c then frC c else toC c
def gT(c:Cv)(p:Pt):Bool:=bif c.1 then decide (eI bj (ptd (ciC c) (ccF c)) (ptd (ciC c) p) (ptd (ciC c) (ccT c))<=0)else yg (aF (frC c) p) (aF p (toC c))
def onP(c:Cv)(p:Pt):Bool:=em c p&&gT c p
def gb(c:BCU):BCU:=(c.1,c.2.1,c.2.2.1,c.1&&!c.2.2.2.1,c.2.2.2.2.2,c.2.2.2.2.1)
def dH(c:BCU):BCU:=bif c.2.2.2.1 then gb c else c
def flP(p:Pt):Pt:=(-p.1,-p.2.1,p.2.2.1,p.2.2.2.1,p.2.2.2.2)
def flC(c:Ln):Ln:=(-c.1,c.2.1,c.2.2)
def bz(c:Cv)(p q:Pt):Int:=bif c.1 then(bif cwC c then jM bj (ptd (flC (ciC c)) (flP (frC c))) (ptd (flC (ciC c)) (flP p)) (ptd (flC (ciC c)) (flP q))else jM bj (ptd (ciC c) (frC c)) (ptd (ciC c) p) (ptd (ciC c) q))
 else(bif decide (aF (frC c) (toC c)>0)then-aF p q else aF p q)
def onR(c:Cv)(p:Pt):Bool:=em c p&&(decide (bz c (frC c) p<=0)&&decide (bz c p (toC c)<=0))
theorem Eu(k:Nat){c:BCU}(h:okC k c):okC k (gb c):=⟨h.1,h.2.1,h.2.2.2,h.2.2.1⟩
theorem lc(p q:Pt): -1<=aF p q/\aF p q<=1:=by
 unfold aF;cases bj (xP p) (xP q)==0
 ·exact vc _ _
 ·exact vc _ _
theorem HH{p q:Bool×Rt}:0<=nC bj p q/\nC bj p q<=2:=by
 unfold nC;cases qD bj q p==0<;>cases decide (qD bj q p>0)<;>simp only[cond_true,cond_false]<;>omega
def ww(c:BCU):BCU:=(c.1,c.2.1,(ao (-ah c.2.2.1.1),c.2.2.1.2),!c.2.2.2.1,enc (flP (dec c.2.2.2.2.1)),enc (flP (dec c.2.2.2.2.2)))
instance ae1 {p:Pt} [h:Rpd p]:Rpd (flP p):=by
 refine⟨?_⟩;have:=h.rd;unfold Ed flP at*
 simp only;have e:(-p.2.1=0)↔p.2.1=0:=by constructor<;>intro h<;>grind
 rw[e];exact this
instance afc {p:Pt} {j:Nat} [h:Bd p j]:Bd (flP p) j:=by
 have i1:Bd ((-p.1,-p.2.1,p.2.2.1,p.2.2.2.1,p.2.2.2.2):Pt) _:=inferInstance;exact i1.mono (ks (by omega) (ks (by omega) (ks (by omega) (ks (by omega) (by omega)))))
theorem po{j k:Nat}{x:BP}(h:okP j x)(hj:j<=k)(hk:k<=480000):okP k x:=by
 obtain⟨p,rfl,bp,rp⟩:=db h;exact afp (aQ hj hk)
theorem Jc{j k:Nat}{c:BCU}(h:okC j c)(hj:j<=k)(hk:k<=480000):okC k c:=⟨h.1,h.2.1,po h.2.2.1 hj hk,po h.2.2.2 hj hk⟩
theorem Fp{x:BP}(h:okP 4000 x):okP 4000 (enc (flP (dec x))):=by
 obtain⟨p,rfl,bp,rp⟩:=db h;rw[aB];exact afp (aQ (x:=flP p) (by decide) (by decide))
theorem Xj{x:BO3}(h:ok Ln 300 x):ok Ln 300 ((ao (-ah x.1),x.2):BO3)/\(dec ((ao (-ah x.1),x.2):BO3):Ln)=flC (dec x):=by
 obtain⟨l,rfl,bl⟩:=aH h
 have e:((ao (-ah (enc l:BO3).1),(enc l:BO3).2):BO3)=enc (flC l):=by
  rw[vK,ng,fB];rfl
 rw[e,aB,aB];refine⟨?_,rfl⟩;have i1:Bd (flC l) 300:=(inferInstance:Bd ((-l.1,l.2.1,l.2.2):Ln) _).mono (by decide);exact afp (okd (x:=flC l) (afs _) (by decide))
def yu:List En:=[enL ux,enT Fe,enT N7,enL L8,enL Tt,enT ul,enT XG,enT WE]
def Vt(c:BCU)(p:BP)(_k:KT):OLR:=match c.1 with|true=>(og (decide (ok Ln 300 c.2.2.1/\okP 3500 p)) (some [RV.d .bool ((n6 (dec c.2.2.1) (dec p))==0)]))|false=>(og (decide (ok Ln 300 c.2.1/\okP 4000 p)) (some [RV.d .bool ((tK (dec c.2.1) (dec p))==0)]))
def TX:Cn 44 [tCU,tP]:=cn λ(c:BCU) (p:BP)=>lf (okC 3500 c/\okP 3500 p) [.d .bool (em (dC c) (dec p))] λh=>by
 refine az yu (Vt c p) ⟨0,?_⟩;obtain⟨hc,hp⟩:=h;have op:decide (okP 3500 p)=true:=afm hp;have op4:decide (okP 4000 p)=true:=afm (po hp (by decide) (by decide));obtain⟨ar,li,ci,cw,fr,to⟩:=c;obtain⟨c1,c2,_⟩:=hc;unfold Vt;cases ar
 ·have e:=(c2 rfl).1;simp only[ahp,dT e,op4,agT];rfl
 ·have e:=(c1 rfl).1;simp only[ahp,dT e,op,agT];rfl
def VD(c:BO3)(p:BP)(_k:KT):OLR:=og (decide (okP 4000 p)) (og (decide (okT 15000 (hid (enc (yP (dec p))))/\ok Rat 15000 c.2.1)) (match decide ((hZ (dec (hid (enc (yP (dec p))))) (ah c.2.1))>0)with|true=>some [RV.d .bool true]|false=>(match(hZ (dec (hid (enc (yP (dec p))))) (ah c.2.1))==0 with|true=>(og (decide (okP 4000 p)) (og (decide (okT 15000 (hid (enc (xP (dec p))))/\ok Rat 15000 c.1)) (some [RV.d .bool (decide ((hZ (dec (hid (enc (xP (dec p))))) (ah c.1))>0))])))|false=>some [RV.d .bool false])))
def abt:Cn 272 [tO,tP]:=cn λ(c:BO3) (p:BP)=>lf (ok Ln 300 c/\okP 4000 p) [.d .bool (upR (dec c) (dec p))] λh=>by
 refine az yu (VD c p) ⟨0,?_⟩;obtain⟨hc,hp⟩:=h;obtain⟨c,rfl,bc⟩:=aH hc;obtain⟨p,rfl,bp,rp⟩:=db hp;unfold VD upR;simp only[aW,Nat.reduceLeDiff,aP,aQ];cases decide (hZ (yP p) c.2.1>0)<;>cases hZ (yP p) c.2.1==0<;>rfl
def UO(p:BP)(_k:KT):OLR:=og (o1 p.1) (og (o1 p.2.1) (some [RV.d tP (hNe p.1,(hNe p.2.1,p.2.2))]))
def adt:Cn 97 [tP]:=cn λ(p:BP)=>lf (okP 4000 p) [.d tP (enc (flP (dec p)))] λh=>by
 refine az yu (UO p) ⟨0,?_⟩;have hp:=h;obtain⟨p,rfl,bp,rp⟩:=db hp;unfold UO;simp only[aW,Nat.reduceLeDiff];rfl
def ZI:Ctx:=CX (ens yu) []
def ab6(c:BCU)(_k:KT):OLR:=match c.1 with|true=>some [RV.d tCU (c.1,(c.2.1,(c.2.2.1,(!c.2.2.2.1,(c.2.2.2.2.2,c.2.2.2.2.1)))))]|false=>some [RV.d tCU (c.1,(c.2.1,(c.2.2.1,(false,(c.2.2.2.2.2,c.2.2.2.2.1)))))]
theorem ZE(c:BCU):RS ZI 36 [.d tCU c] (ab6 c):=rsX
def Ib:Cn 36 [tCU]:=cn λ(c:BCU)=>lf True [.d tCU (gb c)] λ_=>by
 refine dm yu (ZE _ ⟨0,?_⟩);obtain⟨ar,li,ci,cw,fr,to⟩:=c;cases ar<;>rfl
def Pu:List En:=enT TX::enT abt::enL adt::enL Ib::yu
def Tl(c:BO3)(p q:BP)(_k:KT):OLR:=og (decide (ok Ln 300 c/\okP 4000 p)) (og (decide (ok Ln 300 c/\okP 4000 q)) (match !((upR (dec c) (dec p))==(upR (dec c) (dec q)))with|true=>(match upR (dec c) (dec q)with|true=>some [RV.d aiy (-1)]|false=>some [RV.d aiy 1])|false=>(og (decide (okP 4000 p)) (og (decide (okP 4000 q)) (og (decide (okT 15000 (hid (enc (xP (dec p))))/\okT 15000 (hid (enc (xP (dec q)))))) (match upR (dec c) (dec p)with|true=>some [RV.d aiy (i64.wrap (0-(bj (dec (hid (enc (xP (dec p))))) (dec (hid (enc (xP (dec q))))))))]|false=>some [RV.d aiy (bj (dec (hid (enc (xP (dec p))))) (dec (hid (enc (xP (dec q))))))]))))))
def aan:Cn 198 [tO,tP,tP]:=cn λ(c:BO3) (p q:BP)=>lf (ok Ln 300 c/\okP 4000 p/\okP 4000 q) [.d aiy (jr bj (ptd (dec c) (dec p)) (ptd (dec c) (dec q)))] λh=>by
 refine az Pu (Tl c p q) ⟨0,?_⟩;obtain⟨hc,hp,hq⟩:=h;obtain⟨c,rfl,bc⟩:=aH hc;obtain⟨p,rfl,bp,rp⟩:=db hp;obtain⟨q,rfl,bq,rq⟩:=db hq;have xb:=vc (xP p) (xP q);unfold Tl;simp only[aW,Nat.reduceLeDiff,aP,aQ,aM (x:= -bj (xP p) (xP q)) (by omega) (by omega),ahl];unfold jr ptd;cases upR c p<;>cases upR c q<;>rfl
def Ts(c:BCU)(_k:KT):OLR:=match decide (okR c.2.2.1.1)with|true=>(match decide (okP 4000 c.2.2.2.2.1)with|true=>(match decide (okP 4000 c.2.2.2.2.2)with|true=>some [RV.d tCU (c.1,(c.2.1,((hNe c.2.2.1.1,c.2.2.1.2),(!c.2.2.2.1,(hid (enc (flP (dec c.2.2.2.2.1))),hid (enc (flP (dec c.2.2.2.2.2))))))))]|false=>none)|false=>none)|false=>none
def adM:Cn 96 [tCU]:=cn λ(c:BCU)=>lf (uV c.2.2.1/\okP 4000 c.2.2.2.2.1/\okP 4000 c.2.2.2.2.2) [.d tCU (ww c)] λh=>by
 refine az Pu (Ts c) ⟨0,?_⟩;obtain⟨hc,hf,ht⟩:=h
 have e:okR c.2.2.1.1:=by
  obtain⟨l,hl,bl⟩:=aH hc.1;rw[hl,vK,ng];exact afp (NG (q:=l.1) (by decide))
 unfold Ts;rw[dT e,dT hf,dT ht];simp only[bL];rfl
def TU:List En:=enT aan::enL adM::Pu
def SY(c:BO3)(f p q:BP)(_k:KT):OLR:=og (decide (ok Ln 300 c/\okP 4000 p/\okP 4000 f)) (og (decide (ok Ln 300 c/\okP 4000 q/\okP 4000 f)) (match !((decide ((jr bj (ptd (dec c) (dec p)) (ptd (dec c) (dec f)))<0))==(decide ((jr bj (ptd (dec c) (dec q)) (ptd (dec c) (dec f)))<0)))with|true=>(match decide ((jr bj (ptd (dec c) (dec q)) (ptd (dec c) (dec f)))<0)with|true=>some [RV.d aiy (-1)]|false=>some [RV.d aiy 1])|false=>(og (decide (ok Ln 300 c/\okP 4000 p/\okP 4000 q)) (some [RV.d aiy (jr bj (ptd (dec c) (dec p)) (ptd (dec c) (dec q)))]))))
def ZC:Cn 95 [tO,tP,tP,tP]:=cn λ(c:BO3) (f p q:BP)=>lf (ok Ln 300 c/\okP 4000 f/\okP 4000 p/\okP 4000 q) [.d aiy (jM bj (ptd (dec c) (dec f)) (ptd (dec c) (dec p)) (ptd (dec c) (dec q)))] λh=>by
 refine az TU (SY c f p q) ⟨0,?_⟩;obtain⟨hc,hf,hp,hq⟩:=h;unfold SY jM;rw[dT (show ok Ln 300 c/\okP 4000 p/\okP 4000 f from⟨hc,hp,hf⟩),dT (show ok Ln 300 c/\okP 4000 q/\okP 4000 f from⟨hc,hq,hf⟩),dT (show ok Ln 300 c/\okP 4000 p/\okP 4000 q from⟨hc,hp,hq⟩)];cases decide (jr bj (ptd (dec c) (dec p)) (ptd (dec c) (dec f))<0)<;>cases decide (jr bj (ptd (dec c) (dec q)) (ptd (dec c) (dec f))<0)<;>rfl
def UA:List En:=enT ZC::TU
def T5(c:BCU)(p q:BP)(_k:KT):OLR:=match !c.1 with|true=>(og (decide (okP 4000 p/\okP 4000 q)) (og (decide (okP 4000 c.2.2.2.2.1/\okP 4000 c.2.2.2.2.2)) (match decide ((aF (dec c.2.2.2.2.1) (dec c.2.2.2.2.2))>0)with|true=>some [RV.d aiy (i64.wrap (0-(aF (dec p) (dec q))))]|false=>some [RV.d aiy (aF (dec p) (dec q))])))|false=>(match !c.2.2.2.1 with|true=>(og (decide (ok Ln 300 c.2.2.1/\okP 4000 c.2.2.2.2.1/\okP 4000 p/\okP 4000 q)) (some [RV.d aiy (jM bj (ptd (dec c.2.2.1) (dec c.2.2.2.2.1)) (ptd (dec c.2.2.1) (dec p)) (ptd (dec c.2.2.1) (dec q)))]))|false=>(og (decide (uV c.2.2.1/\okP 4000 c.2.2.2.2.1/\okP 4000 c.2.2.2.2.2)) (og (decide (okP 4000 p)) (og (decide (okP 4000 q)) (og (decide (ok Ln 300 ((((hid (ww c)).2).2).1)/\okP 4000 ((((((hid (ww c)).2).2).2).2).1)/\okP 4000 (hid (enc (flP (dec p))))/\okP 4000 (hid (enc (flP (dec q)))))) (some [RV.d aiy (jM bj (ptd (dec ((((hid (ww c)).2).2).1)) (dec ((((((hid (ww c)).2).2).2).2).1))) (ptd (dec ((((hid (ww c)).2).2).1)) (dec (hid (enc (flP (dec p)))))) (ptd (dec ((((hid (ww c)).2).2).1)) (dec (hid (enc (flP (dec q)))))))]))))))
def Dy:Cn 37 [tCU,tP,tP]:=cn λ(c:BCU) (p q:BP)=>lf (okC 4000 c/\okP 4000 p/\okP 4000 q) [.d aiy (bz (dC c) (dec p) (dec q))] λh=>by
 refine az UA (T5 c p q) ⟨0,?_⟩;obtain⟨hc,hp,hq⟩:=h;have xb:=lc (dec p) (dec q);obtain⟨ar,li,ci,cw,fr,to⟩:=c;obtain⟨c1,c2,c3,c4⟩:=hc;simp only at c1 c2 c3 c4;unfold T5 bz;cases ar
 ·simp only[ahl,aM (x:= -aF (dec p) (dec q)) (by omega) (by omega),dT (show okP 4000 p/\okP 4000 q from⟨hp,hq⟩),dT (show okP 4000 fr/\okP 4000 to from⟨c3,c4⟩),Bool.not_false];simp only[dC,frC,toC,cond_false];by_cases hd:aF (dec fr) (dec to)>0
  ·simp[hd]
  ·simp[hd]
 ·have e:=(c1 rfl).1;have hci:=c1 rfl;obtain⟨f1,f2⟩:=Xj e;cases cw
  ·simp only[dT (show ok Ln 300 ci/\okP 4000 fr/\okP 4000 p/\okP 4000 q from⟨e,c3,hp,hq⟩),Bool.not_true,Bool.not_false];rfl
  ·have hm:ok Ln 300 (ww (true,li,ci,true,fr,to)).2.2.1/\okP 4000 (ww (true,li,ci,true,fr,to)).2.2.2.2.1/\okP 4000 (enc (flP (dec p)))/\okP 4000 (enc (flP (dec q))):=⟨f1,Fp c3,Fp hp,Fp hq⟩
   have m1:(dec (ww (true,li,ci,true,fr,to)).2.2.1:Ln)=flC (dec ci):=f2;have m2:(dec (ww (true,li,ci,true,fr,to)).2.2.2.2.1:Pt)=flP (dec fr):=aB _;simp only[bL,dT (show uV ci/\okP 4000 fr/\okP 4000 to from⟨hci,c3,c4⟩),dT hp,dT hq,dT hm,Bool.not_true,m1,m2,aB];rfl
def acE:List En:=enT Dy::UA
def UX(c:BCU)(p:BP)(_k:KT):OLR:=og (decide (okC 3500 c/\okP 3500 p)) (match em (dC c) (dec p)with|true=>(og (decide (okC 4000 c/\okP 4000 c.2.2.2.2.1/\okP 4000 p)) (match decide ((bz (dC c) (dec c.2.2.2.2.1) (dec p))<=0)with|true=>(og (decide (okC 4000 c/\okP 4000 p/\okP 4000 c.2.2.2.2.2)) (some [RV.d .bool (decide ((bz (dC c) (dec p) (dec c.2.2.2.2.2))<=0))]))|false=>some [RV.d .bool false]))|false=>some [RV.d .bool false])
def Dh:Cn 13 [tCU,tP]:=cn λ(c:BCU) (p:BP)=>lf (okC 3500 c/\okP 3500 p) [.d .bool (onR (dC c) (dec p))] λh=>by
 refine az acE (UX c p) ⟨0,?_⟩;obtain⟨hc,hp⟩:=h;have hc4:=Jc (k:=4000) hc (by decide) (by decide);have hp4:=po (k:=4000) hp (by decide) (by decide);unfold UX onR;rw[dT (show okC 3500 c/\okP 3500 p from⟨hc,hp⟩),dT (show okC 4000 c/\okP 4000 c.2.2.2.2.1/\okP 4000 p from⟨hc4,hc4.2.2.1,hp4⟩),dT (show okC 4000 c/\okP 4000 p/\okP 4000 c.2.2.2.2.2 from⟨hc4,hp4,hc4.2.2.2⟩)];cases em (dC c) (dec p)
 ·rfl
 ·show(match decide (bz (dC c) (frC (dC c)) (dec p)<=0)with|true=>some [RV.d .bool (decide (bz (dC c) (dec p) (toC (dC c))<=0))]|false=>some [RV.d .bool false])=_;cases decide (bz (dC c) (frC (dC c)) (dec p)<=0)<;>rfl
section
namespace RE
theorem LK{u v:RE}:cls u v=2↔v=0/\¬0<u:=by
 unfold cls;rcases df v with⟨a,h1⟩|⟨a,h1⟩|⟨a,h1⟩<;>rcases df u with⟨b,h2⟩|⟨b,h2⟩|⟨b,h2⟩<;>rw[h1,h2]
 all_goals first
  |exact⟨λ_=>⟨a,λh=>by rw[b]at h;exact lt_irrefl _ h⟩,λ_=>rfl⟩
  |exact⟨λ_=>⟨a,λh=>lt_irrefl _ (fF h b)⟩,λ_=>rfl⟩
  |(refine⟨λh=>absurd h (by decide),λh=>?_⟩;first|(rw[h.1]at a;exact absurd a (lt_irrefl _))|exact absurd b h.2)
theorem zN{u v Q:RE}(hQ:0<Q)(h:u*u+v*v=Q)(hv:v=0)(hu:¬0<u):u<0:=by
 rcases nO u 0 with e|e|e
 ·exact e
 ·rw[e,hv,mul_zero,add_zero]at h;rw[<-h]at hQ;exact absurd hQ (lt_irrefl _)
 ·exact absurd e hu
theorem Jb(u w Q:RE):((u-(0))*(u-(w)))+((w-(0))*(u-(w)))+((Q-(u*u)))+((w*w-(Q)))=0:=by grind
theorem GX(u w Q:RE)(h1:u*u=Q)(h2:w*w=Q)(h3:0<u)(h4:0<w):u<=w:=λhg=>far (aS (aS (aS (mul_pos (aX h3) (aX hg)) (le_of_lt (mul_pos (aX h4) (aX hg)))) (aK (sC h1))) (aK (rE h2))) (Jb u w Q)
theorem Jd(u w Q:RE):((0-(u))*(u-(w)))+((0-(w))*(u-(w)))+((u*u-(Q)))+((Q-(w*w)))=0:=by grind
theorem Gk(u w Q:RE)(h1:u*u=Q)(h2:w*w=Q)(h3:u<0)(h4:w<0):u<=w:=λhg=>far (aS (aS (aS (mul_pos (aX h3) (aX hg)) (le_of_lt (mul_pos (aX h4) (aX hg)))) (aK (rE h1))) (aK (sC h2))) (Jd u w Q)
theorem DF(x y c:RE)(h1:x-c<y-c):x<y:=by grind
theorem IG(x y c:RE)(h1:x-c=y-c):x<=y:=by grind
theorem Iu(x y c:RE)(h1:x-c=y-c):y<=x:=by grind
theorem rN(x y c:RE)(h1:x-c=y-c):x=y:=le_antisymm (IG x y c h1) (Iu x y c h1)
theorem DI(x c:RE): -x- -c= -(x-c):=by grind
theorem QA(x y:RE): -x- -y=y-x:=by grind
theorem Xd(a b r:RE): -a+ -b*r= -(a+b*r):=by grind
theorem NO(x q:RE)(h1:x+ -q=0):x<=q:=by grind
theorem Lc(x q:RE)(h1:x+ -q=0):q<=x:=by grind
theorem Hr(x q:RE)(h1:x+ -q=0):x=q:=le_antisymm (NO x q h1) (Lc x q h1)
section
variable {x y x' y' cx cy Q:RE}
theorem cV(hQ:0<Q)(h:(x-cx)*(x-cx)+(y-cy)*(y-cy)=Q)(h':(x'-cx)*(x'-cx)+(y'-cy)*(y'-cy)=Q){L:List RE}(hx:x∈L)(hx':x'∈L):
  me (cls (x-cx) (y-cy)) (rk (λa b:RE=>a<b) L x) (cls (x'-cx) (y'-cy)) (rk (λa b:RE=>a<b) L x')=true:=by
 unfold me;rw[afr];have vv:∀{u v:RE},u*u+v*v=Q->v=0->u*u=Q:=λh e=>by rw[e,mul_zero,add_zero]at h;exact h
 refine⟨?_,?_⟩
 ·by_cases e:cls (x-cx) (y-cy)=0
  ·obtain⟨e1,e2⟩:=Od.1 e;rw[e];by_cases e':cls (x'-cx) (y'-cy)=0
   ·obtain⟨f1,f2⟩:=Od.1 e';rw[e'];have:=rN _ _ cx (le_antisymm (GX _ _ _ (vv h e1) (vv h' f1) e2 f2) (GX _ _ _ (vv h' f1) (vv h e1) f2 e2));rw[this];simp
   ·have hle:=Xu _ _ _ _ _ h h' e1 e2 (Fd (y'-cy))
    have hlt:x'-cx<x-cx:=by
     rcases nO (x'-cx) (x-cx)with g|g|g
     ·exact g
     ·exfalso;have z:=JK (x-cx) (x'-cx) (y'-cy) Q (vv h e1) h' (by rw[g]);exact e' (Od.2 ⟨Gu z,by rw[g];exact e2⟩)
     ·exact absurd g ((Bq _ _).1 hle)
    have:=rW lt_lin (DF _ _ _ hlt) hx';rw[show(cls (x'-cx) (y'-cy)==0)=false by simp[e']];simp[this]
  ·simp[e]
 ·by_cases e:cls (x-cx) (y-cy)=2
  ·obtain⟨e1,e2⟩:=LK.1 e;have e3:=zN hQ h e1 e2;rw[e];by_cases e':cls (x'-cx) (y'-cy)=2
   ·obtain⟨f1,f2⟩:=LK.1 e';have f3:=zN hQ h' f1 f2;rw[e'];have:=rN _ _ cx (le_antisymm (Gk _ _ _ (vv h e1) (vv h' f1) e3 f3) (Gk _ _ _ (vv h' f1) (vv h e1) f3 e3));rw[this];simp
   ·have hle:=Xh _ _ _ _ _ h h' e1 e3 (Fd (y'-cy))
    have hlt:x-cx<x'-cx:=by
     rcases nO (x-cx) (x'-cx)with g|g|g
     ·exact g
     ·exfalso;have z:=JK (x-cx) (x'-cx) (y'-cy) Q (vv h e1) h' (by rw[g]);exact e' (LK.2 ⟨Gu z,by rw[<-g];exact e2⟩)
     ·exact absurd g ((Bq _ _).1 hle)
    have:=rW lt_lin (DF _ _ _ hlt) hx;rw[show(cls (x'-cx) (y'-cy)==2)=false by simp[e']];simp[this]
  ·simp[e]
end
def onCi(c:Ln)(p:Pt):Prop:=(pX p-of c.1)*(pX p-of c.1)+(pY p-of c.2.1)*(pY p-of c.2.1)=of c.2.2
theorem ins_on{c:Ln}{p:Pt}[Rpd p](h:n6 c p=0):onCi c p:=by
 rw[Ah]at h;exact Hr _ _ (Oy.1 (Int.neg_eq_zero.1 h))
theorem ja{c:Ln}{p:Pt}[Rpd p]:upR c p=upA (cls (pX p-of c.1) (pY p-of c.2.1)):=by
 unfold upR;rw[cmpTR_re Ho,cmpTR_re ny,uW,Qs,Xs]
theorem BD(p:Pt):pX (flP p)= -pX p:=by
 unfold pX flP v2;rw[of_neg,of_neg];exact Xd _ _ _
theorem adc(p:Pt):pY (flP p)=pY p:=rfl
theorem uL{c:Ln}{p:Pt}[h:Rpd p](hQ:0<c.2.2)(hp:onCi c p):upR (flC c) (flP p)=ufA (cls (pX p-of c.1) (pY p-of c.2.1)):=by
 unfold upR;rw[cmpTR_re Ho,cmpTR_re ny,uW,Qs,BD,adc];show(decide (sg (pY p-of c.2.1)>0)||(sg (pY p-of c.2.1)==0&&decide (sg (-pX p-of (-c.1))>0)))=_;rw[of_neg,DI,Ws];exact Zp (jF hQ) hp
theorem eN{L:List RE}{p q:Pt}[Rpd p][Rpd q](hp:pX p∈L)(hq:pX q∈L):bj (xP p) (xP q)=cI (rk (λa b:RE=>a<b) L (pX p)) (rk (λa b:RE=>a<b) L (pX q)):=by
 rw[cmpT_re ny ny,uW,uW];exact xI lt_lin sg_cmpO hp hq
theorem mO{L:List RE}{p q:Pt}[Rpd p][Rpd q](hp:pX p∈L)(hq:pX q∈L):bj (xP (flP p)) (xP (flP q))=dI (rk (λa b:RE=>a<b) L (pX p)) (rk (λa b:RE=>a<b) L (pX q)):=by
 rw[cmpT_re ny ny,uW,uW,BD,BD,QA];exact xI lt_lin sg_cmpO hq hp
theorem arc_eq{ci:Ln}{F P T:Pt}[Rpd F][Rpd P][Rpd T](hQ:0<ci.2.2)(hF:onCi ci F)(hP:onCi ci P)(hT:onCi ci T):
  decide (eI bj (ptd ci F) (ptd ci P) (ptd ci T)<=0)=(decide (jM bj (ptd ci F) (ptd ci F) (ptd ci P)<=0)&&decide (jM bj (ptd ci F) (ptd ci P) (ptd ci T)<=0))/\
  decide (eI bj (ptd ci T) (ptd ci P) (ptd ci F)<=0)=(decide (jM bj (ptd (flC ci) (flP F)) (ptd (flC ci) (flP F)) (ptd (flC ci) (flP P))<=0)&&decide (jM bj (ptd (flC ci) (flP F)) (ptd (flC ci) (flP P)) (ptd (flC ci) (flP T))<=0)):=by
 have mF:pX F∈[pX F,pX P,pX T]:=by simp
 have mP:pX P∈[pX F,pX P,pX T]:=by simp
 have mT:pX T∈[pX F,pX P,pX T]:=by simp
 have hq:0<of ci.2.2:=jF hQ;have bF:=kX lt_lin mF;have bP:=kX lt_lin mP;have bT:=kX lt_lin mT;have cF:=lN (pX F-of ci.1) (pY F-of ci.2.1);have cP:=lN (pX P-of ci.1) (pY P-of ci.2.1);have cT:=lN (pX T-of ci.1) (pY T-of ci.2.1)
 have hcon:Ea (cls (pX F-of ci.1) (pY F-of ci.2.1)) (rk (λa b:RE=>a<b) [pX F,pX P,pX T] (pX F)) (cls (pX P-of ci.1) (pY P-of ci.2.1)) (rk (λa b:RE=>a<b) [pX F,pX P,pX T] (pX P)) (cls (pX T-of ci.1) (pY T-of ci.2.1)) (rk (λa b:RE=>a<b) [pX F,pX P,pX T] (pX T))=true:=by
  unfold Ea;rw[cV hq hF hP mF mP,cV hq hP hF mP mF,cV hq hF hT mF mT,cV hq hT hF mT mF,cV hq hP hT mP mT,cV hq hT hP mT mP];rfl
 have a1:=Q3 ⟨_,cF⟩ ⟨_,cP⟩ ⟨_,cT⟩ ⟨_,bF⟩ ⟨_,bP⟩ ⟨_,bT⟩ hcon;have a2:=Wr ⟨_,cF⟩ ⟨_,cP⟩ ⟨_,cT⟩ ⟨_,bF⟩ ⟨_,bP⟩ ⟨_,bT⟩ hcon;simp only at a1 a2;refine⟨?_,?_⟩
 ·unfold ptd;rw[ja,ja,ja,iA (eN mP mF) (eN mT mF) (eN mP mT),fy (eN mF mF) (eN mP mF) (eN mF mP),fy (eN mP mF) (eN mT mF) (eN mP mT)];exact a1
 ·unfold ptd;rw[ja,ja,ja,uL hQ hF,uL hQ hP,uL hQ hT,iA (eN mP mT) (eN mF mT) (eN mP mF),fy (mO mF mF) (mO mP mF) (mO mF mP),fy (mO mP mF) (mO mT mF) (mO mP mT)];exact a2
theorem seg_eq{F P T:Pt}[Rpd F][Rpd P][Rpd T]:yg (aF F P) (aF P T)=acC (aF F T) (aF F P) (aF P T):=by
 have mF:pR F∈[pR F,pR P,pR T]:=by simp
 have mP:pR P∈[pR F,pR P,pR T]:=by simp
 have mT:pR T∈[pR F,pR P,pR T]:=by simp
 rw[lk,lk,lk,xI jz gX mF mP,xI jz gX mP mT,xI jz gX mF mT];exact RY ⟨_,kX jz mF⟩ ⟨_,kX jz mP⟩ ⟨_,kX jz mT⟩
end RE
structure Crv (c:Cv):Prop where
 f:Rpd (frC c)
 t:Rpd (toC c)
 q:c.1=true->0<(ciC c).2.2/\RE.onCi (ciC c) (frC c)/\RE.onCi (ciC c) (toC c)
theorem ac8{c:Cv}(h:Crv c){p:Pt}(hp:Rpd p):onP c p=onR c p:=by
 have hf:=h.f;have ht:=h.t;unfold onP onR;cases hs:em c p
 ·rfl
 ·simp only[agc];unfold gT bz;obtain⟨ar,li,ci,cw,fr,to⟩:=c;have hf:Rpd fr:=hf;have ht:Rpd to:=ht;cases ar
  ·exact RE.seg_eq (F:=fr) (P:=p) (T:=to)
  ·obtain⟨q1,q2,q3⟩:=h.q rfl
   have hi:n6 ci p=0:=by
    have:(n6 ci p==0)=true:=hs;exact agl.1 this
   obtain⟨e1,e2⟩:=RE.arc_eq (ci:=ci) (F:=fr) (P:=p) (T:=to) q1 q2 (RE.ins_on hi) q3;cases cw
   ·exact e1
   ·exact e2
end
theorem Wt(d:Rat×Rat):0<=ZL d d:=by
 unfold ZL
 have h:∀a:Rat,0<=a*a:=λa=>by
  rcases(by grind:0<=a\/0<= -a)with h|h
  ·exact af6 h h
  ·have:=af6 h h;grind
 have:=h d.1;have:=h d.2;grind
theorem zZ(a b d e s:Rat):yl (mkR a d s) (mkR b e s):=by
 unfold yl mkR;cases fi s
 ·simp only[cond_false];by_cases hd:d=0
  ·rw[afm hd];exact .inl rfl
  ·by_cases he:e=0
   ·rw[afm he];exact .inr (.inl rfl)
   ·rw[afo hd,afo he];exact .inr (.inr rfl)
 ·exact .inl rfl
namespace RE
def YT(l:Ln)(p:Pt):Prop:=of l.1*pX p+of l.2.1*pY p=of l.2.2
theorem Et{l:Ln}{p:Pt}[Rpd p](h:tK l p=0):YT l p:=by
 rw[Aa]at h;exact Hr _ _ (Oy.1 h)
end RE
def gdC(c:BCU):Prop:=okC 580 c/\em (dC c) (frC (dC c))=true/\em (dC c) (toC (dC c))=true
theorem fd{k:Nat}{x:BP}(h:okP k x):Rpd (dec x):=by
 obtain⟨p,rfl,bp,rp⟩:=db h;rw[aB];exact rp
def zO:List En:=[⟨125,ju,fq⟩,⟨67,jC,fI⟩,⟨132,mA,jk⟩,⟨65,kp,gu⟩,⟨133,qO,l4⟩,⟨54,jA,fH⟩,⟨66,lI,ik⟩,⟨245,Ax,wQ⟩,enT CZ,enL M1,enL LH,enL LP,enL Lg,enL Hg,enL Oz,enL VK]
def SZ(l:BO3)(p:BP)(_k:KT):OLR:=let y1:=bi (dec (p.1,(p.2.1,p.2.2.2.2)));let y2:=hid ((bi (dec p.2.2)).1);let y3:=jw (ah l.1) (hid (y1.1)) (y1.2);let y4:=jw (ah l.2.1) y2 ((bi (dec p.2.2)).2);let y5:=dA (hid (y3.1)) (hid (y4.1));let y6:=hid ((frF (ah l.2.2)).1);let y7:=dA (hid (y5.1)) (hid (lW y6));og (decide (ok Rt 100000 (p.1,(p.2.1,p.2.2.2.2)))) (og (decide (ok Rat 100000 l.1/\prI (hid (y1.1)))) (og (decide (ok Rt 100000 p.2.2)) (og (decide (ok Rat 100000 l.2.1/\prI y2)) (og (decide (ok Rat 200000 l.2.2)) (match !(y3.2)with|true=>some [RV.d aiy 0,RV.d .bool false]|false=>(match !(y4.2)with|true=>some [RV.d aiy 0,RV.d .bool false]|false=>(match !((frF (ah l.2.2)).2)with|true=>some [RV.d aiy 0,RV.d .bool false]|false=>(og (decide (prI (hid (y3.1))/\prI (hid (y4.1)))) (match !(y5.2)with|true=>some [RV.d aiy 0,RV.d .bool false]|false=>(og (decide (prI y6)) (og (decide (prI (hid (y5.1))/\prI (hid (lW y6)))) (match !(y7.2)with|true=>some [RV.d aiy 0,RV.d .bool false]|false=>some [RV.d aiy ((sgF (hid (y7.1))).1),RV.d .bool ((sgF (hid (y7.1))).2)]))))))))))))
def ZO:Cn 268 [tO,tP]:=cn λ(l:BO3) (p:BP)=>lf (ok Ln 300 l/\ok Pt 4000 p) [.d aiy ((wX (dec l) (dec p)).1),.d .bool ((wX (dec l) (dec p)).2)] λh=>by
 refine az zO (SZ l p) ⟨0,?_⟩;obtain⟨hl,hp⟩:=h;obtain⟨l,rfl,bl⟩:=aH hl;obtain⟨p,rfl,bp⟩:=aH hp;have dx:(dec ((ao p.1,ao p.2.1,ao p.2.2.2.2):BO3):Rt)=pxR p:=aB (pxR p);have dy:(dec ((ao p.2.2.1,ao p.2.2.2.1,ao p.2.2.2.2):BO3):Rt)=pyR p:=aB (pyR p);have dy':(dec (enc p.2.2:BO3):Rt)=pyR p:=aB (pyR p);have px:Bd (pxR p) 4000:=(inferInstance:Bd ((p.1,p.2.1,p.2.2.2.2):Rt) _).mono (by decide);have py:Bd (pyR p) 4000:=(inferInstance:Bd ((p.2.2.1,p.2.2.2.1,p.2.2.2.2):Rt) _).mono (by decide);have ox:decide (ok Rt 100000 ((ao p.1,ao p.2.1,ao p.2.2.2.2):BO3))=true:=okd (x:=pxR p) (by decide) (by decide);have oy:decide (ok Rt 100000 (enc p.2.2:BO3))=true:=okd (x:=pyR p) (by decide) (by decide);have pr:∀r,prI (bi r).1:=xx;have pt:∀n a k,prI (jw n a k).1:=PW;have pf:∀q,prI (frF q).1:=RE.frF_pr;unfold SZ;simp only[aW,Nat.reduceLeDiff,dx,dy',ox,oy,dT (pr _),dT (pt _ _ _),dT (pf _),dT (RE.addF_pr (pt _ _ _) (pt _ _ _)),dT (RE.negF_pr (pf _))];unfold wX;generalize bi (pxR p)=X;generalize bi (pyR p)=Y;generalize jw l.1 X.1 X.2=U;generalize jw l.2.1 Y.1 Y.2=V;generalize frF l.2.2=W;generalize dA U.1 V.1=S;generalize dA S.1 (lW W.1)=D;generalize sgF D.1=Z;obtain⟨_,u⟩:=U;obtain⟨_,v⟩:=V;obtain⟨_,w⟩:=W;obtain⟨_,s⟩:=S;obtain⟨_,d⟩:=D;cases u<;>cases v<;>cases w<;>try rfl
 cases s<;>cases d<;>rfl
def Nj:Cn 160 [tR,tR]:=cn λ(a b:BR)=>lf (okR a/\okR b) [.d tR (ao (ah a+ah b))] λh=>kx [RV.d tR (hAd a b)] (dk zO) h
def Pj:Cn 157 [tR,tR]:=cn λ(a b:BR)=>lf (okR a/\okR b) [.d tR (ao (ah a-ah b))] λh=>kx [RV.d tR (hSu a b)] (dk zO) h
def JF:Cn 158 [tR,tR]:=cn λ(a b:BR)=>lf (okR a/\okR b) [.d tR (ao (ah a*ah b))] λh=>kx [RV.d tR (hMu a b)] (dk zO) h
def Ug(a b:BR)(_k:KT):OLR:=og (decide (ij a b)) (match 0 !=0 with|true=>(og (decide (a9 (0:Int))) (some [RV.d tR (hid (ao ((0:Int):Rat)))]))|false=>some [RV.d tR (hDi a b)])
def TC:Cn 161 [tR,tR]:=cn λ(a b:BR)=>lf (ij a b) [.d tR (ao (ah a/ah b))] λh=>by
 refine az zO (Ug a b) ⟨0,?_⟩;unfold Ug;rw[dT h];simp only[bL];rfl
def Lh:List En:=enT ZO::enL Nj::enL Pj::enL JF::enL TC::zO
def T7(a b c:BR)(_k:KT):OLR:=og (o1 a) (og (o1 b) (og (o1 c) (match(i64.wrap ((aE (ah b) 0)*(aE (ah c) 0)))==0 with|true=>some [RV.d aiy (aE (ah a) 0)]|false=>(match(aE (ah a) 0)==(i64.wrap ((aE (ah b) 0)*(aE (ah c) 0)))with|true=>some [RV.d aiy (aE (ah a) 0)]|false=>(match(aE (ah a) 0)==0 with|true=>some [RV.d aiy (i64.wrap ((aE (ah b) 0)*(aE (ah c) 0)))]|false=>(og (o2 a a) (og (o2 b b) (og (o2 (hMu b b) c) (og (o2 (hMu a a) (hMu (hMu b b) c)) (some [RV.d aiy (i64.wrap ((aE (ah a) 0)*(aE (ah (hMu a a)) (ah (hMu (hMu b b) c)))))]))))))))))
def abA:Cn 267 [tR,tR,tR]:=cn λ(a b c:BR)=>lf (ok Rat 240000 a/\ok Rat 170000 b/\ok Rat 30000 c) [.d aiy (gn (ah a) (ah b) (ah c))] λh=>by
 refine az Lh (T7 a b c) ⟨0,?_⟩;obtain⟨ha,hb,hc⟩:=h;obtain⟨a,rfl,ba⟩:=aH ha;obtain⟨b,rfl,bb⟩:=aH hb;obtain⟨c,rfl,bc⟩:=aH hc;unfold T7;simp only[aW,Nat.reduceAdd,Nat.reduceLeDiff,pG];exact Bn _ _ _
def US(a b c f:BR)(_k:KT):OLR:=og (decide (ok Rt 100000 (a,(b,c)))) (og (decide (ok Rat 200000 f)) (match !((bi (dec (a,(b,c)))).2)with|true=>some [RV.d tG (0,0),RV.d .bool false]|false=>(match !((frF (ah f)).2)with|true=>some [RV.d tG (0,0),RV.d .bool false]|false=>(og (decide (prI (hid ((frF (ah f)).1)))) (og (decide (prI (hid ((bi (dec (a,(b,c)))).1))/\prI (hid (lW (hid ((frF (ah f)).1)))))) (some [RV.d tG (hid ((dA (hid ((bi (dec (a,(b,c)))).1)) (hid (lW (hid ((frF (ah f)).1))))).1)),RV.d .bool ((dA (hid ((bi (dec (a,(b,c)))).1)) (hid (lW (hid ((frF (ah f)).1))))).2)]))))))
def acm:Cn 306 [tR,tR,tR,tR]:=cn λ(a b c f:BR)=>lf (ok Rat 100000 a/\ok Rat 100000 b/\ok Rat 100000 c/\ok Rat 100000 f) [.d tG ((eT (ah a,ah b,ah c) (ah f)).1),.d .bool ((eT (ah a,ah b,ah c) (ah f)).2)] λh=>by
 refine az Lh (US a b c f) ⟨0,?_⟩;obtain⟨ha,hb,hc,hf⟩:=h;obtain⟨a,rfl,ba⟩:=aH ha;obtain⟨b,rfl,bb⟩:=aH hb;obtain⟨c,rfl,bc⟩:=aH hc;obtain⟨f,rfl,bf⟩:=aH hf;have dr:(dec ((ao a,ao b,ao c):BO3):Rt)=(a,b,c):=aB ((a,b,c):Rt);have orr:decide (ok Rt 100000 ((ao a,ao b,ao c):BO3))=true:=okd (x:=((a,b,c):Rt)) (by decide) (by decide);unfold US;simp only[aW,Nat.reduceLeDiff,dr,orr,dT (RE.frF_pr _),dT (RE.negF_pr (RE.frF_pr _)),dT (xx _)];unfold eT;generalize bi (a,b,c)=X;generalize frF f=Y;obtain⟨_,x⟩:=X;obtain⟨_,y⟩:=Y;cases x<;>cases y<;>rfl
def Nd:List En:=enT abA::enL acm::Lh
def Vx(c:BO3)(p:BP)(_k:KT):OLR:=let y1:=eT (ah p.1,ah p.2.1,ah p.2.2.2.2) (ah c.1);let y2:=eT (ah p.2.2.1,ah p.2.2.2.1,ah p.2.2.2.2) (ah c.2.1);let y3:=cD (hid (y1.1)) (hid (y1.1));let y4:=cD (hid (y2.1)) (hid (y2.1));let y5:=dA (hid (y3.1)) (hid (y4.1));let y6:=hid ((frF (ah c.2.2)).1);let y7:=dA (hid (y5.1)) (hid (lW y6));og (decide (ok Rat 100000 p.1/\ok Rat 100000 p.2.1/\ok Rat 100000 p.2.2.2.2/\ok Rat 100000 c.1)) (og (decide (ok Rat 100000 p.2.2.1/\ok Rat 100000 p.2.2.2.1/\ok Rat 100000 p.2.2.2.2/\ok Rat 100000 c.2.1)) (og (decide (ok Rat 200000 c.2.2)) (match !(y1.2)with|true=>some [RV.d aiy 0,RV.d .bool false]|false=>(match !(y2.2)with|true=>some [RV.d aiy 0,RV.d .bool false]|false=>(match !((frF (ah c.2.2)).2)with|true=>some [RV.d aiy 0,RV.d .bool false]|false=>(og (decide (prI (hid (y1.1))/\prI (hid (y1.1)))) (og (decide (prI (hid (y2.1))/\prI (hid (y2.1)))) (match !(y3.2)with|true=>some [RV.d aiy 0,RV.d .bool false]|false=>(match !(y4.2)with|true=>some [RV.d aiy 0,RV.d .bool false]|false=>(og (decide (prI (hid (y3.1))/\prI (hid (y4.1)))) (match !(y5.2)with|true=>some [RV.d aiy 0,RV.d .bool false]|false=>(og (decide (prI y6)) (og (decide (prI (hid (y5.1))/\prI (hid (lW y6)))) (match !(y7.2)with|true=>some [RV.d aiy 0,RV.d .bool false]|false=>some [RV.d aiy ((sgF (hid (y7.1))).1),RV.d .bool ((sgF (hid (y7.1))).2)]))))))))))))))
def adD:Cn 266 [tO,tP]:=cn λ(c:BO3) (p:BP)=>lf (ok Ln 300 c/\ok Pt 4000 p) [.d aiy ((tJ (dec c) (dec p)).1),.d .bool ((tJ (dec c) (dec p)).2)] λh=>by
 refine az Nd (Vx c p) ⟨0,?_⟩;obtain⟨hc,hp⟩:=h;obtain⟨c,rfl,bc⟩:=aH hc;obtain⟨p,rfl,bp⟩:=aH hp;have pd:∀r q,prI (eT r q).1:=Rv;have pf:∀q,prI (frF q).1:=RE.frF_pr;have pm:∀a b,prI (cD a b).1:=rI;have dx:eT (p.1,p.2.1,p.2.2.2.2) c.1=eT (pxR p) c.1:=rfl;have dy:eT (p.2.2.1,p.2.2.2.1,p.2.2.2.2) c.2.1=eT (pyR p) c.2.1:=rfl;unfold Vx;simp only[aW,Nat.reduceLeDiff,dx,dy,dT (pd _ _),dT (pm _ _),dT (pf _),dT (RE.negF_pr (pf _)),dT (RE.addF_pr (pm _ _) (pm _ _))];unfold tJ;generalize eT (pxR p) c.1=X;generalize eT (pyR p) c.2.1=Y;generalize frF c.2.2=W;generalize cD X.1 X.1=U;generalize cD Y.1 Y.1=V;generalize dA U.1 V.1=S;generalize dA S.1 (lW W.1)=D;generalize sgF D.1=Z;obtain⟨_,x⟩:=X;obtain⟨_,y⟩:=Y;obtain⟨_,w⟩:=W;obtain⟨_,u⟩:=U;obtain⟨_,v⟩:=V;obtain⟨_,s⟩:=S;obtain⟨_,d⟩:=D;cases x<;>cases y<;>cases w<;>try rfl
 cases u<;>cases v<;>try rfl
 cases s<;>cases d<;>rfl
def Vj(l:BO3)(p:BP)(_k:KT):OLR:=og (decide (ok Ln 300 l/\ok Pt 4000 p)) (match(wX (dec l) (dec p)).2 with|true=>some [RV.d aiy ((wX (dec l) (dec p)).1)]|false=>(og (o2 l.1 p.1) (og (o2 l.2.1 p.2.2.1) (og (o2 (hMu l.1 p.1) (hMu l.2.1 p.2.2.1)) (og (o2 (hAd (hMu l.1 p.1) (hMu l.2.1 p.2.2.1)) l.2.2) (og (o2 l.1 p.2.1) (og (o2 l.2.1 p.2.2.2.1) (og (o2 (hMu l.1 p.2.1) (hMu l.2.1 p.2.2.2.1)) (og (decide (ok Rat 240000 (hSu (hAd (hMu l.1 p.1) (hMu l.2.1 p.2.2.1)) l.2.2)/\ok Rat 170000 (hAd (hMu l.1 p.2.1) (hMu l.2.1 p.2.2.2.1))/\ok Rat 30000 p.2.2.2.2)) (some [RV.d aiy (gn (ah (hSu (hAd (hMu l.1 p.1) (hMu l.2.1 p.2.2.1)) l.2.2)) (ah (hAd (hMu l.1 p.2.1) (hMu l.2.1 p.2.2.2.1))) (ah p.2.2.2.2))]))))))))))
def ZK:Cn 182 [tO,tP]:=cn λ(l:BO3) (p:BP)=>lf (ok Ln 300 l/\okP 4000 p) [.d aiy (tK (dec l) (dec p))] λh=>by
 refine az Nd (Vj l p) ⟨0,?_⟩;obtain⟨hl,hp⟩:=h;obtain⟨l,rfl,bl⟩:=aH hl;obtain⟨p,rfl,bp,rp⟩:=db hp;unfold Vj;simp only[aW,Nat.reduceAdd,Nat.reduceLeDiff];cases hq:(wX l p).2
 ·rfl
 ·rw[RE.sidL_ok l hq]
def Us:List En:=enT adD::Nd
def Tb(c:BO3)(p:BP)(_k:KT):OLR:=og (decide (ok Ln 300 c/\ok Pt 4000 p)) (match(tJ (dec c) (dec p)).2 with|true=>some [RV.d aiy (i64.wrap (0-((tJ (dec c) (dec p)).1)))]|false=>(og (o2 p.1 c.1) (og (o2 p.2.2.1 c.2.1) (og (o2 (hSu p.1 c.1) (hSu p.1 c.1)) (og (o2 (hSu p.2.2.1 c.2.1) (hSu p.2.2.1 c.2.1)) (og (o2 (hMu (hSu p.1 c.1) (hSu p.1 c.1)) (hMu (hSu p.2.2.1 c.2.1) (hSu p.2.2.1 c.2.1))) (og (o2 p.2.1 p.2.1) (og (o2 p.2.2.2.1 p.2.2.2.1) (og (o2 (hMu p.2.1 p.2.1) (hMu p.2.2.2.1 p.2.2.2.1)) (og (o2 p.2.2.2.2 (hAd (hMu p.2.1 p.2.1) (hMu p.2.2.2.1 p.2.2.2.1))) (og (o2 (hAd (hMu (hSu p.1 c.1) (hSu p.1 c.1)) (hMu (hSu p.2.2.1 c.2.1) (hSu p.2.2.1 c.2.1))) (hMu p.2.2.2.2 (hAd (hMu p.2.1 p.2.1) (hMu p.2.2.2.1 p.2.2.2.1)))) (og (o2 (hSu p.1 c.1) p.2.1) (og (o2 (hSu p.2.2.1 c.2.1) p.2.2.2.1) (og (o2 (hMu (hSu p.1 c.1) p.2.1) (hMu (hSu p.2.2.1 c.2.1) p.2.2.2.1)) (og (o2 (hAd (hAd (hMu (hSu p.1 c.1) (hSu p.1 c.1)) (hMu (hSu p.2.2.1 c.2.1) (hSu p.2.2.1 c.2.1))) (hMu p.2.2.2.2 (hAd (hMu p.2.1 p.2.1) (hMu p.2.2.2.1 p.2.2.2.1)))) c.2.2) (og (o2 (hAd (hMu (hSu p.1 c.1) p.2.1) (hMu (hSu p.2.2.1 c.2.1) p.2.2.2.1)) (hAd (hMu (hSu p.1 c.1) p.2.1) (hMu (hSu p.2.2.1 c.2.1) p.2.2.2.1))) (og (decide (ok Rat 240000 (hSu (hAd (hAd (hMu (hSu p.1 c.1) (hSu p.1 c.1)) (hMu (hSu p.2.2.1 c.2.1) (hSu p.2.2.1 c.2.1))) (hMu p.2.2.2.2 (hAd (hMu p.2.1 p.2.1) (hMu p.2.2.2.1 p.2.2.2.1)))) c.2.2)/\ok Rat 170000 (hAd (hAd (hMu (hSu p.1 c.1) p.2.1) (hMu (hSu p.2.2.1 c.2.1) p.2.2.2.1)) (hAd (hMu (hSu p.1 c.1) p.2.1) (hMu (hSu p.2.2.1 c.2.1) p.2.2.2.1)))/\ok Rat 30000 p.2.2.2.2)) (some [RV.d aiy (i64.wrap (0-(gn (ah (hSu (hAd (hAd (hMu (hSu p.1 c.1) (hSu p.1 c.1)) (hMu (hSu p.2.2.1 c.2.1) (hSu p.2.2.1 c.2.1))) (hMu p.2.2.2.2 (hAd (hMu p.2.1 p.2.1) (hMu p.2.2.2.1 p.2.2.2.1)))) c.2.2)) (ah (hAd (hAd (hMu (hSu p.1 c.1) p.2.1) (hMu (hSu p.2.2.1 c.2.1) p.2.2.2.1)) (hAd (hMu (hSu p.1 c.1) p.2.1) (hMu (hSu p.2.2.1 c.2.1) p.2.2.2.1)))) (ah p.2.2.2.2))))]))))))))))))))))))
def ZP:Cn 181 [tO,tP]:=cn λ(c:BO3) (p:BP)=>lf (ok Ln 300 c/\okP 4000 p) [.d aiy (n6 (dec c) (dec p))] λh=>by
 refine az Us (Tb c p) ⟨0,?_⟩;obtain⟨hc,hp⟩:=h;obtain⟨c,rfl,bc⟩:=aH hc;obtain⟨p,rfl,bp,rp⟩:=db hp;have sb:=k9 (sqA p (ctr c)-c.2.2) (sqB p (ctr c)) p.2.2.2.2;unfold Tb;simp only[aW,Nat.reduceAdd,Nat.reduceLeDiff];cases hq:(tJ c p).2
 ·unfold n6 sqA sqB ctr at*
  dsimp only at sb ⊢;rw[show(p.2.2.2.2*(p.2.1*p.2.1+p.2.2.2.1*p.2.2.2.1))=(p.2.1*p.2.1+p.2.2.2.1*p.2.2.2.1)*p.2.2.2.2 by grind];rw[aM (by omega) (by omega),ahl]
 ·have hb: -1<=(tJ c p).1/\(tJ c p).1<=1:=by
   have:=RE.insC_ok c hq;unfold n6 at this;omega
  dsimp only;rw[aM (by omega) (by omega),ahl,RE.insC_ok c hq]
def T6(l:BO3)(v:BV)(_k:KT):OLR:=og (o2 l.1 v.1) (og (o2 l.2.1 v.2) (og (o2 (hMu l.1 v.1) (hMu l.2.1 v.2)) (og (o2 (hAd (hMu l.1 v.1) (hMu l.2.1 v.2)) l.2.2) (og (o2 l.1 l.1) (og (o2 l.2.1 l.2.1) (og (o2 (hMu l.1 l.1) (hMu l.2.1 l.2.1)) (og (decide (ij (hSu (hAd (hMu l.1 v.1) (hMu l.2.1 v.2)) l.2.2) (hAd (hMu l.1 l.1) (hMu l.2.1 l.2.1)))) (og (o2 (hDi (hSu (hAd (hMu l.1 v.1) (hMu l.2.1 v.2)) l.2.2) (hAd (hMu l.1 l.1) (hMu l.2.1 l.2.1))) l.1) (og (o2 v.1 (hMu (hDi (hSu (hAd (hMu l.1 v.1) (hMu l.2.1 v.2)) l.2.2) (hAd (hMu l.1 l.1) (hMu l.2.1 l.2.1))) l.1)) (og (o2 (hDi (hSu (hAd (hMu l.1 v.1) (hMu l.2.1 v.2)) l.2.2) (hAd (hMu l.1 l.1) (hMu l.2.1 l.2.1))) l.2.1) (og (o2 v.2 (hMu (hDi (hSu (hAd (hMu l.1 v.1) (hMu l.2.1 v.2)) l.2.2) (hAd (hMu l.1 l.1) (hMu l.2.1 l.2.1))) l.2.1)) (some [RV.d tV (hSu v.1 (hMu (hDi (hSu (hAd (hMu l.1 v.1) (hMu l.2.1 v.2)) l.2.2) (hAd (hMu l.1 l.1) (hMu l.2.1 l.2.1))) l.1),hSu v.2 (hMu (hDi (hSu (hAd (hMu l.1 v.1) (hMu l.2.1 v.2)) l.2.2) (hAd (hMu l.1 l.1) (hMu l.2.1 l.2.1))) l.2.1))]))))))))))))
def Zz:Cn 137 [tO,tV]:=cn λ(l:BO3) (v:BV)=>lf (ok Ln 300 l/\ok (Rat×Rat) 200 v/\((dec l:Ln).1≠0\/(dec l:Ln).2.1≠0)) [.d tV (enc (DP (dec l) (dec v)))] λh=>by
 refine az Us (T6 l v) ⟨0,?_⟩;obtain⟨hl,hv,h0⟩:=h;obtain⟨l,rfl,bl⟩:=aH hl;obtain⟨v,rfl,bv⟩:=aH hv;have hn:l.1*l.1+l.2.1*l.2.1≠0:=zQ (by rw[aB]at h0;exact h0);unfold T6;simp only[aW,Nat.reduceAdd,Nat.reduceLeDiff,hn,ne_eq,agP];rfl
theorem QS(n:Int):(if(if n>(-1)then n else(-1))<1 then(if n>(-1)then n else(-1))else 1)=yf n:=by
 unfold yf;split<;>split<;>(try split)<;>(try split)<;>omega
def wL:List En:=[enT Mp,enT aah,enL ab5,enL abj,enT Pw,enT ZK,enT ZP]
def Sz(c:BCU)(p:BP)(_k:KT):OLR:=match c.1 with|true=>(og (decide (ok Ln 300 c.2.2.1/\okP 4000 p)) (some [RV.d .bool ((n6 (dec c.2.2.1) (dec p))==0)]))|false=>(og (decide (ok Ln 300 c.2.1/\okP 4000 p)) (some [RV.d .bool ((tK (dec c.2.1) (dec p))==0)]))
def adQ:Cn 85 [tCU,tP]:=cn λ(c:BCU) (p:BP)=>lf (okC 4000 c/\okP 4000 p) [.d .bool (em (dC c) (dec p))] λh=>by
 refine az wL (Sz c p) ⟨0,?_⟩;obtain⟨hc,hp⟩:=h;have op:decide (okP 4000 p)=true:=afm hp;obtain⟨ar,li,ci,cw,fr,to⟩:=c;obtain⟨c1,c2,_⟩:=hc;unfold Sz;cases ar
 ·have e:=(c2 rfl).1;simp only[ahp,dT e,op,agT];rfl
 ·have e:=(c1 rfl).1;simp only[ahp,dT e,op,agT];rfl
def T0(c:BO3)(p:BP)(_k:KT):OLR:=og (decide (okP 4000 p)) (og (decide (okT 15000 (hid (enc (yP (dec p))))/\ok Rat 15000 c.2.1)) (match decide ((hZ (dec (hid (enc (yP (dec p))))) (ah c.2.1))>0)with|true=>some [RV.d aiy 0]|false=>(match(hZ (dec (hid (enc (yP (dec p))))) (ah c.2.1))==0 with|true=>(og (decide (okP 4000 p)) (og (decide (okT 15000 (hid (enc (xP (dec p))))/\ok Rat 15000 c.1)) (match decide ((hZ (dec (hid (enc (xP (dec p))))) (ah c.1))>0)with|true=>some [RV.d aiy 0]|false=>some [RV.d aiy 1])))|false=>some [RV.d aiy 1])))
def aak:Cn 305 [tO,tP]:=cn λ(c:BO3) (p:BP)=>lf (ok Ln 300 c/\okP 4000 p) [.d aiy (BY (dec c) (dec p))] λh=>by
 refine az wL (T0 c p) ⟨0,?_⟩;obtain⟨hc,hp⟩:=h;obtain⟨c,rfl,bc⟩:=aH hc;obtain⟨p,rfl,bp,rp⟩:=db hp;unfold T0 BY upR;simp only[aW,Nat.reduceLeDiff,aP,aQ];cases decide (hZ (yP p) c.2.1>0)<;>cases hZ (yP p) c.2.1==0<;>cases decide (hZ (xP p) c.1>0)<;>rfl
def aac:Ctx:=CX (ens wL) []
def TM(n:Int)(_k:KT):OLR:=some [RV.d aiy (if(if n>(-1)then n else(-1))<1 then(if n>(-1)then n else(-1))else 1)]
theorem ada(n:Int):RS aac 262 [SI n] (TM n):=rsX
def acs:Cn 262 [aiy]:=cn λ(n:Int)=>lf True [.d aiy (yf n)] λ_=>by
 refine dm wL (ada _ ⟨0,?_⟩);unfold TM;rw[QS]
def adG:Ctx:=CX (ens wL) []
def abh(c:BCU)(_k:KT):OLR:=match c.1 with|true=>some [RV.d tCU (c.1,(c.2.1,(c.2.2.1,(!c.2.2.2.1,(c.2.2.2.2.2,c.2.2.2.2.1)))))]|false=>some [RV.d tCU (c.1,(c.2.1,(c.2.2.1,(false,(c.2.2.2.2.2,c.2.2.2.2.1)))))]
theorem aaM(c:BCU):RS adG 260 [.d tCU c] (abh c):=rsX
def abX:Cn 260 [tCU]:=cn λ(c:BCU)=>lf True [.d tCU (gb c)] λ_=>by
 refine dm wL (aaM _ ⟨0,?_⟩);obtain⟨ar,li,ci,cw,fr,to⟩:=c;cases ar<;>rfl
def GY:List En:=enT adQ::enT aak::enT acs::enL abX::wL
def V1(c:BO3)(p q:BP)(_k:KT):OLR:=og (decide (ok Ln 300 c/\okP 4000 p)) (og (decide (ok Ln 300 c/\okP 4000 q)) (match(BY (dec c) (dec p)) !=(BY (dec c) (dec q))with|true=>some [RV.d aiy (i64.wrap ((BY (dec c) (dec p))-(BY (dec c) (dec q))))]|false=>(og (decide (okP 4000 p)) (og (decide (okP 4000 q)) (og (decide (okT 15000 (hid (enc (xP (dec p))))/\okT 15000 (hid (enc (xP (dec q)))))) (match(BY (dec c) (dec p))==0 with|true=>some [RV.d aiy (i64.wrap (0-(bj (dec (hid (enc (xP (dec p))))) (dec (hid (enc (xP (dec q))))))))]|false=>some [RV.d aiy (bj (dec (hid (enc (xP (dec p))))) (dec (hid (enc (xP (dec q))))))]))))))
def aba:Cn 263 [tO,tP,tP]:=cn λ(c:BO3) (p q:BP)=>lf (ok Ln 300 c/\okP 4000 p/\okP 4000 q) [.d aiy (qD bj (ptd (dec c) (dec p)) (ptd (dec c) (dec q)))] λh=>by
 refine az GY (V1 c p q) ⟨0,?_⟩;obtain⟨hc,hp,hq⟩:=h;obtain⟨c,rfl,bc⟩:=aH hc;obtain⟨p,rfl,bp,rp⟩:=db hp;obtain⟨q,rfl,bq,rq⟩:=db hq;have xb:=vc (xP p) (xP q);unfold V1;simp only[aW,Nat.reduceLeDiff,aP,aQ,aM (x:= -bj (xP p) (xP q)) (by omega) (by omega),ahl];unfold qD BY ptd;cases upR c p<;>cases upR c q<;>rfl
def acQ:Ctx:=CX (ens GY) []
def UG(c:BCU)(_k:KT):OLR:=match c.2.2.2.1 with|true=>some [RV.d tCU (hid (gb c))]|false=>some [RV.d tCU c]
theorem Zw(c:BCU):RS acQ 172 [.d tCU c] (UG c):=rsX
def Sy:Cn 172 [tCU]:=cn λ(c:BCU)=>lf True [.d tCU (dH c)] λ_=>by
 refine dm GY (Zw _ ⟨0,?_⟩);obtain⟨ar,li,ci,cw,fr,to⟩:=c;unfold UG dH;cases cw
 ·rfl
 ·simp only[bL];rfl
def TO:List En:=enT aba::enL Sy::GY
def Vf(c:BO3)(f p:BP)(_k:KT):OLR:=og (decide (ok Ln 300 c/\okP 4000 p/\okP 4000 f)) (match(qD bj (ptd (dec c) (dec p)) (ptd (dec c) (dec f)))==0 with|true=>some [RV.d aiy 0]|false=>(match decide ((qD bj (ptd (dec c) (dec p)) (ptd (dec c) (dec f)))>0)with|true=>some [RV.d aiy 1]|false=>some [RV.d aiy 2]))
def abo:Cn 261 [tO,tP,tP]:=cn λ(c:BO3) (f p:BP)=>lf (ok Ln 300 c/\okP 4000 f/\okP 4000 p) [.d aiy (nC bj (ptd (dec c) (dec f)) (ptd (dec c) (dec p)))] λh=>by
 refine az TO (Vf c f p) ⟨0,?_⟩;obtain⟨hc,hf,hp⟩:=h;unfold Vf nC;rw[dT ⟨hc,hp,hf⟩];cases qD bj (ptd (dec c) (dec p)) (ptd (dec c) (dec f))==0<;>cases decide (qD bj (ptd (dec c) (dec p)) (ptd (dec c) (dec f))>0)<;>rfl
def TG:List En:=enT abo::TO
def UU(c:BO3)(f p q:BP)(_k:KT):OLR:=og (decide (ok Ln 300 c/\okP 4000 f/\okP 4000 p)) (og (decide (ok Ln 300 c/\okP 4000 f/\okP 4000 q)) (match(nC bj (ptd (dec c) (dec f)) (ptd (dec c) (dec p))) !=(nC bj (ptd (dec c) (dec f)) (ptd (dec c) (dec q)))with|true=>some [RV.d aiy (yf (i64.wrap ((nC bj (ptd (dec c) (dec f)) (ptd (dec c) (dec p)))-(nC bj (ptd (dec c) (dec f)) (ptd (dec c) (dec q))))))]|false=>(og (decide (ok Ln 300 c/\okP 4000 p/\okP 4000 q)) (some [RV.d aiy (yf (qD bj (ptd (dec c) (dec p)) (ptd (dec c) (dec q))))]))))
def Kt:Cn 173 [tO,tP,tP,tP]:=cn λ(c:BO3) (f p q:BP)=>lf (ok Ln 300 c/\okP 4000 f/\okP 4000 p/\okP 4000 q) [.d aiy (eI bj (ptd (dec c) (dec f)) (ptd (dec c) (dec p)) (ptd (dec c) (dec q)))] λh=>by
 refine az TG (UU c f p q) ⟨0,?_⟩;obtain⟨hc,hf,hp,hq⟩:=h;unfold UU eI bne;have b1:=HH (p:=ptd (dec c) (dec f)) (q:=ptd (dec c) (dec p));have b2:=HH (p:=ptd (dec c) (dec f)) (q:=ptd (dec c) (dec q));rw[dT ⟨hc,hf,hp⟩,dT ⟨hc,hf,hq⟩,dT ⟨hc,hp,hq⟩,aM (by omega) (by omega)];cases nC bj (ptd (dec c) (dec f)) (ptd (dec c) (dec p))==nC bj (ptd (dec c) (dec f)) (ptd (dec c) (dec q))<;>rfl
def VS:List En:=enT Kt::TG
def U3(c:BCU)(p:BP)(_k:KT):OLR:=match !c.1 with|true=>(og (decide (okP 4000 c.2.2.2.2.1/\okP 4000 p)) (og (decide (okP 4000 p/\okP 4000 c.2.2.2.2.2)) (match(aF (dec c.2.2.2.2.1) (dec p))==0 with|true=>some [RV.d .bool true]|false=>(match(aF (dec p) (dec c.2.2.2.2.2))==0 with|true=>some [RV.d .bool true]|false=>some [RV.d .bool ((aF (dec c.2.2.2.2.1) (dec p))==(aF (dec p) (dec c.2.2.2.2.2)))]))))|false=>(og (decide (ok Ln 300 ((((hid (dH c)).2).2).1)/\okP 4000 ((((((hid (dH c)).2).2).2).2).1)/\okP 4000 p/\okP 4000 ((((((hid (dH c)).2).2).2).2).2))) (some [RV.d .bool (decide ((eI bj (ptd (dec ((((hid (dH c)).2).2).1)) (dec ((((((hid (dH c)).2).2).2).2).1))) (ptd (dec ((((hid (dH c)).2).2).1)) (dec p)) (ptd (dec ((((hid (dH c)).2).2).1)) (dec ((((((hid (dH c)).2).2).2).2).2))))<=0))]))
def K7:Cn 76 [tCU,tP]:=cn λ(c:BCU) (p:BP)=>lf (okC 4000 c/\okP 4000 p) [.d .bool (gT (dC c) (dec p))] λh=>by
 refine az VS (U3 c p) ⟨0,?_⟩;obtain⟨hc,hp⟩:=h;obtain⟨ar,li,ci,cw,fr,to⟩:=c;obtain⟨c1,c2,c3,c4⟩:=hc;unfold U3 gT;simp only[bL];cases ar
 ·try dsimp only[Bool.not_false]
  rw[dT ⟨c3,hp⟩,dT ⟨hp,c4⟩];show _=some [RV.d .bool (yg (aF (dec fr) (dec p)) (aF (dec p) (dec to)))];unfold yg;cases aF (dec fr) (dec p)==0<;>cases aF (dec p) (dec to)==0<;>rfl
 ·have e:=(c1 rfl).1;cases cw
  ·rw[dT (show ok Ln 300 (dH (true,li,ci,false,fr,to)).2.2.1/\okP 4000 (dH (true,li,ci,false,fr,to)).2.2.2.2.1/\okP 4000 p/\okP 4000 (dH (true,li,ci,false,fr,to)).2.2.2.2.2 from⟨e,c3,hp,c4⟩)];rfl
  ·rw[dT (show ok Ln 300 (dH (true,li,ci,true,fr,to)).2.2.1/\okP 4000 (dH (true,li,ci,true,fr,to)).2.2.2.2.1/\okP 4000 p/\okP 4000 (dH (true,li,ci,true,fr,to)).2.2.2.2.2 from⟨e,c4,hp,c3⟩)];rfl
def acd:List En:=enT K7::VS
def Uf(c:BCU)(p:BP)(_k:KT):OLR:=og (decide (okC 4000 c/\okP 4000 p)) (match em (dC c) (dec p)with|true=>(og (decide (okC 4000 c/\okP 4000 p)) (some [RV.d .bool (gT (dC c) (dec p))]))|false=>some [RV.d .bool false])
def Ik:Cn 28 [tCU,tP]:=cn λ(c:BCU) (p:BP)=>lf (okC 4000 c/\okP 4000 p) [.d .bool (onP (dC c) (dec p))] λh=>by
 refine az acd (Uf c p) ⟨0,?_⟩;unfold Uf onP;rw[dT h];cases em (dC c) (dec p)<;>rfl
theorem cp{j k:Nat}{x:BP}(h:okP j x)(hj:j<=k)(hk:k<=480000):okP k x:=by
 obtain⟨p,rfl,bp,rp⟩:=db h;exact afp (aQ hj hk)
theorem bZ{j k:Nat}{c:BCU}(h:okC j c)(hj:j<=k)(hk:k<=480000):okC k c:=⟨h.1,h.2.1,cp h.2.2.1 hj hk,cp h.2.2.2 hj hk⟩
abbrev r00:BR:=((false,[]),(false,[]))
abbrev o00:BO3:=(r00,r00,r00)
abbrev p00:BP:=(r00,r00,r00,r00,r00)
abbrev c00:BCU:=(false,o00,o00,false,p00,p00)
def qs(a b:Rat×Rat):Ln:=(a.2-b.2,b.1-a.1,(a.2-b.2)*a.1+(b.1-a.1)*a.2)
def rY(a b:Rat×Rat):Bool:=decide (a.2-b.2=0)&&decide (b.1-a.1=0)
def DQ(a b:Rat×Rat):BO3:=bif rY a b then o00 else enc (qs a b)
def CB(a b:Rat×Rat):Int:=bif rY a b then 6 else 0
def da(a b c:Rat×Rat):Rat:=(b.1-a.1)*(c.2-a.2)-(b.2-a.2)*(c.1-a.1)
def uf(a b c:Rat×Rat):Rat:=(((b.1-a.1)*(b.1-a.1)+(b.2-a.2)*(b.2-a.2))*(c.2-a.2)-((c.1-a.1)*(c.1-a.1)+(c.2-a.2)*(c.2-a.2))*(b.2-a.2))/(da a b c+da a b c)
def tb(a b c:Rat×Rat):Rat:=(((c.1-a.1)*(c.1-a.1)+(c.2-a.2)*(c.2-a.2))*(b.1-a.1)-((b.1-a.1)*(b.1-a.1)+(b.2-a.2)*(b.2-a.2))*(c.1-a.1))/(da a b c+da a b c)
def oH(a b c:Rat×Rat):Ln:=(a.1+uf a b c,a.2+tb a b c,uf a b c*uf a b c+tb a b c*tb a b c)
def Cf(a b c:Rat×Rat):BO3:=bif decide (da a b c=0)then o00 else enc (oH a b c)
def Cg(a b c:Rat×Rat):Int:=bif decide (da a b c=0)then 6 else 0
def rv(a b c:Rat×Rat):Int:=aE ((b.1-a.1)*(c.2-a.2)) ((b.2-a.2)*(c.1-a.1))
def By(a b:Rat×Rat):BCU:=bif rY a b then c00 else(false,enc (qs a b),o00,false,enc (atP a),enc (atP b))
def pS(a b:Rat×Rat):Int:=bif rY a b then 6 else 0
def Ak(a b c:Rat×Rat):BCU:=bif decide (da a b c=0)then c00 else(true,o00,enc (oH a b c),decide (rv a b c<0),enc (atP a),enc (atP c))
def pP(a b c:Rat×Rat):Int:=bif decide (da a b c=0)then 6 else 0
theorem Xn(a b c:Rat×Rat):(rv a b c==0)=decide (da a b c=0):=by
 unfold rv da;rw[aq];exact ahJ.2 (by constructor<;>intro h<;>grind)
instance aeN {a b:Rat×Rat} {i j:Nat} [h:Bd a i] [h':Bd b j]:Bd (qs a b) (4*i+2*j+3):=by
 have i1:Bd ((a.2-b.2,b.1-a.1,(a.2-b.2)*a.1+(b.1-a.1)*a.2):Ln) _:=inferInstance;exact i1.mono (ks (by omega) (ks (by omega) (by omega)))
def HX:List En:=[enT nh,enT tC,enL uo,enL qr,enL zR,enL MP,enL Pa,enL EY,enL OJ]
def Ps(a b:BV)(_k:KT):OLR:=og (o2 a.2 b.2) (og (o2 b.1 a.1) (og (o1 (hSu a.2 b.2)) (match(aE (ah (hSu a.2 b.2)) 0)==0 with|true=>(og (o1 (hSu b.1 a.1)) (match(aE (ah (hSu b.1 a.1)) 0)==0 with|true=>some [RV.d tO (((false,[]),(false,[])),(((false,[]),(false,[])),((false,[]),(false,[])))),RV.d aiy 6]|false=>(og (o2 (hSu a.2 b.2) a.1) (og (o2 (hSu b.1 a.1) a.2) (og (o2 (hMu (hSu a.2 b.2) a.1) (hMu (hSu b.1 a.1) a.2)) (some [RV.d tO (hSu a.2 b.2,(hSu b.1 a.1,hAd (hMu (hSu a.2 b.2) a.1) (hMu (hSu b.1 a.1) a.2))),RV.d aiy 0]))))))|false=>(og (o2 (hSu a.2 b.2) a.1) (og (o2 (hSu b.1 a.1) a.2) (og (o2 (hMu (hSu a.2 b.2) a.1) (hMu (hSu b.1 a.1) a.2)) (some [RV.d tO (hSu a.2 b.2,(hSu b.1 a.1,hAd (hMu (hSu a.2 b.2) a.1) (hMu (hSu b.1 a.1) a.2))),RV.d aiy 0])))))))
def W4:Cn 111 [tV,tV]:=cn λ(a b:BV)=>lf (ok (Rat×Rat) 100 a/\ok (Rat×Rat) 100 b) [.d tO (DQ (dec a) (dec b)),.d aiy (CB (dec a) (dec b))] λh=>by
 refine az HX (Ps a b) ⟨0,?_⟩;obtain⟨ha,hb⟩:=h;obtain⟨a,rfl,ba⟩:=aH ha;obtain⟨b,rfl,bb⟩:=aH hb;unfold Ps DQ CB rY;simp only[aW,Nat.reduceAdd,Nat.reduceLeDiff,aq];cases decide (a.2-b.2=0)<;>cases decide (b.1-a.1=0)<;>rfl
def Vh(a b c:BV)(_k:KT):OLR:=og (o2 b.1 a.1) (og (o2 c.2 a.2) (og (o2 (hSu b.1 a.1) (hSu c.2 a.2)) (og (o2 b.2 a.2) (og (o2 c.1 a.1) (og (o2 (hSu b.2 a.2) (hSu c.1 a.1)) (og (o2 (hMu (hSu b.1 a.1) (hSu c.2 a.2)) (hMu (hSu b.2 a.2) (hSu c.1 a.1))) (some [RV.d aiy (aE (ah (hMu (hSu b.1 a.1) (hSu c.2 a.2))) (ah (hMu (hSu b.2 a.2) (hSu c.1 a.1))))])))))))
def Z4:Cn 112 [tV,tV,tV]:=cn λ(a b c:BV)=>lf (ok (Rat×Rat) 100 a/\ok (Rat×Rat) 100 b/\ok (Rat×Rat) 100 c) [.d aiy (rv (dec a) (dec b) (dec c))] λh=>by
 refine az HX (Vh a b c) ⟨0,?_⟩;obtain⟨ha,hb,hc⟩:=h;obtain⟨a,rfl,ba⟩:=aH ha;obtain⟨b,rfl,bb⟩:=aH hb;obtain⟨c,rfl,bc⟩:=aH hc;unfold Vh;simp only[aW,Nat.reduceAdd,Nat.reduceLeDiff];rfl
def Kp(a b c:BV)(_k:KT):OLR:=let y1:=hMu (hSu b.1 a.1) (hSu c.2 a.2);let y2:=hMu (hSu b.2 a.2) (hSu c.1 a.1);let y3:=hMu (hSu b.1 a.1) (hSu b.1 a.1);let y4:=hMu (hSu b.2 a.2) (hSu b.2 a.2);let y5:=hMu (hSu c.1 a.1) (hSu c.1 a.1);let y6:=hMu (hSu c.2 a.2) (hSu c.2 a.2);let y7:=hMu (hAd y3 y4) (hSu c.2 a.2);let y8:=hMu (hAd y5 y6) (hSu b.2 a.2);let y9:=hAd (hSu y1 y2) (hSu y1 y2);let y10:=hMu (hAd y5 y6) (hSu b.1 a.1);let y11:=hMu (hAd y3 y4) (hSu c.1 a.1);let y12:=hDi (hSu y7 y8) y9;let y13:=hDi (hSu y10 y11) y9;og (o2 b.1 a.1) (og (o2 b.2 a.2) (og (o2 c.1 a.1) (og (o2 c.2 a.2) (og (o2 (hSu b.1 a.1) (hSu c.2 a.2)) (og (o2 (hSu b.2 a.2) (hSu c.1 a.1)) (og (o2 y1 y2) (og (o1 (hSu y1 y2)) (match(aE (ah (hSu y1 y2)) 0)==0 with|true=>some [RV.d tO (((false,[]),(false,[])),(((false,[]),(false,[])),((false,[]),(false,[])))),RV.d aiy 6]|false=>(og (o2 (hSu y1 y2) (hSu y1 y2)) (og (o2 (hSu b.1 a.1) (hSu b.1 a.1)) (og (o2 (hSu b.2 a.2) (hSu b.2 a.2)) (og (o2 y3 y4) (og (o2 (hSu c.1 a.1) (hSu c.1 a.1)) (og (o2 (hSu c.2 a.2) (hSu c.2 a.2)) (og (o2 y5 y6) (og (o2 (hAd y3 y4) (hSu c.2 a.2)) (og (o2 (hAd y5 y6) (hSu b.2 a.2)) (og (o2 y7 y8) (og (decide (ij (hSu y7 y8) y9)) (og (o2 (hAd y5 y6) (hSu b.1 a.1)) (og (o2 (hAd y3 y4) (hSu c.1 a.1)) (og (o2 y10 y11) (og (decide (ij (hSu y10 y11) y9)) (og (o2 a.1 y12) (og (o2 a.2 y13) (og (o2 y12 y12) (og (o2 y13 y13) (og (o2 (hMu y12 y12) (hMu y13 y13)) (some [RV.d tO (hAd a.1 y12,(hAd a.2 y13,hAd (hMu y12 y12) (hMu y13 y13))),RV.d aiy 0])))))))))))))))))))))))))))))
def WS:Cn 113 [tV,tV,tV]:=cn λ(a b c:BV)=>lf (ok (Rat×Rat) 100 a/\ok (Rat×Rat) 100 b/\ok (Rat×Rat) 100 c) [.d tO (Cf (dec a) (dec b) (dec c)),.d aiy (Cg (dec a) (dec b) (dec c))] λh=>by
 refine az HX (Kp a b c) ⟨0,?_⟩;obtain⟨ha,hb,hc⟩:=h;obtain⟨a,rfl,ba⟩:=aH ha;obtain⟨b,rfl,bb⟩:=aH hb;obtain⟨c,rfl,bc⟩:=aH hc;have e0:(b.1-a.1)*(c.2-a.2)-(b.2-a.2)*(c.1-a.1)=da a b c:=rfl;have bD:Bd (da a b c) 805:=inferInstanceAs (Bd ((b.1-a.1)*(c.2-a.2)-(b.2-a.2)*(c.1-a.1)) _);have eX:(((b.1-a.1)*(b.1-a.1)+(b.2-a.2)*(b.2-a.2))*(c.2-a.2)-((c.1-a.1)*(c.1-a.1)+(c.2-a.2)*(c.2-a.2))*(b.2-a.2))/(da a b c+da a b c)=uf a b c:=rfl;have eY:(((c.1-a.1)*(c.1-a.1)+(c.2-a.2)*(c.2-a.2))*(b.1-a.1)-((b.1-a.1)*(b.1-a.1)+(b.2-a.2)*(b.2-a.2))*(c.1-a.1))/(da a b c+da a b c)=tb a b c:=rfl;have m1:Bd ((b.1-a.1)*(b.1-a.1)+(b.2-a.2)*(b.2-a.2)) _:=inferInstance;have m2:Bd ((c.1-a.1)*(c.1-a.1)+(c.2-a.2)*(c.2-a.2)) _:=inferInstance;have n1:Bd (((b.1-a.1)*(b.1-a.1)+(b.2-a.2)*(b.2-a.2))*(c.2-a.2)-((c.1-a.1)*(c.1-a.1)+(c.2-a.2)*(c.2-a.2))*(b.2-a.2)) _:=inferInstance;have n2:Bd (((c.1-a.1)*(c.1-a.1)+(c.2-a.2)*(c.2-a.2))*(b.1-a.1)-((b.1-a.1)*(b.1-a.1)+(b.2-a.2)*(b.2-a.2))*(c.1-a.1)) _:=inferInstance;have bX0:Bd ((((b.1-a.1)*(b.1-a.1)+(b.2-a.2)*(b.2-a.2))*(c.2-a.2)-((c.1-a.1)*(c.1-a.1)+(c.2-a.2)*(c.2-a.2))*(b.2-a.2))/(da a b c+da a b c)) _:=inferInstance;have bX:Bd (uf a b c) 4000:=by rw[<-eX];exact bX0.mono (by decide)
 have bY0:Bd ((((c.1-a.1)*(c.1-a.1)+(c.2-a.2)*(c.2-a.2))*(b.1-a.1)-((b.1-a.1)*(b.1-a.1)+(b.2-a.2)*(b.2-a.2))*(c.1-a.1))/(da a b c+da a b c)) _:=inferInstance;have bY:Bd (tb a b c) 4000:=by rw[<-eY];exact bY0.mono (by decide)
 unfold Kp Cf Cg;simp only[aW,Nat.reduceAdd,Nat.reduceLeDiff,aq,e0];by_cases hd:da a b c=0
 ·rw[afm hd];rfl
 ·have h2:da a b c+da a b c≠0:=by grind
  rw[afo hd];simp only[aW,Nat.reduceAdd,Nat.reduceLeDiff,h2,ne_eq,agP,eX,eY];rfl
def UH:List En:=enL W4::enT Z4::enL WS::HX
def JJ(a b:BV)(_k:KT):OLR:=og (decide (ok (Rat×Rat) 100 a/\ok (Rat×Rat) 100 b)) (match(CB (dec a) (dec b)) !=0 with|true=>some [RV.d tCU (false,((((false,[]),(false,[])),(((false,[]),(false,[])),((false,[]),(false,[])))),((((false,[]),(false,[])),(((false,[]),(false,[])),((false,[]),(false,[])))),(false,((((false,[]),(false,[])),(((false,[]),(false,[])),(((false,[]),(false,[])),(((false,[]),(false,[])),((false,[]),(false,[])))))),(((false,[]),(false,[])),(((false,[]),(false,[])),(((false,[]),(false,[])),(((false,[]),(false,[])),((false,[]),(false,[]))))))))))),RV.d aiy 6]|false=>(og (decide (ok (Rat×Rat) 100000 a)) (og (decide (ok (Rat×Rat) 100000 b)) (some [RV.d tCU (false,(hid (DQ (dec a) (dec b)),((((false,[]),(false,[])),(((false,[]),(false,[])),((false,[]),(false,[])))),(false,(hid (enc (atP (dec a))),hid (enc (atP (dec b)))))))),RV.d aiy 0]))))
def XQ:Cn 48 [tV,tV]:=cn λ(a b:BV)=>lf (ok (Rat×Rat) 100 a/\ok (Rat×Rat) 100 b) [.d tCU (By (dec a) (dec b)),.d aiy (pS (dec a) (dec b))] λh=>by
 refine az UH (JJ a b) ⟨0,?_⟩;obtain⟨ha,hb⟩:=h;obtain⟨a,rfl,ba⟩:=aH ha;obtain⟨b,rfl,bb⟩:=aH hb;unfold JJ By pS CB DQ;simp only[aW,Nat.reduceLeDiff];cases rY a b<;>rfl
def Om(a b c:BV)(_k:KT):OLR:=og (decide (ok (Rat×Rat) 100 a/\ok (Rat×Rat) 100 b/\ok (Rat×Rat) 100 c)) (og (decide (ok (Rat×Rat) 100 a/\ok (Rat×Rat) 100 b/\ok (Rat×Rat) 100 c)) (match(rv (dec a) (dec b) (dec c))==0 with|true=>some [RV.d tCU (false,((((false,[]),(false,[])),(((false,[]),(false,[])),((false,[]),(false,[])))),((((false,[]),(false,[])),(((false,[]),(false,[])),((false,[]),(false,[])))),(false,((((false,[]),(false,[])),(((false,[]),(false,[])),(((false,[]),(false,[])),(((false,[]),(false,[])),((false,[]),(false,[])))))),(((false,[]),(false,[])),(((false,[]),(false,[])),(((false,[]),(false,[])),(((false,[]),(false,[])),((false,[]),(false,[]))))))))))),RV.d aiy 6]|false=>(match(Cg (dec a) (dec b) (dec c)) !=0 with|true=>some [RV.d tCU (false,((((false,[]),(false,[])),(((false,[]),(false,[])),((false,[]),(false,[])))),((((false,[]),(false,[])),(((false,[]),(false,[])),((false,[]),(false,[])))),(false,((((false,[]),(false,[])),(((false,[]),(false,[])),(((false,[]),(false,[])),(((false,[]),(false,[])),((false,[]),(false,[])))))),(((false,[]),(false,[])),(((false,[]),(false,[])),(((false,[]),(false,[])),(((false,[]),(false,[])),((false,[]),(false,[]))))))))))),RV.d aiy 6]|false=>(og (decide (ok (Rat×Rat) 100000 a)) (og (decide (ok (Rat×Rat) 100000 c)) (some [RV.d tCU (true,((((false,[]),(false,[])),(((false,[]),(false,[])),((false,[]),(false,[])))),(hid (Cf (dec a) (dec b) (dec c)),(decide ((rv (dec a) (dec b) (dec c))<0),(hid (enc (atP (dec a))),hid (enc (atP (dec c)))))))),RV.d aiy 0]))))))
def YK:Cn 49 [tV,tV,tV]:=cn λ(a b c:BV)=>lf (ok (Rat×Rat) 100 a/\ok (Rat×Rat) 100 b/\ok (Rat×Rat) 100 c) [.d tCU (Ak (dec a) (dec b) (dec c)),.d aiy (pP (dec a) (dec b) (dec c))] λh=>by
 refine az UH (Om a b c) ⟨0,?_⟩;obtain⟨ha,hb,hc⟩:=h;obtain⟨a,rfl,ba⟩:=aH ha;obtain⟨b,rfl,bb⟩:=aH hb;obtain⟨c,rfl,bc⟩:=aH hc;unfold Om Ak pP;simp only[aW,Nat.reduceLeDiff];rw[Xn];unfold Cg Cf;cases decide (da a b c=0)<;>rfl
def fu(c:Cv):List BP->BP->List BP
 |[],x=>[x]
 |y::r,x=>bif decide (bz c (dec y) (dec x)<0)then y::fu c r x else bif aF (dec y) (dec x)==0 then y::r else x::y::r
def fM(c:Cv)(l:List BP):List BP:=l.foldl (fu c) []
def uY(c:BCU)(l:List BP):Prop:=okC 4000 c/\l.length<=1000000/\∀x∈l,okP 4000 x
instance (c:BCU) (l:List BP):Decidable (uY c l):=by unfold uY;infer_instance
theorem oR{c:Cv}{x y:BP}:∀{r:List BP},y∈fu c r x->y∈r\/y=x
 |[],h=>by simp only[fu,ago]at h;exact .inr h
 |z::r,h=>by
  simp only[fu]at h;cases h1:decide (bz c (dec z) (dec x)<0)<;>rw[h1]at h
  ·cases h2:aF (dec z) (dec x)==0<;>rw[h2]at h
   ·rcases afy.1 h with h|h
    ·exact .inr h
    ·exact .inl h
   ·exact .inl h
  ·rcases afy.1 h with h|h
   ·exact .inl (by simp[h])
   ·rcases oR h with h|h
    ·exact .inl (afw _ h)
    ·exact .inr h
theorem xc(c:Cv)(x:BP):∀r:List BP,(fu c r x).length<=r.length+1
 |[]=>by simp[fu]
 |z::r=>by
  have:=xc c x r;simp only[fu];cases decide (bz c (dec z) (dec x)<0)
  ·cases aF (dec z) (dec x)==0<;>simp
  ·simp only[cond_true,afD];omega
theorem Am{c:Cv}:∀{l out:List BP} {y:BP},y∈l.foldl (fu c) out->y∈out\/y∈l
 |[],_,_,h=>.inl h
 |x::l,out,y,h=>by
  rcases Am (l:=l) (out:=fu c out x) h with h|h
  ·rcases oR h with h|h
   ·exact .inl h
   ·exact .inr (by simp[h])
  ·exact .inr (afw _ h)
theorem vi(c:Cv):∀(l out:List BP),(l.foldl (fu c) out).length<=out.length+l.length
 |[],_=>afs _
 |x::l,out=>by
  have h1:=vi c l (fu c out x);have h2:=xc c x out;simp only[ag7,afD];omega
theorem I6{α:Type}{l:List α}{k:Nat}(h:k<l.length):l.take (k+1)=l.take k++[l[k]]:=by rw[List.take_succ_eq_append_getElem h]
def TL:List En:=[enT Dy,enT Dh,enT ue]
def WY:NT:=[((34,8),{keep:=[1,2,5,6],pure_:=[(5,tP)],hl:=1}),((34,21),{keep:=[1,2,5,6,7],pure_:=[(5,tP)],hl:=1})]
def uK:Ctx:=CX (ens TL) WY
def ki(c:BCU)(l:List BP)(s6:Int)(s5:List BP):Cfg:=⟨34,[.blk 0,.seq 38],[(1,.d (.sl tP) l),(2,.box 0 0),(5,.d (.sl tP) s5),(6,SI s6)],[.box 39 [SB c.1,SB c.2.1.1.1.1,.d aix c.2.1.1.1.2,SB c.2.1.1.2.1,.d aix c.2.1.1.2.2,SB c.2.1.2.1.1.1,.d aix c.2.1.2.1.1.2,SB c.2.1.2.1.2.1,.d aix c.2.1.2.1.2.2,SB c.2.1.2.2.1.1,.d aix c.2.1.2.2.1.2,SB c.2.1.2.2.2.1,.d aix c.2.1.2.2.2.2,SB c.2.2.1.1.1.1,.d aix c.2.2.1.1.1.2,SB c.2.2.1.1.2.1,.d aix c.2.2.1.1.2.2,SB c.2.2.1.2.1.1.1,.d aix c.2.2.1.2.1.1.2,SB c.2.2.1.2.1.2.1,.d aix c.2.2.1.2.1.2.2,SB c.2.2.1.2.2.1.1,.d aix c.2.2.1.2.2.1.2,SB c.2.2.1.2.2.2.1,.d aix c.2.2.1.2.2.2.2,SB c.2.2.2.1,SB c.2.2.2.2.1.1.1.1,.d aix c.2.2.2.2.1.1.1.2,SB c.2.2.2.2.1.1.2.1,.d aix c.2.2.2.2.1.1.2.2,SB c.2.2.2.2.1.2.1.1.1,.d aix c.2.2.2.2.1.2.1.1.2,SB c.2.2.2.2.1.2.1.2.1,.d aix c.2.2.2.2.1.2.1.2.2,SB c.2.2.2.2.1.2.2.1.1.1,.d aix c.2.2.2.2.1.2.2.1.1.2,SB c.2.2.2.2.1.2.2.1.2.1,.d aix c.2.2.2.2.1.2.2.1.2.2,SB c.2.2.2.2.1.2.2.2.1.1.1,.d aix c.2.2.2.2.1.2.2.2.1.1.2,SB c.2.2.2.2.1.2.2.2.1.2.1,.d aix c.2.2.2.2.1.2.2.2.1.2.2,SB c.2.2.2.2.1.2.2.2.2.1.1,.d aix c.2.2.2.2.1.2.2.2.2.1.2,SB c.2.2.2.2.1.2.2.2.2.2.1,.d aix c.2.2.2.2.1.2.2.2.2.2.2,SB c.2.2.2.2.2.1.1.1,.d aix c.2.2.2.2.2.1.1.2,SB c.2.2.2.2.2.1.2.1,.d aix c.2.2.2.2.2.1.2.2,SB c.2.2.2.2.2.2.1.1.1,.d aix c.2.2.2.2.2.2.1.1.2,SB c.2.2.2.2.2.2.1.2.1,.d aix c.2.2.2.2.2.2.1.2.2,SB c.2.2.2.2.2.2.2.1.1.1,.d aix c.2.2.2.2.2.2.2.1.1.2,SB c.2.2.2.2.2.2.2.1.2.1,.d aix c.2.2.2.2.2.2.2.1.2.2,SB c.2.2.2.2.2.2.2.2.1.1.1,.d aix c.2.2.2.2.2.2.2.2.1.1.2,SB c.2.2.2.2.2.2.2.2.1.2.1,.d aix c.2.2.2.2.2.2.2.2.1.2.2,SB c.2.2.2.2.2.2.2.2.2.1.1,.d aix c.2.2.2.2.2.2.2.2.2.1.2,SB c.2.2.2.2.2.2.2.2.2.2.1,.d aix c.2.2.2.2.2.2.2.2.2.2.2]],0,[]⟩
def vm(c:BCU)(l s5:List BP)(s6 s7:Int):Cfg:=⟨34,[.blk 2,.seq 30,.blk 1,.seq 37,.lp 8,.blk 0,.seq 38],[(1,.d (.sl tP) l),(2,.box 0 0),(5,.d (.sl tP) s5),(6,SI s6),(7,SI s7)],[.box 39 [SB c.1,SB c.2.1.1.1.1,.d aix c.2.1.1.1.2,SB c.2.1.1.2.1,.d aix c.2.1.1.2.2,SB c.2.1.2.1.1.1,.d aix c.2.1.2.1.1.2,SB c.2.1.2.1.2.1,.d aix c.2.1.2.1.2.2,SB c.2.1.2.2.1.1,.d aix c.2.1.2.2.1.2,SB c.2.1.2.2.2.1,.d aix c.2.1.2.2.2.2,SB c.2.2.1.1.1.1,.d aix c.2.2.1.1.1.2,SB c.2.2.1.1.2.1,.d aix c.2.2.1.1.2.2,SB c.2.2.1.2.1.1.1,.d aix c.2.2.1.2.1.1.2,SB c.2.2.1.2.1.2.1,.d aix c.2.2.1.2.1.2.2,SB c.2.2.1.2.2.1.1,.d aix c.2.2.1.2.2.1.2,SB c.2.2.1.2.2.2.1,.d aix c.2.2.1.2.2.2.2,SB c.2.2.2.1,SB c.2.2.2.2.1.1.1.1,.d aix c.2.2.2.2.1.1.1.2,SB c.2.2.2.2.1.1.2.1,.d aix c.2.2.2.2.1.1.2.2,SB c.2.2.2.2.1.2.1.1.1,.d aix c.2.2.2.2.1.2.1.1.2,SB c.2.2.2.2.1.2.1.2.1,.d aix c.2.2.2.2.1.2.1.2.2,SB c.2.2.2.2.1.2.2.1.1.1,.d aix c.2.2.2.2.1.2.2.1.1.2,SB c.2.2.2.2.1.2.2.1.2.1,.d aix c.2.2.2.2.1.2.2.1.2.2,SB c.2.2.2.2.1.2.2.2.1.1.1,.d aix c.2.2.2.2.1.2.2.2.1.1.2,SB c.2.2.2.2.1.2.2.2.1.2.1,.d aix c.2.2.2.2.1.2.2.2.1.2.2,SB c.2.2.2.2.1.2.2.2.2.1.1,.d aix c.2.2.2.2.1.2.2.2.2.1.2,SB c.2.2.2.2.1.2.2.2.2.2.1,.d aix c.2.2.2.2.1.2.2.2.2.2.2,SB c.2.2.2.2.2.1.1.1,.d aix c.2.2.2.2.2.1.1.2,SB c.2.2.2.2.2.1.2.1,.d aix c.2.2.2.2.2.1.2.2,SB c.2.2.2.2.2.2.1.1.1,.d aix c.2.2.2.2.2.2.1.1.2,SB c.2.2.2.2.2.2.1.2.1,.d aix c.2.2.2.2.2.2.1.2.2,SB c.2.2.2.2.2.2.2.1.1.1,.d aix c.2.2.2.2.2.2.2.1.1.2,SB c.2.2.2.2.2.2.2.1.2.1,.d aix c.2.2.2.2.2.2.2.1.2.2,SB c.2.2.2.2.2.2.2.2.1.1.1,.d aix c.2.2.2.2.2.2.2.2.1.1.2,SB c.2.2.2.2.2.2.2.2.1.2.1,.d aix c.2.2.2.2.2.2.2.2.1.2.2,SB c.2.2.2.2.2.2.2.2.2.1.1,.d aix c.2.2.2.2.2.2.2.2.2.1.2,SB c.2.2.2.2.2.2.2.2.2.2.1,.d aix c.2.2.2.2.2.2.2.2.2.2.2]],0,[]⟩
def adF(c:BCU)(l:List BP)(k:KT):OLR:=k 8 (ki c l 0 ([]))
theorem ZR(c:BCU)(l:List BP):RS uK 34 [.d tCU c,.d (.sl tP) l] (adF c l):=rsX
def xn(c:BCU)(l:List BP)(s6:Int)(s5:List BP)(k:KT):OLR:=match decide (s6<(l.length:Int))with|true=>k 21 (vm c l s5 s6 0)|false=>some [RV.d (.sl tP) s5]
theorem CN(c:BCU)(l:List BP)(s6:Int)(s5:List BP):RN uK 8 (ki c l s6 s5) (xn c l s6 s5):=rnX
def te(c:BCU)(l s5:List BP)(s6 s7:Int)(k:KT):OLR:=match decide (s7<(s5.length:Int))with|true=>(match aG s5 s7 with|some x1=>(match aG l s6 with|some x2=>(og (decide (okC 4000 c/\okP 4000 x1/\okP 4000 x2)) (match decide ((bz (dC c) (dec x1) (dec x2))<0)with|true=>k 21 (vm c l s5 s6 (i64.wrap (s7+1)))|false=>(match decide (s7<(s5.length:Int))with|true=>(match aG s5 s7 with|some x3=>(match aG l s6 with|some x4=>(og (decide (okP 4000 x3/\okP 4000 x4)) (match aF (dec x3) (dec x4)==0 with|true=>k 8 (ki c l (i64.wrap (s6+1)) s5)|false=>(og (decide ((0:Int)<=0/\0<=s7/\s7<=(s5.length:Int))) (match aG l s6 with|some x5=>(og (decide ((0:Int)<=s7/\s7<=(s5.length:Int)/\(s5.length:Int)<=(s5.length:Int))) (dup (.b (.b .l .l) .l) (og (decide ((([]:List BP).length+((s5.take (s7).toNat).drop (0:Int).toNat).length)*320<=140737488355328/\([]:List BP).length+((s5.take (s7).toNat).drop (0:Int).toNat).length<=140737488355328)) (og (decide (((([]:List BP)++((s5.take (s7).toNat).drop (0:Int).toNat)).length+([x5]).length)*320<=140737488355328/\(([]:List BP)++((s5.take (s7).toNat).drop (0:Int).toNat)).length+([x5]).length<=140737488355328)) (og (decide ((((([]:List BP)++((s5.take (s7).toNat).drop (0:Int).toNat))++([x5])).length+((s5.take ((s5.length:Int)).toNat).drop (s7:Int).toNat).length)*320<=140737488355328/\((([]:List BP)++((s5.take (s7).toNat).drop (0:Int).toNat))++([x5])).length+((s5.take ((s5.length:Int)).toNat).drop (s7:Int).toNat).length<=140737488355328)) (k 8 (ki c l (i64.wrap (s6+1)) (((([]:List BP)++((s5.take (s7).toNat).drop (0:Int).toNat))++([x5]))++((s5.take ((s5.length:Int)).toNat).drop (s7:Int).toNat)))))))))|none=>none))))|none=>none)|none=>none)|false=>(og (decide ((0:Int)<=0/\0<=s7/\s7<=(s5.length:Int))) (match aG l s6 with|some x3=>(og (decide ((0:Int)<=s7/\s7<=(s5.length:Int)/\(s5.length:Int)<=(s5.length:Int))) (dup (.b (.b .l .l) .l) (og (decide ((([]:List BP).length+((s5.take (s7).toNat).drop (0:Int).toNat).length)*320<=140737488355328/\([]:List BP).length+((s5.take (s7).toNat).drop (0:Int).toNat).length<=140737488355328)) (og (decide (((([]:List BP)++((s5.take (s7).toNat).drop (0:Int).toNat)).length+([x3]).length)*320<=140737488355328/\(([]:List BP)++((s5.take (s7).toNat).drop (0:Int).toNat)).length+([x3]).length<=140737488355328)) (og (decide ((((([]:List BP)++((s5.take (s7).toNat).drop (0:Int).toNat))++([x3])).length+((s5.take ((s5.length:Int)).toNat).drop (s7:Int).toNat).length)*320<=140737488355328/\((([]:List BP)++((s5.take (s7).toNat).drop (0:Int).toNat))++([x3])).length+((s5.take ((s5.length:Int)).toNat).drop (s7:Int).toNat).length<=140737488355328)) (k 8 (ki c l (i64.wrap (s6+1)) (((([]:List BP)++((s5.take (s7).toNat).drop (0:Int).toNat))++([x3]))++((s5.take ((s5.length:Int)).toNat).drop (s7:Int).toNat)))))))))|none=>none)))))|none=>none)|none=>none)|false=>(match decide (s7<(s5.length:Int))with|true=>(match aG s5 s7 with|some x1=>(match aG l s6 with|some x2=>(og (decide (okP 4000 x1/\okP 4000 x2)) (match aF (dec x1) (dec x2)==0 with|true=>k 8 (ki c l (i64.wrap (s6+1)) s5)|false=>(og (decide ((0:Int)<=0/\0<=s7/\s7<=(s5.length:Int))) (match aG l s6 with|some x3=>(og (decide ((0:Int)<=s7/\s7<=(s5.length:Int)/\(s5.length:Int)<=(s5.length:Int))) (dup (.b (.b .l .l) .l) (og (decide ((([]:List BP).length+((s5.take (s7).toNat).drop (0:Int).toNat).length)*320<=140737488355328/\([]:List BP).length+((s5.take (s7).toNat).drop (0:Int).toNat).length<=140737488355328)) (og (decide (((([]:List BP)++((s5.take (s7).toNat).drop (0:Int).toNat)).length+([x3]).length)*320<=140737488355328/\(([]:List BP)++((s5.take (s7).toNat).drop (0:Int).toNat)).length+([x3]).length<=140737488355328)) (og (decide ((((([]:List BP)++((s5.take (s7).toNat).drop (0:Int).toNat))++([x3])).length+((s5.take ((s5.length:Int)).toNat).drop (s7:Int).toNat).length)*320<=140737488355328/\((([]:List BP)++((s5.take (s7).toNat).drop (0:Int).toNat))++([x3])).length+((s5.take ((s5.length:Int)).toNat).drop (s7:Int).toNat).length<=140737488355328)) (k 8 (ki c l (i64.wrap (s6+1)) (((([]:List BP)++((s5.take (s7).toNat).drop (0:Int).toNat))++([x3]))++((s5.take ((s5.length:Int)).toNat).drop (s7:Int).toNat)))))))))|none=>none))))|none=>none)|none=>none)|false=>(og (decide ((0:Int)<=0/\0<=s7/\s7<=(s5.length:Int))) (match aG l s6 with|some x1=>(og (decide ((0:Int)<=s7/\s7<=(s5.length:Int)/\(s5.length:Int)<=(s5.length:Int))) (dup (.b (.b .l .l) .l) (og (decide ((([]:List BP).length+((s5.take (s7).toNat).drop (0:Int).toNat).length)*320<=140737488355328/\([]:List BP).length+((s5.take (s7).toNat).drop (0:Int).toNat).length<=140737488355328)) (og (decide (((([]:List BP)++((s5.take (s7).toNat).drop (0:Int).toNat)).length+([x1]).length)*320<=140737488355328/\(([]:List BP)++((s5.take (s7).toNat).drop (0:Int).toNat)).length+([x1]).length<=140737488355328)) (og (decide ((((([]:List BP)++((s5.take (s7).toNat).drop (0:Int).toNat))++([x1])).length+((s5.take ((s5.length:Int)).toNat).drop (s7:Int).toNat).length)*320<=140737488355328/\((([]:List BP)++((s5.take (s7).toNat).drop (0:Int).toNat))++([x1])).length+((s5.take ((s5.length:Int)).toNat).drop (s7:Int).toNat).length<=140737488355328)) (k 8 (ki c l (i64.wrap (s6+1)) (((([]:List BP)++((s5.take (s7).toNat).drop (0:Int).toNat))++([x1]))++((s5.take ((s5.length:Int)).toNat).drop (s7:Int).toNat)))))))))|none=>none)))
theorem zx(c:BCU)(l s5:List BP)(s6 s7:Int):RN uK 21 (vm c l s5 s6 s7) (te c l s5 s6 s7):=rnX
theorem Ym(c:BCU)(l:List BP)(hc:okC 4000 c)(hl:∀x∈l,okP 4000 x)(out:List BP)(ho:∀x∈out,okP 4000 x)(hlen:out.length<=1000000)(i:Nat)(hi:i<l.length)(hi2:i<=1000000)(r:List RV)(h:uK.Runs 8 (ki c l ((i+1:Nat):Int) (fu (dC c) out l[i])) r):
  ∀(j k:Nat),k+j=out.length->fu (dC c) out l[i]=out.take k++fu (dC c) (out.drop k) l[i]->uK.Runs 21 (vm c l out (i:Int) (k:Int)) r:=by
 have e0:i64.wrap ((i:Int)+1)=((i+1:Nat):Int):=bH (by omega);have gl:aG l (i:Int)=some l[i]:=by rw[am,afn hi]
 have hx:=hl _ (afU hi);have tl:out.take ((out.length:Int)).toNat=out:=by simp
 have put:∀k:Nat,k<=out.length->fu (dC c) out l[i]=out.take k++[l[i]]++out.drop k->∃n,(match decide ((0:Int)<=0/\0<=(k:Int)/\(k:Int)<=(out.length:Int))with
   |true=>(match aG l (i:Int)with
    |some x5=>(match decide ((0:Int)<=(k:Int)/\(k:Int)<=(out.length:Int)/\(out.length:Int)<=(out.length:Int))with
     |true=>(match decide ((([]:List BP).length+((out.take ((k:Int)).toNat).drop (0:Int).toNat).length)*320<=140737488355328/\([]:List BP).length+((out.take ((k:Int)).toNat).drop (0:Int).toNat).length<=140737488355328)with
      |true=>(match decide (((([]:List BP)++((out.take ((k:Int)).toNat).drop (0:Int).toNat)).length+([x5]).length)*320<=140737488355328/\(([]:List BP)++((out.take ((k:Int)).toNat).drop (0:Int).toNat)).length+([x5]).length<=140737488355328)with
       |true=>(match decide ((((([]:List BP)++((out.take ((k:Int)).toNat).drop (0:Int).toNat))++([x5])).length+((out.take ((out.length:Int)).toNat).drop ((k:Int)).toNat).length)*320<=140737488355328/\((([]:List BP)++((out.take ((k:Int)).toNat).drop (0:Int).toNat))++([x5])).length+((out.take ((out.length:Int)).toNat).drop ((k:Int)).toNat).length<=140737488355328)with
        |true=>uK.k n 8 (ki c l (i64.wrap ((i:Int)+1)) (((([]:List BP)++((out.take ((k:Int)).toNat).drop (0:Int).toNat))++([x5]))++((out.take ((out.length:Int)).toNat).drop ((k:Int)).toNat)))
        |false=>none)
       |false=>none)
      |false=>none)
     |false=>none)
    |none=>none)
   |false=>none)=some r:=by
  intro k hk he;have e1:((out.take ((k:Int)).toNat).drop (0:Int).toNat)=out.take k:=by simp
  have e2:((out.take ((out.length:Int)).toNat).drop ((k:Int)).toNat)=out.drop k:=by simp
  have l1:(out.take k).length=k:=by simp;omega
  have l2:(out.drop k).length=out.length-k:=by simp
  obtain⟨n,hn⟩:=h;refine⟨n,?_⟩;rw[gl,dT (show(0:Int)<=0/\0<=(k:Int)/\(k:Int)<=(out.length:Int) by omega)];dsimp only;rw[dT (show(0:Int)<=(k:Int)/\(k:Int)<=(out.length:Int)/\(out.length:Int)<=(out.length:Int) by omega)];simp only[e1,e2,ahP,ahC,afN,afD,l1,l2,afY];rw[dT (by omega),dT (by omega),dT (by omega),e0,<-he];exact hn
 intro j;induction j with
 |zero=>
  intro k hk he;have hk:k=out.length:=by omega
  subst hk;refine zx _ _ _ _ _ ?_;unfold te;rw[bO (by omega)];simp only[dV];refine put _ (afs _) ?_;rw[he];simp[fu]
 |succ j ih=>
  intro k hk he;have hkl:k<out.length:=by omega
  have go:aG out (k:Int)=some out[k]:=by rw[am,afn hkl]
  have ho1:=ho _ (afU hkl);have ek:i64.wrap ((k:Int)+1)=((k+1:Nat):Int):=bH (by omega);have hd:out.drop k=out[k]::out.drop (k+1):=afC hkl;refine zx _ _ _ _ _ ?_;unfold te;simp only[dV,aY hkl,go,gl,dT (show okC 4000 c/\okP 4000 out[k]/\okP 4000 l[i] from⟨hc,ho1,hx⟩),dT (show okP 4000 out[k]/\okP 4000 l[i] from⟨ho1,hx⟩)];rw[hd]at he;simp only[fu]at he;cases h1:decide (bz (dC c) (dec out[k]) (dec l[i])<0)<;>rw[h1]at he
  ·simp only[cond_false]at he;cases h2:aF (dec out[k]) (dec l[i])==0<;>rw[h2]at he
   ·simp only[cond_false]at he;have:=put k (by omega) (by rw[he,hd];simp);simp only[gl]at this;exact this
   ·simp only[cond_true]at he;rw[<-hd,agI]at he;obtain⟨n,hn⟩:=h;refine⟨n,?_⟩;rw[e0];rw[he]at hn;exact hn
  ·simp only[cond_true]at he;obtain⟨n,hn⟩:=ih (k+1) (by omega) (by rw[he,I6 hkl,afG];rfl);refine⟨n,?_⟩;rw[ek];exact hn
theorem Rj(c:BCU)(l:List BP)(hc:okC 4000 c)(hl:∀x∈l,okP 4000 x)(hle:l.length<=1000000):∀(j i:Nat),i+j=l.length->∀out:List BP,(∀x∈out,okP 4000 x)->out.length<=i->uK.Runs 8 (ki c l (i:Int) out) [.d (.sl tP) ((l.drop i).foldl (fu (dC c)) out)]:=by
 intro j;induction j with
 |zero=>
  intro i hi out ho hlen;refine CN _ _ _ _ ⟨0,?_⟩;unfold xn;rw[bO (by omega),sR (by omega)];rfl
 |succ j ih=>
  intro i hi out ho hlen;have hil:i<l.length:=by omega
  have h2:=ih (i+1) (by omega) (fu (dC c) out l[i]) (λx hx=>by
   rcases oR hx with h|h
   ·exact ho x h
   ·rw[h];exact hl _ (afU hil)) (afA (xc _ _ _) (by omega))
  obtain⟨n,hn⟩:=Ym c l hc hl out ho (by omega) i hil (by omega) _ h2 out.length 0 (by omega) (by simp);refine CN _ _ _ _ ⟨n,?_⟩;unfold xn;rw[aY hil,gU hil,ag7];exact hn
def Oo:Cn 34 [tCU,(.sl tP)]:=cn λ(c:BCU) (l:List BP)=>lf (uY c l) [.d (.sl tP) (fM (dC c) l)] λh=>by
 obtain⟨hc,hle,hl⟩:=h;refine dm TL (show uK.Res _ _ _ from ?_);obtain⟨n,hn⟩:=Rj c l hc hl hle l.length 0 (by omega) [] (λx hx=>by cases hx) (afs _);exact ZR _ _ ⟨n,hn⟩
end Go.Proofs.YtagbmoohboleaaaGreat
end
