/- Lines and circles: the reference's contracts. -/
import Derived.Test.YtagbmoohboleaaaGreatJ12
noncomputable section
namespace Go.Proofs.YtagbmoohboleaaaGreat
open Go.RowKit Go.IntKind
theorem ana:type_of% @List.mem_cons_of_mem:=@List.mem_cons_of_mem
theorem ani:type_of% @Rat.div_mul_cancel:=@Rat.div_mul_cancel
theorem aoh:type_of% @not_false_eq_true:=@not_false_eq_true
theorem apb:type_of% @Bool.eq_iff_iff:=@Bool.eq_iff_iff
def H4(l:Ln)(p:Pt):Rt:=mkR (qC l p) (qK l p) p.2.2.2.2
def wL(c:Ln)(p:Pt):Rt:=arT (sqP p (ctr c)) (-c.2.2)
instance ak7 {r:Rt} {a:Rat} [h:Rdd r]:Rdd (arT r a):=⟨h.rd⟩
instance Vk {l:Ln} {p:Pt} [h:Rpd p]:Rdd (H4 l p):=by
 have:Nn p.2.2.2.2:=inferInstance;exact u7
instance akB {l:Ln} {p:Pt} {i j:Nat} [h:Bd l i] [h':Bd p j]:Bd (H4 l p) (5*i+5*j+5):=by
 have a1:Bd (qC l p) _:=inferInstance;have a2:Bd (qK l p) _:=inferInstance;have a3:Bd (mkR (qC l p) (qK l p) p.2.2.2.2) _:=inferInstance;exact a3.mono (by omega)
theorem UI{l:Ln}{p:Pt}[h:Rpd p]:sgR (H4 l p)=qB l p:=by
 unfold qB;rw[G8 (Vk (l:=l) (p:=p)).nn,RE.sgn2_re h.nn];unfold H4;rw[RE.vR_mk]
namespace RE
theorem U0(a b q:RE):a+ -q+b=a+b-q:=by grind
theorem W8(a b q:RE):a-q+b=a+b-q:=by grind
theorem shift_l(a b d q:RE)(h:a+b=a+d):a+ -q+b=a-q+d:=by
 rw[U0,W8,h]
end RE
theorem VX{c:Ln}{p:Pt}[h:Rpd p]: -sgR (wL c p)=pV c p:=by
 unfold pV;have hr:Rdd (wL c p):=inferInstanceAs (Rdd (arT (sqP p (ctr c)) (-c.2.2)));rw[G8 hr.nn,RE.sgn2_re h.nn]
 have e:RE.vR (wL c p)=RE.v2 (sqA p (ctr c)-c.2.2) (sqB p (ctr c)) p.2.2.2.2:=by
  have e1:=RE.vR_co (sqA p (ctr c)) (sqB p (ctr c)) p.2.2.2.2;unfold RE.vR RE.v2 at e1;unfold wL arT sqP RE.vR RE.v2;simp only;rw[RE.of_add,RE.of_neg,RE.of_sub]
  have e2:RE.of (coR (sqA p (ctr c)) (sqB p (ctr c)) p.2.2.2.2).1=RE.of (sqA p (ctr c)):=by
   unfold coR;cases decide (sqB p (ctr c)=0)<;>rfl
  rw[e2]at e1 ⊢;exact RE.shift_l _ _ _ _ e1
 rw[e]
theorem za{q:Rat}(h:q≠0):aE q 0=if 0<q then 1 else-1:=by
 rcases(by grind:q<0\/0<q)with h'|h'
 ·rw[dQ h',ank (by grind)]
 ·rw[dJ h',anp h']
def rv:List En:=[enT pJ,enL n9,enL oN,enL sL,enL qH,enT wq,enL tC,enL Gd,enL RP,enL LR,enL S9]
def LY(a:BR)(_k:KT):OLR:=match decide (okR a/\okR a)with|true=>some [RV.d tR (hMu a a)]|false=>none
def abx:Cn 317 [tR]:=cn λ(a:BR)=>lf (okR a) [.d tR (ao (ah a*ah a))] λh=>by
 refine aB rv (LY a) ⟨0,?_⟩;unfold LY;rw[dT ⟨h,h⟩];simp only[bL]
def Tp:Cn 209 [tR,tR]:=cn λ(a b:BR)=>lf (okR a/\okR b) [.d tR (ao (ah a+ah b))] λh=>kB [RV.d tR (hAd a b)] (dL rv) h
def Q7:Cn 208 [tR,tR]:=cn λ(a b:BR)=>lf (okR a/\okR b) [.d tR (ao (ah a-ah b))] λh=>kB [RV.d tR (hSu a b)] (dL rv) h
def HD:Cn 186 [tR,tR]:=cn λ(a b:BR)=>lf (okR a/\okR b) [.d tR (ao (ah a*ah b))] λh=>kB [RV.d tR (hMu a b)] (dL rv) h
def Sv:Cn 210 [tR,tR]:=cn λ(a b:BR)=>lf (iS a b) [.d tR (ao (ah a/ah b))] λh=>kB [RV.d tR (hDi a b)] (dL rv) h
def tZ:List En:=enL abx::enL Tp::enL Q7::enL HD::enL Sv::rv
def Nh(r:BO3)(_k:KT):OLR:=og (o1 r.1) (og (o1 r.2.1) (og (o2 (hid (ao (ah r.2.1*ah r.2.1))) r.2.2) (og (o2 (hid (ao (ah r.1*ah r.1))) (hMu (hid (ao (ah r.2.1*ah r.2.1))) r.2.2)) (some [RV.d tR (hSu (hid (ao (ah r.1*ah r.1))) (hMu (hid (ao (ah r.2.1*ah r.2.1))) r.2.2))]))))
def acw:Cn 279 [tO]:=cn λ(r:BO3)=>lf (ok Rt 90000 r) [.d tR (ao (noR (dec r)))] λh=>by
 refine aB tZ (Nh r) ⟨0,?_⟩;have hr:=h;obtain⟨r,rfl,br⟩:=aD hr;unfold Nh;simp only[aU,Nat.reduceAdd,Nat.reduceLeDiff];rfl
def Sy(l:BO3)(p:BP)(_k:KT):OLR:=og (o2 l.1 p.1) (og (o2 l.2.1 p.2.2.1) (og (o2 (hMu l.1 p.1) (hMu l.2.1 p.2.2.1)) (og (o2 (hAd (hMu l.1 p.1) (hMu l.2.1 p.2.2.1)) l.2.2) (og (o2 l.1 p.2.1) (og (o2 l.2.1 p.2.2.2.1) (og (o2 (hMu l.1 p.2.1) (hMu l.2.1 p.2.2.2.1)) (og (decide (ok Rat 100000 (hSu (hAd (hMu l.1 p.1) (hMu l.2.1 p.2.2.1)) l.2.2)/\ok Rat 100000 (hAd (hMu l.1 p.2.1) (hMu l.2.1 p.2.2.2.1))/\ok Rat 100000 p.2.2.2.2/\0<=ah p.2.2.2.2)) (some [RV.d tO (hid (enc (mkR (ah (hSu (hAd (hMu l.1 p.1) (hMu l.2.1 p.2.2.1)) l.2.2)) (ah (hAd (hMu l.1 p.2.1) (hMu l.2.1 p.2.2.2.1))) (ah p.2.2.2.2))))]))))))))
def afl:Cn 207 [tO,tP]:=cn λ(l:BO3) (p:BP)=>lf (ok Ln 300 l/\okP 4000 p) [.d tO (enc (H4 (dec l) (dec p)))] λh=>by
 refine aB tZ (Sy l p) ⟨0,?_⟩;obtain⟨hl,hp⟩:=h;obtain⟨l,rfl,bl⟩:=aD hl;obtain⟨p,rfl,bp,rp⟩:=bR hp;have hn:0<=p.2.2.2.2:=rp.nn;unfold Sy;simp only[aU,Nat.reduceAdd,Nat.reduceLeDiff,dT hn];rfl
def S2(c:BO3)(p:BP)(_k:KT):OLR:=og (decide (okP 3500 p/\ok (Rat×Rat) 300 (c.1,c.2.1))) (og (o1 c.2.2) (og (decide (ok Rt 100000 (hid (enc (sqP (dec p) (dec (c.1,c.2.1)))))/\ok Rat 100000 (hNe c.2.2))) (some [RV.d tO (hid (enc (arT (dec (hid (enc (sqP (dec p) (dec (c.1,c.2.1)))))) (ah (hNe c.2.2)))))])))
def ad1:Cn 206 [tO,tP]:=cn λ(c:BO3) (p:BP)=>lf (ok Ln 300 c/\okP 3500 p) [.d tO (enc (wL (dec c) (dec p)))] λh=>by
 refine aB tZ (S2 c p) ⟨0,?_⟩;obtain⟨hc,hp⟩:=h;obtain⟨c,rfl,bc⟩:=aD hc;obtain⟨p,rfl,bp,rp⟩:=bR hp;have e0:(dec ((ao c.1,ao c.2.1):BV):Rat×Rat)=ctr c:=aA (ctr c);have e1:decide (ok (Rat×Rat) 300 ((ao c.1,ao c.2.1):BV))=true:=okd (x:=ctr c) (by decide) (by decide);unfold S2;simp only[aU,Nat.reduceAdd,Nat.reduceMul,Nat.reduceLeDiff,aL,e0,e1];rfl
def Qv(l:BO3)(v:BV)(_k:KT):OLR:=og (o2 l.1 l.1) (og (o2 l.2.1 l.2.1) (og (o2 (hMu l.1 l.1) (hMu l.2.1 l.2.1)) (og (o2 l.1 v.1) (og (o2 l.2.1 v.2) (og (o2 (hMu l.1 v.1) (hMu l.2.1 v.2)) (og (o2 l.2.2 (hAd (hMu l.1 v.1) (hMu l.2.1 v.2))) (og (decide (iS (hSu l.2.2 (hAd (hMu l.1 v.1) (hMu l.2.1 v.2))) (hAd (hMu l.1 l.1) (hMu l.2.1 l.2.1)))) (og (o2 (hDi (hSu l.2.2 (hAd (hMu l.1 v.1) (hMu l.2.1 v.2))) (hAd (hMu l.1 l.1) (hMu l.2.1 l.2.1))) l.1) (og (o2 v.1 (hMu (hDi (hSu l.2.2 (hAd (hMu l.1 v.1) (hMu l.2.1 v.2))) (hAd (hMu l.1 l.1) (hMu l.2.1 l.2.1))) l.1)) (og (o2 (hDi (hSu l.2.2 (hAd (hMu l.1 v.1) (hMu l.2.1 v.2))) (hAd (hMu l.1 l.1) (hMu l.2.1 l.2.1))) l.2.1) (og (o2 v.2 (hMu (hDi (hSu l.2.2 (hAd (hMu l.1 v.1) (hMu l.2.1 v.2))) (hAd (hMu l.1 l.1) (hMu l.2.1 l.2.1))) l.2.1)) (some [RV.d tV (hAd v.1 (hMu (hDi (hSu l.2.2 (hAd (hMu l.1 v.1) (hMu l.2.1 v.2))) (hAd (hMu l.1 l.1) (hMu l.2.1 l.2.1))) l.1),hAd v.2 (hMu (hDi (hSu l.2.2 (hAd (hMu l.1 v.1) (hMu l.2.1 v.2))) (hAd (hMu l.1 l.1) (hMu l.2.1 l.2.1))) l.2.1))]))))))))))))
def NG:Cn 143 [tO,tV]:=cn λ(l:BO3) (v:BV)=>lf (ok Ln 300 l/\ok (Rat×Rat) 200 v/\((dec l:Ln).1≠0\/(dec l:Ln).2.1≠0)) [.d tV (enc (cQ (dec l) (dec v)))] λh=>by
 refine aB tZ (Qv l v) ⟨0,?_⟩;obtain⟨hl,hv,h0⟩:=h;obtain⟨l,rfl,bl⟩:=aD hl;obtain⟨v,rfl,bv⟩:=aD hv;have hn:l.1*l.1+l.2.1*l.2.1≠0:=kR (by rw[aA]at h0;exact h0)
 have e:(l.2.2-(l.1*v.1+l.2.1*v.2))/(l.1*l.1+l.2.1*l.2.1)= -nV l v:=by
  unfold nV;grind
 unfold Qv;simp only[aU,Nat.reduceAdd,Nat.reduceLeDiff,hn,ne_eq,aoh];unfold cQ;rw[e,show v.1+ -nV l v*l.1=v.1-nV l v*l.1 by grind,show v.2+ -nV l v*l.2.1=v.2-nV l v*l.2.1 by grind];rfl
def IF:List En:=enL acw::enL afl::enL ad1::enL NG::tZ
def OD(r:BO3)(_k:KT):OLR:=og (o1 r.1) (og (o1 r.2.1) (match(aE (ah r.1) 0)==(aE (ah r.2.1) 0)with|true=>some [RV.d aqh (aE (ah r.1) 0)]|false=>(match(aE (ah r.2.1) 0)==0 with|true=>some [RV.d aqh (aE (ah r.1) 0)]|false=>(match(aE (ah r.1) 0)==0 with|true=>some [RV.d aqh (aE (ah r.2.1) 0)]|false=>(og (decide (ok Rt 90000 r)) (og (o1 (hid (ao (noR (dec r))))) (match decide ((aE (ah (hid (ao (noR (dec r))))) 0)>0)with|true=>some [RV.d aqh (aE (ah r.1) 0)]|false=>some [RV.d aqh (aE (ah r.2.1) 0)])))))))
def afn:Cn 205 [tO]:=cn λ(r:BO3)=>lf (okT 90000 r) [.d aqh (sgR (dec r))] λh=>by
 refine aB IF (OD r) ⟨0,?_⟩;have hr:=h;obtain⟨r,rfl,br,rr⟩:=fU hr;unfold OD;simp only[aU,Nat.reduceAdd,Nat.reduceMul,Nat.reduceLeDiff,aq,az];rw[abp rr];by_cases hb:r.2.1=0
 ·rw[amW hb,hb,eE];by_cases ha:aE r.1 0=0
  ·rw[ha];rfl
  ·rw[show(aE r.1 0==0)=false by simp[ha]];rfl
 ·have hn:=aed rr hb;have e2:=za hn;have hb2:=za hb;rw[amY hb,show(aE r.2.1 0==0)=false by rw[aq,amY hb]];by_cases ha:r.1=0
  ·rw[amW ha,ha,eE,show((0:Int)==aE r.2.1 0)=false by rw[hb2];split<;>rfl];rfl
  ·have ha2:=za ha;rw[amY ha,show(aE r.1 0==0)=false by rw[aq,amY ha]];cases hq:(aE r.1 0==aE r.2.1 0)
   ·have hne:aE r.1 0≠aE r.2.1 0:=by simpa using hq
    rw[e2];by_cases hp:0<noR r
    ·rw[amW hp,anp hp,apf];rfl
    ·rw[amY hp,ank hp];show some [RV.d aqh (aE r.2.1 0)]=some [RV.d aqh (aE r.1 0* -1)]
     rw[show aE r.2.1 0=aE r.1 0* -1 by
      rw[ha2,hb2]at hne ⊢;split at hne<;>split at hne<;>simp_all]
   ·rfl
def I8:List En:=enT afn::IF
def PN(l:BO3)(p:BP)(_k:KT):OLR:=og (decide (ok Ln 300 l/\okP 4000 p)) (og (decide (okT 90000 (hid (enc (H4 (dec l) (dec p)))))) (some [RV.d aqh (sgR (dec (hid (enc (H4 (dec l) (dec p))))))]))
def aeG:Cn 108 [tO,tP]:=cn λ(l:BO3) (p:BP)=>lf (ok Ln 300 l/\okP 4000 p) [.d aqh (qB (dec l) (dec p))] λh=>by
 refine aB I8 (PN l p) ⟨0,?_⟩;obtain⟨hl,hp⟩:=h;obtain⟨l,rfl,bl⟩:=aD hl;obtain⟨p,rfl,bp,rp⟩:=bR hp;unfold PN;simp only[aU,Nat.reduceAdd,Nat.reduceMul,Nat.reduceLeDiff,aK,aL];rw[UI]
def Oe(c:BO3)(p:BP)(_k:KT):OLR:=og (decide (ok Ln 300 c/\okP 3500 p)) (og (decide (okT 90000 (hid (enc (wL (dec c) (dec p)))))) (some [RV.d aqh (i64.wrap (0-(sgR (dec (hid (enc (wL (dec c) (dec p))))))))]))
def abV:Cn 107 [tO,tP]:=cn λ(c:BO3) (p:BP)=>lf (ok Ln 300 c/\okP 3500 p) [.d aqh (pV (dec c) (dec p))] λh=>by
 refine aB I8 (Oe c p) ⟨0,?_⟩;obtain⟨hc,hp⟩:=h;obtain⟨c,rfl,bc⟩:=aD hc;obtain⟨p,rfl,bp,rp⟩:=bR hp;have hr:Rdd (wL c p):=inferInstanceAs (Rdd (arT (sqP p (ctr c)) (-c.2.2)));have br:Bd (wL c p) 90000:=(inferInstance:Bd (arT (sqP p (ctr c)) (-c.2.2)) _).mono (by decide);have hb: -1<=sgR (wL c p)/\sgR (wL c p)<=1:=mA _ _ _;unfold Oe;simp only[aU,Nat.reduceLeDiff,aK,aL,aoQ,aV (x:= -sgR (wL c p)) (by omega) (by omega)];rw[VX]
abbrev tCU:Ty:=.st (.pair .bool (.pair tO (.pair tO (.pair .bool (.pair tP tP)))))
abbrev BCU:=Bool×BO3×BO3×Bool×BP×BP
abbrev Cv:=Bool×Ln×Ln×Bool×Pt×Pt
def dC(c:BCU):Cv:=(c.1,dec c.2.1,dec c.2.2.1,c.2.2.2.1,dec c.2.2.2.2.1,dec c.2.2.2.2.2)
def rV(x:BO3):Prop:=ok Ln 300 x/\(0:Rat)<(dec x:Ln).2.2
instance (x:BO3):Decidable (rV x):=by unfold rV;infer_instance
def Wu(x:BO3):Prop:=ok Ln 300 x/\((dec x:Ln).1≠0\/(dec x:Ln).2.1≠0)
instance (x:BO3):Decidable (Wu x):=by unfold Wu;infer_instance
def okC(k:Nat)(c:BCU):Prop:=(c.1=true->rV c.2.2.1)/\(c.1=false->Wu c.2.1)/\okP k c.2.2.2.2.1/\okP k c.2.2.2.2.2
instance (k:Nat) (c:BCU):Decidable (okC k c):=by unfold okC;infer_instance
def frC(c:Cv):Pt:=c.2.2.2.2.1
def toC(c:Cv):Pt:=c.2.2.2.2.2
def lnC(c:Cv):Ln:=c.2.1
def ciC(c:Cv):Ln:=c.2.2.1
def cwC(c:Cv):Bool:=c.2.2.2.1
def gR(c:Cv)(p:Pt):Bool:=bif c.1 then pV (ciC c) p==0 else qB (lnC c) p==0
def upR(c:Ln)(p:Pt):Bool:=decide (fY (yP p) c.2.1>0)||(fY (yP p) c.2.1==0&&decide (fY (xP p) c.1>0))
def ptd(c:Ln)(p:Pt):Bool×Rt:=(upR c p,xP p)
def DG(c:Ln)(p:Pt):Int:=bif upR c p then 0 else 1
def ccF(c:Cv):Pt:=bif cwC c then toC c else frC c
def ccT(c:Cv):Pt:=bif cwC c then frC c else toC c
def iN(c:Cv)(p:Pt):Bool:=bif c.1 then decide (ic bh (ptd (ciC c) (ccF c)) (ptd (ciC c) p) (ptd (ciC c) (ccT c))<=0)else uX (a8 (frC c) p) (a8 p (toC c))
def onP(c:Cv)(p:Pt):Bool:=gR c p&&iN c p
def uP(c:BCU):BCU:=(c.1,c.2.1,c.2.2.1,c.1&&!c.2.2.2.1,c.2.2.2.2.2,c.2.2.2.2.1)
def d9(c:BCU):BCU:=bif c.2.2.2.1 then uP c else c
def flP(p:Pt):Pt:=(-p.1,-p.2.1,p.2.2.1,p.2.2.2.1,p.2.2.2.2)
def flC(c:Ln):Ln:=(-c.1,c.2.1,c.2.2)
def dt(c:Cv)(p q:Pt):Int:=bif c.1 then(bif cwC c then kO bh (ptd (flC (ciC c)) (flP (frC c))) (ptd (flC (ciC c)) (flP p)) (ptd (flC (ciC c)) (flP q))else kO bh (ptd (ciC c) (frC c)) (ptd (ciC c) p) (ptd (ciC c) q))
 else(bif decide (a8 (frC c) (toC c)>0)then-a8 p q else a8 p q)
def onR(c:Cv)(p:Pt):Bool:=gR c p&&(decide (dt c (frC c) p<=0)&&decide (dt c p (toC c)<=0))
theorem LQ(k:Nat){c:BCU}(h:okC k c):okC k (uP c):=⟨h.1,h.2.1,h.2.2.2,h.2.2.1⟩
theorem wZ(p q:Pt): -1<=a8 p q/\a8 p q<=1:=by
 unfold a8;cases bh (xP p) (xP q)==0
 ·exact wS _ _
 ·exact wS _ _
theorem IK{p q:Bool×Rt}:0<=pU bh p q/\pU bh p q<=2:=by
 unfold pU;cases tn bh q p==0<;>cases decide (tn bh q p>0)<;>simp only[cond_true,cond_false]<;>omega
def yh(c:BCU):BCU:=(c.1,c.2.1,(ao (-ah c.2.2.1.1),c.2.2.1.2),!c.2.2.2.1,enc (flP (dec c.2.2.2.2.1)),enc (flP (dec c.2.2.2.2.2)))
instance amP {p:Pt} [h:Rpd p]:Rpd (flP p):=by
 refine⟨?_⟩;have:=h.rd;unfold HM flP at*
 simp only;have e:(-p.2.1=0)↔p.2.1=0:=by constructor<;>intro h<;>grind
 rw[e];exact this
instance amK {p:Pt} {j:Nat} [h:Bd p j]:Bd (flP p) j:=by
 have i1:Bd ((-p.1,-p.2.1,p.2.2.1,p.2.2.2.1,p.2.2.2.2):Pt) _:=inferInstance;exact i1.mono (fZ (by omega) (fZ (by omega) (fZ (by omega) (fZ (by omega) (by omega)))))
theorem ri{j k:Nat}{x:BP}(h:okP j x)(hj:j<=k)(hk:k<=480000):okP k x:=by
 obtain⟨p,rfl,bp,rp⟩:=bR h;exact amZ (aL hj hk)
theorem Lw{j k:Nat}{c:BCU}(h:okC j c)(hj:j<=k)(hk:k<=480000):okC k c:=⟨h.1,h.2.1,ri h.2.2.1 hj hk,ri h.2.2.2 hj hk⟩
theorem Hu{x:BP}(h:okP 4000 x):okP 4000 (enc (flP (dec x))):=by
 obtain⟨p,rfl,bp,rp⟩:=bR h;rw[aA];exact amZ (aL (x:=flP p) (by decide) (by decide))
theorem ad7{x:BO3}(h:ok Ln 300 x):ok Ln 300 ((ao (-ah x.1),x.2):BO3)/\(dec ((ao (-ah x.1),x.2):BO3):Ln)=flC (dec x):=by
 obtain⟨l,rfl,bl⟩:=aD h
 have e:((ao (-ah (enc l:BO3).1),(enc l:BO3).2):BO3)=enc (flC l):=by
  rw[t7,fd,ct];rfl
 rw[e,aA,aA];refine⟨?_,rfl⟩;have i1:Bd (flC l) 300:=(inferInstance:Bd ((-l.1,l.2.1,l.2.2):Ln) _).mono (by decide);exact amZ (okd (x:=flC l) (am2 _) (by decide))
def Ak:List En:=[enL tC,enT FL,enT HH,enL aag,enL XS,enT yW,enT aeG,enT abV]
def aas(c:BCU)(p:BP)(_k:KT):OLR:=match c.1 with|true=>(og (decide (ok Ln 300 c.2.2.1/\okP 3500 p)) (some [RV.d .bool ((pV (dec c.2.2.1) (dec p))==0)]))|false=>(og (decide (ok Ln 300 c.2.1/\okP 4000 p)) (some [RV.d .bool ((qB (dec c.2.1) (dec p))==0)]))
def ahT:Cn 44 [tCU,tP]:=cn λ(c:BCU) (p:BP)=>lf (okC 3500 c/\okP 3500 p) [.d .bool (gR (dC c) (dec p))] λh=>by
 refine aB Ak (aas c p) ⟨0,?_⟩;obtain⟨hc,hp⟩:=h;have op:decide (okP 3500 p)=true:=amW hp;have op4:decide (okP 4000 p)=true:=amW (ri hp (by decide) (by decide));obtain⟨ar,li,ci,cw,fr,to⟩:=c;obtain⟨c1,c2,_⟩:=hc;unfold aas;cases ar
 ·have e:=(c2 rfl).1;simp only[aoT,dT e,op4,aos];rfl
 ·have e:=(c1 rfl).1;simp only[aoT,dT e,op,aos];rfl
def Zg(c:BO3)(p:BP)(_k:KT):OLR:=og (decide (okP 4000 p)) (og (decide (okT 15000 (hid (enc (yP (dec p))))/\ok Rat 15000 c.2.1)) (match decide ((fY (dec (hid (enc (yP (dec p))))) (ah c.2.1))>0)with|true=>some [RV.d .bool true]|false=>(match(fY (dec (hid (enc (yP (dec p))))) (ah c.2.1))==0 with|true=>(og (decide (okP 4000 p)) (og (decide (okT 15000 (hid (enc (xP (dec p))))/\ok Rat 15000 c.1)) (some [RV.d .bool (decide ((fY (dec (hid (enc (xP (dec p))))) (ah c.1))>0))])))|false=>some [RV.d .bool false])))
def agm:Cn 272 [tO,tP]:=cn λ(c:BO3) (p:BP)=>lf (ok Ln 300 c/\okP 4000 p) [.d .bool (upR (dec c) (dec p))] λh=>by
 refine aB Ak (Zg c p) ⟨0,?_⟩;obtain⟨hc,hp⟩:=h;obtain⟨c,rfl,bc⟩:=aD hc;obtain⟨p,rfl,bp,rp⟩:=bR hp;unfold Zg upR;simp only[aU,Nat.reduceLeDiff,aK,aL];cases decide (fY (yP p) c.2.1>0)<;>cases fY (yP p) c.2.1==0<;>rfl
def Xp(p:BP)(_k:KT):OLR:=og (o1 p.1) (og (o1 p.2.1) (some [RV.d tP (hNe p.1,(hNe p.2.1,p.2.2))]))
def agN:Cn 97 [tP]:=cn λ(p:BP)=>lf (okP 4000 p) [.d tP (enc (flP (dec p)))] λh=>by
 refine aB Ak (Xp p) ⟨0,?_⟩;have hp:=h;obtain⟨p,rfl,bp,rp⟩:=bR hp;unfold Xp;simp only[aU,Nat.reduceLeDiff];rfl
def aiJ:Ctx:=CX (ens Ak) []
def aiQ(c:BCU)(_k:KT):OLR:=match c.1 with|true=>some [RV.d tCU (c.1,(c.2.1,(c.2.2.1,(!c.2.2.2.1,(c.2.2.2.2.2,c.2.2.2.2.1)))))]|false=>some [RV.d tCU (c.1,(c.2.1,(c.2.2.1,(false,(c.2.2.2.2.2,c.2.2.2.2.1)))))]
theorem aft(c:BCU):RS aiJ 36 [.d tCU c] (aiQ c):=rsX
def Om:Cn 36 [tCU]:=cn λ(c:BCU)=>lf True [.d tCU (uP c)] λ_=>by
 refine da Ak (aft _ ⟨0,?_⟩);obtain⟨ar,li,ci,cw,fr,to⟩:=c;cases ar<;>rfl
def QH:List En:=enT ahT::enT agm::enL agN::enL Om::Ak
def Zw(c:BO3)(p q:BP)(_k:KT):OLR:=og (decide (ok Ln 300 c/\okP 4000 p)) (og (decide (ok Ln 300 c/\okP 4000 q)) (match !((upR (dec c) (dec p))==(upR (dec c) (dec q)))with|true=>(match upR (dec c) (dec q)with|true=>some [RV.d aqh (-1)]|false=>some [RV.d aqh 1])|false=>(og (decide (okP 4000 p)) (og (decide (okP 4000 q)) (og (decide (okT 15000 (hid (enc (xP (dec p))))/\okT 15000 (hid (enc (xP (dec q)))))) (match upR (dec c) (dec p)with|true=>some [RV.d aqh (i64.wrap (0-(bh (dec (hid (enc (xP (dec p))))) (dec (hid (enc (xP (dec q))))))))]|false=>some [RV.d aqh (bh (dec (hid (enc (xP (dec p))))) (dec (hid (enc (xP (dec q))))))]))))))
def ag8:Cn 198 [tO,tP,tP]:=cn λ(c:BO3) (p q:BP)=>lf (ok Ln 300 c/\okP 4000 p/\okP 4000 q) [.d aqh (ky bh (ptd (dec c) (dec p)) (ptd (dec c) (dec q)))] λh=>by
 refine aB QH (Zw c p q) ⟨0,?_⟩;obtain⟨hc,hp,hq⟩:=h;obtain⟨c,rfl,bc⟩:=aD hc;obtain⟨p,rfl,bp,rp⟩:=bR hp;obtain⟨q,rfl,bq,rq⟩:=bR hq;have xb:=wS (xP p) (xP q);unfold Zw;simp only[aU,Nat.reduceLeDiff,aK,aL,aV (x:= -bh (xP p) (xP q)) (by omega) (by omega),aoQ];unfold ky ptd;cases upR c p<;>cases upR c q<;>rfl
def aav(c:BCU)(_k:KT):OLR:=match decide (okR c.2.2.1.1)with|true=>(match decide (okP 4000 c.2.2.2.2.1)with|true=>(match decide (okP 4000 c.2.2.2.2.2)with|true=>some [RV.d tCU (c.1,(c.2.1,((hNe c.2.2.1.1,c.2.2.1.2),(!c.2.2.2.1,(hid (enc (flP (dec c.2.2.2.2.1))),hid (enc (flP (dec c.2.2.2.2.2))))))))]|false=>none)|false=>none)|false=>none
def afF:Cn 96 [tCU]:=cn λ(c:BCU)=>lf (rV c.2.2.1/\okP 4000 c.2.2.2.2.1/\okP 4000 c.2.2.2.2.2) [.d tCU (yh c)] λh=>by
 refine aB QH (aav c) ⟨0,?_⟩;obtain⟨hc,hf,ht⟩:=h
 have e:okR c.2.2.1.1:=by
  obtain⟨l,hl,bl⟩:=aD hc.1;rw[hl,t7,fd];exact amZ (Io (q:=l.1) (by decide))
 unfold aav;rw[dT e,dT hf,dT ht];simp only[bL];rfl
def XD:List En:=enT ag8::enL afF::QH
def YW(c:BO3)(f p q:BP)(_k:KT):OLR:=og (decide (ok Ln 300 c/\okP 4000 p/\okP 4000 f)) (og (decide (ok Ln 300 c/\okP 4000 q/\okP 4000 f)) (match !((decide ((ky bh (ptd (dec c) (dec p)) (ptd (dec c) (dec f)))<0))==(decide ((ky bh (ptd (dec c) (dec q)) (ptd (dec c) (dec f)))<0)))with|true=>(match decide ((ky bh (ptd (dec c) (dec q)) (ptd (dec c) (dec f)))<0)with|true=>some [RV.d aqh (-1)]|false=>some [RV.d aqh 1])|false=>(og (decide (ok Ln 300 c/\okP 4000 p/\okP 4000 q)) (some [RV.d aqh (ky bh (ptd (dec c) (dec p)) (ptd (dec c) (dec q)))]))))
def agy:Cn 95 [tO,tP,tP,tP]:=cn λ(c:BO3) (f p q:BP)=>lf (ok Ln 300 c/\okP 4000 f/\okP 4000 p/\okP 4000 q) [.d aqh (kO bh (ptd (dec c) (dec f)) (ptd (dec c) (dec p)) (ptd (dec c) (dec q)))] λh=>by
 refine aB XD (YW c f p q) ⟨0,?_⟩;obtain⟨hc,hf,hp,hq⟩:=h;unfold YW kO;rw[dT (show ok Ln 300 c/\okP 4000 p/\okP 4000 f from⟨hc,hp,hf⟩),dT (show ok Ln 300 c/\okP 4000 q/\okP 4000 f from⟨hc,hq,hf⟩),dT (show ok Ln 300 c/\okP 4000 p/\okP 4000 q from⟨hc,hp,hq⟩)];cases decide (ky bh (ptd (dec c) (dec p)) (ptd (dec c) (dec f))<0)<;>cases decide (ky bh (ptd (dec c) (dec q)) (ptd (dec c) (dec f))<0)<;>rfl
def Yy:List En:=enT agy::XD
def aaQ(c:BCU)(p q:BP)(_k:KT):OLR:=match !c.1 with|true=>(og (decide (okP 4000 p/\okP 4000 q)) (og (decide (okP 4000 c.2.2.2.2.1/\okP 4000 c.2.2.2.2.2)) (match decide ((a8 (dec c.2.2.2.2.1) (dec c.2.2.2.2.2))>0)with|true=>some [RV.d aqh (i64.wrap (0-(a8 (dec p) (dec q))))]|false=>some [RV.d aqh (a8 (dec p) (dec q))])))|false=>(match !c.2.2.2.1 with|true=>(og (decide (ok Ln 300 c.2.2.1/\okP 4000 c.2.2.2.2.1/\okP 4000 p/\okP 4000 q)) (some [RV.d aqh (kO bh (ptd (dec c.2.2.1) (dec c.2.2.2.2.1)) (ptd (dec c.2.2.1) (dec p)) (ptd (dec c.2.2.1) (dec q)))]))|false=>(og (decide (rV c.2.2.1/\okP 4000 c.2.2.2.2.1/\okP 4000 c.2.2.2.2.2)) (og (decide (okP 4000 p)) (og (decide (okP 4000 q)) (og (decide (ok Ln 300 ((((hid (yh c)).2).2).1)/\okP 4000 ((((((hid (yh c)).2).2).2).2).1)/\okP 4000 (hid (enc (flP (dec p))))/\okP 4000 (hid (enc (flP (dec q)))))) (some [RV.d aqh (kO bh (ptd (dec ((((hid (yh c)).2).2).1)) (dec ((((((hid (yh c)).2).2).2).2).1))) (ptd (dec ((((hid (yh c)).2).2).1)) (dec (hid (enc (flP (dec p)))))) (ptd (dec ((((hid (yh c)).2).2).1)) (dec (hid (enc (flP (dec q)))))))]))))))
def Kw:Cn 37 [tCU,tP,tP]:=cn λ(c:BCU) (p q:BP)=>lf (okC 4000 c/\okP 4000 p/\okP 4000 q) [.d aqh (dt (dC c) (dec p) (dec q))] λh=>by
 refine aB Yy (aaQ c p q) ⟨0,?_⟩;obtain⟨hc,hp,hq⟩:=h;have xb:=wZ (dec p) (dec q);obtain⟨ar,li,ci,cw,fr,to⟩:=c;obtain⟨c1,c2,c3,c4⟩:=hc;simp only at c1 c2 c3 c4;unfold aaQ dt;cases ar
 ·simp only[aoQ,aV (x:= -a8 (dec p) (dec q)) (by omega) (by omega),dT (show okP 4000 p/\okP 4000 q from⟨hp,hq⟩),dT (show okP 4000 fr/\okP 4000 to from⟨c3,c4⟩),Bool.not_false];simp only[dC,frC,toC,cond_false];by_cases hd:a8 (dec fr) (dec to)>0
  ·simp[hd]
  ·simp[hd]
 ·have e:=(c1 rfl).1;have hci:=c1 rfl;obtain⟨f1,f2⟩:=ad7 e;cases cw
  ·simp only[dT (show ok Ln 300 ci/\okP 4000 fr/\okP 4000 p/\okP 4000 q from⟨e,c3,hp,hq⟩),Bool.not_true,Bool.not_false];rfl
  ·have hm:ok Ln 300 (yh (true,li,ci,true,fr,to)).2.2.1/\okP 4000 (yh (true,li,ci,true,fr,to)).2.2.2.2.1/\okP 4000 (enc (flP (dec p)))/\okP 4000 (enc (flP (dec q))):=⟨f1,Hu c3,Hu hp,Hu hq⟩
   have m1:(dec (yh (true,li,ci,true,fr,to)).2.2.1:Ln)=flC (dec ci):=f2;have m2:(dec (yh (true,li,ci,true,fr,to)).2.2.2.2.1:Pt)=flP (dec fr):=aA _;simp only[bL,dT (show rV ci/\okP 4000 fr/\okP 4000 to from⟨hci,c3,c4⟩),dT hp,dT hq,dT hm,Bool.not_true,m1,m2,aA];rfl
def agb:List En:=enT Kw::Yy
def aaj(c:BCU)(p:BP)(_k:KT):OLR:=og (decide (okC 3500 c/\okP 3500 p)) (match gR (dC c) (dec p)with|true=>(og (decide (okC 4000 c/\okP 4000 c.2.2.2.2.1/\okP 4000 p)) (match decide ((dt (dC c) (dec c.2.2.2.2.1) (dec p))<=0)with|true=>(og (decide (okC 4000 c/\okP 4000 p/\okP 4000 c.2.2.2.2.2)) (some [RV.d .bool (decide ((dt (dC c) (dec p) (dec c.2.2.2.2.2))<=0))]))|false=>some [RV.d .bool false]))|false=>some [RV.d .bool false])
def Ku:Cn 13 [tCU,tP]:=cn λ(c:BCU) (p:BP)=>lf (okC 3500 c/\okP 3500 p) [.d .bool (onR (dC c) (dec p))] λh=>by
 refine aB agb (aaj c p) ⟨0,?_⟩;obtain⟨hc,hp⟩:=h;have hc4:=Lw (k:=4000) hc (by decide) (by decide);have hp4:=ri (k:=4000) hp (by decide) (by decide);unfold aaj onR;rw[dT (show okC 3500 c/\okP 3500 p from⟨hc,hp⟩),dT (show okC 4000 c/\okP 4000 c.2.2.2.2.1/\okP 4000 p from⟨hc4,hc4.2.2.1,hp4⟩),dT (show okC 4000 c/\okP 4000 p/\okP 4000 c.2.2.2.2.2 from⟨hc4,hp4,hc4.2.2.2⟩)];cases gR (dC c) (dec p)
 ·rfl
 ·show(match decide (dt (dC c) (frC (dC c)) (dec p)<=0)with|true=>some [RV.d .bool (decide (dt (dC c) (dec p) (toC (dC c))<=0))]|false=>some [RV.d .bool false])=_;cases decide (dt (dC c) (frC (dC c)) (dec p)<=0)<;>rfl
section
namespace RE
theorem J5{u v:RE}:cls u v=2↔v=0/\¬0<u:=by
 unfold cls;rcases bi v with⟨a,h1⟩|⟨a,h1⟩|⟨a,h1⟩<;>rcases bi u with⟨b,h2⟩|⟨b,h2⟩|⟨b,h2⟩<;>rw[h1,h2]
 all_goals first
  |exact⟨λ_=>⟨a,λh=>by rw[b]at h;exact lt_irrefl _ h⟩,λ_=>rfl⟩
  |exact⟨λ_=>⟨a,λh=>lt_irrefl _ (c7 h b)⟩,λ_=>rfl⟩
  |(refine⟨λh=>absurd h (by decide),λh=>?_⟩;first|(rw[h.1]at a;exact absurd a (lt_irrefl _))|exact absurd b h.2)
theorem vg{u v Q:RE}(hQ:0<Q)(h:u*u+v*v=Q)(hv:v=0)(hu:¬0<u):u<0:=by
 rcases nZ u 0 with e|e|e
 ·exact e
 ·rw[e,hv,mul_zero,add_zero]at h;rw[<-h]at hQ;exact absurd hQ (lt_irrefl _)
 ·exact absurd e hu
theorem K1(u w Q:RE):((u-(0))*(u-(w)))+((w-(0))*(u-(w)))+((Q-(u*u)))+((w*w-(Q)))=0:=by grind
theorem IA(u w Q:RE)(h1:u*u=Q)(h2:w*w=Q)(h3:0<u)(h4:0<w):u<=w:=λhg=>far (aJ (aJ (aJ (mul_pos (aM h3) (aM hg)) (le_of_lt (mul_pos (aM h4) (aM hg)))) (aG (fP h1))) (aG (mp h2))) (K1 u w Q)
theorem Lp(u w Q:RE):((0-(u))*(u-(w)))+((0-(w))*(u-(w)))+((u*u-(Q)))+((Q-(w*w)))=0:=by grind
theorem JT(u w Q:RE)(h1:u*u=Q)(h2:w*w=Q)(h3:u<0)(h4:w<0):u<=w:=λhg=>far (aJ (aJ (aJ (mul_pos (aM h3) (aM hg)) (le_of_lt (mul_pos (aM h4) (aM hg)))) (aG (mp h1))) (aG (fP h2))) (Lp u w Q)
theorem DH(x y c:RE)(h1:x-c<y-c):x<y:=by grind
theorem LI(x y c:RE)(h1:x-c=y-c):x<=y:=by grind
theorem KR(x y c:RE)(h1:x-c=y-c):y<=x:=by grind
theorem fR(x y c:RE)(h1:x-c=y-c):x=y:=le_antisymm (LI x y c h1) (KR x y c h1)
theorem FE(x c:RE): -x- -c= -(x-c):=by grind
theorem U1(x y:RE): -x- -y=y-x:=by grind
theorem ace(a b r:RE): -a+ -b*r= -(a+b*r):=by grind
theorem OV(x q:RE)(h1:x+ -q=0):x<=q:=by grind
theorem PF(x q:RE)(h1:x+ -q=0):q<=x:=by grind
theorem J3(x q:RE)(h1:x+ -q=0):x=q:=le_antisymm (OV x q h1) (PF x q h1)
section
variable {x y x' y' cx cy Q:RE}
theorem dh(hQ:0<Q)(h:(x-cx)*(x-cx)+(y-cy)*(y-cy)=Q)(h':(x'-cx)*(x'-cx)+(y'-cy)*(y'-cy)=Q){L:List RE}(hx:x∈L)(hx':x'∈L):
  nN (cls (x-cx) (y-cy)) (rk (λa b:RE=>a<b) L x) (cls (x'-cx) (y'-cy)) (rk (λa b:RE=>a<b) L x')=true:=by
 unfold nN;rw[am0];have vv:∀{u v:RE},u*u+v*v=Q->v=0->u*u=Q:=λh e=>by rw[e,mul_zero,add_zero]at h;exact h
 refine⟨?_,?_⟩
 ·by_cases e:cls (x-cx) (y-cy)=0
  ·obtain⟨e1,e2⟩:=Ka.1 e;rw[e];by_cases e':cls (x'-cx) (y'-cy)=0
   ·obtain⟨f1,f2⟩:=Ka.1 e';rw[e'];have:=fR _ _ cx (le_antisymm (IA _ _ _ (vv h e1) (vv h' f1) e2 f2) (IA _ _ _ (vv h' f1) (vv h e1) f2 e2));rw[this];simp
   ·have hle:=afo _ _ _ _ _ h h' e1 e2 (cZ (y'-cy))
    have hlt:x'-cx<x-cx:=by
     rcases nZ (x'-cx) (x-cx)with g|g|g
     ·exact g
     ·exfalso;have z:=Q6 (x-cx) (x'-cx) (y'-cy) Q (vv h e1) h' (by rw[g]);exact e' (Ka.2 ⟨wN z,by rw[g];exact e2⟩)
     ·exact absurd g ((CF _ _).1 hle)
    have:=Fr lt_lin (DH _ _ _ hlt) hx';rw[show(cls (x'-cx) (y'-cy)==0)=false by simp[e']];simp[this]
  ·simp[e]
 ·by_cases e:cls (x-cx) (y-cy)=2
  ·obtain⟨e1,e2⟩:=J5.1 e;have e3:=vg hQ h e1 e2;rw[e];by_cases e':cls (x'-cx) (y'-cy)=2
   ·obtain⟨f1,f2⟩:=J5.1 e';have f3:=vg hQ h' f1 f2;rw[e'];have:=fR _ _ cx (le_antisymm (JT _ _ _ (vv h e1) (vv h' f1) e3 f3) (JT _ _ _ (vv h' f1) (vv h e1) f3 e3));rw[this];simp
   ·have hle:=adv _ _ _ _ _ h h' e1 e3 (cZ (y'-cy))
    have hlt:x-cx<x'-cx:=by
     rcases nZ (x-cx) (x'-cx)with g|g|g
     ·exact g
     ·exfalso;have z:=Q6 (x-cx) (x'-cx) (y'-cy) Q (vv h e1) h' (by rw[g]);exact e' (J5.2 ⟨wN z,by rw[<-g];exact e2⟩)
     ·exact absurd g ((CF _ _).1 hle)
    have:=Fr lt_lin (DH _ _ _ hlt) hx;rw[show(cls (x'-cx) (y'-cy)==2)=false by simp[e']];simp[this]
  ·simp[e]
end
def onCi(c:Ln)(p:Pt):Prop:=(pX p-of c.1)*(pX p-of c.1)+(pY p-of c.2.1)*(pY p-of c.2.1)=of c.2.2
theorem ins_on{c:Ln}{p:Pt}[Rpd p](h:pV c p=0):onCi c p:=by
 rw[Bs]at h;exact J3 _ _ (qz.1 (Int.neg_eq_zero.1 h))
theorem iJ{c:Ln}{p:Pt}[Rpd p]:upR c p=upA (cls (pX p-of c.1) (pY p-of c.2.1)):=by
 unfold upR;rw[cmpTR_re Ip,cmpTR_re mL,tY,WX,ab7]
theorem ET(p:Pt):pX (flP p)= -pX p:=by
 unfold pX flP v2;rw[of_neg,of_neg];exact ace _ _ _
theorem aji(p:Pt):pY (flP p)=pY p:=rfl
theorem wr{c:Ln}{p:Pt}[h:Rpd p](hQ:0<c.2.2)(hp:onCi c p):upR (flC c) (flP p)=ufA (cls (pX p-of c.1) (pY p-of c.2.1)):=by
 unfold upR;rw[cmpTR_re Ip,cmpTR_re mL,tY,WX,ET,aji];show(decide (sg (pY p-of c.2.1)>0)||(sg (pY p-of c.2.1)==0&&decide (sg (-pX p-of (-c.1))>0)))=_;rw[of_neg,FE,sM];exact acD (fX hQ) hp
theorem fB{L:List RE}{p q:Pt}[Rpd p][Rpd q](hp:pX p∈L)(hq:pX q∈L):bh (xP p) (xP q)=cI (rk (λa b:RE=>a<b) L (pX p)) (rk (λa b:RE=>a<b) L (pX q)):=by
 rw[cmpT_re mL mL,tY,tY];exact sH lt_lin sg_cmpO hp hq
theorem ot{L:List RE}{p q:Pt}[Rpd p][Rpd q](hp:pX p∈L)(hq:pX q∈L):bh (xP (flP p)) (xP (flP q))=dI (rk (λa b:RE=>a<b) L (pX p)) (rk (λa b:RE=>a<b) L (pX q)):=by
 rw[cmpT_re mL mL,tY,tY,ET,ET,U1];exact sH lt_lin sg_cmpO hq hp
theorem arc_eq{ci:Ln}{F P T:Pt}[Rpd F][Rpd P][Rpd T](hQ:0<ci.2.2)(hF:onCi ci F)(hP:onCi ci P)(hT:onCi ci T):
  decide (ic bh (ptd ci F) (ptd ci P) (ptd ci T)<=0)=(decide (kO bh (ptd ci F) (ptd ci F) (ptd ci P)<=0)&&decide (kO bh (ptd ci F) (ptd ci P) (ptd ci T)<=0))/\
  decide (ic bh (ptd ci T) (ptd ci P) (ptd ci F)<=0)=(decide (kO bh (ptd (flC ci) (flP F)) (ptd (flC ci) (flP F)) (ptd (flC ci) (flP P))<=0)&&decide (kO bh (ptd (flC ci) (flP F)) (ptd (flC ci) (flP P)) (ptd (flC ci) (flP T))<=0)):=by
 have mF:pX F∈[pX F,pX P,pX T]:=by simp
 have mP:pX P∈[pX F,pX P,pX T]:=by simp
 have mT:pX T∈[pX F,pX P,pX T]:=by simp
 have hq:0<of ci.2.2:=fX hQ;have bF:=jp lt_lin mF;have bP:=jp lt_lin mP;have bT:=jp lt_lin mT;have cF:=iv (pX F-of ci.1) (pY F-of ci.2.1);have cP:=iv (pX P-of ci.1) (pY P-of ci.2.1);have cT:=iv (pX T-of ci.1) (pY T-of ci.2.1)
 have hcon:H5 (cls (pX F-of ci.1) (pY F-of ci.2.1)) (rk (λa b:RE=>a<b) [pX F,pX P,pX T] (pX F)) (cls (pX P-of ci.1) (pY P-of ci.2.1)) (rk (λa b:RE=>a<b) [pX F,pX P,pX T] (pX P)) (cls (pX T-of ci.1) (pY T-of ci.2.1)) (rk (λa b:RE=>a<b) [pX F,pX P,pX T] (pX T))=true:=by
  unfold H5;rw[dh hq hF hP mF mP,dh hq hP hF mP mF,dh hq hF hT mF mT,dh hq hT hF mT mF,dh hq hP hT mP mT,dh hq hT hP mT mP];rfl
 have a1:=Wi ⟨_,cF⟩ ⟨_,cP⟩ ⟨_,cT⟩ ⟨_,bF⟩ ⟨_,bP⟩ ⟨_,bT⟩ hcon;have a2:=afi ⟨_,cF⟩ ⟨_,cP⟩ ⟨_,cT⟩ ⟨_,bF⟩ ⟨_,bP⟩ ⟨_,bT⟩ hcon;simp only at a1 a2;refine⟨?_,?_⟩
 ·unfold ptd;rw[iJ,iJ,iJ,iB (fB mP mF) (fB mT mF) (fB mP mT),gC (fB mF mF) (fB mP mF) (fB mF mP),gC (fB mP mF) (fB mT mF) (fB mP mT)];exact a1
 ·unfold ptd;rw[iJ,iJ,iJ,wr hQ hF,wr hQ hP,wr hQ hT,iB (fB mP mT) (fB mF mT) (fB mP mF),gC (ot mF mF) (ot mP mF) (ot mF mP),gC (ot mP mF) (ot mT mF) (ot mP mT)];exact a2
theorem seg_eq{F P T:Pt}[Rpd F][Rpd P][Rpd T]:uX (a8 F P) (a8 P T)=ahp (a8 F T) (a8 F P) (a8 P T):=by
 have mF:pR F∈[pR F,pR P,pR T]:=by simp
 have mP:pR P∈[pR F,pR P,pR T]:=by simp
 have mT:pR T∈[pR F,pR P,pR T]:=by simp
 rw[jP,jP,jP,sH kq jc mF mP,sH kq jc mP mT,sH kq jc mF mT];exact tW ⟨_,jp kq mF⟩ ⟨_,jp kq mP⟩ ⟨_,jp kq mT⟩
end RE
structure Crv (c:Cv):Prop where
 f:Rpd (frC c)
 t:Rpd (toC c)
 q:c.1=true->0<(ciC c).2.2/\RE.onCi (ciC c) (frC c)/\RE.onCi (ciC c) (toC c)
theorem Yu{c:Cv}(h:Crv c){p:Pt}(hp:Rpd p):onP c p=onR c p:=by
 have hf:=h.f;have ht:=h.t;unfold onP onR;cases hs:gR c p
 ·rfl
 ·simp only[aog];unfold iN dt;obtain⟨ar,li,ci,cw,fr,to⟩:=c;have hf:Rpd fr:=hf;have ht:Rpd to:=ht;cases ar
  ·exact RE.seg_eq (F:=fr) (P:=p) (T:=to)
  ·obtain⟨q1,q2,q3⟩:=h.q rfl
   have hi:pV ci p=0:=by
    have:(pV ci p==0)=true:=hs;exact anV.1 this
   obtain⟨e1,e2⟩:=RE.arc_eq (ci:=ci) (F:=fr) (P:=p) (T:=to) q1 q2 (RE.ins_on hi) q3;cases cw
   ·exact e1
   ·exact e2
end
def fq(l:Ln)(p:Pt):Rt:=mkR (-l.2.1*p.1+l.1*p.2.2.1) (-l.2.1*p.2.1+l.1*p.2.2.2.1) p.2.2.2.2
def nU(c:Cv)(p:Pt):Bool:=
 bif decide (bh (fq (lnC c) (frC c)) (fq (lnC c) (toC c))>0)then decide (bh (fq (lnC c) (toC c)) (fq (lnC c) p)<=0)&&decide (bh (fq (lnC c) p) (fq (lnC c) (frC c))<=0)
 else decide (bh (fq (lnC c) (frC c)) (fq (lnC c) p)<=0)&&decide (bh (fq (lnC c) p) (fq (lnC c) (toC c))<=0)
def rX(a b:Rt):Rt:=bif decide (bh b a<0)then b else a
def zeV(v:Rat×Rat):Bool:=decide (v.1=0)&&decide (v.2=0)
def iV(c:Ln)(d:Rat×Rat):Pt:=mkP (mkR c.1 d.1 (c.2.2/aW d d)) (mkR c.2.1 d.2 (c.2.2/aW d d))
def df(c:Cv)(d:Rat×Rat):Bool:=bif c.1&&!(zeV d)then onP c (iV (ciC c) d)else c.1
def yB(c:Cv)(v:Rat×Rat):Rt:=rX (sqP (frC c) v) (sqP (toC c) v)
def aY(c:Cv)(v:Rat×Rat):Rat×Rat:=cD (ctr (ciC c)) v
def kN(c:Cv)(v:Rat×Rat):Rt:=
 bif c.1 then(bif df c (aY c v)then mkR (aW (aY c v) (aY c v)+(ciC c).2.2) (-2) (aW (aY c v) (aY c v)*(ciC c).2.2)else yB c v)
 else(bif nU c (atP v)then(aW (cD v (cQ (lnC c) v)) (cD v (cQ (lnC c) v)),0,0)else yB c v)
def kS(c:Cv)(v:Rat×Rat)(r:Rat):Int:=bif decide (r<0)then 1 else fY (kN c v) (r*r)
instance SC {l:Ln} {p:Pt} [h:Rpd p]:Rdd (fq l p):=by
 have:Nn p.2.2.2.2:=inferInstance;exact u7
instance al5 {l:Ln} {p:Pt} {i j:Nat} [h:Bd l i] [h':Bd p j] [hp:Rpd p]:Bd (fq l p) (4*i+4*j+5):=by
 have a1:Bd (-l.2.1*p.1+l.1*p.2.2.1) _:=inferInstance;have a2:Bd (-l.2.1*p.2.1+l.1*p.2.2.2.1) _:=inferInstance;exact(acG (a:= -l.2.1*p.1+l.1*p.2.2.1) (b:= -l.2.1*p.2.1+l.1*p.2.2.2.1) (c:=p.2.2.2.2)).mono (fZ (by omega) (by omega))
theorem N9(a b:Rt):rX a b=a\/rX a b=b:=by
 unfold rX;cases decide (bh b a<0)
 ·exact .inl rfl
 ·exact .inr rfl
instance OE {a b:Rt} [h:Rdd a] [h':Rdd b]:Rdd (rX a b):=by
 rcases N9 a b with e|e<;>rw[e]<;>assumption
instance ams {a b:Rt} {i j:Nat} [h:Bd a i] [h':Bd b j]:Bd (rX a b) (mx i j):=by
 rcases N9 a b with e|e<;>rw[e]
 ·exact h.mono (Bo _ _)
 ·exact h'.mono (B9 _ _)
theorem ju(d:Rat×Rat):0<=aW d d:=by
 unfold aW
 have h:∀a:Rat,0<=a*a:=λa=>by
  rcases(by grind:0<=a\/0<= -a)with h|h
  ·exact anh h h
  ·have:=anh h h;grind
 have:=h d.1;have:=h d.2;grind
theorem vD{d:Rat×Rat}(h:zeV d=false):aW d d≠0:=by
 refine kR ?_;unfold zeV at h;by_cases e:d.1=0
 ·rw[amW e,aog]at h;exact .inr (anP h)
 ·exact .inl e
theorem pB(a b d e s:Rat):uR (mkR a d s) (mkR b e s):=by
 unfold uR mkR;cases ga s
 ·simp only[cond_false];by_cases hd:d=0
  ·rw[amW hd];exact .inl rfl
  ·by_cases he:e=0
   ·rw[amW he];exact .inr (.inl rfl)
   ·rw[amY hd,amY he];exact .inr (.inr rfl)
 ·exact .inl rfl
theorem CI{a b:Rat}(ha:0<=a)(hb:0<=b):0<=a/b:=by
 by_cases h0:b=0
 ·rw[h0,aoU,Rat.inv_zero,Rat.mul_zero];exact ap7
 ·rcases(by grind:0<=a/b\/0< -(a/b))with h|h
  ·exact h
  ·have h1:=ano h (show 0<b by grind);have h2:a/b*b=a:=ani h0;grind
class Cir (c:Ln):Prop where q:0<c.2.2
instance Ot {c:Ln} {d:Rat×Rat} [h:Cir c]:Nn (c.2.2/aW d d):=⟨CI (by have:=h.q;grind) (ju d)⟩
instance adF {c:Ln} {d:Rat×Rat} [h:Cir c]:Rpd (iV c d):=X9 u7 u7 (pB _ _ _ _ _)
instance JC {c:Ln} {d:Rat×Rat} [h:Cir c]:Nn (aW d d*c.2.2):=⟨anh (ju d) (by have:=h.q;grind)⟩
instance ak4 {c:Ln} {d:Rat×Rat} {i j:Nat} [h:Bd c i] [h':Bd d j]:Bd (iV c d) (2*i+5*j+2):=by
 have s1:Bd (c.2.2/aW d d) _:=inferInstance;have a1:Bd (mkR c.1 d.1 (c.2.2/aW d d)) _:=inferInstance;have a2:Bd (mkR c.2.1 d.2 (c.2.2/aW d d)) _:=inferInstance;have b1:=a1.mono (k:=2*i+5*j+2) (by omega);have b2:=a2.mono (k:=2*i+5*j+2) (by omega);have e:∀n,mx n n=n:=λn=>by unfold mx;rw[amW (am2 n)];rfl
 exact(acJ (h:=b1) (h':=b2)).mono (by
  simp only[e];refine fZ (by omega) (fZ (by omega) (fZ (by omega) (fZ (by omega) (fZ (by omega) (by omega))))))
def Tv(d a b a' b':Int):Bool:=bif decide (d>0)then decide (b'<=0)&&decide (a'<=0)else decide (a<=0)&&decide (b<=0)
theorem Wo:∀f p t:Fin 3,uX (cI f.1 p.1) (cI p.1 t.1)=Tv (cI f.1 t.1) (cI f.1 p.1) (cI p.1 t.1) (cI p.1 f.1) (cI t.1 p.1):=by decide+kernel
theorem WW(a b:Int):uX (-a) (-b)=uX a b:=by
 unfold uX;have e1:(-a==0)=(a==0):=apb.2 (by simp only[anV];omega);have e2:(-b==0)=(b==0):=apb.2 (by simp only[anV];omega);have e3:(-a== -b)=(a==b):=apb.2 (by simp only[anV];omega);rw[e1,e2,e3]
namespace RE
theorem Oo(a b x s y t r:RE): -b*x+a*y+(-b*s+a*t)*r= -b*(x+s*r)+a*(y+t*r):=by grind
theorem ais(a b x y u w:RE):(a*a+b*b)*(x-u)= -b*(-b*x+a*y-(-b*u+a*w))+a*(a*x+b*y-(a*u+b*w)):=by grind
theorem ah2(a b x y u w:RE):(a*a+b*b)*(y-w)=a*(-b*x+a*y-(-b*u+a*w))+b*(a*x+b*y-(a*u+b*w)):=by grind
theorem U9(a b c x y u w:RE)(h:a*x+b*y=c)(h':a*u+b*w=c):(a*a+b*b)*(x-u)= -b*(-b*x+a*y-(-b*u+a*w)):=by
 rw[ais a b x y u w,h,h',sub_self,mul_zero,add_zero]
theorem UE(a b c x y u w:RE)(h:a*x+b*y=c)(h':a*u+b*w=c):(a*a+b*b)*(y-w)=a*(-b*x+a*y-(-b*u+a*w)):=by
 rw[ah2 a b x y u w,h,h',sub_self,mul_zero,add_zero]
def tL(l:Ln)(p:Pt):RE:= -of l.2.1*pX p+of l.1*pY p
theorem RB(l:Ln){p:Pt}[_h:Rpd p]:vR (fq l p)=tL l p:=by
 unfold fq tL pX pY;rw[vR_mk];unfold v2;simp only[of_add,of_mul,of_neg];exact Oo _ _ _ _ _ _ _
theorem alo_cmp{l:Ln}{p q:Pt}[Rpd p][Rpd q]:bh (fq l p) (fq l q)=sg (tL l p-tL l q):=by
 rw[cmpT_re (SC (l:=l) (p:=p)).nn (SC (l:=l) (p:=q)).nn,RB,RB]
def onLi(l:Ln)(p:Pt):Prop:=of l.1*pX p+of l.2.1*pY p=of l.2.2
theorem sid_on{l:Ln}{p:Pt}[Rpd p](h:qB l p=0):onLi l p:=by
 rw[C2]at h;exact J3 _ _ (qz.1 h)
theorem Mr{l:Ln}{p q:Pt}(hp:onLi l p)(hq:onLi l q):(of l.1*of l.1+of l.2.1*of l.2.1)*(pX p-pX q)= -of l.2.1*(tL l p-tL l q):=by
 unfold onLi at hp hq;unfold tL;exact U9 _ _ _ _ _ _ _ hp hq
theorem OW{l:Ln}{p q:Pt}(hp:onLi l p)(hq:onLi l q):(of l.1*of l.1+of l.2.1*of l.2.1)*(pY p-pY q)=of l.1*(tL l p-tL l q):=by
 unfold onLi at hp hq;unfold tL;exact UE _ _ _ _ _ _ _ hp hq
theorem pE{a b:Rat}(h:a≠0\/b≠0):0<of a*of a+of b*of b:=by
 have h1:=kR h
 have h2:0<=a*a:=by
  rcases(by grind:0<=a\/0<= -a)with h|h
  ·exact anh h h
  ·have:=anh h h;grind
 have h3:0<=b*b:=by
  rcases(by grind:0<=b\/0<= -b)with h|h
  ·exact anh h h
  ·have:=anh h h;grind
 rw[<-of_mul,<-of_mul,<-of_add];exact fX (by grind)
theorem Ps{q:Rat}(h:q≠0):sg (of q)=1\/sg (of q)= -1:=by
 rw[sg_of];rcases(by grind:q<0\/0<q)with h'|h'
 ·exact .inr (dQ h')
 ·exact .inl (dJ h')
theorem QF{l:Ln}(hl:l.1≠0\/l.2.1≠0):∃s:Int,(s=1\/s= -1)/\∀p q:Pt,Rpd p->Rpd q->onLi l p->onLi l q->a8 p q=s*sg (tL l p-tL l q):=by
 have hn:=pE hl;by_cases hb:l.2.1=0
 ·have ha:l.1≠0:=hl.resolve_right (λh=>h hb);refine⟨sg (of l.1),Ps ha,λp q hp hq op oq=>?_⟩;rw[jP];unfold lxc pR;have e1:=Mr op oq;have e2:=OW op oq;have s1:=congrArg sg e1;have s2:=congrArg sg e2;rw[dp,dA hn,dp,hb,pg,Dv,dm]at s1;rw[dp,dA hn,dp]at s2;rw[show sg (pX p-pX q)=0 by omega];show sg (pY p-pY q)=_;omega
 ·refine⟨-sg (of l.2.1),by rcases Ps hb with h|h<;>rw[h]<;>simp,λp q hp hq op oq=>?_⟩;rw[jP];unfold lxc pR;have e1:=Mr op oq;have e2:=OW op oq;have s1:=congrArg sg e1;have s2:=congrArg sg e2;rw[dp,dA hn,dp,sM]at s1;rw[dp,dA hn,dp]at s2;rcases bi (tL l p-tL l q)with⟨_,h⟩|⟨_,h⟩|⟨_,h⟩<;>rw[h]at s1 s2 ⊢ <;>rcases Ps hb with g|g<;>rw[g]at s1 ⊢
  all_goals
   simp only[aoc,apf,apc,apP,Int.neg_neg]at s1 s2 ⊢;try rw[s1]
   try rw[s2]
   try rfl
theorem btw_tL{l:Ln}(hl:l.1≠0\/l.2.1≠0){F P T:Pt}[hF:Rpd F][hP:Rpd P][hT:Rpd T](oF:onLi l F)(oP:onLi l P)(oT:onLi l T):
  uX (a8 F P) (a8 P T)=Tv (sg (tL l F-tL l T)) (sg (tL l F-tL l P)) (sg (tL l P-tL l T)) (sg (tL l P-tL l F)) (sg (tL l T-tL l P)):=by
 obtain⟨s,hs,h⟩:=QF hl;have mF:tL l F∈[tL l F,tL l P,tL l T]:=by simp
 have mP:tL l P∈[tL l F,tL l P,tL l T]:=by simp
 have mT:tL l T∈[tL l F,tL l P,tL l T]:=by simp
 have e:uX (a8 F P) (a8 P T)=uX (sg (tL l F-tL l P)) (sg (tL l P-tL l T)):=by
  rw[h F P hF hP oF oP,h P T hP hT oP oT];rcases hs with rfl|rfl
  ·rw[aoc,aoc]
  ·rw[show(-1:Int)*sg (tL l F-tL l P)= -sg (tL l F-tL l P) by omega,show(-1:Int)*sg (tL l P-tL l T)= -sg (tL l P-tL l T) by omega,WW]
 have c:=λ{x y:RE} (hx:x∈[tL l F,tL l P,tL l T]) (hy:y∈[tL l F,tL l P,tL l T])=>sH lt_lin sg_cmpO hx hy;rw[e,c mF mP,c mP mT,c mF mT,c mP mF,c mT mP];exact Wo ⟨_,jp lt_lin mF⟩ ⟨_,jp lt_lin mP⟩ ⟨_,jp lt_lin mT⟩
end RE
theorem wP{l:Ln}(hl:l.1≠0\/l.2.1≠0)(v:Rat×Rat):l.1*(cQ l v).1+l.2.1*(cQ l v).2=l.2.2:=by
 have hn:=kR hl
 have he:nV l v*(l.1*l.1+l.2.1*l.2.1)=l.1*v.1+l.2.1*v.2-l.2.2:=by
  unfold nV;exact ani hn
 unfold cQ;simp only;grind
theorem zJ(l:Ln)(v:Rat×Rat): -l.2.1*(cQ l v).1+l.1*(cQ l v).2= -l.2.1*v.1+l.1*v.2:=by
 unfold cQ;simp only;grind
theorem OA{l:Ln}(hl:l.1≠0\/l.2.1≠0)(v:Rat×Rat):qB l (atP (cQ l v))=0:=by
 have h:=wP hl v;unfold qB qC qK atP;simp only;rw[show l.1*(cQ l v).1+l.2.1*(cQ l v).2-l.2.2=0 by grind,show l.1*0+l.2.1*0=(0:Rat) by grind];decide+kernel
def gdC(c:BCU):Prop:=okC 580 c/\gR (dC c) (frC (dC c))=true/\gR (dC c) (toC (dC c))=true
instance (c:BCU):Decidable (gdC c):=by unfold gdC;infer_instance
theorem jD{k:Nat}{x:BP}(h:okP k x):Rpd (dec x):=by
 obtain⟨p,rfl,bp,rp⟩:=bR h;rw[aA];exact rp
theorem abR{c:BCU}(h:gdC c):Crv (dC c):=by
 obtain⟨h1,h2,h3⟩:=h;obtain⟨ar,li,ci,cw,fr,to⟩:=c;have hf:Rpd (frC (dC (ar,li,ci,cw,fr,to))):=jD h1.2.2.1;have ht:Rpd (toC (dC (ar,li,ci,cw,fr,to))):=jD h1.2.2.2;refine⟨hf,ht,λe=>?_⟩;have e:ar=true:=e;subst e;exact⟨(h1.1 rfl).2,RE.ins_on (anV.1 h2),RE.ins_on (anV.1 h3)⟩
theorem ZD{c:BCU}(h:gdC c){p:Pt}(hp:Rpd p):onR (dC c) p=onP (dC c) p:=(Yu (abR h) hp).symm
theorem aeH{c:BCU}(h:gdC c)(ha:c.1=false)(v:Rat×Rat):onP (dC c) (atP (cQ (lnC (dC c)) v))=nU (dC c) (atP v):=by
 obtain⟨h1,h2,h3⟩:=h;obtain⟨ar,li,ci,cw,fr,to⟩:=c;have ha:ar=false:=ha;subst ha;have hl:=(h1.2.1 rfl).2;simp only at hl;have hf:Rpd (dec fr:Pt):=jD h1.2.2.1;have ht:Rpd (dec to:Pt):=jD h1.2.2.2;have o2:RE.onLi (dec li) (dec fr):=RE.sid_on (anV.1 h2);have o3:RE.onLi (dec li) (dec to):=RE.sid_on (anV.1 h3);have s0:=OA hl v;have oP:RE.onLi (dec li) (atP (cQ (dec li) v)):=RE.sid_on s0;have key:=RE.btw_tL hl (F:=dec fr) (P:=atP (cQ (dec li) v)) (T:=dec to) o2 oP o3
 have et:RE.tL (dec li) (atP (cQ (dec li) v))=RE.tL (dec li) (atP v):=by
  unfold RE.tL;rw[RE.pX_at,RE.pY_at,RE.pX_at,RE.pY_at,<-RE.of_neg,<-RE.of_mul,<-RE.of_mul,<-RE.of_add,zJ,RE.of_add,RE.of_mul,RE.of_mul]
 show((qB (dec li) (atP (cQ (dec li) v))==0)&&uX (a8 (dec fr) (atP (cQ (dec li) v))) (a8 (atP (cQ (dec li) v)) (dec to)))=nU _ _;rw[s0,key,et];unfold nU Tv;simp only[dC,lnC,frC,toC,RE.alo_cmp];rfl
theorem acd(c:Ln)(d:Rat×Rat):trP (mkP (mkR 0 d.1 (c.2.2/aW d d)) (mkR 0 d.2 (c.2.2/aW d d))) (ctr c)=iV c d:=by
 unfold iV mkP rdP trP mkR ctr;generalize c.2.2/aW d d=s;cases ga s
 ·simp only[cond_false];by_cases h1:d.1=0<;>by_cases h2:d.2=0
  ·rw[amW h1,amW h2];simp;constructor<;>grind
  ·rw[amW h1,amY h2];simp[h2];constructor<;>grind
  ·rw[amY h1,amW h2];simp[h1];constructor<;>grind
  ·rw[amY h1,amY h2];simp[h1,h2];constructor<;>grind
 ·simp;constructor<;>grind
section
namespace RE
abbrev PE:=RE×RE
def crs(u w:PE):RE:=u.1*w.2-u.2*w.1
def dtE(u w:PE):RE:=u.1*w.1+u.2*w.2
def ysC(k:Nat):Int:=if k=1 then 1 else if k=3 then-1 else 0
def msC(i:Nat):Int:=(i:Int)-3
def crI(k i l j:Nat):Int:=addS (kC (msC i)*ysC l) (-(ysC k*kC (msC j))) (cI (msC i).natAbs (msC j).natAbs)
def EX(k i l j:Nat):Bool:=(k !=0||decide (0<msC i))&&(k !=2||decide (msC i<0))&&(!(k==0||k==2)||(bif l==0||l==2 then(msC i).natAbs==(msC j).natAbs else decide ((msC j).natAbs<(msC i).natAbs)))
def Hj(a b c:Int):Bool:=bif decide (0<=a)then decide (0<=b)&&decide (0<=c)else !(decide (c<0)&&decide (b<0))
theorem Wy:∀kF kT:Fin 4,∀iF iT:Fin 7,(EX kF.1 iF.1 kT.1 iT.1&&EX kT.1 iT.1 kF.1 iF.1&&!(kF.1==kT.1&&iF.1==iT.1))=true->∀kP:Fin 4,∀iP:Fin 7,(EX kF.1 iF.1 kP.1 iP.1&&EX kP.1 iP.1 kF.1 iF.1&&EX kT.1 iT.1 kP.1 iP.1&&EX kP.1 iP.1 kT.1 iT.1)=true->
  decide (ic cI (upA kF.1,iF.1) (upA kP.1,iP.1) (upA kT.1,iT.1)<=0)=Hj (crI kF.1 iF.1 kT.1 iT.1) (crI kF.1 iF.1 kP.1 iP.1) (crI kP.1 iP.1 kT.1 iT.1):=by decide+kernel
theorem Jn{x:RE}(h:x≠0):0<x*x:=by
 rcases nZ x 0 with e|e|e
 ·have:=mul_pos (kj e) (kj e);rw[neg_mul,mul_neg,neg_neg]at this;exact this
 ·exact absurd e h
 ·exact mul_pos e e
theorem FY(i j:Nat):cI i j=kC ((i:Int)-(j:Int)):=by
 unfold cI kC;by_cases h:i<j
 ·rw[anp h,anp (by omega)]
 ·by_cases h':i=j
  ·rw[ank h,anp h',ank (by omega),anp (by omega)]
  ·rw[ank h,ank h',ank (by omega),ank (by omega)]
theorem BH{n:Int}(h:0<n):kC n=1:=by unfold kC;rw[ank (by omega),ank (by omega)]
theorem Cm{n:Int}(h:n<0):kC n= -1:=by unfold kC;rw[anp h]
def rkS(L:List RE)(x:RE):Nat:=rk (λa b:RE=>a<b) (0::L) (x*x)
def mI(L:List RE)(x:RE):Int:=sg x*(rkS L x:Int)
def ixL(L:List RE)(x:RE):Nat:=(mI L x+3).toNat
theorem jJ{L:List RE}{x:RE}(h:x≠0):0<rkS L x:=by
 unfold rkS rk;rw[anp (Jn h)];omega
theorem Jr{L:List RE}{x y:RE}(hx:x*x∈L)(hy:y*y∈L):sg (x*x-y*y)=cI (rkS L x) (rkS L y):=sH (c:=λx y=>sg (x-y)) lt_lin sg_cmpO (ana _ hx) (ana _ hy)
theorem Jm{x:RE}(h:0<x):x≠0:=λe=>by rw[e]at h;exact lt_irrefl _ h
theorem J2{x:RE}(h:x<0):x≠0:=λe=>by rw[e]at h;exact lt_irrefl _ h
theorem Sb(L:List RE)(x:RE):kC (mI L x)=sg x:=by
 unfold mI;rcases bi x with⟨h,e⟩|⟨h,e⟩|⟨h,e⟩<;>rw[e]
 ·have:=jJ (L:=L) (Jm h);exact BH (by omega)
 ·rw[apU];rfl
 ·have:=jJ (L:=L) (J2 h);exact Cm (by omega)
theorem Sn(x y:RE)(h1:x<0)(h2:y<0):x+y<0:=by grind
theorem ae3(a b c d:RE):a*d*(a*d)- -(b*c)* -(b*c)=a*a*(c*c+d*d)-(a*a+b*b)*(c*c):=by grind
theorem sub_zero(x:RE):x-0=x:=by grind
theorem zero_sub(x:RE):0-x= -x:=by grind
theorem acf(x y c:RE):x-c-(y-c)=x-y:=by grind
theorem afN(x y q:RE):x*q-q*y=q*(x-y):=by grind
theorem GF(x y:RE)(h1:x-y=0):x<=y:=by grind
theorem F1(x y:RE)(h1:x-y=0):y<=x:=by grind
theorem gJ(x y:RE)(h1:x-y=0):x=y:=le_antisymm (GF x y h1) (F1 x y h1)
theorem K6(a b c:RE)(h1:a+b=a+c):b<=c:=by grind
theorem Li(a b c:RE)(h1:a+b=a+c):c<=b:=by grind
theorem PR(a b c:RE)(h1:a+b=a+c):b=c:=le_antisymm (K6 a b c h1) (Li a b c h1)
theorem EF(x y:RE):((x-(0))*(x-(y)))+((y-(0))*(x-(y)))+((y*y-(x*x)))=0:=by grind
theorem K9(x y:RE)(h1:x*x=y*y)(h2:0<x)(h3:0<y):x<=y:=λhg=>far (aJ (aJ (mul_pos (aM h2) (aM hg)) (le_of_lt (mul_pos (aM h3) (aM hg)))) (aG (fP h1))) (EF x y)
theorem E0(x y:RE):((x-(0))*(y-(x)))+((y-(0))*(y-(x)))+((x*x-(y*y)))=0:=by grind
theorem KE(x y:RE)(h1:x*x=y*y)(h2:0<x)(h3:0<y):y<=x:=λhg=>far (aJ (aJ (mul_pos (aM h2) (aM hg)) (le_of_lt (mul_pos (aM h3) (aM hg)))) (aG (mp h1))) (E0 x y)
theorem SA(x y:RE)(h1:x*x=y*y)(h2:0<x)(h3:0<y):x=y:=le_antisymm (K9 x y h1 h2 h3) (KE x y h1 h2 h3)
theorem DO(x y:RE):((0-(x))*(x-(y)))+((0-(y))*(x-(y)))+((x*x-(y*y)))=0:=by grind
theorem KU(x y:RE)(h1:x*x=y*y)(h2:x<0)(h3:y<0):x<=y:=λhg=>far (aJ (aJ (mul_pos (aM h2) (aM hg)) (le_of_lt (mul_pos (aM h3) (aM hg)))) (aG (mp h1))) (DO x y)
theorem EZ(x y:RE):((0-(x))*(y-(x)))+((0-(y))*(y-(x)))+((y*y-(x*x)))=0:=by grind
theorem Ky(x y:RE)(h1:x*x=y*y)(h2:x<0)(h3:y<0):y<=x:=λhg=>far (aJ (aJ (mul_pos (aM h2) (aM hg)) (le_of_lt (mul_pos (aM h3) (aM hg)))) (aG (fP h1))) (EZ x y)
theorem LU(x y:RE)(h1:x*x=y*y)(h2:x<0)(h3:y<0):x=y:=le_antisymm (KU x y h1 h2 h3) (Ky x y h1 h2 h3)
theorem LA(x y:RE)(h1:x-y<=0):x<=y:=by grind
theorem Vf(x y:RE)(h1:x<=y):x-y<=0:=by grind
theorem Q1{x y:RE}(hx:0<x)(hy:0<y):sg (x*x-y*y)=sg (x-y):=by
 rw[<-Gw,dp,dA (Nr _ _ hx hy),aoc]
theorem Oq{x y:RE}(hx:x<0)(hy:y<0):sg (x*x-y*y)= -sg (x-y):=by
 rw[<-Gw,dp,ii (Sn _ _ hx hy)];omega
theorem adm{L:List RE}{x y:RE}(hx:x*x∈L)(hy:y*y∈L):kC (mI L x-mI L y)=sg (x-y):=by
 have hc:=Jr hx hy;unfold mI;rcases bi x with⟨h,e⟩|⟨h,e⟩|⟨h,e⟩<;>rcases bi y with⟨h',e'⟩|⟨h',e'⟩|⟨h',e'⟩<;>rw[e,e']
 ·rw[<-Q1 h h',hc,FY,aoc,aoc]
 ·have:=jJ (L:=L) (Jm h);rw[h',sub_zero,e];exact BH (by omega)
 ·have:=jJ (L:=L) (Jm h);rw[dA (PK _ _ h h')];exact BH (by omega)
 ·have:=jJ (L:=L) (Jm h');rw[h,zero_sub,sM,e'];exact Cm (by omega)
 ·rw[h,h',sub_self,dm,apU];rfl
 ·have:=jJ (L:=L) (J2 h');rw[h,zero_sub,sM,e'];exact BH (by omega)
 ·have:=jJ (L:=L) (J2 h);rw[ii (R9 _ _ h h')];exact Cm (by omega)
 ·have:=jJ (L:=L) (J2 h);rw[h',sub_zero,e];exact Cm (by omega)
 ·have h2:=Oq h h';rw[hc,FY]at h2;have:sg (x-y)= -kC ((rkS L x:Int)-(rkS L y:Int)):=by omega
  rw[this];unfold kC;split<;>split<;>(try split)<;>(try split)<;>omega
theorem NZ{L:List RE}{x y:RE}(hx:x*x∈L)(hy:y*y∈L):cI (mI L x).natAbs (mI L y).natAbs=sg (x*x-y*y):=by
 have hc:=Jr hx hy
 have ab:∀z:RE,z≠0->(mI L z).natAbs=rkS L z:=λz hz=>by
  unfold mI;rcases bi z with⟨h,e⟩|⟨h,e⟩|⟨h,e⟩<;>rw[e]
  ·omega
  ·exact absurd h hz
  ·omega
 have ab0:(mI L 0).natAbs=0:=by unfold mI;rw[dm,apU];rfl
 by_cases h:x=0
 ·subst h;by_cases h':y=0
  ·subst h';rw[sub_self,dm];unfold cI;rw[ank (by omega),anp rfl]
  ·have:=jJ (L:=L) h';rw[ab0,ab y h',mul_zero,zero_sub,sM,dA (Jn h')];unfold cI;rw[anp (by omega)]
 ·by_cases h':y=0
  ·subst h';have:=jJ (L:=L) h;rw[ab0,ab x h,mul_zero,sub_zero,dA (Jn h)];unfold cI;rw[ank (by omega),ank (by omega)]
  ·rw[ab x h,ab y h',hc]
theorem abN{L:List RE}{x:RE}(hL:L.length=3)(hx:x*x∈L):rkS L x<=3:=by
 have:=jp lt_lin (ana (0:RE) hx);rw[anb,hL]at this;unfold rkS;omega
theorem I9{L:List RE}{x:RE}(hL:L.length=3)(hx:x*x∈L): -3<=mI L x/\mI L x<=3:=by
 have h1:=abN hL hx;have h2:=Yd x;unfold mI;rcases(by omega:sg x= -1\/sg x=0\/sg x=1)with e|e|e<;>rw[e]<;>omega
theorem Iy{L:List RE}{x:RE}(hL:L.length=3)(hx:x*x∈L):msC (ixL L x)=mI L x:=by
 have:=I9 hL hx;unfold msC ixL;omega
theorem PH{L:List RE}{x:RE}(hL:L.length=3)(hx:x*x∈L):ixL L x<7:=by
 have:=I9 hL hx;unfold ixL;omega
theorem Np{L:List RE}{x y:RE}(hL:L.length=3)(hx:x*x∈L)(hy:y*y∈L):cI (ixL L x) (ixL L y)=sg (x-y):=by
 have h1:=I9 hL hx;have h2:=I9 hL hy;rw[FY,<-adm hx hy];unfold ixL;congr 1;omega
theorem xQ(u v:RE):ysC (cls u v)=sg v:=by
 unfold cls ysC;rcases bi v with⟨_,h⟩|⟨_,h⟩|⟨_,h⟩<;>rcases bi u with⟨_,h'⟩|⟨_,h'⟩|⟨_,h'⟩<;>rw[h,h']<;>rfl
section
variable {u w:PE} {Q:RE} {L:List RE}
theorem HB(hQ:0<Q)(hu:u.1*u.1+u.2*u.2=Q)(hw:w.1*w.1+w.2*w.2=Q)(hL:L.length=3)(mu:u.1*u.1∈L)(mw:w.1*w.1∈L):sg (crs u w)=crI (cls u.1 u.2) (ixL L u.1) (cls w.1 w.2) (ixL L w.1):=by
 unfold crs crI;show sg (u.1*w.2+ -(u.2*w.1))=_;rw[HJ,ae3,hu,hw,afN,dp Q,dA hQ,aoc,sM,dp u.1,dp u.2,Iy hL mu,Iy hL mw,NZ mu mw,Sb,Sb,xQ,xQ]
theorem rJ(hQ:0<Q)(hu:u.1*u.1+u.2*u.2=Q)(hw:w.1*w.1+w.2*w.2=Q)(hL:L.length=3)(mu:u.1*u.1∈L)(mw:w.1*w.1∈L):EX (cls u.1 u.2) (ixL L u.1) (cls w.1 w.2) (ixL L w.1)=true:=by
 have cb:=iv u.1 u.2
 have y0:∀a b:RE,(cls a b==0||cls a b==2)=true↔b=0:=λa b=>by
  have:=xQ a b;have hb:=iv a b;rw[<-qz,<-this];unfold ysC;constructor
  ·intro h;simp at h;rcases h with h|h<;>rw[h]<;>rfl
  ·intro h;rcases(by omega:cls a b=0\/cls a b=1\/cls a b=2\/cls a b=3)with e|e|e|e<;>rw[e]at h ⊢ <;>simp at h ⊢
 unfold EX;rw[Iy hL mu,Iy hL mw,am0,am0];have ms:=Sb L u.1;refine⟨⟨?_,?_⟩,?_⟩
 ·by_cases e:cls u.1 u.2=0
  ·have h:=(Ka.1 e).2;rw[dA h]at ms
   have:0<mI L u.1:=by
    unfold kC at ms;split at ms
    ·cases ms
    ·split at ms
     ·cases ms
     ·omega
   simp[this]
  ·simp[e]
 ·by_cases e:cls u.1 u.2=2
  ·have h:=J5.1 e;rw[ii (vg hQ hu h.1 h.2)]at ms
   have:mI L u.1<0:=by
    unfold kC at ms;split at ms
    ·omega
    ·split at ms<;>cases ms
   simp[this]
  ·simp[e]
 ·cases hc:(cls u.1 u.2==0||cls u.1 u.2==2)
  ·rfl
  ·have hv:=(y0 _ _).1 hc;have hu':u.1*u.1=Q:=by rw[hv,mul_zero,add_zero]at hu;exact hu
   have ha:=NZ mu mw;cases hd:(cls w.1 w.2==0||cls w.1 w.2==2)
   ·have hz:w.2≠0:=λe=>by rw[(y0 _ _).2 e]at hd;cases hd
    have hlt:w.1*w.1<u.1*u.1:=by
     rw[hu',<-hw];have:=ln (w.1*w.1) (Jn hz);rw[zero_add,add_comm]at this;exact this
    rw[dA (aM hlt)]at ha
    have:(mI L w.1).natAbs<(mI L u.1).natAbs:=by
     unfold cI at ha;split at ha
     ·cases ha
     ·split at ha
      ·cases ha
      ·omega
    simp[this]
   ·have hz:=(y0 _ _).1 hd;rw[hz,mul_zero,add_zero]at hw;rw[hu',hw,sub_self,dm]at ha
    have:(mI L u.1).natAbs=(mI L w.1).natAbs:=by
     unfold cI at ha;split at ha
     ·cases ha
     ·split at ha
      ·assumption
      ·cases ha
    simp[this]
end
def frm(c:Ln)(p:PE):PE:=(p.1-of c.1,p.2-of c.2.1)
def gQ(u w z:PE):Bool:=Hj (sg (crs u w)) (sg (crs u z)) (sg (crs z w))
theorem xm{ci:Ln}{F P T:Pt}[Rpd F][Rpd P][Rpd T](hQ:0<ci.2.2)(hF:onCi ci F)(hP:onCi ci P)(hT:onCi ci T)(hne:pR F≠pR T):
  decide (ic bh (ptd ci F) (ptd ci P) (ptd ci T)<=0)=gQ (frm ci (pR F)) (frm ci (pR T)) (frm ci (pR P)):=by
 have hq:0<of ci.2.2:=fX hQ;have hL:[(frm ci (pR F)).1*(frm ci (pR F)).1,(frm ci (pR P)).1*(frm ci (pR P)).1,(frm ci (pR T)).1*(frm ci (pR T)).1].length=3:=rfl;revert hL;generalize hL0:[(frm ci (pR F)).1*(frm ci (pR F)).1,(frm ci (pR P)).1*(frm ci (pR P)).1,(frm ci (pR T)).1*(frm ci (pR T)).1]=L;intro hL;have mF:(frm ci (pR F)).1*(frm ci (pR F)).1∈L:=by rw[<-hL0];simp
 have mP:(frm ci (pR P)).1*(frm ci (pR P)).1∈L:=by rw[<-hL0];simp
 have mT:(frm ci (pR T)).1*(frm ci (pR T)).1∈L:=by rw[<-hL0];simp
 have cF:=iv (frm ci (pR F)).1 (frm ci (pR F)).2;have cP:=iv (frm ci (pR P)).1 (frm ci (pR P)).2;have cT:=iv (frm ci (pR T)).1 (frm ci (pR T)).2;have hF:(frm ci (pR F)).1*(frm ci (pR F)).1+(frm ci (pR F)).2*(frm ci (pR F)).2=of ci.2.2:=hF;have hP:(frm ci (pR P)).1*(frm ci (pR P)).1+(frm ci (pR P)).2*(frm ci (pR P)).2=of ci.2.2:=hP;have hT:(frm ci (pR T)).1*(frm ci (pR T)).1+(frm ci (pR T)).2*(frm ci (pR T)).2=of ci.2.2:=hT
 have hd:(!(cls (frm ci (pR F)).1 (frm ci (pR F)).2==cls (frm ci (pR T)).1 (frm ci (pR T)).2&&ixL L (frm ci (pR F)).1==ixL L (frm ci (pR T)).1))=true:=by
  cases h1:cls (frm ci (pR F)).1 (frm ci (pR F)).2==cls (frm ci (pR T)).1 (frm ci (pR T)).2
  ·rfl
  ·cases h2:ixL L (frm ci (pR F)).1==ixL L (frm ci (pR T)).1
   ·rfl
   ·exfalso;have h1:=anV.1 h1;have h2:=anV.1 h2;have h3:=Np hL mF mT;rw[h2]at h3;have e0:∀n,cI n n=0:=λn=>by unfold cI;rw[ank (by omega),anp rfl]
    rw[e0]at h3;have ex:(frm ci (pR F)).1=(frm ci (pR T)).1:=gJ _ _ (qz.1 h3.symm);have ey:sg (frm ci (pR F)).2=sg (frm ci (pR T)).2:=by rw[<-xQ (frm ci (pR F)).1,<-xQ (frm ci (pR T)).1,h1]
    have es:(frm ci (pR F)).2*(frm ci (pR F)).2=(frm ci (pR T)).2*(frm ci (pR T)).2:=by
     rw[<-hT,ex]at hF;exact PR _ _ _ hF
    have e2:(frm ci (pR F)).2=(frm ci (pR T)).2:=by
     rcases bi (frm ci (pR F)).2 with⟨g,e⟩|⟨g,e⟩|⟨g,e⟩
     ·rw[e]at ey;exact SA _ _ es g (Co.1 ey.symm)
     ·rw[e]at ey;rw[g,qz.1 ey.symm]
     ·rw[e]at ey;exact LU _ _ es g (adq.1 ey.symm)
    exact hne (anx (fR _ _ _ ex) (fR _ _ _ e2))
 have a:=Wy ⟨_,cF⟩ ⟨_,cT⟩ ⟨_,PH hL mF⟩ ⟨_,PH hL mT⟩ (by
  simp only;rw[rJ hq hF hT hL mF mT,rJ hq hT hF hL mT mF,hd];rfl) ⟨_,cP⟩ ⟨_,PH hL mP⟩ (by
  simp only;rw[rJ hq hF hP hL mF mP,rJ hq hP hF hL mP mF,rJ hq hT hP hL mT mP,rJ hq hP hT hL mP mT];rfl)
 simp only at a;unfold gQ;rw[HB hq hF hT hL mF mT,HB hq hF hP hL mF mP,HB hq hP hT hL mP mT,<-a]
 have cx:∀{p q:Pt} [Rpd p] [Rpd q],(frm ci (pR p)).1*(frm ci (pR p)).1∈L->(frm ci (pR q)).1*(frm ci (pR q)).1∈L->bh (xP p) (xP q)=cI (ixL L (frm ci (pR p)).1) (ixL L (frm ci (pR q)).1):=λ{p q} _ _ hp hq'=>by
  rw[cmpT_re mL mL,tY,tY,Np hL hp hq',<-acf _ _ (of ci.1)];rfl
 unfold ptd;rw[iJ,iJ,iJ];exact congrArg (λn:Int=>decide (n<=0)) (iB (cx mP mF) (cx mT mF) (cx mP mT))
def fV(c:Ln)(p:PE):Prop:=(frm c p).1*(frm c p).1+(frm c p).2*(frm c p).2=of c.2.2
def eG(l:Ln)(p:PE):Prop:=of l.1*p.1+of l.2.1*p.2=of l.2.2
def tE(l:Ln)(p:PE):RE:= -of l.2.1*p.1+of l.1*p.2
def arcE(c:Ln)(F T p:PE):Prop:=fV c p/\gQ (frm c F) (frm c T) (frm c p)=true
def btE(a b x:RE):Prop:=(a<=x/\x<=b)\/(b<=x/\x<=a)
def segE(l:Ln)(F T p:PE):Prop:=eG l p/\btE (tE l F) (tE l T) (tE l p)
def onE(c:Cv)(p:PE):Prop:=if c.1=true then arcE (ciC c) (pR (ccF c)) (pR (ccT c)) p else segE (lnC c) (pR (frC c)) (pR (toC c)) p
structure GdE (c:Cv):Prop where
 f:Rpd (frC c)
 t:Rpd (toC c)
 ne:pR (frC c)≠pR (toC c)
 q:c.1=true->0<(ciC c).2.2/\onCi (ciC c) (frC c)/\onCi (ciC c) (toC c)
 l:c.1=false->((lnC c).1≠0\/(lnC c).2.1≠0)/\onLi (lnC c) (frC c)/\onLi (lnC c) (toC c)
theorem tK{c:Ln}{p:Pt}[Rpd p]:(pV c p==0)=true↔fV c (pR p):=by
 rw[anV];refine⟨λh=>ins_on h,λh=>?_⟩;rw[Bs];have:(pX p-of c.1)*(pX p-of c.1)+(pY p-of c.2.1)*(pY p-of c.2.1)=of c.2.2:=h;rw[this,mD,dm];rfl
theorem CW{l:Ln}{p:Pt}[Rpd p]:(qB l p==0)=true↔eG l (pR p):=by
 rw[anV];refine⟨λh=>sid_on h,λh=>?_⟩;rw[C2];have:of l.1*pX p+of l.2.1*pY p=of l.2.2:=h;rw[this,mD,dm]
theorem BO(a b x:RE):Tv (sg (a-b)) (sg (a-x)) (sg (x-b)) (sg (x-a)) (sg (b-x))=true↔btE a b x:=by
 have h1:∀y z:RE,sg (y-z)<=0↔y<=z:=λy z=>by
  rw[Oy];exact⟨λh=>LA _ _ h,λh=>Vf _ _ h⟩
 unfold Tv btE;cases h:decide (sg (a-b)>0)
 ·have h2:a<=b:=(h1 _ _).1 (by have:=anP h;omega);simp only[cond_false,am0,ao9,h1];exact⟨λh=>.inl h,λh'=>h'.elim id (λg=>⟨le_trans h2 g.1,le_trans g.2 h2⟩)⟩
 ·have h2:b<=a:=by
   have:=amZ h;rcases lt_or_ge a b with g|g
   ·rw[ii (tT _ _ g)]at this;omega
   ·exact g
  simp only[cond_true,am0,ao9,h1];exact⟨λh=>.inr ⟨h.1,h.2⟩,λh'=>h'.elim (λg=>⟨le_trans h2 g.1,le_trans g.2 h2⟩) (λg=>⟨g.1,g.2⟩)⟩
theorem jS{c:Cv}(h:GdE c){p:Pt}[hp:Rpd p]:onP c p=true↔onE c (pR p):=by
 have hf:=h.f;have ht:=h.t;obtain⟨ar,li,ci,cw,fr,to⟩:=c;have hf:Rpd fr:=hf;have ht:Rpd to:=ht;unfold onP onE;rw[am0];cases ar
 ·obtain⟨l1,l2,l3⟩:=h.l rfl;rw[ank (by intro h;cases h)];show(qB li p==0)=true/\uX (a8 fr p) (a8 p to)=true↔eG li (pR p)/\btE (tL li fr) (tL li to) (tL li p);rw[CW];constructor
  ·intro ⟨h1,h2⟩;refine⟨h1,?_⟩;rw[btw_tL (F:=fr) (P:=p) (T:=to) l1 l2 (show onLi li p from h1) l3]at h2;exact(BO _ _ _).1 h2
  ·intro ⟨h1,h2⟩;refine⟨h1,?_⟩;rw[btw_tL (F:=fr) (P:=p) (T:=to) l1 l2 (show onLi li p from h1) l3];exact(BO _ _ _).2 h2
 ·obtain⟨q1,q2,q3⟩:=h.q rfl;have hne:pR fr≠pR to:=h.ne;rw[anp rfl];show(pV ci p==0)=true/\decide (ic bh (ptd ci (ccF (true,li,ci,cw,fr,to))) (ptd ci p) (ptd ci (ccT (true,li,ci,cw,fr,to)))<=0)=true↔fV ci (pR p)/\gQ _ _ _=true;rw[tK];cases cw
  ·constructor
   ·intro ⟨h1,h2⟩;refine⟨h1,?_⟩;have:=xm (ci:=ci) (F:=fr) (P:=p) (T:=to) q1 q2 h1 q3 hne;exact this▸h2
   ·intro ⟨h1,h2⟩;refine⟨h1,?_⟩;have:=xm (ci:=ci) (F:=fr) (P:=p) (T:=to) q1 q2 h1 q3 hne;exact this.trans h2
  ·constructor
   ·intro ⟨h1,h2⟩;refine⟨h1,?_⟩;have:=xm (ci:=ci) (F:=to) (P:=p) (T:=fr) q1 q3 h1 q2 (aoy hne);exact this▸h2
   ·intro ⟨h1,h2⟩;refine⟨h1,?_⟩;have:=xm (ci:=ci) (F:=to) (P:=p) (T:=fr) q1 q3 h1 q2 (aoy hne);exact this.trans h2
end RE
end
section
namespace RE
def dsE(p v:PE):RE:=(p.1-v.1)*(p.1-v.1)+(p.2-v.2)*(p.2-v.2)
def Mn(S:PE->Prop)(v:PE)(m:RE):Prop:=(∃p,S p/\dsE p v=m)/\∀p,S p->m<=dsE p v
open Classical in
def mnE(a b:RE):RE:=if b<a then b else a
theorem CC{S:PE->Prop}{v F T:PE}(hF:S F)(hT:S T)(h:∀p,S p->dsE F v<=dsE p v\/dsE T v<=dsE p v):Mn S v (mnE (dsE F v) (dsE T v)):=by
 unfold mnE;by_cases e:dsE T v<dsE F v
 ·rw[anp e];exact⟨⟨T,hT,rfl⟩,λp hp=>(h p hp).elim (λg=>le_trans (le_of_lt e) g) id⟩
 ·rw[ank e];exact⟨⟨F,hF,rfl⟩,λp hp=>(h p hp).elim id (λg=>le_trans e g)⟩
theorem acv(a b _c p q v w:RE):(a*a+b*b)*((p-v)*(p-v)+(q-w)*(q-w))=(a*v+b*w-(a*p+b*q))*(a*v+b*w-(a*p+b*q))+(-b*p+a*q-(-b*v+a*w))*(-b*p+a*q-(-b*v+a*w)):=by grind
theorem UH(a b e k v w:RE):(v-a*(e*k)-v)*(v-a*(e*k)-v)+(w-b*(e*k)-w)*(w-b*(e*k)-w)=e*e*k*((a*a+b*b)*k):=by grind
theorem wP(a b c k v w:RE):a*(v-a*((a*v+b*w-c)*k))+b*(w-b*((a*v+b*w-c)*k))=a*v+b*w-(a*v+b*w-c)*((a*a+b*b)*k):=by grind
theorem abB(a b x v w:RE): -b*(v-a*x)+a*(w-b*x)= -b*v+a*w:=by grind
theorem LK(x c:RE):x-(x-c)=c:=by grind
theorem T5(x y:RE):((x*x-(y*y)))+2*((x-(0))*(y-(x)))+((y-(x))*(y-(x)))=0:=by grind
theorem agR(x y:RE)(h1:0<=x)(h2:x<=y):x*x<=y*y:=λhg=>far (aJ (aJ (aM hg) (ja (by decide+kernel:(0:Rat)<2) (aH (aG h1) (aG h2)))) (aH (aG h2) (aG h2))) (T5 x y)
theorem Uw(x y:RE):((x*x-(y*y)))+((x-(y))*(x-(y)))+2*((x-(y))*(0-(x)))=0:=by grind
theorem afC(x y:RE)(h1:y<=x)(h2:x<=0):x*x<=y*y:=λhg=>far (aJ (aJ (aM hg) (aH (aG h1) (aG h1))) (ja (by decide+kernel:(0:Rat)<2) (aH (aG h1) (aG h2)))) (Uw x y)
theorem Sk(n x y s t e:RE):((n-(0))*(x-(y)))+((e+s-(n*x)))+((n*y-(e+t)))+((t-(s)))=0:=by grind
theorem abI(n x y s t e:RE)(h1:0<n)(h2:n*x=e+s)(h3:n*y=e+t)(h4:s<=t):x<=y:=λhg=>far (aJ (aJ (aJ (mul_pos (aM h1) (aM hg)) (aG (fP h2))) (aG (mp h3))) (aG h4)) (Sk n x y s t e)
theorem alJ(a v x:RE)(_h1:v<a)(h2:a<=x):a-v<=x-v:=by grind
theorem ahZ(a v:RE)(h1:v<a):0<=a-v:=by grind
theorem al1(a v x:RE)(_h1:a<v)(h2:x<=a):x-v<=a-v:=by grind
theorem aiL(a v:RE)(h1:a<v):a-v<=0:=by grind
theorem asc(n k x:RE):n*x*k=n*k*x:=by grind
theorem Ls(e t:RE)(h1:0<=t):e<=e+t:=by grind
theorem GH(x y k:RE):((x*k-(y*k)))+((y-(x))*(k-(0)))=0:=by grind
theorem MR(x y k:RE)(h1:x<=y)(h2:0<k):x*k<=y*k:=λhg=>far (aJ (aM hg) (aH (aG h1) (le_of_lt (aM h2)))) (GH x y k)
theorem yU{n:RE}(h:0<n):∃k,0<k/\n*k=1:=by
 obtain⟨k,hk⟩:=GE n h;refine⟨k,?_,hk⟩;have:=dp n k;rw[hk,dA zero_lt_one,dA h,aoc]at this;exact Co.1 this.symm
def exE(l:Ln)(v:PE):RE:=of l.1*v.1+of l.2.1*v.2-of l.2.2
def nrE(l:Ln):RE:=of l.1*of l.1+of l.2.1*of l.2.1
theorem yw{l:Ln}{p v:PE}(h:eG l p):nrE l*dsE p v=exE l v*exE l v+(tE l p-tE l v)*(tE l p-tE l v):=by
 unfold nrE dsE exE tE;rw[acv _ _ (of l.2.2),h]
theorem tW{l:Ln}{F T v:PE}(_hn:0<nrE l)(hb:btE (tE l F) (tE l T) (tE l v)){k:RE}(hk:0<k)(ek:nrE l*k=1):Mn (segE l F T) v (exE l v*exE l v*k):=by
 refine⟨⟨(v.1-of l.1*(exE l v*k),v.2-of l.2.1*(exE l v*k)),⟨?_,?_⟩,?_⟩,λp hp=>?_⟩
 ·show of l.1*(v.1-of l.1*(exE l v*k))+of l.2.1*(v.2-of l.2.1*(exE l v*k))=of l.2.2;unfold exE;rw[wP];show _-_*(nrE l*k)=_;rw[ek,mul_one,LK]
 ·show btE _ _ (-of l.2.1*(v.1-of l.1*(exE l v*k))+of l.1*(v.2-of l.2.1*(exE l v*k)));rw[abB];exact hb
 ·show(v.1-of l.1*(exE l v*k)-v.1)*(v.1-of l.1*(exE l v*k)-v.1)+(v.2-of l.2.1*(exE l v*k)-v.2)*(v.2-of l.2.1*(exE l v*k)-v.2)=_;rw[UH];show _*(nrE l*k)=_;rw[ek,mul_one]
 ·have h1:=yw (v:=v) hp.1;have h2:=MR _ _ k (Ls (exE l v*exE l v) ((tE l p-tE l v)*(tE l p-tE l v)) (cZ _)) hk;rw[<-h1,asc (nrE l),ek,one_mul]at h2;exact h2
theorem xB{l:Ln}{F T v:PE}(hn:0<nrE l)(hF:eG l F)(hT:eG l T)(hb:¬btE (tE l F) (tE l T) (tE l v)):Mn (segE l F T) v (mnE (dsE F v) (dsE T v)):=by
 have le_of:=λ(p q:PE) (hp:eG l p) (hq:eG l q) (h:(tE l p-tE l v)*(tE l p-tE l v)<=(tE l q-tE l v)*(tE l q-tE l v))=>abI _ _ _ _ _ _ hn (yw (v:=v) hp) (yw (v:=v) hq) h;have nn:∀p q:PE,eG l p->eG l q->tE l v<tE l p->tE l p<=tE l q->dsE p v<=dsE q v:=λp q hp hq h1 h2=>le_of p q hp hq (agR _ _ (ahZ _ _ h1) (alJ _ _ _ h1 h2));have np:∀p q:PE,eG l p->eG l q->tE l p<tE l v->tE l q<=tE l p->dsE p v<=dsE q v:=λp q hp hq h1 h2=>le_of p q hp hq (afC _ _ (al1 _ _ _ h1 h2) (aiL _ _ h1));have sF:segE l F T F:=⟨hF,(lt_or_ge (tE l F) (tE l T)).elim (λh=>.inl ⟨le_refl _,le_of_lt h⟩) (λh=>.inr ⟨h,le_refl _⟩)⟩
 have sT:segE l F T T:=⟨hT,(lt_or_ge (tE l F) (tE l T)).elim (λh=>.inl ⟨le_of_lt h,le_refl _⟩) (λh=>.inr ⟨le_refl _,h⟩)⟩
 refine CC sF sT λp ⟨hp,hbp⟩=>?_;rcases lt_or_ge (tE l v) (tE l F)with g|g
 ·rcases lt_or_ge (tE l v) (tE l T)with g'|g'
  ·rcases hbp with⟨h1,h2⟩|⟨h1,h2⟩
   ·exact .inl (nn F p hF hp g h1)
   ·exact .inr (nn T p hT hp g' h1)
  ·exact absurd (.inr ⟨g',le_of_lt g⟩) hb
 ·rcases lt_or_ge (tE l T) (tE l v)with g'|g'
  ·rcases lt_or_ge (tE l F) (tE l v)with g2|g2
   ·rcases hbp with⟨h1,h2⟩|⟨h1,h2⟩
    ·exact .inr (np T p hT hp g' h2)
    ·exact .inl (np F p hF hp g2 h2)
   ·exact absurd (.inr ⟨le_of_lt g',g2⟩) hb
  ·exact absurd (.inl ⟨g,g'⟩) hb
theorem akr(a b x y d e q:RE):(a*y-b*x)*((d*b-e*a)+(d*y-e*x))=((a*d+b*e)-(x*d+y*e))*(q+(a*x+b*y))+(a*d+b*e)*(x*x+y*y-q)-(x*d+y*e)*(a*a+b*b-q):=by grind
theorem plk(a b x y z t d e:RE):(a*y-b*x)*(d*t-e*z)=(z*y-t*x)*(d*b-e*a)+(a*t-b*z)*(d*y-e*x):=by grind
theorem VI(x k m:RE):x+k*0-m*0=x:=by grind
theorem F7(x y:RE)(h1:0<=x)(h2:0<=y):0<=x+y:=by grind
theorem aey(x y:RE)(h1:x<=0)(h2:y<=0):x+y<=0:=by grind
theorem RU(x:RE)(h1:0<=x): -x<=0:=by grind
theorem VD(x:RE)(h1:x<=0):0<= -x:=by grind
theorem DN(x k y:RE):((k-(0))*(0-(x)))+((x*k-(y)))+((y-(0)))=0:=by grind
theorem LF(x k y:RE)(h1:x*k=y)(h2:0<=y)(h3:0<k):0<=x:=λhg=>far (aJ (aJ (mul_pos (aM h3) (aM hg)) (aG (mp h1))) (aG h2)) (DN x k y)
theorem KO(x y:RE)(h1:0<=x-y):y<=x:=by grind
theorem acH(a b x y:RE):(a+x)*(a+x)+(b+y)*(b+y)=a*a+b*b+(x*x+y*y)+((a*x+b*y)+(a*x+b*y)):=by grind
theorem TF(a b x y:RE):(a-x)*(a-x)+(b-y)*(b-y)=a*a+b*b+(x*x+y*y)-((a*x+b*y)+(a*x+b*y)):=by grind
theorem alg(q s t:RE)(h1:t=q+q+(s+s))(h2:0<=t):0<=q+s:=by grind
theorem alM(q s t:RE)(h1:t=q+q+(s+s))(h2:q+s=0):t<=0:=by grind
theorem ala(q s t:RE)(h1:t=q+q+(s+s))(h2:q+s=0):0<=t:=by grind
theorem q_z(q s t:RE)(h1:t=q+q+(s+s))(h2:q+s=0):t=0:=le_antisymm (alM q s t h1 h2) (ala q s t h1 h2)
theorem U7(x y:RE)(h1:x+y=0)(_h2:0<=x)(h3:0<=y):x<=0:=by grind
theorem Pw(x y:RE)(h1:x+y=0)(h2:0<=x)(_h3:0<=y):y<=0:=by grind
theorem ak8(a x:RE)(h1:a+x=0):x<= -a:=by grind
theorem alt(a x:RE)(h1:a+x=0): -a<=x:=by grind
theorem opp(a x:RE)(h1:a+x=0):x= -a:=le_antisymm (ak8 a x h1) (alt a x h1)
theorem kD{x y:RE}(h:x*x+y*y=0):x=0/\y=0:=⟨wN (U7 _ _ h (cZ x) (cZ y)),wN (Pw _ _ h (cZ x) (cZ y))⟩
theorem gl{u z d:PE}{Q:RE}(hu:dtE u u=Q)(hz:dtE z z=Q):crs u z*(crs d u+crs d z)=(dtE u d-dtE z d)*(Q+dtE u z):=by
 unfold dtE at hu hz;unfold crs dtE;rw[akr _ _ _ _ _ _ Q,hu,hz,sub_self,VI]
theorem UG(a b c d:RE):a*d-b*c= -(c*b-d*a):=by grind
theorem aeO(u w:PE):crs u w= -crs w u:=UG _ _ _ _
theorem alx(u w z d:PE):crs u w*crs d z=crs z w*crs d u+crs u z*crs d w:=plk _ _ _ _ _ _ _ _
theorem zN{u z:PE}{Q:RE}(hu:dtE u u=Q)(hz:dtE z z=Q):0<Q+dtE u z\/z=(-u.1,-u.2):=by
 have h1:(u.1+z.1)*(u.1+z.1)+(u.2+z.2)*(u.2+z.2)=Q+Q+(dtE u z+dtE u z):=by
  rw[acH];unfold dtE at hu hz ⊢;rw[hu,hz]
 have nn:∀x y:RE,0<=x*x+y*y:=λx y=>F7 _ _ (cZ x) (cZ y);rcases cO (alg _ _ _ h1 (nn _ _))with h|h
 ·exact .inl h
 ·have h2:=q_z _ _ _ h1 h;obtain⟨a,b⟩:=kD h2;exact .inr (anx (opp _ _ a) (opp _ _ b))
theorem Iz{u z d:PE}{Q:RE}(hu:dtE u u=Q)(hz:dtE z z=Q)(hk:0<Q+dtE u z)(h:0<=crs u z*(crs d u+crs d z)):dtE z d<=dtE u d:=by
 rw[gl hu hz]at h;exact KO _ _ (LF _ _ _ rfl h hk)
theorem Db(a b c d:RE):(a*d-b*c)*(a*d-b*c)+(a*c+b*d)*(a*c+b*d)=(a*a+b*b)*(c*c+d*d):=by grind
theorem ae4(s q:RE):(s+q)*(s-q)=s*s-q*q:=by grind
theorem akp(q s t:RE)(h1:t=q+q-(s+s))(h2:s-q=0):t<=0:=by grind
theorem ag3(q s t:RE)(h1:t=q+q-(s+s))(h2:s-q=0):0<=t:=by grind
theorem alR(q s t:RE)(h1:t=q+q-(s+s))(h2:s-q=0):t=0:=le_antisymm (akp q s t h1 h2) (ag3 q s t h1 h2)
theorem Tz(s q:RE)(h1:s+q=0):q+s<=0:=by grind
theorem Nb(s q:RE)(h1:s+q=0):0<=q+s:=by grind
theorem VA(s q:RE)(h1:s+q=0):q+s=0:=le_antisymm (Tz s q h1) (Nb s q h1)
theorem V1{x y:RE}(h:x*y=0):x=0\/y=0:=by
 have:=dp x y;rw[h,dm]at this;rcases Int.mul_eq_zero.1 this.symm with e|e
 ·exact .inl (qz.1 e)
 ·exact .inr (qz.1 e)
theorem ale{u w:PE}{Q:RE}(hu:dtE u u=Q)(hw:dtE w w=Q)(h:crs u w=0):u=w\/w=(-u.1,-u.2):=by
 have h1:crs u w*crs u w+dtE u w*dtE u w=dtE u u*dtE w w:=Db _ _ _ _;rw[h,hu,hw,mul_zero,zero_add]at h1;have h2:(dtE u w+Q)*(dtE u w-Q)=0:=by rw[ae4,h1,sub_self]
 rcases V1 h2 with e|e
 ·right;rcases zN hu hw with g|g
  ·rw[VA _ _ e]at g;exact absurd g (lt_irrefl _)
  ·exact g
 ·left
  have h3:(u.1-w.1)*(u.1-w.1)+(u.2-w.2)*(u.2-w.2)=Q+Q-(dtE u w+dtE u w):=by
   rw[TF];unfold dtE at hu hw ⊢;rw[hu,hw]
  obtain⟨a,b⟩:=kD (alR _ _ _ h3 e);exact anx (gJ _ _ a) (gJ _ _ b)
theorem EQ{u w z:PE}(h:0<=crs u w):gQ u w z=true↔0<=crs u z/\0<=crs z w:=by
 unfold gQ Hj;rw[amW (Pf.2 h),cond_true,am0,ao9,ao9,Pf,Pf]
theorem GR{x:RE}:sg x<0↔x<0:=by
 rcases bi x with⟨h,e⟩|⟨h,e⟩|⟨h,e⟩<;>rw[e]
 ·exact⟨λh'=>absurd h' (by decide),λh'=>absurd (c7 h h') (lt_irrefl _)⟩
 ·rw[h];exact⟨λh'=>absurd h' (by decide),λh'=>absurd h' (lt_irrefl _)⟩
 ·exact⟨λ_=>h,λ_=>by decide⟩
theorem D1{u w z:PE}(h:crs u w<0):gQ u w z=true↔¬(crs z w<0/\crs u z<0):=by
 unfold gQ Hj;rw[amY (by have:=GR.2 h;omega),cond_false];simp only[aoR,Bool.and_eq_false_iff,decide_eq_false_iff_not,GR]
 exact⟨λg g'=>g.elim (λk=>k g'.1) (λk=>k g'.2),λg=>by
  by_cases e:crs z w<0
  ·exact .inr (λe'=>g ⟨e,e'⟩)
  ·exact .inl e⟩
theorem MU(d e a b:RE):d* -b-e* -a= -(d*b-e*a):=by grind
theorem R5(a b c d:RE): -a*d- -b*c= -(a*d-b*c):=by grind
theorem abY(x:RE)(h1:0<= -x)(_h2:0<=x):x<=0:=by grind
theorem ad2(x:RE)(_h1:0<= -x)(h2:0<=x):0<=x:=by grind
theorem Yl(x:RE)(h1:0<= -x)(h2:0<=x):x=0:=le_antisymm (abY x h1 h2) (ad2 x h1 h2)
theorem al0(bu bz bw:RE)(h1:bu+bz<0)(h2:0<bw+bz)(h3:0<bu):0<bw:=by grind
theorem amq(bu bz:RE)(h1:bu+bz<0)(h2:0<bu):bz<0:=by grind
theorem ak2(bu bz bw:RE)(h1:bu+bz<0)(h2:0<bw+bz)(h3:bw<0):bu<0:=by grind
theorem ak1(bw bz:RE)(h1:0<bw+bz)(h2:bw<0):0<bz:=by grind
theorem k_e(k bz s bu t bw:RE)(h1:k*bz=s*bu+t*bw)(h2:0<=s*bu)(h3:0<t*bw):0<k*bz:=by grind
theorem akJ(bu s bz k bw t:RE)(h1:k*bz=s*bu+t*bw)(h2:s*bu<0)(h3:0<k*bz)(h4:t*bw<=0):0<k:=by grind
theorem Lq(x y:RE):((x*y-(0)))+((x-(0))*(0-(y)))=0:=by grind
theorem Cx(x y:RE)(h1:0<=x)(h2:y<=0):x*y<=0:=λhg=>far (aJ (aM hg) (aH (aG h1) (aG h2))) (Lq x y)
theorem LN(x y:RE):((x*y-(0)))+((0-(x))*(y-(0)))=0:=by grind
theorem Ue(x y:RE)(h1:x<=0)(h2:0<=y):x*y<=0:=λhg=>far (aJ (aM hg) (aH (aG h1) (aG h2))) (LN x y)
theorem Sf(x y:RE):((0-(x))*(0-(y)))+((0-(x*y)))=0:=by grind
theorem SE(x y:RE)(h1:x<0)(h2:y<0):0<x*y:=tv.1 λhg=>far (aJ (mul_pos (aM h1) (aM h2)) (aG hg)) (Sf x y)
theorem QM(x y:RE):((0-(x))*(y-(0)))+((x*y-(0)))=0:=by grind
theorem abw(x y:RE)(h1:x<0)(h2:0<y):x*y<0:=tv.1 λhg=>far (aJ (mul_pos (aM h1) (aM h2)) (aG hg)) (QM x y)
theorem K4(x y:RE):((0-(x*y)))+((0-(x))*(0-(y)))=0:=by grind
theorem Jo(x y:RE)(h1:x<=0)(h2:y<=0):0<=x*y:=λhg=>far (aJ (aM hg) (aH (aG h1) (aG h2))) (K4 x y)
theorem ug(d u:PE):crs d (-u.1,-u.2)= -crs d u:=MU _ _ _ _
theorem Wp(u d:PE):crs (-u.1,-u.2) d= -crs u d:=R5 _ _ _ _
theorem Bp{u w z d:PE}{Q:RE}(hu:dtE u u=Q)(hw:dtE w w=Q)(hz:dtE z z=Q)(hne:u≠w)(h:gQ u w z=true)(hd:¬gQ u w d=true):dtE z d<=dtE u d\/dtE z d<=dtE w d:=by
 have ac:=aeO;have key:=alx u w z d;rcases lt_or_ge (crs u w) 0 with hk|hk
 ·rw[D1 hk]at h hd;obtain⟨d1,d2⟩:=Classical.not_not.1 hd;have bu:0<crs d u:=by rw[ac];exact kj d2
  rcases lt_or_ge (crs d z) 0 with hb|hb
  ·rcases lt_or_ge (crs z w) 0 with hc|hc
   ·have hz':0<=crs u z:=λg=>h ⟨hc,g⟩;exact absurd hk (λg=>lt_irrefl _ (c7 g (akJ _ _ _ _ _ _ key (abw _ _ hc bu) (SE _ _ hk hb) (Cx _ _ hz' (le_of_lt d1)))))
   ·right;refine Iz hw hz ?_ ?_
    ·rcases zN hw hz with g|g
     ·exact g
     ·rw[g,ug]at hb;exact absurd (c7 (kj d1) hb) (lt_irrefl _)
    ·rw[ac w z];exact Jo _ _ (RU _ hc) (le_of_lt (Sn _ _ d1 hb))
  ·rcases lt_or_ge (crs u z) 0 with hc|hc
   ·have hz':0<=crs z w:=λg=>h ⟨g,hc⟩;have:=SE _ _ hc d1;have h2:=aH hz' (le_of_lt bu);have h3:=Ue _ _ (le_of_lt hk) hb;exact absurd (k_e _ _ _ _ _ _ key h2 this) h3
   ·left;refine Iz hu hz ?_ (aH hc (le_of_lt (aJ bu hb)));rcases zN hu hz with g|g
    ·exact g
    ·rw[g,ug]at hb;exact absurd (Gn bu) hb
 ·rw[EQ hk]at h hd;obtain⟨h1,h2⟩:=h;have zero_case:crs u w=0->w=(-u.1,-u.2):=λe=>(ale hu hw e).resolve_left hne;rcases lt_or_ge (crs d u+crs d z) 0 with g1|g1
  ·rcases lt_or_ge 0 (crs d w+crs d z)with g2|g2
   ·exfalso;by_cases hb:0<crs d u
    ·have b1:=amq _ _ g1 hb;have b2:=al0 _ _ _ g1 g2 hb;have r1:=aH h2 (le_of_lt hb);have r2:=aH h1 (le_of_lt b2);rcases cO hk with k1|k1
     ·have:=FZ _ _ k1 b1;rw[key]at this;exact absurd this (F7 _ _ r1 r2)
     ·have e:=zero_case k1;rw[e,ug]at b2;exact lt_irrefl _ (c7 b2 (Gn hb))
    ·have hb':crs d w<0:=by
      rcases lt_or_ge (crs d w) 0 with q|q
      ·exact q
      ·exact absurd ⟨by rw[ac];exact VD _ hb,q⟩ hd
     have b1:=ak1 _ _ g2 hb';have b2:=ak2 _ _ _ g1 g2 hb';have r1:=Cx _ _ h2 (le_of_lt b2);have r2:=Cx _ _ h1 (le_of_lt hb');rcases cO hk with k1|k1
     ·have:=mul_pos k1 b1;rw[key]at this;exact absurd this (aey _ _ r1 r2)
     ·have e:=zero_case k1;rw[e,ug]at hb';exact lt_irrefl _ (c7 hb' (kj b2))
   ·rcases zN hw hz with g|g
    ·right;refine Iz hw hz g ?_;rw[ac w z];exact Jo _ _ (RU _ h2) g2
    ·left;rw[g,ug]at h1;have e:=zero_case (Yl _ h1 hk);have:z=u:=by rw[g,e];exact anx (neg_neg _) (neg_neg _)
     rw[this];exact le_refl _
  ·rcases zN hu hz with g|g
   ·left;exact Iz hu hz g (aH h1 g1)
   ·right;rw[g,Wp]at h2;have e:=zero_case (Yl _ h2 hk);rw[g,e];exact le_refl _
end RE
end
end Go.Proofs.YtagbmoohboleaaaGreat
end
