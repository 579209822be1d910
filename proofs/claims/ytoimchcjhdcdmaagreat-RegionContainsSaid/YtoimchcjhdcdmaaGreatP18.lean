/- The reference's slopes. -/
import Derived.Test.YtoimchcjhdcdmaaGreatP17
import Derived.Test.YtoimchcjhdcdmaaGreatP16
import Derived.Test.YtoimchcjhdcdmaaGreatP14
noncomputable section
namespace Go.Proofs.YtoimchcjhdcdmaaGreat
open Go.RowKit Go.IntKind
open Bool renaming true->T',false->F'
open Option renaming some->S'
open Decidable renaming decide->D'
theorem anZ:type_of% @Classical.epsilon_spec:=@Classical.epsilon_spec
theorem aqa:type_of% @bne_self_eq_false:=@bne_self_eq_false
section
open RE
def jP(c:Cv)(p:Pt):Bool:=onR c p&&(!(aB (frC c) p==0)&&!(aB (toC c) p==0))
def ki(c:Cv):Bool:=!c.1&&(aU (xP (frC c)) (xP (toC c))==0)
def pu(c:BCU):Int:=bif c.1 then(bif c.2.2.2.1 then-1 else 1)else 0
def ngR(r:Rt):Rt:=(-r.1,-r.2.1,r.2.2)
def ivR(r:Rt):Rt:=iN (r.1*(1/noR r)) (-(r.2.1*(1/noR r))) r.2.2
theorem ag5{r:Rt}(h:Rdd r)(h0:sgR r≠0):noR r≠0:=by
 obtain⟨a,b,c⟩:=r;unfold noR;intro e;rcases h.rd with⟨h1,h2⟩|⟨h1,h2,h3⟩
 ·have h1:b=0:=h1;have h2:c=0:=h2;have e:a*a-b*b*c=0:=e;rw[h1,aqP,aqP]at e;have:a*a=0:=by grind
  have:a=0:=by
   rcases aqV.1 this with g|g<;>exact g
  rw[this,h1,h2]at h0;exact h0 rfl
 ·have h1:b≠0:=h1;have h3:eH c=false:=h3;have e:a*a-b*b*c=0:=e
  have:c=(a/b)*(a/b):=by
   have hb:b*b≠0:=λg=>by rcases aqV.1 g with g|g<;>exact h1 g
   grind
  rw[this,Lm]at h3;cases h3
theorem aem{x y:Rt}(hx:Rdd x)(hy:Rdd y)(h:vR x=vR y):(aU x y==0)=true:=by
 rw[cmpT_re hx.nn hy.nn,h,sub_self,fw];rfl
def gW(c:BCU):Prop:=mG c/\df (dC c) (frC (dC c))=T'/\df (dC c) (toC (dC c))=T'
theorem sV{c:BCU}(h:gdN c):gW c:=⟨h.1,h.2.1,h.2.2.1⟩
theorem aaA{c:BCU}(h:gW c)(ha:c.1=F')(hv:ki (dC c)=F'):(dec c.2.1:Ln).2.1≠0:=by
 intro hb;have r1:Rpd (frC (dC c)):=db h.1.1.2.2.1;have r2:Rpd (toC (dC c)):=db h.1.1.2.2.2;have a0:(dec c.2.1:Ln).1≠0:=(h.1.1.2.1 ha).2.resolve_right λg=>g hb;have ha':(dC c).1=false:=ha;have s1:=d9.1 h.2.1;have s2:=d9.1 h.2.2;rw[ha',cond_false]at s1 s2;have s1:of (dec c.2.1:Ln).1*pX (frC (dC c))+of (dec c.2.1:Ln).2.1*pY (frC (dC c))=of (dec c.2.1:Ln).2.2:=s1;have s2:of (dec c.2.1:Ln).1*pX (toC (dC c))+of (dec c.2.1:Ln).2.1*pY (toC (dC c))=of (dec c.2.1:Ln).2.2:=s2;rw[hb,qk]at s1 s2;have e:=kv a0 (x:=pX (frC (dC c))) (y:=pX (toC (dC c))) (by grind);unfold ki at hv;rw[ha',aem inferInstance inferInstance (by rw[qU,qU,e])]at hv;cases hv
instance af8 {r:Rt} {j:Nat} [h:Bd r j]:Bd (ivR r) (6*j+10):=by
 have b1:Bd (1:Rat) 3:=dQ (n:=1) (by decide);have i:Bd (iN (r.1*(1/noR r)) (-(r.2.1*(1/noR r))) r.2.2) _:=inferInstance;exact i.mono (jJ (by omega) (jJ (by omega) (by omega)))
theorem KD{a b c:Rat}(h:c=0\/(0<c/\eH c=F')):Rdd (iN a b c):=by
 unfold iN;by_cases hb:b=0
 ·rw[dT hb];exact(inferInstance:Rdd ((a,0,0):Rt))
 ·rw[dF hb,cond_false];rcases h with h|h
  ·rw[dT h];exact(inferInstance:Rdd ((a,0,0):Rt))
  ·rw[dF (λe=>by rw[e]at h;exact absurd h.1 (by decide))];exact⟨.inr ⟨hb,h.1,h.2⟩⟩
theorem HK{r:Rt}(h:Rdd r):r.2.2=0\/(0<r.2.2/\eH r.2.2=F'):=by
 rcases h.rd with h|h
 ·exact .inl h.2
 ·exact .inr h.2
def TY:List En:=[enT ES,enT o8,enT adu,enL Bq,enL GN]
def XM(c:BCU)(p:BP)(_k:KT):OLR:=og (D' (okC 3500 c/\okP 3500 p)) (match onR (dC c) (dec p)with|T'=>(og (D' (okP 4000 c.2.2.2.2.1/\okP 4000 p)) (match !(aB (dec c.2.2.2.2.1) (dec p)==0)with|T'=>(og (D' (okP 4000 c.2.2.2.2.2/\okP 4000 p)) (S' [RV.d .bool (!(aB (dec c.2.2.2.2.2) (dec p)==0))]))|F'=>S' [RV.d .bool F']))|F'=>S' [RV.d .bool F'])
def ahS:Cn 212 [tCU,tP]:=cn λ(c:BCU) (p:BP)=>lf (okC 3500 c/\okP 3500 p) [.d .bool (jP (dC c) (dec p))] λh=>by
 refine aA TY (XM c p) ⟨0,?_⟩;obtain⟨h1,h2⟩:=h;have h4:=bi (k:=4000) h1 (by decide) (by decide);have hp:=aV (k:=4000) h2 (by decide) (by decide);unfold XM jP;rw[dT (show okC 3500 c/\okP 3500 p from⟨h1,h2⟩),dT (show okP 4000 c.2.2.2.2.1/\okP 4000 p from⟨h4.2.2.1,hp⟩),dT (show okP 4000 c.2.2.2.2.2/\okP 4000 p from⟨h4.2.2.2,hp⟩)];have e3:frC (dC c)=dec c.2.2.2.2.1:=rfl;have e4:toC (dC c)=dec c.2.2.2.2.2:=rfl;rw[e3,e4];cases onR (dC c) (dec p)<;>cases aB (dec c.2.2.2.2.1) (dec p)==0<;>rfl
def abE(c:BCU)(_k:KT):OLR:=match !c.1 with|T'=>(og (D' (okP 4000 c.2.2.2.2.1)) (og (D' (okP 4000 c.2.2.2.2.2)) (og (D' (okT 15000 (hid (enc (xP (dec c.2.2.2.2.1))))/\okT 15000 (hid (enc (xP (dec c.2.2.2.2.2)))))) (S' [RV.d .bool (aU (dec (hid (enc (xP (dec c.2.2.2.2.1))))) (dec (hid (enc (xP (dec c.2.2.2.2.2)))))==0)]))))|F'=>S' [RV.d .bool F']
def Ux:Cn 43 [tCU]:=cn λ(c:BCU)=>lf (okC 3500 c) [.d .bool (ki (dC c))] λh=>by
 refine aA TY (abE c) ⟨0,?_⟩;obtain⟨ar,li,ci,cw,fr,to⟩:=c;obtain⟨_,_,h3,h4⟩:=h;obtain⟨f,rfl,bf,rf⟩:=bQ h3;obtain⟨t,rfl,bt,rt⟩:=bQ h4;unfold abE ki;simp only[aX,Nat.reduceLeDiff,aI,aN];cases ar
 ·show _=S' [RV.d .bool (aU (xP (dec (enc f))) (xP (dec (enc t)))==0)];rw[aq,aq];rfl
 ·rfl
def aey:List En:=[enL lj]
def T9(_k:KT):OLR:=og (D' (bH (1:Int))) (S' [RV.d tR (hid (av ((1:Int):Rat)))])
def adK:Cn 370 []:=cn<|lf True [.d tR (av 1)] λ_=>by
 refine aA aey (T9) ⟨0,?_⟩;unfold T9;rw[dT (show bH 1 by decide)];simp only[aR];rfl
def agf:List En:=[enL mw]
def Uz(r:BO3)(_k:KT):OLR:=og (o1 r.1) (og (o1 r.2.1) (S' [RV.d tO (hNe r.1,(hNe r.2.1,r.2.2))]))
def adG:Cn 327 [tO]:=cn λ(r:BO3)=>lf (ok Rt 100000 r) [.d tO (enc (ngR (dec r)))] λh=>by
 refine aA agf (Uz r) ⟨0,?_⟩;have hr:=h;obtain⟨r,rfl,br⟩:=aL hr;unfold Uz;simp only[aX,Nat.reduceLeDiff];try rfl
def acR:List En:=[enT CF,enL T2,enL xF,enL rV,enL mw,enL HP,enL adK]
def Zj(r:BO3)(_k:KT):OLR:=og (D' (okT 90000 r)) (match(sgR (dec r))==0 with|T'=>S' [RV.d tO (((F',[]),(F',[])),(((F',[]),(F',[])),((F',[]),(F',[])))),RV.d arf 6]|F'=>(og (D' (ok Rt 90000 r)) (og (D' (jX (hid (av 1)) (hid (av (noR (dec r)))))) (og (o2 r.1 (hDi (hid (av 1)) (hid (av (noR (dec r)))))) (og (o2 r.2.1 (hDi (hid (av 1)) (hid (av (noR (dec r)))))) (og (o1 (hMu r.2.1 (hDi (hid (av 1)) (hid (av (noR (dec r))))))) (og (D' (okR (hMu r.1 (hDi (hid (av 1)) (hid (av (noR (dec r))))))/\okR (hNe (hMu r.2.1 (hDi (hid (av 1)) (hid (av (noR (dec r)))))))/\okR r.2.2)) (S' [RV.d tO (hid (enc (iN (ag (hMu r.1 (hDi (hid (av 1)) (hid (av (noR (dec r))))))) (ag (hNe (hMu r.2.1 (hDi (hid (av 1)) (hid (av (noR (dec r)))))))) (ag r.2.2)))),RV.d arf 0]))))))))
def ahQ:Cn 325 [tO]:=cn λ(r:BO3)=>lf (okT 600 r/\sgR (dec r)≠0) [.d tO (enc (ivR (dec r))),.d arf 0] λh=>by
 refine aA acR (Zj r) ⟨0,?_⟩;obtain⟨hr,h0⟩:=h;obtain⟨r,rfl,br,rr⟩:=gD hr;rw[aq]at h0;have hn:=ag5 rr h0;have b1:Bd (1:Rat) 3:=dQ (n:=1) (by decide);unfold Zj ivR;simp only[aX,Nat.reduceAdd,Nat.reduceMul,Nat.reduceLeDiff,aI,hn,ne_eq,apk];try rw[aom.2 h0]
 try rfl
theorem aeo{q:Pt}(a b:Rat):oY (ngR (arT (xP q) a)) (ivR (arT (yP q) b))=true:=by
 unfold oY;by_cases hx:q.2.1=0
 ·have e:(xP q).2.1=0:=by unfold xP coR;rw[dT hx];rfl
  rw[dT (show(ngR (arT (xP q) a)).2.1=0 by show-(xP q).2.1=0;rw[e];rfl)];rfl
 ·by_cases hy:q.2.2.2.1=0
  ·have e:(yP q).2.1=0:=by unfold yP coR;rw[dT hy];rfl
   have:(ivR (arT (yP q) b)).2.1=0:=by
    unfold ivR iN;rw[dT (show-((arT (yP q) b).2.1*(1/noR (arT (yP q) b)))=0 by show-((yP q).2.1*_)=0;rw[e,aqP];rfl)];rfl
   rw[dT this,Bool.true_or,aq1]
  ·have ex:(ngR (arT (xP q) a)).2.2=q.2.2.2.2:=by show(xP q).2.2=_;unfold xP coR;rw[dF hx];rfl
   have ey:(arT (yP q) b).2.2=q.2.2.2.2:=by show(yP q).2.2=_;unfold yP coR;rw[dF hy];rfl
   have:(ivR (arT (yP q) b)).2.1=0\/(ivR (arT (yP q) b)).2.2=q.2.2.2.2:=by
    unfold ivR iN;rw[ey];cases D' (-((arT (yP q) b).2.1*(1/noR (arT (yP q) b)))=0)
    ·cases D' (q.2.2.2.2=0)
     ·exact .inr rfl
     ·exact .inl rfl
    ·exact .inl rfl
   rcases this with h|h
   ·rw[dT h,Bool.true_or,aq1]
   ·rw[h,ex,dT rfl,aq1,aq1]
theorem aiR{r:Rt}(h:Rdd r):Rdd (ngR r):=by
 refine⟨?_⟩;rcases h.rd with⟨h1,h2⟩|⟨h1,h2,h3⟩
 ·exact .inl ⟨by show-r.2.1=0;rw[h1];rfl,h2⟩
 ·exact .inr ⟨λe=>h1 (by have e: -r.2.1=0:=e;grind),h2,h3⟩
theorem ama{r:Rt}(h:Rdd r):Rdd (ivR r):=KD (HK h)
theorem Wg{r s:Rt}(h:Rdd r)(h':Rdd s):Rdd (lz r s):=by
 refine KD ?_;unfold gF;cases D' (r.2.1=0)
 ·exact HK h
 ·exact HK h'
def Ob(c:BCU)(p:BP):Prop:=∃x,bK x/\(c=loN x\/c=upN x)/\p=enc (da (dec x))
def xp(c d:BCU):Prop:=∃x,bK x/\c=upN x/\d=loN x
theorem afE{c:BCU}{p:BP}(h:Ob c p){x:Ln}(ec:c.2.2.1=enc x){q:Pt}(ep:p=enc q):sgR (arT (yP q) (-x.2.1))=0:=by
 obtain⟨y,_,h1,h2⟩:=h;have e1:c.2.2.1=y:=by rcases h1 with e|e<;>rw[e]<;>rfl
 rw[ec]at e1;subst e1;rw[ep]at h2;have e2:=congrArg (dec:BP->Pt) h2;rw[aq,aq,aq]at e2;subst e2
 have:yP (da x)=(x.2.1,0,0):=by
  unfold da mh yP;cases eH x.2.2
  ·rfl
  ·show coR (x.2.1+0*rtQ x.2.2) 0 0=_;rw[aqP,Rat.add_zero];rfl
 rw[this];unfold arT;rw[show x.2.1+ -x.2.1=0 by grind];rfl
def O4:List En:=[enT Ux,enL mw,enL xF,enL H5,enL Bq,enL GN,enL D6,enT CF,enL ahQ,enL Qy,enL adG]
def BH(c:BCU)(p:BP)(_k:KT):OLR:=og (D' (okC 3500 c)) (match ki (dC c)with|T'=>S' [RV.d kO (2,(((F',[]),(F',[])),(((F',[]),(F',[])),((F',[]),(F',[])))))]|F'=>(match !c.1 with|T'=>(og (o1 c.2.1.1) (og (D' (jX (hNe c.2.1.1) c.2.1.2.1)) (og (o1 (hDi (hNe c.2.1.1) c.2.1.2.1)) (S' [RV.d kO (0,hid (enc ((ag (hDi (hNe c.2.1.1) c.2.1.2.1),0,0):Rt)))]))))|F'=>(og (D' (okP 4000 p)) (og (o1 c.2.2.1.1) (og (D' (ok Rt 100000 (hid (enc (xP (dec p))))/\ok Rat 100000 (hNe c.2.2.1.1))) (og (D' (okP 4000 p)) (og (o1 c.2.2.1.2.1) (og (D' (ok Rt 100000 (hid (enc (yP (dec p))))/\ok Rat 100000 (hNe c.2.2.1.2.1))) (og (D' (okT 90000 (hid (enc (arT (dec (hid (enc (yP (dec p))))) (ag (hNe c.2.2.1.2.1))))))) (match(sgR (dec (hid (enc (arT (dec (hid (enc (yP (dec p))))) (ag (hNe c.2.2.1.2.1)))))))==0 with|T'=>(match c.2.2.2.1 with|T'=>S' [RV.d kO (1,(((F',[]),(F',[])),(((F',[]),(F',[])),((F',[]),(F',[])))))]|F'=>S' [RV.d kO (-1,(((F',[]),(F',[])),(((F',[]),(F',[])),((F',[]),(F',[])))))])|F'=>(og (D' (okT 600 (hid (enc (arT (dec (hid (enc (yP (dec p))))) (ag (hNe c.2.2.1.2.1)))))/\sgR (dec (hid (enc (arT (dec (hid (enc (yP (dec p))))) (ag (hNe c.2.2.1.2.1))))))≠0)) (og (D' (ok Rt 100000 (hid (enc (arT (dec (hid (enc (xP (dec p))))) (ag (hNe c.2.2.1.1))))))) (og (D' (ok Rt 50000 (hid (enc (ngR (dec (hid (enc (arT (dec (hid (enc (xP (dec p))))) (ag (hNe c.2.2.1.1)))))))))/\ok Rt 50000 (hid (enc (ivR (dec (hid (enc (arT (dec (hid (enc (yP (dec p))))) (ag (hNe c.2.2.1.2.1)))))))))/\oY (dec (hid (enc (ngR (dec (hid (enc (arT (dec (hid (enc (xP (dec p))))) (ag (hNe c.2.2.1.1)))))))))) (dec (hid (enc (ivR (dec (hid (enc (arT (dec (hid (enc (yP (dec p))))) (ag (hNe c.2.2.1.2.1))))))))))=T')) (S' [RV.d kO (0,hid (enc (lz (dec (hid (enc (ngR (dec (hid (enc (arT (dec (hid (enc (xP (dec p))))) (ag (hNe c.2.2.1.1)))))))))) (dec (hid (enc (ivR (dec (hid (enc (arT (dec (hid (enc (yP (dec p))))) (ag (hNe c.2.2.1.2.1)))))))))))))]))))))))))))))
def LK(c:BCU)(p:BP):Prop:=∃v:SLp,(λv:SLp=>(v.1=0->okT 15000 v.2)/\(v.1≠0->v.1≠2->c.1=T')/\(Ob c p->v=(bif c.2.2.2.1 then 1 else-1,z3))) v/\CQq7 282 [.d tCU c,.d tP p] [.d kO v]
instance (c:BCU) (p:BP):Decidable (LK c p):=Classical.propDecidable _
def pN(c:BCU)(p:BP):SLp:=Classical.epsilon λv=>(λv:SLp=>(v.1=0->okT 15000 v.2)/\(v.1≠0->v.1≠2->c.1=T')/\(Ob c p->v=(bif c.2.2.2.1 then 1 else-1,z3))) v/\CQq7 282 [.d tCU c,.d tP p] [.d kO v]
theorem Ju{c:BCU}{p:BP}(h:LK c p):(λv:SLp=>(v.1=0->okT 15000 v.2)/\(v.1≠0->v.1≠2->c.1=T')/\(Ob c p->v=(bif c.2.2.2.1 then 1 else-1,z3))) (pN c p):=(anZ h).1
def akE:Cn 282 [tCU,tP]:=cn λ(c:BCU) (p:BP)=>lf (LK c p) [.d kO (pN c p)] λh=>(anZ h).2
theorem Sr{c:BCU}{p:BP}(h:gW c)(hp:okP 580 p):LK c p:=by
 suffices gX:∃v:SLp,(λv:SLp=>(v.1=0->okT 15000 v.2)/\(v.1≠0->v.1≠2->c.1=T')/\(Ob c p->v=(bif c.2.2.2.1 then 1 else-1,z3))) v/\BH c p ((CX (ens O4) []).k 0)=S' [.d kO v] from gX.elim λv h=>⟨v,h.1,aA O4 (BH c p) ⟨0,h.2⟩⟩
 have h35:okC 3500 c:=bi h.1.1 (by decide) (by decide);have hp4:okP 4000 p:=aV hp (by decide) (by decide);cases hv:ki (dC c)
 ·cases ha:c.1
  ·obtain⟨l,el,bl,nl⟩:=dU (h.1.2.2 ha);have hb:=aaA h ha hv;rw[el,aq]at hb;have i1:Bd (-l.1/l.2.1) 24:=(inferInstance:Bd (-l.1/l.2.1) _)
   refine⟨(0,enc ((-l.1/l.2.1,0,0):Rt)),⟨λ_=>anP (aI (j:=24) (by decide) (by decide)),(λe=>absurd rfl e),λg=>by obtain⟨_,_,g|g,_⟩:=g<;>(rw[g]at ha;cases ha)⟩,?_⟩;unfold BH;rw[el];simp only[hv,ha,dT h35,aX,aC,Nat.reduceLeDiff,hb,ne_eq,apk];rfl
  ·obtain⟨x,ex,bx,x0⟩:=b9 (h.1.2.1 ha);obtain⟨q,rfl,bq,rq⟩:=bQ hp;have b1:Bd (arT (xP q) (-x.1)) 585:=(inferInstance:Bd (arT (xP q) (-x.1)) _)
   have b2:Bd (arT (yP q) (-x.2.1)) 585:=(inferInstance:Bd (arT (yP q) (-x.2.1)) _)
   by_cases hy:sgR (arT (yP q) (-x.2.1))=0
   ·refine⟨(bif c.2.2.2.1 then 1 else-1,z3),⟨(by cases c.2.2.2.1<;>(intro e;cases e)),(λ_ _=>rfl),λ_=>rfl⟩,?_⟩;unfold BH;rw[ex];simp only[hv,ha,dT h35,dT hp4,aX,aC,Nat.reduceAdd,Nat.reduceMul,Nat.reduceLeDiff,aI,hy];cases c.2.2.2.1<;>rfl
   ·have r1:=aiR (inferInstance:Rdd (arT (xP q) (-x.1)));have r2:=ama (inferInstance:Rdd (arT (yP q) (-x.2.1)));have r3:=Wg r1 r2;have b3:Bd (ngR (arT (xP q) (-x.1))) 585:=(inferInstance:Bd ((-(arT (xP q) (-x.1)).1,-(arT (xP q) (-x.1)).2.1,(arT (xP q) (-x.1)).2.2):Rt) _).mono (by decide);have b4:Bd (ivR (arT (yP q) (-x.2.1))) 3520:=af8 (j:=585);have b5:Bd (lz (ngR (arT (xP q) (-x.1))) (ivR (arT (yP q) (-x.2.1)))) 15000:=(inferInstance:Bd (lz (ngR (arT (xP q) (-x.1))) (ivR (arT (yP q) (-x.2.1)))) _).mono (by decide);have hc:=aeo (q:=q) (-x.1) (-x.2.1);refine⟨(0,enc (lz (ngR (arT (xP q) (-x.1))) (ivR (arT (yP q) (-x.2.1))))),⟨λ_=>anP (aI (j:=15000) (by decide) (by decide)),(λe=>absurd rfl e),λg=>absurd (afE g ex rfl) hy⟩,?_⟩;unfold BH;rw[ex];simp only[hv,ha,dT h35,dT hp4,aX,aC,Nat.reduceLeDiff,aI,aom.2 hy,dT (show sgR (arT (yP q) (-x.2.1))≠0 from hy),hc];rfl
 ·refine⟨(2,z3),⟨(λe=>nomatch e),(λ_ e=>absurd rfl e),λg=>by obtain⟨_,_,g|g,_⟩:=g<;>(rw[g]at hv;cases hv)⟩,?_⟩;unfold BH;rw[dT h35,hv];rfl
def Oj:List En:=[]
def Zl(c:BCU)(_k:KT):OLR:=match !c.1 with|T'=>S' [RV.d arf 0]|F'=>(match c.2.2.2.1 with|T'=>S' [RV.d arf (-1)]|F'=>S' [RV.d arf 1])
def ako:Cn 328 [tCU]:=cn λ(c:BCU)=>lf True [.d arf (pu c)] λ_=>by
 refine aA Oj (Zl c) ⟨0,?_⟩;unfold Zl pu;cases c.1
 ·rfl
 ·cases c.2.2.2.1<;>rfl
def UB:List En:=enL akE::enT o8::enT vH::enT v9::enT ako::Oj
def aeR:NT:=[((209,55),{keep:=[59],hl:=0})]
def Zb:Ctx:=CX (ens UB) aeR
def K1(c d:BCU)(_k:KT):OLR:=og (D' (okP 4000 c.2.2.2.2.1/\okP 4000 d.2.2.2.2.1)) (match !(aB (dec c.2.2.2.2.1) (dec d.2.2.2.2.1)==0)with|T'=>S' [RV.d arf 0,RV.d arf 1]|F'=>(og (D' (LK c c.2.2.2.2.1)) (og (D' (LK d d.2.2.2.2.1)) (match((hid ((pN c c.2.2.2.2.1))).1) !=((hid ((pN d d.2.2.2.2.1))).1)with|T'=>(match D' (((hid ((pN c c.2.2.2.2.1))).1)<((hid ((pN d d.2.2.2.2.1))).1))with|T'=>S' [RV.d arf (-1),RV.d arf 0]|F'=>S' [RV.d arf 1,RV.d arf 0])|F'=>(match((hid ((pN c c.2.2.2.2.1))).1)==2 with|T'=>S' [RV.d arf 0,RV.d arf 0]|F'=>(match((hid ((pN c c.2.2.2.2.1))).1) !=0 with|T'=>(og (o2 c.2.2.1.2.2 d.2.2.1.2.2) (S' [RV.d arf (i64.wrap (((hid ((pN c c.2.2.2.2.1))).1)*(aD (ag c.2.2.1.2.2) (ag d.2.2.1.2.2)))),RV.d arf 0]))|F'=>(og (D' (okT 15000 ((hid ((pN c c.2.2.2.2.1))).2)/\okT 15000 ((hid ((pN d d.2.2.2.2.1))).2))) (match(aU (dec ((hid ((pN c c.2.2.2.2.1))).2)) (dec ((hid ((pN d d.2.2.2.2.1))).2))) !=0 with|T'=>S' [RV.d arf (aU (dec ((hid ((pN c c.2.2.2.2.1))).2)) (dec ((hid ((pN d d.2.2.2.2.1))).2))),RV.d arf 0]|F'=>(match(pu c) !=(pu d)with|T'=>(match D' ((pu c)<(pu d))with|T'=>S' [RV.d arf (-1),RV.d arf 0]|F'=>S' [RV.d arf 1,RV.d arf 0])|F'=>(match(pu c)==0 with|T'=>S' [RV.d arf 0,RV.d arf 0]|F'=>(og (o2 c.2.2.1.2.2 d.2.2.1.2.2) (S' [RV.d arf (i64.wrap ((i64.wrap (0-(pu c)))*(aD (ag c.2.2.1.2.2) (ag d.2.2.1.2.2)))),RV.d arf 0]))))))))))))
theorem aiy(c d:BCU):RS Zb 209 [.d tCU c,.d tCU d] (K1 c d):=rsX
def TS(c d:BCU):Prop:=∃v:Int×Int,(λv:Int×Int=>xp c d->v.1=1) v/\CQq7 209 [.d tCU c,.d tCU d] [.d arf v.1,.d arf v.2]
instance (c:BCU) (d:BCU):Decidable (TS c d):=Classical.propDecidable _
def LJ(c d:BCU):Int×Int:=Classical.epsilon λv=>(λv:Int×Int=>xp c d->v.1=1) v/\CQq7 209 [.d tCU c,.d tCU d] [.d arf v.1,.d arf v.2]
theorem WP{c d:BCU}(h:TS c d):(λv:Int×Int=>xp c d->v.1=1) (LJ c d):=(anZ h).1
def ajb:Cn 209 [tCU,tCU]:=cn λ(c d:BCU)=>lf (TS c d) [.d arf ((LJ c d).1),.d arf ((LJ c d).2)] λh=>(anZ h).2
theorem NC{c d:BCU}(hc:gW c)(hd:gW d):TS c d:=by
 suffices gX:∃v:Int×Int,(λv:Int×Int=>xp c d->v.1=1) v/\∃nX,K1 c d (Zb.k nX)=S' [.d arf v.1,.d arf v.2] from gX.elim λv h=>⟨v,h.1,bj UB (aiy c d h.2)⟩
 have j1:=Sr hc hc.1.1.2.2.1;have j2:=Sr hd hd.1.1.2.2.1;obtain⟨s1,s2,s3⟩:=Ju j1;obtain⟨t1,t2,t3⟩:=Ju j2
 have oq:∀{e:BCU},gW e->e.1=T'->okR e.2.2.1.2.2:=λh ha=>by
  obtain⟨x,ex,bx,_⟩:=b9 (h.1.2.1 ha);rw[ex];exact anP (zG (q:=x.2.2) (j:=13) (by decide))
 have k1:okP 4000 c.2.2.2.2.1/\okP 4000 d.2.2.2.2.1:=⟨aV hc.1.1.2.2.1 (by decide) (by decide),aV hd.1.1.2.2.1 (by decide) (by decide)⟩
 by_cases hD:xp c d
 ·obtain⟨x,hx,rfl,rfl⟩:=hD;have e1:=s3 ⟨x,hx,.inr rfl,rfl⟩;have e2:=t3 ⟨x,hx,.inl rfl,rfl⟩;have r1:=db k1.1;have r2:=db k1.2;have z:(aB (dec (upN x).2.2.2.2.1) (dec (loN x).2.2.2.2.1)==0)=true:=aos.2 (cmpP_0.2 rfl);refine⟨(1,0),(λ_=>rfl),0,?_⟩;unfold K1;simp only[aR,dT j1,dT j2,dT k1,e1,e2,z];rfl
 have nD:∀{v:Int×Int},xp c d->v.1=1:=λg=>absurd g hD;unfold K1;simp only[aR,dT j1,dT j2,dT k1];generalize pN c c.2.2.2.2.1=s at*
 generalize pN d d.2.2.2.2.1=t at*
 cases aB (dec c.2.2.2.2.1) (dec d.2.2.2.2.1)==0
 ·exact⟨(_,_),nD,0,rfl⟩
 by_cases q1:s.1=t.1
 ·rw[show(s.1 !=t.1)=F' by rw[q1];exact aqa _];by_cases q2:s.1=2
  ·rw[aos.2 q2];exact⟨(_,_),nD,0,rfl⟩
  rw[aom.2 q2];by_cases q3:s.1=0
  ·rw[show(s.1 !=0)=F' by rw[q3];rfl,dT (show okT 15000 s.2/\okT 15000 t.2 from⟨s1 q3,t1 (q1▸q3)⟩)];cases aU (dec s.2) (dec t.2) !=0
   ·by_cases q4:pu c=pu d
    ·rw[show(pu c !=pu d)=F' by rw[q4];exact aqa _];by_cases q5:pu c=0
     ·rw[aos.2 q5];exact⟨(_,_),nD,0,rfl⟩
     ·have ha:∀{e:BCU},pu e≠0->e.1=true:=λ{e} h=>by
       unfold pu at h;cases g:e.1
       ·rw[g]at h;exact absurd rfl h
       ·rfl
      rw[aom.2 q5,show o2 c.2.2.1.2.2 d.2.2.1.2.2=T' from dT ⟨oq hc (ha q5),oq hd (ha (q4▸q5))⟩];exact⟨(_,_),nD,0,rfl⟩
    ·rw[apV.2 q4];cases D' (pu c<pu d)<;>exact⟨(_,_),nD,0,rfl⟩
   ·exact⟨(_,_),nD,0,rfl⟩
  ·rw[apV.2 q3,show o2 c.2.2.1.2.2 d.2.2.1.2.2=T' from dT ⟨oq hc (s2 q3 q2),oq hd (t2 (q1▸q3) (q1▸q2))⟩];exact⟨(_,_),nD,0,rfl⟩
 ·rw[apV.2 q1];cases D' (s.1<t.1)<;>exact⟨(_,_),nD,0,rfl⟩
def Sg:List En:=[enL ajb,enT sA]
def Us(c d:BCU)(_k:KT):OLR:=og (D' (okP 4000 c.2.2.2.2.1/\okP 4000 d.2.2.2.2.1)) (match(aB (dec c.2.2.2.2.1) (dec d.2.2.2.2.1)) !=0 with|T'=>S' [RV.d arf (aB (dec c.2.2.2.2.1) (dec d.2.2.2.2.1))]|F'=>(og (D' (TS c d)) (match((LJ c d).1) !=0 with|T'=>S' [RV.d arf ((LJ c d).1)]|F'=>(og (D' (okP 4000 c.2.2.2.2.2/\okP 4000 d.2.2.2.2.2)) (S' [RV.d arf (aB (dec c.2.2.2.2.2) (dec d.2.2.2.2.2))])))))
def Rg(c d:BCU):Prop:=∃v:Int,(λv:Int=>xp c d->v=1) v/\CQq7 135 [.d tCU c,.d tCU d] [.d arf v]
instance (c:BCU) (d:BCU):Decidable (Rg c d):=Classical.propDecidable _
def Uo(c d:BCU):Int:=Classical.epsilon λv=>(λv:Int=>xp c d->v=1) v/\CQq7 135 [.d tCU c,.d tCU d] [.d arf v]
def abh:Cn 135 [tCU,tCU]:=cn λ(c d:BCU)=>lf (Rg c d) [.d arf (Uo c d)] λh=>(anZ h).2
theorem Cj{c d:BCU}(hc:gW c)(hd:gW d):Rg c d:=by
 suffices gX:∃v:Int,(λv:Int=>xp c d->v=1) v/\Us c d ((CX (ens Sg) []).k 0)=S' [.d arf v] from gX.elim λv h=>⟨v,h.1,aA Sg (Us c d) ⟨0,h.2⟩⟩
 have k1:okP 4000 c.2.2.2.2.1/\okP 4000 d.2.2.2.2.1:=⟨aV hc.1.1.2.2.1 (by decide) (by decide),aV hd.1.1.2.2.1 (by decide) (by decide)⟩
 have k2:okP 4000 c.2.2.2.2.2/\okP 4000 d.2.2.2.2.2:=⟨aV hc.1.1.2.2.2 (by decide) (by decide),aV hd.1.1.2.2.2 (by decide) (by decide)⟩
 have j:=WP (NC hc hd);unfold Us;simp only[dT (NC hc hd),dT k1,dT k2];by_cases hD:xp c d
 ·have r1:=db k1.1
  have z:(aB (dec c.2.2.2.2.1) (dec d.2.2.2.2.1) !=0)=false:=by
   obtain⟨x,_,rfl,rfl⟩:=hD;have r1:=db k1.1;have r2:=db k1.2;rw[show aB (dec (upN x).2.2.2.2.1) (dec (loN x).2.2.2.2.1)=0 from cmpP_0.2 rfl];rfl
  refine⟨1,(λ_=>rfl),?_⟩;rw[z,j hD];rfl
 have nD:∀{v:Int},xp c d->v=1:=λg=>absurd g hD;cases aB (dec c.2.2.2.2.1) (dec d.2.2.2.2.1) !=0
 ·cases(LJ c d).1 !=0<;>exact⟨_,nD,rfl⟩
 ·exact⟨_,nD,rfl⟩
end
section
open RE
def oc(w:Bool)(k i l j m n:Nat):Int:=bif w then lJ dI (ufA k,i) (ufA l,j) (ufA m,n)else lJ cI (upA k,i) (upA l,j) (upA m,n)
def hk(w:Bool)(k:Nat):Bool:=bif w then k !=3 else k !=1
theorem ab3:∀(w:Bool) (kF kP kT:Fin 4) (iF iP iT:Fin 3),(Et kF.1 iF.1 kP.1 iP.1 kT.1 iT.1&&(hk w kF.1&&(hk w kT.1&&(D' (iF.1<iT.1)&&(D' (oc w kF.1 iF.1 kF.1 iF.1 kP.1 iP.1<=0)&&D' (oc w kF.1 iF.1 kP.1 iP.1 kT.1 iT.1<=0))))))=T'->(hk w kP.1&&(D' (iF.1<=iP.1)&&D' (iP.1<=iT.1)))=true:=by decide+kernel
theorem acT:∀(w:Bool) (kF kA kB:Fin 4) (iF iA iB:Fin 3),(Et kF.1 iF.1 kA.1 iA.1 kB.1 iB.1&&(hk w kF.1&&(hk w kA.1&&(hk w kB.1&&(D' (iF.1<=iA.1)&&(D' (iF.1<=iB.1)&&D' (oc w kF.1 iF.1 kA.1 iA.1 kB.1 iB.1<0)))))))=T'->D' (iA.1<iB.1)=true:=by decide+kernel
def wm(k i l j:Nat):Bool:=Ap k i l j&&Ap l j k i
def inF(w:Bool)(ka ia kb ib k i:Nat):Bool:=D' (oc w ka ia ka ia k i<=0)&&(D' (oc w ka ia k i kb ib<=0)&&(!(ka==k&&ia==i)&&!(kb==k&&ib==i)))
theorem afm:∀(w:Bool) (ka kb:Fin 4) (ia ib il ir:Fin 4),(wm ka.1 ia.1 kb.1 ib.1&&(wm ka.1 ia.1 2 il.1&&(wm ka.1 ia.1 0 ir.1&&(wm kb.1 ib.1 2 il.1&&(wm kb.1 ib.1 0 ir.1&&(wm 2 il.1 0 ir.1&&(!(ka.1==kb.1&&ia.1==ib.1)&&(!inF w ka.1 ia.1 kb.1 ib.1 2 il.1&&!inF w ka.1 ia.1 kb.1 ib.1 0 ir.1))))))))=T'->
  (hk w ka.1&&(hk w kb.1&&D' (ia.1<ib.1))||hk (!w) ka.1&&(hk (!w) kb.1&&D' (ib.1<ia.1)))=true:=by decide+kernel
def kc(c:Cv)(p:Pt):Nat:=cls (pX p-of (ciC c).1) (pY p-of (ciC c).2.1)
def rx(L:List RE)(p:Pt):Nat:=rk (λa b:RE=>a<b) L (pX p)
theorem qd(c:Cv)(p:Pt):kc c p<4:=DF _ _
section
variable {c:Cv} {L:List RE} {x y:Pt}
theorem m7(mx:pX x∈L)(my:pX y∈L):pX x<pX y↔rx L x<rx L y:=rB lt_lin mx my
theorem fd(q:0<(ciC c).2.2)(hx:onCi (ciC c) x)(hy:onCi (ciC c) y)(mx:pX x∈L)(my:pX y∈L):wm (kc c x) (rx L x) (kc c y) (rx L y)=true:=by
 unfold wm kc rx;have hq:0<of (ciC c).2.2:=ll q;rw[lS hq hx hy mx my,lS hq hy hx my mx];rfl
theorem ot(ha:c.1=T')(q:0<(ciC c).2.2)(rF:Rpd (frC c))[Rpd x][Rpd y](hF:onCi (ciC c) (frC c))(hx:onCi (ciC c) x)(hy:onCi (ciC c) y)(mF:pX (frC c)∈L)(mx:pX x∈L)(my:pX y∈L):co c x y=oc (cwC c) (kc c (frC c)) (rx L (frC c)) (kc c x) (rx L x) (kc c y) (rx L y):=by
 unfold co oc kc rx;rw[ha,cond_true];cases cwC c
 ·rw[cond_false,cond_false];unfold ptd;rw[nz,nz,nz,fD (ls mx mF) (ls my mF) (ls mx my)]
 ·rw[cond_true,cond_true];unfold ptd;rw[wi q hF,wi q hx,wi q hy,fD (oz mx mF) (oz my mF) (oz mx my)]
end
theorem HX{k i l j m n:Nat}(h1:wm k i l j=T')(h2:wm k i m n=T')(h3:wm l j m n=T'):Et k i l j m n=true:=by
 unfold wm at*
 simp only[anS]at*
 unfold Et;simp[h1,h2,h3]
def hfC(c:Cv)(p:Pt):Bool:=hk (cwC c) (kc c p)
def gS(c:BCU):Prop:=c.1=F'->c.2.2.2.1=F'
theorem UC(c:BCU):gS (gT c):=λh=>by
 have h:c.1=false:=h;show(c.1&&_)=F';rw[h];rfl
def gM(c:BCU):Prop:=gdN c/\aB (frC (dC c)) (toC (dC c))<0/\(c.1=T'->hfC (dC c) (frC (dC c))=T'/\hfC (dC c) (toC (dC c))=T')/\gS c
theorem Li{u v:RE}:(cls u v≠3->0<=v)/\(cls u v≠1->v<=0):=by
 unfold cls;rcases cd v with⟨h,e⟩|⟨h,e⟩|⟨h,e⟩<;>rw[e]
 ·exact⟨λ_=>le_of_lt h,λg=>absurd rfl g⟩
 ·rw[h];exact⟨λ_=>le_refl _,λ_=>le_refl _⟩
 ·exact⟨λg=>absurd rfl g,λ_=>le_of_lt h⟩
theorem Km{c:Cv}{w:Bool}{p q:Pt}(hp:onCi (ciC c) p)(hq:onCi (ciC c) q)(h1:hk w (kc c p)=T')(h2:hk w (kc c q)=T')(e:pX p=pX q):pR p=pR q:=by
 refine DJ hp hq e ?_;unfold hk kc at*
 cases w
 ·exact .inr ⟨Li.2 (apV.1 h1),Li.2 (apV.1 h2)⟩
 ·exact .inl ⟨Li.1 (apV.1 h1),Li.1 (apV.1 h2)⟩
theorem Kh{c:Cv}{w:Bool}{p q:Pt}[Rpd p][Rpd q](hp:onCi (ciC c) p)(hq:onCi (ciC c) q)(h1:hk w (kc c p)=T')(h2:hk w (kc c q)=T'):aB p q<0↔pX p<pX q:=by
 rw[iw,jl gz fq];constructor
 ·rintro (h|⟨h,h'⟩)
  ·exact h
  ·have:=congrArg Prod.snd (Km hp hq h1 h2 h);have:pY p=pY q:=this;have h':pY p<pY q:=h';rw[this]at h';exact absurd h' (lt_irrefl _)
 ·exact .inl
theorem X2{a b:RE}:¬a<b↔b<=a:=by
 rw[sw]
section
variable {c:BCU} (h:gM c) (ha:c.1=T')
include h ha
theorem gM.hx:pX (frC (dC c))<pX (toC (dC c)):=by
 have k:=fM h.1.gd;have:=k.f.1;have:=k.t.1;exact(Kh (eL (c:=dC c) ha k.f) (eL (c:=dC c) ha k.t) (h.2.2.1 ha).1 (h.2.2.1 ha).2).1 h.2.1
theorem rP{p:Pt}(hp:Rpd p)(ho:onR (dC c) p=T'):hfC (dC c) p=T'/\¬pX p<pX (frC (dC c))/\¬pX (toC (dC c))<pX p:=by
 have k:=fM h.1.gd;have a':(dC c).1=true:=ha;have q:=k.q a';have hx:=h.hx ha;obtain⟨f1,f2⟩:=h.2.2.1 ha;unfold onR at ho;simp only[anS]at ho;obtain⟨hs,o1,o2⟩:=ho;have i1:=k.t.1;have cF:=eL a' k.f;have cT:=eL a' k.t;have cP:=eL a' (⟨hp,hs⟩:Sp (dC c) p);have mF:pX (frC (dC c))∈[pX (frC (dC c)),pX p,pX (toC (dC c))]:=by simp
 have mP:pX p∈[pX (frC (dC c)),pX p,pX (toC (dC c))]:=by simp
 have mT:pX (toC (dC c))∈[pX (frC (dC c)),pX p,pX (toC (dC c))]:=by simp
 generalize hL:[pX (frC (dC c)),pX p,pX (toC (dC c))]=L at*
 have hn:L.length=3:=by rw[<-hL];rfl
 have i2:=k.f.1;rw[ot a' q k.f.1 cF cF cP mF mF mP]at o1;rw[ot a' q k.f.1 cF cP cT mF mP mT]at o2;rw[m7 mF mT]at hx;rw[m7 mP mF,m7 mT mP];have b:∀{z:Pt},pX z∈L->rx L z<3:=λhz=>hn▸pe lt_lin hz
 have:=ab3 (cwC (dC c)) ⟨_,qd (dC c) (frC (dC c))⟩ ⟨_,qd (dC c) p⟩ ⟨_,qd (dC c) (toC (dC c))⟩ ⟨_,b mF⟩ ⟨_,b mP⟩ ⟨_,b mT⟩ (by
  unfold hfC at f1 f2;simp only[anS];exact⟨HX (fd q cF cP mF mP) (fd q cF cT mF mT) (fd q cP cT mP mT),f1,f2,anO hx,o1,o2⟩)
 simp only[anS,apj]at this;exact⟨this.1,by omega,by omega⟩
theorem acb{a b:Pt}(ra:Rpd a)(rb:Rpd b)(oa:onR (dC c) a=T')(ob:onR (dC c) b=T')(hab:co (dC c) a b<0):pX a<pX b:=by
 have k:=fM h.1.gd;have a':(dC c).1=true:=ha;have q:=k.q a';obtain⟨f1,f2⟩:=h.2.2.1 ha;obtain⟨a1,a2,a3⟩:=rP h ha ra oa;obtain⟨b1,b2,b3⟩:=rP h ha rb ob;have sa:df (dC c) a=true:=(an3.1 oa).1;have sb:df (dC c) b=true:=(an3.1 ob).1;have cF:=eL a' k.f;have cA:=eL a' (⟨ra,sa⟩:Sp (dC c) a);have cB:=eL a' (⟨rb,sb⟩:Sp (dC c) b);have mF:pX (frC (dC c))∈[pX (frC (dC c)),pX a,pX b]:=by simp
 have mA:pX a∈[pX (frC (dC c)),pX a,pX b]:=by simp
 have mB:pX b∈[pX (frC (dC c)),pX a,pX b]:=by simp
 generalize hL:[pX (frC (dC c)),pX a,pX b]=L at*
 have hn:L.length=3:=by rw[<-hL];rfl
 rw[ot a' q k.f.1 cF cA cB mF mA mB]at hab;rw[m7 mA mF]at a2;rw[m7 mB mF]at b2;rw[m7 mA mB];have b:∀{z:Pt},pX z∈L->rx L z<3:=λhz=>hn▸pe lt_lin hz
 have:=acT (cwC (dC c)) ⟨_,qd (dC c) (frC (dC c))⟩ ⟨_,qd (dC c) a⟩ ⟨_,qd (dC c) _⟩ ⟨_,b mF⟩ ⟨_,b mA⟩ ⟨_,b mB⟩ (by
  unfold hfC at f1 a1 b1;simp only[anS,apj];exact⟨HX (fd q cF cA mF mA) (fd q cF cB mF mB) (fd q cA cB mA mB),f1,a1,b1,by omega,by omega,hab⟩)
 exact anP this
end
theorem VJ{c:BCU}(h:gM c){a b:Pt}(ra:Rpd a)(rb:Rpd b)(oa:onR (dC c) a=T')(ob:onR (dC c) b=T')(hab:co (dC c) a b<0):aB a b<0:=by
 cases ha:c.1
 ·unfold co at hab;have a':(dC c).1=false:=ha;have:=h.2.1;rw[a',cond_false,dF (show ¬aB (frC (dC c)) (toC (dC c))>0 by omega)]at hab;exact hab
 ·have k:=fM h.1.gd;have sa:df (dC c) a=true:=(an3.1 oa).1;have sb:df (dC c) b=true:=(an3.1 ob).1;exact(Kh (eL (c:=dC c) ha ⟨ra,sa⟩) (eL (c:=dC c) ha ⟨rb,sb⟩) (rP h ha ra oa).1 (rP h ha rb ob).1).2 (acb h ha ra rb oa ob hab)
theorem vE{c:BCU}(h:gdN c){l:List BP}(ho:∀p∈l,okP 580 p/\onR (dC c) (dec p)=T'):∀x∈vD c l,Rpd (dec x)/\onR (dC c) (dec x)=true:=λx hx=>by
 refine⟨(H4 h ho x hx).2.1,?_⟩;rcases DK hx with e|e|e
 ·rw[e];exact(ID h).1
 ·rw[e];exact(ID h).2
 ·exact(ho x e).2
theorem WZ{c:BCU}(h:gM c){l:List BP}(ho:∀p∈l,okP 580 p/\onR (dC c) (dec p)=T'):∀p∈nC c l,gM p:=λp hp=>by
 obtain⟨x,y,hx,hy,hr,e⟩:=xA (zz h.1 ho) hp;obtain⟨rx,ox⟩:=vE h.1 ho x hx;obtain⟨ry,oy⟩:=vE h.1 ho y hy;refine⟨Ky h.1 ho p hp,?_,λha=>?_,by rw[e];exact h.2.2.2⟩
 ·rw[e];exact VJ h rx ry ox oy hr
 ·rw[e]at ha ⊢;have ha:c.1=true:=ha;exact⟨(rP h ha rx ox).1,(rP h ha ry oy).1⟩
theorem GO{c:BCU}{R:BP->BP->Prop}{p:BCU}:∀{s:List BP},(∀{x y},x∈s->y∈s->R x y->¬R y x)->s.Pairwise R->p∈wE c s->∃x y,x∈s/\y∈s/\R x y/\p=Ah c x y/\∀z∈s,¬(R x z/\R z y)
 |[],_,_,h=>by cases h
 |[_],_,_,h=>by cases h
 |x::y::r,irr,hp,h=>by
  obtain⟨p1,p2⟩:=aoR.1 hp;obtain⟨p3,_⟩:=aoR.1 p2;simp only[wE]at h;rcases an6.1 h with h|h
  ·refine⟨x,y,by simp,by simp,p1 y (by simp),h,λz hz g=>?_⟩;rcases an6.1 hz with e|e
   ·rw[e]at g;exact irr (by simp) (by simp) g.1 g.1
   ·rcases an6.1 e with e|e
    ·rw[e]at g;exact irr (by simp) (by simp) g.2 g.2
    ·exact irr (by simp[e]) (by simp) g.2 (p3 z e)
  ·obtain⟨a,b,h1,h2,h3,h4,h5⟩:=GO (λhx hy=>irr (an4 _ hx) (an4 _ hy)) p2 h;refine⟨a,b,an4 _ h1,an4 _ h2,h3,h4,λz hz g=>?_⟩;rcases an6.1 hz with e|e
   ·rw[e]at g;exact irr (an4 _ h1) (by simp) g.1 (p1 a h1)
   ·exact h5 z e g
theorem Jq{c:BCU}(h:gdN c){l:List BP}(ho:∀p∈l,okP 580 p/\onR (dC c) (dec p)=T'){z:BP}(hz:Rpd (dec z))(hl:jP (dC c) (dec z)=T'->z∈l):∀p∈nC c l,jP (dC p) (dec z)=false:=λp hp=>by
 have k:=fM h.gd;have o:=uN k;have sp:∀{x:BP},x∈vD c l->Sp (dC c) (dec x):=λhx=>⟨(vE h ho _ hx).1,(an3.1 (vE h ho _ hx).2).1⟩
 obtain⟨a,b,ma,mb,hab,e,hc⟩:=GO (R:=λa b=>co (dC c) (dec a) (dec b)<0) (λ{x y} hx hy g g'=>by
  have:=o.asy (sp hx) (sp hy) g;omega) (zz h ho) hp
 have sa:=sp ma;have sb:=sp mb;have oa:=(vE h ho a ma).2;have ob:=(vE h ho b mb).2;cases hi:jP (dC p) (dec z)
 ·rfl
 exfalso;unfold jP at hi;rw[e]at hi;simp only[anS,apf]at hi;obtain⟨i1,i2,i3⟩:=hi;have i2:aB (dec a) (dec z)≠0:=aom.1 i2;have i3:aB (dec b) (dec z)≠0:=aom.1 i3;obtain⟨hs,j1,j2⟩:=(ae5 k sa sb hab hz).1 i1;have sz:Sp (dC c) (dec z):=⟨hz,hs⟩
 have az:co (dC c) (dec a) (dec z)<0:=by
  rcases o.tri sa sz with g|g|g
  ·exact g
  ·exact absurd g i2
  ·exact absurd g j1
 have zb:co (dC c) (dec z) (dec b)<0:=by
  rcases o.tri sz sb with g|g|g
  ·exact g
  ·have:=hz;have:=sb.1;exact absurd (Pe g) i3
  ·exact absurd g j2
 obtain⟨_,a1,_⟩:=(yD k sa.1).1 oa;obtain⟨_,_,b1⟩:=(yD k sb.1).1 ob
 have hin:jP (dC c) (dec z)=true:=by
  unfold jP;rw[(yD k hz).2 ⟨hs,λg=>a1 (o.tr sa sz k.f az g),λg=>b1 (o.tr k.t sz sb g zb)⟩,aom.2 (λg=>a1 (by rw[(tW k k.f sz sa g).2];exact az)),aom.2 (λg=>b1 (by rw[(tW k k.t sz sb g).1];exact zb))];rfl
 obtain⟨y,hy,ey⟩:=Rn (c:=dC c) (l:=[c.2.2.2.2.1,c.2.2.2.2.2]++l) hz (apB _ (hl hin));obtain⟨y1,_⟩:=tW k (sp hy) sz sb ey;obtain⟨_,y2⟩:=tW k (sp hy) sz sa ey;exact hc y hy ⟨by rw[y2];exact az,by rw[y1];exact zb⟩
theorem agH{L:List RE}{x y:Pt}(mx:pX x∈L)(my:pX y∈L)(h:rx L x=rx L y):pX x=pX y:=by
 rcases lR (pX x) (pX y)with g|g|g
 ·rw[m7 mx my]at g;omega
 ·exact g
 ·rw[m7 my mx]at g;omega
theorem alL(a r:RE)(h1:0<r):a+ -1*r-a<0:=by grind
theorem aml(a r:RE)(h1:0<r):0<a+1*r-a:=by grind
theorem Zg(a r:RE):a+0*r-a=0:=by grind
theorem agn{c:Cv}(h:0<(ciC c).2.2):kc c (da (ciC c))=2/\kc c (dp (ciC c))=0/\onCi (ciC c) (da (ciC c))/\onCi (ciC c) (dp (ciC c)):=by
 have r:=abn h;have o:=NS h;have el:pR (da (ciC c))=_:=mq _ _ _ _ _;have er:pR (dp (ciC c))=_:=mq _ _ _ _ _;have l1:pX (da (ciC c))=of (ciC c).1+of (-1)*rq (ciC c).2.2:=congrArg Prod.fst el;have l2:pY (da (ciC c))=of (ciC c).2.1+of 0*rq (ciC c).2.2:=congrArg Prod.snd el;have r1:pX (dp (ciC c))=of (ciC c).1+of 1*rq (ciC c).2.2:=congrArg Prod.fst er;have r2:pY (dp (ciC c))=of (ciC c).2.1+of 0*rq (ciC c).2.2:=congrArg Prod.snd er;refine⟨?_,?_,o.1,o.2⟩
 ·unfold kc;rw[l1,l2];exact KY.2 ⟨Zg _ _,λg=>lt_irrefl _ (eh g (alL _ _ r))⟩
 ·unfold kc;rw[r1,r2];exact Jl.2 ⟨Zg _ _,aml _ _ r⟩
theorem T6{e:BCU}(h:gdN e)(hS:gS e)(hi:e.1=T'->jP (dC e) (da (ciC (dC e)))=F'/\jP (dC e) (dp (ciC (dC e)))=F'):bif D' (aB (frC (dC e)) (toC (dC e))>0)then gM (gT e)else gM e:=by
 have k:=fM h.gd;have rF:=k.f.1;have rT:=k.t.1;have hne:=h.2.2.2;cases ha:e.1
 ·cases hd:D' (aB (frC (dC e)) (toC (dC e))>0)
  ·have:=aoF hd;exact⟨h,by omega,λg=>(by rw[ha]at g;cases g),hS⟩
  ·have:=anP hd;refine⟨KE h,?_,λg=>(by have g:e.1=true:=g;rw[ha]at g;cases g),UC e⟩;show aB (toC (dC e)) (frC (dC e))<0;rw[uZ];omega
 ·have a':(dC e).1=true:=ha;have q:=k.q a';obtain⟨hl,hr⟩:=hi ha;obtain⟨kl,kr,cL,cR⟩:=agn (c:=dC e) q;have q0:0<=(ciC (dC e)).2.2:=by grind
  have rL:Rpd (da (ciC (dC e))):=mo (λe=>absurd e.1 (by decide)) q0;have rR:Rpd (dp (ciC (dC e))):=mo (λe=>absurd e.1 (by decide)) q0;generalize da (ciC (dC e))=zl at*
  generalize dp (ciC (dC e))=zr at*
  have cF:=eL a' k.f;have cT:=eL a' k.t;have mF:pX (frC (dC e))∈[pX (frC (dC e)),pX (toC (dC e)),pX zl,pX zr]:=by simp
  have mT:pX (toC (dC e))∈[pX (frC (dC e)),pX (toC (dC e)),pX zl,pX zr]:=by simp
  have mL:pX zl∈[pX (frC (dC e)),pX (toC (dC e)),pX zl,pX zr]:=by simp
  have mR:pX zr∈[pX (frC (dC e)),pX (toC (dC e)),pX zl,pX zr]:=by simp
  generalize hL:[pX (frC (dC e)),pX (toC (dC e)),pX zl,pX zr]=L at*
  have hn:L.length=4:=by rw[<-hL];rfl
  have b:∀{z:Pt},pX z∈L->rx L z<4:=λhz=>hn▸pe lt_lin hz
  have ni:∀{z:Pt},Rpd z->onCi (ciC (dC e)) z->pX z∈L->jP (dC e) z=F'->inF (cwC (dC e)) (kc (dC e) (frC (dC e))) (rx L (frC (dC e))) (kc (dC e) (toC (dC e))) (rx L (toC (dC e))) (kc (dC e) z) (rx L z)=false:=λ{z} rz cz mz hz=>by
   cases g:inF (cwC (dC e)) (kc (dC e) (frC (dC e))) (rx L (frC (dC e))) (kc (dC e) (toC (dC e))) (rx L (toC (dC e))) (kc (dC e) z) (rx L z)
   ·rfl
   unfold inF at g;simp only[anS,apf]at g;obtain⟨g1,g2,g3,g4⟩:=g;rw[<-ot a' q rF cF cF cz mF mF mz]at g1;rw[<-ot a' q rF cF cz cT mF mz mT]at g2
   have ne:∀{y:Pt},Rpd y->(kc (dC e) y==kc (dC e) z&&rx L y==rx L z)=F'->(aB y z==0)=false:=λ{y} ry hy=>by
    refine aom.2 λg=>?_;have g:=cmpP_0.1 g;have g1:pX y=pX z:=congrArg Prod.fst g;have g2:pY y=pY z:=congrArg Prod.snd g;unfold kc rx at hy;rw[g1,g2]at hy;simp at hy
   have hs:df (dC e) z=true:=d9.2 (by rw[a',cond_true];exact cz);unfold jP onR at hz;rw[hs,g1,g2,ne rF g3,ne rT g4]at hz;cases hz
  have hab:(kc (dC e) (frC (dC e))==kc (dC e) (toC (dC e))&&rx L (frC (dC e))==rx L (toC (dC e)))=false:=by
   cases g:(kc (dC e) (frC (dC e))==kc (dC e) (toC (dC e))&&rx L (frC (dC e))==rx L (toC (dC e)))
   ·rfl
   obtain⟨g1,g2⟩:=an3.1 g;have g1:=aos.1 g1;have g2:=agH mF mT (aos.1 g2);refine absurd (cmpP_0.2 ?_) hne
   have:∃w,hk w (kc (dC e) (frC (dC e)))=true:=by
    unfold hk;by_cases g:kc (dC e) (frC (dC e))=3
    ·exact⟨F',by rw[g];rfl⟩
    ·exact⟨T',apV.2 g⟩
   obtain⟨w,hw⟩:=this;exact Km cF cT hw (by rw[<-g1];exact hw) g2
  have nl:=ni rL cL mL hl;have nr:=ni rR cR mR hr;have c1:=fd q cF cT mF mT;have c2:=fd q cF cL mF mL;have c3:=fd q cF cR mF mR;have c4:=fd q cT cL mT mL;have c5:=fd q cT cR mT mR;have c6:=fd q cL cR mL mR;rw[kl]at nl c2 c4 c6;rw[kr]at nr c3 c5 c6;have:=afm (cwC (dC e)) ⟨_,qd (dC e) (frC (dC e))⟩ ⟨_,qd (dC e) (toC (dC e))⟩ ⟨_,b mF⟩ ⟨_,b mT⟩ ⟨_,b mL⟩ ⟨_,b mR⟩ (by simp only[c1,c2,c3,c4,c5,c6,hab,nl,nr];rfl);simp only[apQ,anS,apj]at this;rcases this with⟨g1,g2,g3⟩|⟨g1,g2,g3⟩
  ·rw[<-m7 mF mT,<-Kh cF cT g1 g2]at g3;rw[dF (by omega),cond_false];exact⟨h,g3,λ_=>⟨g1,g2⟩,hS⟩
  ·rw[<-m7 mT mF,<-Kh cT cF g2 g1]at g3;have:=uZ (p:=toC (dC e)) (q:=frC (dC e));rw[dT (by omega),cond_true];refine⟨KE h,g3,λ_=>?_,UC e⟩;have ew:cwC (dC (gT e))=!cwC (dC e):=by show(e.1&&_)=_;rw[ha];rfl
   unfold hfC;rw[ew];exact⟨g2,g1⟩
theorem ace{x:BO3}(h:bK x):gdN (loN x)/\gdN (hiN x)/\aB (da (dec x)) (dp (dec x))= -1/\(∀c,c=loN x\/c=hiN x->jP (dC c) (da (dec x))=F'/\jP (dC c) (dp (dec x))=F'):=by
 obtain⟨l,rfl,bl,h0⟩:=b9 h;have g:=DR (c:=l) h0;have e1:D7 (enc l)=[loN (enc l),hiN (enc l)]:=rfl;have q0:0<=l.2.2:=by grind
 have rL:Rpd (da l):=mo (λe=>absurd e.1 (by decide)) q0;have rR:Rpd (dp l):=mo (λe=>absurd e.1 (by decide)) q0;have zL:(aB (da l) (da l)==0)=true:=aos.2 (cmpP_0.2 rfl);have zR:(aB (dp l) (dp l)==0)=true:=aos.2 (cmpP_0.2 rfl);refine⟨g _ (by rw[e1];simp),g _ (by rw[e1];simp),by rw[aq];exact Ow h0,λc hc=>?_⟩;rw[aq];have f1:frC (dC (loN (enc l)))=da l/\toC (dC (loN (enc l)))=dp l:=⟨by show dec (enc (da (dec (enc l))))=_;rw[aq,aq],by show dec (enc (dp (dec (enc l))))=_;rw[aq,aq]⟩
 have f2:frC (dC (hiN (enc l)))=dp l/\toC (dC (hiN (enc l)))=da l:=⟨by show dec (enc (dp (dec (enc l))))=_;rw[aq,aq],by show dec (enc (da (dec (enc l))))=_;rw[aq,aq]⟩
 unfold jP;rcases hc with e|e<;>rw[e]
 ·rw[f1.1,f1.2,zL,zR];simp
 ·rw[f2.1,f2.2,zL,zR];simp
end
section
open RE
def inX(c:Cv)(p:Pt):Bool:=D' (aU (xP (frC c)) (xP p)<=0)&&D' (aU (xP p) (xP (toC c))<=0)
def wH(c:Cv)(p:Pt):Int:=bif ki c then(bif D' (aU (yP p) (yP (toC c))>0)then 1 else bif D' (aU (yP p) (yP (frC c))<0)then-1 else 0)else bif c.1 then(bif cwC c then(bif D' (dO (yP p) (ciC c).2.1<0)then-1 else-fY (ciC c) p)else bif D' (dO (yP p) (ciC c).2.1>0)then 1 else fY (ciC c) p)else oD (lnC c) p*aD (lnC c).2.1 0
def mX(c:Cv)(p:Pt):Int:=bif inX c p then wH c p else 0
def ph(c:Cv)(p:Pt):Int:=bif inX c p then 0 else 1
theorem af9(r:Rt)(a:Rat):sgR (arT r (-a))=dO r a:=by
 unfold sgR arT dO;rw[aqo]
theorem By{p q:Pt}[Rpd p][Rpd q]:aU (xP p) (xP q)=sg (pX p-pX q):=by rw[cmpT_re lX lX,qU,qU]
theorem F6{p q:Pt}[Rpd p][Rpd q]:aU (yP p) (yP q)=sg (pY p-pY q):=by rw[cmpT_re zs zs,H3,H3]
theorem Yd{p q:Pt}[Rpd p][Rpd q]:aU (xP p) (xP q)<=0↔pX p<=pX q:=by
 rw[By,Pd];grind
theorem aai{p q:Pt}[Rpd p][Rpd q]:aU (yP p) (yP q)<=0↔pY p<=pY q:=by
 rw[F6,Pd];grind
theorem SA{p q:Pt}[Rpd p][Rpd q]:aB p q<=0↔pX p<pX q\/pX p=pX q/\pY p<=pY q:=by
 unfold aB;rw[By,F6];rcases cd (pX p-pX q)with⟨h,e⟩|⟨h,e⟩|⟨h,e⟩<;>rw[e]
 ·show(1:Int)<=0↔_;grind
 ·show sg _<=0↔_;rw[Pd];grind
 ·show(-1:Int)<=0↔_;grind
theorem Wt{c:Cv}{p:Pt}[Rpd p][Rpd (frC c)][Rpd (toC c)]:inX c p=T'↔pX (frC c)<=pX p/\pX p<=pX (toC c):=by
 unfold inX;rw[anS,apj,apj,Yd,Yd]
theorem acf:∀(w:Bool) (kF kP kT:Fin 4) (iF iP iT:Fin 3),(Et kF.1 iF.1 kP.1 iP.1 kT.1 iT.1&&(hk w kF.1&&(hk w kT.1&&(hk w kP.1&&(D' (iF.1<iT.1)&&(D' (iF.1<=iP.1)&&D' (iP.1<=iT.1)))))))=T'->(D' (oc w kF.1 iF.1 kF.1 iF.1 kP.1 iP.1<=0)&&D' (oc w kF.1 iF.1 kP.1 iP.1 kT.1 iT.1<=0))=true:=by decide+kernel
theorem ahs{u v:RE}:(hk T' (cls u v)=T'↔0<=v)/\(hk F' (cls u v)=T'↔v<=0):=by
 unfold cls hk;rcases cd v with⟨h,e⟩|⟨h,e⟩|⟨h,e⟩<;>rw[e]
 ·exact⟨⟨λ_=>le_of_lt h,λ_=>rfl⟩,⟨λg=>(by cases g),λg=>absurd h g⟩⟩
 ·cases sg u==1<;>exact⟨⟨λ_=>(by rw[h];exact le_refl _),λ_=>rfl⟩,⟨λ_=>(by rw[h];exact le_refl _),λ_=>rfl⟩⟩
 ·exact⟨⟨λg=>(by cases g),λg=>absurd h g⟩,⟨λ_=>le_of_lt h,λ_=>rfl⟩⟩
theorem acZ{c:BCU}(h:gM c)(ha:c.1=T'){p:Pt}(hp:Rpd p)(hs:df (dC c) p=T')(hh:hfC (dC c) p=T')(h1:pX (frC (dC c))<=pX p)(h2:pX p<=pX (toC (dC c))):onR (dC c) p=true:=by
 have k:=fM h.1.gd;have a':(dC c).1=true:=ha;have q:=k.q a';have hx:=h.hx ha;obtain⟨f1,f2⟩:=h.2.2.1 ha;have i1:=k.t.1;have cF:=eL a' k.f;have cT:=eL a' k.t;have cP:=eL a' (⟨hp,hs⟩:Sp (dC c) p);have mF:pX (frC (dC c))∈[pX (frC (dC c)),pX p,pX (toC (dC c))]:=by simp
 have mP:pX p∈[pX (frC (dC c)),pX p,pX (toC (dC c))]:=by simp
 have mT:pX (toC (dC c))∈[pX (frC (dC c)),pX p,pX (toC (dC c))]:=by simp
 generalize hL:[pX (frC (dC c)),pX p,pX (toC (dC c))]=L at*
 have hn:L.length=3:=by rw[<-hL];rfl
 have i2:=k.f.1;unfold onR;rw[hs,ot a' q k.f.1 cF cF cP mF mF mP,ot a' q k.f.1 cF cP cT mF mP mT];rw[sw,m7 mP mF]at h1;rw[sw,m7 mT mP]at h2;rw[m7 mF mT]at hx;have b:∀{z:Pt},pX z∈L->rx L z<3:=λhz=>hn▸pe lt_lin hz
 exact acf (cwC (dC c)) ⟨_,qd (dC c) (frC (dC c))⟩ ⟨_,qd (dC c) p⟩ ⟨_,qd (dC c) (toC (dC c))⟩ ⟨_,b mF⟩ ⟨_,b mP⟩ ⟨_,b mT⟩ (by
  unfold hfC at f1 f2 hh;simp only[anS];exact⟨HX (fd q cF cP mF mP) (fd q cF cT mF mT) (fd q cP cT mP mT),f1,f2,hh,anO hx,anO (by omega),anO (by omega)⟩)
theorem Uw{c:BCU}(h:gM c){p:Pt}(hp:Rpd p):onR (dC c) p=(inX (dC c) p&&(wH (dC c) p==0)):=by
 have k:=fM h.1.gd;have i1:=k.f.1;have i2:=k.t.1;rw[Bool.eq_iff_iff,anS,Wt,aos];cases ha:c.1
 ·have a':(dC c).1=false:=ha;have hlt:=h.2.1
  have eo:∀x y,co (dC c) x y=aB x y:=λx y=>by
   unfold co;rw[a',cond_false,dF (show ¬aB (frC (dC c)) (toC (dC c))>0 by omega)];rfl
  have es:df (dC c) p=T'↔nF (lnC (dC c)) (pR p):=by rw[d9,a'];rfl
  have sf:=d9.1 k.f.2;have st:=d9.1 k.t.2;rw[a',cond_false]at sf st;have sf:of (dec c.2.1:Ln).1*pX (frC (dC c))+of (dec c.2.1:Ln).2.1*pY (frC (dC c))=of (dec c.2.1:Ln).2.2:=sf;have st:of (dec c.2.1:Ln).1*pX (toC (dC c))+of (dec c.2.1:Ln).2.1*pY (toC (dC c))=of (dec c.2.1:Ln).2.2:=st
  have e1:onR (dC c) p=T'↔nF (lnC (dC c)) (pR p)/\aB (frC (dC c)) p<=0/\aB p (toC (dC c))<=0:=by
   unfold onR;rw[anS,anS,apj,apj,es,eo,eo]
  rw[e1,SA,SA];have ef:∀x y:RE,nF (lnC (dC c)) (x,y)↔of (dec c.2.1:Ln).1*x+of (dec c.2.1:Ln).2.1*y=of (dec c.2.1:Ln).2.2:=λ_ _=>Iff.rfl;show nF (lnC (dC c)) (pX p,pY p)/\_↔_;rw[ef]
  have hlt':pX (frC (dC c))<=pX (toC (dC c)):=by
   have:=SA.1 (show aB (frC (dC c)) (toC (dC c))<=0 by omega);rcases this with g|g
   ·exact le_of_lt g
   ·rw[g.1];exact le_refl _
  cases hv:ki (dC c)
  ·have hb:=aaA (sV h.1) ha hv;have e2:wH (dC c) p=oD (lnC (dC c)) p*aD (dec c.2.1:Ln).2.1 0:=by unfold wH;rw[hv,a'];rfl
   have e3:wH (dC c) p=0↔nF (lnC (dC c)) (pR p):=by
    rw[e2,<-B7,Int.mul_eq_zero,aos];constructor
    ·rintro (g|g)
     ·exact g
     ·exact absurd (aos.2 g) (by rw[am];exact λe=>hb (anP e))
    ·exact .inl
   rw[e3,show nF (lnC (dC c)) (pR p)↔_ from ef _ _];constructor
   ·rintro ⟨g1,g2,g3⟩
    refine⟨⟨?_,?_⟩,g1⟩
    ·rcases g2 with g|g
     ·exact le_of_lt g
     ·rw[g.1];exact le_refl _
    ·rcases g3 with g|g
     ·exact le_of_lt g
     ·rw[g.1];exact le_refl _
   ·rintro ⟨⟨g1,g2⟩,g3⟩
    refine⟨g3,?_,?_⟩
    ·rcases lR (pX (frC (dC c))) (pX p)with g|g|g
     ·exact .inl g
     ·refine .inr ⟨g,?_⟩;rw[g]at sf;rw[kv hb (x:=pY (frC (dC c))) (y:=pY p) (by grind)];exact le_refl _
     ·exact absurd g g1
    ·rcases lR (pX p) (pX (toC (dC c)))with g|g|g
     ·exact .inl g
     ·refine .inr ⟨g,?_⟩;rw[<-g]at st;rw[kv hb (x:=pY (toC (dC c))) (y:=pY p) (by grind)];exact le_refl _
     ·exact absurd g g2
  ·have hx:pX (frC (dC c))=pX (toC (dC c)):=by
    unfold ki at hv;rw[a',By]at hv;have hv:=CP.1 (aos.1 hv);grind
   have hy:pY (frC (dC c))<pY (toC (dC c)):=by
    have:=hlt;unfold aB at this;rw[By,F6,show sg (pX (frC (dC c))-pX (toC (dC c)))=0 from CP.2 (by grind)]at this;have:sg (pY (frC (dC c))-pY (toC (dC c)))<0:=this;rw[aed]at this;grind
   have e3:wH (dC c) p=0↔pY (frC (dC c))<=pY p/\pY p<=pY (toC (dC c)):=by
    unfold wH;rw[hv,cond_true,<-aai,<-aai,show aU (yP (frC (dC c))) (yP p)= -aU (yP p) (yP (frC (dC c))) from by rw[F6,F6,<-IJ];congr 1;grind];by_cases g1:aU (yP p) (yP (toC (dC c)))>0
    ·rw[dT g1];simp only[cond_true];omega
    ·rw[dF g1];by_cases g2:aU (yP p) (yP (frC (dC c)))<0
     ·rw[dT g2];simp only[cond_true,cond_false];omega
     ·rw[dF g2];exact⟨λ_=>⟨by omega,by omega⟩,λ_=>rfl⟩
   rw[e3]
   have hb:of (dec c.2.1:Ln).2.1=0:=by
    by_cases hb:(dec c.2.1:Ln).2.1=0
    ·rw[hb];exact qk
    ·exfalso;rw[hx]at sf;have:=kv hb (x:=pY (frC (dC c))) (y:=pY (toC (dC c))) (by grind);rw[this]at hy;exact lt_irrefl _ hy
   rw[hb,hx];constructor
   ·rintro ⟨_,g2,g3⟩
    rcases g2 with g2|⟨g2,g4⟩<;>rcases g3 with g3|⟨g3,g5⟩
    ·exact absurd (eh g2 g3) (lt_irrefl _)
    ·rw[g3]at g2;exact absurd g2 (lt_irrefl _)
    ·rw[g2]at g3;exact absurd g3 (lt_irrefl _)
    ·exact⟨⟨by rw[g3];exact le_refl _,by rw[g3];exact le_refl _⟩,g4,g5⟩
   ·rintro ⟨⟨g1,g2⟩,g3,g4⟩
    have e:pX p=pX (toC (dC c)):=by grind
    exact⟨by rw[e,<-st,hb,zero_mul,zero_mul],.inr ⟨e.symm,g3⟩,.inr ⟨e,g4⟩⟩
 ·have a':(dC c).1=true:=ha;have vF:ki (dC c)=false:=by unfold ki;rw[a'];rfl
  have hh:∀z:Pt,Rpd z->(hfC (dC c) z=T'↔bif cwC (dC c)then ¬dO (yP z) (ciC (dC c)).2.1<0 else ¬dO (yP z) (ciC (dC c)).2.1>0):=λz hz=>by
   unfold hfC kc;rw[cmpTR_re zs,H3];cases cwC (dC c)
   ·rw[cond_false,ahs.2];rcases cd (pY z-of (ciC (dC c)).2.1)with⟨g,e⟩|⟨g,e⟩|⟨g,e⟩<;>rw[e]<;>simp<;>grind
   ·rw[cond_true,ahs.1];rcases cd (pY z-of (ciC (dC c)).2.1)with⟨g,e⟩|⟨g,e⟩|⟨g,e⟩<;>rw[e]<;>simp<;>grind
  have es:df (dC c) p=T'↔fY (ciC (dC c)) p=0:=by unfold df;rw[a',cond_true,aos]
  have e3:wH (dC c) p=0↔df (dC c) p=T'/\hfC (dC c) p=true:=by
   rw[hh p hp,es];unfold wH;rw[vF,a'];cases cwC (dC c)<;>simp only[cond_true,cond_false]
   ·by_cases g:dO (yP p) (ciC (dC c)).2.1>0
    ·rw[dT g];simp[g]
    ·rw[dF g];simp[g]
   ·by_cases g:dO (yP p) (ciC (dC c)).2.1<0
    ·rw[dT g];simp[g]
    ·rw[dF g];simp[g]
  rw[e3];constructor
  ·intro g;obtain⟨g1,g2,g3⟩:=rP h ha hp g;exact⟨⟨X2.1 g2,X2.1 g3⟩,(an3.1 g).1,g1⟩
  ·rintro ⟨⟨g1,g2⟩,g3,g4⟩
   exact acZ h ha hp g3 g4 g1 g2
def af4:List En:=[enL ww,enT JU]
def YQ(c:BCU)(_k:KT):OLR:=match !c.1 with|T'=>(og (D' (okP 4000 c.2.2.2.2.1)) (og (D' (okP 4000 c.2.2.2.2.2)) (og (D' (okT 15000 (hid (enc (xP (dec c.2.2.2.2.1))))/\okT 15000 (hid (enc (xP (dec c.2.2.2.2.2)))))) (S' [RV.d .bool (aU (dec (hid (enc (xP (dec c.2.2.2.2.1))))) (dec (hid (enc (xP (dec c.2.2.2.2.2)))))==0)]))))|F'=>S' [RV.d .bool F']
def GS:Cn 90 [tCU]:=cn λ(c:BCU)=>lf (okC 3500 c) [.d .bool (ki (dC c))] λh=>by
 refine aA af4 (YQ c) ⟨0,?_⟩;obtain⟨ar,li,ci,cw,fr,to⟩:=c;obtain⟨_,_,h3,h4⟩:=h;obtain⟨f,rfl,bf,rf⟩:=bQ h3;obtain⟨t,rfl,bt,rt⟩:=bQ h4;unfold YQ ki;simp only[aX,Nat.reduceLeDiff,aI,aN];cases ar
 ·show _=S' [RV.d .bool (aU (xP (dec (enc f))) (xP (dec (enc t)))==0)];rw[aq,aq];rfl
 ·rfl
def Pg:List En:=[enL ww,enL DQ,enT ro,enT FQ,enT FI,enT EX,⟨94,fp,dJ⟩,enT GS]
def adv:NT:=[((39,5),{keep:=[2,3,7,8,9,10,11,12],hl:=0})]
def aim:Ctx:=CX (ens Pg) adv
def ZH(c:BCU)(p:BP)(_k:KT):OLR:=og (D' (okP 4000 p)) (og (D' (okP 4000 c.2.2.2.2.1)) (og (D' (okT 15000 (hid (enc (xP (dec c.2.2.2.2.1))))/\okT 15000 (hid (enc (xP (dec p)))))) (match D' ((aU (dec (hid (enc (xP (dec c.2.2.2.2.1))))) (dec (hid (enc (xP (dec p))))))<=0)with|T'=>(og (D' (okP 4000 c.2.2.2.2.2)) (og (D' (okT 15000 (hid (enc (xP (dec p))))/\okT 15000 (hid (enc (xP (dec c.2.2.2.2.2)))))) (match !(D' ((aU (dec (hid (enc (xP (dec p))))) (dec (hid (enc (xP (dec c.2.2.2.2.2))))))<=0))with|T'=>S' [RV.d arf 0,RV.d arf 1]|F'=>(og (D' (okC 3500 c)) (match ki (dC c)with|T'=>(og (D' (okP 4000 p)) (og (D' (okP 4000 c.2.2.2.2.2)) (og (D' (okT 15000 (hid (enc (yP (dec p))))/\okT 15000 (hid (enc (yP (dec c.2.2.2.2.2)))))) (match D' ((aU (dec (hid (enc (yP (dec p))))) (dec (hid (enc (yP (dec c.2.2.2.2.2))))))>0)with|T'=>S' [RV.d arf 1,RV.d arf 0]|F'=>(og (D' (okP 4000 p)) (og (D' (okP 4000 c.2.2.2.2.1)) (og (D' (okT 15000 (hid (enc (yP (dec p))))/\okT 15000 (hid (enc (yP (dec c.2.2.2.2.1)))))) (match D' ((aU (dec (hid (enc (yP (dec p))))) (dec (hid (enc (yP (dec c.2.2.2.2.1))))))<0)with|T'=>S' [RV.d arf (-1),RV.d arf 0]|F'=>S' [RV.d arf 0,RV.d arf 0]))))))))|F'=>(match !c.1 with|T'=>(og (D' (ok Ln 300 c.2.1/\okP 4000 p)) (og (o1 c.2.1.2.1) (S' [RV.d arf (i64.wrap ((oD (dec c.2.1) (dec p))*(aD (ag c.2.1.2.1) 0))),RV.d arf 0])))|F'=>(og (D' (okP 4000 p)) (og (D' (okT 15000 (hid (enc (yP (dec p))))/\ok Rat 15000 c.2.2.1.2.1)) (match c.2.2.2.1 with|T'=>(match D' ((dO (dec (hid (enc (yP (dec p))))) (ag c.2.2.1.2.1))<0)with|T'=>S' [RV.d arf (-1),RV.d arf 0]|F'=>(match c.2.2.2.1 with|T'=>(og (D' (ok Ln 300 c.2.2.1/\okP 4000 p)) (S' [RV.d arf (i64.wrap (0-(fY (dec c.2.2.1) (dec p)))),RV.d arf 0]))|F'=>(match D' ((dO (dec (hid (enc (yP (dec p))))) (ag c.2.2.1.2.1))>0)with|T'=>S' [RV.d arf 1,RV.d arf 0]|F'=>(og (D' (ok Ln 300 c.2.2.1/\okP 4000 p)) (S' [RV.d arf (fY (dec c.2.2.1) (dec p)),RV.d arf 0])))))|F'=>(match c.2.2.2.1 with|T'=>(og (D' (ok Ln 300 c.2.2.1/\okP 4000 p)) (S' [RV.d arf (i64.wrap (0-(fY (dec c.2.2.1) (dec p)))),RV.d arf 0]))|F'=>(match D' ((dO (dec (hid (enc (yP (dec p))))) (ag c.2.2.1.2.1))>0)with|T'=>S' [RV.d arf 1,RV.d arf 0]|F'=>(og (D' (ok Ln 300 c.2.2.1/\okP 4000 p)) (S' [RV.d arf (fY (dec c.2.2.1) (dec p)),RV.d arf 0])))))))))))))|F'=>S' [RV.d arf 0,RV.d arf 1])))
theorem ajk(c:BCU)(p:BP):RS aim 39 [.d tCU c,.d tP p] (ZH c p):=rsX
def Gf:Cn 39 [tCU,tP]:=cn λ(c:BCU) (p:BP)=>lf (okC 3500 c/\okP 3500 p) [.d arf (mX (dC c) (dec p)),.d arf (ph (dC c) (dec p))] λh=>by
 refine bj Pg (ajk _ _ ⟨0,?_⟩);obtain⟨hc,hp⟩:=h;obtain⟨p,rfl,bp,rp⟩:=bQ hp;obtain⟨ar,li,ci,cw,fr,to⟩:=c;have hc':=hc;obtain⟨h1,h2,h3,h4⟩:=hc';dsimp only at h1 h2 h3 h4;obtain⟨f,rfl,bf,rf⟩:=bQ h3;obtain⟨t,rfl,bt,rt⟩:=bQ h4;have e1:frC (dC (ar,li,ci,cw,enc f,enc t))=f:=aq f;have e2:toC (dC (ar,li,ci,cw,enc f,enc t))=t:=aq t;unfold ZH mX ph inX wH;rw[e1,e2];simp only[aX,Nat.reduceLeDiff,aI,aN,dT hc];cases D' (aU (xP f) (xP p)<=0)
 ·rfl
 cases D' (aU (xP p) (xP t)<=0)
 ·rfl
 cases ar
 ·obtain⟨l,rfl,bl⟩:=aL (h2 rfl).1;have e3:lnC (dC (F',enc l,ci,cw,enc f,enc t))=l:=aq l;rw[e3];cases ki (dC (F',enc l,ci,cw,enc f,enc t))
  ·simp only[aX,Nat.reduceLeDiff,vY (gn _ _ _) (jf _ _),oD];rfl
  ·cases D' (aU (yP p) (yP t)>0)
   ·cases D' (aU (yP p) (yP f)<0)<;>rfl
   ·rfl
 ·obtain⟨l,rfl,bl⟩:=aL (h1 rfl).1;have e3:ciC (dC (T',li,enc l,cw,enc f,enc t))=l:=aq l;have e4:cwC (dC (T',li,enc l,cw,enc f,enc t))=cw:=rfl;have e5:ki (dC (T',li,enc l,cw,enc f,enc t))=false:=rfl;rw[e3,e4,e5];simp only[aX,Nat.reduceLeDiff];cases cw
  ·cases D' (dO (yP p) l.2.1>0)<;>rfl
  ·cases D' (dO (yP p) l.2.1<0)
   ·show S' [RV.d arf (i64.wrap (0-fY l p)),RV.d arf 0]=S' [RV.d arf (-fY l p),RV.d arf 0];have:=gn (sqA p (ctr l)-l.2.2) (sqB p (ctr l)) p.2.2.2.2;rw[aM (by unfold fY;omega) (by unfold fY;omega),aps]
   ·rfl
def OT:List En:=[enL Bq,enL GN,enT v9,enT CF,enL D6,enT TC,enT Px,enT mf,enL mw,enT Ux]
def adQ:NT:=[((45,4),{keep:=[2,3,8,9,10,11,12],hl:=0}),((45,43),{keep:=[2,3,6,41,42,43,44,45,46],hl:=0})]
def ai2:Ctx:=CX (ens OT) adQ
def Yz(c:BCU)(p:BP)(_k:KT):OLR:=og (D' (okP 4000 p)) (og (D' (okP 4000 c.2.2.2.2.1)) (og (D' (okT 15000 (hid (enc (xP (dec c.2.2.2.2.1))))/\okT 15000 (hid (enc (xP (dec p)))))) (match D' ((aU (dec (hid (enc (xP (dec c.2.2.2.2.1))))) (dec (hid (enc (xP (dec p))))))<=0)with|T'=>(og (D' (okP 4000 c.2.2.2.2.2)) (og (D' (okT 15000 (hid (enc (xP (dec p))))/\okT 15000 (hid (enc (xP (dec c.2.2.2.2.2)))))) (match !(D' ((aU (dec (hid (enc (xP (dec p))))) (dec (hid (enc (xP (dec c.2.2.2.2.2))))))<=0))with|T'=>S' [RV.d arf 0,RV.d arf 1]|F'=>(og (D' (okC 3500 c)) (match ki (dC c)with|T'=>(og (D' (okP 4000 p)) (og (D' (okP 4000 c.2.2.2.2.2)) (og (D' (okT 15000 (hid (enc (yP (dec p))))/\okT 15000 (hid (enc (yP (dec c.2.2.2.2.2)))))) (match D' ((aU (dec (hid (enc (yP (dec p))))) (dec (hid (enc (yP (dec c.2.2.2.2.2))))))>0)with|T'=>S' [RV.d arf 1,RV.d arf 0]|F'=>(og (D' (okP 4000 p)) (og (D' (okP 4000 c.2.2.2.2.1)) (og (D' (okT 15000 (hid (enc (yP (dec p))))/\okT 15000 (hid (enc (yP (dec c.2.2.2.2.1)))))) (match D' ((aU (dec (hid (enc (yP (dec p))))) (dec (hid (enc (yP (dec c.2.2.2.2.1))))))<0)with|T'=>S' [RV.d arf (-1),RV.d arf 0]|F'=>S' [RV.d arf 0,RV.d arf 0]))))))))|F'=>(match !c.1 with|T'=>(og (D' (ok Ln 300 c.2.1/\okP 4000 p)) (og (o1 c.2.1.2.1) (S' [RV.d arf (i64.wrap ((oD (dec c.2.1) (dec p))*(aD (ag c.2.1.2.1) 0))),RV.d arf 0])))|F'=>(og (D' (okP 4000 p)) (og (o1 c.2.2.1.2.1) (og (D' (ok Rt 100000 (hid (enc (yP (dec p))))/\ok Rat 100000 (hNe c.2.2.1.2.1))) (og (D' (okT 90000 (hid (enc (arT (dec (hid (enc (yP (dec p))))) (ag (hNe c.2.2.1.2.1))))))) (og (D' (ok Ln 300 c.2.2.1/\okP 3500 p)) (match c.2.2.2.1 with|T'=>(match D' ((sgR (dec (hid (enc (arT (dec (hid (enc (yP (dec p))))) (ag (hNe c.2.2.1.2.1)))))))<0)with|T'=>S' [RV.d arf (-1),RV.d arf 0]|F'=>S' [RV.d arf (i64.wrap (0-(fY (dec c.2.2.1) (dec p)))),RV.d arf 0])|F'=>(match D' ((sgR (dec (hid (enc (arT (dec (hid (enc (yP (dec p))))) (ag (hNe c.2.2.1.2.1)))))))>0)with|T'=>S' [RV.d arf 1,RV.d arf 0]|F'=>S' [RV.d arf (fY (dec c.2.2.1) (dec p)),RV.d arf 0])))))))))))))|F'=>S' [RV.d arf 0,RV.d arf 1])))
theorem ajF(c:BCU)(p:BP):RS ai2 45 [.d tCU c,.d tP p] (Yz c p):=rsX
def aiB:Cn 45 [tCU,tP]:=cn λ(c:BCU) (p:BP)=>lf (okC 3500 c/\okP 3500 p) [.d arf (mX (dC c) (dec p)),.d arf (ph (dC c) (dec p))] λh=>by
 refine bj OT (ajF _ _ ⟨0,?_⟩);obtain⟨hc,hp⟩:=h;obtain⟨p,rfl,bp,rp⟩:=bQ hp;obtain⟨ar,li,ci,cw,fr,to⟩:=c;have hc':=hc;obtain⟨h1,h2,h3,h4⟩:=hc';dsimp only at h1 h2 h3 h4;obtain⟨f,rfl,bf,rf⟩:=bQ h3;obtain⟨t,rfl,bt,rt⟩:=bQ h4;have e1:frC (dC (ar,li,ci,cw,enc f,enc t))=f:=aq f;have e2:toC (dC (ar,li,ci,cw,enc f,enc t))=t:=aq t;unfold Yz mX ph inX wH;rw[e1,e2];simp only[aX,Nat.reduceLeDiff,aI,aN,dT hc];cases D' (aU (xP f) (xP p)<=0)
 ·rfl
 cases D' (aU (xP p) (xP t)<=0)
 ·rfl
 cases ar
 ·obtain⟨l,rfl,bl⟩:=aL (h2 rfl).1;have e3:lnC (dC (F',enc l,ci,cw,enc f,enc t))=l:=aq l;rw[e3];cases ki (dC (F',enc l,ci,cw,enc f,enc t))
  ·simp only[aX,Nat.reduceLeDiff,vY (gn _ _ _) (jf _ _),oD];rfl
  ·cases D' (aU (yP p) (yP t)>0)
   ·cases D' (aU (yP p) (yP f)<0)<;>rfl
   ·rfl
 ·obtain⟨l,rfl,bl⟩:=aL (h1 rfl).1;have e3:ciC (dC (T',li,enc l,cw,enc f,enc t))=l:=aq l;have e4:cwC (dC (T',li,enc l,cw,enc f,enc t))=cw:=rfl;have e5:ki (dC (T',li,enc l,cw,enc f,enc t))=false:=rfl;rw[e3,e4,e5];simp only[aX,Nat.reduceAdd,Nat.reduceLeDiff,aI,af9];cases cw
  ·cases D' (dO (yP p) l.2.1>0)<;>rfl
  ·cases D' (dO (yP p) l.2.1<0)
   ·show S' [RV.d arf (i64.wrap (0-fY l p)),RV.d arf 0]=S' [RV.d arf (-fY l p),RV.d arf 0];have:=gn (sqA p (ctr l)-l.2.2) (sqB p (ctr l)) p.2.2.2.2;rw[aM (by unfold fY;omega) (by unfold fY;omega),aps]
   ·rfl
end
section
open RE
def ovX(c:Cv)(p:Pt):Bool:=!ki c&&(!D' (aU (xP p) (xP (toC c))>=0)&&!D' (aU (xP p) (xP (frC c))<0))
def ovF(c:Cv)(p:Pt):Int:=bif ovX c p then mX c p else 0
def ovB(c:Cv)(p:Pt):Bool:=ovX c p&&(ph c p==0)
def ovP(c:BCU)(x:BO3)(p:BP):Prop:=x=enc (xP (dec p))/\okC 3500 c/\okP 3500 p
instance (c:BCU) (x:BO3) (p:BP):Decidable (ovP c x p):=Classical.propDecidable _
def yn(c:Cv)(p:Pt):Bool:=ovB c p&&D' (ovF c p>0)
def qR:List BCU->Pt->Bool->Int
 |[],_,o=>bif o then 1 else-1
 |c::l,p,o=>bif (ph (dC c) p==0)&&(mX (dC c) p==0)then 0 else qR l p (o ^^ yn (dC c) p)
def Ri(l:List BCU)(p:Pt)(o:Bool):Bool:=l.foldl (λo c=>o ^^ yn (dC c) p) o
def cnP(r:List BCU)(p:BP):Prop:=r.length<=10000/\(∀e∈r,okC 3500 e)/\okP 3500 p
instance (r:List BCU) (p:BP):Decidable (cnP r p):=Classical.propDecidable _
def hcP(r:List BCU)(p:BP):Prop:=cnP r p/\∀e∈r,gM e
instance (r:List BCU) (p:BP):Decidable (hcP r p):=Classical.propDecidable _
theorem Ta{c:Cv}{p:Pt}:((ph c p==0)&&(mX c p==0))=(inX c p&&(wH c p==0)):=by
 unfold ph mX;cases inX c p<;>rfl
theorem ab0{c:Cv}{p:Pt}:yn c p=(ovX c p&&D' (mX c p>0)):=by
 unfold yn ovB ovF;cases ovX c p
 ·rfl
 ·unfold ph mX;cases inX c p<;>rfl
theorem P1{l:List BCU}{p:Pt}:∀{o:Bool},(∀c∈l,((ph (dC c) p==0)&&(mX (dC c) p==0))=F')->qR l p o=bif Ri l p o then 1 else-1:=by
 induction l with
 |nil=>intros;rfl
 |cons c l ih=>
  intro o h;unfold qR;rw[h c (by simp),cond_false,ih λd hd=>h d (an4 _ hd)];rfl
theorem ab9{l:List BCU}{p:Pt}:∀{o:Bool} {c:BCU},c∈l->((ph (dC c) p==0)&&(mX (dC c) p==0))=T'->qR l p o=0:=by
 induction l with
 |nil=>intro o c h;cases h
 |cons d l ih=>
  intro o c h hc;unfold qR;cases hd:(ph (dC d) p==0)&&(mX (dC d) p==0)
  ·rcases an6.1 h with e|e
   ·rw[e,hd]at hc;cases hc
   ·exact ih e hc
  ·rfl
theorem XB{l:List BCU}{p:Pt}(hp:Rpd p)(hl:∀e∈l,gM e):qR l p F'=bif l.any (λc=>onR (dC c) p)then 0 else bif Ri l p F' then 1 else-1:=by
 cases h:l.any λc=>onR (dC c) p
 ·rw[List.any_eq_false]at h
  exact P1 λc hc=>by
   rw[Ta,<-Uw (hl c hc) hp];exact Bool.eq_false_iff.2 (h c hc)
 ·obtain⟨c,hc,h⟩:=List.any_eq_true.1 h;exact ab9 hc (by rw[Ta,<-Uw (hl c hc) hp,h])
theorem Mx{l:List BCU}{p:Pt}{i:Nat}(h:i<l.length)(o:Bool):Ri (l.drop i) p o=Ri (l.drop (i+1)) p (o ^^ yn (dC l[i]) p):=by
 rw[an5 h];rfl
theorem Mb{l:List BCU}{p:Pt}{i:Nat}(h:i<l.length)(o:Bool):qR (l.drop i) p o=bif (ph (dC l[i]) p==0)&&(mX (dC l[i]) p==0)then 0 else qR (l.drop (i+1)) p (o ^^ yn (dC l[i]) p):=by
 rw[an5 h];rfl
theorem akf{n:Int}(h:0<=n){o:Bool}(e:(Int.tmod n 2==1)=o):(Int.tmod (n+1) 2==1)=!o:=by
 rw[apu h]at e;rw[apu (by omega)];cases o
 ·have:=aom.1 e;exact aos.2 (by omega)
 ·have:=aos.1 e;exact aom.2 (by omega)
def aeN:List En:=[enL ww,enT ro,enT Gf,enT GS]
def abD(c:BCU)(x:BO3)(p:BP)(_k:KT):OLR:=og (D' (okC 3500 c)) (match ki (dC c)with|T'=>S' [RV.d arf 0,RV.d .bool F']|F'=>(og (D' (okP 4000 c.2.2.2.2.2)) (og (D' (okT 15000 x/\okT 15000 (hid (enc (xP (dec c.2.2.2.2.2)))))) (match D' ((aU (dec x) (dec (hid (enc (xP (dec c.2.2.2.2.2))))))>=0)with|T'=>S' [RV.d arf 0,RV.d .bool F']|F'=>(og (D' (okP 4000 c.2.2.2.2.1)) (og (D' (okT 15000 x/\okT 15000 (hid (enc (xP (dec c.2.2.2.2.1)))))) (match D' ((aU (dec x) (dec (hid (enc (xP (dec c.2.2.2.2.1))))))<0)with|T'=>S' [RV.d arf 0,RV.d .bool F']|F'=>(og (D' (okC 3500 c/\okP 3500 p)) (S' [RV.d arf (mX (dC c) (dec p)),RV.d .bool ((ph (dC c) (dec p))==0)])))))))))
def als:Cn 40 [tCU,tO,tP]:=cn λ(c:BCU) (x:BO3) (p:BP)=>lf (ovP c x p) [.d arf (ovF (dC c) (dec p)),.d .bool (ovB (dC c) (dec p))] λh=>by
 refine aA aeN (abD c x p) ⟨0,?_⟩;obtain⟨rfl,hc,hp⟩:=h;obtain⟨p,rfl,bp,rp⟩:=bQ hp;have h1:okC 3500 c/\okP 3500 (enc p):=⟨hc,hp⟩
 obtain⟨ar,li,ci,cw,fr,to⟩:=c;have hc':=hc;obtain⟨_,_,h3,h4⟩:=hc';dsimp only at h3 h4;obtain⟨f,rfl,bf,rf⟩:=bQ h3;obtain⟨t,rfl,bt,rt⟩:=bQ h4;have e1:frC (dC (ar,li,ci,cw,enc f,enc t))=f:=aq f;have e2:toC (dC (ar,li,ci,cw,enc f,enc t))=t:=aq t;unfold abD ovF ovB ovX;rw[e1,e2];simp only[aX,Nat.reduceLeDiff,aI,aN,dT hc,dT h1];cases ki (dC (ar,li,ci,cw,enc f,enc t))
 ·cases D' (aU (xP p) (xP t)>=0)
  ·cases D' (aU (xP p) (xP f)<0)<;>rfl
  ·rfl
 ·rfl
def UE:List En:=[enL ww,enT Gf,enT als]
def afl:NT:=[((9,10),{keep:=[3,5,6,16,17,18],hl:=3,er:=[0]})]
def ED:Ctx:=CX (ens UE) afl
def iE(r:List BCU)(p:BP)(s6 s18:Int):Cfg:=⟨9,[.blk 0,.seq 39],[(3,.box 1 0),(5,.box 2 0),(6,SI s6),(16,.d (.sl tCU) r),(17,SI (r.length:Int)),(18,SI s18)],[.gone,.box 40 (Ty.split tP p),.box 82 (Ty.split tO (hid (enc (xP (dec p)))))],0,[]⟩
def Zp(r:List BCU)(p:BP)(k:KT):OLR:=og (D' (okP 4000 p)) (k 10 (iE r p 0 0))
theorem aly(r:List BCU)(p:BP):RS ED 9 [.d (.st (.sl tCU)) r,.d tP p] (Zp r p):=rsX
def uK(r:List BCU)(p:BP)(s6 s18:Int)(k:KT):OLR:=match D' (s18<(r.length:Int))with|T'=>(match aH r s18 with|S' x1=>(og (D' (okC 3500 x1/\okP 3500 p)) (match(ph (dC x1) (dec p))==0 with|T'=>(match(mX (dC x1) (dec p))==0 with|T'=>S' [RV.d arf 0]|F'=>(og (D' (ovP x1 (hid (enc (xP (dec p)))) p)) (match ovB (dC x1) (dec p)with|T'=>(match D' ((ovF (dC x1) (dec p))>0)with|T'=>k 10 (iE r p (i64.wrap (s6+1)) (i64.wrap (s18+1)))|F'=>k 10 (iE r p s6 (i64.wrap (s18+1))))|F'=>k 10 (iE r p s6 (i64.wrap (s18+1))))))|F'=>(og (D' (ovP x1 (hid (enc (xP (dec p)))) p)) (match ovB (dC x1) (dec p)with|T'=>(match D' ((ovF (dC x1) (dec p))>0)with|T'=>k 10 (iE r p (i64.wrap (s6+1)) (i64.wrap (s18+1)))|F'=>k 10 (iE r p s6 (i64.wrap (s18+1))))|F'=>k 10 (iE r p s6 (i64.wrap (s18+1)))))))|none=>none)|F'=>(match(Int.tmod s6 2)==1 with|T'=>S' [RV.d arf 1]|F'=>S' [RV.d arf (-1)])
theorem Bc(r:List BCU)(p:BP)(s6 s18:Int):RN ED 10 (iE r p s6 s18) (uK r p s6 s18):=rnX
theorem aev{r:List BCU}{p:BP}(h:cnP r p):∀(j i:Nat),i+j=r.length->∀(n:Int) (o:Bool),0<=n->n<=i->(Int.tmod n 2==1)=o->ED.Runs 10 (iE r p n (i:Int)) [.d arf (qR (r.drop i) (dec p) o)]:=by
 obtain⟨hl,hr,hp⟩:=h;intro j;induction j with
 |zero=>
  intro i hi n o h0 hn ho;refine Bc _ _ _ _ ⟨0,?_⟩;unfold uK;rw[dF (show ¬(i:Int)<(r.length:Int) by omega),aou (by omega),ho];cases o<;>rfl
 |succ j ih=>
  intro i hi n o h0 hn ho;have hil:i<r.length:=by omega
  have hx:=hr _ (anY hil);have a1:okC 3500 r[i]/\okP 3500 p:=⟨hx,hp⟩
  have a2:ovP r[i] (enc (xP (dec p))) p:=⟨rfl,hx,hp⟩
  have ew:=aT (k:=i) (by omega);have wn:i64.wrap (n+1)=n+1:=aM (by omega) (by omega);rw[Mb hil]
  have st:∀q,(ph (dC r[i]) (dec p)==0&&mX (dC r[i]) (dec p)==0)=q->ED.Runs 10 (iE r p n (i:Int)) [.d arf (bif q then 0 else qR (r.drop (i+1)) (dec p) (o ^^ yn (dC r[i]) (dec p)))]:=λq hq=>by
   have u:∀z:Bool,z=yn (dC r[i]) (dec p)->∃m,ED.k m 10 (iE r p (bif z then n+1 else n) ((i+1:Nat):Int))=S' [.d arf (qR (r.drop (i+1)) (dec p) (o ^^ yn (dC r[i]) (dec p)))]:=λz hz=>by
    rw[<-hz];cases z
    ·exact(ih (i+1) (by omega) n o h0 (by omega) ho).imp λ_ h=>by rw[Bool.xor_false];exact h
    ·exact(ih (i+1) (by omega) (n+1) (!o) (by omega) (by omega) (akf h0 ho)).imp λ_ h=>by rw[Bool.xor_true];exact h
   obtain⟨m,hm⟩:=u _ rfl;refine Bc _ _ _ _ ⟨m,?_⟩;unfold uK;rw[dT (show(i:Int)<(r.length:Int) by omega),ak,anN hil];simp only[aR,dT a1,dT a2,ew,wn];revert hm hq;unfold yn;cases ph (dC r[i]) (dec p)==0<;>cases mX (dC r[i]) (dec p)==0<;>cases ovB (dC r[i]) (dec p)<;>cases decide (ovF (dC r[i]) (dec p)>0)<;>cases q<;>intro hq hm<;>first|exact hm|rfl|cases hq
  exact st _ rfl
def Zo:Cn 9 [(.st (.sl tCU)),tP]:=cn λ(r:List BCU) (p:BP)=>lf (cnP r p) [.d arf (qR r (dec p) F')] λh=>by
 have h':=h;obtain⟨m,hm⟩:=aev h r.length 0 (an2 _) 0 F' (aq7 _) (aq7 _) rfl;refine bj UE (aly _ _ ⟨m,?_⟩);unfold Zp;rw[dT (aV (k:=4000) h.2.2 (by decide) (by decide))];exact hm
def QN:List En:=[enT ES]
def afq:NT:=[((41,6),{keep:=[0,3,5],hl:=1})]
def Rf:Ctx:=CX (ens QN) afq
def Dw(l:List BCU)(p:BP)(s5:Int):Cfg:=⟨41,[.blk 0,.seq 23],[(0,.d (.sl tCU) l),(3,.box 0 0),(5,SI s5)],[.box 40 (Ty.split tP p)],0,[]⟩
def aiZ(l:List BCU)(p:BP)(k:KT):OLR:=k 6 (Dw l p 0)
theorem alP(l:List BCU)(p:BP):RS Rf 41 [.d (.sl tCU) l,.d tP p] (aiZ l p):=rsX
def xT(l:List BCU)(p:BP)(s5:Int)(k:KT):OLR:=match D' (s5<(l.length:Int))with|T'=>(match aH l s5 with|S' x1=>(og (D' (okC 3500 x1/\okP 3500 p)) (match onR (dC x1) (dec p)with|T'=>S' [RV.d .bool T']|F'=>k 6 (Dw l p (i64.wrap (s5+1)))))|none=>none)|F'=>S' [RV.d .bool F']
theorem Gc(l:List BCU)(p:BP)(s5:Int):RN Rf 6 (Dw l p s5) (xT l p s5):=rnX
theorem afc{l:List BCU}{p:BP}(h:cnP l p):∀(j i:Nat),i+j=l.length->Rf.Runs 6 (Dw l p (i:Int)) [.d .bool ((l.drop i).any λc=>onR (dC c) (dec p))]:=by
 obtain⟨hl,hr,hp⟩:=h;intro j;induction j with
 |zero=>
  intro i hi;refine Gc _ _ _ ⟨0,?_⟩;unfold xT;rw[dF (show ¬(i:Int)<(l.length:Int) by omega),aou (by omega)];rfl
 |succ j ih=>
  intro i hi;have hil:i<l.length:=by omega
  obtain⟨m,hm⟩:=ih (i+1) (by omega);refine Gc _ _ _ ⟨m,?_⟩;unfold xT;rw[dT (show(i:Int)<(l.length:Int) by omega),ak,anN hil,aT (k:=i) (by omega),an5 hil,List.any_cons];dsimp only;rw[dT (show okC 3500 l[i]/\okP 3500 p from⟨hr _ (anY hil),hp⟩)];cases onR (dC l[i]) (dec p)
  ·exact hm
  ·rfl
def akD:Cn 41 [(.sl tCU),tP]:=cn λ(l:List BCU) (p:BP)=>lf (cnP l p) [.d .bool (l.any λc=>onR (dC c) (dec p))] λh=>by
 obtain⟨m,hm⟩:=afc h l.length 0 (an2 _);exact bj QN (alP _ _ ⟨m,hm⟩)
def Np:List En:=[enL Bq,enT v9,enT aiB,enT Ux,enF akD]
def adL:NT:=[((10,18),{keep:=[2,3,5,6,7],hl:=3})]
def Ue:Ctx:=CX (ens Np) adL
def lM(r:List BCU)(p:BP)(s7 s5:Int):Cfg:=⟨10,[.blk 0,.seq 43],[(2,.box 0 0),(3,.box 1 0),(5,SI s5),(6,.box 2 0),(7,SI s7)],[.box 30 [.d (.sl tCU) r],.box 40 (Ty.split tP p),.box 82 (Ty.split tO (hid (enc (xP (dec p)))))],0,[]⟩
def YX(r:List BCU)(p:BP)(k:KT):OLR:=og (D' (cnP r p)) (match r.any λc=>onR (dC c) (dec p)with|T'=>S' [RV.d arf 0]|F'=>(og (D' (okP 4000 p)) (k 18 (lM r p 0 (-1)))))
theorem ajG(r:List BCU)(p:BP):RS Ue 10 [.d (.st (.sl tCU)) r,.d tP p] (YX r p):=rsX
def uD(r:List BCU)(p:BP)(s7 s5:Int)(k:KT):OLR:=match D' (s7<(r.length:Int))with|T'=>(match aH r s7 with|S' x1=>(og (D' (okC 3500 x1)) (match ki (dC x1)with|T'=>k 18 (lM r p (i64.wrap (s7+1)) s5)|F'=>(og (D' (okP 4000 x1.2.2.2.2.1)) (og (D' (okT 15000 (hid (enc (xP (dec x1.2.2.2.2.1))))/\okT 15000 (hid (enc (xP (dec p)))))) (match D' ((aU (dec (hid (enc (xP (dec x1.2.2.2.2.1))))) (dec (hid (enc (xP (dec p))))))>0)with|T'=>k 18 (lM r p (i64.wrap (s7+1)) s5)|F'=>(og (D' (okP 4000 x1.2.2.2.2.2)) (og (D' (okT 15000 (hid (enc (xP (dec p))))/\okT 15000 (hid (enc (xP (dec x1.2.2.2.2.2)))))) (match D' ((aU (dec (hid (enc (xP (dec p))))) (dec (hid (enc (xP (dec x1.2.2.2.2.2))))))>=0)with|T'=>k 18 (lM r p (i64.wrap (s7+1)) s5)|F'=>(og (D' (okC 3500 x1/\okP 3500 p)) (match D' ((mX (dC x1) (dec p))>0)with|T'=>k 18 (lM r p (i64.wrap (s7+1)) (i64.wrap (0-s5)))|F'=>k 18 (lM r p (i64.wrap (s7+1)) s5)))))))))))|none=>none)|F'=>S' [RV.d arf s5]
theorem BK(r:List BCU)(p:BP)(s7 s5:Int):RN Ue 18 (lM r p s7 s5) (uD r p s7 s5):=rnX
theorem acG{r:List BCU}{p:BP}(h:cnP r p):∀(j i:Nat),i+j=r.length->∀(o:Bool),Ue.Runs 18 (lM r p (i:Int) (bif o then 1 else-1)) [.d arf (bif Ri (r.drop i) (dec p) o then 1 else-1)]:=by
 obtain⟨hl,hr,hp⟩:=h;intro j;induction j with
 |zero=>
  intro i hi o;refine BK _ _ _ _ ⟨0,?_⟩;unfold uD;rw[dF (show ¬(i:Int)<(r.length:Int) by omega),aou (by omega)];rfl
 |succ j ih=>
  intro i hi o;have hil:i<r.length:=by omega
  have hx:=hr _ (anY hil);have a1:okC 3500 r[i]/\okP 3500 p:=⟨hx,hp⟩
  have a4:=bi (k:=4000) hx (by decide) (by decide);have p4:=aV (k:=4000) hp (by decide) (by decide);obtain⟨q,rfl,bq,rq⟩:=bQ hp;obtain⟨f,ef,bf,rf⟩:=bQ hx.2.2.1;obtain⟨t,et,bt,rt⟩:=bQ hx.2.2.2;have ew:=aT (k:=i) (by omega);have wo:i64.wrap (0-(bif o then 1 else-1))=bif !o then 1 else-1:=by cases o<;>rfl
  obtain⟨m,hm⟩:=ih (i+1) (by omega) (o ^^ yn (dC r[i]) (dec (enc q)));refine BK _ _ _ _ ⟨m,?_⟩;unfold uD;rw[Mx hil,dT (show(i:Int)<(r.length:Int) by omega),ak,anN hil]
  have e1:aU (xP (frC (dC r[i]))) (xP q)= -aU (xP q) (xP (frC (dC r[i]))):=by
   have:Rpd (frC (dC r[i])):=db hx.2.2.1;rw[By,By,<-IJ];congr 1;grind
  have e3:frC (dC r[i])=f:=by show dec r[i].2.2.2.2.1=f;rw[ef,aq]
  have e4:toC (dC r[i])=t:=by show dec r[i].2.2.2.2.2=t;rw[et,aq]
  have e2:D' (aU (xP f) (xP q)>0)=D' (aU (xP q) (xP f)<0):=by
   rw[<-e3,e1];exact aqg.2 (by omega)
  revert hm;rw[ab0];unfold ovX;rw[e3,e4];have q4:okP 4000 r[i].2.2.2.2.1/\okP 4000 r[i].2.2.2.2.2:=a4.2.2;simp only[aR,dT hx,dT a1,ew,wo,ef,et,aX,Nat.reduceLeDiff,aI,aN,e2];cases o<;>cases ki (dC r[i])<;>cases D' (aU (xP q) (xP f)<0)<;>cases D' (aU (xP q) (xP t)>=0)<;>cases D' (mX (dC r[i]) q>0)<;>exact λhm=>hm
def aky:Cn 10 [(.st (.sl tCU)),tP]:=cn λ(r:List BCU) (p:BP)=>lf (hcP r p) [.d arf (qR r (dec p) F')] λh=>by
 obtain⟨hc,hg⟩:=h;obtain⟨m,hm⟩:=acG hc r.length 0 (an2 _) F';refine bj Np (ajG _ _ ⟨m,?_⟩);unfold YX;rw[dT hc,XB (db hc.2.2) hg,dT (aV (k:=4000) hc.2.2 (by decide) (by decide))];cases r.any λc=>onR (dC c) (dec p)
 ·exact hm
 ·rfl
end
end Go.Proofs.YtoimchcjhdcdmaaGreat
end
