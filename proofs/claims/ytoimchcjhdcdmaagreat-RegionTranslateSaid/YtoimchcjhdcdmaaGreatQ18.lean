/- The reference's slopes. -/
import Derived.Test.YtoimchcjhdcdmaaGreatQ17
import Derived.Test.YtoimchcjhdcdmaaGreatQ16
import Derived.Test.YtoimchcjhdcdmaaGreatQ14
noncomputable section
namespace Go.Proofs.YtoimchcjhdcdmaaGreat
open Go.RowKit Go.IntKind
open Bool renaming true->T',false->F'
open Option renaming some->S',none->N'
open Decidable renaming decide->D'
theorem ao0:type_of% @Classical.epsilon_spec:=@Classical.epsilon_spec
theorem arf:type_of% @bne_self_eq_false:=@bne_self_eq_false
section
open RE
def jO(c:Cv)(p:Pt):Bool:=onR c p&&(!(aB (frC c) p==0)&&!(aB (toC c) p==0))
def oS(c:Cv):Bool:=!c.1&&(bj (xP (frC c)) (xP (toC c))==0)
def o0(c:BCU):Int:=bif c.1 then(bif c.2.2.2.1 then-1 else 1)else 0
def ngR(r:Rt):Rt:=(-r.1,-r.2.1,r.2.2)
def ivR(r:Rt):Rt:=iJ (r.1*(1/noR r)) (-(r.2.1*(1/noR r))) r.2.2
theorem al7{r:Rt}(h:Rdd r)(h0:sgR r≠0):noR r≠0:=by
 obtain⟨a,b,c⟩:=r;unfold noR;intro e;rcases h.rd with⟨h1,h2⟩|⟨h1,h2,h3⟩
 ·have h1:b=0:=h1;have h2:c=0:=h2;have e:a*a-b*b*c=0:=e;rw[h1,arV,arV]at e;have:a*a=0:=by grind
  have:a=0:=by
   rcases ar2.1 this with g|g<;>exact g
  rw[this,h1,h2]at h0;exact h0 rfl
 ·have h1:b≠0:=h1;have h3:eA c=false:=h3;have e:a*a-b*b*c=0:=e
  have:c=(a/b)*(a/b):=by
   have hb:b*b≠0:=λg=>by rcases ar2.1 g with g|g<;>exact h1 g
   grind
  rw[this,JF]at h3;cases h3
theorem aga{x y:Rt}(hx:Rdd x)(hy:Rdd y)(h:vR x=vR y):(bj x y==0)=true:=by
 rw[cmpT_re hx.nn hy.nn,h,sub_self,fq];rfl
def gW(c:BCU):Prop:=mG c/\dv (dC c) (frC (dC c))=T'/\dv (dC c) (toC (dC c))=T'
theorem v9{c:BCU}(h:gdN c):gW c:=⟨h.1,h.2.1,h.2.2.1⟩
theorem ahT{c:BCU}(h:gW c)(ha:c.1=F')(hv:oS (dC c)=F'):(dec c.2.1:Ln).2.1≠0:=by
 intro hb;have r1:Rpd (frC (dC c)):=cY h.1.1.2.2.1;have r2:Rpd (toC (dC c)):=cY h.1.1.2.2.2;have a0:(dec c.2.1:Ln).1≠0:=(h.1.1.2.1 ha).2.resolve_right λg=>g hb;have ha':(dC c).1=false:=ha;have s1:=ff.1 h.2.1;have s2:=ff.1 h.2.2;rw[ha',cond_false]at s1 s2;have s1:of (dec c.2.1:Ln).1*pX (frC (dC c))+of (dec c.2.1:Ln).2.1*pY (frC (dC c))=of (dec c.2.1:Ln).2.2:=s1;have s2:of (dec c.2.1:Ln).1*pX (toC (dC c))+of (dec c.2.1:Ln).2.1*pY (toC (dC c))=of (dec c.2.1:Ln).2.2:=s2;rw[hb,sN]at s1 s2;have e:=vw a0 (x:=pX (frC (dC c))) (y:=pX (toC (dC c))) (by grind);unfold oS at hv;rw[ha',aga inferInstance inferInstance (by rw[qK,qK,e])]at hv;cases hv
instance adZ {r:Rt} {j:Nat} [h:Bd r j]:Bd (ivR r) (6*j+10):=by
 have b1:Bd (1:Rat) 3:=dQ (n:=1) (by decide);have i:Bd (iJ (r.1*(1/noR r)) (-(r.2.1*(1/noR r))) r.2.2) _:=inferInstance;exact i.mono (jh (by omega) (jh (by omega) (by omega)))
theorem KY{a b c:Rat}(h:c=0\/(0<c/\eA c=F')):Rdd (iJ a b c):=by
 unfold iJ;by_cases hb:b=0
 ·rw[dT hb];exact(inferInstance:Rdd ((a,0,0):Rt))
 ·rw[dF hb,cond_false];rcases h with h|h
  ·rw[dT h];exact(inferInstance:Rdd ((a,0,0):Rt))
  ·rw[dF (λe=>by rw[e]at h;exact absurd h.1 (by decide))];exact⟨.inr ⟨hb,h.1,h.2⟩⟩
theorem HK{r:Rt}(h:Rdd r):r.2.2=0\/(0<r.2.2/\eA r.2.2=F'):=by
 rcases h.rd with h|h
 ·exact .inl h.2
 ·exact .inr h.2
def SS:List En:=[enT LL,enT nM,enT agu,enL KW,enL Kk]
def Zv(c:BCU)(p:BP)(_k:KT):OLR:=og (D' (okC 3500 c/\okP 3500 p)) (match onR (dC c) (dec p)with|T'=>(og (D' (okP 4000 c.2.2.2.2.1/\okP 4000 p)) (match !(aB (dec c.2.2.2.2.1) (dec p)==0)with|T'=>(og (D' (okP 4000 c.2.2.2.2.2/\okP 4000 p)) (S' [RV.d .bool (!(aB (dec c.2.2.2.2.2) (dec p)==0))]))|F'=>S' [RV.d .bool F']))|F'=>S' [RV.d .bool F'])
def akz:Cn 212 [tCU,tP]:=cn λ(c:BCU) (p:BP)=>lf (okC 3500 c/\okP 3500 p) [.d .bool (jO (dC c) (dec p))] λh=>by
 refine aA SS (Zv c p) ⟨0,?_⟩;obtain⟨h1,h2⟩:=h;have h4:=aY (k:=4000) h1 (by decide) (by decide);have hp:=aU (k:=4000) h2 (by decide) (by decide);unfold Zv jO;rw[dT (show okC 3500 c/\okP 3500 p from⟨h1,h2⟩),dT (show okP 4000 c.2.2.2.2.1/\okP 4000 p from⟨h4.2.2.1,hp⟩),dT (show okP 4000 c.2.2.2.2.2/\okP 4000 p from⟨h4.2.2.2,hp⟩)];have e3:frC (dC c)=dec c.2.2.2.2.1:=rfl;have e4:toC (dC c)=dec c.2.2.2.2.2:=rfl;rw[e3,e4];cases onR (dC c) (dec p)<;>cases aB (dec c.2.2.2.2.1) (dec p)==0<;>rfl
def ZZ(c:BCU)(_k:KT):OLR:=match !c.1 with|T'=>(og (D' (okP 4000 c.2.2.2.2.1)) (og (D' (okP 4000 c.2.2.2.2.2)) (og (D' (okT 15000 (hid (enc (xP (dec c.2.2.2.2.1))))/\okT 15000 (hid (enc (xP (dec c.2.2.2.2.2)))))) (S' [RV.d .bool (bj (dec (hid (enc (xP (dec c.2.2.2.2.1))))) (dec (hid (enc (xP (dec c.2.2.2.2.2)))))==0)]))))|F'=>S' [RV.d .bool F']
def anf:Cn 43 [tCU]:=cn λ(c:BCU)=>lf (okC 3500 c) [.d .bool (oS (dC c))] λh=>by
 refine aA SS (ZZ c) ⟨0,?_⟩;obtain⟨ar,li,ci,cw,fr,to⟩:=c;obtain⟨_,_,h3,h4⟩:=h;obtain⟨f,rfl,bf,rf⟩:=bL h3;obtain⟨t,rfl,bt,rt⟩:=bL h4;unfold ZZ oS;simp only[aV,Nat.reduceLeDiff,aI,aL];cases ar
 ·show _=S' [RV.d .bool (bj (xP (dec (enc f))) (xP (dec (enc t)))==0)];rw[ao,ao];rfl
 ·rfl
def ad4:List En:=[enL lg]
def RA(_k:KT):OLR:=og (D' (bI (1:Int))) (S' [RV.d tR (hid (av ((1:Int):Rat)))])
def afm:Cn 370 []:=cn<|lf True [.d tR (av 1)] λ_=>by
 refine aA ad4 (RA) ⟨0,?_⟩;unfold RA;rw[dT (show bI 1 by decide)];simp only[aQ];rfl
def adm:List En:=[enL ou]
def Ov(r:BO3)(_k:KT):OLR:=og (o1 r.1) (og (o1 r.2.1) (S' [RV.d tO (hNe r.1,(hNe r.2.1,r.2.2))]))
def agE:Cn 327 [tO]:=cn λ(r:BO3)=>lf (ok Rt 100000 r) [.d tO (enc (ngR (dec r)))] λh=>by
 refine aA adm (Ov r) ⟨0,?_⟩;have hr:=h;obtain⟨r,rfl,br⟩:=aJ hr;unfold Ov;simp only[aV,Nat.reduceLeDiff];try rfl
def afR:List En:=[enT IY,enL Qe,enL xU,enL n7,enL ou,enL I0,enL afm]
def aao(r:BO3)(_k:KT):OLR:=og (D' (okT 90000 r)) (match(sgR (dec r))==0 with|T'=>S' [RV.d tO (((F',[]),(F',[])),(((F',[]),(F',[])),((F',[]),(F',[])))),RV.d ask 6]|F'=>(og (D' (ok Rt 90000 r)) (og (D' (jK (hid (av 1)) (hid (av (noR (dec r)))))) (og (o2 r.1 (hDi (hid (av 1)) (hid (av (noR (dec r)))))) (og (o2 r.2.1 (hDi (hid (av 1)) (hid (av (noR (dec r)))))) (og (o1 (hMu r.2.1 (hDi (hid (av 1)) (hid (av (noR (dec r))))))) (og (D' (okR (hMu r.1 (hDi (hid (av 1)) (hid (av (noR (dec r))))))/\okR (hNe (hMu r.2.1 (hDi (hid (av 1)) (hid (av (noR (dec r)))))))/\okR r.2.2)) (S' [RV.d tO (hid (enc (iJ (ag (hMu r.1 (hDi (hid (av 1)) (hid (av (noR (dec r))))))) (ag (hNe (hMu r.2.1 (hDi (hid (av 1)) (hid (av (noR (dec r)))))))) (ag r.2.2)))),RV.d ask 0]))))))))
def aki:Cn 325 [tO]:=cn λ(r:BO3)=>lf (okT 600 r/\sgR (dec r)≠0) [.d tO (enc (ivR (dec r))),.d ask 0] λh=>by
 refine aA afR (aao r) ⟨0,?_⟩;obtain⟨hr,h0⟩:=h;obtain⟨r,rfl,br,rr⟩:=gn hr;rw[ao]at h0;have hn:=al7 rr h0;have b1:Bd (1:Rat) 3:=dQ (n:=1) (by decide);unfold aao ivR;simp only[aV,Nat.reduceAdd,Nat.reduceMul,Nat.reduceLeDiff,aI,hn,ne_eq,aqq];try rw[apk.2 h0]
 try rfl
theorem aea{q:Pt}(a b:Rat):oN (ngR (arT (xP q) a)) (ivR (arT (yP q) b))=true:=by
 unfold oN;by_cases hx:q.2.1=0
 ·have e:(xP q).2.1=0:=by unfold xP coR;rw[dT hx];rfl
  rw[dT (show(ngR (arT (xP q) a)).2.1=0 by show-(xP q).2.1=0;rw[e];rfl)];rfl
 ·by_cases hy:q.2.2.2.1=0
  ·have e:(yP q).2.1=0:=by unfold yP coR;rw[dT hy];rfl
   have:(ivR (arT (yP q) b)).2.1=0:=by
    unfold ivR iJ;rw[dT (show-((arT (yP q) b).2.1*(1/noR (arT (yP q) b)))=0 by show-((yP q).2.1*_)=0;rw[e,arV];rfl)];rfl
   rw[dT this,Bool.true_or,ar8]
  ·have ex:(ngR (arT (xP q) a)).2.2=q.2.2.2.2:=by show(xP q).2.2=_;unfold xP coR;rw[dF hx];rfl
   have ey:(arT (yP q) b).2.2=q.2.2.2.2:=by show(yP q).2.2=_;unfold yP coR;rw[dF hy];rfl
   have:(ivR (arT (yP q) b)).2.1=0\/(ivR (arT (yP q) b)).2.2=q.2.2.2.2:=by
    unfold ivR iJ;rw[ey];cases D' (-((arT (yP q) b).2.1*(1/noR (arT (yP q) b)))=0)
    ·cases D' (q.2.2.2.2=0)
     ·exact .inr rfl
     ·exact .inl rfl
    ·exact .inl rfl
   rcases this with h|h
   ·rw[dT h,Bool.true_or,ar8]
   ·rw[h,ex,dT rfl,ar8,ar8]
theorem amx{r:Rt}(h:Rdd r):Rdd (ngR r):=by
 refine⟨?_⟩;rcases h.rd with⟨h1,h2⟩|⟨h1,h2,h3⟩
 ·exact .inl ⟨by show-r.2.1=0;rw[h1];rfl,h2⟩
 ·exact .inr ⟨λe=>h1 (by have e: -r.2.1=0:=e;grind),h2,h3⟩
theorem aiu{r:Rt}(h:Rdd r):Rdd (ivR r):=KY (HK h)
theorem VH{r s:Rt}(h:Rdd r)(h':Rdd s):Rdd (kH r s):=by
 refine KY ?_;unfold gr;cases D' (r.2.1=0)
 ·exact HK h
 ·exact HK h'
def RX(c:BCU)(p:BP):Prop:=∃x,bK x/\(c=loN x\/c=upN x)/\p=enc (db (dec x))
def xG(c d:BCU):Prop:=∃x,bK x/\c=upN x/\d=loN x
theorem ahc{c:BCU}{p:BP}(h:RX c p){x:Ln}(ec:c.2.2.1=enc x){q:Pt}(ep:p=enc q):sgR (arT (yP q) (-x.2.1))=0:=by
 obtain⟨y,_,h1,h2⟩:=h;have e1:c.2.2.1=y:=by rcases h1 with e|e<;>rw[e]<;>rfl
 rw[ec]at e1;subst e1;rw[ep]at h2;have e2:=congrArg (dec:BP->Pt) h2;rw[ao,ao,ao]at e2;subst e2
 have:yP (db x)=(x.2.1,0,0):=by
  unfold db lY yP;cases eA x.2.2
  ·rfl
  ·show coR (x.2.1+0*rtQ x.2.2) 0 0=_;rw[arV,Rat.add_zero];rfl
 rw[this];unfold arT;rw[show x.2.1+ -x.2.1=0 by grind];rfl
def Ui:List En:=[enT anf,enL ou,enL xU,enL Hp,enL KW,enL Kk,enL IC,enT IY,enL aki,enL Up,enL agE]
def BW(c:BCU)(p:BP)(_k:KT):OLR:=og (D' (okC 3500 c)) (match oS (dC c)with|T'=>S' [RV.d kK (2,(((F',[]),(F',[])),(((F',[]),(F',[])),((F',[]),(F',[])))))]|F'=>(match !c.1 with|T'=>(og (o1 c.2.1.1) (og (D' (jK (hNe c.2.1.1) c.2.1.2.1)) (og (o1 (hDi (hNe c.2.1.1) c.2.1.2.1)) (S' [RV.d kK (0,hid (enc ((ag (hDi (hNe c.2.1.1) c.2.1.2.1),0,0):Rt)))]))))|F'=>(og (D' (okP 4000 p)) (og (o1 c.2.2.1.1) (og (D' (ok Rt 100000 (hid (enc (xP (dec p))))/\ok Rat 100000 (hNe c.2.2.1.1))) (og (D' (okP 4000 p)) (og (o1 c.2.2.1.2.1) (og (D' (ok Rt 100000 (hid (enc (yP (dec p))))/\ok Rat 100000 (hNe c.2.2.1.2.1))) (og (D' (okT 90000 (hid (enc (arT (dec (hid (enc (yP (dec p))))) (ag (hNe c.2.2.1.2.1))))))) (match(sgR (dec (hid (enc (arT (dec (hid (enc (yP (dec p))))) (ag (hNe c.2.2.1.2.1)))))))==0 with|T'=>(match c.2.2.2.1 with|T'=>S' [RV.d kK (1,(((F',[]),(F',[])),(((F',[]),(F',[])),((F',[]),(F',[])))))]|F'=>S' [RV.d kK (-1,(((F',[]),(F',[])),(((F',[]),(F',[])),((F',[]),(F',[])))))])|F'=>(og (D' (okT 600 (hid (enc (arT (dec (hid (enc (yP (dec p))))) (ag (hNe c.2.2.1.2.1)))))/\sgR (dec (hid (enc (arT (dec (hid (enc (yP (dec p))))) (ag (hNe c.2.2.1.2.1))))))≠0)) (og (D' (ok Rt 100000 (hid (enc (arT (dec (hid (enc (xP (dec p))))) (ag (hNe c.2.2.1.1))))))) (og (D' (ok Rt 50000 (hid (enc (ngR (dec (hid (enc (arT (dec (hid (enc (xP (dec p))))) (ag (hNe c.2.2.1.1)))))))))/\ok Rt 50000 (hid (enc (ivR (dec (hid (enc (arT (dec (hid (enc (yP (dec p))))) (ag (hNe c.2.2.1.2.1)))))))))/\oN (dec (hid (enc (ngR (dec (hid (enc (arT (dec (hid (enc (xP (dec p))))) (ag (hNe c.2.2.1.1)))))))))) (dec (hid (enc (ivR (dec (hid (enc (arT (dec (hid (enc (yP (dec p))))) (ag (hNe c.2.2.1.2.1))))))))))=T')) (S' [RV.d kK (0,hid (enc (kH (dec (hid (enc (ngR (dec (hid (enc (arT (dec (hid (enc (xP (dec p))))) (ag (hNe c.2.2.1.1)))))))))) (dec (hid (enc (ivR (dec (hid (enc (arT (dec (hid (enc (yP (dec p))))) (ag (hNe c.2.2.1.2.1)))))))))))))]))))))))))))))
def Mr(c:BCU)(p:BP):Prop:=∃v:SLp,(λv:SLp=>(v.1=0->okT 15000 v.2)/\(v.1≠0->v.1≠2->c.1=T')/\(RX c p->v=(bif c.2.2.2.1 then 1 else-1,z3))) v/\CQq7 282 [.d tCU c,.d tP p] [.d kK v]
instance (c:BCU) (p:BP):Decidable (Mr c p):=Classical.propDecidable _
def qb(c:BCU)(p:BP):SLp:=Classical.epsilon λv=>(λv:SLp=>(v.1=0->okT 15000 v.2)/\(v.1≠0->v.1≠2->c.1=T')/\(RX c p->v=(bif c.2.2.2.1 then 1 else-1,z3))) v/\CQq7 282 [.d tCU c,.d tP p] [.d kK v]
theorem JI{c:BCU}{p:BP}(h:Mr c p):(λv:SLp=>(v.1=0->okT 15000 v.2)/\(v.1≠0->v.1≠2->c.1=T')/\(RX c p->v=(bif c.2.2.2.1 then 1 else-1,z3))) (qb c p):=(ao0 h).1
def amb:Cn 282 [tCU,tP]:=cn λ(c:BCU) (p:BP)=>lf (Mr c p) [.d kK (qb c p)] λh=>(ao0 h).2
theorem Sy{c:BCU}{p:BP}(h:gW c)(hp:okP 580 p):Mr c p:=by
 suffices gX:∃v:SLp,(λv:SLp=>(v.1=0->okT 15000 v.2)/\(v.1≠0->v.1≠2->c.1=T')/\(RX c p->v=(bif c.2.2.2.1 then 1 else-1,z3))) v/\BW c p ((CX (ens Ui) []).k 0)=S' [.d kK v] from gX.elim λv h=>⟨v,h.1,aA Ui (BW c p) ⟨0,h.2⟩⟩
 have h35:okC 3500 c:=aY h.1.1 (by decide) (by decide);have hp4:okP 4000 p:=aU hp (by decide) (by decide);cases hv:oS (dC c)
 ·cases ha:c.1
  ·obtain⟨l,el,bl,nl⟩:=dL (h.1.2.2 ha);have hb:=ahT h ha hv;rw[el,ao]at hb;have i1:Bd (-l.1/l.2.1) 24:=(inferInstance:Bd (-l.1/l.2.1) _)
   refine⟨(0,enc ((-l.1/l.2.1,0,0):Rt)),⟨λ_=>aoQ (aI (j:=24) (by decide) (by decide)),(λe=>absurd rfl e),λg=>by obtain⟨_,_,g|g,_⟩:=g<;>(rw[g]at ha;cases ha)⟩,?_⟩;unfold BW;rw[el];simp only[hv,ha,dT h35,aV,aC,Nat.reduceLeDiff,hb,ne_eq,aqq];rfl
  ·obtain⟨x,ex,bx,x0⟩:=b8 (h.1.2.1 ha);obtain⟨q,rfl,bq,rq⟩:=bL hp;have b1:Bd (arT (xP q) (-x.1)) 585:=(inferInstance:Bd (arT (xP q) (-x.1)) _)
   have b2:Bd (arT (yP q) (-x.2.1)) 585:=(inferInstance:Bd (arT (yP q) (-x.2.1)) _)
   by_cases hy:sgR (arT (yP q) (-x.2.1))=0
   ·refine⟨(bif c.2.2.2.1 then 1 else-1,z3),⟨(by cases c.2.2.2.1<;>(intro e;cases e)),(λ_ _=>rfl),λ_=>rfl⟩,?_⟩;unfold BW;rw[ex];simp only[hv,ha,dT h35,dT hp4,aV,aC,Nat.reduceAdd,Nat.reduceMul,Nat.reduceLeDiff,aI,hy];cases c.2.2.2.1<;>rfl
   ·have r1:=amx (inferInstance:Rdd (arT (xP q) (-x.1)));have r2:=aiu (inferInstance:Rdd (arT (yP q) (-x.2.1)));have r3:=VH r1 r2;have b3:Bd (ngR (arT (xP q) (-x.1))) 585:=(inferInstance:Bd ((-(arT (xP q) (-x.1)).1,-(arT (xP q) (-x.1)).2.1,(arT (xP q) (-x.1)).2.2):Rt) _).mono (by decide);have b4:Bd (ivR (arT (yP q) (-x.2.1))) 3520:=adZ (j:=585);have b5:Bd (kH (ngR (arT (xP q) (-x.1))) (ivR (arT (yP q) (-x.2.1)))) 15000:=(inferInstance:Bd (kH (ngR (arT (xP q) (-x.1))) (ivR (arT (yP q) (-x.2.1)))) _).mono (by decide);have hc:=aea (q:=q) (-x.1) (-x.2.1);refine⟨(0,enc (kH (ngR (arT (xP q) (-x.1))) (ivR (arT (yP q) (-x.2.1))))),⟨λ_=>aoQ (aI (j:=15000) (by decide) (by decide)),(λe=>absurd rfl e),λg=>absurd (ahc g ex rfl) hy⟩,?_⟩;unfold BW;rw[ex];simp only[hv,ha,dT h35,dT hp4,aV,aC,Nat.reduceLeDiff,aI,apk.2 hy,dT (show sgR (arT (yP q) (-x.2.1))≠0 from hy),hc];rfl
 ·refine⟨(2,z3),⟨(λe=>nomatch e),(λ_ e=>absurd rfl e),λg=>by obtain⟨_,_,g|g,_⟩:=g<;>(rw[g]at hv;cases hv)⟩,?_⟩;unfold BW;rw[dT h35,hv];rfl
def Uo:List En:=[]
def YR(c:BCU)(_k:KT):OLR:=match !c.1 with|T'=>S' [RV.d ask 0]|F'=>(match c.2.2.2.1 with|T'=>S' [RV.d ask (-1)]|F'=>S' [RV.d ask 1])
def akf:Cn 328 [tCU]:=cn λ(c:BCU)=>lf True [.d ask (o0 c)] λ_=>by
 refine aA Uo (YR c) ⟨0,?_⟩;unfold YR o0;cases c.1
 ·rfl
 ·cases c.2.2.2.1<;>rfl
def PY:List En:=enL amb::enT nM::enT oW::enT DV::enT akf::Uo
def aeB:NT:=[((209,55),{keep:=[59],hl:=0})]
def abw:Ctx:=CX (ens PY) aeB
def K5(c d:BCU)(_k:KT):OLR:=og (D' (okP 4000 c.2.2.2.2.1/\okP 4000 d.2.2.2.2.1)) (match !(aB (dec c.2.2.2.2.1) (dec d.2.2.2.2.1)==0)with|T'=>S' [RV.d ask 0,RV.d ask 1]|F'=>(og (D' (Mr c c.2.2.2.2.1)) (og (D' (Mr d d.2.2.2.2.1)) (match((hid ((qb c c.2.2.2.2.1))).1) !=((hid ((qb d d.2.2.2.2.1))).1)with|T'=>(match D' (((hid ((qb c c.2.2.2.2.1))).1)<((hid ((qb d d.2.2.2.2.1))).1))with|T'=>S' [RV.d ask (-1),RV.d ask 0]|F'=>S' [RV.d ask 1,RV.d ask 0])|F'=>(match((hid ((qb c c.2.2.2.2.1))).1)==2 with|T'=>S' [RV.d ask 0,RV.d ask 0]|F'=>(match((hid ((qb c c.2.2.2.2.1))).1) !=0 with|T'=>(og (o2 c.2.2.1.2.2 d.2.2.1.2.2) (S' [RV.d ask (i64.wrap (((hid ((qb c c.2.2.2.2.1))).1)*(aD (ag c.2.2.1.2.2) (ag d.2.2.1.2.2)))),RV.d ask 0]))|F'=>(og (D' (okT 15000 ((hid ((qb c c.2.2.2.2.1))).2)/\okT 15000 ((hid ((qb d d.2.2.2.2.1))).2))) (match(bj (dec ((hid ((qb c c.2.2.2.2.1))).2)) (dec ((hid ((qb d d.2.2.2.2.1))).2))) !=0 with|T'=>S' [RV.d ask (bj (dec ((hid ((qb c c.2.2.2.2.1))).2)) (dec ((hid ((qb d d.2.2.2.2.1))).2))),RV.d ask 0]|F'=>(match(o0 c) !=(o0 d)with|T'=>(match D' ((o0 c)<(o0 d))with|T'=>S' [RV.d ask (-1),RV.d ask 0]|F'=>S' [RV.d ask 1,RV.d ask 0])|F'=>(match(o0 c)==0 with|T'=>S' [RV.d ask 0,RV.d ask 0]|F'=>(og (o2 c.2.2.1.2.2 d.2.2.1.2.2) (S' [RV.d ask (i64.wrap ((i64.wrap (0-(o0 c)))*(aD (ag c.2.2.1.2.2) (ag d.2.2.1.2.2)))),RV.d ask 0]))))))))))))
theorem aiL(c d:BCU):RS abw 209 [.d tCU c,.d tCU d] (K5 c d):=rsX
def Tn(c d:BCU):Prop:=∃v:Int×Int,(λv:Int×Int=>xG c d->v.1=1) v/\CQq7 209 [.d tCU c,.d tCU d] [.d ask v.1,.d ask v.2]
instance (c:BCU) (d:BCU):Decidable (Tn c d):=Classical.propDecidable _
def LX(c d:BCU):Int×Int:=Classical.epsilon λv=>(λv:Int×Int=>xG c d->v.1=1) v/\CQq7 209 [.d tCU c,.d tCU d] [.d ask v.1,.d ask v.2]
theorem V5{c d:BCU}(h:Tn c d):(λv:Int×Int=>xG c d->v.1=1) (LX c d):=(ao0 h).1
def akC:Cn 209 [tCU,tCU]:=cn λ(c d:BCU)=>lf (Tn c d) [.d ask ((LX c d).1),.d ask ((LX c d).2)] λh=>(ao0 h).2
theorem TP{c d:BCU}(hc:gW c)(hd:gW d):Tn c d:=by
 suffices gX:∃v:Int×Int,(λv:Int×Int=>xG c d->v.1=1) v/\∃nX,K5 c d (abw.k nX)=S' [.d ask v.1,.d ask v.2] from gX.elim λv h=>⟨v,h.1,aX PY (aiL c d h.2)⟩
 have j1:=Sy hc hc.1.1.2.2.1;have j2:=Sy hd hd.1.1.2.2.1;obtain⟨s1,s2,s3⟩:=JI j1;obtain⟨t1,t2,t3⟩:=JI j2
 have oq:∀{e:BCU},gW e->e.1=T'->okR e.2.2.1.2.2:=λh ha=>by
  obtain⟨x,ex,bx,_⟩:=b8 (h.1.2.1 ha);rw[ex];exact aoQ (Aa (q:=x.2.2) (j:=13) (by decide))
 have k1:okP 4000 c.2.2.2.2.1/\okP 4000 d.2.2.2.2.1:=⟨aU hc.1.1.2.2.1 (by decide) (by decide),aU hd.1.1.2.2.1 (by decide) (by decide)⟩
 by_cases hD:xG c d
 ·obtain⟨x,hx,rfl,rfl⟩:=hD;have e1:=s3 ⟨x,hx,.inr rfl,rfl⟩;have e2:=t3 ⟨x,hx,.inl rfl,rfl⟩;have r1:=cY k1.1;have r2:=cY k1.2;have z:(aB (dec (upN x).2.2.2.2.1) (dec (loN x).2.2.2.2.1)==0)=true:=apw.2 (cmpP_0.2 rfl);refine⟨(1,0),(λ_=>rfl),0,?_⟩;unfold K5;simp only[aQ,dT j1,dT j2,dT k1,e1,e2,z];rfl
 have nD:∀{v:Int×Int},xG c d->v.1=1:=λg=>absurd g hD;unfold K5;simp only[aQ,dT j1,dT j2,dT k1];generalize qb c c.2.2.2.2.1=s at*
 generalize qb d d.2.2.2.2.1=t at*
 cases aB (dec c.2.2.2.2.1) (dec d.2.2.2.2.1)==0
 ·exact⟨(_,_),nD,0,rfl⟩
 by_cases q1:s.1=t.1
 ·rw[show(s.1 !=t.1)=F' by rw[q1];exact arf _];by_cases q2:s.1=2
  ·rw[apw.2 q2];exact⟨(_,_),nD,0,rfl⟩
  rw[apk.2 q2];by_cases q3:s.1=0
  ·rw[show(s.1 !=0)=F' by rw[q3];rfl,dT (show okT 15000 s.2/\okT 15000 t.2 from⟨s1 q3,t1 (q1▸q3)⟩)];cases bj (dec s.2) (dec t.2) !=0
   ·by_cases q4:o0 c=o0 d
    ·rw[show(o0 c !=o0 d)=F' by rw[q4];exact arf _];by_cases q5:o0 c=0
     ·rw[apw.2 q5];exact⟨(_,_),nD,0,rfl⟩
     ·have ha:∀{e:BCU},o0 e≠0->e.1=true:=λ{e} h=>by
       unfold o0 at h;cases g:e.1
       ·rw[g]at h;exact absurd rfl h
       ·rfl
      rw[apk.2 q5,show o2 c.2.2.1.2.2 d.2.2.1.2.2=T' from dT ⟨oq hc (ha q5),oq hd (ha (q4▸q5))⟩];exact⟨(_,_),nD,0,rfl⟩
    ·rw[aqZ.2 q4];cases D' (o0 c<o0 d)<;>exact⟨(_,_),nD,0,rfl⟩
   ·exact⟨(_,_),nD,0,rfl⟩
  ·rw[aqZ.2 q3,show o2 c.2.2.1.2.2 d.2.2.1.2.2=T' from dT ⟨oq hc (s2 q3 q2),oq hd (t2 (q1▸q3) (q1▸q2))⟩];exact⟨(_,_),nD,0,rfl⟩
 ·rw[aqZ.2 q1];cases D' (s.1<t.1)<;>exact⟨(_,_),nD,0,rfl⟩
def SH:List En:=[enL akC,enT r9]
def P5(c d:BCU)(_k:KT):OLR:=og (D' (okP 4000 c.2.2.2.2.1/\okP 4000 d.2.2.2.2.1)) (match(aB (dec c.2.2.2.2.1) (dec d.2.2.2.2.1)) !=0 with|T'=>S' [RV.d ask (aB (dec c.2.2.2.2.1) (dec d.2.2.2.2.1))]|F'=>(og (D' (Tn c d)) (match((LX c d).1) !=0 with|T'=>S' [RV.d ask ((LX c d).1)]|F'=>(og (D' (okP 4000 c.2.2.2.2.2/\okP 4000 d.2.2.2.2.2)) (S' [RV.d ask (aB (dec c.2.2.2.2.2) (dec d.2.2.2.2.2))])))))
def Vh(c d:BCU):Prop:=∃v:Int,(λv:Int=>xG c d->v=1) v/\CQq7 135 [.d tCU c,.d tCU d] [.d ask v]
instance (c:BCU) (d:BCU):Decidable (Vh c d):=Classical.propDecidable _
def UV(c d:BCU):Int:=Classical.epsilon λv=>(λv:Int=>xG c d->v=1) v/\CQq7 135 [.d tCU c,.d tCU d] [.d ask v]
def abn:Cn 135 [tCU,tCU]:=cn λ(c d:BCU)=>lf (Vh c d) [.d ask (UV c d)] λh=>(ao0 h).2
theorem Eb{c d:BCU}(hc:gW c)(hd:gW d):Vh c d:=by
 suffices gX:∃v:Int,(λv:Int=>xG c d->v=1) v/\P5 c d ((CX (ens SH) []).k 0)=S' [.d ask v] from gX.elim λv h=>⟨v,h.1,aA SH (P5 c d) ⟨0,h.2⟩⟩
 have k1:okP 4000 c.2.2.2.2.1/\okP 4000 d.2.2.2.2.1:=⟨aU hc.1.1.2.2.1 (by decide) (by decide),aU hd.1.1.2.2.1 (by decide) (by decide)⟩
 have k2:okP 4000 c.2.2.2.2.2/\okP 4000 d.2.2.2.2.2:=⟨aU hc.1.1.2.2.2 (by decide) (by decide),aU hd.1.1.2.2.2 (by decide) (by decide)⟩
 have j:=V5 (TP hc hd);unfold P5;simp only[dT (TP hc hd),dT k1,dT k2];by_cases hD:xG c d
 ·have r1:=cY k1.1
  have z:(aB (dec c.2.2.2.2.1) (dec d.2.2.2.2.1) !=0)=false:=by
   obtain⟨x,_,rfl,rfl⟩:=hD;have r1:=cY k1.1;have r2:=cY k1.2;rw[show aB (dec (upN x).2.2.2.2.1) (dec (loN x).2.2.2.2.1)=0 from cmpP_0.2 rfl];rfl
  refine⟨1,(λ_=>rfl),?_⟩;rw[z,j hD];rfl
 have nD:∀{v:Int},xG c d->v=1:=λg=>absurd g hD;cases aB (dec c.2.2.2.2.1) (dec d.2.2.2.2.1) !=0
 ·cases(LX c d).1 !=0<;>exact⟨_,nD,rfl⟩
 ·exact⟨_,nD,rfl⟩
end
section
open RE
def oc(w:Bool)(k i l j m n:Nat):Int:=bif w then lA dI (ufA k,i) (ufA l,j) (ufA m,n)else lA cI (upA k,i) (upA l,j) (upA m,n)
def hk(w:Bool)(k:Nat):Bool:=bif w then k !=3 else k !=1
theorem aeX:∀(w:Bool) (kF kP kT:Fin 4) (iF iP iT:Fin 3),(Ge kF.1 iF.1 kP.1 iP.1 kT.1 iT.1&&(hk w kF.1&&(hk w kT.1&&(D' (iF.1<iT.1)&&(D' (oc w kF.1 iF.1 kF.1 iF.1 kP.1 iP.1<=0)&&D' (oc w kF.1 iF.1 kP.1 iP.1 kT.1 iT.1<=0))))))=T'->(hk w kP.1&&(D' (iF.1<=iP.1)&&D' (iP.1<=iT.1)))=true:=by decide+kernel
theorem afV:∀(w:Bool) (kF kA kB:Fin 4) (iF iA iB:Fin 3),(Ge kF.1 iF.1 kA.1 iA.1 kB.1 iB.1&&(hk w kF.1&&(hk w kA.1&&(hk w kB.1&&(D' (iF.1<=iA.1)&&(D' (iF.1<=iB.1)&&D' (oc w kF.1 iF.1 kA.1 iA.1 kB.1 iB.1<0)))))))=T'->D' (iA.1<iB.1)=true:=by decide+kernel
def wo(k i l j:Nat):Bool:=An k i l j&&An l j k i
def inF(w:Bool)(ka ia kb ib k i:Nat):Bool:=D' (oc w ka ia ka ia k i<=0)&&(D' (oc w ka ia k i kb ib<=0)&&(!(ka==k&&ia==i)&&!(kb==k&&ib==i)))
theorem adM:∀(w:Bool) (ka kb:Fin 4) (ia ib il ir:Fin 4),(wo ka.1 ia.1 kb.1 ib.1&&(wo ka.1 ia.1 2 il.1&&(wo ka.1 ia.1 0 ir.1&&(wo kb.1 ib.1 2 il.1&&(wo kb.1 ib.1 0 ir.1&&(wo 2 il.1 0 ir.1&&(!(ka.1==kb.1&&ia.1==ib.1)&&(!inF w ka.1 ia.1 kb.1 ib.1 2 il.1&&!inF w ka.1 ia.1 kb.1 ib.1 0 ir.1))))))))=T'->
  (hk w ka.1&&(hk w kb.1&&D' (ia.1<ib.1))||hk (!w) ka.1&&(hk (!w) kb.1&&D' (ib.1<ia.1)))=true:=by decide+kernel
def kc(c:Cv)(p:Pt):Nat:=cls (pX p-of (ciC c).1) (pY p-of (ciC c).2.1)
def rx(L:List RE)(p:Pt):Nat:=rk (λa b:RE=>a<b) L (pX p)
theorem wc(c:Cv)(p:Pt):kc c p<4:=CQ _ _
section
variable {c:Cv} {L:List RE} {x y:Pt}
theorem rh(mx:pX x∈L)(my:pX y∈L):pX x<pX y↔rx L x<rx L y:=qY lt_lin mx my
theorem gi(q:0<(ciC c).2.2)(hx:onCi (ciC c) x)(hy:onCi (ciC c) y)(mx:pX x∈L)(my:pX y∈L):wo (kc c x) (rx L x) (kc c y) (rx L y)=true:=by
 unfold wo kc rx;have hq:0<of (ciC c).2.2:=kE q;rw[lP hq hx hy mx my,lP hq hy hx my mx];rfl
theorem ur(ha:c.1=T')(q:0<(ciC c).2.2)(rF:Rpd (frC c))[Rpd x][Rpd y](hF:onCi (ciC c) (frC c))(hx:onCi (ciC c) x)(hy:onCi (ciC c) y)(mF:pX (frC c)∈L)(mx:pX x∈L)(my:pX y∈L):ck c x y=oc (cwC c) (kc c (frC c)) (rx L (frC c)) (kc c x) (rx L x) (kc c y) (rx L y):=by
 unfold ck oc kc rx;rw[ha,cond_true];cases cwC c
 ·rw[cond_false,cond_false];unfold ptd;rw[mX,mX,mX,fD (lk mx mF) (lk my mF) (lk mx my)]
 ·rw[cond_true,cond_true];unfold ptd;rw[v7 q hF,v7 q hx,v7 q hy,fD (nF mx mF) (nF my mF) (nF mx my)]
end
theorem Of{k i l j m n:Nat}(h1:wo k i l j=T')(h2:wo k i m n=T')(h3:wo l j m n=T'):Ge k i l j m n=true:=by
 unfold wo at*
 simp only[aoT]at*
 unfold Ge;simp[h1,h2,h3]
def hfC(c:Cv)(p:Pt):Bool:=hk (cwC c) (kc c p)
def gS(c:BCU):Prop:=c.1=F'->c.2.2.2.1=F'
theorem Pa(c:BCU):gS (gJ c):=λh=>by
 have h:c.1=false:=h;show(c.1&&_)=F';rw[h];rfl
def gM(c:BCU):Prop:=gdN c/\aB (frC (dC c)) (toC (dC c))<0/\(c.1=T'->hfC (dC c) (frC (dC c))=T'/\hfC (dC c) (toC (dC c))=T')/\gS c
theorem Kd{u v:RE}:(cls u v≠3->0<=v)/\(cls u v≠1->v<=0):=by
 unfold cls;rcases c8 v with⟨h,e⟩|⟨h,e⟩|⟨h,e⟩<;>rw[e]
 ·exact⟨λ_=>le_of_lt h,λg=>absurd rfl g⟩
 ·rw[h];exact⟨λ_=>le_refl _,λ_=>le_refl _⟩
 ·exact⟨λg=>absurd rfl g,λ_=>le_of_lt h⟩
theorem JN{c:Cv}{w:Bool}{p q:Pt}(hp:onCi (ciC c) p)(hq:onCi (ciC c) q)(h1:hk w (kc c p)=T')(h2:hk w (kc c q)=T')(e:pX p=pX q):pR p=pR q:=by
 refine CT hp hq e ?_;unfold hk kc at*
 cases w
 ·exact .inr ⟨Kd.2 (aqZ.1 h1),Kd.2 (aqZ.1 h2)⟩
 ·exact .inl ⟨Kd.1 (aqZ.1 h1),Kd.1 (aqZ.1 h2)⟩
theorem KU{c:Cv}{w:Bool}{p q:Pt}[Rpd p][Rpd q](hp:onCi (ciC c) p)(hq:onCi (ciC c) q)(h1:hk w (kc c p)=T')(h2:hk w (kc c q)=T'):aB p q<0↔pX p<pX q:=by
 rw[gQ,jf gu fp];constructor
 ·rintro (h|⟨h,h'⟩)
  ·exact h
  ·have:=congrArg Prod.snd (JN hp hq h1 h2 h);have:pY p=pY q:=this;have h':pY p<pY q:=h';rw[this]at h';exact absurd h' (lt_irrefl _)
 ·exact .inl
section
variable {c:BCU} (h:gM c) (ha:c.1=T')
include h ha
theorem gM.hx:pX (frC (dC c))<pX (toC (dC c)):=by
 have k:=fG h.1.gd;have:=k.f.1;have:=k.t.1;exact(KU (fj (c:=dC c) ha k.f) (fj (c:=dC c) ha k.t) (h.2.2.1 ha).1 (h.2.2.1 ha).2).1 h.2.1
theorem uX{p:Pt}(hp:Rpd p)(ho:onR (dC c) p=T'):hfC (dC c) p=T'/\¬pX p<pX (frC (dC c))/\¬pX (toC (dC c))<pX p:=by
 have k:=fG h.1.gd;have a':(dC c).1=true:=ha;have q:=k.q a';have hx:=h.hx ha;obtain⟨f1,f2⟩:=h.2.2.1 ha;unfold onR at ho;simp only[aoT]at ho;obtain⟨hs,o1,o2⟩:=ho;have i1:=k.t.1;have cF:=fj a' k.f;have cT:=fj a' k.t;have cP:=fj a' (⟨hp,hs⟩:Sp (dC c) p);have mF:pX (frC (dC c))∈[pX (frC (dC c)),pX p,pX (toC (dC c))]:=by simp
 have mP:pX p∈[pX (frC (dC c)),pX p,pX (toC (dC c))]:=by simp
 have mT:pX (toC (dC c))∈[pX (frC (dC c)),pX p,pX (toC (dC c))]:=by simp
 generalize hL:[pX (frC (dC c)),pX p,pX (toC (dC c))]=L at*
 have hn:L.length=3:=by rw[<-hL];rfl
 have i2:=k.f.1;rw[ur a' q k.f.1 cF cF cP mF mF mP]at o1;rw[ur a' q k.f.1 cF cP cT mF mP mT]at o2;rw[rh mF mT]at hx;rw[rh mP mF,rh mT mP];have b:∀{z:Pt},pX z∈L->rx L z<3:=λhz=>hn▸qR lt_lin hz
 have:=aeX (cwC (dC c)) ⟨_,wc (dC c) (frC (dC c))⟩ ⟨_,wc (dC c) p⟩ ⟨_,wc (dC c) (toC (dC c))⟩ ⟨_,b mF⟩ ⟨_,b mP⟩ ⟨_,b mT⟩ (by
  unfold hfC at f1 f2;simp only[aoT];exact⟨Of (gi q cF cP mF mP) (gi q cF cT mF mT) (gi q cP cT mP mT),f1,f2,aoP hx,o1,o2⟩)
 simp only[aoT,arG]at this;exact⟨this.1,by omega,by omega⟩
theorem aet{a b:Pt}(ra:Rpd a)(rb:Rpd b)(oa:onR (dC c) a=T')(ob:onR (dC c) b=T')(hab:ck (dC c) a b<0):pX a<pX b:=by
 have k:=fG h.1.gd;have a':(dC c).1=true:=ha;have q:=k.q a';obtain⟨f1,f2⟩:=h.2.2.1 ha;obtain⟨a1,a2,a3⟩:=uX h ha ra oa;obtain⟨b1,b2,b3⟩:=uX h ha rb ob;have sa:dv (dC c) a=true:=(ao9.1 oa).1;have sb:dv (dC c) b=true:=(ao9.1 ob).1;have cF:=fj a' k.f;have cA:=fj a' (⟨ra,sa⟩:Sp (dC c) a);have cB:=fj a' (⟨rb,sb⟩:Sp (dC c) b);have mF:pX (frC (dC c))∈[pX (frC (dC c)),pX a,pX b]:=by simp
 have mA:pX a∈[pX (frC (dC c)),pX a,pX b]:=by simp
 have mB:pX b∈[pX (frC (dC c)),pX a,pX b]:=by simp
 generalize hL:[pX (frC (dC c)),pX a,pX b]=L at*
 have hn:L.length=3:=by rw[<-hL];rfl
 rw[ur a' q k.f.1 cF cA cB mF mA mB]at hab;rw[rh mA mF]at a2;rw[rh mB mF]at b2;rw[rh mA mB];have b:∀{z:Pt},pX z∈L->rx L z<3:=λhz=>hn▸qR lt_lin hz
 have:=afV (cwC (dC c)) ⟨_,wc (dC c) (frC (dC c))⟩ ⟨_,wc (dC c) a⟩ ⟨_,wc (dC c) _⟩ ⟨_,b mF⟩ ⟨_,b mA⟩ ⟨_,b mB⟩ (by
  unfold hfC at f1 a1 b1;simp only[aoT,arG];exact⟨Of (gi q cF cA mF mA) (gi q cF cB mF mB) (gi q cA cB mA mB),f1,a1,b1,by omega,by omega,hab⟩)
 exact aoQ this
end
theorem VS{c:BCU}(h:gM c){a b:Pt}(ra:Rpd a)(rb:Rpd b)(oa:onR (dC c) a=T')(ob:onR (dC c) b=T')(hab:ck (dC c) a b<0):aB a b<0:=by
 cases ha:c.1
 ·unfold ck at hab;have a':(dC c).1=false:=ha;have:=h.2.1;rw[a',cond_false,dF (show ¬aB (frC (dC c)) (toC (dC c))>0 by omega)]at hab;exact hab
 ·have k:=fG h.1.gd;have sa:dv (dC c) a=true:=(ao9.1 oa).1;have sb:dv (dC c) b=true:=(ao9.1 ob).1;exact(KU (fj (c:=dC c) ha ⟨ra,sa⟩) (fj (c:=dC c) ha ⟨rb,sb⟩) (uX h ha ra oa).1 (uX h ha rb ob).1).2 (aet h ha ra rb oa ob hab)
theorem u6{c:BCU}(h:gdN c){l:List BP}(ho:∀p∈l,okP 580 p/\onR (dC c) (dec p)=T'):∀x∈uE c l,Rpd (dec x)/\onR (dC c) (dec x)=true:=λx hx=>by
 refine⟨(Iy h ho x hx).2.1,?_⟩;rcases Do hx with e|e|e
 ·rw[e];exact(G8 h).1
 ·rw[e];exact(G8 h).2
 ·exact(ho x e).2
theorem XZ{c:BCU}(h:gM c){l:List BP}(ho:∀p∈l,okP 580 p/\onR (dC c) (dec p)=T'):∀p∈mu c l,gM p:=λp hp=>by
 obtain⟨x,y,hx,hy,hr,e⟩:=xn (zC h.1 ho) hp;obtain⟨rx,ox⟩:=u6 h.1 ho x hx;obtain⟨ry,oy⟩:=u6 h.1 ho y hy;refine⟨Lz h.1 ho p hp,?_,λha=>?_,by rw[e];exact h.2.2.2⟩
 ·rw[e];exact VS h rx ry ox oy hr
 ·rw[e]at ha ⊢;have ha:c.1=true:=ha;exact⟨(uX h ha rx ox).1,(uX h ha ry oy).1⟩
theorem GV{c:BCU}{R:BP->BP->Prop}{p:BCU}:∀{s:List BP},(∀{x y},x∈s->y∈s->R x y->¬R y x)->s.Pairwise R->p∈wv c s->∃x y,x∈s/\y∈s/\R x y/\p=Ap c x y/\∀z∈s,¬(R x z/\R z y)
 |[],_,_,h=>by cases h
 |[_],_,_,h=>by cases h
 |x::y::r,irr,hp,h=>by
  obtain⟨p1,p2⟩:=apT.1 hp;obtain⟨p3,_⟩:=apT.1 p2;simp only[wv]at h;rcases ao7.1 h with h|h
  ·refine⟨x,y,by simp,by simp,p1 y (by simp),h,λz hz g=>?_⟩;rcases ao7.1 hz with e|e
   ·rw[e]at g;exact irr (by simp) (by simp) g.1 g.1
   ·rcases ao7.1 e with e|e
    ·rw[e]at g;exact irr (by simp) (by simp) g.2 g.2
    ·exact irr (by simp[e]) (by simp) g.2 (p3 z e)
  ·obtain⟨a,b,h1,h2,h3,h4,h5⟩:=GV (λhx hy=>irr (ao4 _ hx) (ao4 _ hy)) p2 h;refine⟨a,b,ao4 _ h1,ao4 _ h2,h3,h4,λz hz g=>?_⟩;rcases ao7.1 hz with e|e
   ·rw[e]at g;exact irr (ao4 _ h1) (by simp) g.1 (p1 a h1)
   ·exact h5 z e g
theorem Kl{c:BCU}(h:gdN c){l:List BP}(ho:∀p∈l,okP 580 p/\onR (dC c) (dec p)=T'){z:BP}(hz:Rpd (dec z))(hl:jO (dC c) (dec z)=T'->z∈l):∀p∈mu c l,jO (dC p) (dec z)=false:=λp hp=>by
 have k:=fG h.gd;have o:=uG k;have sp:∀{x:BP},x∈uE c l->Sp (dC c) (dec x):=λhx=>⟨(u6 h ho _ hx).1,(ao9.1 (u6 h ho _ hx).2).1⟩
 obtain⟨a,b,ma,mb,hab,e,hc⟩:=GV (R:=λa b=>ck (dC c) (dec a) (dec b)<0) (λ{x y} hx hy g g'=>by
  have:=o.asy (sp hx) (sp hy) g;omega) (zC h ho) hp
 have sa:=sp ma;have sb:=sp mb;have oa:=(u6 h ho a ma).2;have ob:=(u6 h ho b mb).2;cases hi:jO (dC p) (dec z)
 ·rfl
 exfalso;unfold jO at hi;rw[e]at hi;simp only[aoT,aql]at hi;obtain⟨i1,i2,i3⟩:=hi;have i2:aB (dec a) (dec z)≠0:=apk.1 i2;have i3:aB (dec b) (dec z)≠0:=apk.1 i3;obtain⟨hs,j1,j2⟩:=(adA k sa sb hab hz).1 i1;have sz:Sp (dC c) (dec z):=⟨hz,hs⟩
 have az:ck (dC c) (dec a) (dec z)<0:=by
  rcases o.tri sa sz with g|g|g
  ·exact g
  ·exact absurd g i2
  ·exact absurd g j1
 have zb:ck (dC c) (dec z) (dec b)<0:=by
  rcases o.tri sz sb with g|g|g
  ·exact g
  ·have:=hz;have:=sb.1;exact absurd (TS g) i3
  ·exact absurd g j2
 obtain⟨_,a1,_⟩:=(zx k sa.1).1 oa;obtain⟨_,_,b1⟩:=(zx k sb.1).1 ob
 have hin:jO (dC c) (dec z)=true:=by
  unfold jO;rw[(zx k hz).2 ⟨hs,λg=>a1 (o.tr sa sz k.f az g),λg=>b1 (o.tr k.t sz sb g zb)⟩,apk.2 (λg=>a1 (by rw[(sO k k.f sz sa g).2];exact az)),apk.2 (λg=>b1 (by rw[(sO k k.t sz sb g).1];exact zb))];rfl
 obtain⟨y,hy,ey⟩:=RK (c:=dC c) (l:=[c.2.2.2.2.1,c.2.2.2.2.2]++l) hz (aqE _ (hl hin));obtain⟨y1,_⟩:=sO k (sp hy) sz sb ey;obtain⟨_,y2⟩:=sO k (sp hy) sz sa ey;exact hc y hy ⟨by rw[y2];exact az,by rw[y1];exact zb⟩
theorem ai4{L:List RE}{x y:Pt}(mx:pX x∈L)(my:pX y∈L)(h:rx L x=rx L y):pX x=pX y:=by
 rcases oB (pX x) (pX y)with g|g|g
 ·rw[rh mx my]at g;omega
 ·exact g
 ·rw[rh my mx]at g;omega
theorem amg(a r:RE)(h1:0<r):a+ -1*r-a<0:=by grind
theorem amc(a r:RE)(h1:0<r):0<a+1*r-a:=by grind
theorem aa2(a r:RE):a+0*r-a=0:=by grind
theorem afr{c:Cv}(h:0<(ciC c).2.2):kc c (db (ciC c))=2/\kc c (df (ciC c))=0/\onCi (ciC c) (db (ciC c))/\onCi (ciC c) (df (ciC c)):=by
 have r:=Y7 h;have o:=Pr h;have el:pR (db (ciC c))=_:=lW _ _ _ _ _;have er:pR (df (ciC c))=_:=lW _ _ _ _ _;have l1:pX (db (ciC c))=of (ciC c).1+of (-1)*rq (ciC c).2.2:=congrArg Prod.fst el;have l2:pY (db (ciC c))=of (ciC c).2.1+of 0*rq (ciC c).2.2:=congrArg Prod.snd el;have r1:pX (df (ciC c))=of (ciC c).1+of 1*rq (ciC c).2.2:=congrArg Prod.fst er;have r2:pY (df (ciC c))=of (ciC c).2.1+of 0*rq (ciC c).2.2:=congrArg Prod.snd er;refine⟨?_,?_,o.1,o.2⟩
 ·unfold kc;rw[l1,l2];exact Jh.2 ⟨aa2 _ _,λg=>lt_irrefl _ (eI g (amg _ _ r))⟩
 ·unfold kc;rw[r1,r2];exact Ly.2 ⟨aa2 _ _,amc _ _ r⟩
theorem Oa{e:BCU}(h:gdN e)(hS:gS e)(hi:e.1=T'->jO (dC e) (db (ciC (dC e)))=F'/\jO (dC e) (df (ciC (dC e)))=F'):bif D' (aB (frC (dC e)) (toC (dC e))>0)then gM (gJ e)else gM e:=by
 have k:=fG h.gd;have rF:=k.f.1;have rT:=k.t.1;have hne:=h.2.2.2;cases ha:e.1
 ·cases hd:D' (aB (frC (dC e)) (toC (dC e))>0)
  ·have:=apI hd;exact⟨h,by omega,λg=>(by rw[ha]at g;cases g),hS⟩
  ·have:=aoQ hd;refine⟨JQ h,?_,λg=>(by have g:e.1=true:=g;rw[ha]at g;cases g),Pa e⟩;show aB (toC (dC e)) (frC (dC e))<0;rw[vG];omega
 ·have a':(dC e).1=true:=ha;have q:=k.q a';obtain⟨hl,hr⟩:=hi ha;obtain⟨kl,kr,cL,cR⟩:=afr (c:=dC e) q;have q0:0<=(ciC (dC e)).2.2:=by grind
  have rL:Rpd (db (ciC (dC e))):=l7 (λe=>absurd e.1 (by decide)) q0;have rR:Rpd (df (ciC (dC e))):=l7 (λe=>absurd e.1 (by decide)) q0;generalize db (ciC (dC e))=zl at*
  generalize df (ciC (dC e))=zr at*
  have cF:=fj a' k.f;have cT:=fj a' k.t;have mF:pX (frC (dC e))∈[pX (frC (dC e)),pX (toC (dC e)),pX zl,pX zr]:=by simp
  have mT:pX (toC (dC e))∈[pX (frC (dC e)),pX (toC (dC e)),pX zl,pX zr]:=by simp
  have mL:pX zl∈[pX (frC (dC e)),pX (toC (dC e)),pX zl,pX zr]:=by simp
  have mR:pX zr∈[pX (frC (dC e)),pX (toC (dC e)),pX zl,pX zr]:=by simp
  generalize hL:[pX (frC (dC e)),pX (toC (dC e)),pX zl,pX zr]=L at*
  have hn:L.length=4:=by rw[<-hL];rfl
  have b:∀{z:Pt},pX z∈L->rx L z<4:=λhz=>hn▸qR lt_lin hz
  have ni:∀{z:Pt},Rpd z->onCi (ciC (dC e)) z->pX z∈L->jO (dC e) z=F'->inF (cwC (dC e)) (kc (dC e) (frC (dC e))) (rx L (frC (dC e))) (kc (dC e) (toC (dC e))) (rx L (toC (dC e))) (kc (dC e) z) (rx L z)=false:=λ{z} rz cz mz hz=>by
   cases g:inF (cwC (dC e)) (kc (dC e) (frC (dC e))) (rx L (frC (dC e))) (kc (dC e) (toC (dC e))) (rx L (toC (dC e))) (kc (dC e) z) (rx L z)
   ·rfl
   unfold inF at g;simp only[aoT,aql]at g;obtain⟨g1,g2,g3,g4⟩:=g;rw[<-ur a' q rF cF cF cz mF mF mz]at g1;rw[<-ur a' q rF cF cz cT mF mz mT]at g2
   have ne:∀{y:Pt},Rpd y->(kc (dC e) y==kc (dC e) z&&rx L y==rx L z)=F'->(aB y z==0)=false:=λ{y} ry hy=>by
    refine apk.2 λg=>?_;have g:=cmpP_0.1 g;have g1:pX y=pX z:=congrArg Prod.fst g;have g2:pY y=pY z:=congrArg Prod.snd g;unfold kc rx at hy;rw[g1,g2]at hy;simp at hy
   have hs:dv (dC e) z=true:=ff.2 (by rw[a',cond_true];exact cz);unfold jO onR at hz;rw[hs,g1,g2,ne rF g3,ne rT g4]at hz;cases hz
  have hab:(kc (dC e) (frC (dC e))==kc (dC e) (toC (dC e))&&rx L (frC (dC e))==rx L (toC (dC e)))=false:=by
   cases g:(kc (dC e) (frC (dC e))==kc (dC e) (toC (dC e))&&rx L (frC (dC e))==rx L (toC (dC e)))
   ·rfl
   obtain⟨g1,g2⟩:=ao9.1 g;have g1:=apw.1 g1;have g2:=ai4 mF mT (apw.1 g2);refine absurd (cmpP_0.2 ?_) hne
   have:∃w,hk w (kc (dC e) (frC (dC e)))=true:=by
    unfold hk;by_cases g:kc (dC e) (frC (dC e))=3
    ·exact⟨F',by rw[g];rfl⟩
    ·exact⟨T',aqZ.2 g⟩
   obtain⟨w,hw⟩:=this;exact JN cF cT hw (by rw[<-g1];exact hw) g2
  have nl:=ni rL cL mL hl;have nr:=ni rR cR mR hr;have c1:=gi q cF cT mF mT;have c2:=gi q cF cL mF mL;have c3:=gi q cF cR mF mR;have c4:=gi q cT cL mT mL;have c5:=gi q cT cR mT mR;have c6:=gi q cL cR mL mR;rw[kl]at nl c2 c4 c6;rw[kr]at nr c3 c5 c6;have:=adM (cwC (dC e)) ⟨_,wc (dC e) (frC (dC e))⟩ ⟨_,wc (dC e) (toC (dC e))⟩ ⟨_,b mF⟩ ⟨_,b mT⟩ ⟨_,b mL⟩ ⟨_,b mR⟩ (by simp only[c1,c2,c3,c4,c5,c6,hab,nl,nr];rfl);simp only[aqU,aoT,arG]at this;rcases this with⟨g1,g2,g3⟩|⟨g1,g2,g3⟩
  ·rw[<-rh mF mT,<-KU cF cT g1 g2]at g3;rw[dF (by omega),cond_false];exact⟨h,g3,λ_=>⟨g1,g2⟩,hS⟩
  ·rw[<-rh mT mF,<-KU cT cF g2 g1]at g3;have:=vG (p:=toC (dC e)) (q:=frC (dC e));rw[dT (by omega),cond_true];refine⟨JQ h,g3,λ_=>?_,Pa e⟩;have ew:cwC (dC (gJ e))=!cwC (dC e):=by show(e.1&&_)=_;rw[ha];rfl
   unfold hfC;rw[ew];exact⟨g2,g1⟩
theorem ag3{x:BO3}(h:bK x):gdN (loN x)/\gdN (hiN x)/\aB (db (dec x)) (df (dec x))= -1/\(∀c,c=loN x\/c=hiN x->jO (dC c) (db (dec x))=F'/\jO (dC c) (df (dec x))=F'):=by
 obtain⟨l,rfl,bl,h0⟩:=b8 h;have g:=DX (c:=l) h0;have e1:B6 (enc l)=[loN (enc l),hiN (enc l)]:=rfl;have q0:0<=l.2.2:=by grind
 have rL:Rpd (db l):=l7 (λe=>absurd e.1 (by decide)) q0;have rR:Rpd (df l):=l7 (λe=>absurd e.1 (by decide)) q0;have zL:(aB (db l) (db l)==0)=true:=apw.2 (cmpP_0.2 rfl);have zR:(aB (df l) (df l)==0)=true:=apw.2 (cmpP_0.2 rfl);refine⟨g _ (by rw[e1];simp),g _ (by rw[e1];simp),by rw[ao];exact Rr h0,λc hc=>?_⟩;rw[ao];have f1:frC (dC (loN (enc l)))=db l/\toC (dC (loN (enc l)))=df l:=⟨by show dec (enc (db (dec (enc l))))=_;rw[ao,ao],by show dec (enc (df (dec (enc l))))=_;rw[ao,ao]⟩
 have f2:frC (dC (hiN (enc l)))=df l/\toC (dC (hiN (enc l)))=db l:=⟨by show dec (enc (df (dec (enc l))))=_;rw[ao,ao],by show dec (enc (db (dec (enc l))))=_;rw[ao,ao]⟩
 unfold jO;rcases hc with e|e<;>rw[e]
 ·rw[f1.1,f1.2,zL,zR];simp
 ·rw[f2.1,f2.2,zL,zR];simp
end
section
open RE
def inX(c:Cv)(p:Pt):Bool:=D' (bj (xP (frC c)) (xP p)<=0)&&D' (bj (xP p) (xP (toC c))<=0)
def P2(c:Cv)(p:Pt):Int:=bif oS c then(bif D' (bj (yP p) (yP (toC c))>0)then 1 else bif D' (bj (yP p) (yP (frC c))<0)then-1 else 0)else bif c.1 then(bif cwC c then(bif D' (eG (yP p) (ciC c).2.1<0)then-1 else-iq (ciC c) p)else bif D' (eG (yP p) (ciC c).2.1>0)then 1 else iq (ciC c) p)else oM (lnC c) p*aD (lnC c).2.1 0
def zp(c:Cv)(p:Pt):Int:=bif inX c p then P2 c p else 0
def xj(c:Cv)(p:Pt):Int:=bif inX c p then 0 else 1
theorem aai{p q:Pt}[Rpd p][Rpd q]:bj (xP p) (xP q)=sg (pX p-pX q):=by rw[cmpT_re lQ lQ,qK,qK]
theorem aan{p q:Pt}[Rpd p][Rpd q]:bj (yP p) (yP q)=sg (pY p-pY q):=by rw[cmpT_re wg wg,E5,E5]
def adL:List En:=[enL wi,enT Lx]
def aaN(c:BCU)(_k:KT):OLR:=match !c.1 with|T'=>(og (D' (okP 4000 c.2.2.2.2.1)) (og (D' (okP 4000 c.2.2.2.2.2)) (og (D' (okT 15000 (hid (enc (xP (dec c.2.2.2.2.1))))/\okT 15000 (hid (enc (xP (dec c.2.2.2.2.2)))))) (S' [RV.d .bool (bj (dec (hid (enc (xP (dec c.2.2.2.2.1))))) (dec (hid (enc (xP (dec c.2.2.2.2.2)))))==0)]))))|F'=>S' [RV.d .bool F']
def E7:Cn 90 [tCU]:=cn λ(c:BCU)=>lf (okC 3500 c) [.d .bool (oS (dC c))] λh=>by
 refine aA adL (aaN c) ⟨0,?_⟩;obtain⟨ar,li,ci,cw,fr,to⟩:=c;obtain⟨_,_,h3,h4⟩:=h;obtain⟨f,rfl,bf,rf⟩:=bL h3;obtain⟨t,rfl,bt,rt⟩:=bL h4;unfold aaN oS;simp only[aV,Nat.reduceLeDiff,aI,aL];cases ar
 ·show _=S' [RV.d .bool (bj (xP (dec (enc f))) (xP (dec (enc t)))==0)];rw[ao,ao];rfl
 ·rfl
def UB:List En:=[enL wi,enL De,enT qZ,enT Fq,enT E6,enT Fo,⟨94,fo,dG⟩,enT E7]
def adf:NT:=[((39,5),{keep:=[2,3,7,8,9,10,11,12],hl:=0})]
def ajp:Ctx:=CX (ens UB) adf
def abh(c:BCU)(p:BP)(_k:KT):OLR:=og (D' (okP 4000 p)) (og (D' (okP 4000 c.2.2.2.2.1)) (og (D' (okT 15000 (hid (enc (xP (dec c.2.2.2.2.1))))/\okT 15000 (hid (enc (xP (dec p)))))) (match D' ((bj (dec (hid (enc (xP (dec c.2.2.2.2.1))))) (dec (hid (enc (xP (dec p))))))<=0)with|T'=>(og (D' (okP 4000 c.2.2.2.2.2)) (og (D' (okT 15000 (hid (enc (xP (dec p))))/\okT 15000 (hid (enc (xP (dec c.2.2.2.2.2)))))) (match !(D' ((bj (dec (hid (enc (xP (dec p))))) (dec (hid (enc (xP (dec c.2.2.2.2.2))))))<=0))with|T'=>S' [RV.d ask 0,RV.d ask 1]|F'=>(og (D' (okC 3500 c)) (match oS (dC c)with|T'=>(og (D' (okP 4000 p)) (og (D' (okP 4000 c.2.2.2.2.2)) (og (D' (okT 15000 (hid (enc (yP (dec p))))/\okT 15000 (hid (enc (yP (dec c.2.2.2.2.2)))))) (match D' ((bj (dec (hid (enc (yP (dec p))))) (dec (hid (enc (yP (dec c.2.2.2.2.2))))))>0)with|T'=>S' [RV.d ask 1,RV.d ask 0]|F'=>(og (D' (okP 4000 p)) (og (D' (okP 4000 c.2.2.2.2.1)) (og (D' (okT 15000 (hid (enc (yP (dec p))))/\okT 15000 (hid (enc (yP (dec c.2.2.2.2.1)))))) (match D' ((bj (dec (hid (enc (yP (dec p))))) (dec (hid (enc (yP (dec c.2.2.2.2.1))))))<0)with|T'=>S' [RV.d ask (-1),RV.d ask 0]|F'=>S' [RV.d ask 0,RV.d ask 0]))))))))|F'=>(match !c.1 with|T'=>(og (D' (ok Ln 300 c.2.1/\okP 4000 p)) (og (o1 c.2.1.2.1) (S' [RV.d ask (i64.wrap ((oM (dec c.2.1) (dec p))*(aD (ag c.2.1.2.1) 0))),RV.d ask 0])))|F'=>(og (D' (okP 4000 p)) (og (D' (okT 15000 (hid (enc (yP (dec p))))/\ok Rat 15000 c.2.2.1.2.1)) (match c.2.2.2.1 with|T'=>(match D' ((eG (dec (hid (enc (yP (dec p))))) (ag c.2.2.1.2.1))<0)with|T'=>S' [RV.d ask (-1),RV.d ask 0]|F'=>(match c.2.2.2.1 with|T'=>(og (D' (ok Ln 300 c.2.2.1/\okP 4000 p)) (S' [RV.d ask (i64.wrap (0-(iq (dec c.2.2.1) (dec p)))),RV.d ask 0]))|F'=>(match D' ((eG (dec (hid (enc (yP (dec p))))) (ag c.2.2.1.2.1))>0)with|T'=>S' [RV.d ask 1,RV.d ask 0]|F'=>(og (D' (ok Ln 300 c.2.2.1/\okP 4000 p)) (S' [RV.d ask (iq (dec c.2.2.1) (dec p)),RV.d ask 0])))))|F'=>(match c.2.2.2.1 with|T'=>(og (D' (ok Ln 300 c.2.2.1/\okP 4000 p)) (S' [RV.d ask (i64.wrap (0-(iq (dec c.2.2.1) (dec p)))),RV.d ask 0]))|F'=>(match D' ((eG (dec (hid (enc (yP (dec p))))) (ag c.2.2.1.2.1))>0)with|T'=>S' [RV.d ask 1,RV.d ask 0]|F'=>(og (D' (ok Ln 300 c.2.2.1/\okP 4000 p)) (S' [RV.d ask (iq (dec c.2.2.1) (dec p)),RV.d ask 0])))))))))))))|F'=>S' [RV.d ask 0,RV.d ask 1])))
theorem ajb(c:BCU)(p:BP):RS ajp 39 [.d tCU c,.d tP p] (abh c p):=rsX
def EI:Cn 39 [tCU,tP]:=cn λ(c:BCU) (p:BP)=>lf (okC 3500 c/\okP 3500 p) [.d ask (zp (dC c) (dec p)),.d ask (xj (dC c) (dec p))] λh=>by
 refine aX UB (ajb _ _ ⟨0,?_⟩);obtain⟨hc,hp⟩:=h;obtain⟨p,rfl,bp,rp⟩:=bL hp;obtain⟨ar,li,ci,cw,fr,to⟩:=c;have hc':=hc;obtain⟨h1,h2,h3,h4⟩:=hc';dsimp only at h1 h2 h3 h4;obtain⟨f,rfl,bf,rf⟩:=bL h3;obtain⟨t,rfl,bt,rt⟩:=bL h4;have e1:frC (dC (ar,li,ci,cw,enc f,enc t))=f:=ao f;have e2:toC (dC (ar,li,ci,cw,enc f,enc t))=t:=ao t;unfold abh zp xj inX P2;rw[e1,e2];simp only[aV,Nat.reduceLeDiff,aI,aL,dT hc];cases D' (bj (xP f) (xP p)<=0)
 ·rfl
 cases D' (bj (xP p) (xP t)<=0)
 ·rfl
 cases ar
 ·obtain⟨l,rfl,bl⟩:=aJ (h2 rfl).1;have e3:lnC (dC (F',enc l,ci,cw,enc f,enc t))=l:=ao l;rw[e3];cases oS (dC (F',enc l,ci,cw,enc f,enc t))
  ·simp only[aV,Nat.reduceLeDiff,xp (jb _ _ _) (jZ _ _),oM];rfl
  ·cases D' (bj (yP p) (yP t)>0)
   ·cases D' (bj (yP p) (yP f)<0)<;>rfl
   ·rfl
 ·obtain⟨l,rfl,bl⟩:=aJ (h1 rfl).1;have e3:ciC (dC (T',li,enc l,cw,enc f,enc t))=l:=ao l;have e4:cwC (dC (T',li,enc l,cw,enc f,enc t))=cw:=rfl;have e5:oS (dC (T',li,enc l,cw,enc f,enc t))=false:=rfl;rw[e3,e4,e5];simp only[aV,Nat.reduceLeDiff];cases cw
  ·cases D' (eG (yP p) l.2.1>0)<;>rfl
  ·cases D' (eG (yP p) l.2.1<0)
   ·show S' [RV.d ask (i64.wrap (0-iq l p)),RV.d ask 0]=S' [RV.d ask (-iq l p),RV.d ask 0];have:=jb (sqA p (ctr l)-l.2.2) (sqB p (ctr l)) p.2.2.2.2;rw[aM (by unfold iq;omega) (by unfold iq;omega),aqH]
   ·rfl
end
section
open RE
def ovX(c:Cv)(p:Pt):Bool:=!oS c&&(!D' (bj (xP p) (xP (toC c))>=0)&&!D' (bj (xP p) (xP (frC c))<0))
def ovF(c:Cv)(p:Pt):Int:=bif ovX c p then zp c p else 0
def ovB(c:Cv)(p:Pt):Bool:=ovX c p&&(xj c p==0)
def ovP(c:BCU)(x:BO3)(p:BP):Prop:=x=enc (xP (dec p))/\okC 3500 c/\okP 3500 p
instance (c:BCU) (x:BO3) (p:BP):Decidable (ovP c x p):=Classical.propDecidable _
def DG(c:Cv)(p:Pt):Bool:=ovB c p&&D' (ovF c p>0)
def vN:List BCU->Pt->Bool->Int
 |[],_,o=>bif o then 1 else-1
 |c::l,p,o=>bif (xj (dC c) p==0)&&(zp (dC c) p==0)then 0 else vN l p (o ^^ DG (dC c) p)
def cnP(r:List BCU)(p:BP):Prop:=r.length<=10000/\(∀e∈r,okC 3500 e)/\okP 3500 p
instance (r:List BCU) (p:BP):Decidable (cnP r p):=Classical.propDecidable _
theorem LV{l:List BCU}{p:Pt}{i:Nat}(h:i<l.length)(o:Bool):vN (l.drop i) p o=bif (xj (dC l[i]) p==0)&&(zp (dC l[i]) p==0)then 0 else vN (l.drop (i+1)) p (o ^^ DG (dC l[i]) p):=by
 rw[ao5 h];rfl
theorem ahB{n:Int}(h:0<=n){o:Bool}(e:(Int.tmod n 2==1)=o):(Int.tmod (n+1) 2==1)=!o:=by
 rw[aqx h]at e;rw[aqx (by omega)];cases o
 ·have:=apk.1 e;exact apw.2 (by omega)
 ·have:=apw.1 e;exact apk.2 (by omega)
def ae1:List En:=[enL wi,enT qZ,enT EI,enT E7]
def abR(c:BCU)(x:BO3)(p:BP)(_k:KT):OLR:=og (D' (okC 3500 c)) (match oS (dC c)with|T'=>S' [RV.d ask 0,RV.d .bool F']|F'=>(og (D' (okP 4000 c.2.2.2.2.2)) (og (D' (okT 15000 x/\okT 15000 (hid (enc (xP (dec c.2.2.2.2.2)))))) (match D' ((bj (dec x) (dec (hid (enc (xP (dec c.2.2.2.2.2))))))>=0)with|T'=>S' [RV.d ask 0,RV.d .bool F']|F'=>(og (D' (okP 4000 c.2.2.2.2.1)) (og (D' (okT 15000 x/\okT 15000 (hid (enc (xP (dec c.2.2.2.2.1)))))) (match D' ((bj (dec x) (dec (hid (enc (xP (dec c.2.2.2.2.1))))))<0)with|T'=>S' [RV.d ask 0,RV.d .bool F']|F'=>(og (D' (okC 3500 c/\okP 3500 p)) (S' [RV.d ask (zp (dC c) (dec p)),RV.d .bool ((xj (dC c) (dec p))==0)])))))))))
def al6:Cn 40 [tCU,tO,tP]:=cn λ(c:BCU) (x:BO3) (p:BP)=>lf (ovP c x p) [.d ask (ovF (dC c) (dec p)),.d .bool (ovB (dC c) (dec p))] λh=>by
 refine aA ae1 (abR c x p) ⟨0,?_⟩;obtain⟨rfl,hc,hp⟩:=h;obtain⟨p,rfl,bp,rp⟩:=bL hp;have h1:okC 3500 c/\okP 3500 (enc p):=⟨hc,hp⟩
 obtain⟨ar,li,ci,cw,fr,to⟩:=c;have hc':=hc;obtain⟨_,_,h3,h4⟩:=hc';dsimp only at h3 h4;obtain⟨f,rfl,bf,rf⟩:=bL h3;obtain⟨t,rfl,bt,rt⟩:=bL h4;have e1:frC (dC (ar,li,ci,cw,enc f,enc t))=f:=ao f;have e2:toC (dC (ar,li,ci,cw,enc f,enc t))=t:=ao t;unfold abR ovF ovB ovX;rw[e1,e2];simp only[aV,Nat.reduceLeDiff,aI,aL,dT hc,dT h1];cases oS (dC (ar,li,ci,cw,enc f,enc t))
 ·cases D' (bj (xP p) (xP t)>=0)
  ·cases D' (bj (xP p) (xP f)<0)<;>rfl
  ·rfl
 ·rfl
def QZ:List En:=[enL wi,enT EI,enT al6]
def afp:NT:=[((9,10),{keep:=[3,5,6,16,17,18],hl:=3,er:=[0]})]
def EK:Ctx:=CX (ens QZ) afp
def gV(r:List BCU)(p:BP)(s6 s18:Int):Cfg:=⟨9,[.blk 0,.seq 39],[(3,.box 1 0),(5,.box 2 0),(6,SI s6),(16,.d (.sl tCU) r),(17,SI (r.length:Int)),(18,SI s18)],[.gone,.box 40 (Ty.split tP p),.box 82 (Ty.split tO (hid (enc (xP (dec p)))))],0,[]⟩
def acy(r:List BCU)(p:BP)(k:KT):OLR:=og (D' (okP 4000 p)) (k 10 (gV r p 0 0))
theorem ajQ(r:List BCU)(p:BP):RS EK 9 [.d (.st (.sl tCU)) r,.d tP p] (acy r p):=rsX
def vC(r:List BCU)(p:BP)(s6 s18:Int)(k:KT):OLR:=match D' (s18<(r.length:Int))with|T'=>(match aH r s18 with|S' x1=>(og (D' (okC 3500 x1/\okP 3500 p)) (match(xj (dC x1) (dec p))==0 with|T'=>(match(zp (dC x1) (dec p))==0 with|T'=>S' [RV.d ask 0]|F'=>(og (D' (ovP x1 (hid (enc (xP (dec p)))) p)) (match ovB (dC x1) (dec p)with|T'=>(match D' ((ovF (dC x1) (dec p))>0)with|T'=>k 10 (gV r p (i64.wrap (s6+1)) (i64.wrap (s18+1)))|F'=>k 10 (gV r p s6 (i64.wrap (s18+1))))|F'=>k 10 (gV r p s6 (i64.wrap (s18+1))))))|F'=>(og (D' (ovP x1 (hid (enc (xP (dec p)))) p)) (match ovB (dC x1) (dec p)with|T'=>(match D' ((ovF (dC x1) (dec p))>0)with|T'=>k 10 (gV r p (i64.wrap (s6+1)) (i64.wrap (s18+1)))|F'=>k 10 (gV r p s6 (i64.wrap (s18+1))))|F'=>k 10 (gV r p s6 (i64.wrap (s18+1)))))))|N'=>N')|F'=>(match(Int.tmod s6 2)==1 with|T'=>S' [RV.d ask 1]|F'=>S' [RV.d ask (-1)])
theorem BY(r:List BCU)(p:BP)(s6 s18:Int):RN EK 10 (gV r p s6 s18) (vC r p s6 s18):=rnX
theorem ad6{r:List BCU}{p:BP}(h:cnP r p):∀(j i:Nat),i+j=r.length->∀(n:Int) (o:Bool),0<=n->n<=i->(Int.tmod n 2==1)=o->EK.Runs 10 (gV r p n (i:Int)) [.d ask (vN (r.drop i) (dec p) o)]:=by
 obtain⟨hl,hr,hp⟩:=h;intro j;induction j with
 |zero=>
  intro i hi n o h0 hn ho;refine BY _ _ _ _ ⟨0,?_⟩;unfold vC;rw[dF (show ¬(i:Int)<(r.length:Int) by omega),apx (by omega),ho];cases o<;>rfl
 |succ j ih=>
  intro i hi n o h0 hn ho;have hil:i<r.length:=by omega
  have hx:=hr _ (aoY hil);have a1:okC 3500 r[i]/\okP 3500 p:=⟨hx,hp⟩
  have a2:ovP r[i] (enc (xP (dec p))) p:=⟨rfl,hx,hp⟩
  have ew:=aS (k:=i) (by omega);have wn:i64.wrap (n+1)=n+1:=aM (by omega) (by omega);rw[LV hil]
  have st:∀q,(xj (dC r[i]) (dec p)==0&&zp (dC r[i]) (dec p)==0)=q->EK.Runs 10 (gV r p n (i:Int)) [.d ask (bif q then 0 else vN (r.drop (i+1)) (dec p) (o ^^ DG (dC r[i]) (dec p)))]:=λq hq=>by
   have u:∀z:Bool,z=DG (dC r[i]) (dec p)->∃m,EK.k m 10 (gV r p (bif z then n+1 else n) ((i+1:Nat):Int))=S' [.d ask (vN (r.drop (i+1)) (dec p) (o ^^ DG (dC r[i]) (dec p)))]:=λz hz=>by
    rw[<-hz];cases z
    ·exact(ih (i+1) (by omega) n o h0 (by omega) ho).imp λ_ h=>by rw[Bool.xor_false];exact h
    ·exact(ih (i+1) (by omega) (n+1) (!o) (by omega) (by omega) (ahB h0 ho)).imp λ_ h=>by rw[Bool.xor_true];exact h
   obtain⟨m,hm⟩:=u _ rfl;refine BY _ _ _ _ ⟨m,?_⟩;unfold vC;rw[dT (show(i:Int)<(r.length:Int) by omega),ak,aoO hil];simp only[aQ,dT a1,dT a2,ew,wn];revert hm hq;unfold DG;cases xj (dC r[i]) (dec p)==0<;>cases zp (dC r[i]) (dec p)==0<;>cases ovB (dC r[i]) (dec p)<;>cases decide (ovF (dC r[i]) (dec p)>0)<;>cases q<;>intro hq hm<;>first|exact hm|rfl|cases hq
  exact st _ rfl
def ZD:Cn 9 [(.st (.sl tCU)),tP]:=cn λ(r:List BCU) (p:BP)=>lf (cnP r p) [.d ask (vN r (dec p) F')] λh=>by
 have h':=h;obtain⟨m,hm⟩:=ad6 h r.length 0 (ao3 _) 0 F' (ase _) (ase _) rfl;refine aX QZ (ajQ _ _ ⟨m,?_⟩);unfold acy;rw[dT (aU (k:=4000) h.2.2 (by decide) (by decide))];exact hm
end
namespace RE
theorem NY(a v b:RE):a+v+b=a+b+v:=by grind
def mvE(v:Rat×Rat)(p:RE×RE):RE×RE:=(p.1+of v.1,p.2+of v.2)
theorem acu(p:Pt)(v:Rat×Rat):pR (trP p v)=mvE v (pR p):=by
 unfold pR mvE pX pY trP v2;dsimp only;rw[of_add,of_add];exact ar1 (NY _ _ _) (NY _ _ _)
def mvLn(l:Ln)(v:Rat×Rat):Ln:=(l.1,l.2.1,l.2.2+(l.1*v.1+l.2.1*v.2))
def mvCi(c:Ln)(v:Rat×Rat):Ln:=(c.1+v.1,c.2.1+v.2,c.2.2)
def mvCv(c:Cv)(v:Rat×Rat):Cv:=(c.1,bif c.1 then c.2.1 else mvLn c.2.1 v,bif c.1 then mvCi c.2.2.1 v else c.2.2.1,c.2.2.2.1,trP c.2.2.2.2.1 v,trP c.2.2.2.2.2 v)
end RE
def mvB(c:BCU)(v:Rat×Rat):BCU:=(c.1,bif c.1 then c.2.1 else enc (RE.mvLn (dec c.2.1) v),bif c.1 then enc (RE.mvCi (dec c.2.2.1) v)else c.2.2.1,c.2.2.2.1,enc (trP (dec c.2.2.2.2.1) v),enc (trP (dec c.2.2.2.2.2) v))
theorem abO(c:BCU)(v:Rat×Rat):dC (mvB c v)=RE.mvCv (dC c) v:=by
 obtain⟨ar,li,ci,cw,fr,to⟩:=c;unfold mvB RE.mvCv dC;cases ar<;>simp only[ao,cond_true,cond_false]
section
open RE
def Al(r:List BCU)(v:BV):Prop:=r.length<=10000/\(∀e∈r,okC 1000 e)/\ok (Rat×Rat) 10 v
instance (r:List BCU) (v:BV):Decidable (Al r v):=Classical.propDecidable _
def Mk(a b:BCU):Prop:=a=b/\okC 3500 a
instance (a b:BCU):Decidable (Mk a b):=Classical.propDecidable _
def WJ(r s:List BCU):Prop:=r=s/\r.length<=1000000/\∀e∈r,okC 3500 e
instance (r s:List BCU):Decidable (WJ r s):=Classical.propDecidable _
def G3(r s:List BCU):Prop:=WJ r s/\∀e∈r,Ga (dC e)=T'
instance (r s:List BCU):Decidable (G3 r s):=Classical.propDecidable _
def Vc:List En:=[⟨122,kM,fY⟩]
def ah6:Ctx:=CX (ens Vc) []
def abF(p:BP)(v:BV)(_k:KT):OLR:=og (o2 p.1 v.1) (og (o2 p.2.2.1 v.2) (S' [RV.d tP (hAd p.1 v.1,(p.2.1,(hAd p.2.2.1 v.2,p.2.2.2)))]))
theorem aj4(p:BP)(v:BV):RS ah6 124 [.d tP p,.d tV v] (abF p v):=rsX
def alz:Cn 124 [tP,tV]:=cn λ(p:BP) (v:BV)=>lf (ok Pt 21000 p/\ok (Rat×Rat) 1000 v) [.d tP (enc (trP (dec p) (dec v)))] λh=>by
 refine aX Vc (aj4 _ _ ⟨0,?_⟩);obtain⟨hp,hv⟩:=h;obtain⟨p,rfl,bp⟩:=aJ hp;obtain⟨v,rfl,bv⟩:=aJ hv;unfold abF;simp only[aV,Nat.reduceLeDiff];rfl
def Tg:List En:=[⟨122,kM,fY⟩,⟨123,iQ,fi⟩,enL alz]
def alF:Ctx:=CX (ens Tg) []
def aal(c:BCU)(v:BV)(_k:KT):OLR:=match c.1 with|T'=>(og (o2 c.2.2.1.1 v.1) (og (o2 c.2.2.1.2.1 v.2) (og (D' (ok Pt 21000 c.2.2.2.2.1/\ok (Rat×Rat) 1000 v)) (og (D' (ok Pt 21000 c.2.2.2.2.2/\ok (Rat×Rat) 1000 v)) (S' [RV.d tCU (c.1,(c.2.1,((hAd c.2.2.1.1 v.1,(hAd c.2.2.1.2.1 v.2,c.2.2.1.2.2)),(c.2.2.2.1,(hid (enc (trP (dec c.2.2.2.2.1) (dec v))),hid (enc (trP (dec c.2.2.2.2.2) (dec v))))))))])))))|F'=>(og (o2 c.2.1.1 v.1) (og (o2 c.2.1.2.1 v.2) (og (o2 (hMu c.2.1.1 v.1) (hMu c.2.1.2.1 v.2)) (og (o2 c.2.1.2.2 (hAd (hMu c.2.1.1 v.1) (hMu c.2.1.2.1 v.2))) (og (D' (ok Pt 21000 c.2.2.2.2.1/\ok (Rat×Rat) 1000 v)) (og (D' (ok Pt 21000 c.2.2.2.2.2/\ok (Rat×Rat) 1000 v)) (S' [RV.d tCU (c.1,((c.2.1.1,(c.2.1.2.1,hAd c.2.1.2.2 (hAd (hMu c.2.1.1 v.1) (hMu c.2.1.2.1 v.2)))),(c.2.2.1,(c.2.2.2.1,(hid (enc (trP (dec c.2.2.2.2.1) (dec v))),hid (enc (trP (dec c.2.2.2.2.2) (dec v))))))))])))))))
theorem ajU(c:BCU)(v:BV):RS alF 59 [.d tCU c,.d tV v] (aal c v):=rsX
def akP:Cn 59 [tCU,tV]:=cn λ(c:BCU) (v:BV)=>lf (okC 1000 c/\ok (Rat×Rat) 10 v) [.d tCU (mvB c (dec v))] λh=>by
 refine aX Tg (ajU _ _ ⟨0,?_⟩);obtain⟨⟨h1,h2,h3,h4⟩,hv⟩:=h;obtain⟨ar,li,ci,cw,fr,to⟩:=c;dsimp only at h1 h2 h3 h4;obtain⟨f,rfl,bf,rf⟩:=bL h3;obtain⟨t,rfl,bt,rt⟩:=bL h4;obtain⟨v,rfl,bv⟩:=aJ hv;unfold aal mvB;cases ar
 ·obtain⟨l,rfl,bl⟩:=aJ (h2 rfl).1;simp only[aV,Nat.reduceAdd,Nat.reduceLeDiff];rfl
 ·obtain⟨l,rfl,bl⟩:=aJ (h1 rfl).1;simp only[aV,Nat.reduceLeDiff];rfl
def Ny:List En:=[enL ru,enL n7,enL Hy]
def akV:Ctx:=CX (ens Ny) []
def Zz(c:BCU)(v:BV)(_k:KT):OLR:=og (D' (ok Pt 21000 c.2.2.2.2.1/\ok (Rat×Rat) 1000 v)) (og (D' (ok Pt 21000 c.2.2.2.2.2/\ok (Rat×Rat) 1000 v)) (match c.1 with|T'=>(og (o2 c.2.2.1.1 v.1) (og (o2 c.2.2.1.2.1 v.2) (S' [RV.d tCU (c.1,(c.2.1,((hAd c.2.2.1.1 v.1,(hAd c.2.2.1.2.1 v.2,c.2.2.1.2.2)),(c.2.2.2.1,(hid (enc (trP (dec c.2.2.2.2.1) (dec v))),hid (enc (trP (dec c.2.2.2.2.2) (dec v))))))))])))|F'=>(og (o2 c.2.1.1 v.1) (og (o2 c.2.1.2.1 v.2) (og (o2 (hMu c.2.1.1 v.1) (hMu c.2.1.2.1 v.2)) (og (o2 c.2.1.2.2 (hAd (hMu c.2.1.1 v.1) (hMu c.2.1.2.1 v.2))) (S' [RV.d tCU (c.1,((c.2.1.1,(c.2.1.2.1,hAd c.2.1.2.2 (hAd (hMu c.2.1.1 v.1) (hMu c.2.1.2.1 v.2)))),(c.2.2.1,(c.2.2.2.1,(hid (enc (trP (dec c.2.2.2.2.1) (dec v))),hid (enc (trP (dec c.2.2.2.2.2) (dec v))))))))])))))))
theorem akv(c:BCU)(v:BV):RS akV 61 [.d tCU c,.d tV v] (Zz c v):=rsX
def aii:Cn 61 [tCU,tV]:=cn λ(c:BCU) (v:BV)=>lf (okC 1000 c/\ok (Rat×Rat) 10 v) [.d tCU (mvB c (dec v))] λh=>by
 refine aX Ny (akv _ _ ⟨0,?_⟩);obtain⟨⟨h1,h2,h3,h4⟩,hv⟩:=h;obtain⟨ar,li,ci,cw,fr,to⟩:=c;dsimp only at h1 h2 h3 h4;obtain⟨f,rfl,bf,rf⟩:=bL h3;obtain⟨t,rfl,bt,rt⟩:=bL h4;obtain⟨v,rfl,bv⟩:=aJ hv;unfold Zz mvB;cases ar
 ·obtain⟨l,rfl,bl⟩:=aJ (h2 rfl).1;simp only[aV,Nat.reduceAdd,Nat.reduceLeDiff];rfl
 ·obtain⟨l,rfl,bl⟩:=aJ (h1 rfl).1;simp only[aV,Nat.reduceLeDiff];rfl
def Fw:List En:=[enL akP]
def aeb:NT:=[((21,8),{keep:=[3,4,5,9,10,11],bx:=[(2,0,48,tCU),(3,0,48,tCU)],hl:=6,er:=[0]})]
def TM:Ctx:=CX (ens Fw) aeb
def Cm(r:List BCU)(v:BV)(s11:Int)(r5:List BCU):Cfg:=⟨21,[.blk 0,.seq 21],[(3,.box 1 0),(4,.box 2 0),(5,.box 3 0),(9,.d (.sl tCU) r),(10,SI (r.length:Int)),(11,SI s11)],[.gone,.box 54 (Ty.split tV v),.box 30 [.own 4],.box 30 [.own 5],.row 48 tCU ([]),.row 48 tCU r5],0,[]⟩
def ahM(r:List BCU)(v:BV)(k:KT):OLR:=k 8 (Cm r v 0 ([]))
theorem akG(r:List BCU)(v:BV):RS TM 21 [.d (.st (.sl tCU)) r,.d tV v] (ahM r v):=rsX
def zs(r:List BCU)(v:BV)(s11:Int)(r5:List BCU)(k:KT):OLR:=match D' (s11<(r.length:Int))with|T'=>(match aH r s11 with|S' x1=>(og (D' (okC 1000 x1/\ok (Rat×Rat) 10 v)) (og (D' ((r5.length+([hid (mvB x1 (dec v))]).length)*1040<=140737488355328/\r5.length+([hid (mvB x1 (dec v))]).length<=140737488355328)) (k 8 (Cm r v (i64.wrap (s11+1)) (r5++([hid (mvB x1 (dec v))]))))))|N'=>N')|F'=>S' [RV.d (.st (.sl tCU)) r5]
theorem Fy(r:List BCU)(v:BV)(s11:Int)(r5:List BCU):RN TM 8 (Cm r v s11 r5) (zs r v s11 r5):=rnX
theorem acN{r:List BCU}{v:BV}(h:Al r v):∀(j i:Nat),i+j=r.length->TM.Runs 8 (Cm r v (i:Int) ((r.take i).map λc=>mvB c (dec v))) [.d (.st (.sl tCU)) (r.map λc=>mvB c (dec v))]:=by
 obtain⟨hl,hr,hv⟩:=h;intro j;induction j with
 |zero=>
  intro i hi;refine Fy _ _ _ _ ⟨0,?_⟩;unfold zs;rw[dF (show ¬(i:Int)<(r.length:Int) by omega),apy (by omega)]
 |succ j ih=>
  intro i hi;have hil:i<r.length:=by omega
  obtain⟨n,hn⟩:=ih (i+1) (by omega);refine Fy _ _ _ _ ⟨n,?_⟩;unfold zs;rw[dT (show(i:Int)<(r.length:Int) by omega),ak,aoO hil,aS (k:=i) (by omega)];dsimp only;rw[dT (show okC 1000 r[i]/\ok (Rat×Rat) 10 v from⟨hr _ (aoY hil),hv⟩),dT (by simp;omega),aQ];rw[ap0 hil,List.map_append]at hn;exact hn
def ahz:Cn 21 [(.st (.sl tCU)),tV]:=cn λ(r:List BCU) (v:BV)=>lf (Al r v) [.d (.st (.sl tCU)) (r.map λc=>mvB c (dec v))] λh=>by
 obtain⟨n,hn⟩:=acN h r.length 0 (ao3 _);exact aX Fw (akG _ _ ⟨n,hn⟩)
def Gt:List En:=[enL aii]
def adt:NT:=[((23,8),{keep:=[2,3,4,5,6],bx:=[(2,0,48,tCU),(3,0,48,tCU)],hl:=6})]
def QY:Ctx:=CX (ens Gt) adt
def Dc(r:List BCU)(v:BV)(s6:Int)(r5:List BCU):Cfg:=⟨23,[.blk 0,.seq 19],[(2,.box 0 0),(3,.box 1 0),(4,.box 2 0),(5,.box 3 0),(6,SI s6)],[.box 30 [.d (.sl tCU) r],.box 54 (Ty.split tV v),.box 30 [.own 4],.box 30 [.own 5],.row 48 tCU ([]),.row 48 tCU r5],0,[]⟩
def aiC(r:List BCU)(v:BV)(k:KT):OLR:=k 8 (Dc r v 0 ([]))
theorem amk(r:List BCU)(v:BV):RS QY 23 [.d (.st (.sl tCU)) r,.d tV v] (aiC r v):=rsX
def xi(r:List BCU)(v:BV)(s6:Int)(r5:List BCU)(k:KT):OLR:=match D' (s6<(r.length:Int))with|T'=>(match aH r s6 with|S' x1=>(og (D' (okC 1000 x1/\ok (Rat×Rat) 10 v)) (og (D' ((r5.length+([hid (mvB x1 (dec v))]).length)*1040<=140737488355328/\r5.length+([hid (mvB x1 (dec v))]).length<=140737488355328)) (k 8 (Dc r v (i64.wrap (s6+1)) (r5++([hid (mvB x1 (dec v))]))))))|N'=>N')|F'=>S' [RV.d (.st (.sl tCU)) r5]
theorem Fv(r:List BCU)(v:BV)(s6:Int)(r5:List BCU):RN QY 8 (Dc r v s6 r5) (xi r v s6 r5):=rnX
theorem acP{r:List BCU}{v:BV}(h:Al r v):∀(j i:Nat),i+j=r.length->QY.Runs 8 (Dc r v (i:Int) ((r.take i).map λc=>mvB c (dec v))) [.d (.st (.sl tCU)) (r.map λc=>mvB c (dec v))]:=by
 obtain⟨hl,hr,hv⟩:=h;intro j;induction j with
 |zero=>
  intro i hi;refine Fv _ _ _ _ ⟨0,?_⟩;unfold xi;rw[dF (show ¬(i:Int)<(r.length:Int) by omega),apy (by omega)]
 |succ j ih=>
  intro i hi;have hil:i<r.length:=by omega
  obtain⟨n,hn⟩:=ih (i+1) (by omega);refine Fv _ _ _ _ ⟨n,?_⟩;unfold xi;rw[dT (show(i:Int)<(r.length:Int) by omega),ak,aoO hil,aS (k:=i) (by omega)];dsimp only;rw[dT (show okC 1000 r[i]/\ok (Rat×Rat) 10 v from⟨hr _ (aoY hil),hv⟩),dT (by simp;omega),aQ];rw[ap0 hil,List.map_append]at hn;exact hn
def al2:Cn 23 [(.st (.sl tCU)),tV]:=cn λ(r:List BCU) (v:BV)=>lf (Al r v) [.d (.st (.sl tCU)) (r.map λc=>mvB c (dec v))] λh=>by
 obtain⟨n,hn⟩:=acP h r.length 0 (ao3 _);exact aX Gt (amk _ _ ⟨n,hn⟩)
def RH:List En:=[enT oW,enL n7,enL Cl]
def W8:Ctx:=CX (ens RH) []
def JK(l m:BO3)(_k:KT):OLR:=og (o2 l.1 m.2.1) (og (o2 l.2.1 m.1) (og (o2 (hMu l.1 m.2.1) (hMu l.2.1 m.1)) (match(aD (ag (hMu l.1 m.2.1)) (ag (hMu l.2.1 m.1)))==0 with|T'=>(og (o2 l.1 m.2.2) (og (o2 l.2.2 m.1) (og (o2 (hMu l.1 m.2.2) (hMu l.2.2 m.1)) (match(aD (ag (hMu l.1 m.2.2)) (ag (hMu l.2.2 m.1)))==0 with|T'=>(og (o2 l.2.1 m.2.2) (og (o2 l.2.2 m.2.1) (og (o2 (hMu l.2.1 m.2.2) (hMu l.2.2 m.2.1)) (S' [RV.d .bool ((aD (ag (hMu l.2.1 m.2.2)) (ag (hMu l.2.2 m.2.1)))==0)]))))|F'=>S' [RV.d .bool F']))))|F'=>S' [RV.d .bool F'])))
theorem WP(l m:BO3):RS W8 211 [.d tO l,.d tO m] (JK l m):=rsX
def XN:Cn 211 [tO,tO]:=cn λ(l m:BO3)=>lf (l=m/\ok Ln 300 l) [.d .bool T'] λh=>by
 refine aX RH (WP _ _ ⟨0,?_⟩);obtain⟨rfl,h⟩:=h;obtain⟨l,rfl,bl⟩:=aJ h;unfold JK;simp only[aV,Nat.reduceAdd,Nat.reduceLeDiff,am,aqp l.2.1 l.1,aqp l.2.2 l.1,aqp l.2.2 l.2.1]
def Q9:List En:=[enT oW]
def Xi:Ctx:=CX (ens Q9) []
def JZ(c d:BO3)(_k:KT):OLR:=og (o2 c.1 d.1) (match(aD (ag c.1) (ag d.1))==0 with|T'=>(og (o2 c.2.1 d.2.1) (match(aD (ag c.2.1) (ag d.2.1))==0 with|T'=>(og (o2 c.2.2 d.2.2) (S' [RV.d .bool ((aD (ag c.2.2) (ag d.2.2))==0)]))|F'=>S' [RV.d .bool F']))|F'=>S' [RV.d .bool F'])
theorem VX(c d:BO3):RS Xi 210 [.d tO c,.d tO d] (JZ c d):=rsX
def XQ:Cn 210 [tO,tO]:=cn λ(c d:BO3)=>lf (c=d/\ok Ln 300 c) [.d .bool T'] λh=>by
 refine aX Q9 (VX _ _ ⟨0,?_⟩);obtain⟨rfl,h⟩:=h;obtain⟨l,rfl,bl⟩:=aJ h;unfold JZ;simp only[aV,Nat.reduceLeDiff,am]
def UZ:List En:=[enT XN,enT XQ]
def af4:Ctx:=CX (ens UZ) []
def UE(a b:BCU)(_k:KT):OLR:=match !(a.1==b.1)with|T'=>S' [RV.d .bool F']|F'=>(match a.1 with|T'=>(og (D' (a.2.2.1=b.2.2.1/\ok Ln 300 a.2.2.1)) (S' [RV.d .bool T']))|F'=>(og (D' (a.2.1=b.2.1/\ok Ln 300 a.2.1)) (S' [RV.d .bool T'])))
theorem adc(a b:BCU):RS af4 136 [.d tCU a,.d tCU b] (UE a b):=rsX
def afY:Cn 136 [tCU,tCU]:=cn λ(a b:BCU)=>lf (Mk a b) [.d .bool T'] λh=>by
 refine aX UZ (adc _ _ ⟨0,?_⟩);obtain⟨rfl,h1,h2,_⟩:=h;unfold UE;rw[aqM];cases e:a.1
 ·rw[dT (show a.2.1=a.2.1/\ok Ln 300 a.2.1 from⟨rfl,(h2 e).1⟩)];rfl
 ·rw[dT (show a.2.2.1=a.2.2.1/\ok Ln 300 a.2.2.1 from⟨rfl,(h1 e).1⟩)];rfl
def Tx:List En:=[enT afY,enT nM]
def aeg:Ctx:=CX (ens Tx) []
def QX(a b:BCU)(_k:KT):OLR:=og (D' (Mk a b)) (match a.2.2.2.1==b.2.2.2.1 with|T'=>(og (D' (okP 4000 a.2.2.2.2.1/\okP 4000 b.2.2.2.2.1)) (match aB (dec a.2.2.2.2.1) (dec b.2.2.2.2.1)==0 with|T'=>(og (D' (okP 4000 a.2.2.2.2.2/\okP 4000 b.2.2.2.2.2)) (S' [RV.d .bool (aB (dec a.2.2.2.2.2) (dec b.2.2.2.2.2)==0)]))|F'=>S' [RV.d .bool F']))|F'=>S' [RV.d .bool F'])
theorem adH(a b:BCU):RS aeg 116 [.d tCU a,.d tCU b] (QX a b):=rsX
def agD:Cn 116 [tCU,tCU]:=cn λ(a b:BCU)=>lf (Mk a b) [.d .bool T'] λh=>by
 refine aX Tx (adH _ _ ⟨0,?_⟩);have h0:=h;obtain⟨rfl,hc⟩:=h;have c4:=aY (k:=4000) hc (by decide) (by decide);have z:∀{x:BP},okP 4000 x->(aB (dec x) (dec x)==0)=true:=λh=>apw.2 (Ot (cY h));unfold QX;rw[dT h0,aqM,dT (show okP 4000 a.2.2.2.2.1/\okP 4000 a.2.2.2.2.1 from⟨c4.2.2.1,c4.2.2.1⟩),dT (show okP 4000 a.2.2.2.2.2/\okP 4000 a.2.2.2.2.2 from⟨c4.2.2.2,c4.2.2.2⟩),z c4.2.2.1,z c4.2.2.2]
def Q3:List En:=[enT agD]
def Ol:NT:=[((54,14),{keep:=[2,3,5],hl:=2})]
def DC:Ctx:=CX (ens Q3) Ol
def qk(r s:List BCU)(s5:Int):Cfg:=⟨54,[.blk 0,.seq 31],[(2,.box 0 0),(3,.box 1 0),(5,SI s5)],[.box 30 [.d (.sl tCU) r],.box 30 [.d (.sl tCU) s]],0,[]⟩
def Kx(r s:List BCU)(k:KT):OLR:=match(r.length:Int) !=(s.length:Int)with|T'=>S' [RV.d .bool F']|F'=>k 14 (qk r s 0)
theorem VM(r s:List BCU):RS DC 54 [.d (.st (.sl tCU)) r,.d (.st (.sl tCU)) s] (Kx r s):=rsX
def pT(r s:List BCU)(s5:Int)(k:KT):OLR:=match D' (s5<(r.length:Int))with|T'=>(match aH r s5 with|S' x1=>(match aH s s5 with|S' x2=>(og (D' (Mk x1 x2)) (k 14 (qk r s (i64.wrap (s5+1)))))|N'=>N')|N'=>N')|F'=>S' [RV.d .bool T']
theorem wb(r s:List BCU)(s5:Int):RN DC 14 (qk r s s5) (pT r s s5):=rnX
theorem PH{r:List BCU}(h6:r.length<=1000000)(h:∀e∈r,okC 3500 e):∀(j i:Nat),i+j=r.length->DC.Runs 14 (qk r r (i:Int)) [.d .bool T']:=by
 intro j;induction j with
 |zero=>
  intro i hi;refine wb _ _ _ ⟨0,?_⟩;unfold pT;rw[dF (show ¬(i:Int)<(r.length:Int) by omega)]
 |succ j ih=>
  intro i hi;have hil:i<r.length:=by omega
  obtain⟨n,hn⟩:=ih (i+1) (by omega);refine wb _ _ _ ⟨n,?_⟩;unfold pT;rw[dT (show(i:Int)<(r.length:Int) by omega),ak,aoO hil,aS (k:=i) (by omega)];dsimp only;rw[dT (show Mk r[i] r[i] from⟨rfl,h _ (aoY hil)⟩)];exact hn
def Yq:Cn 54 [(.st (.sl tCU)),(.st (.sl tCU))]:=cn λ(r s:List BCU)=>lf (WJ r s) [.d .bool T'] λh=>by
 obtain⟨rfl,h6,hr⟩:=h;obtain⟨n,hn⟩:=PH h6 hr r.length 0 (ao3 _);refine aX Q3 (VM _ _ ⟨n,?_⟩);unfold Kx;rw[arf];exact hn
def Oz:List En:=[enT acq,enT Yq]
def N7:NT:=[((22,6),{keep:=[2,3,8,9,10],hl:=2})]
def Cj:Ctx:=CX (ens Oz) N7
def ue(r s:List BCU)(s10:Int):Cfg:=⟨22,[.blk 0,.seq 25],[(2,.box 0 0),(3,.box 1 0),(8,.d (.sl tCU) r),(9,SI (r.length:Int)),(10,SI s10)],[.box 30 [.d (.sl tCU) r],.box 30 [.d (.sl tCU) s]],0,[]⟩
def V3(r s:List BCU)(k:KT):OLR:=k 6 (ue r s 0)
theorem Wu(r s:List BCU):RS Cj 22 [.d (.st (.sl tCU)) r,.d (.st (.sl tCU)) s] (V3 r s):=rsX
def sf(r s:List BCU)(s10:Int)(k:KT):OLR:=match D' (s10<(r.length:Int))with|T'=>(match aH r s10 with|S' x1=>(og (D' (okC 3500 x1)) (match !(Ga (dC x1))with|T'=>S' [RV.d .bool F']|F'=>k 6 (ue r s (i64.wrap (s10+1)))))|N'=>N')|F'=>(og (D' (WJ r s)) (S' [RV.d .bool T']))
theorem z8(r s:List BCU)(s10:Int):RN Cj 6 (ue r s s10) (sf r s s10):=rnX
theorem O7{r s:List BCU}(h:G3 r s):∀(j i:Nat),i+j=r.length->Cj.Runs 6 (ue r s (i:Int)) [.d .bool T']:=by
 intro j;induction j with
 |zero=>
  intro i hi;refine z8 _ _ _ ⟨0,?_⟩;unfold sf;rw[dF (show ¬(i:Int)<(r.length:Int) by omega),dT h.1]
 |succ j ih=>
  intro i hi;have hil:i<r.length:=by omega
  have:=h.1.2.1;obtain⟨n,hn⟩:=ih (i+1) (by omega);refine z8 _ _ _ ⟨n,?_⟩;unfold sf;rw[dT (show(i:Int)<(r.length:Int) by omega),ak,aoO hil,aS (k:=i) (by omega)];dsimp only;rw[dT (h.1.2.2 _ (aoY hil)),h.2 _ (aoY hil)];exact hn
def V6:Cn 22 [(.st (.sl tCU)),(.st (.sl tCU))]:=cn λ(r s:List BCU)=>lf (G3 r s) [.d .bool T'] λh=>by
 obtain⟨n,hn⟩:=O7 h r.length 0 (ao3 _);exact aX Oz (Wu _ _ ⟨n,hn⟩)
section
variable {v:Rat×Rat}
theorem JD(p:Pt):pX (trP p v)=pX p+of v.1:=congrArg Prod.fst (acu p v)
theorem GC(p:Pt):pY (trP p v)=pY p+of v.2:=congrArg Prod.snd (acu p v)
theorem Bi{p q:Pt}[Rpd p][Rpd q]:bj (xP (trP p v)) (xP (trP q v))=bj (xP p) (xP q):=by
 rw[aai,aai,JD,JD];congr 1;grind
theorem UA{p q:Pt}[Rpd p][Rpd q]:bj (yP (trP p v)) (yP (trP q v))=bj (yP p) (yP q):=by
 rw[aan,aan,GC,GC];congr 1;grind
theorem aaZ{l:Ln}{p:Pt}[Rpd p]:oM (mvLn l v) (trP p v)=oM l p:=by
 rw[uc,uc,JD,GC];unfold mvLn;rw[of_add,of_add,bR,bR];congr 1;grind
theorem YP{c:Ln}{p:Pt}[Rpd p]:iq (mvCi c v) (trP p v)=iq c p:=by
 rw[tF,tF,JD,GC];unfold mvCi;rw[of_add,of_add];congr 2;grind
theorem alV{p:Pt}[Rpd p](q:Rat):eG (yP (trP p v)) (q+v.2)=eG (yP p) q:=by
 rw[cmpTR_re wg,cmpTR_re wg,E5,E5,GC,of_add];congr 1;grind
variable {c:Cv} {p:Pt} [Rpd p] [Rpd (frC c)] [Rpd (toC c)]
theorem Uf:oS (mvCv c v)=oS c:=by
 unfold oS;rw[show frC (mvCv c v)=trP (frC c) v from rfl,show toC (mvCv c v)=trP (toC c) v from rfl,Bi];rfl
theorem Rh:inX (mvCv c v) (trP p v)=inX c p:=by
 unfold inX;rw[show frC (mvCv c v)=trP (frC c) v from rfl,show toC (mvCv c v)=trP (toC c) v from rfl,Bi,Bi]
theorem KG:P2 (mvCv c v) (trP p v)=P2 c p:=by
 unfold P2;rw[Uf,show frC (mvCv c v)=trP (frC c) v from rfl,show toC (mvCv c v)=trP (toC c) v from rfl,UA,UA,show(mvCv c v).1=c.1 from rfl,show cwC (mvCv c v)=cwC c from rfl];cases ha:c.1
 ·have e:lnC (mvCv c v)=mvLn (lnC c) v:=by show(bif c.1 then c.2.1 else mvLn c.2.1 v)=_;rw[ha];rfl
  rw[e,aaZ];rfl
 ·have e:ciC (mvCv c v)=mvCi (ciC c) v:=by show(bif c.1 then mvCi c.2.2.1 v else c.2.2.1)=_;rw[ha];rfl
  rw[e,YP,show(mvCi (ciC c) v).2.1=(ciC c).2.1+v.2 from rfl,alV];rfl
theorem adG:DG (mvCv c v) (trP p v)=DG c p:=by
 unfold DG ovB ovF ovX xj zp;rw[Uf,Rh,KG,show frC (mvCv c v)=trP (frC c) v from rfl,show toC (mvCv c v)=trP (toC c) v from rfl,Bi,Bi]
end
theorem Vs{l:List BCU}(h:∀e∈l,okC 3500 e){p:Pt}[Rpd p]{v:Rat×Rat}:∀{o:Bool},vN (l.map λc=>mvB c v) (trP p v) o=vN l p o:=by
 induction l with
 |nil=>intro;rfl
 |cons c l ih=>
  intro o;have hc:=h c (by simp);have r1:Rpd (frC (dC c)):=cY hc.2.2.1;have r2:Rpd (toC (dC c)):=cY hc.2.2.2;rw[List.map_cons];unfold vN;rw[abO,adG,ih λe he=>h e (ao4 _ he)];unfold xj zp;rw[Rh,KG]
theorem aeW{c:BCU}{k:Nat}(h:okC k c){v:Rat×Rat}:mvB (mvB c v) (bkV v)=c:=by
 obtain⟨ar,li,ci,cw,fr,to⟩:=c;obtain⟨h1,h2,h3,h4⟩:=h;dsimp only at h1 h2 h3 h4;obtain⟨f,rfl,_,_⟩:=bL h3;obtain⟨t,rfl,_,_⟩:=bL h4;have z:∀a b:Rat,a+b+ -b=a:=λa b=>by grind
 have e:∀p:Pt,trP (trP p v) (bkV v)=p:=λp=>by
  unfold trP bkV;dsimp only;rw[z,z]
 cases ar
 ·obtain⟨l,rfl,_⟩:=aJ (h2 rfl).1
  have el:mvLn (mvLn l v) (bkV v)=l:=by
   unfold mvLn bkV;refine ar1 rfl (ar1 rfl ?_);show l.2.2+(l.1*v.1+l.2.1*v.2)+(l.1* -v.1+l.2.1* -v.2)=l.2.2;grind
  show(F',enc (mvLn (dec (enc (mvLn (dec (enc l)) v))) (bkV v)),ci,cw,enc (trP (dec (enc (trP (dec (enc f)) v))) (bkV v)),enc (trP (dec (enc (trP (dec (enc t)) v))) (bkV v)))=_;simp only[ao,e,el]
 ·obtain⟨l,rfl,_⟩:=aJ (h1 rfl).1
  have el:mvCi (mvCi l v) (bkV v)=l:=by
   unfold mvCi bkV;dsimp only;rw[z,z]
  show(T',li,enc (mvCi (dec (enc (mvCi (dec (enc l)) v))) (bkV v)),cw,enc (trP (dec (enc (trP (dec (enc f)) v))) (bkV v)),enc (trP (dec (enc (trP (dec (enc t)) v))) (bkV v)))=_;simp only[ao,e,el]
theorem ae6{c:BCU}{j:Nat}(hc:okC j c)(hj:j<=600)(hs:DH c){v:Rat×Rat}[bv:Bd v 3]:okC 1000 (mvB c v):=by
 obtain⟨ar,li,ci,cw,fr,to⟩:=c;have h3:=hc.2.2.1;have h4:=hc.2.2.2;simp only at h3 h4;obtain⟨fr,rfl,bf,rf⟩:=bL (aU (k:=600) h3 hj (by decide));obtain⟨to,rfl,bt,rt⟩:=bL (aU (k:=600) h4 hj (by decide))
 have o3:okP 1000 (enc (trP (dec (enc fr)) v)):=by
  rw[ao];exact aoQ (aL (by decide) (by decide))
 have o4:okP 1000 (enc (trP (dec (enc to)) v)):=by
  rw[ao];exact aoQ (aL (by decide) (by decide))
 cases ar
 ·have k:=hs.2 rfl;simp only at k;obtain⟨li,rfl,⟨ba,bb,bc⟩,nz⟩:=dL k;refine⟨λe=>(by cases e),λ_=>?_,o3,o4⟩;show Fa (enc (mvLn (dec (enc li)) v));rw[ao];have bm:Bd (mvLn li v) 300:=(inferInstance:Bd ((li.1,li.2.1,li.2.2+(li.1*v.1+li.2.1*v.2)):Ln) _).mono (by decide);exact⟨aoQ (okd (by decide) (by decide)),by rw[ao];exact nz⟩
 ·have k:=hs.1 rfl;simp only at k;obtain⟨ci,rfl,⟨ba,bb,bc⟩,nz⟩:=b8 k;refine⟨λ_=>?_,λe=>(by cases e),o3,o4⟩;show rD (enc (mvCi (dec (enc ci)) v));rw[ao];have bm:Bd (mvCi ci v) 300:=(inferInstance:Bd ((ci.1+v.1,ci.2.1+v.2,ci.2.2):Ln) _).mono (by decide);exact⟨aoQ (okd (by decide) (by decide)),by rw[ao];exact nz⟩
theorem RJ{c:Cv}{p:Pt}[Rpd p]{v:Rat×Rat}:dv (mvCv c v) (trP p v)=dv c p:=by
 unfold dv;rw[show(mvCv c v).1=c.1 from rfl];cases ha:c.1
 ·have e:lnC (mvCv c v)=mvLn (lnC c) v:=by show(bif c.1 then c.2.1 else mvLn c.2.1 v)=_;rw[ha];rfl
  rw[cond_false,cond_false,e,aaZ]
 ·have e:ciC (mvCv c v)=mvCi (ciC c) v:=by show(bif c.1 then mvCi c.2.2.1 v else c.2.2.1)=_;rw[ha];rfl
  rw[cond_true,cond_true,e,YP]
theorem ahi{c:BCU}(h:gM c){v:Rat×Rat}:Ga (dC (mvB c v))=true:=by
 have k:=fG h.1.gd;have r1:=k.f.1;have r2:=k.t.1;rw[abO];unfold Ga aB;rw[show frC (mvCv (dC c) v)=trP (frC (dC c)) v from rfl,show toC (mvCv (dC c) v)=trP (toC (dC c)) v from rfl,RJ,RJ,Bi,UA,k.f.2,k.t.2];have hne:(aB (frC (dC c)) (toC (dC c))==0)=false:=apk.2 h.1.2.2.2;unfold aB at hne;rw[hne,show(mvCv (dC c) v).1=c.1 from rfl,show cwC (mvCv (dC c) v)=c.2.2.2.1 from rfl];cases ha:c.1
 ·rw[h.2.2.2 ha];rfl
 ·rfl
end
end Go.Proofs.YtoimchcjhdcdmaaGreat
end
