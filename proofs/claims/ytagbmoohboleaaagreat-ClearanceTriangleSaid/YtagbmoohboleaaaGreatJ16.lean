/- The distance of any point, by real values. -/
import Derived.Test.YtagbmoohboleaaaGreatJ15
import Derived.Test.YtagbmoohboleaaaGreatJ13
noncomputable section
namespace Go.Proofs.YtagbmoohboleaaaGreat
open Go.RowKit Go.IntKind
theorem an4:type_of% @decide_eq_true_iff:=@decide_eq_true_iff
theorem ap3:type_of% @List.mem_filter:=@List.mem_filter
section
def rcX(p:Pt)(v:Rat×Rat):Rat×Rat:=(p.1-v.1,p.2.1)
def rcY(p:Pt)(v:Rat×Rat):Rat×Rat:=(p.2.2.1-v.2,p.2.2.2.1)
def prQ(q:Qd)(x y:Rat×Rat)(s:Rat):Qd:=(q.1+s*(x.1*y.1),q.2.1+s*(x.2*y.1),q.2.2.1+s*(x.1*y.2),q.2.2.2.1+s*(x.2*y.2),q.2.2.2.2.1,q.2.2.2.2.2)
def noQ(p q:Pt):Qd:=(0,0,0,0,p.2.2.2.2,q.2.2.2.2)
def crQ(v:Rat×Rat)(p q:Pt):Qd:=prQ (prQ (noQ p q) (rcX p v) (rcY q v) 1) (rcY p v) (rcX q v) (-1)
def doQ(v:Rat×Rat)(p q:Pt):Qd:=prQ (prQ (noQ p q) (rcX p v) (rcX q v) (-2)) (rcY p v) (rcY q v) (-2)
def z2:Rat×Rat:=(0,0)
def apQ(p q:Pt)(r:Rat):Qd:=((doQ z2 p q).1+(sqA p z2+sqA q z2)-r*r,(doQ z2 p q).2.1+sqB p z2,(doQ z2 p q).2.2.1+sqB q z2,(doQ z2 p q).2.2.2.1,p.2.2.2.2,q.2.2.2.2)
namespace RE
theorem UU(A B C D m n s a b c d:RE):A+s*(a*c)+(B+s*(b*c))*m+(C+s*(a*d))*n+(D+s*(b*d))*(m*n)=A+B*m+C*n+D*(m*n)+s*((a+b*m)*(c+d*n)):=by grind
theorem Uh(A B C D m n a b c d r:RE):A+(a+c)-r+(B+b)*m+(C+d)*n+D*(m*n)=A+B*m+C*n+D*(m*n)+(a+b*m)+(c+d*n)-r:=by grind
theorem aiy(x y u w:RE):0+ -2*((x-0)*(u-0))+ -2*((y-0)*(w-0))+((x-0)*(x-0)+(y-0)*(y-0))+((u-0)*(u-0)+(w-0)*(w-0))=(x-u)*(x-u)+(y-w)*(y-w):=by grind
theorem akL(a b:RE):0+1*a+ -1*b=a-b:=by grind
theorem M7(a v b:RE):a-v+b=a+b-v:=by grind
theorem OJ(u t:RE):u*u-t*t=(u-t)*(u+t):=by grind
theorem agY(Q r t:RE):Q+r*r+(r+r)*t=(t+r)*(t+r)+(Q-t*t):=by grind
theorem adW(Q r t:RE):Q+r*r+ -(r+r)*t=(t-r)*(t-r)+(Q-t*t):=by grind
theorem abX(u t r:RE):u*u+t*t-(u*t+u*t)-r*r=(u-(t+r))*(u-(t-r)):=by grind
theorem ajQ(u t r:RE)(h1:0<u)(h2:0<t)(h3:0<=r):0<u+(t+r):=by grind
theorem amk(u t r:RE)(h1:0<u)(h2:r<t):0<u+(t-r):=by grind
theorem akV(u t r:RE)(h1:0<u-(t+r))(h2:0<=r):0<u-(t-r):=by grind
theorem amx(u t r:RE)(h1:0<u)(h2:t<=r):0<u-(t-r):=by grind
theorem gz(x y t:RE)(h1:x<=y):x-t<=y-t:=by grind
theorem HT(x y:RE):((y*y-(x*x)))+((x-(y))*(x-(y)))+2*((x-(y))*(y-(0)))=0:=by grind
theorem OZ(x y:RE)(h1:y<=x)(h2:0<=y):y*y<=x*x:=λhg=>far (aJ (aJ (aM hg) (aH (aG h1) (aG h1))) (ja (by decide+kernel:(0:Rat)<2) (aH (aG h1) (aG h2)))) (HT x y)
theorem VQ(a b:RE):a*b*(a*b)=a*a*(b*b):=by grind
theorem PA(n e k r:RE):n*(e*k-r)=e*(n*k)-r*n:=by grind
def vq(q:Qd):RE:=vQ q.1 q.2.1 q.2.2.1 q.2.2.2.1 q.2.2.2.2.1 q.2.2.2.2.2
theorem zO{q:Qd}(h:0<=q.2.2.2.2.1)(h':0<=q.2.2.2.2.2):sgQ q=sg (vq q):=sgnQ_re h h'
theorem IY(q:Qd)(x y:Rat×Rat)(s:Rat):vq (prQ q x y s)=vq q+of s*(v2 x.1 x.2 q.2.2.2.2.1*v2 y.1 y.2 q.2.2.2.2.2):=by
 unfold vq vQ prQ v2;simp only[of_add,of_mul];exact UU _ _ _ _ _ _ _ _ _ _ _
theorem of0:of 0=0:=rfl
theorem Xz(p q:Pt):vq (noQ p q)=0:=by
 unfold vq vQ noQ;dsimp only;rw[of0,zero_mul,zero_mul,zero_mul,add_zero,add_zero,add_zero]
def sbE(v:Rat×Rat)(p:PE):PE:=(p.1-of v.1,p.2-of v.2)
theorem C3(p:Pt)(v:Rat×Rat):v2 (rcX p v).1 (rcX p v).2 p.2.2.2.2=(sbE v (pR p)).1:=by
 unfold rcX sbE pR pX v2;dsimp only;rw[of_sub,M7]
theorem BL(p:Pt)(v:Rat×Rat):v2 (rcY p v).1 (rcY p v).2 p.2.2.2.2=(sbE v (pR p)).2:=by
 unfold rcY sbE pR pY v2;dsimp only;rw[of_sub,M7]
def turS(v:Rat×Rat)(p q:PE):Int:=sg (crs (sbE v p) (sbE v q))
theorem crQ_re(v:Rat×Rat){p q:Pt}[hp:Rpd p][hq:Rpd q]:sgQ (crQ v p q)=turS v (pR p) (pR q):=by
 rw[zO (q:=crQ v p q) (show 0<=p.2.2.2.2 from hp.nn) (show 0<=q.2.2.2.2 from hq.nn)];unfold crQ;rw[IY,IY,Xz];show sg (0+of 1*(v2 (rcX p v).1 (rcX p v).2 p.2.2.2.2*v2 (rcY q v).1 (rcY q v).2 q.2.2.2.2)+of (-1)*(v2 (rcY p v).1 (rcY p v).2 p.2.2.2.2*v2 (rcX q v).1 (rcX q v).2 q.2.2.2.2))=_;rw[C3,C3,BL,BL];exact congrArg sg (akL _ _)
def apaS(p q:PE)(r:Rat):Int:=sg (dsE p q-of (r*r))
theorem apQ_re{p q:Pt}[hp:Rpd p][hq:Rpd q](r:Rat):sgQ (apQ p q r)=apaS (pR p) (pR q) r:=by
 rw[zO (q:=apQ p q r) (show 0<=p.2.2.2.2 from hp.nn) (show 0<=q.2.2.2.2 from hq.nn)]
 have e1:vq (doQ z2 p q)=0+ -2*((pX p-0)*(pX q-0))+ -2*((pY p-0)*(pY q-0)):=by
  unfold doQ;rw[IY,IY,Xz];show 0+of (-2)*(v2 (rcX p z2).1 (rcX p z2).2 p.2.2.2.2*v2 (rcX q z2).1 (rcX q z2).2 q.2.2.2.2)+of (-2)*(v2 (rcY p z2).1 (rcY p z2).2 p.2.2.2.2*v2 (rcY q z2).1 (rcY q z2).2 q.2.2.2.2)=_;rw[C3,C3,BL,BL];rfl
 have e2:∀{p:Pt},Rpd p->v2 (sqA p z2) (sqB p z2) p.2.2.2.2=(pX p-0)*(pX p-0)+(pY p-0)*(pY p-0):=λ{p} h=>by
  have:=HR (p:=p) (v:=z2);unfold sqP at this;rw[vR_co]at this;exact this
 have e3:vq (apQ p q r)=vq (doQ z2 p q)+v2 (sqA p z2) (sqB p z2) p.2.2.2.2+v2 (sqA q z2) (sqB q z2) q.2.2.2.2-of (r*r):=by
  unfold vq vQ apQ v2;dsimp only;rw[of_sub,of_add,of_add,of_add,of_add];exact Uh _ _ _ _ _ _ _ _ _ _ _
 rw[e3,e1,e2 hp,e2 hq,aiy];rfl
def V8(c:Cv)(p:PE)(r:Rat):Int:=min (apaS (pR (frC c)) p r) (apaS (pR (toC c)) p r)
def rngS(d:RE)(q r:Rat):Int:=bif decide (0<=sg (d-v2 (q+r*r) (r+r) q))then sg (d-v2 (q+r*r) (r+r) q)else bif decide (aE q (r*r)<=0)then-1 else-(sg (d-v2 (q+r*r) (-(r+r)) q))
def witE(c:Cv)(p:PE):Bool:=gQ (frm (ciC c) (pR (ccF c))) (frm (ciC c) (pR (ccT c))) (frm (ciC c) p)
open Classical in
def besE(c:Cv)(p:PE):Bool:=decide (btE (tE (lnC c) (pR (frC c))) (tE (lnC c) (pR (toC c))) (tE (lnC c) p))
open Classical in
def poiE(c:Cv)(p:PE)(r:Rat):Int:=
 bif decide (r<0)then 1 else
 bif c.1 then(bif decide (p=vE (ctr (ciC c)))then aE (ciC c).2.2 (r*r)else bif witE c p then rngS (dsE p (vE (ctr (ciC c)))) (ciC c).2.2 r else V8 c p r)
 else bif besE c p then sg (exE (lnC c) p*exE (lnC c) p-of (r*r*((lnC c).1*(lnC c).1+(lnC c).2.1*(lnC c).2.1)))else V8 c p r
theorem gM{x y:RE}(h:x<=y):sg x<=sg y:=by
 rcases bi x with⟨a,e⟩|⟨a,e⟩|⟨a,e⟩<;>rcases bi y with⟨b,f⟩|⟨b,f⟩|⟨b,f⟩<;>rw[e,f]<;>try decide
 ·exfalso;rw[b]at h;exact h a
 ·exact absurd (c7 b a) h
 ·exfalso;rw[a]at h;exact h b
theorem aaB(a b t:RE):min (sg (a-t)) (sg (b-t))=sg (mnE a b-t):=by
 unfold mnE;by_cases e:b<a
 ·rw[anp e];exact Int.min_eq_right (gM (gz _ _ _ (le_of_lt e)))
 ·rw[ank e];exact Int.min_eq_left (gM (gz _ _ _ ((lt_or_ge b a).resolve_left e)))
theorem O5{c:Cv}(hf:Rpd (frC c))(ht:Rpd (toC c))(v:Rat×Rat)(r:Rat):V8 c (vE v) r=sg (vR (yB c v)-of (r*r)):=by
 rw[HQ hf ht];exact aaB _ _ _
theorem gG{n:RE}(h:0<n)(x:RE):sg (n*x)=sg x:=by rw[dp,dA h,aoc]
theorem xM{a b:Rat}(ha:0<=a)(hb:0<=b):rq (a*b)=rq a*rq b:=EW _ _ (gf _) (aH (gf _) (gf _)) (by rw[dB (anh ha hb),of_mul,VQ,dB ha,dB hb])
theorem JH{u t:RE}{q r:Rat}(hu:0<u)(hq:0<q)(ht:t=rq q)(hr:0<=r):rngS (u*u) q r=sg (u*u+of q-(u*t+u*t)-of (r*r)):=by
 have hr':0<=of r:=fQ.2 hr;have tt:t*t=of q:=by rw[ht];exact dB (by grind)
 have tp:0<t:=by rw[ht];exact Bf hq
 have e1:v2 (q+r*r) (r+r) q=(t+of r)*(t+of r):=by
  unfold v2;rw[<-ht,of_add,of_mul,of_add,agY,tt,sub_self,add_zero]
 have e2:v2 (q+r*r) (-(r+r)) q=(t-of r)*(t-of r):=by
  unfold v2;rw[<-ht,of_add,of_mul,of_neg,of_add,adW,tt,sub_self,add_zero]
 have f1:sg (u*u-v2 (q+r*r) (r+r) q)=sg (u-(t+of r)):=by
  rw[e1,OJ,mul_comm,gG (ajQ _ _ _ hu tp hr')]
 have f2:of r<t->sg (u*u-v2 (q+r*r) (-(r+r)) q)=sg (u-(t-of r)):=λg=>by
  rw[e2,OJ,mul_comm,gG (amk _ _ _ hu g)]
 have fin:sg (u*u+of q-(u*t+u*t)-of (r*r))=sg (u-(t+of r))*sg (u-(t-of r)):=by
  rw[<-tt,of_mul,abX,dp]
 unfold rngS;rw[f1,fin];rcases bi (u-(t+of r))with⟨a,e⟩|⟨a,e⟩|⟨a,e⟩
 ·rw[e,dA (akV _ _ _ a hr')];rfl
 ·rw[e];show(0:Int)=0*_;rw[apU]
 ·rw[e];show(bif decide (aE q (r*r)<=0)then-1 else _)=_
  have cq:decide (aE q (r*r)<=0)=decide (q<=r*r):=by
   rw[yT]
  rw[cq];by_cases g:q<=r*r
  ·have tr:t<=of r:=sd _ _ (le_of_lt tp) hr' (by rw[tt,<-of_mul];exact fQ.2 g);rw[amW g,dA (amx _ _ _ hu tr)];rfl
  ·have tr:of r<t:=by
    rcases lt_or_ge (of r) t with k|k
    ·exact k
    ·exfalso;have:=OZ _ _ k (le_of_lt tp);rw[tt,<-of_mul]at this;exact g (fQ.1 this)
   rw[amY g,f2 tr];show-(sg _)= -1*sg _;omega
open Classical in
theorem WR{c:Cv}(h:GdE c){v:Rat×Rat}(hd:Rdd (kN c v))(r:Rat):poiE c (vE v) r=kS c v r:=by
 have hf:=h.f;have ht:=h.t;unfold poiE kS;by_cases hr:r<0
 ·rw[amW hr];rfl
 ·rw[amY hr,cond_false,cond_false,cmpTR_re hd.nn];have hr0:0<=r:=by grind
  cases ha:c.1
  ·rw[cond_false];have hl:=(h.l ha).1;have hn:0<nrE (lnC c):=pE hl
   have hb:besE c (vE v)=nU c (atP v):=by
    have:=zy (c:=c) (p:=atP v);rw[mn]at this;unfold besE;rw[apb,an4];exact this.symm
   unfold kN;rw[hb,ha,cond_false];cases nU c (atP v)
   ·exact O5 hf ht v r
   ·rw[cond_true,cond_true];have h1:1/((lnC c).1*(lnC c).1+(lnC c).2.1*(lnC c).2.1)*((lnC c).1*(lnC c).1+(lnC c).2.1*(lnC c).2.1)=1:=ani (kR hl)
    have en:nrE (lnC c)=of ((lnC c).1*(lnC c).1+(lnC c).2.1*(lnC c).2.1):=by
     rw[of_add,of_mul,of_mul];rfl
    have ek:nrE (lnC c)*of (1/((lnC c).1*(lnC c).1+(lnC c).2.1*(lnC c).2.1))=1:=by
     rw[en,mul_comm,<-of_mul,h1];rfl
    have e2:vR (aW (cD v (cQ (lnC c) v)) (cD v (cQ (lnC c) v)),0,0)=of (aW (cD v (cQ (lnC c) v)) (cD v (cQ (lnC c) v))):=dZ _ _;rw[e2,Fb hl,of_mul (r*r) ((lnC c).1*(lnC c).1+(lnC c).2.1*(lnC c).2.1),<-en,of_mul _ (1/((lnC c).1*(lnC c).1+(lnC c).2.1*(lnC c).2.1)),of_mul ((lnC c).1*v.1+(lnC c).2.1*v.2-(lnC c).2.2),<-RX,<-gG hn (_-of (r*r)),PA,ek];refine congrArg sg ?_;rw[mul_one]
  ·rw[cond_true];have hq:=(h.q ha).1
   have cz:vE v=vE (ctr (ciC c))↔zeV (aY c v)=true:=by
    unfold zeV aY cD vE;rw[am6,an4,an4];constructor
    ·intro e;have e1:=l8 (congrArg Prod.fst e);have e2:=l8 (congrArg Prod.snd e);dsimp only;rw[e1,e2];exact⟨by grind,by grind⟩
    ·intro ⟨e1,e2⟩;dsimp only at e1 e2;rw[show v.1=(ctr (ciC c)).1 by grind,show v.2=(ctr (ciC c)).2 by grind]
   unfold kN;rw[ha,cond_true];cases hz:zeV (aY c v)
   ·rw[amY (λe=>by rw[cz.1 e]at hz;cases hz),cond_false]
    have hw:witE c (vE v)=df c (aY c v):=by
     rw[(I4 h ha hz).2];show _=gQ _ _ (vE (cD (ctr (ciC c)) v));rw[<-Kk];rfl
    rw[hw];cases df c (aY c v)
    ·exact O5 hf ht v r
    ·rw[cond_true,cond_true,vR_mk]
     have dps:0<aW (aY c v) (aY c v):=by
      have:=vD hz;have:=ju (aY c v);grind
     have es:dsE (vE v) (vE (ctr (ciC c)))=of (aW (aY c v) (aY c v)):=by
      unfold dsE vE aW aY cD;rw[of_add,of_mul,of_mul,of_sub,of_sub]
     have su:=dB (show 0<=aW (aY c v) (aY c v) by grind);rw[es,<-su,JH (Bf dps) hq rfl hr0];unfold v2;have two:of (-2)= -2:=rfl;rw[two,XO,of_add,<-su,xM (by grind) (by grind)]
   ·rw[amW (cz.2 hz),cond_true]
    have tw:df c (aY c v)=true:=by
     unfold df;rw[ha,hz];rfl
    have dz:aW (aY c v) (aY c v)=0:=by
     unfold zeV at hz;obtain⟨a,b⟩:=am6.1 hz;unfold aW;rw[amZ a,amZ b];decide+kernel
    rw[tw,cond_true,vR_mk,dz,Rat.zero_mul,Rat.zero_add];unfold v2;rw[Ko,mul_zero,add_zero,<-of_sub,sg_of,ue]
end RE
end
section
namespace RE
theorem qR{c:Cv}(ha:c.1=false):onE c=segE (lnC c) (pR (frC c)) (pR (toC c)):=by funext p;unfold onE;rw[ha];rfl
theorem oK{c:Cv}(ha:c.1=true):onE c=arcE (ciC c) (pR (ccF c)) (pR (ccT c)):=by funext p;unfold onE;rw[anp ha]
structure al8 (c:Cv):Prop where
 q:0<(ciC c).2.2
 u:fV (ciC c) (pR (ccF c))
 w:fV (ciC c) (pR (ccT c))
 ne:frm (ciC c) (pR (ccF c))≠frm (ciC c) (pR (ccT c))
theorem KP{c:Cv}(h:GdE c)(ha:c.1=true):al8 c:=by
 have hf:=h.f;have ht:=h.t;obtain⟨hq,oF,oT⟩:=h.q ha;have oF:fV (ciC c) (pR (frC c)):=oF;have oT:fV (ciC c) (pR (toC c)):=oT;refine⟨hq,by rcases lK c with⟨e,_⟩|⟨e,_⟩<;>rw[e]<;>assumption,by rcases lK c with⟨_,e⟩|⟨_,e⟩<;>rw[e]<;>assumption,λe=>?_⟩;have e1:pR (ccF c)=pR (ccT c):=anx (fR _ _ _ (congrArg Prod.fst e)) (fR _ _ _ (congrArg Prod.snd e));rcases lK c with⟨g1,g2⟩|⟨g1,g2⟩<;>rw[g1,g2]at e1
 ·exact h.ne e1
 ·exact h.ne e1.symm
theorem xU(c:Ln)(p:PE):dtE (frm c p) (frm c p)=dsE p (vE (ctr c)):=rfl
theorem wu(p q:PE):0<=dsE p q:=by
 have h1:=cZ (p.1-q.1);have h2:=cZ (p.2-q.2);unfold dsE;grind
theorem TZ{c:Ln}{p q:PE}(e:frm c p=frm c q):p=q:=anx (fR _ _ _ (congrArg Prod.fst e)) (fR _ _ _ (congrArg Prod.snd e))
theorem QE{c:Ln}(hq:0<c.2.2){p:PE}(hp:p≠vE (ctr c)):∃u k q,0<u/\0<k/\u*u=dsE p (vE (ctr c))/\frm c q=((frm c p).1*k,(frm c p).2*k)/\fV c q/\dtE (frm c q) (frm c p)=u*rq c.2.2:=by
 have hn:=wu p (vE (ctr c))
 have h0:dsE p (vE (ctr c))≠0:=λe=>by
  obtain⟨a,b⟩:=kD e;exact hp (anx (by grind) (by grind))
 have hu:=gI hn;have hu0:=dK (dsE p (vE (ctr c)));generalize kH (dsE p (vE (ctr c)))=u at hu hu0
 have up:0<u:=by
  rcases cO hu0 with h|h
  ·exact h
  ·exact absurd (by rw[<-hu,h,zero_mul]) h0
 obtain⟨k,kp,ek⟩:=yU up;have tp:=Bf hq;have tt:=dB (m:=c.2.2) (by grind);have hd:dtE (frm c p) (frm c p)=u*u:=by rw[xU,hu]
 unfold dtE at hd;refine⟨u,rq c.2.2*k,((frm c p).1*(rq c.2.2*k)+of c.1,(frm c p).2*(rq c.2.2*k)+of c.2.1),up,mul_pos tp kp,hu,?_,?_,?_⟩
 ·exact anx (by show _+_-_=_;grind) (by show _+_-_=_;grind)
 ·show(_+_-_)*(_+_-_)+(_+_-_)*(_+_-_)=_;generalize (frm c p).1=a at hd ⊢;generalize (frm c p).2=b at hd ⊢;generalize rq c.2.2=t at tt ⊢;have:(a*(t*k))*(a*(t*k))+(b*(t*k))*(b*(t*k))=(a*a+b*b)*(k*k)*(t*t):=by grind
  have e2:u*u*(k*k)=1:=by
   have:u*u*(k*k)=(u*k)*(u*k):=by grind
   rw[this,ek,one_mul]
  rw[hd,e2,tt]at this;grind
 ·show(_+_-_)*_+(_+_-_)*_=_;generalize (frm c p).1=a at hd ⊢;generalize (frm c p).2=b at hd ⊢;generalize rq c.2.2=t at tt ⊢;have:(a*(t*k))*a+(b*(t*k))*b=(a*a+b*b)*(k*t):=by grind
  have e2:u*u*(k*t)=u*t*(u*k):=by grind
  rw[hd,e2,ek]at this;grind
theorem ajM{c:Ln}{q p:PE}{u:RE}(hq:0<=c.2.2)(o:fV c q)(hu:0<=u)(e:u*u=dsE p (vE (ctr c))):dtE (frm c q) (frm c p)<=u*rq c.2.2:=by
 have h1:=Db (frm c q).1 (frm c q).2 (frm c p).1 (frm c p).2;have h2:(frm c q).1*(frm c q).1+(frm c q).2*(frm c q).2=of c.2.2:=o;have h3:(frm c p).1*(frm c p).1+(frm c p).2*(frm c p).2=u*u:=by rw[e];rfl
 have tt:=dB hq;have t0:=gf c.2.2;rw[h2,h3,<-tt]at h1;have h4:=D7 _ _ _ h1;rcases lt_or_ge 0 (dtE (frm c q) (frm c p))with g|g
 ·exact sd _ _ (le_of_lt g) (aH hu t0) (by
   show dtE _ _*dtE _ _<=_;unfold dtE;grind)
 ·exact abl _ _ g (aH hu t0)
open Classical in
theorem Gl{c:Cv}(h:GdE c)(p:PE):∃m,Mn (onE c) p m/\∀r:Rat,0<=r->poiE c p r=sg (m-of (r*r)):=by
 have hf:=h.f;have ht:=h.t;have hend:∀r,V8 c p r=sg (mnE (dsE (pR (frC c)) p) (dsE (pR (toC c)) p)-of (r*r)):=λr=>aaB _ _ _;cases ha:c.1
 ·obtain⟨hl,oF,oT⟩:=h.l ha;have hn:0<nrE (lnC c):=pE hl;rw[qR ha];by_cases hb:btE (tE (lnC c) (pR (frC c))) (tE (lnC c) (pR (toC c))) (tE (lnC c) p)
  ·obtain⟨k,kp,ek⟩:=yU hn;refine⟨_,tW hn hb kp ek,λr hr=>?_⟩;unfold poiE besE;rw[dF (show ¬r<0 by grind),dT hb,ha];show sg _=_;rw[<-gG hn (_-of (r*r)),of_mul (r*r),PA,ek,mul_one];rfl
  ·refine⟨_,xB hn oF oT hb,λr hr=>?_⟩;unfold poiE besE;rw[dF (show ¬r<0 by grind),dF hb,ha];exact hend r
 ·have g:=KP h ha;have hq:=g.q;rw[oK ha];by_cases hz:p=vE (ctr (ciC c))
  ·refine⟨of (ciC c).2.2,⟨⟨_,⟨g.u,(kg _ _).1⟩,by rw[hz];exact g.u⟩,λq hq=>by rw[hz];exact mp hq.1⟩,λr hr=>?_⟩;unfold poiE;rw[dF (show ¬r<0 by grind),dT hz,ha];show aE _ _=_;rw[<-of_sub,sg_of];unfold aE;grind
  ·obtain⟨u,k,q,up,kp,eu,eq,oq,dq⟩:=QE hq hz;have tt:=dB (m:=(ciC c).2.2) (by grind);cases hw:witE c p
   ·refine⟨mnE (dsE (pR (frC c)) p) (dsE (pR (toC c)) p),?_,λr hr=>?_⟩
    ·have hd:¬gQ (frm (ciC c) (pR (ccF c))) (frm (ciC c) (pR (ccT c))) (frm (ciC c) p)=true:=λe=>by
      unfold witE at hw;rw[e]at hw;cases hw
     have res:=CC (v:=p) (S:=arcE (ciC c) (pR (ccF c)) (pR (ccT c))) ⟨g.u,(kg _ _).1⟩ ⟨g.w,(kg _ _).2⟩ (λx hx=>(Bp g.u g.w hx.1 g.ne hx.2 hd).imp (vT hx.1 g.u) (vT hx.1 g.w));rcases lK c with⟨g1,g2⟩|⟨g1,g2⟩
     ·rw[g1,g2]at res ⊢;exact res
     ·rw[g1,g2]at res ⊢;rw[E3];exact res
    ·unfold poiE;rw[dF (show ¬r<0 by grind),dF hz,ha,hw];exact hend r
   ·refine⟨u*u+of (ciC c).2.2-(u*rq (ciC c).2.2+u*rq (ciC c).2.2),⟨⟨q,⟨oq,?_⟩,?_⟩,λx hx=>?_⟩,λr hr=>?_⟩
    ·rw[eq,nF _ _ _ kp];exact hw
    ·rw[po oq,dq,xU,<-eu,add_comm (of _)]
    ·rw[po hx.1,xU,<-eu,add_comm (of (ciC c).2.2)];exact Qc _ _ _ _ (ajM (by grind) hx.1 (le_of_lt up) eu)
    ·unfold poiE;rw[dF (show ¬r<0 by grind),dF hz,ha,hw,<-JH up hq rfl hr,eu];rfl
end RE
end
section
def rR(x u y v k:Rat):Pt:=mkP (mkR x u k) (mkR y v k)
def ftL(l c:Ln):Rat×Rat:=(ftX l c,ftY l c)
def yQ(l c:Ln):Rat:=(ftX l c-c.1)*(ftX l c-c.1)+(ftY l c-c.2.1)*(ftY l c-c.2.1)
def eO(l c:Ln):Rat:=(c.2.2-yQ l c)/ck l
def H3(l:Ln):Bool:=decide (l.2.1<0)||(decide (l.2.1=0)&&decide (-l.1<0))
def rU(l:Ln):Rat:=bif H3 l then-l.2.1 else l.2.1
def rS(l:Ln):Rat:=bif H3 l then- -l.1 else-l.1
def lcM(l c:Ln):Pt:=rR (ftX l c) (-rU l) (ftY l c) (-rS l) (eO l c)
def lcN(l c:Ln):Pt:=rR (ftX l c) (rU l) (ftY l c) (rS l) (eO l c)
def lR(l c:Ln):List Pt:=bif decide (eO l c<0)then []else bif decide (eO l c=0)then [atP (ftL l c)]else [lcM l c,lcN l c]
def Ng(l m:Ln):Int:=bif !decide (dE l m=0)then 0 else bif ph l m then 10 else 0
def ta(c d:Ln):List Pt:=bif iz c d then []else lR (nI c d) c
def T1(c d:Ln):Int:=bif qa c d then 10 else 0
def gY(a b:Cv):List Pt:=bif a.1&&b.1 then ta (ciC a) (ciC b)else bif a.1 then lR (lnC b) (ciC a)else bif b.1 then lR (lnC a) (ciC b)else mb (lnC a) (lnC b)
def agD(a b:Cv):Int:=bif a.1&&b.1 then T1 (ciC a) (ciC b)else bif a.1 then 0 else bif b.1 then 0 else Ng (lnC a) (lnC b)
def ajD(c:Ln):Pt:=rR c.1 (-1) c.2.1 0 c.2.2
def ajP(c:Ln):Pt:=rR c.1 1 c.2.1 0 c.2.2
theorem Vc(l c:Ln):cQ l (c.1,c.2.1)=ftL l c:=rfl
theorem Sq{x u y v k:Rat}[h:Nn k]:Rpd (rR x u y v k):=X9 u7 u7 (pB _ _ _ _ _)
section
variable {l c:Ln}
theorem adH [BdL l]:Bd (rU l) 12/\Bd (rS l) 12:=by
 unfold rU rS;cases H3 l
 ·exact⟨(inferInstance:Bd l.2.1 12),(inferInstance:Bd (-l.1) 12)⟩
 ·exact⟨(inferInstance:Bd (-l.2.1) 12),(inferInstance:Bd (- -l.1) 12)⟩
end
theorem Oa{x u y v k:Rat}{a b c:Nat}(h1:Bd x a)(h2:Bd u b)(h3:Bd y a)(h4:Bd v b)(h5:Bd k c){n:Nat}(hn:a+(b+c)+1<=n):Bd (rR x u y v k) n:=by
 have z:bdR n 0:=bJ mN.le (by omega);have i1:Bd (mkR x u k) (a+(b+c)+1):=inferInstance;have i2:Bd (mkR y v k) (a+(b+c)+1):=inferInstance;have f1:=i1.mono hn;have f2:=i2.mono hn;refine⟨?_⟩;unfold rR mkP rdP;dsimp only;refine⟨f1.le.1,f1.le.2.1,f2.le.1,f2.le.2.1,?_⟩;cases decide ((mkR x u k).2.1=0)&&decide ((mkR y v k).2.1=0)
 ·cases decide ((mkR x u k).2.1=0)
  ·exact f1.le.2.2
  ·exact f2.le.2.2
 ·exact z
section
variable {l c:Ln}
theorem Rk [BdL l][h:BdC c]:Bd (eO l c) 1000:=by
 obtain⟨f1,f2,_,_⟩:=we (l:=l) (c:=c);have hx:=h.x;have hy:=h.y;have hq:=h.q;have i1:Bd (ck l) 49:=inferInstanceAs (Bd (l.1*l.1+l.2.1*l.2.1) _);have i2:Bd (yQ l c) 673:=(inferInstance:Bd ((ftX l c-c.1)*(ftX l c-c.1)+(ftY l c-c.2.1)*(ftY l c-c.2.1)) _).mono (by decide);exact(inferInstance:Bd ((c.2.2-yQ l c)/ck l) _).mono (by decide)
theorem Gg [BdL l][h:BdC c]:Bd (ftL l c) 163:=by
 obtain⟨f1,f2,_,_⟩:=we (l:=l) (c:=c);exact(inferInstance:Bd ((ftX l c,ftY l c):Rat×Rat) _).mono (by decide)
theorem ad8 [BdL l][BdC c]:Bd (lcM l c) 1200/\Bd (lcN l c) 1200:=by
 obtain⟨f1,f2,_,_⟩:=we (l:=l) (c:=c);obtain⟨d1,d2⟩:=adH (l:=l);have k:=Rk (l:=l) (c:=c);have n1:Bd (-rU l) 12:=inferInstance;have n2:Bd (-rS l) 12:=inferInstance;exact⟨Oa f1 n1 f2 n2 k (by decide),Oa f1 d1 f2 d2 k (by decide)⟩
theorem u4 [BdL l][BdC c]:(lR l c).length<=2/\∀p∈lR l c,Bd p 1200/\Rpd p:=by
 unfold lR;by_cases h0:eO l c<0
 ·rw[amW h0];exact⟨by simp,λp hp=>by cases hp⟩
 ·rw[amY h0];by_cases h1:eO l c=0
  ·rw[amW h1];have:=Gg (l:=l) (c:=c);refine⟨by simp,λp hp=>?_⟩;have:p=atP (ftL l c):=by simpa using hp
   rw[this];exact⟨(inferInstance:Bd (atP (ftL l c)) _).mono (by decide),inferInstance⟩
  ·rw[amY h1];obtain⟨q1,q2⟩:=ad8 (l:=l) (c:=c);have nn:Nn (eO l c):=⟨by grind⟩
   refine⟨by simp,λp hp=>?_⟩;have:p=lcM l c\/p=lcN l c:=by simpa using hp
   rcases this with e|e<;>rw[e]
   ·exact⟨q1,Sq⟩
   ·exact⟨q2,Sq⟩
end
end
section
namespace RE
theorem akZ(A B x y u v s:RE):A*(x+u*s)+B*(y+v*s)=(A*x+B*y)+(A*u+B*v)*s:=by grind
theorem alk(x y u v s p q:RE):(x+u*s-p)*(x+u*s-p)+(y+v*s-q)*(y+v*s-q)=((x-p)*(x-p)+(y-q)*(y-q))+((x-p)*u+(y-q)*v)*s+((x-p)*u+(y-q)*v)*s+(u*u+v*v)*(s*s):=by grind
theorem alG(b n r:RE):b*(r*n)=b*n*r:=by grind
theorem amm(r n:RE):r*n*(r*n)=r*r*(n*n):=by grind
theorem amy(x y p q a b m n:RE):(x-a)*(x-a)+(y-b)*(y-b)=((x-p)*(x-p)+(y-q)*(y-q))+(a*a+b*b-m)-(p*p+q*q-n)-((1+1)*(a-p)*x+(1+1)*(b-q)*y)+(m-n):=by grind
theorem alq(a b n m:RE):n+a-b-(a-b)+(m-n)=m:=by grind
theorem qj(x u y v k:Rat):pR (rR x u y v k)=(v2 x u k,v2 y v k):=by
 unfold rR;rw[ZP (pB _ _ _ _ _),vR_mk,vR_mk]
section
variable {l c:Ln}
theorem Jl(hl:l.1≠0\/l.2.1≠0):0<ck l:=by
 have h:=pI hl;have h1:0<=ck l:=ju (l.1,l.2.1);grind
theorem GO(hl:l.1≠0\/l.2.1≠0):eO l c*(ck l*ck l)=ki l c:=by
 have hn:=pI hl;have t:vlL l c.1 c.2.1/ck l*ck l=vlL l c.1 c.2.1:=ani hn;have k:(c.2.2-yQ l c)/ck l*ck l=c.2.2-yQ l c:=ani hn;unfold eO;rw[<-Rat.mul_assoc,k];unfold yQ ftX ftY ki;generalize vlL l c.1 c.2.1/ck l=s at*
 rw[<-t];unfold ck;grind
theorem aci(hl:l.1≠0\/l.2.1≠0):(eO l c<0↔ki l c<0)/\(eO l c=0↔ki l c=0):=by
 have hn:=Jl hl;have h2:0<ck l*ck l:=ano hn hn;have e:=GO (c:=c) hl;rcases(by grind:eO l c<0\/eO l c=0\/0<eO l c)with h|h|h
 ·have:=ano (show 0< -eO l c by grind) h2;have e2: -eO l c*(ck l*ck l)= -ki l c:=by rw[Rat.neg_mul,e]
  rw[e2]at this;constructor<;>constructor<;>intro<;>grind
 ·rw[h,Rat.zero_mul]at e;constructor<;>constructor<;>intro<;>grind
 ·have:=ano h h2;rw[e]at this;constructor<;>constructor<;>intro<;>grind
theorem aeJ(hl:l.1≠0\/l.2.1≠0)(h0:0<=eO l c):rq (ki l c)=rq (eO l c)*of (ck l):=by
 have hn:=Jl hl
 have hr:0<=ki l c:=by
  rw[<-GO hl];exact anh h0 (anh (by grind) (by grind))
 refine EW _ _ (gf _) (aH (gf _) (fQ.2 (by grind))) ?_;rw[amm,dB hr,dB h0,<-of_mul,<-of_mul,GO hl]
theorem BZ(hl:l.1≠0\/l.2.1≠0)(h0:0<=eO l c)(a b:Rat):v2 a b (eO l c)=v2 a (b/ck l) (ki l c):=by
 unfold v2;rw[aeJ hl h0,alG,<-of_mul,ani (pI hl)]
theorem ndv(a b:Rat): -a/b= -(a/b):=by rw[aoU,aoU,Rat.neg_mul]
theorem amj(hl:l.1≠0\/l.2.1≠0)(v:PE):(∃p∈lR l c,pR p=v)↔∃p∈sV l c,pR p=v:=by
 obtain⟨s1,s2⟩:=aci (c:=c) hl;unfold lR sV;by_cases h0:eO l c<0
 ·rw[amW h0,amW (s1.1 h0)];exact Iff.rfl
 ·rw[amY h0,amY (λh=>h0 (s1.2 h))];by_cases h1:eO l c=0
  ·rw[amW h1,amW (s2.1 h1)];exact Iff.rfl
  ·rw[amY h1,amY (λh=>h1 (s2.2 h))];have hp:0<=eO l c:=by grind
   have e:(pR (lcM l c)=pR (t9 l c)/\pR (lcN l c)=pR (ub l c))\/(pR (lcM l c)=pR (ub l c)/\pR (lcN l c)=pR (t9 l c)):=by
    unfold lcM lcN t9 ub;rw[qj,qj,wi,wi,BZ hl hp,BZ hl hp,BZ hl hp,BZ hl hp];unfold rU rS;cases H3 l
    ·left;simp only[cond_false,ndv,apE,and_self]
    ·right;simp only[cond_true,ndv,apE,and_self]
   have m2:∀{a b:Pt},(∃p∈[a,b],pR p=v)↔(pR a=v\/pR b=v):=λ{a b}=>by simp
   simp only[cond_false];cases decide (a8 (t9 l c) (ub l c)>0)
   ·simp only[cond_false];rw[m2,m2];rcases e with⟨e1,e2⟩|⟨e1,e2⟩<;>rw[e1,e2];exact Or.comm
   ·simp only[cond_true];rw[m2,m2];rcases e with⟨e1,e2⟩|⟨e1,e2⟩<;>rw[e1,e2];exact Or.comm
theorem F3(hl:l.1≠0\/l.2.1≠0){u v k:Rat}(hk:0<=k)(h1:l.1*u+l.2.1*v=0)(h2:yQ l c+(u*u+v*v)*k=c.2.2):eG l (v2 (ftX l c) u k,v2 (ftY l c) v k)/\fV c (v2 (ftX l c) u k,v2 (ftY l c) v k):=by
 have hn:=pI hl;have t:vlL l c.1 c.2.1/ck l*ck l=vlL l c.1 c.2.1:=ani hn
 have e1:l.1*ftX l c+l.2.1*ftY l c=l.2.2:=by
  unfold ftX ftY;generalize vlL l c.1 c.2.1/ck l=s at*
  unfold ck vlL at t;grind
 have e3:(ftX l c-c.1)*u+(ftY l c-c.2.1)*v=0:=by
  unfold ftX ftY;generalize vlL l c.1 c.2.1/ck l=s at*
  have:(c.1-s*l.1-c.1)*u+(c.2.1-s*l.2.1-c.2.1)*v= -s*(l.1*u+l.2.1*v):=by grind
  rw[this,h1,Rat.mul_zero]
 unfold eG fV frm v2;dsimp only;constructor
 ·rw[akZ,<-of_mul,<-of_mul,<-of_mul,<-of_mul,<-of_add,<-of_add,e1,h1,pg,zero_mul,add_zero]
 ·rw[alk,dB hk,<-of_sub,<-of_sub,<-of_mul,<-of_mul,<-of_mul,<-of_mul,<-of_mul,<-of_mul,<-of_add,<-of_add,<-of_add,e3,pg,zero_mul,add_zero,add_zero,<-of_mul,<-of_add];exact congrArg of h2
theorem abL(_hl:l.1≠0\/l.2.1≠0):l.1*rU l+l.2.1*rS l=0/\rU l*rU l+rS l*rS l=ck l:=by
 unfold rU rS ck;cases H3 l
 ·simp only[cond_false];constructor<;>grind
 ·simp only[cond_true];constructor<;>grind
theorem Ke(hl:l.1≠0\/l.2.1≠0){p:Pt}(hp:p∈lR l c):eG l (pR p)/\fV c (pR p):=by
 have hn:=pI hl;have k:eO l c*ck l=c.2.2-yQ l c:=ani hn;obtain⟨d1,d2⟩:=abL hl;unfold lR at hp;by_cases h0:eO l c<0
 ·rw[amW h0]at hp;cases hp
 ·rw[amY h0]at hp;by_cases h1:eO l c=0
  ·rw[amW h1]at hp;have:p=atP (ftL l c):=by simpa using hp
   rw[this,mn];have:=F3 (c:=c) (u:=0) (v:=0) (k:=0) hl (by decide) (by grind) (by rw[h1]at k;grind);rw[dZ,dZ]at this;exact this
  ·rw[amY h1]at hp;have hk:0<=eO l c:=by grind
   have:p=lcM l c\/p=lcN l c:=by simpa using hp
   rcases this with e|e
   ·rw[e];unfold lcM;rw[qj];refine F3 hl hk (by grind) ?_;rw[show-rU l* -rU l+ -rS l* -rS l=ck l by rw[<-d2];grind,aox,k];grind
   ·rw[e];unfold lcN;rw[qj];refine F3 hl hk d1 ?_;rw[d2,aox,k];grind
end
theorem Ru{c d:Ln}{v:PE}(hl:eG (nI c d) v)(hc:fV c v):fV d v:=by
 unfold eG nI rT at hl;unfold fV frm at*
 dsimp only at*
 have o2:of 2=1+1:=by
  rw[<-CA,<-of_add];exact congrArg of (by decide+kernel)
 rw[amy v.1 v.2 (of c.1) (of c.2.1) (of d.1) (of d.2.1) (of d.2.2) (of c.2.2),hc];simp only[of_sub,of_mul,of_add,o2]at hl;rw[hl,alq]
theorem acA{l m:Ln}{p:Pt}(hp:p∈mb l m):eG l (pR p)/\eG m (pR p):=by
 unfold mb at hp;by_cases h0:dE l m=0
 ·rw[amW h0]at hp;cases hp
 ·rw[amY h0]at hp;have:p=atP (mf l m/dE l m,mh l m/dE l m):=by simpa using hp
  rw[this,mn];have ex:mf l m/dE l m*dE l m=mf l m:=ani h0;have ey:mh l m/dE l m*dE l m=mh l m:=ani h0
  have key:∀a b q:Rat,a*mf l m+b*mh l m=q*dE l m->a*(mf l m/dE l m)+b*(mh l m/dE l m)=q:=λa b q e=>by
   generalize mf l m/dE l m=x at*
   generalize mh l m/dE l m=y at*
   rw[<-ex,<-ey]at e;have:(a*x+b*y-q)*dE l m=0:=by grind
   rcases apa.1 this with h|h
   ·grind
   ·exact absurd h h0
  unfold eG;rw[<-of_mul,<-of_mul,<-of_add,<-of_mul,<-of_mul,<-of_add,key l.1 l.2.1 l.2.2 (by unfold mf mh dE;grind),key m.1 m.2.1 m.2.2 (by unfold mf mh dE;grind)];exact⟨rfl,rfl⟩
end RE
end
def mq(c:BCU)(l:List BCU):List BP:=(l.map (uQ c)).flatten
def zV(x:Pce):Prop:=Bq x.1/\Bq x.2.1/\u8P x.2.2
instance (x:Pce):Decidable (zV x):=by unfold zV;infer_instance
def Gb(x:Pce):List BCU:=match ofL x.1 with
 |[]=>[]
 |c::_=>mi c (mq c (ofL x.2.1))
def zU(x:Pce):Bool:=!(ofL x.1).isEmpty
def oe(x:Pce):BCU:=bif zU x then(Gb x).getD (x.2.2%((Gb x).length:Int)).toNat c00 else c00
def aaw:List En:=[enL ag2,enL akm,enK agU]
def Xk:NT:=[((6,18),{keep:=[1,2,4,5,6,7],own:=[(6,37,tP)],hl:=3})]
def Hk:Ctx:=CX (ens aaw) Xk
def tX(x:Pce)(s7:Int)(r2:List BP):Cfg:=⟨6,[.blk 0,.seq 31],[(1,.box 0 0),(2,.box 1 0),(4,.d (.sl tCU) (ofL x.1)),(5,.d (.sl tCU) (ofL x.2.1)),(6,.own 2),(7,SI s7)],[.box 26 [.d (.int .u8) x.1.1,.d (.int .u8) x.1.2.1,.d (.int .i8) x.1.2.2.1,.d (.int .i8) x.1.2.2.2.1,.d (.int .i8) x.1.2.2.2.2.1,.d (.int .i8) x.1.2.2.2.2.2.1,.d (.int .i8) x.1.2.2.2.2.2.2.1,.d (.int .i8) x.1.2.2.2.2.2.2.2,.d (.int .u8) x.2.1.1,.d (.int .u8) x.2.1.2.1,.d (.int .i8) x.2.1.2.2.1,.d (.int .i8) x.2.1.2.2.2.1,.d (.int .i8) x.2.1.2.2.2.2.1,.d (.int .i8) x.2.1.2.2.2.2.2.1,.d (.int .i8) x.2.1.2.2.2.2.2.2.1,.d (.int .i8) x.2.1.2.2.2.2.2.2.2,.d (.int .u8) x.2.2],.box 39 [SB false,SB false,.nil,SB false,.nil,SB false,.nil,SB false,.nil,SB false,.nil,SB false,.nil,SB false,.nil,SB false,.nil,SB false,.nil,SB false,.nil,SB false,.nil,SB false,.nil,SB false,SB false,.nil,SB false,.nil,SB false,.nil,SB false,.nil,SB false,.nil,SB false,.nil,SB false,.nil,SB false,.nil,SB false,.nil,SB false,.nil,SB false,.nil,SB false,.nil,SB false,.nil,SB false,.nil,SB false,.nil,SB false,.nil,SB false,.nil,SB false,.nil,SB false,.nil,SB false,.nil],.row 37 tP r2],0,[]⟩
def S4(x:Pce)(k:KT):OLR:=og (decide (Bq x.1)) (og (decide (Bq x.2.1)) (match((ofL x.1).length:Int)==0 with|true=>some [RV.d tCU (false,((((false,[]),(false,[])),(((false,[]),(false,[])),((false,[]),(false,[])))),((((false,[]),(false,[])),(((false,[]),(false,[])),((false,[]),(false,[])))),(false,((((false,[]),(false,[])),(((false,[]),(false,[])),(((false,[]),(false,[])),(((false,[]),(false,[])),((false,[]),(false,[])))))),(((false,[]),(false,[])),(((false,[]),(false,[])),(((false,[]),(false,[])),(((false,[]),(false,[])),((false,[]),(false,[]))))))))))),RV.d .bool false]|false=>k 18 (tX x 0 ([]))))
theorem adc(x:Pce):RS Hk 6 [.d yn x] (S4 x):=rsX
def tg(x:Pce)(s7:Int)(r2:List BP)(k:KT):OLR:=match decide (s7<((ofL x.2.1).length:Int))with|true=>(match aT (ofL x.1) 0 with|some x1=>(match aT (ofL x.2.1) s7 with|some x2=>(og (decide (iO x1 x2)) (og (decide ((r2.length+(uQ x1 x2).length)*320<=140737488355328/\r2.length+(uQ x1 x2).length<=140737488355328)) (k 18 (tX x (i64.wrap (s7+1)) (r2++(uQ x1 x2))))))|none=>none)|none=>none)|false=>(match aT (ofL x.1) 0 with|some x1=>(og (decide (HP x1 r2)) (match decide (((mi x1 r2).length:Int)=(0:Int))with|true=>none|false=>(match aT (mi x1 r2) (Int.tmod (i64.wrap x.2.2) ((mi x1 r2).length:Int))with|some x2=>some [RV.d tCU x2,RV.d .bool true]|none=>none)))|none=>none)
theorem yR(x:Pce)(s7:Int)(r2:List BP):RN Hk 18 (tX x s7 r2) (tg x s7 r2):=rnX
theorem Ih{c d:BCU}(h:iO c d):(uQ c d).length<=4/\∀x∈uQ c d,okP 580 x/\onR (dC c) (dec x)=true/\onR (dC d) (dec x)=true:=by
 obtain⟨h1,h2⟩:=Jq h;unfold uQ aeS;have h3:=xx (dC c) ((Eo c d).filter λp=>onR (dC c) (dec p)&&onR (dC d) (dec p)) [];have h4:=List.length_filter_le (λp=>onR (dC c) (dec p)&&onR (dC d) (dec p)) (Eo c d)
 refine⟨by
  unfold jo;rw[List.length_nil,anB]at h3;exact am9 h3 (am9 h4 h1),Ji λx hx=>?_⟩
 obtain⟨g1,g2⟩:=ap3.1 hx;obtain⟨g3,g4⟩:=am6.1 g2;exact⟨h2 x g1,g3,g4⟩
theorem OU(c:Cv)(x:BP):∀r:List BP,r.length<=(jn c r x).length
 |[]=>by simp
 |z::r=>by
  have:=OU c x r;simp only[jn];cases decide (dt c (dec z) (dec x)<0)
  ·cases a8 (dec z) (dec x)==0<;>simp
  ·simp only[cond_true,anb];omega
theorem Q5(c:Cv):∀(l out:List BP),out.length<=(l.foldl (jn c) out).length
 |[],_=>am2 _
 |x::l,out=>am9 (OU c x out) (Q5 c l _)
theorem JE(c:BCU):∀s:List BP,(zZ c s).length=s.length-1
 |[]=>rfl
 |[_]=>rfl
 |x::y::r=>by
  have:=JE c (y::r);simp only[zZ,anb]at this ⊢;omega
theorem Xi{c:BCU}(h:a8 (dec c.2.2.2.2.1) (dec c.2.2.2.2.2)≠0)(l:List BP):2<=(wH c l).length:=by
 unfold wH jo;refine am9 ?_ (Q5 (dC c) l _);simp only[jn];rw[aph.2 h];cases decide (dt (dC c) (dec c.2.2.2.2.1) (dec c.2.2.2.2.2)<0)<;>exact am2 _
theorem IS{c:BCU}(h:gdN c)(l:List BP):1<=(mi c l).length/\(mi c l).length<=l.length+1:=by
 have h1:=Xi h.2.2.2 l;have h2:=J6 c l;unfold mi;rw[JE];omega
theorem Uk{c:BCU}(h:gdN c){l:List BP}(hl:l.length<=900000)(ho:∀p∈l,okP 580 p/\onR (dC c) (dec p)=true):HP c l:=
 ⟨bZ h.1.1 (by decide) (by decide),hl,λx hx=>⟨cM (ho x hx).1 (by decide) (by decide),(ho x hx).2⟩⟩
def gdM(c:BCU):Prop:=mG c/\gR (dC c) (frC (dC c))=true/\gR (dC c) (toC (dC c))=true
theorem gdM.gd{c:BCU}(h:gdM c):gdC c:=⟨h.1.1,h.2.1,h.2.2⟩
theorem gdN.m{c:BCU}(h:gdN c):gdM c:=⟨h.1,h.2.1,h.2.2.1⟩
theorem aee{c:BCU}(h:gdN c){l:List BP}(ho:∀p∈l,okP 580 p/\onR (dC c) (dec p)=true):∀p∈mi c l,gdM p:=by
 intro p hp;obtain⟨x,y,hx,hy,e⟩:=JI hp
 have f:∀z,z∈wH c l->okP 580 z/\gR (dC c) (dec z)=true:=λz hz=>by
  rcases Is hz with e|e|e
  ·rw[e];exact⟨h.1.1.2.2.1,h.2.1⟩
  ·rw[e];exact⟨h.1.1.2.2.2,h.2.2.1⟩
  ·exact⟨(ho z e).1,(am6.1 (ho z e).2).1⟩
 obtain⟨x1,x2⟩:=f x hx;obtain⟨y1,y2⟩:=f y hy;rw[e];exact⟨⟨⟨h.1.1.1,h.1.1.2.1,x1,y1⟩,h.1.2⟩,x2,y2⟩
theorem afb(x:Dr):(ofL x).length<=2:=by
 unfold ofL;cases x.1%3==2
 ·cases x.1%3==1
  ·cases segE (drA x) (drB x) !=0<;>simp
  ·cases arcE (drA x) (drB x) (drC x) !=0<;>simp
 ·cases decide ((drB x).1<=0)
  ·unfold wG;simp
  ·simp
theorem R8{c:BCU}(h:gdN c):∀{l:List BCU},(∀d∈l,gdN d)->(mq c l).length<=4*l.length/\∀p∈mq c l,okP 580 p/\onR (dC c) (dec p)=true
 |[],_=>⟨am2 _,λp hp=>by cases hp⟩
 |d::r,hd=>by
  obtain⟨i1,i2⟩:=R8 h (l:=r) (λe he=>hd e (ana _ he));obtain⟨m1,m2⟩:=Ih (show iO c d from⟨h.1,(hd d (by simp)).1⟩);have e:mq c (d::r)=uQ c d++mq c r:=rfl;rw[e];refine⟨by rw[anu,anb];omega,λp hp=>?_⟩;rcases anI.1 hp with g|g
  ·exact⟨(m2 p g).1,(m2 p g).2.1⟩
  ·exact i2 p g
def Xs(x:Pce)(l:List BCU):BCU:=l.getD (x.2.2%(l.length:Int)).toNat c00
theorem W6(x:Pce)(h:zV x)(c:BCU)(hc:gdN c)(g0:aT (ofL x.1) 0=some c)(B:List BCU)(hB:ofL x.2.1=B)(gB:∀d∈B,gdN d)(lB:B.length<=2):∀(j i:Nat),i+j=B.length->∀r2:List BP,r2.length<=4*i->(∀p∈r2,okP 580 p/\onR (dC c) (dec p)=true)->
  Hk.Runs 18 (tX x (i:Int) r2) [.d tCU (Xs x (mi c (r2++mq c (B.drop i)))),.d .bool true]:=by
 intro j;induction j with
 |zero=>
  intro i hi r2 hr ho;refine yR _ _ _ ⟨0,?_⟩;obtain⟨l1,l2⟩:=IS hc r2;have hs:=Uk hc (l:=r2) (by omega) ho;obtain⟨u1,u2⟩:=h.2.2
  have e1:Int.tmod (i64.wrap x.2.2) ((mi c r2).length:Int)=x.2.2%((mi c r2).length:Int):=by
   rw[aV (by omega) (by omega),Int.tmod_eq_emod_of_nonneg u1]
  have m0:=an3 x.2.2 (show((mi c r2).length:Int)≠0 by omega);have m1:=anF x.2.2 (show 0<((mi c r2).length:Int) by omega);obtain⟨k,hk⟩:=an6 m0;have hkl:k<(mi c r2).length:=by omega
  have hd:B.drop i=[]:=List.drop_eq_nil_iff.2 (by omega);have hcut:mq c []=[]:=rfl;unfold tg;rw[hB,cd (by omega),g0];dsimp only;rw[dT hs,dF (show ¬((mi c r2).length:Int)=0 by omega),e1,hk,av,amX hkl,hd,hcut,ant];unfold Xs;rw[hk,aoC,List.getD_eq_getElem?_getD,amX hkl];rfl
 |succ j ih=>
  intro i hi r2 hr ho;have hil:i<B.length:=by omega
  have hm:iO c B[i]:=⟨hc.1,(gB _ (anw hil)).1⟩
  obtain⟨m1,m2⟩:=Ih hm
  obtain⟨n,hn⟩:=ih (i+1) (by omega) (r2++uQ c B[i]) (by rw[anu];omega) (λp hp=>by
   rcases anI.1 hp with g|g
   ·exact ho p g
   ·exact⟨(m2 p g).1,(m2 p g).2.1⟩)
  have hd:B.drop i=B[i]::B.drop (i+1):=anf hil;have hcut:mq c (B[i]::B.drop (i+1))=uQ c B[i]++mq c (B.drop (i+1)):=rfl;refine yR _ _ _ ⟨n,?_⟩;unfold tg;rw[hB,bI hil,g0,av,amX hil];dsimp only;rw[dT hm,dT (by omega),bW (by omega),hd,hcut,<-ann];exact hn
def aew:Cn 6 [yn]:=cn λ(x:Pce)=>lf (zV x) [.d tCU (oe x),.d .bool (zU x)] λh=>by
 have hB:=FF h.2.1;have hA:=FF h.1;refine da aaw (adc _ ?_);unfold S4 oe zU;rw[dT h.1,dT h.2.1];cases hl:ofL x.1 with
 |nil=>exact⟨0,rfl⟩
 |cons c r=>
  rw[hl]at hA;obtain⟨n,hn⟩:=W6 x h c (hA c (by simp)) (by rw[hl];rfl) _ rfl hB (afb _) _ 0 (anB _) [] (am2 _) (λp hp=>by cases hp);refine⟨n,?_⟩;have e:(((c::r).length:Int)==0)=false:=by simp;omega
  rw[e];unfold Gb;rw[hl];exact hn
theorem UF{x:Pce}(h:zV x)(ho:zU x=true):oe x∈Gb x:=by
 have hA:=FF h.1;unfold oe Gb;rw[ho];unfold zU at ho;cases hl:ofL x.1 with
 |nil=>rw[hl]at ho;cases ho
 |cons c r=>
  rw[hl]at hA;obtain⟨l1,l2⟩:=IS (hA c (by simp)) (mq c (ofL x.2.1));have m0:=an3 x.2.2 (show((mi c (mq c (ofL x.2.1))).length:Int)≠0 by omega);have m1:=anF x.2.2 (show 0<((mi c (mq c (ofL x.2.1))).length:Int) by omega);have hk:(x.2.2%((mi c (mq c (ofL x.2.1))).length:Int)).toNat<(mi c (mq c (ofL x.2.1))).length:=by omega
  simp only[cond_true];rw[List.getD_eq_getElem?_getD,amX hk];exact anw hk
section
section
variable {α:Type} {lt:α->α->Prop} {f:α->α->Int}
theorem L7(h:pW lt):pW (λx y=>lt y x):=⟨h.irr,λx y z a b=>h.tr z y x b a,λx y=>by
 rcases h.tri x y with g|g|g
 ·exact .inr (.inr g)
 ·exact .inr (.inl g)
 ·exact .inl g⟩
theorem LH(h:wc lt f):wc (λx y=>lt y x) (λx y=> -f x y):=λx y=>⟨λg=>(by show-f x y= -1;rw[(h x y).2.2 g]),λg=>(by show-f x y=0;rw[(h x y).2.1 g];rfl),λg=>(by show-f x y=1;rw[(h x y).1 g];rfl)⟩
def aLt(lt:α->α->Prop)(u v:Bool×α):Prop:=(u.1=false/\v.1=true)\/(u.1=false/\v.1=false/\lt u.2 v.2)\/(u.1=true/\v.1=true/\lt v.2 u.2)
theorem R4(h:pW lt):pW (aLt lt):=by
 refine⟨λ⟨a,u⟩ g=>?_,λ⟨a,u⟩ ⟨b,v⟩ ⟨c,w⟩ g g'=>?_,λ⟨a,u⟩ ⟨b,v⟩=>?_⟩
 ·rcases g with⟨g1,g2⟩|⟨_,_,g⟩|⟨_,_,g⟩
  ·rw[g1]at g2;cases g2
  ·exact h.irr _ g
  ·exact h.irr _ g
 ·unfold aLt at*
  cases a<;>cases b<;>cases c<;>simp only[true_and,false_and,and_false,aqe,apJ,false_or,reduceCtorEq,and_self]at g g' ⊢
  ·exact h.tr _ _ _ g g'
  ·exact h.tr _ _ _ g' g
 ·unfold aLt;cases a<;>cases b<;>simp only[true_and,false_and,and_false,aqe,apJ,false_or,reduceCtorEq,and_self,or_true,true_or]
  ·rcases h.tri u v with g|g|g
   ·exact .inl g
   ·exact .inr (.inl (by rw[g]))
   ·exact .inr (.inr g)
  ·rcases h.tri u v with g|g|g
   ·exact .inr (.inr g)
   ·exact .inr (.inl (by rw[g]))
   ·exact .inl g
theorem M4(h:wc lt f):wc (aLt lt) (ky f):=λ⟨a,u⟩ ⟨b,v⟩=>by
 refine⟨λg=>?_,λg=>?_,λg=>?_⟩
 ·unfold aLt at g;unfold ky;cases a<;>cases b<;>simp only[true_and,false_and,and_false,aqe,apJ,false_or,reduceCtorEq,and_self]at g
  ·exact(h u v).1 g
  ·rfl
  ·show-f u v= -1;rw[(h u v).2.2 g]
 ·injection g with g1 g2;subst g1 g2;unfold ky;have:=(h u u).2.1 rfl;cases a
  ·exact this
  ·show-f u u=0;rw[this];rfl
 ·unfold aLt at g;unfold ky;cases a<;>cases b<;>simp only[true_and,false_and,and_false,aqe,apJ,false_or,reduceCtorEq,and_self]at g
  ·exact(h u v).2.2 g
  ·rfl
  ·show-f u v=1;rw[(h u v).1 g];rfl
def cLt(lt:α->α->Prop)(o u v:α):Prop:=(¬lt u o/\lt v o)\/((lt u o↔lt v o)/\lt u v)
theorem Zf(h:pW lt)(o:α):pW (cLt lt o):=by
 refine⟨λu g=>?_,λu v w g g'=>?_,λu v=>?_⟩
 ·rcases g with⟨g1,g2⟩|⟨_,g⟩
  ·exact g1 g2
  ·exact h.irr _ g
 ·rcases g with⟨g1,g2⟩|⟨g1,g2⟩<;>rcases g' with⟨g3,g4⟩|⟨g3,g4⟩
  ·exact absurd g2 g3
  ·exact .inl ⟨g1,g3.1 g2⟩
  ·exact .inl ⟨λe=>g3 (g1.1 e),g4⟩
  ·exact .inr ⟨g1.trans g3,h.tr _ _ _ g2 g4⟩
 ·by_cases e1:lt u o<;>by_cases e2:lt v o
  ·rcases h.tri u v with g|g|g
   ·exact .inl (.inr ⟨⟨λ_=>e2,λ_=>e1⟩,g⟩)
   ·exact .inr (.inl g)
   ·exact .inr (.inr (.inr ⟨⟨λ_=>e1,λ_=>e2⟩,g⟩))
  ·exact .inr (.inr (.inl ⟨e2,e1⟩))
  ·exact .inl (.inl ⟨e1,e2⟩)
  ·rcases h.tri u v with g|g|g
   ·exact .inl (.inr ⟨⟨λe=>absurd e e1,λe=>absurd e e2⟩,g⟩)
   ·exact .inr (.inl g)
   ·exact .inr (.inr (.inr ⟨⟨λe=>absurd e e2,λe=>absurd e e1⟩,g⟩))
theorem xX(hl:pW lt)(h:wc lt f)(x y:α):decide (f x y<0)=true↔lt x y:=by
 rw[an4];rcases hl.tri x y with g|g|g
 ·rw[(h x y).1 g];exact⟨λ_=>g,λ_=>by decide⟩
 ·rw[(h x y).2.1 g];exact⟨λe=>absurd e (by decide),λe=>absurd e (by rw[g];exact hl.irr _)⟩
 ·rw[(h x y).2.2 g];exact⟨λe=>absurd e (by decide),λe=>absurd (hl.tr _ _ _ e g) (hl.irr _)⟩
theorem E6(hl:pW lt)(h:wc lt f)(o:Bool×α):wc (cLt (aLt lt) o) (kO f o):=λu v=>by
 have ha:=M4 h;have n:=xX (R4 hl) ha
 have tf:∀x,¬aLt lt x o->decide (ky f x o<0)=false:=λx g=>by
  cases e:decide (ky f x o<0)
  ·rfl
  ·exact absurd ((n x o).1 e) g
 unfold kO;refine⟨λg=>?_,λg=>?_,λg=>?_⟩
 ·rcases g with⟨g1,g2⟩|⟨g1,g2⟩
  ·rw[tf u g1,(n v o).2 g2];rfl
  ·have e:(decide (ky f u o<0)==decide (ky f v o<0))=true:=by
    by_cases e:aLt lt u o
    ·rw[(n u o).2 e,(n v o).2 (g1.1 e)];rfl
    ·rw[tf u e,tf v (λe'=>e (g1.2 e'))];rfl
   rw[e];exact(ha u v).1 g2
 ·subst g;rw[beq_self_eq_true];exact(ha u u).2.1 rfl
 ·rcases g with⟨g1,g2⟩|⟨g1,g2⟩
  ·rw[tf v g1,(n u o).2 g2];rfl
  ·have e:(decide (ky f u o<0)==decide (ky f v o<0))=true:=by
    by_cases e:aLt lt u o
    ·rw[(n u o).2 e,(n v o).2 (g1.2 e)];rfl
    ·rw[tf u e,tf v (λe'=>e (g1.1 e'))];rfl
   rw[e];exact(ha u v).2.2 g2
end
def Sp(c:Cv)(p:Pt):Prop:=Rpd p/\gR c p=true
structure Crp (c:Cv):Prop where
 f:Sp c (frC c)
 t:Sp c (toC c)
 q:c.1=true->0<(ciC c).2.2
 l:c.1=false->(lnC c).1≠0\/(lnC c).2.1≠0
theorem vf{c:BCU}(h:gdC c):Crp (dC c):=by
 obtain⟨h1,h2,h3⟩:=h;exact⟨⟨jD h1.2.2.1,h2⟩,⟨jD h1.2.2.2,h3⟩,λe=>(h1.1 e).2,λe=>(h1.2.1 e).2⟩
open RE in
theorem Crp.e{c:Cv}(h:Crp c)(hne:a8 (frC c) (toC c)≠0):GdE c:=by
 have hf:=h.f.1;have ht:=h.t.1;have s:=λp (hp:Sp c p)=>hp.2;refine⟨hf,ht,λe=>hne (cmpP_0.2 e),λe=>?_,λe=>?_⟩
 ·have h2:=h.f.2;have h3:=h.t.2;unfold gR at h2 h3;rw[e]at h2 h3;exact⟨h.q e,ins_on (anV.1 h2),ins_on (anV.1 h3)⟩
 ·have h2:=h.f.2;have h3:=h.t.2;unfold gR at h2 h3;rw[e]at h2 h3;exact⟨h.l e,sid_on (anV.1 h2),sid_on (anV.1 h3)⟩
namespace RE
theorem Gx(v w:RE):((v-(w))*(v-(w)))+((w*w-(v*v)))+2*((w-(0))*(v-(w)))=0:=by grind
theorem Pv(v w:RE)(h1:v*v=w*w)(_h2:0<=v)(h3:0<=w):v<=w:=λhg=>far (aJ (aJ (mul_pos (aM hg) (aM hg)) (aG (fP h1))) (ja (by decide+kernel:(0:Rat)<2) (aH (aG h3) (le_of_lt (aM hg))))) (Gx v w)
theorem G9(v w:RE):((w-(v))*(w-(v)))+((v*v-(w*w)))+2*((v-(0))*(w-(v)))=0:=by grind
theorem Nx(v w:RE)(h1:v*v=w*w)(h2:0<=v)(_h3:0<=w):w<=v:=λhg=>far (aJ (aJ (mul_pos (aM hg) (aM hg)) (aG (mp h1))) (ja (by decide+kernel:(0:Rat)<2) (aH (aG h2) (le_of_lt (aM hg))))) (G9 v w)
theorem VO(v w:RE)(h1:v*v=w*w)(h2:0<=v)(h3:0<=w):v=w:=le_antisymm (Pv v w h1 h2 h3) (Nx v w h1 h2 h3)
theorem DI(v w:RE):((v-(w))*(v-(w)))+((v*v-(w*w)))+2*((0-(v))*(v-(w)))=0:=by grind
theorem KH(v w:RE)(h1:v*v=w*w)(h2:v<=0)(_h3:w<=0):v<=w:=λhg=>far (aJ (aJ (mul_pos (aM hg) (aM hg)) (aG (mp h1))) (ja (by decide+kernel:(0:Rat)<2) (aH (aG h2) (le_of_lt (aM hg))))) (DI v w)
theorem EB(v w:RE):((w-(v))*(w-(v)))+((w*w-(v*v)))+2*((0-(w))*(w-(v)))=0:=by grind
theorem Lc(v w:RE)(h1:v*v=w*w)(_h2:v<=0)(h3:w<=0):w<=v:=λhg=>far (aJ (aJ (mul_pos (aM hg) (aM hg)) (aG (fP h1))) (ja (by decide+kernel:(0:Rat)<2) (aH (aG h3) (le_of_lt (aM hg))))) (EB v w)
theorem Nj(v w:RE)(h1:v*v=w*w)(h2:v<=0)(h3:w<=0):v=w:=le_antisymm (KH v w h1 h2 h3) (Lc v w h1 h2 h3)
theorem aco(u v w Q:RE)(h1:u*u+v*v=Q)(h2:u*u+w*w=Q):v*v<=w*w:=by grind
theorem adO(u v w Q:RE)(h1:u*u+v*v=Q)(h2:u*u+w*w=Q):w*w<=v*v:=by grind
theorem ahO(u v w Q:RE)(h1:u*u+v*v=Q)(h2:u*u+w*w=Q):v*v=w*w:=le_antisymm (aco u v w Q h1 h2) (adO u v w Q h1 h2)
theorem Ta(a b:RE)(h1: -a= -b):a<=b:=by grind
theorem On(a b:RE)(h1: -a= -b):b<=a:=by grind
theorem Ve(a b:RE)(h1: -a= -b):a=b:=le_antisymm (Ta a b h1) (On a b h1)
theorem Ed{u v:RE}:(upA (cls u v)=true->0<=v)/\(upA (cls u v)=false->v<=0)/\(ufA (cls u v)=true->0<=v)/\(ufA (cls u v)=false->v<=0):=by
 unfold cls upA ufA;rcases bi v with⟨h,e⟩|⟨h,e⟩|⟨h,e⟩<;>rw[e]
 ·exact⟨λ_=>le_of_lt h,λg=>(by cases g),λ_=>le_of_lt h,λg=>(by cases g)⟩
 ·rw[h];exact⟨λ_=>le_refl _,λ_=>le_refl _,λ_=>le_refl _,λ_=>le_refl _⟩
 ·exact⟨λg=>(by cases g),λ_=>le_of_lt h,λg=>(by cases g),λ_=>le_of_lt h⟩
theorem I6{c:Ln}{p q:Pt}(hp:onCi c p)(hq:onCi c q)(hx:pX p=pX q)(g:(0<=pY p-of c.2.1/\0<=pY q-of c.2.1)\/(pY p-of c.2.1<=0/\pY q-of c.2.1<=0)):pR p=pR q:=by
 unfold onCi at hp hq;rw[hx]at hp;have e:=ahO _ _ _ _ hp hq;refine anx hx ?_;rcases g with⟨a,b⟩|⟨a,b⟩
 ·exact fR _ _ _ (VO _ _ e a b)
 ·exact fR _ _ _ (Nj _ _ e a b)
end RE
open RE in
theorem kx{c:Cv}(ha:c.1=true){p:Pt}(hp:Sp c p):onCi (ciC c) p:=by
 have:=hp.1;have g:=hp.2;unfold gR at g;rw[ha]at g;exact ins_on (anV.1 g)
open RE in
theorem JB{c:Cv}(h:Crp c)(ha:c.1=true):∃κ:Pt->Bool×RE,(∀d:Cv,d.1=true->ciC d=ciC c->cwC d=cwC c->Sp c (frC d)->∀p q,Sp c p->Sp c q->dt d p q=kO (λx y:RE=>sg (x-y)) (κ (frC d)) (κ p) (κ q))/\∀p q,Sp c p->Sp c q->(κ p=κ q↔a8 p q=0):=by
 cases hw:cwC c
 ·refine⟨λp=>(upR (ciC c) p,pX p),λd d1 d2 d3 hd p q hp hq=>?_,λp q hp hq=>?_⟩
  ·have i1:=hd.1;have:=hp.1;have:=hq.1;have e:∀{x y:Pt},Rpd x->Rpd y->bh (xP x) (xP y)=sg (pX x-pX y):=λ{x y} _ _=>by rw[cmpT_re mL mL,tY,tY]
   unfold dt;rw[d1,d3,cond_true,cond_false,d2];exact gC (e hp.1 i1) (e hq.1 i1) (e hp.1 hq.1)
  ·have r1:=hp.1;have r2:=hq.1;rw[cmpP_0];constructor
   ·intro e;injection e with e1 e2;rw[iJ,iJ]at e1;refine I6 (kx ha hp) (kx ha hq) e2 ?_;cases g:upA (cls (pX p-of (ciC c).1) (pY p-of (ciC c).2.1))
    ·exact .inr ⟨Ed.2.1 g,Ed.2.1 (e1.symm.trans g)⟩
    ·exact .inl ⟨Ed.1 g,Ed.1 (e1.symm.trans g)⟩
   ·intro e;have e1:pX p=pX q:=congrArg Prod.fst e;have e2:pY p=pY q:=congrArg Prod.snd e;show(upR (ciC c) p,pX p)=(upR (ciC c) q,pX q)
    rw[iJ,iJ,e1,e2]
 ·refine⟨λp=>(upR (flC (ciC c)) (flP p),-pX p),λd d1 d2 d3 hd p q hp hq=>?_,λp q hp hq=>?_⟩
  ·have i1:=hd.1;have:=hp.1;have:=hq.1;have e:∀{x y:Pt},Rpd x->Rpd y->bh (xP (flP x)) (xP (flP y))=sg (-pX x- -pX y):=λ{x y} _ _=>by rw[cmpT_re mL mL,tY,tY,ET,ET]
   unfold dt;rw[d1,d3,cond_true,cond_true,d2];exact gC (e hp.1 i1) (e hq.1 i1) (e hp.1 hq.1)
  ·have r1:=hp.1;have r2:=hq.1;rw[cmpP_0];have u1:=wr (h.q ha) (kx ha hp);have u2:=wr (h.q ha) (kx ha hq);constructor
   ·intro e;injection e with e1 e2;rw[u1,u2]at e1;refine I6 (kx ha hp) (kx ha hq) (Ve _ _ e2) ?_;cases g:ufA (cls (pX p-of (ciC c).1) (pY p-of (ciC c).2.1))
    ·exact .inr ⟨Ed.2.2.2 g,Ed.2.2.2 (e1.symm.trans g)⟩
    ·exact .inl ⟨Ed.2.2.1 g,Ed.2.2.1 (e1.symm.trans g)⟩
   ·intro e;have e1:pX p=pX q:=congrArg Prod.fst e;have e2:pY p=pY q:=congrArg Prod.snd e;show(upR (flC (ciC c)) (flP p),-pX p)=(upR (flC (ciC c)) (flP q),-pX q)
    rw[u1,u2,e1,e2]
open RE in
theorem wU{c:Cv}(h:Crp c):∃(K:Type) (lt:K->K->Prop) (κ:Pt->K) (f:K->K->Int),pW lt/\wc lt f/\(∀p q,Sp c p->Sp c q->dt c p q=f (κ p) (κ q))/\∀p q,Sp c p->Sp c q->(κ p=κ q↔a8 p q=0):=by
 have hF:=h.f;cases ha:c.1
 ·cases hd:decide (a8 (frC c) (toC c)>0)
  ·refine⟨PE,ab4,pR,lxc,kq,jc,λp q hp hq=>?_,λp q hp hq=>?_⟩
   ·have:=hp.1;have:=hq.1;unfold dt;rw[ha,hd,cond_false,cond_false,jP]
   ·have:=hp.1;have:=hq.1;exact cmpP_0.symm
  ·refine⟨PE,_,pR,_,L7 kq,LH jc,λp q hp hq=>?_,λp q hp hq=>?_⟩
   ·have:=hp.1;have:=hq.1;unfold dt;rw[ha,hd,cond_false,cond_true,jP]
   ·have:=hp.1;have:=hq.1;exact cmpP_0.symm
 ·obtain⟨κ,h1,h2⟩:=JB h ha;exact⟨Bool×RE,_,κ,_,Zf (R4 lt_lin) (κ (frC c)),E6 lt_lin sg_cmpO _,h1 c ha rfl rfl hF,h2⟩
structure Ord (c:Cv):Prop where
 tr:∀{p q r},Sp c p->Sp c q->Sp c r->dt c p q<0->dt c q r<0->dt c p r<0
 tri:∀{p q},Sp c p->Sp c q->dt c p q<0\/a8 p q=0\/dt c q p<0
 irr:∀{p q},Sp c p->Sp c q->a8 p q=0->dt c p q=0
 asy:∀{p q},Sp c p->Sp c q->dt c p q<0->0<dt c q p
theorem zk{c:Cv}(h:Crp c):Ord c:=by
 obtain⟨K,lt,κ,f,hl,hc,ho,hk⟩:=wU h
 have n:∀{p q},Sp c p->Sp c q->(dt c p q<0↔lt (κ p) (κ q)):=λ{p q} hp hq=>by
  rw[ho p q hp hq,<-an4 (p:=f (κ p) (κ q)<0)];exact xX hl hc _ _
 refine⟨λ{p q r} hp hq hr g g'=>?_,λ{p q} hp hq=>?_,λ{p q} hp hq g=>?_,λ{p q} hp hq g=>?_⟩
 ·rw[n hp hr];exact hl.tr _ _ _ ((n hp hq).1 g) ((n hq hr).1 g')
 ·rw[n hp hq,n hq hp,<-hk p q hp hq];exact hl.tri _ _
 ·rw[ho p q hp hq,(hc _ _).2.1 ((hk p q hp hq).2 g)]
 ·rw[ho q p hq hp,(hc _ _).2.2 ((n hp hq).1 g)];decide
def Spb(c:Cv)(x:BP):Prop:=Sp c (dec x)
theorem LW{c:Cv}(o:Ord c){x:BP}(hx:Spb c x):∀{l:List BP},(∀y∈l,Spb c y)->l.Pairwise (λa b=>dt c (dec a) (dec b)<0)->(jn c l x).Pairwise (λa b=>dt c (dec a) (dec b)<0)
 |[],_,_=>by simp[jn]
 |y::r,hl,hp=>by
  have hy:=hl y (by simp);have hr:∀z∈r,Spb c z:=λz hz=>hl z (ana _ hz);obtain⟨p1,p2⟩:=anE.1 hp;simp only[jn];by_cases h1:dt c (dec y) (dec x)<0
  ·rw[amW h1,cond_true];refine anE.2 ⟨λz hz=>?_,LW o hx hr p2⟩;rcases qu hz with g|g
   ·exact p1 z g
   ·rw[g];exact h1
  ·rw[amY h1,cond_false];by_cases h2:a8 (dec y) (dec x)=0
   ·rw[anV.2 h2,cond_true];exact hp
   ·rw[aph.2 h2,cond_false]
    have h3:dt c (dec x) (dec y)<0:=by
     rcases o.tri hy hx with g|g|g
     ·exact absurd g h1
     ·exact absurd g h2
     ·exact g
    refine anE.2 ⟨λz hz=>?_,hp⟩;rcases ane.1 hz with g|g
    ·rw[g];exact h3
    ·exact o.tr hx hy (hr z g) h3 (p1 z g)
theorem If{c:Cv}(o:Ord c):∀{l out:List BP},(∀y∈l,Spb c y)->(∀y∈out,Spb c y)->out.Pairwise (λa b=>dt c (dec a) (dec b)<0)->(l.foldl (jn c) out).Pairwise (λa b=>dt c (dec a) (dec b)<0)
 |[],_,_,_,h=>h
 |x::l,out,hl,ho,h=>If o (l:=l) (λy hy=>hl y (ana _ hy)) (λy hy=>by
   rcases qu hy with g|g
   ·exact ho y g
   ·rw[g];exact hl x (by simp)) (LW o (hl x (by simp)) ho h)
theorem ac7{c:Cv}(o:Ord c){l:List BP}(hl:∀y∈l,Spb c y):(jo c l).Pairwise (λa b=>dt c (dec a) (dec b)<0):=If o hl (λy hy=>by cases hy) List.Pairwise.nil
theorem PG{c:BCU}{R:BP->BP->Prop}{p:BCU}:∀{s:List BP},s.Pairwise R->p∈zZ c s->∃x y,x∈s/\y∈s/\R x y/\p=Bx c x y
 |[],_,h=>by cases h
 |[_],_,h=>by cases h
 |x::y::r,hp,h=>by
  obtain⟨p1,p2⟩:=anE.1 hp;simp only[zZ]at h;rcases ane.1 h with h|h
  ·exact⟨x,y,by simp,by simp,p1 y (by simp),h⟩
  ·obtain⟨a,b,h1,h2,h3,h4⟩:=PG p2 h;exact⟨a,b,ana _ h1,ana _ h2,h3,h4⟩
theorem RK{c:BCU}(h:gdN c){l:List BP}(ho:∀p∈l,okP 580 p/\onR (dC c) (dec p)=true):∀x∈wH c l,okP 580 x/\Spb (dC c) x:=by
 intro z hz;rcases Is hz with e|e|e
 ·rw[e];exact⟨h.1.1.2.2.1,jD h.1.1.2.2.1,h.2.1⟩
 ·rw[e];exact⟨h.1.1.2.2.2,jD h.1.1.2.2.2,h.2.2.1⟩
 ·exact⟨(ho z e).1,jD (ho z e).1,(am6.1 (ho z e).2).1⟩
theorem adT{c:BCU}(h:gdN c){l:List BP}(ho:∀p∈l,okP 580 p/\onR (dC c) (dec p)=true):(wH c l).Pairwise (λa b=>dt (dC c) (dec a) (dec b)<0):=by
 refine ac7 (zk (vf h.gd)) λy hy=>?_;rcases anI.1 hy with hy|hy
 ·simp only[ane,aoi,apJ]at hy;rcases hy with e|e
  ·rw[e];exact⟨jD h.1.1.2.2.1,h.2.1⟩
  ·rw[e];exact⟨jD h.1.1.2.2.2,h.2.2.1⟩
 ·exact⟨jD (ho y hy).1,(am6.1 (ho y hy).2).1⟩
theorem W5{c:BCU}(h:gdN c){l:List BP}(ho:∀p∈l,okP 580 p/\onR (dC c) (dec p)=true):∀p∈mi c l,gdN p:=by
 intro p hp;have hm:=aee h ho p hp;obtain⟨x,y,hx,hy,hr,e⟩:=PG (adT h ho) hp;have o:=zk (vf h.gd);refine⟨hm.1,hm.2.1,hm.2.2,λg=>?_⟩;rw[e]at g;have:=o.irr (RK h ho x hx).2 (RK h ho y hy).2 g;omega
theorem V0{x:Pce}(h:zV x):∀p∈Gb x,gdN p:=by
 intro p hp;have hA:=FF h.1;unfold Gb at hp;cases hl:ofL x.1 with
 |nil=>rw[hl]at hp;cases hp
 |cons c r=>
  rw[hl]at hp hA;exact W5 (hA c (by simp)) (R8 (hA c (by simp)) (FF h.2.1)).2 p hp
theorem Id{x:Pce}(h:zV x)(ho:zU x=true):gdN (oe x):=V0 h _ (UF h ho)
theorem gdN.e{c:BCU}(h:gdN c):RE.GdE (dC c):=(vf h.gd).e h.2.2.2
end
theorem U5{α:Type}{lt:α->α->Prop}{f:α->α->Int}(hl:pW lt)(h:wc lt f)(x y:α):f x y<=0↔¬lt y x:=by
 rcases hl.tri x y with g|g|g
 ·rw[(h x y).1 g];exact⟨λ_ e=>hl.irr _ (hl.tr _ _ _ e g),λ_=>by decide⟩
 ·rw[(h x y).2.1 g];exact⟨λ_ e=>by rw[g]at e;exact hl.irr _ e,λ_=>by decide⟩
 ·rw[(h x y).2.2 g];exact⟨λe=>absurd e (by decide),λe=>absurd g e⟩
theorem pG{α:Type}{lt:α->α->Prop}{f:α->α->Int}(hl:pW lt)(h:wc lt f)(x y:α):f x y<0↔lt x y:=by
 rw[<-an4 (p:=f x y<0)];exact xX hl h x y
structure akR (c:Cv):Prop extends Ord c where
 le:∀{p q},Sp c p->Sp c q->(dt c p q<=0↔¬dt c q p<0)
 lt:∀{p q r},Sp c p->Sp c q->Sp c r->¬dt c q p<0->¬dt c r q<0->¬dt c r p<0
theorem We{c:Cv}(h:Crp c):akR c:=by
 obtain⟨K,lt,κ,f,hl,hc,ho,hk⟩:=wU h;refine⟨zk h,λ{p q} hp hq=>?_,λ{p q r} hp hq hr=>?_⟩
 ·rw[ho p q hp hq,ho q p hq hp,U5 hl hc,pG hl hc]
 ·rw[ho q p hq hp,ho r q hr hq,ho r p hr hp,pG hl hc,pG hl hc,pG hl hc];intro g g' e;rcases hl.tri (κ q) (κ p)with a|a|a
  ·exact g a
  ·exact g' (by rw[a];exact e)
  ·exact g' (hl.tr _ _ _ e a)
theorem Bv{c:Cv}(h:Crp c){p:Pt}(hp:Rpd p):onR c p=true↔gR c p=true/\¬dt c p (frC c)<0/\¬dt c (toC c) p<0:=by
 have o:=We h;unfold onR;rw[am6,am6,an4,an4];refine and_congr_right λhs=>?_;rw[o.le h.f ⟨hp,hs⟩,o.le ⟨hp,hs⟩ h.t]
theorem ah0{c:BCU}(h:gdN c):dt (dC c) (frC (dC c)) (toC (dC c))<0:=by
 have k:=vf h.gd;have hne:a8 (frC (dC c)) (toC (dC c))≠0:=h.2.2.2;cases ha:(dC c).1
 ·unfold dt;rw[ha,cond_false];cases hd:decide (a8 (frC (dC c)) (toC (dC c))>0)
  ·have:=anP hd;rw[cond_false];omega
  ·have:=amZ hd;rw[cond_true];omega
 ·rcases(zk k).tri k.f k.t with g|g|g
  ·exact g
  ·exact absurd g hne
  ·obtain⟨κ,h1,h2⟩:=JB k ha;have hl:=R4 RE.lt_lin;rw[h1 (dC c) ha rfl rfl k.f _ _ k.t k.f,pG (Zf hl _) (E6 RE.lt_lin RE.sg_cmpO _)]at g;rcases g with⟨_,g⟩|⟨g1,g2⟩
   ·exact absurd g (hl.irr _)
   ·exact absurd (g1.1 g2) (hl.irr _)
theorem ael{c:BCU}(h:gdN c):onR (dC c) (frC (dC c))=true/\onR (dC c) (toC (dC c))=true:=by
 have k:=vf h.gd;have o:=zk k
 have irr:∀{q},Sp (dC c) q->dt (dC c) q q=0:=λ{q} hq=>by
  have:=hq.1;exact o.irr hq hq (RE.cmpP_0.2 rfl)
 have tf:=o.asy k.f k.t (ah0 h);rw[Bv k k.f.1,Bv k k.t.1,irr k.f,irr k.t];exact⟨⟨k.f.2,by omega,by omega⟩,k.t.2,by omega,by omega⟩
def Dc(c:Cv)(p q:Pt):Int:=bif c.1 then(bif cwC c then-(ic bh (ptd (ciC c) (toC c)) (ptd (ciC c) p) (ptd (ciC c) q))else ic bh (ptd (ciC c) (frC c)) (ptd (ciC c) p) (ptd (ciC c) q))else a8 p q*a8 (toC c) (frC c)
namespace RE
theorem UY:∀kF kP kQ:Fin 4,∀iF iP iQ:Fin 3,H5 kF.1 iF.1 kP.1 iP.1 kQ.1 iQ.1=true->
  ic cI (upA kF.1,iF.1) (upA kP.1,iP.1) (upA kQ.1,iQ.1)=kO cI (upA kF.1,iF.1) (upA kP.1,iP.1) (upA kQ.1,iQ.1):=by decide+kernel
theorem ac9:∀kF kT:Fin 4,∀iF iT:Fin 4,(nN kF.1 iF.1 kT.1 iT.1&&nN kT.1 iT.1 kF.1 iF.1)=true->∀kP iP:Fin 4,(nN kF.1 iF.1 kP.1 iP.1&&nN kP.1 iP.1 kF.1 iF.1&&nN kT.1 iT.1 kP.1 iP.1&&nN kP.1 iP.1 kT.1 iT.1&&decide (ic cI (upA kT.1,iT.1) (upA kP.1,iP.1) (upA kF.1,iF.1)<=0))=true->
  ∀kQ iQ:Fin 4,(nN kF.1 iF.1 kQ.1 iQ.1&&nN kQ.1 iQ.1 kF.1 iF.1&&nN kT.1 iT.1 kQ.1 iQ.1&&nN kQ.1 iQ.1 kT.1 iT.1&&nN kP.1 iP.1 kQ.1 iQ.1&&nN kQ.1 iQ.1 kP.1 iP.1&&decide (ic cI (upA kT.1,iT.1) (upA kQ.1,iQ.1) (upA kF.1,iF.1)<=0))=true->
  -(ic cI (upA kT.1,iT.1) (upA kP.1,iP.1) (upA kQ.1,iQ.1))=kO dI (ufA kF.1,iF.1) (ufA kP.1,iP.1) (ufA kQ.1,iQ.1):=by decide+kernel
theorem acj{ci:Ln}{F P Q:Pt}[Rpd F][Rpd P][Rpd Q](hQ:0<ci.2.2)(hF:onCi ci F)(hP:onCi ci P)(hq:onCi ci Q):
  ic bh (ptd ci F) (ptd ci P) (ptd ci Q)=kO bh (ptd ci F) (ptd ci P) (ptd ci Q):=by
 have mF:pX F∈[pX F,pX P,pX Q]:=by simp
 have mP:pX P∈[pX F,pX P,pX Q]:=by simp
 have mQ:pX Q∈[pX F,pX P,pX Q]:=by simp
 have h0:0<of ci.2.2:=fX hQ
 have hcon:H5 (cls (pX F-of ci.1) (pY F-of ci.2.1)) (rk (λa b:RE=>a<b) [pX F,pX P,pX Q] (pX F)) (cls (pX P-of ci.1) (pY P-of ci.2.1)) (rk (λa b:RE=>a<b) [pX F,pX P,pX Q] (pX P)) (cls (pX Q-of ci.1) (pY Q-of ci.2.1)) (rk (λa b:RE=>a<b) [pX F,pX P,pX Q] (pX Q))=true:=by
  unfold H5;rw[dh h0 hF hP mF mP,dh h0 hP hF mP mF,dh h0 hF hq mF mQ,dh h0 hq hF mQ mF,dh h0 hP hq mP mQ,dh h0 hq hP mQ mP];rfl
 have a:=UY ⟨_,iv (pX F-of ci.1) (pY F-of ci.2.1)⟩ ⟨_,iv (pX P-of ci.1) (pY P-of ci.2.1)⟩ ⟨_,iv (pX Q-of ci.1) (pY Q-of ci.2.1)⟩ ⟨_,jp lt_lin mF⟩ ⟨_,jp lt_lin mP⟩ ⟨_,jp lt_lin mQ⟩ hcon;simp only at a;unfold ptd;rw[iJ,iJ,iJ,iB (fB mP mF) (fB mQ mF) (fB mP mQ),gC (fB mP mF) (fB mQ mF) (fB mP mQ)];exact a
theorem aiM{ci:Ln}{F T P Q:Pt}[Rpd F][Rpd T][Rpd P][Rpd Q](hQ:0<ci.2.2)(hF:onCi ci F)(hT:onCi ci T)(hP:onCi ci P)(hq:onCi ci Q)
  (oP:decide (ic bh (ptd ci T) (ptd ci P) (ptd ci F)<=0)=true) (oQ:decide (ic bh (ptd ci T) (ptd ci Q) (ptd ci F)<=0)=true):
  -(ic bh (ptd ci T) (ptd ci P) (ptd ci Q))=kO bh (ptd (flC ci) (flP F)) (ptd (flC ci) (flP P)) (ptd (flC ci) (flP Q)):=by
 have mF:pX F∈[pX F,pX T,pX P,pX Q]:=by simp
 have mT:pX T∈[pX F,pX T,pX P,pX Q]:=by simp
 have mP:pX P∈[pX F,pX T,pX P,pX Q]:=by simp
 have mQ:pX Q∈[pX F,pX T,pX P,pX Q]:=by simp
 have h0:0<of ci.2.2:=fX hQ;revert oP oQ;unfold ptd;rw[iJ,iJ,iJ,iJ,wr hQ hF,wr hQ hP,wr hQ hq,iB (fB mP mT) (fB mF mT) (fB mP mF),iB (fB mQ mT) (fB mF mT) (fB mQ mF),iB (fB mP mT) (fB mQ mT) (fB mP mQ),gC (ot mP mF) (ot mQ mF) (ot mP mQ)];intro oP oQ;refine ac9 ⟨_,iv (pX F-of ci.1) (pY F-of ci.2.1)⟩ ⟨_,iv (pX T-of ci.1) (pY T-of ci.2.1)⟩ ⟨_,jp lt_lin mF⟩ ⟨_,jp lt_lin mT⟩ ?_ ⟨_,iv (pX P-of ci.1) (pY P-of ci.2.1)⟩ ⟨_,jp lt_lin mP⟩ ?_ ⟨_,iv (pX Q-of ci.1) (pY Q-of ci.2.1)⟩ ⟨_,jp lt_lin mQ⟩ ?_
 ·simp only;rw[dh h0 hF hT mF mT,dh h0 hT hF mT mF];rfl
 ·simp only;rw[dh h0 hF hP mF mP,dh h0 hP hF mP mF,dh h0 hT hP mT mP,dh h0 hP hT mP mT,oP];rfl
 ·simp only;rw[dh h0 hF hq mF mQ,dh h0 hq hF mQ mF,dh h0 hT hq mT mQ,dh h0 hq hT mQ mT,dh h0 hP hq mP mQ,dh h0 hq hP mQ mP,oQ];rfl
theorem KN{p q:Pt}[Rpd p][Rpd q]:a8 p q= -a8 q p:=by
 rw[jP,jP];rcases kq.tri (pR p) (pR q)with h|h|h
 ·rw[(jc _ _).1 h,(jc _ _).2.2 h]
 ·rw[h,(jc (pR q) (pR q)).2.1 rfl];rfl
 ·rw[(jc _ _).2.2 h,(jc _ _).1 h];rfl
theorem ord_eq{c:Cv}(h:Crp c)(hne:a8 (frC c) (toC c)≠0){p q:Pt}(hp:Rpd p)(hq:Rpd q)(op:onP c p=true)(oq:onP c q=true):Dc c p q=dt c p q:=by
 have hf:=h.f.1;have ht:=h.t.1;unfold onP at op oq;obtain⟨sp,rp⟩:=am6.1 op;obtain⟨sq,rq⟩:=am6.1 oq;unfold Dc dt;unfold iN at rp rq;cases ha:c.1
 ·rw[cond_false,cond_false,KN (p:=toC c)];have hb:=wZ (frC c) (toC c);by_cases hd:a8 (frC c) (toC c)>0
  ·rw[amW hd,cond_true,show a8 (frC c) (toC c)=1 by omega];omega
  ·rw[amY hd,cond_false,show a8 (frC c) (toC c)= -1 by omega];omega
 ·rw[ha,cond_true]at rp rq;rw[cond_true,cond_true];have q0:=h.q ha;have oF:=kx ha h.f;have oT:=kx ha h.t;have oP:=kx ha ⟨hp,sp⟩;have oQ:=kx ha ⟨hq,sq⟩;unfold ccF ccT at rp rq;cases hw:cwC c
  ·rw[cond_false,cond_false];exact acj q0 oF oP oQ
  ·rw[hw,cond_true,cond_true]at rp rq;rw[cond_true,cond_true];exact aiM q0 oF oT oP oQ rp rq
end RE
abbrev oL(c:Cv)(A:List BP):Prop:=A.Pairwise (λa b=>dt c (dec a) (dec b)<0)
section
section
variable {α K:Type}
def me(lt:α->α->Bool):List α->α->List α
 |[],a=>[a]
 |b::r,a=>bif lt a b then b::me lt r a else a::b::r
def uU(lt:α->α->Bool)(l:List α):List α:=(l.foldl (me lt) []).reverse
def ks(eq:α->α->Bool):α->List α->List α
 |_,[]=>[]
 |p,q::r=>bif eq q p then ks eq q r else q::ks eq q r
def wE(eq:α->α->Bool):List α->List α
 |[]=>[]
 |x::r=>x::ks eq x r
theorem n7{lt:α->α->Bool}{a x:α}:∀{r:List α},x∈me lt r a↔x=a\/x∈r
 |[]=>by simp[me]
 |b::r=>by
  unfold me;cases lt a b
  ·simp
  ·simp only[cond_true,ane,n7 (r:=r)];constructor
   ·rintro (h|h|h)
    ·exact .inr (.inl h)
    ·exact .inl h
    ·exact .inr (.inr h)
   ·rintro (h|h|h)
    ·exact .inr (.inl h)
    ·exact .inl h
    ·exact .inr (.inr h)
theorem Ez{lt:α->α->Bool}{x:α}:∀{l r:List α},x∈l.foldl (me lt) r↔x∈l\/x∈r
 |[],r=>by simp
 |a::l,r=>by
  rw[aoS,Ez,n7,ane];constructor
  ·rintro (h|h|h)
   ·exact .inl (.inr h)
   ·exact .inl (.inl h)
   ·exact .inr h
  ·rintro ((h|h)|h)
   ·exact .inr (.inl h)
   ·exact .inl h
   ·exact .inr (.inr h)
theorem qG{lt:α->α->Bool}{x:α}{l:List α}:x∈uU lt l↔x∈l:=by
 unfold uU;rw[List.mem_reverse,Ez];simp
theorem uk{lt:α->α->Bool}{a:α}:∀{r:List α},(me lt r a).length=r.length+1
 |[]=>rfl
 |b::r=>by
  unfold me;cases lt a b
  ·rfl
  ·simp[uk (r:=r)]
theorem IV{lt:α->α->Bool}:∀{l r:List α},(l.foldl (me lt) r).length=l.length+r.length
 |[],r=>by simp
 |a::l,r=>by
  rw[aoS,IV,uk,anb];omega
theorem EV{lt:α->α->Bool}{l:List α}:(uU lt l).length=l.length:=by
 unfold uU;rw[List.length_reverse,IV];rfl
theorem DM{eq:α->α->Bool}:∀{l:List α} {p:α},(ks eq p l).length<=l.length
 |[],_=>am2 _
 |q::r,p=>by
  unfold ks;have:=DM (eq:=eq) (l:=r) (p:=q);cases eq q p
  ·simp only[cond_false,anb];omega
  ·simp only[cond_true,anb];omega
theorem Sm{eq:α->α->Bool}{l:List α}:(wE eq l).length<=l.length:=by
 cases l with
 |nil=>exact am2 _
 |cons x r=>
  have:=DM (eq:=eq) (l:=r) (p:=x);simp only[wE,anb];omega
theorem yV{eq:α->α->Bool}{x:α}:∀{l:List α} {p:α},x∈ks eq p l->x∈l
 |[],_,h=>h
 |q::r,p,h=>by
  unfold ks at h;cases hq:eq q p<;>rw[hq]at h
  ·rcases ane.1 h with e|e
   ·rw[e];simp
   ·exact ana _ (yV e)
  ·exact ana _ (yV h)
theorem So{eq:α->α->Bool}{x:α}{l:List α}(h:x∈wE eq l):x∈l:=by
 cases l with
 |nil=>exact h
 |cons y r=>
  rcases ane.1 h with e|e
  ·rw[e];simp
  ·exact ana _ (yV e)
variable {lt:K->K->Prop} (hl:pW lt) (κ:α->K)
abbrev upK(lt:K->K->Prop)(κ:α->K)(l:List α):Prop:=l.Pairwise λa b=>¬lt (κ b) (κ a)
abbrev dnK(lt:K->K->Prop)(κ:α->K)(l:List α):Prop:=l.Pairwise λa b=>¬lt (κ a) (κ b)
include hl in
theorem J7{f:α->α->Bool}{a:α}:∀{r:List α},(∀b∈r,(f a b=true↔lt (κ a) (κ b)))->dnK lt κ r->dnK lt κ (me f r a)
 |[],_,_=>by simp[me]
 |b::r,hf,hp=>by
  obtain⟨p1,p2⟩:=anE.1 hp;have hb:=hf b (by simp);unfold me;cases hfb:f a b
  ·simp only[cond_false];have nlt:¬lt (κ a) (κ b):=λh=>by rw[hb.2 h]at hfb;cases hfb
   refine anE.2 ⟨λx hx=>?_,hp⟩;rcases ane.1 hx with e|e
   ·rw[e];exact nlt
   ·intro h;rcases hl.tri (κ b) (κ x)with g|g|g
    ·exact p1 x e g
    ·rw[<-g]at h;exact nlt h
    ·exact nlt (hl.tr _ _ _ h g)
  ·simp only[cond_true];have hlt:=hb.1 hfb;refine anE.2 ⟨λx hx=>?_,J7 (λy hy=>hf y (ana _ hy)) p2⟩;rcases n7.1 hx with e|e
   ·rw[e];intro h;exact hl.irr _ (hl.tr _ _ _ h hlt)
   ·exact p1 x e
include hl in
theorem IC{f:α->α->Bool}:∀{l r:List α},(∀a b,(a∈l\/a∈r)->(b∈l\/b∈r)->(f a b=true↔lt (κ a) (κ b)))->dnK lt κ r->dnK lt κ (l.foldl (me f) r)
 |[],_,_,h=>h
 |a::l,r,hf,h=>by
  rw[aoS];refine IC (λx y hx hy=>hf x y ?_ ?_) (J7 hl κ (λb hb=>hf a b (.inl (by simp)) (.inr hb)) h)
  ·rcases hx with e|e
   ·exact .inl (ana _ e)
   ·rcases n7.1 e with g|g
    ·exact .inl (by rw[g];simp)
    ·exact .inr g
  ·rcases hy with e|e
   ·exact .inl (ana _ e)
   ·rcases n7.1 e with g|g
    ·exact .inl (by rw[g];simp)
    ·exact .inr g
include hl in
theorem UM{f:α->α->Bool}{l:List α}(hf:∀a∈l,∀b∈l,(f a b=true↔lt (κ a) (κ b))):upK lt κ (uU f l):=by
 unfold uU;refine List.pairwise_reverse.2 (IC hl κ (λa b ha hb=>hf a ?_ b ?_) (by simp))
 ·rcases ha with h|h
  ·exact h
  ·cases h
 ·rcases hb with h|h
  ·exact h
  ·cases h
include hl in
theorem J0{g:α->α->Bool}:∀{l:List α} {p:α},(∀a b,a∈p::l->b∈p::l->(g a b=true↔κ a=κ b))->upK lt κ (p::l)->
  (p::ks g p l).Pairwise (λa b=>lt (κ a) (κ b))/\∀x∈p::l,∃y∈p::ks g p l,κ y=κ x
 |[],p,_,_=>⟨by simp[ks],λx hx=>⟨x,hx,rfl⟩⟩
 |q::r,p,hg,hp=>by
  obtain⟨p1,p2⟩:=anE.1 hp;obtain⟨i1,i2⟩:=J0 (l:=r) (p:=q) (λa b ha hb=>hg a b (ana _ ha) (ana _ hb)) p2;obtain⟨j1,j2⟩:=anE.1 i1;have hq:=hg q p (by simp) (by simp);unfold ks;cases hqp:g q p
  ·simp only[cond_false]
   have hlt:lt (κ p) (κ q):=by
    rcases hl.tri (κ p) (κ q)with e|e|e
    ·exact e
    ·rw[hq.2 e.symm]at hqp;cases hqp
    ·exact absurd e (p1 q (by simp))
   refine⟨anE.2 ⟨λx hx=>?_,i1⟩,λx hx=>?_⟩
   ·rcases ane.1 hx with e|e
    ·rw[e];exact hlt
    ·exact hl.tr _ _ _ hlt (j1 x e)
   ·rcases ane.1 hx with e|e
    ·exact⟨p,by simp,by rw[e]⟩
    ·obtain⟨y,hy,e2⟩:=i2 x e;exact⟨y,ana _ hy,e2⟩
  ·simp only[cond_true];have he:=hq.1 hqp;refine⟨anE.2 ⟨λx hx=>by rw[<-he];exact j1 x hx,j2⟩,λx hx=>?_⟩
   have tr:∀y,y∈q::ks g q r->∃z∈p::ks g q r,κ z=κ y:=λy hy=>by
    rcases ane.1 hy with e|e
    ·exact⟨p,by simp,by rw[e,he]⟩
    ·exact⟨y,ana _ e,rfl⟩
   rcases ane.1 hx with e|e
   ·exact⟨p,by simp,by rw[e]⟩
   ·obtain⟨y,hy,e2⟩:=i2 x e;obtain⟨z,hz,e3⟩:=tr y hy;exact⟨z,hz,e3.trans e2⟩
include hl in
theorem UK{g:α->α->Bool}{l:List α}(hg:∀a∈l,∀b∈l,(g a b=true↔κ a=κ b))(hp:upK lt κ l):(wE g l).Pairwise (λa b=>lt (κ a) (κ b))/\∀x∈l,∃y∈wE g l,κ y=κ x:=by
 cases l with
 |nil=>exact⟨by simp[wE],λx hx=>by cases hx⟩
 |cons p r=>exact J0 hl κ (λa b ha hb=>hg a ha b hb) hp
end
def ltP(c:Cv)(a b:BP):Bool:=decide (Dc c (dec a) (dec b)<0)
def iU(a b:BP):Bool:=a8 (dec a) (dec b)==0
def du(c:Cv)(l:List BP):List BP:=wE iU (uU (ltP c) l)
theorem kb{c:Cv}{l:List BP}{x:BP}(h:x∈du c l):x∈l:=qG.1 (So h)
theorem qF{c:Cv}{l:List BP}:(du c l).length<=l.length:=by
 have:=Sm (eq:=iU) (l:=uU (ltP c) l);rw[EV]at this;exact this
theorem J9{c:Cv}(h:Crp c)(hne:a8 (frC c) (toC c)≠0){l:List BP}(hon:∀x∈l,Rpd (dec x:Pt)/\onP c (dec x)=true):oL c (du c l)/\∀x∈l,∃y∈du c l,a8 (dec y) (dec x)=0:=by
 obtain⟨K,lt,κ,f,hl,hc,ho,hk⟩:=wU h;have sp:∀x∈l,Spb c x:=λx hx=>⟨(hon x hx).1,(am6.1 (hon x hx).2).1⟩
 have up:=UM hl (λx:BP=>κ (dec x)) (f:=ltP c) (l:=l) λa ha b hb=>by
  unfold ltP;rw[an4,RE.ord_eq h hne (hon a ha).1 (hon b hb).1 (hon a ha).2 (hon b hb).2,ho _ _ (sp a ha) (sp b hb)];exact pG hl hc _ _
 have q:=UK hl (λx:BP=>κ (dec x)) (g:=iU) (l:=uU (ltP c) l) (λa ha b hb=>by
  unfold iU;rw[anV];exact(hk _ _ (sp a (qG.1 ha)) (sp b (qG.1 hb))).symm) up
 refine⟨List.Pairwise.imp_of_mem (λ{a b} ha hb g=>?_) q.1,λx hx=>?_⟩
 ·have ha':=kb (c:=c) ha;have hb':=kb (c:=c) hb;rw[ho _ _ (sp a ha') (sp b hb')];exact(pG hl hc _ _).2 g
 ·obtain⟨y,hy,e⟩:=q.2 x (qG.2 hx);exact⟨y,hy,(hk _ _ (sp y (kb (c:=c) hy)) (sp x hx)).1 e⟩
end
theorem adA{c:Cv}(h:Crp c):Crv c:=⟨h.f.1,h.t.1,λha=>⟨h.q ha,kx ha h.f,kx ha h.t⟩⟩
theorem kX{c:Cv}(h:Crp c){p:Pt}(hp:Rpd p):onP c p=onR c p:=Yu (adA h) hp
namespace RE
theorem hZ{c:Cv}{p:Pt}[Rpd p]:gR c p=true↔bif c.1 then fV (ciC c) (pR p)else eG (lnC c) (pR p):=by
 unfold gR;cases c.1
 ·exact CW
 ·exact tK
theorem v6{q:Rat}(hq:q≠0){x y:RE}(h:of q*x=of q*y):x=y:=by
 have e:∀z:RE,of q⁻¹*(of q*z)=z:=λz=>by
  rw[<-mul_assoc,<-of_mul,Rat.inv_mul_cancel _ hq,CA,one_mul]
 rw[<-e x,h,e y]
theorem alc(a p q x y:RE):a*(p*x+q*y)=p*(a*x)+a*q*y:=by grind
theorem akK(p a b x y:RE):p*(a*x+b*y)=p*(a*x)+b*p*y:=by grind
theorem alr(b p q x y:RE):b*(p*x+q*y)=b*p*x+q*(b*y):=by grind
theorem alZ(q a b x y:RE):q*(a*x+b*y)=a*q*x+q*(b*y):=by grind
theorem abD{l m:Ln}(hl:l.1≠0\/l.2.1≠0)(h:ph l m=true){v:PE}(hv:eG l v):eG m v:=by
 unfold ph at h;obtain⟨h1,h23⟩:=am6.1 h;obtain⟨h2,h3⟩:=am6.1 h23;have h1:=amZ h1;have h2:=amZ h2;have h3:=amZ h3;unfold eG at*
 rcases hl with ha|hb
 ·refine v6 ha ?_;rw[alc,<-of_mul l.1 m.2.1,h1,of_mul,<-akK,hv,<-of_mul,<-of_mul,h2,aox]
 ·refine v6 hb ?_;rw[alr,<-of_mul l.2.1 m.1,<-h1,of_mul,<-alZ,hv,<-of_mul,<-of_mul,h3,aox]
theorem Vx{l m:Ln}(h:ph l m=true):ph m l=true:=by
 unfold ph at*
 obtain⟨h1,h23⟩:=am6.1 h;obtain⟨h2,h3⟩:=am6.1 h23;have h1:=amZ h1;have h2:=amZ h2;have h3:=amZ h3;rw[dT (show m.1*l.2.1=m.2.1*l.1 by grind),dT (show m.1*l.2.2=m.2.2*l.1 by grind),dT (show m.2.1*l.2.2=m.2.2*l.2.1 by grind)];rfl
theorem acR{c d:Ln}(h:qa c d=true):c=d:=by
 unfold qa at h;obtain⟨h1,h23⟩:=am6.1 h;obtain⟨h2,h3⟩:=am6.1 h23;exact anx (amZ h1) (anx (amZ h2) (amZ h3))
theorem Dg{c d:Cv}(h:cC c d=true):c.1=d.1:=by
 unfold cC at h;cases e:c.1==d.1
 ·rw[e]at h;cases h
 ·exact anV.1 e
theorem PU{c d:Cv}(h:cC c d=true)(ha:c.1=true):ciC c=ciC d:=by
 have e:=Dg h;unfold cC at h;rw[<-e,ha]at h;exact acR h
theorem Qt{c d:Cv}(h:cC c d=true)(ha:c.1=false):ph (lnC c) (lnC d)=true:=by
 have e:=Dg h;unfold cC at h;rw[<-e,ha]at h;exact h
theorem BS{c d:Cv}(h:cC c d=true):cC d c=true:=by
 have e:=Dg h;unfold cC;rw[<-e,beq_self_eq_true,cond_true];cases ha:c.1
 ·exact Vx (Qt h ha)
 ·rw[cond_true,PU h ha];unfold qa;rw[dT rfl,dT rfl,dT rfl];rfl
theorem xw{c d:Cv}(hc:Crp c)(h:cC c d=true){p:Pt}[Rpd p](hp:gR c p=true):gR d p=true:=by
 have e:=Dg h;rw[hZ]at*
 rw[<-e];cases ha:c.1
 ·rw[ha,cond_false]at hp;exact abD (hc.l ha) (Qt h ha) hp
 ·rw[ha,cond_true]at hp;rw[cond_true,<-PU h ha];exact hp
theorem supF_eq{c:Cv}{p q:Pt}[Rpd p][Rpd q](e:pR p=pR q)(h:gR c p=true):gR c q=true:=by
 rw[hZ]at*
 rw[<-e];exact h
end RE
theorem D5{c:Cv}(h:Crp c){p q r:Pt}(hp:Sp c p)(hq:Sp c q)(hr:Sp c r)(e:a8 p q=0):dt c p r=dt c q r/\dt c r p=dt c r q:=by
 obtain⟨K,lt,κ,f,hl,hc,ho,hk⟩:=wU h;have ek:=(hk p q hp hq).2 e;rw[ho p r hp hr,ho q r hq hr,ho r p hr hp,ho r q hr hq,ek];exact⟨rfl,rfl⟩
theorem agK{c:Cv}{p q:Pt}(hp:Sp c p)(hq:Rpd q)(e:a8 p q=0):Sp c q:=by
 have:=hp.1;exact⟨hq,RE.supF_eq (RE.cmpP_0.1 e) hp.2⟩
theorem ai7{p:Pt}(_h:Rpd p):a8 p p=0:=RE.cmpP_0.2 rfl
theorem ME{p q:Pt}[Rpd p][Rpd q](e:a8 p q=0):a8 q p=0:=RE.cmpP_0.2 (RE.cmpP_0.1 e).symm
theorem ai6{p q r:Pt}[Rpd p][Rpd q][Rpd r](e:a8 p q=0)(e':a8 q r=0):a8 p r=0:=RE.cmpP_0.2 ((RE.cmpP_0.1 e).trans (RE.cmpP_0.1 e'))
theorem Eu{c:Cv}(h:Crp c){p q:Pt}(hp:Rpd p)(hq:Rpd q)(e:a8 p q=0)(ho:onR c p=true):onR c q=true:=by
 obtain⟨h1,h2,h3⟩:=(Bv h hp).1 ho;have sp:Sp c p:=⟨hp,h1⟩
 have sq:=agK sp hq e;rw[Bv h hq];rw[(D5 h sp sq h.f e).1]at h2;rw[(D5 h sp sq h.t e).2]at h3;exact⟨sq.2,h2,h3⟩
theorem JV{c:Cv}(h:Crp c){p q:Pt}(hp:Rpd p)(hq:Rpd q)(e:a8 p q=0):onR c p=onR c q:=by
 cases h1:onR c p
 ·cases h2:onR c q
  ·rfl
  ·rw[Eu h hq hp (ME e) h2]at h1;cases h1
 ·rw[Eu h hp hq e h1]
section
def lX(c d:BCU):List BP:=bif cC (dC c) (dC d)then [c.2.2.2.2.1,c.2.2.2.2.2,d.2.2.2.2.1,d.2.2.2.2.2]else(gY (dC c) (dC d)).map enc
def iu(c d:BCU)(p:BP):Bool:=iN (dC c) (dec p)&&iN (dC d) (dec p)
def iM(c d:BCU):List BP:=du (dC c) ((lX c d).filter (iu c d))
theorem kA{c:BCU}(h:uV c):(c.1=true->BdC (ciC (dC c))/\0<(ciC (dC c)).2.2)/\(c.1=false->BdL (lnC (dC c))/\((lnC (dC c)).1≠0\/(lnC (dC c)).2.1≠0)):=by
 refine⟨λe=>?_,λe=>?_⟩
 ·obtain⟨l,e1,bl,nl⟩:=cL (h.1 e);show BdC (dec c.2.2.1)/\_;rw[show ciC (dC c)=dec c.2.2.1 from rfl,e1,aA];exact⟨bl,nl⟩
 ·obtain⟨l,e1,bl,nl⟩:=fc (h.2 e);show BdL (dec c.2.1)/\_;rw[show lnC (dC c)=dec c.2.1 from rfl,e1,aA];exact⟨bl,nl⟩
namespace RE
theorem supM_on{c d:BCU}(hc:uV c)(hd:uV d){p:Pt}(hp:p∈gY (dC c) (dC d)):Bd p 1200/\Rpd p/\gR (dC c) p=true/\gR (dC d) p=true:=by
 obtain⟨c1,c2⟩:=kA hc;obtain⟨d1,d2⟩:=kA hd;have ec:(dC c).1=c.1:=rfl;have ed:(dC d).1=d.1:=rfl;unfold gY at hp;rw[ec,ed]at hp;cases ha:c.1<;>cases hb:d.1<;>rw[ha,hb]at hp
 ·have i1:=(c2 ha).1;have i2:=(d2 hb).1;have hp:p∈mb (lnC (dC c)) (lnC (dC d)):=hp;obtain⟨b,r⟩:=xD.2 p hp;obtain⟨o1,o2⟩:=acA hp;refine⟨b.mono (by decide),r,?_,?_⟩
  ·rw[hZ,ec,ha];exact o1
  ·rw[hZ,ed,hb];exact o2
 ·have i1:=(c2 ha).1;have i2:=(d1 hb).1;have hp:p∈lR (lnC (dC c)) (ciC (dC d)):=hp;obtain⟨b,r⟩:=u4.2 p hp;obtain⟨o1,o2⟩:=Ke (c2 ha).2 hp;refine⟨b,r,?_,?_⟩
  ·rw[hZ,ec,ha];exact o1
  ·rw[hZ,ed,hb];exact o2
 ·have i1:=(c1 ha).1;have i2:=(d2 hb).1;have hp:p∈lR (lnC (dC d)) (ciC (dC c)):=hp;obtain⟨b,r⟩:=u4.2 p hp;obtain⟨o1,o2⟩:=Ke (d2 hb).2 hp;refine⟨b,r,?_,?_⟩
  ·rw[hZ,ec,ha];exact o2
  ·rw[hZ,ed,hb];exact o1
 ·have i1:=(c1 ha).1;have i2:=(d1 hb).1;have hp:p∈ta (ciC (dC c)) (ciC (dC d)):=hp;unfold ta at hp;cases hq:iz (ciC (dC c)) (ciC (dC d))<;>rw[hq]at hp
  ·have i3:BdL (nI (ciC (dC c)) (ciC (dC d))):=yf;obtain⟨b,r⟩:=u4.2 p hp;obtain⟨o1,o2⟩:=Ke (vL hq) hp;refine⟨b,r,?_,?_⟩
   ·rw[hZ,ec,ha];exact o2
   ·rw[hZ,ed,hb];exact Ru o1 o2
  ·cases hp
end RE
open RE
theorem gdN.crp{c:BCU}(h:gdN c):Crp (dC c):=vf h.gd
theorem gdN.ne{c:BCU}(h:gdN c):a8 (frC (dC c)) (toC (dC c))≠0:=h.2.2.2
theorem gdN.fr{c:BCU}(h:gdN c):okP 580 c.2.2.2.2.1:=h.1.1.2.2.1
theorem gdN.to{c:BCU}(h:gdN c):okP 580 c.2.2.2.2.2:=h.1.1.2.2.2
theorem xp{c d:BCU}(hc:gdN c)(hd:gdN d):(lX c d).length<=4/\∀x∈lX c d,okP 1200 x/\Spb (dC c) x/\Spb (dC d) x:=by
 have kc:=hc.crp;have kd:=hd.crp;unfold lX;cases hs:cC (dC c) (dC d)
 ·refine⟨?_,λx hx=>?_⟩
  ·simp only[cond_false,aoF];have:∀l c,[BdL l]->[BdC c]->(lR l c).length<=4:=λl c _ _=>am9 u4.1 (by decide);obtain⟨c1,c2⟩:=kA hc.1.2;obtain⟨d1,d2⟩:=kA hd.1.2;have ec:(dC c).1=c.1:=rfl;have ed:(dC d).1=d.1:=rfl;unfold gY;rw[ec,ed];cases ha:c.1<;>cases hb:d.1
   ·have i1:=(c2 ha).1;have i2:=(d2 hb).1;exact am9 xD.1 (by decide)
   ·have i1:=(c2 ha).1;have i2:=(d1 hb).1;exact this _ _
   ·have i1:=(c1 ha).1;have i2:=(d2 hb).1;exact this _ _
   ·have i1:=(c1 ha).1;have i2:=(d1 hb).1;show(ta _ _).length<=4;unfold ta;cases hq:iz (ciC (dC c)) (ciC (dC d))
    ·have i3:BdL (nI (ciC (dC c)) (ciC (dC d))):=yf;exact this _ _
    ·exact apr _
  ·obtain⟨p,hp,rfl⟩:=aoP.1 hx;obtain⟨b,r,o1,o2⟩:=supM_on hc.1.2 hd.1.2 hp;refine⟨amZ (aL (by decide) (by decide)),?_,?_⟩
   ·unfold Spb;rw[aA];exact⟨r,o1⟩
   ·unfold Spb;rw[aA];exact⟨r,o2⟩
 ·have hs':=BS hs;refine⟨by simp,λx hx=>?_⟩;have:x=c.2.2.2.2.1\/x=c.2.2.2.2.2\/x=d.2.2.2.2.1\/x=d.2.2.2.2.2:=by simpa using hx
  have up:∀{x},okP 580 x->okP 1200 x:=λh=>cM h (by decide) (by decide);rcases this with e|e|e|e<;>rw[e]
  ·have i:Rpd (dec c.2.2.2.2.1:Pt):=kc.f.1;exact⟨up hc.fr,kc.f,kc.f.1,xw kc hs kc.f.2⟩
  ·have i:Rpd (dec c.2.2.2.2.2:Pt):=kc.t.1;exact⟨up hc.to,kc.t,kc.t.1,xw kc hs kc.t.2⟩
  ·have i:Rpd (dec d.2.2.2.2.1:Pt):=kd.f.1;exact⟨up hd.fr,⟨kd.f.1,xw kd hs' kd.f.2⟩,kd.f⟩
  ·have i:Rpd (dec d.2.2.2.2.2:Pt):=kd.t.1;exact⟨up hd.to,⟨kd.t.1,xw kd hs' kd.t.2⟩,kd.t⟩
theorem xN{c d:BCU}(hc:gdN c)(hd:gdN d){x:BP}(hx:x∈iM c d):x∈lX c d/\okP 1200 x/\Spb (dC c) x/\Spb (dC d) x/\onR (dC c) (dec x)=true/\onR (dC d) (dec x)=true:=by
 obtain⟨hm,hk⟩:=ap3.1 (kb hx);obtain⟨h0,h1,h2⟩:=(xp hc hd).2 x hm;obtain⟨k1,k2⟩:=am6.1 hk;refine⟨hm,h0,h1,h2,?_,?_⟩
 ·rw[<-kX hc.crp h1.1];exact am6.2 ⟨h1.2,k1⟩
 ·rw[<-kX hd.crp h2.1];exact am6.2 ⟨h2.2,k2⟩
theorem JJ{c d:BCU}{x:BP}(hc:gdN c)(hd:gdN d)(hr:Rpd (dec x:Pt))(h1:onR (dC c) (dec x)=true)(h2:onR (dC d) (dec x)=true):iu c d x=true:=by
 rw[<-kX hc.crp hr]at h1;rw[<-kX hd.crp hr]at h2;exact am6.2 ⟨(am6.1 h1).2,(am6.1 h2).2⟩
theorem Td{c d:BCU}(hc:gdN c)(hd:gdN d):∀x∈(lX c d).filter (iu c d),Rpd (dec x:Pt)/\onP (dC c) (dec x)=true:=λx hx=>by
 obtain⟨hm,hk⟩:=ap3.1 hx;obtain⟨h0,h1,h2⟩:=(xp hc hd).2 x hm;exact⟨h1.1,am6.2 ⟨h1.2,(am6.1 hk).1⟩⟩
end
section
open RE
def z7(c:BCU):BP->List BP->List BCU
 |f,[]=>[Bx c f c.2.2.2.2.2]
 |f,p::r=>bif iU p c.2.2.2.2.1||iU p c.2.2.2.2.2 then z7 c f r else Bx c f p::z7 c p r
def ac1(c:BCU)(l:List BP):List BCU:=z7 c c.2.2.2.2.1 (du (dC c) l)
def ac4(c:BCU)(l:List BP):Bool:=l.any λp=>!onP (dC c) (dec p)
def sw(c:BCU)(l:List BP):List BCU:=bif ac4 c l then []else ac1 c l
def alB(c:BCU)(l:List BP):Int:=bif ac4 c l then 1 else 0
section
variable {c:BCU} (h:gdN c) {l:List BP} (ho:∀x∈l,Rpd (dec x:Pt)/\onR (dC c) (dec x)=true)
include h ho
omit h ho in
end
end
section
open RE
def frB(c:BCU):BP:=c.2.2.2.2.1
def toB(c:BCU):BP:=c.2.2.2.2.2
def E5(d p:BCU):Bool:=(onP (dC d) (dec (frB p))&&onP (dC d) (dec (toB p)))&&(bif d.1 then !iU (frB (d9 p)) (toB (d9 d))&&decide (ic bh (ptd (dec (d9 d).2.2.1) (dec (frB (d9 p)))) (ptd (dec (d9 d).2.2.1) (dec (toB (d9 p)))) (ptd (dec (d9 d).2.2.1) (dec (toB (d9 d))))<=0)else true)
def yO(c d:BCU)(l:List BP):Bool:=(sw c l).any (E5 d)
def sN(c d:BCU):Bool:=cC (dC c) (dC d)&&yO c d (iM c d)
end
end Go.Proofs.YtagbmoohboleaaaGreat
end
