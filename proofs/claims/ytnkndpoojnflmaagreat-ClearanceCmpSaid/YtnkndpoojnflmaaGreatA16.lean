/- The distance of any point, by real values. -/
import Derived.Test.YtnkndpoojnflmaaGreatA15
import Derived.Test.YtnkndpoojnflmaaGreatA13
noncomputable section
namespace Go.Proofs.YtnkndpoojnflmaaGreat
open Go.RowKit Go.IntKind
theorem anJ:type_of% @decide_eq_true_iff:=@decide_eq_true_iff
theorem aoD:type_of% @List.mem_filter:=@List.mem_filter
section
def rcX(p:Pt)(v:Rat×Rat):Rat×Rat:=(p.1-v.1,p.2.1)
def rcY(p:Pt)(v:Rat×Rat):Rat×Rat:=(p.2.2.1-v.2,p.2.2.2.1)
def prQ(q:Qd)(x y:Rat×Rat)(s:Rat):Qd:=(q.1+s*(x.1*y.1),q.2.1+s*(x.2*y.1),q.2.2.1+s*(x.1*y.2),q.2.2.2.1+s*(x.2*y.2),q.2.2.2.2.1,q.2.2.2.2.2)
def noQ(p q:Pt):Qd:=(0,0,0,0,p.2.2.2.2,q.2.2.2.2)
def crQ(v:Rat×Rat)(p q:Pt):Qd:=prQ (prQ (noQ p q) (rcX p v) (rcY q v) 1) (rcY p v) (rcX q v) (-1)
def doQ(v:Rat×Rat)(p q:Pt):Qd:=prQ (prQ (noQ p q) (rcX p v) (rcX q v) (-2)) (rcY p v) (rcY q v) (-2)
def z2:Rat×Rat:=(0,0)
def apQ(p q:Pt)(r:Rat):Qd:=((doQ z2 p q).1+(sqA p z2+sqA q z2)-r*r,(doQ z2 p q).2.1+sqB p z2,(doQ z2 p q).2.2.1+sqB q z2,(doQ z2 p q).2.2.2.1,p.2.2.2.2,q.2.2.2.2)
section
variable {p:Pt} {v:Rat×Rat} {j k:Nat}
instance (priority:=2000) bd_sqA' [h:Bd p j] [h':Bd v k]:Bd (sqA p v) (10*(j+k+1)):=by
 have a1:Bd (p.1-v.1) _:=inferInstance;have a2:Bd (p.2.2.1-v.2) _:=inferInstance;have a3:Bd (p.2.1*p.2.1+p.2.2.2.1*p.2.2.2.1) _:=inferInstance;have i:Bd ((p.1-v.1)*(p.1-v.1)+(p.2.2.1-v.2)*(p.2.2.1-v.2)+(p.2.1*p.2.1+p.2.2.2.1*p.2.2.2.1)*p.2.2.2.2) _:=inferInstance;exact i.mono (by omega)
instance (priority:=2000) bd_sqB' [h:Bd p j] [h':Bd v k]:Bd (sqB p v) (10*(j+k+1)):=by
 have a1:Bd (p.1-v.1) _:=inferInstance;have a2:Bd (p.2.2.1-v.2) _:=inferInstance;have i:Bd ((p.1-v.1)*p.2.1+(p.2.2.1-v.2)*p.2.2.2.1+((p.1-v.1)*p.2.1+(p.2.2.1-v.2)*p.2.2.2.1)) _:=inferInstance;exact i.mono (by omega)
instance (priority:=2000) bd_sqP' [h:Bd p j] [h':Bd v k]:Bd (sqP p v) (10*(j+k+1)):=by
 have a:Bd (sqA p v) (10*(j+k+1)):=bd_sqA';have b:Bd (sqB p v) (10*(j+k+1)):=bd_sqB';have i:Bd (coR (sqA p v) (sqB p v) p.2.2.2.2) (mx (10*(j+k+1)) (mx (10*(j+k+1)) j)):=inferInstance;exact i.mono (cK (by omega) (cK (by omega) (by omega)))
end
namespace RE
theorem T3(A B C D m n s a b c d:RE):A+s*(a*c)+(B+s*(b*c))*m+(C+s*(a*d))*n+(D+s*(b*d))*(m*n)=A+B*m+C*n+D*(m*n)+s*((a+b*m)*(c+d*n)):=by grind
theorem V8(A B C D m n a b c d r:RE):A+(a+c)-r+(B+b)*m+(C+d)*n+D*(m*n)=A+B*m+C*n+D*(m*n)+(a+b*m)+(c+d*n)-r:=by grind
theorem aiw(x y u w:RE):0+ -2*((x-0)*(u-0))+ -2*((y-0)*(w-0))+((x-0)*(x-0)+(y-0)*(y-0))+((u-0)*(u-0)+(w-0)*(w-0))=(x-u)*(x-u)+(y-w)*(y-w):=by grind
theorem akF(a b:RE):0+1*a+ -1*b=a-b:=by grind
theorem Cq(a v b:RE):a-v+b=a+b-v:=by grind
theorem Nj(u t:RE):u*u-t*t=(u-t)*(u+t):=by grind
theorem af3(Q r t:RE):Q+r*r+(r+r)*t=(t+r)*(t+r)+(Q-t*t):=by grind
theorem aca(Q r t:RE):Q+r*r+ -(r+r)*t=(t-r)*(t-r)+(Q-t*t):=by grind
theorem acI(u t r:RE):u*u+t*t-(u*t+u*t)-r*r=(u-(t+r))*(u-(t-r)):=by grind
theorem ahd(u t r:RE)(h1:0<u)(h2:0<t)(h3:0≤r):0<u+(t+r):=by grind
theorem alz(u t r:RE)(h1:0<u)(h2:r<t):0<u+(t-r):=by grind
theorem alr(u t r:RE)(h1:0<u-(t+r))(h2:0≤r):0<u-(t-r):=by grind
theorem alu(u t r:RE)(h1:0<u)(h2:t≤r):0<u-(t-r):=by grind
theorem sU(x y t:RE)(h1:x≤y):x-t≤y-t:=by grind
theorem Ff(x y:RE):((y*y-(x*x)))+((x-(y))*(x-(y)))+2*((x-(y))*(y-(0)))=0:=by grind
theorem Mc(x y:RE)(h1:y≤x)(h2:0≤y):y*y≤x*x:=fun hg=>far (aK (aK (aL hg) (bg (aF h1) (aF h1))) (iy (by decide+kernel:(0:Rat)<2) (bg (aF h1) (aF h2)))) (Ff x y)
theorem VF(a b:RE):a*b*(a*b)=a*a*(b*b):=by grind
theorem Ms(n e k r:RE):n*(e*k-r)=e*(n*k)-r*n:=by grind
def vq(q:Qd):RE:=vQ q.1 q.2.1 q.2.2.1 q.2.2.2.1 q.2.2.2.2.1 q.2.2.2.2.2
theorem oS{q:Qd}(h:0≤q.2.2.2.2.1)(h':0≤q.2.2.2.2.2):sgQ q=sg (vq q):=sgnQ_re h h'
theorem I2(q:Qd)(x y:Rat×Rat)(s:Rat):vq (prQ q x y s)=vq q+of s*(v2 x.1 x.2 q.2.2.2.2.1*v2 y.1 y.2 q.2.2.2.2.2):=by
 unfold vq vQ prQ v2;simp only[of_add,aJ];exact T3 _ _ _ _ _ _ _ _ _ _ _
theorem of0:of 0=0:=rfl
theorem YP(p q:Pt):vq (noQ p q)=0:=by
 unfold vq vQ noQ;dsimp only;rw[of0,zero_mul,zero_mul,zero_mul,add_zero,add_zero,add_zero]
def sbE(v:Rat×Rat)(p:PE):PE:=(p.1-of v.1,p.2-of v.2)
theorem Cs(p:Pt)(v:Rat×Rat):v2 (rcX p v).1 (rcX p v).2 p.2.2.2.2=(sbE v (pR p)).1:=by
 unfold rcX sbE pR pX v2;dsimp only;rw[of_sub,Cq]
theorem AS(p:Pt)(v:Rat×Rat):v2 (rcY p v).1 (rcY p v).2 p.2.2.2.2=(sbE v (pR p)).2:=by
 unfold rcY sbE pR pY v2;dsimp only;rw[of_sub,Cq]
def turS(v:Rat×Rat)(p q:PE):Int:=sg (crs (sbE v p) (sbE v q))
theorem crQ_re(v:Rat×Rat){p q:Pt}[hp:Rpd p][hq:Rpd q]:sgQ (crQ v p q)=turS v (pR p) (pR q):=by
 rw[oS (q:=crQ v p q) (show 0≤p.2.2.2.2 from hp.nn) (show 0≤q.2.2.2.2 from hq.nn)];unfold crQ;rw[I2,I2,YP];show sg (0+of 1*(v2 (rcX p v).1 (rcX p v).2 p.2.2.2.2*v2 (rcY q v).1 (rcY q v).2 q.2.2.2.2)+of (-1)*(v2 (rcY p v).1 (rcY p v).2 p.2.2.2.2*v2 (rcX q v).1 (rcX q v).2 q.2.2.2.2))=_;rw[Cs,Cs,AS,AS];exact congrArg sg (akF _ _)
def apaS(p q:PE)(r:Rat):Int:=sg (dsE p q-of (r*r))
theorem apQ_re{p q:Pt}[hp:Rpd p][hq:Rpd q](r:Rat):sgQ (apQ p q r)=apaS (pR p) (pR q) r:=by
 rw[oS (q:=apQ p q r) (show 0≤p.2.2.2.2 from hp.nn) (show 0≤q.2.2.2.2 from hq.nn)]
 have e1:vq (doQ z2 p q)=0+ -2*((pX p-0)*(pX q-0))+ -2*((pY p-0)*(pY q-0)):=by
  unfold doQ;rw[I2,I2,YP];show 0+of (-2)*(v2 (rcX p z2).1 (rcX p z2).2 p.2.2.2.2*v2 (rcX q z2).1 (rcX q z2).2 q.2.2.2.2)+of (-2)*(v2 (rcY p z2).1 (rcY p z2).2 p.2.2.2.2*v2 (rcY q z2).1 (rcY q z2).2 q.2.2.2.2)=_;rw[Cs,Cs,AS,AS];rfl
 have e2:∀{p:Pt},Rpd p→v2 (sqA p z2) (sqB p z2) p.2.2.2.2=(pX p-0)*(pX p-0)+(pY p-0)*(pY p-0):=fun{p} h=>by
  have:=Bk (p:=p) (v:=z2);unfold sqP at this;rw[vR_co]at this;exact this
 have e3:vq (apQ p q r)=vq (doQ z2 p q)+v2 (sqA p z2) (sqB p z2) p.2.2.2.2+v2 (sqA q z2) (sqB q z2) q.2.2.2.2-of (r*r):=by
  unfold vq vQ apQ v2;dsimp only;rw[of_sub,of_add,of_add,of_add,of_add];exact V8 _ _ _ _ _ _ _ _ _ _ _
 rw[e3,e1,e2 hp,e2 hq,aiw];rfl
def TZ(c:Cv)(p:PE)(r:Rat):Int:=min (apaS (pR (frC c)) p r) (apaS (pR (toC c)) p r)
def rngS(d:RE)(q r:Rat):Int:=bif decide (0≤sg (d-v2 (q+r*r) (r+r) q))then sg (d-v2 (q+r*r) (r+r) q)else bif decide (aD q (r*r)≤0)then-1 else-(sg (d-v2 (q+r*r) (-(r+r)) q))
def witE(c:Cv)(p:PE):Bool:=n4 (frm (ciC c) (pR (ccF c))) (frm (ciC c) (pR (ccT c))) (frm (ciC c) p)
open Classical in
def besE(c:Cv)(p:PE):Bool:=decide (btE (tE (lnC c) (pR (frC c))) (tE (lnC c) (pR (toC c))) (tE (lnC c) p))
open Classical in
def poiE(c:Cv)(p:PE)(r:Rat):Int:=
 bif decide (r<0)then 1 else
 bif c.1 then(bif decide (p=vE (ctr (ciC c)))then aD (ciC c).2.2 (r*r)else bif witE c p then rngS (dsE p (vE (ctr (ciC c)))) (ciC c).2.2 r else TZ c p r)
 else bif besE c p then sg (exE (lnC c) p*exE (lnC c) p-of (r*r*((lnC c).1*(lnC c).1+(lnC c).2.1*(lnC c).2.1)))else TZ c p r
def mvLn(l:Ln)(v:Rat×Rat):Ln:=(l.1,l.2.1,l.2.2+(l.1*v.1+l.2.1*v.2))
def mvCi(c:Ln)(v:Rat×Rat):Ln:=(c.1+v.1,c.2.1+v.2,c.2.2)
theorem pV{x y:RE}(h:x≤y):sg x≤sg y:=by
 rcases bh x with⟨a,e⟩|⟨a,e⟩|⟨a,e⟩<;>rcases bh y with⟨b,f⟩|⟨b,f⟩|⟨b,f⟩<;>rw[e,f]<;>try decide
 ·exfalso;rw[b]at h;exact h a
 ·exact absurd (cO b a) h
 ·exfalso;rw[a]at h;exact h b
theorem QR(a b t:RE):min (sg (a-t)) (sg (b-t))=sg (mnE a b-t):=by
 unfold mnE;by_cases e:b<a
 ·rw[am7 e];exact Int.min_eq_right (pV (sU _ _ _ (le_of_lt e)))
 ·rw[am0 e];exact Int.min_eq_left (pV (sU _ _ _ ((lt_or_ge b a).resolve_left e)))
theorem N8{c:Cv}(hf:Rpd (frC c))(ht:Rpd (toC c))(v:Rat×Rat)(r:Rat):TZ c (vE v) r=sg (vR (yV c v)-of (r*r)):=by
 rw[QL hf ht];exact QR _ _ _
theorem mK{n:RE}(h:0<n)(x:RE):sg (n*x)=sg x:=by rw[dQ,dM h,anW]
theorem uH{a b:Rat}(ha:0≤a)(hb:0≤b):rq (a*b)=rq a*rq b:=D1 _ _ (eO _) (bg (eO _) (eO _)) (by rw[cQ (amU ha hb),aJ,VF,cQ ha,cQ hb])
theorem Ic{u t:RE}{q r:Rat}(hu:0<u)(hq:0<q)(ht:t=rq q)(hr:0≤r):rngS (u*u) q r=sg (u*u+of q-(u*t+u*t)-of (r*r)):=by
 have hr':0≤of r:=fu.2 hr;have tt:t*t=of q:=by rw[ht];exact cQ (by grind)
 have tp:0<t:=by rw[ht];exact HN hq
 have e1:v2 (q+r*r) (r+r) q=(t+of r)*(t+of r):=by
  unfold v2;rw[←ht,of_add,aJ,of_add,af3,tt,sub_self,add_zero]
 have e2:v2 (q+r*r) (-(r+r)) q=(t-of r)*(t-of r):=by
  unfold v2;rw[←ht,of_add,aJ,of_neg,of_add,aca,tt,sub_self,add_zero]
 have f1:sg (u*u-v2 (q+r*r) (r+r) q)=sg (u-(t+of r)):=by
  rw[e1,Nj,mul_comm,mK (ahd _ _ _ hu tp hr')]
 have f2:of r<t→sg (u*u-v2 (q+r*r) (-(r+r)) q)=sg (u-(t-of r)):=fun g=>by
  rw[e2,Nj,mul_comm,mK (alz _ _ _ hu g)]
 have fin:sg (u*u+of q-(u*t+u*t)-of (r*r))=sg (u-(t+of r))*sg (u-(t-of r)):=by
  rw[←tt,aJ,acI,dQ]
 unfold rngS;rw[f1,fin];rcases bh (u-(t+of r))with⟨a,e⟩|⟨a,e⟩|⟨a,e⟩
 ·rw[e,dM (alr _ _ _ a hr')];rfl
 ·rw[e];show(0:Int)=0*_;rw[apx]
 ·rw[e];show(bif decide (aD q (r*r)≤0)then-1 else _)=_
  have cq:decide (aD q (r*r)≤0)=decide (q≤r*r):=by
   rw[wE]
  rw[cq];by_cases g:q≤r*r
  ·have tr:t≤of r:=t7 _ _ (le_of_lt tp) hr' (by rw[tt,←aJ];exact fu.2 g);rw[amE g,dM (alu _ _ _ hu tr)];rfl
  ·have tr:of r<t:=by
    rcases lt_or_ge (of r) t with k|k
    ·exact k
    ·exfalso;have:=Mc _ _ k (le_of_lt tp);rw[tt,←aJ]at this;exact g (fu.1 this)
   rw[amG g,f2 tr];show-(sg _)= -1*sg _;omega
open Classical in
theorem Wn{c:Cv}(h:GdE c){v:Rat×Rat}(hd:Rdd (ow c v))(r:Rat):poiE c (vE v) r=qY c v r:=by
 have hf:=h.f;have ht:=h.t;unfold poiE qY;by_cases hr:r<0
 ·rw[amE hr];rfl
 ·rw[amG hr,cond_false,cond_false,cmpTR_re hd.nn];have hr0:0≤r:=by grind
  cases ha:c.1
  ·rw[cond_false];have hl:=(h.l ha).1;have hn:0<nrE (lnC c):=Gv hl
   have hb:besE c (vE v)=ti c (atP v):=by
    have:=CJ (c:=c) (p:=atP v);rw[oD]at this;unfold besE;rw[aoC,anJ];exact this.symm
   unfold ow;rw[hb,ha,cond_false];cases ti c (atP v)
   ·exact N8 hf ht v r
   ·rw[cond_true,cond_true];have h1:1/((lnC c).1*(lnC c).1+(lnC c).2.1*(lnC c).2.1)*((lnC c).1*(lnC c).1+(lnC c).2.1*(lnC c).2.1)=1:=anf (lI hl)
    have en:nrE (lnC c)=of ((lnC c).1*(lnC c).1+(lnC c).2.1*(lnC c).2.1):=by
     rw[of_add,aJ,aJ];rfl
    have ek:nrE (lnC c)*of (1/((lnC c).1*(lnC c).1+(lnC c).2.1*(lnC c).2.1))=1:=by
     rw[en,mul_comm,←aJ,h1];rfl
    have e2:vR (aY (bi v (dp (lnC c) v)) (bi v (dp (lnC c) v)),0,0)=of (aY (bi v (dp (lnC c) v)) (bi v (dp (lnC c) v))):=dv _ _;rw[e2,Su hl,aJ (r*r) ((lnC c).1*(lnC c).1+(lnC c).2.1*(lnC c).2.1),←en,aJ _ (1/((lnC c).1*(lnC c).1+(lnC c).2.1*(lnC c).2.1)),aJ ((lnC c).1*v.1+(lnC c).2.1*v.2-(lnC c).2.2),←acE,←mK hn (_-of (r*r)),Ms,ek];refine congrArg sg ?_;rw[mul_one]
  ·rw[cond_true];have hq:=(h.q ha).1
   have cz:vE v=vE (ctr (ciC c))↔zeV (bW c v)=true:=by
    unfold zeV bW bi vE;rw[amP,anJ,anJ];constructor
    ·intro e;have e1:=xU (congrArg Prod.fst e);have e2:=xU (congrArg Prod.snd e);dsimp only;rw[e1,e2];exact⟨by grind,by grind⟩
    ·intro ⟨e1,e2⟩;dsimp only at e1 e2;rw[show v.1=(ctr (ciC c)).1 by grind,show v.2=(ctr (ciC c)).2 by grind]
   unfold ow;rw[ha,cond_true];cases hz:zeV (bW c v)
   ·rw[amG (fun e=>by rw[cz.1 e]at hz;cases hz),cond_false]
    have hw:witE c (vE v)=co c (bW c v):=by
     rw[(Ub h ha hz).2];show _=n4 _ _ (vE (bi (ctr (ciC c)) v));rw[←aaJ];rfl
    rw[hw];cases co c (bW c v)
    ·exact N8 hf ht v r
    ·rw[cond_true,cond_true,vR_mk]
     have dps:0<aY (bW c v) (bW c v):=by
      have:=uK hz;have:=jT (bW c v);grind
     have es:dsE (vE v) (vE (ctr (ciC c)))=of (aY (bW c v) (bW c v)):=by
      unfold dsE vE aY bW bi;rw[of_add,aJ,aJ,of_sub,of_sub]
     have su:=cQ (show 0≤aY (bW c v) (bW c v) by grind);rw[es,←su,Ic (HN dps) hq rfl hr0];unfold v2;have two:of (-2)= -2:=rfl;rw[two,aiA,of_add,←su,uH (by grind) (by grind)]
   ·rw[amE (cz.2 hz),cond_true]
    have tw:co c (bW c v)=true:=by
     unfold co;rw[ha,hz];rfl
    have dz:aY (bW c v) (bW c v)=0:=by
     unfold zeV at hz;obtain⟨a,b⟩:=amP.1 hz;unfold aY;rw[amH a,amH b];decide+kernel
    rw[tw,cond_true,vR_mk,dz,Rat.zero_mul,Rat.zero_add];unfold v2;rw[HQ,mul_zero,add_zero,←of_sub,sg_of,tC]
end RE
end
section
namespace RE
theorem Q0{c:Cv}(ha:c.1=false):onE c=oE (lnC c) (pR (frC c)) (pR (toC c)):=by funext p;unfold onE;rw[ha];rfl
theorem L6{c:Cv}(ha:c.1=true):onE c=arcE (ciC c) (pR (ccF c)) (pR (ccT c)):=by funext p;unfold onE;rw[am7 ha]
structure aly (c:Cv):Prop where
 q:0<(ciC c).2.2
 u:iM (ciC c) (pR (ccF c))
 w:iM (ciC c) (pR (ccT c))
 ne:frm (ciC c) (pR (ccF c))≠frm (ciC c) (pR (ccT c))
theorem age{c:Cv}(h:GdE c)(ha:c.1=true):aly c:=by
 have hf:=h.f;have ht:=h.t;obtain⟨hq,oF,oT⟩:=h.q ha;have oF:iM (ciC c) (pR (frC c)):=oF;have oT:iM (ciC c) (pR (toC c)):=oT;refine⟨hq,by rcases yq c with⟨e,_⟩|⟨e,_⟩<;>rw[e]<;>assumption,by rcases yq c with⟨_,e⟩|⟨_,e⟩<;>rw[e]<;>assumption,fun e=>?_⟩;have e1:pR (ccF c)=pR (ccT c):=aoE (jI _ _ _ (congrArg Prod.fst e)) (jI _ _ _ (congrArg Prod.snd e));rcases yq c with⟨g1,g2⟩|⟨g1,g2⟩<;>rw[g1,g2]at e1
 ·exact h.ne e1
 ·exact h.ne e1.symm
theorem GD(c:Ln)(p:PE):dtE (frm c p) (frm c p)=dsE p (vE (ctr c)):=rfl
theorem agR(p q:PE):0≤dsE p q:=by
 have h1:=gh (p.1-q.1);have h2:=gh (p.2-q.2);unfold dsE;grind
theorem acw{c:Ln}(hq:0<c.2.2){p:PE}(hp:p≠vE (ctr c)):∃u k q,0<u∧0<k∧u*u=dsE p (vE (ctr c))∧frm c q=((frm c p).1*k,(frm c p).2*k)∧iM c q∧dtE (frm c q) (frm c p)=u*rq c.2.2:=by
 have hn:=agR p (vE (ctr c))
 have h0:dsE p (vE (ctr c))≠0:=fun e=>by
  obtain⟨a,b⟩:=we e;exact hp (aoE (by grind) (by grind))
 have hu:=sY hn;have hu0:=jF (dsE p (vE (ctr c)));generalize vF (dsE p (vE (ctr c)))=u at hu hu0
 have up:0<u:=by
  rcases fU hu0 with h|h
  ·exact h
  ·exact absurd (by rw[←hu,h,zero_mul]) h0
 obtain⟨k,kp,ek⟩:=Pp up;have tp:=HN hq;have tt:=cQ (m:=c.2.2) (by grind);have hd:dtE (frm c p) (frm c p)=u*u:=by rw[GD,hu]
 unfold dtE at hd;refine⟨u,rq c.2.2*k,((frm c p).1*(rq c.2.2*k)+of c.1,(frm c p).2*(rq c.2.2*k)+of c.2.1),up,mul_pos tp kp,hu,?_,?_,?_⟩
 ·exact aoE (by show _+_-_=_;grind) (by show _+_-_=_;grind)
 ·show(_+_-_)*(_+_-_)+(_+_-_)*(_+_-_)=_;generalize (frm c p).1=a at hd ⊢;generalize (frm c p).2=b at hd ⊢;generalize rq c.2.2=t at tt ⊢;have:(a*(t*k))*(a*(t*k))+(b*(t*k))*(b*(t*k))=(a*a+b*b)*(k*k)*(t*t):=by grind
  have e2:u*u*(k*k)=1:=by
   have:u*u*(k*k)=(u*k)*(u*k):=by grind
   rw[this,ek,one_mul]
  rw[hd,e2,tt]at this;grind
 ·show(_+_-_)*_+(_+_-_)*_=_;generalize (frm c p).1=a at hd ⊢;generalize (frm c p).2=b at hd ⊢;generalize rq c.2.2=t at tt ⊢;have:(a*(t*k))*a+(b*(t*k))*b=(a*a+b*b)*(k*t):=by grind
  have e2:u*u*(k*t)=u*t*(u*k):=by grind
  rw[hd,e2,ek]at this;grind
theorem ajp{c:Ln}{q p:PE}{u:RE}(hq:0≤c.2.2)(o:iM c q)(hu:0≤u)(e:u*u=dsE p (vE (ctr c))):dtE (frm c q) (frm c p)≤u*rq c.2.2:=by
 have h1:=GI (frm c q).1 (frm c q).2 (frm c p).1 (frm c p).2;have h2:(frm c q).1*(frm c q).1+(frm c q).2*(frm c q).2=of c.2.2:=o;have h3:(frm c p).1*(frm c p).1+(frm c p).2*(frm c p).2=u*u:=by rw[e];rfl
 have tt:=cQ hq;have t0:=eO c.2.2;rw[h2,h3,←tt]at h1;have h4:=Mf _ _ _ h1;rcases lt_or_ge 0 (dtE (frm c q) (frm c p))with g|g
 ·exact t7 _ _ (le_of_lt g) (bg hu t0) (by
   show dtE _ _*dtE _ _≤_;unfold dtE;grind)
 ·exact ajj _ _ g (bg hu t0)
open Classical in
theorem Sg{c:Cv}(h:GdE c)(p:PE):∃m,Mn (onE c) p m∧∀r:Rat,0≤r→poiE c p r=sg (m-of (r*r)):=by
 have hf:=h.f;have ht:=h.t;have hend:∀r,TZ c p r=sg (mnE (dsE (pR (frC c)) p) (dsE (pR (toC c)) p)-of (r*r)):=fun r=>QR _ _ _;cases ha:c.1
 ·obtain⟨hl,oF,oT⟩:=h.l ha;have hn:0<nrE (lnC c):=Gv hl;rw[Q0 ha];by_cases hb:btE (tE (lnC c) (pR (frC c))) (tE (lnC c) (pR (toC c))) (tE (lnC c) p)
  ·obtain⟨k,kp,ek⟩:=Pp hn;refine⟨_,BG hn hb kp ek,fun r hr=>?_⟩;unfold poiE besE;rw[dF (show ¬r<0 by grind),dT hb,ha];show sg _=_;rw[←mK hn (_-of (r*r)),aJ (r*r),Ms,ek,mul_one];rfl
  ·refine⟨_,V7 hn oF oT hb,fun r hr=>?_⟩;unfold poiE besE;rw[dF (show ¬r<0 by grind),dF hb,ha];exact hend r
 ·have g:=age h ha;have hq:=g.q;rw[L6 ha];by_cases hz:p=vE (ctr (ciC c))
  ·refine⟨of (ciC c).2.2,⟨⟨_,⟨g.u,(oC _ _).1⟩,by rw[hz];exact g.u⟩,fun q hq=>by rw[hz];exact ls hq.1⟩,fun r hr=>?_⟩;unfold poiE;rw[dF (show ¬r<0 by grind),dT hz,ha];show aD _ _=_;rw[←of_sub,sg_of];unfold aD;grind
  ·obtain⟨u,k,q,up,kp,eu,eq,oq,dq⟩:=acw hq hz;have tt:=cQ (m:=(ciC c).2.2) (by grind);cases hw:witE c p
   ·refine⟨mnE (dsE (pR (frC c)) p) (dsE (pR (toC c)) p),?_,fun r hr=>?_⟩
    ·have hd:¬n4 (frm (ciC c) (pR (ccF c))) (frm (ciC c) (pR (ccT c))) (frm (ciC c) p)=true:=fun e=>by
      unfold witE at hw;rw[e]at hw;cases hw
     have res:=HB (v:=p) (S:=arcE (ciC c) (pR (ccF c)) (pR (ccT c))) ⟨g.u,(oC _ _).1⟩ ⟨g.w,(oC _ _).2⟩ (fun x hx=>(VQ g.u g.w hx.1 g.ne hx.2 hd).imp (R5 hx.1 g.u) (R5 hx.1 g.w));rcases yq c with⟨g1,g2⟩|⟨g1,g2⟩
     ·rw[g1,g2]at res ⊢;exact res
     ·rw[g1,g2]at res ⊢;rw[L8];exact res
    ·unfold poiE;rw[dF (show ¬r<0 by grind),dF hz,ha,hw];exact hend r
   ·refine⟨u*u+of (ciC c).2.2-(u*rq (ciC c).2.2+u*rq (ciC c).2.2),⟨⟨q,⟨oq,?_⟩,?_⟩,fun x hx=>?_⟩,fun r hr=>?_⟩
    ·rw[eq,zL _ _ _ kp];exact hw
    ·rw[yD oq,dq,GD,←eu,add_comm (of _)]
    ·rw[yD hx.1,GD,←eu,add_comm (of (ciC c).2.2)];exact WM _ _ _ _ (ajp (by grind) hx.1 (le_of_lt up) eu)
    ·unfold poiE;rw[dF (show ¬r<0 by grind),dF hz,ha,hw,←Ic up hq rfl hr,eu];rfl
end RE
end
section
def vO(x u y v k:Rat):Pt:=mkP (mkR x u k) (mkR y v k)
def ftL(l c:Ln):Rat×Rat:=(ftX l c,ftY l c)
def BK(l c:Ln):Rat:=(ftX l c-c.1)*(ftX l c-c.1)+(ftY l c-c.2.1)*(ftY l c-c.2.1)
def fZ(l c:Ln):Rat:=(c.2.2-BK l c)/cN l
def KF(l:Ln):Bool:=decide (l.2.1<0)||(decide (l.2.1=0)&&decide (-l.1<0))
def uq(l:Ln):Rat:=bif KF l then-l.2.1 else l.2.1
def vf(l:Ln):Rat:=bif KF l then- -l.1 else-l.1
def lcM(l c:Ln):Pt:=vO (ftX l c) (-uq l) (ftY l c) (-vf l) (fZ l c)
def lcN(l c:Ln):Pt:=vO (ftX l c) (uq l) (ftY l c) (vf l) (fZ l c)
def lU(l c:Ln):List Pt:=bif decide (fZ l c<0)then []else bif decide (fZ l c=0)then [atP (ftL l c)]else [lcM l c,lcN l c]
def Sm(l m:Ln):Int:=bif !decide (fc l m=0)then 0 else bif qH l m then 10 else 0
def vM(c d:Ln):List Pt:=bif iO c d then []else lU (ou c d) c
def Tx(c d:Ln):Int:=bif t9 c d then 10 else 0
def il(a b:Cv):List Pt:=bif a.1&&b.1 then vM (ciC a) (ciC b)else bif a.1 then lU (lnC b) (ciC a)else bif b.1 then lU (lnC a) (ciC b)else qM (lnC a) (lnC b)
def ahu(a b:Cv):Int:=bif a.1&&b.1 then Tx (ciC a) (ciC b)else bif a.1 then 0 else bif b.1 then 0 else Sm (lnC a) (lnC b)
theorem UZ(l c:Ln):dp l (c.1,c.2.1)=ftL l c:=rfl
theorem NF{x u y v k:Rat}[h:Nn k]:Rpd (vO x u y v k):=XE pO pO (nJ _ _ _ _ _)
section
variable {l c:Ln}
theorem abw [BdL l]:Bd (uq l) 12∧Bd (vf l) 12:=by
 unfold uq vf;cases KF l
 ·exact⟨(inferInstance:Bd l.2.1 12),(inferInstance:Bd (-l.1) 12)⟩
 ·exact⟨(inferInstance:Bd (-l.2.1) 12),(inferInstance:Bd (- -l.1) 12)⟩
end
theorem MK{x u y v k:Rat}{a b c:Nat}(h1:Bd x a)(h2:Bd u b)(h3:Bd y a)(h4:Bd v b)(h5:Bd k c){n:Nat}(hn:a+(b+c)+1≤n):Bd (vO x u y v k) n:=by
 have z:bdR n 0:=bJ lD.le (by omega);have i1:Bd (mkR x u k) (a+(b+c)+1):=inferInstance;have i2:Bd (mkR y v k) (a+(b+c)+1):=inferInstance;have f1:=i1.mono hn;have f2:=i2.mono hn;refine⟨?_⟩;unfold vO mkP rdP;dsimp only;refine⟨f1.le.1,f1.le.2.1,f2.le.1,f2.le.2.1,?_⟩;cases decide ((mkR x u k).2.1=0)&&decide ((mkR y v k).2.1=0)
 ·cases decide ((mkR x u k).2.1=0)
  ·exact f1.le.2.2
  ·exact f2.le.2.2
 ·exact z
section
variable {l c:Ln}
theorem OH [BdL l][h:BdC c]:Bd (fZ l c) 1000:=by
 obtain⟨f1,f2,_,_⟩:=uS (l:=l) (c:=c);have hx:=h.x;have hy:=h.y;have hq:=h.q;have i1:Bd (cN l) 49:=inferInstanceAs (Bd (l.1*l.1+l.2.1*l.2.1) _);have i2:Bd (BK l c) 673:=(inferInstance:Bd ((ftX l c-c.1)*(ftX l c-c.1)+(ftY l c-c.2.1)*(ftY l c-c.2.1)) _).mono (by decide);exact(inferInstance:Bd ((c.2.2-BK l c)/cN l) _).mono (by decide)
theorem E5 [BdL l][h:BdC c]:Bd (ftL l c) 163:=by
 obtain⟨f1,f2,_,_⟩:=uS (l:=l) (c:=c);exact(inferInstance:Bd ((ftX l c,ftY l c):Rat×Rat) _).mono (by decide)
theorem aeq [BdL l][BdC c]:Bd (lcM l c) 1200∧Bd (lcN l c) 1200:=by
 obtain⟨f1,f2,_,_⟩:=uS (l:=l) (c:=c);obtain⟨d1,d2⟩:=abw (l:=l);have k:=OH (l:=l) (c:=c);have n1:Bd (-uq l) 12:=inferInstance;have n2:Bd (-vf l) 12:=inferInstance;exact⟨MK f1 n1 f2 n2 k (by decide),MK f1 d1 f2 d2 k (by decide)⟩
theorem tv [BdL l][BdC c]:(lU l c).length≤2∧∀p∈lU l c,Bd p 1200∧Rpd p:=by
 unfold lU;by_cases h0:fZ l c<0
 ·rw[amE h0];exact⟨by simp,fun p hp=>by cases hp⟩
 ·rw[amG h0];by_cases h1:fZ l c=0
  ·rw[amE h1];have:=E5 (l:=l) (c:=c);refine⟨by simp,fun p hp=>?_⟩;have:p=atP (ftL l c):=by simpa using hp
   rw[this];exact⟨(inferInstance:Bd (atP (ftL l c)) _).mono (by decide),inferInstance⟩
  ·rw[amG h1];obtain⟨q1,q2⟩:=aeq (l:=l) (c:=c);have nn:Nn (fZ l c):=⟨by grind⟩
   refine⟨by simp,fun p hp=>?_⟩;have:p=lcM l c∨p=lcN l c:=by simpa using hp
   rcases this with e|e<;>rw[e]
   ·exact⟨q1,NF⟩
   ·exact⟨q2,NF⟩
end
end
section
namespace RE
theorem alC(A B x y u v s:RE):A*(x+u*s)+B*(y+v*s)=(A*x+B*y)+(A*u+B*v)*s:=by grind
theorem alI(x y u v s p q:RE):(x+u*s-p)*(x+u*s-p)+(y+v*s-q)*(y+v*s-q)=((x-p)*(x-p)+(y-q)*(y-q))+((x-p)*u+(y-q)*v)*s+((x-p)*u+(y-q)*v)*s+(u*u+v*v)*(s*s):=by grind
theorem amc(b n r:RE):b*(r*n)=b*n*r:=by grind
theorem al6(r n:RE):r*n*(r*n)=r*r*(n*n):=by grind
theorem alG(x y p q a b m n:RE):(x-a)*(x-a)+(y-b)*(y-b)=((x-p)*(x-p)+(y-q)*(y-q))+(a*a+b*b-m)-(p*p+q*q-n)-((1+1)*(a-p)*x+(1+1)*(b-q)*y)+(m-n):=by grind
theorem akt(a b n m:RE):n+a-b-(a-b)+(m-n)=m:=by grind
theorem Ch(x u y v k:Rat):pR (vO x u y v k)=(v2 x u k,v2 y v k):=by
 unfold vO;rw[Zd (nJ _ _ _ _ _),vR_mk,vR_mk]
section
variable {l c:Ln}
theorem HP(hl:l.1≠0∨l.2.1≠0):0<cN l:=by
 have h:=pq hl;have h1:0≤cN l:=jT (l.1,l.2.1);grind
theorem Hh(hl:l.1≠0∨l.2.1≠0):fZ l c*(cN l*cN l)=jw l c:=by
 have hn:=pq hl;have t:vlL l c.1 c.2.1/cN l*cN l=vlL l c.1 c.2.1:=anf hn;have k:(c.2.2-BK l c)/cN l*cN l=c.2.2-BK l c:=anf hn;unfold fZ;rw[←Rat.mul_assoc,k];unfold BK ftX ftY jw;generalize vlL l c.1 c.2.1/cN l=s at*;rw[←t];unfold cN;grind
theorem adz(hl:l.1≠0∨l.2.1≠0):(fZ l c<0↔jw l c<0)∧(fZ l c=0↔jw l c=0):=by
 have hn:=HP hl;have h2:0<cN l*cN l:=am6 hn hn;have e:=Hh (c:=c) hl;rcases(by grind:fZ l c<0∨fZ l c=0∨0<fZ l c)with h|h|h
 ·have:=am6 (show 0< -fZ l c by grind) h2;have e2: -fZ l c*(cN l*cN l)= -jw l c:=by rw[Rat.neg_mul,e]
  rw[e2]at this;constructor<;>constructor<;>intro<;>grind
 ·rw[h,Rat.zero_mul]at e;constructor<;>constructor<;>intro<;>grind
 ·have:=am6 h h2;rw[e]at this;constructor<;>constructor<;>intro<;>grind
theorem aa4(hl:l.1≠0∨l.2.1≠0)(h0:0≤fZ l c):rq (jw l c)=rq (fZ l c)*of (cN l):=by
 have hn:=HP hl
 have hr:0≤jw l c:=by
  rw[←Hh hl];exact amU h0 (amU (by grind) (by grind))
 refine D1 _ _ (eO _) (bg (eO _) (fu.2 (by grind))) ?_;rw[al6,cQ hr,cQ h0,←aJ,←aJ,Hh hl]
theorem Ce(hl:l.1≠0∨l.2.1≠0)(h0:0≤fZ l c)(a b:Rat):v2 a b (fZ l c)=v2 a (b/cN l) (jw l c):=by
 unfold v2;rw[aa4 hl h0,amc,←aJ,anf (pq hl)]
theorem ndv(a b:Rat): -a/b= -(a/b):=by rw[aph,aph,Rat.neg_mul]
theorem E7(hl:l.1≠0∨l.2.1≠0)(v:PE):(∃p∈lU l c,pR p=v)↔∃p∈rT l c,pR p=v:=by
 obtain⟨s1,s2⟩:=adz (c:=c) hl;unfold lU rT;by_cases h0:fZ l c<0
 ·rw[amE h0,amE (s1.1 h0)];exact Iff.rfl
 ·rw[amG h0,amG (fun h=>h0 (s1.2 h))];by_cases h1:fZ l c=0
  ·rw[amE h1,amE (s2.1 h1)];exact Iff.rfl
  ·rw[amG h1,amG (fun h=>h1 (s2.2 h))];have hp:0≤fZ l c:=by grind
   have e:(pR (lcM l c)=pR (sJ l c)∧pR (lcN l c)=pR (sQ l c))∨(pR (lcM l c)=pR (sQ l c)∧pR (lcN l c)=pR (sJ l c)):=by
    unfold lcM lcN sJ sQ;rw[Ch,Ch,uL,uL,Ce hl hp,Ce hl hp,Ce hl hp,Ce hl hp];unfold uq vf;cases KF l
    ·left;simp only[cond_false,ndv,Rat.neg_neg,and_self]
    ·right;simp only[cond_true,ndv,Rat.neg_neg,and_self]
   have m2:∀{a b:Pt},(∃p∈[a,b],pR p=v)↔(pR a=v∨pR b=v):=fun{a b}=>by simp
   simp only[cond_false];cases decide (aX (sJ l c) (sQ l c)>0)
   ·simp only[cond_false];rw[m2,m2];rcases e with⟨e1,e2⟩|⟨e1,e2⟩<;>rw[e1,e2];exact Or.comm
   ·simp only[cond_true];rw[m2,m2];rcases e with⟨e1,e2⟩|⟨e1,e2⟩<;>rw[e1,e2];exact Or.comm
theorem Gt(hl:l.1≠0∨l.2.1≠0){u v k:Rat}(hk:0≤k)(h1:l.1*u+l.2.1*v=0)(h2:BK l c+(u*u+v*v)*k=c.2.2):j9 l (v2 (ftX l c) u k,v2 (ftY l c) v k)∧iM c (v2 (ftX l c) u k,v2 (ftY l c) v k):=by
 have hn:=pq hl;have t:vlL l c.1 c.2.1/cN l*cN l=vlL l c.1 c.2.1:=anf hn
 have e1:l.1*ftX l c+l.2.1*ftY l c=l.2.2:=by
  unfold ftX ftY;generalize vlL l c.1 c.2.1/cN l=s at*;unfold cN vlL at t;grind
 have e3:(ftX l c-c.1)*u+(ftY l c-c.2.1)*v=0:=by
  unfold ftX ftY;generalize vlL l c.1 c.2.1/cN l=s at*;have:(c.1-s*l.1-c.1)*u+(c.2.1-s*l.2.1-c.2.1)*v= -s*(l.1*u+l.2.1*v):=by grind
  rw[this,h1,Rat.mul_zero]
 unfold j9 iM frm v2;dsimp only;constructor
 ·rw[alC,←aJ,←aJ,←aJ,←aJ,←of_add,←of_add,e1,h1,ta,zero_mul,add_zero]
 ·rw[alI,cQ hk,←of_sub,←of_sub,←aJ,←aJ,←aJ,←aJ,←aJ,←aJ,←of_add,←of_add,←of_add,e3,ta,zero_mul,add_zero,add_zero,←aJ,←of_add];exact congrArg of h2
theorem abx(_hl:l.1≠0∨l.2.1≠0):l.1*uq l+l.2.1*vf l=0∧uq l*uq l+vf l*vf l=cN l:=by
 unfold uq vf cN;cases KF l
 ·simp only[cond_false];constructor<;>grind
 ·simp only[cond_true];constructor<;>grind
theorem OY(hl:l.1≠0∨l.2.1≠0){p:Pt}(hp:p∈lU l c):j9 l (pR p)∧iM c (pR p):=by
 have hn:=pq hl;have k:fZ l c*cN l=c.2.2-BK l c:=anf hn;obtain⟨d1,d2⟩:=abx hl;unfold lU at hp;by_cases h0:fZ l c<0
 ·rw[amE h0]at hp;cases hp
 ·rw[amG h0]at hp;by_cases h1:fZ l c=0
  ·rw[amE h1]at hp;have:p=atP (ftL l c):=by simpa using hp
   rw[this,oD];have:=Gt (c:=c) (u:=0) (v:=0) (k:=0) hl (by decide) (by grind) (by rw[h1]at k;grind);rw[dv,dv]at this;exact this
  ·rw[amG h1]at hp;have hk:0≤fZ l c:=by grind
   have:p=lcM l c∨p=lcN l c:=by simpa using hp
   rcases this with e|e
   ·rw[e];unfold lcM;rw[Ch];refine Gt hl hk (by grind) ?_;rw[show-uq l* -uq l+ -vf l* -vf l=cN l by rw[←d2];grind,aoL,k];grind
   ·rw[e];unfold lcN;rw[Ch];refine Gt hl hk d1 ?_;rw[d2,aoL,k];grind
end
theorem adF{c d:Ln}{v:PE}(hl:j9 (ou c d) v)(hc:iM c v):iM d v:=by
 unfold j9 ou rm at hl;unfold iM frm at*;dsimp only at*
 have o2:of 2=1+1:=by
  rw[←Md,←of_add];exact congrArg of (by decide+kernel)
 rw[alG v.1 v.2 (of c.1) (of c.2.1) (of d.1) (of d.2.1) (of d.2.2) (of c.2.2),hc];simp only[of_sub,aJ,of_add,o2]at hl;rw[hl,akt]
theorem acf{l m:Ln}{p:Pt}(hp:p∈qM l m):j9 l (pR p)∧j9 m (pR p):=by
 unfold qM at hp;by_cases h0:fc l m=0
 ·rw[amE h0]at hp;cases hp
 ·rw[amG h0]at hp;have:p=atP (oI l m/fc l m,pC l m/fc l m):=by simpa using hp
  rw[this,oD];have ex:oI l m/fc l m*fc l m=oI l m:=anf h0;have ey:pC l m/fc l m*fc l m=pC l m:=anf h0
  have key:∀a b q:Rat,a*oI l m+b*pC l m=q*fc l m→a*(oI l m/fc l m)+b*(pC l m/fc l m)=q:=fun a b q e=>by
   generalize oI l m/fc l m=x at*;generalize pC l m/fc l m=y at*;rw[←ex,←ey]at e;have:(a*x+b*y-q)*fc l m=0:=by grind
   rcases apk.1 this with h|h
   ·grind
   ·exact absurd h h0
  unfold j9;rw[←aJ,←aJ,←of_add,←aJ,←aJ,←of_add,key l.1 l.2.1 l.2.2 (by unfold oI pC fc;grind),key m.1 m.2.1 m.2.2 (by unfold oI pC fc;grind)];exact⟨rfl,rfl⟩
end RE
end
def lQ(c:BCU)(l:List BCU):List BP:=(l.map (lc c)).flatten
def yU(x:Pce):Prop:=Cr x.1∧Cr x.2.1∧u8P x.2.2
instance (x:Pce):Decidable (yU x):=by unfold yU;infer_instance
def FK(x:Pce):List BCU:=match ofL x.1 with
 |[]=>[]
 |c::_=>ld c (lQ c (ofL x.2.1))
def yL(x:Pce):Bool:=!(ofL x.1).isEmpty
def lY(x:Pce):BCU:=bif yL x then(FK x).getD (x.2.2%((FK x).length:Int)).toNat c00 else c00
def Wx:List En:=[enL aiJ,enL WC,enK ag3]
def Wt:NT:=[((11,18),{keep:=[1,2,4,5,6,7],own:=[(6,37,tP)],hl:=3})]
def GJ:Ctx:=CX (ens Wx) Wt
def sV(x:Pce)(s7:Int)(r2:List BP):Cfg:=⟨11,[.blk 0,.seq 31],[(1,.box 0 0),(2,.box 1 0),(4,.d (.sl tCU) (ofL x.1)),(5,.d (.sl tCU) (ofL x.2.1)),(6,.own 2),(7,SI s7)],[.box 26 [.d (.int .u8) x.1.1,.d (.int .u8) x.1.2.1,.d (.int .i8) x.1.2.2.1,.d (.int .i8) x.1.2.2.2.1,.d (.int .i8) x.1.2.2.2.2.1,.d (.int .i8) x.1.2.2.2.2.2.1,.d (.int .i8) x.1.2.2.2.2.2.2.1,.d (.int .i8) x.1.2.2.2.2.2.2.2,.d (.int .u8) x.2.1.1,.d (.int .u8) x.2.1.2.1,.d (.int .i8) x.2.1.2.2.1,.d (.int .i8) x.2.1.2.2.2.1,.d (.int .i8) x.2.1.2.2.2.2.1,.d (.int .i8) x.2.1.2.2.2.2.2.1,.d (.int .i8) x.2.1.2.2.2.2.2.2.1,.d (.int .i8) x.2.1.2.2.2.2.2.2.2,.d (.int .u8) x.2.2],.box 39 [SB false,SB false,.nil,SB false,.nil,SB false,.nil,SB false,.nil,SB false,.nil,SB false,.nil,SB false,.nil,SB false,.nil,SB false,.nil,SB false,.nil,SB false,.nil,SB false,.nil,SB false,SB false,.nil,SB false,.nil,SB false,.nil,SB false,.nil,SB false,.nil,SB false,.nil,SB false,.nil,SB false,.nil,SB false,.nil,SB false,.nil,SB false,.nil,SB false,.nil,SB false,.nil,SB false,.nil,SB false,.nil,SB false,.nil,SB false,.nil,SB false,.nil,SB false,.nil,SB false,.nil],.row 37 tP r2],0,[]⟩
def Lh(x:Pce)(k:KT):OLR:=og (decide (Cr x.1)) (og (decide (Cr x.2.1)) (match((ofL x.1).length:Int)==0 with|true=>some [RV.d tCU (false,((((false,[]),(false,[])),(((false,[]),(false,[])),((false,[]),(false,[])))),((((false,[]),(false,[])),(((false,[]),(false,[])),((false,[]),(false,[])))),(false,((((false,[]),(false,[])),(((false,[]),(false,[])),(((false,[]),(false,[])),(((false,[]),(false,[])),((false,[]),(false,[])))))),(((false,[]),(false,[])),(((false,[]),(false,[])),(((false,[]),(false,[])),(((false,[]),(false,[])),((false,[]),(false,[]))))))))))),RV.d .bool false]|false=>k 18 (sV x 0 ([]))))
theorem ado(x:Pce):RS GJ 11 [.d xc x] (Lh x):=rsX
def rl(x:Pce)(s7:Int)(r2:List BP)(k:KT):OLR:=match decide (s7<((ofL x.2.1).length:Int))with|true=>(match aS (ofL x.1) 0 with|some x1=>(match aS (ofL x.2.1) s7 with|some x2=>(og (decide (fy x1 x2)) (og (decide ((r2.length+(lc x1 x2).length)*320≤140737488355328∧r2.length+(lc x1 x2).length≤140737488355328)) (k 18 (sV x (i64.wrap (s7+1)) (r2++(lc x1 x2))))))|none=>none)|none=>none)|false=>(match aS (ofL x.1) 0 with|some x1=>(og (decide (FV x1 r2)) (match decide (((ld x1 r2).length:Int)=(0:Int))with|true=>none|false=>(match aS (ld x1 r2) (Int.tmod (i64.wrap x.2.2) ((ld x1 r2).length:Int))with|some x2=>some [RV.d tCU x2,RV.d .bool true]|none=>none)))|none=>none)
theorem yF(x:Pce)(s7:Int)(r2:List BP):RN GJ 18 (sV x s7 r2) (rl x s7 r2):=rnX
theorem Iw{c d:BCU}(h:fy c d):(lc c d).length≤4∧∀x∈lc c d,okP 500 x∧onR (dC c) (dec x)=true∧onR (dC d) (dec x)=true:=by
 obtain⟨h1,h2⟩:=Ay h;unfold lc JT;have h3:=wk (dC c) ((rW c d).filter fun p=>onR (dC c) (dec p)&&onR (dC d) (dec p)) [];have h4:=List.length_filter_le (fun p=>onR (dC c) (dec p)&&onR (dC d) (dec p)) (rW c d)
 refine⟨by
  unfold gF;rw[List.length_nil,ani]at h3;exact amS h3 (amS h4 h1),HS fun x hx=>?_⟩
 obtain⟨g1,g2⟩:=aoD.1 hx;obtain⟨g3,g4⟩:=amP.1 g2;exact⟨h2 x g1,g3,g4⟩
theorem RC(c:Cv)(x:BP):∀r:List BP,r.length≤(fK c r x).length
 |[]=>by simp
 |z::r=>by
  have:=RC c x r;simp only[fK];cases decide (c9 c (dec z) (dec x)<0)
  ·cases aX (dec z) (dec x)==0<;>simp
  ·simp only[cond_true,amV];omega
theorem P2(c:Cv):∀(l out:List BP),out.length≤(l.foldl (fK c) out).length
 |[],_=>amK _
 |x::l,out=>amS (RC c x out) (P2 c l _)
theorem I1(c:BCU):∀s:List BP,(yW c s).length=s.length-1
 |[]=>rfl
 |[_]=>rfl
 |x::y::r=>by
  have:=I1 c (y::r);simp only[yW,amV]at this ⊢;omega
theorem V4{c:BCU}(h:aX (dec c.2.2.2.2.1) (dec c.2.2.2.2.2)≠0)(l:List BP):2≤(vG c l).length:=by
 unfold vG gF;refine amS ?_ (P2 (dC c) l _);simp only[fK];rw[aoA.2 h];cases decide (c9 (dC c) (dec c.2.2.2.2.1) (dec c.2.2.2.2.2)<0)<;>exact amK _
theorem IO{c:BCU}(h:gdN c)(l:List BP):1≤(ld c l).length∧(ld c l).length≤l.length+1:=by
 have h1:=V4 h.2.2.2 l;have h2:=HZ c l;unfold ld;rw[I1];omega
theorem VT{c:BCU}(h:gdN c){l:List BP}(hl:l.length≤900000)(ho:∀p∈l,okP 500 p∧onR (dC c) (dec p)=true):FV c l:=
 ⟨bU h.1.1 (by decide) (by decide),hl,fun x hx=>⟨cD (ho x hx).1 (by decide) (by decide),(ho x hx).2⟩⟩
def gdM(c:BCU):Prop:=mG c∧gi (dC c) (frC (dC c))=true∧gi (dC c) (toC (dC c))=true
theorem gdM.gd{c:BCU}(h:gdM c):gdC c:=⟨h.1.1,h.2.1,h.2.2⟩
theorem gdN.m{c:BCU}(h:gdN c):gdM c:=⟨h.1,h.2.1,h.2.2.1⟩
theorem aes{c:BCU}(h:gdN c){l:List BP}(ho:∀p∈l,okP 500 p∧onR (dC c) (dec p)=true):∀p∈ld c l,gdM p:=by
 intro p hp;obtain⟨x,y,hx,hy,e⟩:=H4 hp
 have f:∀z,z∈vG c l→okP 500 z∧gi (dC c) (dec z)=true:=fun z hz=>by
  rcases Ii hz with e|e|e
  ·rw[e];exact⟨h.1.1.2.2.1,h.2.1⟩
  ·rw[e];exact⟨h.1.1.2.2.2,h.2.2.1⟩
  ·exact⟨(ho z e).1,(amP.1 (ho z e).2).1⟩
 obtain⟨x1,x2⟩:=f x hx;obtain⟨y1,y2⟩:=f y hy;rw[e];exact⟨⟨⟨h.1.1.1,h.1.1.2.1,x1,y1⟩,h.1.2⟩,x2,y2⟩
theorem aci(x:Dr):(ofL x).length≤2:=by
 unfold ofL;cases x.1%3==2
 ·cases x.1%3==1
  ·cases oE (drA x) (drB x) !=0<;>simp
  ·cases arcE (drA x) (drB x) (drC x) !=0<;>simp
 ·cases decide ((drB x).1≤0)
  ·unfold vz;simp
  ·simp
theorem QG{c:BCU}(h:gdN c):∀{l:List BCU},(∀d∈l,gdN d)→(lQ c l).length≤4*l.length∧∀p∈lQ c l,okP 500 p∧onR (dC c) (dec p)=true
 |[],_=>⟨amK _,fun p hp=>by cases hp⟩
 |d::r,hd=>by
  obtain⟨i1,i2⟩:=QG h (l:=r) (fun e he=>hd e (amQ _ he));obtain⟨m1,m2⟩:=Iw (show fy c d from⟨h.1,(hd d (by simp)).1⟩);have e:lQ c (d::r)=lc c d++lQ c r:=rfl;rw[e];refine⟨by rw[ana,amV];omega,fun p hp=>?_⟩;rcases ano.1 hp with g|g
  ·exact⟨(m2 p g).1,(m2 p g).2.1⟩
  ·exact i2 p g
def W5(x:Pce)(l:List BCU):BCU:=l.getD (x.2.2%(l.length:Int)).toNat c00
theorem UX(x:Pce)(h:yU x)(c:BCU)(hc:gdN c)(g0:aS (ofL x.1) 0=some c)(B:List BCU)(hB:ofL x.2.1=B)(gB:∀d∈B,gdN d)(lB:B.length≤2):∀(j i:Nat),i+j=B.length→∀r2:List BP,r2.length≤4*i→(∀p∈r2,okP 500 p∧onR (dC c) (dec p)=true)→
  GJ.Runs 18 (sV x (i:Int) r2) [.d tCU (W5 x (ld c (r2++lQ c (B.drop i)))),.d .bool true]:=by
 intro j;induction j with
 |zero=>
  intro i hi r2 hr ho;refine yF _ _ _ ⟨0,?_⟩;obtain⟨l1,l2⟩:=IO hc r2;have hs:=VT hc (l:=r2) (by omega) ho;obtain⟨u1,u2⟩:=h.2.2
  have e1:Int.tmod (i64.wrap x.2.2) ((ld c r2).length:Int)=x.2.2%((ld c r2).length:Int):=by
   rw[aT (by omega) (by omega),Int.tmod_eq_emod_of_nonneg u1]
  have m0:=anM x.2.2 (show((ld c r2).length:Int)≠0 by omega);have m1:=anl x.2.2 (show 0<((ld c r2).length:Int) by omega);obtain⟨k,hk⟩:=anO m0;have hkl:k<(ld c r2).length:=by omega
  have hd:B.drop i=[]:=List.drop_eq_nil_iff.2 (by omega);have hcut:lQ c []=[]:=rfl;unfold rl;rw[hB,ce (by omega),g0];dsimp only;rw[dT hs,dF (show ¬((ld c r2).length:Int)=0 by omega),e1,hk,av,amF hkl,hd,hcut,am9];unfold W5;rw[hk,aoi,List.getD_eq_getElem?_getD,amF hkl];rfl
 |succ j ih=>
  intro i hi r2 hr ho;have hil:i<B.length:=by omega
  have hm:fy c B[i]:=⟨hc.1,(gB _ (ane hil)).1⟩
  obtain⟨m1,m2⟩:=Iw hm
  obtain⟨n,hn⟩:=ih (i+1) (by omega) (r2++lc c B[i]) (by rw[ana];omega) (fun p hp=>by
   rcases ano.1 hp with g|g
   ·exact ho p g
   ·exact⟨(m2 p g).1,(m2 p g).2.1⟩)
  have hd:B.drop i=B[i]::B.drop (i+1):=amX hil;have hcut:lQ c (B[i]::B.drop (i+1))=lc c B[i]++lQ c (B.drop (i+1)):=rfl;refine yF _ _ _ ⟨n,?_⟩;unfold rl;rw[hB,bI hil,g0,av,amF hil];dsimp only;rw[dT hm,dT (by omega),b8 (by omega),hd,hcut,←am3];exact hn
def abv:Cn 11 [xc]:=cn fun(x:Pce)=>lf (yU x) [.d tCU (lY x),.d .bool (yL x)] fun h=>by
 have hB:=EH h.2.1;have hA:=EH h.1;refine c8 Wx (ado _ ?_);unfold Lh lY yL;rw[dT h.1,dT h.2.1];cases hl:ofL x.1 with
 |nil=>exact⟨0,rfl⟩
 |cons c r=>
  rw[hl]at hA;obtain⟨n,hn⟩:=UX x h c (hA c (by simp)) (by rw[hl];rfl) _ rfl hB (aci _) _ 0 (ani _) [] (amK _) (fun p hp=>by cases hp);refine⟨n,?_⟩;have e:(((c::r).length:Int)==0)=false:=by simp;omega
  rw[e];unfold FK;rw[hl];exact hn
theorem Vm{x:Pce}(h:yU x)(ho:yL x=true):lY x∈FK x:=by
 have hA:=EH h.1;unfold lY FK;rw[ho];unfold yL at ho;cases hl:ofL x.1 with
 |nil=>rw[hl]at ho;cases ho
 |cons c r=>
  rw[hl]at hA;obtain⟨l1,l2⟩:=IO (hA c (by simp)) (lQ c (ofL x.2.1));have m0:=anM x.2.2 (show((ld c (lQ c (ofL x.2.1))).length:Int)≠0 by omega);have m1:=anl x.2.2 (show 0<((ld c (lQ c (ofL x.2.1))).length:Int) by omega);have hk:(x.2.2%((ld c (lQ c (ofL x.2.1))).length:Int)).toNat<(ld c (lQ c (ofL x.2.1))).length:=by omega
  simp only[cond_true];rw[List.getD_eq_getElem?_getD,amF hk];exact ane hk
section
section
variable {α:Type} {lt:α→α→Prop} {f:α→α→Int}
theorem LJ(h:nK lt):nK (fun x y=>lt y x):=⟨h.irr,fun x y z a b=>h.tr z y x b a,fun x y=>by
 rcases h.tri x y with g|g|g
 ·exact .inr (.inr g)
 ·exact .inr (.inl g)
 ·exact .inl g⟩
theorem Ko(h:uf lt f):uf (fun x y=>lt y x) (fun x y=> -f x y):=fun x y=>⟨fun g=>(by show-f x y= -1;rw[(h x y).2.2 g]),fun g=>(by show-f x y=0;rw[(h x y).2.1 g];rfl),fun g=>(by show-f x y=1;rw[(h x y).1 g];rfl)⟩
def aLt(lt:α→α→Prop)(u v:Bool×α):Prop:=(u.1=false∧v.1=true)∨(u.1=false∧v.1=false∧lt u.2 v.2)∨(u.1=true∧v.1=true∧lt v.2 u.2)
theorem Ro(h:nK lt):nK (aLt lt):=by
 refine⟨fun⟨a,u⟩ g=>?_,fun⟨a,u⟩ ⟨b,v⟩ ⟨c,w⟩ g g'=>?_,fun⟨a,u⟩ ⟨b,v⟩=>?_⟩
 ·rcases g with⟨g1,g2⟩|⟨_,_,g⟩|⟨_,_,g⟩
  ·rw[g1]at g2;cases g2
  ·exact h.irr _ g
  ·exact h.irr _ g
 ·unfold aLt at*;cases a<;>cases b<;>cases c<;>simp only[true_and,false_and,and_false,apV,apn,false_or,reduceCtorEq,and_self]at g g' ⊢
  ·exact h.tr _ _ _ g g'
  ·exact h.tr _ _ _ g' g
 ·unfold aLt;cases a<;>cases b<;>simp only[true_and,false_and,and_false,apV,apn,false_or,reduceCtorEq,and_self,or_true,true_or]
  ·rcases h.tri u v with g|g|g
   ·exact .inl g
   ·exact .inr (.inl (by rw[g]))
   ·exact .inr (.inr g)
  ·rcases h.tri u v with g|g|g
   ·exact .inr (.inr g)
   ·exact .inr (.inl (by rw[g]))
   ·exact .inl g
theorem Sq(h:uf lt f):uf (aLt lt) (jP f):=fun⟨a,u⟩ ⟨b,v⟩=>by
 refine⟨fun g=>?_,fun g=>?_,fun g=>?_⟩
 ·unfold aLt at g;unfold jP;cases a<;>cases b<;>simp only[true_and,false_and,and_false,apV,apn,false_or,reduceCtorEq,and_self]at g
  ·exact(h u v).1 g
  ·rfl
  ·show-f u v= -1;rw[(h u v).2.2 g]
 ·injection g with g1 g2;subst g1 g2;unfold jP;have:=(h u u).2.1 rfl;cases a
  ·exact this
  ·show-f u u=0;rw[this];rfl
 ·unfold aLt at g;unfold jP;cases a<;>cases b<;>simp only[true_and,false_and,and_false,apV,apn,false_or,reduceCtorEq,and_self]at g
  ·exact(h u v).2.2 g
  ·rfl
  ·show-f u v=1;rw[(h u v).1 g];rfl
def cLt(lt:α→α→Prop)(o u v:α):Prop:=(¬lt u o∧lt v o)∨((lt u o↔lt v o)∧lt u v)
theorem Y5(h:nK lt)(o:α):nK (cLt lt o):=by
 refine⟨fun u g=>?_,fun u v w g g'=>?_,fun u v=>?_⟩
 ·rcases g with⟨g1,g2⟩|⟨_,g⟩
  ·exact g1 g2
  ·exact h.irr _ g
 ·rcases g with⟨g1,g2⟩|⟨g1,g2⟩<;>rcases g' with⟨g3,g4⟩|⟨g3,g4⟩
  ·exact absurd g2 g3
  ·exact .inl ⟨g1,g3.1 g2⟩
  ·exact .inl ⟨fun e=>g3 (g1.1 e),g4⟩
  ·exact .inr ⟨g1.trans g3,h.tr _ _ _ g2 g4⟩
 ·by_cases e1:lt u o<;>by_cases e2:lt v o
  ·rcases h.tri u v with g|g|g
   ·exact .inl (.inr ⟨⟨fun _=>e2,fun _=>e1⟩,g⟩)
   ·exact .inr (.inl g)
   ·exact .inr (.inr (.inr ⟨⟨fun _=>e1,fun _=>e2⟩,g⟩))
  ·exact .inr (.inr (.inl ⟨e2,e1⟩))
  ·exact .inl (.inl ⟨e1,e2⟩)
  ·rcases h.tri u v with g|g|g
   ·exact .inl (.inr ⟨⟨fun e=>absurd e e1,fun e=>absurd e e2⟩,g⟩)
   ·exact .inr (.inl g)
   ·exact .inr (.inr (.inr ⟨⟨fun e=>absurd e e2,fun e=>absurd e e1⟩,g⟩))
theorem xX(hl:nK lt)(h:uf lt f)(x y:α):decide (f x y<0)=true↔lt x y:=by
 rw[anJ];rcases hl.tri x y with g|g|g
 ·rw[(h x y).1 g];exact⟨fun _=>g,fun _=>by decide⟩
 ·rw[(h x y).2.1 g];exact⟨fun e=>absurd e (by decide),fun e=>absurd e (by rw[g];exact hl.irr _)⟩
 ·rw[(h x y).2.2 g];exact⟨fun e=>absurd e (by decide),fun e=>absurd (hl.tr _ _ _ e g) (hl.irr _)⟩
theorem DF(hl:nK lt)(h:uf lt f)(o:Bool×α):uf (cLt (aLt lt) o) (jZ f o):=fun u v=>by
 have ha:=Sq h;have n:=xX (Ro hl) ha
 have tf:∀x,¬aLt lt x o→decide (jP f x o<0)=false:=fun x g=>by
  cases e:decide (jP f x o<0)
  ·rfl
  ·exact absurd ((n x o).1 e) g
 unfold jZ;refine⟨fun g=>?_,fun g=>?_,fun g=>?_⟩
 ·rcases g with⟨g1,g2⟩|⟨g1,g2⟩
  ·rw[tf u g1,(n v o).2 g2];rfl
  ·have e:(decide (jP f u o<0)==decide (jP f v o<0))=true:=by
    by_cases e:aLt lt u o
    ·rw[(n u o).2 e,(n v o).2 (g1.1 e)];rfl
    ·rw[tf u e,tf v (fun e'=>e (g1.2 e'))];rfl
   rw[e];exact(ha u v).1 g2
 ·subst g;rw[beq_self_eq_true];exact(ha u u).2.1 rfl
 ·rcases g with⟨g1,g2⟩|⟨g1,g2⟩
  ·rw[tf v g1,(n u o).2 g2];rfl
  ·have e:(decide (jP f u o<0)==decide (jP f v o<0))=true:=by
    by_cases e:aLt lt u o
    ·rw[(n u o).2 e,(n v o).2 (g1.2 e)];rfl
    ·rw[tf u e,tf v (fun e'=>e (g1.1 e'))];rfl
   rw[e];exact(ha u v).2.2 g2
end
def Sp(c:Cv)(p:Pt):Prop:=Rpd p∧gi c p=true
structure Crp (c:Cv):Prop where
 f:Sp c (frC c)
 t:Sp c (toC c)
 q:c.1=true→0<(ciC c).2.2
 l:c.1=false→(lnC c).1≠0∨(lnC c).2.1≠0
theorem uo{c:BCU}(h:gdC c):Crp (dC c):=by
 obtain⟨h1,h2,h3⟩:=h;exact⟨⟨kZ h1.2.2.1,h2⟩,⟨kZ h1.2.2.2,h3⟩,fun e=>(h1.1 e).2,fun e=>(h1.2.1 e).2⟩
open RE in
theorem Crp.e{c:Cv}(h:Crp c)(hne:aX (frC c) (toC c)≠0):GdE c:=by
 have hf:=h.f.1;have ht:=h.t.1;have s:=fun p (hp:Sp c p)=>hp.2;refine⟨hf,ht,fun e=>hne (cmpP_0.2 e),fun e=>?_,fun e=>?_⟩
 ·have h2:=h.f.2;have h3:=h.t.2;unfold gi at h2 h3;rw[e]at h2 h3;exact⟨h.q e,ins_on (anE.1 h2),ins_on (anE.1 h3)⟩
 ·have h2:=h.f.2;have h3:=h.t.2;unfold gi at h2 h3;rw[e]at h2 h3;exact⟨h.l e,E9 (anE.1 h2),E9 (anE.1 h3)⟩
namespace RE
theorem Hj(v w:RE):((v-(w))*(v-(w)))+((w*w-(v*v)))+2*((w-(0))*(v-(w)))=0:=by grind
theorem Mh(v w:RE)(h1:v*v=w*w)(_h2:0≤v)(h3:0≤w):v≤w:=fun hg=>far (aK (aK (mul_pos (aL hg) (aL hg)) (aF (ob h1))) (iy (by decide+kernel:(0:Rat)<2) (bg (aF h3) (le_of_lt (aL hg))))) (Hj v w)
theorem Hl(v w:RE):((w-(v))*(w-(v)))+((v*v-(w*w)))+2*((v-(0))*(w-(v)))=0:=by grind
theorem QA(v w:RE)(h1:v*v=w*w)(h2:0≤v)(_h3:0≤w):w≤v:=fun hg=>far (aK (aK (mul_pos (aL hg) (aL hg)) (aF (ls h1))) (iy (by decide+kernel:(0:Rat)<2) (bg (aF h2) (le_of_lt (aL hg))))) (Hl v w)
theorem TQ(v w:RE)(h1:v*v=w*w)(h2:0≤v)(h3:0≤w):v=w:=le_antisymm (Mh v w h1 h2 h3) (QA v w h1 h2 h3)
theorem EX(v w:RE):((v-(w))*(v-(w)))+((v*v-(w*w)))+2*((0-(v))*(v-(w)))=0:=by grind
theorem KZ(v w:RE)(h1:v*v=w*w)(h2:v≤0)(_h3:w≤0):v≤w:=fun hg=>far (aK (aK (mul_pos (aL hg) (aL hg)) (aF (ls h1))) (iy (by decide+kernel:(0:Rat)<2) (bg (aF h2) (le_of_lt (aL hg))))) (EX v w)
theorem C3(v w:RE):((w-(v))*(w-(v)))+((w*w-(v*v)))+2*((0-(w))*(w-(v)))=0:=by grind
theorem JU(v w:RE)(h1:v*v=w*w)(_h2:v≤0)(h3:w≤0):w≤v:=fun hg=>far (aK (aK (mul_pos (aL hg) (aL hg)) (aF (ob h1))) (iy (by decide+kernel:(0:Rat)<2) (bg (aF h3) (le_of_lt (aL hg))))) (C3 v w)
theorem RQ(v w:RE)(h1:v*v=w*w)(h2:v≤0)(h3:w≤0):v=w:=le_antisymm (KZ v w h1 h2 h3) (JU v w h1 h2 h3)
theorem aeO(u v w Q:RE)(h1:u*u+v*v=Q)(h2:u*u+w*w=Q):v*v≤w*w:=by grind
theorem acW(u v w Q:RE)(h1:u*u+v*v=Q)(h2:u*u+w*w=Q):w*w≤v*v:=by grind
theorem ahl(u v w Q:RE)(h1:u*u+v*v=Q)(h2:u*u+w*w=Q):v*v=w*w:=le_antisymm (aeO u v w Q h1 h2) (acW u v w Q h1 h2)
theorem Mt(a b:RE)(h1: -a= -b):a≤b:=by grind
theorem Ru(a b:RE)(h1: -a= -b):b≤a:=by grind
theorem Vb(a b:RE)(h1: -a= -b):a=b:=le_antisymm (Mt a b h1) (Ru a b h1)
theorem Ej{u v:RE}:(upA (cls u v)=true→0≤v)∧(upA (cls u v)=false→v≤0)∧(ufA (cls u v)=true→0≤v)∧(ufA (cls u v)=false→v≤0):=by
 unfold cls upA ufA;rcases bh v with⟨h,e⟩|⟨h,e⟩|⟨h,e⟩<;>rw[e]
 ·exact⟨fun _=>le_of_lt h,fun g=>(by cases g),fun _=>le_of_lt h,fun g=>(by cases g)⟩
 ·rw[h];exact⟨fun _=>le_refl _,fun _=>le_refl _,fun _=>le_refl _,fun _=>le_refl _⟩
 ·exact⟨fun g=>(by cases g),fun _=>le_of_lt h,fun g=>(by cases g),fun _=>le_of_lt h⟩
theorem Ht{c:Ln}{p q:Pt}(hp:onCi c p)(hq:onCi c q)(hx:pX p=pX q)(g:(0≤pY p-of c.2.1∧0≤pY q-of c.2.1)∨(pY p-of c.2.1≤0∧pY q-of c.2.1≤0)):pR p=pR q:=by
 unfold onCi at hp hq;rw[hx]at hp;have e:=ahl _ _ _ _ hp hq;refine aoE hx ?_;rcases g with⟨a,b⟩|⟨a,b⟩
 ·exact jI _ _ _ (TQ _ _ e a b)
 ·exact jI _ _ _ (RQ _ _ e a b)
end RE
open RE in
theorem jL{c:Cv}(ha:c.1=true){p:Pt}(hp:Sp c p):onCi (ciC c) p:=by
 have:=hp.1;have g:=hp.2;unfold gi at g;rw[ha]at g;exact ins_on (anE.1 g)
open RE in
theorem Jg{c:Cv}(h:Crp c)(ha:c.1=true):∃κ:Pt→Bool×RE,(∀d:Cv,d.1=true→ciC d=ciC c→cwC d=cwC c→Sp c (frC d)→∀p q,Sp c p→Sp c q→c9 d p q=jZ (fun x y:RE=>sg (x-y)) (κ (frC d)) (κ p) (κ q))∧∀p q,Sp c p→Sp c q→(κ p=κ q↔aX p q=0):=by
 cases hw:cwC c
 ·refine⟨fun p=>(upR (ciC c) p,pX p),fun d d1 d2 d3 hd p q hp hq=>?_,fun p q hp hq=>?_⟩
  ·have i1:=hd.1;have:=hp.1;have:=hq.1;have e:∀{x y:Pt},Rpd x→Rpd y→aW (xP x) (xP y)=sg (pX x-pX y):=fun{x y} _ _=>by rw[cmpT_re ln ln,sG,sG]
   unfold c9;rw[d1,d3,cond_true,cond_false,d2];exact fR (e hp.1 i1) (e hq.1 i1) (e hp.1 hq.1)
  ·have r1:=hp.1;have r2:=hq.1;rw[cmpP_0];constructor
   ·intro e;injection e with e1 e2;rw[gU,gU]at e1;refine Ht (jL ha hp) (jL ha hq) e2 ?_;cases g:upA (cls (pX p-of (ciC c).1) (pY p-of (ciC c).2.1))
    ·exact .inr ⟨Ej.2.1 g,Ej.2.1 (e1.symm.trans g)⟩
    ·exact .inl ⟨Ej.1 g,Ej.1 (e1.symm.trans g)⟩
   ·intro e;have e1:pX p=pX q:=congrArg Prod.fst e;have e2:pY p=pY q:=congrArg Prod.snd e;show(upR (ciC c) p,pX p)=(upR (ciC c) q,pX q);rw[gU,gU,e1,e2]
 ·refine⟨fun p=>(upR (flC (ciC c)) (flP p),-pX p),fun d d1 d2 d3 hd p q hp hq=>?_,fun p q hp hq=>?_⟩
  ·have i1:=hd.1;have:=hp.1;have:=hq.1;have e:∀{x y:Pt},Rpd x→Rpd y→aW (xP (flP x)) (xP (flP y))=sg (-pX x- -pX y):=fun{x y} _ _=>by rw[cmpT_re ln ln,sG,sG,Ed,Ed]
   unfold c9;rw[d1,d3,cond_true,cond_true,d2];exact fR (e hp.1 i1) (e hq.1 i1) (e hp.1 hq.1)
  ·have r1:=hp.1;have r2:=hq.1;rw[cmpP_0];have u1:=vh (h.q ha) (jL ha hp);have u2:=vh (h.q ha) (jL ha hq);constructor
   ·intro e;injection e with e1 e2;rw[u1,u2]at e1;refine Ht (jL ha hp) (jL ha hq) (Vb _ _ e2) ?_;cases g:ufA (cls (pX p-of (ciC c).1) (pY p-of (ciC c).2.1))
    ·exact .inr ⟨Ej.2.2.2 g,Ej.2.2.2 (e1.symm.trans g)⟩
    ·exact .inl ⟨Ej.2.2.1 g,Ej.2.2.1 (e1.symm.trans g)⟩
   ·intro e;have e1:pX p=pX q:=congrArg Prod.fst e;have e2:pY p=pY q:=congrArg Prod.snd e;show(upR (flC (ciC c)) (flP p),-pX p)=(upR (flC (ciC c)) (flP q),-pX q);rw[u1,u2,e1,e2]
open RE in
theorem sD{c:Cv}(h:Crp c):∃(K:Type) (lt:K→K→Prop) (κ:Pt→K) (f:K→K→Int),nK lt∧uf lt f∧(∀p q,Sp c p→Sp c q→c9 c p q=f (κ p) (κ q))∧∀p q,Sp c p→Sp c q→(κ p=κ q↔aX p q=0):=by
 have hF:=h.f;cases ha:c.1
 ·cases hd:decide (aX (frC c) (toC c)>0)
  ·refine⟨PE,abH,pR,lxc,jR,ie,fun p q hp hq=>?_,fun p q hp hq=>?_⟩
   ·have:=hp.1;have:=hq.1;unfold c9;rw[ha,hd,cond_false,cond_false,jm]
   ·have:=hp.1;have:=hq.1;exact cmpP_0.symm
  ·refine⟨PE,_,pR,_,LJ jR,Ko ie,fun p q hp hq=>?_,fun p q hp hq=>?_⟩
   ·have:=hp.1;have:=hq.1;unfold c9;rw[ha,hd,cond_false,cond_true,jm]
   ·have:=hp.1;have:=hq.1;exact cmpP_0.symm
 ·obtain⟨κ,h1,h2⟩:=Jg h ha;exact⟨Bool×RE,_,κ,_,Y5 (Ro lt_lin) (κ (frC c)),DF lt_lin sg_cmpO _,h1 c ha rfl rfl hF,h2⟩
structure Ord (c:Cv):Prop where
 tr:∀{p q r},Sp c p→Sp c q→Sp c r→c9 c p q<0→c9 c q r<0→c9 c p r<0
 tri:∀{p q},Sp c p→Sp c q→c9 c p q<0∨aX p q=0∨c9 c q p<0
 irr:∀{p q},Sp c p→Sp c q→aX p q=0→c9 c p q=0
 asy:∀{p q},Sp c p→Sp c q→c9 c p q<0→0<c9 c q p
theorem ux{c:Cv}(h:Crp c):Ord c:=by
 obtain⟨K,lt,κ,f,hl,hc,ho,hk⟩:=sD h
 have n:∀{p q},Sp c p→Sp c q→(c9 c p q<0↔lt (κ p) (κ q)):=fun{p q} hp hq=>by
  rw[ho p q hp hq,←anJ (p:=f (κ p) (κ q)<0)];exact xX hl hc _ _
 refine⟨fun{p q r} hp hq hr g g'=>?_,fun{p q} hp hq=>?_,fun{p q} hp hq g=>?_,fun{p q} hp hq g=>?_⟩
 ·rw[n hp hr];exact hl.tr _ _ _ ((n hp hq).1 g) ((n hq hr).1 g')
 ·rw[n hp hq,n hq hp,←hk p q hp hq];exact hl.tri _ _
 ·rw[ho p q hp hq,(hc _ _).2.1 ((hk p q hp hq).2 g)]
 ·rw[ho q p hq hp,(hc _ _).2.2 ((n hp hq).1 g)];decide
def Spb(c:Cv)(x:BP):Prop:=Sp c (dec x)
theorem Rj{c:Cv}(o:Ord c){x:BP}(hx:Spb c x):∀{l:List BP},(∀y∈l,Spb c y)→l.Pairwise (fun a b=>c9 c (dec a) (dec b)<0)→(fK c l x).Pairwise (fun a b=>c9 c (dec a) (dec b)<0)
 |[],_,_=>by simp[fK]
 |y::r,hl,hp=>by
  have hy:=hl y (by simp);have hr:∀z∈r,Spb c z:=fun z hz=>hl z (amQ _ hz);obtain⟨p1,p2⟩:=anb.1 hp;simp only[fK];by_cases h1:c9 c (dec y) (dec x)<0
  ·rw[amE h1,cond_true];refine anb.2 ⟨fun z hz=>?_,Rj o hx hr p2⟩;rcases oH hz with g|g
   ·exact p1 z g
   ·rw[g];exact h1
  ·rw[amG h1,cond_false];by_cases h2:aX (dec y) (dec x)=0
   ·rw[anE.2 h2,cond_true];exact hp
   ·rw[aoA.2 h2,cond_false]
    have h3:c9 c (dec x) (dec y)<0:=by
     rcases o.tri hy hx with g|g|g
     ·exact absurd g h1
     ·exact absurd g h2
     ·exact g
    refine anb.2 ⟨fun z hz=>?_,hp⟩;rcases amT.1 hz with g|g
    ·rw[g];exact h3
    ·exact o.tr hx hy (hr z g) h3 (p1 z g)
theorem JK{c:Cv}(o:Ord c):∀{l out:List BP},(∀y∈l,Spb c y)→(∀y∈out,Spb c y)→out.Pairwise (fun a b=>c9 c (dec a) (dec b)<0)→(l.foldl (fK c) out).Pairwise (fun a b=>c9 c (dec a) (dec b)<0)
 |[],_,_,_,h=>h
 |x::l,out,hl,ho,h=>JK o (l:=l) (fun y hy=>hl y (amQ _ hy)) (fun y hy=>by
   rcases oH hy with g|g
   ·exact ho y g
   ·rw[g];exact hl x (by simp)) (Rj o (hl x (by simp)) ho h)
theorem PA{c:Cv}(o:Ord c){l:List BP}(hl:∀y∈l,Spb c y):(gF c l).Pairwise (fun a b=>c9 c (dec a) (dec b)<0):=JK o hl (fun y hy=>by cases hy) List.Pairwise.nil
theorem P7{c:BCU}{R:BP→BP→Prop}{p:BCU}:∀{s:List BP},s.Pairwise R→p∈yW c s→∃x y,x∈s∧y∈s∧R x y∧p=Cy c x y
 |[],_,h=>by cases h
 |[_],_,h=>by cases h
 |x::y::r,hp,h=>by
  obtain⟨p1,p2⟩:=anb.1 hp;simp only[yW]at h;rcases amT.1 h with h|h
  ·exact⟨x,y,by simp,by simp,p1 y (by simp),h⟩
  ·obtain⟨a,b,h1,h2,h3,h4⟩:=P7 p2 h;exact⟨a,b,amQ _ h1,amQ _ h2,h3,h4⟩
theorem P9{c:BCU}(h:gdN c){l:List BP}(ho:∀p∈l,okP 500 p∧onR (dC c) (dec p)=true):∀x∈vG c l,okP 500 x∧Spb (dC c) x:=by
 intro z hz;rcases Ii hz with e|e|e
 ·rw[e];exact⟨h.1.1.2.2.1,kZ h.1.1.2.2.1,h.2.1⟩
 ·rw[e];exact⟨h.1.1.2.2.2,kZ h.1.1.2.2.2,h.2.2.1⟩
 ·exact⟨(ho z e).1,kZ (ho z e).1,(amP.1 (ho z e).2).1⟩
theorem abq{c:BCU}(h:gdN c){l:List BP}(ho:∀p∈l,okP 500 p∧onR (dC c) (dec p)=true):(vG c l).Pairwise (fun a b=>c9 (dC c) (dec a) (dec b)<0):=by
 refine PA (ux (uo h.gd)) fun y hy=>?_;rcases ano.1 hy with hy|hy
 ·simp only[amT,anZ,apn]at hy;rcases hy with e|e
  ·rw[e];exact⟨kZ h.1.1.2.2.1,h.2.1⟩
  ·rw[e];exact⟨kZ h.1.1.2.2.2,h.2.2.1⟩
 ·exact⟨kZ (ho y hy).1,(amP.1 (ho y hy).2).1⟩
theorem V9{c:BCU}(h:gdN c){l:List BP}(ho:∀p∈l,okP 500 p∧onR (dC c) (dec p)=true):∀p∈ld c l,gdN p:=by
 intro p hp;have hm:=aes h ho p hp;obtain⟨x,y,hx,hy,hr,e⟩:=P7 (abq h ho) hp;have o:=ux (uo h.gd);refine⟨hm.1,hm.2.1,hm.2.2,fun g=>?_⟩;rw[e]at g;have:=o.irr (P9 h ho x hx).2 (P9 h ho y hy).2 g;omega
theorem Vo{x:Pce}(h:yU x):∀p∈FK x,gdN p:=by
 intro p hp;have hA:=EH h.1;unfold FK at hp;cases hl:ofL x.1 with
 |nil=>rw[hl]at hp;cases hp
 |cons c r=>
  rw[hl]at hp hA;exact V9 (hA c (by simp)) (QG (hA c (by simp)) (EH h.2.1)).2 p hp
theorem Jv{x:Pce}(h:yU x)(ho:yL x=true):gdN (lY x):=Vo h _ (Vm h ho)
theorem gdN.e{c:BCU}(h:gdN c):RE.GdE (dC c):=(uo h.gd).e h.2.2.2
end
theorem TV{α:Type}{lt:α→α→Prop}{f:α→α→Int}(hl:nK lt)(h:uf lt f)(x y:α):f x y≤0↔¬lt y x:=by
 rcases hl.tri x y with g|g|g
 ·rw[(h x y).1 g];exact⟨fun _ e=>hl.irr _ (hl.tr _ _ _ e g),fun _=>by decide⟩
 ·rw[(h x y).2.1 g];exact⟨fun _ e=>by rw[g]at e;exact hl.irr _ e,fun _=>by decide⟩
 ·rw[(h x y).2.2 g];exact⟨fun e=>absurd e (by decide),fun e=>absurd g e⟩
theorem ll{α:Type}{lt:α→α→Prop}{f:α→α→Int}(hl:nK lt)(h:uf lt f)(x y:α):f x y<0↔lt x y:=by
 rw[←anJ (p:=f x y<0)];exact xX hl h x y
structure akX (c:Cv):Prop extends Ord c where
 le:∀{p q},Sp c p→Sp c q→(c9 c p q≤0↔¬c9 c q p<0)
 lt:∀{p q r},Sp c p→Sp c q→Sp c r→¬c9 c q p<0→¬c9 c r q<0→¬c9 c r p<0
theorem Uw{c:Cv}(h:Crp c):akX c:=by
 obtain⟨K,lt,κ,f,hl,hc,ho,hk⟩:=sD h;refine⟨ux h,fun{p q} hp hq=>?_,fun{p q r} hp hq hr=>?_⟩
 ·rw[ho p q hp hq,ho q p hq hp,TV hl hc,ll hl hc]
 ·rw[ho q p hq hp,ho r q hr hq,ho r p hr hp,ll hl hc,ll hl hc,ll hl hc];intro g g' e;rcases hl.tri (κ q) (κ p)with a|a|a
  ·exact g a
  ·exact g' (by rw[a];exact e)
  ·exact g' (hl.tr _ _ _ e a)
theorem xZ{c:Cv}(h:Crp c){p:Pt}(hp:Rpd p):onR c p=true↔gi c p=true∧¬c9 c p (frC c)<0∧¬c9 c (toC c) p<0:=by
 have o:=Uw h;unfold onR;rw[amP,amP,anJ,anJ];refine and_congr_right fun hs=>?_;rw[o.le h.f ⟨hp,hs⟩,o.le ⟨hp,hs⟩ h.t]
theorem zQ{c:Cv}{x y:BP}:∀{r:List BP},y∈r→y∈fK c r x
 |[],h=>by cases h
 |z::r,h=>by
  simp only[fK];cases decide (c9 c (dec z) (dec x)<0)
  ·cases aX (dec z) (dec x)==0
   ·exact amQ _ h
   ·exact h
  ·rcases amT.1 h with e|e
   ·rw[e];exact .head _
   ·exact amQ _ (zQ e)
theorem EI{c:Cv}{y:BP}:∀{l r:List BP},y∈r→y∈l.foldl (fK c) r
 |[],_,h=>h
 |_::l,_,h=>EI (l:=l) (zQ h)
theorem aif{c:BCU}(h:gdN c):c9 (dC c) (frC (dC c)) (toC (dC c))<0:=by
 have k:=uo h.gd;have hne:aX (frC (dC c)) (toC (dC c))≠0:=h.2.2.2;cases ha:(dC c).1
 ·unfold c9;rw[ha,cond_false];cases hd:decide (aX (frC (dC c)) (toC (dC c))>0)
  ·have:=anw hd;rw[cond_false];omega
  ·have:=amH hd;rw[cond_true];omega
 ·rcases(ux k).tri k.f k.t with g|g|g
  ·exact g
  ·exact absurd g hne
  ·obtain⟨κ,h1,h2⟩:=Jg k ha;have hl:=Ro RE.lt_lin;rw[h1 (dC c) ha rfl rfl k.f _ _ k.t k.f,ll (Y5 hl _) (DF RE.lt_lin RE.sg_cmpO _)]at g;rcases g with⟨_,g⟩|⟨g1,g2⟩
   ·exact absurd g (hl.irr _)
   ·exact absurd (g1.1 g2) (hl.irr _)
theorem abK{c:BCU}(h:gdN c):onR (dC c) (frC (dC c))=true∧onR (dC c) (toC (dC c))=true:=by
 have k:=uo h.gd;have o:=ux k
 have irr:∀{q},Sp (dC c) q→c9 (dC c) q q=0:=fun{q} hq=>by
  have:=hq.1;exact o.irr hq hq (RE.cmpP_0.2 rfl)
 have tf:=o.asy k.f k.t (aif h);rw[xZ k k.f.1,xZ k k.t.1,irr k.f,irr k.t];exact⟨⟨k.f.2,by omega,by omega⟩,k.t.2,by omega,by omega⟩
def Cl(c:Cv)(p q:Pt):Int:=bif c.1 then(bif cwC c then-(gu aW (ptd (ciC c) (toC c)) (ptd (ciC c) p) (ptd (ciC c) q))else gu aW (ptd (ciC c) (frC c)) (ptd (ciC c) p) (ptd (ciC c) q))else aX p q*aX (toC c) (frC c)
namespace RE
theorem Tg:∀kF kP kQ:Fin 4,∀iF iP iQ:Fin 3,Fq kF.1 iF.1 kP.1 iP.1 kQ.1 iQ.1=true→
  gu cI (upA kF.1,iF.1) (upA kP.1,iP.1) (upA kQ.1,iQ.1)=jZ cI (upA kF.1,iF.1) (upA kP.1,iP.1) (upA kQ.1,iQ.1):=by decide+kernel
theorem aa2:∀kF kT:Fin 4,∀iF iT:Fin 4,(mO kF.1 iF.1 kT.1 iT.1&&mO kT.1 iT.1 kF.1 iF.1)=true→∀kP iP:Fin 4,(mO kF.1 iF.1 kP.1 iP.1&&mO kP.1 iP.1 kF.1 iF.1&&mO kT.1 iT.1 kP.1 iP.1&&mO kP.1 iP.1 kT.1 iT.1&&decide (gu cI (upA kT.1,iT.1) (upA kP.1,iP.1) (upA kF.1,iF.1)≤0))=true→
  ∀kQ iQ:Fin 4,(mO kF.1 iF.1 kQ.1 iQ.1&&mO kQ.1 iQ.1 kF.1 iF.1&&mO kT.1 iT.1 kQ.1 iQ.1&&mO kQ.1 iQ.1 kT.1 iT.1&&mO kP.1 iP.1 kQ.1 iQ.1&&mO kQ.1 iQ.1 kP.1 iP.1&&decide (gu cI (upA kT.1,iT.1) (upA kQ.1,iQ.1) (upA kF.1,iF.1)≤0))=true→
  -(gu cI (upA kT.1,iT.1) (upA kP.1,iP.1) (upA kQ.1,iQ.1))=jZ dI (ufA kF.1,iF.1) (ufA kP.1,iP.1) (ufA kQ.1,iQ.1):=by decide+kernel
theorem abA{ci:Ln}{F P Q:Pt}[Rpd F][Rpd P][Rpd Q](hQ:0<ci.2.2)(hF:onCi ci F)(hP:onCi ci P)(hq:onCi ci Q):
  gu aW (ptd ci F) (ptd ci P) (ptd ci Q)=jZ aW (ptd ci F) (ptd ci P) (ptd ci Q):=by
 have mF:pX F∈[pX F,pX P,pX Q]:=by simp
 have mP:pX P∈[pX F,pX P,pX Q]:=by simp
 have mQ:pX Q∈[pX F,pX P,pX Q]:=by simp
 have h0:0<of ci.2.2:=ik hQ
 have hcon:Fq (cls (pX F-of ci.1) (pY F-of ci.2.1)) (rk (fun a b:RE=>a<b) [pX F,pX P,pX Q] (pX F)) (cls (pX P-of ci.1) (pY P-of ci.2.1)) (rk (fun a b:RE=>a<b) [pX F,pX P,pX Q] (pX P)) (cls (pX Q-of ci.1) (pY Q-of ci.2.1)) (rk (fun a b:RE=>a<b) [pX F,pX P,pX Q] (pX Q))=true:=by
  unfold Fq;rw[dg h0 hF hP mF mP,dg h0 hP hF mP mF,dg h0 hF hq mF mQ,dg h0 hq hF mQ mF,dg h0 hP hq mP mQ,dg h0 hq hP mQ mP];rfl
 have a:=Tg ⟨_,gT (pX F-of ci.1) (pY F-of ci.2.1)⟩ ⟨_,gT (pX P-of ci.1) (pY P-of ci.2.1)⟩ ⟨_,gT (pX Q-of ci.1) (pY Q-of ci.2.1)⟩ ⟨_,iE lt_lin mF⟩ ⟨_,iE lt_lin mP⟩ ⟨_,iE lt_lin mQ⟩ hcon;simp only at a;unfold ptd;rw[gU,gU,gU,gN (fd mP mF) (fd mQ mF) (fd mP mQ),fR (fd mP mF) (fd mQ mF) (fd mP mQ)];exact a
theorem agN{ci:Ln}{F T P Q:Pt}[Rpd F][Rpd T][Rpd P][Rpd Q](hQ:0<ci.2.2)(hF:onCi ci F)(hT:onCi ci T)(hP:onCi ci P)(hq:onCi ci Q)
  (oP:decide (gu aW (ptd ci T) (ptd ci P) (ptd ci F)≤0)=true) (oQ:decide (gu aW (ptd ci T) (ptd ci Q) (ptd ci F)≤0)=true):
  -(gu aW (ptd ci T) (ptd ci P) (ptd ci Q))=jZ aW (ptd (flC ci) (flP F)) (ptd (flC ci) (flP P)) (ptd (flC ci) (flP Q)):=by
 have mF:pX F∈[pX F,pX T,pX P,pX Q]:=by simp
 have mT:pX T∈[pX F,pX T,pX P,pX Q]:=by simp
 have mP:pX P∈[pX F,pX T,pX P,pX Q]:=by simp
 have mQ:pX Q∈[pX F,pX T,pX P,pX Q]:=by simp
 have h0:0<of ci.2.2:=ik hQ;revert oP oQ;unfold ptd;rw[gU,gU,gU,gU,vh hQ hF,vh hQ hP,vh hQ hq,gN (fd mP mT) (fd mF mT) (fd mP mF),gN (fd mQ mT) (fd mF mT) (fd mQ mF),gN (fd mP mT) (fd mQ mT) (fd mP mQ),fR (nS mP mF) (nS mQ mF) (nS mP mQ)];intro oP oQ;refine aa2 ⟨_,gT (pX F-of ci.1) (pY F-of ci.2.1)⟩ ⟨_,gT (pX T-of ci.1) (pY T-of ci.2.1)⟩ ⟨_,iE lt_lin mF⟩ ⟨_,iE lt_lin mT⟩ ?_ ⟨_,gT (pX P-of ci.1) (pY P-of ci.2.1)⟩ ⟨_,iE lt_lin mP⟩ ?_ ⟨_,gT (pX Q-of ci.1) (pY Q-of ci.2.1)⟩ ⟨_,iE lt_lin mQ⟩ ?_
 ·simp only;rw[dg h0 hF hT mF mT,dg h0 hT hF mT mF];rfl
 ·simp only;rw[dg h0 hF hP mF mP,dg h0 hP hF mP mF,dg h0 hT hP mT mP,dg h0 hP hT mP mT,oP];rfl
 ·simp only;rw[dg h0 hF hq mF mQ,dg h0 hq hF mQ mF,dg h0 hT hq mT mQ,dg h0 hq hT mQ mT,dg h0 hP hq mP mQ,dg h0 hq hP mQ mP,oQ];rfl
theorem J7{p q:Pt}[Rpd p][Rpd q]:aX p q= -aX q p:=by
 rw[jm,jm];rcases jR.tri (pR p) (pR q)with h|h|h
 ·rw[(ie _ _).1 h,(ie _ _).2.2 h]
 ·rw[h,(ie (pR q) (pR q)).2.1 rfl];rfl
 ·rw[(ie _ _).2.2 h,(ie _ _).1 h];rfl
theorem ord_eq{c:Cv}(h:Crp c)(hne:aX (frC c) (toC c)≠0){p q:Pt}(hp:Rpd p)(hq:Rpd q)(op:onP c p=true)(oq:onP c q=true):Cl c p q=c9 c p q:=by
 have hf:=h.f.1;have ht:=h.t.1;unfold onP at op oq;obtain⟨sp,rp⟩:=amP.1 op;obtain⟨sq,rq⟩:=amP.1 oq;unfold Cl c9;unfold gZ at rp rq;cases ha:c.1
 ·rw[cond_false,cond_false,J7 (p:=toC c)];have hb:=wb (frC c) (toC c);by_cases hd:aX (frC c) (toC c)>0
  ·rw[amE hd,cond_true,show aX (frC c) (toC c)=1 by omega];omega
  ·rw[amG hd,cond_false,show aX (frC c) (toC c)= -1 by omega];omega
 ·rw[ha,cond_true]at rp rq;rw[cond_true,cond_true];have q0:=h.q ha;have oF:=jL ha h.f;have oT:=jL ha h.t;have oP:=jL ha ⟨hp,sp⟩;have oQ:=jL ha ⟨hq,sq⟩;unfold ccF ccT at rp rq;cases hw:cwC c
  ·rw[cond_false,cond_false];exact abA q0 oF oP oQ
  ·rw[hw,cond_true,cond_true]at rp rq;rw[cond_true,cond_true];exact agN q0 oF oT oP oQ rp rq
end RE
theorem z7{K:Type}{lt:K→K→Prop}(h:nK lt):∀{A B:List K},A.Pairwise lt→B.Pairwise lt→(∀x,x∈A↔x∈B)→A=B
 |[],[],_,_,_=>rfl
 |[],b::B,_,_,e=>absurd ((e b).2 (by simp)) (by simp)
 |a::A,[],_,_,e=>absurd ((e a).1 (by simp)) (by simp)
 |a::A,b::B,pa,pb,e=>by
  obtain⟨a1,a2⟩:=anb.1 pa;obtain⟨b1,b2⟩:=anb.1 pb
  have ab:a=b:=by
   rcases amT.1 ((e a).1 (by simp))with g|g
   ·exact g
   ·rcases amT.1 ((e b).2 (by simp))with k|k
    ·exact k.symm
    ·exact absurd (h.tr _ _ _ (a1 b k) (b1 a g)) (h.irr a)
  subst ab;rw[z7 h a2 b2 fun x=>⟨fun hx=>?_,fun hx=>?_⟩]
  ·rcases amT.1 ((e x).1 (amQ _ hx))with g|g
   ·rw[g]at hx;exact absurd (a1 a hx) (h.irr a)
   ·exact g
  ·rcases amT.1 ((e x).2 (amQ _ hx))with g|g
   ·rw[g]at hx;exact absurd (b1 a hx) (h.irr a)
   ·exact g
def eqL(A B:List BP):Prop:=A.length=B.length∧∀(i:Nat) (a b:BP),A[i]?=some a→B[i]?=some b→aX (dec a) (dec b)=0
theorem S8{K:Type}{f:BP→K}{A B:List BP}(e:A.map f=B.map f)(g:∀a∈A,∀b∈B,f a=f b→aX (dec a) (dec b)=0):eqL A B:=by
 refine⟨by simpa using congrArg List.length e,fun i a b ha hb=>?_⟩;have h1:(A.map f)[i]?=some (f a):=by rw[anD,ha];rfl
 have h2:(B.map f)[i]?=some (f b):=by rw[anD,hb];rfl
 rw[e,h2]at h1;injection h1 with h1;exact g a (anB ha) b (anB hb) h1.symm
abbrev oL(c:Cv)(A:List BP):Prop:=A.Pairwise (fun a b=>c9 c (dec a) (dec b)<0)
theorem LX{c:Cv}(h:Crp c){A B:List BP}(hA:∀x∈A,Spb c x)(hB:∀x∈B,Spb c x)(pA:oL c A)(pB:oL c B)(e1:∀a∈A,∃b∈B,aX (dec a) (dec b)=0)(e2:∀b∈B,∃a∈A,aX (dec a) (dec b)=0):eqL A B:=by
 obtain⟨K,lt,κ,f,hl,hc,ho,hk⟩:=sD h
 have pw:∀{L:List BP},(∀x∈L,Spb c x)→oL c L→(L.map fun x=>κ (dec x)).Pairwise lt:=fun{L} hL pL=>by
  refine List.pairwise_map.2 (List.Pairwise.imp_of_mem (fun{a b} ha hb g=>?_) pL);rw[ho _ _ (hL a ha) (hL b hb)]at g;exact(ll hl hc _ _).1 g
 refine S8 (f:=fun x=>κ (dec x)) (z7 hl (pw hA pA) (pw hB pB) fun x=>⟨fun hx=>?_,fun hx=>?_⟩) fun a ha b hb g=>(hk _ _ (hA a ha) (hB b hb)).1 g
 ·obtain⟨a,ha,rfl⟩:=anQ.1 hx;obtain⟨b,hb,g⟩:=e1 a ha;exact anQ.2 ⟨b,hb,((hk _ _ (hA a ha) (hB b hb)).2 g).symm⟩
 ·obtain⟨b,hb,rfl⟩:=anQ.1 hx;obtain⟨a,ha,g⟩:=e2 b hb;exact anQ.2 ⟨a,ha,(hk _ _ (hA a ha) (hB b hb)).2 g⟩
section
section
variable {α K:Type}
def lh(lt:α→α→Bool):List α→α→List α
 |[],a=>[a]
 |b::r,a=>bif lt a b then b::lh lt r a else a::b::r
def r9(lt:α→α→Bool)(l:List α):List α:=(l.foldl (lh lt) []).reverse
def jU(eq:α→α→Bool):α→List α→List α
 |_,[]=>[]
 |p,q::r=>bif eq q p then jU eq q r else q::jU eq q r
def vL(eq:α→α→Bool):List α→List α
 |[]=>[]
 |x::r=>x::jU eq x r
theorem mv{lt:α→α→Bool}{a x:α}:∀{r:List α},x∈lh lt r a↔x=a∨x∈r
 |[]=>by simp[lh]
 |b::r=>by
  unfold lh;cases lt a b
  ·simp
  ·simp only[cond_true,amT,mv (r:=r)];constructor
   ·rintro (h|h|h)
    ·exact .inr (.inl h)
    ·exact .inl h
    ·exact .inr (.inr h)
   ·rintro (h|h|h)
    ·exact .inr (.inl h)
    ·exact .inl h
    ·exact .inr (.inr h)
theorem Eb{lt:α→α→Bool}{x:α}:∀{l r:List α},x∈l.foldl (lh lt) r↔x∈l∨x∈r
 |[],r=>by simp
 |a::l,r=>by
  rw[aom,Eb,mv,amT];constructor
  ·rintro (h|h|h)
   ·exact .inl (.inr h)
   ·exact .inl (.inl h)
   ·exact .inr h
  ·rintro ((h|h)|h)
   ·exact .inr (.inl h)
   ·exact .inl h
   ·exact .inr (.inr h)
theorem pQ{lt:α→α→Bool}{x:α}{l:List α}:x∈r9 lt l↔x∈l:=by
 unfold r9;rw[List.mem_reverse,Eb];simp
theorem tz{lt:α→α→Bool}{a:α}:∀{r:List α},(lh lt r a).length=r.length+1
 |[]=>rfl
 |b::r=>by
  unfold lh;cases lt a b
  ·rfl
  ·simp[tz (r:=r)]
theorem Im{lt:α→α→Bool}:∀{l r:List α},(l.foldl (lh lt) r).length=l.length+r.length
 |[],r=>by simp
 |a::l,r=>by
  rw[aom,Im,tz,amV];omega
theorem DG{lt:α→α→Bool}{l:List α}:(r9 lt l).length=l.length:=by
 unfold r9;rw[List.length_reverse,Im];rfl
theorem Dn{eq:α→α→Bool}:∀{l:List α} {p:α},(jU eq p l).length≤l.length
 |[],_=>amK _
 |q::r,p=>by
  unfold jU;have:=Dn (eq:=eq) (l:=r) (p:=q);cases eq q p
  ·simp only[cond_false,amV];omega
  ·simp only[cond_true,amV];omega
theorem OL{eq:α→α→Bool}{l:List α}:(vL eq l).length≤l.length:=by
 cases l with
 |nil=>exact amK _
 |cons x r=>
  have:=Dn (eq:=eq) (l:=r) (p:=x);simp only[vL,amV];omega
theorem yr{eq:α→α→Bool}{x:α}:∀{l:List α} {p:α},x∈jU eq p l→x∈l
 |[],_,h=>h
 |q::r,p,h=>by
  unfold jU at h;cases hq:eq q p<;>rw[hq]at h
  ·rcases amT.1 h with e|e
   ·rw[e];simp
   ·exact amQ _ (yr e)
  ·exact amQ _ (yr h)
theorem Nq{eq:α→α→Bool}{x:α}{l:List α}(h:x∈vL eq l):x∈l:=by
 cases l with
 |nil=>exact h
 |cons y r=>
  rcases amT.1 h with e|e
  ·rw[e];simp
  ·exact amQ _ (yr e)
variable {lt:K→K→Prop} (hl:nK lt) (κ:α→K)
abbrev upK(lt:K→K→Prop)(κ:α→K)(l:List α):Prop:=l.Pairwise fun a b=>¬lt (κ b) (κ a)
abbrev dnK(lt:K→K→Prop)(κ:α→K)(l:List α):Prop:=l.Pairwise fun a b=>¬lt (κ a) (κ b)
include hl in
theorem Iq{f:α→α→Bool}{a:α}:∀{r:List α},(∀b∈r,(f a b=true↔lt (κ a) (κ b)))→dnK lt κ r→dnK lt κ (lh f r a)
 |[],_,_=>by simp[lh]
 |b::r,hf,hp=>by
  obtain⟨p1,p2⟩:=anb.1 hp;have hb:=hf b (by simp);unfold lh;cases hfb:f a b
  ·simp only[cond_false];have nlt:¬lt (κ a) (κ b):=fun h=>by rw[hb.2 h]at hfb;cases hfb
   refine anb.2 ⟨fun x hx=>?_,hp⟩;rcases amT.1 hx with e|e
   ·rw[e];exact nlt
   ·intro h;rcases hl.tri (κ b) (κ x)with g|g|g
    ·exact p1 x e g
    ·rw[←g]at h;exact nlt h
    ·exact nlt (hl.tr _ _ _ h g)
  ·simp only[cond_true];have hlt:=hb.1 hfb;refine anb.2 ⟨fun x hx=>?_,Iq (fun y hy=>hf y (amQ _ hy)) p2⟩;rcases mv.1 hx with e|e
   ·rw[e];intro h;exact hl.irr _ (hl.tr _ _ _ h hlt)
   ·exact p1 x e
include hl in
theorem JE{f:α→α→Bool}:∀{l r:List α},(∀a b,(a∈l∨a∈r)→(b∈l∨b∈r)→(f a b=true↔lt (κ a) (κ b)))→dnK lt κ r→dnK lt κ (l.foldl (lh f) r)
 |[],_,_,h=>h
 |a::l,r,hf,h=>by
  rw[aom];refine JE (fun x y hx hy=>hf x y ?_ ?_) (Iq hl κ (fun b hb=>hf a b (.inl (by simp)) (.inr hb)) h)
  ·rcases hx with e|e
   ·exact .inl (amQ _ e)
   ·rcases mv.1 e with g|g
    ·exact .inl (by rw[g];simp)
    ·exact .inr g
  ·rcases hy with e|e
   ·exact .inl (amQ _ e)
   ·rcases mv.1 e with g|g
    ·exact .inl (by rw[g];simp)
    ·exact .inr g
include hl in
theorem UY{f:α→α→Bool}{l:List α}(hf:∀a∈l,∀b∈l,(f a b=true↔lt (κ a) (κ b))):upK lt κ (r9 f l):=by
 unfold r9;refine List.pairwise_reverse.2 (JE hl κ (fun a b ha hb=>hf a ?_ b ?_) (by simp))
 ·rcases ha with h|h
  ·exact h
  ·cases h
 ·rcases hb with h|h
  ·exact h
  ·cases h
include hl in
theorem IS{g:α→α→Bool}:∀{l:List α} {p:α},(∀a b,a∈p::l→b∈p::l→(g a b=true↔κ a=κ b))→upK lt κ (p::l)→
  (p::jU g p l).Pairwise (fun a b=>lt (κ a) (κ b))∧∀x∈p::l,∃y∈p::jU g p l,κ y=κ x
 |[],p,_,_=>⟨by simp[jU],fun x hx=>⟨x,hx,rfl⟩⟩
 |q::r,p,hg,hp=>by
  obtain⟨p1,p2⟩:=anb.1 hp;obtain⟨i1,i2⟩:=IS (l:=r) (p:=q) (fun a b ha hb=>hg a b (amQ _ ha) (amQ _ hb)) p2;obtain⟨j1,j2⟩:=anb.1 i1;have hq:=hg q p (by simp) (by simp);unfold jU;cases hqp:g q p
  ·simp only[cond_false]
   have hlt:lt (κ p) (κ q):=by
    rcases hl.tri (κ p) (κ q)with e|e|e
    ·exact e
    ·rw[hq.2 e.symm]at hqp;cases hqp
    ·exact absurd e (p1 q (by simp))
   refine⟨anb.2 ⟨fun x hx=>?_,i1⟩,fun x hx=>?_⟩
   ·rcases amT.1 hx with e|e
    ·rw[e];exact hlt
    ·exact hl.tr _ _ _ hlt (j1 x e)
   ·rcases amT.1 hx with e|e
    ·exact⟨p,by simp,by rw[e]⟩
    ·obtain⟨y,hy,e2⟩:=i2 x e;exact⟨y,amQ _ hy,e2⟩
  ·simp only[cond_true];have he:=hq.1 hqp;refine⟨anb.2 ⟨fun x hx=>by rw[←he];exact j1 x hx,j2⟩,fun x hx=>?_⟩
   have tr:∀y,y∈q::jU g q r→∃z∈p::jU g q r,κ z=κ y:=fun y hy=>by
    rcases amT.1 hy with e|e
    ·exact⟨p,by simp,by rw[e,he]⟩
    ·exact⟨y,amQ _ e,rfl⟩
   rcases amT.1 hx with e|e
   ·exact⟨p,by simp,by rw[e]⟩
   ·obtain⟨y,hy,e2⟩:=i2 x e;obtain⟨z,hz,e3⟩:=tr y hy;exact⟨z,hz,e3.trans e2⟩
include hl in
theorem Ui{g:α→α→Bool}{l:List α}(hg:∀a∈l,∀b∈l,(g a b=true↔κ a=κ b))(hp:upK lt κ l):(vL g l).Pairwise (fun a b=>lt (κ a) (κ b))∧∀x∈l,∃y∈vL g l,κ y=κ x:=by
 cases l with
 |nil=>exact⟨by simp[vL],fun x hx=>by cases hx⟩
 |cons p r=>exact IS hl κ (fun a b ha hb=>hg a ha b hb) hp
end
def ltP(c:Cv)(a b:BP):Bool:=decide (Cl c (dec a) (dec b)<0)
def ib(a b:BP):Bool:=aX (dec a) (dec b)==0
def dh(c:Cv)(l:List BP):List BP:=vL ib (r9 (ltP c) l)
theorem jy{c:Cv}{l:List BP}{x:BP}(h:x∈dh c l):x∈l:=pQ.1 (Nq h)
theorem pM{c:Cv}{l:List BP}:(dh c l).length≤l.length:=by
 have:=OL (eq:=ib) (l:=r9 (ltP c) l);rw[DG]at this;exact this
theorem JH{c:Cv}(h:Crp c)(hne:aX (frC c) (toC c)≠0){l:List BP}(hon:∀x∈l,Rpd (dec x:Pt)∧onP c (dec x)=true):oL c (dh c l)∧∀x∈l,∃y∈dh c l,aX (dec y) (dec x)=0:=by
 obtain⟨K,lt,κ,f,hl,hc,ho,hk⟩:=sD h;have sp:∀x∈l,Spb c x:=fun x hx=>⟨(hon x hx).1,(amP.1 (hon x hx).2).1⟩
 have up:=UY hl (fun x:BP=>κ (dec x)) (f:=ltP c) (l:=l) fun a ha b hb=>by
  unfold ltP;rw[anJ,RE.ord_eq h hne (hon a ha).1 (hon b hb).1 (hon a ha).2 (hon b hb).2,ho _ _ (sp a ha) (sp b hb)];exact ll hl hc _ _
 have q:=Ui hl (fun x:BP=>κ (dec x)) (g:=ib) (l:=r9 (ltP c) l) (fun a ha b hb=>by
  unfold ib;rw[anE];exact(hk _ _ (sp a (pQ.1 ha)) (sp b (pQ.1 hb))).symm) up
 refine⟨List.Pairwise.imp_of_mem (fun{a b} ha hb g=>?_) q.1,fun x hx=>?_⟩
 ·have ha':=jy (c:=c) ha;have hb':=jy (c:=c) hb;rw[ho _ _ (sp a ha') (sp b hb')];exact(ll hl hc _ _).2 g
 ·obtain⟨y,hy,e⟩:=q.2 x (pQ.2 hx);exact⟨y,hy,(hk _ _ (sp y (jy (c:=c) hy)) (sp x hx)).1 e⟩
end
theorem acC{c:Cv}(h:Crp c):Crv c:=⟨h.f.1,h.t.1,fun ha=>⟨h.q ha,jL ha h.f,jL ha h.t⟩⟩
theorem nF{c:Cv}(h:Crp c){p:Pt}(hp:Rpd p):onP c p=onR c p:=Xt (acC h) hp
namespace RE
theorem gG{c:Cv}{p:Pt}[Rpd p]:gi c p=true↔bif c.1 then iM (ciC c) (pR p)else j9 (lnC c) (pR p):=by
 unfold gi;cases c.1
 ·exact AD
 ·exact sL
theorem zD{q:Rat}(hq:q≠0){x y:RE}(h:of q*x=of q*y):x=y:=by
 have e:∀z:RE,of q⁻¹*(of q*z)=z:=fun z=>by
  rw[←mul_assoc,←aJ,Rat.inv_mul_cancel _ hq,Md,one_mul]
 rw[←e x,h,e y]
theorem ame(a p q x y:RE):a*(p*x+q*y)=p*(a*x)+a*q*y:=by grind
theorem ale(p a b x y:RE):p*(a*x+b*y)=p*(a*x)+b*p*y:=by grind
theorem alJ(b p q x y:RE):b*(p*x+q*y)=b*p*x+q*(b*y):=by grind
theorem akA(q a b x y:RE):q*(a*x+b*y)=a*q*x+q*(b*y):=by grind
theorem adL{l m:Ln}(hl:l.1≠0∨l.2.1≠0)(h:qH l m=true){v:PE}(hv:j9 l v):j9 m v:=by
 unfold qH at h;obtain⟨h1,h23⟩:=amP.1 h;obtain⟨h2,h3⟩:=amP.1 h23;have h1:=amH h1;have h2:=amH h2;have h3:=amH h3;unfold j9 at*;rcases hl with ha|hb
 ·refine zD ha ?_;rw[ame,←aJ l.1 m.2.1,h1,aJ,←ale,hv,←aJ,←aJ,h2,aoL]
 ·refine zD hb ?_;rw[alJ,←aJ l.2.1 m.1,←h1,aJ,←akA,hv,←aJ,←aJ,h3,aoL]
theorem VP{l m:Ln}(h:qH l m=true):qH m l=true:=by
 unfold qH at*;obtain⟨h1,h23⟩:=amP.1 h;obtain⟨h2,h3⟩:=amP.1 h23;have h1:=amH h1;have h2:=amH h2;have h3:=amH h3;rw[dT (show m.1*l.2.1=m.2.1*l.1 by grind),dT (show m.1*l.2.2=m.2.2*l.1 by grind),dT (show m.2.1*l.2.2=m.2.2*l.2.1 by grind)];rfl
theorem ad7{c d:Ln}(h:t9 c d=true):c=d:=by
 unfold t9 at h;obtain⟨h1,h23⟩:=amP.1 h;obtain⟨h2,h3⟩:=amP.1 h23;exact aoE (amH h1) (aoE (amH h2) (amH h3))
theorem AT{c d:Cv}(h:cY c d=true):c.1=d.1:=by
 unfold cY at h;cases e:c.1==d.1
 ·rw[e]at h;cases h
 ·exact anE.1 e
theorem PV{c d:Cv}(h:cY c d=true)(ha:c.1=true):ciC c=ciC d:=by
 have e:=AT h;unfold cY at h;rw[←e,ha]at h;exact ad7 h
theorem Ps{c d:Cv}(h:cY c d=true)(ha:c.1=false):qH (lnC c) (lnC d)=true:=by
 have e:=AT h;unfold cY at h;rw[←e,ha]at h;exact h
theorem VW{c d:Cv}(h:cY c d=true):cY d c=true:=by
 have e:=AT h;unfold cY;rw[←e,beq_self_eq_true,cond_true];cases ha:c.1
 ·exact VP (Ps h ha)
 ·rw[cond_true,PV h ha];unfold t9;rw[dT rfl,dT rfl,dT rfl];rfl
theorem v7{c d:Cv}(hc:Crp c)(h:cY c d=true){p:Pt}[Rpd p](hp:gi c p=true):gi d p=true:=by
 have e:=AT h;rw[gG]at*;rw[←e];cases ha:c.1
 ·rw[ha,cond_false]at hp;exact adL (hc.l ha) (Ps h ha) hp
 ·rw[ha,cond_true]at hp;rw[cond_true,←PV h ha];exact hp
theorem supF_eq{c:Cv}{p q:Pt}[Rpd p][Rpd q](e:pR p=pR q)(h:gi c p=true):gi c q=true:=by
 rw[gG]at*;rw[←e];exact h
end RE
theorem D2{c:Cv}(h:Crp c){p q r:Pt}(hp:Sp c p)(hq:Sp c q)(hr:Sp c r)(e:aX p q=0):c9 c p r=c9 c q r∧c9 c r p=c9 c r q:=by
 obtain⟨K,lt,κ,f,hl,hc,ho,hk⟩:=sD h;have ek:=(hk p q hp hq).2 e;rw[ho p r hp hr,ho q r hq hr,ho r p hr hp,ho r q hr hq,ek];exact⟨rfl,rfl⟩
theorem afJ{c:Cv}{p q:Pt}(hp:Sp c p)(hq:Rpd q)(e:aX p q=0):Sp c q:=by
 have:=hp.1;exact⟨hq,RE.supF_eq (RE.cmpP_0.1 e) hp.2⟩
theorem OG{p q:Pt}[Rpd p][Rpd q](e:aX p q=0):aX q p=0:=RE.cmpP_0.2 (RE.cmpP_0.1 e).symm
theorem aaH{p q r:Pt}[Rpd p][Rpd q][Rpd r](e:aX p q=0)(e':aX q r=0):aX p r=0:=RE.cmpP_0.2 ((RE.cmpP_0.1 e).trans (RE.cmpP_0.1 e'))
theorem Dy{c:Cv}(h:Crp c){p q:Pt}(hp:Rpd p)(hq:Rpd q)(e:aX p q=0)(ho:onR c p=true):onR c q=true:=by
 obtain⟨h1,h2,h3⟩:=(xZ h hp).1 ho;have sp:Sp c p:=⟨hp,h1⟩
 have sq:=afJ sp hq e;rw[xZ h hq];rw[(D2 h sp sq h.f e).1]at h2;rw[(D2 h sp sq h.t e).2]at h3;exact⟨sq.2,h2,h3⟩
theorem vX{c:Cv}(h:Crp c){p q:Pt}(hp:Rpd p)(hq:Rpd q)(e:aX p q=0):onR c p=onR c q:=by
 cases h1:onR c p
 ·cases h2:onR c q
  ·rfl
  ·rw[Dy h hq hp (OG e) h2]at h1;cases h1
 ·rw[Dy h hp hq e h1]
theorem CD{c:Cv}{x:BP}(hx:Rpd (dec x)):∀{r:List BP},∃y∈fK c r x,aX (dec y) (dec x)=0
 |[]=>⟨x,by simp[fK],RE.cmpP_0.2 rfl⟩
 |z::r=>by
  simp only[fK];cases decide (c9 c (dec z) (dec x)<0)
  ·cases hz:aX (dec z) (dec x)==0
   ·exact⟨x,by simp,RE.cmpP_0.2 rfl⟩
   ·exact⟨z,by simp,anE.1 hz⟩
  ·obtain⟨y,hy,e⟩:=CD (c:=c) hx (r:=r);exact⟨y,amQ _ hy,e⟩
theorem DE{c:Cv}{x:BP}(hx:Rpd (dec x)):∀{l r:List BP},x∈l→∃y∈l.foldl (fK c) r,aX (dec y) (dec x)=0
 |[],_,h=>by cases h
 |z::l,r,h=>by
  rw[aom];rcases amT.1 h with e|e
  ·obtain⟨y,hy,e2⟩:=CD (c:=c) hx (r:=r);exact⟨y,EI (by rw[←e];exact hy),e2⟩
  ·exact DE hx e
theorem Q7{c:Cv}{x:BP}{l:List BP}(hx:Rpd (dec x))(h:x∈l):∃y∈gF c l,aX (dec y) (dec x)=0:=DE hx h
theorem CT{c:Cv}{x:BP}{l:List BP}(h:x∈gF c l):x∈l:=by
 rcases wz h with h|h
 ·cases h
 ·exact h
theorem Ul{c:Cv}(o:Ord c){l:List BP}(hl:∀x∈l,Spb c x):oL c (gF c l):=PA o hl
section
def kv(c d:BCU):List BP:=bif cY (dC c) (dC d)then [c.2.2.2.2.1,c.2.2.2.2.2,d.2.2.2.2.1,d.2.2.2.2.2]else(il (dC c) (dC d)).map enc
def gz(c d:BCU)(p:BP):Bool:=gZ (dC c) (dec p)&&gZ (dC d) (dec p)
def lg(c d:BCU):List BP:=dh (dC c) ((kv c d).filter (gz c d))
theorem l6{c:BCU}(h:vK c):(c.1=true→BdC (ciC (dC c))∧0<(ciC (dC c)).2.2)∧(c.1=false→BdL (lnC (dC c))∧((lnC (dC c)).1≠0∨(lnC (dC c)).2.1≠0)):=by
 refine⟨fun e=>?_,fun e=>?_⟩
 ·obtain⟨l,e1,bl,nl⟩:=cE (h.1 e);show BdC (dec c.2.2.1)∧_;rw[show ciC (dC c)=dec c.2.2.1 from rfl,e1,az];exact⟨bl,nl⟩
 ·obtain⟨l,e1,bl,nl⟩:=eF (h.2 e);show BdL (dec c.2.1)∧_;rw[show lnC (dC c)=dec c.2.1 from rfl,e1,az];exact⟨bl,nl⟩
namespace RE
theorem Jl{c d:BCU}(hc:vK c)(hd:vK d)(v:PE):(∃p∈il (dC c) (dC d),pR p=v)↔∃p∈tg (dC c) (dC d),pR p=v:=by
 obtain⟨c1,c2⟩:=l6 hc;obtain⟨d1,d2⟩:=l6 hd;have ec:(dC c).1=c.1:=rfl;have ed:(dC d).1=d.1:=rfl;unfold il tg;rw[ec,ed];cases ha:c.1<;>cases hb:d.1
 ·exact Iff.rfl
 ·exact E7 (c2 ha).2 v
 ·exact E7 (d2 hb).2 v
 ·show(∃p∈vM _ _,pR p=v)↔∃p∈yR _ _,pR p=v;unfold vM yR;cases hq:iO (ciC (dC c)) (ciC (dC d))
  ·exact E7 (Bp hq) v
  ·exact Iff.rfl
theorem supM_on{c d:BCU}(hc:vK c)(hd:vK d){p:Pt}(hp:p∈il (dC c) (dC d)):Bd p 1200∧Rpd p∧gi (dC c) p=true∧gi (dC d) p=true:=by
 obtain⟨c1,c2⟩:=l6 hc;obtain⟨d1,d2⟩:=l6 hd;have ec:(dC c).1=c.1:=rfl;have ed:(dC d).1=d.1:=rfl;unfold il at hp;rw[ec,ed]at hp;cases ha:c.1<;>cases hb:d.1<;>rw[ha,hb]at hp
 ·have i1:=(c2 ha).1;have i2:=(d2 hb).1;have hp:p∈qM (lnC (dC c)) (lnC (dC d)):=hp;obtain⟨b,r⟩:=wA.2 p hp;obtain⟨o1,o2⟩:=acf hp;refine⟨b.mono (by decide),r,?_,?_⟩
  ·rw[gG,ec,ha];exact o1
  ·rw[gG,ed,hb];exact o2
 ·have i1:=(c2 ha).1;have i2:=(d1 hb).1;have hp:p∈lU (lnC (dC c)) (ciC (dC d)):=hp;obtain⟨b,r⟩:=tv.2 p hp;obtain⟨o1,o2⟩:=OY (c2 ha).2 hp;refine⟨b,r,?_,?_⟩
  ·rw[gG,ec,ha];exact o1
  ·rw[gG,ed,hb];exact o2
 ·have i1:=(c1 ha).1;have i2:=(d2 hb).1;have hp:p∈lU (lnC (dC d)) (ciC (dC c)):=hp;obtain⟨b,r⟩:=tv.2 p hp;obtain⟨o1,o2⟩:=OY (d2 hb).2 hp;refine⟨b,r,?_,?_⟩
  ·rw[gG,ec,ha];exact o2
  ·rw[gG,ed,hb];exact o1
 ·have i1:=(c1 ha).1;have i2:=(d1 hb).1;have hp:p∈vM (ciC (dC c)) (ciC (dC d)):=hp;unfold vM at hp;cases hq:iO (ciC (dC c)) (ciC (dC d))<;>rw[hq]at hp
  ·have i3:BdL (ou (ciC (dC c)) (ciC (dC d))):=w8;obtain⟨b,r⟩:=tv.2 p hp;obtain⟨o1,o2⟩:=OY (Bp hq) hp;refine⟨b,r,?_,?_⟩
   ·rw[gG,ec,ha];exact o2
   ·rw[gG,ed,hb];exact adF o1 o2
  ·cases hp
end RE
open RE
theorem gdN.crp{c:BCU}(h:gdN c):Crp (dC c):=uo h.gd
theorem gdN.ne{c:BCU}(h:gdN c):aX (frC (dC c)) (toC (dC c))≠0:=h.2.2.2
theorem gdN.fr{c:BCU}(h:gdN c):okP 500 c.2.2.2.2.1:=h.1.1.2.2.1
theorem gdN.to{c:BCU}(h:gdN c):okP 500 c.2.2.2.2.2:=h.1.1.2.2.2
theorem wj{c d:BCU}(hc:gdN c)(hd:gdN d):(kv c d).length≤4∧∀x∈kv c d,okP 1200 x∧Spb (dC c) x∧Spb (dC d) x:=by
 have kc:=hc.crp;have kd:=hd.crp;unfold kv;cases hs:cY (dC c) (dC d)
 ·refine⟨?_,fun x hx=>?_⟩
  ·simp only[cond_false,aon];have:∀l c,[BdL l]→[BdC c]→(lU l c).length≤4:=fun l c _ _=>amS tv.1 (by decide);obtain⟨c1,c2⟩:=l6 hc.1.2;obtain⟨d1,d2⟩:=l6 hd.1.2;have ec:(dC c).1=c.1:=rfl;have ed:(dC d).1=d.1:=rfl;unfold il;rw[ec,ed];cases ha:c.1<;>cases hb:d.1
   ·have i1:=(c2 ha).1;have i2:=(d2 hb).1;exact amS wA.1 (by decide)
   ·have i1:=(c2 ha).1;have i2:=(d1 hb).1;exact this _ _
   ·have i1:=(c1 ha).1;have i2:=(d2 hb).1;exact this _ _
   ·have i1:=(c1 ha).1;have i2:=(d1 hb).1;show(vM _ _).length≤4;unfold vM;cases hq:iO (ciC (dC c)) (ciC (dC d))
    ·have i3:BdL (ou (ciC (dC c)) (ciC (dC d))):=w8;exact this _ _
    ·exact ao7 _
  ·obtain⟨p,hp,rfl⟩:=anQ.1 hx;obtain⟨b,r,o1,o2⟩:=supM_on hc.1.2 hd.1.2 hp;refine⟨amH (aI (by decide) (by decide)),?_,?_⟩
   ·unfold Spb;rw[az];exact⟨r,o1⟩
   ·unfold Spb;rw[az];exact⟨r,o2⟩
 ·have hs':=VW hs;refine⟨by simp,fun x hx=>?_⟩;have:x=c.2.2.2.2.1∨x=c.2.2.2.2.2∨x=d.2.2.2.2.1∨x=d.2.2.2.2.2:=by simpa using hx
  have up:∀{x},okP 500 x→okP 1200 x:=fun h=>cD h (by decide) (by decide);rcases this with e|e|e|e<;>rw[e]
  ·have i:Rpd (dec c.2.2.2.2.1:Pt):=kc.f.1;exact⟨up hc.fr,kc.f,kc.f.1,v7 kc hs kc.f.2⟩
  ·have i:Rpd (dec c.2.2.2.2.2:Pt):=kc.t.1;exact⟨up hc.to,kc.t,kc.t.1,v7 kc hs kc.t.2⟩
  ·have i:Rpd (dec d.2.2.2.2.1:Pt):=kd.f.1;exact⟨up hd.fr,⟨kd.f.1,v7 kd hs' kd.f.2⟩,kd.f⟩
  ·have i:Rpd (dec d.2.2.2.2.2:Pt):=kd.t.1;exact⟨up hd.to,⟨kd.t.1,v7 kd hs' kd.t.2⟩,kd.t⟩
theorem wC{c d:BCU}(hc:gdN c)(hd:gdN d){x:BP}(hx:x∈lg c d):x∈kv c d∧okP 1200 x∧Spb (dC c) x∧Spb (dC d) x∧onR (dC c) (dec x)=true∧onR (dC d) (dec x)=true:=by
 obtain⟨hm,hk⟩:=aoD.1 (jy hx);obtain⟨h0,h1,h2⟩:=(wj hc hd).2 x hm;obtain⟨k1,k2⟩:=amP.1 hk;refine⟨hm,h0,h1,h2,?_,?_⟩
 ·rw[←nF hc.crp h1.1];exact amP.2 ⟨h1.2,k1⟩
 ·rw[←nF hd.crp h2.1];exact amP.2 ⟨h2.2,k2⟩
theorem C6{c d:BCU}{x:BP}(hx:x∈lc c d):x∈rW c d∧onR (dC c) (dec x)=true∧onR (dC d) (dec x)=true:=by
 obtain⟨hm,hk⟩:=aoD.1 (CT (show x∈gF (dC c) (JT c d) from hx));exact⟨hm,amP.1 hk⟩
theorem Ji{c d:BCU}{x:BP}(hc:gdN c)(hd:gdN d)(hr:Rpd (dec x:Pt))(h1:onR (dC c) (dec x)=true)(h2:onR (dC d) (dec x)=true):gz c d x=true:=by
 rw[←nF hc.crp hr]at h1;rw[←nF hd.crp hr]at h2;exact amP.2 ⟨(amP.1 h1).2,(amP.1 h2).2⟩
theorem Ly{c d:BCU}(hc:gdN c)(hd:gdN d):∀x∈(kv c d).filter (gz c d),Rpd (dec x:Pt)∧onP (dC c) (dec x)=true:=fun x hx=>by
 obtain⟨hm,hk⟩:=aoD.1 hx;obtain⟨h0,h1,h2⟩:=(wj hc hd).2 x hm;exact⟨h1.1,amP.2 ⟨h1.2,(amP.1 hk).1⟩⟩
theorem BC{c d:BCU}(h:fy c d){x:BP}(hx:x∈rW c d):Rpd (dec x:Pt):=kZ ((Ay h).2 x hx)
theorem TE{c d:BCU}(hc:gdN c)(hd:gdN d):eqL (lg c d) (lc c d):=by
 have kc:=hc.crp;have kd:=hd.crp;obtain⟨p1,p2⟩:=JH kc hc.ne (Ly hc hd);have hmp:fy c d:=⟨hc.1,hd.1⟩
 have rdL:∀x∈lc c d,Rpd (dec x:Pt):=fun x hx=>BC hmp (C6 hx).1
 have spL:∀x∈JT c d,Spb (dC c) x:=fun x hx=>by
  obtain⟨hm,hk⟩:=aoD.1 hx;have r:=BC hmp hm;exact⟨r,((xZ kc r).1 (amP.1 hk).1).1⟩
 refine LX kc (fun x hx=>(wC hc hd hx).2.2.1) (fun x hx=>spL x (CT hx)) p1 (Ul (ux kc) spL) (fun a ha=>?_) (fun b hb=>?_)
 ·obtain⟨hm,_,s1,s2,o1,o2⟩:=wC hc hd ha;have ra:=s1.1
  have key:∃z∈rW c d,aX (dec z) (dec a)=0∧Rpd (dec z:Pt):=by
   unfold kv at hm;cases hs:cY (dC c) (dC d)<;>rw[hs]at hm
   ·obtain⟨p,hp,e⟩:=anQ.1 hm;obtain⟨q,hq,e2⟩:=(Jl hc.1.2 hd.1.2 (pR p)).1 ⟨p,hp,rfl⟩
    have hz:enc q∈rW c d:=by
     unfold rW;rw[hs];exact anQ.2 ⟨q,hq,rfl⟩
    have rz:=BC hmp hz;refine⟨enc q,hz,?_,rz⟩;refine cmpP_0.2 ?_;rw[az,e2,←e,az]
   ·refine⟨a,?_,cmpP_0.2 rfl,ra⟩;unfold rW;rw[hs];exact hm
  obtain⟨z,hz,ez,rz⟩:=key
  have hb:z∈JT c d:=by
   refine aoD.2 ⟨hz,?_⟩;rw[vX kc rz ra ez,vX kd rz ra ez,o1,o2];rfl
  obtain⟨y,hy,ey⟩:=Q7 (c:=dC c) rz hb;have ry:=rdL y hy;exact⟨y,hy,OG (aaH ey ez)⟩
 ·obtain⟨hm,o1,o2⟩:=C6 hb;have rb:=BC hmp hm
  have key:∃z∈kv c d,aX (dec z) (dec b)=0:=by
   unfold rW at hm;cases hs:cY (dC c) (dC d)<;>rw[hs]at hm
   ·obtain⟨p,hp,e⟩:=anQ.1 hm;obtain⟨q,hq,e2⟩:=(Jl hc.1.2 hd.1.2 (pR p)).2 ⟨p,hp,rfl⟩
    have hz:enc q∈kv c d:=by
     unfold kv;rw[hs];exact anQ.2 ⟨q,hq,rfl⟩
    have rz:=((wj hc hd).2 _ hz).2.1.1;refine⟨enc q,hz,cmpP_0.2 ?_⟩;rw[az,e2,←e,az]
   ·refine⟨b,?_,cmpP_0.2 rfl⟩;unfold kv;rw[hs];exact hm
  obtain⟨z,hz,ez⟩:=key;have rz:=((wj hc hd).2 z hz).2.1.1
  have hk:z∈(kv c d).filter (gz c d):=by
   refine aoD.2 ⟨hz,Ji hc hd rz ?_ ?_⟩
   ·rw[vX kc rz rb ez,o1]
   ·rw[vX kd rz rb ez,o2]
  obtain⟨y,hy,ey⟩:=p2 z hk;have ry:=(wC hc hd hy).2.2.1.1;exact⟨y,hy,aaH ey ez⟩
end
end Go.Proofs.YtnkndpoojnflmaaGreat
end
