/- Pieces of a curve: the program's are the reference's. -/
import Derived.Test.YtnkndpoojnflmaaGreatA16
import Derived.Test.YtnkndpoojnflmaaGreatA14
import Derived.Test.YtnkndpoojnflmaaGreatA15
noncomputable section
namespace Go.Proofs.YtnkndpoojnflmaaGreat
open Go.RowKit Go.IntKind
theorem apG:type_of% @List.any_cons:=@List.any_cons
theorem apS:type_of% @decide_not:=@decide_not
section
open RE
def yX(c:BCU):BP→List BP→List BCU
 |f,[]=>[Cy c f c.2.2.2.2.2]
 |f,p::r=>bif ib p c.2.2.2.2.1||ib p c.2.2.2.2.2 then yX c f r else Cy c f p::yX c p r
def abp(c:BCU)(l:List BP):List BCU:=yX c c.2.2.2.2.1 (dh (dC c) l)
def abZ(c:BCU)(l:List BP):Bool:=l.any fun p=>!onP (dC c) (dec p)
def rh(c:BCU)(l:List BP):List BCU:=bif abZ c l then []else abp c l
def alE(c:BCU)(l:List BP):Int:=bif abZ c l then 1 else 0
section
variable {c:BCU} (h:gdN c) {l:List BP} (ho:∀x∈l,Rpd (dec x:Pt)∧onR (dC c) (dec x)=true)
include h ho
omit h ho in
end
end
section
open RE
def frB(c:BCU):BP:=c.2.2.2.2.1
def toB(c:BCU):BP:=c.2.2.2.2.2
def DD(d p:BCU):Bool:=(onP (dC d) (dec (frB p))&&onP (dC d) (dec (toB p)))&&(bif d.1 then !ib (frB (dS p)) (toB (dS d))&&decide (gu aW (ptd (dec (dS d).2.2.1) (dec (frB (dS p)))) (ptd (dec (dS d).2.2.1) (dec (toB (dS p)))) (ptd (dec (dS d).2.2.1) (dec (toB (dS d))))≤0)else true)
def yE(c d:BCU)(l:List BP):Bool:=(rh c l).any (DD d)
def qJ(c d:BCU):Bool:=cY (dC c) (dC d)&&yE c d (lg c d)
end
def iD(d p q r:Rat):Int:=sgQ (d-p-q-r*r,-2*r,-2*r,-2,p,q)
def uX(x y z r:Rat):Int:=sgQ (x+y-z-r*r,2,-(2*r),0,x*y,z)
def JW(a b c d:Rat):Int:=sgQ (a+b-(c+d),2,-2,0,a*b,c*d)
def B0(a b c r:Rat):Int:=bif decide (r*r<c)then 1 else sgQ (a+b-(r*r+c),2,r+r,0,a*b,c)
def FL(a b r:Rat):Int:=bif decide (a<b)then iD b a 0 r else iD a b 0 r
def sH(a b c r:Rat):Int:=bif decide (iD c a b 0>0)then iD c a b r else JW a b c (r*r)
def mx2(a b:Int):Int:=if b>a then b else a
theorem xI(a b:Int):mn2 a b=min a b:=by unfold mn2;omega
theorem ace(a b:Int):mx2 a b=max a b:=by unfold mx2;omega
theorem Ju(a b c d:Int):Gy a b c d=min (min (min a b) c) d:=by unfold Gy;simp only[xI]
def qI(b:Bool)(x:Int):Int:=bif b then x else 1
def ftv(s a:Cv):Rat×Rat:=dp (lnC s) (ctr (ciC a))
def wyv(c d:Cv):Rat×Rat:=bi (ctr (ciC c)) (ctr (ciC d))
def Dh(s a:Cv)(r:Rat):Int:=qI (onP s (atP (ftv s a))) (qY a (ftv s a) r)
def CZ(s a:Cv)(r:Rat):Int:=qI (onR s (atP (ftv s a))&&co a (bi (ctr (ciC a)) (ftv s a))) (FL (aY (bi (ctr (ciC a)) (ftv s a)) (bi (ctr (ciC a)) (ftv s a))) (ciC a).2.2 r)
def nT(c d:Cv):Bool:=co c (wyv c d)
def fT(c d:Cv):Bool:=co c (bkV (wyv c d))
def nD(c d:Cv):Rat:=aY (wyv c d) (wyv c d)
def Kg(c d:Cv)(r:Rat):Int:=bif decide (nD c d=0)then 1 else
 min (min (qI (nT c d&&co d (bkV (wyv c d))) (max (iD (nD c d) (ciC c).2.2 (ciC d).2.2 r) (uX (ciC c).2.2 (ciC d).2.2 (nD c d) r)))
  (qI (nT c d&&co d (wyv c d)) (max (uX (nD c d) (ciC d).2.2 (ciC c).2.2 r) (iD (ciC c).2.2 (nD c d) (ciC d).2.2 r))))
  (qI (fT c d&&co d (bkV (wyv c d))) (max (uX (nD c d) (ciC c).2.2 (ciC d).2.2 r) (iD (ciC d).2.2 (nD c d) (ciC c).2.2 r)))
theorem wP(q:Qd):sgQ q≤1:=(HR _ _ _ _ _ _).2
def KR(c d:Cv)(r:Rat):Int:=bif decide (nD c d=0)then 1 else
 min (min (min (qI (nT c d&&co d (bkV (wyv c d))) (sH (ciC c).2.2 (ciC d).2.2 (nD c d) r))
  (qI (nT c d&&co d (wyv c d)) (sH (nD c d) (ciC d).2.2 (ciC c).2.2 r)))
  (qI (fT c d&&co d (bkV (wyv c d))) (sH (nD c d) (ciC c).2.2 (ciC d).2.2 r)))
  (qI (fT c d&&co d (wyv c d)) (B0 (nD c d) (ciC c).2.2 (ciC d).2.2 r))
def ng(c d:Cv)(r:Rat):Int:=min (min (min (RE.poiE d (RE.pR (frC c)) r) (RE.poiE d (RE.pR (toC c)) r)) (RE.poiE c (RE.pR (frC d)) r)) (RE.poiE c (RE.pR (toC d)) r)
def u6(c d:Cv)(r:Rat):Int:=bif c.1 then(bif d.1 then min (ng c d r) (Kg c d r)else min (ng c d r) (Dh d c r))else bif d.1 then min (ng c d r) (Dh c d r)else ng c d r
def UM(c d:Cv)(r:Rat):Int:=bif c.1 then(bif d.1 then min (ng c d r) (KR c d r)else min (ng c d r) (CZ d c r))else bif d.1 then min (ng c d r) (CZ c d r)else ng c d r
def Ku(m:Bool)(o:Int)(r:Rat):Int:=bif decide (r<0)then 1 else bif m then-aD r 0 else o
def n3P(x y z:BR):Prop:=ok Rat 2000 x∧ok Rat 2000 y∧ok Rat 2000 z∧0≤ag x∧0≤ag y∧0≤ag z
instance (x y z:BR):Decidable (n3P x y z):=by unfold n3P;infer_instance
def n4P(x y z r:BR):Prop:=n3P x y z∧ok Rat 2000 r∧0≤ag r
instance (x y z r:BR):Decidable (n4P x y z r):=by unfold n4P;infer_instance
theorem Re{x y z:BR}(h:n3P x y z):∃a b c:Rat,x=enc a∧y=enc b∧z=enc c∧Bd a 2000∧Bd b 2000∧Bd c 2000∧0≤a∧0≤b∧0≤c:=by
 obtain⟨h1,h2,h3,h4,h5,h6⟩:=h;obtain⟨a,rfl,ba⟩:=aB h1;obtain⟨b,rfl,bb⟩:=aB h2;obtain⟨c,rfl,bc⟩:=aB h3;rw[dN,ck]at h4 h5 h6;exact⟨a,b,c,rfl,rfl,rfl,ba,bb,bc,h4,h5,h6⟩
theorem DZ{x y z r:BR}(h:n4P x y z r):∃a b c e:Rat,(x=enc a∧y=enc b∧z=enc c∧r=enc e)∧Bd a 2000∧Bd b 2000∧Bd c 2000∧Bd e 2000∧0≤a∧0≤b∧0≤c∧0≤e:=by
 obtain⟨h,h1,h2⟩:=h;obtain⟨a,b,c,e1,e2,e3,ba,bb,bc,na,nb,nc⟩:=Re h;obtain⟨e,rfl,be⟩:=aB h1;rw[dN,ck]at h2;exact⟨a,b,c,e,⟨e1,e2,e3,rfl⟩,ba,bb,bc,be,na,nb,nc,h2⟩
theorem Yh{a b c:Rat}{i j k:Nat}[ba:Bd a i][bb:Bd b j][bc:Bd c k](hi:i≤2000)(hj:j≤2000)(hk:k≤2000)(na:0≤a)(nb:0≤b)(nc:0≤c):n3P (ak a) (ak b) (ak c):=
 ⟨amH (okd hi (by decide)),amH (okd hj (by decide)),amH (okd hk (by decide)),by rwa [ck],by rwa [ck],by rwa [ck]⟩
theorem ahE{a b c e:Rat}{i j k l:Nat}[ba:Bd a i][bb:Bd b j][bc:Bd c k][be:Bd e l](hi:i≤2000)(hj:j≤2000)(hk:k≤2000)(hl:l≤2000)(na:0≤a)(nb:0≤b)(nc:0≤c)(ne:0≤e):n4P (ak a) (ak b) (ak c) (ak e):=
 ⟨Yh hi hj hk na nb nc,amH (okd hl (by decide)),by rwa [ck]⟩
theorem UW{a b c:Rat}{i j k:Nat}[ba:Bd a i][bb:Bd b j][bc:Bd c k](hi:i≤2000)(hj:j≤2000)(hk:k≤2000)(na:0≤a)(nb:0≤b)(nc:0≤c):decide (n3P (ak a) (ak b) (ak c))=true:=amE (Yh hi hj hk na nb nc)
theorem xk{a b c e:Rat}{i j k l:Nat}[ba:Bd a i][bb:Bd b j][bc:Bd c k][be:Bd e l](hi:i≤2000)(hj:j≤2000)(hk:k≤2000)(hl:l≤2000)(na:0≤a)(nb:0≤b)(nc:0≤c)(ne:0≤e):decide (n4P (ak a) (ak b) (ak c) (ak e))=true:=amE (ahE hi hj hk hl na nb nc ne)
def vJ(s a:BCU):Prop:=mG s∧mG a∧s.1=false∧a.1=true
instance (s a:BCU):Decidable (vJ s a):=by unfold vJ;infer_instance
def CL(c d:BCU):Prop:=mG c∧mG d∧c.1=true∧d.1=true
instance (c d:BCU):Decidable (CL c d):=by unfold CL;infer_instance
def pE(c d:BCU)(r:Rat):Int:=Ku (decide (((lg c d).length:Int)>0)||qJ c d) (u6 (dC c) (dC d) r) r
def RB(c d:BCU)(r:Rat):Int:=Ku (Dk c d||decide (((lc c d).length:Int)>0)) (UM (dC c) (dC d) r) r
namespace RE
theorem ma{a b:RE}(ha:0≤a)(hb:0≤b):sg (a*a-b*b)=sg (a-b):=by
 have e:a*a-b*b=(a+b)*(a-b):=by grind
 rcases fU (show 0≤a+b by grind)with h|h
 ·rw[e,mK h]
 ·rw[show a=0 by grind,show b=0 by grind,zero_mul]
theorem acF(x:RE){r:RE}(hr:0≤r):max (sg (x-r)) (sg (-x-r))=sg (x*x-r*r):=by
 rcases lt_or_ge x 0 with h|h
 ·have:=ma (show 0≤ -x by grind) hr;rw[show x*x= -x* -x by grind,this,Int.max_eq_right (pV (by grind))]
 ·rw[ma h hr,Int.max_eq_left (pV (by grind))]
theorem I5{x:RE}(h:x≤0){r:RE}(hr:0≤r):sg (-x-r)=sg (x*x-r*r):=by
 rw[←ma (show 0≤ -x by grind) hr,show-x* -x=x*x by grind]
theorem wK{d p q r:Rat}(hd:0≤d)(hp:0≤p)(hq:0≤q)(hr:0≤r):iD d p q r=sg (rq d-rq p-rq q-of r):=by
 have a:=cQ hd;have b:=cQ hp;have c:=cQ hq;have t:=eO p;have u:=eO q;have w:=fu.2 hr;unfold iD
 rw[oS hp hq,show rq d-rq p-rq q-of r=rq d-(rq p+rq q+of r) by grind,←ma (eO d) (show 0≤rq p+rq q+of r by
  have:of 0=0:=rfl;grind)]
 refine congrArg sg ?_;unfold vq vQ;have two:of (-2)= -2:=rfl;simp only[of_sub,aJ,two];grind
theorem aeQ{x y z r:Rat}(hx:0≤x)(hy:0≤y)(hz:0≤z)(hr:0≤r):uX x y z r=sg (rq x+rq y-rq z-of r):=by
 have a:=cQ hx;have b:=cQ hy;have c:=cQ hz;have t:=eO x;have u:=eO y;have v:=eO z;have w:0≤of r:=fu.2 hr;unfold uX;rw[oS (amU hx hy) hz,show rq x+rq y-rq z-of r=rq x+rq y-(rq z+of r) by grind,←ma (show 0≤rq x+rq y by grind) (show 0≤rq z+of r by grind)];refine congrArg sg ?_;unfold vq vQ;have two:of 2=2:=rfl;have zo:of 0=0:=rfl;simp only[of_sub,of_add,aJ,of_neg,two,zo,uH hx hy];grind
theorem abn{a b c d:Rat}(ha:0≤a)(hb:0≤b)(hc:0≤c)(hd:0≤d):JW a b c d=sg (rq a+rq b-rq c-rq d):=by
 have e1:=cQ ha;have e2:=cQ hb;have e3:=cQ hc;have e4:=cQ hd;have t:=eO a;have u:=eO b;have v:=eO c;have w:=eO d;unfold JW;rw[oS (amU ha hb) (amU hc hd),show rq a+rq b-rq c-rq d=rq a+rq b-(rq c+rq d) by grind,←ma (show 0≤rq a+rq b by grind) (show 0≤rq c+rq d by grind)];refine congrArg sg ?_;unfold vq vQ;have two:of 2=2:=rfl;have mtwo:of (-2)= -2:=rfl;have zo:of 0=0:=rfl;simp only[of_sub,of_add,two,mtwo,zo,uH ha hb,uH hc hd];grind
theorem JG{r:Rat}(hr:0≤r):rq (r*r)=of r:=D1 _ _ (eO _) (fu.2 hr) (by rw[cQ (amU hr hr),aJ])
theorem P6:rq 0=0:=by
 have:=JG (r:=0) (by decide);rwa [Rat.zero_mul]at this
theorem adk{a b c r:Rat}(ha:0≤a)(hb:0≤b)(hc:0≤c)(hr:0≤r):B0 a b c r=sg ((rq a+rq b+rq c)*(rq a+rq b+rq c)-of r*of r):=by
 have e1:=cQ ha;have e2:=cQ hb;have e3:=cQ hc;have t:=eO a;have u:=eO b;have v:=eO c;have w:0≤of r:=fu.2 hr;unfold B0;rw[ma (show 0≤rq a+rq b+rq c by grind) w];by_cases h:r*r<c
 ·have g:of r<rq c:=by
   refine sq_lt _ _ w v ?_;rw[e3,←aJ];exact ik h
  rw[dT h,dM (by grind)];rfl
 ·have g:rq c≤of r:=by
   refine t7 _ _ v w ?_;rw[e3,←aJ];exact fu.2 (by grind)
  rw[dF h,oS (amU ha hb) hc,show rq a+rq b+rq c-of r=rq a+rq b-(of r-rq c) by grind,←ma (show 0≤rq a+rq b by grind) (show 0≤of r-rq c by grind)];refine congrArg sg ?_;unfold vq vQ;have two:of 2=2:=rfl;have zo:of 0=0:=rfl;simp only[of_sub,of_add,aJ,two,zo,uH ha hb];grind
theorem adX{a b r:Rat}(ha:0≤a)(hb:0≤b)(hr:0≤r):FL a b r=sg ((rq a-rq b)*(rq a-rq b)-of r*of r):=by
 have w:0≤of r:=fu.2 hr;have mono:∀{x y:Rat},0≤x→x≤y→rq x≤rq y:=fun{x y} h0 h=>t7 _ _ (eO _) (eO _) (by rw[cQ h0,cQ (by grind)];exact fu.2 h);unfold FL;by_cases h:a<b
 ·rw[dT h,cond_true,wK hb ha (by decide) hr,P6,←I5 (show rq a-rq b≤0 by have:=mono ha (show a≤b by grind);grind) w];exact congrArg sg (by grind)
 ·rw[dF h,cond_false,wK ha hb (by decide) hr,P6,ma (show 0≤rq a-rq b by have:=mono hb (show b≤a by grind);grind) w];exact congrArg sg (by grind)
theorem abB{a b c r:Rat}(ha:0≤a)(hb:0≤b)(hc:0≤c)(hr:0≤r):sH a b c r=sg ((rq a+rq b-rq c)*(rq a+rq b-rq c)-of r*of r):=by
 have w:0≤of r:=fu.2 hr;have zo:of 0=0:=rfl;unfold sH;rw[wK hc ha hb (by decide),zo];rcases bh (rq c-rq a-rq b-0)with⟨h,e⟩|⟨h,e⟩|⟨h,e⟩<;>rw[e]
 ·show iD c a b r=_;rw[wK hc ha hb hr,←I5 (show rq a+rq b-rq c≤0 by grind) w];exact congrArg sg (by grind)
 all_goals
  show JW a b c (r*r)=_;rw[abn ha hb hc (amU hr hr),JG hr,ma (show 0≤rq a+rq b-rq c by grind) w]
theorem G4{a b c r:Rat}(ha:0≤a)(hb:0≤b)(hc:0≤c)(hr:0≤r):max (iD c a b r) (uX a b c r)=sH a b c r:=by
 rw[wK hc ha hb hr,aeQ ha hb hc hr,abB ha hb hc hr,←acF _ (fu.2 hr),Int.max_comm];exact congrArg (max _) (congrArg sg (by grind))
end RE
section
open RE
theorem Gi{s a:BCU}(hs:vK s)(ha:vK a)(e:s.1=false)(e':a.1=true):Bd (ftv (dC s) (dC a)) 200:=by
 obtain⟨bl,_⟩:=(l6 hs).2 e;obtain⟨bc,_⟩:=(l6 ha).1 e';have x1:Bd (mZ (lnC (dC s)) (ctr (ciC (dC a)))) _:=(inferInstance:Bd (((lnC (dC s)).1*(ciC (dC a)).1+(lnC (dC s)).2.1*(ciC (dC a)).2.1-(lnC (dC s)).2.2)/((lnC (dC s)).1*(lnC (dC s)).1+(lnC (dC s)).2.1*(lnC (dC s)).2.1)) _)
 exact(inferInstance:Bd (((ciC (dC a)).1-mZ (lnC (dC s)) (ctr (ciC (dC a)))*(lnC (dC s)).1,(ciC (dC a)).2.1-mZ (lnC (dC s)) (ctr (ciC (dC a)))*(lnC (dC s)).2.1):Rat×Rat) _).mono (by decide)
theorem aev(x:RE):sg x≤1:=(WK x).2
theorem FW{c:Cv}(h:GdE c){p q:PE}(hq:onE c q){r:Rat}(hr:0≤r):poiE c p r≤sg (dsE q p-of (r*r)):=by
 obtain⟨m,hm,e⟩:=Sg h p;rw[e r hr];exact pV (sU _ _ _ (hm.2 q hq))
theorem Tc{c:Cv}(h:GdE c)(p:PE){r:Rat}(hr:0≤r):poiE c p r≤1:=by
 obtain⟨m,_,e⟩:=Sg h p;rw[e r hr];exact aev _
theorem L4(p q:PE):dsE p q=dsE q p:=by unfold dsE;grind
theorem TM{c:Cv}(h:GdE c):onE c (pR (frC c))∧onE c (pR (toC c)):=by
 cases ha:c.1
 ·obtain⟨_,oF,oT⟩:=h.l ha;rw[Q0 ha];exact⟨⟨oF,by unfold btE;grind⟩,⟨oT,by unfold btE;grind⟩⟩
 ·have g:=age h ha;rw[L6 ha];have u:RE.arcE (ciC c) (pR (ccF c)) (pR (ccT c)) (pR (ccF c)):=⟨g.u,(oC _ _).1⟩
  have w:RE.arcE (ciC c) (pR (ccF c)) (pR (ccT c)) (pR (ccT c)):=⟨g.w,(oC _ _).2⟩
  rcases yq c with⟨g1,g2⟩|⟨g1,g2⟩<;>rw[g1,g2]at u w ⊢
  ·exact⟨u,w⟩
  ·exact⟨w,u⟩
theorem aeG{c:BCU}(h:gdN c){v:Rat×Rat}(hv:Bd v 200){r:Rat}(hr:0≤r):qY (dC c) v r=sg (vR (ow (dC c) v)-of (r*r)):=by
 unfold qY;rw[dF (show ¬r<0 by grind),cond_false,cmpTR_re (Bm (bv:=hv) h.1.1).2.nn]
theorem R4{s a:BCU}(hs:gdN s)(ha:gdN a)(es:s.1=false)(ea:a.1=true){r:Rat}(hr:0≤r){E:Int}(h1:E≤1)(h2:E≤poiE (dC s) (pR (frC (dC a))) r)(h3:E≤poiE (dC s) (pR (toC (dC a))) r):min E (Dh (dC s) (dC a) r)=min E (CZ (dC s) (dC a) r):=by
 have bf:=Gi hs.1.2 ha.1.2 es ea;have hp:Rpd (atP (ftv (dC s) (dC a))):=inferInstance;have e1:(dC a).1=true:=ea;have dr:=aeG ha bf hr;unfold Dh CZ;rw[nF hs.crp hp];cases o:onR (dC s) (atP (ftv (dC s) (dC a)))
 ·rfl
 ·have oe:onE (dC s) (vE (ftv (dC s) (dC a))):=by
   rw[←nF hs.crp hp]at o;have:=(H5 hs.e).1 o;rwa [oD]at this
  cases t:co (dC a) (bi (ctr (ciC (dC a))) (ftv (dC s) (dC a)))
  ·show min E (qY _ _ _)=min E 1;rw[Int.min_eq_left h1];refine Int.min_eq_left ?_
   have:ow (dC a) (ftv (dC s) (dC a))=yV (dC a) (ftv (dC s) (dC a)):=by
    unfold ow bW;rw[e1,t];rfl
   rw[dr,this,QL ha.e.f ha.e.t,←QR];have k1:=FW hs.e (p:=pR (frC (dC a))) oe hr;have k2:=FW hs.e (p:=pR (toC (dC a))) oe hr;rw[L4]at k1 k2;exact Int.le_min.2 ⟨Int.le_trans h2 k1,Int.le_trans h3 k2⟩
  ·show min E (qY _ _ _)=min E (FL _ _ _);have hq:=ha.crp.q ea;have hn:=jT (bi (ctr (ciC (dC a))) (ftv (dC s) (dC a)))
   have:ow (dC a) (ftv (dC s) (dC a))=mkR (aY (bi (ctr (ciC (dC a))) (ftv (dC s) (dC a))) (bi (ctr (ciC (dC a))) (ftv (dC s) (dC a)))+(ciC (dC a)).2.2) (-2) (aY (bi (ctr (ciC (dC a))) (ftv (dC s) (dC a))) (bi (ctr (ciC (dC a))) (ftv (dC s) (dC a)))*(ciC (dC a)).2.2):=by
    unfold ow bW;rw[e1,t];rfl
   rw[dr,this,vR_mk,adX hn (by grind) hr];have a1:=cQ hn;have a2:=cQ (m:=(ciC (dC a)).2.2) (by grind);unfold v2;have two:of (-2)= -2:=rfl;rw[uH hn (by grind),of_add,two,aJ r r];exact congrArg _ (congrArg _ (by grind))
theorem afl{u w:PE}{a b:RE}(ha:0≤a)(hb:0≤b)(hu:dtE u u=a*a)(hw:dtE w w=b*b):dtE (u.1+w.1,u.2+w.2) (u.1+w.1,u.2+w.2)≤(a+b)*(a+b):=by
 have h1:=GI u.1 u.2 w.1 w.2;have h2:=gh (u.1*w.2-u.2*w.1);have h3:u.1*u.1+u.2*u.2=a*a:=hu;have h4:w.1*w.1+w.2*w.2=b*b:=hw
 have h5:u.1*w.1+u.2*w.2≤a*b:=by
  rw[h3,h4]at h1;rcases lt_or_ge 0 (u.1*w.1+u.2*w.2)with g|g
  ·exact t7 _ _ (le_of_lt g) (bg ha hb) (by grind)
  ·have:=bg ha hb;grind
 show(_+_)*(_+_)+(_+_)*(_+_)≤_;grind
theorem UT(u:PE):∃a,0≤a∧dtE u u=a*a:=by
 have:0≤dtE u u:=by
  have h1:=gh u.1;have h2:=gh u.2;unfold dtE;grind
 exact⟨_,jF _,(sY this).symm⟩
theorem amg{c d:Cv}{p q:PE}(hp:iM (ciC c) p)(hq:iM (ciC d) q)(h1:0≤(ciC c).2.2)(h2:0≤(ciC d).2.2):dsE q p≤(rq (nD c d)+rq (ciC c).2.2+rq (ciC d).2.2)*(rq (nD c d)+rq (ciC c).2.2+rq (ciC d).2.2):=by
 have n0:0≤nD c d:=jT _;have a1:=cQ n0;have a2:=cQ h1;have a3:=cQ h2;have b1:=eO (nD c d);have b2:=eO (ciC c).2.2;have b3:=eO (ciC d).2.2;have d1:dtE (vE (wyv c d)) (vE (wyv c d))=rq (nD c d)*rq (nD c d):=by rw[ZE,a1];rfl
 have d2:dtE (-(frm (ciC c) p).1,-(frm (ciC c) p).2) (-(frm (ciC c) p).1,-(frm (ciC c) p).2)=rq (ciC c).2.2*rq (ciC c).2.2:=by
  rw[a2,←hp];unfold dtE;grind
 have d3:dtE (frm (ciC d) q) (frm (ciC d) q)=rq (ciC d).2.2*rq (ciC d).2.2:=by
  rw[a3];exact hq
 have t1:=afl b1 b2 d1 d2;obtain⟨z,z0,ez⟩:=UT ((vE (wyv c d)).1+ -(frm (ciC c) p).1,(vE (wyv c d)).2+ -(frm (ciC c) p).2);have t2:=afl z0 b3 ez d3;have zl:z≤rq (nD c d)+rq (ciC c).2.2:=t7 _ _ z0 (by grind) (by rw[←ez];exact t1)
 have:dsE q p=dtE ((vE (wyv c d)).1+ -(frm (ciC c) p).1+(frm (ciC d) q).1,(vE (wyv c d)).2+ -(frm (ciC c) p).2+(frm (ciC d) q).2) ((vE (wyv c d)).1+ -(frm (ciC c) p).1+(frm (ciC d) q).1,(vE (wyv c d)).2+ -(frm (ciC c) p).2+(frm (ciC d) q).2):=by
  unfold dsE dtE vE wyv bi frm ctr;dsimp only;rw[of_sub,of_sub];grind
 rw[this];exact le_trans t2 (RE.sq_mono _ _ (by grind) (by grind))
theorem acA{c d:BCU}(hc:gdN c)(hd:gdN d)(ec:c.1=true)(ed:d.1=true){r:Rat}(hr:0≤r){E:Int}(h1:E≤1)(h2:E≤poiE (dC d) (pR (frC (dC c))) r):min E (Kg (dC c) (dC d) r)=min E (KR (dC c) (dC d) r):=by
 have p0:=hc.crp.q ec;have q0:=hd.crp.q ed;have n0:0≤nD (dC c) (dC d):=jT _;have hp:0≤(ciC (dC c)).2.2:=by grind
 have hq:0≤(ciC (dC d)).2.2:=by grind
 unfold Kg KR;cases decide (nD (dC c) (dC d)=0)
 ·rw[cond_false,cond_false,G4 hp hq n0 hr,Int.max_comm (uX _ _ _ _),Int.max_comm (uX _ _ _ _),G4 n0 hq hp hr,G4 n0 hp hq hr]
  have k:E≤B0 (nD (dC c) (dC d)) (ciC (dC c)).2.2 (ciC (dC d)).2.2 r:=by
   obtain⟨g1,oF,_⟩:=hc.e.q ec;obtain⟨g2,oG,_⟩:=hd.e.q ed;rw[adk n0 hp hq hr,←aJ];exact Int.le_trans h2 (Int.le_trans (FW hd.e (TM hd.e).1 hr) (pV (sU _ _ _ (amg (c:=dC c) (d:=dC d) oF oG hp hq))))
  generalize sH _ _ _ r=x;generalize qI (nT (dC c) (dC d)&&co (dC d) (wyv (dC c) (dC d))) _=y;generalize qI (fT (dC c) (dC d)&&co (dC d) (bkV (wyv (dC c) (dC d)))) _=z;cases fT (dC c) (dC d)&&co (dC d) (wyv (dC c) (dC d))<;>simp only[qI,cond_true,cond_false]
  ·generalize (bif nT (dC c) (dC d)&&co (dC d) (bkV (wyv (dC c) (dC d)))then x else 1)=x';omega
  ·generalize (bif nT (dC c) (dC d)&&co (dC d) (bkV (wyv (dC c) (dC d)))then x else 1)=x';omega
 ·rfl
theorem adY{c d:BCU}(hc:gdN c)(hd:gdN d){r:Rat}(hr:0≤r):u6 (dC c) (dC d) r=UM (dC c) (dC d) r:=by
 have l1:ng (dC c) (dC d) r≤1:=by
  have:=Tc hd.e (pR (frC (dC c))) hr;unfold ng;omega
 unfold u6 UM;have e1:(dC c).1=c.1:=rfl;have e2:(dC d).1=d.1:=rfl;rw[e1,e2];cases hx:c.1<;>cases hy:d.1
 ·rfl
 ·exact R4 hc hd hx hy hr l1 (by unfold ng;omega) (by unfold ng;omega)
 ·exact R4 hd hc hy hx hr l1 (by unfold ng;omega) (by unfold ng;omega)
 ·exact acA hc hd hx hy hr l1 (by unfold ng;omega)
theorem TW{c d:BCU}(hc:gdN c)(hd:gdN d)(h:lg c d=[]):qJ c d=false:=by
 cases hN:qJ c d
 ·rfl
 ·exfalso;unfold qJ at hN;obtain⟨hs,ho⟩:=amP.1 hN;rw[h]at ho;have ho:([Cy c c.2.2.2.2.1 c.2.2.2.2.2].any (DD d))=true:=ho
  have h1:onP (dC d) (dec c.2.2.2.2.1)=true:=by
   simp only[apG,List.any_nil,Bool.or_false]at ho;unfold DD at ho;exact(amP.1 (amP.1 ho).1).1
  have r:Rpd (dec c.2.2.2.2.1:Pt):=hc.crp.f.1;have hx:c.2.2.2.2.1∈kv c d:=by unfold kv;rw[hs];simp
  have k:=Ji hc hd r (abK hc).1 (by rw[←nF hd.crp r];exact h1);obtain⟨y,hy,_⟩:=(JH hc.crp hc.ne (Ly hc hd)).2 _ (aoD.2 ⟨hx,k⟩);have hy:y∈lg c d:=hy;rw[h]at hy;cases hy
theorem aej{c d:BCU}(hc:gdN c)(hd:gdN d):(decide (((lg c d).length:Int)>0)||qJ c d)=(Dk c d||decide (((lc c d).length:Int)>0)):=by
 have e:=(TE hc hd).1;by_cases h:lg c d=[]
 ·have hl:lc c d=[]:=List.length_eq_zero_iff.1 (by rw[←e,h];rfl);have hb:Dk c d=false:=by unfold Dk;rw[hl];exact apK _
  rw[TW hc hd h,hb,h,hl];rfl
 ·have:0<(lg c d).length:=anm.2 h;rw[dT (show((lg c d).length:Int)>0 by omega),dT (show((lc c d).length:Int)>0 by omega),Bool.true_or,Bool.or_true]
theorem ad5{c d:BCU}(hc:gdN c)(hd:gdN d)(r:Rat):pE c d r=RB c d r:=by
 unfold pE RB Ku;by_cases hr:r<0
 ·rw[dT hr];rfl
 ·rw[dF hr,adY hc hd (by grind),aej hc hd]
end
section
instance amj {a b c d e f:Rat} {i1 i2 i3 i4 i5 i6:Nat} [h1:Bd a i1] [h2:Bd b i2] [h3:Bd c i3] [h4:Bd d i4] [h5:Bd e i5] [h6:Bd f i6]:Bd ((a,b,c,d,e,f):Qd) (mx i1 (mx i2 (mx i3 (mx i4 (mx i5 i6))))):=inferInstance
instance ak3 {p:Pt} {v:Rat×Rat} {j k:Nat} [h:Bd p j] [h':Bd v k]:Bd (rcX p v) (j+k+1):=by
 have a:Bd (p.1-v.1) _:=inferInstance;have b:Bd p.2.1 j:=inferInstance;have i:Bd ((p.1-v.1,p.2.1):Rat×Rat) _:=inferInstance;exact i.mono (cK (by omega) (by omega))
instance akO {p:Pt} {v:Rat×Rat} {j k:Nat} [h:Bd p j] [h':Bd v k]:Bd (rcY p v) (j+k+1):=by
 have a:Bd (p.2.2.1-v.2) _:=inferInstance;have b:Bd p.2.2.2.1 j:=inferInstance;have i:Bd ((p.2.2.1-v.2,p.2.2.2.1):Rat×Rat) _:=inferInstance;exact i.mono (cK (by omega) (by omega))
instance alj {p q:Pt} {j k:Nat} [h:Bd p j] [h':Bd q k]:Bd (noQ p q) (j+k):=by
 have hj:1≤j:=nN (show bdR j p.1 from(inferInstance:Bd p.1 j).le);have z:Bd (0:Rat) (j+k):=⟨bJ lD.le (by omega)⟩
 have a:Bd p.2.2.2.2 (j+k):=(inferInstance:Bd p.2.2.2.2 j).mono (by omega);have b:Bd q.2.2.2.2 (j+k):=(inferInstance:Bd q.2.2.2.2 k).mono (by omega);have i:Bd ((0,0,0,0,p.2.2.2.2,q.2.2.2.2):Qd) _:=inferInstance;have e:∀n,mx n n=n:=fun n=>by unfold mx;rw[amE (amK n)];rfl
 simp only[e]at i;exact i
instance alh {q:Qd} {x y:Rat×Rat} {s:Rat} {i j k l:Nat} [h:Bd q i] [h1:Bd x j] [h2:Bd y k] [h3:Bd s l]:Bd (prQ q x y s) (i+l+j+k+1):=by
 have a1:Bd (q.1+s*(x.1*y.1)) (i+(l+(j+k))+1):=inferInstance;have a2:Bd (q.2.1+s*(x.2*y.1)) (i+(l+(j+k))+1):=inferInstance;have a3:Bd (q.2.2.1+s*(x.1*y.2)) (i+(l+(j+k))+1):=inferInstance;have a4:Bd (q.2.2.2.1+s*(x.2*y.2)) (i+(l+(j+k))+1):=inferInstance;have a5:Bd q.2.2.2.2.1 (i+(l+(j+k))+1):=(inferInstance:Bd q.2.2.2.2.1 i).mono (by omega);have a6:Bd q.2.2.2.2.2 (i+(l+(j+k))+1):=(inferInstance:Bd q.2.2.2.2.2 i).mono (by omega);have i6:Bd ((q.1+s*(x.1*y.1),q.2.1+s*(x.2*y.1),q.2.2.1+s*(x.1*y.2),q.2.2.2.1+s*(x.2*y.2),q.2.2.2.2.1,q.2.2.2.2.2):Qd) _:=inferInstance;have e:∀n,mx n n=n:=fun n=>by unfold mx;rw[amE (amK n)];rfl
 simp only[e]at i6;exact i6.mono (by omega)
theorem Ox{q:Qd}{k:Nat}[h:Bd q k](hk:k≤6000)(h5:0≤q.2.2.2.2.1)(h6:0≤q.2.2.2.2.2):decide (okQ (enc q))=true:=by
 have n5:Nn q.2.2.2.2.1:=⟨h5⟩
 have n6:Nn q.2.2.2.2.2:=⟨h6⟩
 show decide (okQ (enc ((q.1,q.2.1,q.2.2.1,q.2.2.2.1,q.2.2.2.2.1,q.2.2.2.2.2):Qd)))=true;exact qN (a:=k) (b:=k) (c:=k) (d:=k) (m:=k) (n:=k) (by omega) (by omega) (by omega) (by omega) (by omega) (by omega)
instance amx:Bd z2 1:=(inferInstance:Bd ((0,0):Rat×Rat) _)
theorem akK(p:Pt)(v:Rat×Rat):(sqP p v).1=sqA p v:=by
 show(coR (sqA p v) (sqB p v) p.2.2.2.2).1=_;unfold coR;cases decide (sqB p v=0)<;>rfl
theorem adD(p:Pt)(v:Rat×Rat):(sqP p v).2.1=sqB p v:=by
 show(coR (sqA p v) (sqB p v) p.2.2.2.2).2.1=_;unfold coR;by_cases e:sqB p v=0
 ·rw[amE e,e];rfl
 ·rw[amG e];rfl
theorem YU(p:Pt)(v:Rat×Rat):(sqP p v).2.1=0∨(sqP p v).2.2=p.2.2.2.2:=by
 show(coR (sqA p v) (sqB p v) p.2.2.2.2).2.1=0∨(coR (sqA p v) (sqB p v) p.2.2.2.2).2.2=_;unfold coR;cases decide (sqB p v=0)
 ·exact .inr rfl
 ·exact .inl rfl
theorem aaY{p q:Pt}{r:Rat}[bp:Bd p 580][bq:Bd q 580][br:Bd r 1000](hp:0≤p.2.2.2.2)(hq:0≤q.2.2.2.2):decide (okQ (enc (apQ p q r)))=true:=by
 have n1:Nn p.2.2.2.2:=⟨hp⟩
 have n2:Nn q.2.2.2.2:=⟨hq⟩
 have b2:Bd (-2:Rat) 3:=bS (n:= -2) (by decide);have bD:Bd (doQ z2 p q) 3496:=(inferInstance:Bd (prQ (prQ (noQ p q) (rcX p z2) (rcX q z2) (-2)) (rcY p z2) (rcY q z2) (-2)) _).mono (by decide);have bA:Bd ((doQ z2 p q).1+(sqA p z2+sqA q z2)-r*r) _:=inferInstance;have bB:Bd ((doQ z2 p q).2.1+sqB p z2) _:=inferInstance;have bC:Bd ((doQ z2 p q).2.2.1+sqB q z2) _:=inferInstance;have bE:Bd (doQ z2 p q).2.2.2.1 3496:=inferInstance;exact qN (h1:=bA) (h2:=bB) (h3:=bC) (h4:=bE) (by decide) (by decide) (by decide) (by decide) (by decide) (by decide)
namespace RE
theorem ahn(a b c d:RE):a*d-b*c= -(c*b-d*a):=by grind
theorem OW(u w:PE):crs u w= -crs w u:=ahn _ _ _ _
theorem turS_anti(v:Rat×Rat)(p q:PE):turS v p q= -turS v q p:=by
 unfold turS;rw[OW,o0]
theorem wit_eq(c:Cv)(p:PE):witE c p=AF (turS (ctr (ciC c)) (pR (ccF c)) (pR (ccT c))) (turS (ctr (ciC c)) (pR (ccF c)) p) (turS (ctr (ciC c)) p (pR (ccT c))):=rfl
theorem wit_go(a b c:Int):(match decide (a≥0)with|true=>(match decide (b≥0)with|true=>some [RV.d .bool (decide (c≥0))]|false=>some [RV.d .bool false])|false=>(match decide (-c≤0)with|true=>some [RV.d .bool true]|false=>some [RV.d .bool (decide (-b≤0))]))=some [RV.d .bool (AF a b c)]:=by
 have h1:decide (-c≤0)=decide (0≤c):=anq.2 (by omega);have h2:decide (-b≤0)=decide (0≤b):=anq.2 (by omega);have h3:decide (c<0)=!decide (0≤c):=by rw[←apS];exact anq.2 (by omega)
 have h4:decide (b<0)=!decide (0≤b):=by rw[←apS];exact anq.2 (by omega)
 unfold AF;simp only[h1,h2,h3,h4,ge_iff_le];cases decide (0≤a)<;>cases decide (0≤b)<;>cases decide (0≤c)<;>rfl
open Classical in
theorem bes_E{c:Cv}[hf:Rpd (frC c)][ht:Rpd (toC c)]{p:Pt}[hp:Rpd p]:besE c (pR p)=ti c p:=by
 unfold besE;rw[aoC,anJ];exact CJ.symm
theorem min_if(a b:Int):(if b<a then b else a)=min a b:=by
 split<;>omega
theorem wr_sg(x:RE):i64.wrap (0-sg x)= -sg x:=by
 rcases bh x with⟨_,e⟩|⟨_,e⟩|⟨_,e⟩<;>rw[e]<;>rfl
theorem ab9(a b m t:RE):a*a+m*(b*b)+2*(a*b)*t=(a+b*t)*(a+b*t)+(m-t*t)*(b*b):=by grind
theorem LB(A B C x y z w t:RE):A*x+B*y-C+(A*z+B*w)*t=A*(x+z*t)+B*(y+w*t)-C:=by grind
theorem vR_lin(l:Ln){p:Pt}[hp:Rpd p]:vR (mkR (jY l p*jY l p+p.2.2.2.2*(j7 l p*j7 l p)) (2*(jY l p*j7 l p)) p.2.2.2.2)=exE l (pR p)*exE l (pR p):=by
 have e:exE l (pR p)=of (jY l p)+of (j7 l p)*rq p.2.2.2.2:=by
  unfold exE pR pX pY v2 jY j7;dsimp only;rw[of_sub,of_add,of_add,aJ,aJ,aJ,aJ,LB]
 have two:of 2=2:=rfl;rw[vR_mk,e];unfold v2;rw[of_add,aJ,aJ,aJ,aJ,aJ,two,ab9,cQ hp.nn,sub_self,zero_mul,add_zero]
theorem sq_zr{p:Pt}[hp:Rpd p]{v:Rat×Rat}:(sgR (sqP p v)==0)=true↔pR p=vE v:=by
 have hr:Rdd (sqP p v):=inferInstance;rw[Fy hr.nn,anE,oZ,vR_sq];constructor
 ·intro e;obtain⟨a,b⟩:=we e;exact aoE (mt _ _ a) (mt _ _ b)
 ·intro e;rw[e];unfold dsE;rw[sub_self,sub_self,mul_zero,add_zero]
end RE
def abC:List En:=[⟨41,fQ,dU⟩,enL ajA]
def ZC(r:BO3)(_k:KT):OLR:=match decide (okR r.1)with|true=>(match decide (okR r.2.1)with|true=>(match(aD (ag r.2.1) 0)==0 with|true=>some [RV.d apY (aD (ag r.1) 0)]|false=>(match(aD (ag r.1) 0)==(aD (ag r.2.1) 0)with|true=>some [RV.d apY (aD (ag r.1) 0)]|false=>(match(aD (ag r.1) 0)==0 with|true=>some [RV.d apY (aD (ag r.2.1) 0)]|false=>(match decide (ok Rt 15000 r)with|true=>(match decide (okR (hid (ak (noR (dec r)))))with|true=>some [RV.d apY (i64.wrap ((aD (ag r.1) 0)*(aD (ag (hid (ak (noR (dec r))))) 0)))]|false=>none)|false=>none))))|false=>none)|false=>none
def aht:Cn 103 [tO]:=cn fun(r:BO3)=>lf (okT 15000 r) [.d apY (sgR (dec r))] fun h=>by
 refine aA abC (ZC r) ⟨0,?_⟩;have hr:=h;obtain⟨r,rfl,br,rr⟩:=fB hr;unfold ZC;simp only[bK,az,tb,BF,dN,ck,okd,HO,Nat.reduceAdd,Nat.reduceMul,Nat.reduceLeDiff,Ax (jk _ _) (jk _ _)];rw[Yv rr];cases aD r.2.1 0==0
 ·cases aD r.1 0==aD r.2.1 0
  ·cases aD r.1 0==0<;>rfl
  ·rfl
 ·rfl
def AH:List En:=[⟨41,fQ,dU⟩,⟨109,kY,gD⟩,⟨99,ij,fa⟩,⟨108,gS,eT⟩,⟨73,mj,iv⟩,⟨107,iL,fw⟩,⟨106,ip,fi⟩,enL Xf,enL MN,enL zq,enL Zt,enT Du,enT Ry,enL QB,enL HV,enL P4,enL W7,enL WH,enT WO,enT SS,enT aht]
def Xd(p:BP)(v:BV)(_k:KT):OLR:=cj (og (o2 p.1 v.1) (cj (og (o2 p.2.2.1 v.2) (dup (.b .l .l) (some [RV.d tV (hSu p.1 v.1,p.2.1),RV.d tV (hSu p.2.2.1 v.2,p.2.2.2.1)]))) (og (o2 p.2.2.1 v.2) (some [RV.d tV (hSu p.1 v.1,p.2.1),RV.d tV (hSu p.2.2.1 v.2,p.2.2.2.1)])))) (og (o2 p.1 v.1) (og (o2 p.2.2.1 v.2) (some [RV.d tV (hSu p.1 v.1,p.2.1),RV.d tV (hSu p.2.2.1 v.2,p.2.2.2.1)])))
def ags:Cn 200 [tP,tV]:=cn fun(p:BP) (v:BV)=>lf (okP 580 p∧ok (Rat×Rat) 400 v) [.d tV (enc (rcX (dec p) (dec v))),.d tV (enc (rcY (dec p) (dec v)))] fun h=>by
 refine aA AH (Xd p v) ⟨0,?_⟩;obtain⟨hp,hv⟩:=h;obtain⟨p,rfl,bp,rp⟩:=aZ hp;obtain⟨v,rfl,bv⟩:=aB hv;unfold Xd;simp only[aO,Nat.reduceLeDiff];try rfl
def YC(q:BQ)(x y:BV)(s:Int)(_k:KT):OLR:=og (decide (aG s)) (og (o2 x.1 y.1) (og (o2 (hid (ak (s:Rat))) (hMu x.1 y.1)) (og (o2 q.1 (hMu (hid (ak (s:Rat))) (hMu x.1 y.1))) (og (o2 x.2 y.1) (og (o2 (hid (ak (s:Rat))) (hMu x.2 y.1)) (og (o2 q.2.1 (hMu (hid (ak (s:Rat))) (hMu x.2 y.1))) (og (o2 x.1 y.2) (og (o2 (hid (ak (s:Rat))) (hMu x.1 y.2)) (og (o2 q.2.2.1 (hMu (hid (ak (s:Rat))) (hMu x.1 y.2))) (og (o2 x.2 y.2) (og (o2 (hid (ak (s:Rat))) (hMu x.2 y.2)) (og (o2 q.2.2.2.1 (hMu (hid (ak (s:Rat))) (hMu x.2 y.2))) (some [RV.d tQ (hAd q.1 (hMu (hid (ak (s:Rat))) (hMu x.1 y.1)),(hAd q.2.1 (hMu (hid (ak (s:Rat))) (hMu x.2 y.1)),(hAd q.2.2.1 (hMu (hid (ak (s:Rat))) (hMu x.1 y.2)),(hAd q.2.2.2.1 (hMu (hid (ak (s:Rat))) (hMu x.2 y.2)),q.2.2.2.2))))])))))))))))))
def ajf:Cn 201 [tQ,tV,tV,apY]:=cn fun(q:BQ) (x y:BV) (s:Int)=>lf (ok Qd 12000 q∧ok (Rat×Rat) 2500 x∧ok (Rat×Rat) 2500 y∧aG s) [.d tQ (enc (prQ (dec q) (dec x) (dec y) (s:Rat)))] fun h=>by
 refine aA AH (YC q x y s) ⟨0,?_⟩;obtain⟨hq,hx,hy,hs⟩:=h;obtain⟨q,rfl,bq⟩:=aB hq;obtain⟨x,rfl,bx⟩:=aB hx;obtain⟨y,rfl,b_y⟩:=aB hy;have bs:=bS hs;unfold YC;simp only[aO,Nat.reduceAdd,Nat.reduceLeDiff,dT hs];try rfl
def ZX(p q:BP)(_k:KT):OLR:=og (decide (aG (0:Int))) (some [RV.d tQ (hid (ak ((0:Int):Rat)),(hid (ak ((0:Int):Rat)),(hid (ak ((0:Int):Rat)),(hid (ak ((0:Int):Rat)),(p.2.2.2.2,q.2.2.2.2)))))])
def aeV:Cn 202 [tP,tP]:=cn fun(p q:BP)=>lf (okP 580 p∧okP 580 q) [.d tQ (enc (noQ (dec p) (dec q)))] fun h=>by
 refine aA AH (ZX p q) ⟨0,?_⟩;obtain⟨hp,hq⟩:=h;obtain⟨p,rfl,bp,rp⟩:=aZ hp;obtain⟨q,rfl,bq,rq⟩:=aZ hq;unfold ZX;simp only[aO,dT (show aG 0 by decide)];try rfl
def Ct:List En:=enL ags::enL ajf::enL aeV::AH
def Ya(v:BV)(p q:BP)(_k:KT):OLR:=og (decide (okP 580 p∧ok (Rat×Rat) 400 v)) (og (decide (okP 580 q∧ok (Rat×Rat) 400 v)) (og (decide (okP 580 p∧okP 580 q)) (og (decide (ok Qd 12000 (hid (enc (noQ (dec p) (dec q))))∧ok (Rat×Rat) 2500 (hid (enc (rcX (dec p) (dec v))))∧ok (Rat×Rat) 2500 (hid (enc (rcY (dec q) (dec v))))∧aG (1:Int))) (og (decide (ok Qd 12000 (hid (enc (prQ (dec (hid (enc (noQ (dec p) (dec q))))) (dec (hid (enc (rcX (dec p) (dec v))))) (dec (hid (enc (rcY (dec q) (dec v))))) ((1:Int):Rat))))∧ok (Rat×Rat) 2500 (hid (enc (rcY (dec p) (dec v))))∧ok (Rat×Rat) 2500 (hid (enc (rcX (dec q) (dec v))))∧aG ((-1):Int))) (og (decide (okQ (hid (enc (prQ (dec (hid (enc (prQ (dec (hid (enc (noQ (dec p) (dec q))))) (dec (hid (enc (rcX (dec p) (dec v))))) (dec (hid (enc (rcY (dec q) (dec v))))) ((1:Int):Rat))))) (dec (hid (enc (rcY (dec p) (dec v))))) (dec (hid (enc (rcX (dec q) (dec v))))) (((-1):Int):Rat)))))) (some [RV.d apY (sgQ (dec (hid (enc (prQ (dec (hid (enc (prQ (dec (hid (enc (noQ (dec p) (dec q))))) (dec (hid (enc (rcX (dec p) (dec v))))) (dec (hid (enc (rcY (dec q) (dec v))))) ((1:Int):Rat))))) (dec (hid (enc (rcY (dec p) (dec v))))) (dec (hid (enc (rcX (dec q) (dec v))))) (((-1):Int):Rat))))))]))))))
def ahi:Cn 213 [tV,tP,tP]:=cn fun(v:BV) (p q:BP)=>lf (ok (Rat×Rat) 400 v∧okP 580 p∧okP 580 q) [.d apY (RE.turS (dec v) (RE.pR (dec p)) (RE.pR (dec q)))] fun h=>by
 refine aA Ct (Ya v p q) ⟨0,?_⟩;obtain⟨hv,hp,hq⟩:=h;obtain⟨v,rfl,bv⟩:=aB hv;obtain⟨p,rfl,bp,rp⟩:=aZ hp;obtain⟨q,rfl,bq,rq⟩:=aZ hq;have h1:decide (aG 1)=true:=by decide
 have h2:decide (aG (-1))=true:=by decide
 have c1:((1:Int):Rat)=1:=rfl;have c2:((-1:Int):Rat)= -1:=rfl;have b1:Bd (1:Rat) 3:=bS (n:=1) (by decide);have b2:Bd (-1:Rat) 3:=bS (n:= -1) (by decide);have n1:Bd (prQ (prQ (noQ p q) (rcX p v) (rcY q v) 1) (rcY p v) (rcX q v) (-1)) _:=inferInstance;have o1:decide (okQ (enc (prQ (prQ (noQ p q) (rcX p v) (rcY q v) 1) (rcY p v) (rcX q v) (-1))))=true:=Ox (k:=6000) (h:=n1.mono (by decide)) (by decide) rp.nn rq.nn;unfold Ya;simp only[aO,Nat.reduceAdd,Nat.reduceLeDiff,aI,h1,h2,c1,c2,o1];rw[←RE.crQ_re];rfl
def aaf(a:BO3)(c:BR)(_k:KT):OLR:=og (o1 a.2.1) (match(aD (ag a.2.1) 0)==0 with|true=>some [RV.d tR a.2.1]|false=>(og (o2 a.2.2 c) (match(aD (ag a.2.2) (ag c))==0 with|true=>some [RV.d tR a.2.1]|false=>(og (decide (hZ a.2.2 c)) (og (o1 (hDi a.2.2 c)) (match !(fA (ag (hDi a.2.2 c)))with|true=>some [RV.d tR a.2.1]|false=>(og (o2 a.2.1 (hid (rtB (ag (hDi a.2.2 c))))) (some [RV.d tR (hMu a.2.1 (hid (rtB (ag (hDi a.2.2 c)))))]))))))))
def ajc:Cn 203 [tO,tR]:=cn fun(a:BO3) (c:BR)=>lf (okT 15000 a∧ok Rat 15000 c∧((dec a:Rt).2.1=0∨(dec a:Rt).2.2=ag c)) [.d tR (ak (dec a:Rt).2.1)] fun h=>by
 refine aA Ct (aaf a c) ⟨0,?_⟩;obtain⟨ha,hc,h⟩:=h;obtain⟨a,rfl,ba,ra⟩:=fB ha;obtain⟨c,rfl,bc⟩:=aB hc;rw[az,dN,ck]at h;unfold aaf;simp only[aO,Nat.reduceAdd,Nat.reduceLeDiff,ao];by_cases e:a.2.1=0
 ·rw[dT e]
 ·rw[dF e,dT (h.resolve_left e)]
def Y8(d:BO3)(q r:BR)(_k:KT):OLR:=og (o2 r r) (og (o2 q (hMu r r)) (og (o2 r r) (og (decide (ok Rat 100000 (hAd q (hMu r r))∧ok Rat 100000 (hAd r r)∧ok Rat 100000 q∧0≤ag q)) (og (decide (okT 15000 d∧okT 15000 (hid (enc (mkR (ag (hAd q (hMu r r))) (ag (hAd r r)) (ag q)))))) (match decide ((aW (dec d) (dec (hid (enc (mkR (ag (hAd q (hMu r r))) (ag (hAd r r)) (ag q))))))≥0)with|true=>some [RV.d apY (aW (dec d) (dec (hid (enc (mkR (ag (hAd q (hMu r r))) (ag (hAd r r)) (ag q))))))]|false=>(og (o2 r r) (og (o2 q (hMu r r)) (match decide ((aD (ag q) (ag (hMu r r)))≤0)with|true=>some [RV.d apY (-1)]|false=>(og (o1 (hAd r r)) (og (decide (ok Rat 100000 (hAd q (hMu r r))∧ok Rat 100000 (hNe (hAd r r))∧ok Rat 100000 q∧0≤ag q)) (og (decide (okT 15000 d∧okT 15000 (hid (enc (mkR (ag (hAd q (hMu r r))) (ag (hNe (hAd r r))) (ag q)))))) (some [RV.d apY (i64.wrap (0-(aW (dec d) (dec (hid (enc (mkR (ag (hAd q (hMu r r))) (ag (hNe (hAd r r))) (ag q))))))))]))))))))))))
def aj4:Cn 105 [tO,tR,tR]:=cn fun(d:BO3) (q r:BR)=>lf (okT 15000 d∧ok Rat 1000 q∧ok Rat 1000 r∧0≤ag q) [.d apY (RE.rngS (RE.vR (dec d)) (ag q) (ag r))] fun h=>by
 refine aA Ct (Y8 d q r) ⟨0,?_⟩;obtain⟨hd,hq,hr,hn⟩:=h;obtain⟨d,rfl,bd,rd⟩:=fB hd;obtain⟨q,rfl,bq⟩:=aB hq;obtain⟨r,rfl,br⟩:=aB hr;rw[dN,ck]at hn;have nq:Nn q:=⟨hn⟩
 have m:∀a b,aW d (mkR a b q)=RE.sg (RE.vR d-RE.v2 a b q):=fun a b=>by
  rw[RE.cmpT_re rd.nn (pO (a:=a) (b:=b) (c:=q)).nn,RE.vR_mk]
 unfold Y8 RE.rngS;simp only[aO,Nat.reduceAdd,Nat.reduceLeDiff,aH,dT hn,m,ge_iff_le,RE.wr_sg];cases decide (0≤RE.sg (RE.vR d-RE.v2 (q+r*r) (r+r) q))
 ·cases decide (aD q (r*r)≤0)<;>rfl
 ·rfl
def G7:List En:=enT ahi::enL ajc::enT aj4::Ct
def WS(p q:BP)(r:BR)(_k:KT):OLR:=let y1:=ak ((0:Int):Rat);let y2:=hid (enc (noQ (dec p) (dec q)));let y3:=dec (hid y1,hid y1);let y4:=hid (enc (rcX (dec p) y3));let y5:=hid (enc (rcX (dec q) y3));let y6:=hid (enc (prQ (dec y2) (dec y4) (dec y5) (((-2):Int):Rat)));let y7:=hid (enc (rcY (dec p) y3));let y8:=hid (enc (rcY (dec q) y3));let y9:=hid (enc (sqP (dec p) y3));let y10:=hid (enc (sqP (dec q) y3));let y11:=hid (enc (prQ (dec y6) (dec y7) (dec y8) (((-2):Int):Rat)));let y12:=hAd (y9.1) (y10.1);let y13:=hid (ak (dec y9:Rt).2.1);let y14:=hid (ak (dec y10:Rt).2.1);og (decide (aG (0:Int))) (og (decide (aG (0:Int))) (og (decide (okP 580 p∧ok (Rat×Rat) 400 (hid y1,hid y1))) (og (decide (okP 580 q∧ok (Rat×Rat) 400 (hid y1,hid y1))) (og (decide (okP 580 p∧okP 580 q)) (og (decide (ok Qd 12000 y2∧ok (Rat×Rat) 2500 y4∧ok (Rat×Rat) 2500 y5∧aG ((-2):Int))) (og (decide (ok Qd 12000 y6∧ok (Rat×Rat) 2500 y7∧ok (Rat×Rat) 2500 y8∧aG ((-2):Int))) (og (decide (okP 3500 p∧ok (Rat×Rat) 300 (hid y1,hid y1))) (og (decide (okP 3500 q∧ok (Rat×Rat) 300 (hid y1,hid y1))) (og (o2 (y9.1) (y10.1)) (og (o2 (y11.1) y12) (og (o2 r r) (og (o2 (hAd (y11.1) y12) (hMu r r)) (og (decide (okT 15000 y9∧ok Rat 15000 p.2.2.2.2∧((dec y9:Rt).2.1=0∨(dec y9:Rt).2.2=ag p.2.2.2.2))) (og (o2 ((y11.2).1) y13) (og (decide (okT 15000 y10∧ok Rat 15000 q.2.2.2.2∧((dec y10:Rt).2.1=0∨(dec y10:Rt).2.2=ag q.2.2.2.2))) (og (o2 (((y11.2).2).1) y14) (og (decide (okQ (hSu (hAd (y11.1) y12) (hMu r r),(hAd ((y11.2).1) y13,(hAd (((y11.2).2).1) y14,((y11.2).2).2))))) (some [RV.d apY (sgQ (dec (hSu (hAd (y11.1) y12) (hMu r r),(hAd ((y11.2).1) y13,(hAd (((y11.2).2).1) y14,((y11.2).2).2)))))]))))))))))))))))))
def ajb:Cn 93 [tP,tP,tR]:=cn fun(p q:BP) (r:BR)=>lf (okP 580 p∧okP 580 q∧ok Rat 1000 r) [.d apY (RE.apaS (RE.pR (dec p)) (RE.pR (dec q)) (ag r))] fun h=>by
 refine aA G7 (WS p q r) ⟨0,?_⟩;obtain⟨hp,hq,hr⟩:=h;obtain⟨p,rfl,bp,rp⟩:=aZ hp;obtain⟨q,rfl,bq,rq⟩:=aZ hq;obtain⟨r,rfl,br⟩:=aB hr;have h0:decide (aG 0)=true:=by decide
 have h2:decide (aG (-2))=true:=by decide
 have c2:((-2:Int):Rat)= -2:=rfl;have b2:Bd (-2:Rat) 3:=bS (n:= -2) (by decide);have hz:((ak ((0:Int):Rat),ak ((0:Int):Rat)):BV)=enc z2:=rfl;have o1:=aaY (p:=p) (q:=q) (r:=r) rp.nn rq.nn;unfold WS;simp only[aO,Nat.reduceAdd,Nat.reduceMul,Nat.reduceLeDiff,aH,aI,h0,h2,c2,hz,dT (show sqB p z2=0∨(sqP p z2).2.2=p.2.2.2.2 by rw[←adD];exact YU p z2),dT (show sqB q z2=0∨(sqP q z2).2.2=q.2.2.2.2 by rw[←adD];exact YU q z2),akK,adD];show(match decide (okQ (enc (apQ p q r)))with|true=>some [RV.d apY (sgQ (dec (enc (apQ p q r))))]|false=>none)=_;rw[az,o1,RE.apQ_re]
def Y0(c:BCU)(p:BP)(_k:KT):OLR:=match c.2.2.2.1 with|true=>(og (decide (ok (Rat×Rat) 400 (hid ((c.2.2.1.1,c.2.2.1.2.1)))∧okP 580 c.2.2.2.2.2∧okP 580 c.2.2.2.2.1)) (match decide ((RE.turS (dec (hid ((c.2.2.1.1,c.2.2.1.2.1)))) (RE.pR (dec c.2.2.2.2.2)) (RE.pR (dec c.2.2.2.2.1)))≥0)with|true=>(og (decide (ok (Rat×Rat) 400 (hid ((c.2.2.1.1,c.2.2.1.2.1)))∧okP 580 c.2.2.2.2.2∧okP 580 p)) (match decide ((RE.turS (dec (hid ((c.2.2.1.1,c.2.2.1.2.1)))) (RE.pR (dec c.2.2.2.2.2)) (RE.pR (dec p)))≥0)with|true=>(og (decide (ok (Rat×Rat) 400 (hid ((c.2.2.1.1,c.2.2.1.2.1)))∧okP 580 p∧okP 580 c.2.2.2.2.1)) (some [RV.d .bool (decide ((RE.turS (dec (hid ((c.2.2.1.1,c.2.2.1.2.1)))) (RE.pR (dec p)) (RE.pR (dec c.2.2.2.2.1)))≥0))]))|false=>some [RV.d .bool false]))|false=>(og (decide (ok (Rat×Rat) 400 (hid ((c.2.2.1.1,c.2.2.1.2.1)))∧okP 580 c.2.2.2.2.1∧okP 580 p)) (match decide ((RE.turS (dec (hid ((c.2.2.1.1,c.2.2.1.2.1)))) (RE.pR (dec c.2.2.2.2.1)) (RE.pR (dec p)))≤0)with|true=>some [RV.d .bool true]|false=>(og (decide (ok (Rat×Rat) 400 (hid ((c.2.2.1.1,c.2.2.1.2.1)))∧okP 580 p∧okP 580 c.2.2.2.2.2)) (some [RV.d .bool (decide ((RE.turS (dec (hid ((c.2.2.1.1,c.2.2.1.2.1)))) (RE.pR (dec p)) (RE.pR (dec c.2.2.2.2.2)))≤0))]))))))|false=>(og (decide (ok (Rat×Rat) 400 (hid ((c.2.2.1.1,c.2.2.1.2.1)))∧okP 580 c.2.2.2.2.1∧okP 580 c.2.2.2.2.2)) (match decide ((RE.turS (dec (hid ((c.2.2.1.1,c.2.2.1.2.1)))) (RE.pR (dec c.2.2.2.2.1)) (RE.pR (dec c.2.2.2.2.2)))≥0)with|true=>(og (decide (ok (Rat×Rat) 400 (hid ((c.2.2.1.1,c.2.2.1.2.1)))∧okP 580 c.2.2.2.2.1∧okP 580 p)) (match decide ((RE.turS (dec (hid ((c.2.2.1.1,c.2.2.1.2.1)))) (RE.pR (dec c.2.2.2.2.1)) (RE.pR (dec p)))≥0)with|true=>(og (decide (ok (Rat×Rat) 400 (hid ((c.2.2.1.1,c.2.2.1.2.1)))∧okP 580 p∧okP 580 c.2.2.2.2.2)) (some [RV.d .bool (decide ((RE.turS (dec (hid ((c.2.2.1.1,c.2.2.1.2.1)))) (RE.pR (dec p)) (RE.pR (dec c.2.2.2.2.2)))≥0))]))|false=>some [RV.d .bool false]))|false=>(og (decide (ok (Rat×Rat) 400 (hid ((c.2.2.1.1,c.2.2.1.2.1)))∧okP 580 c.2.2.2.2.2∧okP 580 p)) (match decide ((RE.turS (dec (hid ((c.2.2.1.1,c.2.2.1.2.1)))) (RE.pR (dec c.2.2.2.2.2)) (RE.pR (dec p)))≤0)with|true=>some [RV.d .bool true]|false=>(og (decide (ok (Rat×Rat) 400 (hid ((c.2.2.1.1,c.2.2.1.2.1)))∧okP 580 p∧okP 580 c.2.2.2.2.1)) (some [RV.d .bool (decide ((RE.turS (dec (hid ((c.2.2.1.1,c.2.2.1.2.1)))) (RE.pR (dec p)) (RE.pR (dec c.2.2.2.2.1)))≤0))]))))))
def aeX:Cn 104 [tCU,tP]:=cn fun(c:BCU) (p:BP)=>lf (nE c.2.2.1∧okP 580 c.2.2.2.2.1∧okP 580 c.2.2.2.2.2∧okP 580 p) [.d .bool (RE.witE (dC c) (RE.pR (dec p)))] fun h=>by
 refine aA G7 (Y0 c p) ⟨0,?_⟩;obtain⟨⟨hc,_⟩,hf,ht,hp⟩:=h;obtain⟨p,rfl,bp,rp⟩:=aZ hp;obtain⟨ar,li,ci,cw,fr,to⟩:=c;simp only at hc hf ht;obtain⟨ci,rfl,bc⟩:=aB hc;obtain⟨fr,rfl,bf,rf⟩:=aZ hf;obtain⟨to,rfl,bt,rt⟩:=aZ ht;have e0:((ak ci.1,ak ci.2.1):BV)=enc (ctr ci):=rfl;unfold Y0;rw[RE.wit_eq];simp only[aO,Nat.reduceLeDiff,aI,e0];cases cw
 ·simp only[aO,dC,ciC,ccF,ccT,cwC,frC,toC];rw[RE.turS_anti (ctr ci) (RE.pR to) (RE.pR p),RE.turS_anti (ctr ci) (RE.pR p) (RE.pR fr)];exact RE.wit_go _ _ _
 ·simp only[aO,dC,ciC,ccF,ccT,cwC,frC,toC];rw[RE.turS_anti (ctr ci) (RE.pR fr) (RE.pR p),RE.turS_anti (ctr ci) (RE.pR p) (RE.pR to)];exact RE.wit_go _ _ _
def PK:List En:=enT ajb::enT aeX::G7
def aa5:NT:=[((43,21),{keep:=[25],hl:=0}),((43,49),{keep:=[107],hl:=0})]
def ag1:Ctx:=CX (ens PK) aa5
def WF(c:BCU)(p:BP)(r:BR)(_k:KT):OLR:=let y1:=RE.pR (dec c.2.2.2.2.2);let y2:=RE.pR (dec c.2.2.2.2.1);let y3:OLR:=match decide (okP 580 c.2.2.2.2.1∧okP 580 p∧ok Rat 1000 r)with|true=>(match decide (okP 580 c.2.2.2.2.2∧okP 580 p∧ok Rat 1000 r)with|true=>some [RV.d apY (if RE.apaS y1 (RE.pR (dec p)) (ag r)<RE.apaS y2 (RE.pR (dec p)) (ag r)then RE.apaS y1 (RE.pR (dec p)) (ag r)else RE.apaS y2 (RE.pR (dec p)) (ag r))]|false=>none)|false=>none;let y4:=hMu c.2.1.2.1 p.2.2.1;let y5:=hAd (hMu c.2.1.1 p.1) y4;let y6:=hMu c.2.1.2.1 p.2.2.2.1;let y7:=hSu y5 c.2.1.2.2;let y8:=hAd (hMu c.2.1.1 p.2.1) y6;let y9:=hMu p.2.2.2.2 (hMu y8 y8);let y10:=hid (ak ((2:Int):Rat));let y11:=hAd (hMu y7 y7) y9;let y12:=hMu y10 (hMu y7 y8);let y13:=hMu c.2.1.1 c.2.1.1;let y14:=hMu c.2.1.2.1 c.2.1.2.1;let y15:=hid (enc (mkR (ag y11) (ag y12) (ag p.2.2.2.2)));let y16:=hMu (hMu r r) (hAd y13 y14);let y17:=hid ((c.2.2.1.1,c.2.2.1.2.1));let y18:=hid (enc (sqP (dec p) (dec y17)));match decide (okR r)with|true=>(match decide ((aD (ag r) 0)<0)with|true=>some [RV.d apY 1]|false=>(match !c.1 with|true=>(match decide (okC 3000 c∧okP 3000 p∧c.1=false)with|true=>(match !(ti (dC c) (dec p))with|true=>y3|false=>(match decide (okR c.2.1.1∧okR p.1)with|true=>(match decide (okR c.2.1.2.1∧okR p.2.2.1)with|true=>(match decide (okR (hMu c.2.1.1 p.1)∧okR y4)with|true=>(match decide (okR y5∧okR c.2.1.2.2)with|true=>(match decide (okR c.2.1.1∧okR p.2.1)with|true=>(match decide (okR c.2.1.2.1∧okR p.2.2.2.1)with|true=>(match decide (okR (hMu c.2.1.1 p.2.1)∧okR y6)with|true=>(match decide (okR y7∧okR y7)with|true=>(match decide (okR y8∧okR y8)with|true=>(match decide (okR p.2.2.2.2∧okR (hMu y8 y8))with|true=>(match decide (okR (hMu y7 y7)∧okR y9)with|true=>(match decide (aG (2:Int))with|true=>(match decide (okR y7∧okR y8)with|true=>(match decide (okR y10∧okR (hMu y7 y8))with|true=>(match decide (ok Rat 100000 y11∧ok Rat 100000 y12∧ok Rat 100000 p.2.2.2.2∧0≤ag p.2.2.2.2)with|true=>(match decide (okR r∧okR r)with|true=>(match decide (okR c.2.1.1∧okR c.2.1.1)with|true=>(match decide (okR c.2.1.2.1∧okR c.2.1.2.1)with|true=>(match decide (okR y13∧okR y14)with|true=>(match decide (okR (hMu r r)∧okR (hAd y13 y14))with|true=>(match decide (okT 15000 y15∧ok Rat 15000 y16)with|true=>some [RV.d apY (fq (dec y15) (ag y16))]|false=>none)|false=>none)|false=>none)|false=>none)|false=>none)|false=>none)|false=>none)|false=>none)|false=>none)|false=>none)|false=>none)|false=>none)|false=>none)|false=>none)|false=>none)|false=>none)|false=>none)|false=>none)|false=>none)|false=>none)|false=>none))|false=>none)|false=>(match decide (okP 3500 p∧ok (Rat×Rat) 300 y17)with|true=>(match decide (okT 15000 y18)with|true=>(match(sgR (dec y18))==0 with|true=>(match decide (okR r∧okR r)with|true=>(match decide (okR c.2.2.1.2.2∧okR (hMu r r))with|true=>some [RV.d apY (aD (ag c.2.2.1.2.2) (ag (hMu r r)))]|false=>none)|false=>none)|false=>(match decide (nE c.2.2.1∧okP 580 c.2.2.2.2.1∧okP 580 c.2.2.2.2.2∧okP 580 p)with|true=>(match !(RE.witE (dC c) (RE.pR (dec p)))with|true=>y3|false=>(match decide (okT 15000 y18∧ok Rat 1000 c.2.2.1.2.2∧ok Rat 1000 r∧0≤ag c.2.2.1.2.2)with|true=>some [RV.d apY (RE.rngS (RE.vR (dec y18)) (ag c.2.2.1.2.2) (ag r))]|false=>none))|false=>none))|false=>none)|false=>none)))|false=>none
theorem agS(c:BCU)(p:BP)(r:BR):RS ag1 43 [.d tCU c,.d tP p,.d tR r] (WF c p r):=rsX
open Classical in
def ahC:Cn 43 [tCU,tP,tR]:=cn fun(c:BCU) (p:BP) (r:BR)=>lf (okC 580 c∧okP 580 p∧ok Rat 1000 r) [.d apY (RE.poiE (dC c) (RE.pR (dec p)) (ag r))] fun h=>by
 refine c8 PK (agS _ _ _ ⟨0,?_⟩);obtain⟨hc,hp,hr⟩:=h;have hp1:=cD (k:=580) hp (by decide) (by decide);have hp6:=cD (k:=580) hp (by decide) (by decide);have hp3:=cD (k:=3000) hp (by decide) (by decide);have hc3:=bU (k:=3000) hc (by decide) (by decide);obtain⟨p,rfl,bp,rp⟩:=aZ hp;obtain⟨r,rfl,br⟩:=aB hr;obtain⟨ar,li,ci,cw,fr,to⟩:=c;have h3:=hc.2.2.1;have h4:=hc.2.2.2;simp only at h3 h4;obtain⟨fr,rfl,bf,rf⟩:=aZ h3;obtain⟨to,rfl,bt,rt⟩:=aZ h4;have o1:decide (okP 580 (enc fr)∧okP 580 (enc p)∧ok Rat 1000 (ak r))=true:=amE ⟨h3,hp1,hr⟩;have o2:decide (okP 580 (enc to)∧okP 580 (enc p)∧ok Rat 1000 (ak r))=true:=amE ⟨h4,hp1,hr⟩;have b2:Bd ((2:Int):Rat) 3:=bS (n:=2) (by decide);have i2:decide (aG 2)=true:=by decide
 have hn:0≤p.2.2.2.2:=rp.nn;rw[dN,ck,az];unfold WF RE.poiE;cases ar
 ·obtain⟨c2,c3⟩:=hc.2.1 rfl;simp only at c2 c3;obtain⟨li,rfl,bl⟩:=aB c2;have o3:decide (okC 3000 (false,enc li,ci,cw,enc fr,enc to)∧okP 3000 (enc p)∧(false,enc li,ci,cw,enc fr,enc to).1=false)=true:=amE ⟨hc3,hp3,rfl⟩;have hb:RE.besE (false,li,dec ci,cw,fr,to) (RE.pR p)=ti (false,li,dec ci,cw,fr,to) p:=RE.bes_E (c:=(false,li,dec ci,cw,fr,to)) (hf:=rf) (ht:=rt)
  have q2:fq (mkR (jY li p*jY li p+p.2.2.2.2*(j7 li p*j7 li p)) (2*(jY li p*j7 li p)) p.2.2.2.2) (r*r*(li.1*li.1+li.2.1*li.2.1))=RE.sg (RE.exE li (RE.pR p)*RE.exE li (RE.pR p)-RE.of (r*r*(li.1*li.1+li.2.1*li.2.1))):=by
   rw[RE.cmpTR_re (pO (h:=⟨hn⟩)).nn,RE.vR_lin]
  have bA:Bd (jY li p) 2070:=(inferInstance:Bd (li.1*p.1+li.2.1*p.2.2.1-li.2.2) _).mono (by decide);have bB:Bd (j7 li p) 2070:=(inferInstance:Bd (li.1*p.2.1+li.2.1*p.2.2.2.1) _).mono (by decide);have eA:li.1*p.1+li.2.1*p.2.2.1-li.2.2=jY li p:=rfl;have eB:li.1*p.2.1+li.2.1*p.2.2.2.1=j7 li p:=rfl;have e2:((2:Int):Rat)=2:=rfl;have b2':Bd (2:Rat) 3:=b2;have nC:Nn p.2.2.2.2:=⟨hn⟩
  dsimp only;simp only[aO,Nat.reduceAdd,Nat.reduceLeDiff,aH,aI,aq,o1,o2,amE hc3,i2,dT hn,RE.min_if,Bool.not_false,dC,lnC,eA,eB,e2,q2,hb];cases decide (r<0)
  ·cases ti (false,li,dec ci,cw,fr,to) p<;>rfl
  ·rfl
 ·obtain⟨c1,hq⟩:=hc.1 rfl;have hci:nE ci:=⟨c1,hq⟩
  simp only at c1 hq;obtain⟨ci,rfl,bc⟩:=aB c1;rw[az]at hq;have e0:((ak ci.1,ak ci.2.1):BV)=enc (ctr ci):=rfl;have o3:decide (nE (enc ci)∧okP 580 (enc fr)∧okP 580 (enc to)∧okP 580 (enc p))=true:=amE ⟨hci,h3,h4,hp6⟩
  have z:(sgR (sqP p (ctr ci))==0)=decide (RE.pR p=RE.vE (ctr ci)):=by
   rw[aoC,anJ];exact RE.sq_zr
  have vs:RE.vR (sqP p (ctr ci))=RE.dsE (RE.pR p) (RE.vE (ctr ci)):=RE.vR_sq _;dsimp only;simp only[aO,Nat.reduceAdd,Nat.reduceMul,Nat.reduceLeDiff,aH,aI,aq,e0,o1,o2,o3,RE.min_if,Bool.not_true,dC,ciC,z,vs,dT (show 0≤ci.2.2 by grind)];cases decide (r<0)
  ·cases decide (RE.pR p=RE.vE (ctr ci))
   ·cases RE.witE (true,dec li,ci,cw,fr,to) (RE.pR p)<;>rfl
   ·rfl
  ·rfl
end
theorem lO(q:Rat):(aD q 0== -1)=decide (q<0):=by
 unfold aD;by_cases h:q<0
 ·rw[amE h];rfl
 ·rw[amG h];by_cases h':0<q
  ·rw[amE h'];rfl
  ·rw[amG h'];rfl
def qZ:List En:=[⟨41,fQ,dU⟩,⟨99,ij,fa⟩,⟨107,iL,fw⟩,⟨106,ip,fi⟩,⟨108,gS,eT⟩,⟨73,mj,iv⟩,⟨109,kY,gD⟩,⟨305,xJ,tY⟩,enL Zf,enL X9,enL HA,enL aaW,enL YH,enL aaX,enL NO]
def ajN:Cn 326 [tR,tR]:=cn fun(a b:BR)=>lf (okR a∧okR b) [.d tR (ak (ag a+ag b))] fun h=>jH [RV.d tR (hAd a b)] (du qZ) h
def agy:Cn 279 [tR,tR]:=cn fun(a b:BR)=>lf (okR a∧okR b) [.d tR (ak (ag a-ag b))] fun h=>jH [RV.d tR (hSu a b)] (du qZ) h
def ahP:Cn 280 [tR,tR]:=cn fun(a b:BR)=>lf (okR a∧okR b) [.d tR (ak (ag a*ag b))] fun h=>jH [RV.d tR (hMu a b)] (du qZ) h
def agU:Cn 281 [tR,tR]:=cn fun(a b:BR)=>lf (hZ a b) [.d tR (ak (ag a/ag b))] fun h=>jH [RV.d tR (hDi a b)] (du qZ) h
def Xj(a b:BR)(_k:KT):OLR:=match decide (okR a∧okR b)with|true=>some [RV.d .bool ((aD (ag a) (ag b))==0)]|false=>none
def ahM:Cn 274 [tR,tR]:=cn fun(a b:BR)=>lf (okR a∧okR b) [.d .bool (decide (ag a=ag b))] fun h=>by
 refine aA qZ (Xj a b) ⟨0,?_⟩;unfold Xj;rw[dT h];simp only[ao]
def ZV(x u y v k:BR)(_k:KT):OLR:=og (decide (ok Rat 100000 x∧ok Rat 100000 u∧ok Rat 100000 k∧0≤ag k)) (og (decide (ok Rat 100000 y∧ok Rat 100000 v∧ok Rat 100000 k∧0≤ag k)) (og (decide (okT 15000 (hid (enc (mkR (ag x) (ag u) (ag k))))∧okT 15000 (hid (enc (mkR (ag y) (ag v) (ag k))))∧sW (dec (hid (enc (mkR (ag x) (ag u) (ag k))))) (dec (hid (enc (mkR (ag y) (ag v) (ag k))))))) (some [RV.d tP (hid (enc (mkP (dec (hid (enc (mkR (ag x) (ag u) (ag k))))) (dec (hid (enc (mkR (ag y) (ag v) (ag k))))))))])))
def ajJ:Cn 278 [tR,tR,tR,tR,tR]:=cn fun(x u y v k:BR)=>lf (ok Rat 1000 x∧ok Rat 1000 u∧ok Rat 1000 y∧ok Rat 1000 v∧ok Rat 1000 k∧0≤ag k) [.d tP (enc (vO (ag x) (ag u) (ag y) (ag v) (ag k)))] fun h=>by
 refine aA qZ (ZV x u y v k) ⟨0,?_⟩;obtain⟨hx,hu,hy,hv,hk,h0⟩:=h;obtain⟨x,rfl,bx⟩:=aB hx;obtain⟨u,rfl,bu⟩:=aB hu;obtain⟨y,rfl,b_y⟩:=aB hy;obtain⟨v,rfl,bv⟩:=aB hv;obtain⟨k,rfl,bk⟩:=aB hk;have h0:0≤(dec (enc k):Rat):=h0;rw[az]at h0;have nk:Nn k:=⟨h0⟩
 have n0:decide (0≤k)=true:=amE nk.le;have hm:decide (sW (mkR x u k) (mkR y v k))=true:=amE (nJ _ _ _ _ _);unfold ZV vO;simp only[aO,Nat.reduceAdd,Nat.reduceLeDiff,aH,n0,hm];try rfl
def uC:List En:=enL ajN::enL agy::enL ahP::enL agU::enT ahM::enL ajJ::qZ
def YB(l m:BO3)(_k:KT):OLR:=og (o2 l.1 m.2.1) (og (o2 m.1 l.2.1) (og (o2 (hMu l.1 m.2.1) (hMu m.1 l.2.1)) (match decide (ag (hMu l.1 m.2.1)=ag (hMu m.1 l.2.1))with|true=>(og (o2 l.1 m.2.2) (og (o2 m.1 l.2.2) (og (o2 (hMu l.1 m.2.2) (hMu m.1 l.2.2)) (match decide (ag (hMu l.1 m.2.2)=ag (hMu m.1 l.2.2))with|true=>(og (o2 l.2.1 m.2.2) (og (o2 m.2.1 l.2.2) (og (o2 (hMu l.2.1 m.2.2) (hMu m.2.1 l.2.2)) (some [RV.d .bool (decide (ag (hMu l.2.1 m.2.2)=ag (hMu m.2.1 l.2.2)))]))))|false=>some [RV.d .bool false]))))|false=>some [RV.d .bool false])))
def ah8:Cn 184 [tO,tO]:=cn fun(l m:BO3)=>lf (cU l∧cU m) [.d .bool (qH (dec l) (dec m))] fun h=>by
 refine aA uC (YB l m) ⟨0,?_⟩;obtain⟨hl,hm⟩:=h;obtain⟨l,rfl,bl,nl⟩:=eF hl;obtain⟨m,rfl,bm,nm⟩:=eF hm;unfold YB qH;have c1:l.2.1*m.1=m.1*l.2.1:=aoL _ _;have c2:l.2.2*m.1=m.1*l.2.2:=aoL _ _;have c3:l.2.2*m.2.1=m.2.1*l.2.2:=aoL _ _;simp only[aO,Nat.reduceAdd,Nat.reduceLeDiff,c1,c2,c3];cases decide (l.1*m.2.1=m.1*l.2.1)<;>cases decide (l.1*m.2.2=m.1*l.2.2)<;>rfl
def aaz(c d:BO3)(_k:KT):OLR:=og (o2 c.1 d.1) (match decide (ag c.1=ag d.1)with|true=>(og (o2 c.2.1 d.2.1) (match decide (ag c.2.1=ag d.2.1)with|true=>(og (o2 c.2.2 d.2.2) (some [RV.d .bool (decide (ag c.2.2=ag d.2.2))]))|false=>some [RV.d .bool false]))|false=>some [RV.d .bool false])
def ajo:Cn 183 [tO,tO]:=cn fun(c d:BO3)=>lf (cp c∧cp d) [.d .bool (t9 (dec c) (dec d))] fun h=>by
 refine aA uC (aaz c d) ⟨0,?_⟩;obtain⟨hc,hd⟩:=h;obtain⟨c,rfl,bc,nc⟩:=cE hc;obtain⟨d,rfl,bd,nd⟩:=cE hd;unfold aaz t9;simp only[aO,Nat.reduceLeDiff];cases decide (c.1=d.1)<;>cases decide (c.2.1=d.2.1)<;>rfl
def aaE(c d:BO3)(_k:KT):OLR:=og (o2 c.1 d.1) (match(aD (ag c.1) (ag d.1))==0 with|true=>(og (o2 c.2.1 d.2.1) (some [RV.d .bool ((aD (ag c.2.1) (ag d.2.1))==0)]))|false=>some [RV.d .bool false])
def aic:Cn 275 [tO,tO]:=cn fun(c d:BO3)=>lf (cp c∧cp d) [.d .bool (iO (dec c) (dec d))] fun h=>by
 refine aA uC (aaE c d) ⟨0,?_⟩;obtain⟨hc,hd⟩:=h;obtain⟨c,rfl,bc,nc⟩:=cE hc;obtain⟨d,rfl,bd,nd⟩:=cE hd;unfold aaE iO;simp only[aO,Nat.reduceLeDiff,ao];cases decide (c.1=d.1)<;>rfl
def XI(c:BO3)(_k:KT):OLR:=og (o2 c.1 c.1) (og (o2 c.2.1 c.2.1) (og (o2 (hMu c.1 c.1) (hMu c.2.1 c.2.1)) (og (o2 (hAd (hMu c.1 c.1) (hMu c.2.1 c.2.1)) c.2.2) (some [RV.d tR (hSu (hAd (hMu c.1 c.1) (hMu c.2.1 c.2.1)) c.2.2)]))))
def agP:Cn 325 [tO]:=cn fun(c:BO3)=>lf (cp c) [.d tR (ak (rm (dec c)))] fun h=>by
 refine aA uC (XI c) ⟨0,?_⟩;have hc:=h;obtain⟨c,rfl,bc,nc⟩:=cE hc;unfold XI rm;simp only[aO,Nat.reduceAdd,Nat.reduceLeDiff]
def Yx(l c:BO3)(_k:KT):OLR:=let y1:=hid (enc (dp (dec l) (dec (c.1,c.2.1))));let y2:=hSu (y1.2) c.2.1;let y3:=hMu (hSu (y1.1) c.1) (hSu (y1.1) c.1);let y4:=hAd y3 (hMu y2 y2);let y5:=hAd (hMu l.1 l.1) (hMu l.2.1 l.2.1);let y6:=hZ (hSu c.2.2 y4) y5;let y7:=hDi (hSu c.2.2 y4) y5;let y8:OLR:=match decide y6 with|true=>some [RV.d tR y7,RV.d tV y1]|false=>none;let y9:OLR:=match decide (okR (hMu l.1 l.1)∧okR (hMu l.2.1 l.2.1))with|true=>y8|false=>none;let y10:OLR:=match decide (okR l.2.1∧okR l.2.1)with|true=>y9|false=>none;og (decide (ok Ln 300 l∧ok (Rat×Rat) 200 (c.1,c.2.1)∧((dec l:Ln).1≠0∨(dec l:Ln).2.1≠0))) (og (o2 (y1.1) c.1) (og (o2 (y1.2) c.2.1) (og (o2 (hSu (y1.1) c.1) (hSu (y1.1) c.1)) (og (o2 y2 y2) (og (o2 y3 (hMu y2 y2)) (og (o2 c.2.2 y4) (cj (og (o2 l.1 l.1) (cj (og (o2 l.2.1 l.2.1) (cj (og (o2 (hMu l.1 l.1) (hMu l.2.1 l.2.1)) (cj (og (decide y6) (dup (.b .l .l) (some [RV.d tR y7,RV.d tV y1]))) y8)) y9)) y10)) (og (o2 l.1 l.1) y10))))))))
def ahI:Cn 277 [tO,tO]:=cn fun(l c:BO3)=>lf (cU l∧cp c) [.d tR (ak (fZ (dec l) (dec c))),.d tV (enc (ftL (dec l) (dec c)))] fun h=>by
 refine aA uC (Yx l c) ⟨0,?_⟩;obtain⟨hl,hc⟩:=h;obtain⟨l,rfl,bl,nl⟩:=eF hl;obtain⟨c,rfl,bc,nc⟩:=cE hc;have ol:=amE (mn (l:=l) nl);have bl:Bd l 63:=abe;have bv:Bd ((c.1,c.2.1):Rat×Rat) 4:=inferInstance;have hn:=pq nl;have bn:Bd (cN l) 49:=inferInstanceAs (Bd (l.1*l.1+l.2.1*l.2.1) _);have bf:=E5 (l:=l) (c:=c);have b1:Bd (ftL l c).1 163:=inferInstance;have b2:Bd (ftL l c).2 163:=inferInstance;have e1:l.1*l.1+l.2.1*l.2.1=cN l:=rfl;unfold Yx fZ BK;simp only[aO,Nat.reduceAdd,Nat.reduceLeDiff,J2,nl,UZ,e1,hn,ne_eq,anY];try rfl
def yK:List En:=enT ah8::enT ajo::enT aic::enL agP::enL ahI::uC
def WQ(l m:BO3)(_k:KT):OLR:=og (o2 l.1 m.2.1) (og (o2 m.1 l.2.1) (og (o2 (hMu l.1 m.2.1) (hMu m.1 l.2.1)) (og (o1 (hSu (hMu l.1 m.2.1) (hMu m.1 l.2.1))) (match(aD (ag (hSu (hMu l.1 m.2.1) (hMu m.1 l.2.1))) 0)==0 with|true=>(og (decide (cU l∧cU m)) (match qH (dec l) (dec m)with|true=>some [RV.d (.sl tP) ([]),RV.d apY 10]|false=>some [RV.d (.sl tP) ([]),RV.d apY 0]))|false=>(og (o2 l.2.2 m.2.1) (og (o2 m.2.2 l.2.1) (og (o2 (hMu l.2.2 m.2.1) (hMu m.2.2 l.2.1)) (og (decide (hZ (hSu (hMu l.2.2 m.2.1) (hMu m.2.2 l.2.1)) (hSu (hMu l.1 m.2.1) (hMu m.1 l.2.1)))) (og (o2 l.1 m.2.2) (og (o2 m.1 l.2.2) (og (o2 (hMu l.1 m.2.2) (hMu m.1 l.2.2)) (og (decide (hZ (hSu (hMu l.1 m.2.2) (hMu m.1 l.2.2)) (hSu (hMu l.1 m.2.1) (hMu m.1 l.2.1)))) (og (decide (ok (Rat×Rat) 100000 (hDi (hSu (hMu l.2.2 m.2.1) (hMu m.2.2 l.2.1)) (hSu (hMu l.1 m.2.1) (hMu m.1 l.2.1)),hDi (hSu (hMu l.1 m.2.2) (hMu m.1 l.2.2)) (hSu (hMu l.1 m.2.1) (hMu m.1 l.2.1))))) (some [RV.d (.sl tP) ([hid (enc (atP (dec (hDi (hSu (hMu l.2.2 m.2.1) (hMu m.2.2 l.2.1)) (hSu (hMu l.1 m.2.1) (hMu m.1 l.2.1)),hDi (hSu (hMu l.1 m.2.2) (hMu m.1 l.2.2)) (hSu (hMu l.1 m.2.1) (hMu m.1 l.2.1))))))]),RV.d apY 0]))))))))))))))
def afm:Cn 187 [tO,tO]:=cn fun(l m:BO3)=>lf (cU l∧cU m) [.d (.sl tP) ((qM (dec l) (dec m)).map enc),.d apY (Sm (dec l) (dec m))] fun h=>by
 refine aA yK (WQ l m) ⟨0,?_⟩;obtain⟨hl,hm⟩:=h;obtain⟨l,rfl,bl,nl⟩:=eF hl;obtain⟨m,rfl,bm,nm⟩:=eF hm;have ol:=amE (mn (l:=l) nl);have om:=amE (mn (l:=m) nm);have bc:Bd (fc l m) 49:=inferInstanceAs (Bd (l.1*m.2.1-m.1*l.2.1) _);have e0:l.1*m.2.1-m.1*l.2.1=fc l m:=rfl;have e1:l.2.2*m.2.1-m.2.2*l.2.1=oI l m:=rfl;have e2:l.1*m.2.2-m.1*l.2.2=pC l m:=rfl;have bx:Bd (oI l m) 151:=inferInstanceAs (Bd (l.2.2*m.2.1-m.2.2*l.2.1) _);have b_:Bd (pC l m) 151:=inferInstanceAs (Bd (l.1*m.2.2-m.1*l.2.2) _);unfold WQ qM Sm;simp only[aO,Nat.reduceAdd,Nat.reduceLeDiff,ao,ol,om,e0,e1,e2];by_cases h0:fc l m=0
 ·simp only[amE h0,Bool.not_true];cases qH l m<;>rfl
 ·simp only[aO,Nat.reduceAdd,Nat.reduceLeDiff,h0,ne_eq,anY,Bool.not_false,J2];rfl
def Zv(c d:BO3)(_k:KT):OLR:=og (decide (cp c∧cp d)) (match iO (dec c) (dec d)with|true=>some [RV.d tO (((false,[]),(false,[])),(((false,[]),(false,[])),((false,[]),(false,[])))),RV.d apY 6]|false=>(og (decide (aG (2:Int))) (og (o2 d.1 c.1) (og (o2 (hid (ak ((2:Int):Rat))) (hSu d.1 c.1)) (og (o2 d.2.1 c.2.1) (og (o2 (hid (ak ((2:Int):Rat))) (hSu d.2.1 c.2.1)) (og (decide (cp d)) (og (decide (cp c)) (og (o2 (hid (ak (rm (dec d)))) (hid (ak (rm (dec c))))) (some [RV.d tO (hMu (hid (ak ((2:Int):Rat))) (hSu d.1 c.1),(hMu (hid (ak ((2:Int):Rat))) (hSu d.2.1 c.2.1),hSu (hid (ak (rm (dec d)))) (hid (ak (rm (dec c)))))),RV.d apY 0]))))))))))
def aiS:Cn 276 [tO,tO]:=cn fun(c d:BO3)=>lf (cp c∧cp d) [.d tO (vw (dec c) (dec d)),.d apY (Vu (dec c) (dec d))] fun h=>by
 refine aA yK (Zv c d) ⟨0,?_⟩;obtain⟨hc,hd⟩:=h;obtain⟨c,rfl,bc,nc⟩:=cE hc;obtain⟨d,rfl,bd,nd⟩:=cE hd;have oc:=amE (gQ (c:=c) nc);have od:=amE (gQ (c:=d) nd);have i2:decide (aG 2)=true:=by decide
 have b2:Bd ((2:Int):Rat) 3:=bS (by decide);have f1:Bd (rm c) 31:=(inferInstance:Bd (c.1*c.1+c.2.1*c.2.1-c.2.2) _).mono (by decide);have f2:Bd (rm d) 31:=(inferInstance:Bd (d.1*d.1+d.2.1*d.2.1-d.2.2) _).mono (by decide);unfold Zv vw Vu;simp only[aO,Nat.reduceAdd,Nat.reduceLeDiff,oc,od,i2];cases iO c d
 ·rfl
 ·rfl
def ahm:Ctx:=CX (ens yK) []
def XD(l c:BO3)(_k:KT):OLR:=let y1:=hid (ak (fZ (dec l) (dec c)));let y2:=hid (enc (ftL (dec l) (dec c)));let y3:=aD (ag l.2.1) 0;let y4:=hNe (hNe (hNe l.1));let y5:=enc (vO (ag (y2.1)) (ag (hNe l.2.1)) (ag (y2.2)) (ag (hNe (hNe l.1))) (ag y1));let y6:OLR:=match decide (okR l.2.1)with|true=>(og (o1 (hNe l.1)) (og (o1 (hNe l.2.1)) (og (o1 (hNe (hNe l.1))) (og (decide (ok Rat 1000 (y2.1)∧ok Rat 1000 (hNe (hNe l.2.1))∧ok Rat 1000 (y2.2)∧ok Rat 1000 y4∧ok Rat 1000 y1∧0≤ag y1)) (og (decide (ok Rat 1000 (y2.1)∧ok Rat 1000 (hNe l.2.1)∧ok Rat 1000 (y2.2)∧ok Rat 1000 (hNe (hNe l.1))∧ok Rat 1000 y1∧0≤ag y1)) (some [RV.new 37 tP ([hid (enc (vO (ag (y2.1)) (ag (hNe (hNe l.2.1))) (ag (y2.2)) (ag y4) (ag y1))),hid y5])]))))))|false=>none;let y7:OLR:=match decide (okR l.2.1)with|true=>(og (o1 (hNe l.1)) (og (decide (ok Rat 1000 (y2.1)∧ok Rat 1000 (hNe l.2.1)∧ok Rat 1000 (y2.2)∧ok Rat 1000 (hNe (hNe l.1))∧ok Rat 1000 y1∧0≤ag y1)) (og (decide (ok Rat 1000 (y2.1)∧ok Rat 1000 l.2.1∧ok Rat 1000 (y2.2)∧ok Rat 1000 (hNe l.1)∧ok Rat 1000 y1∧0≤ag y1)) (some [RV.new 37 tP ([hid y5,hid (enc (vO (ag (y2.1)) (ag l.2.1) (ag (y2.2)) (ag (hNe l.1)) (ag y1)))])]))))|false=>none;og (decide (cU l∧cp c)) (og (o1 y1) (match(aD (ag y1) 0)==(-1)with|true=>some [RV.new 37 tP []]|false=>(match(aD (ag y1) 0)==0 with|true=>(og (decide (ok (Rat×Rat) 100000 y2)) (some [RV.new 37 tP ([hid (enc (atP (dec y2)))])]))|false=>(og (o1 l.1) (og (o1 l.2.1) (match decide (y3<0)with|true=>y6|false=>(match y3==0 with|true=>(og (o1 (hNe l.1)) (match decide ((aD (ag (hNe l.1)) 0)<0)with|true=>y6|false=>y7))|false=>y7)))))))
theorem aiB(l c:BO3):RS ahm 186 [.d tO l,.d tO c] (XD l c):=rsX
def ait:Cn 186 [tO,tO]:=cn fun(l c:BO3)=>lf (cU l∧cp c) [.d (.sl tP) ((lU (dec l) (dec c)).map enc)] fun h=>by
 refine Con.new_d (et:=37) (c8 yK (aiB _ _ ⟨0,?_⟩));obtain⟨hl,hc⟩:=h;obtain⟨l,rfl,bl,nl⟩:=eF hl;obtain⟨c,rfl,bc,nc⟩:=cE hc;have ol:=amE (mn (l:=l) nl);have oc:=amE (gQ (c:=c) nc);have bf:=E5 (l:=l) (c:=c);have bk:=OH (l:=l) (c:=c);have b1:Bd (ftL l c).1 163:=inferInstance;have b2:Bd (ftL l c).2 163:=inferInstance;unfold XD lU;simp only[aO,Nat.reduceLeDiff,ao,aq,lO,ol,oc];by_cases h0:fZ l c<0
 ·simp only[amE h0];rfl
 ·simp only[amG h0];by_cases h1:fZ l c=0
  ·simp only[amE h1];rfl
  ·have hp:decide (0≤fZ l c)=true:=amE (by grind);simp only[amG h1,hp,aO];unfold lcM lcN uq vf KF;cases decide (l.2.1<0)<;>cases decide (l.2.1=0)<;>cases decide (-l.1<0)<;>rfl
def Ph:List En:=enL afm::enL aiS::enL ait::yK
def aar(c d:BO3)(_k:KT):OLR:=og (decide (cp c∧cp d)) (match t9 (dec c) (dec d)with|true=>some [RV.d (.sl tP) ([]),RV.d apY 10]|false=>(og (decide (cp c∧cp d)) (match iO (dec c) (dec d)with|true=>some [RV.d (.sl tP) ([]),RV.d apY 0]|false=>(og (decide (cp c∧cp d)) (og (decide (cU (hid (vw (dec c) (dec d)))∧cp c)) (some [RV.d (.sl tP) ((lU (dec (hid (vw (dec c) (dec d)))) (dec c)).map enc),RV.d apY 0]))))))
def aiy:Cn 185 [tO,tO]:=cn fun(c d:BO3)=>lf (cp c∧cp d) [.d (.sl tP) ((vM (dec c) (dec d)).map enc),.d apY (Tx (dec c) (dec d))] fun h=>by
 refine aA Ph (aar c d) ⟨0,?_⟩;obtain⟨hc,hd⟩:=h;obtain⟨c,rfl,bc,nc⟩:=cE hc;obtain⟨d,rfl,bd,nd⟩:=cE hd;have oc:=amE (gQ (c:=c) nc);have od:=amE (gQ (c:=d) nd);unfold aar vM Tx;simp only[aO,oc,od];cases hs:t9 c d
 ·cases hc:iO c d
  ·have ol:cU (enc (ou c d)):=OF hc;have er:vw c d=enc (ou c d):=by unfold vw;rw[hc];rfl
   simp only[er,dT ol,aO];try rfl
  ·rfl
 ·have hc:iO c d=true:=by
   unfold t9 at hs;unfold iO;cases h1:decide (c.1=d.1)
   ·rw[h1]at hs;cases hs
   ·cases h2:decide (c.2.1=d.2.1)
    ·rw[h1,h2]at hs;cases hs
    ·rfl
  rw[hc];rfl
def Sk:List En:=enL aiy::Ph
def Xm(a b:BCU)(_k:KT):OLR:=match a.1 with|true=>(match b.1 with|true=>(og (decide (cp a.2.2.1∧cp b.2.2.1)) (some [RV.d (.sl tP) ((vM (dec a.2.2.1) (dec b.2.2.1)).map enc),RV.d apY (Tx (dec a.2.2.1) (dec b.2.2.1))]))|false=>(match a.1 with|true=>(og (decide (cU b.2.1∧cp a.2.2.1)) (some [RV.d (.sl tP) ((lU (dec b.2.1) (dec a.2.2.1)).map enc),RV.d apY 0]))|false=>(match b.1 with|true=>(og (decide (cU a.2.1∧cp b.2.2.1)) (some [RV.d (.sl tP) ((lU (dec a.2.1) (dec b.2.2.1)).map enc),RV.d apY 0]))|false=>(og (decide (cU a.2.1∧cU b.2.1)) (some [RV.d (.sl tP) ((qM (dec a.2.1) (dec b.2.1)).map enc),RV.d apY (Sm (dec a.2.1) (dec b.2.1))])))))|false=>(match a.1 with|true=>(og (decide (cU b.2.1∧cp a.2.2.1)) (some [RV.d (.sl tP) ((lU (dec b.2.1) (dec a.2.2.1)).map enc),RV.d apY 0]))|false=>(match b.1 with|true=>(og (decide (cU a.2.1∧cp b.2.2.1)) (some [RV.d (.sl tP) ((lU (dec a.2.1) (dec b.2.2.1)).map enc),RV.d apY 0]))|false=>(og (decide (cU a.2.1∧cU b.2.1)) (some [RV.d (.sl tP) ((qM (dec a.2.1) (dec b.2.1)).map enc),RV.d apY (Sm (dec a.2.1) (dec b.2.1))]))))
def Zm:Cn 85 [tCU,tCU]:=cn fun(a b:BCU)=>lf (gO a b) [.d (.sl tP) ((il (dC a) (dC b)).map enc),.d apY (ahu (dC a) (dC b))] fun h=>by
 refine aA Sk (Xm a b) ⟨0,?_⟩;obtain⟨⟨a1,a2⟩,b1,b2⟩:=h;unfold Xm il ahu;obtain⟨aa,al,ac,aw,af,at_⟩:=a;obtain⟨ba,bl,bc,bw,bf,bt⟩:=b;cases aa<;>cases ba
 ·have h1:=a2 rfl;have h2:=b2 rfl;simp only[dT (show cU al∧cU bl from⟨h1,h2⟩)];rfl
 ·have h1:=a2 rfl;have h2:=b1 rfl;simp only[dT (show cU al∧cp bc from⟨h1,h2⟩)];rfl
 ·have h1:=a1 rfl;have h2:=b2 rfl;simp only[dT (show cU bl∧cp ac from⟨h2,h1⟩)];rfl
 ·have h1:=a1 rfl;have h2:=b1 rfl;simp only[dT (show cp ac∧cp bc from⟨h1,h2⟩)];rfl
def aab(a b:BCU)(_k:KT):OLR:=match !(a.1==b.1)with|true=>some [RV.d .bool false]|false=>(match a.1 with|true=>(og (decide (cp a.2.2.1∧cp b.2.2.1)) (some [RV.d .bool (t9 (dec a.2.2.1) (dec b.2.2.1))]))|false=>(og (decide (cU a.2.1∧cU b.2.1)) (some [RV.d .bool (qH (dec a.2.1) (dec b.2.1))])))
def ZY:Cn 84 [tCU,tCU]:=cn fun(a b:BCU)=>lf (gO a b) [.d .bool (cY (dC a) (dC b))] fun h=>by
 refine aA Sk (aab a b) ⟨0,?_⟩;obtain⟨⟨a1,a2⟩,b1,b2⟩:=h;unfold aab cY;obtain⟨aa,al,ac,aw,af,at_⟩:=a;obtain⟨ba,bl,bc,bw,bf,bt⟩:=b;cases aa<;>cases ba
 ·have h1:=a2 rfl;have h2:=b2 rfl;simp only[dT (show cU al∧cU bl from⟨h1,h2⟩)];rfl
 ·rfl
 ·rfl
 ·have h1:=a1 rfl;have h2:=b1 rfl;simp only[dT (show cp ac∧cp bc from⟨h1,h2⟩)];rfl
theorem Uz(f p q:Bool×Rt): -1≤gu aW f p q∧gu aW f p q≤1:=by
 have h:∀n,-1≤jV n∧jV n≤1:=fun n=>by
  unfold jV;split<;>(try split)<;>omega
 unfold gu;cases oo aW f p==oo aW f q
 ·exact h _
 ·exact h _
def aiT:List En:=[enT QO,enT Oo]
def ZP(c:BCU)(p q:BP)(_k:KT):OLR:=match !c.1 with|true=>(og (decide (okP 4000 p∧okP 4000 q)) (og (decide (okP 4000 c.2.2.2.2.2∧okP 4000 c.2.2.2.2.1)) (some [RV.d apY (i64.wrap ((aX (dec p) (dec q))*(aX (dec c.2.2.2.2.2) (dec c.2.2.2.2.1))))])))|false=>(match c.2.2.2.1 with|true=>(og (decide (ok Ln 300 c.2.2.1∧okP 4000 c.2.2.2.2.2∧okP 4000 p∧okP 4000 q)) (some [RV.d apY (i64.wrap (0-(gu aW (ptd (dec c.2.2.1) (dec c.2.2.2.2.2)) (ptd (dec c.2.2.1) (dec p)) (ptd (dec c.2.2.1) (dec q)))))]))|false=>(og (decide (ok Ln 300 c.2.2.1∧okP 4000 c.2.2.2.2.1∧okP 4000 p∧okP 4000 q)) (some [RV.d apY (gu aW (ptd (dec c.2.2.1) (dec c.2.2.2.2.1)) (ptd (dec c.2.2.1) (dec p)) (ptd (dec c.2.2.1) (dec q)))])))
def ag8:Cn 194 [tCU,tP,tP]:=cn fun(c:BCU) (p q:BP)=>lf (okC 4000 c∧okP 4000 p∧okP 4000 q) [.d apY (Cl (dC c) (dec p) (dec q))] fun h=>by
 refine aA aiT (ZP c p q) ⟨0,?_⟩;obtain⟨hc,hp,hq⟩:=h;obtain⟨ar,li,ci,cw,fr,to⟩:=c;have h3:=hc.2.2.1;have h4:=hc.2.2.2;simp only at h3 h4;unfold ZP Cl;cases ar
 ·have b1:=wb (dec p) (dec q);have b2:=wb (dec to) (dec fr);simp only[dT (show okP 4000 p∧okP 4000 q from⟨hp,hq⟩),dT (show okP 4000 to∧okP 4000 fr from⟨h4,h3⟩),Ax b1 b2];rfl
 ·have e:=(hc.1 rfl).1;simp only at e;cases cw
  ·simp only[dT (show ok Ln 300 ci∧okP 4000 fr∧okP 4000 p∧okP 4000 q from⟨e,h3,hp,hq⟩)];rfl
  ·have b:=Uz (ptd (dec ci) (dec to)) (ptd (dec ci) (dec p)) (ptd (dec ci) (dec q));simp only[dT (show ok Ln 300 ci∧okP 4000 to∧okP 4000 p∧okP 4000 q from⟨e,h4,hp,hq⟩)];try dsimp only[Bool.not_true]
   rw[aT (x:=0-gu aW (ptd (dec ci) (dec to)) (ptd (dec ci) (dec p)) (ptd (dec ci) (dec q))) (by omega) (by omega),aox];rfl
end Go.Proofs.YtnkndpoojnflmaaGreat
end
