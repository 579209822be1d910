/- The answer for a point's distance is about the least square of all distances. -/
import Derived.Test.YtagbmoohboleaaaGreatK15
import Derived.Test.YtagbmoohboleaaaGreatK13
noncomputable section
namespace Go.Proofs.YtagbmoohboleaaaGreat
open Go.RowKit Go.IntKind
theorem aqi:type_of% @List.mem_filter:=@List.mem_filter
theorem aqj:type_of% @List.any_cons:=@List.any_cons
section
namespace RE
theorem jQ{c:Cv}(ha:c.1=false):onE c=segE (lnC c) (pR (frC c)) (pR (toC c)):=by funext p;unfold onE;rw[ha];rfl
theorem ij{c:Cv}(ha:c.1=true):onE c=arcE (ciC c) (pR (ccF c)) (pR (ccT c)):=by funext p;unfold onE;rw[anH ha]
structure ak9 (c:Cv):Prop where
 q:0<(ciC c).2.2
 u:gi (ciC c) (pR (ccF c))
 w:gi (ciC c) (pR (ccT c))
 ne:frm (ciC c) (pR (ccF c))≠frm (ciC c) (pR (ccT c))
theorem vK{c:Cv}(h:GdE c)(ha:c.1=true):ak9 c:=by
 have hf:=h.f;have ht:=h.t;obtain⟨hq,oF,oT⟩:=h.q ha;have oF:gi (ciC c) (pR (frC c)):=oF;have oT:gi (ciC c) (pR (toC c)):=oT;refine⟨hq,by rcases mf c with⟨e,_⟩|⟨e,_⟩<;>rw[e]<;>assumption,by rcases mf c with⟨_,e⟩|⟨_,e⟩<;>rw[e]<;>assumption,λe=>?_⟩;have e1:pR (ccF c)=pR (ccT c):=anN (gf _ _ _ (congrArg Prod.fst e)) (gf _ _ _ (congrArg Prod.snd e));rcases mf c with⟨g1,g2⟩|⟨g1,g2⟩<;>rw[g1,g2]at e1
 ·exact h.ne e1
 ·exact h.ne e1.symm
theorem Aj(c:Ln)(p:PE):dtE (frm c p) (frm c p)=dsE p (vE (ctr c)):=rfl
theorem yR(p q:PE):0<=dsE p q:=by
 have h1:=c9 (p.1-q.1);have h2:=c9 (p.2-q.2);unfold dsE;grind
theorem CM{c:Ln}{p q:PE}(e:frm c p=frm c q):p=q:=anN (gf _ _ _ (congrArg Prod.fst e)) (gf _ _ _ (congrArg Prod.snd e))
theorem MU{c:Ln}(hq:0<c.2.2){p:PE}(hp:p≠vE (ctr c)):∃u k q,0<u/\0<k/\u*u=dsE p (vE (ctr c))/\frm c q=((frm c p).1*k,(frm c p).2*k)/\gi c q/\dtE (frm c q) (frm c p)=u*rq c.2.2:=by
 have hn:=yR p (vE (ctr c))
 have h0:dsE p (vE (ctr c))≠0:=λe=>by
  obtain⟨a,b⟩:=lc e;exact hp (anN (by grind) (by grind))
 have hu:=jo hn;have hu0:=eV (dsE p (vE (ctr c)));generalize mb (dsE p (vE (ctr c)))=u at hu hu0
 have up:0<u:=by
  rcases cJ hu0 with h|h
  ·exact h
  ·exact absurd (by rw[<-hu,h,zero_mul]) h0
 obtain⟨k,kp,ek⟩:=yW up;have tp:=Bv hq;have tt:=dE (m:=c.2.2) (by grind);have hd:dtE (frm c p) (frm c p)=u*u:=by rw[Aj,hu]
 unfold dtE at hd;refine⟨u,rq c.2.2*k,((frm c p).1*(rq c.2.2*k)+of c.1,(frm c p).2*(rq c.2.2*k)+of c.2.1),up,mul_pos tp kp,hu,?_,?_,?_⟩
 ·exact anN (by show _+_-_=_;grind) (by show _+_-_=_;grind)
 ·show(_+_-_)*(_+_-_)+(_+_-_)*(_+_-_)=_;generalize (frm c p).1=a at hd ⊢;generalize (frm c p).2=b at hd ⊢;generalize rq c.2.2=t at tt ⊢;have:(a*(t*k))*(a*(t*k))+(b*(t*k))*(b*(t*k))=(a*a+b*b)*(k*k)*(t*t):=by grind
  have e2:u*u*(k*k)=1:=by
   have:u*u*(k*k)=(u*k)*(u*k):=by grind
   rw[this,ek,one_mul]
  rw[hd,e2,tt]at this;grind
 ·show(_+_-_)*_+(_+_-_)*_=_;generalize (frm c p).1=a at hd ⊢;generalize (frm c p).2=b at hd ⊢;generalize rq c.2.2=t at tt ⊢;have:(a*(t*k))*a+(b*(t*k))*b=(a*a+b*b)*(k*t):=by grind
  have e2:u*u*(k*t)=u*t*(u*k):=by grind
  rw[hd,e2,ek]at this;grind
theorem ahz{c:Ln}{q p:PE}{u:RE}(hq:0<=c.2.2)(o:gi c q)(hu:0<=u)(e:u*u=dsE p (vE (ctr c))):dtE (frm c q) (frm c p)<=u*rq c.2.2:=by
 have h1:=B3 (frm c q).1 (frm c q).2 (frm c p).1 (frm c p).2;have h2:(frm c q).1*(frm c q).1+(frm c q).2*(frm c q).2=of c.2.2:=o;have h3:(frm c p).1*(frm c p).1+(frm c p).2*(frm c p).2=u*u:=by rw[e];rfl
 have tt:=dE hq;have t0:=gS c.2.2;rw[h2,h3,<-tt]at h1;have h4:=EV _ _ _ h1;rcases lt_or_ge 0 (dtE (frm c q) (frm c p))with g|g
 ·exact uP _ _ (le_of_lt g) (aD hu t0) (by
   show dtE _ _*dtE _ _<=_;unfold dtE;grind)
 ·exact abw _ _ g (aD hu t0)
open Classical in
theorem IM{c:Cv}(h:GdE c)(p:PE):∃m,Mn (onE c) p m/\∀r:Rat,0<=r->poiE c p r=sg (m-of (r*r)):=by
 have hf:=h.f;have ht:=h.t;have hend:∀r,UB c p r=sg (mnE (dsE (pR (frC c)) p) (dsE (pR (toC c)) p)-of (r*r)):=λr=>Yj _ _ _;cases ha:c.1
 ·obtain⟨hl,oF,oT⟩:=h.l ha;have hn:0<nrE (lnC c):=pV hl;rw[jQ ha];by_cases hb:btE (tE (lnC c) (pR (frC c))) (tE (lnC c) (pR (toC c))) (tE (lnC c) p)
  ·obtain⟨k,kp,ek⟩:=yW hn;refine⟨_,u5 hn hb kp ek,λr hr=>?_⟩;unfold poiE besE;rw[dF (show ¬r<0 by grind),dT hb,ha];show sg _=_;rw[<-gZ hn (_-of (r*r)),aC (r*r),Q9,ek,mul_one];rfl
  ·refine⟨_,xF hn oF oT hb,λr hr=>?_⟩;unfold poiE besE;rw[dF (show ¬r<0 by grind),dF hb,ha];exact hend r
 ·have g:=vK h ha;have hq:=g.q;rw[ij ha];by_cases hz:p=vE (ctr (ciC c))
  ·refine⟨of (ciC c).2.2,⟨⟨_,⟨g.u,(gP _ _).1⟩,by rw[hz];exact g.u⟩,λq hq=>by rw[hz];exact mZ hq.1⟩,λr hr=>?_⟩;unfold poiE;rw[dF (show ¬r<0 by grind),dT hz,ha];show aF _ _=_;rw[<-of_sub,sg_of];unfold aF;grind
  ·obtain⟨u,k,q,up,kp,eu,eq,oq,dq⟩:=MU hq hz;have tt:=dE (m:=(ciC c).2.2) (by grind);cases hw:witE c p
   ·refine⟨mnE (dsE (pR (frC c)) p) (dsE (pR (toC c)) p),?_,λr hr=>?_⟩
    ·have hd:¬fx (frm (ciC c) (pR (ccF c))) (frm (ciC c) (pR (ccT c))) (frm (ciC c) p)=true:=λe=>by
      unfold witE at hw;rw[e]at hw;cases hw
     have res:=Dt (v:=p) (S:=arcE (ciC c) (pR (ccF c)) (pR (ccT c))) ⟨g.u,(gP _ _).1⟩ ⟨g.w,(gP _ _).2⟩ (λx hx=>(CB g.u g.w hx.1 g.ne hx.2 hd).imp (vT hx.1 g.u) (vT hx.1 g.w));rcases mf c with⟨g1,g2⟩|⟨g1,g2⟩
     ·rw[g1,g2]at res ⊢;exact res
     ·rw[g1,g2]at res ⊢;rw[Gq];exact res
    ·unfold poiE;rw[dF (show ¬r<0 by grind),dF hz,ha,hw];exact hend r
   ·refine⟨u*u+of (ciC c).2.2-(u*rq (ciC c).2.2+u*rq (ciC c).2.2),⟨⟨q,⟨oq,?_⟩,?_⟩,λx hx=>?_⟩,λr hr=>?_⟩
    ·rw[eq,ow _ _ _ kp];exact hw
    ·rw[oV oq,dq,Aj,<-eu,add_comm (of _)]
    ·rw[oV hx.1,Aj,<-eu,add_comm (of (ciC c).2.2)];exact NQ _ _ _ _ (ahz (by grind) hx.1 (le_of_lt up) eu)
    ·unfold poiE;rw[dF (show ¬r<0 by grind),dF hz,ha,hw,<-IW up hq rfl hr,eu];rfl
end RE
end
section
def sB(x u y v k:Rat):Pt:=mkP (mkR x u k) (mkR y v k)
def ftL(l c:Ln):Rat×Rat:=(ftX l c,ftY l c)
def zu(l c:Ln):Rat:=(ftX l c-c.1)*(ftX l c-c.1)+(ftY l c-c.2.1)*(ftY l c-c.2.1)
def fa(l c:Ln):Rat:=(c.2.2-zu l c)/cr l
def Ic(l:Ln):Bool:=decide (l.2.1<0)||(decide (l.2.1=0)&&decide (-l.1<0))
def sE(l:Ln):Rat:=bif Ic l then-l.2.1 else l.2.1
def sG(l:Ln):Rat:=bif Ic l then- -l.1 else-l.1
def lcM(l c:Ln):Pt:=sB (ftX l c) (-sE l) (ftY l c) (-sG l) (fa l c)
def lcN(l c:Ln):Pt:=sB (ftX l c) (sE l) (ftY l c) (sG l) (fa l c)
def mn(l c:Ln):List Pt:=bif decide (fa l c<0)then []else bif decide (fa l c=0)then [atP (ftL l c)]else [lcM l c,lcN l c]
def Tu(l m:Ln):Int:=bif !decide (dK l m=0)then 0 else bif pq l m then 10 else 0
def tc(c d:Ln):List Pt:=bif iU c d then []else mn (oH c d) c
def VG(c d:Ln):Int:=bif qV c d then 10 else 0
def im(a b:Cv):List Pt:=bif a.1&&b.1 then tc (ciC a) (ciC b)else bif a.1 then mn (lnC b) (ciC a)else bif b.1 then mn (lnC a) (ciC b)else mC (lnC a) (lnC b)
def akg(a b:Cv):Int:=bif a.1&&b.1 then VG (ciC a) (ciC b)else bif a.1 then 0 else bif b.1 then 0 else Tu (lnC a) (lnC b)
def ahA(c:Ln):Pt:=sB c.1 (-1) c.2.1 0 c.2.2
def agR(c:Ln):Pt:=sB c.1 1 c.2.1 0 c.2.2
theorem WE(l c:Ln):dZ l (c.1,c.2.1)=ftL l c:=rfl
theorem NX{x u y v k:Rat}[h:Nn k]:Rpd (sB x u y v k):=aar uQ uQ (rN _ _ _ _ _)
section
variable {l c:Ln}
theorem aew [BdL l]:Bd (sE l) 12/\Bd (sG l) 12:=by
 unfold sE sG;cases Ic l
 ·exact⟨(inferInstance:Bd l.2.1 12),(inferInstance:Bd (-l.1) 12)⟩
 ·exact⟨(inferInstance:Bd (-l.2.1) 12),(inferInstance:Bd (- -l.1) 12)⟩
end
theorem SX{x u y v k:Rat}{a b c:Nat}(h1:Bd x a)(h2:Bd u b)(h3:Bd y a)(h4:Bd v b)(h5:Bd k c){n:Nat}(hn:a+(b+c)+1<=n):Bd (sB x u y v k) n:=by
 have z:bdR n 0:=bK mM.le (by omega);have i1:Bd (mkR x u k) (a+(b+c)+1):=inferInstance;have i2:Bd (mkR y v k) (a+(b+c)+1):=inferInstance;have f1:=i1.mono hn;have f2:=i2.mono hn;refine⟨?_⟩;unfold sB mkP rdP;dsimp only;refine⟨f1.le.1,f1.le.2.1,f2.le.1,f2.le.2.1,?_⟩;cases decide ((mkR x u k).2.1=0)&&decide ((mkR y v k).2.1=0)
 ·cases decide ((mkR x u k).2.1=0)
  ·exact f1.le.2.2
  ·exact f2.le.2.2
 ·exact z
section
variable {l c:Ln}
theorem QR [BdL l][h:BdC c]:Bd (fa l c) 1000:=by
 obtain⟨f1,f2,_,_⟩:=v5 (l:=l) (c:=c);have hx:=h.x;have hy:=h.y;have hq:=h.q;have i1:Bd (cr l) 49:=inferInstanceAs (Bd (l.1*l.1+l.2.1*l.2.1) _);have i2:Bd (zu l c) 673:=(inferInstance:Bd ((ftX l c-c.1)*(ftX l c-c.1)+(ftY l c-c.2.1)*(ftY l c-c.2.1)) _).mono (by decide);exact(inferInstance:Bd ((c.2.2-zu l c)/cr l) _).mono (by decide)
theorem GV [BdL l][h:BdC c]:Bd (ftL l c) 163:=by
 obtain⟨f1,f2,_,_⟩:=v5 (l:=l) (c:=c);exact(inferInstance:Bd ((ftX l c,ftY l c):Rat×Rat) _).mono (by decide)
theorem afs [BdL l][BdC c]:Bd (lcM l c) 1200/\Bd (lcN l c) 1200:=by
 obtain⟨f1,f2,_,_⟩:=v5 (l:=l) (c:=c);obtain⟨d1,d2⟩:=aew (l:=l);have k:=QR (l:=l) (c:=c);have n1:Bd (-sE l) 12:=inferInstance;have n2:Bd (-sG l) 12:=inferInstance;exact⟨SX f1 n1 f2 n2 k (by decide),SX f1 d1 f2 d2 k (by decide)⟩
theorem u4 [BdL l][BdC c]:(mn l c).length<=2/\∀p∈mn l c,Bd p 1200/\Rpd p:=by
 unfold mn;by_cases h0:fa l c<0
 ·rw[anb h0];exact⟨by simp,λp hp=>by cases hp⟩
 ·rw[ane h0];by_cases h1:fa l c=0
  ·rw[anb h1];have:=GV (l:=l) (c:=c);refine⟨by simp,λp hp=>?_⟩;have:p=atP (ftL l c):=by simpa using hp
   rw[this];exact⟨(inferInstance:Bd (atP (ftL l c)) _).mono (by decide),inferInstance⟩
  ·rw[ane h1];obtain⟨q1,q2⟩:=afs (l:=l) (c:=c);have nn:Nn (fa l c):=⟨by grind⟩
   refine⟨by simp,λp hp=>?_⟩;have:p=lcM l c\/p=lcN l c:=by simpa using hp
   rcases this with e|e<;>rw[e]
   ·exact⟨q1,NX⟩
   ·exact⟨q2,NX⟩
end
end
section
namespace RE
theorem amI(A B x y u v s:RE):A*(x+u*s)+B*(y+v*s)=(A*x+B*y)+(A*u+B*v)*s:=by grind
theorem al7(x y u v s p q:RE):(x+u*s-p)*(x+u*s-p)+(y+v*s-q)*(y+v*s-q)=((x-p)*(x-p)+(y-q)*(y-q))+((x-p)*u+(y-q)*v)*s+((x-p)*u+(y-q)*v)*s+(u*u+v*v)*(s*s):=by grind
theorem amy(b n r:RE):b*(r*n)=b*n*r:=by grind
theorem amL(r n:RE):r*n*(r*n)=r*r*(n*n):=by grind
theorem alr(x y p q a b m n:RE):(x-a)*(x-a)+(y-b)*(y-b)=((x-p)*(x-p)+(y-q)*(y-q))+(a*a+b*b-m)-(p*p+q*q-n)-((1+1)*(a-p)*x+(1+1)*(b-q)*y)+(m-n):=by grind
theorem alV(a b n m:RE):n+a-b-(a-b)+(m-n)=m:=by grind
theorem qJ(x u y v k:Rat):pR (sB x u y v k)=(v2 x u k,v2 y v k):=by
 unfold sB;rw[YA (rN _ _ _ _ _),vR_mk,vR_mk]
section
variable {l c:Ln}
theorem Jx(hl:l.1≠0\/l.2.1≠0):0<cr l:=by
 have h:=pP hl;have h1:0<=cr l:=jN (l.1,l.2.1);grind
theorem G4(hl:l.1≠0\/l.2.1≠0):fa l c*(cr l*cr l)=kB l c:=by
 have hn:=pP hl;have t:vlL l c.1 c.2.1/cr l*cr l=vlL l c.1 c.2.1:=anx hn;have k:(c.2.2-zu l c)/cr l*cr l=c.2.2-zu l c:=anx hn;unfold fa;rw[<-Rat.mul_assoc,k];unfold zu ftX ftY kB;generalize vlL l c.1 c.2.1/cr l=s at*
 rw[<-t];unfold cr;grind
theorem adY(hl:l.1≠0\/l.2.1≠0):(fa l c<0↔kB l c<0)/\(fa l c=0↔kB l c=0):=by
 have hn:=Jx hl;have h2:0<cr l*cr l:=anE hn hn;have e:=G4 (c:=c) hl;rcases(by grind:fa l c<0\/fa l c=0\/0<fa l c)with h|h|h
 ·have:=anE (show 0< -fa l c by grind) h2;have e2: -fa l c*(cr l*cr l)= -kB l c:=by rw[Rat.neg_mul,e]
  rw[e2]at this;constructor<;>constructor<;>intro<;>grind
 ·rw[h,Rat.zero_mul]at e;constructor<;>constructor<;>intro<;>grind
 ·have:=anE h h2;rw[e]at this;constructor<;>constructor<;>intro<;>grind
theorem afG(hl:l.1≠0\/l.2.1≠0)(h0:0<=fa l c):rq (kB l c)=rq (fa l c)*of (cr l):=by
 have hn:=Jx hl
 have hr:0<=kB l c:=by
  rw[<-G4 hl];exact anw h0 (anw (by grind) (by grind))
 refine Ex _ _ (gS _) (aD (gS _) (gr.2 (by grind))) ?_;rw[amL,dE hr,dE h0,<-aC,<-aC,G4 hl]
theorem Dx(hl:l.1≠0\/l.2.1≠0)(h0:0<=fa l c)(a b:Rat):v2 a b (fa l c)=v2 a (b/cr l) (kB l c):=by
 unfold v2;rw[afG hl h0,amy,<-aC,anx (pP hl)]
theorem ndv(a b:Rat): -a/b= -(a/b):=by rw[apb,apb,Rat.neg_mul]
theorem alB(hl:l.1≠0\/l.2.1≠0)(v:PE):(∃p∈mn l c,pR p=v)↔∃p∈tb l c,pR p=v:=by
 obtain⟨s1,s2⟩:=adY (c:=c) hl;unfold mn tb;by_cases h0:fa l c<0
 ·rw[anb h0,anb (s1.1 h0)];exact Iff.rfl
 ·rw[ane h0,ane (λh=>h0 (s1.2 h))];by_cases h1:fa l c=0
  ·rw[anb h1,anb (s2.1 h1)];exact Iff.rfl
  ·rw[ane h1,ane (λh=>h1 (s2.2 h))];have hp:0<=fa l c:=by grind
   have e:(pR (lcM l c)=pR (uN l c)/\pR (lcN l c)=pR (vG l c))\/(pR (lcM l c)=pR (vG l c)/\pR (lcN l c)=pR (uN l c)):=by
    unfold lcM lcN uN vG;rw[qJ,qJ,v7,v7,Dx hl hp,Dx hl hp,Dx hl hp,Dx hl hp];unfold sE sG;cases Ic l
    ·left;simp only[cond_false,ndv,apV,and_self]
    ·right;simp only[cond_true,ndv,apV,and_self]
   have m2:∀{a b:Pt},(∃p∈[a,b],pR p=v)↔(pR a=v\/pR b=v):=λ{a b}=>by simp
   simp only[cond_false];cases decide (aZ (uN l c) (vG l c)>0)
   ·simp only[cond_false];rw[m2,m2];rcases e with⟨e1,e2⟩|⟨e1,e2⟩<;>rw[e1,e2];exact Or.comm
   ·simp only[cond_true];rw[m2,m2];rcases e with⟨e1,e2⟩|⟨e1,e2⟩<;>rw[e1,e2];exact Or.comm
theorem HN(hl:l.1≠0\/l.2.1≠0){u v k:Rat}(hk:0<=k)(h1:l.1*u+l.2.1*v=0)(h2:zu l c+(u*u+v*v)*k=c.2.2):eI l (v2 (ftX l c) u k,v2 (ftY l c) v k)/\gi c (v2 (ftX l c) u k,v2 (ftY l c) v k):=by
 have hn:=pP hl;have t:vlL l c.1 c.2.1/cr l*cr l=vlL l c.1 c.2.1:=anx hn
 have e1:l.1*ftX l c+l.2.1*ftY l c=l.2.2:=by
  unfold ftX ftY;generalize vlL l c.1 c.2.1/cr l=s at*
  unfold cr vlL at t;grind
 have e3:(ftX l c-c.1)*u+(ftY l c-c.2.1)*v=0:=by
  unfold ftX ftY;generalize vlL l c.1 c.2.1/cr l=s at*
  have:(c.1-s*l.1-c.1)*u+(c.2.1-s*l.2.1-c.2.1)*v= -s*(l.1*u+l.2.1*v):=by grind
  rw[this,h1,Rat.mul_zero]
 unfold eI gi frm v2;dsimp only;constructor
 ·rw[amI,<-aC,<-aC,<-aC,<-aC,<-of_add,<-of_add,e1,h1,pI,zero_mul,add_zero]
 ·rw[al7,dE hk,<-of_sub,<-of_sub,<-aC,<-aC,<-aC,<-aC,<-aC,<-aC,<-of_add,<-of_add,<-of_add,e3,pI,zero_mul,add_zero,add_zero,<-aC,<-of_add];exact congrArg of h2
theorem ab3(_hl:l.1≠0\/l.2.1≠0):l.1*sE l+l.2.1*sG l=0/\sE l*sE l+sG l*sG l=cr l:=by
 unfold sE sG cr;cases Ic l
 ·simp only[cond_false];constructor<;>grind
 ·simp only[cond_true];constructor<;>grind
theorem IR(hl:l.1≠0\/l.2.1≠0){p:Pt}(hp:p∈mn l c):eI l (pR p)/\gi c (pR p):=by
 have hn:=pP hl;have k:fa l c*cr l=c.2.2-zu l c:=anx hn;obtain⟨d1,d2⟩:=ab3 hl;unfold mn at hp;by_cases h0:fa l c<0
 ·rw[anb h0]at hp;cases hp
 ·rw[ane h0]at hp;by_cases h1:fa l c=0
  ·rw[anb h1]at hp;have:p=atP (ftL l c):=by simpa using hp
   rw[this,m7];have:=HN (c:=c) (u:=0) (v:=0) (k:=0) hl (by decide) (by grind) (by rw[h1]at k;grind);rw[d7,d7]at this;exact this
  ·rw[ane h1]at hp;have hk:0<=fa l c:=by grind
   have:p=lcM l c\/p=lcN l c:=by simpa using hp
   rcases this with e|e
   ·rw[e];unfold lcM;rw[qJ];refine HN hl hk (by grind) ?_;rw[show-sE l* -sE l+ -sG l* -sG l=cr l by rw[<-d2];grind,aoN,k];grind
   ·rw[e];unfold lcN;rw[qJ];refine HN hl hk d1 ?_;rw[d2,aoN,k];grind
end
theorem Qh{c d:Ln}{v:PE}(hl:eI (oH c d) v)(hc:gi c v):gi d v:=by
 unfold eI oH sD at hl;unfold gi frm at*
 dsimp only at*
 have o2:of 2=1+1:=by
  rw[<-Ds,<-of_add];exact congrArg of (by decide+kernel)
 rw[alr v.1 v.2 (of c.1) (of c.2.1) (of d.1) (of d.2.1) (of d.2.2) (of c.2.2),hc];simp only[of_sub,aC,of_add,o2]at hl;rw[hl,alV]
theorem afp{l m:Ln}{p:Pt}(hp:p∈mC l m):eI l (pR p)/\eI m (pR p):=by
 unfold mC at hp;by_cases h0:dK l m=0
 ·rw[anb h0]at hp;cases hp
 ·rw[ane h0]at hp;have:p=atP (mH l m/dK l m,mE l m/dK l m):=by simpa using hp
  rw[this,m7];have ex:mH l m/dK l m*dK l m=mH l m:=anx h0;have ey:mE l m/dK l m*dK l m=mE l m:=anx h0
  have key:∀a b q:Rat,a*mH l m+b*mE l m=q*dK l m->a*(mH l m/dK l m)+b*(mE l m/dK l m)=q:=λa b q e=>by
   generalize mH l m/dK l m=x at*
   generalize mE l m/dK l m=y at*
   rw[<-ex,<-ey]at e;have:(a*x+b*y-q)*dK l m=0:=by grind
   rcases apr.1 this with h|h
   ·grind
   ·exact absurd h h0
  unfold eI;rw[<-aC,<-aC,<-of_add,<-aC,<-aC,<-of_add,key l.1 l.2.1 l.2.2 (by unfold mH mE dK;grind),key m.1 m.2.1 m.2.2 (by unfold mH mE dK;grind)];exact⟨rfl,rfl⟩
end RE
end
def mN(c:BCU)(l:List BCU):List BP:=(l.map (qk c)).flatten
def Da(x:Pce):Prop:=yV x.1/\yV x.2.1/\u8P x.2.2
instance (x:Pce):Decidable (Da x):=by unfold Da;infer_instance
def HR(x:Pce):List BCU:=match ofL x.1 with
 |[]=>[]
 |c::_=>fR c (mN c (ofL x.2.1))
def Gh(x:Pce):Bool:=!(ofL x.1).isEmpty
def pT(x:Pce):BCU:=bif Gh x then(HR x).getD (x.2.2%((HR x).length:Int)).toNat c00 else c00
def ZB:List En:=[enL Yt,enL Yp,enK aaC]
def WW:NT:=[((6,18),{keep:=[1,2,4,5,6,7],own:=[(6,37,tP)],hl:=3})]
def HD:Ctx:=CX (ens ZB) WW
def uW(x:Pce)(s7:Int)(r2:List BP):Cfg:=⟨6,[.blk 0,.seq 31],[(1,.box 0 0),(2,.box 1 0),(4,.d (.sl tCU) (ofL x.1)),(5,.d (.sl tCU) (ofL x.2.1)),(6,.own 2),(7,SI s7)],[.box 26 [.d (.int .u8) x.1.1,.d (.int .u8) x.1.2.1,.d (.int .i8) x.1.2.2.1,.d (.int .i8) x.1.2.2.2.1,.d (.int .i8) x.1.2.2.2.2.1,.d (.int .i8) x.1.2.2.2.2.2.1,.d (.int .i8) x.1.2.2.2.2.2.2.1,.d (.int .i8) x.1.2.2.2.2.2.2.2,.d (.int .u8) x.2.1.1,.d (.int .u8) x.2.1.2.1,.d (.int .i8) x.2.1.2.2.1,.d (.int .i8) x.2.1.2.2.2.1,.d (.int .i8) x.2.1.2.2.2.2.1,.d (.int .i8) x.2.1.2.2.2.2.2.1,.d (.int .i8) x.2.1.2.2.2.2.2.2.1,.d (.int .i8) x.2.1.2.2.2.2.2.2.2,.d (.int .u8) x.2.2],.box 39 [SB false,SB false,.nil,SB false,.nil,SB false,.nil,SB false,.nil,SB false,.nil,SB false,.nil,SB false,.nil,SB false,.nil,SB false,.nil,SB false,.nil,SB false,.nil,SB false,.nil,SB false,SB false,.nil,SB false,.nil,SB false,.nil,SB false,.nil,SB false,.nil,SB false,.nil,SB false,.nil,SB false,.nil,SB false,.nil,SB false,.nil,SB false,.nil,SB false,.nil,SB false,.nil,SB false,.nil,SB false,.nil,SB false,.nil,SB false,.nil,SB false,.nil,SB false,.nil,SB false,.nil],.row 37 tP r2],0,[]⟩
def MY(x:Pce)(k:KT):OLR:=og (decide (yV x.1)) (og (decide (yV x.2.1)) (match((ofL x.1).length:Int)==0 with|true=>some [RV.d tCU (false,((((false,[]),(false,[])),(((false,[]),(false,[])),((false,[]),(false,[])))),((((false,[]),(false,[])),(((false,[]),(false,[])),((false,[]),(false,[])))),(false,((((false,[]),(false,[])),(((false,[]),(false,[])),(((false,[]),(false,[])),(((false,[]),(false,[])),((false,[]),(false,[])))))),(((false,[]),(false,[])),(((false,[]),(false,[])),(((false,[]),(false,[])),(((false,[]),(false,[])),((false,[]),(false,[]))))))))))),RV.d .bool false]|false=>k 18 (uW x 0 ([]))))
theorem aes(x:Pce):RS HD 6 [.d tM x] (MY x):=rsX
def tv(x:Pce)(s7:Int)(r2:List BP)(k:KT):OLR:=match decide (s7<((ofL x.2.1).length:Int))with|true=>(match aS (ofL x.1) 0 with|some x1=>(match aS (ofL x.2.1) s7 with|some x2=>(og (decide (hU x1 x2)) (og (decide ((r2.length+(qk x1 x2).length)*320<=140737488355328/\r2.length+(qk x1 x2).length<=140737488355328)) (k 18 (uW x (i64.wrap (s7+1)) (r2++(qk x1 x2))))))|none=>none)|none=>none)|false=>(match aS (ofL x.1) 0 with|some x1=>(og (decide (Eh x1 r2)) (match decide (((fR x1 r2).length:Int)=(0:Int))with|true=>none|false=>(match aS (fR x1 r2) (Int.tmod (i64.wrap x.2.2) ((fR x1 r2).length:Int))with|some x2=>some [RV.d tCU x2,RV.d .bool true]|none=>none)))|none=>none)
theorem zx(x:Pce)(s7:Int)(r2:List BP):RN HD 18 (uW x s7 r2) (tv x s7 r2):=rnX
theorem DL{c d:BCU}(h:hU c d):(qk c d).length<=4/\∀x∈qk c d,okP 580 x/\onR (dC c) (dec x)=true/\onR (dC d) (dec x)=true:=by
 obtain⟨h1,h2⟩:=JX h;unfold qk ac8;have h3:=yi (dC c) ((D4 c d).filter λp=>onR (dC c) (dec p)&&onR (dC d) (dec p)) [];have h4:=List.length_filter_le (λp=>onR (dC c) (dec p)&&onR (dC d) (dec p)) (D4 c d)
 refine⟨by
  unfold jA;rw[List.length_nil,anO]at h3;exact anq h3 (anq h4 h1),JR λx hx=>?_⟩
 obtain⟨g1,g2⟩:=aqi.1 hx;obtain⟨g3,g4⟩:=anm.1 g2;exact⟨h2 x g1,g3,g4⟩
theorem Tw(c:Cv)(x:BP):∀r:List BP,r.length<=(hZ c r x).length
 |[]=>by simp
 |z::r=>by
  have:=Tw c x r;simp only[hZ];cases decide (co c (dec z) (dec x)<0)
  ·cases aZ (dec z) (dec x)==0<;>simp
  ·simp only[cond_true,ans];omega
theorem SF(c:Cv):∀(l out:List BP),out.length<=(l.foldl (hZ c) out).length
 |[],_=>ani _
 |x::l,out=>anq (Tw c x out) (SF c l _)
theorem IO(c:BCU):∀s:List BP,(uE c s).length=s.length-1
 |[]=>rfl
 |[_]=>rfl
 |x::y::r=>by
  have:=IO c (y::r);simp only[uE,ans]at this ⊢;omega
theorem XH{c:BCU}(h:aZ (dec c.2.2.2.2.1) (dec c.2.2.2.2.2)≠0)(l:List BP):2<=(sw c l).length:=by
 unfold sw jA;refine anq ?_ (SF (dC c) l _);simp only[hZ];rw[apc.2 h];cases decide (co (dC c) (dec c.2.2.2.2.1) (dec c.2.2.2.2.2)<0)<;>exact ani _
theorem xS{c:BCU}(h:gdN c)(l:List BP):1<=(fR c l).length/\(fR c l).length<=l.length+1:=by
 have h1:=XH h.2.2.2 l;have h2:=Kr c l;unfold fR;rw[IO];omega
theorem JG{c:BCU}(h:gdN c){l:List BP}(hl:l.length<=900000)(ho:∀p∈l,okP 580 p/\onR (dC c) (dec p)=true):Eh c l:=
 ⟨cj h.1.1 (by decide) (by decide),hl,λx hx=>⟨cS (ho x hx).1 (by decide) (by decide),(ho x hx).2⟩⟩
def gdM(c:BCU):Prop:=mG c/\gv (dC c) (frC (dC c))=true/\gv (dC c) (toC (dC c))=true
theorem gdM.gd{c:BCU}(h:gdM c):gdC c:=⟨h.1.1,h.2.1,h.2.2⟩
theorem gdN.m{c:BCU}(h:gdN c):gdM c:=⟨h.1,h.2.1,h.2.2.1⟩
theorem adX{c:BCU}(h:gdN c){l:List BP}(ho:∀p∈l,okP 580 p/\onR (dC c) (dec p)=true):∀p∈fR c l,gdM p:=by
 intro p hp;obtain⟨x,y,hx,hy,e⟩:=Ky hp
 have f:∀z,z∈sw c l->okP 580 z/\gv (dC c) (dec z)=true:=λz hz=>by
  rcases Ce hz with e|e|e
  ·rw[e];exact⟨h.1.1.2.2.1,h.2.1⟩
  ·rw[e];exact⟨h.1.1.2.2.2,h.2.2.1⟩
  ·exact⟨(ho z e).1,(anm.1 (ho z e).2).1⟩
 obtain⟨x1,x2⟩:=f x hx;obtain⟨y1,y2⟩:=f y hy;rw[e];exact⟨⟨⟨h.1.1.1,h.1.1.2.1,x1,y1⟩,h.1.2⟩,x2,y2⟩
theorem QL(x:Dr):(ofL x).length<=2:=by
 unfold ofL;cases x.1%3==2
 ·cases x.1%3==1
  ·cases segE (drA x) (drB x) !=0<;>simp
  ·cases arcE (drA x) (drB x) (drC x) !=0<;>simp
 ·cases decide ((drB x).1<=0)
  ·unfold xh;simp
  ·simp
theorem T9{c:BCU}(h:gdN c):∀{l:List BCU},(∀d∈l,gdN d)->(mN c l).length<=4*l.length/\∀p∈mN c l,okP 580 p/\onR (dC c) (dec p)=true
 |[],_=>⟨ani _,λp hp=>by cases hp⟩
 |d::r,hd=>by
  obtain⟨i1,i2⟩:=T9 h (l:=r) (λe he=>hd e (ann _ he));obtain⟨m1,m2⟩:=DL (show hU c d from⟨h.1,(hd d (by simp)).1⟩);have e:mN c (d::r)=qk c d++mN c r:=rfl;rw[e];refine⟨by rw[anK,ans];omega,λp hp=>?_⟩;rcases anR.1 hp with g|g
  ·exact⟨(m2 p g).1,(m2 p g).2.1⟩
  ·exact i2 p g
def XV(x:Pce)(l:List BCU):BCU:=l.getD (x.2.2%(l.length:Int)).toNat c00
theorem WF(x:Pce)(h:Da x)(c:BCU)(hc:gdN c)(g0:aS (ofL x.1) 0=some c)(B:List BCU)(hB:ofL x.2.1=B)(gB:∀d∈B,gdN d)(lB:B.length<=2):∀(j i:Nat),i+j=B.length->∀r2:List BP,r2.length<=4*i->(∀p∈r2,okP 580 p/\onR (dC c) (dec p)=true)->
  HD.Runs 18 (uW x (i:Int) r2) [.d tCU (XV x (fR c (r2++mN c (B.drop i)))),.d .bool true]:=by
 intro j;induction j with
 |zero=>
  intro i hi r2 hr ho;refine zx _ _ _ ⟨0,?_⟩;obtain⟨l1,l2⟩:=xS hc r2;have hs:=JG hc (l:=r2) (by omega) ho;obtain⟨u1,u2⟩:=h.2.2
  have e1:Int.tmod (i64.wrap x.2.2) ((fR c r2).length:Int)=x.2.2%((fR c r2).length:Int):=by
   rw[aV (by omega) (by omega),Int.tmod_eq_emod_of_nonneg u1]
  have m0:=aoj x.2.2 (show((fR c r2).length:Int)≠0 by omega);have m1:=anV x.2.2 (show 0<((fR c r2).length:Int) by omega);obtain⟨k,hk⟩:=aol m0;have hkl:k<(fR c r2).length:=by omega
  have hd:B.drop i=[]:=List.drop_eq_nil_iff.2 (by omega);have hcut:mN c []=[]:=rfl;unfold tv;rw[hB,b8 (by omega),g0];dsimp only;rw[dT hs,dF (show ¬((fR c r2).length:Int)=0 by omega),e1,hk,aq,anc hkl,hd,hcut,anM];unfold XV;rw[hk,aoS,List.getD_eq_getElem?_getD,anc hkl];rfl
 |succ j ih=>
  intro i hi r2 hr ho;have hil:i<B.length:=by omega
  have hm:hU c B[i]:=⟨hc.1,(gB _ (anG hil)).1⟩
  obtain⟨m1,m2⟩:=DL hm
  obtain⟨n,hn⟩:=ih (i+1) (by omega) (r2++qk c B[i]) (by rw[anK];omega) (λp hp=>by
   rcases anR.1 hp with g|g
   ·exact ho p g
   ·exact⟨(m2 p g).1,(m2 p g).2.1⟩)
  have hd:B.drop i=B[i]::B.drop (i+1):=anu hil;have hcut:mN c (B[i]::B.drop (i+1))=qk c B[i]++mN c (B.drop (i+1)):=rfl;refine zx _ _ _ ⟨n,?_⟩;unfold tv;rw[hB,bH hil,g0,aq,anc hil];dsimp only;rw[dT hm,dT (by omega),bW (by omega),hd,hcut,<-anD];exact hn
def aeA:Cn 6 [tM]:=cn λ(x:Pce)=>lf (Da x) [.d tCU (pT x),.d .bool (Gh x)] λh=>by
 have hB:=yn h.2.1;have hA:=yn h.1;refine dk ZB (aes _ ?_);unfold MY pT Gh;rw[dT h.1,dT h.2.1];cases hl:ofL x.1 with
 |nil=>exact⟨0,rfl⟩
 |cons c r=>
  rw[hl]at hA;obtain⟨n,hn⟩:=WF x h c (hA c (by simp)) (by rw[hl];rfl) _ rfl hB (QL _) _ 0 (anO _) [] (ani _) (λp hp=>by cases hp);refine⟨n,?_⟩;have e:(((c::r).length:Int)==0)=false:=by simp;omega
  rw[e];unfold HR;rw[hl];exact hn
theorem XK{x:Pce}(h:Da x)(ho:Gh x=true):pT x∈HR x:=by
 have hA:=yn h.1;unfold pT HR;rw[ho];unfold Gh at ho;cases hl:ofL x.1 with
 |nil=>rw[hl]at ho;cases ho
 |cons c r=>
  rw[hl]at hA;obtain⟨l1,l2⟩:=xS (hA c (by simp)) (mN c (ofL x.2.1));have m0:=aoj x.2.2 (show((fR c (mN c (ofL x.2.1))).length:Int)≠0 by omega);have m1:=anV x.2.2 (show 0<((fR c (mN c (ofL x.2.1))).length:Int) by omega);have hk:(x.2.2%((fR c (mN c (ofL x.2.1))).length:Int)).toNat<(fR c (mN c (ofL x.2.1))).length:=by omega
  simp only[cond_true];rw[List.getD_eq_getElem?_getD,anc hk];exact anG hk
section
section
variable {α:Type} {lt:α->α->Prop} {f:α->α->Int}
theorem PF(h:n7 lt):n7 (λx y=>lt y x):=⟨h.irr,λx y z a b=>h.tr z y x b a,λx y=>by
 rcases h.tri x y with g|g|g
 ·exact .inr (.inr g)
 ·exact .inr (.inl g)
 ·exact .inl g⟩
theorem L6(h:vM lt f):vM (λx y=>lt y x) (λx y=> -f x y):=λx y=>⟨λg=>(by show-f x y= -1;rw[(h x y).2.2 g]),λg=>(by show-f x y=0;rw[(h x y).2.1 g];rfl),λg=>(by show-f x y=1;rw[(h x y).1 g];rfl)⟩
def aLt(lt:α->α->Prop)(u v:Bool×α):Prop:=(u.1=false/\v.1=true)\/(u.1=false/\v.1=false/\lt u.2 v.2)\/(u.1=true/\v.1=true/\lt v.2 u.2)
theorem I4(h:n7 lt):n7 (aLt lt):=by
 refine⟨λ⟨a,u⟩ g=>?_,λ⟨a,u⟩ ⟨b,v⟩ ⟨c,w⟩ g g'=>?_,λ⟨a,u⟩ ⟨b,v⟩=>?_⟩
 ·rcases g with⟨g1,g2⟩|⟨_,_,g⟩|⟨_,_,g⟩
  ·rw[g1]at g2;cases g2
  ·exact h.irr _ g
  ·exact h.irr _ g
 ·unfold aLt at*
  cases a<;>cases b<;>cases c<;>simp only[true_and,false_and,and_false,aqt,apZ,false_or,reduceCtorEq,and_self]at g g' ⊢
  ·exact h.tr _ _ _ g g'
  ·exact h.tr _ _ _ g' g
 ·unfold aLt;cases a<;>cases b<;>simp only[true_and,false_and,and_false,aqt,apZ,false_or,reduceCtorEq,and_self,or_true,true_or]
  ·rcases h.tri u v with g|g|g
   ·exact .inl g
   ·exact .inr (.inl (by rw[g]))
   ·exact .inr (.inr g)
  ·rcases h.tri u v with g|g|g
   ·exact .inr (.inr g)
   ·exact .inr (.inl (by rw[g]))
   ·exact .inl g
theorem Np(h:vM lt f):vM (aLt lt) (kG f):=λ⟨a,u⟩ ⟨b,v⟩=>by
 refine⟨λg=>?_,λg=>?_,λg=>?_⟩
 ·unfold aLt at g;unfold kG;cases a<;>cases b<;>simp only[true_and,false_and,and_false,aqt,apZ,false_or,reduceCtorEq,and_self]at g
  ·exact(h u v).1 g
  ·rfl
  ·show-f u v= -1;rw[(h u v).2.2 g]
 ·injection g with g1 g2;subst g1 g2;unfold kG;have:=(h u u).2.1 rfl;cases a
  ·exact this
  ·show-f u u=0;rw[this];rfl
 ·unfold aLt at g;unfold kG;cases a<;>cases b<;>simp only[true_and,false_and,and_false,aqt,apZ,false_or,reduceCtorEq,and_self]at g
  ·exact(h u v).2.2 g
  ·rfl
  ·show-f u v=1;rw[(h u v).1 g];rfl
def cLt(lt:α->α->Prop)(o u v:α):Prop:=(¬lt u o/\lt v o)\/((lt u o↔lt v o)/\lt u v)
theorem zy(h:n7 lt)(o:α):n7 (cLt lt o):=by
 refine⟨λu g=>?_,λu v w g g'=>?_,λu v=>?_⟩
 ·rcases g with⟨g1,g2⟩|⟨_,g⟩
  ·exact g1 g2
  ·exact h.irr _ g
 ·rcases g with⟨g1,g2⟩|⟨g1,g2⟩<;>rcases g' with⟨g3,g4⟩|⟨g3,g4⟩
  ·exact absurd g2 g3
  ·exact .inl ⟨g1,g3.1 g2⟩
  ·exact .inl ⟨λe=>g3 (g1.1 e),g4⟩
  ·exact .inr ⟨g1.trans g3,h.tr _ _ _ g2 g4⟩
 ·by_cases e1:lt u o<;>by_cases e2:lt v o
  ·rcases h.tri u v with g|g|g
   ·exact .inl (.inr ⟨⟨λ_=>e2,λ_=>e1⟩,g⟩)
   ·exact .inr (.inl g)
   ·exact .inr (.inr (.inr ⟨⟨λ_=>e1,λ_=>e2⟩,g⟩))
  ·exact .inr (.inr (.inl ⟨e2,e1⟩))
  ·exact .inl (.inl ⟨e1,e2⟩)
  ·rcases h.tri u v with g|g|g
   ·exact .inl (.inr ⟨⟨λe=>absurd e e1,λe=>absurd e e2⟩,g⟩)
   ·exact .inr (.inl g)
   ·exact .inr (.inr (.inr ⟨⟨λe=>absurd e e2,λe=>absurd e e1⟩,g⟩))
theorem yy(hl:n7 lt)(h:vM lt f)(x y:α):decide (f x y<0)=true↔lt x y:=by
 rw[an6];rcases hl.tri x y with g|g|g
 ·rw[(h x y).1 g];exact⟨λ_=>g,λ_=>by decide⟩
 ·rw[(h x y).2.1 g];exact⟨λe=>absurd e (by decide),λe=>absurd e (by rw[g];exact hl.irr _)⟩
 ·rw[(h x y).2.2 g];exact⟨λe=>absurd e (by decide),λe=>absurd (hl.tr _ _ _ e g) (hl.irr _)⟩
theorem yj(hl:n7 lt)(h:vM lt f)(o:Bool×α):vM (cLt (aLt lt) o) (kU f o):=λu v=>by
 have ha:=Np h;have n:=yy (I4 hl) ha
 have tf:∀x,¬aLt lt x o->decide (kG f x o<0)=false:=λx g=>by
  cases e:decide (kG f x o<0)
  ·rfl
  ·exact absurd ((n x o).1 e) g
 unfold kU;refine⟨λg=>?_,λg=>?_,λg=>?_⟩
 ·rcases g with⟨g1,g2⟩|⟨g1,g2⟩
  ·rw[tf u g1,(n v o).2 g2];rfl
  ·have e:(decide (kG f u o<0)==decide (kG f v o<0))=true:=by
    by_cases e:aLt lt u o
    ·rw[(n u o).2 e,(n v o).2 (g1.1 e)];rfl
    ·rw[tf u e,tf v (λe'=>e (g1.2 e'))];rfl
   rw[e];exact(ha u v).1 g2
 ·subst g;rw[beq_self_eq_true];exact(ha u u).2.1 rfl
 ·rcases g with⟨g1,g2⟩|⟨g1,g2⟩
  ·rw[tf v g1,(n u o).2 g2];rfl
  ·have e:(decide (kG f u o<0)==decide (kG f v o<0))=true:=by
    by_cases e:aLt lt u o
    ·rw[(n u o).2 e,(n v o).2 (g1.2 e)];rfl
    ·rw[tf u e,tf v (λe'=>e (g1.1 e'))];rfl
   rw[e];exact(ha u v).2.2 g2
end
def Sp(c:Cv)(p:Pt):Prop:=Rpd p/\gv c p=true
structure Crp (c:Cv):Prop where
 f:Sp c (frC c)
 t:Sp c (toC c)
 q:c.1=true->0<(ciC c).2.2
 l:c.1=false->(lnC c).1≠0\/(lnC c).2.1≠0
theorem nL{c:BCU}(h:gdC c):Crp (dC c):=by
 obtain⟨h1,h2,h3⟩:=h;exact⟨⟨nM h1.2.2.1,h2⟩,⟨nM h1.2.2.2,h3⟩,λe=>(h1.1 e).2,λe=>(h1.2.1 e).2⟩
open RE in
theorem Crp.e{c:Cv}(h:Crp c)(hne:aZ (frC c) (toC c)≠0):GdE c:=by
 have hf:=h.f.1;have ht:=h.t.1;have s:=λp (hp:Sp c p)=>hp.2;refine⟨hf,ht,λe=>hne (cmpP_0.2 e),λe=>?_,λe=>?_⟩
 ·have h2:=h.f.2;have h3:=h.t.2;unfold gv at h2 h3;rw[e]at h2 h3;exact⟨h.q e,ins_on (aop.1 h2),ins_on (aop.1 h3)⟩
 ·have h2:=h.f.2;have h3:=h.t.2;unfold gv at h2 h3;rw[e]at h2 h3;exact⟨h.l e,GA (aop.1 h2),GA (aop.1 h3)⟩
namespace RE
theorem If(v w:RE):((v-(w))*(v-(w)))+((w*w-(v*v)))+2*((w-(0))*(v-(w)))=0:=by grind
theorem Py(v w:RE)(h1:v*v=w*w)(_h2:0<=v)(h3:0<=w):v<=w:=λhg=>far (aK (aK (mul_pos (aL hg) (aL hg)) (aG (ge h1))) (jq (by decide+kernel:(0:Rat)<2) (aD (aG h3) (le_of_lt (aL hg))))) (If v w)
theorem Hw(v w:RE):((w-(v))*(w-(v)))+((v*v-(w*w)))+2*((v-(0))*(w-(v)))=0:=by grind
theorem M0(v w:RE)(h1:v*v=w*w)(h2:0<=v)(_h3:0<=w):w<=v:=λhg=>far (aK (aK (mul_pos (aL hg) (aL hg)) (aG (mZ h1))) (jq (by decide+kernel:(0:Rat)<2) (aD (aG h2) (le_of_lt (aL hg))))) (Hw v w)
theorem Xm(v w:RE)(h1:v*v=w*w)(h2:0<=v)(h3:0<=w):v=w:=le_antisymm (Py v w h1 h2 h3) (M0 v w h1 h2 h3)
theorem Fl(v w:RE):((v-(w))*(v-(w)))+((v*v-(w*w)))+2*((0-(v))*(v-(w)))=0:=by grind
theorem Lt(v w:RE)(h1:v*v=w*w)(h2:v<=0)(_h3:w<=0):v<=w:=λhg=>far (aK (aK (mul_pos (aL hg) (aL hg)) (aG (mZ h1))) (jq (by decide+kernel:(0:Rat)<2) (aD (aG h2) (le_of_lt (aL hg))))) (Fl v w)
theorem Ek(v w:RE):((w-(v))*(w-(v)))+((w*w-(v*v)))+2*((0-(w))*(w-(v)))=0:=by grind
theorem LV(v w:RE)(h1:v*v=w*w)(_h2:v<=0)(h3:w<=0):w<=v:=λhg=>far (aK (aK (mul_pos (aL hg) (aL hg)) (aG (ge h1))) (jq (by decide+kernel:(0:Rat)<2) (aD (aG h3) (le_of_lt (aL hg))))) (Ek v w)
theorem Rr(v w:RE)(h1:v*v=w*w)(h2:v<=0)(h3:w<=0):v=w:=le_antisymm (Lt v w h1 h2 h3) (LV v w h1 h2 h3)
theorem acf(u v w Q:RE)(h1:u*u+v*v=Q)(h2:u*u+w*w=Q):v*v<=w*w:=by grind
theorem ae5(u v w Q:RE)(h1:u*u+v*v=Q)(h2:u*u+w*w=Q):w*w<=v*v:=by grind
theorem aiV(u v w Q:RE)(h1:u*u+v*v=Q)(h2:u*u+w*w=Q):v*v=w*w:=le_antisymm (acf u v w Q h1 h2) (ae5 u v w Q h1 h2)
theorem SJ(a b:RE)(h1: -a= -b):a<=b:=by grind
theorem QB(a b:RE)(h1: -a= -b):b<=a:=by grind
theorem Wp(a b:RE)(h1: -a= -b):a=b:=le_antisymm (SJ a b h1) (QB a b h1)
theorem Fr{u v:RE}:(upA (cls u v)=true->0<=v)/\(upA (cls u v)=false->v<=0)/\(ufA (cls u v)=true->0<=v)/\(ufA (cls u v)=false->v<=0):=by
 unfold cls upA ufA;rcases bj v with⟨h,e⟩|⟨h,e⟩|⟨h,e⟩<;>rw[e]
 ·exact⟨λ_=>le_of_lt h,λg=>(by cases g),λ_=>le_of_lt h,λg=>(by cases g)⟩
 ·rw[h];exact⟨λ_=>le_refl _,λ_=>le_refl _,λ_=>le_refl _,λ_=>le_refl _⟩
 ·exact⟨λg=>(by cases g),λ_=>le_of_lt h,λg=>(by cases g),λ_=>le_of_lt h⟩
theorem Kb{c:Ln}{p q:Pt}(hp:onCi c p)(hq:onCi c q)(hx:pX p=pX q)(g:(0<=pY p-of c.2.1/\0<=pY q-of c.2.1)\/(pY p-of c.2.1<=0/\pY q-of c.2.1<=0)):pR p=pR q:=by
 unfold onCi at hp hq;rw[hx]at hp;have e:=aiV _ _ _ _ hp hq;refine anN hx ?_;rcases g with⟨a,b⟩|⟨a,b⟩
 ·exact gf _ _ _ (Xm _ _ e a b)
 ·exact gf _ _ _ (Rr _ _ e a b)
end RE
open RE in
theorem kH{c:Cv}(ha:c.1=true){p:Pt}(hp:Sp c p):onCi (ciC c) p:=by
 have:=hp.1;have g:=hp.2;unfold gv at g;rw[ha]at g;exact ins_on (aop.1 g)
open RE in
theorem Dw{c:Cv}(h:Crp c)(ha:c.1=true):∃κ:Pt->Bool×RE,(∀d:Cv,d.1=true->ciC d=ciC c->cwC d=cwC c->Sp c (frC d)->∀p q,Sp c p->Sp c q->co d p q=kU (λx y:RE=>sg (x-y)) (κ (frC d)) (κ p) (κ q))/\∀p q,Sp c p->Sp c q->(κ p=κ q↔aZ p q=0):=by
 cases hw:cwC c
 ·refine⟨λp=>(upR (ciC c) p,pX p),λd d1 d2 d3 hd p q hp hq=>?_,λp q hp hq=>?_⟩
  ·have i1:=hd.1;have:=hp.1;have:=hq.1;have e:∀{x y:Pt},Rpd x->Rpd y->bi (xP x) (xP y)=sg (pX x-pX y):=λ{x y} _ _=>by rw[cmpT_re mW mW,uX,uX]
   unfold co;rw[d1,d3,cond_true,cond_false,d2];exact gM (e hp.1 i1) (e hq.1 i1) (e hp.1 hq.1)
  ·have r1:=hp.1;have r2:=hq.1;rw[cmpP_0];constructor
   ·intro e;injection e with e1 e2;rw[jc,jc]at e1;refine Kb (kH ha hp) (kH ha hq) e2 ?_;cases g:upA (cls (pX p-of (ciC c).1) (pY p-of (ciC c).2.1))
    ·exact .inr ⟨Fr.2.1 g,Fr.2.1 (e1.symm.trans g)⟩
    ·exact .inl ⟨Fr.1 g,Fr.1 (e1.symm.trans g)⟩
   ·intro e;have e1:pX p=pX q:=congrArg Prod.fst e;have e2:pY p=pY q:=congrArg Prod.snd e;show(upR (ciC c) p,pX p)=(upR (ciC c) q,pX q)
    rw[jc,jc,e1,e2]
 ·refine⟨λp=>(upR (flC (ciC c)) (flP p),-pX p),λd d1 d2 d3 hd p q hp hq=>?_,λp q hp hq=>?_⟩
  ·have i1:=hd.1;have:=hp.1;have:=hq.1;have e:∀{x y:Pt},Rpd x->Rpd y->bi (xP (flP x)) (xP (flP y))=sg (-pX x- -pX y):=λ{x y} _ _=>by rw[cmpT_re mW mW,uX,uX,EM,EM]
   unfold co;rw[d1,d3,cond_true,cond_true,d2];exact gM (e hp.1 i1) (e hq.1 i1) (e hp.1 hq.1)
  ·have r1:=hp.1;have r2:=hq.1;rw[cmpP_0];have u1:=wY (h.q ha) (kH ha hp);have u2:=wY (h.q ha) (kH ha hq);constructor
   ·intro e;injection e with e1 e2;rw[u1,u2]at e1;refine Kb (kH ha hp) (kH ha hq) (Wp _ _ e2) ?_;cases g:ufA (cls (pX p-of (ciC c).1) (pY p-of (ciC c).2.1))
    ·exact .inr ⟨Fr.2.2.2 g,Fr.2.2.2 (e1.symm.trans g)⟩
    ·exact .inl ⟨Fr.2.2.1 g,Fr.2.2.1 (e1.symm.trans g)⟩
   ·intro e;have e1:pX p=pX q:=congrArg Prod.fst e;have e2:pY p=pY q:=congrArg Prod.snd e;show(upR (flC (ciC c)) (flP p),-pX p)=(upR (flC (ciC c)) (flP q),-pX q)
    rw[u1,u2,e1,e2]
open RE in
theorem xA{c:Cv}(h:Crp c):∃(K:Type) (lt:K->K->Prop) (κ:Pt->K) (f:K->K->Int),n7 lt/\vM lt f/\(∀p q,Sp c p->Sp c q->co c p q=f (κ p) (κ q))/\∀p q,Sp c p->Sp c q->(κ p=κ q↔aZ p q=0):=by
 have hF:=h.f;cases ha:c.1
 ·cases hd:decide (aZ (frC c) (toC c)>0)
  ·refine⟨PE,acV,pR,lxc,kN,jz,λp q hp hq=>?_,λp q hp hq=>?_⟩
   ·have:=hp.1;have:=hq.1;unfold co;rw[ha,hd,cond_false,cond_false,j8]
   ·have:=hp.1;have:=hq.1;exact cmpP_0.symm
  ·refine⟨PE,_,pR,_,PF kN,L6 jz,λp q hp hq=>?_,λp q hp hq=>?_⟩
   ·have:=hp.1;have:=hq.1;unfold co;rw[ha,hd,cond_false,cond_true,j8]
   ·have:=hp.1;have:=hq.1;exact cmpP_0.symm
 ·obtain⟨κ,h1,h2⟩:=Dw h ha;exact⟨Bool×RE,_,κ,_,zy (I4 lt_lin) (κ (frC c)),yj lt_lin sg_cmpO _,h1 c ha rfl rfl hF,h2⟩
structure Ord (c:Cv):Prop where
 tr:∀{p q r},Sp c p->Sp c q->Sp c r->co c p q<0->co c q r<0->co c p r<0
 tri:∀{p q},Sp c p->Sp c q->co c p q<0\/aZ p q=0\/co c q p<0
 irr:∀{p q},Sp c p->Sp c q->aZ p q=0->co c p q=0
 asy:∀{p q},Sp c p->Sp c q->co c p q<0->0<co c q p
theorem t8{c:Cv}(h:Crp c):Ord c:=by
 obtain⟨K,lt,κ,f,hl,hc,ho,hk⟩:=xA h
 have n:∀{p q},Sp c p->Sp c q->(co c p q<0↔lt (κ p) (κ q)):=λ{p q} hp hq=>by
  rw[ho p q hp hq,<-an6 (p:=f (κ p) (κ q)<0)];exact yy hl hc _ _
 refine⟨λ{p q r} hp hq hr g g'=>?_,λ{p q} hp hq=>?_,λ{p q} hp hq g=>?_,λ{p q} hp hq g=>?_⟩
 ·rw[n hp hr];exact hl.tr _ _ _ ((n hp hq).1 g) ((n hq hr).1 g')
 ·rw[n hp hq,n hq hp,<-hk p q hp hq];exact hl.tri _ _
 ·rw[ho p q hp hq,(hc _ _).2.1 ((hk p q hp hq).2 g)]
 ·rw[ho q p hq hp,(hc _ _).2.2 ((n hp hq).1 g)];decide
def Spb(c:Cv)(x:BP):Prop:=Sp c (dec x)
theorem NV{c:Cv}(o:Ord c){x:BP}(hx:Spb c x):∀{l:List BP},(∀y∈l,Spb c y)->l.Pairwise (λa b=>co c (dec a) (dec b)<0)->(hZ c l x).Pairwise (λa b=>co c (dec a) (dec b)<0)
 |[],_,_=>by simp[hZ]
 |y::r,hl,hp=>by
  have hy:=hl y (by simp);have hr:∀z∈r,Spb c z:=λz hz=>hl z (ann _ hz);obtain⟨p1,p2⟩:=anF.1 hp;simp only[hZ];by_cases h1:co c (dec y) (dec x)<0
  ·rw[anb h1,cond_true];refine anF.2 ⟨λz hz=>?_,NV o hx hr p2⟩;rcases qI hz with g|g
   ·exact p1 z g
   ·rw[g];exact h1
  ·rw[ane h1,cond_false];by_cases h2:aZ (dec y) (dec x)=0
   ·rw[aop.2 h2,cond_true];exact hp
   ·rw[apc.2 h2,cond_false]
    have h3:co c (dec x) (dec y)<0:=by
     rcases o.tri hy hx with g|g|g
     ·exact absurd g h1
     ·exact absurd g h2
     ·exact g
    refine anF.2 ⟨λz hz=>?_,hp⟩;rcases anr.1 hz with g|g
    ·rw[g];exact h3
    ·exact o.tr hx hy (hr z g) h3 (p1 z g)
theorem KW{c:Cv}(o:Ord c):∀{l out:List BP},(∀y∈l,Spb c y)->(∀y∈out,Spb c y)->out.Pairwise (λa b=>co c (dec a) (dec b)<0)->(l.foldl (hZ c) out).Pairwise (λa b=>co c (dec a) (dec b)<0)
 |[],_,_,_,h=>h
 |x::l,out,hl,ho,h=>KW o (l:=l) (λy hy=>hl y (ann _ hy)) (λy hy=>by
   rcases qI hy with g|g
   ·exact ho y g
   ·rw[g];exact hl x (by simp)) (NV o (hl x (by simp)) ho h)
theorem ac1{c:Cv}(o:Ord c){l:List BP}(hl:∀y∈l,Spb c y):(jA c l).Pairwise (λa b=>co c (dec a) (dec b)<0):=KW o hl (λy hy=>by cases hy) List.Pairwise.nil
theorem ID{c:BCU}{R:BP->BP->Prop}{p:BCU}:∀{s:List BP},s.Pairwise R->p∈uE c s->∃x y,x∈s/\y∈s/\R x y/\p=eG c x y
 |[],_,h=>by cases h
 |[_],_,h=>by cases h
 |x::y::r,hp,h=>by
  obtain⟨p1,p2⟩:=anF.1 hp;simp only[uE]at h;rcases anr.1 h with h|h
  ·exact⟨x,y,by simp,by simp,p1 y (by simp),h⟩
  ·obtain⟨a,b,h1,h2,h3,h4⟩:=ID p2 h;exact⟨a,b,ann _ h1,ann _ h2,h3,h4⟩
theorem Gu{c:BCU}(h:gdN c){l:List BP}(ho:∀p∈l,okP 580 p/\onR (dC c) (dec p)=true):∀x∈sw c l,okP 580 x/\Spb (dC c) x:=by
 intro z hz;rcases Ce hz with e|e|e
 ·rw[e];exact⟨h.1.1.2.2.1,nM h.1.1.2.2.1,h.2.1⟩
 ·rw[e];exact⟨h.1.1.2.2.2,nM h.1.1.2.2.2,h.2.2.1⟩
 ·exact⟨(ho z e).1,nM (ho z e).1,(anm.1 (ho z e).2).1⟩
theorem TN{c:BCU}(h:gdN c){l:List BP}(ho:∀p∈l,okP 580 p/\onR (dC c) (dec p)=true):(sw c l).Pairwise (λa b=>co (dC c) (dec a) (dec b)<0):=by
 refine ac1 (t8 (nL h.gd)) λy hy=>?_;rcases anR.1 hy with hy|hy
 ·simp only[anr,aox,apZ]at hy;rcases hy with e|e
  ·rw[e];exact⟨nM h.1.1.2.2.1,h.2.1⟩
  ·rw[e];exact⟨nM h.1.1.2.2.2,h.2.2.1⟩
 ·exact⟨nM (ho y hy).1,(anm.1 (ho y hy).2).1⟩
theorem Co{c:BCU}(h:gdN c){l:List BP}(ho:∀p∈l,okP 580 p/\onR (dC c) (dec p)=true):∀p∈fR c l,gdN p:=by
 intro p hp;have hm:=adX h ho p hp;obtain⟨x,y,hx,hy,hr,e⟩:=ID (TN h ho) hp;have o:=t8 (nL h.gd);refine⟨hm.1,hm.2.1,hm.2.2,λg=>?_⟩;rw[e]at g;have:=o.irr (Gu h ho x hx).2 (Gu h ho y hy).2 g;omega
theorem VQ{x:Pce}(h:Da x):∀p∈HR x,gdN p:=by
 intro p hp;have hA:=yn h.1;unfold HR at hp;cases hl:ofL x.1 with
 |nil=>rw[hl]at hp;cases hp
 |cons c r=>
  rw[hl]at hp hA;exact Co (hA c (by simp)) (T9 (hA c (by simp)) (yn h.2.1)).2 p hp
theorem VN{x:Pce}(h:Da x)(ho:Gh x=true):gdN (pT x):=VQ h _ (XK h ho)
theorem gdN.e{c:BCU}(h:gdN c):RE.GdE (dC c):=(nL h.gd).e h.2.2.2
end
theorem ve{α:Type}{lt:α->α->Prop}(h:n7 lt){L:List α}{a b:α}(ha:a∈L)(hb:b∈L):lt a b↔rk lt L a<rk lt L b:=by
 refine⟨λg=>Ai h g ha,λg=>?_⟩;rcases h.tri a b with e|e|e
 ·exact e
 ·rw[e]at g;omega
 ·have:=Ai h e hb;omega
theorem XE{α:Type}{lt:α->α->Prop}(h:n7 lt){o x y p:α}(hxy:cLt lt o x y):¬cLt lt x y p↔¬cLt lt o p x/\¬cLt lt o y p:=by
 have m1:o∈[o,x,y,p]:=by simp
 have m2:x∈[o,x,y,p]:=by simp
 have m3:y∈[o,x,y,p]:=by simp
 have m4:p∈[o,x,y,p]:=by simp
 unfold cLt at*
 rw[ve h m2 m1,ve h m3 m1,ve h m2 m3]at hxy;rw[ve h m3 m2,ve h m4 m2,ve h m3 m4,ve h m4 m1,ve h m2 m1,ve h m3 m1];omega
theorem DV{α:Type}{lt:α->α->Prop}{f:α->α->Int}(hl:n7 lt)(h:vM lt f)(x y:α):f x y<=0↔¬lt y x:=by
 rcases hl.tri x y with g|g|g
 ·rw[(h x y).1 g];exact⟨λ_ e=>hl.irr _ (hl.tr _ _ _ e g),λ_=>by decide⟩
 ·rw[(h x y).2.1 g];exact⟨λ_ e=>by rw[g]at e;exact hl.irr _ e,λ_=>by decide⟩
 ·rw[(h x y).2.2 g];exact⟨λe=>absurd e (by decide),λe=>absurd g e⟩
theorem kf{α:Type}{lt:α->α->Prop}{f:α->α->Int}(hl:n7 lt)(h:vM lt f)(x y:α):f x y<0↔lt x y:=by
 rw[<-an6 (p:=f x y<0)];exact yy hl h x y
def pcC(c:Cv)(x y:Pt):Cv:=(c.1,c.2.1,c.2.2.1,c.2.2.2.1,x,y)
structure alC (c:Cv):Prop extends Ord c where
 le:∀{p q},Sp c p->Sp c q->(co c p q<=0↔¬co c q p<0)
 lt:∀{p q r},Sp c p->Sp c q->Sp c r->¬co c q p<0->¬co c r q<0->¬co c r p<0
theorem DB{c:Cv}(h:Crp c):alC c:=by
 obtain⟨K,lt,κ,f,hl,hc,ho,hk⟩:=xA h;refine⟨t8 h,λ{p q} hp hq=>?_,λ{p q r} hp hq hr=>?_⟩
 ·rw[ho p q hp hq,ho q p hq hp,DV hl hc,kf hl hc]
 ·rw[ho q p hq hp,ho r q hr hq,ho r p hr hp,kf hl hc,kf hl hc,kf hl hc];intro g g' e;rcases hl.tri (κ q) (κ p)with a|a|a
  ·exact g a
  ·exact g' (by rw[a];exact e)
  ·exact g' (hl.tr _ _ _ e a)
theorem pB{c:Cv}(h:Crp c){p:Pt}(hp:Rpd p):onR c p=true↔gv c p=true/\¬co c p (frC c)<0/\¬co c (toC c) p<0:=by
 have o:=DB h;unfold onR;rw[anm,anm,an6,an6];refine and_congr_right λhs=>?_;rw[o.le h.f ⟨hp,hs⟩,o.le ⟨hp,hs⟩ h.t]
theorem H7{c:Cv}(h:Crp c){x y p:Pt}(hx:Sp c x)(hy:Sp c y)(hxy:co c x y<0)(hp:Rpd p):onR (pcC c x y) p=true↔gv c p=true/\¬co c p x<0/\¬co c y p<0:=by
 have o:=DB h;have es:gv (pcC c x y) p=gv c p:=rfl;unfold onR;rw[anm,anm,an6,an6,es];refine and_congr_right λhs=>?_;have sp:Sp c p:=⟨hp,hs⟩
 show co (pcC c x y) x p<=0/\co (pcC c x y) p y<=0↔_;cases ha:c.1
 ·have e:∀a b,co (pcC c x y) a b=co c a b:=λa b=>by
   have e1:decide (aZ x y>0)=decide (aZ (frC c) (toC c)>0):=by
    unfold co at hxy;rw[ha,cond_false]at hxy;cases hd:decide (aZ (frC c) (toC c)>0)<;>rw[hd]at hxy
    ·exact ane (by rw[cond_false]at hxy;omega)
    ·exact anb (by rw[cond_true]at hxy;omega)
   unfold co;show(bif c.1 then _ else bif decide (aZ x y>0)then _ else _)=_;rw[ha,cond_false,cond_false,e1]
  rw[e,e,o.le hx sp,o.le sp hy]
 ·obtain⟨κ,h1,h2⟩:=Dw h ha;have hl:=I4 RE.lt_lin;have hc:=λu=>yj RE.lt_lin RE.sg_cmpO u;have ex:=h1 (pcC c x y) ha rfl rfl hx;have ec:=h1 c ha rfl rfl h.f;rw[ec x y hx hy,kf (zy hl _) (hc _)]at hxy;rw[ex x p hx sp,ex p y sp hy,ec p x sp hx,ec y p hy sp,DV (zy hl _) (hc _),DV (zy hl _) (hc _),kf (zy hl _) (hc _),kf (zy hl _) (hc _)];refine Iff.trans (and_iff_right ?_) (XE hl hxy);rintro (⟨_,g⟩|⟨g1,g2⟩)
  ·exact hl.irr _ g
  ·exact hl.irr _ (g1.1 g2)
theorem wo{c:Cv}{x y:BP}:∀{r:List BP},y∈r->y∈hZ c r x
 |[],h=>by cases h
 |z::r,h=>by
  simp only[hZ];cases decide (co c (dec z) (dec x)<0)
  ·cases aZ (dec z) (dec x)==0
   ·exact ann _ h
   ·exact h
  ·rcases anr.1 h with e|e
   ·rw[e];exact .head _
   ·exact ann _ (wo e)
theorem z8{c:Cv}{y:BP}:∀{l r:List BP},y∈r->y∈l.foldl (hZ c) r
 |[],_,h=>h
 |_::l,_,h=>z8 (l:=l) (wo h)
theorem Se{c:BCU}(h:gdN c)(l:List BP):c.2.2.2.2.1∈sw c l/\c.2.2.2.2.2∈sw c l:=by
 have e:sw c l=l.foldl (hZ (dC c)) (hZ (dC c) [c.2.2.2.2.1] c.2.2.2.2.2):=rfl;rw[e];refine⟨z8 (wo (by simp)),z8 ?_⟩;simp only[hZ];have:aZ (dec c.2.2.2.2.1) (dec c.2.2.2.2.2)≠0:=h.2.2.2;rw[apc.2 this,cond_false];cases decide (co (dC c) (dec c.2.2.2.2.1) (dec c.2.2.2.2.2)<0)<;>simp
theorem Zs{c:BCU}(h:gdN c):co (dC c) (frC (dC c)) (toC (dC c))<0:=by
 have k:=nL h.gd;have hne:aZ (frC (dC c)) (toC (dC c))≠0:=h.2.2.2;cases ha:(dC c).1
 ·unfold co;rw[ha,cond_false];cases hd:decide (aZ (frC (dC c)) (toC (dC c))>0)
  ·have:=an4 hd;rw[cond_false];omega
  ·have:=anf hd;rw[cond_true];omega
 ·rcases(t8 k).tri k.f k.t with g|g|g
  ·exact g
  ·exact absurd g hne
  ·obtain⟨κ,h1,h2⟩:=Dw k ha;have hl:=I4 RE.lt_lin;rw[h1 (dC c) ha rfl rfl k.f _ _ k.t k.f,kf (zy hl _) (yj RE.lt_lin RE.sg_cmpO _)]at g;rcases g with⟨_,g⟩|⟨g1,g2⟩
   ·exact absurd g (hl.irr _)
   ·exact absurd (g1.1 g2) (hl.irr _)
theorem G5{c:BCU}(h:gdN c):onR (dC c) (frC (dC c))=true/\onR (dC c) (toC (dC c))=true:=by
 have k:=nL h.gd;have o:=t8 k
 have irr:∀{q},Sp (dC c) q->co (dC c) q q=0:=λ{q} hq=>by
  have:=hq.1;exact o.irr hq hq (RE.cmpP_0.2 rfl)
 have tf:=o.asy k.f k.t (Zs h);rw[pB k k.f.1,pB k k.t.1,irr k.f,irr k.t];exact⟨⟨k.f.2,by omega,by omega⟩,k.t.2,by omega,by omega⟩
def Dc(c:Cv)(p q:Pt):Int:=bif c.1 then(bif cwC c then-(iE bi (ptd (ciC c) (toC c)) (ptd (ciC c) p) (ptd (ciC c) q))else iE bi (ptd (ciC c) (frC c)) (ptd (ciC c) p) (ptd (ciC c) q))else aZ p q*aZ (toC c) (frC c)
namespace RE
theorem Ux:∀kF kP kQ:Fin 4,∀iF iP iQ:Fin 3,Gz kF.1 iF.1 kP.1 iP.1 kQ.1 iQ.1=true->
  iE cI (upA kF.1,iF.1) (upA kP.1,iP.1) (upA kQ.1,iQ.1)=kU cI (upA kF.1,iF.1) (upA kP.1,iP.1) (upA kQ.1,iQ.1):=by decide+kernel
theorem acX:∀kF kT:Fin 4,∀iF iT:Fin 4,(nZ kF.1 iF.1 kT.1 iT.1&&nZ kT.1 iT.1 kF.1 iF.1)=true->∀kP iP:Fin 4,(nZ kF.1 iF.1 kP.1 iP.1&&nZ kP.1 iP.1 kF.1 iF.1&&nZ kT.1 iT.1 kP.1 iP.1&&nZ kP.1 iP.1 kT.1 iT.1&&decide (iE cI (upA kT.1,iT.1) (upA kP.1,iP.1) (upA kF.1,iF.1)<=0))=true->
  ∀kQ iQ:Fin 4,(nZ kF.1 iF.1 kQ.1 iQ.1&&nZ kQ.1 iQ.1 kF.1 iF.1&&nZ kT.1 iT.1 kQ.1 iQ.1&&nZ kQ.1 iQ.1 kT.1 iT.1&&nZ kP.1 iP.1 kQ.1 iQ.1&&nZ kQ.1 iQ.1 kP.1 iP.1&&decide (iE cI (upA kT.1,iT.1) (upA kQ.1,iQ.1) (upA kF.1,iF.1)<=0))=true->
  -(iE cI (upA kT.1,iT.1) (upA kP.1,iP.1) (upA kQ.1,iQ.1))=kU dI (ufA kF.1,iF.1) (ufA kP.1,iP.1) (ufA kQ.1,iQ.1):=by decide+kernel
theorem acC{ci:Ln}{F P Q:Pt}[Rpd F][Rpd P][Rpd Q](hQ:0<ci.2.2)(hF:onCi ci F)(hP:onCi ci P)(hq:onCi ci Q):
  iE bi (ptd ci F) (ptd ci P) (ptd ci Q)=kU bi (ptd ci F) (ptd ci P) (ptd ci Q):=by
 have mF:pX F∈[pX F,pX P,pX Q]:=by simp
 have mP:pX P∈[pX F,pX P,pX Q]:=by simp
 have mQ:pX Q∈[pX F,pX P,pX Q]:=by simp
 have h0:0<of ci.2.2:=fS hQ
 have hcon:Gz (cls (pX F-of ci.1) (pY F-of ci.2.1)) (rk (λa b:RE=>a<b) [pX F,pX P,pX Q] (pX F)) (cls (pX P-of ci.1) (pY P-of ci.2.1)) (rk (λa b:RE=>a<b) [pX F,pX P,pX Q] (pX P)) (cls (pX Q-of ci.1) (pY Q-of ci.2.1)) (rk (λa b:RE=>a<b) [pX F,pX P,pX Q] (pX Q))=true:=by
  unfold Gz;rw[dm h0 hF hP mF mP,dm h0 hP hF mP mF,dm h0 hF hq mF mQ,dm h0 hq hF mQ mF,dm h0 hP hq mP mQ,dm h0 hq hP mQ mP];rfl
 have a:=Ux ⟨_,iX (pX F-of ci.1) (pY F-of ci.2.1)⟩ ⟨_,iX (pX P-of ci.1) (pY P-of ci.2.1)⟩ ⟨_,iX (pX Q-of ci.1) (pY Q-of ci.2.1)⟩ ⟨_,jE lt_lin mF⟩ ⟨_,jE lt_lin mP⟩ ⟨_,jE lt_lin mQ⟩ hcon;simp only at a;unfold ptd;rw[jc,jc,jc,iL (fP mP mF) (fP mQ mF) (fP mP mQ),gM (fP mP mF) (fP mQ mF) (fP mP mQ)];exact a
theorem aiW{ci:Ln}{F T P Q:Pt}[Rpd F][Rpd T][Rpd P][Rpd Q](hQ:0<ci.2.2)(hF:onCi ci F)(hT:onCi ci T)(hP:onCi ci P)(hq:onCi ci Q)
  (oP:decide (iE bi (ptd ci T) (ptd ci P) (ptd ci F)<=0)=true) (oQ:decide (iE bi (ptd ci T) (ptd ci Q) (ptd ci F)<=0)=true):
  -(iE bi (ptd ci T) (ptd ci P) (ptd ci Q))=kU bi (ptd (flC ci) (flP F)) (ptd (flC ci) (flP P)) (ptd (flC ci) (flP Q)):=by
 have mF:pX F∈[pX F,pX T,pX P,pX Q]:=by simp
 have mT:pX T∈[pX F,pX T,pX P,pX Q]:=by simp
 have mP:pX P∈[pX F,pX T,pX P,pX Q]:=by simp
 have mQ:pX Q∈[pX F,pX T,pX P,pX Q]:=by simp
 have h0:0<of ci.2.2:=fS hQ;revert oP oQ;unfold ptd;rw[jc,jc,jc,jc,wY hQ hF,wY hQ hP,wY hQ hq,iL (fP mP mT) (fP mF mT) (fP mP mF),iL (fP mQ mT) (fP mF mT) (fP mQ mF),iL (fP mP mT) (fP mQ mT) (fP mP mQ),gM (pL mP mF) (pL mQ mF) (pL mP mQ)];intro oP oQ;refine acX ⟨_,iX (pX F-of ci.1) (pY F-of ci.2.1)⟩ ⟨_,iX (pX T-of ci.1) (pY T-of ci.2.1)⟩ ⟨_,jE lt_lin mF⟩ ⟨_,jE lt_lin mT⟩ ?_ ⟨_,iX (pX P-of ci.1) (pY P-of ci.2.1)⟩ ⟨_,jE lt_lin mP⟩ ?_ ⟨_,iX (pX Q-of ci.1) (pY Q-of ci.2.1)⟩ ⟨_,jE lt_lin mQ⟩ ?_
 ·simp only;rw[dm h0 hF hT mF mT,dm h0 hT hF mT mF];rfl
 ·simp only;rw[dm h0 hF hP mF mP,dm h0 hP hF mP mF,dm h0 hT hP mT mP,dm h0 hP hT mP mT,oP];rfl
 ·simp only;rw[dm h0 hF hq mF mQ,dm h0 hq hF mQ mF,dm h0 hT hq mT mQ,dm h0 hq hT mQ mT,dm h0 hP hq mP mQ,dm h0 hq hP mQ mP,oQ];rfl
theorem LR{p q:Pt}[Rpd p][Rpd q]:aZ p q= -aZ q p:=by
 rw[j8,j8];rcases kN.tri (pR p) (pR q)with h|h|h
 ·rw[(jz _ _).1 h,(jz _ _).2.2 h]
 ·rw[h,(jz (pR q) (pR q)).2.1 rfl];rfl
 ·rw[(jz _ _).2.2 h,(jz _ _).1 h];rfl
theorem ord_eq{c:Cv}(h:Crp c)(hne:aZ (frC c) (toC c)≠0){p q:Pt}(hp:Rpd p)(hq:Rpd q)(op:onP c p=true)(oq:onP c q=true):Dc c p q=co c p q:=by
 have hf:=h.f.1;have ht:=h.t.1;unfold onP at op oq;obtain⟨sp,rp⟩:=anm.1 op;obtain⟨sq,rq⟩:=anm.1 oq;unfold Dc co;unfold jd at rp rq;cases ha:c.1
 ·rw[cond_false,cond_false,LR (p:=toC c)];have hb:=xx (frC c) (toC c);by_cases hd:aZ (frC c) (toC c)>0
  ·rw[anb hd,cond_true,show aZ (frC c) (toC c)=1 by omega];omega
  ·rw[ane hd,cond_false,show aZ (frC c) (toC c)= -1 by omega];omega
 ·rw[ha,cond_true]at rp rq;rw[cond_true,cond_true];have q0:=h.q ha;have oF:=kH ha h.f;have oT:=kH ha h.t;have oP:=kH ha ⟨hp,sp⟩;have oQ:=kH ha ⟨hq,sq⟩;unfold ccF ccT at rp rq;cases hw:cwC c
  ·rw[cond_false,cond_false];exact acC q0 oF oP oQ
  ·rw[hw,cond_true,cond_true]at rp rq;rw[cond_true,cond_true];exact aiW q0 oF oT oP oQ rp rq
end RE
abbrev oL(c:Cv)(A:List BP):Prop:=A.Pairwise (λa b=>co c (dec a) (dec b)<0)
section
section
variable {α K:Type}
def mD(lt:α->α->Bool):List α->α->List α
 |[],a=>[a]
 |b::r,a=>bif lt a b then b::mD lt r a else a::b::r
def uq(lt:α->α->Bool)(l:List α):List α:=(l.foldl (mD lt) []).reverse
def kD(eq:α->α->Bool):α->List α->List α
 |_,[]=>[]
 |p,q::r=>bif eq q p then kD eq q r else q::kD eq q r
def xc(eq:α->α->Bool):List α->List α
 |[]=>[]
 |x::r=>x::kD eq x r
theorem nY{lt:α->α->Bool}{a x:α}:∀{r:List α},x∈mD lt r a↔x=a\/x∈r
 |[]=>by simp[mD]
 |b::r=>by
  unfold mD;cases lt a b
  ·simp
  ·simp only[cond_true,anr,nY (r:=r)];constructor
   ·rintro (h|h|h)
    ·exact .inr (.inl h)
    ·exact .inl h
    ·exact .inr (.inr h)
   ·rintro (h|h|h)
    ·exact .inr (.inl h)
    ·exact .inl h
    ·exact .inr (.inr h)
theorem FZ{lt:α->α->Bool}{x:α}:∀{l r:List α},x∈l.foldl (mD lt) r↔x∈l\/x∈r
 |[],r=>by simp
 |a::l,r=>by
  rw[ao9,FZ,nY,anr];constructor
  ·rintro (h|h|h)
   ·exact .inl (.inr h)
   ·exact .inl (.inl h)
   ·exact .inr h
  ·rintro ((h|h)|h)
   ·exact .inr (.inl h)
   ·exact .inl h
   ·exact .inr (.inr h)
theorem qt{lt:α->α->Bool}{x:α}{l:List α}:x∈uq lt l↔x∈l:=by
 unfold uq;rw[List.mem_reverse,FZ];simp
theorem uy{lt:α->α->Bool}{a:α}:∀{r:List α},(mD lt r a).length=r.length+1
 |[]=>rfl
 |b::r=>by
  unfold mD;cases lt a b
  ·rfl
  ·simp[uy (r:=r)]
theorem Kz{lt:α->α->Bool}:∀{l r:List α},(l.foldl (mD lt) r).length=l.length+r.length
 |[],r=>by simp
 |a::l,r=>by
  rw[ao9,Kz,uy,ans];omega
theorem FE{lt:α->α->Bool}{l:List α}:(uq lt l).length=l.length:=by
 unfold uq;rw[List.length_reverse,Kz];rfl
theorem E0{eq:α->α->Bool}:∀{l:List α} {p:α},(kD eq p l).length<=l.length
 |[],_=>ani _
 |q::r,p=>by
  unfold kD;have:=E0 (eq:=eq) (l:=r) (p:=q);cases eq q p
  ·simp only[cond_false,ans];omega
  ·simp only[cond_true,ans];omega
theorem T6{eq:α->α->Bool}{l:List α}:(xc eq l).length<=l.length:=by
 cases l with
 |nil=>exact ani _
 |cons x r=>
  have:=E0 (eq:=eq) (l:=r) (p:=x);simp only[xc,ans];omega
theorem yB{eq:α->α->Bool}{x:α}:∀{l:List α} {p:α},x∈kD eq p l->x∈l
 |[],_,h=>h
 |q::r,p,h=>by
  unfold kD at h;cases hq:eq q p<;>rw[hq]at h
  ·rcases anr.1 h with e|e
   ·rw[e];simp
   ·exact ann _ (yB e)
  ·exact ann _ (yB h)
theorem SQ{eq:α->α->Bool}{x:α}{l:List α}(h:x∈xc eq l):x∈l:=by
 cases l with
 |nil=>exact h
 |cons y r=>
  rcases anr.1 h with e|e
  ·rw[e];simp
  ·exact ann _ (yB e)
variable {lt:K->K->Prop} (hl:n7 lt) (κ:α->K)
abbrev upK(lt:K->K->Prop)(κ:α->K)(l:List α):Prop:=l.Pairwise λa b=>¬lt (κ b) (κ a)
abbrev dnK(lt:K->K->Prop)(κ:α->K)(l:List α):Prop:=l.Pairwise λa b=>¬lt (κ a) (κ b)
include hl in
theorem JF{f:α->α->Bool}{a:α}:∀{r:List α},(∀b∈r,(f a b=true↔lt (κ a) (κ b)))->dnK lt κ r->dnK lt κ (mD f r a)
 |[],_,_=>by simp[mD]
 |b::r,hf,hp=>by
  obtain⟨p1,p2⟩:=anF.1 hp;have hb:=hf b (by simp);unfold mD;cases hfb:f a b
  ·simp only[cond_false];have nlt:¬lt (κ a) (κ b):=λh=>by rw[hb.2 h]at hfb;cases hfb
   refine anF.2 ⟨λx hx=>?_,hp⟩;rcases anr.1 hx with e|e
   ·rw[e];exact nlt
   ·intro h;rcases hl.tri (κ b) (κ x)with g|g|g
    ·exact p1 x e g
    ·rw[<-g]at h;exact nlt h
    ·exact nlt (hl.tr _ _ _ h g)
  ·simp only[cond_true];have hlt:=hb.1 hfb;refine anF.2 ⟨λx hx=>?_,JF (λy hy=>hf y (ann _ hy)) p2⟩;rcases nY.1 hx with e|e
   ·rw[e];intro h;exact hl.irr _ (hl.tr _ _ _ h hlt)
   ·exact p1 x e
include hl in
theorem IV{f:α->α->Bool}:∀{l r:List α},(∀a b,(a∈l\/a∈r)->(b∈l\/b∈r)->(f a b=true↔lt (κ a) (κ b)))->dnK lt κ r->dnK lt κ (l.foldl (mD f) r)
 |[],_,_,h=>h
 |a::l,r,hf,h=>by
  rw[ao9];refine IV (λx y hx hy=>hf x y ?_ ?_) (JF hl κ (λb hb=>hf a b (.inl (by simp)) (.inr hb)) h)
  ·rcases hx with e|e
   ·exact .inl (ann _ e)
   ·rcases nY.1 e with g|g
    ·exact .inl (by rw[g];simp)
    ·exact .inr g
  ·rcases hy with e|e
   ·exact .inl (ann _ e)
   ·rcases nY.1 e with g|g
    ·exact .inl (by rw[g];simp)
    ·exact .inr g
include hl in
theorem V2{f:α->α->Bool}{l:List α}(hf:∀a∈l,∀b∈l,(f a b=true↔lt (κ a) (κ b))):upK lt κ (uq f l):=by
 unfold uq;refine List.pairwise_reverse.2 (IV hl κ (λa b ha hb=>hf a ?_ b ?_) (by simp))
 ·rcases ha with h|h
  ·exact h
  ·cases h
 ·rcases hb with h|h
  ·exact h
  ·cases h
include hl in
theorem Lb{g:α->α->Bool}:∀{l:List α} {p:α},(∀a b,a∈p::l->b∈p::l->(g a b=true↔κ a=κ b))->upK lt κ (p::l)->
  (p::kD g p l).Pairwise (λa b=>lt (κ a) (κ b))/\∀x∈p::l,∃y∈p::kD g p l,κ y=κ x
 |[],p,_,_=>⟨by simp[kD],λx hx=>⟨x,hx,rfl⟩⟩
 |q::r,p,hg,hp=>by
  obtain⟨p1,p2⟩:=anF.1 hp;obtain⟨i1,i2⟩:=Lb (l:=r) (p:=q) (λa b ha hb=>hg a b (ann _ ha) (ann _ hb)) p2;obtain⟨j1,j2⟩:=anF.1 i1;have hq:=hg q p (by simp) (by simp);unfold kD;cases hqp:g q p
  ·simp only[cond_false]
   have hlt:lt (κ p) (κ q):=by
    rcases hl.tri (κ p) (κ q)with e|e|e
    ·exact e
    ·rw[hq.2 e.symm]at hqp;cases hqp
    ·exact absurd e (p1 q (by simp))
   refine⟨anF.2 ⟨λx hx=>?_,i1⟩,λx hx=>?_⟩
   ·rcases anr.1 hx with e|e
    ·rw[e];exact hlt
    ·exact hl.tr _ _ _ hlt (j1 x e)
   ·rcases anr.1 hx with e|e
    ·exact⟨p,by simp,by rw[e]⟩
    ·obtain⟨y,hy,e2⟩:=i2 x e;exact⟨y,ann _ hy,e2⟩
  ·simp only[cond_true];have he:=hq.1 hqp;refine⟨anF.2 ⟨λx hx=>by rw[<-he];exact j1 x hx,j2⟩,λx hx=>?_⟩
   have tr:∀y,y∈q::kD g q r->∃z∈p::kD g q r,κ z=κ y:=λy hy=>by
    rcases anr.1 hy with e|e
    ·exact⟨p,by simp,by rw[e,he]⟩
    ·exact⟨y,ann _ e,rfl⟩
   rcases anr.1 hx with e|e
   ·exact⟨p,by simp,by rw[e]⟩
   ·obtain⟨y,hy,e2⟩:=i2 x e;obtain⟨z,hz,e3⟩:=tr y hy;exact⟨z,hz,e3.trans e2⟩
include hl in
theorem Vs{g:α->α->Bool}{l:List α}(hg:∀a∈l,∀b∈l,(g a b=true↔κ a=κ b))(hp:upK lt κ l):(xc g l).Pairwise (λa b=>lt (κ a) (κ b))/\∀x∈l,∃y∈xc g l,κ y=κ x:=by
 cases l with
 |nil=>exact⟨by simp[xc],λx hx=>by cases hx⟩
 |cons p r=>exact Lb hl κ (λa b ha hb=>hg a ha b hb) hp
end
def ltP(c:Cv)(a b:BP):Bool:=decide (Dc c (dec a) (dec b)<0)
def jg(a b:BP):Bool:=aZ (dec a) (dec b)==0
def dB(c:Cv)(l:List BP):List BP:=xc jg (uq (ltP c) l)
theorem ki{c:Cv}{l:List BP}{x:BP}(h:x∈dB c l):x∈l:=qt.1 (SQ h)
theorem qN{c:Cv}{l:List BP}:(dB c l).length<=l.length:=by
 have:=T6 (eq:=jg) (l:=uq (ltP c) l);rw[FE]at this;exact this
theorem IS{c:Cv}(h:Crp c)(hne:aZ (frC c) (toC c)≠0){l:List BP}(hon:∀x∈l,Rpd (dec x:Pt)/\onP c (dec x)=true):oL c (dB c l)/\∀x∈l,∃y∈dB c l,aZ (dec y) (dec x)=0:=by
 obtain⟨K,lt,κ,f,hl,hc,ho,hk⟩:=xA h;have sp:∀x∈l,Spb c x:=λx hx=>⟨(hon x hx).1,(anm.1 (hon x hx).2).1⟩
 have up:=V2 hl (λx:BP=>κ (dec x)) (f:=ltP c) (l:=l) λa ha b hb=>by
  unfold ltP;rw[an6,RE.ord_eq h hne (hon a ha).1 (hon b hb).1 (hon a ha).2 (hon b hb).2,ho _ _ (sp a ha) (sp b hb)];exact kf hl hc _ _
 have q:=Vs hl (λx:BP=>κ (dec x)) (g:=jg) (l:=uq (ltP c) l) (λa ha b hb=>by
  unfold jg;rw[aop];exact(hk _ _ (sp a (qt.1 ha)) (sp b (qt.1 hb))).symm) up
 refine⟨List.Pairwise.imp_of_mem (λ{a b} ha hb g=>?_) q.1,λx hx=>?_⟩
 ·have ha':=ki (c:=c) ha;have hb':=ki (c:=c) hb;rw[ho _ _ (sp a ha') (sp b hb')];exact(kf hl hc _ _).2 g
 ·obtain⟨y,hy,e⟩:=q.2 x (qt.2 hx);exact⟨y,hy,(hk _ _ (sp y (ki (c:=c) hy)) (sp x hx)).1 e⟩
end
theorem adF{c:Cv}(h:Crp c):Crv c:=⟨h.f.1,h.t.1,λha=>⟨h.q ha,kH ha h.f,kH ha h.t⟩⟩
theorem gj{c:Cv}(h:Crp c){p:Pt}(hp:Rpd p):onP c p=onR c p:=aj3 (adF h) hp
namespace RE
theorem iz{c:Cv}{p:Pt}[Rpd p]:gv c p=true↔bif c.1 then gi (ciC c) (pR p)else eI (lnC c) (pR p):=by
 unfold gv;cases c.1
 ·exact Dz
 ·exact uJ
theorem wC{q:Rat}(hq:q≠0){x y:RE}(h:of q*x=of q*y):x=y:=by
 have e:∀z:RE,of q⁻¹*(of q*z)=z:=λz=>by
  rw[<-mul_assoc,<-aC,Rat.inv_mul_cancel _ hq,Ds,one_mul]
 rw[<-e x,h,e y]
theorem ami(a p q x y:RE):a*(p*x+q*y)=p*(a*x)+a*q*y:=by grind
theorem alJ(p a b x y:RE):p*(a*x+b*y)=p*(a*x)+b*p*y:=by grind
theorem amE(b p q x y:RE):b*(p*x+q*y)=b*p*x+q*(b*y):=by grind
theorem amx(q a b x y:RE):q*(a*x+b*y)=a*q*x+q*(b*y):=by grind
theorem adv{l m:Ln}(hl:l.1≠0\/l.2.1≠0)(h:pq l m=true){v:PE}(hv:eI l v):eI m v:=by
 unfold pq at h;obtain⟨h1,h23⟩:=anm.1 h;obtain⟨h2,h3⟩:=anm.1 h23;have h1:=anf h1;have h2:=anf h2;have h3:=anf h3;unfold eI at*
 rcases hl with ha|hb
 ·refine wC ha ?_;rw[ami,<-aC l.1 m.2.1,h1,aC,<-alJ,hv,<-aC,<-aC,h2,aoN]
 ·refine wC hb ?_;rw[amE,<-aC l.2.1 m.1,<-h1,aC,<-amx,hv,<-aC,<-aC,h3,aoN]
theorem VM{l m:Ln}(h:pq l m=true):pq m l=true:=by
 unfold pq at*
 obtain⟨h1,h23⟩:=anm.1 h;obtain⟨h2,h3⟩:=anm.1 h23;have h1:=anf h1;have h2:=anf h2;have h3:=anf h3;rw[dT (show m.1*l.2.1=m.2.1*l.1 by grind),dT (show m.1*l.2.2=m.2.2*l.1 by grind),dT (show m.2.1*l.2.2=m.2.2*l.2.1 by grind)];rfl
theorem aeW{c d:Ln}(h:qV c d=true):c=d:=by
 unfold qV at h;obtain⟨h1,h23⟩:=anm.1 h;obtain⟨h2,h3⟩:=anm.1 h23;exact anN (anf h1) (anN (anf h2) (anf h3))
theorem CP{c d:Cv}(h:cH c d=true):c.1=d.1:=by
 unfold cH at h;cases e:c.1==d.1
 ·rw[e]at h;cases h
 ·exact aop.1 e
theorem PU{c d:Cv}(h:cH c d=true)(ha:c.1=true):ciC c=ciC d:=by
 have e:=CP h;unfold cH at h;rw[<-e,ha]at h;exact aeW h
theorem SD{c d:Cv}(h:cH c d=true)(ha:c.1=false):pq (lnC c) (lnC d)=true:=by
 have e:=CP h;unfold cH at h;rw[<-e,ha]at h;exact h
theorem DF{c d:Cv}(h:cH c d=true):cH d c=true:=by
 have e:=CP h;unfold cH;rw[<-e,beq_self_eq_true,cond_true];cases ha:c.1
 ·exact VM (SD h ha)
 ·rw[cond_true,PU h ha];unfold qV;rw[dT rfl,dT rfl,dT rfl];rfl
theorem xw{c d:Cv}(hc:Crp c)(h:cH c d=true){p:Pt}[Rpd p](hp:gv c p=true):gv d p=true:=by
 have e:=CP h;rw[iz]at*
 rw[<-e];cases ha:c.1
 ·rw[ha,cond_false]at hp;exact adv (hc.l ha) (SD h ha) hp
 ·rw[ha,cond_true]at hp;rw[cond_true,<-PU h ha];exact hp
theorem supF_eq{c:Cv}{p q:Pt}[Rpd p][Rpd q](e:pR p=pR q)(h:gv c p=true):gv c q=true:=by
 rw[iz]at*
 rw[<-e];exact h
end RE
theorem Ff{c:Cv}(h:Crp c){p q r:Pt}(hp:Sp c p)(hq:Sp c q)(hr:Sp c r)(e:aZ p q=0):co c p r=co c q r/\co c r p=co c r q:=by
 obtain⟨K,lt,κ,f,hl,hc,ho,hk⟩:=xA h;have ek:=(hk p q hp hq).2 e;rw[ho p r hp hr,ho q r hq hr,ho r p hr hp,ho r q hr hq,ek];exact⟨rfl,rfl⟩
theorem ahY{c:Cv}{p q:Pt}(hp:Sp c p)(hq:Rpd q)(e:aZ p q=0):Sp c q:=by
 have:=hp.1;exact⟨hq,RE.supF_eq (RE.cmpP_0.1 e) hp.2⟩
theorem aiI{p:Pt}(_h:Rpd p):aZ p p=0:=RE.cmpP_0.2 rfl
theorem Pi{p q:Pt}[Rpd p][Rpd q](e:aZ p q=0):aZ q p=0:=RE.cmpP_0.2 (RE.cmpP_0.1 e).symm
theorem aji{p q r:Pt}[Rpd p][Rpd q][Rpd r](e:aZ p q=0)(e':aZ q r=0):aZ p r=0:=RE.cmpP_0.2 ((RE.cmpP_0.1 e).trans (RE.cmpP_0.1 e'))
theorem Fs{c:Cv}(h:Crp c){p q:Pt}(hp:Rpd p)(hq:Rpd q)(e:aZ p q=0)(ho:onR c p=true):onR c q=true:=by
 obtain⟨h1,h2,h3⟩:=(pB h hp).1 ho;have sp:Sp c p:=⟨hp,h1⟩
 have sq:=ahY sp hq e;rw[pB h hq];rw[(Ff h sp sq h.f e).1]at h2;rw[(Ff h sp sq h.t e).2]at h3;exact⟨sq.2,h2,h3⟩
theorem JB{c:Cv}(h:Crp c){p q:Pt}(hp:Rpd p)(hq:Rpd q)(e:aZ p q=0):onR c p=onR c q:=by
 cases h1:onR c p
 ·cases h2:onR c q
  ·rfl
  ·rw[Fs h hq hp (Pi e) h2]at h1;cases h1
 ·rw[Fs h hp hq e h1]
section
def mA(c d:BCU):List BP:=bif cH (dC c) (dC d)then [c.2.2.2.2.1,c.2.2.2.2.2,d.2.2.2.2.1,d.2.2.2.2.2]else(im (dC c) (dC d)).map enc
def iO(c d:BCU)(p:BP):Bool:=jd (dC c) (dec p)&&jd (dC d) (dec p)
def je(c d:BCU):List BP:=dB (dC c) ((mA c d).filter (iO c d))
theorem kM{c:BCU}(h:vo c):(c.1=true->BdC (ciC (dC c))/\0<(ciC (dC c)).2.2)/\(c.1=false->BdL (lnC (dC c))/\((lnC (dC c)).1≠0\/(lnC (dC c)).2.1≠0)):=by
 refine⟨λe=>?_,λe=>?_⟩
 ·obtain⟨l,e1,bl,nl⟩:=cQ (h.1 e);show BdC (dec c.2.2.1)/\_;rw[show ciC (dC c)=dec c.2.2.1 from rfl,e1,aA];exact⟨bl,nl⟩
 ·obtain⟨l,e1,bl,nl⟩:=fj (h.2 e);show BdL (dec c.2.1)/\_;rw[show lnC (dC c)=dec c.2.1 from rfl,e1,aA];exact⟨bl,nl⟩
namespace RE
theorem supM_on{c d:BCU}(hc:vo c)(hd:vo d){p:Pt}(hp:p∈im (dC c) (dC d)):Bd p 1200/\Rpd p/\gv (dC c) p=true/\gv (dC d) p=true:=by
 obtain⟨c1,c2⟩:=kM hc;obtain⟨d1,d2⟩:=kM hd;have ec:(dC c).1=c.1:=rfl;have ed:(dC d).1=d.1:=rfl;unfold im at hp;rw[ec,ed]at hp;cases ha:c.1<;>cases hb:d.1<;>rw[ha,hb]at hp
 ·have i1:=(c2 ha).1;have i2:=(d2 hb).1;have hp:p∈mC (lnC (dC c)) (lnC (dC d)):=hp;obtain⟨b,r⟩:=yd.2 p hp;obtain⟨o1,o2⟩:=afp hp;refine⟨b.mono (by decide),r,?_,?_⟩
  ·rw[iz,ec,ha];exact o1
  ·rw[iz,ed,hb];exact o2
 ·have i1:=(c2 ha).1;have i2:=(d1 hb).1;have hp:p∈mn (lnC (dC c)) (ciC (dC d)):=hp;obtain⟨b,r⟩:=u4.2 p hp;obtain⟨o1,o2⟩:=IR (c2 ha).2 hp;refine⟨b,r,?_,?_⟩
  ·rw[iz,ec,ha];exact o1
  ·rw[iz,ed,hb];exact o2
 ·have i1:=(c1 ha).1;have i2:=(d2 hb).1;have hp:p∈mn (lnC (dC d)) (ciC (dC c)):=hp;obtain⟨b,r⟩:=u4.2 p hp;obtain⟨o1,o2⟩:=IR (d2 hb).2 hp;refine⟨b,r,?_,?_⟩
  ·rw[iz,ec,ha];exact o2
  ·rw[iz,ed,hb];exact o1
 ·have i1:=(c1 ha).1;have i2:=(d1 hb).1;have hp:p∈tc (ciC (dC c)) (ciC (dC d)):=hp;unfold tc at hp;cases hq:iU (ciC (dC c)) (ciC (dC d))<;>rw[hq]at hp
  ·have i3:BdL (oH (ciC (dC c)) (ciC (dC d))):=Ad;obtain⟨b,r⟩:=u4.2 p hp;obtain⟨o1,o2⟩:=IR (vX hq) hp;refine⟨b,r,?_,?_⟩
   ·rw[iz,ec,ha];exact o2
   ·rw[iz,ed,hb];exact Qh o1 o2
  ·cases hp
end RE
open RE
theorem gdN.crp{c:BCU}(h:gdN c):Crp (dC c):=nL h.gd
theorem gdN.ne{c:BCU}(h:gdN c):aZ (frC (dC c)) (toC (dC c))≠0:=h.2.2.2
theorem gdN.fr{c:BCU}(h:gdN c):okP 580 c.2.2.2.2.1:=h.1.1.2.2.1
theorem gdN.to{c:BCU}(h:gdN c):okP 580 c.2.2.2.2.2:=h.1.1.2.2.2
theorem xJ{c d:BCU}(hc:gdN c)(hd:gdN d):(mA c d).length<=4/\∀x∈mA c d,okP 1200 x/\Spb (dC c) x/\Spb (dC d) x:=by
 have kc:=hc.crp;have kd:=hd.crp;unfold mA;cases hs:cH (dC c) (dC d)
 ·refine⟨?_,λx hx=>?_⟩
  ·simp only[cond_false,aoV];have:∀l c,[BdL l]->[BdC c]->(mn l c).length<=4:=λl c _ _=>anq u4.1 (by decide);obtain⟨c1,c2⟩:=kM hc.1.2;obtain⟨d1,d2⟩:=kM hd.1.2;have ec:(dC c).1=c.1:=rfl;have ed:(dC d).1=d.1:=rfl;unfold im;rw[ec,ed];cases ha:c.1<;>cases hb:d.1
   ·have i1:=(c2 ha).1;have i2:=(d2 hb).1;exact anq yd.1 (by decide)
   ·have i1:=(c2 ha).1;have i2:=(d1 hb).1;exact this _ _
   ·have i1:=(c1 ha).1;have i2:=(d2 hb).1;exact this _ _
   ·have i1:=(c1 ha).1;have i2:=(d1 hb).1;show(tc _ _).length<=4;unfold tc;cases hq:iU (ciC (dC c)) (ciC (dC d))
    ·have i3:BdL (oH (ciC (dC c)) (ciC (dC d))):=Ad;exact this _ _
    ·exact apH _
  ·obtain⟨p,hp,rfl⟩:=ao5.1 hx;obtain⟨b,r,o1,o2⟩:=supM_on hc.1.2 hd.1.2 hp;refine⟨anf (aQ (by decide) (by decide)),?_,?_⟩
   ·unfold Spb;rw[aA];exact⟨r,o1⟩
   ·unfold Spb;rw[aA];exact⟨r,o2⟩
 ·have hs':=DF hs;refine⟨by simp,λx hx=>?_⟩;have:x=c.2.2.2.2.1\/x=c.2.2.2.2.2\/x=d.2.2.2.2.1\/x=d.2.2.2.2.2:=by simpa using hx
  have up:∀{x},okP 580 x->okP 1200 x:=λh=>cS h (by decide) (by decide);rcases this with e|e|e|e<;>rw[e]
  ·have i:Rpd (dec c.2.2.2.2.1:Pt):=kc.f.1;exact⟨up hc.fr,kc.f,kc.f.1,xw kc hs kc.f.2⟩
  ·have i:Rpd (dec c.2.2.2.2.2:Pt):=kc.t.1;exact⟨up hc.to,kc.t,kc.t.1,xw kc hs kc.t.2⟩
  ·have i:Rpd (dec d.2.2.2.2.1:Pt):=kd.f.1;exact⟨up hd.fr,⟨kd.f.1,xw kd hs' kd.f.2⟩,kd.f⟩
  ·have i:Rpd (dec d.2.2.2.2.2:Pt):=kd.t.1;exact⟨up hd.to,⟨kd.t.1,xw kd hs' kd.t.2⟩,kd.t⟩
theorem zd{c d:BCU}(hc:gdN c)(hd:gdN d){x:BP}(hx:x∈je c d):x∈mA c d/\okP 1200 x/\Spb (dC c) x/\Spb (dC d) x/\onR (dC c) (dec x)=true/\onR (dC d) (dec x)=true:=by
 obtain⟨hm,hk⟩:=aqi.1 (ki hx);obtain⟨h0,h1,h2⟩:=(xJ hc hd).2 x hm;obtain⟨k1,k2⟩:=anm.1 hk;refine⟨hm,h0,h1,h2,?_,?_⟩
 ·rw[<-gj hc.crp h1.1];exact anm.2 ⟨h1.2,k1⟩
 ·rw[<-gj hd.crp h2.1];exact anm.2 ⟨h2.2,k2⟩
theorem Jt{c d:BCU}{x:BP}(hc:gdN c)(hd:gdN d)(hr:Rpd (dec x:Pt))(h1:onR (dC c) (dec x)=true)(h2:onR (dC d) (dec x)=true):iO c d x=true:=by
 rw[<-gj hc.crp hr]at h1;rw[<-gj hd.crp hr]at h2;exact anm.2 ⟨(anm.1 h1).2,(anm.1 h2).2⟩
theorem Qy{c d:BCU}(hc:gdN c)(hd:gdN d):∀x∈(mA c d).filter (iO c d),Rpd (dec x:Pt)/\onP (dC c) (dec x)=true:=λx hx=>by
 obtain⟨hm,hk⟩:=aqi.1 hx;obtain⟨h0,h1,h2⟩:=(xJ hc hd).2 x hm;exact⟨h1.1,anm.2 ⟨h1.2,(anm.1 hk).1⟩⟩
end
section
open RE
def AF(c:BCU):BP->List BP->List BCU
 |f,[]=>[eG c f c.2.2.2.2.2]
 |f,p::r=>bif jg p c.2.2.2.2.1||jg p c.2.2.2.2.2 then AF c f r else eG c f p::AF c p r
def aeh(c:BCU)(l:List BP):List BCU:=AF c c.2.2.2.2.1 (dB (dC c) l)
def aeS(c:BCU)(l:List BP):Bool:=l.any λp=>!onP (dC c) (dec p)
def tH(c:BCU)(l:List BP):List BCU:=bif aeS c l then []else aeh c l
def alW(c:BCU)(l:List BP):Int:=bif aeS c l then 1 else 0
section
variable {c:BCU} (h:gdN c) {l:List BP} (ho:∀x∈l,Rpd (dec x:Pt)/\onR (dC c) (dec x)=true)
include h ho
omit h ho in
end
end
section
open RE
def frB(c:BCU):BP:=c.2.2.2.2.1
def toB(c:BCU):BP:=c.2.2.2.2.2
def FX(d p:BCU):Bool:=(onP (dC d) (dec (frB p))&&onP (dC d) (dec (toB p)))&&(bif d.1 then !jg (frB (eo p)) (toB (eo d))&&decide (iE bi (ptd (dec (eo d).2.2.1) (dec (frB (eo p)))) (ptd (dec (eo d).2.2.1) (dec (toB (eo p)))) (ptd (dec (eo d).2.2.1) (dec (toB (eo d))))<=0)else true)
def yo(c d:BCU)(l:List BP):Bool:=(tH c l).any (FX d)
def sV(c d:BCU):Bool:=cH (dC c) (dC d)&&yo c d (je c d)
end
def pG(d p q r:Rat):Int:=sgQ (d-p-q-r*r,-2*r,-2*r,-2,p,q)
def sS(x y z r:Rat):Int:=sgQ (x+y-z-r*r,2,-(2*r),0,x*y,z)
def XL(a b c d:Rat):Int:=sgQ (a+b-(c+d),2,-2,0,a*b,c*d)
def tC(a b c r:Rat):Int:=bif decide (pG c a b 0>0)then pG c a b r else XL a b c (r*r)
def mx2(a b:Int):Int:=if b>a then b else a
theorem GC(a b:Int):mn2 a b=min a b:=by unfold mn2;omega
theorem aeM(a b:Int):mx2 a b=max a b:=by unfold mx2;omega
theorem Wt(a b c d:Int):Mb a b c d=min (min (min a b) c) d:=by unfold Mb;simp only[GC]
def v6(b:Bool)(x:Int):Int:=bif b then x else 1
def ftv(s a:Cv):Rat×Rat:=dZ (lnC s) (ctr (ciC a))
def wyv(c d:Cv):Rat×Rat:=cV (ctr (ciC c)) (ctr (ciC d))
def xg(s a:Cv)(r:Rat):Int:=v6 (onP s (atP (ftv s a))) (vF a (ftv s a) r)
def nT(c d:Cv):Bool:=dM c (wyv c d)
def fT(c d:Cv):Bool:=dM c (bkV (wyv c d))
def nD(c d:Cv):Rat:=a9 (wyv c d) (wyv c d)
def tT(c d:Cv)(r:Rat):Int:=bif decide (nD c d=0)then 1 else
 min (min (v6 (nT c d&&dM d (bkV (wyv c d))) (max (pG (nD c d) (ciC c).2.2 (ciC d).2.2 r) (sS (ciC c).2.2 (ciC d).2.2 (nD c d) r)))
  (v6 (nT c d&&dM d (wyv c d)) (max (sS (nD c d) (ciC d).2.2 (ciC c).2.2 r) (pG (ciC c).2.2 (nD c d) (ciC d).2.2 r))))
  (v6 (fT c d&&dM d (bkV (wyv c d))) (max (sS (nD c d) (ciC c).2.2 (ciC d).2.2 r) (pG (ciC d).2.2 (nD c d) (ciC c).2.2 r)))
theorem TL(q:Qd):sgQ q<=1:=(Ko _ _ _ _ _ _).2
def uU(c d:Cv)(r:Rat):Int:=min (min (min (RE.poiE d (RE.pR (frC c)) r) (RE.poiE d (RE.pR (toC c)) r)) (RE.poiE c (RE.pR (frC d)) r)) (RE.poiE c (RE.pR (toC d)) r)
def jv(c d:Cv)(r:Rat):Int:=bif c.1 then(bif d.1 then min (uU c d r) (tT c d r)else min (uU c d r) (xg d c r))else bif d.1 then min (uU c d r) (xg c d r)else uU c d r
def Lv(m:Bool)(o:Int)(r:Rat):Int:=bif decide (r<0)then 1 else bif m then-aF r 0 else o
def n3P(x y z:BR):Prop:=ok Rat 2000 x/\ok Rat 2000 y/\ok Rat 2000 z/\0<=ah x/\0<=ah y/\0<=ah z
instance (x y z:BR):Decidable (n3P x y z):=by unfold n3P;infer_instance
def n4P(x y z r:BR):Prop:=n3P x y z/\ok Rat 2000 r/\0<=ah r
instance (x y z r:BR):Decidable (n4P x y z r):=by unfold n4P;infer_instance
theorem aiz{x y z:BR}(h:n3P x y z):∃a b c:Rat,x=enc a/\y=enc b/\z=enc c/\Bd a 2000/\Bd b 2000/\Bd c 2000/\0<=a/\0<=b/\0<=c:=by
 obtain⟨h1,h2,h3,h4,h5,h6⟩:=h;obtain⟨a,rfl,ba⟩:=aI h1;obtain⟨b,rfl,bb⟩:=aI h2;obtain⟨c,rfl,bc⟩:=aI h3;rw[fk,cC]at h4 h5 h6;exact⟨a,b,c,rfl,rfl,rfl,ba,bb,bc,h4,h5,h6⟩
theorem abe{x y z r:BR}(h:n4P x y z r):∃a b c e:Rat,(x=enc a/\y=enc b/\z=enc c/\r=enc e)/\Bd a 2000/\Bd b 2000/\Bd c 2000/\Bd e 2000/\0<=a/\0<=b/\0<=c/\0<=e:=by
 obtain⟨h,h1,h2⟩:=h;obtain⟨a,b,c,e1,e2,e3,ba,bb,bc,na,nb,nc⟩:=aiz h;obtain⟨e,rfl,be⟩:=aI h1;rw[fk,cC]at h2;exact⟨a,b,c,e,⟨e1,e2,e3,rfl⟩,ba,bb,bc,be,na,nb,nc,h2⟩
theorem ahH{a b c:Rat}{i j k:Nat}[ba:Bd a i][bb:Bd b j][bc:Bd c k](hi:i<=2000)(hj:j<=2000)(hk:k<=2000)(na:0<=a)(nb:0<=b)(nc:0<=c):n3P (ao a) (ao b) (ao c):=
 ⟨anf (okd hi (by decide)),anf (okd hj (by decide)),anf (okd hk (by decide)),by rwa [cC],by rwa [cC],by rwa [cC]⟩
theorem agV{a b c e:Rat}{i j k l:Nat}[ba:Bd a i][bb:Bd b j][bc:Bd c k][be:Bd e l](hi:i<=2000)(hj:j<=2000)(hk:k<=2000)(hl:l<=2000)(na:0<=a)(nb:0<=b)(nc:0<=c)(ne:0<=e):n4P (ao a) (ao b) (ao c) (ao e):=
 ⟨ahH hi hj hk na nb nc,anf (okd hl (by decide)),by rwa [cC]⟩
theorem Ta{a b c e:Rat}{i j k l:Nat}[ba:Bd a i][bb:Bd b j][bc:Bd c k][be:Bd e l](hi:i<=2000)(hj:j<=2000)(hk:k<=2000)(hl:l<=2000)(na:0<=a)(nb:0<=b)(nc:0<=c)(ne:0<=e):decide (n4P (ao a) (ao b) (ao c) (ao e))=true:=anb (agV hi hj hk hl na nb nc ne)
def Ie(s a:BCU):Prop:=mG s/\mG a/\s.1=false/\a.1=true
instance (s a:BCU):Decidable (Ie s a):=by unfold Ie;infer_instance
def Tt(c d:BCU):Prop:=mG c/\mG d/\c.1=true/\d.1=true
instance (c d:BCU):Decidable (Tt c d):=by unfold Tt;infer_instance
def iG(c d:BCU)(r:Rat):Int:=Lv (decide (((je c d).length:Int)>0)||sV c d) (jv (dC c) (dC d) r) r
namespace RE
theorem ta{a b:RE}(ha:0<=a)(hb:0<=b):sg (a*a-b*b)=sg (a-b):=by
 have e:a*a-b*b=(a+b)*(a-b):=by grind
 rcases cJ (show 0<=a+b by grind)with h|h
 ·rw[e,gZ h]
 ·rw[show a=0 by grind,show b=0 by grind,zero_mul]
theorem acM(x:RE){r:RE}(hr:0<=r):max (sg (x-r)) (sg (-x-r))=sg (x*x-r*r):=by
 rcases lt_or_ge x 0 with h|h
 ·have:=ta (show 0<= -x by grind) hr;rw[show x*x= -x* -x by grind,this,Int.max_eq_right (fZ (by grind))]
 ·rw[ta h hr,Int.max_eq_left (fZ (by grind))]
theorem U0{x:RE}(h:x<=0){r:RE}(hr:0<=r):sg (-x-r)=sg (x*x-r*r):=by
 rw[<-ta (show 0<= -x by grind) hr,show-x* -x=x*x by grind]
theorem yZ{d p q r:Rat}(hd:0<=d)(hp:0<=p)(hq:0<=q)(hr:0<=r):pG d p q r=sg (rq d-rq p-rq q-of r):=by
 have a:=dE hd;have b:=dE hp;have c:=dE hq;have t:=gS p;have u:=gS q;have w:=gr.2 hr;unfold pG
 rw[Ax hp hq,show rq d-rq p-rq q-of r=rq d-(rq p+rq q+of r) by grind,<-ta (gS d) (show 0<=rq p+rq q+of r by
  have:of 0=0:=rfl;grind)]
 refine congrArg sg ?_;unfold vq vQ;have two:of (-2)= -2:=rfl;simp only[of_sub,aC,two];grind
theorem HG{x y z r:Rat}(hx:0<=x)(hy:0<=y)(hz:0<=z)(hr:0<=r):sS x y z r=sg (rq x+rq y-rq z-of r):=by
 have a:=dE hx;have b:=dE hy;have c:=dE hz;have t:=gS x;have u:=gS y;have v:=gS z;have w:0<=of r:=gr.2 hr;unfold sS;rw[Ax (anw hx hy) hz,show rq x+rq y-rq z-of r=rq x+rq y-(rq z+of r) by grind,<-ta (show 0<=rq x+rq y by grind) (show 0<=rq z+of r by grind)];refine congrArg sg ?_;unfold vq vQ;have two:of 2=2:=rfl;have zo:of 0=0:=rfl;simp only[of_sub,of_add,aC,of_neg,two,zo,yX hx hy];grind
theorem ac0{a b c d:Rat}(ha:0<=a)(hb:0<=b)(hc:0<=c)(hd:0<=d):XL a b c d=sg (rq a+rq b-rq c-rq d):=by
 have e1:=dE ha;have e2:=dE hb;have e3:=dE hc;have e4:=dE hd;have t:=gS a;have u:=gS b;have v:=gS c;have w:=gS d;unfold XL;rw[Ax (anw ha hb) (anw hc hd),show rq a+rq b-rq c-rq d=rq a+rq b-(rq c+rq d) by grind,<-ta (show 0<=rq a+rq b by grind) (show 0<=rq c+rq d by grind)];refine congrArg sg ?_;unfold vq vQ;have two:of 2=2:=rfl;have mtwo:of (-2)= -2:=rfl;have zo:of 0=0:=rfl;simp only[of_sub,of_add,two,mtwo,zo,yX ha hb,yX hc hd];grind
theorem UK{r:Rat}(hr:0<=r):rq (r*r)=of r:=Ex _ _ (gS _) (gr.2 hr) (by rw[dE (anw hr hr),aC])
theorem tW{a b c r:Rat}(ha:0<=a)(hb:0<=b)(hc:0<=c)(hr:0<=r):tC a b c r=sg ((rq a+rq b-rq c)*(rq a+rq b-rq c)-of r*of r):=by
 have w:0<=of r:=gr.2 hr;have zo:of 0=0:=rfl;unfold tC;rw[yZ hc ha hb (by decide),zo];rcases bj (rq c-rq a-rq b-0)with⟨h,e⟩|⟨h,e⟩|⟨h,e⟩<;>rw[e]
 ·show pG c a b r=_;rw[yZ hc ha hb hr,<-U0 (show rq a+rq b-rq c<=0 by grind) w];exact congrArg sg (by grind)
 all_goals
  show XL a b c (r*r)=_;rw[ac0 ha hb hc (anw hr hr),UK hr,ta (show 0<=rq a+rq b-rq c by grind) w]
theorem GR{a b c r:Rat}(ha:0<=a)(hb:0<=b)(hc:0<=c)(hr:0<=r):max (pG c a b r) (sS a b c r)=tC a b c r:=by
 rw[yZ hc ha hb hr,HG ha hb hc hr,tW ha hb hc hr,<-acM _ (gr.2 hr),Int.max_comm];exact congrArg (max _) (congrArg sg (by grind))
end RE
section
open RE
theorem Is{s a:BCU}(hs:vo s)(ha:vo a)(e:s.1=false)(e':a.1=true):Bd (ftv (dC s) (dC a)) 200:=by
 obtain⟨bl,_⟩:=(kM hs).2 e;obtain⟨bc,_⟩:=(kM ha).1 e';have x1:Bd (ou (lnC (dC s)) (ctr (ciC (dC a)))) _:=(inferInstance:Bd (((lnC (dC s)).1*(ciC (dC a)).1+(lnC (dC s)).2.1*(ciC (dC a)).2.1-(lnC (dC s)).2.2)/((lnC (dC s)).1*(lnC (dC s)).1+(lnC (dC s)).2.1*(lnC (dC s)).2.1)) _)
 exact(inferInstance:Bd (((ciC (dC a)).1-ou (lnC (dC s)) (ctr (ciC (dC a)))*(lnC (dC s)).1,(ciC (dC a)).2.1-ou (lnC (dC s)) (ctr (ciC (dC a)))*(lnC (dC s)).2.1):Rat×Rat) _).mono (by decide)
theorem Hn(x:RE):sg x<=1:=(aa7 x).2
theorem acm{c:Cv}(h:GdE c){p q:PE}(hq:onE c q){r:Rat}(hr:0<=r):poiE c p r<=sg (dsE q p-of (r*r)):=by
 obtain⟨m,hm,e⟩:=IM h p;rw[e r hr];exact fZ (gD _ _ _ (hm.2 q hq))
theorem sd{c:Cv}(h:GdE c):onE c (pR (frC c))/\onE c (pR (toC c)):=by
 cases ha:c.1
 ·obtain⟨_,oF,oT⟩:=h.l ha;rw[jQ ha];exact⟨⟨oF,by unfold btE;grind⟩,⟨oT,by unfold btE;grind⟩⟩
 ·have g:=vK h ha;rw[ij ha];have u:RE.arcE (ciC c) (pR (ccF c)) (pR (ccT c)) (pR (ccF c)):=⟨g.u,(gP _ _).1⟩
  have w:RE.arcE (ciC c) (pR (ccF c)) (pR (ccT c)) (pR (ccT c)):=⟨g.w,(gP _ _).2⟩
  rcases mf c with⟨g1,g2⟩|⟨g1,g2⟩<;>rw[g1,g2]at u w ⊢
  ·exact⟨u,w⟩
  ·exact⟨w,u⟩
theorem TF{c:BCU}(h:gdN c){v:Rat×Rat}(hv:Bd v 200){r:Rat}(hr:0<=r):vF (dC c) v r=sg (vR (pg (dC c) v)-of (r*r)):=by
 unfold vF;rw[dF (show ¬r<0 by grind),cond_false,cmpTR_re (DK (bv:=hv) h.1.1).2.nn]
theorem amd{u w:PE}{a b:RE}(ha:0<=a)(hb:0<=b)(hu:dtE u u=a*a)(hw:dtE w w=b*b):dtE (u.1+w.1,u.2+w.2) (u.1+w.1,u.2+w.2)<=(a+b)*(a+b):=by
 have h1:=B3 u.1 u.2 w.1 w.2;have h2:=c9 (u.1*w.2-u.2*w.1);have h3:u.1*u.1+u.2*u.2=a*a:=hu;have h4:w.1*w.1+w.2*w.2=b*b:=hw
 have h5:u.1*w.1+u.2*w.2<=a*b:=by
  rw[h3,h4]at h1;rcases lt_or_ge 0 (u.1*w.1+u.2*w.2)with g|g
  ·exact uP _ _ (le_of_lt g) (aD ha hb) (by grind)
  ·have:=aD ha hb;grind
 show(_+_)*(_+_)+(_+_)*(_+_)<=_;grind
theorem WT(u:PE):∃a,0<=a/\dtE u u=a*a:=by
 have:0<=dtE u u:=by
  have h1:=c9 u.1;have h2:=c9 u.2;unfold dtE;grind
 exact⟨_,eV _,(jo this).symm⟩
theorem U5{c d:BCU}(hc:gdN c)(hd:gdN d)(h:je c d=[]):sV c d=false:=by
 cases hN:sV c d
 ·rfl
 ·exfalso;unfold sV at hN;obtain⟨hs,ho⟩:=anm.1 hN;rw[h]at ho;have ho:([eG c c.2.2.2.2.1 c.2.2.2.2.2].any (FX d))=true:=ho
  have h1:onP (dC d) (dec c.2.2.2.2.1)=true:=by
   simp only[aqj,List.any_nil,Bool.or_false]at ho;unfold FX at ho;exact(anm.1 (anm.1 ho).1).1
  have r:Rpd (dec c.2.2.2.2.1:Pt):=hc.crp.f.1;have hx:c.2.2.2.2.1∈mA c d:=by unfold mA;rw[hs];simp
  have k:=Jt hc hd r (G5 hc).1 (by rw[<-gj hd.crp r];exact h1);obtain⟨y,hy,_⟩:=(IS hc.crp hc.ne (Qy hc hd)).2 _ (aqi.2 ⟨hx,k⟩);have hy:y∈je c d:=hy;rw[h]at hy;cases hy
end
end Go.Proofs.YtagbmoohboleaaaGreat
end
