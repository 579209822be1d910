/- The answer for a point's distance is about the least square of all distances. -/
import Derived.Test.YtnkndpoojnflmaaGreatE15
import Derived.Test.YtnkndpoojnflmaaGreatE13
noncomputable section
namespace Go.Proofs.YtnkndpoojnflmaaGreat
open Go.RowKit Go.IntKind
theorem an9:type_of% @List.mem_filter:=@List.mem_filter
theorem aoa:type_of% @List.any_cons:=@List.any_cons
section
namespace RE
theorem aab{c:Cv}(ha:c.1=false):onE c=lV (lnC c) (pR (frC c)) (pR (toC c)):=by funext p;unfold onE;rw[ha];rfl
theorem ZN{c:Cv}(ha:c.1=true):onE c=lS (ciC c) (pR (ccF c)) (pR (ccT c)):=by funext p;unfold onE;rw[alx ha]
structure aiZ (c:Cv):Prop where
 q:0<(ciC c).2.2
 u:fW (ciC c) (pR (ccF c))
 w:fW (ciC c) (pR (ccT c))
 ne:frm (ciC c) (pR (ccF c))≠frm (ciC c) (pR (ccT c))
theorem aiX{c:Cv}(h:GdE c)(ha:c.1=true):aiZ c:=by
 have hf:=h.f
 have ht:=h.t
 obtain⟨hq,oF,oT⟩:=h.q ha
 have oF:fW (ciC c) (pR (frC c)):=oF
 have oT:fW (ciC c) (pR (toC c)):=oT
 refine⟨hq,by rcases pE c with⟨e,_⟩|⟨e,_⟩<;>rw[e]<;>assumption,by rcases pE c with⟨_,e⟩|⟨_,e⟩<;>rw[e]<;>assumption,fun e=>?_⟩
 have e1:pR (ccF c)=pR (ccT c):=amp (gI _ _ _ (congrArg Prod.fst e)) (gI _ _ _ (congrArg Prod.snd e))
 rcases pE c with⟨g1,g2⟩|⟨g1,g2⟩<;>rw[g1,g2]at e1
 ·exact h.ne e1
 ·exact h.ne e1.symm
theorem EP(c:Ln)(p:PE):dtE (frm c p) (frm c p)=dsE p (vE (ctr c)):=rfl
theorem afP(p q:PE):0≤dsE p q:=by
 have h1:=gn (p.1-q.1)
 have h2:=gn (p.2-q.2)
 unfold dsE
 grind
theorem ac6{c:Ln}(hq:0<c.2.2){p:PE}(hp:p≠vE (ctr c)):∃u k q,0<u∧0<k∧u*u=dsE p (vE (ctr c))∧frm c q=((frm c p).1*k,(frm c p).2*k)∧fW c q∧dtE (frm c q) (frm c p)=u*rq c.2.2:=by
 have hn:=afP p (vE (ctr c))
 have h0:dsE p (vE (ctr c))≠0:=fun e=>by
  obtain⟨a,b⟩:=tk e
  exact hp (amp (by grind) (by grind))
 have hu:=vW hn
 have hu0:=lk (dsE p (vE (ctr c)))
 generalize vt (dsE p (vE (ctr c)))=u at hu hu0
 have up:0<u:=by
  rcases fO hu0 with h|h
  ·exact h
  ·exact absurd (by rw[←hu,h,zero_mul]) h0
 obtain⟨k,kp,ek⟩:=ME up
 have tp:=IM hq
 have tt:=dw (m:=c.2.2) (by grind)
 have hd:dtE (frm c p) (frm c p)=u*u:=by rw[EP,hu]
 unfold dtE at hd
 refine⟨u,rq c.2.2*k,((frm c p).1*(rq c.2.2*k)+of c.1,(frm c p).2*(rq c.2.2*k)+of c.2.1),up,mul_pos tp kp,hu,?_,?_,?_⟩
 ·exact amp (by show _+_-_=_;grind) (by show _+_-_=_;grind)
 ·show(_+_-_)*(_+_-_)+(_+_-_)*(_+_-_)=_
  generalize (frm c p).1=a at hd ⊢
  generalize (frm c p).2=b at hd ⊢
  generalize rq c.2.2=t at tt ⊢
  have:(a*(t*k))*(a*(t*k))+(b*(t*k))*(b*(t*k))=(a*a+b*b)*(k*k)*(t*t):=by grind
  have e2:u*u*(k*k)=1:=by
   have:u*u*(k*k)=(u*k)*(u*k):=by grind
   rw[this,ek,one_mul]
  rw[hd,e2,tt]at this
  grind
 ·show(_+_-_)*_+(_+_-_)*_=_
  generalize (frm c p).1=a at hd ⊢
  generalize (frm c p).2=b at hd ⊢
  generalize rq c.2.2=t at tt ⊢
  have:(a*(t*k))*a+(b*(t*k))*b=(a*a+b*b)*(k*t):=by grind
  have e2:u*u*(k*t)=u*t*(u*k):=by grind
  rw[hd,e2,ek]at this
  grind
theorem aff{c:Ln}{q p:PE}{u:RE}(hq:0≤c.2.2)(o:fW c q)(hu:0≤u)(e:u*u=dsE p (vE (ctr c))):dtE (frm c q) (frm c p)≤u*rq c.2.2:=by
 have h1:=Fd (frm c q).1 (frm c q).2 (frm c p).1 (frm c p).2
 have h2:(frm c q).1*(frm c q).1+(frm c q).2*(frm c q).2=of c.2.2:=o
 have h3:(frm c p).1*(frm c p).1+(frm c p).2*(frm c p).2=u*u:=by rw[e];rfl
 have tt:=dw hq
 have t0:=gj c.2.2
 rw[h2,h3,←tt]at h1
 have h4:=Eh _ _ _ h1
 rcases lt_or_ge 0 (dtE (frm c q) (frm c p))with g|g
 ·exact zp _ _ (le_of_lt g) (a9 hu t0) (by
   show dtE _ _*dtE _ _≤_
   unfold dtE
   grind)
 ·exact WB _ _ g (a9 hu t0)
open Classical in
theorem Bp{c:Cv}(h:GdE c)(p:PE):∃m,Mn (onE c) p m∧∀r:Rat,0≤r→poiE c p r=sg (m-of (r*r)):=by
 have hf:=h.f
 have ht:=h.t
 have hend:∀r,Ky c p r=sg (mnE (dsE (pR (frC c)) p) (dsE (pR (toC c)) p)-of (r*r)):=fun r=>Nz _ _ _
 cases ha:c.1
 ·obtain⟨hl,oF,oT⟩:=h.l ha
  have hn:0<nrE (lnC c):=B3 hl
  rw[aab ha]
  by_cases hb:btE (tE (lnC c) (pR (frC c))) (tE (lnC c) (pR (toC c))) (tE (lnC c) p)
  ·obtain⟨k,kp,ek⟩:=ME hn
   refine⟨_,vO hn hb kp ek,fun r hr=>?_⟩
   unfold poiE besE
   rw[dF (show ¬r<0 by grind),dT hb,ha]
   show sg _=_
   rw[←mR hn (_-of (r*r)),aH (r*r),PR,ek,mul_one]
   rfl
  ·refine⟨_,Ia hn oF oT hb,fun r hr=>?_⟩
   unfold poiE besE
   rw[dF (show ¬r<0 by grind),dF hb,ha]
   exact hend r
 ·have g:=aiX h ha
  have hq:=g.q
  rw[ZN ha]
  by_cases hz:p=vE (ctr (ciC c))
  ·refine⟨of (ciC c).2.2,⟨⟨_,⟨g.u,(pB _ _).1⟩,by rw[hz];exact g.u⟩,fun q hq=>by rw[hz];exact lh hq.1⟩,fun r hr=>?_⟩
   unfold poiE
   rw[dF (show ¬r<0 by grind),dT hz,ha]
   show aC _ _=_
   rw[←of_sub,sg_of]
   unfold aC
   grind
  ·obtain⟨u,k,q,up,kp,eu,eq,oq,dq⟩:=ac6 hq hz
   have tt:=dw (m:=(ciC c).2.2) (by grind)
   cases hw:witE c p
   ·refine⟨mnE (dsE (pR (frC c)) p) (dsE (pR (toC c)) p),?_,fun r hr=>?_⟩
    ·have hd:¬mj (frm (ciC c) (pR (ccF c))) (frm (ciC c) (pR (ccT c))) (frm (ciC c) p)=true:=fun e=>by
      unfold witE at hw
      rw[e]at hw
      cases hw
     have res:=Aj (v:=p) (S:=lS (ciC c) (pR (ccF c)) (pR (ccT c))) ⟨g.u,(pB _ _).1⟩ ⟨g.w,(pB _ _).2⟩ (fun x hx=>(HG g.u g.w hx.1 g.ne hx.2 hd).imp (AO hx.1 g.u) (AO hx.1 g.w))
     rcases pE c with⟨g1,g2⟩|⟨g1,g2⟩
     ·rw[g1,g2]at res ⊢
      exact res
     ·rw[g1,g2]at res ⊢
      rw[DS]
      exact res
    ·unfold poiE
     rw[dF (show ¬r<0 by grind),dF hz,ha,hw]
     exact hend r
   ·refine⟨u*u+of (ciC c).2.2-(u*rq (ciC c).2.2+u*rq (ciC c).2.2),⟨⟨q,⟨oq,?_⟩,?_⟩,fun x hx=>?_⟩,fun r hr=>?_⟩
    ·rw[eq,Ab _ _ _ kp]
     exact hw
    ·rw[rU oq,dq,EP,←eu,add_comm (of _)]
    ·rw[rU hx.1,EP,←eu,add_comm (of (ciC c).2.2)]
     exact ND _ _ _ _ (aff (by grind) hx.1 (le_of_lt up) eu)
    ·unfold poiE
     rw[dF (show ¬r<0 by grind),dF hz,ha,hw,←H3 up hq rfl hr,eu]
     rfl
end RE
end
section
def vo(x u y v k:Rat):Pt:=mkP (mkR x u k) (mkR y v k)
def ftL(l c:Ln):Rat×Rat:=(ftX l c,ftY l c)
def yg(l c:Ln):Rat:=(ftX l c-c.1)*(ftX l c-c.1)+(ftY l c-c.2.1)*(ftY l c-c.2.1)
def eh(l c:Ln):Rat:=(c.2.2-yg l c)/ck l
def Gw(l:Ln):Bool:=decide (l.2.1<0)||(decide (l.2.1=0)&&decide (-l.1<0))
def qA(l:Ln):Rat:=bif Gw l then-l.2.1 else l.2.1
def qD(l:Ln):Rat:=bif Gw l then- -l.1 else-l.1
def lcM(l c:Ln):Pt:=vo (ftX l c) (-qA l) (ftY l c) (-qD l) (eh l c)
def lcN(l c:Ln):Pt:=vo (ftX l c) (qA l) (ftY l c) (qD l) (eh l c)
def kE(l c:Ln):List Pt:=bif decide (eh l c<0)then []else bif decide (eh l c=0)then [atP (ftL l c)]else [lcM l c,lcN l c]
def Ls(l m:Ln):Int:=bif !decide (ef l m=0)then 0 else bif oR l m then 10 else 0
def uO(c d:Ln):List Pt:=bif ij c d then []else kE (mr c d) c
def Sd(c d:Ln):Int:=bif rP c d then 10 else 0
def gK(a b:Cv):List Pt:=bif a.1&&b.1 then uO (ciC a) (ciC b)else bif a.1 then kE (lnC b) (ciC a)else bif b.1 then kE (lnC a) (ciC b)else mp (lnC a) (lnC b)
def ahj(a b:Cv):Int:=bif a.1&&b.1 then Sd (ciC a) (ciC b)else bif a.1 then 0 else bif b.1 then 0 else Ls (lnC a) (lnC b)
theorem Vk(l c:Ln):d7 l (c.1,c.2.1)=ftL l c:=rfl
theorem Ri{x u y v k:Rat}[h:Nn k]:Rpd (vo x u y v k):=Yy sO sO (qq _ _ _ _ _)
section
variable {l c:Ln}
theorem abu [BdL l]:Bd (qA l) 12∧Bd (qD l) 12:=by
 unfold qA qD
 cases Gw l
 ·exact⟨(inferInstance:Bd l.2.1 12),(inferInstance:Bd (-l.1) 12)⟩
 ·exact⟨(inferInstance:Bd (-l.2.1) 12),(inferInstance:Bd (- -l.1) 12)⟩
end
theorem RM{x u y v k:Rat}{a b c:Nat}(h1:Bd x a)(h2:Bd u b)(h3:Bd y a)(h4:Bd v b)(h5:Bd k c){n:Nat}(hn:a+(b+c)+1≤n):Bd (vo x u y v k) n:=by
 have z:bdR n 0:=bJ ls.le (by omega)
 have i1:Bd (mkR x u k) (a+(b+c)+1):=inferInstance
 have i2:Bd (mkR y v k) (a+(b+c)+1):=inferInstance
 have f1:=i1.mono hn
 have f2:=i2.mono hn
 refine⟨?_⟩
 unfold vo mkP rdP
 dsimp only
 refine⟨f1.le.1,f1.le.2.1,f2.le.1,f2.le.2.1,?_⟩
 cases decide ((mkR x u k).2.1=0)&&decide ((mkR y v k).2.1=0)
 ·cases decide ((mkR x u k).2.1=0)
  ·exact f1.le.2.2
  ·exact f2.le.2.2
 ·exact z
section
variable {l c:Ln}
theorem P5 [BdL l][h:BdC c]:Bd (eh l c) 1000:=by
 obtain⟨f1,f2,_,_⟩:=uG (l:=l) (c:=c)
 have hx:=h.x
 have hy:=h.y
 have hq:=h.q
 have i1:Bd (ck l) 49:=inferInstanceAs (Bd (l.1*l.1+l.2.1*l.2.1) _)
 have i2:Bd (yg l c) 673:=(inferInstance:Bd ((ftX l c-c.1)*(ftX l c-c.1)+(ftY l c-c.2.1)*(ftY l c-c.2.1)) _).mono (by decide)
 exact(inferInstance:Bd ((c.2.2-yg l c)/ck l) _).mono (by decide)
theorem Fz [BdL l][h:BdC c]:Bd (ftL l c) 163:=by
 obtain⟨f1,f2,_,_⟩:=uG (l:=l) (c:=c)
 exact(inferInstance:Bd ((ftX l c,ftY l c):Rat×Rat) _).mono (by decide)
theorem Z0 [BdL l][BdC c]:Bd (lcM l c) 1200∧Bd (lcN l c) 1200:=by
 obtain⟨f1,f2,_,_⟩:=uG (l:=l) (c:=c)
 obtain⟨d1,d2⟩:=abu (l:=l)
 have k:=P5 (l:=l) (c:=c)
 have n1:Bd (-qA l) 12:=inferInstance
 have n2:Bd (-qD l) 12:=inferInstance
 exact⟨RM f1 n1 f2 n2 k (by decide),RM f1 d1 f2 d2 k (by decide)⟩
theorem tY [BdL l][BdC c]:(kE l c).length≤2∧∀p∈kE l c,Bd p 1200∧Rpd p:=by
 unfold kE
 by_cases h0:eh l c<0
 ·rw[ak3 h0]
  exact⟨by simp,fun p hp=>by cases hp⟩
 ·rw[ak5 h0]
  by_cases h1:eh l c=0
  ·rw[ak3 h1]
   have:=Fz (l:=l) (c:=c)
   refine⟨by simp,fun p hp=>?_⟩
   have:p=atP (ftL l c):=by simpa using hp
   rw[this]
   exact⟨(inferInstance:Bd (atP (ftL l c)) _).mono (by decide),inferInstance⟩
  ·rw[ak5 h1]
   obtain⟨q1,q2⟩:=Z0 (l:=l) (c:=c)
   have nn:Nn (eh l c):=⟨by grind⟩
   refine⟨by simp,fun p hp=>?_⟩
   have:p=lcM l c∨p=lcN l c:=by simpa using hp
   rcases this with e|e<;>rw[e]
   ·exact⟨q1,Ri⟩
   ·exact⟨q2,Ri⟩
end
end
section
namespace RE
theorem ajv(A B x y u v s:RE):A*(x+u*s)+B*(y+v*s)=(A*x+B*y)+(A*u+B*v)*s:=by grind
theorem ai8(x y u v s p q:RE):(x+u*s-p)*(x+u*s-p)+(y+v*s-q)*(y+v*s-q)=((x-p)*(x-p)+(y-q)*(y-q))+((x-p)*u+(y-q)*v)*s+((x-p)*u+(y-q)*v)*s+(u*u+v*v)*(s*s):=by grind
theorem akm(b n r:RE):b*(r*n)=b*n*r:=by grind
theorem aju(r n:RE):r*n*(r*n)=r*r*(n*n):=by grind
theorem akd(x y p q a b m n:RE):(x-a)*(x-a)+(y-b)*(y-b)=((x-p)*(x-p)+(y-q)*(y-q))+(a*a+b*b-m)-(p*p+q*q-n)-((1+1)*(a-p)*x+(1+1)*(b-q)*y)+(m-n):=by grind
theorem akt(a b n m:RE):n+a-b-(a-b)+(m-n)=m:=by grind
theorem oJ(x u y v k:Rat):pR (vo x u y v k)=(v2 x u k,v2 y v k):=by
 unfold vo
 rw[Zc (qq _ _ _ _ _),vR_mk,vR_mk]
section
variable {l c:Ln}
theorem Hv(hl:l.1≠0∨l.2.1≠0):0<ck l:=by
 have h:=m9 hl
 have h1:0≤ck l:=lX (l.1,l.2.1)
 grind
theorem GF(hl:l.1≠0∨l.2.1≠0):eh l c*(ck l*ck l)=ju l c:=by
 have hn:=m9 hl
 have t:vlL l c.1 c.2.1/ck l*ck l=vlL l c.1 c.2.1:=als hn
 have k:(c.2.2-yg l c)/ck l*ck l=c.2.2-yg l c:=als hn
 unfold eh
 rw[←Rat.mul_assoc,k]
 unfold yg ftX ftY ju
 generalize vlL l c.1 c.2.1/ck l=s at*
 rw[←t]
 unfold ck
 grind
theorem abg(hl:l.1≠0∨l.2.1≠0):(eh l c<0↔ju l c<0)∧(eh l c=0↔ju l c=0):=by
 have hn:=Hv hl
 have h2:0<ck l*ck l:=alv hn hn
 have e:=GF (c:=c) hl
 rcases(by grind:eh l c<0∨eh l c=0∨0<eh l c)with h|h|h
 ·have:=alv (show 0< -eh l c by grind) h2
  have e2: -eh l c*(ck l*ck l)= -ju l c:=by rw[Rat.neg_mul,e]
  rw[e2]at this
  constructor<;>constructor<;>intro<;>grind
 ·rw[h,Rat.zero_mul]at e
  constructor<;>constructor<;>intro<;>grind
 ·have:=alv h h2
  rw[e]at this
  constructor<;>constructor<;>intro<;>grind
theorem acz(hl:l.1≠0∨l.2.1≠0)(h0:0≤eh l c):rq (ju l c)=rq (eh l c)*of (ck l):=by
 have hn:=Hv hl
 have hr:0≤ju l c:=by
  rw[←GF hl]
  exact alp h0 (alp (by grind) (by grind))
 refine C0 _ _ (gj _) (a9 (gj _) (gi.2 (by grind))) ?_
 rw[aju,dw hr,dw h0,←aH,←aH,GF hl]
theorem Bz(hl:l.1≠0∨l.2.1≠0)(h0:0≤eh l c)(a b:Rat):v2 a b (eh l c)=v2 a (b/ck l) (ju l c):=by
 unfold v2
 rw[acz hl h0,akm,←aH,als (m9 hl)]
theorem ndv(a b:Rat): -a/b= -(a/b):=by rw[anM,anM,Rat.neg_mul]
theorem aka(hl:l.1≠0∨l.2.1≠0)(v:PE):(∃p∈kE l c,pR p=v)↔∃p∈rh l c,pR p=v:=by
 obtain⟨s1,s2⟩:=abg (c:=c) hl
 unfold kE rh
 by_cases h0:eh l c<0
 ·rw[ak3 h0,ak3 (s1.1 h0)]
  exact Iff.rfl
 ·rw[ak5 h0,ak5 (fun h=>h0 (s1.2 h))]
  by_cases h1:eh l c=0
  ·rw[ak3 h1,ak3 (s2.1 h1)]
   exact Iff.rfl
  ·rw[ak5 h1,ak5 (fun h=>h1 (s2.2 h))]
   have hp:0≤eh l c:=by grind
   have e:(pR (lcM l c)=pR (r7 l c)∧pR (lcN l c)=pR (ti l c))∨(pR (lcM l c)=pR (ti l c)∧pR (lcN l c)=pR (r7 l c)):=by
    unfold lcM lcN r7 ti
    rw[oJ,oJ,t5,t5,Bz hl hp,Bz hl hp,Bz hl hp,Bz hl hp]
    unfold qA qD
    cases Gw l
    ·left
     simp only[cond_false,ndv,anP,and_self]
    ·right
     simp only[cond_true,ndv,anP,and_self]
   have m2:∀{a b:Pt},(∃p∈[a,b],pR p=v)↔(pR a=v∨pR b=v):=fun{a b}=>by simp
   simp only[cond_false]
   cases decide (aV (r7 l c) (ti l c)>0)
   ·simp only[cond_false]
    rw[m2,m2]
    rcases e with⟨e1,e2⟩|⟨e1,e2⟩<;>rw[e1,e2]
    exact Or.comm
   ·simp only[cond_true]
    rw[m2,m2]
    rcases e with⟨e1,e2⟩|⟨e1,e2⟩<;>rw[e1,e2]
    exact Or.comm
theorem EY(hl:l.1≠0∨l.2.1≠0){u v k:Rat}(hk:0≤k)(h1:l.1*u+l.2.1*v=0)(h2:yg l c+(u*u+v*v)*k=c.2.2):iG l (v2 (ftX l c) u k,v2 (ftY l c) v k)∧fW c (v2 (ftX l c) u k,v2 (ftY l c) v k):=by
 have hn:=m9 hl
 have t:vlL l c.1 c.2.1/ck l*ck l=vlL l c.1 c.2.1:=als hn
 have e1:l.1*ftX l c+l.2.1*ftY l c=l.2.2:=by
  unfold ftX ftY
  generalize vlL l c.1 c.2.1/ck l=s at*
  unfold ck vlL at t
  grind
 have e3:(ftX l c-c.1)*u+(ftY l c-c.2.1)*v=0:=by
  unfold ftX ftY
  generalize vlL l c.1 c.2.1/ck l=s at*
  have:(c.1-s*l.1-c.1)*u+(c.2.1-s*l.2.1-c.2.1)*v= -s*(l.1*u+l.2.1*v):=by grind
  rw[this,h1,Rat.mul_zero]
 unfold iG fW frm v2
 dsimp only
 constructor
 ·rw[ajv,←aH,←aH,←aH,←aH,←of_add,←of_add,e1,h1,nf,zero_mul,add_zero]
 ·rw[ai8,dw hk,←of_sub,←of_sub,←aH,←aH,←aH,←aH,←aH,←aH,←of_add,←of_add,←of_add,e3,nf,zero_mul,add_zero,add_zero,←aH,←of_add]
  exact congrArg of h2
theorem abv(_hl:l.1≠0∨l.2.1≠0):l.1*qA l+l.2.1*qD l=0∧qA l*qA l+qD l*qD l=ck l:=by
 unfold qA qD ck
 cases Gw l
 ·simp only[cond_false];constructor<;>grind
 ·simp only[cond_true];constructor<;>grind
theorem Hu(hl:l.1≠0∨l.2.1≠0){p:Pt}(hp:p∈kE l c):iG l (pR p)∧fW c (pR p):=by
 have hn:=m9 hl
 have k:eh l c*ck l=c.2.2-yg l c:=als hn
 obtain⟨d1,d2⟩:=abv hl
 unfold kE at hp
 by_cases h0:eh l c<0
 ·rw[ak3 h0]at hp
  cases hp
 ·rw[ak5 h0]at hp
  by_cases h1:eh l c=0
  ·rw[ak3 h1]at hp
   have:p=atP (ftL l c):=by simpa using hp
   rw[this,oN]
   have:=EY (c:=c) (u:=0) (v:=0) (k:=0) hl (by decide) (by grind) (by rw[h1]at k;grind)
   rw[dP,dP]at this
   exact this
  ·rw[ak5 h1]at hp
   have hk:0≤eh l c:=by grind
   have:p=lcM l c∨p=lcN l c:=by simpa using hp
   rcases this with e|e
   ·rw[e]
    unfold lcM
    rw[oJ]
    refine EY hl hk (by grind) ?_
    rw[show-qA l* -qA l+ -qD l* -qD l=ck l by rw[←d2];grind,amq,k]
    grind
   ·rw[e]
    unfold lcN
    rw[oJ]
    refine EY hl hk d1 ?_
    rw[d2,amq,k]
    grind
end
theorem Nx{c d:Ln}{v:PE}(hl:iG (mr c d) v)(hc:fW c v):fW d v:=by
 unfold iG mr qC at hl
 unfold fW frm at*
 dsimp only at*
 have o2:of 2=1+1:=by
  rw[←Bf,←of_add]
  exact congrArg of (by decide+kernel)
 rw[akd v.1 v.2 (of c.1) (of c.2.1) (of d.1) (of d.2.1) (of d.2.2) (of c.2.2),hc]
 simp only[of_sub,aH,of_add,o2]at hl
 rw[hl,akt]
theorem aae{l m:Ln}{p:Pt}(hp:p∈mp l m):iG l (pR p)∧iG m (pR p):=by
 unfold mp at hp
 by_cases h0:ef l m=0
 ·rw[ak3 h0]at hp
  cases hp
 ·rw[ak5 h0]at hp
  have:p=atP (lU l m/ef l m,lN l m/ef l m):=by simpa using hp
  rw[this,oN]
  have ex:lU l m/ef l m*ef l m=lU l m:=als h0
  have ey:lN l m/ef l m*ef l m=lN l m:=als h0
  have key:∀a b q:Rat,a*lU l m+b*lN l m=q*ef l m→a*(lU l m/ef l m)+b*(lN l m/ef l m)=q:=fun a b q e=>by
   generalize lU l m/ef l m=x at*
   generalize lN l m/ef l m=y at*
   rw[←ex,←ey]at e
   have:(a*x+b*y-q)*ef l m=0:=by grind
   rcases ano.1 this with h|h
   ·grind
   ·exact absurd h h0
  unfold iG
  rw[←aH,←aH,←of_add,←aH,←aH,←of_add,key l.1 l.2.1 l.2.2 (by unfold lU lN ef;grind),key m.1 m.2.1 m.2.2 (by unfold lU lN ef;grind)]
  exact⟨rfl,rfl⟩
end RE
end
def lj(c:BCU)(l:List BCU):List BP:=(l.map (tX c)).flatten
def yM(x:Pce):Prop:=AC x.1∧AC x.2.1∧u8P x.2.2
instance (x:Pce):Decidable (yM x):=by unfold yM;infer_instance
def Ff(x:Pce):List BCU:=match ofL x.1 with
 |[]=>[]
 |c::_=>kZ c (lj c (ofL x.2.1))
def yE(x:Pce):Bool:=!(ofL x.1).isEmpty
def eD(x:Pce):BCU:=bif yE x then(Ff x).getD (x.2.2%((Ff x).length:Int)).toNat c00 else c00
def Wr:List En:=[enL af3,enL adD,enK ag5]
def VT:NT:=[((11,18),{keep:=[1,2,4,5,6,7],own:=[(6,37,tP)],hl:=3})]
def EE:Ctx:=CX (ens Wr) VT
def tb(x:Pce)(s7:Int)(r2:List BP):Cfg:=⟨11,[.blk 0,.seq 31],[(1,.box 0 0),(2,.box 1 0),(4,.d (.sl tCU) (ofL x.1)),(5,.d (.sl tCU) (ofL x.2.1)),(6,.own 2),(7,SI s7)],[.box 26 [.d (.int .u8) x.1.1,.d (.int .u8) x.1.2.1,.d (.int .i8) x.1.2.2.1,.d (.int .i8) x.1.2.2.2.1,.d (.int .i8) x.1.2.2.2.2.1,.d (.int .i8) x.1.2.2.2.2.2.1,.d (.int .i8) x.1.2.2.2.2.2.2.1,.d (.int .i8) x.1.2.2.2.2.2.2.2,.d (.int .u8) x.2.1.1,.d (.int .u8) x.2.1.2.1,.d (.int .i8) x.2.1.2.2.1,.d (.int .i8) x.2.1.2.2.2.1,.d (.int .i8) x.2.1.2.2.2.2.1,.d (.int .i8) x.2.1.2.2.2.2.2.1,.d (.int .i8) x.2.1.2.2.2.2.2.2.1,.d (.int .i8) x.2.1.2.2.2.2.2.2.2,.d (.int .u8) x.2.2],.box 39 [SB false,SB false,.nil,SB false,.nil,SB false,.nil,SB false,.nil,SB false,.nil,SB false,.nil,SB false,.nil,SB false,.nil,SB false,.nil,SB false,.nil,SB false,.nil,SB false,.nil,SB false,SB false,.nil,SB false,.nil,SB false,.nil,SB false,.nil,SB false,.nil,SB false,.nil,SB false,.nil,SB false,.nil,SB false,.nil,SB false,.nil,SB false,.nil,SB false,.nil,SB false,.nil,SB false,.nil,SB false,.nil,SB false,.nil,SB false,.nil,SB false,.nil,SB false,.nil,SB false,.nil],.row 37 tP r2],0,[]⟩
def MO(x:Pce)(k:KT):Option (List RV):=og (decide (AC x.1)) (og (decide (AC x.2.1)) (match((ofL x.1).length:Int)==0 with|true=>some [RV.d tCU (false,((((false,[]),(false,[])),(((false,[]),(false,[])),((false,[]),(false,[])))),((((false,[]),(false,[])),(((false,[]),(false,[])),((false,[]),(false,[])))),(false,((((false,[]),(false,[])),(((false,[]),(false,[])),(((false,[]),(false,[])),(((false,[]),(false,[])),((false,[]),(false,[])))))),(((false,[]),(false,[])),(((false,[]),(false,[])),(((false,[]),(false,[])),(((false,[]),(false,[])),((false,[]),(false,[]))))))))))),RV.d .bool false]|false=>k 18 (tb x 0 ([]))))
theorem aal(x:Pce):RS EE 11 [.d xX x] (MO x):=rsX
def qO(x:Pce)(s7:Int)(r2:List BP)(k:KT):Option (List RV):=match decide (s7<((ofL x.2.1).length:Int))with|true=>(match aR (ofL x.1) 0 with|some x1=>(match aR (ofL x.2.1) s7 with|some x2=>(og (decide (fA x1 x2)) (og (decide ((r2.length+(tX x1 x2).length)*320≤140737488355328∧r2.length+(tX x1 x2).length≤140737488355328)) (k 18 (tb x (i64.wrap (s7+1)) (r2++(tX x1 x2))))))|none=>none)|none=>none)|false=>(match aR (ofL x.1) 0 with|some x1=>(og (decide (ES x1 r2)) (match decide (((kZ x1 r2).length:Int)=(0:Int))with|true=>none|false=>(match aR (kZ x1 r2) (Int.tmod (i64.wrap x.2.2) ((kZ x1 r2).length:Int))with|some x2=>some [RV.d tCU x2,RV.d .bool true]|none=>none)))|none=>none)
theorem yo(x:Pce)(s7:Int)(r2:List BP):RN EE 18 (tb x s7 r2) (qO x s7 r2):=rnX
theorem HL{c d:BCU}(h:fA c d):(tX c d).length≤4∧∀x∈tX c d,okP 500 x∧onR (dC c) (dec x)=true∧onR (dC d) (dec x)=true:=by
 obtain⟨h1,h2⟩:=If h
 unfold tX aaM
 have h3:=vU (dC c) ((Dx c d).filter fun p=>onR (dC c) (dec p)&&onR (dC d) (dec p)) []
 have h4:=List.length_filter_le (fun p=>onR (dC c) (dec p)&&onR (dC d) (dec p)) (Dx c d)
 refine⟨by
  unfold iE
  rw[List.length_nil,alI]at h3
  exact alg h3 (alg h4 h1),HM fun x hx=>?_⟩
 obtain⟨g1,g2⟩:=an9.1 hx
 obtain⟨g3,g4⟩:=ale.1 g2
 exact⟨h2 x g1,g3,g4⟩
theorem Rr(c:Cv)(x:BP):∀r:List BP,r.length≤(iH c r x).length
 |[]=>by simp
 |z::r=>by
  have:=Rr c x r
  simp only[iH]
  cases decide (df c (dec z) (dec x)<0)
  ·cases aV (dec z) (dec x)==0<;>simp
  ·simp only[cond_true,alj];omega
theorem NF(c:Cv):∀(l out:List BP),out.length≤(l.foldl (iH c) out).length
 |[],_=>ak9 _
 |x::l,out=>alg (Rr c x out) (NF c l _)
theorem HS(c:BCU):∀s:List BP,(yI c s).length=s.length-1
 |[]=>rfl
 |[_]=>rfl
 |x::y::r=>by
  have:=HS c (y::r)
  simp only[yI,alj]at this ⊢
  omega
theorem Vs{c:BCU}(h:aV (dec c.2.2.2.2.1) (dec c.2.2.2.2.2)≠0)(l:List BP):2≤(vG c l).length:=by
 unfold vG iE
 refine alg ?_ (NF (dC c) l _)
 simp only[iH]
 rw[am5.2 h]
 cases decide (df (dC c) (dec c.2.2.2.2.1) (dec c.2.2.2.2.2)<0)<;>exact ak9 _
theorem Jr{c:BCU}(h:gdN c)(l:List BP):1≤(kZ c l).length∧(kZ c l).length≤l.length+1:=by
 have h1:=Vs h.2.2.2 l
 have h2:=Jh c l
 unfold kZ
 rw[HS]
 omega
theorem Sc{c:BCU}(h:gdN c){l:List BP}(hl:l.length≤900000)(ho:∀p∈l,okP 500 p∧onR (dC c) (dec p)=true):ES c l:=
 ⟨cf h.1.1 (by decide) (by decide),hl,fun x hx=>⟨cK (ho x hx).1 (by decide) (by decide),(ho x hx).2⟩⟩
def gdM(c:BCU):Prop:=mG c∧fZ (dC c) (frC (dC c))=true∧fZ (dC c) (toC (dC c))=true
theorem gdM.gd{c:BCU}(h:gdM c):gdC c:=⟨h.1.1,h.2.1,h.2.2⟩
theorem gdN.m{c:BCU}(h:gdN c):gdM c:=⟨h.1,h.2.1,h.2.2.1⟩
theorem abH{c:BCU}(h:gdN c){l:List BP}(ho:∀p∈l,okP 500 p∧onR (dC c) (dec p)=true):∀p∈kZ c l,gdM p:=by
 intro p hp
 obtain⟨x,y,hx,hy,e⟩:=Hz hp
 have f:∀z,z∈vG c l→okP 500 z∧fZ (dC c) (dec z)=true:=fun z hz=>by
  rcases HY hz with e|e|e
  ·rw[e];exact⟨h.1.1.2.2.1,h.2.1⟩
  ·rw[e];exact⟨h.1.1.2.2.2,h.2.2.1⟩
  ·exact⟨(ho z e).1,(ale.1 (ho z e).2).1⟩
 obtain⟨x1,x2⟩:=f x hx
 obtain⟨y1,y2⟩:=f y hy
 rw[e]
 exact⟨⟨⟨h.1.1.1,h.1.1.2.1,x1,y1⟩,h.1.2⟩,x2,y2⟩
theorem aa8(x:Dr):(ofL x).length≤2:=by
 unfold ofL
 cases x.1%3==2
 ·cases x.1%3==1
  ·cases lV (drA x) (drB x) !=0<;>simp
  ·cases lS (drA x) (drB x) (drC x) !=0<;>simp
 ·cases decide ((drB x).1≤0)
  ·unfold vz;simp
  ·simp
theorem RH{c:BCU}(h:gdN c):∀{l:List BCU},(∀d∈l,gdN d)→(lj c l).length≤4*l.length∧∀p∈lj c l,okP 500 p∧onR (dC c) (dec p)=true
 |[],_=>⟨ak9 _,fun p hp=>by cases hp⟩
 |d::r,hd=>by
  obtain⟨i1,i2⟩:=RH h (l:=r) (fun e he=>hd e (alh _ he))
  obtain⟨m1,m2⟩:=HL (show fA c d from⟨h.1,(hd d (by simp)).1⟩)
  have e:lj c (d::r)=tX c d++lj c r:=rfl
  rw[e]
  refine⟨by rw[alC,alj];omega,fun p hp=>?_⟩
  rcases alO.1 hp with g|g
  ·exact⟨(m2 p g).1,(m2 p g).2.1⟩
  ·exact i2 p g
def Ys(x:Pce)(l:List BCU):BCU:=l.getD (x.2.2%(l.length:Int)).toNat c00
theorem U5(x:Pce)(h:yM x)(c:BCU)(hc:gdN c)(g0:aR (ofL x.1) 0=some c)(B:List BCU)(hB:ofL x.2.1=B)(gB:∀d∈B,gdN d)(lB:B.length≤2):∀(j i:Nat),i+j=B.length→∀r2:List BP,r2.length≤4*i→(∀p∈r2,okP 500 p∧onR (dC c) (dec p)=true)→
  EE.Runs 18 (tb x (i:Int) r2) [.d tCU (Ys x (kZ c (r2++lj c (B.drop i)))),.d .bool true]:=by
 intro j
 induction j with
 |zero=>
  intro i hi r2 hr ho
  refine yo _ _ _ ⟨0,?_⟩
  obtain⟨l1,l2⟩:=Jr hc r2
  have hs:=Sc hc (l:=r2) (by omega) ho
  obtain⟨u1,u2⟩:=h.2.2
  have e1:Int.tmod (i64.wrap x.2.2) ((kZ c r2).length:Int)=x.2.2%((kZ c r2).length:Int):=by
   rw[aS (by omega) (by omega),Int.tmod_eq_emod_of_nonneg u1]
  have m0:=al9 x.2.2 (show((kZ c r2).length:Int)≠0 by omega)
  have m1:=alM x.2.2 (show 0<((kZ c r2).length:Int) by omega)
  obtain⟨k,hk⟩:=amd m0
  have hkl:k<(kZ c r2).length:=by omega
  have hd:B.drop i=[]:=List.drop_eq_nil_iff.2 (by omega)
  have hcut:lj c []=[]:=rfl
  unfold qO
  rw[hB,cd (by omega),g0]
  dsimp only
  rw[dT hs,dF (show ¬((kZ c r2).length:Int)=0 by omega),e1,hk,ao,ak4 hkl,hd,hcut,alB]
  unfold Ys
  rw[hk,amK,List.getD_eq_getElem?_getD,ak4 hkl]
  rfl
 |succ j ih=>
  intro i hi r2 hr ho
  have hil:i<B.length:=by omega
  have hm:fA c B[i]:=⟨hc.1,(gB _ (alE hil)).1⟩
  obtain⟨m1,m2⟩:=HL hm
  obtain⟨n,hn⟩:=ih (i+1) (by omega) (r2++tX c B[i]) (by rw[alC];omega) (fun p hp=>by
   rcases alO.1 hp with g|g
   ·exact ho p g
   ·exact⟨(m2 p g).1,(m2 p g).2.1⟩)
  have hd:B.drop i=B[i]::B.drop (i+1):=alm hil
  have hcut:lj c (B[i]::B.drop (i+1))=tX c B[i]++lj c (B.drop (i+1)):=rfl
  refine yo _ _ _ ⟨n,?_⟩
  unfold qO
  rw[hB,bH hil,g0,ao,ak4 hil]
  dsimp only
  rw[dT hm,dT (by omega),bW (by omega),hd,hcut,←alu]
  exact hn
def aaU:Cn 11 [xX]:=cn fun(x:Pce)=>lf (yM x) [.d tCU (eD x),.d .bool (yE x)] fun h=>by
 have hB:=Dl h.2.1
 have hA:=Dl h.1
 refine c7 Wr (aal _ ?_)
 unfold MO eD yE
 rw[dT h.1,dT h.2.1]
 cases hl:ofL x.1 with
 |nil=>exact⟨0,rfl⟩
 |cons c r=>
  rw[hl]at hA
  obtain⟨n,hn⟩:=U5 x h c (hA c (by simp)) (by rw[hl];rfl) _ rfl hB (aa8 _) _ 0 (alI _) [] (ak9 _) (fun p hp=>by cases hp)
  refine⟨n,?_⟩
  have e:(((c::r).length:Int)==0)=false:=by simp;omega
  rw[e]
  unfold Ff
  rw[hl]
  exact hn
theorem UL{x:Pce}(h:yM x)(ho:yE x=true):eD x∈Ff x:=by
 have hA:=Dl h.1
 unfold eD Ff
 rw[ho]
 unfold yE at ho
 cases hl:ofL x.1 with
 |nil=>rw[hl]at ho;cases ho
 |cons c r=>
  rw[hl]at hA
  obtain⟨l1,l2⟩:=Jr (hA c (by simp)) (lj c (ofL x.2.1))
  have m0:=al9 x.2.2 (show((kZ c (lj c (ofL x.2.1))).length:Int)≠0 by omega)
  have m1:=alM x.2.2 (show 0<((kZ c (lj c (ofL x.2.1))).length:Int) by omega)
  have hk:(x.2.2%((kZ c (lj c (ofL x.2.1))).length:Int)).toNat<(kZ c (lj c (ofL x.2.1))).length:=by omega
  simp only[cond_true]
  rw[List.getD_eq_getElem?_getD,ak4 hk]
  exact alE hk
section
section
variable {α:Type} {lt:α→α→Prop} {f:α→α→Int}
theorem OG(h:oz lt):oz (fun x y=>lt y x):=⟨h.irr,fun x y z a b=>h.tr z y x b a,fun x y=>by
 rcases h.tri x y with g|g|g
 ·exact .inr (.inr g)
 ·exact .inr (.inl g)
 ·exact .inl g⟩
theorem JC(h:uj lt f):uj (fun x y=>lt y x) (fun x y=> -f x y):=fun x y=>⟨fun g=>(by show-f x y= -1;rw[(h x y).2.2 g]),fun g=>(by show-f x y=0;rw[(h x y).2.1 g];rfl),fun g=>(by show-f x y=1;rw[(h x y).1 g];rfl)⟩
def aLt(lt:α→α→Prop)(u v:Bool×α):Prop:=(u.1=false∧v.1=true)∨(u.1=false∧v.1=false∧lt u.2 v.2)∨(u.1=true∧v.1=true∧lt v.2 u.2)
theorem Ob(h:oz lt):oz (aLt lt):=by
 refine⟨fun⟨a,u⟩ g=>?_,fun⟨a,u⟩ ⟨b,v⟩ ⟨c,w⟩ g g'=>?_,fun⟨a,u⟩ ⟨b,v⟩=>?_⟩
 ·rcases g with⟨g1,g2⟩|⟨_,_,g⟩|⟨_,_,g⟩
  ·rw[g1]at g2;cases g2
  ·exact h.irr _ g
  ·exact h.irr _ g
 ·unfold aLt at*
  cases a<;>cases b<;>cases c<;>simp only[true_and,false_and,and_false,aok,anu,false_or,reduceCtorEq,and_self]at g g' ⊢
  ·exact h.tr _ _ _ g g'
  ·exact h.tr _ _ _ g' g
 ·unfold aLt
  cases a<;>cases b<;>simp only[true_and,false_and,and_false,aok,anu,false_or,reduceCtorEq,and_self,or_true,true_or]
  ·rcases h.tri u v with g|g|g
   ·exact .inl g
   ·exact .inr (.inl (by rw[g]))
   ·exact .inr (.inr g)
  ·rcases h.tri u v with g|g|g
   ·exact .inr (.inr g)
   ·exact .inr (.inl (by rw[g]))
   ·exact .inl g
theorem MS(h:uj lt f):uj (aLt lt) (jK f):=fun⟨a,u⟩ ⟨b,v⟩=>by
 refine⟨fun g=>?_,fun g=>?_,fun g=>?_⟩
 ·unfold aLt at g
  unfold jK
  cases a<;>cases b<;>simp only[true_and,false_and,and_false,aok,anu,false_or,reduceCtorEq,and_self]at g
  ·exact(h u v).1 g
  ·rfl
  ·show-f u v= -1
   rw[(h u v).2.2 g]
 ·injection g with g1 g2
  subst g1 g2
  unfold jK
  have:=(h u u).2.1 rfl
  cases a
  ·exact this
  ·show-f u u=0
   rw[this];rfl
 ·unfold aLt at g
  unfold jK
  cases a<;>cases b<;>simp only[true_and,false_and,and_false,aok,anu,false_or,reduceCtorEq,and_self]at g
  ·exact(h u v).2.2 g
  ·rfl
  ·show-f u v=1
   rw[(h u v).1 g];rfl
def cLt(lt:α→α→Prop)(o u v:α):Prop:=(¬lt u o∧lt v o)∨((lt u o↔lt v o)∧lt u v)
theorem Y3(h:oz lt)(o:α):oz (cLt lt o):=by
 refine⟨fun u g=>?_,fun u v w g g'=>?_,fun u v=>?_⟩
 ·rcases g with⟨g1,g2⟩|⟨_,g⟩
  ·exact g1 g2
  ·exact h.irr _ g
 ·rcases g with⟨g1,g2⟩|⟨g1,g2⟩<;>rcases g' with⟨g3,g4⟩|⟨g3,g4⟩
  ·exact absurd g2 g3
  ·exact .inl ⟨g1,g3.1 g2⟩
  ·exact .inl ⟨fun e=>g3 (g1.1 e),g4⟩
  ·exact .inr ⟨g1.trans g3,h.tr _ _ _ g2 g4⟩
 ·by_cases e1:lt u o<;>by_cases e2:lt v o
  ·rcases h.tri u v with g|g|g
   ·exact .inl (.inr ⟨⟨fun _=>e2,fun _=>e1⟩,g⟩)
   ·exact .inr (.inl g)
   ·exact .inr (.inr (.inr ⟨⟨fun _=>e1,fun _=>e2⟩,g⟩))
  ·exact .inr (.inr (.inl ⟨e2,e1⟩))
  ·exact .inl (.inl ⟨e1,e2⟩)
  ·rcases h.tri u v with g|g|g
   ·exact .inl (.inr ⟨⟨fun e=>absurd e e1,fun e=>absurd e e2⟩,g⟩)
   ·exact .inr (.inl g)
   ·exact .inr (.inr (.inr ⟨⟨fun e=>absurd e e2,fun e=>absurd e e1⟩,g⟩))
theorem wS(hl:oz lt)(h:uj lt f)(x y:α):decide (f x y<0)=true↔lt x y:=by
 rw[amb]
 rcases hl.tri x y with g|g|g
 ·rw[(h x y).1 g];exact⟨fun _=>g,fun _=>by decide⟩
 ·rw[(h x y).2.1 g];exact⟨fun e=>absurd e (by decide),fun e=>absurd e (by rw[g];exact hl.irr _)⟩
 ·rw[(h x y).2.2 g];exact⟨fun e=>absurd e (by decide),fun e=>absurd (hl.tr _ _ _ e g) (hl.irr _)⟩
theorem DE(hl:oz lt)(h:uj lt f)(o:Bool×α):uj (cLt (aLt lt) o) (j9 f o):=fun u v=>by
 have ha:=MS h
 have n:=wS (Ob hl) ha
 have tf:∀x,¬aLt lt x o→decide (jK f x o<0)=false:=fun x g=>by
  cases e:decide (jK f x o<0)
  ·rfl
  ·exact absurd ((n x o).1 e) g
 unfold j9
 refine⟨fun g=>?_,fun g=>?_,fun g=>?_⟩
 ·rcases g with⟨g1,g2⟩|⟨g1,g2⟩
  ·rw[tf u g1,(n v o).2 g2];rfl
  ·have e:(decide (jK f u o<0)==decide (jK f v o<0))=true:=by
    by_cases e:aLt lt u o
    ·rw[(n u o).2 e,(n v o).2 (g1.1 e)];rfl
    ·rw[tf u e,tf v (fun e'=>e (g1.2 e'))];rfl
   rw[e];exact(ha u v).1 g2
 ·subst g
  rw[beq_self_eq_true];exact(ha u u).2.1 rfl
 ·rcases g with⟨g1,g2⟩|⟨g1,g2⟩
  ·rw[tf v g1,(n u o).2 g2];rfl
  ·have e:(decide (jK f u o<0)==decide (jK f v o<0))=true:=by
    by_cases e:aLt lt u o
    ·rw[(n u o).2 e,(n v o).2 (g1.2 e)];rfl
    ·rw[tf u e,tf v (fun e'=>e (g1.1 e'))];rfl
   rw[e];exact(ha u v).2.2 g2
end
def Sp(c:Cv)(p:Pt):Prop:=Rpd p∧fZ c p=true
structure Crp (c:Cv):Prop where
 f:Sp c (frC c)
 t:Sp c (toC c)
 q:c.1=true→0<(ciC c).2.2
 l:c.1=false→(lnC c).1≠0∨(lnC c).2.1≠0
theorem ul{c:BCU}(h:gdC c):Crp (dC c):=by
 obtain⟨h1,h2,h3⟩:=h
 exact⟨⟨jO h1.2.2.1,h2⟩,⟨jO h1.2.2.2,h3⟩,fun e=>(h1.1 e).2,fun e=>(h1.2.1 e).2⟩
open RE in
theorem Crp.e{c:Cv}(h:Crp c)(hne:aV (frC c) (toC c)≠0):GdE c:=by
 have hf:=h.f.1
 have ht:=h.t.1
 have s:=fun p (hp:Sp c p)=>hp.2
 refine⟨hf,ht,fun e=>hne (cmpP_0.2 e),fun e=>?_,fun e=>?_⟩
 ·have h2:=h.f.2
  have h3:=h.t.2
  unfold fZ at h2 h3
  rw[e]at h2 h3
  exact⟨h.q e,ins_on (ama.1 h2),ins_on (ama.1 h3)⟩
 ·have h2:=h.f.2
  have h3:=h.t.2
  unfold fZ at h2 h3
  rw[e]at h2 h3
  exact⟨h.l e,Ft (ama.1 h2),Ft (ama.1 h3)⟩
namespace RE
theorem EN(v w:RE):((v-(w))*(v-(w)))+((w*w-(v*v)))+2*((w-(0))*(v-(w)))=0:=by grind
theorem Ms(v w:RE)(h1:v*v=w*w)(_h2:0≤v)(h3:0≤w):v≤w:=fun hg=>far (aI (aI (mul_pos (aJ hg) (aJ hg)) (aD (n4 h1))) (iD (by decide+kernel:(0:Rat)<2) (a9 (aD h3) (le_of_lt (aJ hg))))) (EN v w)
theorem Fo(v w:RE):((w-(v))*(w-(v)))+((v*v-(w*w)))+2*((v-(0))*(w-(v)))=0:=by grind
theorem Nw(v w:RE)(h1:v*v=w*w)(h2:0≤v)(_h3:0≤w):w≤v:=fun hg=>far (aI (aI (mul_pos (aJ hg) (aJ hg)) (aD (lh h1))) (iD (by decide+kernel:(0:Rat)<2) (a9 (aD h2) (le_of_lt (aJ hg))))) (Fo v w)
theorem UQ(v w:RE)(h1:v*v=w*w)(h2:0≤v)(h3:0≤w):v=w:=le_antisymm (Ms v w h1 h2 h3) (Nw v w h1 h2 h3)
theorem Cu(v w:RE):((v-(w))*(v-(w)))+((v*v-(w*w)))+2*((0-(v))*(v-(w)))=0:=by grind
theorem JJ(v w:RE)(h1:v*v=w*w)(h2:v≤0)(_h3:w≤0):v≤w:=fun hg=>far (aI (aI (mul_pos (aJ hg) (aJ hg)) (aD (lh h1))) (iD (by decide+kernel:(0:Rat)<2) (a9 (aD h2) (le_of_lt (aJ hg))))) (Cu v w)
theorem Eu(v w:RE):((w-(v))*(w-(v)))+((w*w-(v*v)))+2*((0-(w))*(w-(v)))=0:=by grind
theorem KA(v w:RE)(h1:v*v=w*w)(_h2:v≤0)(h3:w≤0):w≤v:=fun hg=>far (aI (aI (mul_pos (aJ hg) (aJ hg)) (aD (n4 h1))) (iD (by decide+kernel:(0:Rat)<2) (a9 (aD h3) (le_of_lt (aJ hg))))) (Eu v w)
theorem LU(v w:RE)(h1:v*v=w*w)(h2:v≤0)(h3:w≤0):v=w:=le_antisymm (JJ v w h1 h2 h3) (KA v w h1 h2 h3)
theorem adg(u v w Q:RE)(h1:u*u+v*v=Q)(h2:u*u+w*w=Q):v*v≤w*w:=by grind
theorem aaQ(u v w Q:RE)(h1:u*u+v*v=Q)(h2:u*u+w*w=Q):w*w≤v*v:=by grind
theorem afo(u v w Q:RE)(h1:u*u+v*v=Q)(h2:u*u+w*w=Q):v*v=w*w:=le_antisymm (adg u v w Q h1 h2) (aaQ u v w Q h1 h2)
theorem QW(a b:RE)(h1: -a= -b):a≤b:=by grind
theorem PH(a b:RE)(h1: -a= -b):b≤a:=by grind
theorem UA(a b:RE)(h1: -a= -b):a=b:=le_antisymm (QW a b h1) (PH a b h1)
theorem CP{u v:RE}:(upA (cls u v)=true→0≤v)∧(upA (cls u v)=false→v≤0)∧(ufA (cls u v)=true→0≤v)∧(ufA (cls u v)=false→v≤0):=by
 unfold cls upA ufA
 rcases bg v with⟨h,e⟩|⟨h,e⟩|⟨h,e⟩<;>rw[e]
 ·exact⟨fun _=>le_of_lt h,fun g=>(by cases g),fun _=>le_of_lt h,fun g=>(by cases g)⟩
 ·rw[h];exact⟨fun _=>le_refl _,fun _=>le_refl _,fun _=>le_refl _,fun _=>le_refl _⟩
 ·exact⟨fun g=>(by cases g),fun _=>le_of_lt h,fun g=>(by cases g),fun _=>le_of_lt h⟩
theorem I2{c:Ln}{p q:Pt}(hp:onCi c p)(hq:onCi c q)(hx:pX p=pX q)(g:(0≤pY p-of c.2.1∧0≤pY q-of c.2.1)∨(pY p-of c.2.1≤0∧pY q-of c.2.1≤0)):pR p=pR q:=by
 unfold onCi at hp hq
 rw[hx]at hp
 have e:=afo _ _ _ _ hp hq
 refine amp hx ?_
 rcases g with⟨a,b⟩|⟨a,b⟩
 ·exact gI _ _ _ (UQ _ _ e a b)
 ·exact gI _ _ _ (LU _ _ e a b)
end RE
open RE in
theorem jM{c:Cv}(ha:c.1=true){p:Pt}(hp:Sp c p):onCi (ciC c) p:=by
 have:=hp.1
 have g:=hp.2
 unfold fZ at g
 rw[ha]at g
 exact ins_on (ama.1 g)
open RE in
theorem I3{c:Cv}(h:Crp c)(ha:c.1=true):∃κ:Pt→Bool×RE,(∀d:Cv,d.1=true→ciC d=ciC c→cwC d=cwC c→Sp c (frC d)→∀p q,Sp c p→Sp c q→df d p q=j9 (fun x y:RE=>sg (x-y)) (κ (frC d)) (κ p) (κ q))∧∀p q,Sp c p→Sp c q→(κ p=κ q↔aV p q=0):=by
 cases hw:cwC c
 ·refine⟨fun p=>(upR (ciC c) p,pX p),fun d d1 d2 d3 hd p q hp hq=>?_,fun p q hp hq=>?_⟩
  ·have i1:=hd.1
   have:=hp.1
   have:=hq.1
   have e:∀{x y:Pt},Rpd x→Rpd y→a8 (xP x) (xP y)=sg (pX x-pX y):=fun{x y} _ _=>by rw[cmpT_re ln ln,sZ,sZ]
   unfold df
   rw[d1,d3,cond_true,cond_false,d2]
   exact fK (e hp.1 i1) (e hq.1 i1) (e hp.1 hq.1)
  ·have r1:=hp.1
   have r2:=hq.1
   rw[cmpP_0]
   constructor
   ·intro e
    injection e with e1 e2
    rw[ib,ib]at e1
    refine I2 (jM ha hp) (jM ha hq) e2 ?_
    cases g:upA (cls (pX p-of (ciC c).1) (pY p-of (ciC c).2.1))
    ·exact .inr ⟨CP.2.1 g,CP.2.1 (e1.symm.trans g)⟩
    ·exact .inl ⟨CP.1 g,CP.1 (e1.symm.trans g)⟩
   ·intro e
    have e1:pX p=pX q:=congrArg Prod.fst e
    have e2:pY p=pY q:=congrArg Prod.snd e
    show(upR (ciC c) p,pX p)=(upR (ciC c) q,pX q)
    rw[ib,ib,e1,e2]
 ·refine⟨fun p=>(upR (flC (ciC c)) (flP p),-pX p),fun d d1 d2 d3 hd p q hp hq=>?_,fun p q hp hq=>?_⟩
  ·have i1:=hd.1
   have:=hp.1
   have:=hq.1
   have e:∀{x y:Pt},Rpd x→Rpd y→a8 (xP (flP x)) (xP (flP y))=sg (-pX x- -pX y):=fun{x y} _ _=>by rw[cmpT_re ln ln,sZ,sZ,Ep,Ep]
   unfold df
   rw[d1,d3,cond_true,cond_true,d2]
   exact fK (e hp.1 i1) (e hq.1 i1) (e hp.1 hq.1)
  ·have r1:=hp.1
   have r2:=hq.1
   rw[cmpP_0]
   have u1:=ve (h.q ha) (jM ha hp)
   have u2:=ve (h.q ha) (jM ha hq)
   constructor
   ·intro e
    injection e with e1 e2
    rw[u1,u2]at e1
    refine I2 (jM ha hp) (jM ha hq) (UA _ _ e2) ?_
    cases g:ufA (cls (pX p-of (ciC c).1) (pY p-of (ciC c).2.1))
    ·exact .inr ⟨CP.2.2.2 g,CP.2.2.2 (e1.symm.trans g)⟩
    ·exact .inl ⟨CP.2.2.1 g,CP.2.2.1 (e1.symm.trans g)⟩
   ·intro e
    have e1:pX p=pX q:=congrArg Prod.fst e
    have e2:pY p=pY q:=congrArg Prod.snd e
    show(upR (flC (ciC c)) (flP p),-pX p)=(upR (flC (ciC c)) (flP q),-pX q)
    rw[u1,u2,e1,e2]
open RE in
theorem v7{c:Cv}(h:Crp c):∃(K:Type) (lt:K→K→Prop) (κ:Pt→K) (f:K→K→Int),oz lt∧uj lt f∧(∀p q,Sp c p→Sp c q→df c p q=f (κ p) (κ q))∧∀p q,Sp c p→Sp c q→(κ p=κ q↔aV p q=0):=by
 have hF:=h.f
 cases ha:c.1
 ·cases hd:decide (aV (frC c) (toC c)>0)
  ·refine⟨PE,acK,pR,lxc,jQ,iz,fun p q hp hq=>?_,fun p q hp hq=>?_⟩
   ·have:=hp.1
    have:=hq.1
    unfold df
    rw[ha,hd,cond_false,cond_false,iZ]
   ·have:=hp.1
    have:=hq.1
    exact cmpP_0.symm
  ·refine⟨PE,_,pR,_,OG jQ,JC iz,fun p q hp hq=>?_,fun p q hp hq=>?_⟩
   ·have:=hp.1
    have:=hq.1
    unfold df
    rw[ha,hd,cond_false,cond_true,iZ]
   ·have:=hp.1
    have:=hq.1
    exact cmpP_0.symm
 ·obtain⟨κ,h1,h2⟩:=I3 h ha
  exact⟨Bool×RE,_,κ,_,Y3 (Ob lt_lin) (κ (frC c)),DE lt_lin sg_cmpO _,h1 c ha rfl rfl hF,h2⟩
structure Ord (c:Cv):Prop where
 tr:∀{p q r},Sp c p→Sp c q→Sp c r→df c p q<0→df c q r<0→df c p r<0
 tri:∀{p q},Sp c p→Sp c q→df c p q<0∨aV p q=0∨df c q p<0
 irr:∀{p q},Sp c p→Sp c q→aV p q=0→df c p q=0
 asy:∀{p q},Sp c p→Sp c q→df c p q<0→0<df c q p
theorem wP{c:Cv}(h:Crp c):Ord c:=by
 obtain⟨K,lt,κ,f,hl,hc,ho,hk⟩:=v7 h
 have n:∀{p q},Sp c p→Sp c q→(df c p q<0↔lt (κ p) (κ q)):=fun{p q} hp hq=>by
  rw[ho p q hp hq,←amb (p:=f (κ p) (κ q)<0)]
  exact wS hl hc _ _
 refine⟨fun{p q r} hp hq hr g g'=>?_,fun{p q} hp hq=>?_,fun{p q} hp hq g=>?_,fun{p q} hp hq g=>?_⟩
 ·rw[n hp hr]
  exact hl.tr _ _ _ ((n hp hq).1 g) ((n hq hr).1 g')
 ·rw[n hp hq,n hq hp,←hk p q hp hq]
  exact hl.tri _ _
 ·rw[ho p q hp hq,(hc _ _).2.1 ((hk p q hp hq).2 g)]
 ·rw[ho q p hq hp,(hc _ _).2.2 ((n hp hq).1 g)]
  decide
def Spb(c:Cv)(x:BP):Prop:=Sp c (dec x)
theorem Mf{c:Cv}(o:Ord c){x:BP}(hx:Spb c x):∀{l:List BP},(∀y∈l,Spb c y)→l.Pairwise (fun a b=>df c (dec a) (dec b)<0)→(iH c l x).Pairwise (fun a b=>df c (dec a) (dec b)<0)
 |[],_,_=>by simp[iH]
 |y::r,hl,hp=>by
  have hy:=hl y (by simp)
  have hr:∀z∈r,Spb c z:=fun z hz=>hl z (alh _ hz)
  obtain⟨p1,p2⟩:=alL.1 hp
  simp only[iH]
  by_cases h1:df c (dec y) (dec x)<0
  ·rw[ak3 h1,cond_true]
   refine alL.2 ⟨fun z hz=>?_,Mf o hx hr p2⟩
   rcases pG hz with g|g
   ·exact p1 z g
   ·rw[g];exact h1
  ·rw[ak5 h1,cond_false]
   by_cases h2:aV (dec y) (dec x)=0
   ·rw[ama.2 h2,cond_true];exact hp
   ·rw[am5.2 h2,cond_false]
    have h3:df c (dec x) (dec y)<0:=by
     rcases o.tri hy hx with g|g|g
     ·exact absurd g h1
     ·exact absurd g h2
     ·exact g
    refine alL.2 ⟨fun z hz=>?_,hp⟩
    rcases ali.1 hz with g|g
    ·rw[g];exact h3
    ·exact o.tr hx hy (hr z g) h3 (p1 z g)
theorem Ix{c:Cv}(o:Ord c):∀{l out:List BP},(∀y∈l,Spb c y)→(∀y∈out,Spb c y)→out.Pairwise (fun a b=>df c (dec a) (dec b)<0)→(l.foldl (iH c) out).Pairwise (fun a b=>df c (dec a) (dec b)<0)
 |[],_,_,_,h=>h
 |x::l,out,hl,ho,h=>Ix o (l:=l) (fun y hy=>hl y (alh _ hy)) (fun y hy=>by
   rcases pG hy with g|g
   ·exact ho y g
   ·rw[g];exact hl x (by simp)) (Mf o (hl x (by simp)) ho h)
theorem ab2{c:Cv}(o:Ord c){l:List BP}(hl:∀y∈l,Spb c y):(iE c l).Pairwise (fun a b=>df c (dec a) (dec b)<0):=Ix o hl (fun y hy=>by cases hy) List.Pairwise.nil
theorem NO{c:BCU}{R:BP→BP→Prop}{p:BCU}:∀{s:List BP},s.Pairwise R→p∈yI c s→∃x y,x∈s∧y∈s∧R x y∧p=Ch c x y
 |[],_,h=>by cases h
 |[_],_,h=>by cases h
 |x::y::r,hp,h=>by
  obtain⟨p1,p2⟩:=alL.1 hp
  simp only[yI]at h
  rcases ali.1 h with h|h
  ·exact⟨x,y,by simp,by simp,p1 y (by simp),h⟩
  ·obtain⟨a,b,h1,h2,h3,h4⟩:=NO p2 h
   exact⟨a,b,alh _ h1,alh _ h2,h3,h4⟩
theorem Qe{c:BCU}(h:gdN c){l:List BP}(ho:∀p∈l,okP 500 p∧onR (dC c) (dec p)=true):∀x∈vG c l,okP 500 x∧Spb (dC c) x:=by
 intro z hz
 rcases HY hz with e|e|e
 ·rw[e];exact⟨h.1.1.2.2.1,jO h.1.1.2.2.1,h.2.1⟩
 ·rw[e];exact⟨h.1.1.2.2.2,jO h.1.1.2.2.2,h.2.2.1⟩
 ·exact⟨(ho z e).1,jO (ho z e).1,(ale.1 (ho z e).2).1⟩
theorem aco{c:BCU}(h:gdN c){l:List BP}(ho:∀p∈l,okP 500 p∧onR (dC c) (dec p)=true):(vG c l).Pairwise (fun a b=>df (dC c) (dec a) (dec b)<0):=by
 refine ab2 (wP (ul h.gd)) fun y hy=>?_
 rcases alO.1 hy with hy|hy
 ·simp only[ali,ame,anu]at hy
  rcases hy with e|e
  ·rw[e];exact⟨jO h.1.1.2.2.1,h.2.1⟩
  ·rw[e];exact⟨jO h.1.1.2.2.2,h.2.2.1⟩
 ·exact⟨jO (ho y hy).1,(ale.1 (ho y hy).2).1⟩
theorem UN{c:BCU}(h:gdN c){l:List BP}(ho:∀p∈l,okP 500 p∧onR (dC c) (dec p)=true):∀p∈kZ c l,gdN p:=by
 intro p hp
 have hm:=abH h ho p hp
 obtain⟨x,y,hx,hy,hr,e⟩:=NO (aco h ho) hp
 have o:=wP (ul h.gd)
 refine⟨hm.1,hm.2.1,hm.2.2,fun g=>?_⟩
 rw[e]at g
 have:=o.irr (Qe h ho x hx).2 (Qe h ho y hy).2 g
 omega
theorem UU{x:Pce}(h:yM x):∀p∈Ff x,gdN p:=by
 intro p hp
 have hA:=Dl h.1
 unfold Ff at hp
 cases hl:ofL x.1 with
 |nil=>rw[hl]at hp;cases hp
 |cons c r=>
  rw[hl]at hp hA
  exact UN (hA c (by simp)) (RH (hA c (by simp)) (Dl h.2.1)).2 p hp
theorem Ii{x:Pce}(h:yM x)(ho:yE x=true):gdN (eD x):=UU h _ (UL h ho)
theorem gdN.e{c:BCU}(h:gdN c):RE.GdE (dC c):=(ul h.gd).e h.2.2.2
theorem Tk{c:BCU}(h:gdN c):gdN (dX c):=by
 refine⟨⟨Bq 500 h.1.1,h.1.2⟩,h.2.2.1,h.2.1,fun e=>h.2.2.2 ?_⟩
 have r1:Rpd (frC (dC c)):=jO h.1.1.2.2.1
 have r2:Rpd (toC (dC c)):=jO h.1.1.2.2.2
 have e:aV (toC (dC c)) (frC (dC c))=0:=e
 exact RE.cmpP_0.2 (RE.cmpP_0.1 e).symm
end
theorem VH{α:Type}{lt:α→α→Prop}{f:α→α→Int}(hl:oz lt)(h:uj lt f)(x y:α):f x y≤0↔¬lt y x:=by
 rcases hl.tri x y with g|g|g
 ·rw[(h x y).1 g];exact⟨fun _ e=>hl.irr _ (hl.tr _ _ _ e g),fun _=>by decide⟩
 ·rw[(h x y).2.1 g];exact⟨fun _ e=>by rw[g]at e;exact hl.irr _ e,fun _=>by decide⟩
 ·rw[(h x y).2.2 g];exact⟨fun e=>absurd e (by decide),fun e=>absurd g e⟩
theorem nj{α:Type}{lt:α→α→Prop}{f:α→α→Int}(hl:oz lt)(h:uj lt f)(x y:α):f x y<0↔lt x y:=by
 rw[←amb (p:=f x y<0)]
 exact wS hl h x y
structure ai0 (c:Cv):Prop extends Ord c where
 le:∀{p q},Sp c p→Sp c q→(df c p q≤0↔¬df c q p<0)
 lt:∀{p q r},Sp c p→Sp c q→Sp c r→¬df c q p<0→¬df c r q<0→¬df c r p<0
theorem SK{c:Cv}(h:Crp c):ai0 c:=by
 obtain⟨K,lt,κ,f,hl,hc,ho,hk⟩:=v7 h
 refine⟨wP h,fun{p q} hp hq=>?_,fun{p q r} hp hq hr=>?_⟩
 ·rw[ho p q hp hq,ho q p hq hp,VH hl hc,nj hl hc]
 ·rw[ho q p hq hp,ho r q hr hq,ho r p hr hp,nj hl hc,nj hl hc,nj hl hc]
  intro g g' e
  rcases hl.tri (κ q) (κ p)with a|a|a
  ·exact g a
  ·exact g' (by rw[a];exact e)
  ·exact g' (hl.tr _ _ _ e a)
theorem Ap{c:Cv}(h:Crp c){p:Pt}(hp:Rpd p):onR c p=true↔fZ c p=true∧¬df c p (frC c)<0∧¬df c (toC c) p<0:=by
 have o:=SK h
 unfold onR
 rw[ale,ale,amb,amb]
 refine and_congr_right fun hs=>?_
 rw[o.le h.f ⟨hp,hs⟩,o.le ⟨hp,hs⟩ h.t]
theorem ais{c:BCU}(h:gdN c):df (dC c) (frC (dC c)) (toC (dC c))<0:=by
 have k:=ul h.gd
 have hne:aV (frC (dC c)) (toC (dC c))≠0:=h.2.2.2
 cases ha:(dC c).1
 ·unfold df
  rw[ha,cond_false]
  cases hd:decide (aV (frC (dC c)) (toC (dC c))>0)
  ·have:=alW hd
   rw[cond_false];omega
  ·have:=ak6 hd
   rw[cond_true];omega
 ·rcases(wP k).tri k.f k.t with g|g|g
  ·exact g
  ·exact absurd g hne
  ·obtain⟨κ,h1,h2⟩:=I3 k ha
   have hl:=Ob RE.lt_lin
   rw[h1 (dC c) ha rfl rfl k.f _ _ k.t k.f,nj (Y3 hl _) (DE RE.lt_lin RE.sg_cmpO _)]at g
   rcases g with⟨_,g⟩|⟨g1,g2⟩
   ·exact absurd g (hl.irr _)
   ·exact absurd (g1.1 g2) (hl.irr _)
theorem ac2{c:BCU}(h:gdN c):onR (dC c) (frC (dC c))=true∧onR (dC c) (toC (dC c))=true:=by
 have k:=ul h.gd
 have o:=wP k
 have irr:∀{q},Sp (dC c) q→df (dC c) q q=0:=fun{q} hq=>by
  have:=hq.1
  exact o.irr hq hq (RE.cmpP_0.2 rfl)
 have tf:=o.asy k.f k.t (ais h)
 rw[Ap k k.f.1,Ap k k.t.1,irr k.f,irr k.t]
 exact⟨⟨k.f.2,by omega,by omega⟩,k.t.2,by omega,by omega⟩
def Bm(c:Cv)(p q:Pt):Int:=bif c.1 then(bif cwC c then-(gF a8 (ptd (ciC c) (toC c)) (ptd (ciC c) p) (ptd (ciC c) q))else gF a8 (ptd (ciC c) (frC c)) (ptd (ciC c) p) (ptd (ciC c) q))else aV p q*aV (toC c) (frC c)
namespace RE
theorem Sk:∀kF kP kQ:Fin 4,∀iF iP iQ:Fin 3,GM kF.1 iF.1 kP.1 iP.1 kQ.1 iQ.1=true→
  gF cI (upA kF.1,iF.1) (upA kP.1,iP.1) (upA kQ.1,iQ.1)=j9 cI (upA kF.1,iF.1) (upA kP.1,iP.1) (upA kQ.1,iQ.1):=by decide+kernel
theorem adp:∀kF kT:Fin 4,∀iF iT:Fin 4,(m5 kF.1 iF.1 kT.1 iT.1&&m5 kT.1 iT.1 kF.1 iF.1)=true→∀kP iP:Fin 4,(m5 kF.1 iF.1 kP.1 iP.1&&m5 kP.1 iP.1 kF.1 iF.1&&m5 kT.1 iT.1 kP.1 iP.1&&m5 kP.1 iP.1 kT.1 iT.1&&decide (gF cI (upA kT.1,iT.1) (upA kP.1,iP.1) (upA kF.1,iF.1)≤0))=true→
  ∀kQ iQ:Fin 4,(m5 kF.1 iF.1 kQ.1 iQ.1&&m5 kQ.1 iQ.1 kF.1 iF.1&&m5 kT.1 iT.1 kQ.1 iQ.1&&m5 kQ.1 iQ.1 kT.1 iT.1&&m5 kP.1 iP.1 kQ.1 iQ.1&&m5 kQ.1 iQ.1 kP.1 iP.1&&decide (gF cI (upA kT.1,iT.1) (upA kQ.1,iQ.1) (upA kF.1,iF.1)≤0))=true→
  -(gF cI (upA kT.1,iT.1) (upA kP.1,iP.1) (upA kQ.1,iQ.1))=j9 dI (ufA kF.1,iF.1) (ufA kP.1,iP.1) (ufA kQ.1,iQ.1):=by decide+kernel
theorem abY{ci:Ln}{F P Q:Pt}[Rpd F][Rpd P][Rpd Q](hQ:0<ci.2.2)(hF:onCi ci F)(hP:onCi ci P)(hq:onCi ci Q):
  gF a8 (ptd ci F) (ptd ci P) (ptd ci Q)=j9 a8 (ptd ci F) (ptd ci P) (ptd ci Q):=by
 have mF:pX F∈[pX F,pX P,pX Q]:=by simp
 have mP:pX P∈[pX F,pX P,pX Q]:=by simp
 have mQ:pX Q∈[pX F,pX P,pX Q]:=by simp
 have h0:0<of ci.2.2:=hZ hQ
 have hcon:GM (cls (pX F-of ci.1) (pY F-of ci.2.1)) (rk (fun a b:RE=>a<b) [pX F,pX P,pX Q] (pX F)) (cls (pX P-of ci.1) (pY P-of ci.2.1)) (rk (fun a b:RE=>a<b) [pX F,pX P,pX Q] (pX P)) (cls (pX Q-of ci.1) (pY Q-of ci.2.1)) (rk (fun a b:RE=>a<b) [pX F,pX P,pX Q] (pX Q))=true:=by
  unfold GM
  rw[c8 h0 hF hP mF mP,c8 h0 hP hF mP mF,c8 h0 hF hq mF mQ,c8 h0 hq hF mQ mF,c8 h0 hP hq mP mQ,c8 h0 hq hP mQ mP]
  rfl
 have a:=Sk ⟨_,gT (pX F-of ci.1) (pY F-of ci.2.1)⟩ ⟨_,gT (pX P-of ci.1) (pY P-of ci.2.1)⟩ ⟨_,gT (pX Q-of ci.1) (pY Q-of ci.2.1)⟩ ⟨_,iL lt_lin mF⟩ ⟨_,iL lt_lin mP⟩ ⟨_,iL lt_lin mQ⟩ hcon
 simp only at a
 unfold ptd
 rw[ib,ib,ib,gY (fo mP mF) (fo mQ mF) (fo mP mQ),fK (fo mP mF) (fo mQ mF) (fo mP mQ)]
 exact a
theorem aeN{ci:Ln}{F T P Q:Pt}[Rpd F][Rpd T][Rpd P][Rpd Q](hQ:0<ci.2.2)(hF:onCi ci F)(hT:onCi ci T)(hP:onCi ci P)(hq:onCi ci Q)
  (oP:decide (gF a8 (ptd ci T) (ptd ci P) (ptd ci F)≤0)=true) (oQ:decide (gF a8 (ptd ci T) (ptd ci Q) (ptd ci F)≤0)=true):
  -(gF a8 (ptd ci T) (ptd ci P) (ptd ci Q))=j9 a8 (ptd (flC ci) (flP F)) (ptd (flC ci) (flP P)) (ptd (flC ci) (flP Q)):=by
 have mF:pX F∈[pX F,pX T,pX P,pX Q]:=by simp
 have mT:pX T∈[pX F,pX T,pX P,pX Q]:=by simp
 have mP:pX P∈[pX F,pX T,pX P,pX Q]:=by simp
 have mQ:pX Q∈[pX F,pX T,pX P,pX Q]:=by simp
 have h0:0<of ci.2.2:=hZ hQ
 revert oP oQ
 unfold ptd
 rw[ib,ib,ib,ib,ve hQ hF,ve hQ hP,ve hQ hq,gY (fo mP mT) (fo mF mT) (fo mP mF),gY (fo mQ mT) (fo mF mT) (fo mQ mF),gY (fo mP mT) (fo mQ mT) (fo mP mQ),fK (m6 mP mF) (m6 mQ mF) (m6 mP mQ)]
 intro oP oQ
 refine adp ⟨_,gT (pX F-of ci.1) (pY F-of ci.2.1)⟩ ⟨_,gT (pX T-of ci.1) (pY T-of ci.2.1)⟩ ⟨_,iL lt_lin mF⟩ ⟨_,iL lt_lin mT⟩ ?_ ⟨_,gT (pX P-of ci.1) (pY P-of ci.2.1)⟩ ⟨_,iL lt_lin mP⟩ ?_ ⟨_,gT (pX Q-of ci.1) (pY Q-of ci.2.1)⟩ ⟨_,iL lt_lin mQ⟩ ?_
 ·simp only
  rw[c8 h0 hF hT mF mT,c8 h0 hT hF mT mF]
  rfl
 ·simp only
  rw[c8 h0 hF hP mF mP,c8 h0 hP hF mP mF,c8 h0 hT hP mT mP,c8 h0 hP hT mP mT,oP]
  rfl
 ·simp only
  rw[c8 h0 hF hq mF mQ,c8 h0 hq hF mQ mF,c8 h0 hT hq mT mQ,c8 h0 hq hT mQ mT,c8 h0 hP hq mP mQ,c8 h0 hq hP mQ mP,oQ]
  rfl
theorem uw{p q:Pt}[Rpd p][Rpd q]:aV p q= -aV q p:=by
 rw[iZ,iZ]
 rcases jQ.tri (pR p) (pR q)with h|h|h
 ·rw[(iz _ _).1 h,(iz _ _).2.2 h]
 ·rw[h,(iz (pR q) (pR q)).2.1 rfl];rfl
 ·rw[(iz _ _).2.2 h,(iz _ _).1 h];rfl
theorem ord_eq{c:Cv}(h:Crp c)(hne:aV (frC c) (toC c)≠0){p q:Pt}(hp:Rpd p)(hq:Rpd q)(op:onP c p=true)(oq:onP c q=true):Bm c p q=df c p q:=by
 have hf:=h.f.1
 have ht:=h.t.1
 unfold onP at op oq
 obtain⟨sp,rp⟩:=ale.1 op
 obtain⟨sq,rq⟩:=ale.1 oq
 unfold Bm df
 unfold ik at rp rq
 cases ha:c.1
 ·rw[cond_false,cond_false,uw (p:=toC c)]
  have hb:=pZ (frC c) (toC c)
  by_cases hd:aV (frC c) (toC c)>0
  ·rw[ak3 hd,cond_true,show aV (frC c) (toC c)=1 by omega]
   omega
  ·rw[ak5 hd,cond_false,show aV (frC c) (toC c)= -1 by omega]
   omega
 ·rw[ha,cond_true]at rp rq
  rw[cond_true,cond_true]
  have q0:=h.q ha
  have oF:=jM ha h.f
  have oT:=jM ha h.t
  have oP:=jM ha ⟨hp,sp⟩
  have oQ:=jM ha ⟨hq,sq⟩
  unfold ccF ccT at rp rq
  cases hw:cwC c
  ·rw[cond_false,cond_false]
   exact abY q0 oF oP oQ
  ·rw[hw,cond_true,cond_true]at rp rq
   rw[cond_true,cond_true]
   exact aeN q0 oF oT oP oQ rp rq
end RE
abbrev oL(c:Cv)(A:List BP):Prop:=A.Pairwise (fun a b=>df c (dec a) (dec b)<0)
section
section
variable {α K:Type}
def kY(lt:α→α→Bool):List α→α→List α
 |[],a=>[a]
 |b::r,a=>bif lt a b then b::kY lt r a else a::b::r
def sI(lt:α→α→Bool)(l:List α):List α:=(l.foldl (kY lt) []).reverse
def jU(eq:α→α→Bool):α→List α→List α
 |_,[]=>[]
 |p,q::r=>bif eq q p then jU eq q r else q::jU eq q r
def vp(eq:α→α→Bool):List α→List α
 |[]=>[]
 |x::r=>x::jU eq x r
theorem mY{lt:α→α→Bool}{a x:α}:∀{r:List α},x∈kY lt r a↔x=a∨x∈r
 |[]=>by simp[kY]
 |b::r=>by
  unfold kY
  cases lt a b
  ·simp
  ·simp only[cond_true,ali,mY (r:=r)]
   constructor
   ·rintro (h|h|h)
    ·exact .inr (.inl h)
    ·exact .inl h
    ·exact .inr (.inr h)
   ·rintro (h|h|h)
    ·exact .inr (.inl h)
    ·exact .inl h
    ·exact .inr (.inr h)
theorem Cs{lt:α→α→Bool}{x:α}:∀{l r:List α},x∈l.foldl (kY lt) r↔x∈l∨x∈r
 |[],r=>by simp
 |a::l,r=>by
  rw[am2,Cs,mY,ali]
  constructor
  ·rintro (h|h|h)
   ·exact .inl (.inr h)
   ·exact .inl (.inl h)
   ·exact .inr h
  ·rintro ((h|h)|h)
   ·exact .inr (.inl h)
   ·exact .inl h
   ·exact .inr (.inr h)
theorem oY{lt:α→α→Bool}{x:α}{l:List α}:x∈sI lt l↔x∈l:=by
 unfold sI
 rw[List.mem_reverse,Cs]
 simp
theorem tB{lt:α→α→Bool}{a:α}:∀{r:List α},(kY lt r a).length=r.length+1
 |[]=>rfl
 |b::r=>by
  unfold kY
  cases lt a b
  ·rfl
  ·simp[tB (r:=r)]
theorem IR{lt:α→α→Bool}:∀{l r:List α},(l.foldl (kY lt) r).length=l.length+r.length
 |[],r=>by simp
 |a::l,r=>by
  rw[am2,IR,tB,alj]
  omega
theorem Da{lt:α→α→Bool}{l:List α}:(sI lt l).length=l.length:=by
 unfold sI
 rw[List.length_reverse,IR]
 rfl
theorem Eb{eq:α→α→Bool}:∀{l:List α} {p:α},(jU eq p l).length≤l.length
 |[],_=>ak9 _
 |q::r,p=>by
  unfold jU
  have:=Eb (eq:=eq) (l:=r) (p:=q)
  cases eq q p
  ·simp only[cond_false,alj];omega
  ·simp only[cond_true,alj];omega
theorem MX{eq:α→α→Bool}{l:List α}:(vp eq l).length≤l.length:=by
 cases l with
 |nil=>exact ak9 _
 |cons x r=>
  have:=Eb (eq:=eq) (l:=r) (p:=x)
  simp only[vp,alj]
  omega
theorem wK{eq:α→α→Bool}{x:α}:∀{l:List α} {p:α},x∈jU eq p l→x∈l
 |[],_,h=>h
 |q::r,p,h=>by
  unfold jU at h
  cases hq:eq q p<;>rw[hq]at h
  ·rcases ali.1 h with e|e
   ·rw[e];simp
   ·exact alh _ (wK e)
  ·exact alh _ (wK h)
theorem Pg{eq:α→α→Bool}{x:α}{l:List α}(h:x∈vp eq l):x∈l:=by
 cases l with
 |nil=>exact h
 |cons y r=>
  rcases ali.1 h with e|e
  ·rw[e];simp
  ·exact alh _ (wK e)
variable {lt:K→K→Prop} (hl:oz lt) (κ:α→K)
abbrev upK(lt:K→K→Prop)(κ:α→K)(l:List α):Prop:=l.Pairwise fun a b=>¬lt (κ b) (κ a)
abbrev dnK(lt:K→K→Prop)(κ:α→K)(l:List α):Prop:=l.Pairwise fun a b=>¬lt (κ a) (κ b)
include hl in
theorem Hd{f:α→α→Bool}{a:α}:∀{r:List α},(∀b∈r,(f a b=true↔lt (κ a) (κ b)))→dnK lt κ r→dnK lt κ (kY f r a)
 |[],_,_=>by simp[kY]
 |b::r,hf,hp=>by
  obtain⟨p1,p2⟩:=alL.1 hp
  have hb:=hf b (by simp)
  unfold kY
  cases hfb:f a b
  ·simp only[cond_false]
   have nlt:¬lt (κ a) (κ b):=fun h=>by rw[hb.2 h]at hfb;cases hfb
   refine alL.2 ⟨fun x hx=>?_,hp⟩
   rcases ali.1 hx with e|e
   ·rw[e];exact nlt
   ·intro h
    rcases hl.tri (κ b) (κ x)with g|g|g
    ·exact p1 x e g
    ·rw[←g]at h;exact nlt h
    ·exact nlt (hl.tr _ _ _ h g)
  ·simp only[cond_true]
   have hlt:=hb.1 hfb
   refine alL.2 ⟨fun x hx=>?_,Hd (fun y hy=>hf y (alh _ hy)) p2⟩
   rcases mY.1 hx with e|e
   ·rw[e];intro h;exact hl.irr _ (hl.tr _ _ _ h hlt)
   ·exact p1 x e
include hl in
theorem Ju{f:α→α→Bool}:∀{l r:List α},(∀a b,(a∈l∨a∈r)→(b∈l∨b∈r)→(f a b=true↔lt (κ a) (κ b)))→dnK lt κ r→dnK lt κ (l.foldl (kY f) r)
 |[],_,_,h=>h
 |a::l,r,hf,h=>by
  rw[am2]
  refine Ju (fun x y hx hy=>hf x y ?_ ?_) (Hd hl κ (fun b hb=>hf a b (.inl (by simp)) (.inr hb)) h)
  ·rcases hx with e|e
   ·exact .inl (alh _ e)
   ·rcases mY.1 e with g|g
    ·exact .inl (by rw[g];simp)
    ·exact .inr g
  ·rcases hy with e|e
   ·exact .inl (alh _ e)
   ·rcases mY.1 e with g|g
    ·exact .inl (by rw[g];simp)
    ·exact .inr g
include hl in
theorem SC{f:α→α→Bool}{l:List α}(hf:∀a∈l,∀b∈l,(f a b=true↔lt (κ a) (κ b))):upK lt κ (sI f l):=by
 unfold sI
 refine List.pairwise_reverse.2 (Ju hl κ (fun a b ha hb=>hf a ?_ b ?_) (by simp))
 ·rcases ha with h|h
  ·exact h
  ·cases h
 ·rcases hb with h|h
  ·exact h
  ·cases h
include hl in
theorem Jn{g:α→α→Bool}:∀{l:List α} {p:α},(∀a b,a∈p::l→b∈p::l→(g a b=true↔κ a=κ b))→upK lt κ (p::l)→
  (p::jU g p l).Pairwise (fun a b=>lt (κ a) (κ b))∧∀x∈p::l,∃y∈p::jU g p l,κ y=κ x
 |[],p,_,_=>⟨by simp[jU],fun x hx=>⟨x,hx,rfl⟩⟩
 |q::r,p,hg,hp=>by
  obtain⟨p1,p2⟩:=alL.1 hp
  obtain⟨i1,i2⟩:=Jn (l:=r) (p:=q) (fun a b ha hb=>hg a b (alh _ ha) (alh _ hb)) p2
  obtain⟨j1,j2⟩:=alL.1 i1
  have hq:=hg q p (by simp) (by simp)
  unfold jU
  cases hqp:g q p
  ·simp only[cond_false]
   have hlt:lt (κ p) (κ q):=by
    rcases hl.tri (κ p) (κ q)with e|e|e
    ·exact e
    ·rw[hq.2 e.symm]at hqp;cases hqp
    ·exact absurd e (p1 q (by simp))
   refine⟨alL.2 ⟨fun x hx=>?_,i1⟩,fun x hx=>?_⟩
   ·rcases ali.1 hx with e|e
    ·rw[e];exact hlt
    ·exact hl.tr _ _ _ hlt (j1 x e)
   ·rcases ali.1 hx with e|e
    ·exact⟨p,by simp,by rw[e]⟩
    ·obtain⟨y,hy,e2⟩:=i2 x e
     exact⟨y,alh _ hy,e2⟩
  ·simp only[cond_true]
   have he:=hq.1 hqp
   refine⟨alL.2 ⟨fun x hx=>by rw[←he];exact j1 x hx,j2⟩,fun x hx=>?_⟩
   have tr:∀y,y∈q::jU g q r→∃z∈p::jU g q r,κ z=κ y:=fun y hy=>by
    rcases ali.1 hy with e|e
    ·exact⟨p,by simp,by rw[e,he]⟩
    ·exact⟨y,alh _ e,rfl⟩
   rcases ali.1 hx with e|e
   ·exact⟨p,by simp,by rw[e]⟩
   ·obtain⟨y,hy,e2⟩:=i2 x e
    obtain⟨z,hz,e3⟩:=tr y hy
    exact⟨z,hz,e3.trans e2⟩
include hl in
theorem Vv{g:α→α→Bool}{l:List α}(hg:∀a∈l,∀b∈l,(g a b=true↔κ a=κ b))(hp:upK lt κ l):(vp g l).Pairwise (fun a b=>lt (κ a) (κ b))∧∀x∈l,∃y∈vp g l,κ y=κ x:=by
 cases l with
 |nil=>exact⟨by simp[vp],fun x hx=>by cases hx⟩
 |cons p r=>exact Jn hl κ (fun a b ha hb=>hg a ha b hb) hp
end
def ltP(c:Cv)(a b:BP):Bool:=decide (Bm c (dec a) (dec b)<0)
def il(a b:BP):Bool:=aV (dec a) (dec b)==0
def dg(c:Cv)(l:List BP):List BP:=vp il (sI (ltP c) l)
theorem jp{c:Cv}{l:List BP}{x:BP}(h:x∈dg c l):x∈l:=oY.1 (Pg h)
theorem pn{c:Cv}{l:List BP}:(dg c l).length≤l.length:=by
 have:=MX (eq:=il) (l:=sI (ltP c) l)
 rw[Da]at this
 exact this
theorem HU{c:Cv}(h:Crp c)(hne:aV (frC c) (toC c)≠0){l:List BP}(hon:∀x∈l,Rpd (dec x:Pt)∧onP c (dec x)=true):oL c (dg c l)∧∀x∈l,∃y∈dg c l,aV (dec y) (dec x)=0:=by
 obtain⟨K,lt,κ,f,hl,hc,ho,hk⟩:=v7 h
 have sp:∀x∈l,Spb c x:=fun x hx=>⟨(hon x hx).1,(ale.1 (hon x hx).2).1⟩
 have up:=SC hl (fun x:BP=>κ (dec x)) (f:=ltP c) (l:=l) fun a ha b hb=>by
  unfold ltP
  rw[amb,RE.ord_eq h hne (hon a ha).1 (hon b hb).1 (hon a ha).2 (hon b hb).2,ho _ _ (sp a ha) (sp b hb)]
  exact nj hl hc _ _
 have q:=Vv hl (fun x:BP=>κ (dec x)) (g:=il) (l:=sI (ltP c) l) (fun a ha b hb=>by
  unfold il
  rw[ama]
  exact(hk _ _ (sp a (oY.1 ha)) (sp b (oY.1 hb))).symm) up
 refine⟨List.Pairwise.imp_of_mem (fun{a b} ha hb g=>?_) q.1,fun x hx=>?_⟩
 ·have ha':=jp (c:=c) ha
  have hb':=jp (c:=c) hb
  rw[ho _ _ (sp a ha') (sp b hb')]
  exact(nj hl hc _ _).2 g
 ·obtain⟨y,hy,e⟩:=q.2 x (oY.2 hx)
  exact⟨y,hy,(hk _ _ (sp y (jp (c:=c) hy)) (sp x hx)).1 e⟩
end
theorem abR{c:Cv}(h:Crp c):Crv c:=⟨h.f.1,h.t.1,fun ha=>⟨h.q ha,jM ha h.f,jM ha h.t⟩⟩
theorem nG{c:Cv}(h:Crp c){p:Pt}(hp:Rpd p):onP c p=onR c p:=ah5 (abR h) hp
namespace RE
theorem gL{c:Cv}{p:Pt}[Rpd p]:fZ c p=true↔bif c.1 then fW (ciC c) (pR p)else iG (lnC c) (pR p):=by
 unfold fZ
 cases c.1
 ·exact AB
 ·exact sQ
theorem uo{q:Rat}(hq:q≠0){x y:RE}(h:of q*x=of q*y):x=y:=by
 have e:∀z:RE,of q⁻¹*(of q*z)=z:=fun z=>by
  rw[←mul_assoc,←aH,Rat.inv_mul_cancel _ hq,Bf,one_mul]
 rw[←e x,h,e y]
theorem ajb(a p q x y:RE):a*(p*x+q*y)=p*(a*x)+a*q*y:=by grind
theorem ai7(p a b x y:RE):p*(a*x+b*y)=p*(a*x)+b*p*y:=by grind
theorem ajj(b p q x y:RE):b*(p*x+q*y)=b*p*x+q*(b*y):=by grind
theorem aj3(q a b x y:RE):q*(a*x+b*y)=a*q*x+q*(b*y):=by grind
theorem abh{l m:Ln}(hl:l.1≠0∨l.2.1≠0)(h:oR l m=true){v:PE}(hv:iG l v):iG m v:=by
 unfold oR at h
 obtain⟨h1,h23⟩:=ale.1 h
 obtain⟨h2,h3⟩:=ale.1 h23
 have h1:=ak6 h1
 have h2:=ak6 h2
 have h3:=ak6 h3
 unfold iG at*
 rcases hl with ha|hb
 ·refine uo ha ?_
  rw[ajb,←aH l.1 m.2.1,h1,aH,←ai7,hv,←aH,←aH,h2,amq]
 ·refine uo hb ?_
  rw[ajj,←aH l.2.1 m.1,←h1,aH,←aj3,hv,←aH,←aH,h3,amq]
theorem VG{l m:Ln}(h:oR l m=true):oR m l=true:=by
 unfold oR at*
 obtain⟨h1,h23⟩:=ale.1 h
 obtain⟨h2,h3⟩:=ale.1 h23
 have h1:=ak6 h1
 have h2:=ak6 h2
 have h3:=ak6 h3
 rw[dT (show m.1*l.2.1=m.2.1*l.1 by grind),dT (show m.1*l.2.2=m.2.2*l.1 by grind),dT (show m.2.1*l.2.2=m.2.2*l.2.1 by grind)]
 rfl
theorem ado{c d:Ln}(h:rP c d=true):c=d:=by
 unfold rP at h
 obtain⟨h1,h23⟩:=ale.1 h
 obtain⟨h2,h3⟩:=ale.1 h23
 exact amp (ak6 h1) (amp (ak6 h2) (ak6 h3))
theorem B7{c d:Cv}(h:cJ c d=true):c.1=d.1:=by
 unfold cJ at h
 cases e:c.1==d.1
 ·rw[e]at h;cases h
 ·exact ama.1 e
theorem OE{c d:Cv}(h:cJ c d=true)(ha:c.1=true):ciC c=ciC d:=by
 have e:=B7 h
 unfold cJ at h
 rw[←e,ha]at h
 exact ado h
theorem NN{c d:Cv}(h:cJ c d=true)(ha:c.1=false):oR (lnC c) (lnC d)=true:=by
 have e:=B7 h
 unfold cJ at h
 rw[←e,ha]at h
 exact h
theorem B6{c d:Cv}(h:cJ c d=true):cJ d c=true:=by
 have e:=B7 h
 unfold cJ
 rw[←e,beq_self_eq_true,cond_true]
 cases ha:c.1
 ·exact VG (NN h ha)
 ·rw[cond_true,OE h ha]
  unfold rP
  rw[dT rfl,dT rfl,dT rfl]
  rfl
theorem wb{c d:Cv}(hc:Crp c)(h:cJ c d=true){p:Pt}[Rpd p](hp:fZ c p=true):fZ d p=true:=by
 have e:=B7 h
 rw[gL]at*
 rw[←e]
 cases ha:c.1
 ·rw[ha,cond_false]at hp
  exact abh (hc.l ha) (NN h ha) hp
 ·rw[ha,cond_true]at hp
  rw[cond_true,←OE h ha]
  exact hp
theorem supF_eq{c:Cv}{p q:Pt}[Rpd p][Rpd q](e:pR p=pR q)(h:fZ c p=true):fZ c q=true:=by
 rw[gL]at*
 rw[←e]
 exact h
end RE
theorem D5{c:Cv}(h:Crp c){p q r:Pt}(hp:Sp c p)(hq:Sp c q)(hr:Sp c r)(e:aV p q=0):df c p r=df c q r∧df c r p=df c r q:=by
 obtain⟨K,lt,κ,f,hl,hc,ho,hk⟩:=v7 h
 have ek:=(hk p q hp hq).2 e
 rw[ho p r hp hr,ho q r hq hr,ho r p hr hp,ho r q hr hq,ek]
 exact⟨rfl,rfl⟩
theorem aiy{c:Cv}{p q:Pt}(hp:Sp c p)(hq:Rpd q)(e:aV p q=0):Sp c q:=by
 have:=hp.1
 exact⟨hq,RE.supF_eq (RE.cmpP_0.1 e) hp.2⟩
theorem adZ{p:Pt}(_h:Rpd p):aV p p=0:=RE.cmpP_0.2 rfl
theorem FE{p q:Pt}[Rpd p][Rpd q](e:aV p q=0):aV q p=0:=RE.cmpP_0.2 (RE.cmpP_0.1 e).symm
theorem adG{p q r:Pt}[Rpd p][Rpd q][Rpd r](e:aV p q=0)(e':aV q r=0):aV p r=0:=RE.cmpP_0.2 ((RE.cmpP_0.1 e).trans (RE.cmpP_0.1 e'))
theorem Cq{c:Cv}(h:Crp c){p q:Pt}(hp:Rpd p)(hq:Rpd q)(e:aV p q=0)(ho:onR c p=true):onR c q=true:=by
 obtain⟨h1,h2,h3⟩:=(Ap h hp).1 ho
 have sp:Sp c p:=⟨hp,h1⟩
 have sq:=aiy sp hq e
 rw[Ap h hq]
 rw[(D5 h sp sq h.f e).1]at h2
 rw[(D5 h sp sq h.t e).2]at h3
 exact⟨sq.2,h2,h3⟩
theorem Jt{c:Cv}(h:Crp c){p q:Pt}(hp:Rpd p)(hq:Rpd q)(e:aV p q=0):onR c p=onR c q:=by
 cases h1:onR c p
 ·cases h2:onR c q
  ·rfl
  ·rw[Cq h hq hp (FE e) h2]at h1;cases h1
 ·rw[Cq h hp hq e h1]
section
def jB(c d:BCU):List BP:=bif cJ (dC c) (dC d)then [c.2.2.2.2.1,c.2.2.2.2.2,d.2.2.2.2.1,d.2.2.2.2.2]else(gK (dC c) (dC d)).map enc
def gZ(c d:BCU)(p:BP):Bool:=ik (dC c) (dec p)&&ik (dC d) (dec p)
def fj(c d:BCU):List BP:=dg (dC c) ((jB c d).filter (gZ c d))
theorem l4{c:BCU}(h:vw c):(c.1=true→BdC (ciC (dC c))∧0<(ciC (dC c)).2.2)∧(c.1=false→BdL (lnC (dC c))∧((lnC (dC c)).1≠0∨(lnC (dC c)).2.1≠0)):=by
 refine⟨fun e=>?_,fun e=>?_⟩
 ·obtain⟨l,e1,bl,nl⟩:=cQ (h.1 e)
  show BdC (dec c.2.2.1)∧_
  rw[show ciC (dC c)=dec c.2.2.1 from rfl,e1,az]
  exact⟨bl,nl⟩
 ·obtain⟨l,e1,bl,nl⟩:=eI (h.2 e)
  show BdL (dec c.2.1)∧_
  rw[show lnC (dC c)=dec c.2.1 from rfl,e1,az]
  exact⟨bl,nl⟩
namespace RE
theorem supM_on{c d:BCU}(hc:vw c)(hd:vw d){p:Pt}(hp:p∈gK (dC c) (dC d)):Bd p 1200∧Rpd p∧fZ (dC c) p=true∧fZ (dC d) p=true:=by
 obtain⟨c1,c2⟩:=l4 hc
 obtain⟨d1,d2⟩:=l4 hd
 have ec:(dC c).1=c.1:=rfl
 have ed:(dC d).1=d.1:=rfl
 unfold gK at hp
 rw[ec,ed]at hp
 cases ha:c.1<;>cases hb:d.1<;>rw[ha,hb]at hp
 ·have i1:=(c2 ha).1
  have i2:=(d2 hb).1
  have hp:p∈mp (lnC (dC c)) (lnC (dC d)):=hp
  obtain⟨b,r⟩:=wh.2 p hp
  obtain⟨o1,o2⟩:=aae hp
  refine⟨b.mono (by decide),r,?_,?_⟩
  ·rw[gL,ec,ha];exact o1
  ·rw[gL,ed,hb];exact o2
 ·have i1:=(c2 ha).1
  have i2:=(d1 hb).1
  have hp:p∈kE (lnC (dC c)) (ciC (dC d)):=hp
  obtain⟨b,r⟩:=tY.2 p hp
  obtain⟨o1,o2⟩:=Hu (c2 ha).2 hp
  refine⟨b,r,?_,?_⟩
  ·rw[gL,ec,ha];exact o1
  ·rw[gL,ed,hb];exact o2
 ·have i1:=(c1 ha).1
  have i2:=(d2 hb).1
  have hp:p∈kE (lnC (dC d)) (ciC (dC c)):=hp
  obtain⟨b,r⟩:=tY.2 p hp
  obtain⟨o1,o2⟩:=Hu (d2 hb).2 hp
  refine⟨b,r,?_,?_⟩
  ·rw[gL,ec,ha];exact o2
  ·rw[gL,ed,hb];exact o1
 ·have i1:=(c1 ha).1
  have i2:=(d1 hb).1
  have hp:p∈uO (ciC (dC c)) (ciC (dC d)):=hp
  unfold uO at hp
  cases hq:ij (ciC (dC c)) (ciC (dC d))<;>rw[hq]at hp
  ·have i3:BdL (mr (ciC (dC c)) (ciC (dC d))):=wA
   obtain⟨b,r⟩:=tY.2 p hp
   obtain⟨o1,o2⟩:=Hu (yq hq) hp
   refine⟨b,r,?_,?_⟩
   ·rw[gL,ec,ha];exact o2
   ·rw[gL,ed,hb];exact Nx o1 o2
  ·cases hp
end RE
open RE
theorem gdN.crp{c:BCU}(h:gdN c):Crp (dC c):=ul h.gd
theorem gdN.ne{c:BCU}(h:gdN c):aV (frC (dC c)) (toC (dC c))≠0:=h.2.2.2
theorem gdN.fr{c:BCU}(h:gdN c):okP 500 c.2.2.2.2.1:=h.1.1.2.2.1
theorem gdN.to{c:BCU}(h:gdN c):okP 500 c.2.2.2.2.2:=h.1.1.2.2.2
theorem vZ{c d:BCU}(hc:gdN c)(hd:gdN d):(jB c d).length≤4∧∀x∈jB c d,okP 1200 x∧Spb (dC c) x∧Spb (dC d) x:=by
 have kc:=hc.crp
 have kd:=hd.crp
 unfold jB
 cases hs:cJ (dC c) (dC d)
 ·refine⟨?_,fun x hx=>?_⟩
  ·simp only[cond_false,amO]
   have:∀l c,[BdL l]→[BdC c]→(kE l c).length≤4:=fun l c _ _=>alg tY.1 (by decide)
   obtain⟨c1,c2⟩:=l4 hc.1.2
   obtain⟨d1,d2⟩:=l4 hd.1.2
   have ec:(dC c).1=c.1:=rfl
   have ed:(dC d).1=d.1:=rfl
   unfold gK
   rw[ec,ed]
   cases ha:c.1<;>cases hb:d.1
   ·have i1:=(c2 ha).1
    have i2:=(d2 hb).1
    exact alg wh.1 (by decide)
   ·have i1:=(c2 ha).1
    have i2:=(d1 hb).1
    exact this _ _
   ·have i1:=(c1 ha).1
    have i2:=(d2 hb).1
    exact this _ _
   ·have i1:=(c1 ha).1
    have i2:=(d1 hb).1
    show(uO _ _).length≤4
    unfold uO
    cases hq:ij (ciC (dC c)) (ciC (dC d))
    ·have i3:BdL (mr (ciC (dC c)) (ciC (dC d))):=wA
     exact this _ _
    ·exact anC _
  ·obtain⟨p,hp,rfl⟩:=amY.1 hx
   obtain⟨b,r,o1,o2⟩:=supM_on hc.1.2 hd.1.2 hp
   refine⟨ak6 (aN (by decide) (by decide)),?_,?_⟩
   ·unfold Spb;rw[az];exact⟨r,o1⟩
   ·unfold Spb;rw[az];exact⟨r,o2⟩
 ·have hs':=B6 hs
  refine⟨by simp,fun x hx=>?_⟩
  have:x=c.2.2.2.2.1∨x=c.2.2.2.2.2∨x=d.2.2.2.2.1∨x=d.2.2.2.2.2:=by simpa using hx
  have up:∀{x},okP 500 x→okP 1200 x:=fun h=>cK h (by decide) (by decide)
  rcases this with e|e|e|e<;>rw[e]
  ·have i:Rpd (dec c.2.2.2.2.1:Pt):=kc.f.1
   exact⟨up hc.fr,kc.f,kc.f.1,wb kc hs kc.f.2⟩
  ·have i:Rpd (dec c.2.2.2.2.2:Pt):=kc.t.1
   exact⟨up hc.to,kc.t,kc.t.1,wb kc hs kc.t.2⟩
  ·have i:Rpd (dec d.2.2.2.2.1:Pt):=kd.f.1
   exact⟨up hd.fr,⟨kd.f.1,wb kd hs' kd.f.2⟩,kd.f⟩
  ·have i:Rpd (dec d.2.2.2.2.2:Pt):=kd.t.1
   exact⟨up hd.to,⟨kd.t.1,wb kd hs' kd.t.2⟩,kd.t⟩
theorem sw{c d:BCU}(hc:gdN c)(hd:gdN d){x:BP}(hx:x∈fj c d):x∈jB c d∧okP 1200 x∧Spb (dC c) x∧Spb (dC d) x∧onR (dC c) (dec x)=true∧onR (dC d) (dec x)=true:=by
 obtain⟨hm,hk⟩:=an9.1 (jp hx)
 obtain⟨h0,h1,h2⟩:=(vZ hc hd).2 x hm
 obtain⟨k1,k2⟩:=ale.1 hk
 refine⟨hm,h0,h1,h2,?_,?_⟩
 ·rw[←nG hc.crp h1.1]
  exact ale.2 ⟨h1.2,k1⟩
 ·rw[←nG hd.crp h2.1]
  exact ale.2 ⟨h2.2,k2⟩
theorem HD{c d:BCU}{x:BP}(hc:gdN c)(hd:gdN d)(hr:Rpd (dec x:Pt))(h1:onR (dC c) (dec x)=true)(h2:onR (dC d) (dec x)=true):gZ c d x=true:=by
 rw[←nG hc.crp hr]at h1
 rw[←nG hd.crp hr]at h2
 exact ale.2 ⟨(ale.1 h1).2,(ale.1 h2).2⟩
theorem Nc{c d:BCU}(hc:gdN c)(hd:gdN d):∀x∈(jB c d).filter (gZ c d),Rpd (dec x:Pt)∧onP (dC c) (dec x)=true:=fun x hx=>by
 obtain⟨hm,hk⟩:=an9.1 hx
 obtain⟨h0,h1,h2⟩:=(vZ hc hd).2 x hm
 exact⟨h1.1,ale.2 ⟨h1.2,(ale.1 hk).1⟩⟩
end
section
open RE
def yN(c:BCU):BP→List BP→List BCU
 |f,[]=>[Ch c f c.2.2.2.2.2]
 |f,p::r=>bif il p c.2.2.2.2.1||il p c.2.2.2.2.2 then yN c f r else Ch c f p::yN c p r
def acd(c:BCU)(l:List BP):List BCU:=yN c c.2.2.2.2.1 (dg (dC c) l)
def Z7(c:BCU)(l:List BP):Bool:=l.any fun p=>!onP (dC c) (dec p)
def rS(c:BCU)(l:List BP):List BCU:=bif Z7 c l then []else acd c l
def ajG(c:BCU)(l:List BP):Int:=bif Z7 c l then 1 else 0
section
variable {c:BCU} (h:gdN c) {l:List BP} (ho:∀x∈l,Rpd (dec x:Pt)∧onR (dC c) (dec x)=true)
include h ho
omit h ho in
end
end
section
open RE
def frB(c:BCU):BP:=c.2.2.2.2.1
def toB(c:BCU):BP:=c.2.2.2.2.2
def D8(d p:BCU):Bool:=(onP (dC d) (dec (frB p))&&onP (dC d) (dec (toB p)))&&(bif d.1 then !il (frB (dS p)) (toB (dS d))&&decide (gF a8 (ptd (dec (dS d).2.2.1) (dec (frB (dS p)))) (ptd (dec (dS d).2.2.1) (dec (toB (dS p)))) (ptd (dec (dS d).2.2.1) (dec (toB (dS d))))≤0)else true)
def yi(c d:BCU)(l:List BP):Bool:=(rS c l).any (D8 d)
def oh(c d:BCU):Bool:=cJ (dC c) (dC d)&&yi c d (fj c d)
theorem T9{p q r:Pt}[Rpd p][Rpd q][Rpd r]:oo (aV r p) (aV p q)=oo (aV q p) (aV p r):=by
 rw[uw (p:=r) (q:=p),uw (p:=q) (q:=p)]
 have h1:=pZ p r
 have h2:=pZ p q
 unfold oo
 rw[am7]
 simp only[am3,ama]
 omega
theorem PA{d:BCU}(hf:Rpd (frC (dC d)))(ht:Rpd (toC (dC d))){p:Pt}(hp:Rpd p):onP (dC (dX d)) p=onP (dC d) p:=by
 obtain⟨ar,li,ci,cw,fr,to⟩:=d
 unfold onP
 have e1:fZ (dC (dX (ar,li,ci,cw,fr,to))) p=fZ (dC (ar,li,ci,cw,fr,to)) p:=rfl
 rw[e1]
 congr 1
 cases ar
 ·show oo (aV (dec to) p) (aV p (dec fr))=oo (aV (dec fr) p) (aV p (dec to))
  have i1:Rpd (dec fr):=hf
  have i2:Rpd (dec to):=ht
  exact T9
 ·cases cw<;>rfl
theorem gdN.rev{d:BCU}(h:gdN d):gdN (dX d):=by
 obtain⟨⟨h1,h2,h3⟩,h4,h5,h6⟩:=h
 have r1:=jO h1.2.2.1
 have r2:=jO h1.2.2.2
 refine⟨⟨Bq _ h1,h2,h3⟩,h5,h4,fun e=>h6 ?_⟩
 have i1:Rpd (frC (dC d)):=r1
 have i2:Rpd (toC (dC d)):=r2
 exact FE (p:=toC (dC d)) (q:=frC (dC d)) e
theorem Hg{d:BCU}(h:gdN d){p:Pt}(hp:Rpd p):onR (dC (dX d)) p=onR (dC d) p:=by
 rw[←nG h.rev.crp hp,←nG h.crp hp,PA h.crp.f.1 h.crp.t.1 hp]
end
def nh(d p q r:Rat):Int:=sgQ (d-p-q-r*r,-2*r,-2*r,-2,p,q)
def qY(x y z r:Rat):Int:=sgQ (x+y-z-r*r,2,-(2*r),0,x*y,z)
def VE(a b c d:Rat):Int:=sgQ (a+b-(c+d),2,-2,0,a*b,c*d)
def TG(a b c r:Rat):Int:=bif decide (nh c a b 0>0)then nh c a b r else VE a b c (r*r)
def mx2(a b:Int):Int:=if b>a then b else a
theorem B8(a b:Int):mn2 a b=min a b:=by unfold mn2;omega
theorem L6(a b:Int):mx2 a b=max a b:=by unfold mx2;omega
theorem T0(a b c d:Int):JP a b c d=min (min (min a b) c) d:=by unfold JP;simp only[B8]
def FX(b:Bool)(x:Int):Int:=bif b then x else 1
def ftv(s a:Cv):Rat×Rat:=d7 (lnC s) (ctr (ciC a))
def wyv(c d:Cv):Rat×Rat:=cS (ctr (ciC c)) (ctr (ciC d))
def Cp(s a:Cv)(r:Rat):Int:=FX (onP s (atP (ftv s a))) (rI a (ftv s a) r)
def nT(c d:Cv):Bool:=d9 c (wyv c d)
def fT(c d:Cv):Bool:=d9 c (bkV (wyv c d))
def nD(c d:Cv):Rat:=bI (wyv c d) (wyv c d)
def xY(c d:Cv)(r:Rat):Int:=bif decide (nD c d=0)then 1 else
 min (min (FX (nT c d&&d9 d (bkV (wyv c d))) (max (nh (nD c d) (ciC c).2.2 (ciC d).2.2 r) (qY (ciC c).2.2 (ciC d).2.2 (nD c d) r)))
  (FX (nT c d&&d9 d (wyv c d)) (max (qY (nD c d) (ciC d).2.2 (ciC c).2.2 r) (nh (ciC c).2.2 (nD c d) (ciC d).2.2 r))))
  (FX (fT c d&&d9 d (bkV (wyv c d))) (max (qY (nD c d) (ciC c).2.2 (ciC d).2.2 r) (nh (ciC d).2.2 (nD c d) (ciC c).2.2 r)))
theorem OK(q:Qd):sgQ q≤1:=(Hn _ _ _ _ _ _).2
def tW(c d:Cv)(r:Rat):Int:=min (min (min (RE.poiE d (RE.pR (frC c)) r) (RE.poiE d (RE.pR (toC c)) r)) (RE.poiE c (RE.pR (frC d)) r)) (RE.poiE c (RE.pR (toC d)) r)
def l7(c d:Cv)(r:Rat):Int:=bif c.1 then(bif d.1 then min (tW c d r) (xY c d r)else min (tW c d r) (Cp d c r))else bif d.1 then min (tW c d r) (Cp c d r)else tW c d r
def Kp(m:Bool)(o:Int)(r:Rat):Int:=bif decide (r<0)then 1 else bif m then-aC r 0 else o
def n3P(x y z:BR):Prop:=ok Rat 2000 x∧ok Rat 2000 y∧ok Rat 2000 z∧0≤ah x∧0≤ah y∧0≤ah z
instance (x y z:BR):Decidable (n3P x y z):=by unfold n3P;infer_instance
def n4P(x y z r:BR):Prop:=n3P x y z∧ok Rat 2000 r∧0≤ah r
instance (x y z r:BR):Decidable (n4P x y z r):=by unfold n4P;infer_instance
theorem adX{x y z:BR}(h:n3P x y z):∃a b c:Rat,x=enc a∧y=enc b∧z=enc c∧Bd a 2000∧Bd b 2000∧Bd c 2000∧0≤a∧0≤b∧0≤c:=by
 obtain⟨h1,h2,h3,h4,h5,h6⟩:=h
 obtain⟨a,rfl,ba⟩:=aF h1
 obtain⟨b,rfl,bb⟩:=aF h2
 obtain⟨c,rfl,bc⟩:=aF h3
 rw[eT,cB]at h4 h5 h6
 exact⟨a,b,c,rfl,rfl,rfl,ba,bb,bc,h4,h5,h6⟩
theorem YP{x y z r:BR}(h:n4P x y z r):∃a b c e:Rat,(x=enc a∧y=enc b∧z=enc c∧r=enc e)∧Bd a 2000∧Bd b 2000∧Bd c 2000∧Bd e 2000∧0≤a∧0≤b∧0≤c∧0≤e:=by
 obtain⟨h,h1,h2⟩:=h
 obtain⟨a,b,c,e1,e2,e3,ba,bb,bc,na,nb,nc⟩:=adX h
 obtain⟨e,rfl,be⟩:=aF h1
 rw[eT,cB]at h2
 exact⟨a,b,c,e,⟨e1,e2,e3,rfl⟩,ba,bb,bc,be,na,nb,nc,h2⟩
theorem aeU{a b c:Rat}{i j k:Nat}[ba:Bd a i][bb:Bd b j][bc:Bd c k](hi:i≤2000)(hj:j≤2000)(hk:k≤2000)(na:0≤a)(nb:0≤b)(nc:0≤c):n3P (am a) (am b) (am c):=
 ⟨ak6 (okd hi (by decide)),ak6 (okd hj (by decide)),ak6 (okd hk (by decide)),by rwa [cB],by rwa [cB],by rwa [cB]⟩
theorem afe{a b c e:Rat}{i j k l:Nat}[ba:Bd a i][bb:Bd b j][bc:Bd c k][be:Bd e l](hi:i≤2000)(hj:j≤2000)(hk:k≤2000)(hl:l≤2000)(na:0≤a)(nb:0≤b)(nc:0≤c)(ne:0≤e):n4P (am a) (am b) (am c) (am e):=
 ⟨aeU hi hj hk na nb nc,ak6 (okd hl (by decide)),by rwa [cB]⟩
theorem QK{a b c e:Rat}{i j k l:Nat}[ba:Bd a i][bb:Bd b j][bc:Bd c k][be:Bd e l](hi:i≤2000)(hj:j≤2000)(hk:k≤2000)(hl:l≤2000)(na:0≤a)(nb:0≤b)(nc:0≤c)(ne:0≤e):decide (n4P (am a) (am b) (am c) (am e))=true:=ak3 (afe hi hj hk hl na nb nc ne)
def Fw(s a:BCU):Prop:=mG s∧mG a∧s.1=false∧a.1=true
instance (s a:BCU):Decidable (Fw s a):=by unfold Fw;infer_instance
def QC(c d:BCU):Prop:=mG c∧mG d∧c.1=true∧d.1=true
instance (c d:BCU):Decidable (QC c d):=by unfold QC;infer_instance
def fd(c d:BCU)(r:Rat):Int:=Kp (decide (((fj c d).length:Int)>0)||oh c d) (l7 (dC c) (dC d) r) r
namespace RE
theorem rA{a b:RE}(ha:0≤a)(hb:0≤b):sg (a*a-b*b)=sg (a-b):=by
 have e:a*a-b*b=(a+b)*(a-b):=by grind
 rcases fO (show 0≤a+b by grind)with h|h
 ·rw[e,mR h]
 ·rw[show a=0 by grind,show b=0 by grind,zero_mul]
theorem ab8(x:RE){r:RE}(hr:0≤r):max (sg (x-r)) (sg (-x-r))=sg (x*x-r*r):=by
 rcases lt_or_ge x 0 with h|h
 ·have:=rA (show 0≤ -x by grind) hr
  rw[show x*x= -x* -x by grind,this,Int.max_eq_right (tZ (by grind))]
 ·rw[rA h hr,Int.max_eq_left (tZ (by grind))]
theorem Vx{x:RE}(h:x≤0){r:RE}(hr:0≤r):sg (-x-r)=sg (x*x-r*r):=by
 rw[←rA (show 0≤ -x by grind) hr,show-x* -x=x*x by grind]
theorem wT{d p q r:Rat}(hd:0≤d)(hp:0≤p)(hq:0≤q)(hr:0≤r):nh d p q r=sg (rq d-rq p-rq q-of r):=by
 have a:=dw hd
 have b:=dw hp
 have c:=dw hq
 have t:=gj p
 have u:=gj q
 have w:=gi.2 hr
 unfold nh
 rw[wX hp hq,show rq d-rq p-rq q-of r=rq d-(rq p+rq q+of r) by grind,←rA (gj d) (show 0≤rq p+rq q+of r by
  have:of 0=0:=rfl
  grind)]
 refine congrArg sg ?_
 unfold vq vQ
 have two:of (-2)= -2:=rfl
 simp only[of_sub,aH,two]
 grind
theorem Fh{x y z r:Rat}(hx:0≤x)(hy:0≤y)(hz:0≤z)(hr:0≤r):qY x y z r=sg (rq x+rq y-rq z-of r):=by
 have a:=dw hx
 have b:=dw hy
 have c:=dw hz
 have t:=gj x
 have u:=gj y
 have v:=gj z
 have w:0≤of r:=gi.2 hr
 unfold qY
 rw[wX (alp hx hy) hz,show rq x+rq y-rq z-of r=rq x+rq y-(rq z+of r) by grind,←rA (show 0≤rq x+rq y by grind) (show 0≤rq z+of r by grind)]
 refine congrArg sg ?_
 unfold vq vQ
 have two:of 2=2:=rfl
 have zo:of 0=0:=rfl
 simp only[of_sub,of_add,aH,of_neg,two,zo,Bv hx hy]
 grind
theorem abf{a b c d:Rat}(ha:0≤a)(hb:0≤b)(hc:0≤c)(hd:0≤d):VE a b c d=sg (rq a+rq b-rq c-rq d):=by
 have e1:=dw ha
 have e2:=dw hb
 have e3:=dw hc
 have e4:=dw hd
 have t:=gj a
 have u:=gj b
 have v:=gj c
 have w:=gj d
 unfold VE
 rw[wX (alp ha hb) (alp hc hd),show rq a+rq b-rq c-rq d=rq a+rq b-(rq c+rq d) by grind,←rA (show 0≤rq a+rq b by grind) (show 0≤rq c+rq d by grind)]
 refine congrArg sg ?_
 unfold vq vQ
 have two:of 2=2:=rfl
 have mtwo:of (-2)= -2:=rfl
 have zo:of 0=0:=rfl
 simp only[of_sub,of_add,two,mtwo,zo,Bv ha hb,Bv hc hd]
 grind
theorem Tf{r:Rat}(hr:0≤r):rq (r*r)=of r:=C0 _ _ (gj _) (gi.2 hr) (by rw[dw (alp hr hr),aH])
theorem MT{a b c r:Rat}(ha:0≤a)(hb:0≤b)(hc:0≤c)(hr:0≤r):TG a b c r=sg ((rq a+rq b-rq c)*(rq a+rq b-rq c)-of r*of r):=by
 have w:0≤of r:=gi.2 hr
 have zo:of 0=0:=rfl
 unfold TG
 rw[wT hc ha hb (by decide),zo]
 rcases bg (rq c-rq a-rq b-0)with⟨h,e⟩|⟨h,e⟩|⟨h,e⟩<;>rw[e]
 ·show nh c a b r=_
  rw[wT hc ha hb hr,←Vx (show rq a+rq b-rq c≤0 by grind) w]
  exact congrArg sg (by grind)
 all_goals
  show VE a b c (r*r)=_
  rw[abf ha hb hc (alp hr hr),Tf hr,rA (show 0≤rq a+rq b-rq c by grind) w]
theorem EI{a b c r:Rat}(ha:0≤a)(hb:0≤b)(hc:0≤c)(hr:0≤r):max (nh c a b r) (qY a b c r)=TG a b c r:=by
 rw[wT hc ha hb hr,Fh ha hb hc hr,MT ha hb hc hr,←ab8 _ (gi.2 hr),Int.max_comm]
 exact congrArg (max _) (congrArg sg (by grind))
end RE
section
open RE
theorem BE{s a:BCU}(hs:vw s)(ha:vw a)(e:s.1=false)(e':a.1=true):Bd (ftv (dC s) (dC a)) 200:=by
 obtain⟨bl,_⟩:=(l4 hs).2 e
 obtain⟨bc,_⟩:=(l4 ha).1 e'
 have x1:Bd (mh (lnC (dC s)) (ctr (ciC (dC a)))) _:=(inferInstance:Bd (((lnC (dC s)).1*(ciC (dC a)).1+(lnC (dC s)).2.1*(ciC (dC a)).2.1-(lnC (dC s)).2.2)/((lnC (dC s)).1*(lnC (dC s)).1+(lnC (dC s)).2.1*(lnC (dC s)).2.1)) _)
 exact(inferInstance:Bd (((ciC (dC a)).1-mh (lnC (dC s)) (ctr (ciC (dC a)))*(lnC (dC s)).1,(ciC (dC a)).2.1-mh (lnC (dC s)) (ctr (ciC (dC a)))*(lnC (dC s)).2.1):Rat×Rat) _).mono (by decide)
theorem E2(x:RE):sg x≤1:=(X7 x).2
theorem Cg{c:BCU}(h:gdN c){v:Rat×Rat}(hv:Bd v 200){r:Rat}(hr:0≤r):rI (dC c) v r=sg (vR (lP (dC c) v)-of (r*r)):=by
 unfold rI
 rw[dF (show ¬r<0 by grind),cond_false,cmpTR_re (BG (bv:=hv) h.1.1).2.nn]
theorem Ja{c d:BCU}(hc:gdN c)(hd:gdN d)(h:fj c d=[]):oh c d=false:=by
 cases hN:oh c d
 ·rfl
 ·exfalso
  unfold oh at hN
  obtain⟨hs,ho⟩:=ale.1 hN
  rw[h]at ho
  have ho:([Ch c c.2.2.2.2.1 c.2.2.2.2.2].any (D8 d))=true:=ho
  have h1:onP (dC d) (dec c.2.2.2.2.1)=true:=by
   simp only[aoa,List.any_nil,Bool.or_false]at ho
   unfold D8 at ho
   exact(ale.1 (ale.1 ho).1).1
  have r:Rpd (dec c.2.2.2.2.1:Pt):=hc.crp.f.1
  have hx:c.2.2.2.2.1∈jB c d:=by unfold jB;rw[hs];simp
  have k:=HD hc hd r (ac2 hc).1 (by rw[←nG hd.crp r];exact h1)
  obtain⟨y,hy,_⟩:=(HU hc.crp hc.ne (Nc hc hd)).2 _ (an9.2 ⟨hx,k⟩)
  have hy:y∈fj c d:=hy
  rw[h]at hy
  cases hy
end
section
open RE
theorem TB{c d:BCU}(hc:gdN c)(hd:gdN d){x:BP}(hx:x∈fj c d):Spb (dC c) x∧Spb (dC d) x:=by
 obtain⟨_,_,s1,s2,_⟩:=sw hc hd hx
 exact⟨s1,s2⟩
end
section
namespace RE
theorem ajR(A B x y m:RE):B*(m*(B*x-A*y))=m*(B*B*x+A*(A*x)-A*(A*x+B*y)):=by grind
theorem ai2(A B x y m:RE): -A*(m*(B*x-A*y))=m*(A*A*y+B*(B*y)-B*(A*x+B*y)):=by grind
theorem ajT(A B x y a b:RE):A*(x-a)+B*(y-b)=(A*x+B*y)-(A*a+B*b):=by grind
theorem aj6(A x m B:RE):m*(B*B*x+A*(A*x)-A*0)=m*(A*A+B*B)*x:=by grind
theorem aks(A y m B:RE):m*(A*A*y+B*(B*y)-B*0)=m*(A*A+B*B)*y:=by grind
theorem ajr(f g u v s p q:RE):(f+u*s-p)*(f+u*s-p)+(g+v*s-q)*(g+v*s-q)=((f-p)*(f-p)+(g-q)*(g-q))+((f-p)*u+(g-q)*v)*s+((f-p)*u+(g-q)*v)*s+(u*u+v*v)*(s*s):=by grind
theorem akC(a b:RE):(a-b)*(a+b)=a*a-b*b:=by grind
theorem ahL(x f:RE):f+(x-f)=x:=by grind
theorem aiT(s u f:RE):f+u* -s=f+ -u*s:=by grind
theorem ajS(x y p q a b m n:RE):((1+1)*(p-a))*x+((1+1)*(q-b))*y=(((x-a)*(x-a)+(y-b)*(y-b))-m)-(((x-p)*(x-p)+(y-q)*(y-q))-n)+((p*p+q*q-n)-(a*a+b*b-m)):=by grind
theorem ajd(m n a b:RE):(m-m)-(n-n)+(b-a)=b-a:=by grind
theorem akr(d k:RE):d+k-d=k:=by grind
theorem Ol(a b:RE):a- -b=a+b:=by grind
theorem vd{x y:RE}(h:x*y=0):x=0∨y=0:=by
 rcases lt_lin.tri x 0 with a|a|a
 ·rcases lt_lin.tri y 0 with b|b|b
  ·have e:=dh x y
   rw[h,da,gh a,gh b]at e
   exact absurd e (by decide)
  ·exact .inr b
  ·have e:=dh x y
   rw[h,da,gh a,dk b]at e
   exact absurd e (by decide)
 ·exact .inl a
 ·rcases lt_lin.tri y 0 with b|b|b
  ·have e:=dh x y
   rw[h,da,dk a,gh b]at e
   exact absurd e (by decide)
  ·exact .inr b
  ·have e:=dh x y
   rw[h,da,dk a,dk b]at e
   exact absurd e (by decide)
section
variable {l c:Ln}
theorem aaD(hl:l.1≠0∨l.2.1≠0){v:PE}(h1:iG l v)(h2:fW c v):∃p∈kE l c,pR p=v:=by
 have hn:=m9 hl
 have t0:vlL l c.1 c.2.1/ck l*ck l=vlL l c.1 c.2.1:=als hn
 have e1:l.1*ftX l c+l.2.1*ftY l c=l.2.2:=by
  unfold ftX ftY
  generalize vlL l c.1 c.2.1/ck l=s at*
  unfold ck vlL at t0
  grind
 have e3:(ftX l c-c.1)*l.2.1+(ftY l c-c.2.1)* -l.1=0:=by
  unfold ftX ftY
  grind
 have k0:eh l c*ck l=c.2.2-yg l c:=als hn
 have hz:of l.1*(v.1-of (ftX l c))+of l.2.1*(v.2-of (ftY l c))=0:=by
  unfold iG at h1
  rw[ajT,h1,←aH,←aH,←of_add,e1,sub_self]
 have hm:of (ck l)⁻¹*(of l.1*of l.1+of l.2.1*of l.2.1)=1:=by
  rw[←aH,←aH,←of_add,←aH,←Bf]
  exact congrArg of (Rat.inv_mul_cancel _ hn)
 obtain⟨t,ht⟩:∃t,t=of (ck l)⁻¹*(of l.2.1*(v.1-of (ftX l c))-of l.1*(v.2-of (ftY l c))):=⟨_,rfl⟩
 have w1:of l.2.1*t=v.1-of (ftX l c):=by rw[ht,ajR,hz,aj6,hm,one_mul]
 have w2: -of l.1*t=v.2-of (ftY l c):=by rw[ht,ai2,hz,aks,hm,one_mul]
 have v1:v.1=of (ftX l c)+of l.2.1*t:=by rw[w1,ahL]
 have v2':v.2=of (ftY l c)+of (-l.1)*t:=by rw[of_neg,w2,ahL]
 have hq:of (ck l)*(t*t)=of (eh l c*ck l):=by
  have h2':=h2
  unfold fW frm at h2'
  dsimp only at h2'
  rw[v1,v2',ajr,←of_sub,←of_sub,←aH,←aH,←aH,←aH,←aH,←aH,←of_add,←of_add,←of_add,e3,nf,zero_mul,add_zero,add_zero,show l.2.1*l.2.1+ -l.1* -l.1=ck l by unfold ck;grind]at h2'
  have e4:(ftX l c-c.1)*(ftX l c-c.1)+(ftY l c-c.2.1)*(ftY l c-c.2.1)=yg l c:=rfl
  rw[e4]at h2'
  rw[k0,of_sub,←h2']
  rw[akr]
 have tt:t*t=of (eh l c):=uo hn (by rw[hq,←aH,amq])
 have kn:0≤eh l c:=by
  rcases(by grind:0≤eh l c∨eh l c<0)with h|h
  ·exact h
  ·have:=hZ h
   rw[←tt]at this
   exact absurd this (gn t)
 have dd:(qA l=l.2.1∧qD l= -l.1)∨(qA l= -l.2.1∧qD l=l.1):=by
  unfold qA qD
  cases Gw l
  ·exact .inl ⟨rfl,rfl⟩
  ·exact .inr ⟨rfl,anP _⟩
 have hv:t=rq (eh l c)∨t= -rq (eh l c):=by
  have hs:=dw kn
  have:(t-rq (eh l c))*(t+rq (eh l c))=0:=by rw[akC,tt,hs,sub_self]
  rcases vd this with h|h
  ·exact .inl (gg _ _ h)
  ·refine .inr (gg _ _ ?_)
   rw[←h,Ol]
 unfold kE
 rw[dF (show ¬eh l c<0 by grind)]
 by_cases hk0:eh l c=0
 ·rw[dT hk0]
  refine⟨atP (ftL l c),by simp,?_⟩
  have t00:t=0:=by
   rw[hk0,nf]at tt
   rcases vd tt with h|h<;>exact h
  rw[oN]
  refine amp ?_ ?_
  ·rw[v1,t00,mul_zero,add_zero];rfl
  ·rw[v2',t00,mul_zero,add_zero];rfl
 ·rw[dF hk0]
  have neg2:∀f u:Rat,v2 f (-u) (eh l c)=of f+of u* -rq (eh l c):=fun f u=>by
   unfold v2
   rw[of_neg,aiT]
  rcases dd with⟨g1,g2⟩|⟨g1,g2⟩<;>rcases hv with ht'|ht'
  ·refine⟨lcN l c,by simp,?_⟩
   unfold lcN
   rw[oJ,g1,g2]
   exact amp (by rw[v1,ht'];rfl) (by rw[v2',ht'];rfl)
  ·refine⟨lcM l c,by simp,?_⟩
   unfold lcM
   rw[oJ,g1,g2,neg2,neg2]
   exact amp (by rw[v1,ht']) (by rw[v2',ht'])
  ·refine⟨lcM l c,by simp,?_⟩
   unfold lcM
   rw[oJ,g1,g2,anP]
   exact amp (by rw[v1,ht'];rfl) (by rw[v2',ht'];rfl)
  ·refine⟨lcN l c,by simp,?_⟩
   unfold lcN
   rw[oJ,g1,g2]
   refine amp ?_ ?_
   ·show v2 _ (-l.2.1) _=_
    rw[neg2,v1,ht']
   ·show v2 _ l.1 _=_
    rw[v2',ht',show l.1= -(-l.1) from(anP _).symm,neg2,anP]
end
theorem aaH{c d:Ln}{v:PE}(hc:fW c v)(hd:fW d v):iG (mr c d) v:=by
 have o2:of 2=1+1:=by
  rw[←Bf,←of_add]
  exact congrArg of (by decide+kernel)
 unfold fW frm at hc hd
 unfold iG mr qC
 dsimp only at*
 simp only[of_sub,aH,of_add,o2]
 rw[ajS v.1 v.2 (of d.1) (of d.2.1) (of c.1) (of c.2.1) (of c.2.2) (of d.2.2),hc,hd,ajd]
end RE
end
end Go.Proofs.YtnkndpoojnflmaaGreat
end
