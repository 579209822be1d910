/- The answer for a point's distance is about the least square of all distances. -/
import Derived.Test.YtnkndpoojnflmaaGreatG15
import Derived.Test.YtnkndpoojnflmaaGreatG13
noncomputable section
namespace Go.Proofs.YtnkndpoojnflmaaGreat
open Go.RowKit Go.IntKind
theorem amP:type_of% @List.mem_filter:=@List.mem_filter
theorem an4:type_of% @List.any_cons:=@List.any_cons
section
namespace RE
theorem M2{c:Cv}(ha:c.1=false):onE c=m9 (lnC c) (pR (frC c)) (pR (toC c)):=by funext p;unfold onE;rw[ha];rfl
theorem LJ{c:Cv}(ha:c.1=true):onE c=lX (ciC c) (pR (ccF c)) (pR (ccT c)):=by funext p;unfold onE;rw[alr ha]
structure ai6 (c:Cv):Prop where
 q:0<(ciC c).2.2
 u:fA (ciC c) (pR (ccF c))
 w:fA (ciC c) (pR (ccT c))
 ne:frm (ciC c) (pR (ccF c))≠frm (ciC c) (pR (ccT c))
theorem akr{c:Cv}(h:GdE c)(ha:c.1=true):ai6 c:=by
 have hf:=h.f
 have ht:=h.t
 obtain⟨hq,oF,oT⟩:=h.q ha
 have oF:fA (ciC c) (pR (frC c)):=oF
 have oT:fA (ciC c) (pR (toC c)):=oT
 refine⟨hq,by rcases pq c with⟨e,_⟩|⟨e,_⟩<;>rw[e]<;>assumption,by rcases pq c with⟨_,e⟩|⟨_,e⟩<;>rw[e]<;>assumption,fun e=>?_⟩
 have e1:pR (ccF c)=pR (ccT c):=amc (gD _ _ _ (congrArg Prod.fst e)) (gD _ _ _ (congrArg Prod.snd e))
 rcases pq c with⟨g1,g2⟩|⟨g1,g2⟩<;>rw[g1,g2]at e1
 ·exact h.ne e1
 ·exact h.ne e1.symm
theorem F6(c:Ln)(p:PE):dtE (frm c p) (frm c p)=dsE p (vE (ctr c)):=rfl
theorem XN(p q:PE):0≤dsE p q:=by
 have h1:=fQ (p.1-q.1)
 have h2:=fQ (p.2-q.2)
 unfold dsE
 grind
theorem abg{c:Ln}(hq:0<c.2.2){p:PE}(hp:p≠vE (ctr c)):∃u k q,0<u∧0<k∧u*u=dsE p (vE (ctr c))∧frm c q=((frm c p).1*k,(frm c p).2*k)∧fA c q∧dtE (frm c q) (frm c p)=u*rq c.2.2:=by
 have hn:=XN p (vE (ctr c))
 have h0:dsE p (vE (ctr c))≠0:=fun e=>by
  obtain⟨a,b⟩:=sN e
  exact hp (amc (by grind) (by grind))
 have hu:=vO hn
 have hu0:=lD (dsE p (vE (ctr c)))
 generalize vN (dsE p (vE (ctr c)))=u at hu hu0
 have up:0<u:=by
  rcases fh hu0 with h|h
  ·exact h
  ·exact absurd (by rw[←hu,h,zero_mul]) h0
 obtain⟨k,kp,ek⟩:=Mp up
 have tp:=Ey hq
 have tt:=dB (m:=c.2.2) (by grind)
 have hd:dtE (frm c p) (frm c p)=u*u:=by rw[F6,hu]
 unfold dtE at hd
 refine⟨u,rq c.2.2*k,((frm c p).1*(rq c.2.2*k)+of c.1,(frm c p).2*(rq c.2.2*k)+of c.2.1),up,mul_pos tp kp,hu,?_,?_,?_⟩
 ·exact amc (by show _+_-_=_;grind) (by show _+_-_=_;grind)
 ·show(_+_-_)*(_+_-_)+(_+_-_)*(_+_-_)=_
  generalize (frm c p).1=a at hd ⊢
  generalize (frm c p).2=b at hd ⊢
  generalize rq c.2.2=t at tt ⊢
  have:(a*(t*k))*(a*(t*k))+(b*(t*k))*(b*(t*k))=(a*a+b*b)*(k*k)*(t*t):=by grind
  have e2:u*u*(k*k)=1:=by
   have:u*u*(k*k)=(u*k)*(u*k):=by grind
   rw[this,ek,one_mul]
  rw[hd,e2,tt]at this
  grind
 ·show(_+_-_)*_+(_+_-_)*_=_
  generalize (frm c p).1=a at hd ⊢
  generalize (frm c p).2=b at hd ⊢
  generalize rq c.2.2=t at tt ⊢
  have:(a*(t*k))*a+(b*(t*k))*b=(a*a+b*b)*(k*t):=by grind
  have e2:u*u*(k*t)=u*t*(u*k):=by grind
  rw[hd,e2,ek]at this
  grind
theorem afe{c:Ln}{q p:PE}{u:RE}(hq:0≤c.2.2)(o:fA c q)(hu:0≤u)(e:u*u=dsE p (vE (ctr c))):dtE (frm c q) (frm c p)≤u*rq c.2.2:=by
 have h1:=Fe (frm c q).1 (frm c q).2 (frm c p).1 (frm c p).2
 have h2:(frm c q).1*(frm c q).1+(frm c q).2*(frm c q).2=of c.2.2:=o
 have h3:(frm c p).1*(frm c p).1+(frm c p).2*(frm c p).2=u*u:=by rw[e];rfl
 have tt:=dB hq
 have t0:=gh c.2.2
 rw[h2,h3,←tt]at h1
 have h4:=CI _ _ _ h1
 rcases lt_or_ge 0 (dtE (frm c q) (frm c p))with g|g
 ·exact Aa _ _ (le_of_lt g) (bg hu t0) (by
   show dtE _ _*dtE _ _≤_
   unfold dtE
   grind)
 ·exact YV _ _ g (bg hu t0)
open Classical in
theorem adw{c:Cv}(h:GdE c)(p:PE):∃m,Mn (onE c) p m∧∀r:Rat,0≤r→poiE c p r=sg (m-of (r*r)):=by
 have hf:=h.f
 have ht:=h.t
 have hend:∀r,SJ c p r=sg (mnE (dsE (pR (frC c)) p) (dsE (pR (toC c)) p)-of (r*r)):=fun r=>XX _ _ _
 cases ha:c.1
 ·obtain⟨hl,oF,oT⟩:=h.l ha
  have hn:0<nrE (lnC c):=B0 hl
  rw[M2 ha]
  by_cases hb:btE (tE (lnC c) (pR (frC c))) (tE (lnC c) (pR (toC c))) (tE (lnC c) p)
  ·obtain⟨k,kp,ek⟩:=Mp hn
   refine⟨_,wc hn hb kp ek,fun r hr=>?_⟩
   unfold poiE besE
   rw[dF (show ¬r<0 by grind),dT hb,ha]
   show sg _=_
   rw[←mW hn (_-of (r*r)),aE (r*r),PJ,ek,mul_one]
   rfl
  ·refine⟨_,Is hn oF oT hb,fun r hr=>?_⟩
   unfold poiE besE
   rw[dF (show ¬r<0 by grind),dF hb,ha]
   exact hend r
 ·have g:=akr h ha
  have hq:=g.q
  rw[LJ ha]
  by_cases hz:p=vE (ctr (ciC c))
  ·refine⟨of (ciC c).2.2,⟨⟨_,⟨g.u,(pH _ _).1⟩,by rw[hz];exact g.u⟩,fun q hq=>by rw[hz];exact lI hq.1⟩,fun r hr=>?_⟩
   unfold poiE
   rw[dF (show ¬r<0 by grind),dT hz,ha]
   show aD _ _=_
   rw[←of_sub,sg_of]
   unfold aD
   grind
  ·obtain⟨u,k,q,up,kp,eu,eq,oq,dq⟩:=abg hq hz
   have tt:=dB (m:=(ciC c).2.2) (by grind)
   cases hw:witE c p
   ·refine⟨mnE (dsE (pR (frC c)) p) (dsE (pR (toC c)) p),?_,fun r hr=>?_⟩
    ·have hd:¬mH (frm (ciC c) (pR (ccF c))) (frm (ciC c) (pR (ccT c))) (frm (ciC c) p)=true:=fun e=>by
      unfold witE at hw
      rw[e]at hw
      cases hw
     have res:=Cb (v:=p) (S:=lX (ciC c) (pR (ccF c)) (pR (ccT c))) ⟨g.u,(pH _ _).1⟩ ⟨g.w,(pH _ _).2⟩ (fun x hx=>(If g.u g.w hx.1 g.ne hx.2 hd).imp (AV hx.1 g.u) (AV hx.1 g.w))
     rcases pq c with⟨g1,g2⟩|⟨g1,g2⟩
     ·rw[g1,g2]at res ⊢
      exact res
     ·rw[g1,g2]at res ⊢
      rw[DL]
      exact res
    ·unfold poiE
     rw[dF (show ¬r<0 by grind),dF hz,ha,hw]
     exact hend r
   ·refine⟨u*u+of (ciC c).2.2-(u*rq (ciC c).2.2+u*rq (ciC c).2.2),⟨⟨q,⟨oq,?_⟩,?_⟩,fun x hx=>?_⟩,fun r hr=>?_⟩
    ·rw[eq,zp _ _ _ kp]
     exact hw
    ·rw[rT oq,dq,F6,←eu,add_comm (of _)]
    ·rw[rT hx.1,F6,←eu,add_comm (of (ciC c).2.2)]
     exact PM _ _ _ _ (afe (by grind) hx.1 (le_of_lt up) eu)
    ·unfold poiE
     rw[dF (show ¬r<0 by grind),dF hz,ha,hw,←Ji up hq rfl hr,eu]
     rfl
end RE
end
section
def vH(x u y v k:Rat):Pt:=mkP (mkR x u k) (mkR y v k)
def ftL(l c:Ln):Rat×Rat:=(ftX l c,ftY l c)
def xY(l c:Ln):Rat:=(ftX l c-c.1)*(ftX l c-c.1)+(ftY l c-c.2.1)*(ftY l c-c.2.1)
def em(l c:Ln):Rat:=(c.2.2-xY l c)/cj l
def FI(l:Ln):Bool:=decide (l.2.1<0)||(decide (l.2.1=0)&&decide (-l.1<0))
def qD(l:Ln):Rat:=bif FI l then-l.2.1 else l.2.1
def qG(l:Ln):Rat:=bif FI l then- -l.1 else-l.1
def lcM(l c:Ln):Pt:=vH (ftX l c) (-qD l) (ftY l c) (-qG l) (em l c)
def lcN(l c:Ln):Pt:=vH (ftX l c) (qD l) (ftY l c) (qG l) (em l c)
def kA(l c:Ln):List Pt:=bif decide (em l c<0)then []else bif decide (em l c=0)then [atP (ftL l c)]else [lcM l c,lcN l c]
def Sc(l m:Ln):Int:=bif !decide (dt l m=0)then 0 else bif oh l m then 10 else 0
def oK(c d:Ln):List Pt:=bif gQ c d then []else kA (mS c d) c
def UJ(c d:Ln):Int:=bif oZ c d then 10 else 0
def gf(a b:Cv):List Pt:=bif a.1&&b.1 then oK (ciC a) (ciC b)else bif a.1 then kA (lnC b) (ciC a)else bif b.1 then kA (lnC a) (ciC b)else lc (lnC a) (lnC b)
def agF(a b:Cv):Int:=bif a.1&&b.1 then UJ (ciC a) (ciC b)else bif a.1 then 0 else bif b.1 then 0 else Sc (lnC a) (lnC b)
theorem UC(l c:Ln):d8 l (c.1,c.2.1)=ftL l c:=rfl
theorem Pe{x u y v k:Rat}[h:Nn k]:Rpd (vH x u y v k):=Xh sS sS (qt _ _ _ _ _)
section
variable {l c:Ln}
theorem aaD [BdL l]:Bd (qD l) 12∧Bd (qG l) 12:=by
 unfold qD qG
 cases FI l
 ·exact⟨(inferInstance:Bd l.2.1 12),(inferInstance:Bd (-l.1) 12)⟩
 ·exact⟨(inferInstance:Bd (-l.2.1) 12),(inferInstance:Bd (- -l.1) 12)⟩
end
theorem PX{x u y v k:Rat}{a b c:Nat}(h1:Bd x a)(h2:Bd u b)(h3:Bd y a)(h4:Bd v b)(h5:Bd k c){n:Nat}(hn:a+(b+c)+1≤n):Bd (vH x u y v k) n:=by
 have z:bdR n 0:=bI ls.le (by omega)
 have i1:Bd (mkR x u k) (a+(b+c)+1):=inferInstance
 have i2:Bd (mkR y v k) (a+(b+c)+1):=inferInstance
 have f1:=i1.mono hn
 have f2:=i2.mono hn
 refine⟨?_⟩
 unfold vH mkP rdP
 dsimp only
 refine⟨f1.le.1,f1.le.2.1,f2.le.1,f2.le.2.1,?_⟩
 cases decide ((mkR x u k).2.1=0)&&decide ((mkR y v k).2.1=0)
 ·cases decide ((mkR x u k).2.1=0)
  ·exact f1.le.2.2
  ·exact f2.le.2.2
 ·exact z
section
variable {l c:Ln}
theorem K8 [BdL l][h:BdC c]:Bd (em l c) 1000:=by
 obtain⟨f1,f2,_,_⟩:=un (l:=l) (c:=c)
 have hx:=h.x
 have hy:=h.y
 have hq:=h.q
 have i1:Bd (cj l) 49:=inferInstanceAs (Bd (l.1*l.1+l.2.1*l.2.1) _)
 have i2:Bd (xY l c) 673:=(inferInstance:Bd ((ftX l c-c.1)*(ftX l c-c.1)+(ftY l c-c.2.1)*(ftY l c-c.2.1)) _).mono (by decide)
 exact(inferInstance:Bd ((c.2.2-xY l c)/cj l) _).mono (by decide)
theorem Fr [BdL l][h:BdC c]:Bd (ftL l c) 163:=by
 obtain⟨f1,f2,_,_⟩:=un (l:=l) (c:=c)
 exact(inferInstance:Bd ((ftX l c,ftY l c):Rat×Rat) _).mono (by decide)
theorem aag [BdL l][BdC c]:Bd (lcM l c) 1200∧Bd (lcN l c) 1200:=by
 obtain⟨f1,f2,_,_⟩:=un (l:=l) (c:=c)
 obtain⟨d1,d2⟩:=aaD (l:=l)
 have k:=K8 (l:=l) (c:=c)
 have n1:Bd (-qD l) 12:=inferInstance
 have n2:Bd (-qG l) 12:=inferInstance
 exact⟨PX f1 n1 f2 n2 k (by decide),PX f1 d1 f2 d2 k (by decide)⟩
theorem t6 [BdL l][BdC c]:(kA l c).length≤2∧∀p∈kA l c,Bd p 1200∧Rpd p:=by
 unfold kA
 by_cases h0:em l c<0
 ·rw[akY h0]
  exact⟨by simp,fun p hp=>by cases hp⟩
 ·rw[ak0 h0]
  by_cases h1:em l c=0
  ·rw[akY h1]
   have:=Fr (l:=l) (c:=c)
   refine⟨by simp,fun p hp=>?_⟩
   have:p=atP (ftL l c):=by simpa using hp
   rw[this]
   exact⟨(inferInstance:Bd (atP (ftL l c)) _).mono (by decide),inferInstance⟩
  ·rw[ak0 h1]
   obtain⟨q1,q2⟩:=aag (l:=l) (c:=c)
   have nn:Nn (em l c):=⟨by grind⟩
   refine⟨by simp,fun p hp=>?_⟩
   have:p=lcM l c∨p=lcN l c:=by simpa using hp
   rcases this with e|e<;>rw[e]
   ·exact⟨q1,Pe⟩
   ·exact⟨q2,Pe⟩
end
end
section
namespace RE
theorem ajB(A B x y u v s:RE):A*(x+u*s)+B*(y+v*s)=(A*x+B*y)+(A*u+B*v)*s:=by grind
theorem ajX(x y u v s p q:RE):(x+u*s-p)*(x+u*s-p)+(y+v*s-q)*(y+v*s-q)=((x-p)*(x-p)+(y-q)*(y-q))+((x-p)*u+(y-q)*v)*s+((x-p)*u+(y-q)*v)*s+(u*u+v*v)*(s*s):=by grind
theorem akk(b n r:RE):b*(r*n)=b*n*r:=by grind
theorem ajk(r n:RE):r*n*(r*n)=r*r*(n*n):=by grind
theorem ajN(x y p q a b m n:RE):(x-a)*(x-a)+(y-b)*(y-b)=((x-p)*(x-p)+(y-q)*(y-q))+(a*a+b*b-m)-(p*p+q*q-n)-((1+1)*(a-p)*x+(1+1)*(b-q)*y)+(m-n):=by grind
theorem aiX(a b n m:RE):n+a-b-(a-b)+(m-n)=m:=by grind
theorem pu(x u y v k:Rat):pR (vH x u y v k)=(v2 x u k,v2 y v k):=by
 unfold vH
 rw[Yp (qt _ _ _ _ _),vR_mk,vR_mk]
section
variable {l c:Ln}
theorem Ir(hl:l.1≠0∨l.2.1≠0):0<cj l:=by
 have h:=nw hl
 have h1:0≤cj l:=nO (l.1,l.2.1)
 grind
theorem Gv(hl:l.1≠0∨l.2.1≠0):em l c*(cj l*cj l)=jp l c:=by
 have hn:=nw hl
 have t:vlL l c.1 c.2.1/cj l*cj l=vlL l c.1 c.2.1:=alk hn
 have k:(c.2.2-xY l c)/cj l*cj l=c.2.2-xY l c:=alk hn
 unfold em
 rw[←Rat.mul_assoc,k]
 unfold xY ftX ftY jp
 generalize vlL l c.1 c.2.1/cj l=s at*
 rw[←t]
 unfold cj
 grind
theorem aaZ(hl:l.1≠0∨l.2.1≠0):(em l c<0↔jp l c<0)∧(em l c=0↔jp l c=0):=by
 have hn:=Ir hl
 have h2:0<cj l*cj l:=alt hn hn
 have e:=Gv (c:=c) hl
 rcases(by grind:em l c<0∨em l c=0∨0<em l c)with h|h|h
 ·have:=alt (show 0< -em l c by grind) h2
  have e2: -em l c*(cj l*cj l)= -jp l c:=by rw[Rat.neg_mul,e]
  rw[e2]at this
  constructor<;>constructor<;>intro<;>grind
 ·rw[h,Rat.zero_mul]at e
  constructor<;>constructor<;>intro<;>grind
 ·have:=alt h h2
  rw[e]at this
  constructor<;>constructor<;>intro<;>grind
theorem aaa(hl:l.1≠0∨l.2.1≠0)(h0:0≤em l c):rq (jp l c)=rq (em l c)*of (cj l):=by
 have hn:=Ir hl
 have hr:0≤jp l c:=by
  rw[←Gv hl]
  exact alj h0 (alj (by grind) (by grind))
 refine Dt _ _ (gh _) (bg (gh _) (gN.2 (by grind))) ?_
 rw[ajk,dB hr,dB h0,←aE,←aE,Gv hl]
theorem AC(hl:l.1≠0∨l.2.1≠0)(h0:0≤em l c)(a b:Rat):v2 a b (em l c)=v2 a (b/cj l) (jp l c):=by
 unfold v2
 rw[aaa hl h0,akk,←aE,alk (nw hl)]
theorem ndv(a b:Rat): -a/b= -(a/b):=by rw[anH,anH,Rat.neg_mul]
theorem EW(hl:l.1≠0∨l.2.1≠0)(v:PE):(∃p∈kA l c,pR p=v)↔∃p∈rh l c,pR p=v:=by
 obtain⟨s1,s2⟩:=aaZ (c:=c) hl
 unfold kA rh
 by_cases h0:em l c<0
 ·rw[akY h0,akY (s1.1 h0)]
  exact Iff.rfl
 ·rw[ak0 h0,ak0 (fun h=>h0 (s1.2 h))]
  by_cases h1:em l c=0
  ·rw[akY h1,akY (s2.1 h1)]
   exact Iff.rfl
  ·rw[ak0 h1,ak0 (fun h=>h1 (s2.2 h))]
   have hp:0≤em l c:=by grind
   have e:(pR (lcM l c)=pR (so l c)∧pR (lcN l c)=pR (tz l c))∨(pR (lcM l c)=pR (tz l c)∧pR (lcN l c)=pR (so l c)):=by
    unfold lcM lcN so tz
    rw[pu,pu,uA,uA,AC hl hp,AC hl hp,AC hl hp,AC hl hp]
    unfold qD qG
    cases FI l
    ·left
     simp only[cond_false,ndv,an7,and_self]
    ·right
     simp only[cond_true,ndv,an7,and_self]
   have m2:∀{a b:Pt},(∃p∈[a,b],pR p=v)↔(pR a=v∨pR b=v):=fun{a b}=>by simp
   simp only[cond_false]
   cases decide (aV (so l c) (tz l c)>0)
   ·simp only[cond_false]
    rw[m2,m2]
    rcases e with⟨e1,e2⟩|⟨e1,e2⟩<;>rw[e1,e2]
    exact Or.comm
   ·simp only[cond_true]
    rw[m2,m2]
    rcases e with⟨e1,e2⟩|⟨e1,e2⟩<;>rw[e1,e2]
    exact Or.comm
theorem Fp(hl:l.1≠0∨l.2.1≠0){u v k:Rat}(hk:0≤k)(h1:l.1*u+l.2.1*v=0)(h2:xY l c+(u*u+v*v)*k=c.2.2):gK l (v2 (ftX l c) u k,v2 (ftY l c) v k)∧fA c (v2 (ftX l c) u k,v2 (ftY l c) v k):=by
 have hn:=nw hl
 have t:vlL l c.1 c.2.1/cj l*cj l=vlL l c.1 c.2.1:=alk hn
 have e1:l.1*ftX l c+l.2.1*ftY l c=l.2.2:=by
  unfold ftX ftY
  generalize vlL l c.1 c.2.1/cj l=s at*
  unfold cj vlL at t
  grind
 have e3:(ftX l c-c.1)*u+(ftY l c-c.2.1)*v=0:=by
  unfold ftX ftY
  generalize vlL l c.1 c.2.1/cj l=s at*
  have:(c.1-s*l.1-c.1)*u+(c.2.1-s*l.2.1-c.2.1)*v= -s*(l.1*u+l.2.1*v):=by grind
  rw[this,h1,Rat.mul_zero]
 unfold gK fA frm v2
 dsimp only
 constructor
 ·rw[ajB,←aE,←aE,←aE,←aE,←of_add,←of_add,e1,h1,nj,zero_mul,add_zero]
 ·rw[ajX,dB hk,←of_sub,←of_sub,←aE,←aE,←aE,←aE,←aE,←aE,←of_add,←of_add,←of_add,e3,nj,zero_mul,add_zero,add_zero,←aE,←of_add]
  exact congrArg of h2
theorem acx(_hl:l.1≠0∨l.2.1≠0):l.1*qD l+l.2.1*qG l=0∧qD l*qD l+qG l*qG l=cj l:=by
 unfold qD qG cj
 cases FI l
 ·simp only[cond_false];constructor<;>grind
 ·simp only[cond_true];constructor<;>grind
theorem HD(hl:l.1≠0∨l.2.1≠0){p:Pt}(hp:p∈kA l c):gK l (pR p)∧fA c (pR p):=by
 have hn:=nw hl
 have k:em l c*cj l=c.2.2-xY l c:=alk hn
 obtain⟨d1,d2⟩:=acx hl
 unfold kA at hp
 by_cases h0:em l c<0
 ·rw[akY h0]at hp
  cases hp
 ·rw[ak0 h0]at hp
  by_cases h1:em l c=0
  ·rw[akY h1]at hp
   have:p=atP (ftL l c):=by simpa using hp
   rw[this,mC]
   have:=Fp (c:=c) (u:=0) (v:=0) (k:=0) hl (by decide) (by grind) (by rw[h1]at k;grind)
   rw[dS,dS]at this
   exact this
  ·rw[ak0 h1]at hp
   have hk:0≤em l c:=by grind
   have:p=lcM l c∨p=lcN l c:=by simpa using hp
   rcases this with e|e
   ·rw[e]
    unfold lcM
    rw[pu]
    refine Fp hl hk (by grind) ?_
    rw[show-qD l* -qD l+ -qG l* -qG l=cj l by rw[←d2];grind,amO,k]
    grind
   ·rw[e]
    unfold lcN
    rw[pu]
    refine Fp hl hk d1 ?_
    rw[d2,amO,k]
    grind
end
theorem Pr{c d:Ln}{v:PE}(hl:gK (mS c d) v)(hc:fA c v):fA d v:=by
 unfold gK mS qI at hl
 unfold fA frm at*
 dsimp only at*
 have o2:of 2=1+1:=by
  rw[←Ay,←of_add]
  exact congrArg of (by decide+kernel)
 rw[ajN v.1 v.2 (of c.1) (of c.2.1) (of d.1) (of d.2.1) (of d.2.2) (of c.2.2),hc]
 simp only[of_sub,aE,of_add,o2]at hl
 rw[hl,aiX]
theorem ab3{l m:Ln}{p:Pt}(hp:p∈lc l m):gK l (pR p)∧gK m (pR p):=by
 unfold lc at hp
 by_cases h0:dt l m=0
 ·rw[akY h0]at hp
  cases hp
 ·rw[ak0 h0]at hp
  have:p=atP (ld l m/dt l m,k9 l m/dt l m):=by simpa using hp
  rw[this,mC]
  have ex:ld l m/dt l m*dt l m=ld l m:=alk h0
  have ey:k9 l m/dt l m*dt l m=k9 l m:=alk h0
  have key:∀a b q:Rat,a*ld l m+b*k9 l m=q*dt l m→a*(ld l m/dt l m)+b*(k9 l m/dt l m)=q:=fun a b q e=>by
   generalize ld l m/dt l m=x at*
   generalize k9 l m/dt l m=y at*
   rw[←ex,←ey]at e
   have:(a*x+b*y-q)*dt l m=0:=by grind
   rcases anf.1 this with h|h
   ·grind
   ·exact absurd h h0
  unfold gK
  rw[←aE,←aE,←of_add,←aE,←aE,←of_add,key l.1 l.2.1 l.2.2 (by unfold ld k9 dt;grind),key m.1 m.2.1 m.2.2 (by unfold ld k9 dt;grind)]
  exact⟨rfl,rfl⟩
end RE
end
def lA(c:BCU)(l:List BCU):List BP:=(l.map (kZ c)).flatten
def yO(x:Pce):Prop:=AW x.1∧AW x.2.1∧u8P x.2.2
instance (x:Pce):Decidable (yO x):=by unfold yO;infer_instance
def F1(x:Pce):List BCU:=match ofL x.1 with
 |[]=>[]
 |c::_=>lh c (lA c (ofL x.2.1))
def yR(x:Pce):Bool:=!(ofL x.1).isEmpty
def jS(x:Pce):BCU:=bif yR x then(F1 x).getD (x.2.2%((F1 x).length:Int)).toNat c00 else c00
def Ym:List En:=[enL adW,enL Xn,enK ag0]
def Ue:NT:=[((11,18),{keep:=[1,2,4,5,6,7],own:=[(6,37,tP)],hl:=3})]
def F8:Ctx:=CX (ens Ym) Ue
def se(x:Pce)(s7:Int)(r2:List BP):Cfg:=⟨11,[.blk 0,.seq 31],[(1,.box 0 0),(2,.box 1 0),(4,.d (.sl tCU) (ofL x.1)),(5,.d (.sl tCU) (ofL x.2.1)),(6,.own 2),(7,SI s7)],[.box 26 [.d (.int .u8) x.1.1,.d (.int .u8) x.1.2.1,.d (.int .i8) x.1.2.2.1,.d (.int .i8) x.1.2.2.2.1,.d (.int .i8) x.1.2.2.2.2.1,.d (.int .i8) x.1.2.2.2.2.2.1,.d (.int .i8) x.1.2.2.2.2.2.2.1,.d (.int .i8) x.1.2.2.2.2.2.2.2,.d (.int .u8) x.2.1.1,.d (.int .u8) x.2.1.2.1,.d (.int .i8) x.2.1.2.2.1,.d (.int .i8) x.2.1.2.2.2.1,.d (.int .i8) x.2.1.2.2.2.2.1,.d (.int .i8) x.2.1.2.2.2.2.2.1,.d (.int .i8) x.2.1.2.2.2.2.2.2.1,.d (.int .i8) x.2.1.2.2.2.2.2.2.2,.d (.int .u8) x.2.2],.box 39 [SB false,SB false,.nil,SB false,.nil,SB false,.nil,SB false,.nil,SB false,.nil,SB false,.nil,SB false,.nil,SB false,.nil,SB false,.nil,SB false,.nil,SB false,.nil,SB false,.nil,SB false,SB false,.nil,SB false,.nil,SB false,.nil,SB false,.nil,SB false,.nil,SB false,.nil,SB false,.nil,SB false,.nil,SB false,.nil,SB false,.nil,SB false,.nil,SB false,.nil,SB false,.nil,SB false,.nil,SB false,.nil,SB false,.nil,SB false,.nil,SB false,.nil,SB false,.nil,SB false,.nil],.row 37 tP r2],0,[]⟩
def No(x:Pce)(k:KT):Option (List RV):=og (decide (AW x.1)) (og (decide (AW x.2.1)) (match((ofL x.1).length:Int)==0 with|true=>some [RV.d tCU (false,((((false,[]),(false,[])),(((false,[]),(false,[])),((false,[]),(false,[])))),((((false,[]),(false,[])),(((false,[]),(false,[])),((false,[]),(false,[])))),(false,((((false,[]),(false,[])),(((false,[]),(false,[])),(((false,[]),(false,[])),(((false,[]),(false,[])),((false,[]),(false,[])))))),(((false,[]),(false,[])),(((false,[]),(false,[])),(((false,[]),(false,[])),(((false,[]),(false,[])),((false,[]),(false,[]))))))))))),RV.d .bool false]|false=>k 18 (se x 0 ([]))))
theorem abN(x:Pce):RS F8 11 [.d yf x] (No x):=rsX
def ro(x:Pce)(s7:Int)(r2:List BP)(k:KT):Option (List RV):=match decide (s7<((ofL x.2.1).length:Int))with|true=>(match aR (ofL x.1) 0 with|some x1=>(match aR (ofL x.2.1) s7 with|some x2=>(og (decide (f0 x1 x2)) (og (decide ((r2.length+(kZ x1 x2).length)*320≤140737488355328∧r2.length+(kZ x1 x2).length≤140737488355328)) (k 18 (se x (i64.wrap (s7+1)) (r2++(kZ x1 x2))))))|none=>none)|none=>none)|false=>(match aR (ofL x.1) 0 with|some x1=>(og (decide (FP x1 r2)) (match decide (((lh x1 r2).length:Int)=(0:Int))with|true=>none|false=>(match aR (lh x1 r2) (Int.tmod (i64.wrap x.2.2) ((lh x1 r2).length:Int))with|some x2=>some [RV.d tCU x2,RV.d .bool true]|none=>none)))|none=>none)
theorem ye(x:Pce)(s7:Int)(r2:List BP):RN F8 18 (se x s7 r2) (ro x s7 r2):=rnX
theorem Jv{c d:BCU}(h:f0 c d):(kZ c d).length≤4∧∀x∈kZ c d,okP 500 x∧onR (dC c) (dec x)=true∧onR (dC d) (dec x)=true:=by
 obtain⟨h1,h2⟩:=Bz h
 unfold kZ JB
 have h3:=wm (dC c) ((rB c d).filter fun p=>onR (dC c) (dec p)&&onR (dC d) (dec p)) []
 have h4:=List.length_filter_le (fun p=>onR (dC c) (dec p)&&onR (dC d) (dec p)) (rB c d)
 refine⟨by
  unfold gP
  rw[List.length_nil,alE]at h3
  exact alc h3 (alc h4 h1),Ic fun x hx=>?_⟩
 obtain⟨g1,g2⟩:=amP.1 hx
 obtain⟨g3,g4⟩:=ak8.1 g2
 exact⟨h2 x g1,g3,g4⟩
theorem O6(c:Cv)(x:BP):∀r:List BP,r.length≤(fL c r x).length
 |[]=>by simp
 |z::r=>by
  have:=O6 c x r
  simp only[fL]
  cases decide (cZ c (dec z) (dec x)<0)
  ·cases aV (dec z) (dec x)==0<;>simp
  ·simp only[cond_true,ale];omega
theorem Lb(c:Cv):∀(l out:List BP),out.length≤(l.foldl (fL c) out).length
 |[],_=>ak4 _
 |x::l,out=>alc (O6 c x out) (Lb c l _)
theorem Jd(c:BCU):∀s:List BP,(yS c s).length=s.length-1
 |[]=>rfl
 |[_]=>rfl
 |x::y::r=>by
  have:=Jd c (y::r)
  simp only[yS,ale]at this ⊢
  omega
theorem Ve{c:BCU}(h:aV (dec c.2.2.2.2.1) (dec c.2.2.2.2.2)≠0)(l:List BP):2≤(vI c l).length:=by
 unfold vI gP
 refine alc ?_ (Lb (dC c) l _)
 simp only[fL]
 rw[anm.2 h]
 cases decide (cZ (dC c) (dec c.2.2.2.2.1) (dec c.2.2.2.2.2)<0)<;>exact ak4 _
theorem IW{c:BCU}(h:gdN c)(l:List BP):1≤(lh c l).length∧(lh c l).length≤l.length+1:=by
 have h1:=Ve h.2.2.2 l
 have h2:=Hy c l
 unfold lh
 rw[Jd]
 omega
theorem Th{c:BCU}(h:gdN c){l:List BP}(hl:l.length≤900000)(ho:∀p∈l,okP 500 p∧onR (dC c) (dec p)=true):FP c l:=
 ⟨ce h.1.1 (by decide) (by decide),hl,fun x hx=>⟨cJ (ho x hx).1 (by decide) (by decide),(ho x hx).2⟩⟩
def gdM(c:BCU):Prop:=mG c∧gi (dC c) (frC (dC c))=true∧gi (dC c) (toC (dC c))=true
theorem gdM.gd{c:BCU}(h:gdM c):gdC c:=⟨h.1.1,h.2.1,h.2.2⟩
theorem gdN.m{c:BCU}(h:gdN c):gdM c:=⟨h.1,h.2.1,h.2.2.1⟩
theorem aaQ{c:BCU}(h:gdN c){l:List BP}(ho:∀p∈l,okP 500 p∧onR (dC c) (dec p)=true):∀p∈lh c l,gdM p:=by
 intro p hp
 obtain⟨x,y,hx,hy,e⟩:=H8 hp
 have f:∀z,z∈vI c l→okP 500 z∧gi (dC c) (dec z)=true:=fun z hz=>by
  rcases IN hz with e|e|e
  ·rw[e];exact⟨h.1.1.2.2.1,h.2.1⟩
  ·rw[e];exact⟨h.1.1.2.2.2,h.2.2.1⟩
  ·exact⟨(ho z e).1,(ak8.1 (ho z e).2).1⟩
 obtain⟨x1,x2⟩:=f x hx
 obtain⟨y1,y2⟩:=f y hy
 rw[e]
 exact⟨⟨⟨h.1.1.1,h.1.1.2.1,x1,y1⟩,h.1.2⟩,x2,y2⟩
theorem adx(x:Dr):(ofL x).length≤2:=by
 unfold ofL
 cases x.1%3==2
 ·cases x.1%3==1
  ·cases m9 (drA x) (drB x) !=0<;>simp
  ·cases lX (drA x) (drB x) (drC x) !=0<;>simp
 ·cases decide ((drB x).1≤0)
  ·unfold vG;simp
  ·simp
theorem QN{c:BCU}(h:gdN c):∀{l:List BCU},(∀d∈l,gdN d)→(lA c l).length≤4*l.length∧∀p∈lA c l,okP 500 p∧onR (dC c) (dec p)=true
 |[],_=>⟨ak4 _,fun p hp=>by cases hp⟩
 |d::r,hd=>by
  obtain⟨i1,i2⟩:=QN h (l:=r) (fun e he=>hd e (ala _ he))
  obtain⟨m1,m2⟩:=Jv (show f0 c d from⟨h.1,(hd d (by simp)).1⟩)
  have e:lA c (d::r)=kZ c d++lA c r:=rfl
  rw[e]
  refine⟨by rw[alw,ale];omega,fun p hp=>?_⟩
  rcases alJ.1 hp with g|g
  ·exact⟨(m2 p g).1,(m2 p g).2.1⟩
  ·exact i2 p g
def XU(x:Pce)(l:List BCU):BCU:=l.getD (x.2.2%(l.length:Int)).toNat c00
theorem Tn(x:Pce)(h:yO x)(c:BCU)(hc:gdN c)(g0:aR (ofL x.1) 0=some c)(B:List BCU)(hB:ofL x.2.1=B)(gB:∀d∈B,gdN d)(lB:B.length≤2):∀(j i:Nat),i+j=B.length→∀r2:List BP,r2.length≤4*i→(∀p∈r2,okP 500 p∧onR (dC c) (dec p)=true)→
  F8.Runs 18 (se x (i:Int) r2) [.d tCU (XU x (lh c (r2++lA c (B.drop i)))),.d .bool true]:=by
 intro j
 induction j with
 |zero=>
  intro i hi r2 hr ho
  refine ye _ _ _ ⟨0,?_⟩
  obtain⟨l1,l2⟩:=IW hc r2
  have hs:=Th hc (l:=r2) (by omega) ho
  obtain⟨u1,u2⟩:=h.2.2
  have e1:Int.tmod (i64.wrap x.2.2) ((lh c r2).length:Int)=x.2.2%((lh c r2).length:Int):=by
   rw[aS (by omega) (by omega),Int.tmod_eq_emod_of_nonneg u1]
  have m0:=al6 x.2.2 (show((lh c r2).length:Int)≠0 by omega)
  have m1:=alH x.2.2 (show 0<((lh c r2).length:Int) by omega)
  obtain⟨k,hk⟩:=ama m0
  have hkl:k<(lh c r2).length:=by omega
  have hd:B.drop i=[]:=List.drop_eq_nil_iff.2 (by omega)
  have hcut:lA c []=[]:=rfl
  unfold ro
  rw[hB,b9 (by omega),g0]
  dsimp only
  rw[dT hs,dF (show ¬((lh c r2).length:Int)=0 by omega),e1,hk,ao,akZ hkl,hd,hcut,alv]
  unfold XU
  rw[hk,amF,List.getD_eq_getElem?_getD,akZ hkl]
  rfl
 |succ j ih=>
  intro i hi r2 hr ho
  have hil:i<B.length:=by omega
  have hm:f0 c B[i]:=⟨hc.1,(gB _ (alz hil)).1⟩
  obtain⟨m1,m2⟩:=Jv hm
  obtain⟨n,hn⟩:=ih (i+1) (by omega) (r2++kZ c B[i]) (by rw[alw];omega) (fun p hp=>by
   rcases alJ.1 hp with g|g
   ·exact ho p g
   ·exact⟨(m2 p g).1,(m2 p g).2.1⟩)
  have hd:B.drop i=B[i]::B.drop (i+1):=alg hil
  have hcut:lA c (B[i]::B.drop (i+1))=kZ c B[i]++lA c (B.drop (i+1)):=rfl
  refine ye _ _ _ ⟨n,?_⟩
  unfold ro
  rw[hB,bH hil,g0,ao,akZ hil]
  dsimp only
  rw[dT hm,dT (by omega),bV (by omega),hd,hcut,←alp]
  exact hn
def acG:Cn 11 [yf]:=cn fun(x:Pce)=>lf (yO x) [.d tCU (jS x),.d .bool (yR x)] fun h=>by
 have hB:=CE h.2.1
 have hA:=CE h.1
 refine c8 Ym (abN _ ?_)
 unfold No jS yR
 rw[dT h.1,dT h.2.1]
 cases hl:ofL x.1 with
 |nil=>exact⟨0,rfl⟩
 |cons c r=>
  rw[hl]at hA
  obtain⟨n,hn⟩:=Tn x h c (hA c (by simp)) (by rw[hl];rfl) _ rfl hB (adx _) _ 0 (alE _) [] (ak4 _) (fun p hp=>by cases hp)
  refine⟨n,?_⟩
  have e:(((c::r).length:Int)==0)=false:=by simp;omega
  rw[e]
  unfold F1
  rw[hl]
  exact hn
theorem Up{x:Pce}(h:yO x)(ho:yR x=true):jS x∈F1 x:=by
 have hA:=CE h.1
 unfold jS F1
 rw[ho]
 unfold yR at ho
 cases hl:ofL x.1 with
 |nil=>rw[hl]at ho;cases ho
 |cons c r=>
  rw[hl]at hA
  obtain⟨l1,l2⟩:=IW (hA c (by simp)) (lA c (ofL x.2.1))
  have m0:=al6 x.2.2 (show((lh c (lA c (ofL x.2.1))).length:Int)≠0 by omega)
  have m1:=alH x.2.2 (show 0<((lh c (lA c (ofL x.2.1))).length:Int) by omega)
  have hk:(x.2.2%((lh c (lA c (ofL x.2.1))).length:Int)).toNat<(lh c (lA c (ofL x.2.1))).length:=by omega
  simp only[cond_true]
  rw[List.getD_eq_getElem?_getD,akZ hk]
  exact alz hk
section
section
variable {α:Type} {lt:α→α→Prop} {f:α→α→Int}
theorem Of(h:ni lt):ni (fun x y=>lt y x):=⟨h.irr,fun x y z a b=>h.tr z y x b a,fun x y=>by
 rcases h.tri x y with g|g|g
 ·exact .inr (.inr g)
 ·exact .inr (.inl g)
 ·exact .inl g⟩
theorem KN(h:u5 lt f):u5 (fun x y=>lt y x) (fun x y=> -f x y):=fun x y=>⟨fun g=>(by show-f x y= -1;rw[(h x y).2.2 g]),fun g=>(by show-f x y=0;rw[(h x y).2.1 g];rfl),fun g=>(by show-f x y=1;rw[(h x y).1 g];rfl)⟩
def aLt(lt:α→α→Prop)(u v:Bool×α):Prop:=(u.1=false∧v.1=true)∨(u.1=false∧v.1=false∧lt u.2 v.2)∨(u.1=true∧v.1=true∧lt v.2 u.2)
theorem MQ(h:ni lt):ni (aLt lt):=by
 refine⟨fun⟨a,u⟩ g=>?_,fun⟨a,u⟩ ⟨b,v⟩ ⟨c,w⟩ g g'=>?_,fun⟨a,u⟩ ⟨b,v⟩=>?_⟩
 ·rcases g with⟨g1,g2⟩|⟨_,_,g⟩|⟨_,_,g⟩
  ·rw[g1]at g2;cases g2
  ·exact h.irr _ g
  ·exact h.irr _ g
 ·unfold aLt at*
  cases a<;>cases b<;>cases c<;>simp only[true_and,false_and,and_false,aof,anM,false_or,reduceCtorEq,and_self]at g g' ⊢
  ·exact h.tr _ _ _ g g'
  ·exact h.tr _ _ _ g' g
 ·unfold aLt
  cases a<;>cases b<;>simp only[true_and,false_and,and_false,aof,anM,false_or,reduceCtorEq,and_self,or_true,true_or]
  ·rcases h.tri u v with g|g|g
   ·exact .inl g
   ·exact .inr (.inl (by rw[g]))
   ·exact .inr (.inr g)
  ·rcases h.tri u v with g|g|g
   ·exact .inr (.inr g)
   ·exact .inr (.inl (by rw[g]))
   ·exact .inl g
theorem Lm(h:u5 lt f):u5 (aLt lt) (jM f):=fun⟨a,u⟩ ⟨b,v⟩=>by
 refine⟨fun g=>?_,fun g=>?_,fun g=>?_⟩
 ·unfold aLt at g
  unfold jM
  cases a<;>cases b<;>simp only[true_and,false_and,and_false,aof,anM,false_or,reduceCtorEq,and_self]at g
  ·exact(h u v).1 g
  ·rfl
  ·show-f u v= -1
   rw[(h u v).2.2 g]
 ·injection g with g1 g2
  subst g1 g2
  unfold jM
  have:=(h u u).2.1 rfl
  cases a
  ·exact this
  ·show-f u u=0
   rw[this];rfl
 ·unfold aLt at g
  unfold jM
  cases a<;>cases b<;>simp only[true_and,false_and,and_false,aof,anM,false_or,reduceCtorEq,and_self]at g
  ·exact(h u v).2.2 g
  ·rfl
  ·show-f u v=1
   rw[(h u v).1 g];rfl
def cLt(lt:α→α→Prop)(o u v:α):Prop:=(¬lt u o∧lt v o)∨((lt u o↔lt v o)∧lt u v)
theorem Zv(h:ni lt)(o:α):ni (cLt lt o):=by
 refine⟨fun u g=>?_,fun u v w g g'=>?_,fun u v=>?_⟩
 ·rcases g with⟨g1,g2⟩|⟨_,g⟩
  ·exact g1 g2
  ·exact h.irr _ g
 ·rcases g with⟨g1,g2⟩|⟨g1,g2⟩<;>rcases g' with⟨g3,g4⟩|⟨g3,g4⟩
  ·exact absurd g2 g3
  ·exact .inl ⟨g1,g3.1 g2⟩
  ·exact .inl ⟨fun e=>g3 (g1.1 e),g4⟩
  ·exact .inr ⟨g1.trans g3,h.tr _ _ _ g2 g4⟩
 ·by_cases e1:lt u o<;>by_cases e2:lt v o
  ·rcases h.tri u v with g|g|g
   ·exact .inl (.inr ⟨⟨fun _=>e2,fun _=>e1⟩,g⟩)
   ·exact .inr (.inl g)
   ·exact .inr (.inr (.inr ⟨⟨fun _=>e1,fun _=>e2⟩,g⟩))
  ·exact .inr (.inr (.inl ⟨e2,e1⟩))
  ·exact .inl (.inl ⟨e1,e2⟩)
  ·rcases h.tri u v with g|g|g
   ·exact .inl (.inr ⟨⟨fun e=>absurd e e1,fun e=>absurd e e2⟩,g⟩)
   ·exact .inr (.inl g)
   ·exact .inr (.inr (.inr ⟨⟨fun e=>absurd e e2,fun e=>absurd e e1⟩,g⟩))
theorem yb(hl:ni lt)(h:u5 lt f)(x y:α):decide (f x y<0)=true↔lt x y:=by
 rw[al7]
 rcases hl.tri x y with g|g|g
 ·rw[(h x y).1 g];exact⟨fun _=>g,fun _=>by decide⟩
 ·rw[(h x y).2.1 g];exact⟨fun e=>absurd e (by decide),fun e=>absurd e (by rw[g];exact hl.irr _)⟩
 ·rw[(h x y).2.2 g];exact⟨fun e=>absurd e (by decide),fun e=>absurd (hl.tr _ _ _ e g) (hl.irr _)⟩
theorem El(hl:ni lt)(h:u5 lt f)(o:Bool×α):u5 (cLt (aLt lt) o) (jY f o):=fun u v=>by
 have ha:=Lm h
 have n:=yb (MQ hl) ha
 have tf:∀x,¬aLt lt x o→decide (jM f x o<0)=false:=fun x g=>by
  cases e:decide (jM f x o<0)
  ·rfl
  ·exact absurd ((n x o).1 e) g
 unfold jY
 refine⟨fun g=>?_,fun g=>?_,fun g=>?_⟩
 ·rcases g with⟨g1,g2⟩|⟨g1,g2⟩
  ·rw[tf u g1,(n v o).2 g2];rfl
  ·have e:(decide (jM f u o<0)==decide (jM f v o<0))=true:=by
    by_cases e:aLt lt u o
    ·rw[(n u o).2 e,(n v o).2 (g1.1 e)];rfl
    ·rw[tf u e,tf v (fun e'=>e (g1.2 e'))];rfl
   rw[e];exact(ha u v).1 g2
 ·subst g
  rw[beq_self_eq_true];exact(ha u u).2.1 rfl
 ·rcases g with⟨g1,g2⟩|⟨g1,g2⟩
  ·rw[tf v g1,(n u o).2 g2];rfl
  ·have e:(decide (jM f u o<0)==decide (jM f v o<0))=true:=by
    by_cases e:aLt lt u o
    ·rw[(n u o).2 e,(n v o).2 (g1.2 e)];rfl
    ·rw[tf u e,tf v (fun e'=>e (g1.1 e'))];rfl
   rw[e];exact(ha u v).2.2 g2
end
def Sp(c:Cv)(p:Pt):Prop:=Rpd p∧gi c p=true
structure Crp (c:Cv):Prop where
 f:Sp c (frC c)
 t:Sp c (toC c)
 q:c.1=true→0<(ciC c).2.2
 l:c.1=false→(lnC c).1≠0∨(lnC c).2.1≠0
theorem uY{c:BCU}(h:gdC c):Crp (dC c):=by
 obtain⟨h1,h2,h3⟩:=h
 exact⟨⟨nM h1.2.2.1,h2⟩,⟨nM h1.2.2.2,h3⟩,fun e=>(h1.1 e).2,fun e=>(h1.2.1 e).2⟩
open RE in
theorem Crp.e{c:Cv}(h:Crp c)(hne:aV (frC c) (toC c)≠0):GdE c:=by
 have hf:=h.f.1
 have ht:=h.t.1
 have s:=fun p (hp:Sp c p)=>hp.2
 refine⟨hf,ht,fun e=>hne (cmpP_0.2 e),fun e=>?_,fun e=>?_⟩
 ·have h2:=h.f.2
  have h3:=h.t.2
  unfold gi at h2 h3
  rw[e]at h2 h3
  exact⟨h.q e,ins_on (al9.1 h2),ins_on (al9.1 h3)⟩
 ·have h2:=h.f.2
  have h3:=h.t.2
  unfold gi at h2 h3
  rw[e]at h2 h3
  exact⟨h.l e,GQ (al9.1 h2),GQ (al9.1 h3)⟩
namespace RE
theorem GP(v w:RE):((v-(w))*(v-(w)))+((w*w-(v*v)))+2*((w-(0))*(v-(w)))=0:=by grind
theorem RQ(v w:RE)(h1:v*v=w*w)(_h2:0≤v)(h3:0≤w):v≤w:=fun hg=>far (aI (aI (mul_pos (aJ hg) (aJ hg)) (aC (oa h1))) (iC (by decide+kernel:(0:Rat)<2) (bg (aC h3) (le_of_lt (aJ hg))))) (GP v w)
theorem F3(v w:RE):((w-(v))*(w-(v)))+((v*v-(w*w)))+2*((v-(0))*(w-(v)))=0:=by grind
theorem Lh(v w:RE)(h1:v*v=w*w)(h2:0≤v)(_h3:0≤w):w≤v:=fun hg=>far (aI (aI (mul_pos (aJ hg) (aJ hg)) (aC (lI h1))) (iC (by decide+kernel:(0:Rat)<2) (bg (aC h2) (le_of_lt (aJ hg))))) (F3 v w)
theorem SD(v w:RE)(h1:v*v=w*w)(h2:0≤v)(h3:0≤w):v=w:=le_antisymm (RQ v w h1 h2 h3) (Lh v w h1 h2 h3)
theorem Du(v w:RE):((v-(w))*(v-(w)))+((v*v-(w*w)))+2*((0-(v))*(v-(w)))=0:=by grind
theorem Ka(v w:RE)(h1:v*v=w*w)(h2:v≤0)(_h3:w≤0):v≤w:=fun hg=>far (aI (aI (mul_pos (aJ hg) (aJ hg)) (aC (lI h1))) (iC (by decide+kernel:(0:Rat)<2) (bg (aC h2) (le_of_lt (aJ hg))))) (Du v w)
theorem DP(v w:RE):((w-(v))*(w-(v)))+((w*w-(v*v)))+2*((0-(w))*(w-(v)))=0:=by grind
theorem KC(v w:RE)(h1:v*v=w*w)(_h2:v≤0)(h3:w≤0):w≤v:=fun hg=>far (aI (aI (mul_pos (aJ hg) (aJ hg)) (aC (oa h1))) (iC (by decide+kernel:(0:Rat)<2) (bg (aC h3) (le_of_lt (aJ hg))))) (DP v w)
theorem M8(v w:RE)(h1:v*v=w*w)(h2:v≤0)(h3:w≤0):v=w:=le_antisymm (Ka v w h1 h2 h3) (KC v w h1 h2 h3)
theorem adu(u v w Q:RE)(h1:u*u+v*v=Q)(h2:u*u+w*w=Q):v*v≤w*w:=by grind
theorem acq(u v w Q:RE)(h1:u*u+v*v=Q)(h2:u*u+w*w=Q):w*w≤v*v:=by grind
theorem afI(u v w Q:RE)(h1:u*u+v*v=Q)(h2:u*u+w*w=Q):v*v=w*w:=le_antisymm (adu u v w Q h1 h2) (acq u v w Q h1 h2)
theorem RW(a b:RE)(h1: -a= -b):a≤b:=by grind
theorem PZ(a b:RE)(h1: -a= -b):b≤a:=by grind
theorem S2(a b:RE)(h1: -a= -b):a=b:=le_antisymm (RW a b h1) (PZ a b h1)
theorem CA{u v:RE}:(upA (cls u v)=true→0≤v)∧(upA (cls u v)=false→v≤0)∧(ufA (cls u v)=true→0≤v)∧(ufA (cls u v)=false→v≤0):=by
 unfold cls upA ufA
 rcases bh v with⟨h,e⟩|⟨h,e⟩|⟨h,e⟩<;>rw[e]
 ·exact⟨fun _=>le_of_lt h,fun g=>(by cases g),fun _=>le_of_lt h,fun g=>(by cases g)⟩
 ·rw[h];exact⟨fun _=>le_refl _,fun _=>le_refl _,fun _=>le_refl _,fun _=>le_refl _⟩
 ·exact⟨fun g=>(by cases g),fun _=>le_of_lt h,fun g=>(by cases g),fun _=>le_of_lt h⟩
theorem HH{c:Ln}{p q:Pt}(hp:onCi c p)(hq:onCi c q)(hx:pX p=pX q)(g:(0≤pY p-of c.2.1∧0≤pY q-of c.2.1)∨(pY p-of c.2.1≤0∧pY q-of c.2.1≤0)):pR p=pR q:=by
 unfold onCi at hp hq
 rw[hx]at hp
 have e:=afI _ _ _ _ hp hq
 refine amc hx ?_
 rcases g with⟨a,b⟩|⟨a,b⟩
 ·exact gD _ _ _ (SD _ _ e a b)
 ·exact gD _ _ _ (M8 _ _ e a b)
end RE
open RE in
theorem jL{c:Cv}(ha:c.1=true){p:Pt}(hp:Sp c p):onCi (ciC c) p:=by
 have:=hp.1
 have g:=hp.2
 unfold gi at g
 rw[ha]at g
 exact ins_on (al9.1 g)
open RE in
theorem IC{c:Cv}(h:Crp c)(ha:c.1=true):∃κ:Pt→Bool×RE,(∀d:Cv,d.1=true→ciC d=ciC c→cwC d=cwC c→Sp c (frC d)→∀p q,Sp c p→Sp c q→cZ d p q=jY (fun x y:RE=>sg (x-y)) (κ (frC d)) (κ p) (κ q))∧∀p q,Sp c p→Sp c q→(κ p=κ q↔aV p q=0):=by
 cases hw:cwC c
 ·refine⟨fun p=>(upR (ciC c) p,pX p),fun d d1 d2 d3 hd p q hp hq=>?_,fun p q hp hq=>?_⟩
  ·have i1:=hd.1
   have:=hp.1
   have:=hq.1
   have e:∀{x y:Pt},Rpd x→Rpd y→a9 (xP x) (xP y)=sg (pX x-pX y):=fun{x y} _ _=>by rw[cmpT_re lz lz,sE,sE]
   unfold cZ
   rw[d1,d3,cond_true,cond_false,d2]
   exact fN (e hp.1 i1) (e hq.1 i1) (e hp.1 hq.1)
  ·have r1:=hp.1
   have r2:=hq.1
   rw[cmpP_0]
   constructor
   ·intro e
    injection e with e1 e2
    rw[ie,ie]at e1
    refine HH (jL ha hp) (jL ha hq) e2 ?_
    cases g:upA (cls (pX p-of (ciC c).1) (pY p-of (ciC c).2.1))
    ·exact .inr ⟨CA.2.1 g,CA.2.1 (e1.symm.trans g)⟩
    ·exact .inl ⟨CA.1 g,CA.1 (e1.symm.trans g)⟩
   ·intro e
    have e1:pX p=pX q:=congrArg Prod.fst e
    have e2:pY p=pY q:=congrArg Prod.snd e
    show(upR (ciC c) p,pX p)=(upR (ciC c) q,pX q)
    rw[ie,ie,e1,e2]
 ·refine⟨fun p=>(upR (flC (ciC c)) (flP p),-pX p),fun d d1 d2 d3 hd p q hp hq=>?_,fun p q hp hq=>?_⟩
  ·have i1:=hd.1
   have:=hp.1
   have:=hq.1
   have e:∀{x y:Pt},Rpd x→Rpd y→a9 (xP (flP x)) (xP (flP y))=sg (-pX x- -pX y):=fun{x y} _ _=>by rw[cmpT_re lz lz,sE,sE,Er,Er]
   unfold cZ
   rw[d1,d3,cond_true,cond_true,d2]
   exact fN (e hp.1 i1) (e hq.1 i1) (e hp.1 hq.1)
  ·have r1:=hp.1
   have r2:=hq.1
   rw[cmpP_0]
   have u1:=vk (h.q ha) (jL ha hp)
   have u2:=vk (h.q ha) (jL ha hq)
   constructor
   ·intro e
    injection e with e1 e2
    rw[u1,u2]at e1
    refine HH (jL ha hp) (jL ha hq) (S2 _ _ e2) ?_
    cases g:ufA (cls (pX p-of (ciC c).1) (pY p-of (ciC c).2.1))
    ·exact .inr ⟨CA.2.2.2 g,CA.2.2.2 (e1.symm.trans g)⟩
    ·exact .inl ⟨CA.2.2.1 g,CA.2.2.1 (e1.symm.trans g)⟩
   ·intro e
    have e1:pX p=pX q:=congrArg Prod.fst e
    have e2:pY p=pY q:=congrArg Prod.snd e
    show(upR (flC (ciC c)) (flP p),-pX p)=(upR (flC (ciC c)) (flP q),-pX q)
    rw[u1,u2,e1,e2]
open RE in
theorem sZ{c:Cv}(h:Crp c):∃(K:Type) (lt:K→K→Prop) (κ:Pt→K) (f:K→K→Int),ni lt∧u5 lt f∧(∀p q,Sp c p→Sp c q→cZ c p q=f (κ p) (κ q))∧∀p q,Sp c p→Sp c q→(κ p=κ q↔aV p q=0):=by
 have hF:=h.f
 cases ha:c.1
 ·cases hd:decide (aV (frC c) (toC c)>0)
  ·refine⟨PE,adi,pR,lxc,jO,iw,fun p q hp hq=>?_,fun p q hp hq=>?_⟩
   ·have:=hp.1
    have:=hq.1
    unfold cZ
    rw[ha,hd,cond_false,cond_false,jd]
   ·have:=hp.1
    have:=hq.1
    exact cmpP_0.symm
  ·refine⟨PE,_,pR,_,Of jO,KN iw,fun p q hp hq=>?_,fun p q hp hq=>?_⟩
   ·have:=hp.1
    have:=hq.1
    unfold cZ
    rw[ha,hd,cond_false,cond_true,jd]
   ·have:=hp.1
    have:=hq.1
    exact cmpP_0.symm
 ·obtain⟨κ,h1,h2⟩:=IC h ha
  exact⟨Bool×RE,_,κ,_,Zv (MQ lt_lin) (κ (frC c)),El lt_lin sg_cmpO _,h1 c ha rfl rfl hF,h2⟩
structure Ord (c:Cv):Prop where
 tr:∀{p q r},Sp c p→Sp c q→Sp c r→cZ c p q<0→cZ c q r<0→cZ c p r<0
 tri:∀{p q},Sp c p→Sp c q→cZ c p q<0∨aV p q=0∨cZ c q p<0
 irr:∀{p q},Sp c p→Sp c q→aV p q=0→cZ c p q=0
 asy:∀{p q},Sp c p→Sp c q→cZ c p q<0→0<cZ c q p
theorem uN{c:Cv}(h:Crp c):Ord c:=by
 obtain⟨K,lt,κ,f,hl,hc,ho,hk⟩:=sZ h
 have n:∀{p q},Sp c p→Sp c q→(cZ c p q<0↔lt (κ p) (κ q)):=fun{p q} hp hq=>by
  rw[ho p q hp hq,←al7 (p:=f (κ p) (κ q)<0)]
  exact yb hl hc _ _
 refine⟨fun{p q r} hp hq hr g g'=>?_,fun{p q} hp hq=>?_,fun{p q} hp hq g=>?_,fun{p q} hp hq g=>?_⟩
 ·rw[n hp hr]
  exact hl.tr _ _ _ ((n hp hq).1 g) ((n hq hr).1 g')
 ·rw[n hp hq,n hq hp,←hk p q hp hq]
  exact hl.tri _ _
 ·rw[ho p q hp hq,(hc _ _).2.1 ((hk p q hp hq).2 g)]
 ·rw[ho q p hq hp,(hc _ _).2.2 ((n hp hq).1 g)]
  decide
def Spb(c:Cv)(x:BP):Prop:=Sp c (dec x)
theorem Oe{c:Cv}(o:Ord c){x:BP}(hx:Spb c x):∀{l:List BP},(∀y∈l,Spb c y)→l.Pairwise (fun a b=>cZ c (dec a) (dec b)<0)→(fL c l x).Pairwise (fun a b=>cZ c (dec a) (dec b)<0)
 |[],_,_=>by simp[fL]
 |y::r,hl,hp=>by
  have hy:=hl y (by simp)
  have hr:∀z∈r,Spb c z:=fun z hz=>hl z (ala _ hz)
  obtain⟨p1,p2⟩:=alx.1 hp
  simp only[fL]
  by_cases h1:cZ c (dec y) (dec x)<0
  ·rw[akY h1,cond_true]
   refine alx.2 ⟨fun z hz=>?_,Oe o hx hr p2⟩
   rcases pN hz with g|g
   ·exact p1 z g
   ·rw[g];exact h1
  ·rw[ak0 h1,cond_false]
   by_cases h2:aV (dec y) (dec x)=0
   ·rw[al9.2 h2,cond_true];exact hp
   ·rw[anm.2 h2,cond_false]
    have h3:cZ c (dec x) (dec y)<0:=by
     rcases o.tri hy hx with g|g|g
     ·exact absurd g h1
     ·exact absurd g h2
     ·exact g
    refine alx.2 ⟨fun z hz=>?_,hp⟩
    rcases ald.1 hz with g|g
    ·rw[g];exact h3
    ·exact o.tr hx hy (hr z g) h3 (p1 z g)
theorem H4{c:Cv}(o:Ord c):∀{l out:List BP},(∀y∈l,Spb c y)→(∀y∈out,Spb c y)→out.Pairwise (fun a b=>cZ c (dec a) (dec b)<0)→(l.foldl (fL c) out).Pairwise (fun a b=>cZ c (dec a) (dec b)<0)
 |[],_,_,_,h=>h
 |x::l,out,hl,ho,h=>H4 o (l:=l) (fun y hy=>hl y (ala _ hy)) (fun y hy=>by
   rcases pN hy with g|g
   ·exact ho y g
   ·rw[g];exact hl x (by simp)) (Oe o (hl x (by simp)) ho h)
theorem NK{c:Cv}(o:Ord c){l:List BP}(hl:∀y∈l,Spb c y):(gP c l).Pairwise (fun a b=>cZ c (dec a) (dec b)<0):=H4 o hl (fun y hy=>by cases hy) List.Pairwise.nil
theorem Ng{c:BCU}{R:BP→BP→Prop}{p:BCU}:∀{s:List BP},s.Pairwise R→p∈yS c s→∃x y,x∈s∧y∈s∧R x y∧p=AY c x y
 |[],_,h=>by cases h
 |[_],_,h=>by cases h
 |x::y::r,hp,h=>by
  obtain⟨p1,p2⟩:=alx.1 hp
  simp only[yS]at h
  rcases ald.1 h with h|h
  ·exact⟨x,y,by simp,by simp,p1 y (by simp),h⟩
  ·obtain⟨a,b,h1,h2,h3,h4⟩:=Ng p2 h
   exact⟨a,b,ala _ h1,ala _ h2,h3,h4⟩
theorem Po{c:BCU}(h:gdN c){l:List BP}(ho:∀p∈l,okP 500 p∧onR (dC c) (dec p)=true):∀x∈vI c l,okP 500 x∧Spb (dC c) x:=by
 intro z hz
 rcases IN hz with e|e|e
 ·rw[e];exact⟨h.1.1.2.2.1,nM h.1.1.2.2.1,h.2.1⟩
 ·rw[e];exact⟨h.1.1.2.2.2,nM h.1.1.2.2.2,h.2.2.1⟩
 ·exact⟨(ho z e).1,nM (ho z e).1,(ak8.1 (ho z e).2).1⟩
theorem acM{c:BCU}(h:gdN c){l:List BP}(ho:∀p∈l,okP 500 p∧onR (dC c) (dec p)=true):(vI c l).Pairwise (fun a b=>cZ (dC c) (dec a) (dec b)<0):=by
 refine NK (uN (uY h.gd)) fun y hy=>?_
 rcases alJ.1 hy with hy|hy
 ·simp only[ald,aml,anM]at hy
  rcases hy with e|e
  ·rw[e];exact⟨nM h.1.1.2.2.1,h.2.1⟩
  ·rw[e];exact⟨nM h.1.1.2.2.2,h.2.2.1⟩
 ·exact⟨nM (ho y hy).1,(ak8.1 (ho y hy).2).1⟩
theorem Vq{c:BCU}(h:gdN c){l:List BP}(ho:∀p∈l,okP 500 p∧onR (dC c) (dec p)=true):∀p∈lh c l,gdN p:=by
 intro p hp
 have hm:=aaQ h ho p hp
 obtain⟨x,y,hx,hy,hr,e⟩:=Ng (acM h ho) hp
 have o:=uN (uY h.gd)
 refine⟨hm.1,hm.2.1,hm.2.2,fun g=>?_⟩
 rw[e]at g
 have:=o.irr (Po h ho x hx).2 (Po h ho y hy).2 g
 omega
theorem SP{x:Pce}(h:yO x):∀p∈F1 x,gdN p:=by
 intro p hp
 have hA:=CE h.1
 unfold F1 at hp
 cases hl:ofL x.1 with
 |nil=>rw[hl]at hp;cases hp
 |cons c r=>
  rw[hl]at hp hA
  exact Vq (hA c (by simp)) (QN (hA c (by simp)) (CE h.2.1)).2 p hp
theorem HV{x:Pce}(h:yO x)(ho:yR x=true):gdN (jS x):=SP h _ (Up h ho)
theorem gdN.e{c:BCU}(h:gdN c):RE.GdE (dC c):=(uY h.gd).e h.2.2.2
end
theorem S5{α:Type}{lt:α→α→Prop}{f:α→α→Int}(hl:ni lt)(h:u5 lt f)(x y:α):f x y≤0↔¬lt y x:=by
 rcases hl.tri x y with g|g|g
 ·rw[(h x y).1 g];exact⟨fun _ e=>hl.irr _ (hl.tr _ _ _ e g),fun _=>by decide⟩
 ·rw[(h x y).2.1 g];exact⟨fun _ e=>by rw[g]at e;exact hl.irr _ e,fun _=>by decide⟩
 ·rw[(h x y).2.2 g];exact⟨fun e=>absurd e (by decide),fun e=>absurd g e⟩
theorem lE{α:Type}{lt:α→α→Prop}{f:α→α→Int}(hl:ni lt)(h:u5 lt f)(x y:α):f x y<0↔lt x y:=by
 rw[←al7 (p:=f x y<0)]
 exact yb hl h x y
structure ajS (c:Cv):Prop extends Ord c where
 le:∀{p q},Sp c p→Sp c q→(cZ c p q≤0↔¬cZ c q p<0)
 lt:∀{p q r},Sp c p→Sp c q→Sp c r→¬cZ c q p<0→¬cZ c r q<0→¬cZ c r p<0
theorem V1{c:Cv}(h:Crp c):ajS c:=by
 obtain⟨K,lt,κ,f,hl,hc,ho,hk⟩:=sZ h
 refine⟨uN h,fun{p q} hp hq=>?_,fun{p q r} hp hq hr=>?_⟩
 ·rw[ho p q hp hq,ho q p hq hp,S5 hl hc,lE hl hc]
 ·rw[ho q p hq hp,ho r q hr hq,ho r p hr hp,lE hl hc,lE hl hc,lE hl hc]
  intro g g' e
  rcases hl.tri (κ q) (κ p)with a|a|a
  ·exact g a
  ·exact g' (by rw[a];exact e)
  ·exact g' (hl.tr _ _ _ e a)
theorem yF{c:Cv}(h:Crp c){p:Pt}(hp:Rpd p):onR c p=true↔gi c p=true∧¬cZ c p (frC c)<0∧¬cZ c (toC c) p<0:=by
 have o:=V1 h
 unfold onR
 rw[ak8,ak8,al7,al7]
 refine and_congr_right fun hs=>?_
 rw[o.le h.f ⟨hp,hs⟩,o.le ⟨hp,hs⟩ h.t]
theorem Ah{c:Cv}{x y:BP}:∀{r:List BP},y∈r→y∈fL c r x
 |[],h=>by cases h
 |z::r,h=>by
  simp only[fL]
  cases decide (cZ c (dec z) (dec x)<0)
  ·cases aV (dec z) (dec x)==0
   ·exact ala _ h
   ·exact h
  ·rcases ald.1 h with e|e
   ·rw[e];exact .head _
   ·exact ala _ (Ah e)
theorem C3{c:Cv}{y:BP}:∀{l r:List BP},y∈r→y∈l.foldl (fL c) r
 |[],_,h=>h
 |_::l,_,h=>C3 (l:=l) (Ah h)
theorem af3{c:BCU}(h:gdN c):cZ (dC c) (frC (dC c)) (toC (dC c))<0:=by
 have k:=uY h.gd
 have hne:aV (frC (dC c)) (toC (dC c))≠0:=h.2.2.2
 cases ha:(dC c).1
 ·unfold cZ
  rw[ha,cond_false]
  cases hd:decide (aV (frC (dC c)) (toC (dC c))>0)
  ·have:=alQ hd
   rw[cond_false];omega
  ·have:=ak1 hd
   rw[cond_true];omega
 ·rcases(uN k).tri k.f k.t with g|g|g
  ·exact g
  ·exact absurd g hne
  ·obtain⟨κ,h1,h2⟩:=IC k ha
   have hl:=MQ RE.lt_lin
   rw[h1 (dC c) ha rfl rfl k.f _ _ k.t k.f,lE (Zv hl _) (El RE.lt_lin RE.sg_cmpO _)]at g
   rcases g with⟨_,g⟩|⟨g1,g2⟩
   ·exact absurd g (hl.irr _)
   ·exact absurd (g1.1 g2) (hl.irr _)
theorem He{c:BCU}(h:gdN c):onR (dC c) (frC (dC c))=true∧onR (dC c) (toC (dC c))=true:=by
 have k:=uY h.gd
 have o:=uN k
 have irr:∀{q},Sp (dC c) q→cZ (dC c) q q=0:=fun{q} hq=>by
  have:=hq.1
  exact o.irr hq hq (RE.cmpP_0.2 rfl)
 have tf:=o.asy k.f k.t (af3 h)
 rw[yF k k.f.1,yF k k.t.1,irr k.f,irr k.t]
 exact⟨⟨k.f.2,by omega,by omega⟩,k.t.2,by omega,by omega⟩
def BE(c:Cv)(p q:Pt):Int:=bif c.1 then(bif cwC c then-(gO a9 (ptd (ciC c) (toC c)) (ptd (ciC c) p) (ptd (ciC c) q))else gO a9 (ptd (ciC c) (frC c)) (ptd (ciC c) p) (ptd (ciC c) q))else aV p q*aV (toC c) (frC c)
namespace RE
theorem Ud:∀kF kP kQ:Fin 4,∀iF iP iQ:Fin 3,FJ kF.1 iF.1 kP.1 iP.1 kQ.1 iQ.1=true→
  gO cI (upA kF.1,iF.1) (upA kP.1,iP.1) (upA kQ.1,iQ.1)=jY cI (upA kF.1,iF.1) (upA kP.1,iP.1) (upA kQ.1,iQ.1):=by decide+kernel
theorem Z6:∀kF kT:Fin 4,∀iF iT:Fin 4,(mn kF.1 iF.1 kT.1 iT.1&&mn kT.1 iT.1 kF.1 iF.1)=true→∀kP iP:Fin 4,(mn kF.1 iF.1 kP.1 iP.1&&mn kP.1 iP.1 kF.1 iF.1&&mn kT.1 iT.1 kP.1 iP.1&&mn kP.1 iP.1 kT.1 iT.1&&decide (gO cI (upA kT.1,iT.1) (upA kP.1,iP.1) (upA kF.1,iF.1)≤0))=true→
  ∀kQ iQ:Fin 4,(mn kF.1 iF.1 kQ.1 iQ.1&&mn kQ.1 iQ.1 kF.1 iF.1&&mn kT.1 iT.1 kQ.1 iQ.1&&mn kQ.1 iQ.1 kT.1 iT.1&&mn kP.1 iP.1 kQ.1 iQ.1&&mn kQ.1 iQ.1 kP.1 iP.1&&decide (gO cI (upA kT.1,iT.1) (upA kQ.1,iQ.1) (upA kF.1,iF.1)≤0))=true→
  -(gO cI (upA kT.1,iT.1) (upA kP.1,iP.1) (upA kQ.1,iQ.1))=jY dI (ufA kF.1,iF.1) (ufA kP.1,iP.1) (ufA kQ.1,iQ.1):=by decide+kernel
theorem abO{ci:Ln}{F P Q:Pt}[Rpd F][Rpd P][Rpd Q](hQ:0<ci.2.2)(hF:onCi ci F)(hP:onCi ci P)(hq:onCi ci Q):
  gO a9 (ptd ci F) (ptd ci P) (ptd ci Q)=jY a9 (ptd ci F) (ptd ci P) (ptd ci Q):=by
 have mF:pX F∈[pX F,pX P,pX Q]:=by simp
 have mP:pX P∈[pX F,pX P,pX Q]:=by simp
 have mQ:pX Q∈[pX F,pX P,pX Q]:=by simp
 have h0:0<of ci.2.2:=io hQ
 have hcon:FJ (cls (pX F-of ci.1) (pY F-of ci.2.1)) (rk (fun a b:RE=>a<b) [pX F,pX P,pX Q] (pX F)) (cls (pX P-of ci.1) (pY P-of ci.2.1)) (rk (fun a b:RE=>a<b) [pX F,pX P,pX Q] (pX P)) (cls (pX Q-of ci.1) (pY Q-of ci.2.1)) (rk (fun a b:RE=>a<b) [pX F,pX P,pX Q] (pX Q))=true:=by
  unfold FJ
  rw[da h0 hF hP mF mP,da h0 hP hF mP mF,da h0 hF hq mF mQ,da h0 hq hF mQ mF,da h0 hP hq mP mQ,da h0 hq hP mQ mP]
  rfl
 have a:=Ud ⟨_,gY (pX F-of ci.1) (pY F-of ci.2.1)⟩ ⟨_,gY (pX P-of ci.1) (pY P-of ci.2.1)⟩ ⟨_,gY (pX Q-of ci.1) (pY Q-of ci.2.1)⟩ ⟨_,iJ lt_lin mF⟩ ⟨_,iJ lt_lin mP⟩ ⟨_,iJ lt_lin mQ⟩ hcon
 simp only at a
 unfold ptd
 rw[ie,ie,ie,hZ (fi mP mF) (fi mQ mF) (fi mP mQ),fN (fi mP mF) (fi mQ mF) (fi mP mQ)]
 exact a
theorem af0{ci:Ln}{F T P Q:Pt}[Rpd F][Rpd T][Rpd P][Rpd Q](hQ:0<ci.2.2)(hF:onCi ci F)(hT:onCi ci T)(hP:onCi ci P)(hq:onCi ci Q)
  (oP:decide (gO a9 (ptd ci T) (ptd ci P) (ptd ci F)≤0)=true) (oQ:decide (gO a9 (ptd ci T) (ptd ci Q) (ptd ci F)≤0)=true):
  -(gO a9 (ptd ci T) (ptd ci P) (ptd ci Q))=jY a9 (ptd (flC ci) (flP F)) (ptd (flC ci) (flP P)) (ptd (flC ci) (flP Q)):=by
 have mF:pX F∈[pX F,pX T,pX P,pX Q]:=by simp
 have mT:pX T∈[pX F,pX T,pX P,pX Q]:=by simp
 have mP:pX P∈[pX F,pX T,pX P,pX Q]:=by simp
 have mQ:pX Q∈[pX F,pX T,pX P,pX Q]:=by simp
 have h0:0<of ci.2.2:=io hQ
 revert oP oQ
 unfold ptd
 rw[ie,ie,ie,ie,vk hQ hF,vk hQ hP,vk hQ hq,hZ (fi mP mT) (fi mF mT) (fi mP mF),hZ (fi mQ mT) (fi mF mT) (fi mQ mF),hZ (fi mP mT) (fi mQ mT) (fi mP mQ),fN (m4 mP mF) (m4 mQ mF) (m4 mP mQ)]
 intro oP oQ
 refine Z6 ⟨_,gY (pX F-of ci.1) (pY F-of ci.2.1)⟩ ⟨_,gY (pX T-of ci.1) (pY T-of ci.2.1)⟩ ⟨_,iJ lt_lin mF⟩ ⟨_,iJ lt_lin mT⟩ ?_ ⟨_,gY (pX P-of ci.1) (pY P-of ci.2.1)⟩ ⟨_,iJ lt_lin mP⟩ ?_ ⟨_,gY (pX Q-of ci.1) (pY Q-of ci.2.1)⟩ ⟨_,iJ lt_lin mQ⟩ ?_
 ·simp only
  rw[da h0 hF hT mF mT,da h0 hT hF mT mF]
  rfl
 ·simp only
  rw[da h0 hF hP mF mP,da h0 hP hF mP mF,da h0 hT hP mT mP,da h0 hP hT mP mT,oP]
  rfl
 ·simp only
  rw[da h0 hF hq mF mQ,da h0 hq hF mQ mF,da h0 hT hq mT mQ,da h0 hq hT mQ mT,da h0 hP hq mP mQ,da h0 hq hP mQ mP,oQ]
  rfl
theorem Kq{p q:Pt}[Rpd p][Rpd q]:aV p q= -aV q p:=by
 rw[jd,jd]
 rcases jO.tri (pR p) (pR q)with h|h|h
 ·rw[(iw _ _).1 h,(iw _ _).2.2 h]
 ·rw[h,(iw (pR q) (pR q)).2.1 rfl];rfl
 ·rw[(iw _ _).2.2 h,(iw _ _).1 h];rfl
theorem ord_eq{c:Cv}(h:Crp c)(hne:aV (frC c) (toC c)≠0){p q:Pt}(hp:Rpd p)(hq:Rpd q)(op:onP c p=true)(oq:onP c q=true):BE c p q=cZ c p q:=by
 have hf:=h.f.1
 have ht:=h.t.1
 unfold onP at op oq
 obtain⟨sp,rp⟩:=ak8.1 op
 obtain⟨sq,rq⟩:=ak8.1 oq
 unfold BE cZ
 unfold il at rp rq
 cases ha:c.1
 ·rw[cond_false,cond_false,Kq (p:=toC c)]
  have hb:=v5 (frC c) (toC c)
  by_cases hd:aV (frC c) (toC c)>0
  ·rw[akY hd,cond_true,show aV (frC c) (toC c)=1 by omega]
   omega
  ·rw[ak0 hd,cond_false,show aV (frC c) (toC c)= -1 by omega]
   omega
 ·rw[ha,cond_true]at rp rq
  rw[cond_true,cond_true]
  have q0:=h.q ha
  have oF:=jL ha h.f
  have oT:=jL ha h.t
  have oP:=jL ha ⟨hp,sp⟩
  have oQ:=jL ha ⟨hq,sq⟩
  unfold ccF ccT at rp rq
  cases hw:cwC c
  ·rw[cond_false,cond_false]
   exact abO q0 oF oP oQ
  ·rw[hw,cond_true,cond_true]at rp rq
   rw[cond_true,cond_true]
   exact af0 q0 oF oT oP oQ rp rq
end RE
theorem yV{K:Type}{lt:K→K→Prop}(h:ni lt):∀{A B:List K},A.Pairwise lt→B.Pairwise lt→(∀x,x∈A↔x∈B)→A=B
 |[],[],_,_,_=>rfl
 |[],b::B,_,_,e=>absurd ((e b).2 (by simp)) (by simp)
 |a::A,[],_,_,e=>absurd ((e a).1 (by simp)) (by simp)
 |a::A,b::B,pa,pb,e=>by
  obtain⟨a1,a2⟩:=alx.1 pa
  obtain⟨b1,b2⟩:=alx.1 pb
  have ab:a=b:=by
   rcases ald.1 ((e a).1 (by simp))with g|g
   ·exact g
   ·rcases ald.1 ((e b).2 (by simp))with k|k
    ·exact k.symm
    ·exact absurd (h.tr _ _ _ (a1 b k) (b1 a g)) (h.irr a)
  subst ab
  rw[yV h a2 b2 fun x=>⟨fun hx=>?_,fun hx=>?_⟩]
  ·rcases ald.1 ((e x).1 (ala _ hx))with g|g
   ·rw[g]at hx;exact absurd (a1 a hx) (h.irr a)
   ·exact g
  ·rcases ald.1 ((e x).2 (ala _ hx))with g|g
   ·rw[g]at hx;exact absurd (b1 a hx) (h.irr a)
   ·exact g
def eqL(A B:List BP):Prop:=A.length=B.length∧∀(i:Nat) (a b:BP),A[i]?=some a→B[i]?=some b→aV (dec a) (dec b)=0
theorem UK{K:Type}{f:BP→K}{A B:List BP}(e:A.map f=B.map f)(g:∀a∈A,∀b∈B,f a=f b→aV (dec a) (dec b)=0):eqL A B:=by
 refine⟨by simpa using congrArg List.length e,fun i a b ha hb=>?_⟩
 have h1:(A.map f)[i]?=some (f a):=by rw[alY,ha];rfl
 have h2:(B.map f)[i]?=some (f b):=by rw[alY,hb];rfl
 rw[e,h2]at h1
 injection h1 with h1
 exact g a (alV ha) b (alV hb) h1.symm
abbrev oL(c:Cv)(A:List BP):Prop:=A.Pairwise (fun a b=>cZ c (dec a) (dec b)<0)
theorem MG{c:Cv}(h:Crp c){A B:List BP}(hA:∀x∈A,Spb c x)(hB:∀x∈B,Spb c x)(pA:oL c A)(pB:oL c B)(e1:∀a∈A,∃b∈B,aV (dec a) (dec b)=0)(e2:∀b∈B,∃a∈A,aV (dec a) (dec b)=0):eqL A B:=by
 obtain⟨K,lt,κ,f,hl,hc,ho,hk⟩:=sZ h
 have pw:∀{L:List BP},(∀x∈L,Spb c x)→oL c L→(L.map fun x=>κ (dec x)).Pairwise lt:=fun{L} hL pL=>by
  refine List.pairwise_map.2 (List.Pairwise.imp_of_mem (fun{a b} ha hb g=>?_) pL)
  rw[ho _ _ (hL a ha) (hL b hb)]at g
  exact(lE hl hc _ _).1 g
 refine UK (f:=fun x=>κ (dec x)) (yV hl (pw hA pA) (pw hB pB) fun x=>⟨fun hx=>?_,fun hx=>?_⟩) fun a ha b hb g=>(hk _ _ (hA a ha) (hB b hb)).1 g
 ·obtain⟨a,ha,rfl⟩:=al3.1 hx
  obtain⟨b,hb,g⟩:=e1 a ha
  exact al3.2 ⟨b,hb,((hk _ _ (hA a ha) (hB b hb)).2 g).symm⟩
 ·obtain⟨b,hb,rfl⟩:=al3.1 hx
  obtain⟨a,ha,g⟩:=e2 b hb
  exact al3.2 ⟨a,ha,(hk _ _ (hA a ha) (hB b hb)).2 g⟩
section
section
variable {α K:Type}
def lg(lt:α→α→Bool):List α→α→List α
 |[],a=>[a]
 |b::r,a=>bif lt a b then b::lg lt r a else a::b::r
def tK(lt:α→α→Bool)(l:List α):List α:=(l.foldl (lg lt) []).reverse
def jI(eq:α→α→Bool):α→List α→List α
 |_,[]=>[]
 |p,q::r=>bif eq q p then jI eq q r else q::jI eq q r
def vJ(eq:α→α→Bool):List α→List α
 |[]=>[]
 |x::r=>x::jI eq x r
theorem mE{lt:α→α→Bool}{a x:α}:∀{r:List α},x∈lg lt r a↔x=a∨x∈r
 |[]=>by simp[lg]
 |b::r=>by
  unfold lg
  cases lt a b
  ·simp
  ·simp only[cond_true,ald,mE (r:=r)]
   constructor
   ·rintro (h|h|h)
    ·exact .inr (.inl h)
    ·exact .inl h
    ·exact .inr (.inr h)
   ·rintro (h|h|h)
    ·exact .inr (.inl h)
    ·exact .inl h
    ·exact .inr (.inr h)
theorem C8{lt:α→α→Bool}{x:α}:∀{l r:List α},x∈l.foldl (lg lt) r↔x∈l∨x∈r
 |[],r=>by simp
 |a::l,r=>by
  rw[amJ,C8,mE,ald]
  constructor
  ·rintro (h|h|h)
   ·exact .inl (.inr h)
   ·exact .inl (.inl h)
   ·exact .inr h
  ·rintro ((h|h)|h)
   ·exact .inr (.inl h)
   ·exact .inl h
   ·exact .inr (.inr h)
theorem pM{lt:α→α→Bool}{x:α}{l:List α}:x∈tK lt l↔x∈l:=by
 unfold tK
 rw[List.mem_reverse,C8]
 simp
theorem tb{lt:α→α→Bool}{a:α}:∀{r:List α},(lg lt r a).length=r.length+1
 |[]=>rfl
 |b::r=>by
  unfold lg
  cases lt a b
  ·rfl
  ·simp[tb (r:=r)]
theorem Hl{lt:α→α→Bool}:∀{l r:List α},(l.foldl (lg lt) r).length=l.length+r.length
 |[],r=>by simp
 |a::l,r=>by
  rw[amJ,Hl,tb,ale]
  omega
theorem Et{lt:α→α→Bool}{l:List α}:(tK lt l).length=l.length:=by
 unfold tK
 rw[List.length_reverse,Hl]
 rfl
theorem Cu{eq:α→α→Bool}:∀{l:List α} {p:α},(jI eq p l).length≤l.length
 |[],_=>ak4 _
 |q::r,p=>by
  unfold jI
  have:=Cu (eq:=eq) (l:=r) (p:=q)
  cases eq q p
  ·simp only[cond_false,ale];omega
  ·simp only[cond_true,ale];omega
theorem Ny{eq:α→α→Bool}{l:List α}:(vJ eq l).length≤l.length:=by
 cases l with
 |nil=>exact ak4 _
 |cons x r=>
  have:=Cu (eq:=eq) (l:=r) (p:=x)
  simp only[vJ,ale]
  omega
theorem yx{eq:α→α→Bool}{x:α}:∀{l:List α} {p:α},x∈jI eq p l→x∈l
 |[],_,h=>h
 |q::r,p,h=>by
  unfold jI at h
  cases hq:eq q p<;>rw[hq]at h
  ·rcases ald.1 h with e|e
   ·rw[e];simp
   ·exact ala _ (yx e)
  ·exact ala _ (yx h)
theorem OR{eq:α→α→Bool}{x:α}{l:List α}(h:x∈vJ eq l):x∈l:=by
 cases l with
 |nil=>exact h
 |cons y r=>
  rcases ald.1 h with e|e
  ·rw[e];simp
  ·exact ala _ (yx e)
variable {lt:K→K→Prop} (hl:ni lt) (κ:α→K)
abbrev upK(lt:K→K→Prop)(κ:α→K)(l:List α):Prop:=l.Pairwise fun a b=>¬lt (κ b) (κ a)
abbrev dnK(lt:K→K→Prop)(κ:α→K)(l:List α):Prop:=l.Pairwise fun a b=>¬lt (κ a) (κ b)
include hl in
theorem HL{f:α→α→Bool}{a:α}:∀{r:List α},(∀b∈r,(f a b=true↔lt (κ a) (κ b)))→dnK lt κ r→dnK lt κ (lg f r a)
 |[],_,_=>by simp[lg]
 |b::r,hf,hp=>by
  obtain⟨p1,p2⟩:=alx.1 hp
  have hb:=hf b (by simp)
  unfold lg
  cases hfb:f a b
  ·simp only[cond_false]
   have nlt:¬lt (κ a) (κ b):=fun h=>by rw[hb.2 h]at hfb;cases hfb
   refine alx.2 ⟨fun x hx=>?_,hp⟩
   rcases ald.1 hx with e|e
   ·rw[e];exact nlt
   ·intro h
    rcases hl.tri (κ b) (κ x)with g|g|g
    ·exact p1 x e g
    ·rw[←g]at h;exact nlt h
    ·exact nlt (hl.tr _ _ _ h g)
  ·simp only[cond_true]
   have hlt:=hb.1 hfb
   refine alx.2 ⟨fun x hx=>?_,HL (fun y hy=>hf y (ala _ hy)) p2⟩
   rcases mE.1 hx with e|e
   ·rw[e];intro h;exact hl.irr _ (hl.tr _ _ _ h hlt)
   ·exact p1 x e
include hl in
theorem Jf{f:α→α→Bool}:∀{l r:List α},(∀a b,(a∈l∨a∈r)→(b∈l∨b∈r)→(f a b=true↔lt (κ a) (κ b)))→dnK lt κ r→dnK lt κ (l.foldl (lg f) r)
 |[],_,_,h=>h
 |a::l,r,hf,h=>by
  rw[amJ]
  refine Jf (fun x y hx hy=>hf x y ?_ ?_) (HL hl κ (fun b hb=>hf a b (.inl (by simp)) (.inr hb)) h)
  ·rcases hx with e|e
   ·exact .inl (ala _ e)
   ·rcases mE.1 e with g|g
    ·exact .inl (by rw[g];simp)
    ·exact .inr g
  ·rcases hy with e|e
   ·exact .inl (ala _ e)
   ·rcases mE.1 e with g|g
    ·exact .inl (by rw[g];simp)
    ·exact .inr g
include hl in
theorem VM{f:α→α→Bool}{l:List α}(hf:∀a∈l,∀b∈l,(f a b=true↔lt (κ a) (κ b))):upK lt κ (tK f l):=by
 unfold tK
 refine List.pairwise_reverse.2 (Jf hl κ (fun a b ha hb=>hf a ?_ b ?_) (by simp))
 ·rcases ha with h|h
  ·exact h
  ·cases h
 ·rcases hb with h|h
  ·exact h
  ·cases h
include hl in
theorem HP{g:α→α→Bool}:∀{l:List α} {p:α},(∀a b,a∈p::l→b∈p::l→(g a b=true↔κ a=κ b))→upK lt κ (p::l)→
  (p::jI g p l).Pairwise (fun a b=>lt (κ a) (κ b))∧∀x∈p::l,∃y∈p::jI g p l,κ y=κ x
 |[],p,_,_=>⟨by simp[jI],fun x hx=>⟨x,hx,rfl⟩⟩
 |q::r,p,hg,hp=>by
  obtain⟨p1,p2⟩:=alx.1 hp
  obtain⟨i1,i2⟩:=HP (l:=r) (p:=q) (fun a b ha hb=>hg a b (ala _ ha) (ala _ hb)) p2
  obtain⟨j1,j2⟩:=alx.1 i1
  have hq:=hg q p (by simp) (by simp)
  unfold jI
  cases hqp:g q p
  ·simp only[cond_false]
   have hlt:lt (κ p) (κ q):=by
    rcases hl.tri (κ p) (κ q)with e|e|e
    ·exact e
    ·rw[hq.2 e.symm]at hqp;cases hqp
    ·exact absurd e (p1 q (by simp))
   refine⟨alx.2 ⟨fun x hx=>?_,i1⟩,fun x hx=>?_⟩
   ·rcases ald.1 hx with e|e
    ·rw[e];exact hlt
    ·exact hl.tr _ _ _ hlt (j1 x e)
   ·rcases ald.1 hx with e|e
    ·exact⟨p,by simp,by rw[e]⟩
    ·obtain⟨y,hy,e2⟩:=i2 x e
     exact⟨y,ala _ hy,e2⟩
  ·simp only[cond_true]
   have he:=hq.1 hqp
   refine⟨alx.2 ⟨fun x hx=>by rw[←he];exact j1 x hx,j2⟩,fun x hx=>?_⟩
   have tr:∀y,y∈q::jI g q r→∃z∈p::jI g q r,κ z=κ y:=fun y hy=>by
    rcases ald.1 hy with e|e
    ·exact⟨p,by simp,by rw[e,he]⟩
    ·exact⟨y,ala _ e,rfl⟩
   rcases ald.1 hx with e|e
   ·exact⟨p,by simp,by rw[e]⟩
   ·obtain⟨y,hy,e2⟩:=i2 x e
    obtain⟨z,hz,e3⟩:=tr y hy
    exact⟨z,hz,e3.trans e2⟩
include hl in
theorem VX{g:α→α→Bool}{l:List α}(hg:∀a∈l,∀b∈l,(g a b=true↔κ a=κ b))(hp:upK lt κ l):(vJ g l).Pairwise (fun a b=>lt (κ a) (κ b))∧∀x∈l,∃y∈vJ g l,κ y=κ x:=by
 cases l with
 |nil=>exact⟨by simp[vJ],fun x hx=>by cases hx⟩
 |cons p r=>exact HP hl κ (fun a b ha hb=>hg a ha b hb) hp
end
def ltP(c:Cv)(a b:BP):Bool:=decide (BE c (dec a) (dec b)<0)
def im(a b:BP):Bool:=aV (dec a) (dec b)==0
def dh(c:Cv)(l:List BP):List BP:=vJ im (tK (ltP c) l)
theorem jH{c:Cv}{l:List BP}{x:BP}(h:x∈dh c l):x∈l:=pM.1 (OR h)
theorem oR{c:Cv}{l:List BP}:(dh c l).length≤l.length:=by
 have:=Ny (eq:=im) (l:=tK (ltP c) l)
 rw[Et]at this
 exact this
theorem Cl{c:Cv}(h:Crp c)(hne:aV (frC c) (toC c)≠0){l:List BP}(hon:∀x∈l,Rpd (dec x:Pt)∧onP c (dec x)=true):oL c (dh c l)∧∀x∈l,∃y∈dh c l,aV (dec y) (dec x)=0:=by
 obtain⟨K,lt,κ,f,hl,hc,ho,hk⟩:=sZ h
 have sp:∀x∈l,Spb c x:=fun x hx=>⟨(hon x hx).1,(ak8.1 (hon x hx).2).1⟩
 have up:=VM hl (fun x:BP=>κ (dec x)) (f:=ltP c) (l:=l) fun a ha b hb=>by
  unfold ltP
  rw[al7,RE.ord_eq h hne (hon a ha).1 (hon b hb).1 (hon a ha).2 (hon b hb).2,ho _ _ (sp a ha) (sp b hb)]
  exact lE hl hc _ _
 have q:=VX hl (fun x:BP=>κ (dec x)) (g:=im) (l:=tK (ltP c) l) (fun a ha b hb=>by
  unfold im
  rw[al9]
  exact(hk _ _ (sp a (pM.1 ha)) (sp b (pM.1 hb))).symm) up
 refine⟨List.Pairwise.imp_of_mem (fun{a b} ha hb g=>?_) q.1,fun x hx=>?_⟩
 ·have ha':=jH (c:=c) ha
  have hb':=jH (c:=c) hb
  rw[ho _ _ (sp a ha') (sp b hb')]
  exact(lE hl hc _ _).2 g
 ·obtain⟨y,hy,e⟩:=q.2 x (pM.2 hx)
  exact⟨y,hy,(hk _ _ (sp y (jH (c:=c) hy)) (sp x hx)).1 e⟩
end
theorem acy{c:Cv}(h:Crp c):Crv c:=⟨h.f.1,h.t.1,fun ha=>⟨h.q ha,jL ha h.f,jL ha h.t⟩⟩
theorem jU{c:Cv}(h:Crp c){p:Pt}(hp:Rpd p):onP c p=onR c p:=agc (acy h) hp
namespace RE
theorem gC{c:Cv}{p:Pt}[Rpd p]:gi c p=true↔bif c.1 then fA (ciC c) (pR p)else gK (lnC c) (pR p):=by
 unfold gi
 cases c.1
 ·exact Be
 ·exact tD
theorem uU{q:Rat}(hq:q≠0){x y:RE}(h:of q*x=of q*y):x=y:=by
 have e:∀z:RE,of q⁻¹*(of q*z)=z:=fun z=>by
  rw[←mul_assoc,←aE,Rat.inv_mul_cancel _ hq,Ay,one_mul]
 rw[←e x,h,e y]
theorem ajH(a p q x y:RE):a*(p*x+q*y)=p*(a*x)+a*q*y:=by grind
theorem ajo(p a b x y:RE):p*(a*x+b*y)=p*(a*x)+b*p*y:=by grind
theorem ajC(b p q x y:RE):b*(p*x+q*y)=b*p*x+q*(b*y):=by grind
theorem aka(q a b x y:RE):q*(a*x+b*y)=a*q*x+q*(b*y):=by grind
theorem acA{l m:Ln}(hl:l.1≠0∨l.2.1≠0)(h:oh l m=true){v:PE}(hv:gK l v):gK m v:=by
 unfold oh at h
 obtain⟨h1,h23⟩:=ak8.1 h
 obtain⟨h2,h3⟩:=ak8.1 h23
 have h1:=ak1 h1
 have h2:=ak1 h2
 have h3:=ak1 h3
 unfold gK at*
 rcases hl with ha|hb
 ·refine uU ha ?_
  rw[ajH,←aE l.1 m.2.1,h1,aE,←ajo,hv,←aE,←aE,h2,amO]
 ·refine uU hb ?_
  rw[ajC,←aE l.2.1 m.1,←h1,aE,←aka,hv,←aE,←aE,h3,amO]
theorem Tt{l m:Ln}(h:oh l m=true):oh m l=true:=by
 unfold oh at*
 obtain⟨h1,h23⟩:=ak8.1 h
 obtain⟨h2,h3⟩:=ak8.1 h23
 have h1:=ak1 h1
 have h2:=ak1 h2
 have h3:=ak1 h3
 rw[dT (show m.1*l.2.1=m.2.1*l.1 by grind),dT (show m.1*l.2.2=m.2.2*l.1 by grind),dT (show m.2.1*l.2.2=m.2.2*l.2.1 by grind)]
 rfl
theorem abt{c d:Ln}(h:oZ c d=true):c=d:=by
 unfold oZ at h
 obtain⟨h1,h23⟩:=ak8.1 h
 obtain⟨h2,h3⟩:=ak8.1 h23
 exact amc (ak1 h1) (amc (ak1 h2) (ak1 h3))
theorem Cf{c d:Cv}(h:cB c d=true):c.1=d.1:=by
 unfold cB at h
 cases e:c.1==d.1
 ·rw[e]at h;cases h
 ·exact al9.1 e
theorem NN{c d:Cv}(h:cB c d=true)(ha:c.1=true):ciC c=ciC d:=by
 have e:=Cf h
 unfold cB at h
 rw[←e,ha]at h
 exact abt h
theorem Qy{c d:Cv}(h:cB c d=true)(ha:c.1=false):oh (lnC c) (lnC d)=true:=by
 have e:=Cf h
 unfold cB at h
 rw[←e,ha]at h
 exact h
theorem BB{c d:Cv}(h:cB c d=true):cB d c=true:=by
 have e:=Cf h
 unfold cB
 rw[←e,beq_self_eq_true,cond_true]
 cases ha:c.1
 ·exact Tt (Qy h ha)
 ·rw[cond_true,NN h ha]
  unfold oZ
  rw[dT rfl,dT rfl,dT rfl]
  rfl
theorem wq{c d:Cv}(hc:Crp c)(h:cB c d=true){p:Pt}[Rpd p](hp:gi c p=true):gi d p=true:=by
 have e:=Cf h
 rw[gC]at*
 rw[←e]
 cases ha:c.1
 ·rw[ha,cond_false]at hp
  exact acA (hc.l ha) (Qy h ha) hp
 ·rw[ha,cond_true]at hp
  rw[cond_true,←NN h ha]
  exact hp
theorem supF_eq{c:Cv}{p q:Pt}[Rpd p][Rpd q](e:pR p=pR q)(h:gi c p=true):gi c q=true:=by
 rw[gC]at*
 rw[←e]
 exact h
end RE
theorem CU{c:Cv}(h:Crp c){p q r:Pt}(hp:Sp c p)(hq:Sp c q)(hr:Sp c r)(e:aV p q=0):cZ c p r=cZ c q r∧cZ c r p=cZ c r q:=by
 obtain⟨K,lt,κ,f,hl,hc,ho,hk⟩:=sZ h
 have ek:=(hk p q hp hq).2 e
 rw[ho p r hp hr,ho q r hq hr,ho r p hr hp,ho r q hr hq,ek]
 exact⟨rfl,rfl⟩
theorem ahy{c:Cv}{p q:Pt}(hp:Sp c p)(hq:Rpd q)(e:aV p q=0):Sp c q:=by
 have:=hp.1
 exact⟨hq,RE.supF_eq (RE.cmpP_0.1 e) hp.2⟩
theorem ad6{p:Pt}(_h:Rpd p):aV p p=0:=RE.cmpP_0.2 rfl
theorem F4{p q:Pt}[Rpd p][Rpd q](e:aV p q=0):aV q p=0:=RE.cmpP_0.2 (RE.cmpP_0.1 e).symm
theorem RR{p q r:Pt}[Rpd p][Rpd q][Rpd r](e:aV p q=0)(e':aV q r=0):aV p r=0:=RE.cmpP_0.2 ((RE.cmpP_0.1 e).trans (RE.cmpP_0.1 e'))
theorem Dq{c:Cv}(h:Crp c){p q:Pt}(hp:Rpd p)(hq:Rpd q)(e:aV p q=0)(ho:onR c p=true):onR c q=true:=by
 obtain⟨h1,h2,h3⟩:=(yF h hp).1 ho
 have sp:Sp c p:=⟨hp,h1⟩
 have sq:=ahy sp hq e
 rw[yF h hq]
 rw[(CU h sp sq h.f e).1]at h2
 rw[(CU h sp sq h.t e).2]at h3
 exact⟨sq.2,h2,h3⟩
theorem pZ{c:Cv}(h:Crp c){p q:Pt}(hp:Rpd p)(hq:Rpd q)(e:aV p q=0):onR c p=onR c q:=by
 cases h1:onR c p
 ·cases h2:onR c q
  ·rfl
  ·rw[Dq h hq hp (F4 e) h2]at h1;cases h1
 ·rw[Dq h hp hq e h1]
theorem EC{c:Cv}{x:BP}(hx:Rpd (dec x)):∀{r:List BP},∃y∈fL c r x,aV (dec y) (dec x)=0
 |[]=>⟨x,by simp[fL],RE.cmpP_0.2 rfl⟩
 |z::r=>by
  simp only[fL]
  cases decide (cZ c (dec z) (dec x)<0)
  ·cases hz:aV (dec z) (dec x)==0
   ·exact⟨x,by simp,RE.cmpP_0.2 rfl⟩
   ·exact⟨z,by simp,al9.1 hz⟩
  ·obtain⟨y,hy,e⟩:=EC (c:=c) hx (r:=r)
   exact⟨y,ala _ hy,e⟩
theorem D3{c:Cv}{x:BP}(hx:Rpd (dec x)):∀{l r:List BP},x∈l→∃y∈l.foldl (fL c) r,aV (dec y) (dec x)=0
 |[],_,h=>by cases h
 |z::l,r,h=>by
  rw[amJ]
  rcases ald.1 h with e|e
  ·obtain⟨y,hy,e2⟩:=EC (c:=c) hx (r:=r)
   exact⟨y,C3 (by rw[←e];exact hy),e2⟩
  ·exact D3 hx e
theorem MY{c:Cv}{x:BP}{l:List BP}(hx:Rpd (dec x))(h:x∈l):∃y∈gP c l,aV (dec y) (dec x)=0:=D3 hx h
theorem C2{c:Cv}{x:BP}{l:List BP}(h:x∈gP c l):x∈l:=by
 rcases vP h with h|h
 ·cases h
 ·exact h
theorem TH{c:Cv}(o:Ord c){l:List BP}(hl:∀x∈l,Spb c x):oL c (gP c l):=NK o hl
section
def ik(c d:BCU):List BP:=bif cB (dC c) (dC d)then [c.2.2.2.2.1,c.2.2.2.2.2,d.2.2.2.2.1,d.2.2.2.2.2]else(gf (dC c) (dC d)).map enc
def gA(c d:BCU)(p:BP):Bool:=il (dC c) (dec p)&&il (dC d) (dec p)
def fY(c d:BCU):List BP:=dh (dC c) ((ik c d).filter (gA c d))
theorem iz{c:BCU}(h:qM c):(c.1=true→BdC (ciC (dC c))∧0<(ciC (dC c)).2.2)∧(c.1=false→BdL (lnC (dC c))∧((lnC (dC c)).1≠0∨(lnC (dC c)).2.1≠0)):=by
 refine⟨fun e=>?_,fun e=>?_⟩
 ·obtain⟨l,e1,bl,nl⟩:=cK (h.1 e)
  show BdC (dec c.2.2.1)∧_
  rw[show ciC (dC c)=dec c.2.2.1 from rfl,e1,az]
  exact⟨bl,nl⟩
 ·obtain⟨l,e1,bl,nl⟩:=eG (h.2 e)
  show BdL (dec c.2.1)∧_
  rw[show lnC (dC c)=dec c.2.1 from rfl,e1,az]
  exact⟨bl,nl⟩
namespace RE
theorem ID{c d:BCU}(hc:qM c)(hd:qM d)(v:PE):(∃p∈gf (dC c) (dC d),pR p=v)↔∃p∈ta (dC c) (dC d),pR p=v:=by
 obtain⟨c1,c2⟩:=iz hc
 obtain⟨d1,d2⟩:=iz hd
 have ec:(dC c).1=c.1:=rfl
 have ed:(dC d).1=d.1:=rfl
 unfold gf ta
 rw[ec,ed]
 cases ha:c.1<;>cases hb:d.1
 ·exact Iff.rfl
 ·exact EW (c2 ha).2 v
 ·exact EW (d2 hb).2 v
 ·show(∃p∈oK _ _,pR p=v)↔∃p∈yH _ _,pR p=v
  unfold oK yH
  cases hq:gQ (ciC (dC c)) (ciC (dC d))
  ·exact EW (rK hq) v
  ·exact Iff.rfl
theorem supM_on{c d:BCU}(hc:qM c)(hd:qM d){p:Pt}(hp:p∈gf (dC c) (dC d)):Bd p 1200∧Rpd p∧gi (dC c) p=true∧gi (dC d) p=true:=by
 obtain⟨c1,c2⟩:=iz hc
 obtain⟨d1,d2⟩:=iz hd
 have ec:(dC c).1=c.1:=rfl
 have ed:(dC d).1=d.1:=rfl
 unfold gf at hp
 rw[ec,ed]at hp
 cases ha:c.1<;>cases hb:d.1<;>rw[ha,hb]at hp
 ·have i1:=(c2 ha).1
  have i2:=(d2 hb).1
  have hp:p∈lc (lnC (dC c)) (lnC (dC d)):=hp
  obtain⟨b,r⟩:=vY.2 p hp
  obtain⟨o1,o2⟩:=ab3 hp
  refine⟨b.mono (by decide),r,?_,?_⟩
  ·rw[gC,ec,ha];exact o1
  ·rw[gC,ed,hb];exact o2
 ·have i1:=(c2 ha).1
  have i2:=(d1 hb).1
  have hp:p∈kA (lnC (dC c)) (ciC (dC d)):=hp
  obtain⟨b,r⟩:=t6.2 p hp
  obtain⟨o1,o2⟩:=HD (c2 ha).2 hp
  refine⟨b,r,?_,?_⟩
  ·rw[gC,ec,ha];exact o1
  ·rw[gC,ed,hb];exact o2
 ·have i1:=(c1 ha).1
  have i2:=(d2 hb).1
  have hp:p∈kA (lnC (dC d)) (ciC (dC c)):=hp
  obtain⟨b,r⟩:=t6.2 p hp
  obtain⟨o1,o2⟩:=HD (d2 hb).2 hp
  refine⟨b,r,?_,?_⟩
  ·rw[gC,ec,ha];exact o2
  ·rw[gC,ed,hb];exact o1
 ·have i1:=(c1 ha).1
  have i2:=(d1 hb).1
  have hp:p∈oK (ciC (dC c)) (ciC (dC d)):=hp
  unfold oK at hp
  cases hq:gQ (ciC (dC c)) (ciC (dC d))<;>rw[hq]at hp
  ·have i3:BdL (mS (ciC (dC c)) (ciC (dC d))):=xn
   obtain⟨b,r⟩:=t6.2 p hp
   obtain⟨o1,o2⟩:=HD (rK hq) hp
   refine⟨b,r,?_,?_⟩
   ·rw[gC,ec,ha];exact o2
   ·rw[gC,ed,hb];exact Pr o1 o2
  ·cases hp
end RE
open RE
theorem gdN.crp{c:BCU}(h:gdN c):Crp (dC c):=uY h.gd
theorem gdN.ne{c:BCU}(h:gdN c):aV (frC (dC c)) (toC (dC c))≠0:=h.2.2.2
theorem gdN.fr{c:BCU}(h:gdN c):okP 500 c.2.2.2.2.1:=h.1.1.2.2.1
theorem gdN.to{c:BCU}(h:gdN c):okP 500 c.2.2.2.2.2:=h.1.1.2.2.2
theorem qu{c d:BCU}(hc:gdN c)(hd:gdN d):(ik c d).length≤4∧∀x∈ik c d,okP 1200 x∧Spb (dC c) x∧Spb (dC d) x:=by
 have kc:=hc.crp
 have kd:=hd.crp
 unfold ik
 cases hs:cB (dC c) (dC d)
 ·refine⟨?_,fun x hx=>?_⟩
  ·simp only[cond_false,amK]
   have:∀l c,[BdL l]→[BdC c]→(kA l c).length≤4:=fun l c _ _=>alc t6.1 (by decide)
   obtain⟨c1,c2⟩:=iz hc.1.2
   obtain⟨d1,d2⟩:=iz hd.1.2
   have ec:(dC c).1=c.1:=rfl
   have ed:(dC d).1=d.1:=rfl
   unfold gf
   rw[ec,ed]
   cases ha:c.1<;>cases hb:d.1
   ·have i1:=(c2 ha).1
    have i2:=(d2 hb).1
    exact alc vY.1 (by decide)
   ·have i1:=(c2 ha).1
    have i2:=(d1 hb).1
    exact this _ _
   ·have i1:=(c1 ha).1
    have i2:=(d2 hb).1
    exact this _ _
   ·have i1:=(c1 ha).1
    have i2:=(d1 hb).1
    show(oK _ _).length≤4
    unfold oK
    cases hq:gQ (ciC (dC c)) (ciC (dC d))
    ·have i3:BdL (mS (ciC (dC c)) (ciC (dC d))):=xn
     exact this _ _
    ·exact anw _
  ·obtain⟨p,hp,rfl⟩:=al3.1 hx
   obtain⟨b,r,o1,o2⟩:=supM_on hc.1.2 hd.1.2 hp
   refine⟨ak1 (aN (by decide) (by decide)),?_,?_⟩
   ·unfold Spb;rw[az];exact⟨r,o1⟩
   ·unfold Spb;rw[az];exact⟨r,o2⟩
 ·have hs':=BB hs
  refine⟨by simp,fun x hx=>?_⟩
  have:x=c.2.2.2.2.1∨x=c.2.2.2.2.2∨x=d.2.2.2.2.1∨x=d.2.2.2.2.2:=by simpa using hx
  have up:∀{x},okP 500 x→okP 1200 x:=fun h=>cJ h (by decide) (by decide)
  rcases this with e|e|e|e<;>rw[e]
  ·have i:Rpd (dec c.2.2.2.2.1:Pt):=kc.f.1
   exact⟨up hc.fr,kc.f,kc.f.1,wq kc hs kc.f.2⟩
  ·have i:Rpd (dec c.2.2.2.2.2:Pt):=kc.t.1
   exact⟨up hc.to,kc.t,kc.t.1,wq kc hs kc.t.2⟩
  ·have i:Rpd (dec d.2.2.2.2.1:Pt):=kd.f.1
   exact⟨up hd.fr,⟨kd.f.1,wq kd hs' kd.f.2⟩,kd.f⟩
  ·have i:Rpd (dec d.2.2.2.2.2:Pt):=kd.t.1
   exact⟨up hd.to,⟨kd.t.1,wq kd hs' kd.t.2⟩,kd.t⟩
theorem pz{c d:BCU}(hc:gdN c)(hd:gdN d){x:BP}(hx:x∈fY c d):x∈ik c d∧okP 1200 x∧Spb (dC c) x∧Spb (dC d) x∧onR (dC c) (dec x)=true∧onR (dC d) (dec x)=true:=by
 obtain⟨hm,hk⟩:=amP.1 (jH hx)
 obtain⟨h0,h1,h2⟩:=(qu hc hd).2 x hm
 obtain⟨k1,k2⟩:=ak8.1 hk
 refine⟨hm,h0,h1,h2,?_,?_⟩
 ·rw[←jU hc.crp h1.1]
  exact ak8.2 ⟨h1.2,k1⟩
 ·rw[←jU hd.crp h2.1]
  exact ak8.2 ⟨h2.2,k2⟩
theorem DM{c d:BCU}{x:BP}(hx:x∈kZ c d):x∈rB c d∧onR (dC c) (dec x)=true∧onR (dC d) (dec x)=true:=by
 obtain⟨hm,hk⟩:=amP.1 (C2 (show x∈gP (dC c) (JB c d) from hx))
 exact⟨hm,ak8.1 hk⟩
theorem AP{c d:BCU}{x:BP}(hc:gdN c)(hd:gdN d)(hr:Rpd (dec x:Pt))(h1:onR (dC c) (dec x)=true)(h2:onR (dC d) (dec x)=true):gA c d x=true:=by
 rw[←jU hc.crp hr]at h1
 rw[←jU hd.crp hr]at h2
 exact ak8.2 ⟨(ak8.1 h1).2,(ak8.1 h2).2⟩
theorem G4{c d:BCU}(hc:gdN c)(hd:gdN d):∀x∈(ik c d).filter (gA c d),Rpd (dec x:Pt)∧onP (dC c) (dec x)=true:=fun x hx=>by
 obtain⟨hm,hk⟩:=amP.1 hx
 obtain⟨h0,h1,h2⟩:=(qu hc hd).2 x hm
 exact⟨h1.1,ak8.2 ⟨h1.2,(ak8.1 hk).1⟩⟩
theorem AF{c d:BCU}(h:f0 c d){x:BP}(hx:x∈rB c d):Rpd (dec x:Pt):=nM ((Bz h).2 x hx)
theorem VA{c d:BCU}(hc:gdN c)(hd:gdN d):eqL (fY c d) (kZ c d):=by
 have kc:=hc.crp
 have kd:=hd.crp
 obtain⟨p1,p2⟩:=Cl kc hc.ne (G4 hc hd)
 have hmp:f0 c d:=⟨hc.1,hd.1⟩
 have rdL:∀x∈kZ c d,Rpd (dec x:Pt):=fun x hx=>AF hmp (DM hx).1
 have spL:∀x∈JB c d,Spb (dC c) x:=fun x hx=>by
  obtain⟨hm,hk⟩:=amP.1 hx
  have r:=AF hmp hm
  exact⟨r,((yF kc r).1 (ak8.1 hk).1).1⟩
 refine MG kc (fun x hx=>(pz hc hd hx).2.2.1) (fun x hx=>spL x (C2 hx)) p1 (TH (uN kc) spL) (fun a ha=>?_) (fun b hb=>?_)
 ·obtain⟨hm,_,s1,s2,o1,o2⟩:=pz hc hd ha
  have ra:=s1.1
  have key:∃z∈rB c d,aV (dec z) (dec a)=0∧Rpd (dec z:Pt):=by
   unfold ik at hm
   cases hs:cB (dC c) (dC d)<;>rw[hs]at hm
   ·obtain⟨p,hp,e⟩:=al3.1 hm
    obtain⟨q,hq,e2⟩:=(ID hc.1.2 hd.1.2 (pR p)).1 ⟨p,hp,rfl⟩
    have hz:enc q∈rB c d:=by
     unfold rB
     rw[hs]
     exact al3.2 ⟨q,hq,rfl⟩
    have rz:=AF hmp hz
    refine⟨enc q,hz,?_,rz⟩
    refine cmpP_0.2 ?_
    rw[az,e2,←e,az]
   ·refine⟨a,?_,cmpP_0.2 rfl,ra⟩
    unfold rB
    rw[hs]
    exact hm
  obtain⟨z,hz,ez,rz⟩:=key
  have hb:z∈JB c d:=by
   refine amP.2 ⟨hz,?_⟩
   rw[pZ kc rz ra ez,pZ kd rz ra ez,o1,o2]
   rfl
  obtain⟨y,hy,ey⟩:=MY (c:=dC c) rz hb
  have ry:=rdL y hy
  exact⟨y,hy,F4 (RR ey ez)⟩
 ·obtain⟨hm,o1,o2⟩:=DM hb
  have rb:=AF hmp hm
  have key:∃z∈ik c d,aV (dec z) (dec b)=0:=by
   unfold rB at hm
   cases hs:cB (dC c) (dC d)<;>rw[hs]at hm
   ·obtain⟨p,hp,e⟩:=al3.1 hm
    obtain⟨q,hq,e2⟩:=(ID hc.1.2 hd.1.2 (pR p)).2 ⟨p,hp,rfl⟩
    have hz:enc q∈ik c d:=by
     unfold ik
     rw[hs]
     exact al3.2 ⟨q,hq,rfl⟩
    have rz:=((qu hc hd).2 _ hz).2.1.1
    refine⟨enc q,hz,cmpP_0.2 ?_⟩
    rw[az,e2,←e,az]
   ·refine⟨b,?_,cmpP_0.2 rfl⟩
    unfold ik
    rw[hs]
    exact hm
  obtain⟨z,hz,ez⟩:=key
  have rz:=((qu hc hd).2 z hz).2.1.1
  have hk:z∈(ik c d).filter (gA c d):=by
   refine amP.2 ⟨hz,AP hc hd rz ?_ ?_⟩
   ·rw[pZ kc rz rb ez,o1]
   ·rw[pZ kd rz rb ez,o2]
  obtain⟨y,hy,ey⟩:=p2 z hk
  have ry:=(pz hc hd hy).2.2.1.1
  exact⟨y,hy,RR ey ez⟩
end
section
open RE
def yL(c:BCU):BP→List BP→List BCU
 |f,[]=>[AY c f c.2.2.2.2.2]
 |f,p::r=>bif im p c.2.2.2.2.1||im p c.2.2.2.2.2 then yL c f r else AY c f p::yL c p r
def abs(c:BCU)(l:List BP):List BCU:=yL c c.2.2.2.2.1 (dh (dC c) l)
def ado(c:BCU)(l:List BP):Bool:=l.any fun p=>!onP (dC c) (dec p)
def rY(c:BCU)(l:List BP):List BCU:=bif ado c l then []else abs c l
def ajQ(c:BCU)(l:List BP):Int:=bif ado c l then 1 else 0
section
variable {c:BCU} (h:gdN c) {l:List BP} (ho:∀x∈l,Rpd (dec x:Pt)∧onR (dC c) (dec x)=true)
include h ho
omit h ho in
end
end
section
open RE
def frB(c:BCU):BP:=c.2.2.2.2.1
def toB(c:BCU):BP:=c.2.2.2.2.2
def Cx(d p:BCU):Bool:=(onP (dC d) (dec (frB p))&&onP (dC d) (dec (toB p)))&&(bif d.1 then !im (frB (dV p)) (toB (dV d))&&decide (gO a9 (ptd (dec (dV d).2.2.1) (dec (frB (dV p)))) (ptd (dec (dV d).2.2.1) (dec (toB (dV p)))) (ptd (dec (dV d).2.2.1) (dec (toB (dV d))))≤0)else true)
def ym(c d:BCU)(l:List BP):Bool:=(rY c l).any (Cx d)
def qN(c d:BCU):Bool:=cB (dC c) (dC d)&&ym c d (fY c d)
end
def pF(d p q r:Rat):Int:=sgQ (d-p-q-r*r,-2*r,-2*r,-2,p,q)
def ul(x y z r:Rat):Int:=sgQ (x+y-z-r*r,2,-(2*r),0,x*y,z)
def VT(a b c d:Rat):Int:=sgQ (a+b-(c+d),2,-2,0,a*b,c*d)
def TQ(a b c r:Rat):Int:=bif decide (pF c a b 0>0)then pF c a b r else VT a b c (r*r)
def mx2(a b:Int):Int:=if b>a then b else a
theorem FH(a b:Int):mn2 a b=min a b:=by unfold mn2;omega
theorem aaY(a b:Int):mx2 a b=max a b:=by unfold mx2;omega
theorem TP(a b c d:Int):JL a b c d=min (min (min a b) c) d:=by unfold JL;simp only[FH]
def Da(b:Bool)(x:Int):Int:=bif b then x else 1
def ftv(s a:Cv):Rat×Rat:=d8 (lnC s) (ctr (ciC a))
def wyv(c d:Cv):Rat×Rat:=cQ (ctr (ciC c)) (ctr (ciC d))
def DH(s a:Cv)(r:Rat):Int:=Da (onP s (atP (ftv s a))) (uo a (ftv s a) r)
def nT(c d:Cv):Bool:=fb c (wyv c d)
def fT(c d:Cv):Bool:=fb c (bkV (wyv c d))
def nD(c d:Cv):Rat:=a8 (wyv c d) (wyv c d)
def J6(c d:Cv)(r:Rat):Int:=bif decide (nD c d=0)then 1 else
 min (min (Da (nT c d&&fb d (bkV (wyv c d))) (max (pF (nD c d) (ciC c).2.2 (ciC d).2.2 r) (ul (ciC c).2.2 (ciC d).2.2 (nD c d) r)))
  (Da (nT c d&&fb d (wyv c d)) (max (ul (nD c d) (ciC d).2.2 (ciC c).2.2 r) (pF (ciC c).2.2 (nD c d) (ciC d).2.2 r))))
  (Da (fT c d&&fb d (bkV (wyv c d))) (max (ul (nD c d) (ciC c).2.2 (ciC d).2.2 r) (pF (ciC d).2.2 (nD c d) (ciC c).2.2 r)))
theorem KU(q:Qd):sgQ q≤1:=(Jb _ _ _ _ _ _).2
def C9(c d:Cv)(r:Rat):Int:=min (min (min (RE.poiE d (RE.pR (frC c)) r) (RE.poiE d (RE.pR (toC c)) r)) (RE.poiE c (RE.pR (frC d)) r)) (RE.poiE c (RE.pR (toC d)) r)
def uE(c d:Cv)(r:Rat):Int:=bif c.1 then(bif d.1 then min (C9 c d r) (J6 c d r)else min (C9 c d r) (DH d c r))else bif d.1 then min (C9 c d r) (DH c d r)else C9 c d r
def S9(m:Bool)(o:Int)(r:Rat):Int:=bif decide (r<0)then 1 else bif m then-aD r 0 else o
def n3P(x y z:BR):Prop:=ok Rat 2000 x∧ok Rat 2000 y∧ok Rat 2000 z∧0≤ah x∧0≤ah y∧0≤ah z
instance (x y z:BR):Decidable (n3P x y z):=by unfold n3P;infer_instance
def n4P(x y z r:BR):Prop:=n3P x y z∧ok Rat 2000 r∧0≤ah r
instance (x y z r:BR):Decidable (n4P x y z r):=by unfold n4P;infer_instance
theorem agv{x y z:BR}(h:n3P x y z):∃a b c:Rat,x=enc a∧y=enc b∧z=enc c∧Bd a 2000∧Bd b 2000∧Bd c 2000∧0≤a∧0≤b∧0≤c:=by
 obtain⟨h1,h2,h3,h4,h5,h6⟩:=h
 obtain⟨a,rfl,ba⟩:=aG h1
 obtain⟨b,rfl,bb⟩:=aG h2
 obtain⟨c,rfl,bc⟩:=aG h3
 rw[eT,cA]at h4 h5 h6
 exact⟨a,b,c,rfl,rfl,rfl,ba,bb,bc,h4,h5,h6⟩
theorem Zc{x y z r:BR}(h:n4P x y z r):∃a b c e:Rat,(x=enc a∧y=enc b∧z=enc c∧r=enc e)∧Bd a 2000∧Bd b 2000∧Bd c 2000∧Bd e 2000∧0≤a∧0≤b∧0≤c∧0≤e:=by
 obtain⟨h,h1,h2⟩:=h
 obtain⟨a,b,c,e1,e2,e3,ba,bb,bc,na,nb,nc⟩:=agv h
 obtain⟨e,rfl,be⟩:=aG h1
 rw[eT,cA]at h2
 exact⟨a,b,c,e,⟨e1,e2,e3,rfl⟩,ba,bb,bc,be,na,nb,nc,h2⟩
theorem afh{a b c:Rat}{i j k:Nat}[ba:Bd a i][bb:Bd b j][bc:Bd c k](hi:i≤2000)(hj:j≤2000)(hk:k≤2000)(na:0≤a)(nb:0≤b)(nc:0≤c):n3P (am a) (am b) (am c):=
 ⟨ak1 (okd hi (by decide)),ak1 (okd hj (by decide)),ak1 (okd hk (by decide)),by rwa [cA],by rwa [cA],by rwa [cA]⟩
theorem agt{a b c e:Rat}{i j k l:Nat}[ba:Bd a i][bb:Bd b j][bc:Bd c k][be:Bd e l](hi:i≤2000)(hj:j≤2000)(hk:k≤2000)(hl:l≤2000)(na:0≤a)(nb:0≤b)(nc:0≤c)(ne:0≤e):n4P (am a) (am b) (am c) (am e):=
 ⟨afh hi hj hk na nb nc,ak1 (okd hl (by decide)),by rwa [cA]⟩
theorem Pb{a b c e:Rat}{i j k l:Nat}[ba:Bd a i][bb:Bd b j][bc:Bd c k][be:Bd e l](hi:i≤2000)(hj:j≤2000)(hk:k≤2000)(hl:l≤2000)(na:0≤a)(nb:0≤b)(nc:0≤c)(ne:0≤e):decide (n4P (am a) (am b) (am c) (am e))=true:=akY (agt hi hj hk hl na nb nc ne)
def GR(s a:BCU):Prop:=mG s∧mG a∧s.1=false∧a.1=true
instance (s a:BCU):Decidable (GR s a):=by unfold GR;infer_instance
def LY(c d:BCU):Prop:=mG c∧mG d∧c.1=true∧d.1=true
instance (c d:BCU):Decidable (LY c d):=by unfold LY;infer_instance
def nW(c d:BCU)(r:Rat):Int:=S9 (decide (((fY c d).length:Int)>0)||qN c d) (uE (dC c) (dC d) r) r
namespace RE
theorem rA{a b:RE}(ha:0≤a)(hb:0≤b):sg (a*a-b*b)=sg (a-b):=by
 have e:a*a-b*b=(a+b)*(a-b):=by grind
 rcases fh (show 0≤a+b by grind)with h|h
 ·rw[e,mW h]
 ·rw[show a=0 by grind,show b=0 by grind,zero_mul]
theorem ady(x:RE){r:RE}(hr:0≤r):max (sg (x-r)) (sg (-x-r))=sg (x*x-r*r):=by
 rcases lt_or_ge x 0 with h|h
 ·have:=rA (show 0≤ -x by grind) hr
  rw[show x*x= -x* -x by grind,this,Int.max_eq_right (wC (by grind))]
 ·rw[rA h hr,Int.max_eq_left (wC (by grind))]
theorem VC{x:RE}(h:x≤0){r:RE}(hr:0≤r):sg (-x-r)=sg (x*x-r*r):=by
 rw[←rA (show 0≤ -x by grind) hr,show-x* -x=x*x by grind]
theorem Fb{d p q r:Rat}(hd:0≤d)(hp:0≤p)(hq:0≤q)(hr:0≤r):pF d p q r=sg (rq d-rq p-rq q-of r):=by
 have a:=dB hd
 have b:=dB hp
 have c:=dB hq
 have t:=gh p
 have u:=gh q
 have w:=gN.2 hr
 unfold pF
 rw[xE hp hq,show rq d-rq p-rq q-of r=rq d-(rq p+rq q+of r) by grind,←rA (gh d) (show 0≤rq p+rq q+of r by
  have:of 0=0:=rfl
  grind)]
 refine congrArg sg ?_
 unfold vq vQ
 have two:of (-2)= -2:=rfl
 simp only[of_sub,aE,two]
 grind
theorem aci{x y z r:Rat}(hx:0≤x)(hy:0≤y)(hz:0≤z)(hr:0≤r):ul x y z r=sg (rq x+rq y-rq z-of r):=by
 have a:=dB hx
 have b:=dB hy
 have c:=dB hz
 have t:=gh x
 have u:=gh y
 have v:=gh z
 have w:0≤of r:=gN.2 hr
 unfold ul
 rw[xE (alj hx hy) hz,show rq x+rq y-rq z-of r=rq x+rq y-(rq z+of r) by grind,←rA (show 0≤rq x+rq y by grind) (show 0≤rq z+of r by grind)]
 refine congrArg sg ?_
 unfold vq vQ
 have two:of 2=2:=rfl
 have zo:of 0=0:=rfl
 simp only[of_sub,of_add,aE,of_neg,two,zo,yy hx hy]
 grind
theorem acb{a b c d:Rat}(ha:0≤a)(hb:0≤b)(hc:0≤c)(hd:0≤d):VT a b c d=sg (rq a+rq b-rq c-rq d):=by
 have e1:=dB ha
 have e2:=dB hb
 have e3:=dB hc
 have e4:=dB hd
 have t:=gh a
 have u:=gh b
 have v:=gh c
 have w:=gh d
 unfold VT
 rw[xE (alj ha hb) (alj hc hd),show rq a+rq b-rq c-rq d=rq a+rq b-(rq c+rq d) by grind,←rA (show 0≤rq a+rq b by grind) (show 0≤rq c+rq d by grind)]
 refine congrArg sg ?_
 unfold vq vQ
 have two:of 2=2:=rfl
 have mtwo:of (-2)= -2:=rfl
 have zo:of 0=0:=rfl
 simp only[of_sub,of_add,two,mtwo,zo,yy ha hb,yy hc hd]
 grind
theorem TN{r:Rat}(hr:0≤r):rq (r*r)=of r:=Dt _ _ (gh _) (gN.2 hr) (by rw[dB (alj hr hr),aE])
theorem Mk{a b c r:Rat}(ha:0≤a)(hb:0≤b)(hc:0≤c)(hr:0≤r):TQ a b c r=sg ((rq a+rq b-rq c)*(rq a+rq b-rq c)-of r*of r):=by
 have w:0≤of r:=gN.2 hr
 have zo:of 0=0:=rfl
 unfold TQ
 rw[Fb hc ha hb (by decide),zo]
 rcases bh (rq c-rq a-rq b-0)with⟨h,e⟩|⟨h,e⟩|⟨h,e⟩<;>rw[e]
 ·show pF c a b r=_
  rw[Fb hc ha hb hr,←VC (show rq a+rq b-rq c≤0 by grind) w]
  exact congrArg sg (by grind)
 all_goals
  show VT a b c (r*r)=_
  rw[acb ha hb hc (alj hr hr),TN hr,rA (show 0≤rq a+rq b-rq c by grind) w]
theorem GU{a b c r:Rat}(ha:0≤a)(hb:0≤b)(hc:0≤c)(hr:0≤r):max (pF c a b r) (ul a b c r)=TQ a b c r:=by
 rw[Fb hc ha hb hr,aci ha hb hc hr,Mk ha hb hc hr,←ady _ (gN.2 hr),Int.max_comm]
 exact congrArg (max _) (congrArg sg (by grind))
end RE
section
open RE
theorem Nq{s a:BCU}(hs:qM s)(ha:qM a)(e:s.1=false)(e':a.1=true):Bd (ftv (dC s) (dC a)) 200:=by
 obtain⟨bl,_⟩:=(iz hs).2 e
 obtain⟨bc,_⟩:=(iz ha).1 e'
 have x1:Bd (mA (lnC (dC s)) (ctr (ciC (dC a)))) _:=(inferInstance:Bd (((lnC (dC s)).1*(ciC (dC a)).1+(lnC (dC s)).2.1*(ciC (dC a)).2.1-(lnC (dC s)).2.2)/((lnC (dC s)).1*(lnC (dC s)).1+(lnC (dC s)).2.1*(lnC (dC s)).2.1)) _)
 exact(inferInstance:Bd (((ciC (dC a)).1-mA (lnC (dC s)) (ctr (ciC (dC a)))*(lnC (dC s)).1,(ciC (dC a)).2.1-mA (lnC (dC s)) (ctr (ciC (dC a)))*(lnC (dC s)).2.1):Rat×Rat) _).mono (by decide)
theorem adG{c:BCU}(h:gdN c){v:Rat×Rat}(hv:Bd v 200){r:Rat}(hr:0≤r):uo (dC c) v r=sg (vR (nU (dC c) v)-of (r*r)):=by
 unfold uo
 rw[dF (show ¬r<0 by grind),cond_false,cmpTR_re (Ck (bv:=hv) h.1.1).2.nn]
theorem Hj{c d:BCU}(hc:gdN c)(hd:gdN d)(h:fY c d=[]):qN c d=false:=by
 cases hN:qN c d
 ·rfl
 ·exfalso
  unfold qN at hN
  obtain⟨hs,ho⟩:=ak8.1 hN
  rw[h]at ho
  have ho:([AY c c.2.2.2.2.1 c.2.2.2.2.2].any (Cx d))=true:=ho
  have h1:onP (dC d) (dec c.2.2.2.2.1)=true:=by
   simp only[an4,List.any_nil,Bool.or_false]at ho
   unfold Cx at ho
   exact(ak8.1 (ak8.1 ho).1).1
  have r:Rpd (dec c.2.2.2.2.1:Pt):=hc.crp.f.1
  have hx:c.2.2.2.2.1∈ik c d:=by unfold ik;rw[hs];simp
  have k:=AP hc hd r (He hc).1 (by rw[←jU hd.crp r];exact h1)
  obtain⟨y,hy,_⟩:=(Cl hc.crp hc.ne (G4 hc hd)).2 _ (amP.2 ⟨hx,k⟩)
  have hy:y∈fY c d:=hy
  rw[h]at hy
  cases hy
theorem acD{c d:BCU}(hc:gdN c)(hd:gdN d):(decide (((fY c d).length:Int)>0)||qN c d)=(Ew c d||decide (((kZ c d).length:Int)>0)):=by
 have e:=(VA hc hd).1
 by_cases h:fY c d=[]
 ·have hl:kZ c d=[]:=List.length_eq_zero_iff.1 (by rw[←e,h];rfl)
  have hb:Ew c d=false:=by unfold Ew;rw[hl];exact Bool.and_false _
  rw[Hj hc hd h,hb,h,hl]
  rfl
 ·have:0<(fY c d).length:=alB.2 h
  rw[dT (show((fY c d).length:Int)>0 by omega),dT (show((kZ c d).length:Int)>0 by omega),Bool.true_or,Bool.or_true]
end
section
open RE
theorem TX{c d:BCU}(hc:gdN c)(hd:gdN d){x:BP}(hx:x∈fY c d):Spb (dC c) x∧Spb (dC d) x:=by
 obtain⟨_,_,s1,s2,_⟩:=pz hc hd hx
 exact⟨s1,s2⟩
end
end Go.Proofs.YtnkndpoojnflmaaGreat
end
