/- Common points do not depend on the order and the directions of curves: plain. -/
import Derived.Test.YtnkndpoojnflmaaGreatG16
import Derived.Test.YtnkndpoojnflmaaGreatG15
import Derived.Test.YtnkndpoojnflmaaGreatG14
noncomputable section
namespace Go.Proofs.YtnkndpoojnflmaaGreat
open Go.RowKit Go.IntKind
section
namespace RE
theorem ajO(A B x y m:RE):B*(m*(B*x-A*y))=m*(B*B*x+A*(A*x)-A*(A*x+B*y)):=by grind
theorem aju(A B x y m:RE): -A*(m*(B*x-A*y))=m*(A*A*y+B*(B*y)-B*(A*x+B*y)):=by grind
theorem ai9(A B x y a b:RE):A*(x-a)+B*(y-b)=(A*x+B*y)-(A*a+B*b):=by grind
theorem ajD(A x m B:RE):m*(B*B*x+A*(A*x)-A*0)=m*(A*A+B*B)*x:=by grind
theorem ajR(A y m B:RE):m*(A*A*y+B*(B*y)-B*0)=m*(A*A+B*B)*y:=by grind
theorem aj8(f g u v s p q:RE):(f+u*s-p)*(f+u*s-p)+(g+v*s-q)*(g+v*s-q)=((f-p)*(f-p)+(g-q)*(g-q))+((f-p)*u+(g-q)*v)*s+((f-p)*u+(g-q)*v)*s+(u*u+v*v)*(s*s):=by grind
theorem ajw(a b:RE):(a-b)*(a+b)=a*a-b*b:=by grind
theorem afR(x f:RE):f+(x-f)=x:=by grind
theorem aiT(s u f:RE):f+u* -s=f+ -u*s:=by grind
theorem akp(x y p q a b m n:RE):((1+1)*(p-a))*x+((1+1)*(q-b))*y=(((x-a)*(x-a)+(y-b)*(y-b))-m)-(((x-p)*(x-p)+(y-q)*(y-q))-n)+((p*p+q*q-n)-(a*a+b*b-m)):=by grind
theorem aiP(m n a b:RE):(m-m)-(n-n)+(b-a)=b-a:=by grind
theorem ai4(d k:RE):d+k-d=k:=by grind
theorem Oc(a b:RE):a- -b=a+b:=by grind
theorem jD{x y:RE}(h:x*y=0):x=0∨y=0:=by
 rcases lt_lin.tri x 0 with a|a|a
 ·rcases lt_lin.tri y 0 with b|b|b
  ·have e:=dk x y
   rw[h,dg,gu a,gu b]at e
   exact absurd e (by decide)
  ·exact .inr b
  ·have e:=dk x y
   rw[h,dg,gu a,cY b]at e
   exact absurd e (by decide)
 ·exact .inl a
 ·rcases lt_lin.tri y 0 with b|b|b
  ·have e:=dk x y
   rw[h,dg,cY a,gu b]at e
   exact absurd e (by decide)
  ·exact .inr b
  ·have e:=dk x y
   rw[h,dg,cY a,cY b]at e
   exact absurd e (by decide)
section
variable {l c:Ln}
theorem AO(hl:l.1≠0∨l.2.1≠0){v:PE}(h1:gK l v)(h2:fA c v):∃p∈kA l c,pR p=v:=by
 have hn:=nw hl
 have t0:vlL l c.1 c.2.1/cj l*cj l=vlL l c.1 c.2.1:=alk hn
 have e1:l.1*ftX l c+l.2.1*ftY l c=l.2.2:=by
  unfold ftX ftY
  generalize vlL l c.1 c.2.1/cj l=s at*
  unfold cj vlL at t0
  grind
 have e3:(ftX l c-c.1)*l.2.1+(ftY l c-c.2.1)* -l.1=0:=by
  unfold ftX ftY
  grind
 have k0:em l c*cj l=c.2.2-xY l c:=alk hn
 have hz:of l.1*(v.1-of (ftX l c))+of l.2.1*(v.2-of (ftY l c))=0:=by
  unfold gK at h1
  rw[ai9,h1,←aE,←aE,←of_add,e1,sub_self]
 have hm:of (cj l)⁻¹*(of l.1*of l.1+of l.2.1*of l.2.1)=1:=by
  rw[←aE,←aE,←of_add,←aE,←Ay]
  exact congrArg of (Rat.inv_mul_cancel _ hn)
 obtain⟨t,ht⟩:∃t,t=of (cj l)⁻¹*(of l.2.1*(v.1-of (ftX l c))-of l.1*(v.2-of (ftY l c))):=⟨_,rfl⟩
 have w1:of l.2.1*t=v.1-of (ftX l c):=by rw[ht,ajO,hz,ajD,hm,one_mul]
 have w2: -of l.1*t=v.2-of (ftY l c):=by rw[ht,aju,hz,ajR,hm,one_mul]
 have v1:v.1=of (ftX l c)+of l.2.1*t:=by rw[w1,afR]
 have v2':v.2=of (ftY l c)+of (-l.1)*t:=by rw[of_neg,w2,afR]
 have hq:of (cj l)*(t*t)=of (em l c*cj l):=by
  have h2':=h2
  unfold fA frm at h2'
  dsimp only at h2'
  rw[v1,v2',aj8,←of_sub,←of_sub,←aE,←aE,←aE,←aE,←aE,←aE,←of_add,←of_add,←of_add,e3,nj,zero_mul,add_zero,add_zero,show l.2.1*l.2.1+ -l.1* -l.1=cj l by unfold cj;grind]at h2'
  have e4:(ftX l c-c.1)*(ftX l c-c.1)+(ftY l c-c.2.1)*(ftY l c-c.2.1)=xY l c:=rfl
  rw[e4]at h2'
  rw[k0,of_sub,←h2']
  rw[ai4]
 have tt:t*t=of (em l c):=uU hn (by rw[hq,←aE,amO])
 have kn:0≤em l c:=by
  rcases(by grind:0≤em l c∨em l c<0)with h|h
  ·exact h
  ·have:=io h
   rw[←tt]at this
   exact absurd this (fQ t)
 have dd:(qD l=l.2.1∧qG l= -l.1)∨(qD l= -l.2.1∧qG l=l.1):=by
  unfold qD qG
  cases FI l
  ·exact .inl ⟨rfl,rfl⟩
  ·exact .inr ⟨rfl,an7 _⟩
 have hv:t=rq (em l c)∨t= -rq (em l c):=by
  have hs:=dB kn
  have:(t-rq (em l c))*(t+rq (em l c))=0:=by rw[ajw,tt,hs,sub_self]
  rcases jD this with h|h
  ·exact .inl (ga _ _ h)
  ·refine .inr (ga _ _ ?_)
   rw[←h,Oc]
 unfold kA
 rw[dF (show ¬em l c<0 by grind)]
 by_cases hk0:em l c=0
 ·rw[dT hk0]
  refine⟨atP (ftL l c),by simp,?_⟩
  have t00:t=0:=by
   rw[hk0,nj]at tt
   rcases jD tt with h|h<;>exact h
  rw[mC]
  refine amc ?_ ?_
  ·rw[v1,t00,mul_zero,add_zero];rfl
  ·rw[v2',t00,mul_zero,add_zero];rfl
 ·rw[dF hk0]
  have neg2:∀f u:Rat,v2 f (-u) (em l c)=of f+of u* -rq (em l c):=fun f u=>by
   unfold v2
   rw[of_neg,aiT]
  rcases dd with⟨g1,g2⟩|⟨g1,g2⟩<;>rcases hv with ht'|ht'
  ·refine⟨lcN l c,by simp,?_⟩
   unfold lcN
   rw[pu,g1,g2]
   exact amc (by rw[v1,ht'];rfl) (by rw[v2',ht'];rfl)
  ·refine⟨lcM l c,by simp,?_⟩
   unfold lcM
   rw[pu,g1,g2,neg2,neg2]
   exact amc (by rw[v1,ht']) (by rw[v2',ht'])
  ·refine⟨lcM l c,by simp,?_⟩
   unfold lcM
   rw[pu,g1,g2,an7]
   exact amc (by rw[v1,ht'];rfl) (by rw[v2',ht'];rfl)
  ·refine⟨lcN l c,by simp,?_⟩
   unfold lcN
   rw[pu,g1,g2]
   refine amc ?_ ?_
   ·show v2 _ (-l.2.1) _=_
    rw[neg2,v1,ht']
   ·show v2 _ l.1 _=_
    rw[v2',ht',show l.1= -(-l.1) from(an7 _).symm,neg2,an7]
end
theorem RB{c d:Ln}{v:PE}(hc:fA c v)(hd:fA d v):gK (mS c d) v:=by
 have o2:of 2=1+1:=by
  rw[←Ay,←of_add]
  exact congrArg of (by decide+kernel)
 unfold fA frm at hc hd
 unfold gK mS qI
 dsimp only at*
 simp only[of_sub,aE,of_add,o2]
 rw[akp v.1 v.2 (of d.1) (of d.2.1) (of c.1) (of c.2.1) (of c.2.2) (of d.2.2),hc,hd,aiP]
end RE
end
section
open RE
theorem Jh(c d:Ln):gQ d c=gQ c d:=by
 unfold gQ
 have e1:decide (d.1=c.1)=decide (c.1=d.1):=amb.2 eq_comm
 have e2:decide (d.2.1=c.2.1)=decide (c.2.1=d.2.1):=amb.2 eq_comm
 rw[e1,e2]
theorem T0{l m:Ln}{p:Pt}(hp:p∈lc l m):p∈lc m l:=by
 unfold lc at*
 have ec:dt m l= -dt l m:=by unfold dt;grind
 by_cases h0:dt l m=0
 ·rw[dT h0]at hp
  cases hp
 ·have h1:¬dt m l=0:=by rw[ec];grind
  rw[dF h0]at hp
  rw[dF h1]
  have:p=atP (ld l m/dt l m,k9 l m/dt l m):=by simpa using hp
  rw[this]
  have dv:∀a b:Rat,b≠0→ -a/ -b=a/b:=fun a b hb=>by
   have h1: -a/ -b* -b= -a:=alk (by grind)
   have h2:a/b*b=a:=alk hb
   generalize-a/ -b=x at*
   generalize a/b=y at*
   have:(x-y)*b=0:=by grind
   rcases anf.1 this with h|h
   ·grind
   ·exact absurd h hb
  have ex:ld m l= -ld l m:=by unfold ld;grind
  have ey:k9 m l= -k9 l m:=by unfold k9;grind
  rw[ec,ex,ey,dv _ _ h0,dv _ _ h0]
  simp
theorem Mo{c d:BCU}(hc:qM c)(hd:qM d){p:Pt}(hp:p∈gf (dC c) (dC d)):∃q∈gf (dC d) (dC c),pR q=pR p:=by
 obtain⟨c1,c2⟩:=iz hc
 obtain⟨d1,d2⟩:=iz hd
 have ec:(dC c).1=c.1:=rfl
 have ed:(dC d).1=d.1:=rfl
 unfold gf at*
 rw[ec,ed]at hp ⊢
 cases ha:c.1<;>cases hb:d.1<;>rw[ha,hb]at hp
 ·have hp:p∈lc (lnC (dC c)) (lnC (dC d)):=hp
  exact⟨p,T0 hp,rfl⟩
 ·exact⟨p,hp,rfl⟩
 ·exact⟨p,hp,rfl⟩
 ·have i1:=(c1 ha).1
  have i2:=(d1 hb).1
  have hp:p∈oK (ciC (dC c)) (ciC (dC d)):=hp
  show ∃q∈oK (ciC (dC d)) (ciC (dC c)),_
  unfold oK at*
  rw[Jh]
  cases hq:gQ (ciC (dC c)) (ciC (dC d))<;>rw[hq]at hp
  ·obtain⟨o1,o2⟩:=HD (rK hq) hp
   have o3:=Pr o1 o2
   exact AO (rK (by rw[Jh];exact hq)) (RB o3 o2) o3
  ·cases hp
theorem yi{c d:BCU}(hc:gdN c)(hd:gdN d){x:BP}(hx:x∈ik c d)(o1:onR (dC c) (dec x)=true)(o2:onR (dC d) (dec x)=true):∃y∈fY c d,aV (dec y) (dec x)=0:=by
 obtain⟨_,p2⟩:=Cl hc.crp hc.ne (G4 hc hd)
 have r:=((qu hc hd).2 x hx).2.1.1
 exact p2 x (amP.2 ⟨hx,AP hc hd r o1 o2⟩)
theorem NC{c d:BCU}(hc:gdN c)(hd:gdN d){a:BP}(ha:a∈fY c d):∃b∈fY d c,aV (dec a) (dec b)=0:=by
 obtain⟨hm,_,s1,s2,o1,o2⟩:=pz hc hd ha
 have ra:=s1.1
 have key:∃z∈ik d c,aV (dec z) (dec a)=0:=by
  unfold ik at hm
  unfold ik
  cases hs:cB (dC c) (dC d)
  ·have hs':cB (dC d) (dC c)=false:=by
    cases h:cB (dC d) (dC c)with
    |false=>rfl
    |true=>rw[BB h]at hs;cases hs
   rw[hs]at hm
   rw[hs']
   obtain⟨p,hp,e⟩:=al3.1 hm
   obtain⟨q,hq,e2⟩:=Mo hc.1.2 hd.1.2 hp
   obtain⟨_,rq,_⟩:=supM_on hd.1.2 hc.1.2 hq
   refine⟨enc q,al3.2 ⟨q,hq,rfl⟩,?_⟩
   have:Rpd (dec (enc q):Pt):=by rw[az];exact rq
   refine cmpP_0.2 ?_
   rw[az,e2,←e,az]
  ·rw[hs]at hm
   rw[BB hs]
   refine⟨a,?_,ad6 ra⟩
   have:a=c.2.2.2.2.1∨a=c.2.2.2.2.2∨a=d.2.2.2.2.1∨a=d.2.2.2.2.2:=by simpa using hm
   rcases this with e|e|e|e<;>simp[e]
 obtain⟨z,hz,ez⟩:=key
 have rz:=((qu hd hc).2 z hz).2.1.1
 obtain⟨y,hy,ey⟩:=yi hd hc hz (by rw[pZ hd.crp rz ra ez];exact o2) (by rw[pZ hc.crp rz ra ez];exact o1)
 have ry:=(TX hd hc hy).1.1
 exact⟨y,hy,F4 (RR ey ez)⟩
end
namespace RE
theorem Mn.zero{S:PE→Prop}{v:PE}{m:RE}(h:Mn S v m):m=0↔S v:=by
 obtain⟨⟨p,hp,e⟩,hl⟩:=h
 constructor
 ·intro h0
  rw[h0]at e
  obtain⟨a,b⟩:=sN e
  have:p=v:=amc (ga _ _ a) (ga _ _ b)
  rw[←this];exact hp
 ·intro hv
  have h1:=hl v hv
  have h2:dsE v v=0:=by
   unfold dsE
   rw[sub_self,sub_self,mul_zero,add_zero]
  rw[h2]at h1
  refine le_antisymm h1 ?_
  rw[←e]
  exact Hd _ _ (fQ _) (fQ _)
theorem zC{x y:Rt}(hx:Rdd x)(hy:Rdd y)(h:vR x=vR y):(a9 x y==0)=true:=by
 rw[cmpT_re hx.nn hy.nn,h,sub_self,dg]
 rfl
end RE
section
open RE
theorem aa8{l:List BP}{P:Prop}(h:∀a∈l,P)(n:¬P):l=[]:=by
 cases l with
 |nil=>rfl
 |cons a r=>exact absurd (h a List.mem_cons_self) n
theorem KZ{c d:BCU}(hc:gdN c)(hd:gdN d)(e:fY c d=[]):fY d c=[]:=
 aa8 (fun _ ha=>(NC hd hc ha).imp fun _ h=>h.1) fun⟨b,hb⟩=>by rw[e]at hb;cases hb
theorem gdN.cn{c:BCU}(h:gdN c)(e:c.1=true):0≤(ciC (dC c)).2.2:=by
 have:=h.crp.q e
 grind
end
section
open RE
theorem M9{l m:Ln}(hs:oh l m=false){v:PE}(o1:gK l v)(o2:gK m v):∃q∈lc l m,pR q=v:=by
 unfold lc
 unfold gK at o1 o2
 by_cases h0:dt l m=0
 ·exfalso
  have e1:l.1*m.2.1=l.2.1*m.1:=by unfold dt at h0;grind
  have k:of l.1*of m.2.1=of l.2.1*of m.1:=by rw[←aE,e1,aE]
  have k1:=congrArg (·*v.1) k
  have k2:=congrArg (·*v.2) k
  have e2:l.1*m.2.2=l.2.2*m.1:=nQ (by rw[aE,aE,←o1,←o2];grind)
  have e3:l.2.1*m.2.2=l.2.2*m.2.1:=nQ (by rw[aE,aE,←o1,←o2];grind)
  unfold oh at hs
  rw[dT e1,dT e2,dT e3]at hs
  cases hs
 ·rw[dF h0]
  refine⟨_,ant.2 rfl,?_⟩
  have nz:of (dt l m)≠0:=fun e=>h0 (nQ e)
  have f:∀{a:Rat} {y:RE},of (dt l m)*y=of a→of (a/dt l m)=y:=fun{a y} h=>by
   have q:of (a/dt l m)*of (dt l m)=of a:=by rw[←aE,alk h0]
   rcases jD (show of (dt l m)*(of (a/dt l m)-y)=0 by grind)with g|g
   ·exact absurd g nz
   ·grind
  rw[mC]
  refine amc (f ?_) (f ?_)
  ·unfold dt ld
   rw[of_sub,aE,aE,of_sub,aE,aE,←o1,←o2]
   grind
  ·unfold dt k9
   rw[of_sub,aE,aE,of_sub,aE,aE,←o1,←o2]
   grind
theorem Ib{c:BCU}{v:PE}(o:onE (dC c) v):(c.1=false→gK (lnC (dC c)) v)∧(c.1=true→fA (ciC (dC c)) v):=by
 have e:(dC c).1=c.1:=rfl
 constructor<;>intro ha
 ·rw[M2 (e.trans ha)]at o
  exact o.1
 ·rw[LJ (e.trans ha)]at o
  exact o.1
theorem UZ{c d:BCU}(hc:qM c)(hd:qM d)(hs:cB (dC c) (dC d)=false){v:PE}(o1:onE (dC c) v)(o2:onE (dC d) v):∃q∈gf (dC c) (dC d),pR q=v:=by
 obtain⟨_,c2⟩:=iz hc
 obtain⟨_,d2⟩:=iz hd
 obtain⟨a1,a2⟩:=Ib o1
 obtain⟨b1,b2⟩:=Ib o2
 have ec:(dC c).1=c.1:=rfl
 have ed:(dC d).1=d.1:=rfl
 unfold cB at hs
 unfold gf
 rw[ec,ed]at hs ⊢
 cases ha:c.1<;>cases hb:d.1<;>rw[ha,hb]at hs
 ·exact M9 hs (a1 ha) (b1 hb)
 ·exact AO (c2 ha).2 (a1 ha) (b2 hb)
 ·exact AO (d2 hb).2 (b1 hb) (a2 ha)
 ·have o1:=a2 ha
  have o2:=b2 hb
  show ∃q∈oK (ciC (dC c)) (ciC (dC d)),_
  unfold oK
  cases hq:gQ (ciC (dC c)) (ciC (dC d))
  ·exact AO (rK hq) (RB o1 o2) o1
  ·exfalso
   have hs:oZ (ciC (dC c)) (ciC (dC d))=false:=hs
   obtain⟨q1,q2⟩:=ak8.1 hq
   have q1:=ak1 q1
   have q2:=ak1 q2
   unfold fA frm at o1 o2
   rw[q1,q2,o2]at o1
   unfold oZ at hs
   rw[dT q1,dT q2,dT (nQ o1).symm]at hs
   cases hs
theorem wz{c d:BCU}(hc:gdN c)(hd:gdN d)(hs:cB (dC c) (dC d)=false){v:PE}(o1:onE (dC c) v)(o2:onE (dC d) v):fY c d≠[]:=by
 obtain⟨q,hq,e⟩:=UZ hc.1.2 hd.1.2 hs o1 o2
 subst e
 have r:Rpd q:=(supM_on hc.1.2 hd.1.2 hq).2.1
 have hx:(enc q:BP)∈ik c d:=by unfold ik;rw[hs];exact List.mem_map_of_mem hq
 obtain⟨y,hy,_⟩:=yi hc hd hx (by rw[az,←jU hc.crp r];exact(lL hc.e).2 o1) (by rw[az,←jU hd.crp r];exact(lL hd.e).2 o2)
 intro n
 rw[n]at hy
 cases hy
theorem vZ{c d:BCU}(hc:gdN c)(hd:gdN d){x:BP}(hx:x=c.2.2.2.2.1∨x=c.2.2.2.2.2)(o:onE (dC d) (pR (dec x))):fY c d≠[]:=by
 have r:Rpd (dec x:Pt):=by
  rcases hx with rfl|rfl
  ·exact hc.crp.f.1
  ·exact hc.crp.t.1
 have k1:onR (dC c) (dec x)=true:=by
  rcases hx with rfl|rfl
  ·exact(He hc).1
  ·exact(He hc).2
 have k2:onR (dC d) (dec x)=true:=by rw[←jU hd.crp r];exact(lL hd.e).2 o
 cases hs:cB (dC c) (dC d)
 ·exact wz hc hd hs ((lL hc.e).1 (by rw[jU hc.crp r];exact k1)) o
 ·obtain⟨y,hy,_⟩:=yi hc hd (x:=x) (by unfold ik;rw[hs];rcases hx with rfl|rfl<;>simp) k1 k2
  intro n
  rw[n]at hy
  cases hy
theorem Me{S:PE→Prop}{p:PE}{m:RE}(h:Mn S p m)(n:¬S p):sg (m-of (0*0))=1:=by
 obtain⟨q,_,e⟩:=h.1
 have m0:0≤m:=by rw[←e];exact XN _ _
 have z:of (0*0)=0:=by rw[Rat.mul_zero];rfl
 rcases fh m0 with g|g
 ·rw[z]
  exact cY (by grind)
 ·exact absurd (h.zero.1 g) n
theorem wa{c:BCU}(h:gdN c){p:PE}(n:¬onE (dC c) p):poiE (dC c) p 0=1:=by
 obtain⟨m,hm,e⟩:=adw h.e p
 rw[e 0 (by decide)]
 exact Me hm n
theorem Iu{s a:BCU}(hs:gdN s)(ha:gdN a)(es:s.1=false)(ea:a.1=true)(n:∀v,onE (dC s) v→¬onE (dC a) v):DH (dC s) (dC a) 0=1:=by
 unfold DH
 cases o:onP (dC s) (atP (ftv (dC s) (dC a)))
 ·rfl
 ·simp only[Da,cond_true]
  rw[adG ha (Nq hs.1.2 ha.1.2 es ea) (by decide)]
  have k:=(lL hs.e).1 o
  rw[mC]at k
  exact Me (acS ha.e _) (n _ k)
theorem Az{a b z:Rat}(ha:0≤a)(hb:0≤b)(hz:0≤z)(h:rq a+rq b-rq z≠0):TQ a b z 0=1:=by
 rw[Mk ha hb hz (by decide)]
 have e:of 0=0:=rfl
 rcases fh (fQ (rq a+rq b-rq z))with g|g
 ·rw[e]
  exact cY (by grind)
 ·exact absurd ((jD g).elim id id) h
theorem xh{b:Bool}{x:Int}(h:b=true→x=1):Da b x=1:=by
 cases b
 ·rfl
 ·exact h rfl
theorem BF{c:BCU}(h:gdN c)(ha:c.1=true){u:Rat×Rat}(hz:zeV u=false)(t:fb (dC c) u=true):onE (dC c) (of (ciC (dC c)).1+of u.1*rq ((ciC (dC c)).2.2/a8 u u),of (ciC (dC c)).2.1+of u.2*rq ((ciC (dC c)).2.2/a8 u u)):=by
 have hC:Cir (ciC (dC c)):=⟨h.crp.q ha⟩
 unfold fb at t
 rw[show(dC c).1=true from ha,hz]at t
 have o:=(lL h.e (p:=qF (ciC (dC c)) u)).1 t
 have f:=wg (ciC (dC c)) u
 have f1:=congrArg Prod.fst f
 have f2:=congrArg Prod.snd f
 unfold frm at f1 f2
 dsimp only at f1 f2
 rw[show pR (qF (ciC (dC c)) u)=(of (ciC (dC c)).1+of u.1*rq ((ciC (dC c)).2.2/a8 u u),of (ciC (dC c)).2.1+of u.2*rq ((ciC (dC c)).2.2/a8 u u)) from amc (by grind) (by grind)]at o
 exact o
theorem T7{c d:BCU}(hc:gdN c)(hd:gdN d)(ha:c.1=true)(hb:d.1=true)(h:fY c d=[]):J6 (dC c) (dC d) 0=1:=by
 have p0:=hc.cn ha
 have q0:=hd.cn hb
 have n0:0≤nD (dC c) (dC d):=nO _
 have z0:(0:Rat)≤0:=by decide
 unfold J6
 by_cases hn:nD (dC c) (dC d)=0
 ·rw[dT hn];rfl
 ·rw[dF hn,cond_false,GU p0 q0 n0 z0,Int.max_comm (ul _ _ _ _),Int.max_comm (ul _ _ _ _),GU n0 q0 p0 z0,GU n0 p0 q0 z0]
  have nn:0<nD (dC c) (dC d):=by grind
  have rt:∀{x:Rat},0≤x→rq (x/nD (dC c) (dC d))*rq (nD (dC c) (dC d))=rq x:=fun hx=>by rw[←yy (BN hx n0) n0,alk hn]
  have np:=Ey nn
  have kp:=rt p0
  have kq:=rt q0
  have dw:a8 (wyv (dC c) (dC d)) (wyv (dC c) (dC d))=nD (dC c) (dC d):=rfl
  have db:a8 (bkV (wyv (dC c) (dC d))) (bkV (wyv (dC c) (dC d)))=nD (dC c) (dC d):=by
   rw[←dw]
   unfold a8 bkV
   grind
  have zw:zeV (wyv (dC c) (dC d))=false:=by
   cases z:zeV (wyv (dC c) (dC d))
   ·rfl
   ·obtain⟨z1,z2⟩:=ak8.1 z
    exact absurd (by rw[←dw];unfold a8;rw[ak1 z1,ak1 z2];grind) hn
  have zb:zeV (bkV (wyv (dC c) (dC d)))=false:=by
   cases z:zeV (bkV (wyv (dC c) (dC d)))
   ·rfl
   ·obtain⟨z1,z2⟩:=ak8.1 z
    exact absurd (by rw[←db];unfold a8;rw[ak1 z1,ak1 z2];grind) hn
  have hs:cB (dC c) (dC d)=false:=by
   cases hs:cB (dC c) (dC d)
   ·rfl
   ·exfalso
    unfold cB at hs
    rw[show(dC c).1=true from ha,show(dC d).1=true from hb]at hs
    have hs:oZ (ciC (dC c)) (ciC (dC d))=true:=hs
    obtain⟨s1,s2⟩:=ak8.1 hs
    have s1:=ak1 s1
    have s2:=ak1 (ak8.1 s2).1
    refine hn ?_
    rw[←dw]
    unfold a8 wyv cQ ctr
    dsimp only
    rw[s1,s2,Rat.sub_self,Rat.sub_self]
    grind
  have A:=fun t=>BF hc ha zw t
  have A':=fun t=>BF hc ha zb t
  have B:=fun t=>BF hd hb zw t
  have B':=fun t=>BF hd hb zb t
  rw[dw]at A B
  rw[db]at A' B'
  have w1:of (ciC (dC d)).1=of (ciC (dC c)).1+of (wyv (dC c) (dC d)).1:=by rw[←of_add];unfold wyv cQ ctr;exact congrArg of (by grind)
  have w2:of (ciC (dC d)).2.1=of (ciC (dC c)).2.1+of (wyv (dC c) (dC d)).2:=by rw[←of_add];unfold wyv cQ ctr;exact congrArg of (by grind)
  have b1:of (bkV (wyv (dC c) (dC d))).1= -of (wyv (dC c) (dC d)).1:=of_neg _
  have b2:of (bkV (wyv (dC c) (dC d))).2= -of (wyv (dC c) (dC d)).2:=of_neg _
  rw[b1,b2]at A' B'
  rw[w1,w2]at B B'
  have go:∀{x y:PE},onE (dC c) x→onE (dC d) y→x=y→False:=fun ox oy e=>wz hc hd hs ox (e▸oy) h
  clear hs zw zb dw db rt
  generalize rq ((ciC (dC c)).2.2/nD (dC c) (dC d))=kP at*
  generalize rq ((ciC (dC d)).2.2/nD (dC c) (dC d))=kQ at*
  have t0:∀{x:RE},x*rq (nD (dC c) (dC d))=0→x=0:=fun h=>(jD h).resolve_right (by grind)
  have x1:=xh (b:=nT (dC c) (dC d)&&fb (dC d) (bkV (wyv (dC c) (dC d)))) fun t=>Az p0 q0 n0 fun z=>by
   obtain⟨t1,t2⟩:=ak8.1 t
   have k:=t0 (x:=kP+kQ-1) (by grind)
   exact go (A t1) (B' t2) (amc (by dsimp only;grind) (by dsimp only;grind))
  have x2:=xh (b:=nT (dC c) (dC d)&&fb (dC d) (wyv (dC c) (dC d))) fun t=>Az n0 q0 p0 fun z=>by
   obtain⟨t1,t2⟩:=ak8.1 t
   have k:=t0 (x:=1+kQ-kP) (by grind)
   exact go (A t1) (B t2) (amc (by dsimp only;grind) (by dsimp only;grind))
  have x3:=xh (b:=fT (dC c) (dC d)&&fb (dC d) (bkV (wyv (dC c) (dC d)))) fun t=>Az n0 p0 q0 fun z=>by
   obtain⟨t1,t2⟩:=ak8.1 t
   have k:=t0 (x:=1+kP-kQ) (by grind)
   exact go (A' t1) (B' t2) (amc (by dsimp only;grind) (by dsimp only;grind))
  rw[x1,x2,x3]
  rfl
theorem UQ{c d:BCU}(hc:gdN c)(hd:gdN d)(h:fY c d=[]):uE (dC c) (dC d) 0=1:=by
 have h':=KZ hc hd h
 have p1:=wa hd fun o=>vZ hc hd (.inl rfl) o h
 have p2:=wa hd fun o=>vZ hc hd (.inr rfl) o h
 have p3:=wa hc fun o=>vZ hd hc (.inl rfl) o h'
 have p4:=wa hc fun o=>vZ hd hc (.inr rfl) o h'
 have E:C9 (dC c) (dC d) 0=1:=by
  show min (min (min (poiE (dC d) (pR (dec c.2.2.2.2.1)) 0) (poiE (dC d) (pR (dec c.2.2.2.2.2)) 0)) (poiE (dC c) (pR (dec d.2.2.2.2.1)) 0)) (poiE (dC c) (pR (dec d.2.2.2.2.2)) 0)=1
  rw[p1,p2,p3,p4]
  rfl
 have e1:(dC c).1=c.1:=rfl
 have e2:(dC d).1=d.1:=rfl
 unfold uE
 rw[e1,e2,E]
 have sF:∀{a b:BCU},a.1=false→b.1=true→cB (dC a) (dC b)=false:=fun{a b} x y=>by
  unfold cB
  rw[show(dC a).1=false from x,show(dC b).1=true from y]
  rfl
 cases hx:c.1<;>cases hy:d.1<;>simp only[cond_true,cond_false]
 ·rw[Iu hc hd hx hy fun v o1 o2=>wz hc hd (sF hx hy) o1 o2 h]
  rfl
 ·rw[Iu hd hc hy hx fun v o1 o2=>wz hd hc (sF hy hx) o1 o2 h']
  rfl
 ·rw[T7 hc hd hx hy h]
  rfl
theorem Oo{c d:BCU}(hc:gdN c)(hd:gdN d):(nW c d 0==0)=(Ew c d||decide (((kZ c d).length:Int)>0)):=by
 rw[←acD hc hd]
 unfold nW S9
 rw[dF (show ¬(0:Rat)<0 by decide),cond_false]
 by_cases h:fY c d=[]
 ·rw[UQ hc hd h,Hj hc hd h,h]
  rfl
 ·have:=alB.2 h
  rw[dT (show((fY c d).length:Int)>0 by omega),Bool.true_or,cond_true,dP]
  rfl
end
section
instance akR {a b c d e f:Rat} {i1 i2 i3 i4 i5 i6:Nat} [h1:Bd a i1] [h2:Bd b i2] [h3:Bd c i3] [h4:Bd d i4] [h5:Bd e i5] [h6:Bd f i6]:Bd ((a,b,c,d,e,f):Qd) (mx i1 (mx i2 (mx i3 (mx i4 (mx i5 i6))))):=inferInstance
instance aji {p:Pt} {v:Rat×Rat} {j k:Nat} [h:Bd p j] [h':Bd v k]:Bd (rcX p v) (j+k+1):=by
 have a:Bd (p.1-v.1) _:=inferInstance
 have b:Bd p.2.1 j:=inferInstance
 have i:Bd ((p.1-v.1,p.2.1):Rat×Rat) _:=inferInstance
 exact i.mono (fo (by omega) (by omega))
instance aj2 {p:Pt} {v:Rat×Rat} {j k:Nat} [h:Bd p j] [h':Bd v k]:Bd (rcY p v) (j+k+1):=by
 have a:Bd (p.2.2.1-v.2) _:=inferInstance
 have b:Bd p.2.2.2.1 j:=inferInstance
 have i:Bd ((p.2.2.1-v.2,p.2.2.2.1):Rat×Rat) _:=inferInstance
 exact i.mono (fo (by omega) (by omega))
instance ajY {p q:Pt} {j k:Nat} [h:Bd p j] [h':Bd q k]:Bd (noQ p q) (j+k):=by
 have hj:1≤j:=nf (show bdR j p.1 from(inferInstance:Bd p.1 j).le)
 have z:Bd (0:Rat) (j+k):=⟨bI ls.le (by omega)⟩
 have a:Bd p.2.2.2.2 (j+k):=(inferInstance:Bd p.2.2.2.2 j).mono (by omega)
 have b:Bd q.2.2.2.2 (j+k):=(inferInstance:Bd q.2.2.2.2 k).mono (by omega)
 have i:Bd ((0,0,0,0,p.2.2.2.2,q.2.2.2.2):Qd) _:=inferInstance
 have e:∀n,mx n n=n:=fun n=>by unfold mx;rw[akY (ak4 n)];rfl
 simp only[e]at i
 exact i
instance ajM {q:Qd} {x y:Rat×Rat} {s:Rat} {i j k l:Nat} [h:Bd q i] [h1:Bd x j] [h2:Bd y k] [h3:Bd s l]:Bd (prQ q x y s) (i+l+j+k+1):=by
 have a1:Bd (q.1+s*(x.1*y.1)) (i+(l+(j+k))+1):=inferInstance
 have a2:Bd (q.2.1+s*(x.2*y.1)) (i+(l+(j+k))+1):=inferInstance
 have a3:Bd (q.2.2.1+s*(x.1*y.2)) (i+(l+(j+k))+1):=inferInstance
 have a4:Bd (q.2.2.2.1+s*(x.2*y.2)) (i+(l+(j+k))+1):=inferInstance
 have a5:Bd q.2.2.2.2.1 (i+(l+(j+k))+1):=(inferInstance:Bd q.2.2.2.2.1 i).mono (by omega)
 have a6:Bd q.2.2.2.2.2 (i+(l+(j+k))+1):=(inferInstance:Bd q.2.2.2.2.2 i).mono (by omega)
 have i6:Bd ((q.1+s*(x.1*y.1),q.2.1+s*(x.2*y.1),q.2.2.1+s*(x.1*y.2),q.2.2.2.1+s*(x.2*y.2),q.2.2.2.2.1,q.2.2.2.2.2):Qd) _:=inferInstance
 have e:∀n,mx n n=n:=fun n=>by unfold mx;rw[akY (ak4 n)];rfl
 simp only[e]at i6
 exact i6.mono (by omega)
theorem abI{q:Qd}{k:Nat}[h:Bd q k](hk:k≤6000)(h5:0≤q.2.2.2.2.1)(h6:0≤q.2.2.2.2.2):decide (okQ (enc q))=true:=by
 have n5:Nn q.2.2.2.2.1:=⟨h5⟩
 have n6:Nn q.2.2.2.2.2:=⟨h6⟩
 show decide (okQ (enc ((q.1,q.2.1,q.2.2.1,q.2.2.2.1,q.2.2.2.2.1,q.2.2.2.2.2):Qd)))=true
 exact zh (a:=k) (b:=k) (c:=k) (d:=k) (m:=k) (n:=k) (by omega) (by omega) (by omega) (by omega) (by omega) (by omega)
instance akH:Bd z2 1:=(inferInstance:Bd ((0,0):Rat×Rat) _)
theorem aiV(p:Pt)(v:Rat×Rat):(sqP p v).1=sqA p v:=by
 show(coR (sqA p v) (sqB p v) p.2.2.2.2).1=_
 unfold coR
 cases decide (sqB p v=0)<;>rfl
theorem ads(p:Pt)(v:Rat×Rat):(sqP p v).2.1=sqB p v:=by
 show(coR (sqA p v) (sqB p v) p.2.2.2.2).2.1=_
 unfold coR
 by_cases e:sqB p v=0
 ·rw[akY e,e];rfl
 ·rw[ak0 e];rfl
theorem Yy(p:Pt)(v:Rat×Rat):(sqP p v).2.1=0∨(sqP p v).2.2=p.2.2.2.2:=by
 show(coR (sqA p v) (sqB p v) p.2.2.2.2).2.1=0∨(coR (sqA p v) (sqB p v) p.2.2.2.2).2.2=_
 unfold coR
 cases decide (sqB p v=0)
 ·exact .inr rfl
 ·exact .inl rfl
theorem aa3{p q:Pt}{r:Rat}[bp:Bd p 580][bq:Bd q 580][br:Bd r 1000](hp:0≤p.2.2.2.2)(hq:0≤q.2.2.2.2):decide (okQ (enc (apQ p q r)))=true:=by
 have n1:Nn p.2.2.2.2:=⟨hp⟩
 have n2:Nn q.2.2.2.2:=⟨hq⟩
 have b2:Bd (-2:Rat) 3:=cV (n:= -2) (by decide)
 have bD:Bd (doQ z2 p q) 3496:=(inferInstance:Bd (prQ (prQ (noQ p q) (rcX p z2) (rcX q z2) (-2)) (rcY p z2) (rcY q z2) (-2)) _).mono (by decide)
 have bA:Bd ((doQ z2 p q).1+(sqA p z2+sqA q z2)-r*r) _:=inferInstance
 have bB:Bd ((doQ z2 p q).2.1+sqB p z2) _:=inferInstance
 have bC:Bd ((doQ z2 p q).2.2.1+sqB q z2) _:=inferInstance
 have bE:Bd (doQ z2 p q).2.2.2.1 3496:=inferInstance
 exact zh (h1:=bA) (h2:=bB) (h3:=bC) (h4:=bE) (by decide) (by decide) (by decide) (by decide) (by decide) (by decide)
namespace RE
theorem agp(a b c d:RE):a*d-b*c= -(c*b-d*a):=by grind
theorem Nc(u w:PE):crs u w= -crs w u:=agp _ _ _ _
theorem turS_anti(v:Rat×Rat)(p q:PE):turS v p q= -turS v q p:=by
 unfold turS
 rw[Nc,rF]
theorem wit_eq(c:Cv)(p:PE):witE c p=Gh (turS (ctr (ciC c)) (pR (ccF c)) (pR (ccT c))) (turS (ctr (ciC c)) (pR (ccF c)) p) (turS (ctr (ciC c)) p (pR (ccT c))):=rfl
theorem wit_go(a b c:Int):(match decide (a≥0)with|true=>(match decide (b≥0)with|true=>some [RV.d .bool (decide (c≥0))]|false=>some [RV.d .bool false])|false=>(match decide (-c≤0)with|true=>some [RV.d .bool true]|false=>some [RV.d .bool (decide (-b≤0))]))=some [RV.d .bool (Gh a b c)]:=by
 have h1:decide (-c≤0)=decide (0≤c):=amb.2 (by omega)
 have h2:decide (-b≤0)=decide (0≤b):=amb.2 (by omega)
 have h3:decide (c<0)=!decide (0≤c):=by rw[←decide_not];exact amb.2 (by omega)
 have h4:decide (b<0)=!decide (0≤b):=by rw[←decide_not];exact amb.2 (by omega)
 unfold Gh
 simp only[h1,h2,h3,h4,ge_iff_le]
 cases decide (0≤a)<;>cases decide (0≤b)<;>cases decide (0≤c)<;>rfl
open Classical in
theorem bes_E{c:Cv}[hf:Rpd (frC c)][ht:Rpd (toC c)]{p:Pt}[hp:Rpd p]:besE c (pR p)=rG c p:=by
 unfold besE
 rw[ang,al7]
 exact xD.symm
theorem min_if(a b:Int):(if b<a then b else a)=min a b:=by
 split<;>omega
theorem wr_sg(x:RE):i64.wrap (0-sg x)= -sg x:=by
 rcases bh x with⟨_,e⟩|⟨_,e⟩|⟨_,e⟩<;>rw[e]<;>rfl
theorem Z9(a b m t:RE):a*a+m*(b*b)+2*(a*b)*t=(a+b*t)*(a+b*t)+(m-t*t)*(b*b):=by grind
theorem abr(A B C x y z w t:RE):A*x+B*y-C+(A*z+B*w)*t=A*(x+z*t)+B*(y+w*t)-C:=by grind
theorem vR_lin(l:Ln){p:Pt}[hp:Rpd p]:vR (mkR (qK l p*qK l p+p.2.2.2.2*(qE l p*qE l p)) (2*(qK l p*qE l p)) p.2.2.2.2)=exE l (pR p)*exE l (pR p):=by
 have e:exE l (pR p)=of (qK l p)+of (qE l p)*rq p.2.2.2.2:=by
  unfold exE pR pX pY v2 qK qE
  dsimp only
  rw[of_sub,of_add,of_add,aE,aE,aE,aE,abr]
 have two:of 2=2:=rfl
 rw[vR_mk,e]
 unfold v2
 rw[of_add,aE,aE,aE,aE,aE,two,Z9,dB hp.nn,sub_self,zero_mul,add_zero]
theorem sq_zr{p:Pt}[hp:Rpd p]{v:Rat×Rat}:(sgR (sqP p v)==0)=true↔pR p=vE v:=by
 have hr:Rdd (sqP p v):=inferInstance
 rw[Ft hr.nn,al9,o0,vR_sq]
 constructor
 ·intro e
  obtain⟨a,b⟩:=sN e
  exact amc (ga _ _ a) (ga _ _ b)
 ·intro e
  rw[e]
  unfold dsE
  rw[sub_self,sub_self,mul_zero,add_zero]
end RE
def aaC:List En:=[⟨41,fM,dX⟩,enL ahn]
def Ye(r:BO3)(_k:KT):Option (List RV):=match decide (okR r.1)with|true=>(match decide (okR r.2.1)with|true=>(match(aD (ah r.2.1) 0)==0 with|true=>some [RV.d aoi (aD (ah r.1) 0)]|false=>(match(aD (ah r.1) 0)==(aD (ah r.2.1) 0)with|true=>some [RV.d aoi (aD (ah r.1) 0)]|false=>(match(aD (ah r.1) 0)==0 with|true=>some [RV.d aoi (aD (ah r.2.1) 0)]|false=>(match decide (ok Rt 15000 r)with|true=>(match decide (okR (hid (am (noR (dec r)))))with|true=>some [RV.d aoi (i64.wrap ((aD (ah r.1) 0)*(aD (ah (hid (am (noR (dec r))))) 0)))]|false=>none)|false=>none))))|false=>none)|false=>none
def ahe:Cn 103 [tO]:=cn fun(r:BO3)=>lf (okT 15000 r) [.d aoi (sgR (dec r))] fun h=>by
 refine aA aaC (Ye r) ⟨0,?_⟩
 have hr:=h
 obtain⟨r,rfl,br,rr⟩:=gn hr
 unfold Ye
 simp only[bK,az,sV,BK,eT,cA,okd,HB,Nat.reduceAdd,Nat.reduceMul,Nat.reduceLeDiff,A7 (ka _ _) (ka _ _)]
 rw[Zo rr]
 cases aD r.2.1 0==0
 ·cases aD r.1 0==aD r.2.1 0
  ·cases aD r.1 0==0<;>rfl
  ·rfl
 ·rfl
def B8:List En:=[⟨41,fM,dX⟩,⟨109,kX,gJ⟩,⟨99,iA,fe⟩,⟨108,gU,eO⟩,⟨73,l6,iy⟩,⟨107,iR,fx⟩,⟨106,iD,ff⟩,enL ZM,enL Ou,enL yX,enL WT,enT CH,enT Sg,enL LZ,enL Jk,enL Rv,enL Zh,enL Xd,enT ZN,enT Mf,enT ahe]
def WE(p:BP)(v:BV)(_k:KT):Option (List RV):=cr (og (o2 p.1 v.1) (cr (og (o2 p.2.2.1 v.2) (dup (.b .l .l) (some [RV.d tV (hSu p.1 v.1,p.2.1),RV.d tV (hSu p.2.2.1 v.2,p.2.2.2.1)]))) (og (o2 p.2.2.1 v.2) (some [RV.d tV (hSu p.1 v.1,p.2.1),RV.d tV (hSu p.2.2.1 v.2,p.2.2.2.1)])))) (og (o2 p.1 v.1) (og (o2 p.2.2.1 v.2) (some [RV.d tV (hSu p.1 v.1,p.2.1),RV.d tV (hSu p.2.2.1 v.2,p.2.2.2.1)])))
def agT:Cn 200 [tP,tV]:=cn fun(p:BP) (v:BV)=>lf (okP 580 p∧ok (Rat×Rat) 400 v) [.d tV (enc (rcX (dec p) (dec v))),.d tV (enc (rcY (dec p) (dec v)))] fun h=>by
 refine aA B8 (WE p v) ⟨0,?_⟩
 obtain⟨hp,hv⟩:=h
 obtain⟨p,rfl,bp,rp⟩:=bR hp
 obtain⟨v,rfl,bv⟩:=aG hv
 unfold WE
 simp only[aU,Nat.reduceLeDiff]
 try rfl
def WY(q:BQ)(x y:BV)(s:Int)(_k:KT):Option (List RV):=og (decide (aH s)) (og (o2 x.1 y.1) (og (o2 (hid (am (s:Rat))) (hMu x.1 y.1)) (og (o2 q.1 (hMu (hid (am (s:Rat))) (hMu x.1 y.1))) (og (o2 x.2 y.1) (og (o2 (hid (am (s:Rat))) (hMu x.2 y.1)) (og (o2 q.2.1 (hMu (hid (am (s:Rat))) (hMu x.2 y.1))) (og (o2 x.1 y.2) (og (o2 (hid (am (s:Rat))) (hMu x.1 y.2)) (og (o2 q.2.2.1 (hMu (hid (am (s:Rat))) (hMu x.1 y.2))) (og (o2 x.2 y.2) (og (o2 (hid (am (s:Rat))) (hMu x.2 y.2)) (og (o2 q.2.2.2.1 (hMu (hid (am (s:Rat))) (hMu x.2 y.2))) (some [RV.d tQ (hAd q.1 (hMu (hid (am (s:Rat))) (hMu x.1 y.1)),(hAd q.2.1 (hMu (hid (am (s:Rat))) (hMu x.2 y.1)),(hAd q.2.2.1 (hMu (hid (am (s:Rat))) (hMu x.1 y.2)),(hAd q.2.2.2.1 (hMu (hid (am (s:Rat))) (hMu x.2 y.2)),q.2.2.2.2))))])))))))))))))
def ah4:Cn 201 [tQ,tV,tV,aoi]:=cn fun(q:BQ) (x y:BV) (s:Int)=>lf (ok Qd 12000 q∧ok (Rat×Rat) 2500 x∧ok (Rat×Rat) 2500 y∧aH s) [.d tQ (enc (prQ (dec q) (dec x) (dec y) (s:Rat)))] fun h=>by
 refine aA B8 (WY q x y s) ⟨0,?_⟩
 obtain⟨hq,hx,hy,hs⟩:=h
 obtain⟨q,rfl,bq⟩:=aG hq
 obtain⟨x,rfl,bx⟩:=aG hx
 obtain⟨y,rfl,b_y⟩:=aG hy
 have bs:=cV hs
 unfold WY
 simp only[aU,Nat.reduceAdd,Nat.reduceLeDiff,dT hs]
 try rfl
def Wa(p q:BP)(_k:KT):Option (List RV):=og (decide (aH (0:Int))) (some [RV.d tQ (hid (am ((0:Int):Rat)),(hid (am ((0:Int):Rat)),(hid (am ((0:Int):Rat)),(hid (am ((0:Int):Rat)),(p.2.2.2.2,q.2.2.2.2)))))])
def ahG:Cn 202 [tP,tP]:=cn fun(p q:BP)=>lf (okP 580 p∧okP 580 q) [.d tQ (enc (noQ (dec p) (dec q)))] fun h=>by
 refine aA B8 (Wa p q) ⟨0,?_⟩
 obtain⟨hp,hq⟩:=h
 obtain⟨p,rfl,bp,rp⟩:=bR hp
 obtain⟨q,rfl,bq,rq⟩:=bR hq
 unfold Wa
 simp only[aU,dT (show aH 0 by decide)]
 try rfl
def Cc:List En:=enL agT::enL ah4::enL ahG::B8
def WX(v:BV)(p q:BP)(_k:KT):Option (List RV):=og (decide (okP 580 p∧ok (Rat×Rat) 400 v)) (og (decide (okP 580 q∧ok (Rat×Rat) 400 v)) (og (decide (okP 580 p∧okP 580 q)) (og (decide (ok Qd 12000 (hid (enc (noQ (dec p) (dec q))))∧ok (Rat×Rat) 2500 (hid (enc (rcX (dec p) (dec v))))∧ok (Rat×Rat) 2500 (hid (enc (rcY (dec q) (dec v))))∧aH (1:Int))) (og (decide (ok Qd 12000 (hid (enc (prQ (dec (hid (enc (noQ (dec p) (dec q))))) (dec (hid (enc (rcX (dec p) (dec v))))) (dec (hid (enc (rcY (dec q) (dec v))))) ((1:Int):Rat))))∧ok (Rat×Rat) 2500 (hid (enc (rcY (dec p) (dec v))))∧ok (Rat×Rat) 2500 (hid (enc (rcX (dec q) (dec v))))∧aH ((-1):Int))) (og (decide (okQ (hid (enc (prQ (dec (hid (enc (prQ (dec (hid (enc (noQ (dec p) (dec q))))) (dec (hid (enc (rcX (dec p) (dec v))))) (dec (hid (enc (rcY (dec q) (dec v))))) ((1:Int):Rat))))) (dec (hid (enc (rcY (dec p) (dec v))))) (dec (hid (enc (rcX (dec q) (dec v))))) (((-1):Int):Rat)))))) (some [RV.d aoi (sgQ (dec (hid (enc (prQ (dec (hid (enc (prQ (dec (hid (enc (noQ (dec p) (dec q))))) (dec (hid (enc (rcX (dec p) (dec v))))) (dec (hid (enc (rcY (dec q) (dec v))))) ((1:Int):Rat))))) (dec (hid (enc (rcY (dec p) (dec v))))) (dec (hid (enc (rcX (dec q) (dec v))))) (((-1):Int):Rat))))))]))))))
def ago:Cn 213 [tV,tP,tP]:=cn fun(v:BV) (p q:BP)=>lf (ok (Rat×Rat) 400 v∧okP 580 p∧okP 580 q) [.d aoi (RE.turS (dec v) (RE.pR (dec p)) (RE.pR (dec q)))] fun h=>by
 refine aA Cc (WX v p q) ⟨0,?_⟩
 obtain⟨hv,hp,hq⟩:=h
 obtain⟨v,rfl,bv⟩:=aG hv
 obtain⟨p,rfl,bp,rp⟩:=bR hp
 obtain⟨q,rfl,bq,rq⟩:=bR hq
 have h1:decide (aH 1)=true:=by decide
 have h2:decide (aH (-1))=true:=by decide
 have c1:((1:Int):Rat)=1:=rfl
 have c2:((-1:Int):Rat)= -1:=rfl
 have b1:Bd (1:Rat) 3:=cV (n:=1) (by decide)
 have b2:Bd (-1:Rat) 3:=cV (n:= -1) (by decide)
 have n1:Bd (prQ (prQ (noQ p q) (rcX p v) (rcY q v) 1) (rcY p v) (rcX q v) (-1)) _:=inferInstance
 have o1:decide (okQ (enc (prQ (prQ (noQ p q) (rcX p v) (rcY q v) 1) (rcY p v) (rcX q v) (-1))))=true:=abI (k:=6000) (h:=n1.mono (by decide)) (by decide) rp.nn rq.nn
 unfold WX
 simp only[aU,Nat.reduceAdd,Nat.reduceLeDiff,aN,h1,h2,c1,c2,o1]
 rw[←RE.crQ_re]
 rfl
def Xv(a:BO3)(c:BR)(_k:KT):Option (List RV):=og (o1 a.2.1) (match(aD (ah a.2.1) 0)==0 with|true=>some [RV.d tR a.2.1]|false=>(og (o2 a.2.2 c) (match(aD (ah a.2.2) (ah c))==0 with|true=>some [RV.d tR a.2.1]|false=>(og (decide (ir a.2.2 c)) (og (o1 (hDi a.2.2 c)) (match !(fD (ah (hDi a.2.2 c)))with|true=>some [RV.d tR a.2.1]|false=>(og (o2 a.2.1 (hid (rtB (ah (hDi a.2.2 c))))) (some [RV.d tR (hMu a.2.1 (hid (rtB (ah (hDi a.2.2 c)))))]))))))))
def agP:Cn 203 [tO,tR]:=cn fun(a:BO3) (c:BR)=>lf (okT 15000 a∧ok Rat 15000 c∧((dec a:Rt).2.1=0∨(dec a:Rt).2.2=ah c)) [.d tR (am (dec a:Rt).2.1)] fun h=>by
 refine aA Cc (Xv a c) ⟨0,?_⟩
 obtain⟨ha,hc,h⟩:=h
 obtain⟨a,rfl,ba,ra⟩:=gn ha
 obtain⟨c,rfl,bc⟩:=aG hc
 rw[az,eT,cA]at h
 unfold Xv
 simp only[aU,Nat.reduceAdd,Nat.reduceLeDiff,aq]
 by_cases e:a.2.1=0
 ·rw[dT e]
 ·rw[dF e,dT (h.resolve_left e)]
def ZA(d:BO3)(q r:BR)(_k:KT):Option (List RV):=og (o2 r r) (og (o2 q (hMu r r)) (og (o2 r r) (og (decide (ok Rat 100000 (hAd q (hMu r r))∧ok Rat 100000 (hAd r r)∧ok Rat 100000 q∧0≤ah q)) (og (decide (okT 15000 d∧okT 15000 (hid (enc (mkR (ah (hAd q (hMu r r))) (ah (hAd r r)) (ah q)))))) (match decide ((a9 (dec d) (dec (hid (enc (mkR (ah (hAd q (hMu r r))) (ah (hAd r r)) (ah q))))))≥0)with|true=>some [RV.d aoi (a9 (dec d) (dec (hid (enc (mkR (ah (hAd q (hMu r r))) (ah (hAd r r)) (ah q))))))]|false=>(og (o2 r r) (og (o2 q (hMu r r)) (match decide ((aD (ah q) (ah (hMu r r)))≤0)with|true=>some [RV.d aoi (-1)]|false=>(og (o1 (hAd r r)) (og (decide (ok Rat 100000 (hAd q (hMu r r))∧ok Rat 100000 (hNe (hAd r r))∧ok Rat 100000 q∧0≤ah q)) (og (decide (okT 15000 d∧okT 15000 (hid (enc (mkR (ah (hAd q (hMu r r))) (ah (hNe (hAd r r))) (ah q)))))) (some [RV.d aoi (i64.wrap (0-(a9 (dec d) (dec (hid (enc (mkR (ah (hAd q (hMu r r))) (ah (hNe (hAd r r))) (ah q))))))))]))))))))))))
def aij:Cn 105 [tO,tR,tR]:=cn fun(d:BO3) (q r:BR)=>lf (okT 15000 d∧ok Rat 1000 q∧ok Rat 1000 r∧0≤ah q) [.d aoi (RE.rngS (RE.vR (dec d)) (ah q) (ah r))] fun h=>by
 refine aA Cc (ZA d q r) ⟨0,?_⟩
 obtain⟨hd,hq,hr,hn⟩:=h
 obtain⟨d,rfl,bd,rd⟩:=gn hd
 obtain⟨q,rfl,bq⟩:=aG hq
 obtain⟨r,rfl,br⟩:=aG hr
 rw[eT,cA]at hn
 have nq:Nn q:=⟨hn⟩
 have m:∀a b,a9 d (mkR a b q)=RE.sg (RE.vR d-RE.v2 a b q):=fun a b=>by
  rw[RE.cmpT_re rd.nn (sS (a:=a) (b:=b) (c:=q)).nn,RE.vR_mk]
 unfold ZA RE.rngS
 simp only[aU,Nat.reduceAdd,Nat.reduceLeDiff,aM,dT hn,m,ge_iff_le,RE.wr_sg]
 cases decide (0≤RE.sg (RE.vR d-RE.v2 (q+r*r) (r+r) q))
 ·cases decide (aD q (r*r)≤0)<;>rfl
 ·rfl
def F9:List En:=enT ago::enL agP::enT aij::Cc
def W3(p q:BP)(r:BR)(_k:KT):Option (List RV):=let y1:=am ((0:Int):Rat);let y2:=hid (enc (noQ (dec p) (dec q)));let y3:=dec (hid y1,hid y1);let y4:=hid (enc (rcX (dec p) y3));let y5:=hid (enc (rcX (dec q) y3));let y6:=hid (enc (prQ (dec y2) (dec y4) (dec y5) (((-2):Int):Rat)));let y7:=hid (enc (rcY (dec p) y3));let y8:=hid (enc (rcY (dec q) y3));let y9:=hid (enc (sqP (dec p) y3));let y10:=hid (enc (sqP (dec q) y3));let y11:=hid (enc (prQ (dec y6) (dec y7) (dec y8) (((-2):Int):Rat)));let y12:=hAd (y9.1) (y10.1);let y13:=hid (am (dec y9:Rt).2.1);let y14:=hid (am (dec y10:Rt).2.1);og (decide (aH (0:Int))) (og (decide (aH (0:Int))) (og (decide (okP 580 p∧ok (Rat×Rat) 400 (hid y1,hid y1))) (og (decide (okP 580 q∧ok (Rat×Rat) 400 (hid y1,hid y1))) (og (decide (okP 580 p∧okP 580 q)) (og (decide (ok Qd 12000 y2∧ok (Rat×Rat) 2500 y4∧ok (Rat×Rat) 2500 y5∧aH ((-2):Int))) (og (decide (ok Qd 12000 y6∧ok (Rat×Rat) 2500 y7∧ok (Rat×Rat) 2500 y8∧aH ((-2):Int))) (og (decide (okP 3500 p∧ok (Rat×Rat) 300 (hid y1,hid y1))) (og (decide (okP 3500 q∧ok (Rat×Rat) 300 (hid y1,hid y1))) (og (o2 (y9.1) (y10.1)) (og (o2 (y11.1) y12) (og (o2 r r) (og (o2 (hAd (y11.1) y12) (hMu r r)) (og (decide (okT 15000 y9∧ok Rat 15000 p.2.2.2.2∧((dec y9:Rt).2.1=0∨(dec y9:Rt).2.2=ah p.2.2.2.2))) (og (o2 ((y11.2).1) y13) (og (decide (okT 15000 y10∧ok Rat 15000 q.2.2.2.2∧((dec y10:Rt).2.1=0∨(dec y10:Rt).2.2=ah q.2.2.2.2))) (og (o2 (((y11.2).2).1) y14) (og (decide (okQ (hSu (hAd (y11.1) y12) (hMu r r),(hAd ((y11.2).1) y13,(hAd (((y11.2).2).1) y14,((y11.2).2).2))))) (some [RV.d aoi (sgQ (dec (hSu (hAd (y11.1) y12) (hMu r r),(hAd ((y11.2).1) y13,(hAd (((y11.2).2).1) y14,((y11.2).2).2)))))]))))))))))))))))))
def agy:Cn 93 [tP,tP,tR]:=cn fun(p q:BP) (r:BR)=>lf (okP 580 p∧okP 580 q∧ok Rat 1000 r) [.d aoi (RE.apaS (RE.pR (dec p)) (RE.pR (dec q)) (ah r))] fun h=>by
 refine aA F9 (W3 p q r) ⟨0,?_⟩
 obtain⟨hp,hq,hr⟩:=h
 obtain⟨p,rfl,bp,rp⟩:=bR hp
 obtain⟨q,rfl,bq,rq⟩:=bR hq
 obtain⟨r,rfl,br⟩:=aG hr
 have h0:decide (aH 0)=true:=by decide
 have h2:decide (aH (-2))=true:=by decide
 have c2:((-2:Int):Rat)= -2:=rfl
 have b2:Bd (-2:Rat) 3:=cV (n:= -2) (by decide)
 have hz:((am ((0:Int):Rat),am ((0:Int):Rat)):BV)=enc z2:=rfl
 have o1:=aa3 (p:=p) (q:=q) (r:=r) rp.nn rq.nn
 unfold W3
 simp only[aU,Nat.reduceAdd,Nat.reduceMul,Nat.reduceLeDiff,aM,aN,h0,h2,c2,hz,dT (show sqB p z2=0∨(sqP p z2).2.2=p.2.2.2.2 by rw[←ads];exact Yy p z2),dT (show sqB q z2=0∨(sqP q z2).2.2=q.2.2.2.2 by rw[←ads];exact Yy q z2),aiV,ads]
 show(match decide (okQ (enc (apQ p q r)))with|true=>some [RV.d aoi (sgQ (dec (enc (apQ p q r))))]|false=>none)=_
 rw[az,o1,RE.apQ_re]
def Y7(c:BCU)(p:BP)(_k:KT):Option (List RV):=match c.2.2.2.1 with|true=>(og (decide (ok (Rat×Rat) 400 (hid ((c.2.2.1.1,c.2.2.1.2.1)))∧okP 580 c.2.2.2.2.2∧okP 580 c.2.2.2.2.1)) (match decide ((RE.turS (dec (hid ((c.2.2.1.1,c.2.2.1.2.1)))) (RE.pR (dec c.2.2.2.2.2)) (RE.pR (dec c.2.2.2.2.1)))≥0)with|true=>(og (decide (ok (Rat×Rat) 400 (hid ((c.2.2.1.1,c.2.2.1.2.1)))∧okP 580 c.2.2.2.2.2∧okP 580 p)) (match decide ((RE.turS (dec (hid ((c.2.2.1.1,c.2.2.1.2.1)))) (RE.pR (dec c.2.2.2.2.2)) (RE.pR (dec p)))≥0)with|true=>(og (decide (ok (Rat×Rat) 400 (hid ((c.2.2.1.1,c.2.2.1.2.1)))∧okP 580 p∧okP 580 c.2.2.2.2.1)) (some [RV.d .bool (decide ((RE.turS (dec (hid ((c.2.2.1.1,c.2.2.1.2.1)))) (RE.pR (dec p)) (RE.pR (dec c.2.2.2.2.1)))≥0))]))|false=>some [RV.d .bool false]))|false=>(og (decide (ok (Rat×Rat) 400 (hid ((c.2.2.1.1,c.2.2.1.2.1)))∧okP 580 c.2.2.2.2.1∧okP 580 p)) (match decide ((RE.turS (dec (hid ((c.2.2.1.1,c.2.2.1.2.1)))) (RE.pR (dec c.2.2.2.2.1)) (RE.pR (dec p)))≤0)with|true=>some [RV.d .bool true]|false=>(og (decide (ok (Rat×Rat) 400 (hid ((c.2.2.1.1,c.2.2.1.2.1)))∧okP 580 p∧okP 580 c.2.2.2.2.2)) (some [RV.d .bool (decide ((RE.turS (dec (hid ((c.2.2.1.1,c.2.2.1.2.1)))) (RE.pR (dec p)) (RE.pR (dec c.2.2.2.2.2)))≤0))]))))))|false=>(og (decide (ok (Rat×Rat) 400 (hid ((c.2.2.1.1,c.2.2.1.2.1)))∧okP 580 c.2.2.2.2.1∧okP 580 c.2.2.2.2.2)) (match decide ((RE.turS (dec (hid ((c.2.2.1.1,c.2.2.1.2.1)))) (RE.pR (dec c.2.2.2.2.1)) (RE.pR (dec c.2.2.2.2.2)))≥0)with|true=>(og (decide (ok (Rat×Rat) 400 (hid ((c.2.2.1.1,c.2.2.1.2.1)))∧okP 580 c.2.2.2.2.1∧okP 580 p)) (match decide ((RE.turS (dec (hid ((c.2.2.1.1,c.2.2.1.2.1)))) (RE.pR (dec c.2.2.2.2.1)) (RE.pR (dec p)))≥0)with|true=>(og (decide (ok (Rat×Rat) 400 (hid ((c.2.2.1.1,c.2.2.1.2.1)))∧okP 580 p∧okP 580 c.2.2.2.2.2)) (some [RV.d .bool (decide ((RE.turS (dec (hid ((c.2.2.1.1,c.2.2.1.2.1)))) (RE.pR (dec p)) (RE.pR (dec c.2.2.2.2.2)))≥0))]))|false=>some [RV.d .bool false]))|false=>(og (decide (ok (Rat×Rat) 400 (hid ((c.2.2.1.1,c.2.2.1.2.1)))∧okP 580 c.2.2.2.2.2∧okP 580 p)) (match decide ((RE.turS (dec (hid ((c.2.2.1.1,c.2.2.1.2.1)))) (RE.pR (dec c.2.2.2.2.2)) (RE.pR (dec p)))≤0)with|true=>some [RV.d .bool true]|false=>(og (decide (ok (Rat×Rat) 400 (hid ((c.2.2.1.1,c.2.2.1.2.1)))∧okP 580 p∧okP 580 c.2.2.2.2.1)) (some [RV.d .bool (decide ((RE.turS (dec (hid ((c.2.2.1.1,c.2.2.1.2.1)))) (RE.pR (dec p)) (RE.pR (dec c.2.2.2.2.1)))≤0))]))))))
def afK:Cn 104 [tCU,tP]:=cn fun(c:BCU) (p:BP)=>lf (vF c.2.2.1∧okP 580 c.2.2.2.2.1∧okP 580 c.2.2.2.2.2∧okP 580 p) [.d .bool (RE.witE (dC c) (RE.pR (dec p)))] fun h=>by
 refine aA F9 (Y7 c p) ⟨0,?_⟩
 obtain⟨⟨hc,_⟩,hf,ht,hp⟩:=h
 obtain⟨p,rfl,bp,rp⟩:=bR hp
 obtain⟨ar,li,ci,cw,fr,to⟩:=c
 simp only at hc hf ht
 obtain⟨ci,rfl,bc⟩:=aG hc
 obtain⟨fr,rfl,bf,rf⟩:=bR hf
 obtain⟨to,rfl,bt,rt⟩:=bR ht
 have e0:((am ci.1,am ci.2.1):BV)=enc (ctr ci):=rfl
 unfold Y7
 rw[RE.wit_eq]
 simp only[aU,Nat.reduceLeDiff,aN,e0]
 cases cw
 ·simp only[aU,dC,ciC,ccF,ccT,cwC,frC,toC]
  rw[RE.turS_anti (ctr ci) (RE.pR to) (RE.pR p),RE.turS_anti (ctr ci) (RE.pR p) (RE.pR fr)]
  exact RE.wit_go _ _ _
 ·simp only[aU,dC,ciC,ccF,ccT,cwC,frC,toC]
  rw[RE.turS_anti (ctr ci) (RE.pR fr) (RE.pR p),RE.turS_anti (ctr ci) (RE.pR p) (RE.pR to)]
  exact RE.wit_go _ _ _
def NL:List En:=enT agy::enT afK::F9
def acZ:NT:=[((43,21),{keep:=[25],hl:=0}),((43,49),{keep:=[107],hl:=0})]
def aeO:Ctx:=CX (ens NL) acZ
def Wx(c:BCU)(p:BP)(r:BR)(_k:KT):Option (List RV):=let y1:=RE.pR (dec c.2.2.2.2.2);let y2:=RE.pR (dec c.2.2.2.2.1);let y3:Option (List RV):=match decide (okP 580 c.2.2.2.2.1∧okP 580 p∧ok Rat 1000 r)with|true=>(match decide (okP 580 c.2.2.2.2.2∧okP 580 p∧ok Rat 1000 r)with|true=>some [RV.d aoi (if RE.apaS y1 (RE.pR (dec p)) (ah r)<RE.apaS y2 (RE.pR (dec p)) (ah r)then RE.apaS y1 (RE.pR (dec p)) (ah r)else RE.apaS y2 (RE.pR (dec p)) (ah r))]|false=>none)|false=>none;let y4:=hMu c.2.1.2.1 p.2.2.1;let y5:=hAd (hMu c.2.1.1 p.1) y4;let y6:=hMu c.2.1.2.1 p.2.2.2.1;let y7:=hSu y5 c.2.1.2.2;let y8:=hAd (hMu c.2.1.1 p.2.1) y6;let y9:=hMu p.2.2.2.2 (hMu y8 y8);let y10:=hid (am ((2:Int):Rat));let y11:=hAd (hMu y7 y7) y9;let y12:=hMu y10 (hMu y7 y8);let y13:=hMu c.2.1.1 c.2.1.1;let y14:=hMu c.2.1.2.1 c.2.1.2.1;let y15:=hid (enc (mkR (ah y11) (ah y12) (ah p.2.2.2.2)));let y16:=hMu (hMu r r) (hAd y13 y14);let y17:=hid ((c.2.2.1.1,c.2.2.1.2.1));let y18:=hid (enc (sqP (dec p) (dec y17)));match decide (okR r)with|true=>(match decide ((aD (ah r) 0)<0)with|true=>some [RV.d aoi 1]|false=>(match !c.1 with|true=>(match decide (okC 3000 c∧okP 3000 p∧c.1=false)with|true=>(match !(rG (dC c) (dec p))with|true=>y3|false=>(match decide (okR c.2.1.1∧okR p.1)with|true=>(match decide (okR c.2.1.2.1∧okR p.2.2.1)with|true=>(match decide (okR (hMu c.2.1.1 p.1)∧okR y4)with|true=>(match decide (okR y5∧okR c.2.1.2.2)with|true=>(match decide (okR c.2.1.1∧okR p.2.1)with|true=>(match decide (okR c.2.1.2.1∧okR p.2.2.2.1)with|true=>(match decide (okR (hMu c.2.1.1 p.2.1)∧okR y6)with|true=>(match decide (okR y7∧okR y7)with|true=>(match decide (okR y8∧okR y8)with|true=>(match decide (okR p.2.2.2.2∧okR (hMu y8 y8))with|true=>(match decide (okR (hMu y7 y7)∧okR y9)with|true=>(match decide (aH (2:Int))with|true=>(match decide (okR y7∧okR y8)with|true=>(match decide (okR y10∧okR (hMu y7 y8))with|true=>(match decide (ok Rat 100000 y11∧ok Rat 100000 y12∧ok Rat 100000 p.2.2.2.2∧0≤ah p.2.2.2.2)with|true=>(match decide (okR r∧okR r)with|true=>(match decide (okR c.2.1.1∧okR c.2.1.1)with|true=>(match decide (okR c.2.1.2.1∧okR c.2.1.2.1)with|true=>(match decide (okR y13∧okR y14)with|true=>(match decide (okR (hMu r r)∧okR (hAd y13 y14))with|true=>(match decide (okT 15000 y15∧ok Rat 15000 y16)with|true=>some [RV.d aoi (fH (dec y15) (ah y16))]|false=>none)|false=>none)|false=>none)|false=>none)|false=>none)|false=>none)|false=>none)|false=>none)|false=>none)|false=>none)|false=>none)|false=>none)|false=>none)|false=>none)|false=>none)|false=>none)|false=>none)|false=>none)|false=>none)|false=>none)|false=>none))|false=>none)|false=>(match decide (okP 3500 p∧ok (Rat×Rat) 300 y17)with|true=>(match decide (okT 15000 y18)with|true=>(match(sgR (dec y18))==0 with|true=>(match decide (okR r∧okR r)with|true=>(match decide (okR c.2.2.1.2.2∧okR (hMu r r))with|true=>some [RV.d aoi (aD (ah c.2.2.1.2.2) (ah (hMu r r)))]|false=>none)|false=>none)|false=>(match decide (vF c.2.2.1∧okP 580 c.2.2.2.2.1∧okP 580 c.2.2.2.2.2∧okP 580 p)with|true=>(match !(RE.witE (dC c) (RE.pR (dec p)))with|true=>y3|false=>(match decide (okT 15000 y18∧ok Rat 1000 c.2.2.1.2.2∧ok Rat 1000 r∧0≤ah c.2.2.1.2.2)with|true=>some [RV.d aoi (RE.rngS (RE.vR (dec y18)) (ah c.2.2.1.2.2) (ah r))]|false=>none))|false=>none))|false=>none)|false=>none)))|false=>none
theorem aez(c:BCU)(p:BP)(r:BR):RS aeO 43 [.d tCU c,.d tP p,.d tR r] (Wx c p r):=rsX
open Classical in
def aeg:Cn 43 [tCU,tP,tR]:=cn fun(c:BCU) (p:BP) (r:BR)=>lf (okC 580 c∧okP 580 p∧ok Rat 1000 r) [.d aoi (RE.poiE (dC c) (RE.pR (dec p)) (ah r))] fun h=>by
 refine c8 NL (aez _ _ _ ⟨0,?_⟩)
 obtain⟨hc,hp,hr⟩:=h
 have hp1:=cJ (k:=580) hp (by decide) (by decide)
 have hp6:=cJ (k:=580) hp (by decide) (by decide)
 have hp3:=cJ (k:=3000) hp (by decide) (by decide)
 have hc3:=ce (k:=3000) hc (by decide) (by decide)
 obtain⟨p,rfl,bp,rp⟩:=bR hp
 obtain⟨r,rfl,br⟩:=aG hr
 obtain⟨ar,li,ci,cw,fr,to⟩:=c
 have h3:=hc.2.2.1
 have h4:=hc.2.2.2
 simp only at h3 h4
 obtain⟨fr,rfl,bf,rf⟩:=bR h3
 obtain⟨to,rfl,bt,rt⟩:=bR h4
 have o1:decide (okP 580 (enc fr)∧okP 580 (enc p)∧ok Rat 1000 (am r))=true:=akY ⟨h3,hp1,hr⟩
 have o2:decide (okP 580 (enc to)∧okP 580 (enc p)∧ok Rat 1000 (am r))=true:=akY ⟨h4,hp1,hr⟩
 have b2:Bd ((2:Int):Rat) 3:=cV (n:=2) (by decide)
 have i2:decide (aH 2)=true:=by decide
 have hn:0≤p.2.2.2.2:=rp.nn
 rw[eT,cA,az]
 unfold Wx RE.poiE
 cases ar
 ·obtain⟨c2,c3⟩:=hc.2.1 rfl
  simp only at c2 c3
  obtain⟨li,rfl,bl⟩:=aG c2
  have o3:decide (okC 3000 (false,enc li,ci,cw,enc fr,enc to)∧okP 3000 (enc p)∧(false,enc li,ci,cw,enc fr,enc to).1=false)=true:=akY ⟨hc3,hp3,rfl⟩
  have hb:RE.besE (false,li,dec ci,cw,fr,to) (RE.pR p)=rG (false,li,dec ci,cw,fr,to) p:=RE.bes_E (c:=(false,li,dec ci,cw,fr,to)) (hf:=rf) (ht:=rt)
  have q2:fH (mkR (qK li p*qK li p+p.2.2.2.2*(qE li p*qE li p)) (2*(qK li p*qE li p)) p.2.2.2.2) (r*r*(li.1*li.1+li.2.1*li.2.1))=RE.sg (RE.exE li (RE.pR p)*RE.exE li (RE.pR p)-RE.of (r*r*(li.1*li.1+li.2.1*li.2.1))):=by
   rw[RE.cmpTR_re (sS (h:=⟨hn⟩)).nn,RE.vR_lin]
  have bA:Bd (qK li p) 2070:=(inferInstance:Bd (li.1*p.1+li.2.1*p.2.2.1-li.2.2) _).mono (by decide)
  have bB:Bd (qE li p) 2070:=(inferInstance:Bd (li.1*p.2.1+li.2.1*p.2.2.2.1) _).mono (by decide)
  have eA:li.1*p.1+li.2.1*p.2.2.1-li.2.2=qK li p:=rfl
  have eB:li.1*p.2.1+li.2.1*p.2.2.2.1=qE li p:=rfl
  have e2:((2:Int):Rat)=2:=rfl
  have b2':Bd (2:Rat) 3:=b2
  have nC:Nn p.2.2.2.2:=⟨hn⟩
  dsimp only
  simp only[aU,Nat.reduceAdd,Nat.reduceLeDiff,aM,aN,au,o1,o2,akY hc3,i2,dT hn,RE.min_if,Bool.not_false,dC,lnC,eA,eB,e2,q2,hb]
  cases decide (r<0)
  ·cases rG (false,li,dec ci,cw,fr,to) p<;>rfl
  ·rfl
 ·obtain⟨c1,hq⟩:=hc.1 rfl
  have hci:vF ci:=⟨c1,hq⟩
  simp only at c1 hq
  obtain⟨ci,rfl,bc⟩:=aG c1
  rw[az]at hq
  have e0:((am ci.1,am ci.2.1):BV)=enc (ctr ci):=rfl
  have o3:decide (vF (enc ci)∧okP 580 (enc fr)∧okP 580 (enc to)∧okP 580 (enc p))=true:=akY ⟨hci,h3,h4,hp6⟩
  have z:(sgR (sqP p (ctr ci))==0)=decide (RE.pR p=RE.vE (ctr ci)):=by
   rw[ang,al7]
   exact RE.sq_zr
  have vs:RE.vR (sqP p (ctr ci))=RE.dsE (RE.pR p) (RE.vE (ctr ci)):=RE.vR_sq _
  dsimp only
  simp only[aU,Nat.reduceAdd,Nat.reduceMul,Nat.reduceLeDiff,aM,aN,au,e0,o1,o2,o3,RE.min_if,Bool.not_true,dC,ciC,z,vs,dT (show 0≤ci.2.2 by grind)]
  cases decide (r<0)
  ·cases decide (RE.pR p=RE.vE (ctr ci))
   ·cases RE.witE (true,dec li,ci,cw,fr,to) (RE.pR p)<;>rfl
   ·rfl
  ·rfl
end
theorem lk(q:Rat):(aD q 0== -1)=decide (q<0):=by
 unfold aD
 by_cases h:q<0
 ·rw[akY h];rfl
 ·rw[ak0 h]
  by_cases h':0<q
  ·rw[akY h'];rfl
  ·rw[ak0 h'];rfl
def rP:List En:=[⟨41,fM,dX⟩,⟨99,iA,fe⟩,⟨107,iR,fx⟩,⟨106,iD,ff⟩,⟨108,gU,eO⟩,⟨73,l6,iy⟩,⟨109,kX,gJ⟩,⟨305,wF,tk⟩,enL X1,enL XY,enL HQ,enL We,enL YC,enL YY,enL Ml]
def afH:Cn 326 [tR,tR]:=cn fun(a b:BR)=>lf (okR a∧okR b) [.d tR (am (ah a+ah b))] fun h=>jP [RV.d tR (hAd a b)] (dA rP) h
def afw:Cn 279 [tR,tR]:=cn fun(a b:BR)=>lf (okR a∧okR b) [.d tR (am (ah a-ah b))] fun h=>jP [RV.d tR (hSu a b)] (dA rP) h
def afm:Cn 280 [tR,tR]:=cn fun(a b:BR)=>lf (okR a∧okR b) [.d tR (am (ah a*ah b))] fun h=>jP [RV.d tR (hMu a b)] (dA rP) h
def agO:Cn 281 [tR,tR]:=cn fun(a b:BR)=>lf (ir a b) [.d tR (am (ah a/ah b))] fun h=>jP [RV.d tR (hDi a b)] (dA rP) h
def Zq(a b:BR)(_k:KT):Option (List RV):=match decide (okR a∧okR b)with|true=>some [RV.d .bool ((aD (ah a) (ah b))==0)]|false=>none
def ah6:Cn 274 [tR,tR]:=cn fun(a b:BR)=>lf (okR a∧okR b) [.d .bool (decide (ah a=ah b))] fun h=>by
 refine aA rP (Zq a b) ⟨0,?_⟩
 unfold Zq
 rw[dT h]
 simp only[aq]
def Wl(x u y v k:BR)(_k:KT):Option (List RV):=og (decide (ok Rat 100000 x∧ok Rat 100000 u∧ok Rat 100000 k∧0≤ah k)) (og (decide (ok Rat 100000 y∧ok Rat 100000 v∧ok Rat 100000 k∧0≤ah k)) (og (decide (okT 15000 (hid (enc (mkR (ah x) (ah u) (ah k))))∧okT 15000 (hid (enc (mkR (ah y) (ah v) (ah k))))∧vw (dec (hid (enc (mkR (ah x) (ah u) (ah k))))) (dec (hid (enc (mkR (ah y) (ah v) (ah k))))))) (some [RV.d tP (hid (enc (mkP (dec (hid (enc (mkR (ah x) (ah u) (ah k))))) (dec (hid (enc (mkR (ah y) (ah v) (ah k))))))))])))
def ah3:Cn 278 [tR,tR,tR,tR,tR]:=cn fun(x u y v k:BR)=>lf (ok Rat 1000 x∧ok Rat 1000 u∧ok Rat 1000 y∧ok Rat 1000 v∧ok Rat 1000 k∧0≤ah k) [.d tP (enc (vH (ah x) (ah u) (ah y) (ah v) (ah k)))] fun h=>by
 refine aA rP (Wl x u y v k) ⟨0,?_⟩
 obtain⟨hx,hu,hy,hv,hk,h0⟩:=h
 obtain⟨x,rfl,bx⟩:=aG hx
 obtain⟨u,rfl,bu⟩:=aG hu
 obtain⟨y,rfl,b_y⟩:=aG hy
 obtain⟨v,rfl,bv⟩:=aG hv
 obtain⟨k,rfl,bk⟩:=aG hk
 have h0:0≤(dec (enc k):Rat):=h0
 rw[az]at h0
 have nk:Nn k:=⟨h0⟩
 have n0:decide (0≤k)=true:=akY nk.le
 have hm:decide (vw (mkR x u k) (mkR y v k))=true:=akY (qt _ _ _ _ _)
 unfold Wl vH
 simp only[aU,Nat.reduceAdd,Nat.reduceLeDiff,aM,n0,hm]
 try rfl
def ux:List En:=enL afH::enL afw::enL afm::enL agO::enT ah6::enL ah3::rP
def Yk(l m:BO3)(_k:KT):Option (List RV):=og (o2 l.1 m.2.1) (og (o2 m.1 l.2.1) (og (o2 (hMu l.1 m.2.1) (hMu m.1 l.2.1)) (match decide (ah (hMu l.1 m.2.1)=ah (hMu m.1 l.2.1))with|true=>(og (o2 l.1 m.2.2) (og (o2 m.1 l.2.2) (og (o2 (hMu l.1 m.2.2) (hMu m.1 l.2.2)) (match decide (ah (hMu l.1 m.2.2)=ah (hMu m.1 l.2.2))with|true=>(og (o2 l.2.1 m.2.2) (og (o2 m.2.1 l.2.2) (og (o2 (hMu l.2.1 m.2.2) (hMu m.2.1 l.2.2)) (some [RV.d .bool (decide (ah (hMu l.2.1 m.2.2)=ah (hMu m.2.1 l.2.2)))]))))|false=>some [RV.d .bool false]))))|false=>some [RV.d .bool false])))
def aeu:Cn 184 [tO,tO]:=cn fun(l m:BO3)=>lf (cL l∧cL m) [.d .bool (oh (dec l) (dec m))] fun h=>by
 refine aA ux (Yk l m) ⟨0,?_⟩
 obtain⟨hl,hm⟩:=h
 obtain⟨l,rfl,bl,nl⟩:=eG hl
 obtain⟨m,rfl,bm,nm⟩:=eG hm
 unfold Yk oh
 have c1:l.2.1*m.1=m.1*l.2.1:=amO _ _
 have c2:l.2.2*m.1=m.1*l.2.2:=amO _ _
 have c3:l.2.2*m.2.1=m.2.1*l.2.2:=amO _ _
 simp only[aU,Nat.reduceAdd,Nat.reduceLeDiff,c1,c2,c3]
 cases decide (l.1*m.2.1=m.1*l.2.1)<;>cases decide (l.1*m.2.2=m.1*l.2.2)<;>rfl
def YO(c d:BO3)(_k:KT):Option (List RV):=og (o2 c.1 d.1) (match decide (ah c.1=ah d.1)with|true=>(og (o2 c.2.1 d.2.1) (match decide (ah c.2.1=ah d.2.1)with|true=>(og (o2 c.2.2 d.2.2) (some [RV.d .bool (decide (ah c.2.2=ah d.2.2))]))|false=>some [RV.d .bool false]))|false=>some [RV.d .bool false])
def aiv:Cn 183 [tO,tO]:=cn fun(c d:BO3)=>lf (cf c∧cf d) [.d .bool (oZ (dec c) (dec d))] fun h=>by
 refine aA ux (YO c d) ⟨0,?_⟩
 obtain⟨hc,hd⟩:=h
 obtain⟨c,rfl,bc,nc⟩:=cK hc
 obtain⟨d,rfl,bd,nd⟩:=cK hd
 unfold YO oZ
 simp only[aU,Nat.reduceLeDiff]
 cases decide (c.1=d.1)<;>cases decide (c.2.1=d.2.1)<;>rfl
def Xg(c d:BO3)(_k:KT):Option (List RV):=og (o2 c.1 d.1) (match(aD (ah c.1) (ah d.1))==0 with|true=>(og (o2 c.2.1 d.2.1) (some [RV.d .bool ((aD (ah c.2.1) (ah d.2.1))==0)]))|false=>some [RV.d .bool false])
def ad7:Cn 275 [tO,tO]:=cn fun(c d:BO3)=>lf (cf c∧cf d) [.d .bool (gQ (dec c) (dec d))] fun h=>by
 refine aA ux (Xg c d) ⟨0,?_⟩
 obtain⟨hc,hd⟩:=h
 obtain⟨c,rfl,bc,nc⟩:=cK hc
 obtain⟨d,rfl,bd,nd⟩:=cK hd
 unfold Xg gQ
 simp only[aU,Nat.reduceLeDiff,aq]
 cases decide (c.1=d.1)<;>rfl
def YP(c:BO3)(_k:KT):Option (List RV):=og (o2 c.1 c.1) (og (o2 c.2.1 c.2.1) (og (o2 (hMu c.1 c.1) (hMu c.2.1 c.2.1)) (og (o2 (hAd (hMu c.1 c.1) (hMu c.2.1 c.2.1)) c.2.2) (some [RV.d tR (hSu (hAd (hMu c.1 c.1) (hMu c.2.1 c.2.1)) c.2.2)]))))
def afs:Cn 325 [tO]:=cn fun(c:BO3)=>lf (cf c) [.d tR (am (qI (dec c)))] fun h=>by
 refine aA ux (YP c) ⟨0,?_⟩
 have hc:=h
 obtain⟨c,rfl,bc,nc⟩:=cK hc
 unfold YP qI
 simp only[aU,Nat.reduceAdd,Nat.reduceLeDiff]
def Wy(l c:BO3)(_k:KT):Option (List RV):=let y1:=hid (enc (d8 (dec l) (dec (c.1,c.2.1))));let y2:=hSu (y1.2) c.2.1;let y3:=hMu (hSu (y1.1) c.1) (hSu (y1.1) c.1);let y4:=hAd y3 (hMu y2 y2);let y5:=hAd (hMu l.1 l.1) (hMu l.2.1 l.2.1);let y6:=ir (hSu c.2.2 y4) y5;let y7:=hDi (hSu c.2.2 y4) y5;let y8:Option (List RV):=match decide y6 with|true=>some [RV.d tR y7,RV.d tV y1]|false=>none;let y9:Option (List RV):=match decide (okR (hMu l.1 l.1)∧okR (hMu l.2.1 l.2.1))with|true=>y8|false=>none;let y10:Option (List RV):=match decide (okR l.2.1∧okR l.2.1)with|true=>y9|false=>none;og (decide (ok Ln 300 l∧ok (Rat×Rat) 200 (c.1,c.2.1)∧((dec l:Ln).1≠0∨(dec l:Ln).2.1≠0))) (og (o2 (y1.1) c.1) (og (o2 (y1.2) c.2.1) (og (o2 (hSu (y1.1) c.1) (hSu (y1.1) c.1)) (og (o2 y2 y2) (og (o2 y3 (hMu y2 y2)) (og (o2 c.2.2 y4) (cr (og (o2 l.1 l.1) (cr (og (o2 l.2.1 l.2.1) (cr (og (o2 (hMu l.1 l.1) (hMu l.2.1 l.2.1)) (cr (og (decide y6) (dup (.b .l .l) (some [RV.d tR y7,RV.d tV y1]))) y8)) y9)) y10)) (og (o2 l.1 l.1) y10))))))))
def aeL:Cn 277 [tO,tO]:=cn fun(l c:BO3)=>lf (cL l∧cf c) [.d tR (am (em (dec l) (dec c))),.d tV (enc (ftL (dec l) (dec c)))] fun h=>by
 refine aA ux (Wy l c) ⟨0,?_⟩
 obtain⟨hl,hc⟩:=h
 obtain⟨l,rfl,bl,nl⟩:=eG hl
 obtain⟨c,rfl,bc,nc⟩:=cK hc
 have ol:=akY (l8 (l:=l) nl)
 have bl:Bd l 63:=aac
 have bv:Bd ((c.1,c.2.1):Rat×Rat) 4:=inferInstance
 have hn:=nw nl
 have bn:Bd (cj l) 49:=inferInstanceAs (Bd (l.1*l.1+l.2.1*l.2.1) _)
 have bf:=Fr (l:=l) (c:=c)
 have b1:Bd (ftL l c).1 163:=inferInstance
 have b2:Bd (ftL l c).2 163:=inferInstance
 have e1:l.1*l.1+l.2.1*l.2.1=cj l:=rfl
 unfold Wy em xY
 simp only[aU,Nat.reduceAdd,Nat.reduceLeDiff,Kl,nl,UC,e1,hn,ne_eq,amv]
 try rfl
def yz:List En:=enT aeu::enT aiv::enT ad7::enL afs::enL aeL::ux
def Wd(l m:BO3)(_k:KT):Option (List RV):=og (o2 l.1 m.2.1) (og (o2 m.1 l.2.1) (og (o2 (hMu l.1 m.2.1) (hMu m.1 l.2.1)) (og (o1 (hSu (hMu l.1 m.2.1) (hMu m.1 l.2.1))) (match(aD (ah (hSu (hMu l.1 m.2.1) (hMu m.1 l.2.1))) 0)==0 with|true=>(og (decide (cL l∧cL m)) (match oh (dec l) (dec m)with|true=>some [RV.d (.sl tP) ([]),RV.d aoi 10]|false=>some [RV.d (.sl tP) ([]),RV.d aoi 0]))|false=>(og (o2 l.2.2 m.2.1) (og (o2 m.2.2 l.2.1) (og (o2 (hMu l.2.2 m.2.1) (hMu m.2.2 l.2.1)) (og (decide (ir (hSu (hMu l.2.2 m.2.1) (hMu m.2.2 l.2.1)) (hSu (hMu l.1 m.2.1) (hMu m.1 l.2.1)))) (og (o2 l.1 m.2.2) (og (o2 m.1 l.2.2) (og (o2 (hMu l.1 m.2.2) (hMu m.1 l.2.2)) (og (decide (ir (hSu (hMu l.1 m.2.2) (hMu m.1 l.2.2)) (hSu (hMu l.1 m.2.1) (hMu m.1 l.2.1)))) (og (decide (ok (Rat×Rat) 100000 (hDi (hSu (hMu l.2.2 m.2.1) (hMu m.2.2 l.2.1)) (hSu (hMu l.1 m.2.1) (hMu m.1 l.2.1)),hDi (hSu (hMu l.1 m.2.2) (hMu m.1 l.2.2)) (hSu (hMu l.1 m.2.1) (hMu m.1 l.2.1))))) (some [RV.d (.sl tP) ([hid (enc (atP (dec (hDi (hSu (hMu l.2.2 m.2.1) (hMu m.2.2 l.2.1)) (hSu (hMu l.1 m.2.1) (hMu m.1 l.2.1)),hDi (hSu (hMu l.1 m.2.2) (hMu m.1 l.2.2)) (hSu (hMu l.1 m.2.1) (hMu m.1 l.2.1))))))]),RV.d aoi 0]))))))))))))))
def afa:Cn 187 [tO,tO]:=cn fun(l m:BO3)=>lf (cL l∧cL m) [.d (.sl tP) ((lc (dec l) (dec m)).map enc),.d aoi (Sc (dec l) (dec m))] fun h=>by
 refine aA yz (Wd l m) ⟨0,?_⟩
 obtain⟨hl,hm⟩:=h
 obtain⟨l,rfl,bl,nl⟩:=eG hl
 obtain⟨m,rfl,bm,nm⟩:=eG hm
 have ol:=akY (l8 (l:=l) nl)
 have om:=akY (l8 (l:=m) nm)
 have bc:Bd (dt l m) 49:=inferInstanceAs (Bd (l.1*m.2.1-m.1*l.2.1) _)
 have e0:l.1*m.2.1-m.1*l.2.1=dt l m:=rfl
 have e1:l.2.2*m.2.1-m.2.2*l.2.1=ld l m:=rfl
 have e2:l.1*m.2.2-m.1*l.2.2=k9 l m:=rfl
 have bx:Bd (ld l m) 151:=inferInstanceAs (Bd (l.2.2*m.2.1-m.2.2*l.2.1) _)
 have b_:Bd (k9 l m) 151:=inferInstanceAs (Bd (l.1*m.2.2-m.1*l.2.2) _)
 unfold Wd lc Sc
 simp only[aU,Nat.reduceAdd,Nat.reduceLeDiff,aq,ol,om,e0,e1,e2]
 by_cases h0:dt l m=0
 ·simp only[akY h0,Bool.not_true]
  cases oh l m<;>rfl
 ·simp only[aU,Nat.reduceAdd,Nat.reduceLeDiff,h0,ne_eq,amv,Bool.not_false,Kl]
  rfl
def X8(c d:BO3)(_k:KT):Option (List RV):=og (decide (cf c∧cf d)) (match gQ (dec c) (dec d)with|true=>some [RV.d tO (((false,[]),(false,[])),(((false,[]),(false,[])),((false,[]),(false,[])))),RV.d aoi 6]|false=>(og (decide (aH (2:Int))) (og (o2 d.1 c.1) (og (o2 (hid (am ((2:Int):Rat))) (hSu d.1 c.1)) (og (o2 d.2.1 c.2.1) (og (o2 (hid (am ((2:Int):Rat))) (hSu d.2.1 c.2.1)) (og (decide (cf d)) (og (decide (cf c)) (og (o2 (hid (am (qI (dec d)))) (hid (am (qI (dec c))))) (some [RV.d tO (hMu (hid (am ((2:Int):Rat))) (hSu d.1 c.1),(hMu (hid (am ((2:Int):Rat))) (hSu d.2.1 c.2.1),hSu (hid (am (qI (dec d)))) (hid (am (qI (dec c)))))),RV.d aoi 0]))))))))))
def af6:Cn 276 [tO,tO]:=cn fun(c d:BO3)=>lf (cf c∧cf d) [.d tO (vM (dec c) (dec d)),.d aoi (T6 (dec c) (dec d))] fun h=>by
 refine aA yz (X8 c d) ⟨0,?_⟩
 obtain⟨hc,hd⟩:=h
 obtain⟨c,rfl,bc,nc⟩:=cK hc
 obtain⟨d,rfl,bd,nd⟩:=cK hd
 have oc:=akY (gX (c:=c) nc)
 have od:=akY (gX (c:=d) nd)
 have i2:decide (aH 2)=true:=by decide
 have b2:Bd ((2:Int):Rat) 3:=cV (by decide)
 have f1:Bd (qI c) 31:=(inferInstance:Bd (c.1*c.1+c.2.1*c.2.1-c.2.2) _).mono (by decide)
 have f2:Bd (qI d) 31:=(inferInstance:Bd (d.1*d.1+d.2.1*d.2.1-d.2.2) _).mono (by decide)
 unfold X8 vM T6
 simp only[aU,Nat.reduceAdd,Nat.reduceLeDiff,oc,od,i2]
 cases gQ c d
 ·rfl
 ·rfl
def aii:Ctx:=CX (ens yz) []
def YB(l c:BO3)(_k:KT):Option (List RV):=let y1:=hid (am (em (dec l) (dec c)));let y2:=hid (enc (ftL (dec l) (dec c)));let y3:=aD (ah l.2.1) 0;let y4:=hNe (hNe (hNe l.1));let y5:=enc (vH (ah (y2.1)) (ah (hNe l.2.1)) (ah (y2.2)) (ah (hNe (hNe l.1))) (ah y1));let y6:Option (List RV):=match decide (okR l.2.1)with|true=>(og (o1 (hNe l.1)) (og (o1 (hNe l.2.1)) (og (o1 (hNe (hNe l.1))) (og (decide (ok Rat 1000 (y2.1)∧ok Rat 1000 (hNe (hNe l.2.1))∧ok Rat 1000 (y2.2)∧ok Rat 1000 y4∧ok Rat 1000 y1∧0≤ah y1)) (og (decide (ok Rat 1000 (y2.1)∧ok Rat 1000 (hNe l.2.1)∧ok Rat 1000 (y2.2)∧ok Rat 1000 (hNe (hNe l.1))∧ok Rat 1000 y1∧0≤ah y1)) (some [RV.new 37 tP ([hid (enc (vH (ah (y2.1)) (ah (hNe (hNe l.2.1))) (ah (y2.2)) (ah y4) (ah y1))),hid y5])]))))))|false=>none;let y7:Option (List RV):=match decide (okR l.2.1)with|true=>(og (o1 (hNe l.1)) (og (decide (ok Rat 1000 (y2.1)∧ok Rat 1000 (hNe l.2.1)∧ok Rat 1000 (y2.2)∧ok Rat 1000 (hNe (hNe l.1))∧ok Rat 1000 y1∧0≤ah y1)) (og (decide (ok Rat 1000 (y2.1)∧ok Rat 1000 l.2.1∧ok Rat 1000 (y2.2)∧ok Rat 1000 (hNe l.1)∧ok Rat 1000 y1∧0≤ah y1)) (some [RV.new 37 tP ([hid y5,hid (enc (vH (ah (y2.1)) (ah l.2.1) (ah (y2.2)) (ah (hNe l.1)) (ah y1)))])]))))|false=>none;og (decide (cL l∧cf c)) (og (o1 y1) (match(aD (ah y1) 0)==(-1)with|true=>some [RV.new 37 tP []]|false=>(match(aD (ah y1) 0)==0 with|true=>(og (decide (ok (Rat×Rat) 100000 y2)) (some [RV.new 37 tP ([hid (enc (atP (dec y2)))])]))|false=>(og (o1 l.1) (og (o1 l.2.1) (match decide (y3<0)with|true=>y6|false=>(match y3==0 with|true=>(og (o1 (hNe l.1)) (match decide ((aD (ah (hNe l.1)) 0)<0)with|true=>y6|false=>y7))|false=>y7)))))))
theorem ae4(l c:BO3):RS aii 186 [.d tO l,.d tO c] (YB l c):=rsX
def ahc:Cn 186 [tO,tO]:=cn fun(l c:BO3)=>lf (cL l∧cf c) [.d (.sl tP) ((kA (dec l) (dec c)).map enc)] fun h=>by
 refine Con.new_d (et:=37) (c8 yz (ae4 _ _ ⟨0,?_⟩))
 obtain⟨hl,hc⟩:=h
 obtain⟨l,rfl,bl,nl⟩:=eG hl
 obtain⟨c,rfl,bc,nc⟩:=cK hc
 have ol:=akY (l8 (l:=l) nl)
 have oc:=akY (gX (c:=c) nc)
 have bf:=Fr (l:=l) (c:=c)
 have bk:=K8 (l:=l) (c:=c)
 have b1:Bd (ftL l c).1 163:=inferInstance
 have b2:Bd (ftL l c).2 163:=inferInstance
 unfold YB kA
 simp only[aU,Nat.reduceLeDiff,aq,au,lk,ol,oc]
 by_cases h0:em l c<0
 ·simp only[akY h0]
  rfl
 ·simp only[ak0 h0]
  by_cases h1:em l c=0
  ·simp only[akY h1]
   rfl
  ·have hp:decide (0≤em l c)=true:=akY (by grind)
   simp only[ak0 h1,hp,aU]
   unfold lcM lcN qD qG FI
   cases decide (l.2.1<0)<;>cases decide (l.2.1=0)<;>cases decide (-l.1<0)<;>rfl
def Sm:List En:=enL afa::enL af6::enL ahc::yz
def XH(c d:BO3)(_k:KT):Option (List RV):=og (decide (cf c∧cf d)) (match oZ (dec c) (dec d)with|true=>some [RV.d (.sl tP) ([]),RV.d aoi 10]|false=>(og (decide (cf c∧cf d)) (match gQ (dec c) (dec d)with|true=>some [RV.d (.sl tP) ([]),RV.d aoi 0]|false=>(og (decide (cf c∧cf d)) (og (decide (cL (hid (vM (dec c) (dec d)))∧cf c)) (some [RV.d (.sl tP) ((kA (dec (hid (vM (dec c) (dec d)))) (dec c)).map enc),RV.d aoi 0]))))))
def afD:Cn 185 [tO,tO]:=cn fun(c d:BO3)=>lf (cf c∧cf d) [.d (.sl tP) ((oK (dec c) (dec d)).map enc),.d aoi (UJ (dec c) (dec d))] fun h=>by
 refine aA Sm (XH c d) ⟨0,?_⟩
 obtain⟨hc,hd⟩:=h
 obtain⟨c,rfl,bc,nc⟩:=cK hc
 obtain⟨d,rfl,bd,nd⟩:=cK hd
 have oc:=akY (gX (c:=c) nc)
 have od:=akY (gX (c:=d) nd)
 unfold XH oK UJ
 simp only[aU,oc,od]
 cases hs:oZ c d
 ·cases hc:gQ c d
  ·have ol:cL (enc (mS c d)):=Qk hc
   have er:vM c d=enc (mS c d):=by unfold vM;rw[hc];rfl
   simp only[er,dT ol,aU]
   try rfl
  ·rfl
 ·have hc:gQ c d=true:=by
   unfold oZ at hs
   unfold gQ
   cases h1:decide (c.1=d.1)
   ·rw[h1]at hs;cases hs
   ·cases h2:decide (c.2.1=d.2.1)
    ·rw[h1,h2]at hs;cases hs
    ·rfl
  rw[hc]
  rfl
def MJ:List En:=enL afD::Sm
def W2(a b:BCU)(_k:KT):Option (List RV):=match a.1 with|true=>(match b.1 with|true=>(og (decide (cf a.2.2.1∧cf b.2.2.1)) (some [RV.d (.sl tP) ((oK (dec a.2.2.1) (dec b.2.2.1)).map enc),RV.d aoi (UJ (dec a.2.2.1) (dec b.2.2.1))]))|false=>(match a.1 with|true=>(og (decide (cL b.2.1∧cf a.2.2.1)) (some [RV.d (.sl tP) ((kA (dec b.2.1) (dec a.2.2.1)).map enc),RV.d aoi 0]))|false=>(match b.1 with|true=>(og (decide (cL a.2.1∧cf b.2.2.1)) (some [RV.d (.sl tP) ((kA (dec a.2.1) (dec b.2.2.1)).map enc),RV.d aoi 0]))|false=>(og (decide (cL a.2.1∧cL b.2.1)) (some [RV.d (.sl tP) ((lc (dec a.2.1) (dec b.2.1)).map enc),RV.d aoi (Sc (dec a.2.1) (dec b.2.1))])))))|false=>(match a.1 with|true=>(og (decide (cL b.2.1∧cf a.2.2.1)) (some [RV.d (.sl tP) ((kA (dec b.2.1) (dec a.2.2.1)).map enc),RV.d aoi 0]))|false=>(match b.1 with|true=>(og (decide (cL a.2.1∧cf b.2.2.1)) (some [RV.d (.sl tP) ((kA (dec a.2.1) (dec b.2.2.1)).map enc),RV.d aoi 0]))|false=>(og (decide (cL a.2.1∧cL b.2.1)) (some [RV.d (.sl tP) ((lc (dec a.2.1) (dec b.2.1)).map enc),RV.d aoi (Sc (dec a.2.1) (dec b.2.1))]))))
def X7:Cn 85 [tCU,tCU]:=cn fun(a b:BCU)=>lf (gW a b) [.d (.sl tP) ((gf (dC a) (dC b)).map enc),.d aoi (agF (dC a) (dC b))] fun h=>by
 refine aA MJ (W2 a b) ⟨0,?_⟩
 obtain⟨⟨a1,a2⟩,b1,b2⟩:=h
 unfold W2 gf agF
 obtain⟨aa,al,ac,aw,af,at_⟩:=a
 obtain⟨ba,bl,bc,bw,bf,bt⟩:=b
 cases aa<;>cases ba
 ·have h1:=a2 rfl
  have h2:=b2 rfl
  simp only[dT (show cL al∧cL bl from⟨h1,h2⟩)]
  rfl
 ·have h1:=a2 rfl
  have h2:=b1 rfl
  simp only[dT (show cL al∧cf bc from⟨h1,h2⟩)]
  rfl
 ·have h1:=a1 rfl
  have h2:=b2 rfl
  simp only[dT (show cL bl∧cf ac from⟨h2,h1⟩)]
  rfl
 ·have h1:=a1 rfl
  have h2:=b1 rfl
  simp only[dT (show cf ac∧cf bc from⟨h1,h2⟩)]
  rfl
def Zj(a b:BCU)(_k:KT):Option (List RV):=match !(a.1==b.1)with|true=>some [RV.d .bool false]|false=>(match a.1 with|true=>(og (decide (cf a.2.2.1∧cf b.2.2.1)) (some [RV.d .bool (oZ (dec a.2.2.1) (dec b.2.2.1))]))|false=>(og (decide (cL a.2.1∧cL b.2.1)) (some [RV.d .bool (oh (dec a.2.1) (dec b.2.1))])))
def YA:Cn 84 [tCU,tCU]:=cn fun(a b:BCU)=>lf (gW a b) [.d .bool (cB (dC a) (dC b))] fun h=>by
 refine aA MJ (Zj a b) ⟨0,?_⟩
 obtain⟨⟨a1,a2⟩,b1,b2⟩:=h
 unfold Zj cB
 obtain⟨aa,al,ac,aw,af,at_⟩:=a
 obtain⟨ba,bl,bc,bw,bf,bt⟩:=b
 cases aa<;>cases ba
 ·have h1:=a2 rfl
  have h2:=b2 rfl
  simp only[dT (show cL al∧cL bl from⟨h1,h2⟩)]
  rfl
 ·rfl
 ·rfl
 ·have h1:=a1 rfl
  have h2:=b1 rfl
  simp only[dT (show cf ac∧cf bc from⟨h1,h2⟩)]
  rfl
theorem U5(f p q:Bool×Rt): -1≤gO a9 f p q∧gO a9 f p q≤1:=by
 have h:∀n,-1≤j9 n∧j9 n≤1:=fun n=>by
  unfold j9
  split<;>(try split)<;>omega
 unfold gO
 cases oA a9 f p==oA a9 f q
 ·exact h _
 ·exact h _
def aiu:List En:=[enT Oi,enT NW]
def Zt(c:BCU)(p q:BP)(_k:KT):Option (List RV):=match !c.1 with|true=>(og (decide (okP 4000 p∧okP 4000 q)) (og (decide (okP 4000 c.2.2.2.2.2∧okP 4000 c.2.2.2.2.1)) (some [RV.d aoi (i64.wrap ((aV (dec p) (dec q))*(aV (dec c.2.2.2.2.2) (dec c.2.2.2.2.1))))])))|false=>(match c.2.2.2.1 with|true=>(og (decide (ok Ln 300 c.2.2.1∧okP 4000 c.2.2.2.2.2∧okP 4000 p∧okP 4000 q)) (some [RV.d aoi (i64.wrap (0-(gO a9 (ptd (dec c.2.2.1) (dec c.2.2.2.2.2)) (ptd (dec c.2.2.1) (dec p)) (ptd (dec c.2.2.1) (dec q)))))]))|false=>(og (decide (ok Ln 300 c.2.2.1∧okP 4000 c.2.2.2.2.1∧okP 4000 p∧okP 4000 q)) (some [RV.d aoi (gO a9 (ptd (dec c.2.2.1) (dec c.2.2.2.2.1)) (ptd (dec c.2.2.1) (dec p)) (ptd (dec c.2.2.1) (dec q)))])))
def ag3:Cn 194 [tCU,tP,tP]:=cn fun(c:BCU) (p q:BP)=>lf (okC 4000 c∧okP 4000 p∧okP 4000 q) [.d aoi (BE (dC c) (dec p) (dec q))] fun h=>by
 refine aA aiu (Zt c p q) ⟨0,?_⟩
 obtain⟨hc,hp,hq⟩:=h
 obtain⟨ar,li,ci,cw,fr,to⟩:=c
 have h3:=hc.2.2.1
 have h4:=hc.2.2.2
 simp only at h3 h4
 unfold Zt BE
 cases ar
 ·have b1:=v5 (dec p) (dec q)
  have b2:=v5 (dec to) (dec fr)
  simp only[dT (show okP 4000 p∧okP 4000 q from⟨hp,hq⟩),dT (show okP 4000 to∧okP 4000 fr from⟨h4,h3⟩),A7 b1 b2]
  rfl
 ·have e:=(hc.1 rfl).1
  simp only at e
  cases cw
  ·simp only[dT (show ok Ln 300 ci∧okP 4000 fr∧okP 4000 p∧okP 4000 q from⟨e,h3,hp,hq⟩)]
   rfl
  ·have b:=U5 (ptd (dec ci) (dec to)) (ptd (dec ci) (dec p)) (ptd (dec ci) (dec q))
   simp only[dT (show ok Ln 300 ci∧okP 4000 to∧okP 4000 p∧okP 4000 q from⟨e,h4,hp,hq⟩)]
   try dsimp only[Bool.not_true]
   rw[aS (x:=0-gO a9 (ptd (dec ci) (dec to)) (ptd (dec ci) (dec p)) (ptd (dec ci) (dec q))) (by omega) (by omega),amW]
   rfl
end Go.Proofs.YtnkndpoojnflmaaGreat
end
