/- The least distance of a point from a curve. -/
import Derived.Test.YtlahabkjhgkkjaaGreatY18
noncomputable section
namespace Go.Proofs.YtlahabkjhgkkjaaGreat
open Go.RowKit Go.IntKind
section
namespace RE
def dsE(p v:PE):RE:=(p.1-v.1)*(p.1-v.1)+(p.2-v.2)*(p.2-v.2)
def Mn(S:PE→Prop)(v:PE)(m:RE):Prop:=(∃p,S p∧dsE p v=m)∧∀p,S p→m≤dsE p v
theorem Mn.uni{S:PE→Prop}{v:PE}{m n:RE}(h:Mn S v m)(h':Mn S v n):m=n:=by
 obtain⟨⟨p,hp,ep⟩,h1⟩:=h
 obtain⟨⟨q,hq,eq⟩,h2⟩:=h'
 exact le_antisymm (eq▸h1 q hq) (ep▸h2 p hp)
open Classical in
def mnE(a b:RE):RE:=if b<a then b else a
theorem Jv{S:PE→Prop}{v F T:PE}(hF:S F)(hT:S T)(h:∀p,S p→dsE F v≤dsE p v∨dsE T v≤dsE p v):Mn S v (mnE (dsE F v) (dsE T v)):=by
 unfold mnE
 by_cases e:dsE T v<dsE F v
 ·rw[avr e]
  exact⟨⟨T,hT,rfl⟩,fun p hp=>(h p hp).elim (fun g=>le_trans (le_of_lt e) g) id⟩
 ·rw[avn e]
  exact⟨⟨F,hF,rfl⟩,fun p hp=>(h p hp).elim id (fun g=>le_trans e g)⟩
theorem ald(a b c p q v w:RE):(a*a+b*b)*((p-v)*(p-v)+(q-w)*(q-w))=(a*v+b*w-(a*p+b*q))*(a*v+b*w-(a*p+b*q))+(-b*p+a*q-(-b*v+a*w))*(-b*p+a*q-(-b*v+a*w)):=by
 induction a using auZ
 induction b using auZ
 induction c using auZ
 induction p using auZ
 induction q using auZ
 induction v using auZ
 induction w using auZ
 exact snd fun n=>by
  simp only[RL.add,RL.mul,RL.neg]
  grind
theorem aaF(a b e k v w:RE):(v-a*(e*k)-v)*(v-a*(e*k)-v)+(w-b*(e*k)-w)*(w-b*(e*k)-w)=e*e*k*((a*a+b*b)*k):=by
 induction a using auZ
 induction b using auZ
 induction e using auZ
 induction k using auZ
 induction v using auZ
 induction w using auZ
 exact snd fun n=>by
  simp only[RL.add,RL.mul,RL.neg]
  grind
theorem CE(a b c k v w:RE):a*(v-a*((a*v+b*w-c)*k))+b*(w-b*((a*v+b*w-c)*k))=a*v+b*w-(a*v+b*w-c)*((a*a+b*b)*k):=by
 induction a using auZ
 induction b using auZ
 induction c using auZ
 induction k using auZ
 induction v using auZ
 induction w using auZ
 exact snd fun n=>by
  simp only[RL.add,RL.mul,RL.neg]
  grind
theorem amo(a b x v w:RE): -b*(v-a*x)+a*(w-b*x)= -b*v+a*w:=by
 induction a using auZ
 induction b using auZ
 induction x using auZ
 induction v using auZ
 induction w using auZ
 exact snd fun n=>by
  simp only[RL.add,RL.mul,RL.neg]
  grind
theorem MZ(x c:RE):x-(x-c)=c:=by
 induction x using auZ
 induction c using auZ
 exact snd fun n=>by
  simp only[RL.add,RL.neg]
  grind
theorem ael(x y:RE):((x*x-(y*y)))+of 2*((x-(0))*(y-(x)))+((y-(x))*(y-(x)))=0:=by
 induction x using auZ
 induction y using auZ
 exact snd fun n=>by
  simp only[RL.add,RL.mul,RL.neg,RL.const]
  grind
theorem aq9(x y:RE)(h1:0≤x)(h2:x≤y):x*x≤y*y:=fun hg=>far (aB (aB (aE hg) (eK (by decide+kernel:(0:Rat)<2) (bV (aA h1) (aA h2)))) (bV (aA h2) (aA h2))) (ael x y)
theorem aa4(x y:RE):((x*x-(y*y)))+((x-(y))*(x-(y)))+of 2*((x-(y))*(0-(x)))=0:=by
 induction x using auZ
 induction y using auZ
 exact snd fun n=>by
  simp only[RL.add,RL.mul,RL.neg,RL.const]
  grind
theorem ana(x y:RE)(h1:y≤x)(h2:x≤0):x*x≤y*y:=fun hg=>far (aB (aB (aE hg) (bV (aA h1) (aA h1))) (eK (by decide+kernel:(0:Rat)<2) (bV (aA h1) (aA h2)))) (aa4 x y)
theorem Rx(n x y s t e:RE):((n-(0))*(x-(y)))+((e+s-(n*x)))+((n*y-(e+t)))+((t-(s)))=0:=by
 induction n using auZ
 induction x using auZ
 induction y using auZ
 induction s using auZ
 induction t using auZ
 induction e using auZ
 exact snd fun n=>by
  simp only[RL.add,RL.mul,RL.neg,RL.const]
  grind
theorem alC(n x y s t e:RE)(h1:0<n)(h2:n*x=e+s)(h3:n*y=e+t)(h4:s≤t):x≤y:=fun hg=>far (aB (aB (aB (mul_pos (aE h1) (aE hg)) (aA (dP h2))) (aA (d7 h3))) (aA h4)) (Rx n x y s t e)
theorem akF(a v x:RE):((a-v-(x-v)))+((x-(a)))=0:=by
 induction a using auZ
 induction v using auZ
 induction x using auZ
 exact snd fun n=>by
  simp only[RL.add,RL.neg,RL.const]
  grind
theorem atW(a v x:RE)(_h1:v<a)(h2:a≤x):a-v≤x-v:=fun hg=>far (aB (aE hg) (aA h2)) (akF a v x)
theorem acO(a v:RE):((a-(v)))+((0-(a-v)))=0:=by
 induction a using auZ
 induction v using auZ
 exact snd fun n=>by
  simp only[RL.add,RL.neg,RL.const]
  grind
theorem ato(a v:RE)(h1:v<a):0≤a-v:=fun hg=>far (aB (aE h1) (le_of_lt (aE hg))) (acO a v)
theorem ak6(a v x:RE):((x-v-(a-v)))+((a-(x)))=0:=by
 induction a using auZ
 induction v using auZ
 induction x using auZ
 exact snd fun n=>by
  simp only[RL.add,RL.neg,RL.const]
  grind
theorem auD(a v x:RE)(_h1:a<v)(h2:x≤a):x-v≤a-v:=fun hg=>far (aB (aE hg) (aA h2)) (ak6 a v x)
theorem aeA(a v:RE):((v-(a)))+((a-v-(0)))=0:=by
 induction a using auZ
 induction v using auZ
 exact snd fun n=>by
  simp only[RL.add,RL.neg,RL.const]
  grind
theorem ati(a v:RE)(h1:a<v):a-v≤0:=fun hg=>far (aB (aE h1) (le_of_lt (aE hg))) (aeA a v)
theorem asc(n k x:RE):n*x*k=n*k*x:=by
 induction n using auZ
 induction k using auZ
 induction x using auZ
 exact snd fun n=>by
  simp only[RL.mul]
  grind
theorem Ex(e t:RE):((e-(e+t)))+((t-(0)))=0:=by
 induction e using auZ
 induction t using auZ
 exact snd fun n=>by
  simp only[RL.add,RL.neg,RL.const]
  grind
theorem NQ(e t:RE)(h1:0≤t):e≤e+t:=fun hg=>far (aB (aE hg) (aA h1)) (Ex e t)
theorem Hu(x y k:RE):((x*k-(y*k)))+((y-(x))*(k-(0)))=0:=by
 induction x using auZ
 induction y using auZ
 induction k using auZ
 exact snd fun n=>by
  simp only[RL.add,RL.mul,RL.neg,RL.const]
  grind
theorem Vd(x y k:RE)(h1:x≤y)(h2:0<k):x*k≤y*k:=fun hg=>far (aB (aE hg) (bV (aA h1) (le_of_lt (aE h2)))) (Hu x y k)
def exE(l:Ln)(v:PE):RE:=of l.1*v.1+of l.2.1*v.2-of l.2.2
def nrE(l:Ln):RE:=of l.1*of l.1+of l.2.1*of l.2.1
theorem G8{l:Ln}{p v:PE}(h:uu l p):nrE l*dsE p v=exE l v*exE l v+(tE l p-tE l v)*(tE l p-tE l v):=by
 unfold nrE dsE exE tE
 rw[ald _ _ (of l.2.2),h]
theorem CN{l:Ln}{F T v:PE}(_hn:0<nrE l)(hb:btE (tE l F) (tE l T) (tE l v)){k:RE}(hk:0<k)(ek:nrE l*k=1):Mn (jl l F T) v (exE l v*exE l v*k):=by
 refine⟨⟨(v.1-of l.1*(exE l v*k),v.2-of l.2.1*(exE l v*k)),⟨?_,?_⟩,?_⟩,fun p hp=>?_⟩
 ·show of l.1*(v.1-of l.1*(exE l v*k))+of l.2.1*(v.2-of l.2.1*(exE l v*k))=of l.2.2
  unfold exE
  rw[CE]
  show _-_*(nrE l*k)=_
  rw[ek,mul_one,MZ]
 ·show btE _ _ (-of l.2.1*(v.1-of l.1*(exE l v*k))+of l.1*(v.2-of l.2.1*(exE l v*k)))
  rw[amo]
  exact hb
 ·show(v.1-of l.1*(exE l v*k)-v.1)*(v.1-of l.1*(exE l v*k)-v.1)+(v.2-of l.2.1*(exE l v*k)-v.2)*(v.2-of l.2.1*(exE l v*k)-v.2)=_
  rw[aaF]
  show _*(nrE l*k)=_
  rw[ek,mul_one]
 ·have h1:=G8 (v:=v) hp.1
  have h2:=Vd _ _ k (NQ (exE l v*exE l v) ((tE l p-tE l v)*(tE l p-tE l v)) (gY _)) hk
  rw[←h1,asc (nrE l),ek,one_mul]at h2
  exact h2
theorem abY{l:Ln}{F T v:PE}(hn:0<nrE l)(hF:uu l F)(hT:uu l T)(hb:¬btE (tE l F) (tE l T) (tE l v)):Mn (jl l F T) v (mnE (dsE F v) (dsE T v)):=by
 have le_of:=fun(p q:PE) (hp:uu l p) (hq:uu l q) (h:(tE l p-tE l v)*(tE l p-tE l v)≤(tE l q-tE l v)*(tE l q-tE l v))=>alC _ _ _ _ _ _ hn (G8 (v:=v) hp) (G8 (v:=v) hq) h
 have nn:∀p q:PE,uu l p→uu l q→tE l v<tE l p→tE l p≤tE l q→dsE p v≤dsE q v:=fun p q hp hq h1 h2=>le_of p q hp hq (aq9 _ _ (ato _ _ h1) (atW _ _ _ h1 h2))
 have np:∀p q:PE,uu l p→uu l q→tE l p<tE l v→tE l q≤tE l p→dsE p v≤dsE q v:=fun p q hp hq h1 h2=>le_of p q hp hq (ana _ _ (auD _ _ _ h1 h2) (ati _ _ h1))
 have sF:jl l F T F:=⟨hF,(lt_or_ge (tE l F) (tE l T)).elim (fun h=>.inl ⟨le_refl _,le_of_lt h⟩) (fun h=>.inr ⟨h,le_refl _⟩)⟩
 have sT:jl l F T T:=⟨hT,(lt_or_ge (tE l F) (tE l T)).elim (fun h=>.inl ⟨le_of_lt h,le_refl _⟩) (fun h=>.inr ⟨le_refl _,h⟩)⟩
 refine Jv sF sT fun p ⟨hp,hbp⟩=>?_
 rcases lt_or_ge (tE l v) (tE l F)with g|g
 ·rcases lt_or_ge (tE l v) (tE l T)with g'|g'
  ·rcases hbp with⟨h1,h2⟩|⟨h1,h2⟩
   ·exact .inl (nn F p hF hp g h1)
   ·exact .inr (nn T p hT hp g' h1)
  ·exact absurd (.inr ⟨g',le_of_lt g⟩) hb
 ·rcases lt_or_ge (tE l T) (tE l v)with g'|g'
  ·rcases lt_or_ge (tE l F) (tE l v)with g2|g2
   ·rcases hbp with⟨h1,h2⟩|⟨h1,h2⟩
    ·exact .inr (np T p hT hp g' h2)
    ·exact .inl (np F p hF hp g2 h2)
   ·exact absurd (.inr ⟨le_of_lt g',g2⟩) hb
  ·exact absurd (.inl ⟨g,g'⟩) hb
theorem ap2(a b x y d e q:RE):(a*y-b*x)*((d*b-e*a)+(d*y-e*x))=((a*d+b*e)-(x*d+y*e))*(q+(a*x+b*y))+(a*d+b*e)*(x*x+y*y-q)-(x*d+y*e)*(a*a+b*b-q):=by
 induction a using auZ
 induction b using auZ
 induction x using auZ
 induction y using auZ
 induction d using auZ
 induction e using auZ
 induction q using auZ
 exact snd fun n=>by
  simp only[RL.add,RL.mul,RL.neg]
  grind
theorem plk(a b x y z t d e:RE):(a*y-b*x)*(d*t-e*z)=(z*y-t*x)*(d*b-e*a)+(a*t-b*z)*(d*y-e*x):=by
 induction a using auZ
 induction b using auZ
 induction x using auZ
 induction y using auZ
 induction z using auZ
 induction t using auZ
 induction d using auZ
 induction e using auZ
 exact snd fun n=>by
  simp only[RL.add,RL.mul,RL.neg]
  grind
theorem ZJ(x k m:RE):x+k*0-m*0=x:=by
 induction x using auZ
 induction k using auZ
 induction m using auZ
 exact snd fun n=>by
  simp only[RL.add,RL.mul,RL.neg,RL.const]
  grind
theorem VA(x y:RE):((0-(x+y)))+((x-(0)))+((y-(0)))=0:=by
 induction x using auZ
 induction y using auZ
 exact snd fun n=>by
  simp only[RL.add,RL.neg,RL.const]
  grind
theorem IL(x y:RE)(h1:0≤x)(h2:0≤y):0≤x+y:=fun hg=>far (aB (aB (aE hg) (aA h1)) (aA h2)) (VA x y)
theorem Y9(x y:RE):((x+y-(0)))+((0-(x)))+((0-(y)))=0:=by
 induction x using auZ
 induction y using auZ
 exact snd fun n=>by
  simp only[RL.add,RL.neg,RL.const]
  grind
theorem akb(x y:RE)(h1:x≤0)(h2:y≤0):x+y≤0:=fun hg=>far (aB (aB (aE hg) (aA h1)) (aA h2)) (Y9 x y)
theorem Y4(x:RE):((-x-(0)))+((x-(0)))=0:=by
 induction x using auZ
 exact snd fun n=>by
  simp only[RL.add,RL.neg,RL.const]
  grind
theorem TD(x:RE)(h1:0≤x): -x≤0:=fun hg=>far (aB (aE hg) (aA h1)) (Y4 x)
theorem NC(x:RE):((0-(-x)))+((0-(x)))=0:=by
 induction x using auZ
 exact snd fun n=>by
  simp only[RL.add,RL.neg,RL.const]
  grind
theorem abo(x:RE)(h1:x≤0):0≤ -x:=fun hg=>far (aB (aE hg) (aA h1)) (NC x)
theorem Gf(x k y:RE):((k-(0))*(0-(x)))+((x*k-(y)))+((y-(0)))=0:=by
 induction x using auZ
 induction k using auZ
 induction y using auZ
 exact snd fun n=>by
  simp only[RL.add,RL.mul,RL.neg,RL.const]
  grind
theorem Mx(x k y:RE)(h1:x*k=y)(h2:0≤y)(h3:0<k):0≤x:=fun hg=>far (aB (aB (mul_pos (aE h3) (aE hg)) (aA (d7 h1))) (aA h2)) (Gf x k y)
theorem Fx(x y:RE):((y-(x)))+((x-y-(0)))=0:=by
 induction x using auZ
 induction y using auZ
 exact snd fun n=>by
  simp only[RL.add,RL.neg,RL.const]
  grind
theorem MF(x y:RE)(h1:0≤x-y):y≤x:=fun hg=>far (aB (aE hg) (aA h1)) (Fx x y)
theorem aj5(a b x y:RE):(a+x)*(a+x)+(b+y)*(b+y)=a*a+b*b+(x*x+y*y)+((a*x+b*y)+(a*x+b*y)):=by
 induction a using auZ
 induction b using auZ
 induction x using auZ
 induction y using auZ
 exact snd fun n=>by
  simp only[RL.add,RL.mul]
  grind
theorem aeB(a b x y:RE):(a-x)*(a-x)+(b-y)*(b-y)=a*a+b*b+(x*x+y*y)-((a*x+b*y)+(a*x+b*y)):=by
 induction a using auZ
 induction b using auZ
 induction x using auZ
 induction y using auZ
 exact snd fun n=>by
  simp only[RL.add,RL.mul,RL.neg]
  grind
theorem aja(q s t:RE):of 2*((0-(q+s)))+((q+q+(s+s)-(t)))+((t-(0)))=0:=by
 induction q using auZ
 induction s using auZ
 induction t using auZ
 exact snd fun n=>by
  simp only[RL.add,RL.mul,RL.neg,RL.const]
  grind
theorem atO(q s t:RE)(h1:t=q+q+(s+s))(h2:0≤t):0≤q+s:=fun hg=>far (aB (aB (qR (by decide+kernel:(0:Rat)<2) (aE hg)) (aA (dP h1))) (aA h2)) (aja q s t)
theorem alw(q s t:RE):((t-(0)))+((q+q+(s+s)-(t)))+of 2*((0-(q+s)))=0:=by
 induction q using auZ
 induction s using auZ
 induction t using auZ
 exact snd fun n=>by
  simp only[RL.add,RL.mul,RL.neg,RL.const]
  grind
theorem atH(q s t:RE)(h1:t=q+q+(s+s))(h2:q+s=0):t≤0:=fun hg=>far (aB (aB (aE hg) (aA (dP h1))) (eK (by decide+kernel:(0:Rat)<2) (aA (dP h2)))) (alw q s t)
theorem alh(q s t:RE):((0-(t)))+((t-(q+q+(s+s))))+of 2*((q+s-(0)))=0:=by
 induction q using auZ
 induction s using auZ
 induction t using auZ
 exact snd fun n=>by
  simp only[RL.add,RL.mul,RL.neg,RL.const]
  grind
theorem atU(q s t:RE)(h1:t=q+q+(s+s))(h2:q+s=0):0≤t:=fun hg=>far (aB (aB (aE hg) (aA (d7 h1))) (eK (by decide+kernel:(0:Rat)<2) (aA (d7 h2)))) (alh q s t)
theorem q_z(q s t:RE)(h1:t=q+q+(s+s))(h2:q+s=0):t=0:=le_antisymm (atH q s t h1 h2) (atU q s t h1 h2)
theorem NG(x y:RE):((x-(0)))+((0-(x+y)))+((y-(0)))=0:=by
 induction x using auZ
 induction y using auZ
 exact snd fun n=>by
  simp only[RL.add,RL.neg,RL.const]
  grind
theorem acR(x y:RE)(h1:x+y=0)(_h2:0≤x)(h3:0≤y):x≤0:=fun hg=>far (aB (aB (aE hg) (aA (dP h1))) (aA h3)) (NG x y)
theorem Ib(x y:RE):((y-(0)))+((0-(x+y)))+((x-(0)))=0:=by
 induction x using auZ
 induction y using auZ
 exact snd fun n=>by
  simp only[RL.add,RL.neg,RL.const]
  grind
theorem U2(x y:RE)(h1:x+y=0)(h2:0≤x)(_h3:0≤y):y≤0:=fun hg=>far (aB (aB (aE hg) (aA (dP h1))) (aA h2)) (Ib x y)
theorem al9(a x:RE):((x-(-a)))+((0-(a+x)))=0:=by
 induction a using auZ
 induction x using auZ
 exact snd fun n=>by
  simp only[RL.add,RL.neg,RL.const]
  grind
theorem atS(a x:RE)(h1:a+x=0):x≤ -a:=fun hg=>far (aB (aE hg) (aA (dP h1))) (al9 a x)
theorem am1(a x:RE):((-a-(x)))+((a+x-(0)))=0:=by
 induction a using auZ
 induction x using auZ
 exact snd fun n=>by
  simp only[RL.add,RL.neg,RL.const]
  grind
theorem aug(a x:RE)(h1:a+x=0): -a≤x:=fun hg=>far (aB (aE hg) (aA (d7 h1))) (am1 a x)
theorem opp(a x:RE)(h1:a+x=0):x= -a:=le_antisymm (atS a x h1) (aug a x h1)
theorem Ci{x y:RE}(h:x*x+y*y=0):x=0∧y=0:=⟨uS (acR _ _ h (gY x) (gY y)),uS (U2 _ _ h (gY x) (gY y))⟩
theorem gl{u z d:PE}{Q:RE}(hu:dtE u u=Q)(hz:dtE z z=Q):crs u z*(crs d u+crs d z)=(dtE u d-dtE z d)*(Q+dtE u z):=by
 unfold dtE at hu hz
 unfold crs dtE
 rw[ap2 _ _ _ _ _ _ Q,hu,hz,sub_self,ZJ]
theorem adY(a b c d:RE):a*d-b*c= -(c*b-d*a):=by
 induction a using auZ
 induction b using auZ
 induction c using auZ
 induction d using auZ
 exact snd fun n=>by
  simp only[RL.add,RL.mul,RL.neg]
  grind
theorem am4(u w:PE):crs u w= -crs w u:=adY _ _ _ _
theorem atF(u w z d:PE):crs u w*crs d z=crs z w*crs d u+crs u z*crs d w:=plk _ _ _ _ _ _ _ _
theorem wh{u z:PE}{Q:RE}(hu:dtE u u=Q)(hz:dtE z z=Q):0<Q+dtE u z∨z=(-u.1,-u.2):=by
 have h1:(u.1+z.1)*(u.1+z.1)+(u.2+z.2)*(u.2+z.2)=Q+Q+(dtE u z+dtE u z):=by
  rw[aj5]
  unfold dtE at hu hz ⊢
  rw[hu,hz]
 have nn:∀x y:RE,0≤x*x+y*y:=fun x y=>IL _ _ (gY x) (gY y)
 rcases gF (atO _ _ _ h1 (nn _ _))with h|h
 ·exact .inl h
 ·have h2:=q_z _ _ _ h1 h
  obtain⟨a,b⟩:=Ci h2
  exact .inr (axe (opp _ _ a) (opp _ _ b))
theorem LA{u z d:PE}{Q:RE}(hu:dtE u u=Q)(hz:dtE z z=Q)(hk:0<Q+dtE u z)(h:0≤crs u z*(crs d u+crs d z)):dtE z d≤dtE u d:=by
 rw[gl hu hz]at h
 exact MF _ _ (Mx _ _ _ rfl h hk)
theorem Xw(a b c d:RE):(a*d-b*c)*(a*d-b*c)+(a*c+b*d)*(a*c+b*d)=(a*a+b*b)*(c*c+d*d):=by
 induction a using auZ
 induction b using auZ
 induction c using auZ
 induction d using auZ
 exact snd fun n=>by
  simp only[RL.add,RL.mul,RL.neg]
  grind
theorem aiW(s q:RE):(s+q)*(s-q)=s*s-q*q:=by
 induction s using auZ
 induction q using auZ
 exact snd fun n=>by
  simp only[RL.add,RL.mul,RL.neg]
  grind
theorem acB(q s t:RE):((t-(0)))+((q+q-(s+s)-(t)))+of 2*((s-q-(0)))=0:=by
 induction q using auZ
 induction s using auZ
 induction t using auZ
 exact snd fun n=>by
  simp only[RL.add,RL.mul,RL.neg,RL.const]
  grind
theorem apq(q s t:RE)(h1:t=q+q-(s+s))(h2:s-q=0):t≤0:=fun hg=>far (aB (aB (aE hg) (aA (dP h1))) (eK (by decide+kernel:(0:Rat)<2) (aA (d7 h2)))) (acB q s t)
theorem Z0(q s t:RE):((0-(t)))+((t-(q+q-(s+s))))+of 2*((0-(s-q)))=0:=by
 induction q using auZ
 induction s using auZ
 induction t using auZ
 exact snd fun n=>by
  simp only[RL.add,RL.mul,RL.neg,RL.const]
  grind
theorem aqq(q s t:RE)(h1:t=q+q-(s+s))(h2:s-q=0):0≤t:=fun hg=>far (aB (aB (aE hg) (aA (d7 h1))) (eK (by decide+kernel:(0:Rat)<2) (aA (dP h2)))) (Z0 q s t)
theorem at5(q s t:RE)(h1:t=q+q-(s+s))(h2:s-q=0):t=0:=le_antisymm (apq q s t h1 h2) (aqq q s t h1 h2)
theorem G7(s q:RE):((q+s-(0)))+((0-(s+q)))=0:=by
 induction s using auZ
 induction q using auZ
 exact snd fun n=>by
  simp only[RL.add,RL.neg,RL.const]
  grind
theorem SO(s q:RE)(h1:s+q=0):q+s≤0:=fun hg=>far (aB (aE hg) (aA (dP h1))) (G7 s q)
theorem Ie(s q:RE):((0-(q+s)))+((s+q-(0)))=0:=by
 induction s using auZ
 induction q using auZ
 exact snd fun n=>by
  simp only[RL.add,RL.neg,RL.const]
  grind
theorem Si(s q:RE)(h1:s+q=0):0≤q+s:=fun hg=>far (aB (aE hg) (aA (d7 h1))) (Ie s q)
theorem abv(s q:RE)(h1:s+q=0):q+s=0:=le_antisymm (SO s q h1) (Si s q h1)
theorem aet{x y:RE}(h:x*y=0):x=0∨y=0:=by
 have:=dU x y
 rw[h,dE]at this
 rcases Int.mul_eq_zero.1 this.symm with e|e
 ·exact .inl (l4.1 e)
 ·exact .inr (l4.1 e)
theorem auu{u w:PE}{Q:RE}(hu:dtE u u=Q)(hw:dtE w w=Q)(h:crs u w=0):u=w∨w=(-u.1,-u.2):=by
 have h1:crs u w*crs u w+dtE u w*dtE u w=dtE u u*dtE w w:=Xw _ _ _ _
 rw[h,hu,hw,mul_zero,zero_add]at h1
 have h2:(dtE u w+Q)*(dtE u w-Q)=0:=by rw[aiW,h1,sub_self]
 rcases aet h2 with e|e
 ·right
  rcases wh hu hw with g|g
  ·rw[abv _ _ e]at g
   exact absurd g (lt_irrefl _)
  ·exact g
 ·left
  have h3:(u.1-w.1)*(u.1-w.1)+(u.2-w.2)*(u.2-w.2)=Q+Q-(dtE u w+dtE u w):=by
   rw[aeB]
   unfold dtE at hu hw ⊢
   rw[hu,hw]
  obtain⟨a,b⟩:=Ci (at5 _ _ _ h3 e)
  exact axe (kN _ _ a) (kN _ _ b)
theorem YN{u w z:PE}(h:0≤crs u w):nA u w z=true↔0≤crs u z∧0≤crs z w:=by
 unfold nA aad
 rw[au1 (PK.2 h),cond_true,au8,awJ,awJ,PK,PK]
theorem HJ{x:RE}:sg x<0↔x<0:=by
 rcases bZ x with⟨h,e⟩|⟨h,e⟩|⟨h,e⟩<;>rw[e]
 ·exact⟨fun h'=>absurd h' (by decide),fun h'=>absurd (c7 h h') (lt_irrefl _)⟩
 ·rw[h];exact⟨fun h'=>absurd h' (by decide),fun h'=>absurd h' (lt_irrefl _)⟩
 ·exact⟨fun _=>h,fun _=>by decide⟩
theorem T7{u w z:PE}(h:crs u w<0):nA u w z=true↔¬(crs z w<0∧crs u z<0):=by
 unfold nA aad
 rw[au3 (by have:=HJ.2 h;omega),cond_false]
 simp only[av3,Bool.and_eq_false_iff,decide_eq_false_iff_not,HJ]
 exact⟨fun g g'=>g.elim (fun k=>k g'.1) (fun k=>k g'.2),fun g=>by
  by_cases e:crs z w<0
  ·exact .inr (fun e'=>g ⟨e,e'⟩)
  ·exact .inl e⟩
theorem W3(d e a b:RE):d* -b-e* -a= -(d*b-e*a):=by
 induction d using auZ
 induction e using auZ
 induction a using auZ
 induction b using auZ
 exact snd fun n=>by
  simp only[RL.add,RL.mul,RL.neg]
  grind
theorem WU(a b c d:RE): -a*d- -b*c= -(a*d-b*c):=by
 induction a using auZ
 induction b using auZ
 induction c using auZ
 induction d using auZ
 exact snd fun n=>by
  simp only[RL.add,RL.mul,RL.neg]
  grind
theorem Vq(x:RE):((x-(0)))+((-x-(0)))=0:=by
 induction x using auZ
 exact snd fun n=>by
  simp only[RL.add,RL.neg,RL.const]
  grind
theorem alQ(x:RE)(h1:0≤ -x)(_h2:0≤x):x≤0:=fun hg=>far (aB (aE hg) (aA h1)) (Vq x)
theorem SK(x:RE):((0-(x)))+((x-(0)))=0:=by
 induction x using auZ
 exact snd fun n=>by
  simp only[RL.add,RL.neg,RL.const]
  grind
theorem amM(x:RE)(_h1:0≤ -x)(h2:0≤x):0≤x:=fun hg=>far (aB (aE hg) (aA h2)) (SK x)
theorem afG(x:RE)(h1:0≤ -x)(h2:0≤x):x=0:=le_antisymm (alQ x h1 h2) (amM x h1 h2)
theorem ak1(bu bz bw:RE):((0-(bu+bz)))+((bw+bz-(0)))+((bu-(0)))+((0-(bw)))=0:=by
 induction bu using auZ
 induction bz using auZ
 induction bw using auZ
 exact snd fun n=>by
  simp only[RL.add,RL.neg,RL.const]
  grind
theorem atN(bu bz bw:RE)(h1:bu+bz<0)(h2:0<bw+bz)(h3:0<bu):0<bw:=d9.1 fun hg=>far (aB (aB (aB (aE h1) (le_of_lt (aE h2))) (le_of_lt (aE h3))) (aA hg)) (ak1 bu bz bw)
theorem akq(bu bz:RE):((0-(bu+bz)))+((bu-(0)))+((bz-(0)))=0:=by
 induction bu using auZ
 induction bz using auZ
 exact snd fun n=>by
  simp only[RL.add,RL.neg,RL.const]
  grind
theorem atY(bu bz:RE)(h1:bu+bz<0)(h2:0<bu):bz<0:=d9.1 fun hg=>far (aB (aB (aE h1) (le_of_lt (aE h2))) (aA hg)) (akq bu bz)
theorem amK(bu bz bw:RE):((0-(bu+bz)))+((bw+bz-(0)))+((0-(bw)))+((bu-(0)))=0:=by
 induction bu using auZ
 induction bz using auZ
 induction bw using auZ
 exact snd fun n=>by
  simp only[RL.add,RL.neg,RL.const]
  grind
theorem auy(bu bz bw:RE)(h1:bu+bz<0)(h2:0<bw+bz)(h3:bw<0):bu<0:=d9.1 fun hg=>far (aB (aB (aB (aE h1) (le_of_lt (aE h2))) (le_of_lt (aE h3))) (aA hg)) (amK bu bz bw)
theorem aio(bw bz:RE):((bw+bz-(0)))+((0-(bw)))+((0-(bz)))=0:=by
 induction bw using auZ
 induction bz using auZ
 exact snd fun n=>by
  simp only[RL.add,RL.neg,RL.const]
  grind
theorem atE(bw bz:RE)(h1:0<bw+bz)(h2:bw<0):0<bz:=d9.1 fun hg=>far (aB (aB (aE h1) (le_of_lt (aE h2))) (aA hg)) (aio bw bz)
theorem ao9(k bz s bu t bw:RE):((t*bw-(0)))+((k*bz-(s*bu+t*bw)))+((s*bu-(0)))+((0-(k*bz)))=0:=by
 induction k using auZ
 induction bz using auZ
 induction s using auZ
 induction bu using auZ
 induction t using auZ
 induction bw using auZ
 exact snd fun n=>by
  simp only[RL.add,RL.mul,RL.neg,RL.const]
  grind
theorem k_e(k bz s bu t bw:RE)(h1:k*bz=s*bu+t*bw)(h2:0≤s*bu)(h3:0<t*bw):0<k*bz:=d9.1 fun hg=>far (aB (aB (aB (aE h3) (aA (d7 h1))) (aA h2)) (aA hg)) (ao9 k bz s bu t bw)
theorem am2(bu s bz k bw t:RE):((0-(s*bu)))+((k*bz-(0)))+((s*bu+t*bw-(k*bz)))+((0-(t*bw)))=0:=by
 induction bu using auZ
 induction s using auZ
 induction bz using auZ
 induction k using auZ
 induction bw using auZ
 induction t using auZ
 exact snd fun n=>by
  simp only[RL.add,RL.mul,RL.neg,RL.const]
  grind
theorem at8(bu s bz k bw t:RE)(h1:k*bz=s*bu+t*bw)(h2:s*bu<0)(h3:0<k*bz)(h4:t*bw≤0):0<k:=d9.1 fun _hg=>far (aB (aB (aB (aE h2) (le_of_lt (aE h3))) (aA (dP h1))) (aA h4)) (am2 bu s bz k bw t)
theorem Ng(x y:RE):((x*y-(0)))+((x-(0))*(0-(y)))=0:=by
 induction x using auZ
 induction y using auZ
 exact snd fun n=>by
  simp only[RL.add,RL.mul,RL.neg,RL.const]
  grind
theorem C1(x y:RE)(h1:0≤x)(h2:y≤0):x*y≤0:=fun hg=>far (aB (aE hg) (bV (aA h1) (aA h2))) (Ng x y)
theorem M1(x y:RE):((x*y-(0)))+((0-(x))*(y-(0)))=0:=by
 induction x using auZ
 induction y using auZ
 exact snd fun n=>by
  simp only[RL.add,RL.mul,RL.neg,RL.const]
  grind
theorem Z8(x y:RE)(h1:x≤0)(h2:0≤y):x*y≤0:=fun hg=>far (aB (aE hg) (bV (aA h1) (aA h2))) (M1 x y)
theorem O8(x y:RE):((0-(x))*(0-(y)))+((0-(x*y)))=0:=by
 induction x using auZ
 induction y using auZ
 exact snd fun n=>by
  simp only[RL.add,RL.mul,RL.neg,RL.const]
  grind
theorem QR(x y:RE)(h1:x<0)(h2:y<0):0<x*y:=d9.1 fun hg=>far (aB (mul_pos (aE h1) (aE h2)) (aA hg)) (O8 x y)
theorem PW(x y:RE):((0-(x))*(y-(0)))+((x*y-(0)))=0:=by
 induction x using auZ
 induction y using auZ
 exact snd fun n=>by
  simp only[RL.add,RL.mul,RL.neg,RL.const]
  grind
theorem aje(x y:RE)(h1:x<0)(h2:0<y):x*y<0:=d9.1 fun hg=>far (aB (mul_pos (aE h1) (aE h2)) (aA hg)) (PW x y)
theorem MW(x y:RE):((0-(x*y)))+((0-(x))*(0-(y)))=0:=by
 induction x using auZ
 induction y using auZ
 exact snd fun n=>by
  simp only[RL.add,RL.mul,RL.neg,RL.const]
  grind
theorem Kz(x y:RE)(h1:x≤0)(h2:y≤0):0≤x*y:=fun hg=>far (aB (aE hg) (bV (aA h1) (aA h2))) (MW x y)
theorem qQ(d u:PE):crs d (-u.1,-u.2)= -crs d u:=W3 _ _ _ _
theorem aca(u d:PE):crs (-u.1,-u.2) d= -crs u d:=WU _ _ _ _
theorem Zz{u w z d:PE}{Q:RE}(hu:dtE u u=Q)(hw:dtE w w=Q)(hz:dtE z z=Q)(hne:u≠w)(h:nA u w z=true)(hd:¬nA u w d=true):dtE z d≤dtE u d∨dtE z d≤dtE w d:=by
 have ac:=am4
 have key:=atF u w z d
 rcases lt_or_ge (crs u w) 0 with hk|hk
 ·rw[T7 hk]at h hd
  obtain⟨d1,d2⟩:=Classical.not_not.1 hd
  have bu:0<crs d u:=by rw[ac];exact iD d2
  rcases lt_or_ge (crs d z) 0 with hb|hb
  ·rcases lt_or_ge (crs z w) 0 with hc|hc
   ·have hz':0≤crs u z:=fun g=>h ⟨hc,g⟩
    exact absurd hk (fun g=>lt_irrefl _ (c7 g (at8 _ _ _ _ _ _ key (aje _ _ hc bu) (QR _ _ hk hb) (C1 _ _ hz' (le_of_lt d1)))))
   ·right
    refine LA hw hz ?_ ?_
    ·rcases wh hw hz with g|g
     ·exact g
     ·rw[g,qQ]at hb
      exact absurd (c7 (iD d1) hb) (lt_irrefl _)
    ·rw[ac w z]
     exact Kz _ _ (TD _ hc) (le_of_lt (XV _ _ d1 hb))
  ·rcases lt_or_ge (crs u z) 0 with hc|hc
   ·have hz':0≤crs z w:=fun g=>h ⟨g,hc⟩
    have:=QR _ _ hc d1
    have h2:=bV hz' (le_of_lt bu)
    have h3:=Z8 _ _ (le_of_lt hk) hb
    exact absurd (k_e _ _ _ _ _ _ key h2 this) h3
   ·left
    refine LA hu hz ?_ (bV hc (le_of_lt (aB bu hb)))
    rcases wh hu hz with g|g
    ·exact g
    ·rw[g,qQ]at hb
     exact absurd (Hk bu) hb
 ·rw[YN hk]at h hd
  obtain⟨h1,h2⟩:=h
  have zero_case:crs u w=0→w=(-u.1,-u.2):=fun e=>(auu hu hw e).resolve_left hne
  rcases lt_or_ge (crs d u+crs d z) 0 with g1|g1
  ·rcases lt_or_ge 0 (crs d w+crs d z)with g2|g2
   ·exfalso
    by_cases hb:0<crs d u
    ·have b1:=atY _ _ g1 hb
     have b2:=atN _ _ _ g1 g2 hb
     have r1:=bV h2 (le_of_lt hb)
     have r2:=bV h1 (le_of_lt b2)
     rcases gF hk with k1|k1
     ·have:=Hx _ _ k1 b1
      rw[key]at this
      exact absurd this (IL _ _ r1 r2)
     ·have e:=zero_case k1
      rw[e,qQ]at b2
      exact lt_irrefl _ (c7 b2 (Hk hb))
    ·have hb':crs d w<0:=by
      rcases lt_or_ge (crs d w) 0 with q|q
      ·exact q
      ·exact absurd ⟨by rw[ac];exact abo _ hb,q⟩ hd
     have b1:=atE _ _ g2 hb'
     have b2:=auy _ _ _ g1 g2 hb'
     have r1:=C1 _ _ h2 (le_of_lt b2)
     have r2:=C1 _ _ h1 (le_of_lt hb')
     rcases gF hk with k1|k1
     ·have:=mul_pos k1 b1
      rw[key]at this
      exact absurd this (akb _ _ r1 r2)
     ·have e:=zero_case k1
      rw[e,qQ]at hb'
      exact lt_irrefl _ (c7 hb' (iD b2))
   ·rcases wh hw hz with g|g
    ·right
     refine LA hw hz g ?_
     rw[ac w z]
     exact Kz _ _ (TD _ h2) g2
    ·left
     rw[g,qQ]at h1
     have e:=zero_case (afG _ h1 hk)
     have:z=u:=by rw[g,e];exact axe (neg_neg _) (neg_neg _)
     rw[this];exact le_refl _
  ·rcases wh hu hz with g|g
   ·left
    exact LA hu hz g (bV h1 g1)
   ·right
    rw[g,aca]at h2
    have e:=zero_case (afG _ h2 hk)
    rw[g,e];exact le_refl _
end RE
end
end Go.Proofs.YtlahabkjhgkkjaaGreat
end
