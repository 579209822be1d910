/- Arcs by cross products: the same points as by halves and x coordinates. -/
import Derived.Test.YtnkndpoojnflmaaGreatB13
import Derived.Test.YtnkndpoojnflmaaGreatB14
noncomputable section
namespace Go.Proofs.YtnkndpoojnflmaaGreat
open Go.RowKit Go.IntKind
theorem ahS:type_of% @List.not_mem_nil:=@List.not_mem_nil
section
namespace RE
abbrev PE:=RE×RE
def crs(u w:PE):RE:=u.1*w.2-u.2*w.1
def dtE(u w:PE):RE:=u.1*w.1+u.2*w.2
def ysC(k:Nat):Int:=if k=1 then 1 else if k=3 then-1 else 0
def msC(i:Nat):Int:=(i:Int)-3
def crI(k i l j:Nat):Int:=addS (jd (msC i)*ysC l) (-(ysC k*jd (msC j))) (cI (msC i).natAbs (msC j).natAbs)
def BM(k i l j:Nat):Bool:=(k !=0||decide (0<msC i))&&(k !=2||decide (msC i<0))&&(!(k==0||k==2)||(bif l==0||l==2 then(msC i).natAbs==(msC j).natAbs else decide ((msC j).natAbs<(msC i).natAbs)))
def NX(a b c:Int):Bool:=bif decide (0≤a)then decide (0≤b)&&decide (0≤c)else !(decide (c<0)&&decide (b<0))
theorem OK:∀kF kT:Fin 4,∀iF iT:Fin 7,(BM kF.1 iF.1 kT.1 iT.1&&BM kT.1 iT.1 kF.1 iF.1&&!(kF.1==kT.1&&iF.1==iT.1))=true→∀kP:Fin 4,∀iP:Fin 7,(BM kF.1 iF.1 kP.1 iP.1&&BM kP.1 iP.1 kF.1 iF.1&&BM kT.1 iT.1 kP.1 iP.1&&BM kP.1 iP.1 kT.1 iT.1)=true→
  decide (kL cI (upA kF.1,iF.1) (upA kP.1,iP.1) (upA kT.1,iT.1)≤0)=NX (crI kF.1 iF.1 kT.1 iT.1) (crI kF.1 iF.1 kP.1 iP.1) (crI kP.1 iP.1 kT.1 iT.1):=by decide+kernel
theorem FV{x:RE}(h:x≠0):0<x*x:=by
 rcases oB x 0 with e|e|e
 ·have:=mul_pos (lI e) (lI e)
  rw[neg_mul,mul_neg,neg_neg]at this
  exact this
 ·exact absurd e h
 ·exact mul_pos e e
theorem Dy(i j:Nat):cI i j=jd ((i:Int)-(j:Int)):=by
 unfold cI jd
 by_cases h:i<j
 ·rw[agu h,agu (by omega)]
 ·by_cases h':i=j
  ·rw[agk h,agu h',agk (by omega),agu (by omega)]
  ·rw[agk h,agk h',agk (by omega),agk (by omega)]
theorem xS{n:Int}(h:0<n):jd n=1:=by unfold jd;rw[agk (by omega),agk (by omega)]
theorem yj{n:Int}(h:n<0):jd n= -1:=by unfold jd;rw[agu h]
def rkS(L:List RE)(x:RE):Nat:=rk (fun a b:RE=>a<b) (0::L) (x*x)
def mI(L:List RE)(x:RE):Int:=sg x*(rkS L x:Int)
def ixL(L:List RE)(x:RE):Nat:=(mI L x+3).toNat
theorem ic{L:List RE}{x:RE}(h:x≠0):0<rkS L x:=by
 unfold rkS rk
 rw[agu (FV h)]
 omega
theorem F4{L:List RE}{x y:RE}(hx:x*x∈L)(hy:y*y∈L):sg (x*x-y*y)=cI (rkS L x) (rkS L y):=MX (c:=fun x y=>sg (x-y)) sC D6 (agO _ hx) (agO _ hy)
theorem Em{x:RE}(h:0<x):x≠0:=fun e=>by rw[e]at h;exact lt_irrefl _ h
theorem EU{x:RE}(h:x<0):x≠0:=fun e=>by rw[e]at h;exact lt_irrefl _ h
theorem KP(L:List RE)(x:RE):jd (mI L x)=sg x:=by
 unfold mI
 rcases bj x with⟨h,e⟩|⟨h,e⟩|⟨h,e⟩<;>rw[e]
 ·have:=ic (L:=L) (Em h)
  exact xS (by omega)
 ·rw[aiM];rfl
 ·have:=ic (L:=L) (EU h)
  exact yj (by omega)
theorem Yh(x y:RE)(h1:x<0)(h2:y<0):x+y<0:=by grind
theorem YF(a b c d:RE):a*d*(a*d)- -(b*c)* -(b*c)=a*a*(c*c+d*d)-(a*a+b*b)*(c*c):=by grind
theorem sub_zero(x:RE):x-0=x:=by grind
theorem zero_sub(x:RE):0-x= -x:=by grind
theorem VY(x y c:RE):x-c-(y-c)=x-y:=by grind
theorem abU(x y q:RE):x*q-q*y=q*(x-y):=by grind
theorem DE(x y:RE)(h1:x-y=0):x≤y:=by grind
theorem Cz(x y:RE)(h1:x-y=0):y≤x:=by grind
theorem rM(x y:RE)(h1:x-y=0):x=y:=le_antisymm (DE x y h1) (Cz x y h1)
theorem GR(a b c:RE)(h1:a+b=a+c):b≤c:=by grind
theorem GT(a b c:RE)(h1:a+b=a+c):c≤b:=by grind
theorem NM(a b c:RE)(h1:a+b=a+c):b=c:=le_antisymm (GR a b c h1) (GT a b c h1)
theorem A5(x y:RE):((x-(0))*(x-(y)))+((y-(0))*(x-(y)))+((y*y-(x*x)))=0:=by grind
theorem Ho(x y:RE)(h1:x*x=y*y)(h2:0<x)(h3:0<y):x≤y:=fun hg=>far (a8 (a8 (mul_pos (bH h2) (bH hg)) (le_of_lt (mul_pos (bH h3) (bH hg)))) (aQ (MQ h1))) (A5 x y)
theorem zV(x y:RE):((x-(0))*(y-(x)))+((y-(0))*(y-(x)))+((x*x-(y*y)))=0:=by grind
theorem Gi(x y:RE)(h1:x*x=y*y)(h2:0<x)(h3:0<y):y≤x:=fun hg=>far (a8 (a8 (mul_pos (bH h2) (bH hg)) (le_of_lt (mul_pos (bH h3) (bH hg)))) (aQ (I3 h1))) (zV x y)
theorem KO(x y:RE)(h1:x*x=y*y)(h2:0<x)(h3:0<y):x=y:=le_antisymm (Ho x y h1 h2 h3) (Gi x y h1 h2 h3)
theorem zW(x y:RE):((0-(x))*(x-(y)))+((0-(y))*(x-(y)))+((x*x-(y*y)))=0:=by grind
theorem Gl(x y:RE)(h1:x*x=y*y)(h2:x<0)(h3:y<0):x≤y:=fun hg=>far (a8 (a8 (mul_pos (bH h2) (bH hg)) (le_of_lt (mul_pos (bH h3) (bH hg)))) (aQ (I3 h1))) (zW x y)
theorem Bv(x y:RE):((0-(x))*(y-(x)))+((0-(y))*(y-(x)))+((y*y-(x*x)))=0:=by grind
theorem GB(x y:RE)(h1:x*x=y*y)(h2:x<0)(h3:y<0):y≤x:=fun hg=>far (a8 (a8 (mul_pos (bH h2) (bH hg)) (le_of_lt (mul_pos (bH h3) (bH hg)))) (aQ (MQ h1))) (Bv x y)
theorem L7(x y:RE)(h1:x*x=y*y)(h2:x<0)(h3:y<0):x=y:=le_antisymm (Gl x y h1 h2 h3) (GB x y h1 h2 h3)
theorem Gk(x y:RE)(h1:x-y≤0):x≤y:=by grind
theorem PM(x y:RE)(h1:x≤y):x-y≤0:=by grind
theorem Iu{x y:RE}(hx:0<x)(hy:0<y):sg (x*x-y*y)=sg (x-y):=by
 rw[←Cx,dN,dE (LI _ _ hx hy),ahc]
theorem NR{x y:RE}(hx:x<0)(hy:y<0):sg (x*x-y*y)= -sg (x-y):=by
 rw[←Cx,dN,iM (Yh _ _ hx hy)]
 omega
theorem YI{L:List RE}{x y:RE}(hx:x*x∈L)(hy:y*y∈L):jd (mI L x-mI L y)=sg (x-y):=by
 have hc:=F4 hx hy
 unfold mI
 rcases bj x with⟨h,e⟩|⟨h,e⟩|⟨h,e⟩<;>rcases bj y with⟨h',e'⟩|⟨h',e'⟩|⟨h',e'⟩<;>rw[e,e']
 ·rw[←Iu h h',hc,Dy,ahc,ahc]
 ·have:=ic (L:=L) (Em h)
  rw[h',sub_zero,e]
  exact xS (by omega)
 ·have:=ic (L:=L) (Em h)
  rw[dE (M2 _ _ h h')]
  exact xS (by omega)
 ·have:=ic (L:=L) (Em h')
  rw[h,zero_sub,sG,e']
  exact yj (by omega)
 ·rw[h,h',sub_self,dU,aiM];rfl
 ·have:=ic (L:=L) (EU h')
  rw[h,zero_sub,sG,e']
  exact xS (by omega)
 ·have:=ic (L:=L) (EU h)
  rw[iM (M3 _ _ h h')]
  exact yj (by omega)
 ·have:=ic (L:=L) (EU h)
  rw[h',sub_zero,e]
  exact yj (by omega)
 ·have h2:=NR h h'
  rw[hc,Dy]at h2
  have:sg (x-y)= -jd ((rkS L x:Int)-(rkS L y:Int)):=by omega
  rw[this]
  unfold jd
  split<;>split<;>(try split)<;>(try split)<;>omega
theorem Li{L:List RE}{x y:RE}(hx:x*x∈L)(hy:y*y∈L):cI (mI L x).natAbs (mI L y).natAbs=sg (x*x-y*y):=by
 have hc:=F4 hx hy
 have ab:∀z:RE,z≠0→(mI L z).natAbs=rkS L z:=fun z hz=>by
  unfold mI
  rcases bj z with⟨h,e⟩|⟨h,e⟩|⟨h,e⟩<;>rw[e]
  ·omega
  ·exact absurd h hz
  ·omega
 have ab0:(mI L 0).natAbs=0:=by unfold mI;rw[dU,aiM];rfl
 by_cases h:x=0
 ·subst h
  by_cases h':y=0
  ·subst h';rw[sub_self,dU];unfold cI;rw[agk (by omega),agu rfl]
  ·have:=ic (L:=L) h'
   rw[ab0,ab y h',mul_zero,zero_sub,sG,dE (FV h')]
   unfold cI;rw[agu (by omega)]
 ·by_cases h':y=0
  ·subst h'
   have:=ic (L:=L) h
   rw[ab0,ab x h,mul_zero,sub_zero,dE (FV h)]
   unfold cI;rw[agk (by omega),agk (by omega)]
  ·rw[ab x h,ab y h',hc]
theorem WI{L:List RE}{x:RE}(hL:L.length=3)(hx:x*x∈L):rkS L x≤3:=by
 have:=A9 sC (agO (0:RE) hx)
 rw[agi,hL]at this
 unfold rkS
 omega
theorem E4{L:List RE}{x:RE}(hL:L.length=3)(hx:x*x∈L): -3≤mI L x∧mI L x≤3:=by
 have h1:=WI hL hx
 have h2:=adJ x
 unfold mI
 rcases(by omega:sg x= -1∨sg x=0∨sg x=1)with e|e|e<;>rw[e]<;>omega
theorem EP{L:List RE}{x:RE}(hL:L.length=3)(hx:x*x∈L):msC (ixL L x)=mI L x:=by
 have:=E4 hL hx
 unfold msC ixL
 omega
theorem JU{L:List RE}{x:RE}(hL:L.length=3)(hx:x*x∈L):ixL L x<7:=by
 have:=E4 hL hx
 unfold ixL
 omega
theorem KM{L:List RE}{x y:RE}(hL:L.length=3)(hx:x*x∈L)(hy:y*y∈L):cI (ixL L x) (ixL L y)=sg (x-y):=by
 have h1:=E4 hL hx
 have h2:=E4 hL hy
 rw[Dy,←YI hx hy]
 unfold ixL
 congr 1
 omega
theorem uf(u v:RE):ysC (cls u v)=sg v:=by
 unfold cls ysC
 rcases bj v with⟨_,h⟩|⟨_,h⟩|⟨_,h⟩<;>rcases bj u with⟨_,h'⟩|⟨_,h'⟩|⟨_,h'⟩<;>rw[h,h']<;>rfl
section
variable {u w:PE} {Q:RE} {L:List RE}
theorem Dm(hQ:0<Q)(hu:u.1*u.1+u.2*u.2=Q)(hw:w.1*w.1+w.2*w.2=Q)(hL:L.length=3)(mu:u.1*u.1∈L)(mw:w.1*w.1∈L):sg (crs u w)=crI (cls u.1 u.2) (ixL L u.1) (cls w.1 w.2) (ixL L w.1):=by
 unfold crs crI
 show sg (u.1*w.2+ -(u.2*w.1))=_
 rw[Da,YF,hu,hw,abU,dN Q,dE hQ,ahc,sG,dN u.1,dN u.2,EP hL mu,EP hL mw,Li mu mw,KP,KP,uf,uf]
theorem nF(hQ:0<Q)(hu:u.1*u.1+u.2*u.2=Q)(hw:w.1*w.1+w.2*w.2=Q)(hL:L.length=3)(mu:u.1*u.1∈L)(mw:w.1*w.1∈L):BM (cls u.1 u.2) (ixL L u.1) (cls w.1 w.2) (ixL L w.1)=true:=by
 have cb:=uo u.1 u.2
 have y0:∀a b:RE,(cls a b==0||cls a b==2)=true↔b=0:=fun a b=>by
  have:=uf a b
  have hb:=uo a b
  rw[←sf,←this]
  unfold ysC
  constructor
  ·intro h
   simp at h
   rcases h with h|h<;>rw[h]<;>rfl
  ·intro h
   rcases(by omega:cls a b=0∨cls a b=1∨cls a b=2∨cls a b=3)with e|e|e|e<;>rw[e]at h ⊢ <;>simp at h ⊢
 unfold BM
 rw[EP hL mu,EP hL mw,af3,af3]
 have ms:=KP L u.1
 refine⟨⟨?_,?_⟩,?_⟩
 ·by_cases e:cls u.1 u.2=0
  ·have h:=(acd.1 e).2
   rw[dE h]at ms
   have:0<mI L u.1:=by
    unfold jd at ms
    split at ms
    ·cases ms
    ·split at ms
     ·cases ms
     ·omega
   simp[this]
  ·simp[e]
 ·by_cases e:cls u.1 u.2=2
  ·have h:=acZ.1 e
   rw[iM (Gf hQ hu h.1 h.2)]at ms
   have:mI L u.1<0:=by
    unfold jd at ms
    split at ms
    ·omega
    ·split at ms<;>cases ms
   simp[this]
  ·simp[e]
 ·cases hc:(cls u.1 u.2==0||cls u.1 u.2==2)
  ·rfl
  ·have hv:=(y0 _ _).1 hc
   have hu':u.1*u.1=Q:=by rw[hv,mul_zero,add_zero]at hu;exact hu
   have ha:=Li mu mw
   cases hd:(cls w.1 w.2==0||cls w.1 w.2==2)
   ·have hz:w.2≠0:=fun e=>by rw[(y0 _ _).2 e]at hd;cases hd
    have hlt:w.1*w.1<u.1*u.1:=by
     rw[hu',←hw]
     have:=jr (w.1*w.1) (FV hz)
     rw[zero_add,add_comm]at this
     exact this
    rw[dE (bH hlt)]at ha
    have:(mI L w.1).natAbs<(mI L u.1).natAbs:=by
     unfold cI at ha
     split at ha
     ·cases ha
     ·split at ha
      ·cases ha
      ·omega
    simp[this]
   ·have hz:=(y0 _ _).1 hd
    rw[hz,mul_zero,add_zero]at hw
    rw[hu',hw,sub_self,dU]at ha
    have:(mI L u.1).natAbs=(mI L w.1).natAbs:=by
     unfold cI at ha
     split at ha
     ·cases ha
     ·split at ha
      ·assumption
      ·cases ha
    simp[this]
end
def frm(c:Ln)(p:PE):PE:=(p.1-of c.1,p.2-of c.2.1)
def wg(u w z:PE):Bool:=NX (sg (crs u w)) (sg (crs u z)) (sg (crs z w))
theorem tv{ci:Ln}{F P T:Pt}[Rpd F][Rpd P][Rpd T](hQ:0<ci.2.2)(hF:onCi ci F)(hP:onCi ci P)(hT:onCi ci T)(hne:pR F≠pR T):
  decide (kL bI (ptd ci F) (ptd ci P) (ptd ci T)≤0)=wg (frm ci (pR F)) (frm ci (pR T)) (frm ci (pR P)):=by
 have hq:0<of ci.2.2:=lc hQ
 have hL:[(frm ci (pR F)).1*(frm ci (pR F)).1,(frm ci (pR P)).1*(frm ci (pR P)).1,(frm ci (pR T)).1*(frm ci (pR T)).1].length=3:=rfl
 revert hL
 generalize hL0:[(frm ci (pR F)).1*(frm ci (pR F)).1,(frm ci (pR P)).1*(frm ci (pR P)).1,(frm ci (pR T)).1*(frm ci (pR T)).1]=L
 intro hL
 have mF:(frm ci (pR F)).1*(frm ci (pR F)).1∈L:=by rw[←hL0];simp
 have mP:(frm ci (pR P)).1*(frm ci (pR P)).1∈L:=by rw[←hL0];simp
 have mT:(frm ci (pR T)).1*(frm ci (pR T)).1∈L:=by rw[←hL0];simp
 have cF:=uo (frm ci (pR F)).1 (frm ci (pR F)).2
 have cP:=uo (frm ci (pR P)).1 (frm ci (pR P)).2
 have cT:=uo (frm ci (pR T)).1 (frm ci (pR T)).2
 have hF:(frm ci (pR F)).1*(frm ci (pR F)).1+(frm ci (pR F)).2*(frm ci (pR F)).2=of ci.2.2:=hF
 have hP:(frm ci (pR P)).1*(frm ci (pR P)).1+(frm ci (pR P)).2*(frm ci (pR P)).2=of ci.2.2:=hP
 have hT:(frm ci (pR T)).1*(frm ci (pR T)).1+(frm ci (pR T)).2*(frm ci (pR T)).2=of ci.2.2:=hT
 have hd:(!(cls (frm ci (pR F)).1 (frm ci (pR F)).2==cls (frm ci (pR T)).1 (frm ci (pR T)).2&&ixL L (frm ci (pR F)).1==ixL L (frm ci (pR T)).1))=true:=by
  cases h1:cls (frm ci (pR F)).1 (frm ci (pR F)).2==cls (frm ci (pR T)).1 (frm ci (pR T)).2
  ·rfl
  ·cases h2:ixL L (frm ci (pR F)).1==ixL L (frm ci (pR T)).1
   ·rfl
   ·exfalso
    have h1:=aha.1 h1
    have h2:=aha.1 h2
    have h3:=KM hL mF mT
    rw[h2]at h3
    have e0:∀n,cI n n=0:=fun n=>by unfold cI;rw[agk (by omega),agu rfl]
    rw[e0]at h3
    have ex:(frm ci (pR F)).1=(frm ci (pR T)).1:=rM _ _ (sf.1 h3.symm)
    have ey:sg (frm ci (pR F)).2=sg (frm ci (pR T)).2:=by rw[←uf (frm ci (pR F)).1,←uf (frm ci (pR T)).1,h1]
    have es:(frm ci (pR F)).2*(frm ci (pR F)).2=(frm ci (pR T)).2*(frm ci (pR T)).2:=by
     rw[←hT,ex]at hF
     exact NM _ _ _ hF
    have e2:(frm ci (pR F)).2=(frm ci (pR T)).2:=by
     rcases bj (frm ci (pR F)).2 with⟨g,e⟩|⟨g,e⟩|⟨g,e⟩
     ·rw[e]at ey
      exact KO _ _ es g (MA.1 ey.symm)
     ·rw[e]at ey
      rw[g,sf.1 ey.symm]
     ·rw[e]at ey
      exact L7 _ _ es g (Xx.1 ey.symm)
    exact hne (aiV (Bo _ _ _ ex) (Bo _ _ _ e2))
 have a:=OK ⟨_,cF⟩ ⟨_,cT⟩ ⟨_,JU hL mF⟩ ⟨_,JU hL mT⟩ (by
  simp only
  rw[nF hq hF hT hL mF mT,nF hq hT hF hL mT mF,hd]
  rfl) ⟨_,cP⟩ ⟨_,JU hL mP⟩ (by
  simp only
  rw[nF hq hF hP hL mF mP,nF hq hP hF hL mP mF,nF hq hT hP hL mT mP,nF hq hP hT hL mP mT]
  rfl)
 simp only at a
 unfold wg
 rw[Dm hq hF hT hL mF mT,Dm hq hF hP hL mF mP,Dm hq hP hT hL mP mT,←a]
 have cx:∀{p q:Pt} [Rpd p] [Rpd q],(frm ci (pR p)).1*(frm ci (pR p)).1∈L→(frm ci (pR q)).1*(frm ci (pR q)).1∈L→bI (xP p) (xP q)=cI (ixL L (frm ci (pR p)).1) (ixL L (frm ci (pR q)).1):=fun{p q} _ _ hp hq'=>by
  rw[cmpT_re z8 z8,J4,J4,KM hL hp hq',←VY _ _ (of ci.1)]
  rfl
 unfold ptd
 rw[ML,ML,ML]
 exact congrArg (fun n:Int=>decide (n≤0)) (C7 (cx mP mF) (cx mT mF) (cx mP mT))
def lK(c:Ln)(p:PE):Prop:=(frm c p).1*(frm c p).1+(frm c p).2*(frm c p).2=of c.2.2
def tb(l:Ln)(p:PE):Prop:=of l.1*p.1+of l.2.1*p.2=of l.2.2
def tE(l:Ln)(p:PE):RE:= -of l.2.1*p.1+of l.1*p.2
def Lt(c:Ln)(F T p:PE):Prop:=lK c p∧wg (frm c F) (frm c T) (frm c p)=true
def btE(a b x:RE):Prop:=(a≤x∧x≤b)∨(b≤x∧x≤a)
def yA(l:Ln)(F T p:PE):Prop:=tb l p∧btE (tE l F) (tE l T) (tE l p)
def onE(c:Cv)(p:PE):Prop:=if c.1=true then Lt (ciC c) (pR (ccF c)) (pR (ccT c)) p else yA (lnC c) (pR (frC c)) (pR (toC c)) p
structure GdE (c:Cv):Prop where
 f:Rpd (frC c)
 t:Rpd (toC c)
 ne:pR (frC c)≠pR (toC c)
 q:c.1=true→0<(ciC c).2.2∧onCi (ciC c) (frC c)∧onCi (ciC c) (toC c)
 l:c.1=false→((lnC c).1≠0∨(lnC c).2.1≠0)∧oo (lnC c) (frC c)∧oo (lnC c) (toC c)
theorem qI{c:Ln}{p:Pt}[Rpd p]:(ot c p==0)=true↔lK c (pR p):=by
 rw[aha]
 refine⟨fun h=>DU h,fun h=>?_⟩
 rw[zv]
 have:(pX p-of c.1)*(pX p-of c.1)+(pY p-of c.2.1)*(pY p-of c.2.1)=of c.2.2:=h
 rw[this,j7,dU]
 rfl
theorem xX{l:Ln}{p:Pt}[Rpd p]:(p6 l p==0)=true↔tb l (pR p):=by
 rw[aha]
 refine⟨fun h=>DG h,fun h=>?_⟩
 rw[zH]
 have:of l.1*pX p+of l.2.1*pY p=of l.2.2:=h
 rw[this,j7,dU]
theorem ze(a b x:RE):OJ (sg (a-b)) (sg (a-x)) (sg (x-b)) (sg (x-a)) (sg (b-x))=true↔btE a b x:=by
 have h1:∀y z:RE,sg (y-z)≤0↔y≤z:=fun y z=>by
  rw[ab9]
  exact⟨fun h=>Gk _ _ h,fun h=>PM _ _ h⟩
 unfold OJ btE
 cases h:decide (sg (a-b)>0)
 ·have h2:a≤b:=(h1 _ _).1 (by have:=agK h;omega)
  simp only[cond_false,af3,ah8,h1]
  exact⟨fun h=>.inl h,fun h'=>h'.elim id (fun g=>⟨le_trans h2 g.1,le_trans g.2 h2⟩)⟩
 ·have h2:b≤a:=by
   have:=af2 h
   rcases lt_or_ge a b with g|g
   ·rw[iM (pT _ _ g)]at this
    omega
   ·exact g
  simp only[agd,af3,ah8,h1]
  exact⟨fun h=>.inr ⟨h.1,h.2⟩,fun h'=>h'.elim (fun g=>⟨le_trans h2 g.1,le_trans g.2 h2⟩) (fun g=>⟨g.1,g.2⟩)⟩
theorem Pe{c:Cv}(h:GdE c){p:Pt}[hp:Rpd p]:onP c p=true↔onE c (pR p):=by
 have hf:=h.f
 have ht:=h.t
 obtain⟨ar,li,ci,cw,fr,to⟩:=c
 have hf:Rpd fr:=hf
 have ht:Rpd to:=ht
 unfold onP onE
 rw[af3]
 cases ar
 ·obtain⟨l1,l2,l3⟩:=h.l rfl
  rw[agk (by intro h;cases h)]
  show(p6 li p==0)=true∧u4 (bZ fr p) (bZ p to)=true↔tb li (pR p)∧btE (tL li fr) (tL li to) (tL li p)
  rw[xX]
  constructor
  ·intro ⟨h1,h2⟩
   refine⟨h1,?_⟩
   rw[IV (F:=fr) (P:=p) (T:=to) l1 l2 (show oo li p from h1) l3]at h2
   exact(ze _ _ _).1 h2
  ·intro ⟨h1,h2⟩
   refine⟨h1,?_⟩
   rw[IV (F:=fr) (P:=p) (T:=to) l1 l2 (show oo li p from h1) l3]
   exact(ze _ _ _).2 h2
 ·obtain⟨q1,q2,q3⟩:=h.q rfl
  have hne:pR fr≠pR to:=h.ne
  rw[agu rfl]
  show(ot ci p==0)=true∧decide (kL bI (ptd ci (ccF (true,li,ci,cw,fr,to))) (ptd ci p) (ptd ci (ccT (true,li,ci,cw,fr,to)))≤0)=true↔lK ci (pR p)∧wg _ _ _=true
  rw[qI]
  cases cw
  ·constructor
   ·intro ⟨h1,h2⟩
    refine⟨h1,?_⟩
    have:=tv (ci:=ci) (F:=fr) (P:=p) (T:=to) q1 q2 h1 q3 hne
    exact this▸h2
   ·intro ⟨h1,h2⟩
    refine⟨h1,?_⟩
    have:=tv (ci:=ci) (F:=fr) (P:=p) (T:=to) q1 q2 h1 q3 hne
    exact this.trans h2
  ·constructor
   ·intro ⟨h1,h2⟩
    refine⟨h1,?_⟩
    have:=tv (ci:=ci) (F:=to) (P:=p) (T:=fr) q1 q3 h1 q2 (ahz hne)
    exact this▸h2
   ·intro ⟨h1,h2⟩
    refine⟨h1,?_⟩
    have:=tv (ci:=ci) (F:=to) (P:=p) (T:=fr) q1 q3 h1 q2 (ahz hne)
    exact this.trans h2
end RE
end
def vcR(x y:Int):Rat×Rat:=((x:Rat),(y:Rat))
instance aaq:Bd (-1:Rat) 3:=cO (n:= -1) (by decide)
theorem zI{v:Rat×Rat}{j k:Nat}[h:Bd v j](hj:mx j (mx 1 (mx j (mx 1 1)))≤k)(hk:k≤480000):okP k (enc (atP v)):=af2 (aI (x:=atP v) hj hk)
section
namespace RE
theorem cmpP_0{p q:Pt}[Rpd p][Rpd q]:bZ p q=0↔pR p=pR q:=by
 rw[yF]
 obtain⟨h1,h2,h3⟩:=QN (pR p) (pR q)
 rcases D5.tri (pR p) (pR q)with h|h|h
 ·rw[h1 h]
  exact⟨fun e=>absurd e (by decide),fun e=>absurd h (by rw[e];exact D5.irr _)⟩
 ·exact⟨fun _=>h,fun _=>h2 h⟩
 ·rw[h3 h]
  exact⟨fun e=>absurd e (by decide),fun e=>absurd h (by rw[e];exact D5.irr _)⟩
theorem p7(v:Rat×Rat):pR (atP v)=(of v.1,of v.2):=aiV (acJ v) (adH v)
theorem JD{ax bx c:Rat}(h:eZ c=true):of (ax+bx*rtQ c)=v2 ax bx c:=by
 unfold v2
 rw[of_add,aS,LL h]
theorem rz(ax bx ay b_ c:Rat):pR (mj ax bx ay b_ c)=(v2 ax bx c,v2 ay b_ c):=by
 unfold mj
 cases h:eZ c
 ·rfl
 ·exact(p7 _).trans (aiV (JD h) (JD h))
theorem Yz(a b r:RE):(a+ -1*r-a)*(a+ -1*r-a)+(b+0*r-b)*(b+0*r-b)=r*r:=by grind
theorem PG(a b r:RE):(a+1*r-a)*(a+1*r-a)+(b+0*r-b)*(b+0*r-b)=r*r:=by grind
theorem Qj(a r:RE)(h1:a+ -1*r=a+1*r):r≤0:=by grind
theorem Qw(a r:RE)(h1:a+ -1*r=a+1*r):0≤r:=by grind
theorem VK(a r:RE)(h1:a+ -1*r=a+1*r):r=0:=le_antisymm (Qj a r h1) (Qw a r h1)
theorem Wg{c:Ln}(h:0<c.2.2):lK c (pR (ky c))∧lK c (pR (kx c)):=by
 have hr:=fX (show 0≤c.2.2 by grind)
 unfold ky kx
 rw[rz,rz]
 exact⟨(Yz _ _ _).trans hr,(PG _ _ _).trans hr⟩
theorem Rg{c:Ln}(h:0<c.2.2):pR (ky c)≠pR (kx c):=by
 unfold ky kx
 rw[rz,rz]
 intro e
 have e1:=VK _ _ (congrArg Prod.fst e)
 have hr:=fX (show 0≤c.2.2 by grind)
 rw[e1,mul_zero]at hr
 have:=ub hr
 grind
theorem My{l:Ln}{v:Rat×Rat}(h:l.1*v.1+l.2.1*v.2=l.2.2):(p6 l (atP v)==0)=true:=by
 rw[xX,p7]
 exact congrArg of h
theorem Jc{c:Ln}{v:Rat×Rat}(h:(v.1-c.1)*(v.1-c.1)+(v.2-c.2.1)*(v.2-c.2.1)=c.2.2):(ot c (atP v)==0)=true:=by
 rw[qI,p7]
 unfold lK frm
 dsimp only
 rw[←of_sub,←of_sub]
 exact congrArg of h
theorem RI{v w:Rat×Rat}(h:v≠w):bZ (atP v) (atP w)≠0:=fun e=>h (by
 have:=cmpP_0.1 e
 rw[p7,p7]at this
 exact aiV (ub (congrArg Prod.fst this)) (ub (congrArg Prod.snd this)))
end RE
open RE
def gdN(c:BCU):Prop:=mG c∧fi (dC c) (frC (dC c))=true∧fi (dC c) (toC (dC c))=true∧bZ (frC (dC c)) (toC (dC c))≠0
theorem gdN.gd{c:BCU}(h:gdN c):gdC c:=⟨h.1.1,h.2.1,h.2.2.1⟩
theorem vk{a b:Rat×Rat}[ba:Bd a 1][bb:Bd b 1](h:gU a b=false):gdN (eL a b):=by
 have hz:(oL a b).1≠0∨(oL a b).2.1≠0:=by
  unfold gU at h
  by_cases e:a.2-b.2=0
  ·rw[afZ e,ahr]at h
   exact .inr (agK h)
  ·exact .inl e
 have hne:a≠b:=fun e=>by
  subst e
  unfold oL at hz
  rcases hz with h|h<;>exact h (by show _-_=(0:Rat);grind)
 have b1:Bd (oL a b).1 12:=(inferInstance:Bd (a.2-b.2) _).mono (by decide)
 have b2:Bd (oL a b).2.1 12:=(inferInstance:Bd (b.1-a.1) _).mono (by decide)
 have b3:Bd (oL a b).2.2 63:=(inferInstance:Bd ((a.2-b.2)*a.1+(b.1-a.1)*a.2) _).mono (by decide)
 have hl:=ku (h:=⟨b1,b2,b3⟩) hz
 have hL:Dv (enc (oL a b)):=⟨af2 (okd (x:=oL a b) (by decide) (by decide)),by rw[aA];exact hz⟩
 unfold eL
 rw[h]
 refine⟨⟨⟨fun e=>(by cases e),fun _=>hL,zI (by decide) (by decide),zI (by decide) (by decide)⟩,fun e=>(by cases e),fun _=>hl⟩,?_⟩
 simp only[dC,fi,frC,toC,lnC,aA,cond_false]
 exact⟨My (by unfold oL;grind),My (by unfold oL;grind),RI hne⟩
theorem zx{c:Ln}[bc:BdC c](h:0<c.2.2):∀d∈zr (enc c),gdN d:=by
 have hs:=gF h
 have bx:=bc.x
 have b_:=bc.y
 have bq:=bc.q
 have b0:Bd (0:Rat) 3:=cO (n:=0) (by decide)
 have b1:Bd (1:Rat) 3:=cO (n:=1) (by decide)
 have hC:oR (enc c):=⟨af2 (okd (h:=Nd (c:=c)) (by decide) (by decide)),by rw[aA];exact h⟩
 have q0:(0:Rat)≤c.2.2:=by grind
 have pl:Rpd (ky c):=zk (fun e=>absurd e.1 (by decide)) q0
 have pr:Rpd (kx c):=zk (fun e=>absurd e.1 (by decide)) q0
 have bl:Bd (ky c) 490:=xK (bx.mono (by decide:4≤4)) (aaq.mono (by decide:3≤3)) b_ b0 bq (by decide)
 have br:Bd (kx c) 490:=xK (bx.mono (by decide:4≤4)) b1 b_ b0 bq (by decide)
 have ol:okP 500 (enc (ky c)):=af2 (aI (by decide) (by decide))
 have or_:okP 500 (enc (kx c)):=af2 (aI (by decide) (by decide))
 obtain⟨nl,nr_⟩:=Wg h
 have nl:=qI.2 nl
 have nr_:=qI.2 nr_
 have ne:=Rg h
 intro d hd
 have:d=(true,o00,enc c,false,enc (ky c),enc (kx c))∨d=(true,o00,enc c,false,enc (kx c),enc (ky c)):=by
  unfold zr at hd
  rw[aA]at hd
  simpa using hd
 rcases this with e|e<;>rw[e]
 ·refine⟨⟨⟨fun _=>hC,fun e=>(by cases e),ol,or_⟩,fun _=>hs,fun e=>(by cases e)⟩,?_⟩
  simp only[dC,fi,frC,toC,ciC,aA,agd]
  exact⟨nl,nr_,fun e=>ne (cmpP_0.1 e)⟩
 ·refine⟨⟨⟨fun _=>hC,fun e=>(by cases e),or_,ol⟩,fun _=>hs,fun e=>(by cases e)⟩,?_⟩
  simp only[dC,fi,frC,toC,ciC,aA,agd]
  exact⟨nr_,nl,fun e=>ne (cmpP_0.1 e).symm⟩
theorem Wz{a b c:Rat×Rat}(h:fa a b c≠0):(c.1-(oJ a b c).1)*(c.1-(oJ a b c).1)+(c.2-(oJ a b c).2.1)*(c.2-(oJ a b c).2.1)=(oJ a b c).2.2:=by
 have h2:fa a b c+fa a b c≠0:=by grind
 have eX:Cd a b c*(fa a b c+fa a b c)=_:=agC h2
 have eY:Ct a b c*(fa a b c+fa a b c)=_:=agC h2
 unfold oJ
 dsimp only
 generalize Cd a b c=X at*
 generalize Ct a b c=Y at*
 have k:fa a b c*(2*((c.1-a.1)*X+(c.2-a.2)*Y)-((c.1-a.1)*(c.1-a.1)+(c.2-a.2)*(c.2-a.2)))=0:=by
  unfold fa at*
  grind
 rcases aiA.1 k with g|g
 ·exact absurd g h
 ·grind
theorem acY{a b c:Rat×Rat}(h:fa a b c≠0)(e:a=c):False:=by
 subst e
 refine h ?_
 unfold fa
 grind
theorem xE{x y:Rat}(h:¬(x=0∧y=0)):0<x*x+y*y:=by
 have nn:∀a:Rat,0≤a*a:=fun a=>by
  rcases(by grind:0≤a∨0≤ -a)with h|h
  ·exact agm h h
  ·have:=agm h h;grind
 have h1:=nn x
 have h2:=nn y
 rcases(by grind:0<x*x+y*y∨(x*x=0∧y*y=0))with g|⟨g1,g2⟩
 ·exact g
 ·exact absurd ⟨by simpa using aiA.1 g1,by simpa using aiA.1 g2⟩ h
theorem HC{a b c:Rat×Rat}[Bd a 1][Bd c 1][bc:BdC (oJ a b c)](h:fa a b c≠0):gdN (ml a b c):=by
 have hon:=Wz h
 have hne:a≠c:=fun e=>acY h e
 have hq:0<(oJ a b c).2.2:=by
  refine xE fun⟨e1,e2⟩=>hne ?_
  unfold oJ at hon
  dsimp only at hon
  rw[e1,e2]at hon
  by_cases g:c.1-(a.1+0)=0∧c.2-(a.2+0)=0
  ·obtain⟨g1,g2⟩:=g
   exact aiV (by grind) (by grind)
  ·have:=xE g
   grind
 have hs:=gF (h:=bc) hq
 have bx:=bc.x
 have b_:=bc.y
 have bq:=bc.q
 have hC:oR (enc (oJ a b c)):=⟨af2 (okd (h:=Nd (c:=oJ a b c)) (by decide) (by decide)),by rw[aA];exact hq⟩
 unfold ml
 rw[af1 h]
 refine⟨⟨⟨fun _=>hC,fun e=>(by cases e),zI (by decide) (by decide),zI (by decide) (by decide)⟩,fun _=>hs,fun e=>(by cases e)⟩,?_⟩
 simp only[dC,fi,frC,toC,ciC,aA,agd,cond_false]
 refine⟨Jc ?_,Jc hon,RI hne⟩
 unfold oJ
 grind
end
def gdM(c:BCU):Prop:=mG c∧fi (dC c) (frC (dC c))=true∧fi (dC c) (toC (dC c))=true
theorem gdM.gd{c:BCU}(h:gdM c):gdC c:=⟨h.1.1,h.2.1,h.2.2⟩
theorem gdN.m{c:BCU}(h:gdN c):gdM c:=⟨h.1,h.2.1,h.2.2.1⟩
section
section
variable {α:Type} {lt:α→α→Prop} {f:α→α→Int}
end
def Sp(c:Cv)(p:Pt):Prop:=Rpd p∧fi c p=true
structure Crp (c:Cv):Prop where
 f:Sp c (frC c)
 t:Sp c (toC c)
 q:c.1=true→0<(ciC c).2.2
 l:c.1=false→(lnC c).1≠0∨(lnC c).2.1≠0
theorem Lb{c:BCU}(h:gdC c):Crp (dC c):=by
 obtain⟨h1,h2,h3⟩:=h
 exact⟨⟨Lx h1.2.2.1,h2⟩,⟨Lx h1.2.2.2,h3⟩,fun e=>(h1.1 e).2,fun e=>(h1.2.1 e).2⟩
open RE in
theorem Crp.e{c:Cv}(h:Crp c)(hne:bZ (frC c) (toC c)≠0):GdE c:=by
 have hf:=h.f.1
 have ht:=h.t.1
 have s:=fun p (hp:Sp c p)=>hp.2
 refine⟨hf,ht,fun e=>hne (cmpP_0.2 e),fun e=>?_,fun e=>?_⟩
 ·have h2:=h.f.2
  have h3:=h.t.2
  unfold fi at h2 h3
  rw[e]at h2 h3
  exact⟨h.q e,DU (aha.1 h2),DU (aha.1 h3)⟩
 ·have h2:=h.f.2
  have h3:=h.t.2
  unfold fi at h2 h3
  rw[e]at h2 h3
  exact⟨h.l e,DG (aha.1 h2),DG (aha.1 h3)⟩
namespace RE
end RE
structure Ord (c:Cv):Prop where
 tr:∀{p q r},Sp c p→Sp c q→Sp c r→gQ c p q<0→gQ c q r<0→gQ c p r<0
 tri:∀{p q},Sp c p→Sp c q→gQ c p q<0∨bZ p q=0∨gQ c q p<0
 irr:∀{p q},Sp c p→Sp c q→bZ p q=0→gQ c p q=0
 asy:∀{p q},Sp c p→Sp c q→gQ c p q<0→0<gQ c q p
theorem gdN.e{c:BCU}(h:gdN c):RE.GdE (dC c):=(Lb h.gd).e h.2.2.2
end
def CB(c:Cv)(p q:Pt):Int:=bif c.1 then(bif cwC c then-(kL bI (ptd (ciC c) (toC c)) (ptd (ciC c) p) (ptd (ciC c) q))else kL bI (ptd (ciC c) (frC c)) (ptd (ciC c) p) (ptd (ciC c) q))else bZ p q*bZ (toC c) (frC c)
namespace RE
end RE
theorem O5(f p q:Bool×Rt): -1≤kL bI f p q∧kL bI f p q≤1:=by
 have h:∀n,-1≤jd n∧jd n≤1:=fun n=>by
  unfold jd
  split<;>(try split)<;>omega
 unfold kL
 cases mo bI f p==mo bI f q
 ·exact h _
 ·exact h _
def adp:List En:=[enT Na,enT Mh]
def Vc(c:BCU)(p q:BP)(_k:KT):Option (List RV):=match !c.1 with|true=>(og (decide (okP 4000 p∧okP 4000 q)) (og (decide (okP 4000 c.2.2.2.2.2∧okP 4000 c.2.2.2.2.1)) (some [RV.d ai2 (i64.wrap ((bZ (dec p) (dec q))*(bZ (dec c.2.2.2.2.2) (dec c.2.2.2.2.1))))])))|false=>(match c.2.2.2.1 with|true=>(og (decide (ok Ln 300 c.2.2.1∧okP 4000 c.2.2.2.2.2∧okP 4000 p∧okP 4000 q)) (some [RV.d ai2 (i64.wrap (0-(kL bI (ptd (dec c.2.2.1) (dec c.2.2.2.2.2)) (ptd (dec c.2.2.1) (dec p)) (ptd (dec c.2.2.1) (dec q)))))]))|false=>(og (decide (ok Ln 300 c.2.2.1∧okP 4000 c.2.2.2.2.1∧okP 4000 p∧okP 4000 q)) (some [RV.d ai2 (kL bI (ptd (dec c.2.2.1) (dec c.2.2.2.2.1)) (ptd (dec c.2.2.1) (dec p)) (ptd (dec c.2.2.1) (dec q)))])))
def ZP:Cn 194 [tCU,tP,tP]:=cn fun(c:BCU) (p q:BP)=>lf (okC 4000 c∧okP 4000 p∧okP 4000 q) [.d ai2 (CB (dC c) (dec p) (dec q))] fun h=>by
 refine az adp (Vc c p q) ⟨0,?_⟩
 obtain⟨hc,hp,hq⟩:=h
 obtain⟨ar,li,ci,cw,fr,to⟩:=c
 have h3:=hc.2.2.1
 have h4:=hc.2.2.2
 simp only at h3 h4
 unfold Vc CB
 cases ar
 ·have b1:=xL (dec p) (dec q)
  have b2:=xL (dec to) (dec fr)
  simp only[dT (show okP 4000 p∧okP 4000 q from⟨hp,hq⟩),dT (show okP 4000 to∧okP 4000 fr from⟨h4,h3⟩),yv b1 b2]
  rfl
 ·have e:=(hc.1 rfl).1
  simp only at e
  cases cw
  ·simp only[dT (show ok Ln 300 ci∧okP 4000 fr∧okP 4000 p∧okP 4000 q from⟨e,h3,hp,hq⟩)]
   rfl
  ·have b:=O5 (ptd (dec ci) (dec to)) (ptd (dec ci) (dec p)) (ptd (dec ci) (dec q))
   simp only[dT (show ok Ln 300 ci∧okP 4000 to∧okP 4000 p∧okP 4000 q from⟨e,h4,hp,hq⟩)]
   try dsimp only[Bool.not_true]
   rw[aP (x:=0-kL bI (ptd (dec ci) (dec to)) (ptd (dec ci) (dec p)) (ptd (dec ci) (dec q))) (by omega) (by omega),ahN]
   rfl
structure afT (c:Cv):Prop extends Ord c where
 le:∀{p q},Sp c p→Sp c q→(gQ c p q≤0↔¬gQ c q p<0)
 lt:∀{p q r},Sp c p→Sp c q→Sp c r→¬gQ c q p<0→¬gQ c r q<0→¬gQ c r p<0
section
section
variable {α K:Type}
def mq(lt:α→α→Bool):List α→α→List α
 |[],a=>[a]
 |b::r,a=>bif lt a b then b::mq lt r a else a::b::r
def uq(lt:α→α→Bool)(l:List α):List α:=(l.foldl (mq lt) []).reverse
def l7(eq:α→α→Bool):α→List α→List α
 |_,[]=>[]
 |p,q::r=>bif eq q p then l7 eq q r else q::l7 eq q r
def yV(eq:α→α→Bool):List α→List α
 |[]=>[]
 |x::r=>x::l7 eq x r
theorem vA{lt:α→α→Bool}{a x:α}:∀{r:List α},x∈mq lt r a↔x=a∨x∈r
 |[]=>by simp[mq]
 |b::r=>by
  unfold mq
  cases lt a b
  ·simp
  ·simp only[agd,agl,vA (r:=r)]
   constructor
   ·rintro (h|h|h)
    ·exact .inr (.inl h)
    ·exact .inl h
    ·exact .inr (.inr h)
   ·rintro (h|h|h)
    ·exact .inr (.inl h)
    ·exact .inl h
    ·exact .inr (.inr h)
theorem BE{lt:α→α→Bool}{x:α}:∀{l r:List α},x∈l.foldl (mq lt) r↔x∈l∨x∈r
 |[],r=>by simp
 |a::l,r=>by
  rw[aip,BE,vA,agl]
  constructor
  ·rintro (h|h|h)
   ·exact .inl (.inr h)
   ·exact .inl (.inl h)
   ·exact .inr h
  ·rintro ((h|h)|h)
   ·exact .inr (.inl h)
   ·exact .inl h
   ·exact .inr (.inr h)
theorem z5{lt:α→α→Bool}{x:α}{l:List α}:x∈uq lt l↔x∈l:=by
 unfold uq
 rw[List.mem_reverse,BE]
 simp
theorem qA{lt:α→α→Bool}{a:α}:∀{r:List α},(mq lt r a).length=r.length+1
 |[]=>rfl
 |b::r=>by
  unfold mq
  cases lt a b
  ·rfl
  ·simp[qA (r:=r)]
theorem Eg{lt:α→α→Bool}:∀{l r:List α},(l.foldl (mq lt) r).length=l.length+r.length
 |[],r=>by simp
 |a::l,r=>by
  rw[aip,Eg,qA,agi]
  omega
theorem BA{lt:α→α→Bool}{l:List α}:(uq lt l).length=l.length:=by
 unfold uq
 rw[List.length_reverse,Eg]
 rfl
theorem BF{eq:α→α→Bool}:∀{l:List α} {p:α},(l7 eq p l).length≤l.length
 |[],_=>af6 _
 |q::r,p=>by
  unfold l7
  have:=BF (eq:=eq) (l:=r) (p:=q)
  cases eq q p
  ·simp only[cond_false,agi];omega
  ·simp only[agd,agi];omega
theorem It{eq:α→α→Bool}{l:List α}:(yV eq l).length≤l.length:=by
 cases l with
 |nil=>exact af6 _
 |cons x r=>
  have:=BF (eq:=eq) (l:=r) (p:=x)
  simp only[yV,agi]
  omega
theorem ux{eq:α→α→Bool}{x:α}:∀{l:List α} {p:α},x∈l7 eq p l→x∈l
 |[],_,h=>h
 |q::r,p,h=>by
  unfold l7 at h
  cases hq:eq q p<;>rw[hq]at h
  ·rcases agl.1 h with e|e
   ·rw[e];simp
   ·exact agO _ (ux e)
  ·exact agO _ (ux h)
theorem JE{eq:α→α→Bool}{x:α}{l:List α}(h:x∈yV eq l):x∈l:=by
 cases l with
 |nil=>exact h
 |cons y r=>
  rcases agl.1 h with e|e
  ·rw[e];simp
  ·exact agO _ (ux e)
variable {lt:K→K→Prop} (hl:DR lt) (κ:α→K)
include hl in
include hl in
include hl in
include hl in
include hl in
end
def ltP(c:Cv)(a b:BP):Bool:=decide (CB c (dec a) (dec b)<0)
def gN(a b:BP):Bool:=bZ (dec a) (dec b)==0
def cY(c:Cv)(l:List BP):List BP:=yV gN (uq (ltP c) l)
theorem qe{c:Cv}{l:List BP}{x:BP}(h:x∈cY c l):x∈l:=z5.1 (JE h)
theorem m5{c:Cv}{l:List BP}:(cY c l).length≤l.length:=by
 have:=It (eq:=gN) (l:=uq (ltP c) l)
 rw[BA]at this
 exact this
end
section
theorem yi{n m k:Nat}(h1:n+m≤100000000)(hk:k≤1000000):decide ((n+m)*k≤140737488355328∧n+m≤140737488355328)=true:=by
 refine afZ ⟨?_,by omega⟩
 have:=aih h1 hk
 omega
def jV(c:BCU)(l:List BP):Prop:=okC 4000 c∧l.length≤19∧∀x∈l,okP 4000 x
instance (c:BCU) (l:List BP):Decidable (jV c l):=by unfold jV;infer_instance
def I5:Ctx:=CX [] []
def I1(p:List BP)(_k:KT):Option (List RV):=match p with|[]=>B3 (some [RV.new 37 tP []]) (og (decide ((([]:List BP).length+p.length)*320≤140737488355328∧([]:List BP).length+p.length≤140737488355328)) (some [RV.new 37 tP (([]:List BP)++p)]))|_::_=>(og (decide ((([]:List BP).length+p.length)*320≤140737488355328∧([]:List BP).length+p.length≤140737488355328)) (some [RV.new 37 tP (([]:List BP)++p)]))
theorem Ym(p:List BP):RS I5 87 [.d (.sl tP) p] (I1 p):=rsX
def Ds:Cn 87 [(.sl tP)]:=cn fun(p:List BP)=>lf (p.length≤100000) [.new 37 tP p] fun h=>by
 refine Ctx.Res.con (C:=I5) (DD (E:=[]) trivial) ?_ (fn:=Tryz.f87) (by kernel_rfl) (by kernel_rfl)
 refine Ym _ ⟨0,?_⟩
 unfold I1
 rw[yi (n:=([]:List BP).length) (m:=p.length) (by simp;omega) (by omega)]
 cases p with
 |nil=>exact dq _
 |cons a p=>rfl
def YA:List En:=[enT Na]
def Ug(p q:BP)(_k:KT):Option (List RV):=og (decide (okP 4000 p∧okP 4000 q)) (some [RV.d .bool ((bZ (dec p) (dec q))==0)])
def MN:Cn 196 [tP,tP]:=cn fun(p q:BP)=>lf (okP 4000 p∧okP 4000 q) [.d .bool (bZ (dec p) (dec q)==0)] fun h=>by
 refine az YA (Ug p q) ⟨0,?_⟩
 unfold Ug
 rw[dT h]
def FI:dH:={keep:=true,run:=fun _ _ _=>none}
theorem GO:SpK 329 FI:=by
 refine⟨by kernel_rfl,fun R args k r h=>(by cases h),fun g h=>(by cases h)⟩
def C0:List En:=[enT ZP,enT MN,enK Ds,⟨329,FI,GO⟩]
def X7:NT:=[((288,6),{keep:=[0,1,2,6,7,8],hl:=2}),((328,3),{keep:=[0,1,2,3,8],hl:=2}),((328,15),{keep:=[0,1,2,3,8,9],hl:=2}),((288,22),{keep:=[0,1,2,6],hl:=2}),((288,34),{keep:=[0,1,2,6,7,8],hl:=2}),((195,14),{keep:=[0,1,5],hl:=2}),((195,32),{keep:=[0,1,5,6,7],hl:=2}),((90,5),{keep:=[1],hl:=0}),((192,0),{keep:=[],hl:=0}),((288,15),{keep:=[0,1,2,6,8],hl:=0}),((288,20),{keep:=[0,1,2,6],hl:=0}),((328,18),{keep:=[0,1,2,3,8,9,18,19,20,21,22,23,24,25,26,27,28,29,30,31,32,33,34],hl:=0}),((90,7),{keep:=[11],hl:=0})]
def gO:Ctx:=CX (ens C0) X7
def pu(c:BCU)(l:List BP)(s288_7 s288_8:Int)(r288_1:List BP):Cfg:=⟨288,[.blk 0,.seq 19],[(0,.own 1),(1,SI (l.length:Int)),(2,.clo 193 [0]),(6,SI 20),(7,SI s288_7),(8,SI s288_8)],[.box 39 (Ty.split tCU c),.row 37 tP r288_1],2,[⟨192,[],0,4,[],2,none⟩,⟨90,[.seq 6],5,2,[(1,.own 1)],0,none⟩]⟩
def pD(c:BCU)(l:List BP)(s288_7 s288_8 s328_8:Int)(r328_1:List BP):Cfg:=⟨328,[.blk 0],[(0,.own 1),(1,SI s288_7),(2,SI s288_8),(3,.clo 193 [0]),(8,SI s328_8)],[.box 39 (Ty.split tCU c),.row 37 tP r328_1],2,[⟨288,[.seq 16,.blk 1,.lp 6,.blk 0,.seq 19],15,4,[(0,.own 1),(1,SI (l.length:Int)),(2,.clo 193 [0]),(6,SI 20),(8,SI s288_8)],2,none⟩,⟨192,[],0,4,[],2,none⟩,⟨90,[.seq 6],5,2,[(1,.own 1)],0,none⟩]⟩
def dZ(c:BCU)(l:List BP)(s288_7 s328_8:Int)(r328_1:List BP):Cfg:=⟨328,[.blk 0],[(0,.own 1),(1,SI s288_7),(2,SI (l.length:Int)),(3,.clo 193 [0]),(8,SI s328_8)],[.box 39 (Ty.split tCU c),.row 37 tP r328_1],2,[⟨288,[.seq 21],20,4,[(0,.own 1),(1,SI (l.length:Int)),(2,.clo 193 [0]),(6,SI 20)],2,none⟩,⟨192,[],0,4,[],2,none⟩,⟨90,[.seq 6],5,2,[(1,.own 1)],0,none⟩]⟩
def BD(c:BCU)(l:List BP)(s288_7 s288_8 s328_8 s328_9:Int)(r328_1:List BP):Cfg:=⟨328,[.blk 2,.blk 1,.seq 26,.lp 3,.blk 0],[(0,.own 1),(1,SI s288_7),(2,SI s288_8),(3,.clo 193 [0]),(8,SI s328_8),(9,SI s328_9)],[.box 39 (Ty.split tCU c),.row 37 tP r328_1],2,[⟨288,[.seq 16,.blk 1,.lp 6,.blk 0,.seq 19],15,4,[(0,.own 1),(1,SI (l.length:Int)),(2,.clo 193 [0]),(6,SI 20),(8,SI s288_8)],2,none⟩,⟨192,[],0,4,[],2,none⟩,⟨90,[.seq 6],5,2,[(1,.own 1)],0,none⟩]⟩
def fV(c:BCU)(l:List BP)(s288_7 s328_8 s328_9:Int)(r328_1:List BP):Cfg:=⟨328,[.blk 2,.blk 1,.seq 26,.lp 3,.blk 0],[(0,.own 1),(1,SI s288_7),(2,SI (l.length:Int)),(3,.clo 193 [0]),(8,SI s328_8),(9,SI s328_9)],[.box 39 (Ty.split tCU c),.row 37 tP r328_1],2,[⟨288,[.seq 21],20,4,[(0,.own 1),(1,SI (l.length:Int)),(2,.clo 193 [0]),(6,SI 20)],2,none⟩,⟨192,[],0,4,[],2,none⟩,⟨90,[.seq 6],5,2,[(1,.own 1)],0,none⟩]⟩
def iJ(c:BCU)(l r328_1:List BP)(s288_6:Int):Cfg:=⟨288,[.blk 2],[(0,.own 1),(1,SI (l.length:Int)),(2,.clo 193 [0]),(6,SI s288_6)],[.box 39 (Ty.split tCU c),.row 37 tP r328_1],2,[⟨192,[],0,4,[],2,none⟩,⟨90,[.seq 6],5,2,[(1,.own 1)],0,none⟩]⟩
def Aj(c:BCU)(l r328_1:List BP)(s288_6:Int):Cfg:=⟨288,[.blk 4,.seq 47,.blk 3,.lp 22,.blk 2],[(0,.own 1),(1,SI (l.length:Int)),(2,.clo 193 [0]),(6,SI s288_6),(7,SI 0),(8,SI (i64.wrap (2*s288_6)))],[.box 39 (Ty.split tCU c),.row 37 tP r328_1],2,[⟨192,[],0,4,[],2,none⟩,⟨90,[.seq 6],5,2,[(1,.own 1)],0,none⟩]⟩
def iy(c:BCU)(r328_1:List BP)(s195_5:Int):Cfg:=⟨195,[.blk 0,.seq 56],[(0,.own 1),(1,.clo 196 []),(5,SI s195_5)],[.box 39 (Ty.split tCU c),.row 37 tP r328_1],2,[⟨90,[.seq 8],7,1,[],0,none⟩]⟩
def dG(c:BCU)(r328_1:List BP)(s195_5 s195_5v s195_7:Int)(r195_1:List BP):Cfg:=⟨195,[.blk 2,.seq 49,.blk 1,.seq 55,.lp 14,.blk 0,.seq 56],[(0,.own 1),(1,.clo 196 []),(5,SI s195_5v),(6,.osl 1 20 ((s195_5:Int).toNat) (((r328_1.length:Int):Int).toNat-(s195_5:Int).toNat)),(7,SI s195_7)],[.box 39 (Ty.split tCU c),.row 37 tP r195_1],2,[⟨90,[.seq 8],7,1,[],0,none⟩]⟩
def Sy(c:BCU)(l:List BP)(k:KT):Option (List RV):=og (decide (l.length≤100000)) (k 6 (pu c l 0 20 l))
theorem acW(c:BCU)(l:List BP):RS gO 90 [.d tCU c,.d (.sl tP) l] (Sy c l):=rsX
def qH(c:BCU)(l:List BP)(s288_7 s288_8:Int)(r288_1:List BP)(k:KT):Option (List RV):=match decide (s288_8≤(l.length:Int))with|true=>k 3 (pD c l s288_7 s288_8 (i64.wrap (s288_7+1)) r288_1)|false=>k 3 (dZ c l s288_7 (i64.wrap (s288_7+1)) r288_1)
theorem yM(c:BCU)(l:List BP)(s288_7 s288_8:Int)(r288_1:List BP):RN gO 6 (pu c l s288_7 s288_8 r288_1) (qH c l s288_7 s288_8 r288_1):=rnX
def gH(c:BCU)(l:List BP)(s288_7 s328_8:Int)(r328_1:List BP)(k:KT):Option (List RV):=match decide (s328_8<(l.length:Int))with|true=>k 15 (fV c l s288_7 s328_8 s328_8 r328_1)|false=>k 22 (iJ c l r328_1 20)
theorem jx(c:BCU)(l:List BP)(s288_7 s328_8:Int)(r328_1:List BP):RN gO 3 (dZ c l s288_7 s328_8 r328_1) (gH c l s288_7 s328_8 r328_1):=rnX
def Oh(c:BCU)(l:List BP)(s288_7 s288_8 s328_8 s328_9:Int)(r328_1:List BP)(k:KT):Option (List RV):=match decide (s328_9>s288_7)with|true=>(match aN r328_1 s328_9 with|some _=>(match true,r328_1[(s328_9).toNat]? with|true,some x1=>(match aN r328_1 (i64.wrap (s328_9-1))with|some _=>(match true,r328_1[(i64.wrap (s328_9-1)).toNat]? with|true,some x2=>(og (decide (okC 4000 c∧okP 4000 x1∧okP 4000 x2)) (match decide ((CB (dC c) (dec x1) (dec x2))<0)with|true=>(match aN r328_1 (i64.wrap (s328_9-1))with|some _=>(match true,r328_1[(i64.wrap (s328_9-1)).toNat]? with|true,some x3=>(match aN r328_1 s328_9 with|some _=>(match true,r328_1[(s328_9).toNat]? with|true,some x4=>(match aN r328_1 s328_9 with|some _=>(match true,r328_1[(s328_9).toNat]? with|true,some _=>(match aN (r328_1.set ((s328_9).toNat) x3) (i64.wrap (s328_9-1))with|some _=>(match true,(r328_1.set ((s328_9).toNat) x3)[(i64.wrap (s328_9-1)).toNat]? with|true,some _=>k 15 (BD c l s288_7 s288_8 s328_8 (i64.wrap (s328_9-1)) ((r328_1.set ((s328_9).toNat) x3).set ((i64.wrap (s328_9-1)).toNat) x4))|_,_=>none)|none=>none)|_,_=>none)|none=>none)|_,_=>none)|none=>none)|_,_=>none)|none=>none)|false=>k 3 (pD c l s288_7 s288_8 (i64.wrap (s328_8+1)) r328_1)))|_,_=>none)|none=>none)|_,_=>none)|none=>none)|false=>k 3 (pD c l s288_7 s288_8 (i64.wrap (s328_8+1)) r328_1)
def gc(c:BCU)(l:List BP)(s288_7 s328_8 s328_9:Int)(r328_1:List BP)(k:KT):Option (List RV):=match decide (s328_9>s288_7)with|true=>(match aN r328_1 s328_9 with|some _=>(match true,r328_1[(s328_9).toNat]? with|true,some x1=>(match aN r328_1 (i64.wrap (s328_9-1))with|some _=>(match true,r328_1[(i64.wrap (s328_9-1)).toNat]? with|true,some x2=>(og (decide (okC 4000 c∧okP 4000 x1∧okP 4000 x2)) (match decide ((CB (dC c) (dec x1) (dec x2))<0)with|true=>(match aN r328_1 (i64.wrap (s328_9-1))with|some _=>(match true,r328_1[(i64.wrap (s328_9-1)).toNat]? with|true,some x3=>(match aN r328_1 s328_9 with|some _=>(match true,r328_1[(s328_9).toNat]? with|true,some x4=>(match aN r328_1 s328_9 with|some _=>(match true,r328_1[(s328_9).toNat]? with|true,some _=>(match aN (r328_1.set ((s328_9).toNat) x3) (i64.wrap (s328_9-1))with|some _=>(match true,(r328_1.set ((s328_9).toNat) x3)[(i64.wrap (s328_9-1)).toNat]? with|true,some _=>k 15 (fV c l s288_7 s328_8 (i64.wrap (s328_9-1)) ((r328_1.set ((s328_9).toNat) x3).set ((i64.wrap (s328_9-1)).toNat) x4))|_,_=>none)|none=>none)|_,_=>none)|none=>none)|_,_=>none)|none=>none)|_,_=>none)|none=>none)|false=>k 3 (dZ c l s288_7 (i64.wrap (s328_8+1)) r328_1)))|_,_=>none)|none=>none)|_,_=>none)|none=>none)|false=>k 3 (dZ c l s288_7 (i64.wrap (s328_8+1)) r328_1)
theorem iV(c:BCU)(l:List BP)(s288_7 s328_8 s328_9:Int)(r328_1:List BP):RN gO 15 (fV c l s288_7 s328_8 s328_9 r328_1) (gc c l s288_7 s328_8 s328_9 r328_1):=rnX
def ik(c:BCU)(l r328_1:List BP)(s288_6:Int)(k:KT):Option (List RV):=match decide (s288_6<(l.length:Int))with|true=>k 34 (Aj c l r328_1 s288_6)|false=>(match decide ((r328_1.length:Int)<2)with|true=>some [RV.new 37 tP r328_1]|false=>k 14 (iy c r328_1 1))
theorem kA(c:BCU)(l r328_1:List BP)(s288_6:Int):RN gO 22 (iJ c l r328_1 s288_6) (ik c l r328_1 s288_6):=rnX
def ip(c:BCU)(r328_1:List BP)(s195_5:Int)(k:KT):Option (List RV):=match decide (s195_5<(r328_1.length:Int))with|true=>(match aN r328_1 s195_5 with|some _=>(match true,r328_1[(s195_5).toNat]? with|true,some x1=>(match aN r328_1 (i64.wrap (s195_5-1))with|some _=>(match true,r328_1[(i64.wrap (s195_5-1)).toNat]? with|true,some x2=>(og (decide (okP 4000 x1∧okP 4000 x2)) (match bZ (dec x1) (dec x2)==0 with|true=>(og (decide ((0:Int)≤s195_5∧s195_5≤(r328_1.length:Int)∧(r328_1.length:Int)≤(r328_1.length:Int))) (k 32 (dG c r328_1 s195_5 s195_5 1 r328_1)))|false=>k 14 (iy c r328_1 (i64.wrap (s195_5+1)))))|_,_=>none)|none=>none)|_,_=>none)|none=>none)|false=>some [RV.new 37 tP r328_1]
theorem ks(c:BCU)(r328_1:List BP)(s195_5:Int):RN gO 14 (iy c r328_1 s195_5) (ip c r328_1 s195_5):=rnX
def ge(c:BCU)(r328_1:List BP)(s195_5 s195_5v s195_7:Int)(r195_1:List BP)(k:KT):Option (List RV):=match decide (s195_7<((((r328_1.length:Int):Int).toNat-(s195_5:Int).toNat:Nat):Int))with|true=>(match true,decide ((0:Int)≤s195_7∧s195_7<((((r328_1.length:Int):Int).toNat-(s195_5:Int).toNat:Nat):Int))with|true,true=>(match true,r195_1[(s195_5:Int).toNat+(s195_7).toNat]? with|true,some x1=>(match true,decide ((0:Int)≤i64.wrap (s195_7-1)∧i64.wrap (s195_7-1)<((((r328_1.length:Int):Int).toNat-(s195_5:Int).toNat:Nat):Int))with|true,true=>(match true,r195_1[(s195_5:Int).toNat+(i64.wrap (s195_7-1)).toNat]? with|true,some x2=>(og (decide (okP 4000 x1∧okP 4000 x2)) (match !(bZ (dec x1) (dec x2)==0)with|true=>(match true,decide ((0:Int)≤s195_7∧s195_7<((((r328_1.length:Int):Int).toNat-(s195_5:Int).toNat:Nat):Int))with|true,true=>(match true,r195_1[(s195_5:Int).toNat+(s195_7).toNat]? with|true,some x3=>(match aN r195_1 s195_5v with|some _=>(match true,r195_1[(s195_5v).toNat]? with|true,some _=>k 32 (dG c r328_1 s195_5 (i64.wrap (s195_5v+1)) (i64.wrap (s195_7+1)) (r195_1.set ((s195_5v).toNat) x3))|_,_=>none)|none=>none)|_,_=>none)|_,_=>none)|false=>k 32 (dG c r328_1 s195_5 s195_5v (i64.wrap (s195_7+1)) r195_1)))|_,_=>none)|_,_=>none)|_,_=>none)|_,_=>none)|false=>(og (decide ((0:Int)≤s195_5v∧s195_5v≤(r195_1.length:Int)∧(r195_1.length:Int)≤(r195_1.length:Int))) (og (decide ((0:Int)≤0∧0≤s195_5v∧s195_5v≤((iH (Ty.zero tP) ((s195_5v:Int).toNat) (((r195_1.length:Int):Int).toNat-(s195_5v:Int).toNat) r195_1).length:Int))) (some [RV.d (.sl tP) (((iH (Ty.zero tP) ((s195_5v:Int).toNat) (((r195_1.length:Int):Int).toNat-(s195_5v:Int).toNat) r195_1).drop ((0:Int).toNat)).take ((s195_5v:Int).toNat-(0:Int).toNat))])))
theorem iR(c:BCU)(r328_1:List BP)(s195_5 s195_5v s195_7:Int)(r195_1:List BP):RN gO 32 (dG c r328_1 s195_5 s195_5v s195_7 r195_1) (ge c r328_1 s195_5 s195_5v s195_7 r195_1):=rnX
theorem lU{α:Type}(L:List α)(x:α)(T:List α):(L++x::T)[L.length]?=some x:=by simp
theorem zq{α:Type}(x y:α)(T:List α):∀L:List α,(L++x::T).set L.length y=L++y::T
 |[]=>rfl
 |a::L=>by simp[zq x y T L]
section
variable (c:BCU) (l:List BP)
def aa5(ys:List BP)(r:List RV):Prop:=r=[.new 37 tP ys]∨r=[.d (.sl tP) ys]
abbrev oA(i:Nat)(g:Cfg)(ys:List BP):Prop:=∃r,gO.Runs i g r∧aa5 ys r
end
section
variable (c:BCU) (l:List BP) (hc:okC 4000 c)
include hc
theorem wT(hl:l.length≤19)(i:Nat)(ys:List BP):∀(L:List BP) (a:BP) (R:List BP),(∀x∈L,okP 4000 x)→okP 4000 a→(L.reverse++a::R).length≤19→i≤19→
  oA 3 (dZ c l 0 ((i+1:Nat):Int) ((mq (ltP (dC c)) L a).reverse++R)) ys→oA 15 (fV c l 0 (i:Int) (L.length:Int) (L.reverse++a::R)) ys
 |[],a,R,hL,ha,h19,hi,⟨r,⟨n,hn⟩,hr⟩=>by
  refine⟨r,iV _ _ _ _ _ _ ⟨n,?_⟩,hr⟩
  unfold gc
  rw[dF (show ¬((([]:List BP).length:Nat):Int)>0 by simp),bK (by omega)]
  exact hn
 |b::L,a,R,hL,ha,h19,hi,hnext=>by
  have hb:=hL b (by simp)
  have hln:L.length≤18:=by simp at h19;omega
  have hrev:(b::L).reverse++a::R=L.reverse++b::a::R:=by simp
  have e1:((b::L).length:Int)=((L.length+1:Nat):Int):=rfl
  have ew:i64.wrap (((L.length+1:Nat):Int)-1)=(L.length:Int):=by rw[aP (by omega) (by omega)];omega
  have g1:(L.reverse++b::a::R)[L.length+1]?=some a:=by
   simp
  have g0:(L.reverse++b::a::R)[L.length]?=some b:=by
   simp
  have s1:(L.reverse++b::a::R).set (L.length+1) b=L.reverse++b::b::R:=by
   simp
  have s2:(L.reverse++b::b::R).set L.length a=L.reverse++a::b::R:=by
   simp
  have g2:(L.reverse++b::b::R)[L.length]?=some b:=by
   simp
  have key:∀r n,(match ltP (dC c) a b with
    |true=>gO.k n 15 (fV c l 0 (i:Int) (L.length:Int) (L.reverse++a::b::R))
    |false=>gO.k n 3 (dZ c l 0 ((i+1:Nat):Int) (L.reverse++b::a::R)))=some r→
    gc c l 0 (i:Int) ((b::L).length:Int) ((b::L).reverse++a::R) (gO.k n)=some r:=fun r n h=>by
   rw[hrev,e1]
   unfold gc
   rw[dT (show((L.length+1:Nat):Int)>0 by omega),ew,ao,g1,ao,g0,show((L.length+1:Nat):Int).toNat=L.length+1 by omega,show((L.length:Nat):Int).toNat=L.length by omega,g1,g0]
   dsimp only
   rw[dT (show okC 4000 c∧okP 4000 a∧okP 4000 b from⟨hc,ha,hb⟩),s1,ao,g2,s2,bK (by omega)]
   dsimp only
   unfold ltP at h
   exact h
  unfold mq at hnext
  cases hlt:ltP (dC c) a b
  ·rw[hlt,cond_false]at hnext
   obtain⟨r,⟨n,hn⟩,hr⟩:=hnext
   refine⟨r,iV _ _ _ _ _ _ ⟨n,key r n ?_⟩,hr⟩
   rw[hlt]
   simpa using hn
  ·rw[hlt,agd]at hnext
   obtain⟨r,⟨n,hn⟩,hr⟩:=wT hl i ys L a (b::R) (fun x hx=>hL x (agO _ hx)) ha (by simp at h19 ⊢;omega) hi (by simpa using hnext)
   refine⟨r,iV _ _ _ _ _ _ ⟨n,key r n ?_⟩,hr⟩
   rw[hlt]
   exact hn
theorem wI(hl:l.length≤19)(ys:List BP):∀(R D:List BP),(∀x∈D,okP 4000 x)→(∀x∈R,okP 4000 x)→D.length+R.length=l.length→
  oA 22 (iJ c l (R.foldl (mq (ltP (dC c))) D).reverse 20) ys→oA 3 (dZ c l 0 (D.length:Int) (D.reverse++R)) ys
 |[],D,hD,hR,hlen,⟨r,⟨n,hn⟩,hr⟩=>by
  refine⟨r,jx _ _ _ _ _ ⟨n,?_⟩,hr⟩
  unfold gH
  rw[bV (by simp at hlen;omega),agt]
  exact hn
 |a::R,D,hD,hR,hlen,hnext=>by
  have ha:=hR a (by simp)
  have hlen':D.length+(R.length+1)=l.length:=hlen
  have h1:=wI hl ys R (mq (ltP (dC c)) D a) (fun x hx=>by
   rcases vA.1 hx with e|e
   ·rw[e];exact ha
   ·exact hD x e) (fun x hx=>hR x (agO _ hx)) (by rw[qA];omega) hnext
  rw[qA]at h1
  obtain⟨r,⟨n,hn⟩,hr⟩:=wT c l hc hl D.length ys D a R hD ha (by simp;omega) (by omega) h1
  refine⟨r,jx _ _ _ _ _ ⟨n,?_⟩,hr⟩
  unfold gH
  rw[bh (by omega)]
  exact hn
omit hc in
theorem rA(r0:List BP)(b:Nat)(h19:r0.length≤19):∀(S K J:List BP) (p:BP),(∀x∈K++(J++p::S),okP 4000 x)→(K++(J++p::S)).length=r0.length→∀k2:Nat,1≤k2→b+k2=K.length+J.length+1→
  oA 32 (dG c r0 (b:Int) (K.length:Int) (k2:Int) (K++(J++p::S))) (K++l7 gN p S)
 |[],K,J,p,hok,hlen,k2,h1,hb=>by
  refine⟨_,iR _ _ _ _ _ _ ⟨0,?_⟩,.inr rfl⟩
  have hlen':K.length+(J.length+1)=r0.length:=by simpa using hlen
  unfold ge
  rw[dF (show ¬(k2:Int)<(((r0.length:Int).toNat-(b:Int).toNat:Nat):Int) by omega)]
  dsimp only
  rw[dT (show(0:Int)≤(K.length:Int)∧(K.length:Int)≤((K++(J++[p])).length:Int)∧((K++(J++[p])).length:Int)≤((K++(J++[p])).length:Int) by rw[hlen];omega)]
  have hcl:((iH (Ty.zero tP) ((K.length:Int).toNat) ((((K++(J++[p])).length:Int)).toNat-(K.length:Int).toNat) (K++(J++[p])))).take K.length=K:=by
   unfold iH
   rw[show((K.length:Int)).toNat=K.length by omega,ago,List.take_append_of_le_length (by simp),aiU,Nat.min_self,List.take_left' rfl]
  have hcn:K.length≤(iH (Ty.zero tP) ((K.length:Int).toNat) ((((K++(J++[p])).length:Int)).toNat-(K.length:Int).toNat) (K++(J++[p]))).length:=by
   have:=congrArg List.length hcl
   rw[agG]at this
   omega
  rw[dT (show(0:Int)≤0∧0≤(K.length:Int)∧(K.length:Int)≤((iH (Ty.zero tP) ((K.length:Int).toNat) ((((K++(J++[p])).length:Int)).toNat-(K.length:Int).toNat) (K++(J++[p]))).length:Int) by omega)]
  rw[show((0:Int)).toNat=0 from rfl,ahy,show((K.length:Int)).toNat-0=K.length by omega,hcl]
  simp[l7]
 |q::S,K,J,p,hok,hlen,k2,h1,hb=>by
  have hlen':K.length+(J.length+(S.length+1+1))=r0.length:=by simpa using hlen
  have hq:okP 4000 q:=hok q (by simp)
  have hp:okP 4000 p:=hok p (by simp)
  have g1:(K++(J++p::q::S))[(b:Int).toNat+(k2:Int).toNat]?=some q:=by
   rw[show(b:Int).toNat+(k2:Int).toNat=(K++(J++[p])).length by simp;omega]
   simp
  have ew:i64.wrap ((k2:Int)-1)=((k2-1:Nat):Int):=by rw[aP (by omega) (by omega)];omega
  have g0:(K++(J++p::q::S))[(b:Int).toNat+((k2-1:Nat):Int).toNat]?=some p:=by
   rw[show(b:Int).toNat+((k2-1:Nat):Int).toNat=(K++J).length by simp;omega]
   simp
  have key:∀r n,(match gN q p with
    |true=>gO.k n 32 (dG c r0 (b:Int) (K.length:Int) ((k2+1:Nat):Int) (K++(J++p::q::S)))
    |false=>gO.k n 32 (dG c r0 (b:Int) ((K.length+1:Nat):Int) ((k2+1:Nat):Int) ((K++(J++p::q::S)).set K.length q)))=some r→
    ge c r0 (b:Int) (K.length:Int) (k2:Int) (K++(J++p::q::S)) (gO.k n)=some r:=fun r n h=>by
   unfold ge
   rw[dT (show(k2:Int)<(((r0.length:Int).toNat-(b:Int).toNat:Nat):Int) by omega)]
   dsimp only
   rw[dT (show(0:Int)≤(k2:Int)∧(k2:Int)<(((r0.length:Int).toNat-(b:Int).toNat:Nat):Int) by omega),g1]
   dsimp only
   rw[ew,dT (show(0:Int)≤((k2-1:Nat):Int)∧((k2-1:Nat):Int)<(((r0.length:Int).toNat-(b:Int).toNat:Nat):Int) by omega),g0]
   dsimp only
   rw[dT (show okP 4000 q∧okP 4000 p from⟨hq,hp⟩),bK (k:=k2) (by omega)]
   unfold gN at h
   cases he:bZ (dec q) (dec p)==0<;>rw[he]at h
   ·try dsimp only[Bool.not_false]
    have g3:∃y,(K++(J++p::q::S))[K.length]?=some y:=⟨_,af0 (by simp;omega)⟩
    obtain⟨y,g3⟩:=g3
    rw[ao,g3,show((K.length:Int)).toNat=K.length by omega,g3,bK (k:=K.length) (by omega)]
    exact h
   ·exact h
  have hcm:l7 gN p (q::S)=bif gN q p then l7 gN q S else q::l7 gN q S:=rfl
  rw[hcm]
  cases he:gN q p
  ·have hset:∃J',(K++(J++p::q::S)).set K.length q=(K++[q])++(J'++q::S)∧J'.length=J.length∧∀x∈J',x∈J++[p]:=by
    cases J with
    |nil=>
     refine⟨[],?_,rfl,fun x hx=>by cases hx⟩
     simp
    |cons h T=>
     refine⟨T++[p],?_,by simp,fun x hx=>by simp at hx ⊢;exact .inr hx⟩
     simp
   obtain⟨J',e,eJ,mJ⟩:=hset
   obtain⟨r,⟨n,hn⟩,hr⟩:=rA r0 b h19 S (K++[q]) J' q (fun x hx=>by
    simp only[ag7,agl,ahS,or_false]at hx
    rcases hx with(hx|hx)|(hx|hx|hx)
    ·exact hok x (by simp[hx])
    ·rw[hx];exact hq
    ·have:=mJ x hx
     simp only[ag7,agl,ahS,or_false]at this
     rcases this with h|h
     ·exact hok x (by simp[h])
     ·rw[h];exact hp
    ·rw[hx];exact hq
    ·exact hok x (by simp[hx])) (by simp;omega) (k2+1) (by omega) (by simp;omega)
   refine⟨r,iR _ _ _ _ _ _ ⟨n,key r n ?_⟩,?_⟩
   ·rw[he,e]
    have:(K++[q]).length=K.length+1:=by simp
    rw[this]at hn
    exact hn
   ·simpa using hr
  ·have e2:K++(J++p::q::S)=K++((J++[p])++q::S):=by simp
   obtain⟨r,⟨n,hn⟩,hr⟩:=rA r0 b h19 S K (J++[p]) q (e2▸hok) (e2▸hlen) (k2+1) (by omega) (by simp;omega)
   refine⟨r,iR _ _ _ _ _ _ ⟨n,key r n ?_⟩,hr⟩
   rw[he,e2]
   exact hn
omit hc in
theorem wA:∀(S A:List BP) (p:BP),(∀x∈A++p::S,okP 4000 x)→(A++p::S).length≤19→
  oA 14 (iy c (A++p::S) ((A.length+1:Nat):Int)) (A++p::l7 gN p S)
 |[],A,p,hok,h19=>by
  refine⟨_,ks _ _ _ ⟨0,?_⟩,.inl rfl⟩
  unfold ip
  rw[bV (by simp)]
  rfl
 |q::S,A,p,hok,h19=>by
  have hq:okP 4000 q:=hok q (by simp)
  have hp:okP 4000 p:=hok p (by simp)
  have h19':A.length+(S.length+1+1)≤19:=by simpa using h19
  have g1:(A++p::q::S)[A.length+1]?=some q:=by
   simp
  have g0:(A++p::q::S)[A.length]?=some p:=lU A p (q::S)
  have ew:i64.wrap (((A.length+1:Nat):Int)-1)=(A.length:Int):=by rw[aP (by omega) (by omega)];omega
  have key:∀r n,(match gN q p with
    |true=>gO.k n 32 (dG c (A++p::q::S) ((A.length+1:Nat):Int) ((A.length+1:Nat):Int) 1 (A++p::q::S))
    |false=>gO.k n 14 (iy c (A++p::q::S) ((A.length+1+1:Nat):Int)))=some r→
    ip c (A++p::q::S) ((A.length+1:Nat):Int) (gO.k n)=some r:=fun r n h=>by
   unfold ip
   rw[bh (by simp only[agv,agi];omega),ao,g1,show((A.length+1:Nat):Int).toNat=A.length+1 by omega,g1]
   dsimp only
   rw[ew,ao,g0,show((A.length:Nat):Int).toNat=A.length by omega,g0]
   dsimp only
   rw[dT (show okP 4000 q∧okP 4000 p from⟨hq,hp⟩),bK (k:=A.length+1) (by omega),dT (show(0:Int)≤((A.length+1:Nat):Int)∧((A.length+1:Nat):Int)≤((A++p::q::S).length:Int)∧((A++p::q::S).length:Int)≤((A++p::q::S).length:Int) by simp;omega)]
   exact h
  have hcm:l7 gN p (q::S)=bif gN q p then l7 gN q S else q::l7 gN q S:=rfl
  have e2:A++p::q::S=(A++[p])++q::S:=by simp
  rw[hcm]
  cases he:gN q p
  ·obtain⟨r,⟨n,hn⟩,hr⟩:=wA S (A++[p]) q (e2▸hok) (e2▸h19)
   refine⟨r,ks _ _ _ ⟨n,key r n ?_⟩,?_⟩
   ·rw[he,e2]
    have:(A++[p]).length=A.length+1:=by simp
    rw[this]at hn
    exact hn
   ·rw[ago]at hr
    exact hr
  ·obtain⟨r,⟨n,hn⟩,hr⟩:=rA c (A++p::q::S) (A.length+1) h19 S (A++[p]) [] q (e2▸hok) (by rw[e2];rfl) 1 (af6 _) (by simp)
   refine⟨r,ks _ _ _ ⟨n,key r n ?_⟩,?_⟩
   ·rw[he,e2]
    have:(A++[p]).length=A.length+1:=by simp
    rw[this,e2]at hn
    exact hn
   ·rw[ago]at hr
    exact hr
theorem Pr(hl:l.length≤19)(ho:∀x∈l,okP 4000 x):oA 6 (pu c l 0 20 l) (cY (dC c) l):=by
 have hlast:∀r:List BP,(∀x∈r,okP 4000 x)→r.length≤19→oA 22 (iJ c l r 20) (yV gN r):=fun r hr h19=>by
  cases r with
  |nil=>
   refine⟨_,kA _ _ _ _ ⟨0,?_⟩,.inl rfl⟩
   unfold ik
   rw[dF (show ¬(20:Int)<(l.length:Int) by omega)]
   rfl
  |cons p S=>
   cases S with
   |nil=>
    refine⟨_,kA _ _ _ _ ⟨0,?_⟩,.inl rfl⟩
    unfold ik
    rw[dF (show ¬(20:Int)<(l.length:Int) by omega)]
    rfl
   |cons q S=>
    obtain⟨r',⟨n,hn⟩,hr'⟩:=wA c (q::S) [] p hr h19
    refine⟨r',kA _ _ _ _ ⟨n,?_⟩,hr'⟩
    unfold ik
    rw[dF (show ¬(20:Int)<(l.length:Int) by omega)]
    dsimp only
    rw[dF (show ¬((p::q::S).length:Int)<2 by simp;omega)]
    simpa using hn
 have hsort:oA 22 (iJ c l (uq (ltP (dC c)) l) 20) (cY (dC c) l):=hlast _ (fun x hx=>ho x (z5.1 hx)) (by rw[BA];exact hl)
 have h3:oA 3 (dZ c l 0 1 l) (cY (dC c) l):=by
  cases l with
  |nil=>
   obtain⟨r,⟨n,hn⟩,hr⟩:=hsort
   refine⟨r,jx _ _ _ _ _ ⟨n,?_⟩,hr⟩
   unfold gH
   rw[dF (show ¬(1:Int)<(([]:List BP).length:Int) by simp)]
   exact hn
  |cons x l=>
   have:=wI c (x::l) hc hl _ l [x] (fun y hy=>ho y (by simp at hy;simp[hy])) (fun y hy=>ho y (agO _ hy)) (by simp;omega) hsort
   simpa using this
 obtain⟨r,⟨n,hn⟩,hr⟩:=h3
 refine⟨r,yM _ _ _ _ _ ⟨n,?_⟩,hr⟩
 unfold qH
 rw[dF (show ¬(20:Int)≤(l.length:Int) by omega),aP (x:=0+1) (by omega) (by omega)]
 exact hn
end
def K6:Cn 90 [tCU,(.sl tP)]:=cn fun(c:BCU) (l:List BP)=>lf (jV c l) [.d (.sl tP) (cY (dC c) l)] fun h=>by
 obtain⟨hc,hl,ho⟩:=h
 obtain⟨r,⟨n,hn⟩,hr⟩:=Pr c l hc hl ho
 have hres:gO.Res 90 [.d tCU c,.d (.sl tP) l] r:=by
  refine acW _ _ ⟨n,?_⟩
  unfold Sy
  rw[dT (show l.length≤100000 by omega)]
  exact hn
 rcases hr with e|e
 ·rw[e]at hres
  exact Con.new_d (et:=37) (cJ C0 hres)
 ·rw[e]at hres
  exact cJ C0 hres
end
section
namespace RE
def dsE(p v:PE):RE:=(p.1-v.1)*(p.1-v.1)+(p.2-v.2)*(p.2-v.2)
open Classical in
def mnE(a b:RE):RE:=if b<a then b else a
def exE(l:Ln)(v:PE):RE:=of l.1*v.1+of l.2.1*v.2-of l.2.2
def nrE(l:Ln):RE:=of l.1*of l.1+of l.2.1*of l.2.1
theorem Qr(x y:RE)(h1:x+y=0)(_h2:0≤x)(h3:0≤y):x≤0:=by grind
theorem Mp(x y:RE)(h1:x+y=0)(h2:0≤x)(_h3:0≤y):y≤0:=by grind
theorem O9{x y:RE}(h:x*x+y*y=0):x=0∧y=0:=⟨Ey (Qr _ _ h (uD x) (uD y)),Ey (Mp _ _ h (uD x) (uD y))⟩
theorem XZ{x:RE}:sg x<0↔x<0:=by
 rcases bj x with⟨h,e⟩|⟨h,e⟩|⟨h,e⟩<;>rw[e]
 ·exact⟨fun h'=>absurd h' (by decide),fun h'=>absurd (dK h h') (lt_irrefl _)⟩
 ·rw[h];exact⟨fun h'=>absurd h' (by decide),fun h'=>absurd h' (lt_irrefl _)⟩
 ·exact⟨fun _=>h,fun _=>by decide⟩
end RE
end
namespace RE
theorem WU{a b:Rt}[ha:Rdd a][hb:Rdd b]:vR (qZ a b)=mnE (vR a) (vR b):=by
 unfold qZ mnE
 rw[cmpT_re hb.nn ha.nn]
 by_cases h:vR b<vR a
 ·rw[agu h,afZ (by rw[iM (pT _ _ h)];decide)]
  rfl
 ·rw[agk h,af1 (by
   intro g
   exact h (Yr (by rw[←Qn];exact lI (XZ.1 g))))]
  rfl
def vE(v:Rat×Rat):PE:=(of v.1,of v.2)
theorem vR_sq{p:Pt}[Rpd p](v:Rat×Rat):vR (sqP p v)=dsE (pR p) (vE v):=Dg
theorem XL{c:Cv}(hf:Rpd (frC c))(ht:Rpd (toC c))(v:Rat×Rat):vR (zA c v)=mnE (dsE (pR (frC c)) (vE v)) (dsE (pR (toC c)) (vE v)):=by
 unfold zA
 rw[WU,vR_sq,vR_sq]
theorem Bq{c:Cv}[hf:Rpd (frC c)][ht:Rpd (toC c)]{p:Pt}[hp:Rpd p]:qM c p=true↔btE (tE (lnC c) (pR (frC c))) (tE (lnC c) (pR (toC c))) (tE (lnC c) (pR p)):=by
 unfold qM
 rw[pO,pO,pO,pO,pO]
 exact ze _ _ _
theorem Xc(l:Ln)(v:Rat×Rat):exE l (vE v)=of (l.1*v.1+l.2.1*v.2-l.2.2):=by
 rw[of_sub]
 rfl
theorem Lz{l:Ln}(hl:l.1≠0∨l.2.1≠0)(v:Rat×Rat):bT (cU v (eT l v)) (cU v (eT l v))=(l.1*v.1+l.2.1*v.2-l.2.2)*(l.1*v.1+l.2.1*v.2-l.2.2)*(1/(l.1*l.1+l.2.1*l.2.1)):=by
 have hn:=lZ hl
 have h1:1/(l.1*l.1+l.2.1*l.2.1)*(l.1*l.1+l.2.1*l.2.1)=1:=agC hn
 have h2:mp l v=(l.1*v.1+l.2.1*v.2-l.2.2)*(1/(l.1*l.1+l.2.1*l.2.1)):=by
  unfold mp
  rw[aiG,aiG,Rat.one_mul]
 unfold bT cU eT
 rw[h2]
 generalize 1/(l.1*l.1+l.2.1*l.2.1)=k at*
 generalize l.1*v.1+l.2.1*v.2-l.2.2=e at*
 dsimp only
 grind
theorem P2(x y a b v w:RE):(x-v)*(x-v)+(y-w)*(y-w)=(x-a)*(x-a)+(y-b)*(y-b)+((v-a)*(v-a)+(w-b)*(w-b))-(((x-a)*(v-a)+(y-b)*(w-b))+((x-a)*(v-a)+(y-b)*(w-b))):=by grind
theorem OO(a b c d r:RE):a*(d*r)-b*(c*r)=r*(a*d-b*c):=by grind
theorem Q9(a b c d r:RE):c*r*b-d*r*a=r*(c*b-d*a):=by grind
theorem ady(a b r:RE):a*r*a+b*r*b=r*(a*a+b*b):=by grind
theorem Y3(a b:RE):a+b-a=b:=by grind
theorem aeZ(r d:RE):r*d*(r*d)=r*r*d*d:=by grind
theorem Wq(a b r:RE):a*r*(a*r)+b*r*(b*r)=(a*a+b*b)*(r*r):=by grind
theorem ZB(a s:RE):a+ -2*s=a-(s+s):=by grind
theorem VF{c:Ln}{p:PE}(h:lK c p)(v:PE):dsE p v=of c.2.2+dtE (frm c v) (frm c v)-(dtE (frm c p) (frm c v)+dtE (frm c p) (frm c v)):=by
 have h':(p.1-of c.1)*(p.1-of c.1)+(p.2-of c.2.1)*(p.2-of c.2.1)=of c.2.2:=h
 unfold dsE dtE frm
 dsimp only
 rw[P2 _ _ (of c.1) (of c.2.1),h']
theorem GN(u w d:PE){r:RE}(hr:0<r):wg u w (d.1*r,d.2*r)=wg u w d:=by
 have h1:crs u (d.1*r,d.2*r)=r*crs u d:=OO _ _ _ _ _
 have h2:crs (d.1*r,d.2*r) w=r*crs d w:=Q9 _ _ _ _ _
 unfold wg
 rw[h1,h2,dN,dN,dE hr,ahc,ahc]
theorem Kt{q:Pt}:pX (rdP q)=pX q∧pY (rdP q)=pY q:=by
 unfold rdP pX pY
 by_cases h1:q.2.1=0
 ·by_cases h2:q.2.2.2.1=0
  ·rw[afZ h1,afZ h2]
   dsimp only
   rw[h1,h2,dA,dA,dA,dA]
   exact⟨rfl,rfl⟩
  ·rw[af1 h2,Bool.and_false]
   exact⟨rfl,rfl⟩
 ·rw[af1 h1,Bool.false_and]
  exact⟨rfl,rfl⟩
theorem SP{x y:Rt}(h:sR x y):pR (mkP x y)=(vR x,vR y):=by
 unfold mkP
 refine aiV (Kt.1.trans ?_) (Kt.2.trans ?_)
 ·unfold pX vR
  dsimp only
  by_cases e:x.2.1=0
  ·rw[e,dA,dA]
  ·rw[af1 e]
   rfl
 ·unfold pY vR
  dsimp only
  by_cases e:x.2.1=0
  ·rw[afZ e]
   rfl
  ·rw[af1 e]
   rcases h with h|h|h
   ·exact absurd h e
   ·rw[h,dA,dA]
   ·rw[cond_false,h]
theorem zC(c:Ln)(d:Rat×Rat):frm c (pR (rW c d))=(of d.1*rq (c.2.2/bT d d),of d.2*rq (c.2.2/bT d d)):=by
 unfold rW
 rw[SP (nN _ _ _ _ _),vR_mk,vR_mk]
 unfold frm v2
 exact aiV (Y3 _ _) (Y3 _ _)
theorem Ue(c:Ln)(v:Rat×Rat):frm c (vE v)=vE (cU (ctr c) v):=by
 unfold frm vE cU ctr
 dsimp only
 rw[of_sub,of_sub]
theorem aa4(d:Rat×Rat):dtE (vE d) (vE d)=of (bT d d):=rfl
theorem NQ{m:Rat}(h:0<m):0<rq m:=by
 have:=Mu (m:=m) (by grind)
 rw[cV h]at this
 exact MA.1 this
theorem aet{c:Cv}(hq:0<(ciC c).2.2){v:Rat×Rat}(hz:zeV (bO c v)=false)(on:lK (ciC c) (pR (rW (ciC c) (bO c v)))):dsE (pR (rW (ciC c) (bO c v))) (vE v)=of (bT (bO c v) (bO c v)+(ciC c).2.2)-(rq (bT (bO c v) (bO c v)*(ciC c).2.2)+rq (bT (bO c v) (bO c v)*(ciC c).2.2)):=by
 have hq0:(0:Rat)≤(ciC c).2.2:=by grind
 have d0:=oO (bO c v)
 have m0:0≤bT (bO c v) (bO c v)*(ciC c).2.2:=agm d0 hq0
 have hs:=fX m0
 have hs0:=pQ (bT (bO c v) (bO c v)*(ciC c).2.2)
 have hD:frm (ciC c) (vE v)=vE (bO c v):=Ue _ _
 have n0:=CN hq0 d0
 have rr:=fX n0
 have r0:=pQ ((ciC c).2.2/bT (bO c v) (bO c v))
 have hdt:dtE (frm (ciC c) (pR (rW (ciC c) (bO c v)))) (frm (ciC c) (vE v))=rq (bT (bO c v) (bO c v)*(ciC c).2.2):=by
  rw[hD,zC]
  have e1:dtE (of (bO c v).1*rq ((ciC c).2.2/bT (bO c v) (bO c v)),of (bO c v).2*rq ((ciC c).2.2/bT (bO c v) (bO c v))) (vE (bO c v))=rq ((ciC c).2.2/bT (bO c v) (bO c v))*of (bT (bO c v) (bO c v)):=ady _ _ _
  rw[e1]
  refine Ed _ _ (cB r0 (iZ.2 d0)) hs0 ?_
  rw[hs,aeZ,rr,←aS,←aS,agC (ud hz),ahM]
 rw[VF on,hdt,hD,aa4,of_add,add_comm (of (bT _ _))]
theorem Q8{c:Cv}(h:GdE c)(ha:c.1=true){v:Rat×Rat}(hz:zeV (bO c v)=false):lK (ciC c) (pR (rW (ciC c) (bO c v)))∧fB c (bO c v)=wg (frm (ciC c) (pR (ccF c))) (frm (ciC c) (pR (ccT c))) (vE (bO c v)):=by
 have hq:=(h.q ha).1
 have hq0:(0:Rat)≤(ciC c).2.2:=by grind
 have hC:Cir (ciC c):=⟨hq⟩
 have d0:=oO (bO c v)
 have n0:0<(ciC c).2.2/bT (bO c v) (bO c v):=by
  have h1:(ciC c).2.2/bT (bO c v) (bO c v)*bT (bO c v) (bO c v)=(ciC c).2.2:=agC (ud hz)
  have h2:=CN hq0 d0
  rcases(by grind:(ciC c).2.2/bT (bO c v) (bO c v)=0∨0<(ciC c).2.2/bT (bO c v) (bO c v))with h3|h3
  ·rw[h3]at h1;grind
  ·exact h3
 have hr:=NQ n0
 have rr:=fX (show 0≤(ciC c).2.2/bT (bO c v) (bO c v) by grind)
 have onray:lK (ciC c) (pR (rW (ciC c) (bO c v))):=by
  show(frm _ _).1*(frm _ _).1+(frm _ _).2*(frm _ _).2=_
  rw[zC]
  have:of (bO c v).1*rq ((ciC c).2.2/bT (bO c v) (bO c v))*(of (bO c v).1*rq ((ciC c).2.2/bT (bO c v) (bO c v)))+of (bO c v).2*rq ((ciC c).2.2/bT (bO c v) (bO c v))*(of (bO c v).2*rq ((ciC c).2.2/bT (bO c v) (bO c v)))=of (bT (bO c v) (bO c v))*(rq ((ciC c).2.2/bT (bO c v) (bO c v))*rq ((ciC c).2.2/bT (bO c v) (bO c v))):=Wq _ _ _
  rw[this,rr,←aS,ahM,agC (ud hz)]
 refine⟨onray,?_⟩
 have e1:fB c (bO c v)=onP c (rW (ciC c) (bO c v)):=by
  unfold fB
  rw[ha,hz]
  rfl
 rw[e1,←GN _ _ (vE (bO c v)) hr,ahF,Pe h]
 unfold onE Lt
 rw[agu ha,zC]
 exact and_iff_right onray
end RE
section
namespace RE
theorem aeY(A B x y u v s:RE):A*(x+u*s)+B*(y+v*s)=(A*x+B*y)+(A*u+B*v)*s:=by grind
theorem aeK(x y u v s p q:RE):(x+u*s-p)*(x+u*s-p)+(y+v*s-q)*(y+v*s-q)=((x-p)*(x-p)+(y-q)*(y-q))+((x-p)*u+(y-q)*v)*s+((x-p)*u+(y-q)*v)*s+(u*u+v*v)*(s*s):=by grind
theorem afe(b n r:RE):b*(r*n)=b*n*r:=by grind
theorem aeW(r n:RE):r*n*(r*n)=r*r*(n*n):=by grind
theorem afy(x y p q a b m n:RE):(x-a)*(x-a)+(y-b)*(y-b)=((x-p)*(x-p)+(y-q)*(y-q))+(a*a+b*b-m)-(p*p+q*q-n)-((1+1)*(a-p)*x+(1+1)*(b-q)*y)+(m-n):=by grind
theorem ae5(a b n m:RE):n+a-b-(a-b)+(m-n)=m:=by grind
theorem zD(x u y v k:Rat):pR (sZ x u y v k)=(v2 x u k,v2 y v k):=by
 unfold sZ
 rw[SP (nN _ _ _ _ _),vR_mk,vR_mk]
section
variable {l c:Ln}
theorem Ez(hl:l.1≠0∨l.2.1≠0):0<cA l:=by
 have h:=mR hl
 have h1:0≤cA l:=oO (l.1,l.2.1)
 grind
theorem Df(hl:l.1≠0∨l.2.1≠0):fA l c*(cA l*cA l)=jE l c:=by
 have hn:=mR hl
 have t:vlL l c.1 c.2.1/cA l*cA l=vlL l c.1 c.2.1:=agC hn
 have k:(c.2.2-zG l c)/cA l*cA l=c.2.2-zG l c:=agC hn
 unfold fA
 rw[←Rat.mul_assoc,k]
 unfold zG ftX ftY jE
 generalize vlL l c.1 c.2.1/cA l=s at*
 rw[←t]
 unfold cA
 grind
theorem Xj(hl:l.1≠0∨l.2.1≠0):(fA l c<0↔jE l c<0)∧(fA l c=0↔jE l c=0):=by
 have hn:=Ez hl
 have h2:0<cA l*cA l:=agP hn hn
 have e:=Df (c:=c) hl
 rcases(by grind:fA l c<0∨fA l c=0∨0<fA l c)with h|h|h
 ·have:=agP (show 0< -fA l c by grind) h2
  have e2: -fA l c*(cA l*cA l)= -jE l c:=by rw[Rat.neg_mul,e]
  rw[e2]at this
  constructor<;>constructor<;>intro<;>grind
 ·rw[h,Rat.zero_mul]at e
  constructor<;>constructor<;>intro<;>grind
 ·have:=agP h h2
  rw[e]at this
  constructor<;>constructor<;>intro<;>grind
theorem WW(hl:l.1≠0∨l.2.1≠0)(h0:0≤fA l c):rq (jE l c)=rq (fA l c)*of (cA l):=by
 have hn:=Ez hl
 have hr:0≤jE l c:=by
  rw[←Df hl]
  exact agm h0 (agm (by grind) (by grind))
 refine Ed _ _ (pQ _) (cB (pQ _) (iZ.2 (by grind))) ?_
 rw[aeW,fX hr,fX h0,←aS,←aS,Df hl]
theorem yE(hl:l.1≠0∨l.2.1≠0)(h0:0≤fA l c)(a b:Rat):v2 a b (fA l c)=v2 a (b/cA l) (jE l c):=by
 unfold v2
 rw[WW hl h0,afe,←aS,agC (mR hl)]
theorem ndv(a b:Rat): -a/b= -(a/b):=by rw[aiG,aiG,Rat.neg_mul]
theorem aff(hl:l.1≠0∨l.2.1≠0)(v:PE):(∃p∈kI l c,pR p=v)↔∃p∈wc l c,pR p=v:=by
 obtain⟨s1,s2⟩:=Xj (c:=c) hl
 unfold kI wc
 by_cases h0:fA l c<0
 ·rw[afZ h0,afZ (s1.1 h0)]
  exact Iff.rfl
 ·rw[af1 h0,af1 (fun h=>h0 (s1.2 h))]
  by_cases h1:fA l c=0
  ·rw[afZ h1,afZ (s2.1 h1)]
   exact Iff.rfl
  ·rw[af1 h1,af1 (fun h=>h1 (s2.2 h))]
   have hp:0≤fA l c:=by grind
   have e:(pR (lcM l c)=pR (un l c)∧pR (lcN l c)=pR (uP l c))∨(pR (lcM l c)=pR (uP l c)∧pR (lcN l c)=pR (un l c)):=by
    unfold lcM lcN un uP
    rw[zD,zD,rz,rz,yE hl hp,yE hl hp,yE hl hp,yE hl hp]
    unfold rT rH
    cases G6 l
    ·left
     simp only[cond_false,ndv,Rat.neg_neg,and_self]
    ·right
     simp only[agd,ndv,Rat.neg_neg,and_self]
   have m2:∀{a b:Pt},(∃p∈[a,b],pR p=v)↔(pR a=v∨pR b=v):=fun{a b}=>by simp
   simp only[cond_false]
   cases decide (bZ (un l c) (uP l c)>0)
   ·simp only[cond_false]
    rw[m2,m2]
    rcases e with⟨e1,e2⟩|⟨e1,e2⟩<;>rw[e1,e2]
    exact Or.comm
   ·simp only[agd]
    rw[m2,m2]
    rcases e with⟨e1,e2⟩|⟨e1,e2⟩<;>rw[e1,e2]
    exact Or.comm
theorem Cu(hl:l.1≠0∨l.2.1≠0){u v k:Rat}(hk:0≤k)(h1:l.1*u+l.2.1*v=0)(h2:zG l c+(u*u+v*v)*k=c.2.2):tb l (v2 (ftX l c) u k,v2 (ftY l c) v k)∧lK c (v2 (ftX l c) u k,v2 (ftY l c) v k):=by
 have hn:=mR hl
 have t:vlL l c.1 c.2.1/cA l*cA l=vlL l c.1 c.2.1:=agC hn
 have e1:l.1*ftX l c+l.2.1*ftY l c=l.2.2:=by
  unfold ftX ftY
  generalize vlL l c.1 c.2.1/cA l=s at*
  unfold cA vlL at t
  grind
 have e3:(ftX l c-c.1)*u+(ftY l c-c.2.1)*v=0:=by
  unfold ftX ftY
  generalize vlL l c.1 c.2.1/cA l=s at*
  have:(c.1-s*l.1-c.1)*u+(c.2.1-s*l.2.1-c.2.1)*v= -s*(l.1*u+l.2.1*v):=by grind
  rw[this,h1,Rat.mul_zero]
 unfold tb lK frm v2
 dsimp only
 constructor
 ·rw[aeY,←aS,←aS,←aS,←aS,←of_add,←of_add,e1,h1,qx,zero_mul,add_zero]
 ·rw[aeK,fX hk,←of_sub,←of_sub,←aS,←aS,←aS,←aS,←aS,←aS,←of_add,←of_add,←of_add,e3,qx,zero_mul,add_zero,add_zero,←aS,←of_add]
  exact congrArg of h2
theorem Wu(_hl:l.1≠0∨l.2.1≠0):l.1*rT l+l.2.1*rH l=0∧rT l*rT l+rH l*rH l=cA l:=by
 unfold rT rH cA
 cases G6 l
 ·simp only[cond_false];constructor<;>grind
 ·simp only[agd];constructor<;>grind
theorem Kp(hl:l.1≠0∨l.2.1≠0){p:Pt}(hp:p∈kI l c):tb l (pR p)∧lK c (pR p):=by
 have hn:=mR hl
 have k:fA l c*cA l=c.2.2-zG l c:=agC hn
 obtain⟨d1,d2⟩:=Wu hl
 unfold kI at hp
 by_cases h0:fA l c<0
 ·rw[afZ h0]at hp
  cases hp
 ·rw[af1 h0]at hp
  by_cases h1:fA l c=0
  ·rw[afZ h1]at hp
   have:p=atP (ftL l c):=by simpa using hp
   rw[this,p7]
   have:=Cu (c:=c) (u:=0) (v:=0) (k:=0) hl (by decide) (by grind) (by rw[h1]at k;grind)
   rw[dA,dA]at this
   exact this
  ·rw[af1 h1]at hp
   have hk:0≤fA l c:=by grind
   have:p=lcM l c∨p=lcN l c:=by simpa using hp
   rcases this with e|e
   ·rw[e]
    unfold lcM
    rw[zD]
    refine Cu hl hk (by grind) ?_
    rw[show-rT l* -rT l+ -rH l* -rH l=cA l by rw[←d2];grind,ahM,k]
    grind
   ·rw[e]
    unfold lcN
    rw[zD]
    refine Cu hl hk d1 ?_
    rw[d2,ahM,k]
    grind
end
theorem Yf{c d:Ln}{v:PE}(hl:tb (oe c d) v)(hc:lK c v):lK d v:=by
 unfold tb oe pz at hl
 unfold lK frm at*
 dsimp only at*
 have o2:of 2=1+1:=by
  rw[←VX,←of_add]
  exact congrArg of (by decide+kernel)
 rw[afy v.1 v.2 (of c.1) (of c.2.1) (of d.1) (of d.2.1) (of d.2.2) (of c.2.2),hc]
 simp only[of_sub,aS,of_add,o2]at hl
 rw[hl,ae5]
theorem YC{l m:Ln}{p:Pt}(hp:p∈o9 l m):tb l (pR p)∧tb m (pR p):=by
 unfold o9 at hp
 by_cases h0:eF l m=0
 ·rw[afZ h0]at hp
  cases hp
 ·rw[af1 h0]at hp
  have:p=atP (mv l m/eF l m,mO l m/eF l m):=by simpa using hp
  rw[this,p7]
  have ex:mv l m/eF l m*eF l m=mv l m:=agC h0
  have ey:mO l m/eF l m*eF l m=mO l m:=agC h0
  have key:∀a b q:Rat,a*mv l m+b*mO l m=q*eF l m→a*(mv l m/eF l m)+b*(mO l m/eF l m)=q:=fun a b q e=>by
   generalize mv l m/eF l m=x at*
   generalize mO l m/eF l m=y at*
   rw[←ex,←ey]at e
   have:(a*x+b*y-q)*eF l m=0:=by grind
   rcases aiA.1 this with h|h
   ·grind
   ·exact absurd h h0
  unfold tb
  rw[←aS,←aS,←of_add,←aS,←aS,←of_add,key l.1 l.2.1 l.2.2 (by unfold mv mO eF;grind),key m.1 m.2.1 m.2.2 (by unfold mv mO eF;grind)]
  exact⟨rfl,rfl⟩
end RE
end
namespace RE
theorem iC{c:Cv}{p:Pt}[Rpd p]:fi c p=true↔bif c.1 then lK (ciC c) (pR p)else tb (lnC c) (pR p):=by
 unfold fi
 cases c.1
 ·exact xX
 ·exact qI
end RE
theorem Tk{p:Pt}(_h:Rpd p):bZ p p=0:=RE.cmpP_0.2 rfl
section
def v9(c d:BCU):List BP:=bif eG (dC c) (dC d)then [c.2.2.2.2.1,c.2.2.2.2.2,d.2.2.2.2.1,d.2.2.2.2.2]else(iN (dC c) (dC d)).map enc
def gD(c d:BCU)(p:BP):Bool:=gM (dC c) (dec p)&&gM (dC d) (dec p)
def qg(c d:BCU):List BP:=cY (dC c) ((v9 c d).filter (gD c d))
theorem rV{c:BCU}(h:wh c):(c.1=true→BdC (ciC (dC c))∧0<(ciC (dC c)).2.2)∧(c.1=false→BdL (lnC (dC c))∧((lnC (dC c)).1≠0∨(lnC (dC c)).2.1≠0)):=by
 refine⟨fun e=>?_,fun e=>?_⟩
 ·obtain⟨l,e1,bl,nl⟩:=cH (h.1 e)
  show BdC (dec c.2.2.1)∧_
  rw[show ciC (dC c)=dec c.2.2.1 from rfl,e1,aA]
  exact⟨bl,nl⟩
 ·obtain⟨l,e1,bl,nl⟩:=eg (h.2 e)
  show BdL (dec c.2.1)∧_
  rw[show lnC (dC c)=dec c.2.1 from rfl,e1,aA]
  exact⟨bl,nl⟩
namespace RE
theorem supM_on{c d:BCU}(hc:wh c)(hd:wh d){p:Pt}(hp:p∈iN (dC c) (dC d)):Bd p 1200∧Rpd p∧fi (dC c) p=true∧fi (dC d) p=true:=by
 obtain⟨c1,c2⟩:=rV hc
 obtain⟨d1,d2⟩:=rV hd
 have ec:(dC c).1=c.1:=rfl
 have ed:(dC d).1=d.1:=rfl
 unfold iN at hp
 rw[ec,ed]at hp
 cases ha:c.1<;>cases hb:d.1<;>rw[ha,hb]at hp
 ·have i1:=(c2 ha).1
  have i2:=(d2 hb).1
  have hp:p∈o9 (lnC (dC c)) (lnC (dC d)):=hp
  obtain⟨b,r⟩:=Fc.2 p hp
  obtain⟨o1,o2⟩:=YC hp
  refine⟨b.mono (by decide),r,?_,?_⟩
  ·rw[iC,ec,ha];exact o1
  ·rw[iC,ed,hb];exact o2
 ·have i1:=(c2 ha).1
  have i2:=(d1 hb).1
  have hp:p∈kI (lnC (dC c)) (ciC (dC d)):=hp
  obtain⟨b,r⟩:=tH.2 p hp
  obtain⟨o1,o2⟩:=Kp (c2 ha).2 hp
  refine⟨b,r,?_,?_⟩
  ·rw[iC,ec,ha];exact o1
  ·rw[iC,ed,hb];exact o2
 ·have i1:=(c1 ha).1
  have i2:=(d2 hb).1
  have hp:p∈kI (lnC (dC d)) (ciC (dC c)):=hp
  obtain⟨b,r⟩:=tH.2 p hp
  obtain⟨o1,o2⟩:=Kp (d2 hb).2 hp
  refine⟨b,r,?_,?_⟩
  ·rw[iC,ec,ha];exact o2
  ·rw[iC,ed,hb];exact o1
 ·have i1:=(c1 ha).1
  have i2:=(d1 hb).1
  have hp:p∈BC (ciC (dC c)) (ciC (dC d)):=hp
  unfold BC at hp
  cases hq:ja (ciC (dC c)) (ciC (dC d))<;>rw[hq]at hp
  ·have i3:BdL (oe (ciC (dC c)) (ciC (dC d))):=Dx
   obtain⟨b,r⟩:=tH.2 p hp
   obtain⟨o1,o2⟩:=Kp (NU hq) hp
   refine⟨b,r,?_,?_⟩
   ·rw[iC,ec,ha];exact o2
   ·rw[iC,ed,hb];exact Yf o1 o2
  ·cases hp
end RE
open RE
theorem gdN.crp{c:BCU}(h:gdN c):Crp (dC c):=Lb h.gd
theorem gdN.ne{c:BCU}(h:gdN c):bZ (frC (dC c)) (toC (dC c))≠0:=h.2.2.2
theorem gdN.fr{c:BCU}(h:gdN c):okP 500 c.2.2.2.2.1:=h.1.1.2.2.1
theorem gdN.to{c:BCU}(h:gdN c):okP 500 c.2.2.2.2.2:=h.1.1.2.2.2
end
section
open RE
def v5(c:BCU):BP→List BP→List BCU
 |f,[]=>[ON c f c.2.2.2.2.2]
 |f,p::r=>bif gN p c.2.2.2.2.1||gN p c.2.2.2.2.2 then v5 c f r else ON c f p::v5 c p r
def Xf(c:BCU)(l:List BP):List BCU:=v5 c c.2.2.2.2.1 (cY (dC c) l)
def V1(c:BCU)(l:List BP):Bool:=l.any fun p=>!onP (dC c) (dec p)
def pp(c:BCU)(l:List BP):List BCU:=bif V1 c l then []else Xf c l
def aej(c:BCU)(l:List BP):Int:=bif V1 c l then 1 else 0
section
variable {c:BCU} (h:gdN c) {l:List BP} (ho:∀x∈l,Rpd (dec x:Pt)∧onR (dC c) (dec x)=true)
include h ho
omit h ho in
end
end
section
open RE
def frB(c:BCU):BP:=c.2.2.2.2.1
def toB(c:BCU):BP:=c.2.2.2.2.2
def Gw(d p:BCU):Bool:=(onP (dC d) (dec (frB p))&&onP (dC d) (dec (toB p)))&&(bif d.1 then !gN (frB (dv p)) (toB (dv d))&&decide (kL bI (ptd (dec (dv d).2.2.1) (dec (frB (dv p)))) (ptd (dec (dv d).2.2.1) (dec (toB (dv p)))) (ptd (dec (dv d).2.2.1) (dec (toB (dv d))))≤0)else true)
def vV(c d:BCU)(l:List BP):Bool:=(pp c l).any (Gw d)
def sW(c d:BCU):Bool:=eG (dC c) (dC d)&&vV c d (qg c d)
end
end Go.Proofs.YtnkndpoojnflmaaGreat
end
