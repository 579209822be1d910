/- Arcs by cross products: the same points as by halves and x coordinates. -/
import Derived.Test.YtlahabkjhgkkjaaGreatX15
import Derived.Test.YtlahabkjhgkkjaaGreatX16
import Derived.Test.YtlahabkjhgkkjaaGreatX17
import Derived.Test.YtlahabkjhgkkjaaGreatX6
noncomputable section
namespace Go.Proofs.YtlahabkjhgkkjaaGreat
open Go.RowKit Go.IntKind
theorem avJ:type_of% @decide_eq_true_iff:=@decide_eq_true_iff
section
namespace RE
abbrev PE:=RE×RE
def crs(u w:PE):RE:=u.1*w.2-u.2*w.1
def dtE(u w:PE):RE:=u.1*w.1+u.2*w.2
def ysC(k:Nat):Int:=if k=1 then 1 else if k=3 then-1 else 0
def msC(i:Nat):Int:=(i:Int)-3
def crI(k i l j:Nat):Int:=addS (ju (msC i)*ysC l) (-(ysC k*ju (msC j))) (cI (msC i).natAbs (msC j).natAbs)
def EH(k i l j:Nat):Bool:=(k !=0||decide (0<msC i))&&(k !=2||decide (msC i<0))&&(!(k==0||k==2)||(bif l==0||l==2 then(msC i).natAbs==(msC j).natAbs else decide ((msC j).natAbs<(msC i).natAbs)))
def GW(a b c:Int):Bool:=bif decide (0≤a)then decide (0≤b)&&decide (0≤c)else !(decide (c<0)&&decide (b<0))
theorem acq:∀kF kT:Fin 4,∀iF iT:Fin 7,(EH kF.1 iF.1 kT.1 iT.1&&EH kT.1 iT.1 kF.1 iF.1&&!(kF.1==kT.1&&iF.1==iT.1))=true→∀kP:Fin 4,∀iP:Fin 7,(EH kF.1 iF.1 kP.1 iP.1&&EH kP.1 iP.1 kF.1 iF.1&&EH kT.1 iT.1 kP.1 iP.1&&EH kP.1 iP.1 kT.1 iT.1)=true→
  decide (wB cI (upA kF.1,iF.1) (upA kP.1,iP.1) (upA kT.1,iT.1)≤0)=GW (crI kF.1 iF.1 kT.1 iT.1) (crI kF.1 iF.1 kP.1 iP.1) (crI kP.1 iP.1 kT.1 iT.1):=by decide+kernel
theorem Jg{x:RE}(h:x≠0):0<x*x:=by
 rcases ou x 0 with e|e|e
 ·have:=mul_pos (lF e) (lF e)
  rw[neg_mul,mul_neg,neg_neg]at this
  exact this
 ·exact absurd e h
 ·exact mul_pos e e
theorem Hi(i j:Nat):cI i j=ju ((i:Int)-(j:Int)):=by
 unfold cI ju
 by_cases h:i<j
 ·rw[auw h,auw (by omega)]
 ·by_cases h':i=j
  ·rw[aus h,auw h',aus (by omega),auw (by omega)]
  ·rw[aus h,aus h',aus (by omega),aus (by omega)]
theorem BO{n:Int}(h:0<n):ju n=1:=by unfold ju;rw[aus (by omega),aus (by omega)]
theorem Ak{n:Int}(h:n<0):ju n= -1:=by unfold ju;rw[auw h]
def rkS(L:List RE)(x:RE):Nat:=rk (fun a b:RE=>a<b) (0::L) (x*x)
def mI(L:List RE)(x:RE):Int:=sg x*(rkS L x:Int)
def ixL(L:List RE)(x:RE):Nat:=(mI L x+3).toNat
theorem gK{L:List RE}{x:RE}(h:x≠0):0<rkS L x:=by
 unfold rkS rk
 rw[auw (Jg h)]
 omega
theorem J6{L:List RE}{x y:RE}(hx:x*x∈L)(hy:y*y∈L):sg (x*x-y*y)=cI (rkS L x) (rkS L y):=UQ (c:=fun x y=>sg (x-y)) mh zI (auY _ hx) (auY _ hy)
theorem Ir{x:RE}(h:0<x):x≠0:=fun e=>by rw[e]at h;exact lt_irrefl _ h
theorem JP{x:RE}(h:x<0):x≠0:=fun e=>by rw[e]at h;exact lt_irrefl _ h
theorem OJ(L:List RE)(x:RE):ju (mI L x)=sg x:=by
 unfold mI
 rcases bP x with⟨h,e⟩|⟨h,e⟩|⟨h,e⟩<;>rw[e]
 ·have:=gK (L:=L) (Ir h)
  exact BO (by omega)
 ·rw[awU];rfl
 ·have:=gK (L:=L) (JP h)
  exact Ak (by omega)
theorem Qf(x y:RE):((0-(x)))+((0-(y)))+((x+y-(0)))=0:=by
 induction x using at5
 induction y using at5
 exact snd fun n=>by
  simp only[RL.add,RL.neg,RL.const]
  grind
theorem ah5(x y:RE)(h1:x<0)(h2:y<0):x+y<0:=ec.1 fun hg=>far (aQ (aQ (aV h1) (le_of_lt (aV h2))) (aO hg)) (Qf x y)
theorem aiJ(a b c d:RE):a*d*(a*d)- -(b*c)* -(b*c)=a*a*(c*c+d*d)-(a*a+b*b)*(c*c):=by
 induction a using at5
 induction b using at5
 induction c using at5
 induction d using at5
 exact snd fun n=>by
  simp only[RL.add,RL.mul,RL.neg]
  grind
theorem sub_zero(x:RE):x-0=x:=by
 induction x using at5
 exact snd fun n=>by
  simp only[RL.add,RL.neg,RL.const]
  grind
theorem zero_sub(x:RE):0-x= -x:=by
 induction x using at5
 exact snd fun n=>by
  simp only[RL.add,RL.neg,RL.const]
  grind
theorem ahe(x y c:RE):x-c-(y-c)=x-y:=by
 induction x using at5
 induction y using at5
 induction c using at5
 exact snd fun n=>by
  simp only[RL.add,RL.neg]
  grind
theorem aqa(x y q:RE):x*q-q*y=q*(x-y):=by
 induction x using at5
 induction y using at5
 induction q using at5
 exact snd fun n=>by
  simp only[RL.add,RL.mul,RL.neg]
  grind
theorem BB(x y:RE):((x-(y)))+((0-(x-y)))=0:=by
 induction x using at5
 induction y using at5
 exact snd fun n=>by
  simp only[RL.add,RL.neg,RL.const]
  grind
theorem Gy(x y:RE)(h1:x-y=0):x≤y:=fun hg=>far (aQ (aV hg) (aO (iq h1))) (BB x y)
theorem Ch(x y:RE):((y-(x)))+((x-y-(0)))=0:=by
 induction x using at5
 induction y using at5
 exact snd fun n=>by
  simp only[RL.add,RL.neg,RL.const]
  grind
theorem FY(x y:RE)(h1:x-y=0):y≤x:=fun hg=>far (aQ (aV hg) (aO (jA h1))) (Ch x y)
theorem kM(x y:RE)(h1:x-y=0):x=y:=le_antisymm (Gy x y h1) (FY x y h1)
theorem CH(a b c:RE):((b-(c)))+((a+c-(a+b)))=0:=by
 induction a using at5
 induction b using at5
 induction c using at5
 exact snd fun n=>by
  simp only[RL.add,RL.neg,RL.const]
  grind
theorem K5(a b c:RE)(h1:a+b=a+c):b≤c:=fun hg=>far (aQ (aV hg) (aO (iq h1))) (CH a b c)
theorem Ep(a b c:RE):((c-(b)))+((a+b-(a+c)))=0:=by
 induction a using at5
 induction b using at5
 induction c using at5
 exact snd fun n=>by
  simp only[RL.add,RL.neg,RL.const]
  grind
theorem K4(a b c:RE)(h1:a+b=a+c):c≤b:=fun hg=>far (aQ (aV hg) (aO (jA h1))) (Ep a b c)
theorem Rm(a b c:RE)(h1:a+b=a+c):b=c:=le_antisymm (K5 a b c h1) (K4 a b c h1)
theorem Db(x y:RE):((x-(0))*(x-(y)))+((y-(0))*(x-(y)))+((y*y-(x*x)))=0:=by
 induction x using at5
 induction y using at5
 exact snd fun n=>by
  simp only[RL.add,RL.mul,RL.neg,RL.const]
  grind
theorem L9(x y:RE)(h1:x*x=y*y)(h2:0<x)(h3:0<y):x≤y:=fun hg=>far (aQ (aQ (mul_pos (aV h2) (aV hg)) (le_of_lt (mul_pos (aV h3) (aV hg)))) (aO (iq h1))) (Db x y)
theorem Df(x y:RE):((x-(0))*(y-(x)))+((y-(0))*(y-(x)))+((x*x-(y*y)))=0:=by
 induction x using at5
 induction y using at5
 exact snd fun n=>by
  simp only[RL.add,RL.mul,RL.neg,RL.const]
  grind
theorem Lt(x y:RE)(h1:x*x=y*y)(h2:0<x)(h3:0<y):y≤x:=fun hg=>far (aQ (aQ (mul_pos (aV h2) (aV hg)) (le_of_lt (mul_pos (aV h3) (aV hg)))) (aO (jA h1))) (Df x y)
theorem VF(x y:RE)(h1:x*x=y*y)(h2:0<x)(h3:0<y):x=y:=le_antisymm (L9 x y h1 h2 h3) (Lt x y h1 h2 h3)
theorem E4(x y:RE):((0-(x))*(x-(y)))+((0-(y))*(x-(y)))+((x*x-(y*y)))=0:=by
 induction x using at5
 induction y using at5
 exact snd fun n=>by
  simp only[RL.add,RL.mul,RL.neg,RL.const]
  grind
theorem Mx(x y:RE)(h1:x*x=y*y)(h2:x<0)(h3:y<0):x≤y:=fun hg=>far (aQ (aQ (mul_pos (aV h2) (aV hg)) (le_of_lt (mul_pos (aV h3) (aV hg)))) (aO (jA h1))) (E4 x y)
theorem DG(x y:RE):((0-(x))*(y-(x)))+((0-(y))*(y-(x)))+((y*y-(x*x)))=0:=by
 induction x using at5
 induction y using at5
 exact snd fun n=>by
  simp only[RL.add,RL.mul,RL.neg,RL.const]
  grind
theorem K6(x y:RE)(h1:x*x=y*y)(h2:x<0)(h3:y<0):y≤x:=fun hg=>far (aQ (aQ (mul_pos (aV h2) (aV hg)) (le_of_lt (mul_pos (aV h3) (aV hg)))) (aO (iq h1))) (DG x y)
theorem Uq(x y:RE)(h1:x*x=y*y)(h2:x<0)(h3:y<0):x=y:=le_antisymm (Mx x y h1 h2 h3) (K6 x y h1 h2 h3)
theorem EO(x y:RE):((x-(y)))+((0-(x-y)))=0:=by
 induction x using at5
 induction y using at5
 exact snd fun n=>by
  simp only[RL.add,RL.neg,RL.const]
  grind
theorem LQ(x y:RE)(h1:x-y≤0):x≤y:=fun hg=>far (aQ (aV hg) (aO h1)) (EO x y)
theorem KZ(x y:RE):((x-y-(0)))+((y-(x)))=0:=by
 induction x using at5
 induction y using at5
 exact snd fun n=>by
  simp only[RL.add,RL.neg,RL.const]
  grind
theorem XT(x y:RE)(h1:x≤y):x-y≤0:=fun hg=>far (aQ (aV hg) (aO h1)) (KZ x y)
theorem PX{x y:RE}(hx:0<x)(hy:0<y):sg (x*x-y*y)=sg (x-y):=by
 rw[←FK,dP,dJ (QG _ _ hx hy),avz]
theorem Vv{x y:RE}(hx:x<0)(hy:y<0):sg (x*x-y*y)= -sg (x-y):=by
 rw[←FK,dP,ij (ah5 _ _ hx hy)]
 omega
theorem ahI{L:List RE}{x y:RE}(hx:x*x∈L)(hy:y*y∈L):ju (mI L x-mI L y)=sg (x-y):=by
 have hc:=J6 hx hy
 unfold mI
 rcases bP x with⟨h,e⟩|⟨h,e⟩|⟨h,e⟩<;>rcases bP y with⟨h',e'⟩|⟨h',e'⟩|⟨h',e'⟩<;>rw[e,e']
 ·rw[←PX h h',hc,Hi,avz,avz]
 ·have:=gK (L:=L) (Ir h)
  rw[h',sub_zero,e]
  exact BO (by omega)
 ·have:=gK (L:=L) (Ir h)
  rw[dJ (QF _ _ h h')]
  exact BO (by omega)
 ·have:=gK (L:=L) (Ir h')
  rw[h,zero_sub,l4,e']
  exact Ak (by omega)
 ·rw[h,h',sub_self,dG,awU];rfl
 ·have:=gK (L:=L) (JP h')
  rw[h,zero_sub,l4,e']
  exact BO (by omega)
 ·have:=gK (L:=L) (JP h)
  rw[ij (TD _ _ h h')]
  exact Ak (by omega)
 ·have:=gK (L:=L) (JP h)
  rw[h',sub_zero,e]
  exact Ak (by omega)
 ·have h2:=Vv h h'
  rw[hc,Hi]at h2
  have:sg (x-y)= -ju ((rkS L x:Int)-(rkS L y:Int)):=by omega
  rw[this]
  unfold ju
  split<;>split<;>(try split)<;>(try split)<;>omega
theorem UY{L:List RE}{x y:RE}(hx:x*x∈L)(hy:y*y∈L):cI (mI L x).natAbs (mI L y).natAbs=sg (x*x-y*y):=by
 have hc:=J6 hx hy
 have ab:∀z:RE,z≠0→(mI L z).natAbs=rkS L z:=fun z hz=>by
  unfold mI
  rcases bP z with⟨h,e⟩|⟨h,e⟩|⟨h,e⟩<;>rw[e]
  ·omega
  ·exact absurd h hz
  ·omega
 have ab0:(mI L 0).natAbs=0:=by unfold mI;rw[dG,awU];rfl
 by_cases h:x=0
 ·subst h
  by_cases h':y=0
  ·subst h';rw[sub_self,dG];unfold cI;rw[aus (by omega),auw rfl]
  ·have:=gK (L:=L) h'
   rw[ab0,ab y h',mul_zero,zero_sub,l4,dJ (Jg h')]
   unfold cI;rw[auw (by omega)]
 ·by_cases h':y=0
  ·subst h'
   have:=gK (L:=L) h
   rw[ab0,ab x h,mul_zero,sub_zero,dJ (Jg h)]
   unfold cI;rw[aus (by omega),aus (by omega)]
  ·rw[ab x h,ab y h',hc]
theorem aiO{L:List RE}{x:RE}(hL:L.length=3)(hx:x*x∈L):rkS L x≤3:=by
 have:=Ew mh (auY (0:RE) hx)
 rw[auD,hL]at this
 unfold rkS
 omega
theorem Kp{L:List RE}{x:RE}(hL:L.length=3)(hx:x*x∈L): -3≤mI L x∧mI L x≤3:=by
 have h1:=aiO hL hx
 have h2:=apI x
 unfold mI
 rcases(by omega:sg x= -1∨sg x=0∨sg x=1)with e|e|e<;>rw[e]<;>omega
theorem JZ{L:List RE}{x:RE}(hL:L.length=3)(hx:x*x∈L):msC (ixL L x)=mI L x:=by
 have:=Kp hL hx
 unfold msC ixL
 omega
theorem SZ{L:List RE}{x:RE}(hL:L.length=3)(hx:x*x∈L):ixL L x<7:=by
 have:=Kp hL hx
 unfold ixL
 omega
theorem NV{L:List RE}{x y:RE}(hL:L.length=3)(hx:x*x∈L)(hy:y*y∈L):cI (ixL L x) (ixL L y)=sg (x-y):=by
 have h1:=Kp hL hx
 have h2:=Kp hL hy
 rw[Hi,←ahI hx hy]
 unfold ixL
 congr 1
 omega
theorem vd(u v:RE):ysC (cls u v)=sg v:=by
 unfold cls ysC
 rcases bP v with⟨_,h⟩|⟨_,h⟩|⟨_,h⟩<;>rcases bP u with⟨_,h'⟩|⟨_,h'⟩|⟨_,h'⟩<;>rw[h,h']<;>rfl
section
variable {u w:PE} {Q:RE} {L:List RE}
theorem Gf(hQ:0<Q)(hu:u.1*u.1+u.2*u.2=Q)(hw:w.1*w.1+w.2*w.2=Q)(hL:L.length=3)(mu:u.1*u.1∈L)(mw:w.1*w.1∈L):sg (crs u w)=crI (cls u.1 u.2) (ixL L u.1) (cls w.1 w.2) (ixL L w.1):=by
 unfold crs crI
 show sg (u.1*w.2+ -(u.2*w.1))=_
 rw[Gr,aiJ,hu,hw,aqa,dP Q,dJ hQ,avz,l4,dP u.1,dP u.2,JZ hL mu,JZ hL mw,UY mu mw,OJ,OJ,vd,vd]
theorem ni(hQ:0<Q)(hu:u.1*u.1+u.2*u.2=Q)(hw:w.1*w.1+w.2*w.2=Q)(hL:L.length=3)(mu:u.1*u.1∈L)(mw:w.1*w.1∈L):EH (cls u.1 u.2) (ixL L u.1) (cls w.1 w.2) (ixL L w.1)=true:=by
 have cb:=uB u.1 u.2
 have y0:∀a b:RE,(cls a b==0||cls a b==2)=true↔b=0:=fun a b=>by
  have:=vd a b
  have hb:=uB a b
  rw[←sT,←this]
  unfold ysC
  constructor
  ·intro h
   simp at h
   rcases h with h|h<;>rw[h]<;>rfl
  ·intro h
   rcases(by omega:cls a b=0∨cls a b=1∨cls a b=2∨cls a b=3)with e|e|e|e<;>rw[e]at h ⊢ <;>simp at h ⊢
 unfold EH
 rw[JZ hL mu,JZ hL mw,aug,aug]
 have ms:=OJ L u.1
 refine⟨⟨?_,?_⟩,?_⟩
 ·by_cases e:cls u.1 u.2=0
  ·have h:=(ara.1 e).2
   rw[dJ h]at ms
   have:0<mI L u.1:=by
    unfold ju at ms
    split at ms
    ·cases ms
    ·split at ms
     ·cases ms
     ·omega
   simp[this]
  ·simp[e]
 ·by_cases e:cls u.1 u.2=2
  ·have h:=amB.1 e
   rw[ij (Li hQ hu h.1 h.2)]at ms
   have:mI L u.1<0:=by
    unfold ju at ms
    split at ms
    ·omega
    ·split at ms<;>cases ms
   simp[this]
  ·simp[e]
 ·cases hc:(cls u.1 u.2==0||cls u.1 u.2==2)
  ·rfl
  ·have hv:=(y0 _ _).1 hc
   have hu':u.1*u.1=Q:=by rw[hv,mul_zero,add_zero]at hu;exact hu
   have ha:=UY mu mw
   cases hd:(cls w.1 w.2==0||cls w.1 w.2==2)
   ·have hz:w.2≠0:=fun e=>by rw[(y0 _ _).2 e]at hd;cases hd
    have hlt:w.1*w.1<u.1*u.1:=by
     rw[hu',←hw]
     have:=oE (w.1*w.1) (Jg hz)
     rw[zero_add,add_comm]at this
     exact this
    rw[dJ (aV hlt)]at ha
    have:(mI L w.1).natAbs<(mI L u.1).natAbs:=by
     unfold cI at ha
     split at ha
     ·cases ha
     ·split at ha
      ·cases ha
      ·omega
    simp[this]
   ·have hz:=(y0 _ _).1 hd
    rw[hz,mul_zero,add_zero]at hw
    rw[hu',hw,sub_self,dG]at ha
    have:(mI L u.1).natAbs=(mI L w.1).natAbs:=by
     unfold cI at ha
     split at ha
     ·cases ha
     ·split at ha
      ·assumption
      ·cases ha
    simp[this]
end
def frm(c:Ln)(p:PE):PE:=(p.1-of c.1,p.2-of c.2.1)
def xF(u w z:PE):Bool:=GW (sg (crs u w)) (sg (crs u z)) (sg (crs z w))
theorem ul{ci:Ln}{F P T:Pt}[Rpd F][Rpd P][Rpd T](hQ:0<ci.2.2)(hF:onCi ci F)(hP:onCi ci P)(hT:onCi ci T)(hne:pR F≠pR T):
  decide (wB bG (ptd ci F) (ptd ci P) (ptd ci T)≤0)=xF (frm ci (pR F)) (frm ci (pR T)) (frm ci (pR P)):=by
 have hq:0<of ci.2.2:=i7 hQ
 have hL:[(frm ci (pR F)).1*(frm ci (pR F)).1,(frm ci (pR P)).1*(frm ci (pR P)).1,(frm ci (pR T)).1*(frm ci (pR T)).1].length=3:=rfl
 revert hL
 generalize hL0:[(frm ci (pR F)).1*(frm ci (pR F)).1,(frm ci (pR P)).1*(frm ci (pR P)).1,(frm ci (pR T)).1*(frm ci (pR T)).1]=L
 intro hL
 have mF:(frm ci (pR F)).1*(frm ci (pR F)).1∈L:=by rw[←hL0];simp
 have mP:(frm ci (pR P)).1*(frm ci (pR P)).1∈L:=by rw[←hL0];simp
 have mT:(frm ci (pR T)).1*(frm ci (pR T)).1∈L:=by rw[←hL0];simp
 have cF:=uB (frm ci (pR F)).1 (frm ci (pR F)).2
 have cP:=uB (frm ci (pR P)).1 (frm ci (pR P)).2
 have cT:=uB (frm ci (pR T)).1 (frm ci (pR T)).2
 have hF:(frm ci (pR F)).1*(frm ci (pR F)).1+(frm ci (pR F)).2*(frm ci (pR F)).2=of ci.2.2:=hF
 have hP:(frm ci (pR P)).1*(frm ci (pR P)).1+(frm ci (pR P)).2*(frm ci (pR P)).2=of ci.2.2:=hP
 have hT:(frm ci (pR T)).1*(frm ci (pR T)).1+(frm ci (pR T)).2*(frm ci (pR T)).2=of ci.2.2:=hT
 have hd:(!(cls (frm ci (pR F)).1 (frm ci (pR F)).2==cls (frm ci (pR T)).1 (frm ci (pR T)).2&&ixL L (frm ci (pR F)).1==ixL L (frm ci (pR T)).1))=true:=by
  cases h1:cls (frm ci (pR F)).1 (frm ci (pR F)).2==cls (frm ci (pR T)).1 (frm ci (pR T)).2
  ·rfl
  ·cases h2:ixL L (frm ci (pR F)).1==ixL L (frm ci (pR T)).1
   ·rfl
   ·exfalso
    have h1:=avx.1 h1
    have h2:=avx.1 h2
    have h3:=NV hL mF mT
    rw[h2]at h3
    have e0:∀n,cI n n=0:=fun n=>by unfold cI;rw[aus (by omega),auw rfl]
    rw[e0]at h3
    have ex:(frm ci (pR F)).1=(frm ci (pR T)).1:=kM _ _ (sT.1 h3.symm)
    have ey:sg (frm ci (pR F)).2=sg (frm ci (pR T)).2:=by rw[←vd (frm ci (pR F)).1,←vd (frm ci (pR T)).1,h1]
    have es:(frm ci (pR F)).2*(frm ci (pR F)).2=(frm ci (pR T)).2*(frm ci (pR T)).2:=by
     rw[←hT,ex]at hF
     exact Rm _ _ _ hF
    have e2:(frm ci (pR F)).2=(frm ci (pR T)).2:=by
     rcases bP (frm ci (pR F)).2 with⟨g,e⟩|⟨g,e⟩|⟨g,e⟩
     ·rw[e]at ey
      exact VF _ _ es g (Tb.1 ey.symm)
     ·rw[e]at ey
      rw[g,sT.1 ey.symm]
     ·rw[e]at ey
      exact Uq _ _ es g (ak7.1 ey.symm)
    exact hne (awt (p6 _ _ _ ex) (p6 _ _ _ e2))
 have a:=acq ⟨_,cF⟩ ⟨_,cT⟩ ⟨_,SZ hL mF⟩ ⟨_,SZ hL mT⟩ (by
  simp only
  rw[ni hq hF hT hL mF mT,ni hq hT hF hL mT mF,hd]
  rfl) ⟨_,cP⟩ ⟨_,SZ hL mP⟩ (by
  simp only
  rw[ni hq hF hP hL mF mP,ni hq hP hF hL mP mF,ni hq hT hP hL mT mP,ni hq hP hT hL mP mT]
  rfl)
 simp only at a
 unfold xF
 rw[Gf hq hF hT hL mF mT,Gf hq hF hP hL mF mP,Gf hq hP hT hL mP mT,←a]
 have cx:∀{p q:Pt} [Rpd p] [Rpd q],(frm ci (pR p)).1*(frm ci (pR p)).1∈L→(frm ci (pR q)).1*(frm ci (pR q)).1∈L→bG (xP p) (xP q)=cI (ixL L (frm ci (pR p)).1) (ixL L (frm ci (pR q)).1):=fun{p q} _ _ hp hq'=>by
  rw[cmpT_re oz oz,xA,xA,NV hL hp hq',←ahe _ _ (of ci.1)]
  rfl
 unfold ptd
 rw[ur,ur,ur]
 exact congrArg (fun n:Int=>decide (n≤0)) (Fa (cx mP mF) (cx mT mF) (cx mP mT))
def AK(c:Ln)(p:PE):Prop:=(frm c p).1*(frm c p).1+(frm c p).2*(frm c p).2=of c.2.2
def ahw(l:Ln)(p:PE):Prop:=of l.1*p.1+of l.2.1*p.2=of l.2.2
def tE(l:Ln)(p:PE):RE:= -of l.2.1*p.1+of l.1*p.2
def n9(c:Ln)(F T p:PE):Prop:=AK c p∧xF (frm c F) (frm c T) (frm c p)=true
def btE(a b x:RE):Prop:=(a≤x∧x≤b)∨(b≤x∧x≤a)
def oB(l:Ln)(F T p:PE):Prop:=ahw l p∧btE (tE l F) (tE l T) (tE l p)
def onE(c:Cv)(p:PE):Prop:=if c.1=true then n9 (ciC c) (pR (ccF c)) (pR (ccT c)) p else oB (lnC c) (pR (frC c)) (pR (toC c)) p
structure GdE (c:Cv):Prop where
 f:Rpd (frC c)
 t:Rpd (toC c)
 ne:pR (frC c)≠pR (toC c)
 q:c.1=true→0<(ciC c).2.2∧onCi (ciC c) (frC c)∧onCi (ciC c) (toC c)
 l:c.1=false→((lnC c).1≠0∨(lnC c).2.1≠0)∧oh (lnC c) (frC c)∧oh (lnC c) (toC c)
theorem uh{c:Ln}{p:Pt}[Rpd p]:(lT c p==0)=true↔AK c (pR p):=by
 rw[avx]
 refine⟨fun h=>BC h,fun h=>?_⟩
 rw[AS]
 have:(pX p-of c.1)*(pX p-of c.1)+(pY p-of c.2.1)*(pY p-of c.2.1)=of c.2.2:=h
 rw[this,nG,dG]
 rfl
theorem IV{l:Ln}{p:Pt}[Rpd p]:(oe l p==0)=true↔ahw l (pR p):=by
 rw[avx]
 refine⟨fun h=>FL h,fun h=>?_⟩
 rw[A8]
 have:of l.1*pX p+of l.2.1*pY p=of l.2.2:=h
 rw[this,nG,dG]
theorem Bo(a b x:RE):abW (sg (a-b)) (sg (a-x)) (sg (x-b)) (sg (x-a)) (sg (b-x))=true↔btE a b x:=by
 have h1:∀y z:RE,sg (y-z)≤0↔y≤z:=fun y z=>by
  rw[arg]
  exact⟨fun h=>LQ _ _ h,fun h=>XT _ _ h⟩
 unfold abW btE
 cases h:decide (sg (a-b)>0)
 ·have h2:a≤b:=(h1 _ _).1 (by have:=avb h;omega)
  simp only[cond_false,aug,awh,h1]
  exact⟨fun h=>.inl h,fun h'=>h'.elim id (fun g=>⟨le_trans h2 g.1,le_trans g.2 h2⟩)⟩
 ·have h2:b≤a:=by
   have:=at6 h
   rcases lt_or_ge a b with g|g
   ·rw[ij (qN _ _ g)]at this
    omega
   ·exact g
  simp only[cond_true,aug,awh,h1]
  exact⟨fun h=>.inr ⟨h.1,h.2⟩,fun h'=>h'.elim (fun g=>⟨le_trans h2 g.1,le_trans g.2 h2⟩) (fun g=>⟨g.1,g.2⟩)⟩
theorem aaz{c:Cv}(h:GdE c){p:Pt}[hp:Rpd p]:onP c p=true↔onE c (pR p):=by
 have hf:=h.f
 have ht:=h.t
 obtain⟨ar,li,ci,cw,fr,to⟩:=c
 have hf:Rpd fr:=hf
 have ht:Rpd to:=ht
 unfold onP onE
 rw[aug]
 cases ar
 ·obtain⟨l1,l2,l3⟩:=h.l rfl
  rw[aus (by intro h;cases h)]
  show(oe li p==0)=true∧wy (cj fr p) (cj p to)=true↔ahw li (pR p)∧btE (tL li fr) (tL li to) (tL li p)
  rw[IV]
  constructor
  ·intro ⟨h1,h2⟩
   refine⟨h1,?_⟩
   rw[Py (F:=fr) (P:=p) (T:=to) l1 l2 (show oh li p from h1) l3]at h2
   exact(Bo _ _ _).1 h2
  ·intro ⟨h1,h2⟩
   refine⟨h1,?_⟩
   rw[Py (F:=fr) (P:=p) (T:=to) l1 l2 (show oh li p from h1) l3]
   exact(Bo _ _ _).2 h2
 ·obtain⟨q1,q2,q3⟩:=h.q rfl
  have hne:pR fr≠pR to:=h.ne
  rw[auw rfl]
  show(lT ci p==0)=true∧decide (wB bG (ptd ci (ccF (true,li,ci,cw,fr,to))) (ptd ci p) (ptd ci (ccT (true,li,ci,cw,fr,to)))≤0)=true↔AK ci (pR p)∧xF _ _ _=true
  rw[uh]
  cases cw
  ·constructor
   ·intro ⟨h1,h2⟩
    refine⟨h1,?_⟩
    have:=ul (ci:=ci) (F:=fr) (P:=p) (T:=to) q1 q2 h1 q3 hne
    exact this▸h2
   ·intro ⟨h1,h2⟩
    refine⟨h1,?_⟩
    have:=ul (ci:=ci) (F:=fr) (P:=p) (T:=to) q1 q2 h1 q3 hne
    exact this.trans h2
  ·constructor
   ·intro ⟨h1,h2⟩
    refine⟨h1,?_⟩
    have:=ul (ci:=ci) (F:=to) (P:=p) (T:=fr) q1 q3 h1 q2 (avy hne)
    exact this▸h2
   ·intro ⟨h1,h2⟩
    refine⟨h1,?_⟩
    have:=ul (ci:=ci) (F:=to) (P:=p) (T:=fr) q1 q3 h1 q2 (avy hne)
    exact this.trans h2
end RE
end
def vcR(x y:Int):Rat×Rat:=((x:Rat),(y:Rat))
def wj:BCU:=(false,enc ((0,2,0):Ln),o00,false,enc (atP (-1,0)),enc (atP (1,0)))
def jv:BCU:=(true,o00,enc ((0,0,1):Ln),false,enc (atP (1,0)),enc (atP (-1,0)))
instance ann:Bd (-1:Rat) 3:=cZ (n:= -1) (by decide)
theorem Qn:dC wj=(false,(0,2,0),dec o00,false,atP (-1,0),atP (1,0)):=by
 unfold dC wj
 simp only[am]
theorem wP:dC jv=(true,dec o00,(0,0,1),false,atP (1,0),atP (-1,0)):=by
 unfold dC jv
 simp only[am]
theorem ajn:vF (vcR (-1) 0) (vcR 1 0)=wj:=by
 have h1:xx (vcR (-1) 0) (vcR 1 0)=false:=by decide+kernel
 have h2:qf (vcR (-1) 0) (vcR 1 0)=(0,2,0):=by decide+kernel
 unfold vF wj
 rw[h1,h2]
 rfl
theorem ag1:ve (vcR 1 0) (vcR 0 1) (vcR (-1) 0)=jv:=by
 have h1:decide (ed (vcR 1 0) (vcR 0 1) (vcR (-1) 0)=0)=false:=by decide+kernel
 have h2:ob (vcR 1 0) (vcR 0 1) (vcR (-1) 0)=(0,0,1):=by decide+kernel
 have h3:decide (sZ (vcR 1 0) (vcR 0 1) (vcR (-1) 0)<0)=false:=by decide+kernel
 unfold ve jv
 rw[h1,h2,h3]
 rfl
theorem jc{v:Rat×Rat}{j k:Nat}[h:Bd v j](hj:mx j (mx 1 (mx j (mx 1 1)))≤k)(hk:k≤480000):okP k (enc (atP v)):=at6 (aZ (x:=atP v) hj hk)
theorem Ka:okC 500 wj:=by
 refine⟨fun h=>(by cases h),fun _=>⟨at6 (okd (x:=((0,2,0):Ln)) (by decide) (by decide)),?_⟩,jc (v:=(-1,0)) (by decide) (by decide),jc (v:=(1,0)) (by decide) (by decide)⟩
 show(dec (enc ((0,2,0):Ln)):Ln).1≠0∨_
 rw[am]
 exact .inr (by decide+kernel)
theorem Bg:okC 500 jv:=by
 refine⟨fun _=>⟨at6 (okd (x:=((0,0,1):Ln)) (by decide) (by decide)),?_⟩,fun h=>(by cases h),jc (v:=(1,0)) (by decide) (by decide),jc (v:=(-1,0)) (by decide) (by decide)⟩
 show 0<(dec (enc ((0,0,1):Ln)):Ln).2.2
 rw[am]
 decide+kernel
theorem Ij:atP (vcR 0 1)=atP (0,1):=by decide+kernel
theorem Z4:xw jv [enc (atP (vcR 0 1))]:=by
 refine⟨dt Bg (by decide) (by decide),by simp,fun x hx=>?_⟩
 have hx:x=enc (atP (vcR 0 1)):=by simpa using hx
 rw[hx,Ij,am,wP]
 exact⟨jc (v:=(0,1)) (by decide) (by decide),by decide+kernel⟩
def ahP:List BCU:=[u6 jv (enc (atP (1,0))) (enc (atP (0,1))),u6 jv (enc (atP (0,1))) (enc (atP (-1,0)))]
theorem ah3:gY jv [enc (atP (vcR 0 1))]=ahP:=by
 have b1:decide (dR (dC jv) (atP (1,0)) (atP (-1,0))<0)=true:=by rw[wP];decide+kernel
 have b2:decide (dR (dC jv) (atP (1,0)) (atP (0,1))<0)=true:=by rw[wP];decide+kernel
 have b3:decide (dR (dC jv) (atP (-1,0)) (atP (0,1))<0)=false:=by rw[wP];decide+kernel
 have b4:(cj (atP (-1,0)) (atP (0,1))==0)=false:=by decide+kernel
 have e1:jv.2.2.2.2.1=enc (atP (1,0)):=rfl
 have e2:jv.2.2.2.2.2=enc (atP (-1,0)):=rfl
 unfold gY qU fX
 rw[Ij,e1,e2]
 simp only[List.cons_append,awv,List.foldl_cons,List.foldl_nil,gf,am,b1,b2,b3,b4,cond_true,cond_false]
 rfl
theorem QA:okC 500 (u6 jv (enc (atP (1,0))) (enc (atP (0,1)))):=⟨Bg.1,fun h=>(by cases h),jc (v:=(1,0)) (by decide) (by decide),jc (v:=(0,1)) (by decide) (by decide)⟩
theorem aqv:dC (u6 jv (enc (atP (1,0))) (enc (atP (0,1))))=(true,dec o00,(0,0,1),false,atP (1,0),atP (0,1)):=by
 unfold dC u6 jv
 simp only[am]
theorem q1:bG (iY (dC wj) (vcR 0 2)) (((4:Int):Rat),0,0)=0:=by rw[Qn];decide+kernel
theorem q2:bG (iY (dC wj) (vcR 4 4)) (((25:Int):Rat),0,0)=0:=by rw[Qn];decide+kernel
theorem q3:xq (dC jv) (vcR 0 3) ((2:Int):Rat)=0:=by rw[wP];decide+kernel
theorem q4:xq (dC jv) (vcR 0 0) ((1:Int):Rat)=0:=by rw[wP];decide+kernel
theorem q5:bG (iY (dC jv) (vcR 0 (-1))) (((2:Int):Rat),0,0)=0:=by rw[wP];decide+kernel
theorem q6:bG (iY (dC (u6 jv (enc (atP (1,0))) (enc (atP (0,1))))) (vcR 1 1)) (mkR ((3:Int):Rat) ((-2:Int):Rat) ((2:Int):Rat))=0:=by rw[aqv];decide+kernel
instance atL {x y:Int} {i j:Nat} [h:Bd (x:Rat) i] [h':Bd (y:Rat) j]:Bd (vcR x y) (mx i j):=inferInstanceAs (Bd (((x:Rat),(y:Rat)):Rat×Rat) _)
def IP:aN:=spN true true [tO,tO] (fun x=>decide (okT 15000 x.1∧okT 15000 x.2.1)) (fun x=>[RV.d .bool (bG (dec x.1) (dec x.2.1)==0)])
theorem Kt:SpK 63 IP:=spX fun x h=>XA x.1 x.2.1 (at6 h)
def IZ:Env:=[(31,z6),(78,fu),(131,ua),(50,gQ),(63,IP)]
theorem uC:EnvAll Tryz.prog IZ:=⟨xS,dW,sQ,fq,Kt,trivial⟩
def ajM:Ctx:=CX IZ []
def Nh(r:BO3)(_k:KT):Option (List RV):=match decide (okR r.1)with|true=>(match decide (okR r.2.1)with|true=>(match decide (okR r.2.2)with|true=>(match decide (okR r.2.1)with|true=>(match(aU (ae r.2.1) 0)==0 with|true=>(match decide (okR r.2.1)with|true=>(match(aU (ae r.2.1) 0)==0 with|true=>(match decide (okR r.2.2)with|true=>some [RV.d .bool ((aU (ae r.2.2) 0)==0)]|false=>none)|false=>some [RV.d .bool false])|false=>none)|false=>(match decide (okR r.2.2)with|true=>(match(aU (ae r.2.2) 0)==0 with|true=>(match decide (okR r.2.1)with|true=>(match(aU (ae r.2.1) 0)==0 with|true=>(match decide (okR r.2.2)with|true=>some [RV.d .bool ((aU (ae r.2.2) 0)==0)]|false=>none)|false=>some [RV.d .bool false])|false=>none)|false=>(match decide (okR r.2.2)with|true=>(match decide (okR r.2.2)with|true=>(match decide ((aU (ae r.2.2) 0)>0)with|true=>some [RV.d .bool (!(eK (ae r.2.2)))]|false=>some [RV.d .bool false])|false=>none)|false=>none))|false=>none))|false=>none)|false=>none)|false=>none)|false=>none
theorem aj8(r:BO3):RS ajM 62 [.d tO r] (Nh r):=rsX
theorem Vm(r:BO3)(h:okT 15000 r):Con Tryz.prog 62 [.d tO r] [.d .bool true]:=by
 refine aP uC (aj8 _ ⟨0,?_⟩)
 have hr:=h
 obtain⟨r,rfl,br,rr⟩:=fa hr
 unfold Nh
 simp only[aE,aF,aB,az,aW,Nat.reduceLeDiff,aI,aL]
 rcases rr.rd with⟨h1,h2⟩|⟨h1,h2,h3⟩
 ·rw[at7 h1,at7 h2]
 ·have h4:r.2.2≠0:=by grind
  rw[at9 h1,at9 h4,at7 h2,h3]
  rfl
def aon:Ctx:=CX IZ []
def ae1(x y:Int)(_k:KT):Option (List RV):=match decide (aY x)with|true=>(match decide (aY y)with|true=>some [RV.d tV (hid (ag (x:Rat)),hid (ag (y:Rat)))]|false=>none)|false=>none
theorem aqD(x y:Int):RS aon 47 [SI x,SI y] (ae1 x y):=rsX
theorem Zn(x y:Int)(h:aY x∧aY y):Con Tryz.prog 47 [.d axf x,.d axf y] [.d tV (enc (vcR x y))]:=by
 refine aP uC (aqD _ _ ⟨0,?_⟩)
 obtain⟨h1,h2⟩:=h
 unfold ae1
 rw[dT h1,dT h2]
 simp only[aj]
 rfl
def JM:aN:=spN true true [tO] (fun x=>decide (okT 15000 x.1)) (fun _=>[RV.d .bool true])
theorem Lx:SpK 62 JM:=spX fun x h=>Vm x.1 (at6 h)
def WN:aN:=spN false true [axf,axf] (fun x=>decide (aY x.1∧aY x.2.1)) (fun x=>[RV.d tV (hid (enc (vcR x.1 x.2.1)))])
theorem Uh:SpK 47 WN:=spX fun x h=>by simp only[aj];exact Zn x.1 x.2.1 (at6 h)
def PY:Env:=(62,JM)::(47,WN)::IZ
theorem EJ:EnvAll Tryz.prog PY:=⟨Lx,Uh,uC⟩
def an1:Ctx:=CX PY []
def aeb(a w:BO3)(_k:KT):Option (List RV):=match decide (okT 15000 a)with|true=>(match decide (okT 15000 a∧okT 15000 w)with|true=>some [RV.d .bool (bG (dec a) (dec w)==0)]|false=>none)|false=>none
theorem amO(a w:BO3):RS an1 15 [.d tO a,.d tO w] (aeb a w):=rsX
theorem Yw(a w:BO3)(h:okT 15000 a∧okT 15000 w):Con Tryz.prog 15 [.d tO a,.d tO w] [.d .bool (bG (dec a) (dec w)==0)]:=by
 refine aP EJ (amO _ _ ⟨0,?_⟩)
 obtain⟨h1,h2⟩:=h
 unfold aeb
 rw[dT h1,dT (show okT 15000 a∧okT 15000 w from⟨h1,h2⟩)]
def Nd:aN:=spN true true [tO,tO] (fun x=>decide (okT 15000 x.1∧okT 15000 x.2.1)) (fun x=>[RV.d .bool (bG (dec x.1) (dec x.2.1)==0)])
theorem Uw:SpK 15 Nd:=spX fun x h=>Yw x.1 x.2.1 (at6 h)
def HG:aN:=spN false true [axf] (fun x=>decide (aY x.1)) (fun x=>[RV.d tO (hid (enc (((x.1:Rat),0,0):Rt)))])
theorem K9:SpK 51 HG:=spX fun x h=>by simp only[aj];exact N7 x.1 (at6 h)
def adg:Env:=(15,Nd)::(46,Bm)::(48,zF)::(28,Hl)::(20,ls)::(49,pz)::(51,HG)::(16,E8)::(21,Gd)::PY
theorem M8:EnvAll Tryz.prog adg:=⟨Uw,yz,xI,EA,iH,nQ,K9,C2,C0,EJ⟩
def anb:Ctx:=CX adg []
def adJ(_k:KT):Option (List RV):=let y1:=hid (enc (vcR ((-1):Int) (0:Int)));let y2:=hid (enc (vcR (1:Int) (0:Int)));let y3:=hid (enc (vcR (0:Int) (1:Int)));let y4:=hid (ve (dec y2) (dec y3) (dec y1));let y5:=gY y4 ([hid (enc (atP (dec y3)))]);let y6:=hid (ag ((3:Int):Rat));let y7:=hid (ag (((-2):Int):Rat));let y8:=hid (ag ((2:Int):Rat));let y9:=hid (vF (dec y1) (dec y2));let y10:=hid (enc (vcR (0:Int) (2:Int)));let y11:=hid (enc (iY (dC y9) (dec y10)));let y12:=hid (enc ((((4:Int):Rat),0,0):Rt));let y13:=hid (enc (vcR (4:Int) (4:Int)));let y14:=hid (enc (iY (dC y9) (dec y13)));let y15:=hid (enc ((((25:Int):Rat),0,0):Rt));let y16:=hid (enc (vcR (0:Int) (3:Int)));let y17:=hid (enc (vcR (0:Int) (0:Int)));let y18:=hid (ag ((1:Int):Rat));let y19:=hid (enc (vcR (0:Int) ((-1):Int)));let y20:=hid (enc (iY (dC y4) (dec y19)));let y21:=hid (enc ((((2:Int):Rat),0,0):Rt));let y22:=hid (enc (vcR (1:Int) (1:Int)));let y23:=hid (enc (mkR (ae y6) (ae y7) (ae y8)));match decide (aY ((-1):Int)∧aY (0:Int))with|true=>(match decide (aY (1:Int)∧aY (0:Int))with|true=>(match decide (ok (Rat×Rat) 100 y1∧ok (Rat×Rat) 100 y2)with|true=>(match decide (aY (1:Int)∧aY (0:Int))with|true=>(match decide (aY (0:Int)∧aY (1:Int))with|true=>(match decide (aY ((-1):Int)∧aY (0:Int))with|true=>(match decide (ok (Rat×Rat) 100 y2∧ok (Rat×Rat) 100 y3∧ok (Rat×Rat) 100 y1)with|true=>(match decide (aY (0:Int)∧aY (1:Int))with|true=>(match decide (ok (Rat×Rat) 100000 y3)with|true=>(match decide (xw y4 ([hid (enc (atP (dec y3)))]))with|true=>(match(oB (dec y1) (dec y2)) !=0 with|true=>some [RV.d .bool false]|false=>(match(n9 (dec y2) (dec y3) (dec y1)) !=0 with|true=>some [RV.d .bool false]|false=>(match 0 !=0 with|true=>some [RV.d .bool false]|false=>(match(y5.length:Int) !=2 with|true=>some [RV.d .bool false]|false=>(match decide (aY (3:Int))with|true=>(match decide (aY ((-2):Int))with|true=>(match decide (aY (2:Int))with|true=>(match decide (ok Rat 100000 y6∧ok Rat 100000 y7∧ok Rat 100000 y8∧0≤ae y8)with|true=>(match decide (aY (0:Int)∧aY (2:Int))with|true=>(match decide (okC 500 y9∧ok (Rat×Rat) 200 y10)with|true=>(match decide (aY (4:Int))with|true=>(match decide (okT 15000 y11∧okT 15000 y12)with|true=>(match bG (dec y11) (dec y12)==0 with|true=>(match decide (aY (4:Int)∧aY (4:Int))with|true=>(match decide (okC 500 y9∧ok (Rat×Rat) 200 y13)with|true=>(match decide (aY (25:Int))with|true=>(match decide (okT 15000 y14∧okT 15000 y15)with|true=>(match bG (dec y14) (dec y15)==0 with|true=>(match decide (aY (0:Int)∧aY (3:Int))with|true=>(match decide (aY (2:Int))with|true=>(match decide (okC 500 y4∧ok (Rat×Rat) 200 y16∧ok Rat 1000 y8)with|true=>(match(xq (dC y4) (dec y16) (ae y8))==0 with|true=>(match decide (aY (0:Int)∧aY (0:Int))with|true=>(match decide (aY (1:Int))with|true=>(match decide (okC 500 y4∧ok (Rat×Rat) 200 y17∧ok Rat 1000 y18)with|true=>(match(xq (dC y4) (dec y17) (ae y18))==0 with|true=>(match decide (aY (0:Int)∧aY ((-1):Int))with|true=>(match decide (okC 500 y4∧ok (Rat×Rat) 200 y19)with|true=>(match decide (aY (2:Int))with|true=>(match decide (okT 15000 y20∧okT 15000 y21)with|true=>(match bG (dec y20) (dec y21)==0 with|true=>(match bH y5 0 with|some x1=>(match decide (aY (1:Int)∧aY (1:Int))with|true=>(match decide (okC 500 x1∧ok (Rat×Rat) 200 y22)with|true=>(match decide (okT 15000 (hid (enc (iY (dC x1) (dec y22))))∧okT 15000 y23)with|true=>some [RV.d .bool (bG (dec (hid (enc (iY (dC x1) (dec y22))))) (dec y23)==0)]|false=>none)|false=>none)|false=>none)|none=>none)|false=>some [RV.d .bool false])|false=>none)|false=>none)|false=>none)|false=>none)|false=>some [RV.d .bool false])|false=>none)|false=>none)|false=>none)|false=>some [RV.d .bool false])|false=>none)|false=>none)|false=>none)|false=>some [RV.d .bool false])|false=>none)|false=>none)|false=>none)|false=>none)|false=>some [RV.d .bool false])|false=>none)|false=>none)|false=>none)|false=>none)|false=>none)|false=>none)|false=>none)|false=>none)))))|false=>none)|false=>none)|false=>none)|false=>none)|false=>none)|false=>none)|false=>none)|false=>none)|false=>none)|false=>none
theorem aqE:RS anb 11 [] (adJ):=rsX
theorem Zo:Con Tryz.prog 11 [] [.d .bool true]:=by
 have bn:∀n:Int,aY n→Bd (n:Rat) 3:=fun n h=>cZ h
 have z0:=bn 0 (by decide)
 have z1:=bn 1 (by decide)
 have z2:=bn 2 (by decide)
 have z3:=bn 3 (by decide)
 have z4:=bn 4 (by decide)
 have z25:=bn 25 (by decide)
 have zm1:=bn (-1) (by decide)
 have zm2:=bn (-2) (by decide)
 have i0:decide (aY 0)=true:=by decide
 have i1:decide (aY 1)=true:=by decide
 have i2:decide (aY 2)=true:=by decide
 have i3:decide (aY 3)=true:=by decide
 have i4:decide (aY 4)=true:=by decide
 have i25:decide (aY 25)=true:=by decide
 have im1:decide (aY (-1))=true:=by decide
 have im2:decide (aY (-2))=true:=by decide
 have s1:oB (vcR (-1) 0) (vcR 1 0)=0:=by decide+kernel
 have s2:n9 (vcR 1 0) (vcR 0 1) (vcR (-1) 0)=0:=by decide+kernel
 have hq:0≤((2:Int):Rat):=by decide+kernel
 have nn2:Nn ((2:Int):Rat):=⟨hq⟩
 have d1:=fun{v:Rat×Rat} (bv:Bd v 200)=>qc Ka (v:=v) (bv:=bv)
 have d2:=fun{v:Rat×Rat} (bv:Bd v 200)=>qc Bg (v:=v) (bv:=bv)
 have d3:=fun{v:Rat×Rat} (bv:Bd v 200)=>qc QA (v:=v) (bv:=bv)
 have v02:Bd (vcR 0 2) 200:=(inferInstance:Bd (vcR 0 2) _).mono (by decide)
 have v44:Bd (vcR 4 4) 200:=(inferInstance:Bd (vcR 4 4) _).mono (by decide)
 have v0m:Bd (vcR 0 (-1)) 200:=(inferInstance:Bd (vcR 0 (-1)) _).mono (by decide)
 have v11:Bd (vcR 1 1) 200:=(inferInstance:Bd (vcR 1 1) _).mono (by decide)
 obtain⟨t1,u1⟩:=d1 v02
 obtain⟨t2,u2⟩:=d1 v44
 obtain⟨t3,u3⟩:=d2 v0m
 obtain⟨t4,u4⟩:=d3 v11
 have g0:bH ahP 0=some (u6 jv (enc (atP (1,0))) (enc (atP (0,1)))):=rfl
 have gl:((ahP.length:Int) !=2)=false:=rfl
 refine aP M8 (aqE ⟨0,?_⟩)
 unfold adJ
 simp only[aj,am,az,okd,aC,aua,aub,mx,Nat.reduceAdd,Nat.reduceLeDiff,auf,cond_true,a9,i0,i1,i2,i3,i4,i25,im1,im2,ajn,ag1,ah3,at7 Z4,s1,s2,dT hq,at7 Ka,at7 Bg,at7 QA,q1,q2,q3,q4,q5,q6,g0,gl]
 rfl
def GI:aN:=spN true true [] (fun _=>true) (fun _=>[RV.d .bool true])
theorem Cx:SpK 11 GI:=spX fun _ _=>Zo
section
namespace RE
theorem cmpP_0{p q:Pt}[Rpd p][Rpd q]:cj p q=0↔pR p=pR q:=by
 rw[qr]
 obtain⟨h1,h2,h3⟩:=A5 (pR p) (pR q)
 rcases wW.tri (pR p) (pR q)with h|h|h
 ·rw[h1 h]
  exact⟨fun e=>absurd e (by decide),fun e=>absurd h (by rw[e];exact wW.irr _)⟩
 ·exact⟨fun _=>h,fun _=>h2 h⟩
 ·rw[h3 h]
  exact⟨fun e=>absurd e (by decide),fun e=>absurd h (by rw[e];exact wW.irr _)⟩
theorem vK(v:Rat×Rat):pR (atP v)=(of v.1,of v.2):=awt (apO v) (aqP v)
theorem Va{ax bx c:Rat}(h:eK c=true):of (ax+bx*rtQ c)=v2 ax bx c:=by
 unfold v2
 rw[of_add,bJ,Qi h]
theorem B3(ax bx ay b_ c:Rat):pR (lz ax bx ay b_ c)=(v2 ax bx c,v2 ay b_ c):=by
 unfold lz
 cases h:eK c
 ·rfl
 ·exact(vK _).trans (awt (Va h) (Va h))
theorem ahN(a b r:RE):(a+ -1*r-a)*(a+ -1*r-a)+(b+0*r-b)*(b+0*r-b)=r*r:=by
 induction a using at5
 induction b using at5
 induction r using at5
 exact snd fun n=>by
  simp only[RL.add,RL.mul,RL.neg,RL.const]
  grind
theorem aax(a b r:RE):(a+1*r-a)*(a+1*r-a)+(b+0*r-b)*(b+0*r-b)=r*r:=by
 induction a using at5
 induction b using at5
 induction r using at5
 exact snd fun n=>by
  simp only[RL.add,RL.mul,RL.neg,RL.const]
  grind
theorem KR(a r:RE):of 2*((r-(0)))+((a+ -1*r-(a+1*r)))=0:=by
 induction a using at5
 induction r using at5
 exact snd fun n=>by
  simp only[RL.add,RL.mul,RL.neg,RL.const]
  grind
theorem abF(a r:RE)(h1:a+ -1*r=a+1*r):r≤0:=fun hg=>far (aQ (J9 (by decide+kernel:(0:Rat)<2) (aV hg)) (aO (jA h1))) (KR a r)
theorem Ku(a r:RE):of 2*((0-(r)))+((a+1*r-(a+ -1*r)))=0:=by
 induction a using at5
 induction r using at5
 exact snd fun n=>by
  simp only[RL.add,RL.mul,RL.neg,RL.const]
  grind
theorem aaR(a r:RE)(h1:a+ -1*r=a+1*r):0≤r:=fun hg=>far (aQ (J9 (by decide+kernel:(0:Rat)<2) (aV hg)) (aO (iq h1))) (Ku a r)
theorem alh(a r:RE)(h1:a+ -1*r=a+1*r):r=0:=le_antisymm (abF a r h1) (aaR a r h1)
theorem akq{c:Ln}(h:0<c.2.2):AK c (pR (n7 c))∧AK c (pR (n4 c)):=by
 have hr:=ia (show 0≤c.2.2 by grind)
 unfold n7 n4
 rw[B3,B3]
 exact⟨(ahN _ _ _).trans hr,(aax _ _ _).trans hr⟩
theorem abk{c:Ln}(h:0<c.2.2):pR (n7 c)≠pR (n4 c):=by
 unfold n7 n4
 rw[B3,B3]
 intro e
 have e1:=alh _ _ (congrArg Prod.fst e)
 have hr:=ia (show 0≤c.2.2 by grind)
 rw[e1,mul_zero]at hr
 have:=vH hr
 grind
theorem Sn{l:Ln}{v:Rat×Rat}(h:l.1*v.1+l.2.1*v.2=l.2.2):(oe l (atP v)==0)=true:=by
 rw[IV,vK]
 exact congrArg of h
theorem Tg{c:Ln}{v:Rat×Rat}(h:(v.1-c.1)*(v.1-c.1)+(v.2-c.2.1)*(v.2-c.2.1)=c.2.2):(lT c (atP v)==0)=true:=by
 rw[uh,vK]
 unfold AK frm
 dsimp only
 rw[←of_sub,←of_sub]
 exact congrArg of h
theorem ae8{v w:Rat×Rat}(h:v≠w):cj (atP v) (atP w)≠0:=fun e=>h (by
 have:=cmpP_0.1 e
 rw[vK,vK]at this
 exact awt (vH (congrArg Prod.fst this)) (vH (congrArg Prod.snd this)))
end RE
open RE
def gdN(c:BCU):Prop:=mG c∧im (dC c) (frC (dC c))=true∧im (dC c) (toC (dC c))=true∧cj (frC (dC c)) (toC (dC c))≠0
theorem gdN.gd{c:BCU}(h:gdN c):gdC c:=⟨h.1.1,h.2.1,h.2.2.1⟩
theorem agJ{a b:Rat×Rat}[ba:Bd a 1][bb:Bd b 1](h:xx a b=false):gdN (vF a b):=by
 have hz:(qf a b).1≠0∨(qf a b).2.1≠0:=by
  unfold xx at h
  by_cases e:a.2-b.2=0
  ·rw[at7 e,auc]at h
   exact .inr (avb h)
  ·exact .inl e
 have hne:a≠b:=fun e=>by
  subst e
  unfold qf at hz
  rcases hz with h|h<;>exact h (by show _-_=(0:Rat);grind)
 have b1:Bd (qf a b).1 12:=(inferInstance:Bd (a.2-b.2) _).mono (by decide)
 have b2:Bd (qf a b).2.1 12:=(inferInstance:Bd (b.1-a.1) _).mono (by decide)
 have b3:Bd (qf a b).2.2 63:=(inferInstance:Bd ((a.2-b.2)*a.1+(b.1-a.1)*a.2) _).mono (by decide)
 have hl:=ro (h:=⟨b1,b2,b3⟩) hz
 have hL:Vo (enc (qf a b)):=⟨at6 (okd (x:=qf a b) (by decide) (by decide)),by rw[am];exact hz⟩
 unfold vF
 rw[h]
 refine⟨⟨⟨fun e=>(by cases e),fun _=>hL,jc (by decide) (by decide),jc (by decide) (by decide)⟩,fun e=>(by cases e),fun _=>hl⟩,?_⟩
 simp only[dC,im,frC,toC,lnC,am,cond_false]
 exact⟨Sn (by unfold qf;grind),Sn (by unfold qf;grind),ae8 hne⟩
theorem ah0{c:Ln}[bc:BdC c](h:0<c.2.2):∀d∈GF (enc c),gdN d:=by
 have hs:=mM h
 have bx:=bc.x
 have b_:=bc.y
 have bq:=bc.q
 have b0:Bd (0:Rat) 3:=cZ (n:=0) (by decide)
 have b1:Bd (1:Rat) 3:=cZ (n:=1) (by decide)
 have hC:kY (enc c):=⟨at6 (okd (h:=Xt (c:=c)) (by decide) (by decide)),by rw[am];exact h⟩
 have q0:(0:Rat)≤c.2.2:=by grind
 have pl:Rpd (n7 c):=AO (fun e=>absurd e.1 (by decide)) q0
 have pr:Rpd (n4 c):=AO (fun e=>absurd e.1 (by decide)) q0
 have bl:Bd (n7 c) 490:=Be (bx.mono (by decide:4≤4)) (ann.mono (by decide:3≤3)) b_ b0 bq (by decide)
 have br:Bd (n4 c) 490:=Be (bx.mono (by decide:4≤4)) b1 b_ b0 bq (by decide)
 have ol:okP 500 (enc (n7 c)):=at6 (aZ (by decide) (by decide))
 have or_:okP 500 (enc (n4 c)):=at6 (aZ (by decide) (by decide))
 obtain⟨nl,nr_⟩:=akq h
 have nl:=uh.2 nl
 have nr_:=uh.2 nr_
 have ne:=abk h
 intro d hd
 have:d=(true,o00,enc c,false,enc (n7 c),enc (n4 c))∨d=(true,o00,enc c,false,enc (n4 c),enc (n7 c)):=by
  unfold GF at hd
  rw[am]at hd
  simpa using hd
 rcases this with e|e<;>rw[e]
 ·refine⟨⟨⟨fun _=>hC,fun e=>(by cases e),ol,or_⟩,fun _=>hs,fun e=>(by cases e)⟩,?_⟩
  simp only[dC,im,frC,toC,ciC,am,cond_true]
  exact⟨nl,nr_,fun e=>ne (cmpP_0.1 e)⟩
 ·refine⟨⟨⟨fun _=>hC,fun e=>(by cases e),or_,ol⟩,fun _=>hs,fun e=>(by cases e)⟩,?_⟩
  simp only[dC,im,frC,toC,ciC,am,cond_true]
  exact⟨nr_,nl,fun e=>ne (cmpP_0.1 e).symm⟩
theorem ai8{a b c:Rat×Rat}(h:ed a b c≠0):(c.1-(ob a b c).1)*(c.1-(ob a b c).1)+(c.2-(ob a b c).2.1)*(c.2-(ob a b c).2.1)=(ob a b c).2.2:=by
 have h2:ed a b c+ed a b c≠0:=by grind
 have eX:wQ a b c*(ed a b c+ed a b c)=_:=avI h2
 have eY:uM a b c*(ed a b c+ed a b c)=_:=avI h2
 unfold ob
 dsimp only
 generalize wQ a b c=X at*
 generalize uM a b c=Y at*
 have k:ed a b c*(2*((c.1-a.1)*X+(c.2-a.2)*Y)-((c.1-a.1)*(c.1-a.1)+(c.2-a.2)*(c.2-a.2)))=0:=by
  unfold ed at*
  grind
 rcases aw0.1 k with g|g
 ·exact absurd g h
 ·grind
theorem anf{a b c:Rat×Rat}(h:ed a b c≠0)(e:a=c):False:=by
 subst e
 refine h ?_
 unfold ed
 grind
theorem agG{a b c:Rat×Rat}[a1:Bb a.1 7 2][a2:Bb a.2 7 2][b1:Bb b.1 7 2][b2:Bb b.2 7 2][c1:Bb c.1 7 2][c2:Bb c.2 7 2]:BdC (ob a b c):=by
 have d:Bb ((b.1-a.1)*(c.2-a.2)-(b.2-a.2)*(c.1-a.1)) _ _:=inferInstance
 have d:Bb (ed a b c) _ _:=d
 have X:Bb ((((b.1-a.1)*(b.1-a.1)+(b.2-a.2)*(b.2-a.2))*(c.2-a.2)-((c.1-a.1)*(c.1-a.1)+(c.2-a.2)*(c.2-a.2))*(b.2-a.2))/(ed a b c+ed a b c)) _ _:=inferInstance
 have X:Bb (wQ a b c) _ _:=X
 have Y:Bb ((((c.1-a.1)*(c.1-a.1)+(c.2-a.2)*(c.2-a.2))*(b.1-a.1)-((b.1-a.1)*(b.1-a.1)+(b.2-a.2)*(b.2-a.2))*(c.1-a.1))/(ed a b c+ed a b c)) _ _:=inferInstance
 have Y:Bb (uM a b c) _ _:=Y
 have x1:Bb (a.1+wQ a b c) _ _:=inferInstance
 have x2:Bb (a.2+uM a b c) _ _:=inferInstance
 have x3:Bb (wQ a b c*wQ a b c+uM a b c*uM a b c) _ _:=inferInstance
 exact⟨CU (h:=x1) (by decide) (by decide),CU (h:=x2) (by decide) (by decide),CU (h:=x3) (by decide) (by decide)⟩
theorem yJ{x y:Rat}(h:¬(x=0∧y=0)):0<x*x+y*y:=by
 have nn:∀a:Rat,0≤a*a:=fun a=>by
  rcases(by grind:0≤a∨0≤ -a)with h|h
  ·exact auF h h
  ·have:=auF h h;grind
 have h1:=nn x
 have h2:=nn y
 rcases(by grind:0<x*x+y*y∨(x*x=0∧y*y=0))with g|⟨g1,g2⟩
 ·exact g
 ·exact absurd ⟨by simpa using aw0.1 g1,by simpa using aw0.1 g2⟩ h
theorem aiF{a b c:Rat×Rat}[Bd a 1][Bd c 1][bc:BdC (ob a b c)](h:ed a b c≠0):gdN (ve a b c):=by
 have hon:=ai8 h
 have hne:a≠c:=fun e=>anf h e
 have hq:0<(ob a b c).2.2:=by
  refine yJ fun⟨e1,e2⟩=>hne ?_
  unfold ob at hon
  dsimp only at hon
  rw[e1,e2]at hon
  by_cases g:c.1-(a.1+0)=0∧c.2-(a.2+0)=0
  ·obtain⟨g1,g2⟩:=g
   exact awt (by grind) (by grind)
  ·have:=yJ g
   grind
 have hs:=mM (h:=bc) hq
 have bx:=bc.x
 have b_:=bc.y
 have bq:=bc.q
 have hC:kY (enc (ob a b c)):=⟨at6 (okd (h:=Xt (c:=ob a b c)) (by decide) (by decide)),by rw[am];exact hq⟩
 unfold ve
 rw[at9 h]
 refine⟨⟨⟨fun _=>hC,fun e=>(by cases e),jc (by decide) (by decide),jc (by decide) (by decide)⟩,fun _=>hs,fun e=>(by cases e)⟩,?_⟩
 simp only[dC,im,frC,toC,ciC,am,cond_true,cond_false]
 refine⟨Tg ?_,Tg hon,ae8 hne⟩
 unfold ob
 grind
theorem CT{x:Dr}(h:xn x):∀c∈ofL x,gdN c:=by
 obtain⟨h1,h2,hA,hB,hC,hD,hE,hF⟩:=h
 have a1:Bb (drA x).1 7 2:=u7 hA h2
 have a2:Bb (drA x).2 7 2:=u7 hB h2
 have b1:Bb (drB x).1 7 2:=u7 hC h2
 have b2:Bb (drB x).2 7 2:=u7 hD h2
 have c1:Bb (drC x).1 7 2:=u7 hE h2
 have c2:Bb (drC x).2 7 2:=u7 hF h2
 have l:∀{q:Rat},Bb q 7 2→Bd q 1:=fun h=>CU (h:=h) (by decide) (by decide)
 have m:∀v:Rat×Rat,Bb v.1 7 2→Bb v.2 7 2→Bd v 1:=fun v g g'=>by
  have:=l g
  have:=l g'
  exact inferInstanceAs (Bd (v.1,v.2) _)
 have vA:=m _ a1 a2
 have vB:=m _ b1 b2
 have vC:=m _ c1 c2
 intro c hc
 unfold ofL at hc
 cases h3:x.1%3==2
 ·rw[h3,cond_false]at hc
  cases h4:x.1%3==1
  ·rw[h4,cond_false]at hc
   cases h5:xx (drA x) (drB x)
   ·have:oB (drA x) (drB x)=0:=by unfold oB;rw[h5];rfl
    rw[this]at hc
    have:c=vF (drA x) (drB x):=by simpa using hc
    rw[this]
    exact agJ h5
   ·have:oB (drA x) (drB x)=6:=by unfold oB;rw[h5];rfl
    rw[this]at hc
    cases hc
  ·rw[h4,cond_true]at hc
   by_cases h5:ed (drA x) (drB x) (drC x)=0
   ·have:n9 (drA x) (drB x) (drC x)=6:=by unfold n9;rw[at7 h5];rfl
    rw[this]at hc
    cases hc
   ·have:n9 (drA x) (drB x) (drC x)=0:=by unfold n9;rw[at9 h5];rfl
    rw[this]at hc
    have:c=ve (drA x) (drB x) (drC x):=by simpa using hc
    rw[this]
    have:=agG (a:=drA x) (b:=drB x) (c:=drC x)
    exact aiF h5
 ·rw[h3,cond_true]at hc
  by_cases h5:(drB x).1≤0
  ·rw[at7 h5]at hc
   cases hc
  ·rw[at9 h5]at hc
   have bq:BdC (drQ x):=⟨(l a1).mono (by decide),(l a2).mono (by decide),(l b1).mono (by decide)⟩
   exact ah0 (c:=drQ x) (show 0<(drB x).1 by grind) c hc
end
def jI(c:BCU)(l:List BCU):List BP:=(l.map (oY c)).flatten
def uq(x:Pce):Prop:=xn x.1∧xn x.2.1∧u8P x.2.2
instance (x:Pce):Decidable (uq x):=by unfold uq;infer_instance
def GA(x:Pce):List BCU:=match ofL x.1 with
 |[]=>[]
 |c::_=>gY c (jI c (ofL x.2.1))
def wC(x:Pce):Bool:=!(ofL x.1).isEmpty
def gk(x:Pce):BCU:=bif wC x then(GA x).getD (x.2.2%((GA x).length:Int)).toNat c00 else c00
def aep:Env:=[(26,O3),(27,XM),(28,Hl)]
theorem T0:EnvAll Tryz.prog aep:=⟨Sx,Ww,EA,trivial⟩
def Y3:NT:=[((12,18),{keep:=[1,2,4,5,6,7],own:=[(6,41,tP)],hl:=3})]
def FQ:Ctx:=CX aep Y3
def qB(x:Pce)(s7:Int)(r2:List BP):Cfg:=⟨12,[.blk 0,.seq 31],[(1,.box 0 0),(2,.box 1 0),(4,.d (.sl tCU) (ofL x.1)),(5,.d (.sl tCU) (ofL x.2.1)),(6,.own 2),(7,SI s7)],[.box 26 [.d (.int .u8) x.1.1,.d (.int .u8) x.1.2.1,.d (.int .i8) x.1.2.2.1,.d (.int .i8) x.1.2.2.2.1,.d (.int .i8) x.1.2.2.2.2.1,.d (.int .i8) x.1.2.2.2.2.2.1,.d (.int .i8) x.1.2.2.2.2.2.2.1,.d (.int .i8) x.1.2.2.2.2.2.2.2,.d (.int .u8) x.2.1.1,.d (.int .u8) x.2.1.2.1,.d (.int .i8) x.2.1.2.2.1,.d (.int .i8) x.2.1.2.2.2.1,.d (.int .i8) x.2.1.2.2.2.2.1,.d (.int .i8) x.2.1.2.2.2.2.2.1,.d (.int .i8) x.2.1.2.2.2.2.2.2.1,.d (.int .i8) x.2.1.2.2.2.2.2.2.2,.d (.int .u8) x.2.2],.box 43 [SB false,SB false,.nil,SB false,.nil,SB false,.nil,SB false,.nil,SB false,.nil,SB false,.nil,SB false,.nil,SB false,.nil,SB false,.nil,SB false,.nil,SB false,.nil,SB false,.nil,SB false,SB false,.nil,SB false,.nil,SB false,.nil,SB false,.nil,SB false,.nil,SB false,.nil,SB false,.nil,SB false,.nil,SB false,.nil,SB false,.nil,SB false,.nil,SB false,.nil,SB false,.nil,SB false,.nil,SB false,.nil,SB false,.nil,SB false,.nil,SB false,.nil,SB false,.nil,SB false,.nil],.row 41 tP r2],0,[]⟩
def RT(x:Pce)(k:KT):Option (List RV):=match decide (xn x.1)with|true=>(match decide (xn x.2.1)with|true=>(match((ofL x.1).length:Int)==0 with|true=>some [RV.d tCU (false,((((false,[]),(false,[])),(((false,[]),(false,[])),((false,[]),(false,[])))),((((false,[]),(false,[])),(((false,[]),(false,[])),((false,[]),(false,[])))),(false,((((false,[]),(false,[])),(((false,[]),(false,[])),(((false,[]),(false,[])),(((false,[]),(false,[])),((false,[]),(false,[])))))),(((false,[]),(false,[])),(((false,[]),(false,[])),(((false,[]),(false,[])),(((false,[]),(false,[])),((false,[]),(false,[]))))))))))),RV.d .bool false]|false=>k 18 (qB x 0 ([])))|false=>none)|false=>none
theorem ah7(x:Pce):RS FQ 12 [.d ti x] (RT x):=rsX
def oG(x:Pce)(s7:Int)(r2:List BP)(k:KT):Option (List RV):=match decide (s7<((ofL x.2.1).length:Int))with|true=>(match bH (ofL x.1) 0 with|some x1=>(match bH (ofL x.2.1) s7 with|some x2=>(match decide (te x1 x2)with|true=>(match decide ((r2.length+(oY x1 x2).length)*320≤140737488355328∧r2.length+(oY x1 x2).length≤140737488355328)with|true=>k 18 (qB x (i64.wrap (s7+1)) (r2++(oY x1 x2)))|false=>none)|false=>none)|none=>none)|none=>none)|false=>(match bH (ofL x.1) 0 with|some x1=>(match decide (xw x1 r2)with|true=>(match decide (((gY x1 r2).length:Int)=(0:Int))with|true=>none|false=>(match bH (gY x1 r2) (Int.tmod (i64.wrap x.2.2) ((gY x1 r2).length:Int))with|some x2=>some [RV.d tCU x2,RV.d .bool true]|none=>none))|false=>none)|none=>none)
theorem u9(x:Pce)(s7:Int)(r2:List BP):RN FQ 18 (qB x s7 r2) (oG x s7 r2):=rnX
theorem HK{c d:BCU}(h:te c d):(oY c d).length≤4∧∀x∈oY c d,okP 500 x∧onR (dC c) (dec x)=true∧onR (dC d) (dec x)=true:=by
 obtain⟨h1,h2⟩:=JE h
 unfold oY aig
 have h3:=uk (dC c) ((CI c d).filter fun p=>onR (dC c) (dec p)&&onR (dC d) (dec p)) []
 have h4:=List.length_filter_le (fun p=>onR (dC c) (dec p)&&onR (dC d) (dec p)) (CI c d)
 refine⟨by
  unfold fX
  rw[List.length_nil,auP]at h3
  exact aur h3 (aur h4 h1),JT fun x hx=>?_⟩
 obtain⟨g1,g2⟩:=List.mem_filter.1 hx
 obtain⟨g3,g4⟩:=avg.1 g2
 exact⟨h2 x g1,g3,g4⟩
theorem We(c:Cv)(x:BP):∀r:List BP,r.length≤(gf c r x).length
 |[]=>by simp
 |z::r=>by
  have:=We c x r
  simp only[gf]
  cases decide (dR c (dec z) (dec x)<0)
  ·cases cj (dec z) (dec x)==0<;>simp
  ·simp only[cond_true,auD];omega
theorem WL(c:Cv):∀(l out:List BP),out.length≤(l.foldl (gf c) out).length
 |[],_=>auj _
 |x::l,out=>aur (We c x out) (WL c l _)
theorem HR(c:BCU):∀s:List BP,(xC c s).length=s.length-1
 |[]=>rfl
 |[_]=>rfl
 |x::y::r=>by
  have:=HR c (y::r)
  simp only[xC,auD]at this ⊢
  omega
theorem Zw{c:BCU}(h:cj (dec c.2.2.2.2.1) (dec c.2.2.2.2.2)≠0)(l:List BP):2≤(qU c l).length:=by
 unfold qU fX
 refine aur ?_ (WL (dC c) l _)
 simp only[gf]
 rw[awO.2 h]
 cases decide (dR (dC c) (dec c.2.2.2.2.1) (dec c.2.2.2.2.2)<0)<;>exact auj _
theorem Jz{c:BCU}(h:gdN c)(l:List BP):1≤(gY c l).length∧(gY c l).length≤l.length+1:=by
 have h1:=Zw h.2.2.2 l
 have h2:=HZ c l
 unfold gY
 rw[HR]
 omega
theorem acQ{c:BCU}(h:gdN c){l:List BP}(hl:l.length≤900000)(ho:∀p∈l,okP 500 p∧onR (dC c) (dec p)=true):xw c l:=
 ⟨dt h.1.1 (by decide) (by decide),hl,fun x hx=>⟨cJ (ho x hx).1 (by decide) (by decide),(ho x hx).2⟩⟩
def gdM(c:BCU):Prop:=mG c∧im (dC c) (frC (dC c))=true∧im (dC c) (toC (dC c))=true
theorem gdM.gd{c:BCU}(h:gdM c):gdC c:=⟨h.1.1,h.2.1,h.2.2⟩
theorem gdN.m{c:BCU}(h:gdN c):gdM c:=⟨h.1,h.2.1,h.2.2.1⟩
theorem akV{c:BCU}(h:gdN c){l:List BP}(ho:∀p∈l,okP 500 p∧onR (dC c) (dec p)=true):∀p∈gY c l,gdM p:=by
 intro p hp
 obtain⟨x,y,hx,hy,e⟩:=Km hp
 have f:∀z,z∈qU c l→okP 500 z∧im (dC c) (dec z)=true:=fun z hz=>by
  rcases Jp hz with e|e|e
  ·rw[e];exact⟨h.1.1.2.2.1,h.2.1⟩
  ·rw[e];exact⟨h.1.1.2.2.2,h.2.2.1⟩
  ·exact⟨(ho z e).1,(avg.1 (ho z e).2).1⟩
 obtain⟨x1,x2⟩:=f x hx
 obtain⟨y1,y2⟩:=f y hy
 rw[e]
 exact⟨⟨⟨h.1.1.1,h.1.1.2.1,x1,y1⟩,h.1.2⟩,x2,y2⟩
theorem ahY(x:Dr):(ofL x).length≤2:=by
 unfold ofL
 cases x.1%3==2
 ·cases x.1%3==1
  ·cases oB (drA x) (drB x) !=0<;>simp
  ·cases n9 (drA x) (drB x) (drC x) !=0<;>simp
 ·cases decide ((drB x).1≤0)
  ·unfold GF;simp
  ·simp
theorem Qm{c:BCU}(h:gdN c):∀{l:List BCU},(∀d∈l,gdN d)→(jI c l).length≤4*l.length∧∀p∈jI c l,okP 500 p∧onR (dC c) (dec p)=true
 |[],_=>⟨auj _,fun p hp=>by cases hp⟩
 |d::r,hd=>by
  obtain⟨i1,i2⟩:=Qm h (l:=r) (fun e he=>hd e (auY _ he))
  obtain⟨m1,m2⟩:=HK (show te c d from⟨h.1,(hd d (by simp)).1⟩)
  have e:jI c (d::r)=oY c d++jI c r:=rfl
  rw[e]
  refine⟨by rw[avs,auD];omega,fun p hp=>?_⟩
  rcases auN.1 hp with g|g
  ·exact⟨(m2 p g).1,(m2 p g).2.1⟩
  ·exact i2 p g
def afS(x:Pce)(l:List BCU):BCU:=l.getD (x.2.2%(l.length:Int)).toNat c00
theorem aaF(x:Pce)(h:uq x)(c:BCU)(hc:gdN c)(g0:bH (ofL x.1) 0=some c)(B:List BCU)(hB:ofL x.2.1=B)(gB:∀d∈B,gdN d)(lB:B.length≤2):∀(j i:Nat),i+j=B.length→∀r2:List BP,r2.length≤4*i→(∀p∈r2,okP 500 p∧onR (dC c) (dec p)=true)→
  FQ.Runs 18 (qB x (i:Int) r2) [.d tCU (afS x (gY c (r2++jI c (B.drop i)))),.d .bool true]:=by
 intro j
 induction j with
 |zero=>
  intro i hi r2 hr ho
  refine u9 _ _ _ ⟨0,?_⟩
  obtain⟨l1,l2⟩:=Jz hc r2
  have hs:=acQ hc (l:=r2) (by omega) ho
  obtain⟨u1,u2⟩:=h.2.2
  have e1:Int.tmod (i64.wrap x.2.2) ((gY c r2).length:Int)=x.2.2%((gY c r2).length:Int):=by
   rw[bj (by omega) (by omega),Int.tmod_eq_emod_of_nonneg u1]
  have m0:=avi x.2.2 (show((gY c r2).length:Int)≠0 by omega)
  have m1:=auL x.2.2 (show 0<((gY c r2).length:Int) by omega)
  obtain⟨k,hk⟩:=avl m0
  have hkl:k<(gY c r2).length:=by omega
  have hd:B.drop i=[]:=awH.2 (by omega)
  have hcut:jI c []=[]:=rfl
  unfold oG
  rw[hB,cN (by omega),g0]
  dsimp only
  rw[dT hs,dF (show ¬((gY c r2).length:Int)=0 by omega),e1,hk,aM,at8 hkl,hd,hcut,auZ]
  unfold afS
  rw[hk,avP,List.getD_eq_getElem?_getD,at8 hkl]
  rfl
 |succ j ih=>
  intro i hi r2 hr ho
  have hil:i<B.length:=by omega
  have hm:te c B[i]:=⟨hc.1,(gB _ (au7 hil)).1⟩
  obtain⟨m1,m2⟩:=HK hm
  obtain⟨n,hn⟩:=ih (i+1) (by omega) (r2++oY c B[i]) (by rw[avs];omega) (fun p hp=>by
   rcases auN.1 hp with g|g
   ·exact ho p g
   ·exact⟨(m2 p g).1,(m2 p g).2.1⟩)
  have hd:B.drop i=B[i]::B.drop (i+1):=auv hil
  have hcut:jI c (B[i]::B.drop (i+1))=oY c B[i]++jI c (B.drop (i+1)):=rfl
  refine u9 _ _ _ ⟨n,?_⟩
  unfold oG
  rw[hB,cg hil,g0,aM,at8 hil]
  dsimp only
  rw[dT hm,dT (by omega),cO (by omega),hd,hcut,←avw]
  exact hn
theorem Sk(x:Pce)(h:uq x):Con Tryz.prog 12 [.d ti x] [.d tCU (gk x),.d .bool (wC x)]:=by
 have hB:=CT h.2.1
 have hA:=CT h.1
 refine aP T0 (ah7 _ ?_)
 unfold RT gk wC
 rw[dT h.1,dT h.2.1]
 cases hl:ofL x.1 with
 |nil=>exact⟨0,rfl⟩
 |cons c r=>
  rw[hl]at hA
  obtain⟨n,hn⟩:=aaF x h c (hA c (by simp)) (by rw[hl];rfl) _ rfl hB (ahY _) _ 0 (auP _) [] (auj _) (fun p hp=>by cases hp)
  refine⟨n,?_⟩
  have e:(((c::r).length:Int)==0)=false:=by simp;omega
  rw[e]
  unfold GA
  rw[hl]
  exact hn
def Bx:aN:=spN false true [ti] (fun x=>decide (uq x.1)) (fun x=>[RV.d tCU (hid (gk x.1)),RV.d .bool (wC x.1)])
theorem zz:SpK 12 Bx:=spX fun x h=>by simp only[aj];exact Sk x.1 (at6 h)
theorem aaN{x:Pce}(h:uq x)(ho:wC x=true):gk x∈GA x:=by
 have hA:=CT h.1
 unfold gk GA
 rw[ho]
 unfold wC at ho
 cases hl:ofL x.1 with
 |nil=>rw[hl]at ho;cases ho
 |cons c r=>
  rw[hl]at hA
  obtain⟨l1,l2⟩:=Jz (hA c (by simp)) (jI c (ofL x.2.1))
  have m0:=avi x.2.2 (show((gY c (jI c (ofL x.2.1))).length:Int)≠0 by omega)
  have m1:=auL x.2.2 (show 0<((gY c (jI c (ofL x.2.1))).length:Int) by omega)
  have hk:(x.2.2%((gY c (jI c (ofL x.2.1))).length:Int)).toNat<(gY c (jI c (ofL x.2.1))).length:=by omega
  simp only[cond_true]
  rw[List.getD_eq_getElem?_getD,at8 hk]
  exact au7 hk
def aeu:Env:=[(52,tB)]
theorem Nk:EnvAll Tryz.prog aeu:=⟨rS,trivial⟩
def al0:Ctx:=CX aeu []
def afb(n:Int)(_k:KT):Option (List RV):=match decide (rC (i64.wrap n) (4:Int))with|true=>some [RV.d tR (hid (ag (Rat.divInt (i64.wrap n) (4:Int))))]|false=>none
theorem apY(n:Int):RS al0 22 [.d (.int .i8) n] (afb n):=rsX
theorem acb(n:Int)(h:i8P n):Con Tryz.prog 22 [.d (.int .i8) n] [.d tR (ag (Rat.divInt n 4))]:=by
 refine aP Nk (apY _ ⟨0,?_⟩)
 obtain⟨h1,h2⟩:=h
 unfold afb
 rw[bj (x:=n) (by omega) (by omega),dT (show rC n 4 from⟨⟨by omega,by omega⟩,⟨by omega,by omega⟩,by omega⟩)]
 simp only[aj]
def Fb:aN:=spN false true [(.int .i8)] (fun x=>decide (i8P x.1)) (fun x=>[RV.d tR (hid (ag (Rat.divInt x.1 4)))])
theorem De:SpK 22 Fb:=spX fun x h=>by simp only[aj];exact acb x.1 (at6 h)
theorem FO{n:Int}(h:i8P n):Bd (Rat.divInt n 4) 3:=Af (n:=n) (d:=4) (by obtain⟨h1,h2⟩:=h;exact⟨by omega,by omega⟩) (by decide) (by decide)
theorem oo{n:Int}(h:Ty.ok (.int .i8) n):i8P n:=bounds_i8 h
theorem Kc{n:Int}(h:Ty.ok (.int .u8) n):u8P n:=bounds_u8 h
theorem aeH{x:Dr}(h:Ty.ok tDr x):xn x:=⟨Kc h.1,Kc h.2.1,oo h.2.2.1,oo h.2.2.2.1,oo h.2.2.2.2.1,oo h.2.2.2.2.2.1,oo h.2.2.2.2.2.2.1,oo h.2.2.2.2.2.2.2⟩
theorem P7{x:Pce}(h:Ty.ok ti x):uq x:=⟨aeH h.1,aeH h.2.1,Kc h.2.2⟩
theorem O7{n:Int}(h:i8P n){k:Nat}(hk:3≤k)(hk':k≤480000):ok Rat k (ag (Rat.divInt n 4)):=by
 have:=FO h
 exact at6 (okd (x:=Rat.divInt n 4) hk hk')
section
namespace RE
def dsE(p v:PE):RE:=(p.1-v.1)*(p.1-v.1)+(p.2-v.2)*(p.2-v.2)
def Mn(S:PE→Prop)(v:PE)(m:RE):Prop:=(∃p,S p∧dsE p v=m)∧∀p,S p→m≤dsE p v
open Classical in
def mnE(a b:RE):RE:=if b<a then b else a
def exE(l:Ln)(v:PE):RE:=of l.1*v.1+of l.2.1*v.2-of l.2.2
def nrE(l:Ln):RE:=of l.1*of l.1+of l.2.1*of l.2.1
theorem arM(a b x y d e q:RE):(a*y-b*x)*((d*b-e*a)+(d*y-e*x))=((a*d+b*e)-(x*d+y*e))*(q+(a*x+b*y))+(a*d+b*e)*(x*x+y*y-q)-(x*d+y*e)*(a*a+b*b-q):=by
 induction a using at5
 induction b using at5
 induction x using at5
 induction y using at5
 induction d using at5
 induction e using at5
 induction q using at5
 exact snd fun n=>by
  simp only[RL.add,RL.mul,RL.neg]
  grind
theorem aaP(x k m:RE):x+k*0-m*0=x:=by
 induction x using at5
 induction k using at5
 induction m using at5
 exact snd fun n=>by
  simp only[RL.add,RL.mul,RL.neg,RL.const]
  grind
theorem TN(x y:RE):((0-(x+y)))+((x-(0)))+((y-(0)))=0:=by
 induction x using at5
 induction y using at5
 exact snd fun n=>by
  simp only[RL.add,RL.neg,RL.const]
  grind
theorem aiT(x y:RE)(h1:0≤x)(h2:0≤y):0≤x+y:=fun hg=>far (aQ (aQ (aV hg) (aO h1)) (aO h2)) (TN x y)
theorem LO(x y:RE):((x-(0)))+((0-(x+y)))+((y-(0)))=0:=by
 induction x using at5
 induction y using at5
 exact snd fun n=>by
  simp only[RL.add,RL.neg,RL.const]
  grind
theorem aaB(x y:RE)(h1:x+y=0)(_h2:0≤x)(h3:0≤y):x≤0:=fun hg=>far (aQ (aQ (aV hg) (aO (iq h1))) (aO h3)) (LO x y)
theorem GT(x y:RE):((y-(0)))+((0-(x+y)))+((x-(0)))=0:=by
 induction x using at5
 induction y using at5
 exact snd fun n=>by
  simp only[RL.add,RL.neg,RL.const]
  grind
theorem SE(x y:RE)(h1:x+y=0)(h2:0≤x)(_h3:0≤y):y≤0:=fun hg=>far (aQ (aQ (aV hg) (aO (iq h1))) (aO h2)) (GT x y)
theorem HU{x y:RE}(h:x*x+y*y=0):x=0∧y=0:=⟨JA (aaB _ _ h (pn x) (pn y)),JA (SE _ _ h (pn x) (pn y))⟩
theorem gl{u z d:PE}{Q:RE}(hu:dtE u u=Q)(hz:dtE z z=Q):crs u z*(crs d u+crs d z)=(dtE u d-dtE z d)*(Q+dtE u z):=by
 unfold dtE at hu hz
 unfold crs dtE
 rw[arM _ _ _ _ _ _ Q,hu,hz,sub_self,aaP]
theorem Tr{x:RE}:sg x<0↔x<0:=by
 rcases bP x with⟨h,e⟩|⟨h,e⟩|⟨h,e⟩<;>rw[e]
 ·exact⟨fun h'=>absurd h' (by decide),fun h'=>absurd (dq h h') (lt_irrefl _)⟩
 ·rw[h];exact⟨fun h'=>absurd h' (by decide),fun h'=>absurd h' (lt_irrefl _)⟩
 ·exact⟨fun _=>h,fun _=>by decide⟩
end RE
end
namespace RE
theorem ajS{a b:Rt}[ha:Rdd a][hb:Rdd b]:vR (pN a b)=mnE (vR a) (vR b):=by
 unfold pN mnE
 rw[cmpT_re hb.nn ha.nn]
 by_cases h:vR b<vR a
 ·rw[auw h,at7 (by rw[ij (qN _ _ h)];decide)]
  rfl
 ·rw[aus h,at9 (by
   intro g
   exact h (ajQ (by rw[←Ic];exact lF (Tr.1 g))))]
  rfl
def vE(v:Rat×Rat):PE:=(of v.1,of v.2)
theorem vR_sq{p:Pt}[Rpd p](v:Rat×Rat):vR (sqP p v)=dsE (pR p) (vE v):=B5
theorem ait{c:Cv}(hf:Rpd (frC c))(ht:Rpd (toC c))(v:Rat×Rat):vR (AV c v)=mnE (dsE (pR (frC c)) (vE v)) (dsE (pR (toC c)) (vE v)):=by
 unfold AV
 rw[ajS,vR_sq,vR_sq]
theorem DR{c:Cv}[hf:Rpd (frC c)][ht:Rpd (toC c)]{p:Pt}[hp:Rpd p]:oI c p=true↔btE (tE (lnC c) (pR (frC c))) (tE (lnC c) (pR (toC c))) (tE (lnC c) (pR p)):=by
 unfold oI
 rw[qD,qD,qD,qD,qD]
 exact Bo _ _ _
theorem ajv(l:Ln)(v:Rat×Rat):exE l (vE v)=of (l.1*v.1+l.2.1*v.2-l.2.2):=by
 rw[of_sub]
 rfl
theorem VI{l:Ln}(hl:l.1≠0∨l.2.1≠0)(v:Rat×Rat):df (fL v (gn l v)) (fL v (gn l v))=(l.1*v.1+l.2.1*v.2-l.2.2)*(l.1*v.1+l.2.1*v.2-l.2.2)*(1/(l.1*l.1+l.2.1*l.2.1)):=by
 have hn:=kX hl
 have h1:1/(l.1*l.1+l.2.1*l.2.1)*(l.1*l.1+l.2.1*l.2.1)=1:=avI hn
 have h2:pj l v=(l.1*v.1+l.2.1*v.2-l.2.2)*(1/(l.1*l.1+l.2.1*l.2.1)):=by
  unfold pj
  rw[awN,awN,Rat.one_mul]
 unfold df fL gn
 rw[h2]
 generalize 1/(l.1*l.1+l.2.1*l.2.1)=k at*
 generalize l.1*v.1+l.2.1*v.2-l.2.2=e at*
 dsimp only
 grind
theorem abM(x y a b v w:RE):(x-v)*(x-v)+(y-w)*(y-w)=(x-a)*(x-a)+(y-b)*(y-b)+((v-a)*(v-a)+(w-b)*(w-b))-(((x-a)*(v-a)+(y-b)*(w-b))+((x-a)*(v-a)+(y-b)*(w-b))):=by
 induction x using at5
 induction y using at5
 induction a using at5
 induction b using at5
 induction v using at5
 induction w using at5
 exact snd fun n=>by
  simp only[RL.add,RL.mul,RL.neg]
  grind
theorem YP(a b c d r:RE):a*(d*r)-b*(c*r)=r*(a*d-b*c):=by
 induction a using at5
 induction b using at5
 induction c using at5
 induction d using at5
 induction r using at5
 exact snd fun n=>by
  simp only[RL.add,RL.mul,RL.neg]
  grind
theorem Z9(a b c d r:RE):c*r*b-d*r*a=r*(c*b-d*a):=by
 induction a using at5
 induction b using at5
 induction c using at5
 induction d using at5
 induction r using at5
 exact snd fun n=>by
  simp only[RL.add,RL.mul,RL.neg]
  grind
theorem atJ(a b r:RE):a*r*a+b*r*b=r*(a*a+b*b):=by
 induction a using at5
 induction b using at5
 induction r using at5
 exact snd fun n=>by
  simp only[RL.add,RL.mul]
  grind
theorem amx(a b:RE):a+b-a=b:=by
 induction a using at5
 induction b using at5
 exact snd fun n=>by
  simp only[RL.add,RL.neg]
  grind
theorem atZ(r d:RE):r*d*(r*d)=r*r*d*d:=by
 induction r using at5
 induction d using at5
 exact snd fun n=>by
  simp only[RL.mul]
  grind
theorem aho(a b r:RE):a*r*(a*r)+b*r*(b*r)=(a*a+b*b)*(r*r):=by
 induction a using at5
 induction b using at5
 induction r using at5
 exact snd fun n=>by
  simp only[RL.add,RL.mul]
  grind
theorem ar0(a s:RE):a+ -2*s=a-(s+s):=by
 induction a using at5
 induction s using at5
 exact snd fun n=>by
  simp only[RL.add,RL.mul,RL.neg,RL.const]
  grind
theorem asV{c:Ln}{p:PE}(h:AK c p)(v:PE):dsE p v=of c.2.2+dtE (frm c v) (frm c v)-(dtE (frm c p) (frm c v)+dtE (frm c p) (frm c v)):=by
 have h':(p.1-of c.1)*(p.1-of c.1)+(p.2-of c.2.1)*(p.2-of c.2.1)=of c.2.2:=h
 unfold dsE dtE frm
 dsimp only
 rw[abM _ _ (of c.1) (of c.2.1),h']
theorem MO(u w d:PE){r:RE}(hr:0<r):xF u w (d.1*r,d.2*r)=xF u w d:=by
 have h1:crs u (d.1*r,d.2*r)=r*crs u d:=YP _ _ _ _ _
 have h2:crs (d.1*r,d.2*r) w=r*crs d w:=Z9 _ _ _ _ _
 unfold xF
 rw[h1,h2,dP,dP,dJ hr,avz,avz]
theorem Of{q:Pt}:pX (rdP q)=pX q∧pY (rdP q)=pY q:=by
 unfold rdP pX pY
 by_cases h1:q.2.1=0
 ·by_cases h2:q.2.2.2.1=0
  ·rw[at7 h1,at7 h2]
   dsimp only
   rw[h1,h2,da,da,da,da]
   exact⟨rfl,rfl⟩
  ·rw[at9 h2,Bool.and_false]
   exact⟨rfl,rfl⟩
 ·rw[at9 h1,Bool.false_and]
  exact⟨rfl,rfl⟩
theorem aop{x y:Rt}(h:ri x y):pR (mkP x y)=(vR x,vR y):=by
 unfold mkP
 refine awt (Of.1.trans ?_) (Of.2.trans ?_)
 ·unfold pX vR
  dsimp only
  by_cases e:x.2.1=0
  ·rw[e,da,da]
  ·rw[at9 e]
   rfl
 ·unfold pY vR
  dsimp only
  by_cases e:x.2.1=0
  ·rw[at7 e]
   rfl
  ·rw[at9 e]
   rcases h with h|h|h
   ·exact absurd h e
   ·rw[h,da,da]
   ·rw[cond_false,h]
theorem Iw(c:Ln)(d:Rat×Rat):frm c (pR (xB c d))=(of d.1*rq (c.2.2/df d d),of d.2*rq (c.2.2/df d d)):=by
 unfold xB
 rw[aop (qG _ _ _ _ _),vR_mk,vR_mk]
 unfold frm v2
 exact awt (amx _ _) (amx _ _)
theorem aqy(c:Ln)(v:Rat×Rat):frm c (vE v)=vE (fL (ctr c) v):=by
 unfold frm vE fL ctr
 dsimp only
 rw[of_sub,of_sub]
theorem atO(d:Rat×Rat):dtE (vE d) (vE d)=of (df d d):=rfl
theorem QD{m:Rat}(h:0<m):0<rq m:=by
 have:=SU (m:=m) (by grind)
 rw[cX h]at this
 exact Tb.1 this
theorem Zf{c:Cv}(h:GdE c)(ha:c.1=true){v:Rat×Rat}(hz:zeV (cW c v)=false):AK (ciC c) (pR (xB (ciC c) (cW c v)))∧pF c (cW c v)=xF (frm (ciC c) (pR (ccF c))) (frm (ciC c) (pR (ccT c))) (vE (cW c v)):=by
 have hq:=(h.q ha).1
 have hq0:(0:Rat)≤(ciC c).2.2:=by grind
 have hC:Cir (ciC c):=⟨hq⟩
 have d0:=Bv (cW c v)
 have n0:0<(ciC c).2.2/df (cW c v) (cW c v):=by
  have h1:(ciC c).2.2/df (cW c v) (cW c v)*df (cW c v) (cW c v)=(ciC c).2.2:=avI (Bk hz)
  have h2:=UP hq0 d0
  rcases(by grind:(ciC c).2.2/df (cW c v) (cW c v)=0∨0<(ciC c).2.2/df (cW c v) (cW c v))with h3|h3
  ·rw[h3]at h1;grind
  ·exact h3
 have hr:=QD n0
 have rr:=ia (show 0≤(ciC c).2.2/df (cW c v) (cW c v) by grind)
 have onray:AK (ciC c) (pR (xB (ciC c) (cW c v))):=by
  show(frm _ _).1*(frm _ _).1+(frm _ _).2*(frm _ _).2=_
  rw[Iw]
  have:of (cW c v).1*rq ((ciC c).2.2/df (cW c v) (cW c v))*(of (cW c v).1*rq ((ciC c).2.2/df (cW c v) (cW c v)))+of (cW c v).2*rq ((ciC c).2.2/df (cW c v) (cW c v))*(of (cW c v).2*rq ((ciC c).2.2/df (cW c v) (cW c v)))=of (df (cW c v) (cW c v))*(rq ((ciC c).2.2/df (cW c v) (cW c v))*rq ((ciC c).2.2/df (cW c v) (cW c v))):=aho _ _ _
  rw[this,rr,←bJ,Rat.mul_comm,avI (Bk hz)]
 refine⟨onray,?_⟩
 have e1:pF c (cW c v)=onP c (xB (ciC c) (cW c v)):=by
  unfold pF
  rw[ha,hz]
  rfl
 rw[e1,←MO _ _ (vE (cW c v)) hr,av2,aaz h]
 unfold onE n9
 rw[auw ha,Iw]
 exact and_iff_right onray
end RE
section
section
variable {α:Type} {lt:α→α→Prop} {f:α→α→Int}
theorem WT(h:oK lt):oK (fun x y=>lt y x):=⟨h.irr,fun x y z a b=>h.tr z y x b a,fun x y=>by
 rcases h.tri x y with g|g|g
 ·exact .inr (.inr g)
 ·exact .inr (.inl g)
 ·exact .inl g⟩
theorem LD(h:xf lt f):xf (fun x y=>lt y x) (fun x y=> -f x y):=fun x y=>⟨fun g=>(by show-f x y= -1;rw[(h x y).2.2 g]),fun g=>(by show-f x y=0;rw[(h x y).2.1 g];rfl),fun g=>(by show-f x y=1;rw[(h x y).1 g];rfl)⟩
def aLt(lt:α→α→Prop)(u v:Bool×α):Prop:=(u.1=false∧v.1=true)∨(u.1=false∧v.1=false∧lt u.2 v.2)∨(u.1=true∧v.1=true∧lt v.2 u.2)
theorem ac1(h:oK lt):oK (aLt lt):=by
 refine⟨fun⟨a,u⟩ g=>?_,fun⟨a,u⟩ ⟨b,v⟩ ⟨c,w⟩ g g'=>?_,fun⟨a,u⟩ ⟨b,v⟩=>?_⟩
 ·rcases g with⟨g1,g2⟩|⟨_,_,g⟩|⟨_,_,g⟩
  ·rw[g1]at g2;cases g2
  ·exact h.irr _ g
  ·exact h.irr _ g
 ·unfold aLt at*
  cases a<;>cases b<;>cases c<;>simp only[true_and,false_and,and_false,axc,or_false,false_or,reduceCtorEq,and_self]at g g' ⊢
  ·exact h.tr _ _ _ g g'
  ·exact h.tr _ _ _ g' g
 ·unfold aLt
  cases a<;>cases b<;>simp only[true_and,false_and,and_false,axc,or_false,false_or,reduceCtorEq,and_self,or_true,true_or]
  ·rcases h.tri u v with g|g|g
   ·exact .inl g
   ·exact .inr (.inl (by rw[g]))
   ·exact .inr (.inr g)
  ·rcases h.tri u v with g|g|g
   ·exact .inr (.inr g)
   ·exact .inr (.inl (by rw[g]))
   ·exact .inl g
theorem Xf(h:xf lt f):xf (aLt lt) (ii f):=fun⟨a,u⟩ ⟨b,v⟩=>by
 refine⟨fun g=>?_,fun g=>?_,fun g=>?_⟩
 ·unfold aLt at g
  unfold ii
  cases a<;>cases b<;>simp only[true_and,false_and,and_false,axc,or_false,false_or,reduceCtorEq,and_self]at g
  ·exact(h u v).1 g
  ·rfl
  ·show-f u v= -1
   rw[(h u v).2.2 g]
 ·injection g with g1 g2
  subst g1 g2
  unfold ii
  have:=(h u u).2.1 rfl
  cases a
  ·exact this
  ·show-f u u=0
   rw[this];rfl
 ·unfold aLt at g
  unfold ii
  cases a<;>cases b<;>simp only[true_and,false_and,and_false,axc,or_false,false_or,reduceCtorEq,and_self]at g
  ·exact(h u v).2.2 g
  ·rfl
  ·show-f u v=1
   rw[(h u v).1 g];rfl
def cLt(lt:α→α→Prop)(o u v:α):Prop:=(¬lt u o∧lt v o)∨((lt u o↔lt v o)∧lt u v)
theorem anh(h:oK lt)(o:α):oK (cLt lt o):=by
 refine⟨fun u g=>?_,fun u v w g g'=>?_,fun u v=>?_⟩
 ·rcases g with⟨g1,g2⟩|⟨_,g⟩
  ·exact g1 g2
  ·exact h.irr _ g
 ·rcases g with⟨g1,g2⟩|⟨g1,g2⟩<;>rcases g' with⟨g3,g4⟩|⟨g3,g4⟩
  ·exact absurd g2 g3
  ·exact .inl ⟨g1,g3.1 g2⟩
  ·exact .inl ⟨fun e=>g3 (g1.1 e),g4⟩
  ·exact .inr ⟨g1.trans g3,h.tr _ _ _ g2 g4⟩
 ·by_cases e1:lt u o<;>by_cases e2:lt v o
  ·rcases h.tri u v with g|g|g
   ·exact .inl (.inr ⟨⟨fun _=>e2,fun _=>e1⟩,g⟩)
   ·exact .inr (.inl g)
   ·exact .inr (.inr (.inr ⟨⟨fun _=>e1,fun _=>e2⟩,g⟩))
  ·exact .inr (.inr (.inl ⟨e2,e1⟩))
  ·exact .inl (.inl ⟨e1,e2⟩)
  ·rcases h.tri u v with g|g|g
   ·exact .inl (.inr ⟨⟨fun e=>absurd e e1,fun e=>absurd e e2⟩,g⟩)
   ·exact .inr (.inl g)
   ·exact .inr (.inr (.inr ⟨⟨fun e=>absurd e e2,fun e=>absurd e e1⟩,g⟩))
theorem CY(hl:oK lt)(h:xf lt f)(x y:α):decide (f x y<0)=true↔lt x y:=by
 rw[avJ]
 rcases hl.tri x y with g|g|g
 ·rw[(h x y).1 g];exact⟨fun _=>g,fun _=>by decide⟩
 ·rw[(h x y).2.1 g];exact⟨fun e=>absurd e (by decide),fun e=>absurd e (by rw[g];exact hl.irr _)⟩
 ·rw[(h x y).2.2 g];exact⟨fun e=>absurd e (by decide),fun e=>absurd (hl.tr _ _ _ e g) (hl.irr _)⟩
theorem Ve(hl:oK lt)(h:xf lt f)(o:Bool×α):xf (cLt (aLt lt) o) (sL f o):=fun u v=>by
 have ha:=Xf h
 have n:=CY (ac1 hl) ha
 have tf:∀x,¬aLt lt x o→decide (ii f x o<0)=false:=fun x g=>by
  cases e:decide (ii f x o<0)
  ·rfl
  ·exact absurd ((n x o).1 e) g
 unfold sL
 refine⟨fun g=>?_,fun g=>?_,fun g=>?_⟩
 ·rcases g with⟨g1,g2⟩|⟨g1,g2⟩
  ·rw[tf u g1,(n v o).2 g2];rfl
  ·have e:(decide (ii f u o<0)==decide (ii f v o<0))=true:=by
    by_cases e:aLt lt u o
    ·rw[(n u o).2 e,(n v o).2 (g1.1 e)];rfl
    ·rw[tf u e,tf v (fun e'=>e (g1.2 e'))];rfl
   rw[e];exact(ha u v).1 g2
 ·subst g
  rw[beq_self_eq_true];exact(ha u u).2.1 rfl
 ·rcases g with⟨g1,g2⟩|⟨g1,g2⟩
  ·rw[tf v g1,(n u o).2 g2];rfl
  ·have e:(decide (ii f u o<0)==decide (ii f v o<0))=true:=by
    by_cases e:aLt lt u o
    ·rw[(n u o).2 e,(n v o).2 (g1.2 e)];rfl
    ·rw[tf u e,tf v (fun e'=>e (g1.1 e'))];rfl
   rw[e];exact(ha u v).2.2 g2
end
def Sp(c:Cv)(p:Pt):Prop:=Rpd p∧im c p=true
structure Crp (c:Cv):Prop where
 f:Sp c (frC c)
 t:Sp c (toC c)
 q:c.1=true→0<(ciC c).2.2
 l:c.1=false→(lnC c).1≠0∨(lnC c).2.1≠0
theorem G3{c:BCU}(h:gdC c):Crp (dC c):=by
 obtain⟨h1,h2,h3⟩:=h
 exact⟨⟨jR h1.2.2.1,h2⟩,⟨jR h1.2.2.2,h3⟩,fun e=>(h1.1 e).2,fun e=>(h1.2.1 e).2⟩
open RE in
theorem Crp.e{c:Cv}(h:Crp c)(hne:cj (frC c) (toC c)≠0):GdE c:=by
 have hf:=h.f.1
 have ht:=h.t.1
 have s:=fun p (hp:Sp c p)=>hp.2
 refine⟨hf,ht,fun e=>hne (cmpP_0.2 e),fun e=>?_,fun e=>?_⟩
 ·have h2:=h.f.2
  have h3:=h.t.2
  unfold im at h2 h3
  rw[e]at h2 h3
  exact⟨h.q e,BC (avx.1 h2),BC (avx.1 h3)⟩
 ·have h2:=h.f.2
  have h3:=h.t.2
  unfold im at h2 h3
  rw[e]at h2 h3
  exact⟨h.l e,FL (avx.1 h2),FL (avx.1 h3)⟩
namespace RE
theorem Gl(v w:RE):((v-(w))*(v-(w)))+((w*w-(v*v)))+of 2*((w-(0))*(v-(w)))=0:=by
 induction v using at5
 induction w using at5
 exact snd fun n=>by
  simp only[RL.add,RL.mul,RL.neg,RL.const]
  grind
theorem Qg(v w:RE)(h1:v*v=w*w)(_h2:0≤v)(h3:0≤w):v≤w:=fun hg=>far (aQ (aQ (mul_pos (aV hg) (aV hg)) (aO (iq h1))) (gT (by decide+kernel:(0:Rat)<2) (cE (aO h3) (le_of_lt (aV hg))))) (Gl v w)
theorem GN(v w:RE):((w-(v))*(w-(v)))+((v*v-(w*w)))+of 2*((v-(0))*(w-(v)))=0:=by
 induction v using at5
 induction w using at5
 exact snd fun n=>by
  simp only[RL.add,RL.mul,RL.neg,RL.const]
  grind
theorem Un(v w:RE)(h1:v*v=w*w)(h2:0≤v)(_h3:0≤w):w≤v:=fun hg=>far (aQ (aQ (mul_pos (aV hg) (aV hg)) (aO (jA h1))) (gT (by decide+kernel:(0:Rat)<2) (cE (aO h2) (le_of_lt (aV hg))))) (GN v w)
theorem YZ(v w:RE)(h1:v*v=w*w)(h2:0≤v)(h3:0≤w):v=w:=le_antisymm (Qg v w h1 h2 h3) (Un v w h1 h2 h3)
theorem ES(v w:RE):((v-(w))*(v-(w)))+((v*v-(w*w)))+of 2*((0-(v))*(v-(w)))=0:=by
 induction v using at5
 induction w using at5
 exact snd fun n=>by
  simp only[RL.add,RL.mul,RL.neg,RL.const]
  grind
theorem KH(v w:RE)(h1:v*v=w*w)(h2:v≤0)(_h3:w≤0):v≤w:=fun hg=>far (aQ (aQ (mul_pos (aV hg) (aV hg)) (aO (jA h1))) (gT (by decide+kernel:(0:Rat)<2) (cE (aO h2) (le_of_lt (aV hg))))) (ES v w)
theorem Ds(v w:RE):((w-(v))*(w-(v)))+((w*w-(v*v)))+of 2*((0-(w))*(w-(v)))=0:=by
 induction v using at5
 induction w using at5
 exact snd fun n=>by
  simp only[RL.add,RL.mul,RL.neg,RL.const]
  grind
theorem LF(v w:RE)(h1:v*v=w*w)(_h2:v≤0)(h3:w≤0):w≤v:=fun hg=>far (aQ (aQ (mul_pos (aV hg) (aV hg)) (aO (iq h1))) (gT (by decide+kernel:(0:Rat)<2) (cE (aO h3) (le_of_lt (aV hg))))) (Ds v w)
theorem QK(v w:RE)(h1:v*v=w*w)(h2:v≤0)(h3:w≤0):v=w:=le_antisymm (KH v w h1 h2 h3) (LF v w h1 h2 h3)
theorem SS(u v w Q:RE):((v*v-(w*w)))+((Q-(u*u+v*v)))+((u*u+w*w-(Q)))=0:=by
 induction u using at5
 induction v using at5
 induction w using at5
 induction Q using at5
 exact snd fun n=>by
  simp only[RL.add,RL.mul,RL.neg,RL.const]
  grind
theorem ahb(u v w Q:RE)(h1:u*u+v*v=Q)(h2:u*u+w*w=Q):v*v≤w*w:=fun hg=>far (aQ (aQ (aV hg) (aO (iq h1))) (aO (jA h2))) (SS u v w Q)
theorem XJ(u v w Q:RE):((w*w-(v*v)))+((u*u+v*v-(Q)))+((Q-(u*u+w*w)))=0:=by
 induction u using at5
 induction v using at5
 induction w using at5
 induction Q using at5
 exact snd fun n=>by
  simp only[RL.add,RL.mul,RL.neg,RL.const]
  grind
theorem ahc(u v w Q:RE)(h1:u*u+v*v=Q)(h2:u*u+w*w=Q):w*w≤v*v:=fun hg=>far (aQ (aQ (aV hg) (aO (jA h1))) (aO (iq h2))) (XJ u v w Q)
theorem arv(u v w Q:RE)(h1:u*u+v*v=Q)(h2:u*u+w*w=Q):v*v=w*w:=le_antisymm (ahb u v w Q h1 h2) (ahc u v w Q h1 h2)
theorem Gh(a b:RE):((a-(b)))+((-a-(-b)))=0:=by
 induction a using at5
 induction b using at5
 exact snd fun n=>by
  simp only[RL.add,RL.neg,RL.const]
  grind
theorem Nr(a b:RE)(h1: -a= -b):a≤b:=fun hg=>far (aQ (aV hg) (aO (jA h1))) (Gh a b)
theorem Fw(a b:RE):((b-(a)))+((-b-(-a)))=0:=by
 induction a using at5
 induction b using at5
 exact snd fun n=>by
  simp only[RL.add,RL.neg,RL.const]
  grind
theorem Xv(a b:RE)(h1: -a= -b):b≤a:=fun hg=>far (aQ (aV hg) (aO (iq h1))) (Fw a b)
theorem abf(a b:RE)(h1: -a= -b):a=b:=le_antisymm (Nr a b h1) (Xv a b h1)
theorem Ed{u v:RE}:(upA (cls u v)=true→0≤v)∧(upA (cls u v)=false→v≤0)∧(ufA (cls u v)=true→0≤v)∧(ufA (cls u v)=false→v≤0):=by
 unfold cls upA ufA
 rcases bP v with⟨h,e⟩|⟨h,e⟩|⟨h,e⟩<;>rw[e]
 ·exact⟨fun _=>le_of_lt h,fun g=>(by cases g),fun _=>le_of_lt h,fun g=>(by cases g)⟩
 ·rw[h];exact⟨fun _=>le_refl _,fun _=>le_refl _,fun _=>le_refl _,fun _=>le_refl _⟩
 ·exact⟨fun g=>(by cases g),fun _=>le_of_lt h,fun g=>(by cases g),fun _=>le_of_lt h⟩
theorem I8{c:Ln}{p q:Pt}(hp:onCi c p)(hq:onCi c q)(hx:pX p=pX q)(g:(0≤pY p-of c.2.1∧0≤pY q-of c.2.1)∨(pY p-of c.2.1≤0∧pY q-of c.2.1≤0)):pR p=pR q:=by
 unfold onCi at hp hq
 rw[hx]at hp
 have e:=arv _ _ _ _ hp hq
 refine awt hx ?_
 rcases g with⟨a,b⟩|⟨a,b⟩
 ·exact p6 _ _ _ (YZ _ _ e a b)
 ·exact p6 _ _ _ (QK _ _ e a b)
end RE
open RE in
theorem sV{c:Cv}(ha:c.1=true){p:Pt}(hp:Sp c p):onCi (ciC c) p:=by
 have:=hp.1
 have g:=hp.2
 unfold im at g
 rw[ha]at g
 exact BC (avx.1 g)
open RE in
theorem YF{c:Cv}(h:Crp c)(ha:c.1=true):∃κ:Pt→Bool×RE,(∀d:Cv,d.1=true→ciC d=ciC c→cwC d=cwC c→Sp c (frC d)→∀p q,Sp c p→Sp c q→dR d p q=sL (fun x y:RE=>sg (x-y)) (κ (frC d)) (κ p) (κ q))∧∀p q,Sp c p→Sp c q→(κ p=κ q↔cj p q=0):=by
 cases hw:cwC c
 ·refine⟨fun p=>(upR (ciC c) p,pX p),fun d d1 d2 d3 hd p q hp hq=>?_,fun p q hp hq=>?_⟩
  ·have i1:=hd.1
   have:=hp.1
   have:=hq.1
   have e:∀{x y:Pt},Rpd x→Rpd y→bG (xP x) (xP y)=sg (pX x-pX y):=fun{x y} _ _=>by rw[cmpT_re oz oz,xA,xA]
   unfold dR
   rw[d1,d3,cond_true,cond_false,d2]
   exact wD (e hp.1 i1) (e hq.1 i1) (e hp.1 hq.1)
  ·have r1:=hp.1
   have r2:=hq.1
   rw[cmpP_0]
   constructor
   ·intro e
    injection e with e1 e2
    rw[ur,ur]at e1
    refine I8 (sV ha hp) (sV ha hq) e2 ?_
    cases g:upA (cls (pX p-of (ciC c).1) (pY p-of (ciC c).2.1))
    ·exact .inr ⟨Ed.2.1 g,Ed.2.1 (e1.symm.trans g)⟩
    ·exact .inl ⟨Ed.1 g,Ed.1 (e1.symm.trans g)⟩
   ·intro e
    have e1:pX p=pX q:=congrArg Prod.fst e
    have e2:pY p=pY q:=congrArg Prod.snd e
    show(upR (ciC c) p,pX p)=(upR (ciC c) q,pX q)
    rw[ur,ur,e1,e2]
 ·refine⟨fun p=>(upR (flC (ciC c)) (flP p),-pX p),fun d d1 d2 d3 hd p q hp hq=>?_,fun p q hp hq=>?_⟩
  ·have i1:=hd.1
   have:=hp.1
   have:=hq.1
   have e:∀{x y:Pt},Rpd x→Rpd y→bG (xP (flP x)) (xP (flP y))=sg (-pX x- -pX y):=fun{x y} _ _=>by rw[cmpT_re oz oz,xA,xA,S8,S8]
   unfold dR
   rw[d1,d3,cond_true,cond_true,d2]
   exact wD (e hp.1 i1) (e hq.1 i1) (e hp.1 hq.1)
  ·have r1:=hp.1
   have r2:=hq.1
   rw[cmpP_0]
   have u1:=adK (h.q ha) (sV ha hp)
   have u2:=adK (h.q ha) (sV ha hq)
   constructor
   ·intro e
    injection e with e1 e2
    rw[u1,u2]at e1
    refine I8 (sV ha hp) (sV ha hq) (abf _ _ e2) ?_
    cases g:ufA (cls (pX p-of (ciC c).1) (pY p-of (ciC c).2.1))
    ·exact .inr ⟨Ed.2.2.2 g,Ed.2.2.2 (e1.symm.trans g)⟩
    ·exact .inl ⟨Ed.2.2.1 g,Ed.2.2.1 (e1.symm.trans g)⟩
   ·intro e
    have e1:pX p=pX q:=congrArg Prod.fst e
    have e2:pY p=pY q:=congrArg Prod.snd e
    show(upR (flC (ciC c)) (flP p),-pX p)=(upR (flC (ciC c)) (flP q),-pX q)
    rw[u1,u2,e1,e2]
open RE in
theorem aag{c:Cv}(h:Crp c):∃(K:Type) (lt:K→K→Prop) (κ:Pt→K) (f:K→K→Int),oK lt∧xf lt f∧(∀p q,Sp c p→Sp c q→dR c p q=f (κ p) (κ q))∧∀p q,Sp c p→Sp c q→(κ p=κ q↔cj p q=0):=by
 have hF:=h.f
 cases ha:c.1
 ·cases hd:decide (cj (frC c) (toC c)>0)
  ·refine⟨PE,ai2,pR,lxc,wW,A5,fun p q hp hq=>?_,fun p q hp hq=>?_⟩
   ·have:=hp.1
    have:=hq.1
    unfold dR
    rw[ha,hd,cond_false,cond_false,qr]
   ·have:=hp.1
    have:=hq.1
    exact cmpP_0.symm
  ·refine⟨PE,_,pR,_,WT wW,LD A5,fun p q hp hq=>?_,fun p q hp hq=>?_⟩
   ·have:=hp.1
    have:=hq.1
    unfold dR
    rw[ha,hd,cond_false,cond_true,qr]
   ·have:=hp.1
    have:=hq.1
    exact cmpP_0.symm
 ·obtain⟨κ,h1,h2⟩:=YF h ha
  exact⟨Bool×RE,_,κ,_,anh (ac1 mh) (κ (frC c)),Ve mh zI _,h1 c ha rfl rfl hF,h2⟩
structure Ord (c:Cv):Prop where
 tr:∀{p q r},Sp c p→Sp c q→Sp c r→dR c p q<0→dR c q r<0→dR c p r<0
 tri:∀{p q},Sp c p→Sp c q→dR c p q<0∨cj p q=0∨dR c q p<0
 irr:∀{p q},Sp c p→Sp c q→cj p q=0→dR c p q=0
 asy:∀{p q},Sp c p→Sp c q→dR c p q<0→0<dR c q p
theorem TL{c:Cv}(h:Crp c):Ord c:=by
 obtain⟨K,lt,κ,f,hl,hc,ho,hk⟩:=aag h
 have n:∀{p q},Sp c p→Sp c q→(dR c p q<0↔lt (κ p) (κ q)):=fun{p q} hp hq=>by
  rw[ho p q hp hq,←avJ (p:=f (κ p) (κ q)<0)]
  exact CY hl hc _ _
 refine⟨fun{p q r} hp hq hr g g'=>?_,fun{p q} hp hq=>?_,fun{p q} hp hq g=>?_,fun{p q} hp hq g=>?_⟩
 ·rw[n hp hr]
  exact hl.tr _ _ _ ((n hp hq).1 g) ((n hq hr).1 g')
 ·rw[n hp hq,n hq hp,←hk p q hp hq]
  exact hl.tri _ _
 ·rw[ho p q hp hq,(hc _ _).2.1 ((hk p q hp hq).2 g)]
 ·rw[ho q p hq hp,(hc _ _).2.2 ((n hp hq).1 g)]
  decide
def Spb(c:Cv)(x:BP):Prop:=Sp c (dec x)
theorem Nx{c:Cv}(o:Ord c){x:BP}(hx:Spb c x):∀{l:List BP},(∀y∈l,Spb c y)→l.Pairwise (fun a b=>dR c (dec a) (dec b)<0)→(gf c l x).Pairwise (fun a b=>dR c (dec a) (dec b)<0)
 |[],_,_=>by simp[gf]
 |y::r,hl,hp=>by
  have hy:=hl y (by simp)
  have hr:∀z∈r,Spb c z:=fun z hz=>hl z (auY _ hz)
  obtain⟨p1,p2⟩:=avA.1 hp
  simp only[gf]
  by_cases h1:dR c (dec y) (dec x)<0
  ·rw[at7 h1,cond_true]
   refine avA.2 ⟨fun z hz=>?_,Nx o hx hr p2⟩
   rcases ml hz with g|g
   ·exact p1 z g
   ·rw[g];exact h1
  ·rw[at9 h1,cond_false]
   by_cases h2:cj (dec y) (dec x)=0
   ·rw[avx.2 h2,cond_true];exact hp
   ·rw[awO.2 h2,cond_false]
    have h3:dR c (dec x) (dec y)<0:=by
     rcases o.tri hy hx with g|g|g
     ·exact absurd g h1
     ·exact absurd g h2
     ·exact g
    refine avA.2 ⟨fun z hz=>?_,hp⟩
    rcases auK.1 hz with g|g
    ·rw[g];exact h3
    ·exact o.tr hx hy (hr z g) h3 (p1 z g)
theorem Ik{c:Cv}(o:Ord c):∀{l out:List BP},(∀y∈l,Spb c y)→(∀y∈out,Spb c y)→out.Pairwise (fun a b=>dR c (dec a) (dec b)<0)→(l.foldl (gf c) out).Pairwise (fun a b=>dR c (dec a) (dec b)<0)
 |[],_,_,_,h=>h
 |x::l,out,hl,ho,h=>Ik o (l:=l) (fun y hy=>hl y (auY _ hy)) (fun y hy=>by
   rcases ml hy with g|g
   ·exact ho y g
   ·rw[g];exact hl x (by simp)) (Nx o (hl x (by simp)) ho h)
theorem ah2{c:Cv}(o:Ord c){l:List BP}(hl:∀y∈l,Spb c y):(fX c l).Pairwise (fun a b=>dR c (dec a) (dec b)<0):=Ik o hl (fun y hy=>by cases hy) List.Pairwise.nil
theorem Rr{c:BCU}{R:BP→BP→Prop}{p:BCU}:∀{s:List BP},s.Pairwise R→p∈xC c s→∃x y,x∈s∧y∈s∧R x y∧p=u6 c x y
 |[],_,h=>by cases h
 |[_],_,h=>by cases h
 |x::y::r,hp,h=>by
  obtain⟨p1,p2⟩:=avA.1 hp
  simp only[xC]at h
  rcases auK.1 h with h|h
  ·exact⟨x,y,by simp,by simp,p1 y (by simp),h⟩
  ·obtain⟨a,b,h1,h2,h3,h4⟩:=Rr p2 h
   exact⟨a,b,auY _ h1,auY _ h2,h3,h4⟩
theorem TF{c:BCU}(h:gdN c){l:List BP}(ho:∀p∈l,okP 500 p∧onR (dC c) (dec p)=true):∀x∈qU c l,okP 500 x∧Spb (dC c) x:=by
 intro z hz
 rcases Jp hz with e|e|e
 ·rw[e];exact⟨h.1.1.2.2.1,jR h.1.1.2.2.1,h.2.1⟩
 ·rw[e];exact⟨h.1.1.2.2.2,jR h.1.1.2.2.2,h.2.2.1⟩
 ·exact⟨(ho z e).1,jR (ho z e).1,(avg.1 (ho z e).2).1⟩
theorem aje{c:BCU}(h:gdN c){l:List BP}(ho:∀p∈l,okP 500 p∧onR (dC c) (dec p)=true):(qU c l).Pairwise (fun a b=>dR (dC c) (dec a) (dec b)<0):=by
 refine ah2 (TL (G3 h.gd)) fun y hy=>?_
 rcases auN.1 hy with hy|hy
 ·simp only[auK,List.not_mem_nil,or_false]at hy
  rcases hy with e|e
  ·rw[e];exact⟨jR h.1.1.2.2.1,h.2.1⟩
  ·rw[e];exact⟨jR h.1.1.2.2.2,h.2.2.1⟩
 ·exact⟨jR (ho y hy).1,(avg.1 (ho y hy).2).1⟩
theorem aaI{c:BCU}(h:gdN c){l:List BP}(ho:∀p∈l,okP 500 p∧onR (dC c) (dec p)=true):∀p∈gY c l,gdN p:=by
 intro p hp
 have hm:=akV h ho p hp
 obtain⟨x,y,hx,hy,hr,e⟩:=Rr (aje h ho) hp
 have o:=TL (G3 h.gd)
 refine⟨hm.1,hm.2.1,hm.2.2,fun g=>?_⟩
 rw[e]at g
 have:=o.irr (TF h ho x hx).2 (TF h ho y hy).2 g
 omega
theorem ab6{x:Pce}(h:uq x):∀p∈GA x,gdN p:=by
 intro p hp
 have hA:=CT h.1
 unfold GA at hp
 cases hl:ofL x.1 with
 |nil=>rw[hl]at hp;cases hp
 |cons c r=>
  rw[hl]at hp hA
  exact aaI (hA c (by simp)) (Qm (hA c (by simp)) (CT h.2.1)).2 p hp
theorem JI{x:Pce}(h:uq x)(ho:wC x=true):gdN (gk x):=ab6 h _ (aaN h ho)
theorem gdN.e{c:BCU}(h:gdN c):RE.GdE (dC c):=(G3 h.gd).e h.2.2.2
end
theorem acW{c:BCU}(h:gdN c):gdN (jj c):=by
 refine⟨⟨MV 500 h.1.1,h.1.2⟩,h.2.2.1,h.2.1,fun e=>h.2.2.2 ?_⟩
 have r1:Rpd (frC (dC c)):=jR h.1.1.2.2.1
 have r2:Rpd (toC (dC c)):=jR h.1.1.2.2.2
 have e:cj (toC (dC c)) (frC (dC c))=0:=e
 exact RE.cmpP_0.2 (RE.cmpP_0.1 e).symm
namespace RE
theorem Mn.zero{S:PE→Prop}{v:PE}{m:RE}(h:Mn S v m):m=0↔S v:=by
 obtain⟨⟨p,hp,e⟩,hl⟩:=h
 constructor
 ·intro h0
  rw[h0]at e
  obtain⟨a,b⟩:=HU e
  have:p=v:=awt (kM _ _ a) (kM _ _ b)
  rw[←this];exact hp
 ·intro hv
  have h1:=hl v hv
  have h2:dsE v v=0:=by
   unfold dsE
   rw[sub_self,sub_self,mul_zero,add_zero]
  rw[h2]at h1
  refine le_antisymm h1 ?_
  rw[←e]
  exact aiT _ _ (pn _) (pn _)
theorem yV{x y:Rt}(hx:Rdd x)(hy:Rdd y)(h:vR x=vR y):(bG x y==0)=true:=by
 rw[cmpT_re hx.nn hy.nn,h,sub_self,dG]
 rfl
end RE
end Go.Proofs.YtlahabkjhgkkjaaGreat
end
