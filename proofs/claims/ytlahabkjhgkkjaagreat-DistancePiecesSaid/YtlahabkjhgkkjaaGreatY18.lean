/- Curves of drafts: the reference's contracts. -/
import Derived.Test.YtlahabkjhgkkjaaGreatY17
import Derived.Test.YtlahabkjhgkkjaaGreatY15
import Derived.Test.YtlahabkjhgkkjaaGreatY6
import Derived.Stop.Joined
noncomputable section
namespace Go.Proofs.YtlahabkjhgkkjaaGreat
open Go.RowKit Go.IntKind
def i8P(n:Int):Prop:= -128≤n∧n≤127
instance (n:Int):Decidable (i8P n):=by unfold i8P;infer_instance
def u8P(n:Int):Prop:=0≤n∧n≤255
instance (n:Int):Decidable (u8P n):=by unfold u8P;infer_instance
def atQ(n u:Int):Rat:=Rat.divInt n (u%4+1)
def HT(c:BO3):List BCU:=[(true,o00,c,false,enc (pi (dec c)),enc (pc (dec c))),(true,o00,c,false,enc (pc (dec c)),enc (pi (dec c)))]
abbrev tDr:Ty:=.st (.pair (.int .u8) (.pair (.int .u8) (.pair (.int .i8) (.pair (.int .i8) (.pair (.int .i8) (.pair (.int .i8) (.pair (.int .i8) (.int .i8))))))))
abbrev ko:Ty:=.st (.pair tDr (.pair tDr (.int .u8)))
abbrev Dr:=Int×Int×Int×Int×Int×Int×Int×Int
abbrev Pce:=Dr×Dr×Int
def pW(x:Dr):Prop:=u8P x.1∧u8P x.2.1∧i8P x.2.2.1∧i8P x.2.2.2.1∧i8P x.2.2.2.2.1∧i8P x.2.2.2.2.2.1∧i8P x.2.2.2.2.2.2.1∧i8P x.2.2.2.2.2.2.2
instance (x:Dr):Decidable (pW x):=by unfold pW;infer_instance
def drA(x:Dr):Rat×Rat:=(atQ x.2.2.1 x.2.1,atQ x.2.2.2.1 x.2.1)
def drB(x:Dr):Rat×Rat:=(atQ x.2.2.2.2.1 x.2.1,atQ x.2.2.2.2.2.1 x.2.1)
def drC(x:Dr):Rat×Rat:=(atQ x.2.2.2.2.2.2.1 x.2.1,atQ x.2.2.2.2.2.2.2 x.2.1)
def drQ(x:Dr):Ln:=((drA x).1,(drA x).2,(drB x).1)
def ofL(x:Dr):List BCU:=
 bif x.1%3==2 then(bif decide ((drB x).1≤0)then []else HT (enc (drQ x)))
 else bif x.1%3==1 then(bif jM (drA x) (drB x) (drC x) !=0 then []else [xo (drA x) (drB x) (drC x)])
 else bif jl (drA x) (drB x) !=0 then []else [ye (drA x) (drB x)]
theorem Ka{u k:Int}(h:u8P u):Int.tmod u k=u%k:=Int.tmod_eq_emod_of_nonneg h.1
theorem xU{n u:Int}(h:i8P n)(_h':u8P u):Bb (atQ n u) 7 2:=by
 unfold atQ
 obtain⟨h1,h2⟩:=h
 exact aci (by omega) (by show n.natAbs≤128;omega) (by show(u%4+1).natAbs≤4;omega)
theorem Con.dd{P:Program}{f:Nat}{args:List SV}{et:TypeId}{e:Ty}{xs:List e.D}{r:RV}(h:Con P f args [r])(hr:r=.new et e xs∨r=.d (.sl e) xs):Con P f args [.d (.sl e) xs]:=by
 rcases hr with rfl|rfl
 ·exact Con.new_d h
 ·exact h
def Mf:Env:=[(52,uN),(175,Hg),(78,gv),(46,AR),(48,A0)]
theorem wD:EnvAll Tryz.prog Mf:=⟨uh,Fp,fc,zS,Ao,trivial⟩
def aqL:Ctx:=CX Mf []
def afr(n u:Int)(_k:KT):Option (List RV):=match decide (uv (i64.wrap n) (i64.wrap ((i64.wrap (Int.tmod u 4))+1)))with|true=>some [RV.d tR (hid (ai (Rat.divInt (i64.wrap n) (i64.wrap ((i64.wrap (Int.tmod u 4))+1)))))]|false=>none
theorem aqT(n u:Int):RS aqL 91 [.d (.int .i8) n,.d (.int .u8) u] (afr n u):=rsX
theorem aex(n u:Int)(h:i8P n∧u8P u):Con Tryz.prog 91 [.d (.int .i8) n,.d (.int .u8) u] [.d tR (ai (atQ n u))]:=by
 refine aR wD (aqT _ _ ⟨0,?_⟩)
 obtain⟨hn,hu⟩:=h
 have e0:=Ka (k:=4) hu
 obtain⟨n1,n2⟩:=hn
 unfold afr
 rw[e0,bi (x:=n) (by omega) (by omega),bi (x:=u%4) (by omega) (by omega),bi (x:=u%4+1) (by omega) (by omega),dT (show uv n (u%4+1) from⟨⟨by omega,by omega⟩,⟨by omega,by omega⟩,by omega⟩)]
 simp only[ak]
 rfl
def atg:Ctx:=CX Mf []
def ahX(c:BO3)(_k:KT):Option (List RV):=match decide (dp c)with|true=>some [RV.new 43 tCU ([(true,((((false,[]),(false,[])),(((false,[]),(false,[])),((false,[]),(false,[])))),(c,(false,(hid (enc (pi (dec c))),hid (enc (pc (dec c)))))))),(true,((((false,[]),(false,[])),(((false,[]),(false,[])),((false,[]),(false,[])))),(c,(false,(hid (enc (pc (dec c))),hid (enc (pi (dec c))))))))])]|false=>none
theorem aoR(c:BO3):RS atg 92 [.d tO c] (ahX c):=rsX
theorem ac4(c:BO3)(h:dp c):Con Tryz.prog 92 [.d tO c] [.d (.sl tCU) (HT c)]:=by
 refine Con.new_d (et:=43) (aR wD (aoR _ ⟨0,?_⟩))
 unfold ahX
 rw[dT h]
 simp only[ak]
 rfl
def PB:aO:=spN false true [(.int .i8),(.int .u8)] (fun x=>decide (i8P x.1∧u8P x.2.1)) (fun x=>[RV.d tR (hid (ai (atQ x.1 x.2.1)))])
theorem Vn:SpK 91 PB:=spX fun x h=>by simp only[ak];exact aex x.1 x.2.1 (au0 h)
def V6:aO:=spN false true [tO] (fun x=>decide (dp x.1)) (fun x=>[RV.d (.sl tCU) (HT x.1)])
theorem XK:SpK 92 V6:=spX fun x h=>ac4 x.1 (au0 h)
def aeR:Env:=(91,PB)::(92,V6)::Mf
theorem TY:EnvAll Tryz.prog aeR:=⟨Vn,XK,wD⟩
def agj:Ctx:=CX aeR []
def Zr(x:Dr)(_k:KT):Option (List RV):=match decide (i8P x.2.2.1∧u8P x.2.1)with|true=>(match decide (i8P x.2.2.2.1∧u8P x.2.1)with|true=>(match decide (i8P x.2.2.2.2.1∧u8P x.2.1)with|true=>(match decide (i8P x.2.2.2.2.2.1∧u8P x.2.1)with|true=>(match(Int.tmod x.1 3)==2 with|true=>(match decide (i8P x.2.2.2.2.1∧u8P x.2.1)with|true=>(match decide (okR (hid (ai (atQ x.2.2.2.2.1 x.2.1))))with|true=>(match decide ((aV (ae (hid (ai (atQ x.2.2.2.2.1 x.2.1)))) 0)≤0)with|true=>some [RV.new 43 tCU []]|false=>(match decide (dp (hid (ai (atQ x.2.2.1 x.2.1)),(hid (ai (atQ x.2.2.2.1 x.2.1)),hid (ai (atQ x.2.2.2.2.1 x.2.1)))))with|true=>some [RV.d (.sl tCU) (HT (hid (ai (atQ x.2.2.1 x.2.1)),(hid (ai (atQ x.2.2.2.1 x.2.1)),hid (ai (atQ x.2.2.2.2.1 x.2.1)))))]|false=>none))|false=>none)|false=>none)|false=>(match decide (ok (Rat×Rat) 100 (hid (ai (atQ x.2.2.1 x.2.1)),hid (ai (atQ x.2.2.2.1 x.2.1)))∧ok (Rat×Rat) 100 (hid (ai (atQ x.2.2.2.2.1 x.2.1)),hid (ai (atQ x.2.2.2.2.2.1 x.2.1))))with|true=>(match(Int.tmod x.1 3)==1 with|true=>(match decide (i8P x.2.2.2.2.2.2.1∧u8P x.2.1)with|true=>(match decide (i8P x.2.2.2.2.2.2.2∧u8P x.2.1)with|true=>(match decide (ok (Rat×Rat) 100 (hid (ai (atQ x.2.2.1 x.2.1)),hid (ai (atQ x.2.2.2.1 x.2.1)))∧ok (Rat×Rat) 100 (hid (ai (atQ x.2.2.2.2.1 x.2.1)),hid (ai (atQ x.2.2.2.2.2.1 x.2.1)))∧ok (Rat×Rat) 100 (hid (ai (atQ x.2.2.2.2.2.2.1 x.2.1)),hid (ai (atQ x.2.2.2.2.2.2.2 x.2.1))))with|true=>(match(jM (dec (hid (ai (atQ x.2.2.1 x.2.1)),hid (ai (atQ x.2.2.2.1 x.2.1)))) (dec (hid (ai (atQ x.2.2.2.2.1 x.2.1)),hid (ai (atQ x.2.2.2.2.2.1 x.2.1)))) (dec (hid (ai (atQ x.2.2.2.2.2.2.1 x.2.1)),hid (ai (atQ x.2.2.2.2.2.2.2 x.2.1))))) !=0 with|true=>some [RV.new 43 tCU []]|false=>some [RV.new 43 tCU ([hid (xo (dec (hid (ai (atQ x.2.2.1 x.2.1)),hid (ai (atQ x.2.2.2.1 x.2.1)))) (dec (hid (ai (atQ x.2.2.2.2.1 x.2.1)),hid (ai (atQ x.2.2.2.2.2.1 x.2.1)))) (dec (hid (ai (atQ x.2.2.2.2.2.2.1 x.2.1)),hid (ai (atQ x.2.2.2.2.2.2.2 x.2.1)))))])])|false=>none)|false=>none)|false=>none)|false=>(match(jl (dec (hid (ai (atQ x.2.2.1 x.2.1)),hid (ai (atQ x.2.2.2.1 x.2.1)))) (dec (hid (ai (atQ x.2.2.2.2.1 x.2.1)),hid (ai (atQ x.2.2.2.2.2.1 x.2.1))))) !=0 with|true=>some [RV.new 43 tCU []]|false=>some [RV.new 43 tCU ([hid (ye (dec (hid (ai (atQ x.2.2.1 x.2.1)),hid (ai (atQ x.2.2.2.1 x.2.1)))) (dec (hid (ai (atQ x.2.2.2.2.1 x.2.1)),hid (ai (atQ x.2.2.2.2.2.1 x.2.1)))))])]))|false=>none))|false=>none)|false=>none)|false=>none)|false=>none
theorem an6(x:Dr):RS agj 26 [.d tDr x] (Zr x):=rsX
theorem Zu(x:Dr)(h:pW x):Con Tryz.prog 26 [.d tDr x] [.d (.sl tCU) (ofL x)]:=by
 obtain⟨h1,h2,hA,hB,hC,hD,hE,hF⟩:=h
 have at_bd:∀n,i8P n→Bd (atQ n x.2.1) 1:=fun n hn=>F5 (h:=xU hn h2) (by decide) (by decide)
 have bA:=at_bd _ hA
 have bB:=at_bd _ hB
 have bC:=at_bd _ hC
 have bD:=at_bd _ hD
 have bE:=at_bd _ hE
 have bF:=at_bd _ hF
 have vA:Bd (drA x) 1:=inferInstanceAs (Bd (atQ x.2.2.1 x.2.1,atQ x.2.2.2.1 x.2.1) _)
 have vB:Bd (drB x) 1:=inferInstanceAs (Bd (atQ x.2.2.2.2.1 x.2.1,atQ x.2.2.2.2.2.1 x.2.1) _)
 have vC:Bd (drC x) 1:=inferInstanceAs (Bd (atQ x.2.2.2.2.2.2.1 x.2.1,atQ x.2.2.2.2.2.2.2 x.2.1) _)
 have eA:((ai (atQ x.2.2.1 x.2.1),ai (atQ x.2.2.2.1 x.2.1)):BV)=enc (drA x):=rfl
 have eB:((ai (atQ x.2.2.2.2.1 x.2.1),ai (atQ x.2.2.2.2.2.1 x.2.1)):BV)=enc (drB x):=rfl
 have eC:((ai (atQ x.2.2.2.2.2.2.1 x.2.1),ai (atQ x.2.2.2.2.2.2.2 x.2.1)):BV)=enc (drC x):=rfl
 have eQ:((ai (atQ x.2.2.1 x.2.1),ai (atQ x.2.2.2.1 x.2.1),ai (atQ x.2.2.2.2.1 x.2.1)):BO3)=enc (drQ x):=rfl
 have tm:=Ka (k:=3) h1
 have run:∀r:RV,Zr x (agj.k 0)=some [r]→(r=.new 43 tCU (ofL x)∨r=.d (.sl tCU) (ofL x))→Con Tryz.prog 26 [.d tDr x] [.d (.sl tCU) (ofL x)]:=fun r e g=>Con.dd (aR TY (an6 _ ⟨0,e⟩)) g
 unfold Zr at run
 unfold ofL at run ⊢
 simp only[ak,am,az,okd,aX,au4,au6,Nat.reduceLeDiff,tm,eQ,eA,eB,eC,dT (show i8P _∧u8P _ from⟨hA,h2⟩),dT (show i8P _∧u8P _ from⟨hB,h2⟩),dT (show i8P _∧u8P _ from⟨hC,h2⟩),dT (show i8P _∧u8P _ from⟨hD,h2⟩),dT (show i8P _∧u8P _ from⟨hE,h2⟩),dT (show i8P _∧u8P _ from⟨hF,h2⟩)]at run
 cases h3:x.1%3==2
 ·simp only[h3,cond_false]at run ⊢
  cases h4:x.1%3==1
  ·simp only[h4,cond_false]at run ⊢
   cases h5:jl (drA x) (drB x) !=0
   ·simp only[h5,cond_false]at run ⊢
    exact run _ rfl (.inl rfl)
   ·simp only[h5,cond_true]at run ⊢
    exact run _ rfl (.inl rfl)
  ·simp only[h4,cond_true]at run ⊢
   cases h5:jM (drA x) (drB x) (drC x) !=0
   ·simp only[h5,cond_false]at run ⊢
    exact run _ rfl (.inl rfl)
   ·simp only[h5,cond_true]at run ⊢
    exact run _ rfl (.inl rfl)
 ·simp only[h3,cond_true]at run ⊢
  have e1:(drB x).1=atQ x.2.2.2.2.1 x.2.1:=rfl
  by_cases h5:(drB x).1≤0
  ·rw[au1 h5]at run ⊢
   refine run _ ?_ (.inl rfl)
   rw[EA,←e1,au1 h5]
   rfl
  ·rw[au3 h5]at run ⊢
   have ok:dp (enc (drQ x)):=nf (h:=⟨bA.mono (by decide),bB.mono (by decide),bC.mono (by decide)⟩) (show 0<(drB x).1 by grind)
   refine run _ ?_ (.inr rfl)
   rw[EA,←e1,au3 h5]
   simp only[au1 ok]
   rfl
def AS:aO:=spN false true [tDr] (fun x=>decide (pW x.1)) (fun x=>[RV.d (.sl tCU) (ofL x.1)])
theorem v9:SpK 26 AS:=spX fun x h=>Zu x.1 (au0 h)
section
namespace RE
abbrev PE:=RE×RE
def crs(u w:PE):RE:=u.1*w.2-u.2*w.1
def dtE(u w:PE):RE:=u.1*w.1+u.2*w.2
def ysC(k:Nat):Int:=if k=1 then 1 else if k=3 then-1 else 0
def msC(i:Nat):Int:=(i:Int)-3
def crI(k i l j:Nat):Int:=addS (jK (msC i)*ysC l) (-(ysC k*jK (msC j))) (cI (msC i).natAbs (msC j).natAbs)
def E9(k i l j:Nat):Bool:=(k !=0||decide (0<msC i))&&(k !=2||decide (msC i<0))&&(!(k==0||k==2)||(bif l==0||l==2 then(msC i).natAbs==(msC j).natAbs else decide ((msC j).natAbs<(msC i).natAbs)))
def aad(a b c:Int):Bool:=bif decide (0≤a)then decide (0≤b)&&decide (0≤c)else !(decide (c<0)&&decide (b<0))
theorem ZF:∀kF kT:Fin 4,∀iF iT:Fin 7,(E9 kF.1 iF.1 kT.1 iT.1&&E9 kT.1 iT.1 kF.1 iF.1&&!(kF.1==kT.1&&iF.1==iT.1))=true→∀kP:Fin 4,∀iP:Fin 7,(E9 kF.1 iF.1 kP.1 iP.1&&E9 kP.1 iP.1 kF.1 iF.1&&E9 kT.1 iT.1 kP.1 iP.1&&E9 kP.1 iP.1 kT.1 iT.1)=true→
  decide (pq cI (upA kF.1,iF.1) (upA kP.1,iP.1) (upA kT.1,iT.1)≤0)=aad (crI kF.1 iF.1 kT.1 iT.1) (crI kF.1 iF.1 kP.1 iP.1) (crI kP.1 iP.1 kT.1 iT.1):=by decide+kernel
theorem J7{x:RE}(h:x≠0):0<x*x:=by
 rcases kV x 0 with e|e|e
 ·have:=mul_pos (iD e) (iD e)
  rw[neg_mul,mul_neg,neg_neg]at this
  exact this
 ·exact absurd e h
 ·exact mul_pos e e
theorem H3(i j:Nat):cI i j=jK ((i:Int)-(j:Int)):=by
 unfold cI jK
 by_cases h:i<j
 ·rw[avr h,avr (by omega)]
 ·by_cases h':i=j
  ·rw[avn h,avr h',avn (by omega),avr (by omega)]
  ·rw[avn h,avn h',avn (by omega),avn (by omega)]
theorem Cq{n:Int}(h:0<n):jK n=1:=by unfold jK;rw[avn (by omega),avn (by omega)]
theorem Bq{n:Int}(h:n<0):jK n= -1:=by unfold jK;rw[avr h]
def rkS(L:List RE)(x:RE):Nat:=rk (fun a b:RE=>a<b) (0::L) (x*x)
def mI(L:List RE)(x:RE):Int:=sg x*(rkS L x:Int)
def ixL(L:List RE)(x:RE):Nat:=(mI L x+3).toNat
theorem hU{L:List RE}{x:RE}(h:x≠0):0<rkS L x:=by
 unfold rkS rk
 rw[avr (J7 h)]
 omega
theorem LF{L:List RE}{x y:RE}(hx:x*x∈L)(hy:y*y∈L):sg (x*x-y*y)=cI (rkS L x) (rkS L y):=pU (c:=fun x y=>sg (x-y)) lt_lin sg_cmpO (avo _ hx) (avo _ hy)
theorem KM{x:RE}(h:0<x):x≠0:=fun e=>by rw[e]at h;exact lt_irrefl _ h
theorem Kq{x:RE}(h:x<0):x≠0:=fun e=>by rw[e]at h;exact lt_irrefl _ h
theorem Pr(L:List RE)(x:RE):jK (mI L x)=sg x:=by
 unfold mI
 rcases bZ x with⟨h,e⟩|⟨h,e⟩|⟨h,e⟩<;>rw[e]
 ·have:=hU (L:=L) (KM h)
  exact Cq (by omega)
 ·rw[ax0];rfl
 ·have:=hU (L:=L) (Kq h)
  exact Bq (by omega)
theorem PC(x y:RE):((0-(x)))+((0-(y)))+((x+y-(0)))=0:=by
 induction x using auZ
 induction y using auZ
 exact snd fun n=>by
  simp only[RL.add,RL.neg,RL.const]
  grind
theorem XV(x y:RE)(h1:x<0)(h2:y<0):x+y<0:=d9.1 fun hg=>far (aB (aB (aE h1) (le_of_lt (aE h2))) (aA hg)) (PC x y)
theorem amR(a b c d:RE):a*d*(a*d)- -(b*c)* -(b*c)=a*a*(c*c+d*d)-(a*a+b*b)*(c*c):=by
 induction a using auZ
 induction b using auZ
 induction c using auZ
 induction d using auZ
 exact snd fun n=>by
  simp only[RL.add,RL.mul,RL.neg]
  grind
theorem sub_zero(x:RE):x-0=x:=by
 induction x using auZ
 exact snd fun n=>by
  simp only[RL.add,RL.neg,RL.const]
  grind
theorem zero_sub(x:RE):0-x= -x:=by
 induction x using auZ
 exact snd fun n=>by
  simp only[RL.add,RL.neg,RL.const]
  grind
theorem aix(x y c:RE):x-c-(y-c)=x-y:=by
 induction x using auZ
 induction y using auZ
 induction c using auZ
 exact snd fun n=>by
  simp only[RL.add,RL.neg]
  grind
theorem asm(x y q:RE):x*q-q*y=q*(x-y):=by
 induction x using auZ
 induction y using auZ
 induction q using auZ
 exact snd fun n=>by
  simp only[RL.add,RL.mul,RL.neg]
  grind
theorem Cj(x y:RE):((x-(y)))+((0-(x-y)))=0:=by
 induction x using auZ
 induction y using auZ
 exact snd fun n=>by
  simp only[RL.add,RL.neg,RL.const]
  grind
theorem It(x y:RE)(h1:x-y=0):x≤y:=fun hg=>far (aB (aE hg) (aA (dP h1))) (Cj x y)
theorem Cy(x y:RE):((y-(x)))+((x-y-(0)))=0:=by
 induction x using auZ
 induction y using auZ
 exact snd fun n=>by
  simp only[RL.add,RL.neg,RL.const]
  grind
theorem Iq(x y:RE)(h1:x-y=0):y≤x:=fun hg=>far (aB (aE hg) (aA (d7 h1))) (Cy x y)
theorem kN(x y:RE)(h1:x-y=0):x=y:=le_antisymm (It x y h1) (Iq x y h1)
theorem E2(a b c:RE):((b-(c)))+((a+c-(a+b)))=0:=by
 induction a using auZ
 induction b using auZ
 induction c using auZ
 exact snd fun n=>by
  simp only[RL.add,RL.neg,RL.const]
  grind
theorem NU(a b c:RE)(h1:a+b=a+c):b≤c:=fun hg=>far (aB (aE hg) (aA (dP h1))) (E2 a b c)
theorem EV(a b c:RE):((c-(b)))+((a+b-(a+c)))=0:=by
 induction a using auZ
 induction b using auZ
 induction c using auZ
 exact snd fun n=>by
  simp only[RL.add,RL.neg,RL.const]
  grind
theorem Oz(a b c:RE)(h1:a+b=a+c):c≤b:=fun hg=>far (aB (aE hg) (aA (d7 h1))) (EV a b c)
theorem Px(a b c:RE)(h1:a+b=a+c):b=c:=le_antisymm (NU a b c h1) (Oz a b c h1)
theorem Ea(x y:RE):((x-(0))*(x-(y)))+((y-(0))*(x-(y)))+((y*y-(x*x)))=0:=by
 induction x using auZ
 induction y using auZ
 exact snd fun n=>by
  simp only[RL.add,RL.mul,RL.neg,RL.const]
  grind
theorem Nl(x y:RE)(h1:x*x=y*y)(h2:0<x)(h3:0<y):x≤y:=fun hg=>far (aB (aB (mul_pos (aE h2) (aE hg)) (le_of_lt (mul_pos (aE h3) (aE hg)))) (aA (dP h1))) (Ea x y)
theorem Gc(x y:RE):((x-(0))*(y-(x)))+((y-(0))*(y-(x)))+((x*x-(y*y)))=0:=by
 induction x using auZ
 induction y using auZ
 exact snd fun n=>by
  simp only[RL.add,RL.mul,RL.neg,RL.const]
  grind
theorem M9(x y:RE)(h1:x*x=y*y)(h2:0<x)(h3:0<y):y≤x:=fun hg=>far (aB (aB (mul_pos (aE h2) (aE hg)) (le_of_lt (mul_pos (aE h3) (aE hg)))) (aA (d7 h1))) (Gc x y)
theorem U0(x y:RE)(h1:x*x=y*y)(h2:0<x)(h3:0<y):x=y:=le_antisymm (Nl x y h1 h2 h3) (M9 x y h1 h2 h3)
theorem EJ(x y:RE):((0-(x))*(x-(y)))+((0-(y))*(x-(y)))+((x*x-(y*y)))=0:=by
 induction x using auZ
 induction y using auZ
 exact snd fun n=>by
  simp only[RL.add,RL.mul,RL.neg,RL.const]
  grind
theorem Np(x y:RE)(h1:x*x=y*y)(h2:x<0)(h3:y<0):x≤y:=fun hg=>far (aB (aB (mul_pos (aE h2) (aE hg)) (le_of_lt (mul_pos (aE h3) (aE hg)))) (aA (d7 h1))) (EJ x y)
theorem FO(x y:RE):((0-(x))*(y-(x)))+((0-(y))*(y-(x)))+((y*y-(x*x)))=0:=by
 induction x using auZ
 induction y using auZ
 exact snd fun n=>by
  simp only[RL.add,RL.mul,RL.neg,RL.const]
  grind
theorem M8(x y:RE)(h1:x*x=y*y)(h2:x<0)(h3:y<0):y≤x:=fun hg=>far (aB (aB (mul_pos (aE h2) (aE hg)) (le_of_lt (mul_pos (aE h3) (aE hg)))) (aA (dP h1))) (FO x y)
theorem WR(x y:RE)(h1:x*x=y*y)(h2:x<0)(h3:y<0):x=y:=le_antisymm (Np x y h1 h2 h3) (M8 x y h1 h2 h3)
theorem Et(x y:RE):((x-(y)))+((0-(x-y)))=0:=by
 induction x using auZ
 induction y using auZ
 exact snd fun n=>by
  simp only[RL.add,RL.neg,RL.const]
  grind
theorem Nh(x y:RE)(h1:x-y≤0):x≤y:=fun hg=>far (aB (aE hg) (aA h1)) (Et x y)
theorem Ow(x y:RE):((x-y-(0)))+((y-(x)))=0:=by
 induction x using auZ
 induction y using auZ
 exact snd fun n=>by
  simp only[RL.add,RL.neg,RL.const]
  grind
theorem adK(x y:RE)(h1:x≤y):x-y≤0:=fun hg=>far (aB (aE hg) (aA h1)) (Ow x y)
theorem Zd{x y:RE}(hx:0<x)(hy:0<y):sg (x*x-y*y)=sg (x-y):=by
 rw[←Gw,dU,dR (Qn _ _ hx hy),awu]
theorem QA{x y:RE}(hx:x<0)(hy:y<0):sg (x*x-y*y)= -sg (x-y):=by
 rw[←Gw,dU,im (XV _ _ hx hy)]
 omega
theorem alG{L:List RE}{x y:RE}(hx:x*x∈L)(hy:y*y∈L):jK (mI L x-mI L y)=sg (x-y):=by
 have hc:=LF hx hy
 unfold mI
 rcases bZ x with⟨h,e⟩|⟨h,e⟩|⟨h,e⟩<;>rcases bZ y with⟨h',e'⟩|⟨h',e'⟩|⟨h',e'⟩<;>rw[e,e']
 ·rw[←Zd h h',hc,H3,awu,awu]
 ·have:=hU (L:=L) (KM h)
  rw[h',sub_zero,e]
  exact Cq (by omega)
 ·have:=hU (L:=L) (KM h)
  rw[dR (OX _ _ h h')]
  exact Cq (by omega)
 ·have:=hU (L:=L) (KM h')
  rw[h,zero_sub,tc,e']
  exact Bq (by omega)
 ·rw[h,h',sub_self,dE,ax0];rfl
 ·have:=hU (L:=L) (Kq h')
  rw[h,zero_sub,tc,e']
  exact Cq (by omega)
 ·have:=hU (L:=L) (Kq h)
  rw[im (SE _ _ h h')]
  exact Bq (by omega)
 ·have:=hU (L:=L) (Kq h)
  rw[h',sub_zero,e]
  exact Bq (by omega)
 ·have h2:=QA h h'
  rw[hc,H3]at h2
  have:sg (x-y)= -jK ((rkS L x:Int)-(rkS L y:Int)):=by omega
  rw[this]
  unfold jK
  split<;>split<;>(try split)<;>(try split)<;>omega
theorem W6{L:List RE}{x y:RE}(hx:x*x∈L)(hy:y*y∈L):cI (mI L x).natAbs (mI L y).natAbs=sg (x*x-y*y):=by
 have hc:=LF hx hy
 have ab:∀z:RE,z≠0→(mI L z).natAbs=rkS L z:=fun z hz=>by
  unfold mI
  rcases bZ z with⟨h,e⟩|⟨h,e⟩|⟨h,e⟩<;>rw[e]
  ·omega
  ·exact absurd h hz
  ·omega
 have ab0:(mI L 0).natAbs=0:=by unfold mI;rw[dE,ax0];rfl
 by_cases h:x=0
 ·subst h
  by_cases h':y=0
  ·subst h';rw[sub_self,dE];unfold cI;rw[avn (by omega),avr rfl]
  ·have:=hU (L:=L) h'
   rw[ab0,ab y h',mul_zero,zero_sub,tc,dR (J7 h')]
   unfold cI;rw[avr (by omega)]
 ·by_cases h':y=0
  ·subst h'
   have:=hU (L:=L) h
   rw[ab0,ab x h,mul_zero,sub_zero,dR (J7 h)]
   unfold cI;rw[avn (by omega),avn (by omega)]
  ·rw[ab x h,ab y h',hc]
theorem amn{L:List RE}{x:RE}(hL:L.length=3)(hx:x*x∈L):rkS L x≤3:=by
 have:=ng lt_lin (avo (0:RE) hx)
 rw[avw,hL]at this
 unfold rkS
 omega
theorem Km{L:List RE}{x:RE}(hL:L.length=3)(hx:x*x∈L): -3≤mI L x∧mI L x≤3:=by
 have h1:=amn hL hx
 have h2:=aqH x
 unfold mI
 rcases(by omega:sg x= -1∨sg x=0∨sg x=1)with e|e|e<;>rw[e]<;>omega
theorem KG{L:List RE}{x:RE}(hL:L.length=3)(hx:x*x∈L):msC (ixL L x)=mI L x:=by
 have:=Km hL hx
 unfold msC ixL
 omega
theorem UO{L:List RE}{x:RE}(hL:L.length=3)(hx:x*x∈L):ixL L x<7:=by
 have:=Km hL hx
 unfold ixL
 omega
theorem Se{L:List RE}{x y:RE}(hL:L.length=3)(hx:x*x∈L)(hy:y*y∈L):cI (ixL L x) (ixL L y)=sg (x-y):=by
 have h1:=Km hL hx
 have h2:=Km hL hy
 rw[H3,←alG hx hy]
 unfold ixL
 congr 1
 omega
theorem wH(u v:RE):ysC (cls u v)=sg v:=by
 unfold cls ysC
 rcases bZ v with⟨_,h⟩|⟨_,h⟩|⟨_,h⟩<;>rcases bZ u with⟨_,h'⟩|⟨_,h'⟩|⟨_,h'⟩<;>rw[h,h']<;>rfl
section
variable {u w:PE} {Q:RE} {L:List RE}
theorem G9(hQ:0<Q)(hu:u.1*u.1+u.2*u.2=Q)(hw:w.1*w.1+w.2*w.2=Q)(hL:L.length=3)(mu:u.1*u.1∈L)(mw:w.1*w.1∈L):sg (crs u w)=crI (cls u.1 u.2) (ixL L u.1) (cls w.1 w.2) (ixL L w.1):=by
 unfold crs crI
 show sg (u.1*w.2+ -(u.2*w.1))=_
 rw[IQ,amR,hu,hw,asm,dU Q,dR hQ,awu,tc,dU u.1,dU u.2,KG hL mu,KG hL mw,W6 mu mw,Pr,Pr,wH,wH]
theorem nW(hQ:0<Q)(hu:u.1*u.1+u.2*u.2=Q)(hw:w.1*w.1+w.2*w.2=Q)(hL:L.length=3)(mu:u.1*u.1∈L)(mw:w.1*w.1∈L):E9 (cls u.1 u.2) (ixL L u.1) (cls w.1 w.2) (ixL L w.1)=true:=by
 have cb:=nL u.1 u.2
 have y0:∀a b:RE,(cls a b==0||cls a b==2)=true↔b=0:=fun a b=>by
  have:=wH a b
  have hb:=nL a b
  rw[←l4,←this]
  unfold ysC
  constructor
  ·intro h
   simp at h
   rcases h with h|h<;>rw[h]<;>rfl
  ·intro h
   rcases(by omega:cls a b=0∨cls a b=1∨cls a b=2∨cls a b=3)with e|e|e|e<;>rw[e]at h ⊢ <;>simp at h ⊢
 unfold E9
 rw[KG hL mu,KG hL mw,au8,au8]
 have ms:=Pr L u.1
 refine⟨⟨?_,?_⟩,?_⟩
 ·by_cases e:cls u.1 u.2=0
  ·have h:=(KE.1 e).2
   rw[dR h]at ms
   have:0<mI L u.1:=by
    unfold jK at ms
    split at ms
    ·cases ms
    ·split at ms
     ·cases ms
     ·omega
   simp[this]
  ·simp[e]
 ·by_cases e:cls u.1 u.2=2
  ·have h:=Jr.1 e
   rw[im (tK hQ hu h.1 h.2)]at ms
   have:mI L u.1<0:=by
    unfold jK at ms
    split at ms
    ·omega
    ·split at ms<;>cases ms
   simp[this]
  ·simp[e]
 ·cases hc:(cls u.1 u.2==0||cls u.1 u.2==2)
  ·rfl
  ·have hv:=(y0 _ _).1 hc
   have hu':u.1*u.1=Q:=by rw[hv,mul_zero,add_zero]at hu;exact hu
   have ha:=W6 mu mw
   cases hd:(cls w.1 w.2==0||cls w.1 w.2==2)
   ·have hz:w.2≠0:=fun e=>by rw[(y0 _ _).2 e]at hd;cases hd
    have hlt:w.1*w.1<u.1*u.1:=by
     rw[hu',←hw]
     have:=pP (w.1*w.1) (J7 hz)
     rw[zero_add,add_comm]at this
     exact this
    rw[dR (aE hlt)]at ha
    have:(mI L w.1).natAbs<(mI L u.1).natAbs:=by
     unfold cI at ha
     split at ha
     ·cases ha
     ·split at ha
      ·cases ha
      ·omega
    simp[this]
   ·have hz:=(y0 _ _).1 hd
    rw[hz,mul_zero,add_zero]at hw
    rw[hu',hw,sub_self,dE]at ha
    have:(mI L u.1).natAbs=(mI L w.1).natAbs:=by
     unfold cI at ha
     split at ha
     ·cases ha
     ·split at ha
      ·assumption
      ·cases ha
    simp[this]
end
def frm(c:Ln)(p:PE):PE:=(p.1-of c.1,p.2-of c.2.1)
def nA(u w z:PE):Bool:=aad (sg (crs u w)) (sg (crs u z)) (sg (crs z w))
theorem vg{ci:Ln}{F P T:Pt}[Rpd F][Rpd P][Rpd T](hQ:0<ci.2.2)(hF:onCi ci F)(hP:onCi ci P)(hT:onCi ci T)(hne:pR F≠pR T):
  decide (pq bI (ptd ci F) (ptd ci P) (ptd ci T)≤0)=nA (frm ci (pR F)) (frm ci (pR T)) (frm ci (pR P)):=by
 have hq:0<of ci.2.2:=iI hQ
 have hL:[(frm ci (pR F)).1*(frm ci (pR F)).1,(frm ci (pR P)).1*(frm ci (pR P)).1,(frm ci (pR T)).1*(frm ci (pR T)).1].length=3:=rfl
 revert hL
 generalize hL0:[(frm ci (pR F)).1*(frm ci (pR F)).1,(frm ci (pR P)).1*(frm ci (pR P)).1,(frm ci (pR T)).1*(frm ci (pR T)).1]=L
 intro hL
 have mF:(frm ci (pR F)).1*(frm ci (pR F)).1∈L:=by rw[←hL0];simp
 have mP:(frm ci (pR P)).1*(frm ci (pR P)).1∈L:=by rw[←hL0];simp
 have mT:(frm ci (pR T)).1*(frm ci (pR T)).1∈L:=by rw[←hL0];simp
 have cF:=nL (frm ci (pR F)).1 (frm ci (pR F)).2
 have cP:=nL (frm ci (pR P)).1 (frm ci (pR P)).2
 have cT:=nL (frm ci (pR T)).1 (frm ci (pR T)).2
 have hF:(frm ci (pR F)).1*(frm ci (pR F)).1+(frm ci (pR F)).2*(frm ci (pR F)).2=of ci.2.2:=hF
 have hP:(frm ci (pR P)).1*(frm ci (pR P)).1+(frm ci (pR P)).2*(frm ci (pR P)).2=of ci.2.2:=hP
 have hT:(frm ci (pR T)).1*(frm ci (pR T)).1+(frm ci (pR T)).2*(frm ci (pR T)).2=of ci.2.2:=hT
 have hd:(!(cls (frm ci (pR F)).1 (frm ci (pR F)).2==cls (frm ci (pR T)).1 (frm ci (pR T)).2&&ixL L (frm ci (pR F)).1==ixL L (frm ci (pR T)).1))=true:=by
  cases h1:cls (frm ci (pR F)).1 (frm ci (pR F)).2==cls (frm ci (pR T)).1 (frm ci (pR T)).2
  ·rfl
  ·cases h2:ixL L (frm ci (pR F)).1==ixL L (frm ci (pR T)).1
   ·rfl
   ·exfalso
    have h1:=awf.1 h1
    have h2:=awf.1 h2
    have h3:=Se hL mF mT
    rw[h2]at h3
    have e0:∀n,cI n n=0:=fun n=>by unfold cI;rw[avn (by omega),avr rfl]
    rw[e0]at h3
    have ex:(frm ci (pR F)).1=(frm ci (pR T)).1:=kN _ _ (l4.1 h3.symm)
    have ey:sg (frm ci (pR F)).2=sg (frm ci (pR T)).2:=by rw[←wH (frm ci (pR F)).1,←wH (frm ci (pR T)).1,h1]
    have es:(frm ci (pR F)).2*(frm ci (pR F)).2=(frm ci (pR T)).2*(frm ci (pR T)).2:=by
     rw[←hT,ex]at hF
     exact Px _ _ _ hF
    have e2:(frm ci (pR F)).2=(frm ci (pR T)).2:=by
     rcases bZ (frm ci (pR F)).2 with⟨g,e⟩|⟨g,e⟩|⟨g,e⟩
     ·rw[e]at ey
      exact U0 _ _ es g (GX.1 ey.symm)
     ·rw[e]at ey
      rw[g,l4.1 ey.symm]
     ·rw[e]at ey
      exact WR _ _ es g (amm.1 ey.symm)
    exact hne (axe (iB _ _ _ ex) (iB _ _ _ e2))
 have a:=ZF ⟨_,cF⟩ ⟨_,cT⟩ ⟨_,UO hL mF⟩ ⟨_,UO hL mT⟩ (by
  simp only
  rw[nW hq hF hT hL mF mT,nW hq hT hF hL mT mF,hd]
  rfl) ⟨_,cP⟩ ⟨_,UO hL mP⟩ (by
  simp only
  rw[nW hq hF hP hL mF mP,nW hq hP hF hL mP mF,nW hq hT hP hL mT mP,nW hq hP hT hL mP mT]
  rfl)
 simp only at a
 unfold nA
 rw[G9 hq hF hT hL mF mT,G9 hq hF hP hL mF mP,G9 hq hP hT hL mP mT,←a]
 have cx:∀{p q:Pt} [Rpd p] [Rpd q],(frm ci (pR p)).1*(frm ci (pR p)).1∈L→(frm ci (pR q)).1*(frm ci (pR q)).1∈L→bI (xP p) (xP q)=cI (ixL L (frm ci (pR p)).1) (ixL L (frm ci (pR q)).1):=fun{p q} _ _ hp hq'=>by
  rw[cmpT_re jY jY,qO,qO,Se hL hp hq',←aix _ _ (of ci.1)]
  rfl
 unfold ptd
 rw[lk,lk,lk]
 exact congrArg (fun n:Int=>decide (n≤0)) (pL (cx mP mF) (cx mT mF) (cx mP mT))
def ny(c:Ln)(p:PE):Prop:=(frm c p).1*(frm c p).1+(frm c p).2*(frm c p).2=of c.2.2
def uu(l:Ln)(p:PE):Prop:=of l.1*p.1+of l.2.1*p.2=of l.2.2
def tE(l:Ln)(p:PE):RE:= -of l.2.1*p.1+of l.1*p.2
def jM(c:Ln)(F T p:PE):Prop:=ny c p∧nA (frm c F) (frm c T) (frm c p)=true
def btE(a b x:RE):Prop:=(a≤x∧x≤b)∨(b≤x∧x≤a)
def jl(l:Ln)(F T p:PE):Prop:=uu l p∧btE (tE l F) (tE l T) (tE l p)
def onE(c:Cv)(p:PE):Prop:=if c.1=true then jM (ciC c) (pR (ccF c)) (pR (ccT c)) p else jl (lnC c) (pR (frC c)) (pR (toC c)) p
structure GdE (c:Cv):Prop where
 f:Rpd (frC c)
 t:Rpd (toC c)
 ne:pR (frC c)≠pR (toC c)
 q:c.1=true→0<(ciC c).2.2∧onCi (ciC c) (frC c)∧onCi (ciC c) (toC c)
 l:c.1=false→((lnC c).1≠0∨(lnC c).2.1≠0)∧onLi (lnC c) (frC c)∧onLi (lnC c) (toC c)
theorem uK{c:Ln}{p:Pt}[Rpd p]:(lm c p==0)=true↔ny c (pR p):=by
 rw[awf]
 refine⟨fun h=>ins_on h,fun h=>?_⟩
 rw[B4]
 have:(pX p-of c.1)*(pX p-of c.1)+(pY p-of c.2.1)*(pY p-of c.2.1)=of c.2.2:=h
 rw[this,ot,dE]
 rfl
theorem LB{l:Ln}{p:Pt}[Rpd p]:(mh l p==0)=true↔uu l (pR p):=by
 rw[awf]
 refine⟨fun h=>sid_on h,fun h=>?_⟩
 rw[Cs]
 have:of l.1*pX p+of l.2.1*pY p=of l.2.2:=h
 rw[this,ot,dE]
theorem AZ(a b x:RE):VF (sg (a-b)) (sg (a-x)) (sg (x-b)) (sg (x-a)) (sg (b-x))=true↔btE a b x:=by
 have h1:∀y z:RE,sg (y-z)≤0↔y≤z:=fun y z=>by
  rw[atk]
  exact⟨fun h=>Nh _ _ h,fun h=>adK _ _ h⟩
 unfold VF btE
 cases h:decide (sg (a-b)>0)
 ·have h2:a≤b:=(h1 _ _).1 (by have:=avW h;omega)
  simp only[cond_false,au8,awJ,h1]
  exact⟨fun h=>.inl h,fun h'=>h'.elim id (fun g=>⟨le_trans h2 g.1,le_trans g.2 h2⟩)⟩
 ·have h2:b≤a:=by
   have:=au0 h
   rcases lt_or_ge a b with g|g
   ·rw[im (qM _ _ g)]at this
    omega
   ·exact g
  simp only[cond_true,au8,awJ,h1]
  exact⟨fun h=>.inr ⟨h.1,h.2⟩,fun h'=>h'.elim (fun g=>⟨le_trans h2 g.1,le_trans g.2 h2⟩) (fun g=>⟨g.1,g.2⟩)⟩
theorem uZ{c:Cv}(h:GdE c){p:Pt}[hp:Rpd p]:onP c p=true↔onE c (pR p):=by
 have hf:=h.f
 have ht:=h.t
 obtain⟨ar,li,ci,cw,fr,to⟩:=c
 have hf:Rpd fr:=hf
 have ht:Rpd to:=ht
 unfold onP onE
 rw[au8]
 cases ar
 ·obtain⟨l1,l2,l3⟩:=h.l rfl
  rw[avn (by intro h;cases h)]
  show(mh li p==0)=true∧qs (b9 fr p) (b9 p to)=true↔uu li (pR p)∧btE (tL li fr) (tL li to) (tL li p)
  rw[LB]
  constructor
  ·intro ⟨h1,h2⟩
   refine⟨h1,?_⟩
   rw[btw_tL (F:=fr) (P:=p) (T:=to) l1 l2 (show onLi li p from h1) l3]at h2
   exact(AZ _ _ _).1 h2
  ·intro ⟨h1,h2⟩
   refine⟨h1,?_⟩
   rw[btw_tL (F:=fr) (P:=p) (T:=to) l1 l2 (show onLi li p from h1) l3]
   exact(AZ _ _ _).2 h2
 ·obtain⟨q1,q2,q3⟩:=h.q rfl
  have hne:pR fr≠pR to:=h.ne
  rw[avr rfl]
  show(lm ci p==0)=true∧decide (pq bI (ptd ci (ccF (true,li,ci,cw,fr,to))) (ptd ci p) (ptd ci (ccT (true,li,ci,cw,fr,to)))≤0)=true↔ny ci (pR p)∧nA _ _ _=true
  rw[uK]
  cases cw
  ·constructor
   ·intro ⟨h1,h2⟩
    refine⟨h1,?_⟩
    have:=vg (ci:=ci) (F:=fr) (P:=p) (T:=to) q1 q2 h1 q3 hne
    exact this▸h2
   ·intro ⟨h1,h2⟩
    refine⟨h1,?_⟩
    have:=vg (ci:=ci) (F:=fr) (P:=p) (T:=to) q1 q2 h1 q3 hne
    exact this.trans h2
  ·constructor
   ·intro ⟨h1,h2⟩
    refine⟨h1,?_⟩
    have:=vg (ci:=ci) (F:=to) (P:=p) (T:=fr) q1 q3 h1 q2 (awt hne)
    exact this▸h2
   ·intro ⟨h1,h2⟩
    refine⟨h1,?_⟩
    have:=vg (ci:=ci) (F:=to) (P:=p) (T:=fr) q1 q3 h1 q2 (awt hne)
    exact this.trans h2
end RE
end
def vcR(x y:Int):Rat×Rat:=((x:Rat),(y:Rat))
def wZ:BCU:=(false,enc ((0,2,0):Ln),o00,false,enc (atP (-1,0)),enc (atP (1,0)))
def jL:BCU:=(true,o00,enc ((0,0,1):Ln),false,enc (atP (1,0)),enc (atP (-1,0)))
instance aq2:Bd (-1:Rat) 3:=fa (n:= -1) (by decide)
theorem Rz:dC wZ=(false,(0,2,0),dec o00,false,atP (-1,0),atP (1,0)):=by
 unfold dC wZ
 simp only[am]
theorem xm:dC jL=(true,dec o00,(0,0,1),false,atP (1,0),atP (-1,0)):=by
 unfold dC jL
 simp only[am]
theorem ai2:ye (vcR (-1) 0) (vcR 1 0)=wZ:=by
 have h1:yu (vcR (-1) 0) (vcR 1 0)=false:=by decide+kernel
 have h2:qV (vcR (-1) 0) (vcR 1 0)=(0,2,0):=by decide+kernel
 unfold ye wZ
 rw[h1,h2]
 rfl
theorem aid:xo (vcR 1 0) (vcR 0 1) (vcR (-1) 0)=jL:=by
 have h1:decide (eo (vcR 1 0) (vcR 0 1) (vcR (-1) 0)=0)=false:=by decide+kernel
 have h2:ph (vcR 1 0) (vcR 0 1) (vcR (-1) 0)=(0,0,1):=by decide+kernel
 have h3:decide (ur (vcR 1 0) (vcR 0 1) (vcR (-1) 0)<0)=false:=by decide+kernel
 unfold xo jL
 rw[h1,h2,h3]
 rfl
theorem iG{v:Rat×Rat}{j k:Nat}[h:Bd v j](hj:mx j (mx 1 (mx j (mx 1 1)))≤k)(hk:k≤480000):okP k (enc (atP v)):=au0 (bH (x:=atP v) hj hk)
theorem JG:okC 500 wZ:=by
 refine⟨fun h=>(by cases h),fun _=>⟨au0 (okd (x:=((0,2,0):Ln)) (by decide) (by decide)),?_⟩,iG (v:=(-1,0)) (by decide) (by decide),iG (v:=(1,0)) (by decide) (by decide)⟩
 show(dec (enc ((0,2,0):Ln)):Ln).1≠0∨_
 rw[am]
 exact .inr (by decide+kernel)
theorem BJ:okC 500 jL:=by
 refine⟨fun _=>⟨au0 (okd (x:=((0,0,1):Ln)) (by decide) (by decide)),?_⟩,fun h=>(by cases h),iG (v:=(1,0)) (by decide) (by decide),iG (v:=(-1,0)) (by decide) (by decide)⟩
 show 0<(dec (enc ((0,0,1):Ln)):Ln).2.2
 rw[am]
 decide+kernel
theorem Lx:atP (vcR 0 1)=atP (0,1):=by decide+kernel
theorem acY:ym jL [enc (atP (vcR 0 1))]:=by
 refine⟨dK BJ (by decide) (by decide),by simp,fun x hx=>?_⟩
 have hx:x=enc (atP (vcR 0 1)):=by simpa using hx
 rw[hx,Lx,am,xm]
 exact⟨iG (v:=(0,1)) (by decide) (by decide),by decide+kernel⟩
def ak0:List BCU:=[uw jL (enc (atP (1,0))) (enc (atP (0,1))),uw jL (enc (atP (0,1))) (enc (atP (-1,0)))]
theorem ajt:fj jL [enc (atP (vcR 0 1))]=ak0:=by
 have b1:decide (cB (dC jL) (atP (1,0)) (atP (-1,0))<0)=true:=by rw[xm];decide+kernel
 have b2:decide (cB (dC jL) (atP (1,0)) (atP (0,1))<0)=true:=by rw[xm];decide+kernel
 have b3:decide (cB (dC jL) (atP (-1,0)) (atP (0,1))<0)=false:=by rw[xm];decide+kernel
 have b4:(b9 (atP (-1,0)) (atP (0,1))==0)=false:=by decide+kernel
 have e1:jL.2.2.2.2.1=enc (atP (1,0)):=rfl
 have e2:jL.2.2.2.2.2=enc (atP (-1,0)):=rfl
 unfold fj nO gk
 rw[Lx,e1,e2]
 simp only[List.cons_append,axq,List.foldl_cons,List.foldl_nil,fq,am,b1,b2,b3,b4,cond_true,cond_false]
 rfl
theorem UR:okC 500 (uw jL (enc (atP (1,0))) (enc (atP (0,1)))):=⟨BJ.1,fun h=>(by cases h),iG (v:=(1,0)) (by decide) (by decide),iG (v:=(0,1)) (by decide) (by decide)⟩
theorem ate:dC (uw jL (enc (atP (1,0))) (enc (atP (0,1))))=(true,dec o00,(0,0,1),false,atP (1,0),atP (0,1)):=by
 unfold dC uw jL
 simp only[am]
theorem q1:bI (cd (dC wZ) (vcR 0 2)) (((4:Int):Rat),0,0)=0:=by rw[Rz];decide+kernel
theorem q2:bI (cd (dC wZ) (vcR 4 4)) (((25:Int):Rat),0,0)=0:=by rw[Rz];decide+kernel
theorem q3:ux (dC jL) (vcR 0 3) ((2:Int):Rat)=0:=by rw[xm];decide+kernel
theorem q4:ux (dC jL) (vcR 0 0) ((1:Int):Rat)=0:=by rw[xm];decide+kernel
theorem q5:bI (cd (dC jL) (vcR 0 (-1))) (((2:Int):Rat),0,0)=0:=by rw[xm];decide+kernel
theorem q6:bI (cd (dC (uw jL (enc (atP (1,0))) (enc (atP (0,1))))) (vcR 1 1)) (mkR ((3:Int):Rat) ((-2:Int):Rat) ((2:Int):Rat))=0:=by rw[ate];decide+kernel
instance auO {x y:Int} {i j:Nat} [h:Bd (x:Rat) i] [h':Bd (y:Rat) j]:Bd (vcR x y) (mx i j):=inferInstanceAs (Bd (((x:Rat),(y:Rat)):Rat×Rat) _)
def C8:aO:=spN true true [tO,tO] (fun x=>decide (okT 15000 x.1∧okT 15000 x.2.1)) (fun x=>[RV.d .bool (bI (dec x.1) (dec x.2.1)==0)])
theorem zB:SpK 63 C8:=spX fun x h=>Xe x.1 x.2.1 (au0 h)
def LH:Env:=[(31,Bn),(78,gv),(131,vf),(50,iN),(63,C8)]
theorem xh:EnvAll Tryz.prog LH:=⟨yH,fc,sV,gi,zB,trivial⟩
def alJ:Ctx:=CX LH []
def Vx(r:BO3)(_k:KT):Option (List RV):=match decide (okR r.1)with|true=>(match decide (okR r.2.1)with|true=>(match decide (okR r.2.2)with|true=>(match decide (okR r.2.1)with|true=>(match(aV (ae r.2.1) 0)==0 with|true=>(match decide (okR r.2.1)with|true=>(match(aV (ae r.2.1) 0)==0 with|true=>(match decide (okR r.2.2)with|true=>some [RV.d .bool ((aV (ae r.2.2) 0)==0)]|false=>none)|false=>some [RV.d .bool false])|false=>none)|false=>(match decide (okR r.2.2)with|true=>(match(aV (ae r.2.2) 0)==0 with|true=>(match decide (okR r.2.1)with|true=>(match(aV (ae r.2.1) 0)==0 with|true=>(match decide (okR r.2.2)with|true=>some [RV.d .bool ((aV (ae r.2.2) 0)==0)]|false=>none)|false=>some [RV.d .bool false])|false=>none)|false=>(match decide (okR r.2.2)with|true=>(match decide (okR r.2.2)with|true=>(match decide ((aV (ae r.2.2) 0)>0)with|true=>some [RV.d .bool (!(eZ (ae r.2.2)))]|false=>some [RV.d .bool false])|false=>none)|false=>none))|false=>none))|false=>none)|false=>none)|false=>none)|false=>none
theorem alp(r:BO3):RS alJ 62 [.d tO r] (Vx r):=rsX
theorem UG(r:BO3)(h:okT 15000 r):Con Tryz.prog 62 [.d tO r] [.d .bool true]:=by
 refine aR xh (alp _ ⟨0,?_⟩)
 have hr:=h
 obtain⟨r,rfl,br,rr⟩:=fK hr
 unfold Vx
 simp only[aI,aJ,aG,az,aX,Nat.reduceLeDiff,aM,aQ]
 rcases rr.rd with⟨h1,h2⟩|⟨h1,h2,h3⟩
 ·rw[au1 h1,au1 h2]
 ·have h4:r.2.2≠0:=by grind
  rw[au3 h1,au3 h4,au1 h2,h3]
  rfl
def aob:Ctx:=CX LH []
def agL(x y:Int)(_k:KT):Option (List RV):=match decide (bg x)with|true=>(match decide (bg y)with|true=>some [RV.d tV (hid (ai (x:Rat)),hid (ai (y:Rat)))]|false=>none)|false=>none
theorem aoU(x y:Int):RS aob 47 [SI x,SI y] (agL x y):=rsX
theorem ab7(x y:Int)(h:bg x∧bg y):Con Tryz.prog 47 [.d ax8 x,.d ax8 y] [.d tV (enc (vcR x y))]:=by
 refine aR xh (aoU _ _ ⟨0,?_⟩)
 obtain⟨h1,h2⟩:=h
 unfold agL
 rw[dT h1,dT h2]
 simp only[ak]
 rfl
def JD:aO:=spN true true [tO] (fun x=>decide (okT 15000 x.1)) (fun _=>[RV.d .bool true])
theorem Mm:SpK 62 JD:=spX fun x h=>UG x.1 (au0 h)
def WB:aO:=spN false true [ax8,ax8] (fun x=>decide (bg x.1∧bg x.2.1)) (fun x=>[RV.d tV (hid (enc (vcR x.1 x.2.1)))])
theorem Tb:SpK 47 WB:=spX fun x h=>by simp only[ak];exact ab7 x.1 x.2.1 (au0 h)
def Vv:Env:=(62,JD)::(47,WB)::LH
theorem DD:EnvAll Tryz.prog Vv:=⟨Mm,Tb,xh⟩
def aq7:Ctx:=CX Vv []
def ae9(a w:BO3)(_k:KT):Option (List RV):=match decide (okT 15000 a)with|true=>(match decide (okT 15000 a∧okT 15000 w)with|true=>some [RV.d .bool (bI (dec a) (dec w)==0)]|false=>none)|false=>none
theorem apn(a w:BO3):RS aq7 15 [.d tO a,.d tO w] (ae9 a w):=rsX
theorem abU(a w:BO3)(h:okT 15000 a∧okT 15000 w):Con Tryz.prog 15 [.d tO a,.d tO w] [.d .bool (bI (dec a) (dec w)==0)]:=by
 refine aR DD (apn _ _ ⟨0,?_⟩)
 obtain⟨h1,h2⟩:=h
 unfold ae9
 rw[dT h1,dT (show okT 15000 a∧okT 15000 w from⟨h1,h2⟩)]
def wX:aO:=spN true true [tO,tO] (fun x=>decide (okT 15000 x.1∧okT 15000 x.2.1)) (fun x=>[RV.d .bool (bI (dec x.1) (dec x.2.1)==0)])
theorem rH:SpK 15 wX:=spX fun x h=>abU x.1 x.2.1 (au0 h)
def JF:aO:=spN false true [ax8] (fun x=>decide (bg x.1)) (fun x=>[RV.d tO (hid (enc (((x.1:Rat),0,0):Rt)))])
theorem MX:SpK 51 JF:=spX fun x h=>by simp only[ak];exact TZ x.1 (au0 h)
def agz:Env:=(15,wX)::(46,AR)::(48,A0)::(28,A5)::(20,lK)::(49,vi)::(51,JF)::(16,tM)::(21,HM)::Vv
theorem Vc:EnvAll Tryz.prog agz:=⟨rH,zS,Ao,wG,i7,sN,MX,mR,E1,DD⟩
def arq:Ctx:=CX agz []
def ae3(_k:KT):Option (List RV):=let y1:=hid (enc (vcR ((-1):Int) (0:Int)));let y2:=hid (enc (vcR (1:Int) (0:Int)));let y3:=hid (enc (vcR (0:Int) (1:Int)));let y4:=hid (xo (dec y2) (dec y3) (dec y1));let y5:=fj y4 ([hid (enc (atP (dec y3)))]);let y6:=hid (ai ((3:Int):Rat));let y7:=hid (ai (((-2):Int):Rat));let y8:=hid (ai ((2:Int):Rat));let y9:=hid (ye (dec y1) (dec y2));let y10:=hid (enc (vcR (0:Int) (2:Int)));let y11:=hid (enc (cd (dC y9) (dec y10)));let y12:=hid (enc ((((4:Int):Rat),0,0):Rt));let y13:=hid (enc (vcR (4:Int) (4:Int)));let y14:=hid (enc (cd (dC y9) (dec y13)));let y15:=hid (enc ((((25:Int):Rat),0,0):Rt));let y16:=hid (enc (vcR (0:Int) (3:Int)));let y17:=hid (enc (vcR (0:Int) (0:Int)));let y18:=hid (ai ((1:Int):Rat));let y19:=hid (enc (vcR (0:Int) ((-1):Int)));let y20:=hid (enc (cd (dC y4) (dec y19)));let y21:=hid (enc ((((2:Int):Rat),0,0):Rt));let y22:=hid (enc (vcR (1:Int) (1:Int)));let y23:=hid (enc (mkR (ae y6) (ae y7) (ae y8)));match decide (bg ((-1):Int)∧bg (0:Int))with|true=>(match decide (bg (1:Int)∧bg (0:Int))with|true=>(match decide (ok (Rat×Rat) 100 y1∧ok (Rat×Rat) 100 y2)with|true=>(match decide (bg (1:Int)∧bg (0:Int))with|true=>(match decide (bg (0:Int)∧bg (1:Int))with|true=>(match decide (bg ((-1):Int)∧bg (0:Int))with|true=>(match decide (ok (Rat×Rat) 100 y2∧ok (Rat×Rat) 100 y3∧ok (Rat×Rat) 100 y1)with|true=>(match decide (bg (0:Int)∧bg (1:Int))with|true=>(match decide (ok (Rat×Rat) 100000 y3)with|true=>(match decide (ym y4 ([hid (enc (atP (dec y3)))]))with|true=>(match(jl (dec y1) (dec y2)) !=0 with|true=>some [RV.d .bool false]|false=>(match(jM (dec y2) (dec y3) (dec y1)) !=0 with|true=>some [RV.d .bool false]|false=>(match 0 !=0 with|true=>some [RV.d .bool false]|false=>(match(y5.length:Int) !=2 with|true=>some [RV.d .bool false]|false=>(match decide (bg (3:Int))with|true=>(match decide (bg ((-2):Int))with|true=>(match decide (bg (2:Int))with|true=>(match decide (ok Rat 100000 y6∧ok Rat 100000 y7∧ok Rat 100000 y8∧0≤ae y8)with|true=>(match decide (bg (0:Int)∧bg (2:Int))with|true=>(match decide (okC 500 y9∧ok (Rat×Rat) 200 y10)with|true=>(match decide (bg (4:Int))with|true=>(match decide (okT 15000 y11∧okT 15000 y12)with|true=>(match bI (dec y11) (dec y12)==0 with|true=>(match decide (bg (4:Int)∧bg (4:Int))with|true=>(match decide (okC 500 y9∧ok (Rat×Rat) 200 y13)with|true=>(match decide (bg (25:Int))with|true=>(match decide (okT 15000 y14∧okT 15000 y15)with|true=>(match bI (dec y14) (dec y15)==0 with|true=>(match decide (bg (0:Int)∧bg (3:Int))with|true=>(match decide (bg (2:Int))with|true=>(match decide (okC 500 y4∧ok (Rat×Rat) 200 y16∧ok Rat 1000 y8)with|true=>(match(ux (dC y4) (dec y16) (ae y8))==0 with|true=>(match decide (bg (0:Int)∧bg (0:Int))with|true=>(match decide (bg (1:Int))with|true=>(match decide (okC 500 y4∧ok (Rat×Rat) 200 y17∧ok Rat 1000 y18)with|true=>(match(ux (dC y4) (dec y17) (ae y18))==0 with|true=>(match decide (bg (0:Int)∧bg ((-1):Int))with|true=>(match decide (okC 500 y4∧ok (Rat×Rat) 200 y19)with|true=>(match decide (bg (2:Int))with|true=>(match decide (okT 15000 y20∧okT 15000 y21)with|true=>(match bI (dec y20) (dec y21)==0 with|true=>(match bG y5 0 with|some x1=>(match decide (bg (1:Int)∧bg (1:Int))with|true=>(match decide (okC 500 x1∧ok (Rat×Rat) 200 y22)with|true=>(match decide (okT 15000 (hid (enc (cd (dC x1) (dec y22))))∧okT 15000 y23)with|true=>some [RV.d .bool (bI (dec (hid (enc (cd (dC x1) (dec y22))))) (dec y23)==0)]|false=>none)|false=>none)|false=>none)|none=>none)|false=>some [RV.d .bool false])|false=>none)|false=>none)|false=>none)|false=>none)|false=>some [RV.d .bool false])|false=>none)|false=>none)|false=>none)|false=>some [RV.d .bool false])|false=>none)|false=>none)|false=>none)|false=>some [RV.d .bool false])|false=>none)|false=>none)|false=>none)|false=>none)|false=>some [RV.d .bool false])|false=>none)|false=>none)|false=>none)|false=>none)|false=>none)|false=>none)|false=>none)|false=>none)))))|false=>none)|false=>none)|false=>none)|false=>none)|false=>none)|false=>none)|false=>none)|false=>none)|false=>none)|false=>none
theorem atn:RS arq 11 [] (ae3):=rsX
theorem ab2:Con Tryz.prog 11 [] [.d .bool true]:=by
 have bn:∀n:Int,bg n→Bd (n:Rat) 3:=fun n h=>fa h
 have z0:=bn 0 (by decide)
 have z1:=bn 1 (by decide)
 have z2:=bn 2 (by decide)
 have z3:=bn 3 (by decide)
 have z4:=bn 4 (by decide)
 have z25:=bn 25 (by decide)
 have zm1:=bn (-1) (by decide)
 have zm2:=bn (-2) (by decide)
 have i0:decide (bg 0)=true:=by decide
 have i1:decide (bg 1)=true:=by decide
 have i2:decide (bg 2)=true:=by decide
 have i3:decide (bg 3)=true:=by decide
 have i4:decide (bg 4)=true:=by decide
 have i25:decide (bg 25)=true:=by decide
 have im1:decide (bg (-1))=true:=by decide
 have im2:decide (bg (-2))=true:=by decide
 have s1:jl (vcR (-1) 0) (vcR 1 0)=0:=by decide+kernel
 have s2:jM (vcR 1 0) (vcR 0 1) (vcR (-1) 0)=0:=by decide+kernel
 have hq:0≤((2:Int):Rat):=by decide+kernel
 have nn2:Nn ((2:Int):Rat):=⟨hq⟩
 have d1:=fun{v:Rat×Rat} (bv:Bd v 200)=>dO JG (v:=v) (bv:=bv)
 have d2:=fun{v:Rat×Rat} (bv:Bd v 200)=>dO BJ (v:=v) (bv:=bv)
 have d3:=fun{v:Rat×Rat} (bv:Bd v 200)=>dO UR (v:=v) (bv:=bv)
 have v02:Bd (vcR 0 2) 200:=(inferInstance:Bd (vcR 0 2) _).mono (by decide)
 have v44:Bd (vcR 4 4) 200:=(inferInstance:Bd (vcR 4 4) _).mono (by decide)
 have v0m:Bd (vcR 0 (-1)) 200:=(inferInstance:Bd (vcR 0 (-1)) _).mono (by decide)
 have v11:Bd (vcR 1 1) 200:=(inferInstance:Bd (vcR 1 1) _).mono (by decide)
 obtain⟨t1,u1⟩:=d1 v02
 obtain⟨t2,u2⟩:=d1 v44
 obtain⟨t3,u3⟩:=d2 v0m
 obtain⟨t4,u4⟩:=d3 v11
 have g0:bG ak0 0=some (uw jL (enc (atP (1,0))) (enc (atP (0,1)))):=rfl
 have gl:((ak0.length:Int) !=2)=false:=rfl
 refine aR Vc (atn ⟨0,?_⟩)
 unfold ae3
 simp only[ak,am,az,okd,aH,au4,au6,mx,Nat.reduceAdd,Nat.reduceLeDiff,ave,cond_true,bh,i0,i1,i2,i3,i4,i25,im1,im2,ai2,aid,ajt,au1 acY,s1,s2,dT hq,au1 JG,au1 BJ,au1 UR,q1,q2,q3,q4,q5,q6,g0,gl]
 rfl
def tb:aO:=spN true true [] (fun _=>true) (fun _=>[RV.d .bool true])
theorem mY:SpK 11 tb:=spX fun _ _=>ab2
section
namespace RE
theorem cmpP_0{p q:Pt}[Rpd p][Rpd q]:b9 p q=0↔pR p=pR q:=by
 rw[jW]
 obtain⟨h1,h2,h3⟩:=oB (pR p) (pR q)
 rcases jg.tri (pR p) (pR q)with h|h|h
 ·rw[h1 h]
  exact⟨fun e=>absurd e (by decide),fun e=>absurd h (by rw[e];exact jg.irr _)⟩
 ·exact⟨fun _=>h,fun _=>h2 h⟩
 ·rw[h3 h]
  exact⟨fun e=>absurd e (by decide),fun e=>absurd h (by rw[e];exact jg.irr _)⟩
theorem uo(v:Rat×Rat):pR (atP v)=(of v.1,of v.2):=axe (pX_at v) (pY_at v)
theorem Ri{ax bx c:Rat}(h:eZ c=true):of (ax+bx*rtQ c)=v2 ax bx c:=by
 unfold v2
 rw[of_add,of_mul,YZ h]
theorem BU(ax bx ay b_ c:Rat):pR (lC ax bx ay b_ c)=(v2 ax bx c,v2 ay b_ c):=by
 unfold lC
 cases h:eZ c
 ·rfl
 ·exact(uo _).trans (axe (Ri h) (Ri h))
theorem aif(a b r:RE):(a+ -1*r-a)*(a+ -1*r-a)+(b+0*r-b)*(b+0*r-b)=r*r:=by
 induction a using auZ
 induction b using auZ
 induction r using auZ
 exact snd fun n=>by
  simp only[RL.add,RL.mul,RL.neg,RL.const]
  grind
theorem ab1(a b r:RE):(a+1*r-a)*(a+1*r-a)+(b+0*r-b)*(b+0*r-b)=r*r:=by
 induction a using auZ
 induction b using auZ
 induction r using auZ
 exact snd fun n=>by
  simp only[RL.add,RL.mul,RL.neg,RL.const]
  grind
theorem NL(a r:RE):of 2*((r-(0)))+((a+ -1*r-(a+1*r)))=0:=by
 induction a using auZ
 induction r using auZ
 exact snd fun n=>by
  simp only[RL.add,RL.mul,RL.neg,RL.const]
  grind
theorem aa8(a r:RE)(h1:a+ -1*r=a+1*r):r≤0:=fun hg=>far (aB (qR (by decide+kernel:(0:Rat)<2) (aE hg)) (aA (d7 h1))) (NL a r)
theorem NF(a r:RE):of 2*((0-(r)))+((a+1*r-(a+ -1*r)))=0:=by
 induction a using auZ
 induction r using auZ
 exact snd fun n=>by
  simp only[RL.add,RL.mul,RL.neg,RL.const]
  grind
theorem adS(a r:RE)(h1:a+ -1*r=a+1*r):0≤r:=fun hg=>far (aB (qR (by decide+kernel:(0:Rat)<2) (aE hg)) (aA (dP h1))) (NF a r)
theorem akI(a r:RE)(h1:a+ -1*r=a+1*r):r=0:=le_antisymm (aa8 a r h1) (adS a r h1)
theorem ajz{c:Ln}(h:0<c.2.2):ny c (pR (pi c))∧ny c (pR (pc c)):=by
 have hr:=kz (show 0≤c.2.2 by grind)
 unfold pi pc
 rw[BU,BU]
 exact⟨(aif _ _ _).trans hr,(ab1 _ _ _).trans hr⟩
theorem aek{c:Ln}(h:0<c.2.2):pR (pi c)≠pR (pc c):=by
 unfold pi pc
 rw[BU,BU]
 intro e
 have e1:=akI _ _ (congrArg Prod.fst e)
 have hr:=kz (show 0≤c.2.2 by grind)
 rw[e1,mul_zero]at hr
 have:=I7 hr
 grind
theorem SH{l:Ln}{v:Rat×Rat}(h:l.1*v.1+l.2.1*v.2=l.2.2):(mh l (atP v)==0)=true:=by
 rw[LB,uo]
 exact congrArg of h
theorem PH{c:Ln}{v:Rat×Rat}(h:(v.1-c.1)*(v.1-c.1)+(v.2-c.2.1)*(v.2-c.2.1)=c.2.2):(lm c (atP v)==0)=true:=by
 rw[uK,uo]
 unfold ny frm
 dsimp only
 rw[←of_sub,←of_sub]
 exact congrArg of h
theorem ahN{v w:Rat×Rat}(h:v≠w):b9 (atP v) (atP w)≠0:=fun e=>h (by
 have:=cmpP_0.1 e
 rw[uo,uo]at this
 exact axe (I7 (congrArg Prod.fst this)) (I7 (congrArg Prod.snd this)))
end RE
open RE
def gdN(c:BCU):Prop:=mG c∧gn (dC c) (frC (dC c))=true∧gn (dC c) (toC (dC c))=true∧b9 (frC (dC c)) (toC (dC c))≠0
theorem gdN.gd{c:BCU}(h:gdN c):gdC c:=⟨h.1.1,h.2.1,h.2.2.1⟩
theorem ajN{a b:Rat×Rat}[ba:Bd a 1][bb:Bd b 1](h:yu a b=false):gdN (ye a b):=by
 have hz:(qV a b).1≠0∨(qV a b).2.1≠0:=by
  unfold yu at h
  by_cases e:a.2-b.2=0
  ·rw[au1 e,au5]at h
   exact .inr (avW h)
  ·exact .inl e
 have hne:a≠b:=fun e=>by
  subst e
  unfold qV at hz
  rcases hz with h|h<;>exact h (by show _-_=(0:Rat);grind)
 have b1:Bd (qV a b).1 12:=(inferInstance:Bd (a.2-b.2) _).mono (by decide)
 have b2:Bd (qV a b).2.1 12:=(inferInstance:Bd (b.1-a.1) _).mono (by decide)
 have b3:Bd (qV a b).2.2 63:=(inferInstance:Bd ((a.2-b.2)*a.1+(b.1-a.1)*a.2) _).mono (by decide)
 have hl:=tt (h:=⟨b1,b2,b3⟩) hz
 have hL:adZ (enc (qV a b)):=⟨au0 (okd (x:=qV a b) (by decide) (by decide)),by rw[am];exact hz⟩
 unfold ye
 rw[h]
 refine⟨⟨⟨fun e=>(by cases e),fun _=>hL,iG (by decide) (by decide),iG (by decide) (by decide)⟩,fun e=>(by cases e),fun _=>hl⟩,?_⟩
 simp only[dC,gn,frC,toC,lnC,am,cond_false]
 exact⟨SH (by unfold qV;grind),SH (by unfold qV;grind),ahN hne⟩
theorem ajM{c:Ln}[bc:BdC c](h:0<c.2.2):∀d∈HT (enc c),gdN d:=by
 have hs:=nf h
 have bx:=bc.x
 have b_:=bc.y
 have bq:=bc.q
 have b0:Bd (0:Rat) 3:=fa (n:=0) (by decide)
 have b1:Bd (1:Rat) 3:=fa (n:=1) (by decide)
 have hC:qN (enc c):=⟨au0 (okd (h:=XL (c:=c)) (by decide) (by decide)),by rw[am];exact h⟩
 have q0:(0:Rat)≤c.2.2:=by grind
 have pl:Rpd (pi c):=Bj (fun e=>absurd e.1 (by decide)) q0
 have pr:Rpd (pc c):=Bj (fun e=>absurd e.1 (by decide)) q0
 have bl:Bd (pi c) 490:=BH (bx.mono (by decide:4≤4)) (aq2.mono (by decide:3≤3)) b_ b0 bq (by decide)
 have br:Bd (pc c) 490:=BH (bx.mono (by decide:4≤4)) b1 b_ b0 bq (by decide)
 have ol:okP 500 (enc (pi c)):=au0 (bH (by decide) (by decide))
 have or_:okP 500 (enc (pc c)):=au0 (bH (by decide) (by decide))
 obtain⟨nl,nr_⟩:=ajz h
 have nl:=uK.2 nl
 have nr_:=uK.2 nr_
 have ne:=aek h
 intro d hd
 have:d=(true,o00,enc c,false,enc (pi c),enc (pc c))∨d=(true,o00,enc c,false,enc (pc c),enc (pi c)):=by
  unfold HT at hd
  rw[am]at hd
  simpa using hd
 rcases this with e|e<;>rw[e]
 ·refine⟨⟨⟨fun _=>hC,fun e=>(by cases e),ol,or_⟩,fun _=>hs,fun e=>(by cases e)⟩,?_⟩
  simp only[dC,gn,frC,toC,ciC,am,cond_true]
  exact⟨nl,nr_,fun e=>ne (cmpP_0.1 e)⟩
 ·refine⟨⟨⟨fun _=>hC,fun e=>(by cases e),or_,ol⟩,fun _=>hs,fun e=>(by cases e)⟩,?_⟩
  simp only[dC,gn,frC,toC,ciC,am,cond_true]
  exact⟨nr_,nl,fun e=>ne (cmpP_0.1 e).symm⟩
theorem aiv{a b c:Rat×Rat}(h:eo a b c≠0):(c.1-(ph a b c).1)*(c.1-(ph a b c).1)+(c.2-(ph a b c).2.1)*(c.2-(ph a b c).2.1)=(ph a b c).2.2:=by
 have h2:eo a b c+eo a b c≠0:=by grind
 have eX:vP a b c*(eo a b c+eo a b c)=_:=awq h2
 have eY:vZ a b c*(eo a b c+eo a b c)=_:=awq h2
 unfold ph
 dsimp only
 generalize vP a b c=X at*
 generalize vZ a b c=Y at*
 have k:eo a b c*(2*((c.1-a.1)*X+(c.2-a.2)*Y)-((c.1-a.1)*(c.1-a.1)+(c.2-a.2)*(c.2-a.2)))=0:=by
  unfold eo at*
  grind
 rcases axT.1 k with g|g
 ·exact absurd g h
 ·grind
theorem aoJ{a b c:Rat×Rat}(h:eo a b c≠0)(e:a=c):False:=by
 subst e
 refine h ?_
 unfold eo
 grind
theorem alt{a b c:Rat×Rat}[a1:Bb a.1 7 2][a2:Bb a.2 7 2][b1:Bb b.1 7 2][b2:Bb b.2 7 2][c1:Bb c.1 7 2][c2:Bb c.2 7 2]:BdC (ph a b c):=by
 have d:Bb ((b.1-a.1)*(c.2-a.2)-(b.2-a.2)*(c.1-a.1)) _ _:=inferInstance
 have d:Bb (eo a b c) _ _:=d
 have X:Bb ((((b.1-a.1)*(b.1-a.1)+(b.2-a.2)*(b.2-a.2))*(c.2-a.2)-((c.1-a.1)*(c.1-a.1)+(c.2-a.2)*(c.2-a.2))*(b.2-a.2))/(eo a b c+eo a b c)) _ _:=inferInstance
 have X:Bb (vP a b c) _ _:=X
 have Y:Bb ((((c.1-a.1)*(c.1-a.1)+(c.2-a.2)*(c.2-a.2))*(b.1-a.1)-((b.1-a.1)*(b.1-a.1)+(b.2-a.2)*(b.2-a.2))*(c.1-a.1))/(eo a b c+eo a b c)) _ _:=inferInstance
 have Y:Bb (vZ a b c) _ _:=Y
 have x1:Bb (a.1+vP a b c) _ _:=inferInstance
 have x2:Bb (a.2+vZ a b c) _ _:=inferInstance
 have x3:Bb (vP a b c*vP a b c+vZ a b c*vZ a b c) _ _:=inferInstance
 exact⟨F5 (h:=x1) (by decide) (by decide),F5 (h:=x2) (by decide) (by decide),F5 (h:=x3) (by decide) (by decide)⟩
theorem zW{x y:Rat}(h:¬(x=0∧y=0)):0<x*x+y*y:=by
 have nn:∀a:Rat,0≤a*a:=fun a=>by
  rcases(by grind:0≤a∨0≤ -a)with h|h
  ·exact avC h h
  ·have:=avC h h;grind
 have h1:=nn x
 have h2:=nn y
 rcases(by grind:0<x*x+y*y∨(x*x=0∧y*y=0))with g|⟨g1,g2⟩
 ·exact g
 ·exact absurd ⟨by simpa using axT.1 g1,by simpa using axT.1 g2⟩ h
theorem amH{a b c:Rat×Rat}[Bd a 1][Bd c 1][bc:BdC (ph a b c)](h:eo a b c≠0):gdN (xo a b c):=by
 have hon:=aiv h
 have hne:a≠c:=fun e=>aoJ h e
 have hq:0<(ph a b c).2.2:=by
  refine zW fun⟨e1,e2⟩=>hne ?_
  unfold ph at hon
  dsimp only at hon
  rw[e1,e2]at hon
  by_cases g:c.1-(a.1+0)=0∧c.2-(a.2+0)=0
  ·obtain⟨g1,g2⟩:=g
   exact axe (by grind) (by grind)
  ·have:=zW g
   grind
 have hs:=nf (h:=bc) hq
 have bx:=bc.x
 have b_:=bc.y
 have bq:=bc.q
 have hC:qN (enc (ph a b c)):=⟨au0 (okd (h:=XL (c:=ph a b c)) (by decide) (by decide)),by rw[am];exact hq⟩
 unfold xo
 rw[au3 h]
 refine⟨⟨⟨fun _=>hC,fun e=>(by cases e),iG (by decide) (by decide),iG (by decide) (by decide)⟩,fun _=>hs,fun e=>(by cases e)⟩,?_⟩
 simp only[dC,gn,frC,toC,ciC,am,cond_true,cond_false]
 refine⟨PH ?_,PH hon,ahN hne⟩
 unfold ph
 grind
theorem qt{x:Dr}(h:pW x):∀c∈ofL x,gdN c:=by
 obtain⟨h1,h2,hA,hB,hC,hD,hE,hF⟩:=h
 have a1:Bb (drA x).1 7 2:=xU hA h2
 have a2:Bb (drA x).2 7 2:=xU hB h2
 have b1:Bb (drB x).1 7 2:=xU hC h2
 have b2:Bb (drB x).2 7 2:=xU hD h2
 have c1:Bb (drC x).1 7 2:=xU hE h2
 have c2:Bb (drC x).2 7 2:=xU hF h2
 have l:∀{q:Rat},Bb q 7 2→Bd q 1:=fun h=>F5 (h:=h) (by decide) (by decide)
 have m:∀v:Rat×Rat,Bb v.1 7 2→Bb v.2 7 2→Bd v 1:=fun v g g'=>by
  have:=l g
  have:=l g'
  exact inferInstanceAs (Bd (v.1,v.2) _)
 have vA:=m _ a1 a2
 have vB:=m _ b1 b2
 have vC:=m _ c1 c2
 intro c hc
 unfold ofL at hc
 cases h3:x.1%3==2
 ·rw[h3,cond_false]at hc
  cases h4:x.1%3==1
  ·rw[h4,cond_false]at hc
   cases h5:yu (drA x) (drB x)
   ·have:jl (drA x) (drB x)=0:=by unfold jl;rw[h5];rfl
    rw[this]at hc
    have:c=ye (drA x) (drB x):=by simpa using hc
    rw[this]
    exact ajN h5
   ·have:jl (drA x) (drB x)=6:=by unfold jl;rw[h5];rfl
    rw[this]at hc
    cases hc
  ·rw[h4,cond_true]at hc
   by_cases h5:eo (drA x) (drB x) (drC x)=0
   ·have:jM (drA x) (drB x) (drC x)=6:=by unfold jM;rw[au1 h5];rfl
    rw[this]at hc
    cases hc
   ·have:jM (drA x) (drB x) (drC x)=0:=by unfold jM;rw[au3 h5];rfl
    rw[this]at hc
    have:c=xo (drA x) (drB x) (drC x):=by simpa using hc
    rw[this]
    have:=alt (a:=drA x) (b:=drB x) (c:=drC x)
    exact amH h5
 ·rw[h3,cond_true]at hc
  by_cases h5:(drB x).1≤0
  ·rw[au1 h5]at hc
   cases hc
  ·rw[au3 h5]at hc
   have bq:BdC (drQ x):=⟨(l a1).mono (by decide),(l a2).mono (by decide),(l b1).mono (by decide)⟩
   exact ajM (c:=drQ x) (show 0<(drB x).1 by grind) c hc
end
def j8(c:BCU)(l:List BCU):List BP:=(l.map (ma c)).flatten
def pZ(x:Pce):Prop:=pW x.1∧pW x.2.1∧u8P x.2.2
instance (x:Pce):Decidable (pZ x):=by unfold pZ;infer_instance
def A6(x:Pce):List BCU:=match ofL x.1 with
 |[]=>[]
 |c::_=>fj c (j8 c (ofL x.2.1))
def o9(x:Pce):Bool:=!(ofL x.1).isEmpty
def dg(x:Pce):BCU:=bif o9 x then(A6 x).getD (x.2.2%((A6 x).length:Int)).toNat c00 else c00
def ags:Env:=[(26,AS),(27,HX),(28,A5)]
theorem WX:EnvAll Tryz.prog ags:=⟨v9,Ds,wG,trivial⟩
def ac2:NT:=[((12,18),{keep:=[1,2,4,5,6,7],own:=[(6,41,tP)],hl:=3})]
def HV:Ctx:=CX ags ac2
def rT(x:Pce)(s7:Int)(r2:List BP):Cfg:=⟨12,[.blk 0,.seq 31],[(1,.box 0 0),(2,.box 1 0),(4,.d (.sl tCU) (ofL x.1)),(5,.d (.sl tCU) (ofL x.2.1)),(6,.own 2),(7,SI s7)],[.box 26 [.d (.int .u8) x.1.1,.d (.int .u8) x.1.2.1,.d (.int .i8) x.1.2.2.1,.d (.int .i8) x.1.2.2.2.1,.d (.int .i8) x.1.2.2.2.2.1,.d (.int .i8) x.1.2.2.2.2.2.1,.d (.int .i8) x.1.2.2.2.2.2.2.1,.d (.int .i8) x.1.2.2.2.2.2.2.2,.d (.int .u8) x.2.1.1,.d (.int .u8) x.2.1.2.1,.d (.int .i8) x.2.1.2.2.1,.d (.int .i8) x.2.1.2.2.2.1,.d (.int .i8) x.2.1.2.2.2.2.1,.d (.int .i8) x.2.1.2.2.2.2.2.1,.d (.int .i8) x.2.1.2.2.2.2.2.2.1,.d (.int .i8) x.2.1.2.2.2.2.2.2.2,.d (.int .u8) x.2.2],.box 43 [SB false,SB false,.nil,SB false,.nil,SB false,.nil,SB false,.nil,SB false,.nil,SB false,.nil,SB false,.nil,SB false,.nil,SB false,.nil,SB false,.nil,SB false,.nil,SB false,.nil,SB false,SB false,.nil,SB false,.nil,SB false,.nil,SB false,.nil,SB false,.nil,SB false,.nil,SB false,.nil,SB false,.nil,SB false,.nil,SB false,.nil,SB false,.nil,SB false,.nil,SB false,.nil,SB false,.nil,SB false,.nil,SB false,.nil,SB false,.nil,SB false,.nil,SB false,.nil,SB false,.nil],.row 41 tP r2],0,[]⟩
def U7(x:Pce)(k:KT):Option (List RV):=match decide (pW x.1)with|true=>(match decide (pW x.2.1)with|true=>(match((ofL x.1).length:Int)==0 with|true=>some [RV.d tCU (false,((((false,[]),(false,[])),(((false,[]),(false,[])),((false,[]),(false,[])))),((((false,[]),(false,[])),(((false,[]),(false,[])),((false,[]),(false,[])))),(false,((((false,[]),(false,[])),(((false,[]),(false,[])),(((false,[]),(false,[])),(((false,[]),(false,[])),((false,[]),(false,[])))))),(((false,[]),(false,[])),(((false,[]),(false,[])),(((false,[]),(false,[])),(((false,[]),(false,[])),((false,[]),(false,[]))))))))))),RV.d .bool false]|false=>k 18 (rT x 0 ([])))|false=>none)|false=>none
theorem alg(x:Pce):RS HV 12 [.d ko x] (U7 x):=rsX
def pM(x:Pce)(s7:Int)(r2:List BP)(k:KT):Option (List RV):=match decide (s7<((ofL x.2.1).length:Int))with|true=>(match bG (ofL x.1) 0 with|some x1=>(match bG (ofL x.2.1) s7 with|some x2=>(match decide (rD x1 x2)with|true=>(match decide ((r2.length+(ma x1 x2).length)*320≤140737488355328∧r2.length+(ma x1 x2).length≤140737488355328)with|true=>k 18 (rT x (i64.wrap (s7+1)) (r2++(ma x1 x2)))|false=>none)|false=>none)|none=>none)|none=>none)|false=>(match bG (ofL x.1) 0 with|some x1=>(match decide (ym x1 r2)with|true=>(match decide (((fj x1 r2).length:Int)=(0:Int))with|true=>none|false=>(match bG (fj x1 r2) (Int.tmod (i64.wrap x.2.2) ((fj x1 r2).length:Int))with|some x2=>some [RV.d tCU x2,RV.d .bool true]|none=>none))|false=>none)|none=>none)
theorem xL(x:Pce)(s7:Int)(r2:List BP):RN HV 18 (rT x s7 r2) (pM x s7 r2):=rnX
theorem Cp{c d:BCU}(h:rD c d):(ma c d).length≤4∧∀x∈ma c d,okP 500 x∧onR (dC c) (dec x)=true∧onR (dC d) (dec x)=true:=by
 obtain⟨h1,h2⟩:=KZ h
 unfold ma aiq
 have h3:=uR (dC c) ((DE c d).filter fun p=>onR (dC c) (dec p)&&onR (dC d) (dec p)) []
 have h4:=List.length_filter_le (fun p=>onR (dC c) (dec p)&&onR (dC d) (dec p)) (DE c d)
 refine⟨by
  unfold gk
  rw[List.length_nil,avD]at h3
  exact avm h3 (avm h4 h1),Ko fun x hx=>?_⟩
 obtain⟨g1,g2⟩:=List.mem_filter.1 hx
 obtain⟨g3,g4⟩:=avL.1 g2
 exact⟨h2 x g1,g3,g4⟩
theorem Ug(c:Cv)(x:BP):∀r:List BP,r.length≤(fq c r x).length
 |[]=>by simp
 |z::r=>by
  have:=Ug c x r
  simp only[fq]
  cases decide (cB c (dec z) (dec x)<0)
  ·cases b9 (dec z) (dec x)==0<;>simp
  ·simp only[cond_true,avw];omega
theorem Wj(c:Cv):∀(l out:List BP),out.length≤(l.foldl (fq c) out).length
 |[],_=>avb _
 |x::l,out=>avm (Ug c x out) (Wj c l _)
theorem JC(c:BCU):∀s:List BP,(sf c s).length=s.length-1
 |[]=>rfl
 |[_]=>rfl
 |x::y::r=>by
  have:=JC c (y::r)
  simp only[sf,avw]at this ⊢
  omega
theorem ZW{c:BCU}(h:b9 (dec c.2.2.2.2.1) (dec c.2.2.2.2.2)≠0)(l:List BP):2≤(nO c l).length:=by
 unfold nO gk
 refine avm ?_ (Wj (dC c) l _)
 simp only[fq]
 rw[axg.2 h]
 cases decide (cB (dC c) (dec c.2.2.2.2.1) (dec c.2.2.2.2.2)<0)<;>exact avb _
theorem Dm{c:BCU}(h:gdN c)(l:List BP):1≤(fj c l).length∧(fj c l).length≤l.length+1:=by
 have h1:=ZW h.2.2.2 l
 have h2:=Me c l
 unfold fj
 rw[JC]
 omega
theorem Kx{c:BCU}(h:gdN c){l:List BP}(hl:l.length≤900000)(ho:∀p∈l,okP 500 p∧onR (dC c) (dec p)=true):ym c l:=
 ⟨dK h.1.1 (by decide) (by decide),hl,fun x hx=>⟨dk (ho x hx).1 (by decide) (by decide),(ho x hx).2⟩⟩
def gdM(c:BCU):Prop:=mG c∧gn (dC c) (frC (dC c))=true∧gn (dC c) (toC (dC c))=true
theorem gdM.gd{c:BCU}(h:gdM c):gdC c:=⟨h.1.1,h.2.1,h.2.2⟩
theorem gdN.m{c:BCU}(h:gdN c):gdM c:=⟨h.1,h.2.1,h.2.2.1⟩
theorem Rj{c:BCU}(h:gdN c){l:List BP}(ho:∀p∈l,okP 500 p∧onR (dC c) (dec p)=true):∀p∈fj c l,gdM p:=by
 intro p hp
 obtain⟨x,y,hx,hy,e⟩:=KC hp
 have f:∀z,z∈nO c l→okP 500 z∧gn (dC c) (dec z)=true:=fun z hz=>by
  rcases BD hz with e|e|e
  ·rw[e];exact⟨h.1.1.2.2.1,h.2.1⟩
  ·rw[e];exact⟨h.1.1.2.2.2,h.2.2.1⟩
  ·exact⟨(ho z e).1,(avL.1 (ho z e).2).1⟩
 obtain⟨x1,x2⟩:=f x hx
 obtain⟨y1,y2⟩:=f y hy
 rw[e]
 exact⟨⟨⟨h.1.1.1,h.1.1.2.1,x1,y1⟩,h.1.2⟩,x2,y2⟩
theorem BY(x:Dr):(ofL x).length≤2:=by
 unfold ofL
 cases x.1%3==2
 ·cases x.1%3==1
  ·cases jl (drA x) (drB x) !=0<;>simp
  ·cases jM (drA x) (drB x) (drC x) !=0<;>simp
 ·cases decide ((drB x).1≤0)
  ·unfold HT;simp
  ·simp
theorem Iu{c:BCU}(h:gdN c):∀{l:List BCU},(∀d∈l,gdN d)→(j8 c l).length≤4*l.length∧∀p∈j8 c l,okP 500 p∧onR (dC c) (dec p)=true
 |[],_=>⟨avb _,fun p hp=>by cases hp⟩
 |d::r,hd=>by
  obtain⟨i1,i2⟩:=Iu h (l:=r) (fun e he=>hd e (avo _ he))
  obtain⟨m1,m2⟩:=Cp (show rD c d from⟨h.1,(hd d (by simp)).1⟩)
  have e:j8 c (d::r)=ma c d++j8 c r:=rfl
  rw[e]
  refine⟨by rw[avT,avw];omega,fun p hp=>?_⟩
  rcases avI.1 hp with g|g
  ·exact⟨(m2 p g).1,(m2 p g).2.1⟩
  ·exact i2 p g
def agK(x:Pce)(l:List BCU):BCU:=l.getD (x.2.2%(l.length:Int)).toNat c00
theorem abm(x:Pce)(h:pZ x)(c:BCU)(hc:gdN c)(g0:bG (ofL x.1) 0=some c)(B:List BCU)(hB:ofL x.2.1=B)(gB:∀d∈B,gdN d)(lB:B.length≤2):∀(j i:Nat),i+j=B.length→∀r2:List BP,r2.length≤4*i→(∀p∈r2,okP 500 p∧onR (dC c) (dec p)=true)→
  HV.Runs 18 (rT x (i:Int) r2) [.d tCU (agK x (fj c (r2++j8 c (B.drop i)))),.d .bool true]:=by
 intro j
 induction j with
 |zero=>
  intro i hi r2 hr ho
  refine xL _ _ _ ⟨0,?_⟩
  obtain⟨l1,l2⟩:=Dm hc r2
  have hs:=Kx hc (l:=r2) (by omega) ho
  obtain⟨u1,u2⟩:=h.2.2
  have e1:Int.tmod (i64.wrap x.2.2) ((fj c r2).length:Int)=x.2.2%((fj c r2).length:Int):=by
   rw[bi (by omega) (by omega),Int.tmod_eq_emod_of_nonneg u1]
  have m0:=awe x.2.2 (show((fj c r2).length:Int)≠0 by omega)
  have m1:=avJ x.2.2 (show 0<((fj c r2).length:Int) by omega)
  obtain⟨k,hk⟩:=awj m0
  have hkl:k<(fj c r2).length:=by omega
  have hd:B.drop i=[]:=axD.2 (by omega)
  have hcut:j8 c []=[]:=rfl
  unfold pM
  rw[hB,cC (by omega),g0]
  dsimp only
  rw[dT hs,dF (show ¬((fj c r2).length:Int)=0 by omega),e1,hk,aD,au2 hkl,hd,hcut,avR]
  unfold agK
  rw[hk,awA,List.getD_eq_getElem?_getD,au2 hkl]
  rfl
 |succ j ih=>
  intro i hi r2 hr ho
  have hil:i<B.length:=by omega
  have hm:rD c B[i]:=⟨hc.1,(gB _ (avF hil)).1⟩
  obtain⟨m1,m2⟩:=Cp hm
  obtain⟨n,hn⟩:=ih (i+1) (by omega) (r2++ma c B[i]) (by rw[avT];omega) (fun p hp=>by
   rcases avI.1 hp with g|g
   ·exact ho p g
   ·exact⟨(m2 p g).1,(m2 p g).2.1⟩)
  have hd:B.drop i=B[i]::B.drop (i+1):=avk hil
  have hcut:j8 c (B[i]::B.drop (i+1))=ma c B[i]++j8 c (B.drop (i+1)):=rfl
  refine xL _ _ _ ⟨n,?_⟩
  unfold pM
  rw[hB,bS hil,g0,aD,au2 hil]
  dsimp only
  rw[dT hm,dT (by omega),cD (by omega),hd,hcut,←awd]
  exact hn
theorem Zb(x:Pce)(h:pZ x):Con Tryz.prog 12 [.d ko x] [.d tCU (dg x),.d .bool (o9 x)]:=by
 have hB:=qt h.2.1
 have hA:=qt h.1
 refine aR WX (alg _ ?_)
 unfold U7 dg o9
 rw[dT h.1,dT h.2.1]
 cases hl:ofL x.1 with
 |nil=>exact⟨0,rfl⟩
 |cons c r=>
  rw[hl]at hA
  obtain⟨n,hn⟩:=abm x h c (hA c (by simp)) (by rw[hl];rfl) _ rfl hB (BY _) _ 0 (avD _) [] (avb _) (fun p hp=>by cases hp)
  refine⟨n,?_⟩
  have e:(((c::r).length:Int)==0)=false:=by simp;omega
  rw[e]
  unfold A6
  rw[hl]
  exact hn
def qr:aO:=spN false true [ko] (fun x=>decide (pZ x.1)) (fun x=>[RV.d tCU (hid (dg x.1)),RV.d .bool (o9 x.1)])
theorem oS:SpK 12 qr:=spX fun x h=>by simp only[ak];exact Zb x.1 (au0 h)
theorem akr{x:Pce}(h:pZ x):∀p∈A6 x,gdM p:=by
 intro p hp
 have hA:=qt h.1
 unfold A6 at hp
 cases hl:ofL x.1 with
 |nil=>rw[hl]at hp;cases hp
 |cons c r=>
  rw[hl]at hp hA
  exact Rj (hA c (by simp)) (Iu (hA c (by simp)) (qt h.2.1)).2 p hp
theorem Kf{x:Pce}(h:pZ x)(ho:o9 x=true):dg x∈A6 x:=by
 have hA:=qt h.1
 unfold dg A6
 rw[ho]
 unfold o9 at ho
 cases hl:ofL x.1 with
 |nil=>rw[hl]at ho;cases ho
 |cons c r=>
  rw[hl]at hA
  obtain⟨l1,l2⟩:=Dm (hA c (by simp)) (j8 c (ofL x.2.1))
  have m0:=awe x.2.2 (show((fj c (j8 c (ofL x.2.1))).length:Int)≠0 by omega)
  have m1:=avJ x.2.2 (show 0<((fj c (j8 c (ofL x.2.1))).length:Int) by omega)
  have hk:(x.2.2%((fj c (j8 c (ofL x.2.1))).length:Int)).toNat<(fj c (j8 c (ofL x.2.1))).length:=by omega
  simp only[cond_true]
  rw[List.getD_eq_getElem?_getD,au2 hk]
  exact avF hk
theorem UM{x:Pce}(h:pZ x)(ho:o9 x=true):gdC (dg x):=(akr h _ (Kf h ho)).gd
def afe:Env:=[(52,uN)]
theorem Rb:EnvAll Tryz.prog afe:=⟨uh,trivial⟩
def apS:Ctx:=CX afe []
def agm(n:Int)(_k:KT):Option (List RV):=match decide (uv (i64.wrap n) (4:Int))with|true=>some [RV.d tR (hid (ai (Rat.divInt (i64.wrap n) (4:Int))))]|false=>none
theorem api(n:Int):RS apS 22 [.d (.int .i8) n] (agm n):=rsX
theorem ZX(n:Int)(h:i8P n):Con Tryz.prog 22 [.d (.int .i8) n] [.d tR (ai (Rat.divInt n 4))]:=by
 refine aR Rb (api _ ⟨0,?_⟩)
 obtain⟨h1,h2⟩:=h
 unfold agm
 rw[bi (x:=n) (by omega) (by omega),dT (show uv n 4 from⟨⟨by omega,by omega⟩,⟨by omega,by omega⟩,by omega⟩)]
 simp only[ak]
def XI:aO:=spN false true [(.int .i8)] (fun x=>decide (i8P x.1)) (fun x=>[RV.d tR (hid (ai (Rat.divInt x.1 4)))])
theorem YA:SpK 22 XI:=spX fun x h=>by simp only[ak];exact ZX x.1 (au0 h)
theorem akM{n:Int}(h:i8P n):Bd (Rat.divInt n 4) 3:=C5 (n:=n) (d:=4) (by obtain⟨h1,h2⟩:=h;exact⟨by omega,by omega⟩) (by decide) (by decide)
theorem FF{s:Int×Int×Int}(h:Ty.ok y3Y s):gJ s:=by
 have h1:=bounds_i16 h.1
 have h2:=bounds_i16 h.2.1
 have h3:=bounds_u8 h.2.2
 exact⟨h1.1,h1.2,h2.1,h2.2,h3.1,h3.2⟩
theorem wT{n:Int}(h:Ty.ok (.int .i8) n):i8P n:=bounds_i8 h
theorem Uj{n:Int}(h:Ty.ok (.int .u8) n):u8P n:=bounds_u8 h
theorem K7{x:Dr}(h:Ty.ok tDr x):pW x:=⟨Uj h.1,Uj h.2.1,wT h.2.2.1,wT h.2.2.2.1,wT h.2.2.2.2.1,wT h.2.2.2.2.2.1,wT h.2.2.2.2.2.2.1,wT h.2.2.2.2.2.2.2⟩
theorem CK{x:Pce}(h:Ty.ok ko x):pZ x:=⟨K7 h.1,K7 h.2.1,Uj h.2.2⟩
theorem sR{s:Int×Int×Int}(h:gJ s){k:Nat}(hk:6≤k)(hk':k≤480000):ok (Rat×Rat) k (enc (cE s)):=by
 have:=CU h
 exact au0 (okd (x:=cE s) hk hk')
theorem Ru{n:Int}(h:i8P n){k:Nat}(hk:3≤k)(hk':k≤480000):ok Rat k (ai (Rat.divInt n 4)):=by
 have:=akM h
 exact au0 (okd (x:=Rat.divInt n 4) hk hk')
section
open Go.ChangeShapes Go.WideShapes Go.ChangeAt Go.WideMaps Go.WideElems Go.RowKit Go.Maps
section
variable {H:Type} {enc:TypeId×Value→H} {P:Program}
theorem yr{f:Func}{s:ChangeSpec}{apart fresh handsOn again:Bool}{W W':World}{args:Array Value}{v:Value}{ds gs:List (DataW H)}{before pa pv:List MemPlace}
  (hW:DataW.Whole enc P f.params.toList s.vars apart W args.toList ds gs before)
  (hres:∀(b:Nat) (sp:Nat→Bool) (hd:Bool),DataW.TrodAll enc P W' b sp hd f.resultTypes.toList (v.resultList f.resultTypes.size) (s.fn H (ds++gs)).results [])
  (hargs:∀sp:Nat→Bool,(∀p∈before,sp p.block=true)→DataW.TrodAll enc P W' 0 sp true f.params.toList args.toList (s.fn H (ds++gs)).args pa)
  (hvars:∀sp:Nat→Bool,(∀p∈before,sp p.block=true)→DataW.TrodVars enc P W' sp s.vars (s.fn H (ds++gs)).vars pv)
  (hps:before=pa++pv) (hb:Below W.heap.size W W')
  (hok:∀(j:Nat) (t:TypeId) (r:Value),f.resultTypes[j]?=some t→(v.resultList f.resultTypes.size)[j]?=some r→Value.okWide P W' .any 0 t r):
  s.post enc P f apart fresh handsOn again W args v W':=by
 have hlt:∀p∈before,p.block<W.heap.size:=fun p hp=>hW.lt p hp
 have hold:∀p∈before,(fun b=>decide (b<W.heap.size)) p.block=true:=fun p hp=>by simpa using hlt p hp
 refine⟨ds,gs,before,[],pa,pv,hW,hres _ _ _,hargs _ hold,hvars _ hold,World.keptBut_mono (fun p hp=>⟨hp,?_⟩) (hb.frame (·∈before)),fun _=>?_⟩
 ·rw[hps,avI]at hp
  exact Or.inr hp
 ·obtain⟨_,_,_,_,_,hz,hn⟩:=hW
  refine⟨hok,_,_,([]++pa)++pv,⟨[]++pa,pv,trodAll_append (hargs _ (fun _ _=>rfl)) (hres _ _ _),hvars _ (fun _ _=>rfl),rfl,?_,?_⟩,?_⟩
  ·intro b off hp
   have hin:MemPlace.cell b off∈before:=by rw[hps];simpa using hp
   rw[hb.frozen (hlt _ hin)]
   exact hz b off hin
  ·intro ha
   have:=hn ha
   rw[hps]at this
   simpa using this
  ·intro p hp _
   rw[hps]
   simpa using hp
end
theorem WC:laidOutB Tryz.prog=true:=by kernel_rfl
theorem po{H:Type}{enc:TypeId×Value→H}{P:Program}(hl:laidOutB P=true){W W':World}{sp:Nat→Bool}:∀(ts:List TypeId) (vs:List Value) (ds:List (DataW H)) (ps:List MemPlace),
  (ts.all fun t=>P.readableRec t&&Nat.ble (t+1) P.types.size)=true→DataW.TrodAll enc P W 0 (fun _=>true) true ts vs ds ps→(∀p∈ps,W.sameAt W' p)→(∀p∈ps,sp p.block=true)→DataW.TrodAll enc P W' 0 sp true ts vs ds ps
 |[],vs,ds,ps,_,h,_,_=>by obtain⟨rfl,rfl,rfl⟩:=trodAll_nil h;exact trodAll_mk0
 |t::ts,vs,ds,ps,ht,h,hs,hp=>by
  obtain⟨v,vs',d,ds',p,q,rfl,rfl,rfl,h0,h1⟩:=trodAll_cons h
  simp only[axB,au8]at ht
  exact trodAll_cons_mk (Trod_stays hl ht.1.1 (avc ht.1.2) h0 (fun x hx=>hs x (aw9 _ hx)) (fun x hx=>hp x (aw9 _ hx)))
   (po hl ts vs' ds' q ht.2 h1 (fun x hx=>hs x (aw0 _ hx)) (fun x hx=>hp x (aw0 _ hx)))
set_option maxRecDepth 100000 in
theorem mX{H:Type}{enc:TypeId×Value→H}{f:Func}{s:ChangeSpec}{apart fresh handsOn again:Bool}{W W':World}{args:Array Value}{ds:List (DataW H)}{before:List MemPlace}
  (hW:DataW.Whole enc Tryz.prog f.params.toList s.vars apart W args.toList ds [] before) (hv:s.vars=[]) (hr:f.resultTypes= #[4]) (hfn:(s.fn H (ds++[])).results=[.lit (.bool true)]∧(s.fn H (ds++[])).args=ds∧(s.fn H (ds++[])).vars=[])
  (hp:(f.params.toList.all fun t=>Tryz.prog.readableRec t&&Nat.ble (t+1) Tryz.prog.types.size)=true) (hb:Below W.heap.size W W'):s.post enc Tryz.prog f apart fresh handsOn again W args (.bool true) W':=by
 have hW':=hW
 obtain⟨p,q,hA,hV,rfl,hfz,hnd⟩:=hW
 have hq:q=[]:=by
  rw[hv]at hV
  exact(trodVars_none hV).2
 subst hq
 have hlt:∀x∈p,x.block<W.heap.size:=fun x hx=>hW'.lt x (by simpa using hx)
 refine yr (pa:=p) (pv:=[]) hW' ?_ ?_ ?_ rfl hb ?_
 ·intro b sp hd
  rw[hr,hfn.1]
  exact trodAll_mk1 (shut_bool Tryz.underlying4 _)
 ·intro sp hsp
  rw[hfn.2.1]
  exact po WC _ _ _ _ hp hA (fun x hx=>hb.same (hlt x hx)) (fun x hx=>hsp x (by simpa using hx))
 ·intro sp _
  rw[hv,hfn.2.2]
  rfl
 ·exact ok_one hr rfl (okWide_bool_mk (P:=Tryz.prog) Tryz.underlying4 true)
theorem GR{P:Program}{w:World}{r:Reach}{base:Nat}{t e:TypeId}{n:Nat}{v:Value}(ht:P.underlying t=some (.array n e))(h:Value.okWide P w r base t v):∃cs,v=.agg cs∧cs.size=P.cellsOf t:=by
 simp only[Value.okWide,ht]at h
 obtain⟨cs,h1,h2,_⟩:=h
 exact⟨cs,h1,h2⟩
theorem Jb{P:Program}{w:World}{r:Reach}{base:Nat}{t:TypeId}{v:Value}(ht:P.underlying t=some .string)(h:Value.okWide P w r base t v):∃s,v=.string s:=by
 simp only[Value.okWide,ht,Cell.okWide]at h
 cases v<;>simp_all [Cell.ok]
theorem eV{H:Type}{enc:TypeId×Value→H}{P:Program}{w:World}{r:Reach}{b0 base:Nat}{spare:Nat→Bool}{held:Bool}{v:Value}{d:DataW H}{p:List MemPlace}{t:TypeId}(n:Nat)(ty:Ty)(hrep:rep P n t ty=true)(hv:Value.okWide P w r b0 t v)(h:DataW.Trod enc P w base spare held t v d p):
  ∃y:ty.D,Rel1 [] (fun _=>True) w (.d ty y) v∧ty.ok y:=by
 obtain⟨fuel,hf⟩:=h
 have fin:v.cells.toList.length=ty.n→v=mkV ty v.cells.toList→∃y:ty.D,Rel1 [] (fun _=>True) w (.d ty y) v∧ty.ok y:=fun hl hm=>by
  obtain⟨y,h1,h2⟩:=(ad6 ty).1 n t hrep fuel _ _ hl hf
  exact⟨y,⟨_,h1,hm⟩,h2⟩
 cases n with
 |zero=>simp[rep]at hrep
 |succ n=>
  have hrep':=hrep
  unfold rep at hrep'
  split at hrep'<;>try (cases hrep';done)
  ·rename_i hu;obtain⟨m,rfl⟩:=okWide_int hu hv;exact fin rfl rfl
  ·rename_i hu;obtain⟨m,rfl⟩:=okWide_bool hu hv;exact fin rfl rfl
  ·rename_i hu;obtain⟨m,rfl⟩:=Jb hu hv;exact fin rfl rfl
  ·rename_i hu;obtain⟨q,m,c,rfl⟩:=okWide_slice hu hv;exact fin rfl rfl
  ·rename_i hu
   obtain⟨cs,rfl,hsz⟩:=okWide_struct hu hv
   simp only[au8]at hrep'
   exact fin (by simp only[Value.cells,Array.length_toList,hsz];exact au9 hrep'.2) (by simp[mkV,Ty.isSt,Value.cells])
  ·rename_i hu
   obtain⟨cs,rfl,hsz⟩:=GR hu hv
   simp only[au8]at hrep'
   exact fin (by simp only[Value.cells,Array.length_toList,hsz];exact au9 hrep'.2) (by simp[mkV,Ty.isSt,Value.cells])
end
end Go.Proofs.YtlahabkjhgkkjaaGreat
end
