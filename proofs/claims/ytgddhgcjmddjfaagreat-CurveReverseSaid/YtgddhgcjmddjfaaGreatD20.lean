/- The examples of the chapter on curves. -/
import Derived.Test.YtgddhgcjmddjfaaGreatD17
import Derived.Test.YtgddhgcjmddjfaaGreatD19
import Derived.Test.YtgddhgcjmddjfaaGreatD6
import Derived.ProofKit
import Derived.OpenShut
import Derived.ChangeSame
import Derived.Deep.Slices
import Derived.Test.YtgddhgcjmddjfaaGreatD15
import Derived.Stop.Joined
noncomputable section
namespace Go.Proofs.YtgddhgcjmddjfaaGreat
open Go.RowKit Go.IntKind
section
open RE
section
variable {α β:Type} (f:α→β)
theorem GJ{lt:α→α→Bool}{lt':β→β→Bool}(h:∀a b,lt' (f a) (f b)=lt a b)(a:α):∀r:List α,lw lt' (r.map f) (f a)=(lw lt r a).map f
 |[]=>rfl
 |b::r=>by
  have ih:=GJ h a r
  simp only[axc,lw,h]
  cases lt a b
  ·rfl
  ·simp only[cond_true,axc,ih]
theorem Fu{lt:α→α→Bool}{lt':β→β→Bool}(h:∀a b,lt' (f a) (f b)=lt a b):∀(l r:List α),(l.map f).foldl (lw lt') (r.map f)=(l.foldl (lw lt) r).map f
 |[],_=>rfl
 |a::l,r=>by
  rw[axc,awK,awK,GJ f h,Fu h]
theorem WG{lt:α→α→Bool}{lt':β→β→Bool}(h:∀a b,lt' (f a) (f b)=lt a b)(l:List α):sR lt' (l.map f)=(sR lt l).map f:=by
 unfold sR
 have:=Fu f h l []
 rw[List.map_nil]at this
 rw[this,List.map_reverse]
theorem HA{g:α→α→Bool}{g':β→β→Bool}(h:∀a b,g' (f a) (f b)=g a b):∀(l:List α) (p:α),jL g' (f p) (l.map f)=(jL g p l).map f
 |[],_=>rfl
 |q::r,p=>by
  have ih:=HA h r q
  simp only[axc,jL,h]
  cases g q p
  ·simp only[cond_false,axc,ih]
  ·exact ih
theorem XV{g:α→α→Bool}{g':β→β→Bool}(h:∀a b,g' (f a) (f b)=g a b)(l:List α):wA g' (l.map f)=(wA g l).map f:=by
 cases l with
 |nil=>rfl
 |cons x r=>
  simp only[axc,wA]
  rw[HA f h]
end
def FF(c d:Cv):List Pt:=wA (fun a b=>aV a b==0) (sR (fun a b=>decide (yD c a b<0)) ((bif cL c d then [frC c,toC c,frC d,toC d]else gg c d).filter fun p=>gO c p&&gO d p))
theorem GE{c d:BCU}(h1:c.2.2.2.2.1=enc (frC (dC c)))(h2:c.2.2.2.2.2=enc (toC (dC c)))(h3:d.2.2.2.2.1=enc (frC (dC d)))(h4:d.2.2.2.2.2=enc (toC (dC d))):bL c d=(FF (dC c) (dC d)).map enc:=by
 have e:iq c d=(bif cL (dC c) (dC d)then [frC (dC c),toC (dC c),frC (dC d),toC (dC d)]else gg (dC c) (dC d)).map enc:=by
  unfold iq
  cases cL (dC c) (dC d)
  ·rfl
  ·simp only[cond_true,axc,List.map_nil,←h1,←h2,←h3,←h4]
 unfold bL FF c7
 rw[e,List.filter_map]
 have e2:(gc c d∘enc)=fun p:Pt=>gO (dC c) p&&gO (dC d) p:=by
  funext p
  show(gO (dC c) (dec (enc p))&&gO (dC d) (dec (enc p)))=_
  rw[aq]
 rw[e2,WG (f:=(enc:Pt→BP)) (lt:=fun a b=>decide (yD (dC c) a b<0)) (fun a b=>by unfold ltP;rw[aq,aq]),XV (f:=(enc:Pt→BP)) (g:=fun a b=>aV a b==0) (fun a b=>by unfold fc;rw[aq,aq])]
abbrev uA1:Rat×Rat:=(Rat.divInt 0 1,Rat.divInt 1 1)
abbrev uA2:Rat×Rat:=(Rat.divInt (-1) 1,Rat.divInt 0 1)
abbrev uA3:Rat×Rat:=(Rat.divInt 0 1,Rat.divInt (-1) 1)
abbrev uS1:Rat×Rat:=(Rat.divInt (-4) 2,Rat.divInt 1 2)
abbrev uS2:Rat×Rat:=(Rat.divInt 4 2,Rat.divInt 1 2)
abbrev uO1:Rat×Rat:=(Rat.divInt (-3) 5,Rat.divInt 4 5)
abbrev uO2:Rat×Rat:=(Rat.divInt 1 1,Rat.divInt 0 1)
abbrev lC2:Ln:=(((0:Int):Rat),((0:Int):Rat),((2:Int):Rat))
def xA:BCU:=(true,l0B,enc ((0,0,1):Ln),false,enc (atP uA1),enc (atP uA3))
def xS:BCU:=(false,enc ((0,4,2):Ln),l0B,false,enc (atP uS1),enc (atP uS2))
def xF:BCU:=(true,l0B,enc lC2,false,enc (td lC2),enc (tF lC2))
def xG:BCU:=(true,l0B,enc lC2,false,enc (tF lC2),enc (td lC2))
def qA:Cv:=(true,(0,0,0),(0,0,1),false,atP uA1,atP uA3)
def qS:Cv:=(false,(0,4,2),(0,0,0),false,atP uS1,atP uS2)
def qF:Cv:=(true,(0,0,0),lC2,false,td lC2,tF lC2)
def qG:Cv:=(true,(0,0,0),lC2,false,tF lC2,td lC2)
def pX0:Pt:=(0,-4,1/2,0,3/64)
theorem E4:dC xA=qA:=by unfold dC xA qA l0B;simp only[aq]
theorem LK:dC xS=qS:=by unfold dC xS qS l0B;simp only[aq]
theorem E2:dC xF=qF:=by unfold dC xF qF l0B;simp only[aq]
theorem EX:dC xG=qG:=by unfold dC xG qG l0B;simp only[aq]
theorem ar1:P3 uA1 uA2 uA3=xA:=by
 have h1:decide (dq uA1 uA2 uA3=0)=false:=by decide+kernel
 have h2:pQ uA1 uA2 uA3=(0,0,1):=by decide+kernel
 have h3:decide (rH uA1 uA2 uA3>0)=true:=by decide+kernel
 unfold P3 xA
 rw[h1,h2,h3]
 rfl
theorem apu:Ol uS1 uS2=xS:=by
 have h1:uf uS1 uS2=false:=by decide+kernel
 have h2:r7 uS1 uS2=(0,4,2):=by decide+kernel
 unfold Ol xS
 rw[h1,h2]
 rfl
theorem apb:YR (enc lC2)=[xF,xG]:=by
 unfold YR xF xG
 rw[aq]
theorem api:bL xS xA=[enc pX0]:=by
 have:FF qS qA=[pX0]:=by decide+kernel
 rw[GE (by rw[LK];rfl) (by rw[LK];rfl) (by rw[E4];rfl) (by rw[E4];rfl),LK,E4,this]
 rfl
theorem aus:gZ xS xA=false:=by
 unfold gZ
 rw[LK,E4,show cL qS qA=false by decide+kernel]
 rfl
theorem aoS:bL xF xG=(FF qF qG).map enc:=by
 rw[GE (by rw[E2];rfl) (by rw[E2];rfl) (by rw[EX];rfl) (by rw[EX];rfl),E2,EX]
theorem at7:(FF qF qG).length=2:=by decide+kernel
section
theorem bI(n:Int)(h:bU n):Bd (n:Rat) 3:=fS h
theorem bQ(n d:Int)(h:fw n d):Bd (Rat.divInt n d) 3:=aeP h.1 h.2.1 h.2.2
theorem bV(n d m e:Int)(h:fw n d)(h':fw m e):Bd ((Rat.divInt n d,Rat.divInt m e):Rat×Rat) 3:=by
 have:=bQ n d h
 have:=bQ m e h'
 exact(inferInstance:Bd ((Rat.divInt n d,Rat.divInt m e):Rat×Rat) _).mono (by decide)
theorem oAt{v:Rat×Rat}{k:Nat}(h:Bd v 3)(hk:10≤k)(hk':k≤480000):okP k (enc (atP v)):=auN (bG (x:=atP v) (ava (by decide) hk) hk')
end
theorem Uz:mG xA:=by
 have b0:=bI 0 (by decide)
 have b1:=bI 1 (by decide)
 have z0:Bd (0:Rat) 3:=b0
 have z1:Bd (1:Rat) 3:=b1
 refine⟨⟨fun _=>⟨auN (okd (x:=((0,0,1):Ln)) (by decide) (by decide)),?_⟩,fun h=>(by cases h),oAt (bV _ _ _ _ (by decide) (by decide)) (by decide) (by decide),oAt (bV _ _ _ _ (by decide) (by decide)) (by decide) (by decide)⟩,fun _=>?_,fun h=>(by cases h)⟩
 ·show(0:Rat)<(dec (enc ((0,0,1):Ln)):Ln).2.2
  rw[aq];decide+kernel
 ·exact gL (c:=((0,0,1):Ln)) (h:=⟨z0.mono (by decide),z0.mono (by decide),z1.mono (by decide)⟩) (by decide+kernel)
theorem afu:mG xS:=by
 have b0:=bI 0 (by decide)
 have b2:=bI 2 (by decide)
 have b4:=bI 4 (by decide)
 have z0:Bd (0:Rat) 3:=b0
 have z2:Bd (2:Rat) 3:=b2
 have z4:Bd (4:Rat) 3:=b4
 refine⟨⟨fun h=>(by cases h),fun _=>⟨auN (okd (x:=((0,4,2):Ln)) (by decide) (by decide)),?_⟩,oAt (bV _ _ _ _ (by decide) (by decide)) (by decide) (by decide),oAt (bV _ _ _ _ (by decide) (by decide)) (by decide) (by decide)⟩,fun h=>(by cases h),fun _=>?_⟩
 ·show(dec (enc ((0,4,2):Ln)):Ln).1≠0∨(dec (enc ((0,4,2):Ln)):Ln).2.1≠0
  rw[aq];exact .inr (by decide+kernel)
 ·exact ku (l:=((0,4,2):Ln)) (h:=⟨z0.mono (by decide),z4.mono (by decide),z2.mono (by decide)⟩) (.inr (by decide+kernel))
theorem bC2:BdC lC2:=⟨(bI 0 (by decide)).mono (by decide),(bI 0 (by decide)).mono (by decide),(bI 2 (by decide)).mono (by decide)⟩
theorem ajo:bW (enc lC2):=gL (h:=bC2) (by decide+kernel)
theorem okE:okP 500 (enc (td lC2))∧okP 500 (enc (tF lC2)):=by
 have b0:=bI 0 (by decide)
 have b1:=bI 1 (by decide)
 have b2:=bI 2 (by decide)
 have bm:Bd (-1:Rat) 3:=bI (-1) (by decide)
 have z0:Bd (0:Rat) 3:=b0
 have z1:Bd (1:Rat) 3:=b1
 have nn:Nn lC2.2.2:=⟨by decide+kernel⟩
 have f1:Bd (td lC2) 500:=EJ (a:=3) (b:=3) (c:=3) b0 bm b0 z0 b2 (by decide)
 have f2:Bd (tF lC2) 500:=EJ (a:=3) (b:=3) (c:=3) b0 z1 b0 z0 b2 (by decide)
 have r1:Rpd (td lC2):=Ek
 have r2:Rpd (tF lC2):=Ek
 exact⟨auN (bG (auY _) (by decide)),auN (bG (auY _) (by decide))⟩
theorem apv:uo (enc lC2):=by
 have:=bC2
 have bl:Bd lC2 13:=I5
 exact⟨auN (okd (by decide) (by decide)),by rw[aq];decide+kernel⟩
theorem agF:gdN xF:=by
 refine⟨⟨⟨fun _=>apv,fun h=>(by cases h),okE.1,okE.2⟩,fun _=>ajo,fun h=>(by cases h)⟩,?_,?_,?_⟩<;>rw[E2]<;>decide+kernel
theorem af1:gdN xG:=by
 refine⟨⟨⟨fun _=>apv,fun h=>(by cases h),okE.2,okE.1⟩,fun _=>ajo,fun h=>(by cases h)⟩,?_,?_,?_⟩<;>rw[EX]<;>decide+kernel
theorem atK:gZ xF xG=false:=by
 cases h:gZ xF xG with
 |false=>rfl
 |true=>
  obtain⟨_,a,b,ha,hb,h1,h2⟩:=(mS agF af1).1 h
  rw[aoS]at ha hb
  obtain⟨p,hp,rfl⟩:=awc.1 ha
  obtain⟨q,hq,rfl⟩:=awc.1 hb
  have hr:ip xF xG=xG:=rfl
  rw[hr,EX,aq,aq]at h2
  rw[E2,aq,aq]at h1
  have key:∀p∈FF qF qG,∀q∈FF qF qG,¬(cj qF p q<0∧cj qG p q<0):=by decide+kernel
  exact absurd ⟨h1,h2⟩ (key p hp q hq)
theorem aqM:okP 4000 (enc pX0):=by
 have h:enc pX0∈iq xS xA:=by
  have:enc pX0∈bL xS xA:=by rw[api];simp
  exact(awk.1 (eL this)).1
 exact(tz ⟨afu,Uz⟩).2 _ h
def VV:Env:=[(37,xf)]
theorem PW:EnvAll Tryz.prog VV:=⟨uO,trivial⟩
def aaz:Ctx:=CX VV []
def Lh(x y d:Int)(_k:KT):OLR:=match decide (fw x d)with|true=>(match decide (fw y d)with|true=>some [RV.d tV (hid (ai (Rat.divInt x d)),hid (ai (Rat.divInt y d)))]|false=>none)|false=>none
theorem ads(x y d:Int):RS aaz 32 [SI x,SI y,SI d] (Lh x y d):=rsX
theorem PC(x y d:Int)(h:fw x d∧fw y d):Con Tryz.prog 32 [.d ayb x,.d ayb y,.d ayb d] [.d tV (enc ((Rat.divInt x d,Rat.divInt y d):Rat×Rat))]:=by
 refine aO PW (ads _ _ _ ⟨0,?_⟩)
 unfold Lh
 rw[dT h.1,dT h.2]
 simp only[am]
 rfl
def HE:aM:=spN false true [ayb,ayb,ayb] (fun x=>decide (fw x.1 x.2.2.1∧fw x.2.1 x.2.2.1)) (fun x=>[RV.d tV (hid (enc ((Rat.divInt x.1 x.2.2.1,Rat.divInt x.2.1 x.2.2.1):Rat×Rat)))])
theorem JS:SpK 32 HE:=spX fun x h=>by simp only[am];exact PC x.1 x.2.1 x.2.2.1 (auN h)
def ES:aM:=spN false true [tCU,tCU] (fun x=>decide (dQ x.1 x.2.1)) (fun x=>[RV.d (.sl tP) (bL x.1 x.2.1),RV.d .bool (gZ x.1 x.2.1)])
theorem xC:SpK 22 ES:=spX fun x h=>acK x.1 x.2.1 (auN h)
def KZ:aM:=spN true true [tO,tO] (fun x=>decide (okT 15000 x.1∧okT 15000 x.2.1)) (fun x=>[RV.d .bool (bS (dec x.1) (dec x.2.1)==0)])
theorem NW:SpK 39 KZ:=spX fun x h=>Wx x.1 x.2.1 (auN h)
def SE:Env:=[(32,HE),(31,Ma),(33,Mt),(22,ES),(34,Tg),(14,xL),(35,nv),(37,xf),(36,D0),(38,uj),(40,DQ),(39,KZ)]
theorem O3:EnvAll Tryz.prog SE:=⟨JS,Qj,Pv,xC,XR,sT,kq,uO,B7,qr,zX,NW,trivial⟩
def apH:Ctx:=CX SE []
def afj(_k:KT):OLR:=let y1:=hid (enc ((Rat.divInt (0:Int) (1:Int),Rat.divInt (1:Int) (1:Int)):Rat×Rat));let y2:=hid (enc ((Rat.divInt ((-1):Int) (1:Int),Rat.divInt (0:Int) (1:Int)):Rat×Rat));let y3:=hid (enc ((Rat.divInt (0:Int) (1:Int),Rat.divInt ((-1):Int) (1:Int)):Rat×Rat));let y4:=hid (enc ((Rat.divInt ((-4):Int) (2:Int),Rat.divInt (1:Int) (2:Int)):Rat×Rat));let y5:=hid (enc ((Rat.divInt (4:Int) (2:Int),Rat.divInt (1:Int) (2:Int)):Rat×Rat));let y6:=hid (Ol (dec y4) (dec y5));let y7:=hid (P3 (dec y1) (dec y2) (dec y3));let y8:=ai ((0:Int):Rat);let y9:=YR (hid y8,(hid y8,hid (ai ((2:Int):Rat))));let y10:=hid (ai (Rat.divInt ((-1):Int) (2:Int)));let y11:=hid (ai ((3:Int):Rat));let y12:=hid (enc ((Rat.divInt ((-3):Int) (5:Int),Rat.divInt (4:Int) (5:Int)):Rat×Rat));let y13:=hid (enc (atP (dec y12)));let y14:=hid (enc ((Rat.divInt (1:Int) (1:Int),Rat.divInt (0:Int) (1:Int)):Rat×Rat));let y15:=hid (enc (atP (dec y14)));let y16:=hid (enc (mkR (ae (hid y8)) (ae y10) (ae y11)));match decide (fw (0:Int) (1:Int)∧fw (1:Int) (1:Int))with|true=>(match decide (fw ((-1):Int) (1:Int)∧fw (0:Int) (1:Int))with|true=>(match decide (fw (0:Int) (1:Int)∧fw ((-1):Int) (1:Int))with|true=>(match decide (ok (Rat×Rat) 100 y1∧ok (Rat×Rat) 100 y2∧ok (Rat×Rat) 100 y3)with|true=>(match decide (fw ((-4):Int) (2:Int)∧fw (1:Int) (2:Int))with|true=>(match decide (fw (4:Int) (2:Int)∧fw (1:Int) (2:Int))with|true=>(match decide (ok (Rat×Rat) 100 y4∧ok (Rat×Rat) 100 y5)with|true=>(match decide (dQ y6 y7)with|true=>(match decide (bU (0:Int))with|true=>(match decide (bU (0:Int))with|true=>(match decide (bU (2:Int))with|true=>(match decide (bW (hid y8,(hid y8,hid (ai ((2:Int):Rat)))))with|true=>(match(oK (dec y1) (dec y2) (dec y3)) !=0 with|true=>some [RV.d .bool false]|false=>(match(oI (dec y4) (dec y5)) !=0 with|true=>some [RV.d .bool false]|false=>(match((bL y6 y7).length:Int) !=1 with|true=>some [RV.d .bool false]|false=>(match gZ y6 y7 with|true=>some [RV.d .bool false]|false=>(match(y9.length:Int) !=2 with|true=>some [RV.d .bool false]|false=>(match decide (bU (0:Int))with|true=>(match decide (fw ((-1):Int) (2:Int))with|true=>(match decide (bU (3:Int))with|true=>(match decide (ok Rat 100000 (hid y8)∧ok Rat 100000 y10∧ok Rat 100000 y11∧0≤ae y11)with|true=>(match bi y9 0 with|some x1=>(match bi y9 1 with|some x2=>(match decide (dQ x1 x2)with|true=>(match !((((y7.2).2).2).1)with|true=>(match decide (fw ((-3):Int) (5:Int)∧fw (4:Int) (5:Int))with|true=>(match decide (ok (Rat×Rat) 100000 y12)with|true=>(match decide (okC 4000 y7∧okP 4000 y13)with|true=>(match onP (dC y7) (dec y13)with|true=>(match decide (fw (1:Int) (1:Int)∧fw (0:Int) (1:Int))with|true=>(match decide (ok (Rat×Rat) 100000 y14)with|true=>(match decide (okC 4000 y7∧okP 4000 y15)with|true=>(match !(onP (dC y7) (dec y15))with|true=>(match bi (bL y6 y7) 0 with|some x3=>(match decide (okP 4000 x3)with|true=>(match decide (okT 15000 (hid (enc (xP (dec x3))))∧okT 15000 y16)with|true=>(match bS (dec (hid (enc (xP (dec x3))))) (dec y16)==0 with|true=>(match((bL x1 x2).length:Int)==2 with|true=>some [RV.d .bool (!(gZ x1 x2))]|false=>some [RV.d .bool false])|false=>some [RV.d .bool false])|false=>none)|false=>none)|none=>none)|false=>some [RV.d .bool false])|false=>none)|false=>none)|false=>none)|false=>some [RV.d .bool false])|false=>none)|false=>none)|false=>none)|false=>some [RV.d .bool false])|false=>none)|none=>none)|none=>none)|false=>none)|false=>none)|false=>none)|false=>none))))))|false=>none)|false=>none)|false=>none)|false=>none)|false=>none)|false=>none)|false=>none)|false=>none)|false=>none)|false=>none)|false=>none)|false=>none
theorem ani:RS apH 10 [] (afj):=rsX
theorem acX:Con Tryz.prog 10 [] [.d .bool true]:=by
 have rX:Rpd pX0:=by have:=kM aqM;rwa [aq]at this
 obtain⟨v0,e0,bX,_⟩:=dz aqM
 have e0:v0=pX0:=by have:=congrArg (dec:BP→Pt) e0;rwa [aq,aq,eq_comm]at this
 rw[e0]at bX
 have b0:=bI 0 (by decide)
 have b3:=bI 3 (by decide)
 have bh:=bQ (-1) 2 (by decide)
 have nn3:Nn ((3:Int):Rat):=⟨by decide+kernel⟩
 have v1:=bV 0 1 1 1 (by decide) (by decide)
 have v2:=bV (-1) 1 0 1 (by decide) (by decide)
 have v3:=bV 0 1 (-1) 1 (by decide) (by decide)
 have v4:=bV (-4) 2 1 2 (by decide) (by decide)
 have v5:=bV 4 2 1 2 (by decide) (by decide)
 have v6:=bV (-3) 5 4 5 (by decide) (by decide)
 have v7:=bV 1 1 0 1 (by decide) (by decide)
 have k01:decide (fw 0 1)=true:=by decide
 have k11:decide (fw 1 1)=true:=by decide
 have km1:decide (fw (-1) 1)=true:=by decide
 have km4:decide (fw (-4) 2)=true:=by decide
 have k12:decide (fw 1 2)=true:=by decide
 have k42:decide (fw 4 2)=true:=by decide
 have kmh:decide (fw (-1) 2)=true:=by decide
 have k35:decide (fw (-3) 5)=true:=by decide
 have k45:decide (fw 4 5)=true:=by decide
 have i0:decide (bU 0)=true:=by decide
 have i2:decide (bU 2)=true:=by decide
 have i3:decide (bU 3)=true:=by decide
 have ea:=ar1
 have es:=apu
 have ef:=apb
 have sa:oK uA1 uA2 uA3=0:=by decide+kernel
 have ss:oI uS1 uS2=0:=by decide+kernel
 have el:((ai ((0:Int):Rat),(ai ((0:Int):Rat),ai ((2:Int):Rat))):BO3)=enc lC2:=rfl
 have kcs:decide (bW (enc lC2))=true:=dT ajo
 have kSA:decide (dQ xS xA)=true:=dT ⟨afu,Uz⟩
 have kFG:decide (dQ xF xG)=true:=dT ⟨agF.1,af1.1⟩
 have kA:decide (okC 4000 xA)=true:=dT (ck Uz.1 (by decide) (by decide))
 have o1:onP qA (atP uO1)=true:=by decide+kernel
 have o2:onP qA (atP uO2)=false:=by decide+kernel
 have h3:decide (0≤((3:Int):Rat))=true:=by decide+kernel
 have cX:bS (xP pX0) (mkR ((0:Int):Rat) (Rat.divInt (-1) 2) ((3:Int):Rat))=0:=by decide+kernel
 have g0:bi [xF,xG] 0=some xF:=rfl
 have g1:bi [xF,xG] 1=some xG:=rfl
 have g2:bi [enc pX0] 0=some (enc pX0):=rfl
 have hcw:xA.2.2.2.1=false:=rfl
 have lFG:(((FF qF qG).map (enc:Pt→BP)).length:Int)=2:=by rw[awj,at7];rfl
 refine aO O3 (ani ⟨0,?_⟩)
 unfold afj
 simp only[am,aq,az,okd,aD,auR,auT,mx,Nat.reduceAdd,Nat.reduceLeDiff,au2,auX,cond_true,cond_false,bH,bG,k01,k11,km1,km4,k12,k42,kmh,k35,k45,i0,i2,i3,ea,es,el,ef,sa,ss,kcs,kSA,kFG,kA,api,aus,aoS,atK,g0,g1,g2,hcw,E4,o1,o2,h3,cX,lFG,avc,axQ]
 rfl
def Ix:aM:=spN true true [] (fun _=>true) (fun _=>[RV.d .bool true])
theorem HJ:SpK 10 Ix:=spX fun _ _=>acX
end
section
open Go.ChangeShapes Go.WideShapes Go.ChangeAt Go.WideMaps Go.WideElems Go.RowKit
theorem GM:ownKnob Tryz.prog.godebug=none:=by kernel_rfl
def Ty.ok:(t:Ty)→t.D→Prop
 |.int k,x=>(Lit.int k x).wf=true
 |.bool,_=>True
 |.str,_=>True
 |.sl e,xs=>xs.length≤9223372036854775807∧∀x∈xs,e.ok x
 |.pair a b,x=>a.ok x.1∧b.ok x.2
 |.st a,x=>a.ok x
def ww(rp:TypeId→Ty→Bool)(cells:TypeId→Nat):List Field→Ty→Nat→Bool
 |[],_,_=>false
 |[f],a,off=>rp f.type a&&Nat.beq f.offset off&&Nat.beq (cells f.type) a.n
 |f::g::fs,.pair a b,off=>rp f.type a&&Nat.beq f.offset off&&Nat.beq (cells f.type) a.n&&ww rp cells (g::fs) b (off+a.n)
 |_,_,_=>false
def F4(rp:Ty→Bool)(n:Nat):Nat→Ty→Bool
 |0,_=>false
 |1,a=>rp a&&Nat.beq a.n n
 |k+2,.pair a b=>rp a&&Nat.beq a.n n&&F4 rp n (k+1) b
 |_,_=>false
def rep(P:Program):Nat→TypeId→Ty→Bool
 |0,_,_=>false
 |n+1,t,ty=>match P.underlying t,ty with
  |some (.int k),.int k'=>decide (k=k')
  |some .bool,.bool=>true
  |some .string,.str=>true
  |some (.slice e),.sl ety=>rep P n e ety&&Nat.beq (P.cellsOf e) ety.n&&Nat.ble 1 ety.n
  |some (.struct fs),.st a=>ww (rep P n) P.cellsOf fs.toList a 0&&Nat.beq (P.cellsOf t) a.n
  |some (.array k e),.st a=>F4 (rep P n e) (P.cellsOf e) k a&&Nat.beq (P.cellsOf t) a.n
  |_,_=>false
theorem aeC{w:World}{a:Addr}{v:Value}(h:w.cell? a=some v):a.block<w.heap.size∧a.spot=none:=by
 unfold World.cell? at h
 split at h
 ·rename_i hb
  refine⟨(au7.1 hb).1,?_⟩
  split at h
  ·cases h
  ·rename_i hn;simpa using hn
 ·cases h
theorem GR{α β:Type}{f:α→Option β}:∀{l:List α} {r:List β},l.mapM f=some r→r.length=l.length∧∀(j:Nat) (y:β),r[j]?=some y→∃x,l[j]?=some x∧f x=some y
 |[],r,h=>by simp at h;subst h;simp
 |x::l,r,h=>by
  rw[List.mapM_cons]at h
  cases hx:f x with
  |none=>rw[hx]at h;simp at h
  |some y=>
   rw[hx]at h
   cases hl:l.mapM f with
   |none=>rw[hl]at h;simp at h
   |some r'=>
    rw[hl]at h
    obtain rfl:y::r'=r:=by simpa using h
    obtain⟨h1,h2⟩:=GR hl
    refine⟨by simp[h1],fun j z hz=>?_⟩
    cases j with
    |zero=>exact⟨x,rfl,by simpa [hx]using hz⟩
    |succ j=>obtain⟨u,h3,h4⟩:=h2 j z (by simpa using hz);exact⟨u,by simpa using h3,h4⟩
theorem PM{w:World}{base n:Nat}{a:Addr}{l:List Value}(h:w.cells? base a n=some l):l.length=n∧∀(j:Nat) (v:Value),l[j]?=some v→w.cell? (a.add j)=some v:=by
 unfold World.cells? at h
 split at h
 ·obtain⟨h1,h2⟩:=GR h
  refine⟨by simpa using h1,fun j v hv=>?_⟩
  obtain⟨x,h3,h4⟩:=h2 j v hv
  obtain⟨h5,h6⟩:=au1.1 h3
  rw[List.getElem_range]at h6
  rw[h6];exact h4
 ·cases h
theorem WY{α β:Type}{n:Nat}{p:Nat→α→β→Prop}(h:∀i,i<n→∃s t,p i s t):∃(l:List α) (m:List β),l.length=n∧m.length=n∧∀i s t,l[i]?=some s→m[i]?=some t→p i s t:=by
 induction n with
 |zero=>exact⟨[],[],rfl,rfl,fun i s t h=>by simp at h⟩
 |succ n ih=>
  obtain⟨l,m,h1,h2,h3⟩:=ih fun i hi=>h i (by omega)
  obtain⟨s,t,hst⟩:=h n (by omega)
  refine⟨l++[s],m++[t],by simp[h1],by simp[h2],fun i s' t' hs ht=>?_⟩
  rcases avo i n with hi|hi
  ·rw[au8 (by omega)]at hs ht
   exact h3 i s' t' hs ht
  ·rw[au9 (by omega)]at hs ht
   have e:i=n:=by
    have:=(au1.1 hs).1
    simp at this
    omega
   subst e
   rw[h1,awr]at hs
   rw[h2,awr]at ht
   simp at hs ht
   subst hs ht
   exact hst
section
variable {H:Type} {enc:TypeId×Value→H} {P:Program} {w:World} {base:Nat} {spare:Nat→Bool} {held:Bool}
def R1(enc:TypeId×Value→H)(P:Program)(w:World)(base:Nat)(spare:Nat→Bool)(held:Bool)(ty:Ty):Prop:=∀(n:Nat) (t:TypeId),rep P n t ty=true→∀(fuel:Nat) (cs:List Value) (x:DataW H×List MemPlace),cs.length=ty.n→DataW.trod enc P w base spare held fuel t cs=some x→∃y:ty.D,ty.rd (fun _=>True) w cs y∧ty.ok y
def R2(enc:TypeId×Value→H)(P:Program)(w:World)(base:Nat)(spare:Nat→Bool)(held:Bool)(ty:Ty):Prop:=∀(n:Nat) (fs:List Field) (off:Nat) (cs:List Value),ww (rep P n) P.cellsOf fs ty off=true→cs.length=ty.n→(∀f∈fs,off≤f.offset→∃fuel x,DataW.trod enc P w base spare held fuel f.type ((cs.drop (f.offset-off)).take (P.cellsOf f.type))=some x)→∃y:ty.D,ty.rd (fun _=>True) w cs y∧ty.ok y
def R3(enc:TypeId×Value→H)(P:Program)(w:World)(base:Nat)(spare:Nat→Bool)(held:Bool)(ty:Ty):Prop:=∀(n k:Nat) (e:TypeId) (cs:List Value),F4 (rep P n e) (P.cellsOf e) k ty=true→cs.length=ty.n→(∀i,i<k→∃fuel x,DataW.trod enc P w base spare held fuel e ((cs.drop (i*P.cellsOf e)).take (P.cellsOf e))=some x)→∃y:ty.D,ty.rd (fun _=>True) w cs y∧ty.ok y
theorem aoB{ty:Ty}(h1:R1 enc P w base spare held ty)(hp:∀(n:Nat) (f g:Field) (fs:List Field) (off:Nat) (cs:List Value),ww (rep P n) P.cellsOf (f::g::fs) ty off=true→cs.length=ty.n→(∀q∈f::g::fs,off≤q.offset→∃fuel x,DataW.trod enc P w base spare held fuel q.type ((cs.drop (q.offset-off)).take (P.cellsOf q.type))=some x)→∃y:ty.D,ty.rd (fun _=>True) w cs y∧ty.ok y):R2 enc P w base spare held ty:=by
 intro n fs off cs hr hl hf
 match fs,hr,hf with
 |[],hr,_=>simp[ww]at hr
 |[f],hr,hf=>
  simp only[ww,auW]at hr
  have ho:=auV hr.1.2
  have hc:=auV hr.2
  obtain⟨fuel,x,hx⟩:=hf f (by simp) (by omega)
  rw[ho,awr,hc,vL _ _ hl]at hx
  exact h1 n f.type hr.1.1 fuel cs x hl hx
 |f::g::fs,hr,hf=>exact hp n f g fs off cs hr hl hf
theorem aqk{ty:Ty}(h1:R1 enc P w base spare held ty)(hp:∀(n k:Nat) (e:TypeId) (cs:List Value),F4 (rep P n e) (P.cellsOf e) (k+2) ty=true→cs.length=ty.n→(∀i,i<k+2→∃fuel x,DataW.trod enc P w base spare held fuel e ((cs.drop (i*P.cellsOf e)).take (P.cellsOf e))=some x)→∃y:ty.D,ty.rd (fun _=>True) w cs y∧ty.ok y):R3 enc P w base spare held ty:=by
 intro n k e cs hr hl hf
 match k,hr,hf with
 |0,hr,_=>simp[F4]at hr
 |1,hr,hf=>
  simp only[F4,auW]at hr
  have hc:=auV hr.2
  obtain⟨fuel,x,hx⟩:=hf 0 (by omega)
  rw[Nat.zero_mul,←hc,vL _ _ hl]at hx
  exact h1 n e hr.1 fuel cs x hl hx
 |k+2,hr,hf=>exact hp n k e cs hr hl hf
theorem abE:∀(ty:Ty),R1 enc P w base spare held ty∧R2 enc P w base spare held ty∧R3 enc P w base spare held ty:=by
 intro ty
 have oU:∀{ty:Ty},(∀a b,ty≠.pair a b)→R1 enc P w base spare held ty→R1 enc P w base spare held ty∧R2 enc P w base spare held ty∧R3 enc P w base spare held ty:=by
  intro ty hne h1
  refine⟨h1,aoB h1 fun n f g fs off cs hr=>?_,aqk h1 fun n k e cs hr=>?_⟩
  ·cases ty<;>first|exact absurd rfl (hne _ _)|simp[ww]at hr
  ·cases ty<;>first|exact absurd rfl (hne _ _)|simp[F4]at hr
 induction ty with
 |int k=>
  refine oU (fun a b e=>by cases e) fun n t hr fuel cs x hl hx=>?_
  cases n with
  |zero=>simp[rep]at hr
  |succ n=>
   unfold rep at hr
   split at hr<;>try (cases hr;done)
   all_goals rename_i hu he<;>cases he
   have:=auN hr
   subst this
   obtain⟨m,rfl,_,hw⟩:=DataW.trod_int hu hx
   exact⟨m,rfl,hw⟩
 |bool=>
  refine oU (fun a b e=>by cases e) fun n t hr fuel cs x hl hx=>?_
  cases n with
  |zero=>simp[rep]at hr
  |succ n=>
   unfold rep at hr
   split at hr<;>try (cases hr;done)
   all_goals rename_i hu he<;>cases he
   obtain⟨m,rfl,_⟩:=DataW.trod_bool hu hx
   exact⟨m,rfl,trivial⟩
 |str=>
  refine oU (fun a b e=>by cases e) fun n t hr fuel cs x hl hx=>?_
  cases n with
  |zero=>simp[rep]at hr
  |succ n=>
   unfold rep at hr
   split at hr<;>try (cases hr;done)
   all_goals rename_i hu he<;>cases he
   cases fuel with
   |zero=>simp[DataW.trod]at hx
   |succ fuel=>
    unfold DataW.trod at hx
    rw[hu]at hx
    split at hx<;>simp_all
    exact⟨_,rfl,trivial⟩
 |sl e ih=>
  refine oU (fun a b e=>by cases e) fun n t hr fuel cs x hl hx=>?_
  cases n with
  |zero=>simp[rep]at hr
  |succ n=>
   unfold rep at hr
   split at hr<;>try (cases hr;done)
   all_goals rename_i hu he<;>cases he
   simp only[auW]at hr
   obtain⟨⟨r1,r2⟩,r3⟩:=hr
   have hc:=auV r2
   have hn0:=auZ r3
   rcases Deep.open_slice hu hx with⟨rfl,_⟩|⟨a,len,cap,m,nn,D,Pl,rfl,hb,hle,hcap,hm,_,hel⟩
   ·exact⟨[],Al,by simp,fun x hx=>by simp at hx⟩
   ·have hlm:len≤m:=by rw[hm];split<;>omega
    have key:∀i,i<len→∃(l:List Value) (y:e.D),(e.rd (fun _=>True) w l y∧e.ok y)∧∀j v,l[j]?=some v→w.cell? ((a.add (i*e.n)).add j)=some v:=by
     intro i hi
     obtain⟨cs',h1,h2⟩:=hel i (by omega)
     rw[hc]at h1
     obtain⟨h3,h4⟩:=PM h1
     obtain⟨y,h5⟩:=ih.1 n _ r1 nn cs' _ h3 h2
     exact⟨cs',y,h5,h4⟩
    obtain⟨css,ys,l1,l2,hk⟩:=WY key
    have hall:cM (fun l y=>e.rd (fun _=>True) w l y) css ys:=LO (by omega) fun i l y h1 h2=>(hk i l y h1 h2).1.1
    refine⟨ys,⟨some a,len,cap,css,rfl,l2,hle,hcap,hall,fun h0=>?_⟩,by unfold maxLen at hcap;omega,fun y hy=>?_⟩
    ·obtain⟨l0,hl0⟩:∃l,css[0]?=some l:=⟨_,auP (by omega)⟩
     obtain⟨y0,hy0,hrd0⟩:=iL hall 0 l0 hl0
     have hlen0:=Ty.rd_len hrd0
     obtain⟨v0,hv0⟩:∃v,l0[0]?=some v:=⟨_,auP (by omega)⟩
     have hc0:=(hk 0 l0 y0 hl0 hy0).2 0 v0 hv0
     have e0:(a.add (0*e.n)).add 0=a:=by simp[Addr.add]
     rw[e0]at hc0
     obtain⟨h1,h2⟩:=aeC hc0
     obtain⟨b,off,sp⟩:=a
     dsimp only at h1 h2
     subst h2
     refine⟨b,off,rfl,trivial,h1,fun i v hv=>?_⟩
     have hls:=fW hall
     have hi:i<css.flatten.length:=(au1.1 hv).1
     rw[gV hls,l1]at hi
     have hq:i/e.n<len:=Nat.div_lt_of_lt_mul (by rw[Nat.mul_comm];exact hi)
     obtain⟨l,hl⟩:∃l,css[i/e.n]?=some l:=⟨_,auP (by omega)⟩
     obtain⟨y,hy,hrd⟩:=iL hall _ l hl
     have hmod:i%e.n<e.n:=axI _ hn0
     obtain⟨u,hu'⟩:∃u,l[i%e.n]?=some u:=⟨_,auP (by rw[Ty.rd_len hrd];exact hmod)⟩
     have hfl:=lO hls hl hu'
     have hdm:i/e.n*e.n+i%e.n=i:=by rw[Nat.mul_comm];exact Nat.div_add_mod i e.n
     rw[hdm,hv]at hfl
     injection hfl with hfl
     subst hfl
     have:=(hk _ l y hl hy).2 _ _ hu'
     rw[dS,dS]at this
     rwa [awy,hdm]at this
    ·obtain⟨i,hi,rfl⟩:=axd hy
     obtain⟨l,hl,_⟩:=oZ hall i _ (auP hi)
     exact(hk i l _ hl (auP hi)).1.2
 |st a ih=>
  refine oU (fun a b e=>by cases e) fun n t hr fuel cs x hl hx=>?_
  cases n with
  |zero=>simp[rep]at hr
  |succ n=>
   unfold rep at hr
   split at hr<;>try (cases hr;done)
   all_goals rename_i hu he<;>cases he
   ·simp only[auW]at hr
    obtain⟨xs,k,rfl,_,_,hlen,hg⟩:=DataW.trod_struct hu hx
    refine ih.2.1 n _ 0 cs hr.1 hl fun f hf _=>?_
    obtain⟨i,hi,rfl⟩:=axd hf
    rename_i fs
    have h1:=hg i _ (by rw[←avY];exact auP hi)
    obtain⟨y,hy⟩:∃y,xs[i]?=some y:=⟨_,auP (by rw[hlen];simpa using hi)⟩
    rw[hy]at h1
    exact⟨k,y,by rw[axJ];exact h1⟩
   ·simp only[auW]at hr
    obtain⟨xs,k,rfl,_,_,hlen,hg⟩:=DataW.trod_array hu hx
    refine ih.2.2 n _ _ cs hr.1 hl fun i hi=>?_
    have h1:=hg i hi
    obtain⟨y,hy⟩:∃y,xs[i]?=some y:=⟨_,auP (by rw[hlen];exact hi)⟩
    rw[hy]at h1
    exact⟨k,y,h1⟩
 |pair a b iha ihb=>
  have h1:R1 enc P w base spare held (.pair a b):=by
   intro n t hr
   cases n with
   |zero=>simp[rep]at hr
   |succ n=>
    unfold rep at hr
    split at hr<;>first|(cases hr;done)|(rename_i he;cases he)
  have cut:∀{cs:List Value} {k m:Nat},cs.length=a.n+b.n→((cs.drop a.n).drop k).take m=(cs.drop (a.n+k)).take m:=fun _=>by rw[ax1]
  refine⟨h1,aoB h1 fun n f g fs off cs hr hl hf=>?_,aqk h1 fun n k e cs hr hl hf=>?_⟩
  ·simp only[ww,auW]at hr
   obtain⟨⟨⟨r1,r2⟩,r3⟩,r4⟩:=hr
   have ho:=auV r2
   have hc:=auV r3
   simp only[Ty.n]at hl
   obtain⟨fuel,x,hx⟩:=hf f (by simp) (by omega)
   rw[ho,awr,hc,awv]at hx
   obtain⟨y1,k1,k2⟩:=iha.1 n f.type r1 fuel (cs.take a.n) x (by simp;omega) hx
   obtain⟨y2,k3,k4⟩:=ihb.2.1 n (g::fs) (off+a.n) (cs.drop a.n) r4 (by simp;omega) fun q hq hle=>by
    obtain⟨fuel,x,hx⟩:=hf q (by simp only[au5]at hq ⊢;exact .inr hq) (by omega)
    refine⟨fuel,x,?_⟩
    rw[ax1,show a.n+(q.offset-(off+a.n))=q.offset-off by omega]
    exact hx
   exact⟨(y1,y2),⟨_,_,(awg a.n cs).symm,k1,k3⟩,k2,k4⟩
  ·simp only[F4,auW]at hr
   obtain⟨⟨r1,r2⟩,r3⟩:=hr
   have hc:=auV r2
   simp only[Ty.n]at hl
   obtain⟨fuel,x,hx⟩:=hf 0 (by omega)
   rw[Nat.zero_mul,awv,←hc]at hx
   obtain⟨y1,k1,k2⟩:=iha.1 n e r1 fuel (cs.take a.n) x (by simp;omega) hx
   obtain⟨y2,k3,k4⟩:=ihb.2.2 n (k+1) e (cs.drop a.n) r3 (by simp;omega) fun i hi=>by
    obtain⟨fuel,x,hx⟩:=hf (i+1) (by omega)
    refine⟨fuel,x,?_⟩
    rw[ax1,hc,show P.cellsOf e+i*P.cellsOf e=(i+1)*P.cellsOf e by rw[awJ];omega]
    exact hx
   exact⟨(y1,y2),⟨_,_,(awg a.n cs).symm,k1,k3⟩,k2,k4⟩
end
end
theorem Bk{n:Int}(h:Ty.ok (.int .i8) n):i8P n:=bounds_i8 h
theorem QY{n:Int}(h:Ty.ok (.int .u8) n):u8P n:=bounds_u8 h
theorem ag1{x:Dr}(h:Ty.ok tDr x):AG x:=⟨QY h.1,QY h.2.1,Bk h.2.2.1,Bk h.2.2.2.1,Bk h.2.2.2.2.1,Bk h.2.2.2.2.2.1,Bk h.2.2.2.2.2.2.1,Bk h.2.2.2.2.2.2.2⟩
theorem EN{x:Pce}(h:Ty.ok ls x):uD x:=⟨ag1 h.1,ag1 h.2.1,QY h.2.2⟩
theorem lI{c d:BCU}(h:dQ c d):(bL c d).length≤4∧∀x∈bL c d,okP 4000 x:=by
 obtain⟨h1,h2⟩:=tz h
 have h3:(bL c d).length≤((iq c d).filter (gc c d)).length:=mB
 have h4:=List.length_filter_le (gc c d) (iq c d)
 exact⟨by omega,fun x hx=>h2 x (awk.1 (eL hx)).1⟩
theorem am3{c d:BCU}(h:dQ c d):yW (bL c d) (rE c d):=by
 obtain⟨h1,h2⟩:=lI h
 obtain⟨h3,h4⟩:=Dm h
 exact⟨by omega,h2,fun x hx=>db (h4 x hx).1 (by decide) (by decide)⟩
theorem HY{c d e:BCU}(hc:okC 500 c)(h:dQ d e):rP c (bL d e):=by
 obtain⟨h1,h2⟩:=lI h
 exact⟨ck hc (by decide) (by decide),by omega,h2⟩
section
namespace RE
theorem at6(A B x y m:RE):B*(m*(B*x-A*y))=m*(B*B*x+A*(A*x)-A*(A*x+B*y)):=by
 induction A using auM
 induction B using auM
 induction x using auM
 induction y using auM
 induction m using auM
 exact snd fun n=>by
  simp only[RL.add,RL.mul,RL.neg]
  grind
theorem aui(A B x y m:RE): -A*(m*(B*x-A*y))=m*(A*A*y+B*(B*y)-B*(A*x+B*y)):=by
 induction A using auM
 induction B using auM
 induction x using auM
 induction y using auM
 induction m using auM
 exact snd fun n=>by
  simp only[RL.add,RL.mul,RL.neg]
  grind
theorem at4(A B x y a b:RE):A*(x-a)+B*(y-b)=(A*x+B*y)-(A*a+B*b):=by
 induction A using auM
 induction B using auM
 induction x using auM
 induction y using auM
 induction a using auM
 induction b using auM
 exact snd fun n=>by
  simp only[RL.add,RL.mul,RL.neg]
  grind
theorem atr(A x m B:RE):m*(B*B*x+A*(A*x)-A*0)=m*(A*A+B*B)*x:=by
 induction A using auM
 induction x using auM
 induction m using auM
 induction B using auM
 exact snd fun n=>by
  simp only[RL.add,RL.mul,RL.neg,RL.const]
  grind
theorem atS(A y m B:RE):m*(A*A*y+B*(B*y)-B*0)=m*(A*A+B*B)*y:=by
 induction A using auM
 induction y using auM
 induction m using auM
 induction B using auM
 exact snd fun n=>by
  simp only[RL.add,RL.mul,RL.neg,RL.const]
  grind
theorem aup(f g u v s p q:RE):(f+u*s-p)*(f+u*s-p)+(g+v*s-q)*(g+v*s-q)=((f-p)*(f-p)+(g-q)*(g-q))+((f-p)*u+(g-q)*v)*s+((f-p)*u+(g-q)*v)*s+(u*u+v*v)*(s*s):=by
 induction f using auM
 induction g using auM
 induction u using auM
 induction v using auM
 induction s using auM
 induction p using auM
 induction q using auM
 exact snd fun n=>by
  simp only[RL.add,RL.mul,RL.neg]
  grind
theorem atz(a b:RE):(a-b)*(a+b)=a*a-b*b:=by
 induction a using auM
 induction b using auM
 exact snd fun n=>by
  simp only[RL.add,RL.mul,RL.neg]
  grind
theorem aq6(x f:RE):f+(x-f)=x:=by
 induction x using auM
 induction f using auM
 exact snd fun n=>by
  simp only[RL.add,RL.neg]
  grind
theorem atU(s u f:RE):f+u* -s=f+ -u*s:=by
 induction s using auM
 induction u using auM
 induction f using auM
 exact snd fun n=>by
  simp only[RL.add,RL.mul,RL.neg]
  grind
theorem atN(x y p q a b m n:RE):((1+1)*(p-a))*x+((1+1)*(q-b))*y=(((x-a)*(x-a)+(y-b)*(y-b))-m)-(((x-p)*(x-p)+(y-q)*(y-q))-n)+((p*p+q*q-n)-(a*a+b*b-m)):=by
 induction x using auM
 induction y using auM
 induction p using auM
 induction q using auM
 induction a using auM
 induction b using auM
 induction m using auM
 induction n using auM
 exact snd fun n=>by
  simp only[RL.add,RL.mul,RL.neg,RL.const]
  grind
theorem atF(m n a b:RE):(m-m)-(n-n)+(b-a)=b-a:=by
 induction m using auM
 induction n using auM
 induction a using auM
 induction b using auM
 exact snd fun n=>by
  simp only[RL.add,RL.neg]
  grind
theorem atj(d k:RE):d+k-d=k:=by
 induction d using auM
 induction k using auM
 exact snd fun n=>by
  simp only[RL.add,RL.neg]
  grind
theorem UD(a b:RE):a- -b=a+b:=by
 induction a using auM
 induction b using auM
 exact snd fun n=>by
  simp only[RL.add,RL.neg]
  grind
theorem wr{x y:RE}(h:x*y=0):x=0∨y=0:=by
 rcases lt_lin.tri x 0 with a|a|a
 ·rcases lt_lin.tri y 0 with b|b|b
  ·have e:=mc x y
   rw[h,eP,jN a,jN b]at e
   exact absurd e (by decide)
  ·exact .inr b
  ·have e:=mc x y
   rw[h,eP,jN a,gv b]at e
   exact absurd e (by decide)
 ·exact .inl a
 ·rcases lt_lin.tri y 0 with b|b|b
  ·have e:=mc x y
   rw[h,eP,gv a,jN b]at e
   exact absurd e (by decide)
  ·exact .inr b
  ·have e:=mc x y
   rw[h,eP,gv a,gv b]at e
   exact absurd e (by decide)
section
variable {l c:Ln}
theorem akD(hl:l.1≠0∨l.2.1≠0){v:PE}(h1:oJ l v)(h2:pz c v):∃p∈jY l c,pR p=v:=by
 have hn:=nw hl
 have t0:vlL l c.1 c.2.1/cK l*cK l=vlL l c.1 c.2.1:=avN hn
 have e1:l.1*ftX l c+l.2.1*ftY l c=l.2.2:=by
  unfold ftX ftY
  generalize vlL l c.1 c.2.1/cK l=s at*
  unfold cK vlL at t0
  grind
 have e3:(ftX l c-c.1)*l.2.1+(ftY l c-c.2.1)* -l.1=0:=by
  unfold ftX ftY
  grind
 have k0:dZ l c*cK l=c.2.2-yG l c:=avN hn
 have hz:of l.1*(v.1-of (ftX l c))+of l.2.1*(v.2-of (ftY l c))=0:=by
  unfold oJ at h1
  rw[at4,h1,←bR,←bR,←of_add,e1,sub_self]
 have hm:of (cK l)⁻¹*(of l.1*of l.1+of l.2.1*of l.2.1)=1:=by
  rw[←bR,←bR,←of_add,←bR,←EQ]
  exact congrArg of (Rat.inv_mul_cancel _ hn)
 obtain⟨t,ht⟩:∃t,t=of (cK l)⁻¹*(of l.2.1*(v.1-of (ftX l c))-of l.1*(v.2-of (ftY l c))):=⟨_,rfl⟩
 have w1:of l.2.1*t=v.1-of (ftX l c):=by rw[ht,at6,hz,atr,hm,one_mul]
 have w2: -of l.1*t=v.2-of (ftY l c):=by rw[ht,aui,hz,atS,hm,one_mul]
 have v1:v.1=of (ftX l c)+of l.2.1*t:=by rw[w1,aq6]
 have v2':v.2=of (ftY l c)+of (-l.1)*t:=by rw[of_neg,w2,aq6]
 have hq:of (cK l)*(t*t)=of (dZ l c*cK l):=by
  have h2':=h2
  unfold pz frm at h2'
  dsimp only at h2'
  rw[v1,v2',aup,←of_sub,←of_sub,←bR,←bR,←bR,←bR,←bR,←bR,←of_add,←of_add,←of_add,e3,qX,zero_mul,add_zero,add_zero,show l.2.1*l.2.1+ -l.1* -l.1=cK l by unfold cK;grind]at h2'
  have e4:(ftX l c-c.1)*(ftX l c-c.1)+(ftY l c-c.2.1)*(ftY l c-c.2.1)=yG l c:=rfl
  rw[e4]at h2'
  rw[k0,of_sub,←h2']
  rw[atj]
 have tt:t*t=of (dZ l c):=vO hn (by rw[hq,←bR,awM])
 have kn:0≤dZ l c:=by
  rcases(by grind:0≤dZ l c∨dZ l c<0)with h|h
  ·exact h
  ·have:=jz h
   rw[←tt]at this
   exact absurd this (Dp t)
 have dd:(rn l=l.2.1∧rF l= -l.1)∨(rn l= -l.2.1∧rF l=l.1):=by
  unfold rn rF
  cases JI l
  ·exact .inl ⟨rfl,rfl⟩
  ·exact .inr ⟨rfl,ax0 _⟩
 have hv:t=rq (dZ l c)∨t= -rq (dZ l c):=by
  have hs:=pV kn
  have:(t-rq (dZ l c))*(t+rq (dZ l c))=0:=by rw[atz,tt,hs,sub_self]
  rcases wr this with h|h
  ·exact .inl (Cc _ _ h)
  ·refine .inr (Cc _ _ ?_)
   rw[←h,UD]
 unfold jY
 rw[dF (show ¬dZ l c<0 by grind)]
 by_cases hk0:dZ l c=0
 ·rw[dT hk0]
  refine⟨atP (ftL l c),by simp,?_⟩
  have t00:t=0:=by
   rw[hk0,qX]at tt
   rcases wr tt with h|h<;>exact h
  rw[wv]
  refine axg ?_ ?_
  ·rw[v1,t00,mul_zero,add_zero];rfl
  ·rw[v2',t00,mul_zero,add_zero];rfl
 ·rw[dF hk0]
  have neg2:∀f u:Rat,v2 f (-u) (dZ l c)=of f+of u* -rq (dZ l c):=fun f u=>by
   unfold v2
   rw[of_neg,atU]
  rcases dd with⟨g1,g2⟩|⟨g1,g2⟩<;>rcases hv with ht'|ht'
  ·refine⟨lcN l c,by simp,?_⟩
   unfold lcN
   rw[pO,g1,g2]
   exact axg (by rw[v1,ht'];rfl) (by rw[v2',ht'];rfl)
  ·refine⟨lcM l c,by simp,?_⟩
   unfold lcM
   rw[pO,g1,g2,neg2,neg2]
   exact axg (by rw[v1,ht']) (by rw[v2',ht'])
  ·refine⟨lcM l c,by simp,?_⟩
   unfold lcM
   rw[pO,g1,g2,ax0]
   exact axg (by rw[v1,ht'];rfl) (by rw[v2',ht'];rfl)
  ·refine⟨lcN l c,by simp,?_⟩
   unfold lcN
   rw[pO,g1,g2]
   refine axg ?_ ?_
   ·show v2 _ (-l.2.1) _=_
    rw[neg2,v1,ht']
   ·show v2 _ l.1 _=_
    rw[v2',ht',show l.1= -(-l.1) from(ax0 _).symm,neg2,ax0]
end
theorem akz{c d:Ln}{v:PE}(hc:pz c v)(hd:pz d v):oJ (ms c d) v:=by
 have o2:of 2=1+1:=by
  rw[←EQ,←of_add]
  exact congrArg of (by decide+kernel)
 unfold pz frm at hc hd
 unfold oJ ms oW
 dsimp only at*
 simp only[of_sub,bR,of_add,o2]
 rw[atN v.1 v.2 (of d.1) (of d.2.1) (of c.1) (of c.2.1) (of c.2.2) (of d.2.2),hc,hd,atF]
end RE
end
section
open RE
theorem MW(c d:Ln):gi d c=gi c d:=by
 unfold gi
 have e1:decide (d.1=c.1)=decide (c.1=d.1):=awl.2 eq_comm
 have e2:decide (d.2.1=c.2.1)=decide (c.2.1=d.2.1):=awl.2 eq_comm
 rw[e1,e2]
theorem aeO{l m:Ln}{p:Pt}(hp:p∈lz l m):p∈lz m l:=by
 unfold lz at*
 have ec:fd m l= -fd l m:=by unfold fd;grind
 by_cases h0:fd l m=0
 ·rw[dT h0]at hp
  cases hp
 ·have h1:¬fd m l=0:=by rw[ec];grind
  rw[dF h0]at hp
  rw[dF h1]
  have:p=atP (ma l m/fd l m,l7 l m/fd l m):=by simpa using hp
  rw[this]
  have dv:∀a b:Rat,b≠0→ -a/ -b=a/b:=fun a b hb=>by
   have h1: -a/ -b* -b= -a:=avN (by grind)
   have h2:a/b*b=a:=avN hb
   generalize-a/ -b=x at*
   generalize a/b=y at*
   have:(x-y)*b=0:=by grind
   rcases aw9.1 this with h|h
   ·grind
   ·exact absurd h hb
  have ex:ma m l= -ma l m:=by unfold ma;grind
  have ey:l7 m l= -l7 l m:=by unfold l7;grind
  rw[ec,ex,ey,dv _ _ h0,dv _ _ h0]
  simp
theorem T1{c d:BCU}(hc:Az c)(hd:Az d){p:Pt}(hp:p∈gg (dC c) (dC d)):∃q∈gg (dC d) (dC c),pR q=pR p:=by
 obtain⟨c1,c2⟩:=pG hc
 obtain⟨d1,d2⟩:=pG hd
 have ec:(dC c).1=c.1:=rfl
 have ed:(dC d).1=d.1:=rfl
 unfold gg at*
 rw[ec,ed]at hp ⊢
 cases ha:c.1<;>cases hb:d.1<;>rw[ha,hb]at hp
 ·have hp:p∈lz (lnC (dC c)) (lnC (dC d)):=hp
  exact⟨p,aeO hp,rfl⟩
 ·exact⟨p,hp,rfl⟩
 ·exact⟨p,hp,rfl⟩
 ·have i1:=(c1 ha).1
  have i2:=(d1 hb).1
  have hp:p∈sV (ciC (dC c)) (ciC (dC d)):=hp
  show ∃q∈sV (ciC (dC d)) (ciC (dC c)),_
  unfold sV at*
  rw[MW]
  cases hq:gi (ciC (dC c)) (ciC (dC d))<;>rw[hq]at hp
  ·obtain⟨o1,o2⟩:=K6 (xQ hq) hp
   have o3:=W1 o1 o2
   exact akD (xQ (by rw[MW];exact hq)) (akz o3 o2) o3
  ·cases hp
theorem ui{c d:BCU}(hc:gdN c)(hd:gdN d){x:BP}(hx:x∈iq c d)(o1:onR (dC c) (dec x)=true)(o2:onR (dC d) (dec x)=true):∃y∈bL c d,aV (dec y) (dec x)=0:=by
 obtain⟨_,p2⟩:=wI hc.crp hc.ne (Ir hc hd)
 have r:=((xj hc hd).2 x hx).2.1.1
 exact p2 x (awk.2 ⟨hx,Mh hc hd r o1 o2⟩)
theorem ub{c d:BCU}(hc:gdN c)(hd:gdN d):oL (dC c) (bL c d):=(wI hc.crp hc.ne (Ir hc hd)).1
theorem zj{c d:BCU}(hc:gdN c)(hd:gdN d){a:BP}(ha:a∈bL c d):∃b∈bL d c,aV (dec a) (dec b)=0:=by
 obtain⟨hm,_,s1,s2,o1,o2⟩:=fE hc hd ha
 have ra:=s1.1
 have key:∃z∈iq d c,aV (dec z) (dec a)=0:=by
  unfold iq at hm
  unfold iq
  cases hs:cL (dC c) (dC d)
  ·have hs':cL (dC d) (dC c)=false:=by
    cases h:cL (dC d) (dC c)with
    |false=>rfl
    |true=>rw[nQ h]at hs;cases hs
   rw[hs]at hm
   rw[hs']
   obtain⟨p,hp,e⟩:=awc.1 hm
   obtain⟨q,hq,e2⟩:=T1 hc.1.2 hd.1.2 hp
   obtain⟨_,rq,_⟩:=supM_on hd.1.2 hc.1.2 hq
   refine⟨enc q,awc.2 ⟨q,hq,rfl⟩,?_⟩
   have:Rpd (dec (enc q):Pt):=by rw[aq];exact rq
   refine cmpP_0.2 ?_
   rw[aq,e2,←e,aq]
  ·rw[hs]at hm
   rw[nQ hs]
   refine⟨a,?_,AP ra⟩
   have:a=c.2.2.2.2.1∨a=c.2.2.2.2.2∨a=d.2.2.2.2.1∨a=d.2.2.2.2.2:=by simpa using hm
   rcases this with e|e|e|e<;>simp[e]
 obtain⟨z,hz,ez⟩:=key
 have rz:=((xj hd hc).2 z hz).2.1.1
 obtain⟨y,hy,ey⟩:=ui hd hc hz (by rw[xq hd.crp rz ra ez];exact o2) (by rw[xq hc.crp rz ra ez];exact o1)
 have ry:=(dB hd hc hy).1.1
 exact⟨y,hy,iJ (FY ey ez)⟩
theorem J2(c:Cv)(l:List BP):(eU c l).length≤l.length:=by
 have:=tK c l []
 unfold eU
 simpa using this
theorem DB{c d:BCU}(hc:gdN c)(hd:gdN d):eqL (eU (dC c) (bL d c)) (bL c d):=by
 have sp:∀x∈bL d c,Spb (dC c) x:=fun x hx=>(dB hd hc hx).2
 refine tJ hc.crp (fun x hx=>sp x (gz hx)) (fun x hx=>(dB hc hd hx).1) (Mq (pE hc.crp) sp) (ub hc hd) (fun a ha=>zj hd hc (gz ha)) (fun b hb=>?_)
 obtain⟨y,hy,ey⟩:=zj hc hd hb
 have rb:=(dB hc hd hb).1.1
 have ry:=(dB hd hc hy).1.1
 obtain⟨z,hz,ez⟩:=HK (c:=dC c) ry hy
 have rz:=(sp z (gz hz)).1
 exact⟨z,hz,FY ez (iJ ey)⟩
theorem ac9{c d:BCU}(hc:gdN c)(hd:gdN d):(bL c d).length=(bL d c).length:=by
 have h1:=(DB hc hd).1
 have h2:=(DB hd hc).1
 have h3:=J2 (dC c) (bL d c)
 have h4:=J2 (dC d) (bL c d)
 omega
theorem QO{c d:BCU}(hc:gdN c)(hd:gdN d):eqL (eU (dC c) (bL c d)) (bL c d):=by
 have sp:∀x∈bL c d,Spb (dC c) x:=fun x hx=>(dB hc hd hx).1
 refine tJ hc.crp (fun x hx=>sp x (gz hx)) sp (Mq (pE hc.crp) sp) (ub hc hd) (fun a ha=>⟨a,gz ha,AP (sp a (gz ha)).1⟩) (fun b hb=>HK (sp b hb).1 hb)
theorem aiG{A B C:List BP}(hA:∀x∈A,Rpd (dec x:Pt))(hB:∀x∈B,Rpd (dec x:Pt))(hC:∀x∈C,Rpd (dec x:Pt))(h:eqL A B)(h':eqL C B):eqL A C:=by
 refine⟨h.1.trans h'.1.symm,fun i a c ha hc=>?_⟩
 have hi:i<B.length:=by
  rw[←h.1]
  exact(au1.1 ha).1
 have hb:B[i]?=some B[i]:=auP hi
 have r1:=hA a (avq ha)
 have r2:=hB _ (avq hb)
 have r3:=hC c (avq hc)
 exact FY (h.2 i a _ ha hb) (iJ (h'.2 i c _ hc hb))
theorem Ij{c d:BCU}(hc:gdN c)(hd:gdN d):eqL (eU (dC c) (bL d c)) (eU (dC c) (bL c d)):=
 aiG (fun _x hx=>(dB hd hc (gz hx)).1.1) (fun _x hx=>(dB hc hd hx).1.1) (fun _x hx=>(dB hc hd (gz hx)).1.1) (DB hc hd) (QO hc hd)
theorem Zb{c d:BCU}(h:c.1=d.1):qh c d=qh d c:=by
 unfold qh
 rw[h,bne_comm (a:=c.2.2.2.1),bne_comm (a:=aV (dec c.2.2.2.2.1) (dec c.2.2.2.2.2))]
theorem OV{c d:BCU}(hc:gdN c)(hd:gdN d)(hs:cL (dC c) (dC d)=true){S:List BP}(ho:∀x∈S,Rpd (dec x:Pt)∧onR (dC c) (dec x)=true∧onR (dC d) (dec x)=true)(h:D6 c d S):D6 d c S:=by
 have e:c.1=d.1:=rU hs
 obtain⟨a,b,ha,hb,h1,h2⟩:=h
 obtain⟨ra,a1,a2⟩:=ho a ha
 obtain⟨rb,b1,b2⟩:=ho b hb
 unfold D6
 unfold ip at*
 rw[Zb e.symm]
 cases hq:qh c d<;>rw[hq]at h2
 ·exact⟨a,b,ha,hb,h2,h1⟩
 ·exact⟨b,a,hb,ha,(jV hd ra rb a2 b2).1 h2,(jV hc rb ra b1 a1).2 h1⟩
theorem xn{c d:BCU}(hc:gdN c)(hd:gdN d):∀x∈bL c d,Rpd (dec x:Pt)∧onR (dC c) (dec x)=true∧onR (dC d) (dec x)=true:=fun x hx=>by
 obtain⟨_,_,s1,_,o1,o2⟩:=fE hc hd hx
 exact⟨s1.1,o1,o2⟩
theorem T9{c d:BCU}(hc:gdN c)(hd:gdN d):gZ c d=gZ d c:=by
 have one:∀{c d:BCU},gdN c→gdN d→gZ c d=true→gZ d c=true:=fun{c d} hc hd h=>by
  obtain⟨hs,h1⟩:=(mS hc hd).1 h
  refine(mS hd hc).2 ⟨nQ hs,?_⟩
  refine OV hc hd hs (fun x hx=>?_) (Em hc hd (fun x hx=>dB hc hd hx) (fun x hx=>?_) (fun a ha=>zj hc hd ha) h1)
  ·obtain⟨r,o1,o2⟩:=xn hd hc x hx
   exact⟨r,o2,o1⟩
  ·obtain⟨s1,s2⟩:=dB hd hc hx
   exact⟨s2,s1⟩
 rw[axU]
 exact⟨one hc hd,one hd hc⟩
theorem yU(c:Cv):cL c c=true:=by
 unfold cL
 rw[awW,cond_true]
 cases c.1
 ·unfold n7
  rw[cond_false,dT (awM _ _),dT (awM _ _),dT (awM _ _)]
  rfl
 ·unfold pM
  rw[cond_true,dT rfl,dT rfl,dT rfl]
  rfl
theorem FO{c:BCU}{x:BP}:x∈iq c c↔x=c.2.2.2.2.1∨x=c.2.2.2.2.2:=by
 unfold iq
 rw[yU,cond_true]
 simp only[au5,awi,axz]
 constructor
 ·rintro (h|h|h|h)
  ·exact .inl h
  ·exact .inr h
  ·exact .inl h
  ·exact .inr h
 ·rintro (h|h)
  ·exact .inl h
  ·exact .inr (.inl h)
theorem Fy{c:BCU}(h:gdN c):eqL (bL c c) [c.2.2.2.2.1,c.2.2.2.2.2]:=by
 have k:=h.crp
 refine tJ k (fun x hx=>(dB h h hx).1) (fun x hx=>?_) (ub h h) ?_ (fun a ha=>?_) (fun b hb=>?_)
 ·have:x=c.2.2.2.2.1∨x=c.2.2.2.2.2:=by simpa using hx
  rcases this with e|e<;>rw[e]
  ·exact k.f
  ·exact k.t
 ·have:=HP h
  unfold oL
  simp only[avh,avR,forall_eq,awi,false_implies,implies_true,List.Pairwise.nil,ax7]
  exact this
 ·have hm:=(fE h h ha).1
  have ra:=(dB h h ha).1.1
  exact⟨a,by simpa using FO.1 hm,AP ra⟩
 ·have hb:b=c.2.2.2.2.1∨b=c.2.2.2.2.2:=by simpa using hb
  refine ui h h (FO.2 hb) ?_ ?_
  ·rcases hb with e|e<;>rw[e]
   ·exact(vE h).1
   ·exact(vE h).2
  ·rcases hb with e|e<;>rw[e]
   ·exact(vE h).1
   ·exact(vE h).2
theorem Ti{c:BCU}(h:gdN c):gZ c c=true:=by
 have k:=h.crp
 refine(mS h h).2 ⟨yU _,?_⟩
 have hq:ip c c=c:=by
  unfold ip qh
  rw[bne_self_eq_false,bne_self_eq_false]
  cases c.1<;>rfl
 obtain⟨e1,e2⟩:=amo (Fy h)
 refine Em (A:=[c.2.2.2.2.1,c.2.2.2.2.2]) h h (fun x hx=>?_) (fun x hx=>dB h h hx) (fun a ha=>?_) ⟨c.2.2.2.2.1,c.2.2.2.2.2,by simp,by simp,HP h,by rw[hq];exact HP h⟩
 ·have:x=c.2.2.2.2.1∨x=c.2.2.2.2.2:=by simpa using hx
  rcases this with e|e<;>rw[e]
  ·exact⟨k.f,k.f⟩
  ·exact⟨k.t,k.t⟩
 ·obtain⟨b,hb,e⟩:=e2 a ha
  have rb:=(dB h h hb).1.1
  have ra:Rpd (dec a:Pt):=by
   have:a=c.2.2.2.2.1∨a=c.2.2.2.2.2:=by simpa using ha
   rcases this with e|e<;>rw[e]
   ·exact k.f.1
   ·exact k.t.1
  exact⟨b,hb,iJ e⟩
theorem L6{c d:BCU}{x:BP}:x∈iq (cH c) d↔x∈iq c d:=by
 unfold iq
 have e1:cL (dC (cH c)) (dC d)=cL (dC c) (dC d):=rfl
 have e2:gg (dC (cH c)) (dC d)=gg (dC c) (dC d):=rfl
 rw[e1,e2]
 cases cL (dC c) (dC d)
 ·exact Iff.rfl
 ·show x∈[c.2.2.2.2.2,c.2.2.2.2.1,d.2.2.2.2.1,d.2.2.2.2.2]↔x∈[c.2.2.2.2.1,c.2.2.2.2.2,d.2.2.2.2.1,d.2.2.2.2.2]
  simp only[au5,awi,axz]
  constructor<;>rintro (h|h|h)
  ·exact .inr (.inl h)
  ·exact .inl h
  ·exact .inr (.inr h)
  ·exact .inr (.inl h)
  ·exact .inl h
  ·exact .inr (.inr h)
theorem ZT{c d:BCU}(hc:gdN c)(hd:gdN d){a:BP}(ha:a∈bL c d):∃b∈bL (cH c) d,aV (dec b) (dec a)=0:=by
 obtain⟨hm,_,s1,_,o1,o2⟩:=fE hc hd ha
 exact ui hc.rev hd (L6.2 hm) (by rw[qM hc s1.1];exact o1) o2
theorem aly{c d:BCU}(hc:gdN c)(hd:gdN d){a:BP}(ha:a∈bL (cH c) d):∃b∈bL c d,aV (dec b) (dec a)=0:=by
 obtain⟨hm,_,s1,_,o1,o2⟩:=fE hc.rev hd ha
 exact ui hc hd (L6.1 hm) (by rw[←qM hc s1.1];exact o1) o2
theorem Ku{c d:BCU}(hc:gdN c)(hd:gdN d):eqL (bL c d).reverse (bL (cH c) d):=by
 have kr:=hc.rev.crp
 have ons:=xn hc hd
 refine tJ kr (fun x hx=>?_) (fun x hx=>(dB hc.rev hd hx).1) ?_ (ub hc.rev hd) (fun a ha=>?_) (fun b hb=>?_)
 ·obtain⟨s,_⟩:=dB hc hd (List.mem_reverse.1 hx)
  exact⟨s.1,s.2⟩
 ·refine List.pairwise_reverse.2 (List.Pairwise.imp_of_mem (fun{a b} ha hb g=>?_) (ub hc hd))
  obtain⟨ra,a1,_⟩:=ons a ha
  obtain⟨rb,b1,_⟩:=ons b hb
  exact(jV hc rb ra b1 a1).2 g
 ·have ha:=List.mem_reverse.1 ha
  obtain⟨b,hb,e⟩:=ZT hc hd ha
  have ra:=(ons a ha).1
  have rb:=(dB hc.rev hd hb).1.1
  exact⟨b,hb,iJ e⟩
 ·obtain⟨a,ha,e⟩:=aly hc hd hb
  exact⟨a,List.mem_reverse.2 ha,e⟩
theorem VB{c d:BCU}(hc:gdN c)(hd:gdN d)(e:c.1=d.1):qh (cH c) d=!qh c d:=by
 have i1:Rpd (dec c.2.2.2.2.1:Pt):=hc.crp.f.1
 have i2:Rpd (dec c.2.2.2.2.2:Pt):=hc.crp.t.1
 unfold qh
 show(bif c.1&&(d.1&&((c.1&&!c.2.2.2.1) !=d.2.2.2.1))then true else !c.1&&(aV (dec c.2.2.2.2.2) (dec c.2.2.2.2.1) !=aV (dec d.2.2.2.2.1) (dec d.2.2.2.2.2)))=_
 rw[←e]
 cases c.1
 ·have b1:=i9 (dec c.2.2.2.2.1) (dec c.2.2.2.2.2)
  have b2:=i9 (dec d.2.2.2.2.1) (dec d.2.2.2.2.2)
  have n1:aV (dec c.2.2.2.2.1) (dec c.2.2.2.2.2)≠0:=hc.ne
  have n2:aV (dec d.2.2.2.2.1) (dec d.2.2.2.2.2)≠0:=hd.ne
  rw[iM (p:=(dec c.2.2.2.2.2:Pt))]
  simp only[ax4,Bool.not_false,auS,cond_false]
  rw[axU,avL]
  simp only[bne_iff_ne,ne_eq,bne_eq_false_iff_eq]
  omega
 ·cases c.2.2.2.1<;>cases d.2.2.2.1<;>rfl
theorem QQ{c d:BCU}(hc:gdN c)(hd:gdN d)(hs:cL (dC c) (dC d)=true){S:List BP}(ho:∀x∈S,Rpd (dec x:Pt)∧onR (dC c) (dec x)=true∧onR (dC d) (dec x)=true)(h:D6 c d S):D6 (cH c) d S:=by
 have e:c.1=d.1:=rU hs
 obtain⟨a,b,ha,hb,h1,h2⟩:=h
 obtain⟨ra,a1,a2⟩:=ho a ha
 obtain⟨rb,b1,b2⟩:=ho b hb
 unfold D6
 unfold ip at*
 rw[VB hc hd e]
 cases hq:qh c d<;>rw[hq]at h2
 ·exact⟨b,a,hb,ha,(jV hc rb ra b1 a1).2 h1,(jV hd rb ra b2 a2).2 h2⟩
 ·exact⟨b,a,hb,ha,(jV hc rb ra b1 a1).2 h1,(jV hd ra rb a2 b2).1 h2⟩
theorem Mk{c:BCU}(h:c.1=false→c.2.2.2.1=false):cH (cH c)=c:=by
 obtain⟨ar,li,ci,cw,fr,to⟩:=c
 cases ar
 ·have:cw=false:=h rfl
  subst this
  rfl
 ·cases cw<;>rfl
theorem aaY{c d:BCU}(hc:gdN c)(hd:gdN d)(hw:c.1=false→c.2.2.2.1=false):gZ (cH c) d=gZ c d:=by
 have one:∀{c:BCU},gdN c→gZ c d=true→gZ (cH c) d=true:=fun{c} hc h=>by
  obtain⟨hs,h1⟩:=(mS hc hd).1 h
  refine(mS hc.rev hd).2 ⟨hs,?_⟩
  have:=QQ hc hd hs (xn hc hd) h1
  refine Em hc.rev hd (fun x hx=>?_) (fun x hx=>dB hc.rev hd hx) (fun a ha=>?_) this
  ·obtain⟨s1,s2⟩:=dB hc hd hx
   exact⟨⟨s1.1,s1.2⟩,s2⟩
  ·obtain⟨b,hb,e⟩:=ZT hc hd ha
   have ra:=(dB hc hd ha).1.1
   have rb:=(dB hc.rev hd hb).1.1
   exact⟨b,hb,iJ e⟩
 rw[axU]
 refine⟨fun h=>?_,one hc⟩
 have:=one hc.rev h
 rw[Mk hw]at this
 exact this
end
section
open Go.ChangeShapes Go.WideShapes Go.ChangeAt Go.WideMaps Go.WideElems Go.RowKit Go.Maps
section
variable {H:Type} {enc:TypeId×Value→H} {P:Program}
theorem AB{f:Func}{s:ChangeSpec}{apart fresh handsOn again:Bool}{W W':World}{args:Array Value}{v:Value}{ds gs:List (DataW H)}{before pa pv:List MemPlace}
  (hW:DataW.Whole enc P f.params.toList s.vars apart W args.toList ds gs before)
  (hres:∀(b:Nat) (sp:Nat→Bool) (hd:Bool),DataW.TrodAll enc P W' b sp hd f.resultTypes.toList (v.resultList f.resultTypes.size) (s.fn H (ds++gs)).results [])
  (hargs:∀sp:Nat→Bool,(∀p∈before,sp p.block=true)→DataW.TrodAll enc P W' 0 sp true f.params.toList args.toList (s.fn H (ds++gs)).args pa)
  (hvars:∀sp:Nat→Bool,(∀p∈before,sp p.block=true)→DataW.TrodVars enc P W' sp s.vars (s.fn H (ds++gs)).vars pv)
  (hps:before=pa++pv) (hb:Below W.heap.size W W')
  (hok:∀(j:Nat) (t:TypeId) (r:Value),f.resultTypes[j]?=some t→(v.resultList f.resultTypes.size)[j]?=some r→Value.okWide P W' .any 0 t r):
  s.post enc P f apart fresh handsOn again W args v W':=by
 have hlt:∀p∈before,p.block<W.heap.size:=fun p hp=>hW.lt p hp
 have hold:∀p∈before,(fun b=>decide (b<W.heap.size)) p.block=true:=fun p hp=>by simpa using hlt p hp
 refine⟨ds,gs,before,[],pa,pv,hW,hres _ _ _,hargs _ hold,hvars _ hold,World.keptBut_mono (fun p hp=>⟨hp,?_⟩) (hb.frame (·∈before)),fun _=>?_⟩
 ·rw[hps,avj]at hp
  exact Or.inr hp
 ·obtain⟨_,_,_,_,_,hz,hn⟩:=hW
  refine⟨hok,_,_,([]++pa)++pv,⟨[]++pa,pv,trodAll_append (hargs _ (fun _ _=>rfl)) (hres _ _ _),hvars _ (fun _ _=>rfl),rfl,?_,?_⟩,?_⟩
  ·intro b off hp
   have hin:MemPlace.cell b off∈before:=by rw[hps];simpa using hp
   rw[hb.frozen (hlt _ hin)]
   exact hz b off hin
  ·intro ha
   have:=hn ha
   rw[hps]at this
   simpa using this
  ·intro p hp _
   rw[hps]
   simpa using hp
end
theorem VO:laidOutB Tryz.prog=true:=by kernel_rfl
theorem rO{H:Type}{enc:TypeId×Value→H}{P:Program}(hl:laidOutB P=true){W W':World}{sp:Nat→Bool}:∀(ts:List TypeId) (vs:List Value) (ds:List (DataW H)) (ps:List MemPlace),
  (ts.all fun t=>P.readableRec t&&Nat.ble (t+1) P.types.size)=true→DataW.TrodAll enc P W 0 (fun _=>true) true ts vs ds ps→(∀p∈ps,W.sameAt W' p)→(∀p∈ps,sp p.block=true)→DataW.TrodAll enc P W' 0 sp true ts vs ds ps
 |[],vs,ds,ps,_,h,_,_=>by obtain⟨rfl,rfl,rfl⟩:=trodAll_nil h;exact trodAll_mk0
 |t::ts,vs,ds,ps,ht,h,hs,hp=>by
  obtain⟨v,vs',d,ds',p,q,rfl,rfl,rfl,h0,h1⟩:=trodAll_cons h
  simp only[axe,auW]at ht
  exact trodAll_cons_mk (Trod_stays hl ht.1.1 (auZ ht.1.2) h0 (fun x hx=>hs x (awb _ hx)) (fun x hx=>hp x (awb _ hx)))
   (rO hl ts vs' ds' q ht.2 h1 (fun x hx=>hs x (awY _ hx)) (fun x hx=>hp x (awY _ hx)))
set_option maxRecDepth 100000 in
theorem FH{H:Type}{enc:TypeId×Value→H}{f:Func}{s:ChangeSpec}{apart fresh handsOn again:Bool}{W W':World}{args:Array Value}{ds:List (DataW H)}{before:List MemPlace}
  (hW:DataW.Whole enc Tryz.prog f.params.toList s.vars apart W args.toList ds [] before) (hv:s.vars=[]) (hr:f.resultTypes= #[4]) (hfn:(s.fn H (ds++[])).results=[.lit (.bool true)]∧(s.fn H (ds++[])).args=ds∧(s.fn H (ds++[])).vars=[])
  (hp:(f.params.toList.all fun t=>Tryz.prog.readableRec t&&Nat.ble (t+1) Tryz.prog.types.size)=true) (hb:Below W.heap.size W W'):s.post enc Tryz.prog f apart fresh handsOn again W args (.bool true) W':=by
 have hW':=hW
 obtain⟨p,q,hA,hV,rfl,hfz,hnd⟩:=hW
 have hq:q=[]:=by
  rw[hv]at hV
  exact(trodVars_none hV).2
 subst hq
 have hlt:∀x∈p,x.block<W.heap.size:=fun x hx=>hW'.lt x (by simpa using hx)
 refine AB (pa:=p) (pv:=[]) hW' ?_ ?_ ?_ rfl hb ?_
 ·intro b sp hd
  rw[hr,hfn.1]
  exact trodAll_mk1 (shut_bool Tryz.underlying4 _)
 ·intro sp hsp
  rw[hfn.2.1]
  exact rO VO _ _ _ _ hp hA (fun x hx=>hb.same (hlt x hx)) (fun x hx=>hsp x (by simpa using hx))
 ·intro sp _
  rw[hv,hfn.2.2]
  rfl
 ·exact ok_one hr rfl (okWide_bool_mk (P:=Tryz.prog) Tryz.underlying4 true)
theorem JE{P:Program}{w:World}{r:Reach}{base:Nat}{t e:TypeId}{n:Nat}{v:Value}(ht:P.underlying t=some (.array n e))(h:Value.okWide P w r base t v):∃cs,v=.agg cs∧cs.size=P.cellsOf t:=by
 simp only[Value.okWide,ht]at h
 obtain⟨cs,h1,h2,_⟩:=h
 exact⟨cs,h1,h2⟩
theorem JB{P:Program}{w:World}{r:Reach}{base:Nat}{t:TypeId}{v:Value}(ht:P.underlying t=some .string)(h:Value.okWide P w r base t v):∃s,v=.string s:=by
 simp only[Value.okWide,ht,Cell.okWide]at h
 cases v<;>simp_all [Cell.ok]
theorem sP{H:Type}{enc:TypeId×Value→H}{P:Program}{w:World}{r:Reach}{b0 base:Nat}{spare:Nat→Bool}{held:Bool}{v:Value}{d:DataW H}{p:List MemPlace}{t:TypeId}(n:Nat)(ty:Ty)(hrep:rep P n t ty=true)(hv:Value.okWide P w r b0 t v)(h:DataW.Trod enc P w base spare held t v d p):
  ∃y:ty.D,Rel1 [] (fun _=>True) w (.d ty y) v∧ty.ok y:=by
 obtain⟨fuel,hf⟩:=h
 have fin:v.cells.toList.length=ty.n→v=mkV ty v.cells.toList→∃y:ty.D,Rel1 [] (fun _=>True) w (.d ty y) v∧ty.ok y:=fun hl hm=>by
  obtain⟨y,h1,h2⟩:=(abE ty).1 n t hrep fuel _ _ hl hf
  exact⟨y,⟨_,h1,hm⟩,h2⟩
 cases n with
 |zero=>simp[rep]at hrep
 |succ n=>
  have hrep':=hrep
  unfold rep at hrep'
  split at hrep'<;>try (cases hrep';done)
  ·rename_i hu;obtain⟨m,rfl⟩:=okWide_int hu hv;exact fin rfl rfl
  ·rename_i hu;obtain⟨m,rfl⟩:=okWide_bool hu hv;exact fin rfl rfl
  ·rename_i hu;obtain⟨m,rfl⟩:=JB hu hv;exact fin rfl rfl
  ·rename_i hu;obtain⟨q,m,c,rfl⟩:=okWide_slice hu hv;exact fin rfl rfl
  ·rename_i hu
   obtain⟨cs,rfl,hsz⟩:=okWide_struct hu hv
   simp only[auW]at hrep'
   exact fin (by simp only[Value.cells,Array.length_toList,hsz];exact auV hrep'.2) (by simp[mkV,Ty.isSt,Value.cells])
  ·rename_i hu
   obtain⟨cs,rfl,hsz⟩:=JE hu hv
   simp only[auW]at hrep'
   exact fin (by simp only[Value.cells,Array.length_toList,hsz];exact auV hrep'.2) (by simp[mkV,Ty.isSt,Value.cells])
end
end Go.Proofs.YtgddhgcjmddjfaaGreat
end
