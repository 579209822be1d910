/- The examples of the chapter on curves. -/
import Derived.Test.YtgddhgcjmddjfaaGreatC17
import Derived.Test.YtgddhgcjmddjfaaGreatC19
import Derived.Test.YtgddhgcjmddjfaaGreatC6
import Derived.ProofKit
import Derived.OpenShut
import Derived.ChangeSame
import Derived.Deep.Slices
import Derived.Test.YtgddhgcjmddjfaaGreatC15
import Derived.Stop.Joined
noncomputable section
namespace Go.Proofs.YtgddhgcjmddjfaaGreat
open Go.RowKit Go.IntKind
section
open RE
section
variable {α β:Type} (f:α→β)
theorem Fx{lt:α→α→Bool}{lt':β→β→Bool}(h:∀a b,lt' (f a) (f b)=lt a b)(a:α):∀r:List α,kY lt' (r.map f) (f a)=(kY lt r a).map f
 |[]=>rfl
 |b::r=>by
  have ih:=Fx h a r
  simp only[awh,kY,h]
  cases lt a b
  ·rfl
  ·simp only[cond_true,awh,ih]
theorem EK{lt:α→α→Bool}{lt':β→β→Bool}(h:∀a b,lt' (f a) (f b)=lt a b):∀(l r:List α),(l.map f).foldl (kY lt') (r.map f)=(l.foldl (kY lt) r).map f
 |[],_=>rfl
 |a::l,r=>by
  rw[awh,avP,avP,Fx f h,EK h]
theorem Tx{lt:α→α→Bool}{lt':β→β→Bool}(h:∀a b,lt' (f a) (f b)=lt a b)(l:List α):te lt' (l.map f)=(te lt l).map f:=by
 unfold te
 have:=EK f h l []
 rw[List.map_nil]at this
 rw[this,List.map_reverse]
theorem Gq{g:α→α→Bool}{g':β→β→Bool}(h:∀a b,g' (f a) (f b)=g a b):∀(l:List α) (p:α),jA g' (f p) (l.map f)=(jA g p l).map f
 |[],_=>rfl
 |q::r,p=>by
  have ih:=Gq h r q
  simp only[awh,jA,h]
  cases g q p
  ·simp only[cond_false,awh,ih]
  ·exact ih
theorem Wg{g:α→α→Bool}{g':β→β→Bool}(h:∀a b,g' (f a) (f b)=g a b)(l:List α):wv g' (l.map f)=(wv g l).map f:=by
 cases l with
 |nil=>rfl
 |cons x r=>
  simp only[awh,wv]
  rw[Gq f h]
end
def Ht(c d:Cv):List Pt:=wv (fun a b=>aW a b==0) (te (fun a b=>decide (rh c a b<0)) ((bif c7 c d then [frC c,toC c,frC d,toC d]else gW c d).filter fun p=>gI c p&&gI d p))
theorem EG{c d:BCU}(h1:c.2.2.2.2.1=enc (frC (dC c)))(h2:c.2.2.2.2.2=enc (toC (dC c)))(h3:d.2.2.2.2.1=enc (frC (dC d)))(h4:d.2.2.2.2.2=enc (toC (dC d))):db c d=(Ht (dC c) (dC d)).map enc:=by
 have e:jq c d=(bif c7 (dC c) (dC d)then [frC (dC c),toC (dC c),frC (dC d),toC (dC d)]else gW (dC c) (dC d)).map enc:=by
  unfold jq
  cases c7 (dC c) (dC d)
  ·rfl
  ·simp only[cond_true,awh,List.map_nil,←h1,←h2,←h3,←h4]
 unfold db Ht cU
 rw[e,List.filter_map]
 have e2:(fR c d∘enc)=fun p:Pt=>gI (dC c) p&&gI (dC d) p:=by
  funext p
  show(gI (dC c) (dec (enc p))&&gI (dC d) (dec (enc p)))=_
  rw[aq]
 rw[e2,Tx (f:=(enc:Pt→BP)) (lt:=fun a b=>decide (rh (dC c) a b<0)) (fun a b=>by unfold ltP;rw[aq,aq]),Wg (f:=(enc:Pt→BP)) (g:=fun a b=>aW a b==0) (fun a b=>by unfold fa;rw[aq,aq])]
abbrev uA1:Rat×Rat:=(Rat.divInt 0 1,Rat.divInt 1 1)
abbrev uA2:Rat×Rat:=(Rat.divInt (-1) 1,Rat.divInt 0 1)
abbrev uA3:Rat×Rat:=(Rat.divInt 0 1,Rat.divInt (-1) 1)
abbrev uS1:Rat×Rat:=(Rat.divInt (-4) 2,Rat.divInt 1 2)
abbrev uS2:Rat×Rat:=(Rat.divInt 4 2,Rat.divInt 1 2)
abbrev uO1:Rat×Rat:=(Rat.divInt (-3) 5,Rat.divInt 4 5)
abbrev uO2:Rat×Rat:=(Rat.divInt 1 1,Rat.divInt 0 1)
abbrev lC2:Ln:=(((0:Int):Rat),((0:Int):Rat),((2:Int):Rat))
def xA:BCU:=(true,l0B,enc ((0,0,1):Ln),false,enc (atP uA1),enc (atP uA3))
def xS:BCU:=(false,enc ((0,4,2):Ln),l0B,false,enc (atP uS1),enc (atP uS2))
def xF:BCU:=(true,l0B,enc lC2,false,enc (sT lC2),enc (tW lC2))
def xG:BCU:=(true,l0B,enc lC2,false,enc (tW lC2),enc (sT lC2))
def qA:Cv:=(true,(0,0,0),(0,0,1),false,atP uA1,atP uA3)
def qS:Cv:=(false,(0,4,2),(0,0,0),false,atP uS1,atP uS2)
def qF:Cv:=(true,(0,0,0),lC2,false,sT lC2,tW lC2)
def qG:Cv:=(true,(0,0,0),lC2,false,tW lC2,sT lC2)
def pX0:Pt:=(0,-4,1/2,0,3/64)
theorem Fa:dC xA=qA:=by unfold dC xA qA l0B;simp only[aq]
theorem LI:dC xS=qS:=by unfold dC xS qS l0B;simp only[aq]
theorem Fz:dC xF=qF:=by unfold dC xF qF l0B;simp only[aq]
theorem GP:dC xG=qG:=by unfold dC xG qG l0B;simp only[aq]
theorem aoh:OG uA1 uA2 uA3=xA:=by
 have h1:decide (dw uA1 uA2 uA3=0)=false:=by decide+kernel
 have h2:pP uA1 uA2 uA3=(0,0,1):=by decide+kernel
 have h3:decide (rl uA1 uA2 uA3>0)=true:=by decide+kernel
 unfold OG xA
 rw[h1,h2,h3]
 rfl
theorem apg:Pd uS1 uS2=xS:=by
 have h1:vi uS1 uS2=false:=by decide+kernel
 have h2:r8 uS1 uS2=(0,4,2):=by decide+kernel
 unfold Pd xS
 rw[h1,h2]
 rfl
theorem arJ:VC (enc lC2)=[xF,xG]:=by
 unfold VC xF xG
 rw[aq]
theorem apl:db xS xA=[enc pX0]:=by
 have:Ht qS qA=[pX0]:=by decide+kernel
 rw[EG (by rw[LI];rfl) (by rw[LI];rfl) (by rw[Fa];rfl) (by rw[Fa];rfl),LI,Fa,this]
 rfl
theorem atu:kW xS xA=false:=by
 unfold kW
 rw[LI,Fa,show c7 qS qA=false by decide+kernel]
 rfl
theorem aoD:db xF xG=(Ht qF qG).map enc:=by
 rw[EG (by rw[Fz];rfl) (by rw[Fz];rfl) (by rw[GP];rfl) (by rw[GP];rfl),Fz,GP]
theorem asZ:(Ht qF qG).length=2:=by decide+kernel
section
theorem bI(n:Int)(h:bO n):Bd (n:Rat) 3:=ff h
theorem bQ(n d:Int)(h:eK n d):Bd (Rat.divInt n d) 3:=D5 h.1 h.2.1 h.2.2
theorem bV(n d m e:Int)(h:eK n d)(h':eK m e):Bd ((Rat.divInt n d,Rat.divInt m e):Rat×Rat) 3:=by
 have:=bQ n d h
 have:=bQ m e h'
 exact(inferInstance:Bd ((Rat.divInt n d,Rat.divInt m e):Rat×Rat) _).mono (by decide)
theorem oAt{v:Rat×Rat}{k:Nat}(h:Bd v 3)(hk:10≤k)(hk':k≤480000):okP k (enc (atP v)):=atS (bG (x:=atP v) (auh (by decide) hk) hk')
end
theorem Xb:mG xA:=by
 have b0:=bI 0 (by decide)
 have b1:=bI 1 (by decide)
 have z0:Bd (0:Rat) 3:=b0
 have z1:Bd (1:Rat) 3:=b1
 refine⟨⟨fun _=>⟨atS (okd (x:=((0,0,1):Ln)) (by decide) (by decide)),?_⟩,fun h=>(by cases h),oAt (bV _ _ _ _ (by decide) (by decide)) (by decide) (by decide),oAt (bV _ _ _ _ (by decide) (by decide)) (by decide) (by decide)⟩,fun _=>?_,fun h=>(by cases h)⟩
 ·show(0:Rat)<(dec (enc ((0,0,1):Ln)):Ln).2.2
  rw[aq];decide+kernel
 ·exact gM (c:=((0,0,1):Ln)) (h:=⟨z0.mono (by decide),z0.mono (by decide),z1.mono (by decide)⟩) (by decide+kernel)
theorem aeA:mG xS:=by
 have b0:=bI 0 (by decide)
 have b2:=bI 2 (by decide)
 have b4:=bI 4 (by decide)
 have z0:Bd (0:Rat) 3:=b0
 have z2:Bd (2:Rat) 3:=b2
 have z4:Bd (4:Rat) 3:=b4
 refine⟨⟨fun h=>(by cases h),fun _=>⟨atS (okd (x:=((0,4,2):Ln)) (by decide) (by decide)),?_⟩,oAt (bV _ _ _ _ (by decide) (by decide)) (by decide) (by decide),oAt (bV _ _ _ _ (by decide) (by decide)) (by decide) (by decide)⟩,fun h=>(by cases h),fun _=>?_⟩
 ·show(dec (enc ((0,4,2):Ln)):Ln).1≠0∨(dec (enc ((0,4,2):Ln)):Ln).2.1≠0
  rw[aq];exact .inr (by decide+kernel)
 ·exact kw (l:=((0,4,2):Ln)) (h:=⟨z0.mono (by decide),z4.mono (by decide),z2.mono (by decide)⟩) (.inr (by decide+kernel))
theorem bC2:BdC lC2:=⟨(bI 0 (by decide)).mono (by decide),(bI 0 (by decide)).mono (by decide),(bI 2 (by decide)).mono (by decide)⟩
theorem ami:bZ (enc lC2):=gM (h:=bC2) (by decide+kernel)
theorem okE:okP 500 (enc (sT lC2))∧okP 500 (enc (tW lC2)):=by
 have b0:=bI 0 (by decide)
 have b1:=bI 1 (by decide)
 have b2:=bI 2 (by decide)
 have bm:Bd (-1:Rat) 3:=bI (-1) (by decide)
 have z0:Bd (0:Rat) 3:=b0
 have z1:Bd (1:Rat) 3:=b1
 have nn:Nn lC2.2.2:=⟨by decide+kernel⟩
 have f1:Bd (sT lC2) 500:=Da (a:=3) (b:=3) (c:=3) b0 bm b0 z0 b2 (by decide)
 have f2:Bd (tW lC2) 500:=Da (a:=3) (b:=3) (c:=3) b0 z1 b0 z0 b2 (by decide)
 have r1:Rpd (sT lC2):=C1
 have r2:Rpd (tW lC2):=C1
 exact⟨atS (bG (at5 _) (by decide)),atS (bG (at5 _) (by decide))⟩
theorem aoW:AC (enc lC2):=by
 have:=bC2
 have bl:Bd lC2 13:=Jr
 exact⟨atS (okd (by decide) (by decide)),by rw[aq];decide+kernel⟩
theorem ahj:gdN xF:=by
 refine⟨⟨⟨fun _=>aoW,fun h=>(by cases h),okE.1,okE.2⟩,fun _=>ami,fun h=>(by cases h)⟩,?_,?_,?_⟩<;>rw[Fz]<;>decide+kernel
theorem ahB:gdN xG:=by
 refine⟨⟨⟨fun _=>aoW,fun h=>(by cases h),okE.2,okE.1⟩,fun _=>ami,fun h=>(by cases h)⟩,?_,?_,?_⟩<;>rw[GP]<;>decide+kernel
theorem ati:kW xF xG=false:=by
 cases h:kW xF xG with
 |false=>rfl
 |true=>
  obtain⟨_,a,b,ha,hb,h1,h2⟩:=(FJ ahj ahB).1 h
  rw[aoD]at ha hb
  obtain⟨p,hp,rfl⟩:=au7.1 ha
  obtain⟨q,hq,rfl⟩:=au7.1 hb
  have hr:jC xF xG=xG:=rfl
  rw[hr,GP,aq,aq]at h2
  rw[Fz,aq,aq]at h1
  have key:∀p∈Ht qF qG,∀q∈Ht qF qG,¬(cd qF p q<0∧cd qG p q<0):=by decide+kernel
  exact absurd ⟨h1,h2⟩ (key p hp q hq)
theorem ars:okP 4000 (enc pX0):=by
 have h:enc pX0∈jq xS xA:=by
  have:enc pX0∈db xS xA:=by rw[apl];simp
  exact(ava.1 (eL this)).1
 exact(uh ⟨aeA,Xb⟩).2 _ h
def T8:Env:=[(37,uo)]
theorem NQ:EnvAll Tryz.prog T8:=⟨qc,trivial⟩
def aaB:Ctx:=CX T8 []
def Ms(x y d:Int)(_k:KT):Option (List RV):=match decide (eK x d)with|true=>(match decide (eK y d)with|true=>some [RV.d tV (hid (ai (Rat.divInt x d)),hid (ai (Rat.divInt y d)))]|false=>none)|false=>none
theorem abV(x y d:Int):RS aaB 32 [SI x,SI y,SI d] (Ms x y d):=rsX
theorem OO(x y d:Int)(h:eK x d∧eK y d):Con Tryz.prog 32 [.d axf x,.d axf y,.d axf d] [.d tV (enc ((Rat.divInt x d,Rat.divInt y d):Rat×Rat))]:=by
 refine aP NQ (abV _ _ _ ⟨0,?_⟩)
 unfold Ms
 rw[dT h.1,dT h.2]
 simp only[ak]
 rfl
def Fj:aN:=spN false true [axf,axf,axf] (fun x=>decide (eK x.1 x.2.2.1∧eK x.2.1 x.2.2.1)) (fun x=>[RV.d tV (hid (enc ((Rat.divInt x.1 x.2.2.1,Rat.divInt x.2.1 x.2.2.1):Rat×Rat)))])
theorem JN:SpK 32 Fj:=spX fun x h=>by simp only[ak];exact OO x.1 x.2.1 x.2.2.1 (atS h)
def HO:aN:=spN false true [tCU,tCU] (fun x=>decide (eH x.1 x.2.1)) (fun x=>[RV.d (.sl tP) (db x.1 x.2.1),RV.d .bool (kW x.1 x.2.1)])
theorem G9:SpK 22 HO:=spX fun x h=>aat x.1 x.2.1 (atS h)
def Mp:aN:=spN true true [tO,tO] (fun x=>decide (okT 15000 x.1∧okT 15000 x.2.1)) (fun x=>[RV.d .bool (bR (dec x.1) (dec x.2.1)==0)])
theorem Nz:SpK 39 Mp:=spX fun x h=>QF x.1 x.2.1 (atS h)
def Q3:Env:=[(32,Fj),(31,Mh),(33,KS),(22,HO),(34,Xt),(14,vX),(35,lE),(37,uo),(36,xh),(38,t3),(40,CD),(39,Mp)]
theorem Nl:EnvAll Tryz.prog Q3:=⟨JN,N9,Po,G9,Xz,oV,iC,qc,u4,qq,Ag,Nz,trivial⟩
def an2:Ctx:=CX Q3 []
def agK(_k:KT):Option (List RV):=let y1:=hid (enc ((Rat.divInt (0:Int) (1:Int),Rat.divInt (1:Int) (1:Int)):Rat×Rat));let y2:=hid (enc ((Rat.divInt ((-1):Int) (1:Int),Rat.divInt (0:Int) (1:Int)):Rat×Rat));let y3:=hid (enc ((Rat.divInt (0:Int) (1:Int),Rat.divInt ((-1):Int) (1:Int)):Rat×Rat));let y4:=hid (enc ((Rat.divInt ((-4):Int) (2:Int),Rat.divInt (1:Int) (2:Int)):Rat×Rat));let y5:=hid (enc ((Rat.divInt (4:Int) (2:Int),Rat.divInt (1:Int) (2:Int)):Rat×Rat));let y6:=hid (Pd (dec y4) (dec y5));let y7:=hid (OG (dec y1) (dec y2) (dec y3));let y8:=ai ((0:Int):Rat);let y9:=VC (hid y8,(hid y8,hid (ai ((2:Int):Rat))));let y10:=hid (ai (Rat.divInt ((-1):Int) (2:Int)));let y11:=hid (ai ((3:Int):Rat));let y12:=hid (enc ((Rat.divInt ((-3):Int) (5:Int),Rat.divInt (4:Int) (5:Int)):Rat×Rat));let y13:=hid (enc (atP (dec y12)));let y14:=hid (enc ((Rat.divInt (1:Int) (1:Int),Rat.divInt (0:Int) (1:Int)):Rat×Rat));let y15:=hid (enc (atP (dec y14)));let y16:=hid (enc (mkR (ae (hid y8)) (ae y10) (ae y11)));match decide (eK (0:Int) (1:Int)∧eK (1:Int) (1:Int))with|true=>(match decide (eK ((-1):Int) (1:Int)∧eK (0:Int) (1:Int))with|true=>(match decide (eK (0:Int) (1:Int)∧eK ((-1):Int) (1:Int))with|true=>(match decide (ok (Rat×Rat) 100 y1∧ok (Rat×Rat) 100 y2∧ok (Rat×Rat) 100 y3)with|true=>(match decide (eK ((-4):Int) (2:Int)∧eK (1:Int) (2:Int))with|true=>(match decide (eK (4:Int) (2:Int)∧eK (1:Int) (2:Int))with|true=>(match decide (ok (Rat×Rat) 100 y4∧ok (Rat×Rat) 100 y5)with|true=>(match decide (eH y6 y7)with|true=>(match decide (bO (0:Int))with|true=>(match decide (bO (0:Int))with|true=>(match decide (bO (2:Int))with|true=>(match decide (bZ (hid y8,(hid y8,hid (ai ((2:Int):Rat)))))with|true=>(match(pN (dec y1) (dec y2) (dec y3)) !=0 with|true=>some [RV.d .bool false]|false=>(match(pU (dec y4) (dec y5)) !=0 with|true=>some [RV.d .bool false]|false=>(match((db y6 y7).length:Int) !=1 with|true=>some [RV.d .bool false]|false=>(match kW y6 y7 with|true=>some [RV.d .bool false]|false=>(match(y9.length:Int) !=2 with|true=>some [RV.d .bool false]|false=>(match decide (bO (0:Int))with|true=>(match decide (eK ((-1):Int) (2:Int))with|true=>(match decide (bO (3:Int))with|true=>(match decide (ok Rat 100000 (hid y8)∧ok Rat 100000 y10∧ok Rat 100000 y11∧0≤ae y11)with|true=>(match bi y9 0 with|some x1=>(match bi y9 1 with|some x2=>(match decide (eH x1 x2)with|true=>(match !((((y7.2).2).2).1)with|true=>(match decide (eK ((-3):Int) (5:Int)∧eK (4:Int) (5:Int))with|true=>(match decide (ok (Rat×Rat) 100000 y12)with|true=>(match decide (okC 4000 y7∧okP 4000 y13)with|true=>(match onP (dC y7) (dec y13)with|true=>(match decide (eK (1:Int) (1:Int)∧eK (0:Int) (1:Int))with|true=>(match decide (ok (Rat×Rat) 100000 y14)with|true=>(match decide (okC 4000 y7∧okP 4000 y15)with|true=>(match !(onP (dC y7) (dec y15))with|true=>(match bi (db y6 y7) 0 with|some x3=>(match decide (okP 4000 x3)with|true=>(match decide (okT 15000 (hid (enc (xP (dec x3))))∧okT 15000 y16)with|true=>(match bR (dec (hid (enc (xP (dec x3))))) (dec y16)==0 with|true=>(match((db x1 x2).length:Int)==2 with|true=>some [RV.d .bool (!(kW x1 x2))]|false=>some [RV.d .bool false])|false=>some [RV.d .bool false])|false=>none)|false=>none)|none=>none)|false=>some [RV.d .bool false])|false=>none)|false=>none)|false=>none)|false=>some [RV.d .bool false])|false=>none)|false=>none)|false=>none)|false=>some [RV.d .bool false])|false=>none)|none=>none)|none=>none)|false=>none)|false=>none)|false=>none)|false=>none))))))|false=>none)|false=>none)|false=>none)|false=>none)|false=>none)|false=>none)|false=>none)|false=>none)|false=>none)|false=>none)|false=>none)|false=>none
theorem an9:RS an2 10 [] (agK):=rsX
theorem aau:Con Tryz.prog 10 [] [.d .bool true]:=by
 have rX:Rpd pX0:=by have:=gc ars;rwa [aq]at this
 obtain⟨v0,e0,bX,_⟩:=dz ars
 have e0:v0=pX0:=by have:=congrArg (dec:BP→Pt) e0;rwa [aq,aq,eq_comm]at this
 rw[e0]at bX
 have b0:=bI 0 (by decide)
 have b3:=bI 3 (by decide)
 have bh:=bQ (-1) 2 (by decide)
 have nn3:Nn ((3:Int):Rat):=⟨by decide+kernel⟩
 have v1:=bV 0 1 1 1 (by decide) (by decide)
 have v2:=bV (-1) 1 0 1 (by decide) (by decide)
 have v3:=bV 0 1 (-1) 1 (by decide) (by decide)
 have v4:=bV (-4) 2 1 2 (by decide) (by decide)
 have v5:=bV 4 2 1 2 (by decide) (by decide)
 have v6:=bV (-3) 5 4 5 (by decide) (by decide)
 have v7:=bV 1 1 0 1 (by decide) (by decide)
 have k01:decide (eK 0 1)=true:=by decide
 have k11:decide (eK 1 1)=true:=by decide
 have km1:decide (eK (-1) 1)=true:=by decide
 have km4:decide (eK (-4) 2)=true:=by decide
 have k12:decide (eK 1 2)=true:=by decide
 have k42:decide (eK 4 2)=true:=by decide
 have kmh:decide (eK (-1) 2)=true:=by decide
 have k35:decide (eK (-3) 5)=true:=by decide
 have k45:decide (eK 4 5)=true:=by decide
 have i0:decide (bO 0)=true:=by decide
 have i2:decide (bO 2)=true:=by decide
 have i3:decide (bO 3)=true:=by decide
 have ea:=aoh
 have es:=apg
 have ef:=arJ
 have sa:pN uA1 uA2 uA3=0:=by decide+kernel
 have ss:pU uS1 uS2=0:=by decide+kernel
 have el:((ai ((0:Int):Rat),(ai ((0:Int):Rat),ai ((2:Int):Rat))):BO3)=enc lC2:=rfl
 have kcs:decide (bZ (enc lC2))=true:=dT ami
 have kSA:decide (eH xS xA)=true:=dT ⟨aeA,Xb⟩
 have kFG:decide (eH xF xG)=true:=dT ⟨ahj.1,ahB.1⟩
 have kA:decide (okC 4000 xA)=true:=dT (cq Xb.1 (by decide) (by decide))
 have o1:onP qA (atP uO1)=true:=by decide+kernel
 have o2:onP qA (atP uO2)=false:=by decide+kernel
 have h3:decide (0≤((3:Int):Rat))=true:=by decide+kernel
 have cX:bR (xP pX0) (mkR ((0:Int):Rat) (Rat.divInt (-1) 2) ((3:Int):Rat))=0:=by decide+kernel
 have g0:bi [xF,xG] 0=some xF:=rfl
 have g1:bi [xF,xG] 1=some xG:=rfl
 have g2:bi [enc pX0] 0=some (enc pX0):=rfl
 have hcw:xA.2.2.2.1=false:=rfl
 have lFG:(((Ht qF qG).map (enc:Pt→BP)).length:Int)=2:=by rw[avh,asZ];rfl
 refine aP Nl (an9 ⟨0,?_⟩)
 unfold agK
 simp only[av,au,aO,ak,aq,aI,aL,aF,aJ,aB,aK,az,okd,aD,aX,aC,atW,atZ,atY,atX,mx,Nat.reduceAdd,Nat.reduceMul,Nat.reduceLeDiff,at8,at4,cond_true,cond_false,bH,bG,aE,aH,aM,cf,k01,k11,km1,km4,k12,k42,kmh,k35,k45,i0,i2,i3,ea,es,el,ef,sa,ss,kcs,kSA,kFG,kA,apl,atu,aoD,ati,g0,g1,g2,hcw,Fa,o1,o2,h3,cX,lFG,aur,aui,avR]
 rfl
def De:aN:=spN true true [] (fun _=>true) (fun _=>[RV.d .bool true])
theorem z7:SpK 10 De:=spX fun _ _=>aau
end
section
open Go.ChangeShapes Go.WideShapes Go.ChangeAt Go.WideMaps Go.WideElems Go.RowKit
theorem yp:ownKnob Tryz.prog.godebug=none:=by kernel_rfl
def Ty.ok:(t:Ty)→t.D→Prop
 |.int k,x=>(Lit.int k x).wf=true
 |.bool,_=>True
 |.str,_=>True
 |.sl e,xs=>xs.length≤9223372036854775807∧∀x∈xs,e.ok x
 |.pair a b,x=>a.ok x.1∧b.ok x.2
 |.st a,x=>a.ok x
def wj(rp:TypeId→Ty→Bool)(cells:TypeId→Nat):List Field→Ty→Nat→Bool
 |[],_,_=>false
 |[f],a,off=>rp f.type a&&Nat.beq f.offset off&&Nat.beq (cells f.type) a.n
 |f::g::fs,.pair a b,off=>rp f.type a&&Nat.beq f.offset off&&Nat.beq (cells f.type) a.n&&wj rp cells (g::fs) b (off+a.n)
 |_,_,_=>false
def E9(rp:Ty→Bool)(n:Nat):Nat→Ty→Bool
 |0,_=>false
 |1,a=>rp a&&Nat.beq a.n n
 |k+2,.pair a b=>rp a&&Nat.beq a.n n&&E9 rp n (k+1) b
 |_,_=>false
def rep(P:Program):Nat→TypeId→Ty→Bool
 |0,_,_=>false
 |n+1,t,ty=>match P.underlying t,ty with
  |some (.int k),.int k'=>decide (k=k')
  |some .bool,.bool=>true
  |some .string,.str=>true
  |some (.slice e),.sl ety=>rep P n e ety&&Nat.beq (P.cellsOf e) ety.n&&Nat.ble 1 ety.n
  |some (.struct fs),.st a=>wj (rep P n) P.cellsOf fs.toList a 0&&Nat.beq (P.cellsOf t) a.n
  |some (.array k e),.st a=>E9 (rep P n e) (P.cellsOf e) k a&&Nat.beq (P.cellsOf t) a.n
  |_,_=>false
theorem ad5{w:World}{a:Addr}{v:Value}(h:w.cell? a=some v):a.block<w.heap.size∧a.spot=none:=by
 unfold World.cell? at h
 split at h
 ·rename_i hb
  refine⟨(aue.1 hb).1,?_⟩
  split at h
  ·cases h
  ·rename_i hn;simpa using hn
 ·cases h
theorem Fg{α β:Type}{f:α→Option β}:∀{l:List α} {r:List β},l.mapM f=some r→r.length=l.length∧∀(j:Nat) (y:β),r[j]?=some y→∃x,l[j]?=some x∧f x=some y
 |[],r,h=>by simp at h;subst h;simp
 |x::l,r,h=>by
  rw[List.mapM_cons]at h
  cases hx:f x with
  |none=>rw[hx]at h;simp at h
  |some y=>
   rw[hx]at h
   cases hl:l.mapM f with
   |none=>rw[hl]at h;simp at h
   |some r'=>
    rw[hl]at h
    obtain rfl:y::r'=r:=by simpa using h
    obtain⟨h1,h2⟩:=Fg hl
    refine⟨by simp[h1],fun j z hz=>?_⟩
    cases j with
    |zero=>exact⟨x,rfl,by simpa [hx]using hz⟩
    |succ j=>obtain⟨u,h3,h4⟩:=h2 j z (by simpa using hz);exact⟨u,by simpa using h3,h4⟩
theorem Px{w:World}{base n:Nat}{a:Addr}{l:List Value}(h:w.cells? base a n=some l):l.length=n∧∀(j:Nat) (v:Value),l[j]?=some v→w.cell? (a.add j)=some v:=by
 unfold World.cells? at h
 split at h
 ·obtain⟨h1,h2⟩:=Fg h
  refine⟨by simpa using h1,fun j v hv=>?_⟩
  obtain⟨x,h3,h4⟩:=h2 j v hv
  obtain⟨h5,h6⟩:=at9.1 h3
  rw[List.getElem_range]at h6
  rw[h6];exact h4
 ·cases h
theorem Xe{α β:Type}{n:Nat}{p:Nat→α→β→Prop}(h:∀i,i<n→∃s t,p i s t):∃(l:List α) (m:List β),l.length=n∧m.length=n∧∀i s t,l[i]?=some s→m[i]?=some t→p i s t:=by
 induction n with
 |zero=>exact⟨[],[],rfl,rfl,fun i s t h=>by simp at h⟩
 |succ n ih=>
  obtain⟨l,m,h1,h2,h3⟩:=ih fun i hi=>h i (by omega)
  obtain⟨s,t,hst⟩:=h n (by omega)
  refine⟨l++[s],m++[t],by simp[h1],by simp[h2],fun i s' t' hs ht=>?_⟩
  rcases auw i n with hi|hi
  ·rw[auf (by omega)]at hs ht
   exact h3 i s' t' hs ht
  ·rw[aug (by omega)]at hs ht
   have e:i=n:=by
    have:=(at9.1 hs).1
    simp at this
    omega
   subst e
   rw[h1,avv]at hs
   rw[h2,avv]at ht
   simp at hs ht
   subst hs ht
   exact hst
section
variable {H:Type} {enc:TypeId×Value→H} {P:Program} {w:World} {base:Nat} {spare:Nat→Bool} {held:Bool}
def R1(enc:TypeId×Value→H)(P:Program)(w:World)(base:Nat)(spare:Nat→Bool)(held:Bool)(ty:Ty):Prop:=∀(n:Nat) (t:TypeId),rep P n t ty=true→∀(fuel:Nat) (cs:List Value) (x:DataW H×List MemPlace),cs.length=ty.n→DataW.trod enc P w base spare held fuel t cs=some x→∃y:ty.D,ty.rd (fun _=>True) w cs y∧ty.ok y
def R2(enc:TypeId×Value→H)(P:Program)(w:World)(base:Nat)(spare:Nat→Bool)(held:Bool)(ty:Ty):Prop:=∀(n:Nat) (fs:List Field) (off:Nat) (cs:List Value),wj (rep P n) P.cellsOf fs ty off=true→cs.length=ty.n→(∀f∈fs,off≤f.offset→∃fuel x,DataW.trod enc P w base spare held fuel f.type ((cs.drop (f.offset-off)).take (P.cellsOf f.type))=some x)→∃y:ty.D,ty.rd (fun _=>True) w cs y∧ty.ok y
def R3(enc:TypeId×Value→H)(P:Program)(w:World)(base:Nat)(spare:Nat→Bool)(held:Bool)(ty:Ty):Prop:=∀(n k:Nat) (e:TypeId) (cs:List Value),E9 (rep P n e) (P.cellsOf e) k ty=true→cs.length=ty.n→(∀i,i<k→∃fuel x,DataW.trod enc P w base spare held fuel e ((cs.drop (i*P.cellsOf e)).take (P.cellsOf e))=some x)→∃y:ty.D,ty.rd (fun _=>True) w cs y∧ty.ok y
theorem art{ty:Ty}(h1:R1 enc P w base spare held ty)(hp:∀(n:Nat) (f g:Field) (fs:List Field) (off:Nat) (cs:List Value),wj (rep P n) P.cellsOf (f::g::fs) ty off=true→cs.length=ty.n→(∀q∈f::g::fs,off≤q.offset→∃fuel x,DataW.trod enc P w base spare held fuel q.type ((cs.drop (q.offset-off)).take (P.cellsOf q.type))=some x)→∃y:ty.D,ty.rd (fun _=>True) w cs y∧ty.ok y):R2 enc P w base spare held ty:=by
 intro n fs off cs hr hl hf
 match fs,hr,hf with
 |[],hr,_=>simp[wj]at hr
 |[f],hr,hf=>
  simp only[wj,at3]at hr
  have ho:=at0 hr.1.2
  have hc:=at0 hr.2
  obtain⟨fuel,x,hx⟩:=hf f (by simp) (by omega)
  rw[ho,avv,hc,vD _ _ hl]at hx
  exact h1 n f.type hr.1.1 fuel cs x hl hx
 |f::g::fs,hr,hf=>exact hp n f g fs off cs hr hl hf
theorem aru{ty:Ty}(h1:R1 enc P w base spare held ty)(hp:∀(n k:Nat) (e:TypeId) (cs:List Value),E9 (rep P n e) (P.cellsOf e) (k+2) ty=true→cs.length=ty.n→(∀i,i<k+2→∃fuel x,DataW.trod enc P w base spare held fuel e ((cs.drop (i*P.cellsOf e)).take (P.cellsOf e))=some x)→∃y:ty.D,ty.rd (fun _=>True) w cs y∧ty.ok y):R3 enc P w base spare held ty:=by
 intro n k e cs hr hl hf
 match k,hr,hf with
 |0,hr,_=>simp[E9]at hr
 |1,hr,hf=>
  simp only[E9,at3]at hr
  have hc:=at0 hr.2
  obtain⟨fuel,x,hx⟩:=hf 0 (by omega)
  rw[Nat.zero_mul,←hc,vD _ _ hl]at hx
  exact h1 n e hr.1 fuel cs x hl hx
 |k+2,hr,hf=>exact hp n k e cs hr hl hf
theorem Z6:∀(ty:Ty),R1 enc P w base spare held ty∧R2 enc P w base spare held ty∧R3 enc P w base spare held ty:=by
 intro ty
 have pT:∀{ty:Ty},(∀a b,ty≠.pair a b)→R1 enc P w base spare held ty→R1 enc P w base spare held ty∧R2 enc P w base spare held ty∧R3 enc P w base spare held ty:=by
  intro ty hne h1
  refine⟨h1,art h1 fun n f g fs off cs hr=>?_,aru h1 fun n k e cs hr=>?_⟩
  ·cases ty<;>first|exact absurd rfl (hne _ _)|simp[wj]at hr
  ·cases ty<;>first|exact absurd rfl (hne _ _)|simp[E9]at hr
 induction ty with
 |int k=>
  refine pT (fun a b e=>by cases e) fun n t hr fuel cs x hl hx=>?_
  cases n with
  |zero=>simp[rep]at hr
  |succ n=>
   unfold rep at hr
   split at hr<;>try (cases hr;done)
   all_goals rename_i hu he<;>cases he
   have:=atS hr
   subst this
   obtain⟨m,rfl,_,hw⟩:=DataW.trod_int hu hx
   exact⟨m,rfl,hw⟩
 |bool=>
  refine pT (fun a b e=>by cases e) fun n t hr fuel cs x hl hx=>?_
  cases n with
  |zero=>simp[rep]at hr
  |succ n=>
   unfold rep at hr
   split at hr<;>try (cases hr;done)
   all_goals rename_i hu he<;>cases he
   obtain⟨m,rfl,_⟩:=DataW.trod_bool hu hx
   exact⟨m,rfl,trivial⟩
 |str=>
  refine pT (fun a b e=>by cases e) fun n t hr fuel cs x hl hx=>?_
  cases n with
  |zero=>simp[rep]at hr
  |succ n=>
   unfold rep at hr
   split at hr<;>try (cases hr;done)
   all_goals rename_i hu he<;>cases he
   cases fuel with
   |zero=>simp[DataW.trod]at hx
   |succ fuel=>
    unfold DataW.trod at hx
    rw[hu]at hx
    split at hx<;>simp_all
    exact⟨_,rfl,trivial⟩
 |sl e ih=>
  refine pT (fun a b e=>by cases e) fun n t hr fuel cs x hl hx=>?_
  cases n with
  |zero=>simp[rep]at hr
  |succ n=>
   unfold rep at hr
   split at hr<;>try (cases hr;done)
   all_goals rename_i hu he<;>cases he
   simp only[at3]at hr
   obtain⟨⟨r1,r2⟩,r3⟩:=hr
   have hc:=at0 r2
   have hn0:=at6 r3
   rcases Deep.open_slice hu hx with⟨rfl,_⟩|⟨a,len,cap,m,nn,D,Pl,rfl,hb,hle,hcap,hm,_,hel⟩
   ·exact⟨[],zZ,by simp,fun x hx=>by simp at hx⟩
   ·have hlm:len≤m:=by rw[hm];split<;>omega
    have key:∀i,i<len→∃(l:List Value) (y:e.D),(e.rd (fun _=>True) w l y∧e.ok y)∧∀j v,l[j]?=some v→w.cell? ((a.add (i*e.n)).add j)=some v:=by
     intro i hi
     obtain⟨cs',h1,h2⟩:=hel i (by omega)
     rw[hc]at h1
     obtain⟨h3,h4⟩:=Px h1
     obtain⟨y,h5⟩:=ih.1 n _ r1 nn cs' _ h3 h2
     exact⟨cs',y,h5,h4⟩
    obtain⟨css,ys,l1,l2,hk⟩:=Xe key
    have hall:cJ (fun l y=>e.rd (fun _=>True) w l y) css ys:=LM (by omega) fun i l y h1 h2=>(hk i l y h1 h2).1.1
    refine⟨ys,⟨some a,len,cap,css,rfl,l2,hle,hcap,hall,fun h0=>?_⟩,by unfold maxLen at hcap;omega,fun y hy=>?_⟩
    ·obtain⟨l0,hl0⟩:∃l,css[0]?=some l:=⟨_,atU (by omega)⟩
     obtain⟨y0,hy0,hrd0⟩:=iH hall 0 l0 hl0
     have hlen0:=Ty.rd_len hrd0
     obtain⟨v0,hv0⟩:∃v,l0[0]?=some v:=⟨_,atU (by omega)⟩
     have hc0:=(hk 0 l0 y0 hl0 hy0).2 0 v0 hv0
     have e0:(a.add (0*e.n)).add 0=a:=by simp[Addr.add]
     rw[e0]at hc0
     obtain⟨h1,h2⟩:=ad5 hc0
     obtain⟨b,off,sp⟩:=a
     dsimp only at h1 h2
     subst h2
     refine⟨b,off,rfl,trivial,h1,fun i v hv=>?_⟩
     have hls:=fW hall
     have hi:i<css.flatten.length:=(at9.1 hv).1
     rw[gT hls,l1]at hi
     have hq:i/e.n<len:=Nat.div_lt_of_lt_mul (by rw[Nat.mul_comm];exact hi)
     obtain⟨l,hl⟩:∃l,css[i/e.n]?=some l:=⟨_,atU (by omega)⟩
     obtain⟨y,hy,hrd⟩:=iH hall _ l hl
     have hmod:i%e.n<e.n:=awP _ hn0
     obtain⟨u,hu'⟩:∃u,l[i%e.n]?=some u:=⟨_,atU (by rw[Ty.rd_len hrd];exact hmod)⟩
     have hfl:=lm hls hl hu'
     have hdm:i/e.n*e.n+i%e.n=i:=by rw[Nat.mul_comm];exact Nat.div_add_mod i e.n
     rw[hdm,hv]at hfl
     injection hfl with hfl
     subst hfl
     have:=(hk _ l y hl hy).2 _ _ hu'
     rw[dU,dU]at this
     rwa [avC,hdm]at this
    ·obtain⟨i,hi,rfl⟩:=awi hy
     obtain⟨l,hl,_⟩:=pJ hall i _ (atU hi)
     exact(hk i l _ hl (atU hi)).1.2
 |st a ih=>
  refine pT (fun a b e=>by cases e) fun n t hr fuel cs x hl hx=>?_
  cases n with
  |zero=>simp[rep]at hr
  |succ n=>
   unfold rep at hr
   split at hr<;>try (cases hr;done)
   all_goals rename_i hu he<;>cases he
   ·simp only[at3]at hr
    obtain⟨xs,k,rfl,_,_,hlen,hg⟩:=DataW.trod_struct hu hx
    refine ih.2.1 n _ 0 cs hr.1 hl fun f hf _=>?_
    obtain⟨i,hi,rfl⟩:=awi hf
    rename_i fs
    have h1:=hg i _ (by rw[←au2];exact atU hi)
    obtain⟨y,hy⟩:∃y,xs[i]?=some y:=⟨_,atU (by rw[hlen];simpa using hi)⟩
    rw[hy]at h1
    exact⟨k,y,by rw[awQ];exact h1⟩
   ·simp only[at3]at hr
    obtain⟨xs,k,rfl,_,_,hlen,hg⟩:=DataW.trod_array hu hx
    refine ih.2.2 n _ _ cs hr.1 hl fun i hi=>?_
    have h1:=hg i hi
    obtain⟨y,hy⟩:∃y,xs[i]?=some y:=⟨_,atU (by rw[hlen];exact hi)⟩
    rw[hy]at h1
    exact⟨k,y,h1⟩
 |pair a b iha ihb=>
  have h1:R1 enc P w base spare held (.pair a b):=by
   intro n t hr
   cases n with
   |zero=>simp[rep]at hr
   |succ n=>
    unfold rep at hr
    split at hr<;>first|(cases hr;done)|(rename_i he;cases he)
  have cut:∀{cs:List Value} {k m:Nat},cs.length=a.n+b.n→((cs.drop a.n).drop k).take m=(cs.drop (a.n+k)).take m:=fun _=>by rw[aw5]
  refine⟨h1,art h1 fun n f g fs off cs hr hl hf=>?_,aru h1 fun n k e cs hr hl hf=>?_⟩
  ·simp only[wj,at3]at hr
   obtain⟨⟨⟨r1,r2⟩,r3⟩,r4⟩:=hr
   have ho:=at0 r2
   have hc:=at0 r3
   simp only[Ty.n]at hl
   obtain⟨fuel,x,hx⟩:=hf f (by simp) (by omega)
   rw[ho,avv,hc,avz]at hx
   obtain⟨y1,k1,k2⟩:=iha.1 n f.type r1 fuel (cs.take a.n) x (by simp;omega) hx
   obtain⟨y2,k3,k4⟩:=ihb.2.1 n (g::fs) (off+a.n) (cs.drop a.n) r4 (by simp;omega) fun q hq hle=>by
    obtain⟨fuel,x,hx⟩:=hf q (by simp only[aud]at hq ⊢;exact .inr hq) (by omega)
    refine⟨fuel,x,?_⟩
    rw[aw5,show a.n+(q.offset-(off+a.n))=q.offset-off by omega]
    exact hx
   exact⟨(y1,y2),⟨_,_,(avp a.n cs).symm,k1,k3⟩,k2,k4⟩
  ·simp only[E9,at3]at hr
   obtain⟨⟨r1,r2⟩,r3⟩:=hr
   have hc:=at0 r2
   simp only[Ty.n]at hl
   obtain⟨fuel,x,hx⟩:=hf 0 (by omega)
   rw[Nat.zero_mul,avz,←hc]at hx
   obtain⟨y1,k1,k2⟩:=iha.1 n e r1 fuel (cs.take a.n) x (by simp;omega) hx
   obtain⟨y2,k3,k4⟩:=ihb.2.2 n (k+1) e (cs.drop a.n) r3 (by simp;omega) fun i hi=>by
    obtain⟨fuel,x,hx⟩:=hf (i+1) (by omega)
    refine⟨fuel,x,?_⟩
    rw[aw5,hc,show P.cellsOf e+i*P.cellsOf e=(i+1)*P.cellsOf e by rw[avO];omega]
    exact hx
   exact⟨(y1,y2),⟨_,_,(avp a.n cs).symm,k1,k3⟩,k2,k4⟩
end
end
theorem AQ{n:Int}(h:Ty.ok (.int .i8) n):i8P n:=bounds_i8 h
theorem J5{n:Int}(h:Ty.ok (.int .u8) n):u8P n:=bounds_u8 h
theorem ae6{x:Dr}(h:Ty.ok tDr x):AB x:=⟨J5 h.1,J5 h.2.1,AQ h.2.2.1,AQ h.2.2.2.1,AQ h.2.2.2.2.1,AQ h.2.2.2.2.2.1,AQ h.2.2.2.2.2.2.1,AQ h.2.2.2.2.2.2.2⟩
theorem rQ{x:Pce}(h:Ty.ok fi x):qU x:=⟨ae6 h.1,ae6 h.2.1,J5 h.2.2⟩
theorem abc{c d:BCU}(h:eH c d):(db c d).length≤4∧∀x∈db c d,okP 4000 x:=by
 obtain⟨h1,h2⟩:=uh h
 have h3:(db c d).length≤((jq c d).filter (fR c d)).length:=mz
 have h4:=List.length_filter_le (fR c d) (jq c d)
 exact⟨by omega,fun x hx=>h2 x (ava.1 (eL hx)).1⟩
theorem RJ{c d:BCU}(h:eH c d):yN (db c d) (dm c d):=by
 obtain⟨h1,h2⟩:=abc h
 obtain⟨h3,h4⟩:=sJ h
 exact⟨by omega,h2,fun x hx=>cE (h4 x hx).1 (by decide) (by decide)⟩
section
open Go.ChangeShapes Go.WideShapes Go.ChangeAt Go.WideMaps Go.WideElems Go.RowKit Go.Maps
section
variable {H:Type} {enc:TypeId×Value→H} {P:Program}
theorem Au{f:Func}{s:ChangeSpec}{apart fresh handsOn again:Bool}{W W':World}{args:Array Value}{v:Value}{ds gs:List (DataW H)}{before pa pv:List MemPlace}
  (hW:DataW.Whole enc P f.params.toList s.vars apart W args.toList ds gs before)
  (hres:∀(b:Nat) (sp:Nat→Bool) (hd:Bool),DataW.TrodAll enc P W' b sp hd f.resultTypes.toList (v.resultList f.resultTypes.size) (s.fn H (ds++gs)).results [])
  (hargs:∀sp:Nat→Bool,(∀p∈before,sp p.block=true)→DataW.TrodAll enc P W' 0 sp true f.params.toList args.toList (s.fn H (ds++gs)).args pa)
  (hvars:∀sp:Nat→Bool,(∀p∈before,sp p.block=true)→DataW.TrodVars enc P W' sp s.vars (s.fn H (ds++gs)).vars pv)
  (hps:before=pa++pv) (hb:Below W.heap.size W W')
  (hok:∀(j:Nat) (t:TypeId) (r:Value),f.resultTypes[j]?=some t→(v.resultList f.resultTypes.size)[j]?=some r→Value.okWide P W' .any 0 t r):
  s.post enc P f apart fresh handsOn again W args v W':=by
 have hlt:∀p∈before,p.block<W.heap.size:=fun p hp=>hW.lt p hp
 have hold:∀p∈before,(fun b=>decide (b<W.heap.size)) p.block=true:=fun p hp=>by simpa using hlt p hp
 refine⟨ds,gs,before,[],pa,pv,hW,hres _ _ _,hargs _ hold,hvars _ hold,World.keptBut_mono (fun p hp=>⟨hp,?_⟩) (hb.frame (·∈before)),fun _=>?_⟩
 ·rw[hps,auo]at hp
  exact Or.inr hp
 ·obtain⟨_,_,_,_,_,hz,hn⟩:=hW
  refine⟨hok,_,_,([]++pa)++pv,⟨[]++pa,pv,trodAll_append (hargs _ (fun _ _=>rfl)) (hres _ _ _),hvars _ (fun _ _=>rfl),rfl,?_,?_⟩,?_⟩
  ·intro b off hp
   have hin:MemPlace.cell b off∈before:=by rw[hps];simpa using hp
   rw[hb.frozen (hlt _ hin)]
   exact hz b off hin
  ·intro ha
   have:=hn ha
   rw[hps]at this
   simpa using this
  ·intro p hp _
   rw[hps]
   simpa using hp
end
theorem WC:laidOutB Tryz.prog=true:=by kernel_rfl
theorem rm{H:Type}{enc:TypeId×Value→H}{P:Program}(hl:laidOutB P=true){W W':World}{sp:Nat→Bool}:∀(ts:List TypeId) (vs:List Value) (ds:List (DataW H)) (ps:List MemPlace),
  (ts.all fun t=>P.readableRec t&&Nat.ble (t+1) P.types.size)=true→DataW.TrodAll enc P W 0 (fun _=>true) true ts vs ds ps→(∀p∈ps,W.sameAt W' p)→(∀p∈ps,sp p.block=true)→DataW.TrodAll enc P W' 0 sp true ts vs ds ps
 |[],vs,ds,ps,_,h,_,_=>by obtain⟨rfl,rfl,rfl⟩:=trodAll_nil h;exact trodAll_mk0
 |t::ts,vs,ds,ps,ht,h,hs,hp=>by
  obtain⟨v,vs',d,ds',p,q,rfl,rfl,rfl,h0,h1⟩:=trodAll_cons h
  simp only[awj,at3]at ht
  exact trodAll_cons_mk (Trod_stays hl ht.1.1 (at6 ht.1.2) h0 (fun x hx=>hs x (avk _ hx)) (fun x hx=>hp x (avk _ hx)))
   (rm hl ts vs' ds' q ht.2 h1 (fun x hx=>hs x (av4 _ hx)) (fun x hx=>hp x (av4 _ hx)))
set_option maxRecDepth 100000 in
theorem xC{H:Type}{enc:TypeId×Value→H}{f:Func}{s:ChangeSpec}{apart fresh handsOn again:Bool}{W W':World}{args:Array Value}{ds:List (DataW H)}{before:List MemPlace}
  (hW:DataW.Whole enc Tryz.prog f.params.toList s.vars apart W args.toList ds [] before) (hv:s.vars=[]) (hr:f.resultTypes= #[4]) (hfn:(s.fn H (ds++[])).results=[.lit (.bool true)]∧(s.fn H (ds++[])).args=ds∧(s.fn H (ds++[])).vars=[])
  (hp:(f.params.toList.all fun t=>Tryz.prog.readableRec t&&Nat.ble (t+1) Tryz.prog.types.size)=true) (hb:Below W.heap.size W W'):s.post enc Tryz.prog f apart fresh handsOn again W args (.bool true) W':=by
 have hW':=hW
 obtain⟨p,q,hA,hV,rfl,hfz,hnd⟩:=hW
 have hq:q=[]:=by
  rw[hv]at hV
  exact(trodVars_none hV).2
 subst hq
 have hlt:∀x∈p,x.block<W.heap.size:=fun x hx=>hW'.lt x (by simpa using hx)
 refine Au (pa:=p) (pv:=[]) hW' ?_ ?_ ?_ rfl hb ?_
 ·intro b sp hd
  rw[hr,hfn.1]
  exact trodAll_mk1 (shut_bool Tryz.underlying4 _)
 ·intro sp hsp
  rw[hfn.2.1]
  exact rm WC _ _ _ _ hp hA (fun x hx=>hb.same (hlt x hx)) (fun x hx=>hsp x (by simpa using hx))
 ·intro sp _
  rw[hv,hfn.2.2]
  rfl
 ·exact ok_one hr rfl (okWide_bool_mk (P:=Tryz.prog) Tryz.underlying4 true)
theorem JB{P:Program}{w:World}{r:Reach}{base:Nat}{t e:TypeId}{n:Nat}{v:Value}(ht:P.underlying t=some (.array n e))(h:Value.okWide P w r base t v):∃cs,v=.agg cs∧cs.size=P.cellsOf t:=by
 simp only[Value.okWide,ht]at h
 obtain⟨cs,h1,h2,_⟩:=h
 exact⟨cs,h1,h2⟩
theorem I6{P:Program}{w:World}{r:Reach}{base:Nat}{t:TypeId}{v:Value}(ht:P.underlying t=some .string)(h:Value.okWide P w r base t v):∃s,v=.string s:=by
 simp only[Value.okWide,ht,Cell.okWide]at h
 cases v<;>simp_all [Cell.ok]
theorem ii{H:Type}{enc:TypeId×Value→H}{P:Program}{w:World}{r:Reach}{b0 base:Nat}{spare:Nat→Bool}{held:Bool}{v:Value}{d:DataW H}{p:List MemPlace}{t:TypeId}(n:Nat)(ty:Ty)(hrep:rep P n t ty=true)(hv:Value.okWide P w r b0 t v)(h:DataW.Trod enc P w base spare held t v d p):
  ∃y:ty.D,Rel1 [] (fun _=>True) w (.d ty y) v∧ty.ok y:=by
 obtain⟨fuel,hf⟩:=h
 have fin:v.cells.toList.length=ty.n→v=mkV ty v.cells.toList→∃y:ty.D,Rel1 [] (fun _=>True) w (.d ty y) v∧ty.ok y:=fun hl hm=>by
  obtain⟨y,h1,h2⟩:=(Z6 ty).1 n t hrep fuel _ _ hl hf
  exact⟨y,⟨_,h1,hm⟩,h2⟩
 cases n with
 |zero=>simp[rep]at hrep
 |succ n=>
  have hrep':=hrep
  unfold rep at hrep'
  split at hrep'<;>try (cases hrep';done)
  ·rename_i hu;obtain⟨m,rfl⟩:=okWide_int hu hv;exact fin rfl rfl
  ·rename_i hu;obtain⟨m,rfl⟩:=okWide_bool hu hv;exact fin rfl rfl
  ·rename_i hu;obtain⟨m,rfl⟩:=I6 hu hv;exact fin rfl rfl
  ·rename_i hu;obtain⟨q,m,c,rfl⟩:=okWide_slice hu hv;exact fin rfl rfl
  ·rename_i hu
   obtain⟨cs,rfl,hsz⟩:=okWide_struct hu hv
   simp only[at3]at hrep'
   exact fin (by simp only[Value.cells,Array.length_toList,hsz];exact at0 hrep'.2) (by simp[mkV,Ty.isSt,Value.cells])
  ·rename_i hu
   obtain⟨cs,rfl,hsz⟩:=JB hu hv
   simp only[at3]at hrep'
   exact fin (by simp only[Value.cells,Array.length_toList,hsz];exact at0 hrep'.2) (by simp[mkV,Ty.isSt,Value.cells])
end
end Go.Proofs.YtgddhgcjmddjfaaGreat
end
