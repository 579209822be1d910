/- Places: the reference's points of them. -/
import Derived.Test.YtgddhgcjmddjfaaGreatC20
import Derived.Test.YtgddhgcjmddjfaaGreatC14
noncomputable section
namespace Go.Proofs.YtgddhgcjmddjfaaGreat
open Go.RowKit Go.IntKind
abbrev Plc:=Int×Int×Int×Int×Int×Int
abbrev DC:Ty:=.st (.pair (.int .i16) (.pair (.int .i16) (.pair (.int .i16) (.pair (.int .i16) (.pair (.int .u16) (.int .u8))))))
def Hp(n:Int):Prop:= -32768≤n∧n≤32767
instance (n:Int):Decidable (Hp n):=by unfold Hp;infer_instance
def Ig(x:Plc):Prop:=Hp x.1∧Hp x.2.1∧Hp x.2.2.1∧Hp x.2.2.2.1∧(0≤x.2.2.2.2.1∧x.2.2.2.2.1≤65535)∧u8P x.2.2.2.2.2
instance (x:Plc):Decidable (Ig x):=by unfold Ig;infer_instance
def aa5(a b c d:Int):Rt:=mkR (Rat.divInt a (d+1)) (Rat.divInt b (d+1)) (c:Rat)
def tu(x:Plc):Pt:=mkP (aa5 x.1 x.2.1 x.2.2.2.2.1 x.2.2.2.2.2) (aa5 x.2.2.1 x.2.2.2.1 x.2.2.2.2.1 x.2.2.2.2.2)
def Se:Env:=[(37,uo),(35,lE),(36,xh),(41,Eh)]
theorem OR:EnvAll Tryz.prog Se:=⟨qc,iC,u4,Bw,trivial⟩
def aid:Ctx:=CX Se []
def XL(x:Plc)(_k:KT):Option (List RV):=let y1:=i64.wrap x.2.2.2.2.1;let y2:=i64.wrap x.1;let y3:=i64.wrap ((i64.wrap x.2.2.2.2.2)+1);let y4:=i64.wrap x.2.1;let y5:=hid (ai (Rat.divInt y2 y3));let y6:=hid (ai (Rat.divInt y4 y3));let y7:=hid (ai (y1:Rat));let y8:=i64.wrap x.2.2.1;let y9:=i64.wrap x.2.2.2.1;let y10:=hid (ai (Rat.divInt y8 y3));let y11:=hid (ai (Rat.divInt y9 y3));let y12:=hid (enc (mkR (ae y5) (ae y6) (ae y7)));let y13:=hid (enc (mkR (ae y10) (ae y11) (ae y7)));match decide (bO y1)with|true=>(match decide (eK y2 y3)with|true=>(match decide (eK y4 y3)with|true=>(match decide (ok Rat 100000 y5∧ok Rat 100000 y6∧ok Rat 100000 y7∧0≤ae y7)with|true=>(match decide (eK y8 y3)with|true=>(match decide (eK y9 y3)with|true=>(match decide (ok Rat 100000 y10∧ok Rat 100000 y11∧ok Rat 100000 y7∧0≤ae y7)with|true=>(match decide (okT 15000 y12∧okT 15000 y13∧vO (dec y12) (dec y13))with|true=>some [RV.d tP (hid (enc (mkP (dec y12) (dec y13))))]|false=>none)|false=>none)|false=>none)|false=>none)|false=>none)|false=>none)|false=>none)|false=>none
theorem akn(x:Plc):RS aid 11 [.d DC x] (XL x):=rsX
theorem XZ(x:Plc)(h:Ig x):Con Tryz.prog 11 [.d DC x] [.d tP (enc (tu x))]:=by
 refine aP OR (akn _ ⟨0,?_⟩)
 obtain⟨h1,h2,h3,h4,⟨h5,h5'⟩,h6,h6'⟩:=h
 have f:∀n,Hp n→Bd (Rat.divInt n (x.2.2.2.2.2+1)) 3∧eK n (x.2.2.2.2.2+1)∧i64.wrap n=n:=fun n hn=>by
  obtain⟨g1,g2⟩:=hn
  exact⟨D5 ⟨by omega,by omega⟩ ⟨by omega,by omega⟩ (by omega),⟨⟨by omega,by omega⟩,⟨by omega,by omega⟩,by omega⟩,bz (by omega) (by omega)⟩
 obtain⟨b1,p1,w1⟩:=f _ h1
 obtain⟨b2,p2,w2⟩:=f _ h2
 obtain⟨b3,p3,w3⟩:=f _ h3
 obtain⟨b4,p4,w4⟩:=f _ h4
 have i5:bO x.2.2.2.2.1:=⟨by omega,by omega⟩
 have b5:Bd (x.2.2.2.2.1:Rat) 3:=ff i5
 have n5:0≤(x.2.2.2.2.1:Rat):=Rat.intCast_nonneg.2 h5
 have N5:Nn (x.2.2.2.2.1:Rat):=⟨n5⟩
 have w5:i64.wrap x.2.2.2.2.1=x.2.2.2.2.1:=bz (by omega) (by omega)
 have w6:i64.wrap x.2.2.2.2.2=x.2.2.2.2.2:=bz (by omega) (by omega)
 have w7:i64.wrap (x.2.2.2.2.2+1)=x.2.2.2.2.2+1:=bz (by omega) (by omega)
 unfold XL
 simp only[av,au,aO,ak,aq,aI,aL,aT,aF,aJ,aB,aK,az,okd,aD,aX,aC,atW,atZ,atY,atX,mx,Nat.reduceAdd,Nat.reduceMul,Nat.reduceLeDiff,at8,at4,cond_true,cond_false,bH,bG,aE,aH,aM,cf,w1,w2,w3,w4,w5,w6,w7,dT i5,dT p1,dT p2,dT p3,dT p4,dT n5,dT (tK _ _ _ _ _)]
 rfl
def Nf:aN:=spN false true [DC] (fun x=>decide (Ig x.1)) (fun x=>[RV.d tP (hid (enc (tu x.1)))])
theorem Pj:SpK 11 Nf:=spX fun x h=>by simp only[ak];exact XZ x.1 (atS h)
theorem aj0{x:Plc}(h:Ig x):Bd (tu x) 20∧Rpd (tu x):=by
 obtain⟨h1,h2,h3,h4,⟨h5,h5'⟩,h6,h6'⟩:=h
 have f:∀n,Hp n→Bd (Rat.divInt n (x.2.2.2.2.2+1)) 3:=fun n hn=>by
  obtain⟨g1,g2⟩:=hn
  exact D5 ⟨by omega,by omega⟩ ⟨by omega,by omega⟩ (by omega)
 have b1:=f _ h1
 have b2:=f _ h2
 have b3:=f _ h3
 have b4:=f _ h4
 have b5:Bd (x.2.2.2.2.1:Rat) 3:=ff ⟨by omega,by omega⟩
 have N5:Nn (x.2.2.2.2.1:Rat):=⟨Rat.intCast_nonneg.2 h5⟩
 have bX:Bd (aa5 x.1 x.2.1 x.2.2.2.2.1 x.2.2.2.2.2) 20:=(inferInstance:Bd (mkR (Rat.divInt x.1 (x.2.2.2.2.2+1)) (Rat.divInt x.2.1 (x.2.2.2.2.2+1)) (x.2.2.2.2.1:Rat)) _).mono (by decide)
 have bY:Bd (aa5 x.2.2.1 x.2.2.2.1 x.2.2.2.2.1 x.2.2.2.2.2) 20:=(inferInstance:Bd (mkR (Rat.divInt x.2.2.1 (x.2.2.2.2.2+1)) (Rat.divInt x.2.2.2.1 (x.2.2.2.2.2+1)) (x.2.2.2.2.1:Rat)) _).mono (by decide)
 exact⟨ajZ (h:=bX) (h':=bY),ahL Hg Hg (tK _ _ _ _ _)⟩
theorem aab{y:Plc}(h:Ty.ok DC y):Ig y:=⟨bounds_i16 h.1,bounds_i16 h.2.1,bounds_i16 h.2.2.1,bounds_i16 h.2.2.2.1,bounds_u16 h.2.2.2.2.1,J5 h.2.2.2.2.2⟩
end Go.Proofs.YtgddhgcjmddjfaaGreat
end
