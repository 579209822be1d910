/- Common points of lines and circles: the reference's contracts. -/
import Derived.Test.YtgddhgcjmddjfaaGreatC15
noncomputable section
namespace Go.Proofs.YtgddhgcjmddjfaaGreat
open Go.RowKit Go.IntKind
theorem avo:type_of% @Rat.div_mul_cancel:=@Rat.div_mul_cancel
section
theorem PL(a b:Rat):((ai a,ai b):BV)=enc ((a,b):Rat×Rat):=nr rfl
theorem YU{q:Rat}(h:¬q<0)(h':¬q=0):0<q:=by grind
theorem rdl{l:Ln}(h:cY l≠0)(hl:l.1≠0∨l.2.1≠0):¬(l.2.1/cY l=0∧ -l.1/cY l=0):=by
 intro ⟨h1,h2⟩
 have m:∀a:Rat,a/cY l=0→a=0:=fun a e=>by
  have:a/cY l*cY l=a:=avo h
  rw[e,Rat.zero_mul]at this
  exact this.symm
 have:=m _ h1
 have:=m _ h2
 rcases hl with h|h<;>grind
section
variable {l c:Ln}
theorem TN(hl:l.1≠0∨l.2.1≠0)(h0:0≤iE l c):Rpd (tJ l c)∧Rpd (uf l c):=by
 have hn:=pH hl
 refine⟨Dw (fun h=>rdl hn hl ⟨by grind,by grind⟩) h0,Dw (rdl hn hl) h0⟩
theorem R7 [BdL l][BdC c]:Bd (tJ l c) 490∧Bd (uf l c) 490:=by
 obtain⟨h1,h2,h3,h4⟩:=v8 (l:=l) (c:=c)
 have h5:Bd (iE l c) 257:=inferInstance
 have n1:Bd (-(l.2.1/cY l)) 61:=inferInstance
 have i1:Bd (cY l) 49:=inferInstanceAs (Bd (l.1*l.1+l.2.1*l.2.1) _)
 have n2:Bd (-l.1/cY l) 61:=(inferInstance:Bd (-l.1/cY l) _)
 have n3:Bd (-(-l.1/cY l)) 61:=inferInstance
 exact⟨Eg h1 n1 h2 n3 h5 (by decide),Eg h1 h3 h2 n2 h5 (by decide)⟩
end
theorem yY{c d:Ln}[BdC c][BdC d]:BdL (n6 c d):=by
 have b2:Bd (2:Rat) 3:=ff (n:=2) (by decide)
 have f1:Bd (rg c) 31:=(inferInstance:Bd (c.1*c.1+c.2.1*c.2.1-c.2.2) _).mono (by decide)
 have f2:Bd (rg d) 31:=(inferInstance:Bd (d.1*d.1+d.2.1*d.2.1-d.2.2) _).mono (by decide)
 have g1:Bd (2*(d.1-c.1)) _:=inferInstance
 have g2:Bd (2*(d.2.1-c.2.1)) _:=inferInstance
 have g3:Bd (rg d-rg c) _:=inferInstance
 exact⟨g1.mono (by decide),g2.mono (by decide),g3.mono (by decide)⟩
theorem Em{c d:Ln}(h:gZ c d=false):(n6 c d).1≠0∨(n6 c d).2.1≠0:=by
 unfold gZ at h
 unfold n6
 dsimp only
 by_cases h1:c.1=d.1
 ·rw[atT h1,atX]at h
  have:=au4 h
  right;grind
 ·left;grind
theorem Tm{c d:Ln}[BdC c][BdC d](h:gZ c d=false):cG (enc (n6 c d)):=kw (h:=yY) (Em h)
def sP:Env:=[(69,jI),(35,lE),(85,qk),(168,qv),(86,nC),(92,qE),(169,qw),(167,CU),(83,xl),(38,t3),(51,qD),(94,wX)]
theorem jl:EnvAll Tryz.prog sP:=⟨gN,iC,lX,mg,jT,mB,ma,Br,vP,qq,mv,vc,trivial⟩
def anL:Ctx:=CX sP []
def afJ(a b:BR)(_k:KT):Option (List RV):=match decide (okR a∧okR b)with|true=>some [RV.d tR (hid (ai (ae a+ae b)))]|false=>none
theorem arQ(a b:BR):RS anL 166 [.d tR a,.d tR b] (afJ a b):=rsX
theorem Z9(a b:BR)(h:okR a∧okR b):Con Tryz.prog 166 [.d tR a,.d tR b] [.d tR (ai (ae a+ae b))]:=by
 refine aP jl (arQ _ _ ⟨0,?_⟩)
 unfold afJ
 rw[dT h]
 simp only[ak]
def arO:Ctx:=CX sP []
def aeR(a b:BR)(_k:KT):Option (List RV):=match decide (okR a∧okR b)with|true=>some [RV.d tR (hid (ai (ae a-ae b)))]|false=>none
theorem aqw(a b:BR):RS arO 101 [.d tR a,.d tR b] (aeR a b):=rsX
theorem acL(a b:BR)(h:okR a∧okR b):Con Tryz.prog 101 [.d tR a,.d tR b] [.d tR (ai (ae a-ae b))]:=by
 refine aP jl (aqw _ _ ⟨0,?_⟩)
 unfold aeR
 rw[dT h]
 simp only[ak]
def aqS:Ctx:=CX sP []
def ag1(a b:BR)(_k:KT):Option (List RV):=match decide (okR a∧okR b)with|true=>some [RV.d tR (hid (ai (ae a*ae b)))]|false=>none
theorem apK(a b:BR):RS aqS 102 [.d tR a,.d tR b] (ag1 a b):=rsX
theorem ac8(a b:BR)(h:okR a∧okR b):Con Tryz.prog 102 [.d tR a,.d tR b] [.d tR (ai (ae a*ae b))]:=by
 refine aP jl (apK _ _ ⟨0,?_⟩)
 unfold ag1
 rw[dT h]
 simp only[ak]
def asc:Ctx:=CX sP []
def ag6(a:BR)(_k:KT):Option (List RV):=match decide (okR a)with|true=>some [RV.d tR (hid (ai (-ae a)))]|false=>none
theorem ap9(a:BR):RS asc 103 [.d tR a] (ag6 a):=rsX
theorem acQ(a:BR)(h:okR a):Con Tryz.prog 103 [.d tR a] [.d tR (ai (-ae a))]:=by
 refine aP jl (ap9 _ ⟨0,?_⟩)
 unfold ag6
 rw[dT h]
 simp only[ak]
def aqe:Ctx:=CX sP []
def afB(a b:BR)(_k:KT):Option (List RV):=match decide (fS a b)with|true=>some [RV.d tR (hid (ai (ae a/ae b)))]|false=>none
theorem aqY(a b:BR):RS aqe 99 [.d tR a,.d tR b] (afB a b):=rsX
theorem abz(a b:BR)(h:fS a b):Con Tryz.prog 99 [.d tR a,.d tR b] [.d tR (ai (ae a/ae b))]:=by
 refine aP jl (aqY _ _ ⟨0,?_⟩)
 unfold afB
 rw[dT h]
 simp only[ak]
def aky:Ctx:=CX sP []
def Xa(l m:BO3)(_k:KT):Option (List RV):=match decide (okR l.1∧okR m.2.1)with|true=>(match decide (okR l.2.1∧okR m.1)with|true=>(match decide (okR (hid (ai (ae l.1*ae m.2.1)))∧okR (hid (ai (ae l.2.1*ae m.1))))with|true=>(match(aS (ae (hid (ai (ae l.1*ae m.2.1)))) (ae (hid (ai (ae l.2.1*ae m.1)))))==0 with|true=>(match decide (okR l.1∧okR m.2.2)with|true=>(match decide (okR l.2.2∧okR m.1)with|true=>(match decide (okR (hid (ai (ae l.1*ae m.2.2)))∧okR (hid (ai (ae l.2.2*ae m.1))))with|true=>(match(aS (ae (hid (ai (ae l.1*ae m.2.2)))) (ae (hid (ai (ae l.2.2*ae m.1)))))==0 with|true=>(match decide (okR l.2.1∧okR m.2.2)with|true=>(match decide (okR l.2.2∧okR m.2.1)with|true=>(match decide (okR (hid (ai (ae l.2.1*ae m.2.2)))∧okR (hid (ai (ae l.2.2*ae m.2.1))))with|true=>some [RV.d .bool ((aS (ae (hid (ai (ae l.2.1*ae m.2.2)))) (ae (hid (ai (ae l.2.2*ae m.2.1)))))==0)]|false=>none)|false=>none)|false=>none)|false=>some [RV.d .bool false])|false=>none)|false=>none)|false=>none)|false=>some [RV.d .bool false])|false=>none)|false=>none)|false=>none
theorem alc(l m:BO3):RS aky 43 [.d tO l,.d tO m] (Xa l m):=rsX
theorem Xu(l m:BO3)(h:cG l∧cG m):Con Tryz.prog 43 [.d tO l,.d tO m] [.d .bool (oh (dec l) (dec m))]:=by
 refine aP jl (alc _ _ ⟨0,?_⟩)
 obtain⟨hl,hm⟩:=h
 obtain⟨l,rfl,bl,nl⟩:=eE hl
 obtain⟨m,rfl,bm,nm⟩:=eE hm
 unfold Xa oh
 simp only[ak,aq,aI,aL,aF,az,aX,atW,atY,Nat.reduceAdd,Nat.reduceLeDiff,aE]
 cases decide (l.1*m.2.1=l.2.1*m.1)<;>cases decide (l.1*m.2.2=l.2.2*m.1)<;>rfl
def akx:Ctx:=CX sP []
def X8(c d:BO3)(_k:KT):Option (List RV):=match decide (okR c.1∧okR d.1)with|true=>(match(aS (ae c.1) (ae d.1))==0 with|true=>(match decide (okR c.2.1∧okR d.2.1)with|true=>(match(aS (ae c.2.1) (ae d.2.1))==0 with|true=>(match decide (okR c.2.2∧okR d.2.2)with|true=>some [RV.d .bool ((aS (ae c.2.2) (ae d.2.2))==0)]|false=>none)|false=>some [RV.d .bool false])|false=>none)|false=>some [RV.d .bool false])|false=>none
theorem ah3(c d:BO3):RS akx 42 [.d tO c,.d tO d] (X8 c d):=rsX
theorem Vb(c d:BO3)(h:bZ c∧bZ d):Con Tryz.prog 42 [.d tO c,.d tO d] [.d .bool (qX (dec c) (dec d))]:=by
 refine aP jl (ah3 _ _ ⟨0,?_⟩)
 obtain⟨hc,hd⟩:=h
 obtain⟨c,rfl,bc,nc⟩:=dk hc
 obtain⟨d,rfl,bd,nd⟩:=dk hd
 unfold X8 qX
 simp only[aq,aI,aL,aF,az,aX,atW,atY,Nat.reduceLeDiff,aE]
 cases decide (c.1=d.1)<;>cases decide (c.2.1=d.2.1)<;>rfl
def Rn:aN:=spN false true [tR,tR] (fun x=>decide (okR x.1∧okR x.2.1)) (fun x=>[RV.d tR (hid (ai (ae x.1+ae x.2.1)))])
theorem X0:SpK 166 Rn:=spX fun x h=>by simp only[ak];exact Z9 x.1 x.2.1 (atS h)
def VS:aN:=spN false true [tR,tR] (fun x=>decide (okR x.1∧okR x.2.1)) (fun x=>[RV.d tR (hid (ai (ae x.1-ae x.2.1)))])
theorem RK:SpK 101 VS:=spX fun x h=>by simp only[ak];exact acL x.1 x.2.1 (atS h)
def UD:aN:=spN false true [tR,tR] (fun x=>decide (okR x.1∧okR x.2.1)) (fun x=>[RV.d tR (hid (ai (ae x.1*ae x.2.1)))])
theorem Vd:SpK 102 UD:=spX fun x h=>by simp only[ak];exact ac8 x.1 x.2.1 (atS h)
def WU:aN:=spN false true [tR] (fun x=>decide (okR x.1)) (fun x=>[RV.d tR (hid (ai (-ae x.1)))])
theorem YW:SpK 103 WU:=spX fun x h=>by simp only[ak];exact acQ x.1 (atS h)
def Vo:aN:=spN false true [tR,tR] (fun x=>decide (fS x.1 x.2.1)) (fun x=>[RV.d tR (hid (ai (ae x.1/ae x.2.1)))])
theorem RT:SpK 99 Vo:=spX fun x h=>by simp only[ak];exact abz x.1 x.2.1 (atS h)
def yz:Env:=(166,Rn)::(101,VS)::(102,UD)::(103,WU)::(99,Vo)::sP
theorem mi:EnvAll Tryz.prog yz:=⟨X0,RK,Vd,YW,RT,jl⟩
def ann:Ctx:=CX yz []
def ags(l m:BO3)(_k:KT):Option (List RV):=match decide (okR l.1∧okR m.2.1)with|true=>(match decide (okR m.1∧okR l.2.1)with|true=>(match decide (okR (hid (ai (ae l.1*ae m.2.1)))∧okR (hid (ai (ae m.1*ae l.2.1))))with|true=>some [RV.d tR (hid (ai (ae (hid (ai (ae l.1*ae m.2.1)))-ae (hid (ai (ae m.1*ae l.2.1))))))]|false=>none)|false=>none)|false=>none
theorem apw(l m:BO3):RS ann 105 [.d tO l,.d tO m] (ags l m):=rsX
theorem acX(l m:BO3)(h:cG l∧cG m):Con Tryz.prog 105 [.d tO l,.d tO m] [.d tR (ai (fH (dec l) (dec m)))]:=by
 refine aP mi (apw _ _ ⟨0,?_⟩)
 obtain⟨hl,hm⟩:=h
 obtain⟨l,rfl,bl,nl⟩:=eE hl
 obtain⟨m,rfl,bm,nm⟩:=eE hm
 unfold ags fH
 simp only[ak,aq,aI,aL,aF,az,aX,atW,atY,Nat.reduceAdd,Nat.reduceLeDiff]
def apG:Ctx:=CX yz []
def aeH(l:BO3)(_k:KT):Option (List RV):=match decide (okR l.1∧okR l.1)with|true=>(match decide (okR l.2.1∧okR l.2.1)with|true=>(match decide (okR (hid (ai (ae l.1*ae l.1)))∧okR (hid (ai (ae l.2.1*ae l.2.1))))with|true=>some [RV.d tR (hid (ai (ae (hid (ai (ae l.1*ae l.1)))+ae (hid (ai (ae l.2.1*ae l.2.1))))))]|false=>none)|false=>none)|false=>none
theorem apq(l:BO3):RS apG 98 [.d tO l] (aeH l):=rsX
theorem aan(l:BO3)(h:cG l):Con Tryz.prog 98 [.d tO l] [.d tR (ai (cY (dec l)))]:=by
 refine aP mi (apq _ ⟨0,?_⟩)
 have hl:=h
 obtain⟨l,rfl,bl,nl⟩:=eE hl
 unfold aeH cY
 simp only[ak,aq,aI,aL,aF,az,aX,atW,atY,Nat.reduceAdd,Nat.reduceLeDiff]
def am8:Ctx:=CX yz []
def afy(l:BO3)(x y:BR)(_k:KT):Option (List RV):=match decide (okR l.1∧okR x)with|true=>(match decide (okR l.2.1∧okR y)with|true=>(match decide (okR (hid (ai (ae l.1*ae x)))∧okR (hid (ai (ae l.2.1*ae y))))with|true=>(match decide (okR (hid (ai (ae (hid (ai (ae l.1*ae x)))+ae (hid (ai (ae l.2.1*ae y))))))∧okR l.2.2)with|true=>some [RV.d tR (hid (ai (ae (hid (ai (ae (hid (ai (ae l.1*ae x)))+ae (hid (ai (ae l.2.1*ae y))))))-ae l.2.2)))]|false=>none)|false=>none)|false=>none)|false=>none
theorem an8(l:BO3)(x y:BR):RS am8 100 [.d tO l,.d tR x,.d tR y] (afy l x y):=rsX
theorem ab7(l:BO3)(x y:BR)(h:cG l∧ok Rat 4 x∧ok Rat 4 y):Con Tryz.prog 100 [.d tO l,.d tR x,.d tR y] [.d tR (ai (vlL (dec l) (ae x) (ae y)))]:=by
 refine aP mi (an8 _ _ _ ⟨0,?_⟩)
 obtain⟨hl,hx,hy⟩:=h
 obtain⟨l,rfl,bl,nl⟩:=eE hl
 obtain⟨x,rfl,bx⟩:=aZ hx
 obtain⟨y,rfl,b_y⟩:=aZ hy
 unfold afy vlL
 simp only[ak,aq,aI,aL,aF,az,aX,atW,atY,Nat.reduceAdd,Nat.reduceLeDiff]
def anr:Ctx:=CX yz []
def afG(c d:BO3)(_k:KT):Option (List RV):=match decide (okR c.1∧okR d.1)with|true=>(match(aS (ae c.1) (ae d.1))==0 with|true=>(match decide (okR c.2.1∧okR d.2.1)with|true=>some [RV.d .bool ((aS (ae c.2.1) (ae d.2.1))==0)]|false=>none)|false=>some [RV.d .bool false])|false=>none
theorem ao1(c d:BO3):RS anr 95 [.d tO c,.d tO d] (afG c d):=rsX
theorem ad1(c d:BO3)(h:bZ c∧bZ d):Con Tryz.prog 95 [.d tO c,.d tO d] [.d .bool (gZ (dec c) (dec d))]:=by
 refine aP mi (ao1 _ _ ⟨0,?_⟩)
 obtain⟨hc,hd⟩:=h
 obtain⟨c,rfl,bc,nc⟩:=dk hc
 obtain⟨d,rfl,bd,nd⟩:=dk hd
 unfold afG gZ
 simp only[aq,aI,aL,aF,az,aX,atW,atY,Nat.reduceLeDiff,aE]
 cases decide (c.1=d.1)<;>rfl
def arN:Ctx:=CX yz []
def agv(a b c d e:BR)(_k:KT):Option (List RV):=match decide (okR e)with|true=>(match fy (ae e)with|true=>(match decide (okR b∧okR (hid (rtB (ae e))))with|true=>(match decide (okR a∧okR (hid (ai (ae b*ae (hid (rtB (ae e)))))))with|true=>(match decide (okR d∧okR (hid (rtB (ae e))))with|true=>(match decide (okR c∧okR (hid (ai (ae d*ae (hid (rtB (ae e)))))))with|true=>(match decide (ok (Rat×Rat) 100000 (hid (ai (ae a+ae (hid (ai (ae b*ae (hid (rtB (ae e)))))))),hid (ai (ae c+ae (hid (ai (ae d*ae (hid (rtB (ae e))))))))))with|true=>some [RV.d tP (hid (enc (atP (dec (hid (ai (ae a+ae (hid (ai (ae b*ae (hid (rtB (ae e)))))))),hid (ai (ae c+ae (hid (ai (ae d*ae (hid (rtB (ae e)))))))))))))]|false=>none)|false=>none)|false=>none)|false=>none)|false=>none)|false=>some [RV.d tP (a,(b,(c,(d,e))))])|false=>none
theorem arE(a b c d e:BR):RS arN 104 [.d tR a,.d tR b,.d tR c,.d tR d,.d tR e] (agv a b c d e):=rsX
theorem abr(a b c d e:BR)(h:ok Rat 1000 a∧ok Rat 1000 b∧ok Rat 1000 c∧ok Rat 1000 d∧ok Rat 1000 e):Con Tryz.prog 104 [.d tR a,.d tR b,.d tR c,.d tR d,.d tR e] [.d tP (enc (ny (ae a) (ae b) (ae c) (ae d) (ae e)))]:=by
 refine aP mi (arE _ _ _ _ _ ⟨0,?_⟩)
 obtain⟨ha,hb,hc,hd,he⟩:=h
 obtain⟨a,rfl,ba⟩:=aZ ha
 obtain⟨b,rfl,bb⟩:=aZ hb
 obtain⟨c,rfl,bc⟩:=aZ hc
 obtain⟨d,rfl,bd⟩:=aZ hd
 obtain⟨e,rfl,be⟩:=aZ he
 unfold agv ny
 simp only[ak,aF,az,aX,atW,atX,Nat.reduceLeDiff]
 cases hq:fy e
 ·rfl
 ·rw[YS hq]
  simp only[aq,az,okd,aX,mx,Nat.reduceAdd,Nat.reduceLeDiff,at8,cond_true,PL]
  try rfl
def VQ:aN:=spN false true [tO,tO] (fun x=>decide (cG x.1∧cG x.2.1)) (fun x=>[RV.d tR (hid (ai (fH (dec x.1) (dec x.2.1))))])
theorem VB:SpK 105 VQ:=spX fun x h=>by simp only[ak];exact acX x.1 x.2.1 (atS h)
def Ta:aN:=spN false true [tO] (fun x=>decide (cG x.1)) (fun x=>[RV.d tR (hid (ai (cY (dec x.1))))])
theorem XI:SpK 98 Ta:=spX fun x h=>by simp only[ak];exact aan x.1 (atS h)
def QB:aN:=spN false true [tO,tR,tR] (fun x=>decide (cG x.1∧ok Rat 4 x.2.1∧ok Rat 4 x.2.2.1)) (fun x=>[RV.d tR (hid (ai (vlL (dec x.1) (ae x.2.1) (ae x.2.2.1))))])
theorem X7:SpK 100 QB:=spX fun x h=>by simp only[ak];exact ab7 x.1 x.2.1 x.2.2.1 (atS h)
def Te:aN:=spN true true [tO,tO] (fun x=>decide (bZ x.1∧bZ x.2.1)) (fun x=>[RV.d .bool (gZ (dec x.1) (dec x.2.1))])
theorem Qu:SpK 95 Te:=spX fun x h=>ad1 x.1 x.2.1 (atS h)
def W4:aN:=spN false true [tR,tR,tR,tR,tR] (fun x=>decide (ok Rat 1000 x.1∧ok Rat 1000 x.2.1∧ok Rat 1000 x.2.2.1∧ok Rat 1000 x.2.2.2.1∧ok Rat 1000 x.2.2.2.2.1)) (fun x=>[RV.d tP (hid (enc (ny (ae x.1) (ae x.2.1) (ae x.2.2.1) (ae x.2.2.2.1) (ae x.2.2.2.2.1))))])
theorem Wc:SpK 104 W4:=spX fun x h=>by simp only[ak];exact abr x.1 x.2.1 x.2.2.1 x.2.2.2.1 x.2.2.2.2.1 (atS h)
def AP:Env:=(105,VQ)::(98,Ta)::(100,QB)::(95,Te)::(104,W4)::yz
theorem pz:EnvAll Tryz.prog AP:=⟨VB,XI,X7,Qu,Wc,mi⟩
def arG:Ctx:=CX AP []
def agq(l m:BO3)(_k:KT):Option (List RV):=let y1:=hid (ai (ae l.2.2*ae m.2.1));let y2:=hid (ai (ae m.2.2*ae l.2.1));let y3:=hid (ai (ae l.1*ae m.2.2));let y4:=hid (ai (ae m.1*ae l.2.2));let y5:=hid (ai (fH (dec l) (dec m)));let y6:=hid (ai (ae y1-ae y2));let y7:=hid (ai (ae y3-ae y4));match decide (cG l∧cG m)with|true=>(match decide (okR l.2.2∧okR m.2.1)with|true=>(match decide (okR m.2.2∧okR l.2.1)with|true=>(match decide (okR y1∧okR y2)with|true=>(match decide (okR l.1∧okR m.2.2)with|true=>(match decide (okR m.1∧okR l.2.2)with|true=>(match decide (okR y3∧okR y4)with|true=>(match decide (okR y5)with|true=>(match(aS (ae y5) 0) !=0 with|true=>(match decide (fS y6 y5)with|true=>(match decide (fS y7 y5)with|true=>(match decide (ok (Rat×Rat) 100000 (hid (ai (ae y6/ae y5)),hid (ai (ae y7/ae y5))))with|true=>some [RV.d (.sl tP) ([hid (enc (atP (dec (hid (ai (ae y6/ae y5)),hid (ai (ae y7/ae y5))))))]),RV.d axf 0]|false=>none)|false=>none)|false=>none)|false=>(match decide (okR y6)with|true=>(match(aS (ae y6) 0)==0 with|true=>(match decide (okR y7)with|true=>(match(aS (ae y7) 0)==0 with|true=>some [RV.d (.sl tP) ([]),RV.d axf 10]|false=>some [RV.d (.sl tP) ([]),RV.d axf 0])|false=>none)|false=>some [RV.d (.sl tP) ([]),RV.d axf 0])|false=>none))|false=>none)|false=>none)|false=>none)|false=>none)|false=>none)|false=>none)|false=>none)|false=>none
theorem aps(l m:BO3):RS arG 46 [.d tO l,.d tO m] (agq l m):=rsX
theorem ZP(l m:BO3)(h:cG l∧cG m):Con Tryz.prog 46 [.d tO l,.d tO m] [.d (.sl tP) ((n8 (dec l) (dec m)).map enc),.d axf (Pk (dec l) (dec m))]:=by
 refine aP pz (aps _ _ ⟨0,?_⟩)
 obtain⟨hl,hm⟩:=h
 obtain⟨l,rfl,bl,nl⟩:=eE hl
 obtain⟨m,rfl,bm,nm⟩:=eE hm
 have ol:=atT (kw (l:=l) nl)
 have om:=atT (kw (l:=m) nm)
 have bc:Bd (fH l m) 49:=inferInstanceAs (Bd (l.1*m.2.1-m.1*l.2.1) _)
 have e1:l.2.2*m.2.1-m.2.2*l.2.1=oo l m:=rfl
 have e2:l.1*m.2.2-m.1*l.2.2=oO l m:=rfl
 unfold agq n8 Pk
 simp only[ak,aq,aI,aL,aF,az,aX,atW,atY,Nat.reduceAdd,Nat.reduceLeDiff,aE,cf,ol,om]
 by_cases h0:fH l m=0
 ·simp only[atT h0,e1,e2,Bool.not_true]
  cases decide (oo l m=0)<;>cases decide (oO l m=0)<;>rfl
 ·simp only[aq,okd,aC,mx,Nat.reduceAdd,Nat.reduceLeDiff,at8,at4,cond_true,h0,ne_eq,avN,Bool.not_false,PL]
  rfl
def arL:Ctx:=CX AP []
def ahG(l c:BO3)(_k:KT):Option (List RV):=match decide (cG l∧ok Rat 4 c.1∧ok Rat 4 c.2.1)with|true=>(match decide (cG l)with|true=>(match decide (okR (hid (ai (cY (dec l))))∧okR c.2.2)with|true=>(match decide (okR (hid (ai (vlL (dec l) (ae c.1) (ae c.2.1))))∧okR (hid (ai (vlL (dec l) (ae c.1) (ae c.2.1)))))with|true=>(match decide (okR (hid (ai (ae (hid (ai (cY (dec l))))*ae c.2.2)))∧okR (hid (ai (ae (hid (ai (vlL (dec l) (ae c.1) (ae c.2.1))))*ae (hid (ai (vlL (dec l) (ae c.1) (ae c.2.1))))))))with|true=>some [RV.d tR (hid (ai (ae (hid (ai (ae (hid (ai (cY (dec l))))*ae c.2.2)))-ae (hid (ai (ae (hid (ai (vlL (dec l) (ae c.1) (ae c.2.1))))*ae (hid (ai (vlL (dec l) (ae c.1) (ae c.2.1))))))))))]|false=>none)|false=>none)|false=>none)|false=>none)|false=>none
theorem aqr(l c:BO3):RS arL 97 [.d tO l,.d tO c] (ahG l c):=rsX
theorem abw(l c:BO3)(h:cG l∧bZ c):Con Tryz.prog 97 [.d tO l,.d tO c] [.d tR (ai (iE (dec l) (dec c)))]:=by
 refine aP pz (aqr _ _ ⟨0,?_⟩)
 obtain⟨hl,hc⟩:=h
 obtain⟨l,rfl,bl,nl⟩:=eE hl
 obtain⟨c,rfl,bc,nc⟩:=dk hc
 have ol:=atT (kw (l:=l) nl)
 have bv:Bd (vlL l c.1 c.2.1) 97:=inferInstanceAs (Bd (l.1*c.1+l.2.1*c.2.1-l.2.2) _)
 have bn:Bd (cY l) 49:=inferInstanceAs (Bd (l.1*l.1+l.2.1*l.2.1) _)
 unfold ahG iE
 simp only[ak,aq,aI,aL,aF,az,aD,aX,atW,atY,Nat.reduceAdd,Nat.reduceLeDiff,ol]
def aoS:Ctx:=CX AP []
def ahC(c d:BO3)(_k:KT):Option (List RV):=match decide (bZ c∧bZ d)with|true=>(match gZ (dec c) (dec d)with|true=>some [RV.d tO (((false,[]),(false,[])),(((false,[]),(false,[])),((false,[]),(false,[])))),RV.d axf 6]|false=>(match decide (bO (2:Int))with|true=>(match decide (okR c.1∧okR c.1)with|true=>(match decide (okR c.2.1∧okR c.2.1)with|true=>(match decide (okR (hid (ai (ae c.1*ae c.1)))∧okR (hid (ai (ae c.2.1*ae c.2.1))))with|true=>(match decide (okR (hid (ai (ae (hid (ai (ae c.1*ae c.1)))+ae (hid (ai (ae c.2.1*ae c.2.1))))))∧okR c.2.2)with|true=>(match decide (okR d.1∧okR d.1)with|true=>(match decide (okR d.2.1∧okR d.2.1)with|true=>(match decide (okR (hid (ai (ae d.1*ae d.1)))∧okR (hid (ai (ae d.2.1*ae d.2.1))))with|true=>(match decide (okR (hid (ai (ae (hid (ai (ae d.1*ae d.1)))+ae (hid (ai (ae d.2.1*ae d.2.1))))))∧okR d.2.2)with|true=>(match decide (okR d.1∧okR c.1)with|true=>(match decide (okR (hid (ai ((2:Int):Rat)))∧okR (hid (ai (ae d.1-ae c.1))))with|true=>(match decide (okR d.2.1∧okR c.2.1)with|true=>(match decide (okR (hid (ai ((2:Int):Rat)))∧okR (hid (ai (ae d.2.1-ae c.2.1))))with|true=>(match decide (okR (hid (ai (ae (hid (ai (ae (hid (ai (ae d.1*ae d.1)))+ae (hid (ai (ae d.2.1*ae d.2.1))))))-ae d.2.2)))∧okR (hid (ai (ae (hid (ai (ae (hid (ai (ae c.1*ae c.1)))+ae (hid (ai (ae c.2.1*ae c.2.1))))))-ae c.2.2))))with|true=>some [RV.d tO (hid (ai (ae (hid (ai ((2:Int):Rat)))*ae (hid (ai (ae d.1-ae c.1))))),(hid (ai (ae (hid (ai ((2:Int):Rat)))*ae (hid (ai (ae d.2.1-ae c.2.1))))),hid (ai (ae (hid (ai (ae (hid (ai (ae (hid (ai (ae d.1*ae d.1)))+ae (hid (ai (ae d.2.1*ae d.2.1))))))-ae d.2.2)))-ae (hid (ai (ae (hid (ai (ae (hid (ai (ae c.1*ae c.1)))+ae (hid (ai (ae c.2.1*ae c.2.1))))))-ae c.2.2))))))),RV.d axf 0]|false=>none)|false=>none)|false=>none)|false=>none)|false=>none)|false=>none)|false=>none)|false=>none)|false=>none)|false=>none)|false=>none)|false=>none)|false=>none)|false=>none))|false=>none
theorem amI(c d:BO3):RS aoS 96 [.d tO c,.d tO d] (ahC c d):=rsX
theorem ade(c d:BO3)(h:bZ c∧bZ d):Con Tryz.prog 96 [.d tO c,.d tO d] [.d tO (ul (dec c) (dec d)),.d axf (Om (dec c) (dec d))]:=by
 refine aP pz (amI _ _ ⟨0,?_⟩)
 obtain⟨hc,hd⟩:=h
 obtain⟨c,rfl,bc,nc⟩:=dk hc
 obtain⟨d,rfl,bd,nd⟩:=dk hd
 have oc:=atT (gM (c:=c) nc)
 have od:=atT (gM (c:=d) nd)
 have i2:decide (bO 2)=true:=by decide
 have b2:Bd ((2:Int):Rat) 3:=ff (by decide)
 unfold ahC ul Om
 simp only[ak,aq,aI,aL,aF,az,aX,atW,atY,Nat.reduceAdd,Nat.reduceLeDiff,oc,od,i2]
 cases gZ c d
 ·rfl
 ·rfl
def ash:Ctx:=CX AP []
def agx(c:BO3)(_k:KT):Option (List RV):=match decide (bO (1:Int))with|true=>(match decide (bO (0:Int))with|true=>(match decide (okR (hid (ai ((1:Int):Rat))))with|true=>(match decide (ok Rat 1000 c.1∧ok Rat 1000 (hid (ai (-ae (hid (ai ((1:Int):Rat))))))∧ok Rat 1000 c.2.1∧ok Rat 1000 (hid (ai ((0:Int):Rat)))∧ok Rat 1000 c.2.2)with|true=>(match decide (ok Rat 1000 c.1∧ok Rat 1000 (hid (ai ((1:Int):Rat)))∧ok Rat 1000 c.2.1∧ok Rat 1000 (hid (ai ((0:Int):Rat)))∧ok Rat 1000 c.2.2)with|true=>some [RV.d tP (hid (enc (ny (ae c.1) (ae (hid (ai (-ae (hid (ai ((1:Int):Rat))))))) (ae c.2.1) (ae (hid (ai ((0:Int):Rat)))) (ae c.2.2)))),RV.d tP (hid (enc (ny (ae c.1) (ae (hid (ai ((1:Int):Rat)))) (ae c.2.1) (ae (hid (ai ((0:Int):Rat)))) (ae c.2.2))))]|false=>none)|false=>none)|false=>none)|false=>none)|false=>none
theorem ary(c:BO3):RS ash 135 [.d tO c] (agx c):=rsX
theorem aaq(c:BO3)(h:bZ c):Con Tryz.prog 135 [.d tO c] [.d tP (enc (ri (dec c))),.d tP (enc (re (dec c)))]:=by
 refine aP pz (ary _ ⟨0,?_⟩)
 have hc:=h
 obtain⟨c,rfl,bc,nc⟩:=dk hc
 have b0:Bd ((0:Int):Rat) 3:=ff (by decide)
 have b1:Bd ((1:Int):Rat) 3:=ff (by decide)
 have i0:decide (bO 0)=true:=by decide
 have i1:decide (bO 1)=true:=by decide
 unfold agx ri re
 simp only[ak,aq,aI,aL,aF,az,aD,aX,atW,atY,Nat.reduceLeDiff,i0,i1]
 rfl
def IY:aN:=spN false true [tO,tO] (fun x=>decide (cG x.1∧cG x.2.1)) (fun x=>[RV.d (.sl tP) ((n8 (dec x.1) (dec x.2.1)).map enc),RV.d axf (Pk (dec x.1) (dec x.2.1))])
theorem EO:SpK 46 IY:=spX fun x h=>ZP x.1 x.2.1 (atS h)
def UW:aN:=spN false true [tO,tO] (fun x=>decide (cG x.1∧bZ x.2.1)) (fun x=>[RV.d tR (hid (ai (iE (dec x.1) (dec x.2.1))))])
theorem P4:SpK 97 UW:=spX fun x h=>by simp only[ak];exact abw x.1 x.2.1 (atS h)
def WP:aN:=spN false true [tO,tO] (fun x=>decide (bZ x.1∧bZ x.2.1)) (fun x=>[RV.d tO (hid (ul (dec x.1) (dec x.2.1))),RV.d axf (Om (dec x.1) (dec x.2.1))])
theorem XX:SpK 96 WP:=spX fun x h=>by simp only[ak];exact ade x.1 x.2.1 (atS h)
def JG:aN:=spN false true [tO] (fun x=>decide (bZ x.1)) (fun x=>[RV.d tP (hid (enc (ri (dec x.1)))),RV.d tP (hid (enc (re (dec x.1))))])
theorem Gv:SpK 135 JG:=spX fun x h=>by simp only[ak];exact aaq x.1 (atS h)
def SQ:Env:=(46,IY)::(97,UW)::(96,WP)::(135,JG)::AP
theorem HC:EnvAll Tryz.prog SQ:=⟨EO,P4,XX,Gv,pz⟩
def anS:Ctx:=CX SQ []
def agh(l c:BO3)(_k:KT):Option (List RV):=let y1:=hid (ai (iE (dec l) (dec c)));let y2:=hid (ai (vlL (dec l) (ae c.1) (ae c.2.1)));let y3:=hid (ai (cY (dec l)));let y4:=hid (ai (ae y2/ae y3));let y5:=hid (ai (ae y4*ae l.1));let y6:=hid (ai (ae y4*ae l.2.1));let y7:=ai (ae c.1-ae y5);let y8:=ai (ae c.2.1-ae y6);let y9:=hid (ai (-ae l.1));let y10:=hid (ai (ae l.2.1/ae y3));let y11:=hid (ai (ae y9/ae y3));let y12:=hid (ai (-ae y10));let y13:=hid (ai (-ae y11));let y14:=enc (ny (ae (hid y7)) (ae y12) (ae (hid y8)) (ae y13) (ae y1));let y15:=enc (ny (ae (hid y7)) (ae y10) (ae (hid y8)) (ae y11) (ae y1));match decide (cG l∧bZ c)with|true=>(match decide (cG l)with|true=>(match decide (okR y1)with|true=>(match decide ((aS (ae y1) 0)<0)with|true=>some [RV.new 41 tP []]|false=>(match decide (cG l∧ok Rat 4 c.1∧ok Rat 4 c.2.1)with|true=>(match decide (fS y2 y3)with|true=>(match decide (okR y4∧okR l.1)with|true=>(match decide (okR c.1∧okR y5)with|true=>(match decide (okR y4∧okR l.2.1)with|true=>(match decide (okR c.2.1∧okR y6)with|true=>(match decide (okR y1)with|true=>(match(aS (ae y1) 0)==0 with|true=>(match decide (ok (Rat×Rat) 100000 (hid y7,hid y8))with|true=>some [RV.new 41 tP ([hid (enc (atP (dec (hid y7,hid y8))))])]|false=>none)|false=>(match decide (fS l.2.1 y3)with|true=>(match decide (okR l.1)with|true=>(match decide (fS y9 y3)with|true=>(match decide (okR y10)with|true=>(match decide (okR y11)with|true=>(match decide (ok Rat 1000 (hid y7)∧ok Rat 1000 y12∧ok Rat 1000 (hid y8)∧ok Rat 1000 y13∧ok Rat 1000 y1)with|true=>(match decide (ok Rat 1000 (hid y7)∧ok Rat 1000 y10∧ok Rat 1000 (hid y8)∧ok Rat 1000 y11∧ok Rat 1000 y1)with|true=>(match decide (okP 4000 (hid y14)∧okP 4000 (hid y15))with|true=>(match decide ((aW (dec (hid y14)) (dec (hid y15)))>0)with|true=>some [RV.new 41 tP ([hid y15,hid y14])]|false=>some [RV.new 41 tP ([hid y14,hid y15])])|false=>none)|false=>none)|false=>none)|false=>none)|false=>none)|false=>none)|false=>none)|false=>none))|false=>none)|false=>none)|false=>none)|false=>none)|false=>none)|false=>none)|false=>none))|false=>none)|false=>none)|false=>none
theorem aot(l c:BO3):RS anS 45 [.d tO l,.d tO c] (agh l c):=rsX
theorem adJ(l c:BO3)(h:cG l∧bZ c):Con Tryz.prog 45 [.d tO l,.d tO c] [.d (.sl tP) ((qY (dec l) (dec c)).map enc)]:=by
 refine Con.new_d (et:=41) (aP HC (aot _ _ ⟨0,?_⟩))
 obtain⟨hl,hc⟩:=h
 obtain⟨l,rfl,bl,nl⟩:=eE hl
 obtain⟨c,rfl,bc,nc⟩:=dk hc
 have ol:=atT (kw (l:=l) nl)
 have oc:=atT (gM (c:=c) nc)
 have hn:=pH nl
 have bv:Bd (vlL l c.1 c.2.1) 97:=inferInstanceAs (Bd (l.1*c.1+l.2.1*c.2.1-l.2.2) _)
 have bn:Bd (cY l) 49:=inferInstanceAs (Bd (l.1*l.1+l.2.1*l.2.1) _)
 have e1:c.1-vlL l c.1 c.2.1/cY l*l.1=ftX l c:=rfl
 have e2:c.2.1-vlL l c.1 c.2.1/cY l*l.2.1=ftY l c:=rfl
 obtain⟨f1,f2,_,_⟩:=v8 (l:=l) (c:=c)
 unfold agh qY
 simp only[ak,aq,aI,aL,aF,az,okd,aD,aX,aC,atW,atY,mx,Nat.reduceAdd,Nat.reduceLeDiff,at8,cond_true,aE,aH,ol,oc,hn,ne_eq,avN,e1,e2,PL]
 by_cases h0:iE l c<0
 ·simp only[atT h0]
  rfl
 ·simp only[atV h0]
  by_cases h1:iE l c=0
  ·simp only[atT h1]
   rfl
  ·have hp:=YU h0 h1
   obtain⟨p1,p2⟩:=TN (c:=c) nl (show 0≤iE l c by grind)
   obtain⟨q1,q2⟩:=R7 (l:=l) (c:=c)
   have g1:ny (ftX l c) (-(l.2.1/cY l)) (ftY l c) (-(-l.1/cY l)) (iE l c)=tJ l c:=rfl
   have g2:ny (ftX l c) (l.2.1/cY l) (ftY l c) (-l.1/cY l) (iE l c)=uf l c:=rfl
   simp only[atV h1,atY,Nat.reduceLeDiff,cond_false,bG,g1,g2]
   cases decide (aW (tJ l c) (uf l c)>0)<;>rfl
def HQ:aN:=spN false true [tO,tO] (fun x=>decide (cG x.1∧bZ x.2.1)) (fun x=>[RV.d (.sl tP) ((qY (dec x.1) (dec x.2.1)).map enc)])
theorem GF:SpK 45 HQ:=spX fun x h=>adJ x.1 x.2.1 (atS h)
def ahF:Env:=(45,HQ)::SQ
theorem Rb:EnvAll Tryz.prog ahF:=⟨GF,HC⟩
def aqu:Ctx:=CX ahF []
def afz(c d:BO3)(_k:KT):Option (List RV):=match decide (bZ c∧bZ d)with|true=>(match gZ (dec c) (dec d)with|true=>(match decide (okR c.2.2∧okR d.2.2)with|true=>(match(aS (ae c.2.2) (ae d.2.2))==0 with|true=>some [RV.d (.sl tP) ([]),RV.d axf 10]|false=>some [RV.d (.sl tP) ([]),RV.d axf 0])|false=>none)|false=>(match decide (bZ c∧bZ d)with|true=>(match decide (cG (hid (ul (dec c) (dec d)))∧bZ c)with|true=>some [RV.d (.sl tP) ((qY (dec (hid (ul (dec c) (dec d)))) (dec c)).map enc),RV.d axf 0]|false=>none)|false=>none))|false=>none
theorem anc(c d:BO3):RS aqu 44 [.d tO c,.d tO d] (afz c d):=rsX
theorem acn(c d:BO3)(h:bZ c∧bZ d):Con Tryz.prog 44 [.d tO c,.d tO d] [.d (.sl tP) ((yi (dec c) (dec d)).map enc),.d axf (XK (dec c) (dec d))]:=by
 refine aP Rb (anc _ _ ⟨0,?_⟩)
 obtain⟨hc,hd⟩:=h
 obtain⟨c,rfl,bc,nc⟩:=dk hc
 obtain⟨d,rfl,bd,nd⟩:=dk hd
 have oc:=atT (gM (c:=c) nc)
 have od:=atT (gM (c:=d) nd)
 unfold afz yi XK
 simp only[ak,aq,aL,aF,az,aX,atW,atZ,atY,Nat.reduceLeDiff,aE,oc,od]
 cases hc:gZ c d
 ·have ol:cG (enc (n6 c d)):=Tm hc
  have er:ul c d=enc (n6 c d):=by unfold ul;rw[hc];rfl
  simp only[er,dT ol,aq,cond_false]
  try rfl
 ·cases decide (c.2.2=d.2.2)<;>rfl
end
section
def oA(x u y v k:Rat):Pt:=mkP (mkR x u k) (mkR y v k)
def ftL(l c:Ln):Rat×Rat:=(ftX l c,ftY l c)
def DE(l c:Ln):Rat:=(ftX l c-c.1)*(ftX l c-c.1)+(ftY l c-c.2.1)*(ftY l c-c.2.1)
def fL(l c:Ln):Rat:=(c.2.2-DE l c)/cY l
def OD(l:Ln):Bool:=decide (l.2.1<0)||(decide (l.2.1=0)&&decide (-l.1<0))
def u9(l:Ln):Rat:=bif OD l then-l.2.1 else l.2.1
def u5(l:Ln):Rat:=bif OD l then- -l.1 else-l.1
def lcM(l c:Ln):Pt:=oA (ftX l c) (-u9 l) (ftY l c) (-u5 l) (fL l c)
def lcN(l c:Ln):Pt:=oA (ftX l c) (u9 l) (ftY l c) (u5 l) (fL l c)
def kX(l c:Ln):List Pt:=bif decide (fL l c<0)then []else bif decide (fL l c=0)then [atP (ftL l c)]else [lcM l c,lcN l c]
def Pq(l m:Ln):Int:=bif !decide (fH l m=0)then 0 else bif oh l m then 10 else 0
def u7(c d:Ln):List Pt:=bif gZ c d then []else kX (n6 c d) c
def UU(c d:Ln):Int:=bif qX c d then 10 else 0
def gW(a b:Cv):List Pt:=bif a.1&&b.1 then u7 (ciC a) (ciC b)else bif a.1 then kX (lnC b) (ciC a)else bif b.1 then kX (lnC a) (ciC b)else n8 (lnC a) (lnC b)
def air(a b:Cv):Int:=bif a.1&&b.1 then UU (ciC a) (ciC b)else bif a.1 then 0 else bif b.1 then 0 else Pq (lnC a) (lnC b)
def sT(c:Ln):Pt:=oA c.1 (-1) c.2.1 0 c.2.2
def tW(c:Ln):Pt:=oA c.1 1 c.2.1 0 c.2.2
theorem adx(l c:Ln):MP l (c.1,c.2.1)=ftL l c:=rfl
theorem C1{x u y v k:Rat}[h:Nn k]:Rpd (oA x u y v k):=ahL Hg Hg (tK _ _ _ _ _)
section
variable {l c:Ln}
theorem ah2 [BdL l]:Bd (u9 l) 12∧Bd (u5 l) 12:=by
 unfold u9 u5
 cases OD l
 ·exact⟨(inferInstance:Bd l.2.1 12),(inferInstance:Bd (-l.1) 12)⟩
 ·exact⟨(inferInstance:Bd (-l.2.1) 12),(inferInstance:Bd (- -l.1) 12)⟩
end
theorem Da{x u y v k:Rat}{a b c:Nat}(h1:Bd x a)(h2:Bd u b)(h3:Bd y a)(h4:Bd v b)(h5:Bd k c){n:Nat}(hn:a+(b+c)+1≤n):Bd (oA x u y v k) n:=by
 have z:bdR n 0:=cK ue.le (by omega)
 have i1:Bd (mkR x u k) (a+(b+c)+1):=inferInstance
 have i2:Bd (mkR y v k) (a+(b+c)+1):=inferInstance
 have f1:=i1.mono hn
 have f2:=i2.mono hn
 refine⟨?_⟩
 unfold oA mkP rdP
 dsimp only
 refine⟨f1.le.1,f1.le.2.1,f2.le.1,f2.le.2.1,?_⟩
 cases decide ((mkR x u k).2.1=0)&&decide ((mkR y v k).2.1=0)
 ·cases decide ((mkR x u k).2.1=0)
  ·exact f1.le.2.2
  ·exact f2.le.2.2
 ·exact z
section
variable {l c:Ln}
theorem V1 [BdL l][h:BdC c]:Bd (fL l c) 1000:=by
 obtain⟨f1,f2,_,_⟩:=v8 (l:=l) (c:=c)
 have hx:=h.x
 have hy:=h.y
 have hq:=h.q
 have i1:Bd (cY l) 49:=inferInstanceAs (Bd (l.1*l.1+l.2.1*l.2.1) _)
 have i2:Bd (DE l c) 673:=(inferInstance:Bd ((ftX l c-c.1)*(ftX l c-c.1)+(ftY l c-c.2.1)*(ftY l c-c.2.1)) _).mono (by decide)
 exact(inferInstance:Bd ((c.2.2-DE l c)/cY l) _).mono (by decide)
theorem Jv [BdL l][h:BdC c]:Bd (ftL l c) 163:=by
 obtain⟨f1,f2,_,_⟩:=v8 (l:=l) (c:=c)
 exact(inferInstance:Bd ((ftX l c,ftY l c):Rat×Rat) _).mono (by decide)
theorem ajj [BdL l][BdC c]:Bd (lcM l c) 1200∧Bd (lcN l c) 1200:=by
 obtain⟨f1,f2,_,_⟩:=v8 (l:=l) (c:=c)
 obtain⟨d1,d2⟩:=ah2 (l:=l)
 have k:=V1 (l:=l) (c:=c)
 have n1:Bd (-u9 l) 12:=inferInstance
 have n2:Bd (-u5 l) 12:=inferInstance
 exact⟨Da f1 n1 f2 n2 k (by decide),Da f1 d1 f2 d2 k (by decide)⟩
theorem t8 [BdL l][BdC c]:(kX l c).length≤2∧∀p∈kX l c,Bd p 1200∧Rpd p:=by
 unfold kX
 by_cases h0:fL l c<0
 ·rw[atT h0]
  exact⟨by simp,fun p hp=>by cases hp⟩
 ·rw[atV h0]
  by_cases h1:fL l c=0
  ·rw[atT h1]
   have:=Jv (l:=l) (c:=c)
   refine⟨by simp,fun p hp=>?_⟩
   have:p=atP (ftL l c):=by simpa using hp
   rw[this]
   exact⟨(inferInstance:Bd (atP (ftL l c)) _).mono (by decide),inferInstance⟩
  ·rw[atV h1]
   obtain⟨q1,q2⟩:=ajj (l:=l) (c:=c)
   have nn:Nn (fL l c):=⟨by grind⟩
   refine⟨by simp,fun p hp=>?_⟩
   have:p=lcM l c∨p=lcN l c:=by simpa using hp
   rcases this with e|e<;>rw[e]
   ·exact⟨q1,C1⟩
   ·exact⟨q2,C1⟩
end
end
theorem kj(q:Rat):(aS q 0== -1)=decide (q<0):=by
 unfold aS
 by_cases h:q<0
 ·rw[atT h];rfl
 ·rw[atV h]
  by_cases h':0<q
  ·rw[atT h'];rfl
  ·rw[atV h'];rfl
def WY:aN:=spN false true [tR,tR,tR] (fun x=>decide (ok Rat 100000 x.1∧ok Rat 100000 x.2.1∧ok Rat 100000 x.2.2.1∧0≤ae x.2.2.1)) (fun x=>[RV.d tO (hid (enc (mkR (ae x.1) (ae x.2.1) (ae x.2.2.1)))),RV.d axf 0])
theorem Sj:SpK 207 WY:=spX fun x h=>by simp only[ak];exact aen x.1 x.2.1 x.2.2.1 (atS h)
def We:aN:=spN false true [tO,tV] (fun x=>decide (ok Ln 300 x.1∧ok (Rat×Rat) 200 x.2.1∧((dec x.1:Ln).1≠0∨(dec x.1:Ln).2.1≠0))) (fun x=>[RV.d tV (hid (enc (MP (dec x.1) (dec x.2.1))))])
theorem Xi:SpK 241 We:=spX fun x h=>by simp only[ak];exact ad3 x.1 x.2.1 (atS h)
def pF:Env:=[(147,kJ),(151,ke),(144,oZ),(74,lS),(76,ky),(75,m6),(145,rU),(194,I2),(207,WY),(208,Uw),(78,CY),(140,DG),(142,Ei),(139,Ee),(241,We)]
theorem iL:EnvAll Tryz.prog pF:=⟨gj,gu,kV,ic,gh,jo,mu,Gy,Sj,Zb,zK,xR,Ak,zi,Xi,trivial⟩
def ani:Ctx:=CX pF []
def agw(a b:BR)(_k:KT):Option (List RV):=match decide (okR a∧okR b)with|true=>some [RV.d tR (hid (ai (ae a+ae b)))]|false=>none
theorem aov(a b:BR):RS ani 240 [.d tR a,.d tR b] (agw a b):=rsX
theorem adZ(a b:BR)(h:okR a∧okR b):Con Tryz.prog 240 [.d tR a,.d tR b] [.d tR (ai (ae a+ae b))]:=by
 refine aP iL (aov _ _ ⟨0,?_⟩)
 unfold agw
 rw[dT h]
 simp only[ak]
def aoY:Ctx:=CX pF []
def aeT(a b:BR)(_k:KT):Option (List RV):=match decide (okR a∧okR b)with|true=>some [RV.d tR (hid (ai (ae a-ae b)))]|false=>none
theorem ar3(a b:BR):RS aoY 186 [.d tR a,.d tR b] (aeT a b):=rsX
theorem aeq(a b:BR)(h:okR a∧okR b):Con Tryz.prog 186 [.d tR a,.d tR b] [.d tR (ai (ae a-ae b))]:=by
 refine aP iL (ar3 _ _ ⟨0,?_⟩)
 unfold aeT
 rw[dT h]
 simp only[ak]
def an1:Ctx:=CX pF []
def aeN(a b:BR)(_k:KT):Option (List RV):=match decide (okR a∧okR b)with|true=>some [RV.d tR (hid (ai (ae a*ae b)))]|false=>none
theorem am4(a b:BR):RS an1 187 [.d tR a,.d tR b] (aeN a b):=rsX
theorem aeo(a b:BR)(h:okR a∧okR b):Con Tryz.prog 187 [.d tR a,.d tR b] [.d tR (ai (ae a*ae b))]:=by
 refine aP iL (am4 _ _ ⟨0,?_⟩)
 unfold aeN
 rw[dT h]
 simp only[ak]
def ap6:Ctx:=CX pF []
def agj(a b:BR)(_k:KT):Option (List RV):=match decide (fS a b)with|true=>some [RV.d tR (hid (ai (ae a/ae b)))]|false=>none
theorem ap4(a b:BR):RS ap6 188 [.d tR a,.d tR b] (agj a b):=rsX
theorem abK(a b:BR)(h:fS a b):Con Tryz.prog 188 [.d tR a,.d tR b] [.d tR (ai (ae a/ae b))]:=by
 refine aP iL (ap4 _ _ ⟨0,?_⟩)
 unfold agj
 rw[dT h]
 simp only[ak]
def arY:Ctx:=CX pF []
def ahh(a b:BR)(_k:KT):Option (List RV):=match decide (okR a∧okR b)with|true=>some [RV.d .bool ((aS (ae a) (ae b))==0)]|false=>none
theorem am1(a b:BR):RS arY 182 [.d tR a,.d tR b] (ahh a b):=rsX
theorem aaP(a b:BR)(h:okR a∧okR b):Con Tryz.prog 182 [.d tR a,.d tR b] [.d .bool (decide (ae a=ae b))]:=by
 refine aP iL (am1 _ _ ⟨0,?_⟩)
 unfold ahh
 rw[dT h]
 simp only[aE]
def ane:Ctx:=CX pF []
def ag3(x u y v k:BR)(_k:KT):Option (List RV):=match decide (ok Rat 100000 x∧ok Rat 100000 u∧ok Rat 100000 k∧0≤ae k)with|true=>(match decide (ok Rat 100000 y∧ok Rat 100000 v∧ok Rat 100000 k∧0≤ae k)with|true=>(match decide (okT 15000 (hid (enc (mkR (ae x) (ae u) (ae k))))∧okT 15000 (hid (enc (mkR (ae y) (ae v) (ae k))))∧vO (dec (hid (enc (mkR (ae x) (ae u) (ae k))))) (dec (hid (enc (mkR (ae y) (ae v) (ae k))))))with|true=>some [RV.d tP (hid (enc (mkP (dec (hid (enc (mkR (ae x) (ae u) (ae k))))) (dec (hid (enc (mkR (ae y) (ae v) (ae k))))))))]|false=>none)|false=>none)|false=>none
theorem arm(x u y v k:BR):RS ane 153 [.d tR x,.d tR u,.d tR y,.d tR v,.d tR k] (ag3 x u y v k):=rsX
theorem aa8(x u y v k:BR)(h:ok Rat 1000 x∧ok Rat 1000 u∧ok Rat 1000 y∧ok Rat 1000 v∧ok Rat 1000 k∧0≤ae k):Con Tryz.prog 153 [.d tR x,.d tR u,.d tR y,.d tR v,.d tR k] [.d tP (enc (oA (ae x) (ae u) (ae y) (ae v) (ae k)))]:=by
 refine aP iL (arm _ _ _ _ _ ⟨0,?_⟩)
 obtain⟨hx,hu,hy,hv,hk,h0⟩:=h
 obtain⟨x,rfl,bx⟩:=aZ hx
 obtain⟨u,rfl,bu⟩:=aZ hu
 obtain⟨y,rfl,b_y⟩:=aZ hy
 obtain⟨v,rfl,bv⟩:=aZ hv
 obtain⟨k,rfl,bk⟩:=aZ hk
 have h0:0≤(dec (enc k):Rat):=h0
 rw[aq]at h0
 have nk:Nn k:=⟨h0⟩
 have n0:decide (0≤k)=true:=atT nk.le
 have hm:decide (vO (mkR x u k) (mkR y v k))=true:=atT (tK _ _ _ _ _)
 unfold ag3 oA
 simp only[ak,aq,aF,az,aD,atW,atY,Nat.reduceAdd,Nat.reduceLeDiff,bH,n0,hm]
 try rfl
def YO:aN:=spN false true [tR,tR] (fun x=>decide (okR x.1∧okR x.2.1)) (fun x=>[RV.d tR (hid (ai (ae x.1+ae x.2.1)))])
theorem ZH:SpK 240 YO:=spX fun x h=>by simp only[ak];exact adZ x.1 x.2.1 (atS h)
def UR:aN:=spN false true [tR,tR] (fun x=>decide (okR x.1∧okR x.2.1)) (fun x=>[RV.d tR (hid (ai (ae x.1-ae x.2.1)))])
theorem Uk:SpK 186 UR:=spX fun x h=>by simp only[ak];exact aeq x.1 x.2.1 (atS h)
def Vv:aN:=spN false true [tR,tR] (fun x=>decide (okR x.1∧okR x.2.1)) (fun x=>[RV.d tR (hid (ai (ae x.1*ae x.2.1)))])
theorem SS:SpK 187 Vv:=spX fun x h=>by simp only[ak];exact aeo x.1 x.2.1 (atS h)
def Yx:aN:=spN false true [tR,tR] (fun x=>decide (fS x.1 x.2.1)) (fun x=>[RV.d tR (hid (ai (ae x.1/ae x.2.1)))])
theorem UL:SpK 188 Yx:=spX fun x h=>by simp only[ak];exact abK x.1 x.2.1 (atS h)
def XO:aN:=spN true true [tR,tR] (fun x=>decide (okR x.1∧okR x.2.1)) (fun x=>[RV.d .bool (decide (ae x.1=ae x.2.1))])
theorem QT:SpK 182 XO:=spX fun x h=>aaP x.1 x.2.1 (atS h)
def XT:aN:=spN false true [tR,tR,tR,tR,tR] (fun x=>decide (ok Rat 1000 x.1∧ok Rat 1000 x.2.1∧ok Rat 1000 x.2.2.1∧ok Rat 1000 x.2.2.2.1∧ok Rat 1000 x.2.2.2.2.1∧0≤ae x.2.2.2.2.1)) (fun x=>[RV.d tP (hid (enc (oA (ae x.1) (ae x.2.1) (ae x.2.2.1) (ae x.2.2.2.1) (ae x.2.2.2.2.1))))])
theorem V9:SpK 153 XT:=spX fun x h=>by simp only[ak];exact aa8 x.1 x.2.1 x.2.2.1 x.2.2.2.1 x.2.2.2.2.1 (atS h)
def pO:Env:=(240,YO)::(186,UR)::(187,Vv)::(188,Yx)::(182,XO)::(153,XT)::pF
theorem iJ:EnvAll Tryz.prog pO:=⟨ZH,Uk,SS,UL,QT,V9,iL⟩
def ap7:Ctx:=CX pO []
def afk(l m:BO3)(_k:KT):Option (List RV):=match decide (okR l.1∧okR m.2.1)with|true=>(match decide (okR m.1∧okR l.2.1)with|true=>(match decide (okR (hid (ai (ae l.1*ae m.2.1)))∧okR (hid (ai (ae m.1*ae l.2.1))))with|true=>(match decide (ae (hid (ai (ae l.1*ae m.2.1)))=ae (hid (ai (ae m.1*ae l.2.1))))with|true=>(match decide (okR l.1∧okR m.2.2)with|true=>(match decide (okR m.1∧okR l.2.2)with|true=>(match decide (okR (hid (ai (ae l.1*ae m.2.2)))∧okR (hid (ai (ae m.1*ae l.2.2))))with|true=>(match decide (ae (hid (ai (ae l.1*ae m.2.2)))=ae (hid (ai (ae m.1*ae l.2.2))))with|true=>(match decide (okR l.2.1∧okR m.2.2)with|true=>(match decide (okR m.2.1∧okR l.2.2)with|true=>(match decide (okR (hid (ai (ae l.2.1*ae m.2.2)))∧okR (hid (ai (ae m.2.1*ae l.2.2))))with|true=>some [RV.d .bool (decide (ae (hid (ai (ae l.2.1*ae m.2.2)))=ae (hid (ai (ae m.2.1*ae l.2.2)))))]|false=>none)|false=>none)|false=>none)|false=>some [RV.d .bool false])|false=>none)|false=>none)|false=>none)|false=>some [RV.d .bool false])|false=>none)|false=>none)|false=>none
theorem ao4(l m:BO3):RS ap7 123 [.d tO l,.d tO m] (afk l m):=rsX
theorem abM(l m:BO3)(h:cG l∧cG m):Con Tryz.prog 123 [.d tO l,.d tO m] [.d .bool (oh (dec l) (dec m))]:=by
 refine aP iJ (ao4 _ _ ⟨0,?_⟩)
 obtain⟨hl,hm⟩:=h
 obtain⟨l,rfl,bl,nl⟩:=eE hl
 obtain⟨m,rfl,bm,nm⟩:=eE hm
 unfold afk oh
 have c1:l.2.1*m.1=m.1*l.2.1:=awD _ _
 have c2:l.2.2*m.1=m.1*l.2.2:=awD _ _
 have c3:l.2.2*m.2.1=m.2.1*l.2.2:=awD _ _
 simp only[ak,aq,aI,aL,aF,az,aX,atW,atY,Nat.reduceAdd,Nat.reduceLeDiff,c1,c2,c3]
 cases decide (l.1*m.2.1=m.1*l.2.1)<;>cases decide (l.1*m.2.2=m.1*l.2.2)<;>rfl
def aoj:Ctx:=CX pO []
def af9(c d:BO3)(_k:KT):Option (List RV):=match decide (okR c.1∧okR d.1)with|true=>(match decide (ae c.1=ae d.1)with|true=>(match decide (okR c.2.1∧okR d.2.1)with|true=>(match decide (ae c.2.1=ae d.2.1)with|true=>(match decide (okR c.2.2∧okR d.2.2)with|true=>some [RV.d .bool (decide (ae c.2.2=ae d.2.2))]|false=>none)|false=>some [RV.d .bool false])|false=>none)|false=>some [RV.d .bool false])|false=>none
theorem apI(c d:BO3):RS aoj 122 [.d tO c,.d tO d] (af9 c d):=rsX
theorem Z8(c d:BO3)(h:bZ c∧bZ d):Con Tryz.prog 122 [.d tO c,.d tO d] [.d .bool (qX (dec c) (dec d))]:=by
 refine aP iJ (apI _ _ ⟨0,?_⟩)
 obtain⟨hc,hd⟩:=h
 obtain⟨c,rfl,bc,nc⟩:=dk hc
 obtain⟨d,rfl,bd,nd⟩:=dk hd
 unfold af9 qX
 simp only[aq,aI,aL,aF,az,aX,atW,atY,Nat.reduceLeDiff]
 cases decide (c.1=d.1)<;>cases decide (c.2.1=d.2.1)<;>rfl
def aqG:Ctx:=CX pO []
def ag7(c d:BO3)(_k:KT):Option (List RV):=match decide (okR c.1∧okR d.1)with|true=>(match(aS (ae c.1) (ae d.1))==0 with|true=>(match decide (okR c.2.1∧okR d.2.1)with|true=>some [RV.d .bool ((aS (ae c.2.1) (ae d.2.1))==0)]|false=>none)|false=>some [RV.d .bool false])|false=>none
theorem aqJ(c d:BO3):RS aqG 183 [.d tO c,.d tO d] (ag7 c d):=rsX
theorem acy(c d:BO3)(h:bZ c∧bZ d):Con Tryz.prog 183 [.d tO c,.d tO d] [.d .bool (gZ (dec c) (dec d))]:=by
 refine aP iJ (aqJ _ _ ⟨0,?_⟩)
 obtain⟨hc,hd⟩:=h
 obtain⟨c,rfl,bc,nc⟩:=dk hc
 obtain⟨d,rfl,bd,nd⟩:=dk hd
 unfold ag7 gZ
 simp only[aq,aI,aL,aF,az,aX,atW,atY,Nat.reduceLeDiff,aE]
 cases decide (c.1=d.1)<;>rfl
def aqa:Ctx:=CX pO []
def agm(c:BO3)(_k:KT):Option (List RV):=match decide (okR c.1∧okR c.1)with|true=>(match decide (okR c.2.1∧okR c.2.1)with|true=>(match decide (okR (hid (ai (ae c.1*ae c.1)))∧okR (hid (ai (ae c.2.1*ae c.2.1))))with|true=>(match decide (okR (hid (ai (ae (hid (ai (ae c.1*ae c.1)))+ae (hid (ai (ae c.2.1*ae c.2.1))))))∧okR c.2.2)with|true=>some [RV.d tR (hid (ai (ae (hid (ai (ae (hid (ai (ae c.1*ae c.1)))+ae (hid (ai (ae c.2.1*ae c.2.1))))))-ae c.2.2)))]|false=>none)|false=>none)|false=>none)|false=>none
theorem aoR(c:BO3):RS aqa 239 [.d tO c] (agm c):=rsX
theorem ZR(c:BO3)(h:bZ c):Con Tryz.prog 239 [.d tO c] [.d tR (ai (rg (dec c)))]:=by
 refine aP iJ (aoR _ ⟨0,?_⟩)
 have hc:=h
 obtain⟨c,rfl,bc,nc⟩:=dk hc
 unfold agm rg
 simp only[ak,aq,aI,aL,aF,az,aX,atW,atY,Nat.reduceAdd,Nat.reduceLeDiff]
def apy:Ctx:=CX pO []
def afh(l c:BO3)(_k:KT):Option (List RV):=let y1:=hid (enc (MP (dec l) (dec (c.1,c.2.1))));let y2:=hid (ai (ae (y1.1)-ae c.1));let y3:=hid (ai (ae (y1.2)-ae c.2.1));let y4:=hid (ai (ae y2*ae y2));let y5:=hid (ai (ae y3*ae y3));let y6:=hid (ai (ae y4+ae y5));let y7:=hid (ai (ae l.1*ae l.1));let y8:=hid (ai (ae l.2.1*ae l.2.1));let y9:=hid (ai (ae c.2.2-ae y6));let y10:=hid (ai (ae y7+ae y8));let y11:=hid (ai (ae y9/ae y10));let y12:Option (List RV):=match decide (fS y9 y10)with|true=>some [RV.d tR y11,RV.d tV y1]|false=>none;let y13:Option (List RV):=match decide (okR y7∧okR y8)with|true=>y12|false=>none;let y14:Option (List RV):=match decide (okR l.2.1∧okR l.2.1)with|true=>y13|false=>none;match decide (ok Ln 300 l∧ok (Rat×Rat) 200 (c.1,c.2.1)∧((dec l:Ln).1≠0∨(dec l:Ln).2.1≠0))with|true=>(match decide (okR (y1.1)∧okR c.1)with|true=>(match decide (okR (y1.2)∧okR c.2.1)with|true=>(match decide (okR y2∧okR y2)with|true=>(match decide (okR y3∧okR y3)with|true=>(match decide (okR y4∧okR y5)with|true=>(match decide (okR c.2.2∧okR y6)with|true=>dl (match decide (okR l.1∧okR l.1)with|true=>dl (match decide (okR l.2.1∧okR l.2.1)with|true=>dl (match decide (okR y7∧okR y8)with|true=>dl (match decide (fS y9 y10)with|true=>dup (.b .l .l) (some [RV.d tR y11,RV.d tV y1])|false=>none) y12|false=>none) y13|false=>none) y14|false=>none) (match decide (okR l.1∧okR l.1)with|true=>y14|false=>none)|false=>none)|false=>none)|false=>none)|false=>none)|false=>none)|false=>none)|false=>none
theorem ao6(l c:BO3):RS apy 185 [.d tO l,.d tO c] (afh l c):=rsX
theorem ZU(l c:BO3)(h:cG l∧bZ c):Con Tryz.prog 185 [.d tO l,.d tO c] [.d tR (ai (fL (dec l) (dec c))),.d tV (enc (ftL (dec l) (dec c)))]:=by
 refine aP iJ (ao6 _ _ ⟨0,?_⟩)
 obtain⟨hl,hc⟩:=h
 obtain⟨l,rfl,bl,nl⟩:=eE hl
 obtain⟨c,rfl,bc,nc⟩:=dk hc
 have ol:=atT (kw (l:=l) nl)
 have bl:Bd l 63:=alE
 have bv:Bd ((c.1,c.2.1):Rat×Rat) 4:=inferInstance
 have hn:=pH nl
 have bn:Bd (cY l) 49:=inferInstanceAs (Bd (l.1*l.1+l.2.1*l.2.1) _)
 have bf:=Jv (l:=l) (c:=c)
 have b1:Bd (ftL l c).1 163:=inferInstance
 have b2:Bd (ftL l c).2 163:=inferInstance
 have e1:l.1*l.1+l.2.1*l.2.1=cY l:=rfl
 unfold afh fL DE
 simp only[au,aO,ak,aq,aI,aL,aF,az,okd,aX,aC,atW,atY,Nat.reduceAdd,Nat.reduceLeDiff,at8,PL,nl,adx,e1,hn,ne_eq,avN]
 try rfl
def aq6:Ctx:=CX pO []
def ahH(c:BO3)(_k:KT):Option (List RV):=match decide (bO (1:Int))with|true=>(match decide (bO (0:Int))with|true=>(match decide (okR (hid (ai ((1:Int):Rat))))with|true=>(match decide (ok Rat 1000 c.1∧ok Rat 1000 (hid (ai (-ae (hid (ai ((1:Int):Rat))))))∧ok Rat 1000 c.2.1∧ok Rat 1000 (hid (ai ((0:Int):Rat)))∧ok Rat 1000 c.2.2∧0≤ae c.2.2)with|true=>(match decide (ok Rat 1000 c.1∧ok Rat 1000 (hid (ai ((1:Int):Rat)))∧ok Rat 1000 c.2.1∧ok Rat 1000 (hid (ai ((0:Int):Rat)))∧ok Rat 1000 c.2.2∧0≤ae c.2.2)with|true=>some [RV.d tP (hid (enc (oA (ae c.1) (ae (hid (ai (-ae (hid (ai ((1:Int):Rat))))))) (ae c.2.1) (ae (hid (ai ((0:Int):Rat)))) (ae c.2.2)))),RV.d tP (hid (enc (oA (ae c.1) (ae (hid (ai ((1:Int):Rat)))) (ae c.2.1) (ae (hid (ai ((0:Int):Rat)))) (ae c.2.2))))]|false=>none)|false=>none)|false=>none)|false=>none)|false=>none
theorem arr(c:BO3):RS aq6 80 [.d tO c] (ahH c):=rsX
theorem ada(c:BO3)(h:bZ c):Con Tryz.prog 80 [.d tO c] [.d tP (enc (sT (dec c))),.d tP (enc (tW (dec c)))]:=by
 refine aP iJ (arr _ ⟨0,?_⟩)
 have hc:=h
 obtain⟨c,rfl,bc,nc⟩:=dk hc
 have b0:Bd ((0:Int):Rat) 3:=ff (by decide)
 have b1:Bd ((1:Int):Rat) 3:=ff (by decide)
 have i0:decide (bO 0)=true:=by decide
 have i1:decide (bO 1)=true:=by decide
 have nc':decide (0≤c.2.2)=true:=atT (by grind)
 unfold ahH sT tW
 simp only[ak,aq,aI,aL,aF,az,aD,aX,atW,atY,Nat.reduceLeDiff,i0,i1,nc']
 rfl
def Ug:aN:=spN true true [tO,tO] (fun x=>decide (cG x.1∧cG x.2.1)) (fun x=>[RV.d .bool (oh (dec x.1) (dec x.2.1))])
theorem TB:SpK 123 Ug:=spX fun x h=>abM x.1 x.2.1 (atS h)
def T6:aN:=spN true true [tO,tO] (fun x=>decide (bZ x.1∧bZ x.2.1)) (fun x=>[RV.d .bool (qX (dec x.1) (dec x.2.1))])
theorem Vl:SpK 122 T6:=spX fun x h=>Z8 x.1 x.2.1 (atS h)
def Qa:aN:=spN true true [tO,tO] (fun x=>decide (bZ x.1∧bZ x.2.1)) (fun x=>[RV.d .bool (gZ (dec x.1) (dec x.2.1))])
theorem Xh:SpK 183 Qa:=spX fun x h=>acy x.1 x.2.1 (atS h)
def Yp:aN:=spN false true [tO] (fun x=>decide (bZ x.1)) (fun x=>[RV.d tR (hid (ai (rg (dec x.1))))])
theorem T5:SpK 239 Yp:=spX fun x h=>by simp only[ak];exact ZR x.1 (atS h)
def Uz:aN:=spN false true [tO,tO] (fun x=>decide (cG x.1∧bZ x.2.1)) (fun x=>[RV.d tR (hid (ai (fL (dec x.1) (dec x.2.1)))),RV.d tV (hid (enc (ftL (dec x.1) (dec x.2.1))))])
theorem YJ:SpK 185 Uz:=spX fun x h=>by simp only[ak];exact ZU x.1 x.2.1 (atS h)
def IQ:aN:=spN false true [tO] (fun x=>decide (bZ x.1)) (fun x=>[RV.d tP (hid (enc (sT (dec x.1)))),RV.d tP (hid (enc (tW (dec x.1))))])
theorem Fk:SpK 80 IQ:=spX fun x h=>by simp only[ak];exact ada x.1 (atS h)
def zn:Env:=(123,Ug)::(122,T6)::(183,Qa)::(239,Yp)::(185,Uz)::(80,IQ)::pO
theorem qi:EnvAll Tryz.prog zn:=⟨TB,Vl,Xh,T5,YJ,Fk,iJ⟩
def asa:Ctx:=CX zn []
def ahi(l m:BO3)(_k:KT):Option (List RV):=let y1:=hid (ai (ae l.1*ae m.2.1));let y2:=hid (ai (ae m.1*ae l.2.1));let y3:=hid (ai (ae y1-ae y2));let y4:=hid (ai (ae l.2.2*ae m.2.1));let y5:=hid (ai (ae m.2.2*ae l.2.1));let y6:=hid (ai (ae y4-ae y5));let y7:=hid (ai (ae l.1*ae m.2.2));let y8:=hid (ai (ae m.1*ae l.2.2));let y9:=hid (ai (ae y7-ae y8));match decide (okR l.1∧okR m.2.1)with|true=>(match decide (okR m.1∧okR l.2.1)with|true=>(match decide (okR y1∧okR y2)with|true=>(match decide (okR y3)with|true=>(match(aS (ae y3) 0)==0 with|true=>(match decide (cG l∧cG m)with|true=>(match oh (dec l) (dec m)with|true=>some [RV.d (.sl tP) ([]),RV.d axf 10]|false=>some [RV.d (.sl tP) ([]),RV.d axf 0])|false=>none)|false=>(match decide (okR l.2.2∧okR m.2.1)with|true=>(match decide (okR m.2.2∧okR l.2.1)with|true=>(match decide (okR y4∧okR y5)with|true=>(match decide (fS y6 y3)with|true=>(match decide (okR l.1∧okR m.2.2)with|true=>(match decide (okR m.1∧okR l.2.2)with|true=>(match decide (okR y7∧okR y8)with|true=>(match decide (fS y9 y3)with|true=>(match decide (ok (Rat×Rat) 100000 (hid (ai (ae y6/ae y3)),hid (ai (ae y9/ae y3))))with|true=>some [RV.d (.sl tP) ([hid (enc (atP (dec (hid (ai (ae y6/ae y3)),hid (ai (ae y9/ae y3))))))]),RV.d axf 0]|false=>none)|false=>none)|false=>none)|false=>none)|false=>none)|false=>none)|false=>none)|false=>none)|false=>none))|false=>none)|false=>none)|false=>none)|false=>none
theorem arB(l m:BO3):RS asa 126 [.d tO l,.d tO m] (ahi l m):=rsX
theorem abn(l m:BO3)(h:cG l∧cG m):Con Tryz.prog 126 [.d tO l,.d tO m] [.d (.sl tP) ((n8 (dec l) (dec m)).map enc),.d axf (Pq (dec l) (dec m))]:=by
 refine aP qi (arB _ _ ⟨0,?_⟩)
 obtain⟨hl,hm⟩:=h
 obtain⟨l,rfl,bl,nl⟩:=eE hl
 obtain⟨m,rfl,bm,nm⟩:=eE hm
 have ol:=atT (kw (l:=l) nl)
 have om:=atT (kw (l:=m) nm)
 have bc:Bd (fH l m) 49:=inferInstanceAs (Bd (l.1*m.2.1-m.1*l.2.1) _)
 have e0:l.1*m.2.1-m.1*l.2.1=fH l m:=rfl
 have e1:l.2.2*m.2.1-m.2.2*l.2.1=oo l m:=rfl
 have e2:l.1*m.2.2-m.1*l.2.2=oO l m:=rfl
 have bx:Bd (oo l m) 151:=inferInstanceAs (Bd (l.2.2*m.2.1-m.2.2*l.2.1) _)
 have b_:Bd (oO l m) 151:=inferInstanceAs (Bd (l.1*m.2.2-m.1*l.2.2) _)
 unfold ahi n8 Pq
 simp only[ak,aq,aI,aL,aF,az,aX,atW,atY,Nat.reduceAdd,Nat.reduceLeDiff,aE,ol,om,e0,e1,e2]
 by_cases h0:fH l m=0
 ·simp only[atT h0,Bool.not_true]
  cases oh l m<;>rfl
 ·simp only[aq,okd,aC,mx,Nat.reduceAdd,Nat.reduceLeDiff,at8,at4,cond_true,h0,ne_eq,avN,Bool.not_false,PL]
  rfl
def aqc:Ctx:=CX zn []
def ahE(c d:BO3)(_k:KT):Option (List RV):=match decide (bZ c∧bZ d)with|true=>(match gZ (dec c) (dec d)with|true=>some [RV.d tO (((false,[]),(false,[])),(((false,[]),(false,[])),((false,[]),(false,[])))),RV.d axf 6]|false=>(match decide (bO (2:Int))with|true=>(match decide (okR d.1∧okR c.1)with|true=>(match decide (okR (hid (ai ((2:Int):Rat)))∧okR (hid (ai (ae d.1-ae c.1))))with|true=>(match decide (okR d.2.1∧okR c.2.1)with|true=>(match decide (okR (hid (ai ((2:Int):Rat)))∧okR (hid (ai (ae d.2.1-ae c.2.1))))with|true=>(match decide (bZ d)with|true=>(match decide (bZ c)with|true=>(match decide (okR (hid (ai (rg (dec d))))∧okR (hid (ai (rg (dec c)))))with|true=>some [RV.d tO (hid (ai (ae (hid (ai ((2:Int):Rat)))*ae (hid (ai (ae d.1-ae c.1))))),(hid (ai (ae (hid (ai ((2:Int):Rat)))*ae (hid (ai (ae d.2.1-ae c.2.1))))),hid (ai (ae (hid (ai (rg (dec d))))-ae (hid (ai (rg (dec c)))))))),RV.d axf 0]|false=>none)|false=>none)|false=>none)|false=>none)|false=>none)|false=>none)|false=>none)|false=>none))|false=>none
theorem amY(c d:BO3):RS aqc 184 [.d tO c,.d tO d] (ahE c d):=rsX
theorem abU(c d:BO3)(h:bZ c∧bZ d):Con Tryz.prog 184 [.d tO c,.d tO d] [.d tO (ul (dec c) (dec d)),.d axf (Om (dec c) (dec d))]:=by
 refine aP qi (amY _ _ ⟨0,?_⟩)
 obtain⟨hc,hd⟩:=h
 obtain⟨c,rfl,bc,nc⟩:=dk hc
 obtain⟨d,rfl,bd,nd⟩:=dk hd
 have oc:=atT (gM (c:=c) nc)
 have od:=atT (gM (c:=d) nd)
 have i2:decide (bO 2)=true:=by decide
 have b2:Bd ((2:Int):Rat) 3:=ff (by decide)
 have f1:Bd (rg c) 31:=(inferInstance:Bd (c.1*c.1+c.2.1*c.2.1-c.2.2) _).mono (by decide)
 have f2:Bd (rg d) 31:=(inferInstance:Bd (d.1*d.1+d.2.1*d.2.1-d.2.2) _).mono (by decide)
 unfold ahE ul Om
 simp only[ak,aq,aI,aL,aF,az,aX,atW,atY,Nat.reduceAdd,Nat.reduceLeDiff,oc,od,i2]
 cases gZ c d
 ·rfl
 ·rfl
def ar1:Ctx:=CX zn []
def aeF(l c:BO3)(_k:KT):Option (List RV):=let y1:=hid (ai (fL (dec l) (dec c)));let y2:=hid (enc (ftL (dec l) (dec c)));let y3:=aS (ae l.2.1) 0;let y4:=hid (ai (-ae l.1));let y5:=hid (ai (-ae l.2.1));let y6:=hid (ai (-ae y4));let y7:=hid (ai (-ae y5));let y8:=hid (ai (-ae y6));let y9:=enc (oA (ae (y2.1)) (ae y5) (ae (y2.2)) (ae y6) (ae y1));let y10:Option (List RV):=match decide (okR l.2.1)with|true=>(match decide (okR y4)with|true=>(match decide (okR y5)with|true=>(match decide (okR y6)with|true=>(match decide (ok Rat 1000 (y2.1)∧ok Rat 1000 y7∧ok Rat 1000 (y2.2)∧ok Rat 1000 y8∧ok Rat 1000 y1∧0≤ae y1)with|true=>(match decide (ok Rat 1000 (y2.1)∧ok Rat 1000 y5∧ok Rat 1000 (y2.2)∧ok Rat 1000 y6∧ok Rat 1000 y1∧0≤ae y1)with|true=>some [RV.new 41 tP ([hid (enc (oA (ae (y2.1)) (ae y7) (ae (y2.2)) (ae y8) (ae y1))),hid y9])]|false=>none)|false=>none)|false=>none)|false=>none)|false=>none)|false=>none;let y11:Option (List RV):=match decide (okR l.2.1)with|true=>(match decide (okR y4)with|true=>(match decide (ok Rat 1000 (y2.1)∧ok Rat 1000 y5∧ok Rat 1000 (y2.2)∧ok Rat 1000 y6∧ok Rat 1000 y1∧0≤ae y1)with|true=>(match decide (ok Rat 1000 (y2.1)∧ok Rat 1000 l.2.1∧ok Rat 1000 (y2.2)∧ok Rat 1000 y4∧ok Rat 1000 y1∧0≤ae y1)with|true=>some [RV.new 41 tP ([hid y9,hid (enc (oA (ae (y2.1)) (ae l.2.1) (ae (y2.2)) (ae y4) (ae y1)))])]|false=>none)|false=>none)|false=>none)|false=>none;match decide (cG l∧bZ c)with|true=>(match decide (okR y1)with|true=>(match(aS (ae y1) 0)==(-1)with|true=>some [RV.new 41 tP []]|false=>(match(aS (ae y1) 0)==0 with|true=>(match decide (ok (Rat×Rat) 100000 y2)with|true=>some [RV.new 41 tP ([hid (enc (atP (dec y2)))])]|false=>none)|false=>(match decide (okR l.1)with|true=>(match decide (okR l.2.1)with|true=>(match decide (y3<0)with|true=>y10|false=>(match y3==0 with|true=>(match decide (okR y4)with|true=>(match decide ((aS (ae y4) 0)<0)with|true=>y10|false=>y11)|false=>none)|false=>y11))|false=>none)|false=>none)))|false=>none)|false=>none
theorem aof(l c:BO3):RS ar1 125 [.d tO l,.d tO c] (aeF l c):=rsX
theorem aco(l c:BO3)(h:cG l∧bZ c):Con Tryz.prog 125 [.d tO l,.d tO c] [.d (.sl tP) ((kX (dec l) (dec c)).map enc)]:=by
 refine Con.new_d (et:=41) (aP qi (aof _ _ ⟨0,?_⟩))
 obtain⟨hl,hc⟩:=h
 obtain⟨l,rfl,bl,nl⟩:=eE hl
 obtain⟨c,rfl,bc,nc⟩:=dk hc
 have ol:=atT (kw (l:=l) nl)
 have oc:=atT (gM (c:=c) nc)
 have bf:=Jv (l:=l) (c:=c)
 have bk:=V1 (l:=l) (c:=c)
 have b1:Bd (ftL l c).1 163:=inferInstance
 have b2:Bd (ftL l c).2 163:=inferInstance
 unfold aeF kX
 simp only[ak,aq,aI,aL,aF,az,okd,aD,aX,atW,atY,atX,Nat.reduceLeDiff,aE,aH,kj,ol,oc]
 by_cases h0:fL l c<0
 ·simp only[atT h0]
  rfl
 ·simp only[atV h0]
  by_cases h1:fL l c=0
  ·simp only[atT h1]
   rfl
  ·have hp:decide (0≤fL l c)=true:=atT (by grind)
   simp only[atV h1,hp,cond_false]
   unfold lcM lcN u9 u5 OD
   cases decide (l.2.1<0)<;>cases decide (l.2.1=0)<;>cases decide (-l.1<0)<;>rfl
def Si:aN:=spN false true [tO,tO] (fun x=>decide (cG x.1∧cG x.2.1)) (fun x=>[RV.d (.sl tP) ((n8 (dec x.1) (dec x.2.1)).map enc),RV.d axf (Pq (dec x.1) (dec x.2.1))])
theorem Uq:SpK 126 Si:=spX fun x h=>abn x.1 x.2.1 (atS h)
def Rj:aN:=spN false true [tO,tO] (fun x=>decide (bZ x.1∧bZ x.2.1)) (fun x=>[RV.d tO (hid (ul (dec x.1) (dec x.2.1))),RV.d axf (Om (dec x.1) (dec x.2.1))])
theorem Zv:SpK 184 Rj:=spX fun x h=>by simp only[ak];exact abU x.1 x.2.1 (atS h)
def SC:aN:=spN false true [tO,tO] (fun x=>decide (cG x.1∧bZ x.2.1)) (fun x=>[RV.d (.sl tP) ((kX (dec x.1) (dec x.2.1)).map enc)])
theorem Zr:SpK 125 SC:=spX fun x h=>aco x.1 x.2.1 (atS h)
def JA:Env:=(126,Si)::(184,Rj)::(125,SC)::zn
theorem Cf:EnvAll Tryz.prog JA:=⟨Uq,Zv,Zr,qi⟩
def aqL:Ctx:=CX JA []
def af0(c d:BO3)(_k:KT):Option (List RV):=match decide (bZ c∧bZ d)with|true=>(match qX (dec c) (dec d)with|true=>some [RV.d (.sl tP) ([]),RV.d axf 10]|false=>(match decide (bZ c∧bZ d)with|true=>(match gZ (dec c) (dec d)with|true=>some [RV.d (.sl tP) ([]),RV.d axf 0]|false=>(match decide (bZ c∧bZ d)with|true=>(match decide (cG (hid (ul (dec c) (dec d)))∧bZ c)with|true=>some [RV.d (.sl tP) ((kX (dec (hid (ul (dec c) (dec d)))) (dec c)).map enc),RV.d axf 0]|false=>none)|false=>none))|false=>none))|false=>none
theorem ang(c d:BO3):RS aqL 124 [.d tO c,.d tO d] (af0 c d):=rsX
theorem ab5(c d:BO3)(h:bZ c∧bZ d):Con Tryz.prog 124 [.d tO c,.d tO d] [.d (.sl tP) ((u7 (dec c) (dec d)).map enc),.d axf (UU (dec c) (dec d))]:=by
 refine aP Cf (ang _ _ ⟨0,?_⟩)
 obtain⟨hc,hd⟩:=h
 obtain⟨c,rfl,bc,nc⟩:=dk hc
 obtain⟨d,rfl,bd,nd⟩:=dk hd
 have oc:=atT (gM (c:=c) nc)
 have od:=atT (gM (c:=d) nd)
 unfold af0 u7 UU
 simp only[ak,aq,atW,atZ,atY,oc,od]
 cases hs:qX c d
 ·cases hc:gZ c d
  ·have ol:cG (enc (n6 c d)):=Tm hc
   have er:ul c d=enc (n6 c d):=by unfold ul;rw[hc];rfl
   simp only[er,dT ol,aq,cond_false]
   try rfl
  ·rfl
 ·have hc:gZ c d=true:=by
   unfold qX at hs
   unfold gZ
   cases h1:decide (c.1=d.1)
   ·rw[h1]at hs;cases hs
   ·cases h2:decide (c.2.1=d.2.1)
    ·rw[h1,h2]at hs;cases hs
    ·rfl
  rw[hc]
  rfl
def QZ:aN:=spN false true [tO,tO] (fun x=>decide (bZ x.1∧bZ x.2.1)) (fun x=>[RV.d (.sl tP) ((u7 (dec x.1) (dec x.2.1)).map enc),RV.d axf (UU (dec x.1) (dec x.2.1))])
theorem Qw:SpK 124 QZ:=spX fun x h=>ab5 x.1 x.2.1 (atS h)
def It:Env:=(124,QZ)::JA
theorem Bc:EnvAll Tryz.prog It:=⟨Qw,Cf⟩
def amP:Ctx:=CX It []
def afi(a b:BCU)(_k:KT):Option (List RV):=match a.1 with|true=>(match b.1 with|true=>(match decide (bZ a.2.2.1∧bZ b.2.2.1)with|true=>some [RV.d (.sl tP) ((u7 (dec a.2.2.1) (dec b.2.2.1)).map enc),RV.d axf (UU (dec a.2.2.1) (dec b.2.2.1))]|false=>none)|false=>(match a.1 with|true=>(match decide (cG b.2.1∧bZ a.2.2.1)with|true=>some [RV.d (.sl tP) ((kX (dec b.2.1) (dec a.2.2.1)).map enc),RV.d axf 0]|false=>none)|false=>(match b.1 with|true=>(match decide (cG a.2.1∧bZ b.2.2.1)with|true=>some [RV.d (.sl tP) ((kX (dec a.2.1) (dec b.2.2.1)).map enc),RV.d axf 0]|false=>none)|false=>(match decide (cG a.2.1∧cG b.2.1)with|true=>some [RV.d (.sl tP) ((n8 (dec a.2.1) (dec b.2.1)).map enc),RV.d axf (Pq (dec a.2.1) (dec b.2.1))]|false=>none))))|false=>(match a.1 with|true=>(match decide (cG b.2.1∧bZ a.2.2.1)with|true=>some [RV.d (.sl tP) ((kX (dec b.2.1) (dec a.2.2.1)).map enc),RV.d axf 0]|false=>none)|false=>(match b.1 with|true=>(match decide (cG a.2.1∧bZ b.2.2.1)with|true=>some [RV.d (.sl tP) ((kX (dec a.2.1) (dec b.2.2.1)).map enc),RV.d axf 0]|false=>none)|false=>(match decide (cG a.2.1∧cG b.2.1)with|true=>some [RV.d (.sl tP) ((n8 (dec a.2.1) (dec b.2.1)).map enc),RV.d axf (Pq (dec a.2.1) (dec b.2.1))]|false=>none)))
theorem aqA(a b:BCU):RS amP 59 [.d tCU a,.d tCU b] (afi a b):=rsX
theorem abg(a b:BCU)(h:fj a b):Con Tryz.prog 59 [.d tCU a,.d tCU b] [.d (.sl tP) ((gW (dC a) (dC b)).map enc),.d axf (air (dC a) (dC b))]:=by
 refine aP Bc (aqA _ _ ⟨0,?_⟩)
 obtain⟨⟨a1,a2⟩,b1,b2⟩:=h
 unfold afi gW air
 obtain⟨aa,al,ac,aw,af,at_⟩:=a
 obtain⟨ba,bl,bc,bw,bf,bt⟩:=b
 cases aa<;>cases ba
 ·have h1:=a2 rfl
  have h2:=b2 rfl
  simp only[dT (show cG al∧cG bl from⟨h1,h2⟩)]
  rfl
 ·have h1:=a2 rfl
  have h2:=b1 rfl
  simp only[dT (show cG al∧bZ bc from⟨h1,h2⟩)]
  rfl
 ·have h1:=a1 rfl
  have h2:=b2 rfl
  simp only[dT (show cG bl∧bZ ac from⟨h2,h1⟩)]
  rfl
 ·have h1:=a1 rfl
  have h2:=b1 rfl
  simp only[dT (show bZ ac∧bZ bc from⟨h1,h2⟩)]
  rfl
def arh:Ctx:=CX It []
def aga(a b:BCU)(_k:KT):Option (List RV):=match !(a.1==b.1)with|true=>some [RV.d .bool false]|false=>(match a.1 with|true=>(match decide (bZ a.2.2.1∧bZ b.2.2.1)with|true=>some [RV.d .bool (qX (dec a.2.2.1) (dec b.2.2.1))]|false=>none)|false=>(match decide (cG a.2.1∧cG b.2.1)with|true=>some [RV.d .bool (oh (dec a.2.1) (dec b.2.1))]|false=>none))
theorem anR(a b:BCU):RS arh 58 [.d tCU a,.d tCU b] (aga a b):=rsX
theorem Mn(a b:BCU)(h:fj a b):Con Tryz.prog 58 [.d tCU a,.d tCU b] [.d .bool (c7 (dC a) (dC b))]:=by
 refine aP Bc (anR _ _ ⟨0,?_⟩)
 obtain⟨⟨a1,a2⟩,b1,b2⟩:=h
 unfold aga c7
 obtain⟨aa,al,ac,aw,af,at_⟩:=a
 obtain⟨ba,bl,bc,bw,bf,bt⟩:=b
 cases aa<;>cases ba
 ·have h1:=a2 rfl
  have h2:=b2 rfl
  simp only[dT (show cG al∧cG bl from⟨h1,h2⟩)]
  rfl
 ·rfl
 ·rfl
 ·have h1:=a1 rfl
  have h2:=b1 rfl
  simp only[dT (show bZ ac∧bZ bc from⟨h1,h2⟩)]
  rfl
def Ih:aN:=spN false true [tCU,tCU] (fun x=>decide (fj x.1 x.2.1)) (fun x=>[RV.d (.sl tP) ((gW (dC x.1) (dC x.2.1)).map enc),RV.d axf (air (dC x.1) (dC x.2.1))])
theorem Gi:SpK 59 Ih:=spX fun x h=>abg x.1 x.2.1 (atS h)
end Go.Proofs.YtgddhgcjmddjfaaGreat
end
