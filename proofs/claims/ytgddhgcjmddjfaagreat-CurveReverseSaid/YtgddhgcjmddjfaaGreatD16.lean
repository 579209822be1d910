/- Common points of lines and circles: the reference's contracts. -/
import Derived.Test.YtgddhgcjmddjfaaGreatD15
noncomputable section
namespace Go.Proofs.YtgddhgcjmddjfaaGreat
open Go.RowKit Go.IntKind
theorem avN:type_of% @Rat.div_mul_cancel:=@Rat.div_mul_cancel
section
theorem NS(a b:Rat):((ai a,ai b):BV)=enc ((a,b):Rat×Rat):=nr rfl
theorem ZD{q:Rat}(h:¬q<0)(h':¬q=0):0<q:=by grind
theorem rdl{l:Ln}(h:cK l≠0)(hl:l.1≠0∨l.2.1≠0):¬(l.2.1/cK l=0∧ -l.1/cK l=0):=by
 intro ⟨h1,h2⟩
 have m:∀a:Rat,a/cK l=0→a=0:=fun a e=>by
  have:a/cK l*cK l=a:=avN h
  rw[e,Rat.zero_mul]at this
  exact this.symm
 have:=m _ h1
 have:=m _ h2
 rcases hl with h|h<;>grind
section
variable {l c:Ln}
theorem YY(hl:l.1≠0∨l.2.1≠0)(h0:0≤iG l c):Rpd (sW l c)∧Rpd (t7 l c):=by
 have hn:=nw hl
 refine⟨Eb (fun h=>rdl hn hl ⟨by grind,by grind⟩) h0,Eb (rdl hn hl) h0⟩
theorem YM [BdL l][BdC c]:Bd (sW l c) 490∧Bd (t7 l c) 490:=by
 obtain⟨h1,h2,h3,h4⟩:=vk (l:=l) (c:=c)
 have h5:Bd (iG l c) 257:=inferInstance
 have n1:Bd (-(l.2.1/cK l)) 61:=inferInstance
 have i1:Bd (cK l) 49:=inferInstanceAs (Bd (l.1*l.1+l.2.1*l.2.1) _)
 have n2:Bd (-l.1/cK l) 61:=(inferInstance:Bd (-l.1/cK l) _)
 have n3:Bd (-(-l.1/cK l)) 61:=inferInstance
 exact⟨Eo h1 n1 h2 n3 h5 (by decide),Eo h1 h3 h2 n2 h5 (by decide)⟩
end
theorem xV{c d:Ln}[BdC c][BdC d]:BdL (ms c d):=by
 have b2:Bd (2:Rat) 3:=fS (n:=2) (by decide)
 have f1:Bd (oW c) 31:=(inferInstance:Bd (c.1*c.1+c.2.1*c.2.1-c.2.2) _).mono (by decide)
 have f2:Bd (oW d) 31:=(inferInstance:Bd (d.1*d.1+d.2.1*d.2.1-d.2.2) _).mono (by decide)
 have g1:Bd (2*(d.1-c.1)) _:=inferInstance
 have g2:Bd (2*(d.2.1-c.2.1)) _:=inferInstance
 have g3:Bd (oW d-oW c) _:=inferInstance
 exact⟨g1.mono (by decide),g2.mono (by decide),g3.mono (by decide)⟩
theorem xQ{c d:Ln}(h:gi c d=false):(ms c d).1≠0∨(ms c d).2.1≠0:=by
 unfold gi at h
 unfold ms
 dsimp only
 by_cases h1:c.1=d.1
 ·rw[auO h1,auS]at h
  have:=av0 h
  right;grind
 ·left;grind
theorem TO{c d:Ln}[BdC c][BdC d](h:gi c d=false):cG (enc (ms c d)):=ku (h:=xV) (xQ h)
def tB:Env:=[(69,jS),(35,nv),(85,qU),(168,qs),(86,ng),(92,rg),(169,ri),(167,CW),(83,wO),(38,uj),(51,qT),(94,xh)]
theorem jD:EnvAll Tryz.prog tB:=⟨gU,kq,mg,mM,j8,mX,mp,Ba,wg,qr,mL,uS,trivial⟩
def aok:Ctx:=CX tB []
def agw(a b:BR)(_k:KT):OLR:=match decide (okR a∧okR b)with|true=>some [RV.d tR (hid (ai (ae a+ae b)))]|false=>none
theorem asl(a b:BR):RS aok 166 [.d tR a,.d tR b] (agw a b):=rsX
theorem aeu(a b:BR)(h:okR a∧okR b):Con Tryz.prog 166 [.d tR a,.d tR b] [.d tR (ai (ae a+ae b))]:=by
 refine aO jD (asl _ _ ⟨0,?_⟩)
 unfold agw
 rw[dT h]
 simp only[am]
def aor:Ctx:=CX tB []
def agE(a b:BR)(_k:KT):OLR:=match decide (okR a∧okR b)with|true=>some [RV.d tR (hid (ai (ae a-ae b)))]|false=>none
theorem arx(a b:BR):RS aor 101 [.d tR a,.d tR b] (agE a b):=rsX
theorem aek(a b:BR)(h:okR a∧okR b):Con Tryz.prog 101 [.d tR a,.d tR b] [.d tR (ai (ae a-ae b))]:=by
 refine aO jD (arx _ _ ⟨0,?_⟩)
 unfold agE
 rw[dT h]
 simp only[am]
def apw:Ctx:=CX tB []
def afO(a b:BR)(_k:KT):OLR:=match decide (okR a∧okR b)with|true=>some [RV.d tR (hid (ai (ae a*ae b)))]|false=>none
theorem arW(a b:BR):RS apw 102 [.d tR a,.d tR b] (afO a b):=rsX
theorem act(a b:BR)(h:okR a∧okR b):Con Tryz.prog 102 [.d tR a,.d tR b] [.d tR (ai (ae a*ae b))]:=by
 refine aO jD (arW _ _ ⟨0,?_⟩)
 unfold afO
 rw[dT h]
 simp only[am]
def asM:Ctx:=CX tB []
def ahY(a:BR)(_k:KT):OLR:=match decide (okR a)with|true=>some [RV.d tR (hid (ai (-ae a)))]|false=>none
theorem asC(a:BR):RS asM 103 [.d tR a] (ahY a):=rsX
theorem aaR(a:BR)(h:okR a):Con Tryz.prog 103 [.d tR a] [.d tR (ai (-ae a))]:=by
 refine aO jD (asC _ ⟨0,?_⟩)
 unfold ahY
 rw[dT h]
 simp only[am]
def as6:Ctx:=CX tB []
def ag9(a b:BR)(_k:KT):OLR:=match decide (gb a b)with|true=>some [RV.d tR (hid (ai (ae a/ae b)))]|false=>none
theorem apP(a b:BR):RS as6 99 [.d tR a,.d tR b] (ag9 a b):=rsX
theorem aeT(a b:BR)(h:gb a b):Con Tryz.prog 99 [.d tR a,.d tR b] [.d tR (ai (ae a/ae b))]:=by
 refine aO jD (apP _ _ ⟨0,?_⟩)
 unfold ag9
 rw[dT h]
 simp only[am]
def akH:Ctx:=CX tB []
def Uq(l m:BO3)(_k:KT):OLR:=match decide (okR l.1∧okR m.2.1)with|true=>(match decide (okR l.2.1∧okR m.1)with|true=>(match decide (okR (hid (ai (ae l.1*ae m.2.1)))∧okR (hid (ai (ae l.2.1*ae m.1))))with|true=>(match(aR (ae (hid (ai (ae l.1*ae m.2.1)))) (ae (hid (ai (ae l.2.1*ae m.1)))))==0 with|true=>(match decide (okR l.1∧okR m.2.2)with|true=>(match decide (okR l.2.2∧okR m.1)with|true=>(match decide (okR (hid (ai (ae l.1*ae m.2.2)))∧okR (hid (ai (ae l.2.2*ae m.1))))with|true=>(match(aR (ae (hid (ai (ae l.1*ae m.2.2)))) (ae (hid (ai (ae l.2.2*ae m.1)))))==0 with|true=>(match decide (okR l.2.1∧okR m.2.2)with|true=>(match decide (okR l.2.2∧okR m.2.1)with|true=>(match decide (okR (hid (ai (ae l.2.1*ae m.2.2)))∧okR (hid (ai (ae l.2.2*ae m.2.1))))with|true=>some [RV.d .bool ((aR (ae (hid (ai (ae l.2.1*ae m.2.2)))) (ae (hid (ai (ae l.2.2*ae m.2.1)))))==0)]|false=>none)|false=>none)|false=>none)|false=>some [RV.d .bool false])|false=>none)|false=>none)|false=>none)|false=>some [RV.d .bool false])|false=>none)|false=>none)|false=>none
theorem amY(l m:BO3):RS akH 43 [.d tO l,.d tO m] (Uq l m):=rsX
theorem VQ(l m:BO3)(h:cG l∧cG m):Con Tryz.prog 43 [.d tO l,.d tO m] [.d .bool (n7 (dec l) (dec m))]:=by
 refine aO jD (amY _ _ ⟨0,?_⟩)
 obtain⟨hl,hm⟩:=h
 obtain⟨l,rfl,bl,nl⟩:=eI hl
 obtain⟨m,rfl,bm,nm⟩:=eI hm
 unfold Uq n7
 simp only[am,aq,aH,aI,aF,az,aZ,auR,auT,Nat.reduceAdd,Nat.reduceLeDiff,aE]
 cases decide (l.1*m.2.1=l.2.1*m.1)<;>cases decide (l.1*m.2.2=l.2.2*m.1)<;>rfl
def akQ:Ctx:=CX tB []
def Qp(c d:BO3)(_k:KT):OLR:=match decide (okR c.1∧okR d.1)with|true=>(match(aR (ae c.1) (ae d.1))==0 with|true=>(match decide (okR c.2.1∧okR d.2.1)with|true=>(match(aR (ae c.2.1) (ae d.2.1))==0 with|true=>(match decide (okR c.2.2∧okR d.2.2)with|true=>some [RV.d .bool ((aR (ae c.2.2) (ae d.2.2))==0)]|false=>none)|false=>some [RV.d .bool false])|false=>none)|false=>some [RV.d .bool false])|false=>none
theorem ai2(c d:BO3):RS akQ 42 [.d tO c,.d tO d] (Qp c d):=rsX
theorem QN(c d:BO3)(h:bW c∧bW d):Con Tryz.prog 42 [.d tO c,.d tO d] [.d .bool (pM (dec c) (dec d))]:=by
 refine aO jD (ai2 _ _ ⟨0,?_⟩)
 obtain⟨hc,hd⟩:=h
 obtain⟨c,rfl,bc,nc⟩:=dh hc
 obtain⟨d,rfl,bd,nd⟩:=dh hd
 unfold Qp pM
 simp only[aq,aH,aI,aF,az,aZ,auR,auT,Nat.reduceLeDiff,aE]
 cases decide (c.1=d.1)<;>cases decide (c.2.1=d.2.1)<;>rfl
def UA:aM:=spN false true [tR,tR] (fun x=>decide (okR x.1∧okR x.2.1)) (fun x=>[RV.d tR (hid (ai (ae x.1+ae x.2.1)))])
theorem XD:SpK 166 UA:=spX fun x h=>by simp only[am];exact aeu x.1 x.2.1 (auN h)
def YP:aM:=spN false true [tR,tR] (fun x=>decide (okR x.1∧okR x.2.1)) (fun x=>[RV.d tR (hid (ai (ae x.1-ae x.2.1)))])
theorem R5:SpK 101 YP:=spX fun x h=>by simp only[am];exact aek x.1 x.2.1 (auN h)
def Xe:aM:=spN false true [tR,tR] (fun x=>decide (okR x.1∧okR x.2.1)) (fun x=>[RV.d tR (hid (ai (ae x.1*ae x.2.1)))])
theorem Sn:SpK 102 Xe:=spX fun x h=>by simp only[am];exact act x.1 x.2.1 (auN h)
def Uu:aM:=spN false true [tR] (fun x=>decide (okR x.1)) (fun x=>[RV.d tR (hid (ai (-ae x.1)))])
theorem Ym:SpK 103 Uu:=spX fun x h=>by simp only[am];exact aaR x.1 (auN h)
def Ua:aM:=spN false true [tR,tR] (fun x=>decide (gb x.1 x.2.1)) (fun x=>[RV.d tR (hid (ai (ae x.1/ae x.2.1)))])
theorem XU:SpK 99 Ua:=spX fun x h=>by simp only[am];exact aeT x.1 x.2.1 (auN h)
def zW:Env:=(166,UA)::(101,YP)::(102,Xe)::(103,Uu)::(99,Ua)::tB
theorem mU:EnvAll Tryz.prog zW:=⟨XD,R5,Sn,Ym,XU,jD⟩
def ana:Ctx:=CX zW []
def afG(l m:BO3)(_k:KT):OLR:=match decide (okR l.1∧okR m.2.1)with|true=>(match decide (okR m.1∧okR l.2.1)with|true=>(match decide (okR (hid (ai (ae l.1*ae m.2.1)))∧okR (hid (ai (ae m.1*ae l.2.1))))with|true=>some [RV.d tR (hid (ai (ae (hid (ai (ae l.1*ae m.2.1)))-ae (hid (ai (ae m.1*ae l.2.1))))))]|false=>none)|false=>none)|false=>none
theorem am7(l m:BO3):RS ana 105 [.d tO l,.d tO m] (afG l m):=rsX
theorem aee(l m:BO3)(h:cG l∧cG m):Con Tryz.prog 105 [.d tO l,.d tO m] [.d tR (ai (fd (dec l) (dec m)))]:=by
 refine aO mU (am7 _ _ ⟨0,?_⟩)
 obtain⟨hl,hm⟩:=h
 obtain⟨l,rfl,bl,nl⟩:=eI hl
 obtain⟨m,rfl,bm,nm⟩:=eI hm
 unfold afG fd
 simp only[am,aq,aH,aI,aF,az,aZ,auR,auT,Nat.reduceAdd,Nat.reduceLeDiff]
def aod:Ctx:=CX zW []
def agy(l:BO3)(_k:KT):OLR:=match decide (okR l.1∧okR l.1)with|true=>(match decide (okR l.2.1∧okR l.2.1)with|true=>(match decide (okR (hid (ai (ae l.1*ae l.1)))∧okR (hid (ai (ae l.2.1*ae l.2.1))))with|true=>some [RV.d tR (hid (ai (ae (hid (ai (ae l.1*ae l.1)))+ae (hid (ai (ae l.2.1*ae l.2.1))))))]|false=>none)|false=>none)|false=>none
theorem aph(l:BO3):RS aod 98 [.d tO l] (agy l):=rsX
theorem ac5(l:BO3)(h:cG l):Con Tryz.prog 98 [.d tO l] [.d tR (ai (cK (dec l)))]:=by
 refine aO mU (aph _ ⟨0,?_⟩)
 have hl:=h
 obtain⟨l,rfl,bl,nl⟩:=eI hl
 unfold agy cK
 simp only[am,aq,aH,aI,aF,az,aZ,auR,auT,Nat.reduceAdd,Nat.reduceLeDiff]
def arm:Ctx:=CX zW []
def ahF(l:BO3)(x y:BR)(_k:KT):OLR:=match decide (okR l.1∧okR x)with|true=>(match decide (okR l.2.1∧okR y)with|true=>(match decide (okR (hid (ai (ae l.1*ae x)))∧okR (hid (ai (ae l.2.1*ae y))))with|true=>(match decide (okR (hid (ai (ae (hid (ai (ae l.1*ae x)))+ae (hid (ai (ae l.2.1*ae y))))))∧okR l.2.2)with|true=>some [RV.d tR (hid (ai (ae (hid (ai (ae (hid (ai (ae l.1*ae x)))+ae (hid (ai (ae l.2.1*ae y))))))-ae l.2.2)))]|false=>none)|false=>none)|false=>none)|false=>none
theorem ap3(l:BO3)(x y:BR):RS arm 100 [.d tO l,.d tR x,.d tR y] (ahF l x y):=rsX
theorem aeM(l:BO3)(x y:BR)(h:cG l∧ok Rat 4 x∧ok Rat 4 y):Con Tryz.prog 100 [.d tO l,.d tR x,.d tR y] [.d tR (ai (vlL (dec l) (ae x) (ae y)))]:=by
 refine aO mU (ap3 _ _ _ ⟨0,?_⟩)
 obtain⟨hl,hx,hy⟩:=h
 obtain⟨l,rfl,bl,nl⟩:=eI hl
 obtain⟨x,rfl,bx⟩:=aY hx
 obtain⟨y,rfl,b_y⟩:=aY hy
 unfold ahF vlL
 simp only[am,aq,aH,aI,aF,az,aZ,auR,auT,Nat.reduceAdd,Nat.reduceLeDiff]
def asZ:Ctx:=CX zW []
def ahE(c d:BO3)(_k:KT):OLR:=match decide (okR c.1∧okR d.1)with|true=>(match(aR (ae c.1) (ae d.1))==0 with|true=>(match decide (okR c.2.1∧okR d.2.1)with|true=>some [RV.d .bool ((aR (ae c.2.1) (ae d.2.1))==0)]|false=>none)|false=>some [RV.d .bool false])|false=>none
theorem aoJ(c d:BO3):RS asZ 95 [.d tO c,.d tO d] (ahE c d):=rsX
theorem abe(c d:BO3)(h:bW c∧bW d):Con Tryz.prog 95 [.d tO c,.d tO d] [.d .bool (gi (dec c) (dec d))]:=by
 refine aO mU (aoJ _ _ ⟨0,?_⟩)
 obtain⟨hc,hd⟩:=h
 obtain⟨c,rfl,bc,nc⟩:=dh hc
 obtain⟨d,rfl,bd,nd⟩:=dh hd
 unfold ahE gi
 simp only[aq,aH,aI,aF,az,aZ,auR,auT,Nat.reduceLeDiff,aE]
 cases decide (c.1=d.1)<;>rfl
def ank:Ctx:=CX zW []
def afw(a b c d e:BR)(_k:KT):OLR:=match decide (okR e)with|true=>(match fF (ae e)with|true=>(match decide (okR b∧okR (hid (rtB (ae e))))with|true=>(match decide (okR a∧okR (hid (ai (ae b*ae (hid (rtB (ae e)))))))with|true=>(match decide (okR d∧okR (hid (rtB (ae e))))with|true=>(match decide (okR c∧okR (hid (ai (ae d*ae (hid (rtB (ae e)))))))with|true=>(match decide (ok (Rat×Rat) 100000 (hid (ai (ae a+ae (hid (ai (ae b*ae (hid (rtB (ae e)))))))),hid (ai (ae c+ae (hid (ai (ae d*ae (hid (rtB (ae e))))))))))with|true=>some [RV.d tP (hid (enc (atP (dec (hid (ai (ae a+ae (hid (ai (ae b*ae (hid (rtB (ae e)))))))),hid (ai (ae c+ae (hid (ai (ae d*ae (hid (rtB (ae e)))))))))))))]|false=>none)|false=>none)|false=>none)|false=>none)|false=>none)|false=>some [RV.d tP (a,(b,(c,(d,e))))])|false=>none
theorem ao2(a b c d e:BR):RS ank 104 [.d tR a,.d tR b,.d tR c,.d tR d,.d tR e] (afw a b c d e):=rsX
theorem aey(a b c d e:BR)(h:ok Rat 1000 a∧ok Rat 1000 b∧ok Rat 1000 c∧ok Rat 1000 d∧ok Rat 1000 e):Con Tryz.prog 104 [.d tR a,.d tR b,.d tR c,.d tR d,.d tR e] [.d tP (enc (nq (ae a) (ae b) (ae c) (ae d) (ae e)))]:=by
 refine aO mU (ao2 _ _ _ _ _ ⟨0,?_⟩)
 obtain⟨ha,hb,hc,hd,he⟩:=h
 obtain⟨a,rfl,ba⟩:=aY ha
 obtain⟨b,rfl,bb⟩:=aY hb
 obtain⟨c,rfl,bc⟩:=aY hc
 obtain⟨d,rfl,bd⟩:=aY hd
 obtain⟨e,rfl,be⟩:=aY he
 unfold afw nq
 simp only[am,aF,az,aZ,auR,auS,Nat.reduceLeDiff]
 cases hq:fF e
 ·rfl
 ·rw[Yv hq]
  simp only[aq,az,okd,aZ,mx,Nat.reduceAdd,Nat.reduceLeDiff,au2,cond_true,NS]
  try rfl
def QT:aM:=spN false true [tO,tO] (fun x=>decide (cG x.1∧cG x.2.1)) (fun x=>[RV.d tR (hid (ai (fd (dec x.1) (dec x.2.1))))])
theorem Tn:SpK 105 QT:=spX fun x h=>by simp only[am];exact aee x.1 x.2.1 (auN h)
def aaj:aM:=spN false true [tO] (fun x=>decide (cG x.1)) (fun x=>[RV.d tR (hid (ai (cK (dec x.1))))])
theorem Uw:SpK 98 aaj:=spX fun x h=>by simp only[am];exact ac5 x.1 (auN h)
def Wt:aM:=spN false true [tO,tR,tR] (fun x=>decide (cG x.1∧ok Rat 4 x.2.1∧ok Rat 4 x.2.2.1)) (fun x=>[RV.d tR (hid (ai (vlL (dec x.1) (ae x.2.1) (ae x.2.2.1))))])
theorem aai:SpK 100 Wt:=spX fun x h=>by simp only[am];exact aeM x.1 x.2.1 x.2.2.1 (auN h)
def Vx:aM:=spN true true [tO,tO] (fun x=>decide (bW x.1∧bW x.2.1)) (fun x=>[RV.d .bool (gi (dec x.1) (dec x.2.1))])
theorem RI:SpK 95 Vx:=spX fun x h=>abe x.1 x.2.1 (auN h)
def RC:aM:=spN false true [tR,tR,tR,tR,tR] (fun x=>decide (ok Rat 1000 x.1∧ok Rat 1000 x.2.1∧ok Rat 1000 x.2.2.1∧ok Rat 1000 x.2.2.2.1∧ok Rat 1000 x.2.2.2.2.1)) (fun x=>[RV.d tP (hid (enc (nq (ae x.1) (ae x.2.1) (ae x.2.2.1) (ae x.2.2.2.1) (ae x.2.2.2.2.1))))])
theorem Yr:SpK 104 RC:=spX fun x h=>by simp only[am];exact aey x.1 x.2.1 x.2.2.1 x.2.2.2.1 x.2.2.2.2.1 (auN h)
def B3:Env:=(105,QT)::(98,aaj)::(100,Wt)::(95,Vx)::(104,RC)::zW
theorem oS:EnvAll Tryz.prog B3:=⟨Tn,Uw,aai,RI,Yr,mU⟩
def aoj:Ctx:=CX B3 []
def agh(l m:BO3)(_k:KT):OLR:=let y1:=hid (ai (ae l.2.2*ae m.2.1));let y2:=hid (ai (ae m.2.2*ae l.2.1));let y3:=hid (ai (ae l.1*ae m.2.2));let y4:=hid (ai (ae m.1*ae l.2.2));let y5:=hid (ai (fd (dec l) (dec m)));let y6:=hid (ai (ae y1-ae y2));let y7:=hid (ai (ae y3-ae y4));match decide (cG l∧cG m)with|true=>(match decide (okR l.2.2∧okR m.2.1)with|true=>(match decide (okR m.2.2∧okR l.2.1)with|true=>(match decide (okR y1∧okR y2)with|true=>(match decide (okR l.1∧okR m.2.2)with|true=>(match decide (okR m.1∧okR l.2.2)with|true=>(match decide (okR y3∧okR y4)with|true=>(match decide (okR y5)with|true=>(match(aR (ae y5) 0) !=0 with|true=>(match decide (gb y6 y5)with|true=>(match decide (gb y7 y5)with|true=>(match decide (ok (Rat×Rat) 100000 (hid (ai (ae y6/ae y5)),hid (ai (ae y7/ae y5))))with|true=>some [RV.d (.sl tP) ([hid (enc (atP (dec (hid (ai (ae y6/ae y5)),hid (ai (ae y7/ae y5))))))]),RV.d ayb 0]|false=>none)|false=>none)|false=>none)|false=>(match decide (okR y6)with|true=>(match(aR (ae y6) 0)==0 with|true=>(match decide (okR y7)with|true=>(match(aR (ae y7) 0)==0 with|true=>some [RV.d (.sl tP) ([]),RV.d ayb 10]|false=>some [RV.d (.sl tP) ([]),RV.d ayb 0])|false=>none)|false=>some [RV.d (.sl tP) ([]),RV.d ayb 0])|false=>none))|false=>none)|false=>none)|false=>none)|false=>none)|false=>none)|false=>none)|false=>none)|false=>none
theorem apl(l m:BO3):RS aoj 46 [.d tO l,.d tO m] (agh l m):=rsX
theorem aba(l m:BO3)(h:cG l∧cG m):Con Tryz.prog 46 [.d tO l,.d tO m] [.d (.sl tP) ((lz (dec l) (dec m)).map enc),.d ayb (NJ (dec l) (dec m))]:=by
 refine aO oS (apl _ _ ⟨0,?_⟩)
 obtain⟨hl,hm⟩:=h
 obtain⟨l,rfl,bl,nl⟩:=eI hl
 obtain⟨m,rfl,bm,nm⟩:=eI hm
 have ol:=auO (ku (l:=l) nl)
 have om:=auO (ku (l:=m) nm)
 have bc:Bd (fd l m) 49:=inferInstanceAs (Bd (l.1*m.2.1-m.1*l.2.1) _)
 have e1:l.2.2*m.2.1-m.2.2*l.2.1=ma l m:=rfl
 have e2:l.1*m.2.2-m.1*l.2.2=l7 l m:=rfl
 unfold agh lz NJ
 simp only[am,aq,aH,aI,aF,az,aZ,auR,auT,Nat.reduceAdd,Nat.reduceLeDiff,aE,cf,ol,om]
 by_cases h0:fd l m=0
 ·simp only[auO h0,e1,e2,Bool.not_true]
  cases decide (ma l m=0)<;>cases decide (l7 l m=0)<;>rfl
 ·simp only[aq,okd,aC,mx,Nat.reduceAdd,Nat.reduceLeDiff,au2,auX,cond_true,h0,ne_eq,awI,Bool.not_false,NS]
  rfl
def apX:Ctx:=CX B3 []
def ahz(l c:BO3)(_k:KT):OLR:=match decide (cG l∧ok Rat 4 c.1∧ok Rat 4 c.2.1)with|true=>(match decide (cG l)with|true=>(match decide (okR (hid (ai (cK (dec l))))∧okR c.2.2)with|true=>(match decide (okR (hid (ai (vlL (dec l) (ae c.1) (ae c.2.1))))∧okR (hid (ai (vlL (dec l) (ae c.1) (ae c.2.1)))))with|true=>(match decide (okR (hid (ai (ae (hid (ai (cK (dec l))))*ae c.2.2)))∧okR (hid (ai (ae (hid (ai (vlL (dec l) (ae c.1) (ae c.2.1))))*ae (hid (ai (vlL (dec l) (ae c.1) (ae c.2.1))))))))with|true=>some [RV.d tR (hid (ai (ae (hid (ai (ae (hid (ai (cK (dec l))))*ae c.2.2)))-ae (hid (ai (ae (hid (ai (vlL (dec l) (ae c.1) (ae c.2.1))))*ae (hid (ai (vlL (dec l) (ae c.1) (ae c.2.1))))))))))]|false=>none)|false=>none)|false=>none)|false=>none)|false=>none
theorem an2(l c:BO3):RS apX 97 [.d tO l,.d tO c] (ahz l c):=rsX
theorem aaK(l c:BO3)(h:cG l∧bW c):Con Tryz.prog 97 [.d tO l,.d tO c] [.d tR (ai (iG (dec l) (dec c)))]:=by
 refine aO oS (an2 _ _ ⟨0,?_⟩)
 obtain⟨hl,hc⟩:=h
 obtain⟨l,rfl,bl,nl⟩:=eI hl
 obtain⟨c,rfl,bc,nc⟩:=dh hc
 have ol:=auO (ku (l:=l) nl)
 have bv:Bd (vlL l c.1 c.2.1) 97:=inferInstanceAs (Bd (l.1*c.1+l.2.1*c.2.1-l.2.2) _)
 have bn:Bd (cK l) 49:=inferInstanceAs (Bd (l.1*l.1+l.2.1*l.2.1) _)
 unfold ahz iG
 simp only[am,aq,aH,aI,aF,az,aD,aZ,auR,auT,Nat.reduceAdd,Nat.reduceLeDiff,ol]
def ar6:Ctx:=CX B3 []
def afC(c d:BO3)(_k:KT):OLR:=match decide (bW c∧bW d)with|true=>(match gi (dec c) (dec d)with|true=>some [RV.d tO (((false,[]),(false,[])),(((false,[]),(false,[])),((false,[]),(false,[])))),RV.d ayb 6]|false=>(match decide (bU (2:Int))with|true=>(match decide (okR c.1∧okR c.1)with|true=>(match decide (okR c.2.1∧okR c.2.1)with|true=>(match decide (okR (hid (ai (ae c.1*ae c.1)))∧okR (hid (ai (ae c.2.1*ae c.2.1))))with|true=>(match decide (okR (hid (ai (ae (hid (ai (ae c.1*ae c.1)))+ae (hid (ai (ae c.2.1*ae c.2.1))))))∧okR c.2.2)with|true=>(match decide (okR d.1∧okR d.1)with|true=>(match decide (okR d.2.1∧okR d.2.1)with|true=>(match decide (okR (hid (ai (ae d.1*ae d.1)))∧okR (hid (ai (ae d.2.1*ae d.2.1))))with|true=>(match decide (okR (hid (ai (ae (hid (ai (ae d.1*ae d.1)))+ae (hid (ai (ae d.2.1*ae d.2.1))))))∧okR d.2.2)with|true=>(match decide (okR d.1∧okR c.1)with|true=>(match decide (okR (hid (ai ((2:Int):Rat)))∧okR (hid (ai (ae d.1-ae c.1))))with|true=>(match decide (okR d.2.1∧okR c.2.1)with|true=>(match decide (okR (hid (ai ((2:Int):Rat)))∧okR (hid (ai (ae d.2.1-ae c.2.1))))with|true=>(match decide (okR (hid (ai (ae (hid (ai (ae (hid (ai (ae d.1*ae d.1)))+ae (hid (ai (ae d.2.1*ae d.2.1))))))-ae d.2.2)))∧okR (hid (ai (ae (hid (ai (ae (hid (ai (ae c.1*ae c.1)))+ae (hid (ai (ae c.2.1*ae c.2.1))))))-ae c.2.2))))with|true=>some [RV.d tO (hid (ai (ae (hid (ai ((2:Int):Rat)))*ae (hid (ai (ae d.1-ae c.1))))),(hid (ai (ae (hid (ai ((2:Int):Rat)))*ae (hid (ai (ae d.2.1-ae c.2.1))))),hid (ai (ae (hid (ai (ae (hid (ai (ae (hid (ai (ae d.1*ae d.1)))+ae (hid (ai (ae d.2.1*ae d.2.1))))))-ae d.2.2)))-ae (hid (ai (ae (hid (ai (ae (hid (ai (ae c.1*ae c.1)))+ae (hid (ai (ae c.2.1*ae c.2.1))))))-ae c.2.2))))))),RV.d ayb 0]|false=>none)|false=>none)|false=>none)|false=>none)|false=>none)|false=>none)|false=>none)|false=>none)|false=>none)|false=>none)|false=>none)|false=>none)|false=>none)|false=>none))|false=>none
theorem anu(c d:BO3):RS ar6 96 [.d tO c,.d tO d] (afC c d):=rsX
theorem adD(c d:BO3)(h:bW c∧bW d):Con Tryz.prog 96 [.d tO c,.d tO d] [.d tO (uy (dec c) (dec d)),.d ayb (On (dec c) (dec d))]:=by
 refine aO oS (anu _ _ ⟨0,?_⟩)
 obtain⟨hc,hd⟩:=h
 obtain⟨c,rfl,bc,nc⟩:=dh hc
 obtain⟨d,rfl,bd,nd⟩:=dh hd
 have oc:=auO (gL (c:=c) nc)
 have od:=auO (gL (c:=d) nd)
 have i2:decide (bU 2)=true:=by decide
 have b2:Bd ((2:Int):Rat) 3:=fS (by decide)
 unfold afC uy On
 simp only[am,aq,aH,aI,aF,az,aZ,auR,auT,Nat.reduceAdd,Nat.reduceLeDiff,oc,od,i2]
 cases gi c d
 ·rfl
 ·rfl
def aoq:Ctx:=CX B3 []
def afs(c:BO3)(_k:KT):OLR:=match decide (bU (1:Int))with|true=>(match decide (bU (0:Int))with|true=>(match decide (okR (hid (ai ((1:Int):Rat))))with|true=>(match decide (ok Rat 1000 c.1∧ok Rat 1000 (hid (ai (-ae (hid (ai ((1:Int):Rat))))))∧ok Rat 1000 c.2.1∧ok Rat 1000 (hid (ai ((0:Int):Rat)))∧ok Rat 1000 c.2.2)with|true=>(match decide (ok Rat 1000 c.1∧ok Rat 1000 (hid (ai ((1:Int):Rat)))∧ok Rat 1000 c.2.1∧ok Rat 1000 (hid (ai ((0:Int):Rat)))∧ok Rat 1000 c.2.2)with|true=>some [RV.d tP (hid (enc (nq (ae c.1) (ae (hid (ai (-ae (hid (ai ((1:Int):Rat))))))) (ae c.2.1) (ae (hid (ai ((0:Int):Rat)))) (ae c.2.2)))),RV.d tP (hid (enc (nq (ae c.1) (ae (hid (ai ((1:Int):Rat)))) (ae c.2.1) (ae (hid (ai ((0:Int):Rat)))) (ae c.2.2))))]|false=>none)|false=>none)|false=>none)|false=>none)|false=>none
theorem anR(c:BO3):RS aoq 135 [.d tO c] (afs c):=rsX
theorem adX(c:BO3)(h:bW c):Con Tryz.prog 135 [.d tO c] [.d tP (enc (ro (dec c))),.d tP (enc (rB (dec c)))]:=by
 refine aO oS (anR _ ⟨0,?_⟩)
 have hc:=h
 obtain⟨c,rfl,bc,nc⟩:=dh hc
 have b0:Bd ((0:Int):Rat) 3:=fS (by decide)
 have b1:Bd ((1:Int):Rat) 3:=fS (by decide)
 have i0:decide (bU 0)=true:=by decide
 have i1:decide (bU 1)=true:=by decide
 unfold afs ro rB
 simp only[am,aq,aH,aI,aF,az,aD,aZ,auR,auT,Nat.reduceLeDiff,i0,i1]
 rfl
def Ip:aM:=spN false true [tO,tO] (fun x=>decide (cG x.1∧cG x.2.1)) (fun x=>[RV.d (.sl tP) ((lz (dec x.1) (dec x.2.1)).map enc),RV.d ayb (NJ (dec x.1) (dec x.2.1))])
theorem FS:SpK 46 Ip:=spX fun x h=>aba x.1 x.2.1 (auN h)
def RB:aM:=spN false true [tO,tO] (fun x=>decide (cG x.1∧bW x.2.1)) (fun x=>[RV.d tR (hid (ai (iG (dec x.1) (dec x.2.1))))])
theorem ZF:SpK 97 RB:=spX fun x h=>by simp only[am];exact aaK x.1 x.2.1 (auN h)
def V7:aM:=spN false true [tO,tO] (fun x=>decide (bW x.1∧bW x.2.1)) (fun x=>[RV.d tO (hid (uy (dec x.1) (dec x.2.1))),RV.d ayb (On (dec x.1) (dec x.2.1))])
theorem Ss:SpK 96 V7:=spX fun x h=>by simp only[am];exact adD x.1 x.2.1 (auN h)
def Jv:aM:=spN false true [tO] (fun x=>decide (bW x.1)) (fun x=>[RV.d tP (hid (enc (ro (dec x.1)))),RV.d tP (hid (enc (rB (dec x.1))))])
theorem Gv:SpK 135 Jv:=spX fun x h=>by simp only[am];exact adX x.1 (auN h)
def Y0:Env:=(46,Ip)::(97,RB)::(96,V7)::(135,Jv)::B3
theorem FU:EnvAll Tryz.prog Y0:=⟨FS,ZF,Ss,Gv,oS⟩
def asw:Ctx:=CX Y0 []
def agB(l c:BO3)(_k:KT):OLR:=let y1:=hid (ai (iG (dec l) (dec c)));let y2:=hid (ai (vlL (dec l) (ae c.1) (ae c.2.1)));let y3:=hid (ai (cK (dec l)));let y4:=hid (ai (ae y2/ae y3));let y5:=hid (ai (ae y4*ae l.1));let y6:=hid (ai (ae y4*ae l.2.1));let y7:=ai (ae c.1-ae y5);let y8:=ai (ae c.2.1-ae y6);let y9:=hid (ai (-ae l.1));let y10:=hid (ai (ae l.2.1/ae y3));let y11:=hid (ai (ae y9/ae y3));let y12:=hid (ai (-ae y10));let y13:=hid (ai (-ae y11));let y14:=enc (nq (ae (hid y7)) (ae y12) (ae (hid y8)) (ae y13) (ae y1));let y15:=enc (nq (ae (hid y7)) (ae y10) (ae (hid y8)) (ae y11) (ae y1));match decide (cG l∧bW c)with|true=>(match decide (cG l)with|true=>(match decide (okR y1)with|true=>(match decide ((aR (ae y1) 0)<0)with|true=>some [RV.new 41 tP []]|false=>(match decide (cG l∧ok Rat 4 c.1∧ok Rat 4 c.2.1)with|true=>(match decide (gb y2 y3)with|true=>(match decide (okR y4∧okR l.1)with|true=>(match decide (okR c.1∧okR y5)with|true=>(match decide (okR y4∧okR l.2.1)with|true=>(match decide (okR c.2.1∧okR y6)with|true=>(match decide (okR y1)with|true=>(match(aR (ae y1) 0)==0 with|true=>(match decide (ok (Rat×Rat) 100000 (hid y7,hid y8))with|true=>some [RV.new 41 tP ([hid (enc (atP (dec (hid y7,hid y8))))])]|false=>none)|false=>(match decide (gb l.2.1 y3)with|true=>(match decide (okR l.1)with|true=>(match decide (gb y9 y3)with|true=>(match decide (okR y10)with|true=>(match decide (okR y11)with|true=>(match decide (ok Rat 1000 (hid y7)∧ok Rat 1000 y12∧ok Rat 1000 (hid y8)∧ok Rat 1000 y13∧ok Rat 1000 y1)with|true=>(match decide (ok Rat 1000 (hid y7)∧ok Rat 1000 y10∧ok Rat 1000 (hid y8)∧ok Rat 1000 y11∧ok Rat 1000 y1)with|true=>(match decide (okP 4000 (hid y14)∧okP 4000 (hid y15))with|true=>(match decide ((aV (dec (hid y14)) (dec (hid y15)))>0)with|true=>some [RV.new 41 tP ([hid y15,hid y14])]|false=>some [RV.new 41 tP ([hid y14,hid y15])])|false=>none)|false=>none)|false=>none)|false=>none)|false=>none)|false=>none)|false=>none)|false=>none))|false=>none)|false=>none)|false=>none)|false=>none)|false=>none)|false=>none)|false=>none))|false=>none)|false=>none)|false=>none
theorem anD(l c:BO3):RS asw 45 [.d tO l,.d tO c] (agB l c):=rsX
theorem aeS(l c:BO3)(h:cG l∧bW c):Con Tryz.prog 45 [.d tO l,.d tO c] [.d (.sl tP) ((rA (dec l) (dec c)).map enc)]:=by
 refine Con.new_d (et:=41) (aO FU (anD _ _ ⟨0,?_⟩))
 obtain⟨hl,hc⟩:=h
 obtain⟨l,rfl,bl,nl⟩:=eI hl
 obtain⟨c,rfl,bc,nc⟩:=dh hc
 have ol:=auO (ku (l:=l) nl)
 have oc:=auO (gL (c:=c) nc)
 have hn:=nw nl
 have bv:Bd (vlL l c.1 c.2.1) 97:=inferInstanceAs (Bd (l.1*c.1+l.2.1*c.2.1-l.2.2) _)
 have bn:Bd (cK l) 49:=inferInstanceAs (Bd (l.1*l.1+l.2.1*l.2.1) _)
 have e1:c.1-vlL l c.1 c.2.1/cK l*l.1=ftX l c:=rfl
 have e2:c.2.1-vlL l c.1 c.2.1/cK l*l.2.1=ftY l c:=rfl
 obtain⟨f1,f2,_,_⟩:=vk (l:=l) (c:=c)
 unfold agB rA
 simp only[am,aq,aH,aI,aF,az,okd,aD,aZ,aC,auR,auT,mx,Nat.reduceAdd,Nat.reduceLeDiff,au2,cond_true,aE,aG,ol,oc,hn,ne_eq,awI,e1,e2,NS]
 by_cases h0:iG l c<0
 ·simp only[auO h0]
  rfl
 ·simp only[auQ h0]
  by_cases h1:iG l c=0
  ·simp only[auO h1]
   rfl
  ·have hp:=ZD h0 h1
   obtain⟨p1,p2⟩:=YY (c:=c) nl (show 0≤iG l c by grind)
   obtain⟨q1,q2⟩:=YM (l:=l) (c:=c)
   have g1:nq (ftX l c) (-(l.2.1/cK l)) (ftY l c) (-(-l.1/cK l)) (iG l c)=sW l c:=rfl
   have g2:nq (ftX l c) (l.2.1/cK l) (ftY l c) (-l.1/cK l) (iG l c)=t7 l c:=rfl
   simp only[auQ h1,auT,Nat.reduceLeDiff,cond_false,bG,g1,g2]
   cases decide (aV (sW l c) (t7 l c)>0)<;>rfl
def Kc:aM:=spN false true [tO,tO] (fun x=>decide (cG x.1∧bW x.2.1)) (fun x=>[RV.d (.sl tP) ((rA (dec x.1) (dec x.2.1)).map enc)])
theorem FI:SpK 45 Kc:=spX fun x h=>aeS x.1 x.2.1 (auN h)
def afl:Env:=(45,Kc)::Y0
theorem Xq:EnvAll Tryz.prog afl:=⟨FI,FU⟩
def apE:Ctx:=CX afl []
def ahQ(c d:BO3)(_k:KT):OLR:=match decide (bW c∧bW d)with|true=>(match gi (dec c) (dec d)with|true=>(match decide (okR c.2.2∧okR d.2.2)with|true=>(match(aR (ae c.2.2) (ae d.2.2))==0 with|true=>some [RV.d (.sl tP) ([]),RV.d ayb 10]|false=>some [RV.d (.sl tP) ([]),RV.d ayb 0])|false=>none)|false=>(match decide (bW c∧bW d)with|true=>(match decide (cG (hid (uy (dec c) (dec d)))∧bW c)with|true=>some [RV.d (.sl tP) ((rA (dec (hid (uy (dec c) (dec d)))) (dec c)).map enc),RV.d ayb 0]|false=>none)|false=>none))|false=>none
theorem ann(c d:BO3):RS apE 44 [.d tO c,.d tO d] (ahQ c d):=rsX
theorem aeQ(c d:BO3)(h:bW c∧bW d):Con Tryz.prog 44 [.d tO c,.d tO d] [.d (.sl tP) ((Dv (dec c) (dec d)).map enc),.d ayb (ZL (dec c) (dec d))]:=by
 refine aO Xq (ann _ _ ⟨0,?_⟩)
 obtain⟨hc,hd⟩:=h
 obtain⟨c,rfl,bc,nc⟩:=dh hc
 obtain⟨d,rfl,bd,nd⟩:=dh hd
 have oc:=auO (gL (c:=c) nc)
 have od:=auO (gL (c:=d) nd)
 unfold ahQ Dv ZL
 simp only[am,aq,aI,aF,az,aZ,auR,auU,auT,Nat.reduceLeDiff,aE,oc,od]
 cases hc:gi c d
 ·have ol:cG (enc (ms c d)):=TO hc
  have er:uy c d=enc (ms c d):=by unfold uy;rw[hc];rfl
  simp only[er,dT ol,aq,cond_false]
  try rfl
 ·cases decide (c.2.2=d.2.2)<;>rfl
end
section
def pP(x u y v k:Rat):Pt:=mkP (mkR x u k) (mkR y v k)
def ftL(l c:Ln):Rat×Rat:=(ftX l c,ftY l c)
def yG(l c:Ln):Rat:=(ftX l c-c.1)*(ftX l c-c.1)+(ftY l c-c.2.1)*(ftY l c-c.2.1)
def dZ(l c:Ln):Rat:=(c.2.2-yG l c)/cK l
def JI(l:Ln):Bool:=decide (l.2.1<0)||(decide (l.2.1=0)&&decide (-l.1<0))
def rn(l:Ln):Rat:=bif JI l then-l.2.1 else l.2.1
def rF(l:Ln):Rat:=bif JI l then- -l.1 else-l.1
def lcM(l c:Ln):Pt:=pP (ftX l c) (-rn l) (ftY l c) (-rF l) (dZ l c)
def lcN(l c:Ln):Pt:=pP (ftX l c) (rn l) (ftY l c) (rF l) (dZ l c)
def jY(l c:Ln):List Pt:=bif decide (dZ l c<0)then []else bif decide (dZ l c=0)then [atP (ftL l c)]else [lcM l c,lcN l c]
def PV(l m:Ln):Int:=bif !decide (fd l m=0)then 0 else bif n7 l m then 10 else 0
def sV(c d:Ln):List Pt:=bif gi c d then []else jY (ms c d) c
def YF(c d:Ln):Int:=bif pM c d then 10 else 0
def gg(a b:Cv):List Pt:=bif a.1&&b.1 then sV (ciC a) (ciC b)else bif a.1 then jY (lnC b) (ciC a)else bif b.1 then jY (lnC a) (ciC b)else lz (lnC a) (lnC b)
def ajw(a b:Cv):Int:=bif a.1&&b.1 then YF (ciC a) (ciC b)else bif a.1 then 0 else bif b.1 then 0 else PV (lnC a) (lnC b)
def td(c:Ln):Pt:=pP c.1 (-1) c.2.1 0 c.2.2
def tF(c:Ln):Pt:=pP c.1 1 c.2.1 0 c.2.2
theorem aeF(l c:Ln):Np l (c.1,c.2.1)=ftL l c:=rfl
theorem Ek{x u y v k:Rat}[h:Nn k]:Rpd (pP x u y v k):=aoE WR WR (El _ _ _ _ _)
section
variable {l c:Ln}
theorem ajI [BdL l]:Bd (rn l) 12∧Bd (rF l) 12:=by
 unfold rn rF
 cases JI l
 ·exact⟨(inferInstance:Bd l.2.1 12),(inferInstance:Bd (-l.1) 12)⟩
 ·exact⟨(inferInstance:Bd (-l.2.1) 12),(inferInstance:Bd (- -l.1) 12)⟩
end
theorem EJ{x u y v k:Rat}{a b c:Nat}(h1:Bd x a)(h2:Bd u b)(h3:Bd y a)(h4:Bd v b)(h5:Bd k c){n:Nat}(hn:a+(b+c)+1≤n):Bd (pP x u y v k) n:=by
 have z:bdR n 0:=cN uA.le (by omega)
 have i1:Bd (mkR x u k) (a+(b+c)+1):=inferInstance
 have i2:Bd (mkR y v k) (a+(b+c)+1):=inferInstance
 have f1:=i1.mono hn
 have f2:=i2.mono hn
 refine⟨?_⟩
 unfold pP mkP rdP
 dsimp only
 refine⟨f1.le.1,f1.le.2.1,f2.le.1,f2.le.2.1,?_⟩
 cases decide ((mkR x u k).2.1=0)&&decide ((mkR y v k).2.1=0)
 ·cases decide ((mkR x u k).2.1=0)
  ·exact f1.le.2.2
  ·exact f2.le.2.2
 ·exact z
section
variable {l c:Ln}
theorem Vm [BdL l][h:BdC c]:Bd (dZ l c) 1000:=by
 obtain⟨f1,f2,_,_⟩:=vk (l:=l) (c:=c)
 have hx:=h.x
 have hy:=h.y
 have hq:=h.q
 have i1:Bd (cK l) 49:=inferInstanceAs (Bd (l.1*l.1+l.2.1*l.2.1) _)
 have i2:Bd (yG l c) 673:=(inferInstance:Bd ((ftX l c-c.1)*(ftX l c-c.1)+(ftY l c-c.2.1)*(ftY l c-c.2.1)) _).mono (by decide)
 exact(inferInstance:Bd ((c.2.2-yG l c)/cK l) _).mono (by decide)
theorem Ic [BdL l][h:BdC c]:Bd (ftL l c) 163:=by
 obtain⟨f1,f2,_,_⟩:=vk (l:=l) (c:=c)
 exact(inferInstance:Bd ((ftX l c,ftY l c):Rat×Rat) _).mono (by decide)
theorem amh [BdL l][BdC c]:Bd (lcM l c) 1200∧Bd (lcN l c) 1200:=by
 obtain⟨f1,f2,_,_⟩:=vk (l:=l) (c:=c)
 obtain⟨d1,d2⟩:=ajI (l:=l)
 have k:=Vm (l:=l) (c:=c)
 have n1:Bd (-rn l) 12:=inferInstance
 have n2:Bd (-rF l) 12:=inferInstance
 exact⟨EJ f1 n1 f2 n2 k (by decide),EJ f1 d1 f2 d2 k (by decide)⟩
theorem t4 [BdL l][BdC c]:(jY l c).length≤2∧∀p∈jY l c,Bd p 1200∧Rpd p:=by
 unfold jY
 by_cases h0:dZ l c<0
 ·rw[auO h0]
  exact⟨by simp,fun p hp=>by cases hp⟩
 ·rw[auQ h0]
  by_cases h1:dZ l c=0
  ·rw[auO h1]
   have:=Ic (l:=l) (c:=c)
   refine⟨by simp,fun p hp=>?_⟩
   have:p=atP (ftL l c):=by simpa using hp
   rw[this]
   exact⟨(inferInstance:Bd (atP (ftL l c)) _).mono (by decide),inferInstance⟩
  ·rw[auQ h1]
   obtain⟨q1,q2⟩:=amh (l:=l) (c:=c)
   have nn:Nn (dZ l c):=⟨by grind⟩
   refine⟨by simp,fun p hp=>?_⟩
   have:p=lcM l c∨p=lcN l c:=by simpa using hp
   rcases this with e|e<;>rw[e]
   ·exact⟨q1,Ek⟩
   ·exact⟨q2,Ek⟩
end
end
theorem kG(q:Rat):(aR q 0== -1)=decide (q<0):=by
 unfold aR
 by_cases h:q<0
 ·rw[auO h];rfl
 ·rw[auQ h]
  by_cases h':0<q
  ·rw[auO h'];rfl
  ·rw[auQ h'];rfl
def ZS:aM:=spN false true [tR,tR,tR] (fun x=>decide (ok Rat 100000 x.1∧ok Rat 100000 x.2.1∧ok Rat 100000 x.2.2.1∧0≤ae x.2.2.1)) (fun x=>[RV.d tO (hid (enc (mkR (ae x.1) (ae x.2.1) (ae x.2.2.1)))),RV.d ayb 0])
theorem UO:SpK 207 ZS:=spX fun x h=>by simp only[am];exact aeX x.1 x.2.1 x.2.2.1 (auN h)
def Yd:aM:=spN false true [tO,tV] (fun x=>decide (ok Ln 300 x.1∧ok (Rat×Rat) 200 x.2.1∧((dec x.1:Ln).1≠0∨(dec x.1:Ln).2.1≠0))) (fun x=>[RV.d tV (hid (enc (Np (dec x.1) (dec x.2.1))))])
theorem Tv:SpK 241 Yd:=spX fun x h=>by simp only[am];exact acE x.1 x.2.1 (auN h)
def pJ:Env:=[(147,kX),(151,lg),(144,qb),(74,l4),(76,kC),(75,n6),(145,sC),(194,II),(207,ZS),(208,WM),(78,CK),(140,CO),(142,DD),(139,CY),(241,Yd)]
theorem iK:EnvAll Tryz.prog pJ:=⟨gG,gj,lj,il,gk,jE,mu,Fb,UO,Ys,yL,yF,yV,zJ,Tv,trivial⟩
def anI:Ctx:=CX pJ []
def agn(a b:BR)(_k:KT):OLR:=match decide (okR a∧okR b)with|true=>some [RV.d tR (hid (ai (ae a+ae b)))]|false=>none
theorem ard(a b:BR):RS anI 240 [.d tR a,.d tR b] (agn a b):=rsX
theorem aa7(a b:BR)(h:okR a∧okR b):Con Tryz.prog 240 [.d tR a,.d tR b] [.d tR (ai (ae a+ae b))]:=by
 refine aO iK (ard _ _ ⟨0,?_⟩)
 unfold agn
 rw[dT h]
 simp only[am]
def an0:Ctx:=CX pJ []
def agq(a b:BR)(_k:KT):OLR:=match decide (okR a∧okR b)with|true=>some [RV.d tR (hid (ai (ae a-ae b)))]|false=>none
theorem asV(a b:BR):RS an0 186 [.d tR a,.d tR b] (agq a b):=rsX
theorem adx(a b:BR)(h:okR a∧okR b):Con Tryz.prog 186 [.d tR a,.d tR b] [.d tR (ai (ae a-ae b))]:=by
 refine aO iK (asV _ _ ⟨0,?_⟩)
 unfold agq
 rw[dT h]
 simp only[am]
def aoH:Ctx:=CX pJ []
def afJ(a b:BR)(_k:KT):OLR:=match decide (okR a∧okR b)with|true=>some [RV.d tR (hid (ai (ae a*ae b)))]|false=>none
theorem anS(a b:BR):RS aoH 187 [.d tR a,.d tR b] (afJ a b):=rsX
theorem acC(a b:BR)(h:okR a∧okR b):Con Tryz.prog 187 [.d tR a,.d tR b] [.d tR (ai (ae a*ae b))]:=by
 refine aO iK (anS _ _ ⟨0,?_⟩)
 unfold afJ
 rw[dT h]
 simp only[am]
def aqA:Ctx:=CX pJ []
def afI(a b:BR)(_k:KT):OLR:=match decide (gb a b)with|true=>some [RV.d tR (hid (ai (ae a/ae b)))]|false=>none
theorem aqT(a b:BR):RS aqA 188 [.d tR a,.d tR b] (afI a b):=rsX
theorem abr(a b:BR)(h:gb a b):Con Tryz.prog 188 [.d tR a,.d tR b] [.d tR (ai (ae a/ae b))]:=by
 refine aO iK (aqT _ _ ⟨0,?_⟩)
 unfold afI
 rw[dT h]
 simp only[am]
def apz:Ctx:=CX pJ []
def ahh(a b:BR)(_k:KT):OLR:=match decide (okR a∧okR b)with|true=>some [RV.d .bool ((aR (ae a) (ae b))==0)]|false=>none
theorem apR(a b:BR):RS apz 182 [.d tR a,.d tR b] (ahh a b):=rsX
theorem abx(a b:BR)(h:okR a∧okR b):Con Tryz.prog 182 [.d tR a,.d tR b] [.d .bool (decide (ae a=ae b))]:=by
 refine aO iK (apR _ _ ⟨0,?_⟩)
 unfold ahh
 rw[dT h]
 simp only[aE]
def arq:Ctx:=CX pJ []
def ahJ(x u y v k:BR)(_k:KT):OLR:=match decide (ok Rat 100000 x∧ok Rat 100000 u∧ok Rat 100000 k∧0≤ae k)with|true=>(match decide (ok Rat 100000 y∧ok Rat 100000 v∧ok Rat 100000 k∧0≤ae k)with|true=>(match decide (okT 15000 (hid (enc (mkR (ae x) (ae u) (ae k))))∧okT 15000 (hid (enc (mkR (ae y) (ae v) (ae k))))∧wC (dec (hid (enc (mkR (ae x) (ae u) (ae k))))) (dec (hid (enc (mkR (ae y) (ae v) (ae k))))))with|true=>some [RV.d tP (hid (enc (mkP (dec (hid (enc (mkR (ae x) (ae u) (ae k))))) (dec (hid (enc (mkR (ae y) (ae v) (ae k))))))))]|false=>none)|false=>none)|false=>none
theorem asd(x u y v k:BR):RS arq 153 [.d tR x,.d tR u,.d tR y,.d tR v,.d tR k] (ahJ x u y v k):=rsX
theorem aeN(x u y v k:BR)(h:ok Rat 1000 x∧ok Rat 1000 u∧ok Rat 1000 y∧ok Rat 1000 v∧ok Rat 1000 k∧0≤ae k):Con Tryz.prog 153 [.d tR x,.d tR u,.d tR y,.d tR v,.d tR k] [.d tP (enc (pP (ae x) (ae u) (ae y) (ae v) (ae k)))]:=by
 refine aO iK (asd _ _ _ _ _ ⟨0,?_⟩)
 obtain⟨hx,hu,hy,hv,hk,h0⟩:=h
 obtain⟨x,rfl,bx⟩:=aY hx
 obtain⟨u,rfl,bu⟩:=aY hu
 obtain⟨y,rfl,b_y⟩:=aY hy
 obtain⟨v,rfl,bv⟩:=aY hv
 obtain⟨k,rfl,bk⟩:=aY hk
 have h0:0≤(dec (enc k):Rat):=h0
 rw[aq]at h0
 have nk:Nn k:=⟨h0⟩
 have n0:decide (0≤k)=true:=auO nk.le
 have hm:decide (wC (mkR x u k) (mkR y v k))=true:=auO (El _ _ _ _ _)
 unfold ahJ pP
 simp only[am,aq,aF,az,aD,auR,auT,Nat.reduceAdd,Nat.reduceLeDiff,bH,n0,hm]
 try rfl
def Sz:aM:=spN false true [tR,tR] (fun x=>decide (okR x.1∧okR x.2.1)) (fun x=>[RV.d tR (hid (ai (ae x.1+ae x.2.1)))])
theorem US:SpK 240 Sz:=spX fun x h=>by simp only[am];exact aa7 x.1 x.2.1 (auN h)
def VY:aM:=spN false true [tR,tR] (fun x=>decide (okR x.1∧okR x.2.1)) (fun x=>[RV.d tR (hid (ai (ae x.1-ae x.2.1)))])
theorem S4:SpK 186 VY:=spX fun x h=>by simp only[am];exact adx x.1 x.2.1 (auN h)
def V8:aM:=spN false true [tR,tR] (fun x=>decide (okR x.1∧okR x.2.1)) (fun x=>[RV.d tR (hid (ai (ae x.1*ae x.2.1)))])
theorem Yc:SpK 187 V8:=spX fun x h=>by simp only[am];exact acC x.1 x.2.1 (auN h)
def Qw:aM:=spN false true [tR,tR] (fun x=>decide (gb x.1 x.2.1)) (fun x=>[RV.d tR (hid (ai (ae x.1/ae x.2.1)))])
theorem RJ:SpK 188 Qw:=spX fun x h=>by simp only[am];exact abr x.1 x.2.1 (auN h)
def Vh:aM:=spN true true [tR,tR] (fun x=>decide (okR x.1∧okR x.2.1)) (fun x=>[RV.d .bool (decide (ae x.1=ae x.2.1))])
theorem Yi:SpK 182 Vh:=spX fun x h=>abx x.1 x.2.1 (auN h)
def Vn:aM:=spN false true [tR,tR,tR,tR,tR] (fun x=>decide (ok Rat 1000 x.1∧ok Rat 1000 x.2.1∧ok Rat 1000 x.2.2.1∧ok Rat 1000 x.2.2.2.1∧ok Rat 1000 x.2.2.2.2.1∧0≤ae x.2.2.2.2.1)) (fun x=>[RV.d tP (hid (enc (pP (ae x.1) (ae x.2.1) (ae x.2.2.1) (ae x.2.2.2.1) (ae x.2.2.2.2.1))))])
theorem Za:SpK 153 Vn:=spX fun x h=>by simp only[am];exact aeN x.1 x.2.1 x.2.2.1 x.2.2.2.1 x.2.2.2.2.1 (auN h)
def pD:Env:=(240,Sz)::(186,VY)::(187,V8)::(188,Qw)::(182,Vh)::(153,Vn)::pJ
theorem iN:EnvAll Tryz.prog pD:=⟨US,S4,Yc,RJ,Yi,Za,iK⟩
def arQ:Ctx:=CX pD []
def ahI(l m:BO3)(_k:KT):OLR:=match decide (okR l.1∧okR m.2.1)with|true=>(match decide (okR m.1∧okR l.2.1)with|true=>(match decide (okR (hid (ai (ae l.1*ae m.2.1)))∧okR (hid (ai (ae m.1*ae l.2.1))))with|true=>(match decide (ae (hid (ai (ae l.1*ae m.2.1)))=ae (hid (ai (ae m.1*ae l.2.1))))with|true=>(match decide (okR l.1∧okR m.2.2)with|true=>(match decide (okR m.1∧okR l.2.2)with|true=>(match decide (okR (hid (ai (ae l.1*ae m.2.2)))∧okR (hid (ai (ae m.1*ae l.2.2))))with|true=>(match decide (ae (hid (ai (ae l.1*ae m.2.2)))=ae (hid (ai (ae m.1*ae l.2.2))))with|true=>(match decide (okR l.2.1∧okR m.2.2)with|true=>(match decide (okR m.2.1∧okR l.2.2)with|true=>(match decide (okR (hid (ai (ae l.2.1*ae m.2.2)))∧okR (hid (ai (ae m.2.1*ae l.2.2))))with|true=>some [RV.d .bool (decide (ae (hid (ai (ae l.2.1*ae m.2.2)))=ae (hid (ai (ae m.2.1*ae l.2.2)))))]|false=>none)|false=>none)|false=>none)|false=>some [RV.d .bool false])|false=>none)|false=>none)|false=>none)|false=>some [RV.d .bool false])|false=>none)|false=>none)|false=>none
theorem aqY(l m:BO3):RS arQ 123 [.d tO l,.d tO m] (ahI l m):=rsX
theorem ado(l m:BO3)(h:cG l∧cG m):Con Tryz.prog 123 [.d tO l,.d tO m] [.d .bool (n7 (dec l) (dec m))]:=by
 refine aO iN (aqY _ _ ⟨0,?_⟩)
 obtain⟨hl,hm⟩:=h
 obtain⟨l,rfl,bl,nl⟩:=eI hl
 obtain⟨m,rfl,bm,nm⟩:=eI hm
 unfold ahI n7
 have c1:l.2.1*m.1=m.1*l.2.1:=awM _ _
 have c2:l.2.2*m.1=m.1*l.2.2:=awM _ _
 have c3:l.2.2*m.2.1=m.2.1*l.2.2:=awM _ _
 simp only[am,aq,aH,aI,aF,az,aZ,auR,auT,Nat.reduceAdd,Nat.reduceLeDiff,c1,c2,c3]
 cases decide (l.1*m.2.1=m.1*l.2.1)<;>cases decide (l.1*m.2.2=m.1*l.2.2)<;>rfl
def apT:Ctx:=CX pD []
def aib(c d:BO3)(_k:KT):OLR:=match decide (okR c.1∧okR d.1)with|true=>(match decide (ae c.1=ae d.1)with|true=>(match decide (okR c.2.1∧okR d.2.1)with|true=>(match decide (ae c.2.1=ae d.2.1)with|true=>(match decide (okR c.2.2∧okR d.2.2)with|true=>some [RV.d .bool (decide (ae c.2.2=ae d.2.2))]|false=>none)|false=>some [RV.d .bool false])|false=>none)|false=>some [RV.d .bool false])|false=>none
theorem an3(c d:BO3):RS apT 122 [.d tO c,.d tO d] (aib c d):=rsX
theorem abW(c d:BO3)(h:bW c∧bW d):Con Tryz.prog 122 [.d tO c,.d tO d] [.d .bool (pM (dec c) (dec d))]:=by
 refine aO iN (an3 _ _ ⟨0,?_⟩)
 obtain⟨hc,hd⟩:=h
 obtain⟨c,rfl,bc,nc⟩:=dh hc
 obtain⟨d,rfl,bd,nd⟩:=dh hd
 unfold aib pM
 simp only[aq,aH,aI,aF,az,aZ,auR,auT,Nat.reduceLeDiff]
 cases decide (c.1=d.1)<;>cases decide (c.2.1=d.2.1)<;>rfl
def anP:Ctx:=CX pD []
def ahT(c d:BO3)(_k:KT):OLR:=match decide (okR c.1∧okR d.1)with|true=>(match(aR (ae c.1) (ae d.1))==0 with|true=>(match decide (okR c.2.1∧okR d.2.1)with|true=>some [RV.d .bool ((aR (ae c.2.1) (ae d.2.1))==0)]|false=>none)|false=>some [RV.d .bool false])|false=>none
theorem aqQ(c d:BO3):RS anP 183 [.d tO c,.d tO d] (ahT c d):=rsX
theorem aaF(c d:BO3)(h:bW c∧bW d):Con Tryz.prog 183 [.d tO c,.d tO d] [.d .bool (gi (dec c) (dec d))]:=by
 refine aO iN (aqQ _ _ ⟨0,?_⟩)
 obtain⟨hc,hd⟩:=h
 obtain⟨c,rfl,bc,nc⟩:=dh hc
 obtain⟨d,rfl,bd,nd⟩:=dh hd
 unfold ahT gi
 simp only[aq,aH,aI,aF,az,aZ,auR,auT,Nat.reduceLeDiff,aE]
 cases decide (c.1=d.1)<;>rfl
def arC:Ctx:=CX pD []
def af5(c:BO3)(_k:KT):OLR:=match decide (okR c.1∧okR c.1)with|true=>(match decide (okR c.2.1∧okR c.2.1)with|true=>(match decide (okR (hid (ai (ae c.1*ae c.1)))∧okR (hid (ai (ae c.2.1*ae c.2.1))))with|true=>(match decide (okR (hid (ai (ae (hid (ai (ae c.1*ae c.1)))+ae (hid (ai (ae c.2.1*ae c.2.1))))))∧okR c.2.2)with|true=>some [RV.d tR (hid (ai (ae (hid (ai (ae (hid (ai (ae c.1*ae c.1)))+ae (hid (ai (ae c.2.1*ae c.2.1))))))-ae c.2.2)))]|false=>none)|false=>none)|false=>none)|false=>none
theorem aqb(c:BO3):RS arC 239 [.d tO c] (af5 c):=rsX
theorem ade(c:BO3)(h:bW c):Con Tryz.prog 239 [.d tO c] [.d tR (ai (oW (dec c)))]:=by
 refine aO iN (aqb _ ⟨0,?_⟩)
 have hc:=h
 obtain⟨c,rfl,bc,nc⟩:=dh hc
 unfold af5 oW
 simp only[am,aq,aH,aI,aF,az,aZ,auR,auT,Nat.reduceAdd,Nat.reduceLeDiff]
def ang:Ctx:=CX pD []
def af3(l c:BO3)(_k:KT):OLR:=let y1:=hid (enc (Np (dec l) (dec (c.1,c.2.1))));let y2:=hid (ai (ae (y1.1)-ae c.1));let y3:=hid (ai (ae (y1.2)-ae c.2.1));let y4:=hid (ai (ae y2*ae y2));let y5:=hid (ai (ae y3*ae y3));let y6:=hid (ai (ae y4+ae y5));let y7:=hid (ai (ae l.1*ae l.1));let y8:=hid (ai (ae l.2.1*ae l.2.1));let y9:=hid (ai (ae c.2.2-ae y6));let y10:=hid (ai (ae y7+ae y8));let y11:=hid (ai (ae y9/ae y10));let y12:OLR:=match decide (gb y9 y10)with|true=>some [RV.d tR y11,RV.d tV y1]|false=>none;let y13:OLR:=match decide (okR y7∧okR y8)with|true=>y12|false=>none;let y14:OLR:=match decide (okR l.2.1∧okR l.2.1)with|true=>y13|false=>none;match decide (ok Ln 300 l∧ok (Rat×Rat) 200 (c.1,c.2.1)∧((dec l:Ln).1≠0∨(dec l:Ln).2.1≠0))with|true=>(match decide (okR (y1.1)∧okR c.1)with|true=>(match decide (okR (y1.2)∧okR c.2.1)with|true=>(match decide (okR y2∧okR y2)with|true=>(match decide (okR y3∧okR y3)with|true=>(match decide (okR y4∧okR y5)with|true=>(match decide (okR c.2.2∧okR y6)with|true=>dl (match decide (okR l.1∧okR l.1)with|true=>dl (match decide (okR l.2.1∧okR l.2.1)with|true=>dl (match decide (okR y7∧okR y8)with|true=>dl (match decide (gb y9 y10)with|true=>dup (.b .l .l) (some [RV.d tR y11,RV.d tV y1])|false=>none) y12|false=>none) y13|false=>none) y14|false=>none) (match decide (okR l.1∧okR l.1)with|true=>y14|false=>none)|false=>none)|false=>none)|false=>none)|false=>none)|false=>none)|false=>none)|false=>none
theorem anp(l c:BO3):RS ang 185 [.d tO l,.d tO c] (af3 l c):=rsX
theorem acI(l c:BO3)(h:cG l∧bW c):Con Tryz.prog 185 [.d tO l,.d tO c] [.d tR (ai (dZ (dec l) (dec c))),.d tV (enc (ftL (dec l) (dec c)))]:=by
 refine aO iN (anp _ _ ⟨0,?_⟩)
 obtain⟨hl,hc⟩:=h
 obtain⟨l,rfl,bl,nl⟩:=eI hl
 obtain⟨c,rfl,bc,nc⟩:=dh hc
 have ol:=auO (ku (l:=l) nl)
 have bl:Bd l 63:=aiW
 have bv:Bd ((c.1,c.2.1):Rat×Rat) 4:=inferInstance
 have hn:=nw nl
 have bn:Bd (cK l) 49:=inferInstanceAs (Bd (l.1*l.1+l.2.1*l.2.1) _)
 have bf:=Ic (l:=l) (c:=c)
 have b1:Bd (ftL l c).1 163:=inferInstance
 have b2:Bd (ftL l c).2 163:=inferInstance
 have e1:l.1*l.1+l.2.1*l.2.1=cK l:=rfl
 unfold af3 dZ yG
 simp only[au,aN,am,aq,aH,aI,aF,az,okd,aZ,aC,auR,auT,Nat.reduceAdd,Nat.reduceLeDiff,au2,NS,nl,aeF,e1,hn,ne_eq,awI]
 try rfl
def aoM:Ctx:=CX pD []
def afo(c:BO3)(_k:KT):OLR:=match decide (bU (1:Int))with|true=>(match decide (bU (0:Int))with|true=>(match decide (okR (hid (ai ((1:Int):Rat))))with|true=>(match decide (ok Rat 1000 c.1∧ok Rat 1000 (hid (ai (-ae (hid (ai ((1:Int):Rat))))))∧ok Rat 1000 c.2.1∧ok Rat 1000 (hid (ai ((0:Int):Rat)))∧ok Rat 1000 c.2.2∧0≤ae c.2.2)with|true=>(match decide (ok Rat 1000 c.1∧ok Rat 1000 (hid (ai ((1:Int):Rat)))∧ok Rat 1000 c.2.1∧ok Rat 1000 (hid (ai ((0:Int):Rat)))∧ok Rat 1000 c.2.2∧0≤ae c.2.2)with|true=>some [RV.d tP (hid (enc (pP (ae c.1) (ae (hid (ai (-ae (hid (ai ((1:Int):Rat))))))) (ae c.2.1) (ae (hid (ai ((0:Int):Rat)))) (ae c.2.2)))),RV.d tP (hid (enc (pP (ae c.1) (ae (hid (ai ((1:Int):Rat)))) (ae c.2.1) (ae (hid (ai ((0:Int):Rat)))) (ae c.2.2))))]|false=>none)|false=>none)|false=>none)|false=>none)|false=>none
theorem anf(c:BO3):RS aoM 80 [.d tO c] (afo c):=rsX
theorem acO(c:BO3)(h:bW c):Con Tryz.prog 80 [.d tO c] [.d tP (enc (td (dec c))),.d tP (enc (tF (dec c)))]:=by
 refine aO iN (anf _ ⟨0,?_⟩)
 have hc:=h
 obtain⟨c,rfl,bc,nc⟩:=dh hc
 have b0:Bd ((0:Int):Rat) 3:=fS (by decide)
 have b1:Bd ((1:Int):Rat) 3:=fS (by decide)
 have i0:decide (bU 0)=true:=by decide
 have i1:decide (bU 1)=true:=by decide
 have nc':decide (0≤c.2.2)=true:=auO (by grind)
 unfold afo td tF
 simp only[am,aq,aH,aI,aF,az,aD,aZ,auR,auT,Nat.reduceLeDiff,i0,i1,nc']
 rfl
def Ui:aM:=spN true true [tO,tO] (fun x=>decide (cG x.1∧cG x.2.1)) (fun x=>[RV.d .bool (n7 (dec x.1) (dec x.2.1))])
theorem To:SpK 123 Ui:=spX fun x h=>ado x.1 x.2.1 (auN h)
def Y9:aM:=spN true true [tO,tO] (fun x=>decide (bW x.1∧bW x.2.1)) (fun x=>[RV.d .bool (pM (dec x.1) (dec x.2.1))])
theorem T7:SpK 122 Y9:=spX fun x h=>abW x.1 x.2.1 (auN h)
def Rp:aM:=spN true true [tO,tO] (fun x=>decide (bW x.1∧bW x.2.1)) (fun x=>[RV.d .bool (gi (dec x.1) (dec x.2.1))])
theorem Q8:SpK 183 Rp:=spX fun x h=>aaF x.1 x.2.1 (auN h)
def Zj:aM:=spN false true [tO] (fun x=>decide (bW x.1)) (fun x=>[RV.d tR (hid (ai (oW (dec x.1))))])
theorem QD:SpK 239 Zj:=spX fun x h=>by simp only[am];exact ade x.1 (auN h)
def Tk:aM:=spN false true [tO,tO] (fun x=>decide (cG x.1∧bW x.2.1)) (fun x=>[RV.d tR (hid (ai (dZ (dec x.1) (dec x.2.1)))),RV.d tV (hid (enc (ftL (dec x.1) (dec x.2.1))))])
theorem Rh:SpK 185 Tk:=spX fun x h=>by simp only[am];exact acI x.1 x.2.1 (auN h)
def Jw:aM:=spN false true [tO] (fun x=>decide (bW x.1)) (fun x=>[RV.d tP (hid (enc (td (dec x.1)))),RV.d tP (hid (enc (tF (dec x.1))))])
theorem Gr:SpK 80 Jw:=spX fun x h=>by simp only[am];exact acO x.1 (auN h)
def Aj:Env:=(123,Ui)::(122,Y9)::(183,Rp)::(239,Zj)::(185,Tk)::(80,Jw)::pD
theorem qO:EnvAll Tryz.prog Aj:=⟨To,T7,Q8,QD,Rh,Gr,iN⟩
def ar9:Ctx:=CX Aj []
def aha(l m:BO3)(_k:KT):OLR:=let y1:=hid (ai (ae l.1*ae m.2.1));let y2:=hid (ai (ae m.1*ae l.2.1));let y3:=hid (ai (ae y1-ae y2));let y4:=hid (ai (ae l.2.2*ae m.2.1));let y5:=hid (ai (ae m.2.2*ae l.2.1));let y6:=hid (ai (ae y4-ae y5));let y7:=hid (ai (ae l.1*ae m.2.2));let y8:=hid (ai (ae m.1*ae l.2.2));let y9:=hid (ai (ae y7-ae y8));match decide (okR l.1∧okR m.2.1)with|true=>(match decide (okR m.1∧okR l.2.1)with|true=>(match decide (okR y1∧okR y2)with|true=>(match decide (okR y3)with|true=>(match(aR (ae y3) 0)==0 with|true=>(match decide (cG l∧cG m)with|true=>(match n7 (dec l) (dec m)with|true=>some [RV.d (.sl tP) ([]),RV.d ayb 10]|false=>some [RV.d (.sl tP) ([]),RV.d ayb 0])|false=>none)|false=>(match decide (okR l.2.2∧okR m.2.1)with|true=>(match decide (okR m.2.2∧okR l.2.1)with|true=>(match decide (okR y4∧okR y5)with|true=>(match decide (gb y6 y3)with|true=>(match decide (okR l.1∧okR m.2.2)with|true=>(match decide (okR m.1∧okR l.2.2)with|true=>(match decide (okR y7∧okR y8)with|true=>(match decide (gb y9 y3)with|true=>(match decide (ok (Rat×Rat) 100000 (hid (ai (ae y6/ae y3)),hid (ai (ae y9/ae y3))))with|true=>some [RV.d (.sl tP) ([hid (enc (atP (dec (hid (ai (ae y6/ae y3)),hid (ai (ae y9/ae y3))))))]),RV.d ayb 0]|false=>none)|false=>none)|false=>none)|false=>none)|false=>none)|false=>none)|false=>none)|false=>none)|false=>none))|false=>none)|false=>none)|false=>none)|false=>none
theorem asR(l m:BO3):RS ar9 126 [.d tO l,.d tO m] (aha l m):=rsX
theorem abj(l m:BO3)(h:cG l∧cG m):Con Tryz.prog 126 [.d tO l,.d tO m] [.d (.sl tP) ((lz (dec l) (dec m)).map enc),.d ayb (PV (dec l) (dec m))]:=by
 refine aO qO (asR _ _ ⟨0,?_⟩)
 obtain⟨hl,hm⟩:=h
 obtain⟨l,rfl,bl,nl⟩:=eI hl
 obtain⟨m,rfl,bm,nm⟩:=eI hm
 have ol:=auO (ku (l:=l) nl)
 have om:=auO (ku (l:=m) nm)
 have bc:Bd (fd l m) 49:=inferInstanceAs (Bd (l.1*m.2.1-m.1*l.2.1) _)
 have e0:l.1*m.2.1-m.1*l.2.1=fd l m:=rfl
 have e1:l.2.2*m.2.1-m.2.2*l.2.1=ma l m:=rfl
 have e2:l.1*m.2.2-m.1*l.2.2=l7 l m:=rfl
 have bx:Bd (ma l m) 151:=inferInstanceAs (Bd (l.2.2*m.2.1-m.2.2*l.2.1) _)
 have b_:Bd (l7 l m) 151:=inferInstanceAs (Bd (l.1*m.2.2-m.1*l.2.2) _)
 unfold aha lz PV
 simp only[am,aq,aH,aI,aF,az,aZ,auR,auT,Nat.reduceAdd,Nat.reduceLeDiff,aE,ol,om,e0,e1,e2]
 by_cases h0:fd l m=0
 ·simp only[auO h0,Bool.not_true]
  cases n7 l m<;>rfl
 ·simp only[aq,okd,aC,mx,Nat.reduceAdd,Nat.reduceLeDiff,au2,auX,cond_true,h0,ne_eq,awI,Bool.not_false,NS]
  rfl
def aro:Ctx:=CX Aj []
def agv(c d:BO3)(_k:KT):OLR:=match decide (bW c∧bW d)with|true=>(match gi (dec c) (dec d)with|true=>some [RV.d tO (((false,[]),(false,[])),(((false,[]),(false,[])),((false,[]),(false,[])))),RV.d ayb 6]|false=>(match decide (bU (2:Int))with|true=>(match decide (okR d.1∧okR c.1)with|true=>(match decide (okR (hid (ai ((2:Int):Rat)))∧okR (hid (ai (ae d.1-ae c.1))))with|true=>(match decide (okR d.2.1∧okR c.2.1)with|true=>(match decide (okR (hid (ai ((2:Int):Rat)))∧okR (hid (ai (ae d.2.1-ae c.2.1))))with|true=>(match decide (bW d)with|true=>(match decide (bW c)with|true=>(match decide (okR (hid (ai (oW (dec d))))∧okR (hid (ai (oW (dec c)))))with|true=>some [RV.d tO (hid (ai (ae (hid (ai ((2:Int):Rat)))*ae (hid (ai (ae d.1-ae c.1))))),(hid (ai (ae (hid (ai ((2:Int):Rat)))*ae (hid (ai (ae d.2.1-ae c.2.1))))),hid (ai (ae (hid (ai (oW (dec d))))-ae (hid (ai (oW (dec c)))))))),RV.d ayb 0]|false=>none)|false=>none)|false=>none)|false=>none)|false=>none)|false=>none)|false=>none)|false=>none))|false=>none
theorem arB(c d:BO3):RS aro 184 [.d tO c,.d tO d] (agv c d):=rsX
theorem aet(c d:BO3)(h:bW c∧bW d):Con Tryz.prog 184 [.d tO c,.d tO d] [.d tO (uy (dec c) (dec d)),.d ayb (On (dec c) (dec d))]:=by
 refine aO qO (arB _ _ ⟨0,?_⟩)
 obtain⟨hc,hd⟩:=h
 obtain⟨c,rfl,bc,nc⟩:=dh hc
 obtain⟨d,rfl,bd,nd⟩:=dh hd
 have oc:=auO (gL (c:=c) nc)
 have od:=auO (gL (c:=d) nd)
 have i2:decide (bU 2)=true:=by decide
 have b2:Bd ((2:Int):Rat) 3:=fS (by decide)
 have f1:Bd (oW c) 31:=(inferInstance:Bd (c.1*c.1+c.2.1*c.2.1-c.2.2) _).mono (by decide)
 have f2:Bd (oW d) 31:=(inferInstance:Bd (d.1*d.1+d.2.1*d.2.1-d.2.2) _).mono (by decide)
 unfold agv uy On
 simp only[am,aq,aH,aI,aF,az,aZ,auR,auT,Nat.reduceAdd,Nat.reduceLeDiff,oc,od,i2]
 cases gi c d
 ·rfl
 ·rfl
def ars:Ctx:=CX Aj []
def afq(l c:BO3)(_k:KT):OLR:=let y1:=hid (ai (dZ (dec l) (dec c)));let y2:=hid (enc (ftL (dec l) (dec c)));let y3:=aR (ae l.2.1) 0;let y4:=hid (ai (-ae l.1));let y5:=hid (ai (-ae l.2.1));let y6:=hid (ai (-ae y4));let y7:=hid (ai (-ae y5));let y8:=hid (ai (-ae y6));let y9:=enc (pP (ae (y2.1)) (ae y5) (ae (y2.2)) (ae y6) (ae y1));let y10:OLR:=match decide (okR l.2.1)with|true=>(match decide (okR y4)with|true=>(match decide (okR y5)with|true=>(match decide (okR y6)with|true=>(match decide (ok Rat 1000 (y2.1)∧ok Rat 1000 y7∧ok Rat 1000 (y2.2)∧ok Rat 1000 y8∧ok Rat 1000 y1∧0≤ae y1)with|true=>(match decide (ok Rat 1000 (y2.1)∧ok Rat 1000 y5∧ok Rat 1000 (y2.2)∧ok Rat 1000 y6∧ok Rat 1000 y1∧0≤ae y1)with|true=>some [RV.new 41 tP ([hid (enc (pP (ae (y2.1)) (ae y7) (ae (y2.2)) (ae y8) (ae y1))),hid y9])]|false=>none)|false=>none)|false=>none)|false=>none)|false=>none)|false=>none;let y11:OLR:=match decide (okR l.2.1)with|true=>(match decide (okR y4)with|true=>(match decide (ok Rat 1000 (y2.1)∧ok Rat 1000 y5∧ok Rat 1000 (y2.2)∧ok Rat 1000 y6∧ok Rat 1000 y1∧0≤ae y1)with|true=>(match decide (ok Rat 1000 (y2.1)∧ok Rat 1000 l.2.1∧ok Rat 1000 (y2.2)∧ok Rat 1000 y4∧ok Rat 1000 y1∧0≤ae y1)with|true=>some [RV.new 41 tP ([hid y9,hid (enc (pP (ae (y2.1)) (ae l.2.1) (ae (y2.2)) (ae y4) (ae y1)))])]|false=>none)|false=>none)|false=>none)|false=>none;match decide (cG l∧bW c)with|true=>(match decide (okR y1)with|true=>(match(aR (ae y1) 0)==(-1)with|true=>some [RV.new 41 tP []]|false=>(match(aR (ae y1) 0)==0 with|true=>(match decide (ok (Rat×Rat) 100000 y2)with|true=>some [RV.new 41 tP ([hid (enc (atP (dec y2)))])]|false=>none)|false=>(match decide (okR l.1)with|true=>(match decide (okR l.2.1)with|true=>(match decide (y3<0)with|true=>y10|false=>(match y3==0 with|true=>(match decide (okR y4)with|true=>(match decide ((aR (ae y4) 0)<0)with|true=>y10|false=>y11)|false=>none)|false=>y11))|false=>none)|false=>none)))|false=>none)|false=>none
theorem aqt(l c:BO3):RS ars 125 [.d tO l,.d tO c] (afq l c):=rsX
theorem adZ(l c:BO3)(h:cG l∧bW c):Con Tryz.prog 125 [.d tO l,.d tO c] [.d (.sl tP) ((jY (dec l) (dec c)).map enc)]:=by
 refine Con.new_d (et:=41) (aO qO (aqt _ _ ⟨0,?_⟩))
 obtain⟨hl,hc⟩:=h
 obtain⟨l,rfl,bl,nl⟩:=eI hl
 obtain⟨c,rfl,bc,nc⟩:=dh hc
 have ol:=auO (ku (l:=l) nl)
 have oc:=auO (gL (c:=c) nc)
 have bf:=Ic (l:=l) (c:=c)
 have bk:=Vm (l:=l) (c:=c)
 have b1:Bd (ftL l c).1 163:=inferInstance
 have b2:Bd (ftL l c).2 163:=inferInstance
 unfold afq jY
 simp only[am,aq,aH,aI,aF,az,okd,aD,aZ,auR,auT,auS,Nat.reduceLeDiff,aE,aG,kG,ol,oc]
 by_cases h0:dZ l c<0
 ·simp only[auO h0]
  rfl
 ·simp only[auQ h0]
  by_cases h1:dZ l c=0
  ·simp only[auO h1]
   rfl
  ·have hp:decide (0≤dZ l c)=true:=auO (by grind)
   simp only[auQ h1,hp,cond_false]
   unfold lcM lcN rn rF JI
   cases decide (l.2.1<0)<;>cases decide (l.2.1=0)<;>cases decide (-l.1<0)<;>rfl
def Zu:aM:=spN false true [tO,tO] (fun x=>decide (cG x.1∧cG x.2.1)) (fun x=>[RV.d (.sl tP) ((lz (dec x.1) (dec x.2.1)).map enc),RV.d ayb (PV (dec x.1) (dec x.2.1))])
theorem Vj:SpK 126 Zu:=spX fun x h=>abj x.1 x.2.1 (auN h)
def TJ:aM:=spN false true [tO,tO] (fun x=>decide (bW x.1∧bW x.2.1)) (fun x=>[RV.d tO (hid (uy (dec x.1) (dec x.2.1))),RV.d ayb (On (dec x.1) (dec x.2.1))])
theorem Zw:SpK 184 TJ:=spX fun x h=>by simp only[am];exact aet x.1 x.2.1 (auN h)
def TU:aM:=spN false true [tO,tO] (fun x=>decide (cG x.1∧bW x.2.1)) (fun x=>[RV.d (.sl tP) ((jY (dec x.1) (dec x.2.1)).map enc)])
theorem Z5:SpK 125 TU:=spX fun x h=>adZ x.1 x.2.1 (auN h)
def J1:Env:=(126,Zu)::(184,TJ)::(125,TU)::Aj
theorem Bt:EnvAll Tryz.prog J1:=⟨Vj,Zw,Z5,qO⟩
def arf:Ctx:=CX J1 []
def afK(c d:BO3)(_k:KT):OLR:=match decide (bW c∧bW d)with|true=>(match pM (dec c) (dec d)with|true=>some [RV.d (.sl tP) ([]),RV.d ayb 10]|false=>(match decide (bW c∧bW d)with|true=>(match gi (dec c) (dec d)with|true=>some [RV.d (.sl tP) ([]),RV.d ayb 0]|false=>(match decide (bW c∧bW d)with|true=>(match decide (cG (hid (uy (dec c) (dec d)))∧bW c)with|true=>some [RV.d (.sl tP) ((jY (dec (hid (uy (dec c) (dec d)))) (dec c)).map enc),RV.d ayb 0]|false=>none)|false=>none))|false=>none))|false=>none
theorem asJ(c d:BO3):RS arf 124 [.d tO c,.d tO d] (afK c d):=rsX
theorem aam(c d:BO3)(h:bW c∧bW d):Con Tryz.prog 124 [.d tO c,.d tO d] [.d (.sl tP) ((sV (dec c) (dec d)).map enc),.d ayb (YF (dec c) (dec d))]:=by
 refine aO Bt (asJ _ _ ⟨0,?_⟩)
 obtain⟨hc,hd⟩:=h
 obtain⟨c,rfl,bc,nc⟩:=dh hc
 obtain⟨d,rfl,bd,nd⟩:=dh hd
 have oc:=auO (gL (c:=c) nc)
 have od:=auO (gL (c:=d) nd)
 unfold afK sV YF
 simp only[am,aq,auR,auU,auT,oc,od]
 cases hs:pM c d
 ·cases hc:gi c d
  ·have ol:cG (enc (ms c d)):=TO hc
   have er:uy c d=enc (ms c d):=by unfold uy;rw[hc];rfl
   simp only[er,dT ol,aq,cond_false]
   try rfl
  ·rfl
 ·have hc:gi c d=true:=by
   unfold pM at hs
   unfold gi
   cases h1:decide (c.1=d.1)
   ·rw[h1]at hs;cases hs
   ·cases h2:decide (c.2.1=d.2.1)
    ·rw[h1,h2]at hs;cases hs
    ·rfl
  rw[hc]
  rfl
def aak:aM:=spN false true [tO,tO] (fun x=>decide (bW x.1∧bW x.2.1)) (fun x=>[RV.d (.sl tP) ((sV (dec x.1) (dec x.2.1)).map enc),RV.d ayb (YF (dec x.1) (dec x.2.1))])
theorem Xi:SpK 124 aak:=spX fun x h=>aam x.1 x.2.1 (auN h)
def JU:Env:=(124,aak)::J1
theorem Ck:EnvAll Tryz.prog JU:=⟨Xi,Bt⟩
def aoD:Ctx:=CX JU []
def afP(a b:BCU)(_k:KT):OLR:=match a.1 with|true=>(match b.1 with|true=>(match decide (bW a.2.2.1∧bW b.2.2.1)with|true=>some [RV.d (.sl tP) ((sV (dec a.2.2.1) (dec b.2.2.1)).map enc),RV.d ayb (YF (dec a.2.2.1) (dec b.2.2.1))]|false=>none)|false=>(match a.1 with|true=>(match decide (cG b.2.1∧bW a.2.2.1)with|true=>some [RV.d (.sl tP) ((jY (dec b.2.1) (dec a.2.2.1)).map enc),RV.d ayb 0]|false=>none)|false=>(match b.1 with|true=>(match decide (cG a.2.1∧bW b.2.2.1)with|true=>some [RV.d (.sl tP) ((jY (dec a.2.1) (dec b.2.2.1)).map enc),RV.d ayb 0]|false=>none)|false=>(match decide (cG a.2.1∧cG b.2.1)with|true=>some [RV.d (.sl tP) ((lz (dec a.2.1) (dec b.2.1)).map enc),RV.d ayb (PV (dec a.2.1) (dec b.2.1))]|false=>none))))|false=>(match a.1 with|true=>(match decide (cG b.2.1∧bW a.2.2.1)with|true=>some [RV.d (.sl tP) ((jY (dec b.2.1) (dec a.2.2.1)).map enc),RV.d ayb 0]|false=>none)|false=>(match b.1 with|true=>(match decide (cG a.2.1∧bW b.2.2.1)with|true=>some [RV.d (.sl tP) ((jY (dec a.2.1) (dec b.2.2.1)).map enc),RV.d ayb 0]|false=>none)|false=>(match decide (cG a.2.1∧cG b.2.1)with|true=>some [RV.d (.sl tP) ((lz (dec a.2.1) (dec b.2.1)).map enc),RV.d ayb (PV (dec a.2.1) (dec b.2.1))]|false=>none)))
theorem asY(a b:BCU):RS aoD 59 [.d tCU a,.d tCU b] (afP a b):=rsX
theorem acm(a b:BCU)(h:fi a b):Con Tryz.prog 59 [.d tCU a,.d tCU b] [.d (.sl tP) ((gg (dC a) (dC b)).map enc),.d ayb (ajw (dC a) (dC b))]:=by
 refine aO Ck (asY _ _ ⟨0,?_⟩)
 obtain⟨⟨a1,a2⟩,b1,b2⟩:=h
 unfold afP gg ajw
 obtain⟨aa,al,ac,aw,af,at_⟩:=a
 obtain⟨ba,bl,bc,bw,bf,bt⟩:=b
 cases aa<;>cases ba
 ·have h1:=a2 rfl
  have h2:=b2 rfl
  simp only[dT (show cG al∧cG bl from⟨h1,h2⟩)]
  rfl
 ·have h1:=a2 rfl
  have h2:=b1 rfl
  simp only[dT (show cG al∧bW bc from⟨h1,h2⟩)]
  rfl
 ·have h1:=a1 rfl
  have h2:=b2 rfl
  simp only[dT (show cG bl∧bW ac from⟨h2,h1⟩)]
  rfl
 ·have h1:=a1 rfl
  have h2:=b1 rfl
  simp only[dT (show bW ac∧bW bc from⟨h1,h2⟩)]
  rfl
def ap7:Ctx:=CX JU []
def afU(a b:BCU)(_k:KT):OLR:=match !(a.1==b.1)with|true=>some [RV.d .bool false]|false=>(match a.1 with|true=>(match decide (bW a.2.2.1∧bW b.2.2.1)with|true=>some [RV.d .bool (pM (dec a.2.2.1) (dec b.2.2.1))]|false=>none)|false=>(match decide (cG a.2.1∧cG b.2.1)with|true=>some [RV.d .bool (n7 (dec a.2.1) (dec b.2.1))]|false=>none))
theorem aqv(a b:BCU):RS ap7 58 [.d tCU a,.d tCU b] (afU a b):=rsX
theorem Dt(a b:BCU)(h:fi a b):Con Tryz.prog 58 [.d tCU a,.d tCU b] [.d .bool (cL (dC a) (dC b))]:=by
 refine aO Ck (aqv _ _ ⟨0,?_⟩)
 obtain⟨⟨a1,a2⟩,b1,b2⟩:=h
 unfold afU cL
 obtain⟨aa,al,ac,aw,af,at_⟩:=a
 obtain⟨ba,bl,bc,bw,bf,bt⟩:=b
 cases aa<;>cases ba
 ·have h1:=a2 rfl
  have h2:=b2 rfl
  simp only[dT (show cG al∧cG bl from⟨h1,h2⟩)]
  rfl
 ·rfl
 ·rfl
 ·have h1:=a1 rfl
  have h2:=b1 rfl
  simp only[dT (show bW ac∧bW bc from⟨h1,h2⟩)]
  rfl
def Jn:aM:=spN false true [tCU,tCU] (fun x=>decide (fi x.1 x.2.1)) (fun x=>[RV.d (.sl tP) ((gg (dC x.1) (dC x.2.1)).map enc),RV.d ayb (ajw (dC x.1) (dC x.2.1))])
theorem Fw:SpK 59 Jn:=spX fun x h=>acm x.1 x.2.1 (auN h)
def RO:aM:=spN true true [tCU,tCU] (fun x=>decide (fi x.1 x.2.1)) (fun x=>[RV.d .bool (cL (dC x.1) (dC x.2.1))])
theorem SU:SpK 58 RO:=spX fun x h=>Dt x.1 x.2.1 (auN h)
end Go.Proofs.YtgddhgcjmddjfaaGreat
end
