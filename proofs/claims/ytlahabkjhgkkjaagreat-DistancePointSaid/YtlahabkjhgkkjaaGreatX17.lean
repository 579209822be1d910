/- Common points of lines and circles: the reference's contracts. -/
import Derived.Test.YtlahabkjhgkkjaaGreatX16
noncomputable section
namespace Go.Proofs.YtlahabkjhgkkjaaGreat
open Go.RowKit Go.IntKind
section
theorem XZ(a b:Rat):((ag a,ag b):BV)=enc ((a,b):Rat×Rat):=nr rfl
theorem Xg{q:Rat}(h:¬q<0)(h':¬q=0):0<q:=by grind
theorem rdl{l:Ln}(h:d8 l≠0)(hl:l.1≠0∨l.2.1≠0):¬(l.2.1/d8 l=0∧ -l.1/d8 l=0):=by
 intro ⟨h1,h2⟩
 have m:∀a:Rat,a/d8 l=0→a=0:=fun a e=>by
  have:a/d8 l*d8 l=a:=avI h
  rw[e,Rat.zero_mul]at this
  exact this.symm
 have:=m _ h1
 have:=m _ h2
 rcases hl with h|h<;>grind
section
variable {l c:Ln}
theorem Oj(hl:l.1≠0∨l.2.1≠0)(h0:0≤ll l c):Rpd (xm l c)∧Rpd (xy l c):=by
 have hn:=W7 hl
 refine⟨AO (fun h=>rdl hn hl ⟨by grind,by grind⟩) h0,AO (rdl hn hl) h0⟩
theorem VZ [BdL l][BdC c]:Bd (xm l c) 490∧Bd (xy l c) 490:=by
 obtain⟨h1,h2,h3,h4⟩:=Ga (l:=l) (c:=c)
 have h5:Bd (ll l c) 257:=inferInstance
 have n1:Bd (-(l.2.1/d8 l)) 61:=inferInstance
 have i1:Bd (d8 l) 49:=inferInstanceAs (Bd (l.1*l.1+l.2.1*l.2.1) _)
 have n2:Bd (-l.1/d8 l) 61:=(inferInstance:Bd (-l.1/d8 l) _)
 have n3:Bd (-(-l.1/d8 l)) 61:=inferInstance
 exact⟨Be h1 n1 h2 n3 h5 (by decide),Be h1 h3 h2 n2 h5 (by decide)⟩
end
theorem Sm{c d:Ln}[BdC c][BdC d]:BdL (xD c d):=by
 have b2:Bd (2:Rat) 3:=cZ (n:=2) (by decide)
 have f1:Bd (L5 c) 31:=(inferInstance:Bd (c.1*c.1+c.2.1*c.2.1-c.2.2) _).mono (by decide)
 have f2:Bd (L5 d) 31:=(inferInstance:Bd (d.1*d.1+d.2.1*d.2.1-d.2.2) _).mono (by decide)
 have g1:Bd (2*(d.1-c.1)) _:=inferInstance
 have g2:Bd (2*(d.2.1-c.2.1)) _:=inferInstance
 have g3:Bd (L5 d-L5 c) _:=inferInstance
 exact⟨g1.mono (by decide),g2.mono (by decide),g3.mono (by decide)⟩
theorem TC{c d:Ln}(h:oH c d=false):(xD c d).1≠0∨(xD c d).2.1≠0:=by
 unfold oH at h
 unfold xD
 dsimp only
 by_cases h1:c.1=d.1
 ·rw[at7 h1,auc]at h
  have:=avb h
  right;grind
 ·left;grind
theorem aku{c d:Ln}[BdC c][BdC d](h:oH c d=false):du (enc (xD c d)):=ro (h:=Sm) (TC h)
def pE:Env:=[(78,fu),(50,gQ),(127,iw),(161,iu),(132,gL),(107,jw),(124,jD),(217,B8),(131,ua),(20,ls),(96,nX),(141,qk)]
theorem ib:EnvAll Tryz.prog pE:=⟨dW,fq,fT,fS,fk,gG,gH,yd,sQ,iH,kr,nN,trivial⟩
def amj:Ctx:=CX pE []
def ad5(a b:BR)(_k:KT):Option (List RV):=match decide (okR a∧okR b)with|true=>some [RV.d tR (hid (ag (ae a+ae b)))]|false=>none
theorem amJ(a b:BR):RS amj 277 [.d tR a,.d tR b] (ad5 a b):=rsX
theorem X7(a b:BR)(h:okR a∧okR b):Con Tryz.prog 277 [.d tR a,.d tR b] [.d tR (ag (ae a+ae b))]:=by
 refine aP ib (amJ _ _ ⟨0,?_⟩)
 unfold ad5
 rw[dT h]
 simp only[aj]
def amt:Ctx:=CX pE []
def ad8(a b:BR)(_k:KT):Option (List RV):=match decide (okR a∧okR b)with|true=>some [RV.d tR (hid (ag (ae a-ae b)))]|false=>none
theorem al6(a b:BR):RS amt 243 [.d tR a,.d tR b] (ad8 a b):=rsX
theorem acn(a b:BR)(h:okR a∧okR b):Con Tryz.prog 243 [.d tR a,.d tR b] [.d tR (ag (ae a-ae b))]:=by
 refine aP ib (al6 _ _ ⟨0,?_⟩)
 unfold ad8
 rw[dT h]
 simp only[aj]
def aq3:Ctx:=CX pE []
def acZ(a b:BR)(_k:KT):Option (List RV):=match decide (okR a∧okR b)with|true=>some [RV.d tR (hid (ag (ae a*ae b)))]|false=>none
theorem apo(a b:BR):RS aq3 244 [.d tR a,.d tR b] (acZ a b):=rsX
theorem ZQ(a b:BR)(h:okR a∧okR b):Con Tryz.prog 244 [.d tR a,.d tR b] [.d tR (ag (ae a*ae b))]:=by
 refine aP ib (apo _ _ ⟨0,?_⟩)
 unfold acZ
 rw[dT h]
 simp only[aj]
def apH:Ctx:=CX pE []
def adz(a:BR)(_k:KT):Option (List RV):=match decide (okR a)with|true=>some [RV.d tR (hid (ag (-ae a)))]|false=>none
theorem anW(a:BR):RS apH 236 [.d tR a] (adz a):=rsX
theorem Za(a:BR)(h:okR a):Con Tryz.prog 236 [.d tR a] [.d tR (ag (-ae a))]:=by
 refine aP ib (anW _ ⟨0,?_⟩)
 unfold adz
 rw[dT h]
 simp only[aj]
def aqd:Ctx:=CX pE []
def aey(a b:BR)(_k:KT):Option (List RV):=match decide (fh a b)with|true=>some [RV.d tR (hid (ag (ae a/ae b)))]|false=>none
theorem aqG(a b:BR):RS aqd 241 [.d tR a,.d tR b] (aey a b):=rsX
theorem aaa(a b:BR)(h:fh a b):Con Tryz.prog 241 [.d tR a,.d tR b] [.d tR (ag (ae a/ae b))]:=by
 refine aP ib (aqG _ _ ⟨0,?_⟩)
 unfold aey
 rw[dT h]
 simp only[aj]
def aht:Ctx:=CX pE []
def Xe(l m:BO3)(_k:KT):Option (List RV):=match decide (okR l.1∧okR m.2.1)with|true=>(match decide (okR l.2.1∧okR m.1)with|true=>(match decide (okR (hid (ag (ae l.1*ae m.2.1)))∧okR (hid (ag (ae l.2.1*ae m.1))))with|true=>(match(aU (ae (hid (ag (ae l.1*ae m.2.1)))) (ae (hid (ag (ae l.2.1*ae m.1)))))==0 with|true=>(match decide (okR l.1∧okR m.2.2)with|true=>(match decide (okR l.2.2∧okR m.1)with|true=>(match decide (okR (hid (ag (ae l.1*ae m.2.2)))∧okR (hid (ag (ae l.2.2*ae m.1))))with|true=>(match(aU (ae (hid (ag (ae l.1*ae m.2.2)))) (ae (hid (ag (ae l.2.2*ae m.1)))))==0 with|true=>(match decide (okR l.2.1∧okR m.2.2)with|true=>(match decide (okR l.2.2∧okR m.2.1)with|true=>(match decide (okR (hid (ag (ae l.2.1*ae m.2.2)))∧okR (hid (ag (ae l.2.2*ae m.2.1))))with|true=>some [RV.d .bool ((aU (ae (hid (ag (ae l.2.1*ae m.2.2)))) (ae (hid (ag (ae l.2.2*ae m.2.1)))))==0)]|false=>none)|false=>none)|false=>none)|false=>some [RV.d .bool false])|false=>none)|false=>none)|false=>none)|false=>some [RV.d .bool false])|false=>none)|false=>none)|false=>none
theorem agZ(l m:BO3):RS aht 177 [.d tO l,.d tO m] (Xe l m):=rsX
theorem Uv(l m:BO3)(h:du l∧du m):Con Tryz.prog 177 [.d tO l,.d tO m] [.d .bool (Sd (dec l) (dec m))]:=by
 refine aP ib (agZ _ _ ⟨0,?_⟩)
 obtain⟨hl,hm⟩:=h
 obtain⟨l,rfl,bl,nl⟩:=fG hl
 obtain⟨m,rfl,bm,nm⟩:=fG hm
 unfold Xe Sd
 simp only[aj,am,aE,aF,aB,az,aW,aua,aub,Nat.reduceAdd,Nat.reduceLeDiff,aI]
 cases decide (l.1*m.2.1=l.2.1*m.1)<;>cases decide (l.1*m.2.2=l.2.2*m.1)<;>rfl
def aiN:Ctx:=CX pE []
def T9(c d:BO3)(_k:KT):Option (List RV):=match decide (okR c.1∧okR d.1)with|true=>(match(aU (ae c.1) (ae d.1))==0 with|true=>(match decide (okR c.2.1∧okR d.2.1)with|true=>(match(aU (ae c.2.1) (ae d.2.1))==0 with|true=>(match decide (okR c.2.2∧okR d.2.2)with|true=>some [RV.d .bool ((aU (ae c.2.2) (ae d.2.2))==0)]|false=>none)|false=>some [RV.d .bool false])|false=>none)|false=>some [RV.d .bool false])|false=>none
theorem ajb(c d:BO3):RS aiN 176 [.d tO c,.d tO d] (T9 c d):=rsX
theorem Xn(c d:BO3)(h:dg c∧dg d):Con Tryz.prog 176 [.d tO c,.d tO d] [.d .bool (Ud (dec c) (dec d))]:=by
 refine aP ib (ajb _ _ ⟨0,?_⟩)
 obtain⟨hc,hd⟩:=h
 obtain⟨c,rfl,bc,nc⟩:=fp hc
 obtain⟨d,rfl,bd,nd⟩:=fp hd
 unfold T9 Ud
 simp only[am,aE,aF,aB,az,aW,aua,aub,Nat.reduceLeDiff,aI]
 cases decide (c.1=d.1)<;>cases decide (c.2.1=d.2.1)<;>rfl
def NG:aN:=spN false true [tR,tR] (fun x=>decide (okR x.1∧okR x.2.1)) (fun x=>[RV.d tR (hid (ag (ae x.1+ae x.2.1)))])
theorem RU:SpK 277 NG:=spX fun x h=>by simp only[aj];exact X7 x.1 x.2.1 (at6 h)
def Rn:aN:=spN false true [tR,tR] (fun x=>decide (okR x.1∧okR x.2.1)) (fun x=>[RV.d tR (hid (ag (ae x.1-ae x.2.1)))])
theorem S2:SpK 243 Rn:=spX fun x h=>by simp only[aj];exact acn x.1 x.2.1 (at6 h)
def SD:aN:=spN false true [tR,tR] (fun x=>decide (okR x.1∧okR x.2.1)) (fun x=>[RV.d tR (hid (ag (ae x.1*ae x.2.1)))])
theorem U1:SpK 244 SD:=spX fun x h=>by simp only[aj];exact ZQ x.1 x.2.1 (at6 h)
def TJ:aN:=spN false true [tR] (fun x=>decide (okR x.1)) (fun x=>[RV.d tR (hid (ag (-ae x.1)))])
theorem Xp:SpK 236 TJ:=spX fun x h=>by simp only[aj];exact Za x.1 (at6 h)
def Sa:aN:=spN false true [tR,tR] (fun x=>decide (fh x.1 x.2.1)) (fun x=>[RV.d tR (hid (ag (ae x.1/ae x.2.1)))])
theorem Wd:SpK 241 Sa:=spX fun x h=>by simp only[aj];exact aaa x.1 x.2.1 (at6 h)
def uL:Env:=(277,NG)::(243,Rn)::(244,SD)::(236,TJ)::(241,Sa)::pE
theorem jX:EnvAll Tryz.prog uL:=⟨RU,S2,U1,Xp,Wd,ib⟩
def ard:Ctx:=CX uL []
def adC(l m:BO3)(_k:KT):Option (List RV):=match decide (okR l.1∧okR m.2.1)with|true=>(match decide (okR m.1∧okR l.2.1)with|true=>(match decide (okR (hid (ag (ae l.1*ae m.2.1)))∧okR (hid (ag (ae m.1*ae l.2.1))))with|true=>some [RV.d tR (hid (ag (ae (hid (ag (ae l.1*ae m.2.1)))-ae (hid (ag (ae m.1*ae l.2.1))))))]|false=>none)|false=>none)|false=>none
theorem amS(l m:BO3):RS ard 245 [.d tO l,.d tO m] (adC l m):=rsX
theorem Yt(l m:BO3)(h:du l∧du m):Con Tryz.prog 245 [.d tO l,.d tO m] [.d tR (ag (oa (dec l) (dec m)))]:=by
 refine aP jX (amS _ _ ⟨0,?_⟩)
 obtain⟨hl,hm⟩:=h
 obtain⟨l,rfl,bl,nl⟩:=fG hl
 obtain⟨m,rfl,bm,nm⟩:=fG hm
 unfold adC oa
 simp only[aj,am,aE,aF,aB,az,aW,aua,aub,Nat.reduceAdd,Nat.reduceLeDiff]
def aqe:Ctx:=CX uL []
def ae7(l:BO3)(_k:KT):Option (List RV):=match decide (okR l.1∧okR l.1)with|true=>(match decide (okR l.2.1∧okR l.2.1)with|true=>(match decide (okR (hid (ag (ae l.1*ae l.1)))∧okR (hid (ag (ae l.2.1*ae l.2.1))))with|true=>some [RV.d tR (hid (ag (ae (hid (ag (ae l.1*ae l.1)))+ae (hid (ag (ae l.2.1*ae l.2.1))))))]|false=>none)|false=>none)|false=>none
theorem apE(l:BO3):RS aqe 240 [.d tO l] (ae7 l):=rsX
theorem abb(l:BO3)(h:du l):Con Tryz.prog 240 [.d tO l] [.d tR (ag (d8 (dec l)))]:=by
 refine aP jX (apE _ ⟨0,?_⟩)
 have hl:=h
 obtain⟨l,rfl,bl,nl⟩:=fG hl
 unfold ae7 d8
 simp only[aj,am,aE,aF,aB,az,aW,aua,aub,Nat.reduceAdd,Nat.reduceLeDiff]
def amw:Ctx:=CX uL []
def afm(l:BO3)(x y:BR)(_k:KT):Option (List RV):=match decide (okR l.1∧okR x)with|true=>(match decide (okR l.2.1∧okR y)with|true=>(match decide (okR (hid (ag (ae l.1*ae x)))∧okR (hid (ag (ae l.2.1*ae y))))with|true=>(match decide (okR (hid (ag (ae (hid (ag (ae l.1*ae x)))+ae (hid (ag (ae l.2.1*ae y))))))∧okR l.2.2)with|true=>some [RV.d tR (hid (ag (ae (hid (ag (ae (hid (ag (ae l.1*ae x)))+ae (hid (ag (ae l.2.1*ae y))))))-ae l.2.2)))]|false=>none)|false=>none)|false=>none)|false=>none
theorem ari(l:BO3)(x y:BR):RS amw 242 [.d tO l,.d tR x,.d tR y] (afm l x y):=rsX
theorem aco(l:BO3)(x y:BR)(h:du l∧ok Rat 4 x∧ok Rat 4 y):Con Tryz.prog 242 [.d tO l,.d tR x,.d tR y] [.d tR (ag (vlL (dec l) (ae x) (ae y)))]:=by
 refine aP jX (ari _ _ _ ⟨0,?_⟩)
 obtain⟨hl,hx,hy⟩:=h
 obtain⟨l,rfl,bl,nl⟩:=fG hl
 obtain⟨x,rfl,bx⟩:=aS hx
 obtain⟨y,rfl,b_y⟩:=aS hy
 unfold afm vlL
 simp only[aj,am,aE,aF,aB,az,aW,aua,aub,Nat.reduceAdd,Nat.reduceLeDiff]
def alM:Ctx:=CX uL []
def adQ(c d:BO3)(_k:KT):Option (List RV):=match decide (okR c.1∧okR d.1)with|true=>(match(aU (ae c.1) (ae d.1))==0 with|true=>(match decide (okR c.2.1∧okR d.2.1)with|true=>some [RV.d .bool ((aU (ae c.2.1) (ae d.2.1))==0)]|false=>none)|false=>some [RV.d .bool false])|false=>none
theorem arE(c d:BO3):RS alM 237 [.d tO c,.d tO d] (adQ c d):=rsX
theorem aay(c d:BO3)(h:dg c∧dg d):Con Tryz.prog 237 [.d tO c,.d tO d] [.d .bool (oH (dec c) (dec d))]:=by
 refine aP jX (arE _ _ ⟨0,?_⟩)
 obtain⟨hc,hd⟩:=h
 obtain⟨c,rfl,bc,nc⟩:=fp hc
 obtain⟨d,rfl,bd,nd⟩:=fp hd
 unfold adQ oH
 simp only[am,aE,aF,aB,az,aW,aua,aub,Nat.reduceLeDiff,aI]
 cases decide (c.1=d.1)<;>rfl
def anj:Ctx:=CX uL []
def aez(a b c d e:BR)(_k:KT):Option (List RV):=match decide (okR e)with|true=>(match eK (ae e)with|true=>(match decide (okR b∧okR (hid (rtB (ae e))))with|true=>(match decide (okR a∧okR (hid (ag (ae b*ae (hid (rtB (ae e)))))))with|true=>(match decide (okR d∧okR (hid (rtB (ae e))))with|true=>(match decide (okR c∧okR (hid (ag (ae d*ae (hid (rtB (ae e)))))))with|true=>(match decide (ok (Rat×Rat) 100000 (hid (ag (ae a+ae (hid (ag (ae b*ae (hid (rtB (ae e)))))))),hid (ag (ae c+ae (hid (ag (ae d*ae (hid (rtB (ae e))))))))))with|true=>some [RV.d tP (hid (enc (atP (dec (hid (ag (ae a+ae (hid (ag (ae b*ae (hid (rtB (ae e)))))))),hid (ag (ae c+ae (hid (ag (ae d*ae (hid (rtB (ae e)))))))))))))]|false=>none)|false=>none)|false=>none)|false=>none)|false=>none)|false=>some [RV.d tP (a,(b,(c,(d,e))))])|false=>none
theorem amc(a b c d e:BR):RS anj 235 [.d tR a,.d tR b,.d tR c,.d tR d,.d tR e] (aez a b c d e):=rsX
theorem acs(a b c d e:BR)(h:ok Rat 1000 a∧ok Rat 1000 b∧ok Rat 1000 c∧ok Rat 1000 d∧ok Rat 1000 e):Con Tryz.prog 235 [.d tR a,.d tR b,.d tR c,.d tR d,.d tR e] [.d tP (enc (lz (ae a) (ae b) (ae c) (ae d) (ae e)))]:=by
 refine aP jX (amc _ _ _ _ _ ⟨0,?_⟩)
 obtain⟨ha,hb,hc,hd,he⟩:=h
 obtain⟨a,rfl,ba⟩:=aS ha
 obtain⟨b,rfl,bb⟩:=aS hb
 obtain⟨c,rfl,bc⟩:=aS hc
 obtain⟨d,rfl,bd⟩:=aS hd
 obtain⟨e,rfl,be⟩:=aS he
 unfold aez lz
 simp only[aj,aB,az,aW,aua,auc,Nat.reduceLeDiff]
 cases hq:eK e
 ·rfl
 ·rw[Q2 hq]
  simp only[am,az,okd,aW,mx,Nat.reduceAdd,Nat.reduceLeDiff,auf,cond_true,XZ]
  try rfl
def OG:aN:=spN false true [tO,tO] (fun x=>decide (du x.1∧du x.2.1)) (fun x=>[RV.d tR (hid (ag (oa (dec x.1) (dec x.2.1))))])
theorem Ov:SpK 245 OG:=spX fun x h=>by simp only[aj];exact Yt x.1 x.2.1 (at6 h)
def Xb:aN:=spN false true [tO] (fun x=>decide (du x.1)) (fun x=>[RV.d tR (hid (ag (d8 (dec x.1))))])
theorem Qe:SpK 240 Xb:=spX fun x h=>by simp only[aj];exact abb x.1 (at6 h)
def Ox:aN:=spN false true [tO,tR,tR] (fun x=>decide (du x.1∧ok Rat 4 x.2.1∧ok Rat 4 x.2.2.1)) (fun x=>[RV.d tR (hid (ag (vlL (dec x.1) (ae x.2.1) (ae x.2.2.1))))])
theorem UN:SpK 242 Ox:=spX fun x h=>by simp only[aj];exact aco x.1 x.2.1 x.2.2.1 (at6 h)
def XG:aN:=spN true true [tO,tO] (fun x=>decide (dg x.1∧dg x.2.1)) (fun x=>[RV.d .bool (oH (dec x.1) (dec x.2.1))])
theorem Qw:SpK 237 XG:=spX fun x h=>aay x.1 x.2.1 (at6 h)
def OS:aN:=spN false true [tR,tR,tR,tR,tR] (fun x=>decide (ok Rat 1000 x.1∧ok Rat 1000 x.2.1∧ok Rat 1000 x.2.2.1∧ok Rat 1000 x.2.2.2.1∧ok Rat 1000 x.2.2.2.2.1)) (fun x=>[RV.d tP (hid (enc (lz (ae x.1) (ae x.2.1) (ae x.2.2.1) (ae x.2.2.2.1) (ae x.2.2.2.2.1))))])
theorem R7:SpK 235 OS:=spX fun x h=>by simp only[aj];exact acs x.1 x.2.1 x.2.2.1 x.2.2.2.1 x.2.2.2.2.1 (at6 h)
def yG:Env:=(245,OG)::(240,Xb)::(242,Ox)::(237,XG)::(235,OS)::uL
theorem mV:EnvAll Tryz.prog yG:=⟨Ov,Qe,UN,Qw,R7,jX⟩
def apk:Ctx:=CX yG []
def aeS(l m:BO3)(_k:KT):Option (List RV):=let y1:=hid (ag (ae l.2.2*ae m.2.1));let y2:=hid (ag (ae m.2.2*ae l.2.1));let y3:=hid (ag (ae l.1*ae m.2.2));let y4:=hid (ag (ae m.1*ae l.2.2));let y5:=hid (ag (oa (dec l) (dec m)));let y6:=hid (ag (ae y1-ae y2));let y7:=hid (ag (ae y3-ae y4));match decide (du l∧du m)with|true=>(match decide (okR l.2.2∧okR m.2.1)with|true=>(match decide (okR m.2.2∧okR l.2.1)with|true=>(match decide (okR y1∧okR y2)with|true=>(match decide (okR l.1∧okR m.2.2)with|true=>(match decide (okR m.1∧okR l.2.2)with|true=>(match decide (okR y3∧okR y4)with|true=>(match decide (okR y5)with|true=>(match(aU (ae y5) 0) !=0 with|true=>(match decide (fh y6 y5)with|true=>(match decide (fh y7 y5)with|true=>(match decide (ok (Rat×Rat) 100000 (hid (ag (ae y6/ae y5)),hid (ag (ae y7/ae y5))))with|true=>some [RV.d (.sl tP) ([hid (enc (atP (dec (hid (ag (ae y6/ae y5)),hid (ag (ae y7/ae y5))))))]),RV.d axf 0]|false=>none)|false=>none)|false=>none)|false=>(match decide (okR y6)with|true=>(match(aU (ae y6) 0)==0 with|true=>(match decide (okR y7)with|true=>(match(aU (ae y7) 0)==0 with|true=>some [RV.d (.sl tP) ([]),RV.d axf 10]|false=>some [RV.d (.sl tP) ([]),RV.d axf 0])|false=>none)|false=>some [RV.d (.sl tP) ([]),RV.d axf 0])|false=>none))|false=>none)|false=>none)|false=>none)|false=>none)|false=>none)|false=>none)|false=>none)|false=>none
theorem aml(l m:BO3):RS apk 180 [.d tO l,.d tO m] (aeS l m):=rsX
theorem aau(l m:BO3)(h:du l∧du m):Con Tryz.prog 180 [.d tO l,.d tO m] [.d (.sl tP) ((Ah (dec l) (dec m)).map enc),.d axf (LM (dec l) (dec m))]:=by
 refine aP mV (aml _ _ ⟨0,?_⟩)
 obtain⟨hl,hm⟩:=h
 obtain⟨l,rfl,bl,nl⟩:=fG hl
 obtain⟨m,rfl,bm,nm⟩:=fG hm
 have ol:=at7 (ro (l:=l) nl)
 have om:=at7 (ro (l:=m) nm)
 have bc:Bd (oa l m) 49:=inferInstanceAs (Bd (l.1*m.2.1-m.1*l.2.1) _)
 have e1:l.2.2*m.2.1-m.2.2*l.2.1=HA l m:=rfl
 have e2:l.1*m.2.2-m.1*l.2.2=F3 l m:=rfl
 unfold aeS Ah LM
 simp only[aj,am,aE,aF,aB,az,aW,aua,aub,Nat.reduceAdd,Nat.reduceLeDiff,aI,bR,ol,om]
 by_cases h0:oa l m=0
 ·simp only[at7 h0,e1,e2,Bool.not_true]
  cases decide (HA l m=0)<;>cases decide (F3 l m=0)<;>rfl
 ·simp only[am,okd,aD,mx,Nat.reduceAdd,Nat.reduceLeDiff,auf,aue,cond_true,h0,ne_eq,avZ,Bool.not_false,XZ]
  rfl
def art:Ctx:=CX yG []
def afA(l c:BO3)(_k:KT):Option (List RV):=match decide (du l∧ok Rat 4 c.1∧ok Rat 4 c.2.1)with|true=>(match decide (du l)with|true=>(match decide (okR (hid (ag (d8 (dec l))))∧okR c.2.2)with|true=>(match decide (okR (hid (ag (vlL (dec l) (ae c.1) (ae c.2.1))))∧okR (hid (ag (vlL (dec l) (ae c.1) (ae c.2.1)))))with|true=>(match decide (okR (hid (ag (ae (hid (ag (d8 (dec l))))*ae c.2.2)))∧okR (hid (ag (ae (hid (ag (vlL (dec l) (ae c.1) (ae c.2.1))))*ae (hid (ag (vlL (dec l) (ae c.1) (ae c.2.1))))))))with|true=>some [RV.d tR (hid (ag (ae (hid (ag (ae (hid (ag (d8 (dec l))))*ae c.2.2)))-ae (hid (ag (ae (hid (ag (vlL (dec l) (ae c.1) (ae c.2.1))))*ae (hid (ag (vlL (dec l) (ae c.1) (ae c.2.1))))))))))]|false=>none)|false=>none)|false=>none)|false=>none)|false=>none
theorem anQ(l c:BO3):RS art 239 [.d tO l,.d tO c] (afA l c):=rsX
theorem XX(l c:BO3)(h:du l∧dg c):Con Tryz.prog 239 [.d tO l,.d tO c] [.d tR (ag (ll (dec l) (dec c)))]:=by
 refine aP mV (anQ _ _ ⟨0,?_⟩)
 obtain⟨hl,hc⟩:=h
 obtain⟨l,rfl,bl,nl⟩:=fG hl
 obtain⟨c,rfl,bc,nc⟩:=fp hc
 have ol:=at7 (ro (l:=l) nl)
 have bv:Bd (vlL l c.1 c.2.1) 97:=inferInstanceAs (Bd (l.1*c.1+l.2.1*c.2.1-l.2.2) _)
 have bn:Bd (d8 l) 49:=inferInstanceAs (Bd (l.1*l.1+l.2.1*l.2.1) _)
 unfold afA ll
 simp only[aj,am,aE,aF,aB,az,aC,aW,aua,aub,Nat.reduceAdd,Nat.reduceLeDiff,ol]
def alU:Ctx:=CX yG []
def agB(c d:BO3)(_k:KT):Option (List RV):=match decide (dg c∧dg d)with|true=>(match oH (dec c) (dec d)with|true=>some [RV.d tO (((false,[]),(false,[])),(((false,[]),(false,[])),((false,[]),(false,[])))),RV.d axf 6]|false=>(match decide (aY (2:Int))with|true=>(match decide (okR c.1∧okR c.1)with|true=>(match decide (okR c.2.1∧okR c.2.1)with|true=>(match decide (okR (hid (ag (ae c.1*ae c.1)))∧okR (hid (ag (ae c.2.1*ae c.2.1))))with|true=>(match decide (okR (hid (ag (ae (hid (ag (ae c.1*ae c.1)))+ae (hid (ag (ae c.2.1*ae c.2.1))))))∧okR c.2.2)with|true=>(match decide (okR d.1∧okR d.1)with|true=>(match decide (okR d.2.1∧okR d.2.1)with|true=>(match decide (okR (hid (ag (ae d.1*ae d.1)))∧okR (hid (ag (ae d.2.1*ae d.2.1))))with|true=>(match decide (okR (hid (ag (ae (hid (ag (ae d.1*ae d.1)))+ae (hid (ag (ae d.2.1*ae d.2.1))))))∧okR d.2.2)with|true=>(match decide (okR d.1∧okR c.1)with|true=>(match decide (okR (hid (ag ((2:Int):Rat)))∧okR (hid (ag (ae d.1-ae c.1))))with|true=>(match decide (okR d.2.1∧okR c.2.1)with|true=>(match decide (okR (hid (ag ((2:Int):Rat)))∧okR (hid (ag (ae d.2.1-ae c.2.1))))with|true=>(match decide (okR (hid (ag (ae (hid (ag (ae (hid (ag (ae d.1*ae d.1)))+ae (hid (ag (ae d.2.1*ae d.2.1))))))-ae d.2.2)))∧okR (hid (ag (ae (hid (ag (ae (hid (ag (ae c.1*ae c.1)))+ae (hid (ag (ae c.2.1*ae c.2.1))))))-ae c.2.2))))with|true=>some [RV.d tO (hid (ag (ae (hid (ag ((2:Int):Rat)))*ae (hid (ag (ae d.1-ae c.1))))),(hid (ag (ae (hid (ag ((2:Int):Rat)))*ae (hid (ag (ae d.2.1-ae c.2.1))))),hid (ag (ae (hid (ag (ae (hid (ag (ae (hid (ag (ae d.1*ae d.1)))+ae (hid (ag (ae d.2.1*ae d.2.1))))))-ae d.2.2)))-ae (hid (ag (ae (hid (ag (ae (hid (ag (ae c.1*ae c.1)))+ae (hid (ag (ae c.2.1*ae c.2.1))))))-ae c.2.2))))))),RV.d axf 0]|false=>none)|false=>none)|false=>none)|false=>none)|false=>none)|false=>none)|false=>none)|false=>none)|false=>none)|false=>none)|false=>none)|false=>none)|false=>none)|false=>none))|false=>none
theorem aoU(c d:BO3):RS alU 238 [.d tO c,.d tO d] (agB c d):=rsX
theorem acp(c d:BO3)(h:dg c∧dg d):Con Tryz.prog 238 [.d tO c,.d tO d] [.d tO (Gp (dec c) (dec d)),.d axf (akc (dec c) (dec d))]:=by
 refine aP mV (aoU _ _ ⟨0,?_⟩)
 obtain⟨hc,hd⟩:=h
 obtain⟨c,rfl,bc,nc⟩:=fp hc
 obtain⟨d,rfl,bd,nd⟩:=fp hd
 have oc:=at7 (mM (c:=c) nc)
 have od:=at7 (mM (c:=d) nd)
 have i2:decide (aY 2)=true:=by decide
 have b2:Bd ((2:Int):Rat) 3:=cZ (by decide)
 unfold agB Gp akc
 simp only[aj,am,aE,aF,aB,az,aW,aua,aub,Nat.reduceAdd,Nat.reduceLeDiff,oc,od,i2]
 cases oH c d
 ·rfl
 ·rfl
def amC:Ctx:=CX yG []
def agj(c:BO3)(_k:KT):Option (List RV):=match decide (aY (1:Int))with|true=>(match decide (aY (0:Int))with|true=>(match decide (okR (hid (ag ((1:Int):Rat))))with|true=>(match decide (ok Rat 1000 c.1∧ok Rat 1000 (hid (ag (-ae (hid (ag ((1:Int):Rat))))))∧ok Rat 1000 c.2.1∧ok Rat 1000 (hid (ag ((0:Int):Rat)))∧ok Rat 1000 c.2.2)with|true=>(match decide (ok Rat 1000 c.1∧ok Rat 1000 (hid (ag ((1:Int):Rat)))∧ok Rat 1000 c.2.1∧ok Rat 1000 (hid (ag ((0:Int):Rat)))∧ok Rat 1000 c.2.2)with|true=>some [RV.d tP (hid (enc (lz (ae c.1) (ae (hid (ag (-ae (hid (ag ((1:Int):Rat))))))) (ae c.2.1) (ae (hid (ag ((0:Int):Rat)))) (ae c.2.2)))),RV.d tP (hid (enc (lz (ae c.1) (ae (hid (ag ((1:Int):Rat)))) (ae c.2.1) (ae (hid (ag ((0:Int):Rat)))) (ae c.2.2))))]|false=>none)|false=>none)|false=>none)|false=>none)|false=>none
theorem aoH(c:BO3):RS amC 175 [.d tO c] (agj c):=rsX
theorem Zz(c:BO3)(h:dg c):Con Tryz.prog 175 [.d tO c] [.d tP (enc (n7 (dec c))),.d tP (enc (n4 (dec c)))]:=by
 refine aP mV (aoH _ ⟨0,?_⟩)
 have hc:=h
 obtain⟨c,rfl,bc,nc⟩:=fp hc
 have b0:Bd ((0:Int):Rat) 3:=cZ (by decide)
 have b1:Bd ((1:Int):Rat) 3:=cZ (by decide)
 have i0:decide (aY 0)=true:=by decide
 have i1:decide (aY 1)=true:=by decide
 unfold agj n7 n4
 simp only[aj,am,aE,aF,aB,az,aC,aW,aua,aub,Nat.reduceLeDiff,i0,i1]
 rfl
def FZ:aN:=spN false true [tO,tO] (fun x=>decide (du x.1∧du x.2.1)) (fun x=>[RV.d (.sl tP) ((Ah (dec x.1) (dec x.2.1)).map enc),RV.d axf (LM (dec x.1) (dec x.2.1))])
theorem CP:SpK 180 FZ:=spX fun x h=>aau x.1 x.2.1 (at6 h)
def RA:aN:=spN false true [tO,tO] (fun x=>decide (du x.1∧dg x.2.1)) (fun x=>[RV.d tR (hid (ag (ll (dec x.1) (dec x.2.1))))])
theorem QC:SpK 239 RA:=spX fun x h=>by simp only[aj];exact XX x.1 x.2.1 (at6 h)
def Rs:aN:=spN false true [tO,tO] (fun x=>decide (dg x.1∧dg x.2.1)) (fun x=>[RV.d tO (hid (Gp (dec x.1) (dec x.2.1))),RV.d axf (akc (dec x.1) (dec x.2.1))])
theorem QM:SpK 238 Rs:=spX fun x h=>by simp only[aj];exact acp x.1 x.2.1 (at6 h)
def Hk:aN:=spN false true [tO] (fun x=>decide (dg x.1)) (fun x=>[RV.d tP (hid (enc (n7 (dec x.1)))),RV.d tP (hid (enc (n4 (dec x.1))))])
theorem EE:SpK 175 Hk:=spX fun x h=>by simp only[aj];exact Zz x.1 (at6 h)
def Ts:Env:=(180,FZ)::(239,RA)::(238,Rs)::(175,Hk)::yG
theorem DK:EnvAll Tryz.prog Ts:=⟨CP,QC,QM,EE,mV⟩
def aov:Ctx:=CX Ts []
def aea(l c:BO3)(_k:KT):Option (List RV):=let y1:=hid (ag (ll (dec l) (dec c)));let y2:=hid (ag (vlL (dec l) (ae c.1) (ae c.2.1)));let y3:=hid (ag (d8 (dec l)));let y4:=hid (ag (ae y2/ae y3));let y5:=hid (ag (ae y4*ae l.1));let y6:=hid (ag (ae y4*ae l.2.1));let y7:=ag (ae c.1-ae y5);let y8:=ag (ae c.2.1-ae y6);let y9:=hid (ag (-ae l.1));let y10:=hid (ag (ae l.2.1/ae y3));let y11:=hid (ag (ae y9/ae y3));let y12:=hid (ag (-ae y10));let y13:=hid (ag (-ae y11));let y14:=enc (lz (ae (hid y7)) (ae y12) (ae (hid y8)) (ae y13) (ae y1));let y15:=enc (lz (ae (hid y7)) (ae y10) (ae (hid y8)) (ae y11) (ae y1));match decide (du l∧dg c)with|true=>(match decide (du l)with|true=>(match decide (okR y1)with|true=>(match decide ((aU (ae y1) 0)<0)with|true=>some [RV.new 41 tP []]|false=>(match decide (du l∧ok Rat 4 c.1∧ok Rat 4 c.2.1)with|true=>(match decide (fh y2 y3)with|true=>(match decide (okR y4∧okR l.1)with|true=>(match decide (okR c.1∧okR y5)with|true=>(match decide (okR y4∧okR l.2.1)with|true=>(match decide (okR c.2.1∧okR y6)with|true=>(match decide (okR y1)with|true=>(match(aU (ae y1) 0)==0 with|true=>(match decide (ok (Rat×Rat) 100000 (hid y7,hid y8))with|true=>some [RV.new 41 tP ([hid (enc (atP (dec (hid y7,hid y8))))])]|false=>none)|false=>(match decide (fh l.2.1 y3)with|true=>(match decide (okR l.1)with|true=>(match decide (fh y9 y3)with|true=>(match decide (okR y10)with|true=>(match decide (okR y11)with|true=>(match decide (ok Rat 1000 (hid y7)∧ok Rat 1000 y12∧ok Rat 1000 (hid y8)∧ok Rat 1000 y13∧ok Rat 1000 y1)with|true=>(match decide (ok Rat 1000 (hid y7)∧ok Rat 1000 y10∧ok Rat 1000 (hid y8)∧ok Rat 1000 y11∧ok Rat 1000 y1)with|true=>(match decide (okP 4000 (hid y14)∧okP 4000 (hid y15))with|true=>(match decide ((cj (dec (hid y14)) (dec (hid y15)))>0)with|true=>some [RV.new 41 tP ([hid y15,hid y14])]|false=>some [RV.new 41 tP ([hid y14,hid y15])])|false=>none)|false=>none)|false=>none)|false=>none)|false=>none)|false=>none)|false=>none)|false=>none))|false=>none)|false=>none)|false=>none)|false=>none)|false=>none)|false=>none)|false=>none))|false=>none)|false=>none)|false=>none
theorem an9(l c:BO3):RS aov 179 [.d tO l,.d tO c] (aea l c):=rsX
theorem acU(l c:BO3)(h:du l∧dg c):Con Tryz.prog 179 [.d tO l,.d tO c] [.d (.sl tP) ((pI (dec l) (dec c)).map enc)]:=by
 refine Con.new_d (et:=41) (aP DK (an9 _ _ ⟨0,?_⟩))
 obtain⟨hl,hc⟩:=h
 obtain⟨l,rfl,bl,nl⟩:=fG hl
 obtain⟨c,rfl,bc,nc⟩:=fp hc
 have ol:=at7 (ro (l:=l) nl)
 have oc:=at7 (mM (c:=c) nc)
 have hn:=W7 nl
 have bv:Bd (vlL l c.1 c.2.1) 97:=inferInstanceAs (Bd (l.1*c.1+l.2.1*c.2.1-l.2.2) _)
 have bn:Bd (d8 l) 49:=inferInstanceAs (Bd (l.1*l.1+l.2.1*l.2.1) _)
 have e1:c.1-vlL l c.1 c.2.1/d8 l*l.1=ftX l c:=rfl
 have e2:c.2.1-vlL l c.1 c.2.1/d8 l*l.2.1=ftY l c:=rfl
 obtain⟨f1,f2,_,_⟩:=Ga (l:=l) (c:=c)
 unfold aea pI
 simp only[aj,am,aE,aF,aB,az,okd,aC,aW,aD,aua,aub,mx,Nat.reduceAdd,Nat.reduceLeDiff,auf,cond_true,aI,aJ,ol,oc,hn,ne_eq,avZ,e1,e2,XZ]
 by_cases h0:ll l c<0
 ·simp only[at7 h0]
  rfl
 ·simp only[at9 h0]
  by_cases h1:ll l c=0
  ·simp only[at7 h1]
   rfl
  ·have hp:=Xg h0 h1
   obtain⟨p1,p2⟩:=Oj (c:=c) nl (show 0≤ll l c by grind)
   obtain⟨q1,q2⟩:=VZ (l:=l) (c:=c)
   have g1:lz (ftX l c) (-(l.2.1/d8 l)) (ftY l c) (-(-l.1/d8 l)) (ll l c)=xm l c:=rfl
   have g2:lz (ftX l c) (l.2.1/d8 l) (ftY l c) (-l.1/d8 l) (ll l c)=xy l c:=rfl
   simp only[at9 h1,aub,Nat.reduceLeDiff,cond_false,aZ,g1,g2]
   cases decide (cj (xm l c) (xy l c)>0)<;>rfl
def Hz:aN:=spN false true [tO,tO] (fun x=>decide (du x.1∧dg x.2.1)) (fun x=>[RV.d (.sl tP) ((pI (dec x.1) (dec x.2.1)).map enc)])
theorem D1:SpK 179 Hz:=spX fun x h=>acU x.1 x.2.1 (at6 h)
def af9:Env:=(179,Hz)::Ts
theorem Uf:EnvAll Tryz.prog af9:=⟨D1,DK⟩
def aoZ:Ctx:=CX af9 []
def agu(c d:BO3)(_k:KT):Option (List RV):=match decide (dg c∧dg d)with|true=>(match oH (dec c) (dec d)with|true=>(match decide (okR c.2.2∧okR d.2.2)with|true=>(match(aU (ae c.2.2) (ae d.2.2))==0 with|true=>some [RV.d (.sl tP) ([]),RV.d axf 10]|false=>some [RV.d (.sl tP) ([]),RV.d axf 0])|false=>none)|false=>(match decide (dg c∧dg d)with|true=>(match decide (du (hid (Gp (dec c) (dec d)))∧dg c)with|true=>some [RV.d (.sl tP) ((pI (dec (hid (Gp (dec c) (dec d)))) (dec c)).map enc),RV.d axf 0]|false=>none)|false=>none))|false=>none
theorem aos(c d:BO3):RS aoZ 178 [.d tO c,.d tO d] (agu c d):=rsX
theorem ZO(c d:BO3)(h:dg c∧dg d):Con Tryz.prog 178 [.d tO c,.d tO d] [.d (.sl tP) ((AY (dec c) (dec d)).map enc),.d axf (Wx (dec c) (dec d))]:=by
 refine aP Uf (aos _ _ ⟨0,?_⟩)
 obtain⟨hc,hd⟩:=h
 obtain⟨c,rfl,bc,nc⟩:=fp hc
 obtain⟨d,rfl,bd,nd⟩:=fp hd
 have oc:=at7 (mM (c:=c) nc)
 have od:=at7 (mM (c:=d) nd)
 unfold agu AY Wx
 simp only[aj,am,aF,aB,az,aW,aua,aud,aub,Nat.reduceLeDiff,aI,oc,od]
 cases hc:oH c d
 ·have ol:du (enc (xD c d)):=aku hc
  have er:Gp c d=enc (xD c d):=by unfold Gp;rw[hc];rfl
  simp only[er,dT ol,am,cond_false]
  try rfl
 ·cases decide (c.2.2=d.2.2)<;>rfl
end
def mG(c:BCU):Prop:=okC 500 c∧MT c
instance (c:BCU):Decidable (mG c):=by unfold mG;infer_instance
def te(c d:BCU):Prop:=mG c∧mG d
instance (c d:BCU):Decidable (te c d):=by unfold te;infer_instance
def CI(c d:BCU):List BP:=bif !lG (dC c) (dC d)then(sD (dC c) (dC d)).map enc else [c.2.2.2.2.1,c.2.2.2.2.2,d.2.2.2.2.1,d.2.2.2.2.2]
def aig(c d:BCU):List BP:=(CI c d).filter fun p=>onR (dC c) (dec p)&&onR (dC d) (dec p)
def oY(c d:BCU):List BP:=fX (dC c) (aig c d)
def ZV(c d:BCU):Bool:=bif c.1&&(d.1&&(c.2.2.2.1 !=d.2.2.2.1))then true else !c.1&&(cj (dec c.2.2.2.2.1) (dec c.2.2.2.2.2) !=cj (dec d.2.2.2.2.1) (dec d.2.2.2.2.2))
def xE(c d:BCU):BCU:=bif ZV c d then jj d else d
def BK(c:Cv):List BP→Bool
 |[]=>false
 |x::r=>match r with
  |[]=>false
  |y::_=>decide (dR c (dec x) (dec y)<0)||BK c r
def agC(c d:BCU):Bool:=lG (dC c) (dC d)&&BK (dC (xE c d)) (oY c d)
def U9:aN:=spN false true [tO,tO] (fun x=>decide (dg x.1∧dg x.2.1)) (fun x=>[RV.d (.sl tP) ((AY (dec x.1) (dec x.2.1)).map enc),RV.d axf (Wx (dec x.1) (dec x.2.1))])
theorem Xy:SpK 178 U9:=spX fun x h=>ZO x.1 x.2.1 (at6 h)
def JN:aN:=spN true true [tO,tO] (fun x=>decide (du x.1∧du x.2.1)) (fun x=>[RV.d .bool (Sd (dec x.1) (dec x.2.1))])
theorem Lm:SpK 177 JN:=spX fun x h=>Uv x.1 x.2.1 (at6 h)
def Kf:aN:=spN true true [tO,tO] (fun x=>decide (dg x.1∧dg x.2.1)) (fun x=>[RV.d .bool (Ud (dec x.1) (dec x.2.1))])
theorem Ld:SpK 176 Kf:=spX fun x h=>Xn x.1 x.2.1 (at6 h)
def Kg:Env:=[(178,U9),(179,Hz),(180,FZ),(177,JN),(176,Kf),(81,vt),(19,uo),(95,HF),(17,uV),(96,nX)]
theorem wG:EnvAll Tryz.prog Kg:=⟨Xy,D1,CP,Lm,Ld,qI,pP,ED,qo,kr,trivial⟩
def aic:Ctx:=CX Kg []
def QS(a b:BCU)(_k:KT):Option (List RV):=match a.1 with|true=>(match b.1 with|true=>(match decide (dg a.2.2.1∧dg b.2.2.1)with|true=>some [RV.d (.sl tP) ((AY (dec a.2.2.1) (dec b.2.2.1)).map enc),RV.d axf (Wx (dec a.2.2.1) (dec b.2.2.1))]|false=>none)|false=>(match a.1 with|true=>(match decide (du b.2.1∧dg a.2.2.1)with|true=>some [RV.d (.sl tP) ((pI (dec b.2.1) (dec a.2.2.1)).map enc),RV.d axf 0]|false=>none)|false=>(match b.1 with|true=>(match decide (du a.2.1∧dg b.2.2.1)with|true=>some [RV.d (.sl tP) ((pI (dec a.2.1) (dec b.2.2.1)).map enc),RV.d axf 0]|false=>none)|false=>(match decide (du a.2.1∧du b.2.1)with|true=>some [RV.d (.sl tP) ((Ah (dec a.2.1) (dec b.2.1)).map enc),RV.d axf (LM (dec a.2.1) (dec b.2.1))]|false=>none))))|false=>(match a.1 with|true=>(match decide (du b.2.1∧dg a.2.2.1)with|true=>some [RV.d (.sl tP) ((pI (dec b.2.1) (dec a.2.2.1)).map enc),RV.d axf 0]|false=>none)|false=>(match b.1 with|true=>(match decide (du a.2.1∧dg b.2.2.1)with|true=>some [RV.d (.sl tP) ((pI (dec a.2.1) (dec b.2.2.1)).map enc),RV.d axf 0]|false=>none)|false=>(match decide (du a.2.1∧du b.2.1)with|true=>some [RV.d (.sl tP) ((Ah (dec a.2.1) (dec b.2.1)).map enc),RV.d axf (LM (dec a.2.1) (dec b.2.1))]|false=>none)))
theorem aib(a b:BCU):RS aic 94 [.d tCU a,.d tCU b] (QS a b):=rsX
theorem PH(a b:BCU)(h:vw a b):Con Tryz.prog 94 [.d tCU a,.d tCU b] [.d (.sl tP) ((sD (dC a) (dC b)).map enc),.d axf (OX (dC a) (dC b))]:=by
 refine aP wG (aib _ _ ⟨0,?_⟩)
 obtain⟨⟨a1,a2⟩,b1,b2⟩:=h
 unfold QS sD OX AY
 obtain⟨aa,al,ac,aw,af,at_⟩:=a
 obtain⟨ba,bl,bc,bw,bf,bt⟩:=b
 cases aa<;>cases ba
 ·have h1:=a2 rfl
  have h2:=b2 rfl
  simp only[dT (show du al∧du bl from⟨h1,h2⟩)]
  rfl
 ·have h1:=a2 rfl
  have h2:=b1 rfl
  simp only[dT (show du al∧dg bc from⟨h1,h2⟩)]
  rfl
 ·have h1:=a1 rfl
  have h2:=b2 rfl
  simp only[dT (show du bl∧dg ac from⟨h2,h1⟩)]
  rfl
 ·have h1:=a1 rfl
  have h2:=b1 rfl
  simp only[dT (show dg ac∧dg bc from⟨h1,h2⟩)]
  rfl
def ans:Ctx:=CX Kg []
def afj(a b:BCU)(_k:KT):Option (List RV):=match !(a.1==b.1)with|true=>some [RV.d .bool false]|false=>(match a.1 with|true=>(match decide (dg a.2.2.1∧dg b.2.2.1)with|true=>some [RV.d .bool (Ud (dec a.2.2.1) (dec b.2.2.1))]|false=>none)|false=>(match decide (du a.2.1∧du b.2.1)with|true=>some [RV.d .bool (Sd (dec a.2.1) (dec b.2.1))]|false=>none))
theorem anI(a b:BCU):RS ans 93 [.d tCU a,.d tCU b] (afj a b):=rsX
theorem acl(a b:BCU)(h:vw a b):Con Tryz.prog 93 [.d tCU a,.d tCU b] [.d .bool (lG (dC a) (dC b))]:=by
 refine aP wG (anI _ _ ⟨0,?_⟩)
 obtain⟨⟨a1,a2⟩,b1,b2⟩:=h
 unfold afj lG
 obtain⟨aa,al,ac,aw,af,at_⟩:=a
 obtain⟨ba,bl,bc,bw,bf,bt⟩:=b
 cases aa<;>cases ba
 ·have h1:=a2 rfl
  have h2:=b2 rfl
  simp only[dT (show du al∧du bl from⟨h1,h2⟩)]
  rfl
 ·rfl
 ·rfl
 ·have h1:=a1 rfl
  have h2:=b1 rfl
  simp only[dT (show dg ac∧dg bc from⟨h1,h2⟩)]
  rfl
def IT:aN:=spN false true [tCU,tCU] (fun x=>decide (vw x.1 x.2.1)) (fun x=>[RV.d (.sl tP) ((sD (dC x.1) (dC x.2.1)).map enc),RV.d axf (OX (dC x.1) (dC x.2.1))])
theorem KL:SpK 94 IT:=spX fun x h=>PH x.1 x.2.1 (at6 h)
def Sg:aN:=spN true true [tCU,tCU] (fun x=>decide (vw x.1 x.2.1)) (fun x=>[RV.d .bool (lG (dC x.1) (dC x.2.1))])
theorem P1:SpK 93 Sg:=spX fun x h=>acl x.1 x.2.1 (at6 h)
def aeL:Env:=(94,IT)::(93,Sg)::Kg
theorem Tv:EnvAll Tryz.prog aeL:=⟨KL,P1,wG⟩
def ahO:NT:=[((27,18),{keep:=[2,3,6,7,8,9],own:=[(8,41,tP)],hl:=4}),((27,47),{keep:=[3,6,8,10,11],hl:=2})]
def qn:Ctx:=CX aeL ahO
def nj(c d:BCU)(s9:Int)(r3:List BP):Cfg:=⟨27,[.blk 0,.seq 33],[(2,.box 0 0),(3,.box 1 0),(6,SB (lG (dC c) (dC d))),(7,.d (.sl tP) ((sD (dC c) (dC d)).map enc)),(8,.own 3),(9,SI s9)],[.box 43 (Ty.split tCU c),.box 43 (Ty.split tCU d),.row 41 tP ([c.2.2.2.2.1,c.2.2.2.2.2,d.2.2.2.2.1,d.2.2.2.2.2]),.row 41 tP r3],0,[]⟩
def iG(c d:BCU)(s9:Int)(r3:List BP):Cfg:=⟨27,[.blk 0,.seq 33],[(2,.box 0 0),(3,.box 1 0),(6,SB (lG (dC c) (dC d))),(7,.own 2),(8,.own 3),(9,SI s9)],[.box 43 (Ty.split tCU c),.box 43 (Ty.split tCU d),.row 41 tP ([c.2.2.2.2.1,c.2.2.2.2.2,d.2.2.2.2.1,d.2.2.2.2.2]),.row 41 tP r3],0,[]⟩
def cS(c d:BCU)(r3:List BP)(B1:BCU)(s10:Bool)(s11:Int):Cfg:=⟨27,[.blk 2,.seq 58],[(3,.box 1 0),(6,SB (lG (dC c) (dC d))),(8,.d (.sl tP) (fX (dC c) r3)),(10,SB s10),(11,SI s11)],[.box 43 (Ty.split tCU c),.box 43 (Ty.split tCU B1)],0,[]⟩
def PF(c d:BCU)(k:KT):Option (List RV):=match decide (vw c d)with|true=>(match !(lG (dC c) (dC d))with|true=>(match decide (vw c d)with|true=>k 18 (nj c d 0 ([]))|false=>none)|false=>k 18 (iG c d 0 ([])))|false=>none
theorem ad2(c d:BCU):RS qn 27 [.d tCU c,.d tCU d] (PF c d):=rsX
def m5(c d:BCU)(s9:Int)(r3:List BP)(k:KT):Option (List RV):=match decide (s9<(((sD (dC c) (dC d)).map enc).length:Int))with|true=>(match bH ((sD (dC c) (dC d)).map enc) s9 with|some x1=>(match decide (okC 3500 c∧okP 3500 x1)with|true=>(match onR (dC c) (dec x1)with|true=>(match bH ((sD (dC c) (dC d)).map enc) s9 with|some x2=>(match decide (okC 3500 d∧okP 3500 x2)with|true=>(match onR (dC d) (dec x2)with|true=>(match bH ((sD (dC c) (dC d)).map enc) s9 with|some x3=>(match decide ((r3.length+([x3]).length)*320≤140737488355328∧r3.length+([x3]).length≤140737488355328)with|true=>k 18 (nj c d (i64.wrap (s9+1)) (r3++([x3])))|false=>none)|none=>none)|false=>k 18 (nj c d (i64.wrap (s9+1)) r3))|false=>none)|none=>none)|false=>k 18 (nj c d (i64.wrap (s9+1)) r3))|false=>none)|none=>none)|false=>(match decide (tg c r3)with|true=>(match c.1 with|true=>(match d.1 with|true=>(match !(c.2.2.2.1==d.2.2.2.1)with|true=>k 47 (cS c d r3 (hid (jj d)) false 1)|false=>(match !c.1 with|true=>(match decide (okP 4000 c.2.2.2.2.1∧okP 4000 c.2.2.2.2.2)with|true=>(match decide (okP 4000 d.2.2.2.2.1∧okP 4000 d.2.2.2.2.2)with|true=>(match(cj (dec c.2.2.2.2.1) (dec c.2.2.2.2.2)) !=(cj (dec d.2.2.2.2.1) (dec d.2.2.2.2.2))with|true=>k 47 (cS c d r3 (hid (jj d)) false 1)|false=>k 47 (cS c d r3 d false 1))|false=>none)|false=>none)|false=>k 47 (cS c d r3 d false 1)))|false=>(match !c.1 with|true=>(match decide (okP 4000 c.2.2.2.2.1∧okP 4000 c.2.2.2.2.2)with|true=>(match decide (okP 4000 d.2.2.2.2.1∧okP 4000 d.2.2.2.2.2)with|true=>(match(cj (dec c.2.2.2.2.1) (dec c.2.2.2.2.2)) !=(cj (dec d.2.2.2.2.1) (dec d.2.2.2.2.2))with|true=>k 47 (cS c d r3 (hid (jj d)) false 1)|false=>k 47 (cS c d r3 d false 1))|false=>none)|false=>none)|false=>k 47 (cS c d r3 d false 1)))|false=>(match !c.1 with|true=>(match decide (okP 4000 c.2.2.2.2.1∧okP 4000 c.2.2.2.2.2)with|true=>(match decide (okP 4000 d.2.2.2.2.1∧okP 4000 d.2.2.2.2.2)with|true=>(match(cj (dec c.2.2.2.2.1) (dec c.2.2.2.2.2)) !=(cj (dec d.2.2.2.2.1) (dec d.2.2.2.2.2))with|true=>k 47 (cS c d r3 (hid (jj d)) false 1)|false=>k 47 (cS c d r3 d false 1))|false=>none)|false=>none)|false=>k 47 (cS c d r3 d false 1)))|false=>none)
theorem sE(c d:BCU)(s9:Int)(r3:List BP):RN qn 18 (nj c d s9 r3) (m5 c d s9 r3):=rnX
def jL(c d:BCU)(s9:Int)(r3:List BP)(k:KT):Option (List RV):=match decide (s9<(([c.2.2.2.2.1,c.2.2.2.2.2,d.2.2.2.2.1,d.2.2.2.2.2]).length:Int))with|true=>(match bH ([c.2.2.2.2.1,c.2.2.2.2.2,d.2.2.2.2.1,d.2.2.2.2.2]) s9 with|some _=>(match true,([c.2.2.2.2.1,c.2.2.2.2.2,d.2.2.2.2.1,d.2.2.2.2.2])[(s9).toNat]? with|true,some x1=>(match decide (okC 3500 c∧okP 3500 x1)with|true=>(match onR (dC c) (dec x1)with|true=>(match bH ([c.2.2.2.2.1,c.2.2.2.2.2,d.2.2.2.2.1,d.2.2.2.2.2]) s9 with|some _=>(match true,([c.2.2.2.2.1,c.2.2.2.2.2,d.2.2.2.2.1,d.2.2.2.2.2])[(s9).toNat]? with|true,some x2=>(match decide (okC 3500 d∧okP 3500 x2)with|true=>(match onR (dC d) (dec x2)with|true=>(match bH ([c.2.2.2.2.1,c.2.2.2.2.2,d.2.2.2.2.1,d.2.2.2.2.2]) s9 with|some _=>(match true,([c.2.2.2.2.1,c.2.2.2.2.2,d.2.2.2.2.1,d.2.2.2.2.2])[(s9).toNat]? with|true,some x3=>(match decide ((r3.length+([x3]).length)*320≤140737488355328∧r3.length+([x3]).length≤140737488355328)with|true=>k 18 (iG c d (i64.wrap (s9+1)) (r3++([x3])))|false=>none)|_,_=>none)|none=>none)|false=>k 18 (iG c d (i64.wrap (s9+1)) r3))|false=>none)|_,_=>none)|none=>none)|false=>k 18 (iG c d (i64.wrap (s9+1)) r3))|false=>none)|_,_=>none)|none=>none)|false=>(match decide (tg c r3)with|true=>(match c.1 with|true=>(match d.1 with|true=>(match !(c.2.2.2.1==d.2.2.2.1)with|true=>k 47 (cS c d r3 (hid (jj d)) false 1)|false=>(match !c.1 with|true=>(match decide (okP 4000 c.2.2.2.2.1∧okP 4000 c.2.2.2.2.2)with|true=>(match decide (okP 4000 d.2.2.2.2.1∧okP 4000 d.2.2.2.2.2)with|true=>(match(cj (dec c.2.2.2.2.1) (dec c.2.2.2.2.2)) !=(cj (dec d.2.2.2.2.1) (dec d.2.2.2.2.2))with|true=>k 47 (cS c d r3 (hid (jj d)) false 1)|false=>k 47 (cS c d r3 d false 1))|false=>none)|false=>none)|false=>k 47 (cS c d r3 d false 1)))|false=>(match !c.1 with|true=>(match decide (okP 4000 c.2.2.2.2.1∧okP 4000 c.2.2.2.2.2)with|true=>(match decide (okP 4000 d.2.2.2.2.1∧okP 4000 d.2.2.2.2.2)with|true=>(match(cj (dec c.2.2.2.2.1) (dec c.2.2.2.2.2)) !=(cj (dec d.2.2.2.2.1) (dec d.2.2.2.2.2))with|true=>k 47 (cS c d r3 (hid (jj d)) false 1)|false=>k 47 (cS c d r3 d false 1))|false=>none)|false=>none)|false=>k 47 (cS c d r3 d false 1)))|false=>(match !c.1 with|true=>(match decide (okP 4000 c.2.2.2.2.1∧okP 4000 c.2.2.2.2.2)with|true=>(match decide (okP 4000 d.2.2.2.2.1∧okP 4000 d.2.2.2.2.2)with|true=>(match(cj (dec c.2.2.2.2.1) (dec c.2.2.2.2.2)) !=(cj (dec d.2.2.2.2.1) (dec d.2.2.2.2.2))with|true=>k 47 (cS c d r3 (hid (jj d)) false 1)|false=>k 47 (cS c d r3 d false 1))|false=>none)|false=>none)|false=>k 47 (cS c d r3 d false 1)))|false=>none)
theorem mo(c d:BCU)(s9:Int)(r3:List BP):RN qn 18 (iG c d s9 r3) (jL c d s9 r3):=rnX
def nt(c d:BCU)(r3:List BP)(B1:BCU)(s10:Bool)(s11:Int)(k:KT):Option (List RV):=match lG (dC c) (dC d)with|true=>(match decide (s11<((fX (dC c) r3).length:Int))with|true=>(match s10 with|true=>k 47 (cS c d r3 B1 true (i64.wrap (s11+1)))|false=>(match bH (fX (dC c) r3) (i64.wrap (s11-1))with|some x1=>(match bH (fX (dC c) r3) s11 with|some x2=>(match decide (okC 4000 B1∧okP 4000 x1∧okP 4000 x2)with|true=>k 47 (cS c d r3 B1 (decide ((dR (dC B1) (dec x1) (dec x2))<0)) (i64.wrap (s11+1)))|false=>none)|none=>none)|none=>none))|false=>some [RV.d (.sl tP) (fX (dC c) r3),RV.d .bool s10])|false=>some [RV.d (.sl tP) (fX (dC c) r3),RV.d .bool s10]
theorem sO(c d:BCU)(r3:List BP)(B1:BCU)(s10:Bool)(s11:Int):RN qn 47 (cS c d r3 B1 s10 s11) (nt c d r3 B1 s10 s11):=rnX
theorem Vl{c:Cv}{S:List BP}{i:Nat}(h1:1≤i)(hi:i<S.length):BK c (S.drop (i-1))=(decide (dR c (dec S[i-1]) (dec S[i])<0)||BK c (S.drop i)):=by
 have hd:S.drop (i-1)=S[i-1]::S.drop i:=by
  have:=auv (l:=S) (i:=i-1) (by omega)
  rw[this,show i-1+1=i by omega]
 have hd2:S.drop i=S[i]::S.drop (i+1):=auv hi
 rw[hd,hd2]
 rfl
theorem aas{c:Cv}{S:List BP}(h:S.length≤1):BK c S=false:=by
 match S,h with
 |[],_=>rfl
 |[_],_=>rfl
theorem ajX(c d:BCU)(r3 S:List BP)(hS:fX (dC c) r3=S)(hl:S.length≤1000000)(ho:∀x∈S,okP 4000 x)(B:BCU)(hB:okC 4000 B):∀(j i:Nat),1≤i→i+j=max S.length 1→∀s:Bool,
  qn.Runs 47 (cS c d r3 B s (i:Int)) [.d (.sl tP) S,.d .bool (bif lG (dC c) (dC d)then s||BK (dC B) (S.drop (i-1))else s)]:=by
 intro j
 induction j with
 |zero=>
  intro i h1 hi s
  refine sO _ _ _ _ _ _ ⟨0,?_⟩
  unfold nt
  rw[hS,cN (by omega),aas (by rw[awk];omega),Bool.or_false]
  cases lG (dC c) (dC d)<;>rfl
 |succ j ih=>
  intro i h1 hi s
  have hil:i<S.length:=by omega
  have e1:i64.wrap ((i:Int)-1)=((i-1:Nat):Int):=by rw[bj (by omega) (by omega)];omega
  have e2:i64.wrap ((i:Int)+1)=((i+1:Nat):Int):=cO (by omega)
  have g1:bH S ((i-1:Nat):Int)=some S[i-1]:=by rw[aM,at8 (by omega)]
  have g2:bH S (i:Int)=some S[i]:=by rw[aM,at8 hil]
  cases hs:lG (dC c) (dC d)
  ·refine sO _ _ _ _ _ _ ⟨0,?_⟩
   unfold nt
   rw[hS,hs]
   rfl
  ·obtain⟨n,hn⟩:=ih (i+1) (by omega) (by omega) (s||decide (dR (dC B) (dec S[i-1]) (dec S[i])<0))
   refine sO _ _ _ _ _ _ ⟨n,?_⟩
   unfold nt
   rw[hS,hs,cg hil,e1,e2,g1,g2]
   dsimp only
   rw[dT (show okC 4000 B∧okP 4000 S[i-1]∧okP 4000 S[i] from⟨hB,ho _ (au7 _),ho _ (au7 _)⟩)]
   rw[hs,Nat.add_sub_cancel,Bool.or_assoc,←Vl h1 hil]at hn
   cases s
   ·exact hn
   ·simp only[Bool.true_or,cond_true]at hn ⊢
    exact hn
theorem JT{c:Cv}{l:List BP}{p:BP→Prop}(h:∀x∈l,p x):∀x∈fX c l,p x:=fun x hx=>by
 rcases BL hx with h'|h'
 ·cases h'
 ·exact h x h'
theorem JK(c d:BCU)(h:te c d)(r3:List BP)(hl:r3.length≤100)(ho:∀x∈r3,okP 500 x):∃n,(match decide (tg c r3)with
  |true=>qn.k n 47 (cS c d r3 (xE c d) false 1)
  |false=>none)=some [.d (.sl tP) (fX (dC c) r3),.d .bool (lG (dC c) (dC d)&&BK (dC (xE c d)) (fX (dC c) r3))]:=by
 have hs:tg c r3:=⟨dt h.1.1 (by decide) (by decide),by omega,fun x hx=>cJ (ho x hx) (by decide) (by decide)⟩
 have hR:okC 4000 (xE c d):=by
  unfold xE
  have:=dt (k:=4000) h.2.1 (by decide) (by decide)
  cases ZV c d
  ·exact this
  ·exact MV 4000 this
 have hlen:=uk (dC c) r3 []
 obtain⟨n,hn⟩:=ajX c d r3 _ rfl (by simp at hlen;unfold fX;omega) (JT (fun x hx=>cJ (ho x hx) (by decide) (by decide))) (xE c d) hR (max (fX (dC c) r3).length 1-1) 1 (auj _) (by omega) false
 refine⟨n,?_⟩
 rw[dT hs]
 refine hn.trans ?_
 cases lG (dC c) (dC d)<;>rfl
theorem Cf{l c:Ln}[BdL l][BdC c](hl:l.1≠0∨l.2.1≠0):(pI l c).length≤2∧∀p∈pI l c,Bd p 490∧Rpd p:=by
 unfold pI
 by_cases h0:ll l c<0
 ·rw[at7 h0]
  exact⟨by simp,fun p hp=>by cases hp⟩
 ·rw[at9 h0]
  by_cases h1:ll l c=0
  ·rw[at7 h1]
   obtain⟨f1,f2,_,_⟩:=Ga (l:=l) (c:=c)
   refine⟨by simp,fun p hp=>?_⟩
   have:p=atP (ftX l c,ftY l c):=by simpa using hp
   rw[this]
   exact⟨(inferInstance:Bd (atP (ftX l c,ftY l c)) _).mono (by decide),inferInstance⟩
  ·rw[at9 h1]
   obtain⟨p1,p2⟩:=Oj (c:=c) hl (show 0≤ll l c by grind)
   obtain⟨q1,q2⟩:=VZ (l:=l) (c:=c)
   cases decide (cj (xm l c) (xy l c)>0)
   ·refine⟨by simp,fun p hp=>?_⟩
    have:p=xm l c∨p=xy l c:=by simpa using hp
    rcases this with e|e<;>rw[e]
    ·exact⟨q1,p1⟩
    ·exact⟨q2,p2⟩
   ·refine⟨by simp,fun p hp=>?_⟩
    have:p=xy l c∨p=xm l c:=by simpa using hp
    rcases this with e|e<;>rw[e]
    ·exact⟨q2,p2⟩
    ·exact⟨q1,p1⟩
theorem aar{l m:Ln}[BdL l][BdL m]:(Ah l m).length≤2∧∀p∈Ah l m,Bd p 490∧Rpd p:=by
 unfold Ah
 cases decide (oa l m=0)
 ·have bc:Bd (oa l m) 49:=inferInstanceAs (Bd (l.1*m.2.1-m.1*l.2.1) _)
  have bx:Bd (HA l m) 151:=inferInstanceAs (Bd (l.2.2*m.2.1-m.2.2*l.2.1) _)
  have b_:Bd (F3 l m) 151:=inferInstanceAs (Bd (l.1*m.2.2-m.1*l.2.2) _)
  refine⟨by simp,fun p hp=>?_⟩
  have:p=atP (HA l m/oa l m,F3 l m/oa l m):=by simpa using hp
  rw[this]
  exact⟨(inferInstance:Bd (atP (HA l m/oa l m,F3 l m/oa l m)) _).mono (by decide),inferInstance⟩
 ·exact⟨by simp,fun p hp=>by cases hp⟩
theorem YS{c d:BCU}(h:vw c d):(sD (dC c) (dC d)).length≤2∧∀p∈sD (dC c) (dC d),Bd p 490∧Rpd p:=by
 obtain⟨⟨a1,a2⟩,b1,b2⟩:=h
 obtain⟨aa,al,ac,aw,af,at_⟩:=c
 obtain⟨ba,bl,bc,bw,bf,bt⟩:=d
 have ex1:∀x:BO3,du x→BdL (dec x)∧((dec x:Ln).1≠0∨(dec x:Ln).2.1≠0):=fun x h=>by
  obtain⟨l,rfl,bl,nl⟩:=fG h
  rw[am]
  exact⟨bl,nl⟩
 have ex2:∀x:BO3,dg x→BdC (dec x):=fun x h=>by
  obtain⟨l,rfl,bl,nl⟩:=fp h
  rw[am]
  exact bl
 unfold sD
 cases aa<;>cases ba
 ·obtain⟨i1,_⟩:=ex1 _ (a2 rfl)
  obtain⟨i2,_⟩:=ex1 _ (b2 rfl)
  exact aar (l:=dec al) (m:=dec bl)
 ·obtain⟨i1,n1⟩:=ex1 _ (a2 rfl)
  have i2:=ex2 _ (b1 rfl)
  exact Cf (l:=dec al) (c:=dec bc) n1
 ·have i1:=ex2 _ (a1 rfl)
  obtain⟨i2,n2⟩:=ex1 _ (b2 rfl)
  exact Cf (l:=dec bl) (c:=dec ac) n2
 ·have i1:=ex2 _ (a1 rfl)
  have i2:=ex2 _ (b1 rfl)
  show(AY (dec ac) (dec bc)).length≤2∧∀p∈AY (dec ac) (dec bc),Bd p 490∧Rpd p
  unfold AY
  cases hc:oH (dec ac) (dec bc)
  ·have i3:BdL (xD (dec ac) (dec bc)):=Sm
   exact Cf (TC hc)
  ·exact⟨by simp,fun p hp=>by cases hp⟩
theorem JE{c d:BCU}(h:te c d):(CI c d).length≤4∧∀x∈CI c d,okP 500 x:=by
 obtain⟨⟨h1,h2⟩,h3,h4⟩:=h
 unfold CI
 cases lG (dC c) (dC d)
 ·obtain⟨g1,g2⟩:=YS (show vw c d from⟨h2,h4⟩)
  refine⟨by simp only[Bool.not_false,cond_true,av0];omega,fun x hx=>?_⟩
  obtain⟨p,hp,rfl⟩:=awR.1 hx
  obtain⟨b,r⟩:=g2 p hp
  exact at6 (aZ (j:=490) (by decide) (by decide))
 ·refine⟨by simp,fun x hx=>?_⟩
  have:x=c.2.2.2.2.1∨x=c.2.2.2.2.2∨x=d.2.2.2.2.1∨x=d.2.2.2.2.2:=by simpa using hx
  rcases this with e|e|e|e<;>rw[e]
  ·exact h1.2.2.1
  ·exact h1.2.2.2
  ·exact h3.2.2.1
  ·exact h3.2.2.2
def kf(c d:BCU)(p:BP):Bool:=onR (dC c) (dec p)&&onR (dC d) (dec p)
theorem GL(c d:BCU)(h:te c d)(L:List BP)(hL:(sD (dC c) (dC d)).map enc=L)(h4:L.length≤4)(ho:∀x∈L,okP 500 x):∀(j i:Nat),i+j=L.length→∀r3:List BP,r3.length≤i→(∀x∈r3,okP 500 x)→
  qn.Runs 18 (nj c d (i:Int) r3) [.d (.sl tP) (fX (dC c) (r3++(L.drop i).filter (kf c d))),.d .bool (lG (dC c) (dC d)&&BK (dC (xE c d)) (fX (dC c) (r3++(L.drop i).filter (kf c d))))]:=by
 intro j
 induction j with
 |zero=>
  intro i hi r3 hr h3
  obtain⟨n,hn⟩:=JK c d h r3 (by omega) h3
  refine sE _ _ _ _ ⟨n,?_⟩
  have hd:L.drop i=[]:=awH.2 (by omega)
  rw[hd,List.filter_nil,auZ,←hn]
  unfold m5
  rw[hL,cN (by omega)]
  have hs:tg c r3:=⟨dt h.1.1 (by decide) (by decide),by omega,fun x hx=>cJ (h3 x hx) (by decide) (by decide)⟩
  have o1:decide (okP 4000 c.2.2.2.2.1∧okP 4000 c.2.2.2.2.2)=true:=at7 ⟨cJ h.1.1.2.2.1 (by decide) (by decide),cJ h.1.1.2.2.2 (by decide) (by decide)⟩
  have o2:decide (okP 4000 d.2.2.2.2.1∧okP 4000 d.2.2.2.2.2)=true:=at7 ⟨cJ h.2.1.2.2.1 (by decide) (by decide),cJ h.2.1.2.2.2 (by decide) (by decide)⟩
  rw[dT hs,o1,o2]
  dsimp only
  unfold xE ZV bne
  simp only[aj]
  cases c.1<;>cases d.1<;>cases(c.2.2.2.1==d.2.2.2.1)<;>cases(cj (dec c.2.2.2.2.1) (dec c.2.2.2.2.2)==cj (dec d.2.2.2.2.1) (dec d.2.2.2.2.2))<;>rfl
 |succ j ih=>
  intro i hi r3 hr h3
  have hil:i<L.length:=by omega
  have e2:i64.wrap ((i:Int)+1)=((i+1:Nat):Int):=cO (by omega)
  have g2:bH L (i:Int)=some L[i]:=by rw[aM,at8 hil]
  have g3:L[((i:Int)).toNat]?=some L[i]:=by rw[show((i:Int)).toNat=i by omega,at8 hil]
  have hx:=ho _ (au7 hil)
  have hd:L.drop i=L[i]::L.drop (i+1):=auv hil
  have ox:=cJ (k:=3500) hx (by decide) (by decide)
  have o1:decide (okC 3500 c∧okP 3500 L[i])=true:=at7 ⟨dt h.1.1 (by decide) (by decide),ox⟩
  have o2:decide (okC 3500 d∧okP 3500 L[i])=true:=at7 ⟨dt h.2.1 (by decide) (by decide),ox⟩
  have hf:(L.drop i).filter (kf c d)=bif kf c d L[i]then L[i]::(L.drop (i+1)).filter (kf c d)else(L.drop (i+1)).filter (kf c d):=by
   rw[hd,List.filter_cons]
   cases kf c d L[i]<;>rfl
  cases hb:kf c d L[i]
  ·rw[hb]at hf
   obtain⟨n,hn⟩:=ih (i+1) (by omega) r3 (by omega) h3
   refine sE _ _ _ _ ⟨n,?_⟩
   rw[hf]
   dsimp only[cond_false]
   rw[←hn]
   unfold kf at hb
   unfold m5
   rw[hL,cg hil,g2,e2]
   dsimp only
   try rw[g3]
   try dsimp only
   rw[o1,o2]
   dsimp only
   cases h1:onR (dC c) (dec L[i])
   ·rfl
   ·rw[h1,auc]at hb
    rw[hb]
  ·rw[hb]at hf
   obtain⟨n,hn⟩:=ih (i+1) (by omega) (r3++[L[i]]) (by simp;omega) (fun x hx'=>by
    rcases auN.1 hx' with h'|h'
    ·exact h3 x h'
    ·have:x=L[i]:=by simpa using h'
     rw[this];exact hx)
   refine sE _ _ _ _ ⟨n,?_⟩
   rw[hf]
   dsimp only[cond_true]
   rw[avw]at hn
   refine Eq.trans ?_ hn
   unfold kf at hb
   obtain⟨h1,h2⟩:=avg.1 hb
   unfold m5
   rw[hL,cg hil,g2,e2]
   dsimp only
   try rw[g3]
   try dsimp only
   rw[o1,o2,h1,h2]
   dsimp only
   rw[dT (by simp;omega)]
theorem zN(c d:BCU)(h:te c d)(L:List BP)(hL:[c.2.2.2.2.1,c.2.2.2.2.2,d.2.2.2.2.1,d.2.2.2.2.2]=L)(h4:L.length≤4)(ho:∀x∈L,okP 500 x):∀(j i:Nat),i+j=L.length→∀r3:List BP,r3.length≤i→(∀x∈r3,okP 500 x)→
  qn.Runs 18 (iG c d (i:Int) r3) [.d (.sl tP) (fX (dC c) (r3++(L.drop i).filter (kf c d))),.d .bool (lG (dC c) (dC d)&&BK (dC (xE c d)) (fX (dC c) (r3++(L.drop i).filter (kf c d))))]:=by
 intro j
 induction j with
 |zero=>
  intro i hi r3 hr h3
  obtain⟨n,hn⟩:=JK c d h r3 (by omega) h3
  refine mo _ _ _ _ ⟨n,?_⟩
  have hd:L.drop i=[]:=awH.2 (by omega)
  rw[hd,List.filter_nil,auZ,←hn]
  unfold jL
  rw[hL,cN (by omega)]
  have hs:tg c r3:=⟨dt h.1.1 (by decide) (by decide),by omega,fun x hx=>cJ (h3 x hx) (by decide) (by decide)⟩
  have o1:decide (okP 4000 c.2.2.2.2.1∧okP 4000 c.2.2.2.2.2)=true:=at7 ⟨cJ h.1.1.2.2.1 (by decide) (by decide),cJ h.1.1.2.2.2 (by decide) (by decide)⟩
  have o2:decide (okP 4000 d.2.2.2.2.1∧okP 4000 d.2.2.2.2.2)=true:=at7 ⟨cJ h.2.1.2.2.1 (by decide) (by decide),cJ h.2.1.2.2.2 (by decide) (by decide)⟩
  rw[dT hs,o1,o2]
  dsimp only
  unfold xE ZV bne
  simp only[aj]
  cases c.1<;>cases d.1<;>cases(c.2.2.2.1==d.2.2.2.1)<;>cases(cj (dec c.2.2.2.2.1) (dec c.2.2.2.2.2)==cj (dec d.2.2.2.2.1) (dec d.2.2.2.2.2))<;>rfl
 |succ j ih=>
  intro i hi r3 hr h3
  have hil:i<L.length:=by omega
  have e2:i64.wrap ((i:Int)+1)=((i+1:Nat):Int):=cO (by omega)
  have g2:bH L (i:Int)=some L[i]:=by rw[aM,at8 hil]
  have g3:L[((i:Int)).toNat]?=some L[i]:=by rw[show((i:Int)).toNat=i by omega,at8 hil]
  have hx:=ho _ (au7 hil)
  have hd:L.drop i=L[i]::L.drop (i+1):=auv hil
  have ox:=cJ (k:=3500) hx (by decide) (by decide)
  have o1:decide (okC 3500 c∧okP 3500 L[i])=true:=at7 ⟨dt h.1.1 (by decide) (by decide),ox⟩
  have o2:decide (okC 3500 d∧okP 3500 L[i])=true:=at7 ⟨dt h.2.1 (by decide) (by decide),ox⟩
  have hf:(L.drop i).filter (kf c d)=bif kf c d L[i]then L[i]::(L.drop (i+1)).filter (kf c d)else(L.drop (i+1)).filter (kf c d):=by
   rw[hd,List.filter_cons]
   cases kf c d L[i]<;>rfl
  cases hb:kf c d L[i]
  ·rw[hb]at hf
   obtain⟨n,hn⟩:=ih (i+1) (by omega) r3 (by omega) h3
   refine mo _ _ _ _ ⟨n,?_⟩
   rw[hf]
   dsimp only[cond_false]
   rw[←hn]
   unfold kf at hb
   unfold jL
   rw[hL,cg hil,g2,e2]
   dsimp only
   try rw[g3]
   try dsimp only
   rw[o1,o2]
   dsimp only
   cases h1:onR (dC c) (dec L[i])
   ·rfl
   ·rw[h1,auc]at hb
    rw[hb]
  ·rw[hb]at hf
   obtain⟨n,hn⟩:=ih (i+1) (by omega) (r3++[L[i]]) (by simp;omega) (fun x hx'=>by
    rcases auN.1 hx' with h'|h'
    ·exact h3 x h'
    ·have:x=L[i]:=by simpa using h'
     rw[this];exact hx)
   refine mo _ _ _ _ ⟨n,?_⟩
   rw[hf]
   dsimp only[cond_true]
   rw[avw]at hn
   refine Eq.trans ?_ hn
   unfold kf at hb
   obtain⟨h1,h2⟩:=avg.1 hb
   unfold jL
   rw[hL,cg hil,g2,e2]
   dsimp only
   try rw[g3]
   try dsimp only
   rw[o1,o2,h1,h2]
   dsimp only
   rw[dT (by simp;omega)]
theorem abo(c d:BCU)(h:te c d):Con Tryz.prog 27 [.d tCU c,.d tCU d] [.d (.sl tP) (oY c d),.d .bool (agC c d)]:=by
 obtain⟨h4,ho⟩:=JE h
 have hsp:vw c d:=⟨h.1.2,h.2.2⟩
 refine aP Tv (show qn.Res _ _ _ from ?_)
 unfold CI at h4 ho
 unfold oY agC oY aig CI
 cases hs:lG (dC c) (dC d)
 ·rw[hs]at h4 ho
  obtain⟨n,hn⟩:=GL c d h _ rfl h4 ho _ 0 (auP _) [] (auj _) (fun x hx=>by cases hx)
  refine ad2 _ _ ⟨n,?_⟩
  unfold PF
  rw[dT hsp,hs]
  rw[hs]at hn
  exact hn
 ·rw[hs]at h4 ho
  obtain⟨n,hn⟩:=zN c d h _ rfl h4 ho _ 0 (auP _) [] (auj _) (fun x hx=>by cases hx)
  refine ad2 _ _ ⟨n,?_⟩
  unfold PF
  rw[dT hsp,hs]
  rw[hs]at hn
  exact hn
def XM:aN:=spN false true [tCU,tCU] (fun x=>decide (te x.1 x.2.1)) (fun x=>[RV.d (.sl tP) (oY x.1 x.2.1),RV.d .bool (agC x.1 x.2.1)])
theorem Ww:SpK 27 XM:=spX fun x h=>abo x.1 x.2.1 (at6 h)
def i8P(n:Int):Prop:= -128≤n∧n≤127
instance (n:Int):Decidable (i8P n):=by unfold i8P;infer_instance
def u8P(n:Int):Prop:=0≤n∧n≤255
instance (n:Int):Decidable (u8P n):=by unfold u8P;infer_instance
def atQ(n u:Int):Rat:=Rat.divInt n (u%4+1)
def GF(c:BO3):List BCU:=[(true,o00,c,false,enc (n7 (dec c)),enc (n4 (dec c))),(true,o00,c,false,enc (n4 (dec c)),enc (n7 (dec c)))]
abbrev tDr:Ty:=.st (.pair (.int .u8) (.pair (.int .u8) (.pair (.int .i8) (.pair (.int .i8) (.pair (.int .i8) (.pair (.int .i8) (.pair (.int .i8) (.int .i8))))))))
abbrev ti:Ty:=.st (.pair tDr (.pair tDr (.int .u8)))
abbrev Dr:=Int×Int×Int×Int×Int×Int×Int×Int
abbrev Pce:=Dr×Dr×Int
def xn(x:Dr):Prop:=u8P x.1∧u8P x.2.1∧i8P x.2.2.1∧i8P x.2.2.2.1∧i8P x.2.2.2.2.1∧i8P x.2.2.2.2.2.1∧i8P x.2.2.2.2.2.2.1∧i8P x.2.2.2.2.2.2.2
instance (x:Dr):Decidable (xn x):=by unfold xn;infer_instance
def drA(x:Dr):Rat×Rat:=(atQ x.2.2.1 x.2.1,atQ x.2.2.2.1 x.2.1)
def drB(x:Dr):Rat×Rat:=(atQ x.2.2.2.2.1 x.2.1,atQ x.2.2.2.2.2.1 x.2.1)
def drC(x:Dr):Rat×Rat:=(atQ x.2.2.2.2.2.2.1 x.2.1,atQ x.2.2.2.2.2.2.2 x.2.1)
def drQ(x:Dr):Ln:=((drA x).1,(drA x).2,(drB x).1)
def ofL(x:Dr):List BCU:=
 bif x.1%3==2 then(bif decide ((drB x).1≤0)then []else GF (enc (drQ x)))
 else bif x.1%3==1 then(bif n9 (drA x) (drB x) (drC x) !=0 then []else [ve (drA x) (drB x) (drC x)])
 else bif oB (drA x) (drB x) !=0 then []else [vF (drA x) (drB x)]
theorem JG{u k:Int}(h:u8P u):Int.tmod u k=u%k:=Int.tmod_eq_emod_of_nonneg h.1
theorem u7{n u:Int}(h:i8P n)(_h':u8P u):Bb (atQ n u) 7 2:=by
 unfold atQ
 obtain⟨h1,h2⟩:=h
 exact acS (by omega) (by show n.natAbs≤128;omega) (by show(u%4+1).natAbs≤4;omega)
theorem Con.dd{P:Program}{f:Nat}{args:List SV}{et:TypeId}{e:Ty}{xs:List e.D}{r:RV}(h:Con P f args [r])(hr:r=.new et e xs∨r=.d (.sl e) xs):Con P f args [.d (.sl e) xs]:=by
 rcases hr with rfl|rfl
 ·exact Con.new_d h
 ·exact h
def H7:Env:=[(52,tB),(175,Hk),(78,fu),(46,Bm),(48,zF)]
theorem vj:EnvAll Tryz.prog H7:=⟨rS,EE,dW,yz,xI,trivial⟩
def aq7:Ctx:=CX H7 []
def adM(n u:Int)(_k:KT):Option (List RV):=match decide (rC (i64.wrap n) (i64.wrap ((i64.wrap (Int.tmod u 4))+1)))with|true=>some [RV.d tR (hid (ag (Rat.divInt (i64.wrap n) (i64.wrap ((i64.wrap (Int.tmod u 4))+1)))))]|false=>none
theorem alB(n u:Int):RS aq7 91 [.d (.int .i8) n,.d (.int .u8) u] (adM n u):=rsX
theorem Z8(n u:Int)(h:i8P n∧u8P u):Con Tryz.prog 91 [.d (.int .i8) n,.d (.int .u8) u] [.d tR (ag (atQ n u))]:=by
 refine aP vj (alB _ _ ⟨0,?_⟩)
 obtain⟨hn,hu⟩:=h
 have e0:=JG (k:=4) hu
 obtain⟨n1,n2⟩:=hn
 unfold adM
 rw[e0,bj (x:=n) (by omega) (by omega),bj (x:=u%4) (by omega) (by omega),bj (x:=u%4+1) (by omega) (by omega),dT (show rC n (u%4+1) from⟨⟨by omega,by omega⟩,⟨by omega,by omega⟩,by omega⟩)]
 simp only[aj]
 rfl
def arZ:Ctx:=CX H7 []
def afg(c:BO3)(_k:KT):Option (List RV):=match decide (dg c)with|true=>some [RV.new 43 tCU ([(true,((((false,[]),(false,[])),(((false,[]),(false,[])),((false,[]),(false,[])))),(c,(false,(hid (enc (n7 (dec c))),hid (enc (n4 (dec c)))))))),(true,((((false,[]),(false,[])),(((false,[]),(false,[])),((false,[]),(false,[])))),(c,(false,(hid (enc (n4 (dec c))),hid (enc (n7 (dec c))))))))])]|false=>none
theorem asf(c:BO3):RS arZ 92 [.d tO c] (afg c):=rsX
theorem Yu(c:BO3)(h:dg c):Con Tryz.prog 92 [.d tO c] [.d (.sl tCU) (GF c)]:=by
 refine Con.new_d (et:=43) (aP vj (asf _ ⟨0,?_⟩))
 unfold afg
 rw[dT h]
 simp only[aj]
 rfl
def TH:aN:=spN false true [(.int .i8),(.int .u8)] (fun x=>decide (i8P x.1∧u8P x.2.1)) (fun x=>[RV.d tR (hid (ag (atQ x.1 x.2.1)))])
theorem RP:SpK 91 TH:=spX fun x h=>by simp only[aj];exact Z8 x.1 x.2.1 (at6 h)
def Xd:aN:=spN false true [tO] (fun x=>decide (dg x.1)) (fun x=>[RV.d (.sl tCU) (GF x.1)])
theorem Rh:SpK 92 Xd:=spX fun x h=>Yu x.1 (at6 h)
def ac5:Env:=(91,TH)::(92,Xd)::H7
theorem Og:EnvAll Tryz.prog ac5:=⟨RP,Rh,vj⟩
def agn:Ctx:=CX ac5 []
def Tw(x:Dr)(_k:KT):Option (List RV):=match decide (i8P x.2.2.1∧u8P x.2.1)with|true=>(match decide (i8P x.2.2.2.1∧u8P x.2.1)with|true=>(match decide (i8P x.2.2.2.2.1∧u8P x.2.1)with|true=>(match decide (i8P x.2.2.2.2.2.1∧u8P x.2.1)with|true=>(match(Int.tmod x.1 3)==2 with|true=>(match decide (i8P x.2.2.2.2.1∧u8P x.2.1)with|true=>(match decide (okR (hid (ag (atQ x.2.2.2.2.1 x.2.1))))with|true=>(match decide ((aU (ae (hid (ag (atQ x.2.2.2.2.1 x.2.1)))) 0)≤0)with|true=>some [RV.new 43 tCU []]|false=>(match decide (dg (hid (ag (atQ x.2.2.1 x.2.1)),(hid (ag (atQ x.2.2.2.1 x.2.1)),hid (ag (atQ x.2.2.2.2.1 x.2.1)))))with|true=>some [RV.d (.sl tCU) (GF (hid (ag (atQ x.2.2.1 x.2.1)),(hid (ag (atQ x.2.2.2.1 x.2.1)),hid (ag (atQ x.2.2.2.2.1 x.2.1)))))]|false=>none))|false=>none)|false=>none)|false=>(match decide (ok (Rat×Rat) 100 (hid (ag (atQ x.2.2.1 x.2.1)),hid (ag (atQ x.2.2.2.1 x.2.1)))∧ok (Rat×Rat) 100 (hid (ag (atQ x.2.2.2.2.1 x.2.1)),hid (ag (atQ x.2.2.2.2.2.1 x.2.1))))with|true=>(match(Int.tmod x.1 3)==1 with|true=>(match decide (i8P x.2.2.2.2.2.2.1∧u8P x.2.1)with|true=>(match decide (i8P x.2.2.2.2.2.2.2∧u8P x.2.1)with|true=>(match decide (ok (Rat×Rat) 100 (hid (ag (atQ x.2.2.1 x.2.1)),hid (ag (atQ x.2.2.2.1 x.2.1)))∧ok (Rat×Rat) 100 (hid (ag (atQ x.2.2.2.2.1 x.2.1)),hid (ag (atQ x.2.2.2.2.2.1 x.2.1)))∧ok (Rat×Rat) 100 (hid (ag (atQ x.2.2.2.2.2.2.1 x.2.1)),hid (ag (atQ x.2.2.2.2.2.2.2 x.2.1))))with|true=>(match(n9 (dec (hid (ag (atQ x.2.2.1 x.2.1)),hid (ag (atQ x.2.2.2.1 x.2.1)))) (dec (hid (ag (atQ x.2.2.2.2.1 x.2.1)),hid (ag (atQ x.2.2.2.2.2.1 x.2.1)))) (dec (hid (ag (atQ x.2.2.2.2.2.2.1 x.2.1)),hid (ag (atQ x.2.2.2.2.2.2.2 x.2.1))))) !=0 with|true=>some [RV.new 43 tCU []]|false=>some [RV.new 43 tCU ([hid (ve (dec (hid (ag (atQ x.2.2.1 x.2.1)),hid (ag (atQ x.2.2.2.1 x.2.1)))) (dec (hid (ag (atQ x.2.2.2.2.1 x.2.1)),hid (ag (atQ x.2.2.2.2.2.1 x.2.1)))) (dec (hid (ag (atQ x.2.2.2.2.2.2.1 x.2.1)),hid (ag (atQ x.2.2.2.2.2.2.2 x.2.1)))))])])|false=>none)|false=>none)|false=>none)|false=>(match(oB (dec (hid (ag (atQ x.2.2.1 x.2.1)),hid (ag (atQ x.2.2.2.1 x.2.1)))) (dec (hid (ag (atQ x.2.2.2.2.1 x.2.1)),hid (ag (atQ x.2.2.2.2.2.1 x.2.1))))) !=0 with|true=>some [RV.new 43 tCU []]|false=>some [RV.new 43 tCU ([hid (vF (dec (hid (ag (atQ x.2.2.1 x.2.1)),hid (ag (atQ x.2.2.2.1 x.2.1)))) (dec (hid (ag (atQ x.2.2.2.2.1 x.2.1)),hid (ag (atQ x.2.2.2.2.2.1 x.2.1)))))])]))|false=>none))|false=>none)|false=>none)|false=>none)|false=>none
theorem arV(x:Dr):RS agn 26 [.d tDr x] (Tw x):=rsX
theorem Zl(x:Dr)(h:xn x):Con Tryz.prog 26 [.d tDr x] [.d (.sl tCU) (ofL x)]:=by
 obtain⟨h1,h2,hA,hB,hC,hD,hE,hF⟩:=h
 have at_bd:∀n,i8P n→Bd (atQ n x.2.1) 1:=fun n hn=>CU (h:=u7 hn h2) (by decide) (by decide)
 have bA:=at_bd _ hA
 have bB:=at_bd _ hB
 have bC:=at_bd _ hC
 have bD:=at_bd _ hD
 have bE:=at_bd _ hE
 have bF:=at_bd _ hF
 have vA:Bd (drA x) 1:=inferInstanceAs (Bd (atQ x.2.2.1 x.2.1,atQ x.2.2.2.1 x.2.1) _)
 have vB:Bd (drB x) 1:=inferInstanceAs (Bd (atQ x.2.2.2.2.1 x.2.1,atQ x.2.2.2.2.2.1 x.2.1) _)
 have vC:Bd (drC x) 1:=inferInstanceAs (Bd (atQ x.2.2.2.2.2.2.1 x.2.1,atQ x.2.2.2.2.2.2.2 x.2.1) _)
 have eA:((ag (atQ x.2.2.1 x.2.1),ag (atQ x.2.2.2.1 x.2.1)):BV)=enc (drA x):=rfl
 have eB:((ag (atQ x.2.2.2.2.1 x.2.1),ag (atQ x.2.2.2.2.2.1 x.2.1)):BV)=enc (drB x):=rfl
 have eC:((ag (atQ x.2.2.2.2.2.2.1 x.2.1),ag (atQ x.2.2.2.2.2.2.2 x.2.1)):BV)=enc (drC x):=rfl
 have eQ:((ag (atQ x.2.2.1 x.2.1),ag (atQ x.2.2.2.1 x.2.1),ag (atQ x.2.2.2.2.1 x.2.1)):BO3)=enc (drQ x):=rfl
 have tm:=JG (k:=3) h1
 have run:∀r:RV,Tw x (agn.k 0)=some [r]→(r=.new 43 tCU (ofL x)∨r=.d (.sl tCU) (ofL x))→Con Tryz.prog 26 [.d tDr x] [.d (.sl tCU) (ofL x)]:=fun r e g=>Con.dd (aP Og (arV _ ⟨0,e⟩)) g
 unfold Tw at run
 unfold ofL at run ⊢
 simp only[aj,am,az,okd,aW,aua,aub,Nat.reduceLeDiff,tm,eQ,eA,eB,eC,dT (show i8P _∧u8P _ from⟨hA,h2⟩),dT (show i8P _∧u8P _ from⟨hB,h2⟩),dT (show i8P _∧u8P _ from⟨hC,h2⟩),dT (show i8P _∧u8P _ from⟨hD,h2⟩),dT (show i8P _∧u8P _ from⟨hE,h2⟩),dT (show i8P _∧u8P _ from⟨hF,h2⟩)]at run
 cases h3:x.1%3==2
 ·simp only[h3,cond_false]at run ⊢
  cases h4:x.1%3==1
  ·simp only[h4,cond_false]at run ⊢
   cases h5:oB (drA x) (drB x) !=0
   ·simp only[h5,cond_false]at run ⊢
    exact run _ rfl (.inl rfl)
   ·simp only[h5,cond_true]at run ⊢
    exact run _ rfl (.inl rfl)
  ·simp only[h4,cond_true]at run ⊢
   cases h5:n9 (drA x) (drB x) (drC x) !=0
   ·simp only[h5,cond_false]at run ⊢
    exact run _ rfl (.inl rfl)
   ·simp only[h5,cond_true]at run ⊢
    exact run _ rfl (.inl rfl)
 ·simp only[h3,cond_true]at run ⊢
  have e1:(drB x).1=atQ x.2.2.2.2.1 x.2.1:=rfl
  by_cases h5:(drB x).1≤0
  ·rw[at7 h5]at run ⊢
   refine run _ ?_ (.inl rfl)
   rw[vL,←e1,at7 h5]
   rfl
  ·rw[at9 h5]at run ⊢
   have ok:dg (enc (drQ x)):=mM (h:=⟨bA.mono (by decide),bB.mono (by decide),bC.mono (by decide)⟩) (show 0<(drB x).1 by grind)
   refine run _ ?_ (.inr rfl)
   rw[vL,←e1,at9 h5]
   simp only[at7 ok]
   rfl
def O3:aN:=spN false true [tDr] (fun x=>decide (xn x.1)) (fun x=>[RV.d (.sl tCU) (ofL x.1)])
theorem Sx:SpK 26 O3:=spX fun x h=>Zl x.1 (at6 h)
end Go.Proofs.YtlahabkjhgkkjaaGreat
end
