/- Common points of lines and circles: the reference's contracts. -/
import Derived.Test.YtlahabkjhgkkjaaGreatW16
import Derived.Test.YtlahabkjhgkkjaaGreatW15
noncomputable section
namespace Go.Proofs.YtlahabkjhgkkjaaGreat
open Go.RowKit Go.IntKind
section
theorem WG(a b:Rat):((ag a,ag b):BV)=enc ((a,b):Rat×Rat):=nr rfl
theorem SO{q:Rat}(h:¬q<0)(h':¬q=0):0<q:=by grind
theorem rdl{l:Ln}(h:dO l≠0)(hl:l.1≠0∨l.2.1≠0):¬(l.2.1/dO l=0∧ -l.1/dO l=0):=by
 intro ⟨h1,h2⟩
 have m:∀a:Rat,a/dO l=0→a=0:=fun a e=>by
  have:a/dO l*dO l=a:=Rat.div_mul_cancel h
  rw[e,Rat.zero_mul]at this
  exact this.symm
 have:=m _ h1
 have:=m _ h2
 rcases hl with h|h<;>grind
section
variable {l c:Ln}
theorem QG(hl:l.1≠0∨l.2.1≠0)(h0:0≤ki l c):Rpd (wm l c)∧Rpd (we l c):=by
 have hn:=R7 hl
 refine⟨yX (fun h=>rdl hn hl ⟨by grind,by grind⟩) h0,yX (rdl hn hl) h0⟩
theorem OS [BdL l][BdC c]:Bd (wm l c) 490∧Bd (we l c) 490:=by
 obtain⟨h1,h2,h3,h4⟩:=Fe (l:=l) (c:=c)
 have h5:Bd (ki l c) 257:=inferInstance
 have n1:Bd (-(l.2.1/dO l)) 61:=inferInstance
 have i1:Bd (dO l) 49:=inferInstanceAs (Bd (l.1*l.1+l.2.1*l.2.1) _)
 have n2:Bd (-l.1/dO l) 61:=(inferInstance:Bd (-l.1/dO l) _)
 have n3:Bd (-(-l.1/dO l)) 61:=inferInstance
 exact⟨Al h1 n1 h2 n3 h5 (by decide),Al h1 h3 h2 n2 h5 (by decide)⟩
end
theorem Nu{c d:Ln}[BdC c][BdC d]:BdL (wo c d):=by
 have b2:Bd (2:Rat) 3:=cP (n:=2) (by decide)
 have f1:Bd (JO c) 31:=(inferInstance:Bd (c.1*c.1+c.2.1*c.2.1-c.2.2) _).mono (by decide)
 have f2:Bd (JO d) 31:=(inferInstance:Bd (d.1*d.1+d.2.1*d.2.1-d.2.2) _).mono (by decide)
 have g1:Bd (2*(d.1-c.1)) _:=inferInstance
 have g2:Bd (2*(d.2.1-c.2.1)) _:=inferInstance
 have g3:Bd (JO d-JO c) _:=inferInstance
 exact⟨g1.mono (by decide),g2.mono (by decide),g3.mono (by decide)⟩
theorem PU{c d:Ln}(h:nP c d=false):(wo c d).1≠0∨(wo c d).2.1≠0:=by
 unfold nP at h
 unfold wo
 dsimp only
 by_cases h1:c.1=d.1
 ·rw[aqs h1,aqx]at h
  have:=arw h
  right;grind
 ·left;grind
theorem af8{c d:Ln}[BdC c][BdC d](h:nP c d=false):da (enc (wo c d)):=qK (h:=Nu) (PU h)
def pe:Env:=[(78,fo),(50,gA),(127,gW),(161,gY),(132,gn),(107,jb),(124,i7),(217,Ax),(131,r7),(20,kT),(96,mH),(141,pM)]
theorem gO:EnvAll Tryz.prog pe:=⟨dR,eP,fG,fA,eJ,fY,fZ,xz,qx,ic,jW,mt,trivial⟩
def ajL:Ctx:=CX pe []
def ab9(a b:BR)(_k:KT):Option (List RV):=match decide (okR a∧okR b)with|true=>some [RV.d tR (hid (ag (ab a+ab b)))]|false=>none
theorem ai0(a b:BR):RS ajL 277 [.d tR a,.d tR b] (ab9 a b):=rsX
theorem Ym(a b:BR)(h:okR a∧okR b):Con Tryz.prog 277 [.d tR a,.d tR b] [.d tR (ag (ab a+ab b))]:=by
 refine aN gO (ai0 _ _ ⟨0,?_⟩)
 unfold ab9
 rw[dT h]
 simp only[aj]
def aix:Ctx:=CX pe []
def aaR(a b:BR)(_k:KT):Option (List RV):=match decide (okR a∧okR b)with|true=>some [RV.d tR (hid (ag (ab a-ab b)))]|false=>none
theorem ans(a b:BR):RS aix 243 [.d tR a,.d tR b] (aaR a b):=rsX
theorem Zy(a b:BR)(h:okR a∧okR b):Con Tryz.prog 243 [.d tR a,.d tR b] [.d tR (ag (ab a-ab b))]:=by
 refine aN gO (ans _ _ ⟨0,?_⟩)
 unfold aaR
 rw[dT h]
 simp only[aj]
def ak4:Ctx:=CX pe []
def acZ(a b:BR)(_k:KT):Option (List RV):=match decide (okR a∧okR b)with|true=>some [RV.d tR (hid (ag (ab a*ab b)))]|false=>none
theorem amd(a b:BR):RS ak4 244 [.d tR a,.d tR b] (acZ a b):=rsX
theorem Y9(a b:BR)(h:okR a∧okR b):Con Tryz.prog 244 [.d tR a,.d tR b] [.d tR (ag (ab a*ab b))]:=by
 refine aN gO (amd _ _ ⟨0,?_⟩)
 unfold acZ
 rw[dT h]
 simp only[aj]
def aiI:Ctx:=CX pe []
def abG(a:BR)(_k:KT):Option (List RV):=match decide (okR a)with|true=>some [RV.d tR (hid (ag (-ab a)))]|false=>none
theorem aiW(a:BR):RS aiI 236 [.d tR a] (abG a):=rsX
theorem XM(a:BR)(h:okR a):Con Tryz.prog 236 [.d tR a] [.d tR (ag (-ab a))]:=by
 refine aN gO (aiW _ ⟨0,?_⟩)
 unfold abG
 rw[dT h]
 simp only[aj]
def amf:Ctx:=CX pe []
def adk(a b:BR)(_k:KT):Option (List RV):=match decide (eL a b)with|true=>some [RV.d tR (hid (ag (ab a/ab b)))]|false=>none
theorem anS(a b:BR):RS amf 241 [.d tR a,.d tR b] (adk a b):=rsX
theorem YY(a b:BR)(h:eL a b):Con Tryz.prog 241 [.d tR a,.d tR b] [.d tR (ag (ab a/ab b))]:=by
 refine aN gO (anS _ _ ⟨0,?_⟩)
 unfold adk
 rw[dT h]
 simp only[aj]
def afI:Ctx:=CX pe []
def RX(l m:BO3)(_k:KT):Option (List RV):=match decide (okR l.1∧okR m.2.1)with|true=>(match decide (okR l.2.1∧okR m.1)with|true=>(match decide (okR (hid (ag (ab l.1*ab m.2.1)))∧okR (hid (ag (ab l.2.1*ab m.1))))with|true=>(match(aS (ab (hid (ag (ab l.1*ab m.2.1)))) (ab (hid (ag (ab l.2.1*ab m.1)))))==0 with|true=>(match decide (okR l.1∧okR m.2.2)with|true=>(match decide (okR l.2.2∧okR m.1)with|true=>(match decide (okR (hid (ag (ab l.1*ab m.2.2)))∧okR (hid (ag (ab l.2.2*ab m.1))))with|true=>(match(aS (ab (hid (ag (ab l.1*ab m.2.2)))) (ab (hid (ag (ab l.2.2*ab m.1)))))==0 with|true=>(match decide (okR l.2.1∧okR m.2.2)with|true=>(match decide (okR l.2.2∧okR m.2.1)with|true=>(match decide (okR (hid (ag (ab l.2.1*ab m.2.2)))∧okR (hid (ag (ab l.2.2*ab m.2.1))))with|true=>some [RV.d .bool ((aS (ab (hid (ag (ab l.2.1*ab m.2.2)))) (ab (hid (ag (ab l.2.2*ab m.2.1)))))==0)]|false=>none)|false=>none)|false=>none)|false=>some [RV.d .bool false])|false=>none)|false=>none)|false=>none)|false=>some [RV.d .bool false])|false=>none)|false=>none)|false=>none
theorem ae2(l m:BO3):RS afI 177 [.d tO l,.d tO m] (RX l m):=rsX
theorem Nh(l m:BO3)(h:da l∧da m):Con Tryz.prog 177 [.d tO l,.d tO m] [.d .bool (Nv (dec l) (dec m))]:=by
 refine aN gO (ae2 _ _ ⟨0,?_⟩)
 obtain⟨hl,hm⟩:=h
 obtain⟨l,rfl,bl,nl⟩:=fu hl
 obtain⟨m,rfl,bm,nm⟩:=fu hm
 unfold RX Nv
 simp only[aj,ak,aD,aE,aA,av,aT,aqv,aqw,Nat.reduceAdd,Nat.reduceLeDiff,aH]
 cases decide (l.1*m.2.1=l.2.1*m.1)<;>cases decide (l.1*m.2.2=l.2.2*m.1)<;>rfl
def aei:Ctx:=CX pe []
def Q0(c d:BO3)(_k:KT):Option (List RV):=match decide (okR c.1∧okR d.1)with|true=>(match(aS (ab c.1) (ab d.1))==0 with|true=>(match decide (okR c.2.1∧okR d.2.1)with|true=>(match(aS (ab c.2.1) (ab d.2.1))==0 with|true=>(match decide (okR c.2.2∧okR d.2.2)with|true=>some [RV.d .bool ((aS (ab c.2.2) (ab d.2.2))==0)]|false=>none)|false=>some [RV.d .bool false])|false=>none)|false=>some [RV.d .bool false])|false=>none
theorem aex(c d:BO3):RS aei 176 [.d tO c,.d tO d] (Q0 c d):=rsX
theorem UC(c d:BO3)(h:cW c∧cW d):Con Tryz.prog 176 [.d tO c,.d tO d] [.d .bool (LF (dec c) (dec d))]:=by
 refine aN gO (aex _ _ ⟨0,?_⟩)
 obtain⟨hc,hd⟩:=h
 obtain⟨c,rfl,bc,nc⟩:=eZ hc
 obtain⟨d,rfl,bd,nd⟩:=eZ hd
 unfold Q0 LF
 simp only[ak,aD,aE,aA,av,aT,aqv,aqw,Nat.reduceLeDiff,aH]
 cases decide (c.1=d.1)<;>cases decide (c.2.1=d.2.1)<;>rfl
def Pd:aM:=spN false true [tR,tR] (fun x=>decide (okR x.1∧okR x.2.1)) (fun x=>[RV.d tR (hid (ag (ab x.1+ab x.2.1)))])
theorem RR:SpK 277 Pd:=spX fun x h=>by simp only[aj];exact Ym x.1 x.2.1 (aqr h)
def Oy:aM:=spN false true [tR,tR] (fun x=>decide (okR x.1∧okR x.2.1)) (fun x=>[RV.d tR (hid (ag (ab x.1-ab x.2.1)))])
theorem Up:SpK 243 Oy:=spX fun x h=>by simp only[aj];exact Zy x.1 x.2.1 (aqr h)
def Sy:aM:=spN false true [tR,tR] (fun x=>decide (okR x.1∧okR x.2.1)) (fun x=>[RV.d tR (hid (ag (ab x.1*ab x.2.1)))])
theorem Uk:SpK 244 Sy:=spX fun x h=>by simp only[aj];exact Y9 x.1 x.2.1 (aqr h)
def RI:aM:=spN false true [tR] (fun x=>decide (okR x.1)) (fun x=>[RV.d tR (hid (ag (-ab x.1)))])
theorem N7:SpK 236 RI:=spX fun x h=>by simp only[aj];exact XM x.1 (aqr h)
def L7:aM:=spN false true [tR,tR] (fun x=>decide (eL x.1 x.2.1)) (fun x=>[RV.d tR (hid (ag (ab x.1/ab x.2.1)))])
theorem Nx:SpK 241 L7:=spX fun x h=>by simp only[aj];exact YY x.1 x.2.1 (aqr h)
def vY:Env:=(277,Pd)::(243,Oy)::(244,Sy)::(236,RI)::(241,L7)::pe
theorem jG:EnvAll Tryz.prog vY:=⟨RR,Up,Uk,N7,Nx,gO⟩
def akA:Ctx:=CX vY []
def aal(l m:BO3)(_k:KT):Option (List RV):=match decide (okR l.1∧okR m.2.1)with|true=>(match decide (okR m.1∧okR l.2.1)with|true=>(match decide (okR (hid (ag (ab l.1*ab m.2.1)))∧okR (hid (ag (ab m.1*ab l.2.1))))with|true=>some [RV.d tR (hid (ag (ab (hid (ag (ab l.1*ab m.2.1)))-ab (hid (ag (ab m.1*ab l.2.1))))))]|false=>none)|false=>none)|false=>none
theorem akW(l m:BO3):RS akA 245 [.d tO l,.d tO m] (aal l m):=rsX
theorem Zd(l m:BO3)(h:da l∧da m):Con Tryz.prog 245 [.d tO l,.d tO m] [.d tR (ag (nj (dec l) (dec m)))]:=by
 refine aN jG (akW _ _ ⟨0,?_⟩)
 obtain⟨hl,hm⟩:=h
 obtain⟨l,rfl,bl,nl⟩:=fu hl
 obtain⟨m,rfl,bm,nm⟩:=fu hm
 unfold aal nj
 simp only[aj,ak,aD,aE,aA,av,aT,aqv,aqw,Nat.reduceAdd,Nat.reduceLeDiff]
def alv:Ctx:=CX vY []
def ab1(l:BO3)(_k:KT):Option (List RV):=match decide (okR l.1∧okR l.1)with|true=>(match decide (okR l.2.1∧okR l.2.1)with|true=>(match decide (okR (hid (ag (ab l.1*ab l.1)))∧okR (hid (ag (ab l.2.1*ab l.2.1))))with|true=>some [RV.d tR (hid (ag (ab (hid (ag (ab l.1*ab l.1)))+ab (hid (ag (ab l.2.1*ab l.2.1))))))]|false=>none)|false=>none)|false=>none
theorem akB(l:BO3):RS alv 240 [.d tO l] (ab1 l):=rsX
theorem YC(l:BO3)(h:da l):Con Tryz.prog 240 [.d tO l] [.d tR (ag (dO (dec l)))]:=by
 refine aN jG (akB _ ⟨0,?_⟩)
 have hl:=h
 obtain⟨l,rfl,bl,nl⟩:=fu hl
 unfold ab1 dO
 simp only[aj,ak,aD,aE,aA,av,aT,aqv,aqw,Nat.reduceAdd,Nat.reduceLeDiff]
def akt:Ctx:=CX vY []
def aa3(l:BO3)(x y:BR)(_k:KT):Option (List RV):=match decide (okR l.1∧okR x)with|true=>(match decide (okR l.2.1∧okR y)with|true=>(match decide (okR (hid (ag (ab l.1*ab x)))∧okR (hid (ag (ab l.2.1*ab y))))with|true=>(match decide (okR (hid (ag (ab (hid (ag (ab l.1*ab x)))+ab (hid (ag (ab l.2.1*ab y))))))∧okR l.2.2)with|true=>some [RV.d tR (hid (ag (ab (hid (ag (ab (hid (ag (ab l.1*ab x)))+ab (hid (ag (ab l.2.1*ab y))))))-ab l.2.2)))]|false=>none)|false=>none)|false=>none)|false=>none
theorem ajB(l:BO3)(x y:BR):RS akt 242 [.d tO l,.d tR x,.d tR y] (aa3 l x y):=rsX
theorem ZA(l:BO3)(x y:BR)(h:da l∧ok Rat 4 x∧ok Rat 4 y):Con Tryz.prog 242 [.d tO l,.d tR x,.d tR y] [.d tR (ag (vlL (dec l) (ab x) (ab y)))]:=by
 refine aN jG (ajB _ _ _ ⟨0,?_⟩)
 obtain⟨hl,hx,hy⟩:=h
 obtain⟨l,rfl,bl,nl⟩:=fu hl
 obtain⟨x,rfl,bx⟩:=aQ hx
 obtain⟨y,rfl,b_y⟩:=aQ hy
 unfold aa3 vlL
 simp only[aj,ak,aD,aE,aA,av,aT,aqv,aqw,Nat.reduceAdd,Nat.reduceLeDiff]
def aiV:Ctx:=CX vY []
def aa1(c d:BO3)(_k:KT):Option (List RV):=match decide (okR c.1∧okR d.1)with|true=>(match(aS (ab c.1) (ab d.1))==0 with|true=>(match decide (okR c.2.1∧okR d.2.1)with|true=>some [RV.d .bool ((aS (ab c.2.1) (ab d.2.1))==0)]|false=>none)|false=>some [RV.d .bool false])|false=>none
theorem anx(c d:BO3):RS aiV 237 [.d tO c,.d tO d] (aa1 c d):=rsX
theorem VM(c d:BO3)(h:cW c∧cW d):Con Tryz.prog 237 [.d tO c,.d tO d] [.d .bool (nP (dec c) (dec d))]:=by
 refine aN jG (anx _ _ ⟨0,?_⟩)
 obtain⟨hc,hd⟩:=h
 obtain⟨c,rfl,bc,nc⟩:=eZ hc
 obtain⟨d,rfl,bd,nd⟩:=eZ hd
 unfold aa1 nP
 simp only[ak,aD,aE,aA,av,aT,aqv,aqw,Nat.reduceLeDiff,aH]
 cases decide (c.1=d.1)<;>rfl
def am1:Ctx:=CX vY []
def aan(a b c d e:BR)(_k:KT):Option (List RV):=match decide (okR e)with|true=>(match ec (ab e)with|true=>(match decide (okR b∧okR (hid (rtB (ab e))))with|true=>(match decide (okR a∧okR (hid (ag (ab b*ab (hid (rtB (ab e)))))))with|true=>(match decide (okR d∧okR (hid (rtB (ab e))))with|true=>(match decide (okR c∧okR (hid (ag (ab d*ab (hid (rtB (ab e)))))))with|true=>(match decide (ok (Rat×Rat) 100000 (hid (ag (ab a+ab (hid (ag (ab b*ab (hid (rtB (ab e)))))))),hid (ag (ab c+ab (hid (ag (ab d*ab (hid (rtB (ab e))))))))))with|true=>some [RV.d tP (hid (enc (atP (dec (hid (ag (ab a+ab (hid (ag (ab b*ab (hid (rtB (ab e)))))))),hid (ag (ab c+ab (hid (ag (ab d*ab (hid (rtB (ab e)))))))))))))]|false=>none)|false=>none)|false=>none)|false=>none)|false=>none)|false=>some [RV.d tP (a,(b,(c,(d,e))))])|false=>none
theorem anL(a b c d e:BR):RS am1 235 [.d tR a,.d tR b,.d tR c,.d tR d,.d tR e] (aan a b c d e):=rsX
theorem YL(a b c d e:BR)(h:ok Rat 1000 a∧ok Rat 1000 b∧ok Rat 1000 c∧ok Rat 1000 d∧ok Rat 1000 e):Con Tryz.prog 235 [.d tR a,.d tR b,.d tR c,.d tR d,.d tR e] [.d tP (enc (ky (ab a) (ab b) (ab c) (ab d) (ab e)))]:=by
 refine aN jG (anL _ _ _ _ _ ⟨0,?_⟩)
 obtain⟨ha,hb,hc,hd,he⟩:=h
 obtain⟨a,rfl,ba⟩:=aQ ha
 obtain⟨b,rfl,bb⟩:=aQ hb
 obtain⟨c,rfl,bc⟩:=aQ hc
 obtain⟨d,rfl,bd⟩:=aQ hd
 obtain⟨e,rfl,be⟩:=aQ he
 unfold aan ky
 simp only[aj,aA,av,aT,aqv,aqx,Nat.reduceLeDiff]
 cases hq:ec e
 ·rfl
 ·rw[Vr hq]
  simp only[ak,av,okd,aT,mx,Nat.reduceAdd,Nat.reduceLeDiff,aqC,cond_true,WG]
  try rfl
def OL:aM:=spN false true [tO,tO] (fun x=>decide (da x.1∧da x.2.1)) (fun x=>[RV.d tR (hid (ag (nj (dec x.1) (dec x.2.1))))])
theorem Of:SpK 245 OL:=spX fun x h=>by simp only[aj];exact Zd x.1 x.2.1 (aqr h)
def Om:aM:=spN false true [tO] (fun x=>decide (da x.1)) (fun x=>[RV.d tR (hid (ag (dO (dec x.1))))])
theorem Mw:SpK 240 Om:=spX fun x h=>by simp only[aj];exact YC x.1 (aqr h)
def Qa:aM:=spN false true [tO,tR,tR] (fun x=>decide (da x.1∧ok Rat 4 x.2.1∧ok Rat 4 x.2.2.1)) (fun x=>[RV.d tR (hid (ag (vlL (dec x.1) (ab x.2.1) (ab x.2.2.1))))])
theorem UW:SpK 242 Qa:=spX fun x h=>by simp only[aj];exact ZA x.1 x.2.1 x.2.2.1 (aqr h)
def Od:aM:=spN true true [tO,tO] (fun x=>decide (cW x.1∧cW x.2.1)) (fun x=>[RV.d .bool (nP (dec x.1) (dec x.2.1))])
theorem Qs:SpK 237 Od:=spX fun x h=>VM x.1 x.2.1 (aqr h)
def O6:aM:=spN false true [tR,tR,tR,tR,tR] (fun x=>decide (ok Rat 1000 x.1∧ok Rat 1000 x.2.1∧ok Rat 1000 x.2.2.1∧ok Rat 1000 x.2.2.2.1∧ok Rat 1000 x.2.2.2.2.1)) (fun x=>[RV.d tP (hid (enc (ky (ab x.1) (ab x.2.1) (ab x.2.2.1) (ab x.2.2.2.1) (ab x.2.2.2.2.1))))])
theorem Mr:SpK 235 O6:=spX fun x h=>by simp only[aj];exact YL x.1 x.2.1 x.2.2.1 x.2.2.2.1 x.2.2.2.2.1 (aqr h)
def wS:Env:=(245,OL)::(240,Om)::(242,Qa)::(237,Od)::(235,O6)::vY
theorem lg:EnvAll Tryz.prog wS:=⟨Of,Mw,UW,Qs,Mr,jG⟩
def anJ:Ctx:=CX wS []
def adj(l m:BO3)(_k:KT):Option (List RV):=let y1:=hid (ag (ab l.2.2*ab m.2.1));let y2:=hid (ag (ab m.2.2*ab l.2.1));let y3:=hid (ag (ab l.1*ab m.2.2));let y4:=hid (ag (ab m.1*ab l.2.2));let y5:=hid (ag (nj (dec l) (dec m)));let y6:=hid (ag (ab y1-ab y2));let y7:=hid (ag (ab y3-ab y4));match decide (da l∧da m)with|true=>(match decide (okR l.2.2∧okR m.2.1)with|true=>(match decide (okR m.2.2∧okR l.2.1)with|true=>(match decide (okR y1∧okR y2)with|true=>(match decide (okR l.1∧okR m.2.2)with|true=>(match decide (okR m.1∧okR l.2.2)with|true=>(match decide (okR y3∧okR y4)with|true=>(match decide (okR y5)with|true=>(match(aS (ab y5) 0) !=0 with|true=>(match decide (eL y6 y5)with|true=>(match decide (eL y7 y5)with|true=>(match decide (ok (Rat×Rat) 100000 (hid (ag (ab y6/ab y5)),hid (ag (ab y7/ab y5))))with|true=>some [RV.d (.sl tP) ([hid (enc (atP (dec (hid (ag (ab y6/ab y5)),hid (ag (ab y7/ab y5))))))]),RV.d atB 0]|false=>none)|false=>none)|false=>none)|false=>(match decide (okR y6)with|true=>(match(aS (ab y6) 0)==0 with|true=>(match decide (okR y7)with|true=>(match(aS (ab y7) 0)==0 with|true=>some [RV.d (.sl tP) ([]),RV.d atB 10]|false=>some [RV.d (.sl tP) ([]),RV.d atB 0])|false=>none)|false=>some [RV.d (.sl tP) ([]),RV.d atB 0])|false=>none))|false=>none)|false=>none)|false=>none)|false=>none)|false=>none)|false=>none)|false=>none)|false=>none
theorem ale(l m:BO3):RS anJ 180 [.d tO l,.d tO m] (adj l m):=rsX
theorem WC(l m:BO3)(h:da l∧da m):Con Tryz.prog 180 [.d tO l,.d tO m] [.d (.sl tP) ((AN (dec l) (dec m)).map enc),.d atB (IM (dec l) (dec m))]:=by
 refine aN lg (ale _ _ ⟨0,?_⟩)
 obtain⟨hl,hm⟩:=h
 obtain⟨l,rfl,bl,nl⟩:=fu hl
 obtain⟨m,rfl,bm,nm⟩:=fu hm
 have ol:=aqs (qK (l:=l) nl)
 have om:=aqs (qK (l:=m) nm)
 have bc:Bd (nj l m) 49:=inferInstanceAs (Bd (l.1*m.2.1-m.1*l.2.1) _)
 have e1:l.2.2*m.2.1-m.2.2*l.2.1=Fq l m:=rfl
 have e2:l.1*m.2.2-m.1*l.2.2=DO l m:=rfl
 unfold adj AN IM
 simp only[aj,ak,aD,aE,aA,av,aT,aqv,aqw,Nat.reduceAdd,Nat.reduceLeDiff,aH,bS,ol,om]
 by_cases h0:nj l m=0
 ·simp only[aqs h0,e1,e2,Bool.not_true]
  cases decide (Fq l m=0)<;>cases decide (DO l m=0)<;>rfl
 ·simp only[ak,okd,aB,mx,Nat.reduceAdd,Nat.reduceLeDiff,aqC,aqz,cond_true,h0,ne_eq,asj,Bool.not_false,WG]
  rfl
def ajs:Ctx:=CX wS []
def acb(l c:BO3)(_k:KT):Option (List RV):=match decide (da l∧ok Rat 4 c.1∧ok Rat 4 c.2.1)with|true=>(match decide (da l)with|true=>(match decide (okR (hid (ag (dO (dec l))))∧okR c.2.2)with|true=>(match decide (okR (hid (ag (vlL (dec l) (ab c.1) (ab c.2.1))))∧okR (hid (ag (vlL (dec l) (ab c.1) (ab c.2.1)))))with|true=>(match decide (okR (hid (ag (ab (hid (ag (dO (dec l))))*ab c.2.2)))∧okR (hid (ag (ab (hid (ag (vlL (dec l) (ab c.1) (ab c.2.1))))*ab (hid (ag (vlL (dec l) (ab c.1) (ab c.2.1))))))))with|true=>some [RV.d tR (hid (ag (ab (hid (ag (ab (hid (ag (dO (dec l))))*ab c.2.2)))-ab (hid (ag (ab (hid (ag (vlL (dec l) (ab c.1) (ab c.2.1))))*ab (hid (ag (vlL (dec l) (ab c.1) (ab c.2.1))))))))))]|false=>none)|false=>none)|false=>none)|false=>none)|false=>none
theorem amC(l c:BO3):RS ajs 239 [.d tO l,.d tO c] (acb l c):=rsX
theorem Yq(l c:BO3)(h:da l∧cW c):Con Tryz.prog 239 [.d tO l,.d tO c] [.d tR (ag (ki (dec l) (dec c)))]:=by
 refine aN lg (amC _ _ ⟨0,?_⟩)
 obtain⟨hl,hc⟩:=h
 obtain⟨l,rfl,bl,nl⟩:=fu hl
 obtain⟨c,rfl,bc,nc⟩:=eZ hc
 have ol:=aqs (qK (l:=l) nl)
 have bv:Bd (vlL l c.1 c.2.1) 97:=inferInstanceAs (Bd (l.1*c.1+l.2.1*c.2.1-l.2.2) _)
 have bn:Bd (dO l) 49:=inferInstanceAs (Bd (l.1*l.1+l.2.1*l.2.1) _)
 unfold acb ki
 simp only[aj,ak,aD,aE,aA,av,aC,aT,aqv,aqw,Nat.reduceAdd,Nat.reduceLeDiff,ol]
def alZ:Ctx:=CX wS []
def ac1(c d:BO3)(_k:KT):Option (List RV):=match decide (cW c∧cW d)with|true=>(match nP (dec c) (dec d)with|true=>some [RV.d tO (((false,[]),(false,[])),(((false,[]),(false,[])),((false,[]),(false,[])))),RV.d atB 6]|false=>(match decide (aX (2:Int))with|true=>(match decide (okR c.1∧okR c.1)with|true=>(match decide (okR c.2.1∧okR c.2.1)with|true=>(match decide (okR (hid (ag (ab c.1*ab c.1)))∧okR (hid (ag (ab c.2.1*ab c.2.1))))with|true=>(match decide (okR (hid (ag (ab (hid (ag (ab c.1*ab c.1)))+ab (hid (ag (ab c.2.1*ab c.2.1))))))∧okR c.2.2)with|true=>(match decide (okR d.1∧okR d.1)with|true=>(match decide (okR d.2.1∧okR d.2.1)with|true=>(match decide (okR (hid (ag (ab d.1*ab d.1)))∧okR (hid (ag (ab d.2.1*ab d.2.1))))with|true=>(match decide (okR (hid (ag (ab (hid (ag (ab d.1*ab d.1)))+ab (hid (ag (ab d.2.1*ab d.2.1))))))∧okR d.2.2)with|true=>(match decide (okR d.1∧okR c.1)with|true=>(match decide (okR (hid (ag ((2:Int):Rat)))∧okR (hid (ag (ab d.1-ab c.1))))with|true=>(match decide (okR d.2.1∧okR c.2.1)with|true=>(match decide (okR (hid (ag ((2:Int):Rat)))∧okR (hid (ag (ab d.2.1-ab c.2.1))))with|true=>(match decide (okR (hid (ag (ab (hid (ag (ab (hid (ag (ab d.1*ab d.1)))+ab (hid (ag (ab d.2.1*ab d.2.1))))))-ab d.2.2)))∧okR (hid (ag (ab (hid (ag (ab (hid (ag (ab c.1*ab c.1)))+ab (hid (ag (ab c.2.1*ab c.2.1))))))-ab c.2.2))))with|true=>some [RV.d tO (hid (ag (ab (hid (ag ((2:Int):Rat)))*ab (hid (ag (ab d.1-ab c.1))))),(hid (ag (ab (hid (ag ((2:Int):Rat)))*ab (hid (ag (ab d.2.1-ab c.2.1))))),hid (ag (ab (hid (ag (ab (hid (ag (ab (hid (ag (ab d.1*ab d.1)))+ab (hid (ag (ab d.2.1*ab d.2.1))))))-ab d.2.2)))-ab (hid (ag (ab (hid (ag (ab (hid (ag (ab c.1*ab c.1)))+ab (hid (ag (ab c.2.1*ab c.2.1))))))-ab c.2.2))))))),RV.d atB 0]|false=>none)|false=>none)|false=>none)|false=>none)|false=>none)|false=>none)|false=>none)|false=>none)|false=>none)|false=>none)|false=>none)|false=>none)|false=>none)|false=>none))|false=>none
theorem aks(c d:BO3):RS alZ 238 [.d tO c,.d tO d] (ac1 c d):=rsX
theorem XB(c d:BO3)(h:cW c∧cW d):Con Tryz.prog 238 [.d tO c,.d tO d] [.d tO (Fx (dec c) (dec d)),.d atB (aeQ (dec c) (dec d))]:=by
 refine aN lg (aks _ _ ⟨0,?_⟩)
 obtain⟨hc,hd⟩:=h
 obtain⟨c,rfl,bc,nc⟩:=eZ hc
 obtain⟨d,rfl,bd,nd⟩:=eZ hd
 have oc:=aqs (ld (c:=c) nc)
 have od:=aqs (ld (c:=d) nd)
 have i2:decide (aX 2)=true:=by decide
 have b2:Bd ((2:Int):Rat) 3:=cP (by decide)
 unfold ac1 Fx aeQ
 simp only[aj,ak,aD,aE,aA,av,aT,aqv,aqw,Nat.reduceAdd,Nat.reduceLeDiff,oc,od,i2]
 cases nP c d
 ·rfl
 ·rfl
def aiQ:Ctx:=CX wS []
def ack(c:BO3)(_k:KT):Option (List RV):=match decide (aX (1:Int))with|true=>(match decide (aX (0:Int))with|true=>(match decide (okR (hid (ag ((1:Int):Rat))))with|true=>(match decide (ok Rat 1000 c.1∧ok Rat 1000 (hid (ag (-ab (hid (ag ((1:Int):Rat))))))∧ok Rat 1000 c.2.1∧ok Rat 1000 (hid (ag ((0:Int):Rat)))∧ok Rat 1000 c.2.2)with|true=>(match decide (ok Rat 1000 c.1∧ok Rat 1000 (hid (ag ((1:Int):Rat)))∧ok Rat 1000 c.2.1∧ok Rat 1000 (hid (ag ((0:Int):Rat)))∧ok Rat 1000 c.2.2)with|true=>some [RV.d tP (hid (enc (ky (ab c.1) (ab (hid (ag (-ab (hid (ag ((1:Int):Rat))))))) (ab c.2.1) (ab (hid (ag ((0:Int):Rat)))) (ab c.2.2)))),RV.d tP (hid (enc (ky (ab c.1) (ab (hid (ag ((1:Int):Rat)))) (ab c.2.1) (ab (hid (ag ((0:Int):Rat)))) (ab c.2.2))))]|false=>none)|false=>none)|false=>none)|false=>none)|false=>none
theorem ajI(c:BO3):RS aiQ 175 [.d tO c] (ack c):=rsX
theorem Wt(c:BO3)(h:cW c):Con Tryz.prog 175 [.d tO c] [.d tP (enc (nf (dec c))),.d tP (enc (m8 (dec c)))]:=by
 refine aN lg (ajI _ ⟨0,?_⟩)
 have hc:=h
 obtain⟨c,rfl,bc,nc⟩:=eZ hc
 have b0:Bd ((0:Int):Rat) 3:=cP (by decide)
 have b1:Bd ((1:Int):Rat) 3:=cP (by decide)
 have i0:decide (aX 0)=true:=by decide
 have i1:decide (aX 1)=true:=by decide
 unfold ack nf m8
 simp only[aj,ak,aD,aE,aA,av,aC,aT,aqv,aqw,Nat.reduceLeDiff,i0,i1]
 rfl
def D6:aM:=spN false true [tO,tO] (fun x=>decide (da x.1∧da x.2.1)) (fun x=>[RV.d (.sl tP) ((AN (dec x.1) (dec x.2.1)).map enc),RV.d atB (IM (dec x.1) (dec x.2.1))])
theorem B6:SpK 180 D6:=spX fun x h=>WC x.1 x.2.1 (aqr h)
def Lu:aM:=spN false true [tO,tO] (fun x=>decide (da x.1∧cW x.2.1)) (fun x=>[RV.d tR (hid (ag (ki (dec x.1) (dec x.2.1))))])
theorem UD:SpK 239 Lu:=spX fun x h=>by simp only[aj];exact Yq x.1 x.2.1 (aqr h)
def Qc:aM:=spN false true [tO,tO] (fun x=>decide (cW x.1∧cW x.2.1)) (fun x=>[RV.d tO (hid (Fx (dec x.1) (dec x.2.1))),RV.d atB (aeQ (dec x.1) (dec x.2.1))])
theorem Vg:SpK 238 Qc:=spX fun x h=>by simp only[aj];exact XB x.1 x.2.1 (aqr h)
def E4:aM:=spN false true [tO] (fun x=>decide (cW x.1)) (fun x=>[RV.d tP (hid (enc (nf (dec x.1)))),RV.d tP (hid (enc (m8 (dec x.1))))])
theorem Co:SpK 175 E4:=spX fun x h=>by simp only[aj];exact Wt x.1 (aqr h)
def QD:Env:=(180,D6)::(239,Lu)::(238,Qc)::(175,E4)::wS
theorem Dt:EnvAll Tryz.prog QD:=⟨B6,UD,Vg,Co,lg⟩
def alV:Ctx:=CX QD []
def abD(l c:BO3)(_k:KT):Option (List RV):=let y1:=hid (ag (ki (dec l) (dec c)));let y2:=hid (ag (vlL (dec l) (ab c.1) (ab c.2.1)));let y3:=hid (ag (dO (dec l)));let y4:=hid (ag (ab y2/ab y3));let y5:=hid (ag (ab y4*ab l.1));let y6:=hid (ag (ab y4*ab l.2.1));let y7:=ag (ab c.1-ab y5);let y8:=ag (ab c.2.1-ab y6);let y9:=hid (ag (-ab l.1));let y10:=hid (ag (ab l.2.1/ab y3));let y11:=hid (ag (ab y9/ab y3));let y12:=hid (ag (-ab y10));let y13:=hid (ag (-ab y11));let y14:=enc (ky (ab (hid y7)) (ab y12) (ab (hid y8)) (ab y13) (ab y1));let y15:=enc (ky (ab (hid y7)) (ab y10) (ab (hid y8)) (ab y11) (ab y1));match decide (da l∧cW c)with|true=>(match decide (da l)with|true=>(match decide (okR y1)with|true=>(match decide ((aS (ab y1) 0)<0)with|true=>some [RV.new 41 tP []]|false=>(match decide (da l∧ok Rat 4 c.1∧ok Rat 4 c.2.1)with|true=>(match decide (eL y2 y3)with|true=>(match decide (okR y4∧okR l.1)with|true=>(match decide (okR c.1∧okR y5)with|true=>(match decide (okR y4∧okR l.2.1)with|true=>(match decide (okR c.2.1∧okR y6)with|true=>(match decide (okR y1)with|true=>(match(aS (ab y1) 0)==0 with|true=>(match decide (ok (Rat×Rat) 100000 (hid y7,hid y8))with|true=>some [RV.new 41 tP ([hid (enc (atP (dec (hid y7,hid y8))))])]|false=>none)|false=>(match decide (eL l.2.1 y3)with|true=>(match decide (okR l.1)with|true=>(match decide (eL y9 y3)with|true=>(match decide (okR y10)with|true=>(match decide (okR y11)with|true=>(match decide (ok Rat 1000 (hid y7)∧ok Rat 1000 y12∧ok Rat 1000 (hid y8)∧ok Rat 1000 y13∧ok Rat 1000 y1)with|true=>(match decide (ok Rat 1000 (hid y7)∧ok Rat 1000 y10∧ok Rat 1000 (hid y8)∧ok Rat 1000 y11∧ok Rat 1000 y1)with|true=>(match decide (okP 4000 (hid y14)∧okP 4000 (hid y15))with|true=>(match decide ((cz (dec (hid y14)) (dec (hid y15)))>0)with|true=>some [RV.new 41 tP ([hid y15,hid y14])]|false=>some [RV.new 41 tP ([hid y14,hid y15])])|false=>none)|false=>none)|false=>none)|false=>none)|false=>none)|false=>none)|false=>none)|false=>none))|false=>none)|false=>none)|false=>none)|false=>none)|false=>none)|false=>none)|false=>none))|false=>none)|false=>none)|false=>none
theorem ai4(l c:BO3):RS alV 179 [.d tO l,.d tO c] (abD l c):=rsX
theorem Z1(l c:BO3)(h:da l∧cW c):Con Tryz.prog 179 [.d tO l,.d tO c] [.d (.sl tP) ((oz (dec l) (dec c)).map enc)]:=by
 refine Con.new_d (et:=41) (aN Dt (ai4 _ _ ⟨0,?_⟩))
 obtain⟨hl,hc⟩:=h
 obtain⟨l,rfl,bl,nl⟩:=fu hl
 obtain⟨c,rfl,bc,nc⟩:=eZ hc
 have ol:=aqs (qK (l:=l) nl)
 have oc:=aqs (ld (c:=c) nc)
 have hn:=R7 nl
 have bv:Bd (vlL l c.1 c.2.1) 97:=inferInstanceAs (Bd (l.1*c.1+l.2.1*c.2.1-l.2.2) _)
 have bn:Bd (dO l) 49:=inferInstanceAs (Bd (l.1*l.1+l.2.1*l.2.1) _)
 have e1:c.1-vlL l c.1 c.2.1/dO l*l.1=ftX l c:=rfl
 have e2:c.2.1-vlL l c.1 c.2.1/dO l*l.2.1=ftY l c:=rfl
 obtain⟨f1,f2,_,_⟩:=Fe (l:=l) (c:=c)
 unfold abD oz
 simp only[aj,ak,aD,aE,aA,av,okd,aC,aT,aB,aqv,aqw,mx,Nat.reduceAdd,Nat.reduceLeDiff,aqC,cond_true,aH,aJ,ol,oc,hn,ne_eq,asj,e1,e2,WG]
 by_cases h0:ki l c<0
 ·simp only[aqs h0]
  rfl
 ·simp only[aqu h0]
  by_cases h1:ki l c=0
  ·simp only[aqs h1]
   rfl
  ·have hp:=SO h0 h1
   obtain⟨p1,p2⟩:=QG (c:=c) nl (show 0≤ki l c by grind)
   obtain⟨q1,q2⟩:=OS (l:=l) (c:=c)
   have g1:ky (ftX l c) (-(l.2.1/dO l)) (ftY l c) (-(-l.1/dO l)) (ki l c)=wm l c:=rfl
   have g2:ky (ftX l c) (l.2.1/dO l) (ftY l c) (-l.1/dO l) (ki l c)=we l c:=rfl
   simp only[aqu h1,aqw,Nat.reduceLeDiff,cond_false,bg,g1,g2]
   cases decide (cz (wm l c) (we l c)>0)<;>rfl
def En:aM:=spN false true [tO,tO] (fun x=>decide (da x.1∧cW x.2.1)) (fun x=>[RV.d (.sl tP) ((oz (dec x.1) (dec x.2.1)).map enc)])
theorem BU:SpK 179 En:=spX fun x h=>Z1 x.1 x.2.1 (aqr h)
def abr:Env:=(179,En)::QD
theorem Ld:EnvAll Tryz.prog abr:=⟨BU,Dt⟩
def alQ:Ctx:=CX abr []
def abz(c d:BO3)(_k:KT):Option (List RV):=match decide (cW c∧cW d)with|true=>(match nP (dec c) (dec d)with|true=>(match decide (okR c.2.2∧okR d.2.2)with|true=>(match(aS (ab c.2.2) (ab d.2.2))==0 with|true=>some [RV.d (.sl tP) ([]),RV.d atB 10]|false=>some [RV.d (.sl tP) ([]),RV.d atB 0])|false=>none)|false=>(match decide (cW c∧cW d)with|true=>(match decide (da (hid (Fx (dec c) (dec d)))∧cW c)with|true=>some [RV.d (.sl tP) ((oz (dec (hid (Fx (dec c) (dec d)))) (dec c)).map enc),RV.d atB 0]|false=>none)|false=>none))|false=>none
theorem aos(c d:BO3):RS alQ 178 [.d tO c,.d tO d] (abz c d):=rsX
theorem Zq(c d:BO3)(h:cW c∧cW d):Con Tryz.prog 178 [.d tO c,.d tO d] [.d (.sl tP) ((yO (dec c) (dec d)).map enc),.d atB (Si (dec c) (dec d))]:=by
 refine aN Ld (aos _ _ ⟨0,?_⟩)
 obtain⟨hc,hd⟩:=h
 obtain⟨c,rfl,bc,nc⟩:=eZ hc
 obtain⟨d,rfl,bd,nd⟩:=eZ hd
 have oc:=aqs (ld (c:=c) nc)
 have od:=aqs (ld (c:=d) nd)
 unfold abz yO Si
 simp only[aj,ak,aE,aA,av,aT,aqv,aqy,aqw,Nat.reduceLeDiff,aH,oc,od]
 cases hc:nP c d
 ·have ol:da (enc (wo c d)):=af8 hc
  have er:Fx c d=enc (wo c d):=by unfold Fx;rw[hc];rfl
  simp only[er,dT ol,ak,cond_false]
  try rfl
 ·cases decide (c.2.2=d.2.2)<;>rfl
end
def mG(c:BCU):Prop:=okC 500 c∧Q4 c
instance (c:BCU):Decidable (mG c):=by unfold mG;infer_instance
def rU(c d:BCU):Prop:=mG c∧mG d
instance (c d:BCU):Decidable (rU c d):=by unfold rU;infer_instance
def DA(c d:BCU):List BP:=bif !ko (dC c) (dC d)then(qG (dC c) (dC d)).map enc else [c.2.2.2.2.1,c.2.2.2.2.2,d.2.2.2.2.1,d.2.2.2.2.2]
def afe(c d:BCU):List BP:=(DA c d).filter fun p=>onR (dC c) (dec p)&&onR (dC d) (dec p)
def oe(c d:BCU):List BP:=fI (dC c) (afe c d)
def YI(c d:BCU):Bool:=bif c.1&&(d.1&&(c.2.2.2.1 !=d.2.2.2.1))then true else !c.1&&(cz (dec c.2.2.2.2.1) (dec c.2.2.2.2.2) !=cz (dec d.2.2.2.2.1) (dec d.2.2.2.2.2))
def wq(c d:BCU):BCU:=bif YI c d then nh d else d
def zd(c:Cv):List BP→Bool
 |[]=>false
 |x::r=>match r with
  |[]=>false
  |y::_=>decide (du c (dec x) (dec y)<0)||zd c r
def aeK(c d:BCU):Bool:=ko (dC c) (dC d)&&zd (dC (wq c d)) (oe c d)
def RT:aM:=spN false true [tO,tO] (fun x=>decide (cW x.1∧cW x.2.1)) (fun x=>[RV.d (.sl tP) ((yO (dec x.1) (dec x.2.1)).map enc),RV.d atB (Si (dec x.1) (dec x.2.1))])
theorem LR:SpK 178 RT:=spX fun x h=>Zq x.1 x.2.1 (aqr h)
def HK:aM:=spN true true [tO,tO] (fun x=>decide (da x.1∧da x.2.1)) (fun x=>[RV.d .bool (Nv (dec x.1) (dec x.2.1))])
theorem Kx:SpK 177 HK:=spX fun x h=>Nh x.1 x.2.1 (aqr h)
def Ix:aM:=spN true true [tO,tO] (fun x=>decide (cW x.1∧cW x.2.1)) (fun x=>[RV.d .bool (LF (dec x.1) (dec x.2.1))])
theorem Jd:SpK 176 Ix:=spX fun x h=>UC x.1 x.2.1 (aqr h)
def Hy:Env:=[(178,RT),(179,En),(180,D6),(177,HK),(176,Ix),(81,vm),(19,t6),(95,EU),(17,z9),(96,mH)]
theorem tY:EnvAll Tryz.prog Hy:=⟨LR,BU,B6,Kx,Jd,pz,pA,A9,tv,jW,trivial⟩
def ahF:Ctx:=CX Hy []
def PT(a b:BCU)(_k:KT):Option (List RV):=match a.1 with|true=>(match b.1 with|true=>(match decide (cW a.2.2.1∧cW b.2.2.1)with|true=>some [RV.d (.sl tP) ((yO (dec a.2.2.1) (dec b.2.2.1)).map enc),RV.d atB (Si (dec a.2.2.1) (dec b.2.2.1))]|false=>none)|false=>(match a.1 with|true=>(match decide (da b.2.1∧cW a.2.2.1)with|true=>some [RV.d (.sl tP) ((oz (dec b.2.1) (dec a.2.2.1)).map enc),RV.d atB 0]|false=>none)|false=>(match b.1 with|true=>(match decide (da a.2.1∧cW b.2.2.1)with|true=>some [RV.d (.sl tP) ((oz (dec a.2.1) (dec b.2.2.1)).map enc),RV.d atB 0]|false=>none)|false=>(match decide (da a.2.1∧da b.2.1)with|true=>some [RV.d (.sl tP) ((AN (dec a.2.1) (dec b.2.1)).map enc),RV.d atB (IM (dec a.2.1) (dec b.2.1))]|false=>none))))|false=>(match a.1 with|true=>(match decide (da b.2.1∧cW a.2.2.1)with|true=>some [RV.d (.sl tP) ((oz (dec b.2.1) (dec a.2.2.1)).map enc),RV.d atB 0]|false=>none)|false=>(match b.1 with|true=>(match decide (da a.2.1∧cW b.2.2.1)with|true=>some [RV.d (.sl tP) ((oz (dec a.2.1) (dec b.2.2.1)).map enc),RV.d atB 0]|false=>none)|false=>(match decide (da a.2.1∧da b.2.1)with|true=>some [RV.d (.sl tP) ((AN (dec a.2.1) (dec b.2.1)).map enc),RV.d atB (IM (dec a.2.1) (dec b.2.1))]|false=>none)))
theorem agE(a b:BCU):RS ahF 94 [.d tCU a,.d tCU b] (PT a b):=rsX
theorem Vl(a b:BCU)(h:tT a b):Con Tryz.prog 94 [.d tCU a,.d tCU b] [.d (.sl tP) ((qG (dC a) (dC b)).map enc),.d atB (UX (dC a) (dC b))]:=by
 refine aN tY (agE _ _ ⟨0,?_⟩)
 obtain⟨⟨a1,a2⟩,b1,b2⟩:=h
 unfold PT qG UX yO
 obtain⟨aa,al,ac,aw,af,at_⟩:=a
 obtain⟨ba,bl,bc,bw,bf,bt⟩:=b
 cases aa<;>cases ba
 ·have h1:=a2 rfl
  have h2:=b2 rfl
  simp only[dT (show da al∧da bl from⟨h1,h2⟩)]
  rfl
 ·have h1:=a2 rfl
  have h2:=b1 rfl
  simp only[dT (show da al∧cW bc from⟨h1,h2⟩)]
  rfl
 ·have h1:=a1 rfl
  have h2:=b2 rfl
  simp only[dT (show da bl∧cW ac from⟨h2,h1⟩)]
  rfl
 ·have h1:=a1 rfl
  have h2:=b1 rfl
  simp only[dT (show cW ac∧cW bc from⟨h1,h2⟩)]
  rfl
def aiR:Ctx:=CX Hy []
def ady(a b:BCU)(_k:KT):Option (List RV):=match !(a.1==b.1)with|true=>some [RV.d .bool false]|false=>(match a.1 with|true=>(match decide (cW a.2.2.1∧cW b.2.2.1)with|true=>some [RV.d .bool (LF (dec a.2.2.1) (dec b.2.2.1))]|false=>none)|false=>(match decide (da a.2.1∧da b.2.1)with|true=>some [RV.d .bool (Nv (dec a.2.1) (dec b.2.1))]|false=>none))
theorem akk(a b:BCU):RS aiR 93 [.d tCU a,.d tCU b] (ady a b):=rsX
theorem ZR(a b:BCU)(h:tT a b):Con Tryz.prog 93 [.d tCU a,.d tCU b] [.d .bool (ko (dC a) (dC b))]:=by
 refine aN tY (akk _ _ ⟨0,?_⟩)
 obtain⟨⟨a1,a2⟩,b1,b2⟩:=h
 unfold ady ko
 obtain⟨aa,al,ac,aw,af,at_⟩:=a
 obtain⟨ba,bl,bc,bw,bf,bt⟩:=b
 cases aa<;>cases ba
 ·have h1:=a2 rfl
  have h2:=b2 rfl
  simp only[dT (show da al∧da bl from⟨h1,h2⟩)]
  rfl
 ·rfl
 ·rfl
 ·have h1:=a1 rfl
  have h2:=b1 rfl
  simp only[dT (show cW ac∧cW bc from⟨h1,h2⟩)]
  rfl
def HR:aM:=spN false true [tCU,tCU] (fun x=>decide (tT x.1 x.2.1)) (fun x=>[RV.d (.sl tP) ((qG (dC x.1) (dC x.2.1)).map enc),RV.d atB (UX (dC x.1) (dC x.2.1))])
theorem Kt:SpK 94 HR:=spX fun x h=>Vl x.1 x.2.1 (aqr h)
def Oi:aM:=spN true true [tCU,tCU] (fun x=>decide (tT x.1 x.2.1)) (fun x=>[RV.d .bool (ko (dC x.1) (dC x.2.1))])
theorem TQ:SpK 93 Oi:=spX fun x h=>ZR x.1 x.2.1 (aqr h)
def ace:Env:=(94,HR)::(93,Oi)::Hy
theorem SY:EnvAll Tryz.prog ace:=⟨Kt,TQ,tY⟩
def aee:NT:=[((27,18),{keep:=[2,3,6,7,8,9],own:=[(8,41,tP)],hl:=4}),((27,47),{keep:=[3,6,8,10,11],hl:=2})]
def oH:Ctx:=CX ace aee
def mT(c d:BCU)(s9:Int)(r3:List BP):Cfg:=⟨27,[.blk 0,.seq 33],[(2,.box 0 0),(3,.box 1 0),(6,SB (ko (dC c) (dC d))),(7,.d (.sl tP) ((qG (dC c) (dC d)).map enc)),(8,.own 3),(9,SI s9)],[.box 43 (Ty.split tCU c),.box 43 (Ty.split tCU d),.row 41 tP ([c.2.2.2.2.1,c.2.2.2.2.2,d.2.2.2.2.1,d.2.2.2.2.2]),.row 41 tP r3],0,[]⟩
def ii(c d:BCU)(s9:Int)(r3:List BP):Cfg:=⟨27,[.blk 0,.seq 33],[(2,.box 0 0),(3,.box 1 0),(6,SB (ko (dC c) (dC d))),(7,.own 2),(8,.own 3),(9,SI s9)],[.box 43 (Ty.split tCU c),.box 43 (Ty.split tCU d),.row 41 tP ([c.2.2.2.2.1,c.2.2.2.2.2,d.2.2.2.2.1,d.2.2.2.2.2]),.row 41 tP r3],0,[]⟩
def cJ(c d:BCU)(r3:List BP)(B1:BCU)(s10:Bool)(s11:Int):Cfg:=⟨27,[.blk 2,.seq 58],[(3,.box 1 0),(6,SB (ko (dC c) (dC d))),(8,.d (.sl tP) (fI (dC c) r3)),(10,SB s10),(11,SI s11)],[.box 43 (Ty.split tCU c),.box 43 (Ty.split tCU B1)],0,[]⟩
def OU(c d:BCU)(k:KT):Option (List RV):=match decide (tT c d)with|true=>(match !(ko (dC c) (dC d))with|true=>(match decide (tT c d)with|true=>k 18 (mT c d 0 ([]))|false=>none)|false=>k 18 (ii c d 0 ([])))|false=>none
theorem aaZ(c d:BCU):RS oH 27 [.d tCU c,.d tCU d] (OU c d):=rsX
def mY(c d:BCU)(s9:Int)(r3:List BP)(k:KT):Option (List RV):=match decide (s9<(((qG (dC c) (dC d)).map enc).length:Int))with|true=>(match bu ((qG (dC c) (dC d)).map enc) s9 with|some x1=>(match decide (okC 3500 c∧okP 3500 x1)with|true=>(match onR (dC c) (dec x1)with|true=>(match bu ((qG (dC c) (dC d)).map enc) s9 with|some x2=>(match decide (okC 3500 d∧okP 3500 x2)with|true=>(match onR (dC d) (dec x2)with|true=>(match bu ((qG (dC c) (dC d)).map enc) s9 with|some x3=>(match decide ((r3.length+([x3]).length)*320≤140737488355328∧r3.length+([x3]).length≤140737488355328)with|true=>k 18 (mT c d (i64.wrap (s9+1)) (r3++([x3])))|false=>none)|none=>none)|false=>k 18 (mT c d (i64.wrap (s9+1)) r3))|false=>none)|none=>none)|false=>k 18 (mT c d (i64.wrap (s9+1)) r3))|false=>none)|none=>none)|false=>(match decide (rT c r3)with|true=>(match c.1 with|true=>(match d.1 with|true=>(match !(c.2.2.2.1==d.2.2.2.1)with|true=>k 47 (cJ c d r3 (hid (nh d)) false 1)|false=>(match !c.1 with|true=>(match decide (okP 4000 c.2.2.2.2.1∧okP 4000 c.2.2.2.2.2)with|true=>(match decide (okP 4000 d.2.2.2.2.1∧okP 4000 d.2.2.2.2.2)with|true=>(match(cz (dec c.2.2.2.2.1) (dec c.2.2.2.2.2)) !=(cz (dec d.2.2.2.2.1) (dec d.2.2.2.2.2))with|true=>k 47 (cJ c d r3 (hid (nh d)) false 1)|false=>k 47 (cJ c d r3 d false 1))|false=>none)|false=>none)|false=>k 47 (cJ c d r3 d false 1)))|false=>(match !c.1 with|true=>(match decide (okP 4000 c.2.2.2.2.1∧okP 4000 c.2.2.2.2.2)with|true=>(match decide (okP 4000 d.2.2.2.2.1∧okP 4000 d.2.2.2.2.2)with|true=>(match(cz (dec c.2.2.2.2.1) (dec c.2.2.2.2.2)) !=(cz (dec d.2.2.2.2.1) (dec d.2.2.2.2.2))with|true=>k 47 (cJ c d r3 (hid (nh d)) false 1)|false=>k 47 (cJ c d r3 d false 1))|false=>none)|false=>none)|false=>k 47 (cJ c d r3 d false 1)))|false=>(match !c.1 with|true=>(match decide (okP 4000 c.2.2.2.2.1∧okP 4000 c.2.2.2.2.2)with|true=>(match decide (okP 4000 d.2.2.2.2.1∧okP 4000 d.2.2.2.2.2)with|true=>(match(cz (dec c.2.2.2.2.1) (dec c.2.2.2.2.2)) !=(cz (dec d.2.2.2.2.1) (dec d.2.2.2.2.2))with|true=>k 47 (cJ c d r3 (hid (nh d)) false 1)|false=>k 47 (cJ c d r3 d false 1))|false=>none)|false=>none)|false=>k 47 (cJ c d r3 d false 1)))|false=>none)
theorem qb(c d:BCU)(s9:Int)(r3:List BP):RN oH 18 (mT c d s9 r3) (mY c d s9 r3):=rnX
def je(c d:BCU)(s9:Int)(r3:List BP)(k:KT):Option (List RV):=match decide (s9<(([c.2.2.2.2.1,c.2.2.2.2.2,d.2.2.2.2.1,d.2.2.2.2.2]).length:Int))with|true=>(match bu ([c.2.2.2.2.1,c.2.2.2.2.2,d.2.2.2.2.1,d.2.2.2.2.2]) s9 with|some _=>(match true,([c.2.2.2.2.1,c.2.2.2.2.2,d.2.2.2.2.1,d.2.2.2.2.2])[(s9).toNat]? with|true,some x1=>(match decide (okC 3500 c∧okP 3500 x1)with|true=>(match onR (dC c) (dec x1)with|true=>(match bu ([c.2.2.2.2.1,c.2.2.2.2.2,d.2.2.2.2.1,d.2.2.2.2.2]) s9 with|some _=>(match true,([c.2.2.2.2.1,c.2.2.2.2.2,d.2.2.2.2.1,d.2.2.2.2.2])[(s9).toNat]? with|true,some x2=>(match decide (okC 3500 d∧okP 3500 x2)with|true=>(match onR (dC d) (dec x2)with|true=>(match bu ([c.2.2.2.2.1,c.2.2.2.2.2,d.2.2.2.2.1,d.2.2.2.2.2]) s9 with|some _=>(match true,([c.2.2.2.2.1,c.2.2.2.2.2,d.2.2.2.2.1,d.2.2.2.2.2])[(s9).toNat]? with|true,some x3=>(match decide ((r3.length+([x3]).length)*320≤140737488355328∧r3.length+([x3]).length≤140737488355328)with|true=>k 18 (ii c d (i64.wrap (s9+1)) (r3++([x3])))|false=>none)|_,_=>none)|none=>none)|false=>k 18 (ii c d (i64.wrap (s9+1)) r3))|false=>none)|_,_=>none)|none=>none)|false=>k 18 (ii c d (i64.wrap (s9+1)) r3))|false=>none)|_,_=>none)|none=>none)|false=>(match decide (rT c r3)with|true=>(match c.1 with|true=>(match d.1 with|true=>(match !(c.2.2.2.1==d.2.2.2.1)with|true=>k 47 (cJ c d r3 (hid (nh d)) false 1)|false=>(match !c.1 with|true=>(match decide (okP 4000 c.2.2.2.2.1∧okP 4000 c.2.2.2.2.2)with|true=>(match decide (okP 4000 d.2.2.2.2.1∧okP 4000 d.2.2.2.2.2)with|true=>(match(cz (dec c.2.2.2.2.1) (dec c.2.2.2.2.2)) !=(cz (dec d.2.2.2.2.1) (dec d.2.2.2.2.2))with|true=>k 47 (cJ c d r3 (hid (nh d)) false 1)|false=>k 47 (cJ c d r3 d false 1))|false=>none)|false=>none)|false=>k 47 (cJ c d r3 d false 1)))|false=>(match !c.1 with|true=>(match decide (okP 4000 c.2.2.2.2.1∧okP 4000 c.2.2.2.2.2)with|true=>(match decide (okP 4000 d.2.2.2.2.1∧okP 4000 d.2.2.2.2.2)with|true=>(match(cz (dec c.2.2.2.2.1) (dec c.2.2.2.2.2)) !=(cz (dec d.2.2.2.2.1) (dec d.2.2.2.2.2))with|true=>k 47 (cJ c d r3 (hid (nh d)) false 1)|false=>k 47 (cJ c d r3 d false 1))|false=>none)|false=>none)|false=>k 47 (cJ c d r3 d false 1)))|false=>(match !c.1 with|true=>(match decide (okP 4000 c.2.2.2.2.1∧okP 4000 c.2.2.2.2.2)with|true=>(match decide (okP 4000 d.2.2.2.2.1∧okP 4000 d.2.2.2.2.2)with|true=>(match(cz (dec c.2.2.2.2.1) (dec c.2.2.2.2.2)) !=(cz (dec d.2.2.2.2.1) (dec d.2.2.2.2.2))with|true=>k 47 (cJ c d r3 (hid (nh d)) false 1)|false=>k 47 (cJ c d r3 d false 1))|false=>none)|false=>none)|false=>k 47 (cJ c d r3 d false 1)))|false=>none)
theorem lG(c d:BCU)(s9:Int)(r3:List BP):RN oH 18 (ii c d s9 r3) (je c d s9 r3):=rnX
def mp(c d:BCU)(r3:List BP)(B1:BCU)(s10:Bool)(s11:Int)(k:KT):Option (List RV):=match ko (dC c) (dC d)with|true=>(match decide (s11<((fI (dC c) r3).length:Int))with|true=>(match s10 with|true=>k 47 (cJ c d r3 B1 true (i64.wrap (s11+1)))|false=>(match bu (fI (dC c) r3) (i64.wrap (s11-1))with|some x1=>(match bu (fI (dC c) r3) s11 with|some x2=>(match decide (okC 4000 B1∧okP 4000 x1∧okP 4000 x2)with|true=>k 47 (cJ c d r3 B1 (decide ((du (dC B1) (dec x1) (dec x2))<0)) (i64.wrap (s11+1)))|false=>none)|none=>none)|none=>none))|false=>some [RV.d (.sl tP) (fI (dC c) r3),RV.d .bool s10])|false=>some [RV.d (.sl tP) (fI (dC c) r3),RV.d .bool s10]
theorem rn(c d:BCU)(r3:List BP)(B1:BCU)(s10:Bool)(s11:Int):RN oH 47 (cJ c d r3 B1 s10 s11) (mp c d r3 B1 s10 s11):=rnX
theorem QY{c:Cv}{S:List BP}{i:Nat}(h1:1≤i)(hi:i<S.length):zd c (S.drop (i-1))=(decide (du c (dec S[i-1]) (dec S[i])<0)||zd c (S.drop i)):=by
 have hd:S.drop (i-1)=S[i-1]::S.drop i:=by
  have:=aqP (l:=S) (i:=i-1) (by omega)
  rw[this,show i-1+1=i by omega]
 have hd2:S.drop i=S[i]::S.drop (i+1):=aqP hi
 rw[hd,hd2]
 rfl
theorem Wo{c:Cv}{S:List BP}(h:S.length≤1):zd c S=false:=by
 match S,h with
 |[],_=>rfl
 |[_],_=>rfl
theorem afJ(c d:BCU)(r3 S:List BP)(hS:fI (dC c) r3=S)(hl:S.length≤1000000)(ho:∀x∈S,okP 4000 x)(B:BCU)(hB:okC 4000 B):∀(j i:Nat),1≤i→i+j=max S.length 1→∀s:Bool,
  oH.Runs 47 (cJ c d r3 B s (i:Int)) [.d (.sl tP) S,.d .bool (bif ko (dC c) (dC d)then s||zd (dC B) (S.drop (i-1))else s)]:=by
 intro j
 induction j with
 |zero=>
  intro i h1 hi s
  refine rn _ _ _ _ _ _ ⟨0,?_⟩
  unfold mp
  rw[hS,cF (by omega),Wo (by rw[asE];omega),Bool.or_false]
  cases ko (dC c) (dC d)<;>rfl
 |succ j ih=>
  intro i h1 hi s
  have hil:i<S.length:=by omega
  have e1:i64.wrap ((i:Int)-1)=((i-1:Nat):Int):=by rw[bi (by omega) (by omega)];omega
  have e2:i64.wrap ((i:Int)+1)=((i+1:Nat):Int):=cG (by omega)
  have g1:bu S ((i-1:Nat):Int)=some S[i-1]:=by rw[aI,aqt (by omega)]
  have g2:bu S (i:Int)=some S[i]:=by rw[aI,aqt hil]
  cases hs:ko (dC c) (dC d)
  ·refine rn _ _ _ _ _ _ ⟨0,?_⟩
   unfold mp
   rw[hS,hs]
   rfl
  ·obtain⟨n,hn⟩:=ih (i+1) (by omega) (by omega) (s||decide (du (dC B) (dec S[i-1]) (dec S[i])<0))
   refine rn _ _ _ _ _ _ ⟨n,?_⟩
   unfold mp
   rw[hS,hs,cd hil,e1,e2,g1,g2]
   dsimp only
   rw[dT (show okC 4000 B∧okP 4000 S[i-1]∧okP 4000 S[i] from⟨hB,ho _ (ars _),ho _ (ars _)⟩)]
   rw[hs,Nat.add_sub_cancel,Bool.or_assoc,←QY h1 hil]at hn
   cases s
   ·exact hn
   ·simp only[Bool.true_or,cond_true]at hn ⊢
    exact hn
theorem HC{c:Cv}{l:List BP}{p:BP→Prop}(h:∀x∈l,p x):∀x∈fI c l,p x:=fun x hx=>by
 rcases AK hx with h'|h'
 ·cases h'
 ·exact h x h'
theorem Hz(c d:BCU)(h:rU c d)(r3:List BP)(hl:r3.length≤100)(ho:∀x∈r3,okP 500 x):∃n,(match decide (rT c r3)with
  |true=>oH.k n 47 (cJ c d r3 (wq c d) false 1)
  |false=>none)=some [.d (.sl tP) (fI (dC c) r3),.d .bool (ko (dC c) (dC d)&&zd (dC (wq c d)) (fI (dC c) r3))]:=by
 have hs:rT c r3:=⟨dB h.1.1 (by decide) (by decide),by omega,fun x hx=>cI (ho x hx) (by decide) (by decide)⟩
 have hR:okC 4000 (wq c d):=by
  unfold wq
  have:=dB (k:=4000) h.2.1 (by decide) (by decide)
  cases YI c d
  ·exact this
  ·exact aim 4000 this
 have hlen:=sD (dC c) r3 []
 obtain⟨n,hn⟩:=afJ c d r3 _ rfl (by simp at hlen;unfold fI;omega) (HC (fun x hx=>cI (ho x hx) (by decide) (by decide))) (wq c d) hR (max (fI (dC c) r3).length 1-1) 1 (aqE _) (by omega) false
 refine⟨n,?_⟩
 rw[dT hs]
 refine hn.trans ?_
 cases ko (dC c) (dC d)<;>rfl
theorem z5{l c:Ln}[BdL l][BdC c](hl:l.1≠0∨l.2.1≠0):(oz l c).length≤2∧∀p∈oz l c,Bd p 490∧Rpd p:=by
 unfold oz
 by_cases h0:ki l c<0
 ·rw[aqs h0]
  exact⟨by simp,fun p hp=>by cases hp⟩
 ·rw[aqu h0]
  by_cases h1:ki l c=0
  ·rw[aqs h1]
   obtain⟨f1,f2,_,_⟩:=Fe (l:=l) (c:=c)
   refine⟨by simp,fun p hp=>?_⟩
   have:p=atP (ftX l c,ftY l c):=by simpa using hp
   rw[this]
   exact⟨(inferInstance:Bd (atP (ftX l c,ftY l c)) _).mono (by decide),inferInstance⟩
  ·rw[aqu h1]
   obtain⟨p1,p2⟩:=QG (c:=c) hl (show 0≤ki l c by grind)
   obtain⟨q1,q2⟩:=OS (l:=l) (c:=c)
   cases decide (cz (wm l c) (we l c)>0)
   ·refine⟨by simp,fun p hp=>?_⟩
    have:p=wm l c∨p=we l c:=by simpa using hp
    rcases this with e|e<;>rw[e]
    ·exact⟨q1,p1⟩
    ·exact⟨q2,p2⟩
   ·refine⟨by simp,fun p hp=>?_⟩
    have:p=we l c∨p=wm l c:=by simpa using hp
    rcases this with e|e<;>rw[e]
    ·exact⟨q2,p2⟩
    ·exact⟨q1,p1⟩
theorem VK{l m:Ln}[BdL l][BdL m]:(AN l m).length≤2∧∀p∈AN l m,Bd p 490∧Rpd p:=by
 unfold AN
 cases decide (nj l m=0)
 ·have bc:Bd (nj l m) 49:=inferInstanceAs (Bd (l.1*m.2.1-m.1*l.2.1) _)
  have bx:Bd (Fq l m) 151:=inferInstanceAs (Bd (l.2.2*m.2.1-m.2.2*l.2.1) _)
  have b_:Bd (DO l m) 151:=inferInstanceAs (Bd (l.1*m.2.2-m.1*l.2.2) _)
  refine⟨by simp,fun p hp=>?_⟩
  have:p=atP (Fq l m/nj l m,DO l m/nj l m):=by simpa using hp
  rw[this]
  exact⟨(inferInstance:Bd (atP (Fq l m/nj l m,DO l m/nj l m)) _).mono (by decide),inferInstance⟩
 ·exact⟨by simp,fun p hp=>by cases hp⟩
theorem W3{c d:BCU}(h:tT c d):(qG (dC c) (dC d)).length≤2∧∀p∈qG (dC c) (dC d),Bd p 490∧Rpd p:=by
 obtain⟨⟨a1,a2⟩,b1,b2⟩:=h
 obtain⟨aa,al,ac,aw,af,at_⟩:=c
 obtain⟨ba,bl,bc,bw,bf,bt⟩:=d
 have ex1:∀x:BO3,da x→BdL (dec x)∧((dec x:Ln).1≠0∨(dec x:Ln).2.1≠0):=fun x h=>by
  obtain⟨l,rfl,bl,nl⟩:=fu h
  rw[ak]
  exact⟨bl,nl⟩
 have ex2:∀x:BO3,cW x→BdC (dec x):=fun x h=>by
  obtain⟨l,rfl,bl,nl⟩:=eZ h
  rw[ak]
  exact bl
 unfold qG
 cases aa<;>cases ba
 ·obtain⟨i1,_⟩:=ex1 _ (a2 rfl)
  obtain⟨i2,_⟩:=ex1 _ (b2 rfl)
  exact VK (l:=dec al) (m:=dec bl)
 ·obtain⟨i1,n1⟩:=ex1 _ (a2 rfl)
  have i2:=ex2 _ (b1 rfl)
  exact z5 (l:=dec al) (c:=dec bc) n1
 ·have i1:=ex2 _ (a1 rfl)
  obtain⟨i2,n2⟩:=ex1 _ (b2 rfl)
  exact z5 (l:=dec bl) (c:=dec ac) n2
 ·have i1:=ex2 _ (a1 rfl)
  have i2:=ex2 _ (b1 rfl)
  show(yO (dec ac) (dec bc)).length≤2∧∀p∈yO (dec ac) (dec bc),Bd p 490∧Rpd p
  unfold yO
  cases hc:nP (dec ac) (dec bc)
  ·have i3:BdL (wo (dec ac) (dec bc)):=Nu
   exact z5 (PU hc)
  ·exact⟨by simp,fun p hp=>by cases hp⟩
theorem GP{c d:BCU}(h:rU c d):(DA c d).length≤4∧∀x∈DA c d,okP 500 x:=by
 obtain⟨⟨h1,h2⟩,h3,h4⟩:=h
 unfold DA
 cases ko (dC c) (dC d)
 ·obtain⟨g1,g2⟩:=W3 (show tT c d from⟨h2,h4⟩)
  refine⟨by simp only[Bool.not_false,cond_true,ask];omega,fun x hx=>?_⟩
  obtain⟨p,hp,rfl⟩:=atb.1 hx
  obtain⟨b,r⟩:=g2 p hp
  exact aqr (bg (j:=490) (by decide) (by decide))
 ·refine⟨by simp,fun x hx=>?_⟩
  have:x=c.2.2.2.2.1∨x=c.2.2.2.2.2∨x=d.2.2.2.2.1∨x=d.2.2.2.2.2:=by simpa using hx
  rcases this with e|e|e|e<;>rw[e]
  ·exact h1.2.2.1
  ·exact h1.2.2.2
  ·exact h3.2.2.1
  ·exact h3.2.2.2
def jv(c d:BCU)(p:BP):Bool:=onR (dC c) (dec p)&&onR (dC d) (dec p)
theorem DR(c d:BCU)(h:rU c d)(L:List BP)(hL:(qG (dC c) (dC d)).map enc=L)(h4:L.length≤4)(ho:∀x∈L,okP 500 x):∀(j i:Nat),i+j=L.length→∀r3:List BP,r3.length≤i→(∀x∈r3,okP 500 x)→
  oH.Runs 18 (mT c d (i:Int) r3) [.d (.sl tP) (fI (dC c) (r3++(L.drop i).filter (jv c d))),.d .bool (ko (dC c) (dC d)&&zd (dC (wq c d)) (fI (dC c) (r3++(L.drop i).filter (jv c d))))]:=by
 intro j
 induction j with
 |zero=>
  intro i hi r3 hr h3
  obtain⟨n,hn⟩:=Hz c d h r3 (by omega) h3
  refine qb _ _ _ _ ⟨n,?_⟩
  have hd:L.drop i=[]:=as1.2 (by omega)
  rw[hd,List.filter_nil,ark,←hn]
  unfold mY
  rw[hL,cF (by omega)]
  have hs:rT c r3:=⟨dB h.1.1 (by decide) (by decide),by omega,fun x hx=>cI (h3 x hx) (by decide) (by decide)⟩
  have o1:decide (okP 4000 c.2.2.2.2.1∧okP 4000 c.2.2.2.2.2)=true:=aqs ⟨cI h.1.1.2.2.1 (by decide) (by decide),cI h.1.1.2.2.2 (by decide) (by decide)⟩
  have o2:decide (okP 4000 d.2.2.2.2.1∧okP 4000 d.2.2.2.2.2)=true:=aqs ⟨cI h.2.1.2.2.1 (by decide) (by decide),cI h.2.1.2.2.2 (by decide) (by decide)⟩
  rw[dT hs,o1,o2]
  dsimp only
  unfold wq YI bne
  simp only[aj]
  cases c.1<;>cases d.1<;>cases(c.2.2.2.1==d.2.2.2.1)<;>cases(cz (dec c.2.2.2.2.1) (dec c.2.2.2.2.2)==cz (dec d.2.2.2.2.1) (dec d.2.2.2.2.2))<;>rfl
 |succ j ih=>
  intro i hi r3 hr h3
  have hil:i<L.length:=by omega
  have e2:i64.wrap ((i:Int)+1)=((i+1:Nat):Int):=cG (by omega)
  have g2:bu L (i:Int)=some L[i]:=by rw[aI,aqt hil]
  have g3:L[((i:Int)).toNat]?=some L[i]:=by rw[show((i:Int)).toNat=i by omega,aqt hil]
  have hx:=ho _ (ars hil)
  have hd:L.drop i=L[i]::L.drop (i+1):=aqP hil
  have ox:=cI (k:=3500) hx (by decide) (by decide)
  have o1:decide (okC 3500 c∧okP 3500 L[i])=true:=aqs ⟨dB h.1.1 (by decide) (by decide),ox⟩
  have o2:decide (okC 3500 d∧okP 3500 L[i])=true:=aqs ⟨dB h.2.1 (by decide) (by decide),ox⟩
  have hf:(L.drop i).filter (jv c d)=bif jv c d L[i]then L[i]::(L.drop (i+1)).filter (jv c d)else(L.drop (i+1)).filter (jv c d):=by
   rw[hd,List.filter_cons]
   cases jv c d L[i]<;>rfl
  cases hb:jv c d L[i]
  ·rw[hb]at hf
   obtain⟨n,hn⟩:=ih (i+1) (by omega) r3 (by omega) h3
   refine qb _ _ _ _ ⟨n,?_⟩
   rw[hf]
   dsimp only[cond_false]
   rw[←hn]
   unfold jv at hb
   unfold mY
   rw[hL,cd hil,g2,e2]
   dsimp only
   try rw[g3]
   try dsimp only
   rw[o1,o2]
   dsimp only
   cases h1:onR (dC c) (dec L[i])
   ·rfl
   ·rw[h1,aqx]at hb
    rw[hb]
  ·rw[hb]at hf
   obtain⟨n,hn⟩:=ih (i+1) (by omega) (r3++[L[i]]) (by simp;omega) (fun x hx'=>by
    rcases aq7.1 hx' with h'|h'
    ·exact h3 x h'
    ·have:x=L[i]:=by simpa using h'
     rw[this];exact hx)
   refine qb _ _ _ _ ⟨n,?_⟩
   rw[hf]
   dsimp only[cond_true]
   rw[arR]at hn
   refine Eq.trans ?_ hn
   unfold jv at hb
   obtain⟨h1,h2⟩:=ar2.1 hb
   unfold mY
   rw[hL,cd hil,g2,e2]
   dsimp only
   try rw[g3]
   try dsimp only
   rw[o1,o2,h1,h2]
   dsimp only
   rw[dT (by simp;omega)]
theorem zA(c d:BCU)(h:rU c d)(L:List BP)(hL:[c.2.2.2.2.1,c.2.2.2.2.2,d.2.2.2.2.1,d.2.2.2.2.2]=L)(h4:L.length≤4)(ho:∀x∈L,okP 500 x):∀(j i:Nat),i+j=L.length→∀r3:List BP,r3.length≤i→(∀x∈r3,okP 500 x)→
  oH.Runs 18 (ii c d (i:Int) r3) [.d (.sl tP) (fI (dC c) (r3++(L.drop i).filter (jv c d))),.d .bool (ko (dC c) (dC d)&&zd (dC (wq c d)) (fI (dC c) (r3++(L.drop i).filter (jv c d))))]:=by
 intro j
 induction j with
 |zero=>
  intro i hi r3 hr h3
  obtain⟨n,hn⟩:=Hz c d h r3 (by omega) h3
  refine lG _ _ _ _ ⟨n,?_⟩
  have hd:L.drop i=[]:=as1.2 (by omega)
  rw[hd,List.filter_nil,ark,←hn]
  unfold je
  rw[hL,cF (by omega)]
  have hs:rT c r3:=⟨dB h.1.1 (by decide) (by decide),by omega,fun x hx=>cI (h3 x hx) (by decide) (by decide)⟩
  have o1:decide (okP 4000 c.2.2.2.2.1∧okP 4000 c.2.2.2.2.2)=true:=aqs ⟨cI h.1.1.2.2.1 (by decide) (by decide),cI h.1.1.2.2.2 (by decide) (by decide)⟩
  have o2:decide (okP 4000 d.2.2.2.2.1∧okP 4000 d.2.2.2.2.2)=true:=aqs ⟨cI h.2.1.2.2.1 (by decide) (by decide),cI h.2.1.2.2.2 (by decide) (by decide)⟩
  rw[dT hs,o1,o2]
  dsimp only
  unfold wq YI bne
  simp only[aj]
  cases c.1<;>cases d.1<;>cases(c.2.2.2.1==d.2.2.2.1)<;>cases(cz (dec c.2.2.2.2.1) (dec c.2.2.2.2.2)==cz (dec d.2.2.2.2.1) (dec d.2.2.2.2.2))<;>rfl
 |succ j ih=>
  intro i hi r3 hr h3
  have hil:i<L.length:=by omega
  have e2:i64.wrap ((i:Int)+1)=((i+1:Nat):Int):=cG (by omega)
  have g2:bu L (i:Int)=some L[i]:=by rw[aI,aqt hil]
  have g3:L[((i:Int)).toNat]?=some L[i]:=by rw[show((i:Int)).toNat=i by omega,aqt hil]
  have hx:=ho _ (ars hil)
  have hd:L.drop i=L[i]::L.drop (i+1):=aqP hil
  have ox:=cI (k:=3500) hx (by decide) (by decide)
  have o1:decide (okC 3500 c∧okP 3500 L[i])=true:=aqs ⟨dB h.1.1 (by decide) (by decide),ox⟩
  have o2:decide (okC 3500 d∧okP 3500 L[i])=true:=aqs ⟨dB h.2.1 (by decide) (by decide),ox⟩
  have hf:(L.drop i).filter (jv c d)=bif jv c d L[i]then L[i]::(L.drop (i+1)).filter (jv c d)else(L.drop (i+1)).filter (jv c d):=by
   rw[hd,List.filter_cons]
   cases jv c d L[i]<;>rfl
  cases hb:jv c d L[i]
  ·rw[hb]at hf
   obtain⟨n,hn⟩:=ih (i+1) (by omega) r3 (by omega) h3
   refine lG _ _ _ _ ⟨n,?_⟩
   rw[hf]
   dsimp only[cond_false]
   rw[←hn]
   unfold jv at hb
   unfold je
   rw[hL,cd hil,g2,e2]
   dsimp only
   try rw[g3]
   try dsimp only
   rw[o1,o2]
   dsimp only
   cases h1:onR (dC c) (dec L[i])
   ·rfl
   ·rw[h1,aqx]at hb
    rw[hb]
  ·rw[hb]at hf
   obtain⟨n,hn⟩:=ih (i+1) (by omega) (r3++[L[i]]) (by simp;omega) (fun x hx'=>by
    rcases aq7.1 hx' with h'|h'
    ·exact h3 x h'
    ·have:x=L[i]:=by simpa using h'
     rw[this];exact hx)
   refine lG _ _ _ _ ⟨n,?_⟩
   rw[hf]
   dsimp only[cond_true]
   rw[arR]at hn
   refine Eq.trans ?_ hn
   unfold jv at hb
   obtain⟨h1,h2⟩:=ar2.1 hb
   unfold je
   rw[hL,cd hil,g2,e2]
   dsimp only
   try rw[g3]
   try dsimp only
   rw[o1,o2,h1,h2]
   dsimp only
   rw[dT (by simp;omega)]
theorem X8(c d:BCU)(h:rU c d):Con Tryz.prog 27 [.d tCU c,.d tCU d] [.d (.sl tP) (oe c d),.d .bool (aeK c d)]:=by
 obtain⟨h4,ho⟩:=GP h
 have hsp:tT c d:=⟨h.1.2,h.2.2⟩
 refine aN SY (show oH.Res _ _ _ from ?_)
 unfold DA at h4 ho
 unfold oe aeK oe afe DA
 cases hs:ko (dC c) (dC d)
 ·rw[hs]at h4 ho
  obtain⟨n,hn⟩:=DR c d h _ rfl h4 ho _ 0 (aq9 _) [] (aqE _) (fun x hx=>by cases hx)
  refine aaZ _ _ ⟨n,?_⟩
  unfold OU
  rw[dT hsp,hs]
  rw[hs]at hn
  exact hn
 ·rw[hs]at h4 ho
  obtain⟨n,hn⟩:=zA c d h _ rfl h4 ho _ 0 (aq9 _) [] (aqE _) (fun x hx=>by cases hx)
  refine aaZ _ _ ⟨n,?_⟩
  unfold OU
  rw[dT hsp,hs]
  rw[hs]at hn
  exact hn
def Qb:aM:=spN false true [tCU,tCU] (fun x=>decide (rU x.1 x.2.1)) (fun x=>[RV.d (.sl tP) (oe x.1 x.2.1),RV.d .bool (aeK x.1 x.2.1)])
theorem TJ:SpK 27 Qb:=spX fun x h=>X8 x.1 x.2.1 (aqr h)
def i8P(n:Int):Prop:= -128≤n∧n≤127
instance (n:Int):Decidable (i8P n):=by unfold i8P;infer_instance
def u8P(n:Int):Prop:=0≤n∧n≤255
instance (n:Int):Decidable (u8P n):=by unfold u8P;infer_instance
def atQ(n u:Int):Rat:=Rat.divInt n (u%4+1)
def FK(c:BO3):List BCU:=[(true,o00,c,false,enc (nf (dec c)),enc (m8 (dec c))),(true,o00,c,false,enc (m8 (dec c)),enc (nf (dec c)))]
abbrev tDr:Ty:=.st (.pair (.int .u8) (.pair (.int .u8) (.pair (.int .i8) (.pair (.int .i8) (.pair (.int .i8) (.pair (.int .i8) (.pair (.int .i8) (.int .i8))))))))
abbrev Cm:Ty:=.st (.pair tDr (.pair tDr (.int .u8)))
abbrev Dr:=Int×Int×Int×Int×Int×Int×Int×Int
abbrev Pce:=Dr×Dr×Int
def wa(x:Dr):Prop:=u8P x.1∧u8P x.2.1∧i8P x.2.2.1∧i8P x.2.2.2.1∧i8P x.2.2.2.2.1∧i8P x.2.2.2.2.2.1∧i8P x.2.2.2.2.2.2.1∧i8P x.2.2.2.2.2.2.2
instance (x:Dr):Decidable (wa x):=by unfold wa;infer_instance
def drA(x:Dr):Rat×Rat:=(atQ x.2.2.1 x.2.1,atQ x.2.2.2.1 x.2.1)
def drB(x:Dr):Rat×Rat:=(atQ x.2.2.2.2.1 x.2.1,atQ x.2.2.2.2.2.1 x.2.1)
def drC(x:Dr):Rat×Rat:=(atQ x.2.2.2.2.2.2.1 x.2.1,atQ x.2.2.2.2.2.2.2 x.2.1)
def drQ(x:Dr):Ln:=((drA x).1,(drA x).2,(drB x).1)
def ofL(x:Dr):List BCU:=
 bif x.1%3==2 then(bif decide ((drB x).1≤0)then []else FK (enc (drQ x)))
 else bif x.1%3==1 then(bif pi (drA x) (drB x) (drC x) !=0 then []else [uT (drA x) (drB x) (drC x)])
 else bif pn (drA x) (drB x) !=0 then []else [uG (drA x) (drB x)]
theorem Io{u k:Int}(h:u8P u):Int.tmod u k=u%k:=Int.tmod_eq_emod_of_nonneg h.1
theorem v5{n u:Int}(h:i8P n)(_h':u8P u):Bb (atQ n u) 7 2:=by
 unfold atQ
 obtain⟨h1,h2⟩:=h
 exact VT (by omega) (by show n.natAbs≤128;omega) (by show(u%4+1).natAbs≤4;omega)
theorem Con.dd{P:Program}{f:Nat}{args:List SV}{et:TypeId}{e:Ty}{xs:List e.D}{r:RV}(h:Con P f args [r])(hr:r=.new et e xs∨r=.d (.sl e) xs):Con P f args [.d (.sl e) xs]:=by
 rcases hr with rfl|rfl
 ·exact Con.new_d h
 ·exact h
def Gl:Env:=[(52,rV),(175,E4),(78,fo),(46,zx),(48,yw)]
theorem uo:EnvAll Tryz.prog Gl:=⟨qt,Co,dR,xV,wP,trivial⟩
def alt:Ctx:=CX Gl []
def abU(n u:Int)(_k:KT):Option (List RV):=match decide (qi (i64.wrap n) (i64.wrap ((i64.wrap (Int.tmod u 4))+1)))with|true=>some [RV.d tR (hid (ag (Rat.divInt (i64.wrap n) (i64.wrap ((i64.wrap (Int.tmod u 4))+1)))))]|false=>none
theorem ajb(n u:Int):RS alt 91 [.d (.int .i8) n,.d (.int .u8) u] (abU n u):=rsX
theorem XQ(n u:Int)(h:i8P n∧u8P u):Con Tryz.prog 91 [.d (.int .i8) n,.d (.int .u8) u] [.d tR (ag (atQ n u))]:=by
 refine aN uo (ajb _ _ ⟨0,?_⟩)
 obtain⟨hn,hu⟩:=h
 have e0:=Io (k:=4) hu
 obtain⟨n1,n2⟩:=hn
 unfold abU
 rw[e0,bi (x:=n) (by omega) (by omega),bi (x:=u%4) (by omega) (by omega),bi (x:=u%4+1) (by omega) (by omega),dT (show qi n (u%4+1) from⟨⟨by omega,by omega⟩,⟨by omega,by omega⟩,by omega⟩)]
 simp only[aj]
 rfl
def anO:Ctx:=CX Gl []
def abJ(c:BO3)(_k:KT):Option (List RV):=match decide (cW c)with|true=>some [RV.new 43 tCU ([(true,((((false,[]),(false,[])),(((false,[]),(false,[])),((false,[]),(false,[])))),(c,(false,(hid (enc (nf (dec c))),hid (enc (m8 (dec c)))))))),(true,((((false,[]),(false,[])),(((false,[]),(false,[])),((false,[]),(false,[])))),(c,(false,(hid (enc (m8 (dec c))),hid (enc (nf (dec c))))))))])]|false=>none
theorem anu(c:BO3):RS anO 92 [.d tO c] (abJ c):=rsX
theorem Z0(c:BO3)(h:cW c):Con Tryz.prog 92 [.d tO c] [.d (.sl tCU) (FK c)]:=by
 refine Con.new_d (et:=43) (aN uo (anu _ ⟨0,?_⟩))
 unfold abJ
 rw[dT h]
 simp only[aj]
 rfl
def OM:aM:=spN false true [(.int .i8),(.int .u8)] (fun x=>decide (i8P x.1∧u8P x.2.1)) (fun x=>[RV.d tR (hid (ag (atQ x.1 x.2.1)))])
theorem LC:SpK 91 OM:=spX fun x h=>by simp only[aj];exact XQ x.1 x.2.1 (aqr h)
def N8:aM:=spN false true [tO] (fun x=>decide (cW x.1)) (fun x=>[RV.d (.sl tCU) (FK x.1)])
theorem LA:SpK 92 N8:=spX fun x h=>Z0 x.1 (aqr h)
def aaF:Env:=(91,OM)::(92,N8)::Gl
theorem RZ:EnvAll Tryz.prog aaF:=⟨LC,LA,uo⟩
def abL:Ctx:=CX aaF []
def Ly(x:Dr)(_k:KT):Option (List RV):=match decide (i8P x.2.2.1∧u8P x.2.1)with|true=>(match decide (i8P x.2.2.2.1∧u8P x.2.1)with|true=>(match decide (i8P x.2.2.2.2.1∧u8P x.2.1)with|true=>(match decide (i8P x.2.2.2.2.2.1∧u8P x.2.1)with|true=>(match(Int.tmod x.1 3)==2 with|true=>(match decide (i8P x.2.2.2.2.1∧u8P x.2.1)with|true=>(match decide (okR (hid (ag (atQ x.2.2.2.2.1 x.2.1))))with|true=>(match decide ((aS (ab (hid (ag (atQ x.2.2.2.2.1 x.2.1)))) 0)≤0)with|true=>some [RV.new 43 tCU []]|false=>(match decide (cW (hid (ag (atQ x.2.2.1 x.2.1)),(hid (ag (atQ x.2.2.2.1 x.2.1)),hid (ag (atQ x.2.2.2.2.1 x.2.1)))))with|true=>some [RV.d (.sl tCU) (FK (hid (ag (atQ x.2.2.1 x.2.1)),(hid (ag (atQ x.2.2.2.1 x.2.1)),hid (ag (atQ x.2.2.2.2.1 x.2.1)))))]|false=>none))|false=>none)|false=>none)|false=>(match decide (ok (Rat×Rat) 100 (hid (ag (atQ x.2.2.1 x.2.1)),hid (ag (atQ x.2.2.2.1 x.2.1)))∧ok (Rat×Rat) 100 (hid (ag (atQ x.2.2.2.2.1 x.2.1)),hid (ag (atQ x.2.2.2.2.2.1 x.2.1))))with|true=>(match(Int.tmod x.1 3)==1 with|true=>(match decide (i8P x.2.2.2.2.2.2.1∧u8P x.2.1)with|true=>(match decide (i8P x.2.2.2.2.2.2.2∧u8P x.2.1)with|true=>(match decide (ok (Rat×Rat) 100 (hid (ag (atQ x.2.2.1 x.2.1)),hid (ag (atQ x.2.2.2.1 x.2.1)))∧ok (Rat×Rat) 100 (hid (ag (atQ x.2.2.2.2.1 x.2.1)),hid (ag (atQ x.2.2.2.2.2.1 x.2.1)))∧ok (Rat×Rat) 100 (hid (ag (atQ x.2.2.2.2.2.2.1 x.2.1)),hid (ag (atQ x.2.2.2.2.2.2.2 x.2.1))))with|true=>(match(pi (dec (hid (ag (atQ x.2.2.1 x.2.1)),hid (ag (atQ x.2.2.2.1 x.2.1)))) (dec (hid (ag (atQ x.2.2.2.2.1 x.2.1)),hid (ag (atQ x.2.2.2.2.2.1 x.2.1)))) (dec (hid (ag (atQ x.2.2.2.2.2.2.1 x.2.1)),hid (ag (atQ x.2.2.2.2.2.2.2 x.2.1))))) !=0 with|true=>some [RV.new 43 tCU []]|false=>some [RV.new 43 tCU ([hid (uT (dec (hid (ag (atQ x.2.2.1 x.2.1)),hid (ag (atQ x.2.2.2.1 x.2.1)))) (dec (hid (ag (atQ x.2.2.2.2.1 x.2.1)),hid (ag (atQ x.2.2.2.2.2.1 x.2.1)))) (dec (hid (ag (atQ x.2.2.2.2.2.2.1 x.2.1)),hid (ag (atQ x.2.2.2.2.2.2.2 x.2.1)))))])])|false=>none)|false=>none)|false=>none)|false=>(match(pn (dec (hid (ag (atQ x.2.2.1 x.2.1)),hid (ag (atQ x.2.2.2.1 x.2.1)))) (dec (hid (ag (atQ x.2.2.2.2.1 x.2.1)),hid (ag (atQ x.2.2.2.2.2.1 x.2.1))))) !=0 with|true=>some [RV.new 43 tCU []]|false=>some [RV.new 43 tCU ([hid (uG (dec (hid (ag (atQ x.2.2.1 x.2.1)),hid (ag (atQ x.2.2.2.1 x.2.1)))) (dec (hid (ag (atQ x.2.2.2.2.1 x.2.1)),hid (ag (atQ x.2.2.2.2.2.1 x.2.1)))))])]))|false=>none))|false=>none)|false=>none)|false=>none)|false=>none
theorem akG(x:Dr):RS abL 26 [.d tDr x] (Ly x):=rsX
theorem ZK(x:Dr)(h:wa x):Con Tryz.prog 26 [.d tDr x] [.d (.sl tCU) (ofL x)]:=by
 obtain⟨h1,h2,hA,hB,hC,hD,hE,hF⟩:=h
 have at_bd:∀n,i8P n→Bd (atQ n x.2.1) 1:=fun n hn=>BL (h:=v5 hn h2) (by decide) (by decide)
 have bA:=at_bd _ hA
 have bB:=at_bd _ hB
 have bC:=at_bd _ hC
 have bD:=at_bd _ hD
 have bE:=at_bd _ hE
 have bF:=at_bd _ hF
 have vA:Bd (drA x) 1:=inferInstanceAs (Bd (atQ x.2.2.1 x.2.1,atQ x.2.2.2.1 x.2.1) _)
 have vB:Bd (drB x) 1:=inferInstanceAs (Bd (atQ x.2.2.2.2.1 x.2.1,atQ x.2.2.2.2.2.1 x.2.1) _)
 have vC:Bd (drC x) 1:=inferInstanceAs (Bd (atQ x.2.2.2.2.2.2.1 x.2.1,atQ x.2.2.2.2.2.2.2 x.2.1) _)
 have eA:((ag (atQ x.2.2.1 x.2.1),ag (atQ x.2.2.2.1 x.2.1)):BV)=enc (drA x):=rfl
 have eB:((ag (atQ x.2.2.2.2.1 x.2.1),ag (atQ x.2.2.2.2.2.1 x.2.1)):BV)=enc (drB x):=rfl
 have eC:((ag (atQ x.2.2.2.2.2.2.1 x.2.1),ag (atQ x.2.2.2.2.2.2.2 x.2.1)):BV)=enc (drC x):=rfl
 have eQ:((ag (atQ x.2.2.1 x.2.1),ag (atQ x.2.2.2.1 x.2.1),ag (atQ x.2.2.2.2.1 x.2.1)):BO3)=enc (drQ x):=rfl
 have tm:=Io (k:=3) h1
 have run:∀r:RV,Ly x (abL.k 0)=some [r]→(r=.new 43 tCU (ofL x)∨r=.d (.sl tCU) (ofL x))→Con Tryz.prog 26 [.d tDr x] [.d (.sl tCU) (ofL x)]:=fun r e g=>Con.dd (aN RZ (akG _ ⟨0,e⟩)) g
 unfold Ly at run
 unfold ofL at run ⊢
 simp only[aj,ak,av,okd,aT,aqv,aqw,Nat.reduceLeDiff,tm,eQ,eA,eB,eC,dT (show i8P _∧u8P _ from⟨hA,h2⟩),dT (show i8P _∧u8P _ from⟨hB,h2⟩),dT (show i8P _∧u8P _ from⟨hC,h2⟩),dT (show i8P _∧u8P _ from⟨hD,h2⟩),dT (show i8P _∧u8P _ from⟨hE,h2⟩),dT (show i8P _∧u8P _ from⟨hF,h2⟩)]at run
 cases h3:x.1%3==2
 ·simp only[h3,cond_false]at run ⊢
  cases h4:x.1%3==1
  ·simp only[h4,cond_false]at run ⊢
   cases h5:pn (drA x) (drB x) !=0
   ·simp only[h5,cond_false]at run ⊢
    exact run _ rfl (.inl rfl)
   ·simp only[h5,cond_true]at run ⊢
    exact run _ rfl (.inl rfl)
  ·simp only[h4,cond_true]at run ⊢
   cases h5:pi (drA x) (drB x) (drC x) !=0
   ·simp only[h5,cond_false]at run ⊢
    exact run _ rfl (.inl rfl)
   ·simp only[h5,cond_true]at run ⊢
    exact run _ rfl (.inl rfl)
 ·simp only[h3,cond_true]at run ⊢
  have e1:(drB x).1=atQ x.2.2.2.2.1 x.2.1:=rfl
  by_cases h5:(drB x).1≤0
  ·rw[aqs h5]at run ⊢
   refine run _ ?_ (.inl rfl)
   rw[CC,←e1,aqs h5]
   rfl
  ·rw[aqu h5]at run ⊢
   have ok:cW (enc (drQ x)):=ld (h:=⟨bA.mono (by decide),bB.mono (by decide),bC.mono (by decide)⟩) (show 0<(drB x).1 by grind)
   refine run _ ?_ (.inr rfl)
   rw[CC,←e1,aqu h5]
   simp only[aqs ok]
   rfl
def Ul:aM:=spN false true [tDr] (fun x=>decide (wa x.1)) (fun x=>[RV.d (.sl tCU) (ofL x.1)])
theorem U5:SpK 26 Ul:=spX fun x h=>ZK x.1 (aqr h)
section
namespace RE
abbrev PE:=RE×RE
def crs(u w:PE):RE:=u.1*w.2-u.2*w.1
def dtE(u w:PE):RE:=u.1*w.1+u.2*w.2
def Kq(a b c:Int):Bool:=bif decide (0≤a)then decide (0≤b)&&decide (0≤c)else !(decide (c<0)&&decide (b<0))
theorem sub_zero(x:RE):x-0=x:=by
 induction x using aqq
 exact snd fun n=>by
  simp only[RL.add,RL.neg,RL.const]
  grind
theorem zero_sub(x:RE):0-x= -x:=by
 induction x using aqq
 exact snd fun n=>by
  simp only[RL.add,RL.neg,RL.const]
  grind
theorem zN(x y:RE):((x-(y)))+((0-(x-y)))=0:=by
 induction x using aqq
 induction y using aqq
 exact snd fun n=>by
  simp only[RL.add,RL.neg,RL.const]
  grind
theorem Ef(x y:RE)(h1:x-y=0):x≤y:=fun hg=>far (aU (a8 hg) (aR (jx h1))) (zN x y)
theorem zS(x y:RE):((y-(x)))+((x-y-(0)))=0:=by
 induction x using aqq
 induction y using aqq
 exact snd fun n=>by
  simp only[RL.add,RL.neg,RL.const]
  grind
theorem DP(x y:RE)(h1:x-y=0):y≤x:=fun hg=>far (aU (a8 hg) (aR (lM h1))) (zS x y)
theorem mW(x y:RE)(h1:x-y=0):x=y:=le_antisymm (Ef x y h1) (DP x y h1)
theorem Cb(x y:RE):((x-(y)))+((0-(x-y)))=0:=by
 induction x using aqq
 induction y using aqq
 exact snd fun n=>by
  simp only[RL.add,RL.neg,RL.const]
  grind
theorem IH(x y:RE)(h1:x-y≤0):x≤y:=fun hg=>far (aU (a8 hg) (aR h1)) (Cb x y)
theorem I8(x y:RE):((x-y-(0)))+((y-(x)))=0:=by
 induction x using aqq
 induction y using aqq
 exact snd fun n=>by
  simp only[RL.add,RL.neg,RL.const]
  grind
theorem Xo(x y:RE)(h1:x≤y):x-y≤0:=fun hg=>far (aU (a8 hg) (aR h1)) (I8 x y)
section
variable {u w:PE} {Q:RE} {L:List RE}
end
def frm(c:Ln)(p:PE):PE:=(p.1-of c.1,p.2-of c.2.1)
def alC(u w z:PE):Bool:=Kq (sg (crs u w)) (sg (crs u z)) (sg (crs z w))
def UI(c:Ln)(p:PE):Prop:=(frm c p).1*(frm c p).1+(frm c p).2*(frm c p).2=of c.2.2
def aiS(l:Ln)(p:PE):Prop:=of l.1*p.1+of l.2.1*p.2=of l.2.2
def tE(l:Ln)(p:PE):RE:= -of l.2.1*p.1+of l.1*p.2
def pi(c:Ln)(F T p:PE):Prop:=UI c p∧alC (frm c F) (frm c T) (frm c p)=true
def btE(a b x:RE):Prop:=(a≤x∧x≤b)∨(b≤x∧x≤a)
def pn(l:Ln)(F T p:PE):Prop:=aiS l p∧btE (tE l F) (tE l T) (tE l p)
structure GdE (c:Cv):Prop where
 f:Rpd (frC c)
 t:Rpd (toC c)
 ne:pR (frC c)≠pR (toC c)
 q:c.1=true→0<(ciC c).2.2∧onCi (ciC c) (frC c)∧onCi (ciC c) (toC c)
 l:c.1=false→((lnC c).1≠0∨(lnC c).2.1≠0)∧ahz (lnC c) (frC c)∧ahz (lnC c) (toC c)
theorem z8{c:Ln}{p:Pt}[Rpd p]:(lF c p==0)=true↔UI c (pR p):=by
 rw[asi]
 refine⟨fun h=>yH h,fun h=>?_⟩
 rw[Ad]
 have:(pX p-of c.1)*(pX p-of c.1)+(pY p-of c.2.1)*(pY p-of c.2.1)=of c.2.2:=h
 rw[this,mF,eu]
 rfl
theorem YN{l:Ln}{p:Pt}[Rpd p]:(nB l p==0)=true↔aiS l (pR p):=by
 rw[asi]
 refine⟨fun h=>Eb h,fun h=>?_⟩
 rw[yS]
 have:of l.1*pX p+of l.2.1*pY p=of l.2.2:=h
 rw[this,mF,eu]
theorem Z6(a b x:RE):akc (sg (a-b)) (sg (a-x)) (sg (x-b)) (sg (x-a)) (sg (b-x))=true↔btE a b x:=by
 have h1:∀y z:RE,sg (y-z)≤0↔y≤z:=fun y z=>by
  rw[amQ]
  exact⟨fun h=>IH _ _ h,fun h=>Xo _ _ h⟩
 unfold akc btE
 cases h:decide (sg (a-b)>0)
 ·have h2:a≤b:=(h1 _ _).1 (by have:=arw h;omega)
  simp only[cond_false,aqB,asz,h1]
  exact⟨fun h=>.inl h,fun h'=>h'.elim id (fun g=>⟨le_trans h2 g.1,le_trans g.2 h2⟩)⟩
 ·have h2:b≤a:=by
   have:=aqr h
   rcases lt_or_ge a b with g|g
   ·rw[jO (sT _ _ g)]at this
    omega
   ·exact g
  simp only[cond_true,aqB,asz,h1]
  exact⟨fun h=>.inr ⟨h.1,h.2⟩,fun h'=>h'.elim (fun g=>⟨le_trans h2 g.1,le_trans g.2 h2⟩) (fun g=>⟨g.1,g.2⟩)⟩
end RE
end
def vcR(x y:Int):Rat×Rat:=((x:Rat),(y:Rat))
instance ajm:Bd (-1:Rat) 3:=cP (n:= -1) (by decide)
theorem iI{v:Rat×Rat}{j k:Nat}[h:Bd v j](hj:mx j (mx 1 (mx j (mx 1 1)))≤k)(hk:k≤480000):okP k (enc (atP v)):=aqr (bg (x:=atP v) hj hk)
instance aqd {x y:Int} {i j:Nat} [h:Bd (x:Rat) i] [h':Bd (y:Rat) j]:Bd (vcR x y) (mx i j):=inferInstanceAs (Bd (((x:Rat),(y:Rat)):Rat×Rat) _)
section
namespace RE
theorem lY{p q:Pt}[Rpd p][Rpd q]:cz p q=0↔pR p=pR q:=by
 rw[yz]
 obtain⟨h1,h2,h3⟩:=Ac (pR p) (pR q)
 rcases tz.tri (pR p) (pR q)with h|h|h
 ·rw[h1 h]
  exact⟨fun e=>absurd e (by decide),fun e=>absurd h (by rw[e];exact tz.irr _)⟩
 ·exact⟨fun _=>h,fun _=>h2 h⟩
 ·rw[h3 h]
  exact⟨fun e=>absurd e (by decide),fun e=>absurd h (by rw[e];exact tz.irr _)⟩
theorem Bf(v:Rat×Rat):pR (atP v)=(of v.1,of v.2):=ath (anh v) (aog v)
theorem Tl{ax bx c:Rat}(h:ec c=true):of (ax+bx*rtQ c)=v2 ax bx c:=by
 unfold v2
 rw[of_add,cE,Q1 h]
theorem Ay(ax bx ay b_ c:Rat):pR (ky ax bx ay b_ c)=(v2 ax bx c,v2 ay b_ c):=by
 unfold ky
 cases h:ec c
 ·rfl
 ·exact(Bf _).trans (ath (Tl h) (Tl h))
theorem af6(a b r:RE):(a+ -1*r-a)*(a+ -1*r-a)+(b+0*r-b)*(b+0*r-b)=r*r:=by
 induction a using aqq
 induction b using aqq
 induction r using aqq
 exact snd fun n=>by
  simp only[RL.add,RL.mul,RL.neg,RL.const]
  grind
theorem ZV(a b r:RE):(a+1*r-a)*(a+1*r-a)+(b+0*r-b)*(b+0*r-b)=r*r:=by
 induction a using aqq
 induction b using aqq
 induction r using aqq
 exact snd fun n=>by
  simp only[RL.add,RL.mul,RL.neg,RL.const]
  grind
theorem KB(a r:RE):of 2*((r-(0)))+((a+ -1*r-(a+1*r)))=0:=by
 induction a using aqq
 induction r using aqq
 exact snd fun n=>by
  simp only[RL.add,RL.mul,RL.neg,RL.const]
  grind
theorem Wu(a r:RE)(h1:a+ -1*r=a+1*r):r≤0:=fun hg=>far (aU (Ic (by decide+kernel:(0:Rat)<2) (a8 hg)) (aR (lM h1))) (KB a r)
theorem Jz(a r:RE):of 2*((0-(r)))+((a+1*r-(a+ -1*r)))=0:=by
 induction a using aqq
 induction r using aqq
 exact snd fun n=>by
  simp only[RL.add,RL.mul,RL.neg,RL.const]
  grind
theorem ZS(a r:RE)(h1:a+ -1*r=a+1*r):0≤r:=fun hg=>far (aU (Ic (by decide+kernel:(0:Rat)<2) (a8 hg)) (aR (jx h1))) (Jz a r)
theorem ael(a r:RE)(h1:a+ -1*r=a+1*r):r=0:=le_antisymm (Wu a r h1) (ZS a r h1)
theorem agU{c:Ln}(h:0<c.2.2):UI c (pR (nf c))∧UI c (pR (m8 c)):=by
 have hr:=rM (show 0≤c.2.2 by grind)
 unfold nf m8
 rw[Ay,Ay]
 exact⟨(af6 _ _ _).trans hr,(ZV _ _ _).trans hr⟩
theorem WL{c:Ln}(h:0<c.2.2):pR (nf c)≠pR (m8 c):=by
 unfold nf m8
 rw[Ay,Ay]
 intro e
 have e1:=ael _ _ (congrArg Prod.fst e)
 have hr:=rM (show 0≤c.2.2 by grind)
 rw[e1,mul_zero]at hr
 have:=Eo hr
 grind
theorem Tn{l:Ln}{v:Rat×Rat}(h:l.1*v.1+l.2.1*v.2=l.2.2):(nB l (atP v)==0)=true:=by
 rw[YN,Bf]
 exact congrArg of h
theorem Ox{c:Ln}{v:Rat×Rat}(h:(v.1-c.1)*(v.1-c.1)+(v.2-c.2.1)*(v.2-c.2.1)=c.2.2):(lF c (atP v)==0)=true:=by
 rw[z8,Bf]
 unfold UI frm
 dsimp only
 rw[←of_sub,←of_sub]
 exact congrArg of h
theorem aca{v w:Rat×Rat}(h:v≠w):cz (atP v) (atP w)≠0:=fun e=>h (by
 have:=lY.1 e
 rw[Bf,Bf]at this
 exact ath (Eo (congrArg Prod.fst this)) (Eo (congrArg Prod.snd this)))
end RE
open RE
def gdN(c:BCU):Prop:=mG c∧gQ (dC c) (frC (dC c))=true∧gQ (dC c) (toC (dC c))=true∧cz (frC (dC c)) (toC (dC c))≠0
theorem gdN.gd{c:BCU}(h:gdN c):gdC c:=⟨h.1.1,h.2.1,h.2.2.1⟩
theorem ahA{a b:Rat×Rat}[ba:Bd a 1][bb:Bd b 1](h:wg a b=false):gdN (uG a b):=by
 have hz:(pF a b).1≠0∨(pF a b).2.1≠0:=by
  unfold wg at h
  by_cases e:a.2-b.2=0
  ·rw[aqs e,aqx]at h
   exact .inr (arw h)
  ·exact .inl e
 have hne:a≠b:=fun e=>by
  subst e
  unfold pF at hz
  rcases hz with h|h<;>exact h (by show _-_=(0:Rat);grind)
 have b1:Bd (pF a b).1 12:=(inferInstance:Bd (a.2-b.2) _).mono (by decide)
 have b2:Bd (pF a b).2.1 12:=(inferInstance:Bd (b.1-a.1) _).mono (by decide)
 have b3:Bd (pF a b).2.2 63:=(inferInstance:Bd ((a.2-b.2)*a.1+(b.1-a.1)*a.2) _).mono (by decide)
 have hl:=qK (h:=⟨b1,b2,b3⟩) hz
 have hL:Mc (enc (pF a b)):=⟨aqr (okd (x:=pF a b) (by decide) (by decide)),by rw[ak];exact hz⟩
 unfold uG
 rw[h]
 refine⟨⟨⟨fun e=>(by cases e),fun _=>hL,iI (by decide) (by decide),iI (by decide) (by decide)⟩,fun e=>(by cases e),fun _=>hl⟩,?_⟩
 simp only[dC,gQ,frC,toC,lnC,ak,cond_false]
 exact⟨Tn (by unfold pF;grind),Tn (by unfold pF;grind),aca hne⟩
theorem agy{c:Ln}[bc:BdC c](h:0<c.2.2):∀d∈FK (enc c),gdN d:=by
 have hs:=ld h
 have bx:=bc.x
 have b_:=bc.y
 have bq:=bc.q
 have b0:Bd (0:Rat) 3:=cP (n:=0) (by decide)
 have b1:Bd (1:Rat) 3:=cP (n:=1) (by decide)
 have hC:nY (enc c):=⟨aqr (okd (h:=Lq (c:=c)) (by decide) (by decide)),by rw[ak];exact h⟩
 have q0:(0:Rat)≤c.2.2:=by grind
 have pl:Rpd (nf c):=yX (fun e=>absurd e.1 (by decide)) q0
 have pr:Rpd (m8 c):=yX (fun e=>absurd e.1 (by decide)) q0
 have bl:Bd (nf c) 490:=Al (bx.mono (by decide:4≤4)) (ajm.mono (by decide:3≤3)) b_ b0 bq (by decide)
 have br:Bd (m8 c) 490:=Al (bx.mono (by decide:4≤4)) b1 b_ b0 bq (by decide)
 have ol:okP 500 (enc (nf c)):=aqr (bg (by decide) (by decide))
 have or_:okP 500 (enc (m8 c)):=aqr (bg (by decide) (by decide))
 obtain⟨nl,nr_⟩:=agU h
 have nl:=z8.2 nl
 have nr_:=z8.2 nr_
 have ne:=WL h
 intro d hd
 have:d=(true,o00,enc c,false,enc (nf c),enc (m8 c))∨d=(true,o00,enc c,false,enc (m8 c),enc (nf c)):=by
  unfold FK at hd
  rw[ak]at hd
  simpa using hd
 rcases this with e|e<;>rw[e]
 ·refine⟨⟨⟨fun _=>hC,fun e=>(by cases e),ol,or_⟩,fun _=>hs,fun e=>(by cases e)⟩,?_⟩
  simp only[dC,gQ,frC,toC,ciC,ak,cond_true]
  exact⟨nl,nr_,fun e=>ne (lY.1 e)⟩
 ·refine⟨⟨⟨fun _=>hC,fun e=>(by cases e),or_,ol⟩,fun _=>hs,fun e=>(by cases e)⟩,?_⟩
  simp only[dC,gQ,frC,toC,ciC,ak,cond_true]
  exact⟨nr_,nl,fun e=>ne (lY.1 e).symm⟩
theorem adN{a b c:Rat×Rat}(h:dL a b c≠0):(c.1-(ni a b c).1)*(c.1-(ni a b c).1)+(c.2-(ni a b c).2.1)*(c.2-(ni a b c).2.1)=(ni a b c).2.2:=by
 have h2:dL a b c+dL a b c≠0:=by grind
 have eX:uj a b c*(dL a b c+dL a b c)=_:=Rat.div_mul_cancel h2
 have eY:vT a b c*(dL a b c+dL a b c)=_:=Rat.div_mul_cancel h2
 unfold ni
 dsimp only
 generalize uj a b c=X at*
 generalize vT a b c=Y at*
 have k:dL a b c*(2*((c.1-a.1)*X+(c.2-a.2)*Y)-((c.1-a.1)*(c.1-a.1)+(c.2-a.2)*(c.2-a.2)))=0:=by
  unfold dL at*
  grind
 rcases atk.1 k with g|g
 ·exact absurd g h
 ·grind
theorem ajq{a b c:Rat×Rat}(h:dL a b c≠0)(e:a=c):False:=by
 subst e
 refine h ?_
 unfold dL
 grind
theorem ahO{a b c:Rat×Rat}[a1:Bb a.1 7 2][a2:Bb a.2 7 2][b1:Bb b.1 7 2][b2:Bb b.2 7 2][c1:Bb c.1 7 2][c2:Bb c.2 7 2]:BdC (ni a b c):=by
 have d:Bb ((b.1-a.1)*(c.2-a.2)-(b.2-a.2)*(c.1-a.1)) _ _:=inferInstance
 have d:Bb (dL a b c) _ _:=d
 have X:Bb ((((b.1-a.1)*(b.1-a.1)+(b.2-a.2)*(b.2-a.2))*(c.2-a.2)-((c.1-a.1)*(c.1-a.1)+(c.2-a.2)*(c.2-a.2))*(b.2-a.2))/(dL a b c+dL a b c)) _ _:=inferInstance
 have X:Bb (uj a b c) _ _:=X
 have Y:Bb ((((c.1-a.1)*(c.1-a.1)+(c.2-a.2)*(c.2-a.2))*(b.1-a.1)-((b.1-a.1)*(b.1-a.1)+(b.2-a.2)*(b.2-a.2))*(c.1-a.1))/(dL a b c+dL a b c)) _ _:=inferInstance
 have Y:Bb (vT a b c) _ _:=Y
 have x1:Bb (a.1+uj a b c) _ _:=inferInstance
 have x2:Bb (a.2+vT a b c) _ _:=inferInstance
 have x3:Bb (uj a b c*uj a b c+vT a b c*vT a b c) _ _:=inferInstance
 exact⟨BL (h:=x1) (by decide) (by decide),BL (h:=x2) (by decide) (by decide),BL (h:=x3) (by decide) (by decide)⟩
theorem yb{x y:Rat}(h:¬(x=0∧y=0)):0<x*x+y*y:=by
 have nn:∀a:Rat,0≤a*a:=fun a=>by
  rcases(by grind:0≤a∨0≤ -a)with h|h
  ·exact ari h h
  ·have:=ari h h;grind
 have h1:=nn x
 have h2:=nn y
 rcases(by grind:0<x*x+y*y∨(x*x=0∧y*y=0))with g|⟨g1,g2⟩
 ·exact g
 ·exact absurd ⟨by simpa using atk.1 g1,by simpa using atk.1 g2⟩ h
theorem ahw{a b c:Rat×Rat}[Bd a 1][Bd c 1][bc:BdC (ni a b c)](h:dL a b c≠0):gdN (uT a b c):=by
 have hon:=adN h
 have hne:a≠c:=fun e=>ajq h e
 have hq:0<(ni a b c).2.2:=by
  refine yb fun⟨e1,e2⟩=>hne ?_
  unfold ni at hon
  dsimp only at hon
  rw[e1,e2]at hon
  by_cases g:c.1-(a.1+0)=0∧c.2-(a.2+0)=0
  ·obtain⟨g1,g2⟩:=g
   exact ath (by grind) (by grind)
  ·have:=yb g
   grind
 have hs:=ld (h:=bc) hq
 have bx:=bc.x
 have b_:=bc.y
 have bq:=bc.q
 have hC:nY (enc (ni a b c)):=⟨aqr (okd (h:=Lq (c:=ni a b c)) (by decide) (by decide)),by rw[ak];exact hq⟩
 unfold uT
 rw[aqu h]
 refine⟨⟨⟨fun _=>hC,fun e=>(by cases e),iI (by decide) (by decide),iI (by decide) (by decide)⟩,fun _=>hs,fun e=>(by cases e)⟩,?_⟩
 simp only[dC,gQ,frC,toC,ciC,ak,cond_true,cond_false]
 refine⟨Ox ?_,Ox hon,aca hne⟩
 unfold ni
 grind
theorem Ch{x:Dr}(h:wa x):∀c∈ofL x,gdN c:=by
 obtain⟨h1,h2,hA,hB,hC,hD,hE,hF⟩:=h
 have a1:Bb (drA x).1 7 2:=v5 hA h2
 have a2:Bb (drA x).2 7 2:=v5 hB h2
 have b1:Bb (drB x).1 7 2:=v5 hC h2
 have b2:Bb (drB x).2 7 2:=v5 hD h2
 have c1:Bb (drC x).1 7 2:=v5 hE h2
 have c2:Bb (drC x).2 7 2:=v5 hF h2
 have l:∀{q:Rat},Bb q 7 2→Bd q 1:=fun h=>BL (h:=h) (by decide) (by decide)
 have m:∀v:Rat×Rat,Bb v.1 7 2→Bb v.2 7 2→Bd v 1:=fun v g g'=>by
  have:=l g
  have:=l g'
  exact inferInstanceAs (Bd (v.1,v.2) _)
 have vA:=m _ a1 a2
 have vB:=m _ b1 b2
 have vC:=m _ c1 c2
 intro c hc
 unfold ofL at hc
 cases h3:x.1%3==2
 ·rw[h3,cond_false]at hc
  cases h4:x.1%3==1
  ·rw[h4,cond_false]at hc
   cases h5:wg (drA x) (drB x)
   ·have:pn (drA x) (drB x)=0:=by unfold pn;rw[h5];rfl
    rw[this]at hc
    have:c=uG (drA x) (drB x):=by simpa using hc
    rw[this]
    exact ahA h5
   ·have:pn (drA x) (drB x)=6:=by unfold pn;rw[h5];rfl
    rw[this]at hc
    cases hc
  ·rw[h4,cond_true]at hc
   by_cases h5:dL (drA x) (drB x) (drC x)=0
   ·have:pi (drA x) (drB x) (drC x)=6:=by unfold pi;rw[aqs h5];rfl
    rw[this]at hc
    cases hc
   ·have:pi (drA x) (drB x) (drC x)=0:=by unfold pi;rw[aqu h5];rfl
    rw[this]at hc
    have:c=uT (drA x) (drB x) (drC x):=by simpa using hc
    rw[this]
    have:=ahO (a:=drA x) (b:=drB x) (c:=drC x)
    exact ahw h5
 ·rw[h3,cond_true]at hc
  by_cases h5:(drB x).1≤0
  ·rw[aqs h5]at hc
   cases hc
  ·rw[aqu h5]at hc
   have bq:BdC (drQ x):=⟨(l a1).mono (by decide),(l a2).mono (by decide),(l b1).mono (by decide)⟩
   exact agy (c:=drQ x) (show 0<(drB x).1 by grind) c hc
end
end Go.Proofs.YtlahabkjhgkkjaaGreat
end
