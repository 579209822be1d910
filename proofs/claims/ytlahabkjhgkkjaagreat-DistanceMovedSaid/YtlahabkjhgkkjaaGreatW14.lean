/- Signs and comparisons: the program's contracts. -/
import Derived.Test.YtlahabkjhgkkjaaGreatW13
import Derived.Test.YtlahabkjhgkkjaaGreatW12
noncomputable section
namespace Go.Proofs.YtlahabkjhgkkjaaGreat
open Go.RowKit Go.IntKind
theorem atk:type_of% @Rat.mul_eq_zero:=@Rat.mul_eq_zero
namespace RE
theorem same_rad(a b c d r:RE):a-c+(b-d)*r=a+b*r-(c+d*r):=by
 induction a using aqq
 induction b using aqq
 induction c using aqq
 induction d using aqq
 induction r using aqq
 exact snd fun n=>by
  simp only[RL.add,RL.mul,RL.neg]
  grind
theorem afH(a b c:RE):a-b+c=a+c-b:=by
 induction a using aqq
 induction b using aqq
 induction c using aqq
 exact snd fun n=>by
  simp only[RL.add,RL.neg]
  grind
theorem vR_rat(q:Rat):vR (q,0,0)=of q:=jk q 0
theorem cmpTR_re{x:Rt}{q:Rat}(h:0≤x.2.2):d9 x q=sg (vR x-of q):=by
 unfold d9 vR
 rw[sgn2_re h]
 unfold v2
 rw[of_sub,afH]
end RE
theorem Rdd.rat{x:Rt}(h:Rdd x)(hb:x.2.1=0):x=(x.1,0,0):=by
 obtain⟨a,b,c⟩:=x
 rcases h.rd with h|h
 ·obtain⟨h1,h2⟩:=h
  simp only at h1 h2
  rw[h1,h2]
 ·exact absurd hb h.1
theorem Uy{x:Rt}{q:Rat}(h:Rdd x):bL x (q,0,0)=d9 x q:=by
 rw[RE.cmpT_re h.nn (by show(0:Rat)≤0;grind),RE.cmpTR_re h.nn,RE.vR_rat]
theorem VG{x y:Rt}(hx:Rdd x)(hy:Rdd y)(bx:x.2.1=0)(b_:y.2.1=0):bL x y=aS x.1 y.1:=by
 rw[hx.rat bx,hy.rat b_,RE.cmpT_re (by show(0:Rat)≤0;grind) (by show(0:Rat)≤0;grind),RE.vR_rat,RE.vR_rat,←RE.of_sub,RE.sg_of,um]
theorem Z8{x y:Rt}(hx:Rdd x)(hy:Rdd y)(h:(apF x y).2=true):(apF x y).1=bL x y:=by
 rw[RE.apF_ok h,RE.cmpT_re hx.nn hy.nn]
theorem yk{x y:Rt}(hx:Rdd x)(hy:Rdd y)(h:x.2.2=y.2.2):eK (x.1-y.1) (x.2.1-y.2.1) x.2.2=bL x y:=by
 rw[RE.cmpT_re hx.nn hy.nn,RE.sgn2_re hx.nn]
 unfold RE.vR RE.v2
 rw[RE.of_sub,RE.of_sub,RE.same_rad,h]
theorem ad6{A B C D M N:Rat}(hM:0≤M)(hN:0≤N)(h:(quF (A,B,C,D,M,N)).2=true):(quF (A,B,C,D,M,N)).1=sgQ (A,B,C,D,M,N):=by
 rw[RE.quF_ok (q:=(A,B,C,D,M,N)) hM hN h]
 exact(RE.sgnQ_re hM hN).symm
def G9:Env:=[(149,jr),(148,gU),(99,kx),(147,iC),(83,fW),(76,gT),(71,nH),(219,pZ),(220,yM),(259,ul)]
theorem ut:EnvAll Tryz.prog G9:=⟨fN,eH,gE,fi,eg,eI,jU,lR,th,oV,trivial⟩
def aho:Ctx:=CX G9 []
def Tp(a b:BR)(_k:KT):Option (List RV):=match decide (okR a∧okR b)with|true=>some [RV.d tR (hid (ag (ab a+ab b)))]|false=>none
theorem aeC(a b:BR):RS aho 253 [.d tR a,.d tR b] (Tp a b):=rsX
theorem KM(a b:BR)(h:okR a∧okR b):Con Tryz.prog 253 [.d tR a,.d tR b] [.d tR (ag (ab a+ab b))]:=by
 refine aN ut (aeC _ _ ⟨0,?_⟩)
 unfold Tp
 rw[dT h,aj]
def akN:Ctx:=CX G9 []
def adu(a b:BO3)(_k:KT):Option (List RV):=match decide (ok Rt 100000 a)with|true=>(match decide (ok Rt 100000 b)with|true=>(match !((bJ (dec a)).2)with|true=>some [RV.d atB 0,RV.d .bool false]|false=>(match !((bJ (dec b)).2)with|true=>some [RV.d atB 0,RV.d .bool false]|false=>(match decide (((hid ((bJ (dec a)).1)).2)<((hid ((bJ (dec b)).1)).1))with|true=>some [RV.d atB (-1),RV.d .bool true]|false=>(match decide (((hid ((bJ (dec a)).1)).1)>((hid ((bJ (dec b)).1)).2))with|true=>some [RV.d atB 1,RV.d .bool true]|false=>some [RV.d atB 0,RV.d .bool false]))))|false=>none)|false=>none
theorem anD(a b:BO3):RS akN 218 [.d tO a,.d tO b] (adu a b):=rsX
theorem WF(a b:BO3)(h:ok Rt 100000 a∧ok Rt 100000 b):Con Tryz.prog 218 [.d tO a,.d tO b] [.d atB ((apF (dec a) (dec b)).1),.d .bool ((apF (dec a) (dec b)).2)]:=by
 refine aN ut (anD _ _ ⟨0,?_⟩)
 obtain⟨ha,hb⟩:=h
 obtain⟨a,rfl,ba⟩:=aQ ha
 obtain⟨b,rfl,bb⟩:=aQ hb
 unfold adu
 simp only[aj,ak,okd,Nat.reduceLeDiff]
 unfold apF
 generalize bJ a=A
 generalize bJ b=B
 obtain⟨⟨a1,a2⟩,p⟩:=A
 obtain⟨⟨b1,b2⟩,q⟩:=B
 cases p<;>cases q<;>try rfl
 dsimp only
 cases decide (a2<b1)<;>try rfl
 cases decide (a1>b2)<;>rfl
def GH:aM:=spN false true [tR,tR] (fun x=>decide (okR x.1∧okR x.2.1)) (fun x=>[RV.d tR (hid (ag (ab x.1+ab x.2.1)))])
theorem Js:SpK 253 GH:=spX fun x h=>by simp only[aj];exact KM x.1 x.2.1 (aqr h)
def D7:aM:=spN true true [tO,tO] (fun x=>decide (ok Rt 100000 x.1∧ok Rt 100000 x.2.1)) (fun x=>[RV.d atB ((apF (dec x.1) (dec x.2.1)).1),RV.d .bool ((apF (dec x.1) (dec x.2.1)).2)])
theorem A8:SpK 218 D7:=spX fun x h=>WF x.1 x.2.1 (aqr h)
def UE:aM:=spN true true [tQ] (fun x=>decide (okQ x.1)) (fun x=>[RV.d atB ((quF (dec x.1)).1),RV.d .bool ((quF (dec x.1)).2)])
theorem Lb:SpK 252 UE:=spX fun x h=>Xx x.1 (aqr h)
def abl:Env:=(253,GH)::(218,D7)::(252,UE)::G9
theorem K1:EnvAll Tryz.prog abl:=⟨Js,A8,Lb,ut⟩
def aka:Ctx:=CX abl []
def abg(q:BQ)(_k:KT):Option (List RV):=let y1:=ab q.2.2.2.2.1;let y2:=aS (ab q.2.2.2.2.2) 0;let y3:=i64.wrap ((eK (ab q.2.2.1) (ab q.2.2.2.1) y1)*y2);let y4:=eK (ab q.1) (ab q.2.1) y1;let y5:=hid (ag (ab q.2.1*ab q.2.1));let y6:=hid (ag (ab q.1*ab q.1));let y7:=hid (ag (ab q.2.2.2.2.1*ab y5));let y8:=hid (ag (ab q.2.2.2.1*ab q.2.2.2.1));let y9:=hid (ag (ab q.2.2.1*ab q.2.2.1));let y10:=hid (ag (ab q.2.2.2.2.1*ab y8));let y11:=hid (ag (ab y9+ab y10));let y12:=hid (ag (ab y6+ab y7));let y13:=hid (ag (ab q.2.2.2.2.2*ab y11));let y14:=hid (ag (ab q.2.2.1*ab q.2.2.2.1));let y15:=hid (ag (ab q.1*ab q.2.1));let y16:=hid (ag (ab q.2.2.2.2.2*ab y14));let y17:=hid (ag (ab y15-ab y16));let y18:=hid (ag (ab y12-ab y13));let y19:=hid (ag (ab y17+ab y17));let y20:Option (List RV):=match decide (okR y15∧okR y16)with|true=>(match decide (okR y17∧okR y17)with|true=>(match decide (ok Rat 240000 y18∧ok Rat 170000 y19∧ok Rat 30000 q.2.2.2.2.1)with|true=>some [RV.d atB (i64.wrap (y4*(eK (ab y18) (ab y19) y1)))]|false=>none)|false=>none)|false=>none;let y21:Option (List RV):=match decide (okR q.2.2.2.2.2∧okR y14)with|true=>y20|false=>none;let y22:Option (List RV):=match decide (okR q.2.2.1∧okR q.2.2.2.1)with|true=>y21|false=>none;let y23:Option (List RV):=match decide (okR y12∧okR y13)with|true=>cg (match decide (okR q.1∧okR q.2.1)with|true=>cg (match decide (okR q.2.2.1∧okR q.2.2.2.1)with|true=>cg (match decide (okR q.2.2.2.2.2∧okR y14)with|true=>dup (.b .l .l) y20|false=>none) y21|false=>none) y22|false=>none) (match decide (okR q.1∧okR q.2.1)with|true=>y22|false=>none)|false=>none;let y24:Option (List RV):=match decide (okR q.2.2.2.2.2∧okR y11)with|true=>y23|false=>none;let y25:Option (List RV):=match decide (okR y9∧okR y10)with|true=>y24|false=>none;let y26:Option (List RV):=match decide (okR q.2.2.2.2.1∧okR y8)with|true=>y25|false=>none;let y27:Option (List RV):=match decide (okR q.2.2.2.1∧okR q.2.2.2.1)with|true=>y26|false=>none;let y28:Option (List RV):=match decide (okR q.2.2.1∧okR q.2.2.1)with|true=>y27|false=>none;let y29:Option (List RV):=match decide (okR y6∧okR y7)with|true=>y28|false=>none;let y30:Option (List RV):=match decide (okR q.2.2.2.2.1∧okR y5)with|true=>y29|false=>none;let y31:Option (List RV):=match decide (okR q.2.1∧okR q.2.1)with|true=>y30|false=>none;match decide (okR q.2.2.2.2.1)with|true=>(match decide ((aS y1 0)<0)with|true=>some [RV.d atB 0]|false=>(match decide (okR q.2.2.2.2.2)with|true=>(match decide (y2<0)with|true=>some [RV.d atB 0]|false=>(match decide (okQ q)with|true=>(match(quF (dec q)).2 with|true=>some [RV.d atB ((quF (dec q)).1)]|false=>(match decide (ok Rat 240000 q.1∧ok Rat 170000 q.2.1∧ok Rat 30000 q.2.2.2.2.1)with|true=>(match decide (ok Rat 240000 q.2.2.1∧ok Rat 170000 q.2.2.2.1∧ok Rat 30000 q.2.2.2.2.1)with|true=>(match decide (okR q.2.2.2.2.2)with|true=>(match y3==0 with|true=>some [RV.d atB y4]|false=>(match y4==y3 with|true=>some [RV.d atB y4]|false=>(match y4==0 with|true=>some [RV.d atB y3]|false=>cg (match decide (okR q.1∧okR q.1)with|true=>cg (match decide (okR q.2.1∧okR q.2.1)with|true=>cg (match decide (okR q.2.2.2.2.1∧okR y5)with|true=>cg (match decide (okR y6∧okR y7)with|true=>cg (match decide (okR q.2.2.1∧okR q.2.2.1)with|true=>cg (match decide (okR q.2.2.2.1∧okR q.2.2.2.1)with|true=>cg (match decide (okR q.2.2.2.2.1∧okR y8)with|true=>cg (match decide (okR y9∧okR y10)with|true=>cg (match decide (okR q.2.2.2.2.2∧okR y11)with|true=>dup (.b .l .l) y23|false=>none) y24|false=>none) y25|false=>none) y26|false=>none) y27|false=>none) y28|false=>none) y29|false=>none) y30|false=>none) y31|false=>none) (match decide (okR q.1∧okR q.1)with|true=>y31|false=>none))))|false=>none)|false=>none)|false=>none))|false=>none))|false=>none))|false=>none
theorem amX(q:BQ):RS aka 199 [.d tQ q] (abg q):=rsX
theorem W1(q:BQ)(h:okQ q):Con Tryz.prog 199 [.d tQ q] [.d atB (sgQ (dec q))]:=by
 refine aN K1 (amX _ ⟨0,?_⟩)
 obtain⟨A,B,C,D,M,N,rfl,bA,bB,bC,bD,bM,bN,hM,hN⟩:=EO h
 have hh:decide (okQ (ag A,ag B,ag C,ag D,ag M,ag N))=true:=aqs h
 have hd:(dec ((ag A,ag B,ag C,ag D,ag M,ag N):BQ):Qd)=(A,B,C,D,M,N):=ak ((A,B,C,D,M,N):Qd)
 rw[ak]
 unfold abg
 simp only[ao,aK,aj,aP,aA,av,aC,aT,aqv,aqw,Nat.reduceAdd,Nat.reduceLeDiff,oT,pG,aJ,hh,hd,aqu (show ¬M<0 by grind),aqu (show ¬N<0 by grind)]
 cases hq:(quF (A,B,C,D,M,N)).2
 ·try dsimp only
  refine(AP _ _ _).trans ?_
  unfold sgQ zK
  rw[aqu (show ¬M<0 by grind),aqu (show ¬N<0 by grind)]
  dsimp only[Bool.or_false,cond_false]
  rw[show A*B-N*(C*D)+(A*B-N*(C*D))=2*(A*B-N*(C*D)) by grind,show A*A+M*(B*B)-N*(C*C+M*(D*D))=A*A+B*B*M-N*(C*C+D*D*M) by grind]
  rfl
 ·try dsimp only
  rw[ad6 hM hN hq]
def Ex:aM:=spN true true [tQ] (fun x=>decide (okQ x.1)) (fun x=>[RV.d atB (sgQ (dec x.1))])
theorem BD:SpK 199 Ex:=spX fun x h=>W1 x.1 (aqr h)
def KV:Env:=[(83,fW),(99,kx),(147,iC),(219,pZ),(220,yM),(218,D7),(199,Ex),(71,nH)]
theorem Bp:EnvAll Tryz.prog KV:=⟨eg,gE,fi,lR,th,A8,BD,jU,trivial⟩
def aor:Ctx:=CX KV []
def adn(a b:BO3)(_k:KT):Option (List RV):=let y1:=apF (dec a) (dec b);let y2:=hid (ag (ab a.1-ab b.1));let y3:=hid (ag (ab a.2.1-ab b.2.1));let y4:=hid (enc (suT (dec a) (dec b)));let y5:Option (List RV):=match decide (ok Rt 100000 a∧ok Rt 100000 b)with|true=>(match y1.2 with|true=>some [RV.d atB (y1.1)]|false=>(match decide (okR a.2.2∧okR b.2.2)with|true=>(match(aS (ab a.2.2) (ab b.2.2))==0 with|true=>(match decide (okR a.1∧okR b.1)with|true=>(match decide (okR a.2.1∧okR b.2.1)with|true=>(match decide (ok Rat 240000 y2∧ok Rat 170000 y3∧ok Rat 30000 a.2.2)with|true=>some [RV.d atB (eK (ab y2) (ab y3) (ab a.2.2))]|false=>none)|false=>none)|false=>none)|false=>(match decide (ok Rt 15000 a∧ok Rt 15000 b)with|true=>(match decide (okQ y4)with|true=>some [RV.d atB (sgQ (dec y4))]|false=>none)|false=>none))|false=>none))|false=>none;match decide (okR a.2.1)with|true=>(match(aS (ab a.2.1) 0)==0 with|true=>(match decide (okR b.2.1)with|true=>(match(aS (ab b.2.1) 0)==0 with|true=>(match decide (okR a.1∧okR b.1)with|true=>some [RV.d atB (aS (ab a.1) (ab b.1))]|false=>none)|false=>y5)|false=>none)|false=>y5)|false=>none
theorem ajJ(a b:BO3):RS aor 146 [.d tO a,.d tO b] (adn a b):=rsX
theorem VU(a b:BO3)(h:okT 15000 a∧okT 15000 b):Con Tryz.prog 146 [.d tO a,.d tO b] [.d atB (bL (dec a) (dec b))]:=by
 refine aN Bp (ajJ _ _ ⟨0,?_⟩)
 obtain⟨ha,hb⟩:=h
 obtain⟨a,rfl,ba,ra⟩:=ew ha
 obtain⟨b,rfl,bb,rb⟩:=ew hb
 have na:Nn a.2.2:=inferInstance
 have nb:Nn b.2.2:=inferInstance
 have e:decide (okQ (enc (suT a b)))=true:=HJ (by decide) (by decide) (by decide) (by decide) (by decide) (by decide)
 have e1:=fun h1 h2=>VG ra rb h1 h2
 have e2:=fun h=>Z8 ra rb h
 have e3:=fun h=>yk ra rb h
 unfold adn
 simp only[aj,ak,aD,aE,aA,av,okd,aC,aT,aqv,aqw,Nat.reduceAdd,Nat.reduceLeDiff,aH,e]
 by_cases ha:a.2.1=0
 ·by_cases hb:b.2.1=0
  ·rw[aqs ha,aqs hb,e1 ha hb]
  ·rw[aqs ha,aqu hb]
   dsimp only
   cases hq:(apF a b).2
   ·dsimp only
    by_cases hc:a.2.2=b.2.2
    ·rw[aqs hc,←e3 hc]
    ·rw[aqu hc];rfl
   ·dsimp only
    rw[e2 hq]
 ·rw[aqu ha]
  dsimp only
  cases hq:(apF a b).2
  ·dsimp only
   by_cases hc:a.2.2=b.2.2
   ·rw[aqs hc,←e3 hc]
   ·rw[aqu hc];rfl
  ·dsimp only
   rw[e2 hq]
def qv:aM:=spN true true [tO,tO] (fun x=>decide (okT 15000 x.1∧okT 15000 x.2.1)) (fun x=>[RV.d atB (bL (dec x.1) (dec x.2.1))])
theorem lJ:SpK 146 qv:=spX fun x h=>VU x.1 x.2.1 (aqr h)
def aaW:Env:=(146,qv)::KV
theorem RJ:EnvAll Tryz.prog aaW:=⟨lJ,Bp⟩
def aoC:Ctx:=CX aaW []
def abi(a:BO3)(b:BR)(_k:KT):Option (List RV):=match decide (okR b)with|true=>(match decide (okT 15000 a∧okT 15000 (hid (enc ((ab b,0,0):Rt))))with|true=>some [RV.d atB (bL (dec a) (dec (hid (enc ((ab b,0,0):Rt)))))]|false=>none)|false=>none
theorem anj(a:BO3)(b:BR):RS aoC 84 [.d tO a,.d tR b] (abi a b):=rsX
theorem Xk(a:BO3)(b:BR)(h:okT 15000 a∧ok Rat 15000 b):Con Tryz.prog 84 [.d tO a,.d tR b] [.d atB (d9 (dec a) (ab b))]:=by
 refine aN RJ (anj _ _ ⟨0,?_⟩)
 obtain⟨ha,hb⟩:=h
 obtain⟨a,rfl,ba,ra⟩:=ew ha
 obtain⟨b,rfl,bb⟩:=aQ hb
 unfold abi
 simp only[aj,ak,aA,av,aT,aqv,aqw,mx,Nat.reduceLeDiff,aqC,aqz,cond_true,cond_false,bh]
 rw[Uy ra]
section
section
variable {α:Type}
structure vd (lt:α→α→Prop):Prop where
 irr:∀x,¬lt x x
 tr:∀x y z,lt x y→lt y z→lt x z
 tri:∀x y,lt x y∨x=y∨lt y x
variable {lt:α→α→Prop}
def wu(lt:α→α→Prop)(c:α→α→Int):Prop:=∀x y,(lt x y→c x y= -1)∧(x=y→c x y=0)∧(lt y x→c x y=1)
end
section
variable {α:Type} (cmp:α→α→Int)
def qX(p q:Bool×α):Int:=bif p.1==q.1 then(bif p.1 then-cmp p.2 q.2 else cmp p.2 q.2)else(bif p.1 then-1 else 1)
def m9(f p:Bool×α):Int:=bif qX cmp p f==0 then 0 else bif decide (qX cmp p f>0)then 1 else 2
def Cg(n:Int):Int:=if n<0 then-1 else if n=0 then 0 else 1
def So(f p q:Bool×α):Int:=bif m9 cmp f p==m9 cmp f q then Cg (qX cmp p q)else Cg (m9 cmp f p-m9 cmp f q)
def gG(p q:Bool×α):Int:=bif p.1==q.1 then(bif p.1 then-cmp p.2 q.2 else cmp p.2 q.2)else(bif q.1 then-1 else 1)
def pW(f p q:Bool×α):Int:=bif decide (gG cmp p f<0)==decide (gG cmp q f<0)then gG cmp p q else(bif decide (gG cmp q f<0)then-1 else 1)
variable {cmp} {β:Type} {cmq:β→β→Int}
theorem nL{u v:Bool}{a b:α}{c d:β}(h:cmp a b=cmq c d):gG cmp (u,a) (v,b)=gG cmq (u,c) (v,d):=by unfold gG;rw[h]
theorem uM{u v w:Bool}{f p q:α}{f' p' q':β}(h1:cmp p f=cmq p' f')(h2:cmp q f=cmq q' f')(h3:cmp p q=cmq p' q'):pW cmp (u,f) (v,p) (w,q)=pW cmq (u,f') (v,p') (w,q'):=by
 unfold pW
 rw[nL h1,nL h2,nL h3]
end
def upA(k:Nat):Bool:=k==0||k==1
def ufA(k:Nat):Bool:=k==1||k==2
def aia(a b:Int):Bool:=a==0||b==0||a==b
namespace RE
theorem TD:vd (fun x y:RE=>x<y):=⟨lt_irrefl,fun _ _ _=>fQ,rI⟩
theorem J0(x y:RE):((y-(x)))+((x-y-(0)))=0:=by
 induction x using aqq
 induction y using aqq
 exact snd fun n=>by
  simp only[RL.add,RL.neg,RL.const]
  grind
theorem sT(x y:RE)(h1:x<y):x-y<0:=gS.1 fun hg=>far (aU (a8 h1) (aR hg)) (J0 x y)
theorem JR(x y:RE):((x-(y)))+((0-(x-y)))=0:=by
 induction x using aqq
 induction y using aqq
 exact snd fun n=>by
  simp only[RL.add,RL.neg,RL.const]
  grind
theorem AS(x y:RE)(h1:y<x):0<x-y:=gS.1 fun hg=>far (aU (a8 h1) (aR hg)) (JR x y)
theorem Xv:wu (fun x y:RE=>x<y) (fun x y=>sg (x-y)):=fun x y=>⟨fun h=>jO (sT _ _ h),fun h=>by subst h;show sg (x-x)=0;rw[sub_self,eu],fun h=>gN (AS _ _ h)⟩
def ahB(p q:RE×RE):Prop:=p.1<q.1∨(p.1=q.1∧p.2<q.2)
theorem tz:vd ahB:=by
 refine⟨fun x h=>?_,fun x y z h1 h2=>?_,fun x y=>?_⟩
 ·rcases h with h|h
  ·exact lt_irrefl _ h
  ·exact lt_irrefl _ h.2
 ·rcases h1 with h1|⟨h1,h1'⟩
  ·rcases h2 with h2|⟨h2,h2'⟩
   ·exact .inl (fQ h1 h2)
   ·exact .inl (h2▸h1)
  ·rcases h2 with h2|⟨h2,h2'⟩
   ·exact .inl (h1▸h2)
   ·exact .inr ⟨h1.trans h2,fQ h1' h2'⟩
 ·rcases rI x.1 y.1 with h|h|h
  ·exact .inl (.inl h)
  ·rcases rI x.2 y.2 with h'|h'|h'
   ·exact .inl (.inr ⟨h,h'⟩)
   ·exact .inr (.inl (ath h h'))
   ·exact .inr (.inr (.inr ⟨h.symm,h'⟩))
  ·exact .inr (.inr (.inl h))
def lxc(p q:RE×RE):Int:=bif sg (p.1-q.1)==0 then sg (p.2-q.2)else sg (p.1-q.1)
theorem Ac:wu ahB lxc:=fun p q=>by
 unfold lxc
 refine⟨fun h=>?_,fun h=>?_,fun h=>?_⟩
 ·rcases h with h|⟨h,h'⟩
  ·rw[jO (sT _ _ h)];rfl
  ·rw[h,sub_self,eu,jO (sT _ _ h')];rfl
 ·subst h
  rw[sub_self,sub_self,eu];rfl
 ·rcases h with h|⟨h,h'⟩
  ·rw[gN (AS _ _ h)];rfl
  ·rw[←h,sub_self,eu,gN (AS _ _ h')];rfl
def cls(u v:RE):Nat:=bif sg v==1 then 1 else bif sg v== -1 then 3 else bif sg u==1 then 0 else 2
theorem ahJ(u v:RE):(decide (sg v>0)||(sg v==0&&decide (sg u>0)))=upA (cls u v):=by
 unfold cls
 rcases c9 v with⟨_,h⟩|⟨_,h⟩|⟨_,h⟩<;>rcases c9 u with⟨_,h'⟩|⟨_,h'⟩|⟨_,h'⟩<;>rw[h,h']<;>rfl
theorem ahY{u v Q:RE}(hQ:0<Q)(h:u*u+v*v=Q):(decide (sg v>0)||(sg v==0&&decide (-sg u>0)))=ufA (cls u v):=by
 unfold cls
 rcases c9 v with⟨_,h1⟩|⟨h0,h1⟩|⟨_,h1⟩<;>rcases c9 u with⟨_,h'⟩|⟨h2,h'⟩|⟨_,h'⟩<;>rw[h1,h']<;>try rfl
 rw[h0,h2,mul_zero,add_zero]at h
 rw[←h]at hQ
 exact absurd hQ (lt_irrefl _)
theorem G4{z:RE}(h:z*z≤0):z=0:=by
 rcases rI z 0 with e|e|e
 ·have:=mul_pos (qc e) (qc e)
  rw[neg_mul,mul_neg,neg_neg]at this
  exact absurd this (fun h'=>lt_irrefl _ (fQ h' (by
   rcases mb (nS z)with h2|h2
   ·exact absurd h2 ((M1 _ _).1 h)
   ·rw[h2]at h';exact absurd h' (lt_irrefl _))))
 ·exact e
 ·exact absurd (mul_pos e e) ((M1 _ _).1 h)
end RE
end
section
def xP(p:Pt):Rt:=coR p.1 p.2.1 p.2.2.2.2
def yP(p:Pt):Rt:=coR p.2.2.1 p.2.2.2.1 p.2.2.2.2
def atP(v:Rat×Rat):Pt:=(v.1,0,v.2,0,0)
def rdP(p:Pt):Pt:=(p.1,p.2.1,p.2.2.1,p.2.2.2.1,bif decide (p.2.1=0)&&decide (p.2.2.2.1=0)then 0 else p.2.2.2.2)
def mkP(x y:Rt):Pt:=rdP (x.1,x.2.1,y.1,y.2.1,bif decide (x.2.1=0)then y.2.2 else x.2.2)
def rR(x y:Rt):Prop:=x.2.1=0∨y.2.1=0∨x.2.2=y.2.2
instance (x y:Rt):Decidable (rR x y):=by unfold rR;infer_instance
def cz(p q:Pt):Int:=bif bL (xP p) (xP q)==0 then bL (yP p) (yP q)else bL (xP p) (xP q)
def trP(p:Pt)(v:Rat×Rat):Pt:=(p.1+v.1,p.2.1,p.2.2.1+v.2,p.2.2.2.1,p.2.2.2.2)
def bkV(v:Rat×Rat):Rat×Rat:=(-v.1,-v.2)
def sqA(p:Pt)(v:Rat×Rat):Rat:=(p.1-v.1)*(p.1-v.1)+(p.2.2.1-v.2)*(p.2.2.1-v.2)+(p.2.1*p.2.1+p.2.2.2.1*p.2.2.2.1)*p.2.2.2.2
def sqB(p:Pt)(v:Rat×Rat):Rat:=(p.1-v.1)*p.2.1+(p.2.2.1-v.2)*p.2.2.2.1+((p.1-v.1)*p.2.1+(p.2.2.1-v.2)*p.2.2.2.1)
def sqP(p:Pt)(v:Rat×Rat):Rt:=coR (sqA p v) (sqB p v) p.2.2.2.2
def FJ(p:Pt):Prop:=(p.2.1=0∧p.2.2.2.1=0∧p.2.2.2.2=0)∨(¬(p.2.1=0∧p.2.2.2.1=0)∧0<p.2.2.2.2∧ec p.2.2.2.2=false)
instance (p:Pt):Decidable (FJ p):=by unfold FJ;infer_instance
class Rpd (p:Pt):Prop where
 rd:FJ p
def okP(k:Nat)(x:BP):Prop:=ok Pt k x∧FJ (dec x)
instance (k:Nat) (x:BP):Decidable (okP k x):=by unfold okP;infer_instance
theorem bG{k:Nat}{x:BP}(h:okP k x):∃v:Pt,x=enc v∧Bd v k∧Rpd v:=by
 obtain⟨h1,h2⟩:=h
 obtain⟨v,rfl,bv⟩:=aQ h1
 rw[ak]at h2
 exact⟨v,rfl,bv,⟨h2⟩⟩
theorem bg{x:Pt}{j k:Nat}[h:Bd x j][r:Rpd x](hj:j≤k)(hk:k≤480000):decide (okP k (enc x))=true:=aqs ⟨aqr (okd hj hk),by rw[ak];exact r.rd⟩
theorem Rpd.ns{p:Pt}(h:Rpd p):Ns p.2.2.2.2:=⟨by rcases h.rd with h|h;exact .inl h.2.2;exact .inr h.2⟩
instance ap6 {p:Pt} [h:Rpd p]:Ns p.2.2.2.2:=h.ns
theorem Rpd.nn{p:Pt}(h:Rpd p):0≤p.2.2.2.2:=h.ns.nn
theorem Mb{a b c:Rat}(h:Ns c)(hb:b=0∨c≠0):Rdd (coR a b c):=by
 refine⟨?_⟩
 unfold coR
 by_cases e:b=0
 ·rw[aqs e];exact .inl ⟨rfl,rfl⟩
 ·rw[aqu e]
  rcases h.ns with h|h
  ·rcases hb with hb|hb
   ·exact absurd hb e
   ·exact absurd h hb
  ·exact .inr ⟨e,h⟩
theorem Rpd.b0{p:Pt}(h:Rpd p):(p.2.1=0∧p.2.2.2.1=0)∨p.2.2.2.2≠0:=by
 rcases h.rd with h|h
 ·exact .inl ⟨h.1,h.2.1⟩
 ·exact .inr (by have:=h.2.1;grind)
instance apx {p:Pt} [h:Rpd p]:Rdd (xP p):=Mb h.ns (by rcases h.b0 with h|h;exact .inl h.1;exact .inr h)
instance apE {p:Pt} [h:Rpd p]:Rdd (yP p):=Mb h.ns (by rcases h.b0 with h|h;exact .inl h.2;exact .inr h)
instance ap7 {p:Pt} {v:Rat×Rat} [h:Rpd p]:Rdd (sqP p v):=Mb h.ns (by
 rcases h.b0 with h|h
 ·refine .inl ?_
  unfold sqB
  rw[h.1,h.2]
  grind
 ·exact .inr h)
instance aqj {v:Rat×Rat}:Rpd (atP v):=⟨.inl ⟨rfl,rfl,rfl⟩⟩
instance aqb {p:Pt} {v:Rat×Rat} [h:Rpd p]:Rpd (trP p v):=⟨h.rd⟩
theorem abq{x y:Rt}(hx:Rdd x)(hy:Rdd y)(_h:rR x y):Rpd (mkP x y):=by
 refine⟨?_⟩
 unfold mkP rdP FJ
 dsimp only
 rcases hx.rd with⟨a1,a2⟩|⟨a1,a2,a3⟩<;>rcases hy.rd with⟨b1,b2⟩|⟨b1,b2,b3⟩
 ·simp[a1,b1]
 ·simp[a1,b1,b2,b3]
 ·simp[a1,b1,a2,a3]
 ·simp[a1,b1,a2,a3]
section
variable {p:Pt} {j:Nat}
instance aqh [h:Bd p j]:Bd (xP p) (mx j (mx j j)):=inferInstanceAs (Bd (coR p.1 p.2.1 p.2.2.2.2) _)
instance aqg [h:Bd p j]:Bd (yP p) (mx j (mx j j)):=inferInstanceAs (Bd (coR p.2.2.1 p.2.2.2.1 p.2.2.2.2) _)
instance apt {v:Rat×Rat} [h:Bd v j]:Bd (atP v) (mx j (mx 1 (mx j (mx 1 1)))):=inferInstanceAs (Bd ((v.1,0,v.2,0,0):Pt) _)
instance api {v:Rat×Rat} {k:Nat} [h:Bd p j] [h':Bd v k]:Bd (trP p v) (mx (j+k+1) (mx j (mx (j+k+1) (mx j j)))):=inferInstanceAs (Bd ((p.1+v.1,p.2.1,p.2.2.1+v.2,p.2.2.2.1,p.2.2.2.2):Pt) _)
instance ap8 {v:Rat×Rat} [h:Bd v j]:Bd (bkV v) (mx j j):=inferInstanceAs (Bd ((-v.1,-v.2):Rat×Rat) _)
end
instance apu {p:Pt} {j:Nat} [h:Bd p j]:Bd (rdP p) (mx j (mx j (mx j (mx j (mx 1 j))))):=inferInstanceAs (Bd ((p.1,p.2.1,p.2.2.1,p.2.2.2.1,bif decide (p.2.1=0)&&decide (p.2.2.2.1=0)then 0 else p.2.2.2.2):Pt) _)
instance M0 {x y:Rt} {j k:Nat} [h:Bd x j] [h':Bd y k]:Bd (mkP x y) (mx (mx j (mx j (mx k (mx k (mx k j))))) (mx (mx j (mx j (mx k (mx k (mx k j))))) (mx (mx j (mx j (mx k (mx k (mx k j))))) (mx (mx j (mx j (mx k (mx k (mx k j))))) (mx 1 (mx j (mx j (mx k (mx k (mx k j)))))))))):=inferInstanceAs (Bd (rdP (x.1,x.2.1,y.1,y.2.1,bif decide (x.2.1=0)then y.2.2 else x.2.2)) _)
theorem cH{j k n:Nat}(h1:j≤n)(h2:k≤n):mx j k≤n:=by
 unfold mx
 cases decide (j≤k)
 ·exact h1
 ·exact h2
section
variable {p:Pt} {v:Rat×Rat} {j k:Nat}
instance apW [h:Bd p j] [h':Bd v k]:Bd (sqA p v) (20*(j+k+1)):=by
 have a1:Bd (p.1-v.1) _:=inferInstance
 have a2:Bd (p.2.2.1-v.2) _:=inferInstance
 have a3:Bd (p.2.1*p.2.1+p.2.2.2.1*p.2.2.2.1) _:=inferInstance
 have i:Bd ((p.1-v.1)*(p.1-v.1)+(p.2.2.1-v.2)*(p.2.2.1-v.2)+(p.2.1*p.2.1+p.2.2.2.1*p.2.2.2.1)*p.2.2.2.2) _:=inferInstance
 exact i.mono (by omega)
instance ao6 [h:Bd p j] [h':Bd v k]:Bd (sqB p v) (20*(j+k+1)):=by
 have a1:Bd (p.1-v.1) _:=inferInstance
 have a2:Bd (p.2.2.1-v.2) _:=inferInstance
 have i:Bd ((p.1-v.1)*p.2.1+(p.2.2.1-v.2)*p.2.2.2.1+((p.1-v.1)*p.2.1+(p.2.2.1-v.2)*p.2.2.2.1)) _:=inferInstance
 exact i.mono (by omega)
instance apS [h:Bd p j] [h':Bd v k]:Bd (sqP p v) (20*(j+k+1)):=by
 have i:Bd (coR (sqA p v) (sqB p v) p.2.2.2.2) _:=inferInstance
 exact i.mono (cH (by omega) (cH (by omega) (by omega)))
end
namespace RE
def pX(p:Pt):RE:=v2 p.1 p.2.1 p.2.2.2.2
def pY(p:Pt):RE:=v2 p.2.2.1 p.2.2.2.1 p.2.2.2.2
def pR(p:Pt):RE×RE:=(pX p,pY p)
theorem Da(p:Pt):vR (xP p)=pX p:=vR_co _ _ _
theorem YX(p:Pt):vR (yP p)=pY p:=vR_co _ _ _
theorem rO{p:Pt}[h:Rpd p]:0≤(xP p).2.2:=(apx (p:=p)).nn
theorem GI{p:Pt}[h:Rpd p]:0≤(yP p).2.2:=(apE (p:=p)).nn
theorem yz{p q:Pt}[Rpd p][Rpd q]:cz p q=lxc (pR p) (pR q):=by
 unfold cz lxc
 rw[cmpT_re rO rO,cmpT_re GI GI,Da,Da,YX,YX]
 rfl
theorem agm(x y s t c u w:RE):(x+s*c-u)*(x+s*c-u)+(y+t*c-w)*(y+t*c-w)=(x-u)*(x-u)+(y-w)*(y-w)+(s*s+t*t)*(c*c)+((x-u)*s+(y-w)*t+((x-u)*s+(y-w)*t))*c:=by
 induction x using aqq
 induction y using aqq
 induction s using aqq
 induction t using aqq
 induction c using aqq
 induction u using aqq
 induction w using aqq
 exact snd fun n=>by
  simp only[RL.add,RL.mul,RL.neg]
  grind
theorem DZ{p:Pt}{v:Rat×Rat}[h:Rpd p]:vR (sqP p v)=(pX p-of v.1)*(pX p-of v.1)+(pY p-of v.2)*(pY p-of v.2):=by
 unfold sqP pX pY
 rw[vR_co]
 unfold v2
 rw[agm,rM h.nn]
 unfold sqA sqB
 simp only[of_add,of_sub,cE]
theorem anh(v:Rat×Rat):pX (atP v)=of v.1:=jk _ _
theorem aog(v:Rat×Rat):pY (atP v)=of v.2:=jk _ _
end RE
end
theorem iK(a b:Rat):(aS a b !=0)=!decide (a=b):=by
 unfold bne
 rw[aH]
def QC:Env:=[(76,gT),(148,gU),(149,jr),(147,iC),(83,fW),(99,kx),(146,qv)]
theorem BM:EnvAll Tryz.prog QC:=⟨eI,eH,fN,fi,eg,gE,lJ,trivial⟩
def ajO:Ctx:=CX QC []
def acM(_k:KT):Option (List RV):=match decide (aX (0:Int))with|true=>some [RV.d tR (hid (ag ((0:Int):Rat)))]|false=>none
theorem am4:RS ajO 152 [] (acM):=rsX
theorem Vx:Con Tryz.prog 152 [] [.d tR (ag 0)]:=by
 refine aN BM (am4 ⟨0,?_⟩)
 unfold acM
 rw[dT (show aX 0 by decide)]
 simp only[aj]
 rfl
def SP:aM:=spN false true [] (fun _=>true) (fun _=>[RV.d tR (hid (ag 0))])
theorem Uz:SpK 152 SP:=spX fun _ _=>by simp only[aj];exact Vx
def CG:Env:=(152,SP)::QC
theorem pp:EnvAll Tryz.prog CG:=⟨Uz,BM⟩
def amS:Ctx:=CX CG []
def adc(v:BV)(_k:KT):Option (List RV):=some [RV.d tP (v.1,(hid (ag 0),(v.2,(hid (ag 0),hid (ag 0)))))]
theorem aoM(v:BV):RS amS 68 [.d tV v] (adc v):=rsX
theorem Zn(v:BV)(h:ok (Rat×Rat) 100000 v):Con Tryz.prog 68 [.d tV v] [.d tP (enc (atP (dec v)))]:=by
 refine aN pp (aoM _ ⟨0,?_⟩)
 have hv:=h
 obtain⟨v,rfl,bv⟩:=aQ hv
 unfold adc
 simp only[aj,ak,aD,aE,aA]
 try rfl
def alI:Ctx:=CX CG []
def aba(p:BP)(_k:KT):Option (List RV):=match decide (okR p.2.1)with|true=>(match(aS (ab p.2.1) 0)==0 with|true=>(match decide (okR p.2.2.2.1)with|true=>(match(aS (ab p.2.2.2.1) 0)==0 with|true=>some [RV.d tP (p.1,(p.2.1,(p.2.2.1,(p.2.2.2.1,hid (ag 0)))))]|false=>some [RV.d tP p])|false=>none)|false=>some [RV.d tP p])|false=>none
theorem alU(p:BP):RS alI 171 [.d tP p] (aba p):=rsX
theorem Xi(p:BP)(h:ok Pt 21000 p):Con Tryz.prog 171 [.d tP p] [.d tP (enc (rdP (dec p)))]:=by
 refine aN pp (alU _ ⟨0,?_⟩)
 have hp:=h
 obtain⟨p,rfl,bp⟩:=aQ hp
 unfold aba
 simp only[aj,ak,aD,aE,aA,av,aT,Nat.reduceLeDiff,aH]
 unfold rdP
 by_cases h1:p.2.1=0
 ·by_cases h2:p.2.2.2.1=0
  ·rw[aqs h1,aqs h2];rfl
  ·rw[aqs h1,aqu h2];rfl
 ·rw[aqu h1];rfl
def amG:Ctx:=CX CG []
def abA(a b c:BR)(_k:KT):Option (List RV):=match decide (okR b)with|true=>(match(aS (ab b) 0)==0 with|true=>some [RV.d tO (a,(b,hid (ag 0)))]|false=>some [RV.d tO (a,(b,c))])|false=>none
theorem alP(a b c:BR):RS amG 150 [.d tR a,.d tR b,.d tR c] (abA a b c):=rsX
theorem W7(a b c:BR)(h:okR a∧okR b∧okR c):Con Tryz.prog 150 [.d tR a,.d tR b,.d tR c] [.d tO (enc (coR (ab a) (ab b) (ab c)))]:=by
 refine aN pp (alP _ _ _ ⟨0,?_⟩)
 obtain⟨ha,hb,hc⟩:=h
 obtain⟨a,rfl,ba⟩:=dQ ha
 obtain⟨b,rfl,bb⟩:=dQ hb
 obtain⟨c,rfl,bc⟩:=dQ hc
 unfold abA
 simp only[aj,av,aT,Nat.reduceLeDiff,aH]
 unfold coR
 by_cases e:b=0
 ·subst e;rw[aqs rfl];rfl
 ·rw[aqu e];rfl
def DY:aM:=spN false true [tV] (fun x=>decide (ok (Rat×Rat) 100000 x.1)) (fun x=>[RV.d tP (hid (enc (atP (dec x.1))))])
theorem De:SpK 68 DY:=spX fun x h=>by simp only[aj];exact Zn x.1 (aqr h)
def Uw:aM:=spN false true [tP] (fun x=>decide (ok Pt 21000 x.1)) (fun x=>[RV.d tP (hid (enc (rdP (dec x.1))))])
theorem Th:SpK 171 Uw:=spX fun x h=>by simp only[aj];exact Xi x.1 (aqr h)
def Vj:aM:=spN false true [tR,tR,tR] (fun x=>decide (okR x.1∧okR x.2.1∧okR x.2.2.1)) (fun x=>[RV.d tO (hid (enc (coR (ab x.1) (ab x.2.1) (ab x.2.2.1))))])
theorem UL:SpK 150 Vj:=spX fun x h=>by simp only[aj];exact W7 x.1 x.2.1 x.2.2.1 (aqr h)
def xJ:Env:=(68,DY)::(171,Uw)::(150,Vj)::CG
theorem lh:EnvAll Tryz.prog xJ:=⟨De,Th,UL,pp⟩
def alk:Ctx:=CX xJ []
def abX(x y:BO3)(_k:KT):Option (List RV):=match decide (okR x.2.1)with|true=>(match(aS (ab x.2.1) 0)==0 with|true=>(match decide (ok Pt 21000 (x.1,(x.2.1,y)))with|true=>some [RV.d tP (hid (enc (rdP (dec (x.1,(x.2.1,y)))))),RV.d atB 0]|false=>none)|false=>(match decide (okR y.2.1)with|true=>(match(aS (ab y.2.1) 0) !=0 with|true=>(match decide (okR x.2.2∧okR y.2.2)with|true=>(match(aS (ab x.2.2) (ab y.2.2)) !=0 with|true=>some [RV.d tP (((false,[]),(false,[])),(((false,[]),(false,[])),(((false,[]),(false,[])),(((false,[]),(false,[])),((false,[]),(false,[])))))),RV.d atB 1]|false=>(match decide (ok Pt 21000 (x.1,(x.2.1,(y.1,(y.2.1,x.2.2)))))with|true=>some [RV.d tP (hid (enc (rdP (dec (x.1,(x.2.1,(y.1,(y.2.1,x.2.2)))))))),RV.d atB 0]|false=>none))|false=>none)|false=>(match decide (ok Pt 21000 (x.1,(x.2.1,(y.1,(y.2.1,x.2.2)))))with|true=>some [RV.d tP (hid (enc (rdP (dec (x.1,(x.2.1,(y.1,(y.2.1,x.2.2)))))))),RV.d atB 0]|false=>none))|false=>none))|false=>none
theorem aoN(x y:BO3):RS alk 88 [.d tO x,.d tO y] (abX x y):=rsX
theorem VY(x y:BO3)(h:okT 15000 x∧okT 15000 y∧rR (dec x) (dec y)):Con Tryz.prog 88 [.d tO x,.d tO y] [.d tP (enc (mkP (dec x) (dec y))),.d atB 0]:=by
 refine aN lh (aoN _ _ ⟨0,?_⟩)
 obtain⟨hx,hy,hy_2⟩:=h
 obtain⟨x,rfl,bx,rx⟩:=ew hx
 obtain⟨y,rfl,b_y,ry⟩:=ew hy
 have i1:decide (ok Pt 21000 (enc ((x.1,x.2.1,y):Pt)))=true:=okd (by decide) (by decide)
 have i2:decide (ok Pt 21000 (enc ((x.1,x.2.1,y.1,y.2.1,x.2.2):Pt)))=true:=okd (by decide) (by decide)
 have j1:(dec ((ag x.1,ag x.2.1,enc y):BP):Pt)=(x.1,x.2.1,y):=ak ((x.1,x.2.1,y):Pt)
 have j2:(dec ((ag x.1,ag x.2.1,ag y.1,ag y.2.1,ag x.2.2):BP):Pt)=(x.1,x.2.1,y.1,y.2.1,x.2.2):=ak ((x.1,x.2.1,y.1,y.2.1,x.2.2):Pt)
 have i1:decide (ok Pt 21000 ((ag x.1,ag x.2.1,enc y):BP))=true:=i1
 have i2:decide (ok Pt 21000 ((ag x.1,ag x.2.1,ag y.1,ag y.2.1,ag x.2.2):BP))=true:=i2
 have hm:=hy_2
 rw[ak,ak]at hm
 unfold abX
 simp only[aj,ak,aD,aE,aA,av,aT,aqv,aqw,Nat.reduceLeDiff,aH,iK,i1,i2,j1,j2]
 unfold mkP
 by_cases e1:x.2.1=0
 ·rw[aqs e1];rfl
 ·rw[aqu e1]
  by_cases e2:y.2.1=0
  ·rw[aqs e2];rfl
  ·rw[aqu e2,aqs ((hm.resolve_left e1).resolve_left e2)];rfl
def ao9:Ctx:=CX xJ []
def akV(p:BP)(_k:KT):Option (List RV):=match decide (okR p.1∧okR p.2.1∧okR p.2.2.2.2)with|true=>some [RV.d tO (hid (enc (coR (ab p.1) (ab p.2.1) (ab p.2.2.2.2))))]|false=>none
theorem app(p:BP):RS ao9 271 [.d tP p] (akV p):=rsX
theorem afc(p:BP)(h:okP 4000 p):Con Tryz.prog 271 [.d tP p] [.d tO (enc (xP (dec p)))]:=by
 refine aN lh (app _ ⟨0,?_⟩)
 have hp:=h
 obtain⟨p,rfl,bp,rp⟩:=bG hp
 unfold akV
 simp only[aj,ak,aD,aE,aA,av,aT,aqv,aqw,Nat.reduceLeDiff]
 try rfl
def apM:Ctx:=CX xJ []
def ajd(p:BP)(_k:KT):Option (List RV):=match decide (okR p.2.2.1∧okR p.2.2.2.1∧okR p.2.2.2.2)with|true=>some [RV.d tO (hid (enc (coR (ab p.2.2.1) (ab p.2.2.2.1) (ab p.2.2.2.2))))]|false=>none
theorem apD(p:BP):RS apM 272 [.d tP p] (ajd p):=rsX
theorem agz(p:BP)(h:okP 4000 p):Con Tryz.prog 272 [.d tP p] [.d tO (enc (yP (dec p)))]:=by
 refine aN lh (apD _ ⟨0,?_⟩)
 have hp:=h
 obtain⟨p,rfl,bp,rp⟩:=bG hp
 unfold ajd
 simp only[aj,ak,aD,aE,aA,av,aT,aqv,aqw,Nat.reduceLeDiff]
 try rfl
def ana:Ctx:=CX xJ []
def adi(p:BP)(v:BV)(_k:KT):Option (List RV):=let y1:=hid (ag (ab p.1-ab v.1));let y2:=hid (ag (ab p.2.2.1-ab v.2));let y3:=hid (ag (ab y1*ab y1));let y4:=hid (ag (ab y2*ab y2));let y5:=hid (ag (ab p.2.1*ab p.2.1));let y6:=hid (ag (ab p.2.2.2.1*ab p.2.2.2.1));let y7:=hid (ag (ab y5+ab y6));let y8:=hid (ag (ab y3+ab y4));let y9:=hid (ag (ab y7*ab p.2.2.2.2));let y10:=hid (ag (ab y1*ab p.2.1));let y11:=hid (ag (ab y2*ab p.2.2.2.1));let y12:=hid (ag (ab y10+ab y11));let y13:=hid (ag (ab y8+ab y9));let y14:=hid (ag (ab y12+ab y12));let y15:Option (List RV):=match decide (okR y10∧okR y11)with|true=>(match decide (okR y12∧okR y12)with|true=>(match decide (okR y13∧okR y14∧okR p.2.2.2.2)with|true=>some [RV.d tO (hid (enc (coR (ab y13) (ab y14) (ab p.2.2.2.2))))]|false=>none)|false=>none)|false=>none;let y16:Option (List RV):=match decide (okR y2∧okR p.2.2.2.1)with|true=>y15|false=>none;let y17:Option (List RV):=match decide (okR y8∧okR y9)with|true=>cg (match decide (okR y1∧okR p.2.1)with|true=>cg (match decide (okR y2∧okR p.2.2.2.1)with|true=>dup (.b .l .l) y15|false=>none) y16|false=>none) (match decide (okR y1∧okR p.2.1)with|true=>y16|false=>none)|false=>none;let y18:Option (List RV):=match decide (okR y7∧okR p.2.2.2.2)with|true=>y17|false=>none;let y19:Option (List RV):=match decide (okR y5∧okR y6)with|true=>y18|false=>none;let y20:Option (List RV):=match decide (okR p.2.2.2.1∧okR p.2.2.2.1)with|true=>y19|false=>none;let y21:Option (List RV):=match decide (okR p.2.1∧okR p.2.1)with|true=>y20|false=>none;let y22:Option (List RV):=match decide (okR y3∧okR y4)with|true=>y21|false=>none;let y23:Option (List RV):=match decide (okR y2∧okR y2)with|true=>y22|false=>none;match decide (okR p.1∧okR v.1)with|true=>(match decide (okR p.2.2.1∧okR v.2)with|true=>cg (match decide (okR y1∧okR y1)with|true=>cg (match decide (okR y2∧okR y2)with|true=>cg (match decide (okR y3∧okR y4)with|true=>cg (match decide (okR p.2.1∧okR p.2.1)with|true=>cg (match decide (okR p.2.2.2.1∧okR p.2.2.2.1)with|true=>cg (match decide (okR y5∧okR y6)with|true=>cg (match decide (okR y7∧okR p.2.2.2.2)with|true=>dup (.b .l .l) y17|false=>none) y18|false=>none) y19|false=>none) y20|false=>none) y21|false=>none) y22|false=>none) y23|false=>none) (match decide (okR y1∧okR y1)with|true=>y23|false=>none)|false=>none)|false=>none
theorem alM(p:BP)(v:BV):RS ana 66 [.d tP p,.d tV v] (adi p v):=rsX
theorem XS(p:BP)(v:BV)(h:okP 3500 p∧ok (Rat×Rat) 300 v):Con Tryz.prog 66 [.d tP p,.d tV v] [.d tO (enc (sqP (dec p) (dec v)))]:=by
 refine aN lh (alM _ _ ⟨0,?_⟩)
 obtain⟨hp,hv⟩:=h
 obtain⟨p,rfl,bp,rp⟩:=bG hp
 obtain⟨v,rfl,bv⟩:=aQ hv
 unfold adi
 simp only[ao,aK,aj,ak,aD,aE,aA,av,aT,aqv,aqw,Nat.reduceAdd,Nat.reduceLeDiff]
 rfl
def T3:aM:=spN false true [tP] (fun x=>decide (okP 4000 x.1)) (fun x=>[RV.d tO (hid (enc (xP (dec x.1))))])
theorem Hl:SpK 271 T3:=spX fun x h=>by simp only[aj];exact afc x.1 (aqr h)
def Mo:aM:=spN false true [tP] (fun x=>decide (okP 4000 x.1)) (fun x=>[RV.d tO (hid (enc (yP (dec x.1))))])
theorem FW:SpK 272 Mo:=spX fun x h=>by simp only[aj];exact agz x.1 (aqr h)
def abb:Env:=(271,T3)::(272,Mo)::xJ
theorem Tg:EnvAll Tryz.prog abb:=⟨Hl,FW,lh⟩
def amw:Ctx:=CX abb []
def acR(p q:BP)(_k:KT):Option (List RV):=match decide (okP 4000 p)with|true=>(match decide (okP 4000 q)with|true=>(match decide (okT 15000 (hid (enc (xP (dec p))))∧okT 15000 (hid (enc (xP (dec q)))))with|true=>(match(bL (dec (hid (enc (xP (dec p))))) (dec (hid (enc (xP (dec q)))))) !=0 with|true=>some [RV.d atB (bL (dec (hid (enc (xP (dec p))))) (dec (hid (enc (xP (dec q))))))]|false=>(match decide (okP 4000 p)with|true=>(match decide (okP 4000 q)with|true=>(match decide (okT 15000 (hid (enc (yP (dec p))))∧okT 15000 (hid (enc (yP (dec q)))))with|true=>some [RV.d atB (bL (dec (hid (enc (yP (dec p))))) (dec (hid (enc (yP (dec q))))))]|false=>none)|false=>none)|false=>none))|false=>none)|false=>none)|false=>none
theorem ajD(p q:BP):RS amw 232 [.d tP p,.d tP q] (acR p q):=rsX
theorem aab(p q:BP)(h:okP 4000 p∧okP 4000 q):Con Tryz.prog 232 [.d tP p,.d tP q] [.d atB (cz (dec p) (dec q))]:=by
 refine aN Tg (ajD _ _ ⟨0,?_⟩)
 obtain⟨hp,hq⟩:=h
 obtain⟨p,rfl,bp,rp⟩:=bG hp
 obtain⟨q,rfl,bq,rq⟩:=bG hq
 unfold acR
 simp only[aj,ak,aqv,aqw,mx,Nat.reduceLeDiff,aqC,cond_true,bh,bg]
 unfold cz bne
 cases bL (xP p) (xP q)==0<;>rfl
def D4:aM:=spN false true [tP,tV] (fun x=>decide (okP 3500 x.1∧ok (Rat×Rat) 300 x.2.1)) (fun x=>[RV.d tO (hid (enc (sqP (dec x.1) (dec x.2.1))))])
theorem Cs:SpK 66 D4:=spX fun x h=>by simp only[aj];exact XS x.1 x.2.1 (aqr h)
def Sn:aM:=spN false true [tO,tO] (fun x=>decide (okT 15000 x.1∧okT 15000 x.2.1∧rR (dec x.1) (dec x.2.1))) (fun x=>[RV.d tP (hid (enc (mkP (dec x.1) (dec x.2.1)))),RV.d atB 0])
theorem M4:SpK 88 Sn:=spX fun x h=>by simp only[aj];exact VY x.1 x.2.1 (aqr h)
def OI:aM:=spN true true [tP,tP] (fun x=>decide (okP 4000 x.1∧okP 4000 x.2.1)) (fun x=>[RV.d atB (cz (dec x.1) (dec x.2.1))])
theorem Oa:SpK 232 OI:=spX fun x h=>aab x.1 x.2.1 (aqr h)
section
def np(l:Ln)(p:Pt):Rat:=l.1*p.1+l.2.1*p.2.2.1-l.2.2
def m7(l:Ln)(p:Pt):Rat:=l.1*p.2.1+l.2.1*p.2.2.2.1
def nB(l:Ln)(p:Pt):Int:=eK (np l p) (m7 l p) p.2.2.2.2
def ctr(c:Ln):Rat×Rat:=(c.1,c.2.1)
def lF(c:Ln)(p:Pt):Int:= -eK (sqA p (ctr c)-c.2.2) (sqB p (ctr c)) p.2.2.2.2
def qZ(l:Ln)(v:Rat×Rat):Rat:=(l.1*v.1+l.2.1*v.2-l.2.2)/(l.1*l.1+l.2.1*l.2.1)
def lA(l:Ln)(v:Rat×Rat):Rat×Rat:=(v.1-qZ l v*l.1,v.2-qZ l v*l.2.1)
section
variable {l:Ln} {p:Pt} {v:Rat×Rat} {i j k:Nat}
instance apa [h:Bd l i]:Bd (ctr l) (mx i i):=inferInstanceAs (Bd ((l.1,l.2.1):Rat×Rat) _)
instance aoT [h:Bd l i] [h':Bd p j]:Bd (np l p) ((i+j)+(i+j)+1+i+1):=inferInstanceAs (Bd (l.1*p.1+l.2.1*p.2.2.1-l.2.2) _)
instance aoZ [h:Bd l i] [h':Bd p j]:Bd (m7 l p) ((i+j)+(i+j)+1):=inferInstanceAs (Bd (l.1*p.2.1+l.2.1*p.2.2.2.1) _)
instance ao0 [h:Bd l i] [h':Bd v k]:Bd (qZ l v) (((i+k)+(i+k)+1+i+1)+((i+i)+(i+i)+1)):=inferInstanceAs (Bd ((l.1*v.1+l.2.1*v.2-l.2.2)/(l.1*l.1+l.2.1*l.2.1)) _)
instance aiC [h:Bd l i] [h':Bd v k]:Bd (lA l v) (8*i+3*k+4):=by
 have i1:Bd (v.1-qZ l v*l.1) _:=inferInstance
 have i2:Bd (v.2-qZ l v*l.2.1) _:=inferInstance
 have i3:Bd ((v.1-qZ l v*l.1,v.2-qZ l v*l.2.1):Rat×Rat) _:=inferInstance
 exact i3.mono (cH (by omega) (by omega))
end
theorem sO{a b:Rat}(h:a≠0∨b≠0):a*a+b*b≠0:=by
 have ha:0≤a*a:=by
  rcases(by grind:0≤a∨0≤ -a)with h|h
  ·exact ari h h
  ·have:=ari h h;grind
 have hb:0≤b*b:=by
  rcases(by grind:0≤b∨0≤ -b)with h|h
  ·exact ari h h
  ·have:=ari h h;grind
 intro e
 have e1:a*a=0:=by grind
 have e2:b*b=0:=by grind
 rcases h with h|h
 ·exact h (by rcases atk.1 e1 with h|h<;>exact h)
 ·exact h (by rcases atk.1 e2 with h|h<;>exact h)
namespace RE
theorem ahX(a b x s y t c r:RE):a*(x+s*r)+b*(y+t*r)+ -c=a*x+b*y-c+(a*s+b*t)*r:=by
 induction a using aqq
 induction b using aqq
 induction x using aqq
 induction s using aqq
 induction y using aqq
 induction t using aqq
 induction c using aqq
 induction r using aqq
 exact snd fun n=>by
  simp only[RL.add,RL.mul,RL.neg]
  grind
theorem akr(a b q r:RE):a+b*r+ -q=a-q+b*r:=by
 induction a using aqq
 induction b using aqq
 induction q using aqq
 induction r using aqq
 exact snd fun n=>by
  simp only[RL.add,RL.mul,RL.neg]
  grind
theorem Ls(a b:RE):a+ -b=a-b:=rfl
theorem yS(l:Ln){p:Pt}[h:Rpd p]:nB l p=sg (of l.1*pX p+of l.2.1*pY p+ -of l.2.2):=by
 unfold nB pX pY
 rw[sgn2_re h.nn]
 unfold v2
 rw[ahX]
 unfold np m7
 simp only[of_add,of_sub,cE]
theorem Ad(c:Ln){p:Pt}[h:Rpd p]:lF c p= -sg ((pX p-of c.1)*(pX p-of c.1)+(pY p-of c.2.1)*(pY p-of c.2.1)+ -of c.2.2):=by
 unfold lF
 have e:=DZ (p:=p) (v:=ctr c)
 unfold sqP at e
 rw[vR_co]at e
 rw[sgn2_re h.nn]
 unfold v2 at e ⊢
 rw[of_sub,←akr,e]
 rfl
theorem sidL_ok(l:Ln){p:Pt}[Rpd p](h:(qs l p).2=true):(qs l p).1=nB l p:=by
 rw[WJ h,yS]
 try rfl
theorem insC_ok(c:Ln){p:Pt}[Rpd p](h:(oB c p).2=true): -(oB c p).1=lF c p:=by
 rw[Xh h,Ad]
 simp only[Ls]
 try rfl
end RE
end
def fV(r s:Rt):Rat:=bif decide (r.2.1=0)then s.2.2 else r.2.2
def k9(r s:Rt):Bool:=decide (r.2.1=0)||(decide (s.2.1=0)||decide (r.2.2=s.2.2))
def jX(r s:Rt):Rt:=ju (r.1*s.1+r.2.1*s.2.1*fV r s) (r.1*s.2.1+r.2.1*s.1) (fV r s)
def v9(r s:Rt):Rt:=ju (r.1+s.1) (r.2.1+s.2.1) (fV r s)
def arT(r:Rt)(a:Rat):Rt:=(r.1+a,r.2.1,r.2.2)
theorem bS(a b:Rat):(aS a b !=0)=!decide (a=b):=by
 unfold bne
 rw[aH]
instance apZ {r s:Rt} {i j:Nat} [h:Bd r i] [h':Bd s j]:Bd (fV r s) (mx j i):=inferInstanceAs (Bd (bif decide (r.2.1=0)then s.2.2 else r.2.2) _)
instance aoU {a b c:Rat} {i j k:Nat} [ha:Bd a i] [hb:Bd b j] [hc:Bd c k]:Bd (ju a b c) (mx i (mx j k)):=by
 have h1:=yy i (mx j k)
 have h2:=zw i (mx j k)
 have h3:=yy j k
 have h4:=zw j k
 have h5:=kK ha.le
 have z:bdR (mx i (mx j k)) 0:=bP kI.le (by omega)
 refine⟨?_⟩
 unfold ju
 cases decide (b=0)
 ·cases decide (c=0)
  ·exact⟨bP ha.le (by omega),bP hb.le (by omega),bP hc.le (by omega)⟩
  ·exact⟨bP ha.le (by omega),z,z⟩
 ·exact⟨bP ha.le (by omega),z,z⟩
theorem Jo(r:Rt):k9 r r=true:=by
 unfold k9
 rw[aqs (rfl:r.2.2=r.2.2)]
 simp
theorem G7{p:Pt}{v:Rat×Rat}(h:Rpd p):k9 (jX (xP (trP p (bkV v))) (xP (trP p (bkV v)))) (jX (yP (trP p (bkV v))) (yP (trP p (bkV v))))=true∧v9 (jX (xP (trP p (bkV v))) (xP (trP p (bkV v)))) (jX (yP (trP p (bkV v))) (yP (trP p (bkV v))))=sqP p v:=by
 obtain⟨ax,bx,ay,b_,c⟩:=p
 have hr:=h.rd
 unfold FJ at hr
 simp only at hr
 unfold sqP sqA sqB xP yP trP bkV
 simp only
 rw[show ax+ -v.1=ax-v.1 by grind,show ay+ -v.2=ay-v.2 by grind]
 generalize ax-v.1=x
 generalize ay-v.2=y
 rcases hr with⟨rfl,rfl,rfl⟩|⟨h1,h2,h3⟩
 ·have e0:∀a:Rat,coR a 0 0=(a,0,0):=fun a=>rfl
  have e1:∀a:Rat,jX (a,0,0) (a,0,0)=(a*a,0,0):=fun a=>by
   unfold jX fV ju
   simp
   grind
  rw[e0,e0,e1,e1]
  refine⟨rfl,?_⟩
  rw[show x*0+y*0+(x*0+y*0)=(0:Rat) by grind]
  unfold v9 fV ju coR
  simp
  grind
 ·have hc:c≠0:=by grind
  have dc:decide (c=0)=false:=aqu hc
  have sq0:∀a:Rat,jX (coR a 0 c) (coR a 0 c)=(a*a,0,0):=fun a=>by
   unfold coR
   rw[aqs rfl]
   unfold jX fV ju
   simp
   grind
  have sq1:∀a b:Rat,b≠0→jX (coR a b c) (coR a b c)=coR (a*a+b*b*c) (a*b+b*a) c:=fun a b hb=>by
   have e:coR a b c=(a,b,c):=by unfold coR;rw[aqu hb];rfl
   rw[e]
   unfold jX fV ju coR
   simp only[aqu hb,cond_false,dc]
  have cR:∀a b:Rat,ju a b c=coR a b c:=fun a b=>by unfold ju coR;rw[dc];rfl
  have ad:∀a b d e:Rat,k9 (coR a b c) (coR d e c)=true∧(b≠0∨e≠0→v9 (coR a b c) (coR d e c)=coR (a+d) (b+e) c)∧(b=0→e=0→v9 (coR a b c) (coR d e c)=(a+d,0,0)):=fun a b d e=>by
   by_cases hb:b=0
   ·subst hb
    by_cases he:e=0
    ·subst he
     refine⟨rfl,fun h=>by simp at h,fun _ _=>?_⟩
     unfold coR v9 fV ju
     simp
    ·refine⟨rfl,fun _=>?_,fun _ h=>absurd h he⟩
     have e1:coR a 0 c=(a,0,0):=rfl
     have e2:coR d e c=(d,e,c):=by unfold coR;rw[aqu he];rfl
     rw[e1,e2]
     show ju (a+d) (0+e) c=_
     rw[cR]
   ·have e1:coR a b c=(a,b,c):=by unfold coR;rw[aqu hb];rfl
    by_cases he:e=0
    ·subst he
     have e2:coR d 0 c=(d,0,0):=rfl
     refine⟨by rw[e1,e2];simp[k9],fun _=>?_,fun h=>absurd h hb⟩
     rw[e1,e2]
     unfold v9 fV
     simp only[aqu hb,cond_false]
     rw[cR]
    ·have e2:coR d e c=(d,e,c):=by unfold coR;rw[aqu he];rfl
     refine⟨by rw[e1,e2];simp[k9],fun _=>?_,fun h=>absurd h hb⟩
     rw[e1,e2]
     unfold v9 fV
     simp only[aqu hb,cond_false]
     rw[cR]
  have c0:∀a:Rat,((a,0,0):Rt)=coR a 0 c:=fun a=>rfl
  by_cases hx:bx=0
  ·subst hx
   have hy:b_≠0:=fun e=>h1 ⟨rfl,e⟩
   rw[sq0,sq1 _ _ hy,c0]
   obtain⟨g1,g2,g3⟩:=ad (x*x) 0 (y*y+b_*b_*c) (y*b_+b_*y)
   refine⟨g1,?_⟩
   by_cases he:y*b_+b_*y=0
   ·rw[g3 rfl he,show x*0+y*b_+(x*0+y*b_)=0 by grind]
    show _=coR _ 0 c
    rw[←c0]
    congr 1
    grind
   ·rw[g2 (.inr he)]
    congr 1<;>grind
  ·by_cases hy:b_=0
   ·subst hy
    rw[sq0,sq1 _ _ hx,c0]
    obtain⟨g1,g2,g3⟩:=ad (x*x+bx*bx*c) (x*bx+bx*x) (y*y) 0
    refine⟨g1,?_⟩
    by_cases he:x*bx+bx*x=0
    ·rw[g3 he rfl,show x*bx+y*0+(x*bx+y*0)=0 by grind]
     show _=coR _ 0 c
     rw[←c0]
     congr 1
     grind
    ·rw[g2 (.inl he)]
     congr 1<;>grind
   ·rw[sq1 _ _ hx,sq1 _ _ hy]
    obtain⟨g1,g2,g3⟩:=ad (x*x+bx*bx*c) (x*bx+bx*x) (y*y+b_*b_*c) (y*b_+b_*y)
    refine⟨g1,?_⟩
    by_cases h0:x*bx+bx*x=0∧y*b_+b_*y=0
    ·rw[g3 h0.1 h0.2,show x*bx+y*b_+(x*bx+y*b_)=0 by grind]
     show _=coR _ 0 c
     rw[←c0]
     congr 1
     grind
    ·rw[g2 (by by_cases e:x*bx+bx*x=0;exact .inr (fun e'=>h0 ⟨e,e'⟩);exact .inl e)]
     congr 1<;>grind
theorem Rpd.com{p:Pt}{v:Rat×Rat}(h:Rpd p):k9 (jX (xP (trP p (bkV v))) (xP (trP p (bkV v)))) (jX (yP (trP p (bkV v))) (yP (trP p (bkV v))))=true:=(G7 h).1
instance aoQ {r s:Rt} {i j:Nat} [h:Bd r i] [h':Bd s j]:Bd (jX r s) (2*(i+j)+(mx j i)+1):=by
 have m:Bd (fV r s) (mx j i):=inferInstance
 have a1:Bd (r.1*s.1+r.2.1*s.2.1*fV r s) _:=inferInstance
 have a2:Bd (r.1*s.2.1+r.2.1*s.1) _:=inferInstance
 have i1:Bd (ju (r.1*s.1+r.2.1*s.2.1*fV r s) (r.1*s.2.1+r.2.1*s.1) (fV r s)) _:=inferInstance
 exact i1.mono (cH (by omega) (cH (by omega) (by omega)))
instance aoR {r s:Rt} {i j:Nat} [h:Bd r i] [h':Bd s j]:Bd (v9 r s) (i+j+1):=by
 have i1:Bd (ju (r.1+s.1) (r.2.1+s.2.1) (fV r s)) _:=inferInstance
 exact i1.mono (cH (by omega) (cH (by omega) (cH (by omega) (by omega))))
instance apv {r:Rt} {a:Rat} {i j:Nat} [h:Bd r i] [h':Bd a j]:Bd (arT r a) (i+j+1):=by
 have i1:Bd ((r.1+a,r.2.1,r.2.2):Rt) _:=inferInstance
 exact i1.mono (cH (by omega) (cH (by omega) (by omega)))
def oA:aM:=spN true true [tO,tR] (fun x=>decide (okT 15000 x.1∧ok Rat 15000 x.2.1)) (fun x=>[RV.d atB (d9 (dec x.1) (ab x.2.1))])
theorem mM:SpK 85 oA:=spX fun x h=>T9 x.1 x.2.1 (aqr h)
def tg:Env:=[(78,fo),(50,gA),(127,gW),(132,gn),(107,jb),(124,i7),(145,zI),(57,sA),(133,yN),(119,mo),(85,oA)]
theorem jA:EnvAll Tryz.prog tg:=⟨dR,eP,fG,eJ,fY,fZ,wU,rh,wJ,jF,mM,trivial⟩
def afP:Ctx:=CX tg []
def U0(r s:BO3)(_k:KT):Option (List RV):=match decide (okR r.2.1)with|true=>(match(aS (ab r.2.1) 0)==0 with|true=>some [RV.d tR s.2.2,RV.d .bool true]|false=>(match decide (okR s.2.1)with|true=>(match(aS (ab s.2.1) 0)==0 with|true=>some [RV.d tR r.2.2,RV.d .bool true]|false=>(match decide (okR r.2.2∧okR s.2.2)with|true=>some [RV.d tR r.2.2,RV.d .bool ((aS (ab r.2.2) (ab s.2.2))==0)]|false=>none))|false=>none))|false=>none
theorem agI(r s:BO3):RS afP 215 [.d tO r,.d tO s] (U0 r s):=rsX
theorem TA(r s:BO3)(h:ok Rt 100000 r∧ok Rt 100000 s):Con Tryz.prog 215 [.d tO r,.d tO s] [.d tR (ag (fV (dec r) (dec s))),.d .bool (k9 (dec r) (dec s))]:=by
 refine aN jA (agI _ _ ⟨0,?_⟩)
 obtain⟨hr,hs⟩:=h
 obtain⟨r,rfl,br⟩:=aQ hr
 obtain⟨s,rfl,bs⟩:=aQ hs
 unfold U0
 simp only[ak,aD,aE,aA,av,aT,aqv,aqw,Nat.reduceLeDiff,aH]
 unfold fV k9
 cases decide (r.2.1=0)<;>cases decide (s.2.1=0)<;>rfl
def afL:Ctx:=CX tg []
def QV(r:BO3)(a:BR)(_k:KT):Option (List RV):=match decide (okR r.1∧okR a)with|true=>some [RV.d tO (hid (ag (ab r.1+ab a)),r.2)]|false=>none
theorem agV(r:BO3)(a:BR):RS afL 266 [.d tO r,.d tR a] (QV r a):=rsX
theorem PG(r:BO3)(a:BR)(h:ok Rt 100000 r∧ok Rat 100000 a):Con Tryz.prog 266 [.d tO r,.d tR a] [.d tO (enc (arT (dec r) (ab a)))]:=by
 refine aN jA (agV _ _ ⟨0,?_⟩)
 obtain⟨hr,ha⟩:=h
 obtain⟨r,rfl,br⟩:=aQ hr
 obtain⟨a,rfl,ba⟩:=aQ ha
 unfold QV
 simp only[aj,ak,aD,aE,aA,av,aT,aqv,aqw,Nat.reduceLeDiff]
 rfl
def ahh:Ctx:=CX tg []
def NW(_k:KT):Option (List RV):=match decide (aX (0:Int))with|true=>some [RV.d tR (hid (ag ((0:Int):Rat)))]|false=>none
theorem ahL:RS ahh 82 [] (NW):=rsX
theorem Og:Con Tryz.prog 82 [] [.d tR (ag 0)]:=by
 refine aN jA (ahL ⟨0,?_⟩)
 unfold NW
 rw[dT (show aX 0 by decide)]
 simp only[aj]
 rfl
def aeE:Ctx:=CX tg []
def Qj(p:BP)(v:BV)(_k:KT):Option (List RV):=match decide (okR p.1∧okR v.1)with|true=>(match decide (okR p.2.2.1∧okR v.2)with|true=>some [RV.d tP (hid (ag (ab p.1+ab v.1)),(p.2.1,(hid (ag (ab p.2.2.1+ab v.2)),p.2.2.2)))]|false=>none)|false=>none
theorem aeY(p:BP)(v:BV):RS aeE 45 [.d tP p,.d tV v] (Qj p v):=rsX
theorem MY(p:BP)(v:BV)(h:ok Pt 21000 p∧ok (Rat×Rat) 1000 v):Con Tryz.prog 45 [.d tP p,.d tV v] [.d tP (enc (trP (dec p) (dec v)))]:=by
 refine aN jA (aeY _ _ ⟨0,?_⟩)
 obtain⟨hp,hv⟩:=h
 obtain⟨p,rfl,bp⟩:=aQ hp
 obtain⟨v,rfl,bv⟩:=aQ hv
 unfold Qj
 simp only[aj,ak,aD,aE,aA,av,aT,aqv,aqw,Nat.reduceLeDiff]
 rfl
def aej:Ctx:=CX tg []
def Ow(v:BV)(_k:KT):Option (List RV):=match decide (okR v.1)with|true=>(match decide (okR v.2)with|true=>some [RV.d tV (hid (ag (-ab v.1)),hid (ag (-ab v.2)))]|false=>none)|false=>none
theorem agP(v:BV):RS aej 136 [.d tV v] (Ow v):=rsX
theorem Tx(v:BV)(h:ok (Rat×Rat) 21000 v):Con Tryz.prog 136 [.d tV v] [.d tV (enc (bkV (dec v)))]:=by
 refine aN jA (agP _ ⟨0,?_⟩)
 have hv:=h
 obtain⟨v,rfl,bv⟩:=aQ hv
 unfold Ow
 simp only[aj,ak,aD,aE,aA,av,aT,Nat.reduceLeDiff]
 rfl
def GY:aM:=spN false true [tO,tO] (fun x=>decide (ok Rt 100000 x.1∧ok Rt 100000 x.2.1)) (fun x=>[RV.d tR (hid (ag (fV (dec x.1) (dec x.2.1)))),RV.d .bool (k9 (dec x.1) (dec x.2.1))])
theorem Jy:SpK 215 GY:=spX fun x h=>by simp only[aj];exact TA x.1 x.2.1 (aqr h)
def zh:aM:=spN false true [tO,tR] (fun x=>decide (ok Rt 100000 x.1∧ok Rat 100000 x.2.1)) (fun x=>[RV.d tO (hid (enc (arT (dec x.1) (ab x.2.1))))])
theorem wM:SpK 266 zh:=spX fun x h=>by simp only[aj];exact PG x.1 x.2.1 (aqr h)
def HT:aM:=spN false true [] (fun _=>true) (fun _=>[RV.d tR (hid (ag 0))])
theorem Kf:SpK 82 HT:=spX fun _ _=>by simp only[aj];exact Og
def pK:aM:=spN false true [tP,tV] (fun x=>decide (ok Pt 21000 x.1∧ok (Rat×Rat) 1000 x.2.1)) (fun x=>[RV.d tP (hid (enc (trP (dec x.1) (dec x.2.1))))])
theorem mO:SpK 45 pK:=spX fun x h=>by simp only[aj];exact MY x.1 x.2.1 (aqr h)
def zW:aM:=spN false true [tV] (fun x=>decide (ok (Rat×Rat) 21000 x.1)) (fun x=>[RV.d tV (hid (enc (bkV (dec x.1))))])
theorem yg:SpK 136 zW:=spX fun x h=>by simp only[aj];exact Tx x.1 (aqr h)
def Gm:Env:=(215,GY)::(266,zh)::(82,HT)::(45,pK)::(136,zW)::tg
theorem tc:EnvAll Tryz.prog Gm:=⟨Jy,wM,Kf,mO,yg,jA⟩
def ad5:Ctx:=CX Gm []
def R9(r s:BO3)(_k:KT):Option (List RV):=match decide (ok Rt 100000 r∧ok Rt 100000 s)with|true=>(match !(k9 (dec r) (dec s))with|true=>some [RV.d tO (((false,[]),(false,[])),(((false,[]),(false,[])),((false,[]),(false,[])))),RV.d atB 1]|false=>(match decide (okR r.1∧okR s.1)with|true=>(match decide (okR r.2.1∧okR s.2.1)with|true=>(match decide (okR (hid (ag (ab r.2.1*ab s.2.1)))∧okR (hid (ag (fV (dec r) (dec s)))))with|true=>(match decide (okR (hid (ag (ab r.1*ab s.1)))∧okR (hid (ag (ab (hid (ag (ab r.2.1*ab s.2.1)))*ab (hid (ag (fV (dec r) (dec s))))))))with|true=>(match decide (okR r.1∧okR s.2.1)with|true=>(match decide (okR r.2.1∧okR s.1)with|true=>(match decide (okR (hid (ag (ab r.1*ab s.2.1)))∧okR (hid (ag (ab r.2.1*ab s.1))))with|true=>(match decide (okR (hid (ag (ab (hid (ag (ab r.1*ab s.1)))+ab (hid (ag (ab (hid (ag (ab r.2.1*ab s.2.1)))*ab (hid (ag (fV (dec r) (dec s))))))))))∧okR (hid (ag (ab (hid (ag (ab r.1*ab s.2.1)))+ab (hid (ag (ab r.2.1*ab s.1))))))∧okR (hid (ag (fV (dec r) (dec s)))))with|true=>some [RV.d tO (hid (enc (ju (ab (hid (ag (ab (hid (ag (ab r.1*ab s.1)))+ab (hid (ag (ab (hid (ag (ab r.2.1*ab s.2.1)))*ab (hid (ag (fV (dec r) (dec s))))))))))) (ab (hid (ag (ab (hid (ag (ab r.1*ab s.2.1)))+ab (hid (ag (ab r.2.1*ab s.1))))))) (ab (hid (ag (fV (dec r) (dec s)))))))),RV.d atB 0]|false=>none)|false=>none)|false=>none)|false=>none)|false=>none)|false=>none)|false=>none)|false=>none))|false=>none
theorem afu(r s:BO3):RS ad5 209 [.d tO r,.d tO s] (R9 r s):=rsX
theorem K0(r s:BO3)(h:ok Rt 50000 r∧ok Rt 50000 s∧k9 (dec r) (dec s)=true):Con Tryz.prog 209 [.d tO r,.d tO s] [.d tO (enc (jX (dec r) (dec s))),.d atB 0]:=by
 refine aN tc (afu _ _ ⟨0,?_⟩)
 obtain⟨hr,hs,htrue⟩:=h
 obtain⟨r,rfl,br⟩:=aQ hr
 obtain⟨s,rfl,bs⟩:=aQ hs
 have hm:=htrue
 rw[ak,ak]at hm
 unfold R9
 simp only[aj,ak,aD,aE,aA,av,okd,aT,aqv,aqw,mx,Nat.reduceAdd,Nat.reduceLeDiff,aqC,cond_true,hm,Bool.not_true]
 rfl
def agM:Ctx:=CX Gm []
def KW(r s:BO3)(_k:KT):Option (List RV):=match decide (ok Rt 100000 r∧ok Rt 100000 s)with|true=>(match !(k9 (dec r) (dec s))with|true=>some [RV.d tO (((false,[]),(false,[])),(((false,[]),(false,[])),((false,[]),(false,[])))),RV.d atB 1]|false=>(match decide (okR r.1∧okR s.1)with|true=>(match decide (okR r.2.1∧okR s.2.1)with|true=>(match decide (okR (hid (ag (ab r.1+ab s.1)))∧okR (hid (ag (ab r.2.1+ab s.2.1)))∧okR (hid (ag (fV (dec r) (dec s)))))with|true=>some [RV.d tO (hid (enc (ju (ab (hid (ag (ab r.1+ab s.1)))) (ab (hid (ag (ab r.2.1+ab s.2.1)))) (ab (hid (ag (fV (dec r) (dec s)))))))),RV.d atB 0]|false=>none)|false=>none)|false=>none))|false=>none
theorem afv(r s:BO3):RS agM 137 [.d tO r,.d tO s] (KW r s):=rsX
theorem KY(r s:BO3)(h:ok Rt 100000 r∧ok Rt 100000 s∧k9 (dec r) (dec s)=true):Con Tryz.prog 137 [.d tO r,.d tO s] [.d tO (enc (v9 (dec r) (dec s))),.d atB 0]:=by
 refine aN tc (afv _ _ ⟨0,?_⟩)
 obtain⟨hr,hs,htrue⟩:=h
 obtain⟨r,rfl,br⟩:=aQ hr
 obtain⟨s,rfl,bs⟩:=aQ hs
 have hm:=htrue
 rw[ak,ak]at hm
 unfold KW
 simp only[aj,ak,aD,aE,aA,av,okd,aT,aqv,aqw,mx,Nat.reduceAdd,Nat.reduceLeDiff,aqC,cond_true,hm,Bool.not_true]
 rfl
def AE:aM:=spN false true [tO,tO] (fun x=>decide (ok Rt 50000 x.1∧ok Rt 50000 x.2.1∧k9 (dec x.1) (dec x.2.1)=true)) (fun x=>[RV.d tO (hid (enc (jX (dec x.1) (dec x.2.1)))),RV.d atB 0])
theorem xl:SpK 209 AE:=spX fun x h=>by simp only[aj];exact K0 x.1 x.2.1 (aqr h)
def IA:aM:=spN false true [tO,tO] (fun x=>decide (ok Rt 100000 x.1∧ok Rt 100000 x.2.1∧k9 (dec x.1) (dec x.2.1)=true)) (fun x=>[RV.d tO (hid (enc (v9 (dec x.1) (dec x.2.1)))),RV.d atB 0])
theorem Kz:SpK 137 IA:=spX fun x h=>by simp only[aj];exact KY x.1 x.2.1 (aqr h)
def xA:Env:=(209,AE)::(137,IA)::Gm
theorem lj:EnvAll Tryz.prog xA:=⟨xl,Kz,tc⟩
def afz:Ctx:=CX xA []
def M8(r:BO3)(_k:KT):Option (List RV):=match decide (ok Rt 50000 r∧ok Rt 50000 r∧k9 (dec r) (dec r)=true)with|true=>some [RV.d tO (hid (enc (jX (dec r) (dec r))))]|false=>none
theorem afU(r:BO3):RS afz 120 [.d tO r] (M8 r):=rsX
theorem U1(r:BO3)(h:ok Rt 50000 r):Con Tryz.prog 120 [.d tO r] [.d tO (enc (jX (dec r) (dec r)))]:=by
 refine aN lj (afU _ ⟨0,?_⟩)
 have hr:=h
 obtain⟨r,rfl,br⟩:=aQ hr
 unfold M8
 simp only[aj,ak,okd,aqv,aqw,Nat.reduceLeDiff,aqC,Jo]
def agn:Ctx:=CX xA []
def T4(v:BV)(_k:KT):Option (List RV):=some [RV.d tP (v.1,(hid (ag 0),(v.2,(hid (ag 0),hid (ag 0)))))]
theorem ah8(v:BV):RS agn 20 [.d tV v] (T4 v):=rsX
theorem LY(v:BV)(h:ok (Rat×Rat) 100000 v):Con Tryz.prog 20 [.d tV v] [.d tP (enc (atP (dec v)))]:=by
 refine aN lj (ah8 _ ⟨0,?_⟩)
 have hv:=h
 obtain⟨v,rfl,bv⟩:=aQ hv
 unfold T4
 simp only[aj,ak,aD,aE,aA]
 try rfl
def ahr:Ctx:=CX xA []
def N6(a b c d e:BR)(_k:KT):Option (List RV):=match decide (okR b)with|true=>(match(aS (ab b) 0)==0 with|true=>(match decide (okR d)with|true=>(match(aS (ab d) 0)==0 with|true=>some [RV.d tP (a,(b,(c,(d,hid (ag 0)))))]|false=>some [RV.d tP (a,(b,(c,(d,e))))])|false=>none)|false=>some [RV.d tP (a,(b,(c,(d,e))))])|false=>none
theorem ahV(a b c d e:BR):RS ahr 194 [.d tR a,.d tR b,.d tR c,.d tR d,.d tR e] (N6 a b c d e):=rsX
theorem NG(a b c d e:BR)(h:okR a∧okR b∧okR c∧okR d∧okR e):Con Tryz.prog 194 [.d tR a,.d tR b,.d tR c,.d tR d,.d tR e] [.d tP (enc (rdP (ab a,ab b,ab c,ab d,ab e)))]:=by
 refine aN lj (ahV _ _ _ _ _ ⟨0,?_⟩)
 obtain⟨ha,hb,hc,hd,he⟩:=h
 obtain⟨a,rfl,ba⟩:=dQ ha
 obtain⟨b,rfl,bb⟩:=dQ hb
 obtain⟨c,rfl,bc⟩:=dQ hc
 obtain⟨d,rfl,bd⟩:=dQ hd
 obtain⟨e,rfl,be⟩:=dQ he
 unfold N6
 simp only[aj,av,aT,Nat.reduceLeDiff,aH]
 unfold rdP
 by_cases h1:b=0
 ·by_cases h2:d=0
  ·rw[aqs h1,aqs h2];rfl
  ·rw[aqs h1,aqu h2];rfl
 ·rw[aqu h1];rfl
def ahU:Ctx:=CX xA []
def KR(a b c:BR)(_k:KT):Option (List RV):=match decide (okR b)with|true=>(match(aS (ab b) 0)==0 with|true=>(match decide (okR a)with|true=>some [RV.d tO (hid (enc ((ab a,0,0):Rt)))]|false=>none)|false=>some [RV.d tO (a,(b,c))])|false=>none
theorem agk(a b c:BR):RS ahU 216 [.d tR a,.d tR b,.d tR c] (KR a b c):=rsX
theorem Ua(a b c:BR)(h:okR a∧okR b∧okR c):Con Tryz.prog 216 [.d tR a,.d tR b,.d tR c] [.d tO (enc (coR (ab a) (ab b) (ab c)))]:=by
 refine aN lj (agk _ _ _ ⟨0,?_⟩)
 obtain⟨ha,hb,hc⟩:=h
 obtain⟨a,rfl,ba⟩:=dQ ha
 obtain⟨b,rfl,bb⟩:=dQ hb
 obtain⟨c,rfl,bc⟩:=dQ hc
 unfold KR
 simp only[aj,aP,aA,av,aT,Nat.reduceLeDiff,aH]
 unfold coR
 by_cases e:b=0
 ·subst e;rw[aqs rfl];rfl
 ·rw[aqu e];rfl
def Aw:aM:=spN false true [tO] (fun x=>decide (ok Rt 50000 x.1)) (fun x=>[RV.d tO (hid (enc (jX (dec x.1) (dec x.1))))])
theorem xZ:SpK 120 Aw:=spX fun x h=>by simp only[aj];exact U1 x.1 (aqr h)
def kT:aM:=spN false true [tV] (fun x=>decide (ok (Rat×Rat) 100000 x.1)) (fun x=>[RV.d tP (hid (enc (atP (dec x.1))))])
theorem ic:SpK 20 kT:=spX fun x h=>by simp only[aj];exact LY x.1 (aqr h)
def GO:aM:=spN false true [tR,tR,tR,tR,tR] (fun x=>decide (okR x.1∧okR x.2.1∧okR x.2.2.1∧okR x.2.2.2.1∧okR x.2.2.2.2.1)) (fun x=>[RV.d tP (hid (enc (rdP (ab x.1,ab x.2.1,ab x.2.2.1,ab x.2.2.2.1,ab x.2.2.2.2.1))))])
theorem IG:SpK 194 GO:=spX fun x h=>by simp only[aj];exact NG x.1 x.2.1 x.2.2.1 x.2.2.2.1 x.2.2.2.2.1 (aqr h)
def GU:aM:=spN false true [tR,tR,tR] (fun x=>decide (okR x.1∧okR x.2.1∧okR x.2.2.1)) (fun x=>[RV.d tO (hid (enc (coR (ab x.1) (ab x.2.1) (ab x.2.2.1))))])
theorem JU:SpK 216 GU:=spX fun x h=>by simp only[aj];exact Ua x.1 x.2.1 x.2.2.1 (aqr h)
def Ba:Env:=(120,Aw)::(20,kT)::(194,GO)::(216,GU)::xA
theorem po:EnvAll Tryz.prog Ba:=⟨xZ,ic,IG,JU,lj⟩
def afA:Ctx:=CX Ba []
def MQ(x y:BO3)(_k:KT):Option (List RV):=let y1:=aS (ab x.2.1) 0;let y2:Option (List RV):=match decide (okR x.2.1)with|true=>(match y1==0 with|true=>(match decide (okR x.1∧okR x.2.1∧okR y.1∧okR y.2.1∧okR y.2.2)with|true=>some [RV.d tP (hid (enc (rdP (ab x.1,ab x.2.1,ab y.1,ab y.2.1,ab y.2.2)))),RV.d atB 0]|false=>none)|false=>(match decide (okR x.1∧okR x.2.1∧okR y.1∧okR y.2.1∧okR x.2.2)with|true=>some [RV.d tP (hid (enc (rdP (ab x.1,ab x.2.1,ab y.1,ab y.2.1,ab x.2.2)))),RV.d atB 0]|false=>none))|false=>none;match decide (okR x.2.1)with|true=>(match y1 !=0 with|true=>(match decide (okR y.2.1)with|true=>(match(aS (ab y.2.1) 0) !=0 with|true=>(match decide (okR x.2.2∧okR y.2.2)with|true=>(match(aS (ab x.2.2) (ab y.2.2)) !=0 with|true=>some [RV.d tP (((false,[]),(false,[])),(((false,[]),(false,[])),(((false,[]),(false,[])),(((false,[]),(false,[])),((false,[]),(false,[])))))),RV.d atB 1]|false=>y2)|false=>none)|false=>y2)|false=>none)|false=>y2)|false=>none
theorem aeJ(x y:BO3):RS afA 109 [.d tO x,.d tO y] (MQ x y):=rsX
theorem PM(x y:BO3)(h:okT 15000 x∧okT 15000 y∧rR (dec x) (dec y)):Con Tryz.prog 109 [.d tO x,.d tO y] [.d tP (enc (mkP (dec x) (dec y))),.d atB 0]:=by
 refine aN po (aeJ _ _ ⟨0,?_⟩)
 obtain⟨hx,hy,hy_2⟩:=h
 obtain⟨x,rfl,bx,rx⟩:=ew hx
 obtain⟨y,rfl,b_y,ry⟩:=ew hy
 have hm:=hy_2
 rw[ak,ak]at hm
 unfold MQ
 simp only[aj,ak,aD,aE,aA,av,aT,aqv,aqw,Nat.reduceLeDiff,aH,bS]
 unfold mkP
 by_cases e1:x.2.1=0
 ·rw[aqs e1];rfl
 ·rw[aqu e1]
  by_cases e2:y.2.1=0
  ·rw[aqs e2];rfl
  ·rw[aqu e2,aqs ((hm.resolve_left e1).resolve_left e2)];rfl
def anB:Ctx:=CX Ba []
def abB(p:BP)(_k:KT):Option (List RV):=match decide (okR p.1∧okR p.2.1∧okR p.2.2.2.2)with|true=>some [RV.d tO (hid (enc (coR (ab p.1) (ab p.2.1) (ab p.2.2.2.2))))]|false=>none
theorem ak5(p:BP):RS anB 138 [.d tP p] (abB p):=rsX
theorem WP(p:BP)(h:okP 4000 p):Con Tryz.prog 138 [.d tP p] [.d tO (enc (xP (dec p)))]:=by
 refine aN po (ak5 _ ⟨0,?_⟩)
 have hp:=h
 obtain⟨p,rfl,bp,rp⟩:=bG hp
 unfold abB
 simp only[aj,ak,aD,aE,aA,av,aT,aqv,aqw,Nat.reduceLeDiff]
 try rfl
def akP:Ctx:=CX Ba []
def abV(p:BP)(_k:KT):Option (List RV):=match decide (okR p.2.2.1∧okR p.2.2.2.1∧okR p.2.2.2.2)with|true=>some [RV.d tO (hid (enc (coR (ab p.2.2.1) (ab p.2.2.2.1) (ab p.2.2.2.2))))]|false=>none
theorem ald(p:BP):RS akP 139 [.d tP p] (abV p):=rsX
theorem Wy(p:BP)(h:okP 4000 p):Con Tryz.prog 139 [.d tP p] [.d tO (enc (yP (dec p)))]:=by
 refine aN po (ald _ ⟨0,?_⟩)
 have hp:=h
 obtain⟨p,rfl,bp,rp⟩:=bG hp
 unfold abV
 simp only[aj,ak,aD,aE,aA,av,aT,aqv,aqw,Nat.reduceLeDiff]
 try rfl
def FS:aM:=spN false true [tP] (fun x=>decide (okP 4000 x.1)) (fun x=>[RV.d tO (hid (enc (xP (dec x.1))))])
theorem Bk:SpK 138 FS:=spX fun x h=>by simp only[aj];exact WP x.1 (aqr h)
def ES:aM:=spN false true [tP] (fun x=>decide (okP 4000 x.1)) (fun x=>[RV.d tO (hid (enc (yP (dec x.1))))])
theorem Cl:SpK 139 ES:=spX fun x h=>by simp only[aj];exact Wy x.1 (aqr h)
def Qy:Env:=(138,FS)::(139,ES)::Ba
theorem Cc:EnvAll Tryz.prog Qy:=⟨Bk,Cl,po⟩
def ahi:Ctx:=CX Qy []
def NC(p q:BP)(_k:KT):Option (List RV):=match decide (okP 4000 p)with|true=>(match decide (okP 4000 q)with|true=>(match decide (okT 15000 (hid (enc (xP (dec p))))∧okT 15000 (hid (enc (xP (dec q)))))with|true=>(match(bL (dec (hid (enc (xP (dec p))))) (dec (hid (enc (xP (dec q)))))) !=0 with|true=>some [RV.d atB (bL (dec (hid (enc (xP (dec p))))) (dec (hid (enc (xP (dec q))))))]|false=>(match decide (okP 4000 p)with|true=>(match decide (okP 4000 q)with|true=>(match decide (okT 15000 (hid (enc (yP (dec p))))∧okT 15000 (hid (enc (yP (dec q)))))with|true=>some [RV.d atB (bL (dec (hid (enc (yP (dec p))))) (dec (hid (enc (yP (dec q))))))]|false=>none)|false=>none)|false=>none))|false=>none)|false=>none)|false=>none
theorem ae9(p q:BP):RS ahi 96 [.d tP p,.d tP q] (NC p q):=rsX
theorem Tm(p q:BP)(h:okP 4000 p∧okP 4000 q):Con Tryz.prog 96 [.d tP p,.d tP q] [.d atB (cz (dec p) (dec q))]:=by
 refine aN Cc (ae9 _ _ ⟨0,?_⟩)
 obtain⟨hp,hq⟩:=h
 obtain⟨p,rfl,bp,rp⟩:=bG hp
 obtain⟨q,rfl,bq,rq⟩:=bG hq
 unfold NC
 simp only[aj,ak,aqv,aqw,mx,Nat.reduceLeDiff,aqC,cond_true,bh,bg]
 unfold cz bne
 cases bL (xP p) (xP q)==0<;>rfl
def sE:aM:=spN false true [tO,tO] (fun x=>decide (okT 15000 x.1∧okT 15000 x.2.1∧rR (dec x.1) (dec x.2.1))) (fun x=>[RV.d tP (hid (enc (mkP (dec x.1) (dec x.2.1)))),RV.d atB 0])
theorem qn:SpK 109 sE:=spX fun x h=>by simp only[aj];exact PM x.1 x.2.1 (aqr h)
def mH:aM:=spN true true [tP,tP] (fun x=>decide (okP 4000 x.1∧okP 4000 x.2.1)) (fun x=>[RV.d atB (cz (dec x.1) (dec x.2.1))])
theorem jW:SpK 96 mH:=spX fun x h=>Tm x.1 x.2.1 (aqr h)
def Nd:Env:=(109,sE)::(96,mH)::Qy
theorem Dj:EnvAll Tryz.prog Nd:=⟨qn,jW,Cc⟩
def ag3:Ctx:=CX Nd []
def Ta(p q:BP)(_k:KT):Option (List RV):=match decide (okP 4000 p∧okP 4000 q)with|true=>some [RV.d .bool ((cz (dec p) (dec q))==0)]|false=>none
theorem af4(p q:BP):RS ag3 122 [.d tP p,.d tP q] (Ta p q):=rsX
theorem Sj(p q:BP)(h:okP 4000 p∧okP 4000 q):Con Tryz.prog 122 [.d tP p,.d tP q] [.d .bool (cz (dec p) (dec q)==0)]:=by
 refine aN Dj (af4 _ _ ⟨0,?_⟩)
 unfold Ta
 rw[dT h]
def aeF:Ctx:=CX Nd []
def R4(p:BP)(v:BV)(_k:KT):Option (List RV):=let y1:=hid (enc (bkV (dec v)));let y2:=hid (enc (trP (dec p) (dec y1)));let y3:=hid (enc (xP (dec y2)));let y4:=hid (enc (yP (dec y2)));let y5:=hid (enc (jX (dec y3) (dec y3)));let y6:=hid (enc (jX (dec y4) (dec y4)));match decide (ok (Rat×Rat) 21000 v)with|true=>(match decide (ok Pt 21000 p∧ok (Rat×Rat) 1000 y1)with|true=>(match decide (okP 4000 y2)with|true=>(match decide (ok Rt 50000 y3)with|true=>(match decide (okP 4000 y2)with|true=>(match decide (ok Rt 50000 y4)with|true=>(match decide (ok Rt 100000 y5∧ok Rt 100000 y6∧k9 (dec y5) (dec y6)=true)with|true=>some [RV.d tO (hid (enc (v9 (dec y5) (dec y6))))]|false=>none)|false=>none)|false=>none)|false=>none)|false=>none)|false=>none)|false=>none
theorem agH(p:BP)(v:BV):RS aeF 54 [.d tP p,.d tV v] (R4 p v):=rsX
theorem Rc(p:BP)(v:BV)(h:okP 3500 p∧ok (Rat×Rat) 300 v):Con Tryz.prog 54 [.d tP p,.d tV v] [.d tO (enc (sqP (dec p) (dec v)))]:=by
 refine aN Dj (agH _ _ ⟨0,?_⟩)
 obtain⟨hp,hv⟩:=h
 obtain⟨p,rfl,bp,rp⟩:=bG hp
 obtain⟨v,rfl,bv⟩:=aQ hv
 obtain⟨e1,e2⟩:=G7 (v:=v) rp
 unfold R4
 simp only[aj,ak,okd,aqv,aqw,mx,Nat.reduceAdd,Nat.reduceMul,Nat.reduceLeDiff,aqC,aqz,cond_true,cond_false,bg,e1]
 rw[e2]
def sh:aM:=spN true true [tP,tP] (fun x=>decide (okP 4000 x.1∧okP 4000 x.2.1)) (fun x=>[RV.d .bool (cz (dec x.1) (dec x.2.1)==0)])
theorem ql:SpK 122 sh:=spX fun x h=>Sj x.1 x.2.1 (aqr h)
def sB:aM:=spN false true [tP,tV] (fun x=>decide (okP 3500 x.1∧ok (Rat×Rat) 300 x.2.1)) (fun x=>[RV.d tO (hid (enc (sqP (dec x.1) (dec x.2.1))))])
theorem qO:SpK 54 sB:=spX fun x h=>by simp only[aj];exact Rc x.1 x.2.1 (aqr h)
end Go.Proofs.YtlahabkjhgkkjaaGreat
end
