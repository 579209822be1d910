/- Signs and comparisons: the program's contracts. -/
import Derived.Test.YtgddhgcjmddjfaaGreatC12
import Derived.Test.YtgddhgcjmddjfaaGreatC11
noncomputable section
namespace Go.Proofs.YtgddhgcjmddjfaaGreat
open Go.RowKit Go.IntKind
theorem awE:type_of% @Rat.mul_eq_zero:=@Rat.mul_eq_zero
namespace RE
theorem same_rad(a b c d r:RE):a-c+(b-d)*r=a+b*r-(c+d*r):=by
 induction a using atR
 induction b using atR
 induction c using atR
 induction d using atR
 induction r using atR
 exact snd fun n=>by
  simp only[RL.add,RL.mul,RL.neg]
  grind
theorem ai5(a b c:RE):a-b+c=a+c-b:=by
 induction a using atR
 induction b using atR
 induction c using atR
 exact snd fun n=>by
  simp only[RL.add,RL.neg]
  grind
theorem vR_rat(q:Rat):vR (q,0,0)=of q:=eF q 0
theorem cmpTR_re{x:Rt}{q:Rat}(h:0≤x.2.2):gk x q=sg (vR x-of q):=by
 unfold gk vR
 rw[sgn2_re h]
 unfold v2
 rw[of_sub,ai5]
end RE
theorem Rdd.rat{x:Rt}(h:Rdd x)(hb:x.2.1=0):x=(x.1,0,0):=by
 obtain⟨a,b,c⟩:=x
 rcases h.rd with h|h
 ·obtain⟨h1,h2⟩:=h
  simp only at h1 h2
  rw[h1,h2]
 ·exact absurd hb h.1
theorem Uc{x:Rt}{q:Rat}(h:Rdd x):bR x (q,0,0)=gk x q:=by
 rw[RE.cmpT_re h.nn (by show(0:Rat)≤0;grind),RE.cmpTR_re h.nn,RE.vR_rat]
theorem aap{x y:Rt}(hx:Rdd x)(hy:Rdd y)(bx:x.2.1=0)(b_:y.2.1=0):bR x y=aS x.1 y.1:=by
 rw[hx.rat bx,hy.rat b_,RE.cmpT_re (by show(0:Rat)≤0;grind) (by show(0:Rat)≤0;grind),RE.vR_rat,RE.vR_rat,←RE.of_sub,RE.sg_of,zq]
theorem aaL{x y:Rt}(hx:Rdd x)(hy:Rdd y)(h:(apF x y).2=true):(apF x y).1=bR x y:=by
 rw[RE.apF_ok h,RE.cmpT_re hx.nn hy.nn]
theorem Pe{x y:Rt}(hx:Rdd x)(hy:Rdd y)(h:x.2.2=y.2.2):fU (x.1-y.1) (x.2.1-y.2.1) x.2.2=bR x y:=by
 rw[RE.cmpT_re hx.nn hy.nn,RE.sgn2_re hx.nn]
 unfold RE.vR RE.v2
 rw[RE.of_sub,RE.of_sub,RE.same_rad,h]
theorem ai9{A B C D M N:Rat}(hM:0≤M)(hN:0≤N)(h:(quF (A,B,C,D,M,N)).2=true):(quF (A,B,C,D,M,N)).1=sgQ (A,B,C,D,M,N):=by
 rw[RE.quF_ok (q:=(A,B,C,D,M,N)) hM hN h]
 exact(RE.sgnQ_re hM hN).symm
def LS:Env:=[(144,oZ),(76,ky),(75,m6),(74,lS),(147,kJ),(151,ke),(250,Ac),(229,uX),(231,D3),(226,zb)]
theorem Am:EnvAll Tryz.prog LS:=⟨kV,gh,jo,ic,gj,gu,ug,oS,zu,sW,trivial⟩
def al3:Ctx:=CX LS []
def UN(a b:BR)(_k:KT):Option (List RV):=match decide (okR a∧okR b)with|true=>some [RV.d tR (hid (ai (ae a+ae b)))]|false=>none
theorem akG(a b:BR):RS al3 260 [.d tR a,.d tR b] (UN a b):=rsX
theorem Yr(a b:BR)(h:okR a∧okR b):Con Tryz.prog 260 [.d tR a,.d tR b] [.d tR (ai (ae a+ae b))]:=by
 refine aP Am (akG _ _ ⟨0,?_⟩)
 unfold UN
 rw[dT h,ak]
def ark:Ctx:=CX LS []
def agB(a b:BO3)(_k:KT):Option (List RV):=match decide (ok Rt 100000 a)with|true=>(match decide (ok Rt 100000 b)with|true=>(match !((b8 (dec a)).2)with|true=>some [RV.d axf 0,RV.d .bool false]|false=>(match !((b8 (dec b)).2)with|true=>some [RV.d axf 0,RV.d .bool false]|false=>(match decide (((hid ((b8 (dec a)).1)).2)<((hid ((b8 (dec b)).1)).1))with|true=>some [RV.d axf (-1),RV.d .bool true]|false=>(match decide (((hid ((b8 (dec a)).1)).1)>((hid ((b8 (dec b)).1)).2))with|true=>some [RV.d axf 1,RV.d .bool true]|false=>some [RV.d axf 0,RV.d .bool false]))))|false=>none)|false=>none
theorem aqW(a b:BO3):RS ark 228 [.d tO a,.d tO b] (agB a b):=rsX
theorem adz(a b:BO3)(h:ok Rt 100000 a∧ok Rt 100000 b):Con Tryz.prog 228 [.d tO a,.d tO b] [.d axf ((apF (dec a) (dec b)).1),.d .bool ((apF (dec a) (dec b)).2)]:=by
 refine aP Am (aqW _ _ ⟨0,?_⟩)
 obtain⟨ha,hb⟩:=h
 obtain⟨a,rfl,ba⟩:=aZ ha
 obtain⟨b,rfl,bb⟩:=aZ hb
 unfold agB
 simp only[ak,aq,okd,Nat.reduceLeDiff]
 unfold apF
 generalize b8 a=A
 generalize b8 b=B
 obtain⟨⟨a1,a2⟩,p⟩:=A
 obtain⟨⟨b1,b2⟩,q⟩:=B
 cases p<;>cases q<;>try rfl
 dsimp only
 cases decide (a2<b1)<;>try rfl
 cases decide (a1>b2)<;>rfl
def KQ:aN:=spN false true [tR,tR] (fun x=>decide (okR x.1∧okR x.2.1)) (fun x=>[RV.d tR (hid (ai (ae x.1+ae x.2.1)))])
theorem PH:SpK 260 KQ:=spX fun x h=>by simp only[ak];exact Yr x.1 x.2.1 (atS h)
def Iz:aN:=spN true true [tO,tO] (fun x=>decide (ok Rt 100000 x.1∧ok Rt 100000 x.2.1)) (fun x=>[RV.d axf ((apF (dec x.1) (dec x.2.1)).1),RV.d .bool ((apF (dec x.1) (dec x.2.1)).2)])
theorem Hz:SpK 228 Iz:=spX fun x h=>adz x.1 x.2.1 (atS h)
def Tz:aN:=spN true true [tQ] (fun x=>decide (okQ x.1)) (fun x=>[RV.d axf ((quF (dec x.1)).1),RV.d .bool ((quF (dec x.1)).2)])
theorem Tc:SpK 259 Tz:=spX fun x h=>aed x.1 (atS h)
def ahn:Env:=(260,KQ)::(228,Iz)::(259,Tz)::LS
theorem Sa:EnvAll Tryz.prog ahn:=⟨PH,Hz,Tc,Am⟩
def an7:Ctx:=CX ahn []
def ahq(q:BQ)(_k:KT):Option (List RV):=let y1:=ae q.2.2.2.2.1;let y2:=aS (ae q.2.2.2.2.2) 0;let y3:=i64.wrap ((fU (ae q.2.2.1) (ae q.2.2.2.1) y1)*y2);let y4:=fU (ae q.1) (ae q.2.1) y1;let y5:=hid (ai (ae q.2.1*ae q.2.1));let y6:=hid (ai (ae q.1*ae q.1));let y7:=hid (ai (ae q.2.2.2.2.1*ae y5));let y8:=hid (ai (ae q.2.2.2.1*ae q.2.2.2.1));let y9:=hid (ai (ae q.2.2.1*ae q.2.2.1));let y10:=hid (ai (ae q.2.2.2.2.1*ae y8));let y11:=hid (ai (ae y9+ae y10));let y12:=hid (ai (ae y6+ae y7));let y13:=hid (ai (ae q.2.2.2.2.2*ae y11));let y14:=hid (ai (ae q.2.2.1*ae q.2.2.2.1));let y15:=hid (ai (ae q.1*ae q.2.1));let y16:=hid (ai (ae q.2.2.2.2.2*ae y14));let y17:=hid (ai (ae y15-ae y16));let y18:=hid (ai (ae y12-ae y13));let y19:=hid (ai (ae y17+ae y17));let y20:Option (List RV):=match decide (okR y15∧okR y16)with|true=>(match decide (okR y17∧okR y17)with|true=>(match decide (ok Rat 240000 y18∧ok Rat 170000 y19∧ok Rat 30000 q.2.2.2.2.1)with|true=>some [RV.d axf (i64.wrap (y4*(fU (ae y18) (ae y19) y1)))]|false=>none)|false=>none)|false=>none;let y21:Option (List RV):=match decide (okR q.2.2.2.2.2∧okR y14)with|true=>y20|false=>none;let y22:Option (List RV):=match decide (okR q.2.2.1∧okR q.2.2.2.1)with|true=>y21|false=>none;let y23:Option (List RV):=match decide (okR y12∧okR y13)with|true=>dl (match decide (okR q.1∧okR q.2.1)with|true=>dl (match decide (okR q.2.2.1∧okR q.2.2.2.1)with|true=>dl (match decide (okR q.2.2.2.2.2∧okR y14)with|true=>dup (.b .l .l) y20|false=>none) y21|false=>none) y22|false=>none) (match decide (okR q.1∧okR q.2.1)with|true=>y22|false=>none)|false=>none;let y24:Option (List RV):=match decide (okR q.2.2.2.2.2∧okR y11)with|true=>y23|false=>none;let y25:Option (List RV):=match decide (okR y9∧okR y10)with|true=>y24|false=>none;let y26:Option (List RV):=match decide (okR q.2.2.2.2.1∧okR y8)with|true=>y25|false=>none;let y27:Option (List RV):=match decide (okR q.2.2.2.1∧okR q.2.2.2.1)with|true=>y26|false=>none;let y28:Option (List RV):=match decide (okR q.2.2.1∧okR q.2.2.1)with|true=>y27|false=>none;let y29:Option (List RV):=match decide (okR y6∧okR y7)with|true=>y28|false=>none;let y30:Option (List RV):=match decide (okR q.2.2.2.2.1∧okR y5)with|true=>y29|false=>none;let y31:Option (List RV):=match decide (okR q.2.1∧okR q.2.1)with|true=>y30|false=>none;match decide (okR q.2.2.2.2.1)with|true=>(match decide ((aS y1 0)<0)with|true=>some [RV.d axf 0]|false=>(match decide (okR q.2.2.2.2.2)with|true=>(match decide (y2<0)with|true=>some [RV.d axf 0]|false=>(match decide (okQ q)with|true=>(match(quF (dec q)).2 with|true=>some [RV.d axf ((quF (dec q)).1)]|false=>(match decide (ok Rat 240000 q.1∧ok Rat 170000 q.2.1∧ok Rat 30000 q.2.2.2.2.1)with|true=>(match decide (ok Rat 240000 q.2.2.1∧ok Rat 170000 q.2.2.2.1∧ok Rat 30000 q.2.2.2.2.1)with|true=>(match decide (okR q.2.2.2.2.2)with|true=>(match y3==0 with|true=>some [RV.d axf y4]|false=>(match y4==y3 with|true=>some [RV.d axf y4]|false=>(match y4==0 with|true=>some [RV.d axf y3]|false=>dl (match decide (okR q.1∧okR q.1)with|true=>dl (match decide (okR q.2.1∧okR q.2.1)with|true=>dl (match decide (okR q.2.2.2.2.1∧okR y5)with|true=>dl (match decide (okR y6∧okR y7)with|true=>dl (match decide (okR q.2.2.1∧okR q.2.2.1)with|true=>dl (match decide (okR q.2.2.2.1∧okR q.2.2.2.1)with|true=>dl (match decide (okR q.2.2.2.2.1∧okR y8)with|true=>dl (match decide (okR y9∧okR y10)with|true=>dl (match decide (okR q.2.2.2.2.2∧okR y11)with|true=>dup (.b .l .l) y23|false=>none) y24|false=>none) y25|false=>none) y26|false=>none) y27|false=>none) y28|false=>none) y29|false=>none) y30|false=>none) y31|false=>none) (match decide (okR q.1∧okR q.1)with|true=>y31|false=>none))))|false=>none)|false=>none)|false=>none))|false=>none))|false=>none))|false=>none
theorem an3(q:BQ):RS an7 230 [.d tQ q] (ahq q):=rsX
theorem ads(q:BQ)(h:okQ q):Con Tryz.prog 230 [.d tQ q] [.d axf (sgQ (dec q))]:=by
 refine aP Sa (an3 _ ⟨0,?_⟩)
 obtain⟨A,B,C,D,M,N,rfl,bA,bB,bC,bD,bM,bN,hM,hN⟩:=IL h
 have hh:decide (okQ (ai A,ai B,ai C,ai D,ai M,ai N))=true:=atT h
 have hd:(dec ((ai A,ai B,ai C,ai D,ai M,ai N):BQ):Qd)=(A,B,C,D,M,N):=aq ((A,B,C,D,M,N):Qd)
 rw[aq]
 unfold ahq
 simp only[au,aO,ak,aT,aF,az,aD,aX,atW,atY,Nat.reduceAdd,Nat.reduceLeDiff,t5,sR,aH,hh,hd,atV (show ¬M<0 by grind),atV (show ¬N<0 by grind)]
 cases hq:(quF (A,B,C,D,M,N)).2
 ·try dsimp only
  refine(DR _ _ _).trans ?_
  unfold sgQ Dj
  rw[atV (show ¬M<0 by grind),atV (show ¬N<0 by grind)]
  dsimp only[Bool.or_false,cond_false]
  rw[show A*B-N*(C*D)+(A*B-N*(C*D))=2*(A*B-N*(C*D)) by grind,show A*A+M*(B*B)-N*(C*C+M*(D*D))=A*A+B*B*M-N*(C*C+D*D*M) by grind]
  rfl
 ·try dsimp only
  rw[ai9 hM hN hq]
def QE:aN:=spN true true [tQ] (fun x=>decide (okQ x.1)) (fun x=>[RV.d axf (sgQ (dec x.1))])
theorem TU:SpK 230 QE:=spX fun x h=>ads x.1 (atS h)
def YX:Env:=[(147,kJ),(75,m6),(74,lS),(229,uX),(231,D3),(228,Iz),(230,QE),(250,Ac)]
theorem ET:EnvAll Tryz.prog YX:=⟨gj,jo,ic,oS,zu,Hz,TU,ug,trivial⟩
def amE:Ctx:=CX YX []
def agN(a b:BO3)(_k:KT):Option (List RV):=let y1:=apF (dec a) (dec b);let y2:=hid (ai (ae a.1-ae b.1));let y3:=hid (ai (ae a.2.1-ae b.2.1));let y4:=hid (enc (suT (dec a) (dec b)));let y5:Option (List RV):=match decide (ok Rt 100000 a∧ok Rt 100000 b)with|true=>(match y1.2 with|true=>some [RV.d axf (y1.1)]|false=>(match decide (okR a.2.2∧okR b.2.2)with|true=>(match(aS (ae a.2.2) (ae b.2.2))==0 with|true=>(match decide (okR a.1∧okR b.1)with|true=>(match decide (okR a.2.1∧okR b.2.1)with|true=>(match decide (ok Rat 240000 y2∧ok Rat 170000 y3∧ok Rat 30000 a.2.2)with|true=>some [RV.d axf (fU (ae y2) (ae y3) (ae a.2.2))]|false=>none)|false=>none)|false=>none)|false=>(match decide (ok Rt 15000 a∧ok Rt 15000 b)with|true=>(match decide (okQ y4)with|true=>some [RV.d axf (sgQ (dec y4))]|false=>none)|false=>none))|false=>none))|false=>none;match decide (okR a.2.1)with|true=>(match(aS (ae a.2.1) 0)==0 with|true=>(match decide (okR b.2.1)with|true=>(match(aS (ae b.2.1) 0)==0 with|true=>(match decide (okR a.1∧okR b.1)with|true=>some [RV.d axf (aS (ae a.1) (ae b.1))]|false=>none)|false=>y5)|false=>none)|false=>y5)|false=>none
theorem amu(a b:BO3):RS amE 173 [.d tO a,.d tO b] (agN a b):=rsX
theorem aee(a b:BO3)(h:okT 15000 a∧okT 15000 b):Con Tryz.prog 173 [.d tO a,.d tO b] [.d axf (bR (dec a) (dec b))]:=by
 refine aP ET (amu _ _ ⟨0,?_⟩)
 obtain⟨ha,hb⟩:=h
 obtain⟨a,rfl,ba,ra⟩:=ks ha
 obtain⟨b,rfl,bb,rb⟩:=ks hb
 have na:Nn a.2.2:=inferInstance
 have nb:Nn b.2.2:=inferInstance
 have e:decide (okQ (enc (suT a b)))=true:=agD (by decide) (by decide) (by decide) (by decide) (by decide) (by decide)
 have e1:=fun h1 h2=>aap ra rb h1 h2
 have e2:=fun h=>aaL ra rb h
 have e3:=fun h=>Pe ra rb h
 unfold agN
 simp only[ak,aq,aI,aL,aF,az,okd,aD,aX,atW,atY,Nat.reduceAdd,Nat.reduceLeDiff,aE,e]
 by_cases ha:a.2.1=0
 ·by_cases hb:b.2.1=0
  ·rw[atT ha,atT hb,e1 ha hb]
  ·rw[atT ha,atV hb]
   dsimp only
   cases hq:(apF a b).2
   ·dsimp only
    by_cases hc:a.2.2=b.2.2
    ·rw[atT hc,←e3 hc]
    ·rw[atV hc];rfl
   ·dsimp only
    rw[e2 hq]
 ·rw[atV ha]
  dsimp only
  cases hq:(apF a b).2
  ·dsimp only
   by_cases hc:a.2.2=b.2.2
   ·rw[atT hc,←e3 hc]
   ·rw[atV hc];rfl
  ·dsimp only
   rw[e2 hq]
def En:aN:=spN true true [tO,tO] (fun x=>decide (okT 15000 x.1∧okT 15000 x.2.1)) (fun x=>[RV.d axf (bR (dec x.1) (dec x.2.1))])
theorem xz:SpK 173 En:=spX fun x h=>aee x.1 x.2.1 (atS h)
def agU:Env:=(173,En)::YX
theorem Qk:EnvAll Tryz.prog agU:=⟨xz,ET⟩
def apj:Ctx:=CX agU []
def agY(a:BO3)(b:BR)(_k:KT):Option (List RV):=match decide (okR b)with|true=>(match decide (okT 15000 a∧okT 15000 (hid (enc ((ae b,0,0):Rt))))with|true=>some [RV.d axf (bR (dec a) (dec (hid (enc ((ae b,0,0):Rt)))))]|false=>none)|false=>none
theorem anW(a:BO3)(b:BR):RS apj 262 [.d tO a,.d tR b] (agY a b):=rsX
theorem aeg(a:BO3)(b:BR)(h:okT 15000 a∧ok Rat 15000 b):Con Tryz.prog 262 [.d tO a,.d tR b] [.d axf (gk (dec a) (ae b))]:=by
 refine aP Qk (anW _ _ ⟨0,?_⟩)
 obtain⟨ha,hb⟩:=h
 obtain⟨a,rfl,ba,ra⟩:=ks ha
 obtain⟨b,rfl,bb⟩:=aZ hb
 unfold agY
 simp only[ak,aq,aF,az,aX,atW,atY,mx,Nat.reduceLeDiff,at8,at4,cond_true,cond_false,bH]
 rw[Uc ra]
section
section
variable {α:Type}
open Classical in
def rk(lt:α→α→Prop):List α→α→Nat
 |[],_=>0
 |e::r,x=>(if lt e x then 1 else 0)+rk lt r x
structure lV (lt:α→α→Prop):Prop where
 irr:∀x,¬lt x x
 tr:∀x y z,lt x y→lt y z→lt x z
 tri:∀x y,lt x y∨x=y∨lt y x
variable {lt:α→α→Prop}
theorem agH(h:lV lt){x y:α}(hxy:lt x y):∀L,rk lt L x≤rk lt L y
 |[]=>at5 _
 |e::r=>by
  have:=agH h hxy r
  unfold rk
  by_cases h1:lt e x
  ·rw[auv h1,auv (h.tr _ _ _ h1 hxy)];omega
  ·rw[aum h1];omega
theorem tF(h:lV lt){x y:α}(hxy:lt x y):∀{L},x∈L→rk lt L x<rk lt L y
 |e::r,hm=>by
  have h0:=agH h hxy r
  unfold rk
  rcases aud.1 hm with rfl|hm
  ·rw[aum (h.irr _),auv hxy];omega
  ·have:=tF h hxy hm
   by_cases h1:lt e x
   ·rw[auv h1,auv (h.tr _ _ _ h1 hxy)];omega
   ·rw[aum h1];omega
theorem ajx(L:List α)(x:α):rk lt L x≤L.length:=by
 induction L with
 |nil=>exact at5 _
 |cons e r ih=>
  unfold rk
  rw[aui]
  split<;>omega
theorem k9(h:lV lt){x:α}:∀{L},x∈L→rk lt L x<L.length
 |e::r,hm=>by
  unfold rk
  rw[aui]
  rcases aud.1 hm with rfl|hm
  ·rw[aum (h.irr _)];have:=ajx (lt:=lt) r x;omega
  ·have:=k9 h hm
   split<;>omega
def uv(lt:α→α→Prop)(c:α→α→Int):Prop:=∀x y,(lt x y→c x y= -1)∧(x=y→c x y=0)∧(lt y x→c x y=1)
def cI(i j:Nat):Int:=if i<j then-1 else if i=j then 0 else 1
theorem yL(h:lV lt){c:α→α→Int}(hc:uv lt c){L:List α}{x y:α}(hx:x∈L)(hy:y∈L):c x y=cI (rk lt L x) (rk lt L y):=by
 unfold cI
 rcases h.tri x y with e|e|e
 ·rw[(hc x y).1 e,auv (tF h e hx)]
 ·subst e;rw[(hc x x).2.1 rfl,aum (Nat.lt_irrefl _),auv rfl]
 ·have:=tF h e hy
  rw[(hc x y).2.2 e,aum (by omega),aum (by omega)]
end
section
variable {α:Type} (cmp:α→α→Int)
def qV(p q:Bool×α):Int:=bif p.1==q.1 then(bif p.1 then-cmp p.2 q.2 else cmp p.2 q.2)else(bif p.1 then-1 else 1)
def nE(f p:Bool×α):Int:=bif qV cmp p f==0 then 0 else bif decide (qV cmp p f>0)then 1 else 2
def zJ(n:Int):Int:=if n<0 then-1 else if n=0 then 0 else 1
def eU(f p q:Bool×α):Int:=bif nE cmp f p==nE cmp f q then zJ (qV cmp p q)else zJ (nE cmp f p-nE cmp f q)
def jb(p q:Bool×α):Int:=bif p.1==q.1 then(bif p.1 then-cmp p.2 q.2 else cmp p.2 q.2)else(bif q.1 then-1 else 1)
def jy(f p q:Bool×α):Int:=bif decide (jb cmp p f<0)==decide (jb cmp q f<0)then jb cmp p q else(bif decide (jb cmp q f<0)then-1 else 1)
variable {cmp} {β:Type} {cmq:β→β→Int}
theorem rC{u v:Bool}{a b:α}{c d:β}(h:cmp a b=cmq c d):qV cmp (u,a) (v,b)=qV cmq (u,c) (v,d):=by unfold qV;rw[h]
theorem rT{u v:Bool}{a b:α}{c d:β}(h:cmp a b=cmq c d):jb cmp (u,a) (v,b)=jb cmq (u,c) (v,d):=by unfold jb;rw[h]
theorem iy{u v w:Bool}{f p q:α}{f' p' q':β}(h1:cmp p f=cmq p' f')(h2:cmp q f=cmq q' f')(h3:cmp p q=cmq p' q'):eU cmp (u,f) (v,p) (w,q)=eU cmq (u,f') (v,p') (w,q'):=by
 unfold eU nE
 rw[rC h1,rC h2,rC h3]
theorem fI{u v w:Bool}{f p q:α}{f' p' q':β}(h1:cmp p f=cmq p' f')(h2:cmp q f=cmq q' f')(h3:cmp p q=cmq p' q'):jy cmp (u,f) (v,p) (w,q)=jy cmq (u,f') (v,p') (w,q'):=by
 unfold jy
 rw[rT h1,rT h2,rT h3]
end
def mj(k i l j:Nat):Bool:=(k !=0||(bif l==0 then i==j else decide (j<i)))&&(k !=2||(bif l==2 then i==j else decide (i<j)))
def upA(k:Nat):Bool:=k==0||k==1
def ufA(k:Nat):Bool:=k==1||k==2
def dI(i j:Nat):Int:=cI j i
def Ip(k i l j m n:Nat):Bool:=mj k i l j&&mj l j k i&&mj k i m n&&mj m n k i&&mj l j m n&&mj m n l j
theorem abv:∀kF kP kT:Fin 4,∀iF iP iT:Fin 3,Ip kF.1 iF.1 kP.1 iP.1 kT.1 iT.1=true→
  decide (eU cI (upA kF.1,iF.1) (upA kP.1,iP.1) (upA kT.1,iT.1)≤0)=(decide (jy cI (upA kF.1,iF.1) (upA kF.1,iF.1) (upA kP.1,iP.1)≤0)&&decide (jy cI (upA kF.1,iF.1) (upA kP.1,iP.1) (upA kT.1,iT.1)≤0)):=by decide+kernel
theorem akH:∀kF kP kT:Fin 4,∀iF iP iT:Fin 3,Ip kF.1 iF.1 kP.1 iP.1 kT.1 iT.1=true→
  decide (eU cI (upA kT.1,iT.1) (upA kP.1,iP.1) (upA kF.1,iF.1)≤0)=(decide (jy dI (ufA kF.1,iF.1) (ufA kF.1,iF.1) (ufA kP.1,iP.1)≤0)&&decide (jy dI (ufA kF.1,iF.1) (ufA kP.1,iP.1) (ufA kT.1,iT.1)≤0)):=by decide+kernel
def Az(a b:Int):Bool:=a==0||b==0||a==b
def apZ(d a b:Int):Bool:=decide ((bif decide (d>0)then-a else a)≤0)&&decide ((bif decide (d>0)then-b else b)≤0)
theorem aa4:∀f p t:Fin 3,Az (cI f.1 p.1) (cI p.1 t.1)=apZ (cI f.1 t.1) (cI f.1 p.1) (cI p.1 t.1):=by decide+kernel
namespace RE
theorem lt_lin:lV (fun x y:RE=>x<y):=⟨lt_irrefl,fun _ _ _=>fN,ow⟩
theorem NG(x y:RE):((y-(x)))+((x-y-(0)))=0:=by
 induction x using atR
 induction y using atR
 exact snd fun n=>by
  simp only[RL.add,RL.neg,RL.const]
  grind
theorem Di(x y:RE)(h1:x<y):x-y<0:=iK.1 fun hg=>far (aU (a8 h1) (aR hg)) (NG x y)
theorem Oo(x y:RE):((x-(y)))+((0-(x-y)))=0:=by
 induction x using atR
 induction y using atR
 exact snd fun n=>by
  simp only[RL.add,RL.neg,RL.const]
  grind
theorem C9(x y:RE)(h1:y<x):0<x-y:=iK.1 fun hg=>far (aU (a8 h1) (aR hg)) (Oo x y)
theorem sg_cmpO:uv (fun x y:RE=>x<y) (fun x y=>sg (x-y)):=fun x y=>⟨fun h=>n4 (Di _ _ h),fun h=>by subst h;show sg (x-x)=0;rw[sub_self,fV],fun h=>jr (C9 _ _ h)⟩
def ajY(p q:RE×RE):Prop:=p.1<q.1∨(p.1=q.1∧p.2<q.2)
theorem jD:lV ajY:=by
 refine⟨fun x h=>?_,fun x y z h1 h2=>?_,fun x y=>?_⟩
 ·rcases h with h|h
  ·exact lt_irrefl _ h
  ·exact lt_irrefl _ h.2
 ·rcases h1 with h1|⟨h1,h1'⟩
  ·rcases h2 with h2|⟨h2,h2'⟩
   ·exact .inl (fN h1 h2)
   ·exact .inl (h2▸h1)
  ·rcases h2 with h2|⟨h2,h2'⟩
   ·exact .inl (h1▸h2)
   ·exact .inr ⟨h1.trans h2,fN h1' h2'⟩
 ·rcases ow x.1 y.1 with h|h|h
  ·exact .inl (.inl h)
  ·rcases ow x.2 y.2 with h'|h'|h'
   ·exact .inl (.inr ⟨h,h'⟩)
   ·exact .inr (.inl (aw8 h h'))
   ·exact .inr (.inr (.inr ⟨h.symm,h'⟩))
  ·exact .inr (.inr (.inl h))
def lxc(p q:RE×RE):Int:=bif sg (p.1-q.1)==0 then sg (p.2-q.2)else sg (p.1-q.1)
theorem hZ:uv ajY lxc:=fun p q=>by
 unfold lxc
 refine⟨fun h=>?_,fun h=>?_,fun h=>?_⟩
 ·rcases h with h|⟨h,h'⟩
  ·rw[n4 (Di _ _ h)];rfl
  ·rw[h,sub_self,fV,n4 (Di _ _ h')];rfl
 ·subst h
  rw[sub_self,sub_self,fV];rfl
 ·rcases h with h|⟨h,h'⟩
  ·rw[jr (C9 _ _ h)];rfl
  ·rw[←h,sub_self,fV,jr (C9 _ _ h')];rfl
def cls(u v:RE):Nat:=bif sg v==1 then 1 else bif sg v== -1 then 3 else bif sg u==1 then 0 else 2
theorem lO(u v:RE):cls u v<4:=by
 unfold cls
 cases sg v==1<;>cases sg v== -1<;>cases sg u==1<;>simp
theorem ahZ(u v:RE):(decide (sg v>0)||(sg v==0&&decide (sg u>0)))=upA (cls u v):=by
 unfold cls
 rcases dB v with⟨_,h⟩|⟨_,h⟩|⟨_,h⟩<;>rcases dB u with⟨_,h'⟩|⟨_,h'⟩|⟨_,h'⟩<;>rw[h,h']<;>rfl
theorem ai8{u v Q:RE}(hQ:0<Q)(h:u*u+v*v=Q):(decide (sg v>0)||(sg v==0&&decide (-sg u>0)))=ufA (cls u v):=by
 unfold cls
 rcases dB v with⟨_,h1⟩|⟨h0,h1⟩|⟨_,h1⟩<;>rcases dB u with⟨_,h'⟩|⟨h2,h'⟩|⟨_,h'⟩<;>rw[h1,h']<;>try rfl
 rw[h0,h2,mul_zero,add_zero]at h
 rw[←h]at hQ
 exact absurd hQ (lt_irrefl _)
theorem Sc(u v w z Q:RE):of 2*((u-(0))*(w-(u)))+((w-(u))*(w-(u)))+((u*u+v*v-(Q)))+((Q-(w*w+z*z)))+((z*z-(0)))+((0-(v))*(v-(0)))=0:=by
 induction u using atR
 induction v using atR
 induction w using atR
 induction z using atR
 induction Q using atR
 exact snd fun n=>by
  simp only[RL.add,RL.mul,RL.neg,RL.const]
  grind
theorem ajr(u v w z Q:RE)(h1:u*u+v*v=Q)(h2:w*w+z*z=Q)(h3:v=0)(h4:0<u)(h5:0≤z*z):w≤u:=fun hg=>far (aU (aU (aU (aU (aU (xf (by decide+kernel:(0:Rat)<2) (mul_pos (a8 h4) (a8 hg))) (le_of_lt (mul_pos (a8 hg) (a8 hg)))) (aR (ji h1))) (aR (jH h2))) (aR h5)) (cW (aR (jH h3)) (aR (ji h3)))) (Sc u v w z Q)
theorem TY(u v w z Q:RE):of 2*((0-(u))*(u-(w)))+((u-(w))*(u-(w)))+((u*u+v*v-(Q)))+((Q-(w*w+z*z)))+((z*z-(0)))+((0-(v))*(v-(0)))=0:=by
 induction u using atR
 induction v using atR
 induction w using atR
 induction z using atR
 induction Q using atR
 exact snd fun n=>by
  simp only[RL.add,RL.mul,RL.neg,RL.const]
  grind
theorem aml(u v w z Q:RE)(h1:u*u+v*v=Q)(h2:w*w+z*z=Q)(h3:v=0)(h4:u<0)(h5:0≤z*z):u≤w:=fun hg=>far (aU (aU (aU (aU (aU (xf (by decide+kernel:(0:Rat)<2) (mul_pos (a8 h4) (a8 hg))) (le_of_lt (mul_pos (a8 hg) (a8 hg)))) (aR (ji h1))) (aR (jH h2))) (aR h5)) (cW (aR (jH h3)) (aR (ji h3)))) (TY u v w z Q)
theorem Y5(u w z Q:RE):((z*z-(0)))+((u*u-(Q)))+((Q-(w*w+z*z)))+((w*w-(u*u)))=0:=by
 induction u using atR
 induction w using atR
 induction z using atR
 induction Q using atR
 exact snd fun n=>by
  simp only[RL.add,RL.mul,RL.neg,RL.const]
  grind
theorem Rm(u w z Q:RE)(h1:u*u=Q)(h2:w*w+z*z=Q)(h3:w*w=u*u):z*z≤0:=fun hg=>far (aU (aU (aU (a8 hg) (aR (ji h1))) (aR (jH h2))) (aR (ji h3))) (Y5 u w z Q)
theorem MJ{z:RE}(h:z*z≤0):z=0:=by
 rcases ow z 0 with e|e|e
 ·have:=mul_pos (vJ e) (vJ e)
  rw[neg_mul,mul_neg,neg_neg]at this
  exact absurd this (fun h'=>lt_irrefl _ (fN h' (by
   rcases pp (HP z)with h2|h2
   ·exact absurd h2 ((Ek _ _).1 h)
   ·rw[h2]at h';exact absurd h' (lt_irrefl _))))
 ·exact e
 ·exact absurd (mul_pos e e) ((Ek _ _).1 h)
theorem Wu{u v:RE}:cls u v=0↔v=0∧0<u:=by
 unfold cls
 rcases dB v with⟨a,h1⟩|⟨a,h1⟩|⟨a,h1⟩<;>rcases dB u with⟨b,h'⟩|⟨b,h'⟩|⟨b,h'⟩<;>rw[h1,h']<;>simp[a,b]<;>first|exact lt_irrefl _|exact fun h=>absurd (fN h b) (lt_irrefl _)|(intro h;rw[h]at a;exact absurd a (lt_irrefl _))|skip
end RE
end
section
def xP(p:Pt):Rt:=coR p.1 p.2.1 p.2.2.2.2
def yP(p:Pt):Rt:=coR p.2.2.1 p.2.2.2.1 p.2.2.2.2
def atP(v:Rat×Rat):Pt:=(v.1,0,v.2,0,0)
def rdP(p:Pt):Pt:=(p.1,p.2.1,p.2.2.1,p.2.2.2.1,bif decide (p.2.1=0)&&decide (p.2.2.2.1=0)then 0 else p.2.2.2.2)
def mkP(x y:Rt):Pt:=rdP (x.1,x.2.1,y.1,y.2.1,bif decide (x.2.1=0)then y.2.2 else x.2.2)
def vO(x y:Rt):Prop:=x.2.1=0∨y.2.1=0∨x.2.2=y.2.2
instance (x y:Rt):Decidable (vO x y):=by unfold vO;infer_instance
def aW(p q:Pt):Int:=bif bR (xP p) (xP q)==0 then bR (yP p) (yP q)else bR (xP p) (xP q)
def trP(p:Pt)(v:Rat×Rat):Pt:=(p.1+v.1,p.2.1,p.2.2.1+v.2,p.2.2.2.1,p.2.2.2.2)
def bkV(v:Rat×Rat):Rat×Rat:=(-v.1,-v.2)
def sqA(p:Pt)(v:Rat×Rat):Rat:=(p.1-v.1)*(p.1-v.1)+(p.2.2.1-v.2)*(p.2.2.1-v.2)+(p.2.1*p.2.1+p.2.2.2.1*p.2.2.2.1)*p.2.2.2.2
def sqB(p:Pt)(v:Rat×Rat):Rat:=(p.1-v.1)*p.2.1+(p.2.2.1-v.2)*p.2.2.2.1+((p.1-v.1)*p.2.1+(p.2.2.1-v.2)*p.2.2.2.1)
def sqP(p:Pt)(v:Rat×Rat):Rt:=coR (sqA p v) (sqB p v) p.2.2.2.2
def IE(p:Pt):Prop:=(p.2.1=0∧p.2.2.2.1=0∧p.2.2.2.2=0)∨(¬(p.2.1=0∧p.2.2.2.1=0)∧0<p.2.2.2.2∧fy p.2.2.2.2=false)
instance (p:Pt):Decidable (IE p):=by unfold IE;infer_instance
class Rpd (p:Pt):Prop where
 rd:IE p
def okP(k:Nat)(x:BP):Prop:=ok Pt k x∧IE (dec x)
instance (k:Nat) (x:BP):Decidable (okP k x):=by unfold okP;infer_instance
theorem dz{k:Nat}{x:BP}(h:okP k x):∃v:Pt,x=enc v∧Bd v k∧Rpd v:=by
 obtain⟨h1,h2⟩:=h
 obtain⟨v,rfl,bv⟩:=aZ h1
 rw[aq]at h2
 exact⟨v,rfl,bv,⟨h2⟩⟩
theorem bG{x:Pt}{j k:Nat}[h:Bd x j][r:Rpd x](hj:j≤k)(hk:k≤480000):decide (okP k (enc x))=true:=atT ⟨atS (okd hj hk),by rw[aq];exact r.rd⟩
theorem Rpd.ns{p:Pt}(h:Rpd p):Ns p.2.2.2.2:=⟨by rcases h.rd with h|h;exact .inl h.2.2;exact .inr h.2⟩
instance atG {p:Pt} [h:Rpd p]:Ns p.2.2.2.2:=h.ns
theorem Rpd.nn{p:Pt}(h:Rpd p):0≤p.2.2.2.2:=h.ns.nn
theorem Qm{a b c:Rat}(h:Ns c)(hb:b=0∨c≠0):Rdd (coR a b c):=by
 refine⟨?_⟩
 unfold coR
 by_cases e:b=0
 ·rw[atT e];exact .inl ⟨rfl,rfl⟩
 ·rw[atV e]
  rcases h.ns with h|h
  ·rcases hb with hb|hb
   ·exact absurd hb e
   ·exact absurd h hb
  ·exact .inr ⟨e,h⟩
theorem Rpd.b0{p:Pt}(h:Rpd p):(p.2.1=0∧p.2.2.2.1=0)∨p.2.2.2.2≠0:=by
 rcases h.rd with h|h
 ·exact .inl ⟨h.1,h.2.1⟩
 ·exact .inr (by have:=h.2.1;grind)
instance ato {p:Pt} [h:Rpd p]:Rdd (xP p):=Qm h.ns (by rcases h.b0 with h|h;exact .inl h.1;exact .inr h)
instance asL {p:Pt} [h:Rpd p]:Rdd (yP p):=Qm h.ns (by rcases h.b0 with h|h;exact .inl h.2;exact .inr h)
instance atF {p:Pt} {v:Rat×Rat} [h:Rpd p]:Rdd (sqP p v):=Qm h.ns (by
 rcases h.b0 with h|h
 ·refine .inl ?_
  unfold sqB
  rw[h.1,h.2]
  grind
 ·exact .inr h)
instance atA {v:Rat×Rat}:Rpd (atP v):=⟨.inl ⟨rfl,rfl,rfl⟩⟩
instance atE {p:Pt} {v:Rat×Rat} [h:Rpd p]:Rpd (trP p v):=⟨h.rd⟩
theorem ahL{x y:Rt}(hx:Rdd x)(hy:Rdd y)(_h:vO x y):Rpd (mkP x y):=by
 refine⟨?_⟩
 unfold mkP rdP IE
 dsimp only
 rcases hx.rd with⟨a1,a2⟩|⟨a1,a2,a3⟩<;>rcases hy.rd with⟨b1,b2⟩|⟨b1,b2,b3⟩
 ·simp[a1,b1]
 ·simp[a1,b1,b2,b3]
 ·simp[a1,b1,a2,a3]
 ·simp[a1,b1,a2,a3]
section
variable {p:Pt} {j:Nat}
instance atD [h:Bd p j]:Bd (xP p) (mx j (mx j j)):=inferInstanceAs (Bd (coR p.1 p.2.1 p.2.2.2.2) _)
instance atB [h:Bd p j]:Bd (yP p) (mx j (mx j j)):=inferInstanceAs (Bd (coR p.2.2.1 p.2.2.2.1 p.2.2.2.2) _)
instance asE {v:Rat×Rat} [h:Bd v j]:Bd (atP v) (mx j (mx 1 (mx j (mx 1 1)))):=inferInstanceAs (Bd ((v.1,0,v.2,0,0):Pt) _)
instance atr {v:Rat×Rat} {k:Nat} [h:Bd p j] [h':Bd v k]:Bd (trP p v) (mx (j+k+1) (mx j (mx (j+k+1) (mx j j)))):=inferInstanceAs (Bd ((p.1+v.1,p.2.1,p.2.2.1+v.2,p.2.2.2.1,p.2.2.2.2):Pt) _)
instance atH {v:Rat×Rat} [h:Bd v j]:Bd (bkV v) (mx j j):=inferInstanceAs (Bd ((-v.1,-v.2):Rat×Rat) _)
end
instance atk {p:Pt} {j:Nat} [h:Bd p j]:Bd (rdP p) (mx j (mx j (mx j (mx j (mx 1 j))))):=inferInstanceAs (Bd ((p.1,p.2.1,p.2.2.1,p.2.2.2.1,bif decide (p.2.1=0)&&decide (p.2.2.2.1=0)then 0 else p.2.2.2.2):Pt) _)
instance ajZ {x y:Rt} {j k:Nat} [h:Bd x j] [h':Bd y k]:Bd (mkP x y) (mx (mx j (mx j (mx k (mx k (mx k j))))) (mx (mx j (mx j (mx k (mx k (mx k j))))) (mx (mx j (mx j (mx k (mx k (mx k j))))) (mx (mx j (mx j (mx k (mx k (mx k j))))) (mx 1 (mx j (mx j (mx k (mx k (mx k j)))))))))):=inferInstanceAs (Bd (rdP (x.1,x.2.1,y.1,y.2.1,bif decide (x.2.1=0)then y.2.2 else x.2.2)) _)
theorem kE{j k n:Nat}(h1:j≤n)(h2:k≤n):mx j k≤n:=by
 unfold mx
 cases decide (j≤k)
 ·exact h1
 ·exact h2
section
variable {p:Pt} {v:Rat×Rat} {j k:Nat}
instance as3 [h:Bd p j] [h':Bd v k]:Bd (sqA p v) (20*(j+k+1)):=by
 have a1:Bd (p.1-v.1) _:=inferInstance
 have a2:Bd (p.2.2.1-v.2) _:=inferInstance
 have a3:Bd (p.2.1*p.2.1+p.2.2.2.1*p.2.2.2.1) _:=inferInstance
 have i:Bd ((p.1-v.1)*(p.1-v.1)+(p.2.2.1-v.2)*(p.2.2.1-v.2)+(p.2.1*p.2.1+p.2.2.2.1*p.2.2.2.1)*p.2.2.2.2) _:=inferInstance
 exact i.mono (by omega)
instance asQ [h:Bd p j] [h':Bd v k]:Bd (sqB p v) (20*(j+k+1)):=by
 have a1:Bd (p.1-v.1) _:=inferInstance
 have a2:Bd (p.2.2.1-v.2) _:=inferInstance
 have i:Bd ((p.1-v.1)*p.2.1+(p.2.2.1-v.2)*p.2.2.2.1+((p.1-v.1)*p.2.1+(p.2.2.1-v.2)*p.2.2.2.1)) _:=inferInstance
 exact i.mono (by omega)
instance atp [h:Bd p j] [h':Bd v k]:Bd (sqP p v) (20*(j+k+1)):=by
 have i:Bd (coR (sqA p v) (sqB p v) p.2.2.2.2) _:=inferInstance
 exact i.mono (kE (by omega) (kE (by omega) (by omega)))
end
namespace RE
def pX(p:Pt):RE:=v2 p.1 p.2.1 p.2.2.2.2
def pY(p:Pt):RE:=v2 p.2.2.1 p.2.2.2.1 p.2.2.2.2
def pR(p:Pt):RE×RE:=(pX p,pY p)
theorem wm(p:Pt):vR (xP p)=pX p:=vR_co _ _ _
theorem adc(p:Pt):vR (yP p)=pY p:=vR_co _ _ _
theorem nX{p:Pt}[h:Rpd p]:0≤(xP p).2.2:=(ato (p:=p)).nn
theorem Mt{p:Pt}[h:Rpd p]:0≤(yP p).2.2:=(asL (p:=p)).nn
theorem lC{p q:Pt}[Rpd p][Rpd q]:aW p q=lxc (pR p) (pR q):=by
 unfold aW lxc
 rw[cmpT_re nX nX,cmpT_re Mt Mt,wm,wm,adc,adc]
 rfl
theorem ajB(x y s t c u w:RE):(x+s*c-u)*(x+s*c-u)+(y+t*c-w)*(y+t*c-w)=(x-u)*(x-u)+(y-w)*(y-w)+(s*s+t*t)*(c*c)+((x-u)*s+(y-w)*t+((x-u)*s+(y-w)*t))*c:=by
 induction x using atR
 induction y using atR
 induction s using atR
 induction t using atR
 induction c using atR
 induction u using atR
 induction w using atR
 exact snd fun n=>by
  simp only[RL.add,RL.mul,RL.neg]
  grind
theorem aj4{p:Pt}{v:Rat×Rat}[h:Rpd p]:vR (sqP p v)=(pX p-of v.1)*(pX p-of v.1)+(pY p-of v.2)*(pY p-of v.2):=by
 unfold sqP pX pY
 rw[vR_co]
 unfold v2
 rw[ajB,ro h.nn]
 unfold sqA sqB
 simp only[of_add,of_sub,ck]
theorem apQ(v:Rat×Rat):pX (atP v)=of v.1:=eF _ _
theorem arC(v:Rat×Rat):pY (atP v)=of v.2:=eF _ _
end RE
end
theorem wk(a b:Rat):(aS a b !=0)=!decide (a=b):=by
 unfold bne
 rw[aE]
def WJ:Env:=[(151,ke),(76,ky),(144,oZ),(74,lS),(147,kJ),(75,m6),(173,En)]
theorem EU:EnvAll Tryz.prog WJ:=⟨gu,gh,kV,ic,gj,jo,xz,trivial⟩
def aqZ:Ctx:=CX WJ []
def ahc(_k:KT):Option (List RV):=match decide (bO (0:Int))with|true=>some [RV.d tR (hid (ai ((0:Int):Rat)))]|false=>none
theorem ar4:RS aqZ 152 [] (ahc):=rsX
theorem ac2:Con Tryz.prog 152 [] [.d tR (ai 0)]:=by
 refine aP EU (ar4 ⟨0,?_⟩)
 unfold ahc
 rw[dT (show bO 0 by decide)]
 simp only[ak]
 rfl
def UP:aN:=spN false true [] (fun _=>true) (fun _=>[RV.d tR (hid (ai 0))])
theorem VH:SpK 152 UP:=spX fun _ _=>by simp only[ak];exact ac2
def E4:Env:=(152,UP)::WJ
theorem sH:EnvAll Tryz.prog E4:=⟨VH,EU⟩
def arF:Ctx:=CX E4 []
def ae5(v:BV)(_k:KT):Option (List RV):=some [RV.d tP (v.1,(hid (ai 0),(v.2,(hid (ai 0),hid (ai 0)))))]
theorem apC(v:BV):RS arF 78 [.d tV v] (ae5 v):=rsX
theorem aaR(v:BV)(h:ok (Rat×Rat) 100000 v):Con Tryz.prog 78 [.d tV v] [.d tP (enc (atP (dec v)))]:=by
 refine aP sH (apC _ ⟨0,?_⟩)
 have hv:=h
 obtain⟨v,rfl,bv⟩:=aZ hv
 unfold ae5
 simp only[ak,aq,aI,aL,aF]
 try rfl
def aoH:Ctx:=CX E4 []
def aeG(p:BP)(_k:KT):Option (List RV):=match decide (okR p.2.1)with|true=>(match(aS (ae p.2.1) 0)==0 with|true=>(match decide (okR p.2.2.2.1)with|true=>(match(aS (ae p.2.2.2.1) 0)==0 with|true=>some [RV.d tP (p.1,(p.2.1,(p.2.2.1,(p.2.2.2.1,hid (ai 0)))))]|false=>some [RV.d tP p])|false=>none)|false=>some [RV.d tP p])|false=>none
theorem app(p:BP):RS aoH 252 [.d tP p] (aeG p):=rsX
theorem adv(p:BP)(h:ok Pt 21000 p):Con Tryz.prog 252 [.d tP p] [.d tP (enc (rdP (dec p)))]:=by
 refine aP sH (app _ ⟨0,?_⟩)
 have hp:=h
 obtain⟨p,rfl,bp⟩:=aZ hp
 unfold aeG
 simp only[ak,aq,aI,aL,aF,az,aX,Nat.reduceLeDiff,aE]
 unfold rdP
 by_cases h1:p.2.1=0
 ·by_cases h2:p.2.2.2.1=0
  ·rw[atT h1,atT h2];rfl
  ·rw[atT h1,atV h2];rfl
 ·rw[atV h1];rfl
def ape:Ctx:=CX E4 []
def agE(a b c:BR)(_k:KT):Option (List RV):=match decide (okR b)with|true=>(match(aS (ae b) 0)==0 with|true=>some [RV.d tO (a,(b,hid (ai 0)))]|false=>some [RV.d tO (a,(b,c))])|false=>none
theorem arK(a b c:BR):RS ape 232 [.d tR a,.d tR b,.d tR c] (agE a b c):=rsX
theorem ac0(a b c:BR)(h:okR a∧okR b∧okR c):Con Tryz.prog 232 [.d tR a,.d tR b,.d tR c] [.d tO (enc (coR (ae a) (ae b) (ae c)))]:=by
 refine aP sH (arK _ _ _ ⟨0,?_⟩)
 obtain⟨ha,hb,hc⟩:=h
 obtain⟨a,rfl,ba⟩:=fe ha
 obtain⟨b,rfl,bb⟩:=fe hb
 obtain⟨c,rfl,bc⟩:=fe hc
 unfold agE
 simp only[ak,az,aX,Nat.reduceLeDiff,aE]
 unfold coR
 by_cases e:b=0
 ·subst e;rw[atT rfl];rfl
 ·rw[atV e];rfl
def CY:aN:=spN false true [tV] (fun x=>decide (ok (Rat×Rat) 100000 x.1)) (fun x=>[RV.d tP (hid (enc (atP (dec x.1))))])
theorem zK:SpK 78 CY:=spX fun x h=>by simp only[ak];exact aaR x.1 (atS h)
def Rk:aN:=spN false true [tP] (fun x=>decide (ok Pt 21000 x.1)) (fun x=>[RV.d tP (hid (enc (rdP (dec x.1))))])
theorem X5:SpK 252 Rk:=spX fun x h=>by simp only[ak];exact adv x.1 (atS h)
def QM:aN:=spN false true [tR,tR,tR] (fun x=>decide (okR x.1∧okR x.2.1∧okR x.2.2.1)) (fun x=>[RV.d tO (hid (enc (coR (ae x.1) (ae x.2.1) (ae x.2.2.1))))])
theorem SP:SpK 232 QM:=spX fun x h=>by simp only[ak];exact ac0 x.1 x.2.1 x.2.2.1 (atS h)
def GV:Env:=(78,CY)::(252,Rk)::(232,QM)::E4
theorem sV:EnvAll Tryz.prog GV:=⟨zK,X5,SP,sH⟩
def anu:Ctx:=CX GV []
def ag5(x y:BO3)(_k:KT):Option (List RV):=match decide (okR x.2.1)with|true=>(match(aS (ae x.2.1) 0)==0 with|true=>(match decide (ok Pt 21000 (x.1,(x.2.1,y)))with|true=>some [RV.d tP (hid (enc (rdP (dec (x.1,(x.2.1,y)))))),RV.d axf 0]|false=>none)|false=>(match decide (okR y.2.1)with|true=>(match(aS (ae y.2.1) 0) !=0 with|true=>(match decide (okR x.2.2∧okR y.2.2)with|true=>(match(aS (ae x.2.2) (ae y.2.2)) !=0 with|true=>some [RV.d tP (((false,[]),(false,[])),(((false,[]),(false,[])),(((false,[]),(false,[])),(((false,[]),(false,[])),((false,[]),(false,[])))))),RV.d axf 1]|false=>(match decide (ok Pt 21000 (x.1,(x.2.1,(y.1,(y.2.1,x.2.2)))))with|true=>some [RV.d tP (hid (enc (rdP (dec (x.1,(x.2.1,(y.1,(y.2.1,x.2.2)))))))),RV.d axf 0]|false=>none))|false=>none)|false=>(match decide (ok Pt 21000 (x.1,(x.2.1,(y.1,(y.2.1,x.2.2)))))with|true=>some [RV.d tP (hid (enc (rdP (dec (x.1,(x.2.1,(y.1,(y.2.1,x.2.2)))))))),RV.d axf 0]|false=>none))|false=>none))|false=>none
theorem amH(x y:BO3):RS anu 208 [.d tO x,.d tO y] (ag5 x y):=rsX
theorem adu(x y:BO3)(h:okT 15000 x∧okT 15000 y∧vO (dec x) (dec y)):Con Tryz.prog 208 [.d tO x,.d tO y] [.d tP (enc (mkP (dec x) (dec y))),.d axf 0]:=by
 refine aP sV (amH _ _ ⟨0,?_⟩)
 obtain⟨hx,hy,hy_2⟩:=h
 obtain⟨x,rfl,bx,rx⟩:=ks hx
 obtain⟨y,rfl,b_y,ry⟩:=ks hy
 have i1:decide (ok Pt 21000 (enc ((x.1,x.2.1,y):Pt)))=true:=okd (by decide) (by decide)
 have i2:decide (ok Pt 21000 (enc ((x.1,x.2.1,y.1,y.2.1,x.2.2):Pt)))=true:=okd (by decide) (by decide)
 have j1:(dec ((ai x.1,ai x.2.1,enc y):BP):Pt)=(x.1,x.2.1,y):=aq ((x.1,x.2.1,y):Pt)
 have j2:(dec ((ai x.1,ai x.2.1,ai y.1,ai y.2.1,ai x.2.2):BP):Pt)=(x.1,x.2.1,y.1,y.2.1,x.2.2):=aq ((x.1,x.2.1,y.1,y.2.1,x.2.2):Pt)
 have i1:decide (ok Pt 21000 ((ai x.1,ai x.2.1,enc y):BP))=true:=i1
 have i2:decide (ok Pt 21000 ((ai x.1,ai x.2.1,ai y.1,ai y.2.1,ai x.2.2):BP))=true:=i2
 have hm:=hy_2
 rw[aq,aq]at hm
 unfold ag5
 simp only[ak,aq,aI,aL,aF,az,aX,atW,atY,Nat.reduceLeDiff,aE,wk,i1,i2,j1,j2]
 unfold mkP
 by_cases e1:x.2.1=0
 ·rw[atT e1];rfl
 ·rw[atV e1]
  by_cases e2:y.2.1=0
  ·rw[atT e2];rfl
  ·rw[atV e2,atT ((hm.resolve_left e1).resolve_left e2)];rfl
def asN:Ctx:=CX GV []
def apr(p:BP)(_k:KT):Option (List RV):=match decide (okR p.1∧okR p.2.1∧okR p.2.2.2.2)with|true=>some [RV.d tO (hid (enc (coR (ae p.1) (ae p.2.1) (ae p.2.2.2.2))))]|false=>none
theorem asB(p:BP):RS asN 174 [.d tP p] (apr p):=rsX
theorem alf(p:BP)(h:okP 4000 p):Con Tryz.prog 174 [.d tP p] [.d tO (enc (xP (dec p)))]:=by
 refine aP sV (asB _ ⟨0,?_⟩)
 have hp:=h
 obtain⟨p,rfl,bp,rp⟩:=dz hp
 unfold apr
 simp only[ak,aq,aI,aL,aF,az,aX,atW,atY,Nat.reduceLeDiff]
 try rfl
def as8:Ctx:=CX GV []
def anM(p:BP)(_k:KT):Option (List RV):=match decide (okR p.2.2.1∧okR p.2.2.2.1∧okR p.2.2.2.2)with|true=>some [RV.d tO (hid (enc (coR (ae p.2.2.1) (ae p.2.2.2.1) (ae p.2.2.2.2))))]|false=>none
theorem asT(p:BP):RS as8 175 [.d tP p] (anM p):=rsX
theorem aiP(p:BP)(h:okP 4000 p):Con Tryz.prog 175 [.d tP p] [.d tO (enc (yP (dec p)))]:=by
 refine aP sV (asT _ ⟨0,?_⟩)
 have hp:=h
 obtain⟨p,rfl,bp,rp⟩:=dz hp
 unfold anM
 simp only[ak,aq,aI,aL,aF,az,aX,atW,atY,Nat.reduceLeDiff]
 try rfl
def Vs:aN:=spN false true [tP] (fun x=>decide (okP 4000 x.1)) (fun x=>[RV.d tO (hid (enc (xP (dec x.1))))])
theorem M7:SpK 174 Vs:=spX fun x h=>by simp only[ak];exact alf x.1 (atS h)
def Vf:aN:=spN false true [tP] (fun x=>decide (okP 4000 x.1)) (fun x=>[RV.d tO (hid (enc (yP (dec x.1))))])
theorem Kz:SpK 175 Vf:=spX fun x h=>by simp only[ak];exact aiP x.1 (atS h)
def afE:Env:=(174,Vs)::(175,Vf)::GV
theorem ST:EnvAll Tryz.prog afE:=⟨M7,Kz,sV⟩
def arg:Ctx:=CX afE []
def afN(p q:BP)(_k:KT):Option (List RV):=match decide (okP 4000 p)with|true=>(match decide (okP 4000 q)with|true=>(match decide (okT 15000 (hid (enc (xP (dec p))))∧okT 15000 (hid (enc (xP (dec q)))))with|true=>(match(bR (dec (hid (enc (xP (dec p))))) (dec (hid (enc (xP (dec q)))))) !=0 with|true=>some [RV.d axf (bR (dec (hid (enc (xP (dec p))))) (dec (hid (enc (xP (dec q))))))]|false=>(match decide (okP 4000 p)with|true=>(match decide (okP 4000 q)with|true=>(match decide (okT 15000 (hid (enc (yP (dec p))))∧okT 15000 (hid (enc (yP (dec q)))))with|true=>some [RV.d axf (bR (dec (hid (enc (yP (dec p))))) (dec (hid (enc (yP (dec q))))))]|false=>none)|false=>none)|false=>none))|false=>none)|false=>none)|false=>none
theorem aso(p q:BP):RS arg 108 [.d tP p,.d tP q] (afN p q):=rsX
theorem aaI(p q:BP)(h:okP 4000 p∧okP 4000 q):Con Tryz.prog 108 [.d tP p,.d tP q] [.d axf (aW (dec p) (dec q))]:=by
 refine aP ST (aso _ _ ⟨0,?_⟩)
 obtain⟨hp,hq⟩:=h
 obtain⟨p,rfl,bp,rp⟩:=dz hp
 obtain⟨q,rfl,bq,rq⟩:=dz hq
 unfold afN
 simp only[ak,aq,atW,atY,mx,Nat.reduceLeDiff,at8,cond_true,bH,bG]
 unfold aW bne
 cases bR (xP p) (xP q)==0<;>rfl
def Uw:aN:=spN false true [tO,tO] (fun x=>decide (okT 15000 x.1∧okT 15000 x.2.1∧vO (dec x.1) (dec x.2.1))) (fun x=>[RV.d tP (hid (enc (mkP (dec x.1) (dec x.2.1)))),RV.d axf 0])
theorem Zb:SpK 208 Uw:=spX fun x h=>by simp only[ak];exact adu x.1 x.2.1 (atS h)
def Cw:aN:=spN true true [tP,tP] (fun x=>decide (okP 4000 x.1∧okP 4000 x.2.1)) (fun x=>[RV.d axf (aW (dec x.1) (dec x.2.1))])
theorem zw:SpK 108 Cw:=spX fun x h=>aaI x.1 x.2.1 (atS h)
section
def N6(l:Ln)(p:Pt):Rat:=l.1*p.1+l.2.1*p.2.2.1-l.2.2
def OB(l:Ln)(p:Pt):Rat:=l.1*p.2.1+l.2.1*p.2.2.2.1
def rE(l:Ln)(p:Pt):Int:=fU (N6 l p) (OB l p) p.2.2.2.2
def ctr(c:Ln):Rat×Rat:=(c.1,c.2.1)
def m9(c:Ln)(p:Pt):Int:= -fU (sqA p (ctr c)-c.2.2) (sqB p (ctr c)) p.2.2.2.2
def apV(l:Ln)(v:Rat×Rat):Rat:=(l.1*v.1+l.2.1*v.2-l.2.2)/(l.1*l.1+l.2.1*l.2.1)
def MP(l:Ln)(v:Rat×Rat):Rat×Rat:=(v.1-apV l v*l.1,v.2-apV l v*l.2.1)
section
variable {l:Ln} {p:Pt} {v:Rat×Rat} {i j k:Nat}
instance asR [h:Bd l i]:Bd (ctr l) (mx i i):=inferInstanceAs (Bd ((l.1,l.2.1):Rat×Rat) _)
instance asr [h:Bd l i] [h':Bd p j]:Bd (N6 l p) ((i+j)+(i+j)+1+i+1):=inferInstanceAs (Bd (l.1*p.1+l.2.1*p.2.2.1-l.2.2) _)
instance asx [h:Bd l i] [h':Bd p j]:Bd (OB l p) ((i+j)+(i+j)+1):=inferInstanceAs (Bd (l.1*p.2.1+l.2.1*p.2.2.2.1) _)
end
theorem LL{a b:Rat}(h:a≠0∨b≠0):a*a+b*b≠0:=by
 have ha:0≤a*a:=by
  rcases(by grind:0≤a∨0≤ -a)with h|h
  ·exact auP h h
  ·have:=auP h h;grind
 have hb:0≤b*b:=by
  rcases(by grind:0≤b∨0≤ -b)with h|h
  ·exact auP h h
  ·have:=auP h h;grind
 intro e
 have e1:a*a=0:=by grind
 have e2:b*b=0:=by grind
 rcases h with h|h
 ·exact h (by rcases awE.1 e1 with h|h<;>exact h)
 ·exact h (by rcases awE.1 e2 with h|h<;>exact h)
namespace RE
theorem aiC(a b x s y t c r:RE):a*(x+s*r)+b*(y+t*r)+ -c=a*x+b*y-c+(a*s+b*t)*r:=by
 induction a using atR
 induction b using atR
 induction x using atR
 induction s using atR
 induction y using atR
 induction t using atR
 induction c using atR
 induction r using atR
 exact snd fun n=>by
  simp only[RL.add,RL.mul,RL.neg]
  grind
theorem aoP(a b q r:RE):a+b*r+ -q=a-q+b*r:=by
 induction a using atR
 induction b using atR
 induction q using atR
 induction r using atR
 exact snd fun n=>by
  simp only[RL.add,RL.mul,RL.neg]
  grind
theorem P8(a b:RE):a+ -b=a-b:=rfl
theorem D2(l:Ln){p:Pt}[h:Rpd p]:rE l p=sg (of l.1*pX p+of l.2.1*pY p+ -of l.2.2):=by
 unfold rE pX pY
 rw[sgn2_re h.nn]
 unfold v2
 rw[aiC]
 unfold N6 OB
 simp only[of_add,of_sub,ck]
theorem Er(c:Ln){p:Pt}[h:Rpd p]:m9 c p= -sg ((pX p-of c.1)*(pX p-of c.1)+(pY p-of c.2.1)*(pY p-of c.2.1)+ -of c.2.2):=by
 unfold m9
 have e:=aj4 (p:=p) (v:=ctr c)
 unfold sqP at e
 rw[vR_co]at e
 rw[sgn2_re h.nn]
 unfold v2 at e ⊢
 rw[of_sub,←aoP,e]
 rfl
theorem sidL_ok(l:Ln){p:Pt}[Rpd p](h:(vS l p).2=true):(vS l p).1=rE l p:=by
 rw[aao h,D2]
 try rfl
theorem insC_ok(c:Ln){p:Pt}[Rpd p](h:(t9 c p).2=true): -(t9 c p).1=m9 c p:=by
 rw[abs h,Er]
 simp only[P8]
 try rfl
end RE
end
def iw(r s:Rt):Rat:=bif decide (r.2.1=0)then s.2.2 else r.2.2
def n9(r s:Rt):Bool:=decide (r.2.1=0)||(decide (s.2.1=0)||decide (r.2.2=s.2.2))
def mf(r s:Rt):Rt:=lP (r.1*s.1+r.2.1*s.2.1*iw r s) (r.1*s.2.1+r.2.1*s.1) (iw r s)
def yb(r s:Rt):Rt:=lP (r.1+s.1) (r.2.1+s.2.1) (iw r s)
def arT(r:Rt)(a:Rat):Rt:=(r.1+a,r.2.1,r.2.2)
theorem cf(a b:Rat):(aS a b !=0)=!decide (a=b):=by
 unfold bne
 rw[aE]
instance asI {r s:Rt} {i j:Nat} [h:Bd r i] [h':Bd s j]:Bd (iw r s) (mx j i):=inferInstanceAs (Bd (bif decide (r.2.1=0)then s.2.2 else r.2.2) _)
instance ast {a b c:Rat} {i j k:Nat} [ha:Bd a i] [hb:Bd b j] [hc:Bd c k]:Bd (lP a b c) (mx i (mx j k)):=by
 have h1:=Jh i (mx j k)
 have h2:=HZ i (mx j k)
 have h3:=Jh j k
 have h4:=HZ j k
 have h5:=sd ha.le
 have z:bdR (mx i (mx j k)) 0:=cK ue.le (by omega)
 refine⟨?_⟩
 unfold lP
 cases decide (b=0)
 ·cases decide (c=0)
  ·exact⟨cK ha.le (by omega),cK hb.le (by omega),cK hc.le (by omega)⟩
  ·exact⟨cK ha.le (by omega),z,z⟩
 ·exact⟨cK ha.le (by omega),z,z⟩
theorem NO(r:Rt):n9 r r=true:=by
 unfold n9
 rw[atT (rfl:r.2.2=r.2.2)]
 simp
theorem J9{p:Pt}{v:Rat×Rat}(h:Rpd p):n9 (mf (xP (trP p (bkV v))) (xP (trP p (bkV v)))) (mf (yP (trP p (bkV v))) (yP (trP p (bkV v))))=true∧yb (mf (xP (trP p (bkV v))) (xP (trP p (bkV v)))) (mf (yP (trP p (bkV v))) (yP (trP p (bkV v))))=sqP p v:=by
 obtain⟨ax,bx,ay,b_,c⟩:=p
 have hr:=h.rd
 unfold IE at hr
 simp only at hr
 unfold sqP sqA sqB xP yP trP bkV
 simp only
 rw[show ax+ -v.1=ax-v.1 by grind,show ay+ -v.2=ay-v.2 by grind]
 generalize ax-v.1=x
 generalize ay-v.2=y
 rcases hr with⟨rfl,rfl,rfl⟩|⟨h1,h2,h3⟩
 ·have e0:∀a:Rat,coR a 0 0=(a,0,0):=fun a=>rfl
  have e1:∀a:Rat,mf (a,0,0) (a,0,0)=(a*a,0,0):=fun a=>by
   unfold mf iw lP
   simp
   grind
  rw[e0,e0,e1,e1]
  refine⟨rfl,?_⟩
  rw[show x*0+y*0+(x*0+y*0)=(0:Rat) by grind]
  unfold yb iw lP coR
  simp
  grind
 ·have hc:c≠0:=by grind
  have dc:decide (c=0)=false:=atV hc
  have sq0:∀a:Rat,mf (coR a 0 c) (coR a 0 c)=(a*a,0,0):=fun a=>by
   unfold coR
   rw[atT rfl]
   unfold mf iw lP
   simp
   grind
  have sq1:∀a b:Rat,b≠0→mf (coR a b c) (coR a b c)=coR (a*a+b*b*c) (a*b+b*a) c:=fun a b hb=>by
   have e:coR a b c=(a,b,c):=by unfold coR;rw[atV hb];rfl
   rw[e]
   unfold mf iw lP coR
   simp only[atV hb,cond_false,dc]
  have cR:∀a b:Rat,lP a b c=coR a b c:=fun a b=>by unfold lP coR;rw[dc];rfl
  have ad:∀a b d e:Rat,n9 (coR a b c) (coR d e c)=true∧(b≠0∨e≠0→yb (coR a b c) (coR d e c)=coR (a+d) (b+e) c)∧(b=0→e=0→yb (coR a b c) (coR d e c)=(a+d,0,0)):=fun a b d e=>by
   by_cases hb:b=0
   ·subst hb
    by_cases he:e=0
    ·subst he
     refine⟨rfl,fun h=>by simp at h,fun _ _=>?_⟩
     unfold coR yb iw lP
     simp
    ·refine⟨rfl,fun _=>?_,fun _ h=>absurd h he⟩
     have e1:coR a 0 c=(a,0,0):=rfl
     have e2:coR d e c=(d,e,c):=by unfold coR;rw[atV he];rfl
     rw[e1,e2]
     show lP (a+d) (0+e) c=_
     rw[cR]
   ·have e1:coR a b c=(a,b,c):=by unfold coR;rw[atV hb];rfl
    by_cases he:e=0
    ·subst he
     have e2:coR d 0 c=(d,0,0):=rfl
     refine⟨by rw[e1,e2];simp[n9],fun _=>?_,fun h=>absurd h hb⟩
     rw[e1,e2]
     unfold yb iw
     simp only[atV hb,cond_false]
     rw[cR]
    ·have e2:coR d e c=(d,e,c):=by unfold coR;rw[atV he];rfl
     refine⟨by rw[e1,e2];simp[n9],fun _=>?_,fun h=>absurd h hb⟩
     rw[e1,e2]
     unfold yb iw
     simp only[atV hb,cond_false]
     rw[cR]
  have c0:∀a:Rat,((a,0,0):Rt)=coR a 0 c:=fun a=>rfl
  by_cases hx:bx=0
  ·subst hx
   have hy:b_≠0:=fun e=>h1 ⟨rfl,e⟩
   rw[sq0,sq1 _ _ hy,c0]
   obtain⟨g1,g2,g3⟩:=ad (x*x) 0 (y*y+b_*b_*c) (y*b_+b_*y)
   refine⟨g1,?_⟩
   by_cases he:y*b_+b_*y=0
   ·rw[g3 rfl he,show x*0+y*b_+(x*0+y*b_)=0 by grind]
    show _=coR _ 0 c
    rw[←c0]
    congr 1
    grind
   ·rw[g2 (.inr he)]
    congr 1<;>grind
  ·by_cases hy:b_=0
   ·subst hy
    rw[sq0,sq1 _ _ hx,c0]
    obtain⟨g1,g2,g3⟩:=ad (x*x+bx*bx*c) (x*bx+bx*x) (y*y) 0
    refine⟨g1,?_⟩
    by_cases he:x*bx+bx*x=0
    ·rw[g3 he rfl,show x*bx+y*0+(x*bx+y*0)=0 by grind]
     show _=coR _ 0 c
     rw[←c0]
     congr 1
     grind
    ·rw[g2 (.inl he)]
     congr 1<;>grind
   ·rw[sq1 _ _ hx,sq1 _ _ hy]
    obtain⟨g1,g2,g3⟩:=ad (x*x+bx*bx*c) (x*bx+bx*x) (y*y+b_*b_*c) (y*b_+b_*y)
    refine⟨g1,?_⟩
    by_cases h0:x*bx+bx*x=0∧y*b_+b_*y=0
    ·rw[g3 h0.1 h0.2,show x*bx+y*b_+(x*bx+y*b_)=0 by grind]
     show _=coR _ 0 c
     rw[←c0]
     congr 1
     grind
    ·rw[g2 (by by_cases e:x*bx+bx*x=0;exact .inr (fun e'=>h0 ⟨e,e'⟩);exact .inl e)]
     congr 1<;>grind
theorem Rpd.com{p:Pt}{v:Rat×Rat}(h:Rpd p):n9 (mf (xP (trP p (bkV v))) (xP (trP p (bkV v)))) (mf (yP (trP p (bkV v))) (yP (trP p (bkV v))))=true:=(J9 h).1
instance asw {r s:Rt} {i j:Nat} [h:Bd r i] [h':Bd s j]:Bd (mf r s) (2*(i+j)+(mx j i)+1):=by
 have m:Bd (iw r s) (mx j i):=inferInstance
 have a1:Bd (r.1*s.1+r.2.1*s.2.1*iw r s) _:=inferInstance
 have a2:Bd (r.1*s.2.1+r.2.1*s.1) _:=inferInstance
 have i1:Bd (lP (r.1*s.1+r.2.1*s.2.1*iw r s) (r.1*s.2.1+r.2.1*s.1) (iw r s)) _:=inferInstance
 exact i1.mono (kE (by omega) (kE (by omega) (by omega)))
instance asv {r s:Rt} {i j:Nat} [h:Bd r i] [h':Bd s j]:Bd (yb r s) (i+j+1):=by
 have i1:Bd (lP (r.1+s.1) (r.2.1+s.2.1) (iw r s)) _:=inferInstance
 exact i1.mono (kE (by omega) (kE (by omega) (kE (by omega) (by omega))))
instance as5 {r:Rt} {a:Rat} {i j:Nat} [h:Bd r i] [h':Bd a j]:Bd (arT r a) (i+j+1):=by
 have i1:Bd ((r.1+a,r.2.1,r.2.2):Rt) _:=inferInstance
 exact i1.mono (kE (by omega) (kE (by omega) (by omega)))
def Du:aN:=spN true true [tO,tR] (fun x=>decide (okT 15000 x.1∧ok Rat 15000 x.2.1)) (fun x=>[RV.d axf (gk (dec x.1) (ae x.2.1))])
theorem AF:SpK 267 Du:=spX fun x h=>YH x.1 x.2.1 (atS h)
def zM:Env:=[(69,jI),(35,lE),(85,qk),(86,nC),(92,qE),(169,qw),(157,CK),(84,CL),(87,DO),(90,xo),(267,Du)]
theorem mE:EnvAll Tryz.prog zM:=⟨gN,iC,lX,jT,mB,ma,BH,Bx,Bj,wa,AF,trivial⟩
def ail:Ctx:=CX zM []
def Za(r s:BO3)(_k:KT):Option (List RV):=match decide (okR r.2.1)with|true=>(match(aS (ae r.2.1) 0)==0 with|true=>some [RV.d tR s.2.2,RV.d .bool true]|false=>(match decide (okR s.2.1)with|true=>(match(aS (ae s.2.1) 0)==0 with|true=>some [RV.d tR r.2.2,RV.d .bool true]|false=>(match decide (okR r.2.2∧okR s.2.2)with|true=>some [RV.d tR r.2.2,RV.d .bool ((aS (ae r.2.2) (ae s.2.2))==0)]|false=>none))|false=>none))|false=>none
theorem aiM(r s:BO3):RS ail 279 [.d tO r,.d tO s] (Za r s):=rsX
theorem WB(r s:BO3)(h:ok Rt 100000 r∧ok Rt 100000 s):Con Tryz.prog 279 [.d tO r,.d tO s] [.d tR (ai (iw (dec r) (dec s))),.d .bool (n9 (dec r) (dec s))]:=by
 refine aP mE (aiM _ _ ⟨0,?_⟩)
 obtain⟨hr,hs⟩:=h
 obtain⟨r,rfl,br⟩:=aZ hr
 obtain⟨s,rfl,bs⟩:=aZ hs
 unfold Za
 simp only[aq,aI,aL,aF,az,aX,atW,atY,Nat.reduceLeDiff,aE]
 unfold iw n9
 cases decide (r.2.1=0)<;>cases decide (s.2.1=0)<;>rfl
def alK:Ctx:=CX zM []
def RF(r:BO3)(a:BR)(_k:KT):Option (List RV):=match decide (okR r.1∧okR a)with|true=>some [RV.d tO (hid (ai (ae r.1+ae a)),r.2)]|false=>none
theorem akd(r:BO3)(a:BR):RS alK 234 [.d tO r,.d tR a] (RF r a):=rsX
theorem YA(r:BO3)(a:BR)(h:ok Rt 100000 r∧ok Rat 100000 a):Con Tryz.prog 234 [.d tO r,.d tR a] [.d tO (enc (arT (dec r) (ae a)))]:=by
 refine aP mE (akd _ _ ⟨0,?_⟩)
 obtain⟨hr,ha⟩:=h
 obtain⟨r,rfl,br⟩:=aZ hr
 obtain⟨a,rfl,ba⟩:=aZ ha
 unfold RF
 simp only[ak,aq,aI,aL,aF,az,aX,atW,atY,Nat.reduceLeDiff]
 rfl
def akQ:Ctx:=CX zM []
def RD(_k:KT):Option (List RV):=match decide (bO (0:Int))with|true=>some [RV.d tR (hid (ai ((0:Int):Rat)))]|false=>none
theorem ajh:RS akQ 89 [] (RD):=rsX
theorem Yl:Con Tryz.prog 89 [] [.d tR (ai 0)]:=by
 refine aP mE (ajh ⟨0,?_⟩)
 unfold RD
 rw[dT (show bO 0 by decide)]
 simp only[ak]
 rfl
def aik:Ctx:=CX zM []
def XN(p:BP)(v:BV)(_k:KT):Option (List RV):=match decide (okR p.1∧okR v.1)with|true=>(match decide (okR p.2.2.1∧okR v.2)with|true=>some [RV.d tP (hid (ai (ae p.1+ae v.1)),(p.2.1,(hid (ai (ae p.2.2.1+ae v.2)),p.2.2.2)))]|false=>none)|false=>none
theorem alI(p:BP)(v:BV):RS aik 263 [.d tP p,.d tV v] (XN p v):=rsX
theorem Y0(p:BP)(v:BV)(h:ok Pt 21000 p∧ok (Rat×Rat) 1000 v):Con Tryz.prog 263 [.d tP p,.d tV v] [.d tP (enc (trP (dec p) (dec v)))]:=by
 refine aP mE (alI _ _ ⟨0,?_⟩)
 obtain⟨hp,hv⟩:=h
 obtain⟨p,rfl,bp⟩:=aZ hp
 obtain⟨v,rfl,bv⟩:=aZ hv
 unfold XN
 simp only[ak,aq,aI,aL,aF,az,aX,atW,atY,Nat.reduceLeDiff]
 rfl
def aij:Ctx:=CX zM []
def QU(v:BV)(_k:KT):Option (List RV):=match decide (okR v.1)with|true=>(match decide (okR v.2)with|true=>some [RV.d tV (hid (ai (-ae v.1)),hid (ai (-ae v.2)))]|false=>none)|false=>none
theorem al4(v:BV):RS aij 264 [.d tV v] (QU v):=rsX
theorem V7(v:BV)(h:ok (Rat×Rat) 21000 v):Con Tryz.prog 264 [.d tV v] [.d tV (enc (bkV (dec v)))]:=by
 refine aP mE (al4 _ ⟨0,?_⟩)
 have hv:=h
 obtain⟨v,rfl,bv⟩:=aZ hv
 unfold QU
 simp only[ak,aq,aI,aL,aF,az,aX,Nat.reduceLeDiff]
 rfl
def KW:aN:=spN false true [tO,tO] (fun x=>decide (ok Rt 100000 x.1∧ok Rt 100000 x.2.1)) (fun x=>[RV.d tR (hid (ai (iw (dec x.1) (dec x.2.1)))),RV.d .bool (n9 (dec x.1) (dec x.2.1))])
theorem Oq:SpK 279 KW:=spX fun x h=>by simp only[ak];exact WB x.1 x.2.1 (atS h)
def Dm:aN:=spN false true [tO,tR] (fun x=>decide (ok Rt 100000 x.1∧ok Rat 100000 x.2.1)) (fun x=>[RV.d tO (hid (enc (arT (dec x.1) (ae x.2.1))))])
theorem AO:SpK 234 Dm:=spX fun x h=>by simp only[ak];exact YA x.1 x.2.1 (atS h)
def LX:aN:=spN false true [] (fun _=>true) (fun _=>[RV.d tR (hid (ai 0))])
theorem Ol:SpK 89 LX:=spX fun _ _=>by simp only[ak];exact Yl
def L6:aN:=spN false true [tP,tV] (fun x=>decide (ok Pt 21000 x.1∧ok (Rat×Rat) 1000 x.2.1)) (fun x=>[RV.d tP (hid (enc (trP (dec x.1) (dec x.2.1))))])
theorem NH:SpK 263 L6:=spX fun x h=>by simp only[ak];exact Y0 x.1 x.2.1 (atS h)
def Md:aN:=spN false true [tV] (fun x=>decide (ok (Rat×Rat) 21000 x.1)) (fun x=>[RV.d tV (hid (enc (bkV (dec x.1))))])
theorem OW:SpK 264 Md:=spX fun x h=>by simp only[ak];exact V7 x.1 (atS h)
def MH:Env:=(279,KW)::(234,Dm)::(89,LX)::(263,L6)::(264,Md)::zM
theorem zC:EnvAll Tryz.prog MH:=⟨Oq,AO,Ol,NH,OW,mE⟩
def ak1:Ctx:=CX MH []
def Su(r s:BO3)(_k:KT):Option (List RV):=match decide (ok Rt 100000 r∧ok Rt 100000 s)with|true=>(match !(n9 (dec r) (dec s))with|true=>some [RV.d tO (((false,[]),(false,[])),(((false,[]),(false,[])),((false,[]),(false,[])))),RV.d axf 1]|false=>(match decide (okR r.1∧okR s.1)with|true=>(match decide (okR r.2.1∧okR s.2.1)with|true=>(match decide (okR (hid (ai (ae r.2.1*ae s.2.1)))∧okR (hid (ai (iw (dec r) (dec s)))))with|true=>(match decide (okR (hid (ai (ae r.1*ae s.1)))∧okR (hid (ai (ae (hid (ai (ae r.2.1*ae s.2.1)))*ae (hid (ai (iw (dec r) (dec s))))))))with|true=>(match decide (okR r.1∧okR s.2.1)with|true=>(match decide (okR r.2.1∧okR s.1)with|true=>(match decide (okR (hid (ai (ae r.1*ae s.2.1)))∧okR (hid (ai (ae r.2.1*ae s.1))))with|true=>(match decide (okR (hid (ai (ae (hid (ai (ae r.1*ae s.1)))+ae (hid (ai (ae (hid (ai (ae r.2.1*ae s.2.1)))*ae (hid (ai (iw (dec r) (dec s))))))))))∧okR (hid (ai (ae (hid (ai (ae r.1*ae s.2.1)))+ae (hid (ai (ae r.2.1*ae s.1))))))∧okR (hid (ai (iw (dec r) (dec s)))))with|true=>some [RV.d tO (hid (enc (lP (ae (hid (ai (ae (hid (ai (ae r.1*ae s.1)))+ae (hid (ai (ae (hid (ai (ae r.2.1*ae s.2.1)))*ae (hid (ai (iw (dec r) (dec s))))))))))) (ae (hid (ai (ae (hid (ai (ae r.1*ae s.2.1)))+ae (hid (ai (ae r.2.1*ae s.1))))))) (ae (hid (ai (iw (dec r) (dec s)))))))),RV.d axf 0]|false=>none)|false=>none)|false=>none)|false=>none)|false=>none)|false=>none)|false=>none)|false=>none))|false=>none
theorem aim(r s:BO3):RS ak1 280 [.d tO r,.d tO s] (Su r s):=rsX
theorem Xm(r s:BO3)(h:ok Rt 50000 r∧ok Rt 50000 s∧n9 (dec r) (dec s)=true):Con Tryz.prog 280 [.d tO r,.d tO s] [.d tO (enc (mf (dec r) (dec s))),.d axf 0]:=by
 refine aP zC (aim _ _ ⟨0,?_⟩)
 obtain⟨hr,hs,htrue⟩:=h
 obtain⟨r,rfl,br⟩:=aZ hr
 obtain⟨s,rfl,bs⟩:=aZ hs
 have hm:=htrue
 rw[aq,aq]at hm
 unfold Su
 simp only[ak,aq,aI,aL,aF,az,okd,aX,atW,atY,mx,Nat.reduceAdd,Nat.reduceLeDiff,at8,cond_true,hm,Bool.not_true]
 rfl
def alO:Ctx:=CX MH []
def ZJ(r s:BO3)(_k:KT):Option (List RV):=match decide (ok Rt 100000 r∧ok Rt 100000 s)with|true=>(match !(n9 (dec r) (dec s))with|true=>some [RV.d tO (((false,[]),(false,[])),(((false,[]),(false,[])),((false,[]),(false,[])))),RV.d axf 1]|false=>(match decide (okR r.1∧okR s.1)with|true=>(match decide (okR r.2.1∧okR s.2.1)with|true=>(match decide (okR (hid (ai (ae r.1+ae s.1)))∧okR (hid (ai (ae r.2.1+ae s.2.1)))∧okR (hid (ai (iw (dec r) (dec s)))))with|true=>some [RV.d tO (hid (enc (lP (ae (hid (ai (ae r.1+ae s.1)))) (ae (hid (ai (ae r.2.1+ae s.2.1)))) (ae (hid (ai (iw (dec r) (dec s)))))))),RV.d axf 0]|false=>none)|false=>none)|false=>none))|false=>none
theorem aj8(r s:BO3):RS alO 265 [.d tO r,.d tO s] (ZJ r s):=rsX
theorem Xn(r s:BO3)(h:ok Rt 100000 r∧ok Rt 100000 s∧n9 (dec r) (dec s)=true):Con Tryz.prog 265 [.d tO r,.d tO s] [.d tO (enc (yb (dec r) (dec s))),.d axf 0]:=by
 refine aP zC (aj8 _ _ ⟨0,?_⟩)
 obtain⟨hr,hs,htrue⟩:=h
 obtain⟨r,rfl,br⟩:=aZ hr
 obtain⟨s,rfl,bs⟩:=aZ hs
 have hm:=htrue
 rw[aq,aq]at hm
 unfold ZJ
 simp only[ak,aq,aI,aL,aF,az,okd,aX,atW,atY,mx,Nat.reduceAdd,Nat.reduceLeDiff,at8,cond_true,hm,Bool.not_true]
 rfl
def Mc:aN:=spN false true [tO,tO] (fun x=>decide (ok Rt 50000 x.1∧ok Rt 50000 x.2.1∧n9 (dec x.1) (dec x.2.1)=true)) (fun x=>[RV.d tO (hid (enc (mf (dec x.1) (dec x.2.1)))),RV.d axf 0])
theorem Ny:SpK 280 Mc:=spX fun x h=>by simp only[ak];exact Xm x.1 x.2.1 (atS h)
def JX:aN:=spN false true [tO,tO] (fun x=>decide (ok Rt 100000 x.1∧ok Rt 100000 x.2.1∧n9 (dec x.1) (dec x.2.1)=true)) (fun x=>[RV.d tO (hid (enc (yb (dec x.1) (dec x.2.1)))),RV.d axf 0])
theorem N7:SpK 265 JX:=spX fun x h=>by simp only[ak];exact Xn x.1 x.2.1 (atS h)
def AI:Env:=(280,Mc)::(265,JX)::MH
theorem pC:EnvAll Tryz.prog AI:=⟨Ny,N7,zC⟩
def aiA:Ctx:=CX AI []
def Ve(r:BO3)(_k:KT):Option (List RV):=match decide (ok Rt 50000 r∧ok Rt 50000 r∧n9 (dec r) (dec r)=true)with|true=>some [RV.d tO (hid (enc (mf (dec r) (dec r))))]|false=>none
theorem ajG(r:BO3):RS aiA 266 [.d tO r] (Ve r):=rsX
theorem Zq(r:BO3)(h:ok Rt 50000 r):Con Tryz.prog 266 [.d tO r] [.d tO (enc (mf (dec r) (dec r)))]:=by
 refine aP pC (ajG _ ⟨0,?_⟩)
 have hr:=h
 obtain⟨r,rfl,br⟩:=aZ hr
 unfold Ve
 simp only[ak,aq,okd,atW,atY,Nat.reduceLeDiff,at8,NO]
def ajT:Ctx:=CX AI []
def Rf(v:BV)(_k:KT):Option (List RV):=some [RV.d tP (v.1,(hid (ai 0),(v.2,(hid (ai 0),hid (ai 0)))))]
theorem akW(v:BV):RS ajT 38 [.d tV v] (Rf v):=rsX
theorem ZK(v:BV)(h:ok (Rat×Rat) 100000 v):Con Tryz.prog 38 [.d tV v] [.d tP (enc (atP (dec v)))]:=by
 refine aP pC (akW _ ⟨0,?_⟩)
 have hv:=h
 obtain⟨v,rfl,bv⟩:=aZ hv
 unfold Rf
 simp only[ak,aq,aI,aL,aF]
 try rfl
def akl:Ctx:=CX AI []
def WL(a b c d e:BR)(_k:KT):Option (List RV):=match decide (okR b)with|true=>(match(aS (ae b) 0)==0 with|true=>(match decide (okR d)with|true=>(match(aS (ae d) 0)==0 with|true=>some [RV.d tP (a,(b,(c,(d,hid (ai 0)))))]|false=>some [RV.d tP (a,(b,(c,(d,e))))])|false=>none)|false=>some [RV.d tP (a,(b,(c,(d,e))))])|false=>none
theorem aib(a b c d e:BR):RS akl 93 [.d tR a,.d tR b,.d tR c,.d tR d,.d tR e] (WL a b c d e):=rsX
theorem UG(a b c d e:BR)(h:okR a∧okR b∧okR c∧okR d∧okR e):Con Tryz.prog 93 [.d tR a,.d tR b,.d tR c,.d tR d,.d tR e] [.d tP (enc (rdP (ae a,ae b,ae c,ae d,ae e)))]:=by
 refine aP pC (aib _ _ _ _ _ ⟨0,?_⟩)
 obtain⟨ha,hb,hc,hd,he⟩:=h
 obtain⟨a,rfl,ba⟩:=fe ha
 obtain⟨b,rfl,bb⟩:=fe hb
 obtain⟨c,rfl,bc⟩:=fe hc
 obtain⟨d,rfl,bd⟩:=fe hd
 obtain⟨e,rfl,be⟩:=fe he
 unfold WL
 simp only[ak,az,aX,Nat.reduceLeDiff,aE]
 unfold rdP
 by_cases h1:b=0
 ·by_cases h2:d=0
  ·rw[atT h1,atT h2];rfl
  ·rw[atT h1,atV h2];rfl
 ·rw[atV h1];rfl
def ahO:Ctx:=CX AI []
def YV(a b c:BR)(_k:KT):Option (List RV):=match decide (okR b)with|true=>(match(aS (ae b) 0)==0 with|true=>(match decide (okR a)with|true=>some [RV.d tO (hid (enc ((ae a,0,0):Rt)))]|false=>none)|false=>some [RV.d tO (a,(b,c))])|false=>none
theorem ajv(a b c:BR):RS ahO 91 [.d tR a,.d tR b,.d tR c] (YV a b c):=rsX
theorem XG(a b c:BR)(h:okR a∧okR b∧okR c):Con Tryz.prog 91 [.d tR a,.d tR b,.d tR c] [.d tO (enc (coR (ae a) (ae b) (ae c)))]:=by
 refine aP pC (ajv _ _ _ ⟨0,?_⟩)
 obtain⟨ha,hb,hc⟩:=h
 obtain⟨a,rfl,ba⟩:=fe ha
 obtain⟨b,rfl,bb⟩:=fe hb
 obtain⟨c,rfl,bc⟩:=fe hc
 unfold YV
 simp only[ak,aT,aF,az,aX,Nat.reduceLeDiff,aE]
 unfold coR
 by_cases e:b=0
 ·subst e;rw[atT rfl];rfl
 ·rw[atV e];rfl
def Lq:aN:=spN false true [tO] (fun x=>decide (ok Rt 50000 x.1)) (fun x=>[RV.d tO (hid (enc (mf (dec x.1) (dec x.1))))])
theorem Nt:SpK 266 Lq:=spX fun x h=>by simp only[ak];exact Zq x.1 (atS h)
def t3:aN:=spN false true [tV] (fun x=>decide (ok (Rat×Rat) 100000 x.1)) (fun x=>[RV.d tP (hid (enc (atP (dec x.1))))])
theorem qq:SpK 38 t3:=spX fun x h=>by simp only[ak];exact ZK x.1 (atS h)
def LU:aN:=spN false true [tR,tR,tR,tR,tR] (fun x=>decide (okR x.1∧okR x.2.1∧okR x.2.2.1∧okR x.2.2.2.1∧okR x.2.2.2.2.1)) (fun x=>[RV.d tP (hid (enc (rdP (ae x.1,ae x.2.1,ae x.2.2.1,ae x.2.2.2.1,ae x.2.2.2.2.1))))])
theorem Nm:SpK 93 LU:=spX fun x h=>by simp only[ak];exact UG x.1 x.2.1 x.2.2.1 x.2.2.2.1 x.2.2.2.2.1 (atS h)
def Kk:aN:=spN false true [tR,tR,tR] (fun x=>decide (okR x.1∧okR x.2.1∧okR x.2.2.1)) (fun x=>[RV.d tO (hid (enc (coR (ae x.1) (ae x.2.1) (ae x.2.2.1))))])
theorem PU:SpK 91 Kk:=spX fun x h=>by simp only[ak];exact XG x.1 x.2.1 x.2.2.1 (atS h)
def Gg:Env:=(266,Lq)::(38,t3)::(93,LU)::(91,Kk)::AI
theorem ui:EnvAll Tryz.prog Gg:=⟨Nt,qq,Nm,PU,pC⟩
def ajD:Ctx:=CX Gg []
def TK(x y:BO3)(_k:KT):Option (List RV):=let y1:=aS (ae x.2.1) 0;let y2:Option (List RV):=match decide (okR x.2.1)with|true=>(match y1==0 with|true=>(match decide (okR x.1∧okR x.2.1∧okR y.1∧okR y.2.1∧okR y.2.2)with|true=>some [RV.d tP (hid (enc (rdP (ae x.1,ae x.2.1,ae y.1,ae y.2.1,ae y.2.2)))),RV.d axf 0]|false=>none)|false=>(match decide (okR x.1∧okR x.2.1∧okR y.1∧okR y.2.1∧okR x.2.2)with|true=>some [RV.d tP (hid (enc (rdP (ae x.1,ae x.2.1,ae y.1,ae y.2.1,ae x.2.2)))),RV.d axf 0]|false=>none))|false=>none;match decide (okR x.2.1)with|true=>(match y1 !=0 with|true=>(match decide (okR y.2.1)with|true=>(match(aS (ae y.2.1) 0) !=0 with|true=>(match decide (okR x.2.2∧okR y.2.2)with|true=>(match(aS (ae x.2.2) (ae y.2.2)) !=0 with|true=>some [RV.d tP (((false,[]),(false,[])),(((false,[]),(false,[])),(((false,[]),(false,[])),(((false,[]),(false,[])),((false,[]),(false,[])))))),RV.d axf 1]|false=>y2)|false=>none)|false=>y2)|false=>none)|false=>y2)|false=>none
theorem ai7(x y:BO3):RS ajD 41 [.d tO x,.d tO y] (TK x y):=rsX
theorem W5(x y:BO3)(h:okT 15000 x∧okT 15000 y∧vO (dec x) (dec y)):Con Tryz.prog 41 [.d tO x,.d tO y] [.d tP (enc (mkP (dec x) (dec y))),.d axf 0]:=by
 refine aP ui (ai7 _ _ ⟨0,?_⟩)
 obtain⟨hx,hy,hy_2⟩:=h
 obtain⟨x,rfl,bx,rx⟩:=ks hx
 obtain⟨y,rfl,b_y,ry⟩:=ks hy
 have hm:=hy_2
 rw[aq,aq]at hm
 unfold TK
 simp only[ak,aq,aI,aL,aF,az,aX,atW,atY,Nat.reduceLeDiff,aE,cf]
 unfold mkP
 by_cases e1:x.2.1=0
 ·rw[atT e1];rfl
 ·rw[atV e1]
  by_cases e2:y.2.1=0
  ·rw[atT e2];rfl
  ·rw[atV e2,atT ((hm.resolve_left e1).resolve_left e2)];rfl
def aqg:Ctx:=CX Gg []
def aha(p:BP)(_k:KT):Option (List RV):=match decide (okR p.1∧okR p.2.1∧okR p.2.2.2.2)with|true=>some [RV.d tO (hid (enc (coR (ae p.1) (ae p.2.1) (ae p.2.2.2.2))))]|false=>none
theorem arA(p:BP):RS aqg 40 [.d tP p] (aha p):=rsX
theorem adC(p:BP)(h:okP 4000 p):Con Tryz.prog 40 [.d tP p] [.d tO (enc (xP (dec p)))]:=by
 refine aP ui (arA _ ⟨0,?_⟩)
 have hp:=h
 obtain⟨p,rfl,bp,rp⟩:=dz hp
 unfold aha
 simp only[ak,aq,aI,aL,aF,az,aX,atW,atY,Nat.reduceLeDiff]
 try rfl
def apx:Ctx:=CX Gg []
def aeU(p:BP)(_k:KT):Option (List RV):=match decide (okR p.2.2.1∧okR p.2.2.2.1∧okR p.2.2.2.2)with|true=>some [RV.d tO (hid (enc (coR (ae p.2.2.1) (ae p.2.2.2.1) (ae p.2.2.2.2))))]|false=>none
theorem apD(p:BP):RS apx 115 [.d tP p] (aeU p):=rsX
theorem abp(p:BP)(h:okP 4000 p):Con Tryz.prog 115 [.d tP p] [.d tO (enc (yP (dec p)))]:=by
 refine aP ui (apD _ ⟨0,?_⟩)
 have hp:=h
 obtain⟨p,rfl,bp,rp⟩:=dz hp
 unfold aeU
 simp only[ak,aq,aI,aL,aF,az,aX,atW,atY,Nat.reduceLeDiff]
 try rfl
def CD:aN:=spN false true [tP] (fun x=>decide (okP 4000 x.1)) (fun x=>[RV.d tO (hid (enc (xP (dec x.1))))])
theorem Ag:SpK 40 CD:=spX fun x h=>by simp only[ak];exact adC x.1 (atS h)
def H6:aN:=spN false true [tP] (fun x=>decide (okP 4000 x.1)) (fun x=>[RV.d tO (hid (enc (yP (dec x.1))))])
theorem EM:SpK 115 H6:=spX fun x h=>by simp only[ak];exact abp x.1 (atS h)
def Wb:Env:=(40,CD)::(115,H6)::Gg
theorem ER:EnvAll Tryz.prog Wb:=⟨Ag,EM,ui⟩
def alw:Ctx:=CX Wb []
def WH(p q:BP)(_k:KT):Option (List RV):=match decide (okP 4000 p)with|true=>(match decide (okP 4000 q)with|true=>(match decide (okT 15000 (hid (enc (xP (dec p))))∧okT 15000 (hid (enc (xP (dec q)))))with|true=>(match(bR (dec (hid (enc (xP (dec p))))) (dec (hid (enc (xP (dec q)))))) !=0 with|true=>some [RV.d axf (bR (dec (hid (enc (xP (dec p))))) (dec (hid (enc (xP (dec q))))))]|false=>(match decide (okP 4000 p)with|true=>(match decide (okP 4000 q)with|true=>(match decide (okT 15000 (hid (enc (yP (dec p))))∧okT 15000 (hid (enc (yP (dec q)))))with|true=>some [RV.d axf (bR (dec (hid (enc (yP (dec p))))) (dec (hid (enc (yP (dec q))))))]|false=>none)|false=>none)|false=>none))|false=>none)|false=>none)|false=>none
theorem aiQ(p q:BP):RS alw 51 [.d tP p,.d tP q] (WH p q):=rsX
theorem Rv(p q:BP)(h:okP 4000 p∧okP 4000 q):Con Tryz.prog 51 [.d tP p,.d tP q] [.d axf (aW (dec p) (dec q))]:=by
 refine aP ER (aiQ _ _ ⟨0,?_⟩)
 obtain⟨hp,hq⟩:=h
 obtain⟨p,rfl,bp,rp⟩:=dz hp
 obtain⟨q,rfl,bq,rq⟩:=dz hq
 unfold WH
 simp only[ak,aq,atW,atY,mx,Nat.reduceLeDiff,at8,cond_true,bH,bG]
 unfold aW bne
 cases bR (xP p) (xP q)==0<;>rfl
def Eh:aN:=spN false true [tO,tO] (fun x=>decide (okT 15000 x.1∧okT 15000 x.2.1∧vO (dec x.1) (dec x.2.1))) (fun x=>[RV.d tP (hid (enc (mkP (dec x.1) (dec x.2.1)))),RV.d axf 0])
theorem Bw:SpK 41 Eh:=spX fun x h=>by simp only[ak];exact W5 x.1 x.2.1 (atS h)
def qD:aN:=spN true true [tP,tP] (fun x=>decide (okP 4000 x.1∧okP 4000 x.2.1)) (fun x=>[RV.d axf (aW (dec x.1) (dec x.2.1))])
theorem mv:SpK 51 qD:=spX fun x h=>Rv x.1 x.2.1 (atS h)
def RM:Env:=(41,Eh)::(51,qD)::Wb
theorem GB:EnvAll Tryz.prog RM:=⟨Bw,mv,ER⟩
def ajq:Ctx:=CX RM []
def VU(p q:BP)(_k:KT):Option (List RV):=match decide (okP 4000 p∧okP 4000 q)with|true=>some [RV.d .bool ((aW (dec p) (dec q))==0)]|false=>none
theorem aiw(p q:BP):RS ajq 20 [.d tP p,.d tP q] (VU p q):=rsX
theorem VV(p q:BP)(h:okP 4000 p∧okP 4000 q):Con Tryz.prog 20 [.d tP p,.d tP q] [.d .bool (aW (dec p) (dec q)==0)]:=by
 refine aP GB (aiw _ _ ⟨0,?_⟩)
 unfold VU
 rw[dT h]
def akE:Ctx:=CX RM []
def VO(p:BP)(v:BV)(_k:KT):Option (List RV):=let y1:=hid (enc (bkV (dec v)));let y2:=hid (enc (trP (dec p) (dec y1)));let y3:=hid (enc (xP (dec y2)));let y4:=hid (enc (yP (dec y2)));let y5:=hid (enc (mf (dec y3) (dec y3)));let y6:=hid (enc (mf (dec y4) (dec y4)));match decide (ok (Rat×Rat) 21000 v)with|true=>(match decide (ok Pt 21000 p∧ok (Rat×Rat) 1000 y1)with|true=>(match decide (okP 4000 y2)with|true=>(match decide (ok Rt 50000 y3)with|true=>(match decide (okP 4000 y2)with|true=>(match decide (ok Rt 50000 y4)with|true=>(match decide (ok Rt 100000 y5∧ok Rt 100000 y6∧n9 (dec y5) (dec y6)=true)with|true=>some [RV.d tO (hid (enc (yb (dec y5) (dec y6))))]|false=>none)|false=>none)|false=>none)|false=>none)|false=>none)|false=>none)|false=>none
theorem aks(p:BP)(v:BV):RS akE 235 [.d tP p,.d tV v] (VO p v):=rsX
theorem ZA(p:BP)(v:BV)(h:okP 3500 p∧ok (Rat×Rat) 300 v):Con Tryz.prog 235 [.d tP p,.d tV v] [.d tO (enc (sqP (dec p) (dec v)))]:=by
 refine aP GB (aks _ _ ⟨0,?_⟩)
 obtain⟨hp,hv⟩:=h
 obtain⟨p,rfl,bp,rp⟩:=dz hp
 obtain⟨v,rfl,bv⟩:=aZ hv
 obtain⟨e1,e2⟩:=J9 (v:=v) rp
 unfold VO
 simp only[ak,aq,okd,atW,atY,mx,Nat.reduceAdd,Nat.reduceMul,Nat.reduceLeDiff,at8,at4,cond_true,cond_false,bG,e1]
 rw[e2]
def wQ:aN:=spN true true [tP,tP] (fun x=>decide (okP 4000 x.1∧okP 4000 x.2.1)) (fun x=>[RV.d .bool (aW (dec x.1) (dec x.2.1)==0)])
theorem v9:SpK 20 wQ:=spX fun x h=>VV x.1 x.2.1 (atS h)
def LZ:aN:=spN false true [tP,tV] (fun x=>decide (okP 3500 x.1∧ok (Rat×Rat) 300 x.2.1)) (fun x=>[RV.d tO (hid (enc (sqP (dec x.1) (dec x.2.1))))])
theorem Oy:SpK 235 LZ:=spX fun x h=>by simp only[ak];exact ZA x.1 x.2.1 (atS h)
end Go.Proofs.YtgddhgcjmddjfaaGreat
end
