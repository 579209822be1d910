/- distance.Segments and the reference's. -/
import Derived.Test.YtlahabkjhgkkjaaGreatY11
import Derived.Test.YtlahabkjhgkkjaaGreatY9
noncomputable section
namespace Go.Proofs.YtlahabkjhgkkjaaGreat
open Go.RowKit Go.IntKind
theorem au4:type_of% @Bool.decide_and:=@Bool.decide_and
theorem au7:type_of% @Bool.and_true:=@Bool.and_true
theorem ava:type_of% @decide_false:=@decide_false
theorem ave:type_of% @decide_true:=@decide_true
theorem avL:type_of% @Bool.and_eq_true_iff:=@Bool.and_eq_true_iff
theorem awX:type_of% @Rat.intCast_mul:=@Rat.intCast_mul
theorem axg:type_of% @beq_eq_false_iff_ne:=@beq_eq_false_iff_ne
theorem axl:type_of% @Rat.intCast_lt_intCast:=@Rat.intCast_lt_intCast
theorem aF{a b:Rat}{j k:Nat}[ha:Bd a j][hb:Bd b k](hj:j≤480000)(hk:k≤480000)(h:b≠0):decide (fD (ai a) (ai b))=true:=
 au1 ⟨nT ha.le hj,nT hb.le hk,by show ag (aj b.num)≠0;rw[dec_enc];exact fun e=>h (Rat.num_eq_zero.1 e)⟩
theorem aQ(a b:Rat):decide (aV a b>0)=decide (b<a):=by
 rcases(by grind:a<b∨a=b∨b<a)with h|h|h
 ·rw[dh h,au3 (show ¬b<a by grind)];rfl
 ·rw[h,dN,au3 (show ¬b<b by grind)];rfl
 ·rw[c9 h,au1 h];rfl
theorem aN(a b:Rat):decide (aV a b<0)=decide (a<b):=by
 rcases(by grind:a<b∨a=b∨b<a)with h|h|h
 ·rw[dh h,au1 h];rfl
 ·rw[h,dN,au3 (show ¬b<b by grind)];rfl
 ·rw[c9 h,au3 (show ¬a<b by grind)];rfl
theorem aoK(a b:Rat):decide (aV a b≥0)=decide (b≤a):=by
 rcases(by grind:a<b∨a=b∨b<a)with h|h|h
 ·rw[dh h,au3 (show ¬b≤a by grind)];rfl
 ·rw[h,dN,au1 (show b≤b by grind)];rfl
 ·rw[c9 h,au1 (show b≤a by grind)];rfl
theorem EA(a b:Rat):decide (aV a b≤0)=decide (a≤b):=by
 rcases(by grind:a<b∨a=b∨b<a)with h|h|h
 ·rw[dh h,au1 (show a≤b by grind)];rfl
 ·rw[h,dN,au1 (show b≤b by grind)];rfl
 ·rw[c9 h,au3 (show ¬a≤b by grind)];rfl
theorem aM(a b:Rat):(aV a b==0)=decide (a=b):=by
 rcases(by grind:a<b∨a=b∨b<a)with h|h|h
 ·rw[dh h,au3 (show ¬a=b by grind)];rfl
 ·rw[h,dN,au1 rfl];rfl
 ·rw[c9 h,au3 (show ¬a=b by grind)];rfl
theorem n6(a b:Rat): -1≤aV a b∧aV a b≤1:=by
 rcases(by grind:a<b∨a=b∨b<a)with h|h|h
 ·rw[dh h];decide
 ·rw[h,dN];decide
 ·rw[c9 h];decide
theorem oM{a b c d:Rat}:i64.wrap (aV a b*aV c d)=aV a b*aV c d:=by
 rcases(by grind:a<b∨a=b∨b<a)with h|h|h<;>rcases(by grind:c<d∨c=d∨d<c)with h'|h'|h'
 all_goals first|rw[dh h]|(subst h;rw[dN])|rw[c9 h]
 all_goals first|rw[dh h']|(subst h';rw[dN])|rw[c9 h']
 all_goals decide
def lE:aO:=spN false true [tR,tR] (fun x=>decide (okR x.1∧okR x.2.1)) (fun x=>[RV.d tR (hid (ai (ae x.1+ae x.2.1)))])
theorem io:SpK 149 lE:=spX fun x h=>by simp only[ak];exact LL x.1 x.2.1 (au0 h)
def kr:aO:=spN false true [tR,tR] (fun x=>decide (okR x.1∧okR x.2.1)) (fun x=>[RV.d tR (hid (ai (ae x.1-ae x.2.1)))])
theorem gD:SpK 147 kr:=spX fun x h=>by simp only[ak];exact acj x.1 x.2.1 (au0 h)
def ju:aO:=spN false true [tR,tR] (fun x=>decide (okR x.1∧okR x.2.1)) (fun x=>[RV.d tR (hid (ai (ae x.1*ae x.2.1)))])
theorem fO:SpK 148 ju:=spX fun x h=>by simp only[ak];exact Z5 x.1 x.2.1 (au0 h)
def Bc:aO:=spN false true [tR,tR] (fun x=>decide (fD x.1 x.2.1)) (fun x=>[RV.d tR (hid (ai (ae x.1/ae x.2.1))),RV.d ax8 0])
theorem w7:SpK 170 Bc:=spX fun x h=>by simp only[ak];exact acv x.1 x.2.1 (au0 h)
def jr:aO:=spN true true [tR] (fun x=>decide (okR x.1)) (fun x=>[RV.d ax8 (aV (ae x.1) 0)])
theorem fL:SpK 83 jr:=spX fun x h=>Jp x.1 (au0 h)
def nQ:aO:=spN true true [tR,tR] (fun x=>decide (okR x.1∧okR x.2.1)) (fun x=>[RV.d ax8 (aV (ae x.1) (ae x.2.1))])
theorem jD:SpK 99 nQ:=spX fun x h=>aa5 x.1 x.2.1 (au0 h)
def jw:aO:=spN false true [ax8] (fun x=>decide (bg x.1)) (fun x=>[RV.d tR (hid (ai (x.1:Rat)))])
theorem fM:SpK 76 jw:=spX fun x h=>by simp only[ak];exact aeF x.1 (au0 h)
def zn:Env:=[(149,lE),(147,kr),(148,ju),(170,Bc),(83,jr),(99,nQ),(76,jw)]
theorem nD:EnvAll Tryz.prog zn:=⟨io,gD,fO,w7,fL,jD,fM,trivial⟩
def asC:Ctx:=CX zn []
def aga(a b:BR)(_k:KT):Option (List RV):=match decide (okR a∧okR b)with|true=>some [RV.d tR (hid (ai (ae a+ae b)))]|false=>none
theorem aoD(a b:BR):RS asC 75 [.d tR a,.d tR b] (aga a b):=rsX
theorem abh(a b:BR)(h:okR a∧okR b):Con Tryz.prog 75 [.d tR a,.d tR b] [.d tR (ai (ae a+ae b))]:=by
 refine aR nD (aoD _ _ ⟨0,?_⟩)
 unfold aga
 rw[dT h,ak]
def ara:Ctx:=CX zn []
def ahR(a b:BR)(_k:KT):Option (List RV):=match decide (okR a∧okR b)with|true=>some [RV.d tR (hid (ai (ae a-ae b)))]|false=>none
theorem ap9(a b:BR):RS ara 112 [.d tR a,.d tR b] (ahR a b):=rsX
theorem abn(a b:BR)(h:okR a∧okR b):Con Tryz.prog 112 [.d tR a,.d tR b] [.d tR (ai (ae a-ae b))]:=by
 refine aR nD (ap9 _ _ ⟨0,?_⟩)
 unfold ahR
 rw[dT h,ak]
def anu:Ctx:=CX zn []
def ahk(a b:BR)(_k:KT):Option (List RV):=match decide (okR a∧okR b)with|true=>some [RV.d tR (hid (ai (ae a*ae b)))]|false=>none
theorem am5(a b:BR):RS anu 77 [.d tR a,.d tR b] (ahk a b):=rsX
theorem aaR(a b:BR)(h:okR a∧okR b):Con Tryz.prog 77 [.d tR a,.d tR b] [.d tR (ai (ae a*ae b))]:=by
 refine aR nD (am5 _ _ ⟨0,?_⟩)
 unfold ahk
 rw[dT h,ak]
def asA:Ctx:=CX zn []
def afl(a b:BR)(_k:KT):Option (List RV):=match decide (fD a b)with|true=>(match 0 !=0 with|true=>(match decide (bg (0:Int))with|true=>some [RV.d tR (hid (ai ((0:Int):Rat)))]|false=>none)|false=>some [RV.d tR (hid (ai (ae a/ae b)))])|false=>none
theorem aqo(a b:BR):RS asA 87 [.d tR a,.d tR b] (afl a b):=rsX
theorem ad8(a b:BR)(h:fD a b):Con Tryz.prog 87 [.d tR a,.d tR b] [.d tR (ai (ae a/ae b))]:=by
 refine aR nD (aqo _ _ ⟨0,?_⟩)
 unfold afl
 rw[dT h]
 simp only[ak]
 rfl
def Ih:aO:=spN false true [tR,tR] (fun x=>decide (okR x.1∧okR x.2.1)) (fun x=>[RV.d tR (hid (ai (ae x.1+ae x.2.1)))])
theorem D9:SpK 75 Ih:=spX fun x h=>by simp only[ak];exact abh x.1 x.2.1 (au0 h)
def C0:aO:=spN false true [tR,tR] (fun x=>decide (okR x.1∧okR x.2.1)) (fun x=>[RV.d tR (hid (ai (ae x.1-ae x.2.1)))])
theorem xT:SpK 112 C0:=spX fun x h=>by simp only[ak];exact abn x.1 x.2.1 (au0 h)
def GM:aO:=spN false true [tR,tR] (fun x=>decide (okR x.1∧okR x.2.1)) (fun x=>[RV.d tR (hid (ai (ae x.1*ae x.2.1)))])
theorem Ez:SpK 77 GM:=spX fun x h=>by simp only[ak];exact aaR x.1 x.2.1 (au0 h)
def GW:aO:=spN false true [tR,tR] (fun x=>decide (fD x.1 x.2.1)) (fun x=>[RV.d tR (hid (ai (ae x.1/ae x.2.1)))])
theorem DR:SpK 87 GW:=spX fun x h=>by simp only[ak];exact ad8 x.1 x.2.1 (au0 h)
def ahG:Env:=(75,Ih)::(112,C0)::(77,GM)::(87,GW)::zn
theorem Qp:EnvAll Tryz.prog ahG:=⟨D9,xT,Ez,DR,nD⟩
def anm:Ctx:=CX ahG []
def afY(a b:BV)(_k:KT):Option (List RV):=match decide (okR a.1∧okR b.1)with|true=>(match decide (okR a.2∧okR b.2)with|true=>(match decide (okR (hid (ai (ae a.1*ae b.1)))∧okR (hid (ai (ae a.2*ae b.2))))with|true=>some [RV.d tR (hid (ai (ae (hid (ai (ae a.1*ae b.1)))+ae (hid (ai (ae a.2*ae b.2))))))]|false=>none)|false=>none)|false=>none
theorem aqt(a b:BV):RS anm 72 [.d tV a,.d tV b] (afY a b):=rsX
theorem ab4(a b:BV)(h:ok (Rat×Rat) 5000 a∧ok (Rat×Rat) 5000 b):Con Tryz.prog 72 [.d tV a,.d tV b] [.d tR (ai (cg (dec a) (dec b)))]:=by
 refine aR Qp (aqt _ _ ⟨0,?_⟩)
 obtain⟨ha,hb⟩:=h
 obtain⟨a,rfl,ba⟩:=aU ha
 obtain⟨b,rfl,bb⟩:=aU hb
 unfold afY
 simp only[ak,am,aI,aJ,aG,az,aX,au4,au6,Nat.reduceAdd,Nat.reduceLeDiff]
 try rfl
def P8:aO:=spN false true [tV,tV] (fun x=>decide (ok (Rat×Rat) 5000 x.1∧ok (Rat×Rat) 5000 x.2.1)) (fun x=>[RV.d tR (hid (ai (cg (dec x.1) (dec x.2.1))))])
theorem SX:SpK 72 P8:=spX fun x h=>by simp only[ak];exact ab4 x.1 x.2.1 (au0 h)
def jR:aO:=spN false true [tR,tR] (fun x=>decide (okR x.1∧okR x.2.1)) (fun x=>[RV.d tR (hid (ai (ae x.1+ae x.2.1)))])
theorem gV:SpK 127 jR:=spX fun x h=>by simp only[ak];exact F8 x.1 x.2.1 (au0 h)
def jS:aO:=spN false true [tR,tR] (fun x=>decide (okR x.1∧okR x.2.1)) (fun x=>[RV.d tR (hid (ai (ae x.1-ae x.2.1)))])
theorem gQ:SpK 161 jS:=spX fun x h=>by simp only[ak];exact Zk x.1 x.2.1 (au0 h)
def iL:aO:=spN false true [tR,tR] (fun x=>decide (okR x.1∧okR x.2.1)) (fun x=>[RV.d tR (hid (ai (ae x.1*ae x.2.1)))])
theorem ga:SpK 132 iL:=spX fun x h=>by simp only[ak];exact Yc x.1 x.2.1 (au0 h)
def Dg:aO:=spN false true [tR,tR] (fun x=>decide (fD x.1 x.2.1)) (fun x=>[RV.d tR (hid (ai (ae x.1/ae x.2.1)))])
theorem zE:SpK 174 Dg:=spX fun x h=>by simp only[ak];exact Xb x.1 x.2.1 (au0 h)
def gv:aO:=spN true true [tR] (fun x=>decide (okR x.1)) (fun x=>[RV.d ax8 (aV (ae x.1) 0)])
theorem fc:SpK 78 gv:=spX fun x h=>WP x.1 (au0 h)
def lY:aO:=spN true true [tR,tR] (fun x=>decide (okR x.1∧okR x.2.1)) (fun x=>[RV.d ax8 (aV (ae x.1) (ae x.2.1))])
theorem iS:SpK 107 lY:=spX fun x h=>SZ x.1 x.2.1 (au0 h)
def iN:aO:=spN false true [ax8] (fun x=>decide (bg x.1)) (fun x=>[RV.d tR (hid (ai (x.1:Rat)))])
theorem gi:SpK 50 iN:=spX fun x h=>by simp only[ak];exact YV x.1 (au0 h)
def Fw:Env:=[(127,jR),(161,jS),(132,iL),(174,Dg),(78,gv),(107,lY),(50,iN)]
theorem qT:EnvAll Tryz.prog Fw:=⟨gV,gQ,ga,zE,fc,iS,gi,trivial⟩
def asE:Ctx:=CX Fw []
def afJ(a b:BR)(_k:KT):Option (List RV):=match decide (okR a∧okR b)with|true=>some [RV.d tR (hid (ai (ae a+ae b)))]|false=>none
theorem ang(a b:BR):RS asE 60 [.d tR a,.d tR b] (afJ a b):=rsX
theorem acW(a b:BR)(h:okR a∧okR b):Con Tryz.prog 60 [.d tR a,.d tR b] [.d tR (ai (ae a+ae b))]:=by
 refine aR qT (ang _ _ ⟨0,?_⟩)
 unfold afJ
 rw[dT h,ak]
def apD:Ctx:=CX Fw []
def agp(a b:BR)(_k:KT):Option (List RV):=match decide (okR a∧okR b)with|true=>some [RV.d tR (hid (ai (ae a-ae b)))]|false=>none
theorem ans(a b:BR):RS apD 144 [.d tR a,.d tR b] (agp a b):=rsX
theorem aay(a b:BR)(h:okR a∧okR b):Con Tryz.prog 144 [.d tR a,.d tR b] [.d tR (ai (ae a-ae b))]:=by
 refine aR qT (ans _ _ ⟨0,?_⟩)
 unfold agp
 rw[dT h,ak]
def aoB:Ctx:=CX Fw []
def afK(a b:BR)(_k:KT):Option (List RV):=match decide (okR a∧okR b)with|true=>some [RV.d tR (hid (ai (ae a*ae b)))]|false=>none
theorem aqz(a b:BR):RS aoB 61 [.d tR a,.d tR b] (afK a b):=rsX
theorem aak(a b:BR)(h:okR a∧okR b):Con Tryz.prog 61 [.d tR a,.d tR b] [.d tR (ai (ae a*ae b))]:=by
 refine aR qT (aqz _ _ ⟨0,?_⟩)
 unfold afK
 rw[dT h,ak]
def IH:aO:=spN false true [tR,tR] (fun x=>decide (okR x.1∧okR x.2.1)) (fun x=>[RV.d tR (hid (ai (ae x.1+ae x.2.1)))])
theorem Fd:SpK 60 IH:=spX fun x h=>by simp only[ak];exact acW x.1 x.2.1 (au0 h)
def GB:aO:=spN false true [tR,tR] (fun x=>decide (okR x.1∧okR x.2.1)) (fun x=>[RV.d tR (hid (ai (ae x.1-ae x.2.1)))])
theorem Eo:SpK 144 GB:=spX fun x h=>by simp only[ak];exact aay x.1 x.2.1 (au0 h)
def Id:aO:=spN false true [tR,tR] (fun x=>decide (okR x.1∧okR x.2.1)) (fun x=>[RV.d tR (hid (ai (ae x.1*ae x.2.1)))])
theorem FH:SpK 61 Id:=spX fun x h=>by simp only[ak];exact aak x.1 x.2.1 (au0 h)
def ahC:Env:=(60,IH)::(144,GB)::(61,Id)::Fw
theorem RK:EnvAll Tryz.prog ahC:=⟨Fd,Eo,FH,qT⟩
def atj:Ctx:=CX ahC []
def agl(a b:BV)(_k:KT):Option (List RV):=match decide (okR a.1∧okR b.1)with|true=>(match decide (okR a.2∧okR b.2)with|true=>(match decide (okR (hid (ai (ae a.1*ae b.1)))∧okR (hid (ai (ae a.2*ae b.2))))with|true=>some [RV.d tR (hid (ai (ae (hid (ai (ae a.1*ae b.1)))+ae (hid (ai (ae a.2*ae b.2))))))]|false=>none)|false=>none)|false=>none
theorem aph(a b:BV):RS atj 58 [.d tV a,.d tV b] (agl a b):=rsX
theorem Z4(a b:BV)(h:ok (Rat×Rat) 5000 a∧ok (Rat×Rat) 5000 b):Con Tryz.prog 58 [.d tV a,.d tV b] [.d tR (ai (cg (dec a) (dec b)))]:=by
 refine aR RK (aph _ _ ⟨0,?_⟩)
 obtain⟨ha,hb⟩:=h
 obtain⟨a,rfl,ba⟩:=aU ha
 obtain⟨b,rfl,bb⟩:=aU hb
 unfold agl
 simp only[ak,am,aI,aJ,aG,az,aX,au4,au6,Nat.reduceAdd,Nat.reduceLeDiff]
 try rfl
def PJ:aO:=spN false true [tV,tV] (fun x=>decide (ok (Rat×Rat) 5000 x.1∧ok (Rat×Rat) 5000 x.2.1)) (fun x=>[RV.d tR (hid (ai (cg (dec x.1) (dec x.2.1))))])
theorem Wm:SpK 58 PJ:=spX fun x h=>by simp only[ak];exact Z4 x.1 x.2.1 (au0 h)
abbrev Rt:=Rat×Rat×Rat
def fy(a b m:Rat):Int:=RE.addS (aV a 0) (aV b 0*aV m 0) (aV (a*a) (b*b*m))
def CQ(A B C D M N:Rat):Int:=bif decide (M<0)||decide (N<0)then 0
 else RE.addS (fy A B M) (fy C D M*aV N 0) (fy (A*A+B*B*M-N*(C*C+D*D*M)) (2*(A*B-N*(C*D))) M)
def bI(x y:Rt):Int:=CQ (x.1-y.1) x.2.1 (-y.2.1) 0 x.2.2 y.2.2
theorem vp(a b:Rat):aV (a-b) 0=aV a b:=by
 rcases(by grind:a<b∨a=b∨b<a)with h|h|h
 ·rw[dh h,dh (by grind)]
 ·rw[h,dN,show b-b=0 by grind,dN]
 ·rw[c9 h,c9 (by grind)]
namespace RE
def rq(m:Rat):RE:=wS (of m)
theorem Ec(m:Rat):0≤rq m:=m7 _
theorem kz{m:Rat}(h:0≤m):rq m*rq m=of m:=Cr (mj.2 h)
theorem abF{x:RE}(h:0≤x):sg (wS x)=sg x:=by
 have h1:=m7 x
 have h2:=Cr h
 rcases gF h1 with h'|h'
 ·rw[dR h',←h2,dR (mul_pos h' h')]
 ·rw[h',mul_zero]at h2
  rw[h',h2]
theorem OV{m:Rat}(h:0≤m):sg (rq m)=aV m 0:=by
 unfold rq
 rw[abF (mj.2 h),sg_of]
def v2(a b m:Rat):RE:=of a+of b*rq m
def vR(x:Rt):RE:=v2 x.1 x.2.1 x.2.2
theorem sq2(a b s:RE):a*a-b*s*(b*s)=a*a-b*b*(s*s):=by
 induction a using auZ
 induction b using auZ
 induction s using auZ
 exact snd fun n=>by
  simp only[RL.add,RL.mul,RL.neg]
  grind
theorem sq4(A B C D s t:RE):(A+B*s)*(A+B*s)-(C+D*s)*t*((C+D*s)*t)=A*A+B*B*(s*s)-t*t*(C*C+D*D*(s*s))+2*(A*B-t*t*(C*D))*s:=by
 induction A using auZ
 induction B using auZ
 induction C using auZ
 induction D using auZ
 induction s using auZ
 induction t using auZ
 exact snd fun n=>by
  simp only[RL.add,RL.mul,RL.neg,RL.const]
  grind
theorem arv(A B C D s t:RE):A+B*s+(C+D*s)*t=A+B*s+C*t+D*(s*t):=by
 induction A using auZ
 induction B using auZ
 induction C using auZ
 induction D using auZ
 induction s using auZ
 induction t using auZ
 exact snd fun n=>by
  simp only[RL.add,RL.mul]
  grind
theorem amb(a b c d s t:RE):a-c+b*s+(-d)*t+0*(s*t)=a+b*s-(c+d*t):=by
 induction a using auZ
 induction b using auZ
 induction c using auZ
 induction d using auZ
 induction s using auZ
 induction t using auZ
 exact snd fun n=>by
  simp only[RL.add,RL.mul,RL.neg,RL.const]
  grind
theorem sgn2_re{a b m:Rat}(h:0≤m):fy a b m=sg (v2 a b m):=by
 unfold v2
 rw[IQ,sq2,kz h,dU,sg_of,sg_of,OV h,←of_mul,←of_mul,←of_mul,←of_sub,sg_of,vp]
 rfl
theorem ain:of 2=2:=rfl
def vQ(A B C D M N:Rat):RE:=of A+of B*rq M+of C*rq N+of D*(rq M*rq N)
theorem sgnQ_re{A B C D M N:Rat}(hM:0≤M)(hN:0≤N):CQ A B C D M N=sg (vQ A B C D M N):=by
 unfold CQ vQ
 rw[au3 (by grind),au3 (by grind),←arv,IQ,sq4,kz hM,kz hN,dU,OV hN,sgn2_re hM,sgn2_re hM,sgn2_re hM]
 unfold v2
 simp only[of_sub,of_add,of_mul,ain]
 rfl
theorem cmpT_re{x y:Rt}(hx:0≤x.2.2)(hy:0≤y.2.2):bI x y=sg (vR x-vR y):=by
 unfold bI vR v2
 rw[sgnQ_re hx hy,←amb,←of_sub,←of_neg]
 rfl
end RE
theorem Cf{s t:Int}(hs: -1≤s∧s≤1)(ht: -1≤t∧t≤1): -1≤s*t∧s*t≤1:=by
 have h1:s= -1∨s=0∨s=1:=by omega
 have h2:t= -1∨t=0∨t=1:=by omega
 rcases h1 with rfl|rfl|rfl<;>rcases h2 with rfl|rfl|rfl<;>decide
theorem KA{s t d:Int}(hs: -1≤s∧s≤1)(ht: -1≤t∧t≤1)(hd: -1≤d∧d≤1): -1≤RE.addS s t d∧RE.addS s t d≤1:=by
 unfold RE.addS
 cases(t==0||s==t)
 ·cases s==0
  ·exact Cf hs hd
  ·exact ht
 ·exact hs
theorem jO(a b m:Rat): -1≤fy a b m∧fy a b m≤1:=KA (n6 _ _) (Cf (n6 _ _) (n6 _ _)) (n6 _ _)
theorem ZR(A B C D M N:Rat): -1≤CQ A B C D M N∧CQ A B C D M N≤1:=by
 unfold CQ
 cases(decide (M<0)||decide (N<0))
 ·exact KA (jO _ _ _) (Cf (jO _ _ _) (n6 _ _)) (jO _ _ _)
 ·exact⟨by show(-1:Int)≤0;decide,by show(0:Int)≤1;decide⟩
theorem uT(x y:Rt): -1≤bI x y∧bI x y≤1:=ZR _ _ _ _ _ _
theorem ll(a b:Int):(ct a b==0)=decide (a=b):=by
 rcases awV a b with h|h|h
 ·rw[cX h,au3 (by omega)];rfl
 ·rw[h,dG,au1 rfl];rfl
 ·rw[cS h,au3 (by omega)];rfl
def Pi:Env:=[(134,uP),(192,AL),(212,qC),(188,uG),(214,CA)]
theorem Eh:EnvAll Tryz.prog Pi:=⟨t5,z8,n5,so,Am,trivial⟩
def aal:NT:=[((256,23),{keep:=[1,2,4,5],hl:=6})]
def Bv:Ctx:=CX Pi aal
def jH(x:Bool×List Int)(b4_0:Bool)(b4_1:List Int):Cfg:=⟨256,[.blk 0],[(1,.box 0 0),(2,.box 1 0),(4,.box 4 0),(5,.box 5 0)],[.box 33 [SB x.1,.d ax7 x.2],.box 33 [SB false,.nil],.gone,.row 183 ax9 ([1]),.box 33 [SB b4_0,.d ax7 b4_1],.box 33 [SB ((aj (2:Int)).1),.d ax7 ((aj (2:Int)).2)]],0,[]⟩
def BE(x:Bool×List Int)(k:KT):Option (List RV):=match x.1 with|true=>some [RV.d y2Y (false,[]),RV.d ax8 7]|false=>(match(x.2.length:Int)==0 with|true=>some [RV.d y2Y (false,[]),RV.d ax8 0]|false=>(match decide ((0:Int)≤i64.wrap (Int.tdiv (i64.wrap ((x.2.length:Int)+1)) 2)∧(i64.wrap (Int.tdiv (i64.wrap ((x.2.length:Int)+1)) 2))*((4:Nat):Int)≤140737488355328∧i64.wrap (Int.tdiv (i64.wrap ((x.2.length:Int)+1)) 2)≤140737488355328)with|true=>(match decide (((List.replicate (i64.wrap (Int.tdiv (i64.wrap ((x.2.length:Int)+1)) 2)).toNat (0:Int)).length+([1]).length)*4≤140737488355328∧(List.replicate (i64.wrap (Int.tdiv (i64.wrap ((x.2.length:Int)+1)) 2)).toNat (0:Int)).length+([1]).length≤140737488355328)with|true=>(match decide (bg (2:Int))with|true=>k 23 (jH x false ((List.replicate (i64.wrap (Int.tdiv (i64.wrap ((x.2.length:Int)+1)) 2)).toNat (0:Int))++([1])))|false=>none)|false=>none)|false=>none))
theorem I5(x:Bool×List Int):RS Bv 256 [.d y2Y x] (BE x):=rsX
def pO(x:Bool×List Int)(b4_0:Bool)(b4_1:List Int)(k:KT):Option (List RV):=match decide (eT x (b4_0,b4_1))with|true=>cQ (match decide (okI (b4_0,b4_1)∧okI (aj (ag x/ag (b4_0,b4_1))))with|true=>cQ (match decide (eT (aj (ag (b4_0,b4_1)+ag (aj (ag x/ag (b4_0,b4_1))))) (aj (2:Int)))with|true=>dup (.b .l .l) (match decide (okI (aj (ag (aj (ag (b4_0,b4_1)+ag (aj (ag x/ag (b4_0,b4_1)))))/ag (aj (2:Int))))∧okI (b4_0,b4_1))with|true=>(match decide ((ct (ag (aj (ag (aj (ag (b4_0,b4_1)+ag (aj (ag x/ag (b4_0,b4_1)))))/ag (aj (2:Int))))) (ag (b4_0,b4_1)))≥0)with|true=>some [RV.d y2Y (b4_0,b4_1),RV.d ax8 0]|false=>k 23 (jH x ((aj (ag (aj (ag (b4_0,b4_1)+ag (aj (ag x/ag (b4_0,b4_1)))))/ag (aj (2:Int)))).1) ((aj (ag (aj (ag (b4_0,b4_1)+ag (aj (ag x/ag (b4_0,b4_1)))))/ag (aj (2:Int)))).2)))|false=>none)|false=>none) (dup (.b (.b .l .l) (.b .l .l)) (match decide (eT (aj (ag (b4_0,b4_1)+ag (aj (ag x/ag (b4_0,b4_1))))) (aj (2:Int)))with|true=>(match decide (okI (aj (ag (aj (ag (b4_0,b4_1)+ag (aj (ag x/ag (b4_0,b4_1)))))/ag (aj (2:Int))))∧okI (b4_0,b4_1))with|true=>(match decide ((ct (ag (aj (ag (aj (ag (b4_0,b4_1)+ag (aj (ag x/ag (b4_0,b4_1)))))/ag (aj (2:Int))))) (ag (b4_0,b4_1)))≥0)with|true=>some [RV.d y2Y (b4_0,b4_1),RV.d ax8 0]|false=>k 23 (jH x ((aj (ag (aj (ag (b4_0,b4_1)+ag (aj (ag x/ag (b4_0,b4_1)))))/ag (aj (2:Int)))).1) ((aj (ag (aj (ag (b4_0,b4_1)+ag (aj (ag x/ag (b4_0,b4_1)))))/ag (aj (2:Int)))).2)))|false=>none)|false=>none))|false=>none) (dup (.b .l .l) (cQ (match decide (okI (b4_0,b4_1)∧okI (aj (ag x/ag (b4_0,b4_1))))with|true=>dup (.b .l .l) (match decide (eT (aj (ag (b4_0,b4_1)+ag (aj (ag x/ag (b4_0,b4_1))))) (aj (2:Int)))with|true=>(match decide (okI (aj (ag (aj (ag (b4_0,b4_1)+ag (aj (ag x/ag (b4_0,b4_1)))))/ag (aj (2:Int))))∧okI (b4_0,b4_1))with|true=>(match decide ((ct (ag (aj (ag (aj (ag (b4_0,b4_1)+ag (aj (ag x/ag (b4_0,b4_1)))))/ag (aj (2:Int))))) (ag (b4_0,b4_1)))≥0)with|true=>some [RV.d y2Y (b4_0,b4_1),RV.d ax8 0]|false=>k 23 (jH x ((aj (ag (aj (ag (b4_0,b4_1)+ag (aj (ag x/ag (b4_0,b4_1)))))/ag (aj (2:Int)))).1) ((aj (ag (aj (ag (b4_0,b4_1)+ag (aj (ag x/ag (b4_0,b4_1)))))/ag (aj (2:Int)))).2)))|false=>none)|false=>none)|false=>none) (match decide (okI (b4_0,b4_1)∧okI (aj (ag x/ag (b4_0,b4_1))))with|true=>(match decide (eT (aj (ag (b4_0,b4_1)+ag (aj (ag x/ag (b4_0,b4_1))))) (aj (2:Int)))with|true=>(match decide (okI (aj (ag (aj (ag (b4_0,b4_1)+ag (aj (ag x/ag (b4_0,b4_1)))))/ag (aj (2:Int))))∧okI (b4_0,b4_1))with|true=>(match decide ((ct (ag (aj (ag (aj (ag (b4_0,b4_1)+ag (aj (ag x/ag (b4_0,b4_1)))))/ag (aj (2:Int))))) (ag (b4_0,b4_1)))≥0)with|true=>some [RV.d y2Y (b4_0,b4_1),RV.d ax8 0]|false=>k 23 (jH x ((aj (ag (aj (ag (b4_0,b4_1)+ag (aj (ag x/ag (b4_0,b4_1)))))/ag (aj (2:Int)))).1) ((aj (ag (aj (ag (b4_0,b4_1)+ag (aj (ag x/ag (b4_0,b4_1)))))/ag (aj (2:Int)))).2)))|false=>none)|false=>none)|false=>none)))|false=>none
theorem wz(x:Bool×List Int)(b4_0:Bool)(b4_1:List Int):RN Bv 23 (jH x b4_0 b4_1) (pO x b4_0 b4_1):=rnX
theorem Mj(x:BI)(hx:okI x)(h0:0<ag x):∀(m:Nat) (X:Int),X.toNat=m→0<X→bR (ag x)≤X→szI X≤900000→Bv.Runs 23 (jH x (aj X).1 (aj X).2) [.d y2Y (aj (bR (ag x))),.d ax8 0]:=by
 intro m
 induction m using Nat.strongRecOn with
 |ind m ih=>
  intro X hm hX hs hsz
  obtain⟨g0,g1,g2⟩:=fw (avH h0)
  have hq0:0≤ag x/X:=av9 (by omega) (by omega)
  have hq1:ag x/X≤ag x:=awS _ (by omega)
  have oX:okI (aj X):=bk (by omega)
  have sq:szI (ag x/X)≤1000000:=avm (dq (by omega)) (gZ hx)
  have p1:eT x (aj X):=⟨hx,oX,by rw[dec_enc];exact hX⟩
  have ssum:szI (X+ag x/X)≤1000000:=by
   have b1:=me hsz
   have b2:=me (gZ hx)
   have e:pw 1000000=pw 900000*pw 100000:=by rw[←ff]
   have p9:(1000:Int)≤pw 100000:=by
    have:pw 100000=pw 99999*1000000000:=cr 99999
    have:=ck 99999
    omega
   have p8:=ck 900000
   have h8:pw 900000*1000≤pw 900000*pw 100000:=avg p9 (by omega)
   rcases avA X 2 with hX1|hX1
   ·-- X=1:then the number is less than 4
    have:X=1:=by omega
    subst this
    have:bR (ag x)≤1:=hs
    have h4:ag x<4:=by
     have:=qu (a:=bR (ag x)+1) (b:=2) (by omega) (by omega)
     omega
    refine eL ?_ ?_<;>(rw[e,Int.ediv_one];omega)
   ·have hq2:ag x/X≤ag x/2:=by
     have:=Int.ediv_mul_le (ag x) (show X≠0 by omega)
     have h2:ag x/X*2≤ag x/X*X:=avg hX1 hq0
     omega
    refine eL ?_ ?_<;>(rw[e]at b2 ⊢;omega)
  have o1:okI (aj X)∧okI (aj (ag x/X)):=⟨oX,bk sq⟩
  have p2:eT (aj (X+ag x/X)) (aj 2):=⟨bk ssum,by decide,by rw[dec_enc];decide⟩
  have hn:=QL hX g0 g1
  have o2:okI (aj ((X+ag x/X)/2))∧okI (aj X):=⟨bk (avm (dq (by omega)) ssum),oX⟩
  by_cases hc:X≤(X+ag x/X)/2
  ·have hXs:=xi hX hs g1 g2 g0 hc
   refine wz _ _ _ ⟨0,?_⟩
   unfold pO
   simp only[au,aP]
   have e:∀z:Int,((aj z).1,(aj z).2)=aj z:=fun z=>rfl
   simp only[e,dec_enc,au1 p1,au1 o1,au1 p2,au1 o2]
   have hg:decide (ct ((X+ag x/X)/2) X≥0)=true:=by
    rcases Int.lt_or_eq_of_le hc with h|h
    ·rw[cS h];rfl
    ·rw[←h,dG];rfl
   rw[hg,hXs]
  ·obtain⟨n,hN⟩:=ih ((X+ag x/X)/2).toNat (by omega) ((X+ag x/X)/2) rfl (by
    rcases avA 0 (bR (ag x))with h|h
    ·omega
    ·exfalso
     have:bR (ag x)=0:=by omega
     rw[this]at g2
     omega) hn (avm (dq (by omega)) hsz)
   refine wz _ _ _ ⟨n,?_⟩
   unfold pO
   simp only[au,aP]
   have e:∀z:Int,((aj z).1,(aj z).2)=aj z:=fun z=>rfl
   simp only[e,dec_enc,au1 p1,au1 o1,au1 p2,au1 o2]
   rw[cX (by omega)]
   exact hN
theorem Y7(x:Bool×List Int)(h:okI x):Con Tryz.prog 256 [.d y2Y x] [.d y2Y (fe x),.d ax8 (rn x)]:=by
 refine aR Eh (show Bv.Res _ _ _ from ?_)
 obtain⟨x0,x1,x2⟩:=cJ h
 have hl:=h.2.2
 cases hn:x.1
 ·by_cases hz:x.2=[]
  ·refine I5 _ ⟨0,?_⟩
   unfold BE fe rn
   have:ag x=0:=by unfold ag;rw[hn,hz];rfl
   rw[hn,hz,this]
   rfl
  ·have hp:0<val x.2:=em h.1 hz
   have hd:ag x=val x.2:=by unfold ag;rw[hn];rfl
   have hlen:=avO.2 hz
   have hk:i64.wrap (Int.tdiv (i64.wrap ((x.2.length:Int)+1)) 2)=(((x.2.length+1)/2:Nat):Int):=by
    rw[cD (by omega),fN (by omega),bi (by omega) (by omega)]
    omega
   have hv:val (List.replicate ((x.2.length+1)/2) 0++[1])=pw ((x.2.length+1)/2):=by
    rw[dt,fV,axr]
    simp[val]
   have hL:a9 (List.replicate ((x.2.length+1)/2) 0++[1]):=by
    refine⟨fun y hy=>?_,by simp;omega⟩
    rcases avI.1 hy with hy|hy
    ·have:=List.eq_of_mem_replicate hy;omega
    ·simp at hy;omega
   have hpos:=ck ((x.2.length+1)/2)
   obtain⟨n,hN⟩:=Mj x h (by omega) _ (pw ((x.2.length+1)/2)) rfl hpos (by
     obtain⟨g0,g1,g2⟩:=fw (show 0≤ag x by omega)
     have hlt:=cj h.1.1
     have hm:=db (show x.2.length≤(x.2.length+1)/2+(x.2.length+1)/2 by omega)
     rw[ff]at hm
     have:=sq_lt (a:=bR (ag x)) (b:=pw ((x.2.length+1)/2)) (by omega) (by omega)
     omega) (eL (k:=900000) (by have:=ck 900000;omega) (by
      have:=db (show(x.2.length+1)/2+1≤900000 by omega)
      rw[cr]at this
      omega))
   refine I5 _ ⟨n,?_⟩
   unfold BE fe rn
   simp only[hk]
   rw[hn,show((x.2.length:Int)==0)=false by simp;omega]
   simp only[awA]
   rw[au1 (show(0:Int)≤(((x.2.length+1)/2:Nat):Int)∧(((x.2.length+1)/2:Nat):Int)*((4:Nat):Int)≤140737488355328∧(((x.2.length+1)/2:Nat):Int)≤140737488355328 by omega)]
   rw[au1 (show((List.replicate ((x.2.length+1)/2) (0:Int)).length+([1]:List Nat).length)*4≤140737488355328∧(List.replicate ((x.2.length+1)/2) (0:Int)).length+([1]:List Nat).length≤140737488355328 by simp;omega)]
   rw[au1 (show bg 2 by decide)]
   have he:aj (pw ((x.2.length+1)/2))=(false,List.replicate ((x.2.length+1)/2) 0++[1]):=by
    have ho:okI ((false,List.replicate ((x.2.length+1)/2) 0++[1]):BI):=⟨⟨hL.1,by simp⟩,(fun e=>by cases e),(by simp;omega)⟩
    rw[gu ho]
    congr 1
    exact hv.symm
   rw[he]at hN
   exact hN
 ·refine I5 _ ⟨0,?_⟩
  unfold BE fe rn
  rw[hn]
  rfl
def aha:Env:=(186,oz)::Pi
theorem Q2:EnvAll Tryz.prog aha:=⟨kS,Eh⟩
def aiR:Ctx:=CX aha []
def OP(x y:Bool×List Int)(_k:KT):Option (List RV):=match x.1==y.1 with|true=>(match decide (oZ x.2 y.2)with|true=>some [RV.d .bool ((ct (val x.2) (val y.2))==0)]|false=>none)|false=>some [RV.d .bool false]
theorem amy(x y:Bool×List Int):RS aiR 102 [.d y2Y x,.d y2Y y] (OP x y):=rsX
theorem Q9(x y:Bool×List Int)(h:okI x∧okI y):Con Tryz.prog 102 [.d y2Y x,.d y2Y y] [.d .bool (decide (ag x=ag y))]:=by
 refine aR Q2 (amy _ _ ⟨0,?_⟩)
 obtain⟨hx,hy⟩:=h
 obtain⟨x0,x1,x2⟩:=cJ hx
 obtain⟨y0,y1,y2⟩:=cJ hy
 unfold OP
 rw[dT (show oZ x.2 y.2 from⟨⟨hx.1,by have:=hx.2.2;omega⟩,⟨hy.1,by have:=hy.2.2;omega⟩⟩)]
 rw[bU,bU]
 unfold cp
 cases ex:x.1<;>cases ey:y.1<;>simp only[cond_true,cond_false]
 ·show some [RV.d .bool (ct (val x.2) (val y.2)==0)]=_
  rw[ll]
 ·have:=y1 ey
  rw[au3 (show ¬val x.2= -val y.2 by omega)]
  rfl
 ·have:=x1 ex
  rw[au3 (show ¬ -val x.2=val y.2 by omega)]
  rfl
 ·show some [RV.d .bool (ct (val x.2) (val y.2)==0)]=_
  rw[ll,show decide (val x.2=val y.2)=decide (-val x.2= -val y.2) from awF.2 (by omega)]
def eZ(q:Rat):Bool:=decide (bR q.num*bR q.num=q.num)&&decide (bR (q.den:Int)*bR (q.den:Int)=(q.den:Int))
def rtQ(q:Rat):Rat:=mkRat (bR q.num) (bR (q.den:Int)).toNat
theorem CD(z:Int):0≤bR z:=by unfold bR;omega
theorem AV{s:Int}(h:0≤s):bR (s*s)=s:=ac7 h (Int.le_refl _) (by grind)
theorem nw{z:Int}(h:z<0):bR z=0:=by
 unfold bR
 rw[show z.toNat=0 by omega]
 rfl
theorem as7{s t:Nat}(ht:0<t)(hg:(s*s).Coprime (t*t)):(mkRat (s:Int) t).num=(s:Int)∧(mkRat (s:Int) t).den=t:=by
 have hc:s.Coprime t:=Nat.Coprime.coprime_dvd_left (Nat.dvd_mul_left s s) (Nat.Coprime.coprime_dvd_right (Nat.dvd_mul_left t t) hg)
 rw[axR,axS,avn (by omega),avn (by omega),awp,show t.gcd s=1 from hc.symm]
 simp
theorem Il{q:Rat}(h:eZ q=true):(rtQ q).num=bR q.num∧((rtQ q).den:Int)=bR (q.den:Int)∧rtQ q*rtQ q=q∧0≤rtQ q:=by
 unfold eZ at h
 simp only[au8,awJ]at h
 obtain⟨h1,h2⟩:=h
 have hd:=q.den_pos
 have hr:=q.reduced
 obtain⟨s,hs⟩:=awj (CD q.num)
 obtain⟨t,ht⟩:=awj (CD (q.den:Int))
 unfold rtQ
 rw[hs,ht,awA]
 rw[hs]at h1
 rw[ht]at h2
 have e1:q.num.natAbs=s*s:=by rw[←h1,←aws,awp]
 have e2:q.den=t*t:=by rw[←aws]at h2;omega
 have hg:(s*s).Coprime (t*t):=by rw[←e1,←e2];exact hr
 have tp:0<t:=Nat.pos_of_ne_zero fun e=>by rw[e2,e]at hd;simp at hd
 obtain⟨g1,g2⟩:=as7 tp hg
 refine⟨g1,by rw[g2],?_,?_⟩
 ·rw[Rat.mkRat_mul_mkRat,←e2,h1,Rat.mkRat_self]
 ·exact Rat.num_nonneg.1 (by rw[g1];omega)
theorem abD(r:Rat):eZ (r*r)=true:=by
 have hd:=r.den_pos
 have hc:(r.den*r.den).gcd (r.num*r.num).natAbs=1:=by
  rw[axG]
  have:=r.reduced.symm
  exact Nat.Coprime.mul_left (Nat.Coprime.mul_right this this) (Nat.Coprime.mul_right this this)
 have e1:(r*r).num=r.num*r.num:=by
  rw[Rat.mul_def',axR,hc,avn (axw (by omega) (by omega))]
  simp
 have e2:((r*r).den:Int)=(r.den:Int)*(r.den:Int):=by
  rw[Rat.mul_def',axS,hc,avn (axw (by omega) (by omega)),Nat.div_one,aws]
 unfold eZ
 rw[e1,e2,AV (s:=(r.den:Int)) (by omega)]
 rcases avA r.num 0 with h|h
 ·rw[show r.num*r.num= -r.num* -r.num by grind,AV (by omega)]
  simp
 ·rw[AV h]
  simp
def rtB(q:Rat):BR:=bif eZ q then ai (rtQ q)else((false,[]),(false,[]))
theorem Bl{x:BI}(h:okI x):fe x=aj (bR (ag x)):=by
 obtain⟨x0,x1,x2⟩:=cJ h
 unfold fe
 cases hx:x.1
 ·rfl
 ·have:=x1 hx
  have hd:ag x= -val x.2:=by rw[bU,hx];rfl
  rw[hd,nw (by omega)]
  rfl
theorem Lq{z:Int}(h:szI z≤1000000):szI (bR z)≤500000:=by
 have h1:=me h
 have e:pw 1000000=pw 500000*pw 500000:=by rw[←ff]
 have hp:=ck 500000
 rcases avA z 0 with h0|h0
 ·rw[nw h0];exact eL (by omega) hp
 ·obtain⟨g0,g1,g2⟩:=fw h0
  have:=sq_lt (a:=bR z) (b:=pw 500000) (by omega) (by omega)
  exact eL (by omega) this
theorem YQ(a b:Int):(aj a==aj b)=decide (a=b):=by
 by_cases h:a=b
 ·rw[h,au1 rfl];simp
 ·rw[au3 h,axg]
  intro e
  exact h (by rw[←dec_enc a,e,dec_enc])
theorem KD{x y:BI}(hx:okI x)(hy:okI y):(x==y)=decide (ag x=ag y):=by
 rw[gu hx,gu hy,YQ,dec_enc,dec_enc]
def Ig:aO:=spN true true [tI,tI] (fun x=>decide (okI x.1∧okI x.2.1)) (fun x=>[RV.d ax8 (ct (ag x.1) (ag x.2.1))])
theorem Gq:SpK 183 Ig:=spX fun x h=>JA x.1 x.2.1 (au0 h)
def IS:aO:=spN false true [tI,tI] (fun x=>decide (okI x.1∧okI x.2.1)) (fun x=>[RV.d tI (hid (aj (ag x.1*ag x.2.1)))])
theorem Fq:SpK 184 IS:=spX fun x h=>by simp only[ak];exact Lj x.1 x.2.1 (au0 h)
def IO:aO:=spN false true [tI] (fun x=>decide (okI x.1)) (fun x=>[RV.d tI (hid (fe x.1)),RV.d ax8 (rn x.1)])
theorem Gt:SpK 288 IO:=spX fun x h=>by simp only[ak];exact adX x.1 (au0 h)
def Pf:Env:=[(183,Ig),(184,IS),(288,IO)]
theorem EF:EnvAll Tryz.prog Pf:=⟨Gq,Fq,Gt,trivial⟩
def ap4:Ctx:=CX Pf []
def aeO(x:BI)(_k:KT):Option (List RV):=match decide (okI x)with|true=>(match(rn x)==0 with|true=>(match decide (okI (hid (fe x))∧okI (hid (fe x)))with|true=>(match decide (okI (hid (aj (ag (hid (fe x))*ag (hid (fe x)))))∧okI x)with|true=>some [RV.d tI (hid (fe x)),RV.d .bool ((ct (ag (hid (aj (ag (hid (fe x))*ag (hid (fe x)))))) (ag x))==0)]|false=>none)|false=>none)|false=>some [RV.d tI (hid (fe x)),RV.d .bool false])|false=>none
theorem aop(x:BI):RS ap4 265 [.d tI x] (aeO x):=rsX
theorem Z1(x:BI)(h:okI x):Con Tryz.prog 265 [.d tI x] [.d tI (aj (bR (ag x))),.d .bool (decide (bR (ag x)*bR (ag x)=ag x))]:=by
 refine aR EF (aop _ ⟨0,?_⟩)
 have hs:=gZ h
 have hz:szI (bR (ag x))≤500000:=Lq hs
 have o1:okI (aj (bR (ag x))):=bk (by omega)
 have o2:okI (aj (bR (ag x)*bR (ag x))):=bk (by have:=cU hz hz;omega)
 have o3:okI (aj (bR (ag x)*bR (ag x)))∧okI x:=⟨o2,h⟩
 have o4:okI (aj (bR (ag x)))∧okI (aj (bR (ag x))):=⟨o1,o1⟩
 have hng:x.1=true→decide (bR (ag x)*bR (ag x)=ag x)=false:=fun e=>au3 (by
  have:=(cJ h).2.1 e
  have hd:ag x= -val x.2:=by rw[bU,e];rfl
  rw[nw (by omega)]
  omega)
 unfold aeO
 simp only[ak,Bl h,dec_enc,dT h,dT o4,dT o3,ll]
 unfold rn
 cases e:x.1
 ·rfl
 ·rw[hng e];rfl
def Th:aO:=spN false true [tI] (fun x=>decide (okI x.1)) (fun x=>[RV.d tI (hid (aj (bR (ag x.1)))),RV.d .bool (decide (bR (ag x.1)*bR (ag x.1)=ag x.1))])
theorem Y8:SpK 265 Th:=spX fun x h=>by simp only[ak];exact Z1 x.1 (au0 h)
def ag7:Env:=(265,Th)::Pf
theorem Ry:EnvAll Tryz.prog ag7:=⟨Y8,EF⟩
def an1:Ctx:=CX ag7 []
def ahq(a:BR)(_k:KT):Option (List RV):=match decide (okI a.1)with|true=>(match decide (bR (ag a.1)*bR (ag a.1)=ag a.1)with|true=>(match decide (okI a.2)with|true=>(match decide (bR (ag a.2)*bR (ag a.2)=ag a.2)with|true=>some [RV.d tR (hid (aj (bR (ag a.1))),hid (aj (bR (ag a.2)))),RV.d .bool true]|false=>some [RV.d tR ((false,[]),(false,[])),RV.d .bool false])|false=>none)|false=>some [RV.d tR ((false,[]),(false,[])),RV.d .bool false])|false=>none
theorem aro(a:BR):RS an1 223 [.d tR a] (ahq a):=rsX
theorem ZY(a:BR)(h:okR a):Con Tryz.prog 223 [.d tR a] [.d tR (rtB (ae a)),.d .bool (eZ (ae a))]:=by
 refine aR Ry (aro _ ⟨0,?_⟩)
 obtain⟨a1,a2⟩:=cV h
 unfold ahq rtB eZ
 rw[dT h.1,dT h.2.1,a1,a2]
 simp only[ak]
 cases e1:decide (bR (ag a.1)*bR (ag a.1)=ag a.1)
 ·rfl
 ·cases e2:decide (bR (ag a.2)*bR (ag a.2)=ag a.2)
  ·rfl
  ·obtain⟨r1,r2,_⟩:=Il (q:=ae a) (by unfold eZ;rw[a1,a2,e1,e2];rfl)
   simp only[au6,cond_true]
   unfold ai
   rw[r1,r2,a1,a2]
   try rfl
def Jk:aO:=spN false true [tI,tI] (fun x=>decide (okI x.1∧okI x.2.1)) (fun x=>[RV.d tI (hid (aj (ag x.1*ag x.2.1)))])
theorem Nw:SpK 193 Jk:=spX fun x h=>by simp only[ak];exact EZ x.1 x.2.1 (au0 h)
def Lf:aO:=spN false true [tI] (fun x=>decide (okI x.1)) (fun x=>[RV.d tI (hid (fe x.1)),RV.d ax8 (rn x.1)])
theorem OL:SpK 256 Lf:=spX fun x h=>by simp only[ak];exact Y7 x.1 (au0 h)
def Bw:aO:=spN true true [tI,tI] (fun x=>decide (okI x.1∧okI x.2.1)) (fun x=>[RV.d .bool (decide (ag x.1=ag x.2.1))])
theorem zP:SpK 102 Bw:=spX fun x h=>Q9 x.1 x.2.1 (au0 h)
def HA:Env:=[(193,Jk),(256,Lf),(102,Bw)]
theorem zg:EnvAll Tryz.prog HA:=⟨Nw,OL,zP,trivial⟩
def akh:Ctx:=CX HA []
def QI(x:BI)(_k:KT):Option (List RV):=match decide (okI x)with|true=>(match(rn x)==0 with|true=>(match decide (okI (hid (fe x))∧okI (hid (fe x)))with|true=>(match decide (okI (hid (aj (ag (hid (fe x))*ag (hid (fe x)))))∧okI x)with|true=>some [RV.d tI (hid (fe x)),RV.d .bool (decide (ag (hid (aj (ag (hid (fe x))*ag (hid (fe x)))))=ag x))]|false=>none)|false=>none)|false=>some [RV.d tI (hid (fe x)),RV.d .bool false])|false=>none
theorem aml(x:BI):RS akh 213 [.d tI x] (QI x):=rsX
theorem O4(x:BI)(h:okI x):Con Tryz.prog 213 [.d tI x] [.d tI (aj (bR (ag x))),.d .bool (decide (bR (ag x)*bR (ag x)=ag x))]:=by
 refine aR zg (aml _ ⟨0,?_⟩)
 have hs:=gZ h
 have hz:szI (bR (ag x))≤500000:=Lq hs
 have o1:okI (aj (bR (ag x))):=bk (by omega)
 have o2:okI (aj (bR (ag x)*bR (ag x))):=bk (by have:=cU hz hz;omega)
 have o3:okI (aj (bR (ag x)*bR (ag x)))∧okI x:=⟨o2,h⟩
 have o4:okI (aj (bR (ag x)))∧okI (aj (bR (ag x))):=⟨o1,o1⟩
 have hng:x.1=true→decide (bR (ag x)*bR (ag x)=ag x)=false:=fun e=>au3 (by
  have:=(cJ h).2.1 e
  have hd:ag x= -val x.2:=by rw[bU,e];rfl
  rw[nw (by omega)]
  omega)
 unfold QI
 simp only[ak,Bl h,dec_enc,dT h,dT o4,dT o3]
 unfold rn
 cases e:x.1
 ·rfl
 ·rw[hng e];rfl
def JL:aO:=spN false true [tI] (fun x=>decide (okI x.1)) (fun x=>[RV.d tI (hid (aj (bR (ag x.1)))),RV.d .bool (decide (bR (ag x.1)*bR (ag x.1)=ag x.1))])
theorem Oh:SpK 213 JL:=spX fun x h=>by simp only[ak];exact O4 x.1 (au0 h)
def Yi:Env:=(213,JL)::HA
theorem Nt:EnvAll Tryz.prog Yi:=⟨Oh,zg⟩
def aiD:Ctx:=CX Yi []
def Sn(a:BR)(_k:KT):Option (List RV):=match decide (okI a.1)with|true=>(match decide (okI a.2)with|true=>(match !(decide (bR (ag a.1)*bR (ag a.1)=ag a.1))with|true=>some [RV.d tR ((false,[]),(false,[])),RV.d .bool false]|false=>(match !(decide (bR (ag a.2)*bR (ag a.2)=ag a.2))with|true=>some [RV.d tR ((false,[]),(false,[])),RV.d .bool false]|false=>some [RV.d tR (hid (aj (bR (ag a.1))),hid (aj (bR (ag a.2)))),RV.d .bool true]))|false=>none)|false=>none
theorem akG(a:BR):RS aiD 131 [.d tR a] (Sn a):=rsX
theorem XE(a:BR)(h:okR a):Con Tryz.prog 131 [.d tR a] [.d tR (rtB (ae a)),.d .bool (eZ (ae a))]:=by
 refine aR Nt (akG _ ⟨0,?_⟩)
 obtain⟨a1,a2⟩:=cV h
 unfold Sn rtB eZ
 rw[dT h.1,dT h.2.1,a1,a2]
 simp only[ak]
 cases e1:decide (bR (ag a.1)*bR (ag a.1)=ag a.1)
 ·rfl
 ·cases e2:decide (bR (ag a.2)*bR (ag a.2)=ag a.2)
  ·rfl
  ·obtain⟨r1,r2,_⟩:=Il (q:=ae a) (by unfold eZ;rw[a1,a2,e1,e2];rfl)
   simp only[au6,cond_true]
   unfold ai
   rw[r1,r2,a1,a2]
   try rfl
def ST:aO:=spN false true [tI,tI] (fun x=>decide (eT x.1 x.2.1)) (fun x=>[RV.d tI (hid (aj (ag x.1/ag x.2.1))),RV.d tI (hid (aj (ag x.1%ag x.2.1))),RV.d ax8 0])
theorem S9:SpK 287 ST:=spX fun x h=>by simp only[ak];exact Kr x.1 x.2.1 (au0 h)
def afo:Env:=[(287,ST)]
theorem VY:EnvAll Tryz.prog afo:=⟨S9,trivial⟩
def apd:Ctx:=CX afo []
def afm(a:BR)(_k:KT):Option (List RV):=match decide (eT a.1 a.2)with|true=>some [RV.d tI (hid (aj (ag a.1/ag a.2)))]|false=>none
theorem asR(a:BR):RS apd 296 [.d tR a] (afm a):=rsX
theorem adz(a:BR)(h:okR a):Con Tryz.prog 296 [.d tR a] [.d tI (aj (ae a).floor)]:=by
 refine aR VY (asR _ ⟨0,?_⟩)
 obtain⟨a1,a2⟩:=cV h
 unfold afm
 rw[dT (show eT a.1 a.2 from⟨h.1,h.2.1,h.2.2.1⟩),Rat.floor_def,a1,a2]
 simp only[ak]
def ae4:Env:=[(185,oC)]
theorem Wp:EnvAll Tryz.prog ae4:=⟨ky,trivial⟩
def aaz:NT:=[((100,6),{keep:=[1,3],hl:=1})]
def Bf:Ctx:=CX ae4 aaz
def uY(x:BI)(s3:Int):Cfg:=⟨100,[.blk 0,.seq 23],[(1,.box 0 0),(3,SI s3)],[.box 33 [SB x.1,.d ax7 x.2]],0,[]⟩
def ak5(x:BI)(k:KT):Option (List RV):=k 6 (uY x 0)
theorem amN(x:BI):RS Bf 100 [.d tI x] (ak5 x):=rsX
def sB(x:BI)(s3:Int)(k:KT):Option (List RV):=match decide (s3<(x.2.length:Int))with|true=>(match bG x.2 s3 with|some x1=>(match decide (x1≥1000000000)with|true=>some [RV.d .bool false]|false=>k 6 (uY x (i64.wrap (s3+1))))|none=>none)|false=>(match decide (a9 x.2)with|true=>(match((ah (val x.2).toNat).length:Int)==(x.2.length:Int)with|true=>(match !x.1 with|true=>some [RV.d .bool true]|false=>some [RV.d .bool (decide ((x.2.length:Int)>0))])|false=>some [RV.d .bool false])|false=>none)
theorem ze(x:BI)(s3:Int):RN Bf 6 (uY x s3) (sB x s3):=rnX
theorem NW(x:BI)(h:okI x):∀(j i:Nat),i+j=x.2.length→Bf.Runs 6 (uY x (i:Int)) [.d .bool true]:=by
 obtain⟨x0,x1,x2⟩:=cJ h
 have hlim:=fx h
 have hl:=h.2.2
 intro j
 induction j with
 |zero=>
  intro i hi
  refine ze _ _ ⟨0,?_⟩
  unfold sB
  have hc:ah (val x.2).toNat=x.2:=(nt h.1).symm
  rw[cC (by omega),dT hlim,hc,beq_self_eq_true]
  dsimp only
  cases e:x.1
  ·rfl
  ·have:=x1 e
   have:x.2≠[]:=fun e=>by rw[x2]at e;omega
   have:=avO.2 this
   rw[au1 (by omega)]
   rfl
 |succ j ih=>
  intro i hi
  have hil:i<x.2.length:=by omega
  obtain⟨q,hq⟩:=ih (i+1) (by omega)
  refine ze _ _ ⟨q,?_⟩
  unfold sB
  have hb:=(hlim.1 x.2[i] (avF hil)).2
  rw[bS hil,aD,au2 hil,cD (by omega)]
  dsimp only
  rw[au3 (by omega)]
  exact hq
theorem O7(x:BI)(h:okI x):Con Tryz.prog 100 [.d tI x] [.d .bool true]:=by
 refine aR Wp (show Bf.Res _ _ _ from ?_)
 obtain⟨q,hq⟩:=NW x h x.2.length 0 (by omega)
 exact amN _ ⟨q,hq⟩
def L7:aO:=spN true true [tI] (fun x=>decide (okI x.1)) (fun _=>[RV.d .bool true])
theorem OJ:SpK 100 L7:=spX fun x h=>O7 x.1 (au0 h)
def Lz:aO:=spN true true [tI] (fun x=>decide (okI x.1)) (fun x=>[RV.d ax8 (ct (ag x.1) 0)])
theorem NS:SpK 101 Lz:=spX fun x h=>D1 x.1 (au0 h)
def Jm:aO:=spN false true [tI,tI] (fun x=>decide (okI x.1∧okI x.2.1)) (fun x=>[RV.d tI (hid (aj ((Int.gcd (ag x.1) (ag x.2.1):Nat):Int)))])
theorem MQ:SpK 103 Jm:=spX fun x h=>by simp only[ak];exact FP x.1 x.2.1 (au0 h)
def K0:aO:=spN false true [] (fun _=>true) (fun _=>[RV.d tI (hid (aj 1))])
theorem Nv:SpK 104 K0:=spX fun _ _=>by simp only[ak];exact D3
def agi:Env:=[(102,Bw),(100,L7),(101,Lz),(103,Jm),(104,K0)]
theorem Sw:EnvAll Tryz.prog agi:=⟨zP,OJ,NS,MQ,Nv,trivial⟩
def akd:Ctx:=CX agi []
def YO(a:BR)(_k:KT):Option (List RV):=match decide (okI a.1)with|true=>(match decide (okI a.2)with|true=>(match decide (okI a.2)with|true=>(match(ct (ag a.2) 0) !=1 with|true=>some [RV.d .bool false]|false=>(match decide (okI a.1∧okI a.2)with|true=>(match decide (okI (hid (aj ((Int.gcd (ag a.1) (ag a.2):Nat):Int)))∧okI (hid (aj 1)))with|true=>some [RV.d .bool (decide (ag (hid (aj ((Int.gcd (ag a.1) (ag a.2):Nat):Int)))=ag (hid (aj 1))))]|false=>none)|false=>none))|false=>none)|false=>none)|false=>none
theorem ak7(a:BR):RS akd 31 [.d tR a] (YO a):=rsX
theorem WS(a:BR)(h:okR a):Con Tryz.prog 31 [.d tR a] [.d .bool true]:=by
 refine aR Sw (ak7 _ ⟨0,?_⟩)
 obtain⟨h1,h2,h3,h4,_⟩:=h
 have o1:okI (aj ((Int.gcd (ag a.1) (ag a.2):Nat):Int)):=by rw[h4];exact nY
 unfold YO
 simp only[ak]
 rw[dT h1,dT h2,dT (show okI a.1∧okI a.2 from⟨h1,h2⟩),cS h3,dT (show okI (aj ((Int.gcd (ag a.1) (ag a.2):Nat):Int))∧okI (aj 1) from⟨o1,nY⟩),dec_enc,dec_enc,h4]
 rfl
def mkR(a b c:Rat):Rt:=bif eZ c then(a+b*rtQ c,0,0)else bif decide (b=0)then(a,0,0)else(a,b,c)
def coR(a b c:Rat):Rt:=bif decide (b=0)then(a,0,0)else(a,b,c)
class Nn (c:Rat):Prop where le:0≤c
def adJ(x:Rt):Prop:=(x.2.1=0∧x.2.2=0)∨(x.2.1≠0∧0<x.2.2∧eZ x.2.2=false)
instance (x:Rt):Decidable (adJ x):=by unfold adJ;infer_instance
class Rdd (x:Rt):Prop where
 rd:adJ x
def okT(k:Nat)(x:BO3):Prop:=ok Rt k x∧adJ (dec x)
instance (k:Nat) (x:BO3):Decidable (okT k x):=by unfold okT;infer_instance
theorem fK{k:Nat}{x:BO3}(h:okT k x):∃v:Rt,x=enc v∧Bd v k∧Rdd v:=by
 obtain⟨h1,h2⟩:=h
 obtain⟨v,rfl,bv⟩:=aU h1
 rw[am]at h2
 exact⟨v,rfl,bv,⟨h2⟩⟩
theorem bh{x:Rt}{j k:Nat}[h:Bd x j][r:Rdd x](hj:j≤k)(hk:k≤480000):decide (okT k (enc x))=true:=au1 ⟨au0 (okd hj hk),by rw[am];exact r.rd⟩
theorem Rdd.nn{x:Rt}(h:Rdd x):0≤x.2.2:=by
 rcases h.rd with h|h<;>grind
instance auH {x:Rt} [h:Rdd x]:Nn x.2.2:=⟨h.nn⟩
theorem rA:eZ 0=true:=by decide+kernel
theorem Mc{c:Rat}(h:0≤c)(hc:eZ c=false):0<c:=by
 rcases(by grind:c=0∨0<c)with h|h
 ·rw[h,rA]at hc;cases hc
 ·exact h
instance Gj {a b c:Rat} [h:Nn c]:Rdd (mkR a b c):=by
 refine⟨?_⟩
 unfold mkR
 cases hc:eZ c
 ·simp only[cond_false]
  by_cases hb:b=0
  ·rw[au1 hb];exact .inl ⟨rfl,rfl⟩
  ·rw[au3 hb];exact .inr ⟨hb,Mc h.le hc,hc⟩
 ·exact .inl ⟨rfl,rfl⟩
instance ak3 {a:Rat}:Rdd (a,0,0):=⟨.inl ⟨rfl,rfl⟩⟩
namespace RE
theorem YZ{c:Rat}(h:eZ c=true):rq c=of (rtQ c):=by
 obtain⟨_,_,e,h0⟩:=Il h
 refine ahe _ _ (Ec c) (mj.2 h0) ?_
 rw[kz (by rw[←e];exact avC h0 h0),←of_mul,e]
theorem aef:rq 0=0:=by
 have:=kz (Rat.le_refl:(0:Rat)≤0)
 rcases gF (Ec 0)with h|h
 ·have:=mul_pos h h
  rw[kz Rat.le_refl]at this
  exact absurd this (lt_irrefl _)
 ·exact h
theorem dZ(a c:Rat):v2 a 0 c=of a:=by
 unfold v2
 rw[AW,zero_mul,add_zero]
theorem vR_mk(a b c:Rat):vR (mkR a b c)=v2 a b c:=by
 unfold mkR vR
 cases hc:eZ c
 ·simp only[cond_false]
  by_cases hb:b=0
  ·rw[au1 hb];subst hb;show v2 a 0 0=_;rw[dZ,dZ]
  ·rw[au3 hb];rfl
 ·show v2 (a+b*rtQ c) 0 0=_
  rw[dZ]
  unfold v2
  rw[YZ hc,of_add,of_mul]
theorem vR_co(a b c:Rat):vR (coR a b c)=v2 a b c:=by
 unfold coR vR
 by_cases hb:b=0
 ·rw[au1 hb];subst hb;show v2 a 0 0=_;rw[dZ,dZ]
 ·rw[au3 hb];rfl
end RE
theorem aey{z:Int}(h:0≤z):bR z≤z:=by
 obtain⟨g0,g1,g2⟩:=fw h
 rcases avA (bR z) 1 with h'|h'
 ·omega
 ·have:bR z*1≤bR z*bR z:=avg h' g0
  omega
theorem Ft(z:Int):szI (bR z)≤szI z:=by
 have h0:=CD z
 rcases avA z 0 with h|h
 ·rw[nw h];exact dq (by omega)
 ·have:=aey h
  exact dq (by omega)
instance auR {c:Rat} {k:Nat} [h:Bd c k]:Bd (rtQ c) k:=by
 have hd:=c.den_pos
 have h1:0<bR (c.den:Int):=by
  obtain⟨g0,g1,g2⟩:=fw (show(0:Int)≤(c.den:Int) by omega)
  rcases avA 0 (bR (c.den:Int))with h|h
  ·exact h
  ·rw[show bR (c.den:Int)=0 by omega]at g2;omega
 refine⟨tX (by omega) (avm (Ft _) h.le.1) ?_⟩
 rw[Int.toNat_of_nonneg (by omega)]
 exact avm (Ft _) h.le.2
instance aud {a b c:Rat} {i j k:Nat} [ha:Bd a i] [hb:Bd b j] [hc:Bd c k]:Bd (mkR a b c) (i+(j+k)+1):=by
 have z:bdR (i+(j+k)+1) 0:=bW n4.le (by omega)
 refine⟨?_⟩
 unfold mkR
 cases eZ c
 ·simp only[cond_false]
  cases decide (b=0)
  ·exact⟨bW ha.le (by omega),bW hb.le (by omega),bW hc.le (by omega)⟩
  ·exact⟨bW ha.le (by omega),z,z⟩
 ·exact⟨(inferInstance:Bd (a+b*rtQ c) (i+(j+k)+1)).le,z,z⟩
instance aus {a b c:Rat} {i j k:Nat} [ha:Bd a i] [hb:Bd b j] [hc:Bd c k]:Bd (coR a b c) (mx i (mx j k)):=by
 have h1:=Ct i (mx j k)
 have h2:=A9 i (mx j k)
 have h3:=Ct j k
 have h4:=A9 j k
 have h5:=pG ha.le
 have z:bdR (mx i (mx j k)) 0:=bW n4.le (by omega)
 refine⟨?_⟩
 unfold coR
 cases decide (b=0)
 ·exact⟨bW ha.le (by omega),bW hb.le (by omega),bW hc.le (by omega)⟩
 ·exact⟨bW ha.le (by omega),z,z⟩
class Ns (c:Rat):Prop where ns:c=0∨(0<c∧eZ c=false)
theorem Ns.nn{c:Rat}(h:Ns c):0≤c:=by rcases h.ns with h|h<;>grind
instance auM {c:Rat} [h:Ns c]:Nn c:=⟨h.nn⟩
theorem aiu{a b c:Rat}{i j k:Nat}[ha:Bd a i][hb:Bd b j][hc:Bd c k][hn:Ns c]:Bd (mkR a b c) (mx (i+j+2) k):=by
 have h1:=Ct (i+j+2) k
 have h2:=A9 (i+j+2) k
 have z:bdR (mx (i+j+2) k) 0:=bW n4.le (by omega)
 refine⟨?_⟩
 unfold mkR
 rcases hn.ns with h|h
 ·subst h
  rw[rA]
  have e:rtQ 0=0:=by decide+kernel
  exact⟨by show bdR _ (a+b*rtQ 0);rw[e];exact bW (BZ ha.le (AO hb.le n4.le)) (by omega),z,z⟩
 ·rw[h.2]
  simp only[cond_false]
  cases decide (b=0)
  ·exact⟨bW ha.le (by omega),bW hb.le (by omega),bW hc.le (by omega)⟩
  ·exact⟨bW ha.le (by omega),z,z⟩
def sgR(x:Rt):Int:=fy x.1 x.2.1 x.2.2
def noR(x:Rt):Rat:=x.1*x.1-x.2.1*x.2.1*x.2.2
theorem G4{x:Rt}(h:0≤x.2.2):sgR x=RE.sg (RE.vR x):=RE.sgn2_re h
def ki(a b c:Rat):Rt:=bif decide (b=0)then(a,0,0)else bif decide (c=0)then(a,0,0)else(a,b,c)
instance aub {x:Rt} {k:Nat} [h:Bd x k]:Bd (noR x) (5*k+1):=(inferInstance:Bd (x.1*x.1-x.2.1*x.2.1*x.2.2) (k+k+(k+k+k)+1)).mono (by omega)
theorem YS{c:Rat}(h:eZ c=true):rtB c=ai (rtQ c):=by unfold rtB;rw[h];rfl
theorem ak4{x:Rt}(h:Rdd x)(hb:x.2.1≠0):noR x≠0:=by
 intro e
 rcases h.rd with h|⟨_,h1,h2⟩
 ·exact hb h.1
 ·unfold noR at e
  have:x.2.2=x.1/x.2.1*(x.1/x.2.1):=by grind
  rw[this,abD]at h2
  cases h2
theorem arI{x:Rt}(h:Rdd x):sgR x=bif aV x.2.1 0==0 then aV x.1 0 else bif aV x.1 0==aV x.2.1 0 then aV x.1 0 else bif aV x.1 0==0 then aV x.2.1 0 else aV x.1 0*aV (noR x) 0:=by
 unfold sgR fy RE.addS
 rcases h.rd with⟨h1,h2⟩|⟨h0,h1,h2⟩
 ·rw[h1,dN]
  simp
 ·have hb:(aV x.2.1 0==0)=false:=by rw[aM,au3 h0]
  rw[c9 h1,aw6,hb]
  unfold noR
  rw[vp]
  rfl
def QN:aO:=spN false true [tR] (fun x=>decide (okR x.1)) (fun x=>[RV.d tR (hid (rtB (ae x.1))),RV.d .bool (eZ (ae x.1))])
theorem P1:SpK 223 QN:=spX fun x h=>by simp only[ak];exact ZY x.1 (au0 h)
def VO:Env:=[(76,jw),(149,lE),(147,kr),(148,ju),(83,jr),(223,QN)]
theorem FK:EnvAll Tryz.prog VO:=⟨fM,io,gD,fO,fL,P1,trivial⟩
def aqU:Ctx:=CX VO []
def afL(_k:KT):Option (List RV):=match decide (bg (0:Int))with|true=>some [RV.d tR (hid (ai ((0:Int):Rat)))]|false=>none
theorem aqw:RS aqU 157 [] (afL):=rsX
theorem aeb:Con Tryz.prog 157 [] [.d tR (ai 0)]:=by
 refine aR FK (aqw ⟨0,?_⟩)
 unfold afL
 rw[dT (show bg 0 by decide)]
 simp only[ak]
 rfl
def T6:aO:=spN false true [] (fun _=>true) (fun _=>[RV.d tR (hid (ai 0))])
theorem Uo:SpK 157 T6:=spX fun _ _=>by simp only[ak];exact aeb
def LR:Env:=(157,T6)::VO
theorem vK:EnvAll Tryz.prog LR:=⟨Uo,FK⟩
def ao8:Ctx:=CX LR []
def afn(a:BR)(_k:KT):Option (List RV):=some [RV.d tO (a,(hid (ai 0),hid (ai 0)))]
theorem aoj(a:BR):RS ao8 71 [.d tR a] (afn a):=rsX
theorem adC(a:BR)(h:okR a):Con Tryz.prog 71 [.d tR a] [.d tO (enc ((ae a,0,0):Rt))]:=by
 refine aR vK (aoj _ ⟨0,?_⟩)
 have ha:=h
 obtain⟨a,rfl,ba⟩:=eH ha
 unfold afn
 simp only[ak,aT,aG,az]
 try rfl
def am6:Ctx:=CX LR []
def ae6(a b c:BR)(_k:KT):Option (List RV):=match decide (okR b)with|true=>(match(aV (ae b) 0)==0 with|true=>some [RV.d tO (a,(b,hid (ai 0)))]|false=>some [RV.d tO (a,(b,c))])|false=>none
theorem asx(a b c:BR):RS am6 224 [.d tR a,.d tR b,.d tR c] (ae6 a b c):=rsX
theorem adr(a b c:BR)(h:okR a∧okR b∧okR c):Con Tryz.prog 224 [.d tR a,.d tR b,.d tR c] [.d tO (enc (coR (ae a) (ae b) (ae c)))]:=by
 refine aR vK (asx _ _ _ ⟨0,?_⟩)
 obtain⟨ha,hb,hc⟩:=h
 obtain⟨a,rfl,ba⟩:=eH ha
 obtain⟨b,rfl,bb⟩:=eH hb
 obtain⟨c,rfl,bc⟩:=eH hc
 unfold ae6
 simp only[ak,az,aX,Nat.reduceLeDiff,aM]
 unfold coR
 by_cases e:b=0
 ·subst e;rw[au1 rfl];rfl
 ·rw[au3 e];rfl
def tY:aO:=spN false true [tR] (fun x=>decide (okR x.1)) (fun x=>[RV.d tO (hid (enc ((ae x.1,0,0):Rt)))])
theorem nq:SpK 71 tY:=spX fun x h=>by simp only[ak];exact adC x.1 (au0 h)
def Ta:aO:=spN false true [tR,tR,tR] (fun x=>decide (okR x.1∧okR x.2.1∧okR x.2.2.1)) (fun x=>[RV.d tO (hid (enc (coR (ae x.1) (ae x.2.1) (ae x.2.2.1))))])
theorem Wh:SpK 224 Ta:=spX fun x h=>by simp only[ak];exact adr x.1 x.2.1 x.2.2.1 (au0 h)
def afA:Env:=(71,tY)::(224,Ta)::LR
theorem PG:EnvAll Tryz.prog afA:=⟨nq,Wh,vK⟩
def arc:Ctx:=CX afA []
def agF(a b c:BR)(_k:KT):Option (List RV):=match decide (okR c)with|true=>(match decide ((aV (ae c) 0)<0)with|true=>some [RV.d tO (((false,[]),(false,[])),(((false,[]),(false,[])),((false,[]),(false,[])))),RV.d ax8 7]|false=>(match decide (okR c)with|true=>(match eZ (ae c)with|true=>(match decide (okR b∧okR (hid (rtB (ae c))))with|true=>(match decide (okR a∧okR (hid (ai (ae b*ae (hid (rtB (ae c)))))))with|true=>(match decide (okR (hid (ai (ae a+ae (hid (ai (ae b*ae (hid (rtB (ae c))))))))))with|true=>some [RV.d tO (hid (enc ((ae (hid (ai (ae a+ae (hid (ai (ae b*ae (hid (rtB (ae c))))))))),0,0):Rt))),RV.d ax8 0]|false=>none)|false=>none)|false=>none)|false=>(match decide (okR a∧okR b∧okR c)with|true=>some [RV.d tO (hid (enc (coR (ae a) (ae b) (ae c)))),RV.d ax8 0]|false=>none))|false=>none))|false=>none
theorem aq3(a b c:BR):RS arc 158 [.d tR a,.d tR b,.d tR c] (agF a b c):=rsX
theorem abH(a b c:BR)(h:ok Rat 100000 a∧ok Rat 100000 b∧ok Rat 100000 c∧0≤ae c):Con Tryz.prog 158 [.d tR a,.d tR b,.d tR c] [.d tO (enc (mkR (ae a) (ae b) (ae c))),.d ax8 0]:=by
 refine aR PG (aq3 _ _ _ ⟨0,?_⟩)
 obtain⟨ha,hb,hc,hc_3⟩:=h
 obtain⟨a,rfl,ba⟩:=aU ha
 obtain⟨b,rfl,bb⟩:=aU hb
 obtain⟨c,rfl,bc⟩:=aU hc
 rw[aG,az]at hc_3
 unfold agF
 simp only[ak,aT,aG,az,aX,au4,au6,au5,Nat.reduceLeDiff,aN,au3 (show ¬c<0 by grind)]
 unfold mkR
 cases hq:eZ c
 ·have hz:c≠0:=fun e=>by rw[e,rA]at hq;cases hq
  simp only[cond_false]
  try rfl
 ·rw[YS hq]
  simp only[aT,aG,az,aX,Nat.reduceAdd,Nat.reduceLeDiff,cond_true]
  try rfl
def vf:aO:=spN false true [tR] (fun x=>decide (okR x.1)) (fun x=>[RV.d tR (hid (rtB (ae x.1))),RV.d .bool (eZ (ae x.1))])
theorem sV:SpK 131 vf:=spX fun x h=>by simp only[ak];exact XE x.1 (au0 h)
def Bn:aO:=spN true true [tR] (fun x=>decide (okR x.1)) (fun _=>[RV.d .bool true])
theorem yH:SpK 31 Bn:=spX fun x h=>WS x.1 (au0 h)
def GL:Env:=[(50,iN),(127,jR),(161,jS),(132,iL),(78,gv),(131,vf),(31,Bn)]
theorem yT:EnvAll Tryz.prog GL:=⟨gi,gV,gQ,ga,fc,sV,yH,trivial⟩
def amu:Ctx:=CX GL []
def Sx(_k:KT):Option (List RV):=match decide (bg (0:Int))with|true=>some [RV.d tR (hid (ai ((0:Int):Rat)))]|false=>none
theorem aj7:RS amu 145 [] (Sx):=rsX
theorem OU:Con Tryz.prog 145 [] [.d tR (ai 0)]:=by
 refine aR yT (aj7 ⟨0,?_⟩)
 unfold Sx
 rw[dT (show bg 0 by decide)]
 simp only[ak]
 rfl
def AY:aO:=spN false true [] (fun _=>true) (fun _=>[RV.d tR (hid (ai 0))])
theorem zk:SpK 145 AY:=spX fun _ _=>by simp only[ak];exact OU
def GC:Env:=(145,AY)::GL
theorem AB:EnvAll Tryz.prog GC:=⟨zk,yT⟩
def akj:Ctx:=CX GC []
def Zf(a:BR)(_k:KT):Option (List RV):=some [RV.d tO (a,(hid (ai 0),hid (ai 0)))]
theorem aks(a:BR):RS akj 57 [.d tR a] (Zf a):=rsX
theorem R6(a:BR)(h:okR a):Con Tryz.prog 57 [.d tR a] [.d tO (enc ((ae a,0,0):Rt))]:=by
 refine aR AB (aks _ ⟨0,?_⟩)
 have ha:=h
 obtain⟨a,rfl,ba⟩:=eH ha
 unfold Zf
 simp only[ak,aT,aG,az]
 try rfl
def uE:aO:=spN false true [tR] (fun x=>decide (okR x.1)) (fun x=>[RV.d tO (hid (enc ((ae x.1,0,0):Rt)))])
theorem uj:SpK 57 uE:=spX fun x h=>by simp only[ak];exact R6 x.1 (au0 h)
def CY:Env:=(57,uE)::GC
theorem tv:EnvAll Tryz.prog CY:=⟨uj,AB⟩
def ajr:Ctx:=CX CY []
def WZ(n:Int)(_k:KT):Option (List RV):=match decide (bg n)with|true=>(match decide (okR (hid (ai (n:Rat))))with|true=>some [RV.d tO (hid (enc ((ae (hid (ai (n:Rat))),0,0):Rt)))]|false=>none)|false=>none
theorem aih(n:Int):RS ajr 51 [SI n] (WZ n):=rsX
theorem TZ(n:Int)(h:bg n):Con Tryz.prog 51 [.d ax8 n] [.d tO (enc (((n:Rat),0,0):Rt))]:=by
 refine aR tv (aih _ ⟨0,?_⟩)
 have hn:=h
 have bn:=fa hn
 unfold WZ
 simp only[ak,aT,aG,az,aX,Nat.reduceLeDiff,dT hn]
 try rfl
def alR:Ctx:=CX CY []
def Yq(a b c:BR)(_k:KT):Option (List RV):=match decide (okR b)with|true=>(match(aV (ae b) 0)==0 with|true=>(match decide (okR a)with|true=>some [RV.d tO (hid (enc ((ae a,0,0):Rt)))]|false=>none)|false=>(match decide (okR c)with|true=>(match(aV (ae c) 0)==0 with|true=>(match decide (okR a)with|true=>some [RV.d tO (hid (enc ((ae a,0,0):Rt)))]|false=>none)|false=>some [RV.d tO (a,(b,c))])|false=>none))|false=>none
theorem akp(a b c:BR):RS alR 133 [.d tR a,.d tR b,.d tR c] (Yq a b c):=rsX
theorem Re(a b c:BR)(h:okR a∧okR b∧okR c):Con Tryz.prog 133 [.d tR a,.d tR b,.d tR c] [.d tO (enc (ki (ae a) (ae b) (ae c)))]:=by
 refine aR tv (akp _ _ _ ⟨0,?_⟩)
 obtain⟨ha,hb,hc⟩:=h
 obtain⟨a,rfl,ba⟩:=eH ha
 obtain⟨b,rfl,bb⟩:=eH hb
 obtain⟨c,rfl,bc⟩:=eH hc
 unfold Yq
 simp only[ak,aT,aG,az,aX,Nat.reduceLeDiff,aM]
 unfold ki
 by_cases e:b=0
 ·rw[au1 e];rfl
 ·rw[au3 e]
  by_cases e:c=0
  ·rw[au1 e];rfl
  ·rw[au3 e];rfl
def Dn:aO:=spN false true [tR,tR,tR] (fun x=>decide (okR x.1∧okR x.2.1∧okR x.2.2.1)) (fun x=>[RV.d tO (hid (enc (ki (ae x.1) (ae x.2.1) (ae x.2.2.1))))])
theorem zF:SpK 133 Dn:=spX fun x h=>by simp only[ak];exact Re x.1 x.2.1 x.2.2.1 (au0 h)
def Sf:Env:=(133,Dn)::CY
theorem M5:EnvAll Tryz.prog Sf:=⟨zF,tv⟩
def ams:Ctx:=CX Sf []
def Xx(a b c:BR)(_k:KT):Option (List RV):=match decide (okR c)with|true=>(match decide ((aV (ae c) 0)<0)with|true=>some [RV.d tO (((false,[]),(false,[])),(((false,[]),(false,[])),((false,[]),(false,[])))),RV.d ax8 7]|false=>(match decide (okR c)with|true=>(match eZ (ae c)with|true=>(match decide (okR b∧okR (hid (rtB (ae c))))with|true=>(match decide (okR a∧okR (hid (ai (ae b*ae (hid (rtB (ae c)))))))with|true=>(match decide (okR (hid (ai (ae a+ae (hid (ai (ae b*ae (hid (rtB (ae c))))))))))with|true=>some [RV.d tO (hid (enc ((ae (hid (ai (ae a+ae (hid (ai (ae b*ae (hid (rtB (ae c))))))))),0,0):Rt))),RV.d ax8 0]|false=>none)|false=>none)|false=>none)|false=>(match decide (okR a∧okR b∧okR c)with|true=>some [RV.d tO (hid (enc (ki (ae a) (ae b) (ae c)))),RV.d ax8 0]|false=>none))|false=>none))|false=>none
theorem ajv(a b c:BR):RS ams 49 [.d tR a,.d tR b,.d tR c] (Xx a b c):=rsX
theorem Yr(a b c:BR)(h:ok Rat 100000 a∧ok Rat 100000 b∧ok Rat 100000 c∧0≤ae c):Con Tryz.prog 49 [.d tR a,.d tR b,.d tR c] [.d tO (enc (mkR (ae a) (ae b) (ae c))),.d ax8 0]:=by
 refine aR M5 (ajv _ _ _ ⟨0,?_⟩)
 obtain⟨ha,hb,hc,hc_3⟩:=h
 obtain⟨a,rfl,ba⟩:=aU ha
 obtain⟨b,rfl,bb⟩:=aU hb
 obtain⟨c,rfl,bc⟩:=aU hc
 rw[aG,az]at hc_3
 unfold Xx
 simp only[ak,aT,aG,az,aX,au4,au6,au5,Nat.reduceLeDiff,aN,au3 (show ¬c<0 by grind)]
 unfold mkR
 cases hq:eZ c
 ·have hz:c≠0:=fun e=>by rw[e,rA]at hq;cases hq
  simp only[cond_false,ki,au3 hz]
  try rfl
 ·rw[YS hq]
  simp only[aT,aG,az,aX,Nat.reduceAdd,Nat.reduceLeDiff,cond_true]
  try rfl
abbrev Iv:=Int×Int
def prI(i:Iv):Prop:= -2305843009213693952≤i.1∧i.1≤i.2∧i.2≤2305843009213693952
instance (i:Iv):Decidable (prI i):=by unfold prI;infer_instance
def iv0:Iv:=(0,0)
theorem fo:prI iv0:=by decide
def lw(lo hi:Int):Iv×Bool:=bif decide (lo< -2305843009213693952)then(iv0,false)else bif decide (hi>2305843009213693952)then(iv0,false)else((lo,hi),true)
theorem B3{lo hi:Int}(h:lo≤hi):prI (lw lo hi).1:=by
 unfold lw
 by_cases h1:lo< -2305843009213693952
 ·rw[au1 h1];exact fo
 ·rw[au3 h1]
  by_cases h2:hi>2305843009213693952
  ·rw[au1 h2];exact fo
  ·rw[au3 h2];exact⟨by show _≤lo;omega,h,by show hi≤_;omega⟩
theorem Dl{lo hi:Int}(h:(lw lo hi).2=true):(lw lo hi).1=(lo,hi):=by
 unfold lw at h ⊢
 by_cases h1:lo< -2305843009213693952
 ·rw[au1 h1]at h;cases h
 ·rw[au3 h1]at h ⊢
  by_cases h2:hi>2305843009213693952
  ·rw[au1 h2]at h;cases h
  ·rw[au3 h2];rfl
def frF(q:Rat):Iv×Bool:=bif decide (bg (q*65536).floor)then bif decide (bg (-(-(q*65536)).floor))then lw (q*65536).floor (-(-(q*65536)).floor)else(iv0,false)else(iv0,false)
def dm(a b:Iv):Iv×Bool:=lw (a.1+b.1) (a.2+b.2)
def kn(a:Iv):Iv:=(-a.2,-a.1)
def scF(x y:Int):(Int×Int)×Bool:=
 bif decide (x.natAbs*y.natAbs≥1208925819614629174706176)then((0,0),false)else bif decide (x.natAbs*y.natAbs/65536>2305843009213693952)then((0,0),false)
 else bif decide (x<0)==decide (y<0)then((((x.natAbs*y.natAbs/65536:Nat):Int),(((x.natAbs*y.natAbs+65535)/65536:Nat):Int)),decide ((x.natAbs*y.natAbs+65535)/65536≤2305843009213693952))
 else((-(((x.natAbs*y.natAbs+65535)/65536:Nat):Int),-((x.natAbs*y.natAbs/65536:Nat):Int)),decide ((x.natAbs*y.natAbs+65535)/65536≤2305843009213693952))
theorem aiL{x y:Int}(h:(scF x y).2=true):(scF x y).1.1*65536≤x*y∧x*y≤(scF x y).1.2*65536∧ -2305843009213693952≤(scF x y).1.1∧(scF x y).1.2≤2305843009213693952:=by
 have ep:(((x.natAbs*y.natAbs:Nat)):Int)=(x.natAbs:Int)*(y.natAbs:Int):=aws _ _
 have hs:(decide (x<0)==decide (y<0))=true→x*y=(((x.natAbs*y.natAbs:Nat)):Int):=fun e=>by
  rw[ep]
  by_cases hx:x<0<;>by_cases hy:y<0
  ·rw[show(x.natAbs:Int)= -x by omega,show(y.natAbs:Int)= -y by omega];grind
  ·simp[hx,hy]at e
  ·simp[hx,hy]at e
  ·rw[show(x.natAbs:Int)=x by omega,show(y.natAbs:Int)=y by omega]
 have hd:(decide (x<0)==decide (y<0))=false→x*y= -(((x.natAbs*y.natAbs:Nat)):Int):=fun e=>by
  rw[ep]
  by_cases hx:x<0<;>by_cases hy:y<0
  ·simp[hx,hy]at e
  ·rw[show(x.natAbs:Int)= -x by omega,show(y.natAbs:Int)=y by omega];grind
  ·rw[show(x.natAbs:Int)=x by omega,show(y.natAbs:Int)= -y by omega];grind
  ·simp[hx,hy]at e
 unfold scF at h ⊢
 generalize x.natAbs*y.natAbs=p at*
 by_cases h1:p≥1208925819614629174706176
 ·rw[au1 h1]at h;cases h
 rw[au3 h1]at h ⊢
 by_cases h2:p/65536>2305843009213693952
 ·rw[au1 h2]at h;cases h
 rw[au3 h2]at h ⊢
 cases e:(decide (x<0)==decide (y<0))<;>rw[e]at h<;>have h3:=au0 h
 ·rw[hd e]
  show-(((p+65535)/65536:Nat):Int)*65536≤_∧_≤ -((p/65536:Nat):Int)*65536∧_≤ -(((p+65535)/65536:Nat):Int)∧ -((p/65536:Nat):Int)≤_
  omega
 ·rw[hs e]
  show((p/65536:Nat):Int)*65536≤_∧_≤(((p+65535)/65536:Nat):Int)*65536∧_≤((p/65536:Nat):Int)∧(((p+65535)/65536:Nat):Int)≤_
  omega
def gC(s:Iv×Bool)(x y:Int):Iv×Bool:=bif s.2&&(scF x y).2 then((if(scF x y).1.1<s.1.1 then(scF x y).1.1 else s.1.1,if(scF x y).1.2>s.1.2 then(scF x y).1.2 else s.1.2),true)else(iv0,false)
def cN(a b:Iv):Iv×Bool:=gC (gC (gC (gC ((2305843009213693952,-2305843009213693952),true) a.1 b.1) a.1 b.2) a.2 b.1) a.2 b.2
theorem jP{s:Iv×Bool}{x y:Int}(h:(gC s x y).2=true):s.2=true∧(gC s x y).1.1≤s.1.1∧s.1.2≤(gC s x y).1.2∧(gC s x y).1.1*65536≤x*y∧x*y≤(gC s x y).1.2*65536∧((-2305843009213693952≤s.1.1∧s.1.2≤2305843009213693952)→ -2305843009213693952≤(gC s x y).1.1∧(gC s x y).1.2≤2305843009213693952):=by
 unfold gC at h ⊢
 cases e:(s.2&&(scF x y).2)<;>rw[e]at h
 ·cases h
 ·obtain⟨e1,e2⟩:=avL.1 e
  obtain⟨g1,g2,g3,g4⟩:=aiL e2
  refine⟨e1,?_⟩
  simp only[cond_true]
  split<;>split<;>refine⟨by omega,by omega,by omega,by omega,fun h=>by omega⟩
theorem rE(a b:Iv):prI (cN a b).1:=by
 cases h:(cN a b).2
 ·unfold cN gC at h ⊢
  revert h
  cases((_:Iv×Bool).2&&(scF a.2 b.2).2)
  ·intro _;exact fo
  ·intro h;cases h
 ·unfold cN at h ⊢
  obtain⟨h3,a3,b3,c3,d3,e3⟩:=jP h
  obtain⟨h2,a2,b2,c2,d2,e2⟩:=jP h3
  obtain⟨h1,a1,b1,c1,d1,e1⟩:=jP h2
  obtain⟨h0,a0,b0,c0,d0,e0⟩:=jP h1
  have k:=e3 (e2 (e1 (e0 (by decide))))
  exact⟨k.1,by omega,k.2⟩
theorem adk{a b:Iv}(h:(cN a b).2=true):∀x y,(x=a.1∨x=a.2)→(y=b.1∨y=b.2)→(cN a b).1.1*65536≤x*y∧x*y≤(cN a b).1.2*65536:=by
 unfold cN at h ⊢
 obtain⟨h3,a3,b3,c3,d3,e3⟩:=jP h
 obtain⟨h2,a2,b2,c2,d2,e2⟩:=jP h3
 obtain⟨h1,a1,b1,c1,d1,e1⟩:=jP h2
 obtain⟨h0,a0,b0,c0,d0,e0⟩:=jP h1
 intro x y hx hy
 rcases hx with rfl|rfl<;>rcases hy with rfl|rfl<;>constructor<;>omega
def dM(n:Int):Int:=bR (n*65536)
def sqF(a:Iv):Iv×Bool:=bif decide (a.2<0)then(iv0,false)else lw (dM (if 0>a.1 then 0 else a.1)) (bif decide (dM a.2*dM a.2=a.2*65536)then dM a.2 else dM a.2+1)
def sgF(a:Iv):Int×Bool:=bif decide (a.1>0)then(1,true)else bif decide (a.2<0)then(-1,true)else(0,decide (a.1=0)&&decide (a.2=0))
namespace RE
def inI(i:Iv)(x:RE):Prop:=of (i.1:Rat)≤of 65536*x∧of 65536*x≤of (i.2:Rat)
theorem Nj(a b u x y:RE):((a+b-(u*(x+y))))+((u*x-(a)))+((u*y-(b)))=0:=by
 induction a using auZ
 induction b using auZ
 induction u using auZ
 induction x using auZ
 induction y using auZ
 exact snd fun n=>by
  simp only[RL.add,RL.mul,RL.neg,RL.const]
  grind
theorem abT(a b u x y:RE)(h1:a≤u*x)(h2:b≤u*y):a+b≤u*(x+y):=fun hg=>far (aB (aB (aE hg) (aA h1)) (aA h2)) (Nj a b u x y)
theorem MR(a b u x y:RE):((u*(x+y)-(a+b)))+((a-(u*x)))+((b-(u*y)))=0:=by
 induction a using auZ
 induction b using auZ
 induction u using auZ
 induction x using auZ
 induction y using auZ
 exact snd fun n=>by
  simp only[RL.add,RL.mul,RL.neg,RL.const]
  grind
theorem adv(a b u x y:RE)(h1:u*x≤a)(h2:u*y≤b):u*(x+y)≤a+b:=fun hg=>far (aB (aB (aE hg) (aA h1)) (aA h2)) (MR a b u x y)
theorem OC(a u x:RE):((-a-(u*(-x))))+((a-(u*x)))=0:=by
 induction a using auZ
 induction u using auZ
 induction x using auZ
 exact snd fun n=>by
  simp only[RL.add,RL.mul,RL.neg,RL.const]
  grind
theorem acJ(a u x:RE)(h1:u*x≤a): -a≤u*(-x):=fun hg=>far (aB (aE hg) (aA h1)) (OC a u x)
theorem Ob(a u x:RE):((u*(-x)-(-a)))+((u*x-(a)))=0:=by
 induction a using auZ
 induction u using auZ
 induction x using auZ
 exact snd fun n=>by
  simp only[RL.add,RL.mul,RL.neg,RL.const]
  grind
theorem aer(a u x:RE)(h1:a≤u*x):u*(-x)≤ -a:=fun hg=>far (aB (aE hg) (aA h1)) (Ob a u x)
theorem adW(a c U V m:RE):((m-(U*V)))+((a*c-(m)))+((V-(0))*(U-(a)))+((a-(0))*(V-(c)))=0:=by
 induction a using auZ
 induction c using auZ
 induction U using auZ
 induction V using auZ
 induction m using auZ
 exact snd fun n=>by
  simp only[RL.add,RL.mul,RL.neg,RL.const]
  grind
theorem apW(a c U V m:RE)(h1:0≤V)(h2:0≤a)(h3:a≤U)(h4:c≤V)(h5:m≤a*c):m≤U*V:=fun hg=>far (aB (aB (aB (aE hg) (aA h5)) (bV (aA h1) (aA h3))) (bV (aA h2) (aA h4))) (adW a c U V m)
theorem abg(a d U V m:RE):((m-(U*V)))+((a*d-(m)))+((V-(0))*(U-(a)))+((0-(a))*(d-(V)))=0:=by
 induction a using auZ
 induction d using auZ
 induction U using auZ
 induction V using auZ
 induction m using auZ
 exact snd fun n=>by
  simp only[RL.add,RL.mul,RL.neg,RL.const]
  grind
theorem asQ(a d U V m:RE)(h1:0≤V)(h2:a≤0)(h3:a≤U)(h4:V≤d)(h5:m≤a*d):m≤U*V:=fun hg=>far (aB (aB (aB (aE hg) (aA h5)) (bV (aA h1) (aA h3))) (bV (aA h2) (aA h4))) (abg a d U V m)
theorem adV(b c U V m:RE):((m-(U*V)))+((b*c-(m)))+((0-(V))*(b-(U)))+((b-(0))*(V-(c)))=0:=by
 induction b using auZ
 induction c using auZ
 induction U using auZ
 induction V using auZ
 induction m using auZ
 exact snd fun n=>by
  simp only[RL.add,RL.mul,RL.neg,RL.const]
  grind
theorem aq0(b c U V m:RE)(h1:V≤0)(h2:0≤b)(h3:U≤b)(h4:c≤V)(h5:m≤b*c):m≤U*V:=fun hg=>far (aB (aB (aB (aE hg) (aA h5)) (bV (aA h1) (aA h3))) (bV (aA h2) (aA h4))) (adV b c U V m)
theorem adF(b d U V m:RE):((m-(U*V)))+((b*d-(m)))+((0-(V))*(b-(U)))+((0-(b))*(d-(V)))=0:=by
 induction b using auZ
 induction d using auZ
 induction U using auZ
 induction V using auZ
 induction m using auZ
 exact snd fun n=>by
  simp only[RL.add,RL.mul,RL.neg,RL.const]
  grind
theorem aqg(b d U V m:RE)(h1:V≤0)(h2:b≤0)(h3:U≤b)(h4:V≤d)(h5:m≤b*d):m≤U*V:=fun hg=>far (aB (aB (aB (aE hg) (aA h5)) (bV (aA h1) (aA h3))) (bV (aA h2) (aA h4))) (adF b d U V m)
theorem adA(b d U V m:RE):((U*V-(m)))+((m-(b*d)))+((V-(0))*(b-(U)))+((b-(0))*(d-(V)))=0:=by
 induction b using auZ
 induction d using auZ
 induction U using auZ
 induction V using auZ
 induction m using auZ
 exact snd fun n=>by
  simp only[RL.add,RL.mul,RL.neg,RL.const]
  grind
theorem arC(b d U V m:RE)(h1:0≤V)(h2:0≤b)(h3:U≤b)(h4:V≤d)(h5:b*d≤m):U*V≤m:=fun hg=>far (aB (aB (aB (aE hg) (aA h5)) (bV (aA h1) (aA h3))) (bV (aA h2) (aA h4))) (adA b d U V m)
theorem adg(b c U V m:RE):((U*V-(m)))+((m-(b*c)))+((V-(0))*(b-(U)))+((0-(b))*(V-(c)))=0:=by
 induction b using auZ
 induction c using auZ
 induction U using auZ
 induction V using auZ
 induction m using auZ
 exact snd fun n=>by
  simp only[RL.add,RL.mul,RL.neg,RL.const]
  grind
theorem anv(b c U V m:RE)(h1:0≤V)(h2:b≤0)(h3:U≤b)(h4:c≤V)(h5:b*c≤m):U*V≤m:=fun hg=>far (aB (aB (aB (aE hg) (aA h5)) (bV (aA h1) (aA h3))) (bV (aA h2) (aA h4))) (adg b c U V m)
theorem adh(a d U V m:RE):((U*V-(m)))+((m-(a*d)))+((0-(V))*(U-(a)))+((a-(0))*(d-(V)))=0:=by
 induction a using auZ
 induction d using auZ
 induction U using auZ
 induction V using auZ
 induction m using auZ
 exact snd fun n=>by
  simp only[RL.add,RL.mul,RL.neg,RL.const]
  grind
theorem anX(a d U V m:RE)(h1:V≤0)(h2:0≤a)(h3:a≤U)(h4:V≤d)(h5:a*d≤m):U*V≤m:=fun hg=>far (aB (aB (aB (aE hg) (aA h5)) (bV (aA h1) (aA h3))) (bV (aA h2) (aA h4))) (adh a d U V m)
theorem abd(a c U V m:RE):((U*V-(m)))+((m-(a*c)))+((0-(V))*(U-(a)))+((0-(a))*(V-(c)))=0:=by
 induction a using auZ
 induction c using auZ
 induction U using auZ
 induction V using auZ
 induction m using auZ
 exact snd fun n=>by
  simp only[RL.add,RL.mul,RL.neg,RL.const]
  grind
theorem aoY(a c U V m:RE)(h1:V≤0)(h2:a≤0)(h3:a≤U)(h4:c≤V)(h5:a*c≤m):U*V≤m:=fun hg=>far (aB (aB (aB (aE hg) (aA h5)) (bV (aA h1) (aA h3))) (bV (aA h2) (aA h4))) (abd a c U V m)
theorem aiI(u x y:RE):u*x*(u*y)=u*(x*y)*u:=by
 induction u using auZ
 induction x using auZ
 induction y using auZ
 exact snd fun n=>by
  simp only[RL.mul]
  grind
theorem abr(a b u:RE):((u-(0))*(a-(b)))+((b*u-(a*u)))=0:=by
 induction a using auZ
 induction b using auZ
 induction u using auZ
 exact snd fun n=>by
  simp only[RL.add,RL.mul,RL.neg,RL.const]
  grind
theorem aeX(a b u:RE)(h1:0<u)(h2:a*u≤b*u):a≤b:=fun hg=>far (aB (mul_pos (aE h1) (aE hg)) (aA h2)) (abr a b u)
theorem mp:0<of 65536:=iI (by decide+kernel)
end RE
namespace RE
theorem kY{a b:Int}(h:a≤b):of (a:Rat)≤of (b:Rat):=mj.2 (axk.2 h)
theorem gA{q:Rat}(h:(frF q).2=true):inI (frF q).1 (of q):=by
 have f1:((q*65536).floor:Rat)≤q*65536:=Rat.floor_le _
 have f2:((-(q*65536)).floor:Rat)≤ -(q*65536):=Rat.floor_le _
 unfold frF at h ⊢
 cases e1:decide (bg (q*65536).floor)
 ·rw[e1]at h;cases h
 ·cases e2:decide (bg (-(-(q*65536)).floor))
  ·rw[e1,e2]at h;cases h
  ·rw[e1,e2]at h
   simp only[cond_true]at h ⊢
   rw[Dl h]
   refine⟨?_,?_⟩
   ·rw[←of_mul];exact mj.2 (by show(((q*65536).floor:Int):Rat)≤_;grind)
   ·rw[←of_mul];exact mj.2 (by show _≤((-(-(q*65536)).floor:Int):Rat);rw[Rat.intCast_neg];grind)
theorem frF_pr(q:Rat):prI (frF q).1:=by
 have f1:((q*65536).floor:Rat)≤q*65536:=Rat.floor_le _
 have f2:((-(q*65536)).floor:Rat)≤ -(q*65536):=Rat.floor_le _
 have f3:(q*65536).floor≤ -(-(q*65536)).floor:=by
  refine axk.1 ?_
  rw[Rat.intCast_neg]
  grind
 unfold frF
 cases decide (bg (q*65536).floor)
 ·exact fo
 ·cases decide (bg (-(-(q*65536)).floor))
  ·exact fo
  ·exact B3 f3
theorem iJ{a b:Iv}{x y:RE}(ha:inI a x)(hb:inI b y)(h:(dm a b).2=true):inI (dm a b).1 (x+y):=by
 unfold dm at h ⊢
 rw[Dl h]
 refine⟨?_,?_⟩
 ·show of ((a.1+b.1:Int):Rat)≤_
  rw[Rat.intCast_add,of_add]
  exact abT _ _ _ _ _ ha.1 hb.1
 ·show _≤of ((a.2+b.2:Int):Rat)
  rw[Rat.intCast_add,of_add]
  exact adv _ _ _ _ _ ha.2 hb.2
theorem addF_pr{a b:Iv}(ha:prI a)(hb:prI b):prI (dm a b).1:=B3 (by have:=ha.2.1;have:=hb.2.1;omega)
theorem C4{a:Iv}{x:RE}(ha:inI a x):inI (kn a) (-x):=by
 refine⟨?_,?_⟩
 ·show of ((-a.2:Int):Rat)≤_
  rw[Rat.intCast_neg,of_neg]
  exact acJ _ _ _ ha.2
 ·show _≤of ((-a.1:Int):Rat)
  rw[Rat.intCast_neg,of_neg]
  exact aer _ _ _ ha.1
theorem negF_pr{a:Iv}(ha:prI a):prI (kn a):=⟨by show _≤ -a.2;have:=ha.2.2;omega,by show-a.2≤ -a.1;have:=ha.2.1;omega,by show-a.1≤_;have:=ha.1;omega⟩
theorem jN{a b:Iv}{x y:RE}(ha:inI a x)(hb:inI b y)(h:(cN a b).2=true):inI (cN a b).1 (x*y):=by
 have hc:=adk h
 have c1:=hc a.1 b.1 (.inl rfl) (.inl rfl)
 have c2:=hc a.1 b.2 (.inl rfl) (.inr rfl)
 have c3:=hc a.2 b.1 (.inr rfl) (.inl rfl)
 have c4:=hc a.2 b.2 (.inr rfl) (.inr rfl)
 generalize (cN a b).1=m at*
 have up:∀{p q r:Int},p*65536≤q*r→of (p:Rat)*of 65536≤of (q:Rat)*of (r:Rat):=fun{p q r} h=>by
  have:=kY h
  rw[awX,awX,of_mul,of_mul]at this
  exact this
 have dn:∀{p q r:Int},q*r≤p*65536→of (q:Rat)*of (r:Rat)≤of (p:Rat)*of 65536:=fun{p q r} h=>by
  have:=kY h
  rw[awX,awX,of_mul,of_mul]at this
  exact this
 obtain⟨a1,a2⟩:=ha
 obtain⟨b1,b2⟩:=hb
 have l:of (m.1:Rat)*of 65536≤of 65536*x*(of 65536*y):=by
  rcases lt_or_ge (of 65536*y) 0 with v|v
  ·rcases lt_or_ge (of (a.2:Rat)) 0 with s|s
   ·exact aqg _ _ _ _ _ (le_of_lt v) (le_of_lt s) a2 b2 (up c4.1)
   ·exact aq0 _ _ _ _ _ (le_of_lt v) s a2 b1 (up c3.1)
  ·rcases lt_or_ge (of (a.1:Rat)) 0 with s|s
   ·exact asQ _ _ _ _ _ v (le_of_lt s) a1 b2 (up c2.1)
   ·exact apW _ _ _ _ _ v s a1 b1 (up c1.1)
 have u:of 65536*x*(of 65536*y)≤of (m.2:Rat)*of 65536:=by
  rcases lt_or_ge (of 65536*y) 0 with v|v
  ·rcases lt_or_ge (of (a.1:Rat)) 0 with s|s
   ·exact aoY _ _ _ _ _ (le_of_lt v) (le_of_lt s) a1 b1 (dn c1.2)
   ·exact anX _ _ _ _ _ (le_of_lt v) s a1 b2 (dn c2.2)
  ·rcases lt_or_ge (of (a.2:Rat)) 0 with s|s
   ·exact anv _ _ _ _ _ v (le_of_lt s) a2 b1 (dn c3.2)
   ·exact arC _ _ _ _ _ v s a2 b2 (dn c4.2)
 rw[aiI]at l u
 exact⟨aeX _ _ _ mp l,aeX _ _ _ mp u⟩
theorem aok(u s:RE):u*s*(u*s)=u*(s*s)*u:=by
 induction u using auZ
 induction s using auZ
 exact snd fun n=>by
  simp only[RL.mul]
  grind
theorem Yl(r a u x:RE):((r-(u*x*u)))+((a*u-(r)))+((u*x-(a))*(u-(0)))=0:=by
 induction r using auZ
 induction a using auZ
 induction u using auZ
 induction x using auZ
 exact snd fun n=>by
  simp only[RL.add,RL.mul,RL.neg,RL.const]
  grind
theorem ajy(r a u x:RE)(h1:r≤a*u)(h2:a≤u*x)(h3:0<u):r≤u*x*u:=fun hg=>far (aB (aB (aE hg) (aA h1)) (bV (aA h2) (le_of_lt (aE h3)))) (Yl r a u x)
theorem Xm(r a u x:RE):((u*x*u-(r)))+((r-(a*u)))+((a-(u*x))*(u-(0)))=0:=by
 induction r using auZ
 induction a using auZ
 induction u using auZ
 induction x using auZ
 exact snd fun n=>by
  simp only[RL.add,RL.mul,RL.neg,RL.const]
  grind
theorem O3(r a u x:RE)(h1:a*u≤r)(h2:u*x≤a)(h3:0<u):u*x*u≤r:=fun hg=>far (aB (aB (aE hg) (aA h1)) (bV (aA h2) (le_of_lt (aE h3)))) (Xm r a u x)
theorem sqF_pr{a:Iv}(ha:prI a):prI (sqF a).1:=by
 unfold sqF
 by_cases h:a.2<0
 ·rw[au1 h];exact fo
 ·rw[au3 h]
  simp only[cond_false]
  refine B3 ?_
  have h1:(if 0>a.1 then 0 else a.1)≤a.2:=by have:=ha.2.1;split<;>omega
  have h0:0≤(if 0>a.1 then 0 else a.1):=by split<;>omega
  have hm:dM (if 0>a.1 then 0 else a.1)≤dM a.2:=by
   unfold dM
   obtain⟨_,g1,_⟩:=fw (z:=(if 0>a.1 then 0 else a.1)*65536) (by omega)
   obtain⟨g0,_,g2⟩:=fw (z:=a.2*65536) (by omega)
   have:=Go.Proofs.YtlahabkjhgkkjaaGreat.sq_lt (a:=bR ((if 0>a.1 then 0 else a.1)*65536)) (b:=bR (a.2*65536)+1) (by omega) (by omega)
   omega
  cases decide (dM a.2*dM a.2=a.2*65536)
  ·show _≤dM a.2+1;omega
  ·exact hm
theorem wa{a:Iv}{x:RE}(ha:inI a x)(hx:0≤x)(h:(sqF a).2=true):inI (sqF a).1 (wS x):=by
 obtain⟨a1,a2⟩:=ha
 have hs:=Cr hx
 have s0:0≤of 65536*wS x:=bV (le_of_lt mp) (m7 x)
 have e:of 65536*wS x*(of 65536*wS x)=of 65536*x*of 65536:=by rw[aok,hs]
 unfold sqF at h ⊢
 cases hn:decide (a.2<0)
 ·rw[hn]at h
  simp only[cond_false]at h ⊢
  have h2:=avW hn
  rw[Dl h]
  obtain⟨p0,p1,p2⟩:=fw (z:=(if 0>a.1 then 0 else a.1)*65536) (by split<;>omega)
  obtain⟨q0,q1,q2⟩:=fw (z:=a.2*65536) (by omega)
  have cm:∀{p q:Int},p*p≤q*65536→of (p:Rat)*of (p:Rat)≤of (q:Rat)*of 65536:=fun{p q} h=>by
   have:=kY h
   rw[awX,awX,of_mul,of_mul]at this
   exact this
  have cn:∀{p q:Int},q*65536≤p*p→of (q:Rat)*of 65536≤of (p:Rat)*of (p:Rat):=fun{p q} h=>by
   have:=kY h
   rw[awX,awX,of_mul,of_mul]at this
   exact this
  have nn:∀{p:Int},0≤p→0≤of (p:Rat):=fun h=>kY h
  refine⟨?_,?_⟩
  ·show of ((dM _:Int):Rat)≤_
   refine LD _ _ (nn p0) s0 ?_
   rw[e]
   refine ajy _ (of (((if 0>a.1 then 0 else a.1:Int)):Rat)) _ _ (cm p1) ?_ mp
   split
   ·exact bV (le_of_lt mp) hx
   ·exact a1
  ·show _≤of (((bif _ then _ else _):Int):Rat)
   cases he:decide (dM a.2*dM a.2=a.2*65536)
   ·simp only[cond_false]
    refine LD _ _ s0 (nn (by unfold dM;omega)) ?_
    rw[e]
    exact O3 _ _ _ _ (cn (by unfold dM;omega)) a2 mp
   ·simp only[cond_true]
    refine LD _ _ s0 (nn q0) ?_
    rw[e]
    exact O3 _ _ _ _ (cn (by rw[au0 he];exact Int.le_refl _)) a2 mp
 ·rw[hn]at h;cases h
theorem IZ{i:Iv}{x:RE}(hi:inI i x)(h:(sgF i).2=true):(sgF i).1=sg x:=by
 obtain⟨h1,h2⟩:=hi
 unfold sgF at h ⊢
 cases e1:decide (i.1>0)
 ·rw[e1]at h
  cases e2:decide (i.2<0)
  ·rw[e2]at h
   simp only[cond_false,au8,awJ]at h ⊢
   rw[h.1]at h1
   rw[h.2]at h2
   have:of 65536*x=0:=le_antisymm h2 h1
   have:sg (of 65536*x)=0:=by rw[this,dE]
   rw[dU,dR mp]at this
   omega
  ·have e:=au0 e2
   have h3:of (i.2:Rat)<0:=iI (axl.2 e)
   simp only[cond_false,cond_true]
   have:sg (of 65536*x)= -1:=im (by
    rcases lt_or_ge (of 65536*x) 0 with h|h
    ·exact h
    ·exact absurd (le_trans h h2) (d9.2 h3))
   rw[dU,dR mp]at this
   omega
 ·have e:=au0 e1
  have h3:0<of (i.1:Rat):=iI (axl.2 e)
  simp only[cond_true]
  have:sg (of 65536*x)=1:=dR (by
   rcases lt_or_ge 0 (of 65536*x)with h|h
   ·exact h
   ·exact absurd (le_trans h1 h) (d9.2 h3))
  rw[dU,dR mp]at this
  omega
end RE
end Go.Proofs.YtlahabkjhgkkjaaGreat
end
