/- distance.Segments and the reference's. -/
import Derived.Test.YtlahabkjhgkkjaaGreatW11
import Derived.Test.YtlahabkjhgkkjaaGreatW9
noncomputable section
namespace Go.Proofs.YtlahabkjhgkkjaaGreat
open Go.RowKit Go.IntKind
theorem aqv:type_of% @Bool.decide_and:=@Bool.decide_and
theorem aqy:type_of% @Bool.and_true:=@Bool.and_true
theorem aqz:type_of% @decide_false:=@decide_false
theorem aqC:type_of% @decide_true:=@decide_true
theorem ar2:type_of% @Bool.and_eq_true_iff:=@Bool.and_eq_true_iff
theorem asl:type_of% @Rat.intCast_mul:=@Rat.intCast_mul
theorem asJ:type_of% @Rat.intCast_lt_intCast:=@Rat.intCast_lt_intCast
theorem as7:type_of% @beq_eq_false_iff_ne:=@beq_eq_false_iff_ne
theorem aB{a b:Rat}{j k:Nat}[ha:Bd a j][hb:Bd b k](hj:j≤480000)(hk:k≤480000)(h:b≠0):decide (eL (ag a) (ag b))=true:=
 aqs ⟨mJ ha.le hj,mJ hb.le hk,by show ae (ai b.num)≠0;rw[dec_enc];exact fun e=>h (Rat.num_eq_zero.1 e)⟩
theorem aL(a b:Rat):decide (aS a b>0)=decide (b<a):=by
 rcases(by grind:a<b∨a=b∨b<a)with h|h|h
 ·rw[c7 h,aqu (show ¬b<a by grind)];rfl
 ·rw[h,dp,aqu (show ¬b<b by grind)];rfl
 ·rw[cS h,aqs h];rfl
theorem aJ(a b:Rat):decide (aS a b<0)=decide (a<b):=by
 rcases(by grind:a<b∨a=b∨b<a)with h|h|h
 ·rw[c7 h,aqs h];rfl
 ·rw[h,dp,aqu (show ¬b<b by grind)];rfl
 ·rw[cS h,aqu (show ¬a<b by grind)];rfl
theorem aoi(a b:Rat):decide (aS a b≥0)=decide (b≤a):=by
 rcases(by grind:a<b∨a=b∨b<a)with h|h|h
 ·rw[c7 h,aqu (show ¬b≤a by grind)];rfl
 ·rw[h,dp,aqs (show b≤b by grind)];rfl
 ·rw[cS h,aqs (show b≤a by grind)];rfl
theorem CC(a b:Rat):decide (aS a b≤0)=decide (a≤b):=by
 rcases(by grind:a<b∨a=b∨b<a)with h|h|h
 ·rw[c7 h,aqs (show a≤b by grind)];rfl
 ·rw[h,dp,aqs (show b≤b by grind)];rfl
 ·rw[cS h,aqu (show ¬a≤b by grind)];rfl
theorem aH(a b:Rat):(aS a b==0)=decide (a=b):=by
 rcases(by grind:a<b∨a=b∨b<a)with h|h|h
 ·rw[c7 h,aqu (show ¬a=b by grind)];rfl
 ·rw[h,dp,aqs rfl];rfl
 ·rw[cS h,aqu (show ¬a=b by grind)];rfl
theorem iV(a b:Rat): -1≤aS a b∧aS a b≤1:=by
 rcases(by grind:a<b∨a=b∨b<a)with h|h|h
 ·rw[c7 h];decide
 ·rw[h,dp];decide
 ·rw[cS h];decide
theorem m4{a b c d:Rat}:i64.wrap (aS a b*aS c d)=aS a b*aS c d:=by
 rcases(by grind:a<b∨a=b∨b<a)with h|h|h<;>rcases(by grind:c<d∨c=d∨d<c)with h'|h'|h'
 all_goals first|rw[c7 h]|(subst h;rw[dp])|rw[cS h]
 all_goals first|rw[c7 h']|(subst h';rw[dp])|rw[cS h']
 all_goals decide
def jr:aM:=spN false true [tR,tR] (fun x=>decide (okR x.1∧okR x.2.1)) (fun x=>[RV.d tR (hid (ag (ab x.1+ab x.2.1)))])
theorem fN:SpK 149 jr:=spX fun x h=>by simp only[aj];exact Id x.1 x.2.1 (aqr h)
def iC:aM:=spN false true [tR,tR] (fun x=>decide (okR x.1∧okR x.2.1)) (fun x=>[RV.d tR (hid (ag (ab x.1-ab x.2.1)))])
theorem fi:SpK 147 iC:=spX fun x h=>by simp only[aj];exact Ws x.1 x.2.1 (aqr h)
def gU:aM:=spN false true [tR,tR] (fun x=>decide (okR x.1∧okR x.2.1)) (fun x=>[RV.d tR (hid (ag (ab x.1*ab x.2.1)))])
theorem eH:SpK 148 gU:=spX fun x h=>by simp only[aj];exact ZC x.1 x.2.1 (aqr h)
def AO:aM:=spN false true [tR,tR] (fun x=>decide (eL x.1 x.2.1)) (fun x=>[RV.d tR (hid (ag (ab x.1/ab x.2.1))),RV.d atB 0])
theorem uD:SpK 170 AO:=spX fun x h=>by simp only[aj];exact YS x.1 x.2.1 (aqr h)
def fW:aM:=spN true true [tR] (fun x=>decide (okR x.1)) (fun x=>[RV.d atB (aS (ab x.1) 0)])
theorem eg:SpK 83 fW:=spX fun x h=>GW x.1 (aqr h)
def kx:aM:=spN true true [tR,tR] (fun x=>decide (okR x.1∧okR x.2.1)) (fun x=>[RV.d atB (aS (ab x.1) (ab x.2.1))])
theorem gE:SpK 99 kx:=spX fun x h=>ZI x.1 x.2.1 (aqr h)
def gT:aM:=spN false true [atB] (fun x=>decide (aX x.1)) (fun x=>[RV.d tR (hid (ag (x.1:Rat)))])
theorem eI:SpK 76 gT:=spX fun x h=>by simp only[aj];exact Z3 x.1 (aqr h)
def xy:Env:=[(149,jr),(147,iC),(148,gU),(170,AO),(83,fW),(99,kx),(76,gT)]
theorem lI:EnvAll Tryz.prog xy:=⟨fN,fi,eH,uD,eg,gE,eI,trivial⟩
def alx:Ctx:=CX xy []
def abn(a b:BR)(_k:KT):Option (List RV):=match decide (okR a∧okR b)with|true=>some [RV.d tR (hid (ag (ab a+ab b)))]|false=>none
theorem aiG(a b:BR):RS alx 75 [.d tR a,.d tR b] (abn a b):=rsX
theorem Zl(a b:BR)(h:okR a∧okR b):Con Tryz.prog 75 [.d tR a,.d tR b] [.d tR (ag (ab a+ab b))]:=by
 refine aN lI (aiG _ _ ⟨0,?_⟩)
 unfold abn
 rw[dT h,aj]
def am7:Ctx:=CX xy []
def acY(a b:BR)(_k:KT):Option (List RV):=match decide (okR a∧okR b)with|true=>some [RV.d tR (hid (ag (ab a-ab b)))]|false=>none
theorem akq(a b:BR):RS am7 112 [.d tR a,.d tR b] (acY a b):=rsX
theorem Y4(a b:BR)(h:okR a∧okR b):Con Tryz.prog 112 [.d tR a,.d tR b] [.d tR (ag (ab a-ab b))]:=by
 refine aN lI (akq _ _ ⟨0,?_⟩)
 unfold acY
 rw[dT h,aj]
def aj5:Ctx:=CX xy []
def abM(a b:BR)(_k:KT):Option (List RV):=match decide (okR a∧okR b)with|true=>some [RV.d tR (hid (ag (ab a*ab b)))]|false=>none
theorem ak7(a b:BR):RS aj5 77 [.d tR a,.d tR b] (abM a b):=rsX
theorem XF(a b:BR)(h:okR a∧okR b):Con Tryz.prog 77 [.d tR a,.d tR b] [.d tR (ag (ab a*ab b))]:=by
 refine aN lI (ak7 _ _ ⟨0,?_⟩)
 unfold abM
 rw[dT h,aj]
def alH:Ctx:=CX xy []
def abu(a b:BR)(_k:KT):Option (List RV):=match decide (eL a b)with|true=>(match 0 !=0 with|true=>(match decide (aX (0:Int))with|true=>some [RV.d tR (hid (ag ((0:Int):Rat)))]|false=>none)|false=>some [RV.d tR (hid (ag (ab a/ab b)))])|false=>none
theorem alL(a b:BR):RS alH 87 [.d tR a,.d tR b] (abu a b):=rsX
theorem Wb(a b:BR)(h:eL a b):Con Tryz.prog 87 [.d tR a,.d tR b] [.d tR (ag (ab a/ab b))]:=by
 refine aN lI (alL _ _ ⟨0,?_⟩)
 unfold abu
 rw[dT h]
 simp only[aj]
 rfl
def yr:aM:=spN false true [tR,tR] (fun x=>decide (okR x.1∧okR x.2.1)) (fun x=>[RV.d tR (hid (ag (ab x.1+ab x.2.1)))])
theorem vo:SpK 75 yr:=spX fun x h=>by simp only[aj];exact Zl x.1 x.2.1 (aqr h)
def vZ:aM:=spN false true [tR,tR] (fun x=>decide (okR x.1∧okR x.2.1)) (fun x=>[RV.d tR (hid (ag (ab x.1-ab x.2.1)))])
theorem pD:SpK 112 vZ:=spX fun x h=>by simp only[aj];exact Y4 x.1 x.2.1 (aqr h)
def zG:aM:=spN false true [tR,tR] (fun x=>decide (okR x.1∧okR x.2.1)) (fun x=>[RV.d tR (hid (ag (ab x.1*ab x.2.1)))])
theorem vc:SpK 77 zG:=spX fun x h=>by simp only[aj];exact XF x.1 x.2.1 (aqr h)
def zQ:aM:=spN false true [tR,tR] (fun x=>decide (eL x.1 x.2.1)) (fun x=>[RV.d tR (hid (ag (ab x.1/ab x.2.1)))])
theorem vh:SpK 87 zQ:=spX fun x h=>by simp only[aj];exact Wb x.1 x.2.1 (aqr h)
def acQ:Env:=(75,yr)::(112,vZ)::(77,zG)::(87,zQ)::xy
theorem TW:EnvAll Tryz.prog acQ:=⟨vo,pD,vc,vh,lI⟩
def akR:Ctx:=CX acQ []
def aam(a b:BV)(_k:KT):Option (List RV):=match decide (okR a.1∧okR b.1)with|true=>(match decide (okR a.2∧okR b.2)with|true=>(match decide (okR (hid (ag (ab a.1*ab b.1)))∧okR (hid (ag (ab a.2*ab b.2))))with|true=>some [RV.d tR (hid (ag (ab (hid (ag (ab a.1*ab b.1)))+ab (hid (ag (ab a.2*ab b.2))))))]|false=>none)|false=>none)|false=>none
theorem al7(a b:BV):RS akR 72 [.d tV a,.d tV b] (aam a b):=rsX
theorem W9(a b:BV)(h:ok (Rat×Rat) 5000 a∧ok (Rat×Rat) 5000 b):Con Tryz.prog 72 [.d tV a,.d tV b] [.d tR (ag (fJ (dec a) (dec b)))]:=by
 refine aN TW (al7 _ _ ⟨0,?_⟩)
 obtain⟨ha,hb⟩:=h
 obtain⟨a,rfl,ba⟩:=aQ ha
 obtain⟨b,rfl,bb⟩:=aQ hb
 unfold aam
 simp only[aj,ak,aD,aE,aA,av,aT,aqv,aqw,Nat.reduceAdd,Nat.reduceLeDiff]
 try rfl
def Sv:aM:=spN false true [tV,tV] (fun x=>decide (ok (Rat×Rat) 5000 x.1∧ok (Rat×Rat) 5000 x.2.1)) (fun x=>[RV.d tR (hid (ag (fJ (dec x.1) (dec x.2.1))))])
theorem Le:SpK 72 Sv:=spX fun x h=>by simp only[aj];exact W9 x.1 x.2.1 (aqr h)
def gW:aM:=spN false true [tR,tR] (fun x=>decide (okR x.1∧okR x.2.1)) (fun x=>[RV.d tR (hid (ag (ab x.1+ab x.2.1)))])
theorem fG:SpK 127 gW:=spX fun x h=>by simp only[aj];exact B3 x.1 x.2.1 (aqr h)
def gY:aM:=spN false true [tR,tR] (fun x=>decide (okR x.1∧okR x.2.1)) (fun x=>[RV.d tR (hid (ag (ab x.1-ab x.2.1)))])
theorem fA:SpK 161 gY:=spX fun x h=>by simp only[aj];exact PC x.1 x.2.1 (aqr h)
def gn:aM:=spN false true [tR,tR] (fun x=>decide (okR x.1∧okR x.2.1)) (fun x=>[RV.d tR (hid (ag (ab x.1*ab x.2.1)))])
theorem eJ:SpK 132 gn:=spX fun x h=>by simp only[aj];exact Ma x.1 x.2.1 (aqr h)
def Ao:aM:=spN false true [tR,tR] (fun x=>decide (eL x.1 x.2.1)) (fun x=>[RV.d tR (hid (ag (ab x.1/ab x.2.1)))])
theorem wA:SpK 174 Ao:=spX fun x h=>by simp only[aj];exact UQ x.1 x.2.1 (aqr h)
def fo:aM:=spN true true [tR] (fun x=>decide (okR x.1)) (fun x=>[RV.d atB (aS (ab x.1) 0)])
theorem dR:SpK 78 fo:=spX fun x h=>TX x.1 (aqr h)
def jb:aM:=spN true true [tR,tR] (fun x=>decide (okR x.1∧okR x.2.1)) (fun x=>[RV.d atB (aS (ab x.1) (ab x.2.1))])
theorem fY:SpK 107 jb:=spX fun x h=>PS x.1 x.2.1 (aqr h)
def gA:aM:=spN false true [atB] (fun x=>decide (aX x.1)) (fun x=>[RV.d tR (hid (ag (x.1:Rat)))])
theorem eP:SpK 50 gA:=spX fun x h=>by simp only[aj];exact PJ x.1 (aqr h)
def BK:Env:=[(127,gW),(161,gY),(132,gn),(174,Ao),(78,fo),(107,jb),(50,gA)]
theorem pk:EnvAll Tryz.prog BK:=⟨fG,fA,eJ,wA,dR,fY,eP,trivial⟩
def aju:Ctx:=CX BK []
def aaE(a b:BR)(_k:KT):Option (List RV):=match decide (okR a∧okR b)with|true=>some [RV.d tR (hid (ag (ab a+ab b)))]|false=>none
theorem amh(a b:BR):RS aju 60 [.d tR a,.d tR b] (aaE a b):=rsX
theorem VE(a b:BR)(h:okR a∧okR b):Con Tryz.prog 60 [.d tR a,.d tR b] [.d tR (ag (ab a+ab b))]:=by
 refine aN pk (amh _ _ ⟨0,?_⟩)
 unfold aaE
 rw[dT h,aj]
def aj1:Ctx:=CX BK []
def aaC(a b:BR)(_k:KT):Option (List RV):=match decide (okR a∧okR b)with|true=>some [RV.d tR (hid (ag (ab a-ab b)))]|false=>none
theorem akD(a b:BR):RS aj1 144 [.d tR a,.d tR b] (aaC a b):=rsX
theorem Wq(a b:BR)(h:okR a∧okR b):Con Tryz.prog 144 [.d tR a,.d tR b] [.d tR (ag (ab a-ab b))]:=by
 refine aN pk (akD _ _ ⟨0,?_⟩)
 unfold aaC
 rw[dT h,aj]
def akf:Ctx:=CX BK []
def aco(a b:BR)(_k:KT):Option (List RV):=match decide (okR a∧okR b)with|true=>some [RV.d tR (hid (ag (ab a*ab b)))]|false=>none
theorem amJ(a b:BR):RS akf 61 [.d tR a,.d tR b] (aco a b):=rsX
theorem XD(a b:BR)(h:okR a∧okR b):Con Tryz.prog 61 [.d tR a,.d tR b] [.d tR (ag (ab a*ab b))]:=by
 refine aN pk (amJ _ _ ⟨0,?_⟩)
 unfold aco
 rw[dT h,aj]
def yE:aM:=spN false true [tR,tR] (fun x=>decide (okR x.1∧okR x.2.1)) (fun x=>[RV.d tR (hid (ag (ab x.1+ab x.2.1)))])
theorem vO:SpK 60 yE:=spX fun x h=>by simp only[aj];exact VE x.1 x.2.1 (aqr h)
def zY:aM:=spN false true [tR,tR] (fun x=>decide (okR x.1∧okR x.2.1)) (fun x=>[RV.d tR (hid (ag (ab x.1-ab x.2.1)))])
theorem uA:SpK 144 zY:=spX fun x h=>by simp only[aj];exact Wq x.1 x.2.1 (aqr h)
def za:aM:=spN false true [tR,tR] (fun x=>decide (okR x.1∧okR x.2.1)) (fun x=>[RV.d tR (hid (ag (ab x.1*ab x.2.1)))])
theorem u5:SpK 61 za:=spX fun x h=>by simp only[aj];exact XD x.1 x.2.1 (aqr h)
def adK:Env:=(60,yE)::(144,zY)::(61,za)::BK
theorem TU:EnvAll Tryz.prog adK:=⟨vO,uA,u5,pk⟩
def alp:Ctx:=CX adK []
def aar(a b:BV)(_k:KT):Option (List RV):=match decide (okR a.1∧okR b.1)with|true=>(match decide (okR a.2∧okR b.2)with|true=>(match decide (okR (hid (ag (ab a.1*ab b.1)))∧okR (hid (ag (ab a.2*ab b.2))))with|true=>some [RV.d tR (hid (ag (ab (hid (ag (ab a.1*ab b.1)))+ab (hid (ag (ab a.2*ab b.2))))))]|false=>none)|false=>none)|false=>none
theorem akQ(a b:BV):RS alp 58 [.d tV a,.d tV b] (aar a b):=rsX
theorem XP(a b:BV)(h:ok (Rat×Rat) 5000 a∧ok (Rat×Rat) 5000 b):Con Tryz.prog 58 [.d tV a,.d tV b] [.d tR (ag (fJ (dec a) (dec b)))]:=by
 refine aN TU (akQ _ _ ⟨0,?_⟩)
 obtain⟨ha,hb⟩:=h
 obtain⟨a,rfl,ba⟩:=aQ ha
 obtain⟨b,rfl,bb⟩:=aQ hb
 unfold aar
 simp only[aj,ak,aD,aE,aA,av,aT,aqv,aqw,Nat.reduceAdd,Nat.reduceLeDiff]
 try rfl
def UR:aM:=spN false true [tV,tV] (fun x=>decide (ok (Rat×Rat) 5000 x.1∧ok (Rat×Rat) 5000 x.2.1)) (fun x=>[RV.d tR (hid (ag (fJ (dec x.1) (dec x.2.1))))])
theorem KH:SpK 58 UR:=spX fun x h=>by simp only[aj];exact XP x.1 x.2.1 (aqr h)
abbrev Rt:=Rat×Rat×Rat
def eK(a b m:Rat):Int:=RE.addS (aS a 0) (aS b 0*aS m 0) (aS (a*a) (b*b*m))
def zK(A B C D M N:Rat):Int:=bif decide (M<0)||decide (N<0)then 0
 else RE.addS (eK A B M) (eK C D M*aS N 0) (eK (A*A+B*B*M-N*(C*C+D*D*M)) (2*(A*B-N*(C*D))) M)
def bL(x y:Rt):Int:=zK (x.1-y.1) x.2.1 (-y.2.1) 0 x.2.2 y.2.2
theorem um(a b:Rat):aS (a-b) 0=aS a b:=by
 rcases(by grind:a<b∨a=b∨b<a)with h|h|h
 ·rw[c7 h,c7 (by grind)]
 ·rw[h,dp,show b-b=0 by grind,dp]
 ·rw[cS h,cS (by grind)]
namespace RE
def rq(m:Rat):RE:=uR (of m)
theorem ak2(m:Rat):0≤rq m:=lL _
theorem rM{m:Rat}(h:0≤m):rq m*rq m=of m:=zV (lT.2 h)
theorem WS{x:RE}(h:0≤x):sg (uR x)=sg x:=by
 have h1:=lL x
 have h2:=zV h
 rcases mb h1 with h'|h'
 ·rw[gN h',←h2,gN (mul_pos h' h')]
 ·rw[h',mul_zero]at h2
  rw[h',h2]
theorem acv{m:Rat}(h:0≤m):sg (rq m)=aS m 0:=by
 unfold rq
 rw[WS (lT.2 h),sg_of]
def v2(a b m:Rat):RE:=of a+of b*rq m
def vR(x:Rt):RE:=v2 x.1 x.2.1 x.2.2
theorem sq2(a b s:RE):a*a-b*s*(b*s)=a*a-b*b*(s*s):=by
 induction a using aqq
 induction b using aqq
 induction s using aqq
 exact snd fun n=>by
  simp only[RL.add,RL.mul,RL.neg]
  grind
theorem sq4(A B C D s t:RE):(A+B*s)*(A+B*s)-(C+D*s)*t*((C+D*s)*t)=A*A+B*B*(s*s)-t*t*(C*C+D*D*(s*s))+2*(A*B-t*t*(C*D))*s:=by
 induction A using aqq
 induction B using aqq
 induction C using aqq
 induction D using aqq
 induction s using aqq
 induction t using aqq
 exact snd fun n=>by
  simp only[RL.add,RL.mul,RL.neg,RL.const]
  grind
theorem aje(A B C D s t:RE):A+B*s+(C+D*s)*t=A+B*s+C*t+D*(s*t):=by
 induction A using aqq
 induction B using aqq
 induction C using aqq
 induction D using aqq
 induction s using aqq
 induction t using aqq
 exact snd fun n=>by
  simp only[RL.add,RL.mul]
  grind
theorem afE(a b c d s t:RE):a-c+b*s+(-d)*t+0*(s*t)=a+b*s-(c+d*t):=by
 induction a using aqq
 induction b using aqq
 induction c using aqq
 induction d using aqq
 induction s using aqq
 induction t using aqq
 exact snd fun n=>by
  simp only[RL.add,RL.mul,RL.neg,RL.const]
  grind
theorem sgn2_re{a b m:Rat}(h:0≤m):eK a b m=sg (v2 a b m):=by
 unfold v2
 rw[QL,sq2,rM h,qk,sg_of,sg_of,acv h,←cE,←cE,←cE,←of_sub,sg_of,um]
 rfl
theorem agw:of 2=2:=rfl
def vQ(A B C D M N:Rat):RE:=of A+of B*rq M+of C*rq N+of D*(rq M*rq N)
theorem sgnQ_re{A B C D M N:Rat}(hM:0≤M)(hN:0≤N):zK A B C D M N=sg (vQ A B C D M N):=by
 unfold zK vQ
 rw[aqu (by grind),aqu (by grind),←aje,QL,sq4,rM hM,rM hN,qk,acv hN,sgn2_re hM,sgn2_re hM,sgn2_re hM]
 unfold v2
 simp only[of_sub,of_add,cE,agw]
 rfl
theorem cmpT_re{x y:Rt}(hx:0≤x.2.2)(hy:0≤y.2.2):bL x y=sg (vR x-vR y):=by
 unfold bL vR v2
 rw[sgnQ_re hx hy,←afE,←of_sub,←of_neg]
 rfl
end RE
theorem AI{s t:Int}(hs: -1≤s∧s≤1)(ht: -1≤t∧t≤1): -1≤s*t∧s*t≤1:=by
 have h1:s= -1∨s=0∨s=1:=by omega
 have h2:t= -1∨t=0∨t=1:=by omega
 rcases h1 with rfl|rfl|rfl<;>rcases h2 with rfl|rfl|rfl<;>decide
theorem GF{s t d:Int}(hs: -1≤s∧s≤1)(ht: -1≤t∧t≤1)(hd: -1≤d∧d≤1): -1≤RE.addS s t d∧RE.addS s t d≤1:=by
 unfold RE.addS
 cases(t==0||s==t)
 ·cases s==0
  ·exact AI hs hd
  ·exact ht
 ·exact hs
theorem jd(a b m:Rat): -1≤eK a b m∧eK a b m≤1:=GF (iV _ _) (AI (iV _ _) (iV _ _)) (iV _ _)
theorem V2(A B C D M N:Rat): -1≤zK A B C D M N∧zK A B C D M N≤1:=by
 unfold zK
 cases(decide (M<0)||decide (N<0))
 ·exact GF (jd _ _ _) (AI (jd _ _ _) (iV _ _)) (jd _ _ _)
 ·exact⟨by show(-1:Int)≤0;decide,by show(0:Int)≤1;decide⟩
theorem sX(x y:Rt): -1≤bL x y∧bL x y≤1:=V2 _ _ _ _ _ _
theorem jV(a b:Int):(ce a b==0)=decide (a=b):=by
 rcases ash a b with h|h|h
 ·rw[cK h,aqu (by omega)];rfl
 ·rw[h,dg,aqs rfl];rfl
 ·rw[cA h,aqu (by omega)];rfl
def Va:Env:=[(134,sJ),(192,zP),(212,oK),(188,sU),(214,yG)]
theorem C6:EnvAll Tryz.prog Va:=⟨qj,xU,m6,qe,xK,trivial⟩
def ZO:NT:=[((256,23),{keep:=[1,2,4,5],hl:=6})]
def zE:Ctx:=CX Va ZO
def iu(x:Bool×List Int)(b4_0:Bool)(b4_1:List Int):Cfg:=⟨256,[.blk 0],[(1,.box 0 0),(2,.box 1 0),(4,.box 4 0),(5,.box 5 0)],[.box 33 [SB x.1,.d atA x.2],.box 33 [SB false,.nil],.gone,.row 183 atC ([1]),.box 33 [SB b4_0,.d atA b4_1],.box 33 [SB ((ai (2:Int)).1),.d atA ((ai (2:Int)).2)]],0,[]⟩
def Aa(x:Bool×List Int)(k:KT):Option (List RV):=match x.1 with|true=>some [RV.d y2Y (false,[]),RV.d atB 7]|false=>(match(x.2.length:Int)==0 with|true=>some [RV.d y2Y (false,[]),RV.d atB 0]|false=>(match decide ((0:Int)≤i64.wrap (Int.tdiv (i64.wrap ((x.2.length:Int)+1)) 2)∧(i64.wrap (Int.tdiv (i64.wrap ((x.2.length:Int)+1)) 2))*((4:Nat):Int)≤140737488355328∧i64.wrap (Int.tdiv (i64.wrap ((x.2.length:Int)+1)) 2)≤140737488355328)with|true=>(match decide (((List.replicate (i64.wrap (Int.tdiv (i64.wrap ((x.2.length:Int)+1)) 2)).toNat (0:Int)).length+([1]).length)*4≤140737488355328∧(List.replicate (i64.wrap (Int.tdiv (i64.wrap ((x.2.length:Int)+1)) 2)).toNat (0:Int)).length+([1]).length≤140737488355328)with|true=>(match decide (aX (2:Int))with|true=>k 23 (iu x false ((List.replicate (i64.wrap (Int.tdiv (i64.wrap ((x.2.length:Int)+1)) 2)).toNat (0:Int))++([1])))|false=>none)|false=>none)|false=>none))
theorem Ee(x:Bool×List Int):RS zE 256 [.d y2Y x] (Aa x):=rsX
def nW(x:Bool×List Int)(b4_0:Bool)(b4_1:List Int)(k:KT):Option (List RV):=match decide (dZ x (b4_0,b4_1))with|true=>cg (match decide (okI (b4_0,b4_1)∧okI (ai (ae x/ae (b4_0,b4_1))))with|true=>cg (match decide (dZ (ai (ae (b4_0,b4_1)+ae (ai (ae x/ae (b4_0,b4_1))))) (ai (2:Int)))with|true=>dup (.b .l .l) (match decide (okI (ai (ae (ai (ae (b4_0,b4_1)+ae (ai (ae x/ae (b4_0,b4_1)))))/ae (ai (2:Int))))∧okI (b4_0,b4_1))with|true=>(match decide ((ce (ae (ai (ae (ai (ae (b4_0,b4_1)+ae (ai (ae x/ae (b4_0,b4_1)))))/ae (ai (2:Int))))) (ae (b4_0,b4_1)))≥0)with|true=>some [RV.d y2Y (b4_0,b4_1),RV.d atB 0]|false=>k 23 (iu x ((ai (ae (ai (ae (b4_0,b4_1)+ae (ai (ae x/ae (b4_0,b4_1)))))/ae (ai (2:Int)))).1) ((ai (ae (ai (ae (b4_0,b4_1)+ae (ai (ae x/ae (b4_0,b4_1)))))/ae (ai (2:Int)))).2)))|false=>none)|false=>none) (dup (.b (.b .l .l) (.b .l .l)) (match decide (dZ (ai (ae (b4_0,b4_1)+ae (ai (ae x/ae (b4_0,b4_1))))) (ai (2:Int)))with|true=>(match decide (okI (ai (ae (ai (ae (b4_0,b4_1)+ae (ai (ae x/ae (b4_0,b4_1)))))/ae (ai (2:Int))))∧okI (b4_0,b4_1))with|true=>(match decide ((ce (ae (ai (ae (ai (ae (b4_0,b4_1)+ae (ai (ae x/ae (b4_0,b4_1)))))/ae (ai (2:Int))))) (ae (b4_0,b4_1)))≥0)with|true=>some [RV.d y2Y (b4_0,b4_1),RV.d atB 0]|false=>k 23 (iu x ((ai (ae (ai (ae (b4_0,b4_1)+ae (ai (ae x/ae (b4_0,b4_1)))))/ae (ai (2:Int)))).1) ((ai (ae (ai (ae (b4_0,b4_1)+ae (ai (ae x/ae (b4_0,b4_1)))))/ae (ai (2:Int)))).2)))|false=>none)|false=>none))|false=>none) (dup (.b .l .l) (cg (match decide (okI (b4_0,b4_1)∧okI (ai (ae x/ae (b4_0,b4_1))))with|true=>dup (.b .l .l) (match decide (dZ (ai (ae (b4_0,b4_1)+ae (ai (ae x/ae (b4_0,b4_1))))) (ai (2:Int)))with|true=>(match decide (okI (ai (ae (ai (ae (b4_0,b4_1)+ae (ai (ae x/ae (b4_0,b4_1)))))/ae (ai (2:Int))))∧okI (b4_0,b4_1))with|true=>(match decide ((ce (ae (ai (ae (ai (ae (b4_0,b4_1)+ae (ai (ae x/ae (b4_0,b4_1)))))/ae (ai (2:Int))))) (ae (b4_0,b4_1)))≥0)with|true=>some [RV.d y2Y (b4_0,b4_1),RV.d atB 0]|false=>k 23 (iu x ((ai (ae (ai (ae (b4_0,b4_1)+ae (ai (ae x/ae (b4_0,b4_1)))))/ae (ai (2:Int)))).1) ((ai (ae (ai (ae (b4_0,b4_1)+ae (ai (ae x/ae (b4_0,b4_1)))))/ae (ai (2:Int)))).2)))|false=>none)|false=>none)|false=>none) (match decide (okI (b4_0,b4_1)∧okI (ai (ae x/ae (b4_0,b4_1))))with|true=>(match decide (dZ (ai (ae (b4_0,b4_1)+ae (ai (ae x/ae (b4_0,b4_1))))) (ai (2:Int)))with|true=>(match decide (okI (ai (ae (ai (ae (b4_0,b4_1)+ae (ai (ae x/ae (b4_0,b4_1)))))/ae (ai (2:Int))))∧okI (b4_0,b4_1))with|true=>(match decide ((ce (ae (ai (ae (ai (ae (b4_0,b4_1)+ae (ai (ae x/ae (b4_0,b4_1)))))/ae (ai (2:Int))))) (ae (b4_0,b4_1)))≥0)with|true=>some [RV.d y2Y (b4_0,b4_1),RV.d atB 0]|false=>k 23 (iu x ((ai (ae (ai (ae (b4_0,b4_1)+ae (ai (ae x/ae (b4_0,b4_1)))))/ae (ai (2:Int)))).1) ((ai (ae (ai (ae (b4_0,b4_1)+ae (ai (ae x/ae (b4_0,b4_1)))))/ae (ai (2:Int)))).2)))|false=>none)|false=>none)|false=>none)))|false=>none
theorem uI(x:Bool×List Int)(b4_0:Bool)(b4_1:List Int):RN zE 23 (iu x b4_0 b4_1) (nW x b4_0 b4_1):=rnX
theorem IJ(x:BI)(hx:okI x)(h0:0<ae x):∀(m:Nat) (X:Int),X.toNat=m→0<X→bK (ae x)≤X→szI X≤900000→zE.Runs 23 (iu x (ai X).1 (ai X).2) [.d y2Y (ai (bK (ae x))),.d atB 0]:=by
 intro m
 induction m using Nat.strongRecOn with
 |ind m ih=>
  intro X hm hX hs hsz
  obtain⟨g0,g1,g2⟩:=fa (aq2 h0)
  have hq0:0≤ae x/X:=ary (by omega) (by omega)
  have hq1:ae x/X≤ae x:=asf _ (by omega)
  have oX:okI (ai X):=bk (by omega)
  have sq:szI (ae x/X)≤1000000:=aqM (cU (by omega)) (gg hx)
  have p1:dZ x (ai X):=⟨hx,oX,by rw[dec_enc];exact hX⟩
  have ssum:szI (X+ae x/X)≤1000000:=by
   have b1:=kP hsz
   have b2:=kP (gg hx)
   have e:pw 1000000=pw 900000*pw 100000:=by rw[←eo]
   have p9:(1000:Int)≤pw 100000:=by
    have:pw 100000=pw 99999*1000000000:=b8 99999
    have:=bU 99999
    omega
   have p8:=bU 900000
   have h8:pw 900000*1000≤pw 900000*pw 100000:=aqH p9 (by omega)
   rcases aqX X 2 with hX1|hX1
   ·-- X=1:then the number is less than 4
    have:X=1:=by omega
    subst this
    have:bK (ae x)≤1:=hs
    have h4:ae x<4:=by
     have:=pL (a:=bK (ae x)+1) (b:=2) (by omega) (by omega)
     omega
    refine d7 ?_ ?_<;>(rw[e,Int.ediv_one];omega)
   ·have hq2:ae x/X≤ae x/2:=by
     have:=Int.ediv_mul_le (ae x) (show X≠0 by omega)
     have h2:ae x/X*2≤ae x/X*X:=aqH hX1 hq0
     omega
    refine d7 ?_ ?_<;>(rw[e]at b2 ⊢;omega)
  have o1:okI (ai X)∧okI (ai (ae x/X)):=⟨oX,bk sq⟩
  have p2:dZ (ai (X+ae x/X)) (ai 2):=⟨bk ssum,by decide,by rw[dec_enc];decide⟩
  have hn:=UU hX g0 g1
  have o2:okI (ai ((X+ae x/X)/2))∧okI (ai X):=⟨bk (aqM (cU (by omega)) ssum),oX⟩
  by_cases hc:X≤(X+ae x/X)/2
  ·have hXs:=un hX hs g1 g2 g0 hc
   refine uI _ _ _ ⟨0,?_⟩
   unfold nW
   simp only[ao,aK]
   have e:∀z:Int,((ai z).1,(ai z).2)=ai z:=fun z=>rfl
   simp only[e,dec_enc,aqs p1,aqs o1,aqs p2,aqs o2]
   have hg:decide (ce ((X+ae x/X)/2) X≥0)=true:=by
    rcases Int.lt_or_eq_of_le hc with h|h
    ·rw[cA h];rfl
    ·rw[←h,dg];rfl
   rw[hg,hXs]
  ·obtain⟨n,hN⟩:=ih ((X+ae x/X)/2).toNat (by omega) ((X+ae x/X)/2) rfl (by
    rcases aqX 0 (bK (ae x))with h|h
    ·omega
    ·exfalso
     have:bK (ae x)=0:=by omega
     rw[this]at g2
     omega) hn (aqM (cU (by omega)) hsz)
   refine uI _ _ _ ⟨n,?_⟩
   unfold nW
   simp only[ao,aK]
   have e:∀z:Int,((ai z).1,(ai z).2)=ai z:=fun z=>rfl
   simp only[e,dec_enc,aqs p1,aqs o1,aqs p2,aqs o2]
   rw[cK (by omega)]
   exact hN
theorem Vc(x:Bool×List Int)(h:okI x):Con Tryz.prog 256 [.d y2Y x] [.d y2Y (em x),.d atB (pI x)]:=by
 refine aN C6 (show zE.Res _ _ _ from ?_)
 obtain⟨x0,x1,x2⟩:=co h
 have hl:=h.2.2
 cases hn:x.1
 ·by_cases hz:x.2=[]
  ·refine Ee _ ⟨0,?_⟩
   unfold Aa em pI
   have:ae x=0:=by unfold ae;rw[hn,hz];rfl
   rw[hn,hz,this]
   rfl
  ·have hp:0<val x.2:=dI h.1 hz
   have hd:ae x=val x.2:=by unfold ae;rw[hn];rfl
   have hlen:=ara.2 hz
   have hk:i64.wrap (Int.tdiv (i64.wrap ((x.2.length:Int)+1)) 2)=(((x.2.length+1)/2:Nat):Int):=by
    rw[cG (by omega),fe (by omega),bi (by omega) (by omega)]
    omega
   have hv:val (List.replicate ((x.2.length+1)/2) 0++[1])=pw ((x.2.length+1)/2):=by
    rw[cX,fq,asP]
    simp[val]
   have hL:a9 (List.replicate ((x.2.length+1)/2) 0++[1]):=by
    refine⟨fun y hy=>?_,by simp;omega⟩
    rcases aq7.1 hy with hy|hy
    ·have:=List.eq_of_mem_replicate hy;omega
    ·simp at hy;omega
   have hpos:=bU ((x.2.length+1)/2)
   obtain⟨n,hN⟩:=IJ x h (by omega) _ (pw ((x.2.length+1)/2)) rfl hpos (by
     obtain⟨g0,g1,g2⟩:=fa (show 0≤ae x by omega)
     have hlt:=bV h.1.1
     have hm:=cQ (show x.2.length≤(x.2.length+1)/2+(x.2.length+1)/2 by omega)
     rw[eo]at hm
     have:=sq_lt (a:=bK (ae x)) (b:=pw ((x.2.length+1)/2)) (by omega) (by omega)
     omega) (d7 (k:=900000) (by have:=bU 900000;omega) (by
      have:=cQ (show(x.2.length+1)/2+1≤900000 by omega)
      rw[b8]at this
      omega))
   refine Ee _ ⟨n,?_⟩
   unfold Aa em pI
   simp only[hk]
   rw[hn,show((x.2.length:Int)==0)=false by simp;omega]
   simp only[ar8]
   rw[aqs (show(0:Int)≤(((x.2.length+1)/2:Nat):Int)∧(((x.2.length+1)/2:Nat):Int)*((4:Nat):Int)≤140737488355328∧(((x.2.length+1)/2:Nat):Int)≤140737488355328 by omega)]
   rw[aqs (show((List.replicate ((x.2.length+1)/2) (0:Int)).length+([1]:List Nat).length)*4≤140737488355328∧(List.replicate ((x.2.length+1)/2) (0:Int)).length+([1]:List Nat).length≤140737488355328 by simp;omega)]
   rw[aqs (show aX 2 by decide)]
   have he:ai (pw ((x.2.length+1)/2))=(false,List.replicate ((x.2.length+1)/2) 0++[1]):=by
    have ho:okI ((false,List.replicate ((x.2.length+1)/2) 0++[1]):BI):=⟨⟨hL.1,by simp⟩,(fun e=>by cases e),(by simp;omega)⟩
    rw[fL ho]
    congr 1
    exact hv.symm
   rw[he]at hN
   exact hN
 ·refine Ee _ ⟨0,?_⟩
  unfold Aa em pI
  rw[hn]
  rfl
def abd:Env:=(186,mj)::Va
theorem Lh:EnvAll Tryz.prog abd:=⟨jB,C6⟩
def ahW:Ctx:=CX abd []
def Qz(x y:Bool×List Int)(_k:KT):Option (List RV):=match x.1==y.1 with|true=>(match decide (ng x.2 y.2)with|true=>some [RV.d .bool ((ce (val x.2) (val y.2))==0)]|false=>none)|false=>some [RV.d .bool false]
theorem adZ(x y:Bool×List Int):RS ahW 102 [.d y2Y x,.d y2Y y] (Qz x y):=rsX
theorem Pg(x y:Bool×List Int)(h:okI x∧okI y):Con Tryz.prog 102 [.d y2Y x,.d y2Y y] [.d .bool (decide (ae x=ae y))]:=by
 refine aN Lh (adZ _ _ ⟨0,?_⟩)
 obtain⟨hx,hy⟩:=h
 obtain⟨x0,x1,x2⟩:=co hx
 obtain⟨y0,y1,y2⟩:=co hy
 unfold Qz
 rw[dT (show ng x.2 y.2 from⟨⟨hx.1,by have:=hx.2.2;omega⟩,⟨hy.1,by have:=hy.2.2;omega⟩⟩)]
 rw[bO,bO]
 unfold bZ
 cases ex:x.1<;>cases ey:y.1<;>simp only[cond_true,cond_false]
 ·show some [RV.d .bool (ce (val x.2) (val y.2)==0)]=_
  rw[jV]
 ·have:=y1 ey
  rw[aqu (show ¬val x.2= -val y.2 by omega)]
  rfl
 ·have:=x1 ex
  rw[aqu (show ¬ -val x.2=val y.2 by omega)]
  rfl
 ·show some [RV.d .bool (ce (val x.2) (val y.2)==0)]=_
  rw[jV,show decide (val x.2=val y.2)=decide (-val x.2= -val y.2) from aq6.2 (by omega)]
def ec(q:Rat):Bool:=decide (bK q.num*bK q.num=q.num)&&decide (bK (q.den:Int)*bK (q.den:Int)=(q.den:Int))
def rtQ(q:Rat):Rat:=mkRat (bK q.num) (bK (q.den:Int)).toNat
theorem zl(z:Int):0≤bK z:=by unfold bK;omega
theorem Ae{s:Int}(h:0≤s):bK (s*s)=s:=aad h (Int.le_refl _) (by grind)
theorem lP{z:Int}(h:z<0):bK z=0:=by
 unfold bK
 rw[show z.toNat=0 by omega]
 rfl
theorem anw{s t:Nat}(ht:0<t)(hg:(s*s).Coprime (t*t)):(mkRat (s:Int) t).num=(s:Int)∧(mkRat (s:Int) t).den=t:=by
 have hc:s.Coprime t:=Nat.Coprime.coprime_dvd_left (Nat.dvd_mul_left s s) (Nat.Coprime.coprime_dvd_right (Nat.dvd_mul_left t t) hg)
 rw[ati,atj,aqQ (by omega),aqQ (by omega),arO,show t.gcd s=1 from hc.symm]
 simp
theorem Fv{q:Rat}(h:ec q=true):(rtQ q).num=bK q.num∧((rtQ q).den:Int)=bK (q.den:Int)∧rtQ q*rtQ q=q∧0≤rtQ q:=by
 unfold ec at h
 simp only[aqB,asz]at h
 obtain⟨h1,h2⟩:=h
 have hd:=q.den_pos
 have hr:=q.reduced
 obtain⟨s,hs⟩:=arG (zl q.num)
 obtain⟨t,ht⟩:=arG (zl (q.den:Int))
 unfold rtQ
 rw[hs,ht,ar8]
 rw[hs]at h1
 rw[ht]at h2
 have e1:q.num.natAbs=s*s:=by rw[←h1,←arQ,arO]
 have e2:q.den=t*t:=by rw[←arQ]at h2;omega
 have hg:(s*s).Coprime (t*t):=by rw[←e1,←e2];exact hr
 have tp:0<t:=Nat.pos_of_ne_zero fun e=>by rw[e2,e]at hd;simp at hd
 obtain⟨g1,g2⟩:=anw tp hg
 refine⟨g1,by rw[g2],?_,?_⟩
 ·rw[Rat.mkRat_mul_mkRat,←e2,h1,Rat.mkRat_self]
 ·exact Rat.num_nonneg.1 (by rw[g1];omega)
theorem Xm(r:Rat):ec (r*r)=true:=by
 have hd:=r.den_pos
 have hc:(r.den*r.den).gcd (r.num*r.num).natAbs=1:=by
  rw[as4]
  have:=r.reduced.symm
  exact Nat.Coprime.mul_left (Nat.Coprime.mul_right this this) (Nat.Coprime.mul_right this this)
 have e1:(r*r).num=r.num*r.num:=by
  rw[Rat.mul_def',ati,hc,aqQ (asT (by omega) (by omega))]
  simp
 have e2:((r*r).den:Int)=(r.den:Int)*(r.den:Int):=by
  rw[Rat.mul_def',atj,hc,aqQ (asT (by omega) (by omega)),Nat.div_one,arQ]
 unfold ec
 rw[e1,e2,Ae (s:=(r.den:Int)) (by omega)]
 rcases aqX r.num 0 with h|h
 ·rw[show r.num*r.num= -r.num* -r.num by grind,Ae (by omega)]
  simp
 ·rw[Ae h]
  simp
def rtB(q:Rat):BR:=bif ec q then ag (rtQ q)else((false,[]),(false,[]))
theorem zq{x:BI}(h:okI x):em x=ai (bK (ae x)):=by
 obtain⟨x0,x1,x2⟩:=co h
 unfold em
 cases hx:x.1
 ·rfl
 ·have:=x1 hx
  have hd:ae x= -val x.2:=by rw[bO,hx];rfl
  rw[hd,lP (by omega)]
  rfl
theorem H5{z:Int}(h:szI z≤1000000):szI (bK z)≤500000:=by
 have h1:=kP h
 have e:pw 1000000=pw 500000*pw 500000:=by rw[←eo]
 have hp:=bU 500000
 rcases aqX z 0 with h0|h0
 ·rw[lP h0];exact d7 (by omega) hp
 ·obtain⟨g0,g1,g2⟩:=fa h0
  have:=sq_lt (a:=bK z) (b:=pw 500000) (by omega) (by omega)
  exact d7 (by omega) this
theorem S7(a b:Int):(ai a==ai b)=decide (a=b):=by
 by_cases h:a=b
 ·rw[h,aqs rfl];simp
 ·rw[aqu h,as7]
  intro e
  exact h (by rw[←dec_enc a,e,dec_enc])
theorem Gj{x y:BI}(hx:okI x)(hy:okI y):(x==y)=decide (ae x=ae y):=by
 rw[fL hx,fL hy,S7,dec_enc,dec_enc]
def DQ:aM:=spN true true [tI,tI] (fun x=>decide (okI x.1∧okI x.2.1)) (fun x=>[RV.d atB (ce (ae x.1) (ae x.2.1))])
theorem By:SpK 183 DQ:=spX fun x h=>F3 x.1 x.2.1 (aqr h)
def EI:aM:=spN false true [tI,tI] (fun x=>decide (okI x.1∧okI x.2.1)) (fun x=>[RV.d tI (hid (ai (ae x.1*ae x.2.1)))])
theorem CT:SpK 184 EI:=spX fun x h=>by simp only[aj];exact HM x.1 x.2.1 (aqr h)
def Fz:aM:=spN false true [tI] (fun x=>decide (okI x.1)) (fun x=>[RV.d tI (hid (em x.1)),RV.d atB (pI x.1)])
theorem Bt:SpK 288 Fz:=spX fun x h=>by simp only[aj];exact Y5 x.1 (aqr h)
def UM:Env:=[(183,DQ),(184,EI),(288,Fz)]
theorem Dk:EnvAll Tryz.prog UM:=⟨By,CT,Bt,trivial⟩
def akY:Ctx:=CX UM []
def acE(x:BI)(_k:KT):Option (List RV):=match decide (okI x)with|true=>(match(pI x)==0 with|true=>(match decide (okI (hid (em x))∧okI (hid (em x)))with|true=>(match decide (okI (hid (ai (ae (hid (em x))*ae (hid (em x)))))∧okI x)with|true=>some [RV.d tI (hid (em x)),RV.d .bool ((ce (ae (hid (ai (ae (hid (em x))*ae (hid (em x)))))) (ae x))==0)]|false=>none)|false=>none)|false=>some [RV.d tI (hid (em x)),RV.d .bool false])|false=>none
theorem akM(x:BI):RS akY 265 [.d tI x] (acE x):=rsX
theorem W6(x:BI)(h:okI x):Con Tryz.prog 265 [.d tI x] [.d tI (ai (bK (ae x))),.d .bool (decide (bK (ae x)*bK (ae x)=ae x))]:=by
 refine aN Dk (akM _ ⟨0,?_⟩)
 have hs:=gg h
 have hz:szI (bK (ae x))≤500000:=H5 hs
 have o1:okI (ai (bK (ae x))):=bk (by omega)
 have o2:okI (ai (bK (ae x)*bK (ae x))):=bk (by have:=cB hz hz;omega)
 have o3:okI (ai (bK (ae x)*bK (ae x)))∧okI x:=⟨o2,h⟩
 have o4:okI (ai (bK (ae x)))∧okI (ai (bK (ae x))):=⟨o1,o1⟩
 have hng:x.1=true→decide (bK (ae x)*bK (ae x)=ae x)=false:=fun e=>aqu (by
  have:=(co h).2.1 e
  have hd:ae x= -val x.2:=by rw[bO,e];rfl
  rw[lP (by omega)]
  omega)
 unfold acE
 simp only[aj,zq h,dec_enc,dT h,dT o4,dT o3,jV]
 unfold pI
 cases e:x.1
 ·rfl
 ·rw[hng e];rfl
def Sw:aM:=spN false true [tI] (fun x=>decide (okI x.1)) (fun x=>[RV.d tI (hid (ai (bK (ae x.1)))),RV.d .bool (decide (bK (ae x.1)*bK (ae x.1)=ae x.1))])
theorem LG:SpK 265 Sw:=spX fun x h=>by simp only[aj];exact W6 x.1 (aqr h)
def adA:Env:=(265,Sw)::UM
theorem LN:EnvAll Tryz.prog adA:=⟨LG,Dk⟩
def amo:Ctx:=CX adA []
def ab3(a:BR)(_k:KT):Option (List RV):=match decide (okI a.1)with|true=>(match decide (bK (ae a.1)*bK (ae a.1)=ae a.1)with|true=>(match decide (okI a.2)with|true=>(match decide (bK (ae a.2)*bK (ae a.2)=ae a.2)with|true=>some [RV.d tR (hid (ai (bK (ae a.1))),hid (ai (bK (ae a.2)))),RV.d .bool true]|false=>some [RV.d tR ((false,[]),(false,[])),RV.d .bool false])|false=>none)|false=>some [RV.d tR ((false,[]),(false,[])),RV.d .bool false])|false=>none
theorem ams(a:BR):RS amo 223 [.d tR a] (ab3 a):=rsX
theorem Xc(a:BR)(h:okR a):Con Tryz.prog 223 [.d tR a] [.d tR (rtB (ab a)),.d .bool (ec (ab a))]:=by
 refine aN LN (ams _ ⟨0,?_⟩)
 obtain⟨a1,a2⟩:=cC h
 unfold ab3 rtB ec
 rw[dT h.1,dT h.2.1,a1,a2]
 simp only[aj]
 cases e1:decide (bK (ae a.1)*bK (ae a.1)=ae a.1)
 ·rfl
 ·cases e2:decide (bK (ae a.2)*bK (ae a.2)=ae a.2)
  ·rfl
  ·obtain⟨r1,r2,_⟩:=Fv (q:=ab a) (by unfold ec;rw[a1,a2,e1,e2];rfl)
   simp only[aqw,cond_true]
   unfold ag
   rw[r1,r2,a1,a2]
   try rfl
def Hj:aM:=spN false true [tI,tI] (fun x=>decide (okI x.1∧okI x.2.1)) (fun x=>[RV.d tI (hid (ai (ae x.1*ae x.2.1)))])
theorem IT:SpK 193 Hj:=spX fun x h=>by simp only[aj];exact C9 x.1 x.2.1 (aqr h)
def Il:aM:=spN false true [tI] (fun x=>decide (okI x.1)) (fun x=>[RV.d tI (hid (em x.1)),RV.d atB (pI x.1)])
theorem JI:SpK 256 Il:=spX fun x h=>by simp only[aj];exact Vc x.1 (aqr h)
def zv:aM:=spN true true [tI,tI] (fun x=>decide (okI x.1∧okI x.2.1)) (fun x=>[RV.d .bool (decide (ae x.1=ae x.2.1))])
theorem yl:SpK 102 zv:=spX fun x h=>Pg x.1 x.2.1 (aqr h)
def Fr:Env:=[(193,Hj),(256,Il),(102,zv)]
theorem xR:EnvAll Tryz.prog Fr:=⟨IT,JI,yl,trivial⟩
def agb:Ctx:=CX Fr []
def SA(x:BI)(_k:KT):Option (List RV):=match decide (okI x)with|true=>(match(pI x)==0 with|true=>(match decide (okI (hid (em x))∧okI (hid (em x)))with|true=>(match decide (okI (hid (ai (ae (hid (em x))*ae (hid (em x)))))∧okI x)with|true=>some [RV.d tI (hid (em x)),RV.d .bool (decide (ae (hid (ai (ae (hid (em x))*ae (hid (em x)))))=ae x))]|false=>none)|false=>none)|false=>some [RV.d tI (hid (em x)),RV.d .bool false])|false=>none
theorem ahP(x:BI):RS agb 213 [.d tI x] (SA x):=rsX
theorem Ni(x:BI)(h:okI x):Con Tryz.prog 213 [.d tI x] [.d tI (ai (bK (ae x))),.d .bool (decide (bK (ae x)*bK (ae x)=ae x))]:=by
 refine aN xR (ahP _ ⟨0,?_⟩)
 have hs:=gg h
 have hz:szI (bK (ae x))≤500000:=H5 hs
 have o1:okI (ai (bK (ae x))):=bk (by omega)
 have o2:okI (ai (bK (ae x)*bK (ae x))):=bk (by have:=cB hz hz;omega)
 have o3:okI (ai (bK (ae x)*bK (ae x)))∧okI x:=⟨o2,h⟩
 have o4:okI (ai (bK (ae x)))∧okI (ai (bK (ae x))):=⟨o1,o1⟩
 have hng:x.1=true→decide (bK (ae x)*bK (ae x)=ae x)=false:=fun e=>aqu (by
  have:=(co h).2.1 e
  have hd:ae x= -val x.2:=by rw[bO,e];rfl
  rw[lP (by omega)]
  omega)
 unfold SA
 simp only[aj,zq h,dec_enc,dT h,dT o4,dT o3]
 unfold pI
 cases e:x.1
 ·rfl
 ·rw[hng e];rfl
def HE:aM:=spN false true [tI] (fun x=>decide (okI x.1)) (fun x=>[RV.d tI (hid (ai (bK (ae x.1)))),RV.d .bool (decide (bK (ae x.1)*bK (ae x.1)=ae x.1))])
theorem I6:SpK 213 HE:=spX fun x h=>by simp only[aj];exact Ni x.1 (aqr h)
def T2:Env:=(213,HE)::Fr
theorem JA:EnvAll Tryz.prog T2:=⟨I6,xR⟩
def agS:Ctx:=CX T2 []
def Rb(a:BR)(_k:KT):Option (List RV):=match decide (okI a.1)with|true=>(match decide (okI a.2)with|true=>(match !(decide (bK (ae a.1)*bK (ae a.1)=ae a.1))with|true=>some [RV.d tR ((false,[]),(false,[])),RV.d .bool false]|false=>(match !(decide (bK (ae a.2)*bK (ae a.2)=ae a.2))with|true=>some [RV.d tR ((false,[]),(false,[])),RV.d .bool false]|false=>some [RV.d tR (hid (ai (bK (ae a.1))),hid (ai (bK (ae a.2)))),RV.d .bool true]))|false=>none)|false=>none
theorem ahp(a:BR):RS agS 131 [.d tR a] (Rb a):=rsX
theorem To(a:BR)(h:okR a):Con Tryz.prog 131 [.d tR a] [.d tR (rtB (ab a)),.d .bool (ec (ab a))]:=by
 refine aN JA (ahp _ ⟨0,?_⟩)
 obtain⟨a1,a2⟩:=cC h
 unfold Rb rtB ec
 rw[dT h.1,dT h.2.1,a1,a2]
 simp only[aj]
 cases e1:decide (bK (ae a.1)*bK (ae a.1)=ae a.1)
 ·rfl
 ·cases e2:decide (bK (ae a.2)*bK (ae a.2)=ae a.2)
  ·rfl
  ·obtain⟨r1,r2,_⟩:=Fv (q:=ab a) (by unfold ec;rw[a1,a2,e1,e2];rfl)
   simp only[aqw,cond_true]
   unfold ag
   rw[r1,r2,a1,a2]
   try rfl
def Re:aM:=spN false true [tI,tI] (fun x=>decide (dZ x.1 x.2.1)) (fun x=>[RV.d tI (hid (ai (ae x.1/ae x.2.1))),RV.d tI (hid (ai (ae x.1%ae x.2.1))),RV.d atB 0])
theorem RD:SpK 287 Re:=spX fun x h=>by simp only[aj];exact GK x.1 x.2.1 (aqr h)
def aaw:Env:=[(287,Re)]
theorem QZ:EnvAll Tryz.prog aaw:=⟨RD,trivial⟩
def aj6:Ctx:=CX aaw []
def abO(a:BR)(_k:KT):Option (List RV):=match decide (dZ a.1 a.2)with|true=>some [RV.d tI (hid (ai (ae a.1/ae a.2)))]|false=>none
theorem amm(a:BR):RS aj6 296 [.d tR a] (abO a):=rsX
theorem Wn(a:BR)(h:okR a):Con Tryz.prog 296 [.d tR a] [.d tI (ai (ab a).floor)]:=by
 refine aN QZ (amm _ ⟨0,?_⟩)
 obtain⟨a1,a2⟩:=cC h
 unfold abO
 rw[dT (show dZ a.1 a.2 from⟨h.1,h.2.1,h.2.2.1⟩),Rat.floor_def,a1,a2]
 simp only[aj]
def acq:Env:=[(185,mq)]
theorem SC:EnvAll Tryz.prog acq:=⟨jz,trivial⟩
def YP:NT:=[((100,6),{keep:=[1,3],hl:=1})]
def Af:Ctx:=CX acq YP
def sN(x:BI)(s3:Int):Cfg:=⟨100,[.blk 0,.seq 23],[(1,.box 0 0),(3,SI s3)],[.box 33 [SB x.1,.d atA x.2]],0,[]⟩
def ags(x:BI)(k:KT):Option (List RV):=k 6 (sN x 0)
theorem agp(x:BI):RS Af 100 [.d tI x] (ags x):=rsX
def qq(x:BI)(s3:Int)(k:KT):Option (List RV):=match decide (s3<(x.2.length:Int))with|true=>(match bu x.2 s3 with|some x1=>(match decide (x1≥1000000000)with|true=>some [RV.d .bool false]|false=>k 6 (sN x (i64.wrap (s3+1))))|none=>none)|false=>(match decide (a9 x.2)with|true=>(match((ah (val x.2).toNat).length:Int)==(x.2.length:Int)with|true=>(match !x.1 with|true=>some [RV.d .bool true]|false=>some [RV.d .bool (decide ((x.2.length:Int)>0))])|false=>some [RV.d .bool false])|false=>none)
theorem w9(x:BI)(s3:Int):RN Af 6 (sN x s3) (qq x s3):=rnX
theorem I0(x:BI)(h:okI x):∀(j i:Nat),i+j=x.2.length→Af.Runs 6 (sN x (i:Int)) [.d .bool true]:=by
 obtain⟨x0,x1,x2⟩:=co h
 have hlim:=eW h
 have hl:=h.2.2
 intro j
 induction j with
 |zero=>
  intro i hi
  refine w9 _ _ ⟨0,?_⟩
  unfold qq
  have hc:ah (val x.2).toNat=x.2:=(lD h.1).symm
  rw[cF (by omega),dT hlim,hc,beq_self_eq_true]
  dsimp only
  cases e:x.1
  ·rfl
  ·have:=x1 e
   have:x.2≠[]:=fun e=>by rw[x2]at e;omega
   have:=ara.2 this
   rw[aqs (by omega)]
   rfl
 |succ j ih=>
  intro i hi
  have hil:i<x.2.length:=by omega
  obtain⟨q,hq⟩:=ih (i+1) (by omega)
  refine w9 _ _ ⟨q,?_⟩
  unfold qq
  have hb:=(hlim.1 x.2[i] (ars hil)).2
  rw[cd hil,aI,aqt hil,cG (by omega)]
  dsimp only
  rw[aqu (by omega)]
  exact hq
theorem NR(x:BI)(h:okI x):Con Tryz.prog 100 [.d tI x] [.d .bool true]:=by
 refine aN SC (show Af.Res _ _ _ from ?_)
 obtain⟨q,hq⟩:=I0 x h x.2.length 0 (by omega)
 exact agp _ ⟨q,hq⟩
def GD:aM:=spN true true [tI] (fun x=>decide (okI x.1)) (fun _=>[RV.d .bool true])
theorem JK:SpK 100 GD:=spX fun x h=>NR x.1 (aqr h)
def Gv:aM:=spN true true [tI] (fun x=>decide (okI x.1)) (fun x=>[RV.d atB (ce (ae x.1) 0)])
theorem IK:SpK 101 Gv:=spX fun x h=>Dq x.1 (aqr h)
def Iu:aM:=spN false true [tI,tI] (fun x=>decide (okI x.1∧okI x.2.1)) (fun x=>[RV.d tI (hid (ai ((Int.gcd (ae x.1) (ae x.2.1):Nat):Int)))])
theorem Kg:SpK 103 Iu:=spX fun x h=>by simp only[aj];exact Br x.1 x.2.1 (aqr h)
def GG:aM:=spN false true [] (fun _=>true) (fun _=>[RV.d tI (hid (ai 1))])
theorem Kk:SpK 104 GG:=spX fun _ _=>by simp only[aj];exact CH
def ach:Env:=[(102,zv),(100,GD),(101,Gv),(103,Iu),(104,GG)]
theorem Lc:EnvAll Tryz.prog ach:=⟨yl,JK,IK,Kg,Kk,trivial⟩
def agK:Ctx:=CX ach []
def Tb(a:BR)(_k:KT):Option (List RV):=match decide (okI a.1)with|true=>(match decide (okI a.2)with|true=>(match decide (okI a.2)with|true=>(match(ce (ae a.2) 0) !=1 with|true=>some [RV.d .bool false]|false=>(match decide (okI a.1∧okI a.2)with|true=>(match decide (okI (hid (ai ((Int.gcd (ae a.1) (ae a.2):Nat):Int)))∧okI (hid (ai 1)))with|true=>some [RV.d .bool (decide (ae (hid (ai ((Int.gcd (ae a.1) (ae a.2):Nat):Int)))=ae (hid (ai 1))))]|false=>none)|false=>none))|false=>none)|false=>none)|false=>none
theorem ahu(a:BR):RS agK 31 [.d tR a] (Tb a):=rsX
theorem Nq(a:BR)(h:okR a):Con Tryz.prog 31 [.d tR a] [.d .bool true]:=by
 refine aN Lc (ahu _ ⟨0,?_⟩)
 obtain⟨h1,h2,h3,h4,_⟩:=h
 have o1:okI (ai ((Int.gcd (ae a.1) (ae a.2):Nat):Int)):=by rw[h4];exact mR
 unfold Tb
 simp only[aj]
 rw[dT h1,dT h2,dT (show okI a.1∧okI a.2 from⟨h1,h2⟩),cA h3,dT (show okI (ai ((Int.gcd (ae a.1) (ae a.2):Nat):Int))∧okI (ai 1) from⟨o1,mR⟩),dec_enc,dec_enc,h4]
 rfl
def mkR(a b c:Rat):Rt:=bif ec c then(a+b*rtQ c,0,0)else bif decide (b=0)then(a,0,0)else(a,b,c)
def coR(a b c:Rat):Rt:=bif decide (b=0)then(a,0,0)else(a,b,c)
class Nn (c:Rat):Prop where le:0≤c
def XJ(x:Rt):Prop:=(x.2.1=0∧x.2.2=0)∨(x.2.1≠0∧0<x.2.2∧ec x.2.2=false)
instance (x:Rt):Decidable (XJ x):=by unfold XJ;infer_instance
class Rdd (x:Rt):Prop where
 rd:XJ x
def okT(k:Nat)(x:BO3):Prop:=ok Rt k x∧XJ (dec x)
instance (k:Nat) (x:BO3):Decidable (okT k x):=by unfold okT;infer_instance
theorem ew{k:Nat}{x:BO3}(h:okT k x):∃v:Rt,x=enc v∧Bd v k∧Rdd v:=by
 obtain⟨h1,h2⟩:=h
 obtain⟨v,rfl,bv⟩:=aQ h1
 rw[ak]at h2
 exact⟨v,rfl,bv,⟨h2⟩⟩
theorem bh{x:Rt}{j k:Nat}[h:Bd x j][r:Rdd x](hj:j≤k)(hk:k≤480000):decide (okT k (enc x))=true:=aqs ⟨aqr (okd hj hk),by rw[ak];exact r.rd⟩
theorem Rdd.nn{x:Rt}(h:Rdd x):0≤x.2.2:=by
 rcases h.rd with h|h<;>grind
instance aqi {x:Rt} [h:Rdd x]:Nn x.2.2:=⟨h.nn⟩
theorem pC:ec 0=true:=by decide+kernel
theorem Gp{c:Rat}(h:0≤c)(hc:ec c=false):0<c:=by
 rcases(by grind:c=0∨0<c)with h|h
 ·rw[h,pC]at hc;cases hc
 ·exact h
instance pP {a b c:Rat} [h:Nn c]:Rdd (mkR a b c):=by
 refine⟨?_⟩
 unfold mkR
 cases hc:ec c
 ·simp only[cond_false]
  by_cases hb:b=0
  ·rw[aqs hb];exact .inl ⟨rfl,rfl⟩
  ·rw[aqu hb];exact .inr ⟨hb,Gp h.le hc,hc⟩
 ·exact .inl ⟨rfl,rfl⟩
instance afq {a:Rat}:Rdd (a,0,0):=⟨.inl ⟨rfl,rfl⟩⟩
namespace RE
theorem Q1{c:Rat}(h:ec c=true):rq c=of (rtQ c):=by
 obtain⟨_,_,e,h0⟩:=Fv h
 refine ako _ _ (ak2 c) (lT.2 h0) ?_
 rw[rM (by rw[←e];exact ari h0 h0),←cE,e]
theorem jk(a c:Rat):v2 a 0 c=of a:=by
 unfold v2
 rw[Gn,zero_mul,add_zero]
theorem vR_mk(a b c:Rat):vR (mkR a b c)=v2 a b c:=by
 unfold mkR vR
 cases hc:ec c
 ·simp only[cond_false]
  by_cases hb:b=0
  ·rw[aqs hb];subst hb;show v2 a 0 0=_;rw[jk,jk]
  ·rw[aqu hb];rfl
 ·show v2 (a+b*rtQ c) 0 0=_
  rw[jk]
  unfold v2
  rw[Q1 hc,of_add,cE]
theorem vR_co(a b c:Rat):vR (coR a b c)=v2 a b c:=by
 unfold coR vR
 by_cases hb:b=0
 ·rw[aqs hb];subst hb;show v2 a 0 0=_;rw[jk,jk]
 ·rw[aqu hb];rfl
end RE
theorem XL{z:Int}(h:0≤z):bK z≤z:=by
 obtain⟨g0,g1,g2⟩:=fa h
 rcases aqX (bK z) 1 with h'|h'
 ·omega
 ·have:bK z*1≤bK z*bK z:=aqH h' g0
  omega
theorem Ci(z:Int):szI (bK z)≤szI z:=by
 have h0:=zl z
 rcases aqX z 0 with h|h
 ·rw[lP h];exact cU (by omega)
 ·have:=XL h
  exact cU (by omega)
instance ap3 {c:Rat} {k:Nat} [h:Bd c k]:Bd (rtQ c) k:=by
 have hd:=c.den_pos
 have h1:0<bK (c.den:Int):=by
  obtain⟨g0,g1,g2⟩:=fa (show(0:Int)≤(c.den:Int) by omega)
  rcases aqX 0 (bK (c.den:Int))with h|h
  ·exact h
  ·rw[show bK (c.den:Int)=0 by omega]at g2;omega
 refine⟨p7 (by omega) (aqM (Ci _) h.le.1) ?_⟩
 rw[Int.toNat_of_nonneg (by omega)]
 exact aqM (Ci _) h.le.2
instance apK {a b c:Rat} {i j k:Nat} [ha:Bd a i] [hb:Bd b j] [hc:Bd c k]:Bd (mkR a b c) (i+(j+k)+1):=by
 have z:bdR (i+(j+k)+1) 0:=bP kI.le (by omega)
 refine⟨?_⟩
 unfold mkR
 cases ec c
 ·simp only[cond_false]
  cases decide (b=0)
  ·exact⟨bP ha.le (by omega),bP hb.le (by omega),bP hc.le (by omega)⟩
  ·exact⟨bP ha.le (by omega),z,z⟩
 ·exact⟨(inferInstance:Bd (a+b*rtQ c) (i+(j+k)+1)).le,z,z⟩
instance ao7 {a b c:Rat} {i j k:Nat} [ha:Bd a i] [hb:Bd b j] [hc:Bd c k]:Bd (coR a b c) (mx i (mx j k)):=by
 have h1:=yy i (mx j k)
 have h2:=zw i (mx j k)
 have h3:=yy j k
 have h4:=zw j k
 have h5:=kK ha.le
 have z:bdR (mx i (mx j k)) 0:=bP kI.le (by omega)
 refine⟨?_⟩
 unfold coR
 cases decide (b=0)
 ·exact⟨bP ha.le (by omega),bP hb.le (by omega),bP hc.le (by omega)⟩
 ·exact⟨bP ha.le (by omega),z,z⟩
class Ns (c:Rat):Prop where ns:c=0∨(0<c∧ec c=false)
theorem Ns.nn{c:Rat}(h:Ns c):0≤c:=by rcases h.ns with h|h<;>grind
instance aqa {c:Rat} [h:Ns c]:Nn c:=⟨h.nn⟩
theorem ae5{a b c:Rat}{i j k:Nat}[ha:Bd a i][hb:Bd b j][hc:Bd c k][hn:Ns c]:Bd (mkR a b c) (mx (i+j+2) k):=by
 have h1:=yy (i+j+2) k
 have h2:=zw (i+j+2) k
 have z:bdR (mx (i+j+2) k) 0:=bP kI.le (by omega)
 refine⟨?_⟩
 unfold mkR
 rcases hn.ns with h|h
 ·subst h
  rw[pC]
  have e:rtQ 0=0:=by decide+kernel
  exact⟨by show bdR _ (a+b*rtQ 0);rw[e];exact bP (yL ha.le (yR hb.le kI.le)) (by omega),z,z⟩
 ·rw[h.2]
  simp only[cond_false]
  cases decide (b=0)
  ·exact⟨bP ha.le (by omega),bP hb.le (by omega),bP hc.le (by omega)⟩
  ·exact⟨bP ha.le (by omega),z,z⟩
def sgR(x:Rt):Int:=eK x.1 x.2.1 x.2.2
def noR(x:Rt):Rat:=x.1*x.1-x.2.1*x.2.1*x.2.2
theorem Et{x:Rt}(h:0≤x.2.2):sgR x=RE.sg (RE.vR x):=RE.sgn2_re h
def ju(a b c:Rat):Rt:=bif decide (b=0)then(a,0,0)else bif decide (c=0)then(a,0,0)else(a,b,c)
instance apz {x:Rt} {k:Nat} [h:Bd x k]:Bd (noR x) (5*k+1):=(inferInstance:Bd (x.1*x.1-x.2.1*x.2.1*x.2.2) (k+k+(k+k+k)+1)).mono (by omega)
theorem Vr{c:Rat}(h:ec c=true):rtB c=ag (rtQ c):=by unfold rtB;rw[h];rfl
theorem agA{x:Rt}(h:Rdd x)(hb:x.2.1≠0):noR x≠0:=by
 intro e
 rcases h.rd with h|⟨_,h1,h2⟩
 ·exact hb h.1
 ·unfold noR at e
  have:x.2.2=x.1/x.2.1*(x.1/x.2.1):=by grind
  rw[this,Xm]at h2
  cases h2
theorem aak{x:Rt}(h:Rdd x):sgR x=bif aS x.2.1 0==0 then aS x.1 0 else bif aS x.1 0==aS x.2.1 0 then aS x.1 0 else bif aS x.1 0==0 then aS x.2.1 0 else aS x.1 0*aS (noR x) 0:=by
 unfold sgR eK RE.addS
 rcases h.rd with⟨h1,h2⟩|⟨h0,h1,h2⟩
 ·rw[h1,dp]
  simp
 ·have hb:(aS x.2.1 0==0)=false:=by rw[aH,aqu h0]
  rw[cS h1,asC,hb]
  unfold noR
  rw[um]
  rfl
def DG:aM:=spN false true [tR] (fun x=>decide (okR x.1)) (fun x=>[RV.d tR (hid (rtB (ab x.1))),RV.d .bool (ec (ab x.1))])
theorem Cq:SpK 223 DG:=spX fun x h=>by simp only[aj];exact Xc x.1 (aqr h)
def Hp:Env:=[(76,gT),(149,jr),(147,iC),(148,gU),(83,fW),(223,DG)]
theorem vz:EnvAll Tryz.prog Hp:=⟨eI,fN,fi,eH,eg,Cq,trivial⟩
def ai3:Ctx:=CX Hp []
def adv(_k:KT):Option (List RV):=match decide (aX (0:Int))with|true=>some [RV.d tR (hid (ag ((0:Int):Rat)))]|false=>none
theorem anp:RS ai3 157 [] (adv):=rsX
theorem Yd:Con Tryz.prog 157 [] [.d tR (ag 0)]:=by
 refine aN vz (anp ⟨0,?_⟩)
 unfold adv
 rw[dT (show aX 0 by decide)]
 simp only[aj]
 rfl
def T7:aM:=spN false true [] (fun _=>true) (fun _=>[RV.d tR (hid (ag 0))])
theorem OR:SpK 157 T7:=spX fun _ _=>by simp only[aj];exact Yd
def F5:Env:=(157,T7)::Hp
theorem vU:EnvAll Tryz.prog F5:=⟨OR,vz⟩
def alW:Ctx:=CX F5 []
def abE(a:BR)(_k:KT):Option (List RV):=some [RV.d tO (a,(hid (ag 0),hid (ag 0)))]
theorem aj3(a:BR):RS alW 71 [.d tR a] (abE a):=rsX
theorem Zs(a:BR)(h:okR a):Con Tryz.prog 71 [.d tR a] [.d tO (enc ((ab a,0,0):Rt))]:=by
 refine aN vU (aj3 _ ⟨0,?_⟩)
 have ha:=h
 obtain⟨a,rfl,ba⟩:=dQ ha
 unfold abE
 simp only[aj,aP,aA,av]
 try rfl
def amu:Ctx:=CX F5 []
def aah(a b c:BR)(_k:KT):Option (List RV):=match decide (okR b)with|true=>(match(aS (ab b) 0)==0 with|true=>some [RV.d tO (a,(b,hid (ag 0)))]|false=>some [RV.d tO (a,(b,c))])|false=>none
theorem alD(a b c:BR):RS amu 224 [.d tR a,.d tR b,.d tR c] (aah a b c):=rsX
theorem Xd(a b c:BR)(h:okR a∧okR b∧okR c):Con Tryz.prog 224 [.d tR a,.d tR b,.d tR c] [.d tO (enc (coR (ab a) (ab b) (ab c)))]:=by
 refine aN vU (alD _ _ _ ⟨0,?_⟩)
 obtain⟨ha,hb,hc⟩:=h
 obtain⟨a,rfl,ba⟩:=dQ ha
 obtain⟨b,rfl,bb⟩:=dQ hb
 obtain⟨c,rfl,bc⟩:=dQ hc
 unfold aah
 simp only[aj,av,aT,Nat.reduceLeDiff,aH]
 unfold coR
 by_cases e:b=0
 ·subst e;rw[aqs rfl];rfl
 ·rw[aqu e];rfl
def nH:aM:=spN false true [tR] (fun x=>decide (okR x.1)) (fun x=>[RV.d tO (hid (enc ((ab x.1,0,0):Rt)))])
theorem jU:SpK 71 nH:=spX fun x h=>by simp only[aj];exact Zs x.1 (aqr h)
def Q7:aM:=spN false true [tR,tR,tR] (fun x=>decide (okR x.1∧okR x.2.1∧okR x.2.2.1)) (fun x=>[RV.d tO (hid (enc (coR (ab x.1) (ab x.2.1) (ab x.2.2.1))))])
theorem MG:SpK 224 Q7:=spX fun x h=>by simp only[aj];exact Xd x.1 x.2.1 x.2.2.1 (aqr h)
def aav:Env:=(71,nH)::(224,Q7)::F5
theorem Rg:EnvAll Tryz.prog aav:=⟨jU,MG,vU⟩
def ajW:Ctx:=CX aav []
def aat(a b c:BR)(_k:KT):Option (List RV):=match decide (okR c)with|true=>(match decide ((aS (ab c) 0)<0)with|true=>some [RV.d tO (((false,[]),(false,[])),(((false,[]),(false,[])),((false,[]),(false,[])))),RV.d atB 7]|false=>(match decide (okR c)with|true=>(match ec (ab c)with|true=>(match decide (okR b∧okR (hid (rtB (ab c))))with|true=>(match decide (okR a∧okR (hid (ag (ab b*ab (hid (rtB (ab c)))))))with|true=>(match decide (okR (hid (ag (ab a+ab (hid (ag (ab b*ab (hid (rtB (ab c))))))))))with|true=>some [RV.d tO (hid (enc ((ab (hid (ag (ab a+ab (hid (ag (ab b*ab (hid (rtB (ab c))))))))),0,0):Rt))),RV.d atB 0]|false=>none)|false=>none)|false=>none)|false=>(match decide (okR a∧okR b∧okR c)with|true=>some [RV.d tO (hid (enc (coR (ab a) (ab b) (ab c)))),RV.d atB 0]|false=>none))|false=>none))|false=>none
theorem alq(a b c:BR):RS ajW 158 [.d tR a,.d tR b,.d tR c] (aat a b c):=rsX
theorem X3(a b c:BR)(h:ok Rat 100000 a∧ok Rat 100000 b∧ok Rat 100000 c∧0≤ab c):Con Tryz.prog 158 [.d tR a,.d tR b,.d tR c] [.d tO (enc (mkR (ab a) (ab b) (ab c))),.d atB 0]:=by
 refine aN Rg (alq _ _ _ ⟨0,?_⟩)
 obtain⟨ha,hb,hc,hc_3⟩:=h
 obtain⟨a,rfl,ba⟩:=aQ ha
 obtain⟨b,rfl,bb⟩:=aQ hb
 obtain⟨c,rfl,bc⟩:=aQ hc
 rw[aA,av]at hc_3
 unfold aat
 simp only[aj,aP,aA,av,aT,aqv,aqw,aqx,Nat.reduceLeDiff,aJ,aqu (show ¬c<0 by grind)]
 unfold mkR
 cases hq:ec c
 ·have hz:c≠0:=fun e=>by rw[e,pC]at hq;cases hq
  simp only[cond_false]
  try rfl
 ·rw[Vr hq]
  simp only[aP,aA,av,aT,Nat.reduceAdd,Nat.reduceLeDiff,cond_true]
  try rfl
def r7:aM:=spN false true [tR] (fun x=>decide (okR x.1)) (fun x=>[RV.d tR (hid (rtB (ab x.1))),RV.d .bool (ec (ab x.1))])
theorem qx:SpK 131 r7:=spX fun x h=>by simp only[aj];exact To x.1 (aqr h)
def Ak:aM:=spN true true [tR] (fun x=>decide (okR x.1)) (fun _=>[RV.d .bool true])
theorem xO:SpK 31 Ak:=spX fun x h=>Nq x.1 (aqr h)
def Fg:Env:=[(50,gA),(127,gW),(161,gY),(132,gn),(78,fo),(131,r7),(31,Ak)]
theorem xQ:EnvAll Tryz.prog Fg:=⟨eP,fG,fA,eJ,dR,qx,xO,trivial⟩
def ahy:Ctx:=CX Fg []
def Nz(_k:KT):Option (List RV):=match decide (aX (0:Int))with|true=>some [RV.d tR (hid (ag ((0:Int):Rat)))]|false=>none
theorem ahG:RS ahy 145 [] (Nz):=rsX
theorem Pq:Con Tryz.prog 145 [] [.d tR (ag 0)]:=by
 refine aN xQ (ahG ⟨0,?_⟩)
 unfold Nz
 rw[dT (show aX 0 by decide)]
 simp only[aj]
 rfl
def zI:aM:=spN false true [] (fun _=>true) (fun _=>[RV.d tR (hid (ag 0))])
theorem wU:SpK 145 zI:=spX fun _ _=>by simp only[aj];exact Pq
def FE:Env:=(145,zI)::Fg
theorem xu:EnvAll Tryz.prog FE:=⟨wU,xQ⟩
def aey:Ctx:=CX FE []
def Su(a:BR)(_k:KT):Option (List RV):=some [RV.d tO (a,(hid (ag 0),hid (ag 0)))]
theorem aeL(a:BR):RS aey 57 [.d tR a] (Su a):=rsX
theorem PH(a:BR)(h:okR a):Con Tryz.prog 57 [.d tR a] [.d tO (enc ((ab a,0,0):Rt))]:=by
 refine aN xu (aeL _ ⟨0,?_⟩)
 have ha:=h
 obtain⟨a,rfl,ba⟩:=dQ ha
 unfold Su
 simp only[aj,aP,aA,av]
 try rfl
def sA:aM:=spN false true [tR] (fun x=>decide (okR x.1)) (fun x=>[RV.d tO (hid (enc ((ab x.1,0,0):Rt)))])
theorem rh:SpK 57 sA:=spX fun x h=>by simp only[aj];exact PH x.1 (aqr h)
def AT:Env:=(57,sA)::FE
theorem rk:EnvAll Tryz.prog AT:=⟨rh,xu⟩
def afl:Ctx:=CX AT []
def OX(n:Int)(_k:KT):Option (List RV):=match decide (aX n)with|true=>(match decide (okR (hid (ag (n:Rat))))with|true=>some [RV.d tO (hid (enc ((ab (hid (ag (n:Rat))),0,0):Rt)))]|false=>none)|false=>none
theorem agG(n:Int):RS afl 51 [SI n] (OX n):=rsX
theorem Vd(n:Int)(h:aX n):Con Tryz.prog 51 [.d atB n] [.d tO (enc (((n:Rat),0,0):Rt))]:=by
 refine aN rk (agG _ ⟨0,?_⟩)
 have hn:=h
 have bn:=cP hn
 unfold OX
 simp only[aj,aP,aA,av,aT,Nat.reduceLeDiff,dT hn]
 try rfl
def ad1:Ctx:=CX AT []
def Qg(a b c:BR)(_k:KT):Option (List RV):=match decide (okR b)with|true=>(match(aS (ab b) 0)==0 with|true=>(match decide (okR a)with|true=>some [RV.d tO (hid (enc ((ab a,0,0):Rt)))]|false=>none)|false=>(match decide (okR c)with|true=>(match(aS (ab c) 0)==0 with|true=>(match decide (okR a)with|true=>some [RV.d tO (hid (enc ((ab a,0,0):Rt)))]|false=>none)|false=>some [RV.d tO (a,(b,c))])|false=>none))|false=>none
theorem af2(a b c:BR):RS ad1 133 [.d tR a,.d tR b,.d tR c] (Qg a b c):=rsX
theorem SW(a b c:BR)(h:okR a∧okR b∧okR c):Con Tryz.prog 133 [.d tR a,.d tR b,.d tR c] [.d tO (enc (ju (ab a) (ab b) (ab c)))]:=by
 refine aN rk (af2 _ _ _ ⟨0,?_⟩)
 obtain⟨ha,hb,hc⟩:=h
 obtain⟨a,rfl,ba⟩:=dQ ha
 obtain⟨b,rfl,bb⟩:=dQ hb
 obtain⟨c,rfl,bc⟩:=dQ hc
 unfold Qg
 simp only[aj,aP,aA,av,aT,Nat.reduceLeDiff,aH]
 unfold ju
 by_cases e:b=0
 ·rw[aqs e];rfl
 ·rw[aqu e]
  by_cases e:c=0
  ·rw[aqs e];rfl
  ·rw[aqu e];rfl
def yN:aM:=spN false true [tR,tR,tR] (fun x=>decide (okR x.1∧okR x.2.1∧okR x.2.2.1)) (fun x=>[RV.d tO (hid (enc (ju (ab x.1) (ab x.2.1) (ab x.2.2.1))))])
theorem wJ:SpK 133 yN:=spX fun x h=>by simp only[aj];exact SW x.1 x.2.1 x.2.2.1 (aqr h)
def SG:Env:=(133,yN)::AT
theorem Jj:EnvAll Tryz.prog SG:=⟨wJ,rk⟩
def aii:Ctx:=CX SG []
def Ry(a b c:BR)(_k:KT):Option (List RV):=match decide (okR c)with|true=>(match decide ((aS (ab c) 0)<0)with|true=>some [RV.d tO (((false,[]),(false,[])),(((false,[]),(false,[])),((false,[]),(false,[])))),RV.d atB 7]|false=>(match decide (okR c)with|true=>(match ec (ab c)with|true=>(match decide (okR b∧okR (hid (rtB (ab c))))with|true=>(match decide (okR a∧okR (hid (ag (ab b*ab (hid (rtB (ab c)))))))with|true=>(match decide (okR (hid (ag (ab a+ab (hid (ag (ab b*ab (hid (rtB (ab c))))))))))with|true=>some [RV.d tO (hid (enc ((ab (hid (ag (ab a+ab (hid (ag (ab b*ab (hid (rtB (ab c))))))))),0,0):Rt))),RV.d atB 0]|false=>none)|false=>none)|false=>none)|false=>(match decide (okR a∧okR b∧okR c)with|true=>some [RV.d tO (hid (enc (ju (ab a) (ab b) (ab c)))),RV.d atB 0]|false=>none))|false=>none))|false=>none
theorem ad7(a b c:BR):RS aii 49 [.d tR a,.d tR b,.d tR c] (Ry a b c):=rsX
theorem S3(a b c:BR)(h:ok Rat 100000 a∧ok Rat 100000 b∧ok Rat 100000 c∧0≤ab c):Con Tryz.prog 49 [.d tR a,.d tR b,.d tR c] [.d tO (enc (mkR (ab a) (ab b) (ab c))),.d atB 0]:=by
 refine aN Jj (ad7 _ _ _ ⟨0,?_⟩)
 obtain⟨ha,hb,hc,hc_3⟩:=h
 obtain⟨a,rfl,ba⟩:=aQ ha
 obtain⟨b,rfl,bb⟩:=aQ hb
 obtain⟨c,rfl,bc⟩:=aQ hc
 rw[aA,av]at hc_3
 unfold Ry
 simp only[aj,aP,aA,av,aT,aqv,aqw,aqx,Nat.reduceLeDiff,aJ,aqu (show ¬c<0 by grind)]
 unfold mkR
 cases hq:ec c
 ·have hz:c≠0:=fun e=>by rw[e,pC]at hq;cases hq
  simp only[cond_false,ju,aqu hz]
  try rfl
 ·rw[Vr hq]
  simp only[aP,aA,av,aT,Nat.reduceAdd,Nat.reduceLeDiff,cond_true]
  try rfl
def anU:Ctx:=CX Hp []
def adE(r:BO3)(_k:KT):Option (List RV):=match decide (okR r.1∧okR r.1)with|true=>(match decide (okR r.2.1∧okR r.2.1)with|true=>(match decide (okR (hid (ag (ab r.2.1*ab r.2.1)))∧okR r.2.2)with|true=>(match decide (okR (hid (ag (ab r.1*ab r.1)))∧okR (hid (ag (ab (hid (ag (ab r.2.1*ab r.2.1)))*ab r.2.2))))with|true=>some [RV.d tR (hid (ag (ab (hid (ag (ab r.1*ab r.1)))-ab (hid (ag (ab (hid (ag (ab r.2.1*ab r.2.1)))*ab r.2.2))))))]|false=>none)|false=>none)|false=>none)|false=>none
theorem ai1(r:BO3):RS anU 200 [.d tO r] (adE r):=rsX
theorem YA(r:BO3)(h:ok Rt 15000 r):Con Tryz.prog 200 [.d tO r] [.d tR (ag (noR (dec r)))]:=by
 refine aN vz (ai1 _ ⟨0,?_⟩)
 have hr:=h
 obtain⟨r,rfl,br⟩:=aQ hr
 unfold adE
 simp only[aj,ak,aD,aE,aA,av,aT,aqv,aqw,Nat.reduceAdd,Nat.reduceLeDiff]
 try rfl
abbrev Iv:=Int×Int
def prI(i:Iv):Prop:= -2305843009213693952≤i.1∧i.1≤i.2∧i.2≤2305843009213693952
instance (i:Iv):Decidable (prI i):=by unfold prI;infer_instance
def iv0:Iv:=(0,0)
theorem eD:prI iv0:=by decide
def kg(lo hi:Int):Iv×Bool:=bif decide (lo< -2305843009213693952)then(iv0,false)else bif decide (hi>2305843009213693952)then(iv0,false)else((lo,hi),true)
theorem zH{lo hi:Int}(h:lo≤hi):prI (kg lo hi).1:=by
 unfold kg
 by_cases h1:lo< -2305843009213693952
 ·rw[aqs h1];exact eD
 ·rw[aqu h1]
  by_cases h2:hi>2305843009213693952
  ·rw[aqs h2];exact eD
  ·rw[aqu h2];exact⟨by show _≤lo;omega,h,by show hi≤_;omega⟩
theorem yZ{lo hi:Int}(h:(kg lo hi).2=true):(kg lo hi).1=(lo,hi):=by
 unfold kg at h ⊢
 by_cases h1:lo< -2305843009213693952
 ·rw[aqs h1]at h;cases h
 ·rw[aqu h1]at h ⊢
  by_cases h2:hi>2305843009213693952
  ·rw[aqs h2]at h;cases h
  ·rw[aqu h2];rfl
def frF(q:Rat):Iv×Bool:=bif decide (aX (q*65536).floor)then bif decide (aX (-(-(q*65536)).floor))then kg (q*65536).floor (-(-(q*65536)).floor)else(iv0,false)else(iv0,false)
def cV(a b:Iv):Iv×Bool:=kg (a.1+b.1) (a.2+b.2)
def jn(a:Iv):Iv:=(-a.2,-a.1)
def scF(x y:Int):(Int×Int)×Bool:=
 bif decide (x.natAbs*y.natAbs≥1208925819614629174706176)then((0,0),false)else bif decide (x.natAbs*y.natAbs/65536>2305843009213693952)then((0,0),false)
 else bif decide (x<0)==decide (y<0)then((((x.natAbs*y.natAbs/65536:Nat):Int),(((x.natAbs*y.natAbs+65535)/65536:Nat):Int)),decide ((x.natAbs*y.natAbs+65535)/65536≤2305843009213693952))
 else((-(((x.natAbs*y.natAbs+65535)/65536:Nat):Int),-((x.natAbs*y.natAbs/65536:Nat):Int)),decide ((x.natAbs*y.natAbs+65535)/65536≤2305843009213693952))
theorem afQ{x y:Int}(h:(scF x y).2=true):(scF x y).1.1*65536≤x*y∧x*y≤(scF x y).1.2*65536∧ -2305843009213693952≤(scF x y).1.1∧(scF x y).1.2≤2305843009213693952:=by
 have ep:(((x.natAbs*y.natAbs:Nat)):Int)=(x.natAbs:Int)*(y.natAbs:Int):=arQ _ _
 have hs:(decide (x<0)==decide (y<0))=true→x*y=(((x.natAbs*y.natAbs:Nat)):Int):=fun e=>by
  rw[ep]
  by_cases hx:x<0<;>by_cases hy:y<0
  ·rw[show(x.natAbs:Int)= -x by omega,show(y.natAbs:Int)= -y by omega];grind
  ·simp[hx,hy]at e
  ·simp[hx,hy]at e
  ·rw[show(x.natAbs:Int)=x by omega,show(y.natAbs:Int)=y by omega]
 have hd:(decide (x<0)==decide (y<0))=false→x*y= -(((x.natAbs*y.natAbs:Nat)):Int):=fun e=>by
  rw[ep]
  by_cases hx:x<0<;>by_cases hy:y<0
  ·simp[hx,hy]at e
  ·rw[show(x.natAbs:Int)= -x by omega,show(y.natAbs:Int)=y by omega];grind
  ·rw[show(x.natAbs:Int)=x by omega,show(y.natAbs:Int)= -y by omega];grind
  ·simp[hx,hy]at e
 unfold scF at h ⊢
 generalize x.natAbs*y.natAbs=p at*
 by_cases h1:p≥1208925819614629174706176
 ·rw[aqs h1]at h;cases h
 rw[aqu h1]at h ⊢
 by_cases h2:p/65536>2305843009213693952
 ·rw[aqs h2]at h;cases h
 rw[aqu h2]at h ⊢
 cases e:(decide (x<0)==decide (y<0))<;>rw[e]at h<;>have h3:=aqr h
 ·rw[hd e]
  show-(((p+65535)/65536:Nat):Int)*65536≤_∧_≤ -((p/65536:Nat):Int)*65536∧_≤ -(((p+65535)/65536:Nat):Int)∧ -((p/65536:Nat):Int)≤_
  omega
 ·rw[hs e]
  show((p/65536:Nat):Int)*65536≤_∧_≤(((p+65535)/65536:Nat):Int)*65536∧_≤((p/65536:Nat):Int)∧(((p+65535)/65536:Nat):Int)≤_
  omega
def fM(s:Iv×Bool)(x y:Int):Iv×Bool:=bif s.2&&(scF x y).2 then((if(scF x y).1.1<s.1.1 then(scF x y).1.1 else s.1.1,if(scF x y).1.2>s.1.2 then(scF x y).1.2 else s.1.2),true)else(iv0,false)
def cr(a b:Iv):Iv×Bool:=fM (fM (fM (fM ((2305843009213693952,-2305843009213693952),true) a.1 b.1) a.1 b.2) a.2 b.1) a.2 b.2
theorem iW{s:Iv×Bool}{x y:Int}(h:(fM s x y).2=true):s.2=true∧(fM s x y).1.1≤s.1.1∧s.1.2≤(fM s x y).1.2∧(fM s x y).1.1*65536≤x*y∧x*y≤(fM s x y).1.2*65536∧((-2305843009213693952≤s.1.1∧s.1.2≤2305843009213693952)→ -2305843009213693952≤(fM s x y).1.1∧(fM s x y).1.2≤2305843009213693952):=by
 unfold fM at h ⊢
 cases e:(s.2&&(scF x y).2)<;>rw[e]at h
 ·cases h
 ·obtain⟨e1,e2⟩:=ar2.1 e
  obtain⟨g1,g2,g3,g4⟩:=afQ e2
  refine⟨e1,?_⟩
  simp only[cond_true]
  split<;>split<;>refine⟨by omega,by omega,by omega,by omega,fun h=>by omega⟩
theorem oq(a b:Iv):prI (cr a b).1:=by
 cases h:(cr a b).2
 ·unfold cr fM at h ⊢
  revert h
  cases((_:Iv×Bool).2&&(scF a.2 b.2).2)
  ·intro _;exact eD
  ·intro h;cases h
 ·unfold cr at h ⊢
  obtain⟨h3,a3,b3,c3,d3,e3⟩:=iW h
  obtain⟨h2,a2,b2,c2,d2,e2⟩:=iW h3
  obtain⟨h1,a1,b1,c1,d1,e1⟩:=iW h2
  obtain⟨h0,a0,b0,c0,d0,e0⟩:=iW h1
  have k:=e3 (e2 (e1 (e0 (by decide))))
  exact⟨k.1,by omega,k.2⟩
theorem YM{a b:Iv}(h:(cr a b).2=true):∀x y,(x=a.1∨x=a.2)→(y=b.1∨y=b.2)→(cr a b).1.1*65536≤x*y∧x*y≤(cr a b).1.2*65536:=by
 unfold cr at h ⊢
 obtain⟨h3,a3,b3,c3,d3,e3⟩:=iW h
 obtain⟨h2,a2,b2,c2,d2,e2⟩:=iW h3
 obtain⟨h1,a1,b1,c1,d1,e1⟩:=iW h2
 obtain⟨h0,a0,b0,c0,d0,e0⟩:=iW h1
 intro x y hx hy
 rcases hx with rfl|rfl<;>rcases hy with rfl|rfl<;>constructor<;>omega
def dl(n:Int):Int:=bK (n*65536)
def sqF(a:Iv):Iv×Bool:=bif decide (a.2<0)then(iv0,false)else kg (dl (if 0>a.1 then 0 else a.1)) (bif decide (dl a.2*dl a.2=a.2*65536)then dl a.2 else dl a.2+1)
def sgF(a:Iv):Int×Bool:=bif decide (a.1>0)then(1,true)else bif decide (a.2<0)then(-1,true)else(0,decide (a.1=0)&&decide (a.2=0))
namespace RE
def inI(i:Iv)(x:RE):Prop:=of (i.1:Rat)≤of 65536*x∧of 65536*x≤of (i.2:Rat)
theorem Jx(a b u x y:RE):((a+b-(u*(x+y))))+((u*x-(a)))+((u*y-(b)))=0:=by
 induction a using aqq
 induction b using aqq
 induction u using aqq
 induction x using aqq
 induction y using aqq
 exact snd fun n=>by
  simp only[RL.add,RL.mul,RL.neg,RL.const]
  grind
theorem Ww(a b u x y:RE)(h1:a≤u*x)(h2:b≤u*y):a+b≤u*(x+y):=fun hg=>far (aU (aU (a8 hg) (aR h1)) (aR h2)) (Jx a b u x y)
theorem IF(a b u x y:RE):((u*(x+y)-(a+b)))+((a-(u*x)))+((b-(u*y)))=0:=by
 induction a using aqq
 induction b using aqq
 induction u using aqq
 induction x using aqq
 induction y using aqq
 exact snd fun n=>by
  simp only[RL.add,RL.mul,RL.neg,RL.const]
  grind
theorem YQ(a b u x y:RE)(h1:u*x≤a)(h2:u*y≤b):u*(x+y)≤a+b:=fun hg=>far (aU (aU (a8 hg) (aR h1)) (aR h2)) (IF a b u x y)
theorem Kv(a u x:RE):((-a-(u*(-x))))+((a-(u*x)))=0:=by
 induction a using aqq
 induction u using aqq
 induction x using aqq
 exact snd fun n=>by
  simp only[RL.add,RL.mul,RL.neg,RL.const]
  grind
theorem Zv(a u x:RE)(h1:u*x≤a): -a≤u*(-x):=fun hg=>far (aU (a8 hg) (aR h1)) (Kv a u x)
theorem Kp(a u x:RE):((u*(-x)-(-a)))+((u*x-(a)))=0:=by
 induction a using aqq
 induction u using aqq
 induction x using aqq
 exact snd fun n=>by
  simp only[RL.add,RL.mul,RL.neg,RL.const]
  grind
theorem Yf(a u x:RE)(h1:a≤u*x):u*(-x)≤ -a:=fun hg=>far (aU (a8 hg) (aR h1)) (Kp a u x)
theorem Vu(a c U V m:RE):((m-(U*V)))+((a*c-(m)))+((V-(0))*(U-(a)))+((a-(0))*(V-(c)))=0:=by
 induction a using aqq
 induction c using aqq
 induction U using aqq
 induction V using aqq
 induction m using aqq
 exact snd fun n=>by
  simp only[RL.add,RL.mul,RL.neg,RL.const]
  grind
theorem ami(a c U V m:RE)(h1:0≤V)(h2:0≤a)(h3:a≤U)(h4:c≤V)(h5:m≤a*c):m≤U*V:=fun hg=>far (aU (aU (aU (a8 hg) (aR h5)) (cD (aR h1) (aR h3))) (cD (aR h2) (aR h4))) (Vu a c U V m)
theorem ZH(a d U V m:RE):((m-(U*V)))+((a*d-(m)))+((V-(0))*(U-(a)))+((0-(a))*(d-(V)))=0:=by
 induction a using aqq
 induction d using aqq
 induction U using aqq
 induction V using aqq
 induction m using aqq
 exact snd fun n=>by
  simp only[RL.add,RL.mul,RL.neg,RL.const]
  grind
theorem ajh(a d U V m:RE)(h1:0≤V)(h2:a≤0)(h3:a≤U)(h4:V≤d)(h5:m≤a*d):m≤U*V:=fun hg=>far (aU (aU (aU (a8 hg) (aR h5)) (cD (aR h1) (aR h3))) (cD (aR h2) (aR h4))) (ZH a d U V m)
theorem YW(b c U V m:RE):((m-(U*V)))+((b*c-(m)))+((0-(V))*(b-(U)))+((b-(0))*(V-(c)))=0:=by
 induction b using aqq
 induction c using aqq
 induction U using aqq
 induction V using aqq
 induction m using aqq
 exact snd fun n=>by
  simp only[RL.add,RL.mul,RL.neg,RL.const]
  grind
theorem ajy(b c U V m:RE)(h1:V≤0)(h2:0≤b)(h3:U≤b)(h4:c≤V)(h5:m≤b*c):m≤U*V:=fun hg=>far (aU (aU (aU (a8 hg) (aR h5)) (cD (aR h1) (aR h3))) (cD (aR h2) (aR h4))) (YW b c U V m)
theorem Yk(b d U V m:RE):((m-(U*V)))+((b*d-(m)))+((0-(V))*(b-(U)))+((0-(b))*(d-(V)))=0:=by
 induction b using aqq
 induction d using aqq
 induction U using aqq
 induction V using aqq
 induction m using aqq
 exact snd fun n=>by
  simp only[RL.add,RL.mul,RL.neg,RL.const]
  grind
theorem anv(b d U V m:RE)(h1:V≤0)(h2:b≤0)(h3:U≤b)(h4:V≤d)(h5:m≤b*d):m≤U*V:=fun hg=>far (aU (aU (aU (a8 hg) (aR h5)) (cD (aR h1) (aR h3))) (cD (aR h2) (aR h4))) (Yk b d U V m)
theorem Ya(b d U V m:RE):((U*V-(m)))+((m-(b*d)))+((V-(0))*(b-(U)))+((b-(0))*(d-(V)))=0:=by
 induction b using aqq
 induction d using aqq
 induction U using aqq
 induction V using aqq
 induction m using aqq
 exact snd fun n=>by
  simp only[RL.add,RL.mul,RL.neg,RL.const]
  grind
theorem ajK(b d U V m:RE)(h1:0≤V)(h2:0≤b)(h3:U≤b)(h4:V≤d)(h5:b*d≤m):U*V≤m:=fun hg=>far (aU (aU (aU (a8 hg) (aR h5)) (cD (aR h1) (aR h3))) (cD (aR h2) (aR h4))) (Ya b d U V m)
theorem Wx(b c U V m:RE):((U*V-(m)))+((m-(b*c)))+((V-(0))*(b-(U)))+((0-(b))*(V-(c)))=0:=by
 induction b using aqq
 induction c using aqq
 induction U using aqq
 induction V using aqq
 induction m using aqq
 exact snd fun n=>by
  simp only[RL.add,RL.mul,RL.neg,RL.const]
  grind
theorem ak9(b c U V m:RE)(h1:0≤V)(h2:b≤0)(h3:U≤b)(h4:c≤V)(h5:b*c≤m):U*V≤m:=fun hg=>far (aU (aU (aU (a8 hg) (aR h5)) (cD (aR h1) (aR h3))) (cD (aR h2) (aR h4))) (Wx b c U V m)
theorem ZN(a d U V m:RE):((U*V-(m)))+((m-(a*d)))+((0-(V))*(U-(a)))+((a-(0))*(d-(V)))=0:=by
 induction a using aqq
 induction d using aqq
 induction U using aqq
 induction V using aqq
 induction m using aqq
 exact snd fun n=>by
  simp only[RL.add,RL.mul,RL.neg,RL.const]
  grind
theorem alE(a d U V m:RE)(h1:V≤0)(h2:0≤a)(h3:a≤U)(h4:V≤d)(h5:a*d≤m):U*V≤m:=fun hg=>far (aU (aU (aU (a8 hg) (aR h5)) (cD (aR h1) (aR h3))) (cD (aR h2) (aR h4))) (ZN a d U V m)
theorem WU(a c U V m:RE):((U*V-(m)))+((m-(a*c)))+((0-(V))*(U-(a)))+((0-(a))*(V-(c)))=0:=by
 induction a using aqq
 induction c using aqq
 induction U using aqq
 induction V using aqq
 induction m using aqq
 exact snd fun n=>by
  simp only[RL.add,RL.mul,RL.neg,RL.const]
  grind
theorem ak3(a c U V m:RE)(h1:V≤0)(h2:a≤0)(h3:a≤U)(h4:c≤V)(h5:a*c≤m):U*V≤m:=fun hg=>far (aU (aU (aU (a8 hg) (aR h5)) (cD (aR h1) (aR h3))) (cD (aR h2) (aR h4))) (WU a c U V m)
theorem ahC(u x y:RE):u*x*(u*y)=u*(x*y)*u:=by
 induction u using aqq
 induction x using aqq
 induction y using aqq
 exact snd fun n=>by
  simp only[RL.mul]
  grind
theorem Y2(a b u:RE):((u-(0))*(a-(b)))+((b*u-(a*u)))=0:=by
 induction a using aqq
 induction b using aqq
 induction u using aqq
 exact snd fun n=>by
  simp only[RL.add,RL.mul,RL.neg,RL.const]
  grind
theorem aaJ(a b u:RE)(h1:0<u)(h2:a*u≤b*u):a≤b:=fun hg=>far (aU (mul_pos (a8 h1) (a8 hg)) (aR h2)) (Y2 a b u)
theorem kW:0<of 65536:=jM (by decide+kernel)
end RE
namespace RE
theorem jC{a b:Int}(h:a≤b):of (a:Rat)≤of (b:Rat):=lT.2 (asI.2 h)
theorem fO{q:Rat}(h:(frF q).2=true):inI (frF q).1 (of q):=by
 have f1:((q*65536).floor:Rat)≤q*65536:=Rat.floor_le _
 have f2:((-(q*65536)).floor:Rat)≤ -(q*65536):=Rat.floor_le _
 unfold frF at h ⊢
 cases e1:decide (aX (q*65536).floor)
 ·rw[e1]at h;cases h
 ·cases e2:decide (aX (-(-(q*65536)).floor))
  ·rw[e1,e2]at h;cases h
  ·rw[e1,e2]at h
   simp only[cond_true]at h ⊢
   rw[yZ h]
   refine⟨?_,?_⟩
   ·rw[←cE];exact lT.2 (by show(((q*65536).floor:Int):Rat)≤_;grind)
   ·rw[←cE];exact lT.2 (by show _≤((-(-(q*65536)).floor:Int):Rat);rw[Rat.intCast_neg];grind)
theorem frF_pr(q:Rat):prI (frF q).1:=by
 have f1:((q*65536).floor:Rat)≤q*65536:=Rat.floor_le _
 have f2:((-(q*65536)).floor:Rat)≤ -(q*65536):=Rat.floor_le _
 have f3:(q*65536).floor≤ -(-(q*65536)).floor:=by
  refine asI.1 ?_
  rw[Rat.intCast_neg]
  grind
 unfold frF
 cases decide (aX (q*65536).floor)
 ·exact eD
 ·cases decide (aX (-(-(q*65536)).floor))
  ·exact eD
  ·exact zH f3
theorem hZ{a b:Iv}{x y:RE}(ha:inI a x)(hb:inI b y)(h:(cV a b).2=true):inI (cV a b).1 (x+y):=by
 unfold cV at h ⊢
 rw[yZ h]
 refine⟨?_,?_⟩
 ·show of ((a.1+b.1:Int):Rat)≤_
  rw[Rat.intCast_add,of_add]
  exact Ww _ _ _ _ _ ha.1 hb.1
 ·show _≤of ((a.2+b.2:Int):Rat)
  rw[Rat.intCast_add,of_add]
  exact YQ _ _ _ _ _ ha.2 hb.2
theorem addF_pr{a b:Iv}(ha:prI a)(hb:prI b):prI (cV a b).1:=zH (by have:=ha.2.1;have:=hb.2.1;omega)
theorem Ag{a:Iv}{x:RE}(ha:inI a x):inI (jn a) (-x):=by
 refine⟨?_,?_⟩
 ·show of ((-a.2:Int):Rat)≤_
  rw[Rat.intCast_neg,of_neg]
  exact Zv _ _ _ ha.2
 ·show _≤of ((-a.1:Int):Rat)
  rw[Rat.intCast_neg,of_neg]
  exact Yf _ _ _ ha.1
theorem negF_pr{a:Iv}(ha:prI a):prI (jn a):=⟨by show _≤ -a.2;have:=ha.2.2;omega,by show-a.2≤ -a.1;have:=ha.2.1;omega,by show-a.1≤_;have:=ha.1;omega⟩
theorem jg{a b:Iv}{x y:RE}(ha:inI a x)(hb:inI b y)(h:(cr a b).2=true):inI (cr a b).1 (x*y):=by
 have hc:=YM h
 have c1:=hc a.1 b.1 (.inl rfl) (.inl rfl)
 have c2:=hc a.1 b.2 (.inl rfl) (.inr rfl)
 have c3:=hc a.2 b.1 (.inr rfl) (.inl rfl)
 have c4:=hc a.2 b.2 (.inr rfl) (.inr rfl)
 generalize (cr a b).1=m at*
 have up:∀{p q r:Int},p*65536≤q*r→of (p:Rat)*of 65536≤of (q:Rat)*of (r:Rat):=fun{p q r} h=>by
  have:=jC h
  rw[asl,asl,cE,cE]at this
  exact this
 have dn:∀{p q r:Int},q*r≤p*65536→of (q:Rat)*of (r:Rat)≤of (p:Rat)*of 65536:=fun{p q r} h=>by
  have:=jC h
  rw[asl,asl,cE,cE]at this
  exact this
 obtain⟨a1,a2⟩:=ha
 obtain⟨b1,b2⟩:=hb
 have l:of (m.1:Rat)*of 65536≤of 65536*x*(of 65536*y):=by
  rcases lt_or_ge (of 65536*y) 0 with v|v
  ·rcases lt_or_ge (of (a.2:Rat)) 0 with s|s
   ·exact anv _ _ _ _ _ (le_of_lt v) (le_of_lt s) a2 b2 (up c4.1)
   ·exact ajy _ _ _ _ _ (le_of_lt v) s a2 b1 (up c3.1)
  ·rcases lt_or_ge (of (a.1:Rat)) 0 with s|s
   ·exact ajh _ _ _ _ _ v (le_of_lt s) a1 b2 (up c2.1)
   ·exact ami _ _ _ _ _ v s a1 b1 (up c1.1)
 have u:of 65536*x*(of 65536*y)≤of (m.2:Rat)*of 65536:=by
  rcases lt_or_ge (of 65536*y) 0 with v|v
  ·rcases lt_or_ge (of (a.1:Rat)) 0 with s|s
   ·exact ak3 _ _ _ _ _ (le_of_lt v) (le_of_lt s) a1 b1 (dn c1.2)
   ·exact alE _ _ _ _ _ (le_of_lt v) s a1 b2 (dn c2.2)
  ·rcases lt_or_ge (of (a.2:Rat)) 0 with s|s
   ·exact ak9 _ _ _ _ _ v (le_of_lt s) a2 b1 (dn c3.2)
   ·exact ajK _ _ _ _ _ v s a2 b2 (dn c4.2)
 rw[ahC]at l u
 exact⟨aaJ _ _ _ kW l,aaJ _ _ _ kW u⟩
theorem aoH(u s:RE):u*s*(u*s)=u*(s*s)*u:=by
 induction u using aqq
 induction s using aqq
 exact snd fun n=>by
  simp only[RL.mul]
  grind
theorem NQ(r a u x:RE):((r-(u*x*u)))+((a*u-(r)))+((u*x-(a))*(u-(0)))=0:=by
 induction r using aqq
 induction a using aqq
 induction u using aqq
 induction x using aqq
 exact snd fun n=>by
  simp only[RL.add,RL.mul,RL.neg,RL.const]
  grind
theorem ah0(r a u x:RE)(h1:r≤a*u)(h2:a≤u*x)(h3:0<u):r≤u*x*u:=fun hg=>far (aU (aU (a8 hg) (aR h1)) (cD (aR h2) (le_of_lt (a8 h3)))) (NQ r a u x)
theorem LJ(r a u x:RE):((u*x*u-(r)))+((r-(a*u)))+((a-(u*x))*(u-(0)))=0:=by
 induction r using aqq
 induction a using aqq
 induction u using aqq
 induction x using aqq
 exact snd fun n=>by
  simp only[RL.add,RL.mul,RL.neg,RL.const]
  grind
theorem KK(r a u x:RE)(h1:a*u≤r)(h2:u*x≤a)(h3:0<u):u*x*u≤r:=fun hg=>far (aU (aU (a8 hg) (aR h1)) (cD (aR h2) (le_of_lt (a8 h3)))) (LJ r a u x)
theorem sqF_pr{a:Iv}(ha:prI a):prI (sqF a).1:=by
 unfold sqF
 by_cases h:a.2<0
 ·rw[aqs h];exact eD
 ·rw[aqu h]
  simp only[cond_false]
  refine zH ?_
  have h1:(if 0>a.1 then 0 else a.1)≤a.2:=by have:=ha.2.1;split<;>omega
  have h0:0≤(if 0>a.1 then 0 else a.1):=by split<;>omega
  have hm:dl (if 0>a.1 then 0 else a.1)≤dl a.2:=by
   unfold dl
   obtain⟨_,g1,_⟩:=fa (z:=(if 0>a.1 then 0 else a.1)*65536) (by omega)
   obtain⟨g0,_,g2⟩:=fa (z:=a.2*65536) (by omega)
   have:=Go.Proofs.YtlahabkjhgkkjaaGreat.sq_lt (a:=bK ((if 0>a.1 then 0 else a.1)*65536)) (b:=bK (a.2*65536)+1) (by omega) (by omega)
   omega
  cases decide (dl a.2*dl a.2=a.2*65536)
  ·show _≤dl a.2+1;omega
  ·exact hm
theorem ve{a:Iv}{x:RE}(ha:inI a x)(hx:0≤x)(h:(sqF a).2=true):inI (sqF a).1 (uR x):=by
 obtain⟨a1,a2⟩:=ha
 have hs:=zV hx
 have s0:0≤of 65536*uR x:=cD (le_of_lt kW) (lL x)
 have e:of 65536*uR x*(of 65536*uR x)=of 65536*x*of 65536:=by rw[aoH,hs]
 unfold sqF at h ⊢
 cases hn:decide (a.2<0)
 ·rw[hn]at h
  simp only[cond_false]at h ⊢
  have h2:=arw hn
  rw[yZ h]
  obtain⟨p0,p1,p2⟩:=fa (z:=(if 0>a.1 then 0 else a.1)*65536) (by split<;>omega)
  obtain⟨q0,q1,q2⟩:=fa (z:=a.2*65536) (by omega)
  have cm:∀{p q:Int},p*p≤q*65536→of (p:Rat)*of (p:Rat)≤of (q:Rat)*of 65536:=fun{p q} h=>by
   have:=jC h
   rw[asl,asl,cE,cE]at this
   exact this
  have cn:∀{p q:Int},q*65536≤p*p→of (q:Rat)*of 65536≤of (p:Rat)*of (p:Rat):=fun{p q} h=>by
   have:=jC h
   rw[asl,asl,cE,cE]at this
   exact this
  have nn:∀{p:Int},0≤p→0≤of (p:Rat):=fun h=>jC h
  refine⟨?_,?_⟩
  ·show of ((dl _:Int):Rat)≤_
   refine P6 _ _ (nn p0) s0 ?_
   rw[e]
   refine ah0 _ (of (((if 0>a.1 then 0 else a.1:Int)):Rat)) _ _ (cm p1) ?_ kW
   split
   ·exact cD (le_of_lt kW) hx
   ·exact a1
  ·show _≤of (((bif _ then _ else _):Int):Rat)
   cases he:decide (dl a.2*dl a.2=a.2*65536)
   ·simp only[cond_false]
    refine P6 _ _ s0 (nn (by unfold dl;omega)) ?_
    rw[e]
    exact KK _ _ _ _ (cn (by unfold dl;omega)) a2 kW
   ·simp only[cond_true]
    refine P6 _ _ s0 (nn q0) ?_
    rw[e]
    exact KK _ _ _ _ (cn (by rw[aqr he];exact Int.le_refl _)) a2 kW
 ·rw[hn]at h;cases h
theorem DF{i:Iv}{x:RE}(hi:inI i x)(h:(sgF i).2=true):(sgF i).1=sg x:=by
 obtain⟨h1,h2⟩:=hi
 unfold sgF at h ⊢
 cases e1:decide (i.1>0)
 ·rw[e1]at h
  cases e2:decide (i.2<0)
  ·rw[e2]at h
   simp only[cond_false,aqB,asz]at h ⊢
   rw[h.1]at h1
   rw[h.2]at h2
   have:of 65536*x=0:=le_antisymm h2 h1
   have:sg (of 65536*x)=0:=by rw[this,eu]
   rw[qk,gN kW]at this
   omega
  ·have e:=aqr e2
   have h3:of (i.2:Rat)<0:=jM (asJ.2 e)
   simp only[cond_false,cond_true]
   have:sg (of 65536*x)= -1:=jO (by
    rcases lt_or_ge (of 65536*x) 0 with h|h
    ·exact h
    ·exact absurd (le_trans h h2) (gS.2 h3))
   rw[qk,gN kW]at this
   omega
 ·have e:=aqr e1
  have h3:0<of (i.1:Rat):=jM (asJ.2 e)
  simp only[cond_true]
  have:sg (of 65536*x)=1:=gN (by
   rcases lt_or_ge 0 (of 65536*x)with h|h
   ·exact h
   ·exact absurd (le_trans h1 h) (gS.2 h3))
  rw[qk,gN kW]at this
  omega
end RE
end Go.Proofs.YtlahabkjhgkkjaaGreat
end
