/- distance.Segments and the reference's. -/
import Derived.Test.YtlahabkjhgkkjaaGreatX11
import Derived.Test.YtlahabkjhgkkjaaGreatX9
noncomputable section
namespace Go.Proofs.YtlahabkjhgkkjaaGreat
open Go.RowKit Go.IntKind
theorem aua:type_of% @Bool.decide_and:=@Bool.decide_and
theorem aud:type_of% @Bool.and_true:=@Bool.and_true
theorem aue:type_of% @decide_false:=@decide_false
theorem auf:type_of% @decide_true:=@decide_true
theorem avg:type_of% @Bool.and_eq_true_iff:=@Bool.and_eq_true_iff
theorem av1:type_of% @Rat.intCast_mul:=@Rat.intCast_mul
theorem awp:type_of% @Rat.intCast_lt_intCast:=@Rat.intCast_lt_intCast
theorem awO:type_of% @beq_eq_false_iff_ne:=@beq_eq_false_iff_ne
theorem aD{a b:Rat}{j k:Nat}[ha:Bd a j][hb:Bd b k](hj:j≤480000)(hk:k≤480000)(h:b≠0):decide (fh (ag a) (ag b))=true:=
 at7 ⟨nO ha.le hj,nO hb.le hk,by show ah (ak b.num)≠0;rw[dec_enc];exact fun e=>h (Rat.num_eq_zero.1 e)⟩
theorem aL(a b:Rat):decide (aU a b>0)=decide (b<a):=by
 rcases(by grind:a<b∨a=b∨b<a)with h|h|h
 ·rw[c9 h,at9 (show ¬b<a by grind)];rfl
 ·rw[h,dH,at9 (show ¬b<b by grind)];rfl
 ·rw[cX h,at7 h];rfl
theorem aJ(a b:Rat):decide (aU a b<0)=decide (a<b):=by
 rcases(by grind:a<b∨a=b∨b<a)with h|h|h
 ·rw[c9 h,at7 h];rfl
 ·rw[h,dH,at9 (show ¬b<b by grind)];rfl
 ·rw[cX h,at9 (show ¬a<b by grind)];rfl
theorem ana(a b:Rat):decide (aU a b≥0)=decide (b≤a):=by
 rcases(by grind:a<b∨a=b∨b<a)with h|h|h
 ·rw[c9 h,at9 (show ¬b≤a by grind)];rfl
 ·rw[h,dH,at7 (show b≤b by grind)];rfl
 ·rw[cX h,at7 (show b≤a by grind)];rfl
theorem vL(a b:Rat):decide (aU a b≤0)=decide (a≤b):=by
 rcases(by grind:a<b∨a=b∨b<a)with h|h|h
 ·rw[c9 h,at7 (show a≤b by grind)];rfl
 ·rw[h,dH,at7 (show b≤b by grind)];rfl
 ·rw[cX h,at9 (show ¬a≤b by grind)];rfl
theorem aI(a b:Rat):(aU a b==0)=decide (a=b):=by
 rcases(by grind:a<b∨a=b∨b<a)with h|h|h
 ·rw[c9 h,at9 (show ¬a=b by grind)];rfl
 ·rw[h,dH,at7 rfl];rfl
 ·rw[cX h,at9 (show ¬a=b by grind)];rfl
theorem jy(a b:Rat): -1≤aU a b∧aU a b≤1:=by
 rcases(by grind:a<b∨a=b∨b<a)with h|h|h
 ·rw[c9 h];decide
 ·rw[h,dH];decide
 ·rw[cX h];decide
theorem nA{a b c d:Rat}:i64.wrap (aU a b*aU c d)=aU a b*aU c d:=by
 rcases(by grind:a<b∨a=b∨b<a)with h|h|h<;>rcases(by grind:c<d∨c=d∨d<c)with h'|h'|h'
 all_goals first|rw[c9 h]|(subst h;rw[dH])|rw[cX h]
 all_goals first|rw[c9 h']|(subst h';rw[dH])|rw[cX h']
 all_goals decide
def jQ:aN:=spN false true [tR,tR] (fun x=>decide (okR x.1∧okR x.2.1)) (fun x=>[RV.d tR (hid (ag (ae x.1+ae x.2.1)))])
theorem fY:SpK 149 jQ:=spX fun x h=>by simp only[aj];exact IO x.1 x.2.1 (at6 h)
def jq:aN:=spN false true [tR,tR] (fun x=>decide (okR x.1∧okR x.2.1)) (fun x=>[RV.d tR (hid (ag (ae x.1-ae x.2.1)))])
theorem fC:SpK 147 jq:=spX fun x h=>by simp only[aj];exact YY x.1 x.2.1 (at6 h)
def ip:aN:=spN false true [tR,tR] (fun x=>decide (okR x.1∧okR x.2.1)) (fun x=>[RV.d tR (hid (ag (ae x.1*ae x.2.1)))])
theorem eW:SpK 148 ip:=spX fun x h=>by simp only[aj];exact acM x.1 x.2.1 (at6 h)
def zZ:aN:=spN false true [tR,tR] (fun x=>decide (fh x.1 x.2.1)) (fun x=>[RV.d tR (hid (ag (ae x.1/ae x.2.1))),RV.d axf 0])
theorem wv:SpK 170 zZ:=spX fun x h=>by simp only[aj];exact ace x.1 x.2.1 (at6 h)
def gr:aN:=spN true true [tR] (fun x=>decide (okR x.1)) (fun x=>[RV.d axf (aU (ae x.1) 0)])
theorem eM:SpK 83 gr:=spX fun x h=>IR x.1 (at6 h)
def k9:aN:=spN true true [tR,tR] (fun x=>decide (okR x.1∧okR x.2.1)) (fun x=>[RV.d axf (aU (ae x.1) (ae x.2.1))])
theorem ie:SpK 99 k9:=spX fun x h=>Zp x.1 x.2.1 (at6 h)
def io:aN:=spN false true [axf] (fun x=>decide (aY x.1)) (fun x=>[RV.d tR (hid (ag (x.1:Rat)))])
theorem fc:SpK 76 io:=spX fun x h=>by simp only[aj];exact Z2 x.1 (at6 h)
def yw:Env:=[(149,jQ),(147,jq),(148,ip),(170,zZ),(83,gr),(99,k9),(76,io)]
theorem mD:EnvAll Tryz.prog yw:=⟨fY,fC,eW,wv,eM,ie,fc,trivial⟩
def ar4:Ctx:=CX yw []
def afH(a b:BR)(_k:KT):Option (List RV):=match decide (okR a∧okR b)with|true=>some [RV.d tR (hid (ag (ae a+ae b)))]|false=>none
theorem arm(a b:BR):RS ar4 75 [.d tR a,.d tR b] (afH a b):=rsX
theorem acJ(a b:BR)(h:okR a∧okR b):Con Tryz.prog 75 [.d tR a,.d tR b] [.d tR (ag (ae a+ae b))]:=by
 refine aP mD (arm _ _ ⟨0,?_⟩)
 unfold afH
 rw[dT h,aj]
def arC:Ctx:=CX yw []
def aeD(a b:BR)(_k:KT):Option (List RV):=match decide (okR a∧okR b)with|true=>some [RV.d tR (hid (ag (ae a-ae b)))]|false=>none
theorem aqz(a b:BR):RS arC 112 [.d tR a,.d tR b] (aeD a b):=rsX
theorem abO(a b:BR)(h:okR a∧okR b):Con Tryz.prog 112 [.d tR a,.d tR b] [.d tR (ag (ae a-ae b))]:=by
 refine aP mD (aqz _ _ ⟨0,?_⟩)
 unfold aeD
 rw[dT h,aj]
def apB:Ctx:=CX yw []
def aer(a b:BR)(_k:KT):Option (List RV):=match decide (okR a∧okR b)with|true=>some [RV.d tR (hid (ag (ae a*ae b)))]|false=>none
theorem apG(a b:BR):RS apB 77 [.d tR a,.d tR b] (aer a b):=rsX
theorem Yi(a b:BR)(h:okR a∧okR b):Con Tryz.prog 77 [.d tR a,.d tR b] [.d tR (ag (ae a*ae b))]:=by
 refine aP mD (apG _ _ ⟨0,?_⟩)
 unfold aer
 rw[dT h,aj]
def amM:Ctx:=CX yw []
def aet(a b:BR)(_k:KT):Option (List RV):=match decide (fh a b)with|true=>(match 0 !=0 with|true=>(match decide (aY (0:Int))with|true=>some [RV.d tR (hid (ag ((0:Int):Rat)))]|false=>none)|false=>some [RV.d tR (hid (ag (ae a/ae b)))])|false=>none
theorem aol(a b:BR):RS amM 87 [.d tR a,.d tR b] (aet a b):=rsX
theorem ZK(a b:BR)(h:fh a b):Con Tryz.prog 87 [.d tR a,.d tR b] [.d tR (ag (ae a/ae b))]:=by
 refine aP mD (aol _ _ ⟨0,?_⟩)
 unfold aet
 rw[dT h]
 simp only[aj]
 rfl
def AU:aN:=spN false true [tR,tR] (fun x=>decide (okR x.1∧okR x.2.1)) (fun x=>[RV.d tR (hid (ag (ae x.1+ae x.2.1)))])
theorem uW:SpK 75 AU:=spX fun x h=>by simp only[aj];exact acJ x.1 x.2.1 (at6 h)
def wU:aN:=spN false true [tR,tR] (fun x=>decide (okR x.1∧okR x.2.1)) (fun x=>[RV.d tR (hid (ag (ae x.1-ae x.2.1)))])
theorem pK:SpK 112 wU:=spX fun x h=>by simp only[aj];exact abO x.1 x.2.1 (at6 h)
def zD:aN:=spN false true [tR,tR] (fun x=>decide (okR x.1∧okR x.2.1)) (fun x=>[RV.d tR (hid (ag (ae x.1*ae x.2.1)))])
theorem xd:SpK 77 zD:=spX fun x h=>by simp only[aj];exact Yi x.1 x.2.1 (at6 h)
def B6:aN:=spN false true [tR,tR] (fun x=>decide (fh x.1 x.2.1)) (fun x=>[RV.d tR (hid (ag (ae x.1/ae x.2.1)))])
theorem vG:SpK 87 B6:=spX fun x h=>by simp only[aj];exact ZK x.1 x.2.1 (at6 h)
def acX:Env:=(75,AU)::(112,wU)::(77,zD)::(87,B6)::yw
theorem TO:EnvAll Tryz.prog acX:=⟨uW,pK,xd,vG,mD⟩
def arI:Ctx:=CX acX []
def ad9(a b:BV)(_k:KT):Option (List RV):=match decide (okR a.1∧okR b.1)with|true=>(match decide (okR a.2∧okR b.2)with|true=>(match decide (okR (hid (ag (ae a.1*ae b.1)))∧okR (hid (ag (ae a.2*ae b.2))))with|true=>some [RV.d tR (hid (ag (ae (hid (ag (ae a.1*ae b.1)))+ae (hid (ag (ae a.2*ae b.2))))))]|false=>none)|false=>none)|false=>none
theorem am6(a b:BV):RS arI 72 [.d tV a,.d tV b] (ad9 a b):=rsX
theorem Yr(a b:BV)(h:ok (Rat×Rat) 5000 a∧ok (Rat×Rat) 5000 b):Con Tryz.prog 72 [.d tV a,.d tV b] [.d tR (ag (df (dec a) (dec b)))]:=by
 refine aP TO (am6 _ _ ⟨0,?_⟩)
 obtain⟨ha,hb⟩:=h
 obtain⟨a,rfl,ba⟩:=aS ha
 obtain⟨b,rfl,bb⟩:=aS hb
 unfold ad9
 simp only[aj,am,aE,aF,aB,az,aW,aua,aub,Nat.reduceAdd,Nat.reduceLeDiff]
 try rfl
def Wr:aN:=spN false true [tV,tV] (fun x=>decide (ok (Rat×Rat) 5000 x.1∧ok (Rat×Rat) 5000 x.2.1)) (fun x=>[RV.d tR (hid (ag (df (dec x.1) (dec x.2.1))))])
theorem VX:SpK 72 Wr:=spX fun x h=>by simp only[aj];exact Yr x.1 x.2.1 (at6 h)
def iw:aN:=spN false true [tR,tR] (fun x=>decide (okR x.1∧okR x.2.1)) (fun x=>[RV.d tR (hid (ag (ae x.1+ae x.2.1)))])
theorem fT:SpK 127 iw:=spX fun x h=>by simp only[aj];exact CB x.1 x.2.1 (at6 h)
def iu:aN:=spN false true [tR,tR] (fun x=>decide (okR x.1∧okR x.2.1)) (fun x=>[RV.d tR (hid (ag (ae x.1-ae x.2.1)))])
theorem fS:SpK 161 iu:=spX fun x h=>by simp only[aj];exact Xx x.1 x.2.1 (at6 h)
def gL:aN:=spN false true [tR,tR] (fun x=>decide (okR x.1∧okR x.2.1)) (fun x=>[RV.d tR (hid (ag (ae x.1*ae x.2.1)))])
theorem fk:SpK 132 gL:=spX fun x h=>by simp only[aj];exact Nz x.1 x.2.1 (at6 h)
def B0:aN:=spN false true [tR,tR] (fun x=>decide (fh x.1 x.2.1)) (fun x=>[RV.d tR (hid (ag (ae x.1/ae x.2.1)))])
theorem xZ:SpK 174 B0:=spX fun x h=>by simp only[aj];exact NL x.1 x.2.1 (at6 h)
def fu:aN:=spN true true [tR] (fun x=>decide (okR x.1)) (fun x=>[RV.d axf (aU (ae x.1) 0)])
theorem dW:SpK 78 fu:=spX fun x h=>RF x.1 (at6 h)
def jw:aN:=spN true true [tR,tR] (fun x=>decide (okR x.1∧okR x.2.1)) (fun x=>[RV.d axf (aU (ae x.1) (ae x.2.1))])
theorem gG:SpK 107 jw:=spX fun x h=>Oo x.1 x.2.1 (at6 h)
def gQ:aN:=spN false true [axf] (fun x=>decide (aY x.1)) (fun x=>[RV.d tR (hid (ag (x.1:Rat)))])
theorem fq:SpK 50 gQ:=spX fun x h=>by simp only[aj];exact TV x.1 (at6 h)
def DL:Env:=[(127,iw),(161,iu),(132,gL),(174,B0),(78,fu),(107,jw),(50,gQ)]
theorem qw:EnvAll Tryz.prog DL:=⟨fT,fS,fk,xZ,dW,gG,fq,trivial⟩
def aoN:Ctx:=CX DL []
def aga(a b:BR)(_k:KT):Option (List RV):=match decide (okR a∧okR b)with|true=>some [RV.d tR (hid (ag (ae a+ae b)))]|false=>none
theorem anB(a b:BR):RS aoN 60 [.d tR a,.d tR b] (aga a b):=rsX
theorem YH(a b:BR)(h:okR a∧okR b):Con Tryz.prog 60 [.d tR a,.d tR b] [.d tR (ag (ae a+ae b))]:=by
 refine aP qw (anB _ _ ⟨0,?_⟩)
 unfold aga
 rw[dT h,aj]
def am3:Ctx:=CX DL []
def afs(a b:BR)(_k:KT):Option (List RV):=match decide (okR a∧okR b)with|true=>some [RV.d tR (hid (ag (ae a-ae b)))]|false=>none
theorem ape(a b:BR):RS am3 144 [.d tR a,.d tR b] (afs a b):=rsX
theorem aam(a b:BR)(h:okR a∧okR b):Con Tryz.prog 144 [.d tR a,.d tR b] [.d tR (ag (ae a-ae b))]:=by
 refine aP qw (ape _ _ ⟨0,?_⟩)
 unfold afs
 rw[dT h,aj]
def alF:Ctx:=CX DL []
def aeI(a b:BR)(_k:KT):Option (List RV):=match decide (okR a∧okR b)with|true=>some [RV.d tR (hid (ag (ae a*ae b)))]|false=>none
theorem arw(a b:BR):RS alF 61 [.d tR a,.d tR b] (aeI a b):=rsX
theorem YQ(a b:BR)(h:okR a∧okR b):Con Tryz.prog 61 [.d tR a,.d tR b] [.d tR (ag (ae a*ae b))]:=by
 refine aP qw (arw _ _ ⟨0,?_⟩)
 unfold aeI
 rw[dT h,aj]
def BD:aN:=spN false true [tR,tR] (fun x=>decide (okR x.1∧okR x.2.1)) (fun x=>[RV.d tR (hid (ag (ae x.1+ae x.2.1)))])
theorem vM:SpK 60 BD:=spX fun x h=>by simp only[aj];exact YH x.1 x.2.1 (at6 h)
def Bt:aN:=spN false true [tR,tR] (fun x=>decide (okR x.1∧okR x.2.1)) (fun x=>[RV.d tR (hid (ag (ae x.1-ae x.2.1)))])
theorem uu:SpK 144 Bt:=spX fun x h=>by simp only[aj];exact aam x.1 x.2.1 (at6 h)
def AP:aN:=spN false true [tR,tR] (fun x=>decide (okR x.1∧okR x.2.1)) (fun x=>[RV.d tR (hid (ag (ae x.1*ae x.2.1)))])
theorem vP:SpK 61 AP:=spX fun x h=>by simp only[aj];exact YQ x.1 x.2.1 (at6 h)
def adU:Env:=(60,BD)::(144,Bt)::(61,AP)::DL
theorem Xk:EnvAll Tryz.prog adU:=⟨vM,uu,vP,qw⟩
def anC:Ctx:=CX adU []
def adw(a b:BV)(_k:KT):Option (List RV):=match decide (okR a.1∧okR b.1)with|true=>(match decide (okR a.2∧okR b.2)with|true=>(match decide (okR (hid (ag (ae a.1*ae b.1)))∧okR (hid (ag (ae a.2*ae b.2))))with|true=>some [RV.d tR (hid (ag (ae (hid (ag (ae a.1*ae b.1)))+ae (hid (ag (ae a.2*ae b.2))))))]|false=>none)|false=>none)|false=>none
theorem ar5(a b:BV):RS anC 58 [.d tV a,.d tV b] (adw a b):=rsX
theorem ZH(a b:BV)(h:ok (Rat×Rat) 5000 a∧ok (Rat×Rat) 5000 b):Con Tryz.prog 58 [.d tV a,.d tV b] [.d tR (ag (df (dec a) (dec b)))]:=by
 refine aP Xk (ar5 _ _ ⟨0,?_⟩)
 obtain⟨ha,hb⟩:=h
 obtain⟨a,rfl,ba⟩:=aS ha
 obtain⟨b,rfl,bb⟩:=aS hb
 unfold adw
 simp only[aj,am,aE,aF,aB,az,aW,aua,aub,Nat.reduceAdd,Nat.reduceLeDiff]
 try rfl
def Ur:aN:=spN false true [tV,tV] (fun x=>decide (ok (Rat×Rat) 5000 x.1∧ok (Rat×Rat) 5000 x.2.1)) (fun x=>[RV.d tR (hid (ag (df (dec x.1) (dec x.2.1))))])
theorem Rv:SpK 58 Ur:=spX fun x h=>by simp only[aj];exact ZH x.1 x.2.1 (at6 h)
abbrev Rt:=Rat×Rat×Rat
def ff(a b m:Rat):Int:=RE.addS (aU a 0) (aU b 0*aU m 0) (aU (a*a) (b*b*m))
def BA(A B C D M N:Rat):Int:=bif decide (M<0)||decide (N<0)then 0
 else RE.addS (ff A B M) (ff C D M*aU N 0) (ff (A*A+B*B*M-N*(C*C+D*D*M)) (2*(A*B-N*(C*D))) M)
def bG(x y:Rt):Int:=BA (x.1-y.1) x.2.1 (-y.2.1) 0 x.2.2 y.2.2
theorem pC(a b:Rat):aU (a-b) 0=aU a b:=by
 rcases(by grind:a<b∨a=b∨b<a)with h|h|h
 ·rw[c9 h,c9 (by grind)]
 ·rw[h,dH,show b-b=0 by grind,dH]
 ·rw[cX h,cX (by grind)]
namespace RE
def rq(m:Rat):RE:=we (of m)
theorem EQ(m:Rat):0≤rq m:=me _
theorem ia{m:Rat}(h:0≤m):rq m*rq m=of m:=As (jx.2 h)
theorem aaS{x:RE}(h:0≤x):sg (we x)=sg x:=by
 have h1:=me x
 have h2:=As h
 rcases ku h1 with h'|h'
 ·rw[dJ h',←h2,dJ (mul_pos h' h')]
 ·rw[h',mul_zero]at h2
  rw[h',h2]
theorem SU{m:Rat}(h:0≤m):sg (rq m)=aU m 0:=by
 unfold rq
 rw[aaS (jx.2 h),sg_of]
def v2(a b m:Rat):RE:=of a+of b*rq m
def vR(x:Rt):RE:=v2 x.1 x.2.1 x.2.2
theorem sq2(a b s:RE):a*a-b*s*(b*s)=a*a-b*b*(s*s):=by
 induction a using at5
 induction b using at5
 induction s using at5
 exact snd fun n=>by
  simp only[RL.add,RL.mul,RL.neg]
  grind
theorem sq4(A B C D s t:RE):(A+B*s)*(A+B*s)-(C+D*s)*t*((C+D*s)*t)=A*A+B*B*(s*s)-t*t*(C*C+D*D*(s*s))+2*(A*B-t*t*(C*D))*s:=by
 induction A using at5
 induction B using at5
 induction C using at5
 induction D using at5
 induction s using at5
 induction t using at5
 exact snd fun n=>by
  simp only[RL.add,RL.mul,RL.neg,RL.const]
  grind
theorem aqA(A B C D s t:RE):A+B*s+(C+D*s)*t=A+B*s+C*t+D*(s*t):=by
 induction A using at5
 induction B using at5
 induction C using at5
 induction D using at5
 induction s using at5
 induction t using at5
 exact snd fun n=>by
  simp only[RL.add,RL.mul]
  grind
theorem ahn(a b c d s t:RE):a-c+b*s+(-d)*t+0*(s*t)=a+b*s-(c+d*t):=by
 induction a using at5
 induction b using at5
 induction c using at5
 induction d using at5
 induction s using at5
 induction t using at5
 exact snd fun n=>by
  simp only[RL.add,RL.mul,RL.neg,RL.const]
  grind
theorem sgn2_re{a b m:Rat}(h:0≤m):ff a b m=sg (v2 a b m):=by
 unfold v2
 rw[Gr,sq2,ia h,dP,sg_of,sg_of,SU h,←bJ,←bJ,←bJ,←of_sub,sg_of,pC]
 rfl
theorem aj2:of 2=2:=rfl
def vQ(A B C D M N:Rat):RE:=of A+of B*rq M+of C*rq N+of D*(rq M*rq N)
theorem sgnQ_re{A B C D M N:Rat}(hM:0≤M)(hN:0≤N):BA A B C D M N=sg (vQ A B C D M N):=by
 unfold BA vQ
 rw[at9 (by grind),at9 (by grind),←aqA,Gr,sq4,ia hM,ia hN,dP,SU hN,sgn2_re hM,sgn2_re hM,sgn2_re hM]
 unfold v2
 simp only[of_sub,of_add,bJ,aj2]
 rfl
theorem cmpT_re{x y:Rt}(hx:0≤x.2.2)(hy:0≤y.2.2):bG x y=sg (vR x-vR y):=by
 unfold bG vR v2
 rw[sgnQ_re hx hy,←ahn,←of_sub,←of_neg]
 rfl
end RE
theorem BU{s t:Int}(hs: -1≤s∧s≤1)(ht: -1≤t∧t≤1): -1≤s*t∧s*t≤1:=by
 have h1:s= -1∨s=0∨s=1:=by omega
 have h2:t= -1∨t=0∨t=1:=by omega
 rcases h1 with rfl|rfl|rfl<;>rcases h2 with rfl|rfl|rfl<;>decide
theorem Io{s t d:Int}(hs: -1≤s∧s≤1)(ht: -1≤t∧t≤1)(hd: -1≤d∧d≤1): -1≤RE.addS s t d∧RE.addS s t d≤1:=by
 unfold RE.addS
 cases(t==0||s==t)
 ·cases s==0
  ·exact BU hs hd
  ·exact ht
 ·exact hs
theorem jN(a b m:Rat): -1≤ff a b m∧ff a b m≤1:=Io (jy _ _) (BU (jy _ _) (jy _ _)) (jy _ _)
theorem abA(A B C D M N:Rat): -1≤BA A B C D M N∧BA A B C D M N≤1:=by
 unfold BA
 cases(decide (M<0)||decide (N<0))
 ·exact Io (jN _ _ _) (BU (jN _ _ _) (jy _ _)) (jN _ _ _)
 ·exact⟨by show(-1:Int)≤0;decide,by show(0:Int)≤1;decide⟩
theorem t7(x y:Rt): -1≤bG x y∧bG x y≤1:=abA _ _ _ _ _ _
theorem kx(a b:Int):(ck a b==0)=decide (a=b):=by
 rcases avY a b with h|h|h
 ·rw[cQ h,at9 (by omega)];rfl
 ·rw[h,dB,at7 rfl];rfl
 ·rw[cH h,at9 (by omega)];rfl
def OW:Env:=[(134,ug),(192,z7),(212,qe),(188,tj),(214,Ax)]
theorem D9:EnvAll Tryz.prog OW:=⟨qX,yl,m7,rM,xJ,trivial⟩
def abU:NT:=[((256,23),{keep:=[1,2,4,5],hl:=6})]
def Aq:Ctx:=CX OW abU
def jk(x:Bool×List Int)(b4_0:Bool)(b4_1:List Int):Cfg:=⟨256,[.blk 0],[(1,.box 0 0),(2,.box 1 0),(4,.box 4 0),(5,.box 5 0)],[.box 33 [SB x.1,.d axe x.2],.box 33 [SB false,.nil],.gone,.row 183 axg ([1]),.box 33 [SB b4_0,.d axe b4_1],.box 33 [SB ((ak (2:Int)).1),.d axe ((ak (2:Int)).2)]],0,[]⟩
def zV(x:Bool×List Int)(k:KT):Option (List RV):=match x.1 with|true=>some [RV.d y2Y (false,[]),RV.d axf 7]|false=>(match(x.2.length:Int)==0 with|true=>some [RV.d y2Y (false,[]),RV.d axf 0]|false=>(match decide ((0:Int)≤i64.wrap (Int.tdiv (i64.wrap ((x.2.length:Int)+1)) 2)∧(i64.wrap (Int.tdiv (i64.wrap ((x.2.length:Int)+1)) 2))*((4:Nat):Int)≤140737488355328∧i64.wrap (Int.tdiv (i64.wrap ((x.2.length:Int)+1)) 2)≤140737488355328)with|true=>(match decide (((List.replicate (i64.wrap (Int.tdiv (i64.wrap ((x.2.length:Int)+1)) 2)).toNat (0:Int)).length+([1]).length)*4≤140737488355328∧(List.replicate (i64.wrap (Int.tdiv (i64.wrap ((x.2.length:Int)+1)) 2)).toNat (0:Int)).length+([1]).length≤140737488355328)with|true=>(match decide (aY (2:Int))with|true=>k 23 (jk x false ((List.replicate (i64.wrap (Int.tdiv (i64.wrap ((x.2.length:Int)+1)) 2)).toNat (0:Int))++([1])))|false=>none)|false=>none)|false=>none))
theorem GJ(x:Bool×List Int):RS Aq 256 [.d y2Y x] (zV x):=rsX
def oA(x:Bool×List Int)(b4_0:Bool)(b4_1:List Int)(k:KT):Option (List RV):=match decide (eH x (b4_0,b4_1))with|true=>cp (match decide (okI (b4_0,b4_1)∧okI (ak (ah x/ah (b4_0,b4_1))))with|true=>cp (match decide (eH (ak (ah (b4_0,b4_1)+ah (ak (ah x/ah (b4_0,b4_1))))) (ak (2:Int)))with|true=>dup (.b .l .l) (match decide (okI (ak (ah (ak (ah (b4_0,b4_1)+ah (ak (ah x/ah (b4_0,b4_1)))))/ah (ak (2:Int))))∧okI (b4_0,b4_1))with|true=>(match decide ((ck (ah (ak (ah (ak (ah (b4_0,b4_1)+ah (ak (ah x/ah (b4_0,b4_1)))))/ah (ak (2:Int))))) (ah (b4_0,b4_1)))≥0)with|true=>some [RV.d y2Y (b4_0,b4_1),RV.d axf 0]|false=>k 23 (jk x ((ak (ah (ak (ah (b4_0,b4_1)+ah (ak (ah x/ah (b4_0,b4_1)))))/ah (ak (2:Int)))).1) ((ak (ah (ak (ah (b4_0,b4_1)+ah (ak (ah x/ah (b4_0,b4_1)))))/ah (ak (2:Int)))).2)))|false=>none)|false=>none) (dup (.b (.b .l .l) (.b .l .l)) (match decide (eH (ak (ah (b4_0,b4_1)+ah (ak (ah x/ah (b4_0,b4_1))))) (ak (2:Int)))with|true=>(match decide (okI (ak (ah (ak (ah (b4_0,b4_1)+ah (ak (ah x/ah (b4_0,b4_1)))))/ah (ak (2:Int))))∧okI (b4_0,b4_1))with|true=>(match decide ((ck (ah (ak (ah (ak (ah (b4_0,b4_1)+ah (ak (ah x/ah (b4_0,b4_1)))))/ah (ak (2:Int))))) (ah (b4_0,b4_1)))≥0)with|true=>some [RV.d y2Y (b4_0,b4_1),RV.d axf 0]|false=>k 23 (jk x ((ak (ah (ak (ah (b4_0,b4_1)+ah (ak (ah x/ah (b4_0,b4_1)))))/ah (ak (2:Int)))).1) ((ak (ah (ak (ah (b4_0,b4_1)+ah (ak (ah x/ah (b4_0,b4_1)))))/ah (ak (2:Int)))).2)))|false=>none)|false=>none))|false=>none) (dup (.b .l .l) (cp (match decide (okI (b4_0,b4_1)∧okI (ak (ah x/ah (b4_0,b4_1))))with|true=>dup (.b .l .l) (match decide (eH (ak (ah (b4_0,b4_1)+ah (ak (ah x/ah (b4_0,b4_1))))) (ak (2:Int)))with|true=>(match decide (okI (ak (ah (ak (ah (b4_0,b4_1)+ah (ak (ah x/ah (b4_0,b4_1)))))/ah (ak (2:Int))))∧okI (b4_0,b4_1))with|true=>(match decide ((ck (ah (ak (ah (ak (ah (b4_0,b4_1)+ah (ak (ah x/ah (b4_0,b4_1)))))/ah (ak (2:Int))))) (ah (b4_0,b4_1)))≥0)with|true=>some [RV.d y2Y (b4_0,b4_1),RV.d axf 0]|false=>k 23 (jk x ((ak (ah (ak (ah (b4_0,b4_1)+ah (ak (ah x/ah (b4_0,b4_1)))))/ah (ak (2:Int)))).1) ((ak (ah (ak (ah (b4_0,b4_1)+ah (ak (ah x/ah (b4_0,b4_1)))))/ah (ak (2:Int)))).2)))|false=>none)|false=>none)|false=>none) (match decide (okI (b4_0,b4_1)∧okI (ak (ah x/ah (b4_0,b4_1))))with|true=>(match decide (eH (ak (ah (b4_0,b4_1)+ah (ak (ah x/ah (b4_0,b4_1))))) (ak (2:Int)))with|true=>(match decide (okI (ak (ah (ak (ah (b4_0,b4_1)+ah (ak (ah x/ah (b4_0,b4_1)))))/ah (ak (2:Int))))∧okI (b4_0,b4_1))with|true=>(match decide ((ck (ah (ak (ah (ak (ah (b4_0,b4_1)+ah (ak (ah x/ah (b4_0,b4_1)))))/ah (ak (2:Int))))) (ah (b4_0,b4_1)))≥0)with|true=>some [RV.d y2Y (b4_0,b4_1),RV.d axf 0]|false=>k 23 (jk x ((ak (ah (ak (ah (b4_0,b4_1)+ah (ak (ah x/ah (b4_0,b4_1)))))/ah (ak (2:Int)))).1) ((ak (ah (ak (ah (b4_0,b4_1)+ah (ak (ah x/ah (b4_0,b4_1)))))/ah (ak (2:Int)))).2)))|false=>none)|false=>none)|false=>none)))|false=>none
theorem vO(x:Bool×List Int)(b4_0:Bool)(b4_1:List Int):RN Aq 23 (jk x b4_0 b4_1) (oA x b4_0 b4_1):=rnX
theorem MF(x:BI)(hx:okI x)(h0:0<ah x):∀(m:Nat) (X:Int),X.toNat=m→0<X→bQ (ah x)≤X→szI X≤900000→Aq.Runs 23 (jk x (ak X).1 (ak X).2) [.d y2Y (ak (bQ (ah x))),.d axf 0]:=by
 intro m
 induction m using Nat.strongRecOn with
 |ind m ih=>
  intro X hm hX hs hsz
  obtain⟨g0,g1,g2⟩:=fd (auJ h0)
  have hq0:0≤ah x/X:=avd (by omega) (by omega)
  have hq1:ah x/X≤ah x:=avW _ (by omega)
  have oX:okI (ak X):=bu (by omega)
  have sq:szI (ah x/X)≤1000000:=aur (dl (by omega)) (gJ hx)
  have p1:eH x (ak X):=⟨hx,oX,by rw[dec_enc];exact hX⟩
  have ssum:szI (X+ah x/X)≤1000000:=by
   have b1:=lm hsz
   have b2:=lm (gJ hx)
   have e:pw 1000000=pw 900000*pw 100000:=by rw[←eO]
   have p9:(1000:Int)≤pw 100000:=by
    have:pw 100000=pw 99999*1000000000:=ce 99999
    have:=b8 99999
    omega
   have p8:=b8 900000
   have h8:pw 900000*1000≤pw 900000*pw 100000:=aum p9 (by omega)
   rcases auC X 2 with hX1|hX1
   ·-- X=1:then the number is less than 4
    have:X=1:=by omega
    subst this
    have:bQ (ah x)≤1:=hs
    have h4:ah x<4:=by
     have:=pO (a:=bQ (ah x)+1) (b:=2) (by omega) (by omega)
     omega
    refine eE ?_ ?_<;>(rw[e,Int.ediv_one];omega)
   ·have hq2:ah x/X≤ah x/2:=by
     have:=Int.ediv_mul_le (ah x) (show X≠0 by omega)
     have h2:ah x/X*2≤ah x/X*X:=aum hX1 hq0
     omega
    refine eE ?_ ?_<;>(rw[e]at b2 ⊢;omega)
  have o1:okI (ak X)∧okI (ak (ah x/X)):=⟨oX,bu sq⟩
  have p2:eH (ak (X+ah x/X)) (ak 2):=⟨bu ssum,by decide,by rw[dec_enc];decide⟩
  have hn:=Pi hX g0 g1
  have o2:okI (ak ((X+ah x/X)/2))∧okI (ak X):=⟨bu (aur (dl (by omega)) ssum),oX⟩
  by_cases hc:X≤(X+ah x/X)/2
  ·have hXs:=wM hX hs g1 g2 g0 hc
   refine vO _ _ _ ⟨0,?_⟩
   unfold oA
   simp only[ao,aK]
   have e:∀z:Int,((ak z).1,(ak z).2)=ak z:=fun z=>rfl
   simp only[e,dec_enc,at7 p1,at7 o1,at7 p2,at7 o2]
   have hg:decide (ck ((X+ah x/X)/2) X≥0)=true:=by
    rcases Int.lt_or_eq_of_le hc with h|h
    ·rw[cH h];rfl
    ·rw[←h,dB];rfl
   rw[hg,hXs]
  ·obtain⟨n,hN⟩:=ih ((X+ah x/X)/2).toNat (by omega) ((X+ah x/X)/2) rfl (by
    rcases auC 0 (bQ (ah x))with h|h
    ·omega
    ·exfalso
     have:bQ (ah x)=0:=by omega
     rw[this]at g2
     omega) hn (aur (dl (by omega)) hsz)
   refine vO _ _ _ ⟨n,?_⟩
   unfold oA
   simp only[ao,aK]
   have e:∀z:Int,((ak z).1,(ak z).2)=ak z:=fun z=>rfl
   simp only[e,dec_enc,at7 p1,at7 o1,at7 p2,at7 o2]
   rw[cQ (by omega)]
   exact hN
theorem Qq(x:Bool×List Int)(h:okI x):Con Tryz.prog 256 [.d y2Y x] [.d y2Y (eP x),.d axf (qO x)]:=by
 refine aP D9 (show Aq.Res _ _ _ from ?_)
 obtain⟨x0,x1,x2⟩:=cA h
 have hl:=h.2.2
 cases hn:x.1
 ·by_cases hz:x.2=[]
  ·refine GJ _ ⟨0,?_⟩
   unfold zV eP qO
   have:ah x=0:=by unfold ah;rw[hn,hz];rfl
   rw[hn,hz,this]
   rfl
  ·have hp:0<val x.2:=d7 h.1 hz
   have hd:ah x=val x.2:=by unfold ah;rw[hn];rfl
   have hlen:=auR.2 hz
   have hk:i64.wrap (Int.tdiv (i64.wrap ((x.2.length:Int)+1)) 2)=(((x.2.length+1)/2:Nat):Int):=by
    rw[cO (by omega),fA (by omega),bj (by omega) (by omega)]
    omega
   have hv:val (List.replicate ((x.2.length+1)/2) 0++[1])=pw ((x.2.length+1)/2):=by
    rw[dh,fJ,aww]
    simp[val]
   have hL:bi (List.replicate ((x.2.length+1)/2) 0++[1]):=by
    refine⟨fun y hy=>?_,by simp;omega⟩
    rcases auN.1 hy with hy|hy
    ·have:=List.eq_of_mem_replicate hy;omega
    ·simp at hy;omega
   have hpos:=b8 ((x.2.length+1)/2)
   obtain⟨n,hN⟩:=MF x h (by omega) _ (pw ((x.2.length+1)/2)) rfl hpos (by
     obtain⟨g0,g1,g2⟩:=fd (show 0≤ah x by omega)
     have hlt:=bZ h.1.1
     have hm:=c7 (show x.2.length≤(x.2.length+1)/2+(x.2.length+1)/2 by omega)
     rw[eO]at hm
     have:=sq_lt (a:=bQ (ah x)) (b:=pw ((x.2.length+1)/2)) (by omega) (by omega)
     omega) (eE (k:=900000) (by have:=b8 900000;omega) (by
      have:=c7 (show(x.2.length+1)/2+1≤900000 by omega)
      rw[ce]at this
      omega))
   refine GJ _ ⟨n,?_⟩
   unfold zV eP qO
   simp only[hk]
   rw[hn,show((x.2.length:Int)==0)=false by simp;omega]
   simp only[avP]
   rw[at7 (show(0:Int)≤(((x.2.length+1)/2:Nat):Int)∧(((x.2.length+1)/2:Nat):Int)*((4:Nat):Int)≤140737488355328∧(((x.2.length+1)/2:Nat):Int)≤140737488355328 by omega)]
   rw[at7 (show((List.replicate ((x.2.length+1)/2) (0:Int)).length+([1]:List Nat).length)*4≤140737488355328∧(List.replicate ((x.2.length+1)/2) (0:Int)).length+([1]:List Nat).length≤140737488355328 by simp;omega)]
   rw[at7 (show aY 2 by decide)]
   have he:ak (pw ((x.2.length+1)/2))=(false,List.replicate ((x.2.length+1)/2) 0++[1]):=by
    have ho:okI ((false,List.replicate ((x.2.length+1)/2) 0++[1]):BI):=⟨⟨hL.1,by simp⟩,(fun e=>by cases e),(by simp;omega)⟩
    rw[ge ho]
    congr 1
    exact hv.symm
   rw[he]at hN
   exact hN
 ·refine GJ _ ⟨0,?_⟩
  unfold zV eP qO
  rw[hn]
  rfl
def ael:Env:=(186,nM)::OW
theorem P4:EnvAll Tryz.prog ael:=⟨kB,D9⟩
def ahU:Ctx:=CX ael []
def RZ(x y:Bool×List Int)(_k:KT):Option (List RV):=match x.1==y.1 with|true=>(match decide (nZ x.2 y.2)with|true=>some [RV.d .bool ((ck (val x.2) (val y.2))==0)]|false=>none)|false=>some [RV.d .bool false]
theorem ag5(x y:Bool×List Int):RS ahU 102 [.d y2Y x,.d y2Y y] (RZ x y):=rsX
theorem UV(x y:Bool×List Int)(h:okI x∧okI y):Con Tryz.prog 102 [.d y2Y x,.d y2Y y] [.d .bool (decide (ah x=ah y))]:=by
 refine aP P4 (ag5 _ _ ⟨0,?_⟩)
 obtain⟨hx,hy⟩:=h
 obtain⟨x0,x1,x2⟩:=cA hx
 obtain⟨y0,y1,y2⟩:=cA hy
 unfold RZ
 rw[dT (show nZ x.2 y.2 from⟨⟨hx.1,by have:=hx.2.2;omega⟩,⟨hy.1,by have:=hy.2.2;omega⟩⟩)]
 rw[bS,bS]
 unfold cf
 cases ex:x.1<;>cases ey:y.1<;>simp only[cond_true,cond_false]
 ·show some [RV.d .bool (ck (val x.2) (val y.2)==0)]=_
  rw[kx]
 ·have:=y1 ey
  rw[at9 (show ¬val x.2= -val y.2 by omega)]
  rfl
 ·have:=x1 ex
  rw[at9 (show ¬ -val x.2=val y.2 by omega)]
  rfl
 ·show some [RV.d .bool (ck (val x.2) (val y.2)==0)]=_
  rw[kx,show decide (val x.2=val y.2)=decide (-val x.2= -val y.2) from auE.2 (by omega)]
def eK(q:Rat):Bool:=decide (bQ q.num*bQ q.num=q.num)&&decide (bQ (q.den:Int)*bQ (q.den:Int)=(q.den:Int))
def rtQ(q:Rat):Rat:=mkRat (bQ q.num) (bQ (q.den:Int)).toNat
theorem Aa(z:Int):0≤bQ z:=by unfold bQ;omega
theorem BH{s:Int}(h:0≤s):bQ (s*s)=s:=Yl h (Int.le_refl _) (by grind)
theorem lZ{z:Int}(h:z<0):bQ z=0:=by
 unfold bQ
 rw[show z.toNat=0 by omega]
 rfl
theorem alx{s t:Nat}(ht:0<t)(hg:(s*s).Coprime (t*t)):(mkRat (s:Int) t).num=(s:Int)∧(mkRat (s:Int) t).den=t:=by
 have hc:s.Coprime t:=Nat.Coprime.coprime_dvd_left (Nat.dvd_mul_left s s) (Nat.Coprime.coprime_dvd_right (Nat.dvd_mul_left t t) hg)
 rw[awY,awZ,aus (by omega),aus (by omega),avt,show t.gcd s=1 from hc.symm]
 simp
theorem Hy{q:Rat}(h:eK q=true):(rtQ q).num=bQ q.num∧((rtQ q).den:Int)=bQ (q.den:Int)∧rtQ q*rtQ q=q∧0≤rtQ q:=by
 unfold eK at h
 simp only[aug,awh]at h
 obtain⟨h1,h2⟩:=h
 have hd:=q.den_pos
 have hr:=q.reduced
 obtain⟨s,hs⟩:=avl (Aa q.num)
 obtain⟨t,ht⟩:=avl (Aa (q.den:Int))
 unfold rtQ
 rw[hs,ht,avP]
 rw[hs]at h1
 rw[ht]at h2
 have e1:q.num.natAbs=s*s:=by rw[←h1,←avv,avt]
 have e2:q.den=t*t:=by rw[←avv]at h2;omega
 have hg:(s*s).Coprime (t*t):=by rw[←e1,←e2];exact hr
 have tp:0<t:=Nat.pos_of_ne_zero fun e=>by rw[e2,e]at hd;simp at hd
 obtain⟨g1,g2⟩:=alx tp hg
 refine⟨g1,by rw[g2],?_,?_⟩
 ·rw[Rat.mkRat_mul_mkRat,←e2,h1,Rat.mkRat_self]
 ·exact Rat.num_nonneg.1 (by rw[g1];omega)
theorem aa7(r:Rat):eK (r*r)=true:=by
 have hd:=r.den_pos
 have hc:(r.den*r.den).gcd (r.num*r.num).natAbs=1:=by
  rw[awK]
  have:=r.reduced.symm
  exact Nat.Coprime.mul_left (Nat.Coprime.mul_right this this) (Nat.Coprime.mul_right this this)
 have e1:(r*r).num=r.num*r.num:=by
  rw[Rat.mul_def',awY,hc,aus (awA (by omega) (by omega))]
  simp
 have e2:((r*r).den:Int)=(r.den:Int)*(r.den:Int):=by
  rw[Rat.mul_def',awZ,hc,aus (awA (by omega) (by omega)),Nat.div_one,avv]
 unfold eK
 rw[e1,e2,BH (s:=(r.den:Int)) (by omega)]
 rcases auC r.num 0 with h|h
 ·rw[show r.num*r.num= -r.num* -r.num by grind,BH (by omega)]
  simp
 ·rw[BH h]
  simp
def rtB(q:Rat):BR:=bif eK q then ag (rtQ q)else((false,[]),(false,[]))
theorem Ba{x:BI}(h:okI x):eP x=ak (bQ (ah x)):=by
 obtain⟨x0,x1,x2⟩:=cA h
 unfold eP
 cases hx:x.1
 ·rfl
 ·have:=x1 hx
  have hd:ah x= -val x.2:=by rw[bS,hx];rfl
  rw[hd,lZ (by omega)]
  rfl
theorem HY{z:Int}(h:szI z≤1000000):szI (bQ z)≤500000:=by
 have h1:=lm h
 have e:pw 1000000=pw 500000*pw 500000:=by rw[←eO]
 have hp:=b8 500000
 rcases auC z 0 with h0|h0
 ·rw[lZ h0];exact eE (by omega) hp
 ·obtain⟨g0,g1,g2⟩:=fd h0
  have:=sq_lt (a:=bQ z) (b:=pw 500000) (by omega) (by omega)
  exact eE (by omega) this
theorem Pm(a b:Int):(ak a==ak b)=decide (a=b):=by
 by_cases h:a=b
 ·rw[h,at7 rfl];simp
 ·rw[at9 h,awO]
  intro e
  exact h (by rw[←dec_enc a,e,dec_enc])
theorem H4{x y:BI}(hx:okI x)(hy:okI y):(x==y)=decide (ah x=ah y):=by
 rw[ge hx,ge hy,Pm,dec_enc,dec_enc]
def HB:aN:=spN true true [tI,tI] (fun x=>decide (okI x.1∧okI x.2.1)) (fun x=>[RV.d axf (ck (ah x.1) (ah x.2.1))])
theorem DB:SpK 183 HB:=spX fun x h=>JB x.1 x.2.1 (at6 h)
def Hn:aN:=spN false true [tI,tI] (fun x=>decide (okI x.1∧okI x.2.1)) (fun x=>[RV.d tI (hid (ak (ah x.1*ah x.2.1)))])
theorem CL:SpK 184 Hn:=spX fun x h=>by simp only[aj];exact Jm x.1 x.2.1 (at6 h)
def Ge:aN:=spN false true [tI] (fun x=>decide (okI x.1)) (fun x=>[RV.d tI (hid (eP x.1)),RV.d axf (qO x.1)])
theorem Cm:SpK 288 Ge:=spX fun x h=>by simp only[aj];exact acV x.1 (at6 h)
def WP:Env:=[(183,HB),(184,Hn),(288,Ge)]
theorem C8:EnvAll Tryz.prog WP:=⟨DB,CL,Cm,trivial⟩
def aqi:Ctx:=CX WP []
def ads(x:BI)(_k:KT):Option (List RV):=match decide (okI x)with|true=>(match(qO x)==0 with|true=>(match decide (okI (hid (eP x))∧okI (hid (eP x)))with|true=>(match decide (okI (hid (ak (ah (hid (eP x))*ah (hid (eP x)))))∧okI x)with|true=>some [RV.d tI (hid (eP x)),RV.d .bool ((ck (ah (hid (ak (ah (hid (eP x))*ah (hid (eP x)))))) (ah x))==0)]|false=>none)|false=>none)|false=>some [RV.d tI (hid (eP x)),RV.d .bool false])|false=>none
theorem ar2(x:BI):RS aqi 265 [.d tI x] (ads x):=rsX
theorem aaT(x:BI)(h:okI x):Con Tryz.prog 265 [.d tI x] [.d tI (ak (bQ (ah x))),.d .bool (decide (bQ (ah x)*bQ (ah x)=ah x))]:=by
 refine aP C8 (ar2 _ ⟨0,?_⟩)
 have hs:=gJ h
 have hz:szI (bQ (ah x))≤500000:=HY hs
 have o1:okI (ak (bQ (ah x))):=bu (by omega)
 have o2:okI (ak (bQ (ah x)*bQ (ah x))):=bu (by have:=cK hz hz;omega)
 have o3:okI (ak (bQ (ah x)*bQ (ah x)))∧okI x:=⟨o2,h⟩
 have o4:okI (ak (bQ (ah x)))∧okI (ak (bQ (ah x))):=⟨o1,o1⟩
 have hng:x.1=true→decide (bQ (ah x)*bQ (ah x)=ah x)=false:=fun e=>at9 (by
  have:=(cA h).2.1 e
  have hd:ah x= -val x.2:=by rw[bS,e];rfl
  rw[lZ (by omega)]
  omega)
 unfold ads
 simp only[aj,Ba h,dec_enc,dT h,dT o4,dT o3,kx]
 unfold qO
 cases e:x.1
 ·rfl
 ·rw[hng e];rfl
def UG:aN:=spN false true [tI] (fun x=>decide (okI x.1)) (fun x=>[RV.d tI (hid (ak (bQ (ah x.1)))),RV.d .bool (decide (bQ (ah x.1)*bQ (ah x.1)=ah x.1))])
theorem Vr:SpK 265 UG:=spX fun x h=>by simp only[aj];exact aaT x.1 (at6 h)
def agh:Env:=(265,UG)::WP
theorem SX:EnvAll Tryz.prog agh:=⟨Vr,C8⟩
def aq0:Ctx:=CX agh []
def ac6(a:BR)(_k:KT):Option (List RV):=match decide (okI a.1)with|true=>(match decide (bQ (ah a.1)*bQ (ah a.1)=ah a.1)with|true=>(match decide (okI a.2)with|true=>(match decide (bQ (ah a.2)*bQ (ah a.2)=ah a.2)with|true=>some [RV.d tR (hid (ak (bQ (ah a.1))),hid (ak (bQ (ah a.2)))),RV.d .bool true]|false=>some [RV.d tR ((false,[]),(false,[])),RV.d .bool false])|false=>none)|false=>some [RV.d tR ((false,[]),(false,[])),RV.d .bool false])|false=>none
theorem amh(a:BR):RS aq0 223 [.d tR a] (ac6 a):=rsX
theorem X5(a:BR)(h:okR a):Con Tryz.prog 223 [.d tR a] [.d tR (rtB (ae a)),.d .bool (eK (ae a))]:=by
 refine aP SX (amh _ ⟨0,?_⟩)
 obtain⟨a1,a2⟩:=cL h
 unfold ac6 rtB eK
 rw[dT h.1,dT h.2.1,a1,a2]
 simp only[aj]
 cases e1:decide (bQ (ah a.1)*bQ (ah a.1)=ah a.1)
 ·rfl
 ·cases e2:decide (bQ (ah a.2)*bQ (ah a.2)=ah a.2)
  ·rfl
  ·obtain⟨r1,r2,_⟩:=Hy (q:=ae a) (by unfold eK;rw[a1,a2,e1,e2];rfl)
   simp only[aub,cond_true]
   unfold ag
   rw[r1,r2,a1,a2]
   try rfl
def Jd:aN:=spN false true [tI,tI] (fun x=>decide (okI x.1∧okI x.2.1)) (fun x=>[RV.d tI (hid (ak (ah x.1*ah x.2.1)))])
theorem K1:SpK 193 Jd:=spX fun x h=>by simp only[aj];exact EB x.1 x.2.1 (at6 h)
def J7:aN:=spN false true [tI] (fun x=>decide (okI x.1)) (fun x=>[RV.d tI (hid (eP x.1)),RV.d axf (qO x.1)])
theorem Ls:SpK 256 J7:=spX fun x h=>by simp only[aj];exact Qq x.1 (at6 h)
def Br:aN:=spN true true [tI,tI] (fun x=>decide (okI x.1∧okI x.2.1)) (fun x=>[RV.d .bool (decide (ah x.1=ah x.2.1))])
theorem yS:SpK 102 Br:=spX fun x h=>UV x.1 x.2.1 (at6 h)
def G4:Env:=[(193,Jd),(256,J7),(102,Br)]
theorem zp:EnvAll Tryz.prog G4:=⟨K1,Ls,yS,trivial⟩
def ajf:Ctx:=CX G4 []
def Sr(x:BI)(_k:KT):Option (List RV):=match decide (okI x)with|true=>(match(qO x)==0 with|true=>(match decide (okI (hid (eP x))∧okI (hid (eP x)))with|true=>(match decide (okI (hid (ak (ah (hid (eP x))*ah (hid (eP x)))))∧okI x)with|true=>some [RV.d tI (hid (eP x)),RV.d .bool (decide (ah (hid (ak (ah (hid (eP x))*ah (hid (eP x)))))=ah x))]|false=>none)|false=>none)|false=>some [RV.d tI (hid (eP x)),RV.d .bool false])|false=>none
theorem ahl(x:BI):RS ajf 213 [.d tI x] (Sr x):=rsX
theorem QU(x:BI)(h:okI x):Con Tryz.prog 213 [.d tI x] [.d tI (ak (bQ (ah x))),.d .bool (decide (bQ (ah x)*bQ (ah x)=ah x))]:=by
 refine aP zp (ahl _ ⟨0,?_⟩)
 have hs:=gJ h
 have hz:szI (bQ (ah x))≤500000:=HY hs
 have o1:okI (ak (bQ (ah x))):=bu (by omega)
 have o2:okI (ak (bQ (ah x)*bQ (ah x))):=bu (by have:=cK hz hz;omega)
 have o3:okI (ak (bQ (ah x)*bQ (ah x)))∧okI x:=⟨o2,h⟩
 have o4:okI (ak (bQ (ah x)))∧okI (ak (bQ (ah x))):=⟨o1,o1⟩
 have hng:x.1=true→decide (bQ (ah x)*bQ (ah x)=ah x)=false:=fun e=>at9 (by
  have:=(cA h).2.1 e
  have hd:ah x= -val x.2:=by rw[bS,e];rfl
  rw[lZ (by omega)]
  omega)
 unfold Sr
 simp only[aj,Ba h,dec_enc,dT h,dT o4,dT o3]
 unfold qO
 cases e:x.1
 ·rfl
 ·rw[hng e];rfl
def Jj:aN:=spN false true [tI] (fun x=>decide (okI x.1)) (fun x=>[RV.d tI (hid (ak (bQ (ah x.1)))),RV.d .bool (decide (bQ (ah x.1)*bQ (ah x.1)=ah x.1))])
theorem KB:SpK 213 Jj:=spX fun x h=>by simp only[aj];exact QU x.1 (at6 h)
def UI:Env:=(213,Jj)::G4
theorem LH:EnvAll Tryz.prog UI:=⟨KB,zp⟩
def akY:Ctx:=CX UI []
def NM(a:BR)(_k:KT):Option (List RV):=match decide (okI a.1)with|true=>(match decide (okI a.2)with|true=>(match !(decide (bQ (ah a.1)*bQ (ah a.1)=ah a.1))with|true=>some [RV.d tR ((false,[]),(false,[])),RV.d .bool false]|false=>(match !(decide (bQ (ah a.2)*bQ (ah a.2)=ah a.2))with|true=>some [RV.d tR ((false,[]),(false,[])),RV.d .bool false]|false=>some [RV.d tR (hid (ak (bQ (ah a.1))),hid (ak (bQ (ah a.2)))),RV.d .bool true]))|false=>none)|false=>none
theorem ahA(a:BR):RS akY 131 [.d tR a] (NM a):=rsX
theorem Oh(a:BR)(h:okR a):Con Tryz.prog 131 [.d tR a] [.d tR (rtB (ae a)),.d .bool (eK (ae a))]:=by
 refine aP LH (ahA _ ⟨0,?_⟩)
 obtain⟨a1,a2⟩:=cL h
 unfold NM rtB eK
 rw[dT h.1,dT h.2.1,a1,a2]
 simp only[aj]
 cases e1:decide (bQ (ah a.1)*bQ (ah a.1)=ah a.1)
 ·rfl
 ·cases e2:decide (bQ (ah a.2)*bQ (ah a.2)=ah a.2)
  ·rfl
  ·obtain⟨r1,r2,_⟩:=Hy (q:=ae a) (by unfold eK;rw[a1,a2,e1,e2];rfl)
   simp only[aub,cond_true]
   unfold ag
   rw[r1,r2,a1,a2]
   try rfl
def Ps:aN:=spN false true [tI,tI] (fun x=>decide (eH x.1 x.2.1)) (fun x=>[RV.d tI (hid (ak (ah x.1/ah x.2.1))),RV.d tI (hid (ak (ah x.1%ah x.2.1))),RV.d axf 0])
theorem T2:SpK 287 Ps:=spX fun x h=>by simp only[aj];exact J2 x.1 x.2.1 (at6 h)
def aeW:Env:=[(287,Ps)]
theorem Um:EnvAll Tryz.prog aeW:=⟨T2,trivial⟩
def aqO:Ctx:=CX aeW []
def afX(a:BR)(_k:KT):Option (List RV):=match decide (eH a.1 a.2)with|true=>some [RV.d tI (hid (ak (ah a.1/ah a.2)))]|false=>none
theorem aoD(a:BR):RS aqO 296 [.d tR a] (afX a):=rsX
theorem Yf(a:BR)(h:okR a):Con Tryz.prog 296 [.d tR a] [.d tI (ak (ae a).floor)]:=by
 refine aP Um (aoD _ ⟨0,?_⟩)
 obtain⟨a1,a2⟩:=cL h
 unfold afX
 rw[dT (show eH a.1 a.2 from⟨h.1,h.2.1,h.2.2.1⟩),Rat.floor_def,a1,a2]
 simp only[aj]
def ad4:Env:=[(185,nE)]
theorem RJ:EnvAll Tryz.prog ad4:=⟨kq,trivial⟩
def ab3:NT:=[((100,6),{keep:=[1,3],hl:=1})]
def zO:Ctx:=CX ad4 ab3
def uc(x:BI)(s3:Int):Cfg:=⟨100,[.blk 0,.seq 23],[(1,.box 0 0),(3,SI s3)],[.box 33 [SB x.1,.d axe x.2]],0,[]⟩
def ahr(x:BI)(k:KT):Option (List RV):=k 6 (uc x 0)
theorem ajg(x:BI):RS zO 100 [.d tI x] (ahr x):=rsX
def qT(x:BI)(s3:Int)(k:KT):Option (List RV):=match decide (s3<(x.2.length:Int))with|true=>(match bH x.2 s3 with|some x1=>(match decide (x1≥1000000000)with|true=>some [RV.d .bool false]|false=>k 6 (uc x (i64.wrap (s3+1))))|none=>none)|false=>(match decide (bi x.2)with|true=>(match((ai (val x.2).toNat).length:Int)==(x.2.length:Int)with|true=>(match !x.1 with|true=>some [RV.d .bool true]|false=>some [RV.d .bool (decide ((x.2.length:Int)>0))])|false=>some [RV.d .bool false])|false=>none)
theorem zi(x:BI)(s3:Int):RN zO 6 (uc x s3) (qT x s3):=rnX
theorem K3(x:BI)(h:okI x):∀(j i:Nat),i+j=x.2.length→zO.Runs 6 (uc x (i:Int)) [.d .bool true]:=by
 obtain⟨x0,x1,x2⟩:=cA h
 have hlim:=fi h
 have hl:=h.2.2
 intro j
 induction j with
 |zero=>
  intro i hi
  refine zi _ _ ⟨0,?_⟩
  unfold qT
  have hc:ai (val x.2).toNat=x.2:=(l7 h.1).symm
  rw[cN (by omega),dT hlim,hc,beq_self_eq_true]
  dsimp only
  cases e:x.1
  ·rfl
  ·have:=x1 e
   have:x.2≠[]:=fun e=>by rw[x2]at e;omega
   have:=auR.2 this
   rw[at7 (by omega)]
   rfl
 |succ j ih=>
  intro i hi
  have hil:i<x.2.length:=by omega
  obtain⟨q,hq⟩:=ih (i+1) (by omega)
  refine zi _ _ ⟨q,?_⟩
  unfold qT
  have hb:=(hlim.1 x.2[i] (au7 hil)).2
  rw[cg hil,aM,at8 hil,cO (by omega)]
  dsimp only
  rw[at9 (by omega)]
  exact hq
theorem XD(x:BI)(h:okI x):Con Tryz.prog 100 [.d tI x] [.d .bool true]:=by
 refine aP RJ (show zO.Res _ _ _ from ?_)
 obtain⟨q,hq⟩:=K3 x h x.2.length 0 (by omega)
 exact ajg _ ⟨q,hq⟩
def Ia:aN:=spN true true [tI] (fun x=>decide (okI x.1)) (fun _=>[RV.d .bool true])
theorem Ky:SpK 100 Ia:=spX fun x h=>XD x.1 (at6 h)
def In:aN:=spN true true [tI] (fun x=>decide (okI x.1)) (fun x=>[RV.d axf (ck (ah x.1) 0)])
theorem ME:SpK 101 In:=spX fun x h=>Dw x.1 (at6 h)
def JS:aN:=spN false true [tI,tI] (fun x=>decide (okI x.1∧okI x.2.1)) (fun x=>[RV.d tI (hid (ak ((Int.gcd (ah x.1) (ah x.2.1):Nat):Int)))])
theorem LG:SpK 103 JS:=spX fun x h=>by simp only[aj];exact EM x.1 x.2.1 (at6 h)
def IW:aN:=spN false true [] (fun _=>true) (fun _=>[RV.d tI (hid (ak 1))])
theorem KU:SpK 104 IW:=spX fun _ _=>by simp only[aj];exact DN
def adq:Env:=[(102,Br),(100,Ia),(101,In),(103,JS),(104,IW)]
theorem Qs:EnvAll Tryz.prog adq:=⟨yS,Ky,ME,LG,KU,trivial⟩
def aik:Ctx:=CX adq []
def W1(a:BR)(_k:KT):Option (List RV):=match decide (okI a.1)with|true=>(match decide (okI a.2)with|true=>(match decide (okI a.2)with|true=>(match(ck (ah a.2) 0) !=1 with|true=>some [RV.d .bool false]|false=>(match decide (okI a.1∧okI a.2)with|true=>(match decide (okI (hid (ak ((Int.gcd (ah a.1) (ah a.2):Nat):Int)))∧okI (hid (ak 1)))with|true=>some [RV.d .bool (decide (ah (hid (ak ((Int.gcd (ah a.1) (ah a.2):Nat):Int)))=ah (hid (ak 1))))]|false=>none)|false=>none))|false=>none)|false=>none)|false=>none
theorem aiv(a:BR):RS aik 31 [.d tR a] (W1 a):=rsX
theorem R6(a:BR)(h:okR a):Con Tryz.prog 31 [.d tR a] [.d .bool true]:=by
 refine aP Qs (aiv _ ⟨0,?_⟩)
 obtain⟨h1,h2,h3,h4,_⟩:=h
 have o1:okI (ak ((Int.gcd (ah a.1) (ah a.2):Nat):Int)):=by rw[h4];exact m6
 unfold W1
 simp only[aj]
 rw[dT h1,dT h2,dT (show okI a.1∧okI a.2 from⟨h1,h2⟩),cH h3,dT (show okI (ak ((Int.gcd (ah a.1) (ah a.2):Nat):Int))∧okI (ak 1) from⟨o1,m6⟩),dec_enc,dec_enc,h4]
 rfl
def mkR(a b c:Rat):Rt:=bif eK c then(a+b*rtQ c,0,0)else bif decide (b=0)then(a,0,0)else(a,b,c)
def coR(a b c:Rat):Rt:=bif decide (b=0)then(a,0,0)else(a,b,c)
class Nn (c:Rat):Prop where le:0≤c
def abu(x:Rt):Prop:=(x.2.1=0∧x.2.2=0)∨(x.2.1≠0∧0<x.2.2∧eK x.2.2=false)
instance (x:Rt):Decidable (abu x):=by unfold abu;infer_instance
class Rdd (x:Rt):Prop where
 rd:abu x
def okT(k:Nat)(x:BO3):Prop:=ok Rt k x∧abu (dec x)
instance (k:Nat) (x:BO3):Decidable (okT k x):=by unfold okT;infer_instance
theorem fa{k:Nat}{x:BO3}(h:okT k x):∃v:Rt,x=enc v∧Bd v k∧Rdd v:=by
 obtain⟨h1,h2⟩:=h
 obtain⟨v,rfl,bv⟩:=aS h1
 rw[am]at h2
 exact⟨v,rfl,bv,⟨h2⟩⟩
theorem a9{x:Rt}{j k:Nat}[h:Bd x j][r:Rdd x](hj:j≤k)(hk:k≤480000):decide (okT k (enc x))=true:=at7 ⟨at6 (okd hj hk),by rw[am];exact r.rd⟩
theorem Rdd.nn{x:Rt}(h:Rdd x):0≤x.2.2:=by
 rcases h.rd with h|h<;>grind
instance atT {x:Rt} [h:Rdd x]:Nn x.2.2:=⟨h.nn⟩
theorem qH:eK 0=true:=by decide+kernel
theorem Js{c:Rat}(h:0≤c)(hc:eK c=false):0<c:=by
 rcases(by grind:c=0∨0<c)with h|h
 ·rw[h,qH]at hc;cases hc
 ·exact h
instance mR {a b c:Rat} [h:Nn c]:Rdd (mkR a b c):=by
 refine⟨?_⟩
 unfold mkR
 cases hc:eK c
 ·simp only[cond_false]
  by_cases hb:b=0
  ·rw[at7 hb];exact .inl ⟨rfl,rfl⟩
  ·rw[at9 hb];exact .inr ⟨hb,Js h.le hc,hc⟩
 ·exact .inl ⟨rfl,rfl⟩
instance ahx {a:Rat}:Rdd (a,0,0):=⟨.inl ⟨rfl,rfl⟩⟩
namespace RE
theorem Qi{c:Rat}(h:eK c=true):rq c=of (rtQ c):=by
 obtain⟨_,_,e,h0⟩:=Hy h
 refine agw _ _ (EQ c) (jx.2 h0) ?_
 rw[ia (by rw[←e];exact auF h0 h0),←bJ,e]
theorem Iy:rq 0=0:=by
 have:=ia (Rat.le_refl:(0:Rat)≤0)
 rcases ku (EQ 0)with h|h
 ·have:=mul_pos h h
  rw[ia Rat.le_refl]at this
  exact absurd this (lt_irrefl _)
 ·exact h
theorem da(a c:Rat):v2 a 0 c=of a:=by
 unfold v2
 rw[B4,zero_mul,add_zero]
theorem vR_mk(a b c:Rat):vR (mkR a b c)=v2 a b c:=by
 unfold mkR vR
 cases hc:eK c
 ·simp only[cond_false]
  by_cases hb:b=0
  ·rw[at7 hb];subst hb;show v2 a 0 0=_;rw[da,da]
  ·rw[at9 hb];rfl
 ·show v2 (a+b*rtQ c) 0 0=_
  rw[da]
  unfold v2
  rw[Qi hc,of_add,bJ]
theorem vR_co(a b c:Rat):vR (coR a b c)=v2 a b c:=by
 unfold coR vR
 by_cases hb:b=0
 ·rw[at7 hb];subst hb;show v2 a 0 0=_;rw[da,da]
 ·rw[at9 hb];rfl
end RE
theorem ZN{z:Int}(h:0≤z):bQ z≤z:=by
 obtain⟨g0,g1,g2⟩:=fd h
 rcases auC (bQ z) 1 with h'|h'
 ·omega
 ·have:bQ z*1≤bQ z*bQ z:=aum h' g0
  omega
theorem Ec(z:Int):szI (bQ z)≤szI z:=by
 have h0:=Aa z
 rcases auC z 0 with h|h
 ·rw[lZ h];exact dl (by omega)
 ·have:=ZN h
  exact dl (by omega)
instance atN {c:Rat} {k:Nat} [h:Bd c k]:Bd (rtQ c) k:=by
 have hd:=c.den_pos
 have h1:0<bQ (c.den:Int):=by
  obtain⟨g0,g1,g2⟩:=fd (show(0:Int)≤(c.den:Int) by omega)
  rcases auC 0 (bQ (c.den:Int))with h|h
  ·exact h
  ·rw[show bQ (c.den:Int)=0 by omega]at g2;omega
 refine⟨sN (by omega) (aur (Ec _) h.le.1) ?_⟩
 rw[Int.toNat_of_nonneg (by omega)]
 exact aur (Ec _) h.le.2
instance atl {a b c:Rat} {i j k:Nat} [ha:Bd a i] [hb:Bd b j] [hc:Bd c k]:Bd (mkR a b c) (i+(j+k)+1):=by
 have z:bdR (i+(j+k)+1) 0:=bT lN.le (by omega)
 refine⟨?_⟩
 unfold mkR
 cases eK c
 ·simp only[cond_false]
  cases decide (b=0)
  ·exact⟨bT ha.le (by omega),bT hb.le (by omega),bT hc.le (by omega)⟩
  ·exact⟨bT ha.le (by omega),z,z⟩
 ·exact⟨(inferInstance:Bd (a+b*rtQ c) (i+(j+k)+1)).le,z,z⟩
instance asO {a b c:Rat} {i j k:Nat} [ha:Bd a i] [hb:Bd b j] [hc:Bd c k]:Bd (coR a b c) (mx i (mx j k)):=by
 have h1:=BX i (mx j k)
 have h2:=BF i (mx j k)
 have h3:=BX j k
 have h4:=BF j k
 have h5:=lE ha.le
 have z:bdR (mx i (mx j k)) 0:=bT lN.le (by omega)
 refine⟨?_⟩
 unfold coR
 cases decide (b=0)
 ·exact⟨bT ha.le (by omega),bT hb.le (by omega),bT hc.le (by omega)⟩
 ·exact⟨bT ha.le (by omega),z,z⟩
class Ns (c:Rat):Prop where ns:c=0∨(0<c∧eK c=false)
theorem Ns.nn{c:Rat}(h:Ns c):0≤c:=by rcases h.ns with h|h<;>grind
instance atS {c:Rat} [h:Ns c]:Nn c:=⟨h.nn⟩
theorem aiI{a b c:Rat}{i j k:Nat}[ha:Bd a i][hb:Bd b j][hc:Bd c k][hn:Ns c]:Bd (mkR a b c) (mx (i+j+2) k):=by
 have h1:=BX (i+j+2) k
 have h2:=BF (i+j+2) k
 have z:bdR (mx (i+j+2) k) 0:=bT lN.le (by omega)
 refine⟨?_⟩
 unfold mkR
 rcases hn.ns with h|h
 ·subst h
  rw[qH]
  have e:rtQ 0=0:=by decide+kernel
  exact⟨by show bdR _ (a+b*rtQ 0);rw[e];exact bT (zX ha.le (AW hb.le lN.le)) (by omega),z,z⟩
 ·rw[h.2]
  simp only[cond_false]
  cases decide (b=0)
  ·exact⟨bT ha.le (by omega),bT hb.le (by omega),bT hc.le (by omega)⟩
  ·exact⟨bT ha.le (by omega),z,z⟩
def sgR(x:Rt):Int:=ff x.1 x.2.1 x.2.2
def noR(x:Rt):Rat:=x.1*x.1-x.2.1*x.2.1*x.2.2
theorem Gj{x:Rt}(h:0≤x.2.2):sgR x=RE.sg (RE.vR x):=RE.sgn2_re h
def jh(a b c:Rat):Rt:=bif decide (b=0)then(a,0,0)else bif decide (c=0)then(a,0,0)else(a,b,c)
instance asW {x:Rt} {k:Nat} [h:Bd x k]:Bd (noR x) (5*k+1):=(inferInstance:Bd (x.1*x.1-x.2.1*x.2.1*x.2.2) (k+k+(k+k+k)+1)).mono (by omega)
theorem Q2{c:Rat}(h:eK c=true):rtB c=ag (rtQ c):=by unfold rtB;rw[h];rfl
theorem aiG{x:Rt}(h:Rdd x)(hb:x.2.1≠0):noR x≠0:=by
 intro e
 rcases h.rd with h|⟨_,h1,h2⟩
 ·exact hb h.1
 ·unfold noR at e
  have:x.2.2=x.1/x.2.1*(x.1/x.2.1):=by grind
  rw[this,aa7]at h2
  cases h2
theorem afF{x:Rt}(h:Rdd x):sgR x=bif aU x.2.1 0==0 then aU x.1 0 else bif aU x.1 0==aU x.2.1 0 then aU x.1 0 else bif aU x.1 0==0 then aU x.2.1 0 else aU x.1 0*aU (noR x) 0:=by
 unfold sgR ff RE.addS
 rcases h.rd with⟨h1,h2⟩|⟨h0,h1,h2⟩
 ·rw[h1,dH]
  simp
 ·have hb:(aU x.2.1 0==0)=false:=by rw[aI,at9 h0]
  rw[cX h1,av9,hb]
  unfold noR
  rw[pC]
  rfl
def HD:aN:=spN false true [tR] (fun x=>decide (okR x.1)) (fun x=>[RV.d tR (hid (rtB (ae x.1))),RV.d .bool (eK (ae x.1))])
theorem Dp:SpK 223 HD:=spX fun x h=>by simp only[aj];exact X5 x.1 (at6 h)
def IM:Env:=[(76,io),(149,jQ),(147,jq),(148,ip),(83,gr),(223,HD)]
theorem uZ:EnvAll Tryz.prog IM:=⟨fc,fY,fC,eW,eM,Dp,trivial⟩
def amP:Ctx:=CX IM []
def afx(_k:KT):Option (List RV):=match decide (aY (0:Int))with|true=>some [RV.d tR (hid (ag ((0:Int):Rat)))]|false=>none
theorem aoL:RS amP 157 [] (afx):=rsX
theorem YO:Con Tryz.prog 157 [] [.d tR (ag 0)]:=by
 refine aP uZ (aoL ⟨0,?_⟩)
 unfold afx
 rw[dT (show aY 0 by decide)]
 simp only[aj]
 rfl
def On:aN:=spN false true [] (fun _=>true) (fun _=>[RV.d tR (hid (ag 0))])
theorem M1:SpK 157 On:=spX fun _ _=>by simp only[aj];exact YO
def JJ:Env:=(157,On)::IM
theorem wx:EnvAll Tryz.prog JJ:=⟨M1,uZ⟩
def aqc:Ctx:=CX JJ []
def ac8(a:BR)(_k:KT):Option (List RV):=some [RV.d tO (a,(hid (ag 0),hid (ag 0)))]
theorem al8(a:BR):RS aqc 71 [.d tR a] (ac8 a):=rsX
theorem Yp(a:BR)(h:okR a):Con Tryz.prog 71 [.d tR a] [.d tO (enc ((ae a,0,0):Rt))]:=by
 refine aP wx (al8 _ ⟨0,?_⟩)
 have ha:=h
 obtain⟨a,rfl,ba⟩:=eo ha
 unfold ac8
 simp only[aj,aT,aB,az]
 try rfl
def aqV:Ctx:=CX JJ []
def aed(a b c:BR)(_k:KT):Option (List RV):=match decide (okR b)with|true=>(match(aU (ae b) 0)==0 with|true=>some [RV.d tO (a,(b,hid (ag 0)))]|false=>some [RV.d tO (a,(b,c))])|false=>none
theorem apM(a b c:BR):RS aqV 224 [.d tR a,.d tR b,.d tR c] (aed a b c):=rsX
theorem abP(a b c:BR)(h:okR a∧okR b∧okR c):Con Tryz.prog 224 [.d tR a,.d tR b,.d tR c] [.d tO (enc (coR (ae a) (ae b) (ae c)))]:=by
 refine aP wx (apM _ _ _ ⟨0,?_⟩)
 obtain⟨ha,hb,hc⟩:=h
 obtain⟨a,rfl,ba⟩:=eo ha
 obtain⟨b,rfl,bb⟩:=eo hb
 obtain⟨c,rfl,bc⟩:=eo hc
 unfold aed
 simp only[aj,az,aW,Nat.reduceLeDiff,aI]
 unfold coR
 by_cases e:b=0
 ·subst e;rw[at7 rfl];rfl
 ·rw[at9 e];rfl
def pe:aN:=spN false true [tR] (fun x=>decide (okR x.1)) (fun x=>[RV.d tO (hid (enc ((ae x.1,0,0):Rt)))])
theorem kI:SpK 71 pe:=spX fun x h=>by simp only[aj];exact Yp x.1 (at6 h)
def TM:aN:=spN false true [tR,tR,tR] (fun x=>decide (okR x.1∧okR x.2.1∧okR x.2.2.1)) (fun x=>[RV.d tO (hid (enc (coR (ae x.1) (ae x.2.1) (ae x.2.2.1))))])
theorem Nu:SpK 224 TM:=spX fun x h=>by simp only[aj];exact abP x.1 x.2.1 x.2.2.1 (at6 h)
def ada:Env:=(71,pe)::(224,TM)::JJ
theorem SO:EnvAll Tryz.prog ada:=⟨kI,Nu,wx⟩
def aqg:Ctx:=CX ada []
def af7(a b c:BR)(_k:KT):Option (List RV):=match decide (okR c)with|true=>(match decide ((aU (ae c) 0)<0)with|true=>some [RV.d tO (((false,[]),(false,[])),(((false,[]),(false,[])),((false,[]),(false,[])))),RV.d axf 7]|false=>(match decide (okR c)with|true=>(match eK (ae c)with|true=>(match decide (okR b∧okR (hid (rtB (ae c))))with|true=>(match decide (okR a∧okR (hid (ag (ae b*ae (hid (rtB (ae c)))))))with|true=>(match decide (okR (hid (ag (ae a+ae (hid (ag (ae b*ae (hid (rtB (ae c))))))))))with|true=>some [RV.d tO (hid (enc ((ae (hid (ag (ae a+ae (hid (ag (ae b*ae (hid (rtB (ae c))))))))),0,0):Rt))),RV.d axf 0]|false=>none)|false=>none)|false=>none)|false=>(match decide (okR a∧okR b∧okR c)with|true=>some [RV.d tO (hid (enc (coR (ae a) (ae b) (ae c)))),RV.d axf 0]|false=>none))|false=>none))|false=>none
theorem alz(a b c:BR):RS aqg 158 [.d tR a,.d tR b,.d tR c] (af7 a b c):=rsX
theorem Ya(a b c:BR)(h:ok Rat 100000 a∧ok Rat 100000 b∧ok Rat 100000 c∧0≤ae c):Con Tryz.prog 158 [.d tR a,.d tR b,.d tR c] [.d tO (enc (mkR (ae a) (ae b) (ae c))),.d axf 0]:=by
 refine aP SO (alz _ _ _ ⟨0,?_⟩)
 obtain⟨ha,hb,hc,hc_3⟩:=h
 obtain⟨a,rfl,ba⟩:=aS ha
 obtain⟨b,rfl,bb⟩:=aS hb
 obtain⟨c,rfl,bc⟩:=aS hc
 rw[aB,az]at hc_3
 unfold af7
 simp only[aj,aT,aB,az,aW,aua,aub,auc,Nat.reduceLeDiff,aJ,at9 (show ¬c<0 by grind)]
 unfold mkR
 cases hq:eK c
 ·have hz:c≠0:=fun e=>by rw[e,qH]at hq;cases hq
  simp only[cond_false]
  try rfl
 ·rw[Q2 hq]
  simp only[aT,aB,az,aW,Nat.reduceAdd,Nat.reduceLeDiff,cond_true]
  try rfl
def ua:aN:=spN false true [tR] (fun x=>decide (okR x.1)) (fun x=>[RV.d tR (hid (rtB (ae x.1))),RV.d .bool (eK (ae x.1))])
theorem sQ:SpK 131 ua:=spX fun x h=>by simp only[aj];exact Oh x.1 (at6 h)
def z6:aN:=spN true true [tR] (fun x=>decide (okR x.1)) (fun _=>[RV.d .bool true])
theorem xS:SpK 31 z6:=spX fun x h=>R6 x.1 (at6 h)
def FH:Env:=[(50,gQ),(127,iw),(161,iu),(132,gL),(78,fu),(131,ua),(31,z6)]
theorem yv:EnvAll Tryz.prog FH:=⟨fq,fT,fS,fk,dW,sQ,xS,trivial⟩
def aks:Ctx:=CX FH []
def Q6(_k:KT):Option (List RV):=match decide (aY (0:Int))with|true=>some [RV.d tR (hid (ag ((0:Int):Rat)))]|false=>none
theorem ajU:RS aks 145 [] (Q6):=rsX
theorem M0:Con Tryz.prog 145 [] [.d tR (ag 0)]:=by
 refine aP yv (ajU ⟨0,?_⟩)
 unfold Q6
 rw[dT (show aY 0 by decide)]
 simp only[aj]
 rfl
def Ac:aN:=spN false true [] (fun _=>true) (fun _=>[RV.d tR (hid (ag 0))])
theorem xK:SpK 145 Ac:=spX fun _ _=>by simp only[aj];exact M0
def Fe:Env:=(145,Ac)::FH
theorem yD:EnvAll Tryz.prog Fe:=⟨xK,yv⟩
def ak5:Ctx:=CX Fe []
def UC(a:BR)(_k:KT):Option (List RV):=some [RV.d tO (a,(hid (ag 0),hid (ag 0)))]
theorem ahh(a:BR):RS ak5 57 [.d tR a] (UC a):=rsX
theorem VU(a:BR)(h:okR a):Con Tryz.prog 57 [.d tR a] [.d tO (enc ((ae a,0,0):Rt))]:=by
 refine aP yD (ahh _ ⟨0,?_⟩)
 have ha:=h
 obtain⟨a,rfl,ba⟩:=eo ha
 unfold UC
 simp only[aj,aT,aB,az]
 try rfl
def tC:aN:=spN false true [tR] (fun x=>decide (okR x.1)) (fun x=>[RV.d tO (hid (enc ((ae x.1,0,0):Rt)))])
theorem rz:SpK 57 tC:=spX fun x h=>by simp only[aj];exact VU x.1 (at6 h)
def Bu:Env:=(57,tC)::Fe
theorem rQ:EnvAll Tryz.prog Bu:=⟨rz,yD⟩
def akh:Ctx:=CX Bu []
def V1(n:Int)(_k:KT):Option (List RV):=match decide (aY n)with|true=>(match decide (okR (hid (ag (n:Rat))))with|true=>some [RV.d tO (hid (enc ((ae (hid (ag (n:Rat))),0,0):Rt)))]|false=>none)|false=>none
theorem ajq(n:Int):RS akh 51 [SI n] (V1 n):=rsX
theorem N7(n:Int)(h:aY n):Con Tryz.prog 51 [.d axf n] [.d tO (enc (((n:Rat),0,0):Rt))]:=by
 refine aP rQ (ajq _ ⟨0,?_⟩)
 have hn:=h
 have bn:=cZ hn
 unfold V1
 simp only[aj,aT,aB,az,aW,Nat.reduceLeDiff,dT hn]
 try rfl
def ahm:Ctx:=CX Bu []
def PG(a b c:BR)(_k:KT):Option (List RV):=match decide (okR b)with|true=>(match(aU (ae b) 0)==0 with|true=>(match decide (okR a)with|true=>some [RV.d tO (hid (enc ((ae a,0,0):Rt)))]|false=>none)|false=>(match decide (okR c)with|true=>(match(aU (ae c) 0)==0 with|true=>(match decide (okR a)with|true=>some [RV.d tO (hid (enc ((ae a,0,0):Rt)))]|false=>none)|false=>some [RV.d tO (a,(b,c))])|false=>none))|false=>none
theorem ag7(a b c:BR):RS ahm 133 [.d tR a,.d tR b,.d tR c] (PG a b c):=rsX
theorem Pn(a b c:BR)(h:okR a∧okR b∧okR c):Con Tryz.prog 133 [.d tR a,.d tR b,.d tR c] [.d tO (enc (jh (ae a) (ae b) (ae c)))]:=by
 refine aP rQ (ag7 _ _ _ ⟨0,?_⟩)
 obtain⟨ha,hb,hc⟩:=h
 obtain⟨a,rfl,ba⟩:=eo ha
 obtain⟨b,rfl,bb⟩:=eo hb
 obtain⟨c,rfl,bc⟩:=eo hc
 unfold PG
 simp only[aj,aT,aB,az,aW,Nat.reduceLeDiff,aI]
 unfold jh
 by_cases e:b=0
 ·rw[at7 e];rfl
 ·rw[at9 e]
  by_cases e:c=0
  ·rw[at7 e];rfl
  ·rw[at9 e];rfl
def Ca:aN:=spN false true [tR,tR,tR] (fun x=>decide (okR x.1∧okR x.2.1∧okR x.2.2.1)) (fun x=>[RV.d tO (hid (enc (jh (ae x.1) (ae x.2.1) (ae x.2.2.1))))])
theorem yo:SpK 133 Ca:=spX fun x h=>by simp only[aj];exact Pn x.1 x.2.1 x.2.2.1 (at6 h)
def Np:Env:=(133,Ca)::Bu
theorem Lo:EnvAll Tryz.prog Np:=⟨yo,rQ⟩
def akl:Ctx:=CX Np []
def PS(a b c:BR)(_k:KT):Option (List RV):=match decide (okR c)with|true=>(match decide ((aU (ae c) 0)<0)with|true=>some [RV.d tO (((false,[]),(false,[])),(((false,[]),(false,[])),((false,[]),(false,[])))),RV.d axf 7]|false=>(match decide (okR c)with|true=>(match eK (ae c)with|true=>(match decide (okR b∧okR (hid (rtB (ae c))))with|true=>(match decide (okR a∧okR (hid (ag (ae b*ae (hid (rtB (ae c)))))))with|true=>(match decide (okR (hid (ag (ae a+ae (hid (ag (ae b*ae (hid (rtB (ae c))))))))))with|true=>some [RV.d tO (hid (enc ((ae (hid (ag (ae a+ae (hid (ag (ae b*ae (hid (rtB (ae c))))))))),0,0):Rt))),RV.d axf 0]|false=>none)|false=>none)|false=>none)|false=>(match decide (okR a∧okR b∧okR c)with|true=>some [RV.d tO (hid (enc (jh (ae a) (ae b) (ae c)))),RV.d axf 0]|false=>none))|false=>none))|false=>none
theorem alb(a b c:BR):RS akl 49 [.d tR a,.d tR b,.d tR c] (PS a b c):=rsX
theorem WR(a b c:BR)(h:ok Rat 100000 a∧ok Rat 100000 b∧ok Rat 100000 c∧0≤ae c):Con Tryz.prog 49 [.d tR a,.d tR b,.d tR c] [.d tO (enc (mkR (ae a) (ae b) (ae c))),.d axf 0]:=by
 refine aP Lo (alb _ _ _ ⟨0,?_⟩)
 obtain⟨ha,hb,hc,hc_3⟩:=h
 obtain⟨a,rfl,ba⟩:=aS ha
 obtain⟨b,rfl,bb⟩:=aS hb
 obtain⟨c,rfl,bc⟩:=aS hc
 rw[aB,az]at hc_3
 unfold PS
 simp only[aj,aT,aB,az,aW,aua,aub,auc,Nat.reduceLeDiff,aJ,at9 (show ¬c<0 by grind)]
 unfold mkR
 cases hq:eK c
 ·have hz:c≠0:=fun e=>by rw[e,qH]at hq;cases hq
  simp only[cond_false,jh,at9 hz]
  try rfl
 ·rw[Q2 hq]
  simp only[aT,aB,az,aW,Nat.reduceAdd,Nat.reduceLeDiff,cond_true]
  try rfl
def ar9:Ctx:=CX IM []
def afQ(r:BO3)(_k:KT):Option (List RV):=match decide (okR r.1∧okR r.1)with|true=>(match decide (okR r.2.1∧okR r.2.1)with|true=>(match decide (okR (hid (ag (ae r.2.1*ae r.2.1)))∧okR r.2.2)with|true=>(match decide (okR (hid (ag (ae r.1*ae r.1)))∧okR (hid (ag (ae (hid (ag (ae r.2.1*ae r.2.1)))*ae r.2.2))))with|true=>some [RV.d tR (hid (ag (ae (hid (ag (ae r.1*ae r.1)))-ae (hid (ag (ae (hid (ag (ae r.2.1*ae r.2.1)))*ae r.2.2))))))]|false=>none)|false=>none)|false=>none)|false=>none
theorem arH(r:BO3):RS ar9 200 [.d tO r] (afQ r):=rsX
theorem Y4(r:BO3)(h:ok Rt 15000 r):Con Tryz.prog 200 [.d tO r] [.d tR (ag (noR (dec r)))]:=by
 refine aP uZ (arH _ ⟨0,?_⟩)
 have hr:=h
 obtain⟨r,rfl,br⟩:=aS hr
 unfold afQ
 simp only[aj,am,aE,aF,aB,az,aW,aua,aub,Nat.reduceAdd,Nat.reduceLeDiff]
 try rfl
abbrev Iv:=Int×Int
def prI(i:Iv):Prop:= -2305843009213693952≤i.1∧i.1≤i.2∧i.2≤2305843009213693952
instance (i:Iv):Decidable (prI i):=by unfold prI;infer_instance
def iv0:Iv:=(0,0)
theorem eV:prI iv0:=by decide
def kv(lo hi:Int):Iv×Bool:=bif decide (lo< -2305843009213693952)then(iv0,false)else bif decide (hi>2305843009213693952)then(iv0,false)else((lo,hi),true)
theorem zQ{lo hi:Int}(h:lo≤hi):prI (kv lo hi).1:=by
 unfold kv
 by_cases h1:lo< -2305843009213693952
 ·rw[at7 h1];exact eV
 ·rw[at9 h1]
  by_cases h2:hi>2305843009213693952
  ·rw[at7 h2];exact eV
  ·rw[at9 h2];exact⟨by show _≤lo;omega,h,by show hi≤_;omega⟩
theorem A6{lo hi:Int}(h:(kv lo hi).2=true):(kv lo hi).1=(lo,hi):=by
 unfold kv at h ⊢
 by_cases h1:lo< -2305843009213693952
 ·rw[at7 h1]at h;cases h
 ·rw[at9 h1]at h ⊢
  by_cases h2:hi>2305843009213693952
  ·rw[at7 h2]at h;cases h
  ·rw[at9 h2];rfl
def frF(q:Rat):Iv×Bool:=bif decide (aY (q*65536).floor)then bif decide (aY (-(-(q*65536)).floor))then kv (q*65536).floor (-(-(q*65536)).floor)else(iv0,false)else(iv0,false)
def dk(a b:Iv):Iv×Bool:=kv (a.1+b.1) (a.2+b.2)
def jT(a:Iv):Iv:=(-a.2,-a.1)
def scF(x y:Int):(Int×Int)×Bool:=
 bif decide (x.natAbs*y.natAbs≥1208925819614629174706176)then((0,0),false)else bif decide (x.natAbs*y.natAbs/65536>2305843009213693952)then((0,0),false)
 else bif decide (x<0)==decide (y<0)then((((x.natAbs*y.natAbs/65536:Nat):Int),(((x.natAbs*y.natAbs+65535)/65536:Nat):Int)),decide ((x.natAbs*y.natAbs+65535)/65536≤2305843009213693952))
 else((-(((x.natAbs*y.natAbs+65535)/65536:Nat):Int),-((x.natAbs*y.natAbs/65536:Nat):Int)),decide ((x.natAbs*y.natAbs+65535)/65536≤2305843009213693952))
theorem ahX{x y:Int}(h:(scF x y).2=true):(scF x y).1.1*65536≤x*y∧x*y≤(scF x y).1.2*65536∧ -2305843009213693952≤(scF x y).1.1∧(scF x y).1.2≤2305843009213693952:=by
 have ep:(((x.natAbs*y.natAbs:Nat)):Int)=(x.natAbs:Int)*(y.natAbs:Int):=avv _ _
 have hs:(decide (x<0)==decide (y<0))=true→x*y=(((x.natAbs*y.natAbs:Nat)):Int):=fun e=>by
  rw[ep]
  by_cases hx:x<0<;>by_cases hy:y<0
  ·rw[show(x.natAbs:Int)= -x by omega,show(y.natAbs:Int)= -y by omega];grind
  ·simp[hx,hy]at e
  ·simp[hx,hy]at e
  ·rw[show(x.natAbs:Int)=x by omega,show(y.natAbs:Int)=y by omega]
 have hd:(decide (x<0)==decide (y<0))=false→x*y= -(((x.natAbs*y.natAbs:Nat)):Int):=fun e=>by
  rw[ep]
  by_cases hx:x<0<;>by_cases hy:y<0
  ·simp[hx,hy]at e
  ·rw[show(x.natAbs:Int)= -x by omega,show(y.natAbs:Int)=y by omega];grind
  ·rw[show(x.natAbs:Int)=x by omega,show(y.natAbs:Int)= -y by omega];grind
  ·simp[hx,hy]at e
 unfold scF at h ⊢
 generalize x.natAbs*y.natAbs=p at*
 by_cases h1:p≥1208925819614629174706176
 ·rw[at7 h1]at h;cases h
 rw[at9 h1]at h ⊢
 by_cases h2:p/65536>2305843009213693952
 ·rw[at7 h2]at h;cases h
 rw[at9 h2]at h ⊢
 cases e:(decide (x<0)==decide (y<0))<;>rw[e]at h<;>have h3:=at6 h
 ·rw[hd e]
  show-(((p+65535)/65536:Nat):Int)*65536≤_∧_≤ -((p/65536:Nat):Int)*65536∧_≤ -(((p+65535)/65536:Nat):Int)∧ -((p/65536:Nat):Int)≤_
  omega
 ·rw[hs e]
  show((p/65536:Nat):Int)*65536≤_∧_≤(((p+65535)/65536:Nat):Int)*65536∧_≤((p/65536:Nat):Int)∧(((p+65535)/65536:Nat):Int)≤_
  omega
def gc(s:Iv×Bool)(x y:Int):Iv×Bool:=bif s.2&&(scF x y).2 then((if(scF x y).1.1<s.1.1 then(scF x y).1.1 else s.1.1,if(scF x y).1.2>s.1.2 then(scF x y).1.2 else s.1.2),true)else(iv0,false)
def cG(a b:Iv):Iv×Bool:=gc (gc (gc (gc ((2305843009213693952,-2305843009213693952),true) a.1 b.1) a.1 b.2) a.2 b.1) a.2 b.2
theorem jC{s:Iv×Bool}{x y:Int}(h:(gc s x y).2=true):s.2=true∧(gc s x y).1.1≤s.1.1∧s.1.2≤(gc s x y).1.2∧(gc s x y).1.1*65536≤x*y∧x*y≤(gc s x y).1.2*65536∧((-2305843009213693952≤s.1.1∧s.1.2≤2305843009213693952)→ -2305843009213693952≤(gc s x y).1.1∧(gc s x y).1.2≤2305843009213693952):=by
 unfold gc at h ⊢
 cases e:(s.2&&(scF x y).2)<;>rw[e]at h
 ·cases h
 ·obtain⟨e1,e2⟩:=avg.1 e
  obtain⟨g1,g2,g3,g4⟩:=ahX e2
  refine⟨e1,?_⟩
  simp only[cond_true]
  split<;>split<;>refine⟨by omega,by omega,by omega,by omega,fun h=>by omega⟩
theorem ql(a b:Iv):prI (cG a b).1:=by
 cases h:(cG a b).2
 ·unfold cG gc at h ⊢
  revert h
  cases((_:Iv×Bool).2&&(scF a.2 b.2).2)
  ·intro _;exact eV
  ·intro h;cases h
 ·unfold cG at h ⊢
  obtain⟨h3,a3,b3,c3,d3,e3⟩:=jC h
  obtain⟨h2,a2,b2,c2,d2,e2⟩:=jC h3
  obtain⟨h1,a1,b1,c1,d1,e1⟩:=jC h2
  obtain⟨h0,a0,b0,c0,d0,e0⟩:=jC h1
  have k:=e3 (e2 (e1 (e0 (by decide))))
  exact⟨k.1,by omega,k.2⟩
theorem ZU{a b:Iv}(h:(cG a b).2=true):∀x y,(x=a.1∨x=a.2)→(y=b.1∨y=b.2)→(cG a b).1.1*65536≤x*y∧x*y≤(cG a b).1.2*65536:=by
 unfold cG at h ⊢
 obtain⟨h3,a3,b3,c3,d3,e3⟩:=jC h
 obtain⟨h2,a2,b2,c2,d2,e2⟩:=jC h3
 obtain⟨h1,a1,b1,c1,d1,e1⟩:=jC h2
 obtain⟨h0,a0,b0,c0,d0,e0⟩:=jC h1
 intro x y hx hy
 rcases hx with rfl|rfl<;>rcases hy with rfl|rfl<;>constructor<;>omega
def dE(n:Int):Int:=bQ (n*65536)
def sqF(a:Iv):Iv×Bool:=bif decide (a.2<0)then(iv0,false)else kv (dE (if 0>a.1 then 0 else a.1)) (bif decide (dE a.2*dE a.2=a.2*65536)then dE a.2 else dE a.2+1)
def sgF(a:Iv):Int×Bool:=bif decide (a.1>0)then(1,true)else bif decide (a.2<0)then(-1,true)else(0,decide (a.1=0)&&decide (a.2=0))
namespace RE
def inI(i:Iv)(x:RE):Prop:=of (i.1:Rat)≤of 65536*x∧of 65536*x≤of (i.2:Rat)
theorem Mg(a b u x y:RE):((a+b-(u*(x+y))))+((u*x-(a)))+((u*y-(b)))=0:=by
 induction a using at5
 induction b using at5
 induction u using at5
 induction x using at5
 induction y using at5
 exact snd fun n=>by
  simp only[RL.add,RL.mul,RL.neg,RL.const]
  grind
theorem abB(a b u x y:RE)(h1:a≤u*x)(h2:b≤u*y):a+b≤u*(x+y):=fun hg=>far (aQ (aQ (aV hg) (aO h1)) (aO h2)) (Mg a b u x y)
theorem LX(a b u x y:RE):((u*(x+y)-(a+b)))+((a-(u*x)))+((b-(u*y)))=0:=by
 induction a using at5
 induction b using at5
 induction u using at5
 induction x using at5
 induction y using at5
 exact snd fun n=>by
  simp only[RL.add,RL.mul,RL.neg,RL.const]
  grind
theorem Z6(a b u x y:RE)(h1:u*x≤a)(h2:u*y≤b):u*(x+y)≤a+b:=fun hg=>far (aQ (aQ (aV hg) (aO h1)) (aO h2)) (LX a b u x y)
theorem L4(a u x:RE):((-a-(u*(-x))))+((a-(u*x)))=0:=by
 induction a using at5
 induction u using at5
 induction x using at5
 exact snd fun n=>by
  simp only[RL.add,RL.mul,RL.neg,RL.const]
  grind
theorem YK(a u x:RE)(h1:u*x≤a): -a≤u*(-x):=fun hg=>far (aQ (aV hg) (aO h1)) (L4 a u x)
theorem Ma(a u x:RE):((u*(-x)-(-a)))+((u*x-(a)))=0:=by
 induction a using at5
 induction u using at5
 induction x using at5
 exact snd fun n=>by
  simp only[RL.add,RL.mul,RL.neg,RL.const]
  grind
theorem aci(a u x:RE)(h1:a≤u*x):u*(-x)≤ -a:=fun hg=>far (aQ (aV hg) (aO h1)) (Ma a u x)
theorem YD(a c U V m:RE):((m-(U*V)))+((a*c-(m)))+((V-(0))*(U-(a)))+((a-(0))*(V-(c)))=0:=by
 induction a using at5
 induction c using at5
 induction U using at5
 induction V using at5
 induction m using at5
 exact snd fun n=>by
  simp only[RL.add,RL.mul,RL.neg,RL.const]
  grind
theorem alZ(a c U V m:RE)(h1:0≤V)(h2:0≤a)(h3:a≤U)(h4:c≤V)(h5:m≤a*c):m≤U*V:=fun hg=>far (aQ (aQ (aQ (aV hg) (aO h5)) (cE (aO h1) (aO h3))) (cE (aO h2) (aO h4))) (YD a c U V m)
theorem Z3(a d U V m:RE):((m-(U*V)))+((a*d-(m)))+((V-(0))*(U-(a)))+((0-(a))*(d-(V)))=0:=by
 induction a using at5
 induction d using at5
 induction U using at5
 induction V using at5
 induction m using at5
 exact snd fun n=>by
  simp only[RL.add,RL.mul,RL.neg,RL.const]
  grind
theorem aoa(a d U V m:RE)(h1:0≤V)(h2:a≤0)(h3:a≤U)(h4:V≤d)(h5:m≤a*d):m≤U*V:=fun hg=>far (aQ (aQ (aQ (aV hg) (aO h5)) (cE (aO h1) (aO h3))) (cE (aO h2) (aO h4))) (Z3 a d U V m)
theorem acu(b c U V m:RE):((m-(U*V)))+((b*c-(m)))+((0-(V))*(b-(U)))+((b-(0))*(V-(c)))=0:=by
 induction b using at5
 induction c using at5
 induction U using at5
 induction V using at5
 induction m using at5
 exact snd fun n=>by
  simp only[RL.add,RL.mul,RL.neg,RL.const]
  grind
theorem amb(b c U V m:RE)(h1:V≤0)(h2:0≤b)(h3:U≤b)(h4:c≤V)(h5:m≤b*c):m≤U*V:=fun hg=>far (aQ (aQ (aQ (aV hg) (aO h5)) (cE (aO h1) (aO h3))) (cE (aO h2) (aO h4))) (acu b c U V m)
theorem aaW(b d U V m:RE):((m-(U*V)))+((b*d-(m)))+((0-(V))*(b-(U)))+((0-(b))*(d-(V)))=0:=by
 induction b using at5
 induction d using at5
 induction U using at5
 induction V using at5
 induction m using at5
 exact snd fun n=>by
  simp only[RL.add,RL.mul,RL.neg,RL.const]
  grind
theorem aqw(b d U V m:RE)(h1:V≤0)(h2:b≤0)(h3:U≤b)(h4:V≤d)(h5:m≤b*d):m≤U*V:=fun hg=>far (aQ (aQ (aQ (aV hg) (aO h5)) (cE (aO h1) (aO h3))) (cE (aO h2) (aO h4))) (aaW b d U V m)
theorem ZS(b d U V m:RE):((U*V-(m)))+((m-(b*d)))+((V-(0))*(b-(U)))+((b-(0))*(d-(V)))=0:=by
 induction b using at5
 induction d using at5
 induction U using at5
 induction V using at5
 induction m using at5
 exact snd fun n=>by
  simp only[RL.add,RL.mul,RL.neg,RL.const]
  grind
theorem ap6(b d U V m:RE)(h1:0≤V)(h2:0≤b)(h3:U≤b)(h4:V≤d)(h5:b*d≤m):U*V≤m:=fun hg=>far (aQ (aQ (aQ (aV hg) (aO h5)) (cE (aO h1) (aO h3))) (cE (aO h2) (aO h4))) (ZS b d U V m)
theorem abD(b c U V m:RE):((U*V-(m)))+((m-(b*c)))+((V-(0))*(b-(U)))+((0-(b))*(V-(c)))=0:=by
 induction b using at5
 induction c using at5
 induction U using at5
 induction V using at5
 induction m using at5
 exact snd fun n=>by
  simp only[RL.add,RL.mul,RL.neg,RL.const]
  grind
theorem apX(b c U V m:RE)(h1:0≤V)(h2:b≤0)(h3:U≤b)(h4:c≤V)(h5:b*c≤m):U*V≤m:=fun hg=>far (aQ (aQ (aQ (aV hg) (aO h5)) (cE (aO h1) (aO h3))) (cE (aO h2) (aO h4))) (abD b c U V m)
theorem YA(a d U V m:RE):((U*V-(m)))+((m-(a*d)))+((0-(V))*(U-(a)))+((a-(0))*(d-(V)))=0:=by
 induction a using at5
 induction d using at5
 induction U using at5
 induction V using at5
 induction m using at5
 exact snd fun n=>by
  simp only[RL.add,RL.mul,RL.neg,RL.const]
  grind
theorem aqs(a d U V m:RE)(h1:V≤0)(h2:0≤a)(h3:a≤U)(h4:V≤d)(h5:a*d≤m):U*V≤m:=fun hg=>far (aQ (aQ (aQ (aV hg) (aO h5)) (cE (aO h1) (aO h3))) (cE (aO h2) (aO h4))) (YA a d U V m)
theorem Zj(a c U V m:RE):((U*V-(m)))+((m-(a*c)))+((0-(V))*(U-(a)))+((0-(a))*(V-(c)))=0:=by
 induction a using at5
 induction c using at5
 induction U using at5
 induction V using at5
 induction m using at5
 exact snd fun n=>by
  simp only[RL.add,RL.mul,RL.neg,RL.const]
  grind
theorem anq(a c U V m:RE)(h1:V≤0)(h2:a≤0)(h3:a≤U)(h4:c≤V)(h5:a*c≤m):U*V≤m:=fun hg=>far (aQ (aQ (aQ (aV hg) (aO h5)) (cE (aO h1) (aO h3))) (cE (aO h2) (aO h4))) (Zj a c U V m)
theorem ahD(u x y:RE):u*x*(u*y)=u*(x*y)*u:=by
 induction u using at5
 induction x using at5
 induction y using at5
 exact snd fun n=>by
  simp only[RL.mul]
  grind
theorem Z0(a b u:RE):((u-(0))*(a-(b)))+((b*u-(a*u)))=0:=by
 induction a using at5
 induction b using at5
 induction u using at5
 exact snd fun n=>by
  simp only[RL.add,RL.mul,RL.neg,RL.const]
  grind
theorem agi(a b u:RE)(h1:0<u)(h2:a*u≤b*u):a≤b:=fun hg=>far (aQ (mul_pos (aV h1) (aV hg)) (aO h2)) (Z0 a b u)
theorem lR:0<of 65536:=i7 (by decide+kernel)
end RE
namespace RE
theorem kA{a b:Int}(h:a≤b):of (a:Rat)≤of (b:Rat):=jx.2 (awo.2 h)
theorem ga{q:Rat}(h:(frF q).2=true):inI (frF q).1 (of q):=by
 have f1:((q*65536).floor:Rat)≤q*65536:=Rat.floor_le _
 have f2:((-(q*65536)).floor:Rat)≤ -(q*65536):=Rat.floor_le _
 unfold frF at h ⊢
 cases e1:decide (aY (q*65536).floor)
 ·rw[e1]at h;cases h
 ·cases e2:decide (aY (-(-(q*65536)).floor))
  ·rw[e1,e2]at h;cases h
  ·rw[e1,e2]at h
   simp only[cond_true]at h ⊢
   rw[A6 h]
   refine⟨?_,?_⟩
   ·rw[←bJ];exact jx.2 (by show(((q*65536).floor:Int):Rat)≤_;grind)
   ·rw[←bJ];exact jx.2 (by show _≤((-(-(q*65536)).floor:Int):Rat);rw[Rat.intCast_neg];grind)
theorem frF_pr(q:Rat):prI (frF q).1:=by
 have f1:((q*65536).floor:Rat)≤q*65536:=Rat.floor_le _
 have f2:((-(q*65536)).floor:Rat)≤ -(q*65536):=Rat.floor_le _
 have f3:(q*65536).floor≤ -(-(q*65536)).floor:=by
  refine awo.1 ?_
  rw[Rat.intCast_neg]
  grind
 unfold frF
 cases decide (aY (q*65536).floor)
 ·exact eV
 ·cases decide (aY (-(-(q*65536)).floor))
  ·exact eV
  ·exact zQ f3
theorem iy{a b:Iv}{x y:RE}(ha:inI a x)(hb:inI b y)(h:(dk a b).2=true):inI (dk a b).1 (x+y):=by
 unfold dk at h ⊢
 rw[A6 h]
 refine⟨?_,?_⟩
 ·show of ((a.1+b.1:Int):Rat)≤_
  rw[Rat.intCast_add,of_add]
  exact abB _ _ _ _ _ ha.1 hb.1
 ·show _≤of ((a.2+b.2:Int):Rat)
  rw[Rat.intCast_add,of_add]
  exact Z6 _ _ _ _ _ ha.2 hb.2
theorem addF_pr{a b:Iv}(ha:prI a)(hb:prI b):prI (dk a b).1:=zQ (by have:=ha.2.1;have:=hb.2.1;omega)
theorem z5{a:Iv}{x:RE}(ha:inI a x):inI (jT a) (-x):=by
 refine⟨?_,?_⟩
 ·show of ((-a.2:Int):Rat)≤_
  rw[Rat.intCast_neg,of_neg]
  exact YK _ _ _ ha.2
 ·show _≤of ((-a.1:Int):Rat)
  rw[Rat.intCast_neg,of_neg]
  exact aci _ _ _ ha.1
theorem negF_pr{a:Iv}(ha:prI a):prI (jT a):=⟨by show _≤ -a.2;have:=ha.2.2;omega,by show-a.2≤ -a.1;have:=ha.2.1;omega,by show-a.1≤_;have:=ha.1;omega⟩
theorem jJ{a b:Iv}{x y:RE}(ha:inI a x)(hb:inI b y)(h:(cG a b).2=true):inI (cG a b).1 (x*y):=by
 have hc:=ZU h
 have c1:=hc a.1 b.1 (.inl rfl) (.inl rfl)
 have c2:=hc a.1 b.2 (.inl rfl) (.inr rfl)
 have c3:=hc a.2 b.1 (.inr rfl) (.inl rfl)
 have c4:=hc a.2 b.2 (.inr rfl) (.inr rfl)
 generalize (cG a b).1=m at*
 have up:∀{p q r:Int},p*65536≤q*r→of (p:Rat)*of 65536≤of (q:Rat)*of (r:Rat):=fun{p q r} h=>by
  have:=kA h
  rw[av1,av1,bJ,bJ]at this
  exact this
 have dn:∀{p q r:Int},q*r≤p*65536→of (q:Rat)*of (r:Rat)≤of (p:Rat)*of 65536:=fun{p q r} h=>by
  have:=kA h
  rw[av1,av1,bJ,bJ]at this
  exact this
 obtain⟨a1,a2⟩:=ha
 obtain⟨b1,b2⟩:=hb
 have l:of (m.1:Rat)*of 65536≤of 65536*x*(of 65536*y):=by
  rcases lt_or_ge (of 65536*y) 0 with v|v
  ·rcases lt_or_ge (of (a.2:Rat)) 0 with s|s
   ·exact aqw _ _ _ _ _ (le_of_lt v) (le_of_lt s) a2 b2 (up c4.1)
   ·exact amb _ _ _ _ _ (le_of_lt v) s a2 b1 (up c3.1)
  ·rcases lt_or_ge (of (a.1:Rat)) 0 with s|s
   ·exact aoa _ _ _ _ _ v (le_of_lt s) a1 b2 (up c2.1)
   ·exact alZ _ _ _ _ _ v s a1 b1 (up c1.1)
 have u:of 65536*x*(of 65536*y)≤of (m.2:Rat)*of 65536:=by
  rcases lt_or_ge (of 65536*y) 0 with v|v
  ·rcases lt_or_ge (of (a.1:Rat)) 0 with s|s
   ·exact anq _ _ _ _ _ (le_of_lt v) (le_of_lt s) a1 b1 (dn c1.2)
   ·exact aqs _ _ _ _ _ (le_of_lt v) s a1 b2 (dn c2.2)
  ·rcases lt_or_ge (of (a.2:Rat)) 0 with s|s
   ·exact apX _ _ _ _ _ v (le_of_lt s) a2 b1 (dn c3.2)
   ·exact ap6 _ _ _ _ _ v s a2 b2 (dn c4.2)
 rw[ahD]at l u
 exact⟨agi _ _ _ lR l,agi _ _ _ lR u⟩
theorem apa(u s:RE):u*s*(u*s)=u*(s*s)*u:=by
 induction u using at5
 induction s using at5
 exact snd fun n=>by
  simp only[RL.mul]
  grind
theorem Nt(r a u x:RE):((r-(u*x*u)))+((a*u-(r)))+((u*x-(a))*(u-(0)))=0:=by
 induction r using at5
 induction a using at5
 induction u using at5
 induction x using at5
 exact snd fun n=>by
  simp only[RL.add,RL.mul,RL.neg,RL.const]
  grind
theorem akK(r a u x:RE)(h1:r≤a*u)(h2:a≤u*x)(h3:0<u):r≤u*x*u:=fun hg=>far (aQ (aQ (aV hg) (aO h1)) (cE (aO h2) (le_of_lt (aV h3)))) (Nt r a u x)
theorem QV(r a u x:RE):((u*x*u-(r)))+((r-(a*u)))+((a-(u*x))*(u-(0)))=0:=by
 induction r using at5
 induction a using at5
 induction u using at5
 induction x using at5
 exact snd fun n=>by
  simp only[RL.add,RL.mul,RL.neg,RL.const]
  grind
theorem ND(r a u x:RE)(h1:a*u≤r)(h2:u*x≤a)(h3:0<u):u*x*u≤r:=fun hg=>far (aQ (aQ (aV hg) (aO h1)) (cE (aO h2) (le_of_lt (aV h3)))) (QV r a u x)
theorem sqF_pr{a:Iv}(ha:prI a):prI (sqF a).1:=by
 unfold sqF
 by_cases h:a.2<0
 ·rw[at7 h];exact eV
 ·rw[at9 h]
  simp only[cond_false]
  refine zQ ?_
  have h1:(if 0>a.1 then 0 else a.1)≤a.2:=by have:=ha.2.1;split<;>omega
  have h0:0≤(if 0>a.1 then 0 else a.1):=by split<;>omega
  have hm:dE (if 0>a.1 then 0 else a.1)≤dE a.2:=by
   unfold dE
   obtain⟨_,g1,_⟩:=fd (z:=(if 0>a.1 then 0 else a.1)*65536) (by omega)
   obtain⟨g0,_,g2⟩:=fd (z:=a.2*65536) (by omega)
   have:=Go.Proofs.YtlahabkjhgkkjaaGreat.sq_lt (a:=bQ ((if 0>a.1 then 0 else a.1)*65536)) (b:=bQ (a.2*65536)+1) (by omega) (by omega)
   omega
  cases decide (dE a.2*dE a.2=a.2*65536)
  ·show _≤dE a.2+1;omega
  ·exact hm
theorem uw{a:Iv}{x:RE}(ha:inI a x)(hx:0≤x)(h:(sqF a).2=true):inI (sqF a).1 (we x):=by
 obtain⟨a1,a2⟩:=ha
 have hs:=As hx
 have s0:0≤of 65536*we x:=cE (le_of_lt lR) (me x)
 have e:of 65536*we x*(of 65536*we x)=of 65536*x*of 65536:=by rw[apa,hs]
 unfold sqF at h ⊢
 cases hn:decide (a.2<0)
 ·rw[hn]at h
  simp only[cond_false]at h ⊢
  have h2:=avb hn
  rw[A6 h]
  obtain⟨p0,p1,p2⟩:=fd (z:=(if 0>a.1 then 0 else a.1)*65536) (by split<;>omega)
  obtain⟨q0,q1,q2⟩:=fd (z:=a.2*65536) (by omega)
  have cm:∀{p q:Int},p*p≤q*65536→of (p:Rat)*of (p:Rat)≤of (q:Rat)*of 65536:=fun{p q} h=>by
   have:=kA h
   rw[av1,av1,bJ,bJ]at this
   exact this
  have cn:∀{p q:Int},q*65536≤p*p→of (q:Rat)*of 65536≤of (p:Rat)*of (p:Rat):=fun{p q} h=>by
   have:=kA h
   rw[av1,av1,bJ,bJ]at this
   exact this
  have nn:∀{p:Int},0≤p→0≤of (p:Rat):=fun h=>kA h
  refine⟨?_,?_⟩
  ·show of ((dE _:Int):Rat)≤_
   refine Is _ _ (nn p0) s0 ?_
   rw[e]
   refine akK _ (of (((if 0>a.1 then 0 else a.1:Int)):Rat)) _ _ (cm p1) ?_ lR
   split
   ·exact cE (le_of_lt lR) hx
   ·exact a1
  ·show _≤of (((bif _ then _ else _):Int):Rat)
   cases he:decide (dE a.2*dE a.2=a.2*65536)
   ·simp only[cond_false]
    refine Is _ _ s0 (nn (by unfold dE;omega)) ?_
    rw[e]
    exact ND _ _ _ _ (cn (by unfold dE;omega)) a2 lR
   ·simp only[cond_true]
    refine Is _ _ s0 (nn q0) ?_
    rw[e]
    exact ND _ _ _ _ (cn (by rw[at6 he];exact Int.le_refl _)) a2 lR
 ·rw[hn]at h;cases h
theorem Gn{i:Iv}{x:RE}(hi:inI i x)(h:(sgF i).2=true):(sgF i).1=sg x:=by
 obtain⟨h1,h2⟩:=hi
 unfold sgF at h ⊢
 cases e1:decide (i.1>0)
 ·rw[e1]at h
  cases e2:decide (i.2<0)
  ·rw[e2]at h
   simp only[cond_false,aug,awh]at h ⊢
   rw[h.1]at h1
   rw[h.2]at h2
   have:of 65536*x=0:=le_antisymm h2 h1
   have:sg (of 65536*x)=0:=by rw[this,dG]
   rw[dP,dJ lR]at this
   omega
  ·have e:=at6 e2
   have h3:of (i.2:Rat)<0:=i7 (awp.2 e)
   simp only[cond_false,cond_true]
   have:sg (of 65536*x)= -1:=ij (by
    rcases lt_or_ge (of 65536*x) 0 with h|h
    ·exact h
    ·exact absurd (le_trans h h2) (ec.2 h3))
   rw[dP,dJ lR]at this
   omega
 ·have e:=at6 e1
  have h3:0<of (i.1:Rat):=i7 (awp.2 e)
  simp only[cond_true]
  have:sg (of 65536*x)=1:=dJ (by
   rcases lt_or_ge 0 (of 65536*x)with h|h
   ·exact h
   ·exact absurd (le_trans h1 h) (ec.2 h3))
  rw[dP,dJ lR]at this
  omega
end RE
end Go.Proofs.YtlahabkjhgkkjaaGreat
end
