/- rational: the operations. -/
import Derived.Test.YtmnlppieefomnaaGreatDoorN8
noncomputable section
namespace Go.Proofs.YtmnlppieefomnaaGreatDoor
open Go.RowKit Go.IntKind
theorem am6:type_of% @Rat.mul_nonneg:=@Rat.mul_nonneg
theorem am9:type_of% @Rat.mul_pos:=@Rat.mul_pos
theorem ani:type_of% @Rat.num_divInt_den:=@Rat.num_divInt_den
theorem anw:type_of% @Quotient.inductionOn:=@Quotient.inductionOn
theorem aot:type_of% @Quotient.inductionOn₃:=@Quotient.inductionOn₃
theorem aou:type_of% @Int.lt_or_eq_of_le:=@Int.lt_or_eq_of_le
theorem aoF:type_of% @Rat.intCast_natCast:=@Rat.intCast_natCast
theorem aoK:type_of% @Rat.intCast_le_intCast:=@Rat.intCast_le_intCast
theorem aoY:type_of% @Int.mul_ne_zero:=@Int.mul_ne_zero
theorem aoZ:type_of% @Rat.divInt_mul_divInt:=@Rat.divInt_mul_divInt
theorem ao0:type_of% @Quotient.inductionOn₂:=@Quotient.inductionOn₂
theorem ao1:type_of% @Rat.mul_comm:=@Rat.mul_comm
theorem ao2:type_of% @Rat.intCast_neg:=@Rat.intCast_neg
theorem ao9:type_of% @Quotient.sound:=@Quotient.sound
def aD(a b:Rat):Int:=bif decide (a<b)then-1 else bif decide (b<a)then 1 else 0
theorem d9{a b:Rat}(h:a<b):aD a b= -1:=by grind [aD]
theorem dL{a b:Rat}(h:b<a):aD a b=1:=by grind [aD]
theorem eD(a:Rat):aD a a=0:=by simp[aD]
theorem yE(a b:Rat):bV (a.num*(b.den:Int)) (b.num*(a.den:Int))=aD a b:=by simp[bV,aD,Rat.lt_iff]
theorem uK(a:Rat):bV a.num 0=aD a 0:=by
 rw[<-yE];simp
def BJ:dJ:=spN false false [y3Y,y3Y] (λx=>decide (jQ x.1 x.2.1)) (λx=>[RV.d (.st (.pair y3Y y3Y)) (eT x.1 x.2.1)])
theorem yw:SpK 320 BJ:=spX λx h=>TZ x.1 x.2.1 (amj h)
def aeo:NT:=[((84,3),{keep:=[0,1,8],hl:=0}),((84,5),{keep:=[0,1,5,10],hl:=0})]
def ajN:Ctx:=CX [] aeo
def WB(x y:Int)(_k:KT):OLR:=match x !=x with|true=>(match y !=y with|true=>some [RV.d apE 0]|false=>some [RV.d apE (-1)])|false=>(match y !=y with|true=>some [RV.d apE 1]|false=>(match decide (x<y)with|true=>some [RV.d apE (-1)]|false=>(match decide (x>y)with|true=>some [RV.d apE 1]|false=>some [RV.d apE 0])))
theorem ai7(x y:Int):RS ajN 84 [SI x,SI y] (WB x y):=rsX
theorem Tv(x y:Int):CQq7 84 [.d apE x,.d apE y] [.d apE (bV x y)]:=by
 refine fy (E:=[]) trivial (ai7 _ _ ⟨0,?_⟩);unfold WB;rw[show(x !=x)=false by simp,show(y !=y)=false by simp];dsimp only;rcases Int.lt_trichotomy x y with h|h|h
 ·rw[cQ h,amh h]
 ·subst h;rw[dB,ami (show ¬x<x by omega)]
 ·rw[cq h,ami (show ¬x<y by omega),amh (show x>y from h)]
def CI:dJ:=spN true false [apE,apE] (λ_=>true) (λx=>[RV.d apE (bV x.1 x.2.1)])
theorem xH:SpK 84 CI:=spX λx _=>Tv x.1 x.2.1
def HA:Env:=[(83,pk),(124,uj),(82,rI),(128,pc),(195,ug),(86,uC),(126,xd),(320,BJ),(84,CI)]
theorem AX:EnvAll Tryz.prog HA:=⟨kJ,oN,mZ,kU,oO,po,tm,yw,xH,trivial⟩
def afo:Ctx:=CX HA []
def aix(x:Bool×List Int)(_k:KT):OLR:=some [RV.d (.st (.pair y3Y y3Y)) (x,(ah 1))]
theorem aft(x:Bool×List Int):RS afo 87 [.d y3Y x] (aix x):=rsX
theorem Tu(x:BI):CQq7 87 [.d y3Y x] [.d (.st (.pair y3Y y3Y)) (x,ah 1)]:=
 fy AX (aft _ ⟨0,rfl⟩)
def GL:dJ:=spN false false [y3Y] (λ_=>true) (λx=>[RV.d (.st (.pair y3Y y3Y)) (x.1,ah 1)])
theorem DL:SpK 87 GL:=spX λx _=>Tu x.1
def aiV:Ctx:=CX HA []
def Yb(a:(Bool×List Int)×Bool×List Int)(_k:KT):OLR:=og (decide (okI a.1)) (some [RV.d apE (bV (ab a.1) 0)])
theorem agd(a:(Bool×List Int)×Bool×List Int):RS aiV 85 [.d (.st (.pair y3Y y3Y)) a] (Yb a):=rsX
theorem JB(a:BR)(h:okR a):CQq7 85 [.d (.st (.pair y3Y y3Y)) a] [.d apE (aD (ag a) 0)]:=by
 refine fy AX (agd _ ⟨0,?_⟩);unfold Yb;rw[amh h.1,<-uK,(cJ h).1]
def FW:dJ:=spN true false [(.st (.pair y3Y y3Y))] (λx=>decide (okR x.1)) (λx=>[RV.d apE (aD (ag x.1) 0)])
theorem DQ:SpK 85 FW:=spX λx h=>JB x.1 (amj h)
def nA:Env:=[(83,pk),(124,uj),(82,rI),(128,pc),(195,ug),(86,uC),(126,xd),(320,BJ),(84,CI),(87,GL),(85,FW)]
theorem iI:EnvAll Tryz.prog nA:=⟨kJ,oN,mZ,kU,oO,po,tm,yw,xH,DL,DQ,trivial⟩
def aiy:Ctx:=CX nA []
def YM(n:Int)(_k:KT):OLR:=og (decide (aR n)) (some [RV.d (.st (.pair y3Y y3Y)) ((ah n),(ah 1))])
theorem ahI(n:Int):RS aiy 47 [SI n] (YM n):=rsX
def ahX:Ctx:=CX nA []
def Ys(a b:(Bool×List Int)×Bool×List Int)(_k:KT):OLR:=match decide (okR a)with|true=>(match decide (okR b)with|true=>(match(bV (aD (ag a) 0) (aD (ag b) 0)) !=0 with|true=>some [RV.d apE (bV (aD (ag a) 0) (aD (ag b) 0))]|false=>(match decide (okI a.1/\okI b.2)with|true=>(match decide (okI b.1/\okI a.2)with|true=>(match decide (okI (ah (ab a.1*ab b.2))/\okI (ah (ab b.1*ab a.2)))with|true=>some [RV.d apE (bV (ab (ah (ab a.1*ab b.2))) (ab (ah (ab b.1*ab a.2))))]|false=>none)|false=>none)|false=>none))|false=>none)|false=>none
theorem aj7(a b:(Bool×List Int)×Bool×List Int):RS ahX 46 [.d (.st (.pair y3Y y3Y)) a,.d (.st (.pair y3Y y3Y)) b] (Ys a b):=rsX
def aha:Ctx:=CX nA []
def XH(a b:(Bool×List Int)×Bool×List Int)(_k:KT):OLR:=match decide (okI a.2/\okI b.2)with|true=>(match(bV (ab a.2) (ab b.2))==0 with|true=>(match decide (okI a.1/\okI b.1)with|true=>(match decide (jQ (ah (ab a.1+ab b.1)) a.2)with|true=>some [RV.d (.st (.pair y3Y y3Y)) (((eT (ah (ab a.1+ab b.1)) a.2).1),((eT (ah (ab a.1+ab b.1)) a.2).2))]|false=>none)|false=>none)|false=>(match decide (okI a.1/\okI b.2)with|true=>(match decide (okI b.1/\okI a.2)with|true=>(match decide (okI (ah (ab a.1*ab b.2))/\okI (ah (ab b.1*ab a.2)))with|true=>(match decide (okI a.2/\okI b.2)with|true=>(match decide (jQ (ah (ab (ah (ab a.1*ab b.2))+ab (ah (ab b.1*ab a.2)))) (ah (ab a.2*ab b.2)))with|true=>some [RV.d (.st (.pair y3Y y3Y)) (((eT (ah (ab (ah (ab a.1*ab b.2))+ab (ah (ab b.1*ab a.2)))) (ah (ab a.2*ab b.2))).1),((eT (ah (ab (ah (ab a.1*ab b.2))+ab (ah (ab b.1*ab a.2)))) (ah (ab a.2*ab b.2))).2))]|false=>none)|false=>none)|false=>none)|false=>none)|false=>none))|false=>none
theorem ag1(a b:(Bool×List Int)×Bool×List Int):RS aha 260 [.d (.st (.pair y3Y y3Y)) a,.d (.st (.pair y3Y y3Y)) b] (XH a b):=rsX
def air:Ctx:=CX nA []
def aav(a:(Bool×List Int)×Bool×List Int)(_k:KT):OLR:=og (decide (okI a.1)) (some [RV.d (.st (.pair y3Y y3Y)) ((ah (-ab a.1)),a.2)])
theorem agb(a:(Bool×List Int)×Bool×List Int):RS air 141 [.d (.st (.pair y3Y y3Y)) a] (aav a):=rsX
def aj1:Ctx:=CX nA []
def Ws(a b:(Bool×List Int)×Bool×List Int)(_k:KT):OLR:=og (decide (okI a.1/\okI b.1)) (og (decide (okI a.2/\okI b.2)) (og (decide (jQ (ah (ab a.1*ab b.1)) (ah (ab a.2*ab b.2)))) (some [RV.d (.st (.pair y3Y y3Y)) (((eT (ah (ab a.1*ab b.1)) (ah (ab a.2*ab b.2))).1),((eT (ah (ab a.1*ab b.1)) (ah (ab a.2*ab b.2))).2))])))
theorem ajM(a b:(Bool×List Int)×Bool×List Int):RS aj1 261 [.d (.st (.pair y3Y y3Y)) a,.d (.st (.pair y3Y y3Y)) b] (Ws a b):=rsX
def afa:Ctx:=CX nA []
def XZ(a b:(Bool×List Int)×Bool×List Int)(_k:KT):OLR:=match decide (okR b)with|true=>(match(aD (ag b) 0)==0 with|true=>some [RV.d (.st (.pair y3Y y3Y)) ((false,[]),(false,[])),RV.d apE 6]|false=>(match decide (okI a.1/\okI b.2)with|true=>(match decide (okI a.2/\okI b.1)with|true=>(match decide (jQ (ah (ab a.1*ab b.2)) (ah (ab a.2*ab b.1)))with|true=>some [RV.d (.st (.pair y3Y y3Y)) (((eT (ah (ab a.1*ab b.2)) (ah (ab a.2*ab b.1))).1),((eT (ah (ab a.1*ab b.2)) (ah (ab a.2*ab b.1))).2)),RV.d apE 0]|false=>none)|false=>none)|false=>none))|false=>none
theorem ai3(a b:(Bool×List Int)×Bool×List Int):RS afa 332 [.d (.st (.pair y3Y y3Y)) a,.d (.st (.pair y3Y y3Y)) b] (XZ a b):=rsX
theorem Vv(n:Int)(h:aR n):CQq7 47 [.d apE n] [.d (.st (.pair y3Y y3Y)) (am (n:Rat))]:=by
 refine fy iI (ahI _ ⟨0,?_⟩);unfold YM am;rw[amh h,Rat.num_intCast,Rat.den_intCast];rfl
theorem fW{a:BR}(h:okR a):szI (ab a.1)<=480000/\szI (ab a.2)<=480000:=by
 have h1:=B0 h;grind [cJ,bdR]
theorem KO(a b:Rat):(bV (aD a 0) (aD b 0)≠0->bV (aD a 0) (aD b 0)=aD a b):=by
 rcases(by grind:a<0\/a=0\/0<a)with h1|h1|h1<;>rcases(by grind:b<0\/b=0\/0<b)with h2|h2|h2
 ·grind [d9,dB]
 ·rw[d9 h1,h2,eD,d9 h1];intro;rfl
 ·rw[d9 h1,dL h2,d9 (by grind)];intro;rfl
 ·rw[h1,eD,d9 h2,dL h2];intro;rfl
 ·grind [eD,dB]
 ·rw[h1,eD,dL h2,d9 h2];intro;rfl
 ·rw[dL h1,d9 h2,dL (by grind)];intro;rfl
 ·rw[dL h1,h2,eD,dL h1];intro;rfl
 grind [dL,dB]
theorem Ul(a b:BR)(h:okR a/\okR b):CQq7 46 [.d (.st (.pair y3Y y3Y)) a,.d (.st (.pair y3Y y3Y)) b] [.d apE (aD (ag a) (ag b))]:=by
 refine fy iI (aj7 _ _ ⟨0,?_⟩);obtain⟨ha,hb⟩:=h;obtain⟨a1,a2⟩:=cJ ha;obtain⟨b1,b2⟩:=cJ hb;obtain⟨sa1,sa2⟩:=fW ha;obtain⟨sb1,sb2⟩:=fW hb;have h1:=cN sa1 sb2;have h2:=cN sb1 sa2;unfold Ys;rw[amh ha,amh hb];dsimp only;have hs:=KO (ag a) (ag b);by_cases hc:bV (aD (ag a) 0) (aD (ag b) 0)=0
 ·rw[hc,amh (show okI a.1/\okI b.2 from⟨ha.1,hb.2.1⟩),amh (show okI b.1/\okI a.2 from⟨hb.1,ha.2.1⟩),amh (show okI (ah (ab a.1*ab b.2))/\okI (ah (ab b.1*ab a.2)) from⟨aS (by omega),aS (by omega)⟩),dec_enc,dec_enc,<-a1,<-a2,<-b1,<-b2,yE];rfl
 ·rw[show(bV (aD (ag a) 0) (aD (ag b) 0) !=0)=true by simpa using hc,hs hc]
theorem Jf(a:BR)(h:okR a):CQq7 141 [.d (.st (.pair y3Y y3Y)) a] [.d (.st (.pair y3Y y3Y)) (am (-ag a))]:=by
 refine fy iI (agb _ ⟨0,?_⟩);obtain⟨a1,a2⟩:=cJ h;unfold aav
 have e:am (-ag a)=(ah (-ab a.1),a.2):=by
  unfold am;rw[Rat.neg_num,a1,show((-ag a).den:Int)=((ag a).den:Int) from rfl,a2,<-gR h.2.1]
 rw[amh h.1,e]
theorem HX(a b:BR)(h:okR a/\okR b):CQq7 260 [.d (.st (.pair y3Y y3Y)) a,.d (.st (.pair y3Y y3Y)) b] [.d (.st (.pair y3Y y3Y)) (am (ag a+ag b))]:=by
 refine fy iI (ag1 _ _ ⟨0,?_⟩);obtain⟨ha,hb⟩:=h;obtain⟨a1,a2⟩:=cJ ha;obtain⟨b1,b2⟩:=cJ hb;obtain⟨sa1,sa2⟩:=fW ha;obtain⟨sb1,sb2⟩:=fW hb;have pa:=ha.2.2.1;have pb:=hb.2.2.1;have h1:=cN sa1 sb2;have h2:=cN sb1 sa2;have h3:=cN sa2 sb2;have h4:=wG h1 h2;have h5:=wG sa1 sb1;have hda:ag a=Rat.divInt (ab a.1) (ab a.2):=by rw[<-a1,<-a2,ani]
 have hdb:ag b=Rat.divInt (ab b.1) (ab b.2):=by rw[<-b1,<-b2,ani]
 unfold XH;rw[amh (show okI a.2/\okI b.2 from⟨ha.2.1,hb.2.1⟩)];dsimp only;by_cases hc:ab a.2=ab b.2
 ·rw[hc,dB,amh (show okI a.1/\okI b.1 from⟨ha.1,hb.1⟩)];rw[amh (show jQ (ah (ab a.1+ab b.1)) a.2 from⟨aS (by omega),ha.2.1,by omega⟩)]
  have e:eT (ah (ab a.1+ab b.1)) a.2=am (ag a+ag b):=by
   unfold eT;rw[dec_enc,hda,hdb,<-hc,Rat.divInt_eq_div,Rat.divInt_eq_div,Rat.divInt_eq_div,Rat.intCast_add];congr 1;grind
  rw[e];rfl
 ·have hcm:(bV (ab a.2) (ab b.2)==0)=false:=by
   rcases aos hc with h|h
   ·rw[cQ h];rfl
   ·rw[cq h];rfl
  rw[hcm,amh (show okI a.1/\okI b.2 from⟨ha.1,hb.2.1⟩),amh (show okI b.1/\okI a.2 from⟨hb.1,ha.2.1⟩),amh (show okI (ah (ab a.1*ab b.2))/\okI (ah (ab b.1*ab a.2)) from⟨aS (by omega),aS (by omega)⟩)];simp only[dec_enc];rw[amh (show jQ (ah (ab a.1*ab b.2+ab b.1*ab a.2)) (ah (ab a.2*ab b.2)) from⟨aS (by omega),aS (by omega),by rw[dec_enc];exact aoY (by omega) (by omega)⟩)]
  have e:eT (ah (ab a.1*ab b.2+ab b.1*ab a.2)) (ah (ab a.2*ab b.2))=am (ag a+ag b):=by
   unfold eT;rw[dec_enc,dec_enc,hda,hdb,Rat.divInt_add_divInt _ _ (by omega) (by omega)]
  rw[e]
theorem Ua(a b:BR)(h:okR a/\okR b):CQq7 261 [.d (.st (.pair y3Y y3Y)) a,.d (.st (.pair y3Y y3Y)) b] [.d (.st (.pair y3Y y3Y)) (am (ag a*ag b))]:=by
 refine fy iI (ajM _ _ ⟨0,?_⟩);obtain⟨ha,hb⟩:=h;obtain⟨a1,a2⟩:=cJ ha;obtain⟨b1,b2⟩:=cJ hb;obtain⟨sa1,sa2⟩:=fW ha;obtain⟨sb1,sb2⟩:=fW hb;have pa:=ha.2.2.1;have pb:=hb.2.2.1;have h1:=cN sa1 sb1;have h3:=cN sa2 sb2;have hda:ag a=Rat.divInt (ab a.1) (ab a.2):=by rw[<-a1,<-a2,ani]
 have hdb:ag b=Rat.divInt (ab b.1) (ab b.2):=by rw[<-b1,<-b2,ani]
 unfold Ws;rw[amh (show okI a.1/\okI b.1 from⟨ha.1,hb.1⟩),amh (show okI a.2/\okI b.2 from⟨ha.2.1,hb.2.1⟩),amh (show jQ (ah (ab a.1*ab b.1)) (ah (ab a.2*ab b.2)) from⟨aS (by omega),aS (by omega),by rw[dec_enc];exact aoY (by omega) (by omega)⟩)]
 have e:eT (ah (ab a.1*ab b.1)) (ah (ab a.2*ab b.2))=am (ag a*ag b):=by
  unfold eT;rw[dec_enc,dec_enc,hda,hdb,aoZ]
 rw[e]
def kV(a b:BR):Prop:=okR a/\okR b/\ab b.1≠0
instance (a b:BR):Decidable (kV a b):=by unfold kV;infer_instance
theorem Ts(a b:BR)(h:kV a b):CQq7 332 [.d (.st (.pair y3Y y3Y)) a,.d (.st (.pair y3Y y3Y)) b] [.d (.st (.pair y3Y y3Y)) (am (ag a/ag b)),.d apE 0]:=by
 refine fy iI (ai3 _ _ ⟨0,?_⟩);obtain⟨ha,hb,hne⟩:=h;obtain⟨a1,a2⟩:=cJ ha;obtain⟨b1,b2⟩:=cJ hb;obtain⟨sa1,sa2⟩:=fW ha;obtain⟨sb1,sb2⟩:=fW hb;have pa:=ha.2.2.1;have h1:=cN sa1 sb2;have h3:=cN sa2 sb1;have hda:ag a=Rat.divInt (ab a.1) (ab a.2):=by rw[<-a1,<-a2,ani]
 have hdb:ag b=Rat.divInt (ab b.1) (ab b.2):=by rw[<-b1,<-b2,ani]
 have hnz:(aD (ag b) 0==0)=false:=by
  rw[<-uK,b1];rcases aos hne with h|h
  ·rw[cQ h];rfl
  ·rw[cq h];rfl
 unfold XZ;rw[amh hb,hnz,amh (show okI a.1/\okI b.2 from⟨ha.1,hb.2.1⟩),amh (show okI a.2/\okI b.1 from⟨ha.2.1,hb.1⟩),amh (show jQ (ah (ab a.1*ab b.2)) (ah (ab a.2*ab b.1)) from⟨aS (by omega),aS (by omega),by rw[dec_enc];exact aoY (by omega) hne⟩)]
 have e:eT (ah (ab a.1*ab b.2)) (ah (ab a.2*ab b.1))=am (ag a/ag b):=by
  unfold eT;rw[dec_enc,dec_enc,hda,hdb,Rat.div_def,Rat.inv_divInt,aoZ]
 rw[e]
def Mj:dJ:=spN false false [(.st (.pair y3Y y3Y)),(.st (.pair y3Y y3Y))] (λx=>decide (okR x.1/\okR x.2.1)) (λx=>[RV.d (.st (.pair y3Y y3Y)) (am (ag x.1+ag x.2.1))])
theorem ON:SpK 260 Mj:=spX λx h=>HX x.1 x.2.1 (amj h)
def Q4:dJ:=spN false false [(.st (.pair y3Y y3Y))] (λx=>decide (okR x.1)) (λx=>[RV.d (.st (.pair y3Y y3Y)) (am (-ag x.1))])
theorem R8:SpK 141 Q4:=spX λx h=>Jf x.1 (amj h)
def HV:Env:=[(83,pk),(124,uj),(82,rI),(128,pc),(195,ug),(86,uC),(126,xd),(320,BJ),(84,CI),(87,GL),(85,FW),(260,Mj),(141,Q4)]
theorem Ft:EnvAll Tryz.prog HV:=⟨kJ,oN,mZ,kU,oO,po,tm,yw,xH,DL,DQ,ON,R8,trivial⟩
def ahn:Ctx:=CX HV []
def ZB(a b:(Bool×List Int)×Bool×List Int)(_k:KT):OLR:=match decide (okR b)with|true=>(match decide (okR a/\okR (am (-ag b)))with|true=>some [RV.d (.st (.pair y3Y y3Y)) (((am (ag a+ag (am (-ag b)))).1),((am (ag a+ag (am (-ag b)))).2))]|false=>none)|false=>none
theorem agf(a b:(Bool×List Int)×Bool×List Int):RS ahn 266 [.d (.st (.pair y3Y y3Y)) a,.d (.st (.pair y3Y y3Y)) b] (ZB a b):=rsX
theorem Vd(a b:BR)(h:okR a/\okR b):CQq7 266 [.d (.st (.pair y3Y y3Y)) a,.d (.st (.pair y3Y y3Y)) b] [.d (.st (.pair y3Y y3Y)) (am (ag a-ag b))]:=by
 refine fy Ft (agf _ _ ⟨0,?_⟩);obtain⟨ha,hb⟩:=h;unfold ZB;rw[amh hb,eA,Rat.sub_eq_add_neg,amh (show okR a/\okR (am (-ag b)) from⟨ha,qb (v7 (B0 hb)) (amm _)⟩)]
section
namespace RL
theorem kf{x y B e:Rat}(h1:x<B)(h2: -B<x)(h3:y<e)(h4: -e<y):x*y<B*e:=by
 have p:=am9 (a:=B-x) (b:=e+y) (by grind) (by grind);have q:=am9 (a:=B+x) (b:=e-y) (by grind) (by grind);grind
theorem Zw{e:Rat}(h:0<e):0<e/2:=by grind
theorem AN{e B:Rat}(h:0<e)(hB:0<B):∃d,0<d/\B*d+B*d<e:=by
 refine⟨e/(4*B),?_,?_⟩
 ·exact am9 h (Rat.inv_pos.2 (by grind))
 ·have:B*(e/(4*B))=e/4:=by grind
  grind
structure CS where
 f:Nat->Rat
 cau:∀e:Rat,0<e->∃N,∀m n,N<=m->N<=n->f m-f n<e
theorem CS.bd(a:CS):∃B:Rat,0<B/\∃N,∀n,N<=n-> -B<a.f n/\a.f n<B:=by
 obtain⟨N,h⟩:=a.cau 1 (by grind);refine⟨(if 0<=a.f N then a.f N else-a.f N)+1,?_,N,λn hn=>?_⟩
 ·split<;>grind
 ·have h1:=h n N hn (amm _);have h2:=h N n (amm _) hn;split<;>grind
def add(a b:CS):CS:=⟨λn=>a.f n+b.f n,λe he=>by
 obtain⟨N,h⟩:=a.cau (e/2) (by grind);obtain⟨M,h'⟩:=b.cau (e/2) (by grind);refine⟨max N M,λm n hm hn=>?_⟩;have:=h m n (by omega) (by omega);have:=h' m n (by omega) (by omega);grind⟩
def neg(a:CS):CS:=⟨λn=> -a.f n,λe he=>by
 obtain⟨N,h⟩:=a.cau e he;exact⟨N,λm n hm hn=>by have:=h n m hn hm;grind⟩⟩
theorem NN(a b:CS)(e:Rat)(he:0<e):∃N,∀m n,N<=m->N<=n->a.f m*b.f m-a.f n*b.f n<e:=by
 obtain⟨A,hA,N1,h1⟩:=a.bd;obtain⟨B,hB,N2,h2⟩:=b.bd;obtain⟨d,hd,hd'⟩:=AN (e:=e) (B:=A+B) he (by grind);obtain⟨N3,h3⟩:=a.cau d hd;obtain⟨N4,h4⟩:=b.cau d hd;refine⟨max (max N1 N2) (max N3 N4),λm n hm hn=>?_⟩;have a1:=h1 m (by omega);have b1:=h2 n (by omega);have p:=kf a1.2 a1.1 (h4 m n (by omega) (by omega)) (by have:=h4 n m (by omega) (by omega);grind);have q:=kf b1.2 b1.1 (h3 m n (by omega) (by omega)) (by have:=h3 n m (by omega) (by omega);grind);have r:=am9 hA hd;have s:=am9 hB hd;grind
def mul(a b:CS):CS:=⟨λn=>a.f n*b.f n,NN a b⟩
def eqv(a b:CS):Prop:=∀e:Rat,0<e->∃N,∀n,N<=n->a.f n-b.f n<e/\b.f n-a.f n<e
instance st:Setoid CS where
 r:=eqv
 iseqv:=⟨λa e he=>⟨0,λn _=>by grind⟩,λh e he=>by
   obtain⟨N,h⟩:=h e he;exact⟨N,λn hn=>⟨(h n hn).2,(h n hn).1⟩⟩,
  λh h' e he=>by
  obtain⟨N,h⟩:=h (e/2) (by grind);obtain⟨M,h'⟩:=h' (e/2) (by grind);refine⟨max N M,λn hn=>?_⟩;have:=h n (by omega);have:=h' n (by omega);grind⟩
def const(q:Rat):CS:=⟨λ_=>q,λe he=>⟨0,λm n _ _=>by grind⟩⟩
end RL
def RE:Type:=Quotient RL.st
namespace RE
open RL
def of(q:Rat):RE:=Quotient.mk _ (const q)
theorem aaB(a b a' b':CS)(h:a≈a')(h':b≈b'):add a b≈add a' b':=λe he=>by
 obtain⟨N,h⟩:=h (e/2) (by grind);obtain⟨M,h'⟩:=h' (e/2) (by grind);refine⟨max N M,λn hn=>?_⟩;have:=h n (by omega);have:=h' n (by omega);simp only[RL.add];grind
theorem abZ(a a':CS)(h:a≈a'):neg a≈neg a':=λe he=>by
 obtain⟨N,h⟩:=h e he;refine⟨N,λn hn=>?_⟩;have:=h n (by omega);simp only[RL.neg];grind
theorem abh(a b a' b':CS)(h:a≈a')(h':b≈b'):mul a b≈mul a' b':=λe he=>by
 obtain⟨A,hA,N1,h1⟩:=a.bd;obtain⟨B,hB,N2,h2⟩:=b'.bd;obtain⟨d,hd,hd'⟩:=AN (e:=e) (B:=A+B) he (by grind);obtain⟨N3,h3⟩:=h d hd;obtain⟨N4,h4⟩:=h' d hd;refine⟨max (max N1 N2) (max N3 N4),λn hn=>?_⟩;have a1:=h1 n (by omega);have b1:=h2 n (by omega);have a3:=h3 n (by omega);have b3:=h4 n (by omega);have p:=kf a1.2 a1.1 (y:=b.f n-b'.f n) b3.1 (by grind);have q:=kf b1.2 b1.1 (y:=a.f n-a'.f n) a3.1 (by grind);have p':=kf a1.2 a1.1 (y:=b'.f n-b.f n) b3.2 (by grind);have q':=kf b1.2 b1.1 (y:=a'.f n-a.f n) a3.2 (by grind);have r:=am9 hA hd;have s:=am9 hB hd;simp only[RL.mul];constructor<;>grind
instance:Add RE:=⟨Quotient.lift₂ (λa b=>Quotient.mk _ (add a b)) (λ_ _ _ _ h h'=>ao9 (aaB _ _ _ _ h h'))⟩
instance:Neg RE:=⟨Quotient.lift (λa=>Quotient.mk _ (neg a)) (λ_ _ h=>ao9 (abZ _ _ h))⟩
instance:Sub RE:=⟨λa b=>a+ -b⟩
instance:Mul RE:=⟨Quotient.lift₂ (λa b=>Quotient.mk _ (mul a b)) (λ_ _ _ _ h h'=>ao9 (abh _ _ _ _ h h'))⟩
theorem snd{a b:CS}(h:∀n,a.f n=b.f n):(Quotient.mk st a:RE)=Quotient.mk st b:=
 ao9 λe he=>⟨0,λn _=>by rw[h n];grind⟩
instance (n:Nat):OfNat RE n:=⟨of (OfNat.ofNat n)⟩
theorem of_add(a b:Rat):of (a+b)=of a+of b:=rfl
theorem bO(a b:Rat):of (a*b)=of a*of b:=rfl
theorem of_neg(a:Rat):of (-a)= -of a:=rfl
theorem of_sub(a b:Rat):of (a-b)=of a-of b:=by rw[Rat.sub_eq_add_neg];rfl
theorem sX:of 0=0:=rfl
theorem Tf:of 1=1:=rfl
theorem add_zero(a:RE):a+0=a:=by
 induction a using anw;exact snd λn=>Rat.add_zero _
theorem add_comm(a b:RE):a+b=b+a:=by
 induction a,b using ao0;exact snd λn=>Rat.add_comm _ _
theorem add_assoc(a b c:RE):a+b+c=a+(b+c):=by
 induction a,b,c using aot;exact snd λn=>Rat.add_assoc _ _ _
theorem mul_assoc(a b c:RE):a*b*c=a*(b*c):=by
 induction a,b,c using aot;exact snd λn=>Rat.mul_assoc _ _ _
theorem mul_comm(a b:RE):a*b=b*a:=by
 induction a,b using ao0;exact snd λn=>ao1 _ _
theorem mul_one(a:RE):a*1=a:=by
 induction a using anw;exact snd λn=>Rat.mul_one _
theorem mul_zero(a:RE):a*0=0:=by
 induction a using anw;exact snd λn=>Rat.mul_zero _
theorem left_distrib(a b c:RE):a*(b+c)=a*b+a*c:=by
 induction a,b,c using aot;exact snd λn=>Rat.mul_add _ _ _
theorem Bg(a:RE): -a+a=0:=by
 induction a using anw;exact snd λn=>Rat.neg_add_cancel _
def clt(a b:CS):Prop:=∃e:Rat,0<e/\∃N,∀n,N<=n->a.f n+e<b.f n
theorem Pv(a b a' b':CS)(h:a≈a')(h':b≈b')(hl:clt a b):clt a' b':=by
 obtain⟨e,he,N,hl⟩:=hl;obtain⟨N1,h⟩:=h (e/4) (by grind);obtain⟨N2,h'⟩:=h' (e/4) (by grind);refine⟨e/2,by grind,max N (max N1 N2),λn hn=>?_⟩;have:=hl n (by omega);have:=h n (by omega);have:=h' n (by omega);grind
instance:LT RE:=⟨Quotient.lift₂ clt (λ_ _ _ _ h h'=>propext ⟨Pv _ _ _ _ h h',Pv _ _ _ _ (Setoid.symm h) (Setoid.symm h')⟩)⟩
instance:LE RE:=⟨λa b=>¬b<a⟩
theorem lt_irrefl(a:RE):¬a<a:=by
 induction a using anw
 rintro ⟨e,he,N,h⟩
 have:=h N (amm _);grind
theorem eK{a b c:RE}:a<b->b<c->a<c:=by
 induction a,b,c using aot
 rintro ⟨e,he,N,h⟩ ⟨e',he',N',h'⟩
 refine⟨e,he,max N N',λn hn=>?_⟩;have:=h n (by omega);have:=h' n (by omega);grind
theorem ov(a b:RE):a<b\/a=b\/b<a:=by
 induction a,b using ao0
 rename_i a b;by_cases h1:clt a b
 ·exact .inl h1
 by_cases h2:clt b a
 ·exact .inr (.inr h2)
 refine .inr (.inl (ao9 λe he=>?_));obtain⟨N,ha⟩:=a.cau (e/4) (by grind);obtain⟨M,hb⟩:=b.cau (e/4) (by grind)
 have g1:∃n,max N M<=n/\b.f n<=a.f n+e/4:=by
  apply amB;intro hc
  exact h1 ⟨e/4,by grind,max N M,λn hn=>by
   apply amB;intro h;exact hc ⟨n,hn,by grind⟩⟩
 have g2:∃n,max N M<=n/\a.f n<=b.f n+e/4:=by
  apply amB;intro hc
  exact h2 ⟨e/4,by grind,max N M,λn hn=>by
   apply amB;intro h;exact hc ⟨n,hn,by grind⟩⟩
 obtain⟨p,hp,gp⟩:=g1;obtain⟨q,hq,gq⟩:=g2;refine⟨max N M,λn hn=>?_⟩;have a1:=ha n q (by omega) (by omega);have b1:=hb q n (by omega) (by omega);have a2:=ha p n (by omega) (by omega);have b2:=hb n p (by omega) (by omega);constructor<;>grind
theorem nO{a b:RE}(c:RE):a<b->a+c<b+c:=by
 induction a,b,c using aot
 rintro ⟨e,he,N,h⟩
 refine⟨e,he,N,λn hn=>?_⟩;have:=h n hn;simp only[RL.add];grind
theorem mul_pos{a b:RE}:0<a->0<b->0<a*b:=by
 induction a,b using ao0
 rintro ⟨e,he,N,h⟩ ⟨e',he',N',h'⟩
 refine⟨e*e',am9 he he',max N N',λn hn=>?_⟩;have h1:=h n (by omega);have h2:=h' n (by omega);simp only[RL.const]at h1 h2 ⊢;rename_i a b;have p:=am9 (a:=a.f n-e) (b:=b.f n-e') (by grind) (by grind);have q:=am9 (a:=a.f n-e) (b:=e') (by grind) (by grind);have r:=am9 (a:=e) (b:=b.f n-e') (by grind) (by grind);simp only[RL.mul];grind
theorem kS{a b:Rat}(h:a<b):of a<of b:=⟨(b-a)/2,by grind,0,λn _=>by simp only[RL.const];grind⟩
end RE
end
section
namespace RE
open RL
theorem B4(a b:RE):a<=b↔¬b<a:=Iff.rfl
theorem le_of_lt{a b:RE}(h:a<b):a<=b:=λh'=>lt_irrefl a (eK h h')
theorem lt_or_ge(a b:RE):a<b\/b<=a:=by
 by_cases h:a<b
 ·exact .inl h
 ·exact .inr h
theorem le_antisymm{a b:RE}(h1:a<=b)(h2:b<=a):a=b:=by
 rcases ov a b with h|h|h
 ·exact absurd h h2
 ·exact h
 ·exact absurd h h1
theorem le_trans{a b c:RE}(h1:a<=b)(h2:b<=c):a<=c:=λh=>by
 rcases ov a b with h'|h'|h'
 ·exact h2 (eK h h')
 ·subst h';exact h2 h
 ·exact h1 h'
theorem zero_lt_one:(0:RE)<1:=kS (by decide+kernel:(0:Rat)<1)
theorem lJ(a:RE):a+ -a=0:=by rw[add_comm,Bg]
theorem ve{a:RE}(h:a<0):0< -a:=by
 have:=nO (-a) h;rw[lJ,add_comm,add_zero]at this;exact this
theorem ab5{a:RE}(h:0<a): -a<0:=by
 have:=nO (-a) h;rw[lJ,add_comm,add_zero]at this;exact this
instance:Std.IsLinearOrder RE where
 le_refl a:=lt_irrefl a
 le_trans _ _ _:=le_trans
 le_antisymm _ _:=le_antisymm
 le_total a b:=by
  rcases lt_or_ge a b with h|h
  ·exact .inl (le_of_lt h)
  ·exact .inr h
instance:Std.LawfulOrderLT RE where
 lt_iff a b:=⟨λh=>⟨le_of_lt h,λh'=>h' h⟩,λh=>by
  rcases lt_or_ge a b with h'|h'
  ·exact h'
  ·exact absurd h' h.2⟩
theorem xC{a b:RE}:¬a<=b↔b<a:=⟨λh=>by
  rcases lt_or_ge b a with h'|h'
  ·exact h'
  ·exact absurd h' h,λh h'=>h' h⟩
theorem bz{a b:RE}(h:a<b):0<b-a:=by
 have:=nO (-a) h;rw[lJ]at this;exact this
theorem aJ{a b:RE}(h:a<=b):0<=b-a:=λh'=>h (by
 have:=nO a h'
 have e:b-a+a=b:=by
  show b+ -a+a=b;rw[add_assoc,Bg,add_zero]
 rw[e,add_comm,add_zero]at this;exact this)
theorem ph{a:RE}(h:0<=a):0<a\/a=0:=by
 rcases ov 0 a with h'|h'|h'
 ·exact .inl h'
 ·exact .inr h'.symm
 ·exact absurd h' h
theorem le_refl(a:RE):a<=a:=lt_irrefl a
theorem t7{a b:RE}(h:a=b):a<=b:=by rw[h];exact le_refl _
theorem sM{a b:RE}(h:a=b):b<=a:=by rw[h];exact le_refl _
theorem zero_mul(a:RE):0*a=0:=by rw[mul_comm,mul_zero]
theorem zero_add(a:RE):0+a=a:=by rw[add_comm,add_zero]
theorem one_mul(a:RE):1*a=a:=by rw[mul_comm,mul_one]
theorem ct{a b:RE}(h:0<=a)(h':0<=b):0<=a*b:=by
 rcases ph h with h1|h1
 ·rcases ph h' with h2|h2
  ·exact le_of_lt (mul_pos h1 h2)
  ·rw[h2,mul_zero];exact le_refl _
 ·rw[h1,zero_mul];exact le_refl _
theorem aW{a b:RE}(h:0<a)(h':0<=b):0<a+b:=by
 have:=nO b h;rw[zero_add]at this;rcases ph h' with h2|h2
 ·exact eK h2 this
 ·rw[h2,add_zero];exact h
theorem FG(a:RE):0<=a*a:=by
 rcases lt_or_ge a 0 with h|h
 ·have h1:=ve h;have h2:=mul_pos h1 h1
  have e: -a* -a=a*a:=by
   induction a using anw
   exact snd λn=>by show-_* -_=_*_;grind
  rw[e]at h2;exact le_of_lt h2
 ·exact ct h h
instance:NatCast RE:=⟨λn=>of (n:Rat)⟩
instance:IntCast RE:=⟨λn=>of (n:Rat)⟩
instance:SMul Nat RE:=⟨λn a=>of (n:Rat)*a⟩
instance:SMul Int RE:=⟨λn a=>of (n:Rat)*a⟩
def pw(a:RE):Nat->RE
 |0=>1
 |n+1=>pw a n*a
instance:Pow RE Nat:=⟨pw⟩
instance:Lean.Grind.CommRing RE where
 add_zero:=add_zero
 add_comm:=add_comm
 add_assoc:=add_assoc
 mul_assoc:=mul_assoc
 mul_one:=mul_one
 mul_comm:=mul_comm
 left_distrib:=left_distrib
 mul_zero:=mul_zero
 zero_mul:=zero_mul
 one_mul:=one_mul
 right_distrib a b c:=by rw[mul_comm,left_distrib,mul_comm c,mul_comm c]
 pow_zero _:=rfl
 pow_succ _ _:=rfl
 ofNat_succ n:=by
  show of ((OfNat.ofNat (n+1):Rat))=of ((OfNat.ofNat n:Rat))+of 1;rw[<-of_add];congr 1;show(((n+1:Nat):Rat))=((n:Nat):Rat)+1;rw[Rat.natCast_add];rfl
 ofNat_eq_natCast _:=rfl
 nsmul_eq_natCast_mul _ _:=rfl
 neg_add_cancel:=Bg
 sub_eq_add_neg _ _:=rfl
 neg_zsmul i a:=by
  show of ((-i:Int):Rat)*a= -(of (i:Rat)*a)
  rw[ao2,of_neg];induction a using anw
  exact snd λn=>by show-_*_= -(_*_);grind
 zsmul_natCast_eq_nsmul _ _:=rfl
 intCast_ofNat _:=rfl
 intCast_neg i:=by show of _= -of _;rw[ao2,of_neg]
theorem Ij{a b c:RE}(h:a<b)(hc:0<c):c*a<c*b:=by
 have h1:=nO (-a) h;rw[lJ]at h1;have h2:=nO (c*a) (mul_pos hc h1);rwa [show c*(b+ -a)+c*a=c*b by grind,zero_add]at h2
instance:Lean.Grind.OrderedRing RE where
 add_le_left_iff {a b} c:=⟨λh h'=>h (by
   have:=nO (-c) h';rw[add_assoc,add_assoc,lJ,add_zero,add_zero]at this;exact this),λh h'=>h (nO c h')⟩
 zero_lt_one:=zero_lt_one
 mul_lt_mul_of_pos_left:=Ij
 mul_lt_mul_of_pos_right {a b c} h hc:=by
  rw[mul_comm a,mul_comm b];exact Ij h hc
theorem H8{c:Rat}(hc:(0:Rat)<c){a:RE}(h:0<a):0<of c*a:=mul_pos (kS hc) h
theorem lS{c:Rat}(hc:(0:Rat)<c){a:RE}(h:0<=a):0<=of c*a:=ct (le_of_lt (kS hc)) h
theorem far{s:RE}(h:0<s)(e:s=0):False:=by rw[e]at h;exact lt_irrefl _ h
theorem V1(x y:RE):((y*y-(x*x)))+((x-(0))*(x-(y)))+((y-(0))*(x-(y)))=0:=by grind
theorem sq_lt(x y:RE)(h1:0<=x)(h2:0<=y)(h3:x*x<y*y):x<y:=xC.1 λhg=>far (aW (aW (bz h3) (ct (aJ h1) (aJ hg))) (ct (aJ h2) (aJ hg))) (V1 x y)
theorem To(x y:RE):((x-(y))*(x-(y)))+((y*y-(x*x)))+2*((y-(0))*(x-(y)))=0:=by grind
theorem L8(x y:RE)(_h1:0<=x)(h2:0<=y)(h3:x*x<=y*y):x<=y:=λhg=>far (aW (aW (mul_pos (bz hg) (bz hg)) (aJ h3)) (lS (by decide+kernel:(0:Rat)<2) (ct (aJ h2) (le_of_lt (bz hg))))) (To x y)
theorem Ls(x y:RE):((x*x-(y*y)))+2*((x-(0))*(y-(x)))+((y-(x))*(y-(x)))=0:=by grind
theorem tW(x y:RE)(h1:0<=x)(h2:x<=y):x*x<=y*y:=λhg=>far (aW (aW (bz hg) (lS (by decide+kernel:(0:Rat)<2) (ct (aJ h1) (aJ h2)))) (ct (aJ h2) (aJ h2))) (Ls x y)
theorem adA(x y:RE):((y-(x))*(y-(x)))+((x*x-(y*y)))+2*((x-(0))*(y-(x)))=0:=by grind
theorem N8(x y:RE):((x-(y))*(x-(y)))+((y*y-(x*x)))+2*((y-(0))*(x-(y)))=0:=by grind
theorem abG(x y:RE)(_h1:0<=x)(h2:0<=y)(h3:x*x=y*y):x<=y:=λhg=>far (aW (aW (mul_pos (bz hg) (bz hg)) (aJ (t7 h3))) (lS (by decide+kernel:(0:Rat)<2) (ct (aJ h2) (le_of_lt (bz hg))))) (N8 x y)
theorem Nk(x y:RE):((y-(x))*(y-(x)))+((x*x-(y*y)))+2*((x-(0))*(y-(x)))=0:=by grind
theorem adZ(x y:RE)(h1:0<=x)(_h2:0<=y)(h3:x*x=y*y):y<=x:=λhg=>far (aW (aW (mul_pos (bz hg) (bz hg)) (aJ (sM h3))) (lS (by decide+kernel:(0:Rat)<2) (ct (aJ h1) (le_of_lt (bz hg))))) (Nk x y)
theorem Yg(x y:RE)(h1:0<=x)(h2:0<=y)(h3:x*x=y*y):x=y:=le_antisymm (abG x y h1 h2 h3) (adZ x y h1 h2 h3)
end RE
end
section
namespace RE
open RL
theorem agy(q:Rat):∃k:Nat,q<(k:Rat):=by
 refine⟨(q.floor+1).toNat,?_⟩;have h1:q<((q.floor+1:Int):Rat):=(Rat.floor_lt_iff).1 (by omega);have h2:((q.floor+1:Int):Rat)<=(((q.floor+1).toNat:Int):Rat):=aoK.2 (by omega);have h3:(((q.floor+1).toNat:Int):Rat)=(((q.floor+1).toNat:Nat):Rat):=aoF _;rw[h3]at h2;grind
theorem TW(g d:Rat)(hg:0<=g)(hd:0<d):∃s:Rat,0<=s/\s*s<=g/\g<(s+d)*(s+d):=by
 apply amB;intro hn
 have step:∀k:Nat,((k:Rat)*d)*((k:Rat)*d)<=g:=by
  intro k;induction k with
  |zero=>rw[show((0:Nat):Rat)=0 from rfl];grind
  |succ k ih=>
   apply amB;intro hc;refine hn ⟨(k:Rat)*d,?_,ih,?_⟩
   ·have:(0:Rat)<=(k:Rat):=by
     have:=Rat.intCast_nonneg.2 (show(0:Int)<=(k:Int) by omega);rwa [aoF]at this
    exact am6 this (by grind)
   ·have e:(((k+1:Nat)):Rat)=(k:Rat)+1:=by rw[Rat.natCast_add];rfl
    rw[e]at hc;grind
 obtain⟨k,hk⟩:=agy ((g+1)/d)
 have h1:g+1<(k:Rat)*d:=by
  have:=am9 (show 0<(k:Rat)-(g+1)/d by grind) hd;have e:((k:Rat)-(g+1)/d)*d=(k:Rat)*d-(g+1):=by grind
  grind
 have h2:=step k;have h3:=am9 (show 0<(k:Rat)*d-(g+1) by grind) (show 0<(k:Rat)*d by grind);have h4:=am9 (show 0<(k:Rat)*d-(g+1) by grind) (show 0<g+1 by grind);have h5:=am6 hg hg;clear hn step hk;generalize (k:Rat)*d=t at h1 h2 h3 h4;grind
def eps(n:Nat):Rat:=1/((n:Rat)+1)
theorem rU(n:Nat):(0:Rat)<=(n:Rat):=by
 have:=Rat.intCast_nonneg.2 (show(0:Int)<=(n:Int) by omega);rwa [aoF]at this
theorem tj(n:Nat):0<eps n:=by
 have:=rU n;exact am9 (by grind) (Rat.inv_pos.2 (by grind))
theorem AW(e:Rat)(he:0<e):∃N,∀n,N<=n->eps n<e:=by
 obtain⟨N,hN⟩:=agy (1/e);refine⟨N,λn hn=>?_⟩;have h0:=rU n
 have h1:(N:Rat)<=(n:Rat):=by
  have:=aoK.2 (show(N:Int)<=(n:Int) by omega);rwa [aoF,aoF]at this
 have h2:1/e<(n:Rat)+1:=by grind
 have h3:=am9 (show 0<(n:Rat)+1-1/e by grind) (am9 he (tj n));unfold eps at h3 ⊢
 have e1:((n:Rat)+1-1/e)*(e*(1/((n:Rat)+1)))=e-1/((n:Rat)+1):=by
  have:(n:Rat)+1≠0:=by grind
  have:e≠0:=by grind
  grind
 grind
theorem Fu(n:Nat):eps n<=1:=by
 have h0:=rU n;have:=tj n;unfold eps at*
 have h3:=am6 h0 (show(0:Rat)<=1/((n:Rat)+1) by grind)
 have e1:(n:Rat)*(1/((n:Rat)+1))=1-1/((n:Rat)+1):=by
  have:(n:Rat)+1≠0:=by grind
  grind
 grind
theorem Qe{a b:Rat}(ha:0<=a)(hb:0<=b)(h:a*a<b*b):a<b:=by
 apply amB;intro hc;have:=am6 (show 0<=a-b by grind) (show 0<=a+b by grind);grind
theorem BU(x:RE)(hx:0<=x):∃y:RE,0<=y/\y*y=x:=by
 induction x using anw
 rename_i f
 have hc:∀n,∃s:Rat,0<=s/\s*s<=(if 0<=f.f n then f.f n else 0)/\(if 0<=f.f n then f.f n else 0)<(s+eps n)*(s+eps n):=λn=>
  TW _ _ (by split<;>grind) (tj n)
 let g:Nat->Rat:=λn=>if 0<=f.f n then f.f n else 0
 let s:Nat->Rat:=λn=>Classical.choose (hc n)
 have hs:∀n,0<=s n/\s n*s n<=g n/\g n<(s n+eps n)*(s n+eps n):=λn=>anK (hc n)
 have hg:∀m n,g m-g n<=(if 0<=f.f m-f.f n then f.f m-f.f n else 0):=λm n=>by
  show(if 0<=f.f m then f.f m else 0)-(if 0<=f.f n then f.f n else 0)<=_;split<;>split<;>split<;>grind
 obtain⟨B,hB,NB,hBn⟩:=f.bd
 have hgB:∀n,NB<=n->g n<B:=λn hn=>by
  show(if 0<=f.f n then f.f n else 0)<B;have:=hBn n hn;split<;>grind
 have hsB:∀n,NB<=n->s n<B+1:=λn hn=>by
  have h1:=hs n;have h2:=hgB n hn;refine Qe h1.1 (by grind) ?_;have:=am6 (show 0<=B by grind) (show 0<=B by grind);grind
 have hcau:∀e:Rat,0<e->∃N,∀m n,N<=m->N<=n->s m-s n<e:=by
  intro e he;obtain⟨N1,h1⟩:=f.cau (e*e/4) (by have:=am9 he he;grind);obtain⟨N2,h2⟩:=AW (e/2) (by grind);refine⟨max N1 N2,λm n hm hn=>?_⟩;apply amB;intro hne;have a1:=hs m;have a2:=hs n;have a3:=h1 m n (by omega) (by omega);have a4:=h2 n (by omega);have a5:=hg m n;have a6:=tj n;have p1:=am6 (show 0<=s m-(s n+e) by grind) (show 0<=s m+(s n+e) by grind);have p2:=am6 (show 0<=e/2-eps n by grind) (show 0<=(s n+e/2)+(s n+eps n) by grind);have p3:=am6 (show 0<=e by grind) a2.1;have p4:=am9 he he;split at a5<;>grind
 refine⟨Quotient.mk _ ⟨s,hcau⟩,?_,ao9 λe he=>?_⟩
 ·rintro ⟨e,he,N,h⟩
  have h1:=h N (amm _);have h2:=(hs N).1;simp only[RL.const]at h1;grind
 ·-- s n*s n is near to f n
  have hneg:∃N,∀n,N<=n-> -(e/4)<f.f n:=by
   apply amB;intro hne;obtain⟨M,hM⟩:=f.cau (e/8) (by grind);refine hx ⟨e/16,by grind,M,λn hn=>?_⟩;apply amB;intro hge;refine hne ⟨M,λk hk=>?_⟩;have:=hM n k hn hk;simp only[RL.const]at hge;grind
  obtain⟨N1,h1⟩:=hneg;obtain⟨N2,h2⟩:=AW (e/(4*(B+2))) (am9 he (Rat.inv_pos.2 (by grind)));refine⟨max (max N1 N2) NB,λn hn=>?_⟩;have a1:=hs n;have a2:=h1 n (by omega);have a3:=h2 n (by omega);have a4:=hsB n (by omega);have a5:=tj n;have a6:=Fu n
  have hgf:f.f n<=g n/\g n<f.f n+e/4:=by
   show f.f n<=(if 0<=f.f n then f.f n else 0)/\(if 0<=f.f n then f.f n else 0)<_;split<;>constructor<;>grind
  have p1:=am6 (show 0<=eps n by grind) (show 0<=2*(B+2)-(2*s n+eps n) by grind)
  have p2:eps n*(2*(B+2))<e/2:=by
   have:=am9 (show 0<e/(4*(B+2))-eps n by grind) (show 0<2*(B+2) by grind)
   have e1:(e/(4*(B+2))-eps n)*(2*(B+2))=e/2-eps n*(2*(B+2)):=by
    have:B+2≠0:=by grind
    grind
   grind
  simp only[RL.mul];constructor<;>grind
open Classical in
def xp(x:RE):RE:=if h:0<=x then Classical.choose (BU x h)else 0
theorem pH(x:RE):0<=xp x:=by
 unfold xp;split
 ·rename_i h;exact(anK (BU x h)).1
 ·exact lt_irrefl 0
theorem BF{x:RE}(h:0<=x):xp x*xp x=x:=by
 unfold xp;rw[dif_pos h];exact(anK (BU x h)).2
theorem oz{a b:Rat}:of a<=of b↔a<=b:=by
 constructor
 ·intro h;apply amB;intro hc;exact h (kS (by grind))
 ·intro h h';rcases(by grind:a<b\/a=b)with h1|h1
  ·exact lt_irrefl _ (eK h' (kS h1))
  ·rw[h1]at h';exact lt_irrefl _ h'
theorem HB{a b:Rat}(h:of a=of b):a=b:=by
 have h1:=oz.1 (show of a<=of b by rw[h];exact lt_irrefl _);have h2:=oz.1 (show of b<=of a by rw[h];exact lt_irrefl _);grind
end RE
end
section
namespace RE
open RL
open Classical in
def sg(x:RE):Int:=if 0<x then 1 else if x<0 then-1 else 0
theorem jc{x:RE}(h:0<x):sg x=1:=am2 h
theorem oA{x:RE}(h:x<0):sg x= -1:=by unfold sg;rw[amJ (λh'=>lt_irrefl _ (eK h h')),am2 h]
theorem fe:sg 0=0:=by unfold sg;rw[amJ (lt_irrefl _),amJ (lt_irrefl _)]
theorem c8(x:RE):(0<x/\sg x=1)\/(x=0/\sg x=0)\/(x<0/\sg x= -1):=by
 rcases ov 0 x with h|h|h
 ·exact .inl ⟨h,jc h⟩
 ·exact .inr (.inl ⟨h.symm,by rw[<-h,fe]⟩)
 ·exact .inr (.inr ⟨h,oA h⟩)
theorem R9{x:RE}:sg x=0↔x=0:=by
 rcases c8 x with⟨h,e⟩|⟨h,e⟩|⟨h,e⟩<;>rw[e]
 ·exact⟨λh'=>by omega,λh'=>by rw[h']at h;exact absurd h (lt_irrefl _)⟩
 ·exact⟨λ_=>h,λ_=>rfl⟩
 ·exact⟨λh'=>by omega,λh'=>by rw[h']at h;exact absurd h (lt_irrefl _)⟩
theorem abC{x:RE}:sg x=1↔0<x:=by
 rcases c8 x with⟨h,e⟩|⟨h,e⟩|⟨h,e⟩<;>rw[e]
 ·exact⟨λ_=>h,λ_=>rfl⟩
 ·exact⟨λh'=>by omega,λh'=>by rw[h]at h';exact absurd h' (lt_irrefl _)⟩
 ·exact⟨λh'=>by omega,λh'=>absurd (eK h h') (lt_irrefl _)⟩
theorem neg_mul(a b:RE): -a*b= -(a*b):=by grind
theorem mul_neg(a b:RE):a* -b= -(a*b):=by grind
theorem neg_neg(a:RE): - -a=a:=by grind
theorem sub_self(a:RE):a-a=0:=by grind
theorem abO(x y:RE):(x+y)*(x-y)=x*x-y*y:=by grind
theorem SO(x y:RE):((x-(0))*(0-(y)))+((x*y-(0)))=0:=by grind
theorem Pp(x y:RE)(h1:0<x)(h2:y<0):x*y<0:=xC.1 λhg=>far (aW (mul_pos (bz h1) (bz h2)) (aJ hg)) (SO x y)
theorem aee(x y:RE)(h1:x<0)(h2:y<0):x+y<0:=by grind
theorem adb(x y:RE)(h1:0<x)(h2:y<0):0<x-y:=by grind
theorem adr(x y:RE)(h1:x<0)(h2:0<y):x-y<0:=by grind
theorem aa6(x y:RE)(h1:0<x)(h2:0<y):0<x+y:=by grind
theorem Og: -(0:RE)=0:=by rw[<-zero_add (-0),lJ]
theorem acp(x:RE):sg (-x)= -sg x:=by
 rcases c8 x with⟨h,e⟩|⟨h,e⟩|⟨h,e⟩<;>rw[e]
 ·exact oA (ab5 h)
 ·rw[h,Og,fe];rfl
 ·exact jc (ve h)
theorem uF(x y:RE):sg (x*y)=sg x*sg y:=by
 rcases c8 x with⟨h,e⟩|⟨h,e⟩|⟨h,e⟩<;>rw[e]
 ·rcases c8 y with⟨h',e'⟩|⟨h',e'⟩|⟨h',e'⟩<;>rw[e']
  ·exact jc (mul_pos h h')
  ·rw[h',mul_zero,fe];rfl
  ·exact oA (Pp _ _ h h')
 ·rw[h,zero_mul,fe];omega
 ·rcases c8 y with⟨h',e'⟩|⟨h',e'⟩|⟨h',e'⟩<;>rw[e']
  ·rw[mul_comm];exact oA (Pp _ _ h' h)
  ·rw[h',mul_zero,fe];rfl
  ·have:=mul_pos (ve h) (ve h');rw[neg_mul,mul_neg,neg_neg]at this;exact jc this
theorem sg_of(q:Rat):sg (of q)=aD q 0:=by
 rcases(by grind:q<0\/q=0\/0<q)with h|h|h
 ·rw[d9 h];exact oA (kS h)
 ·rw[h,eD];exact fe
 ·rw[dL h];exact jc (kS h)
def addS(s t d:Int):Int:=bif t==0||s==t then s else bif s==0 then t else s*d
theorem Qf(x y:RE):sg (x+y)=addS (sg x) (sg y) (sg (x*x-y*y)):=by
 rw[<-abO,uF];rcases c8 x with⟨h,e⟩|⟨h,e⟩|⟨h,e⟩<;>rw[e]
 ·rcases c8 y with⟨h',e'⟩|⟨h',e'⟩|⟨h',e'⟩<;>rw[e']
  ·exact jc (aa6 _ _ h h')
  ·rw[h',add_zero,e];rfl
  ·rw[jc (adb _ _ h h')];show _=1*(_*1)
   omega
 ·rcases c8 y with⟨h',e'⟩|⟨h',e'⟩|⟨h',e'⟩<;>rw[e',h,zero_add,e']<;>rfl
 ·rcases c8 y with⟨h',e'⟩|⟨h',e'⟩|⟨h',e'⟩<;>rw[e']
  ·rw[oA (adr _ _ h h')];show _= -1*(_* -1)
   omega
  ·rw[h',add_zero,e];rfl
  ·exact oA (aee _ _ h h')
end RE
end
def ue:Nat->Nat->Nat
 |0,_=>0
 |f+1,n=>bif decide (n=0)then 0 else bif decide ((2*ue f (n/4)+1)*(2*ue f (n/4)+1)<=n)then 2*ue f (n/4)+1 else 2*ue f (n/4)
def Pd(n:Nat):Nat:=ue (n.log2+1) n
theorem Js:∀(f n:Nat),n<2^f->ue f n*ue f n<=n/\n<(ue f n+1)*(ue f n+1)
 |0,n,h=>by
  have:n=0:=by simpa using h
  subst this;exact⟨amm _,by decide⟩
 |f+1,n,h=>by
  rcases am8 n with h0|h0
  ·subst h0;show ue (f+1) 0*ue (f+1) 0<=0/\_;exact⟨amm _,by show 0<(0+1)*(0+1);decide⟩
  ·have h4:n/4<2^f:=by
    rw[Nat.pow_succ]at h;omega
   obtain⟨h1,h2⟩:=Js f (n/4) h4;simp only[ue];rw[ami (show ¬n=0 by omega)];generalize ue f (n/4)=s at h1 h2;have e1:(2*s)*(2*s)=4*(s*s):=by grind
   have e2:(2*s+1+1)*(2*s+1+1)=4*((s+1)*(s+1)):=by grind
   by_cases hc:(2*s+1)*(2*s+1)<=n
   ·rw[amh hc];exact⟨hc,by show n<(2*s+1+1)*(2*s+1+1);rw[e2];omega⟩
   ·rw[ami hc];exact⟨by show(2*s)*(2*s)<=n;rw[e1];omega,by show n<(2*s+1)*(2*s+1);omega⟩
theorem Tw(n:Nat):Pd n*Pd n<=n/\n<(Pd n+1)*(Pd n+1):=Js _ n Nat.lt_log2_self
def bK(z:Int):Int:=(Pd z.toNat:Int)
theorem fJ{z:Int}(h:0<=z):0<=bK z/\bK z*bK z<=z/\z<(bK z+1)*(bK z+1):=by
 obtain⟨h1,h2⟩:=Tw z.toNat
 grind [bK]
theorem tW{a b:Int}(ha:0<=a)(h:a<=b):a*a<=b*b:=aox h h ha (by omega)
theorem sq_lt{a b:Int}(hb:0<=b)(h:a*a<b*b):a<b:=by
 apply amB;intro hc;have:=tW hb (show b<=a by omega);omega
theorem UG{z s:Int}(h0:0<=s)(h1:s*s<=z)(h2:z<(s+1)*(s+1)):bK z=s:=by
 obtain⟨g0,g1,g2⟩:=fJ (show 0<=z by have:=tW (a:=0) (by omega) h0;omega);have a1:=sq_lt (b:=s+1) (a:=bK z) (by omega) (by omega);have a2:=sq_lt (b:=bK z+1) (a:=s) (by omega) (by omega);omega
theorem Px{a x s:Int}(hx:0<x)(_hs:0<=s)(h1:s*s<=a):s<=(x+a/x)/2:=by
 have hq:=am3 a x;have hm:=am4 a hx;apply amB;intro hc;have h2:a/x<=2*s-x-1:=by omega
 have h3:x*(a/x)<=x*(2*s-x-1):=amo h2 (by omega)
 have h4:0<=(s-x)*(s-x):=by
  rcases Int.le_total 0 (s-x)with h|h
  ·exact anc h h
  ·exact Int.mul_nonneg_of_nonpos_of_nonpos h h
 grind
theorem yy{a x s:Int}(hx:0<x)(hs:s<=x)(_h1:s*s<=a)(h2:a<(s+1)*(s+1))(h3:0<=s)(h:x<=(x+a/x)/2):x=s:=by
 have hq:=am3 a x;have hm:=ans a (show x≠0 by omega);have h4:x<=a/x:=by omega
 have h5:x*x<=x*(a/x):=amo h4 (by omega);have:=sq_lt (a:=x) (b:=s+1) (by omega) (by omega);omega
def fE(x:BI):BI:=bif x.1 then(false,[])else ah (bK (ab x))
def vM(x:BI):Int:=bif x.1 then 7 else 0
def wd:List En:=[⟨83,pk,kJ⟩,⟨82,rI,mZ⟩,⟨128,pc,kU⟩,⟨121,yZ,sT⟩,⟨127,CJ,xq⟩]
def ab8:NT:=[((88,25),{keep:=[1,2,5,6],hl:=6})]
def HR:Ctx:=CX (ens wd) ab8
def ny(x:Bool×List Int)(b4_0:Bool)(b4_1:List Int):Cfg:=⟨88,[.blk 0],[(1,.box 0 0),(2,.box 1 0),(5,.box 4 0),(6,.box 5 0)],[.box 26 [SB x.1,.d apD x.2],.box 26 [SB false,.nil],.gone,.row 109 apG ([1]),.box 26 [SB b4_0,.d apD b4_1],.box 26 [SB ((ah (2:Int)).1),.d apD ((ah (2:Int)).2)]],0,[]⟩
def Ji(x:Bool×List Int)(k:KT):OLR:=match x.1 with|true=>some [RV.d y3Y (false,[]),RV.d apE 7]|false=>(match(x.2.length:Int)==0 with|true=>some [RV.d y3Y (false,[]),RV.d apE 0]|false=>(og (decide ((0:Int)<=i64.wrap (Int.tdiv (i64.wrap ((x.2.length:Int)+1)) 2)/\(i64.wrap (Int.tdiv (i64.wrap ((x.2.length:Int)+1)) 2))*((4:Nat):Int)<=140737488355328/\i64.wrap (Int.tdiv (i64.wrap ((x.2.length:Int)+1)) 2)<=140737488355328)) (og (decide (((List.replicate (i64.wrap (Int.tdiv (i64.wrap ((x.2.length:Int)+1)) 2)).toNat (0:Int)).length+([1]).length)*4<=140737488355328/\(List.replicate (i64.wrap (Int.tdiv (i64.wrap ((x.2.length:Int)+1)) 2)).toNat (0:Int)).length+([1]).length<=140737488355328)) (og (decide (aN ((List.replicate (i64.wrap (Int.tdiv (i64.wrap ((x.2.length:Int)+1)) 2)).toNat (0:Int))++([1])))) (og (decide (aR (2:Int))) (k 25 (ny x ((ah (bX false (val ((List.replicate (i64.wrap (Int.tdiv (i64.wrap ((x.2.length:Int)+1)) 2)).toNat (0:Int))++([1]))))).1) ((ah (bX false (val ((List.replicate (i64.wrap (Int.tdiv (i64.wrap ((x.2.length:Int)+1)) 2)).toNat (0:Int))++([1]))))).2))))))))
theorem Mz(x:Bool×List Int):RS HR 88 [.d y3Y x] (Ji x):=rsX
def vn(x:Bool×List Int)(b4_0:Bool)(b4_1:List Int)(k:KT):OLR:=og (decide (eZ x (b4_0,b4_1))) (cW (og (decide (okI (b4_0,b4_1)/\okI (ah (ab x/ab (b4_0,b4_1))))) (cW (og (decide (eZ (ah (ab (b4_0,b4_1)+ab (ah (ab x/ab (b4_0,b4_1))))) (ah (2:Int)))) (dup (.b .l .l) (og (decide (okI (ah (ab (ah (ab (b4_0,b4_1)+ab (ah (ab x/ab (b4_0,b4_1)))))/ab (ah (2:Int))))/\okI (b4_0,b4_1))) (match decide ((bV (ab (ah (ab (ah (ab (b4_0,b4_1)+ab (ah (ab x/ab (b4_0,b4_1)))))/ab (ah (2:Int))))) (ab (b4_0,b4_1)))>=0)with|true=>some [RV.d y3Y (b4_0,b4_1),RV.d apE 0]|false=>k 25 (ny x ((ah (ab (ah (ab (b4_0,b4_1)+ab (ah (ab x/ab (b4_0,b4_1)))))/ab (ah (2:Int)))).1) ((ah (ab (ah (ab (b4_0,b4_1)+ab (ah (ab x/ab (b4_0,b4_1)))))/ab (ah (2:Int)))).2)))))) (dup (.b (.b .l .l) (.b .l .l)) (og (decide (eZ (ah (ab (b4_0,b4_1)+ab (ah (ab x/ab (b4_0,b4_1))))) (ah (2:Int)))) (og (decide (okI (ah (ab (ah (ab (b4_0,b4_1)+ab (ah (ab x/ab (b4_0,b4_1)))))/ab (ah (2:Int))))/\okI (b4_0,b4_1))) (match decide ((bV (ab (ah (ab (ah (ab (b4_0,b4_1)+ab (ah (ab x/ab (b4_0,b4_1)))))/ab (ah (2:Int))))) (ab (b4_0,b4_1)))>=0)with|true=>some [RV.d y3Y (b4_0,b4_1),RV.d apE 0]|false=>k 25 (ny x ((ah (ab (ah (ab (b4_0,b4_1)+ab (ah (ab x/ab (b4_0,b4_1)))))/ab (ah (2:Int)))).1) ((ah (ab (ah (ab (b4_0,b4_1)+ab (ah (ab x/ab (b4_0,b4_1)))))/ab (ah (2:Int)))).2)))))))) (dup (.b .l .l) (cW (og (decide (okI (b4_0,b4_1)/\okI (ah (ab x/ab (b4_0,b4_1))))) (dup (.b .l .l) (og (decide (eZ (ah (ab (b4_0,b4_1)+ab (ah (ab x/ab (b4_0,b4_1))))) (ah (2:Int)))) (og (decide (okI (ah (ab (ah (ab (b4_0,b4_1)+ab (ah (ab x/ab (b4_0,b4_1)))))/ab (ah (2:Int))))/\okI (b4_0,b4_1))) (match decide ((bV (ab (ah (ab (ah (ab (b4_0,b4_1)+ab (ah (ab x/ab (b4_0,b4_1)))))/ab (ah (2:Int))))) (ab (b4_0,b4_1)))>=0)with|true=>some [RV.d y3Y (b4_0,b4_1),RV.d apE 0]|false=>k 25 (ny x ((ah (ab (ah (ab (b4_0,b4_1)+ab (ah (ab x/ab (b4_0,b4_1)))))/ab (ah (2:Int)))).1) ((ah (ab (ah (ab (b4_0,b4_1)+ab (ah (ab x/ab (b4_0,b4_1)))))/ab (ah (2:Int)))).2))))))) (og (decide (okI (b4_0,b4_1)/\okI (ah (ab x/ab (b4_0,b4_1))))) (og (decide (eZ (ah (ab (b4_0,b4_1)+ab (ah (ab x/ab (b4_0,b4_1))))) (ah (2:Int)))) (og (decide (okI (ah (ab (ah (ab (b4_0,b4_1)+ab (ah (ab x/ab (b4_0,b4_1)))))/ab (ah (2:Int))))/\okI (b4_0,b4_1))) (match decide ((bV (ab (ah (ab (ah (ab (b4_0,b4_1)+ab (ah (ab x/ab (b4_0,b4_1)))))/ab (ah (2:Int))))) (ab (b4_0,b4_1)))>=0)with|true=>some [RV.d y3Y (b4_0,b4_1),RV.d apE 0]|false=>k 25 (ny x ((ah (ab (ah (ab (b4_0,b4_1)+ab (ah (ab x/ab (b4_0,b4_1)))))/ab (ah (2:Int)))).1) ((ah (ab (ah (ab (b4_0,b4_1)+ab (ah (ab x/ab (b4_0,b4_1)))))/ab (ah (2:Int)))).2)))))))))
theorem As(x:Bool×List Int)(b4_0:Bool)(b4_1:List Int):RN HR 25 (ny x b4_0 b4_1) (vn x b4_0 b4_1):=rnX
def adO:NT:=[((45,16),{keep:=[1,4,5],hl:=1})]
def Jn:Ctx:=CX (ens wd) adO
def wh(x:Bool×List Int)(s4 s5:Int):Cfg:=⟨45,[.blk 0,.seq 27],[(1,.box 0 0),(4,.d (.int .u64) s4),(5,SI s5)],[.box 26 [SB x.1,.d apD x.2]],0,[]⟩
def JY(x:Bool×List Int)(k:KT):OLR:=og (decide (aR ((-9223372036854775808):Int))) (og (decide (okI x/\okI (ah ((-9223372036854775808):Int)))) (dup (.b .l .l) (match decide ((bV (ab x) (ab (ah ((-9223372036854775808):Int))))<0)with|true=>some [RV.d apE 0,RV.d .bool false]|false=>(og (decide (aR (9223372036854775807:Int))) (og (decide (okI x/\okI (ah (9223372036854775807:Int)))) (match decide ((bV (ab x) (ab (ah (9223372036854775807:Int))))>0)with|true=>some [RV.d apE 0,RV.d .bool false]|false=>k 16 (wh x 0 (i64.wrap ((x.2.length:Int)-1)))))))))
theorem Td(x:Bool×List Int):RS Jn 45 [.d y3Y x] (JY x):=rsX
def u6(x:Bool×List Int)(s4 s5:Int)(k:KT):OLR:=match decide (s5>=0)with|true=>(match aH x.2 s5 with|some x1=>k 16 (wh x (u64.wrap ((u64.wrap (s4*1000000000))+(u64.wrap x1))) (i64.wrap (s5-1)))|none=>none)|false=>(match x.1 with|true=>some [RV.d apE (i64.wrap (u64.wrap (0-s4))),RV.d .bool true]|false=>some [RV.d apE (i64.wrap s4),RV.d .bool true])
theorem zM(x:Bool×List Int)(s4 s5:Int):RN Jn 16 (wh x s4 s5) (u6 x s4 s5):=rnX
theorem S2(x:BI)(hx:okI x)(h0:0<ab x):∀(m:Nat) (X:Int),X.toNat=m->0<X->bK (ab x)<=X->szI X<=900000->HR.Runs 25 (ny x (ah X).1 (ah X).2) [.d y3Y (ah (bK (ab x))),.d apE 0]:=by
 intro m;induction m using Nat.strongRecOn with
 |ind m ih=>
  intro X hm hX hs hsz;obtain⟨g0,g1,g2⟩:=fJ (amY h0);have hq0:0<=ab x/X:=anh (by omega) (by omega);have hq1:ab x/X<=ab x:=aoe _ (by omega);have oX:okI (ah X):=aS (by omega);have sq:szI (ab x/X)<=1000000:=amt (dm (by omega)) (gK hx);have p1:eZ x (ah X):=⟨hx,oX,by rw[dec_enc];exact hX⟩
  have ssum:szI (X+ab x/X)<=1000000:=by
   have b1:=nP hsz;have b2:=nP (gK hx);have e:pw 1000000=pw 900000*pw 100000:=by rw[<-fc]
   have p9:(1000:Int)<=pw 100000:=by
    have:pw 100000=pw 99999*1000000000:=bW 99999;have:=cg 99999;omega
   have p8:=cg 900000;have h8:pw 900000*1000<=pw 900000*pw 100000:=amo p9 (by omega);rcases amM X 2 with hX1|hX1
   ·-- X=1:then the number is less than 4
    have:X=1:=by omega
    subst this;have:bK (ab x)<=1:=hs
    have h4:ab x<4:=by
     have:=tW (a:=bK (ab x)+1) (b:=2) (by omega) (by omega);omega
    refine eP ?_ ?_<;>(rw[e,Int.ediv_one];omega)
   ·have hq2:ab x/X<=ab x/2:=by
     have:=Int.ediv_mul_le (ab x) (show X≠0 by omega);have h2:ab x/X*2<=ab x/X*X:=amo hX1 hq0;omega
    refine eP ?_ ?_<;>(rw[e]at b2 ⊢;omega)
  have o1:okI (ah X)/\okI (ah (ab x/X)):=⟨oX,aS sq⟩
  have p2:eZ (ah (X+ab x/X)) (ah 2):=⟨aS ssum,by decide,by rw[dec_enc];decide⟩
  have hn:=Px hX g0 g1;have o2:okI (ah ((X+ab x/X)/2))/\okI (ah X):=⟨aS (amt (dm (by omega)) ssum),oX⟩
  by_cases hc:X<=(X+ab x/X)/2
  ·have hXs:=yy hX hs g1 g2 g0 hc;refine As _ _ _ ⟨0,?_⟩;unfold vn;simp only[cO,da];have e:∀z:Int,((ah z).1,(ah z).2)=ah z:=λz=>rfl;simp only[e,dec_enc,amh p1,amh o1,amh p2,amh o2]
   have hg:decide (bV ((X+ab x/X)/2) X>=0)=true:=by
    rcases aou hc with h|h
    ·rw[cq h];rfl
    ·rw[<-h,dB];rfl
   rw[hg,hXs]
  ·obtain⟨n,hN⟩:=ih ((X+ab x/X)/2).toNat (by omega) ((X+ab x/X)/2) rfl (by
    rcases amM 0 (bK (ab x))with h|h
    ·omega
    ·exfalso;have:bK (ab x)=0:=by omega
     rw[this]at g2;omega) hn (amt (dm (by omega)) hsz)
   refine As _ _ _ ⟨n,?_⟩;unfold vn;simp only[cO,da];have e:∀z:Int,((ah z).1,(ah z).2)=ah z:=λz=>rfl;simp only[e,dec_enc,amh p1,amh o1,amh p2,amh o2];rw[cQ (by omega)];exact hN
def WT:Cn 88 [y3Y]:=cn λ(x:Bool×List Int)=>lf (okI x) [.d y3Y (fE x),.d apE (vM x)] λh=>by
 refine a8 wd (show HR.Res _ _ _ from ?_);obtain⟨x0,x1,x2⟩:=cp h;have hl:=h.2.2;cases hn:x.1
 ·by_cases hz:x.2=[]
  ·refine Mz _ ⟨0,?_⟩;unfold Ji fE vM;have:ab x=0:=by unfold ab;rw[hn,hz];rfl
   rw[hn,hz,this];rfl
  ·have hp:0<val x.2:=eo h.1 hz;have hd:ab x=val x.2:=by unfold ab;rw[hn];rfl
   have hlen:=am1.2 hz
   have hk:i64.wrap (Int.tdiv (i64.wrap ((x.2.length:Int)+1)) 2)=(((x.2.length+1)/2:Nat):Int):=by
    rw[aT (by omega),gC (by omega),aO (by omega) (by omega)];omega
   have hv:val (List.replicate ((x.2.length+1)/2) 0++[1])=pw ((x.2.length+1)/2):=by
    rw[dv,gj,aop];simp[val]
   have hL:aN (List.replicate ((x.2.length+1)/2) 0++[1]):=by
    refine⟨λy hy=>?_,by simp;omega⟩;rcases amG.1 hy with hy|hy
    ·have:=List.eq_of_mem_replicate hy;omega
    ·simp at hy;omega
   have hpos:=cg ((x.2.length+1)/2)
   obtain⟨n,hN⟩:=S2 x h (by omega) _ (pw ((x.2.length+1)/2)) rfl hpos (by
     obtain⟨g0,g1,g2⟩:=fJ (show 0<=ab x by omega);have hlt:=bU h.1.1;have hm:=df (show x.2.length<=(x.2.length+1)/2+(x.2.length+1)/2 by omega);rw[fc]at hm;have:=sq_lt (a:=bK (ab x)) (b:=pw ((x.2.length+1)/2)) (by omega) (by omega)
     omega) (eP (k:=900000) (by have:=cg 900000;omega) (by
      have:=df (show(x.2.length+1)/2+1<=900000 by omega);rw[bW]at this;omega))
   refine Mz _ ⟨n,?_⟩;unfold Ji fE vM;simp only[hk];rw[hn,show((x.2.length:Int)==0)=false by simp;omega];simp only[aoy];rw[amh (show(0:Int)<=(((x.2.length+1)/2:Nat):Int)/\(((x.2.length+1)/2:Nat):Int)*((4:Nat):Int)<=140737488355328/\(((x.2.length+1)/2:Nat):Int)<=140737488355328 by omega)];rw[amh (show((List.replicate ((x.2.length+1)/2) (0:Int)).length+([1]:List Nat).length)*4<=140737488355328/\(List.replicate ((x.2.length+1)/2) (0:Int)).length+([1]:List Nat).length<=140737488355328 by simp;omega)];rw[amh hL,amh (show aR 2 by decide),hv];exact hN
 ·refine Mz _ ⟨0,?_⟩;unfold Ji fE vM;rw[hn];rfl
theorem DB(x:BI)(hx:okI x)(hv:val x.2<=9223372036854775808):∀(i:Nat),i<=x.2.length->Jn.Runs 16 (wh x (val (x.2.drop i)) ((i:Int)-1)) [.d apE (i64.wrap (bif x.1 then u64.wrap (0-val x.2)else val x.2)),.d .bool true]
 |0,_=>by
  refine zM _ _ _ ⟨0,?_⟩;unfold u6;rw[ami (by omega),an3];cases x.1<;>rfl
 |i+1,hi=>by
  obtain⟨n,ih⟩:=DB x hx hv i (by omega);have h0:=hx.2.2;have hlim:=hx.1.1;have hd:x.2.drop i=x.2[i]::x.2.drop (i+1):=jm (by omega)
  have hle:∀j,val (x.2.drop j)<=9223372036854775808/\0<=val (x.2.drop j):=λj=>by
   have l1:Lim (x.2.drop j):=λy hy=>hlim y (anS hy);have l2:Lim (x.2.take j):=λy hy=>hlim y (anv hy);have:=dv (x.2.take j) (x.2.drop j);rw[anG]at this;have n1:=aL l1;have n2:=aL l2;have p:=cg (x.2.take j).length
   have:val (x.2.drop j)<=pw (x.2.take j).length*val (x.2.drop j):=by
    have:=amu (show 1<=pw (x.2.take j).length by omega) n1;omega
   omega
  have hb:=hlim x.2[i] (ams _);have hv1:=hle i;have hv2:=hle (i+1);rw[hd]at hv1 ih;simp only[val]at hv1 ih;refine zM _ _ _ ⟨n,?_⟩;unfold u6;rw[show(((i+1:Nat):Int)-1)=(i:Int) by omega,amh (by omega),ai,amg (by omega)];dsimp only;rw[bH (x:=val (x.2.drop (i+1))*1000000000) (by omega) (by omega),bH (x:=x.2[i]) (by omega) (by omega),bH (by omega) (by omega),aO (by omega) (by omega)];rw[show val (x.2.drop (i+1))*1000000000+x.2[i]=x.2[i]+1000000000*val (x.2.drop (i+1)) by omega];exact ih
def P6:Cn 45 [y3Y]:=cn λ(x:Bool×List Int)=>lf (okI x) [.d apE (bif decide (aR (ab x))then ab x else 0),.d .bool (decide (aR (ab x)))] λh=>by
 refine a8 wd (show Jn.Res _ _ _ from ?_);obtain⟨x0,x1,x2⟩:=cp h;have o1:okI x/\okI (ah (-9223372036854775808)):=⟨h,by decide⟩
 have o2:okI x/\okI (ah 9223372036854775807):=⟨h,by decide⟩
 have hl:=h.2.2;by_cases h1:ab x< -9223372036854775808
 ·refine Td _ ⟨0,?_⟩;unfold JY;simp only[da,dec_enc,amh o1];rw[amh (show aR (-9223372036854775808) by decide),cQ h1,ami (show ¬aR (ab x) from λg=>by have:=g.1;omega)];rfl
 ·have c1:decide (bV (ab x) (-9223372036854775808)<0)=false:=by
   rcases aou (show-9223372036854775808<=ab x by omega)with g|g
   ·rw[cq g];rfl
   ·rw[<-g,dB];rfl
  by_cases h2:9223372036854775807<ab x
  ·refine Td _ ⟨0,?_⟩;unfold JY;simp only[da,dec_enc,amh o1,amh o2];rw[amh (show aR (-9223372036854775808) by decide),c1,amh (show aR 9223372036854775807 by decide),cq h2,ami (show ¬aR (ab x) from λg=>by have:=g.2;omega)];rfl
  ·have c2:decide (bV (ab x) 9223372036854775807>0)=false:=by
    rcases aou (show ab x<=9223372036854775807 by omega)with g|g
    ·rw[cQ g];rfl
    ·rw[g,dB];rfl
   have hp:aR (ab x):=⟨by omega,by omega⟩
   have hvv:val x.2<=9223372036854775808:=by
    have g1:=hp.1;have g2:=hp.2;have hd:ab x=bif x.1 then-val x.2 else val x.2:=rfl;cases hb:x.1<;>rw[hb]at hd<;>simp only[cond_true,cond_false]at hd<;>omega
   obtain⟨n,hN⟩:=DB x h hvv x.2.length (amm _);refine Td _ ⟨n,?_⟩;unfold JY;simp only[da,dec_enc,amh o1,amh o2];rw[amh (show aR (-9223372036854775808) by decide),c1,amh (show aR 9223372036854775807 by decide),c2,amh hp];rw[aoG]at hN;rw[aO (by omega) (by omega)];refine hN.trans ?_
   have hr:i64.wrap (bif x.1 then u64.wrap (0-val x.2)else val x.2)=ab x:=by
    have hd:ab x=bif x.1 then-val x.2 else val x.2:=rfl;have:=hp.1;have:=hp.2;cases hb:x.1<;>rw[hb]at hd<;>simp only[cond_true,cond_false]at hd ⊢
    ·rw[aO (by omega) (by omega)];omega
    ·have:=x1 hb;rw[am5,IntKind.wrap_i64];omega
   rw[hr];rfl
end Go.Proofs.YtmnlppieefomnaaGreatDoor
end
