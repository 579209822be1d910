/- rational: the operations. -/
import Derived.Test.YtoimchcjhdcdmaaGreatP9
noncomputable section
namespace Go.Proofs.YtoimchcjhdcdmaaGreat
open Go.RowKit Go.IntKind
open Bool renaming true->T',false->F'
open Option renaming some->S',none->Nn'
open Decidable renaming decide->D'
theorem aoE:type_of% @Rat.mul_nonneg:=@Rat.mul_nonneg
theorem aoH:type_of% @Rat.mul_pos:=@Rat.mul_pos
theorem aoP:type_of% @Rat.num_divInt_den:=@Rat.num_divInt_den
theorem ao5:type_of% @Quotient.inductionOn:=@Quotient.inductionOn
theorem ap2:type_of% @Quotient.inductionOn₃:=@Quotient.inductionOn₃
theorem aqd:type_of% @Rat.intCast_natCast:=@Rat.intCast_natCast
theorem aqj:type_of% @Rat.intCast_le_intCast:=@Rat.intCast_le_intCast
theorem aqx:type_of% @Int.mul_ne_zero:=@Int.mul_ne_zero
theorem aqy:type_of% @Rat.divInt_mul_divInt:=@Rat.divInt_mul_divInt
theorem aqz:type_of% @Quotient.inductionOn₂:=@Quotient.inductionOn₂
theorem aqA:type_of% @Rat.mul_comm:=@Rat.mul_comm
theorem aqB:type_of% @Rat.intCast_neg:=@Rat.intCast_neg
theorem aqI:type_of% @Quotient.sound:=@Quotient.sound
def aD(a b:Rat):Int:=bif D' (a<b)then-1 else bif D' (b<a)then 1 else 0
theorem ez{a b:Rat}(h:a<b):aD a b= -1:=by grind [aD]
theorem dM{a b:Rat}(h:b<a):aD a b=1:=by grind [aD]
theorem eF(a:Rat):aD a a=0:=by simp[aD]
theorem xI(a b:Rat):b8 (a.num*(b.den:Int)) (b.num*(a.den:Int))=aD a b:=by simp[b8,aD,Rat.lt_iff]
theorem vC(a:Rat):b8 a.num 0=aD a 0:=by
 rw[<-xI];simp
def Es:cE:=spN F' F' [y3Y,y3Y] (λx=>D' (jH x.1 x.2.1)) (λx=>[RV.d (.st (.pair y3Y y3Y)) (eZ x.1 x.2.1)])
theorem xR:SpK 201 Es:=spX λx h=>JN x.1 x.2.1 (anP h)
def ab7:NT:=[((107,3),{keep:=[0,1,8],hl:=0}),((107,5),{keep:=[0,1,5,10],hl:=0})]
def ahx:Ctx:=CX [] ab7
def abB(x y:Int)(_k:KT):OLR:=match x !=x with|T'=>(match y !=y with|T'=>S' [RV.d arf 0]|F'=>S' [RV.d arf (-1)])|F'=>(match y !=y with|T'=>S' [RV.d arf 1]|F'=>(match D' (x<y)with|T'=>S' [RV.d arf (-1)]|F'=>(match D' (x>y)with|T'=>S' [RV.d arf 1]|F'=>S' [RV.d arf 0])))
theorem ahr(x y:Int):RS ahx 107 [SI x,SI y] (abB x y):=rsX
theorem UX(x y:Int):CQq7 107 [.d arf x,.d arf y] [.d arf (b8 x y)]:=by
 refine fK (E:=[]) trivial (ahr _ _ ⟨0,?_⟩);unfold abB;rw[show(x !=x)=false by simp,show(y !=y)=false by simp];dsimp only;rcases Int.lt_trichotomy x y with h|h|h
 ·rw[c9 h,anO h]
 ·subst h;rw[dV,anQ (show ¬x<x by omega)]
 ·rw[cH h,anQ (show ¬x<y by omega),anO (show x>y from h)]
def CL:cE:=spN T' F' [arf,arf] (λ_=>T') (λx=>[RV.d arf (b8 x.1 x.2.1)])
theorem yX:SpK 107 CL:=spX λx _=>UX x.1 x.2.1
def If:Env:=[(269,pg),(178,vU),(108,sh),(202,qi),(273,vm),(109,vw),(193,yB),(201,Es),(107,CL)]
theorem BO:EnvAll Tryz.prog If:=⟨kY,pA,ng,lB,pQ,pH,te,xR,yX,trivial⟩
def alE:Ctx:=CX If []
def aku(x:Bool×List Int)(_k:KT):OLR:=S' [RV.d (.st (.pair y3Y y3Y)) (x,(ah 1))]
theorem aiv(x:Bool×List Int):RS alE 270 [.d y3Y x] (aku x):=rsX
theorem Wn(x:BI):CQq7 270 [.d y3Y x] [.d (.st (.pair y3Y y3Y)) (x,ah 1)]:=
 fK BO (aiv _ ⟨0,rfl⟩)
def HJ:cE:=spN F' F' [y3Y] (λ_=>T') (λx=>[RV.d (.st (.pair y3Y y3Y)) (x.1,ah 1)])
theorem Ey:SpK 270 HJ:=spX λx _=>Wn x.1
def akp:Ctx:=CX If []
def Zs(a:(Bool×List Int)×Bool×List Int)(_k:KT):OLR:=og (D' (okI a.1)) (S' [RV.d arf (b8 (ab a.1) 0)])
theorem ag6(a:(Bool×List Int)×Bool×List Int):RS akp 94 [.d (.st (.pair y3Y y3Y)) a] (Zs a):=rsX
theorem Ei(a:BR)(h:okR a):CQq7 94 [.d (.st (.pair y3Y y3Y)) a] [.d arf (aD (ag a) 0)]:=by
 refine fK BO (ag6 _ ⟨0,?_⟩);unfold Zs;rw[anO h.1,<-vC,(cN h).1]
def In:cE:=spN T' F' [(.st (.pair y3Y y3Y))] (λx=>D' (okR x.1)) (λx=>[RV.d arf (aD (ag x.1) 0)])
theorem EG:SpK 94 In:=spX λx h=>Ei x.1 (anP h)
def n4:Env:=[(269,pg),(178,vU),(108,sh),(202,qi),(273,vm),(109,vw),(193,yB),(201,Es),(107,CL),(270,HJ),(94,In)]
theorem iU:EnvAll Tryz.prog n4:=⟨kY,pA,ng,lB,pQ,pH,te,xR,yX,Ey,EG,trivial⟩
def aiD:Ctx:=CX n4 []
def aat(n:Int)(_k:KT):OLR:=og (D' (bH n)) (S' [RV.d (.st (.pair y3Y y3Y)) ((ah n),(ah 1))])
theorem ajw(n:Int):RS aiD 194 [SI n] (aat n):=rsX
def agO:Ctx:=CX n4 []
def ZE(a b:(Bool×List Int)×Bool×List Int)(_k:KT):OLR:=match D' (okR a)with|T'=>(match D' (okR b)with|T'=>(match(b8 (aD (ag a) 0) (aD (ag b) 0)) !=0 with|T'=>S' [RV.d arf (b8 (aD (ag a) 0) (aD (ag b) 0))]|F'=>(match D' (okI a.1/\okI b.2)with|T'=>(match D' (okI b.1/\okI a.2)with|T'=>(match D' (okI (ah (ab a.1*ab b.2))/\okI (ah (ab b.1*ab a.2)))with|T'=>S' [RV.d arf (b8 (ab (ah (ab a.1*ab b.2))) (ab (ah (ab b.1*ab a.2))))]|F'=>Nn')|F'=>Nn')|F'=>Nn'))|F'=>Nn')|F'=>Nn'
theorem akJ(a b:(Bool×List Int)×Bool×List Int):RS agO 46 [.d (.st (.pair y3Y y3Y)) a,.d (.st (.pair y3Y y3Y)) b] (ZE a b):=rsX
def ahd:Ctx:=CX n4 []
def Z3(a b:(Bool×List Int)×Bool×List Int)(_k:KT):OLR:=match D' (okI a.2/\okI b.2)with|T'=>(match(b8 (ab a.2) (ab b.2))==0 with|T'=>(match D' (okI a.1/\okI b.1)with|T'=>(match D' (jH (ah (ab a.1+ab b.1)) a.2)with|T'=>S' [RV.d (.st (.pair y3Y y3Y)) (((eZ (ah (ab a.1+ab b.1)) a.2).1),((eZ (ah (ab a.1+ab b.1)) a.2).2))]|F'=>Nn')|F'=>Nn')|F'=>(match D' (okI a.1/\okI b.2)with|T'=>(match D' (okI b.1/\okI a.2)with|T'=>(match D' (okI (ah (ab a.1*ab b.2))/\okI (ah (ab b.1*ab a.2)))with|T'=>(match D' (okI a.2/\okI b.2)with|T'=>(match D' (jH (ah (ab (ah (ab a.1*ab b.2))+ab (ah (ab b.1*ab a.2)))) (ah (ab a.2*ab b.2)))with|T'=>S' [RV.d (.st (.pair y3Y y3Y)) (((eZ (ah (ab (ah (ab a.1*ab b.2))+ab (ah (ab b.1*ab a.2)))) (ah (ab a.2*ab b.2))).1),((eZ (ah (ab (ah (ab a.1*ab b.2))+ab (ah (ab b.1*ab a.2)))) (ah (ab a.2*ab b.2))).2))]|F'=>Nn')|F'=>Nn')|F'=>Nn')|F'=>Nn')|F'=>Nn'))|F'=>Nn'
theorem alM(a b:(Bool×List Int)×Bool×List Int):RS ahd 122 [.d (.st (.pair y3Y y3Y)) a,.d (.st (.pair y3Y y3Y)) b] (Z3 a b):=rsX
def alQ:Ctx:=CX n4 []
def ZA(a:(Bool×List Int)×Bool×List Int)(_k:KT):OLR:=og (D' (okI a.1)) (S' [RV.d (.st (.pair y3Y y3Y)) ((ah (-ab a.1)),a.2)])
theorem alU(a:(Bool×List Int)×Bool×List Int):RS alQ 196 [.d (.st (.pair y3Y y3Y)) a] (ZA a):=rsX
def akP:Ctx:=CX n4 []
def aa7(a b:(Bool×List Int)×Bool×List Int)(_k:KT):OLR:=og (D' (okI a.1/\okI b.1)) (og (D' (okI a.2/\okI b.2)) (og (D' (jH (ah (ab a.1*ab b.1)) (ah (ab a.2*ab b.2)))) (S' [RV.d (.st (.pair y3Y y3Y)) (((eZ (ah (ab a.1*ab b.1)) (ah (ab a.2*ab b.2))).1),((eZ (ah (ab a.1*ab b.1)) (ah (ab a.2*ab b.2))).2))])))
theorem ahX(a b:(Bool×List Int)×Bool×List Int):RS akP 123 [.d (.st (.pair y3Y y3Y)) a,.d (.st (.pair y3Y y3Y)) b] (aa7 a b):=rsX
def ald:Ctx:=CX n4 []
def Zw(a b:(Bool×List Int)×Bool×List Int)(_k:KT):OLR:=match D' (okR b)with|T'=>(match(aD (ag b) 0)==0 with|T'=>S' [RV.d (.st (.pair y3Y y3Y)) ((F',[]),(F',[])),RV.d arf 6]|F'=>(match D' (okI a.1/\okI b.2)with|T'=>(match D' (okI a.2/\okI b.1)with|T'=>(match D' (jH (ah (ab a.1*ab b.2)) (ah (ab a.2*ab b.1)))with|T'=>S' [RV.d (.st (.pair y3Y y3Y)) (((eZ (ah (ab a.1*ab b.2)) (ah (ab a.2*ab b.1))).1),((eZ (ah (ab a.1*ab b.2)) (ah (ab a.2*ab b.1))).2)),RV.d arf 0]|F'=>Nn')|F'=>Nn')|F'=>Nn'))|F'=>Nn'
theorem al9(a b:(Bool×List Int)×Bool×List Int):RS ald 164 [.d (.st (.pair y3Y y3Y)) a,.d (.st (.pair y3Y y3Y)) b] (Zw a b):=rsX
theorem Ke(n:Int)(h:bH n):CQq7 194 [.d arf n] [.d (.st (.pair y3Y y3Y)) (av (n:Rat))]:=by
 refine fK iU (ajw _ ⟨0,?_⟩);unfold aat av;rw[anO h,Rat.num_intCast,Rat.den_intCast];rfl
theorem fZ{a:BR}(h:okR a):szI (ab a.1)<=480000/\szI (ab a.2)<=480000:=by
 have h1:=Cs h;grind [cN,bdR]
theorem LZ(a b:Rat):(b8 (aD a 0) (aD b 0)≠0->b8 (aD a 0) (aD b 0)=aD a b):=by
 rcases(by grind:a<0\/a=0\/0<a)with h1|h1|h1<;>rcases(by grind:b<0\/b=0\/0<b)with h2|h2|h2
 ·grind [ez,dV]
 ·rw[ez h1,h2,eF,ez h1];intro;rfl
 ·rw[ez h1,dM h2,ez (by grind)];intro;rfl
 ·rw[h1,eF,ez h2,dM h2];intro;rfl
 ·grind [eF,dV]
 ·rw[h1,eF,dM h2,ez h2];intro;rfl
 ·rw[dM h1,ez h2,dM (by grind)];intro;rfl
 ·rw[dM h1,h2,eF,dM h1];intro;rfl
 grind [dM,dV]
theorem Lg(a b:BR)(h:okR a/\okR b):CQq7 46 [.d (.st (.pair y3Y y3Y)) a,.d (.st (.pair y3Y y3Y)) b] [.d arf (aD (ag a) (ag b))]:=by
 refine fK iU (akJ _ _ ⟨0,?_⟩);obtain⟨ha,hb⟩:=h;obtain⟨a1,a2⟩:=cN ha;obtain⟨b1,b2⟩:=cN hb;obtain⟨sa1,sa2⟩:=fZ ha;obtain⟨sb1,sb2⟩:=fZ hb;have h1:=cK sa1 sb2;have h2:=cK sb1 sa2;unfold ZE;rw[anO ha,anO hb];dsimp only;have hs:=LZ (ag a) (ag b);by_cases hc:b8 (aD (ag a) 0) (aD (ag b) 0)=0
 ·rw[hc,anO (show okI a.1/\okI b.2 from⟨ha.1,hb.2.1⟩),anO (show okI b.1/\okI a.2 from⟨hb.1,ha.2.1⟩),anO (show okI (ah (ab a.1*ab b.2))/\okI (ah (ab b.1*ab a.2)) from⟨aS (by omega),aS (by omega)⟩),dec_enc,dec_enc,<-a1,<-a2,<-b1,<-b2,xI];rfl
 ·rw[show(b8 (aD (ag a) 0) (aD (ag b) 0) !=0)=T' by simpa using hc,hs hc]
theorem El(a:BR)(h:okR a):CQq7 196 [.d (.st (.pair y3Y y3Y)) a] [.d (.st (.pair y3Y y3Y)) (av (-ag a))]:=by
 refine fK iU (alU _ ⟨0,?_⟩);obtain⟨a1,a2⟩:=cN h;unfold ZA
 have e:av (-ag a)=(ah (-ab a.1),a.2):=by
  unfold av;rw[Rat.neg_num,a1,show((-ag a).den:Int)=((ag a).den:Int) from rfl,a2,<-iu h.2.1]
 rw[anO h.1,e]
theorem DU(a b:BR)(h:okR a/\okR b):CQq7 122 [.d (.st (.pair y3Y y3Y)) a,.d (.st (.pair y3Y y3Y)) b] [.d (.st (.pair y3Y y3Y)) (av (ag a+ag b))]:=by
 refine fK iU (alM _ _ ⟨0,?_⟩);obtain⟨ha,hb⟩:=h;obtain⟨a1,a2⟩:=cN ha;obtain⟨b1,b2⟩:=cN hb;obtain⟨sa1,sa2⟩:=fZ ha;obtain⟨sb1,sb2⟩:=fZ hb;have pa:=ha.2.2.1;have pb:=hb.2.2.1;have h1:=cK sa1 sb2;have h2:=cK sb1 sa2;have h3:=cK sa2 sb2;have h4:=w8 h1 h2;have h5:=w8 sa1 sb1;have hda:ag a=Rat.divInt (ab a.1) (ab a.2):=by rw[<-a1,<-a2,aoP]
 have hdb:ag b=Rat.divInt (ab b.1) (ab b.2):=by rw[<-b1,<-b2,aoP]
 unfold Z3;rw[anO (show okI a.2/\okI b.2 from⟨ha.2.1,hb.2.1⟩)];dsimp only;by_cases hc:ab a.2=ab b.2
 ·rw[hc,dV,anO (show okI a.1/\okI b.1 from⟨ha.1,hb.1⟩)];rw[anO (show jH (ah (ab a.1+ab b.1)) a.2 from⟨aS (by omega),ha.2.1,by omega⟩)]
  have e:eZ (ah (ab a.1+ab b.1)) a.2=av (ag a+ag b):=by
   unfold eZ;rw[dec_enc,hda,hdb,<-hc,Rat.divInt_eq_div,Rat.divInt_eq_div,Rat.divInt_eq_div,Rat.intCast_add];congr 1;grind
  rw[e];rfl
 ·have hcm:(b8 (ab a.2) (ab b.2)==0)=false:=by
   rcases ap0 hc with h|h
   ·rw[c9 h];rfl
   ·rw[cH h];rfl
  rw[hcm,anO (show okI a.1/\okI b.2 from⟨ha.1,hb.2.1⟩),anO (show okI b.1/\okI a.2 from⟨hb.1,ha.2.1⟩),anO (show okI (ah (ab a.1*ab b.2))/\okI (ah (ab b.1*ab a.2)) from⟨aS (by omega),aS (by omega)⟩)];simp only[dec_enc];rw[anO (show jH (ah (ab a.1*ab b.2+ab b.1*ab a.2)) (ah (ab a.2*ab b.2)) from⟨aS (by omega),aS (by omega),by rw[dec_enc];exact aqx (by omega) (by omega)⟩)]
  have e:eZ (ah (ab a.1*ab b.2+ab b.1*ab a.2)) (ah (ab a.2*ab b.2))=av (ag a+ag b):=by
   unfold eZ;rw[dec_enc,dec_enc,hda,hdb,Rat.divInt_add_divInt _ _ (by omega) (by omega)]
  rw[e]
theorem Lz(a b:BR)(h:okR a/\okR b):CQq7 123 [.d (.st (.pair y3Y y3Y)) a,.d (.st (.pair y3Y y3Y)) b] [.d (.st (.pair y3Y y3Y)) (av (ag a*ag b))]:=by
 refine fK iU (ahX _ _ ⟨0,?_⟩);obtain⟨ha,hb⟩:=h;obtain⟨a1,a2⟩:=cN ha;obtain⟨b1,b2⟩:=cN hb;obtain⟨sa1,sa2⟩:=fZ ha;obtain⟨sb1,sb2⟩:=fZ hb;have pa:=ha.2.2.1;have pb:=hb.2.2.1;have h1:=cK sa1 sb1;have h3:=cK sa2 sb2;have hda:ag a=Rat.divInt (ab a.1) (ab a.2):=by rw[<-a1,<-a2,aoP]
 have hdb:ag b=Rat.divInt (ab b.1) (ab b.2):=by rw[<-b1,<-b2,aoP]
 unfold aa7;rw[anO (show okI a.1/\okI b.1 from⟨ha.1,hb.1⟩),anO (show okI a.2/\okI b.2 from⟨ha.2.1,hb.2.1⟩),anO (show jH (ah (ab a.1*ab b.1)) (ah (ab a.2*ab b.2)) from⟨aS (by omega),aS (by omega),by rw[dec_enc];exact aqx (by omega) (by omega)⟩)]
 have e:eZ (ah (ab a.1*ab b.1)) (ah (ab a.2*ab b.2))=av (ag a*ag b):=by
  unfold eZ;rw[dec_enc,dec_enc,hda,hdb,aqy]
 rw[e]
def jX(a b:BR):Prop:=okR a/\okR b/\ab b.1≠0
instance (a b:BR):Decidable (jX a b):=by unfold jX;infer_instance
theorem Ka(a b:BR)(h:jX a b):CQq7 164 [.d (.st (.pair y3Y y3Y)) a,.d (.st (.pair y3Y y3Y)) b] [.d (.st (.pair y3Y y3Y)) (av (ag a/ag b)),.d arf 0]:=by
 refine fK iU (al9 _ _ ⟨0,?_⟩);obtain⟨ha,hb,hne⟩:=h;obtain⟨a1,a2⟩:=cN ha;obtain⟨b1,b2⟩:=cN hb;obtain⟨sa1,sa2⟩:=fZ ha;obtain⟨sb1,sb2⟩:=fZ hb;have pa:=ha.2.2.1;have h1:=cK sa1 sb2;have h3:=cK sa2 sb1;have hda:ag a=Rat.divInt (ab a.1) (ab a.2):=by rw[<-a1,<-a2,aoP]
 have hdb:ag b=Rat.divInt (ab b.1) (ab b.2):=by rw[<-b1,<-b2,aoP]
 have hnz:(aD (ag b) 0==0)=false:=by
  rw[<-vC,b1];rcases ap0 hne with h|h
  ·rw[c9 h];rfl
  ·rw[cH h];rfl
 unfold Zw;rw[anO hb,hnz,anO (show okI a.1/\okI b.2 from⟨ha.1,hb.2.1⟩),anO (show okI a.2/\okI b.1 from⟨ha.2.1,hb.1⟩),anO (show jH (ah (ab a.1*ab b.2)) (ah (ab a.2*ab b.1)) from⟨aS (by omega),aS (by omega),by rw[dec_enc];exact aqx (by omega) hne⟩)]
 have e:eZ (ah (ab a.1*ab b.2)) (ah (ab a.2*ab b.1))=av (ag a/ag b):=by
  unfold eZ;rw[dec_enc,dec_enc,hda,hdb,Rat.div_def,Rat.inv_divInt,aqy]
 rw[e]
def OJ:cE:=spN F' F' [(.st (.pair y3Y y3Y)),(.st (.pair y3Y y3Y))] (λx=>D' (okR x.1/\okR x.2.1)) (λx=>[RV.d (.st (.pair y3Y y3Y)) (av (ag x.1+ag x.2.1))])
theorem QU:SpK 122 OJ:=spX λx h=>DU x.1 x.2.1 (anP h)
def NP:cE:=spN F' F' [(.st (.pair y3Y y3Y))] (λx=>D' (okR x.1)) (λx=>[RV.d (.st (.pair y3Y y3Y)) (av (-ag x.1))])
theorem OL:SpK 196 NP:=spX λx h=>El x.1 (anP h)
def Jo:Env:=[(269,pg),(178,vU),(108,sh),(202,qi),(273,vm),(109,vw),(193,yB),(201,Es),(107,CL),(270,HJ),(94,In),(122,OJ),(196,NP)]
theorem HZ:EnvAll Tryz.prog Jo:=⟨kY,pA,ng,lB,pQ,pH,te,xR,yX,Ey,EG,QU,OL,trivial⟩
def ag2:Ctx:=CX Jo []
def Y1(a b:(Bool×List Int)×Bool×List Int)(_k:KT):OLR:=match D' (okR b)with|T'=>(match D' (okR a/\okR (av (-ag b)))with|T'=>S' [RV.d (.st (.pair y3Y y3Y)) (((av (ag a+ag (av (-ag b)))).1),((av (ag a+ag (av (-ag b)))).2))]|F'=>Nn')|F'=>Nn'
theorem akX(a b:(Bool×List Int)×Bool×List Int):RS ag2 165 [.d (.st (.pair y3Y y3Y)) a,.d (.st (.pair y3Y y3Y)) b] (Y1 a b):=rsX
theorem JH(a b:BR)(h:okR a/\okR b):CQq7 165 [.d (.st (.pair y3Y y3Y)) a,.d (.st (.pair y3Y y3Y)) b] [.d (.st (.pair y3Y y3Y)) (av (ag a-ag b))]:=by
 refine fK HZ (akX _ _ ⟨0,?_⟩);obtain⟨ha,hb⟩:=h;unfold Y1;rw[anO hb,eP,aqo,anO (show okR a/\okR (av (-ag b)) from⟨ha,qO (xk (Cs hb)) (anT _)⟩)]
section
namespace RL
theorem ks{x y B e:Rat}(h1:x<B)(h2: -B<x)(h3:y<e)(h4: -e<y):x*y<B*e:=by
 have p:=aoH (a:=B-x) (b:=e+y) (by grind) (by grind);have q:=aoH (a:=B+x) (b:=e-y) (by grind) (by grind);grind
theorem abM{e:Rat}(h:0<e):0<e/2:=by grind
theorem Bs{e B:Rat}(h:0<e)(hB:0<B):∃d,0<d/\B*d+B*d<e:=by
 refine⟨e/(4*B),?_,?_⟩
 ·exact aoH h (Rat.inv_pos.2 (by grind))
 ·have:B*(e/(4*B))=e/4:=by grind
  grind
structure CS where
 f:Nat->Rat
 cau:∀e:Rat,0<e->∃N,∀m n,N<=m->N<=n->f m-f n<e
theorem CS.bd(a:CS):∃B:Rat,0<B/\∃N,∀n,N<=n-> -B<a.f n/\a.f n<B:=by
 obtain⟨N,h⟩:=a.cau 1 (by grind);refine⟨(if 0<=a.f N then a.f N else-a.f N)+1,?_,N,λn hn=>?_⟩
 ·split<;>grind
 ·have h1:=h n N hn (anT _);have h2:=h N n (anT _) hn;split<;>grind
def add(a b:CS):CS:=⟨λn=>a.f n+b.f n,λe he=>by
 obtain⟨N,h⟩:=a.cau (e/2) (by grind);obtain⟨M,h'⟩:=b.cau (e/2) (by grind);refine⟨max N M,λm n hm hn=>?_⟩;have:=h m n (by omega) (by omega);have:=h' m n (by omega) (by omega);grind⟩
def neg(a:CS):CS:=⟨λn=> -a.f n,λe he=>by
 obtain⟨N,h⟩:=a.cau e he;exact⟨N,λm n hm hn=>by have:=h n m hn hm;grind⟩⟩
theorem TF(a b:CS)(e:Rat)(he:0<e):∃N,∀m n,N<=m->N<=n->a.f m*b.f m-a.f n*b.f n<e:=by
 obtain⟨A,hA,N1,h1⟩:=a.bd;obtain⟨B,hB,N2,h2⟩:=b.bd;obtain⟨d,hd,hd'⟩:=Bs (e:=e) (B:=A+B) he (by grind);obtain⟨N3,h3⟩:=a.cau d hd;obtain⟨N4,h4⟩:=b.cau d hd;refine⟨max (max N1 N2) (max N3 N4),λm n hm hn=>?_⟩;have a1:=h1 m (by omega);have b1:=h2 n (by omega);have p:=ks a1.2 a1.1 (h4 m n (by omega) (by omega)) (by have:=h4 n m (by omega) (by omega);grind);have q:=ks b1.2 b1.1 (h3 m n (by omega) (by omega)) (by have:=h3 n m (by omega) (by omega);grind);have r:=aoH hA hd;have s:=aoH hB hd;grind
def mul(a b:CS):CS:=⟨λn=>a.f n*b.f n,TF a b⟩
def eqv(a b:CS):Prop:=∀e:Rat,0<e->∃N,∀n,N<=n->a.f n-b.f n<e/\b.f n-a.f n<e
instance st:Setoid CS where
 r:=eqv
 iseqv:=⟨λa e he=>⟨0,λn _=>by grind⟩,λh e he=>by
   obtain⟨N,h⟩:=h e he;exact⟨N,λn hn=>⟨(h n hn).2,(h n hn).1⟩⟩,
  λh h' e he=>by
  obtain⟨N,h⟩:=h (e/2) (by grind);obtain⟨M,h'⟩:=h' (e/2) (by grind);refine⟨max N M,λn hn=>?_⟩;have:=h n (by omega);have:=h' n (by omega);grind⟩
def const(q:Rat):CS:=⟨λ_=>q,λe he=>⟨0,λm n _ _=>by grind⟩⟩
end RL
def RE:Type:=Quotient RL.st
namespace RE
open RL
def of(q:Rat):RE:=Quotient.mk _ (const q)
theorem acx(a b a' b':CS)(h:a≈a')(h':b≈b'):add a b≈add a' b':=λe he=>by
 obtain⟨N,h⟩:=h (e/2) (by grind);obtain⟨M,h'⟩:=h' (e/2) (by grind);refine⟨max N M,λn hn=>?_⟩;have:=h n (by omega);have:=h' n (by omega);simp only[RL.add];grind
theorem aeT(a a':CS)(h:a≈a'):neg a≈neg a':=λe he=>by
 obtain⟨N,h⟩:=h e he;refine⟨N,λn hn=>?_⟩;have:=h n (by omega);simp only[RL.neg];grind
theorem afe(a b a' b':CS)(h:a≈a')(h':b≈b'):mul a b≈mul a' b':=λe he=>by
 obtain⟨A,hA,N1,h1⟩:=a.bd;obtain⟨B,hB,N2,h2⟩:=b'.bd;obtain⟨d,hd,hd'⟩:=Bs (e:=e) (B:=A+B) he (by grind);obtain⟨N3,h3⟩:=h d hd;obtain⟨N4,h4⟩:=h' d hd;refine⟨max (max N1 N2) (max N3 N4),λn hn=>?_⟩;have a1:=h1 n (by omega);have b1:=h2 n (by omega);have a3:=h3 n (by omega);have b3:=h4 n (by omega);have p:=ks a1.2 a1.1 (y:=b.f n-b'.f n) b3.1 (by grind);have q:=ks b1.2 b1.1 (y:=a.f n-a'.f n) a3.1 (by grind);have p':=ks a1.2 a1.1 (y:=b'.f n-b.f n) b3.2 (by grind);have q':=ks b1.2 b1.1 (y:=a'.f n-a.f n) a3.2 (by grind);have r:=aoH hA hd;have s:=aoH hB hd;simp only[RL.mul];constructor<;>grind
instance:Add RE:=⟨Quotient.lift₂ (λa b=>Quotient.mk _ (add a b)) (λ_ _ _ _ h h'=>aqI (acx _ _ _ _ h h'))⟩
instance:Neg RE:=⟨Quotient.lift (λa=>Quotient.mk _ (neg a)) (λ_ _ h=>aqI (aeT _ _ h))⟩
instance:Sub RE:=⟨λa b=>a+ -b⟩
instance:Mul RE:=⟨Quotient.lift₂ (λa b=>Quotient.mk _ (mul a b)) (λ_ _ _ _ h h'=>aqI (afe _ _ _ _ h h'))⟩
theorem snd{a b:CS}(h:∀n,a.f n=b.f n):(Quotient.mk st a:RE)=Quotient.mk st b:=
 aqI λe he=>⟨0,λn _=>by rw[h n];grind⟩
instance (n:Nat):OfNat RE n:=⟨of (OfNat.ofNat n)⟩
theorem of_add(a b:Rat):of (a+b)=of a+of b:=rfl
theorem bR(a b:Rat):of (a*b)=of a*of b:=rfl
theorem of_neg(a:Rat):of (-a)= -of a:=rfl
theorem of_sub(a b:Rat):of (a-b)=of a-of b:=by rw[aqo];rfl
theorem qk:of 0=0:=rfl
theorem RW:of 1=1:=rfl
theorem add_zero(a:RE):a+0=a:=by
 induction a using ao5;exact snd λn=>Rat.add_zero _
theorem add_comm(a b:RE):a+b=b+a:=by
 induction a,b using aqz;exact snd λn=>Rat.add_comm _ _
theorem add_assoc(a b c:RE):a+b+c=a+(b+c):=by
 induction a,b,c using ap2;exact snd λn=>Rat.add_assoc _ _ _
theorem mul_assoc(a b c:RE):a*b*c=a*(b*c):=by
 induction a,b,c using ap2;exact snd λn=>Rat.mul_assoc _ _ _
theorem mul_comm(a b:RE):a*b=b*a:=by
 induction a,b using aqz;exact snd λn=>aqA _ _
theorem mul_one(a:RE):a*1=a:=by
 induction a using ao5;exact snd λn=>Rat.mul_one _
theorem mul_zero(a:RE):a*0=0:=by
 induction a using ao5;exact snd λn=>Rat.mul_zero _
theorem left_distrib(a b c:RE):a*(b+c)=a*b+a*c:=by
 induction a,b,c using ap2;exact snd λn=>Rat.mul_add _ _ _
theorem Dx(a:RE): -a+a=0:=by
 induction a using ao5;exact snd λn=>Rat.neg_add_cancel _
def clt(a b:CS):Prop:=∃e:Rat,0<e/\∃N,∀n,N<=n->a.f n+e<b.f n
theorem NK(a b a' b':CS)(h:a≈a')(h':b≈b')(hl:clt a b):clt a' b':=by
 obtain⟨e,he,N,hl⟩:=hl;obtain⟨N1,h⟩:=h (e/4) (by grind);obtain⟨N2,h'⟩:=h' (e/4) (by grind);refine⟨e/2,by grind,max N (max N1 N2),λn hn=>?_⟩;have:=hl n (by omega);have:=h n (by omega);have:=h' n (by omega);grind
instance:LT RE:=⟨Quotient.lift₂ clt (λ_ _ _ _ h h'=>propext ⟨NK _ _ _ _ h h',NK _ _ _ _ (Setoid.symm h) (Setoid.symm h')⟩)⟩
instance:LE RE:=⟨λa b=>¬b<a⟩
theorem lt_irrefl(a:RE):¬a<a:=by
 induction a using ao5
 rintro ⟨e,he,N,h⟩
 have:=h N (anT _);grind
theorem eh{a b c:RE}:a<b->b<c->a<c:=by
 induction a,b,c using ap2
 rintro ⟨e,he,N,h⟩ ⟨e',he',N',h'⟩
 refine⟨e,he,max N N',λn hn=>?_⟩;have:=h n (by omega);have:=h' n (by omega);grind
theorem lR(a b:RE):a<b\/a=b\/b<a:=by
 induction a,b using aqz
 rename_i a b;by_cases h1:clt a b
 ·exact .inl h1
 by_cases h2:clt b a
 ·exact .inr (.inr h2)
 refine .inr (.inl (aqI λe he=>?_));obtain⟨N,ha⟩:=a.cau (e/4) (by grind);obtain⟨M,hb⟩:=b.cau (e/4) (by grind)
 have g1:∃n,max N M<=n/\b.f n<=a.f n+e/4:=by
  apply an9;intro hc
  exact h1 ⟨e/4,by grind,max N M,λn hn=>by
   apply an9;intro h;exact hc ⟨n,hn,by grind⟩⟩
 have g2:∃n,max N M<=n/\a.f n<=b.f n+e/4:=by
  apply an9;intro hc
  exact h2 ⟨e/4,by grind,max N M,λn hn=>by
   apply an9;intro h;exact hc ⟨n,hn,by grind⟩⟩
 obtain⟨p,hp,gp⟩:=g1;obtain⟨q,hq,gq⟩:=g2;refine⟨max N M,λn hn=>?_⟩;have a1:=ha n q (by omega) (by omega);have b1:=hb q n (by omega) (by omega);have a2:=ha p n (by omega) (by omega);have b2:=hb n p (by omega) (by omega);constructor<;>grind
theorem n6{a b:RE}(c:RE):a<b->a+c<b+c:=by
 induction a,b,c using ap2
 rintro ⟨e,he,N,h⟩
 refine⟨e,he,N,λn hn=>?_⟩;have:=h n hn;simp only[RL.add];grind
theorem mul_pos{a b:RE}:0<a->0<b->0<a*b:=by
 induction a,b using aqz
 rintro ⟨e,he,N,h⟩ ⟨e',he',N',h'⟩
 refine⟨e*e',aoH he he',max N N',λn hn=>?_⟩;have h1:=h n (by omega);have h2:=h' n (by omega);simp only[RL.const]at h1 h2 ⊢;rename_i a b;have p:=aoH (a:=a.f n-e) (b:=b.f n-e') (by grind) (by grind);have q:=aoH (a:=a.f n-e) (b:=e') (by grind) (by grind);have r:=aoH (a:=e) (b:=b.f n-e') (by grind) (by grind);simp only[RL.mul];grind
theorem ll{a b:Rat}(h:a<b):of a<of b:=⟨(b-a)/2,by grind,0,λn _=>by simp only[RL.const];grind⟩
end RE
end
section
namespace RE
open RL
theorem sw(a b:RE):a<=b↔¬b<a:=Iff.rfl
theorem le_of_lt{a b:RE}(h:a<b):a<=b:=λh'=>lt_irrefl a (eh h h')
theorem lt_or_ge(a b:RE):a<b\/b<=a:=by
 by_cases h:a<b
 ·exact .inl h
 ·exact .inr h
theorem le_antisymm{a b:RE}(h1:a<=b)(h2:b<=a):a=b:=by
 rcases lR a b with h|h|h
 ·exact absurd h h2
 ·exact h
 ·exact absurd h h1
theorem le_trans{a b c:RE}(h1:a<=b)(h2:b<=c):a<=c:=λh=>by
 rcases lR a b with h'|h'|h'
 ·exact h2 (eh h h')
 ·subst h';exact h2 h
 ·exact h1 h'
theorem zero_lt_one:(0:RE)<1:=ll (by decide+kernel:(0:Rat)<1)
theorem lL(a:RE):a+ -a=0:=by rw[add_comm,Dx]
theorem uT{a:RE}(h:a<0):0< -a:=by
 have:=n6 (-a) h;rw[lL,add_comm,add_zero]at this;exact this
theorem acO{a:RE}(h:0<a): -a<0:=by
 have:=n6 (-a) h;rw[lL,add_comm,add_zero]at this;exact this
instance:Std.IsLinearOrder RE where
 le_refl a:=lt_irrefl a
 le_trans _ _ _:=le_trans
 le_antisymm _ _:=le_antisymm
 le_total a b:=by
  rcases lt_or_ge a b with h|h
  ·exact .inl (le_of_lt h)
  ·exact .inr h
instance:Std.LawfulOrderLT RE where
 lt_iff a b:=⟨λh=>⟨le_of_lt h,λh'=>h' h⟩,λh=>by
  rcases lt_or_ge a b with h'|h'
  ·exact h'
  ·exact absurd h' h.2⟩
theorem xE{a b:RE}:¬a<=b↔b<a:=⟨λh=>by
  rcases lt_or_ge b a with h'|h'
  ·exact h'
  ·exact absurd h' h,λh h'=>h' h⟩
theorem bE{a b:RE}(h:a<b):0<b-a:=by
 have:=n6 (-a) h;rw[lL]at this;exact this
theorem aK{a b:RE}(h:a<=b):0<=b-a:=λh'=>h (by
 have:=n6 a h'
 have e:b-a+a=b:=by
  show b+ -a+a=b;rw[add_assoc,Dx,add_zero]
 rw[e,add_comm,add_zero]at this;exact this)
theorem pV{a:RE}(h:0<=a):0<a\/a=0:=by
 rcases lR 0 a with h'|h'|h'
 ·exact .inl h'
 ·exact .inr h'.symm
 ·exact absurd h' h
theorem le_refl(a:RE):a<=a:=lt_irrefl a
theorem tZ{a b:RE}(h:a=b):a<=b:=by rw[h];exact le_refl _
theorem uo{a b:RE}(h:a=b):b<=a:=by rw[h];exact le_refl _
theorem zero_mul(a:RE):0*a=0:=by rw[mul_comm,mul_zero]
theorem zero_add(a:RE):0+a=a:=by rw[add_comm,add_zero]
theorem one_mul(a:RE):1*a=a:=by rw[mul_comm,mul_one]
theorem cr{a b:RE}(h:0<=a)(h':0<=b):0<=a*b:=by
 rcases pV h with h1|h1
 ·rcases pV h' with h2|h2
  ·exact le_of_lt (mul_pos h1 h2)
  ·rw[h2,mul_zero];exact le_refl _
 ·rw[h1,zero_mul];exact le_refl _
theorem aW{a b:RE}(h:0<a)(h':0<=b):0<a+b:=by
 have:=n6 b h;rw[zero_add]at this;rcases pV h' with h2|h2
 ·exact eh h2 this
 ·rw[h2,add_zero];exact h
theorem Hy(a:RE):0<=a*a:=by
 rcases lt_or_ge a 0 with h|h
 ·have h1:=uT h;have h2:=mul_pos h1 h1
  have e: -a* -a=a*a:=by
   induction a using ao5
   exact snd λn=>by show-_* -_=_*_;grind
  rw[e]at h2;exact le_of_lt h2
 ·exact cr h h
instance:NatCast RE:=⟨λn=>of (n:Rat)⟩
instance:IntCast RE:=⟨λn=>of (n:Rat)⟩
instance:SMul Nat RE:=⟨λn a=>of (n:Rat)*a⟩
instance:SMul Int RE:=⟨λn a=>of (n:Rat)*a⟩
def pw(a:RE):Nat->RE
 |0=>1
 |n+1=>pw a n*a
instance:Pow RE Nat:=⟨pw⟩
instance:Lean.Grind.CommRing RE where
 add_zero:=add_zero
 add_comm:=add_comm
 add_assoc:=add_assoc
 mul_assoc:=mul_assoc
 mul_one:=mul_one
 mul_comm:=mul_comm
 left_distrib:=left_distrib
 mul_zero:=mul_zero
 zero_mul:=zero_mul
 one_mul:=one_mul
 right_distrib a b c:=by rw[mul_comm,left_distrib,mul_comm c,mul_comm c]
 pow_zero _:=rfl
 pow_succ _ _:=rfl
 ofNat_succ n:=by
  show of ((OfNat.ofNat (n+1):Rat))=of ((OfNat.ofNat n:Rat))+of 1;rw[<-of_add];congr 1;show(((n+1:Nat):Rat))=((n:Nat):Rat)+1;rw[Rat.natCast_add];rfl
 ofNat_eq_natCast _:=rfl
 nsmul_eq_natCast_mul _ _:=rfl
 neg_add_cancel:=Dx
 sub_eq_add_neg _ _:=rfl
 neg_zsmul i a:=by
  show of ((-i:Int):Rat)*a= -(of (i:Rat)*a)
  rw[aqB,of_neg];induction a using ao5
  exact snd λn=>by show-_*_= -(_*_);grind
 zsmul_natCast_eq_nsmul _ _:=rfl
 intCast_ofNat _:=rfl
 intCast_neg i:=by show of _= -of _;rw[aqB,of_neg]
theorem JF{a b c:RE}(h:a<b)(hc:0<c):c*a<c*b:=by
 have h1:=n6 (-a) h;rw[lL]at h1;have h2:=n6 (c*a) (mul_pos hc h1);rwa [show c*(b+ -a)+c*a=c*b by grind,zero_add]at h2
instance:Lean.Grind.OrderedRing RE where
 add_le_left_iff {a b} c:=⟨λh h'=>h (by
   have:=n6 (-c) h';rw[add_assoc,add_assoc,lL,add_zero,add_zero]at this;exact this),λh h'=>h (n6 c h')⟩
 zero_lt_one:=zero_lt_one
 mul_lt_mul_of_pos_left:=JF
 mul_lt_mul_of_pos_right {a b c} h hc:=by
  rw[mul_comm a,mul_comm b];exact JF h hc
theorem Kc{c:Rat}(hc:(0:Rat)<c){a:RE}(h:0<a):0<of c*a:=mul_pos (ll hc) h
theorem lQ{c:Rat}(hc:(0:Rat)<c){a:RE}(h:0<=a):0<=of c*a:=cr (le_of_lt (ll hc)) h
theorem far{s:RE}(h:0<s)(e:s=0):False:=by rw[e]at h;exact lt_irrefl _ h
theorem Wm(x y:RE):((y*y-(x*x)))+((x-(0))*(x-(y)))+((y-(0))*(x-(y)))=0:=by grind
theorem sq_lt(x y:RE)(h1:0<=x)(h2:0<=y)(h3:x*x<y*y):x<y:=xE.1 λhg=>far (aW (aW (bE h3) (cr (aK h1) (aK hg))) (cr (aK h2) (aK hg))) (Wm x y)
theorem VH(x y:RE):((x-(y))*(x-(y)))+((y*y-(x*x)))+2*((y-(0))*(x-(y)))=0:=by grind
theorem Of(x y:RE)(_h1:0<=x)(h2:0<=y)(h3:x*x<=y*y):x<=y:=λhg=>far (aW (aW (mul_pos (bE hg) (bE hg)) (aK h3)) (lQ (by decide+kernel:(0:Rat)<2) (cr (aK h2) (le_of_lt (bE hg))))) (VH x y)
theorem MO(x y:RE):((x*x-(y*y)))+2*((x-(0))*(y-(x)))+((y-(x))*(y-(x)))=0:=by grind
theorem t7(x y:RE)(h1:0<=x)(h2:x<=y):x*x<=y*y:=λhg=>far (aW (aW (bE hg) (lQ (by decide+kernel:(0:Rat)<2) (cr (aK h1) (aK h2)))) (cr (aK h2) (aK h2))) (MO x y)
theorem aea(x y:RE):((y-(x))*(y-(x)))+((x*x-(y*y)))+2*((x-(0))*(y-(x)))=0:=by grind
theorem Q5(x y:RE):((x-(y))*(x-(y)))+((y*y-(x*x)))+2*((y-(0))*(x-(y)))=0:=by grind
theorem ae7(x y:RE)(_h1:0<=x)(h2:0<=y)(h3:x*x=y*y):x<=y:=λhg=>far (aW (aW (mul_pos (bE hg) (bE hg)) (aK (tZ h3))) (lQ (by decide+kernel:(0:Rat)<2) (cr (aK h2) (le_of_lt (bE hg))))) (Q5 x y)
theorem M7(x y:RE):((y-(x))*(y-(x)))+((x*x-(y*y)))+2*((x-(0))*(y-(x)))=0:=by grind
theorem ack(x y:RE)(h1:0<=x)(_h2:0<=y)(h3:x*x=y*y):y<=x:=λhg=>far (aW (aW (mul_pos (bE hg) (bE hg)) (aK (uo h3))) (lQ (by decide+kernel:(0:Rat)<2) (cr (aK h1) (le_of_lt (bE hg))))) (M7 x y)
theorem abI(x y:RE)(h1:0<=x)(h2:0<=y)(h3:x*x=y*y):x=y:=le_antisymm (ae7 x y h1 h2 h3) (ack x y h1 h2 h3)
end RE
end
section
namespace RE
open RL
theorem akY(q:Rat):∃k:Nat,q<(k:Rat):=by
 refine⟨(q.floor+1).toNat,?_⟩;have h1:q<((q.floor+1:Int):Rat):=(Rat.floor_lt_iff).1 (by omega);have h2:((q.floor+1:Int):Rat)<=(((q.floor+1).toNat:Int):Rat):=aqj.2 (by omega);have h3:(((q.floor+1).toNat:Int):Rat)=(((q.floor+1).toNat:Nat):Rat):=aqd _;rw[h3]at h2;grind
theorem Vp(g d:Rat)(hg:0<=g)(hd:0<d):∃s:Rat,0<=s/\s*s<=g/\g<(s+d)*(s+d):=by
 apply an9;intro hn
 have step:∀k:Nat,((k:Rat)*d)*((k:Rat)*d)<=g:=by
  intro k;induction k with
  |zero=>rw[show((0:Nat):Rat)=0 from rfl];grind
  |succ k ih=>
   apply an9;intro hc;refine hn ⟨(k:Rat)*d,?_,ih,?_⟩
   ·have:(0:Rat)<=(k:Rat):=by
     have:=Rat.intCast_nonneg.2 (show(0:Int)<=(k:Int) by omega);rwa [aqd]at this
    exact aoE this (by grind)
   ·have e:(((k+1:Nat)):Rat)=(k:Rat)+1:=by rw[Rat.natCast_add];rfl
    rw[e]at hc;grind
 obtain⟨k,hk⟩:=akY ((g+1)/d)
 have h1:g+1<(k:Rat)*d:=by
  have:=aoH (show 0<(k:Rat)-(g+1)/d by grind) hd;have e:((k:Rat)-(g+1)/d)*d=(k:Rat)*d-(g+1):=by grind
  grind
 have h2:=step k;have h3:=aoH (show 0<(k:Rat)*d-(g+1) by grind) (show 0<(k:Rat)*d by grind);have h4:=aoH (show 0<(k:Rat)*d-(g+1) by grind) (show 0<g+1 by grind);have h5:=aoE hg hg;clear hn step hk;generalize (k:Rat)*d=t at h1 h2 h3 h4;grind
def eps(n:Nat):Rat:=1/((n:Rat)+1)
theorem rJ(n:Nat):(0:Rat)<=(n:Rat):=by
 have:=Rat.intCast_nonneg.2 (show(0:Int)<=(n:Int) by omega);rwa [aqd]at this
theorem tJ(n:Nat):0<eps n:=by
 have:=rJ n;exact aoH (by grind) (Rat.inv_pos.2 (by grind))
theorem Bf(e:Rat)(he:0<e):∃N,∀n,N<=n->eps n<e:=by
 obtain⟨N,hN⟩:=akY (1/e);refine⟨N,λn hn=>?_⟩;have h0:=rJ n
 have h1:(N:Rat)<=(n:Rat):=by
  have:=aqj.2 (show(N:Int)<=(n:Int) by omega);rwa [aqd,aqd]at this
 have h2:1/e<(n:Rat)+1:=by grind
 have h3:=aoH (show 0<(n:Rat)+1-1/e by grind) (aoH he (tJ n));unfold eps at h3 ⊢
 have e1:((n:Rat)+1-1/e)*(e*(1/((n:Rat)+1)))=e-1/((n:Rat)+1):=by
  have:(n:Rat)+1≠0:=by grind
  have:e≠0:=by grind
  grind
 grind
theorem G5(n:Nat):eps n<=1:=by
 have h0:=rJ n;have:=tJ n;unfold eps at*
 have h3:=aoE h0 (show(0:Rat)<=1/((n:Rat)+1) by grind)
 have e1:(n:Rat)*(1/((n:Rat)+1))=1-1/((n:Rat)+1):=by
  have:(n:Rat)+1≠0:=by grind
  grind
 grind
theorem Tq{a b:Rat}(ha:0<=a)(hb:0<=b)(h:a*a<b*b):a<b:=by
 apply an9;intro hc;have:=aoE (show 0<=a-b by grind) (show 0<=a+b by grind);grind
theorem CY(x:RE)(hx:0<=x):∃y:RE,0<=y/\y*y=x:=by
 induction x using ao5
 rename_i f
 have hc:∀n,∃s:Rat,0<=s/\s*s<=(if 0<=f.f n then f.f n else 0)/\(if 0<=f.f n then f.f n else 0)<(s+eps n)*(s+eps n):=λn=>
  Vp _ _ (by split<;>grind) (tJ n)
 let g:Nat->Rat:=λn=>if 0<=f.f n then f.f n else 0
 let s:Nat->Rat:=λn=>Classical.choose (hc n)
 have hs:∀n,0<=s n/\s n*s n<=g n/\g n<(s n+eps n)*(s n+eps n):=λn=>aph (hc n)
 have hg:∀m n,g m-g n<=(if 0<=f.f m-f.f n then f.f m-f.f n else 0):=λm n=>by
  show(if 0<=f.f m then f.f m else 0)-(if 0<=f.f n then f.f n else 0)<=_;split<;>split<;>split<;>grind
 obtain⟨B,hB,NB,hBn⟩:=f.bd
 have hgB:∀n,NB<=n->g n<B:=λn hn=>by
  show(if 0<=f.f n then f.f n else 0)<B;have:=hBn n hn;split<;>grind
 have hsB:∀n,NB<=n->s n<B+1:=λn hn=>by
  have h1:=hs n;have h2:=hgB n hn;refine Tq h1.1 (by grind) ?_;have:=aoE (show 0<=B by grind) (show 0<=B by grind);grind
 have hcau:∀e:Rat,0<e->∃N,∀m n,N<=m->N<=n->s m-s n<e:=by
  intro e he;obtain⟨N1,h1⟩:=f.cau (e*e/4) (by have:=aoH he he;grind);obtain⟨N2,h2⟩:=Bf (e/2) (by grind);refine⟨max N1 N2,λm n hm hn=>?_⟩;apply an9;intro hne;have a1:=hs m;have a2:=hs n;have a3:=h1 m n (by omega) (by omega);have a4:=h2 n (by omega);have a5:=hg m n;have a6:=tJ n;have p1:=aoE (show 0<=s m-(s n+e) by grind) (show 0<=s m+(s n+e) by grind);have p2:=aoE (show 0<=e/2-eps n by grind) (show 0<=(s n+e/2)+(s n+eps n) by grind);have p3:=aoE (show 0<=e by grind) a2.1;have p4:=aoH he he;split at a5<;>grind
 refine⟨Quotient.mk _ ⟨s,hcau⟩,?_,aqI λe he=>?_⟩
 ·rintro ⟨e,he,N,h⟩
  have h1:=h N (anT _);have h2:=(hs N).1;simp only[RL.const]at h1;grind
 ·-- s n*s n is near to f n
  have hneg:∃N,∀n,N<=n-> -(e/4)<f.f n:=by
   apply an9;intro hne;obtain⟨M,hM⟩:=f.cau (e/8) (by grind);refine hx ⟨e/16,by grind,M,λn hn=>?_⟩;apply an9;intro hge;refine hne ⟨M,λk hk=>?_⟩;have:=hM n k hn hk;simp only[RL.const]at hge;grind
  obtain⟨N1,h1⟩:=hneg;obtain⟨N2,h2⟩:=Bf (e/(4*(B+2))) (aoH he (Rat.inv_pos.2 (by grind)));refine⟨max (max N1 N2) NB,λn hn=>?_⟩;have a1:=hs n;have a2:=h1 n (by omega);have a3:=h2 n (by omega);have a4:=hsB n (by omega);have a5:=tJ n;have a6:=G5 n
  have hgf:f.f n<=g n/\g n<f.f n+e/4:=by
   show f.f n<=(if 0<=f.f n then f.f n else 0)/\(if 0<=f.f n then f.f n else 0)<_;split<;>constructor<;>grind
  have p1:=aoE (show 0<=eps n by grind) (show 0<=2*(B+2)-(2*s n+eps n) by grind)
  have p2:eps n*(2*(B+2))<e/2:=by
   have:=aoH (show 0<e/(4*(B+2))-eps n by grind) (show 0<2*(B+2) by grind)
   have e1:(e/(4*(B+2))-eps n)*(2*(B+2))=e/2-eps n*(2*(B+2)):=by
    have:B+2≠0:=by grind
    grind
   grind
  simp only[RL.mul];constructor<;>grind
open Classical in
def yC(x:RE):RE:=if h:0<=x then Classical.choose (CY x h)else 0
theorem pk(x:RE):0<=yC x:=by
 unfold yC;split
 ·rename_i h;exact(aph (CY x h)).1
 ·exact lt_irrefl 0
theorem De{x:RE}(h:0<=x):yC x*yC x=x:=by
 unfold yC;rw[dif_pos h];exact(aph (CY x h)).2
theorem oP{a b:Rat}:of a<=of b↔a<=b:=by
 constructor
 ·intro h;apply an9;intro hc;exact h (ll (by grind))
 ·intro h h';rcases(by grind:a<b\/a=b)with h1|h1
  ·exact lt_irrefl _ (eh h' (ll h1))
  ·rw[h1]at h';exact lt_irrefl _ h'
theorem Hp{a b:Rat}(h:of a=of b):a=b:=by
 have h1:=oP.1 (show of a<=of b by rw[h];exact lt_irrefl _);have h2:=oP.1 (show of b<=of a by rw[h];exact lt_irrefl _);grind
end RE
end
section
namespace RE
open RL
open Classical in
def sg(x:RE):Int:=if 0<x then 1 else if x<0 then-1 else 0
theorem jI{x:RE}(h:0<x):sg x=1:=aoz h
theorem oQ{x:RE}(h:x<0):sg x= -1:=by unfold sg;rw[aog (λh'=>lt_irrefl _ (eh h h')),aoz h]
theorem fw:sg 0=0:=by unfold sg;rw[aog (lt_irrefl _),aog (lt_irrefl _)]
theorem cd(x:RE):(0<x/\sg x=1)\/(x=0/\sg x=0)\/(x<0/\sg x= -1):=by
 rcases lR 0 x with h|h|h
 ·exact .inl ⟨h,jI h⟩
 ·exact .inr (.inl ⟨h.symm,by rw[<-h,fw]⟩)
 ·exact .inr (.inr ⟨h,oQ h⟩)
theorem CP{x:RE}:sg x=0↔x=0:=by
 rcases cd x with⟨h,e⟩|⟨h,e⟩|⟨h,e⟩<;>rw[e]
 ·exact⟨λh'=>by omega,λh'=>by rw[h']at h;exact absurd h (lt_irrefl _)⟩
 ·exact⟨λ_=>h,λ_=>rfl⟩
 ·exact⟨λh'=>by omega,λh'=>by rw[h']at h;exact absurd h (lt_irrefl _)⟩
theorem adi{x:RE}:sg x=1↔0<x:=by
 rcases cd x with⟨h,e⟩|⟨h,e⟩|⟨h,e⟩<;>rw[e]
 ·exact⟨λ_=>h,λ_=>rfl⟩
 ·exact⟨λh'=>by omega,λh'=>by rw[h]at h';exact absurd h' (lt_irrefl _)⟩
 ·exact⟨λh'=>by omega,λh'=>absurd (eh h h') (lt_irrefl _)⟩
theorem anC{x:RE}:0<=sg x↔0<=x:=by
 rcases cd x with⟨h,e⟩|⟨h,e⟩|⟨h,e⟩<;>rw[e]
 ·exact⟨λ_=>le_of_lt h,λ_=>by omega⟩
 ·exact⟨λ_=>by rw[h];exact le_refl _,λ_=>by omega⟩
 ·exact⟨λh'=>by omega,λh'=>absurd h h'⟩
theorem Pd{x:RE}:sg x<=0↔x<=0:=by
 rcases cd x with⟨h,e⟩|⟨h,e⟩|⟨h,e⟩<;>rw[e]
 ·exact⟨λh'=>by omega,λh'=>absurd h h'⟩
 ·exact⟨λ_=>by rw[h];exact le_refl _,λ_=>by omega⟩
 ·exact⟨λ_=>le_of_lt h,λ_=>by omega⟩
theorem neg_mul(a b:RE): -a*b= -(a*b):=by grind
theorem mul_neg(a b:RE):a* -b= -(a*b):=by grind
theorem neg_neg(a:RE): - -a=a:=by grind
theorem sub_self(a:RE):a-a=0:=by grind
theorem ac6(x y:RE):(x+y)*(x-y)=x*x-y*y:=by grind
theorem NW(x y:RE):((x-(0))*(0-(y)))+((x*y-(0)))=0:=by grind
theorem Q2(x y:RE)(h1:0<x)(h2:y<0):x*y<0:=xE.1 λhg=>far (aW (mul_pos (bE h1) (bE h2)) (aK hg)) (NW x y)
theorem ac9(x y:RE)(h1:x<0)(h2:y<0):x+y<0:=by grind
theorem afY(x y:RE)(h1:0<x)(h2:y<0):0<x-y:=by grind
theorem agx(x y:RE)(h1:x<0)(h2:0<y):x-y<0:=by grind
theorem adw(x y:RE)(h1:0<x)(h2:0<y):0<x+y:=by grind
theorem Qu: -(0:RE)=0:=by rw[<-zero_add (-0),lL]
theorem IJ(x:RE):sg (-x)= -sg x:=by
 rcases cd x with⟨h,e⟩|⟨h,e⟩|⟨h,e⟩<;>rw[e]
 ·exact oQ (acO h)
 ·rw[h,Qu,fw];rfl
 ·exact jI (uT h)
theorem uM(x y:RE):sg (x*y)=sg x*sg y:=by
 rcases cd x with⟨h,e⟩|⟨h,e⟩|⟨h,e⟩<;>rw[e]
 ·rcases cd y with⟨h',e'⟩|⟨h',e'⟩|⟨h',e'⟩<;>rw[e']
  ·exact jI (mul_pos h h')
  ·rw[h',mul_zero,fw];rfl
  ·exact oQ (Q2 _ _ h h')
 ·rw[h,zero_mul,fw];omega
 ·rcases cd y with⟨h',e'⟩|⟨h',e'⟩|⟨h',e'⟩<;>rw[e']
  ·rw[mul_comm];exact oQ (Q2 _ _ h' h)
  ·rw[h',mul_zero,fw];rfl
  ·have:=mul_pos (uT h) (uT h');rw[neg_mul,mul_neg,neg_neg]at this;exact jI this
theorem sg_of(q:Rat):sg (of q)=aD q 0:=by
 rcases(by grind:q<0\/q=0\/0<q)with h|h|h
 ·rw[ez h];exact oQ (ll h)
 ·rw[h,eF];exact fw
 ·rw[dM h];exact jI (ll h)
def addS(s t d:Int):Int:=bif t==0||s==t then s else bif s==0 then t else s*d
theorem Pw(x y:RE):sg (x+y)=addS (sg x) (sg y) (sg (x*x-y*y)):=by
 rw[<-ac6,uM];rcases cd x with⟨h,e⟩|⟨h,e⟩|⟨h,e⟩<;>rw[e]
 ·rcases cd y with⟨h',e'⟩|⟨h',e'⟩|⟨h',e'⟩<;>rw[e']
  ·exact jI (adw _ _ h h')
  ·rw[h',add_zero,e];rfl
  ·rw[jI (afY _ _ h h')];show _=1*(_*1)
   omega
 ·rcases cd y with⟨h',e'⟩|⟨h',e'⟩|⟨h',e'⟩<;>rw[e',h,zero_add,e']<;>rfl
 ·rcases cd y with⟨h',e'⟩|⟨h',e'⟩|⟨h',e'⟩<;>rw[e']
  ·rw[oQ (agx _ _ h h')];show _= -1*(_* -1)
   omega
  ·rw[h',add_zero,e];rfl
  ·exact oQ (ac9 _ _ h h')
end RE
end
def uF:Nat->Nat->Nat
 |0,_=>0
 |f+1,n=>bif decide (n=0)then 0 else bif decide ((2*uF f (n/4)+1)*(2*uF f (n/4)+1)<=n)then 2*uF f (n/4)+1 else 2*uF f (n/4)
def Pa(n:Nat):Nat:=uF (n.log2+1) n
theorem Jx:∀(f n:Nat),n<2^f->uF f n*uF f n<=n/\n<(uF f n+1)*(uF f n+1)
 |0,n,h=>by
  have:n=0:=by simpa using h
  subst this;exact⟨anT _,by decide⟩
 |f+1,n,h=>by
  rcases aoG n with h0|h0
  ·subst h0;show uF (f+1) 0*uF (f+1) 0<=0/\_;exact⟨anT _,by show 0<(0+1)*(0+1);decide⟩
  ·have h4:n/4<2^f:=by
    rw[Nat.pow_succ]at h;omega
   obtain⟨h1,h2⟩:=Jx f (n/4) h4;simp only[uF];rw[anQ (show ¬n=0 by omega)];generalize uF f (n/4)=s at h1 h2;have e1:(2*s)*(2*s)=4*(s*s):=by grind
   have e2:(2*s+1+1)*(2*s+1+1)=4*((s+1)*(s+1)):=by grind
   by_cases hc:(2*s+1)*(2*s+1)<=n
   ·rw[anO hc];exact⟨hc,by show n<(2*s+1+1)*(2*s+1+1);rw[e2];omega⟩
   ·rw[anQ hc];exact⟨by show(2*s)*(2*s)<=n;rw[e1];omega,by show n<(2*s+1)*(2*s+1);omega⟩
theorem VL(n:Nat):Pa n*Pa n<=n/\n<(Pa n+1)*(Pa n+1):=Jx _ n Nat.lt_log2_self
def bL(z:Int):Int:=(Pa z.toNat:Int)
theorem fR{z:Int}(h:0<=z):0<=bL z/\bL z*bL z<=z/\z<(bL z+1)*(bL z+1):=by
 obtain⟨h1,h2⟩:=VL z.toNat
 grind [bL]
theorem t7{a b:Int}(ha:0<=a)(h:a<=b):a*a<=b*b:=ap5 h h ha (by omega)
theorem sq_lt{a b:Int}(hb:0<=b)(h:a*a<b*b):a<b:=by
 apply an9;intro hc;have:=t7 hb (show b<=a by omega);omega
theorem Wv{z s:Int}(h0:0<=s)(h1:s*s<=z)(h2:z<(s+1)*(s+1)):bL z=s:=by
 obtain⟨g0,g1,g2⟩:=fR (show 0<=z by have:=t7 (a:=0) (by omega) h0;omega);have a1:=sq_lt (b:=s+1) (a:=bL z) (by omega) (by omega);have a2:=sq_lt (b:=bL z+1) (a:=s) (by omega) (by omega);omega
theorem SQ{a x s:Int}(hx:0<x)(_hs:0<=s)(h1:s*s<=a):s<=(x+a/x)/2:=by
 have hq:=aoA a x;have hm:=aoC a hx;apply an9;intro hc;have h2:a/x<=2*s-x-1:=by omega
 have h3:x*(a/x)<=x*(2*s-x-1):=anV h2 (by omega)
 have h4:0<=(s-x)*(s-x):=by
  rcases Int.le_total 0 (s-x)with h|h
  ·exact aoL h h
  ·exact Int.mul_nonneg_of_nonpos_of_nonpos h h
 grind
theorem Ae{a x s:Int}(hx:0<x)(hs:s<=x)(_h1:s*s<=a)(h2:a<(s+1)*(s+1))(h3:0<=s)(h:x<=(x+a/x)/2):x=s:=by
 have hq:=aoA a x;have hm:=aoZ a (show x≠0 by omega);have h4:x<=a/x:=by omega
 have h5:x*x<=x*(a/x):=anV h4 (by omega);have:=sq_lt (a:=x) (b:=s+1) (by omega) (by omega);omega
def fy(x:BI):BI:=bif x.1 then(F',[])else ah (bL (ab x))
def wz(x:BI):Int:=bif x.1 then 7 else 0
def wN:List En:=[⟨269,pg,kY⟩,⟨108,sh,ng⟩,⟨202,qi,lB⟩,⟨189,zj,tj⟩,⟨321,DB,yK⟩]
def aeS:NT:=[((337,25),{keep:=[1,2,5,6],hl:=6})]
def J4:Ctx:=CX (ens wN) aeS
def nM(x:Bool×List Int)(b4_0:Bool)(b4_1:List Int):Cfg:=⟨337,[.blk 0],[(1,.box 0 0),(2,.box 1 0),(5,.box 4 0),(6,.box 5 0)],[.box 36 [SB x.1,.d ard x.2],.box 36 [SB F',.nil],.gone,.row 194 arg ([1]),.box 36 [SB b4_0,.d ard b4_1],.box 36 [SB ((ah (2:Int)).1),.d ard ((ah (2:Int)).2)]],0,[]⟩
def Kt(x:Bool×List Int)(k:KT):OLR:=match x.1 with|T'=>S' [RV.d y3Y (F',[]),RV.d arf 7]|F'=>(match(x.2.length:Int)==0 with|T'=>S' [RV.d y3Y (F',[]),RV.d arf 0]|F'=>(og (D' ((0:Int)<=i64.wrap (Int.tdiv (i64.wrap ((x.2.length:Int)+1)) 2)/\(i64.wrap (Int.tdiv (i64.wrap ((x.2.length:Int)+1)) 2))*((4:Nat):Int)<=140737488355328/\i64.wrap (Int.tdiv (i64.wrap ((x.2.length:Int)+1)) 2)<=140737488355328)) (og (D' (((List.replicate (i64.wrap (Int.tdiv (i64.wrap ((x.2.length:Int)+1)) 2)).toNat (0:Int)).length+([1]).length)*4<=140737488355328/\(List.replicate (i64.wrap (Int.tdiv (i64.wrap ((x.2.length:Int)+1)) 2)).toNat (0:Int)).length+([1]).length<=140737488355328)) (og (D' (aQ ((List.replicate (i64.wrap (Int.tdiv (i64.wrap ((x.2.length:Int)+1)) 2)).toNat (0:Int))++([1])))) (og (D' (bH (2:Int))) (k 25 (nM x ((ah (bZ F' (val ((List.replicate (i64.wrap (Int.tdiv (i64.wrap ((x.2.length:Int)+1)) 2)).toNat (0:Int))++([1]))))).1) ((ah (bZ F' (val ((List.replicate (i64.wrap (Int.tdiv (i64.wrap ((x.2.length:Int)+1)) 2)).toNat (0:Int))++([1]))))).2))))))))
theorem NJ(x:Bool×List Int):RS J4 337 [.d y3Y x] (Kt x):=rsX
def uX(x:Bool×List Int)(b4_0:Bool)(b4_1:List Int)(k:KT):OLR:=og (D' (fj x (b4_0,b4_1))) (cX (og (D' (okI (b4_0,b4_1)/\okI (ah (ab x/ab (b4_0,b4_1))))) (cX (og (D' (fj (ah (ab (b4_0,b4_1)+ab (ah (ab x/ab (b4_0,b4_1))))) (ah (2:Int)))) (dup (.b .l .l) (og (D' (okI (ah (ab (ah (ab (b4_0,b4_1)+ab (ah (ab x/ab (b4_0,b4_1)))))/ab (ah (2:Int))))/\okI (b4_0,b4_1))) (match D' ((b8 (ab (ah (ab (ah (ab (b4_0,b4_1)+ab (ah (ab x/ab (b4_0,b4_1)))))/ab (ah (2:Int))))) (ab (b4_0,b4_1)))>=0)with|T'=>S' [RV.d y3Y (b4_0,b4_1),RV.d arf 0]|F'=>k 25 (nM x ((ah (ab (ah (ab (b4_0,b4_1)+ab (ah (ab x/ab (b4_0,b4_1)))))/ab (ah (2:Int)))).1) ((ah (ab (ah (ab (b4_0,b4_1)+ab (ah (ab x/ab (b4_0,b4_1)))))/ab (ah (2:Int)))).2)))))) (dup (.b (.b .l .l) (.b .l .l)) (og (D' (fj (ah (ab (b4_0,b4_1)+ab (ah (ab x/ab (b4_0,b4_1))))) (ah (2:Int)))) (og (D' (okI (ah (ab (ah (ab (b4_0,b4_1)+ab (ah (ab x/ab (b4_0,b4_1)))))/ab (ah (2:Int))))/\okI (b4_0,b4_1))) (match D' ((b8 (ab (ah (ab (ah (ab (b4_0,b4_1)+ab (ah (ab x/ab (b4_0,b4_1)))))/ab (ah (2:Int))))) (ab (b4_0,b4_1)))>=0)with|T'=>S' [RV.d y3Y (b4_0,b4_1),RV.d arf 0]|F'=>k 25 (nM x ((ah (ab (ah (ab (b4_0,b4_1)+ab (ah (ab x/ab (b4_0,b4_1)))))/ab (ah (2:Int)))).1) ((ah (ab (ah (ab (b4_0,b4_1)+ab (ah (ab x/ab (b4_0,b4_1)))))/ab (ah (2:Int)))).2)))))))) (dup (.b .l .l) (cX (og (D' (okI (b4_0,b4_1)/\okI (ah (ab x/ab (b4_0,b4_1))))) (dup (.b .l .l) (og (D' (fj (ah (ab (b4_0,b4_1)+ab (ah (ab x/ab (b4_0,b4_1))))) (ah (2:Int)))) (og (D' (okI (ah (ab (ah (ab (b4_0,b4_1)+ab (ah (ab x/ab (b4_0,b4_1)))))/ab (ah (2:Int))))/\okI (b4_0,b4_1))) (match D' ((b8 (ab (ah (ab (ah (ab (b4_0,b4_1)+ab (ah (ab x/ab (b4_0,b4_1)))))/ab (ah (2:Int))))) (ab (b4_0,b4_1)))>=0)with|T'=>S' [RV.d y3Y (b4_0,b4_1),RV.d arf 0]|F'=>k 25 (nM x ((ah (ab (ah (ab (b4_0,b4_1)+ab (ah (ab x/ab (b4_0,b4_1)))))/ab (ah (2:Int)))).1) ((ah (ab (ah (ab (b4_0,b4_1)+ab (ah (ab x/ab (b4_0,b4_1)))))/ab (ah (2:Int)))).2))))))) (og (D' (okI (b4_0,b4_1)/\okI (ah (ab x/ab (b4_0,b4_1))))) (og (D' (fj (ah (ab (b4_0,b4_1)+ab (ah (ab x/ab (b4_0,b4_1))))) (ah (2:Int)))) (og (D' (okI (ah (ab (ah (ab (b4_0,b4_1)+ab (ah (ab x/ab (b4_0,b4_1)))))/ab (ah (2:Int))))/\okI (b4_0,b4_1))) (match D' ((b8 (ab (ah (ab (ah (ab (b4_0,b4_1)+ab (ah (ab x/ab (b4_0,b4_1)))))/ab (ah (2:Int))))) (ab (b4_0,b4_1)))>=0)with|T'=>S' [RV.d y3Y (b4_0,b4_1),RV.d arf 0]|F'=>k 25 (nM x ((ah (ab (ah (ab (b4_0,b4_1)+ab (ah (ab x/ab (b4_0,b4_1)))))/ab (ah (2:Int)))).1) ((ah (ab (ah (ab (b4_0,b4_1)+ab (ah (ab x/ab (b4_0,b4_1)))))/ab (ah (2:Int)))).2)))))))))
theorem BT(x:Bool×List Int)(b4_0:Bool)(b4_1:List Int):RN J4 25 (nM x b4_0 b4_1) (uX x b4_0 b4_1):=rnX
def acY:NT:=[((308,16),{keep:=[1,4,5],hl:=1})]
def Lx:Ctx:=CX (ens wN) acY
def wZ(x:Bool×List Int)(s4 s5:Int):Cfg:=⟨308,[.blk 0,.seq 27],[(1,.box 0 0),(4,.d (.int .u64) s4),(5,SI s5)],[.box 36 [SB x.1,.d ard x.2]],0,[]⟩
def J5(x:Bool×List Int)(k:KT):OLR:=og (D' (bH ((-9223372036854775808):Int))) (og (D' (okI x/\okI (ah ((-9223372036854775808):Int)))) (dup (.b .l .l) (match D' ((b8 (ab x) (ab (ah ((-9223372036854775808):Int))))<0)with|T'=>S' [RV.d arf 0,RV.d .bool F']|F'=>(og (D' (bH (9223372036854775807:Int))) (og (D' (okI x/\okI (ah (9223372036854775807:Int)))) (match D' ((b8 (ab x) (ab (ah (9223372036854775807:Int))))>0)with|T'=>S' [RV.d arf 0,RV.d .bool F']|F'=>k 16 (wZ x 0 (i64.wrap ((x.2.length:Int)-1)))))))))
theorem Qn(x:Bool×List Int):RS Lx 308 [.d y3Y x] (J5 x):=rsX
def vu(x:Bool×List Int)(s4 s5:Int)(k:KT):OLR:=match D' (s5>=0)with|T'=>(match aH x.2 s5 with|S' x1=>k 16 (wZ x (u64.wrap ((u64.wrap (s4*1000000000))+(u64.wrap x1))) (i64.wrap (s5-1)))|Nn'=>Nn')|F'=>(match x.1 with|T'=>S' [RV.d arf (i64.wrap (u64.wrap (0-s4))),RV.d .bool T']|F'=>S' [RV.d arf (i64.wrap s4),RV.d .bool T'])
theorem Bv(x:Bool×List Int)(s4 s5:Int):RN Lx 16 (wZ x s4 s5) (vu x s4 s5):=rnX
theorem P6(x:BI)(hx:okI x)(h0:0<ab x):∀(m:Nat) (X:Int),X.toNat=m->0<X->bL (ab x)<=X->szI X<=900000->J4.Runs 25 (nM x (ah X).1 (ah X).2) [.d y3Y (ah (bL (ab x))),.d arf 0]:=by
 intro m;induction m using Nat.strongRecOn with
 |ind m ih=>
  intro X hm hX hs hsz;obtain⟨g0,g1,g2⟩:=fR (aow h0);have hq0:0<=ab x/X:=aoO (by omega) (by omega);have hq1:ab x/X<=ab x:=apI _ (by omega);have oX:okI (ah X):=aS (by omega);have sq:szI (ab x/X)<=1000000:=an0 (dA (by omega)) (iS hx);have p1:fj x (ah X):=⟨hx,oX,by rw[dec_enc];exact hX⟩
  have ssum:szI (X+ab x/X)<=1000000:=by
   have b1:=oH hsz;have b2:=oH (iS hx);have e:pw 1000000=pw 900000*pw 100000:=by rw[<-fo]
   have p9:(1000:Int)<=pw 100000:=by
    have:pw 100000=pw 99999*1000000000:=bW 99999;have:=cg 99999;omega
   have p8:=cg 900000;have h8:pw 900000*1000<=pw 900000*pw 100000:=anV p9 (by omega);rcases aoj X 2 with hX1|hX1
   ·-- X=1:then the number is less than 4
    have:X=1:=by omega
    subst this;have:bL (ab x)<=1:=hs
    have h4:ab x<4:=by
     have:=t7 (a:=bL (ab x)+1) (b:=2) (by omega) (by omega);omega
    refine fc ?_ ?_<;>(rw[e,Int.ediv_one];omega)
   ·have hq2:ab x/X<=ab x/2:=by
     have:=Int.ediv_mul_le (ab x) (show X≠0 by omega);have h2:ab x/X*2<=ab x/X*X:=anV hX1 hq0;omega
    refine fc ?_ ?_<;>(rw[e]at b2 ⊢;omega)
  have o1:okI (ah X)/\okI (ah (ab x/X)):=⟨oX,aS sq⟩
  have p2:fj (ah (X+ab x/X)) (ah 2):=⟨aS ssum,by decide,by rw[dec_enc];decide⟩
  have hn:=SQ hX g0 g1;have o2:okI (ah ((X+ab x/X)/2))/\okI (ah X):=⟨aS (an0 (dA (by omega)) ssum),oX⟩
  by_cases hc:X<=(X+ab x/X)/2
  ·have hXs:=Ae hX hs g1 g2 g0 hc;refine BT _ _ _ ⟨0,?_⟩;unfold uX;simp only[cQ,dg];have e:∀z:Int,((ah z).1,(ah z).2)=ah z:=λz=>rfl;simp only[e,dec_enc,anO p1,anO o1,anO p2,anO o2]
   have hg:D' (b8 ((X+ab x/X)/2) X>=0)=true:=by
    rcases Int.lt_or_eq_of_le hc with h|h
    ·rw[cH h];rfl
    ·rw[<-h,dV];rfl
   rw[hg,hXs]
  ·obtain⟨n,hN⟩:=ih ((X+ab x/X)/2).toNat (by omega) ((X+ab x/X)/2) rfl (by
    rcases aoj 0 (bL (ab x))with h|h
    ·omega
    ·exfalso;have:bL (ab x)=0:=by omega
     rw[this]at g2;omega) hn (an0 (dA (by omega)) hsz)
   refine BT _ _ _ ⟨n,?_⟩;unfold uX;simp only[cQ,dg];have e:∀z:Int,((ah z).1,(ah z).2)=ah z:=λz=>rfl;simp only[e,dec_enc,anO p1,anO o1,anO p2,anO o2];rw[c9 (by omega)];exact hN
def aaP:Cn 337 [y3Y]:=cn λ(x:Bool×List Int)=>lf (okI x) [.d y3Y (fy x),.d arf (wz x)] λh=>by
 refine bj wN (show J4.Res _ _ _ from ?_);obtain⟨x0,x1,x2⟩:=cp h;have hl:=h.2.2;cases hn:x.1
 ·by_cases hz:x.2=[]
  ·refine NJ _ ⟨0,?_⟩;unfold Kt fy wz;have:ab x=0:=by unfold ab;rw[hn,hz];rfl
   rw[hn,hz,this];rfl
  ·have hp:0<val x.2:=eD h.1 hz;have hd:ab x=val x.2:=by unfold ab;rw[hn];rfl
   have hlen:=aoy.2 hz
   have hk:i64.wrap (Int.tdiv (i64.wrap ((x.2.length:Int)+1)) 2)=(((x.2.length+1)/2:Nat):Int):=by
    rw[aT (by omega),gJ (by omega),aM (by omega) (by omega)];omega
   have hv:val (List.replicate ((x.2.length+1)/2) 0++[1])=pw ((x.2.length+1)/2):=by
    rw[dD,gv,apX];simp[val]
   have hL:aQ (List.replicate ((x.2.length+1)/2) 0++[1]):=by
    refine⟨λy hy=>?_,by simp;omega⟩;rcases aod.1 hy with hy|hy
    ·have:=List.eq_of_mem_replicate hy;omega
    ·simp at hy;omega
   have hpos:=cg ((x.2.length+1)/2)
   obtain⟨n,hN⟩:=P6 x h (by omega) _ (pw ((x.2.length+1)/2)) rfl hpos (by
     obtain⟨g0,g1,g2⟩:=fR (show 0<=ab x by omega);have hlt:=bU h.1.1;have hm:=du (show x.2.length<=(x.2.length+1)/2+(x.2.length+1)/2 by omega);rw[fo]at hm;have:=sq_lt (a:=bL (ab x)) (b:=pw ((x.2.length+1)/2)) (by omega) (by omega)
     omega) (fc (k:=900000) (by have:=cg 900000;omega) (by
      have:=du (show(x.2.length+1)/2+1<=900000 by omega);rw[bW]at this;omega))
   refine NJ _ ⟨n,?_⟩;unfold Kt fy wz;simp only[hk];rw[hn,show((x.2.length:Int)==0)=F' by simp;omega];simp only[apN];rw[anO (show(0:Int)<=(((x.2.length+1)/2:Nat):Int)/\(((x.2.length+1)/2:Nat):Int)*((4:Nat):Int)<=140737488355328/\(((x.2.length+1)/2:Nat):Int)<=140737488355328 by omega)];rw[anO (show((List.replicate ((x.2.length+1)/2) (0:Int)).length+([1]:List Nat).length)*4<=140737488355328/\(List.replicate ((x.2.length+1)/2) (0:Int)).length+([1]:List Nat).length<=140737488355328 by simp;omega)];rw[anO hL,anO (show bH 2 by decide),hv];exact hN
 ·refine NJ _ ⟨0,?_⟩;unfold Kt fy wz;rw[hn];rfl
theorem Fq(x:BI)(hx:okI x)(hv:val x.2<=9223372036854775808):∀(i:Nat),i<=x.2.length->Lx.Runs 16 (wZ x (val (x.2.drop i)) ((i:Int)-1)) [.d arf (i64.wrap (bif x.1 then u64.wrap (0-val x.2)else val x.2)),.d .bool T']
 |0,_=>by
  refine Bv _ _ _ ⟨0,?_⟩;unfold vu;rw[anQ (by omega),apy];cases x.1<;>rfl
 |i+1,hi=>by
  obtain⟨n,ih⟩:=Fq x hx hv i (by omega);have h0:=hx.2.2;have hlim:=hx.1.1;have hd:x.2.drop i=x.2[i]::x.2.drop (i+1):=jx (by omega)
  have hle:∀j,val (x.2.drop j)<=9223372036854775808/\0<=val (x.2.drop j):=λj=>by
   have l1:Lim (x.2.drop j):=λy hy=>hlim y (apq hy);have l2:Lim (x.2.take j):=λy hy=>hlim y (ao3 hy);have:=dD (x.2.take j) (x.2.drop j);rw[apc]at this;have n1:=aP l1;have n2:=aP l2;have p:=cg (x.2.take j).length
   have:val (x.2.drop j)<=pw (x.2.take j).length*val (x.2.drop j):=by
    have:=an1 (show 1<=pw (x.2.take j).length by omega) n1;omega
   omega
  have hb:=hlim x.2[i] (anY _);have hv1:=hle i;have hv2:=hle (i+1);rw[hd]at hv1 ih;simp only[val]at hv1 ih;refine Bv _ _ _ ⟨n,?_⟩;unfold vu;rw[show(((i+1:Nat):Int)-1)=(i:Int) by omega,anO (by omega),ak,anN (by omega)];dsimp only;rw[bI (x:=val (x.2.drop (i+1))*1000000000) (by omega) (by omega),bI (x:=x.2[i]) (by omega) (by omega),bI (by omega) (by omega),aM (by omega) (by omega)];rw[show val (x.2.drop (i+1))*1000000000+x.2[i]=x.2[i]+1000000000*val (x.2.drop (i+1)) by omega];exact ih
def Gw:Cn 308 [y3Y]:=cn λ(x:Bool×List Int)=>lf (okI x) [.d arf (bif D' (bH (ab x))then ab x else 0),.d .bool (D' (bH (ab x)))] λh=>by
 refine bj wN (show Lx.Res _ _ _ from ?_);obtain⟨x0,x1,x2⟩:=cp h;have o1:okI x/\okI (ah (-9223372036854775808)):=⟨h,by decide⟩
 have o2:okI x/\okI (ah 9223372036854775807):=⟨h,by decide⟩
 have hl:=h.2.2;by_cases h1:ab x< -9223372036854775808
 ·refine Qn _ ⟨0,?_⟩;unfold J5;simp only[dg,dec_enc,anO o1];rw[anO (show bH (-9223372036854775808) by decide),c9 h1,anQ (show ¬bH (ab x) from λg=>by have:=g.1;omega)];rfl
 ·have c1:D' (b8 (ab x) (-9223372036854775808)<0)=false:=by
   rcases Int.lt_or_eq_of_le (show-9223372036854775808<=ab x by omega)with g|g
   ·rw[cH g];rfl
   ·rw[<-g,dV];rfl
  by_cases h2:9223372036854775807<ab x
  ·refine Qn _ ⟨0,?_⟩;unfold J5;simp only[dg,dec_enc,anO o1,anO o2];rw[anO (show bH (-9223372036854775808) by decide),c1,anO (show bH 9223372036854775807 by decide),cH h2,anQ (show ¬bH (ab x) from λg=>by have:=g.2;omega)];rfl
  ·have c2:D' (b8 (ab x) 9223372036854775807>0)=false:=by
    rcases Int.lt_or_eq_of_le (show ab x<=9223372036854775807 by omega)with g|g
    ·rw[c9 g];rfl
    ·rw[g,dV];rfl
   have hp:bH (ab x):=⟨by omega,by omega⟩
   have hvv:val x.2<=9223372036854775808:=by
    have g1:=hp.1;have g2:=hp.2;have hd:ab x=bif x.1 then-val x.2 else val x.2:=rfl;cases hb:x.1<;>rw[hb]at hd<;>simp only[cond_true,cond_false]at hd<;>omega
   obtain⟨n,hN⟩:=Fq x h hvv x.2.length (anT _);refine Qn _ ⟨n,?_⟩;unfold J5;simp only[dg,dec_enc,anO o1,anO o2];rw[anO (show bH (-9223372036854775808) by decide),c1,anO (show bH 9223372036854775807 by decide),c2,anO hp];rw[aqe]at hN;rw[aM (by omega) (by omega)];refine hN.trans ?_
   have hr:i64.wrap (bif x.1 then u64.wrap (0-val x.2)else val x.2)=ab x:=by
    have hd:ab x=bif x.1 then-val x.2 else val x.2:=rfl;have:=hp.1;have:=hp.2;cases hb:x.1<;>rw[hb]at hd<;>simp only[cond_true,cond_false]at hd ⊢
    ·rw[aM (by omega) (by omega)];omega
    ·have:=x1 hb;rw[aoD,IntKind.wrap_i64];omega
   rw[hr];rfl
end Go.Proofs.YtoimchcjhdcdmaaGreat
end
