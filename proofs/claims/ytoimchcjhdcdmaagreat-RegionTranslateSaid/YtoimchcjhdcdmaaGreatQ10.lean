/- rational: the operations. -/
import Derived.Test.YtoimchcjhdcdmaaGreatQ9
noncomputable section
namespace Go.Proofs.YtoimchcjhdcdmaaGreat
open Go.RowKit Go.IntKind
open Bool renaming true->T',false->F'
open Option renaming some->S',none->Nn'
open Decidable renaming decide->D'
theorem apH:type_of% @Rat.mul_nonneg:=@Rat.mul_nonneg
theorem apK:type_of% @Rat.mul_pos:=@Rat.mul_pos
theorem apR:type_of% @Rat.num_divInt_den:=@Rat.num_divInt_den
theorem aqa:type_of% @Quotient.inductionOn:=@Quotient.inductionOn
theorem aqp:type_of% @Rat.mul_comm:=@Rat.mul_comm
theorem aq5:type_of% @Quotient.inductionOn₃:=@Quotient.inductionOn₃
theorem ari:type_of% @Rat.intCast_natCast:=@Rat.intCast_natCast
theorem arn:type_of% @Rat.intCast_le_intCast:=@Rat.intCast_le_intCast
theorem arz:type_of% @Int.mul_ne_zero:=@Int.mul_ne_zero
theorem arA:type_of% @Rat.divInt_mul_divInt:=@Rat.divInt_mul_divInt
theorem arB:type_of% @Quotient.inductionOn₂:=@Quotient.inductionOn₂
theorem arC:type_of% @Rat.intCast_neg:=@Rat.intCast_neg
theorem arK:type_of% @Quotient.sound:=@Quotient.sound
def aD(a b:Rat):Int:=bif D' (a<b)then-1 else bif D' (b<a)then 1 else 0
theorem ef{a b:Rat}(h:a<b):aD a b= -1:=by grind [aD]
theorem dM{a b:Rat}(h:b<a):aD a b=1:=by grind [aD]
theorem eo(a:Rat):aD a a=0:=by simp[aD]
theorem zq(a b:Rat):b9 (a.num*(b.den:Int)) (b.num*(a.den:Int))=aD a b:=by simp[b9,aD,Rat.lt_iff]
theorem vB(a:Rat):b9 a.num 0=aD a 0:=by
 rw[<-zq];simp
def Dz:cE:=spN F' F' [y3Y,y3Y] (λx=>D' (jk x.1 x.2.1)) (λx=>[RV.d (.st (.pair y3Y y3Y)) (eT x.1 x.2.1)])
theorem xV:SpK 201 Dz:=spX λx h=>J9 x.1 x.2.1 (aoQ h)
def ady:NT:=[((107,3),{keep:=[0,1,8],hl:=0}),((107,5),{keep:=[0,1,5,10],hl:=0})]
def aiE:Ctx:=CX [] ady
def abE(x y:Int)(_k:KT):OLR:=match x !=x with|T'=>(match y !=y with|T'=>S' [RV.d ask 0]|F'=>S' [RV.d ask (-1)])|F'=>(match y !=y with|T'=>S' [RV.d ask 1]|F'=>(match D' (x<y)with|T'=>S' [RV.d ask (-1)]|F'=>(match D' (x>y)with|T'=>S' [RV.d ask 1]|F'=>S' [RV.d ask 0])))
theorem ahP(x y:Int):RS aiE 107 [SI x,SI y] (abE x y):=rsX
theorem X7(x y:Int):CQq7 107 [.d ask x,.d ask y] [.d ask (b9 x y)]:=by
 refine fI (E:=[]) trivial (ahP _ _ ⟨0,?_⟩);unfold abE;rw[show(x !=x)=false by simp,show(y !=y)=false by simp];dsimp only;rcases Int.lt_trichotomy x y with h|h|h
 ·rw[da h,aoP h]
 ·subst h;rw[dU,aoR (show ¬x<x by omega)]
 ·rw[cH h,aoR (show ¬x<y by omega),aoP (show x>y from h)]
def Eu:cE:=spN T' F' [ask,ask] (λ_=>T') (λx=>[RV.d ask (b9 x.1 x.2.1)])
theorem yj:SpK 107 Eu:=spX λx _=>X7 x.1 x.2.1
def Hi:Env:=[(269,pe),(178,uQ),(108,rW),(202,pC),(273,vc),(109,ut),(193,yI),(201,Dz),(107,Eu)]
theorem AJ:EnvAll Tryz.prog Hi:=⟨kR,qa,mS,kv,oV,pH,ti,xV,yj,trivial⟩
def akd:Ctx:=CX Hi []
def ahG(x:Bool×List Int)(_k:KT):OLR:=S' [RV.d (.st (.pair y3Y y3Y)) (x,(ah 1))]
theorem amm(x:Bool×List Int):RS akd 270 [.d y3Y x] (ahG x):=rsX
theorem Vp(x:BI):CQq7 270 [.d y3Y x] [.d (.st (.pair y3Y y3Y)) (x,ah 1)]:=
 fI AJ (amm _ ⟨0,rfl⟩)
def HC:cE:=spN F' F' [y3Y] (λ_=>T') (λx=>[RV.d (.st (.pair y3Y y3Y)) (x.1,ah 1)])
theorem GG:SpK 270 HC:=spX λx _=>Vp x.1
def alE:Ctx:=CX Hi []
def YQ(a:(Bool×List Int)×Bool×List Int)(_k:KT):OLR:=og (D' (okI a.1)) (S' [RV.d ask (b9 (ab a.1) 0)])
theorem alp(a:(Bool×List Int)×Bool×List Int):RS alE 94 [.d (.st (.pair y3Y y3Y)) a] (YQ a):=rsX
theorem D0(a:BR)(h:okR a):CQq7 94 [.d (.st (.pair y3Y y3Y)) a] [.d ask (aD (ag a) 0)]:=by
 refine fI AJ (alp _ ⟨0,?_⟩);unfold YQ;rw[aoP h.1,<-vB,(cM h).1]
def Hw:cE:=spN T' F' [(.st (.pair y3Y y3Y))] (λx=>D' (okR x.1)) (λx=>[RV.d ask (aD (ag x.1) 0)])
theorem E4:SpK 94 Hw:=spX λx h=>D0 x.1 (aoQ h)
def ny:Env:=[(269,pe),(178,uQ),(108,rW),(202,pC),(273,vc),(109,ut),(193,yI),(201,Dz),(107,Eu),(270,HC),(94,Hw)]
theorem iS:EnvAll Tryz.prog ny:=⟨kR,qa,mS,kv,oV,pH,ti,xV,yj,GG,E4,trivial⟩
def ajo:Ctx:=CX ny []
def YH(n:Int)(_k:KT):OLR:=og (D' (bI n)) (S' [RV.d (.st (.pair y3Y y3Y)) ((ah n),(ah 1))])
theorem ajl(n:Int):RS ajo 194 [SI n] (YH n):=rsX
def alk:Ctx:=CX ny []
def YS(a b:(Bool×List Int)×Bool×List Int)(_k:KT):OLR:=match D' (okR a)with|T'=>(match D' (okR b)with|T'=>(match(b9 (aD (ag a) 0) (aD (ag b) 0)) !=0 with|T'=>S' [RV.d ask (b9 (aD (ag a) 0) (aD (ag b) 0))]|F'=>(match D' (okI a.1/\okI b.2)with|T'=>(match D' (okI b.1/\okI a.2)with|T'=>(match D' (okI (ah (ab a.1*ab b.2))/\okI (ah (ab b.1*ab a.2)))with|T'=>S' [RV.d ask (b9 (ab (ah (ab a.1*ab b.2))) (ab (ah (ab b.1*ab a.2))))]|F'=>Nn')|F'=>Nn')|F'=>Nn'))|F'=>Nn')|F'=>Nn'
theorem ajj(a b:(Bool×List Int)×Bool×List Int):RS alk 46 [.d (.st (.pair y3Y y3Y)) a,.d (.st (.pair y3Y y3Y)) b] (YS a b):=rsX
def ala:Ctx:=CX ny []
def ab0(a b:(Bool×List Int)×Bool×List Int)(_k:KT):OLR:=match D' (okI a.2/\okI b.2)with|T'=>(match(b9 (ab a.2) (ab b.2))==0 with|T'=>(match D' (okI a.1/\okI b.1)with|T'=>(match D' (jk (ah (ab a.1+ab b.1)) a.2)with|T'=>S' [RV.d (.st (.pair y3Y y3Y)) (((eT (ah (ab a.1+ab b.1)) a.2).1),((eT (ah (ab a.1+ab b.1)) a.2).2))]|F'=>Nn')|F'=>Nn')|F'=>(match D' (okI a.1/\okI b.2)with|T'=>(match D' (okI b.1/\okI a.2)with|T'=>(match D' (okI (ah (ab a.1*ab b.2))/\okI (ah (ab b.1*ab a.2)))with|T'=>(match D' (okI a.2/\okI b.2)with|T'=>(match D' (jk (ah (ab (ah (ab a.1*ab b.2))+ab (ah (ab b.1*ab a.2)))) (ah (ab a.2*ab b.2)))with|T'=>S' [RV.d (.st (.pair y3Y y3Y)) (((eT (ah (ab (ah (ab a.1*ab b.2))+ab (ah (ab b.1*ab a.2)))) (ah (ab a.2*ab b.2))).1),((eT (ah (ab (ah (ab a.1*ab b.2))+ab (ah (ab b.1*ab a.2)))) (ah (ab a.2*ab b.2))).2))]|F'=>Nn')|F'=>Nn')|F'=>Nn')|F'=>Nn')|F'=>Nn'))|F'=>Nn'
theorem als(a b:(Bool×List Int)×Bool×List Int):RS ala 122 [.d (.st (.pair y3Y y3Y)) a,.d (.st (.pair y3Y y3Y)) b] (ab0 a b):=rsX
def ajG:Ctx:=CX ny []
def acn(a:(Bool×List Int)×Bool×List Int)(_k:KT):OLR:=og (D' (okI a.1)) (S' [RV.d (.st (.pair y3Y y3Y)) ((ah (-ab a.1)),a.2)])
theorem akt(a:(Bool×List Int)×Bool×List Int):RS ajG 196 [.d (.st (.pair y3Y y3Y)) a] (acn a):=rsX
def ajS:Ctx:=CX ny []
def Zt(a b:(Bool×List Int)×Bool×List Int)(_k:KT):OLR:=og (D' (okI a.1/\okI b.1)) (og (D' (okI a.2/\okI b.2)) (og (D' (jk (ah (ab a.1*ab b.1)) (ah (ab a.2*ab b.2)))) (S' [RV.d (.st (.pair y3Y y3Y)) (((eT (ah (ab a.1*ab b.1)) (ah (ab a.2*ab b.2))).1),((eT (ah (ab a.1*ab b.1)) (ah (ab a.2*ab b.2))).2))])))
theorem amp(a b:(Bool×List Int)×Bool×List Int):RS ajS 123 [.d (.st (.pair y3Y y3Y)) a,.d (.st (.pair y3Y y3Y)) b] (Zt a b):=rsX
def akH:Ctx:=CX ny []
def ZJ(a b:(Bool×List Int)×Bool×List Int)(_k:KT):OLR:=match D' (okR b)with|T'=>(match(aD (ag b) 0)==0 with|T'=>S' [RV.d (.st (.pair y3Y y3Y)) ((F',[]),(F',[])),RV.d ask 6]|F'=>(match D' (okI a.1/\okI b.2)with|T'=>(match D' (okI a.2/\okI b.1)with|T'=>(match D' (jk (ah (ab a.1*ab b.2)) (ah (ab a.2*ab b.1)))with|T'=>S' [RV.d (.st (.pair y3Y y3Y)) (((eT (ah (ab a.1*ab b.2)) (ah (ab a.2*ab b.1))).1),((eT (ah (ab a.1*ab b.2)) (ah (ab a.2*ab b.1))).2)),RV.d ask 0]|F'=>Nn')|F'=>Nn')|F'=>Nn'))|F'=>Nn'
theorem ai3(a b:(Bool×List Int)×Bool×List Int):RS akH 164 [.d (.st (.pair y3Y y3Y)) a,.d (.st (.pair y3Y y3Y)) b] (ZJ a b):=rsX
theorem LC(n:Int)(h:bI n):CQq7 194 [.d ask n] [.d (.st (.pair y3Y y3Y)) (av (n:Rat))]:=by
 refine fI iS (ajl _ ⟨0,?_⟩);unfold YH av;rw[aoP h,Rat.num_intCast,Rat.den_intCast];rfl
theorem fU{a:BR}(h:okR a):szI (ab a.1)<=480000/\szI (ab a.2)<=480000:=by
 have h1:=Ch h;grind [cM,bdR]
theorem MW(a b:Rat):(b9 (aD a 0) (aD b 0)≠0->b9 (aD a 0) (aD b 0)=aD a b):=by
 rcases(by grind:a<0\/a=0\/0<a)with h1|h1|h1<;>rcases(by grind:b<0\/b=0\/0<b)with h2|h2|h2
 ·grind [ef,dU]
 ·rw[ef h1,h2,eo,ef h1];intro;rfl
 ·rw[ef h1,dM h2,ef (by grind)];intro;rfl
 ·rw[h1,eo,ef h2,dM h2];intro;rfl
 ·grind [eo,dU]
 ·rw[h1,eo,dM h2,ef h2];intro;rfl
 ·rw[dM h1,ef h2,dM (by grind)];intro;rfl
 ·rw[dM h1,h2,eo,dM h1];intro;rfl
 grind [dM,dU]
theorem Lq(a b:BR)(h:okR a/\okR b):CQq7 46 [.d (.st (.pair y3Y y3Y)) a,.d (.st (.pair y3Y y3Y)) b] [.d ask (aD (ag a) (ag b))]:=by
 refine fI iS (ajj _ _ ⟨0,?_⟩);obtain⟨ha,hb⟩:=h;obtain⟨a1,a2⟩:=cM ha;obtain⟨b1,b2⟩:=cM hb;obtain⟨sa1,sa2⟩:=fU ha;obtain⟨sb1,sb2⟩:=fU hb;have h1:=cK sa1 sb2;have h2:=cK sb1 sa2;unfold YS;rw[aoP ha,aoP hb];dsimp only;have hs:=MW (ag a) (ag b);by_cases hc:b9 (aD (ag a) 0) (aD (ag b) 0)=0
 ·rw[hc,aoP (show okI a.1/\okI b.2 from⟨ha.1,hb.2.1⟩),aoP (show okI b.1/\okI a.2 from⟨hb.1,ha.2.1⟩),aoP (show okI (ah (ab a.1*ab b.2))/\okI (ah (ab b.1*ab a.2)) from⟨aT (by omega),aT (by omega)⟩),dec_enc,dec_enc,<-a1,<-a2,<-b1,<-b2,zq];rfl
 ·rw[show(b9 (aD (ag a) 0) (aD (ag b) 0) !=0)=T' by simpa using hc,hs hc]
theorem C4(a:BR)(h:okR a):CQq7 196 [.d (.st (.pair y3Y y3Y)) a] [.d (.st (.pair y3Y y3Y)) (av (-ag a))]:=by
 refine fI iS (akt _ ⟨0,?_⟩);obtain⟨a1,a2⟩:=cM h;unfold acn
 have e:av (-ag a)=(ah (-ab a.1),a.2):=by
  unfold av;rw[Rat.neg_num,a1,show((-ag a).den:Int)=((ag a).den:Int) from rfl,a2,<-gT h.2.1]
 rw[aoP h.1,e]
theorem Cx(a b:BR)(h:okR a/\okR b):CQq7 122 [.d (.st (.pair y3Y y3Y)) a,.d (.st (.pair y3Y y3Y)) b] [.d (.st (.pair y3Y y3Y)) (av (ag a+ag b))]:=by
 refine fI iS (als _ _ ⟨0,?_⟩);obtain⟨ha,hb⟩:=h;obtain⟨a1,a2⟩:=cM ha;obtain⟨b1,b2⟩:=cM hb;obtain⟨sa1,sa2⟩:=fU ha;obtain⟨sb1,sb2⟩:=fU hb;have pa:=ha.2.2.1;have pb:=hb.2.2.1;have h1:=cK sa1 sb2;have h2:=cK sb1 sa2;have h3:=cK sa2 sb2;have h4:=xe h1 h2;have h5:=xe sa1 sb1;have hda:ag a=Rat.divInt (ab a.1) (ab a.2):=by rw[<-a1,<-a2,apR]
 have hdb:ag b=Rat.divInt (ab b.1) (ab b.2):=by rw[<-b1,<-b2,apR]
 unfold ab0;rw[aoP (show okI a.2/\okI b.2 from⟨ha.2.1,hb.2.1⟩)];dsimp only;by_cases hc:ab a.2=ab b.2
 ·rw[hc,dU,aoP (show okI a.1/\okI b.1 from⟨ha.1,hb.1⟩)];rw[aoP (show jk (ah (ab a.1+ab b.1)) a.2 from⟨aT (by omega),ha.2.1,by omega⟩)]
  have e:eT (ah (ab a.1+ab b.1)) a.2=av (ag a+ag b):=by
   unfold eT;rw[dec_enc,hda,hdb,<-hc,Rat.divInt_eq_div,Rat.divInt_eq_div,Rat.divInt_eq_div,Rat.intCast_add];congr 1;grind
  rw[e];rfl
 ·have hcm:(b9 (ab a.2) (ab b.2)==0)=false:=by
   rcases aq4 hc with h|h
   ·rw[da h];rfl
   ·rw[cH h];rfl
  rw[hcm,aoP (show okI a.1/\okI b.2 from⟨ha.1,hb.2.1⟩),aoP (show okI b.1/\okI a.2 from⟨hb.1,ha.2.1⟩),aoP (show okI (ah (ab a.1*ab b.2))/\okI (ah (ab b.1*ab a.2)) from⟨aT (by omega),aT (by omega)⟩)];simp only[dec_enc];rw[aoP (show jk (ah (ab a.1*ab b.2+ab b.1*ab a.2)) (ah (ab a.2*ab b.2)) from⟨aT (by omega),aT (by omega),by rw[dec_enc];exact arz (by omega) (by omega)⟩)]
  have e:eT (ah (ab a.1*ab b.2+ab b.1*ab a.2)) (ah (ab a.2*ab b.2))=av (ag a+ag b):=by
   unfold eT;rw[dec_enc,dec_enc,hda,hdb,Rat.divInt_add_divInt _ _ (by omega) (by omega)]
  rw[e]
theorem Jt(a b:BR)(h:okR a/\okR b):CQq7 123 [.d (.st (.pair y3Y y3Y)) a,.d (.st (.pair y3Y y3Y)) b] [.d (.st (.pair y3Y y3Y)) (av (ag a*ag b))]:=by
 refine fI iS (amp _ _ ⟨0,?_⟩);obtain⟨ha,hb⟩:=h;obtain⟨a1,a2⟩:=cM ha;obtain⟨b1,b2⟩:=cM hb;obtain⟨sa1,sa2⟩:=fU ha;obtain⟨sb1,sb2⟩:=fU hb;have pa:=ha.2.2.1;have pb:=hb.2.2.1;have h1:=cK sa1 sb1;have h3:=cK sa2 sb2;have hda:ag a=Rat.divInt (ab a.1) (ab a.2):=by rw[<-a1,<-a2,apR]
 have hdb:ag b=Rat.divInt (ab b.1) (ab b.2):=by rw[<-b1,<-b2,apR]
 unfold Zt;rw[aoP (show okI a.1/\okI b.1 from⟨ha.1,hb.1⟩),aoP (show okI a.2/\okI b.2 from⟨ha.2.1,hb.2.1⟩),aoP (show jk (ah (ab a.1*ab b.1)) (ah (ab a.2*ab b.2)) from⟨aT (by omega),aT (by omega),by rw[dec_enc];exact arz (by omega) (by omega)⟩)]
 have e:eT (ah (ab a.1*ab b.1)) (ah (ab a.2*ab b.2))=av (ag a*ag b):=by
  unfold eT;rw[dec_enc,dec_enc,hda,hdb,arA]
 rw[e]
def jK(a b:BR):Prop:=okR a/\okR b/\ab b.1≠0
instance (a b:BR):Decidable (jK a b):=by unfold jK;infer_instance
theorem Kp(a b:BR)(h:jK a b):CQq7 164 [.d (.st (.pair y3Y y3Y)) a,.d (.st (.pair y3Y y3Y)) b] [.d (.st (.pair y3Y y3Y)) (av (ag a/ag b)),.d ask 0]:=by
 refine fI iS (ai3 _ _ ⟨0,?_⟩);obtain⟨ha,hb,hne⟩:=h;obtain⟨a1,a2⟩:=cM ha;obtain⟨b1,b2⟩:=cM hb;obtain⟨sa1,sa2⟩:=fU ha;obtain⟨sb1,sb2⟩:=fU hb;have pa:=ha.2.2.1;have h1:=cK sa1 sb2;have h3:=cK sa2 sb1;have hda:ag a=Rat.divInt (ab a.1) (ab a.2):=by rw[<-a1,<-a2,apR]
 have hdb:ag b=Rat.divInt (ab b.1) (ab b.2):=by rw[<-b1,<-b2,apR]
 have hnz:(aD (ag b) 0==0)=false:=by
  rw[<-vB,b1];rcases aq4 hne with h|h
  ·rw[da h];rfl
  ·rw[cH h];rfl
 unfold ZJ;rw[aoP hb,hnz,aoP (show okI a.1/\okI b.2 from⟨ha.1,hb.2.1⟩),aoP (show okI a.2/\okI b.1 from⟨ha.2.1,hb.1⟩),aoP (show jk (ah (ab a.1*ab b.2)) (ah (ab a.2*ab b.1)) from⟨aT (by omega),aT (by omega),by rw[dec_enc];exact arz (by omega) hne⟩)]
 have e:eT (ah (ab a.1*ab b.2)) (ah (ab a.2*ab b.1))=av (ag a/ag b):=by
  unfold eT;rw[dec_enc,dec_enc,hda,hdb,Rat.div_def,Rat.inv_divInt,arA]
 rw[e]
def Rb:cE:=spN F' F' [(.st (.pair y3Y y3Y)),(.st (.pair y3Y y3Y))] (λx=>D' (okR x.1/\okR x.2.1)) (λx=>[RV.d (.st (.pair y3Y y3Y)) (av (ag x.1+ag x.2.1))])
theorem No:SpK 122 Rb:=spX λx h=>Cx x.1 x.2.1 (aoQ h)
def Ud:cE:=spN F' F' [(.st (.pair y3Y y3Y))] (λx=>D' (okR x.1)) (λx=>[RV.d (.st (.pair y3Y y3Y)) (av (-ag x.1))])
theorem UK:SpK 196 Ud:=spX λx h=>C4 x.1 (aoQ h)
def JU:Env:=[(269,pe),(178,uQ),(108,rW),(202,pC),(273,vc),(109,ut),(193,yI),(201,Dz),(107,Eu),(270,HC),(94,Hw),(122,Rb),(196,Ud)]
theorem IK:EnvAll Tryz.prog JU:=⟨kR,qa,mS,kv,oV,pH,ti,xV,yj,GG,E4,No,UK,trivial⟩
def akR:Ctx:=CX JU []
def ZA(a b:(Bool×List Int)×Bool×List Int)(_k:KT):OLR:=match D' (okR b)with|T'=>(match D' (okR a/\okR (av (-ag b)))with|T'=>S' [RV.d (.st (.pair y3Y y3Y)) (((av (ag a+ag (av (-ag b)))).1),((av (ag a+ag (av (-ag b)))).2))]|F'=>Nn')|F'=>Nn'
theorem aiy(a b:(Bool×List Int)×Bool×List Int):RS akR 165 [.d (.st (.pair y3Y y3Y)) a,.d (.st (.pair y3Y y3Y)) b] (ZA a b):=rsX
theorem K7(a b:BR)(h:okR a/\okR b):CQq7 165 [.d (.st (.pair y3Y y3Y)) a,.d (.st (.pair y3Y y3Y)) b] [.d (.st (.pair y3Y y3Y)) (av (ag a-ag b))]:=by
 refine fI IK (aiy _ _ ⟨0,?_⟩);obtain⟨ha,hb⟩:=h;unfold ZA;rw[aoP hb,eP,Rat.sub_eq_add_neg,aoP (show okR a/\okR (av (-ag b)) from⟨ha,qA (wT (Ch hb)) (aoU _)⟩)]
section
namespace RL
theorem ku{x y B e:Rat}(h1:x<B)(h2: -B<x)(h3:y<e)(h4: -e<y):x*y<B*e:=by
 have p:=apK (a:=B-x) (b:=e+y) (by grind) (by grind);have q:=apK (a:=B+x) (b:=e-y) (by grind) (by grind);grind
theorem acA{e:Rat}(h:0<e):0<e/2:=by grind
theorem Az{e B:Rat}(h:0<e)(hB:0<B):∃d,0<d/\B*d+B*d<e:=by
 refine⟨e/(4*B),?_,?_⟩
 ·exact apK h (Rat.inv_pos.2 (by grind))
 ·have:B*(e/(4*B))=e/4:=by grind
  grind
structure CS where
 f:Nat->Rat
 cau:∀e:Rat,0<e->∃N,∀m n,N<=m->N<=n->f m-f n<e
theorem CS.bd(a:CS):∃B:Rat,0<B/\∃N,∀n,N<=n-> -B<a.f n/\a.f n<B:=by
 obtain⟨N,h⟩:=a.cau 1 (by grind);refine⟨(if 0<=a.f N then a.f N else-a.f N)+1,?_,N,λn hn=>?_⟩
 ·split<;>grind
 ·have h1:=h n N hn (aoU _);have h2:=h N n (aoU _) hn;split<;>grind
def add(a b:CS):CS:=⟨λn=>a.f n+b.f n,λe he=>by
 obtain⟨N,h⟩:=a.cau (e/2) (by grind);obtain⟨M,h'⟩:=b.cau (e/2) (by grind);refine⟨max N M,λm n hm hn=>?_⟩;have:=h m n (by omega) (by omega);have:=h' m n (by omega) (by omega);grind⟩
def neg(a:CS):CS:=⟨λn=> -a.f n,λe he=>by
 obtain⟨N,h⟩:=a.cau e he;exact⟨N,λm n hm hn=>by have:=h n m hn hm;grind⟩⟩
theorem TL(a b:CS)(e:Rat)(he:0<e):∃N,∀m n,N<=m->N<=n->a.f m*b.f m-a.f n*b.f n<e:=by
 obtain⟨A,hA,N1,h1⟩:=a.bd;obtain⟨B,hB,N2,h2⟩:=b.bd;obtain⟨d,hd,hd'⟩:=Az (e:=e) (B:=A+B) he (by grind);obtain⟨N3,h3⟩:=a.cau d hd;obtain⟨N4,h4⟩:=b.cau d hd;refine⟨max (max N1 N2) (max N3 N4),λm n hm hn=>?_⟩;have a1:=h1 m (by omega);have b1:=h2 n (by omega);have p:=ku a1.2 a1.1 (h4 m n (by omega) (by omega)) (by have:=h4 n m (by omega) (by omega);grind);have q:=ku b1.2 b1.1 (h3 m n (by omega) (by omega)) (by have:=h3 n m (by omega) (by omega);grind);have r:=apK hA hd;have s:=apK hB hd;grind
def mul(a b:CS):CS:=⟨λn=>a.f n*b.f n,TL a b⟩
def eqv(a b:CS):Prop:=∀e:Rat,0<e->∃N,∀n,N<=n->a.f n-b.f n<e/\b.f n-a.f n<e
instance st:Setoid CS where
 r:=eqv
 iseqv:=⟨λa e he=>⟨0,λn _=>by grind⟩,λh e he=>by
   obtain⟨N,h⟩:=h e he;exact⟨N,λn hn=>⟨(h n hn).2,(h n hn).1⟩⟩,
  λh h' e he=>by
  obtain⟨N,h⟩:=h (e/2) (by grind);obtain⟨M,h'⟩:=h' (e/2) (by grind);refine⟨max N M,λn hn=>?_⟩;have:=h n (by omega);have:=h' n (by omega);grind⟩
def const(q:Rat):CS:=⟨λ_=>q,λe he=>⟨0,λm n _ _=>by grind⟩⟩
end RL
def RE:Type:=Quotient RL.st
namespace RE
open RL
def of(q:Rat):RE:=Quotient.mk _ (const q)
theorem afI(a b a' b':CS)(h:a≈a')(h':b≈b'):add a b≈add a' b':=λe he=>by
 obtain⟨N,h⟩:=h (e/2) (by grind);obtain⟨M,h'⟩:=h' (e/2) (by grind);refine⟨max N M,λn hn=>?_⟩;have:=h n (by omega);have:=h' n (by omega);simp only[RL.add];grind
theorem agP(a a':CS)(h:a≈a'):neg a≈neg a':=λe he=>by
 obtain⟨N,h⟩:=h e he;refine⟨N,λn hn=>?_⟩;have:=h n (by omega);simp only[RL.neg];grind
theorem afg(a b a' b':CS)(h:a≈a')(h':b≈b'):mul a b≈mul a' b':=λe he=>by
 obtain⟨A,hA,N1,h1⟩:=a.bd;obtain⟨B,hB,N2,h2⟩:=b'.bd;obtain⟨d,hd,hd'⟩:=Az (e:=e) (B:=A+B) he (by grind);obtain⟨N3,h3⟩:=h d hd;obtain⟨N4,h4⟩:=h' d hd;refine⟨max (max N1 N2) (max N3 N4),λn hn=>?_⟩;have a1:=h1 n (by omega);have b1:=h2 n (by omega);have a3:=h3 n (by omega);have b3:=h4 n (by omega);have p:=ku a1.2 a1.1 (y:=b.f n-b'.f n) b3.1 (by grind);have q:=ku b1.2 b1.1 (y:=a.f n-a'.f n) a3.1 (by grind);have p':=ku a1.2 a1.1 (y:=b'.f n-b.f n) b3.2 (by grind);have q':=ku b1.2 b1.1 (y:=a'.f n-a.f n) a3.2 (by grind);have r:=apK hA hd;have s:=apK hB hd;simp only[RL.mul];constructor<;>grind
instance:Add RE:=⟨Quotient.lift₂ (λa b=>Quotient.mk _ (add a b)) (λ_ _ _ _ h h'=>arK (afI _ _ _ _ h h'))⟩
instance:Neg RE:=⟨Quotient.lift (λa=>Quotient.mk _ (neg a)) (λ_ _ h=>arK (agP _ _ h))⟩
instance:Sub RE:=⟨λa b=>a+ -b⟩
instance:Mul RE:=⟨Quotient.lift₂ (λa b=>Quotient.mk _ (mul a b)) (λ_ _ _ _ h h'=>arK (afg _ _ _ _ h h'))⟩
theorem snd{a b:CS}(h:∀n,a.f n=b.f n):(Quotient.mk st a:RE)=Quotient.mk st b:=
 arK λe he=>⟨0,λn _=>by rw[h n];grind⟩
instance (n:Nat):OfNat RE n:=⟨of (OfNat.ofNat n)⟩
theorem of_add(a b:Rat):of (a+b)=of a+of b:=rfl
theorem bR(a b:Rat):of (a*b)=of a*of b:=rfl
theorem of_neg(a:Rat):of (-a)= -of a:=rfl
theorem of_sub(a b:Rat):of (a-b)=of a-of b:=by rw[Rat.sub_eq_add_neg];rfl
theorem sN:of 0=0:=rfl
theorem U2:of 1=1:=rfl
theorem add_zero(a:RE):a+0=a:=by
 induction a using aqa;exact snd λn=>Rat.add_zero _
theorem add_comm(a b:RE):a+b=b+a:=by
 induction a,b using arB;exact snd λn=>Rat.add_comm _ _
theorem add_assoc(a b c:RE):a+b+c=a+(b+c):=by
 induction a,b,c using aq5;exact snd λn=>Rat.add_assoc _ _ _
theorem mul_assoc(a b c:RE):a*b*c=a*(b*c):=by
 induction a,b,c using aq5;exact snd λn=>Rat.mul_assoc _ _ _
theorem mul_comm(a b:RE):a*b=b*a:=by
 induction a,b using arB;exact snd λn=>aqp _ _
theorem mul_one(a:RE):a*1=a:=by
 induction a using aqa;exact snd λn=>Rat.mul_one _
theorem mul_zero(a:RE):a*0=0:=by
 induction a using aqa;exact snd λn=>Rat.mul_zero _
theorem left_distrib(a b c:RE):a*(b+c)=a*b+a*c:=by
 induction a,b,c using aq5;exact snd λn=>Rat.mul_add _ _ _
theorem DJ(a:RE): -a+a=0:=by
 induction a using aqa;exact snd λn=>Rat.neg_add_cancel _
def clt(a b:CS):Prop:=∃e:Rat,0<e/\∃N,∀n,N<=n->a.f n+e<b.f n
theorem R8(a b a' b':CS)(h:a≈a')(h':b≈b')(hl:clt a b):clt a' b':=by
 obtain⟨e,he,N,hl⟩:=hl;obtain⟨N1,h⟩:=h (e/4) (by grind);obtain⟨N2,h'⟩:=h' (e/4) (by grind);refine⟨e/2,by grind,max N (max N1 N2),λn hn=>?_⟩;have:=hl n (by omega);have:=h n (by omega);have:=h' n (by omega);grind
instance:LT RE:=⟨Quotient.lift₂ clt (λ_ _ _ _ h h'=>propext ⟨R8 _ _ _ _ h h',R8 _ _ _ _ (Setoid.symm h) (Setoid.symm h')⟩)⟩
instance:LE RE:=⟨λa b=>¬b<a⟩
theorem lt_irrefl(a:RE):¬a<a:=by
 induction a using aqa
 rintro ⟨e,he,N,h⟩
 have:=h N (aoU _);grind
theorem eI{a b c:RE}:a<b->b<c->a<c:=by
 induction a,b,c using aq5
 rintro ⟨e,he,N,h⟩ ⟨e',he',N',h'⟩
 refine⟨e,he,max N N',λn hn=>?_⟩;have:=h n (by omega);have:=h' n (by omega);grind
theorem oB(a b:RE):a<b\/a=b\/b<a:=by
 induction a,b using arB
 rename_i a b;by_cases h1:clt a b
 ·exact .inl h1
 by_cases h2:clt b a
 ·exact .inr (.inr h2)
 refine .inr (.inl (arK λe he=>?_));obtain⟨N,ha⟩:=a.cau (e/4) (by grind);obtain⟨M,hb⟩:=b.cau (e/4) (by grind)
 have g1:∃n,max N M<=n/\b.f n<=a.f n+e/4:=by
  apply apb;intro hc
  exact h1 ⟨e/4,by grind,max N M,λn hn=>by
   apply apb;intro h;exact hc ⟨n,hn,by grind⟩⟩
 have g2:∃n,max N M<=n/\a.f n<=b.f n+e/4:=by
  apply apb;intro hc
  exact h2 ⟨e/4,by grind,max N M,λn hn=>by
   apply apb;intro h;exact hc ⟨n,hn,by grind⟩⟩
 obtain⟨p,hp,gp⟩:=g1;obtain⟨q,hq,gq⟩:=g2;refine⟨max N M,λn hn=>?_⟩;have a1:=ha n q (by omega) (by omega);have b1:=hb q n (by omega) (by omega);have a2:=ha p n (by omega) (by omega);have b2:=hb n p (by omega) (by omega);constructor<;>grind
theorem nA{a b:RE}(c:RE):a<b->a+c<b+c:=by
 induction a,b,c using aq5
 rintro ⟨e,he,N,h⟩
 refine⟨e,he,N,λn hn=>?_⟩;have:=h n hn;simp only[RL.add];grind
theorem mul_pos{a b:RE}:0<a->0<b->0<a*b:=by
 induction a,b using arB
 rintro ⟨e,he,N,h⟩ ⟨e',he',N',h'⟩
 refine⟨e*e',apK he he',max N N',λn hn=>?_⟩;have h1:=h n (by omega);have h2:=h' n (by omega);simp only[RL.const]at h1 h2 ⊢;rename_i a b;have p:=apK (a:=a.f n-e) (b:=b.f n-e') (by grind) (by grind);have q:=apK (a:=a.f n-e) (b:=e') (by grind) (by grind);have r:=apK (a:=e) (b:=b.f n-e') (by grind) (by grind);simp only[RL.mul];grind
theorem kE{a b:Rat}(h:a<b):of a<of b:=⟨(b-a)/2,by grind,0,λn _=>by simp only[RL.const];grind⟩
end RE
end
section
namespace RE
open RL
theorem Eh(a b:RE):a<=b↔¬b<a:=Iff.rfl
theorem le_of_lt{a b:RE}(h:a<b):a<=b:=λh'=>lt_irrefl a (eI h h')
theorem lt_or_ge(a b:RE):a<b\/b<=a:=by
 by_cases h:a<b
 ·exact .inl h
 ·exact .inr h
theorem le_antisymm{a b:RE}(h1:a<=b)(h2:b<=a):a=b:=by
 rcases oB a b with h|h|h
 ·exact absurd h h2
 ·exact h
 ·exact absurd h h1
theorem le_trans{a b c:RE}(h1:a<=b)(h2:b<=c):a<=c:=λh=>by
 rcases oB a b with h'|h'|h'
 ·exact h2 (eI h h')
 ·subst h';exact h2 h
 ·exact h1 h'
theorem zero_lt_one:(0:RE)<1:=kE (by decide+kernel:(0:Rat)<1)
theorem lS(a:RE):a+ -a=0:=by rw[add_comm,DJ]
theorem vL{a:RE}(h:a<0):0< -a:=by
 have:=nA (-a) h;rw[lS,add_comm,add_zero]at this;exact this
theorem aep{a:RE}(h:0<a): -a<0:=by
 have:=nA (-a) h;rw[lS,add_comm,add_zero]at this;exact this
instance:Std.IsLinearOrder RE where
 le_refl a:=lt_irrefl a
 le_trans _ _ _:=le_trans
 le_antisymm _ _:=le_antisymm
 le_total a b:=by
  rcases lt_or_ge a b with h|h
  ·exact .inl (le_of_lt h)
  ·exact .inr h
instance:Std.LawfulOrderLT RE where
 lt_iff a b:=⟨λh=>⟨le_of_lt h,λh'=>h' h⟩,λh=>by
  rcases lt_or_ge a b with h'|h'
  ·exact h'
  ·exact absurd h' h.2⟩
theorem xS{a b:RE}:¬a<=b↔b<a:=⟨λh=>by
  rcases lt_or_ge b a with h'|h'
  ·exact h'
  ·exact absurd h' h,λh h'=>h' h⟩
theorem bE{a b:RE}(h:a<b):0<b-a:=by
 have:=nA (-a) h;rw[lS]at this;exact this
theorem aN{a b:RE}(h:a<=b):0<=b-a:=λh'=>h (by
 have:=nA a h'
 have e:b-a+a=b:=by
  show b+ -a+a=b;rw[add_assoc,DJ,add_zero]
 rw[e,add_comm,add_zero]at this;exact this)
theorem oT{a:RE}(h:0<=a):0<a\/a=0:=by
 rcases oB 0 a with h'|h'|h'
 ·exact .inl h'
 ·exact .inr h'.symm
 ·exact absurd h' h
theorem le_refl(a:RE):a<=a:=lt_irrefl a
theorem t7{a b:RE}(h:a=b):a<=b:=by rw[h];exact le_refl _
theorem sY{a b:RE}(h:a=b):b<=a:=by rw[h];exact le_refl _
theorem zero_mul(a:RE):0*a=0:=by rw[mul_comm,mul_zero]
theorem zero_add(a:RE):0+a=a:=by rw[add_comm,add_zero]
theorem one_mul(a:RE):1*a=a:=by rw[mul_comm,mul_one]
theorem cq{a b:RE}(h:0<=a)(h':0<=b):0<=a*b:=by
 rcases oT h with h1|h1
 ·rcases oT h' with h2|h2
  ·exact le_of_lt (mul_pos h1 h2)
  ·rw[h2,mul_zero];exact le_refl _
 ·rw[h1,zero_mul];exact le_refl _
theorem aW{a b:RE}(h:0<a)(h':0<=b):0<a+b:=by
 have:=nA b h;rw[zero_add]at this;rcases oT h' with h2|h2
 ·exact eI h2 this
 ·rw[h2,add_zero];exact h
theorem Il(a:RE):0<=a*a:=by
 rcases lt_or_ge a 0 with h|h
 ·have h1:=vL h;have h2:=mul_pos h1 h1
  have e: -a* -a=a*a:=by
   induction a using aqa
   exact snd λn=>by show-_* -_=_*_;grind
  rw[e]at h2;exact le_of_lt h2
 ·exact cq h h
instance:NatCast RE:=⟨λn=>of (n:Rat)⟩
instance:IntCast RE:=⟨λn=>of (n:Rat)⟩
instance:SMul Nat RE:=⟨λn a=>of (n:Rat)*a⟩
instance:SMul Int RE:=⟨λn a=>of (n:Rat)*a⟩
def pw(a:RE):Nat->RE
 |0=>1
 |n+1=>pw a n*a
instance:Pow RE Nat:=⟨pw⟩
instance:Lean.Grind.CommRing RE where
 add_zero:=add_zero
 add_comm:=add_comm
 add_assoc:=add_assoc
 mul_assoc:=mul_assoc
 mul_one:=mul_one
 mul_comm:=mul_comm
 left_distrib:=left_distrib
 mul_zero:=mul_zero
 zero_mul:=zero_mul
 one_mul:=one_mul
 right_distrib a b c:=by rw[mul_comm,left_distrib,mul_comm c,mul_comm c]
 pow_zero _:=rfl
 pow_succ _ _:=rfl
 ofNat_succ n:=by
  show of ((OfNat.ofNat (n+1):Rat))=of ((OfNat.ofNat n:Rat))+of 1;rw[<-of_add];congr 1;show(((n+1:Nat):Rat))=((n:Nat):Rat)+1;rw[Rat.natCast_add];rfl
 ofNat_eq_natCast _:=rfl
 nsmul_eq_natCast_mul _ _:=rfl
 neg_add_cancel:=DJ
 sub_eq_add_neg _ _:=rfl
 neg_zsmul i a:=by
  show of ((-i:Int):Rat)*a= -(of (i:Rat)*a)
  rw[arC,of_neg];induction a using aqa
  exact snd λn=>by show-_*_= -(_*_);grind
 zsmul_natCast_eq_nsmul _ _:=rfl
 intCast_ofNat _:=rfl
 intCast_neg i:=by show of _= -of _;rw[arC,of_neg]
theorem Ld{a b c:RE}(h:a<b)(hc:0<c):c*a<c*b:=by
 have h1:=nA (-a) h;rw[lS]at h1;have h2:=nA (c*a) (mul_pos hc h1);rwa [show c*(b+ -a)+c*a=c*b by grind,zero_add]at h2
instance:Lean.Grind.OrderedRing RE where
 add_le_left_iff {a b} c:=⟨λh h'=>h (by
   have:=nA (-c) h';rw[add_assoc,add_assoc,lS,add_zero,add_zero]at this;exact this),λh h'=>h (nA c h')⟩
 zero_lt_one:=zero_lt_one
 mul_lt_mul_of_pos_left:=Ld
 mul_lt_mul_of_pos_right {a b c} h hc:=by
  rw[mul_comm a,mul_comm b];exact Ld h hc
theorem LD{c:Rat}(hc:(0:Rat)<c){a:RE}(h:0<a):0<of c*a:=mul_pos (kE hc) h
theorem lB{c:Rat}(hc:(0:Rat)<c){a:RE}(h:0<=a):0<=of c*a:=cq (le_of_lt (kE hc)) h
theorem far{s:RE}(h:0<s)(e:s=0):False:=by rw[e]at h;exact lt_irrefl _ h
theorem WO(x y:RE):((y*y-(x*x)))+((x-(0))*(x-(y)))+((y-(0))*(x-(y)))=0:=by grind
theorem sq_lt(x y:RE)(h1:0<=x)(h2:0<=y)(h3:x*x<y*y):x<y:=xS.1 λhg=>far (aW (aW (bE h3) (cq (aN h1) (aN hg))) (cq (aN h2) (aN hg))) (WO x y)
theorem Wi(x y:RE):((x-(y))*(x-(y)))+((y*y-(x*x)))+2*((y-(0))*(x-(y)))=0:=by grind
theorem QQ(x y:RE)(_h1:0<=x)(h2:0<=y)(h3:x*x<=y*y):x<=y:=λhg=>far (aW (aW (mul_pos (bE hg) (bE hg)) (aN h3)) (lB (by decide+kernel:(0:Rat)<2) (cq (aN h2) (le_of_lt (bE hg))))) (Wi x y)
theorem L7(x y:RE):((x*x-(y*y)))+2*((x-(0))*(y-(x)))+((y-(x))*(y-(x)))=0:=by grind
theorem um(x y:RE)(h1:0<=x)(h2:x<=y):x*x<=y*y:=λhg=>far (aW (aW (bE hg) (lB (by decide+kernel:(0:Rat)<2) (cq (aN h1) (aN h2)))) (cq (aN h2) (aN h2))) (L7 x y)
theorem adJ(x y:RE):((y-(x))*(y-(x)))+((x*x-(y*y)))+2*((x-(0))*(y-(x)))=0:=by grind
theorem Ux(x y:RE):((x-(y))*(x-(y)))+((y*y-(x*x)))+2*((y-(0))*(x-(y)))=0:=by grind
theorem acY(x y:RE)(_h1:0<=x)(h2:0<=y)(h3:x*x=y*y):x<=y:=λhg=>far (aW (aW (mul_pos (bE hg) (bE hg)) (aN (t7 h3))) (lB (by decide+kernel:(0:Rat)<2) (cq (aN h2) (le_of_lt (bE hg))))) (Ux x y)
theorem NV(x y:RE):((y-(x))*(y-(x)))+((x*x-(y*y)))+2*((x-(0))*(y-(x)))=0:=by grind
theorem aee(x y:RE)(h1:0<=x)(_h2:0<=y)(h3:x*x=y*y):y<=x:=λhg=>far (aW (aW (mul_pos (bE hg) (bE hg)) (aN (sY h3))) (lB (by decide+kernel:(0:Rat)<2) (cq (aN h1) (le_of_lt (bE hg))))) (NV x y)
theorem acx(x y:RE)(h1:0<=x)(h2:0<=y)(h3:x*x=y*y):x=y:=le_antisymm (acY x y h1 h2 h3) (aee x y h1 h2 h3)
end RE
end
section
namespace RE
open RL
theorem ak4(q:Rat):∃k:Nat,q<(k:Rat):=by
 refine⟨(q.floor+1).toNat,?_⟩;have h1:q<((q.floor+1:Int):Rat):=(Rat.floor_lt_iff).1 (by omega);have h2:((q.floor+1:Int):Rat)<=(((q.floor+1).toNat:Int):Rat):=arn.2 (by omega);have h3:(((q.floor+1).toNat:Int):Rat)=(((q.floor+1).toNat:Nat):Rat):=ari _;rw[h3]at h2;grind
theorem XW(g d:Rat)(hg:0<=g)(hd:0<d):∃s:Rat,0<=s/\s*s<=g/\g<(s+d)*(s+d):=by
 apply apb;intro hn
 have step:∀k:Nat,((k:Rat)*d)*((k:Rat)*d)<=g:=by
  intro k;induction k with
  |zero=>rw[show((0:Nat):Rat)=0 from rfl];grind
  |succ k ih=>
   apply apb;intro hc;refine hn ⟨(k:Rat)*d,?_,ih,?_⟩
   ·have:(0:Rat)<=(k:Rat):=by
     have:=Rat.intCast_nonneg.2 (show(0:Int)<=(k:Int) by omega);rwa [ari]at this
    exact apH this (by grind)
   ·have e:(((k+1:Nat)):Rat)=(k:Rat)+1:=by rw[Rat.natCast_add];rfl
    rw[e]at hc;grind
 obtain⟨k,hk⟩:=ak4 ((g+1)/d)
 have h1:g+1<(k:Rat)*d:=by
  have:=apK (show 0<(k:Rat)-(g+1)/d by grind) hd;have e:((k:Rat)-(g+1)/d)*d=(k:Rat)*d-(g+1):=by grind
  grind
 have h2:=step k;have h3:=apK (show 0<(k:Rat)*d-(g+1) by grind) (show 0<(k:Rat)*d by grind);have h4:=apK (show 0<(k:Rat)*d-(g+1) by grind) (show 0<g+1 by grind);have h5:=apH hg hg;clear hn step hk;generalize (k:Rat)*d=t at h1 h2 h3 h4;grind
def eps(n:Nat):Rat:=1/((n:Rat)+1)
theorem r8(n:Nat):(0:Rat)<=(n:Rat):=by
 have:=Rat.intCast_nonneg.2 (show(0:Int)<=(n:Int) by omega);rwa [ari]at this
theorem sF(n:Nat):0<eps n:=by
 have:=r8 n;exact apK (by grind) (Rat.inv_pos.2 (by grind))
theorem AV(e:Rat)(he:0<e):∃N,∀n,N<=n->eps n<e:=by
 obtain⟨N,hN⟩:=ak4 (1/e);refine⟨N,λn hn=>?_⟩;have h0:=r8 n
 have h1:(N:Rat)<=(n:Rat):=by
  have:=arn.2 (show(N:Int)<=(n:Int) by omega);rwa [ari,ari]at this
 have h2:1/e<(n:Rat)+1:=by grind
 have h3:=apK (show 0<(n:Rat)+1-1/e by grind) (apK he (sF n));unfold eps at h3 ⊢
 have e1:((n:Rat)+1-1/e)*(e*(1/((n:Rat)+1)))=e-1/((n:Rat)+1):=by
  have:(n:Rat)+1≠0:=by grind
  have:e≠0:=by grind
  grind
 grind
theorem Ig(n:Nat):eps n<=1:=by
 have h0:=r8 n;have:=sF n;unfold eps at*
 have h3:=apH h0 (show(0:Rat)<=1/((n:Rat)+1) by grind)
 have e1:(n:Rat)*(1/((n:Rat)+1))=1-1/((n:Rat)+1):=by
  have:(n:Rat)+1≠0:=by grind
  grind
 grind
theorem TE{a b:Rat}(ha:0<=a)(hb:0<=b)(h:a*a<b*b):a<b:=by
 apply apb;intro hc;have:=apH (show 0<=a-b by grind) (show 0<=a+b by grind);grind
theorem DR(x:RE)(hx:0<=x):∃y:RE,0<=y/\y*y=x:=by
 induction x using aqa
 rename_i f
 have hc:∀n,∃s:Rat,0<=s/\s*s<=(if 0<=f.f n then f.f n else 0)/\(if 0<=f.f n then f.f n else 0)<(s+eps n)*(s+eps n):=λn=>
  XW _ _ (by split<;>grind) (sF n)
 let g:Nat->Rat:=λn=>if 0<=f.f n then f.f n else 0
 let s:Nat->Rat:=λn=>Classical.choose (hc n)
 have hs:∀n,0<=s n/\s n*s n<=g n/\g n<(s n+eps n)*(s n+eps n):=λn=>aqn (hc n)
 have hg:∀m n,g m-g n<=(if 0<=f.f m-f.f n then f.f m-f.f n else 0):=λm n=>by
  show(if 0<=f.f m then f.f m else 0)-(if 0<=f.f n then f.f n else 0)<=_;split<;>split<;>split<;>grind
 obtain⟨B,hB,NB,hBn⟩:=f.bd
 have hgB:∀n,NB<=n->g n<B:=λn hn=>by
  show(if 0<=f.f n then f.f n else 0)<B;have:=hBn n hn;split<;>grind
 have hsB:∀n,NB<=n->s n<B+1:=λn hn=>by
  have h1:=hs n;have h2:=hgB n hn;refine TE h1.1 (by grind) ?_;have:=apH (show 0<=B by grind) (show 0<=B by grind);grind
 have hcau:∀e:Rat,0<e->∃N,∀m n,N<=m->N<=n->s m-s n<e:=by
  intro e he;obtain⟨N1,h1⟩:=f.cau (e*e/4) (by have:=apK he he;grind);obtain⟨N2,h2⟩:=AV (e/2) (by grind);refine⟨max N1 N2,λm n hm hn=>?_⟩;apply apb;intro hne;have a1:=hs m;have a2:=hs n;have a3:=h1 m n (by omega) (by omega);have a4:=h2 n (by omega);have a5:=hg m n;have a6:=sF n;have p1:=apH (show 0<=s m-(s n+e) by grind) (show 0<=s m+(s n+e) by grind);have p2:=apH (show 0<=e/2-eps n by grind) (show 0<=(s n+e/2)+(s n+eps n) by grind);have p3:=apH (show 0<=e by grind) a2.1;have p4:=apK he he;split at a5<;>grind
 refine⟨Quotient.mk _ ⟨s,hcau⟩,?_,arK λe he=>?_⟩
 ·rintro ⟨e,he,N,h⟩
  have h1:=h N (aoU _);have h2:=(hs N).1;simp only[RL.const]at h1;grind
 ·-- s n*s n is near to f n
  have hneg:∃N,∀n,N<=n-> -(e/4)<f.f n:=by
   apply apb;intro hne;obtain⟨M,hM⟩:=f.cau (e/8) (by grind);refine hx ⟨e/16,by grind,M,λn hn=>?_⟩;apply apb;intro hge;refine hne ⟨M,λk hk=>?_⟩;have:=hM n k hn hk;simp only[RL.const]at hge;grind
  obtain⟨N1,h1⟩:=hneg;obtain⟨N2,h2⟩:=AV (e/(4*(B+2))) (apK he (Rat.inv_pos.2 (by grind)));refine⟨max (max N1 N2) NB,λn hn=>?_⟩;have a1:=hs n;have a2:=h1 n (by omega);have a3:=h2 n (by omega);have a4:=hsB n (by omega);have a5:=sF n;have a6:=Ig n
  have hgf:f.f n<=g n/\g n<f.f n+e/4:=by
   show f.f n<=(if 0<=f.f n then f.f n else 0)/\(if 0<=f.f n then f.f n else 0)<_;split<;>constructor<;>grind
  have p1:=apH (show 0<=eps n by grind) (show 0<=2*(B+2)-(2*s n+eps n) by grind)
  have p2:eps n*(2*(B+2))<e/2:=by
   have:=apK (show 0<e/(4*(B+2))-eps n by grind) (show 0<2*(B+2) by grind)
   have e1:(e/(4*(B+2))-eps n)*(2*(B+2))=e/2-eps n*(2*(B+2)):=by
    have:B+2≠0:=by grind
    grind
   grind
  simp only[RL.mul];constructor<;>grind
open Classical in
def z5(x:RE):RE:=if h:0<=x then Classical.choose (DR x h)else 0
theorem oZ(x:RE):0<=z5 x:=by
 unfold z5;split
 ·rename_i h;exact(aqn (DR x h)).1
 ·exact lt_irrefl 0
theorem CV{x:RE}(h:0<=x):z5 x*z5 x=x:=by
 unfold z5;rw[dif_pos h];exact(aqn (DR x h)).2
theorem oA{a b:Rat}:of a<=of b↔a<=b:=by
 constructor
 ·intro h;apply apb;intro hc;exact h (kE (by grind))
 ·intro h h';rcases(by grind:a<b\/a=b)with h1|h1
  ·exact lt_irrefl _ (eI h' (kE h1))
  ·rw[h1]at h';exact lt_irrefl _ h'
theorem I3{a b:Rat}(h:of a=of b):a=b:=by
 have h1:=oA.1 (show of a<=of b by rw[h];exact lt_irrefl _);have h2:=oA.1 (show of b<=of a by rw[h];exact lt_irrefl _);grind
end RE
end
section
namespace RE
open RL
open Classical in
def sg(x:RE):Int:=if 0<x then 1 else if x<0 then-1 else 0
theorem jg{x:RE}(h:0<x):sg x=1:=apB h
theorem oE{x:RE}(h:x<0):sg x= -1:=by unfold sg;rw[aph (λh'=>lt_irrefl _ (eI h h')),apB h]
theorem fq:sg 0=0:=by unfold sg;rw[aph (lt_irrefl _),aph (lt_irrefl _)]
theorem c8(x:RE):(0<x/\sg x=1)\/(x=0/\sg x=0)\/(x<0/\sg x= -1):=by
 rcases oB 0 x with h|h|h
 ·exact .inl ⟨h,jg h⟩
 ·exact .inr (.inl ⟨h.symm,by rw[<-h,fq]⟩)
 ·exact .inr (.inr ⟨h,oE h⟩)
theorem Q1{x:RE}:sg x=0↔x=0:=by
 rcases c8 x with⟨h,e⟩|⟨h,e⟩|⟨h,e⟩<;>rw[e]
 ·exact⟨λh'=>by omega,λh'=>by rw[h']at h;exact absurd h (lt_irrefl _)⟩
 ·exact⟨λ_=>h,λ_=>rfl⟩
 ·exact⟨λh'=>by omega,λh'=>by rw[h']at h;exact absurd h (lt_irrefl _)⟩
theorem aeP{x:RE}:sg x=1↔0<x:=by
 rcases c8 x with⟨h,e⟩|⟨h,e⟩|⟨h,e⟩<;>rw[e]
 ·exact⟨λ_=>h,λ_=>rfl⟩
 ·exact⟨λh'=>by omega,λh'=>by rw[h]at h';exact absurd h' (lt_irrefl _)⟩
 ·exact⟨λh'=>by omega,λh'=>absurd (eI h h') (lt_irrefl _)⟩
theorem neg_mul(a b:RE): -a*b= -(a*b):=by grind
theorem mul_neg(a b:RE):a* -b= -(a*b):=by grind
theorem neg_neg(a:RE): - -a=a:=by grind
theorem sub_self(a:RE):a-a=0:=by grind
theorem adU(x y:RE):(x+y)*(x-y)=x*x-y*y:=by grind
theorem P1(x y:RE):((x-(0))*(0-(y)))+((x*y-(0)))=0:=by grind
theorem OV(x y:RE)(h1:0<x)(h2:y<0):x*y<0:=xS.1 λhg=>far (aW (mul_pos (bE h1) (bE h2)) (aN hg)) (P1 x y)
theorem aeF(x y:RE)(h1:x<0)(h2:y<0):x+y<0:=by grind
theorem adp(x y:RE)(h1:0<x)(h2:y<0):0<x-y:=by grind
theorem aeQ(x y:RE)(h1:x<0)(h2:0<y):x-y<0:=by grind
theorem af7(x y:RE)(h1:0<x)(h2:0<y):0<x+y:=by grind
theorem PJ: -(0:RE)=0:=by rw[<-zero_add (-0),lS]
theorem adq(x:RE):sg (-x)= -sg x:=by
 rcases c8 x with⟨h,e⟩|⟨h,e⟩|⟨h,e⟩<;>rw[e]
 ·exact oE (aep h)
 ·rw[h,PJ,fq];rfl
 ·exact jg (vL h)
theorem vd(x y:RE):sg (x*y)=sg x*sg y:=by
 rcases c8 x with⟨h,e⟩|⟨h,e⟩|⟨h,e⟩<;>rw[e]
 ·rcases c8 y with⟨h',e'⟩|⟨h',e'⟩|⟨h',e'⟩<;>rw[e']
  ·exact jg (mul_pos h h')
  ·rw[h',mul_zero,fq];rfl
  ·exact oE (OV _ _ h h')
 ·rw[h,zero_mul,fq];omega
 ·rcases c8 y with⟨h',e'⟩|⟨h',e'⟩|⟨h',e'⟩<;>rw[e']
  ·rw[mul_comm];exact oE (OV _ _ h' h)
  ·rw[h',mul_zero,fq];rfl
  ·have:=mul_pos (vL h) (vL h');rw[neg_mul,mul_neg,neg_neg]at this;exact jg this
theorem sg_of(q:Rat):sg (of q)=aD q 0:=by
 rcases(by grind:q<0\/q=0\/0<q)with h|h|h
 ·rw[ef h];exact oE (kE h)
 ·rw[h,eo];exact fq
 ·rw[dM h];exact jg (kE h)
def addS(s t d:Int):Int:=bif t==0||s==t then s else bif s==0 then t else s*d
theorem Re(x y:RE):sg (x+y)=addS (sg x) (sg y) (sg (x*x-y*y)):=by
 rw[<-adU,vd];rcases c8 x with⟨h,e⟩|⟨h,e⟩|⟨h,e⟩<;>rw[e]
 ·rcases c8 y with⟨h',e'⟩|⟨h',e'⟩|⟨h',e'⟩<;>rw[e']
  ·exact jg (af7 _ _ h h')
  ·rw[h',add_zero,e];rfl
  ·rw[jg (adp _ _ h h')];show _=1*(_*1)
   omega
 ·rcases c8 y with⟨h',e'⟩|⟨h',e'⟩|⟨h',e'⟩<;>rw[e',h,zero_add,e']<;>rfl
 ·rcases c8 y with⟨h',e'⟩|⟨h',e'⟩|⟨h',e'⟩<;>rw[e']
  ·rw[oE (aeQ _ _ h h')];show _= -1*(_* -1)
   omega
  ·rw[h',add_zero,e];rfl
  ·exact oE (aeF _ _ h h')
end RE
end
def uN:Nat->Nat->Nat
 |0,_=>0
 |f+1,n=>bif decide (n=0)then 0 else bif decide ((2*uN f (n/4)+1)*(2*uN f (n/4)+1)<=n)then 2*uN f (n/4)+1 else 2*uN f (n/4)
def Qc(n:Nat):Nat:=uN (n.log2+1) n
theorem KR:∀(f n:Nat),n<2^f->uN f n*uN f n<=n/\n<(uN f n+1)*(uN f n+1)
 |0,n,h=>by
  have:n=0:=by simpa using h
  subst this;exact⟨aoU _,by decide⟩
 |f+1,n,h=>by
  rcases apJ n with h0|h0
  ·subst h0;show uN (f+1) 0*uN (f+1) 0<=0/\_;exact⟨aoU _,by show 0<(0+1)*(0+1);decide⟩
  ·have h4:n/4<2^f:=by
    rw[Nat.pow_succ]at h;omega
   obtain⟨h1,h2⟩:=KR f (n/4) h4;simp only[uN];rw[aoR (show ¬n=0 by omega)];generalize uN f (n/4)=s at h1 h2;have e1:(2*s)*(2*s)=4*(s*s):=by grind
   have e2:(2*s+1+1)*(2*s+1+1)=4*((s+1)*(s+1)):=by grind
   by_cases hc:(2*s+1)*(2*s+1)<=n
   ·rw[aoP hc];exact⟨hc,by show n<(2*s+1+1)*(2*s+1+1);rw[e2];omega⟩
   ·rw[aoR hc];exact⟨by show(2*s)*(2*s)<=n;rw[e1];omega,by show n<(2*s+1)*(2*s+1);omega⟩
theorem XF(n:Nat):Qc n*Qc n<=n/\n<(Qc n+1)*(Qc n+1):=KR _ n Nat.lt_log2_self
def bO(z:Int):Int:=(Qc z.toNat:Int)
theorem fS{z:Int}(h:0<=z):0<=bO z/\bO z*bO z<=z/\z<(bO z+1)*(bO z+1):=by
 obtain⟨h1,h2⟩:=XF z.toNat
 grind [bO]
theorem um{a b:Int}(ha:0<=a)(h:a<=b):a*a<=b*b:=aq8 h h ha (by omega)
theorem sq_lt{a b:Int}(hb:0<=b)(h:a*a<b*b):a<b:=by
 apply apb;intro hc;have:=um hb (show b<=a by omega);omega
theorem Wq{z s:Int}(h0:0<=s)(h1:s*s<=z)(h2:z<(s+1)*(s+1)):bO z=s:=by
 obtain⟨g0,g1,g2⟩:=fS (show 0<=z by have:=um (a:=0) (by omega) h0;omega);have a1:=sq_lt (b:=s+1) (a:=bO z) (by omega) (by omega);have a2:=sq_lt (b:=bO z+1) (a:=s) (by omega) (by omega);omega
theorem Nz{a x s:Int}(hx:0<x)(_hs:0<=s)(h1:s*s<=a):s<=(x+a/x)/2:=by
 have hq:=apC a x;have hm:=apE a hx;apply apb;intro hc;have h2:a/x<=2*s-x-1:=by omega
 have h3:x*(a/x)<=x*(2*s-x-1):=aoW h2 (by omega)
 have h4:0<=(s-x)*(s-x):=by
  rcases Int.le_total 0 (s-x)with h|h
  ·exact apN h h
  ·exact Int.mul_nonneg_of_nonpos_of_nonpos h h
 grind
theorem yc{a x s:Int}(hx:0<x)(hs:s<=x)(_h1:s*s<=a)(h2:a<(s+1)*(s+1))(h3:0<=s)(h:x<=(x+a/x)/2):x=s:=by
 have hq:=apC a x;have hm:=ap4 a (show x≠0 by omega);have h4:x<=a/x:=by omega
 have h5:x*x<=x*(a/x):=aoW h4 (by omega);have:=sq_lt (a:=x) (b:=s+1) (by omega) (by omega);omega
def fC(x:BI):BI:=bif x.1 then(F',[])else ah (bO (ab x))
def wm(x:BI):Int:=bif x.1 then 7 else 0
def w9:List En:=[⟨269,pe,kR⟩,⟨108,rW,mS⟩,⟨202,pC,kv⟩,⟨189,zn,sV⟩,⟨321,Ce,Ac⟩]
def aeE:NT:=[((337,25),{keep:=[1,2,5,6],hl:=6})]
def LB:Ctx:=CX (ens w9) aeE
def nZ(x:Bool×List Int)(b4_0:Bool)(b4_1:List Int):Cfg:=⟨337,[.blk 0],[(1,.box 0 0),(2,.box 1 0),(5,.box 4 0),(6,.box 5 0)],[.box 36 [SB x.1,.d asj x.2],.box 36 [SB F',.nil],.gone,.row 194 asl ([1]),.box 36 [SB b4_0,.d asj b4_1],.box 36 [SB ((ah (2:Int)).1),.d asj ((ah (2:Int)).2)]],0,[]⟩
def Ku(x:Bool×List Int)(k:KT):OLR:=match x.1 with|T'=>S' [RV.d y3Y (F',[]),RV.d ask 7]|F'=>(match(x.2.length:Int)==0 with|T'=>S' [RV.d y3Y (F',[]),RV.d ask 0]|F'=>(og (D' ((0:Int)<=i64.wrap (Int.tdiv (i64.wrap ((x.2.length:Int)+1)) 2)/\(i64.wrap (Int.tdiv (i64.wrap ((x.2.length:Int)+1)) 2))*((4:Nat):Int)<=140737488355328/\i64.wrap (Int.tdiv (i64.wrap ((x.2.length:Int)+1)) 2)<=140737488355328)) (og (D' (((List.replicate (i64.wrap (Int.tdiv (i64.wrap ((x.2.length:Int)+1)) 2)).toNat (0:Int)).length+([1]).length)*4<=140737488355328/\(List.replicate (i64.wrap (Int.tdiv (i64.wrap ((x.2.length:Int)+1)) 2)).toNat (0:Int)).length+([1]).length<=140737488355328)) (og (D' (aR ((List.replicate (i64.wrap (Int.tdiv (i64.wrap ((x.2.length:Int)+1)) 2)).toNat (0:Int))++([1])))) (og (D' (bI (2:Int))) (k 25 (nZ x ((ah (bZ F' (val ((List.replicate (i64.wrap (Int.tdiv (i64.wrap ((x.2.length:Int)+1)) 2)).toNat (0:Int))++([1]))))).1) ((ah (bZ F' (val ((List.replicate (i64.wrap (Int.tdiv (i64.wrap ((x.2.length:Int)+1)) 2)).toNat (0:Int))++([1]))))).2))))))))
theorem Uv(x:Bool×List Int):RS LB 337 [.d y3Y x] (Ku x):=rsX
def uY(x:Bool×List Int)(b4_0:Bool)(b4_1:List Int)(k:KT):OLR:=og (D' (fa x (b4_0,b4_1))) (cW (og (D' (okI (b4_0,b4_1)/\okI (ah (ab x/ab (b4_0,b4_1))))) (cW (og (D' (fa (ah (ab (b4_0,b4_1)+ab (ah (ab x/ab (b4_0,b4_1))))) (ah (2:Int)))) (dup (.b .l .l) (og (D' (okI (ah (ab (ah (ab (b4_0,b4_1)+ab (ah (ab x/ab (b4_0,b4_1)))))/ab (ah (2:Int))))/\okI (b4_0,b4_1))) (match D' ((b9 (ab (ah (ab (ah (ab (b4_0,b4_1)+ab (ah (ab x/ab (b4_0,b4_1)))))/ab (ah (2:Int))))) (ab (b4_0,b4_1)))>=0)with|T'=>S' [RV.d y3Y (b4_0,b4_1),RV.d ask 0]|F'=>k 25 (nZ x ((ah (ab (ah (ab (b4_0,b4_1)+ab (ah (ab x/ab (b4_0,b4_1)))))/ab (ah (2:Int)))).1) ((ah (ab (ah (ab (b4_0,b4_1)+ab (ah (ab x/ab (b4_0,b4_1)))))/ab (ah (2:Int)))).2)))))) (dup (.b (.b .l .l) (.b .l .l)) (og (D' (fa (ah (ab (b4_0,b4_1)+ab (ah (ab x/ab (b4_0,b4_1))))) (ah (2:Int)))) (og (D' (okI (ah (ab (ah (ab (b4_0,b4_1)+ab (ah (ab x/ab (b4_0,b4_1)))))/ab (ah (2:Int))))/\okI (b4_0,b4_1))) (match D' ((b9 (ab (ah (ab (ah (ab (b4_0,b4_1)+ab (ah (ab x/ab (b4_0,b4_1)))))/ab (ah (2:Int))))) (ab (b4_0,b4_1)))>=0)with|T'=>S' [RV.d y3Y (b4_0,b4_1),RV.d ask 0]|F'=>k 25 (nZ x ((ah (ab (ah (ab (b4_0,b4_1)+ab (ah (ab x/ab (b4_0,b4_1)))))/ab (ah (2:Int)))).1) ((ah (ab (ah (ab (b4_0,b4_1)+ab (ah (ab x/ab (b4_0,b4_1)))))/ab (ah (2:Int)))).2)))))))) (dup (.b .l .l) (cW (og (D' (okI (b4_0,b4_1)/\okI (ah (ab x/ab (b4_0,b4_1))))) (dup (.b .l .l) (og (D' (fa (ah (ab (b4_0,b4_1)+ab (ah (ab x/ab (b4_0,b4_1))))) (ah (2:Int)))) (og (D' (okI (ah (ab (ah (ab (b4_0,b4_1)+ab (ah (ab x/ab (b4_0,b4_1)))))/ab (ah (2:Int))))/\okI (b4_0,b4_1))) (match D' ((b9 (ab (ah (ab (ah (ab (b4_0,b4_1)+ab (ah (ab x/ab (b4_0,b4_1)))))/ab (ah (2:Int))))) (ab (b4_0,b4_1)))>=0)with|T'=>S' [RV.d y3Y (b4_0,b4_1),RV.d ask 0]|F'=>k 25 (nZ x ((ah (ab (ah (ab (b4_0,b4_1)+ab (ah (ab x/ab (b4_0,b4_1)))))/ab (ah (2:Int)))).1) ((ah (ab (ah (ab (b4_0,b4_1)+ab (ah (ab x/ab (b4_0,b4_1)))))/ab (ah (2:Int)))).2))))))) (og (D' (okI (b4_0,b4_1)/\okI (ah (ab x/ab (b4_0,b4_1))))) (og (D' (fa (ah (ab (b4_0,b4_1)+ab (ah (ab x/ab (b4_0,b4_1))))) (ah (2:Int)))) (og (D' (okI (ah (ab (ah (ab (b4_0,b4_1)+ab (ah (ab x/ab (b4_0,b4_1)))))/ab (ah (2:Int))))/\okI (b4_0,b4_1))) (match D' ((b9 (ab (ah (ab (ah (ab (b4_0,b4_1)+ab (ah (ab x/ab (b4_0,b4_1)))))/ab (ah (2:Int))))) (ab (b4_0,b4_1)))>=0)with|T'=>S' [RV.d y3Y (b4_0,b4_1),RV.d ask 0]|F'=>k 25 (nZ x ((ah (ab (ah (ab (b4_0,b4_1)+ab (ah (ab x/ab (b4_0,b4_1)))))/ab (ah (2:Int)))).1) ((ah (ab (ah (ab (b4_0,b4_1)+ab (ah (ab x/ab (b4_0,b4_1)))))/ab (ah (2:Int)))).2)))))))))
theorem BX(x:Bool×List Int)(b4_0:Bool)(b4_1:List Int):RN LB 25 (nZ x b4_0 b4_1) (uY x b4_0 b4_1):=rnX
def agM:NT:=[((308,16),{keep:=[1,4,5],hl:=1})]
def KP:Ctx:=CX (ens w9) agM
def wU(x:Bool×List Int)(s4 s5:Int):Cfg:=⟨308,[.blk 0,.seq 27],[(1,.box 0 0),(4,.d (.int .u64) s4),(5,SI s5)],[.box 36 [SB x.1,.d asj x.2]],0,[]⟩
def JM(x:Bool×List Int)(k:KT):OLR:=og (D' (bI ((-9223372036854775808):Int))) (og (D' (okI x/\okI (ah ((-9223372036854775808):Int)))) (dup (.b .l .l) (match D' ((b9 (ab x) (ab (ah ((-9223372036854775808):Int))))<0)with|T'=>S' [RV.d ask 0,RV.d .bool F']|F'=>(og (D' (bI (9223372036854775807:Int))) (og (D' (okI x/\okI (ah (9223372036854775807:Int)))) (match D' ((b9 (ab x) (ab (ah (9223372036854775807:Int))))>0)with|T'=>S' [RV.d ask 0,RV.d .bool F']|F'=>k 16 (wU x 0 (i64.wrap ((x.2.length:Int)-1)))))))))
theorem Ql(x:Bool×List Int):RS KP 308 [.d y3Y x] (JM x):=rsX
def ve(x:Bool×List Int)(s4 s5:Int)(k:KT):OLR:=match D' (s5>=0)with|T'=>(match aH x.2 s5 with|S' x1=>k 16 (wU x (u64.wrap ((u64.wrap (s4*1000000000))+(u64.wrap x1))) (i64.wrap (s5-1)))|Nn'=>Nn')|F'=>(match x.1 with|T'=>S' [RV.d ask (i64.wrap (u64.wrap (0-s4))),RV.d .bool T']|F'=>S' [RV.d ask (i64.wrap s4),RV.d .bool T'])
theorem A0(x:Bool×List Int)(s4 s5:Int):RN KP 16 (wU x s4 s5) (ve x s4 s5):=rnX
theorem NE(x:BI)(hx:okI x)(h0:0<ab x):∀(m:Nat) (X:Int),X.toNat=m->0<X->bO (ab x)<=X->szI X<=900000->LB.Runs 25 (nZ x (ah X).1 (ah X).2) [.d y3Y (ah (bO (ab x))),.d ask 0]:=by
 intro m;induction m using Nat.strongRecOn with
 |ind m ih=>
  intro X hm hX hs hsz;obtain⟨g0,g1,g2⟩:=fS (apv h0);have hq0:0<=ab x/X:=apQ (by omega) (by omega);have hq1:ab x/X<=ab x:=aqL _ (by omega);have oX:okI (ah X):=aT (by omega);have sq:szI (ab x/X)<=1000000:=ao1 (dB (by omega)) (iG hx);have p1:fa x (ah X):=⟨hx,oX,by rw[dec_enc];exact hX⟩
  have ssum:szI (X+ab x/X)<=1000000:=by
   have b1:=nW hsz;have b2:=nW (iG hx);have e:pw 1000000=pw 900000*pw 100000:=by rw[<-fk]
   have p9:(1000:Int)<=pw 100000:=by
    have:pw 100000=pw 99999*1000000000:=bW 99999;have:=cf 99999;omega
   have p8:=cf 900000;have h8:pw 900000*1000<=pw 900000*pw 100000:=aoW p9 (by omega);rcases apl X 2 with hX1|hX1
   ·-- X=1:then the number is less than 4
    have:X=1:=by omega
    subst this;have:bO (ab x)<=1:=hs
    have h4:ab x<4:=by
     have:=um (a:=bO (ab x)+1) (b:=2) (by omega) (by omega);omega
    refine eW ?_ ?_<;>(rw[e,Int.ediv_one];omega)
   ·have hq2:ab x/X<=ab x/2:=by
     have:=Int.ediv_mul_le (ab x) (show X≠0 by omega);have h2:ab x/X*2<=ab x/X*X:=aoW hX1 hq0;omega
    refine eW ?_ ?_<;>(rw[e]at b2 ⊢;omega)
  have o1:okI (ah X)/\okI (ah (ab x/X)):=⟨oX,aT sq⟩
  have p2:fa (ah (X+ab x/X)) (ah 2):=⟨aT ssum,by decide,by rw[dec_enc];decide⟩
  have hn:=Nz hX g0 g1;have o2:okI (ah ((X+ab x/X)/2))/\okI (ah X):=⟨aT (ao1 (dB (by omega)) ssum),oX⟩
  by_cases hc:X<=(X+ab x/X)/2
  ·have hXs:=yc hX hs g1 g2 g0 hc;refine BX _ _ _ ⟨0,?_⟩;unfold uY;simp only[cO,dp];have e:∀z:Int,((ah z).1,(ah z).2)=ah z:=λz=>rfl;simp only[e,dec_enc,aoP p1,aoP o1,aoP p2,aoP o2]
   have hg:D' (b9 ((X+ab x/X)/2) X>=0)=true:=by
    rcases Int.lt_or_eq_of_le hc with h|h
    ·rw[cH h];rfl
    ·rw[<-h,dU];rfl
   rw[hg,hXs]
  ·obtain⟨n,hN⟩:=ih ((X+ab x/X)/2).toNat (by omega) ((X+ab x/X)/2) rfl (by
    rcases apl 0 (bO (ab x))with h|h
    ·omega
    ·exfalso;have:bO (ab x)=0:=by omega
     rw[this]at g2;omega) hn (ao1 (dB (by omega)) hsz)
   refine BX _ _ _ ⟨n,?_⟩;unfold uY;simp only[cO,dp];have e:∀z:Int,((ah z).1,(ah z).2)=ah z:=λz=>rfl;simp only[e,dec_enc,aoP p1,aoP o1,aoP p2,aoP o2];rw[da (by omega)];exact hN
def acB:Cn 337 [y3Y]:=cn λ(x:Bool×List Int)=>lf (okI x) [.d y3Y (fC x),.d ask (wm x)] λh=>by
 refine aX w9 (show LB.Res _ _ _ from ?_);obtain⟨x0,x1,x2⟩:=co h;have hl:=h.2.2;cases hn:x.1
 ·by_cases hz:x.2=[]
  ·refine Uv _ ⟨0,?_⟩;unfold Ku fC wm;have:ab x=0:=by unfold ab;rw[hn,hz];rfl
   rw[hn,hz,this];rfl
  ·have hp:0<val x.2:=eu h.1 hz;have hd:ab x=val x.2:=by unfold ab;rw[hn];rfl
   have hlen:=apA.2 hz
   have hk:i64.wrap (Int.tdiv (i64.wrap ((x.2.length:Int)+1)) 2)=(((x.2.length+1)/2:Nat):Int):=by
    rw[aS (by omega),gG (by omega),aM (by omega) (by omega)];omega
   have hv:val (List.replicate ((x.2.length+1)/2) 0++[1])=pw ((x.2.length+1)/2):=by
    rw[dz,gf,aq0];simp[val]
   have hL:aR (List.replicate ((x.2.length+1)/2) 0++[1]):=by
    refine⟨λy hy=>?_,by simp;omega⟩;rcases ape.1 hy with hy|hy
    ·have:=List.eq_of_mem_replicate hy;omega
    ·simp at hy;omega
   have hpos:=cf ((x.2.length+1)/2)
   obtain⟨n,hN⟩:=NE x h (by omega) _ (pw ((x.2.length+1)/2)) rfl hpos (by
     obtain⟨g0,g1,g2⟩:=fS (show 0<=ab x by omega);have hlt:=bU h.1.1;have hm:=dm (show x.2.length<=(x.2.length+1)/2+(x.2.length+1)/2 by omega);rw[fk]at hm;have:=sq_lt (a:=bO (ab x)) (b:=pw ((x.2.length+1)/2)) (by omega) (by omega)
     omega) (eW (k:=900000) (by have:=cf 900000;omega) (by
      have:=dm (show(x.2.length+1)/2+1<=900000 by omega);rw[bW]at this;omega))
   refine Uv _ ⟨n,?_⟩;unfold Ku fC wm;simp only[hk];rw[hn,show((x.2.length:Int)==0)=F' by simp;omega];simp only[ara];rw[aoP (show(0:Int)<=(((x.2.length+1)/2:Nat):Int)/\(((x.2.length+1)/2:Nat):Int)*((4:Nat):Int)<=140737488355328/\(((x.2.length+1)/2:Nat):Int)<=140737488355328 by omega)];rw[aoP (show((List.replicate ((x.2.length+1)/2) (0:Int)).length+([1]:List Nat).length)*4<=140737488355328/\(List.replicate ((x.2.length+1)/2) (0:Int)).length+([1]:List Nat).length<=140737488355328 by simp;omega)];rw[aoP hL,aoP (show bI 2 by decide),hv];exact hN
 ·refine Uv _ ⟨0,?_⟩;unfold Ku fC wm;rw[hn];rfl
theorem EE(x:BI)(hx:okI x)(hv:val x.2<=9223372036854775808):∀(i:Nat),i<=x.2.length->KP.Runs 16 (wU x (val (x.2.drop i)) ((i:Int)-1)) [.d ask (i64.wrap (bif x.1 then u64.wrap (0-val x.2)else val x.2)),.d .bool T']
 |0,_=>by
  refine A0 _ _ _ ⟨0,?_⟩;unfold ve;rw[aoR (by omega),aqB];cases x.1<;>rfl
 |i+1,hi=>by
  obtain⟨n,ih⟩:=EE x hx hv i (by omega);have h0:=hx.2.2;have hlim:=hx.1.1;have hd:x.2.drop i=x.2[i]::x.2.drop (i+1):=jw (by omega)
  have hle:∀j,val (x.2.drop j)<=9223372036854775808/\0<=val (x.2.drop j):=λj=>by
   have l1:Lim (x.2.drop j):=λy hy=>hlim y (aqu hy);have l2:Lim (x.2.take j):=λy hy=>hlim y (ap8 hy);have:=dz (x.2.take j) (x.2.drop j);rw[aqi]at this;have n1:=aP l1;have n2:=aP l2;have p:=cf (x.2.take j).length
   have:val (x.2.drop j)<=pw (x.2.take j).length*val (x.2.drop j):=by
    have:=ao2 (show 1<=pw (x.2.take j).length by omega) n1;omega
   omega
  have hb:=hlim x.2[i] (aoY _);have hv1:=hle i;have hv2:=hle (i+1);rw[hd]at hv1 ih;simp only[val]at hv1 ih;refine A0 _ _ _ ⟨n,?_⟩;unfold ve;rw[show(((i+1:Nat):Int)-1)=(i:Int) by omega,aoP (by omega),ak,aoO (by omega)];dsimp only;rw[bH (x:=val (x.2.drop (i+1))*1000000000) (by omega) (by omega),bH (x:=x.2[i]) (by omega) (by omega),bH (by omega) (by omega),aM (by omega) (by omega)];rw[show val (x.2.drop (i+1))*1000000000+x.2[i]=x.2[i]+1000000000*val (x.2.drop (i+1)) by omega];exact ih
def FE:Cn 308 [y3Y]:=cn λ(x:Bool×List Int)=>lf (okI x) [.d ask (bif D' (bI (ab x))then ab x else 0),.d .bool (D' (bI (ab x)))] λh=>by
 refine aX w9 (show KP.Res _ _ _ from ?_);obtain⟨x0,x1,x2⟩:=co h;have o1:okI x/\okI (ah (-9223372036854775808)):=⟨h,by decide⟩
 have o2:okI x/\okI (ah 9223372036854775807):=⟨h,by decide⟩
 have hl:=h.2.2;by_cases h1:ab x< -9223372036854775808
 ·refine Ql _ ⟨0,?_⟩;unfold JM;simp only[dp,dec_enc,aoP o1];rw[aoP (show bI (-9223372036854775808) by decide),da h1,aoR (show ¬bI (ab x) from λg=>by have:=g.1;omega)];rfl
 ·have c1:D' (b9 (ab x) (-9223372036854775808)<0)=false:=by
   rcases Int.lt_or_eq_of_le (show-9223372036854775808<=ab x by omega)with g|g
   ·rw[cH g];rfl
   ·rw[<-g,dU];rfl
  by_cases h2:9223372036854775807<ab x
  ·refine Ql _ ⟨0,?_⟩;unfold JM;simp only[dp,dec_enc,aoP o1,aoP o2];rw[aoP (show bI (-9223372036854775808) by decide),c1,aoP (show bI 9223372036854775807 by decide),cH h2,aoR (show ¬bI (ab x) from λg=>by have:=g.2;omega)];rfl
  ·have c2:D' (b9 (ab x) 9223372036854775807>0)=false:=by
    rcases Int.lt_or_eq_of_le (show ab x<=9223372036854775807 by omega)with g|g
    ·rw[da g];rfl
    ·rw[g,dU];rfl
   have hp:bI (ab x):=⟨by omega,by omega⟩
   have hvv:val x.2<=9223372036854775808:=by
    have g1:=hp.1;have g2:=hp.2;have hd:ab x=bif x.1 then-val x.2 else val x.2:=rfl;cases hb:x.1<;>rw[hb]at hd<;>simp only[cond_true,cond_false]at hd<;>omega
   obtain⟨n,hN⟩:=EE x h hvv x.2.length (aoU _);refine Ql _ ⟨n,?_⟩;unfold JM;simp only[dp,dec_enc,aoP o1,aoP o2];rw[aoP (show bI (-9223372036854775808) by decide),c1,aoP (show bI 9223372036854775807 by decide),c2,aoP hp];rw[arj]at hN;rw[aM (by omega) (by omega)];refine hN.trans ?_
   have hr:i64.wrap (bif x.1 then u64.wrap (0-val x.2)else val x.2)=ab x:=by
    have hd:ab x=bif x.1 then-val x.2 else val x.2:=rfl;have:=hp.1;have:=hp.2;cases hb:x.1<;>rw[hb]at hd<;>simp only[cond_true,cond_false]at hd ⊢
    ·rw[aM (by omega) (by omega)];omega
    ·have:=x1 hb;rw[apG,IntKind.wrap_i64];omega
   rw[hr];rfl
end Go.Proofs.YtoimchcjhdcdmaaGreat
end
