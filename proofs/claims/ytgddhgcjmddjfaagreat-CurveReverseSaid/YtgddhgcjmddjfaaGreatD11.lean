/- The reference's fractions. -/
import Derived.Test.YtgddhgcjmddjfaaGreatD10
import Derived.Test.YtgddhgcjmddjfaaGreatD9
noncomputable section
namespace Go.Proofs.YtgddhgcjmddjfaaGreat
open Go.RowKit Go.IntKind
theorem auR:type_of% @Bool.decide_and:=@Bool.decide_and
theorem auU:type_of% @Bool.and_true:=@Bool.and_true
theorem auX:type_of% @decide_false:=@decide_false
theorem au2:type_of% @decide_true:=@decide_true
theorem au6:type_of% @Bool.and_eq_true_iff:=@Bool.and_eq_true_iff
theorem awo:type_of% @beq_eq_false_iff_ne:=@beq_eq_false_iff_ne
theorem awW:type_of% @beq_self_eq_true:=@beq_self_eq_true
def Mu:aM:=spN true false [y2Y] (fun x=>decide (okI x.1)) (fun x=>[RV.d ayb (cJ (ag x.1) 0)])
theorem NZ:SpK 134 Mu:=spX fun x h=>GU x.1 (auN h)
def EP:aM:=spN true false [y2Y,y2Y] (fun x=>decide (okI x.1∧okI x.2.1)) (fun x=>[RV.d ayb (cJ (ag x.1) (ag x.2.1))])
theorem BJ:SpK 165 EP:=spX fun x h=>YS x.1 x.2.1 (auN h)
def Ld:aM:=spN false false [y2Y,y2Y] (fun x=>decide (okI x.1∧okI x.2.1)) (fun x=>[RV.d y2Y (aj (ag x.1*ag x.2.1))])
theorem OJ:SpK 158 Ld:=spX fun x h=>F7 x.1 x.2.1 (auN h)
def DL:aM:=spN false false [y2Y,y2Y] (fun x=>decide (fy x.1 x.2.1)) (fun x=>[RV.d y2Y (aj (ag x.1/ag x.2.1)),RV.d y2Y (aj (ag x.1%ag x.2.1)),RV.d ayb 0])
theorem BZ:SpK 162 DL:=spX fun x h=>WL x.1 x.2.1 (auN h)
def Kr:aM:=spN false false [y2Y,y2Y] (fun x=>decide (okI x.1∧okI x.2.1)) (fun x=>[RV.d y2Y (aj ((Int.gcd (ag x.1) (ag x.2.1):Nat):Int))])
theorem O5:SpK 161 Kr:=spX fun x h=>EZ x.1 x.2.1 (auN h)
def IC:Env:=[(81,wU),(159,tT),(160,EI),(134,Mu),(165,EP),(158,Ld),(162,DL),(161,Kr)]
theorem Cn:EnvAll Tryz.prog IC:=⟨uR,qp,AQ,NZ,BJ,OJ,BZ,O5,trivial⟩
def ajl:Ctx:=CX IC []
def Tt(_k:KT):OLR:=match decide (bU (1:Int))with|true=>some [RV.d y2Y (aj (1:Int))]|false=>none
theorem al7:RS ajl 82 [] (Tt):=rsX
theorem Gk:Con Tryz.prog 82 [] [.d y2Y (aj 1)]:=by
 refine aO Cn (al7 ⟨0,?_⟩)
 unfold Tt
 rw[dT (show bU 1 by decide)]
def Lp:aM:=spN false false [] (fun _=>true) (fun _=>[RV.d y2Y (aj 1)])
theorem OG:SpK 82 Lp:=spX fun _ _=>Gk
def Jh:Env:=(82,Lp)::IC
theorem Ca:EnvAll Tryz.prog Jh:=⟨OG,Cn⟩
def am9:Ctx:=CX Jh []
def ag8(x y:Bool×List Int)(_k:KT):OLR:=match decide (okI y)with|true=>(match decide ((cJ (ag y) 0)<0)with|true=>(match decide (okI x)with|true=>(match decide (okI y)with|true=>(match decide (okI (aj (-ag x))∧okI (aj (-ag y)))with|true=>(match decide (fy (aj (-ag x)) (aj ((Int.gcd (ag (aj (-ag x))) (ag (aj (-ag y))):Nat):Int)))with|true=>(match decide (fy (aj (-ag y)) (aj ((Int.gcd (ag (aj (-ag x))) (ag (aj (-ag y))):Nat):Int)))with|true=>some [RV.d (.st (.pair y2Y y2Y)) ((aj (ag (aj (-ag x))/ag (aj ((Int.gcd (ag (aj (-ag x))) (ag (aj (-ag y))):Nat):Int)))),(aj (ag (aj (-ag y))/ag (aj ((Int.gcd (ag (aj (-ag x))) (ag (aj (-ag y))):Nat):Int)))))]|false=>none)|false=>none)|false=>none)|false=>none)|false=>none)|false=>(match decide (okI x∧okI y)with|true=>(match decide (fy x (aj ((Int.gcd (ag x) (ag y):Nat):Int)))with|true=>(match decide (fy y (aj ((Int.gcd (ag x) (ag y):Nat):Int)))with|true=>some [RV.d (.st (.pair y2Y y2Y)) ((aj (ag x/ag (aj ((Int.gcd (ag x) (ag y):Nat):Int)))),(aj (ag y/ag (aj ((Int.gcd (ag x) (ag y):Nat):Int)))))]|false=>none)|false=>none)|false=>none))|false=>none
theorem anW(x y:Bool×List Int):RS am9 88 [.d y2Y x,.d y2Y y] (ag8 x y):=rsX
theorem Mv(x y:Bool×List Int)(h:iv x y):Con Tryz.prog 88 [.d y2Y x,.d y2Y y] [.d (.st (.pair y2Y y2Y)) (fe x y)]:=by
 refine aO Ca (anW _ _ ⟨0,?_⟩)
 obtain⟨hx,hy,hne⟩:=h
 have sx:=iO hx
 have sy:=iO hy
 have hgp:0<Int.gcd (ag x) (ag y):=Nat.pos_of_ne_zero fun e=>hne (Int.gcd_eq_zero_iff.1 e).2
 have hgs:=Zg (a:=ag x) hne sy
 have og:okI (aj ((Int.gcd (ag x) (ag y):Nat):Int)):=bK hgs
 have o1:okI (aj (-ag x)):=bK (by rw[iX];exact sx)
 have o2:okI (aj (-ag y)):=bK (by rw[iX];exact sy)
 have ig:∀z:BI,okI z→fy z (aj ((Int.gcd (ag x) (ag y):Nat):Int)):=fun z hz=>⟨hz,og,by rw[dec_enc];omega⟩
 unfold ag8 fe
 rw[dT hy]
 dsimp only
 rcases awN hne with hn|hn
 ·rw[df hn,dT (show(-1:Int)<0 by decide),dT hx]
  simp only[dec_enc,Int.gcd_neg,Int.neg_gcd]
  rw[dT (show okI (aj (-ag x))∧okI (aj (-ag y)) from⟨o1,o2⟩),dT (ig _ o1),dT (ig _ o2),←Rat.neg_divInt_neg,nA (by omega),Int.gcd_neg,Int.neg_gcd]
 ·rw[c8 hn,dF (show ¬(1:Int)<0 by decide)]
  simp only[dec_enc]
  rw[dT (show okI x∧okI y from⟨hx,hy⟩),dT (ig _ hx),dT (ig _ hy),nA hn]
def Yp:aM:=spN false false [y2Y,y2Y] (fun x=>decide (iv x.1 x.2.1)) (fun x=>[RV.d (.st (.pair y2Y y2Y)) (fe x.1 x.2.1)])
theorem Yz:SpK 88 Yp:=spX fun x h=>Mv x.1 x.2.1 (auN h)
def nf:Env:=(88,Yp)::Jh
theorem gR:EnvAll Tryz.prog nf:=⟨Yz,Ca⟩
def alQ:Ctx:=CX nf []
def Sv(a:(Bool×List Int)×Bool×List Int)(_k:KT):OLR:=match decide (okI a.1)with|true=>some [RV.d ayb (cJ (ag a.1) 0)]|false=>none
theorem alY(a:(Bool×List Int)×Bool×List Int):RS alQ 69 [.d (.st (.pair y2Y y2Y)) a] (Sv a):=rsX
def ajR:Ctx:=CX nf []
def YG(n:Int)(_k:KT):OLR:=match decide (bU n)with|true=>some [RV.d (.st (.pair y2Y y2Y)) ((aj n),(aj 1))]|false=>none
theorem aiu(n:Int):RS ajR 35 [SI n] (YG n):=rsX
def akK:Ctx:=CX nf []
def Zr(a b:(Bool×List Int)×Bool×List Int)(_k:KT):OLR:=match decide (okI a.1∧okI b.2)with|true=>(match decide (okI b.1∧okI a.2)with|true=>(match decide (okI (aj (ag a.1*ag b.2))∧okI (aj (ag b.1*ag a.2)))with|true=>some [RV.d ayb (cJ (ag (aj (ag a.1*ag b.2))) (ag (aj (ag b.1*ag a.2))))]|false=>none)|false=>none)|false=>none
theorem alb(a b:(Bool×List Int)×Bool×List Int):RS akK 92 [.d (.st (.pair y2Y y2Y)) a,.d (.st (.pair y2Y y2Y)) b] (Zr a b):=rsX
def ak3:Ctx:=CX nf []
def VI(a b:(Bool×List Int)×Bool×List Int)(_k:KT):OLR:=match decide (okI a.1∧okI b.2)with|true=>(match decide (okI b.1∧okI a.2)with|true=>(match decide (okI (aj (ag a.1*ag b.2))∧okI (aj (ag b.1*ag a.2)))with|true=>(match decide (okI a.2∧okI b.2)with|true=>(match decide (iv (aj (ag (aj (ag a.1*ag b.2))+ag (aj (ag b.1*ag a.2)))) (aj (ag a.2*ag b.2)))with|true=>some [RV.d (.st (.pair y2Y y2Y)) (((fe (aj (ag (aj (ag a.1*ag b.2))+ag (aj (ag b.1*ag a.2)))) (aj (ag a.2*ag b.2))).1),((fe (aj (ag (aj (ag a.1*ag b.2))+ag (aj (ag b.1*ag a.2)))) (aj (ag a.2*ag b.2))).2))]|false=>none)|false=>none)|false=>none)|false=>none)|false=>none
theorem ajQ(a b:(Bool×List Int)×Bool×List Int):RS ak3 85 [.d (.st (.pair y2Y y2Y)) a,.d (.st (.pair y2Y y2Y)) b] (VI a b):=rsX
def aml:Ctx:=CX nf []
def YC(a b:(Bool×List Int)×Bool×List Int)(_k:KT):OLR:=match decide (okI a.1∧okI b.1)with|true=>(match decide (okI a.2∧okI b.2)with|true=>(match decide (iv (aj (ag a.1*ag b.1)) (aj (ag a.2*ag b.2)))with|true=>some [RV.d (.st (.pair y2Y y2Y)) (((fe (aj (ag a.1*ag b.1)) (aj (ag a.2*ag b.2))).1),((fe (aj (ag a.1*ag b.1)) (aj (ag a.2*ag b.2))).2))]|false=>none)|false=>none)|false=>none
theorem alm(a b:(Bool×List Int)×Bool×List Int):RS aml 86 [.d (.st (.pair y2Y y2Y)) a,.d (.st (.pair y2Y y2Y)) b] (YC a b):=rsX
def amS:Ctx:=CX nf []
def V6(a:(Bool×List Int)×Bool×List Int)(_k:KT):OLR:=match decide (okI a.1)with|true=>some [RV.d (.st (.pair y2Y y2Y)) ((aj (-ag a.1)),a.2)]|false=>none
theorem aiX(a:(Bool×List Int)×Bool×List Int):RS amS 169 [.d (.st (.pair y2Y y2Y)) a] (V6 a):=rsX
def amm:Ctx:=CX nf []
def Z9(x y:Bool×List Int)(_k:KT):OLR:=match decide (okI y)with|true=>(match(cJ (ag y) 0)==0 with|true=>some [RV.d (.st (.pair y2Y y2Y)) ((false,[]),(false,[])),RV.d ayb 6]|false=>(match decide (iv x y)with|true=>some [RV.d (.st (.pair y2Y y2Y)) (((fe x y).1),((fe x y).2)),RV.d ayb 0]|false=>none))|false=>none
theorem amz(x y:Bool×List Int):RS amm 219 [.d y2Y x,.d y2Y y] (Z9 x y):=rsX
theorem Zd(x y:Bool×List Int)(h:iv x y):Con Tryz.prog 219 [.d y2Y x,.d y2Y y] [.d (.st (.pair y2Y y2Y)) (fe x y),.d ayb 0]:=by
 refine aO gR (amz _ _ ⟨0,?_⟩)
 obtain⟨hx,hy,hne⟩:=h
 have hnz:(cJ (ag y) 0==0)=false:=by
  rcases awN hne with h|h
  ·rw[df h];rfl
  ·rw[c8 h];rfl
 unfold Z9
 rw[dT hy,hnz,dT (show iv x y from⟨hx,hy,hne⟩)]
def LL:aM:=spN false false [y2Y,y2Y] (fun x=>decide (iv x.1 x.2.1)) (fun x=>[RV.d (.st (.pair y2Y y2Y)) (fe x.1 x.2.1),RV.d ayb 0])
theorem N8:SpK 219 LL:=spX fun x h=>Zd x.1 x.2.1 (auN h)
def DP:Env:=(219,LL)::nf
theorem zU:EnvAll Tryz.prog DP:=⟨N8,gR⟩
def akY:Ctx:=CX DP []
def Zt(a b:(Bool×List Int)×Bool×List Int)(_k:KT):OLR:=match decide (okI a.1∧okI b.2)with|true=>(match decide (okI a.2∧okI b.1)with|true=>(match decide (iv (aj (ag a.1*ag b.2)) (aj (ag a.2*ag b.1)))with|true=>some [RV.d (.st (.pair y2Y y2Y)) (((fe (aj (ag a.1*ag b.2)) (aj (ag a.2*ag b.1))).1),((fe (aj (ag a.1*ag b.2)) (aj (ag a.2*ag b.1))).2)),RV.d ayb 0]|false=>none)|false=>none)|false=>none
theorem aj0(a b:(Bool×List Int)×Bool×List Int):RS akY 167 [.d (.st (.pair y2Y y2Y)) a,.d (.st (.pair y2Y y2Y)) b] (Zt a b):=rsX
theorem Vo(a:(Bool×List Int)×Bool×List Int)(h:okR a):Con Tryz.prog 69 [.d (.st (.pair y2Y y2Y)) a] [.d ayb (aR (ae a) 0)]:=by
 refine aO gR (alY _ ⟨0,?_⟩)
 unfold Sv
 rw[dT h.1,←v8,(da h).1]
theorem R7(n:Int)(h:bU n):Con Tryz.prog 35 [.d ayb n] [.d (.st (.pair y2Y y2Y)) (ai (n:Rat))]:=by
 refine aO gR (aiu _ ⟨0,?_⟩)
 unfold YG ai
 rw[dT h,Rat.num_intCast,Rat.den_intCast]
 rfl
theorem V2(a b:(Bool×List Int)×Bool×List Int)(h:okR a∧okR b):Con Tryz.prog 92 [.d (.st (.pair y2Y y2Y)) a,.d (.st (.pair y2Y y2Y)) b] [.d ayb (aR (ae a) (ae b))]:=by
 refine aO gR (alb _ _ ⟨0,?_⟩)
 obtain⟨ha,hb⟩:=h
 obtain⟨a1,a2⟩:=da ha
 obtain⟨b1,b2⟩:=da hb
 obtain⟨sa1,sa2⟩:=ge ha
 obtain⟨sb1,sb2⟩:=ge hb
 have h1:=c9 sa1 sb2
 have h2:=c9 sb1 sa2
 unfold Zr
 rw[dT (show okI a.1∧okI b.2 from⟨ha.1,hb.2.1⟩),dT (show okI b.1∧okI a.2 from⟨hb.1,ha.2.1⟩),dT (show okI (aj (ag a.1*ag b.2))∧okI (aj (ag b.1*ag a.2)) from⟨bK (by omega),bK (by omega)⟩),dec_enc,dec_enc,←a1,←a2,←b1,←b2,yr]
theorem G9(a:(Bool×List Int)×Bool×List Int)(h:okR a):Con Tryz.prog 169 [.d (.st (.pair y2Y y2Y)) a] [.d (.st (.pair y2Y y2Y)) (ai (-ae a))]:=by
 refine aO gR (aiX _ ⟨0,?_⟩)
 obtain⟨a1,a2⟩:=da h
 unfold V6
 have e:ai (-ae a)=(aj (-ag a.1),a.2):=by
  unfold ai
  rw[Rat.neg_num,a1,show((-ae a).den:Int)=((ae a).den:Int) from rfl,a2,←ik h.2.1]
 rw[dT h.1,e]
theorem HN(a b:(Bool×List Int)×Bool×List Int)(h:okR a∧okR b):Con Tryz.prog 85 [.d (.st (.pair y2Y y2Y)) a,.d (.st (.pair y2Y y2Y)) b] [.d (.st (.pair y2Y y2Y)) (ai (ae a+ae b))]:=by
 refine aO gR (ajQ _ _ ⟨0,?_⟩)
 obtain⟨ha,hb⟩:=h
 obtain⟨a1,a2⟩:=da ha
 obtain⟨b1,b2⟩:=da hb
 obtain⟨sa1,sa2⟩:=ge ha
 obtain⟨sb1,sb2⟩:=ge hb
 have pa:=ha.2.2.1
 have pb:=hb.2.2.1
 have h1:=c9 sa1 sb2
 have h2:=c9 sb1 sa2
 have h3:=c9 sa2 sb2
 have h4:=wH h1 h2
 have hda:ae a=Rat.divInt (ag a.1) (ag a.2):=by rw[←a1,←a2,av3]
 have hdb:ae b=Rat.divInt (ag b.1) (ag b.2):=by rw[←b1,←b2,av3]
 unfold VI
 rw[dT (show okI a.1∧okI b.2 from⟨ha.1,hb.2.1⟩),dT (show okI b.1∧okI a.2 from⟨hb.1,ha.2.1⟩),dT (show okI (aj (ag a.1*ag b.2))∧okI (aj (ag b.1*ag a.2)) from⟨bK (by omega),bK (by omega)⟩),dT (show okI a.2∧okI b.2 from⟨ha.2.1,hb.2.1⟩)]
 simp only[dec_enc]
 rw[dT (show iv (aj (ag a.1*ag b.2+ag b.1*ag a.2)) (aj (ag a.2*ag b.2)) from⟨bK (by omega),bK (by omega),by rw[dec_enc];exact axu (by omega) (by omega)⟩)]
 have e:fe (aj (ag a.1*ag b.2+ag b.1*ag a.2)) (aj (ag a.2*ag b.2))=ai (ae a+ae b):=by
  unfold fe
  rw[dec_enc,dec_enc,hda,hdb,Rat.divInt_add_divInt _ _ (by omega) (by omega)]
 rw[e]
theorem V0(a b:(Bool×List Int)×Bool×List Int)(h:okR a∧okR b):Con Tryz.prog 86 [.d (.st (.pair y2Y y2Y)) a,.d (.st (.pair y2Y y2Y)) b] [.d (.st (.pair y2Y y2Y)) (ai (ae a*ae b))]:=by
 refine aO gR (alm _ _ ⟨0,?_⟩)
 obtain⟨ha,hb⟩:=h
 obtain⟨a1,a2⟩:=da ha
 obtain⟨b1,b2⟩:=da hb
 obtain⟨sa1,sa2⟩:=ge ha
 obtain⟨sb1,sb2⟩:=ge hb
 have pa:=ha.2.2.1
 have pb:=hb.2.2.1
 have h1:=c9 sa1 sb1
 have h3:=c9 sa2 sb2
 have hda:ae a=Rat.divInt (ag a.1) (ag a.2):=by rw[←a1,←a2,av3]
 have hdb:ae b=Rat.divInt (ag b.1) (ag b.2):=by rw[←b1,←b2,av3]
 unfold YC
 rw[dT (show okI a.1∧okI b.1 from⟨ha.1,hb.1⟩),dT (show okI a.2∧okI b.2 from⟨ha.2.1,hb.2.1⟩),dT (show iv (aj (ag a.1*ag b.1)) (aj (ag a.2*ag b.2)) from⟨bK (by omega),bK (by omega),by rw[dec_enc];exact axu (by omega) (by omega)⟩)]
 have e:fe (aj (ag a.1*ag b.1)) (aj (ag a.2*ag b.2))=ai (ae a*ae b):=by
  unfold fe
  rw[dec_enc,dec_enc,hda,hdb,axv]
 rw[e]
theorem E3(a b:(Bool×List Int)×Bool×List Int)(h:gb a b):Con Tryz.prog 167 [.d (.st (.pair y2Y y2Y)) a,.d (.st (.pair y2Y y2Y)) b] [.d (.st (.pair y2Y y2Y)) (ai (ae a/ae b)),.d ayb 0]:=by
 refine aO zU (aj0 _ _ ⟨0,?_⟩)
 obtain⟨ha,hb,hne⟩:=h
 obtain⟨a1,a2⟩:=da ha
 obtain⟨b1,b2⟩:=da hb
 obtain⟨sa1,sa2⟩:=ge ha
 obtain⟨sb1,sb2⟩:=ge hb
 have pa:=ha.2.2.1
 have h1:=c9 sa1 sb2
 have h3:=c9 sa2 sb1
 have hda:ae a=Rat.divInt (ag a.1) (ag a.2):=by rw[←a1,←a2,av3]
 have hdb:ae b=Rat.divInt (ag b.1) (ag b.2):=by rw[←b1,←b2,av3]
 have hmz:ag a.2*ag b.1≠0:=axu (by omega) hne
 unfold Zt
 rw[dT (show okI a.1∧okI b.2 from⟨ha.1,hb.2.1⟩),dT (show okI a.2∧okI b.1 from⟨ha.2.1,hb.1⟩)]
 simp only
 rw[dT (show iv (aj (ag a.1*ag b.2)) (aj (ag a.2*ag b.1)) from⟨bK (by omega),bK (by omega),by rw[dec_enc];exact hmz⟩)]
 have e:fe (aj (ag a.1*ag b.2)) (aj (ag a.2*ag b.1))=ai (ae a/ae b):=by
  unfold fe
  rw[dec_enc,dec_enc,hda,hdb,axZ,Rat.inv_divInt,axv]
 rw[e]
def Lu:aM:=spN false false [(.st (.pair y2Y y2Y)),(.st (.pair y2Y y2Y))] (fun x=>decide (okR x.1∧okR x.2.1)) (fun x=>[RV.d (.st (.pair y2Y y2Y)) (ai (ae x.1+ae x.2.1))])
theorem OO:SpK 85 Lu:=spX fun x h=>HN x.1 x.2.1 (auN h)
def Mo:aM:=spN false false [(.st (.pair y2Y y2Y))] (fun x=>decide (okR x.1)) (fun x=>[RV.d (.st (.pair y2Y y2Y)) (ai (-ae x.1))])
theorem O9:SpK 169 Mo:=spX fun x h=>G9 x.1 (auN h)
def Km:aM:=spN false false [(.st (.pair y2Y y2Y)),(.st (.pair y2Y y2Y))] (fun x=>decide (gb x.1 x.2.1)) (fun x=>[RV.d (.st (.pair y2Y y2Y)) (ai (ae x.1/ae x.2.1)),RV.d ayb 0])
theorem Ql:SpK 167 Km:=spX fun x h=>E3 x.1 x.2.1 (auN h)
def Z3:Env:=(85,Lu)::(169,Mo)::(167,Km)::DP
theorem PD:EnvAll Tryz.prog Z3:=⟨OO,O9,Ql,zU⟩
def amV:Ctx:=CX Z3 []
def UN(a b:(Bool×List Int)×Bool×List Int)(_k:KT):OLR:=match decide (okR b)with|true=>(match decide (okR a∧okR (ai (-ae b)))with|true=>some [RV.d (.st (.pair y2Y y2Y)) (((ai (ae a+ae (ai (-ae b)))).1),((ai (ae a+ae (ai (-ae b)))).2))]|false=>none)|false=>none
theorem aiw(a b:(Bool×List Int)×Bool×List Int):RS amV 168 [.d (.st (.pair y2Y y2Y)) a,.d (.st (.pair y2Y y2Y)) b] (UN a b):=rsX
theorem Zn(a b:(Bool×List Int)×Bool×List Int)(h:okR a∧okR b):Con Tryz.prog 168 [.d (.st (.pair y2Y y2Y)) a,.d (.st (.pair y2Y y2Y)) b] [.d (.st (.pair y2Y y2Y)) (ai (ae a-ae b))]:=by
 refine aO PD (aiw _ _ ⟨0,?_⟩)
 obtain⟨ha,hb⟩:=h
 unfold UN
 rw[dT hb,az,axo,dT (show okR a∧okR (ai (-ae b)) from⟨ha,rm (wQ (Ez hb)) (auY _)⟩)]
theorem aC{a b:Rat}{j k:Nat}[ha:Bd a j][hb:Bd b k](hj:j≤480000)(hk:k≤480000)(h:b≠0):decide (gb (ai a) (ai b))=true:=
 auO ⟨rm ha.le hj,rm hb.le hk,by show ag (aj b.num)≠0;rw[dec_enc];exact fun e=>h (Rat.num_eq_zero.1 e)⟩
theorem aL(a b:Rat):decide (aR a b>0)=decide (b<a):=by
 rcases(by grind:a<b∨a=b∨b<a)with h|h|h
 ·rw[dM h,auQ (show ¬b<a by grind)];rfl
 ·rw[h,dY,auQ (show ¬b<b by grind)];rfl
 ·rw[dA h,auO h];rfl
theorem aG(a b:Rat):decide (aR a b<0)=decide (a<b):=by
 rcases(by grind:a<b∨a=b∨b<a)with h|h|h
 ·rw[dM h,auO h];rfl
 ·rw[h,dY,auQ (show ¬b<b by grind)];rfl
 ·rw[dA h,auQ (show ¬a<b by grind)];rfl
theorem an1(a b:Rat):decide (aR a b≥0)=decide (b≤a):=by
 rcases(by grind:a<b∨a=b∨b<a)with h|h|h
 ·rw[dM h,auQ (show ¬b≤a by grind)];rfl
 ·rw[h,dY,auO (show b≤b by grind)];rfl
 ·rw[dA h,auO (show b≤a by grind)];rfl
theorem Gf(a b:Rat):decide (aR a b≤0)=decide (a≤b):=by
 rcases(by grind:a<b∨a=b∨b<a)with h|h|h
 ·rw[dM h,auO (show a≤b by grind)];rfl
 ·rw[h,dY,auO (show b≤b by grind)];rfl
 ·rw[dA h,auQ (show ¬a≤b by grind)];rfl
theorem aE(a b:Rat):(aR a b==0)=decide (a=b):=by
 rcases(by grind:a<b∨a=b∨b<a)with h|h|h
 ·rw[dM h,auQ (show ¬a=b by grind)];rfl
 ·rw[h,dY,auO rfl];rfl
 ·rw[dA h,auQ (show ¬a=b by grind)];rfl
theorem rh(a b:Rat): -1≤aR a b∧aR a b≤1:=by
 rcases(by grind:a<b∨a=b∨b<a)with h|h|h
 ·rw[dM h];decide
 ·rw[h,dY];decide
 ·rw[dA h];decide
theorem qD{a b c d:Rat}:i64.wrap (aR a b*aR c d)=aR a b*aR c d:=by
 rcases(by grind:a<b∨a=b∨b<a)with h|h|h<;>rcases(by grind:c<d∨c=d∨d<c)with h'|h'|h'
 all_goals first|rw[dM h]|(subst h;rw[dY])|rw[dA h]
 all_goals first|rw[dM h']|(subst h';rw[dY])|rw[dA h']
 all_goals decide
abbrev Rt:=Rat×Rat×Rat
def fZ(a b m:Rat):Int:=RE.addS (aR a 0) (aR b 0*aR m 0) (aR (a*a) (b*b*m))
def EE(A B C D M N:Rat):Int:=bif decide (M<0)||decide (N<0)then 0
 else RE.addS (fZ A B M) (fZ C D M*aR N 0) (fZ (A*A+B*B*M-N*(C*C+D*D*M)) (2*(A*B-N*(C*D))) M)
def bS(x y:Rt):Int:=EE (x.1-y.1) x.2.1 (-y.2.1) 0 x.2.2 y.2.2
theorem xX(a b:Rat):aR (a-b) 0=aR a b:=by
 rcases(by grind:a<b∨a=b∨b<a)with h|h|h
 ·rw[dM h,dM (by grind)]
 ·rw[h,dY,show b-b=0 by grind,dY]
 ·rw[dA h,dA (by grind)]
namespace RE
def rq(m:Rat):RE:=zR (of m)
theorem R4(m:Rat):0≤rq m:=pT _
theorem pV{m:Rat}(h:0≤m):rq m*rq m=of m:=Ec (ou.2 h)
theorem acP{x:RE}(h:0≤x):sg (zR x)=sg x:=by
 have h1:=pT x
 have h2:=Ec h
 rcases pW h1 with h'|h'
 ·rw[gv h',←h2,gv (mul_pos h' h')]
 ·rw[h',mul_zero]at h2
  rw[h',h2]
theorem afE{m:Rat}(h:0≤m):sg (rq m)=aR m 0:=by
 unfold rq
 rw[acP (ou.2 h),sg_of]
def v2(a b m:Rat):RE:=of a+of b*rq m
def vR(x:Rt):RE:=v2 x.1 x.2.1 x.2.2
theorem sq2(a b s:RE):a*a-b*s*(b*s)=a*a-b*b*(s*s):=by
 induction a using auM
 induction b using auM
 induction s using auM
 exact snd fun n=>by
  simp only[RL.add,RL.mul,RL.neg]
  grind
theorem sq4(A B C D s t:RE):(A+B*s)*(A+B*s)-(C+D*s)*t*((C+D*s)*t)=A*A+B*B*(s*s)-t*t*(C*C+D*D*(s*s))+2*(A*B-t*t*(C*D))*s:=by
 induction A using auM
 induction B using auM
 induction C using auM
 induction D using auM
 induction s using auM
 induction t using auM
 exact snd fun n=>by
  simp only[RL.add,RL.mul,RL.neg,RL.const]
  grind
theorem as1(A B C D s t:RE):A+B*s+(C+D*s)*t=A+B*s+C*t+D*(s*t):=by
 induction A using auM
 induction B using auM
 induction C using auM
 induction D using auM
 induction s using auM
 induction t using auM
 exact snd fun n=>by
  simp only[RL.add,RL.mul]
  grind
theorem ak4(a b c d s t:RE):a-c+b*s+(-d)*t+0*(s*t)=a+b*s-(c+d*t):=by
 induction a using auM
 induction b using auM
 induction c using auM
 induction d using auM
 induction s using auM
 induction t using auM
 exact snd fun n=>by
  simp only[RL.add,RL.mul,RL.neg,RL.const]
  grind
theorem sgn2_re{a b m:Rat}(h:0≤m):fZ a b m=sg (v2 a b m):=by
 unfold v2
 rw[Yh,sq2,pV h,mc,sg_of,sg_of,afE h,←bR,←bR,←bR,←of_sub,sg_of,xX]
 rfl
theorem ame:of 2=2:=rfl
def vQ(A B C D M N:Rat):RE:=of A+of B*rq M+of C*rq N+of D*(rq M*rq N)
theorem sgnQ_re{A B C D M N:Rat}(hM:0≤M)(hN:0≤N):EE A B C D M N=sg (vQ A B C D M N):=by
 unfold EE vQ
 rw[auQ (by grind),auQ (by grind),←as1,Yh,sq4,pV hM,pV hN,mc,afE hN,sgn2_re hM,sgn2_re hM,sgn2_re hM]
 unfold v2
 simp only[of_sub,of_add,bR,ame]
 rfl
theorem cmpT_re{x y:Rt}(hx:0≤x.2.2)(hy:0≤y.2.2):bS x y=sg (vR x-vR y):=by
 unfold bS vR v2
 rw[sgnQ_re hx hy,←ak4,←of_sub,←of_neg]
 rfl
end RE
theorem EU{s t:Int}(hs: -1≤s∧s≤1)(ht: -1≤t∧t≤1): -1≤s*t∧s*t≤1:=by
 have h1:s= -1∨s=0∨s=1:=by omega
 have h2:t= -1∨t=0∨t=1:=by omega
 rcases h1 with rfl|rfl|rfl<;>rcases h2 with rfl|rfl|rfl<;>decide
theorem Ni{s t d:Int}(hs: -1≤s∧s≤1)(ht: -1≤t∧t≤1)(hd: -1≤d∧d≤1): -1≤RE.addS s t d∧RE.addS s t d≤1:=by
 unfold RE.addS
 cases(t==0||s==t)
 ·cases s==0
  ·exact EU hs hd
  ·exact ht
 ·exact hs
theorem lM(a b m:Rat): -1≤fZ a b m∧fZ a b m≤1:=Ni (rh _ _) (EU (rh _ _) (rh _ _)) (rh _ _)
theorem abJ(A B C D M N:Rat): -1≤EE A B C D M N∧EE A B C D M N≤1:=by
 unfold EE
 cases(decide (M<0)||decide (N<0))
 ·exact Ni (lM _ _ _) (EU (lM _ _ _) (rh _ _)) (lM _ _ _)
 ·exact⟨by show(-1:Int)≤0;decide,by show(0:Int)≤1;decide⟩
theorem wP(x y:Rt): -1≤bS x y∧bS x y≤1:=abJ _ _ _ _ _ _
theorem mO(a b:Int):(cJ a b==0)=decide (a=b):=by
 rcases awT a b with h|h|h
 ·rw[df h,auQ (by omega)];rfl
 ·rw[h,dU,auO rfl];rfl
 ·rw[c8 h,auQ (by omega)];rfl
def Rw:Env:=[(81,wU),(165,EP),(159,tT),(154,wS),(162,DL)]
theorem GD:EnvAll Tryz.prog Rw:=⟨uR,BJ,qp,uK,BZ,trivial⟩
def aeE:NT:=[((210,23),{keep:=[1,2,4,5],hl:=6})]
def CP:Ctx:=CX Rw aeE
def kO(x:Bool×List Int)(b4_0:Bool)(b4_1:List Int):Cfg:=⟨210,[.blk 0],[(1,.box 0 0),(2,.box 1 0),(4,.box 4 0),(5,.box 5 0)],[.box 33 [SB x.1,.d aya x.2],.box 33 [SB false,.nil],.gone,.row 180 ayc ([1]),.box 33 [SB b4_0,.d aya b4_1],.box 33 [SB ((aj (2:Int)).1),.d aya ((aj (2:Int)).2)]],0,[]⟩
def Df(x:Bool×List Int)(k:KT):OLR:=match x.1 with|true=>some [RV.d y2Y (false,[]),RV.d ayb 7]|false=>(match(x.2.length:Int)==0 with|true=>some [RV.d y2Y (false,[]),RV.d ayb 0]|false=>(match decide ((0:Int)≤i64.wrap (Int.tdiv (i64.wrap ((x.2.length:Int)+1)) 2)∧(i64.wrap (Int.tdiv (i64.wrap ((x.2.length:Int)+1)) 2))*((4:Nat):Int)≤140737488355328∧i64.wrap (Int.tdiv (i64.wrap ((x.2.length:Int)+1)) 2)≤140737488355328)with|true=>(match decide (((List.replicate (i64.wrap (Int.tdiv (i64.wrap ((x.2.length:Int)+1)) 2)).toNat (0:Int)).length+([1]).length)*4≤140737488355328∧(List.replicate (i64.wrap (Int.tdiv (i64.wrap ((x.2.length:Int)+1)) 2)).toNat (0:Int)).length+([1]).length≤140737488355328)with|true=>(match decide (bU (2:Int))with|true=>k 23 (kO x false ((List.replicate (i64.wrap (Int.tdiv (i64.wrap ((x.2.length:Int)+1)) 2)).toNat (0:Int))++([1])))|false=>none)|false=>none)|false=>none))
theorem IN(x:Bool×List Int):RS CP 210 [.d y2Y x] (Df x):=rsX
def rS(x:Bool×List Int)(b4_0:Bool)(b4_1:List Int)(k:KT):OLR:=match decide (fy x (b4_0,b4_1))with|true=>dl (match decide (okI (b4_0,b4_1)∧okI (aj (ag x/ag (b4_0,b4_1))))with|true=>dl (match decide (fy (aj (ag (b4_0,b4_1)+ag (aj (ag x/ag (b4_0,b4_1))))) (aj (2:Int)))with|true=>dup (.b .l .l) (match decide (okI (aj (ag (aj (ag (b4_0,b4_1)+ag (aj (ag x/ag (b4_0,b4_1)))))/ag (aj (2:Int))))∧okI (b4_0,b4_1))with|true=>(match decide ((cJ (ag (aj (ag (aj (ag (b4_0,b4_1)+ag (aj (ag x/ag (b4_0,b4_1)))))/ag (aj (2:Int))))) (ag (b4_0,b4_1)))≥0)with|true=>some [RV.d y2Y (b4_0,b4_1),RV.d ayb 0]|false=>k 23 (kO x ((aj (ag (aj (ag (b4_0,b4_1)+ag (aj (ag x/ag (b4_0,b4_1)))))/ag (aj (2:Int)))).1) ((aj (ag (aj (ag (b4_0,b4_1)+ag (aj (ag x/ag (b4_0,b4_1)))))/ag (aj (2:Int)))).2)))|false=>none)|false=>none) (dup (.b (.b .l .l) (.b .l .l)) (match decide (fy (aj (ag (b4_0,b4_1)+ag (aj (ag x/ag (b4_0,b4_1))))) (aj (2:Int)))with|true=>(match decide (okI (aj (ag (aj (ag (b4_0,b4_1)+ag (aj (ag x/ag (b4_0,b4_1)))))/ag (aj (2:Int))))∧okI (b4_0,b4_1))with|true=>(match decide ((cJ (ag (aj (ag (aj (ag (b4_0,b4_1)+ag (aj (ag x/ag (b4_0,b4_1)))))/ag (aj (2:Int))))) (ag (b4_0,b4_1)))≥0)with|true=>some [RV.d y2Y (b4_0,b4_1),RV.d ayb 0]|false=>k 23 (kO x ((aj (ag (aj (ag (b4_0,b4_1)+ag (aj (ag x/ag (b4_0,b4_1)))))/ag (aj (2:Int)))).1) ((aj (ag (aj (ag (b4_0,b4_1)+ag (aj (ag x/ag (b4_0,b4_1)))))/ag (aj (2:Int)))).2)))|false=>none)|false=>none))|false=>none) (dup (.b .l .l) (dl (match decide (okI (b4_0,b4_1)∧okI (aj (ag x/ag (b4_0,b4_1))))with|true=>dup (.b .l .l) (match decide (fy (aj (ag (b4_0,b4_1)+ag (aj (ag x/ag (b4_0,b4_1))))) (aj (2:Int)))with|true=>(match decide (okI (aj (ag (aj (ag (b4_0,b4_1)+ag (aj (ag x/ag (b4_0,b4_1)))))/ag (aj (2:Int))))∧okI (b4_0,b4_1))with|true=>(match decide ((cJ (ag (aj (ag (aj (ag (b4_0,b4_1)+ag (aj (ag x/ag (b4_0,b4_1)))))/ag (aj (2:Int))))) (ag (b4_0,b4_1)))≥0)with|true=>some [RV.d y2Y (b4_0,b4_1),RV.d ayb 0]|false=>k 23 (kO x ((aj (ag (aj (ag (b4_0,b4_1)+ag (aj (ag x/ag (b4_0,b4_1)))))/ag (aj (2:Int)))).1) ((aj (ag (aj (ag (b4_0,b4_1)+ag (aj (ag x/ag (b4_0,b4_1)))))/ag (aj (2:Int)))).2)))|false=>none)|false=>none)|false=>none) (match decide (okI (b4_0,b4_1)∧okI (aj (ag x/ag (b4_0,b4_1))))with|true=>(match decide (fy (aj (ag (b4_0,b4_1)+ag (aj (ag x/ag (b4_0,b4_1))))) (aj (2:Int)))with|true=>(match decide (okI (aj (ag (aj (ag (b4_0,b4_1)+ag (aj (ag x/ag (b4_0,b4_1)))))/ag (aj (2:Int))))∧okI (b4_0,b4_1))with|true=>(match decide ((cJ (ag (aj (ag (aj (ag (b4_0,b4_1)+ag (aj (ag x/ag (b4_0,b4_1)))))/ag (aj (2:Int))))) (ag (b4_0,b4_1)))≥0)with|true=>some [RV.d y2Y (b4_0,b4_1),RV.d ayb 0]|false=>k 23 (kO x ((aj (ag (aj (ag (b4_0,b4_1)+ag (aj (ag x/ag (b4_0,b4_1)))))/ag (aj (2:Int)))).1) ((aj (ag (aj (ag (b4_0,b4_1)+ag (aj (ag x/ag (b4_0,b4_1)))))/ag (aj (2:Int)))).2)))|false=>none)|false=>none)|false=>none)))|false=>none
theorem zO(x:Bool×List Int)(b4_0:Bool)(b4_1:List Int):RN CP 23 (kO x b4_0 b4_1) (rS x b4_0 b4_1):=rnX
theorem Qm(x:BI)(hx:okI x)(h0:0<ag x):∀(m:Nat) (X:Int),X.toNat=m→0<X→ce (ag x)≤X→szI X≤900000→CP.Runs 23 (kO x (aj X).1 (aj X).2) [.d y2Y (aj (ce (ag x))),.d ayb 0]:=by
 intro m
 induction m using Nat.strongRecOn with
 |ind m ih=>
  intro X hm hX hs hsz
  obtain⟨g0,g1,g2⟩:=fT (avA h0)
  have hq0:0≤ag x/X:=av2 (by omega) (by omega)
  have hq1:ag x/X≤ag x:=awR _ (by omega)
  have oX:okI (aj X):=bK (by omega)
  have sq:szI (ag x/X)≤1000000:=ava (dG (by omega)) (iO hx)
  have p1:fy x (aj X):=⟨hx,oX,by rw[dec_enc];exact hX⟩
  have ssum:szI (X+ag x/X)≤1000000:=by
   have b1:=n4 hsz
   have b2:=n4 (iO hx)
   have e:pw 1000000=pw 900000*pw 100000:=by rw[←fI]
   have p9:(1000:Int)≤pw 100000:=by
    have:pw 100000=pw 99999*1000000000:=cD 99999
    have:=ct 99999
    omega
   have p8:=ct 900000
   have h8:pw 900000*1000≤pw 900000*pw 100000:=au3 p9 (by omega)
   rcases avt X 2 with hX1|hX1
   ·-- X=1:then the number is less than 4
    have:X=1:=by omega
    subst this
    have:ce (ag x)≤1:=hs
    have h4:ag x<4:=by
     have:=tk (a:=ce (ag x)+1) (b:=2) (by omega) (by omega)
     omega
    refine fu ?_ ?_<;>(rw[e,Int.ediv_one];omega)
   ·have hq2:ag x/X≤ag x/2:=by
     have:=Int.ediv_mul_le (ag x) (show X≠0 by omega)
     have h2:ag x/X*2≤ag x/X*X:=au3 hX1 hq0
     omega
    refine fu ?_ ?_<;>(rw[e]at b2 ⊢;omega)
  have o1:okI (aj X)∧okI (aj (ag x/X)):=⟨oX,bK sq⟩
  have p2:fy (aj (X+ag x/X)) (aj 2):=⟨bK ssum,by decide,by rw[dec_enc];decide⟩
  have hn:=X4 hX g0 g1
  have o2:okI (aj ((X+ag x/X)/2))∧okI (aj X):=⟨bK (ava (dG (by omega)) ssum),oX⟩
  by_cases hc:X≤(X+ag x/X)/2
  ·have hXs:=Ai hX hs g1 g2 g0 hc
   refine zO _ _ _ ⟨0,?_⟩
   unfold rS
   simp only[au,aN]
   have e:∀z:Int,((aj z).1,(aj z).2)=aj z:=fun z=>rfl
   simp only[e,dec_enc,auO p1,auO o1,auO p2,auO o2]
   have hg:decide (cJ ((X+ag x/X)/2) X≥0)=true:=by
    rcases Int.lt_or_eq_of_le hc with h|h
    ·rw[c8 h];rfl
    ·rw[←h,dU];rfl
   rw[hg,hXs]
  ·obtain⟨n,hN⟩:=ih ((X+ag x/X)/2).toNat (by omega) ((X+ag x/X)/2) rfl (by
    rcases avt 0 (ce (ag x))with h|h
    ·omega
    ·exfalso
     have:ce (ag x)=0:=by omega
     rw[this]at g2
     omega) hn (ava (dG (by omega)) hsz)
   refine zO _ _ _ ⟨n,?_⟩
   unfold rS
   simp only[au,aN]
   have e:∀z:Int,((aj z).1,(aj z).2)=aj z:=fun z=>rfl
   simp only[e,dec_enc,auO p1,auO o1,auO p2,auO o2]
   rw[df (by omega)]
   exact hN
theorem SA(x:Bool×List Int)(h:okI x):Con Tryz.prog 210 [.d y2Y x] [.d y2Y (fJ x),.d ayb (sX x)]:=by
 refine aO GD (show CP.Res _ _ _ from ?_)
 obtain⟨x0,x1,x2⟩:=cS h
 have hl:=h.2.2
 cases hn:x.1
 ·by_cases hz:x.2=[]
  ·refine IN _ ⟨0,?_⟩
   unfold Df fJ sX
   have:ag x=0:=by unfold ag;rw[hn,hz];rfl
   rw[hn,hz,this]
   rfl
  ·have hp:0<val x.2:=eW h.1 hz
   have hd:ag x=val x.2:=by unfold ag;rw[hn];rfl
   have hlen:=avF.2 hz
   have hk:i64.wrap (Int.tdiv (i64.wrap ((x.2.length:Int)+1)) 2)=(((x.2.length+1)/2:Nat):Int):=by
    rw[cr (by omega),gu (by omega),bz (by omega) (by omega)]
    omega
   have hv:val (List.replicate ((x.2.length+1)/2) 0++[1])=pw ((x.2.length+1)/2):=by
    rw[dH,gI,axp]
    simp[val]
   have hL:bj (List.replicate ((x.2.length+1)/2) 0++[1]):=by
    refine⟨fun y hy=>?_,by simp;omega⟩
    rcases avj.1 hy with hy|hy
    ·have:=List.eq_of_mem_replicate hy;omega
    ·simp at hy;omega
   have hpos:=ct ((x.2.length+1)/2)
   obtain⟨n,hN⟩:=Qm x h (by omega) _ (pw ((x.2.length+1)/2)) rfl hpos (by
     obtain⟨g0,g1,g2⟩:=fT (show 0≤ag x by omega)
     have hlt:=cA h.1.1
     have hm:=dt (show x.2.length≤(x.2.length+1)/2+(x.2.length+1)/2 by omega)
     rw[fI]at hm
     have:=sq_lt (a:=ce (ag x)) (b:=pw ((x.2.length+1)/2)) (by omega) (by omega)
     omega) (fu (k:=900000) (by have:=ct 900000;omega) (by
      have:=dt (show(x.2.length+1)/2+1≤900000 by omega)
      rw[cD]at this
      omega))
   refine IN _ ⟨n,?_⟩
   unfold Df fJ sX
   simp only[hk]
   rw[hn,show((x.2.length:Int)==0)=false by simp;omega]
   simp only[awH]
   rw[auO (show(0:Int)≤(((x.2.length+1)/2:Nat):Int)∧(((x.2.length+1)/2:Nat):Int)*((4:Nat):Int)≤140737488355328∧(((x.2.length+1)/2:Nat):Int)≤140737488355328 by omega)]
   rw[auO (show((List.replicate ((x.2.length+1)/2) (0:Int)).length+([1]:List Nat).length)*4≤140737488355328∧(List.replicate ((x.2.length+1)/2) (0:Int)).length+([1]:List Nat).length≤140737488355328 by simp;omega)]
   rw[auO (show bU 2 by decide)]
   have he:aj (pw ((x.2.length+1)/2))=(false,List.replicate ((x.2.length+1)/2) 0++[1]):=by
    have ho:okI ((false,List.replicate ((x.2.length+1)/2) 0++[1]):BI):=⟨⟨hL.1,by simp⟩,(fun e=>by cases e),(by simp;omega)⟩
    rw[ik ho]
    congr 1
    exact hv.symm
   rw[he]at hN
   exact hN
 ·refine IN _ ⟨0,?_⟩
  unfold Df fJ sX
  rw[hn]
  rfl
def aic:Env:=(213,qC)::Rw
theorem Zo:EnvAll Tryz.prog aic:=⟨mn,GD⟩
def ako:Ctx:=CX aic []
def Zf(x y:Bool×List Int)(_k:KT):OLR:=match x.1==y.1 with|true=>(match decide (rG x.2 y.2)with|true=>some [RV.d .bool ((cJ (val x.2) (val y.2))==0)]|false=>none)|false=>some [RV.d .bool false]
theorem ais(x y:Bool×List Int):RS ako 191 [.d y2Y x,.d y2Y y] (Zf x y):=rsX
theorem ZK(x y:Bool×List Int)(h:okI x∧okI y):Con Tryz.prog 191 [.d y2Y x,.d y2Y y] [.d .bool (decide (ag x=ag y))]:=by
 refine aO Zo (ais _ _ ⟨0,?_⟩)
 obtain⟨hx,hy⟩:=h
 obtain⟨x0,x1,x2⟩:=cS hx
 obtain⟨y0,y1,y2⟩:=cS hy
 unfold Zf
 rw[dT (show rG x.2 y.2 from⟨⟨hx.1,by have:=hx.2.2;omega⟩,⟨hy.1,by have:=hy.2.2;omega⟩⟩)]
 rw[cg,cg]
 unfold cC
 cases ex:x.1<;>cases ey:y.1<;>simp only[cond_true,cond_false]
 ·show some [RV.d .bool (cJ (val x.2) (val y.2)==0)]=_
  rw[mO]
 ·have:=y1 ey
  rw[auQ (show ¬val x.2= -val y.2 by omega)]
  rfl
 ·have:=x1 ex
  rw[auQ (show ¬ -val x.2=val y.2 by omega)]
  rfl
 ·show some [RV.d .bool (cJ (val x.2) (val y.2)==0)]=_
  rw[mO,show decide (val x.2=val y.2)=decide (-val x.2= -val y.2) from awl.2 (by omega)]
def fF(q:Rat):Bool:=decide (ce q.num*ce q.num=q.num)&&decide (ce (q.den:Int)*ce (q.den:Int)=(q.den:Int))
def rtQ(q:Rat):Rat:=mkRat (ce q.num) (ce (q.den:Int)).toNat
theorem Eu(z:Int):0≤ce z:=by unfold ce;omega
theorem DG{s:Int}(h:0≤s):ce (s*s)=s:=adi h (Int.le_refl _) (by grind)
theorem qg{z:Int}(h:z<0):ce z=0:=by
 unfold ce
 rw[show z.toNat=0 by omega]
 rfl
theorem aqe{s t:Nat}(ht:0<t)(hg:(s*s).Coprime (t*t)):(mkRat (s:Int) t).num=(s:Int)∧(mkRat (s:Int) t).den=t:=by
 have hc:s.Coprime t:=Nat.Coprime.coprime_dvd_left (Nat.dvd_mul_left s s) (Nat.Coprime.coprime_dvd_right (Nat.dvd_mul_left t t) hg)
 rw[axR,axS,avf (by omega),avf (by omega),awf,show t.gcd s=1 from hc.symm]
 simp
theorem Kb{q:Rat}(h:fF q=true):(rtQ q).num=ce q.num∧((rtQ q).den:Int)=ce (q.den:Int)∧rtQ q*rtQ q=q∧0≤rtQ q:=by
 unfold fF at h
 simp only[auW,decide_eq_true_eq]at h
 obtain⟨h1,h2⟩:=h
 have hd:=q.den_pos
 have hr:=q.reduced
 obtain⟨s,hs⟩:=av7 (Eu q.num)
 obtain⟨t,ht⟩:=av7 (Eu (q.den:Int))
 unfold rtQ
 rw[hs,ht,awH]
 rw[hs]at h1
 rw[ht]at h2
 have e1:q.num.natAbs=s*s:=by rw[←h1,←awh,awf]
 have e2:q.den=t*t:=by rw[←awh]at h2;omega
 have hg:(s*s).Coprime (t*t):=by rw[←e1,←e2];exact hr
 have tp:0<t:=Nat.pos_of_ne_zero fun e=>by rw[e2,e]at hd;simp at hd
 obtain⟨g1,g2⟩:=aqe tp hg
 refine⟨g1,by rw[g2],?_,?_⟩
 ·rw[Rat.mkRat_mul_mkRat,←e2,h1,Rat.mkRat_self]
 ·exact Rat.num_nonneg.1 (by rw[g1];omega)
theorem acw(r:Rat):fF (r*r)=true:=by
 have hd:=r.den_pos
 have hc:(r.den*r.den).gcd (r.num*r.num).natAbs=1:=by
  rw[axE]
  have:=r.reduced.symm
  exact Nat.Coprime.mul_left (Nat.Coprime.mul_right this this) (Nat.Coprime.mul_right this this)
 have e1:(r*r).num=r.num*r.num:=by
  rw[Rat.mul_def',axR,hc,avf (axt (by omega) (by omega))]
  simp
 have e2:((r*r).den:Int)=(r.den:Int)*(r.den:Int):=by
  rw[Rat.mul_def',axS,hc,avf (axt (by omega) (by omega)),Nat.div_one,awh]
 unfold fF
 rw[e1,e2,DG (s:=(r.den:Int)) (by omega)]
 rcases avt r.num 0 with h|h
 ·rw[show r.num*r.num= -r.num* -r.num by grind,DG (by omega)]
  simp
 ·rw[DG h]
  simp
def rtB(q:Rat):BR:=bif fF q then ai (rtQ q)else((false,[]),(false,[]))
theorem Dj{x:BI}(h:okI x):fJ x=aj (ce (ag x)):=by
 obtain⟨x0,x1,x2⟩:=cS h
 unfold fJ
 cases hx:x.1
 ·rfl
 ·have:=x1 hx
  have hd:ag x= -val x.2:=by rw[cg,hx];rfl
  rw[hd,qg (by omega)]
  rfl
theorem Mn{z:Int}(h:szI z≤1000000):szI (ce z)≤500000:=by
 have h1:=n4 h
 have e:pw 1000000=pw 500000*pw 500000:=by rw[←fI]
 have hp:=ct 500000
 rcases avt z 0 with h0|h0
 ·rw[qg h0];exact fu (by omega) hp
 ·obtain⟨g0,g1,g2⟩:=fT h0
  have:=sq_lt (a:=ce z) (b:=pw 500000) (by omega) (by omega)
  exact fu (by omega) this
theorem TX(a b:Int):(aj a==aj b)=decide (a=b):=by
 by_cases h:a=b
 ·rw[h,auO rfl];simp
 ·rw[auQ h,awo]
  intro e
  exact h (by rw[←dec_enc a,e,dec_enc])
theorem MJ{x y:BI}(hx:okI x)(hy:okI y):(x==y)=decide (ag x=ag y):=by
 rw[ik hx,ik hy,TX,dec_enc,dec_enc]
def I9:aM:=spN true true [tI,tI] (fun x=>decide (okI x.1∧okI x.2.1)) (fun x=>[RV.d ayb (cJ (ag x.1) (ag x.2.1))])
theorem FG:SpK 148 I9:=spX fun x h=>K0 x.1 x.2.1 (auN h)
def Kf:aM:=spN false true [tI,tI] (fun x=>decide (okI x.1∧okI x.2.1)) (fun x=>[RV.d tI (hid (aj (ag x.1*ag x.2.1)))])
theorem Hx:SpK 149 Kf:=spX fun x h=>by simp only[am];exact Ng x.1 x.2.1 (auN h)
def Jk:aM:=spN false true [tI] (fun x=>decide (okI x.1)) (fun x=>[RV.d tI (hid (fJ x.1)),RV.d ayb (sX x.1)])
theorem Fo:SpK 282 Jk:=spX fun x h=>by simp only[am];exact aas x.1 (auN h)
def Tr:Env:=[(148,I9),(149,Kf),(282,Jk)]
theorem GZ:EnvAll Tryz.prog Tr:=⟨FG,Hx,Fo,trivial⟩
def arv:Ctx:=CX Tr []
def ahs(x:BI)(_k:KT):OLR:=match decide (okI x)with|true=>(match(sX x)==0 with|true=>(match decide (okI (hid (fJ x))∧okI (hid (fJ x)))with|true=>(match decide (okI (hid (aj (ag (hid (fJ x))*ag (hid (fJ x)))))∧okI x)with|true=>some [RV.d tI (hid (fJ x)),RV.d .bool ((cJ (ag (hid (aj (ag (hid (fJ x))*ag (hid (fJ x)))))) (ag x))==0)]|false=>none)|false=>none)|false=>some [RV.d tI (hid (fJ x)),RV.d .bool false])|false=>none
theorem aqI(x:BI):RS arv 273 [.d tI x] (ahs x):=rsX
theorem ab6(x:BI)(h:okI x):Con Tryz.prog 273 [.d tI x] [.d tI (aj (ce (ag x))),.d .bool (decide (ce (ag x)*ce (ag x)=ag x))]:=by
 refine aO GZ (aqI _ ⟨0,?_⟩)
 have hs:=iO h
 have hz:szI (ce (ag x))≤500000:=Mn hs
 have o1:okI (aj (ce (ag x))):=bK (by omega)
 have o2:okI (aj (ce (ag x)*ce (ag x))):=bK (by have:=c9 hz hz;omega)
 have o3:okI (aj (ce (ag x)*ce (ag x)))∧okI x:=⟨o2,h⟩
 have o4:okI (aj (ce (ag x)))∧okI (aj (ce (ag x))):=⟨o1,o1⟩
 have hng:x.1=true→decide (ce (ag x)*ce (ag x)=ag x)=false:=fun e=>auQ (by
  have:=(cS h).2.1 e
  have hd:ag x= -val x.2:=by rw[cg,e];rfl
  rw[qg (by omega)]
  omega)
 unfold ahs
 simp only[am,Dj h,dec_enc,dT h,dT o4,dT o3,mO]
 unfold sX
 cases e:x.1
 ·rfl
 ·rw[hng e];rfl
def Qq:aM:=spN false true [tI] (fun x=>decide (okI x.1)) (fun x=>[RV.d tI (hid (aj (ce (ag x.1)))),RV.d .bool (decide (ce (ag x.1)*ce (ag x.1)=ag x.1))])
theorem U8:SpK 273 Qq:=spX fun x h=>by simp only[am];exact ab6 x.1 (auN h)
def ahf:Env:=(273,Qq)::Tr
theorem Uh:EnvAll Tryz.prog ahf:=⟨U8,GZ⟩
def aq9:Ctx:=CX ahf []
def aie(a:BR)(_k:KT):OLR:=match decide (okI a.1)with|true=>(match decide (ce (ag a.1)*ce (ag a.1)=ag a.1)with|true=>(match decide (okI a.2)with|true=>(match decide (ce (ag a.2)*ce (ag a.2)=ag a.2)with|true=>some [RV.d tR (hid (aj (ce (ag a.1))),hid (aj (ce (ag a.2)))),RV.d .bool true]|false=>some [RV.d tR ((false,[]),(false,[])),RV.d .bool false])|false=>none)|false=>some [RV.d tR ((false,[]),(false,[])),RV.d .bool false])|false=>none
theorem asE(a:BR):RS aq9 249 [.d tR a] (aie a):=rsX
theorem aeD(a:BR)(h:okR a):Con Tryz.prog 249 [.d tR a] [.d tR (rtB (ae a)),.d .bool (fF (ae a))]:=by
 refine aO Uh (asE _ ⟨0,?_⟩)
 obtain⟨a1,a2⟩:=da h
 unfold aie rtB fF
 rw[dT h.1,dT h.2.1,a1,a2]
 simp only[am]
 cases e1:decide (ce (ag a.1)*ce (ag a.1)=ag a.1)
 ·rfl
 ·cases e2:decide (ce (ag a.2)*ce (ag a.2)=ag a.2)
  ·rfl
  ·obtain⟨r1,r2,_⟩:=Kb (q:=ae a) (by unfold fF;rw[a1,a2,e1,e2];rfl)
   simp only[auT,cond_true]
   unfold ai
   rw[r1,r2,a1,a2]
   try rfl
def Kv:aM:=spN false true [tI,tI] (fun x=>decide (okI x.1∧okI x.2.1)) (fun x=>[RV.d tI (hid (aj (ag x.1*ag x.2.1)))])
theorem PL:SpK 158 Kv:=spX fun x h=>by simp only[am];exact F7 x.1 x.2.1 (auN h)
def LU:aM:=spN false true [tI] (fun x=>decide (okI x.1)) (fun x=>[RV.d tI (hid (fJ x.1)),RV.d ayb (sX x.1)])
theorem O7:SpK 210 LU:=spX fun x h=>by simp only[am];exact SA x.1 (auN h)
def Ej:aM:=spN true true [tI,tI] (fun x=>decide (okI x.1∧okI x.2.1)) (fun x=>[RV.d .bool (decide (ag x.1=ag x.2.1))])
theorem AL:SpK 191 Ej:=spX fun x h=>ZK x.1 x.2.1 (auN h)
def J7:Env:=[(158,Kv),(210,LU),(191,Ej)]
theorem Bg:EnvAll Tryz.prog J7:=⟨PL,O7,AL,trivial⟩
def ak5:Ctx:=CX J7 []
def ZI(x:BI)(_k:KT):OLR:=match decide (okI x)with|true=>(match(sX x)==0 with|true=>(match decide (okI (hid (fJ x))∧okI (hid (fJ x)))with|true=>(match decide (okI (hid (aj (ag (hid (fJ x))*ag (hid (fJ x)))))∧okI x)with|true=>some [RV.d tI (hid (fJ x)),RV.d .bool (decide (ag (hid (aj (ag (hid (fJ x))*ag (hid (fJ x)))))=ag x))]|false=>none)|false=>none)|false=>some [RV.d tI (hid (fJ x)),RV.d .bool false])|false=>none
theorem ajE(x:BI):RS ak5 156 [.d tI x] (ZI x):=rsX
theorem YH(x:BI)(h:okI x):Con Tryz.prog 156 [.d tI x] [.d tI (aj (ce (ag x))),.d .bool (decide (ce (ag x)*ce (ag x)=ag x))]:=by
 refine aO Bg (ajE _ ⟨0,?_⟩)
 have hs:=iO h
 have hz:szI (ce (ag x))≤500000:=Mn hs
 have o1:okI (aj (ce (ag x))):=bK (by omega)
 have o2:okI (aj (ce (ag x)*ce (ag x))):=bK (by have:=c9 hz hz;omega)
 have o3:okI (aj (ce (ag x)*ce (ag x)))∧okI x:=⟨o2,h⟩
 have o4:okI (aj (ce (ag x)))∧okI (aj (ce (ag x))):=⟨o1,o1⟩
 have hng:x.1=true→decide (ce (ag x)*ce (ag x)=ag x)=false:=fun e=>auQ (by
  have:=(cS h).2.1 e
  have hd:ag x= -val x.2:=by rw[cg,e];rfl
  rw[qg (by omega)]
  omega)
 unfold ZI
 simp only[am,Dj h,dec_enc,dT h,dT o4,dT o3]
 unfold sX
 cases e:x.1
 ·rfl
 ·rw[hng e];rfl
def MZ:aM:=spN false true [tI] (fun x=>decide (okI x.1)) (fun x=>[RV.d tI (hid (aj (ce (ag x.1)))),RV.d .bool (decide (ce (ag x.1)*ce (ag x.1)=ag x.1))])
theorem Qf:SpK 156 MZ:=spX fun x h=>by simp only[am];exact YH x.1 (auN h)
def Uc:Env:=(156,MZ)::J7
theorem PN:EnvAll Tryz.prog Uc:=⟨Qf,Bg⟩
def aln:Ctx:=CX Uc []
def QZ(a:BR)(_k:KT):OLR:=match decide (okI a.1)with|true=>(match decide (okI a.2)with|true=>(match !(decide (ce (ag a.1)*ce (ag a.1)=ag a.1))with|true=>some [RV.d tR ((false,[]),(false,[])),RV.d .bool false]|false=>(match !(decide (ce (ag a.2)*ce (ag a.2)=ag a.2))with|true=>some [RV.d tR ((false,[]),(false,[])),RV.d .bool false]|false=>some [RV.d tR (hid (aj (ce (ag a.1))),hid (aj (ce (ag a.2)))),RV.d .bool true]))|false=>none)|false=>none
theorem ajZ(a:BR):RS aln 83 [.d tR a] (QZ a):=rsX
theorem Ya(a:BR)(h:okR a):Con Tryz.prog 83 [.d tR a] [.d tR (rtB (ae a)),.d .bool (fF (ae a))]:=by
 refine aO PN (ajZ _ ⟨0,?_⟩)
 obtain⟨a1,a2⟩:=da h
 unfold QZ rtB fF
 rw[dT h.1,dT h.2.1,a1,a2]
 simp only[am]
 cases e1:decide (ce (ag a.1)*ce (ag a.1)=ag a.1)
 ·rfl
 ·cases e2:decide (ce (ag a.2)*ce (ag a.2)=ag a.2)
  ·rfl
  ·obtain⟨r1,r2,_⟩:=Kb (q:=ae a) (by unfold fF;rw[a1,a2,e1,e2];rfl)
   simp only[auT,cond_true]
   unfold ai
   rw[r1,r2,a1,a2]
   try rfl
def VX:aM:=spN false true [tI,tI] (fun x=>decide (fy x.1 x.2.1)) (fun x=>[RV.d tI (hid (aj (ag x.1/ag x.2.1))),RV.d tI (hid (aj (ag x.1%ag x.2.1))),RV.d ayb 0])
theorem Um:SpK 248 VX:=spX fun x h=>by simp only[am];exact Kq x.1 x.2.1 (auN h)
def afi:Env:=[(248,VX)]
theorem Z0:EnvAll Tryz.prog afi:=⟨Um,trivial⟩
def arF:Ctx:=CX afi []
def ag6(a:BR)(_k:KT):OLR:=match decide (fy a.1 a.2)with|true=>some [RV.d tI (hid (aj (ag a.1/ag a.2)))]|false=>none
theorem ao4(a:BR):RS arF 255 [.d tR a] (ag6 a):=rsX
theorem aaA(a:BR)(h:okR a):Con Tryz.prog 255 [.d tR a] [.d tI (aj (ae a).floor)]:=by
 refine aO Z0 (ao4 _ ⟨0,?_⟩)
 obtain⟨a1,a2⟩:=da h
 unfold ag6
 rw[dT (show fy a.1 a.2 from⟨h.1,h.2.1,h.2.2.1⟩),Rat.floor_def,a1,a2]
 simp only[am]
def agI:Env:=[(209,qH)]
theorem Sx:EnvAll Tryz.prog agI:=⟨mZ,trivial⟩
def abY:NT:=[((190,6),{keep:=[1,3],hl:=1})]
def Es:Ctx:=CX agI abY
def wN(x:BI)(s3:Int):Cfg:=⟨190,[.blk 0,.seq 23],[(1,.box 0 0),(3,SI s3)],[.box 33 [SB x.1,.d aya x.2]],0,[]⟩
def aiq(x:BI)(k:KT):OLR:=k 6 (wN x 0)
theorem aiQ(x:BI):RS Es 190 [.d tI x] (aiq x):=rsX
def uM(x:BI)(s3:Int)(k:KT):OLR:=match decide (s3<(x.2.length:Int))with|true=>(match bi x.2 s3 with|some x1=>(match decide (x1≥1000000000)with|true=>some [RV.d .bool false]|false=>k 6 (wN x (i64.wrap (s3+1))))|none=>none)|false=>(match decide (bj x.2)with|true=>(match((ah (val x.2).toNat).length:Int)==(x.2.length:Int)with|true=>(match !x.1 with|true=>some [RV.d .bool true]|false=>some [RV.d .bool (decide ((x.2.length:Int)>0))])|false=>some [RV.d .bool false])|false=>none)
theorem Bz(x:BI)(s3:Int):RN Es 6 (wN x s3) (uM x s3):=rnX
theorem N5(x:BI)(h:okI x):∀(j i:Nat),i+j=x.2.length→Es.Runs 6 (wN x (i:Int)) [.d .bool true]:=by
 obtain⟨x0,x1,x2⟩:=cS h
 have hlim:=fV h
 have hl:=h.2.2
 intro j
 induction j with
 |zero=>
  intro i hi
  refine Bz _ _ ⟨0,?_⟩
  unfold uM
  have hc:ah (val x.2).toNat=x.2:=(oY h.1).symm
  rw[cz (by omega),dT hlim,hc,awW]
  dsimp only
  cases e:x.1
  ·rfl
  ·have:=x1 e
   have:x.2≠[]:=fun e=>by rw[x2]at e;omega
   have:=avF.2 this
   rw[auO (by omega)]
   rfl
 |succ j ih=>
  intro i hi
  have hil:i<x.2.length:=by omega
  obtain⟨q,hq⟩:=ih (i+1) (by omega)
  refine Bz _ _ ⟨q,?_⟩
  unfold uM
  have hb:=(hlim.1 x.2[i] (avu hil)).2
  rw[cd hil,aA,auP hil,cr (by omega)]
  dsimp only
  rw[auQ (by omega)]
  exact hq
theorem TL(x:BI)(h:okI x):Con Tryz.prog 190 [.d tI x] [.d .bool true]:=by
 refine aO Sx (show Es.Res _ _ _ from ?_)
 obtain⟨q,hq⟩:=N5 x h x.2.length 0 (by omega)
 exact aiQ _ ⟨q,hq⟩
def Lo:aM:=spN true true [tI] (fun x=>decide (okI x.1)) (fun _=>[RV.d .bool true])
theorem NV:SpK 190 Lo:=spX fun x h=>TL x.1 (auN h)
def Mc:aM:=spN true true [tI] (fun x=>decide (okI x.1)) (fun x=>[RV.d ayb (cJ (ag x.1) 0)])
theorem Pq:SpK 134 Mc:=spX fun x h=>GU x.1 (auN h)
def Nw:aM:=spN false true [tI,tI] (fun x=>decide (okI x.1∧okI x.2.1)) (fun x=>[RV.d tI (hid (aj ((Int.gcd (ag x.1) (ag x.2.1):Nat):Int)))])
theorem PJ:SpK 161 Nw:=spX fun x h=>by simp only[am];exact EZ x.1 x.2.1 (auN h)
def Lj:aM:=spN false true [] (fun _=>true) (fun _=>[RV.d tI (hid (aj 1))])
theorem OU:SpK 82 Lj:=spX fun _ _=>by simp only[am];exact Gk
def af8:Env:=[(191,Ej),(190,Lo),(134,Mc),(161,Nw),(82,Lj)]
theorem X8:EnvAll Tryz.prog af8:=⟨AL,NV,Pq,PJ,OU,trivial⟩
def ai5:Ctx:=CX af8 []
def Yn(a:BR)(_k:KT):OLR:=match decide (okI a.1)with|true=>(match decide (okI a.2)with|true=>(match decide (okI a.2)with|true=>(match(cJ (ag a.2) 0) !=1 with|true=>some [RV.d .bool false]|false=>(match decide (okI a.1∧okI a.2)with|true=>(match decide (okI (hid (aj ((Int.gcd (ag a.1) (ag a.2):Nat):Int)))∧okI (hid (aj 1)))with|true=>some [RV.d .bool (decide (ag (hid (aj ((Int.gcd (ag a.1) (ag a.2):Nat):Int)))=ag (hid (aj 1))))]|false=>none)|false=>none))|false=>none)|false=>none)|false=>none
theorem aiS(a:BR):RS ai5 130 [.d tR a] (Yn a):=rsX
theorem W2(a:BR)(h:okR a):Con Tryz.prog 130 [.d tR a] [.d .bool true]:=by
 refine aO X8 (aiS _ ⟨0,?_⟩)
 obtain⟨h1,h2,h3,h4,_⟩:=h
 have o1:okI (aj ((Int.gcd (ag a.1) (ag a.2):Nat):Int)):=by rw[h4];exact qQ
 unfold Yn
 simp only[am]
 rw[dT h1,dT h2,dT (show okI a.1∧okI a.2 from⟨h1,h2⟩),c8 h3,dT (show okI (aj ((Int.gcd (ag a.1) (ag a.2):Nat):Int))∧okI (aj 1) from⟨o1,qQ⟩),dec_enc,dec_enc,h4]
 rfl
def mkR(a b c:Rat):Rt:=bif fF c then(a+b*rtQ c,0,0)else bif decide (b=0)then(a,0,0)else(a,b,c)
def coR(a b c:Rat):Rt:=bif decide (b=0)then(a,0,0)else(a,b,c)
class Nn (c:Rat):Prop where le:0≤c
def aeY(x:Rt):Prop:=(x.2.1=0∧x.2.2=0)∨(x.2.1≠0∧0<x.2.2∧fF x.2.2=false)
instance (x:Rt):Decidable (aeY x):=by unfold aeY;infer_instance
class Rdd (x:Rt):Prop where
 rd:aeY x
def okT(k:Nat)(x:BO3):Prop:=ok Rt k x∧aeY (dec x)
instance (k:Nat) (x:BO3):Decidable (okT k x):=by unfold okT;infer_instance
theorem kx{k:Nat}{x:BO3}(h:okT k x):∃v:Rt,x=enc v∧Bd v k∧Rdd v:=by
 obtain⟨h1,h2⟩:=h
 obtain⟨v,rfl,bv⟩:=aY h1
 rw[aq]at h2
 exact⟨v,rfl,bv,⟨h2⟩⟩
theorem bH{x:Rt}{j k:Nat}[h:Bd x j][r:Rdd x](hj:j≤k)(hk:k≤480000):decide (okT k (enc x))=true:=auO ⟨auN (okd hj hk),by rw[aq];exact r.rd⟩
theorem Rdd.nn{x:Rt}(h:Rdd x):0≤x.2.2:=by
 rcases h.rd with h|h<;>grind
instance auD {x:Rt} [h:Rdd x]:Nn x.2.2:=⟨h.nn⟩
theorem zo:fF 0=true:=by decide+kernel
theorem Nf{c:Rat}(h:0≤c)(hc:fF c=false):0<c:=by
 rcases(by grind:c=0∨0<c)with h|h
 ·rw[h,zo]at hc;cases hc
 ·exact h
instance WR {a b c:Rat} [h:Nn c]:Rdd (mkR a b c):=by
 refine⟨?_⟩
 unfold mkR
 cases hc:fF c
 ·simp only[cond_false]
  by_cases hb:b=0
  ·rw[auO hb];exact .inl ⟨rfl,rfl⟩
  ·rw[auQ hb];exact .inr ⟨hb,Nf h.le hc,hc⟩
 ·exact .inl ⟨rfl,rfl⟩
instance atJ {a:Rat}:Rdd (a,0,0):=⟨.inl ⟨rfl,rfl⟩⟩
namespace RE
theorem VF{c:Rat}(h:fF c=true):rq c=of (rtQ c):=by
 obtain⟨_,_,e,h0⟩:=Kb h
 refine agu _ _ (R4 c) (ou.2 h0) ?_
 rw[pV (by rw[←e];exact avI h0 h0),←bR,e]
theorem eH(a c:Rat):v2 a 0 c=of a:=by
 unfold v2
 rw[qX,zero_mul,add_zero]
theorem vR_mk(a b c:Rat):vR (mkR a b c)=v2 a b c:=by
 unfold mkR vR
 cases hc:fF c
 ·simp only[cond_false]
  by_cases hb:b=0
  ·rw[auO hb];subst hb;show v2 a 0 0=_;rw[eH,eH]
  ·rw[auQ hb];rfl
 ·show v2 (a+b*rtQ c) 0 0=_
  rw[eH]
  unfold v2
  rw[VF hc,of_add,bR]
theorem vR_co(a b c:Rat):vR (coR a b c)=v2 a b c:=by
 unfold coR vR
 by_cases hb:b=0
 ·rw[auO hb];subst hb;show v2 a 0 0=_;rw[eH,eH]
 ·rw[auQ hb];rfl
end RE
theorem acv{z:Int}(h:0≤z):ce z≤z:=by
 obtain⟨g0,g1,g2⟩:=fT h
 rcases avt (ce z) 1 with h'|h'
 ·omega
 ·have:ce z*1≤ce z*ce z:=au3 h' g0
  omega
theorem E8(z:Int):szI (ce z)≤szI z:=by
 have h0:=Eu z
 rcases avt z 0 with h|h
 ·rw[qg h];exact dG (by omega)
 ·have:=acv h
  exact dG (by omega)
instance auA {c:Rat} {k:Nat} [h:Bd c k]:Bd (rtQ c) k:=by
 have hd:=c.den_pos
 have h1:0<ce (c.den:Int):=by
  obtain⟨g0,g1,g2⟩:=fT (show(0:Int)≤(c.den:Int) by omega)
  rcases avt 0 (ce (c.den:Int))with h|h
  ·exact h
  ·rw[show ce (c.den:Int)=0 by omega]at g2;omega
 refine⟨uT (by omega) (ava (E8 _) h.le.1) ?_⟩
 rw[Int.toNat_of_nonneg (by omega)]
 exact ava (E8 _) h.le.2
instance aul {a b c:Rat} {i j k:Nat} [ha:Bd a i] [hb:Bd b j] [hc:Bd c k]:Bd (mkR a b c) (i+(j+k)+1):=by
 have z:bdR (i+(j+k)+1) 0:=cN uA.le (by omega)
 refine⟨?_⟩
 unfold mkR
 cases fF c
 ·simp only[cond_false]
  cases decide (b=0)
  ·exact⟨cN ha.le (by omega),cN hb.le (by omega),cN hc.le (by omega)⟩
  ·exact⟨cN ha.le (by omega),z,z⟩
 ·exact⟨(inferInstance:Bd (a+b*rtQ c) (i+(j+k)+1)).le,z,z⟩
instance aua {a b c:Rat} {i j k:Nat} [ha:Bd a i] [hb:Bd b j] [hc:Bd c k]:Bd (coR a b c) (mx i (mx j k)):=by
 have h1:=IY i (mx j k)
 have h2:=Iw i (mx j k)
 have h3:=IY j k
 have h4:=Iw j k
 have h5:=sD ha.le
 have z:bdR (mx i (mx j k)) 0:=cN uA.le (by omega)
 refine⟨?_⟩
 unfold coR
 cases decide (b=0)
 ·exact⟨cN ha.le (by omega),cN hb.le (by omega),cN hc.le (by omega)⟩
 ·exact⟨cN ha.le (by omega),z,z⟩
class Ns (c:Rat):Prop where ns:c=0∨(0<c∧fF c=false)
theorem Ns.nn{c:Rat}(h:Ns c):0≤c:=by rcases h.ns with h|h<;>grind
instance auu {c:Rat} [h:Ns c]:Nn c:=⟨h.nn⟩
def sgR(x:Rt):Int:=fZ x.1 x.2.1 x.2.2
def noR(x:Rt):Rat:=x.1*x.1-x.2.1*x.2.1*x.2.2
theorem aae{x:Rt}(h:0≤x.2.2):sgR x=RE.sg (RE.vR x):=RE.sgn2_re h
def mb(a b c:Rat):Rt:=bif decide (b=0)then(a,0,0)else bif decide (c=0)then(a,0,0)else(a,b,c)
instance atn {x:Rt} {k:Nat} [h:Bd x k]:Bd (noR x) (5*k+1):=(inferInstance:Bd (x.1*x.1-x.2.1*x.2.1*x.2.2) (k+k+(k+k+k)+1)).mono (by omega)
theorem Yv{c:Rat}(h:fF c=true):rtB c=ai (rtQ c):=by unfold rtB;rw[h];rfl
theorem akf{x:Rt}(h:Rdd x)(hb:x.2.1≠0):noR x≠0:=by
 intro e
 rcases h.rd with h|⟨_,h1,h2⟩
 ·exact hb h.1
 ·unfold noR at e
  have:x.2.2=x.1/x.2.1*(x.1/x.2.1):=by grind
  rw[this,acw]at h2
  cases h2
theorem an6{x:Rt}(h:Rdd x):sgR x=bif aR x.2.1 0==0 then aR x.1 0 else bif aR x.1 0==aR x.2.1 0 then aR x.1 0 else bif aR x.1 0==0 then aR x.2.1 0 else aR x.1 0*aR (noR x) 0:=by
 unfold sgR fZ RE.addS
 rcases h.rd with⟨h1,h2⟩|⟨h0,h1,h2⟩
 ·rw[h1,dY]
  simp
 ·have hb:(aR x.2.1 0==0)=false:=by rw[aE,auQ h0]
  rw[dA h1,axf,hb]
  unfold noR
  rw[xX]
  rfl
def lg:aM:=spN false true [ayb] (fun x=>decide (bU x.1)) (fun x=>[RV.d tR (hid (ai (x.1:Rat)))])
theorem gj:SpK 151 lg:=spX fun x h=>by simp only[am];exact aeg x.1 (auN h)
def qb:aM:=spN false true [tR,tR] (fun x=>decide (okR x.1∧okR x.2.1)) (fun x=>[RV.d tR (hid (ai (ae x.1+ae x.2.1)))])
theorem lj:SpK 144 qb:=spX fun x h=>by simp only[am];exact KN x.1 x.2.1 (auN h)
def l4:aM:=spN false true [tR,tR] (fun x=>decide (okR x.1∧okR x.2.1)) (fun x=>[RV.d tR (hid (ai (ae x.1-ae x.2.1)))])
theorem il:SpK 74 l4:=spX fun x h=>by simp only[am];exact aaw x.1 x.2.1 (auN h)
def kC:aM:=spN false true [tR,tR] (fun x=>decide (okR x.1∧okR x.2.1)) (fun x=>[RV.d tR (hid (ai (ae x.1*ae x.2.1)))])
theorem gk:SpK 76 kC:=spX fun x h=>by simp only[am];exact abL x.1 x.2.1 (auN h)
def kX:aM:=spN true true [tR] (fun x=>decide (okR x.1)) (fun x=>[RV.d ayb (aR (ae x.1) 0)])
theorem gG:SpK 147 kX:=spX fun x h=>Kl x.1 (auN h)
def Qu:aM:=spN false true [tR] (fun x=>decide (okR x.1)) (fun x=>[RV.d tR (hid (rtB (ae x.1))),RV.d .bool (fF (ae x.1))])
theorem aac:SpK 249 Qu:=spX fun x h=>by simp only[am];exact aeD x.1 (auN h)
def UT:Env:=[(151,lg),(144,qb),(74,l4),(76,kC),(147,kX),(249,Qu)]
theorem Hv:EnvAll Tryz.prog UT:=⟨gj,lj,il,gk,gG,aac,trivial⟩
def aqP:Ctx:=CX UT []
def ahZ(_k:KT):OLR:=match decide (bU (0:Int))with|true=>some [RV.d tR (hid (ai ((0:Int):Rat)))]|false=>none
theorem aqV:RS aqP 274 [] (ahZ):=rsX
theorem abl:Con Tryz.prog 274 [] [.d tR (ai 0)]:=by
 refine aO Hv (aqV ⟨0,?_⟩)
 unfold ahZ
 rw[dT (show bU 0 by decide)]
 simp only[am]
 rfl
def Vc:aM:=spN false true [] (fun _=>true) (fun _=>[RV.d tR (hid (ai 0))])
theorem Rg:SpK 274 Vc:=spX fun _ _=>by simp only[am];exact abl
def Mf:Env:=(274,Vc)::UT
theorem zg:EnvAll Tryz.prog Mf:=⟨Rg,Hv⟩
def ap8:Ctx:=CX Mf []
def agd(a:BR)(_k:KT):OLR:=some [RV.d tO (a,(hid (ai 0),hid (ai 0)))]
theorem as3(a:BR):RS ap8 250 [.d tR a] (agd a):=rsX
theorem abG(a:BR)(h:okR a):Con Tryz.prog 250 [.d tR a] [.d tO (enc ((ae a,0,0):Rt))]:=by
 refine aO zg (as3 _ ⟨0,?_⟩)
 have ha:=h
 obtain⟨a,rfl,ba⟩:=fk ha
 unfold agd
 simp only[am,aS,aF,az]
 try rfl
def ash:Ctx:=CX Mf []
def ah0(a b c:BR)(_k:KT):OLR:=match decide (okR b)with|true=>(match(aR (ae b) 0)==0 with|true=>some [RV.d tO (a,(b,hid (ai 0)))]|false=>some [RV.d tO (a,(b,c))])|false=>none
theorem ap5(a b c:BR):RS ash 251 [.d tR a,.d tR b,.d tR c] (ah0 a b c):=rsX
theorem adL(a b c:BR)(h:okR a∧okR b∧okR c):Con Tryz.prog 251 [.d tR a,.d tR b,.d tR c] [.d tO (enc (coR (ae a) (ae b) (ae c)))]:=by
 refine aO zg (ap5 _ _ _ ⟨0,?_⟩)
 obtain⟨ha,hb,hc⟩:=h
 obtain⟨a,rfl,ba⟩:=fk ha
 obtain⟨b,rfl,bb⟩:=fk hb
 obtain⟨c,rfl,bc⟩:=fk hc
 unfold ah0
 simp only[am,az,aZ,Nat.reduceLeDiff,aE]
 unfold coR
 by_cases e:b=0
 ·subst e;rw[auO rfl];rfl
 ·rw[auQ e];rfl
def xH:aM:=spN false true [tR] (fun x=>decide (okR x.1)) (fun x=>[RV.d tO (hid (enc ((ae x.1,0,0):Rt)))])
theorem sS:SpK 250 xH:=spX fun x h=>by simp only[am];exact abG x.1 (auN h)
def YQ:aM:=spN false true [tR,tR,tR] (fun x=>decide (okR x.1∧okR x.2.1∧okR x.2.2.1)) (fun x=>[RV.d tO (hid (enc (coR (ae x.1) (ae x.2.1) (ae x.2.2.1))))])
theorem QK:SpK 251 YQ:=spX fun x h=>by simp only[am];exact adL x.1 x.2.1 x.2.2.1 (auN h)
def afr:Env:=(250,xH)::(251,YQ)::Mf
theorem U6:EnvAll Tryz.prog afr:=⟨sS,QK,zg⟩
def anw:Ctx:=CX afr []
def ag5(a b c:BR)(_k:KT):OLR:=match decide (okR c)with|true=>(match decide ((aR (ae c) 0)<0)with|true=>some [RV.d tO (((false,[]),(false,[])),(((false,[]),(false,[])),((false,[]),(false,[])))),RV.d ayb 7]|false=>(match decide (okR c)with|true=>(match fF (ae c)with|true=>(match decide (okR b∧okR (hid (rtB (ae c))))with|true=>(match decide (okR a∧okR (hid (ai (ae b*ae (hid (rtB (ae c)))))))with|true=>(match decide (okR (hid (ai (ae a+ae (hid (ai (ae b*ae (hid (rtB (ae c))))))))))with|true=>some [RV.d tO (hid (enc ((ae (hid (ai (ae a+ae (hid (ai (ae b*ae (hid (rtB (ae c))))))))),0,0):Rt))),RV.d ayb 0]|false=>none)|false=>none)|false=>none)|false=>(match decide (okR a∧okR b∧okR c)with|true=>some [RV.d tO (hid (enc (coR (ae a) (ae b) (ae c)))),RV.d ayb 0]|false=>none))|false=>none))|false=>none
theorem apx(a b c:BR):RS anw 207 [.d tR a,.d tR b,.d tR c] (ag5 a b c):=rsX
theorem aeX(a b c:BR)(h:ok Rat 100000 a∧ok Rat 100000 b∧ok Rat 100000 c∧0≤ae c):Con Tryz.prog 207 [.d tR a,.d tR b,.d tR c] [.d tO (enc (mkR (ae a) (ae b) (ae c))),.d ayb 0]:=by
 refine aO U6 (apx _ _ _ ⟨0,?_⟩)
 obtain⟨ha,hb,hc,hc_3⟩:=h
 obtain⟨a,rfl,ba⟩:=aY ha
 obtain⟨b,rfl,bb⟩:=aY hb
 obtain⟨c,rfl,bc⟩:=aY hc
 rw[aF,az]at hc_3
 unfold ag5
 simp only[am,aS,aF,az,aZ,auR,auT,auS,Nat.reduceLeDiff,aG,auQ (show ¬c<0 by grind)]
 unfold mkR
 cases hq:fF c
 ·have hz:c≠0:=fun e=>by rw[e,zo]at hq;cases hq
  simp only[cond_false]
  try rfl
 ·rw[Yv hq]
  simp only[aS,aF,az,aZ,Nat.reduceAdd,Nat.reduceLeDiff,cond_true]
  try rfl
def nv:aM:=spN false true [ayb] (fun x=>decide (bU x.1)) (fun x=>[RV.d tR (hid (ai (x.1:Rat)))])
theorem kq:SpK 35 nv:=spX fun x h=>by simp only[am];exact R7 x.1 (auN h)
def qU:aM:=spN false true [tR,tR] (fun x=>decide (okR x.1∧okR x.2.1)) (fun x=>[RV.d tR (hid (ai (ae x.1+ae x.2.1)))])
theorem mg:SpK 85 qU:=spX fun x h=>by simp only[am];exact HN x.1 x.2.1 (auN h)
def qs:aM:=spN false true [tR,tR] (fun x=>decide (okR x.1∧okR x.2.1)) (fun x=>[RV.d tR (hid (ai (ae x.1-ae x.2.1)))])
theorem mM:SpK 168 qs:=spX fun x h=>by simp only[am];exact Zn x.1 x.2.1 (auN h)
def ng:aM:=spN false true [tR,tR] (fun x=>decide (okR x.1∧okR x.2.1)) (fun x=>[RV.d tR (hid (ai (ae x.1*ae x.2.1)))])
theorem j8:SpK 86 ng:=spX fun x h=>by simp only[am];exact V0 x.1 x.2.1 (auN h)
def jS:aM:=spN true true [tR] (fun x=>decide (okR x.1)) (fun x=>[RV.d ayb (aR (ae x.1) 0)])
theorem gU:SpK 69 jS:=spX fun x h=>Vo x.1 (auN h)
def wO:aM:=spN false true [tR] (fun x=>decide (okR x.1)) (fun x=>[RV.d tR (hid (rtB (ae x.1))),RV.d .bool (fF (ae x.1))])
theorem wg:SpK 83 wO:=spX fun x h=>by simp only[am];exact Ya x.1 (auN h)
def Er:aM:=spN true true [tR] (fun x=>decide (okR x.1)) (fun _=>[RV.d .bool true])
theorem BA:SpK 130 Er:=spX fun x h=>W2 x.1 (auN h)
def I3:Env:=[(35,nv),(85,qU),(168,qs),(86,ng),(69,jS),(83,wO),(130,Er)]
theorem BS:EnvAll Tryz.prog I3:=⟨kq,mg,mM,j8,gU,wg,BA,trivial⟩
def alc:Ctx:=CX I3 []
def T5(_k:KT):OLR:=match decide (bU (0:Int))with|true=>some [RV.d tR (hid (ai ((0:Int):Rat)))]|false=>none
theorem amd:RS alc 157 [] (T5):=rsX
theorem UB:Con Tryz.prog 157 [] [.d tR (ai 0)]:=by
 refine aO BS (amd ⟨0,?_⟩)
 unfold T5
 rw[dT (show bU 0 by decide)]
 simp only[am]
 rfl
def D2:aM:=spN false true [] (fun _=>true) (fun _=>[RV.d tR (hid (ai 0))])
theorem AY:SpK 157 D2:=spX fun _ _=>by simp only[am];exact UB
def I4:Env:=(157,D2)::I3
theorem Bc:EnvAll Tryz.prog I4:=⟨AY,BS⟩
def ajU:Ctx:=CX I4 []
def Sg(a:BR)(_k:KT):OLR:=some [RV.d tO (a,(hid (ai 0),hid (ai 0)))]
theorem als(a:BR):RS ajU 84 [.d tR a] (Sg a):=rsX
theorem UP(a:BR)(h:okR a):Con Tryz.prog 84 [.d tR a] [.d tO (enc ((ae a,0,0):Rt))]:=by
 refine aO Bc (als _ ⟨0,?_⟩)
 have ha:=h
 obtain⟨a,rfl,ba⟩:=fk ha
 unfold Sg
 simp only[am,aS,aF,az]
 try rfl
def Ee:aM:=spN false true [tR] (fun x=>decide (okR x.1)) (fun x=>[RV.d tO (hid (enc ((ae x.1,0,0):Rt)))])
theorem AX:SpK 84 Ee:=spX fun x h=>by simp only[am];exact UP x.1 (auN h)
def Ik:Env:=(84,Ee)::I4
theorem BL:EnvAll Tryz.prog Ik:=⟨AX,Bc⟩
def al8:Ctx:=CX Ik []
def UF(a b c:BR)(_k:KT):OLR:=match decide (okR b)with|true=>(match(aR (ae b) 0)==0 with|true=>(match decide (okR a)with|true=>some [RV.d tO (hid (enc ((ae a,0,0):Rt)))]|false=>none)|false=>(match decide (okR c)with|true=>(match(aR (ae c) 0)==0 with|true=>(match decide (okR a)with|true=>some [RV.d tO (hid (enc ((ae a,0,0):Rt)))]|false=>none)|false=>some [RV.d tO (a,(b,c))])|false=>none))|false=>none
theorem alB(a b c:BR):RS al8 87 [.d tR a,.d tR b,.d tR c] (UF a b c):=rsX
theorem Yk(a b c:BR)(h:okR a∧okR b∧okR c):Con Tryz.prog 87 [.d tR a,.d tR b,.d tR c] [.d tO (enc (mb (ae a) (ae b) (ae c)))]:=by
 refine aO BL (alB _ _ _ ⟨0,?_⟩)
 obtain⟨ha,hb,hc⟩:=h
 obtain⟨a,rfl,ba⟩:=fk ha
 obtain⟨b,rfl,bb⟩:=fk hb
 obtain⟨c,rfl,bc⟩:=fk hc
 unfold UF
 simp only[am,aS,aF,az,aZ,Nat.reduceLeDiff,aE]
 unfold mb
 by_cases e:b=0
 ·rw[auO e];rfl
 ·rw[auQ e]
  by_cases e:c=0
  ·rw[auO e];rfl
  ·rw[auQ e];rfl
def Dz:aM:=spN false true [tR,tR,tR] (fun x=>decide (okR x.1∧okR x.2.1∧okR x.2.2.1)) (fun x=>[RV.d tO (hid (enc (mb (ae x.1) (ae x.2.1) (ae x.2.2.1))))])
theorem B4:SpK 87 Dz:=spX fun x h=>by simp only[am];exact Yk x.1 x.2.1 x.2.2.1 (auN h)
def T2:Env:=(87,Dz)::Ik
theorem OD:EnvAll Tryz.prog T2:=⟨B4,BL⟩
def al9:Ctx:=CX T2 []
def YO(a b c:BR)(_k:KT):OLR:=match decide (okR c)with|true=>(match decide ((aR (ae c) 0)<0)with|true=>some [RV.d tO (((false,[]),(false,[])),(((false,[]),(false,[])),((false,[]),(false,[])))),RV.d ayb 7]|false=>(match decide (okR c)with|true=>(match fF (ae c)with|true=>(match decide (okR b∧okR (hid (rtB (ae c))))with|true=>(match decide (okR a∧okR (hid (ai (ae b*ae (hid (rtB (ae c)))))))with|true=>(match decide (okR (hid (ai (ae a+ae (hid (ai (ae b*ae (hid (rtB (ae c))))))))))with|true=>some [RV.d tO (hid (enc ((ae (hid (ai (ae a+ae (hid (ai (ae b*ae (hid (rtB (ae c))))))))),0,0):Rt))),RV.d ayb 0]|false=>none)|false=>none)|false=>none)|false=>(match decide (okR a∧okR b∧okR c)with|true=>some [RV.d tO (hid (enc (mb (ae a) (ae b) (ae c)))),RV.d ayb 0]|false=>none))|false=>none))|false=>none
theorem aiZ(a b c:BR):RS al9 36 [.d tR a,.d tR b,.d tR c] (YO a b c):=rsX
theorem Ve(a b c:BR)(h:ok Rat 100000 a∧ok Rat 100000 b∧ok Rat 100000 c∧0≤ae c):Con Tryz.prog 36 [.d tR a,.d tR b,.d tR c] [.d tO (enc (mkR (ae a) (ae b) (ae c))),.d ayb 0]:=by
 refine aO OD (aiZ _ _ _ ⟨0,?_⟩)
 obtain⟨ha,hb,hc,hc_3⟩:=h
 obtain⟨a,rfl,ba⟩:=aY ha
 obtain⟨b,rfl,bb⟩:=aY hb
 obtain⟨c,rfl,bc⟩:=aY hc
 rw[aF,az]at hc_3
 unfold YO
 simp only[am,aS,aF,az,aZ,auR,auT,auS,Nat.reduceLeDiff,aG,auQ (show ¬c<0 by grind)]
 unfold mkR
 cases hq:fF c
 ·have hz:c≠0:=fun e=>by rw[e,zo]at hq;cases hq
  simp only[cond_false,mb,auQ hz]
  try rfl
 ·rw[Yv hq]
  simp only[aS,aF,az,aZ,Nat.reduceAdd,Nat.reduceLeDiff,cond_true]
  try rfl
abbrev Iv:=Int×Int
def prI(i:Iv):Prop:= -2305843009213693952≤i.1∧i.1≤i.2∧i.2≤2305843009213693952
instance (i:Iv):Decidable (prI i):=by unfold prI;infer_instance
def iv0:Iv:=(0,0)
theorem fQ:prI iv0:=by decide
def mN(lo hi:Int):Iv×Bool:=bif decide (lo< -2305843009213693952)then(iv0,false)else bif decide (hi>2305843009213693952)then(iv0,false)else((lo,hi),true)
theorem C8{lo hi:Int}(h:lo≤hi):prI (mN lo hi).1:=by
 unfold mN
 by_cases h1:lo< -2305843009213693952
 ·rw[auO h1];exact fQ
 ·rw[auQ h1]
  by_cases h2:hi>2305843009213693952
  ·rw[auO h2];exact fQ
  ·rw[auQ h2];exact⟨by show _≤lo;omega,h,by show hi≤_;omega⟩
theorem CQ{lo hi:Int}(h:(mN lo hi).2=true):(mN lo hi).1=(lo,hi):=by
 unfold mN at h ⊢
 by_cases h1:lo< -2305843009213693952
 ·rw[auO h1]at h;cases h
 ·rw[auQ h1]at h ⊢
  by_cases h2:hi>2305843009213693952
  ·rw[auO h2]at h;cases h
  ·rw[auQ h2];rfl
def frF(q:Rat):Iv×Bool:=bif decide (bU (q*65536).floor)then bif decide (bU (-(-(q*65536)).floor))then mN (q*65536).floor (-(-(q*65536)).floor)else(iv0,false)else(iv0,false)
def dJ(a b:Iv):Iv×Bool:=mN (a.1+b.1) (a.2+b.2)
def lV(a:Iv):Iv:=(-a.2,-a.1)
def scF(x y:Int):(Int×Int)×Bool:=
 bif decide (x.natAbs*y.natAbs≥1208925819614629174706176)then((0,0),false)else bif decide (x.natAbs*y.natAbs/65536>2305843009213693952)then((0,0),false)
 else bif decide (x<0)==decide (y<0)then((((x.natAbs*y.natAbs/65536:Nat):Int),(((x.natAbs*y.natAbs+65535)/65536:Nat):Int)),decide ((x.natAbs*y.natAbs+65535)/65536≤2305843009213693952))
 else((-(((x.natAbs*y.natAbs+65535)/65536:Nat):Int),-((x.natAbs*y.natAbs/65536:Nat):Int)),decide ((x.natAbs*y.natAbs+65535)/65536≤2305843009213693952))
theorem am2{x y:Int}(h:(scF x y).2=true):(scF x y).1.1*65536≤x*y∧x*y≤(scF x y).1.2*65536∧ -2305843009213693952≤(scF x y).1.1∧(scF x y).1.2≤2305843009213693952:=by
 have ep:(((x.natAbs*y.natAbs:Nat)):Int)=(x.natAbs:Int)*(y.natAbs:Int):=awh _ _
 have hs:(decide (x<0)==decide (y<0))=true→x*y=(((x.natAbs*y.natAbs:Nat)):Int):=fun e=>by
  rw[ep]
  by_cases hx:x<0<;>by_cases hy:y<0
  ·rw[show(x.natAbs:Int)= -x by omega,show(y.natAbs:Int)= -y by omega];grind
  ·simp[hx,hy]at e
  ·simp[hx,hy]at e
  ·rw[show(x.natAbs:Int)=x by omega,show(y.natAbs:Int)=y by omega]
 have hd:(decide (x<0)==decide (y<0))=false→x*y= -(((x.natAbs*y.natAbs:Nat)):Int):=fun e=>by
  rw[ep]
  by_cases hx:x<0<;>by_cases hy:y<0
  ·simp[hx,hy]at e
  ·rw[show(x.natAbs:Int)= -x by omega,show(y.natAbs:Int)=y by omega];grind
  ·rw[show(x.natAbs:Int)=x by omega,show(y.natAbs:Int)= -y by omega];grind
  ·simp[hx,hy]at e
 unfold scF at h ⊢
 generalize x.natAbs*y.natAbs=p at*
 by_cases h1:p≥1208925819614629174706176
 ·rw[auO h1]at h;cases h
 rw[auQ h1]at h ⊢
 by_cases h2:p/65536>2305843009213693952
 ·rw[auO h2]at h;cases h
 rw[auQ h2]at h ⊢
 cases e:(decide (x<0)==decide (y<0))<;>rw[e]at h<;>have h3:=auN h
 ·rw[hd e]
  show-(((p+65535)/65536:Nat):Int)*65536≤_∧_≤ -((p/65536:Nat):Int)*65536∧_≤ -(((p+65535)/65536:Nat):Int)∧ -((p/65536:Nat):Int)≤_
  omega
 ·rw[hs e]
  show((p/65536:Nat):Int)*65536≤_∧_≤(((p+65535)/65536:Nat):Int)*65536∧_≤((p/65536:Nat):Int)∧(((p+65535)/65536:Nat):Int)≤_
  omega
def hZ(s:Iv×Bool)(x y:Int):Iv×Bool:=bif s.2&&(scF x y).2 then((if(scF x y).1.1<s.1.1 then(scF x y).1.1 else s.1.1,if(scF x y).1.2>s.1.2 then(scF x y).1.2 else s.1.2),true)else(iv0,false)
def cW(a b:Iv):Iv×Bool:=hZ (hZ (hZ (hZ ((2305843009213693952,-2305843009213693952),true) a.1 b.1) a.1 b.2) a.2 b.1) a.2 b.2
theorem lK{s:Iv×Bool}{x y:Int}(h:(hZ s x y).2=true):s.2=true∧(hZ s x y).1.1≤s.1.1∧s.1.2≤(hZ s x y).1.2∧(hZ s x y).1.1*65536≤x*y∧x*y≤(hZ s x y).1.2*65536∧((-2305843009213693952≤s.1.1∧s.1.2≤2305843009213693952)→ -2305843009213693952≤(hZ s x y).1.1∧(hZ s x y).1.2≤2305843009213693952):=by
 unfold hZ at h ⊢
 cases e:(s.2&&(scF x y).2)<;>rw[e]at h
 ·cases h
 ·obtain⟨e1,e2⟩:=au6.1 e
  obtain⟨g1,g2,g3,g4⟩:=am2 e2
  refine⟨e1,?_⟩
  simp only[cond_true]
  split<;>split<;>refine⟨by omega,by omega,by omega,by omega,fun h=>by omega⟩
theorem tL(a b:Iv):prI (cW a b).1:=by
 cases h:(cW a b).2
 ·unfold cW hZ at h ⊢
  revert h
  cases((_:Iv×Bool).2&&(scF a.2 b.2).2)
  ·intro _;exact fQ
  ·intro h;cases h
 ·unfold cW at h ⊢
  obtain⟨h3,a3,b3,c3,d3,e3⟩:=lK h
  obtain⟨h2,a2,b2,c2,d2,e2⟩:=lK h3
  obtain⟨h1,a1,b1,c1,d1,e1⟩:=lK h2
  obtain⟨h0,a0,b0,c0,d0,e0⟩:=lK h1
  have k:=e3 (e2 (e1 (e0 (by decide))))
  exact⟨k.1,by omega,k.2⟩
theorem adA{a b:Iv}(h:(cW a b).2=true):∀x y,(x=a.1∨x=a.2)→(y=b.1∨y=b.2)→(cW a b).1.1*65536≤x*y∧x*y≤(cW a b).1.2*65536:=by
 unfold cW at h ⊢
 obtain⟨h3,a3,b3,c3,d3,e3⟩:=lK h
 obtain⟨h2,a2,b2,c2,d2,e2⟩:=lK h3
 obtain⟨h1,a1,b1,c1,d1,e1⟩:=lK h2
 obtain⟨h0,a0,b0,c0,d0,e0⟩:=lK h1
 intro x y hx hy
 rcases hx with rfl|rfl<;>rcases hy with rfl|rfl<;>constructor<;>omega
def d8(n:Int):Int:=ce (n*65536)
def sqF(a:Iv):Iv×Bool:=bif decide (a.2<0)then(iv0,false)else mN (d8 (if 0>a.1 then 0 else a.1)) (bif decide (d8 a.2*d8 a.2=a.2*65536)then d8 a.2 else d8 a.2+1)
def sgF(a:Iv):Int×Bool:=bif decide (a.1>0)then(1,true)else bif decide (a.2<0)then(-1,true)else(0,decide (a.1=0)&&decide (a.2=0))
namespace RE
def inI(i:Iv)(x:RE):Prop:=of (i.1:Rat)≤of 65536*x∧of 65536*x≤of (i.2:Rat)
theorem Qg(a b u x y:RE):((a+b-(u*(x+y))))+((u*x-(a)))+((u*y-(b)))=0:=by
 induction a using auM
 induction b using auM
 induction u using auM
 induction x using auM
 induction y using auM
 exact snd fun n=>by
  simp only[RL.add,RL.mul,RL.neg,RL.const]
  grind
theorem abC(a b u x y:RE)(h1:a≤u*x)(h2:b≤u*y):a+b≤u*(x+y):=fun hg=>far (aT (aT (aX hg) (aQ h1)) (aQ h2)) (Qg a b u x y)
theorem OE(a b u x y:RE):((u*(x+y)-(a+b)))+((a-(u*x)))+((b-(u*y)))=0:=by
 induction a using auM
 induction b using auM
 induction u using auM
 induction x using auM
 induction y using auM
 exact snd fun n=>by
  simp only[RL.add,RL.mul,RL.neg,RL.const]
  grind
theorem adF(a b u x y:RE)(h1:u*x≤a)(h2:u*y≤b):u*(x+y)≤a+b:=fun hg=>far (aT (aT (aX hg) (aQ h1)) (aQ h2)) (OE a b u x y)
theorem NQ(a u x:RE):((-a-(u*(-x))))+((a-(u*x)))=0:=by
 induction a using auM
 induction u using auM
 induction x using auM
 exact snd fun n=>by
  simp only[RL.add,RL.mul,RL.neg,RL.const]
  grind
theorem ad9(a u x:RE)(h1:u*x≤a): -a≤u*(-x):=fun hg=>far (aT (aX hg) (aQ h1)) (NQ a u x)
theorem Pw(a u x:RE):((u*(-x)-(-a)))+((u*x-(a)))=0:=by
 induction a using auM
 induction u using auM
 induction x using auM
 exact snd fun n=>by
  simp only[RL.add,RL.mul,RL.neg,RL.const]
  grind
theorem aaS(a u x:RE)(h1:a≤u*x):u*(-x)≤ -a:=fun hg=>far (aT (aX hg) (aQ h1)) (Pw a u x)
theorem aeh(a c U V m:RE):((m-(U*V)))+((a*c-(m)))+((V-(0))*(U-(a)))+((a-(0))*(V-(c)))=0:=by
 induction a using auM
 induction c using auM
 induction U using auM
 induction V using auM
 induction m using auM
 exact snd fun n=>by
  simp only[RL.add,RL.mul,RL.neg,RL.const]
  grind
theorem am5(a c U V m:RE)(h1:0≤V)(h2:0≤a)(h3:a≤U)(h4:c≤V)(h5:m≤a*c):m≤U*V:=fun hg=>far (aT (aT (aT (aX hg) (aQ h5)) (cZ (aQ h1) (aQ h3))) (cZ (aQ h2) (aQ h4))) (aeh a c U V m)
theorem acf(a d U V m:RE):((m-(U*V)))+((a*d-(m)))+((V-(0))*(U-(a)))+((0-(a))*(d-(V)))=0:=by
 induction a using auM
 induction d using auM
 induction U using auM
 induction V using auM
 induction m using auM
 exact snd fun n=>by
  simp only[RL.add,RL.mul,RL.neg,RL.const]
  grind
theorem asP(a d U V m:RE)(h1:0≤V)(h2:a≤0)(h3:a≤U)(h4:V≤d)(h5:m≤a*d):m≤U*V:=fun hg=>far (aT (aT (aT (aX hg) (aQ h5)) (cZ (aQ h1) (aQ h3))) (cZ (aQ h2) (aQ h4))) (acf a d U V m)
theorem adO(b c U V m:RE):((m-(U*V)))+((b*c-(m)))+((0-(V))*(b-(U)))+((b-(0))*(V-(c)))=0:=by
 induction b using auM
 induction c using auM
 induction U using auM
 induction V using auM
 induction m using auM
 exact snd fun n=>by
  simp only[RL.add,RL.mul,RL.neg,RL.const]
  grind
theorem am6(b c U V m:RE)(h1:V≤0)(h2:0≤b)(h3:U≤b)(h4:c≤V)(h5:m≤b*c):m≤U*V:=fun hg=>far (aT (aT (aT (aX hg) (aQ h5)) (cZ (aQ h1) (aQ h3))) (cZ (aQ h2) (aQ h4))) (adO b c U V m)
theorem ab8(b d U V m:RE):((m-(U*V)))+((b*d-(m)))+((0-(V))*(b-(U)))+((0-(b))*(d-(V)))=0:=by
 induction b using auM
 induction d using auM
 induction U using auM
 induction V using auM
 induction m using auM
 exact snd fun n=>by
  simp only[RL.add,RL.mul,RL.neg,RL.const]
  grind
theorem anN(b d U V m:RE)(h1:V≤0)(h2:b≤0)(h3:U≤b)(h4:V≤d)(h5:m≤b*d):m≤U*V:=fun hg=>far (aT (aT (aT (aX hg) (aQ h5)) (cZ (aQ h1) (aQ h3))) (cZ (aQ h2) (aQ h4))) (ab8 b d U V m)
theorem adb(b d U V m:RE):((U*V-(m)))+((m-(b*d)))+((V-(0))*(b-(U)))+((b-(0))*(d-(V)))=0:=by
 induction b using auM
 induction d using auM
 induction U using auM
 induction V using auM
 induction m using auM
 exact snd fun n=>by
  simp only[RL.add,RL.mul,RL.neg,RL.const]
  grind
theorem arO(b d U V m:RE)(h1:0≤V)(h2:0≤b)(h3:U≤b)(h4:V≤d)(h5:b*d≤m):U*V≤m:=fun hg=>far (aT (aT (aT (aX hg) (aQ h5)) (cZ (aQ h1) (aQ h3))) (cZ (aQ h2) (aQ h4))) (adb b d U V m)
theorem abO(b c U V m:RE):((U*V-(m)))+((m-(b*c)))+((V-(0))*(b-(U)))+((0-(b))*(V-(c)))=0:=by
 induction b using auM
 induction c using auM
 induction U using auM
 induction V using auM
 induction m using auM
 exact snd fun n=>by
  simp only[RL.add,RL.mul,RL.neg,RL.const]
  grind
theorem aqG(b c U V m:RE)(h1:0≤V)(h2:b≤0)(h3:U≤b)(h4:c≤V)(h5:b*c≤m):U*V≤m:=fun hg=>far (aT (aT (aT (aX hg) (aQ h5)) (cZ (aQ h1) (aQ h3))) (cZ (aQ h2) (aQ h4))) (abO b c U V m)
theorem abB(a d U V m:RE):((U*V-(m)))+((m-(a*d)))+((0-(V))*(U-(a)))+((a-(0))*(d-(V)))=0:=by
 induction a using auM
 induction d using auM
 induction U using auM
 induction V using auM
 induction m using auM
 exact snd fun n=>by
  simp only[RL.add,RL.mul,RL.neg,RL.const]
  grind
theorem art(a d U V m:RE)(h1:V≤0)(h2:0≤a)(h3:a≤U)(h4:V≤d)(h5:a*d≤m):U*V≤m:=fun hg=>far (aT (aT (aT (aX hg) (aQ h5)) (cZ (aQ h1) (aQ h3))) (cZ (aQ h2) (aQ h4))) (abB a d U V m)
theorem adE(a c U V m:RE):((U*V-(m)))+((m-(a*c)))+((0-(V))*(U-(a)))+((0-(a))*(V-(c)))=0:=by
 induction a using auM
 induction c using auM
 induction U using auM
 induction V using auM
 induction m using auM
 exact snd fun n=>by
  simp only[RL.add,RL.mul,RL.neg,RL.const]
  grind
theorem an9(a c U V m:RE)(h1:V≤0)(h2:a≤0)(h3:a≤U)(h4:c≤V)(h5:a*c≤m):U*V≤m:=fun hg=>far (aT (aT (aT (aX hg) (aQ h5)) (cZ (aQ h1) (aQ h3))) (cZ (aQ h2) (aQ h4))) (adE a c U V m)
theorem amX(u x y:RE):u*x*(u*y)=u*(x*y)*u:=by
 induction u using auM
 induction x using auM
 induction y using auM
 exact snd fun n=>by
  simp only[RL.mul]
  grind
theorem aed(a b u:RE):((u-(0))*(a-(b)))+((b*u-(a*u)))=0:=by
 induction a using auM
 induction b using auM
 induction u using auM
 exact snd fun n=>by
  simp only[RL.add,RL.mul,RL.neg,RL.const]
  grind
theorem agN(a b u:RE)(h1:0<u)(h2:a*u≤b*u):a≤b:=fun hg=>far (aT (mul_pos (aX h1) (aX hg)) (aQ h2)) (aed a b u)
theorem ow:0<of 65536:=jz (by decide+kernel)
end RE
end Go.Proofs.YtgddhgcjmddjfaaGreat
end
