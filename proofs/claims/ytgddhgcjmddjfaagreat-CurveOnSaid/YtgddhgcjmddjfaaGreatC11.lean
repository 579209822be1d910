/- The reference's fractions. -/
import Derived.Test.YtgddhgcjmddjfaaGreatC10
import Derived.Test.YtgddhgcjmddjfaaGreatC9
noncomputable section
namespace Go.Proofs.YtgddhgcjmddjfaaGreat
open Go.RowKit Go.IntKind
theorem atW:type_of% @Bool.decide_and:=@Bool.decide_and
theorem atZ:type_of% @Bool.and_true:=@Bool.and_true
theorem at4:type_of% @decide_false:=@decide_false
theorem at8:type_of% @decide_true:=@decide_true
theorem auc:type_of% @Bool.and_eq_true_iff:=@Bool.and_eq_true_iff
theorem av0:type_of% @beq_eq_false_iff_ne:=@beq_eq_false_iff_ne
theorem awo:type_of% @beq_self_eq_true:=@beq_self_eq_true
def Nc:aN:=spN true false [y2Y] (fun x=>decide (okI x.1)) (fun x=>[RV.d axf (cH (ag x.1) 0)])
theorem Ni:SpK 134 Nc:=spX fun x h=>Hq x.1 (atS h)
def D9:aN:=spN true false [y2Y,y2Y] (fun x=>decide (okI x.1∧okI x.2.1)) (fun x=>[RV.d axf (cH (ag x.1) (ag x.2.1))])
theorem AR:SpK 165 D9:=spX fun x h=>Vi x.1 x.2.1 (atS h)
def LB:aN:=spN false false [y2Y,y2Y] (fun x=>decide (okI x.1∧okI x.2.1)) (fun x=>[RV.d y2Y (aj (ag x.1*ag x.2.1))])
theorem NP:SpK 158 LB:=spX fun x h=>HM x.1 x.2.1 (atS h)
def D0:aN:=spN false false [y2Y,y2Y] (fun x=>decide (fv x.1 x.2.1)) (fun x=>[RV.d y2Y (aj (ag x.1/ag x.2.1)),RV.d y2Y (aj (ag x.1%ag x.2.1)),RV.d axf 0])
theorem AT:SpK 162 D0:=spX fun x h=>Ur x.1 x.2.1 (atS h)
def M2:aN:=spN false false [y2Y,y2Y] (fun x=>decide (okI x.1∧okI x.2.1)) (fun x=>[RV.d y2Y (aj ((Int.gcd (ag x.1) (ag x.2.1):Nat):Int))])
theorem PB:SpK 161 M2:=spX fun x h=>HI x.1 x.2.1 (atS h)
def Jy:Env:=[(81,wN),(159,sY),(160,Cx),(134,Nc),(165,D9),(158,LB),(162,D0),(161,M2)]
theorem Ce:EnvAll Tryz.prog Jy:=⟨uy,qh,B0,Ni,AR,NP,AT,PB,trivial⟩
def ah8:Ctx:=CX Jy []
def UQ(_k:KT):Option (List RV):=match decide (bO (1:Int))with|true=>some [RV.d y2Y (aj (1:Int))]|false=>none
theorem ahW:RS ah8 82 [] (UQ):=rsX
theorem Gt:Con Tryz.prog 82 [] [.d y2Y (aj 1)]:=by
 refine aP Ce (ahW ⟨0,?_⟩)
 unfold UQ
 rw[dT (show bO 1 by decide)]
def Lk:aN:=spN false false [] (fun _=>true) (fun _=>[RV.d y2Y (aj 1)])
theorem NC:SpK 82 Lk:=spX fun _ _=>Gt
def Ib:Env:=(82,Lk)::Jy
theorem Ck:EnvAll Tryz.prog Ib:=⟨NC,Ce⟩
def apn:Ctx:=CX Ib []
def ahA(x y:Bool×List Int)(_k:KT):Option (List RV):=match decide (okI y)with|true=>(match decide ((cH (ag y) 0)<0)with|true=>(match decide (okI x)with|true=>(match decide (okI y)with|true=>(match decide (okI (aj (-ag x))∧okI (aj (-ag y)))with|true=>(match decide (fv (aj (-ag x)) (aj ((Int.gcd (ag (aj (-ag x))) (ag (aj (-ag y))):Nat):Int)))with|true=>(match decide (fv (aj (-ag y)) (aj ((Int.gcd (ag (aj (-ag x))) (ag (aj (-ag y))):Nat):Int)))with|true=>some [RV.d (.st (.pair y2Y y2Y)) ((aj (ag (aj (-ag x))/ag (aj ((Int.gcd (ag (aj (-ag x))) (ag (aj (-ag y))):Nat):Int)))),(aj (ag (aj (-ag y))/ag (aj ((Int.gcd (ag (aj (-ag x))) (ag (aj (-ag y))):Nat):Int)))))]|false=>none)|false=>none)|false=>none)|false=>none)|false=>none)|false=>(match decide (okI x∧okI y)with|true=>(match decide (fv x (aj ((Int.gcd (ag x) (ag y):Nat):Int)))with|true=>(match decide (fv y (aj ((Int.gcd (ag x) (ag y):Nat):Int)))with|true=>some [RV.d (.st (.pair y2Y y2Y)) ((aj (ag x/ag (aj ((Int.gcd (ag x) (ag y):Nat):Int)))),(aj (ag y/ag (aj ((Int.gcd (ag x) (ag y):Nat):Int)))))]|false=>none)|false=>none)|false=>none))|false=>none
theorem aom(x y:Bool×List Int):RS apn 88 [.d y2Y x,.d y2Y y] (ahA x y):=rsX
theorem KA(x y:Bool×List Int)(h:io x y):Con Tryz.prog 88 [.d y2Y x,.d y2Y y] [.d (.st (.pair y2Y y2Y)) (eZ x y)]:=by
 refine aP Ck (aom _ _ ⟨0,?_⟩)
 obtain⟨hx,hy,hne⟩:=h
 have sx:=iI hx
 have sy:=iI hy
 have hgp:0<Int.gcd (ag x) (ag y):=Nat.pos_of_ne_zero fun e=>hne (Int.gcd_eq_zero_iff.1 e).2
 have hgs:=WX (a:=ag x) hne sy
 have og:okI (aj ((Int.gcd (ag x) (ag y):Nat):Int)):=bK hgs
 have o1:okI (aj (-ag x)):=bK (by rw[iY];exact sx)
 have o2:okI (aj (-ag y)):=bK (by rw[iY];exact sy)
 have ig:∀z:BI,okI z→fv z (aj ((Int.gcd (ag x) (ag y):Nat):Int)):=fun z hz=>⟨hz,og,by rw[dec_enc];omega⟩
 unfold ahA eZ
 rw[dT hy]
 dsimp only
 rcases avS hne with hn|hn
 ·rw[df hn,dT (show(-1:Int)<0 by decide),dT hx]
  simp only[dec_enc,Int.gcd_neg,Int.neg_gcd]
  rw[dT (show okI (aj (-ag x))∧okI (aj (-ag y)) from⟨o1,o2⟩),dT (ig _ o1),dT (ig _ o2),←Rat.neg_divInt_neg,m7 (by omega),Int.gcd_neg,Int.neg_gcd]
 ·rw[cZ hn,dF (show ¬(1:Int)<0 by decide)]
  simp only[dec_enc]
  rw[dT (show okI x∧okI y from⟨hx,hy⟩),dT (ig _ hx),dT (ig _ hy),m7 hn]
def Y9:aN:=spN false false [y2Y,y2Y] (fun x=>decide (io x.1 x.2.1)) (fun x=>[RV.d (.st (.pair y2Y y2Y)) (eZ x.1 x.2.1)])
theorem TO:SpK 88 Y9:=spX fun x h=>KA x.1 x.2.1 (atS h)
def mY:Env:=(88,Y9)::Ib
theorem gO:EnvAll Tryz.prog mY:=⟨TO,Ck⟩
def ah6:Ctx:=CX mY []
def Ub(a:(Bool×List Int)×Bool×List Int)(_k:KT):Option (List RV):=match decide (okI a.1)with|true=>some [RV.d axf (cH (ag a.1) 0)]|false=>none
theorem ajA(a:(Bool×List Int)×Bool×List Int):RS ah6 69 [.d (.st (.pair y2Y y2Y)) a] (Ub a):=rsX
def ala:Ctx:=CX mY []
def Sz(n:Int)(_k:KT):Option (List RV):=match decide (bO n)with|true=>some [RV.d (.st (.pair y2Y y2Y)) ((aj n),(aj 1))]|false=>none
theorem aiK(n:Int):RS ala 35 [SI n] (Sz n):=rsX
def akz:Ctx:=CX mY []
def P2(a b:(Bool×List Int)×Bool×List Int)(_k:KT):Option (List RV):=match decide (okI a.1∧okI b.2)with|true=>(match decide (okI b.1∧okI a.2)with|true=>(match decide (okI (aj (ag a.1*ag b.2))∧okI (aj (ag b.1*ag a.2)))with|true=>some [RV.d axf (cH (ag (aj (ag a.1*ag b.2))) (ag (aj (ag b.1*ag a.2))))]|false=>none)|false=>none)|false=>none
theorem ajC(a b:(Bool×List Int)×Bool×List Int):RS akz 92 [.d (.st (.pair y2Y y2Y)) a,.d (.st (.pair y2Y y2Y)) b] (P2 a b):=rsX
def ajU:Ctx:=CX mY []
def Xo(a b:(Bool×List Int)×Bool×List Int)(_k:KT):Option (List RV):=match decide (okI a.1∧okI b.2)with|true=>(match decide (okI b.1∧okI a.2)with|true=>(match decide (okI (aj (ag a.1*ag b.2))∧okI (aj (ag b.1*ag a.2)))with|true=>(match decide (okI a.2∧okI b.2)with|true=>(match decide (io (aj (ag (aj (ag a.1*ag b.2))+ag (aj (ag b.1*ag a.2)))) (aj (ag a.2*ag b.2)))with|true=>some [RV.d (.st (.pair y2Y y2Y)) (((eZ (aj (ag (aj (ag a.1*ag b.2))+ag (aj (ag b.1*ag a.2)))) (aj (ag a.2*ag b.2))).1),((eZ (aj (ag (aj (ag a.1*ag b.2))+ag (aj (ag b.1*ag a.2)))) (aj (ag a.2*ag b.2))).2))]|false=>none)|false=>none)|false=>none)|false=>none)|false=>none
theorem akV(a b:(Bool×List Int)×Bool×List Int):RS ajU 85 [.d (.st (.pair y2Y y2Y)) a,.d (.st (.pair y2Y y2Y)) b] (Xo a b):=rsX
def akj:Ctx:=CX mY []
def Wy(a b:(Bool×List Int)×Bool×List Int)(_k:KT):Option (List RV):=match decide (okI a.1∧okI b.1)with|true=>(match decide (okI a.2∧okI b.2)with|true=>(match decide (io (aj (ag a.1*ag b.1)) (aj (ag a.2*ag b.2)))with|true=>some [RV.d (.st (.pair y2Y y2Y)) (((eZ (aj (ag a.1*ag b.1)) (aj (ag a.2*ag b.2))).1),((eZ (aj (ag a.1*ag b.1)) (aj (ag a.2*ag b.2))).2))]|false=>none)|false=>none)|false=>none
theorem aiq(a b:(Bool×List Int)×Bool×List Int):RS akj 86 [.d (.st (.pair y2Y y2Y)) a,.d (.st (.pair y2Y y2Y)) b] (Wy a b):=rsX
def ahU:Ctx:=CX mY []
def Yj(a:(Bool×List Int)×Bool×List Int)(_k:KT):Option (List RV):=match decide (okI a.1)with|true=>some [RV.d (.st (.pair y2Y y2Y)) ((aj (-ag a.1)),a.2)]|false=>none
theorem ai6(a:(Bool×List Int)×Bool×List Int):RS ahU 169 [.d (.st (.pair y2Y y2Y)) a] (Yj a):=rsX
def ak4:Ctx:=CX mY []
def SJ(x y:Bool×List Int)(_k:KT):Option (List RV):=match decide (okI y)with|true=>(match(cH (ag y) 0)==0 with|true=>some [RV.d (.st (.pair y2Y y2Y)) ((false,[]),(false,[])),RV.d axf 6]|false=>(match decide (io x y)with|true=>some [RV.d (.st (.pair y2Y y2Y)) (((eZ x y).1),((eZ x y).2)),RV.d axf 0]|false=>none))|false=>none
theorem ajt(x y:Bool×List Int):RS ak4 219 [.d y2Y x,.d y2Y y] (SJ x y):=rsX
theorem Y3(x y:Bool×List Int)(h:io x y):Con Tryz.prog 219 [.d y2Y x,.d y2Y y] [.d (.st (.pair y2Y y2Y)) (eZ x y),.d axf 0]:=by
 refine aP gO (ajt _ _ ⟨0,?_⟩)
 obtain⟨hx,hy,hne⟩:=h
 have hnz:(cH (ag y) 0==0)=false:=by
  rcases avS hne with h|h
  ·rw[df h];rfl
  ·rw[cZ h];rfl
 unfold SJ
 rw[dT hy,hnz,dT (show io x y from⟨hx,hy,hne⟩)]
def Ml:aN:=spN false false [y2Y,y2Y] (fun x=>decide (io x.1 x.2.1)) (fun x=>[RV.d (.st (.pair y2Y y2Y)) (eZ x.1 x.2.1),RV.d axf 0])
theorem Ng:SpK 219 Ml:=spX fun x h=>Y3 x.1 x.2.1 (atS h)
def C5:Env:=(219,Ml)::mY
theorem zm:EnvAll Tryz.prog C5:=⟨Ng,gO⟩
def ajR:Ctx:=CX C5 []
def V6(a b:(Bool×List Int)×Bool×List Int)(_k:KT):Option (List RV):=match decide (okI a.1∧okI b.2)with|true=>(match decide (okI a.2∧okI b.1)with|true=>(match decide (io (aj (ag a.1*ag b.2)) (aj (ag a.2*ag b.1)))with|true=>some [RV.d (.st (.pair y2Y y2Y)) (((eZ (aj (ag a.1*ag b.2)) (aj (ag a.2*ag b.1))).1),((eZ (aj (ag a.1*ag b.2)) (aj (ag a.2*ag b.1))).2)),RV.d axf 0]|false=>none)|false=>none)|false=>none
theorem ahV(a b:(Bool×List Int)×Bool×List Int):RS ajR 167 [.d (.st (.pair y2Y y2Y)) a,.d (.st (.pair y2Y y2Y)) b] (V6 a b):=rsX
theorem VK(a:(Bool×List Int)×Bool×List Int)(h:okR a):Con Tryz.prog 69 [.d (.st (.pair y2Y y2Y)) a] [.d axf (aS (ae a) 0)]:=by
 refine aP gO (ajA _ ⟨0,?_⟩)
 unfold Ub
 rw[dT h.1,←uW,(c8 h).1]
theorem TG(n:Int)(h:bO n):Con Tryz.prog 35 [.d axf n] [.d (.st (.pair y2Y y2Y)) (ai (n:Rat))]:=by
 refine aP gO (aiK _ ⟨0,?_⟩)
 unfold Sz ai
 rw[dT h,Rat.num_intCast,Rat.den_intCast]
 rfl
theorem WD(a b:(Bool×List Int)×Bool×List Int)(h:okR a∧okR b):Con Tryz.prog 92 [.d (.st (.pair y2Y y2Y)) a,.d (.st (.pair y2Y y2Y)) b] [.d axf (aS (ae a) (ae b))]:=by
 refine aP gO (ajC _ _ ⟨0,?_⟩)
 obtain⟨ha,hb⟩:=h
 obtain⟨a1,a2⟩:=c8 ha
 obtain⟨b1,b2⟩:=c8 hb
 obtain⟨sa1,sa2⟩:=gb ha
 obtain⟨sb1,sb2⟩:=gb hb
 have h1:=c9 sa1 sb2
 have h2:=c9 sb1 sa2
 unfold P2
 rw[dT (show okI a.1∧okI b.2 from⟨ha.1,hb.2.1⟩),dT (show okI b.1∧okI a.2 from⟨hb.1,ha.2.1⟩),dT (show okI (aj (ag a.1*ag b.2))∧okI (aj (ag b.1*ag a.2)) from⟨bK (by omega),bK (by omega)⟩),dec_enc,dec_enc,←a1,←a2,←b1,←b2,xL]
theorem Gj(a:(Bool×List Int)×Bool×List Int)(h:okR a):Con Tryz.prog 169 [.d (.st (.pair y2Y y2Y)) a] [.d (.st (.pair y2Y y2Y)) (ai (-ae a))]:=by
 refine aP gO (ai6 _ ⟨0,?_⟩)
 obtain⟨a1,a2⟩:=c8 h
 unfold Yj
 have e:ai (-ae a)=(aj (-ag a.1),a.2):=by
  unfold ai
  rw[Rat.neg_num,a1,show((-ae a).den:Int)=((ae a).den:Int) from rfl,a2,←ij h.2.1]
 rw[dT h.1,e]
theorem E0(a b:(Bool×List Int)×Bool×List Int)(h:okR a∧okR b):Con Tryz.prog 85 [.d (.st (.pair y2Y y2Y)) a,.d (.st (.pair y2Y y2Y)) b] [.d (.st (.pair y2Y y2Y)) (ai (ae a+ae b))]:=by
 refine aP gO (akV _ _ ⟨0,?_⟩)
 obtain⟨ha,hb⟩:=h
 obtain⟨a1,a2⟩:=c8 ha
 obtain⟨b1,b2⟩:=c8 hb
 obtain⟨sa1,sa2⟩:=gb ha
 obtain⟨sb1,sb2⟩:=gb hb
 have pa:=ha.2.2.1
 have pb:=hb.2.2.1
 have h1:=c9 sa1 sb2
 have h2:=c9 sb1 sa2
 have h3:=c9 sa2 sb2
 have h4:=wH h1 h2
 have hda:ae a=Rat.divInt (ag a.1) (ag a.2):=by rw[←a1,←a2,au9]
 have hdb:ae b=Rat.divInt (ag b.1) (ag b.2):=by rw[←b1,←b2,au9]
 unfold Xo
 rw[dT (show okI a.1∧okI b.2 from⟨ha.1,hb.2.1⟩),dT (show okI b.1∧okI a.2 from⟨hb.1,ha.2.1⟩),dT (show okI (aj (ag a.1*ag b.2))∧okI (aj (ag b.1*ag a.2)) from⟨bK (by omega),bK (by omega)⟩),dT (show okI a.2∧okI b.2 from⟨ha.2.1,hb.2.1⟩)]
 simp only[dec_enc]
 rw[dT (show io (aj (ag a.1*ag b.2+ag b.1*ag a.2)) (aj (ag a.2*ag b.2)) from⟨bK (by omega),bK (by omega),by rw[dec_enc];exact awz (by omega) (by omega)⟩)]
 have e:eZ (aj (ag a.1*ag b.2+ag b.1*ag a.2)) (aj (ag a.2*ag b.2))=ai (ae a+ae b):=by
  unfold eZ
  rw[dec_enc,dec_enc,hda,hdb,Rat.divInt_add_divInt _ _ (by omega) (by omega)]
 rw[e]
theorem T2(a b:(Bool×List Int)×Bool×List Int)(h:okR a∧okR b):Con Tryz.prog 86 [.d (.st (.pair y2Y y2Y)) a,.d (.st (.pair y2Y y2Y)) b] [.d (.st (.pair y2Y y2Y)) (ai (ae a*ae b))]:=by
 refine aP gO (aiq _ _ ⟨0,?_⟩)
 obtain⟨ha,hb⟩:=h
 obtain⟨a1,a2⟩:=c8 ha
 obtain⟨b1,b2⟩:=c8 hb
 obtain⟨sa1,sa2⟩:=gb ha
 obtain⟨sb1,sb2⟩:=gb hb
 have pa:=ha.2.2.1
 have pb:=hb.2.2.1
 have h1:=c9 sa1 sb1
 have h3:=c9 sa2 sb2
 have hda:ae a=Rat.divInt (ag a.1) (ag a.2):=by rw[←a1,←a2,au9]
 have hdb:ae b=Rat.divInt (ag b.1) (ag b.2):=by rw[←b1,←b2,au9]
 unfold Wy
 rw[dT (show okI a.1∧okI b.1 from⟨ha.1,hb.1⟩),dT (show okI a.2∧okI b.2 from⟨ha.2.1,hb.2.1⟩),dT (show io (aj (ag a.1*ag b.1)) (aj (ag a.2*ag b.2)) from⟨bK (by omega),bK (by omega),by rw[dec_enc];exact awz (by omega) (by omega)⟩)]
 have e:eZ (aj (ag a.1*ag b.1)) (aj (ag a.2*ag b.2))=ai (ae a*ae b):=by
  unfold eZ
  rw[dec_enc,dec_enc,hda,hdb,awA]
 rw[e]
theorem GK(a b:(Bool×List Int)×Bool×List Int)(h:fS a b):Con Tryz.prog 167 [.d (.st (.pair y2Y y2Y)) a,.d (.st (.pair y2Y y2Y)) b] [.d (.st (.pair y2Y y2Y)) (ai (ae a/ae b)),.d axf 0]:=by
 refine aP zm (ahV _ _ ⟨0,?_⟩)
 obtain⟨ha,hb,hne⟩:=h
 obtain⟨a1,a2⟩:=c8 ha
 obtain⟨b1,b2⟩:=c8 hb
 obtain⟨sa1,sa2⟩:=gb ha
 obtain⟨sb1,sb2⟩:=gb hb
 have pa:=ha.2.2.1
 have h1:=c9 sa1 sb2
 have h3:=c9 sa2 sb1
 have hda:ae a=Rat.divInt (ag a.1) (ag a.2):=by rw[←a1,←a2,au9]
 have hdb:ae b=Rat.divInt (ag b.1) (ag b.2):=by rw[←b1,←b2,au9]
 have hmz:ag a.2*ag b.1≠0:=awz (by omega) hne
 unfold V6
 rw[dT (show okI a.1∧okI b.2 from⟨ha.1,hb.2.1⟩),dT (show okI a.2∧okI b.1 from⟨ha.2.1,hb.1⟩)]
 simp only
 rw[dT (show io (aj (ag a.1*ag b.2)) (aj (ag a.2*ag b.1)) from⟨bK (by omega),bK (by omega),by rw[dec_enc];exact hmz⟩)]
 have e:eZ (aj (ag a.1*ag b.2)) (aj (ag a.2*ag b.1))=ai (ae a/ae b):=by
  unfold eZ
  rw[dec_enc,dec_enc,hda,hdb,aw4,Rat.inv_divInt,awA]
 rw[e]
def KU:aN:=spN false false [(.st (.pair y2Y y2Y)),(.st (.pair y2Y y2Y))] (fun x=>decide (okR x.1∧okR x.2.1)) (fun x=>[RV.d (.st (.pair y2Y y2Y)) (ai (ae x.1+ae x.2.1))])
theorem OA:SpK 85 KU:=spX fun x h=>E0 x.1 x.2.1 (atS h)
def LD:aN:=spN false false [(.st (.pair y2Y y2Y))] (fun x=>decide (okR x.1)) (fun x=>[RV.d (.st (.pair y2Y y2Y)) (ai (-ae x.1))])
theorem PT:SpK 169 LD:=spX fun x h=>Gj x.1 (atS h)
def KP:aN:=spN false false [(.st (.pair y2Y y2Y)),(.st (.pair y2Y y2Y))] (fun x=>decide (fS x.1 x.2.1)) (fun x=>[RV.d (.st (.pair y2Y y2Y)) (ai (ae x.1/ae x.2.1)),RV.d axf 0])
theorem Of:SpK 167 KP:=spX fun x h=>GK x.1 x.2.1 (atS h)
def W7:Env:=(85,KU)::(169,LD)::(167,KP)::C5
theorem Oz:EnvAll Tryz.prog W7:=⟨OA,PT,Of,zm⟩
def aiD:Ctx:=CX W7 []
def SF(a b:(Bool×List Int)×Bool×List Int)(_k:KT):Option (List RV):=match decide (okR b)with|true=>(match decide (okR a∧okR (ai (-ae b)))with|true=>some [RV.d (.st (.pair y2Y y2Y)) (((ai (ae a+ae (ai (-ae b)))).1),((ai (ae a+ae (ai (-ae b)))).2))]|false=>none)|false=>none
theorem ait(a b:(Bool×List Int)×Bool×List Int):RS aiD 168 [.d (.st (.pair y2Y y2Y)) a,.d (.st (.pair y2Y y2Y)) b] (SF a b):=rsX
theorem WN(a b:(Bool×List Int)×Bool×List Int)(h:okR a∧okR b):Con Tryz.prog 168 [.d (.st (.pair y2Y y2Y)) a,.d (.st (.pair y2Y y2Y)) b] [.d (.st (.pair y2Y y2Y)) (ai (ae a-ae b))]:=by
 refine aP Oz (ait _ _ ⟨0,?_⟩)
 obtain⟨ha,hb⟩:=h
 unfold SF
 rw[dT hb,az,awt,dT (show okR a∧okR (ai (-ae b)) from⟨ha,qp (wB (Cy hb)) (at5 _)⟩)]
theorem aC{a b:Rat}{j k:Nat}[ha:Bd a j][hb:Bd b k](hj:j≤480000)(hk:k≤480000)(h:b≠0):decide (fS (ai a) (ai b))=true:=
 atT ⟨qp ha.le hj,qp hb.le hk,by show ag (aj b.num)≠0;rw[dec_enc];exact fun e=>h (Rat.num_eq_zero.1 e)⟩
theorem aM(a b:Rat):decide (aS a b>0)=decide (b<a):=by
 rcases(by grind:a<b∨a=b∨b<a)with h|h|h
 ·rw[dK h,atV (show ¬b<a by grind)];rfl
 ·rw[h,dY,atV (show ¬b<b by grind)];rfl
 ·rw[dA h,atT h];rfl
theorem aH(a b:Rat):decide (aS a b<0)=decide (a<b):=by
 rcases(by grind:a<b∨a=b∨b<a)with h|h|h
 ·rw[dK h,atT h];rfl
 ·rw[h,dY,atV (show ¬b<b by grind)];rfl
 ·rw[dA h,atV (show ¬a<b by grind)];rfl
theorem am3(a b:Rat):decide (aS a b≥0)=decide (b≤a):=by
 rcases(by grind:a<b∨a=b∨b<a)with h|h|h
 ·rw[dK h,atV (show ¬b≤a by grind)];rfl
 ·rw[h,dY,atT (show b≤b by grind)];rfl
 ·rw[dA h,atT (show b≤a by grind)];rfl
theorem HB(a b:Rat):decide (aS a b≤0)=decide (a≤b):=by
 rcases(by grind:a<b∨a=b∨b<a)with h|h|h
 ·rw[dK h,atT (show a≤b by grind)];rfl
 ·rw[h,dY,atT (show b≤b by grind)];rfl
 ·rw[dA h,atV (show ¬a≤b by grind)];rfl
theorem aE(a b:Rat):(aS a b==0)=decide (a=b):=by
 rcases(by grind:a<b∨a=b∨b<a)with h|h|h
 ·rw[dK h,atV (show ¬a=b by grind)];rfl
 ·rw[h,dY,atT rfl];rfl
 ·rw[dA h,atV (show ¬a=b by grind)];rfl
theorem qr(a b:Rat): -1≤aS a b∧aS a b≤1:=by
 rcases(by grind:a<b∨a=b∨b<a)with h|h|h
 ·rw[dK h];decide
 ·rw[h,dY];decide
 ·rw[dA h];decide
theorem qb{a b c d:Rat}:i64.wrap (aS a b*aS c d)=aS a b*aS c d:=by
 rcases(by grind:a<b∨a=b∨b<a)with h|h|h<;>rcases(by grind:c<d∨c=d∨d<c)with h'|h'|h'
 all_goals first|rw[dK h]|(subst h;rw[dY])|rw[dA h]
 all_goals first|rw[dK h']|(subst h';rw[dY])|rw[dA h']
 all_goals decide
abbrev Rt:=Rat×Rat×Rat
def fU(a b m:Rat):Int:=RE.addS (aS a 0) (aS b 0*aS m 0) (aS (a*a) (b*b*m))
def Dj(A B C D M N:Rat):Int:=bif decide (M<0)||decide (N<0)then 0
 else RE.addS (fU A B M) (fU C D M*aS N 0) (fU (A*A+B*B*M-N*(C*C+D*D*M)) (2*(A*B-N*(C*D))) M)
def bR(x y:Rt):Int:=Dj (x.1-y.1) x.2.1 (-y.2.1) 0 x.2.2 y.2.2
theorem zq(a b:Rat):aS (a-b) 0=aS a b:=by
 rcases(by grind:a<b∨a=b∨b<a)with h|h|h
 ·rw[dK h,dK (by grind)]
 ·rw[h,dY,show b-b=0 by grind,dY]
 ·rw[dA h,dA (by grind)]
namespace RE
def rq(m:Rat):RE:=zG (of m)
theorem QG(m:Rat):0≤rq m:=pZ _
theorem ro{m:Rat}(h:0≤m):rq m*rq m=of m:=Dh (nW.2 h)
theorem aej{x:RE}(h:0≤x):sg (zG x)=sg x:=by
 have h1:=pZ x
 have h2:=Dh h
 rcases pp h1 with h'|h'
 ·rw[jr h',←h2,jr (mul_pos h' h')]
 ·rw[h',mul_zero]at h2
  rw[h',h2]
theorem afg{m:Rat}(h:0≤m):sg (rq m)=aS m 0:=by
 unfold rq
 rw[aej (nW.2 h),sg_of]
def v2(a b m:Rat):RE:=of a+of b*rq m
def vR(x:Rt):RE:=v2 x.1 x.2.1 x.2.2
theorem sq2(a b s:RE):a*a-b*s*(b*s)=a*a-b*b*(s*s):=by
 induction a using atR
 induction b using atR
 induction s using atR
 exact snd fun n=>by
  simp only[RL.add,RL.mul,RL.neg]
  grind
theorem sq4(A B C D s t:RE):(A+B*s)*(A+B*s)-(C+D*s)*t*((C+D*s)*t)=A*A+B*B*(s*s)-t*t*(C*C+D*D*(s*s))+2*(A*B-t*t*(C*D))*s:=by
 induction A using atR
 induction B using atR
 induction C using atR
 induction D using atR
 induction s using atR
 induction t using atR
 exact snd fun n=>by
  simp only[RL.add,RL.mul,RL.neg,RL.const]
  grind
theorem aqp(A B C D s t:RE):A+B*s+(C+D*s)*t=A+B*s+C*t+D*(s*t):=by
 induction A using atR
 induction B using atR
 induction C using atR
 induction D using atR
 induction s using atR
 induction t using atR
 exact snd fun n=>by
  simp only[RL.add,RL.mul]
  grind
theorem akY(a b c d s t:RE):a-c+b*s+(-d)*t+0*(s*t)=a+b*s-(c+d*t):=by
 induction a using atR
 induction b using atR
 induction c using atR
 induction d using atR
 induction s using atR
 induction t using atR
 exact snd fun n=>by
  simp only[RL.add,RL.mul,RL.neg,RL.const]
  grind
theorem sgn2_re{a b m:Rat}(h:0≤m):fU a b m=sg (v2 a b m):=by
 unfold v2
 rw[Yb,sq2,ro h,uQ,sg_of,sg_of,afg h,←ck,←ck,←ck,←of_sub,sg_of,zq]
 rfl
theorem ahQ:of 2=2:=rfl
def vQ(A B C D M N:Rat):RE:=of A+of B*rq M+of C*rq N+of D*(rq M*rq N)
theorem sgnQ_re{A B C D M N:Rat}(hM:0≤M)(hN:0≤N):Dj A B C D M N=sg (vQ A B C D M N):=by
 unfold Dj vQ
 rw[atV (by grind),atV (by grind),←aqp,Yb,sq4,ro hM,ro hN,uQ,afg hN,sgn2_re hM,sgn2_re hM,sgn2_re hM]
 unfold v2
 simp only[of_sub,of_add,ck,ahQ]
 rfl
theorem cmpT_re{x y:Rt}(hx:0≤x.2.2)(hy:0≤y.2.2):bR x y=sg (vR x-vR y):=by
 unfold bR vR v2
 rw[sgnQ_re hx hy,←akY,←of_sub,←of_neg]
 rfl
end RE
theorem Dk{s t:Int}(hs: -1≤s∧s≤1)(ht: -1≤t∧t≤1): -1≤s*t∧s*t≤1:=by
 have h1:s= -1∨s=0∨s=1:=by omega
 have h2:t= -1∨t=0∨t=1:=by omega
 rcases h1 with rfl|rfl|rfl<;>rcases h2 with rfl|rfl|rfl<;>decide
theorem Ls{s t d:Int}(hs: -1≤s∧s≤1)(ht: -1≤t∧t≤1)(hd: -1≤d∧d≤1): -1≤RE.addS s t d∧RE.addS s t d≤1:=by
 unfold RE.addS
 cases(t==0||s==t)
 ·cases s==0
  ·exact Dk hs hd
  ·exact ht
 ·exact hs
theorem lg(a b m:Rat): -1≤fU a b m∧fU a b m≤1:=Ls (qr _ _) (Dk (qr _ _) (qr _ _)) (qr _ _)
theorem Z3(A B C D M N:Rat): -1≤Dj A B C D M N∧Dj A B C D M N≤1:=by
 unfold Dj
 cases(decide (M<0)||decide (N<0))
 ·exact Ls (lg _ _ _) (Dk (lg _ _ _) (qr _ _)) (lg _ _ _)
 ·exact⟨by show(-1:Int)≤0;decide,by show(0:Int)≤1;decide⟩
theorem w9(x y:Rt): -1≤bR x y∧bR x y≤1:=Z3 _ _ _ _ _ _
theorem l6(a b:Int):(cH a b==0)=decide (a=b):=by
 rcases avZ a b with h|h|h
 ·rw[df h,atV (by omega)];rfl
 ·rw[h,dV,atT rfl];rfl
 ·rw[cZ h,atV (by omega)];rfl
def Vj:Env:=[(81,wN),(165,D9),(159,sY),(154,wE),(162,D0)]
theorem EQ:EnvAll Tryz.prog Vj:=⟨uy,AR,qh,vW,AT,trivial⟩
def aa3:NT:=[((210,23),{keep:=[1,2,4,5],hl:=6})]
def CC:Ctx:=CX Vj aa3
def kM(x:Bool×List Int)(b4_0:Bool)(b4_1:List Int):Cfg:=⟨210,[.blk 0],[(1,.box 0 0),(2,.box 1 0),(4,.box 4 0),(5,.box 5 0)],[.box 33 [SB x.1,.d axe x.2],.box 33 [SB false,.nil],.gone,.row 180 axg ([1]),.box 33 [SB b4_0,.d axe b4_1],.box 33 [SB ((aj (2:Int)).1),.d axe ((aj (2:Int)).2)]],0,[]⟩
def D4(x:Bool×List Int)(k:KT):Option (List RV):=match x.1 with|true=>some [RV.d y2Y (false,[]),RV.d axf 7]|false=>(match(x.2.length:Int)==0 with|true=>some [RV.d y2Y (false,[]),RV.d axf 0]|false=>(match decide ((0:Int)≤i64.wrap (Int.tdiv (i64.wrap ((x.2.length:Int)+1)) 2)∧(i64.wrap (Int.tdiv (i64.wrap ((x.2.length:Int)+1)) 2))*((4:Nat):Int)≤140737488355328∧i64.wrap (Int.tdiv (i64.wrap ((x.2.length:Int)+1)) 2)≤140737488355328)with|true=>(match decide (((List.replicate (i64.wrap (Int.tdiv (i64.wrap ((x.2.length:Int)+1)) 2)).toNat (0:Int)).length+([1]).length)*4≤140737488355328∧(List.replicate (i64.wrap (Int.tdiv (i64.wrap ((x.2.length:Int)+1)) 2)).toNat (0:Int)).length+([1]).length≤140737488355328)with|true=>(match decide (bO (2:Int))with|true=>k 23 (kM x false ((List.replicate (i64.wrap (Int.tdiv (i64.wrap ((x.2.length:Int)+1)) 2)).toNat (0:Int))++([1])))|false=>none)|false=>none)|false=>none))
theorem H9(x:Bool×List Int):RS CC 210 [.d y2Y x] (D4 x):=rsX
def rK(x:Bool×List Int)(b4_0:Bool)(b4_1:List Int)(k:KT):Option (List RV):=match decide (fv x (b4_0,b4_1))with|true=>dl (match decide (okI (b4_0,b4_1)∧okI (aj (ag x/ag (b4_0,b4_1))))with|true=>dl (match decide (fv (aj (ag (b4_0,b4_1)+ag (aj (ag x/ag (b4_0,b4_1))))) (aj (2:Int)))with|true=>dup (.b .l .l) (match decide (okI (aj (ag (aj (ag (b4_0,b4_1)+ag (aj (ag x/ag (b4_0,b4_1)))))/ag (aj (2:Int))))∧okI (b4_0,b4_1))with|true=>(match decide ((cH (ag (aj (ag (aj (ag (b4_0,b4_1)+ag (aj (ag x/ag (b4_0,b4_1)))))/ag (aj (2:Int))))) (ag (b4_0,b4_1)))≥0)with|true=>some [RV.d y2Y (b4_0,b4_1),RV.d axf 0]|false=>k 23 (kM x ((aj (ag (aj (ag (b4_0,b4_1)+ag (aj (ag x/ag (b4_0,b4_1)))))/ag (aj (2:Int)))).1) ((aj (ag (aj (ag (b4_0,b4_1)+ag (aj (ag x/ag (b4_0,b4_1)))))/ag (aj (2:Int)))).2)))|false=>none)|false=>none) (dup (.b (.b .l .l) (.b .l .l)) (match decide (fv (aj (ag (b4_0,b4_1)+ag (aj (ag x/ag (b4_0,b4_1))))) (aj (2:Int)))with|true=>(match decide (okI (aj (ag (aj (ag (b4_0,b4_1)+ag (aj (ag x/ag (b4_0,b4_1)))))/ag (aj (2:Int))))∧okI (b4_0,b4_1))with|true=>(match decide ((cH (ag (aj (ag (aj (ag (b4_0,b4_1)+ag (aj (ag x/ag (b4_0,b4_1)))))/ag (aj (2:Int))))) (ag (b4_0,b4_1)))≥0)with|true=>some [RV.d y2Y (b4_0,b4_1),RV.d axf 0]|false=>k 23 (kM x ((aj (ag (aj (ag (b4_0,b4_1)+ag (aj (ag x/ag (b4_0,b4_1)))))/ag (aj (2:Int)))).1) ((aj (ag (aj (ag (b4_0,b4_1)+ag (aj (ag x/ag (b4_0,b4_1)))))/ag (aj (2:Int)))).2)))|false=>none)|false=>none))|false=>none) (dup (.b .l .l) (dl (match decide (okI (b4_0,b4_1)∧okI (aj (ag x/ag (b4_0,b4_1))))with|true=>dup (.b .l .l) (match decide (fv (aj (ag (b4_0,b4_1)+ag (aj (ag x/ag (b4_0,b4_1))))) (aj (2:Int)))with|true=>(match decide (okI (aj (ag (aj (ag (b4_0,b4_1)+ag (aj (ag x/ag (b4_0,b4_1)))))/ag (aj (2:Int))))∧okI (b4_0,b4_1))with|true=>(match decide ((cH (ag (aj (ag (aj (ag (b4_0,b4_1)+ag (aj (ag x/ag (b4_0,b4_1)))))/ag (aj (2:Int))))) (ag (b4_0,b4_1)))≥0)with|true=>some [RV.d y2Y (b4_0,b4_1),RV.d axf 0]|false=>k 23 (kM x ((aj (ag (aj (ag (b4_0,b4_1)+ag (aj (ag x/ag (b4_0,b4_1)))))/ag (aj (2:Int)))).1) ((aj (ag (aj (ag (b4_0,b4_1)+ag (aj (ag x/ag (b4_0,b4_1)))))/ag (aj (2:Int)))).2)))|false=>none)|false=>none)|false=>none) (match decide (okI (b4_0,b4_1)∧okI (aj (ag x/ag (b4_0,b4_1))))with|true=>(match decide (fv (aj (ag (b4_0,b4_1)+ag (aj (ag x/ag (b4_0,b4_1))))) (aj (2:Int)))with|true=>(match decide (okI (aj (ag (aj (ag (b4_0,b4_1)+ag (aj (ag x/ag (b4_0,b4_1)))))/ag (aj (2:Int))))∧okI (b4_0,b4_1))with|true=>(match decide ((cH (ag (aj (ag (aj (ag (b4_0,b4_1)+ag (aj (ag x/ag (b4_0,b4_1)))))/ag (aj (2:Int))))) (ag (b4_0,b4_1)))≥0)with|true=>some [RV.d y2Y (b4_0,b4_1),RV.d axf 0]|false=>k 23 (kM x ((aj (ag (aj (ag (b4_0,b4_1)+ag (aj (ag x/ag (b4_0,b4_1)))))/ag (aj (2:Int)))).1) ((aj (ag (aj (ag (b4_0,b4_1)+ag (aj (ag x/ag (b4_0,b4_1)))))/ag (aj (2:Int)))).2)))|false=>none)|false=>none)|false=>none)))|false=>none
theorem yA(x:Bool×List Int)(b4_0:Bool)(b4_1:List Int):RN CC 23 (kM x b4_0 b4_1) (rK x b4_0 b4_1):=rnX
theorem NS(x:BI)(hx:okI x)(h0:0<ag x):∀(m:Nat) (X:Int),X.toNat=m→0<X→b9 (ag x)≤X→szI X≤900000→CC.Runs 23 (kM x (aj X).1 (aj X).2) [.d y2Y (aj (b9 (ag x))),.d axf 0]:=by
 intro m
 induction m using Nat.strongRecOn with
 |ind m ih=>
  intro X hm hX hs hsz
  obtain⟨g0,g1,g2⟩:=fT (auH h0)
  have hq0:0≤ag x/X:=au8 (by omega) (by omega)
  have hq1:ag x/X≤ag x:=avW _ (by omega)
  have oX:okI (aj X):=bK (by omega)
  have sq:szI (ag x/X)≤1000000:=auh (dE (by omega)) (iI hx)
  have p1:fv x (aj X):=⟨hx,oX,by rw[dec_enc];exact hX⟩
  have ssum:szI (X+ag x/X)≤1000000:=by
   have b1:=nJ hsz
   have b2:=nJ (iI hx)
   have e:pw 1000000=pw 900000*pw 100000:=by rw[←fB]
   have p9:(1000:Int)≤pw 100000:=by
    have:pw 100000=pw 99999*1000000000:=cB 99999
    have:=ct 99999
    omega
   have p8:=ct 900000
   have h8:pw 900000*1000≤pw 900000*pw 100000:=aua p9 (by omega)
   rcases auA X 2 with hX1|hX1
   ·-- X=1:then the number is less than 4
    have:X=1:=by omega
    subst this
    have:b9 (ag x)≤1:=hs
    have h4:ag x<4:=by
     have:=tL (a:=b9 (ag x)+1) (b:=2) (by omega) (by omega)
     omega
    refine fu ?_ ?_<;>(rw[e,Int.ediv_one];omega)
   ·have hq2:ag x/X≤ag x/2:=by
     have:=Int.ediv_mul_le (ag x) (show X≠0 by omega)
     have h2:ag x/X*2≤ag x/X*X:=aua hX1 hq0
     omega
    refine fu ?_ ?_<;>(rw[e]at b2 ⊢;omega)
  have o1:okI (aj X)∧okI (aj (ag x/X)):=⟨oX,bK sq⟩
  have p2:fv (aj (X+ag x/X)) (aj 2):=⟨bK ssum,by decide,by rw[dec_enc];decide⟩
  have hn:=TJ hX g0 g1
  have o2:okI (aj ((X+ag x/X)/2))∧okI (aj X):=⟨bK (auh (dE (by omega)) ssum),oX⟩
  by_cases hc:X≤(X+ag x/X)/2
  ·have hXs:=ya hX hs g1 g2 g0 hc
   refine yA _ _ _ ⟨0,?_⟩
   unfold rK
   simp only[au,aO]
   have e:∀z:Int,((aj z).1,(aj z).2)=aj z:=fun z=>rfl
   simp only[e,dec_enc,atT p1,atT o1,atT p2,atT o2]
   have hg:decide (cH ((X+ag x/X)/2) X≥0)=true:=by
    rcases Int.lt_or_eq_of_le hc with h|h
    ·rw[cZ h];rfl
    ·rw[←h,dV];rfl
   rw[hg,hXs]
  ·obtain⟨n,hN⟩:=ih ((X+ag x/X)/2).toNat (by omega) ((X+ag x/X)/2) rfl (by
    rcases auA 0 (b9 (ag x))with h|h
    ·omega
    ·exfalso
     have:b9 (ag x)=0:=by omega
     rw[this]at g2
     omega) hn (auh (dE (by omega)) hsz)
   refine yA _ _ _ ⟨n,?_⟩
   unfold rK
   simp only[au,aO]
   have e:∀z:Int,((aj z).1,(aj z).2)=aj z:=fun z=>rfl
   simp only[e,dec_enc,atT p1,atT o1,atT p2,atT o2]
   rw[df (by omega)]
   exact hN
theorem UM(x:Bool×List Int)(h:okI x):Con Tryz.prog 210 [.d y2Y x] [.d y2Y (fC x),.d axf (tg x)]:=by
 refine aP EQ (show CC.Res _ _ _ from ?_)
 obtain⟨x0,x1,x2⟩:=cN h
 have hl:=h.2.2
 cases hn:x.1
 ·by_cases hz:x.2=[]
  ·refine H9 _ ⟨0,?_⟩
   unfold D4 fC tg
   have:ag x=0:=by unfold ag;rw[hn,hz];rfl
   rw[hn,hz,this]
   rfl
  ·have hp:0<val x.2:=eM h.1 hz
   have hd:ag x=val x.2:=by unfold ag;rw[hn];rfl
   have hlen:=auM.2 hz
   have hk:i64.wrap (Int.tdiv (i64.wrap ((x.2.length:Int)+1)) 2)=(((x.2.length+1)/2:Nat):Int):=by
    rw[co (by omega),gi (by omega),bz (by omega) (by omega)]
    omega
   have hv:val (List.replicate ((x.2.length+1)/2) 0++[1])=pw ((x.2.length+1)/2):=by
    rw[dH,gG,awu]
    simp[val]
   have hL:bj (List.replicate ((x.2.length+1)/2) 0++[1]):=by
    refine⟨fun y hy=>?_,by simp;omega⟩
    rcases auo.1 hy with hy|hy
    ·have:=List.eq_of_mem_replicate hy;omega
    ·simp at hy;omega
   have hpos:=ct ((x.2.length+1)/2)
   obtain⟨n,hN⟩:=NS x h (by omega) _ (pw ((x.2.length+1)/2)) rfl hpos (by
     obtain⟨g0,g1,g2⟩:=fT (show 0≤ag x by omega)
     have hlt:=cr h.1.1
     have hm:=du (show x.2.length≤(x.2.length+1)/2+(x.2.length+1)/2 by omega)
     rw[fB]at hm
     have:=sq_lt (a:=b9 (ag x)) (b:=pw ((x.2.length+1)/2)) (by omega) (by omega)
     omega) (fu (k:=900000) (by have:=ct 900000;omega) (by
      have:=du (show(x.2.length+1)/2+1≤900000 by omega)
      rw[cB]at this
      omega))
   refine H9 _ ⟨n,?_⟩
   unfold D4 fC tg
   simp only[hk]
   rw[hn,show((x.2.length:Int)==0)=false by simp;omega]
   simp only[avM]
   rw[atT (show(0:Int)≤(((x.2.length+1)/2:Nat):Int)∧(((x.2.length+1)/2:Nat):Int)*((4:Nat):Int)≤140737488355328∧(((x.2.length+1)/2:Nat):Int)≤140737488355328 by omega)]
   rw[atT (show((List.replicate ((x.2.length+1)/2) (0:Int)).length+([1]:List Nat).length)*4≤140737488355328∧(List.replicate ((x.2.length+1)/2) (0:Int)).length+([1]:List Nat).length≤140737488355328 by simp;omega)]
   rw[atT (show bO 2 by decide)]
   have he:aj (pw ((x.2.length+1)/2))=(false,List.replicate ((x.2.length+1)/2) 0++[1]):=by
    have ho:okI ((false,List.replicate ((x.2.length+1)/2) 0++[1]):BI):=⟨⟨hL.1,by simp⟩,(fun e=>by cases e),(by simp;omega)⟩
    rw[ij ho]
    congr 1
    exact hv.symm
   rw[he]at hN
   exact hN
 ·refine H9 _ ⟨0,?_⟩
  unfold D4 fC tg
  rw[hn]
  rfl
def ae9:Env:=(213,qC)::Vj
theorem Ss:EnvAll Tryz.prog ae9:=⟨lY,EQ⟩
def al0:Ctx:=CX ae9 []
def Uf(x y:Bool×List Int)(_k:KT):Option (List RV):=match x.1==y.1 with|true=>(match decide (qZ x.2 y.2)with|true=>some [RV.d .bool ((cH (val x.2) (val y.2))==0)]|false=>none)|false=>some [RV.d .bool false]
theorem alL(x y:Bool×List Int):RS al0 191 [.d y2Y x,.d y2Y y] (Uf x y):=rsX
theorem Um(x y:Bool×List Int)(h:okI x∧okI y):Con Tryz.prog 191 [.d y2Y x,.d y2Y y] [.d .bool (decide (ag x=ag y))]:=by
 refine aP Ss (alL _ _ ⟨0,?_⟩)
 obtain⟨hx,hy⟩:=h
 obtain⟨x0,x1,x2⟩:=cN hx
 obtain⟨y0,y1,y2⟩:=cN hy
 unfold Uf
 rw[dT (show qZ x.2 y.2 from⟨⟨hx.1,by have:=hx.2.2;omega⟩,⟨hy.1,by have:=hy.2.2;omega⟩⟩)]
 rw[ce,ce]
 unfold cC
 cases ex:x.1<;>cases ey:y.1<;>simp only[cond_true,cond_false]
 ·show some [RV.d .bool (cH (val x.2) (val y.2)==0)]=_
  rw[l6]
 ·have:=y1 ey
  rw[atV (show ¬val x.2= -val y.2 by omega)]
  rfl
 ·have:=x1 ex
  rw[atV (show ¬ -val x.2=val y.2 by omega)]
  rfl
 ·show some [RV.d .bool (cH (val x.2) (val y.2)==0)]=_
  rw[l6,show decide (val x.2=val y.2)=decide (-val x.2= -val y.2) from avX.2 (by omega)]
def fy(q:Rat):Bool:=decide (b9 q.num*b9 q.num=q.num)&&decide (b9 (q.den:Int)*b9 (q.den:Int)=(q.den:Int))
def rtQ(q:Rat):Rat:=mkRat (b9 q.num) (b9 (q.den:Int)).toNat
theorem D7(z:Int):0≤b9 z:=by unfold b9;omega
theorem Ed{s:Int}(h:0≤s):b9 (s*s)=s:=Z7 h (Int.le_refl _) (by grind)
theorem oC{z:Int}(h:z<0):b9 z=0:=by
 unfold b9
 rw[show z.toNat=0 by omega]
 rfl
theorem aoA{s t:Nat}(ht:0<t)(hg:(s*s).Coprime (t*t)):(mkRat (s:Int) t).num=(s:Int)∧(mkRat (s:Int) t).den=t:=by
 have hc:s.Coprime t:=Nat.Coprime.coprime_dvd_left (Nat.dvd_mul_left s s) (Nat.Coprime.coprime_dvd_right (Nat.dvd_mul_left t t) hg)
 rw[awX,awY,aum (by omega),aum (by omega),avn,show t.gcd s=1 from hc.symm]
 simp
theorem IF{q:Rat}(h:fy q=true):(rtQ q).num=b9 q.num∧((rtQ q).den:Int)=b9 (q.den:Int)∧rtQ q*rtQ q=q∧0≤rtQ q:=by
 unfold fy at h
 simp only[at3,decide_eq_true_eq]at h
 obtain⟨h1,h2⟩:=h
 have hd:=q.den_pos
 have hr:=q.reduced
 obtain⟨s,hs⟩:=avf (D7 q.num)
 obtain⟨t,ht⟩:=avf (D7 (q.den:Int))
 unfold rtQ
 rw[hs,ht,avM]
 rw[hs]at h1
 rw[ht]at h2
 have e1:q.num.natAbs=s*s:=by rw[←h1,←avq,avn]
 have e2:q.den=t*t:=by rw[←avq]at h2;omega
 have hg:(s*s).Coprime (t*t):=by rw[←e1,←e2];exact hr
 have tp:0<t:=Nat.pos_of_ne_zero fun e=>by rw[e2,e]at hd;simp at hd
 obtain⟨g1,g2⟩:=aoA tp hg
 refine⟨g1,by rw[g2],?_,?_⟩
 ·rw[Rat.mkRat_mul_mkRat,←e2,h1,Rat.mkRat_self]
 ·exact Rat.num_nonneg.1 (by rw[g1];omega)
theorem adT(r:Rat):fy (r*r)=true:=by
 have hd:=r.den_pos
 have hc:(r.den*r.den).gcd (r.num*r.num).natAbs=1:=by
  rw[awK]
  have:=r.reduced.symm
  exact Nat.Coprime.mul_left (Nat.Coprime.mul_right this this) (Nat.Coprime.mul_right this this)
 have e1:(r*r).num=r.num*r.num:=by
  rw[Rat.mul_def',awX,hc,aum (awy (by omega) (by omega))]
  simp
 have e2:((r*r).den:Int)=(r.den:Int)*(r.den:Int):=by
  rw[Rat.mul_def',awY,hc,aum (awy (by omega) (by omega)),Nat.div_one,avq]
 unfold fy
 rw[e1,e2,Ed (s:=(r.den:Int)) (by omega)]
 rcases auA r.num 0 with h|h
 ·rw[show r.num*r.num= -r.num* -r.num by grind,Ed (by omega)]
  simp
 ·rw[Ed h]
  simp
def rtB(q:Rat):BR:=bif fy q then ai (rtQ q)else((false,[]),(false,[]))
theorem ED{x:BI}(h:okI x):fC x=aj (b9 (ag x)):=by
 obtain⟨x0,x1,x2⟩:=cN h
 unfold fC
 cases hx:x.1
 ·rfl
 ·have:=x1 hx
  have hd:ag x= -val x.2:=by rw[ce,hx];rfl
  rw[hd,oC (by omega)]
  rfl
theorem Mb{z:Int}(h:szI z≤1000000):szI (b9 z)≤500000:=by
 have h1:=nJ h
 have e:pw 1000000=pw 500000*pw 500000:=by rw[←fB]
 have hp:=ct 500000
 rcases auA z 0 with h0|h0
 ·rw[oC h0];exact fu (by omega) hp
 ·obtain⟨g0,g1,g2⟩:=fT h0
  have:=sq_lt (a:=b9 z) (b:=pw 500000) (by omega) (by omega)
  exact fu (by omega) this
theorem UA(a b:Int):(aj a==aj b)=decide (a=b):=by
 by_cases h:a=b
 ·rw[h,atT rfl];simp
 ·rw[atV h,av0]
  intro e
  exact h (by rw[←dec_enc a,e,dec_enc])
theorem Mf{x y:BI}(hx:okI x)(hy:okI y):(x==y)=decide (ag x=ag y):=by
 rw[ij hx,ij hy,UA,dec_enc,dec_enc]
def I5:aN:=spN true true [tI,tI] (fun x=>decide (okI x.1∧okI x.2.1)) (fun x=>[RV.d axf (cH (ag x.1) (ag x.2.1))])
theorem Hd:SpK 148 I5:=spX fun x h=>MT x.1 x.2.1 (atS h)
def Iw:aN:=spN false true [tI,tI] (fun x=>decide (okI x.1∧okI x.2.1)) (fun x=>[RV.d tI (hid (aj (ag x.1*ag x.2.1)))])
theorem GA:SpK 149 Iw:=spX fun x h=>by simp only[ak];exact K5 x.1 x.2.1 (atS h)
def Im:aN:=spN false true [tI] (fun x=>decide (okI x.1)) (fun x=>[RV.d tI (hid (fC x.1)),RV.d axf (tg x.1)])
theorem Hh:SpK 282 Im:=spX fun x h=>by simp only[ak];exact aeb x.1 (atS h)
def WI:Env:=[(148,I5),(149,Iw),(282,Im)]
theorem FS:EnvAll Tryz.prog WI:=⟨Hd,GA,Hh,trivial⟩
def asd:Ctx:=CX WI []
def afC(x:BI)(_k:KT):Option (List RV):=match decide (okI x)with|true=>(match(tg x)==0 with|true=>(match decide (okI (hid (fC x))∧okI (hid (fC x)))with|true=>(match decide (okI (hid (aj (ag (hid (fC x))*ag (hid (fC x)))))∧okI x)with|true=>some [RV.d tI (hid (fC x)),RV.d .bool ((cH (ag (hid (aj (ag (hid (fC x))*ag (hid (fC x)))))) (ag x))==0)]|false=>none)|false=>none)|false=>some [RV.d tI (hid (fC x)),RV.d .bool false])|false=>none
theorem ase(x:BI):RS asd 273 [.d tI x] (afC x):=rsX
theorem ady(x:BI)(h:okI x):Con Tryz.prog 273 [.d tI x] [.d tI (aj (b9 (ag x))),.d .bool (decide (b9 (ag x)*b9 (ag x)=ag x))]:=by
 refine aP FS (ase _ ⟨0,?_⟩)
 have hs:=iI h
 have hz:szI (b9 (ag x))≤500000:=Mb hs
 have o1:okI (aj (b9 (ag x))):=bK (by omega)
 have o2:okI (aj (b9 (ag x)*b9 (ag x))):=bK (by have:=c9 hz hz;omega)
 have o3:okI (aj (b9 (ag x)*b9 (ag x)))∧okI x:=⟨o2,h⟩
 have o4:okI (aj (b9 (ag x)))∧okI (aj (b9 (ag x))):=⟨o1,o1⟩
 have hng:x.1=true→decide (b9 (ag x)*b9 (ag x)=ag x)=false:=fun e=>atV (by
  have:=(cN h).2.1 e
  have hd:ag x= -val x.2:=by rw[ce,e];rfl
  rw[oC (by omega)]
  omega)
 unfold afC
 simp only[ak,ED h,dec_enc,dT h,dT o4,dT o3,l6]
 unfold tg
 cases e:x.1
 ·rfl
 ·rw[hng e];rfl
def Yt:aN:=spN false true [tI] (fun x=>decide (okI x.1)) (fun x=>[RV.d tI (hid (aj (b9 (ag x.1)))),RV.d .bool (decide (b9 (ag x.1)*b9 (ag x.1)=ag x.1))])
theorem P0:SpK 273 Yt:=spX fun x h=>by simp only[ak];exact ady x.1 (atS h)
def ag8:Env:=(273,Yt)::WI
theorem UO:EnvAll Tryz.prog ag8:=⟨P0,FS⟩
def am2:Ctx:=CX ag8 []
def afq(a:BR)(_k:KT):Option (List RV):=match decide (okI a.1)with|true=>(match decide (b9 (ag a.1)*b9 (ag a.1)=ag a.1)with|true=>(match decide (okI a.2)with|true=>(match decide (b9 (ag a.2)*b9 (ag a.2)=ag a.2)with|true=>some [RV.d tR (hid (aj (b9 (ag a.1))),hid (aj (b9 (ag a.2)))),RV.d .bool true]|false=>some [RV.d tR ((false,[]),(false,[])),RV.d .bool false])|false=>none)|false=>some [RV.d tR ((false,[]),(false,[])),RV.d .bool false])|false=>none
theorem aq2(a:BR):RS am2 249 [.d tR a] (afq a):=rsX
theorem adD(a:BR)(h:okR a):Con Tryz.prog 249 [.d tR a] [.d tR (rtB (ae a)),.d .bool (fy (ae a))]:=by
 refine aP UO (aq2 _ ⟨0,?_⟩)
 obtain⟨a1,a2⟩:=c8 h
 unfold afq rtB fy
 rw[dT h.1,dT h.2.1,a1,a2]
 simp only[ak]
 cases e1:decide (b9 (ag a.1)*b9 (ag a.1)=ag a.1)
 ·rfl
 ·cases e2:decide (b9 (ag a.2)*b9 (ag a.2)=ag a.2)
  ·rfl
  ·obtain⟨r1,r2,_⟩:=IF (q:=ae a) (by unfold fy;rw[a1,a2,e1,e2];rfl)
   simp only[atY,cond_true]
   unfold ai
   rw[r1,r2,a1,a2]
   try rfl
def MG:aN:=spN false true [tI,tI] (fun x=>decide (okI x.1∧okI x.2.1)) (fun x=>[RV.d tI (hid (aj (ag x.1*ag x.2.1)))])
theorem OQ:SpK 158 MG:=spX fun x h=>by simp only[ak];exact HM x.1 x.2.1 (atS h)
def Ly:aN:=spN false true [tI] (fun x=>decide (okI x.1)) (fun x=>[RV.d tI (hid (fC x.1)),RV.d axf (tg x.1)])
theorem PR:SpK 210 Ly:=spX fun x h=>by simp only[ak];exact UM x.1 (atS h)
def DS:aN:=spN true true [tI,tI] (fun x=>decide (okI x.1∧okI x.2.1)) (fun x=>[RV.d .bool (decide (ag x.1=ag x.2.1))])
theorem Bm:SpK 191 DS:=spX fun x h=>Um x.1 x.2.1 (atS h)
def JM:Env:=[(158,MG),(210,Ly),(191,DS)]
theorem BS:EnvAll Tryz.prog JM:=⟨OQ,PR,Bm,trivial⟩
def aki:Ctx:=CX JM []
def WO(x:BI)(_k:KT):Option (List RV):=match decide (okI x)with|true=>(match(tg x)==0 with|true=>(match decide (okI (hid (fC x))∧okI (hid (fC x)))with|true=>(match decide (okI (hid (aj (ag (hid (fC x))*ag (hid (fC x)))))∧okI x)with|true=>some [RV.d tI (hid (fC x)),RV.d .bool (decide (ag (hid (aj (ag (hid (fC x))*ag (hid (fC x)))))=ag x))]|false=>none)|false=>none)|false=>some [RV.d tI (hid (fC x)),RV.d .bool false])|false=>none
theorem amc(x:BI):RS aki 156 [.d tI x] (WO x):=rsX
theorem SW(x:BI)(h:okI x):Con Tryz.prog 156 [.d tI x] [.d tI (aj (b9 (ag x))),.d .bool (decide (b9 (ag x)*b9 (ag x)=ag x))]:=by
 refine aP BS (amc _ ⟨0,?_⟩)
 have hs:=iI h
 have hz:szI (b9 (ag x))≤500000:=Mb hs
 have o1:okI (aj (b9 (ag x))):=bK (by omega)
 have o2:okI (aj (b9 (ag x)*b9 (ag x))):=bK (by have:=c9 hz hz;omega)
 have o3:okI (aj (b9 (ag x)*b9 (ag x)))∧okI x:=⟨o2,h⟩
 have o4:okI (aj (b9 (ag x)))∧okI (aj (b9 (ag x))):=⟨o1,o1⟩
 have hng:x.1=true→decide (b9 (ag x)*b9 (ag x)=ag x)=false:=fun e=>atV (by
  have:=(cN h).2.1 e
  have hd:ag x= -val x.2:=by rw[ce,e];rfl
  rw[oC (by omega)]
  omega)
 unfold WO
 simp only[ak,ED h,dec_enc,dT h,dT o4,dT o3]
 unfold tg
 cases e:x.1
 ·rfl
 ·rw[hng e];rfl
def MA:aN:=spN false true [tI] (fun x=>decide (okI x.1)) (fun x=>[RV.d tI (hid (aj (b9 (ag x.1)))),RV.d .bool (decide (b9 (ag x.1)*b9 (ag x.1)=ag x.1))])
theorem NM:SpK 156 MA:=spX fun x h=>by simp only[ak];exact SW x.1 (atS h)
def Qc:Env:=(156,MA)::JM
theorem OY:EnvAll Tryz.prog Qc:=⟨NM,BS⟩
def amo:Ctx:=CX Qc []
def TD(a:BR)(_k:KT):Option (List RV):=match decide (okI a.1)with|true=>(match decide (okI a.2)with|true=>(match !(decide (b9 (ag a.1)*b9 (ag a.1)=ag a.1))with|true=>some [RV.d tR ((false,[]),(false,[])),RV.d .bool false]|false=>(match !(decide (b9 (ag a.2)*b9 (ag a.2)=ag a.2))with|true=>some [RV.d tR ((false,[]),(false,[])),RV.d .bool false]|false=>some [RV.d tR (hid (aj (b9 (ag a.1))),hid (aj (b9 (ag a.2)))),RV.d .bool true]))|false=>none)|false=>none
theorem ake(a:BR):RS amo 83 [.d tR a] (TD a):=rsX
theorem Tp(a:BR)(h:okR a):Con Tryz.prog 83 [.d tR a] [.d tR (rtB (ae a)),.d .bool (fy (ae a))]:=by
 refine aP OY (ake _ ⟨0,?_⟩)
 obtain⟨a1,a2⟩:=c8 h
 unfold TD rtB fy
 rw[dT h.1,dT h.2.1,a1,a2]
 simp only[ak]
 cases e1:decide (b9 (ag a.1)*b9 (ag a.1)=ag a.1)
 ·rfl
 ·cases e2:decide (b9 (ag a.2)*b9 (ag a.2)=ag a.2)
  ·rfl
  ·obtain⟨r1,r2,_⟩:=IF (q:=ae a) (by unfold fy;rw[a1,a2,e1,e2];rfl)
   simp only[atY,cond_true]
   unfold ai
   rw[r1,r2,a1,a2]
   try rfl
def X2:aN:=spN false true [tI,tI] (fun x=>decide (fv x.1 x.2.1)) (fun x=>[RV.d tI (hid (aj (ag x.1/ag x.2.1))),RV.d tI (hid (aj (ag x.1%ag x.2.1))),RV.d axf 0])
theorem ZI:SpK 248 X2:=spX fun x h=>by simp only[ak];exact Kf x.1 x.2.1 (atS h)
def ahd:Env:=[(248,X2)]
theorem To:EnvAll Tryz.prog ahd:=⟨ZI,trivial⟩
def aon:Ctx:=CX ahd []
def agZ(a:BR)(_k:KT):Option (List RV):=match decide (fv a.1 a.2)with|true=>some [RV.d tI (hid (aj (ag a.1/ag a.2)))]|false=>none
theorem apB(a:BR):RS aon 255 [.d tR a] (agZ a):=rsX
theorem abO(a:BR)(h:okR a):Con Tryz.prog 255 [.d tR a] [.d tI (aj (ae a).floor)]:=by
 refine aP To (apB _ ⟨0,?_⟩)
 obtain⟨a1,a2⟩:=c8 h
 unfold agZ
 rw[dT (show fv a.1 a.2 from⟨h.1,h.2.1,h.2.2.1⟩),Rat.floor_def,a1,a2]
 simp only[ak]
def afV:Env:=[(209,qR)]
theorem Zg:EnvAll Tryz.prog afV:=⟨l9,trivial⟩
def aav:NT:=[((190,6),{keep:=[1,3],hl:=1})]
def DM:Ctx:=CX afV aav
def wT(x:BI)(s3:Int):Cfg:=⟨190,[.blk 0,.seq 23],[(1,.box 0 0),(3,SI s3)],[.box 33 [SB x.1,.d axe x.2]],0,[]⟩
def ajb(x:BI)(k:KT):Option (List RV):=k 6 (wT x 0)
theorem alV(x:BI):RS DM 190 [.d tI x] (ajb x):=rsX
def vT(x:BI)(s3:Int)(k:KT):Option (List RV):=match decide (s3<(x.2.length:Int))with|true=>(match bi x.2 s3 with|some x1=>(match decide (x1≥1000000000)with|true=>some [RV.d .bool false]|false=>k 6 (wT x (i64.wrap (s3+1))))|none=>none)|false=>(match decide (bj x.2)with|true=>(match((ah (val x.2).toNat).length:Int)==(x.2.length:Int)with|true=>(match !x.1 with|true=>some [RV.d .bool true]|false=>some [RV.d .bool (decide ((x.2.length:Int)>0))])|false=>some [RV.d .bool false])|false=>none)
theorem Cn(x:BI)(s3:Int):RN DM 6 (wT x s3) (vT x s3):=rnX
theorem PV(x:BI)(h:okI x):∀(j i:Nat),i+j=x.2.length→DM.Runs 6 (wT x (i:Int)) [.d .bool true]:=by
 obtain⟨x0,x1,x2⟩:=cN h
 have hlim:=fQ h
 have hl:=h.2.2
 intro j
 induction j with
 |zero=>
  intro i hi
  refine Cn _ _ ⟨0,?_⟩
  unfold vT
  have hc:ah (val x.2).toNat=x.2:=(oG h.1).symm
  rw[cz (by omega),dT hlim,hc,awo]
  dsimp only
  cases e:x.1
  ·rfl
  ·have:=x1 e
   have:x.2≠[]:=fun e=>by rw[x2]at e;omega
   have:=auM.2 this
   rw[atT (by omega)]
   rfl
 |succ j ih=>
  intro i hi
  have hil:i<x.2.length:=by omega
  obtain⟨q,hq⟩:=ih (i+1) (by omega)
  refine Cn _ _ ⟨q,?_⟩
  unfold vT
  have hb:=(hlim.1 x.2[i] (auB hil)).2
  rw[bS hil,aA,atU hil,co (by omega)]
  dsimp only
  rw[atV (by omega)]
  exact hq
theorem RZ(x:BI)(h:okI x):Con Tryz.prog 190 [.d tI x] [.d .bool true]:=by
 refine aP Zg (show DM.Res _ _ _ from ?_)
 obtain⟨q,hq⟩:=PV x h x.2.length 0 (by omega)
 exact alV _ ⟨q,hq⟩
def Kg:aN:=spN true true [tI] (fun x=>decide (okI x.1)) (fun _=>[RV.d .bool true])
theorem OC:SpK 190 Kg:=spX fun x h=>RZ x.1 (atS h)
def Kx:aN:=spN true true [tI] (fun x=>decide (okI x.1)) (fun x=>[RV.d axf (cH (ag x.1) 0)])
theorem NX:SpK 134 Kx:=spX fun x h=>Hq x.1 (atS h)
def Ka:aN:=spN false true [tI,tI] (fun x=>decide (okI x.1∧okI x.2.1)) (fun x=>[RV.d tI (hid (aj ((Int.gcd (ag x.1) (ag x.2.1):Nat):Int)))])
theorem PW:SpK 161 Ka:=spX fun x h=>by simp only[ak];exact HI x.1 x.2.1 (atS h)
def Lb:aN:=spN false true [] (fun _=>true) (fun _=>[RV.d tI (hid (aj 1))])
theorem PY:SpK 82 Lb:=spX fun _ _=>by simp only[ak];exact Gt
def aeD:Env:=[(191,DS),(190,Kg),(134,Kx),(161,Ka),(82,Lb)]
theorem Q5:EnvAll Tryz.prog aeD:=⟨Bm,OC,NX,PW,PY,trivial⟩
def aip:Ctx:=CX aeD []
def RH(a:BR)(_k:KT):Option (List RV):=match decide (okI a.1)with|true=>(match decide (okI a.2)with|true=>(match decide (okI a.2)with|true=>(match(cH (ag a.2) 0) !=1 with|true=>some [RV.d .bool false]|false=>(match decide (okI a.1∧okI a.2)with|true=>(match decide (okI (hid (aj ((Int.gcd (ag a.1) (ag a.2):Nat):Int)))∧okI (hid (aj 1)))with|true=>some [RV.d .bool (decide (ag (hid (aj ((Int.gcd (ag a.1) (ag a.2):Nat):Int)))=ag (hid (aj 1))))]|false=>none)|false=>none))|false=>none)|false=>none)|false=>none
theorem ak5(a:BR):RS aip 130 [.d tR a] (RH a):=rsX
theorem Yq(a:BR)(h:okR a):Con Tryz.prog 130 [.d tR a] [.d .bool true]:=by
 refine aP Q5 (ak5 _ ⟨0,?_⟩)
 obtain⟨h1,h2,h3,h4,_⟩:=h
 have o1:okI (aj ((Int.gcd (ag a.1) (ag a.2):Nat):Int)):=by rw[h4];exact qu
 unfold RH
 simp only[ak]
 rw[dT h1,dT h2,dT (show okI a.1∧okI a.2 from⟨h1,h2⟩),cZ h3,dT (show okI (aj ((Int.gcd (ag a.1) (ag a.2):Nat):Int))∧okI (aj 1) from⟨o1,qu⟩),dec_enc,dec_enc,h4]
 rfl
def mkR(a b c:Rat):Rt:=bif fy c then(a+b*rtQ c,0,0)else bif decide (b=0)then(a,0,0)else(a,b,c)
def coR(a b c:Rat):Rt:=bif decide (b=0)then(a,0,0)else(a,b,c)
class Nn (c:Rat):Prop where le:0≤c
def ab1(x:Rt):Prop:=(x.2.1=0∧x.2.2=0)∨(x.2.1≠0∧0<x.2.2∧fy x.2.2=false)
instance (x:Rt):Decidable (ab1 x):=by unfold ab1;infer_instance
class Rdd (x:Rt):Prop where
 rd:ab1 x
def okT(k:Nat)(x:BO3):Prop:=ok Rt k x∧ab1 (dec x)
instance (k:Nat) (x:BO3):Decidable (okT k x):=by unfold okT;infer_instance
theorem ks{k:Nat}{x:BO3}(h:okT k x):∃v:Rt,x=enc v∧Bd v k∧Rdd v:=by
 obtain⟨h1,h2⟩:=h
 obtain⟨v,rfl,bv⟩:=aZ h1
 rw[aq]at h2
 exact⟨v,rfl,bv,⟨h2⟩⟩
theorem bH{x:Rt}{j k:Nat}[h:Bd x j][r:Rdd x](hj:j≤k)(hk:k≤480000):decide (okT k (enc x))=true:=atT ⟨atS (okd hj hk),by rw[aq];exact r.rd⟩
theorem Rdd.nn{x:Rt}(h:Rdd x):0≤x.2.2:=by
 rcases h.rd with h|h<;>grind
instance atx {x:Rt} [h:Rdd x]:Nn x.2.2:=⟨h.nn⟩
theorem xI:fy 0=true:=by decide+kernel
theorem JZ{c:Rat}(h:0≤c)(hc:fy c=false):0<c:=by
 rcases(by grind:c=0∨0<c)with h|h
 ·rw[h,xI]at hc;cases hc
 ·exact h
instance Hg {a b c:Rat} [h:Nn c]:Rdd (mkR a b c):=by
 refine⟨?_⟩
 unfold mkR
 cases hc:fy c
 ·simp only[cond_false]
  by_cases hb:b=0
  ·rw[atT hb];exact .inl ⟨rfl,rfl⟩
  ·rw[atV hb];exact .inr ⟨hb,JZ h.le hc,hc⟩
 ·exact .inl ⟨rfl,rfl⟩
instance asM {a:Rat}:Rdd (a,0,0):=⟨.inl ⟨rfl,rfl⟩⟩
namespace RE
theorem Qs{c:Rat}(h:fy c=true):rq c=of (rtQ c):=by
 obtain⟨_,_,e,h0⟩:=IF h
 refine aeZ _ _ (QG c) (nW.2 h0) ?_
 rw[ro (by rw[←e];exact auP h0 h0),←ck,e]
theorem eF(a c:Rat):v2 a 0 c=of a:=by
 unfold v2
 rw[xe,zero_mul,add_zero]
theorem vR_mk(a b c:Rat):vR (mkR a b c)=v2 a b c:=by
 unfold mkR vR
 cases hc:fy c
 ·simp only[cond_false]
  by_cases hb:b=0
  ·rw[atT hb];subst hb;show v2 a 0 0=_;rw[eF,eF]
  ·rw[atV hb];rfl
 ·show v2 (a+b*rtQ c) 0 0=_
  rw[eF]
  unfold v2
  rw[Qs hc,of_add,ck]
theorem vR_co(a b c:Rat):vR (coR a b c)=v2 a b c:=by
 unfold coR vR
 by_cases hb:b=0
 ·rw[atT hb];subst hb;show v2 a 0 0=_;rw[eF,eF]
 ·rw[atV hb];rfl
end RE
theorem ado{z:Int}(h:0≤z):b9 z≤z:=by
 obtain⟨g0,g1,g2⟩:=fT h
 rcases auA (b9 z) 1 with h'|h'
 ·omega
 ·have:b9 z*1≤b9 z*b9 z:=aua h' g0
  omega
theorem GD(z:Int):szI (b9 z)≤szI z:=by
 have h0:=D7 z
 rcases auA z 0 with h|h
 ·rw[oC h];exact dE (by omega)
 ·have:=ado h
  exact dE (by omega)
instance aty {c:Rat} {k:Nat} [h:Bd c k]:Bd (rtQ c) k:=by
 have hd:=c.den_pos
 have h1:0<b9 (c.den:Int):=by
  obtain⟨g0,g1,g2⟩:=fT (show(0:Int)≤(c.den:Int) by omega)
  rcases auA 0 (b9 (c.den:Int))with h|h
  ·exact h
  ·rw[show b9 (c.den:Int)=0 by omega]at g2;omega
 refine⟨vg (by omega) (auh (GD _) h.le.1) ?_⟩
 rw[Int.toNat_of_nonneg (by omega)]
 exact auh (GD _) h.le.2
instance as7 {a b c:Rat} {i j k:Nat} [ha:Bd a i] [hb:Bd b j] [hc:Bd c k]:Bd (mkR a b c) (i+(j+k)+1):=by
 have z:bdR (i+(j+k)+1) 0:=cK ue.le (by omega)
 refine⟨?_⟩
 unfold mkR
 cases fy c
 ·simp only[cond_false]
  cases decide (b=0)
  ·exact⟨cK ha.le (by omega),cK hb.le (by omega),cK hc.le (by omega)⟩
  ·exact⟨cK ha.le (by omega),z,z⟩
 ·exact⟨(inferInstance:Bd (a+b*rtQ c) (i+(j+k)+1)).le,z,z⟩
instance asD {a b c:Rat} {i j k:Nat} [ha:Bd a i] [hb:Bd b j] [hc:Bd c k]:Bd (coR a b c) (mx i (mx j k)):=by
 have h1:=Jh i (mx j k)
 have h2:=HZ i (mx j k)
 have h3:=Jh j k
 have h4:=HZ j k
 have h5:=sd ha.le
 have z:bdR (mx i (mx j k)) 0:=cK ue.le (by omega)
 refine⟨?_⟩
 unfold coR
 cases decide (b=0)
 ·exact⟨cK ha.le (by omega),cK hb.le (by omega),cK hc.le (by omega)⟩
 ·exact⟨cK ha.le (by omega),z,z⟩
class Ns (c:Rat):Prop where ns:c=0∨(0<c∧fy c=false)
theorem Ns.nn{c:Rat}(h:Ns c):0≤c:=by rcases h.ns with h|h<;>grind
instance atI {c:Rat} [h:Ns c]:Nn c:=⟨h.nn⟩
def sgR(x:Rt):Int:=fU x.1 x.2.1 x.2.2
def noR(x:Rt):Rat:=x.1*x.1-x.2.1*x.2.1*x.2.2
theorem Xs{x:Rt}(h:0≤x.2.2):sgR x=RE.sg (RE.vR x):=RE.sgn2_re h
def lP(a b c:Rat):Rt:=bif decide (b=0)then(a,0,0)else bif decide (c=0)then(a,0,0)else(a,b,c)
instance asF {x:Rt} {k:Nat} [h:Bd x k]:Bd (noR x) (5*k+1):=(inferInstance:Bd (x.1*x.1-x.2.1*x.2.1*x.2.2) (k+k+(k+k+k)+1)).mono (by omega)
theorem YS{c:Rat}(h:fy c=true):rtB c=ai (rtQ c):=by unfold rtB;rw[h];rfl
theorem aji{x:Rt}(h:Rdd x)(hb:x.2.1≠0):noR x≠0:=by
 intro e
 rcases h.rd with h|⟨_,h1,h2⟩
 ·exact hb h.1
 ·unfold noR at e
  have:x.2.2=x.1/x.2.1*(x.1/x.2.1):=by grind
  rw[this,adT]at h2
  cases h2
theorem an0{x:Rt}(h:Rdd x):sgR x=bif aS x.2.1 0==0 then aS x.1 0 else bif aS x.1 0==aS x.2.1 0 then aS x.1 0 else bif aS x.1 0==0 then aS x.2.1 0 else aS x.1 0*aS (noR x) 0:=by
 unfold sgR fU RE.addS
 rcases h.rd with⟨h1,h2⟩|⟨h0,h1,h2⟩
 ·rw[h1,dY]
  simp
 ·have hb:(aS x.2.1 0==0)=false:=by rw[aE,atV h0]
  rw[dA h1,awk,hb]
  unfold noR
  rw[zq]
  rfl
def ke:aN:=spN false true [axf] (fun x=>decide (bO x.1)) (fun x=>[RV.d tR (hid (ai (x.1:Rat)))])
theorem gu:SpK 151 ke:=spX fun x h=>by simp only[ak];exact aet x.1 (atS h)
def oZ:aN:=spN false true [tR,tR] (fun x=>decide (okR x.1∧okR x.2.1)) (fun x=>[RV.d tR (hid (ai (ae x.1+ae x.2.1)))])
theorem kV:SpK 144 oZ:=spX fun x h=>by simp only[ak];exact KL x.1 x.2.1 (atS h)
def lS:aN:=spN false true [tR,tR] (fun x=>decide (okR x.1∧okR x.2.1)) (fun x=>[RV.d tR (hid (ai (ae x.1-ae x.2.1)))])
theorem ic:SpK 74 lS:=spX fun x h=>by simp only[ak];exact abN x.1 x.2.1 (atS h)
def ky:aN:=spN false true [tR,tR] (fun x=>decide (okR x.1∧okR x.2.1)) (fun x=>[RV.d tR (hid (ai (ae x.1*ae x.2.1)))])
theorem gh:SpK 76 ky:=spX fun x h=>by simp only[ak];exact ZT x.1 x.2.1 (atS h)
def kJ:aN:=spN true true [tR] (fun x=>decide (okR x.1)) (fun x=>[RV.d axf (aS (ae x.1) 0)])
theorem gj:SpK 147 kJ:=spX fun x h=>Nb x.1 (atS h)
def Tj:aN:=spN false true [tR] (fun x=>decide (okR x.1)) (fun x=>[RV.d tR (hid (rtB (ae x.1))),RV.d .bool (fy (ae x.1))])
theorem RY:SpK 249 Tj:=spX fun x h=>by simp only[ak];exact adD x.1 (atS h)
def Rw:Env:=[(151,ke),(144,oZ),(74,lS),(76,ky),(147,kJ),(249,Tj)]
theorem GT:EnvAll Tryz.prog Rw:=⟨gu,kV,ic,gh,gj,RY,trivial⟩
def aoB:Ctx:=CX Rw []
def aho(_k:KT):Option (List RV):=match decide (bO (0:Int))with|true=>some [RV.d tR (hid (ai ((0:Int):Rat)))]|false=>none
theorem anb:RS aoB 274 [] (aho):=rsX
theorem ab4:Con Tryz.prog 274 [] [.d tR (ai 0)]:=by
 refine aP GT (anb ⟨0,?_⟩)
 unfold aho
 rw[dT (show bO 0 by decide)]
 simp only[ak]
 rfl
def Wf:aN:=spN false true [] (fun _=>true) (fun _=>[RV.d tR (hid (ai 0))])
theorem Yh:SpK 274 Wf:=spX fun _ _=>by simp only[ak];exact ab4
def LY:Env:=(274,Wf)::Rw
theorem zU:EnvAll Tryz.prog LY:=⟨Yh,GT⟩
def apb:Ctx:=CX LY []
def aeL(a:BR)(_k:KT):Option (List RV):=some [RV.d tO (a,(hid (ai 0),hid (ai 0)))]
theorem aqo(a:BR):RS apb 250 [.d tR a] (aeL a):=rsX
theorem acV(a:BR)(h:okR a):Con Tryz.prog 250 [.d tR a] [.d tO (enc ((ae a,0,0):Rt))]:=by
 refine aP zU (aqo _ ⟨0,?_⟩)
 have ha:=h
 obtain⟨a,rfl,ba⟩:=fe ha
 unfold aeL
 simp only[ak,aT,aF,az]
 try rfl
def ans:Ctx:=CX LY []
def afs(a b c:BR)(_k:KT):Option (List RV):=match decide (okR b)with|true=>(match(aS (ae b) 0)==0 with|true=>some [RV.d tO (a,(b,hid (ai 0)))]|false=>some [RV.d tO (a,(b,c))])|false=>none
theorem apJ(a b c:BR):RS ans 251 [.d tR a,.d tR b,.d tR c] (afs a b c):=rsX
theorem acZ(a b c:BR)(h:okR a∧okR b∧okR c):Con Tryz.prog 251 [.d tR a,.d tR b,.d tR c] [.d tO (enc (coR (ae a) (ae b) (ae c)))]:=by
 refine aP zU (apJ _ _ _ ⟨0,?_⟩)
 obtain⟨ha,hb,hc⟩:=h
 obtain⟨a,rfl,ba⟩:=fe ha
 obtain⟨b,rfl,bb⟩:=fe hb
 obtain⟨c,rfl,bc⟩:=fe hc
 unfold afs
 simp only[ak,az,aX,Nat.reduceLeDiff,aE]
 unfold coR
 by_cases e:b=0
 ·subst e;rw[atT rfl];rfl
 ·rw[atV e];rfl
def Ac:aN:=spN false true [tR] (fun x=>decide (okR x.1)) (fun x=>[RV.d tO (hid (enc ((ae x.1,0,0):Rt)))])
theorem ug:SpK 250 Ac:=spX fun x h=>by simp only[ak];exact acV x.1 (atS h)
def XW:aN:=spN false true [tR,tR,tR] (fun x=>decide (okR x.1∧okR x.2.1∧okR x.2.2.1)) (fun x=>[RV.d tO (hid (enc (coR (ae x.1) (ae x.2.1) (ae x.2.2.1))))])
theorem US:SpK 251 XW:=spX fun x h=>by simp only[ak];exact acZ x.1 x.2.1 x.2.2.1 (atS h)
def aey:Env:=(250,Ac)::(251,XW)::LY
theorem W1:EnvAll Tryz.prog aey:=⟨ug,US,zU⟩
def anF:Ctx:=CX aey []
def aeS(a b c:BR)(_k:KT):Option (List RV):=match decide (okR c)with|true=>(match decide ((aS (ae c) 0)<0)with|true=>some [RV.d tO (((false,[]),(false,[])),(((false,[]),(false,[])),((false,[]),(false,[])))),RV.d axf 7]|false=>(match decide (okR c)with|true=>(match fy (ae c)with|true=>(match decide (okR b∧okR (hid (rtB (ae c))))with|true=>(match decide (okR a∧okR (hid (ai (ae b*ae (hid (rtB (ae c)))))))with|true=>(match decide (okR (hid (ai (ae a+ae (hid (ai (ae b*ae (hid (rtB (ae c))))))))))with|true=>some [RV.d tO (hid (enc ((ae (hid (ai (ae a+ae (hid (ai (ae b*ae (hid (rtB (ae c))))))))),0,0):Rt))),RV.d axf 0]|false=>none)|false=>none)|false=>none)|false=>(match decide (okR a∧okR b∧okR c)with|true=>some [RV.d tO (hid (enc (coR (ae a) (ae b) (ae c)))),RV.d axf 0]|false=>none))|false=>none))|false=>none
theorem aoV(a b c:BR):RS anF 207 [.d tR a,.d tR b,.d tR c] (aeS a b c):=rsX
theorem aen(a b c:BR)(h:ok Rat 100000 a∧ok Rat 100000 b∧ok Rat 100000 c∧0≤ae c):Con Tryz.prog 207 [.d tR a,.d tR b,.d tR c] [.d tO (enc (mkR (ae a) (ae b) (ae c))),.d axf 0]:=by
 refine aP W1 (aoV _ _ _ ⟨0,?_⟩)
 obtain⟨ha,hb,hc,hc_3⟩:=h
 obtain⟨a,rfl,ba⟩:=aZ ha
 obtain⟨b,rfl,bb⟩:=aZ hb
 obtain⟨c,rfl,bc⟩:=aZ hc
 rw[aF,az]at hc_3
 unfold aeS
 simp only[ak,aT,aF,az,aX,atW,atY,atX,Nat.reduceLeDiff,aH,atV (show ¬c<0 by grind)]
 unfold mkR
 cases hq:fy c
 ·have hz:c≠0:=fun e=>by rw[e,xI]at hq;cases hq
  simp only[cond_false]
  try rfl
 ·rw[YS hq]
  simp only[aT,aF,az,aX,Nat.reduceAdd,Nat.reduceLeDiff,cond_true]
  try rfl
def lE:aN:=spN false true [axf] (fun x=>decide (bO x.1)) (fun x=>[RV.d tR (hid (ai (x.1:Rat)))])
theorem iC:SpK 35 lE:=spX fun x h=>by simp only[ak];exact TG x.1 (atS h)
def qk:aN:=spN false true [tR,tR] (fun x=>decide (okR x.1∧okR x.2.1)) (fun x=>[RV.d tR (hid (ai (ae x.1+ae x.2.1)))])
theorem lX:SpK 85 qk:=spX fun x h=>by simp only[ak];exact E0 x.1 x.2.1 (atS h)
def qv:aN:=spN false true [tR,tR] (fun x=>decide (okR x.1∧okR x.2.1)) (fun x=>[RV.d tR (hid (ai (ae x.1-ae x.2.1)))])
theorem mg:SpK 168 qv:=spX fun x h=>by simp only[ak];exact WN x.1 x.2.1 (atS h)
def nC:aN:=spN false true [tR,tR] (fun x=>decide (okR x.1∧okR x.2.1)) (fun x=>[RV.d tR (hid (ai (ae x.1*ae x.2.1)))])
theorem jT:SpK 86 nC:=spX fun x h=>by simp only[ak];exact T2 x.1 x.2.1 (atS h)
def jI:aN:=spN true true [tR] (fun x=>decide (okR x.1)) (fun x=>[RV.d axf (aS (ae x.1) 0)])
theorem gN:SpK 69 jI:=spX fun x h=>VK x.1 (atS h)
def xl:aN:=spN false true [tR] (fun x=>decide (okR x.1)) (fun x=>[RV.d tR (hid (rtB (ae x.1))),RV.d .bool (fy (ae x.1))])
theorem vP:SpK 83 xl:=spX fun x h=>by simp only[ak];exact Tp x.1 (atS h)
def C6:aN:=spN true true [tR] (fun x=>decide (okR x.1)) (fun _=>[RV.d .bool true])
theorem AM:SpK 130 C6:=spX fun x h=>Yq x.1 (atS h)
def JK:Env:=[(35,lE),(85,qk),(168,qv),(86,nC),(69,jI),(83,xl),(130,C6)]
theorem BF:EnvAll Tryz.prog JK:=⟨iC,lX,mg,jT,gN,vP,AM,trivial⟩
def akk:Ctx:=CX JK []
def Up(_k:KT):Option (List RV):=match decide (bO (0:Int))with|true=>some [RV.d tR (hid (ai ((0:Int):Rat)))]|false=>none
theorem alD:RS akk 157 [] (Up):=rsX
theorem QA:Con Tryz.prog 157 [] [.d tR (ai 0)]:=by
 refine aP BF (alD ⟨0,?_⟩)
 unfold Up
 rw[dT (show bO 0 by decide)]
 simp only[ak]
 rfl
def CK:aN:=spN false true [] (fun _=>true) (fun _=>[RV.d tR (hid (ai 0))])
theorem BH:SpK 157 CK:=spX fun _ _=>by simp only[ak];exact QA
def JP:Env:=(157,CK)::JK
theorem Bs:EnvAll Tryz.prog JP:=⟨BH,BF⟩
def aiT:Ctx:=CX JP []
def P9(a:BR)(_k:KT):Option (List RV):=some [RV.d tO (a,(hid (ai 0),hid (ai 0)))]
theorem ah0(a:BR):RS aiT 84 [.d tR a] (P9 a):=rsX
theorem Ux(a:BR)(h:okR a):Con Tryz.prog 84 [.d tR a] [.d tO (enc ((ae a,0,0):Rt))]:=by
 refine aP Bs (ah0 _ ⟨0,?_⟩)
 have ha:=h
 obtain⟨a,rfl,ba⟩:=fe ha
 unfold P9
 simp only[ak,aT,aF,az]
 try rfl
def CL:aN:=spN false true [tR] (fun x=>decide (okR x.1)) (fun x=>[RV.d tO (hid (enc ((ae x.1,0,0):Rt)))])
theorem Bx:SpK 84 CL:=spX fun x h=>by simp only[ak];exact Ux x.1 (atS h)
def HU:Env:=(84,CL)::JP
theorem Bn:EnvAll Tryz.prog HU:=⟨Bx,Bs⟩
def als:Ctx:=CX HU []
def ZF(a b c:BR)(_k:KT):Option (List RV):=match decide (okR b)with|true=>(match(aS (ae b) 0)==0 with|true=>(match decide (okR a)with|true=>some [RV.d tO (hid (enc ((ae a,0,0):Rt)))]|false=>none)|false=>(match decide (okR c)with|true=>(match(aS (ae c) 0)==0 with|true=>(match decide (okR a)with|true=>some [RV.d tO (hid (enc ((ae a,0,0):Rt)))]|false=>none)|false=>some [RV.d tO (a,(b,c))])|false=>none))|false=>none
theorem ajy(a b c:BR):RS als 87 [.d tR a,.d tR b,.d tR c] (ZF a b c):=rsX
theorem S7(a b c:BR)(h:okR a∧okR b∧okR c):Con Tryz.prog 87 [.d tR a,.d tR b,.d tR c] [.d tO (enc (lP (ae a) (ae b) (ae c)))]:=by
 refine aP Bn (ajy _ _ _ ⟨0,?_⟩)
 obtain⟨ha,hb,hc⟩:=h
 obtain⟨a,rfl,ba⟩:=fe ha
 obtain⟨b,rfl,bb⟩:=fe hb
 obtain⟨c,rfl,bc⟩:=fe hc
 unfold ZF
 simp only[ak,aT,aF,az,aX,Nat.reduceLeDiff,aE]
 unfold lP
 by_cases e:b=0
 ·rw[atT e];rfl
 ·rw[atV e]
  by_cases e:c=0
  ·rw[atT e];rfl
  ·rw[atV e];rfl
def DO:aN:=spN false true [tR,tR,tR] (fun x=>decide (okR x.1∧okR x.2.1∧okR x.2.2.1)) (fun x=>[RV.d tO (hid (enc (lP (ae x.1) (ae x.2.1) (ae x.2.2.1))))])
theorem Bj:SpK 87 DO:=spX fun x h=>by simp only[ak];exact S7 x.1 x.2.1 x.2.2.1 (atS h)
def VA:Env:=(87,DO)::HU
theorem Ow:EnvAll Tryz.prog VA:=⟨Bj,Bn⟩
def aly:Ctx:=CX VA []
def RO(a b c:BR)(_k:KT):Option (List RV):=match decide (okR c)with|true=>(match decide ((aS (ae c) 0)<0)with|true=>some [RV.d tO (((false,[]),(false,[])),(((false,[]),(false,[])),((false,[]),(false,[])))),RV.d axf 7]|false=>(match decide (okR c)with|true=>(match fy (ae c)with|true=>(match decide (okR b∧okR (hid (rtB (ae c))))with|true=>(match decide (okR a∧okR (hid (ai (ae b*ae (hid (rtB (ae c)))))))with|true=>(match decide (okR (hid (ai (ae a+ae (hid (ai (ae b*ae (hid (rtB (ae c))))))))))with|true=>some [RV.d tO (hid (enc ((ae (hid (ai (ae a+ae (hid (ai (ae b*ae (hid (rtB (ae c))))))))),0,0):Rt))),RV.d axf 0]|false=>none)|false=>none)|false=>none)|false=>(match decide (okR a∧okR b∧okR c)with|true=>some [RV.d tO (hid (enc (lP (ae a) (ae b) (ae c)))),RV.d axf 0]|false=>none))|false=>none))|false=>none
theorem akL(a b c:BR):RS aly 36 [.d tR a,.d tR b,.d tR c] (RO a b c):=rsX
theorem Ru(a b c:BR)(h:ok Rat 100000 a∧ok Rat 100000 b∧ok Rat 100000 c∧0≤ae c):Con Tryz.prog 36 [.d tR a,.d tR b,.d tR c] [.d tO (enc (mkR (ae a) (ae b) (ae c))),.d axf 0]:=by
 refine aP Ow (akL _ _ _ ⟨0,?_⟩)
 obtain⟨ha,hb,hc,hc_3⟩:=h
 obtain⟨a,rfl,ba⟩:=aZ ha
 obtain⟨b,rfl,bb⟩:=aZ hb
 obtain⟨c,rfl,bc⟩:=aZ hc
 rw[aF,az]at hc_3
 unfold RO
 simp only[ak,aT,aF,az,aX,atW,atY,atX,Nat.reduceLeDiff,aH,atV (show ¬c<0 by grind)]
 unfold mkR
 cases hq:fy c
 ·have hz:c≠0:=fun e=>by rw[e,xI]at hq;cases hq
  simp only[cond_false,lP,atV hz]
  try rfl
 ·rw[YS hq]
  simp only[aT,aF,az,aX,Nat.reduceAdd,Nat.reduceLeDiff,cond_true]
  try rfl
abbrev Iv:=Int×Int
def prI(i:Iv):Prop:= -2305843009213693952≤i.1∧i.1≤i.2∧i.2≤2305843009213693952
instance (i:Iv):Decidable (prI i):=by unfold prI;infer_instance
def iv0:Iv:=(0,0)
theorem fO:prI iv0:=by decide
def mt(lo hi:Int):Iv×Bool:=bif decide (lo< -2305843009213693952)then(iv0,false)else bif decide (hi>2305843009213693952)then(iv0,false)else((lo,hi),true)
theorem EB{lo hi:Int}(h:lo≤hi):prI (mt lo hi).1:=by
 unfold mt
 by_cases h1:lo< -2305843009213693952
 ·rw[atT h1];exact fO
 ·rw[atV h1]
  by_cases h2:hi>2305843009213693952
  ·rw[atT h2];exact fO
  ·rw[atV h2];exact⟨by show _≤lo;omega,h,by show hi≤_;omega⟩
theorem DU{lo hi:Int}(h:(mt lo hi).2=true):(mt lo hi).1=(lo,hi):=by
 unfold mt at h ⊢
 by_cases h1:lo< -2305843009213693952
 ·rw[atT h1]at h;cases h
 ·rw[atV h1]at h ⊢
  by_cases h2:hi>2305843009213693952
  ·rw[atT h2]at h;cases h
  ·rw[atV h2];rfl
def frF(q:Rat):Iv×Bool:=bif decide (bO (q*65536).floor)then bif decide (bO (-(-(q*65536)).floor))then mt (q*65536).floor (-(-(q*65536)).floor)else(iv0,false)else(iv0,false)
def dG(a b:Iv):Iv×Bool:=mt (a.1+b.1) (a.2+b.2)
def lL(a:Iv):Iv:=(-a.2,-a.1)
def scF(x y:Int):(Int×Int)×Bool:=
 bif decide (x.natAbs*y.natAbs≥1208925819614629174706176)then((0,0),false)else bif decide (x.natAbs*y.natAbs/65536>2305843009213693952)then((0,0),false)
 else bif decide (x<0)==decide (y<0)then((((x.natAbs*y.natAbs/65536:Nat):Int),(((x.natAbs*y.natAbs+65535)/65536:Nat):Int)),decide ((x.natAbs*y.natAbs+65535)/65536≤2305843009213693952))
 else((-(((x.natAbs*y.natAbs+65535)/65536:Nat):Int),-((x.natAbs*y.natAbs/65536:Nat):Int)),decide ((x.natAbs*y.natAbs+65535)/65536≤2305843009213693952))
theorem akp{x y:Int}(h:(scF x y).2=true):(scF x y).1.1*65536≤x*y∧x*y≤(scF x y).1.2*65536∧ -2305843009213693952≤(scF x y).1.1∧(scF x y).1.2≤2305843009213693952:=by
 have ep:(((x.natAbs*y.natAbs:Nat)):Int)=(x.natAbs:Int)*(y.natAbs:Int):=avq _ _
 have hs:(decide (x<0)==decide (y<0))=true→x*y=(((x.natAbs*y.natAbs:Nat)):Int):=fun e=>by
  rw[ep]
  by_cases hx:x<0<;>by_cases hy:y<0
  ·rw[show(x.natAbs:Int)= -x by omega,show(y.natAbs:Int)= -y by omega];grind
  ·simp[hx,hy]at e
  ·simp[hx,hy]at e
  ·rw[show(x.natAbs:Int)=x by omega,show(y.natAbs:Int)=y by omega]
 have hd:(decide (x<0)==decide (y<0))=false→x*y= -(((x.natAbs*y.natAbs:Nat)):Int):=fun e=>by
  rw[ep]
  by_cases hx:x<0<;>by_cases hy:y<0
  ·simp[hx,hy]at e
  ·rw[show(x.natAbs:Int)= -x by omega,show(y.natAbs:Int)=y by omega];grind
  ·rw[show(x.natAbs:Int)=x by omega,show(y.natAbs:Int)= -y by omega];grind
  ·simp[hx,hy]at e
 unfold scF at h ⊢
 generalize x.natAbs*y.natAbs=p at*
 by_cases h1:p≥1208925819614629174706176
 ·rw[atT h1]at h;cases h
 rw[atV h1]at h ⊢
 by_cases h2:p/65536>2305843009213693952
 ·rw[atT h2]at h;cases h
 rw[atV h2]at h ⊢
 cases e:(decide (x<0)==decide (y<0))<;>rw[e]at h<;>have h3:=atS h
 ·rw[hd e]
  show-(((p+65535)/65536:Nat):Int)*65536≤_∧_≤ -((p/65536:Nat):Int)*65536∧_≤ -(((p+65535)/65536:Nat):Int)∧ -((p/65536:Nat):Int)≤_
  omega
 ·rw[hs e]
  show((p/65536:Nat):Int)*65536≤_∧_≤(((p+65535)/65536:Nat):Int)*65536∧_≤((p/65536:Nat):Int)∧(((p+65535)/65536:Nat):Int)≤_
  omega
def gY(s:Iv×Bool)(x y:Int):Iv×Bool:=bif s.2&&(scF x y).2 then((if(scF x y).1.1<s.1.1 then(scF x y).1.1 else s.1.1,if(scF x y).1.2>s.1.2 then(scF x y).1.2 else s.1.2),true)else(iv0,false)
def cV(a b:Iv):Iv×Bool:=gY (gY (gY (gY ((2305843009213693952,-2305843009213693952),true) a.1 b.1) a.1 b.2) a.2 b.1) a.2 b.2
theorem lk{s:Iv×Bool}{x y:Int}(h:(gY s x y).2=true):s.2=true∧(gY s x y).1.1≤s.1.1∧s.1.2≤(gY s x y).1.2∧(gY s x y).1.1*65536≤x*y∧x*y≤(gY s x y).1.2*65536∧((-2305843009213693952≤s.1.1∧s.1.2≤2305843009213693952)→ -2305843009213693952≤(gY s x y).1.1∧(gY s x y).1.2≤2305843009213693952):=by
 unfold gY at h ⊢
 cases e:(s.2&&(scF x y).2)<;>rw[e]at h
 ·cases h
 ·obtain⟨e1,e2⟩:=auc.1 e
  obtain⟨g1,g2,g3,g4⟩:=akp e2
  refine⟨e1,?_⟩
  simp only[cond_true]
  split<;>split<;>refine⟨by omega,by omega,by omega,by omega,fun h=>by omega⟩
theorem ut(a b:Iv):prI (cV a b).1:=by
 cases h:(cV a b).2
 ·unfold cV gY at h ⊢
  revert h
  cases((_:Iv×Bool).2&&(scF a.2 b.2).2)
  ·intro _;exact fO
  ·intro h;cases h
 ·unfold cV at h ⊢
  obtain⟨h3,a3,b3,c3,d3,e3⟩:=lk h
  obtain⟨h2,a2,b2,c2,d2,e2⟩:=lk h3
  obtain⟨h1,a1,b1,c1,d1,e1⟩:=lk h2
  obtain⟨h0,a0,b0,c0,d0,e0⟩:=lk h1
  have k:=e3 (e2 (e1 (e0 (by decide))))
  exact⟨k.1,by omega,k.2⟩
theorem aaZ{a b:Iv}(h:(cV a b).2=true):∀x y,(x=a.1∨x=a.2)→(y=b.1∨y=b.2)→(cV a b).1.1*65536≤x*y∧x*y≤(cV a b).1.2*65536:=by
 unfold cV at h ⊢
 obtain⟨h3,a3,b3,c3,d3,e3⟩:=lk h
 obtain⟨h2,a2,b2,c2,d2,e2⟩:=lk h3
 obtain⟨h1,a1,b1,c1,d1,e1⟩:=lk h2
 obtain⟨h0,a0,b0,c0,d0,e0⟩:=lk h1
 intro x y hx hy
 rcases hx with rfl|rfl<;>rcases hy with rfl|rfl<;>constructor<;>omega
def d8(n:Int):Int:=b9 (n*65536)
def sqF(a:Iv):Iv×Bool:=bif decide (a.2<0)then(iv0,false)else mt (d8 (if 0>a.1 then 0 else a.1)) (bif decide (d8 a.2*d8 a.2=a.2*65536)then d8 a.2 else d8 a.2+1)
def sgF(a:Iv):Int×Bool:=bif decide (a.1>0)then(1,true)else bif decide (a.2<0)then(-1,true)else(0,decide (a.1=0)&&decide (a.2=0))
namespace RE
def inI(i:Iv)(x:RE):Prop:=of (i.1:Rat)≤of 65536*x∧of 65536*x≤of (i.2:Rat)
theorem Oa(a b u x y:RE):((a+b-(u*(x+y))))+((u*x-(a)))+((u*y-(b)))=0:=by
 induction a using atR
 induction b using atR
 induction u using atR
 induction x using atR
 induction y using atR
 exact snd fun n=>by
  simp only[RL.add,RL.mul,RL.neg,RL.const]
  grind
theorem adE(a b u x y:RE)(h1:a≤u*x)(h2:b≤u*y):a+b≤u*(x+y):=fun hg=>far (aU (aU (a8 hg) (aR h1)) (aR h2)) (Oa a b u x y)
theorem O4(a b u x y:RE):((u*(x+y)-(a+b)))+((a-(u*x)))+((b-(u*y)))=0:=by
 induction a using atR
 induction b using atR
 induction u using atR
 induction x using atR
 induction y using atR
 exact snd fun n=>by
  simp only[RL.add,RL.mul,RL.neg,RL.const]
  grind
theorem aaa(a b u x y:RE)(h1:u*x≤a)(h2:u*y≤b):u*(x+y)≤a+b:=fun hg=>far (aU (aU (a8 hg) (aR h1)) (aR h2)) (O4 a b u x y)
theorem Oi(a u x:RE):((-a-(u*(-x))))+((a-(u*x)))=0:=by
 induction a using atR
 induction u using atR
 induction x using atR
 exact snd fun n=>by
  simp only[RL.add,RL.mul,RL.neg,RL.const]
  grind
theorem adU(a u x:RE)(h1:u*x≤a): -a≤u*(-x):=fun hg=>far (aU (a8 hg) (aR h1)) (Oi a u x)
theorem PD(a u x:RE):((u*(-x)-(-a)))+((u*x-(a)))=0:=by
 induction a using atR
 induction u using atR
 induction x using atR
 exact snd fun n=>by
  simp only[RL.add,RL.mul,RL.neg,RL.const]
  grind
theorem adj(a u x:RE)(h1:a≤u*x):u*(-x)≤ -a:=fun hg=>far (aU (a8 hg) (aR h1)) (PD a u x)
theorem aaG(a c U V m:RE):((m-(U*V)))+((a*c-(m)))+((V-(0))*(U-(a)))+((a-(0))*(V-(c)))=0:=by
 induction a using atR
 induction c using atR
 induction U using atR
 induction V using atR
 induction m using atR
 exact snd fun n=>by
  simp only[RL.add,RL.mul,RL.neg,RL.const]
  grind
theorem ar8(a c U V m:RE)(h1:0≤V)(h2:0≤a)(h3:a≤U)(h4:c≤V)(h5:m≤a*c):m≤U*V:=fun hg=>far (aU (aU (aU (a8 hg) (aR h5)) (cW (aR h1) (aR h3))) (cW (aR h2) (aR h4))) (aaG a c U V m)
theorem aef(a d U V m:RE):((m-(U*V)))+((a*d-(m)))+((V-(0))*(U-(a)))+((0-(a))*(d-(V)))=0:=by
 induction a using atR
 induction d using atR
 induction U using atR
 induction V using atR
 induction m using atR
 exact snd fun n=>by
  simp only[RL.add,RL.mul,RL.neg,RL.const]
  grind
theorem arH(a d U V m:RE)(h1:0≤V)(h2:a≤0)(h3:a≤U)(h4:V≤d)(h5:m≤a*d):m≤U*V:=fun hg=>far (aU (aU (aU (a8 hg) (aR h5)) (cW (aR h1) (aR h3))) (cW (aR h2) (aR h4))) (aef a d U V m)
theorem aaE(b c U V m:RE):((m-(U*V)))+((b*c-(m)))+((0-(V))*(b-(U)))+((b-(0))*(V-(c)))=0:=by
 induction b using atR
 induction c using atR
 induction U using atR
 induction V using atR
 induction m using atR
 exact snd fun n=>by
  simp only[RL.add,RL.mul,RL.neg,RL.const]
  grind
theorem an6(b c U V m:RE)(h1:V≤0)(h2:0≤b)(h3:U≤b)(h4:c≤V)(h5:m≤b*c):m≤U*V:=fun hg=>far (aU (aU (aU (a8 hg) (aR h5)) (cW (aR h1) (aR h3))) (cW (aR h2) (aR h4))) (aaE b c U V m)
theorem aa6(b d U V m:RE):((m-(U*V)))+((b*d-(m)))+((0-(V))*(b-(U)))+((0-(b))*(d-(V)))=0:=by
 induction b using atR
 induction d using atR
 induction U using atR
 induction V using atR
 induction m using atR
 exact snd fun n=>by
  simp only[RL.add,RL.mul,RL.neg,RL.const]
  grind
theorem asg(b d U V m:RE)(h1:V≤0)(h2:b≤0)(h3:U≤b)(h4:V≤d)(h5:m≤b*d):m≤U*V:=fun hg=>far (aU (aU (aU (a8 hg) (aR h5)) (cW (aR h1) (aR h3))) (cW (aR h2) (aR h4))) (aa6 b d U V m)
theorem acr(b d U V m:RE):((U*V-(m)))+((m-(b*d)))+((V-(0))*(b-(U)))+((b-(0))*(d-(V)))=0:=by
 induction b using atR
 induction d using atR
 induction U using atR
 induction V using atR
 induction m using atR
 exact snd fun n=>by
  simp only[RL.add,RL.mul,RL.neg,RL.const]
  grind
theorem aqn(b d U V m:RE)(h1:0≤V)(h2:0≤b)(h3:U≤b)(h4:V≤d)(h5:b*d≤m):U*V≤m:=fun hg=>far (aU (aU (aU (a8 hg) (aR h5)) (cW (aR h1) (aR h3))) (cW (aR h2) (aR h4))) (acr b d U V m)
theorem ac1(b c U V m:RE):((U*V-(m)))+((m-(b*c)))+((V-(0))*(b-(U)))+((0-(b))*(V-(c)))=0:=by
 induction b using atR
 induction c using atR
 induction U using atR
 induction V using atR
 induction m using atR
 exact snd fun n=>by
  simp only[RL.add,RL.mul,RL.neg,RL.const]
  grind
theorem ap2(b c U V m:RE)(h1:0≤V)(h2:b≤0)(h3:U≤b)(h4:c≤V)(h5:b*c≤m):U*V≤m:=fun hg=>far (aU (aU (aU (a8 hg) (aR h5)) (cW (aR h1) (aR h3))) (cW (aR h2) (aR h4))) (ac1 b c U V m)
theorem acm(a d U V m:RE):((U*V-(m)))+((m-(a*d)))+((0-(V))*(U-(a)))+((a-(0))*(d-(V)))=0:=by
 induction a using atR
 induction d using atR
 induction U using atR
 induction V using atR
 induction m using atR
 exact snd fun n=>by
  simp only[RL.add,RL.mul,RL.neg,RL.const]
  grind
theorem anU(a d U V m:RE)(h1:V≤0)(h2:0≤a)(h3:a≤U)(h4:V≤d)(h5:a*d≤m):U*V≤m:=fun hg=>far (aU (aU (aU (a8 hg) (aR h5)) (cW (aR h1) (aR h3))) (cW (aR h2) (aR h4))) (acm a d U V m)
theorem abt(a c U V m:RE):((U*V-(m)))+((m-(a*c)))+((0-(V))*(U-(a)))+((0-(a))*(V-(c)))=0:=by
 induction a using atR
 induction c using atR
 induction U using atR
 induction V using atR
 induction m using atR
 exact snd fun n=>by
  simp only[RL.add,RL.mul,RL.neg,RL.const]
  grind
theorem aqX(a c U V m:RE)(h1:V≤0)(h2:a≤0)(h3:a≤U)(h4:c≤V)(h5:a*c≤m):U*V≤m:=fun hg=>far (aU (aU (aU (a8 hg) (aR h5)) (cW (aR h1) (aR h3))) (cW (aR h2) (aR h4))) (abt a c U V m)
theorem aj6(u x y:RE):u*x*(u*y)=u*(x*y)*u:=by
 induction u using atR
 induction x using atR
 induction y using atR
 exact snd fun n=>by
  simp only[RL.mul]
  grind
theorem acP(a b u:RE):((u-(0))*(a-(b)))+((b*u-(a*u)))=0:=by
 induction a using atR
 induction b using atR
 induction u using atR
 exact snd fun n=>by
  simp only[RL.add,RL.mul,RL.neg,RL.const]
  grind
theorem agL(a b u:RE)(h1:0<u)(h2:a*u≤b*u):a≤b:=fun hg=>far (aU (mul_pos (a8 h1) (a8 hg)) (aR h2)) (acP a b u)
theorem nS:0<of 65536:=jG (by decide+kernel)
end RE
end Go.Proofs.YtgddhgcjmddjfaaGreat
end
