/- The examples of the chapter on clearance. -/
import Derived.Test.YtnkndpoojnflmaaGreatE18
import Derived.Test.YtnkndpoojnflmaaGreatE17
import Derived.Stop.Joined
noncomputable section
namespace Go.Proofs.YtnkndpoojnflmaaGreat
open Go.RowKit Go.IntKind
section
open RE
abbrev sgC(a b:Rat×Rat):Cv:=(false,td a b,dec o00,false,atP a,atP b)
abbrev arC(a b c:Rat×Rat):Cv:=(true,dec o00,qB a b c,decide (yb a b c<0),atP a,atP c)
abbrev fuA(c:Ln):Cv:=(true,dec o00,c,false,lO c,l8 c)
abbrev fuB(c:Ln):Cv:=(true,dec o00,c,false,l8 c,lO c)
theorem Mp{a b:Rat×Rat}(h:yO a b=false):dC (jE a b)=sgC a b:=by
 unfold jE dC
 rw[h]
 simp only[cond_false,az]
theorem Y4{a b c:Rat×Rat}(h:fa a b c≠0):dC (ma a b c)=arC a b c:=by
 unfold ma dC
 rw[dF h]
 simp only[cond_false,az]
theorem sK{c:BCU}(h:gdN c):c.2.2.2.2.1=enc (frC (dC c))∧c.2.2.2.2.2=enc (toC (dC c)):=
 ⟨(Cod.ok_dec _ _ h.fr.1).1,(Cod.ok_dec _ _ h.to.1).1⟩
theorem lc{c d:BCU}(hc:gdN c)(hd:gdN d){c' d':Cv}(ec:dC c=c')(ed:dC d=d')(hs:cJ c' d'=false)(hm:abQ c' d'=[]){r:Rat}(hr:decide (r<0)=false):fd c d r=l7 c' d' r:=by
 subst ec ed
 have e:fj c d=[]:=by rw[Ro (sK hc).1 (sK hc).2 (sK hd).1 (sK hd).2,hm];rfl
 have n:oh c d=false:=by unfold oh;rw[hs];rfl
 unfold fd Kp
 rw[e,n,hr]
 rfl
theorem Af{d:BCU}(hd:gdN d){p:Pt}{v:Rat×Rat}(e:p=atP v)(hv:Bd v 200)(r:Rat):poiE (dC d) (pR p) r=rI (dC d) v r:=by
 rw[e,oN]
 exact TH hd.e (BG (bv:=hv) hd.1.1).2 r
theorem lH{c d:BCU}(hc:gdN c)(hd:gdN d){a b u w:Rat×Rat}(ba:Bd a 200)(bb:Bd b 200)(bu:Bd u 200)(bw:Bd w 200)(e1:frC (dC c)=atP a)(e2:toC (dC c)=atP b)(e3:frC (dC d)=atP u)(e4:toC (dC d)=atP w)(r:Rat):
  tW (dC c) (dC d) r=min (min (min (rI (dC d) a r) (rI (dC d) b r)) (rI (dC c) u r)) (rI (dC c) w r):=by
 unfold tW
 rw[Af hd e1 ba,Af hd e2 bb,Af hc e3 bu,Af hc e4 bw]
abbrev v00:Rat×Rat:=vcR 0 0
theorem abq:Bd v00 1:=⟨⟨⟨by decide+kernel,by decide+kernel⟩,⟨by decide+kernel,by decide+kernel⟩⟩⟩
theorem akc:Bd v00 200:=abq.mono (by decide)
abbrev v40:Rat×Rat:=vcR 4 0
theorem acl:Bd v40 1:=⟨⟨⟨by decide+kernel,by decide+kernel⟩,⟨by decide+kernel,by decide+kernel⟩⟩⟩
theorem ajh:Bd v40 200:=acl.mono (by decide)
abbrev v13:Rat×Rat:=vcR 1 3
theorem abX:Bd v13 1:=⟨⟨⟨by decide+kernel,by decide+kernel⟩,⟨by decide+kernel,by decide+kernel⟩⟩⟩
theorem ajJ:Bd v13 200:=abX.mono (by decide)
abbrev v19:Rat×Rat:=vcR 1 9
theorem aaK:Bd v19 1:=⟨⟨⟨by decide+kernel,by decide+kernel⟩,⟨by decide+kernel,by decide+kernel⟩⟩⟩
theorem aj0:Bd v19 200:=aaK.mono (by decide)
abbrev v10:Rat×Rat:=vcR 1 0
theorem aaz:Bd v10 1:=⟨⟨⟨by decide+kernel,by decide+kernel⟩,⟨by decide+kernel,by decide+kernel⟩⟩⟩
theorem aik:Bd v10 200:=aaz.mono (by decide)
abbrev v01:Rat×Rat:=vcR 0 1
theorem aj5:Bd v01 1:=⟨⟨⟨by decide+kernel,by decide+kernel⟩,⟨by decide+kernel,by decide+kernel⟩⟩⟩
abbrev vm1:Rat×Rat:=vcR (-1) 0
theorem aaJ:Bd vm1 1:=⟨⟨⟨by decide+kernel,by decide+kernel⟩,⟨by decide+kernel,by decide+kernel⟩⟩⟩
theorem ah3:Bd vm1 200:=aaJ.mono (by decide)
abbrev v30:Rat×Rat:=vcR 3 0
theorem adc:Bd v30 1:=⟨⟨⟨by decide+kernel,by decide+kernel⟩,⟨by decide+kernel,by decide+kernel⟩⟩⟩
theorem KK:Bd v30 200:=adc.mono (by decide)
abbrev v03:Rat×Rat:=vcR 0 3
theorem ajV:Bd v03 1:=⟨⟨⟨by decide+kernel,by decide+kernel⟩,⟨by decide+kernel,by decide+kernel⟩⟩⟩
abbrev vm3:Rat×Rat:=vcR (-3) 0
theorem aa9:Bd vm3 1:=⟨⟨⟨by decide+kernel,by decide+kernel⟩,⟨by decide+kernel,by decide+kernel⟩⟩⟩
theorem ajB:Bd vm3 200:=aa9.mono (by decide)
abbrev vm5:Rat×Rat:=vcR (-5) 3
theorem abI:Bd vm5 1:=⟨⟨⟨by decide+kernel,by decide+kernel⟩,⟨by decide+kernel,by decide+kernel⟩⟩⟩
theorem ajl:Bd vm5 200:=abI.mono (by decide)
abbrev v53:Rat×Rat:=vcR 5 3
theorem ac8:Bd v53 1:=⟨⟨⟨by decide+kernel,by decide+kernel⟩,⟨by decide+kernel,by decide+kernel⟩⟩⟩
theorem ajc:Bd v53 200:=ac8.mono (by decide)
abbrev vm2:Rat×Rat:=vcR (-2) 0
theorem ajP:Bd vm2 1:=⟨⟨⟨by decide+kernel,by decide+kernel⟩,⟨by decide+kernel,by decide+kernel⟩⟩⟩
theorem PK:Bd vm2 200:=ajP.mono (by decide)
abbrev v20:Rat×Rat:=vcR 2 0
theorem akp:Bd v20 1:=⟨⟨⟨by decide+kernel,by decide+kernel⟩,⟨by decide+kernel,by decide+kernel⟩⟩⟩
theorem ON:Bd v20 200:=akp.mono (by decide)
abbrev v90:Rat×Rat:=vcR 9 0
theorem aji:Bd v90 1:=⟨⟨⟨by decide+kernel,by decide+kernel⟩,⟨by decide+kernel,by decide+kernel⟩⟩⟩
theorem RX:Bd v90 200:=aji.mono (by decide)
abbrev lF:Ln:=(((0:Int):Rat),((0:Int):Rat),((4:Int):Rat))
abbrev lG:Ln:=(((6:Int):Rat),((0:Int):Rat),((9:Int):Rat))
theorem blF:BdC lF:=⟨⟨by decide+kernel,by decide+kernel⟩,⟨by decide+kernel,by decide+kernel⟩,⟨by decide+kernel,by decide+kernel⟩⟩
theorem blG:BdC lG:=⟨⟨by decide+kernel,by decide+kernel⟩,⟨by decide+kernel,by decide+kernel⟩,⟨by decide+kernel,by decide+kernel⟩⟩
theorem gS1:gdN (jE v00 v40):=BM (ba:=abq) (bb:=acl) (by decide+kernel)
theorem dS1:dC (jE v00 v40)=sgC v00 v40:=Mp (by decide+kernel)
theorem gS2:gdN (jE v13 v19):=BM (ba:=abX) (bb:=aaK) (by decide+kernel)
theorem dS2:dC (jE v13 v19)=sgC v13 v19:=Mp (by decide+kernel)
theorem gS3:gdN (jE vm5 v53):=BM (ba:=abI) (bb:=ac8) (by decide+kernel)
theorem dS3:dC (jE vm5 v53)=sgC vm5 v53:=Mp (by decide+kernel)
theorem gH1:gdN (ma v10 v01 vm1):=by
 have:=aaz
 have:=aaJ
 exact F0 (bc:=⟨⟨by decide+kernel,by decide+kernel⟩,⟨by decide+kernel,by decide+kernel⟩,⟨by decide+kernel,by decide+kernel⟩⟩) (by decide+kernel)
theorem dH1:dC (ma v10 v01 vm1)=arC v10 v01 vm1:=Y4 (by decide+kernel)
theorem gH3:gdN (ma v30 v03 vm3):=by
 have:=adc
 have:=aa9
 exact F0 (bc:=⟨⟨by decide+kernel,by decide+kernel⟩,⟨by decide+kernel,by decide+kernel⟩,⟨by decide+kernel,by decide+kernel⟩⟩) (by decide+kernel)
theorem dH3:dC (ma v30 v03 vm3)=arC v30 v03 vm3:=Y4 (by decide+kernel)
theorem c12:fd (jE v00 v40) (jE v13 v19) ((3:Int):Rat)=0:=by
 rw[lc gS1 gS2 dS1 dS2 (by decide+kernel) (by decide+kernel) (by decide+kernel)]
 have:=lH gS1 gS2 akc ajh ajJ aj0 (by rw[dS1];rfl) (by rw[dS1];rfl) (by rw[dS2];rfl) (by rw[dS2];rfl) ((3:Int):Rat)
 rw[dS1,dS2]at this
 unfold l7
 rw[this]
 decide+kernel
theorem cHH:fd (ma v10 v01 vm1) (ma v30 v03 vm3) ((2:Int):Rat)=0:=by
 rw[lc gH1 gH3 dH1 dH3 (by decide+kernel) (by decide+kernel) (by decide+kernel)]
 have:=lH gH1 gH3 aik ah3 KK ajB (by rw[dH1];rfl) (by rw[dH1];rfl) (by rw[dH3];rfl) (by rw[dH3];rfl) ((2:Int):Rat)
 rw[dH1,dH3]at this
 unfold l7
 rw[this]
 decide+kernel
theorem cHS:fd (ma v10 v01 vm1) (jE vm5 v53) ((2:Int):Rat)=0:=by
 rw[lc gH1 gS3 dH1 dS3 (by decide+kernel) (by decide+kernel) (by decide+kernel)]
 have:=lH gH1 gS3 aik ah3 ajl ajc (by rw[dH1];rfl) (by rw[dH1];rfl) (by rw[dS3];rfl) (by rw[dS3];rfl) ((2:Int):Rat)
 rw[dH1,dS3]at this
 unfold l7
 rw[this]
 decide+kernel
abbrev kF1:BCU:=(true,o00,enc lF,false,enc (lO lF),enc (l8 lF))
abbrev kF2:BCU:=(true,o00,enc lF,false,enc (l8 lF),enc (lO lF))
abbrev kG1:BCU:=(true,o00,enc lG,false,enc (lO lG),enc (l8 lG))
abbrev kG2:BCU:=(true,o00,enc lG,false,enc (l8 lG),enc (lO lG))
theorem fF:vz (enc lF)=[kF1,kF2]:=by unfold vz;rw[az]
theorem fG:vz (enc lG)=[kG1,kG2]:=by unfold vz;rw[az]
theorem GG:gdN kF1:=yv (bc:=blF) (by decide+kernel) _ (by rw[fF];simp)
theorem vI:dC kF1=fuA lF:=by unfold dC;simp only[az]
theorem P0:gdN kF2:=yv (bc:=blF) (by decide+kernel) _ (by rw[fF];simp)
theorem Ez:dC kF2=fuB lF:=by unfold dC;simp only[az]
theorem Fk:gdN kG1:=yv (bc:=blG) (by decide+kernel) _ (by rw[fG];simp)
theorem vF:dC kG1=fuA lG:=by unfold dC;simp only[az]
theorem Qq:gdN kG2:=yv (bc:=blG) (by decide+kernel) _ (by rw[fG];simp)
theorem Ct:dC kG2=fuB lG:=by unfold dC;simp only[az]
theorem VK:nrZ kF1 ((1:Int):Rat) kG1=false:=by
 unfold nrZ
 rw[lc GG Fk vI vF (by decide+kernel) (by decide+kernel) (by decide+kernel)]
 have:=lH GG Fk PK ON KK RX (by rw[vI];decide+kernel) (by rw[vI];decide+kernel) (by rw[vF];decide+kernel) (by rw[vF];decide+kernel) ((1:Int):Rat)
 rw[vI,vF]at this
 unfold l7
 rw[this]
 decide+kernel
theorem U3:nrZ kF1 ((1:Int):Rat) kG2=false:=by
 unfold nrZ
 rw[lc GG Qq vI Ct (by decide+kernel) (by decide+kernel) (by decide+kernel)]
 have:=lH GG Qq PK ON RX KK (by rw[vI];decide+kernel) (by rw[vI];decide+kernel) (by rw[Ct];decide+kernel) (by rw[Ct];decide+kernel) ((1:Int):Rat)
 rw[vI,Ct]at this
 unfold l7
 rw[this]
 decide+kernel
theorem UF:nrZ kF2 ((1:Int):Rat) kG1=false:=by
 unfold nrZ
 rw[lc P0 Fk Ez vF (by decide+kernel) (by decide+kernel) (by decide+kernel)]
 have:=lH P0 Fk ON PK KK RX (by rw[Ez];decide+kernel) (by rw[Ez];decide+kernel) (by rw[vF];decide+kernel) (by rw[vF];decide+kernel) ((1:Int):Rat)
 rw[Ez,vF]at this
 unfold l7
 rw[this]
 decide+kernel
theorem SF:nrZ kF2 ((1:Int):Rat) kG2=false:=by
 unfold nrZ
 rw[lc P0 Qq Ez Ct (by decide+kernel) (by decide+kernel) (by decide+kernel)]
 have:=lH P0 Qq ON PK RX KK (by rw[Ez];decide+kernel) (by rw[Ez];decide+kernel) (by rw[Ct];decide+kernel) (by rw[Ct];decide+kernel) ((1:Int):Rat)
 rw[Ez,Ct]at this
 unfold l7
 rw[this]
 decide+kernel
theorem ai1:nrZ kF1 (Rat.divInt 11 10) kG1=true:=by
 unfold nrZ
 rw[lc GG Fk vI vF (by decide+kernel) (by decide+kernel) (by decide+kernel)]
 have:=lH GG Fk PK ON KK RX (by rw[vI];decide+kernel) (by rw[vI];decide+kernel) (by rw[vF];decide+kernel) (by rw[vF];decide+kernel) (Rat.divInt 11 10)
 rw[vI,vF]at this
 unfold l7
 rw[this]
 decide+kernel
theorem fi1:decide (Bg [kF1,kF2] [kG1,kG2] ((1:Int):Rat)<0)=true:=by
 unfold Bg CV CV CV Gz
 simp only[aoa,List.any_nil,VK,U3,UF,SF,Bool.or_false,Bool.not_false,Bool.not_true,cond_false]
 rfl
theorem fi2:decide (Bg [kF1,kF2] [kG1,kG2] (Rat.divInt 11 10)<0)=false:=by
 unfold Bg CV Gz
 simp only[aoa,ai1,Bool.true_or,Bool.not_true,Bool.not_false,cond_true]
 rfl
theorem mGF:∀x∈[kF1,kF2],mG x:=by
 intro x hx
 simp only[ali,ame,anu]at hx
 rcases hx with e|e<;>rw[e]
 ·exact GG.1
 ·exact P0.1
theorem mGG:∀x∈[kG1,kG2],mG x:=by
 intro x hx
 simp only[ali,ame,anu]at hx
 rcases hx with e|e<;>rw[e]
 ·exact Fk.1
 ·exact Qq.1
theorem okZ{n:Int}(h:aG n):ok Rat 1000 (am (n:Rat)):=by
 have:=cZ h
 exact ak6 (okd (by decide) (by decide))
def GV:List En:=[enL oG,enL Qt]
def WY(x y:Int)(_k:KT):Option (List RV):=og (decide (aG x)) (og (decide (aG y)) (some [RV.d tV (hid (am (x:Rat)),hid (am (y:Rat)))]))
def ahJ:Cn 80 [aon,aon]:=cn fun(x y:Int)=>lf (aG x∧aG y) [.d tV (enc (vcR x y))] fun h=>by
 refine aA GV (WY x y) ⟨0,?_⟩
 unfold WY
 rw[dT h.1,dT h.2]
 simp only[bL]
 rfl
def XS(a b:BV)(_k:KT):Option (List RV):=og (decide (ok (Rat×Rat) 100 a∧ok (Rat×Rat) 100 b)) (some [RV.d tCU (hid (jE (dec a) (dec b)))])
def af8:Cn 76 [tV,tV]:=cn fun(a b:BV)=>lf (ok (Rat×Rat) 100 a∧ok (Rat×Rat) 100 b) [.d tCU (jE (dec a) (dec b))] fun h=>by
 refine aA GV (XS a b) ⟨0,?_⟩
 unfold XS
 rw[dT h]
 simp only[bL]
def G4:List En:=[enL oG,enL af8,enL ahJ,enL Qu,enT Qr,enL Yu,enF ad3,enL Gu]
def QF:NT:=[((12,3),{keep:=[3,4,5,7],hl:=0}),((12,5),{keep:=[1,8,9,10,12],hl:=0}),((12,7),{keep:=[1,2,13,14,15,16,18,19,20,21,22,25,26,27,28,29,32,33,34,35,36,38,39,40,41,42],hl:=0})]
def Ux:Ctx:=CX (ens G4) QF
def Jd(_k:KT):Option (List RV):=let y1:=am ((0:Int):Rat);let y2:=hid (enc (vcR (0:Int) (0:Int)));let y3:=hid (enc (vcR (4:Int) (0:Int)));let y4:=hid (enc (vcR (1:Int) (3:Int)));let y5:=hid (enc (vcR (1:Int) (9:Int)));let y6:=hid (jE (dec y2) (dec y3));let y7:=hid (jE (dec y4) (dec y5));let y8:=hid (am ((3:Int):Rat));let y9:=i64.wrap (0+1);let y10:=i64.wrap (0-1);let y11:=hid (enc (vcR y9 (0:Int)));let y12:=hid (enc (vcR (0:Int) y9));let y13:=hid (enc (vcR y10 (0:Int)));let y14:=i64.wrap (0+3);let y15:=i64.wrap (0-3);let y16:=hid (enc (vcR y14 (0:Int)));let y17:=hid (enc (vcR (0:Int) y14));let y18:=hid (enc (vcR y15 (0:Int)));let y19:=hid (ma (dec y11) (dec y12) (dec y13));let y20:=hid (ma (dec y16) (dec y17) (dec y18));let y21:=hid (am ((2:Int):Rat));let y22:=hid (enc (vcR ((-5):Int) (3:Int)));let y23:=hid (enc (vcR (5:Int) (3:Int)));let y24:=hid (jE (dec y22) (dec y23));let y25:=vz (hid y1,(hid y1,hid (am ((4:Int):Rat))));let y26:=vz (hid (am ((6:Int):Rat)),(hid y1,hid (am ((9:Int):Rat))));let y27:=hid (am ((1:Int):Rat));let y28:=hid (am (Rat.divInt (11:Int) (10:Int)));og (decide (aG (0:Int))) (og (decide (aG (0:Int))) (og (decide (aG (4:Int))) (og (decide (cg (hid y1,(hid y1,hid (am ((4:Int):Rat)))))) (og (decide (aG (6:Int))) (og (decide (aG (0:Int))) (og (decide (aG (9:Int))) (og (decide (cg (hid (am ((6:Int):Rat)),(hid y1,hid (am ((9:Int):Rat)))))) (og (decide (aG (0:Int)∧aG (0:Int))) (og (decide (aG (4:Int)∧aG (0:Int))) (og (decide (ok (Rat×Rat) 100 y2∧ok (Rat×Rat) 100 y3)) (og (decide (aG (1:Int)∧aG (3:Int))) (og (decide (aG (1:Int)∧aG (9:Int))) (og (decide (ok (Rat×Rat) 100 y4∧ok (Rat×Rat) 100 y5)) (og (decide (aG (3:Int))) (og (decide (fA y6 y7∧ok Rat 1000 y8)) (match(fd y6 y7 (ah y8))==0 with|true=>(og (decide (aG y9∧aG (0:Int))) (og (decide (aG (0:Int)∧aG y9)) (og (decide (aG y10∧aG (0:Int))) (og (decide (ok (Rat×Rat) 100 y11∧ok (Rat×Rat) 100 y12∧ok (Rat×Rat) 100 y13)) (og (decide (aG y14∧aG (0:Int))) (og (decide (aG (0:Int)∧aG y14)) (og (decide (aG y15∧aG (0:Int))) (og (decide (ok (Rat×Rat) 100 y16∧ok (Rat×Rat) 100 y17∧ok (Rat×Rat) 100 y18)) (og (decide (aG (2:Int))) (og (decide (fA y19 y20∧ok Rat 1000 y21)) (match(fd y19 y20 (ah y21))==0 with|true=>(og (decide (aG y9∧aG (0:Int))) (og (decide (aG (0:Int)∧aG y9)) (og (decide (aG y10∧aG (0:Int))) (og (decide (ok (Rat×Rat) 100 y11∧ok (Rat×Rat) 100 y12∧ok (Rat×Rat) 100 y13)) (og (decide (aG ((-5):Int)∧aG (3:Int))) (og (decide (aG (5:Int)∧aG (3:Int))) (og (decide (ok (Rat×Rat) 100 y22∧ok (Rat×Rat) 100 y23)) (og (decide (aG (2:Int))) (og (decide (fA y19 y24∧ok Rat 1000 y21)) (match(fd y19 y24 (ah y21))==0 with|true=>(og (decide (aG (1:Int))) (og (decide (BA y25 y26 y27)) (match decide (Bg y25 y26 (ah y27)<0)with|true=>(og (decide (yL (11:Int) (10:Int))) (og (decide (BA y25 y26 y28)) (some [RV.d .bool (!(decide (Bg y25 y26 (ah y28)<0)))])))|false=>some [RV.d .bool false])))|false=>some [RV.d .bool false]))))))))))|false=>some [RV.d .bool false])))))))))))|false=>some [RV.d .bool false]))))))))))))))))
theorem UX:RS Ux 12 [] (Jd):=rsX
def VJ:Cn 12 []:=cn<|lf True [.d .bool true] fun _=>by
 have i0:decide (aG 0)=true:=by decide
 have i1:decide (aG 1)=true:=by decide
 have i2:decide (aG 2)=true:=by decide
 have i3:decide (aG 3)=true:=by decide
 have i4:decide (aG 4)=true:=by decide
 have i6:decide (aG 6)=true:=by decide
 have i9:decide (aG 9)=true:=by decide
 have i5:decide (aG 5)=true:=by decide
 have jv00:decide (aG (0)∧aG (0))=true:=by decide
 have jv40:decide (aG (4)∧aG (0))=true:=by decide
 have jv13:decide (aG (1)∧aG (3))=true:=by decide
 have jv19:decide (aG (1)∧aG (9))=true:=by decide
 have jv10:decide (aG (1)∧aG (0))=true:=by decide
 have jv01:decide (aG (0)∧aG (1))=true:=by decide
 have jvm1:decide (aG (-1)∧aG (0))=true:=by decide
 have jv30:decide (aG (3)∧aG (0))=true:=by decide
 have jv03:decide (aG (0)∧aG (3))=true:=by decide
 have jvm3:decide (aG (-3)∧aG (0))=true:=by decide
 have jvm5:decide (aG (-5)∧aG (3))=true:=by decide
 have jv53:decide (aG (5)∧aG (3))=true:=by decide
 have jvm2:decide (aG (-2)∧aG (0))=true:=by decide
 have jv20:decide (aG (2)∧aG (0))=true:=by decide
 have jv90:decide (aG (9)∧aG (0))=true:=by decide
 have o1:decide (ok (Rat×Rat) 100 (enc v00)∧ok (Rat×Rat) 100 (enc v40))=true:=dT ⟨ak6 (okd (h:=abq) (by decide) (by decide)),ak6 (okd (h:=acl) (by decide) (by decide))⟩
 have o2:decide (ok (Rat×Rat) 100 (enc v13)∧ok (Rat×Rat) 100 (enc v19))=true:=dT ⟨ak6 (okd (h:=abX) (by decide) (by decide)),ak6 (okd (h:=aaK) (by decide) (by decide))⟩
 have o3:decide (ok (Rat×Rat) 100 (enc vm5)∧ok (Rat×Rat) 100 (enc v53))=true:=dT ⟨ak6 (okd (h:=abI) (by decide) (by decide)),ak6 (okd (h:=ac8) (by decide) (by decide))⟩
 have o4:decide (ok (Rat×Rat) 100 (enc v10)∧ok (Rat×Rat) 100 (enc v01)∧ok (Rat×Rat) 100 (enc vm1))=true:=dT ⟨ak6 (okd (h:=aaz) (by decide) (by decide)),ak6 (okd (h:=aj5) (by decide) (by decide)),ak6 (okd (h:=aaJ) (by decide) (by decide))⟩
 have o5:decide (ok (Rat×Rat) 100 (enc v30)∧ok (Rat×Rat) 100 (enc v03)∧ok (Rat×Rat) 100 (enc vm3))=true:=dT ⟨ak6 (okd (h:=adc) (by decide) (by decide)),ak6 (okd (h:=ajV) (by decide) (by decide)),ak6 (okd (h:=aa9) (by decide) (by decide))⟩
 have m1:decide (fA (jE v00 v40) (jE v13 v19)∧ok Rat 1000 (am ((3:Int):Rat)))=true:=dT ⟨⟨gS1.1,gS2.1⟩,okZ (by decide)⟩
 have m2:decide (fA (ma v10 v01 vm1) (ma v30 v03 vm3)∧ok Rat 1000 (am ((2:Int):Rat)))=true:=dT ⟨⟨gH1.1,gH3.1⟩,okZ (by decide)⟩
 have m3:decide (fA (ma v10 v01 vm1) (jE vm5 v53)∧ok Rat 1000 (am ((2:Int):Rat)))=true:=dT ⟨⟨gH1.1,gS3.1⟩,okZ (by decide)⟩
 have f1:decide (BA [kF1,kF2] [kG1,kG2] (am ((1:Int):Rat)))=true:=dT ⟨mGF,mGG,by decide,by decide,okZ (by decide)⟩
 have f2:decide (BA [kF1,kF2] [kG1,kG2] (am (Rat.divInt 11 10)))=true:=dT ⟨mGF,mGG,by decide,by decide,by have:=bQ 11 10 (by decide);exact ak6 (okd (by decide) (by decide))⟩
 have q1:decide (yL 11 10)=true:=by decide
 have l1:((am ((0:Int):Rat),(am ((0:Int):Rat),am ((4:Int):Rat))):BO3)=enc lF:=rfl
 have l2:((am ((6:Int):Rat),(am ((0:Int):Rat),am ((9:Int):Rat))):BO3)=enc lG:=rfl
 have k1:decide (cg (enc lF))=true:=dT (hU (h:=blF) (by decide+kernel))
 have k2:decide (cg (enc lG))=true:=dT (hU (h:=blG) (by decide+kernel))
 have w1:i64.wrap (0+1)=1:=by decide
 have w2:i64.wrap (0-1)= -1:=by decide
 have w3:i64.wrap (0+3)=3:=by decide
 have w4:i64.wrap (0-3)= -3:=by decide
 refine c7 G4 (UX ⟨0,?_⟩)
 unfold Jd
 simp only[aU,w1,w2,w3,w4,l1,l2,k1,k2,f1,f2,q1,fF,fG,fi1,fi2,c12,cHH,cHS,i0,i1,i2,i3,i4,i6,i9,jv00,jv40,jv13,jv19,jv10,jv01,jvm1,jv30,jv03,jvm3,jvm5,jv53,o1,o2,o3,o4,o5,m1,m2,m3]
 rfl
end
theorem Z3{a b:Int}(h:a≤b):Rat.divInt a 4≤Rat.divInt b 4:=by
 rw[am1,am1]
 have:=am8.2 h
 grind
theorem adv{a b:Int}(h:a<b):Rat.divInt a 4<Rat.divInt b 4:=by
 rw[am1,am1]
 have:=am9.2 h
 grind
def IU:List En:=[enT VJ,enL aaU,enL ahv,enT Qr,enL H9]
def wB:Ctx:=CX (ens IU) []
def o9(x y:Pce)(n:Int×Int)(_k:KT):Option (List RV):=og (decide (yM x)) (og (decide (yM y)) (match !(yE x)with|true=>some [RV.d .bool true]|false=>(match !(yE y)with|true=>some [RV.d .bool true]|false=>(og (decide (i8P (mn2 n.1 n.2))) (og (decide (i8P (mx2 n.1 n.2))) (og (decide (fA (hid (eD x)) (hid (eD y))∧ok Rat 1000 (hid (am (Rat.divInt (mn2 n.1 n.2) 4))))) (og (decide (fA (hid (eD y)) (hid (eD x))∧ok Rat 1000 (hid (am (Rat.divInt (mn2 n.1 n.2) 4))))) (match(fd (hid (eD y)) (hid (eD x)) (ah (hid (am (Rat.divInt (mn2 n.1 n.2) 4))))) !=(fd (hid (eD x)) (hid (eD y)) (ah (hid (am (Rat.divInt (mn2 n.1 n.2) 4)))))with|true=>some [RV.d .bool false]|false=>(og (decide (fA (hid (dX (hid (eD x)))) (hid (eD y))∧ok Rat 1000 (hid (am (Rat.divInt (mn2 n.1 n.2) 4))))) (match(fd (hid (dX (hid (eD x)))) (hid (eD y)) (ah (hid (am (Rat.divInt (mn2 n.1 n.2) 4))))) !=(fd (hid (eD x)) (hid (eD y)) (ah (hid (am (Rat.divInt (mn2 n.1 n.2) 4)))))with|true=>some [RV.d .bool false]|false=>(og (decide (fA (hid (eD x)) (hid (dX (hid (eD y))))∧ok Rat 1000 (hid (am (Rat.divInt (mn2 n.1 n.2) 4))))) (match(fd (hid (eD x)) (hid (dX (hid (eD y)))) (ah (hid (am (Rat.divInt (mn2 n.1 n.2) 4))))) !=(fd (hid (eD x)) (hid (eD y)) (ah (hid (am (Rat.divInt (mn2 n.1 n.2) 4)))))with|true=>some [RV.d .bool false]|false=>(og (decide (fA (hid (eD x)) (hid (eD y))∧ok Rat 1000 (hid (am (Rat.divInt (mx2 n.1 n.2) 4))))) (match decide ((fd (hid (eD x)) (hid (eD y)) (ah (hid (am (Rat.divInt (mx2 n.1 n.2) 4)))))≤(fd (hid (eD x)) (hid (eD y)) (ah (hid (am (Rat.divInt (mn2 n.1 n.2) 4))))))with|true=>(match n.1==n.2 with|true=>some [RV.d .bool true]|false=>(match(fd (hid (eD x)) (hid (eD y)) (ah (hid (am (Rat.divInt (mn2 n.1 n.2) 4))))) !=0 with|true=>some [RV.d .bool true]|false=>some [RV.d .bool (decide ((fd (hid (eD x)) (hid (eD y)) (ah (hid (am (Rat.divInt (mx2 n.1 n.2) 4)))))<0))]))|false=>some [RV.d .bool false]))))))))))))))
theorem yj(x y:Pce)(n:Int×Int):RS wB 4 [.d xX x,.d xX y,.d (.st (.pair (.int .i8) (.int .i8))) n] (o9 x y n):=rsX
theorem Ue(x y:Pce)(n:Int×Int)(hx:Ty.ok xX x)(hy:Ty.ok xX y)(hn:Ty.ok (.st (.pair (.int .i8) (.int .i8))) n):Con Tryz.prog 4 [.d xX x,.d xX y,.d (.st (.pair (.int .i8) (.int .i8))) n] [.d .bool true]:=by
 have h1:=PT hx
 have h2:=PT hy
 have h3:=u6 hn.1
 have h4:=u6 hn.2
 refine c7 IU (yj _ _ _ ⟨0,?_⟩)
 unfold o9
 rw[dT h1,dT h2]
 cases ho:yE x
 ·rfl
 ·cases hp:yE y
  ·rfl
  ·have gx:=Ii h1 ho
   have gy:=Ii h2 hp
   simp only[B8,L6]
   have hle:min n.1 n.2≤max n.1 n.2:=by omega
   have k1:i8P (min n.1 n.2):=by unfold i8P at*;omega
   have k2:i8P (max n.1 n.2):=by unfold i8P at*;omega
   have hne:n.1≠n.2→min n.1 n.2<max n.1 n.2:=by omega
   generalize min n.1 n.2=a at*
   generalize max n.1 n.2=b at*
   have o1:=LL k1 (k:=1000) (by decide) (by decide)
   have o2:=LL k2 (k:=1000) (by decide) (by decide)
   have gr:=gx.rev
   have gs:=gy.rev
   obtain⟨m1,m2⟩:=Nu gx gy (Z3 hle)
   simp only[bL,cB,dT k1,dT k2,dT (show fA (eD x) (eD y)∧ok Rat 1000 (am (Rat.divInt a 4)) from⟨⟨gx.1,gy.1⟩,o1⟩),dT (show fA (eD y) (eD x)∧ok Rat 1000 (am (Rat.divInt a 4)) from⟨⟨gy.1,gx.1⟩,o1⟩),dT (show fA (dX (eD x)) (eD y)∧ok Rat 1000 (am (Rat.divInt a 4)) from⟨⟨gr.1,gy.1⟩,o1⟩),dT (show fA (eD x) (dX (eD y))∧ok Rat 1000 (am (Rat.divInt a 4)) from⟨⟨gx.1,gs.1⟩,o1⟩),dT (show fA (eD x) (eD y)∧ok Rat 1000 (am (Rat.divInt b 4)) from⟨⟨gx.1,gy.1⟩,o2⟩),Ae gx gy,Jj gx gy,Vg gx gy,bne_self_eq_false,dT m1]
   by_cases e:n.1=n.2
   ·rw[ama.2 e]
    rfl
   ·rw[am5.2 e]
    by_cases z:fd (eD x) (eD y) (Rat.divInt a 4)=0
    ·rw[z,dT (m2 (adv (hne e)) z)]
     rfl
    ·rw[bne_iff_ne.2 z]
     rfl
section
open Go.ChangeShapes Go.WideShapes Go.ChangeAt Go.WideMaps Go.WideElems Go.RowKit Go.Maps
section
variable {H:Type} {enc:TypeId×Value→H} {P:Program}
theorem yG{f:Func}{s:ChangeSpec}{apart fresh handsOn again:Bool}{W W':World}{args:Array Value}{v:Value}{ds gs:List (DataW H)}{before pa pv:List MemPlace}
  (hW:DataW.Whole enc P f.params.toList s.vars apart W args.toList ds gs before)
  (hres:∀(b:Nat) (sp:Nat→Bool) (hd:Bool),DataW.TrodAll enc P W' b sp hd f.resultTypes.toList (v.resultList f.resultTypes.size) (s.fn H (ds++gs)).results [])
  (hargs:∀sp:Nat→Bool,(∀p∈before,sp p.block=true)→DataW.TrodAll enc P W' 0 sp true f.params.toList args.toList (s.fn H (ds++gs)).args pa)
  (hvars:∀sp:Nat→Bool,(∀p∈before,sp p.block=true)→DataW.TrodVars enc P W' sp s.vars (s.fn H (ds++gs)).vars pv)
  (hps:before=pa++pv) (hb:Below W.heap.size W W')
  (hok:∀(j:Nat) (t:TypeId) (r:Value),f.resultTypes[j]?=some t→(v.resultList f.resultTypes.size)[j]?=some r→Value.okWide P W' .any 0 t r):
  s.post enc P f apart fresh handsOn again W args v W':=by
 have hlt:∀p∈before,p.block<W.heap.size:=fun p hp=>hW.lt p hp
 have hold:∀p∈before,(fun b=>decide (b<W.heap.size)) p.block=true:=fun p hp=>by simpa using hlt p hp
 refine⟨ds,gs,before,[],pa,pv,hW,hres _ _ _,hargs _ hold,hvars _ hold,World.keptBut_mono (fun p hp=>⟨hp,?_⟩) (hb.frame (·∈before)),fun _=>?_⟩
 ·grind
 ·obtain⟨_,_,_,_,_,hz,hn⟩:=hW
  refine⟨hok,_,_,([]++pa)++pv,⟨[]++pa,pv,trodAll_append (hargs _ (fun _ _=>rfl)) (hres _ _ _),hvars _ (fun _ _=>rfl),rfl,?_,?_⟩,?_⟩
  ·intro b off hp
   have hin:MemPlace.cell b off∈before:=by rw[hps];simpa using hp
   rw[hb.frozen (hlt _ hin)]
   exact hz b off hin
  ·grind
  grind
end
theorem QI:laidOutB Tryz.prog=true:=by kernel_rfl
theorem qK{H:Type}{enc:TypeId×Value→H}{P:Program}(hl:laidOutB P=true){W W':World}{sp:Nat→Bool}:∀(ts:List TypeId) (vs:List Value) (ds:List (DataW H)) (ps:List MemPlace),
  (ts.all fun t=>P.readableRec t&&Nat.ble (t+1) P.types.size)=true→DataW.TrodAll enc P W 0 (fun _=>true) true ts vs ds ps→(∀p∈ps,W.sameAt W' p)→(∀p∈ps,sp p.block=true)→DataW.TrodAll enc P W' 0 sp true ts vs ds ps
 |[],vs,ds,ps,_,h,_,_=>by obtain⟨rfl,rfl,rfl⟩:=trodAll_nil h;exact trodAll_mk0
 |t::ts,vs,ds,ps,ht,h,hs,hp=>by
  obtain⟨v,vs',d,ds',p,q,rfl,rfl,rfl,h0,h1⟩:=trodAll_cons h
  simp only[anR,ak7]at ht
  exact trodAll_cons_mk (Trod_stays hl ht.1.1 (ala ht.1.2) h0 (fun x hx=>hs x (amF _ hx)) (fun x hx=>hp x (amF _ hx)))
   (qK hl ts vs' ds' q ht.2 h1 (fun x hx=>hs x (ane _ hx)) (fun x hx=>hp x (ane _ hx)))
set_option maxRecDepth 100000 in
theorem Qj{H:Type}{enc:TypeId×Value→H}{f:Func}{s:ChangeSpec}{apart fresh handsOn again:Bool}{W W':World}{args:Array Value}{ds:List (DataW H)}{before:List MemPlace}
  (hW:DataW.Whole enc Tryz.prog f.params.toList s.vars apart W args.toList ds [] before) (hv:s.vars=[]) (hr:f.resultTypes= #[4]) (hfn:(s.fn H (ds++[])).results=[.lit (.bool true)]∧(s.fn H (ds++[])).args=ds∧(s.fn H (ds++[])).vars=[])
  (hp:(f.params.toList.all fun t=>Tryz.prog.readableRec t&&Nat.ble (t+1) Tryz.prog.types.size)=true) (hb:Below W.heap.size W W'):s.post enc Tryz.prog f apart fresh handsOn again W args (.bool true) W':=by
 have hW':=hW
 obtain⟨p,q,hA,hV,rfl,hfz,hnd⟩:=hW
 have hq:q=[]:=by
  rw[hv]at hV
  exact(trodVars_none hV).2
 subst hq
 have hlt:∀x∈p,x.block<W.heap.size:=fun x hx=>hW'.lt x (by simpa using hx)
 refine yG (pa:=p) (pv:=[]) hW' ?_ ?_ ?_ rfl hb ?_
 ·intro b sp hd
  rw[hr,hfn.1]
  exact trodAll_mk1 (shut_bool Tryz.underlying4 _)
 ·intro sp hsp
  rw[hfn.2.1]
  exact qK QI _ _ _ _ hp hA (fun x hx=>hb.same (hlt x hx)) (fun x hx=>hsp x (by simpa using hx))
 ·intro sp _
  rw[hv,hfn.2.2]
  rfl
 ·exact ok_one hr rfl (okWide_bool_mk (P:=Tryz.prog) Tryz.underlying4 true)
theorem FS{P:Program}{w:World}{r:Reach}{base:Nat}{t e:TypeId}{n:Nat}{v:Value}(ht:P.underlying t=some (.array n e))(h:Value.okWide P w r base t v):∃cs,v=.agg cs∧cs.size=P.cellsOf t:=by
 simp only[Value.okWide,ht]at h
 obtain⟨cs,h1,h2,_⟩:=h
 exact⟨cs,h1,h2⟩
theorem Gd{P:Program}{w:World}{r:Reach}{base:Nat}{t:TypeId}{v:Value}(ht:P.underlying t=some .string)(h:Value.okWide P w r base t v):∃s,v=.string s:=by
 simp only[Value.okWide,ht,Cell.okWide]at h
 cases v<;>simp_all [Cell.ok]
theorem xT{H:Type}{enc:TypeId×Value→H}{P:Program}{w:World}{r:Reach}{b0 base:Nat}{spare:Nat→Bool}{held:Bool}{v:Value}{d:DataW H}{p:List MemPlace}{t:TypeId}(n:Nat)(ty:Ty)(hrep:rep P n t ty=true)(hv:Value.okWide P w r b0 t v)(h:DataW.Trod enc P w base spare held t v d p):
  ∃y:ty.D,Rel1 [] (fun _=>True) w (.d ty y) v∧ty.ok y:=by
 obtain⟨fuel,hf⟩:=h
 have fin:v.cells.toList.length=ty.n→v=mkV ty v.cells.toList→∃y:ty.D,Rel1 [] (fun _=>True) w (.d ty y) v∧ty.ok y:=fun hl hm=>by
  obtain⟨y,h1,h2⟩:=(VM ty).1 n t hrep fuel _ _ hl hf
  exact⟨y,⟨_,h1,hm⟩,h2⟩
 cases n with
 |zero=>simp[rep]at hrep
 |succ n=>
  have hrep':=hrep
  unfold rep at hrep'
  split at hrep'<;>try (cases hrep';done)
  ·rename_i hu;obtain⟨m,rfl⟩:=okWide_int hu hv;exact fin rfl rfl
  ·rename_i hu;obtain⟨m,rfl⟩:=okWide_bool hu hv;exact fin rfl rfl
  ·rename_i hu;obtain⟨m,rfl⟩:=Gd hu hv;exact fin rfl rfl
  ·rename_i hu;obtain⟨q,m,c,rfl⟩:=okWide_slice hu hv;exact fin rfl rfl
  ·rename_i hu
   obtain⟨cs,rfl,hsz⟩:=okWide_struct hu hv
   simp only[ak7]at hrep'
   exact fin (by simp only[Value.cells,Array.length_toList,hsz];exact ak8 hrep'.2) (by simp[mkV,Ty.isSt,Value.cells])
  ·rename_i hu
   obtain⟨cs,rfl,hsz⟩:=FS hu hv
   simp only[ak7]at hrep'
   exact fin (by simp only[Value.cells,Array.length_toList,hsz];exact ak8 hrep'.2) (by simp[mkV,Ty.isSt,Value.cells])
end
end Go.Proofs.YtnkndpoojnflmaaGreat
end
namespace Go.Proofs.YtnkndpoojnflmaaGreat.lawClearanceSymmetric
open Go.ChangeShapes Go.WideShapes Go.ChangeAt Go.RowKit
set_option maxRecDepth 100000 in
theorem contract(H:Type)(enc:TypeId×Value→H)(W:World)(base:Nat)(args:Array Value)(ds gs:List (DataW H))(before:List MemPlace)
  (hval:∀(j:Nat) t v,Tryz.f4.params[j]?=some t→args[j]?=some v→Value.okWide Tryz.prog W .any base t v)
  (hW:DataW.Whole enc Tryz.prog Tryz.f4.params.toList Rows.clearanceSymmetricSpec.vars false W args.toList ds gs before):
  Calls Tryz.prog 4 args W fun e W'=>∃v,e=.returned v∧Rows.clearanceSymmetricSpec.post enc Tryz.prog Tryz.f4 false true false false W args v W':=by
 have hW':=hW
 obtain⟨p,q,hA0,hV,rfl,hfz,hnd⟩:=hW
 have hA:DataW.TrodAll enc Tryz.prog W 0 (fun _=>true) true Tryz.f4.params.toList args.toList ds p:=hA0
 rw[Tryz.params4]at hA hval
 obtain⟨v0,vs0,d0,ds0,p0,q0,e0,rfl,rfl,h0,r0⟩:=trodAll_cons hA
 obtain⟨v1,vs1,d1,ds1,p1,q1,e1,rfl,rfl,h1,r1⟩:=trodAll_cons r0
 obtain⟨v2,vs2,d2,ds2,p2,q2,e2,rfl,rfl,h2,r2⟩:=trodAll_cons r1
 obtain⟨en,rfl,rfl⟩:=trodAll_nil r2
 obtain rfl:args= #[v0,v1,v2]:=by cases args;simp_all
 obtain⟨rfl,rfl⟩:=trodVars_none hV
 obtain⟨y0,s0,k0⟩:=xT 12 (xX) (by kernel_rfl) (hval 0 26 v0 rfl rfl) h0
 obtain⟨y1,s1,k1⟩:=xT 12 (xX) (by kernel_rfl) (hval 1 26 v1 rfl rfl) h1
 obtain⟨y2,s2,k2⟩:=xT 12 (.st (.pair (.int .i8) (.int .i8))) (by kernel_rfl) (hval 2 46 v2 rfl rfl) h2
 clear hA0
 refine(Ue y0 y1 y2 k0 k1 k2 (fun _=>True) W [v0,v1,v2] M8 ⟨s0,s1,s2,trivial⟩).mono ?_
 rintro e W' ⟨v,rfl,hb,hres⟩
 have hv:v=.bool true:=sG (G:=[]) (eO hres)
 subst hv
 exact⟨_,rfl,Qj hW' rfl (by kernel_rfl) ⟨rfl,rfl,rfl⟩ (by kernel_rfl) hb⟩
set_option maxRecDepth 100000 in
theorem lifted(os:Os)(started:os.Started)(H:Type)(enc:TypeId×Value→H):
  ReturnsInHanded {} Tryz.checked os 4 .any (Rows.clearanceSymmetricSpec.pre6 enc Tryz.prog Tryz.f4 Rows.clearanceSymmetricRow.domain false) (Rows.clearanceSymmetricSpec.post enc Tryz.prog Tryz.f4 false true false false):=by
 refine returnsInHanded_of_change (C:=Tryz.checked) M9 started (by kernel_rfl) Tryz.func4
  (ChangeSpec.witness6 (enc:=enc) (C:=Tryz.checked) false ⟨#[],#[.agg #[.int .u8 0,.int .u8 0,.int .i8 0,.int .i8 0,.int .i8 0,.int .i8 0,.int .i8 0,.int .i8 0,.int .u8 0,.int .u8 0,.int .i8 0,.int .i8 0,.int .i8 0,.int .i8 0,.int .i8 0,.int .i8 0,.int .u8 0],.agg #[.int .u8 0,.int .u8 0,.int .i8 0,.int .i8 0,.int .i8 0,.int .i8 0,.int .i8 0,.int .i8 0,.int .u8 0,.int .u8 0,.int .i8 0,.int .i8 0,.int .i8 0,.int .i8 0,.int .i8 0,.int .i8 0,.int .u8 0],.agg #[.int .i8 0,.int .i8 0]],[]⟩ 8 (by kernel_rfl) (by kernel_rfl) (by kernel_rfl) (by kernel_rfl)) ?_
 intro W base args ds gs before hval hW _ _
 exact contract H enc W base args ds gs before hval hW
end Go.Proofs.YtnkndpoojnflmaaGreat.lawClearanceSymmetric
namespace Go.Proofs.YtnkndpoojnflmaaGreat.lawClearanceSymmetric
open Go.ChangeShapes Go.WideShapes Go.ChangeAt Go.RowKit
set_option maxRecDepth 100000 in
theorem akh:(Rows.clearanceSymmetricRow.inPlace==Tryz.prog.inPlace 4)=true:=by kernel_rfl
set_option maxRecDepth 100000 in
theorem ajx:(Rows.clearanceSymmetricRow.unfollowed==Tryz.prog.unfollowed 4)=true:=by kernel_rfl
set_option maxRecDepth 100000 in
theorem akD:(Rows.clearanceSymmetricRow.recurses==Tryz.prog.recurses 4)=true:=by kernel_rfl
set_option maxRecDepth 100000 in
theorem ako:(Rows.clearanceSymmetricRow.named==Tryz.prog.varsNamed 4)=true:=by kernel_rfl
set_option maxRecDepth 100000 in
theorem kf2:(laidOutB Tryz.prog)=true:=by kernel_rfl
set_option maxRecDepth 100000 in
theorem ajC:(Tryz.prog.mayEnter)=true:=by kernel_rfl
theorem gW{a b:Bool}(h:a=true)(h':b=true):(a&&b)=true:=by rw[h,h'];rfl
set_option maxRecDepth 100000 in
theorem abx:joinedFacts Tryz.prog 4 Tryz.f4 Rows.clearanceSymmetricSpec Rows.clearanceSymmetricRow=true:=by
 unfold joinedFacts
 exact(gW (gW (gW (gW (gW (gW (gW (gW (gW (gW (gW (gW (gW (gW (gW (gW (gW (gW (gW (gW (gW (gW (gW (gW (gW (gW (gW (gW (gW (gW (gW (by kernel_rfl) kf2) (by kernel_rfl)) (by kernel_rfl)) (by kernel_rfl)) (by kernel_rfl)) (by kernel_rfl)) (by kernel_rfl)) (by kernel_rfl)) akh) ajx) akD) ako) (by kernel_rfl)) (by kernel_rfl)) (by kernel_rfl)) (by kernel_rfl)) (by kernel_rfl)) (by kernel_rfl)) (by kernel_rfl)) (by kernel_rfl)) (by kernel_rfl)) (by kernel_rfl)) (by kernel_rfl)) (by kernel_rfl)) ajC) (by kernel_rfl)) (by kernel_rfl)) (by kernel_rfl)) (by kernel_rfl)) (by kernel_rfl)) (by kernel_rfl))
theorem proved:Rows.ClearanceSymmetricSaid:=
 OpenClaim.holds_of_wide 4 Tryz.f4 rfl rfl rfl rfl rfl rfl rfl ⟨rfl,rfl,rfl,rfl,rfl⟩ rfl rfl rfl rfl rfl (by kernel_rfl) Tryz.func4 abx
  (of_decide_eq_true (by kernel_rfl)) (by unfold Func.isWrapper;first|(rw[if_pos (by decide+kernel)];kernel_rfl)|(rw[if_neg (by decide+kernel)];exact⟨rfl,rfl⟩))
  (fun os started H enc _=>lifted os started H enc)
end Go.Proofs.YtnkndpoojnflmaaGreat.lawClearanceSymmetric
