/- The examples of the chapter on clearance. -/
import Derived.Test.YtnkndpoojnflmaaGreatA19
import Derived.Test.YtnkndpoojnflmaaGreatA18
import Derived.Stop.Joined
noncomputable section
namespace Go.Proofs.YtnkndpoojnflmaaGreat
open Go.RowKit Go.IntKind
section
open RE
abbrev sgC(a b:Rat×Rat):Cv:=(false,sI a b,dec o00,false,atP a,atP b)
abbrev arC(a b c:Rat×Rat):Cv:=(true,dec o00,qG a b c,decide (xH a b c<0),atP a,atP c)
abbrev fuA(c:Ln):Cv:=(true,dec o00,c,false,ml c,mg c)
abbrev fuB(c:Ln):Cv:=(true,dec o00,c,false,mg c,ml c)
theorem SD{a b:Rat×Rat}(h:yN a b=false):dC (jG a b)=sgC a b:=by
 unfold jG dC;rw[h];simp only[cond_false,az]
theorem aaP{a b c:Rat×Rat}(h:eV a b c≠0):dC (me a b c)=arC a b c:=by
 unfold me dC;rw[dF h];simp only[cond_false,az]
theorem sX{c:BCU}(h:gdN c):c.2.2.2.2.1=enc (frC (dC c))∧c.2.2.2.2.2=enc (toC (dC c)):=
 ⟨(Cod.ok_dec _ _ h.fr.1).1,(Cod.ok_dec _ _ h.to.1).1⟩
theorem lw{c d:BCU}(hc:gdN c)(hd:gdN d){c' d':Cv}(ec:dC c=c')(ed:dC d=d')(hs:cY c' d'=false)(hm:abQ c' d'=[]){r:Rat}(hr:decide (r<0)=false):pE c d r=u6 c' d' r:=by
 subst ec ed;have e:lg c d=[]:=by rw[Lw (sX hc).1 (sX hc).2 (sX hd).1 (sX hd).2,hm];rfl
 have n:qJ c d=false:=by unfold qJ;rw[hs];rfl
 unfold pE Ku;rw[e,n,hr];rfl
theorem AJ{d:BCU}(hd:gdN d){p:Pt}{v:Rat×Rat}(e:p=atP v)(hv:Bd v 200)(r:Rat):poiE (dC d) (pR p) r=qY (dC d) v r:=by
 rw[e,oD];exact Wn hd.e (Bm (bv:=hv) hd.1.1).2 r
theorem lK{c d:BCU}(hc:gdN c)(hd:gdN d){a b u w:Rat×Rat}(ba:Bd a 200)(bb:Bd b 200)(bu:Bd u 200)(bw:Bd w 200)(e1:frC (dC c)=atP a)(e2:toC (dC c)=atP b)(e3:frC (dC d)=atP u)(e4:toC (dC d)=atP w)(r:Rat):
  ng (dC c) (dC d) r=min (min (min (qY (dC d) a r) (qY (dC d) b r)) (qY (dC c) u r)) (qY (dC c) w r):=by
 unfold ng;rw[AJ hd e1 ba,AJ hd e2 bb,AJ hc e3 bu,AJ hc e4 bw]
abbrev v00:Rat×Rat:=vcR 0 0
theorem adt:Bd v00 1:=⟨⟨⟨by decide+kernel,by decide+kernel⟩,⟨by decide+kernel,by decide+kernel⟩⟩⟩
theorem alZ:Bd v00 200:=adt.mono (by decide)
abbrev v40:Rat×Rat:=vcR 4 0
theorem ach:Bd v40 1:=⟨⟨⟨by decide+kernel,by decide+kernel⟩,⟨by decide+kernel,by decide+kernel⟩⟩⟩
theorem al5:Bd v40 200:=ach.mono (by decide)
abbrev v13:Rat×Rat:=vcR 1 3
theorem abI:Bd v13 1:=⟨⟨⟨by decide+kernel,by decide+kernel⟩,⟨by decide+kernel,by decide+kernel⟩⟩⟩
theorem akQ:Bd v13 200:=abI.mono (by decide)
abbrev v19:Rat×Rat:=vcR 1 9
theorem aa9:Bd v19 1:=⟨⟨⟨by decide+kernel,by decide+kernel⟩,⟨by decide+kernel,by decide+kernel⟩⟩⟩
theorem aky:Bd v19 200:=aa9.mono (by decide)
abbrev v10:Rat×Rat:=vcR 1 0
theorem ac9:Bd v10 1:=⟨⟨⟨by decide+kernel,by decide+kernel⟩,⟨by decide+kernel,by decide+kernel⟩⟩⟩
theorem aiG:Bd v10 200:=ac9.mono (by decide)
abbrev v01:Rat×Rat:=vcR 0 1
theorem alo:Bd v01 1:=⟨⟨⟨by decide+kernel,by decide+kernel⟩,⟨by decide+kernel,by decide+kernel⟩⟩⟩
abbrev vm1:Rat×Rat:=vcR (-1) 0
theorem ad2:Bd vm1 1:=⟨⟨⟨by decide+kernel,by decide+kernel⟩,⟨by decide+kernel,by decide+kernel⟩⟩⟩
theorem ajC:Bd vm1 200:=ad2.mono (by decide)
abbrev v30:Rat×Rat:=vcR 3 0
theorem ad3:Bd v30 1:=⟨⟨⟨by decide+kernel,by decide+kernel⟩,⟨by decide+kernel,by decide+kernel⟩⟩⟩
theorem Km:Bd v30 200:=ad3.mono (by decide)
abbrev v03:Rat×Rat:=vcR 0 3
theorem amf:Bd v03 1:=⟨⟨⟨by decide+kernel,by decide+kernel⟩,⟨by decide+kernel,by decide+kernel⟩⟩⟩
abbrev vm3:Rat×Rat:=vcR (-3) 0
theorem adS:Bd vm3 1:=⟨⟨⟨by decide+kernel,by decide+kernel⟩,⟨by decide+kernel,by decide+kernel⟩⟩⟩
theorem akV:Bd vm3 200:=adS.mono (by decide)
abbrev vm5:Rat×Rat:=vcR (-5) 3
theorem acT:Bd vm5 1:=⟨⟨⟨by decide+kernel,by decide+kernel⟩,⟨by decide+kernel,by decide+kernel⟩⟩⟩
theorem al2:Bd vm5 200:=acT.mono (by decide)
abbrev v53:Rat×Rat:=vcR 5 3
theorem adg:Bd v53 1:=⟨⟨⟨by decide+kernel,by decide+kernel⟩,⟨by decide+kernel,by decide+kernel⟩⟩⟩
theorem ald:Bd v53 200:=adg.mono (by decide)
abbrev vm2:Rat×Rat:=vcR (-2) 0
theorem akS:Bd vm2 1:=⟨⟨⟨by decide+kernel,by decide+kernel⟩,⟨by decide+kernel,by decide+kernel⟩⟩⟩
theorem LQ:Bd vm2 200:=akS.mono (by decide)
abbrev v20:Rat×Rat:=vcR 2 0
theorem alq:Bd v20 1:=⟨⟨⟨by decide+kernel,by decide+kernel⟩,⟨by decide+kernel,by decide+kernel⟩⟩⟩
theorem M5:Bd v20 200:=alq.mono (by decide)
abbrev v90:Rat×Rat:=vcR 9 0
theorem alK:Bd v90 1:=⟨⟨⟨by decide+kernel,by decide+kernel⟩,⟨by decide+kernel,by decide+kernel⟩⟩⟩
theorem Lm:Bd v90 200:=alK.mono (by decide)
abbrev lF:Ln:=(((0:Int):Rat),((0:Int):Rat),((4:Int):Rat))
abbrev lG:Ln:=(((6:Int):Rat),((0:Int):Rat),((9:Int):Rat))
theorem blF:BdC lF:=⟨⟨by decide+kernel,by decide+kernel⟩,⟨by decide+kernel,by decide+kernel⟩,⟨by decide+kernel,by decide+kernel⟩⟩
theorem blG:BdC lG:=⟨⟨by decide+kernel,by decide+kernel⟩,⟨by decide+kernel,by decide+kernel⟩,⟨by decide+kernel,by decide+kernel⟩⟩
theorem gS1:gdN (jG v00 v40):=AX (ba:=adt) (bb:=ach) (by decide+kernel)
theorem dS1:dC (jG v00 v40)=sgC v00 v40:=SD (by decide+kernel)
theorem gS2:gdN (jG v13 v19):=AX (ba:=abI) (bb:=aa9) (by decide+kernel)
theorem dS2:dC (jG v13 v19)=sgC v13 v19:=SD (by decide+kernel)
theorem gS3:gdN (jG vm5 v53):=AX (ba:=acT) (bb:=adg) (by decide+kernel)
theorem dS3:dC (jG vm5 v53)=sgC vm5 v53:=SD (by decide+kernel)
theorem gH1:gdN (me v10 v01 vm1):=by
 have:=ac9;have:=ad2;exact Fx (bc:=⟨⟨by decide+kernel,by decide+kernel⟩,⟨by decide+kernel,by decide+kernel⟩,⟨by decide+kernel,by decide+kernel⟩⟩) (by decide+kernel)
theorem dH1:dC (me v10 v01 vm1)=arC v10 v01 vm1:=aaP (by decide+kernel)
theorem gH3:gdN (me v30 v03 vm3):=by
 have:=ad3;have:=adS;exact Fx (bc:=⟨⟨by decide+kernel,by decide+kernel⟩,⟨by decide+kernel,by decide+kernel⟩,⟨by decide+kernel,by decide+kernel⟩⟩) (by decide+kernel)
theorem dH3:dC (me v30 v03 vm3)=arC v30 v03 vm3:=aaP (by decide+kernel)
theorem c12:pE (jG v00 v40) (jG v13 v19) ((3:Int):Rat)=0:=by
 rw[lw gS1 gS2 dS1 dS2 (by decide+kernel) (by decide+kernel) (by decide+kernel)];have:=lK gS1 gS2 alZ al5 akQ aky (by rw[dS1];rfl) (by rw[dS1];rfl) (by rw[dS2];rfl) (by rw[dS2];rfl) ((3:Int):Rat);rw[dS1,dS2]at this;unfold u6;rw[this];decide+kernel
theorem cHH:pE (me v10 v01 vm1) (me v30 v03 vm3) ((2:Int):Rat)=0:=by
 rw[lw gH1 gH3 dH1 dH3 (by decide+kernel) (by decide+kernel) (by decide+kernel)];have:=lK gH1 gH3 aiG ajC Km akV (by rw[dH1];rfl) (by rw[dH1];rfl) (by rw[dH3];rfl) (by rw[dH3];rfl) ((2:Int):Rat);rw[dH1,dH3]at this;unfold u6;rw[this];decide+kernel
theorem cHS:pE (me v10 v01 vm1) (jG vm5 v53) ((2:Int):Rat)=0:=by
 rw[lw gH1 gS3 dH1 dS3 (by decide+kernel) (by decide+kernel) (by decide+kernel)];have:=lK gH1 gS3 aiG ajC al2 ald (by rw[dH1];rfl) (by rw[dH1];rfl) (by rw[dS3];rfl) (by rw[dS3];rfl) ((2:Int):Rat);rw[dH1,dS3]at this;unfold u6;rw[this];decide+kernel
abbrev kF1:BCU:=(true,o00,enc lF,false,enc (ml lF),enc (mg lF))
abbrev kF2:BCU:=(true,o00,enc lF,false,enc (mg lF),enc (ml lF))
abbrev kG1:BCU:=(true,o00,enc lG,false,enc (ml lG),enc (mg lG))
abbrev kG2:BCU:=(true,o00,enc lG,false,enc (mg lG),enc (ml lG))
theorem fF:vz (enc lF)=[kF1,kF2]:=by unfold vz;rw[az]
theorem fG:vz (enc lG)=[kG1,kG2]:=by unfold vz;rw[az]
theorem F4:gdN kF1:=wZ (bc:=blF) (by decide+kernel) _ (by rw[fF];simp)
theorem vI:dC kF1=fuA lF:=by unfold dC;simp only[az]
theorem Ni:gdN kF2:=wZ (bc:=blF) (by decide+kernel) _ (by rw[fF];simp)
theorem DR:dC kF2=fuB lF:=by unfold dC;simp only[az]
theorem FF:gdN kG1:=wZ (bc:=blG) (by decide+kernel) _ (by rw[fG];simp)
theorem vD:dC kG1=fuA lG:=by unfold dC;simp only[az]
theorem ML:gdN kG2:=wZ (bc:=blG) (by decide+kernel) _ (by rw[fG];simp)
theorem El:dC kG2=fuB lG:=by unfold dC;simp only[az]
theorem Vv:nrZ kF1 ((1:Int):Rat) kG1=false:=by
 unfold nrZ;rw[lw F4 FF vI vD (by decide+kernel) (by decide+kernel) (by decide+kernel)];have:=lK F4 FF LQ M5 Km Lm (by rw[vI];decide+kernel) (by rw[vI];decide+kernel) (by rw[vD];decide+kernel) (by rw[vD];decide+kernel) ((1:Int):Rat);rw[vI,vD]at this;unfold u6;rw[this];decide+kernel
theorem U1:nrZ kF1 ((1:Int):Rat) kG2=false:=by
 unfold nrZ;rw[lw F4 ML vI El (by decide+kernel) (by decide+kernel) (by decide+kernel)];have:=lK F4 ML LQ M5 Lm Km (by rw[vI];decide+kernel) (by rw[vI];decide+kernel) (by rw[El];decide+kernel) (by rw[El];decide+kernel) ((1:Int):Rat);rw[vI,El]at this;unfold u6;rw[this];decide+kernel
theorem UO:nrZ kF2 ((1:Int):Rat) kG1=false:=by
 unfold nrZ;rw[lw Ni FF DR vD (by decide+kernel) (by decide+kernel) (by decide+kernel)];have:=lK Ni FF M5 LQ Km Lm (by rw[DR];decide+kernel) (by rw[DR];decide+kernel) (by rw[vD];decide+kernel) (by rw[vD];decide+kernel) ((1:Int):Rat);rw[DR,vD]at this;unfold u6;rw[this];decide+kernel
theorem Tk:nrZ kF2 ((1:Int):Rat) kG2=false:=by
 unfold nrZ;rw[lw Ni ML DR El (by decide+kernel) (by decide+kernel) (by decide+kernel)];have:=lK Ni ML M5 LQ Lm Km (by rw[DR];decide+kernel) (by rw[DR];decide+kernel) (by rw[El];decide+kernel) (by rw[El];decide+kernel) ((1:Int):Rat);rw[DR,El]at this;unfold u6;rw[this];decide+kernel
theorem akD:nrZ kF1 (Rat.divInt 11 10) kG1=true:=by
 unfold nrZ;rw[lw F4 FF vI vD (by decide+kernel) (by decide+kernel) (by decide+kernel)];have:=lK F4 FF LQ M5 Km Lm (by rw[vI];decide+kernel) (by rw[vI];decide+kernel) (by rw[vD];decide+kernel) (by rw[vD];decide+kernel) (Rat.divInt 11 10);rw[vI,vD]at this;unfold u6;rw[this];decide+kernel
theorem fi1:decide (AG [kF1,kF2] [kG1,kG2] ((1:Int):Rat)<0)=true:=by
 unfold AG CQ9 CQ9 CQ9 FO;simp only[apG,List.any_nil,Vv,U1,UO,Tk,Bool.or_false,Bool.not_false,Bool.not_true,cond_false];rfl
theorem fi2:decide (AG [kF1,kF2] [kG1,kG2] (Rat.divInt 11 10)<0)=false:=by
 unfold AG CQ9 FO;simp only[apG,akD,Bool.true_or,Bool.not_true,Bool.not_false,cond_true];rfl
theorem mGF:∀x∈[kF1,kF2],mG x:=by
 intro x hx;simp only[amT,anZ,apn]at hx;rcases hx with e|e<;>rw[e]
 ·exact F4.1
 ·exact Ni.1
theorem mGG:∀x∈[kG1,kG2],mG x:=by
 intro x hx;simp only[amT,anZ,apn]at hx;rcases hx with e|e<;>rw[e]
 ·exact FF.1
 ·exact ML.1
theorem okZ{n:Int}(h:aG n):ok Rat 1000 (ak (n:Rat)):=by
 have:=bS h;exact amH (okd (by decide) (by decide))
def IP:List En:=[enL kD,enL Li]
def Zi(x y:Int)(_k:KT):OLR:=og (decide (aG x)) (og (decide (aG y)) (some [RV.d tV (hid (ak (x:Rat)),hid (ak (y:Rat)))]))
def afE:Cn 80 [apY,apY]:=cn fun(x y:Int)=>lf (aG x∧aG y) [.d tV (enc (vcR x y))] fun h=>by
 refine aA IP (Zi x y) ⟨0,?_⟩;unfold Zi;rw[dT h.1,dT h.2];simp only[bK];rfl
def ZN(a b:BV)(_k:KT):OLR:=og (decide (ok (Rat×Rat) 100 a∧ok (Rat×Rat) 100 b)) (some [RV.d tCU (hid (jG (dec a) (dec b)))])
def aiL:Cn 76 [tV,tV]:=cn fun(a b:BV)=>lf (ok (Rat×Rat) 100 a∧ok (Rat×Rat) 100 b) [.d tCU (jG (dec a) (dec b))] fun h=>by
 refine aA IP (ZN a b) ⟨0,?_⟩;unfold ZN;rw[dT h];simp only[bK]
def IC:List En:=[enL kD,enL aiL,enL afE,enL MF,enT SP,enL Zy,enF aiz,enL BE]
def PN:NT:=[((12,3),{keep:=[3,4,5,7],hl:=0}),((12,5),{keep:=[1,8,9,10,12],hl:=0}),((12,7),{keep:=[1,2,13,14,15,16,18,19,20,21,22,25,26,27,28,29,32,33,34,35,36,38,39,40,41,42],hl:=0})]
def Vt:Ctx:=CX (ens IC) PN
def If(_k:KT):OLR:=let y1:=ak ((0:Int):Rat);let y2:=hid (enc (vcR (0:Int) (0:Int)));let y3:=hid (enc (vcR (4:Int) (0:Int)));let y4:=hid (enc (vcR (1:Int) (3:Int)));let y5:=hid (enc (vcR (1:Int) (9:Int)));let y6:=hid (jG (dec y2) (dec y3));let y7:=hid (jG (dec y4) (dec y5));let y8:=hid (ak ((3:Int):Rat));let y9:=i64.wrap (0+1);let y10:=i64.wrap (0-1);let y11:=hid (enc (vcR y9 (0:Int)));let y12:=hid (enc (vcR (0:Int) y9));let y13:=hid (enc (vcR y10 (0:Int)));let y14:=i64.wrap (0+3);let y15:=i64.wrap (0-3);let y16:=hid (enc (vcR y14 (0:Int)));let y17:=hid (enc (vcR (0:Int) y14));let y18:=hid (enc (vcR y15 (0:Int)));let y19:=hid (me (dec y11) (dec y12) (dec y13));let y20:=hid (me (dec y16) (dec y17) (dec y18));let y21:=hid (ak ((2:Int):Rat));let y22:=hid (enc (vcR ((-5):Int) (3:Int)));let y23:=hid (enc (vcR (5:Int) (3:Int)));let y24:=hid (jG (dec y22) (dec y23));let y25:=vz (hid y1,(hid y1,hid (ak ((4:Int):Rat))));let y26:=vz (hid (ak ((6:Int):Rat)),(hid y1,hid (ak ((9:Int):Rat))));let y27:=hid (ak ((1:Int):Rat));let y28:=hid (ak (Rat.divInt (11:Int) (10:Int)));og (decide (aG (0:Int))) (og (decide (aG (0:Int))) (og (decide (aG (4:Int))) (og (decide (cp (hid y1,(hid y1,hid (ak ((4:Int):Rat)))))) (og (decide (aG (6:Int))) (og (decide (aG (0:Int))) (og (decide (aG (9:Int))) (og (decide (cp (hid (ak ((6:Int):Rat)),(hid y1,hid (ak ((9:Int):Rat)))))) (og (decide (aG (0:Int)∧aG (0:Int))) (og (decide (aG (4:Int)∧aG (0:Int))) (og (decide (ok (Rat×Rat) 100 y2∧ok (Rat×Rat) 100 y3)) (og (decide (aG (1:Int)∧aG (3:Int))) (og (decide (aG (1:Int)∧aG (9:Int))) (og (decide (ok (Rat×Rat) 100 y4∧ok (Rat×Rat) 100 y5)) (og (decide (aG (3:Int))) (og (decide (fy y6 y7∧ok Rat 1000 y8)) (match(pE y6 y7 (ag y8))==0 with|true=>(og (decide (aG y9∧aG (0:Int))) (og (decide (aG (0:Int)∧aG y9)) (og (decide (aG y10∧aG (0:Int))) (og (decide (ok (Rat×Rat) 100 y11∧ok (Rat×Rat) 100 y12∧ok (Rat×Rat) 100 y13)) (og (decide (aG y14∧aG (0:Int))) (og (decide (aG (0:Int)∧aG y14)) (og (decide (aG y15∧aG (0:Int))) (og (decide (ok (Rat×Rat) 100 y16∧ok (Rat×Rat) 100 y17∧ok (Rat×Rat) 100 y18)) (og (decide (aG (2:Int))) (og (decide (fy y19 y20∧ok Rat 1000 y21)) (match(pE y19 y20 (ag y21))==0 with|true=>(og (decide (aG y9∧aG (0:Int))) (og (decide (aG (0:Int)∧aG y9)) (og (decide (aG y10∧aG (0:Int))) (og (decide (ok (Rat×Rat) 100 y11∧ok (Rat×Rat) 100 y12∧ok (Rat×Rat) 100 y13)) (og (decide (aG ((-5):Int)∧aG (3:Int))) (og (decide (aG (5:Int)∧aG (3:Int))) (og (decide (ok (Rat×Rat) 100 y22∧ok (Rat×Rat) 100 y23)) (og (decide (aG (2:Int))) (og (decide (fy y19 y24∧ok Rat 1000 y21)) (match(pE y19 y24 (ag y21))==0 with|true=>(og (decide (aG (1:Int))) (og (decide (Cm y25 y26 y27)) (match decide (AG y25 y26 (ag y27)<0)with|true=>(og (decide (yT (11:Int) (10:Int))) (og (decide (Cm y25 y26 y28)) (some [RV.d .bool (!(decide (AG y25 y26 (ag y28)<0)))])))|false=>some [RV.d .bool false])))|false=>some [RV.d .bool false]))))))))))|false=>some [RV.d .bool false])))))))))))|false=>some [RV.d .bool false]))))))))))))))))
theorem U4:RS Vt 12 [] (If):=rsX
def Wj:Cn 12 []:=cn<|lf True [.d .bool true] fun _=>by
 have i0:decide (aG 0)=true:=by decide
 have i1:decide (aG 1)=true:=by decide
 have i2:decide (aG 2)=true:=by decide
 have i3:decide (aG 3)=true:=by decide
 have i4:decide (aG 4)=true:=by decide
 have i6:decide (aG 6)=true:=by decide
 have i9:decide (aG 9)=true:=by decide
 have i5:decide (aG 5)=true:=by decide
 have jv00:decide (aG (0)∧aG (0))=true:=by decide
 have jv40:decide (aG (4)∧aG (0))=true:=by decide
 have jv13:decide (aG (1)∧aG (3))=true:=by decide
 have jv19:decide (aG (1)∧aG (9))=true:=by decide
 have jv10:decide (aG (1)∧aG (0))=true:=by decide
 have jv01:decide (aG (0)∧aG (1))=true:=by decide
 have jvm1:decide (aG (-1)∧aG (0))=true:=by decide
 have jv30:decide (aG (3)∧aG (0))=true:=by decide
 have jv03:decide (aG (0)∧aG (3))=true:=by decide
 have jvm3:decide (aG (-3)∧aG (0))=true:=by decide
 have jvm5:decide (aG (-5)∧aG (3))=true:=by decide
 have jv53:decide (aG (5)∧aG (3))=true:=by decide
 have jvm2:decide (aG (-2)∧aG (0))=true:=by decide
 have jv20:decide (aG (2)∧aG (0))=true:=by decide
 have jv90:decide (aG (9)∧aG (0))=true:=by decide
 have o1:decide (ok (Rat×Rat) 100 (enc v00)∧ok (Rat×Rat) 100 (enc v40))=true:=dT ⟨amH (okd (h:=adt) (by decide) (by decide)),amH (okd (h:=ach) (by decide) (by decide))⟩;have o2:decide (ok (Rat×Rat) 100 (enc v13)∧ok (Rat×Rat) 100 (enc v19))=true:=dT ⟨amH (okd (h:=abI) (by decide) (by decide)),amH (okd (h:=aa9) (by decide) (by decide))⟩;have o3:decide (ok (Rat×Rat) 100 (enc vm5)∧ok (Rat×Rat) 100 (enc v53))=true:=dT ⟨amH (okd (h:=acT) (by decide) (by decide)),amH (okd (h:=adg) (by decide) (by decide))⟩;have o4:decide (ok (Rat×Rat) 100 (enc v10)∧ok (Rat×Rat) 100 (enc v01)∧ok (Rat×Rat) 100 (enc vm1))=true:=dT ⟨amH (okd (h:=ac9) (by decide) (by decide)),amH (okd (h:=alo) (by decide) (by decide)),amH (okd (h:=ad2) (by decide) (by decide))⟩;have o5:decide (ok (Rat×Rat) 100 (enc v30)∧ok (Rat×Rat) 100 (enc v03)∧ok (Rat×Rat) 100 (enc vm3))=true:=dT ⟨amH (okd (h:=ad3) (by decide) (by decide)),amH (okd (h:=amf) (by decide) (by decide)),amH (okd (h:=adS) (by decide) (by decide))⟩;have m1:decide (fy (jG v00 v40) (jG v13 v19)∧ok Rat 1000 (ak ((3:Int):Rat)))=true:=dT ⟨⟨gS1.1,gS2.1⟩,okZ (by decide)⟩;have m2:decide (fy (me v10 v01 vm1) (me v30 v03 vm3)∧ok Rat 1000 (ak ((2:Int):Rat)))=true:=dT ⟨⟨gH1.1,gH3.1⟩,okZ (by decide)⟩;have m3:decide (fy (me v10 v01 vm1) (jG vm5 v53)∧ok Rat 1000 (ak ((2:Int):Rat)))=true:=dT ⟨⟨gH1.1,gS3.1⟩,okZ (by decide)⟩;have f1:decide (Cm [kF1,kF2] [kG1,kG2] (ak ((1:Int):Rat)))=true:=dT ⟨mGF,mGG,by decide,by decide,okZ (by decide)⟩;have f2:decide (Cm [kF1,kF2] [kG1,kG2] (ak (Rat.divInt 11 10)))=true:=dT ⟨mGF,mGG,by decide,by decide,by have:=bQ 11 10 (by decide);exact amH (okd (by decide) (by decide))⟩;have q1:decide (yT 11 10)=true:=by decide
 have l1:((ak ((0:Int):Rat),(ak ((0:Int):Rat),ak ((4:Int):Rat))):BO3)=enc lF:=rfl;have l2:((ak ((6:Int):Rat),(ak ((0:Int):Rat),ak ((9:Int):Rat))):BO3)=enc lG:=rfl;have k1:decide (cp (enc lF))=true:=dT (gQ (h:=blF) (by decide+kernel));have k2:decide (cp (enc lG))=true:=dT (gQ (h:=blG) (by decide+kernel));have w1:i64.wrap (0+1)=1:=by decide
 have w2:i64.wrap (0-1)= -1:=by decide
 have w3:i64.wrap (0+3)=3:=by decide
 have w4:i64.wrap (0-3)= -3:=by decide
 refine c8 IC (U4 ⟨0,?_⟩);unfold If;simp only[aO,w1,w2,w3,w4,l1,l2,k1,k2,f1,f2,q1,fF,fG,fi1,fi2,c12,cHH,cHS,i0,i1,i2,i3,i4,i6,i9,jv00,jv40,jv13,jv19,jv10,jv01,jvm1,jv30,jv03,jvm3,jvm5,jv53,o1,o2,o3,o4,o5,m1,m2,m3];rfl
end
def Zo:List En:=[enT Wj,enL abv,enL afs,enT SP,enT afb]
def RK:Ctx:=CX (ens Zo) []
def Eu(x y:Pce)(n:Int)(_k:KT):OLR:=og (decide (yU x)) (og (decide (yU y)) (match !(yL x)with|true=>some [RV.d .bool true]|false=>(match !(yL y)with|true=>some [RV.d .bool true]|false=>(og (decide (i8P n)) (og (decide (fy (hid (lY x)) (hid (lY y))∧ok Rat 1000 (hid (ak (Rat.divInt n 4))))) (og (decide (fy (hid (lY x)) (hid (lY y))∧ok Rat 1000 (hid (ak (Rat.divInt n 4)))∧gdC (hid (lY x))∧gdC (hid (lY y)))) (some [RV.d .bool ((pE (hid (lY x)) (hid (lY y)) (ag (hid (ak (Rat.divInt n 4)))))==(RB (hid (lY x)) (hid (lY y)) (ag (hid (ak (Rat.divInt n 4))))))])))))))
theorem RX(x y:Pce)(n:Int):RS RK 3 [.d xc x,.d xc y,.d (.int .i8) n] (Eu x y n):=rsX
theorem TB(x y:Pce)(n:Int)(hx:Ty.ok xc x)(hy:Ty.ok xc y)(hn:Ty.ok (.int .i8) n):CQ 3 [.d xc x,.d xc y,.d (.int .i8) n] [.d .bool true]:=by
 have h1:=Sy hx;have h2:=Sy hy;have h3:=xQ hn;refine c8 Zo (RX _ _ _ ⟨0,?_⟩);unfold Eu;rw[dT h1,dT h2];cases ho:yL x
 ·rfl
 ·cases hp:yL y
  ·rfl
  ·have gx:=Jv h1 ho;have gy:=Jv h2 hp;have o:=abY h3 (k:=1000) (by decide) (by decide);simp only[bK];rw[dT h3,dT (show fy (lY x) (lY y)∧ok Rat 1000 (ak (Rat.divInt n 4)) from⟨⟨gx.1,gy.1⟩,o⟩),dT (show fy (lY x) (lY y)∧ok Rat 1000 (ak (Rat.divInt n 4))∧gdC (lY x)∧gdC (lY y) from⟨⟨gx.1,gy.1⟩,o,gx.gd,gy.gd⟩),ad5 gx gy];simp
section
open Go.ChangeShapes Go.WideShapes Go.ChangeAt Go.WideMaps Go.WideElems Go.RowKit Go.Maps
section
variable {H:Type} {enc:TypeId×Value→H} {P:Program}
theorem yS{f:Func}{s:ChangeSpec}{apart fresh handsOn again:Bool}{W W':World}{args:Array Value}{v:Value}{ds gs:List (DataW H)}{before pa pv:List MemPlace}
  (hW:DataW.Whole enc P f.params.toList s.vars apart W args.toList ds gs before)
  (hres:∀(b:Nat) (sp:Nat→Bool) (hd:Bool),DataW.TrodAll enc P W' b sp hd f.resultTypes.toList (v.resultList f.resultTypes.size) (s.fn H (ds++gs)).results [])
  (hargs:∀sp:Nat→Bool,(∀p∈before,sp p.block=true)→DataW.TrodAll enc P W' 0 sp true f.params.toList args.toList (s.fn H (ds++gs)).args pa)
  (hvars:∀sp:Nat→Bool,(∀p∈before,sp p.block=true)→DataW.TrodVars enc P W' sp s.vars (s.fn H (ds++gs)).vars pv)
  (hps:before=pa++pv) (hb:Below W.heap.size W W')
  (hok:∀(j:Nat) (t:TypeId) (r:Value),f.resultTypes[j]?=some t→(v.resultList f.resultTypes.size)[j]?=some r→Value.okWide P W' .any 0 t r):
  s.post enc P f apart fresh handsOn again W args v W':=by
 have hlt:∀p∈before,p.block<W.heap.size:=fun p hp=>hW.lt p hp;have hold:∀p∈before,(fun b=>decide (b<W.heap.size)) p.block=true:=fun p hp=>by simpa using hlt p hp
 refine⟨ds,gs,before,[],pa,pv,hW,hres _ _ _,hargs _ hold,hvars _ hold,World.keptBut_mono (fun p hp=>⟨hp,?_⟩) (hb.frame (·∈before)),fun _=>?_⟩
 ·grind
 ·obtain⟨_,_,_,_,_,hz,hn⟩:=hW;refine⟨hok,_,_,([]++pa)++pv,⟨[]++pa,pv,trodAll_append (hargs _ (fun _ _=>rfl)) (hres _ _ _),hvars _ (fun _ _=>rfl),rfl,?_,?_⟩,?_⟩
  ·intro b off hp;have hin:MemPlace.cell b off∈before:=by rw[hps];simpa using hp
   rw[hb.frozen (hlt _ hin)];exact hz b off hin
  ·grind
  grind
end
theorem OB:laidOutB Tryz.prog=true:=by kernel_rfl
theorem qV{H:Type}{enc:TypeId×Value→H}{P:Program}(hl:laidOutB P=true){W W':World}{sp:Nat→Bool}:∀(ts:List TypeId) (vs:List Value) (ds:List (DataW H)) (ps:List MemPlace),
  (ts.all fun t=>P.readableRec t&&Nat.ble (t+1) P.types.size)=true→DataW.TrodAll enc P W 0 (fun _=>true) true ts vs ds ps→(∀p∈ps,W.sameAt W' p)→(∀p∈ps,sp p.block=true)→DataW.TrodAll enc P W' 0 sp true ts vs ds ps
 |[],vs,ds,ps,_,h,_,_=>by obtain⟨rfl,rfl,rfl⟩:=trodAll_nil h;exact trodAll_mk0
 |t::ts,vs,ds,ps,ht,h,hs,hp=>by
  obtain⟨v,vs',d,ds',p,q,rfl,rfl,rfl,h0,h1⟩:=trodAll_cons h;simp only[apm,amI]at ht
  exact trodAll_cons_mk (Trod_stays hl ht.1.1 (amL ht.1.2) h0 (fun x hx=>hs x (aod _ hx)) (fun x hx=>hp x (aod _ hx)))
   (qV hl ts vs' ds' q ht.2 h1 (fun x hx=>hs x (aoI _ hx)) (fun x hx=>hp x (aoI _ hx)))
set_option maxRecDepth 100000 in
theorem Pd{H:Type}{enc:TypeId×Value→H}{f:Func}{s:ChangeSpec}{apart fresh handsOn again:Bool}{W W':World}{args:Array Value}{ds:List (DataW H)}{before:List MemPlace}
  (hW:DataW.Whole enc Tryz.prog f.params.toList s.vars apart W args.toList ds [] before) (hv:s.vars=[]) (hr:f.resultTypes= #[4]) (hfn:(s.fn H (ds++[])).results=[.lit (.bool true)]∧(s.fn H (ds++[])).args=ds∧(s.fn H (ds++[])).vars=[])
  (hp:(f.params.toList.all fun t=>Tryz.prog.readableRec t&&Nat.ble (t+1) Tryz.prog.types.size)=true) (hb:Below W.heap.size W W'):s.post enc Tryz.prog f apart fresh handsOn again W args (.bool true) W':=by
 have hW':=hW;obtain⟨p,q,hA,hV,rfl,hfz,hnd⟩:=hW
 have hq:q=[]:=by
  rw[hv]at hV;exact(trodVars_none hV).2
 subst hq;have hlt:∀x∈p,x.block<W.heap.size:=fun x hx=>hW'.lt x (by simpa using hx);refine yS (pa:=p) (pv:=[]) hW' ?_ ?_ ?_ rfl hb ?_
 ·intro b sp hd;rw[hr,hfn.1];exact trodAll_mk1 (shut_bool Tryz.underlying4 _)
 ·intro sp hsp;rw[hfn.2.1];exact qV OB _ _ _ _ hp hA (fun x hx=>hb.same (hlt x hx)) (fun x hx=>hsp x (by simpa using hx))
 ·intro sp _;rw[hv,hfn.2.2];rfl
 ·exact ok_one hr rfl (okWide_bool_mk (P:=Tryz.prog) Tryz.underlying4 true)
theorem EZ{P:Program}{w:World}{r:Reach}{base:Nat}{t e:TypeId}{n:Nat}{v:Value}(ht:P.underlying t=some (.array n e))(h:Value.okWide P w r base t v):∃cs,v=.agg cs∧cs.size=P.cellsOf t:=by
 simp only[Value.okWide,ht]at h;obtain⟨cs,h1,h2,_⟩:=h;exact⟨cs,h1,h2⟩
theorem FP{P:Program}{w:World}{r:Reach}{base:Nat}{t:TypeId}{v:Value}(ht:P.underlying t=some .string)(h:Value.okWide P w r base t v):∃s,v=.string s:=by
 simp only[Value.okWide,ht,Cell.okWide]at h;cases v<;>simp_all [Cell.ok]
theorem xC{H:Type}{enc:TypeId×Value→H}{P:Program}{w:World}{r:Reach}{b0 base:Nat}{spare:Nat→Bool}{held:Bool}{v:Value}{d:DataW H}{p:List MemPlace}{t:TypeId}(n:Nat)(ty:Ty)(hrep:rep P n t ty=true)(hv:Value.okWide P w r b0 t v)(h:DataW.Trod enc P w base spare held t v d p):
  ∃y:ty.D,Rel1 [] (fun _=>True) w (.d ty y) v∧ty.ok y:=by
 obtain⟨fuel,hf⟩:=h
 have fin:v.cells.toList.length=ty.n→v=mkV ty v.cells.toList→∃y:ty.D,Rel1 [] (fun _=>True) w (.d ty y) v∧ty.ok y:=fun hl hm=>by
  obtain⟨y,h1,h2⟩:=(VH ty).1 n t hrep fuel _ _ hl hf;exact⟨y,⟨_,h1,hm⟩,h2⟩
 cases n with
 |zero=>simp[rep]at hrep
 |succ n=>
  have hrep':=hrep;unfold rep at hrep';split at hrep'<;>try (cases hrep';done)
  ·rename_i hu;obtain⟨m,rfl⟩:=okWide_int hu hv;exact fin rfl rfl
  ·rename_i hu;obtain⟨m,rfl⟩:=okWide_bool hu hv;exact fin rfl rfl
  ·rename_i hu;obtain⟨m,rfl⟩:=FP hu hv;exact fin rfl rfl
  ·rename_i hu;obtain⟨q,m,c,rfl⟩:=okWide_slice hu hv;exact fin rfl rfl
  ·rename_i hu;obtain⟨cs,rfl,hsz⟩:=okWide_struct hu hv;simp only[amI]at hrep';exact fin (by simp only[Value.cells,Array.length_toList,hsz];exact amJ hrep'.2) (by simp[mkV,Ty.isSt,Value.cells])
  ·rename_i hu;obtain⟨cs,rfl,hsz⟩:=EZ hu hv;simp only[amI]at hrep';exact fin (by simp only[Value.cells,Array.length_toList,hsz];exact amJ hrep'.2) (by simp[mkV,Ty.isSt,Value.cells])
end
end Go.Proofs.YtnkndpoojnflmaaGreat
end
namespace Go.Proofs.YtnkndpoojnflmaaGreat.lawClearanceCmp
open Go.ChangeShapes Go.WideShapes Go.ChangeAt Go.RowKit
set_option maxRecDepth 100000 in
theorem contract(H:Type)(enc:TypeId×Value→H)(W:World)(base:Nat)(args:Array Value)(ds gs:List (DataW H))(before:List MemPlace)
  (hval:∀(j:Nat) t v,Tryz.f3.params[j]?=some t→args[j]?=some v→Value.okWide Tryz.prog W .any base t v)
  (hW:DataW.Whole enc Tryz.prog Tryz.f3.params.toList Rows.clearanceCmpSpec.vars false W args.toList ds gs before):
  Calls Tryz.prog 3 args W fun e W'=>∃v,e=.returned v∧Rows.clearanceCmpSpec.post enc Tryz.prog Tryz.f3 false true false false W args v W':=by
 have hW':=hW;obtain⟨p,q,hA0,hV,rfl,hfz,hnd⟩:=hW;have hA:DataW.TrodAll enc Tryz.prog W 0 (fun _=>true) true Tryz.f3.params.toList args.toList ds p:=hA0;rw[Tryz.params3]at hA hval;obtain⟨v0,vs0,d0,ds0,p0,q0,e0,rfl,rfl,h0,r0⟩:=trodAll_cons hA;obtain⟨v1,vs1,d1,ds1,p1,q1,e1,rfl,rfl,h1,r1⟩:=trodAll_cons r0;obtain⟨v2,vs2,d2,ds2,p2,q2,e2,rfl,rfl,h2,r2⟩:=trodAll_cons r1;obtain⟨en,rfl,rfl⟩:=trodAll_nil r2;obtain rfl:args= #[v0,v1,v2]:=by cases args;simp_all
 obtain⟨rfl,rfl⟩:=trodVars_none hV;obtain⟨y0,s0,k0⟩:=xC 12 (xc) (by kernel_rfl) (hval 0 26 v0 rfl rfl) h0;obtain⟨y1,s1,k1⟩:=xC 12 (xc) (by kernel_rfl) (hval 1 26 v1 rfl rfl) h1;obtain⟨y2,s2,k2⟩:=xC 12 (.int .i8) (by kernel_rfl) (hval 2 22 v2 rfl rfl) h2;clear hA0;refine(TB y0 y1 y2 k0 k1 k2 (fun _=>True) W [v0,v1,v2] SG ⟨s0,s1,s2,trivial⟩).mono ?_;rintro e W' ⟨v,rfl,hb,hres⟩
 have hv:v=.bool true:=sE (G:=[]) (eM hres);subst hv;exact⟨_,rfl,Pd hW' rfl (by kernel_rfl) ⟨rfl,rfl,rfl⟩ (by kernel_rfl) hb⟩
set_option maxRecDepth 100000 in
theorem lifted(os:Os)(started:os.Started)(H:Type)(enc:TypeId×Value→H):
  ReturnsInHanded {} Tryz.checked os 3 .any (Rows.clearanceCmpSpec.pre6 enc Tryz.prog Tryz.f3 Rows.clearanceCmpRow.domain false) (Rows.clearanceCmpSpec.post enc Tryz.prog Tryz.f3 false true false false):=by
 refine returnsInHanded_of_change (C:=Tryz.checked) Q1 started (by kernel_rfl) Tryz.func3
  (ChangeSpec.witness6 (enc:=enc) (C:=Tryz.checked) false ⟨#[],#[.agg #[.int .u8 0,.int .u8 0,.int .i8 0,.int .i8 0,.int .i8 0,.int .i8 0,.int .i8 0,.int .i8 0,.int .u8 0,.int .u8 0,.int .i8 0,.int .i8 0,.int .i8 0,.int .i8 0,.int .i8 0,.int .i8 0,.int .u8 0],.agg #[.int .u8 0,.int .u8 0,.int .i8 0,.int .i8 0,.int .i8 0,.int .i8 0,.int .i8 0,.int .i8 0,.int .u8 0,.int .u8 0,.int .i8 0,.int .i8 0,.int .i8 0,.int .i8 0,.int .i8 0,.int .i8 0,.int .u8 0],.int .i8 0],[]⟩ 8 (by kernel_rfl) (by kernel_rfl) (by kernel_rfl) (by kernel_rfl)) ?_
 intro W base args ds gs before hval hW _ _;exact contract H enc W base args ds gs before hval hW
end Go.Proofs.YtnkndpoojnflmaaGreat.lawClearanceCmp
namespace Go.Proofs.YtnkndpoojnflmaaGreat.lawClearanceCmp
open Go.ChangeShapes Go.WideShapes Go.ChangeAt Go.RowKit
set_option maxRecDepth 100000 in
theorem akZ:(Rows.clearanceCmpRow.inPlace==Tryz.prog.inPlace 3)=true:=by kernel_rfl
set_option maxRecDepth 100000 in
theorem alL:(Rows.clearanceCmpRow.unfollowed==Tryz.prog.unfollowed 3)=true:=by kernel_rfl
set_option maxRecDepth 100000 in
theorem alk:(Rows.clearanceCmpRow.recurses==Tryz.prog.recurses 3)=true:=by kernel_rfl
set_option maxRecDepth 100000 in
theorem akM:(Rows.clearanceCmpRow.named==Tryz.prog.varsNamed 3)=true:=by kernel_rfl
set_option maxRecDepth 100000 in
theorem kf2:(laidOutB Tryz.prog)=true:=by kernel_rfl
set_option maxRecDepth 100000 in
theorem al7:(Tryz.prog.mayEnter)=true:=by kernel_rfl
theorem gP{a b:Bool}(h:a=true)(h':b=true):(a&&b)=true:=by rw[h,h'];rfl
set_option maxRecDepth 100000 in
theorem ab1:joinedFacts Tryz.prog 3 Tryz.f3 Rows.clearanceCmpSpec Rows.clearanceCmpRow=true:=by
 unfold joinedFacts;exact(gP (gP (gP (gP (gP (gP (gP (gP (gP (gP (gP (gP (gP (gP (gP (gP (gP (gP (gP (gP (gP (gP (gP (gP (gP (gP (gP (gP (gP (gP (gP (by kernel_rfl) kf2) (by kernel_rfl)) (by kernel_rfl)) (by kernel_rfl)) (by kernel_rfl)) (by kernel_rfl)) (by kernel_rfl)) (by kernel_rfl)) akZ) alL) alk) akM) (by kernel_rfl)) (by kernel_rfl)) (by kernel_rfl)) (by kernel_rfl)) (by kernel_rfl)) (by kernel_rfl)) (by kernel_rfl)) (by kernel_rfl)) (by kernel_rfl)) (by kernel_rfl)) (by kernel_rfl)) (by kernel_rfl)) al7) (by kernel_rfl)) (by kernel_rfl)) (by kernel_rfl)) (by kernel_rfl)) (by kernel_rfl)) (by kernel_rfl))
theorem proved:Rows.ClearanceCmpSaid:=
 OpenClaim.holds_of_wide 3 Tryz.f3 rfl rfl rfl rfl rfl rfl rfl ⟨rfl,rfl,rfl,rfl,rfl⟩ rfl rfl rfl rfl rfl (by kernel_rfl) Tryz.func3 ab1
  (of_decide_eq_true (by kernel_rfl)) (by unfold Func.isWrapper;first|(rw[if_pos (by decide+kernel)];kernel_rfl)|(rw[if_neg (by decide+kernel)];exact⟨rfl,rfl⟩))
  (fun os started H enc _=>lifted os started H enc)
end Go.Proofs.YtnkndpoojnflmaaGreat.lawClearanceCmp
