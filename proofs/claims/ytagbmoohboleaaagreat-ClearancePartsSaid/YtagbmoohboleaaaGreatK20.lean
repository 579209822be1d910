/- The examples of the chapter on clearance. -/
import Derived.Test.YtagbmoohboleaaaGreatK19
import Derived.Test.YtagbmoohboleaaaGreatK18
import Derived.Stop.Joined
noncomputable section
namespace Go.Proofs.YtagbmoohboleaaaGreat
open Go.RowKit Go.IntKind
section
open RE
abbrev sgC(a b:Rat×Rat):Cv:=(false,uB a b,dec o00,false,atP a,atP b)
abbrev arC(a b c:Rat×Rat):Cv:=(true,dec o00,sA a b c,decide (zr a b c<0),atP a,atP c)
abbrev fuA(c:Ln):Cv:=(true,dec o00,c,false,nw c,nB c)
abbrev fuB(c:Ln):Cv:=(true,dec o00,c,false,nB c,nw c)
theorem RW{a b:Rat×Rat}(h:AD a b=false):dC (kj a b)=sgC a b:=by
 unfold kj dC;rw[h];simp only[cond_false,aA]
theorem abE{a b c:Rat×Rat}(h:fI a b c≠0):dC (nG a b c)=arC a b c:=by
 unfold nG dC;rw[dF h];simp only[cond_false,aA]
theorem ur{c:BCU}(h:gdN c):c.2.2.2.2.1=enc (frC (dC c))/\c.2.2.2.2.2=enc (toC (dC c)):=
 ⟨(Cod.ok_dec _ _ h.fr.1).1,(Cod.ok_dec _ _ h.to.1).1⟩
theorem m8{c d:BCU}(hc:gdN c)(hd:gdN d){c' d':Cv}(ec:dC c=c')(ed:dC d=d')(hs:cH c' d'=false)(hm:acL c' d'=[]){r:Rat}(hr:decide (r<0)=false):iG c d r=jv c' d' r:=by
 subst ec ed;have e:je c d=[]:=by rw[Pj (ur hc).1 (ur hc).2 (ur hd).1 (ur hd).2,hm];rfl
 have n:sV c d=false:=by unfold sV;rw[hs];rfl
 unfold iG Lv;rw[e,n,hr];rfl
theorem Dy{d:BCU}(hd:gdN d){p:Pt}{v:Rat×Rat}(e:p=atP v)(hv:Bd v 200)(r:Rat):poiE (dC d) (pR p) r=vF (dC d) v r:=by
 rw[e,m7];exact Uk hd.e (DK (bv:=hv) hd.1.1).2 r
theorem mV{c d:BCU}(hc:gdN c)(hd:gdN d){a b u w:Rat×Rat}(ba:Bd a 200)(bb:Bd b 200)(bu:Bd u 200)(bw:Bd w 200)(e1:frC (dC c)=atP a)(e2:toC (dC c)=atP b)(e3:frC (dC d)=atP u)(e4:toC (dC d)=atP w)(r:Rat):
  uU (dC c) (dC d) r=min (min (min (vF (dC d) a r) (vF (dC d) b r)) (vF (dC c) u r)) (vF (dC c) w r):=by
 unfold uU;rw[Dy hd e1 ba,Dy hd e2 bb,Dy hc e3 bu,Dy hc e4 bw]
abbrev v00:Rat×Rat:=vcR 0 0
theorem ad7:Bd v00 1:=⟨⟨⟨by decide+kernel,by decide+kernel⟩,⟨by decide+kernel,by decide+kernel⟩⟩⟩
theorem alG:Bd v00 200:=ad7.mono (by decide)
abbrev v40:Rat×Rat:=vcR 4 0
theorem ab5:Bd v40 1:=⟨⟨⟨by decide+kernel,by decide+kernel⟩,⟨by decide+kernel,by decide+kernel⟩⟩⟩
theorem amc:Bd v40 200:=ab5.mono (by decide)
abbrev v13:Rat×Rat:=vcR 1 3
theorem abW:Bd v13 1:=⟨⟨⟨by decide+kernel,by decide+kernel⟩,⟨by decide+kernel,by decide+kernel⟩⟩⟩
theorem alh:Bd v13 200:=abW.mono (by decide)
abbrev v19:Rat×Rat:=vcR 1 9
theorem adP:Bd v19 1:=⟨⟨⟨by decide+kernel,by decide+kernel⟩,⟨by decide+kernel,by decide+kernel⟩⟩⟩
theorem amC:Bd v19 200:=adP.mono (by decide)
abbrev v10:Rat×Rat:=vcR 1 0
theorem afE:Bd v10 1:=⟨⟨⟨by decide+kernel,by decide+kernel⟩,⟨by decide+kernel,by decide+kernel⟩⟩⟩
theorem ai3:Bd v10 200:=afE.mono (by decide)
abbrev v01:Rat×Rat:=vcR 0 1
theorem alR:Bd v01 1:=⟨⟨⟨by decide+kernel,by decide+kernel⟩,⟨by decide+kernel,by decide+kernel⟩⟩⟩
abbrev vm1:Rat×Rat:=vcR (-1) 0
theorem aer:Bd vm1 1:=⟨⟨⟨by decide+kernel,by decide+kernel⟩,⟨by decide+kernel,by decide+kernel⟩⟩⟩
theorem ajL:Bd vm1 200:=aer.mono (by decide)
abbrev v30:Rat×Rat:=vcR 3 0
theorem ab2:Bd v30 1:=⟨⟨⟨by decide+kernel,by decide+kernel⟩,⟨by decide+kernel,by decide+kernel⟩⟩⟩
theorem Lw:Bd v30 200:=ab2.mono (by decide)
abbrev v03:Rat×Rat:=vcR 0 3
theorem alf:Bd v03 1:=⟨⟨⟨by decide+kernel,by decide+kernel⟩,⟨by decide+kernel,by decide+kernel⟩⟩⟩
abbrev vm3:Rat×Rat:=vcR (-3) 0
theorem aeR:Bd vm3 1:=⟨⟨⟨by decide+kernel,by decide+kernel⟩,⟨by decide+kernel,by decide+kernel⟩⟩⟩
theorem al0:Bd vm3 200:=aeR.mono (by decide)
abbrev vm5:Rat×Rat:=vcR (-5) 3
theorem afe:Bd vm5 1:=⟨⟨⟨by decide+kernel,by decide+kernel⟩,⟨by decide+kernel,by decide+kernel⟩⟩⟩
theorem ald:Bd vm5 200:=afe.mono (by decide)
abbrev v53:Rat×Rat:=vcR 5 3
theorem aep:Bd v53 1:=⟨⟨⟨by decide+kernel,by decide+kernel⟩,⟨by decide+kernel,by decide+kernel⟩⟩⟩
theorem alv:Bd v53 200:=aep.mono (by decide)
abbrev vm2:Rat×Rat:=vcR (-2) 0
theorem amt:Bd vm2 1:=⟨⟨⟨by decide+kernel,by decide+kernel⟩,⟨by decide+kernel,by decide+kernel⟩⟩⟩
theorem Tm:Bd vm2 200:=amt.mono (by decide)
abbrev v20:Rat×Rat:=vcR 2 0
theorem alF:Bd v20 1:=⟨⟨⟨by decide+kernel,by decide+kernel⟩,⟨by decide+kernel,by decide+kernel⟩⟩⟩
theorem Rf:Bd v20 200:=alF.mono (by decide)
abbrev v90:Rat×Rat:=vcR 9 0
theorem amm:Bd v90 1:=⟨⟨⟨by decide+kernel,by decide+kernel⟩,⟨by decide+kernel,by decide+kernel⟩⟩⟩
theorem Sm:Bd v90 200:=amm.mono (by decide)
abbrev lF:Ln:=(((0:Int):Rat),((0:Int):Rat),((4:Int):Rat))
abbrev lG:Ln:=(((6:Int):Rat),((0:Int):Rat),((9:Int):Rat))
theorem blF:BdC lF:=⟨⟨by decide+kernel,by decide+kernel⟩,⟨by decide+kernel,by decide+kernel⟩,⟨by decide+kernel,by decide+kernel⟩⟩
theorem blG:BdC lG:=⟨⟨by decide+kernel,by decide+kernel⟩,⟨by decide+kernel,by decide+kernel⟩,⟨by decide+kernel,by decide+kernel⟩⟩
theorem gS1:gdN (kj v00 v40):=Cb (ba:=ad7) (bb:=ab5) (by decide+kernel)
theorem dS1:dC (kj v00 v40)=sgC v00 v40:=RW (by decide+kernel)
theorem gS2:gdN (kj v13 v19):=Cb (ba:=abW) (bb:=adP) (by decide+kernel)
theorem dS2:dC (kj v13 v19)=sgC v13 v19:=RW (by decide+kernel)
theorem gS3:gdN (kj vm5 v53):=Cb (ba:=afe) (bb:=aep) (by decide+kernel)
theorem dS3:dC (kj vm5 v53)=sgC vm5 v53:=RW (by decide+kernel)
theorem gH1:gdN (nG v10 v01 vm1):=by
 have:=afE;have:=aer;exact GG (bc:=⟨⟨by decide+kernel,by decide+kernel⟩,⟨by decide+kernel,by decide+kernel⟩,⟨by decide+kernel,by decide+kernel⟩⟩) (by decide+kernel)
theorem dH1:dC (nG v10 v01 vm1)=arC v10 v01 vm1:=abE (by decide+kernel)
theorem gH3:gdN (nG v30 v03 vm3):=by
 have:=ab2;have:=aeR;exact GG (bc:=⟨⟨by decide+kernel,by decide+kernel⟩,⟨by decide+kernel,by decide+kernel⟩,⟨by decide+kernel,by decide+kernel⟩⟩) (by decide+kernel)
theorem dH3:dC (nG v30 v03 vm3)=arC v30 v03 vm3:=abE (by decide+kernel)
theorem c12:iG (kj v00 v40) (kj v13 v19) ((3:Int):Rat)=0:=by
 rw[m8 gS1 gS2 dS1 dS2 (by decide+kernel) (by decide+kernel) (by decide+kernel)];have:=mV gS1 gS2 alG amc alh amC (by rw[dS1];rfl) (by rw[dS1];rfl) (by rw[dS2];rfl) (by rw[dS2];rfl) ((3:Int):Rat);rw[dS1,dS2]at this;unfold jv;rw[this];decide+kernel
theorem cHH:iG (nG v10 v01 vm1) (nG v30 v03 vm3) ((2:Int):Rat)=0:=by
 rw[m8 gH1 gH3 dH1 dH3 (by decide+kernel) (by decide+kernel) (by decide+kernel)];have:=mV gH1 gH3 ai3 ajL Lw al0 (by rw[dH1];rfl) (by rw[dH1];rfl) (by rw[dH3];rfl) (by rw[dH3];rfl) ((2:Int):Rat);rw[dH1,dH3]at this;unfold jv;rw[this];decide+kernel
theorem cHS:iG (nG v10 v01 vm1) (kj vm5 v53) ((2:Int):Rat)=0:=by
 rw[m8 gH1 gS3 dH1 dS3 (by decide+kernel) (by decide+kernel) (by decide+kernel)];have:=mV gH1 gS3 ai3 ajL ald alv (by rw[dH1];rfl) (by rw[dH1];rfl) (by rw[dS3];rfl) (by rw[dS3];rfl) ((2:Int):Rat);rw[dH1,dS3]at this;unfold jv;rw[this];decide+kernel
abbrev kF1:BCU:=(true,o00,enc lF,false,enc (nw lF),enc (nB lF))
abbrev kF2:BCU:=(true,o00,enc lF,false,enc (nB lF),enc (nw lF))
abbrev kG1:BCU:=(true,o00,enc lG,false,enc (nw lG),enc (nB lG))
abbrev kG2:BCU:=(true,o00,enc lG,false,enc (nB lG),enc (nw lG))
theorem fF:xh (enc lF)=[kF1,kF2]:=by unfold xh;rw[aA]
theorem fG:xh (enc lG)=[kG1,kG2]:=by unfold xh;rw[aA]
theorem GH:gdN kF1:=zs (bc:=blF) (by decide+kernel) _ (by rw[fF];simp)
theorem xj:dC kF1=fuA lF:=by unfold dC;simp only[aA]
theorem SP:gdN kF2:=zs (bc:=blF) (by decide+kernel) _ (by rw[fF];simp)
theorem EG:dC kF2=fuB lF:=by unfold dC;simp only[aA]
theorem HU:gdN kG1:=zs (bc:=blG) (by decide+kernel) _ (by rw[fG];simp)
theorem xm:dC kG1=fuA lG:=by unfold dC;simp only[aA]
theorem Td:gdN kG2:=zs (bc:=blG) (by decide+kernel) _ (by rw[fG];simp)
theorem FL:dC kG2=fuB lG:=by unfold dC;simp only[aA]
theorem VI:nrZ kF1 ((1:Int):Rat) kG1=false:=by
 unfold nrZ;rw[m8 GH HU xj xm (by decide+kernel) (by decide+kernel) (by decide+kernel)];have:=mV GH HU Tm Rf Lw Sm (by rw[xj];decide+kernel) (by rw[xj];decide+kernel) (by rw[xm];decide+kernel) (by rw[xm];decide+kernel) ((1:Int):Rat);rw[xj,xm]at this;unfold jv;rw[this];decide+kernel
theorem Vz:nrZ kF1 ((1:Int):Rat) kG2=false:=by
 unfold nrZ;rw[m8 GH Td xj FL (by decide+kernel) (by decide+kernel) (by decide+kernel)];have:=mV GH Td Tm Rf Sm Lw (by rw[xj];decide+kernel) (by rw[xj];decide+kernel) (by rw[FL];decide+kernel) (by rw[FL];decide+kernel) ((1:Int):Rat);rw[xj,FL]at this;unfold jv;rw[this];decide+kernel
theorem Vl:nrZ kF2 ((1:Int):Rat) kG1=false:=by
 unfold nrZ;rw[m8 SP HU EG xm (by decide+kernel) (by decide+kernel) (by decide+kernel)];have:=mV SP HU Rf Tm Lw Sm (by rw[EG];decide+kernel) (by rw[EG];decide+kernel) (by rw[xm];decide+kernel) (by rw[xm];decide+kernel) ((1:Int):Rat);rw[EG,xm]at this;unfold jv;rw[this];decide+kernel
theorem WU:nrZ kF2 ((1:Int):Rat) kG2=false:=by
 unfold nrZ;rw[m8 SP Td EG FL (by decide+kernel) (by decide+kernel) (by decide+kernel)];have:=mV SP Td Rf Tm Sm Lw (by rw[EG];decide+kernel) (by rw[EG];decide+kernel) (by rw[FL];decide+kernel) (by rw[FL];decide+kernel) ((1:Int):Rat);rw[EG,FL]at this;unfold jv;rw[this];decide+kernel
theorem amM:nrZ kF1 (Rat.divInt 11 10) kG1=true:=by
 unfold nrZ;rw[m8 GH HU xj xm (by decide+kernel) (by decide+kernel) (by decide+kernel)];have:=mV GH HU Tm Rf Lw Sm (by rw[xj];decide+kernel) (by rw[xj];decide+kernel) (by rw[xm];decide+kernel) (by rw[xm];decide+kernel) (Rat.divInt 11 10);rw[xj,xm]at this;unfold jv;rw[this];decide+kernel
theorem fi1:decide (Dg [kF1,kF2] [kG1,kG2] ((1:Int):Rat)<0)=true:=by
 unfold Dg Gr Gr Gr HM;simp only[aqj,List.any_nil,VI,Vz,Vl,WU,Bool.or_false,Bool.not_false,Bool.not_true,cond_false];rfl
theorem fi2:decide (Dg [kF1,kF2] [kG1,kG2] (Rat.divInt 11 10)<0)=false:=by
 unfold Dg Gr HM;simp only[aqj,amM,Bool.true_or,Bool.not_true,Bool.not_false,cond_true];rfl
theorem mGF:∀x∈[kF1,kF2],mG x:=by
 intro x hx;simp only[anr,aox,apZ]at hx;rcases hx with e|e<;>rw[e]
 ·exact GH.1
 ·exact SP.1
theorem mGG:∀x∈[kG1,kG2],mG x:=by
 intro x hx;simp only[anr,aox,apZ]at hx;rcases hx with e|e<;>rw[e]
 ·exact HU.1
 ·exact Td.1
theorem okZ{n:Int}(h:aJ n):ok Rat 1000 (ao (n:Rat)):=by
 have:=c7 h;exact anf (okd (by decide) (by decide))
def Je:List En:=[enL qy,enL Qz]
def aaR(x y:Int)(_k:KT):OLR:=og (decide (aJ x)) (og (decide (aJ y)) (some [RV.d tV (hid (ao (x:Rat)),hid (ao (y:Rat)))]))
def ajC:Cn 115 [aqw,aqw]:=cn λ(x y:Int)=>lf (aJ x/\aJ y) [.d tV (enc (vcR x y))] λh=>by
 refine aB Je (aaR x y) ⟨0,?_⟩;unfold aaR;rw[dT h.1,dT h.2];simp only[bL];rfl
def aay(a b:BV)(_k:KT):OLR:=og (decide (ok (Rat×Rat) 100 a/\ok (Rat×Rat) 100 b)) (some [RV.d tCU (hid (kj (dec a) (dec b)))])
def ahv:Cn 114 [tV,tV]:=cn λ(a b:BV)=>lf (ok (Rat×Rat) 100 a/\ok (Rat×Rat) 100 b) [.d tCU (kj (dec a) (dec b))] λh=>by
 refine aB Je (aay a b) ⟨0,?_⟩;unfold aay;rw[dT h];simp only[bL]
def I9:List En:=[enL qy,enL ahv,enL ajC,enL Sb,enT RU,enL ZS,enF afW,enL Ih]
def Qb:NT:=[((15,3),{keep:=[3,4,5,7],hl:=0}),((15,5),{keep:=[1,8,9,10,12],hl:=0}),((15,7),{keep:=[1,2,13,14,15,16,18,19,20,21,22,25,26,27,28,29,32,33,34,35,36,38,39,40,41,42],hl:=0})]
def Wr:Ctx:=CX (ens I9) Qb
def K9(_k:KT):OLR:=let y1:=ao ((0:Int):Rat);let y2:=hid (enc (vcR (0:Int) (0:Int)));let y3:=hid (enc (vcR (4:Int) (0:Int)));let y4:=hid (enc (vcR (1:Int) (3:Int)));let y5:=hid (enc (vcR (1:Int) (9:Int)));let y6:=hid (kj (dec y2) (dec y3));let y7:=hid (kj (dec y4) (dec y5));let y8:=hid (ao ((3:Int):Rat));let y9:=i64.wrap (0+1);let y10:=i64.wrap (0-1);let y11:=hid (enc (vcR y9 (0:Int)));let y12:=hid (enc (vcR (0:Int) y9));let y13:=hid (enc (vcR y10 (0:Int)));let y14:=i64.wrap (0+3);let y15:=i64.wrap (0-3);let y16:=hid (enc (vcR y14 (0:Int)));let y17:=hid (enc (vcR (0:Int) y14));let y18:=hid (enc (vcR y15 (0:Int)));let y19:=hid (nG (dec y11) (dec y12) (dec y13));let y20:=hid (nG (dec y16) (dec y17) (dec y18));let y21:=hid (ao ((2:Int):Rat));let y22:=hid (enc (vcR ((-5):Int) (3:Int)));let y23:=hid (enc (vcR (5:Int) (3:Int)));let y24:=hid (kj (dec y22) (dec y23));let y25:=xh (hid y1,(hid y1,hid (ao ((4:Int):Rat))));let y26:=xh (hid (ao ((6:Int):Rat)),(hid y1,hid (ao ((9:Int):Rat))));let y27:=hid (ao ((1:Int):Rat));let y28:=hid (ao (Rat.divInt (11:Int) (10:Int)));og (decide (aJ (0:Int))) (og (decide (aJ (0:Int))) (og (decide (aJ (4:Int))) (og (decide (ck (hid y1,(hid y1,hid (ao ((4:Int):Rat)))))) (og (decide (aJ (6:Int))) (og (decide (aJ (0:Int))) (og (decide (aJ (9:Int))) (og (decide (ck (hid (ao ((6:Int):Rat)),(hid y1,hid (ao ((9:Int):Rat)))))) (og (decide (aJ (0:Int)/\aJ (0:Int))) (og (decide (aJ (4:Int)/\aJ (0:Int))) (og (decide (ok (Rat×Rat) 100 y2/\ok (Rat×Rat) 100 y3)) (og (decide (aJ (1:Int)/\aJ (3:Int))) (og (decide (aJ (1:Int)/\aJ (9:Int))) (og (decide (ok (Rat×Rat) 100 y4/\ok (Rat×Rat) 100 y5)) (og (decide (aJ (3:Int))) (og (decide (hU y6 y7/\ok Rat 1000 y8)) (match(iG y6 y7 (ah y8))==0 with|true=>(og (decide (aJ y9/\aJ (0:Int))) (og (decide (aJ (0:Int)/\aJ y9)) (og (decide (aJ y10/\aJ (0:Int))) (og (decide (ok (Rat×Rat) 100 y11/\ok (Rat×Rat) 100 y12/\ok (Rat×Rat) 100 y13)) (og (decide (aJ y14/\aJ (0:Int))) (og (decide (aJ (0:Int)/\aJ y14)) (og (decide (aJ y15/\aJ (0:Int))) (og (decide (ok (Rat×Rat) 100 y16/\ok (Rat×Rat) 100 y17/\ok (Rat×Rat) 100 y18)) (og (decide (aJ (2:Int))) (og (decide (hU y19 y20/\ok Rat 1000 y21)) (match(iG y19 y20 (ah y21))==0 with|true=>(og (decide (aJ y9/\aJ (0:Int))) (og (decide (aJ (0:Int)/\aJ y9)) (og (decide (aJ y10/\aJ (0:Int))) (og (decide (ok (Rat×Rat) 100 y11/\ok (Rat×Rat) 100 y12/\ok (Rat×Rat) 100 y13)) (og (decide (aJ ((-5):Int)/\aJ (3:Int))) (og (decide (aJ (5:Int)/\aJ (3:Int))) (og (decide (ok (Rat×Rat) 100 y22/\ok (Rat×Rat) 100 y23)) (og (decide (aJ (2:Int))) (og (decide (hU y19 y24/\ok Rat 1000 y21)) (match(iG y19 y24 (ah y21))==0 with|true=>(og (decide (aJ (1:Int))) (og (decide (CC y25 y26 y27)) (match decide (Dg y25 y26 (ah y27)<0)with|true=>(og (decide (AH (11:Int) (10:Int))) (og (decide (CC y25 y26 y28)) (some [RV.d .bool (!(decide (Dg y25 y26 (ah y28)<0)))])))|false=>some [RV.d .bool false])))|false=>some [RV.d .bool false]))))))))))|false=>some [RV.d .bool false])))))))))))|false=>some [RV.d .bool false]))))))))))))))))
theorem WR:RS Wr 15 [] (K9):=rsX
def W8:Cn 15 []:=cn<|lf True [.d .bool true] λ_=>by
 have i0:decide (aJ 0)=true:=by decide
 have i1:decide (aJ 1)=true:=by decide
 have i2:decide (aJ 2)=true:=by decide
 have i3:decide (aJ 3)=true:=by decide
 have i4:decide (aJ 4)=true:=by decide
 have i6:decide (aJ 6)=true:=by decide
 have i9:decide (aJ 9)=true:=by decide
 have i5:decide (aJ 5)=true:=by decide
 have jv00:decide (aJ (0)/\aJ (0))=true:=by decide
 have jv40:decide (aJ (4)/\aJ (0))=true:=by decide
 have jv13:decide (aJ (1)/\aJ (3))=true:=by decide
 have jv19:decide (aJ (1)/\aJ (9))=true:=by decide
 have jv10:decide (aJ (1)/\aJ (0))=true:=by decide
 have jv01:decide (aJ (0)/\aJ (1))=true:=by decide
 have jvm1:decide (aJ (-1)/\aJ (0))=true:=by decide
 have jv30:decide (aJ (3)/\aJ (0))=true:=by decide
 have jv03:decide (aJ (0)/\aJ (3))=true:=by decide
 have jvm3:decide (aJ (-3)/\aJ (0))=true:=by decide
 have jvm5:decide (aJ (-5)/\aJ (3))=true:=by decide
 have jv53:decide (aJ (5)/\aJ (3))=true:=by decide
 have jvm2:decide (aJ (-2)/\aJ (0))=true:=by decide
 have jv20:decide (aJ (2)/\aJ (0))=true:=by decide
 have jv90:decide (aJ (9)/\aJ (0))=true:=by decide
 have o1:decide (ok (Rat×Rat) 100 (enc v00)/\ok (Rat×Rat) 100 (enc v40))=true:=dT ⟨anf (okd (h:=ad7) (by decide) (by decide)),anf (okd (h:=ab5) (by decide) (by decide))⟩;have o2:decide (ok (Rat×Rat) 100 (enc v13)/\ok (Rat×Rat) 100 (enc v19))=true:=dT ⟨anf (okd (h:=abW) (by decide) (by decide)),anf (okd (h:=adP) (by decide) (by decide))⟩;have o3:decide (ok (Rat×Rat) 100 (enc vm5)/\ok (Rat×Rat) 100 (enc v53))=true:=dT ⟨anf (okd (h:=afe) (by decide) (by decide)),anf (okd (h:=aep) (by decide) (by decide))⟩;have o4:decide (ok (Rat×Rat) 100 (enc v10)/\ok (Rat×Rat) 100 (enc v01)/\ok (Rat×Rat) 100 (enc vm1))=true:=dT ⟨anf (okd (h:=afE) (by decide) (by decide)),anf (okd (h:=alR) (by decide) (by decide)),anf (okd (h:=aer) (by decide) (by decide))⟩;have o5:decide (ok (Rat×Rat) 100 (enc v30)/\ok (Rat×Rat) 100 (enc v03)/\ok (Rat×Rat) 100 (enc vm3))=true:=dT ⟨anf (okd (h:=ab2) (by decide) (by decide)),anf (okd (h:=alf) (by decide) (by decide)),anf (okd (h:=aeR) (by decide) (by decide))⟩;have m1:decide (hU (kj v00 v40) (kj v13 v19)/\ok Rat 1000 (ao ((3:Int):Rat)))=true:=dT ⟨⟨gS1.1,gS2.1⟩,okZ (by decide)⟩;have m2:decide (hU (nG v10 v01 vm1) (nG v30 v03 vm3)/\ok Rat 1000 (ao ((2:Int):Rat)))=true:=dT ⟨⟨gH1.1,gH3.1⟩,okZ (by decide)⟩;have m3:decide (hU (nG v10 v01 vm1) (kj vm5 v53)/\ok Rat 1000 (ao ((2:Int):Rat)))=true:=dT ⟨⟨gH1.1,gS3.1⟩,okZ (by decide)⟩;have f1:decide (CC [kF1,kF2] [kG1,kG2] (ao ((1:Int):Rat)))=true:=dT ⟨mGF,mGG,by decide,by decide,okZ (by decide)⟩;have f2:decide (CC [kF1,kF2] [kG1,kG2] (ao (Rat.divInt 11 10)))=true:=dT ⟨mGF,mGG,by decide,by decide,by have:=bQ 11 10 (by decide);exact anf (okd (by decide) (by decide))⟩;have q1:decide (AH 11 10)=true:=by decide
 have l1:((ao ((0:Int):Rat),(ao ((0:Int):Rat),ao ((4:Int):Rat))):BO3)=enc lF:=rfl;have l2:((ao ((6:Int):Rat),(ao ((0:Int):Rat),ao ((9:Int):Rat))):BO3)=enc lG:=rfl;have k1:decide (ck (enc lF))=true:=dT (iN (h:=blF) (by decide+kernel));have k2:decide (ck (enc lG))=true:=dT (iN (h:=blG) (by decide+kernel));have w1:i64.wrap (0+1)=1:=by decide
 have w2:i64.wrap (0-1)= -1:=by decide
 have w3:i64.wrap (0+3)=3:=by decide
 have w4:i64.wrap (0-3)= -3:=by decide
 refine dk I9 (WR ⟨0,?_⟩);unfold K9;simp only[aX,w1,w2,w3,w4,l1,l2,k1,k2,f1,f2,q1,fF,fG,fi1,fi2,c12,cHH,cHS,i0,i1,i2,i3,i4,i6,i9,jv00,jv40,jv13,jv19,jv10,jv01,jvm1,jv30,jv03,jvm3,jvm5,jv53,o1,o2,o3,o4,o5,m1,m2,m3];rfl
end
theorem Vy{n m k:Nat}(h1:n+m<=100000000)(hk:k<=1000000):decide ((n+m)*k<=140737488355328/\n+m<=140737488355328)=true:=by
 refine anb ⟨?_,by omega⟩;have:=ao6 h1 hk;omega
def IU:List En:=[enT W8,enL Yt,enL aeA,enL Yp,enK aaC,enL afS,enT RU]
def Fx:NT:=[((4,20),{keep:=[2,7,8,10,43,44,45],own:=[(10,37,tP)],hl:=4}),((4,43),{keep:=[7,8,17,18,71,72,73],hl:=5})]
def lM:Ctx:=CX (ens IU) Fx
def lg(x y:Pce)(n s45:Int)(r3:List BP):Cfg:=⟨4,[.blk 0,.seq 35],[(2,.d (.int .i8) n),(7,.d (.sl tCU) (ofL x.1)),(8,.box 2 0),(10,.own 3),(43,.d (.sl tCU) (ofL x.2.1)),(44,SI ((ofL x.2.1).length:Int)),(45,SI s45)],[.box 26 (Ty.split tM x),.box 26 (Ty.split tM y),.box 39 (Ty.split tCU (hid (pT y))),.row 37 tP r3],0,[]⟩
def lj(x y:Pce)(n:Int)(r3:List BP)(x1:BCU)(s18 s73:Int):Cfg:=⟨4,[.blk 2,.seq 56],[(7,.d (.sl tCU) (ofL x.1)),(8,.box 2 0),(17,.box 4 0),(18,SI s18),(71,.d (.sl tCU) (fR x1 r3)),(72,SI ((fR x1 r3).length:Int)),(73,SI s73)],[.box 26 (Ty.split tM x),.box 26 (Ty.split tM y),.box 39 (Ty.split tCU (hid (pT y))),.gone,.box 31 (Ty.split tR (hid (ao (Rat.divInt n 4))))],0,[]⟩
def yD(x y:Pce)(n:Int)(k:KT):OLR:=og (decide (yV x.1)) (og (decide (Da y)) (match((ofL x.1).length:Int)==0 with|true=>some [RV.d .bool true]|false=>(match !(Gh y)with|true=>some [RV.d .bool true]|false=>(og (decide (yV x.2.1)) (k 20 (lg x y n 0 ([])))))))
theorem H3(x y:Pce)(n:Int):RS lM 4 [.d tM x,.d tM y,.d (.int .i8) n] (yD x y n):=rsX
def mh(x y:Pce)(n s45:Int)(r3:List BP)(k:KT):OLR:=match decide (s45<((ofL x.2.1).length:Int))with|true=>(match aS (ofL x.2.1) s45 with|some x1=>(match aS (ofL x.1) 0 with|some x2=>(og (decide (hU x2 x1)) (og (decide ((r3.length+(qk x2 x1).length)*320<=140737488355328/\r3.length+(qk x2 x1).length<=140737488355328)) (k 20 (lg x y n (i64.wrap (s45+1)) (r3++(qk x2 x1))))))|none=>none)|none=>none)|false=>(match aS (ofL x.1) 0 with|some x1=>(og (decide (Eh x1 r3)) (og (decide (i8P n)) (k 43 (lj x y n r3 x1 1 0))))|none=>none)
theorem qH(x y:Pce)(n s45:Int)(r3:List BP):RN lM 20 (lg x y n s45 r3) (mh x y n s45 r3):=rnX
def mj(x y:Pce)(n:Int)(r3:List BP)(x1:BCU)(s18 s73:Int)(k:KT):OLR:=match decide (s73<((fR x1 r3).length:Int))with|true=>(match aS (fR x1 r3) s73 with|some x2=>(og (decide (hU x2 (hid (pT y))/\ok Rat 1000 (hid (ao (Rat.divInt n 4))))) (k 43 (lj x y n r3 x1 (mn2 s18 (iG x2 (hid (pT y)) (ah (hid (ao (Rat.divInt n 4)))))) (i64.wrap (s73+1)))))|none=>none)|false=>(match aS (ofL x.1) 0 with|some x2=>(og (decide (hU x2 (hid (pT y))/\ok Rat 1000 (hid (ao (Rat.divInt n 4))))) (some [RV.d .bool ((iG x2 (hid (pT y)) (ah (hid (ao (Rat.divInt n 4)))))==s18)]))|none=>none)
theorem rh(x y:Pce)(n:Int)(r3:List BP)(x1:BCU)(s18 s73:Int):RN lM 43 (lj x y n r3 x1 s18 s73) (mj x y n r3 x1 s18 s73):=rnX
theorem afl(x y:Pce)(n:Int)(c:BCU)(L:List BCU)(hx:ofL x.1=c::L)(gc:gdN c)(gy:gdN (pT y))(hn:i8P n)(r:List BP)(ho:∀p∈r,okP 580 p/\onR (dC c) (dec p)=true)(hl:r.length<=900000):∀(j i:Nat),i+j=(fR c r).length->∀m:Int,iG c (pT y) (Rat.divInt n 4)<=m->(∀e,e∈(fR c r).take i->m<=iG e (pT y) (Rat.divInt n 4))->lM.Runs 43 (lj x y n r c m (i:Int)) [.d .bool true]:=by
 have orr:=ael hn (k:=1000) (by decide) (by decide);have bd:=Q4 hn;obtain⟨⟨e0,m0,q0⟩,lo,_⟩:=BO gc gy ho (Rat.divInt n 4);have gp:=Co gc ho;have le:=(xS gc r).2;intro j;induction j with
 |zero=>
  intro i hi m h1 h2;refine rh _ _ _ _ _ _ _ ⟨0,?_⟩;rw[aog (by omega)]at h2;have:=h2 e0 m0;unfold mj;rw[b8 (by omega),hx,show aS (c::L) 0=some c from rfl];dsimp only;simp only[bL,cC,dT (show hU c (pT y)/\ok Rat 1000 (ao (Rat.divInt n 4)) from⟨⟨gc.1,gy.1⟩,orr⟩)];rw[show iG c (pT y) (Rat.divInt n 4)=m by omega];simp
 |succ j ih=>
  intro i hi m h1 h2;have hil:i<(fR c r).length:=by omega
  have mi:(fR c r)[i]∈fR c r:=anG hil
  obtain⟨k,hk⟩:=ih (i+1) (by omega) (mn2 m (iG (fR c r)[i] (pT y) (Rat.divInt n 4))) (by
   have:=lo _ mi;unfold mn2;split<;>omega) (λe he=>by
   rw[List.take_succ_eq_append_getElem hil]at he;rcases anR.1 he with h|h
   ·have:=h2 e h;unfold mn2;split<;>omega
   ·rw[aot.1 h];unfold mn2;split<;>omega)
  refine rh _ _ _ _ _ _ _ ⟨k,?_⟩;unfold mj;rw[bH hil,aq,anc hil];dsimp only;simp only[bL,cC,dT (show hU (fR c r)[i] (pT y)/\ok Rat 1000 (ao (Rat.divInt n 4)) from⟨⟨(gp _ mi).1,gy.1⟩,orr⟩)];rw[bW (by omega)];exact hk
theorem adD(x y:Pce)(n:Int)(c:BCU)(L:List BCU)(hx:ofL x.1=c::L)(gc:gdN c)(gy:gdN (pT y))(hn:i8P n)(B:List BCU)(hB:ofL x.2.1=B)(gB:∀d∈B,gdN d)(lB:B.length<=2):∀(j i:Nat),i+j=B.length->∀r:List BP,r.length<=4*i->(∀p∈r,okP 580 p/\onR (dC c) (dec p)=true)->lM.Runs 20 (lg x y n (i:Int) r) [.d .bool true]:=by
 intro j;induction j with
 |zero=>
  intro i hi r hr ho;obtain⟨k,hk⟩:=afl x y n c L hx gc gy hn r ho (by omega) _ 0 (anO _) 1 (BO gc gy ho (Rat.divInt n 4)).2.2 (λe he=>by cases he);refine qH _ _ _ _ _ ⟨k,?_⟩;unfold mh;rw[hB,b8 (by omega),hx,show aS (c::L) 0=some c from rfl];dsimp only;simp only[dT (JG gc (l:=r) (by omega) ho),dT hn];exact hk
 |succ j ih=>
  intro i hi r hr ho;have hil:i<B.length:=by omega
  have hm:hU c B[i]:=⟨gc.1,(gB _ (anG hil)).1⟩
  obtain⟨m1,m2⟩:=DL hm
  obtain⟨k,hk⟩:=ih (i+1) (by omega) (r++qk c B[i]) (by rw[anK];omega) (λp hp=>by
   rcases anR.1 hp with h|h
   ·exact ho p h
   ·exact⟨(m2 p h).1,(m2 p h).2.1⟩)
  refine qH _ _ _ _ _ ⟨k,?_⟩;unfold mh;rw[hB,bH hil,aq,anc hil,hx,show aS (c::L) 0=some c from rfl];dsimp only;simp only[dT hm];rw[Vy (by omega) (by omega),bW (by omega)];exact hk
theorem Xw(x y:Pce)(n:Int)(hx:Ty.ok tM x)(hy:Ty.ok tM y)(hn:Ty.ok (.int .i8) n):CQq7 4 [.d tM x,.d tM y,.d (.int .i8) n] [.d .bool true]:=by
 have h1:=RY hx;have h2:=RY hy;have h3:=yI hn;refine dk IU (H3 _ _ _ ?_);unfold yD;rw[dT h1.1,dT h2];cases hl:ofL x.1 with
 |nil=>exact⟨0,rfl⟩
 |cons c L=>
  cases hp:Gh y
  ·exact⟨0,rfl⟩
  ·have gA:=yn h1.1;obtain⟨k,hk⟩:=adD x y n c L hl (gA c (by rw[hl];simp)) (VN h2 hp) h3 _ rfl (yn h1.2.1) (QL x.2.1) _ 0 (anO _) [] (ani _) (λp hp=>by cases hp);refine⟨k,?_⟩;rw[dT h1.2.1];exact hk
section
open Go.ChangeShapes Go.WideShapes Go.ChangeAt Go.WideMaps Go.WideElems Go.RowKit Go.Maps
section
variable {H:Type} {enc:TypeId×Value->H} {P:Program}
theorem AE{f:Func}{s:ChangeSpec}{apart fresh handsOn again:Bool}{W W':World}{args:Array Value}{v:Value}{ds gs:List (DataW H)}{before pa pv:List MemPlace}
  (hW:DataW.Whole enc P f.params.toList s.vars apart W args.toList ds gs before)
  (hres:∀(b:Nat) (sp:Nat->Bool) (hd:Bool),DataW.TrodAll enc P W' b sp hd f.resultTypes.toList (v.resultList f.resultTypes.size) (s.fn H (ds++gs)).results [])
  (hargs:∀sp:Nat->Bool,(∀p∈before,sp p.block=true)->DataW.TrodAll enc P W' 0 sp true f.params.toList args.toList (s.fn H (ds++gs)).args pa)
  (hvars:∀sp:Nat->Bool,(∀p∈before,sp p.block=true)->DataW.TrodVars enc P W' sp s.vars (s.fn H (ds++gs)).vars pv)
  (hps:before=pa++pv) (hb:Below W.heap.size W W')
  (hok:∀(j:Nat) (t:TypeId) (r:Value),f.resultTypes[j]?=some t->(v.resultList f.resultTypes.size)[j]?=some r->Value.okWide P W' .any 0 t r):
  s.post enc P f apart fresh handsOn again W args v W':=by
 have hlt:∀p∈before,p.block<W.heap.size:=λp hp=>hW.lt p hp;have hold:∀p∈before,(λb=>decide (b<W.heap.size)) p.block=true:=λp hp=>by simpa using hlt p hp
 refine⟨ds,gs,before,[],pa,pv,hW,hres _ _ _,hargs _ hold,hvars _ hold,World.keptBut_mono (λp hp=>⟨hp,?_⟩) (hb.frame (·∈before)),λ_=>?_⟩
 ·grind
 ·obtain⟨_,_,_,_,_,hz,hn⟩:=hW;refine⟨hok,_,_,([]++pa)++pv,⟨[]++pa,pv,trodAll_append (hargs _ (λ_ _=>rfl)) (hres _ _ _),hvars _ (λ_ _=>rfl),rfl,?_,?_⟩,?_⟩
  ·intro b off hp;have hin:MemPlace.cell b off∈before:=by rw[hps];simpa using hp
   rw[hb.frozen (hlt _ hin)];exact hz b off hin
  ·grind
  grind
end
theorem P1:laidOutB Tryz.prog=true:=by kernel_rfl
theorem sM{H:Type}{enc:TypeId×Value->H}{P:Program}(hl:laidOutB P=true){W W':World}{sp:Nat->Bool}:∀(ts:List TypeId) (vs:List Value) (ds:List (DataW H)) (ps:List MemPlace),
  (ts.all λt=>P.readableRec t&&Nat.ble (t+1) P.types.size)=true->DataW.TrodAll enc P W 0 (λ_=>true) true ts vs ds ps->(∀p∈ps,W.sameAt W' p)->(∀p∈ps,sp p.block=true)->DataW.TrodAll enc P W' 0 sp true ts vs ds ps
 |[],vs,ds,ps,_,h,_,_=>by obtain⟨rfl,rfl,rfl⟩:=trodAll_nil h;exact trodAll_mk0
 |t::ts,vs,ds,ps,ht,h,hs,hp=>by
  obtain⟨v,vs',d,ds',p,q,rfl,rfl,rfl,h0,h1⟩:=trodAll_cons h;simp only[apY,ang]at ht
  exact trodAll_cons_mk (Trod_stays hl ht.1.1 (anj ht.1.2) h0 (λx hx=>hs x (aoL _ hx)) (λx hx=>hp x (aoL _ hx)))
   (sM hl ts vs' ds' q ht.2 h1 (λx hx=>hs x (aph _ hx)) (λx hx=>hp x (aph _ hx)))
set_option maxRecDepth 100000 in
theorem Tv{H:Type}{enc:TypeId×Value->H}{f:Func}{s:ChangeSpec}{apart fresh handsOn again:Bool}{W W':World}{args:Array Value}{ds:List (DataW H)}{before:List MemPlace}
  (hW:DataW.Whole enc Tryz.prog f.params.toList s.vars apart W args.toList ds [] before) (hv:s.vars=[]) (hr:f.resultTypes= #[4]) (hfn:(s.fn H (ds++[])).results=[.lit (.bool true)]/\(s.fn H (ds++[])).args=ds/\(s.fn H (ds++[])).vars=[])
  (hp:(f.params.toList.all λt=>Tryz.prog.readableRec t&&Nat.ble (t+1) Tryz.prog.types.size)=true) (hb:Below W.heap.size W W'):s.post enc Tryz.prog f apart fresh handsOn again W args (.bool true) W':=by
 have hW':=hW;obtain⟨p,q,hA,hV,rfl,hfz,hnd⟩:=hW
 have hq:q=[]:=by
  rw[hv]at hV;exact(trodVars_none hV).2
 subst hq;have hlt:∀x∈p,x.block<W.heap.size:=λx hx=>hW'.lt x (by simpa using hx);refine AE (pa:=p) (pv:=[]) hW' ?_ ?_ ?_ rfl hb ?_
 ·intro b sp hd;rw[hr,hfn.1];exact trodAll_mk1 (shut_bool Tryz.underlying4 _)
 ·intro sp hsp;rw[hfn.2.1];exact sM P1 _ _ _ _ hp hA (λx hx=>hb.same (hlt x hx)) (λx hx=>hsp x (by simpa using hx))
 ·intro sp _;rw[hv,hfn.2.2];rfl
 ·exact ok_one hr rfl (okWide_bool_mk (P:=Tryz.prog) Tryz.underlying4 true)
theorem GX{P:Program}{w:World}{r:Reach}{base:Nat}{t e:TypeId}{n:Nat}{v:Value}(ht:P.underlying t=some (.array n e))(h:Value.okWide P w r base t v):∃cs,v=.agg cs/\cs.size=P.cellsOf t:=by
 simp only[Value.okWide,ht]at h;obtain⟨cs,h1,h2,_⟩:=h;exact⟨cs,h1,h2⟩
theorem Io{P:Program}{w:World}{r:Reach}{base:Nat}{t:TypeId}{v:Value}(ht:P.underlying t=some .string)(h:Value.okWide P w r base t v):∃s,v=.string s:=by
 simp only[Value.okWide,ht,Cell.okWide]at h;cases v<;>simp_all [Cell.ok]
theorem Ac{H:Type}{enc:TypeId×Value->H}{P:Program}{w:World}{r:Reach}{b0 base:Nat}{spare:Nat->Bool}{held:Bool}{v:Value}{d:DataW H}{p:List MemPlace}{t:TypeId}(n:Nat)(ty:Ty)(hrep:rep P n t ty=true)(hv:Value.okWide P w r b0 t v)(h:DataW.Trod enc P w base spare held t v d p):
  ∃y:ty.D,Rel1 [] (λ_=>True) w (.d ty y) v/\ty.ok y:=by
 obtain⟨fuel,hf⟩:=h
 have fin:v.cells.toList.length=ty.n->v=mkV ty v.cells.toList->∃y:ty.D,Rel1 [] (λ_=>True) w (.d ty y) v/\ty.ok y:=λhl hm=>by
  obtain⟨y,h1,h2⟩:=(Uh ty).1 n t hrep fuel _ _ hl hf;exact⟨y,⟨_,h1,hm⟩,h2⟩
 cases n with
 |zero=>simp[rep]at hrep
 |succ n=>
  have hrep':=hrep;unfold rep at hrep';split at hrep'<;>try (cases hrep';done)
  ·rename_i hu;obtain⟨m,rfl⟩:=okWide_int hu hv;exact fin rfl rfl
  ·rename_i hu;obtain⟨m,rfl⟩:=okWide_bool hu hv;exact fin rfl rfl
  ·rename_i hu;obtain⟨m,rfl⟩:=Io hu hv;exact fin rfl rfl
  ·rename_i hu;obtain⟨q,m,c,rfl⟩:=okWide_slice hu hv;exact fin rfl rfl
  ·rename_i hu;obtain⟨cs,rfl,hsz⟩:=okWide_struct hu hv;simp only[ang]at hrep';exact fin (by simp only[Value.cells,Array.length_toList,hsz];exact anh hrep'.2) (by simp[mkV,Ty.isSt,Value.cells])
  ·rename_i hu;obtain⟨cs,rfl,hsz⟩:=GX hu hv;simp only[ang]at hrep';exact fin (by simp only[Value.cells,Array.length_toList,hsz];exact anh hrep'.2) (by simp[mkV,Ty.isSt,Value.cells])
end
end Go.Proofs.YtagbmoohboleaaaGreat
end
namespace Go.Proofs.YtagbmoohboleaaaGreat.lawClearanceParts
open Go.ChangeShapes Go.WideShapes Go.ChangeAt Go.RowKit
set_option maxRecDepth 100000 in
theorem contract(H:Type)(enc:TypeId×Value->H)(W:World)(base:Nat)(args:Array Value)(ds gs:List (DataW H))(before:List MemPlace)
  (hval:∀(j:Nat) t v,Tryz.f4.params[j]?=some t->args[j]?=some v->Value.okWide Tryz.prog W .any base t v)
  (hW:DataW.Whole enc Tryz.prog Tryz.f4.params.toList Rows.clearancePartsSpec.vars false W args.toList ds gs before):
  Calls Tryz.prog 4 args W λe W'=>∃v,e=.returned v/\Rows.clearancePartsSpec.post enc Tryz.prog Tryz.f4 false true false false W args v W':=by
 have hW':=hW;obtain⟨p,q,hA0,hV,rfl,hfz,hnd⟩:=hW;have hA:DataW.TrodAll enc Tryz.prog W 0 (λ_=>true) true Tryz.f4.params.toList args.toList ds p:=hA0;rw[Tryz.params4]at hA hval;obtain⟨v0,vs0,d0,ds0,p0,q0,e0,rfl,rfl,h0,r0⟩:=trodAll_cons hA;obtain⟨v1,vs1,d1,ds1,p1,q1,e1,rfl,rfl,h1,r1⟩:=trodAll_cons r0;obtain⟨v2,vs2,d2,ds2,p2,q2,e2,rfl,rfl,h2,r2⟩:=trodAll_cons r1;obtain⟨en,rfl,rfl⟩:=trodAll_nil r2;obtain rfl:args= #[v0,v1,v2]:=by cases args;simp_all
 obtain⟨rfl,rfl⟩:=trodVars_none hV;obtain⟨y0,s0,k0⟩:=Ac 12 (tM) (by kernel_rfl) (hval 0 26 v0 rfl rfl) h0;obtain⟨y1,s1,k1⟩:=Ac 12 (tM) (by kernel_rfl) (hval 1 26 v1 rfl rfl) h1;obtain⟨y2,s2,k2⟩:=Ac 12 (.int .i8) (by kernel_rfl) (hval 2 22 v2 rfl rfl) h2;clear hA0;refine(Xw y0 y1 y2 k0 k1 k2 (λ_=>True) W [v0,v1,v2] Sd ⟨s0,s1,s2,trivial⟩).mono ?_;rintro e W' ⟨v,rfl,hb,hres⟩
 have hv:v=.bool true:=uO (G:=[]) (fv hres);subst hv;exact⟨_,rfl,Tv hW' rfl (by kernel_rfl) ⟨rfl,rfl,rfl⟩ (by kernel_rfl) hb⟩
set_option maxRecDepth 100000 in
theorem lifted(os:Os)(started:os.Started)(H:Type)(enc:TypeId×Value->H):
  ReturnsInHanded {} Tryz.checked os 4 .any (Rows.clearancePartsSpec.pre6 enc Tryz.prog Tryz.f4 Rows.clearancePartsRow.domain false) (Rows.clearancePartsSpec.post enc Tryz.prog Tryz.f4 false true false false):=by
 refine returnsInHanded_of_change (C:=Tryz.checked) OQ started (by kernel_rfl) Tryz.func4
  (ChangeSpec.witness6 (enc:=enc) (C:=Tryz.checked) false ⟨#[],#[.agg #[.int .u8 0,.int .u8 0,.int .i8 0,.int .i8 0,.int .i8 0,.int .i8 0,.int .i8 0,.int .i8 0,.int .u8 0,.int .u8 0,.int .i8 0,.int .i8 0,.int .i8 0,.int .i8 0,.int .i8 0,.int .i8 0,.int .u8 0],.agg #[.int .u8 0,.int .u8 0,.int .i8 0,.int .i8 0,.int .i8 0,.int .i8 0,.int .i8 0,.int .i8 0,.int .u8 0,.int .u8 0,.int .i8 0,.int .i8 0,.int .i8 0,.int .i8 0,.int .i8 0,.int .i8 0,.int .u8 0],.int .i8 0],[]⟩ 8 (by kernel_rfl) (by kernel_rfl) (by kernel_rfl) (by kernel_rfl)) ?_
 intro W base args ds gs before hval hW _ _;exact contract H enc W base args ds gs before hval hW
end Go.Proofs.YtagbmoohboleaaaGreat.lawClearanceParts
namespace Go.Proofs.YtagbmoohboleaaaGreat.lawClearanceParts
open Go.ChangeShapes Go.WideShapes Go.ChangeAt Go.RowKit
set_option maxRecDepth 100000 in
theorem amH:(Rows.clearancePartsRow.inPlace==Tryz.prog.inPlace 4)=true:=by kernel_rfl
set_option maxRecDepth 100000 in
theorem alZ:(Rows.clearancePartsRow.unfollowed==Tryz.prog.unfollowed 4)=true:=by kernel_rfl
set_option maxRecDepth 100000 in
theorem amD:(Rows.clearancePartsRow.recurses==Tryz.prog.recurses 4)=true:=by kernel_rfl
set_option maxRecDepth 100000 in
theorem alH:(Rows.clearancePartsRow.named==Tryz.prog.varsNamed 4)=true:=by kernel_rfl
set_option maxRecDepth 100000 in
theorem kf2:(laidOutB Tryz.prog)=true:=by kernel_rfl
set_option maxRecDepth 100000 in
theorem aml:(Tryz.prog.mayEnter)=true:=by kernel_rfl
theorem iS{a b:Bool}(h:a=true)(h':b=true):(a&&b)=true:=by rw[h,h'];rfl
set_option maxRecDepth 100000 in
theorem aeo:joinedFacts Tryz.prog 4 Tryz.f4 Rows.clearancePartsSpec Rows.clearancePartsRow=true:=by
 unfold joinedFacts;exact(iS (iS (iS (iS (iS (iS (iS (iS (iS (iS (iS (iS (iS (iS (iS (iS (iS (iS (iS (iS (iS (iS (iS (iS (iS (iS (iS (iS (iS (iS (iS (by kernel_rfl) kf2) (by kernel_rfl)) (by kernel_rfl)) (by kernel_rfl)) (by kernel_rfl)) (by kernel_rfl)) (by kernel_rfl)) (by kernel_rfl)) amH) alZ) amD) alH) (by kernel_rfl)) (by kernel_rfl)) (by kernel_rfl)) (by kernel_rfl)) (by kernel_rfl)) (by kernel_rfl)) (by kernel_rfl)) (by kernel_rfl)) (by kernel_rfl)) (by kernel_rfl)) (by kernel_rfl)) (by kernel_rfl)) aml) (by kernel_rfl)) (by kernel_rfl)) (by kernel_rfl)) (by kernel_rfl)) (by kernel_rfl)) (by kernel_rfl))
theorem proved:Rows.ClearancePartsSaid:=
 OpenClaim.holds_of_wide 4 Tryz.f4 rfl rfl rfl rfl rfl rfl rfl ⟨rfl,rfl,rfl,rfl,rfl⟩ rfl rfl rfl rfl rfl (by kernel_rfl) Tryz.func4 aeo
  (of_decide_eq_true (by kernel_rfl)) (by unfold Func.isWrapper;first|(rw[if_pos (by decide+kernel)];kernel_rfl)|(rw[if_neg (by decide+kernel)];exact⟨rfl,rfl⟩))
  (λos started H enc _=>lifted os started H enc)
end Go.Proofs.YtagbmoohboleaaaGreat.lawClearanceParts
