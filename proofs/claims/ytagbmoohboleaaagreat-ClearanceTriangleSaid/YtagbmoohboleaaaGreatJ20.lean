/- The examples of the chapter on clearance. -/
import Derived.Test.YtagbmoohboleaaaGreatJ19
import Derived.Test.YtagbmoohboleaaaGreatJ18
import Derived.Stop.Joined
noncomputable section
namespace Go.Proofs.YtagbmoohboleaaaGreat
open Go.RowKit Go.IntKind
section
open RE
abbrev sgC(a b:Rat×Rat):Cv:=(false,uv a b,dec o00,false,atP a,atP b)
abbrev arC(a b c:Rat×Rat):Cv:=(true,dec o00,rW a b c,decide (yE a b c<0),atP a,atP c)
abbrev fuA(c:Ln):Cv:=(true,dec o00,c,false,mW c,mY c)
abbrev fuB(c:Ln):Cv:=(true,dec o00,c,false,mY c,mW c)
theorem Od{a b:Rat×Rat}(h:z4 a b=false):dC (ka a b)=sgC a b:=by
 unfold ka dC;rw[h];simp only[cond_false,aA]
theorem aal{a b c:Rat×Rat}(h:fv a b c≠0):dC (mR a b c)=arC a b c:=by
 unfold mR dC;rw[dF h];simp only[cond_false,aA]
theorem uz{c:BCU}(h:gdN c):c.2.2.2.2.1=enc (frC (dC c))/\c.2.2.2.2.2=enc (toC (dC c)):=
 ⟨(Cod.ok_dec _ _ h.fr.1).1,(Cod.ok_dec _ _ h.to.1).1⟩
theorem mv{c d:BCU}(hc:gdN c)(hd:gdN d){c' d':Cv}(ec:dC c=c')(ed:dC d=d')(hs:cC c' d'=false)(hm:aeM c' d'=[]){r:Rat}(hr:decide (r<0)=false):o0 c d r=jg c' d' r:=by
 subst ec ed;have e:iM c d=[]:=by rw[QY (uz hc).1 (uz hc).2 (uz hd).1 (uz hd).2,hm];rfl
 have n:sN c d=false:=by unfold sN;rw[hs];rfl
 unfold o0 SJ;rw[e,n,hr];rfl
theorem BY{d:BCU}(hd:gdN d){p:Pt}{v:Rat×Rat}(e:p=atP v)(hv:Bd v 200)(r:Rat):poiE (dC d) (pR p) r=kS (dC d) v r:=by
 rw[e,mn];exact WR hd.e (wT (bv:=hv) hd.1.1).2 r
theorem mr{c d:BCU}(hc:gdN c)(hd:gdN d){a b u w:Rat×Rat}(ba:Bd a 200)(bb:Bd b 200)(bu:Bd u 200)(bw:Bd w 200)(e1:frC (dC c)=atP a)(e2:toC (dC c)=atP b)(e3:frC (dC d)=atP u)(e4:toC (dC d)=atP w)(r:Rat):
  uM (dC c) (dC d) r=min (min (min (kS (dC d) a r) (kS (dC d) b r)) (kS (dC c) u r)) (kS (dC c) w r):=by
 unfold uM;rw[BY hd e1 ba,BY hd e2 bb,BY hc e3 bu,BY hc e4 bw]
abbrev v00:Rat×Rat:=vcR 0 0
theorem ads:Bd v00 1:=⟨⟨⟨by decide+kernel,by decide+kernel⟩,⟨by decide+kernel,by decide+kernel⟩⟩⟩
theorem ak6:Bd v00 200:=ads.mono (by decide)
abbrev v40:Rat×Rat:=vcR 4 0
theorem aeB:Bd v40 1:=⟨⟨⟨by decide+kernel,by decide+kernel⟩,⟨by decide+kernel,by decide+kernel⟩⟩⟩
theorem alK:Bd v40 200:=aeB.mono (by decide)
abbrev v13:Rat×Rat:=vcR 1 3
theorem acS:Bd v13 1:=⟨⟨⟨by decide+kernel,by decide+kernel⟩,⟨by decide+kernel,by decide+kernel⟩⟩⟩
theorem ak0:Bd v13 200:=acS.mono (by decide)
abbrev v19:Rat×Rat:=vcR 1 9
theorem ab6:Bd v19 1:=⟨⟨⟨by decide+kernel,by decide+kernel⟩,⟨by decide+kernel,by decide+kernel⟩⟩⟩
theorem ame:Bd v19 200:=ab6.mono (by decide)
abbrev v10:Rat×Rat:=vcR 1 0
theorem ado:Bd v10 1:=⟨⟨⟨by decide+kernel,by decide+kernel⟩,⟨by decide+kernel,by decide+kernel⟩⟩⟩
theorem ahq:Bd v10 200:=ado.mono (by decide)
abbrev v01:Rat×Rat:=vcR 0 1
theorem akH:Bd v01 1:=⟨⟨⟨by decide+kernel,by decide+kernel⟩,⟨by decide+kernel,by decide+kernel⟩⟩⟩
abbrev vm1:Rat×Rat:=vcR (-1) 0
theorem ad6:Bd vm1 1:=⟨⟨⟨by decide+kernel,by decide+kernel⟩,⟨by decide+kernel,by decide+kernel⟩⟩⟩
theorem afS:Bd vm1 200:=ad6.mono (by decide)
abbrev v30:Rat×Rat:=vcR 3 0
theorem abP:Bd v30 1:=⟨⟨⟨by decide+kernel,by decide+kernel⟩,⟨by decide+kernel,by decide+kernel⟩⟩⟩
theorem KG:Bd v30 200:=abP.mono (by decide)
abbrev v03:Rat×Rat:=vcR 0 3
theorem alL:Bd v03 1:=⟨⟨⟨by decide+kernel,by decide+kernel⟩,⟨by decide+kernel,by decide+kernel⟩⟩⟩
abbrev vm3:Rat×Rat:=vcR (-3) 0
theorem ade:Bd vm3 1:=⟨⟨⟨by decide+kernel,by decide+kernel⟩,⟨by decide+kernel,by decide+kernel⟩⟩⟩
theorem akP:Bd vm3 200:=ade.mono (by decide)
abbrev vm5:Rat×Rat:=vcR (-5) 3
theorem adZ:Bd vm5 1:=⟨⟨⟨by decide+kernel,by decide+kernel⟩,⟨by decide+kernel,by decide+kernel⟩⟩⟩
theorem amr:Bd vm5 200:=adZ.mono (by decide)
abbrev v53:Rat×Rat:=vcR 5 3
theorem aez:Bd v53 1:=⟨⟨⟨by decide+kernel,by decide+kernel⟩,⟨by decide+kernel,by decide+kernel⟩⟩⟩
theorem akW:Bd v53 200:=aez.mono (by decide)
abbrev vm2:Rat×Rat:=vcR (-2) 0
theorem ak5:Bd vm2 1:=⟨⟨⟨by decide+kernel,by decide+kernel⟩,⟨by decide+kernel,by decide+kernel⟩⟩⟩
theorem Na:Bd vm2 200:=ak5.mono (by decide)
abbrev v20:Rat×Rat:=vcR 2 0
theorem amt:Bd v20 1:=⟨⟨⟨by decide+kernel,by decide+kernel⟩,⟨by decide+kernel,by decide+kernel⟩⟩⟩
theorem RW:Bd v20 200:=amt.mono (by decide)
abbrev v90:Rat×Rat:=vcR 9 0
theorem al3:Bd v90 1:=⟨⟨⟨by decide+kernel,by decide+kernel⟩,⟨by decide+kernel,by decide+kernel⟩⟩⟩
theorem NC:Bd v90 200:=al3.mono (by decide)
abbrev lF:Ln:=(((0:Int):Rat),((0:Int):Rat),((4:Int):Rat))
abbrev lG:Ln:=(((6:Int):Rat),((0:Int):Rat),((9:Int):Rat))
theorem blF:BdC lF:=⟨⟨by decide+kernel,by decide+kernel⟩,⟨by decide+kernel,by decide+kernel⟩,⟨by decide+kernel,by decide+kernel⟩⟩
theorem blG:BdC lG:=⟨⟨by decide+kernel,by decide+kernel⟩,⟨by decide+kernel,by decide+kernel⟩,⟨by decide+kernel,by decide+kernel⟩⟩
theorem gS1:gdN (ka v00 v40):=C4 (ba:=ads) (bb:=aeB) (by decide+kernel)
theorem dS1:dC (ka v00 v40)=sgC v00 v40:=Od (by decide+kernel)
theorem gS2:gdN (ka v13 v19):=C4 (ba:=acS) (bb:=ab6) (by decide+kernel)
theorem dS2:dC (ka v13 v19)=sgC v13 v19:=Od (by decide+kernel)
theorem gS3:gdN (ka vm5 v53):=C4 (ba:=adZ) (bb:=aez) (by decide+kernel)
theorem dS3:dC (ka vm5 v53)=sgC vm5 v53:=Od (by decide+kernel)
theorem gH1:gdN (mR v10 v01 vm1):=by
 have:=ado;have:=ad6;exact Hm (bc:=⟨⟨by decide+kernel,by decide+kernel⟩,⟨by decide+kernel,by decide+kernel⟩,⟨by decide+kernel,by decide+kernel⟩⟩) (by decide+kernel)
theorem dH1:dC (mR v10 v01 vm1)=arC v10 v01 vm1:=aal (by decide+kernel)
theorem gH3:gdN (mR v30 v03 vm3):=by
 have:=abP;have:=ade;exact Hm (bc:=⟨⟨by decide+kernel,by decide+kernel⟩,⟨by decide+kernel,by decide+kernel⟩,⟨by decide+kernel,by decide+kernel⟩⟩) (by decide+kernel)
theorem dH3:dC (mR v30 v03 vm3)=arC v30 v03 vm3:=aal (by decide+kernel)
theorem c12:o0 (ka v00 v40) (ka v13 v19) ((3:Int):Rat)=0:=by
 rw[mv gS1 gS2 dS1 dS2 (by decide+kernel) (by decide+kernel) (by decide+kernel)];have:=mr gS1 gS2 ak6 alK ak0 ame (by rw[dS1];rfl) (by rw[dS1];rfl) (by rw[dS2];rfl) (by rw[dS2];rfl) ((3:Int):Rat);rw[dS1,dS2]at this;unfold jg;rw[this];decide+kernel
theorem cHH:o0 (mR v10 v01 vm1) (mR v30 v03 vm3) ((2:Int):Rat)=0:=by
 rw[mv gH1 gH3 dH1 dH3 (by decide+kernel) (by decide+kernel) (by decide+kernel)];have:=mr gH1 gH3 ahq afS KG akP (by rw[dH1];rfl) (by rw[dH1];rfl) (by rw[dH3];rfl) (by rw[dH3];rfl) ((2:Int):Rat);rw[dH1,dH3]at this;unfold jg;rw[this];decide+kernel
theorem cHS:o0 (mR v10 v01 vm1) (ka vm5 v53) ((2:Int):Rat)=0:=by
 rw[mv gH1 gS3 dH1 dS3 (by decide+kernel) (by decide+kernel) (by decide+kernel)];have:=mr gH1 gS3 ahq afS amr akW (by rw[dH1];rfl) (by rw[dH1];rfl) (by rw[dS3];rfl) (by rw[dS3];rfl) ((2:Int):Rat);rw[dH1,dS3]at this;unfold jg;rw[this];decide+kernel
abbrev kF1:BCU:=(true,o00,enc lF,false,enc (mW lF),enc (mY lF))
abbrev kF2:BCU:=(true,o00,enc lF,false,enc (mY lF),enc (mW lF))
abbrev kG1:BCU:=(true,o00,enc lG,false,enc (mW lG),enc (mY lG))
abbrev kG2:BCU:=(true,o00,enc lG,false,enc (mY lG),enc (mW lG))
theorem fF:wG (enc lF)=[kF1,kF2]:=by unfold wG;rw[aA]
theorem fG:wG (enc lG)=[kG1,kG2]:=by unfold wG;rw[aA]
theorem Gc:gdN kF1:=zt (bc:=blF) (by decide+kernel) _ (by rw[fF];simp)
theorem wF:dC kF1=fuA lF:=by unfold dC;simp only[aA]
theorem Pa:gdN kF2:=zt (bc:=blF) (by decide+kernel) _ (by rw[fF];simp)
theorem Fv:dC kF2=fuB lF:=by unfold dC;simp only[aA]
theorem Gu:gdN kG1:=zt (bc:=blG) (by decide+kernel) _ (by rw[fG];simp)
theorem wI:dC kG1=fuA lG:=by unfold dC;simp only[aA]
theorem P1:gdN kG2:=zt (bc:=blG) (by decide+kernel) _ (by rw[fG];simp)
theorem DV:dC kG2=fuB lG:=by unfold dC;simp only[aA]
theorem Ua:nrZ kF1 ((1:Int):Rat) kG1=false:=by
 unfold nrZ;rw[mv Gc Gu wF wI (by decide+kernel) (by decide+kernel) (by decide+kernel)];have:=mr Gc Gu Na RW KG NC (by rw[wF];decide+kernel) (by rw[wF];decide+kernel) (by rw[wI];decide+kernel) (by rw[wI];decide+kernel) ((1:Int):Rat);rw[wF,wI]at this;unfold jg;rw[this];decide+kernel
theorem TW:nrZ kF1 ((1:Int):Rat) kG2=false:=by
 unfold nrZ;rw[mv Gc P1 wF DV (by decide+kernel) (by decide+kernel) (by decide+kernel)];have:=mr Gc P1 Na RW NC KG (by rw[wF];decide+kernel) (by rw[wF];decide+kernel) (by rw[DV];decide+kernel) (by rw[DV];decide+kernel) ((1:Int):Rat);rw[wF,DV]at this;unfold jg;rw[this];decide+kernel
theorem Vn:nrZ kF2 ((1:Int):Rat) kG1=false:=by
 unfold nrZ;rw[mv Pa Gu Fv wI (by decide+kernel) (by decide+kernel) (by decide+kernel)];have:=mr Pa Gu RW Na KG NC (by rw[Fv];decide+kernel) (by rw[Fv];decide+kernel) (by rw[wI];decide+kernel) (by rw[wI];decide+kernel) ((1:Int):Rat);rw[Fv,wI]at this;unfold jg;rw[this];decide+kernel
theorem Vy:nrZ kF2 ((1:Int):Rat) kG2=false:=by
 unfold nrZ;rw[mv Pa P1 Fv DV (by decide+kernel) (by decide+kernel) (by decide+kernel)];have:=mr Pa P1 RW Na NC KG (by rw[Fv];decide+kernel) (by rw[Fv];decide+kernel) (by rw[DV];decide+kernel) (by rw[DV];decide+kernel) ((1:Int):Rat);rw[Fv,DV]at this;unfold jg;rw[this];decide+kernel
theorem amn:nrZ kF1 (Rat.divInt 11 10) kG1=true:=by
 unfold nrZ;rw[mv Gc Gu wF wI (by decide+kernel) (by decide+kernel) (by decide+kernel)];have:=mr Gc Gu Na RW KG NC (by rw[wF];decide+kernel) (by rw[wF];decide+kernel) (by rw[wI];decide+kernel) (by rw[wI];decide+kernel) (Rat.divInt 11 10);rw[wF,wI]at this;unfold jg;rw[this];decide+kernel
theorem fi1:decide (Cy [kF1,kF2] [kG1,kG2] ((1:Int):Rat)<0)=true:=by
 unfold Cy D6 D6 D6 GQ;simp only[ap4,List.any_nil,Ua,TW,Vn,Vy,Bool.or_false,Bool.not_false,Bool.not_true,cond_false];rfl
theorem fi2:decide (Cy [kF1,kF2] [kG1,kG2] (Rat.divInt 11 10)<0)=false:=by
 unfold Cy D6 GQ;simp only[ap4,amn,Bool.true_or,Bool.not_true,Bool.not_false,cond_true];rfl
theorem mGF:∀x∈[kF1,kF2],mG x:=by
 intro x hx;simp only[ane,aoi,apJ]at hx;rcases hx with e|e<;>rw[e]
 ·exact Gc.1
 ·exact Pa.1
theorem mGG:∀x∈[kG1,kG2],mG x:=by
 intro x hx;simp only[ane,aoi,apJ]at hx;rcases hx with e|e<;>rw[e]
 ·exact Gu.1
 ·exact P1.1
theorem okZ{n:Int}(h:aI n):ok Rat 1000 (ao (n:Rat)):=by
 have:=cN h;exact amZ (okd (by decide) (by decide))
def IJ:List En:=[enL n9,enL OL]
def X6(x y:Int)(_k:KT):OLR:=og (decide (aI x)) (og (decide (aI y)) (some [RV.d tV (hid (ao (x:Rat)),hid (ao (y:Rat)))]))
def afD:Cn 115 [aqh,aqh]:=cn λ(x y:Int)=>lf (aI x/\aI y) [.d tV (enc (vcR x y))] λh=>by
 refine aB IJ (X6 x y) ⟨0,?_⟩;unfold X6;rw[dT h.1,dT h.2];simp only[bL];rfl
def YB(a b:BV)(_k:KT):OLR:=og (decide (ok (Rat×Rat) 100 a/\ok (Rat×Rat) 100 b)) (some [RV.d tCU (hid (ka (dec a) (dec b)))])
def afz:Cn 114 [tV,tV]:=cn λ(a b:BV)=>lf (ok (Rat×Rat) 100 a/\ok (Rat×Rat) 100 b) [.d tCU (ka (dec a) (dec b))] λh=>by
 refine aB IJ (YB a b) ⟨0,?_⟩;unfold YB;rw[dT h];simp only[bL]
def Km:List En:=[enL n9,enL afz,enL afD,enL Nc,enT Si,enL Ya,enF aiN,enL F8]
def Qb:NT:=[((15,3),{keep:=[3,4,5,7],hl:=0}),((15,5),{keep:=[1,8,9,10,12],hl:=0}),((15,7),{keep:=[1,2,13,14,15,16,18,19,20,21,22,25,26,27,28,29,32,33,34,35,36,38,39,40,41,42],hl:=0})]
def Vq:Ctx:=CX (ens Km) Qb
def IQ(_k:KT):OLR:=let y1:=ao ((0:Int):Rat);let y2:=hid (enc (vcR (0:Int) (0:Int)));let y3:=hid (enc (vcR (4:Int) (0:Int)));let y4:=hid (enc (vcR (1:Int) (3:Int)));let y5:=hid (enc (vcR (1:Int) (9:Int)));let y6:=hid (ka (dec y2) (dec y3));let y7:=hid (ka (dec y4) (dec y5));let y8:=hid (ao ((3:Int):Rat));let y9:=i64.wrap (0+1);let y10:=i64.wrap (0-1);let y11:=hid (enc (vcR y9 (0:Int)));let y12:=hid (enc (vcR (0:Int) y9));let y13:=hid (enc (vcR y10 (0:Int)));let y14:=i64.wrap (0+3);let y15:=i64.wrap (0-3);let y16:=hid (enc (vcR y14 (0:Int)));let y17:=hid (enc (vcR (0:Int) y14));let y18:=hid (enc (vcR y15 (0:Int)));let y19:=hid (mR (dec y11) (dec y12) (dec y13));let y20:=hid (mR (dec y16) (dec y17) (dec y18));let y21:=hid (ao ((2:Int):Rat));let y22:=hid (enc (vcR ((-5):Int) (3:Int)));let y23:=hid (enc (vcR (5:Int) (3:Int)));let y24:=hid (ka (dec y22) (dec y23));let y25:=wG (hid y1,(hid y1,hid (ao ((4:Int):Rat))));let y26:=wG (hid (ao ((6:Int):Rat)),(hid y1,hid (ao ((9:Int):Rat))));let y27:=hid (ao ((1:Int):Rat));let y28:=hid (ao (Rat.divInt (11:Int) (10:Int)));og (decide (aI (0:Int))) (og (decide (aI (0:Int))) (og (decide (aI (4:Int))) (og (decide (cg (hid y1,(hid y1,hid (ao ((4:Int):Rat)))))) (og (decide (aI (6:Int))) (og (decide (aI (0:Int))) (og (decide (aI (9:Int))) (og (decide (cg (hid (ao ((6:Int):Rat)),(hid y1,hid (ao ((9:Int):Rat)))))) (og (decide (aI (0:Int)/\aI (0:Int))) (og (decide (aI (4:Int)/\aI (0:Int))) (og (decide (ok (Rat×Rat) 100 y2/\ok (Rat×Rat) 100 y3)) (og (decide (aI (1:Int)/\aI (3:Int))) (og (decide (aI (1:Int)/\aI (9:Int))) (og (decide (ok (Rat×Rat) 100 y4/\ok (Rat×Rat) 100 y5)) (og (decide (aI (3:Int))) (og (decide (iO y6 y7/\ok Rat 1000 y8)) (match(o0 y6 y7 (ah y8))==0 with|true=>(og (decide (aI y9/\aI (0:Int))) (og (decide (aI (0:Int)/\aI y9)) (og (decide (aI y10/\aI (0:Int))) (og (decide (ok (Rat×Rat) 100 y11/\ok (Rat×Rat) 100 y12/\ok (Rat×Rat) 100 y13)) (og (decide (aI y14/\aI (0:Int))) (og (decide (aI (0:Int)/\aI y14)) (og (decide (aI y15/\aI (0:Int))) (og (decide (ok (Rat×Rat) 100 y16/\ok (Rat×Rat) 100 y17/\ok (Rat×Rat) 100 y18)) (og (decide (aI (2:Int))) (og (decide (iO y19 y20/\ok Rat 1000 y21)) (match(o0 y19 y20 (ah y21))==0 with|true=>(og (decide (aI y9/\aI (0:Int))) (og (decide (aI (0:Int)/\aI y9)) (og (decide (aI y10/\aI (0:Int))) (og (decide (ok (Rat×Rat) 100 y11/\ok (Rat×Rat) 100 y12/\ok (Rat×Rat) 100 y13)) (og (decide (aI ((-5):Int)/\aI (3:Int))) (og (decide (aI (5:Int)/\aI (3:Int))) (og (decide (ok (Rat×Rat) 100 y22/\ok (Rat×Rat) 100 y23)) (og (decide (aI (2:Int))) (og (decide (iO y19 y24/\ok Rat 1000 y21)) (match(o0 y19 y24 (ah y21))==0 with|true=>(og (decide (aI (1:Int))) (og (decide (Dh y25 y26 y27)) (match decide (Cy y25 y26 (ah y27)<0)with|true=>(og (decide (zX (11:Int) (10:Int))) (og (decide (Dh y25 y26 y28)) (some [RV.d .bool (!(decide (Cy y25 y26 (ah y28)<0)))])))|false=>some [RV.d .bool false])))|false=>some [RV.d .bool false]))))))))))|false=>some [RV.d .bool false])))))))))))|false=>some [RV.d .bool false]))))))))))))))))
theorem Vd:RS Vq 15 [] (IQ):=rsX
def W4:Cn 15 []:=cn<|lf True [.d .bool true] λ_=>by
 have i0:decide (aI 0)=true:=by decide
 have i1:decide (aI 1)=true:=by decide
 have i2:decide (aI 2)=true:=by decide
 have i3:decide (aI 3)=true:=by decide
 have i4:decide (aI 4)=true:=by decide
 have i6:decide (aI 6)=true:=by decide
 have i9:decide (aI 9)=true:=by decide
 have i5:decide (aI 5)=true:=by decide
 have jv00:decide (aI (0)/\aI (0))=true:=by decide
 have jv40:decide (aI (4)/\aI (0))=true:=by decide
 have jv13:decide (aI (1)/\aI (3))=true:=by decide
 have jv19:decide (aI (1)/\aI (9))=true:=by decide
 have jv10:decide (aI (1)/\aI (0))=true:=by decide
 have jv01:decide (aI (0)/\aI (1))=true:=by decide
 have jvm1:decide (aI (-1)/\aI (0))=true:=by decide
 have jv30:decide (aI (3)/\aI (0))=true:=by decide
 have jv03:decide (aI (0)/\aI (3))=true:=by decide
 have jvm3:decide (aI (-3)/\aI (0))=true:=by decide
 have jvm5:decide (aI (-5)/\aI (3))=true:=by decide
 have jv53:decide (aI (5)/\aI (3))=true:=by decide
 have jvm2:decide (aI (-2)/\aI (0))=true:=by decide
 have jv20:decide (aI (2)/\aI (0))=true:=by decide
 have jv90:decide (aI (9)/\aI (0))=true:=by decide
 have o1:decide (ok (Rat×Rat) 100 (enc v00)/\ok (Rat×Rat) 100 (enc v40))=true:=dT ⟨amZ (okd (h:=ads) (by decide) (by decide)),amZ (okd (h:=aeB) (by decide) (by decide))⟩;have o2:decide (ok (Rat×Rat) 100 (enc v13)/\ok (Rat×Rat) 100 (enc v19))=true:=dT ⟨amZ (okd (h:=acS) (by decide) (by decide)),amZ (okd (h:=ab6) (by decide) (by decide))⟩;have o3:decide (ok (Rat×Rat) 100 (enc vm5)/\ok (Rat×Rat) 100 (enc v53))=true:=dT ⟨amZ (okd (h:=adZ) (by decide) (by decide)),amZ (okd (h:=aez) (by decide) (by decide))⟩;have o4:decide (ok (Rat×Rat) 100 (enc v10)/\ok (Rat×Rat) 100 (enc v01)/\ok (Rat×Rat) 100 (enc vm1))=true:=dT ⟨amZ (okd (h:=ado) (by decide) (by decide)),amZ (okd (h:=akH) (by decide) (by decide)),amZ (okd (h:=ad6) (by decide) (by decide))⟩;have o5:decide (ok (Rat×Rat) 100 (enc v30)/\ok (Rat×Rat) 100 (enc v03)/\ok (Rat×Rat) 100 (enc vm3))=true:=dT ⟨amZ (okd (h:=abP) (by decide) (by decide)),amZ (okd (h:=alL) (by decide) (by decide)),amZ (okd (h:=ade) (by decide) (by decide))⟩;have m1:decide (iO (ka v00 v40) (ka v13 v19)/\ok Rat 1000 (ao ((3:Int):Rat)))=true:=dT ⟨⟨gS1.1,gS2.1⟩,okZ (by decide)⟩;have m2:decide (iO (mR v10 v01 vm1) (mR v30 v03 vm3)/\ok Rat 1000 (ao ((2:Int):Rat)))=true:=dT ⟨⟨gH1.1,gH3.1⟩,okZ (by decide)⟩;have m3:decide (iO (mR v10 v01 vm1) (ka vm5 v53)/\ok Rat 1000 (ao ((2:Int):Rat)))=true:=dT ⟨⟨gH1.1,gS3.1⟩,okZ (by decide)⟩;have f1:decide (Dh [kF1,kF2] [kG1,kG2] (ao ((1:Int):Rat)))=true:=dT ⟨mGF,mGG,by decide,by decide,okZ (by decide)⟩;have f2:decide (Dh [kF1,kF2] [kG1,kG2] (ao (Rat.divInt 11 10)))=true:=dT ⟨mGF,mGG,by decide,by decide,by have:=bQ 11 10 (by decide);exact amZ (okd (by decide) (by decide))⟩;have q1:decide (zX 11 10)=true:=by decide
 have l1:((ao ((0:Int):Rat),(ao ((0:Int):Rat),ao ((4:Int):Rat))):BO3)=enc lF:=rfl;have l2:((ao ((6:Int):Rat),(ao ((0:Int):Rat),ao ((9:Int):Rat))):BO3)=enc lG:=rfl;have k1:decide (cg (enc lF))=true:=dT (iD (h:=blF) (by decide+kernel));have k2:decide (cg (enc lG))=true:=dT (iD (h:=blG) (by decide+kernel));have w1:i64.wrap (0+1)=1:=by decide
 have w2:i64.wrap (0-1)= -1:=by decide
 have w3:i64.wrap (0+3)=3:=by decide
 have w4:i64.wrap (0-3)= -3:=by decide
 refine da Km (Vd ⟨0,?_⟩);unfold IQ;simp only[aU,w1,w2,w3,w4,l1,l2,k1,k2,f1,f2,q1,fF,fG,fi1,fi2,c12,cHH,cHS,i0,i1,i2,i3,i4,i6,i9,jv00,jv40,jv13,jv19,jv10,jv01,jvm1,jv30,jv03,jvm3,jvm5,jv53,o1,o2,o3,o4,o5,m1,m2,m3];rfl
end
section
open RE in
theorem Iq{c:BCU}(hc:gdN c){v:Rat×Rat}(hv:Bd v 200){r:Rat}(h:kS (dC c) v r<=0):0<=r/\∃p a,onE (dC c) p/\0<=a/\a<=of r/\dsE p (vE v)=a*a:=by
 have r0:0<=r:=by
  by_cases g:r<0
  ·unfold kS at h;rw[dT g,cond_true]at h;exact absurd h (by decide)
  ·grind
 rw[Hg hc hv r0]at h;have h:=Oy.1 h;obtain⟨⟨p,hp,e⟩,_⟩:=Gq hc.e v;rw[<-e,of_mul]at h;have n:=wu p (vE v);refine⟨r0,p,kH (dsE p (vE v)),hp,dK _,?_,(gI n).symm⟩;refine sd _ _ (dK _) (fQ.2 r0) ?_;rw[gI n];grind
open RE in
theorem afp{c d:BCU}(hc:gdN c)(hd:gdN d){v:Rat×Rat}(hv:Bd v 200){r s:Rat}(h1:kS (dC c) v r<=0)(h2:kS (dC d) v s<=0):o0 c d (r+s)<=0:=by
 obtain⟨r0,p,a,hp,a0,ar,ea⟩:=Iq hc hv h1;obtain⟨s0,q,b,hq,b0,bs,eb⟩:=Iq hd hv h2;obtain⟨m,_,lo,X⟩:=afj hc hd;rw[X (r+s) (by grind)];refine Oy.2 ?_;have l:=lo p q hp hq;have t:=ahU (u:=(p.1-(vE v).1,p.2-(vE v).2)) (w:=((vE v).1-q.1,(vE v).2-q.2)) a0 b0 (by rw[<-ea];rfl) (by rw[<-eb,lI];rfl)
 have e:dtE (p.1-(vE v).1+((vE v).1-q.1),p.2-(vE v).2+((vE v).2-q.2)) (p.1-(vE v).1+((vE v).1-q.1),p.2-(vE v).2+((vE v).2-q.2))=dsE p q:=by
  unfold dtE dsE;dsimp only;grind
 have t:dtE (p.1-(vE v).1+((vE v).1-q.1),p.2-(vE v).2+((vE v).2-q.2)) (p.1-(vE v).1+((vE v).1-q.1),p.2-(vE v).2+((vE v).2-q.2))<=(a+b)*(a+b):=t;rw[e]at t;have f:=RE.sq_mono (a+b) (of (r+s)) (by grind) (by rw[of_add];grind);rw[of_mul];have:=le_trans l (le_trans t f);grind
def Js:List En:=[enT W4,enL aew,enL ajc,enT Si,enT agd,enL oN]
def Aa:Ctx:=CX (ens Js) []
def r9(x y:Pce)(n:Int×Int×Int×Int)(_k:KT):OLR:=og (decide (zV x)) (og (decide (zV y)) (match !(zU x)with|true=>some [RV.d .bool true]|false=>(match !(zU y)with|true=>some [RV.d .bool true]|false=>(og (decide (i8P n.1)) (og (decide (i8P n.2.1)) (og (decide (i8P n.2.2.1)) (og (decide (i8P n.2.2.2)) (og (decide (gdC (hid (oe x))/\ok (Rat×Rat) 200 (hid (ao (Rat.divInt n.1 4)),hid (ao (Rat.divInt n.2.1 4)))/\ok Rat 1000 (hid (ao (Rat.divInt n.2.2.1 4))))) (match decide ((kS (dC (hid (oe x))) (dec (hid (ao (Rat.divInt n.1 4)),hid (ao (Rat.divInt n.2.1 4)))) (ah (hid (ao (Rat.divInt n.2.2.1 4)))))>0)with|true=>some [RV.d .bool true]|false=>(og (decide (gdC (hid (oe y))/\ok (Rat×Rat) 200 (hid (ao (Rat.divInt n.1 4)),hid (ao (Rat.divInt n.2.1 4)))/\ok Rat 1000 (hid (ao (Rat.divInt n.2.2.2 4))))) (match decide ((kS (dC (hid (oe y))) (dec (hid (ao (Rat.divInt n.1 4)),hid (ao (Rat.divInt n.2.1 4)))) (ah (hid (ao (Rat.divInt n.2.2.2 4)))))>0)with|true=>some [RV.d .bool true]|false=>(og (o2 (hid (ao (Rat.divInt n.2.2.1 4))) (hid (ao (Rat.divInt n.2.2.2 4)))) (og (decide (iO (hid (oe x)) (hid (oe y))/\ok Rat 1000 (hAd (hid (ao (Rat.divInt n.2.2.1 4))) (hid (ao (Rat.divInt n.2.2.2 4)))))) (some [RV.d .bool (decide ((o0 (hid (oe x)) (hid (oe y)) (ah (hAd (hid (ao (Rat.divInt n.2.2.1 4))) (hid (ao (Rat.divInt n.2.2.2 4))))))<=0))]))))))))))))))
theorem zW(x y:Pce)(n:Int×Int×Int×Int):RS Aa 5 [.d yn x,.d yn y,.d (.st (.pair (.int .i8) (.pair (.int .i8) (.pair (.int .i8) (.int .i8))))) n] (r9 x y n):=rsX
theorem WJ(x y:Pce)(n:Int×Int×Int×Int)(hx:Ty.ok yn x)(hy:Ty.ok yn y)(hn:Ty.ok (.st (.pair (.int .i8) (.pair (.int .i8) (.pair (.int .i8) (.int .i8))))) n):CQq7 5 [.d yn x,.d yn y,.d (.st (.pair (.int .i8) (.pair (.int .i8) (.pair (.int .i8) (.int .i8))))) n] [.d .bool true]:=by
 have h1:=PV hx;have h2:=PV hy;have h3:=sh hn.1;have h4:=sh hn.2.1;have h5:=sh hn.2.2.1;have h6:=sh hn.2.2.2;refine da Js (zW _ _ _ ⟨0,?_⟩);unfold r9;rw[dT h1,dT h2];cases ho:zU x
 ·rfl
 ·cases hp:zU y
  ·rfl
  ·have gx:=Id h1 ho;have gy:=Id h2 hp;have c1:=yd h3;have c2:=yd h4;have c3:=yd h5;have c4:=yd h6;have o3:=TA h5 (k:=1000) (by decide) (by decide);have o4:=TA h6 (k:=1000) (by decide) (by decide);have bv0:Bd ((Rat.divInt n.1 4,Rat.divInt n.2.1 4):Rat×Rat) _:=inferInstance;have bv:Bd ((Rat.divInt n.1 4,Rat.divInt n.2.1 4):Rat×Rat) 200:=bv0.mono (by decide);have ov:ok (Rat×Rat) 200 (enc ((Rat.divInt n.1 4,Rat.divInt n.2.1 4):Rat×Rat)):=amZ (okd (by decide) (by decide));have e0:((ao (Rat.divInt n.1 4),ao (Rat.divInt n.2.1 4)):BV)=enc ((Rat.divInt n.1 4,Rat.divInt n.2.1 4):Rat×Rat):=rfl;have oR:o2 (ao (Rat.divInt n.2.2.1 4)) (ao (Rat.divInt n.2.2.2 4))=true:=by simp only[aU,Nat.reduceLeDiff]
   have bs:Bd (Rat.divInt n.2.2.1 4+Rat.divInt n.2.2.2 4) _:=inferInstance;have os:ok Rat 1000 (ao (Rat.divInt n.2.2.1 4+Rat.divInt n.2.2.2 4)):=amZ (okd (x:=Rat.divInt n.2.2.1 4+Rat.divInt n.2.2.2 4) (by decide) (by decide));simp only[bL,ct,e0,aA,dT h3,dT h4,dT h5,dT h6,oR,dT (show gdC (oe x)/\ok (Rat×Rat) 200 (enc ((Rat.divInt n.1 4,Rat.divInt n.2.1 4):Rat×Rat))/\ok Rat 1000 (ao (Rat.divInt n.2.2.1 4)) from⟨gx.gd,ov,o3⟩),dT (show gdC (oe y)/\ok (Rat×Rat) 200 (enc ((Rat.divInt n.1 4,Rat.divInt n.2.1 4):Rat×Rat))/\ok Rat 1000 (ao (Rat.divInt n.2.2.2 4)) from⟨gy.gd,ov,o4⟩),dT (show iO (oe x) (oe y)/\ok Rat 1000 (ao (Rat.divInt n.2.2.1 4+Rat.divInt n.2.2.2 4)) from⟨⟨gx.1,gy.1⟩,os⟩)];by_cases g1:kS (dC (oe x)) (Rat.divInt n.1 4,Rat.divInt n.2.1 4) (Rat.divInt n.2.2.1 4)>0
   ·rw[dT g1];rfl
   ·by_cases g2:kS (dC (oe y)) (Rat.divInt n.1 4,Rat.divInt n.2.1 4) (Rat.divInt n.2.2.2 4)>0
    ·rw[dF g1,dT g2];rfl
    ·rw[dF g1,dF g2,dT (afp gx gy bv (Int.not_lt.1 g1) (Int.not_lt.1 g2))];rfl
end
section
open Go.ChangeShapes Go.WideShapes Go.ChangeAt Go.WideMaps Go.WideElems Go.RowKit Go.Maps
section
variable {H:Type} {enc:TypeId×Value->H} {P:Program}
theorem z6{f:Func}{s:ChangeSpec}{apart fresh handsOn again:Bool}{W W':World}{args:Array Value}{v:Value}{ds gs:List (DataW H)}{before pa pv:List MemPlace}
  (hW:DataW.Whole enc P f.params.toList s.vars apart W args.toList ds gs before)
  (hres:∀(b:Nat) (sp:Nat->Bool) (hd:Bool),DataW.TrodAll enc P W' b sp hd f.resultTypes.toList (v.resultList f.resultTypes.size) (s.fn H (ds++gs)).results [])
  (hargs:∀sp:Nat->Bool,(∀p∈before,sp p.block=true)->DataW.TrodAll enc P W' 0 sp true f.params.toList args.toList (s.fn H (ds++gs)).args pa)
  (hvars:∀sp:Nat->Bool,(∀p∈before,sp p.block=true)->DataW.TrodVars enc P W' sp s.vars (s.fn H (ds++gs)).vars pv)
  (hps:before=pa++pv) (hb:Below W.heap.size W W')
  (hok:∀(j:Nat) (t:TypeId) (r:Value),f.resultTypes[j]?=some t->(v.resultList f.resultTypes.size)[j]?=some r->Value.okWide P W' .any 0 t r):
  s.post enc P f apart fresh handsOn again W args v W':=by
 have hlt:∀p∈before,p.block<W.heap.size:=λp hp=>hW.lt p hp;have hold:∀p∈before,(λb=>decide (b<W.heap.size)) p.block=true:=λp hp=>by simpa using hlt p hp
 refine⟨ds,gs,before,[],pa,pv,hW,hres _ _ _,hargs _ hold,hvars _ hold,World.keptBut_mono (λp hp=>⟨hp,?_⟩) (hb.frame (·∈before)),λ_=>?_⟩
 ·grind
 ·obtain⟨_,_,_,_,_,hz,hn⟩:=hW;refine⟨hok,_,_,([]++pa)++pv,⟨[]++pa,pv,trodAll_append (hargs _ (λ_ _=>rfl)) (hres _ _ _),hvars _ (λ_ _=>rfl),rfl,?_,?_⟩,?_⟩
  ·intro b off hp;have hin:MemPlace.cell b off∈before:=by rw[hps];simpa using hp
   rw[hb.frozen (hlt _ hin)];exact hz b off hin
  ·grind
  grind
end
theorem MH:laidOutB Tryz.prog=true:=by kernel_rfl
theorem r7{H:Type}{enc:TypeId×Value->H}{P:Program}(hl:laidOutB P=true){W W':World}{sp:Nat->Bool}:∀(ts:List TypeId) (vs:List Value) (ds:List (DataW H)) (ps:List MemPlace),
  (ts.all λt=>P.readableRec t&&Nat.ble (t+1) P.types.size)=true->DataW.TrodAll enc P W 0 (λ_=>true) true ts vs ds ps->(∀p∈ps,W.sameAt W' p)->(∀p∈ps,sp p.block=true)->DataW.TrodAll enc P W' 0 sp true ts vs ds ps
 |[],vs,ds,ps,_,h,_,_=>by obtain⟨rfl,rfl,rfl⟩:=trodAll_nil h;exact trodAll_mk0
 |t::ts,vs,ds,ps,ht,h,hs,hp=>by
  obtain⟨v,vs',d,ds',p,q,rfl,rfl,rfl,h0,h1⟩:=trodAll_cons h;simp only[apI,am0]at ht
  exact trodAll_cons_mk (Trod_stays hl ht.1.1 (am3 ht.1.2) h0 (λx hx=>hs x (aov _ hx)) (λx hx=>hp x (aov _ hx)))
   (r7 hl ts vs' ds' q ht.2 h1 (λx hx=>hs x (aoZ _ hx)) (λx hx=>hp x (aoZ _ hx)))
set_option maxRecDepth 100000 in
theorem OK{H:Type}{enc:TypeId×Value->H}{f:Func}{s:ChangeSpec}{apart fresh handsOn again:Bool}{W W':World}{args:Array Value}{ds:List (DataW H)}{before:List MemPlace}
  (hW:DataW.Whole enc Tryz.prog f.params.toList s.vars apart W args.toList ds [] before) (hv:s.vars=[]) (hr:f.resultTypes= #[4]) (hfn:(s.fn H (ds++[])).results=[.lit (.bool true)]/\(s.fn H (ds++[])).args=ds/\(s.fn H (ds++[])).vars=[])
  (hp:(f.params.toList.all λt=>Tryz.prog.readableRec t&&Nat.ble (t+1) Tryz.prog.types.size)=true) (hb:Below W.heap.size W W'):s.post enc Tryz.prog f apart fresh handsOn again W args (.bool true) W':=by
 have hW':=hW;obtain⟨p,q,hA,hV,rfl,hfz,hnd⟩:=hW
 have hq:q=[]:=by
  rw[hv]at hV;exact(trodVars_none hV).2
 subst hq;have hlt:∀x∈p,x.block<W.heap.size:=λx hx=>hW'.lt x (by simpa using hx);refine z6 (pa:=p) (pv:=[]) hW' ?_ ?_ ?_ rfl hb ?_
 ·intro b sp hd;rw[hr,hfn.1];exact trodAll_mk1 (shut_bool Tryz.underlying4 _)
 ·intro sp hsp;rw[hfn.2.1];exact r7 MH _ _ _ _ hp hA (λx hx=>hb.same (hlt x hx)) (λx hx=>hsp x (by simpa using hx))
 ·intro sp _;rw[hv,hfn.2.2];rfl
 ·exact ok_one hr rfl (okWide_bool_mk (P:=Tryz.prog) Tryz.underlying4 true)
theorem HC{P:Program}{w:World}{r:Reach}{base:Nat}{t e:TypeId}{n:Nat}{v:Value}(ht:P.underlying t=some (.array n e))(h:Value.okWide P w r base t v):∃cs,v=.agg cs/\cs.size=P.cellsOf t:=by
 simp only[Value.okWide,ht]at h;obtain⟨cs,h1,h2,_⟩:=h;exact⟨cs,h1,h2⟩
theorem Gz{P:Program}{w:World}{r:Reach}{base:Nat}{t:TypeId}{v:Value}(ht:P.underlying t=some .string)(h:Value.okWide P w r base t v):∃s,v=.string s:=by
 simp only[Value.okWide,ht,Cell.okWide]at h;cases v<;>simp_all [Cell.ok]
theorem yc{H:Type}{enc:TypeId×Value->H}{P:Program}{w:World}{r:Reach}{b0 base:Nat}{spare:Nat->Bool}{held:Bool}{v:Value}{d:DataW H}{p:List MemPlace}{t:TypeId}(n:Nat)(ty:Ty)(hrep:rep P n t ty=true)(hv:Value.okWide P w r b0 t v)(h:DataW.Trod enc P w base spare held t v d p):
  ∃y:ty.D,Rel1 [] (λ_=>True) w (.d ty y) v/\ty.ok y:=by
 obtain⟨fuel,hf⟩:=h
 have fin:v.cells.toList.length=ty.n->v=mkV ty v.cells.toList->∃y:ty.D,Rel1 [] (λ_=>True) w (.d ty y) v/\ty.ok y:=λhl hm=>by
  obtain⟨y,h1,h2⟩:=(TL ty).1 n t hrep fuel _ _ hl hf;exact⟨y,⟨_,h1,hm⟩,h2⟩
 cases n with
 |zero=>simp[rep]at hrep
 |succ n=>
  have hrep':=hrep;unfold rep at hrep';split at hrep'<;>try (cases hrep';done)
  ·rename_i hu;obtain⟨m,rfl⟩:=okWide_int hu hv;exact fin rfl rfl
  ·rename_i hu;obtain⟨m,rfl⟩:=okWide_bool hu hv;exact fin rfl rfl
  ·rename_i hu;obtain⟨m,rfl⟩:=Gz hu hv;exact fin rfl rfl
  ·rename_i hu;obtain⟨q,m,c,rfl⟩:=okWide_slice hu hv;exact fin rfl rfl
  ·rename_i hu;obtain⟨cs,rfl,hsz⟩:=okWide_struct hu hv;simp only[am0]at hrep';exact fin (by simp only[Value.cells,Array.length_toList,hsz];exact am1 hrep'.2) (by simp[mkV,Ty.isSt,Value.cells])
  ·rename_i hu;obtain⟨cs,rfl,hsz⟩:=HC hu hv;simp only[am0]at hrep';exact fin (by simp only[Value.cells,Array.length_toList,hsz];exact am1 hrep'.2) (by simp[mkV,Ty.isSt,Value.cells])
end
end Go.Proofs.YtagbmoohboleaaaGreat
end
namespace Go.Proofs.YtagbmoohboleaaaGreat.lawClearanceTriangle
open Go.ChangeShapes Go.WideShapes Go.ChangeAt Go.RowKit
set_option maxRecDepth 100000 in
theorem contract(H:Type)(enc:TypeId×Value->H)(W:World)(base:Nat)(args:Array Value)(ds gs:List (DataW H))(before:List MemPlace)
  (hval:∀(j:Nat) t v,Tryz.f5.params[j]?=some t->args[j]?=some v->Value.okWide Tryz.prog W .any base t v)
  (hW:DataW.Whole enc Tryz.prog Tryz.f5.params.toList Rows.clearanceTriangleSpec.vars false W args.toList ds gs before):
  Calls Tryz.prog 5 args W λe W'=>∃v,e=.returned v/\Rows.clearanceTriangleSpec.post enc Tryz.prog Tryz.f5 false true false false W args v W':=by
 have hW':=hW;obtain⟨p,q,hA0,hV,rfl,hfz,hnd⟩:=hW;have hA:DataW.TrodAll enc Tryz.prog W 0 (λ_=>true) true Tryz.f5.params.toList args.toList ds p:=hA0;rw[Tryz.params5]at hA hval;obtain⟨v0,vs0,d0,ds0,p0,q0,e0,rfl,rfl,h0,r0⟩:=trodAll_cons hA;obtain⟨v1,vs1,d1,ds1,p1,q1,e1,rfl,rfl,h1,r1⟩:=trodAll_cons r0;obtain⟨v2,vs2,d2,ds2,p2,q2,e2,rfl,rfl,h2,r2⟩:=trodAll_cons r1;obtain⟨en,rfl,rfl⟩:=trodAll_nil r2;obtain rfl:args= #[v0,v1,v2]:=by cases args;simp_all
 obtain⟨rfl,rfl⟩:=trodVars_none hV;obtain⟨y0,s0,k0⟩:=yc 12 (yn) (by kernel_rfl) (hval 0 26 v0 rfl rfl) h0;obtain⟨y1,s1,k1⟩:=yc 12 (yn) (by kernel_rfl) (hval 1 26 v1 rfl rfl) h1;obtain⟨y2,s2,k2⟩:=yc 12 (.st (.pair (.int .i8) (.pair (.int .i8) (.pair (.int .i8) (.int .i8))))) (by kernel_rfl) (hval 2 58 v2 rfl rfl) h2;clear hA0;refine(WJ y0 y1 y2 k0 k1 k2 (λ_=>True) W [v0,v1,v2] Pr ⟨s0,s1,s2,trivial⟩).mono ?_;rintro e W' ⟨v,rfl,hb,hres⟩
 have hv:v=.bool true:=uT (G:=[]) (fk hres);subst hv;exact⟨_,rfl,OK hW' rfl (by kernel_rfl) ⟨rfl,rfl,rfl⟩ (by kernel_rfl) hb⟩
set_option maxRecDepth 100000 in
theorem lifted(os:Os)(started:os.Started)(H:Type)(enc:TypeId×Value->H):
  ReturnsInHanded {} Tryz.checked os 5 .any (Rows.clearanceTriangleSpec.pre6 enc Tryz.prog Tryz.f5 Rows.clearanceTriangleRow.domain false) (Rows.clearanceTriangleSpec.post enc Tryz.prog Tryz.f5 false true false false):=by
 refine returnsInHanded_of_change (C:=Tryz.checked) M2 started (by kernel_rfl) Tryz.func5
  (ChangeSpec.witness6 (enc:=enc) (C:=Tryz.checked) false ⟨#[],#[.agg #[.int .u8 0,.int .u8 0,.int .i8 0,.int .i8 0,.int .i8 0,.int .i8 0,.int .i8 0,.int .i8 0,.int .u8 0,.int .u8 0,.int .i8 0,.int .i8 0,.int .i8 0,.int .i8 0,.int .i8 0,.int .i8 0,.int .u8 0],.agg #[.int .u8 0,.int .u8 0,.int .i8 0,.int .i8 0,.int .i8 0,.int .i8 0,.int .i8 0,.int .i8 0,.int .u8 0,.int .u8 0,.int .i8 0,.int .i8 0,.int .i8 0,.int .i8 0,.int .i8 0,.int .i8 0,.int .u8 0],.agg #[.int .i8 0,.int .i8 0,.int .i8 0,.int .i8 0]],[]⟩ 8 (by kernel_rfl) (by kernel_rfl) (by kernel_rfl) (by kernel_rfl)) ?_
 intro W base args ds gs before hval hW _ _;exact contract H enc W base args ds gs before hval hW
end Go.Proofs.YtagbmoohboleaaaGreat.lawClearanceTriangle
namespace Go.Proofs.YtagbmoohboleaaaGreat.lawClearanceTriangle
open Go.ChangeShapes Go.WideShapes Go.ChangeAt Go.RowKit
set_option maxRecDepth 100000 in
theorem akY:(Rows.clearanceTriangleRow.inPlace==Tryz.prog.inPlace 5)=true:=by kernel_rfl
set_option maxRecDepth 100000 in
theorem alT:(Rows.clearanceTriangleRow.unfollowed==Tryz.prog.unfollowed 5)=true:=by kernel_rfl
set_option maxRecDepth 100000 in
theorem als:(Rows.clearanceTriangleRow.recurses==Tryz.prog.recurses 5)=true:=by kernel_rfl
set_option maxRecDepth 100000 in
theorem aln:(Rows.clearanceTriangleRow.named==Tryz.prog.varsNamed 5)=true:=by kernel_rfl
set_option maxRecDepth 100000 in
theorem kf2:(laidOutB Tryz.prog)=true:=by kernel_rfl
set_option maxRecDepth 100000 in
theorem ama:(Tryz.prog.mayEnter)=true:=by kernel_rfl
theorem iy{a b:Bool}(h:a=true)(h':b=true):(a&&b)=true:=by rw[h,h'];rfl
set_option maxRecDepth 100000 in
theorem afk:joinedFacts Tryz.prog 5 Tryz.f5 Rows.clearanceTriangleSpec Rows.clearanceTriangleRow=true:=by
 unfold joinedFacts;exact(iy (iy (iy (iy (iy (iy (iy (iy (iy (iy (iy (iy (iy (iy (iy (iy (iy (iy (iy (iy (iy (iy (iy (iy (iy (iy (iy (iy (iy (iy (iy (by kernel_rfl) kf2) (by kernel_rfl)) (by kernel_rfl)) (by kernel_rfl)) (by kernel_rfl)) (by kernel_rfl)) (by kernel_rfl)) (by kernel_rfl)) akY) alT) als) aln) (by kernel_rfl)) (by kernel_rfl)) (by kernel_rfl)) (by kernel_rfl)) (by kernel_rfl)) (by kernel_rfl)) (by kernel_rfl)) (by kernel_rfl)) (by kernel_rfl)) (by kernel_rfl)) (by kernel_rfl)) (by kernel_rfl)) ama) (by kernel_rfl)) (by kernel_rfl)) (by kernel_rfl)) (by kernel_rfl)) (by kernel_rfl)) (by kernel_rfl))
theorem proved:Rows.ClearanceTriangleSaid:=
 OpenClaim.holds_of_wide 5 Tryz.f5 rfl rfl rfl rfl rfl rfl rfl ⟨rfl,rfl,rfl,rfl,rfl⟩ rfl rfl rfl rfl rfl (by kernel_rfl) Tryz.func5 afk
  (of_decide_eq_true (by kernel_rfl)) (by unfold Func.isWrapper;first|(rw[if_pos (by decide+kernel)];kernel_rfl)|(rw[if_neg (by decide+kernel)];exact⟨rfl,rfl⟩))
  (λos started H enc _=>lifted os started H enc)
end Go.Proofs.YtagbmoohboleaaaGreat.lawClearanceTriangle
