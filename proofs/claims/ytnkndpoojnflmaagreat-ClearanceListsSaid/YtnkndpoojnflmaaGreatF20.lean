/- The examples of the chapter on clearance. -/
import Derived.Test.YtnkndpoojnflmaaGreatF19
import Derived.Test.YtnkndpoojnflmaaGreatF18
import Derived.Stop.Joined
noncomputable section
namespace Go.Proofs.YtnkndpoojnflmaaGreat
open Go.RowKit Go.IntKind
section
open RE
abbrev sgC(a b:Rat×Rat):Cv:=(false,tj a b,dec o00,false,atP a,atP b)
abbrev arC(a b c:Rat×Rat):Cv:=(true,dec o00,qY a b c,decide (xH a b c<0),atP a,atP c)
abbrev fuA(c:Ln):Cv:=(true,dec o00,c,false,l9 c,ml c)
abbrev fuB(c:Ln):Cv:=(true,dec o00,c,false,ml c,l9 c)
theorem LZ{a b:Rat×Rat}(h:yZ a b=false):dC (jB a b)=sgC a b:=by
 unfold jB dC;rw[h];simp only[cond_false,az]
theorem aay{a b c:Rat×Rat}(h:eZ a b c≠0):dC (me a b c)=arC a b c:=by
 unfold me dC;rw[dF h];simp only[cond_false,az]
theorem tC{c:BCU}(h:gdN c):c.2.2.2.2.1=enc (frC (dC c))∧c.2.2.2.2.2=enc (toC (dC c)):=
 ⟨(Cod.ok_dec _ _ h.fr.1).1,(Cod.ok_dec _ _ h.to.1).1⟩
theorem lH{c d:BCU}(hc:gdN c)(hd:gdN d){c' d':Cv}(ec:dC c=c')(ed:dC d=d')(hs:cX c' d'=false)(hm:acU c' d'=[]){r:Rat}(hr:decide (r<0)=false):kg c d r=oH c' d' r:=by
 subst ec ed;have e:fq c d=[]:=by rw[Qa (tC hc).1 (tC hc).2 (tC hd).1 (tC hd).2,hm];rfl
 have n:oO c d=false:=by unfold oO;rw[hs];rfl
 unfold kg Hz;rw[e,n,hr];rfl
theorem B6{d:BCU}(hd:gdN d){p:Pt}{v:Rat×Rat}(e:p=atP v)(hv:Bd v 200)(r:Rat):poiE (dC d) (pR p) r=so (dC d) v r:=by
 rw[e,oA];exact TY hd.e (Ba (bv:=hv) hd.1.1).2 r
theorem lJ{c d:BCU}(hc:gdN c)(hd:gdN d){a b u w:Rat×Rat}(ba:Bd a 200)(bb:Bd b 200)(bu:Bd u 200)(bw:Bd w 200)(e1:frC (dC c)=atP a)(e2:toC (dC c)=atP b)(e3:frC (dC d)=atP u)(e4:toC (dC d)=atP w)(r:Rat):
  lz (dC c) (dC d) r=min (min (min (so (dC d) a r) (so (dC d) b r)) (so (dC c) u r)) (so (dC c) w r):=by
 unfold lz;rw[B6 hd e1 ba,B6 hd e2 bb,B6 hc e3 bu,B6 hc e4 bw]
abbrev v00:Rat×Rat:=vcR 0 0
theorem acH:Bd v00 1:=⟨⟨⟨by decide+kernel,by decide+kernel⟩,⟨by decide+kernel,by decide+kernel⟩⟩⟩
theorem amF:Bd v00 200:=acH.mono (by decide)
abbrev v40:Rat×Rat:=vcR 4 0
theorem adJ:Bd v40 1:=⟨⟨⟨by decide+kernel,by decide+kernel⟩,⟨by decide+kernel,by decide+kernel⟩⟩⟩
theorem akR:Bd v40 200:=adJ.mono (by decide)
abbrev v13:Rat×Rat:=vcR 1 3
theorem ad0:Bd v13 1:=⟨⟨⟨by decide+kernel,by decide+kernel⟩,⟨by decide+kernel,by decide+kernel⟩⟩⟩
theorem akK:Bd v13 200:=ad0.mono (by decide)
abbrev v19:Rat×Rat:=vcR 1 9
theorem abO:Bd v19 1:=⟨⟨⟨by decide+kernel,by decide+kernel⟩,⟨by decide+kernel,by decide+kernel⟩⟩⟩
theorem amx:Bd v19 200:=abO.mono (by decide)
abbrev v10:Rat×Rat:=vcR 1 0
theorem aeS:Bd v10 1:=⟨⟨⟨by decide+kernel,by decide+kernel⟩,⟨by decide+kernel,by decide+kernel⟩⟩⟩
theorem ajp:Bd v10 200:=aeS.mono (by decide)
abbrev v01:Rat×Rat:=vcR 0 1
theorem amE:Bd v01 1:=⟨⟨⟨by decide+kernel,by decide+kernel⟩,⟨by decide+kernel,by decide+kernel⟩⟩⟩
abbrev vm1:Rat×Rat:=vcR (-1) 0
theorem adp:Bd vm1 1:=⟨⟨⟨by decide+kernel,by decide+kernel⟩,⟨by decide+kernel,by decide+kernel⟩⟩⟩
theorem agZ:Bd vm1 200:=adp.mono (by decide)
abbrev v30:Rat×Rat:=vcR 3 0
theorem abd:Bd v30 1:=⟨⟨⟨by decide+kernel,by decide+kernel⟩,⟨by decide+kernel,by decide+kernel⟩⟩⟩
theorem Kv:Bd v30 200:=abd.mono (by decide)
abbrev v03:Rat×Rat:=vcR 0 3
theorem alu:Bd v03 1:=⟨⟨⟨by decide+kernel,by decide+kernel⟩,⟨by decide+kernel,by decide+kernel⟩⟩⟩
abbrev vm3:Rat×Rat:=vcR (-3) 0
theorem ad7:Bd vm3 1:=⟨⟨⟨by decide+kernel,by decide+kernel⟩,⟨by decide+kernel,by decide+kernel⟩⟩⟩
theorem akQ:Bd vm3 200:=ad7.mono (by decide)
abbrev vm5:Rat×Rat:=vcR (-5) 3
theorem adX:Bd vm5 1:=⟨⟨⟨by decide+kernel,by decide+kernel⟩,⟨by decide+kernel,by decide+kernel⟩⟩⟩
theorem ale:Bd vm5 200:=adX.mono (by decide)
abbrev v53:Rat×Rat:=vcR 5 3
theorem aeD:Bd v53 1:=⟨⟨⟨by decide+kernel,by decide+kernel⟩,⟨by decide+kernel,by decide+kernel⟩⟩⟩
theorem amt:Bd v53 200:=aeD.mono (by decide)
abbrev vm2:Rat×Rat:=vcR (-2) 0
theorem alW:Bd vm2 1:=⟨⟨⟨by decide+kernel,by decide+kernel⟩,⟨by decide+kernel,by decide+kernel⟩⟩⟩
theorem Rq:Bd vm2 200:=alW.mono (by decide)
abbrev v20:Rat×Rat:=vcR 2 0
theorem akZ:Bd v20 1:=⟨⟨⟨by decide+kernel,by decide+kernel⟩,⟨by decide+kernel,by decide+kernel⟩⟩⟩
theorem QN:Bd v20 200:=akZ.mono (by decide)
abbrev v90:Rat×Rat:=vcR 9 0
theorem amD:Bd v90 1:=⟨⟨⟨by decide+kernel,by decide+kernel⟩,⟨by decide+kernel,by decide+kernel⟩⟩⟩
theorem Rk:Bd v90 200:=amD.mono (by decide)
abbrev lF:Ln:=(((0:Int):Rat),((0:Int):Rat),((4:Int):Rat))
abbrev lG:Ln:=(((6:Int):Rat),((0:Int):Rat),((9:Int):Rat))
theorem blF:BdC lF:=⟨⟨by decide+kernel,by decide+kernel⟩,⟨by decide+kernel,by decide+kernel⟩,⟨by decide+kernel,by decide+kernel⟩⟩
theorem blG:BdC lG:=⟨⟨by decide+kernel,by decide+kernel⟩,⟨by decide+kernel,by decide+kernel⟩,⟨by decide+kernel,by decide+kernel⟩⟩
theorem gS1:gdN (jB v00 v40):=BN (ba:=acH) (bb:=adJ) (by decide+kernel)
theorem dS1:dC (jB v00 v40)=sgC v00 v40:=LZ (by decide+kernel)
theorem gS2:gdN (jB v13 v19):=BN (ba:=ad0) (bb:=abO) (by decide+kernel)
theorem dS2:dC (jB v13 v19)=sgC v13 v19:=LZ (by decide+kernel)
theorem gS3:gdN (jB vm5 v53):=BN (ba:=adX) (bb:=aeD) (by decide+kernel)
theorem dS3:dC (jB vm5 v53)=sgC vm5 v53:=LZ (by decide+kernel)
theorem gH1:gdN (me v10 v01 vm1):=by
 have:=aeS;have:=adp;exact GX (bc:=⟨⟨by decide+kernel,by decide+kernel⟩,⟨by decide+kernel,by decide+kernel⟩,⟨by decide+kernel,by decide+kernel⟩⟩) (by decide+kernel)
theorem dH1:dC (me v10 v01 vm1)=arC v10 v01 vm1:=aay (by decide+kernel)
theorem gH3:gdN (me v30 v03 vm3):=by
 have:=abd;have:=ad7;exact GX (bc:=⟨⟨by decide+kernel,by decide+kernel⟩,⟨by decide+kernel,by decide+kernel⟩,⟨by decide+kernel,by decide+kernel⟩⟩) (by decide+kernel)
theorem dH3:dC (me v30 v03 vm3)=arC v30 v03 vm3:=aay (by decide+kernel)
theorem c12:kg (jB v00 v40) (jB v13 v19) ((3:Int):Rat)=0:=by
 rw[lH gS1 gS2 dS1 dS2 (by decide+kernel) (by decide+kernel) (by decide+kernel)];have:=lJ gS1 gS2 amF akR akK amx (by rw[dS1];rfl) (by rw[dS1];rfl) (by rw[dS2];rfl) (by rw[dS2];rfl) ((3:Int):Rat);rw[dS1,dS2]at this;unfold oH;rw[this];decide+kernel
theorem cHH:kg (me v10 v01 vm1) (me v30 v03 vm3) ((2:Int):Rat)=0:=by
 rw[lH gH1 gH3 dH1 dH3 (by decide+kernel) (by decide+kernel) (by decide+kernel)];have:=lJ gH1 gH3 ajp agZ Kv akQ (by rw[dH1];rfl) (by rw[dH1];rfl) (by rw[dH3];rfl) (by rw[dH3];rfl) ((2:Int):Rat);rw[dH1,dH3]at this;unfold oH;rw[this];decide+kernel
theorem cHS:kg (me v10 v01 vm1) (jB vm5 v53) ((2:Int):Rat)=0:=by
 rw[lH gH1 gS3 dH1 dS3 (by decide+kernel) (by decide+kernel) (by decide+kernel)];have:=lJ gH1 gS3 ajp agZ ale amt (by rw[dH1];rfl) (by rw[dH1];rfl) (by rw[dS3];rfl) (by rw[dS3];rfl) ((2:Int):Rat);rw[dH1,dS3]at this;unfold oH;rw[this];decide+kernel
abbrev kF1:BCU:=(true,o00,enc lF,false,enc (l9 lF),enc (ml lF))
abbrev kF2:BCU:=(true,o00,enc lF,false,enc (ml lF),enc (l9 lF))
abbrev kG1:BCU:=(true,o00,enc lG,false,enc (l9 lG),enc (ml lG))
abbrev kG2:BCU:=(true,o00,enc lG,false,enc (ml lG),enc (l9 lG))
theorem fF:v5 (enc lF)=[kF1,kF2]:=by unfold v5;rw[az]
theorem fG:v5 (enc lG)=[kG1,kG2]:=by unfold v5;rw[az]
theorem GN:gdN kF1:=wM (bc:=blF) (by decide+kernel) _ (by rw[fF];simp)
theorem vZ:dC kF1=fuA lF:=by unfold dC;simp only[az]
theorem Qs:gdN kF2:=wM (bc:=blF) (by decide+kernel) _ (by rw[fF];simp)
theorem Dz:dC kF2=fuB lF:=by unfold dC;simp only[az]
theorem FL:gdN kG1:=wM (bc:=blG) (by decide+kernel) _ (by rw[fG];simp)
theorem vV:dC kG1=fuA lG:=by unfold dC;simp only[az]
theorem Rr:gdN kG2:=wM (bc:=blG) (by decide+kernel) _ (by rw[fG];simp)
theorem EC:dC kG2=fuB lG:=by unfold dC;simp only[az]
theorem Ti:nrZ kF1 ((1:Int):Rat) kG1=false:=by
 unfold nrZ;rw[lH GN FL vZ vV (by decide+kernel) (by decide+kernel) (by decide+kernel)];have:=lJ GN FL Rq QN Kv Rk (by rw[vZ];decide+kernel) (by rw[vZ];decide+kernel) (by rw[vV];decide+kernel) (by rw[vV];decide+kernel) ((1:Int):Rat);rw[vZ,vV]at this;unfold oH;rw[this];decide+kernel
theorem UF:nrZ kF1 ((1:Int):Rat) kG2=false:=by
 unfold nrZ;rw[lH GN Rr vZ EC (by decide+kernel) (by decide+kernel) (by decide+kernel)];have:=lJ GN Rr Rq QN Rk Kv (by rw[vZ];decide+kernel) (by rw[vZ];decide+kernel) (by rw[EC];decide+kernel) (by rw[EC];decide+kernel) ((1:Int):Rat);rw[vZ,EC]at this;unfold oH;rw[this];decide+kernel
theorem V6:nrZ kF2 ((1:Int):Rat) kG1=false:=by
 unfold nrZ;rw[lH Qs FL Dz vV (by decide+kernel) (by decide+kernel) (by decide+kernel)];have:=lJ Qs FL QN Rq Kv Rk (by rw[Dz];decide+kernel) (by rw[Dz];decide+kernel) (by rw[vV];decide+kernel) (by rw[vV];decide+kernel) ((1:Int):Rat);rw[Dz,vV]at this;unfold oH;rw[this];decide+kernel
theorem Wl:nrZ kF2 ((1:Int):Rat) kG2=false:=by
 unfold nrZ;rw[lH Qs Rr Dz EC (by decide+kernel) (by decide+kernel) (by decide+kernel)];have:=lJ Qs Rr QN Rq Rk Kv (by rw[Dz];decide+kernel) (by rw[Dz];decide+kernel) (by rw[EC];decide+kernel) (by rw[EC];decide+kernel) ((1:Int):Rat);rw[Dz,EC]at this;unfold oH;rw[this];decide+kernel
theorem ak0:nrZ kF1 (Rat.divInt 11 10) kG1=true:=by
 unfold nrZ;rw[lH GN FL vZ vV (by decide+kernel) (by decide+kernel) (by decide+kernel)];have:=lJ GN FL Rq QN Kv Rk (by rw[vZ];decide+kernel) (by rw[vZ];decide+kernel) (by rw[vV];decide+kernel) (by rw[vV];decide+kernel) (Rat.divInt 11 10);rw[vZ,vV]at this;unfold oH;rw[this];decide+kernel
theorem fi1:decide (ls [kF1,kF2] [kG1,kG2] ((1:Int):Rat)<0)=true:=by
 unfold ls oD oD oD ro;simp only[apS,List.any_nil,Ti,UF,V6,Wl,Bool.or_false,Bool.not_false,Bool.not_true,cond_false];rfl
theorem fi2:decide (ls [kF1,kF2] [kG1,kG2] (Rat.divInt 11 10)<0)=false:=by
 unfold ls oD ro;simp only[apS,ak0,aqk,Bool.not_true,Bool.not_false,cond_true];rfl
theorem mGF:∀x∈[kF1,kF2],mG x:=by
 intro x hx;simp only[ann,ao9,aqi]at hx;rcases hx with e|e<;>rw[e]
 ·exact GN.1
 ·exact Qs.1
theorem mGG:∀x∈[kG1,kG2],mG x:=by
 intro x hx;simp only[ann,ao9,aqi]at hx;rcases hx with e|e<;>rw[e]
 ·exact FL.1
 ·exact Rr.1
theorem okZ{n:Int}(h:aH n):ok Rat 1000 (aj (n:Rat)):=by
 have:=bS h;exact am8 (okd (by decide) (by decide))
def HX:List En:=[enL lj,enL QL]
def Xy(x y:Int)(_k:KT):OLR:=og (decide (aH x)) (og (decide (aH y)) (some [RV.d tV (hid (aj (x:Rat)),hid (aj (y:Rat)))]))
def afF:Cn 80 [aqt,aqt]:=cn fun(x y:Int)=>lf (aH x∧aH y) [.d tV (enc (vcR x y))] fun h=>by
 refine aA HX (Xy x y) ⟨0,?_⟩;unfold Xy;rw[dT h.1,dT h.2];simp only[bJ];rfl
def XK(a b:BV)(_k:KT):OLR:=og (decide (ok (Rat×Rat) 100 a∧ok (Rat×Rat) 100 b)) (some [RV.d tCU (hid (jB (dec a) (dec b)))])
def agw:Cn 76 [tV,tV]:=cn fun(a b:BV)=>lf (ok (Rat×Rat) 100 a∧ok (Rat×Rat) 100 b) [.d tCU (jB (dec a) (dec b))] fun h=>by
 refine aA HX (XK a b) ⟨0,?_⟩;unfold XK;rw[dT h];simp only[bJ]
def JE:List En:=[enL lj,enL agw,enL afF,enL L6,enT aaR,enL XX,enF XC,enL Cg]
def Rj:NT:=[((12,3),{keep:=[3,4,5,7],hl:=0}),((12,5),{keep:=[1,8,9,10,12],hl:=0}),((12,7),{keep:=[1,2,13,14,15,16,18,19,20,21,22,25,26,27,28,29,32,33,34,35,36,38,39,40,41,42],hl:=0})]
def Vz:Ctx:=CX (ens JE) Rj
def HK(_k:KT):OLR:=let y1:=aj ((0:Int):Rat);let y2:=hid (enc (vcR (0:Int) (0:Int)));let y3:=hid (enc (vcR (4:Int) (0:Int)));let y4:=hid (enc (vcR (1:Int) (3:Int)));let y5:=hid (enc (vcR (1:Int) (9:Int)));let y6:=hid (jB (dec y2) (dec y3));let y7:=hid (jB (dec y4) (dec y5));let y8:=hid (aj ((3:Int):Rat));let y9:=i64.wrap (0+1);let y10:=i64.wrap (0-1);let y11:=hid (enc (vcR y9 (0:Int)));let y12:=hid (enc (vcR (0:Int) y9));let y13:=hid (enc (vcR y10 (0:Int)));let y14:=i64.wrap (0+3);let y15:=i64.wrap (0-3);let y16:=hid (enc (vcR y14 (0:Int)));let y17:=hid (enc (vcR (0:Int) y14));let y18:=hid (enc (vcR y15 (0:Int)));let y19:=hid (me (dec y11) (dec y12) (dec y13));let y20:=hid (me (dec y16) (dec y17) (dec y18));let y21:=hid (aj ((2:Int):Rat));let y22:=hid (enc (vcR ((-5):Int) (3:Int)));let y23:=hid (enc (vcR (5:Int) (3:Int)));let y24:=hid (jB (dec y22) (dec y23));let y25:=v5 (hid y1,(hid y1,hid (aj ((4:Int):Rat))));let y26:=v5 (hid (aj ((6:Int):Rat)),(hid y1,hid (aj ((9:Int):Rat))));let y27:=hid (aj ((1:Int):Rat));let y28:=hid (aj (Rat.divInt (11:Int) (10:Int)));og (decide (aH (0:Int))) (og (decide (aH (0:Int))) (og (decide (aH (4:Int))) (og (decide (cp (hid y1,(hid y1,hid (aj ((4:Int):Rat)))))) (og (decide (aH (6:Int))) (og (decide (aH (0:Int))) (og (decide (aH (9:Int))) (og (decide (cp (hid (aj ((6:Int):Rat)),(hid y1,hid (aj ((9:Int):Rat)))))) (og (decide (aH (0:Int)∧aH (0:Int))) (og (decide (aH (4:Int)∧aH (0:Int))) (og (decide (ok (Rat×Rat) 100 y2∧ok (Rat×Rat) 100 y3)) (og (decide (aH (1:Int)∧aH (3:Int))) (og (decide (aH (1:Int)∧aH (9:Int))) (og (decide (ok (Rat×Rat) 100 y4∧ok (Rat×Rat) 100 y5)) (og (decide (aH (3:Int))) (og (decide (gU y6 y7∧ok Rat 1000 y8)) (match(kg y6 y7 (ae y8))==0 with|true=>(og (decide (aH y9∧aH (0:Int))) (og (decide (aH (0:Int)∧aH y9)) (og (decide (aH y10∧aH (0:Int))) (og (decide (ok (Rat×Rat) 100 y11∧ok (Rat×Rat) 100 y12∧ok (Rat×Rat) 100 y13)) (og (decide (aH y14∧aH (0:Int))) (og (decide (aH (0:Int)∧aH y14)) (og (decide (aH y15∧aH (0:Int))) (og (decide (ok (Rat×Rat) 100 y16∧ok (Rat×Rat) 100 y17∧ok (Rat×Rat) 100 y18)) (og (decide (aH (2:Int))) (og (decide (gU y19 y20∧ok Rat 1000 y21)) (match(kg y19 y20 (ae y21))==0 with|true=>(og (decide (aH y9∧aH (0:Int))) (og (decide (aH (0:Int)∧aH y9)) (og (decide (aH y10∧aH (0:Int))) (og (decide (ok (Rat×Rat) 100 y11∧ok (Rat×Rat) 100 y12∧ok (Rat×Rat) 100 y13)) (og (decide (aH ((-5):Int)∧aH (3:Int))) (og (decide (aH (5:Int)∧aH (3:Int))) (og (decide (ok (Rat×Rat) 100 y22∧ok (Rat×Rat) 100 y23)) (og (decide (aH (2:Int))) (og (decide (gU y19 y24∧ok Rat 1000 y21)) (match(kg y19 y24 (ae y21))==0 with|true=>(og (decide (aH (1:Int))) (og (decide (t4 y25 y26 y27)) (match decide (ls y25 y26 (ae y27)<0)with|true=>(og (decide (za (11:Int) (10:Int))) (og (decide (t4 y25 y26 y28)) (some [RV.d .bool (!(decide (ls y25 y26 (ae y28)<0)))])))|false=>some [RV.d .bool false])))|false=>some [RV.d .bool false]))))))))))|false=>some [RV.d .bool false])))))))))))|false=>some [RV.d .bool false]))))))))))))))))
theorem Vy:RS Vz 12 [] (HK):=rsX
def TB:Cn 12 []:=cn<|lf True [.d .bool true] fun _=>by
 have i0:decide (aH 0)=true:=by decide
 have i1:decide (aH 1)=true:=by decide
 have i2:decide (aH 2)=true:=by decide
 have i3:decide (aH 3)=true:=by decide
 have i4:decide (aH 4)=true:=by decide
 have i6:decide (aH 6)=true:=by decide
 have i9:decide (aH 9)=true:=by decide
 have i5:decide (aH 5)=true:=by decide
 have jv00:decide (aH (0)∧aH (0))=true:=by decide
 have jv40:decide (aH (4)∧aH (0))=true:=by decide
 have jv13:decide (aH (1)∧aH (3))=true:=by decide
 have jv19:decide (aH (1)∧aH (9))=true:=by decide
 have jv10:decide (aH (1)∧aH (0))=true:=by decide
 have jv01:decide (aH (0)∧aH (1))=true:=by decide
 have jvm1:decide (aH (-1)∧aH (0))=true:=by decide
 have jv30:decide (aH (3)∧aH (0))=true:=by decide
 have jv03:decide (aH (0)∧aH (3))=true:=by decide
 have jvm3:decide (aH (-3)∧aH (0))=true:=by decide
 have jvm5:decide (aH (-5)∧aH (3))=true:=by decide
 have jv53:decide (aH (5)∧aH (3))=true:=by decide
 have jvm2:decide (aH (-2)∧aH (0))=true:=by decide
 have jv20:decide (aH (2)∧aH (0))=true:=by decide
 have jv90:decide (aH (9)∧aH (0))=true:=by decide
 have o1:decide (ok (Rat×Rat) 100 (enc v00)∧ok (Rat×Rat) 100 (enc v40))=true:=dT ⟨am8 (okd (h:=acH) (by decide) (by decide)),am8 (okd (h:=adJ) (by decide) (by decide))⟩;have o2:decide (ok (Rat×Rat) 100 (enc v13)∧ok (Rat×Rat) 100 (enc v19))=true:=dT ⟨am8 (okd (h:=ad0) (by decide) (by decide)),am8 (okd (h:=abO) (by decide) (by decide))⟩;have o3:decide (ok (Rat×Rat) 100 (enc vm5)∧ok (Rat×Rat) 100 (enc v53))=true:=dT ⟨am8 (okd (h:=adX) (by decide) (by decide)),am8 (okd (h:=aeD) (by decide) (by decide))⟩;have o4:decide (ok (Rat×Rat) 100 (enc v10)∧ok (Rat×Rat) 100 (enc v01)∧ok (Rat×Rat) 100 (enc vm1))=true:=dT ⟨am8 (okd (h:=aeS) (by decide) (by decide)),am8 (okd (h:=amE) (by decide) (by decide)),am8 (okd (h:=adp) (by decide) (by decide))⟩;have o5:decide (ok (Rat×Rat) 100 (enc v30)∧ok (Rat×Rat) 100 (enc v03)∧ok (Rat×Rat) 100 (enc vm3))=true:=dT ⟨am8 (okd (h:=abd) (by decide) (by decide)),am8 (okd (h:=alu) (by decide) (by decide)),am8 (okd (h:=ad7) (by decide) (by decide))⟩;have m1:decide (gU (jB v00 v40) (jB v13 v19)∧ok Rat 1000 (aj ((3:Int):Rat)))=true:=dT ⟨⟨gS1.1,gS2.1⟩,okZ (by decide)⟩;have m2:decide (gU (me v10 v01 vm1) (me v30 v03 vm3)∧ok Rat 1000 (aj ((2:Int):Rat)))=true:=dT ⟨⟨gH1.1,gH3.1⟩,okZ (by decide)⟩;have m3:decide (gU (me v10 v01 vm1) (jB vm5 v53)∧ok Rat 1000 (aj ((2:Int):Rat)))=true:=dT ⟨⟨gH1.1,gS3.1⟩,okZ (by decide)⟩;have f1:decide (t4 [kF1,kF2] [kG1,kG2] (aj ((1:Int):Rat)))=true:=dT ⟨mGF,mGG,by decide,by decide,okZ (by decide)⟩;have f2:decide (t4 [kF1,kF2] [kG1,kG2] (aj (Rat.divInt 11 10)))=true:=dT ⟨mGF,mGG,by decide,by decide,by have:=bQ 11 10 (by decide);exact am8 (okd (by decide) (by decide))⟩;have q1:decide (za 11 10)=true:=by decide
 have l1:((aj ((0:Int):Rat),(aj ((0:Int):Rat),aj ((4:Int):Rat))):BO3)=enc lF:=rfl;have l2:((aj ((6:Int):Rat),(aj ((0:Int):Rat),aj ((9:Int):Rat))):BO3)=enc lG:=rfl;have k1:decide (cp (enc lF))=true:=dT (gR (h:=blF) (by decide+kernel));have k2:decide (cp (enc lG))=true:=dT (gR (h:=blG) (by decide+kernel));have w1:i64.wrap (0+1)=1:=by decide
 have w2:i64.wrap (0-1)= -1:=by decide
 have w3:i64.wrap (0+3)=3:=by decide
 have w4:i64.wrap (0-3)= -3:=by decide
 refine cY JE (Vy ⟨0,?_⟩);unfold HK;simp only[aO,w1,w2,w3,w4,l1,l2,k1,k2,f1,f2,q1,fF,fG,fi1,fi2,c12,cHH,cHS,i0,i1,i2,i3,i4,i6,i9,jv00,jv40,jv13,jv19,jv10,jv01,jvm1,jv30,jv03,jvm3,jvm5,jv53,o1,o2,o3,o4,o5,m1,m2,m3];rfl
end
theorem V0{n m k:Nat}(h1:n+m≤100000000)(hk:k≤1000000):decide ((n+m)*k≤140737488355328∧n+m≤140737488355328)=true:=by
 refine am5 ⟨?_,by omega⟩;have:=aoZ h1 hk;omega
def yQ(l:List Dr)(i:Nat):List BCU:=((l.take i).map ofL).flatten
def dV(l:List Dr)(n:Int):List BCU:=yQ l (n.toNat+1)
def yW(l:List Dr)(n:Int):Bool:=decide ((l.length:Int)≤n)&&decide (((dV l n).length:Int)≤n)
def FK(l:List Dr)(n:Int):Prop:=0≤n∧n≤100∧∀x∈l,yh x
instance (l:List Dr) (n:Int):Decidable (FK l n):=by unfold FK;infer_instance
theorem Ji{l:List Dr}{i:Nat}(h:i<l.length):yQ l (i+1)=yQ l i++ofL l[i]:=by
 unfold yQ;rw[List.take_succ_eq_append_getElem h,List.map_append,apn];simp
theorem JT(l:List Dr):∀i,(yQ l i).length≤2*i
 |0=>anb _
 |i+1=>by
  have:=JT l i;rcases anG i l.length with h|h
  ·rw[Ji h,anJ];have:=Mg l[i];omega
  ·have e:yQ l (i+1)=yQ l i:=by
    unfold yQ;rw[anQ h,anQ (by omega)]
   rw[e];omega
theorem OM{l:List Dr}(h:∀x∈l,yh x)(n:Int):∀c∈dV l n,gdN c:=by
 intro c hc;obtain⟨m,hm,hcm⟩:=List.mem_flatten.1 hc;obtain⟨x,hx,rfl⟩:=an8.1 hm;exact ahF (h x (aoY hx)) c hcm
theorem T4(l:List Dr)(n:Int){i:Nat}(h:i=min l.length (n.toNat+1)):yQ l i=dV l n:=by
 unfold dV yQ;rcases Nat.le_total l.length (n.toNat+1)with g|g
 ·rw[anQ (i:=i) (by omega),anQ g]
 ·rw[show i=n.toNat+1 by omega]
def O3:List En:=[enL ajQ]
def V2:NT:=[((24,8),{keep:=[0,1,6,7],own:=[(6,39,tCU)],hl:=1})]
def Gp:Ctx:=CX (ens O3) V2
def wu(l:List Dr)(n s7:Int)(r0:List BCU):Cfg:=⟨24,[.blk 0,.seq 19],[(0,.d (.sl tDr) l),(1,SI n),(6,.own 0),(7,SI s7)],[.row 39 tCU r0],0,[]⟩
def Ru(l:List Dr)(n:Int)(k:KT):OLR:=k 8 (wu l n 0 ([]))
theorem aeY(l:List Dr)(n:Int):RS Gp 24 [.d (.sl tDr) l,SI n] (Ru l n):=rsX
def uY(l:List Dr)(n s7:Int)(r0:List BCU)(k:KT):OLR:=match decide (s7<(l.length:Int))with|true=>(match decide (s7≤n)with|true=>(match aU l s7 with|some x1=>(og (decide (yh x1)) (og (decide ((r0.length+(ofL x1).length)*1040≤140737488355328∧r0.length+(ofL x1).length≤140737488355328)) (k 8 (wu l n (i64.wrap (s7+1)) (r0++(ofL x1))))))|none=>none)|false=>(match decide ((l.length:Int)≤n)with|true=>some [RV.d (.sl tCU) r0,RV.d .bool (decide ((r0.length:Int)≤n))]|false=>some [RV.d (.sl tCU) r0,RV.d .bool false]))|false=>(match decide ((l.length:Int)≤n)with|true=>some [RV.d (.sl tCU) r0,RV.d .bool (decide ((r0.length:Int)≤n))]|false=>some [RV.d (.sl tCU) r0,RV.d .bool false])
theorem Al(l:List Dr)(n s7:Int)(r0:List BCU):RN Gp 8 (wu l n s7 r0) (uY l n s7 r0):=rnX
theorem VA(l:List Dr)(n:Int)(h:FK l n):∀(j i:Nat),i+j=min l.length (n.toNat+1)→Gp.Runs 8 (wu l n (i:Int) (yQ l i)) [.d (.sl tCU) (dV l n),.d .bool (yW l n)]:=by
 obtain⟨h0,h1,hd⟩:=h;intro j;induction j with
 |zero=>
  intro i hi;refine Al _ _ _ _ ⟨0,?_⟩;unfold uY;rw[T4 l n (by omega)]
  have e:∀b:Bool,decide ((l.length:Int)≤n)=b→yW l n=bif b then decide (((dV l n).length:Int)≤n)else false:=fun b hb=>by
   unfold yW;rw[hb];cases b<;>rfl
  rcases anG i l.length with g|g
  ·rw[bG g,dF (show ¬(i:Int)≤n by omega)];cases hb:decide ((l.length:Int)≤n)<;>rw[e _ hb]<;>rfl
  ·rw[cd g];cases hb:decide ((l.length:Int)≤n)<;>rw[e _ hb]<;>rfl
 |succ j ih=>
  intro i hi;have hil:i<l.length:=by omega
  obtain⟨m,hm⟩:=ih (i+1) (by omega);have c1:=JT l i;have c2:=Mg l[i];refine Al _ _ _ _ ⟨m,?_⟩;unfold uY;rw[bG hil,dT (show(i:Int)≤n by omega),av,am6 hil];dsimp only;rw[dT (hd _ (anD hil)),V0 (by omega) (by omega),bW (by omega)];rw[Ji hil]at hm;exact hm
def acY:Cn 24 [(.sl tDr),aqt]:=cn fun(l:List Dr) (n:Int)=>lf (FK l n) [.d (.sl tCU) (dV l n),.d .bool (yW l n)] fun h=>by
 refine cY O3 (aeY _ _ ?_);unfold Ru;exact VA l n h _ 0 (anF _)
theorem UR{a b:List BCU}(ha:∀x∈a,gdN x)(hb:∀x∈b,gdN x)(r:Rat):decide (ls b a r<0)=decide (ls a b r<0):=by
 have k:∀{a b:List BCU},ls a b r<0↔∀c∈a,∀d∈b,¬kg c d r<0:=fun{a b}=>by
  unfold ls;rw[JD (by decide)];refine forall_congr' fun c=>forall_congr' fun _=>?_;unfold ro;rw[Bool.not_not,List.any_eq_false];exact forall_congr' fun d=>forall_congr' fun _=>by unfold nrZ;rw[ao3]
 refine anI.2 (k.trans (Iff.trans ⟨fun h c hc d hd=>?_,fun h c hc d hd=>?_⟩ k.symm))
 ·rw[←IY (ha c hc) (hb d hd)];exact h d hd c hc
 ·rw[←IY (hb c hc) (ha d hd)];exact h d hd c hc
def HU:List En:=[enT TB,enK acY,enL ajo,enF ZP,enF XC,enF aaK,enF afg,enF Yv]
def D5:NT:=[((9,30),{keep:=[9,11,12,66,67,68],hl:=1})]
def rY:Ctx:=CX (ens HU) D5
def iD(l m:List Dr)(n s68:Int):Cfg:=⟨9,[.blk 0,.seq 49],[(9,.d (.sl tCU) (dV m (4:Int))),(11,.box 0 0),(12,SI (ls (dV l (4:Int)) (dV m (4:Int)) (ae (hid (aj (Rat.divInt n 4)))))),(66,.d (.sl tCU) (dV l (4:Int))),(67,SI ((dV l (4:Int)).length:Int)),(68,SI s68)],[.box 31 (Ty.split tR (hid (aj (Rat.divInt n 4))))],0,[]⟩
def nB(l m:List Dr)(n:Int)(k:KT):OLR:=og (decide (FK l (4:Int))) (og (decide (FK m (4:Int))) (match !(yW l (4:Int))with|true=>some [RV.d .bool true]|false=>(match !(yW m (4:Int))with|true=>some [RV.d .bool true]|false=>(og (decide (i8P n)) (og (decide (Kq (dV l (4:Int)) (dV m (4:Int)) (hid (aj (Rat.divInt n 4))))) (og (decide (t4 (dV l (4:Int)) (dV m (4:Int)) (hid (aj (Rat.divInt n 4))))) (match(ls (dV l (4:Int)) (dV m (4:Int)) (ae (hid (aj (Rat.divInt n 4))))) !=(ls (dV l (4:Int)) (dV m (4:Int)) (ae (hid (aj (Rat.divInt n 4)))))with|true=>some [RV.d .bool false]|false=>(og (decide (t4 (dV l (4:Int)) (dV m (4:Int)) (hid (aj (Rat.divInt n 4))))) (match !((decide (ls (dV l (4:Int)) (dV m (4:Int)) (ae (hid (aj (Rat.divInt n 4))))<0))==(decide ((ls (dV l (4:Int)) (dV m (4:Int)) (ae (hid (aj (Rat.divInt n 4)))))<0)))with|true=>some [RV.d .bool false]|false=>(og (decide (t4 (dV m (4:Int)) (dV l (4:Int)) (hid (aj (Rat.divInt n 4))))) (match !((decide (ls (dV m (4:Int)) (dV l (4:Int)) (ae (hid (aj (Rat.divInt n 4))))<0))==(decide ((ls (dV l (4:Int)) (dV m (4:Int)) (ae (hid (aj (Rat.divInt n 4)))))<0)))with|true=>some [RV.d .bool false]|false=>k 30 (iD l m n 0))))))))))))
theorem Hy(l m:List Dr)(n:Int):RS rY 9 [.d (.sl tDr) l,.d (.sl tDr) m,.d (.int .i8) n] (nB l m n):=rsX
def lm(l m:List Dr)(n s68:Int)(k:KT):OLR:=match decide (s68<((dV l (4:Int)).length:Int))with|true=>(match aU (dV l (4:Int)) s68 with|some x1=>(og (decide (Cr x1 (dV m (4:Int)) (hid (aj (Rat.divInt n 4))))) (og (decide (Df x1 (dV m (4:Int)) (hid (aj (Rat.divInt n 4))))) (match !((ro x1 (dV m (4:Int)) (ae (hid (aj (Rat.divInt n 4)))))==(ro x1 (dV m (4:Int)) (ae (hid (aj (Rat.divInt n 4))))))with|true=>dup (.b .l .l) (some [RV.d .bool false])|false=>(match(ls (dV l (4:Int)) (dV m (4:Int)) (ae (hid (aj (Rat.divInt n 4)))))==s68 with|true=>dup (.b .l .l) (og (decide (Cr x1 (dV m (4:Int)) (hid (aj (Rat.divInt n 4))))) (match ro x1 (dV m (4:Int)) (ae (hid (aj (Rat.divInt n 4))))with|true=>some [RV.d .bool false]|false=>k 30 (iD l m n (i64.wrap (s68+1)))))|false=>dup (.b .l .l) (k 30 (iD l m n (i64.wrap (s68+1))))))))|none=>none)|false=>some [RV.d .bool true]
theorem pk(l m:List Dr)(n s68:Int):RN rY 30 (iD l m n s68) (lm l m n s68):=rnX
theorem aeg(l m:List Dr)(n:Int){A B:List BCU}(eA:dV l 4=A)(eB:dV m 4=B)(ha:∀x∈A,gdN x)(hb:∀x∈B,gdN x)(la:A.length≤4)(lb:B.length≤4)(hn:i8P n):∀(j i:Nat),i+j=A.length→rY.Runs 30 (iD l m n (i:Int)) [.d .bool true]:=by
 have o:=LP hn (k:=1000) (by decide) (by decide);intro j;induction j with
 |zero=>
  intro i hi;refine pk _ _ _ _ ⟨0,?_⟩;unfold lm;rw[eA,cd (by omega)]
 |succ j ih=>
  intro i hi;have hil:i<A.length:=by omega
  obtain⟨k,hk⟩:=ih (i+1) (by omega);have g:=ha _ (anD hil);have p:Cr A[i] B (aj (Rat.divInt n 4)):=⟨g.1,fun x hx=>(hb x hx).1,by omega,o⟩
  have q:Df A[i] B (aj (Rat.divInt n 4)):=⟨g,hb,by omega,o⟩
  refine pk _ _ _ _ ⟨k,?_⟩;unfold lm;simp only[eA,eB,fa,bJ,bG hil,av,am6 hil,dT p,dT q,apY,Bool.not_true,bW (show i+1≤9223372036854775807 by omega)];cases e:ls A B (ae (aj (Rat.divInt n 4)))==(i:Int)
  ·exact hk
  ·have f:=IR (i:=0) (k:=i) (c:=A[i]) (by rw[Int.zero_add];exact an3.1 e) (by decide) (am6 hil);rw[aoJ]at f;rw[f];exact hk
theorem Ww(l m:List Dr)(n:Int)(hl:Ty.ok (.sl tDr) l)(hm:Ty.ok (.sl tDr) m)(hn:Ty.ok (.int .i8) n):CQq7 9 [.d (.sl tDr) l,.d (.sl tDr) m,.d (.int .i8) n] [.d .bool true]:=by
 have h1:∀x∈l,yh x:=fun x hx=>Za (hl.2 x hx);have h2:∀x∈m,yh x:=fun x hx=>Za (hm.2 x hx);have h3:=ya hn;refine cY HU (Hy _ _ _ ?_);have hP:∀{l:List Dr},(∀x∈l,yh x)→FK l 4:=fun b=>⟨by decide,by decide,b⟩
 have lim:∀{l:List Dr},yW l 4=true→(dV l 4).length≤4:=fun hb=>by
  unfold yW at hb;have:=am8 (anh.1 hb).2;omega
 cases b1:yW l 4
 ·refine⟨0,?_⟩;unfold nB;rw[dT (hP h1),dT (hP h2),b1];rfl
 ·cases b2:yW m 4
  ·refine⟨0,?_⟩;unfold nB;rw[dT (hP h1),dT (hP h2),b1,b2];rfl
  ·have l1:=lim b1;have l2:=lim b2;have g1:=OM h1 4;have g2:=OM h2 4;obtain⟨k,hk⟩:=aeg l m n rfl rfl g1 g2 l1 l2 h3 _ 0 (anF _);refine⟨k,?_⟩;have o:=LP h3 (k:=1000) (by decide) (by decide);have f1:t4 (dV l 4) (dV m 4) (aj (Rat.divInt n 4)):=⟨fun x hx=>(g1 x hx).1,fun x hx=>(g2 x hx).1,by omega,by omega,o⟩
   have f2:t4 (dV m 4) (dV l 4) (aj (Rat.divInt n 4)):=⟨fun x hx=>(g2 x hx).1,fun x hx=>(g1 x hx).1,by omega,by omega,o⟩
   have f3:Kq (dV l 4) (dV m 4) (aj (Rat.divInt n 4)):=⟨g1,g2,by omega,by omega,o⟩
   unfold nB;simp only[bJ,dT (hP h1),dT (hP h2),b1,b2,dT h3,dT f1,dT f2,dT f3,UR g1 g2,apY,bne_self_eq_false,Bool.not_true];exact hk
section
open Go.ChangeShapes Go.WideShapes Go.ChangeAt Go.WideMaps Go.WideElems Go.RowKit Go.Maps
section
variable {H:Type} {enc:TypeId×Value→H} {P:Program}
theorem yY{f:Func}{s:ChangeSpec}{apart fresh handsOn again:Bool}{W W':World}{args:Array Value}{v:Value}{ds gs:List (DataW H)}{before pa pv:List MemPlace}
  (hW:DataW.Whole enc P f.params.toList s.vars apart W args.toList ds gs before)
  (hres:∀(b:Nat) (sp:Nat→Bool) (hd:Bool),DataW.TrodAll enc P W' b sp hd f.resultTypes.toList (v.resultList f.resultTypes.size) (s.fn H (ds++gs)).results [])
  (hargs:∀sp:Nat→Bool,(∀p∈before,sp p.block=true)→DataW.TrodAll enc P W' 0 sp true f.params.toList args.toList (s.fn H (ds++gs)).args pa)
  (hvars:∀sp:Nat→Bool,(∀p∈before,sp p.block=true)→DataW.TrodVars enc P W' sp s.vars (s.fn H (ds++gs)).vars pv)
  (hps:before=pa++pv) (hb:Below W.heap.size W W')
  (hok:∀(j:Nat) (t:TypeId) (r:Value),f.resultTypes[j]?=some t→(v.resultList f.resultTypes.size)[j]?=some r→Value.okWide P W' .any 0 t r):
  s.post enc P f apart fresh handsOn again W args v W':=by
 have hlt:∀p∈before,p.block<W.heap.size:=fun p hp=>hW.lt p hp;have hold:∀p∈before,(fun b=>decide (b<W.heap.size)) p.block=true:=fun p hp=>by simpa using hlt p hp
 refine⟨ds,gs,before,[],pa,pv,hW,hres _ _ _,hargs _ hold,hvars _ hold,World.keptBut_mono (fun p hp=>⟨hp,?_⟩) (hb.frame (·∈before)),fun _=>?_⟩
 ·grind
 ·obtain⟨_,_,_,_,_,hz,hn⟩:=hW;refine⟨hok,_,_,([]++pa)++pv,⟨[]++pa,pv,trodAll_append (hargs _ (fun _ _=>rfl)) (hres _ _ _),hvars _ (fun _ _=>rfl),rfl,?_,?_⟩,?_⟩
  ·intro b off hp;have hin:MemPlace.cell b off∈before:=by rw[hps];simpa using hp
   rw[hb.frozen (hlt _ hin)];exact hz b off hin
  ·grind
  grind
end
theorem MZ:laidOutB Tryz.prog=true:=by kernel_rfl
theorem rl{H:Type}{enc:TypeId×Value→H}{P:Program}(hl:laidOutB P=true){W W':World}{sp:Nat→Bool}:∀(ts:List TypeId) (vs:List Value) (ds:List (DataW H)) (ps:List MemPlace),
  (ts.all fun t=>P.readableRec t&&Nat.ble (t+1) P.types.size)=true→DataW.TrodAll enc P W 0 (fun _=>true) true ts vs ds ps→(∀p∈ps,W.sameAt W' p)→(∀p∈ps,sp p.block=true)→DataW.TrodAll enc P W' 0 sp true ts vs ds ps
 |[],vs,ds,ps,_,h,_,_=>by obtain⟨rfl,rfl,rfl⟩:=trodAll_nil h;exact trodAll_mk0
 |t::ts,vs,ds,ps,ht,h,hs,hp=>by
  obtain⟨v,vs',d,ds',p,q,rfl,rfl,rfl,h0,h1⟩:=trodAll_cons h;simp only[apP,am9]at ht
  exact trodAll_cons_mk (Trod_stays hl ht.1.1 (anc ht.1.2) h0 (fun x hx=>hs x (aoE _ hx)) (fun x hx=>hp x (aoE _ hx)))
   (rl hl ts vs' ds' q ht.2 h1 (fun x hx=>hs x (apc _ hx)) (fun x hx=>hp x (apc _ hx)))
set_option maxRecDepth 100000 in
theorem Nb{H:Type}{enc:TypeId×Value→H}{f:Func}{s:ChangeSpec}{apart fresh handsOn again:Bool}{W W':World}{args:Array Value}{ds:List (DataW H)}{before:List MemPlace}
  (hW:DataW.Whole enc Tryz.prog f.params.toList s.vars apart W args.toList ds [] before) (hv:s.vars=[]) (hr:f.resultTypes= #[4]) (hfn:(s.fn H (ds++[])).results=[.lit (.bool true)]∧(s.fn H (ds++[])).args=ds∧(s.fn H (ds++[])).vars=[])
  (hp:(f.params.toList.all fun t=>Tryz.prog.readableRec t&&Nat.ble (t+1) Tryz.prog.types.size)=true) (hb:Below W.heap.size W W'):s.post enc Tryz.prog f apart fresh handsOn again W args (.bool true) W':=by
 have hW':=hW;obtain⟨p,q,hA,hV,rfl,hfz,hnd⟩:=hW
 have hq:q=[]:=by
  rw[hv]at hV;exact(trodVars_none hV).2
 subst hq;have hlt:∀x∈p,x.block<W.heap.size:=fun x hx=>hW'.lt x (by simpa using hx);refine yY (pa:=p) (pv:=[]) hW' ?_ ?_ ?_ rfl hb ?_
 ·intro b sp hd;rw[hr,hfn.1];exact trodAll_mk1 (shut_bool Tryz.underlying4 _)
 ·intro sp hsp;rw[hfn.2.1];exact rl MZ _ _ _ _ hp hA (fun x hx=>hb.same (hlt x hx)) (fun x hx=>hsp x (by simpa using hx))
 ·intro sp _;rw[hv,hfn.2.2];rfl
 ·exact ok_one hr rfl (okWide_bool_mk (P:=Tryz.prog) Tryz.underlying4 true)
theorem Ge{P:Program}{w:World}{r:Reach}{base:Nat}{t e:TypeId}{n:Nat}{v:Value}(ht:P.underlying t=some (.array n e))(h:Value.okWide P w r base t v):∃cs,v=.agg cs∧cs.size=P.cellsOf t:=by
 simp only[Value.okWide,ht]at h;obtain⟨cs,h1,h2,_⟩:=h;exact⟨cs,h1,h2⟩
theorem E9{P:Program}{w:World}{r:Reach}{base:Nat}{t:TypeId}{v:Value}(ht:P.underlying t=some .string)(h:Value.okWide P w r base t v):∃s,v=.string s:=by
 simp only[Value.okWide,ht,Cell.okWide]at h;cases v<;>simp_all [Cell.ok]
theorem yI{H:Type}{enc:TypeId×Value→H}{P:Program}{w:World}{r:Reach}{b0 base:Nat}{spare:Nat→Bool}{held:Bool}{v:Value}{d:DataW H}{p:List MemPlace}{t:TypeId}(n:Nat)(ty:Ty)(hrep:rep P n t ty=true)(hv:Value.okWide P w r b0 t v)(h:DataW.Trod enc P w base spare held t v d p):
  ∃y:ty.D,Rel1 [] (fun _=>True) w (.d ty y) v∧ty.ok y:=by
 obtain⟨fuel,hf⟩:=h
 have fin:v.cells.toList.length=ty.n→v=mkV ty v.cells.toList→∃y:ty.D,Rel1 [] (fun _=>True) w (.d ty y) v∧ty.ok y:=fun hl hm=>by
  obtain⟨y,h1,h2⟩:=(VL ty).1 n t hrep fuel _ _ hl hf;exact⟨y,⟨_,h1,hm⟩,h2⟩
 cases n with
 |zero=>simp[rep]at hrep
 |succ n=>
  have hrep':=hrep;unfold rep at hrep';split at hrep'<;>try (cases hrep';done)
  ·rename_i hu;obtain⟨m,rfl⟩:=okWide_int hu hv;exact fin rfl rfl
  ·rename_i hu;obtain⟨m,rfl⟩:=okWide_bool hu hv;exact fin rfl rfl
  ·rename_i hu;obtain⟨m,rfl⟩:=E9 hu hv;exact fin rfl rfl
  ·rename_i hu;obtain⟨q,m,c,rfl⟩:=okWide_slice hu hv;exact fin rfl rfl
  ·rename_i hu;obtain⟨cs,rfl,hsz⟩:=okWide_struct hu hv;simp only[am9]at hrep';exact fin (by simp only[Value.cells,Array.length_toList,hsz];exact ana hrep'.2) (by simp[mkV,Ty.isSt,Value.cells])
  ·rename_i hu;obtain⟨cs,rfl,hsz⟩:=Ge hu hv;simp only[am9]at hrep';exact fin (by simp only[Value.cells,Array.length_toList,hsz];exact ana hrep'.2) (by simp[mkV,Ty.isSt,Value.cells])
end
end Go.Proofs.YtnkndpoojnflmaaGreat
end
namespace Go.Proofs.YtnkndpoojnflmaaGreat.lawClearanceLists
open Go.ChangeShapes Go.WideShapes Go.ChangeAt Go.RowKit
set_option maxRecDepth 100000 in
theorem contract(H:Type)(enc:TypeId×Value→H)(W:World)(base:Nat)(args:Array Value)(ds gs:List (DataW H))(before:List MemPlace)
  (hval:∀(j:Nat) t v,Tryz.f9.params[j]?=some t→args[j]?=some v→Value.okWide Tryz.prog W .any base t v)
  (hW:DataW.Whole enc Tryz.prog Tryz.f9.params.toList Rows.clearanceListsSpec.vars false W args.toList ds gs before):
  Calls Tryz.prog 9 args W fun e W'=>∃v,e=.returned v∧Rows.clearanceListsSpec.post enc Tryz.prog Tryz.f9 false true false false W args v W':=by
 have hW':=hW;obtain⟨p,q,hA0,hV,rfl,hfz,hnd⟩:=hW;have hA:DataW.TrodAll enc Tryz.prog W 0 (fun _=>true) true Tryz.f9.params.toList args.toList ds p:=hA0;rw[Tryz.params9]at hA hval;obtain⟨v0,vs0,d0,ds0,p0,q0,e0,rfl,rfl,h0,r0⟩:=trodAll_cons hA;obtain⟨v1,vs1,d1,ds1,p1,q1,e1,rfl,rfl,h1,r1⟩:=trodAll_cons r0;obtain⟨v2,vs2,d2,ds2,p2,q2,e2,rfl,rfl,h2,r2⟩:=trodAll_cons r1;obtain⟨en,rfl,rfl⟩:=trodAll_nil r2;obtain rfl:args= #[v0,v1,v2]:=by cases args;simp_all
 obtain⟨rfl,rfl⟩:=trodVars_none hV;obtain⟨y0,s0,k0⟩:=yI 12 (.sl tDr) (by kernel_rfl) (hval 0 68 v0 rfl rfl) h0;obtain⟨y1,s1,k1⟩:=yI 12 (.sl tDr) (by kernel_rfl) (hval 1 68 v1 rfl rfl) h1;obtain⟨y2,s2,k2⟩:=yI 12 (.int .i8) (by kernel_rfl) (hval 2 22 v2 rfl rfl) h2;clear hA0;refine(Ww y0 y1 y2 k0 k1 k2 (fun _=>True) W [v0,v1,v2] Ow ⟨s0,s1,s2,trivial⟩).mono ?_;rintro e W' ⟨v,rfl,hb,hres⟩
 have hv:v=.bool true:=sY (G:=[]) (eP hres);subst hv;exact⟨_,rfl,Nb hW' rfl (by kernel_rfl) ⟨rfl,rfl,rfl⟩ (by kernel_rfl) hb⟩
set_option maxRecDepth 100000 in
theorem lifted(os:Os)(started:os.Started)(H:Type)(enc:TypeId×Value→H):
  ReturnsInHanded {} Tryz.checked os 9 .any (Rows.clearanceListsSpec.pre6 enc Tryz.prog Tryz.f9 Rows.clearanceListsRow.domain false) (Rows.clearanceListsSpec.post enc Tryz.prog Tryz.f9 false true false false):=by
 refine returnsInHanded_of_change (C:=Tryz.checked) Pz started (by kernel_rfl) Tryz.func9
  (ChangeSpec.witness6 (enc:=enc) (C:=Tryz.checked) false ⟨#[],#[.slice none 0 0,.slice none 0 0,.int .i8 0],[]⟩ 8 (by kernel_rfl) (by kernel_rfl) (by kernel_rfl) (by kernel_rfl)) ?_
 intro W base args ds gs before hval hW _ _;exact contract H enc W base args ds gs before hval hW
end Go.Proofs.YtnkndpoojnflmaaGreat.lawClearanceLists
namespace Go.Proofs.YtnkndpoojnflmaaGreat.lawClearanceLists
open Go.ChangeShapes Go.WideShapes Go.ChangeAt Go.RowKit
set_option maxRecDepth 100000 in
theorem alh:(Rows.clearanceListsRow.inPlace==Tryz.prog.inPlace 9)=true:=by kernel_rfl
set_option maxRecDepth 100000 in
theorem alt:(Rows.clearanceListsRow.unfollowed==Tryz.prog.unfollowed 9)=true:=by kernel_rfl
set_option maxRecDepth 100000 in
theorem amk:(Rows.clearanceListsRow.recurses==Tryz.prog.recurses 9)=true:=by kernel_rfl
set_option maxRecDepth 100000 in
theorem alg:(Rows.clearanceListsRow.named==Tryz.prog.varsNamed 9)=true:=by kernel_rfl
set_option maxRecDepth 100000 in
theorem kf2:(laidOutB Tryz.prog)=true:=by kernel_rfl
set_option maxRecDepth 100000 in
theorem ak7:(Tryz.prog.mayEnter)=true:=by kernel_rfl
theorem gT{a b:Bool}(h:a=true)(h':b=true):(a&&b)=true:=by rw[h,h'];rfl
set_option maxRecDepth 100000 in
theorem abC:joinedFacts Tryz.prog 9 Tryz.f9 Rows.clearanceListsSpec Rows.clearanceListsRow=true:=by
 unfold joinedFacts;exact(gT (gT (gT (gT (gT (gT (gT (gT (gT (gT (gT (gT (gT (gT (gT (gT (gT (gT (gT (gT (gT (gT (gT (gT (gT (gT (gT (gT (gT (gT (gT (by kernel_rfl) kf2) (by kernel_rfl)) (by kernel_rfl)) (by kernel_rfl)) (by kernel_rfl)) (by kernel_rfl)) (by kernel_rfl)) (by kernel_rfl)) alh) alt) amk) alg) (by kernel_rfl)) (by kernel_rfl)) (by kernel_rfl)) (by kernel_rfl)) (by kernel_rfl)) (by kernel_rfl)) (by kernel_rfl)) (by kernel_rfl)) (by kernel_rfl)) (by kernel_rfl)) (by kernel_rfl)) (by kernel_rfl)) ak7) (by kernel_rfl)) (by kernel_rfl)) (by kernel_rfl)) (by kernel_rfl)) (by kernel_rfl)) (by kernel_rfl))
theorem proved:Rows.ClearanceListsSaid:=
 OpenClaim.holds_of_wide 9 Tryz.f9 rfl rfl rfl rfl rfl rfl rfl ⟨rfl,rfl,rfl,rfl,rfl⟩ rfl rfl rfl rfl rfl (by kernel_rfl) Tryz.func9 abC
  (of_decide_eq_true (by kernel_rfl)) (by unfold Func.isWrapper;first|(rw[if_pos (by decide+kernel)];kernel_rfl)|(rw[if_neg (by decide+kernel)];exact⟨rfl,rfl⟩))
  (fun os started H enc _=>lifted os started H enc)
end Go.Proofs.YtnkndpoojnflmaaGreat.lawClearanceLists
