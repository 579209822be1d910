/- Common points of lines and circles: the reference's contracts. -/
import Derived.Test.YtnkndpoojnflmaaGreatF14
import Derived.Test.YtnkndpoojnflmaaGreatF13
noncomputable section
namespace Go.Proofs.YtnkndpoojnflmaaGreat
open Go.RowKit Go.IntKind
theorem aob:type_of% @decide_eq_true_iff:=@decide_eq_true_iff
theorem aoX:type_of% @List.filter_cons:=@List.filter_cons
theorem apO:type_of% @List.filter_nil:=@List.filter_nil
section
theorem KB(a b:Rat):((aj a,aj b):BV)=enc ((a,b):Rat×Rat):=nr rfl
theorem P2{q:Rat}(h:¬q<0)(h':¬q=0):0<q:=by grind
theorem rdl{l:Ln}(h:cr l≠0)(hl:l.1≠0∨l.2.1≠0):¬(l.2.1/cr l=0∧ -l.1/cr l=0):=by
 intro ⟨h1,h2⟩
 have m:∀a:Rat,a/cr l=0→a=0:=fun a e=>by
  have:a/cr l*cr l=a:=anv h;rw[e,Rat.zero_mul]at this;exact this.symm
 have:=m _ h1;have:=m _ h2;rcases hl with h|h<;>grind
section
variable {l c:Ln}
theorem LO(hl:l.1≠0∨l.2.1≠0)(h0:0≤jG l c):Rpd (sM l c)∧Rpd (tk l c):=by
 have hn:=oh hl;refine⟨A9 (fun h=>rdl hn hl ⟨by grind,by grind⟩) h0,A9 (rdl hn hl) h0⟩
theorem PP [BdL l][BdC c]:Bd (sM l c) 490∧Bd (tk l c) 490:=by
 obtain⟨h1,h2,h3,h4⟩:=ut (l:=l) (c:=c);have h5:Bd (jG l c) 257:=inferInstance;have n1:Bd (-(l.2.1/cr l)) 61:=inferInstance;have i1:Bd (cr l) 49:=inferInstanceAs (Bd (l.1*l.1+l.2.1*l.2.1) _);have n2:Bd (-l.1/cr l) 61:=(inferInstance:Bd (-l.1/cr l) _)
 have n3:Bd (-(-l.1/cr l)) 61:=inferInstance;exact⟨BM h1 n1 h2 n3 h5 (by decide),BM h1 h3 h2 n2 h5 (by decide)⟩
end
theorem yu{c d:Ln}[BdC c][BdC d]:BdL (ng c d):=by
 have b2:Bd (2:Rat) 3:=bS (n:=2) (by decide);have f1:Bd (qU c) 31:=(inferInstance:Bd (c.1*c.1+c.2.1*c.2.1-c.2.2) _).mono (by decide);have f2:Bd (qU d) 31:=(inferInstance:Bd (d.1*d.1+d.2.1*d.2.1-d.2.2) _).mono (by decide);have g1:Bd (2*(d.1-c.1)) _:=inferInstance;have g2:Bd (2*(d.2.1-c.2.1)) _:=inferInstance;have g3:Bd (qU d-qU c) _:=inferInstance;exact⟨g1.mono (by decide),g2.mono (by decide),g3.mono (by decide)⟩
theorem uy{c d:Ln}(h:gY c d=false):(ng c d).1≠0∨(ng c d).2.1≠0:=by
 unfold gY at h;unfold ng;dsimp only;by_cases h1:c.1=d.1
 ·rw[am5 h1,aoj]at h;have:=anZ h;right;grind
 ·left;grind
theorem Mc{c d:Ln}[BdC c][BdC d](h:gY c d=false):cS (enc (ng c d)):=l8 (h:=yu) (uy h)
def vD:List En:=[enT iY,enL lj,enL lY,enL n8,enL mh,enT qf,enL pI,enL Gi,enL O7,enL vk,enT Au,enL Ck]
def ah6:Cn 273 [tR,tR]:=cn fun(a b:BR)=>lf (okR a∧okR b) [.d tR (aj (ae a+ae b))] fun h=>jx [RV.d tR (hAd a b)] (du vD) h
def aiW:Cn 255 [tR,tR]:=cn fun(a b:BR)=>lf (okR a∧okR b) [.d tR (aj (ae a-ae b))] fun h=>jx [RV.d tR (hSu a b)] (du vD) h
def ajH:Cn 256 [tR,tR]:=cn fun(a b:BR)=>lf (okR a∧okR b) [.d tR (aj (ae a*ae b))] fun h=>jx [RV.d tR (hMu a b)] (du vD) h
def age:Cn 181 [tR]:=cn fun(a:BR)=>lf (okR a) [.d tR (aj (-ae a))] fun h=>jx [RV.d tR (hNe a)] (du vD) h
def agU:Cn 253 [tR,tR]:=cn fun(a b:BR)=>lf (ij a b) [.d tR (aj (ae a/ae b))] fun h=>jx [RV.d tR (hDi a b)] (du vD) h
def Qw(l m:BO3)(_k:KT):OLR:=og (o2 l.1 m.2.1) (og (o2 l.2.1 m.1) (og (o2 (hMu l.1 m.2.1) (hMu l.2.1 m.1)) (match(aD (ae (hMu l.1 m.2.1)) (ae (hMu l.2.1 m.1)))==0 with|true=>(og (o2 l.1 m.2.2) (og (o2 l.2.2 m.1) (og (o2 (hMu l.1 m.2.2) (hMu l.2.2 m.1)) (match(aD (ae (hMu l.1 m.2.2)) (ae (hMu l.2.2 m.1)))==0 with|true=>(og (o2 l.2.1 m.2.2) (og (o2 l.2.2 m.2.1) (og (o2 (hMu l.2.1 m.2.2) (hMu l.2.2 m.2.1)) (some [RV.d .bool ((aD (ae (hMu l.2.1 m.2.2)) (ae (hMu l.2.2 m.2.1)))==0)]))))|false=>some [RV.d .bool false]))))|false=>some [RV.d .bool false])))
def aex:Cn 146 [tO,tO]:=cn fun(l m:BO3)=>lf (cS l∧cS m) [.d .bool (qX (dec l) (dec m))] fun h=>by
 refine aA vD (Qw l m) ⟨0,?_⟩;obtain⟨hl,hm⟩:=h;obtain⟨l,rfl,bl,nl⟩:=eK hl;obtain⟨m,rfl,bm,nm⟩:=eK hm;unfold Qw qX;simp only[aO,Nat.reduceAdd,Nat.reduceLeDiff,ao];cases decide (l.1*m.2.1=l.2.1*m.1)<;>cases decide (l.1*m.2.2=l.2.2*m.1)<;>rfl
def Pq(c d:BO3)(_k:KT):OLR:=og (o2 c.1 d.1) (match(aD (ae c.1) (ae d.1))==0 with|true=>(og (o2 c.2.1 d.2.1) (match(aD (ae c.2.1) (ae d.2.1))==0 with|true=>(og (o2 c.2.2 d.2.2) (some [RV.d .bool ((aD (ae c.2.2) (ae d.2.2))==0)]))|false=>some [RV.d .bool false]))|false=>some [RV.d .bool false])
def acf:Cn 145 [tO,tO]:=cn fun(c d:BO3)=>lf (cp c∧cp d) [.d .bool (tX (dec c) (dec d))] fun h=>by
 refine aA vD (Pq c d) ⟨0,?_⟩;obtain⟨hc,hd⟩:=h;obtain⟨c,rfl,bc,nc⟩:=cE hc;obtain⟨d,rfl,bd,nd⟩:=cE hd;unfold Pq tX;simp only[aO,Nat.reduceLeDiff,ao];cases decide (c.1=d.1)<;>cases decide (c.2.1=d.2.1)<;>rfl
def zQ:List En:=enL ah6::enL aiW::enL ajH::enL age::enL agU::vD
def Y8(l m:BO3)(_k:KT):OLR:=og (o2 l.1 m.2.1) (og (o2 m.1 l.2.1) (og (o2 (hMu l.1 m.2.1) (hMu m.1 l.2.1)) (some [RV.d tR (hSu (hMu l.1 m.2.1) (hMu m.1 l.2.1))])))
def aiB:Cn 257 [tO,tO]:=cn fun(l m:BO3)=>lf (cS l∧cS m) [.d tR (aj (eg (dec l) (dec m)))] fun h=>by
 refine aA zQ (Y8 l m) ⟨0,?_⟩;obtain⟨hl,hm⟩:=h;obtain⟨l,rfl,bl,nl⟩:=eK hl;obtain⟨m,rfl,bm,nm⟩:=eK hm;unfold Y8 eg;simp only[aO,Nat.reduceAdd,Nat.reduceLeDiff]
def WE(l:BO3)(_k:KT):OLR:=og (o2 l.1 l.1) (og (o2 l.2.1 l.2.1) (og (o2 (hMu l.1 l.1) (hMu l.2.1 l.2.1)) (some [RV.d tR (hAd (hMu l.1 l.1) (hMu l.2.1 l.2.1))])))
def af5:Cn 252 [tO]:=cn fun(l:BO3)=>lf (cS l) [.d tR (aj (cr (dec l)))] fun h=>by
 refine aA zQ (WE l) ⟨0,?_⟩;have hl:=h;obtain⟨l,rfl,bl,nl⟩:=eK hl;unfold WE cr;simp only[aO,Nat.reduceAdd,Nat.reduceLeDiff]
def aa3(l:BO3)(x y:BR)(_k:KT):OLR:=og (o2 l.1 x) (og (o2 l.2.1 y) (og (o2 (hMu l.1 x) (hMu l.2.1 y)) (og (o2 (hAd (hMu l.1 x) (hMu l.2.1 y)) l.2.2) (some [RV.d tR (hSu (hAd (hMu l.1 x) (hMu l.2.1 y)) l.2.2)]))))
def aj2:Cn 254 [tO,tR,tR]:=cn fun(l:BO3) (x y:BR)=>lf (cS l∧ok Rat 4 x∧ok Rat 4 y) [.d tR (aj (vlL (dec l) (ae x) (ae y)))] fun h=>by
 refine aA zQ (aa3 l x y) ⟨0,?_⟩;obtain⟨hl,hx,hy⟩:=h;obtain⟨l,rfl,bl,nl⟩:=eK hl;obtain⟨x,rfl,bx⟩:=aB hx;obtain⟨y,rfl,b_y⟩:=aB hy;unfold aa3 vlL;simp only[aO,Nat.reduceAdd,Nat.reduceLeDiff]
def Yl(c d:BO3)(_k:KT):OLR:=og (o2 c.1 d.1) (match(aD (ae c.1) (ae d.1))==0 with|true=>(og (o2 c.2.1 d.2.1) (some [RV.d .bool ((aD (ae c.2.1) (ae d.2.1))==0)]))|false=>some [RV.d .bool false])
def afG:Cn 249 [tO,tO]:=cn fun(c d:BO3)=>lf (cp c∧cp d) [.d .bool (gY (dec c) (dec d))] fun h=>by
 refine aA zQ (Yl c d) ⟨0,?_⟩;obtain⟨hc,hd⟩:=h;obtain⟨c,rfl,bc,nc⟩:=cE hc;obtain⟨d,rfl,bd,nd⟩:=cE hd;unfold Yl gY;simp only[aO,Nat.reduceLeDiff,ao];cases decide (c.1=d.1)<;>rfl
def ZN(a b c d e:BR)(_k:KT):OLR:=og (o1 e) (match fE (ae e)with|true=>(og (o2 b (hid (rtB (ae e)))) (og (o2 a (hMu b (hid (rtB (ae e))))) (og (o2 d (hid (rtB (ae e)))) (og (o2 c (hMu d (hid (rtB (ae e))))) (og (decide (ok (Rat×Rat) 100000 (hAd a (hMu b (hid (rtB (ae e)))),hAd c (hMu d (hid (rtB (ae e))))))) (some [RV.d tP (hid (enc (atP (dec (hAd a (hMu b (hid (rtB (ae e)))),hAd c (hMu d (hid (rtB (ae e)))))))))]))))))|false=>some [RV.d tP (a,(b,(c,(d,e))))])
def afr:Cn 180 [tR,tR,tR,tR,tR]:=cn fun(a b c d e:BR)=>lf (ok Rat 1000 a∧ok Rat 1000 b∧ok Rat 1000 c∧ok Rat 1000 d∧ok Rat 1000 e) [.d tP (enc (oE (ae a) (ae b) (ae c) (ae d) (ae e)))] fun h=>by
 refine aA zQ (ZN a b c d e) ⟨0,?_⟩;obtain⟨ha,hb,hc,hd,he⟩:=h;obtain⟨a,rfl,ba⟩:=aB ha;obtain⟨b,rfl,bb⟩:=aB hb;obtain⟨c,rfl,bc⟩:=aB hc;obtain⟨d,rfl,bd⟩:=aB hd;obtain⟨e,rfl,be⟩:=aB he;unfold ZN oE;simp only[aO,Nat.reduceLeDiff];cases hq:fE e
 ·rfl
 ·rw[RX hq];simp only[aO,Nat.reduceAdd,Nat.reduceLeDiff,KB];try rfl
def D0:List En:=enL aiB::enL af5::enL aj2::enT afG::enL afr::zQ
def YI(l m:BO3)(_k:KT):OLR:=og (decide (cS l∧cS m)) (og (o2 l.2.2 m.2.1) (og (o2 m.2.2 l.2.1) (og (o2 (hMu l.2.2 m.2.1) (hMu m.2.2 l.2.1)) (og (o2 l.1 m.2.2) (og (o2 m.1 l.2.2) (og (o2 (hMu l.1 m.2.2) (hMu m.1 l.2.2)) (og (o1 (hid (aj (eg (dec l) (dec m))))) (match(aD (ae (hid (aj (eg (dec l) (dec m))))) 0) !=0 with|true=>(og (decide (ij (hSu (hMu l.2.2 m.2.1) (hMu m.2.2 l.2.1)) (hid (aj (eg (dec l) (dec m)))))) (og (decide (ij (hSu (hMu l.1 m.2.2) (hMu m.1 l.2.2)) (hid (aj (eg (dec l) (dec m)))))) (og (decide (ok (Rat×Rat) 100000 (hDi (hSu (hMu l.2.2 m.2.1) (hMu m.2.2 l.2.1)) (hid (aj (eg (dec l) (dec m)))),hDi (hSu (hMu l.1 m.2.2) (hMu m.1 l.2.2)) (hid (aj (eg (dec l) (dec m))))))) (some [RV.d (.sl tP) ([hid (enc (atP (dec (hDi (hSu (hMu l.2.2 m.2.1) (hMu m.2.2 l.2.1)) (hid (aj (eg (dec l) (dec m)))),hDi (hSu (hMu l.1 m.2.2) (hMu m.1 l.2.2)) (hid (aj (eg (dec l) (dec m))))))))]),RV.d aqt 0]))))|false=>(og (o1 (hSu (hMu l.2.2 m.2.1) (hMu m.2.2 l.2.1))) (match(aD (ae (hSu (hMu l.2.2 m.2.1) (hMu m.2.2 l.2.1))) 0)==0 with|true=>(og (o1 (hSu (hMu l.1 m.2.2) (hMu m.1 l.2.2))) (match(aD (ae (hSu (hMu l.1 m.2.2) (hMu m.1 l.2.2))) 0)==0 with|true=>some [RV.d (.sl tP) ([]),RV.d aqt 10]|false=>some [RV.d (.sl tP) ([]),RV.d aqt 0]))|false=>some [RV.d (.sl tP) ([]),RV.d aqt 0]))))))))))
def Yc:Cn 149 [tO,tO]:=cn fun(l m:BO3)=>lf (cS l∧cS m) [.d (.sl tP) ((m6 (dec l) (dec m)).map enc),.d aqt (LK (dec l) (dec m))] fun h=>by
 refine aA D0 (YI l m) ⟨0,?_⟩;obtain⟨hl,hm⟩:=h;obtain⟨l,rfl,bl,nl⟩:=eK hl;obtain⟨m,rfl,bm,nm⟩:=eK hm;have ol:=am5 (l8 (l:=l) nl);have om:=am5 (l8 (l:=m) nm);have bc:Bd (eg l m) 49:=inferInstanceAs (Bd (l.1*m.2.1-m.1*l.2.1) _);have e1:l.2.2*m.2.1-m.2.2*l.2.1=mj l m:=rfl;have e2:l.1*m.2.2-m.1*l.2.2=mt l m:=rfl;unfold YI m6 LK;simp only[aO,Nat.reduceAdd,Nat.reduceLeDiff,ao,aS,ol,om];by_cases h0:eg l m=0
 ·simp only[am5 h0,e1,e2,Bool.not_true];cases decide (mj l m=0)<;>cases decide (mt l m=0)<;>rfl
 ·simp only[aO,Nat.reduceAdd,Nat.reduceLeDiff,h0,ne_eq,aop,Bool.not_false,KB];rfl
def aaJ(l c:BO3)(_k:KT):OLR:=og (decide (cS l∧ok Rat 4 c.1∧ok Rat 4 c.2.1)) (og (decide (cS l)) (og (o2 (hid (aj (cr (dec l)))) c.2.2) (og (o2 (hid (aj (vlL (dec l) (ae c.1) (ae c.2.1)))) (hid (aj (vlL (dec l) (ae c.1) (ae c.2.1))))) (og (o2 (hMu (hid (aj (cr (dec l)))) c.2.2) (hMu (hid (aj (vlL (dec l) (ae c.1) (ae c.2.1)))) (hid (aj (vlL (dec l) (ae c.1) (ae c.2.1)))))) (some [RV.d tR (hSu (hMu (hid (aj (cr (dec l)))) c.2.2) (hMu (hid (aj (vlL (dec l) (ae c.1) (ae c.2.1)))) (hid (aj (vlL (dec l) (ae c.1) (ae c.2.1))))))])))))
def ahE:Cn 251 [tO,tO]:=cn fun(l c:BO3)=>lf (cS l∧cp c) [.d tR (aj (jG (dec l) (dec c)))] fun h=>by
 refine aA D0 (aaJ l c) ⟨0,?_⟩;obtain⟨hl,hc⟩:=h;obtain⟨l,rfl,bl,nl⟩:=eK hl;obtain⟨c,rfl,bc,nc⟩:=cE hc;have ol:=am5 (l8 (l:=l) nl);have bv:Bd (vlL l c.1 c.2.1) 97:=inferInstanceAs (Bd (l.1*c.1+l.2.1*c.2.1-l.2.2) _);have bn:Bd (cr l) 49:=inferInstanceAs (Bd (l.1*l.1+l.2.1*l.2.1) _);unfold aaJ jG;simp only[aO,Nat.reduceAdd,Nat.reduceLeDiff,ol]
def aal(c d:BO3)(_k:KT):OLR:=og (decide (cp c∧cp d)) (match gY (dec c) (dec d)with|true=>some [RV.d tO (((false,[]),(false,[])),(((false,[]),(false,[])),((false,[]),(false,[])))),RV.d aqt 6]|false=>(og (decide (aH (2:Int))) (og (o2 c.1 c.1) (og (o2 c.2.1 c.2.1) (og (o2 (hMu c.1 c.1) (hMu c.2.1 c.2.1)) (og (o2 (hAd (hMu c.1 c.1) (hMu c.2.1 c.2.1)) c.2.2) (og (o2 d.1 d.1) (og (o2 d.2.1 d.2.1) (og (o2 (hMu d.1 d.1) (hMu d.2.1 d.2.1)) (og (o2 (hAd (hMu d.1 d.1) (hMu d.2.1 d.2.1)) d.2.2) (og (o2 d.1 c.1) (og (o2 (hid (aj ((2:Int):Rat))) (hSu d.1 c.1)) (og (o2 d.2.1 c.2.1) (og (o2 (hid (aj ((2:Int):Rat))) (hSu d.2.1 c.2.1)) (og (o2 (hSu (hAd (hMu d.1 d.1) (hMu d.2.1 d.2.1)) d.2.2) (hSu (hAd (hMu c.1 c.1) (hMu c.2.1 c.2.1)) c.2.2)) (some [RV.d tO (hMu (hid (aj ((2:Int):Rat))) (hSu d.1 c.1),(hMu (hid (aj ((2:Int):Rat))) (hSu d.2.1 c.2.1),hSu (hSu (hAd (hMu d.1 d.1) (hMu d.2.1 d.2.1)) d.2.2) (hSu (hAd (hMu c.1 c.1) (hMu c.2.1 c.2.1)) c.2.2))),RV.d aqt 0]))))))))))))))))
def agT:Cn 250 [tO,tO]:=cn fun(c d:BO3)=>lf (cp c∧cp d) [.d tO (vT (dec c) (dec d)),.d aqt (Tq (dec c) (dec d))] fun h=>by
 refine aA D0 (aal c d) ⟨0,?_⟩;obtain⟨hc,hd⟩:=h;obtain⟨c,rfl,bc,nc⟩:=cE hc;obtain⟨d,rfl,bd,nd⟩:=cE hd;have oc:=am5 (gR (c:=c) nc);have od:=am5 (gR (c:=d) nd);have i2:decide (aH 2)=true:=by decide
 have b2:Bd ((2:Int):Rat) 3:=bS (by decide);unfold aal vT Tq;simp only[aO,Nat.reduceAdd,Nat.reduceLeDiff,oc,od,i2];cases gY c d
 ·rfl
 ·rfl
def aa4(c:BO3)(_k:KT):OLR:=og (decide (aH (1:Int))) (og (decide (aH (0:Int))) (og (o1 (hid (aj ((1:Int):Rat)))) (og (decide (ok Rat 1000 c.1∧ok Rat 1000 (hNe (hid (aj ((1:Int):Rat))))∧ok Rat 1000 c.2.1∧ok Rat 1000 (hid (aj ((0:Int):Rat)))∧ok Rat 1000 c.2.2)) (og (decide (ok Rat 1000 c.1∧ok Rat 1000 (hid (aj ((1:Int):Rat)))∧ok Rat 1000 c.2.1∧ok Rat 1000 (hid (aj ((0:Int):Rat)))∧ok Rat 1000 c.2.2)) (some [RV.d tP (hid (enc (oE (ae c.1) (ae (hNe (hid (aj ((1:Int):Rat))))) (ae c.2.1) (ae (hid (aj ((0:Int):Rat)))) (ae c.2.2)))),RV.d tP (hid (enc (oE (ae c.1) (ae (hid (aj ((1:Int):Rat)))) (ae c.2.1) (ae (hid (aj ((0:Int):Rat)))) (ae c.2.2))))])))))
def Z7:Cn 81 [tO]:=cn fun(c:BO3)=>lf (cp c) [.d tP (enc (l9 (dec c))),.d tP (enc (ml (dec c)))] fun h=>by
 refine aA D0 (aa4 c) ⟨0,?_⟩;have hc:=h;obtain⟨c,rfl,bc,nc⟩:=cE hc;have b0:Bd ((0:Int):Rat) 3:=bS (by decide);have b1:Bd ((1:Int):Rat) 3:=bS (by decide);have i0:decide (aH 0)=true:=by decide
 have i1:decide (aH 1)=true:=by decide
 unfold aa4 l9 ml;simp only[aO,Nat.reduceLeDiff,i0,i1];rfl
def QM:List En:=enL Yc::enL ahE::enL agT::enL Z7::D0
def ajg:Ctx:=CX (ens QM) []
def YS(l c:BO3)(_k:KT):OLR:=let y1:=hid (aj (jG (dec l) (dec c)));let y2:=hid (aj (vlL (dec l) (ae c.1) (ae c.2.1)));let y3:=hid (aj (cr (dec l)));let y4:=hMu (hDi y2 y3) l.1;let y5:=hMu (hDi y2 y3) l.2.1;let y6:=hDi (hNe l.1) y3;let y7:=hNe (hDi l.2.1 y3);let y8:=ae (hSu c.2.1 y5);let y9:=enc (oE (ae (hSu c.1 y4)) (ae y7) y8 (ae (hNe y6)) (ae y1));let y10:=enc (oE (ae (hSu c.1 y4)) (ae (hDi l.2.1 y3)) y8 (ae y6) (ae y1));og (decide (cS l∧cp c)) (og (decide (cS l)) (og (o1 y1) (match decide ((aD (ae y1) 0)<0)with|true=>some [RV.new 37 tP []]|false=>(og (decide (cS l∧ok Rat 4 c.1∧ok Rat 4 c.2.1)) (og (decide (ij y2 y3)) (og (o2 (hDi y2 y3) l.1) (og (o2 c.1 y4) (og (o2 (hDi y2 y3) l.2.1) (og (o2 c.2.1 y5) (og (o1 y1) (match(aD (ae y1) 0)==0 with|true=>(og (decide (ok (Rat×Rat) 100000 (hSu c.1 y4,hSu c.2.1 y5))) (some [RV.new 37 tP ([hid (enc (atP (dec (hSu c.1 y4,hSu c.2.1 y5))))])]))|false=>(og (decide (ij l.2.1 y3)) (og (o1 l.1) (og (decide (ij (hNe l.1) y3)) (og (o1 (hDi l.2.1 y3)) (og (o1 y6) (og (decide (ok Rat 1000 (hSu c.1 y4)∧ok Rat 1000 y7∧ok Rat 1000 (hSu c.2.1 y5)∧ok Rat 1000 (hNe y6)∧ok Rat 1000 y1)) (og (decide (ok Rat 1000 (hSu c.1 y4)∧ok Rat 1000 (hDi l.2.1 y3)∧ok Rat 1000 (hSu c.2.1 y5)∧ok Rat 1000 y6∧ok Rat 1000 y1)) (og (decide (okP 4000 (hid y9)∧okP 4000 (hid y10))) (match decide ((aX (dec (hid y9)) (dec (hid y10)))>0)with|true=>some [RV.new 37 tP ([hid y10,hid y9])]|false=>some [RV.new 37 tP ([hid y9,hid y10])]))))))))))))))))))))
theorem agS(l c:BO3):RS ajg 148 [.d tO l,.d tO c] (YS l c):=rsX
def Xx:Cn 148 [tO,tO]:=cn fun(l c:BO3)=>lf (cS l∧cp c) [.d (.sl tP) ((rP (dec l) (dec c)).map enc)] fun h=>by
 refine Con.new_d (et:=37) (cY QM (agS _ _ ⟨0,?_⟩));obtain⟨hl,hc⟩:=h;obtain⟨l,rfl,bl,nl⟩:=eK hl;obtain⟨c,rfl,bc,nc⟩:=cE hc;have ol:=am5 (l8 (l:=l) nl);have oc:=am5 (gR (c:=c) nc);have hn:=oh nl;have bv:Bd (vlL l c.1 c.2.1) 97:=inferInstanceAs (Bd (l.1*c.1+l.2.1*c.2.1-l.2.2) _);have bn:Bd (cr l) 49:=inferInstanceAs (Bd (l.1*l.1+l.2.1*l.2.1) _);have e1:c.1-vlL l c.1 c.2.1/cr l*l.1=ftX l c:=rfl;have e2:c.2.1-vlL l c.1 c.2.1/cr l*l.2.1=ftY l c:=rfl;obtain⟨f1,f2,_,_⟩:=ut (l:=l) (c:=c);unfold YS rP;simp only[aO,Nat.reduceAdd,Nat.reduceLeDiff,ao,aq,ol,oc,hn,ne_eq,aop,e1,e2,KB];by_cases h0:jG l c<0
 ·simp only[am5 h0];rfl
 ·simp only[am7 h0];by_cases h1:jG l c=0
  ·simp only[am5 h1];rfl
  ·have hp:=P2 h0 h1;obtain⟨p1,p2⟩:=LO (c:=c) nl (show 0≤jG l c by grind);obtain⟨q1,q2⟩:=PP (l:=l) (c:=c);have g1:oE (ftX l c) (-(l.2.1/cr l)) (ftY l c) (-(-l.1/cr l)) (jG l c)=sM l c:=rfl;have g2:oE (ftX l c) (l.2.1/cr l) (ftY l c) (-l.1/cr l) (jG l c)=tk l c:=rfl;simp only[am7 h1,aO,Nat.reduceLeDiff,aJ,g1,g2];cases decide (aX (sM l c) (tk l c)>0)<;>rfl
def aie:List En:=enL Xx::QM
def Yr(c d:BO3)(_k:KT):OLR:=og (decide (cp c∧cp d)) (match gY (dec c) (dec d)with|true=>(og (o2 c.2.2 d.2.2) (match(aD (ae c.2.2) (ae d.2.2))==0 with|true=>some [RV.d (.sl tP) ([]),RV.d aqt 10]|false=>some [RV.d (.sl tP) ([]),RV.d aqt 0]))|false=>(og (decide (cp c∧cp d)) (og (decide (cS (hid (vT (dec c) (dec d)))∧cp c)) (some [RV.d (.sl tP) ((rP (dec (hid (vT (dec c) (dec d)))) (dec c)).map enc),RV.d aqt 0]))))
def ahG:Cn 147 [tO,tO]:=cn fun(c d:BO3)=>lf (cp c∧cp d) [.d (.sl tP) ((zb (dec c) (dec d)).map enc),.d aqt (U1 (dec c) (dec d))] fun h=>by
 refine aA aie (Yr c d) ⟨0,?_⟩;obtain⟨hc,hd⟩:=h;obtain⟨c,rfl,bc,nc⟩:=cE hc;obtain⟨d,rfl,bd,nd⟩:=cE hd;have oc:=am5 (gR (c:=c) nc);have od:=am5 (gR (c:=d) nd);unfold Yr zb U1;simp only[aO,Nat.reduceLeDiff,ao,oc,od];cases hc:gY c d
 ·have ol:cS (enc (ng c d)):=Mc hc;have er:vT c d=enc (ng c d):=by unfold vT;rw[hc];rfl
  simp only[er,dT ol,aO];try rfl
 ·cases decide (c.2.2=d.2.2)<;>rfl
end
def mG(c:BCU):Prop:=okC 500 c∧t3 c
instance (c:BCU):Decidable (mG c):=by unfold mG;infer_instance
def gU(c d:BCU):Prop:=mG c∧mG d
instance (c d:BCU):Decidable (gU c d):=by unfold gU;infer_instance
def vu(c d:BCU):List BP:=bif !cX (dC c) (dC d)then(sE (dC c) (dC d)).map enc else [c.2.2.2.2.1,c.2.2.2.2.2,d.2.2.2.2.1,d.2.2.2.2.2]
def Sz(c d:BCU):List BP:=(vu c d).filter fun p=>onR (dC c) (dec p)&&onR (dC d) (dec p)
def uo(c d:BCU):List BP:=kI (dC c) (Sz c d)
def S4(c d:BCU):Bool:=bif c.1&&(d.1&&(c.2.2.2.1 !=d.2.2.2.1))then true else !c.1&&(aX (dec c.2.2.2.2.1) (dec c.2.2.2.2.2) !=aX (dec d.2.2.2.2.1) (dec d.2.2.2.2.2))
def yX(c d:BCU):BCU:=bif S4 c d then tY d else d
def CA(c:Cv):List BP→Bool
 |[]=>false
 |x::r=>match r with
  |[]=>false
  |y::_=>decide (dk c (dec x) (dec y)<0)||CA c r
def EB(c d:BCU):Bool:=cX (dC c) (dC d)&&CA (dC (yX c d)) (uo c d)
def L7:List En:=[enL ahG,enL Xx,enL Yc,enT aex,enT acf,enT ST,enT Jn,enK agH,enL aaA,enT Au]
def P3(a b:BCU)(_k:KT):OLR:=match a.1 with|true=>(match b.1 with|true=>(og (decide (cp a.2.2.1∧cp b.2.2.1)) (some [RV.d (.sl tP) ((zb (dec a.2.2.1) (dec b.2.2.1)).map enc),RV.d aqt (U1 (dec a.2.2.1) (dec b.2.2.1))]))|false=>(match a.1 with|true=>(og (decide (cS b.2.1∧cp a.2.2.1)) (some [RV.d (.sl tP) ((rP (dec b.2.1) (dec a.2.2.1)).map enc),RV.d aqt 0]))|false=>(match b.1 with|true=>(og (decide (cS a.2.1∧cp b.2.2.1)) (some [RV.d (.sl tP) ((rP (dec a.2.1) (dec b.2.2.1)).map enc),RV.d aqt 0]))|false=>(og (decide (cS a.2.1∧cS b.2.1)) (some [RV.d (.sl tP) ((m6 (dec a.2.1) (dec b.2.1)).map enc),RV.d aqt (LK (dec a.2.1) (dec b.2.1))])))))|false=>(match a.1 with|true=>(og (decide (cS b.2.1∧cp a.2.2.1)) (some [RV.d (.sl tP) ((rP (dec b.2.1) (dec a.2.2.1)).map enc),RV.d aqt 0]))|false=>(match b.1 with|true=>(og (decide (cS a.2.1∧cp b.2.2.1)) (some [RV.d (.sl tP) ((rP (dec a.2.1) (dec b.2.2.1)).map enc),RV.d aqt 0]))|false=>(og (decide (cS a.2.1∧cS b.2.1)) (some [RV.d (.sl tP) ((m6 (dec a.2.1) (dec b.2.1)).map enc),RV.d aqt (LK (dec a.2.1) (dec b.2.1))]))))
def ab4:Cn 57 [tCU,tCU]:=cn fun(a b:BCU)=>lf (gX a b) [.d (.sl tP) ((sE (dC a) (dC b)).map enc),.d aqt (WZ (dC a) (dC b))] fun h=>by
 refine aA L7 (P3 a b) ⟨0,?_⟩;obtain⟨⟨a1,a2⟩,b1,b2⟩:=h;unfold P3 sE WZ zb;obtain⟨aa,al,ac,aw,af,at_⟩:=a;obtain⟨ba,bl,bc,bw,bf,bt⟩:=b;cases aa<;>cases ba
 ·have h1:=a2 rfl;have h2:=b2 rfl;simp only[dT (show cS al∧cS bl from⟨h1,h2⟩)];rfl
 ·have h1:=a2 rfl;have h2:=b1 rfl;simp only[dT (show cS al∧cp bc from⟨h1,h2⟩)];rfl
 ·have h1:=a1 rfl;have h2:=b2 rfl;simp only[dT (show cS bl∧cp ac from⟨h2,h1⟩)];rfl
 ·have h1:=a1 rfl;have h2:=b1 rfl;simp only[dT (show cp ac∧cp bc from⟨h1,h2⟩)];rfl
def XY(a b:BCU)(_k:KT):OLR:=match !(a.1==b.1)with|true=>some [RV.d .bool false]|false=>(match a.1 with|true=>(og (decide (cp a.2.2.1∧cp b.2.2.1)) (some [RV.d .bool (tX (dec a.2.2.1) (dec b.2.2.1))]))|false=>(og (decide (cS a.2.1∧cS b.2.1)) (some [RV.d .bool (qX (dec a.2.1) (dec b.2.1))])))
def aic:Cn 56 [tCU,tCU]:=cn fun(a b:BCU)=>lf (gX a b) [.d .bool (cX (dC a) (dC b))] fun h=>by
 refine aA L7 (XY a b) ⟨0,?_⟩;obtain⟨⟨a1,a2⟩,b1,b2⟩:=h;unfold XY cX;obtain⟨aa,al,ac,aw,af,at_⟩:=a;obtain⟨ba,bl,bc,bw,bf,bt⟩:=b;cases aa<;>cases ba
 ·have h1:=a2 rfl;have h2:=b2 rfl;simp only[dT (show cS al∧cS bl from⟨h1,h2⟩)];rfl
 ·rfl
 ·rfl
 ·have h1:=a1 rfl;have h2:=b1 rfl;simp only[dT (show cp ac∧cp bc from⟨h1,h2⟩)];rfl
def YY:List En:=enL ab4::enT aic::L7
def adZ:NT:=[((19,18),{keep:=[2,3,6,7,8,9],own:=[(8,37,tP)],hl:=4}),((19,47),{keep:=[3,6,8,10,11],hl:=2})]
def uf:Ctx:=CX (ens YY) adZ
def qA(c d:BCU)(s9:Int)(r3:List BP):Cfg:=⟨19,[.blk 0,.seq 33],[(2,.box 0 0),(3,.box 1 0),(6,SB (cX (dC c) (dC d))),(7,.d (.sl tP) ((sE (dC c) (dC d)).map enc)),(8,.own 3),(9,SI s9)],[.box 39 (Ty.split tCU c),.box 39 (Ty.split tCU d),.row 37 tP ([c.2.2.2.2.1,c.2.2.2.2.2,d.2.2.2.2.1,d.2.2.2.2.2]),.row 37 tP r3],0,[]⟩
def ky(c d:BCU)(s9:Int)(r3:List BP):Cfg:=⟨19,[.blk 0,.seq 33],[(2,.box 0 0),(3,.box 1 0),(6,SB (cX (dC c) (dC d))),(7,.own 2),(8,.own 3),(9,SI s9)],[.box 39 (Ty.split tCU c),.box 39 (Ty.split tCU d),.row 37 tP ([c.2.2.2.2.1,c.2.2.2.2.2,d.2.2.2.2.1,d.2.2.2.2.2]),.row 37 tP r3],0,[]⟩
def c7(c d:BCU)(r3:List BP)(B1:BCU)(s10:Bool)(s11:Int):Cfg:=⟨19,[.blk 2,.seq 58],[(3,.box 1 0),(6,SB (cX (dC c) (dC d))),(8,.d (.sl tP) (kI (dC c) r3)),(10,SB s10),(11,SI s11)],[.box 39 (Ty.split tCU c),.box 39 (Ty.split tCU B1)],0,[]⟩
def Re(c d:BCU)(k:KT):OLR:=og (decide (gX c d)) (match !(cX (dC c) (dC d))with|true=>(og (decide (gX c d)) (k 18 (qA c d 0 ([]))))|false=>k 18 (ky c d 0 ([])))
theorem XO(c d:BCU):RS uf 19 [.d tCU c,.d tCU d] (Re c d):=rsX
def qE(c d:BCU)(s9:Int)(r3:List BP)(k:KT):OLR:=match decide (s9<(((sE (dC c) (dC d)).map enc).length:Int))with|true=>(match aU ((sE (dC c) (dC d)).map enc) s9 with|some x1=>(og (decide (okC 3500 c∧okP 3500 x1)) (match onR (dC c) (dec x1)with|true=>(match aU ((sE (dC c) (dC d)).map enc) s9 with|some x2=>(og (decide (okC 3500 d∧okP 3500 x2)) (match onR (dC d) (dec x2)with|true=>(match aU ((sE (dC c) (dC d)).map enc) s9 with|some x3=>(og (decide ((r3.length+([x3]).length)*320≤140737488355328∧r3.length+([x3]).length≤140737488355328)) (k 18 (qA c d (i64.wrap (s9+1)) (r3++([x3])))))|none=>none)|false=>k 18 (qA c d (i64.wrap (s9+1)) r3)))|none=>none)|false=>k 18 (qA c d (i64.wrap (s9+1)) r3)))|none=>none)|false=>(og (decide (Bm c r3)) (match c.1 with|true=>(match d.1 with|true=>(match !(c.2.2.2.1==d.2.2.2.1)with|true=>k 47 (c7 c d r3 (hid (tY d)) false 1)|false=>(match !c.1 with|true=>(og (decide (okP 4000 c.2.2.2.2.1∧okP 4000 c.2.2.2.2.2)) (og (decide (okP 4000 d.2.2.2.2.1∧okP 4000 d.2.2.2.2.2)) (match(aX (dec c.2.2.2.2.1) (dec c.2.2.2.2.2)) !=(aX (dec d.2.2.2.2.1) (dec d.2.2.2.2.2))with|true=>k 47 (c7 c d r3 (hid (tY d)) false 1)|false=>k 47 (c7 c d r3 d false 1))))|false=>k 47 (c7 c d r3 d false 1)))|false=>(match !c.1 with|true=>(og (decide (okP 4000 c.2.2.2.2.1∧okP 4000 c.2.2.2.2.2)) (og (decide (okP 4000 d.2.2.2.2.1∧okP 4000 d.2.2.2.2.2)) (match(aX (dec c.2.2.2.2.1) (dec c.2.2.2.2.2)) !=(aX (dec d.2.2.2.2.1) (dec d.2.2.2.2.2))with|true=>k 47 (c7 c d r3 (hid (tY d)) false 1)|false=>k 47 (c7 c d r3 d false 1))))|false=>k 47 (c7 c d r3 d false 1)))|false=>(match !c.1 with|true=>(og (decide (okP 4000 c.2.2.2.2.1∧okP 4000 c.2.2.2.2.2)) (og (decide (okP 4000 d.2.2.2.2.1∧okP 4000 d.2.2.2.2.2)) (match(aX (dec c.2.2.2.2.1) (dec c.2.2.2.2.2)) !=(aX (dec d.2.2.2.2.1) (dec d.2.2.2.2.2))with|true=>k 47 (c7 c d r3 (hid (tY d)) false 1)|false=>k 47 (c7 c d r3 d false 1))))|false=>k 47 (c7 c d r3 d false 1))))
theorem uv(c d:BCU)(s9:Int)(r3:List BP):RN uf 18 (qA c d s9 r3) (qE c d s9 r3):=rnX
def lO(c d:BCU)(s9:Int)(r3:List BP)(k:KT):OLR:=match decide (s9<(([c.2.2.2.2.1,c.2.2.2.2.2,d.2.2.2.2.1,d.2.2.2.2.2]).length:Int))with|true=>(match aU ([c.2.2.2.2.1,c.2.2.2.2.2,d.2.2.2.2.1,d.2.2.2.2.2]) s9 with|some _=>(match true,([c.2.2.2.2.1,c.2.2.2.2.2,d.2.2.2.2.1,d.2.2.2.2.2])[(s9).toNat]? with|true,some x1=>(og (decide (okC 3500 c∧okP 3500 x1)) (match onR (dC c) (dec x1)with|true=>(match aU ([c.2.2.2.2.1,c.2.2.2.2.2,d.2.2.2.2.1,d.2.2.2.2.2]) s9 with|some _=>(match true,([c.2.2.2.2.1,c.2.2.2.2.2,d.2.2.2.2.1,d.2.2.2.2.2])[(s9).toNat]? with|true,some x2=>(og (decide (okC 3500 d∧okP 3500 x2)) (match onR (dC d) (dec x2)with|true=>(match aU ([c.2.2.2.2.1,c.2.2.2.2.2,d.2.2.2.2.1,d.2.2.2.2.2]) s9 with|some _=>(match true,([c.2.2.2.2.1,c.2.2.2.2.2,d.2.2.2.2.1,d.2.2.2.2.2])[(s9).toNat]? with|true,some x3=>(og (decide ((r3.length+([x3]).length)*320≤140737488355328∧r3.length+([x3]).length≤140737488355328)) (k 18 (ky c d (i64.wrap (s9+1)) (r3++([x3])))))|_,_=>none)|none=>none)|false=>k 18 (ky c d (i64.wrap (s9+1)) r3)))|_,_=>none)|none=>none)|false=>k 18 (ky c d (i64.wrap (s9+1)) r3)))|_,_=>none)|none=>none)|false=>(og (decide (Bm c r3)) (match c.1 with|true=>(match d.1 with|true=>(match !(c.2.2.2.1==d.2.2.2.1)with|true=>k 47 (c7 c d r3 (hid (tY d)) false 1)|false=>(match !c.1 with|true=>(og (decide (okP 4000 c.2.2.2.2.1∧okP 4000 c.2.2.2.2.2)) (og (decide (okP 4000 d.2.2.2.2.1∧okP 4000 d.2.2.2.2.2)) (match(aX (dec c.2.2.2.2.1) (dec c.2.2.2.2.2)) !=(aX (dec d.2.2.2.2.1) (dec d.2.2.2.2.2))with|true=>k 47 (c7 c d r3 (hid (tY d)) false 1)|false=>k 47 (c7 c d r3 d false 1))))|false=>k 47 (c7 c d r3 d false 1)))|false=>(match !c.1 with|true=>(og (decide (okP 4000 c.2.2.2.2.1∧okP 4000 c.2.2.2.2.2)) (og (decide (okP 4000 d.2.2.2.2.1∧okP 4000 d.2.2.2.2.2)) (match(aX (dec c.2.2.2.2.1) (dec c.2.2.2.2.2)) !=(aX (dec d.2.2.2.2.1) (dec d.2.2.2.2.2))with|true=>k 47 (c7 c d r3 (hid (tY d)) false 1)|false=>k 47 (c7 c d r3 d false 1))))|false=>k 47 (c7 c d r3 d false 1)))|false=>(match !c.1 with|true=>(og (decide (okP 4000 c.2.2.2.2.1∧okP 4000 c.2.2.2.2.2)) (og (decide (okP 4000 d.2.2.2.2.1∧okP 4000 d.2.2.2.2.2)) (match(aX (dec c.2.2.2.2.1) (dec c.2.2.2.2.2)) !=(aX (dec d.2.2.2.2.1) (dec d.2.2.2.2.2))with|true=>k 47 (c7 c d r3 (hid (tY d)) false 1)|false=>k 47 (c7 c d r3 d false 1))))|false=>k 47 (c7 c d r3 d false 1))))
theorem pn(c d:BCU)(s9:Int)(r3:List BP):RN uf 18 (ky c d s9 r3) (lO c d s9 r3):=rnX
def ql(c d:BCU)(r3:List BP)(B1:BCU)(s10:Bool)(s11:Int)(k:KT):OLR:=match cX (dC c) (dC d)with|true=>(match decide (s11<((kI (dC c) r3).length:Int))with|true=>(match s10 with|true=>k 47 (c7 c d r3 B1 true (i64.wrap (s11+1)))|false=>(match aU (kI (dC c) r3) (i64.wrap (s11-1))with|some x1=>(match aU (kI (dC c) r3) s11 with|some x2=>(og (decide (okC 4000 B1∧okP 4000 x1∧okP 4000 x2)) (k 47 (c7 c d r3 B1 (decide ((dk (dC B1) (dec x1) (dec x2))<0)) (i64.wrap (s11+1)))))|none=>none)|none=>none))|false=>some [RV.d (.sl tP) (kI (dC c) r3),RV.d .bool s10])|false=>some [RV.d (.sl tP) (kI (dC c) r3),RV.d .bool s10]
theorem uB(c d:BCU)(r3:List BP)(B1:BCU)(s10:Bool)(s11:Int):RN uf 47 (c7 c d r3 B1 s10 s11) (ql c d r3 B1 s10 s11):=rnX
theorem OB{c:Cv}{S:List BP}{i:Nat}(h1:1≤i)(hi:i<S.length):CA c (S.drop (i-1))=(decide (dk c (dec S[i-1]) (dec S[i])<0)||CA c (S.drop i)):=by
 have hd:S.drop (i-1)=S[i-1]::S.drop i:=by
  have:=ant (l:=S) (i:=i-1) (by omega);rw[this,show i-1+1=i by omega]
 have hd2:S.drop i=S[i]::S.drop (i+1):=ant hi;rw[hd,hd2];rfl
theorem Vq{c:Cv}{S:List BP}(h:S.length≤1):CA c S=false:=by
 match S,h with
 |[],_=>rfl
 |[_],_=>rfl
theorem aes(c d:BCU)(r3 S:List BP)(hS:kI (dC c) r3=S)(hl:S.length≤1000000)(ho:∀x∈S,okP 4000 x)(B:BCU)(hB:okC 4000 B):∀(j i:Nat),1≤i→i+j=max S.length 1→∀s:Bool,
  uf.Runs 47 (c7 c d r3 B s (i:Int)) [.d (.sl tP) S,.d .bool (bif cX (dC c) (dC d)then s||CA (dC B) (S.drop (i-1))else s)]:=by
 intro j;induction j with
 |zero=>
  intro i h1 hi s;refine uB _ _ _ _ _ _ ⟨0,?_⟩;unfold ql;rw[hS,cd (by omega),Vq (by rw[apX];omega),Bool.or_false];cases cX (dC c) (dC d)<;>rfl
 |succ j ih=>
  intro i h1 hi s;have hil:i<S.length:=by omega
  have e1:i64.wrap ((i:Int)-1)=((i-1:Nat):Int):=by rw[aT (by omega) (by omega)];omega
  have e2:i64.wrap ((i:Int)+1)=((i+1:Nat):Int):=bW (by omega);have g1:aU S ((i-1:Nat):Int)=some S[i-1]:=by rw[av,am6 (by omega)]
  have g2:aU S (i:Int)=some S[i]:=by rw[av,am6 hil]
  cases hs:cX (dC c) (dC d)
  ·refine uB _ _ _ _ _ _ ⟨0,?_⟩;unfold ql;rw[hS,hs];rfl
  ·obtain⟨n,hn⟩:=ih (i+1) (by omega) (by omega) (s||decide (dk (dC B) (dec S[i-1]) (dec S[i])<0));refine uB _ _ _ _ _ _ ⟨n,?_⟩;unfold ql;rw[hS,hs,bG hil,e1,e2,g1,g2];dsimp only;rw[dT (show okC 4000 B∧okP 4000 S[i-1]∧okP 4000 S[i] from⟨hB,ho _ (anD _),ho _ (anD _)⟩)];rw[hs,Nat.add_sub_cancel,Bool.or_assoc,←OB h1 hil]at hn;cases s
   ·exact hn
   ·simp only[aqk,cond_true]at hn ⊢;exact hn
theorem Wt{c:Cv}{l:List BP}{p:BP→Prop}(h:∀x∈l,p x):∀x∈kI c l,p x:=fun x hx=>by
 rcases BE hx with h'|h'
 ·cases h'
 ·exact h x h'
theorem Je(c d:BCU)(h:gU c d)(r3:List BP)(hl:r3.length≤100)(ho:∀x∈r3,okP 500 x):∃n,(match decide (Bm c r3)with
  |true=>uf.k n 47 (c7 c d r3 (yX c d) false 1)
  |false=>none)=some [.d (.sl tP) (kI (dC c) r3),.d .bool (cX (dC c) (dC d)&&CA (dC (yX c d)) (kI (dC c) r3))]:=by
 have hs:Bm c r3:=⟨b8 h.1.1 (by decide) (by decide),by omega,fun x hx=>cN (ho x hx) (by decide) (by decide)⟩
 have hR:okC 4000 (yX c d):=by
  unfold yX;have:=b8 (k:=4000) h.2.1 (by decide) (by decide);cases S4 c d
  ·exact this
  ·exact PS 4000 this
 have hlen:=IV (dC c) r3 [];obtain⟨n,hn⟩:=aes c d r3 _ rfl (by simp at hlen;unfold kI;omega) (Wt (fun x hx=>cN (ho x hx) (by decide) (by decide))) (yX c d) hR (max (kI (dC c) r3).length 1-1) 1 (anb _) (by omega) false;refine⟨n,?_⟩;rw[dT hs];refine hn.trans ?_;cases cX (dC c) (dC d)<;>rfl
theorem Co{l c:Ln}[BdL l][BdC c](hl:l.1≠0∨l.2.1≠0):(rP l c).length≤2∧∀p∈rP l c,Bd p 490∧Rpd p:=by
 unfold rP;by_cases h0:jG l c<0
 ·rw[am5 h0];exact⟨by simp,fun p hp=>by cases hp⟩
 ·rw[am7 h0];by_cases h1:jG l c=0
  ·rw[am5 h1];obtain⟨f1,f2,_,_⟩:=ut (l:=l) (c:=c);refine⟨by simp,fun p hp=>?_⟩;have:p=atP (ftX l c,ftY l c):=by simpa using hp
   rw[this];exact⟨(inferInstance:Bd (atP (ftX l c,ftY l c)) _).mono (by decide),inferInstance⟩
  ·rw[am7 h1];obtain⟨p1,p2⟩:=LO (c:=c) hl (show 0≤jG l c by grind);obtain⟨q1,q2⟩:=PP (l:=l) (c:=c);cases decide (aX (sM l c) (tk l c)>0)
   ·refine⟨by simp,fun p hp=>?_⟩;have:p=sM l c∨p=tk l c:=by simpa using hp
    rcases this with e|e<;>rw[e]
    ·exact⟨q1,p1⟩
    ·exact⟨q2,p2⟩
   ·refine⟨by simp,fun p hp=>?_⟩;have:p=tk l c∨p=sM l c:=by simpa using hp
    rcases this with e|e<;>rw[e]
    ·exact⟨q2,p2⟩
    ·exact⟨q1,p1⟩
theorem wD{l m:Ln}[BdL l][BdL m]:(m6 l m).length≤2∧∀p∈m6 l m,Bd p 490∧Rpd p:=by
 unfold m6;cases decide (eg l m=0)
 ·have bc:Bd (eg l m) 49:=inferInstanceAs (Bd (l.1*m.2.1-m.1*l.2.1) _);have bx:Bd (mj l m) 151:=inferInstanceAs (Bd (l.2.2*m.2.1-m.2.2*l.2.1) _);have b_:Bd (mt l m) 151:=inferInstanceAs (Bd (l.1*m.2.2-m.1*l.2.2) _);refine⟨by simp,fun p hp=>?_⟩;have:p=atP (mj l m/eg l m,mt l m/eg l m):=by simpa using hp
  rw[this];exact⟨(inferInstance:Bd (atP (mj l m/eg l m,mt l m/eg l m)) _).mono (by decide),inferInstance⟩
 ·exact⟨by simp,fun p hp=>by cases hp⟩
theorem TR{c d:BCU}(h:gX c d):(sE (dC c) (dC d)).length≤2∧∀p∈sE (dC c) (dC d),Bd p 490∧Rpd p:=by
 obtain⟨⟨a1,a2⟩,b1,b2⟩:=h;obtain⟨aa,al,ac,aw,af,at_⟩:=c;obtain⟨ba,bl,bc,bw,bf,bt⟩:=d
 have ex1:∀x:BO3,cS x→BdL (dec x)∧((dec x:Ln).1≠0∨(dec x:Ln).2.1≠0):=fun x h=>by
  obtain⟨l,rfl,bl,nl⟩:=eK h;rw[az];exact⟨bl,nl⟩
 have ex2:∀x:BO3,cp x→BdC (dec x):=fun x h=>by
  obtain⟨l,rfl,bl,nl⟩:=cE h;rw[az];exact bl
 unfold sE;cases aa<;>cases ba
 ·obtain⟨i1,_⟩:=ex1 _ (a2 rfl);obtain⟨i2,_⟩:=ex1 _ (b2 rfl);exact wD (l:=dec al) (m:=dec bl)
 ·obtain⟨i1,n1⟩:=ex1 _ (a2 rfl);have i2:=ex2 _ (b1 rfl);exact Co (l:=dec al) (c:=dec bc) n1
 ·have i1:=ex2 _ (a1 rfl);obtain⟨i2,n2⟩:=ex1 _ (b2 rfl);exact Co (l:=dec bl) (c:=dec ac) n2
 ·have i1:=ex2 _ (a1 rfl);have i2:=ex2 _ (b1 rfl);show(zb (dec ac) (dec bc)).length≤2∧∀p∈zb (dec ac) (dec bc),Bd p 490∧Rpd p;unfold zb;cases hc:gY (dec ac) (dec bc)
  ·have i3:BdL (ng (dec ac) (dec bc)):=yu;exact Co (uy hc)
  ·exact⟨by simp,fun p hp=>by cases hp⟩
theorem Ir{c d:BCU}(h:gU c d):(vu c d).length≤4∧∀x∈vu c d,okP 500 x:=by
 obtain⟨⟨h1,h2⟩,h3,h4⟩:=h;unfold vu;cases cX (dC c) (dC d)
 ·obtain⟨g1,g2⟩:=TR (show gX c d from⟨h2,h4⟩);refine⟨by simp only[Bool.not_false,cond_true,aoO];omega,fun x hx=>?_⟩;obtain⟨p,hp,rfl⟩:=an8.1 hx;obtain⟨b,r⟩:=g2 p hp;exact am8 (aJ (j:=490) (by decide) (by decide))
 ·refine⟨by simp,fun x hx=>?_⟩;have:x=c.2.2.2.2.1∨x=c.2.2.2.2.2∨x=d.2.2.2.2.1∨x=d.2.2.2.2.2:=by simpa using hx
  rcases this with e|e|e|e<;>rw[e]
  ·exact h1.2.2.1
  ·exact h1.2.2.2
  ·exact h3.2.2.1
  ·exact h3.2.2.2
def mH(c d:BCU)(p:BP):Bool:=onR (dC c) (dec p)&&onR (dC d) (dec p)
theorem Ho(c d:BCU)(h:gU c d)(L:List BP)(hL:(sE (dC c) (dC d)).map enc=L)(h4:L.length≤4)(ho:∀x∈L,okP 500 x):∀(j i:Nat),i+j=L.length→∀r3:List BP,r3.length≤i→(∀x∈r3,okP 500 x)→
  uf.Runs 18 (qA c d (i:Int) r3) [.d (.sl tP) (kI (dC c) (r3++(L.drop i).filter (mH c d))),.d .bool (cX (dC c) (dC d)&&CA (dC (yX c d)) (kI (dC c) (r3++(L.drop i).filter (mH c d))))]:=by
 intro j;induction j with
 |zero=>
  intro i hi r3 hr h3;obtain⟨n,hn⟩:=Je c d h r3 (by omega) h3;refine uv _ _ _ _ ⟨n,?_⟩;have hd:L.drop i=[]:=List.drop_eq_nil_iff.2 (by omega);rw[hd,apO,anM,←hn];unfold qE;rw[hL,cd (by omega)];have hs:Bm c r3:=⟨b8 h.1.1 (by decide) (by decide),by omega,fun x hx=>cN (h3 x hx) (by decide) (by decide)⟩
  have o1:decide (okP 4000 c.2.2.2.2.1∧okP 4000 c.2.2.2.2.2)=true:=am5 ⟨cN h.1.1.2.2.1 (by decide) (by decide),cN h.1.1.2.2.2 (by decide) (by decide)⟩;have o2:decide (okP 4000 d.2.2.2.2.1∧okP 4000 d.2.2.2.2.2)=true:=am5 ⟨cN h.2.1.2.2.1 (by decide) (by decide),cN h.2.1.2.2.2 (by decide) (by decide)⟩;rw[dT hs,o1,o2];dsimp only;unfold yX S4 bne;simp only[bJ];cases c.1<;>cases d.1<;>cases(c.2.2.2.1==d.2.2.2.1)<;>cases(aX (dec c.2.2.2.2.1) (dec c.2.2.2.2.2)==aX (dec d.2.2.2.2.1) (dec d.2.2.2.2.2))<;>rfl
 |succ j ih=>
  intro i hi r3 hr h3;have hil:i<L.length:=by omega
  have e2:i64.wrap ((i:Int)+1)=((i+1:Nat):Int):=bW (by omega);have g2:aU L (i:Int)=some L[i]:=by rw[av,am6 hil]
  have g3:L[((i:Int)).toNat]?=some L[i]:=by rw[show((i:Int)).toNat=i by omega,am6 hil]
  have hx:=ho _ (anD hil);have hd:L.drop i=L[i]::L.drop (i+1):=ant hil;have ox:=cN (k:=3500) hx (by decide) (by decide);have o1:decide (okC 3500 c∧okP 3500 L[i])=true:=am5 ⟨b8 h.1.1 (by decide) (by decide),ox⟩;have o2:decide (okC 3500 d∧okP 3500 L[i])=true:=am5 ⟨b8 h.2.1 (by decide) (by decide),ox⟩
  have hf:(L.drop i).filter (mH c d)=bif mH c d L[i]then L[i]::(L.drop (i+1)).filter (mH c d)else(L.drop (i+1)).filter (mH c d):=by
   rw[hd,aoX];cases mH c d L[i]<;>rfl
  cases hb:mH c d L[i]
  ·rw[hb]at hf;obtain⟨n,hn⟩:=ih (i+1) (by omega) r3 (by omega) h3;refine uv _ _ _ _ ⟨n,?_⟩;rw[hf];dsimp only[cond_false];rw[←hn];unfold mH at hb;unfold qE;rw[hL,bG hil,g2,e2];dsimp only;try rw[g3]
   try dsimp only
   rw[o1,o2];cases h1:onR (dC c) (dec L[i])
   ·rfl
   ·rw[h1,aoj]at hb;rw[hb]
  ·rw[hb]at hf
   obtain⟨n,hn⟩:=ih (i+1) (by omega) (r3++[L[i]]) (by simp;omega) (fun x hx'=>by
    rcases aoe.1 hx' with h'|h'
    ·exact h3 x h'
    ·have:x=L[i]:=by simpa using h'
     rw[this];exact hx)
   refine uv _ _ _ _ ⟨n,?_⟩;rw[hf];dsimp only[cond_true];rw[anx]at hn;refine Eq.trans ?_ hn;unfold mH at hb;obtain⟨h1,h2⟩:=anh.1 hb;unfold qE;rw[hL,bG hil,g2,e2];dsimp only;try rw[g3]
   try dsimp only
   rw[o1,o2,h1,h2];dsimp only;rw[dT (by simp;omega)]
theorem BT(c d:BCU)(h:gU c d)(L:List BP)(hL:[c.2.2.2.2.1,c.2.2.2.2.2,d.2.2.2.2.1,d.2.2.2.2.2]=L)(h4:L.length≤4)(ho:∀x∈L,okP 500 x):∀(j i:Nat),i+j=L.length→∀r3:List BP,r3.length≤i→(∀x∈r3,okP 500 x)→
  uf.Runs 18 (ky c d (i:Int) r3) [.d (.sl tP) (kI (dC c) (r3++(L.drop i).filter (mH c d))),.d .bool (cX (dC c) (dC d)&&CA (dC (yX c d)) (kI (dC c) (r3++(L.drop i).filter (mH c d))))]:=by
 intro j;induction j with
 |zero=>
  intro i hi r3 hr h3;obtain⟨n,hn⟩:=Je c d h r3 (by omega) h3;refine pn _ _ _ _ ⟨n,?_⟩;have hd:L.drop i=[]:=List.drop_eq_nil_iff.2 (by omega);rw[hd,apO,anM,←hn];unfold lO;rw[hL,cd (by omega)];have hs:Bm c r3:=⟨b8 h.1.1 (by decide) (by decide),by omega,fun x hx=>cN (h3 x hx) (by decide) (by decide)⟩
  have o1:decide (okP 4000 c.2.2.2.2.1∧okP 4000 c.2.2.2.2.2)=true:=am5 ⟨cN h.1.1.2.2.1 (by decide) (by decide),cN h.1.1.2.2.2 (by decide) (by decide)⟩;have o2:decide (okP 4000 d.2.2.2.2.1∧okP 4000 d.2.2.2.2.2)=true:=am5 ⟨cN h.2.1.2.2.1 (by decide) (by decide),cN h.2.1.2.2.2 (by decide) (by decide)⟩;rw[dT hs,o1,o2];dsimp only;unfold yX S4 bne;simp only[bJ];cases c.1<;>cases d.1<;>cases(c.2.2.2.1==d.2.2.2.1)<;>cases(aX (dec c.2.2.2.2.1) (dec c.2.2.2.2.2)==aX (dec d.2.2.2.2.1) (dec d.2.2.2.2.2))<;>rfl
 |succ j ih=>
  intro i hi r3 hr h3;have hil:i<L.length:=by omega
  have e2:i64.wrap ((i:Int)+1)=((i+1:Nat):Int):=bW (by omega);have g2:aU L (i:Int)=some L[i]:=by rw[av,am6 hil]
  have g3:L[((i:Int)).toNat]?=some L[i]:=by rw[show((i:Int)).toNat=i by omega,am6 hil]
  have hx:=ho _ (anD hil);have hd:L.drop i=L[i]::L.drop (i+1):=ant hil;have ox:=cN (k:=3500) hx (by decide) (by decide);have o1:decide (okC 3500 c∧okP 3500 L[i])=true:=am5 ⟨b8 h.1.1 (by decide) (by decide),ox⟩;have o2:decide (okC 3500 d∧okP 3500 L[i])=true:=am5 ⟨b8 h.2.1 (by decide) (by decide),ox⟩
  have hf:(L.drop i).filter (mH c d)=bif mH c d L[i]then L[i]::(L.drop (i+1)).filter (mH c d)else(L.drop (i+1)).filter (mH c d):=by
   rw[hd,aoX];cases mH c d L[i]<;>rfl
  cases hb:mH c d L[i]
  ·rw[hb]at hf;obtain⟨n,hn⟩:=ih (i+1) (by omega) r3 (by omega) h3;refine pn _ _ _ _ ⟨n,?_⟩;rw[hf];dsimp only[cond_false];rw[←hn];unfold mH at hb;unfold lO;rw[hL,bG hil,g2,e2];dsimp only;try rw[g3]
   try dsimp only
   rw[o1,o2];cases h1:onR (dC c) (dec L[i])
   ·rfl
   ·rw[h1,aoj]at hb;rw[hb]
  ·rw[hb]at hf
   obtain⟨n,hn⟩:=ih (i+1) (by omega) (r3++[L[i]]) (by simp;omega) (fun x hx'=>by
    rcases aoe.1 hx' with h'|h'
    ·exact h3 x h'
    ·have:x=L[i]:=by simpa using h'
     rw[this];exact hx)
   refine pn _ _ _ _ ⟨n,?_⟩;rw[hf];dsimp only[cond_true];rw[anx]at hn;refine Eq.trans ?_ hn;unfold mH at hb;obtain⟨h1,h2⟩:=anh.1 hb;unfold lO;rw[hL,bG hil,g2,e2];dsimp only;try rw[g3]
   try dsimp only
   rw[o1,o2,h1,h2];dsimp only;rw[dT (by simp;omega)]
def ahU:Cn 19 [tCU,tCU]:=cn fun(c d:BCU)=>lf (gU c d) [.d (.sl tP) (uo c d),.d .bool (EB c d)] fun h=>by
 obtain⟨h4,ho⟩:=Ir h;have hsp:gX c d:=⟨h.1.2,h.2.2⟩
 refine cY YY (show uf.Res _ _ _ from ?_);unfold vu at h4 ho;unfold uo EB uo Sz vu;cases hs:cX (dC c) (dC d)
 ·rw[hs]at h4 ho;obtain⟨n,hn⟩:=Ho c d h _ rfl h4 ho _ 0 (anF _) [] (anb _) (fun x hx=>by cases hx);refine XO _ _ ⟨n,?_⟩;unfold Re;rw[dT hsp,hs];rw[hs]at hn;exact hn
 ·rw[hs]at h4 ho;obtain⟨n,hn⟩:=BT c d h _ rfl h4 ho _ 0 (anF _) [] (anb _) (fun x hx=>by cases hx);refine XO _ _ ⟨n,?_⟩;unfold Re;rw[dT hsp,hs];rw[hs]at hn;exact hn
def i8P(n:Int):Prop:= -128≤n∧n≤127
instance (n:Int):Decidable (i8P n):=by unfold i8P;infer_instance
def u8P(n:Int):Prop:=0≤n∧n≤255
instance (n:Int):Decidable (u8P n):=by unfold u8P;infer_instance
def atQ(n u:Int):Rat:=Rat.divInt n (u%4+1)
def v5(c:BO3):List BCU:=[(true,o00,c,false,enc (l9 (dec c)),enc (ml (dec c))),(true,o00,c,false,enc (ml (dec c)),enc (l9 (dec c)))]
abbrev tDr:Ty:=.st (.pair (.int .u8) (.pair (.int .u8) (.pair (.int .i8) (.pair (.int .i8) (.pair (.int .i8) (.pair (.int .i8) (.pair (.int .i8) (.int .i8))))))))
abbrev Dr:=Int×Int×Int×Int×Int×Int×Int×Int
def yh(x:Dr):Prop:=u8P x.1∧u8P x.2.1∧i8P x.2.2.1∧i8P x.2.2.2.1∧i8P x.2.2.2.2.1∧i8P x.2.2.2.2.2.1∧i8P x.2.2.2.2.2.2.1∧i8P x.2.2.2.2.2.2.2
instance (x:Dr):Decidable (yh x):=by unfold yh;infer_instance
def drA(x:Dr):Rat×Rat:=(atQ x.2.2.1 x.2.1,atQ x.2.2.2.1 x.2.1)
def drB(x:Dr):Rat×Rat:=(atQ x.2.2.2.2.1 x.2.1,atQ x.2.2.2.2.2.1 x.2.1)
def drC(x:Dr):Rat×Rat:=(atQ x.2.2.2.2.2.2.1 x.2.1,atQ x.2.2.2.2.2.2.2 x.2.1)
def drQ(x:Dr):Ln:=((drA x).1,(drA x).2,(drB x).1)
def ofL(x:Dr):List BCU:=
 bif x.1%3==2 then(bif decide ((drB x).1≤0)then []else v5 (enc (drQ x)))
 else bif x.1%3==1 then(bif arcE (drA x) (drB x) (drC x) !=0 then []else [me (drA x) (drB x) (drC x)])
 else bif qb (drA x) (drB x) !=0 then []else [jB (drA x) (drB x)]
theorem Jq{u k:Int}(h:u8P u):Int.tmod u k=u%k:=Int.tmod_eq_emod_of_nonneg h.1
theorem xf{n u:Int}(h:i8P n)(_h':u8P u):Bb (atQ n u) 7 2:=by
 unfold atQ;obtain⟨h1,h2⟩:=h;exact Vr (by omega) (by show n.natAbs≤128;omega) (by show(u%4+1).natAbs≤4;omega)
theorem Con.dd{P:Program}{f:Nat}{args:List SV}{et:TypeId}{e:Ty}{xs:List e.D}{r:RV}(h:Con P f args [r])(hr:r=.new et e xs∨r=.d (.sl e) xs):Con P f args [.d (.sl e) xs]:=by
 rcases hr with rfl|rfl
 ·exact Con.new_d h
 ·exact h
def It:List En:=[enL Cg,enL Z7,enT iY,enL QL,enL L6]
def ZA(n u:Int)(_k:KT):OLR:=og (decide (za (i64.wrap n) (i64.wrap ((i64.wrap (Int.tmod u 4))+1)))) (some [RV.d tR (hid (aj (Rat.divInt (i64.wrap n) (i64.wrap ((i64.wrap (Int.tmod u 4))+1)))))])
def agN:Cn 53 [(.int .i8),(.int .u8)]:=cn fun(n u:Int)=>lf (i8P n∧u8P u) [.d tR (aj (atQ n u))] fun h=>by
 refine aA It (ZA n u) ⟨0,?_⟩;obtain⟨hn,hu⟩:=h;have e0:=Jq (k:=4) hu;obtain⟨n1,n2⟩:=hn;unfold ZA;rw[e0,aT (x:=n) (by omega) (by omega),aT (x:=u%4) (by omega) (by omega),aT (x:=u%4+1) (by omega) (by omega),dT (show za n (u%4+1) from⟨⟨by omega,by omega⟩,⟨by omega,by omega⟩,by omega⟩)];simp only[bJ];rfl
def aim:Ctx:=CX (ens It) []
def Xo(c:BO3)(_k:KT):OLR:=og (decide (cp c)) (some [RV.new 39 tCU ([(true,((((false,[]),(false,[])),(((false,[]),(false,[])),((false,[]),(false,[])))),(c,(false,(hid (enc (l9 (dec c))),hid (enc (ml (dec c)))))))),(true,((((false,[]),(false,[])),(((false,[]),(false,[])),((false,[]),(false,[])))),(c,(false,(hid (enc (ml (dec c))),hid (enc (l9 (dec c))))))))])])
theorem akf(c:BO3):RS aim 37 [.d tO c] (Xo c):=rsX
def XX:Cn 37 [tO]:=cn fun(c:BO3)=>lf (cp c) [.d (.sl tCU) (v5 c)] fun h=>by
 refine Con.new_d (et:=39) (cY It (akf _ ⟨0,?_⟩));unfold Xo;rw[dT h];simp only[bJ];rfl
def aa0:List En:=enL agN::enL XX::It
def Yi:Ctx:=CX (ens aa0) []
def O6(x:Dr)(_k:KT):OLR:=og (decide (i8P x.2.2.1∧u8P x.2.1)) (og (decide (i8P x.2.2.2.1∧u8P x.2.1)) (og (decide (i8P x.2.2.2.2.1∧u8P x.2.1)) (og (decide (i8P x.2.2.2.2.2.1∧u8P x.2.1)) (match(Int.tmod x.1 3)==2 with|true=>(og (decide (i8P x.2.2.2.2.1∧u8P x.2.1)) (og (o1 (hid (aj (atQ x.2.2.2.2.1 x.2.1)))) (match decide ((aD (ae (hid (aj (atQ x.2.2.2.2.1 x.2.1)))) 0)≤0)with|true=>some [RV.new 39 tCU []]|false=>(og (decide (cp (hid (aj (atQ x.2.2.1 x.2.1)),(hid (aj (atQ x.2.2.2.1 x.2.1)),hid (aj (atQ x.2.2.2.2.1 x.2.1)))))) (some [RV.d (.sl tCU) (v5 (hid (aj (atQ x.2.2.1 x.2.1)),(hid (aj (atQ x.2.2.2.1 x.2.1)),hid (aj (atQ x.2.2.2.2.1 x.2.1)))))])))))|false=>(og (decide (ok (Rat×Rat) 100 (hid (aj (atQ x.2.2.1 x.2.1)),hid (aj (atQ x.2.2.2.1 x.2.1)))∧ok (Rat×Rat) 100 (hid (aj (atQ x.2.2.2.2.1 x.2.1)),hid (aj (atQ x.2.2.2.2.2.1 x.2.1))))) (match(Int.tmod x.1 3)==1 with|true=>(og (decide (i8P x.2.2.2.2.2.2.1∧u8P x.2.1)) (og (decide (i8P x.2.2.2.2.2.2.2∧u8P x.2.1)) (og (decide (ok (Rat×Rat) 100 (hid (aj (atQ x.2.2.1 x.2.1)),hid (aj (atQ x.2.2.2.1 x.2.1)))∧ok (Rat×Rat) 100 (hid (aj (atQ x.2.2.2.2.1 x.2.1)),hid (aj (atQ x.2.2.2.2.2.1 x.2.1)))∧ok (Rat×Rat) 100 (hid (aj (atQ x.2.2.2.2.2.2.1 x.2.1)),hid (aj (atQ x.2.2.2.2.2.2.2 x.2.1))))) (match(arcE (dec (hid (aj (atQ x.2.2.1 x.2.1)),hid (aj (atQ x.2.2.2.1 x.2.1)))) (dec (hid (aj (atQ x.2.2.2.2.1 x.2.1)),hid (aj (atQ x.2.2.2.2.2.1 x.2.1)))) (dec (hid (aj (atQ x.2.2.2.2.2.2.1 x.2.1)),hid (aj (atQ x.2.2.2.2.2.2.2 x.2.1))))) !=0 with|true=>some [RV.new 39 tCU []]|false=>some [RV.new 39 tCU ([hid (me (dec (hid (aj (atQ x.2.2.1 x.2.1)),hid (aj (atQ x.2.2.2.1 x.2.1)))) (dec (hid (aj (atQ x.2.2.2.2.1 x.2.1)),hid (aj (atQ x.2.2.2.2.2.1 x.2.1)))) (dec (hid (aj (atQ x.2.2.2.2.2.2.1 x.2.1)),hid (aj (atQ x.2.2.2.2.2.2.2 x.2.1)))))])]))))|false=>(match(qb (dec (hid (aj (atQ x.2.2.1 x.2.1)),hid (aj (atQ x.2.2.2.1 x.2.1)))) (dec (hid (aj (atQ x.2.2.2.2.1 x.2.1)),hid (aj (atQ x.2.2.2.2.2.1 x.2.1))))) !=0 with|true=>some [RV.new 39 tCU []]|false=>some [RV.new 39 tCU ([hid (jB (dec (hid (aj (atQ x.2.2.1 x.2.1)),hid (aj (atQ x.2.2.2.1 x.2.1)))) (dec (hid (aj (atQ x.2.2.2.2.1 x.2.1)),hid (aj (atQ x.2.2.2.2.2.1 x.2.1)))))])])))))))
theorem aiX(x:Dr):RS Yi 18 [.d tDr x] (O6 x):=rsX
def ajQ:Cn 18 [tDr]:=cn fun(x:Dr)=>lf (yh x) [.d (.sl tCU) (ofL x)] fun h=>by
 obtain⟨h1,h2,hA,hB,hC,hD,hE,hF⟩:=h;have at_bd:∀n,i8P n→Bd (atQ n x.2.1) 1:=fun n hn=>EU (h:=xf hn h2) (by decide) (by decide);have bA:=at_bd _ hA;have bB:=at_bd _ hB;have bC:=at_bd _ hC;have bD:=at_bd _ hD;have bE:=at_bd _ hE;have bF:=at_bd _ hF;have vA:Bd (drA x) 1:=inferInstanceAs (Bd (atQ x.2.2.1 x.2.1,atQ x.2.2.2.1 x.2.1) _);have vB:Bd (drB x) 1:=inferInstanceAs (Bd (atQ x.2.2.2.2.1 x.2.1,atQ x.2.2.2.2.2.1 x.2.1) _);have vC:Bd (drC x) 1:=inferInstanceAs (Bd (atQ x.2.2.2.2.2.2.1 x.2.1,atQ x.2.2.2.2.2.2.2 x.2.1) _);have eA:((aj (atQ x.2.2.1 x.2.1),aj (atQ x.2.2.2.1 x.2.1)):BV)=enc (drA x):=rfl;have eB:((aj (atQ x.2.2.2.2.1 x.2.1),aj (atQ x.2.2.2.2.2.1 x.2.1)):BV)=enc (drB x):=rfl;have eC:((aj (atQ x.2.2.2.2.2.2.1 x.2.1),aj (atQ x.2.2.2.2.2.2.2 x.2.1)):BV)=enc (drC x):=rfl;have eQ:((aj (atQ x.2.2.1 x.2.1),aj (atQ x.2.2.2.1 x.2.1),aj (atQ x.2.2.2.2.1 x.2.1)):BO3)=enc (drQ x):=rfl;have tm:=Jq (k:=3) h1;have run:∀r:RV,O6 x (Yi.k 0)=some [r]→(r=.new 39 tCU (ofL x)∨r=.d (.sl tCU) (ofL x))→CQq7 18 [.d tDr x] [.d (.sl tCU) (ofL x)]:=fun r e g=>Con.dd (cY aa0 (aiX _ ⟨0,e⟩)) g;unfold O6 at run;unfold ofL at run ⊢;simp only[aO,Nat.reduceLeDiff,tm,eQ,eA,eB,eC,dT (show i8P _∧u8P _ from⟨hA,h2⟩),dT (show i8P _∧u8P _ from⟨hB,h2⟩),dT (show i8P _∧u8P _ from⟨hC,h2⟩),dT (show i8P _∧u8P _ from⟨hD,h2⟩),dT (show i8P _∧u8P _ from⟨hE,h2⟩),dT (show i8P _∧u8P _ from⟨hF,h2⟩)]at run;cases h3:x.1%3==2
 ·simp only[h3,cond_false]at run ⊢;cases h4:x.1%3==1
  ·simp only[h4,cond_false]at run ⊢;cases h5:qb (drA x) (drB x) !=0
   ·simp only[h5,cond_false]at run ⊢;exact run _ rfl (.inl rfl)
   ·simp only[h5,cond_true]at run ⊢;exact run _ rfl (.inl rfl)
  ·simp only[h4,cond_true]at run ⊢;cases h5:arcE (drA x) (drB x) (drC x) !=0
   ·simp only[h5,cond_false]at run ⊢;exact run _ rfl (.inl rfl)
   ·simp only[h5,cond_true]at run ⊢;exact run _ rfl (.inl rfl)
 ·simp only[h3,cond_true]at run ⊢;have e1:(drB x).1=atQ x.2.2.2.2.1 x.2.1:=rfl;by_cases h5:(drB x).1≤0
  ·rw[am5 h5]at run ⊢;refine run _ ?_ (.inl rfl);rw[yK,←e1,am5 h5];rfl
  ·rw[am7 h5]at run ⊢;have ok:cp (enc (drQ x)):=gR (h:=⟨bA.mono (by decide),bB.mono (by decide),bC.mono (by decide)⟩) (show 0<(drB x).1 by grind);refine run _ ?_ (.inr rfl);rw[yK,←e1,am7 h5];simp only[am5 ok];rfl
def vcR(x y:Int):Rat×Rat:=((x:Rat),(y:Rat))
instance ae5:Bd (-1:Rat) 3:=bS (n:= -1) (by decide)
theorem Bl{v:Rat×Rat}{j k:Nat}[h:Bd v j](hj:mx j (mx 1 (mx j (mx 1 1)))≤k)(hk:k≤480000):okP k (enc (atP v)):=am8 (aJ (x:=atP v) hj hk)
section
namespace RE
theorem cmpP_0{p q:Pt}[Rpd p][Rpd q]:aX p q=0↔pR p=pR q:=by
 rw[jl];obtain⟨h1,h2,h3⟩:=iz (pR p) (pR q);rcases jS.tri (pR p) (pR q)with h|h|h
 ·rw[h1 h];exact⟨fun e=>absurd e (by decide),fun e=>absurd h (by rw[e];exact jS.irr _)⟩
 ·exact⟨fun _=>h,fun _=>h2 h⟩
 ·rw[h3 h];exact⟨fun e=>absurd e (by decide),fun e=>absurd h (by rw[e];exact jS.irr _)⟩
theorem oA(v:Rat×Rat):pR (atP v)=(of v.1,of v.2):=aoq (aiy v) (afS v)
theorem MF{ax bx c:Rat}(h:fE c=true):of (ax+bx*rtQ c)=v2 ax bx c:=by
 unfold v2;rw[of_add,aG,Lt h]
theorem uD(ax bx ay b_ c:Rat):pR (oE ax bx ay b_ c)=(v2 ax bx c,v2 ay b_ c):=by
 unfold oE;cases h:fE c
 ·rfl
 ·exact(oA _).trans (aoq (MF h) (MF h))
theorem aef(a b r:RE):(a+ -1*r-a)*(a+ -1*r-a)+(b+0*r-b)*(b+0*r-b)=r*r:=by grind
theorem Wm(a b r:RE):(a+1*r-a)*(a+1*r-a)+(b+0*r-b)*(b+0*r-b)=r*r:=by grind
theorem Vx(a r:RE)(h1:a+ -1*r=a+1*r):r≤0:=by grind
theorem T9(a r:RE)(h1:a+ -1*r=a+1*r):0≤r:=by grind
theorem ab5(a r:RE)(h1:a+ -1*r=a+1*r):r=0:=le_antisymm (Vx a r h1) (T9 a r h1)
theorem adg{c:Ln}(h:0<c.2.2):gC c (pR (l9 c))∧gC c (pR (ml c)):=by
 have hr:=cQ (show 0≤c.2.2 by grind);unfold l9 ml;rw[uD,uD];exact⟨(aef _ _ _).trans hr,(Wm _ _ _).trans hr⟩
theorem TC{c:Ln}(h:0<c.2.2):pR (l9 c)≠pR (ml c):=by
 unfold l9 ml;rw[uD,uD];intro e;have e1:=ab5 _ _ (congrArg Prod.fst e);have hr:=cQ (show 0≤c.2.2 by grind);rw[e1,mul_zero]at hr;have:=yv hr;grind
theorem Qt{l:Ln}{v:Rat×Rat}(h:l.1*v.1+l.2.1*v.2=l.2.2):(ud l (atP v)==0)=true:=by
 rw[Aw,oA];exact congrArg of h
theorem L5{c:Ln}{v:Rat×Rat}(h:(v.1-c.1)*(v.1-c.1)+(v.2-c.2.1)*(v.2-c.2.1)=c.2.2):(oN c (atP v)==0)=true:=by
 rw[ui,oA];unfold gC frm;dsimp only;rw[←of_sub,←of_sub];exact congrArg of h
theorem YH{v w:Rat×Rat}(h:v≠w):aX (atP v) (atP w)≠0:=fun e=>h (by
 have:=cmpP_0.1 e;rw[oA,oA]at this;exact aoq (yv (congrArg Prod.fst this)) (yv (congrArg Prod.snd this)))
end RE
open RE
def gdN(c:BCU):Prop:=mG c∧gD (dC c) (frC (dC c))=true∧gD (dC c) (toC (dC c))=true∧aX (frC (dC c)) (toC (dC c))≠0
theorem gdN.gd{c:BCU}(h:gdN c):gdC c:=⟨h.1.1,h.2.1,h.2.2.1⟩
theorem BN{a b:Rat×Rat}[ba:Bd a 1][bb:Bd b 1](h:yZ a b=false):gdN (jB a b):=by
 have hz:(tj a b).1≠0∨(tj a b).2.1≠0:=by
  unfold yZ at h;by_cases e:a.2-b.2=0
  ·rw[am5 e,aoj]at h;exact .inr (anZ h)
  ·exact .inl e
 have hne:a≠b:=fun e=>by
  subst e;unfold tj at hz;rcases hz with h|h<;>exact h (by show _-_=(0:Rat);grind)
 have b1:Bd (tj a b).1 12:=(inferInstance:Bd (a.2-b.2) _).mono (by decide);have b2:Bd (tj a b).2.1 12:=(inferInstance:Bd (b.1-a.1) _).mono (by decide);have b3:Bd (tj a b).2.2 63:=(inferInstance:Bd ((a.2-b.2)*a.1+(b.1-a.1)*a.2) _).mono (by decide);have hl:=l8 (h:=⟨b1,b2,b3⟩) hz;have hL:Tp (enc (tj a b)):=⟨am8 (okd (x:=tj a b) (by decide) (by decide)),by rw[az];exact hz⟩
 unfold jB;rw[h];refine⟨⟨⟨fun e=>(by cases e),fun _=>hL,Bl (by decide) (by decide),Bl (by decide) (by decide)⟩,fun e=>(by cases e),fun _=>hl⟩,?_⟩;simp only[dC,gD,frC,toC,lnC,az,cond_false];exact⟨Qt (by unfold tj;grind),Qt (by unfold tj;grind),YH hne⟩
theorem wM{c:Ln}[bc:BdC c](h:0<c.2.2):∀d∈v5 (enc c),gdN d:=by
 have hs:=gR h;have bx:=bc.x;have b_:=bc.y;have bq:=bc.q;have b0:Bd (0:Rat) 3:=bS (n:=0) (by decide);have b1:Bd (1:Rat) 3:=bS (n:=1) (by decide);have hC:nM (enc c):=⟨am8 (okd (h:=R4 (c:=c)) (by decide) (by decide)),by rw[az];exact h⟩
 have q0:(0:Rat)≤c.2.2:=by grind
 have pl:Rpd (l9 c):=A9 (fun e=>absurd e.1 (by decide)) q0;have pr:Rpd (ml c):=A9 (fun e=>absurd e.1 (by decide)) q0;have bl:Bd (l9 c) 490:=BM (bx.mono (by decide:4≤4)) (ae5.mono (by decide:3≤3)) b_ b0 bq (by decide);have br:Bd (ml c) 490:=BM (bx.mono (by decide:4≤4)) b1 b_ b0 bq (by decide);have ol:okP 500 (enc (l9 c)):=am8 (aJ (by decide) (by decide));have or_:okP 500 (enc (ml c)):=am8 (aJ (by decide) (by decide));obtain⟨nl,nr_⟩:=adg h;have nl:=ui.2 nl;have nr_:=ui.2 nr_;have ne:=TC h;intro d hd
 have:d=(true,o00,enc c,false,enc (l9 c),enc (ml c))∨d=(true,o00,enc c,false,enc (ml c),enc (l9 c)):=by
  unfold v5 at hd;rw[az]at hd;simpa using hd
 rcases this with e|e<;>rw[e]
 ·refine⟨⟨⟨fun _=>hC,fun e=>(by cases e),ol,or_⟩,fun _=>hs,fun e=>(by cases e)⟩,?_⟩;simp only[dC,gD,frC,toC,ciC,az,cond_true];exact⟨nl,nr_,fun e=>ne (cmpP_0.1 e)⟩
 ·refine⟨⟨⟨fun _=>hC,fun e=>(by cases e),or_,ol⟩,fun _=>hs,fun e=>(by cases e)⟩,?_⟩;simp only[dC,gD,frC,toC,ciC,az,cond_true];exact⟨nr_,nl,fun e=>ne (cmpP_0.1 e).symm⟩
theorem ac1{a b c:Rat×Rat}(h:eZ a b c≠0):(c.1-(qY a b c).1)*(c.1-(qY a b c).1)+(c.2-(qY a b c).2.1)*(c.2-(qY a b c).2.1)=(qY a b c).2.2:=by
 have h2:eZ a b c+eZ a b c≠0:=by grind
 have eX:yn a b c*(eZ a b c+eZ a b c)=_:=anv h2;have eY:wH a b c*(eZ a b c+eZ a b c)=_:=anv h2;unfold qY;dsimp only;generalize yn a b c=X at*
 generalize wH a b c=Y at*
 have k:eZ a b c*(2*((c.1-a.1)*X+(c.2-a.2)*Y)-((c.1-a.1)*(c.1-a.1)+(c.2-a.2)*(c.2-a.2)))=0:=by
  unfold eZ at*
  grind
 rcases apk.1 k with g|g
 ·exact absurd g h
 ·grind
theorem aiv{a b c:Rat×Rat}(h:eZ a b c≠0)(e:a=c):False:=by
 subst e;refine h ?_;unfold eZ;grind
theorem adC{a b c:Rat×Rat}[a1:Bb a.1 7 2][a2:Bb a.2 7 2][b1:Bb b.1 7 2][b2:Bb b.2 7 2][c1:Bb c.1 7 2][c2:Bb c.2 7 2]:BdC (qY a b c):=by
 have d:Bb ((b.1-a.1)*(c.2-a.2)-(b.2-a.2)*(c.1-a.1)) _ _:=inferInstance;have d:Bb (eZ a b c) _ _:=d;have X:Bb ((((b.1-a.1)*(b.1-a.1)+(b.2-a.2)*(b.2-a.2))*(c.2-a.2)-((c.1-a.1)*(c.1-a.1)+(c.2-a.2)*(c.2-a.2))*(b.2-a.2))/(eZ a b c+eZ a b c)) _ _:=inferInstance;have X:Bb (yn a b c) _ _:=X;have Y:Bb ((((c.1-a.1)*(c.1-a.1)+(c.2-a.2)*(c.2-a.2))*(b.1-a.1)-((b.1-a.1)*(b.1-a.1)+(b.2-a.2)*(b.2-a.2))*(c.1-a.1))/(eZ a b c+eZ a b c)) _ _:=inferInstance;have Y:Bb (wH a b c) _ _:=Y;have x1:Bb (a.1+yn a b c) _ _:=inferInstance;have x2:Bb (a.2+wH a b c) _ _:=inferInstance;have x3:Bb (yn a b c*yn a b c+wH a b c*wH a b c) _ _:=inferInstance;exact⟨EU (h:=x1) (by decide) (by decide),EU (h:=x2) (by decide) (by decide),EU (h:=x3) (by decide) (by decide)⟩
theorem zV{x y:Rat}(h:¬(x=0∧y=0)):0<x*x+y*y:=by
 have nn:∀a:Rat,0≤a*a:=fun a=>by
  rcases(by grind:0≤a∨0≤ -a)with h|h
  ·exact anl h h
  ·have:=anl h h;grind
 have h1:=nn x;have h2:=nn y;rcases(by grind:0<x*x+y*y∨(x*x=0∧y*y=0))with g|⟨g1,g2⟩
 ·exact g
 ·exact absurd ⟨by simpa using apk.1 g1,by simpa using apk.1 g2⟩ h
theorem GX{a b c:Rat×Rat}[Bd a 1][Bd c 1][bc:BdC (qY a b c)](h:eZ a b c≠0):gdN (me a b c):=by
 have hon:=ac1 h;have hne:a≠c:=fun e=>aiv h e
 have hq:0<(qY a b c).2.2:=by
  refine zV fun⟨e1,e2⟩=>hne ?_;unfold qY at hon;dsimp only at hon;rw[e1,e2]at hon;by_cases g:c.1-(a.1+0)=0∧c.2-(a.2+0)=0
  ·obtain⟨g1,g2⟩:=g;exact aoq (by grind) (by grind)
  ·have:=zV g;grind
 have hs:=gR (h:=bc) hq;have bx:=bc.x;have b_:=bc.y;have bq:=bc.q;have hC:nM (enc (qY a b c)):=⟨am8 (okd (h:=R4 (c:=qY a b c)) (by decide) (by decide)),by rw[az];exact hq⟩
 unfold me;rw[am7 h];refine⟨⟨⟨fun _=>hC,fun e=>(by cases e),Bl (by decide) (by decide),Bl (by decide) (by decide)⟩,fun _=>hs,fun e=>(by cases e)⟩,?_⟩;simp only[dC,gD,frC,toC,ciC,az,cond_true,cond_false];refine⟨L5 ?_,L5 hon,YH hne⟩;unfold qY;grind
theorem ahF{x:Dr}(h:yh x):∀c∈ofL x,gdN c:=by
 obtain⟨h1,h2,hA,hB,hC,hD,hE,hF⟩:=h;have a1:Bb (drA x).1 7 2:=xf hA h2;have a2:Bb (drA x).2 7 2:=xf hB h2;have b1:Bb (drB x).1 7 2:=xf hC h2;have b2:Bb (drB x).2 7 2:=xf hD h2;have c1:Bb (drC x).1 7 2:=xf hE h2;have c2:Bb (drC x).2 7 2:=xf hF h2;have l:∀{q:Rat},Bb q 7 2→Bd q 1:=fun h=>EU (h:=h) (by decide) (by decide)
 have m:∀v:Rat×Rat,Bb v.1 7 2→Bb v.2 7 2→Bd v 1:=fun v g g'=>by
  have:=l g;have:=l g';exact inferInstanceAs (Bd (v.1,v.2) _)
 have vA:=m _ a1 a2;have vB:=m _ b1 b2;have vC:=m _ c1 c2;intro c hc;unfold ofL at hc;cases h3:x.1%3==2
 ·rw[h3,cond_false]at hc;cases h4:x.1%3==1
  ·rw[h4,cond_false]at hc;cases h5:yZ (drA x) (drB x)
   ·have:qb (drA x) (drB x)=0:=by unfold qb;rw[h5];rfl
    rw[this]at hc;have:c=jB (drA x) (drB x):=by simpa using hc
    rw[this];exact BN h5
   ·have:qb (drA x) (drB x)=6:=by unfold qb;rw[h5];rfl
    rw[this]at hc;cases hc
  ·rw[h4,cond_true]at hc;by_cases h5:eZ (drA x) (drB x) (drC x)=0
   ·have:arcE (drA x) (drB x) (drC x)=6:=by unfold arcE;rw[am5 h5];rfl
    rw[this]at hc;cases hc
   ·have:arcE (drA x) (drB x) (drC x)=0:=by unfold arcE;rw[am7 h5];rfl
    rw[this]at hc;have:c=me (drA x) (drB x) (drC x):=by simpa using hc
    rw[this];have:=adC (a:=drA x) (b:=drB x) (c:=drC x);exact GX h5
 ·rw[h3,cond_true]at hc;by_cases h5:(drB x).1≤0
  ·rw[am5 h5]at hc;cases hc
  ·rw[am7 h5]at hc;have bq:BdC (drQ x):=⟨(l a1).mono (by decide),(l a2).mono (by decide),(l b1).mono (by decide)⟩
   exact wM (c:=drQ x) (show 0<(drB x).1 by grind) c hc
end
namespace RE
theorem aep{a b:Rt}[ha:Rdd a][hb:Rdd b]:vR (rU a b)=mnE (vR a) (vR b):=by
 unfold rU mnE;rw[cmpT_re hb.nn ha.nn];by_cases h:vR b<vR a
 ·rw[anB h,am5 (by rw[gE (tD _ _ h)];decide)];rfl
 ·rw[anr h,am7 (by
   intro g;exact h (ae0 (by rw[←HG];exact jQ (Bq.1 g))))]
  rfl
theorem P9(a b:RE):mnE a b=mnE b a:=by
 unfold mnE;rcases m9 a b with h|h|h
 ·rw[anr (fun g=>lt_irrefl _ (cO h g)),anB h]
 ·rw[h]
 ·rw[anB h,anr (fun g=>lt_irrefl _ (cO h g))]
def vE(v:Rat×Rat):PE:=(of v.1,of v.2)
theorem vR_sq{p:Pt}[Rpd p](v:Rat×Rat):vR (sqP p v)=dsE (pR p) (vE v):=BK
theorem SY{c:Cv}(hf:Rpd (frC c))(ht:Rpd (toC c))(v:Rat×Rat):vR (yV c v)=mnE (dsE (pR (frC c)) (vE v)) (dsE (pR (toC c)) (vE v)):=by
 unfold yV;rw[aep,vR_sq,vR_sq]
theorem Dq{c:Cv}[hf:Rpd (frC c)][ht:Rpd (toC c)]{p:Pt}[hp:Rpd p]:ul c p=true↔btE (tE (lnC c) (pR (frC c))) (tE (lnC c) (pR (toC c))) (tE (lnC c) (pR p)):=by
 unfold ul;rw[uj,uj,uj,uj,uj];exact Ca _ _ _
theorem ace(l:Ln)(v:Rat×Rat):exE l (vE v)=of (l.1*v.1+l.2.1*v.2-l.2.2):=by
 rw[of_sub];rfl
theorem NX{l:Ln}(hl:l.1≠0∨l.2.1≠0)(v:Rat×Rat):aY (bh v (dt l v)) (bh v (dt l v))=(l.1*v.1+l.2.1*v.2-l.2.2)*(l.1*v.1+l.2.1*v.2-l.2.2)*(1/(l.1*l.1+l.2.1*l.2.1)):=by
 have hn:=lK hl;have h1:1/(l.1*l.1+l.2.1*l.2.1)*(l.1*l.1+l.2.1*l.2.1)=1:=anv hn
 have h2:mv l v=(l.1*v.1+l.2.1*v.2-l.2.2)*(1/(l.1*l.1+l.2.1*l.2.1)):=by
  unfold mv;rw[apK,apK,Rat.one_mul]
 unfold aY bh dt;rw[h2];generalize 1/(l.1*l.1+l.2.1*l.2.1)=k at*
 generalize l.1*v.1+l.2.1*v.2-l.2.2=e at*
 dsimp only;grind
theorem UN(x y a b v w:RE):(x-v)*(x-v)+(y-w)*(y-w)=(x-a)*(x-a)+(y-b)*(y-b)+((v-a)*(v-a)+(w-b)*(w-b))-(((x-a)*(v-a)+(y-b)*(w-b))+((x-a)*(v-a)+(y-b)*(w-b))):=by grind
theorem UE(a b c d r:RE):a*(d*r)-b*(c*r)=r*(a*d-b*c):=by grind
theorem VD(a b c d r:RE):c*r*b-d*r*a=r*(c*b-d*a):=by grind
theorem ahj(a b r:RE):a*r*a+b*r*b=r*(a*a+b*b):=by grind
theorem ag7(a b:RE):a+b-a=b:=by grind
theorem Z2(q s t u:RE)(h1:s≤t):q+u-(t+t)≤q+u-(s+s):=by grind
theorem alq(r d:RE):r*d*(r*d)=r*r*d*d:=by grind
theorem QR(c t m:RE)(h1:c*c+t*t=m):t*t≤m:=by have:=fo (c);grind
theorem aia(t s:RE)(h1:t≤0)(h2:0≤s):t≤s:=by grind
theorem acp(a b r:RE):a*r*(a*r)+b*r*(b*r)=(a*a+b*b)*(r*r):=by grind
theorem afm(a s:RE):a+ -2*s=a-(s+s):=by grind
theorem xZ{c:Ln}{p:PE}(h:gC c p)(v:PE):dsE p v=of c.2.2+dtE (frm c v) (frm c v)-(dtE (frm c p) (frm c v)+dtE (frm c p) (frm c v)):=by
 have h':(p.1-of c.1)*(p.1-of c.1)+(p.2-of c.2.1)*(p.2-of c.2.1)=of c.2.2:=h;unfold dsE dtE frm;dsimp only;rw[UN _ _ (of c.1) (of c.2.1),h']
theorem MA{c:Ln}{p q:PE}(hp:gC c p)(hq:gC c q){v:PE}(h:dtE (frm c p) (frm c v)≤dtE (frm c q) (frm c v)):dsE q v≤dsE p v:=by
 rw[xZ hp,xZ hq];exact Z2 _ _ _ _ h
theorem oZ(u w:PE):nF u w u=true∧nF u w w=true:=by
 have z:∀x:PE,crs x x=0:=fun x=>by unfold crs;rw[mul_comm,sub_self]
 rcases lt_or_ge (crs u w) 0 with h|h
 ·exact⟨(Qf h).2 (fun g=>by rw[z u]at g;exact lt_irrefl _ g.2),(Qf h).2 (fun g=>by rw[z w]at g;exact lt_irrefl _ g.1)⟩
 ·exact⟨(Q4 h).2 ⟨by rw[z u];exact le_refl _,h⟩,(Q4 h).2 ⟨h,by rw[z w];exact le_refl _⟩⟩
theorem zq(u w d:PE){r:RE}(hr:0<r):nF u w (d.1*r,d.2*r)=nF u w d:=by
 have h1:crs u (d.1*r,d.2*r)=r*crs u d:=UE _ _ _ _ _;have h2:crs (d.1*r,d.2*r) w=r*crs d w:=VD _ _ _ _ _;unfold nF;rw[h1,h2,dA,dA,dB hr,aol,aol]
theorem MP{q:Pt}:pX (rdP q)=pX q∧pY (rdP q)=pY q:=by
 unfold rdP pX pY;by_cases h1:q.2.1=0
 ·by_cases h2:q.2.2.2.1=0
  ·rw[am5 h1,am5 h2];dsimp only;rw[h1,h2,dD,dD,dD,dD];exact⟨rfl,rfl⟩
  ·rw[am7 h2,aqf];exact⟨rfl,rfl⟩
 ·rw[am7 h1,aqh];exact⟨rfl,rfl⟩
theorem aaG{x y:Rt}(h:t5 x y):pR (mkP x y)=(vR x,vR y):=by
 unfold mkP;refine aoq (MP.1.trans ?_) (MP.2.trans ?_)
 ·unfold pX vR;dsimp only;by_cases e:x.2.1=0
  ·rw[e,dD,dD]
  ·rw[am7 e];rfl
 ·unfold pY vR;dsimp only;by_cases e:x.2.1=0
  ·rw[am5 e];rfl
  ·rw[am7 e];rcases h with h|h|h
   ·exact absurd h e
   ·rw[h,dD,dD]
   ·rw[cond_false,h]
theorem Bh(c:Ln)(d:Rat×Rat):frm c (pR (jY c d))=(of d.1*rq (c.2.2/aY d d),of d.2*rq (c.2.2/aY d d)):=by
 unfold jY;rw[aaG (nW _ _ _ _ _),vR_mk,vR_mk];unfold frm v2;exact aoq (ag7 _ _) (ag7 _ _)
theorem XP(c:Ln)(v:Rat×Rat):frm c (vE v)=vE (bh (ctr c) v):=by
 unfold frm vE bh ctr;dsimp only;rw[of_sub,of_sub]
theorem X5(d:Rat×Rat):dtE (vE d) (vE d)=of (aY d d):=rfl
theorem Ju{m:Rat}(h:0<m):0<rq m:=by
 have:=RM (m:=m) (by grind);rw[dp h]at this;exact Fe.1 this
theorem xu(c:Cv):(ccF c=frC c∧ccT c=toC c)∨(ccF c=toC c∧ccT c=frC c):=by
 unfold ccF ccT;cases cwC c
 ·exact .inl ⟨rfl,rfl⟩
 ·exact .inr ⟨rfl,rfl⟩
theorem alG{c:Cv}(hq:0<(ciC c).2.2){v:Rat×Rat}(hz:zeV (bV c v)=false)(on:gC (ciC c) (pR (jY (ciC c) (bV c v)))):dsE (pR (jY (ciC c) (bV c v))) (vE v)=of (aY (bV c v) (bV c v)+(ciC c).2.2)-(rq (aY (bV c v) (bV c v)*(ciC c).2.2)+rq (aY (bV c v) (bV c v)*(ciC c).2.2)):=by
 have hq0:(0:Rat)≤(ciC c).2.2:=by grind
 have d0:=jc (bV c v);have m0:0≤aY (bV c v) (bV c v)*(ciC c).2.2:=anl d0 hq0;have hs:=cQ m0;have hs0:=eT (aY (bV c v) (bV c v)*(ciC c).2.2);have hD:frm (ciC c) (vE v)=vE (bV c v):=XP _ _;have n0:=GG hq0 d0;have rr:=cQ n0;have r0:=eT ((ciC c).2.2/aY (bV c v) (bV c v))
 have hdt:dtE (frm (ciC c) (pR (jY (ciC c) (bV c v)))) (frm (ciC c) (vE v))=rq (aY (bV c v) (bV c v)*(ciC c).2.2):=by
  rw[hD,Bh];have e1:dtE (of (bV c v).1*rq ((ciC c).2.2/aY (bV c v) (bV c v)),of (bV c v).2*rq ((ciC c).2.2/aY (bV c v) (bV c v))) (vE (bV c v))=rq ((ciC c).2.2/aY (bV c v) (bV c v))*of (aY (bV c v) (bV c v)):=ahj _ _ _;rw[e1];refine EM _ _ (bg r0 (fx.2 d0)) hs0 ?_;rw[hs,alq,rr,←aG,←aG,anv (vw hz),ao0]
 rw[xZ on,hdt,hD,X5,of_add,add_comm (of (aY _ _))]
theorem UO{c:Cv}(h:GdE c)(ha:c.1=true){v:Rat×Rat}(hz:zeV (bV c v)=false):gC (ciC c) (pR (jY (ciC c) (bV c v)))∧cf c (bV c v)=nF (frm (ciC c) (pR (ccF c))) (frm (ciC c) (pR (ccT c))) (vE (bV c v)):=by
 have hq:=(h.q ha).1;have hq0:(0:Rat)≤(ciC c).2.2:=by grind
 have hC:Cir (ciC c):=⟨hq⟩
 have d0:=jc (bV c v)
 have n0:0<(ciC c).2.2/aY (bV c v) (bV c v):=by
  have h1:(ciC c).2.2/aY (bV c v) (bV c v)*aY (bV c v) (bV c v)=(ciC c).2.2:=anv (vw hz);have h2:=GG hq0 d0;rcases(by grind:(ciC c).2.2/aY (bV c v) (bV c v)=0∨0<(ciC c).2.2/aY (bV c v) (bV c v))with h3|h3
  ·rw[h3]at h1;grind
  ·exact h3
 have hr:=Ju n0;have rr:=cQ (show 0≤(ciC c).2.2/aY (bV c v) (bV c v) by grind)
 have onray:gC (ciC c) (pR (jY (ciC c) (bV c v))):=by
  show(frm _ _).1*(frm _ _).1+(frm _ _).2*(frm _ _).2=_;rw[Bh];have:of (bV c v).1*rq ((ciC c).2.2/aY (bV c v) (bV c v))*(of (bV c v).1*rq ((ciC c).2.2/aY (bV c v) (bV c v)))+of (bV c v).2*rq ((ciC c).2.2/aY (bV c v) (bV c v))*(of (bV c v).2*rq ((ciC c).2.2/aY (bV c v) (bV c v)))=of (aY (bV c v) (bV c v))*(rq ((ciC c).2.2/aY (bV c v) (bV c v))*rq ((ciC c).2.2/aY (bV c v) (bV c v))):=acp _ _ _;rw[this,rr,←aG,ao0,anv (vw hz)]
 refine⟨onray,?_⟩
 have e1:cf c (bV c v)=onP c (jY (ciC c) (bV c v)):=by
  unfold cf;rw[ha,hz];rfl
 rw[e1,←zq _ _ (vE (bV c v)) hr,ao6,Jc h];unfold onE arcE;rw[anB ha,Bh];exact and_iff_right onray
end RE
section
def rcX(p:Pt)(v:Rat×Rat):Rat×Rat:=(p.1-v.1,p.2.1)
def rcY(p:Pt)(v:Rat×Rat):Rat×Rat:=(p.2.2.1-v.2,p.2.2.2.1)
def prQ(q:Qd)(x y:Rat×Rat)(s:Rat):Qd:=(q.1+s*(x.1*y.1),q.2.1+s*(x.2*y.1),q.2.2.1+s*(x.1*y.2),q.2.2.2.1+s*(x.2*y.2),q.2.2.2.2.1,q.2.2.2.2.2)
def noQ(p q:Pt):Qd:=(0,0,0,0,p.2.2.2.2,q.2.2.2.2)
def crQ(v:Rat×Rat)(p q:Pt):Qd:=prQ (prQ (noQ p q) (rcX p v) (rcY q v) 1) (rcY p v) (rcX q v) (-1)
def doQ(v:Rat×Rat)(p q:Pt):Qd:=prQ (prQ (noQ p q) (rcX p v) (rcX q v) (-2)) (rcY p v) (rcY q v) (-2)
def z2:Rat×Rat:=(0,0)
def apQ(p q:Pt)(r:Rat):Qd:=((doQ z2 p q).1+(sqA p z2+sqA q z2)-r*r,(doQ z2 p q).2.1+sqB p z2,(doQ z2 p q).2.2.1+sqB q z2,(doQ z2 p q).2.2.2.1,p.2.2.2.2,q.2.2.2.2)
section
variable {p:Pt} {v:Rat×Rat} {j k:Nat}
instance (priority:=2000) bd_sqA' [h:Bd p j] [h':Bd v k]:Bd (sqA p v) (10*(j+k+1)):=by
 have a1:Bd (p.1-v.1) _:=inferInstance;have a2:Bd (p.2.2.1-v.2) _:=inferInstance;have a3:Bd (p.2.1*p.2.1+p.2.2.2.1*p.2.2.2.1) _:=inferInstance;have i:Bd ((p.1-v.1)*(p.1-v.1)+(p.2.2.1-v.2)*(p.2.2.1-v.2)+(p.2.1*p.2.1+p.2.2.2.1*p.2.2.2.1)*p.2.2.2.2) _:=inferInstance;exact i.mono (by omega)
instance (priority:=2000) bd_sqB' [h:Bd p j] [h':Bd v k]:Bd (sqB p v) (10*(j+k+1)):=by
 have a1:Bd (p.1-v.1) _:=inferInstance;have a2:Bd (p.2.2.1-v.2) _:=inferInstance;have i:Bd ((p.1-v.1)*p.2.1+(p.2.2.1-v.2)*p.2.2.2.1+((p.1-v.1)*p.2.1+(p.2.2.1-v.2)*p.2.2.2.1)) _:=inferInstance;exact i.mono (by omega)
instance (priority:=2000) bd_sqP' [h:Bd p j] [h':Bd v k]:Bd (sqP p v) (10*(j+k+1)):=by
 have a:Bd (sqA p v) (10*(j+k+1)):=bd_sqA';have b:Bd (sqB p v) (10*(j+k+1)):=bd_sqB';have i:Bd (coR (sqA p v) (sqB p v) p.2.2.2.2) (mx (10*(j+k+1)) (mx (10*(j+k+1)) j)):=inferInstance;exact i.mono (cL (by omega) (cL (by omega) (by omega)))
end
namespace RE
theorem VP(A B C D m n s a b c d:RE):A+s*(a*c)+(B+s*(b*c))*m+(C+s*(a*d))*n+(D+s*(b*d))*(m*n)=A+B*m+C*n+D*(m*n)+s*((a+b*m)*(c+d*n)):=by grind
theorem T7(A B C D m n a b c d r:RE):A+(a+c)-r+(B+b)*m+(C+d)*n+D*(m*n)=A+B*m+C*n+D*(m*n)+(a+b*m)+(c+d*n)-r:=by grind
theorem afu(x y u w:RE):0+ -2*((x-0)*(u-0))+ -2*((y-0)*(w-0))+((x-0)*(x-0)+(y-0)*(y-0))+((u-0)*(u-0)+(w-0)*(w-0))=(x-u)*(x-u)+(y-w)*(y-w):=by grind
theorem amp(a b:RE):0+1*a+ -1*b=a-b:=by grind
theorem Cs(a v b:RE):a-v+b=a+b-v:=by grind
theorem Qm(u t:RE):u*u-t*t=(u-t)*(u+t):=by grind
theorem agQ(Q r t:RE):Q+r*r+(r+r)*t=(t+r)*(t+r)+(Q-t*t):=by grind
theorem abT(Q r t:RE):Q+r*r+ -(r+r)*t=(t-r)*(t-r)+(Q-t*t):=by grind
theorem aeA(u t r:RE):u*u+t*t-(u*t+u*t)-r*r=(u-(t+r))*(u-(t-r)):=by grind
theorem aiG(u t r:RE)(h1:0<u)(h2:0<t)(h3:0≤r):0<u+(t+r):=by grind
theorem ak1(u t r:RE)(h1:0<u)(h2:r<t):0<u+(t-r):=by grind
theorem alM(u t r:RE)(h1:0<u-(t+r))(h2:0≤r):0<u-(t-r):=by grind
theorem amu(u t r:RE)(h1:0<u)(h2:t≤r):0<u-(t-r):=by grind
theorem sX(x y t:RE)(h1:x≤y):x-t≤y-t:=by grind
theorem Hr(x y:RE):((y*y-(x*x)))+((x-(y))*(x-(y)))+2*((x-(y))*(y-(0)))=0:=by grind
theorem Se(x y:RE)(h1:y≤x)(h2:0≤y):y*y≤x*x:=fun hg=>far (aK (aK (aL hg) (bg (aF h1) (aF h1))) (iH (by decide+kernel:(0:Rat)<2) (bg (aF h1) (aF h2)))) (Hr x y)
theorem U3(a b:RE):a*b*(a*b)=a*a*(b*b):=by grind
theorem P5(n e k r:RE):n*(e*k-r)=e*(n*k)-r*n:=by grind
def vq(q:Qd):RE:=vQ q.1 q.2.1 q.2.2.1 q.2.2.2.1 q.2.2.2.2.1 q.2.2.2.2.2
theorem pT{q:Qd}(h:0≤q.2.2.2.2.1)(h':0≤q.2.2.2.2.2):sgQ q=sg (vq q):=sgnQ_re h h'
theorem JO(q:Qd)(x y:Rat×Rat)(s:Rat):vq (prQ q x y s)=vq q+of s*(v2 x.1 x.2 q.2.2.2.2.1*v2 y.1 y.2 q.2.2.2.2.2):=by
 unfold vq vQ prQ v2;simp only[of_add,aG];exact VP _ _ _ _ _ _ _ _ _ _ _
theorem of0:of 0=0:=rfl
theorem aan(p q:Pt):vq (noQ p q)=0:=by
 unfold vq vQ noQ;dsimp only;rw[of0,zero_mul,zero_mul,zero_mul,add_zero,add_zero,add_zero]
def sbE(v:Rat×Rat)(p:PE):PE:=(p.1-of v.1,p.2-of v.2)
theorem Bv(p:Pt)(v:Rat×Rat):v2 (rcX p v).1 (rcX p v).2 p.2.2.2.2=(sbE v (pR p)).1:=by
 unfold rcX sbE pR pX v2;dsimp only;rw[of_sub,Cs]
theorem Az(p:Pt)(v:Rat×Rat):v2 (rcY p v).1 (rcY p v).2 p.2.2.2.2=(sbE v (pR p)).2:=by
 unfold rcY sbE pR pY v2;dsimp only;rw[of_sub,Cs]
def turS(v:Rat×Rat)(p q:PE):Int:=sg (crs (sbE v p) (sbE v q))
theorem crQ_re(v:Rat×Rat){p q:Pt}[hp:Rpd p][hq:Rpd q]:sgQ (crQ v p q)=turS v (pR p) (pR q):=by
 rw[pT (q:=crQ v p q) (show 0≤p.2.2.2.2 from hp.nn) (show 0≤q.2.2.2.2 from hq.nn)];unfold crQ;rw[JO,JO,aan];show sg (0+of 1*(v2 (rcX p v).1 (rcX p v).2 p.2.2.2.2*v2 (rcY q v).1 (rcY q v).2 q.2.2.2.2)+of (-1)*(v2 (rcY p v).1 (rcY p v).2 p.2.2.2.2*v2 (rcX q v).1 (rcX q v).2 q.2.2.2.2))=_;rw[Bv,Bv,Az,Az];exact congrArg sg (amp _ _)
def apaS(p q:PE)(r:Rat):Int:=sg (dsE p q-of (r*r))
theorem apQ_re{p q:Pt}[hp:Rpd p][hq:Rpd q](r:Rat):sgQ (apQ p q r)=apaS (pR p) (pR q) r:=by
 rw[pT (q:=apQ p q r) (show 0≤p.2.2.2.2 from hp.nn) (show 0≤q.2.2.2.2 from hq.nn)]
 have e1:vq (doQ z2 p q)=0+ -2*((pX p-0)*(pX q-0))+ -2*((pY p-0)*(pY q-0)):=by
  unfold doQ;rw[JO,JO,aan];show 0+of (-2)*(v2 (rcX p z2).1 (rcX p z2).2 p.2.2.2.2*v2 (rcX q z2).1 (rcX q z2).2 q.2.2.2.2)+of (-2)*(v2 (rcY p z2).1 (rcY p z2).2 p.2.2.2.2*v2 (rcY q z2).1 (rcY q z2).2 q.2.2.2.2)=_;rw[Bv,Bv,Az,Az];rfl
 have e2:∀{p:Pt},Rpd p→v2 (sqA p z2) (sqB p z2) p.2.2.2.2=(pX p-0)*(pX p-0)+(pY p-0)*(pY p-0):=fun{p} h=>by
  have:=BK (p:=p) (v:=z2);unfold sqP at this;rw[vR_co]at this;exact this
 have e3:vq (apQ p q r)=vq (doQ z2 p q)+v2 (sqA p z2) (sqB p z2) p.2.2.2.2+v2 (sqA q z2) (sqB q z2) q.2.2.2.2-of (r*r):=by
  unfold vq vQ apQ v2;dsimp only;rw[of_sub,of_add,of_add,of_add,of_add];exact T7 _ _ _ _ _ _ _ _ _ _ _
 rw[e3,e1,e2 hp,e2 hq,afu];rfl
def VF(c:Cv)(p:PE)(r:Rat):Int:=min (apaS (pR (frC c)) p r) (apaS (pR (toC c)) p r)
def rngS(d:RE)(q r:Rat):Int:=bif decide (0≤sg (d-v2 (q+r*r) (r+r) q))then sg (d-v2 (q+r*r) (r+r) q)else bif decide (aD q (r*r)≤0)then-1 else-(sg (d-v2 (q+r*r) (-(r+r)) q))
def witE(c:Cv)(p:PE):Bool:=nF (frm (ciC c) (pR (ccF c))) (frm (ciC c) (pR (ccT c))) (frm (ciC c) p)
open Classical in
def besE(c:Cv)(p:PE):Bool:=decide (btE (tE (lnC c) (pR (frC c))) (tE (lnC c) (pR (toC c))) (tE (lnC c) p))
open Classical in
def poiE(c:Cv)(p:PE)(r:Rat):Int:=
 bif decide (r<0)then 1 else
 bif c.1 then(bif decide (p=vE (ctr (ciC c)))then aD (ciC c).2.2 (r*r)else bif witE c p then rngS (dsE p (vE (ctr (ciC c)))) (ciC c).2.2 r else VF c p r)
 else bif besE c p then sg (exE (lnC c) p*exE (lnC c) p-of (r*r*((lnC c).1*(lnC c).1+(lnC c).2.1*(lnC c).2.1)))else VF c p r
def mvLn(l:Ln)(v:Rat×Rat):Ln:=(l.1,l.2.1,l.2.2+(l.1*v.1+l.2.1*v.2))
def mvCi(c:Ln)(v:Rat×Rat):Ln:=(c.1+v.1,c.2.1+v.2,c.2.2)
theorem qq{x y:RE}(h:x≤y):sg x≤sg y:=by
 rcases bi x with⟨a,e⟩|⟨a,e⟩|⟨a,e⟩<;>rcases bi y with⟨b,f⟩|⟨b,f⟩|⟨b,f⟩<;>rw[e,f]<;>try decide
 ·exfalso;rw[b]at h;exact h a
 ·exact absurd (cO b a) h
 ·exfalso;rw[a]at h;exact h b
theorem LI(a b t:RE):min (sg (a-t)) (sg (b-t))=sg (mnE a b-t):=by
 unfold mnE;by_cases e:b<a
 ·rw[anB e];exact Int.min_eq_right (qq (sX _ _ _ (le_of_lt e)))
 ·rw[anr e];exact Int.min_eq_left (qq (sX _ _ _ ((lt_or_ge b a).resolve_left e)))
theorem Lh{c:Cv}(hf:Rpd (frC c))(ht:Rpd (toC c))(v:Rat×Rat)(r:Rat):VF c (vE v) r=sg (vR (yV c v)-of (r*r)):=by
 rw[SY hf ht];exact LI _ _ _
theorem mE{n:RE}(h:0<n)(x:RE):sg (n*x)=sg x:=by rw[dA,dB h,aol]
theorem uz{a b:Rat}(ha:0≤a)(hb:0≤b):rq (a*b)=rq a*rq b:=EM _ _ (eT _) (bg (eT _) (eT _)) (by rw[cQ (anl ha hb),aG,U3,cQ ha,cQ hb])
theorem JW{u t:RE}{q r:Rat}(hu:0<u)(hq:0<q)(ht:t=rq q)(hr:0≤r):rngS (u*u) q r=sg (u*u+of q-(u*t+u*t)-of (r*r)):=by
 have hr':0≤of r:=fx.2 hr;have tt:t*t=of q:=by rw[ht];exact cQ (by grind)
 have tp:0<t:=by rw[ht];exact Ju hq
 have e1:v2 (q+r*r) (r+r) q=(t+of r)*(t+of r):=by
  unfold v2;rw[←ht,of_add,aG,of_add,agQ,tt,sub_self,add_zero]
 have e2:v2 (q+r*r) (-(r+r)) q=(t-of r)*(t-of r):=by
  unfold v2;rw[←ht,of_add,aG,of_neg,of_add,abT,tt,sub_self,add_zero]
 have f1:sg (u*u-v2 (q+r*r) (r+r) q)=sg (u-(t+of r)):=by
  rw[e1,Qm,mul_comm,mE (aiG _ _ _ hu tp hr')]
 have f2:of r<t→sg (u*u-v2 (q+r*r) (-(r+r)) q)=sg (u-(t-of r)):=fun g=>by
  rw[e2,Qm,mul_comm,mE (ak1 _ _ _ hu g)]
 have fin:sg (u*u+of q-(u*t+u*t)-of (r*r))=sg (u-(t+of r))*sg (u-(t-of r)):=by
  rw[←tt,aG,aeA,dA]
 unfold rngS;rw[f1,fin];rcases bi (u-(t+of r))with⟨a,e⟩|⟨a,e⟩|⟨a,e⟩
 ·rw[e,dB (alM _ _ _ a hr')];rfl
 ·rw[e];show(0:Int)=0*_;rw[ap4]
 ·rw[e];show(bif decide (aD q (r*r)≤0)then-1 else _)=_
  have cq:decide (aD q (r*r)≤0)=decide (q≤r*r):=by
   rw[yK]
  rw[cq];by_cases g:q≤r*r
  ·have tr:t≤of r:=sO _ _ (le_of_lt tp) hr' (by rw[tt,←aG];exact fx.2 g);rw[am5 g,dB (amu _ _ _ hu tr)];rfl
  ·have tr:of r<t:=by
    rcases lt_or_ge (of r) t with k|k
    ·exact k
    ·exfalso;have:=Se _ _ k (le_of_lt tp);rw[tt,←aG]at this;exact g (fx.1 this)
   rw[am7 g,f2 tr];show-(sg _)= -1*sg _;omega
open Classical in
theorem TY{c:Cv}(h:GdE c){v:Rat×Rat}(hd:Rdd (oR c v))(r:Rat):poiE c (vE v) r=so c v r:=by
 have hf:=h.f;have ht:=h.t;unfold poiE so;by_cases hr:r<0
 ·rw[am5 hr];rfl
 ·rw[am7 hr,cond_false,cond_false,cmpTR_re hd.nn];have hr0:0≤r:=by grind
  cases ha:c.1
  ·rw[cond_false];have hl:=(h.l ha).1;have hn:0<nrE (lnC c):=FF hl
   have hb:besE c (vE v)=ul c (atP v):=by
    have:=Dq (c:=c) (p:=atP v);rw[oA]at this;unfold besE;rw[ao6,aob];exact this.symm
   unfold oR;rw[hb,ha,cond_false];cases ul c (atP v)
   ·exact Lh hf ht v r
   ·rw[cond_true,cond_true];have h1:1/((lnC c).1*(lnC c).1+(lnC c).2.1*(lnC c).2.1)*((lnC c).1*(lnC c).1+(lnC c).2.1*(lnC c).2.1)=1:=anv (lK hl)
    have en:nrE (lnC c)=of ((lnC c).1*(lnC c).1+(lnC c).2.1*(lnC c).2.1):=by
     rw[of_add,aG,aG];rfl
    have ek:nrE (lnC c)*of (1/((lnC c).1*(lnC c).1+(lnC c).2.1*(lnC c).2.1))=1:=by
     rw[en,mul_comm,←aG,h1];rfl
    have e2:vR (aY (bh v (dt (lnC c) v)) (bh v (dt (lnC c) v)),0,0)=of (aY (bh v (dt (lnC c) v)) (bh v (dt (lnC c) v))):=dD _ _;rw[e2,NX hl,aG (r*r) ((lnC c).1*(lnC c).1+(lnC c).2.1*(lnC c).2.1),←en,aG _ (1/((lnC c).1*(lnC c).1+(lnC c).2.1*(lnC c).2.1)),aG ((lnC c).1*v.1+(lnC c).2.1*v.2-(lnC c).2.2),←ace,←mE hn (_-of (r*r)),P5,ek];refine congrArg sg ?_;rw[mul_one]
  ·rw[cond_true];have hq:=(h.q ha).1
   have cz:vE v=vE (ctr (ciC c))↔zeV (bV c v)=true:=by
    unfold zeV bV bh vE;rw[anh,aob,aob];constructor
    ·intro e;have e1:=yv (congrArg Prod.fst e);have e2:=yv (congrArg Prod.snd e);dsimp only;rw[e1,e2];exact⟨by grind,by grind⟩
    ·intro ⟨e1,e2⟩;dsimp only at e1 e2;rw[show v.1=(ctr (ciC c)).1 by grind,show v.2=(ctr (ciC c)).2 by grind]
   unfold oR;rw[ha,cond_true];cases hz:zeV (bV c v)
   ·rw[am7 (fun e=>by rw[cz.1 e]at hz;cases hz),cond_false]
    have hw:witE c (vE v)=cf c (bV c v):=by
     rw[(UO h ha hz).2];show _=nF _ _ (vE (bh (ctr (ciC c)) v));rw[←XP];rfl
    rw[hw];cases cf c (bV c v)
    ·exact Lh hf ht v r
    ·rw[cond_true,cond_true,vR_mk]
     have dps:0<aY (bV c v) (bV c v):=by
      have:=vw hz;have:=jc (bV c v);grind
     have es:dsE (vE v) (vE (ctr (ciC c)))=of (aY (bV c v) (bV c v)):=by
      unfold dsE vE aY bV bh;rw[of_add,aG,aG,of_sub,of_sub]
     have su:=cQ (show 0≤aY (bV c v) (bV c v) by grind);rw[es,←su,JW (Ju dps) hq rfl hr0];unfold v2;have two:of (-2)= -2:=rfl;rw[two,afm,of_add,←su,uz (by grind) (by grind)]
   ·rw[am5 (cz.2 hz),cond_true]
    have tw:cf c (bV c v)=true:=by
     unfold cf;rw[ha,hz];rfl
    have dz:aY (bV c v) (bV c v)=0:=by
     unfold zeV at hz;obtain⟨a,b⟩:=anh.1 hz;unfold aY;rw[am8 a,am8 b];decide+kernel
    rw[tw,cond_true,vR_mk,dz,Rat.zero_mul,Rat.zero_add];unfold v2;rw[IB,mul_zero,add_zero,←of_sub,sg_of,ta]
end RE
end
section
namespace RE
theorem Q5{c:Cv}(ha:c.1=false):onE c=qb (lnC c) (pR (frC c)) (pR (toC c)):=by funext p;unfold onE;rw[ha];rfl
theorem MU{c:Cv}(ha:c.1=true):onE c=arcE (ciC c) (pR (ccF c)) (pR (ccT c)):=by funext p;unfold onE;rw[anB ha]
structure akO (c:Cv):Prop where
 q:0<(ciC c).2.2
 u:gC (ciC c) (pR (ccF c))
 w:gC (ciC c) (pR (ccT c))
 ne:frm (ciC c) (pR (ccF c))≠frm (ciC c) (pR (ccT c))
theorem ago{c:Cv}(h:GdE c)(ha:c.1=true):akO c:=by
 have hf:=h.f;have ht:=h.t;obtain⟨hq,oF,oT⟩:=h.q ha;have oF:gC (ciC c) (pR (frC c)):=oF;have oT:gC (ciC c) (pR (toC c)):=oT;refine⟨hq,by rcases xu c with⟨e,_⟩|⟨e,_⟩<;>rw[e]<;>assumption,by rcases xu c with⟨_,e⟩|⟨_,e⟩<;>rw[e]<;>assumption,fun e=>?_⟩;have e1:pR (ccF c)=pR (ccT c):=aoq (jA _ _ _ (congrArg Prod.fst e)) (jA _ _ _ (congrArg Prod.snd e));rcases xu c with⟨g1,g2⟩|⟨g1,g2⟩<;>rw[g1,g2]at e1
 ·exact h.ne e1
 ·exact h.ne e1.symm
theorem F4(c:Ln)(p:PE):dtE (frm c p) (frm c p)=dsE p (vE (ctr c)):=rfl
theorem ahT(p q:PE):0≤dsE p q:=by
 have h1:=fo (p.1-q.1);have h2:=fo (p.2-q.2);unfold dsE;grind
theorem ada{c:Ln}(hq:0<c.2.2){p:PE}(hp:p≠vE (ctr c)):∃u k q,0<u∧0<k∧u*u=dsE p (vE (ctr c))∧frm c q=((frm c p).1*k,(frm c p).2*k)∧gC c q∧dtE (frm c q) (frm c p)=u*rq c.2.2:=by
 have hn:=ahT p (vE (ctr c))
 have h0:dsE p (vE (ctr c))≠0:=fun e=>by
  obtain⟨a,b⟩:=tF e;exact hp (aoq (by grind) (by grind))
 have hu:=sI hn;have hu0:=jD (dsE p (vE (ctr c)));generalize vY (dsE p (vE (ctr c)))=u at hu hu0
 have up:0<u:=by
  rcases fS hu0 with h|h
  ·exact h
  ·exact absurd (by rw[←hu,h,zero_mul]) h0
 obtain⟨k,kp,ek⟩:=NA up;have tp:=Ju hq;have tt:=cQ (m:=c.2.2) (by grind);have hd:dtE (frm c p) (frm c p)=u*u:=by rw[F4,hu]
 unfold dtE at hd;refine⟨u,rq c.2.2*k,((frm c p).1*(rq c.2.2*k)+of c.1,(frm c p).2*(rq c.2.2*k)+of c.2.1),up,mul_pos tp kp,hu,?_,?_,?_⟩
 ·exact aoq (by show _+_-_=_;grind) (by show _+_-_=_;grind)
 ·show(_+_-_)*(_+_-_)+(_+_-_)*(_+_-_)=_;generalize (frm c p).1=a at hd ⊢;generalize (frm c p).2=b at hd ⊢;generalize rq c.2.2=t at tt ⊢;have:(a*(t*k))*(a*(t*k))+(b*(t*k))*(b*(t*k))=(a*a+b*b)*(k*k)*(t*t):=by grind
  have e2:u*u*(k*k)=1:=by
   have:u*u*(k*k)=(u*k)*(u*k):=by grind
   rw[this,ek,one_mul]
  rw[hd,e2,tt]at this;grind
 ·show(_+_-_)*_+(_+_-_)*_=_;generalize (frm c p).1=a at hd ⊢;generalize (frm c p).2=b at hd ⊢;generalize rq c.2.2=t at tt ⊢;have:(a*(t*k))*a+(b*(t*k))*b=(a*a+b*b)*(k*t):=by grind
  have e2:u*u*(k*t)=u*t*(u*k):=by grind
  rw[hd,e2,ek]at this;grind
theorem afN{c:Ln}{q p:PE}{u:RE}(hq:0≤c.2.2)(o:gC c q)(hu:0≤u)(e:u*u=dsE p (vE (ctr c))):dtE (frm c q) (frm c p)≤u*rq c.2.2:=by
 have h1:=FV (frm c q).1 (frm c q).2 (frm c p).1 (frm c p).2;have h2:(frm c q).1*(frm c q).1+(frm c q).2*(frm c q).2=of c.2.2:=o;have h3:(frm c p).1*(frm c p).1+(frm c p).2*(frm c p).2=u*u:=by rw[e];rfl
 have tt:=cQ hq;have t0:=eT c.2.2;rw[h2,h3,←tt]at h1;have h4:=QR _ _ _ h1;rcases lt_or_ge 0 (dtE (frm c q) (frm c p))with g|g
 ·exact sO _ _ (le_of_lt g) (bg hu t0) (by
   show dtE _ _*dtE _ _≤_;unfold dtE;grind)
 ·exact aia _ _ g (bg hu t0)
open Classical in
theorem LS{c:Cv}(h:GdE c)(p:PE):∃m,Mn (onE c) p m∧∀r:Rat,0≤r→poiE c p r=sg (m-of (r*r)):=by
 have hf:=h.f;have ht:=h.t;have hend:∀r,VF c p r=sg (mnE (dsE (pR (frC c)) p) (dsE (pR (toC c)) p)-of (r*r)):=fun r=>LI _ _ _;cases ha:c.1
 ·obtain⟨hl,oF,oT⟩:=h.l ha;have hn:0<nrE (lnC c):=FF hl;rw[Q5 ha];by_cases hb:btE (tE (lnC c) (pR (frC c))) (tE (lnC c) (pR (toC c))) (tE (lnC c) p)
  ·obtain⟨k,kp,ek⟩:=NA hn;refine⟨_,Ce hn hb kp ek,fun r hr=>?_⟩;unfold poiE besE;rw[dF (show ¬r<0 by grind),dT hb,ha];show sg _=_;rw[←mE hn (_-of (r*r)),aG (r*r),P5,ek,mul_one];rfl
  ·refine⟨_,UD hn oF oT hb,fun r hr=>?_⟩;unfold poiE besE;rw[dF (show ¬r<0 by grind),dF hb,ha];exact hend r
 ·have g:=ago h ha;have hq:=g.q;rw[MU ha];by_cases hz:p=vE (ctr (ciC c))
  ·refine⟨of (ciC c).2.2,⟨⟨_,⟨g.u,(oZ _ _).1⟩,by rw[hz];exact g.u⟩,fun q hq=>by rw[hz];exact lT hq.1⟩,fun r hr=>?_⟩;unfold poiE;rw[dF (show ¬r<0 by grind),dT hz,ha];show aD _ _=_;rw[←of_sub,sg_of];unfold aD;grind
  ·obtain⟨u,k,q,up,kp,eu,eq,oq,dq⟩:=ada hq hz;have tt:=cQ (m:=(ciC c).2.2) (by grind);cases hw:witE c p
   ·refine⟨mnE (dsE (pR (frC c)) p) (dsE (pR (toC c)) p),?_,fun r hr=>?_⟩
    ·have hd:¬nF (frm (ciC c) (pR (ccF c))) (frm (ciC c) (pR (ccT c))) (frm (ciC c) p)=true:=fun e=>by
      unfold witE at hw;rw[e]at hw;cases hw
     have res:=Jt (v:=p) (S:=arcE (ciC c) (pR (ccF c)) (pR (ccT c))) ⟨g.u,(oZ _ _).1⟩ ⟨g.w,(oZ _ _).2⟩ (fun x hx=>(V9 g.u g.w hx.1 g.ne hx.2 hd).imp (MA hx.1 g.u) (MA hx.1 g.w));rcases xu c with⟨g1,g2⟩|⟨g1,g2⟩
     ·rw[g1,g2]at res ⊢;exact res
     ·rw[g1,g2]at res ⊢;rw[P9];exact res
    ·unfold poiE;rw[dF (show ¬r<0 by grind),dF hz,ha,hw];exact hend r
   ·refine⟨u*u+of (ciC c).2.2-(u*rq (ciC c).2.2+u*rq (ciC c).2.2),⟨⟨q,⟨oq,?_⟩,?_⟩,fun x hx=>?_⟩,fun r hr=>?_⟩
    ·rw[eq,zq _ _ _ kp];exact hw
    ·rw[xZ oq,dq,F4,←eu,add_comm (of _)]
    ·rw[xZ hx.1,F4,←eu,add_comm (of (ciC c).2.2)];exact Z2 _ _ _ _ (afN (by grind) hx.1 (le_of_lt up) eu)
    ·unfold poiE;rw[dF (show ¬r<0 by grind),dF hz,ha,hw,←JW up hq rfl hr,eu];rfl
end RE
end
end Go.Proofs.YtnkndpoojnflmaaGreat
end
