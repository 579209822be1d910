/- The distance of any point: the program's Point. -/
import Derived.Test.YtnkndpoojnflmaaGreatF14
import Derived.Test.YtnkndpoojnflmaaGreatF15
import Derived.Test.YtnkndpoojnflmaaGreatF16
noncomputable section
namespace Go.Proofs.YtnkndpoojnflmaaGreat
open Go.RowKit Go.IntKind
theorem ao9:type_of% @List.not_mem_nil:=@List.not_mem_nil
theorem aqn:type_of% @decide_not:=@decide_not
section
instance amY {a b c d e f:Rat} {i1 i2 i3 i4 i5 i6:Nat} [h1:Bd a i1] [h2:Bd b i2] [h3:Bd c i3] [h4:Bd d i4] [h5:Bd e i5] [h6:Bd f i6]:Bd ((a,b,c,d,e,f):Qd) (mx i1 (mx i2 (mx i3 (mx i4 (mx i5 i6))))):=inferInstance
instance akU {p:Pt} {v:Rat×Rat} {j k:Nat} [h:Bd p j] [h':Bd v k]:Bd (rcX p v) (j+k+1):=by
 have a:Bd (p.1-v.1) _:=inferInstance;have b:Bd p.2.1 j:=inferInstance;have i:Bd ((p.1-v.1,p.2.1):Rat×Rat) _:=inferInstance;exact i.mono (cL (by omega) (by omega))
instance akN {p:Pt} {v:Rat×Rat} {j k:Nat} [h:Bd p j] [h':Bd v k]:Bd (rcY p v) (j+k+1):=by
 have a:Bd (p.2.2.1-v.2) _:=inferInstance;have b:Bd p.2.2.2.1 j:=inferInstance;have i:Bd ((p.2.2.1-v.2,p.2.2.2.1):Rat×Rat) _:=inferInstance;exact i.mono (cL (by omega) (by omega))
instance amo {p q:Pt} {j k:Nat} [h:Bd p j] [h':Bd q k]:Bd (noQ p q) (j+k):=by
 have hj:1≤j:=nv (show bdR j p.1 from(inferInstance:Bd p.1 j).le);have z:Bd (0:Rat) (j+k):=⟨bK lS.le (by omega)⟩
 have a:Bd p.2.2.2.2 (j+k):=(inferInstance:Bd p.2.2.2.2 j).mono (by omega);have b:Bd q.2.2.2.2 (j+k):=(inferInstance:Bd q.2.2.2.2 k).mono (by omega);have i:Bd ((0,0,0,0,p.2.2.2.2,q.2.2.2.2):Qd) _:=inferInstance;have e:∀n,mx n n=n:=fun n=>by unfold mx;rw[am5 (anb n)];rfl
 simp only[e]at i;exact i
instance akH {q:Qd} {x y:Rat×Rat} {s:Rat} {i j k l:Nat} [h:Bd q i] [h1:Bd x j] [h2:Bd y k] [h3:Bd s l]:Bd (prQ q x y s) (i+l+j+k+1):=by
 have a1:Bd (q.1+s*(x.1*y.1)) (i+(l+(j+k))+1):=inferInstance;have a2:Bd (q.2.1+s*(x.2*y.1)) (i+(l+(j+k))+1):=inferInstance;have a3:Bd (q.2.2.1+s*(x.1*y.2)) (i+(l+(j+k))+1):=inferInstance;have a4:Bd (q.2.2.2.1+s*(x.2*y.2)) (i+(l+(j+k))+1):=inferInstance;have a5:Bd q.2.2.2.2.1 (i+(l+(j+k))+1):=(inferInstance:Bd q.2.2.2.2.1 i).mono (by omega);have a6:Bd q.2.2.2.2.2 (i+(l+(j+k))+1):=(inferInstance:Bd q.2.2.2.2.2 i).mono (by omega);have i6:Bd ((q.1+s*(x.1*y.1),q.2.1+s*(x.2*y.1),q.2.2.1+s*(x.1*y.2),q.2.2.2.1+s*(x.2*y.2),q.2.2.2.2.1,q.2.2.2.2.2):Qd) _:=inferInstance;have e:∀n,mx n n=n:=fun n=>by unfold mx;rw[am5 (anb n)];rfl
 simp only[e]at i6;exact i6.mono (by omega)
theorem Mp{q:Qd}{k:Nat}[h:Bd q k](hk:k≤6000)(h5:0≤q.2.2.2.2.1)(h6:0≤q.2.2.2.2.2):decide (okQ (enc q))=true:=by
 have n5:Nn q.2.2.2.2.1:=⟨h5⟩
 have n6:Nn q.2.2.2.2.2:=⟨h6⟩
 show decide (okQ (enc ((q.1,q.2.1,q.2.2.1,q.2.2.2.1,q.2.2.2.2.1,q.2.2.2.2.2):Qd)))=true;exact rn (a:=k) (b:=k) (c:=k) (d:=k) (m:=k) (n:=k) (by omega) (by omega) (by omega) (by omega) (by omega) (by omega)
instance amQ:Bd z2 1:=(inferInstance:Bd ((0,0):Rat×Rat) _)
theorem amr(p:Pt)(v:Rat×Rat):(sqP p v).1=sqA p v:=by
 show(coR (sqA p v) (sqB p v) p.2.2.2.2).1=_;unfold coR;cases decide (sqB p v=0)<;>rfl
theorem abi(p:Pt)(v:Rat×Rat):(sqP p v).2.1=sqB p v:=by
 show(coR (sqA p v) (sqB p v) p.2.2.2.2).2.1=_;unfold coR;by_cases e:sqB p v=0
 ·rw[am5 e,e];rfl
 ·rw[am7 e];rfl
theorem Xw(p:Pt)(v:Rat×Rat):(sqP p v).2.1=0∨(sqP p v).2.2=p.2.2.2.2:=by
 show(coR (sqA p v) (sqB p v) p.2.2.2.2).2.1=0∨(coR (sqA p v) (sqB p v) p.2.2.2.2).2.2=_;unfold coR;cases decide (sqB p v=0)
 ·exact .inr rfl
 ·exact .inl rfl
theorem adF{p q:Pt}{r:Rat}[bp:Bd p 580][bq:Bd q 580][br:Bd r 1000](hp:0≤p.2.2.2.2)(hq:0≤q.2.2.2.2):decide (okQ (enc (apQ p q r)))=true:=by
 have n1:Nn p.2.2.2.2:=⟨hp⟩
 have n2:Nn q.2.2.2.2:=⟨hq⟩
 have b2:Bd (-2:Rat) 3:=bS (n:= -2) (by decide);have bD:Bd (doQ z2 p q) 3496:=(inferInstance:Bd (prQ (prQ (noQ p q) (rcX p z2) (rcX q z2) (-2)) (rcY p z2) (rcY q z2) (-2)) _).mono (by decide);have bA:Bd ((doQ z2 p q).1+(sqA p z2+sqA q z2)-r*r) _:=inferInstance;have bB:Bd ((doQ z2 p q).2.1+sqB p z2) _:=inferInstance;have bC:Bd ((doQ z2 p q).2.2.1+sqB q z2) _:=inferInstance;have bE:Bd (doQ z2 p q).2.2.2.1 3496:=inferInstance;exact rn (h1:=bA) (h2:=bB) (h3:=bC) (h4:=bE) (by decide) (by decide) (by decide) (by decide) (by decide) (by decide)
namespace RE
theorem ai7(a b c d:RE):a*d-b*c= -(c*b-d*a):=by grind
theorem Ou(u w:PE):crs u w= -crs w u:=ai7 _ _ _ _
theorem turS_anti(v:Rat×Rat)(p q:PE):turS v p q= -turS v q p:=by
 unfold turS;rw[Ou,pD]
theorem wit_eq(c:Cv)(p:PE):witE c p=AW (turS (ctr (ciC c)) (pR (ccF c)) (pR (ccT c))) (turS (ctr (ciC c)) (pR (ccF c)) p) (turS (ctr (ciC c)) p (pR (ccT c))):=rfl
theorem wit_go(a b c:Int):(match decide (a≥0)with|true=>(match decide (b≥0)with|true=>some [RV.d .bool (decide (c≥0))]|false=>some [RV.d .bool false])|false=>(match decide (-c≤0)with|true=>some [RV.d .bool true]|false=>some [RV.d .bool (decide (-b≤0))]))=some [RV.d .bool (AW a b c)]:=by
 have h1:decide (-c≤0)=decide (0≤c):=anI.2 (by omega);have h2:decide (-b≤0)=decide (0≤b):=anI.2 (by omega);have h3:decide (c<0)=!decide (0≤c):=by rw[←aqn];exact anI.2 (by omega)
 have h4:decide (b<0)=!decide (0≤b):=by rw[←aqn];exact anI.2 (by omega)
 unfold AW;simp only[h1,h2,h3,h4,ge_iff_le];cases decide (0≤a)<;>cases decide (0≤b)<;>cases decide (0≤c)<;>rfl
open Classical in
theorem bes_E{c:Cv}[hf:Rpd (frC c)][ht:Rpd (toC c)]{p:Pt}[hp:Rpd p]:besE c (pR p)=ul c p:=by
 unfold besE;rw[ao6,aob];exact Dq.symm
theorem min_if(a b:Int):(if b<a then b else a)=min a b:=by
 split<;>omega
theorem wr_sg(x:RE):i64.wrap (0-sg x)= -sg x:=by
 rcases bi x with⟨_,e⟩|⟨_,e⟩|⟨_,e⟩<;>rw[e]<;>rfl
theorem aeQ(a b m t:RE):a*a+m*(b*b)+2*(a*b)*t=(a+b*t)*(a+b*t)+(m-t*t)*(b*b):=by grind
theorem RW(A B C x y z w t:RE):A*x+B*y-C+(A*z+B*w)*t=A*(x+z*t)+B*(y+w*t)-C:=by grind
theorem vR_lin(l:Ln){p:Pt}[hp:Rpd p]:vR (mkR (ka l p*ka l p+p.2.2.2.2*(ke l p*ke l p)) (2*(ka l p*ke l p)) p.2.2.2.2)=exE l (pR p)*exE l (pR p):=by
 have e:exE l (pR p)=of (ka l p)+of (ke l p)*rq p.2.2.2.2:=by
  unfold exE pR pX pY v2 ka ke;dsimp only;rw[of_sub,of_add,of_add,aG,aG,aG,aG,RW]
 have two:of 2=2:=rfl;rw[vR_mk,e];unfold v2;rw[of_add,aG,aG,aG,aG,aG,two,aeQ,cQ hp.nn,sub_self,zero_mul,add_zero]
theorem sq_zr{p:Pt}[hp:Rpd p]{v:Rat×Rat}:(sgR (sqP p v)==0)=true↔pR p=vE v:=by
 have hr:Rdd (sqP p v):=inferInstance;rw[E7 hr.nn,an3,pC,vR_sq];constructor
 ·intro e;obtain⟨a,b⟩:=tF e;exact aoq (fZ _ _ a) (fZ _ _ b)
 ·intro e;rw[e];unfold dsE;rw[sub_self,sub_self,mul_zero,add_zero]
end RE
def abK:List En:=[⟨41,fM,dW⟩,enL afx]
def YO(r:BO3)(_k:KT):OLR:=match decide (okR r.1)with|true=>(match decide (okR r.2.1)with|true=>(match(aD (ae r.2.1) 0)==0 with|true=>some [RV.d aqt (aD (ae r.1) 0)]|false=>(match(aD (ae r.1) 0)==(aD (ae r.2.1) 0)with|true=>some [RV.d aqt (aD (ae r.1) 0)]|false=>(match(aD (ae r.1) 0)==0 with|true=>some [RV.d aqt (aD (ae r.2.1) 0)]|false=>(match decide (ok Rt 15000 r)with|true=>(match decide (okR (hid (aj (noR (dec r)))))with|true=>some [RV.d aqt (i64.wrap ((aD (ae r.1) 0)*(aD (ae (hid (aj (noR (dec r))))) 0)))]|false=>none)|false=>none))))|false=>none)|false=>none
def ag1:Cn 103 [tO]:=cn fun(r:BO3)=>lf (okT 15000 r) [.d aqt (sgR (dec r))] fun h=>by
 refine aA abK (YO r) ⟨0,?_⟩;have hr:=h;obtain⟨r,rfl,br,rr⟩:=fH hr;unfold YO;simp only[bJ,az,te,Br,dQ,co,okd,JP,Nat.reduceAdd,Nat.reduceMul,Nat.reduceLeDiff,Bp (je _ _) (je _ _)];rw[Y4 rr];cases aD r.2.1 0==0
 ·cases aD r.1 0==aD r.2.1 0
  ·cases aD r.1 0==0<;>rfl
  ·rfl
 ·rfl
def Bg:List En:=[⟨41,fM,dW⟩,⟨109,kH,gH⟩,⟨99,iy,fi⟩,⟨108,gV,eU⟩,⟨73,mr,iu⟩,⟨107,iS,fB⟩,⟨106,iE,ff⟩,enL WO,enL Nr,enL Ag,enL Yn,enT Er,enT Qr,enL Si,enL HQ,enL QX,enL Xp,enL aa1,enT ZM,enT Lo,enT ag1]
def Yu(p:BP)(v:BV)(_k:KT):OLR:=ck (og (o2 p.1 v.1) (ck (og (o2 p.2.2.1 v.2) (dup (.b .l .l) (some [RV.d tV (hSu p.1 v.1,p.2.1),RV.d tV (hSu p.2.2.1 v.2,p.2.2.2.1)]))) (og (o2 p.2.2.1 v.2) (some [RV.d tV (hSu p.1 v.1,p.2.1),RV.d tV (hSu p.2.2.1 v.2,p.2.2.2.1)])))) (og (o2 p.1 v.1) (og (o2 p.2.2.1 v.2) (some [RV.d tV (hSu p.1 v.1,p.2.1),RV.d tV (hSu p.2.2.1 v.2,p.2.2.2.1)])))
def ajE:Cn 200 [tP,tV]:=cn fun(p:BP) (v:BV)=>lf (okP 580 p∧ok (Rat×Rat) 400 v) [.d tV (enc (rcX (dec p) (dec v))),.d tV (enc (rcY (dec p) (dec v)))] fun h=>by
 refine aA Bg (Yu p v) ⟨0,?_⟩;obtain⟨hp,hv⟩:=h;obtain⟨p,rfl,bp,rp⟩:=aZ hp;obtain⟨v,rfl,bv⟩:=aB hv;unfold Yu;simp only[aO,Nat.reduceLeDiff];try rfl
def ZZ(q:BQ)(x y:BV)(s:Int)(_k:KT):OLR:=og (decide (aH s)) (og (o2 x.1 y.1) (og (o2 (hid (aj (s:Rat))) (hMu x.1 y.1)) (og (o2 q.1 (hMu (hid (aj (s:Rat))) (hMu x.1 y.1))) (og (o2 x.2 y.1) (og (o2 (hid (aj (s:Rat))) (hMu x.2 y.1)) (og (o2 q.2.1 (hMu (hid (aj (s:Rat))) (hMu x.2 y.1))) (og (o2 x.1 y.2) (og (o2 (hid (aj (s:Rat))) (hMu x.1 y.2)) (og (o2 q.2.2.1 (hMu (hid (aj (s:Rat))) (hMu x.1 y.2))) (og (o2 x.2 y.2) (og (o2 (hid (aj (s:Rat))) (hMu x.2 y.2)) (og (o2 q.2.2.2.1 (hMu (hid (aj (s:Rat))) (hMu x.2 y.2))) (some [RV.d tQ (hAd q.1 (hMu (hid (aj (s:Rat))) (hMu x.1 y.1)),(hAd q.2.1 (hMu (hid (aj (s:Rat))) (hMu x.2 y.1)),(hAd q.2.2.1 (hMu (hid (aj (s:Rat))) (hMu x.1 y.2)),(hAd q.2.2.2.1 (hMu (hid (aj (s:Rat))) (hMu x.2 y.2)),q.2.2.2.2))))])))))))))))))
def aj6:Cn 201 [tQ,tV,tV,aqt]:=cn fun(q:BQ) (x y:BV) (s:Int)=>lf (ok Qd 12000 q∧ok (Rat×Rat) 2500 x∧ok (Rat×Rat) 2500 y∧aH s) [.d tQ (enc (prQ (dec q) (dec x) (dec y) (s:Rat)))] fun h=>by
 refine aA Bg (ZZ q x y s) ⟨0,?_⟩;obtain⟨hq,hx,hy,hs⟩:=h;obtain⟨q,rfl,bq⟩:=aB hq;obtain⟨x,rfl,bx⟩:=aB hx;obtain⟨y,rfl,b_y⟩:=aB hy;have bs:=bS hs;unfold ZZ;simp only[aO,Nat.reduceAdd,Nat.reduceLeDiff,dT hs];try rfl
def XW(p q:BP)(_k:KT):OLR:=og (decide (aH (0:Int))) (some [RV.d tQ (hid (aj ((0:Int):Rat)),(hid (aj ((0:Int):Rat)),(hid (aj ((0:Int):Rat)),(hid (aj ((0:Int):Rat)),(p.2.2.2.2,q.2.2.2.2)))))])
def ae3:Cn 202 [tP,tP]:=cn fun(p q:BP)=>lf (okP 580 p∧okP 580 q) [.d tQ (enc (noQ (dec p) (dec q)))] fun h=>by
 refine aA Bg (XW p q) ⟨0,?_⟩;obtain⟨hp,hq⟩:=h;obtain⟨p,rfl,bp,rp⟩:=aZ hp;obtain⟨q,rfl,bq,rq⟩:=aZ hq;unfold XW;simp only[aO,dT (show aH 0 by decide)];try rfl
def AY:List En:=enL ajE::enL aj6::enL ae3::Bg
def W2(v:BV)(p q:BP)(_k:KT):OLR:=og (decide (okP 580 p∧ok (Rat×Rat) 400 v)) (og (decide (okP 580 q∧ok (Rat×Rat) 400 v)) (og (decide (okP 580 p∧okP 580 q)) (og (decide (ok Qd 12000 (hid (enc (noQ (dec p) (dec q))))∧ok (Rat×Rat) 2500 (hid (enc (rcX (dec p) (dec v))))∧ok (Rat×Rat) 2500 (hid (enc (rcY (dec q) (dec v))))∧aH (1:Int))) (og (decide (ok Qd 12000 (hid (enc (prQ (dec (hid (enc (noQ (dec p) (dec q))))) (dec (hid (enc (rcX (dec p) (dec v))))) (dec (hid (enc (rcY (dec q) (dec v))))) ((1:Int):Rat))))∧ok (Rat×Rat) 2500 (hid (enc (rcY (dec p) (dec v))))∧ok (Rat×Rat) 2500 (hid (enc (rcX (dec q) (dec v))))∧aH ((-1):Int))) (og (decide (okQ (hid (enc (prQ (dec (hid (enc (prQ (dec (hid (enc (noQ (dec p) (dec q))))) (dec (hid (enc (rcX (dec p) (dec v))))) (dec (hid (enc (rcY (dec q) (dec v))))) ((1:Int):Rat))))) (dec (hid (enc (rcY (dec p) (dec v))))) (dec (hid (enc (rcX (dec q) (dec v))))) (((-1):Int):Rat)))))) (some [RV.d aqt (sgQ (dec (hid (enc (prQ (dec (hid (enc (prQ (dec (hid (enc (noQ (dec p) (dec q))))) (dec (hid (enc (rcX (dec p) (dec v))))) (dec (hid (enc (rcY (dec q) (dec v))))) ((1:Int):Rat))))) (dec (hid (enc (rcY (dec p) (dec v))))) (dec (hid (enc (rcX (dec q) (dec v))))) (((-1):Int):Rat))))))]))))))
def afI:Cn 213 [tV,tP,tP]:=cn fun(v:BV) (p q:BP)=>lf (ok (Rat×Rat) 400 v∧okP 580 p∧okP 580 q) [.d aqt (RE.turS (dec v) (RE.pR (dec p)) (RE.pR (dec q)))] fun h=>by
 refine aA AY (W2 v p q) ⟨0,?_⟩;obtain⟨hv,hp,hq⟩:=h;obtain⟨v,rfl,bv⟩:=aB hv;obtain⟨p,rfl,bp,rp⟩:=aZ hp;obtain⟨q,rfl,bq,rq⟩:=aZ hq;have h1:decide (aH 1)=true:=by decide
 have h2:decide (aH (-1))=true:=by decide
 have c1:((1:Int):Rat)=1:=rfl;have c2:((-1:Int):Rat)= -1:=rfl;have b1:Bd (1:Rat) 3:=bS (n:=1) (by decide);have b2:Bd (-1:Rat) 3:=bS (n:= -1) (by decide);have n1:Bd (prQ (prQ (noQ p q) (rcX p v) (rcY q v) 1) (rcY p v) (rcX q v) (-1)) _:=inferInstance;have o1:decide (okQ (enc (prQ (prQ (noQ p q) (rcX p v) (rcY q v) 1) (rcY p v) (rcX q v) (-1))))=true:=Mp (k:=6000) (h:=n1.mono (by decide)) (by decide) rp.nn rq.nn;unfold W2;simp only[aO,Nat.reduceAdd,Nat.reduceLeDiff,aJ,h1,h2,c1,c2,o1];rw[←RE.crQ_re];rfl
def YP(a:BO3)(c:BR)(_k:KT):OLR:=og (o1 a.2.1) (match(aD (ae a.2.1) 0)==0 with|true=>some [RV.d tR a.2.1]|false=>(og (o2 a.2.2 c) (match(aD (ae a.2.2) (ae c))==0 with|true=>some [RV.d tR a.2.1]|false=>(og (decide (ij a.2.2 c)) (og (o1 (hDi a.2.2 c)) (match !(fE (ae (hDi a.2.2 c)))with|true=>some [RV.d tR a.2.1]|false=>(og (o2 a.2.1 (hid (rtB (ae (hDi a.2.2 c))))) (some [RV.d tR (hMu a.2.1 (hid (rtB (ae (hDi a.2.2 c)))))]))))))))
def ah0:Cn 203 [tO,tR]:=cn fun(a:BO3) (c:BR)=>lf (okT 15000 a∧ok Rat 15000 c∧((dec a:Rt).2.1=0∨(dec a:Rt).2.2=ae c)) [.d tR (aj (dec a:Rt).2.1)] fun h=>by
 refine aA AY (YP a c) ⟨0,?_⟩;obtain⟨ha,hc,h⟩:=h;obtain⟨a,rfl,ba,ra⟩:=fH ha;obtain⟨c,rfl,bc⟩:=aB hc;rw[az,dQ,co]at h;unfold YP;simp only[aO,Nat.reduceAdd,Nat.reduceLeDiff,ao];by_cases e:a.2.1=0
 ·rw[dT e]
 ·rw[dF e,dT (h.resolve_left e)]
def Zt(d:BO3)(q r:BR)(_k:KT):OLR:=og (o2 r r) (og (o2 q (hMu r r)) (og (o2 r r) (og (decide (ok Rat 100000 (hAd q (hMu r r))∧ok Rat 100000 (hAd r r)∧ok Rat 100000 q∧0≤ae q)) (og (decide (okT 15000 d∧okT 15000 (hid (enc (mkR (ae (hAd q (hMu r r))) (ae (hAd r r)) (ae q)))))) (match decide ((aW (dec d) (dec (hid (enc (mkR (ae (hAd q (hMu r r))) (ae (hAd r r)) (ae q))))))≥0)with|true=>some [RV.d aqt (aW (dec d) (dec (hid (enc (mkR (ae (hAd q (hMu r r))) (ae (hAd r r)) (ae q))))))]|false=>(og (o2 r r) (og (o2 q (hMu r r)) (match decide ((aD (ae q) (ae (hMu r r)))≤0)with|true=>some [RV.d aqt (-1)]|false=>(og (o1 (hAd r r)) (og (decide (ok Rat 100000 (hAd q (hMu r r))∧ok Rat 100000 (hNe (hAd r r))∧ok Rat 100000 q∧0≤ae q)) (og (decide (okT 15000 d∧okT 15000 (hid (enc (mkR (ae (hAd q (hMu r r))) (ae (hNe (hAd r r))) (ae q)))))) (some [RV.d aqt (i64.wrap (0-(aW (dec d) (dec (hid (enc (mkR (ae (hAd q (hMu r r))) (ae (hNe (hAd r r))) (ae q))))))))]))))))))))))
def aif:Cn 105 [tO,tR,tR]:=cn fun(d:BO3) (q r:BR)=>lf (okT 15000 d∧ok Rat 1000 q∧ok Rat 1000 r∧0≤ae q) [.d aqt (RE.rngS (RE.vR (dec d)) (ae q) (ae r))] fun h=>by
 refine aA AY (Zt d q r) ⟨0,?_⟩;obtain⟨hd,hq,hr,hn⟩:=h;obtain⟨d,rfl,bd,rd⟩:=fH hd;obtain⟨q,rfl,bq⟩:=aB hq;obtain⟨r,rfl,br⟩:=aB hr;rw[dQ,co]at hn;have nq:Nn q:=⟨hn⟩
 have m:∀a b,aW d (mkR a b q)=RE.sg (RE.vR d-RE.v2 a b q):=fun a b=>by
  rw[RE.cmpT_re rd.nn (o8 (a:=a) (b:=b) (c:=q)).nn,RE.vR_mk]
 unfold Zt RE.rngS;simp only[aO,Nat.reduceAdd,Nat.reduceLeDiff,aI,dT hn,m,ge_iff_le,RE.wr_sg];cases decide (0≤RE.sg (RE.vR d-RE.v2 (q+r*r) (r+r) q))
 ·cases decide (aD q (r*r)≤0)<;>rfl
 ·rfl
def Gl:List En:=enT afI::enL ah0::enT aif::AY
def YA(p q:BP)(r:BR)(_k:KT):OLR:=let y1:=aj ((0:Int):Rat);let y2:=hid (enc (noQ (dec p) (dec q)));let y3:=dec (hid y1,hid y1);let y4:=hid (enc (rcX (dec p) y3));let y5:=hid (enc (rcX (dec q) y3));let y6:=hid (enc (prQ (dec y2) (dec y4) (dec y5) (((-2):Int):Rat)));let y7:=hid (enc (rcY (dec p) y3));let y8:=hid (enc (rcY (dec q) y3));let y9:=hid (enc (sqP (dec p) y3));let y10:=hid (enc (sqP (dec q) y3));let y11:=hid (enc (prQ (dec y6) (dec y7) (dec y8) (((-2):Int):Rat)));let y12:=hAd (y9.1) (y10.1);let y13:=hid (aj (dec y9:Rt).2.1);let y14:=hid (aj (dec y10:Rt).2.1);og (decide (aH (0:Int))) (og (decide (aH (0:Int))) (og (decide (okP 580 p∧ok (Rat×Rat) 400 (hid y1,hid y1))) (og (decide (okP 580 q∧ok (Rat×Rat) 400 (hid y1,hid y1))) (og (decide (okP 580 p∧okP 580 q)) (og (decide (ok Qd 12000 y2∧ok (Rat×Rat) 2500 y4∧ok (Rat×Rat) 2500 y5∧aH ((-2):Int))) (og (decide (ok Qd 12000 y6∧ok (Rat×Rat) 2500 y7∧ok (Rat×Rat) 2500 y8∧aH ((-2):Int))) (og (decide (okP 3500 p∧ok (Rat×Rat) 300 (hid y1,hid y1))) (og (decide (okP 3500 q∧ok (Rat×Rat) 300 (hid y1,hid y1))) (og (o2 (y9.1) (y10.1)) (og (o2 (y11.1) y12) (og (o2 r r) (og (o2 (hAd (y11.1) y12) (hMu r r)) (og (decide (okT 15000 y9∧ok Rat 15000 p.2.2.2.2∧((dec y9:Rt).2.1=0∨(dec y9:Rt).2.2=ae p.2.2.2.2))) (og (o2 ((y11.2).1) y13) (og (decide (okT 15000 y10∧ok Rat 15000 q.2.2.2.2∧((dec y10:Rt).2.1=0∨(dec y10:Rt).2.2=ae q.2.2.2.2))) (og (o2 (((y11.2).2).1) y14) (og (decide (okQ (hSu (hAd (y11.1) y12) (hMu r r),(hAd ((y11.2).1) y13,(hAd (((y11.2).2).1) y14,((y11.2).2).2))))) (some [RV.d aqt (sgQ (dec (hSu (hAd (y11.1) y12) (hMu r r),(hAd ((y11.2).1) y13,(hAd (((y11.2).2).1) y14,((y11.2).2).2)))))]))))))))))))))))))
def aju:Cn 93 [tP,tP,tR]:=cn fun(p q:BP) (r:BR)=>lf (okP 580 p∧okP 580 q∧ok Rat 1000 r) [.d aqt (RE.apaS (RE.pR (dec p)) (RE.pR (dec q)) (ae r))] fun h=>by
 refine aA Gl (YA p q r) ⟨0,?_⟩;obtain⟨hp,hq,hr⟩:=h;obtain⟨p,rfl,bp,rp⟩:=aZ hp;obtain⟨q,rfl,bq,rq⟩:=aZ hq;obtain⟨r,rfl,br⟩:=aB hr;have h0:decide (aH 0)=true:=by decide
 have h2:decide (aH (-2))=true:=by decide
 have c2:((-2:Int):Rat)= -2:=rfl;have b2:Bd (-2:Rat) 3:=bS (n:= -2) (by decide);have hz:((aj ((0:Int):Rat),aj ((0:Int):Rat)):BV)=enc z2:=rfl;have o1:=adF (p:=p) (q:=q) (r:=r) rp.nn rq.nn;unfold YA;simp only[aO,Nat.reduceAdd,Nat.reduceMul,Nat.reduceLeDiff,aI,aJ,h0,h2,c2,hz,dT (show sqB p z2=0∨(sqP p z2).2.2=p.2.2.2.2 by rw[←abi];exact Xw p z2),dT (show sqB q z2=0∨(sqP q z2).2.2=q.2.2.2.2 by rw[←abi];exact Xw q z2),amr,abi];show(match decide (okQ (enc (apQ p q r)))with|true=>some [RV.d aqt (sgQ (dec (enc (apQ p q r))))]|false=>none)=_;rw[az,o1,RE.apQ_re]
def Xi(c:BCU)(p:BP)(_k:KT):OLR:=match c.2.2.2.1 with|true=>(og (decide (ok (Rat×Rat) 400 (hid ((c.2.2.1.1,c.2.2.1.2.1)))∧okP 580 c.2.2.2.2.2∧okP 580 c.2.2.2.2.1)) (match decide ((RE.turS (dec (hid ((c.2.2.1.1,c.2.2.1.2.1)))) (RE.pR (dec c.2.2.2.2.2)) (RE.pR (dec c.2.2.2.2.1)))≥0)with|true=>(og (decide (ok (Rat×Rat) 400 (hid ((c.2.2.1.1,c.2.2.1.2.1)))∧okP 580 c.2.2.2.2.2∧okP 580 p)) (match decide ((RE.turS (dec (hid ((c.2.2.1.1,c.2.2.1.2.1)))) (RE.pR (dec c.2.2.2.2.2)) (RE.pR (dec p)))≥0)with|true=>(og (decide (ok (Rat×Rat) 400 (hid ((c.2.2.1.1,c.2.2.1.2.1)))∧okP 580 p∧okP 580 c.2.2.2.2.1)) (some [RV.d .bool (decide ((RE.turS (dec (hid ((c.2.2.1.1,c.2.2.1.2.1)))) (RE.pR (dec p)) (RE.pR (dec c.2.2.2.2.1)))≥0))]))|false=>some [RV.d .bool false]))|false=>(og (decide (ok (Rat×Rat) 400 (hid ((c.2.2.1.1,c.2.2.1.2.1)))∧okP 580 c.2.2.2.2.1∧okP 580 p)) (match decide ((RE.turS (dec (hid ((c.2.2.1.1,c.2.2.1.2.1)))) (RE.pR (dec c.2.2.2.2.1)) (RE.pR (dec p)))≤0)with|true=>some [RV.d .bool true]|false=>(og (decide (ok (Rat×Rat) 400 (hid ((c.2.2.1.1,c.2.2.1.2.1)))∧okP 580 p∧okP 580 c.2.2.2.2.2)) (some [RV.d .bool (decide ((RE.turS (dec (hid ((c.2.2.1.1,c.2.2.1.2.1)))) (RE.pR (dec p)) (RE.pR (dec c.2.2.2.2.2)))≤0))]))))))|false=>(og (decide (ok (Rat×Rat) 400 (hid ((c.2.2.1.1,c.2.2.1.2.1)))∧okP 580 c.2.2.2.2.1∧okP 580 c.2.2.2.2.2)) (match decide ((RE.turS (dec (hid ((c.2.2.1.1,c.2.2.1.2.1)))) (RE.pR (dec c.2.2.2.2.1)) (RE.pR (dec c.2.2.2.2.2)))≥0)with|true=>(og (decide (ok (Rat×Rat) 400 (hid ((c.2.2.1.1,c.2.2.1.2.1)))∧okP 580 c.2.2.2.2.1∧okP 580 p)) (match decide ((RE.turS (dec (hid ((c.2.2.1.1,c.2.2.1.2.1)))) (RE.pR (dec c.2.2.2.2.1)) (RE.pR (dec p)))≥0)with|true=>(og (decide (ok (Rat×Rat) 400 (hid ((c.2.2.1.1,c.2.2.1.2.1)))∧okP 580 p∧okP 580 c.2.2.2.2.2)) (some [RV.d .bool (decide ((RE.turS (dec (hid ((c.2.2.1.1,c.2.2.1.2.1)))) (RE.pR (dec p)) (RE.pR (dec c.2.2.2.2.2)))≥0))]))|false=>some [RV.d .bool false]))|false=>(og (decide (ok (Rat×Rat) 400 (hid ((c.2.2.1.1,c.2.2.1.2.1)))∧okP 580 c.2.2.2.2.2∧okP 580 p)) (match decide ((RE.turS (dec (hid ((c.2.2.1.1,c.2.2.1.2.1)))) (RE.pR (dec c.2.2.2.2.2)) (RE.pR (dec p)))≤0)with|true=>some [RV.d .bool true]|false=>(og (decide (ok (Rat×Rat) 400 (hid ((c.2.2.1.1,c.2.2.1.2.1)))∧okP 580 p∧okP 580 c.2.2.2.2.1)) (some [RV.d .bool (decide ((RE.turS (dec (hid ((c.2.2.1.1,c.2.2.1.2.1)))) (RE.pR (dec p)) (RE.pR (dec c.2.2.2.2.1)))≤0))]))))))
def ajc:Cn 104 [tCU,tP]:=cn fun(c:BCU) (p:BP)=>lf (nM c.2.2.1∧okP 580 c.2.2.2.2.1∧okP 580 c.2.2.2.2.2∧okP 580 p) [.d .bool (RE.witE (dC c) (RE.pR (dec p)))] fun h=>by
 refine aA Gl (Xi c p) ⟨0,?_⟩;obtain⟨⟨hc,_⟩,hf,ht,hp⟩:=h;obtain⟨p,rfl,bp,rp⟩:=aZ hp;obtain⟨ar,li,ci,cw,fr,to⟩:=c;simp only at hc hf ht;obtain⟨ci,rfl,bc⟩:=aB hc;obtain⟨fr,rfl,bf,rf⟩:=aZ hf;obtain⟨to,rfl,bt,rt⟩:=aZ ht;have e0:((aj ci.1,aj ci.2.1):BV)=enc (ctr ci):=rfl;unfold Xi;rw[RE.wit_eq];simp only[aO,Nat.reduceLeDiff,aJ,e0];cases cw
 ·simp only[aO,dC,ciC,ccF,ccT,cwC,frC,toC];rw[RE.turS_anti (ctr ci) (RE.pR to) (RE.pR p),RE.turS_anti (ctr ci) (RE.pR p) (RE.pR fr)];exact RE.wit_go _ _ _
 ·simp only[aO,dC,ciC,ccF,ccT,cwC,frC,toC];rw[RE.turS_anti (ctr ci) (RE.pR fr) (RE.pR p),RE.turS_anti (ctr ci) (RE.pR p) (RE.pR to)];exact RE.wit_go _ _ _
def RO:List En:=enT aju::enT ajc::Gl
def aba:NT:=[((43,21),{keep:=[25],hl:=0}),((43,49),{keep:=[107],hl:=0})]
def ahR:Ctx:=CX (ens RO) aba
def ZV(c:BCU)(p:BP)(r:BR)(_k:KT):OLR:=let y1:=RE.pR (dec c.2.2.2.2.2);let y2:=RE.pR (dec c.2.2.2.2.1);let y3:OLR:=match decide (okP 580 c.2.2.2.2.1∧okP 580 p∧ok Rat 1000 r)with|true=>(match decide (okP 580 c.2.2.2.2.2∧okP 580 p∧ok Rat 1000 r)with|true=>some [RV.d aqt (if RE.apaS y1 (RE.pR (dec p)) (ae r)<RE.apaS y2 (RE.pR (dec p)) (ae r)then RE.apaS y1 (RE.pR (dec p)) (ae r)else RE.apaS y2 (RE.pR (dec p)) (ae r))]|false=>none)|false=>none;let y4:=hMu c.2.1.2.1 p.2.2.1;let y5:=hAd (hMu c.2.1.1 p.1) y4;let y6:=hMu c.2.1.2.1 p.2.2.2.1;let y7:=hSu y5 c.2.1.2.2;let y8:=hAd (hMu c.2.1.1 p.2.1) y6;let y9:=hMu p.2.2.2.2 (hMu y8 y8);let y10:=hid (aj ((2:Int):Rat));let y11:=hAd (hMu y7 y7) y9;let y12:=hMu y10 (hMu y7 y8);let y13:=hMu c.2.1.1 c.2.1.1;let y14:=hMu c.2.1.2.1 c.2.1.2.1;let y15:=hid (enc (mkR (ae y11) (ae y12) (ae p.2.2.2.2)));let y16:=hMu (hMu r r) (hAd y13 y14);let y17:=hid ((c.2.2.1.1,c.2.2.1.2.1));let y18:=hid (enc (sqP (dec p) (dec y17)));match decide (okR r)with|true=>(match decide ((aD (ae r) 0)<0)with|true=>some [RV.d aqt 1]|false=>(match !c.1 with|true=>(match decide (okC 3000 c∧okP 3000 p∧c.1=false)with|true=>(match !(ul (dC c) (dec p))with|true=>y3|false=>(match decide (okR c.2.1.1∧okR p.1)with|true=>(match decide (okR c.2.1.2.1∧okR p.2.2.1)with|true=>(match decide (okR (hMu c.2.1.1 p.1)∧okR y4)with|true=>(match decide (okR y5∧okR c.2.1.2.2)with|true=>(match decide (okR c.2.1.1∧okR p.2.1)with|true=>(match decide (okR c.2.1.2.1∧okR p.2.2.2.1)with|true=>(match decide (okR (hMu c.2.1.1 p.2.1)∧okR y6)with|true=>(match decide (okR y7∧okR y7)with|true=>(match decide (okR y8∧okR y8)with|true=>(match decide (okR p.2.2.2.2∧okR (hMu y8 y8))with|true=>(match decide (okR (hMu y7 y7)∧okR y9)with|true=>(match decide (aH (2:Int))with|true=>(match decide (okR y7∧okR y8)with|true=>(match decide (okR y10∧okR (hMu y7 y8))with|true=>(match decide (ok Rat 100000 y11∧ok Rat 100000 y12∧ok Rat 100000 p.2.2.2.2∧0≤ae p.2.2.2.2)with|true=>(match decide (okR r∧okR r)with|true=>(match decide (okR c.2.1.1∧okR c.2.1.1)with|true=>(match decide (okR c.2.1.2.1∧okR c.2.1.2.1)with|true=>(match decide (okR y13∧okR y14)with|true=>(match decide (okR (hMu r r)∧okR (hAd y13 y14))with|true=>(match decide (okT 15000 y15∧ok Rat 15000 y16)with|true=>some [RV.d aqt (fC (dec y15) (ae y16))]|false=>none)|false=>none)|false=>none)|false=>none)|false=>none)|false=>none)|false=>none)|false=>none)|false=>none)|false=>none)|false=>none)|false=>none)|false=>none)|false=>none)|false=>none)|false=>none)|false=>none)|false=>none)|false=>none)|false=>none)|false=>none))|false=>none)|false=>(match decide (okP 3500 p∧ok (Rat×Rat) 300 y17)with|true=>(match decide (okT 15000 y18)with|true=>(match(sgR (dec y18))==0 with|true=>(match decide (okR r∧okR r)with|true=>(match decide (okR c.2.2.1.2.2∧okR (hMu r r))with|true=>some [RV.d aqt (aD (ae c.2.2.1.2.2) (ae (hMu r r)))]|false=>none)|false=>none)|false=>(match decide (nM c.2.2.1∧okP 580 c.2.2.2.2.1∧okP 580 c.2.2.2.2.2∧okP 580 p)with|true=>(match !(RE.witE (dC c) (RE.pR (dec p)))with|true=>y3|false=>(match decide (okT 15000 y18∧ok Rat 1000 c.2.2.1.2.2∧ok Rat 1000 r∧0≤ae c.2.2.1.2.2)with|true=>some [RV.d aqt (RE.rngS (RE.vR (dec y18)) (ae c.2.2.1.2.2) (ae r))]|false=>none))|false=>none))|false=>none)|false=>none)))|false=>none
theorem ajb(c:BCU)(p:BP)(r:BR):RS ahR 43 [.d tCU c,.d tP p,.d tR r] (ZV c p r):=rsX
open Classical in
def afT:Cn 43 [tCU,tP,tR]:=cn fun(c:BCU) (p:BP) (r:BR)=>lf (okC 580 c∧okP 580 p∧ok Rat 1000 r) [.d aqt (RE.poiE (dC c) (RE.pR (dec p)) (ae r))] fun h=>by
 refine cY RO (ajb _ _ _ ⟨0,?_⟩);obtain⟨hc,hp,hr⟩:=h;have hp1:=cN (k:=580) hp (by decide) (by decide);have hp6:=cN (k:=580) hp (by decide) (by decide);have hp3:=cN (k:=3000) hp (by decide) (by decide);have hc3:=b8 (k:=3000) hc (by decide) (by decide);obtain⟨p,rfl,bp,rp⟩:=aZ hp;obtain⟨r,rfl,br⟩:=aB hr;obtain⟨ar,li,ci,cw,fr,to⟩:=c;have h3:=hc.2.2.1;have h4:=hc.2.2.2;simp only at h3 h4;obtain⟨fr,rfl,bf,rf⟩:=aZ h3;obtain⟨to,rfl,bt,rt⟩:=aZ h4;have o1:decide (okP 580 (enc fr)∧okP 580 (enc p)∧ok Rat 1000 (aj r))=true:=am5 ⟨h3,hp1,hr⟩;have o2:decide (okP 580 (enc to)∧okP 580 (enc p)∧ok Rat 1000 (aj r))=true:=am5 ⟨h4,hp1,hr⟩;have b2:Bd ((2:Int):Rat) 3:=bS (n:=2) (by decide);have i2:decide (aH 2)=true:=by decide
 have hn:0≤p.2.2.2.2:=rp.nn;rw[dQ,co,az];unfold ZV RE.poiE;cases ar
 ·obtain⟨c2,c3⟩:=hc.2.1 rfl;simp only at c2 c3;obtain⟨li,rfl,bl⟩:=aB c2;have o3:decide (okC 3000 (false,enc li,ci,cw,enc fr,enc to)∧okP 3000 (enc p)∧(false,enc li,ci,cw,enc fr,enc to).1=false)=true:=am5 ⟨hc3,hp3,rfl⟩;have hb:RE.besE (false,li,dec ci,cw,fr,to) (RE.pR p)=ul (false,li,dec ci,cw,fr,to) p:=RE.bes_E (c:=(false,li,dec ci,cw,fr,to)) (hf:=rf) (ht:=rt)
  have q2:fC (mkR (ka li p*ka li p+p.2.2.2.2*(ke li p*ke li p)) (2*(ka li p*ke li p)) p.2.2.2.2) (r*r*(li.1*li.1+li.2.1*li.2.1))=RE.sg (RE.exE li (RE.pR p)*RE.exE li (RE.pR p)-RE.of (r*r*(li.1*li.1+li.2.1*li.2.1))):=by
   rw[RE.cmpTR_re (o8 (h:=⟨hn⟩)).nn,RE.vR_lin]
  have bA:Bd (ka li p) 2070:=(inferInstance:Bd (li.1*p.1+li.2.1*p.2.2.1-li.2.2) _).mono (by decide);have bB:Bd (ke li p) 2070:=(inferInstance:Bd (li.1*p.2.1+li.2.1*p.2.2.2.1) _).mono (by decide);have eA:li.1*p.1+li.2.1*p.2.2.1-li.2.2=ka li p:=rfl;have eB:li.1*p.2.1+li.2.1*p.2.2.2.1=ke li p:=rfl;have e2:((2:Int):Rat)=2:=rfl;have b2':Bd (2:Rat) 3:=b2;have nC:Nn p.2.2.2.2:=⟨hn⟩
  dsimp only;simp only[aO,Nat.reduceAdd,Nat.reduceLeDiff,aI,aJ,aq,o1,o2,am5 hc3,i2,dT hn,RE.min_if,Bool.not_false,dC,lnC,eA,eB,e2,q2,hb];cases decide (r<0)
  ·cases ul (false,li,dec ci,cw,fr,to) p<;>rfl
  ·rfl
 ·obtain⟨c1,hq⟩:=hc.1 rfl;have hci:nM ci:=⟨c1,hq⟩
  simp only at c1 hq;obtain⟨ci,rfl,bc⟩:=aB c1;rw[az]at hq;have e0:((aj ci.1,aj ci.2.1):BV)=enc (ctr ci):=rfl;have o3:decide (nM (enc ci)∧okP 580 (enc fr)∧okP 580 (enc to)∧okP 580 (enc p))=true:=am5 ⟨hci,h3,h4,hp6⟩
  have z:(sgR (sqP p (ctr ci))==0)=decide (RE.pR p=RE.vE (ctr ci)):=by
   rw[ao6,aob];exact RE.sq_zr
  have vs:RE.vR (sqP p (ctr ci))=RE.dsE (RE.pR p) (RE.vE (ctr ci)):=RE.vR_sq _;dsimp only;simp only[aO,Nat.reduceAdd,Nat.reduceMul,Nat.reduceLeDiff,aI,aJ,aq,e0,o1,o2,o3,RE.min_if,Bool.not_true,dC,ciC,z,vs,dT (show 0≤ci.2.2 by grind)];cases decide (r<0)
  ·cases decide (RE.pR p=RE.vE (ctr ci))
   ·cases RE.witE (true,dec li,ci,cw,fr,to) (RE.pR p)<;>rfl
   ·rfl
  ·rfl
end
theorem lC(q:Rat):(aD q 0== -1)=decide (q<0):=by
 unfold aD;by_cases h:q<0
 ·rw[am5 h];rfl
 ·rw[am7 h];by_cases h':0<q
  ·rw[am5 h'];rfl
  ·rw[am7 h'];rfl
def rT:List En:=[⟨41,fM,dW⟩,⟨99,iy,fi⟩,⟨107,iS,fB⟩,⟨106,iE,ff⟩,⟨108,gV,eU⟩,⟨73,mr,iu⟩,⟨109,kH,gH⟩,⟨305,yo,sR⟩,enL ZD,enL Xv,enL HY,enL Z4,enL Ya,enL X0,enL Pk]
def ajU:Cn 326 [tR,tR]:=cn fun(a b:BR)=>lf (okR a∧okR b) [.d tR (aj (ae a+ae b))] fun h=>jx [RV.d tR (hAd a b)] (du rT) h
def aj1:Cn 279 [tR,tR]:=cn fun(a b:BR)=>lf (okR a∧okR b) [.d tR (aj (ae a-ae b))] fun h=>jx [RV.d tR (hSu a b)] (du rT) h
def ajO:Cn 280 [tR,tR]:=cn fun(a b:BR)=>lf (okR a∧okR b) [.d tR (aj (ae a*ae b))] fun h=>jx [RV.d tR (hMu a b)] (du rT) h
def ahS:Cn 281 [tR,tR]:=cn fun(a b:BR)=>lf (ij a b) [.d tR (aj (ae a/ae b))] fun h=>jx [RV.d tR (hDi a b)] (du rT) h
def aap(a b:BR)(_k:KT):OLR:=match decide (okR a∧okR b)with|true=>some [RV.d .bool ((aD (ae a) (ae b))==0)]|false=>none
def ahv:Cn 274 [tR,tR]:=cn fun(a b:BR)=>lf (okR a∧okR b) [.d .bool (decide (ae a=ae b))] fun h=>by
 refine aA rT (aap a b) ⟨0,?_⟩;unfold aap;rw[dT h];simp only[ao]
def aaf(x u y v k:BR)(_k:KT):OLR:=og (decide (ok Rat 100000 x∧ok Rat 100000 u∧ok Rat 100000 k∧0≤ae k)) (og (decide (ok Rat 100000 y∧ok Rat 100000 v∧ok Rat 100000 k∧0≤ae k)) (og (decide (okT 15000 (hid (enc (mkR (ae x) (ae u) (ae k))))∧okT 15000 (hid (enc (mkR (ae y) (ae v) (ae k))))∧t5 (dec (hid (enc (mkR (ae x) (ae u) (ae k))))) (dec (hid (enc (mkR (ae y) (ae v) (ae k))))))) (some [RV.d tP (hid (enc (mkP (dec (hid (enc (mkR (ae x) (ae u) (ae k))))) (dec (hid (enc (mkR (ae y) (ae v) (ae k))))))))])))
def aji:Cn 278 [tR,tR,tR,tR,tR]:=cn fun(x u y v k:BR)=>lf (ok Rat 1000 x∧ok Rat 1000 u∧ok Rat 1000 y∧ok Rat 1000 v∧ok Rat 1000 k∧0≤ae k) [.d tP (enc (vU (ae x) (ae u) (ae y) (ae v) (ae k)))] fun h=>by
 refine aA rT (aaf x u y v k) ⟨0,?_⟩;obtain⟨hx,hu,hy,hv,hk,h0⟩:=h;obtain⟨x,rfl,bx⟩:=aB hx;obtain⟨u,rfl,bu⟩:=aB hu;obtain⟨y,rfl,b_y⟩:=aB hy;obtain⟨v,rfl,bv⟩:=aB hv;obtain⟨k,rfl,bk⟩:=aB hk;have h0:0≤(dec (enc k):Rat):=h0;rw[az]at h0;have nk:Nn k:=⟨h0⟩
 have n0:decide (0≤k)=true:=am5 nk.le;have hm:decide (t5 (mkR x u k) (mkR y v k))=true:=am5 (nW _ _ _ _ _);unfold aaf vU;simp only[aO,Nat.reduceAdd,Nat.reduceLeDiff,aI,n0,hm];try rfl
def u6:List En:=enL ajU::enL aj1::enL ajO::enL ahS::enT ahv::enL aji::rT
def ZJ(l m:BO3)(_k:KT):OLR:=og (o2 l.1 m.2.1) (og (o2 m.1 l.2.1) (og (o2 (hMu l.1 m.2.1) (hMu m.1 l.2.1)) (match decide (ae (hMu l.1 m.2.1)=ae (hMu m.1 l.2.1))with|true=>(og (o2 l.1 m.2.2) (og (o2 m.1 l.2.2) (og (o2 (hMu l.1 m.2.2) (hMu m.1 l.2.2)) (match decide (ae (hMu l.1 m.2.2)=ae (hMu m.1 l.2.2))with|true=>(og (o2 l.2.1 m.2.2) (og (o2 m.2.1 l.2.2) (og (o2 (hMu l.2.1 m.2.2) (hMu m.2.1 l.2.2)) (some [RV.d .bool (decide (ae (hMu l.2.1 m.2.2)=ae (hMu m.2.1 l.2.2)))]))))|false=>some [RV.d .bool false]))))|false=>some [RV.d .bool false])))
def ag2:Cn 184 [tO,tO]:=cn fun(l m:BO3)=>lf (cS l∧cS m) [.d .bool (qX (dec l) (dec m))] fun h=>by
 refine aA u6 (ZJ l m) ⟨0,?_⟩;obtain⟨hl,hm⟩:=h;obtain⟨l,rfl,bl,nl⟩:=eK hl;obtain⟨m,rfl,bm,nm⟩:=eK hm;unfold ZJ qX;have c1:l.2.1*m.1=m.1*l.2.1:=ao0 _ _;have c2:l.2.2*m.1=m.1*l.2.2:=ao0 _ _;have c3:l.2.2*m.2.1=m.2.1*l.2.2:=ao0 _ _;simp only[aO,Nat.reduceAdd,Nat.reduceLeDiff,c1,c2,c3];cases decide (l.1*m.2.1=m.1*l.2.1)<;>cases decide (l.1*m.2.2=m.1*l.2.2)<;>rfl
def Y0(c d:BO3)(_k:KT):OLR:=og (o2 c.1 d.1) (match decide (ae c.1=ae d.1)with|true=>(og (o2 c.2.1 d.2.1) (match decide (ae c.2.1=ae d.2.1)with|true=>(og (o2 c.2.2 d.2.2) (some [RV.d .bool (decide (ae c.2.2=ae d.2.2))]))|false=>some [RV.d .bool false]))|false=>some [RV.d .bool false])
def akn:Cn 183 [tO,tO]:=cn fun(c d:BO3)=>lf (cp c∧cp d) [.d .bool (tX (dec c) (dec d))] fun h=>by
 refine aA u6 (Y0 c d) ⟨0,?_⟩;obtain⟨hc,hd⟩:=h;obtain⟨c,rfl,bc,nc⟩:=cE hc;obtain⟨d,rfl,bd,nd⟩:=cE hd;unfold Y0 tX;simp only[aO,Nat.reduceLeDiff];cases decide (c.1=d.1)<;>cases decide (c.2.1=d.2.1)<;>rfl
def YW(c d:BO3)(_k:KT):OLR:=og (o2 c.1 d.1) (match(aD (ae c.1) (ae d.1))==0 with|true=>(og (o2 c.2.1 d.2.1) (some [RV.d .bool ((aD (ae c.2.1) (ae d.2.1))==0)]))|false=>some [RV.d .bool false])
def agG:Cn 275 [tO,tO]:=cn fun(c d:BO3)=>lf (cp c∧cp d) [.d .bool (gY (dec c) (dec d))] fun h=>by
 refine aA u6 (YW c d) ⟨0,?_⟩;obtain⟨hc,hd⟩:=h;obtain⟨c,rfl,bc,nc⟩:=cE hc;obtain⟨d,rfl,bd,nd⟩:=cE hd;unfold YW gY;simp only[aO,Nat.reduceLeDiff,ao];cases decide (c.1=d.1)<;>rfl
def XZ(c:BO3)(_k:KT):OLR:=og (o2 c.1 c.1) (og (o2 c.2.1 c.2.1) (og (o2 (hMu c.1 c.1) (hMu c.2.1 c.2.1)) (og (o2 (hAd (hMu c.1 c.1) (hMu c.2.1 c.2.1)) c.2.2) (some [RV.d tR (hSu (hAd (hMu c.1 c.1) (hMu c.2.1 c.2.1)) c.2.2)]))))
def ae9:Cn 325 [tO]:=cn fun(c:BO3)=>lf (cp c) [.d tR (aj (qU (dec c)))] fun h=>by
 refine aA u6 (XZ c) ⟨0,?_⟩;have hc:=h;obtain⟨c,rfl,bc,nc⟩:=cE hc;unfold XZ qU;simp only[aO,Nat.reduceAdd,Nat.reduceLeDiff]
def Zq(l c:BO3)(_k:KT):OLR:=let y1:=hid (enc (dt (dec l) (dec (c.1,c.2.1))));let y2:=hSu (y1.2) c.2.1;let y3:=hMu (hSu (y1.1) c.1) (hSu (y1.1) c.1);let y4:=hAd y3 (hMu y2 y2);let y5:=hAd (hMu l.1 l.1) (hMu l.2.1 l.2.1);let y6:=ij (hSu c.2.2 y4) y5;let y7:=hDi (hSu c.2.2 y4) y5;let y8:OLR:=match decide y6 with|true=>some [RV.d tR y7,RV.d tV y1]|false=>none;let y9:OLR:=match decide (okR (hMu l.1 l.1)∧okR (hMu l.2.1 l.2.1))with|true=>y8|false=>none;let y10:OLR:=match decide (okR l.2.1∧okR l.2.1)with|true=>y9|false=>none;og (decide (ok Ln 300 l∧ok (Rat×Rat) 200 (c.1,c.2.1)∧((dec l:Ln).1≠0∨(dec l:Ln).2.1≠0))) (og (o2 (y1.1) c.1) (og (o2 (y1.2) c.2.1) (og (o2 (hSu (y1.1) c.1) (hSu (y1.1) c.1)) (og (o2 y2 y2) (og (o2 y3 (hMu y2 y2)) (og (o2 c.2.2 y4) (ck (og (o2 l.1 l.1) (ck (og (o2 l.2.1 l.2.1) (ck (og (o2 (hMu l.1 l.1) (hMu l.2.1 l.2.1)) (ck (og (decide y6) (dup (.b .l .l) (some [RV.d tR y7,RV.d tV y1]))) y8)) y9)) y10)) (og (o2 l.1 l.1) y10))))))))
def ahO:Cn 277 [tO,tO]:=cn fun(l c:BO3)=>lf (cS l∧cp c) [.d tR (aj (eh (dec l) (dec c))),.d tV (enc (ftL (dec l) (dec c)))] fun h=>by
 refine aA u6 (Zq l c) ⟨0,?_⟩;obtain⟨hl,hc⟩:=h;obtain⟨l,rfl,bl,nl⟩:=eK hl;obtain⟨c,rfl,bc,nc⟩:=cE hc;have ol:=am5 (l8 (l:=l) nl);have bl:Bd l 63:=ab2;have bv:Bd ((c.1,c.2.1):Rat×Rat) 4:=inferInstance;have hn:=oh nl;have bn:Bd (cr l) 49:=inferInstanceAs (Bd (l.1*l.1+l.2.1*l.2.1) _);have bf:=F9 (l:=l) (c:=c);have b1:Bd (ftL l c).1 163:=inferInstance;have b2:Bd (ftL l c).2 163:=inferInstance;have e1:l.1*l.1+l.2.1*l.2.1=cr l:=rfl;unfold Zq eh wO;simp only[aO,Nat.reduceAdd,Nat.reduceLeDiff,KB,nl,UT,e1,hn,ne_eq,aop];try rfl
def yj:List En:=enT ag2::enT akn::enT agG::enL ae9::enL ahO::u6
def aav(l m:BO3)(_k:KT):OLR:=og (o2 l.1 m.2.1) (og (o2 m.1 l.2.1) (og (o2 (hMu l.1 m.2.1) (hMu m.1 l.2.1)) (og (o1 (hSu (hMu l.1 m.2.1) (hMu m.1 l.2.1))) (match(aD (ae (hSu (hMu l.1 m.2.1) (hMu m.1 l.2.1))) 0)==0 with|true=>(og (decide (cS l∧cS m)) (match qX (dec l) (dec m)with|true=>some [RV.d (.sl tP) ([]),RV.d aqt 10]|false=>some [RV.d (.sl tP) ([]),RV.d aqt 0]))|false=>(og (o2 l.2.2 m.2.1) (og (o2 m.2.2 l.2.1) (og (o2 (hMu l.2.2 m.2.1) (hMu m.2.2 l.2.1)) (og (decide (ij (hSu (hMu l.2.2 m.2.1) (hMu m.2.2 l.2.1)) (hSu (hMu l.1 m.2.1) (hMu m.1 l.2.1)))) (og (o2 l.1 m.2.2) (og (o2 m.1 l.2.2) (og (o2 (hMu l.1 m.2.2) (hMu m.1 l.2.2)) (og (decide (ij (hSu (hMu l.1 m.2.2) (hMu m.1 l.2.2)) (hSu (hMu l.1 m.2.1) (hMu m.1 l.2.1)))) (og (decide (ok (Rat×Rat) 100000 (hDi (hSu (hMu l.2.2 m.2.1) (hMu m.2.2 l.2.1)) (hSu (hMu l.1 m.2.1) (hMu m.1 l.2.1)),hDi (hSu (hMu l.1 m.2.2) (hMu m.1 l.2.2)) (hSu (hMu l.1 m.2.1) (hMu m.1 l.2.1))))) (some [RV.d (.sl tP) ([hid (enc (atP (dec (hDi (hSu (hMu l.2.2 m.2.1) (hMu m.2.2 l.2.1)) (hSu (hMu l.1 m.2.1) (hMu m.1 l.2.1)),hDi (hSu (hMu l.1 m.2.2) (hMu m.1 l.2.2)) (hSu (hMu l.1 m.2.1) (hMu m.1 l.2.1))))))]),RV.d aqt 0]))))))))))))))
def aje:Cn 187 [tO,tO]:=cn fun(l m:BO3)=>lf (cS l∧cS m) [.d (.sl tP) ((m6 (dec l) (dec m)).map enc),.d aqt (PA (dec l) (dec m))] fun h=>by
 refine aA yj (aav l m) ⟨0,?_⟩;obtain⟨hl,hm⟩:=h;obtain⟨l,rfl,bl,nl⟩:=eK hl;obtain⟨m,rfl,bm,nm⟩:=eK hm;have ol:=am5 (l8 (l:=l) nl);have om:=am5 (l8 (l:=m) nm);have bc:Bd (eg l m) 49:=inferInstanceAs (Bd (l.1*m.2.1-m.1*l.2.1) _);have e0:l.1*m.2.1-m.1*l.2.1=eg l m:=rfl;have e1:l.2.2*m.2.1-m.2.2*l.2.1=mj l m:=rfl;have e2:l.1*m.2.2-m.1*l.2.2=mt l m:=rfl;have bx:Bd (mj l m) 151:=inferInstanceAs (Bd (l.2.2*m.2.1-m.2.2*l.2.1) _);have b_:Bd (mt l m) 151:=inferInstanceAs (Bd (l.1*m.2.2-m.1*l.2.2) _);unfold aav m6 PA;simp only[aO,Nat.reduceAdd,Nat.reduceLeDiff,ao,ol,om,e0,e1,e2];by_cases h0:eg l m=0
 ·simp only[am5 h0,Bool.not_true];cases qX l m<;>rfl
 ·simp only[aO,Nat.reduceAdd,Nat.reduceLeDiff,h0,ne_eq,aop,Bool.not_false,KB];rfl
def Zu(c d:BO3)(_k:KT):OLR:=og (decide (cp c∧cp d)) (match gY (dec c) (dec d)with|true=>some [RV.d tO (((false,[]),(false,[])),(((false,[]),(false,[])),((false,[]),(false,[])))),RV.d aqt 6]|false=>(og (decide (aH (2:Int))) (og (o2 d.1 c.1) (og (o2 (hid (aj ((2:Int):Rat))) (hSu d.1 c.1)) (og (o2 d.2.1 c.2.1) (og (o2 (hid (aj ((2:Int):Rat))) (hSu d.2.1 c.2.1)) (og (decide (cp d)) (og (decide (cp c)) (og (o2 (hid (aj (qU (dec d)))) (hid (aj (qU (dec c))))) (some [RV.d tO (hMu (hid (aj ((2:Int):Rat))) (hSu d.1 c.1),(hMu (hid (aj ((2:Int):Rat))) (hSu d.2.1 c.2.1),hSu (hid (aj (qU (dec d)))) (hid (aj (qU (dec c)))))),RV.d aqt 0]))))))))))
def afq:Cn 276 [tO,tO]:=cn fun(c d:BO3)=>lf (cp c∧cp d) [.d tO (vT (dec c) (dec d)),.d aqt (Tq (dec c) (dec d))] fun h=>by
 refine aA yj (Zu c d) ⟨0,?_⟩;obtain⟨hc,hd⟩:=h;obtain⟨c,rfl,bc,nc⟩:=cE hc;obtain⟨d,rfl,bd,nd⟩:=cE hd;have oc:=am5 (gR (c:=c) nc);have od:=am5 (gR (c:=d) nd);have i2:decide (aH 2)=true:=by decide
 have b2:Bd ((2:Int):Rat) 3:=bS (by decide);have f1:Bd (qU c) 31:=(inferInstance:Bd (c.1*c.1+c.2.1*c.2.1-c.2.2) _).mono (by decide);have f2:Bd (qU d) 31:=(inferInstance:Bd (d.1*d.1+d.2.1*d.2.1-d.2.2) _).mono (by decide);unfold Zu vT Tq;simp only[aO,Nat.reduceAdd,Nat.reduceLeDiff,oc,od,i2];cases gY c d
 ·rfl
 ·rfl
def aki:Ctx:=CX (ens yj) []
def WP(l c:BO3)(_k:KT):OLR:=let y1:=hid (aj (eh (dec l) (dec c)));let y2:=hid (enc (ftL (dec l) (dec c)));let y3:=aD (ae l.2.1) 0;let y4:=hNe (hNe (hNe l.1));let y5:=enc (vU (ae (y2.1)) (ae (hNe l.2.1)) (ae (y2.2)) (ae (hNe (hNe l.1))) (ae y1));let y6:OLR:=match decide (okR l.2.1)with|true=>(og (o1 (hNe l.1)) (og (o1 (hNe l.2.1)) (og (o1 (hNe (hNe l.1))) (og (decide (ok Rat 1000 (y2.1)∧ok Rat 1000 (hNe (hNe l.2.1))∧ok Rat 1000 (y2.2)∧ok Rat 1000 y4∧ok Rat 1000 y1∧0≤ae y1)) (og (decide (ok Rat 1000 (y2.1)∧ok Rat 1000 (hNe l.2.1)∧ok Rat 1000 (y2.2)∧ok Rat 1000 (hNe (hNe l.1))∧ok Rat 1000 y1∧0≤ae y1)) (some [RV.new 37 tP ([hid (enc (vU (ae (y2.1)) (ae (hNe (hNe l.2.1))) (ae (y2.2)) (ae y4) (ae y1))),hid y5])]))))))|false=>none;let y7:OLR:=match decide (okR l.2.1)with|true=>(og (o1 (hNe l.1)) (og (decide (ok Rat 1000 (y2.1)∧ok Rat 1000 (hNe l.2.1)∧ok Rat 1000 (y2.2)∧ok Rat 1000 (hNe (hNe l.1))∧ok Rat 1000 y1∧0≤ae y1)) (og (decide (ok Rat 1000 (y2.1)∧ok Rat 1000 l.2.1∧ok Rat 1000 (y2.2)∧ok Rat 1000 (hNe l.1)∧ok Rat 1000 y1∧0≤ae y1)) (some [RV.new 37 tP ([hid y5,hid (enc (vU (ae (y2.1)) (ae l.2.1) (ae (y2.2)) (ae (hNe l.1)) (ae y1)))])]))))|false=>none;og (decide (cS l∧cp c)) (og (o1 y1) (match(aD (ae y1) 0)==(-1)with|true=>some [RV.new 37 tP []]|false=>(match(aD (ae y1) 0)==0 with|true=>(og (decide (ok (Rat×Rat) 100000 y2)) (some [RV.new 37 tP ([hid (enc (atP (dec y2)))])]))|false=>(og (o1 l.1) (og (o1 l.2.1) (match decide (y3<0)with|true=>y6|false=>(match y3==0 with|true=>(og (o1 (hNe l.1)) (match decide ((aD (ae (hNe l.1)) 0)<0)with|true=>y6|false=>y7))|false=>y7)))))))
theorem afs(l c:BO3):RS aki 186 [.d tO l,.d tO c] (WP l c):=rsX
def aiU:Cn 186 [tO,tO]:=cn fun(l c:BO3)=>lf (cS l∧cp c) [.d (.sl tP) ((kX (dec l) (dec c)).map enc)] fun h=>by
 refine Con.new_d (et:=37) (cY yj (afs _ _ ⟨0,?_⟩));obtain⟨hl,hc⟩:=h;obtain⟨l,rfl,bl,nl⟩:=eK hl;obtain⟨c,rfl,bc,nc⟩:=cE hc;have ol:=am5 (l8 (l:=l) nl);have oc:=am5 (gR (c:=c) nc);have bf:=F9 (l:=l) (c:=c);have bk:=L8 (l:=l) (c:=c);have b1:Bd (ftL l c).1 163:=inferInstance;have b2:Bd (ftL l c).2 163:=inferInstance;unfold WP kX;simp only[aO,Nat.reduceLeDiff,ao,aq,lC,ol,oc];by_cases h0:eh l c<0
 ·simp only[am5 h0];rfl
 ·simp only[am7 h0];by_cases h1:eh l c=0
  ·simp only[am5 h1];rfl
  ·have hp:decide (0≤eh l c)=true:=am5 (by grind);simp only[am7 h1,hp,aO];unfold lcM lcN qR qZ Gw;cases decide (l.2.1<0)<;>cases decide (l.2.1=0)<;>cases decide (-l.1<0)<;>rfl
def LG:List En:=enL aje::enL afq::enL aiU::yj
def Zd(c d:BO3)(_k:KT):OLR:=og (decide (cp c∧cp d)) (match tX (dec c) (dec d)with|true=>some [RV.d (.sl tP) ([]),RV.d aqt 10]|false=>(og (decide (cp c∧cp d)) (match gY (dec c) (dec d)with|true=>some [RV.d (.sl tP) ([]),RV.d aqt 0]|false=>(og (decide (cp c∧cp d)) (og (decide (cS (hid (vT (dec c) (dec d)))∧cp c)) (some [RV.d (.sl tP) ((kX (dec (hid (vT (dec c) (dec d)))) (dec c)).map enc),RV.d aqt 0]))))))
def ajs:Cn 185 [tO,tO]:=cn fun(c d:BO3)=>lf (cp c∧cp d) [.d (.sl tP) ((rR (dec c) (dec d)).map enc),.d aqt (T2 (dec c) (dec d))] fun h=>by
 refine aA LG (Zd c d) ⟨0,?_⟩;obtain⟨hc,hd⟩:=h;obtain⟨c,rfl,bc,nc⟩:=cE hc;obtain⟨d,rfl,bd,nd⟩:=cE hd;have oc:=am5 (gR (c:=c) nc);have od:=am5 (gR (c:=d) nd);unfold Zd rR T2;simp only[aO,oc,od];cases hs:tX c d
 ·cases hc:gY c d
  ·have ol:cS (enc (ng c d)):=Mc hc;have er:vT c d=enc (ng c d):=by unfold vT;rw[hc];rfl
   simp only[er,dT ol,aO];try rfl
  ·rfl
 ·have hc:gY c d=true:=by
   unfold tX at hs;unfold gY;cases h1:decide (c.1=d.1)
   ·rw[h1]at hs;cases hs
   ·cases h2:decide (c.2.1=d.2.1)
    ·rw[h1,h2]at hs;cases hs
    ·rfl
  rw[hc];rfl
def P7:List En:=enL ajs::LG
def XV(a b:BCU)(_k:KT):OLR:=match a.1 with|true=>(match b.1 with|true=>(og (decide (cp a.2.2.1∧cp b.2.2.1)) (some [RV.d (.sl tP) ((rR (dec a.2.2.1) (dec b.2.2.1)).map enc),RV.d aqt (T2 (dec a.2.2.1) (dec b.2.2.1))]))|false=>(match a.1 with|true=>(og (decide (cS b.2.1∧cp a.2.2.1)) (some [RV.d (.sl tP) ((kX (dec b.2.1) (dec a.2.2.1)).map enc),RV.d aqt 0]))|false=>(match b.1 with|true=>(og (decide (cS a.2.1∧cp b.2.2.1)) (some [RV.d (.sl tP) ((kX (dec a.2.1) (dec b.2.2.1)).map enc),RV.d aqt 0]))|false=>(og (decide (cS a.2.1∧cS b.2.1)) (some [RV.d (.sl tP) ((m6 (dec a.2.1) (dec b.2.1)).map enc),RV.d aqt (PA (dec a.2.1) (dec b.2.1))])))))|false=>(match a.1 with|true=>(og (decide (cS b.2.1∧cp a.2.2.1)) (some [RV.d (.sl tP) ((kX (dec b.2.1) (dec a.2.2.1)).map enc),RV.d aqt 0]))|false=>(match b.1 with|true=>(og (decide (cS a.2.1∧cp b.2.2.1)) (some [RV.d (.sl tP) ((kX (dec a.2.1) (dec b.2.2.1)).map enc),RV.d aqt 0]))|false=>(og (decide (cS a.2.1∧cS b.2.1)) (some [RV.d (.sl tP) ((m6 (dec a.2.1) (dec b.2.1)).map enc),RV.d aqt (PA (dec a.2.1) (dec b.2.1))]))))
def aa6:Cn 85 [tCU,tCU]:=cn fun(a b:BCU)=>lf (gX a b) [.d (.sl tP) ((gr (dC a) (dC b)).map enc),.d aqt (agd (dC a) (dC b))] fun h=>by
 refine aA P7 (XV a b) ⟨0,?_⟩;obtain⟨⟨a1,a2⟩,b1,b2⟩:=h;unfold XV gr agd;obtain⟨aa,al,ac,aw,af,at_⟩:=a;obtain⟨ba,bl,bc,bw,bf,bt⟩:=b;cases aa<;>cases ba
 ·have h1:=a2 rfl;have h2:=b2 rfl;simp only[dT (show cS al∧cS bl from⟨h1,h2⟩)];rfl
 ·have h1:=a2 rfl;have h2:=b1 rfl;simp only[dT (show cS al∧cp bc from⟨h1,h2⟩)];rfl
 ·have h1:=a1 rfl;have h2:=b2 rfl;simp only[dT (show cS bl∧cp ac from⟨h2,h1⟩)];rfl
 ·have h1:=a1 rfl;have h2:=b1 rfl;simp only[dT (show cp ac∧cp bc from⟨h1,h2⟩)];rfl
def Zn(a b:BCU)(_k:KT):OLR:=match !(a.1==b.1)with|true=>some [RV.d .bool false]|false=>(match a.1 with|true=>(og (decide (cp a.2.2.1∧cp b.2.2.1)) (some [RV.d .bool (tX (dec a.2.2.1) (dec b.2.2.1))]))|false=>(og (decide (cS a.2.1∧cS b.2.1)) (some [RV.d .bool (qX (dec a.2.1) (dec b.2.1))])))
def YT:Cn 84 [tCU,tCU]:=cn fun(a b:BCU)=>lf (gX a b) [.d .bool (cX (dC a) (dC b))] fun h=>by
 refine aA P7 (Zn a b) ⟨0,?_⟩;obtain⟨⟨a1,a2⟩,b1,b2⟩:=h;unfold Zn cX;obtain⟨aa,al,ac,aw,af,at_⟩:=a;obtain⟨ba,bl,bc,bw,bf,bt⟩:=b;cases aa<;>cases ba
 ·have h1:=a2 rfl;have h2:=b2 rfl;simp only[dT (show cS al∧cS bl from⟨h1,h2⟩)];rfl
 ·rfl
 ·rfl
 ·have h1:=a1 rfl;have h2:=b1 rfl;simp only[dT (show cp ac∧cp bc from⟨h1,h2⟩)];rfl
theorem TW(f p q:Bool×Rt): -1≤gI aW f p q∧gI aW f p q≤1:=by
 have h:∀n,-1≤kj n∧kj n≤1:=fun n=>by
  unfold kj;split<;>(try split)<;>omega
 unfold gI;cases oM aW f p==oM aW f q
 ·exact h _
 ·exact h _
def agu:List En:=[enT R7,enT Ro]
def Z3(c:BCU)(p q:BP)(_k:KT):OLR:=match !c.1 with|true=>(og (decide (okP 4000 p∧okP 4000 q)) (og (decide (okP 4000 c.2.2.2.2.2∧okP 4000 c.2.2.2.2.1)) (some [RV.d aqt (i64.wrap ((aX (dec p) (dec q))*(aX (dec c.2.2.2.2.2) (dec c.2.2.2.2.1))))])))|false=>(match c.2.2.2.1 with|true=>(og (decide (ok Ln 300 c.2.2.1∧okP 4000 c.2.2.2.2.2∧okP 4000 p∧okP 4000 q)) (some [RV.d aqt (i64.wrap (0-(gI aW (ptd (dec c.2.2.1) (dec c.2.2.2.2.2)) (ptd (dec c.2.2.1) (dec p)) (ptd (dec c.2.2.1) (dec q)))))]))|false=>(og (decide (ok Ln 300 c.2.2.1∧okP 4000 c.2.2.2.2.1∧okP 4000 p∧okP 4000 q)) (some [RV.d aqt (gI aW (ptd (dec c.2.2.1) (dec c.2.2.2.2.1)) (ptd (dec c.2.2.1) (dec p)) (ptd (dec c.2.2.1) (dec q)))])))
def ah2:Cn 194 [tCU,tP,tP]:=cn fun(c:BCU) (p q:BP)=>lf (okC 4000 c∧okP 4000 p∧okP 4000 q) [.d aqt (BD (dC c) (dec p) (dec q))] fun h=>by
 refine aA agu (Z3 c p q) ⟨0,?_⟩;obtain⟨hc,hp,hq⟩:=h;obtain⟨ar,li,ci,cw,fr,to⟩:=c;have h3:=hc.2.2.1;have h4:=hc.2.2.2;simp only at h3 h4;unfold Z3 BD;cases ar
 ·have b1:=wA (dec p) (dec q);have b2:=wA (dec to) (dec fr);simp only[dT (show okP 4000 p∧okP 4000 q from⟨hp,hq⟩),dT (show okP 4000 to∧okP 4000 fr from⟨h4,h3⟩),Bp b1 b2];rfl
 ·have e:=(hc.1 rfl).1;simp only at e;cases cw
  ·simp only[dT (show ok Ln 300 ci∧okP 4000 fr∧okP 4000 p∧okP 4000 q from⟨e,h3,hp,hq⟩)];rfl
  ·have b:=TW (ptd (dec ci) (dec to)) (ptd (dec ci) (dec p)) (ptd (dec ci) (dec q));simp only[dT (show ok Ln 300 ci∧okP 4000 to∧okP 4000 p∧okP 4000 q from⟨e,h4,hp,hq⟩)];try dsimp only[Bool.not_true]
   rw[aT (x:=0-gI aW (ptd (dec ci) (dec to)) (ptd (dec ci) (dec p)) (ptd (dec ci) (dec q))) (by omega) (by omega),ao1];rfl
section
theorem AX{n m k:Nat}(h1:n+m≤100000000)(hk:k≤1000000):decide ((n+m)*k≤140737488355328∧n+m≤140737488355328)=true:=by
 refine am5 ⟨?_,by omega⟩;have:=aoZ h1 hk;omega
def lA(c:BCU)(l:List BP):Prop:=okC 4000 c∧l.length≤19∧∀x∈l,okP 4000 x
instance (c:BCU) (l:List BP):Decidable (lA c l):=by unfold lA;infer_instance
def Mw:Ctx:=CX [] []
def MI(p:List BP)(_k:KT):OLR:=match p with|[]=>GK (some [RV.new 37 tP []]) (og (decide ((([]:List BP).length+p.length)*320≤140737488355328∧([]:List BP).length+p.length≤140737488355328)) (some [RV.new 37 tP (([]:List BP)++p)]))|_::_=>(og (decide ((([]:List BP).length+p.length)*320≤140737488355328∧([]:List BP).length+p.length≤140737488355328)) (some [RV.new 37 tP (([]:List BP)++p)]))
theorem ac4(p:List BP):RS Mw 87 [.d (.sl tP) p] (MI p):=rsX
def Fr:Cn 87 [(.sl tP)]:=cn fun(p:List BP)=>lf (p.length≤100000) [.new 37 tP p] fun h=>by
 refine Ctx.Res.con (C:=Mw) (E6 (E:=[]) trivial) ?_ (fn:=Tryz.f87) (by kernel_rfl) (by kernel_rfl);refine ac4 _ ⟨0,?_⟩;unfold MI;rw[AX (n:=([]:List BP).length) (m:=p.length) (by simp;omega) (by omega)];cases p with
 |nil=>exact dR _
 |cons a p=>rfl
def adL:List En:=[enT R7]
def Xr(p q:BP)(_k:KT):OLR:=og (decide (okP 4000 p∧okP 4000 q)) (some [RV.d .bool ((aX (dec p) (dec q))==0)])
def QU:Cn 196 [tP,tP]:=cn fun(p q:BP)=>lf (okP 4000 p∧okP 4000 q) [.d .bool (aX (dec p) (dec q)==0)] fun h=>by
 refine aA adL (Xr p q) ⟨0,?_⟩;unfold Xr;rw[dT h]
def HV:eo:={keep:=true,run:=fun _ _ _=>none}
theorem J4:SpK 329 HV:=by
 refine⟨by kernel_rfl,fun R args k r h=>(by cases h),fun g h=>(by cases h)⟩
def G7:List En:=[enT ah2,enT QU,enK Fr,⟨329,HV,J4⟩]
def aer:NT:=[((288,6),{keep:=[0,1,2,6,7,8],hl:=2}),((328,3),{keep:=[0,1,2,3,8],hl:=2}),((328,15),{keep:=[0,1,2,3,8,9],hl:=2}),((288,22),{keep:=[0,1,2,6],hl:=2}),((288,34),{keep:=[0,1,2,6,7,8],hl:=2}),((195,14),{keep:=[0,1,5],hl:=2}),((195,32),{keep:=[0,1,5,6,7],hl:=2}),((90,5),{keep:=[1],hl:=0}),((192,0),{keep:=[],hl:=0}),((288,15),{keep:=[0,1,2,6,8],hl:=0}),((288,20),{keep:=[0,1,2,6],hl:=0}),((328,18),{keep:=[0,1,2,3,8,9,18,19,20,21,22,23,24,25,26,27,28,29,30,31,32,33,34],hl:=0}),((90,7),{keep:=[11],hl:=0})]
def iM:Ctx:=CX (ens G7) aer
def rM(c:BCU)(l:List BP)(s288_7 s288_8:Int)(r288_1:List BP):Cfg:=⟨288,[.blk 0,.seq 19],[(0,.own 1),(1,SI (l.length:Int)),(2,.clo 193 [0]),(6,SI 20),(7,SI s288_7),(8,SI s288_8)],[.box 39 (Ty.split tCU c),.row 37 tP r288_1],2,[⟨192,[],0,4,[],2,none⟩,⟨90,[.seq 6],5,2,[(1,.own 1)],0,none⟩]⟩
def r7(c:BCU)(l:List BP)(s288_7 s288_8 s328_8:Int)(r328_1:List BP):Cfg:=⟨328,[.blk 0],[(0,.own 1),(1,SI s288_7),(2,SI s288_8),(3,.clo 193 [0]),(8,SI s328_8)],[.box 39 (Ty.split tCU c),.row 37 tP r328_1],2,[⟨288,[.seq 16,.blk 1,.lp 6,.blk 0,.seq 19],15,4,[(0,.own 1),(1,SI (l.length:Int)),(2,.clo 193 [0]),(6,SI 20),(8,SI s288_8)],2,none⟩,⟨192,[],0,4,[],2,none⟩,⟨90,[.seq 6],5,2,[(1,.own 1)],0,none⟩]⟩
def eV(c:BCU)(l:List BP)(s288_7 s328_8:Int)(r328_1:List BP):Cfg:=⟨328,[.blk 0],[(0,.own 1),(1,SI s288_7),(2,SI (l.length:Int)),(3,.clo 193 [0]),(8,SI s328_8)],[.box 39 (Ty.split tCU c),.row 37 tP r328_1],2,[⟨288,[.seq 21],20,4,[(0,.own 1),(1,SI (l.length:Int)),(2,.clo 193 [0]),(6,SI 20)],2,none⟩,⟨192,[],0,4,[],2,none⟩,⟨90,[.seq 6],5,2,[(1,.own 1)],0,none⟩]⟩
def C7(c:BCU)(l:List BP)(s288_7 s288_8 s328_8 s328_9:Int)(r328_1:List BP):Cfg:=⟨328,[.blk 2,.blk 1,.seq 26,.lp 3,.blk 0],[(0,.own 1),(1,SI s288_7),(2,SI s288_8),(3,.clo 193 [0]),(8,SI s328_8),(9,SI s328_9)],[.box 39 (Ty.split tCU c),.row 37 tP r328_1],2,[⟨288,[.seq 16,.blk 1,.lp 6,.blk 0,.seq 19],15,4,[(0,.own 1),(1,SI (l.length:Int)),(2,.clo 193 [0]),(6,SI 20),(8,SI s288_8)],2,none⟩,⟨192,[],0,4,[],2,none⟩,⟨90,[.seq 6],5,2,[(1,.own 1)],0,none⟩]⟩
def gF(c:BCU)(l:List BP)(s288_7 s328_8 s328_9:Int)(r328_1:List BP):Cfg:=⟨328,[.blk 2,.blk 1,.seq 26,.lp 3,.blk 0],[(0,.own 1),(1,SI s288_7),(2,SI (l.length:Int)),(3,.clo 193 [0]),(8,SI s328_8),(9,SI s328_9)],[.box 39 (Ty.split tCU c),.row 37 tP r328_1],2,[⟨288,[.seq 21],20,4,[(0,.own 1),(1,SI (l.length:Int)),(2,.clo 193 [0]),(6,SI 20)],2,none⟩,⟨192,[],0,4,[],2,none⟩,⟨90,[.seq 6],5,2,[(1,.own 1)],0,none⟩]⟩
def jM(c:BCU)(l r328_1:List BP)(s288_6:Int):Cfg:=⟨288,[.blk 2],[(0,.own 1),(1,SI (l.length:Int)),(2,.clo 193 [0]),(6,SI s288_6)],[.box 39 (Ty.split tCU c),.row 37 tP r328_1],2,[⟨192,[],0,4,[],2,none⟩,⟨90,[.seq 6],5,2,[(1,.own 1)],0,none⟩]⟩
def D3(c:BCU)(l r328_1:List BP)(s288_6:Int):Cfg:=⟨288,[.blk 4,.seq 47,.blk 3,.lp 22,.blk 2],[(0,.own 1),(1,SI (l.length:Int)),(2,.clo 193 [0]),(6,SI s288_6),(7,SI 0),(8,SI (i64.wrap (2*s288_6)))],[.box 39 (Ty.split tCU c),.row 37 tP r328_1],2,[⟨192,[],0,4,[],2,none⟩,⟨90,[.seq 6],5,2,[(1,.own 1)],0,none⟩]⟩
def jE(c:BCU)(r328_1:List BP)(s195_5:Int):Cfg:=⟨195,[.blk 0,.seq 56],[(0,.own 1),(1,.clo 196 []),(5,SI s195_5)],[.box 39 (Ty.split tCU c),.row 37 tP r328_1],2,[⟨90,[.seq 8],7,1,[],0,none⟩]⟩
def ef(c:BCU)(r328_1:List BP)(s195_5 s195_5v s195_7:Int)(r195_1:List BP):Cfg:=⟨195,[.blk 2,.seq 49,.blk 1,.seq 55,.lp 14,.blk 0,.seq 56],[(0,.own 1),(1,.clo 196 []),(5,SI s195_5v),(6,.osl 1 20 ((s195_5:Int).toNat) (((r328_1.length:Int):Int).toNat-(s195_5:Int).toNat)),(7,SI s195_7)],[.box 39 (Ty.split tCU c),.row 37 tP r195_1],2,[⟨90,[.seq 8],7,1,[],0,none⟩]⟩
def Zj(c:BCU)(l:List BP)(k:KT):OLR:=og (decide (l.length≤100000)) (k 6 (rM c l 0 20 l))
theorem af2(c:BCU)(l:List BP):RS iM 90 [.d tCU c,.d (.sl tP) l] (Zj c l):=rsX
def tv(c:BCU)(l:List BP)(s288_7 s288_8:Int)(r288_1:List BP)(k:KT):OLR:=match decide (s288_8≤(l.length:Int))with|true=>k 3 (r7 c l s288_7 s288_8 (i64.wrap (s288_7+1)) r288_1)|false=>k 3 (eV c l s288_7 (i64.wrap (s288_7+1)) r288_1)
theorem BL(c:BCU)(l:List BP)(s288_7 s288_8:Int)(r288_1:List BP):RN iM 6 (rM c l s288_7 s288_8 r288_1) (tv c l s288_7 s288_8 r288_1):=rnX
def iw(c:BCU)(l:List BP)(s288_7 s328_8:Int)(r328_1:List BP)(k:KT):OLR:=match decide (s328_8<(l.length:Int))with|true=>k 15 (gF c l s288_7 s328_8 s328_8 r328_1)|false=>k 22 (jM c l r328_1 20)
theorem kK(c:BCU)(l:List BP)(s288_7 s328_8:Int)(r328_1:List BP):RN iM 3 (eV c l s288_7 s328_8 r328_1) (iw c l s288_7 s328_8 r328_1):=rnX
def S3(c:BCU)(l:List BP)(s288_7 s288_8 s328_8 s328_9:Int)(r328_1:List BP)(k:KT):OLR:=match decide (s328_9>s288_7)with|true=>(match aU r328_1 s328_9 with|some _=>(match true,r328_1[(s328_9).toNat]? with|true,some x1=>(match aU r328_1 (i64.wrap (s328_9-1))with|some _=>(match true,r328_1[(i64.wrap (s328_9-1)).toNat]? with|true,some x2=>(og (decide (okC 4000 c∧okP 4000 x1∧okP 4000 x2)) (match decide ((BD (dC c) (dec x1) (dec x2))<0)with|true=>(match aU r328_1 (i64.wrap (s328_9-1))with|some _=>(match true,r328_1[(i64.wrap (s328_9-1)).toNat]? with|true,some x3=>(match aU r328_1 s328_9 with|some _=>(match true,r328_1[(s328_9).toNat]? with|true,some x4=>(match aU r328_1 s328_9 with|some _=>(match true,r328_1[(s328_9).toNat]? with|true,some _=>(match aU (r328_1.set ((s328_9).toNat) x3) (i64.wrap (s328_9-1))with|some _=>(match true,(r328_1.set ((s328_9).toNat) x3)[(i64.wrap (s328_9-1)).toNat]? with|true,some _=>k 15 (C7 c l s288_7 s288_8 s328_8 (i64.wrap (s328_9-1)) ((r328_1.set ((s328_9).toNat) x3).set ((i64.wrap (s328_9-1)).toNat) x4))|_,_=>none)|none=>none)|_,_=>none)|none=>none)|_,_=>none)|none=>none)|_,_=>none)|none=>none)|false=>k 3 (r7 c l s288_7 s288_8 (i64.wrap (s328_8+1)) r328_1)))|_,_=>none)|none=>none)|_,_=>none)|none=>none)|false=>k 3 (r7 c l s288_7 s288_8 (i64.wrap (s328_8+1)) r328_1)
def gO(c:BCU)(l:List BP)(s288_7 s328_8 s328_9:Int)(r328_1:List BP)(k:KT):OLR:=match decide (s328_9>s288_7)with|true=>(match aU r328_1 s328_9 with|some _=>(match true,r328_1[(s328_9).toNat]? with|true,some x1=>(match aU r328_1 (i64.wrap (s328_9-1))with|some _=>(match true,r328_1[(i64.wrap (s328_9-1)).toNat]? with|true,some x2=>(og (decide (okC 4000 c∧okP 4000 x1∧okP 4000 x2)) (match decide ((BD (dC c) (dec x1) (dec x2))<0)with|true=>(match aU r328_1 (i64.wrap (s328_9-1))with|some _=>(match true,r328_1[(i64.wrap (s328_9-1)).toNat]? with|true,some x3=>(match aU r328_1 s328_9 with|some _=>(match true,r328_1[(s328_9).toNat]? with|true,some x4=>(match aU r328_1 s328_9 with|some _=>(match true,r328_1[(s328_9).toNat]? with|true,some _=>(match aU (r328_1.set ((s328_9).toNat) x3) (i64.wrap (s328_9-1))with|some _=>(match true,(r328_1.set ((s328_9).toNat) x3)[(i64.wrap (s328_9-1)).toNat]? with|true,some _=>k 15 (gF c l s288_7 s328_8 (i64.wrap (s328_9-1)) ((r328_1.set ((s328_9).toNat) x3).set ((i64.wrap (s328_9-1)).toNat) x4))|_,_=>none)|none=>none)|_,_=>none)|none=>none)|_,_=>none)|none=>none)|_,_=>none)|none=>none)|false=>k 3 (eV c l s288_7 (i64.wrap (s328_8+1)) r328_1)))|_,_=>none)|none=>none)|_,_=>none)|none=>none)|false=>k 3 (eV c l s288_7 (i64.wrap (s328_8+1)) r328_1)
theorem jT(c:BCU)(l:List BP)(s288_7 s328_8 s328_9:Int)(r328_1:List BP):RN iM 15 (gF c l s288_7 s328_8 s328_9 r328_1) (gO c l s288_7 s328_8 s328_9 r328_1):=rnX
def jh(c:BCU)(l r328_1:List BP)(s288_6:Int)(k:KT):OLR:=match decide (s288_6<(l.length:Int))with|true=>k 34 (D3 c l r328_1 s288_6)|false=>(match decide ((r328_1.length:Int)<2)with|true=>some [RV.new 37 tP r328_1]|false=>k 14 (jE c r328_1 1))
theorem mq(c:BCU)(l r328_1:List BP)(s288_6:Int):RN iM 22 (jM c l r328_1 s288_6) (jh c l r328_1 s288_6):=rnX
def jo(c:BCU)(r328_1:List BP)(s195_5:Int)(k:KT):OLR:=match decide (s195_5<(r328_1.length:Int))with|true=>(match aU r328_1 s195_5 with|some _=>(match true,r328_1[(s195_5).toNat]? with|true,some x1=>(match aU r328_1 (i64.wrap (s195_5-1))with|some _=>(match true,r328_1[(i64.wrap (s195_5-1)).toNat]? with|true,some x2=>(og (decide (okP 4000 x1∧okP 4000 x2)) (match aX (dec x1) (dec x2)==0 with|true=>(og (decide ((0:Int)≤s195_5∧s195_5≤(r328_1.length:Int)∧(r328_1.length:Int)≤(r328_1.length:Int))) (k 32 (ef c r328_1 s195_5 s195_5 1 r328_1)))|false=>k 14 (jE c r328_1 (i64.wrap (s195_5+1)))))|_,_=>none)|none=>none)|_,_=>none)|none=>none)|false=>some [RV.new 37 tP r328_1]
theorem lZ(c:BCU)(r328_1:List BP)(s195_5:Int):RN iM 14 (jE c r328_1 s195_5) (jo c r328_1 s195_5):=rnX
def gM(c:BCU)(r328_1:List BP)(s195_5 s195_5v s195_7:Int)(r195_1:List BP)(k:KT):OLR:=match decide (s195_7<((((r328_1.length:Int):Int).toNat-(s195_5:Int).toNat:Nat):Int))with|true=>(match true,decide ((0:Int)≤s195_7∧s195_7<((((r328_1.length:Int):Int).toNat-(s195_5:Int).toNat:Nat):Int))with|true,true=>(match true,r195_1[(s195_5:Int).toNat+(s195_7).toNat]? with|true,some x1=>(match true,decide ((0:Int)≤i64.wrap (s195_7-1)∧i64.wrap (s195_7-1)<((((r328_1.length:Int):Int).toNat-(s195_5:Int).toNat:Nat):Int))with|true,true=>(match true,r195_1[(s195_5:Int).toNat+(i64.wrap (s195_7-1)).toNat]? with|true,some x2=>(og (decide (okP 4000 x1∧okP 4000 x2)) (match !(aX (dec x1) (dec x2)==0)with|true=>(match true,decide ((0:Int)≤s195_7∧s195_7<((((r328_1.length:Int):Int).toNat-(s195_5:Int).toNat:Nat):Int))with|true,true=>(match true,r195_1[(s195_5:Int).toNat+(s195_7).toNat]? with|true,some x3=>(match aU r195_1 s195_5v with|some _=>(match true,r195_1[(s195_5v).toNat]? with|true,some _=>k 32 (ef c r328_1 s195_5 (i64.wrap (s195_5v+1)) (i64.wrap (s195_7+1)) (r195_1.set ((s195_5v).toNat) x3))|_,_=>none)|none=>none)|_,_=>none)|_,_=>none)|false=>k 32 (ef c r328_1 s195_5 s195_5v (i64.wrap (s195_7+1)) r195_1)))|_,_=>none)|_,_=>none)|_,_=>none)|_,_=>none)|false=>(og (decide ((0:Int)≤s195_5v∧s195_5v≤(r195_1.length:Int)∧(r195_1.length:Int)≤(r195_1.length:Int))) (og (decide ((0:Int)≤0∧0≤s195_5v∧s195_5v≤((jC (Ty.zero tP) ((s195_5v:Int).toNat) (((r195_1.length:Int):Int).toNat-(s195_5v:Int).toNat) r195_1).length:Int))) (some [RV.d (.sl tP) (((jC (Ty.zero tP) ((s195_5v:Int).toNat) (((r195_1.length:Int):Int).toNat-(s195_5v:Int).toNat) r195_1).drop ((0:Int).toNat)).take ((s195_5v:Int).toNat-(0:Int).toNat))])))
theorem jX(c:BCU)(r328_1:List BP)(s195_5 s195_5v s195_7:Int)(r195_1:List BP):RN iM 32 (ef c r328_1 s195_5 s195_5v s195_7 r195_1) (gM c r328_1 s195_5 s195_5v s195_7 r195_1):=rnX
theorem nV{α:Type}(L:List α)(x:α)(T:List α):(L++x::T)[L.length]?=some x:=by simp
theorem AJ{α:Type}(x y:α)(T:List α):∀L:List α,(L++x::T).set L.length y=L++y::T
 |[]=>rfl
 |a::L=>by simp[AJ x y T L]
section
variable (c:BCU) (l:List BP)
def ahJ(ys:List BP)(r:List RV):Prop:=r=[.new 37 tP ys]∨r=[.d (.sl tP) ys]
abbrev rg(i:Nat)(g:Cfg)(ys:List BP):Prop:=∃r,iM.Runs i g r∧ahJ ys r
end
section
variable (c:BCU) (l:List BP) (hc:okC 4000 c)
include hc
theorem zm(hl:l.length≤19)(i:Nat)(ys:List BP):∀(L:List BP) (a:BP) (R:List BP),(∀x∈L,okP 4000 x)→okP 4000 a→(L.reverse++a::R).length≤19→i≤19→
  rg 3 (eV c l 0 ((i+1:Nat):Int) ((lw (ltP (dC c)) L a).reverse++R)) ys→rg 15 (gF c l 0 (i:Int) (L.length:Int) (L.reverse++a::R)) ys
 |[],a,R,hL,ha,h19,hi,⟨r,⟨n,hn⟩,hr⟩=>by
  refine⟨r,jT _ _ _ _ _ _ ⟨n,?_⟩,hr⟩;unfold gO;rw[dF (show ¬((([]:List BP).length:Nat):Int)>0 by simp),bW (by omega)];exact hn
 |b::L,a,R,hL,ha,h19,hi,hnext=>by
  have hb:=hL b (by simp);have hln:L.length≤18:=by simp at h19;omega
  have hrev:(b::L).reverse++a::R=L.reverse++b::a::R:=by simp
  have e1:((b::L).length:Int)=((L.length+1:Nat):Int):=rfl;have ew:i64.wrap (((L.length+1:Nat):Int)-1)=(L.length:Int):=by rw[aT (by omega) (by omega)];omega
  have g1:(L.reverse++b::a::R)[L.length+1]?=some a:=by
   simp
  have g0:(L.reverse++b::a::R)[L.length]?=some b:=by
   simp
  have s1:(L.reverse++b::a::R).set (L.length+1) b=L.reverse++b::b::R:=by
   simp
  have s2:(L.reverse++b::b::R).set L.length a=L.reverse++a::b::R:=by
   simp
  have g2:(L.reverse++b::b::R)[L.length]?=some b:=by
   simp
  have key:∀r n,(match ltP (dC c) a b with
    |true=>iM.k n 15 (gF c l 0 (i:Int) (L.length:Int) (L.reverse++a::b::R))
    |false=>iM.k n 3 (eV c l 0 ((i+1:Nat):Int) (L.reverse++b::a::R)))=some r→
    gO c l 0 (i:Int) ((b::L).length:Int) ((b::L).reverse++a::R) (iM.k n)=some r:=fun r n h=>by
   rw[hrev,e1];unfold gO;rw[dT (show((L.length+1:Nat):Int)>0 by omega),ew,av,g1,av,g0,show((L.length+1:Nat):Int).toNat=L.length+1 by omega,show((L.length:Nat):Int).toNat=L.length by omega,g1,g0];dsimp only;rw[dT (show okC 4000 c∧okP 4000 a∧okP 4000 b from⟨hc,ha,hb⟩),s1,av,g2,s2,bW (by omega)];dsimp only;unfold ltP at h;exact h
  unfold lw at hnext;cases hlt:ltP (dC c) a b
  ·rw[hlt,cond_false]at hnext;obtain⟨r,⟨n,hn⟩,hr⟩:=hnext;refine⟨r,jT _ _ _ _ _ _ ⟨n,key r n ?_⟩,hr⟩;rw[hlt];simpa using hn
  ·rw[hlt,cond_true]at hnext;obtain⟨r,⟨n,hn⟩,hr⟩:=zm hl i ys L a (b::R) (fun x hx=>hL x (anj _ hx)) ha (by simp at h19 ⊢;omega) hi (by simpa using hnext);refine⟨r,jT _ _ _ _ _ _ ⟨n,key r n ?_⟩,hr⟩;rw[hlt];exact hn
theorem zk(hl:l.length≤19)(ys:List BP):∀(R D:List BP),(∀x∈D,okP 4000 x)→(∀x∈R,okP 4000 x)→D.length+R.length=l.length→
  rg 22 (jM c l (R.foldl (lw (ltP (dC c))) D).reverse 20) ys→rg 3 (eV c l 0 (D.length:Int) (D.reverse++R)) ys
 |[],D,hD,hR,hlen,⟨r,⟨n,hn⟩,hr⟩=>by
  refine⟨r,kK _ _ _ _ _ ⟨n,?_⟩,hr⟩;unfold iw;rw[cd (by simp at hlen;omega),anM];exact hn
 |a::R,D,hD,hR,hlen,hnext=>by
  have ha:=hR a (by simp);have hlen':D.length+(R.length+1)=l.length:=hlen
  have h1:=zk hl ys R (lw (ltP (dC c)) D a) (fun x hx=>by
   rcases mD.1 hx with e|e
   ·rw[e];exact ha
   ·exact hD x e) (fun x hx=>hR x (anj _ hx)) (by rw[tB];omega) hnext
  rw[tB]at h1;obtain⟨r,⟨n,hn⟩,hr⟩:=zm c l hc hl D.length ys D a R hD ha (by simp;omega) (by omega) h1;refine⟨r,kK _ _ _ _ _ ⟨n,?_⟩,hr⟩;unfold iw;rw[bG (by omega)];exact hn
omit hc in
theorem uT(r0:List BP)(b:Nat)(h19:r0.length≤19):∀(S K J:List BP) (p:BP),(∀x∈K++(J++p::S),okP 4000 x)→(K++(J++p::S)).length=r0.length→∀k2:Nat,1≤k2→b+k2=K.length+J.length+1→
  rg 32 (ef c r0 (b:Int) (K.length:Int) (k2:Int) (K++(J++p::S))) (K++jZ il p S)
 |[],K,J,p,hok,hlen,k2,h1,hb=>by
  refine⟨_,jX _ _ _ _ _ _ ⟨0,?_⟩,.inr rfl⟩;have hlen':K.length+(J.length+1)=r0.length:=by simpa using hlen
  unfold gM;rw[dF (show ¬(k2:Int)<(((r0.length:Int).toNat-(b:Int).toNat:Nat):Int) by omega)];dsimp only;rw[dT (show(0:Int)≤(K.length:Int)∧(K.length:Int)≤((K++(J++[p])).length:Int)∧((K++(J++[p])).length:Int)≤((K++(J++[p])).length:Int) by rw[hlen];omega)]
  have hcl:((jC (Ty.zero tP) ((K.length:Int).toNat) ((((K++(J++[p])).length:Int)).toNat-(K.length:Int).toNat) (K++(J++[p])))).take K.length=K:=by
   unfold jC;rw[show((K.length:Int)).toNat=K.length by omega,anx,List.take_append_of_le_length (by simp),aqg,Nat.min_self,List.take_left' rfl]
  have hcn:K.length≤(jC (Ty.zero tP) ((K.length:Int).toNat) ((((K++(J++[p])).length:Int)).toNat-(K.length:Int).toNat) (K++(J++[p]))).length:=by
   have:=congrArg List.length hcl;rw[anR]at this;omega
  rw[dT (show(0:Int)≤0∧0≤(K.length:Int)∧(K.length:Int)≤((jC (Ty.zero tP) ((K.length:Int).toNat) ((((K++(J++[p])).length:Int)).toNat-(K.length:Int).toNat) (K++(J++[p]))).length:Int) by omega)];rw[show((0:Int)).toNat=0 from rfl,aoK,show((K.length:Int)).toNat-0=K.length by omega,hcl];simp[jZ]
 |q::S,K,J,p,hok,hlen,k2,h1,hb=>by
  have hlen':K.length+(J.length+(S.length+1+1))=r0.length:=by simpa using hlen
  have hq:okP 4000 q:=hok q (by simp);have hp:okP 4000 p:=hok p (by simp)
  have g1:(K++(J++p::q::S))[(b:Int).toNat+(k2:Int).toNat]?=some q:=by
   rw[show(b:Int).toNat+(k2:Int).toNat=(K++(J++[p])).length by simp;omega];simp
  have ew:i64.wrap ((k2:Int)-1)=((k2-1:Nat):Int):=by rw[aT (by omega) (by omega)];omega
  have g0:(K++(J++p::q::S))[(b:Int).toNat+((k2-1:Nat):Int).toNat]?=some p:=by
   rw[show(b:Int).toNat+((k2-1:Nat):Int).toNat=(K++J).length by simp;omega];simp
  have key:∀r n,(match il q p with
    |true=>iM.k n 32 (ef c r0 (b:Int) (K.length:Int) ((k2+1:Nat):Int) (K++(J++p::q::S)))
    |false=>iM.k n 32 (ef c r0 (b:Int) ((K.length+1:Nat):Int) ((k2+1:Nat):Int) ((K++(J++p::q::S)).set K.length q)))=some r→
    gM c r0 (b:Int) (K.length:Int) (k2:Int) (K++(J++p::q::S)) (iM.k n)=some r:=fun r n h=>by
   unfold gM;rw[dT (show(k2:Int)<(((r0.length:Int).toNat-(b:Int).toNat:Nat):Int) by omega)];dsimp only;rw[dT (show(0:Int)≤(k2:Int)∧(k2:Int)<(((r0.length:Int).toNat-(b:Int).toNat:Nat):Int) by omega),g1];dsimp only;rw[ew,dT (show(0:Int)≤((k2-1:Nat):Int)∧((k2-1:Nat):Int)<(((r0.length:Int).toNat-(b:Int).toNat:Nat):Int) by omega),g0];dsimp only;rw[dT (show okP 4000 q∧okP 4000 p from⟨hq,hp⟩),bW (k:=k2) (by omega)];unfold il at h;cases he:aX (dec q) (dec p)==0<;>rw[he]at h
   ·try dsimp only[Bool.not_false]
    have g3:∃y,(K++(J++p::q::S))[K.length]?=some y:=⟨_,am6 (by simp;omega)⟩
    obtain⟨y,g3⟩:=g3;rw[av,g3,show((K.length:Int)).toNat=K.length by omega,g3,bW (k:=K.length) (by omega)];exact h
   ·exact h
  have hcm:jZ il p (q::S)=bif il q p then jZ il q S else q::jZ il q S:=rfl;rw[hcm];cases he:il q p
  ·have hset:∃J',(K++(J++p::q::S)).set K.length q=(K++[q])++(J'++q::S)∧J'.length=J.length∧∀x∈J',x∈J++[p]:=by
    cases J with
    |nil=>
     refine⟨[],?_,rfl,fun x hx=>by cases hx⟩;simp
    |cons h T=>
     refine⟨T++[p],?_,by simp,fun x hx=>by simp at hx ⊢;exact .inr hx⟩;simp
   obtain⟨J',e,eJ,mJ⟩:=hset
   obtain⟨r,⟨n,hn⟩,hr⟩:=uT r0 b h19 S (K++[q]) J' q (fun x hx=>by
    simp only[aoe,ann,ao9,aqi]at hx;rcases hx with(hx|hx)|(hx|hx|hx)
    ·exact hok x (by simp[hx])
    ·rw[hx];exact hq
    ·have:=mJ x hx;simp only[aoe,ann,ao9,aqi]at this;rcases this with h|h
     ·exact hok x (by simp[h])
     ·rw[h];exact hp
    ·rw[hx];exact hq
    ·exact hok x (by simp[hx])) (by simp;omega) (k2+1) (by omega) (by simp;omega)
   refine⟨r,jX _ _ _ _ _ _ ⟨n,key r n ?_⟩,?_⟩
   ·rw[he,e];have:(K++[q]).length=K.length+1:=by simp
    rw[this]at hn;exact hn
   ·simpa using hr
  ·have e2:K++(J++p::q::S)=K++((J++[p])++q::S):=by simp
   obtain⟨r,⟨n,hn⟩,hr⟩:=uT r0 b h19 S K (J++[p]) q (e2▸hok) (e2▸hlen) (k2+1) (by omega) (by simp;omega);refine⟨r,jX _ _ _ _ _ _ ⟨n,key r n ?_⟩,hr⟩;rw[he,e2];exact hn
omit hc in
theorem zN:∀(S A:List BP) (p:BP),(∀x∈A++p::S,okP 4000 x)→(A++p::S).length≤19→
  rg 14 (jE c (A++p::S) ((A.length+1:Nat):Int)) (A++p::jZ il p S)
 |[],A,p,hok,h19=>by
  refine⟨_,lZ _ _ _ ⟨0,?_⟩,.inl rfl⟩;unfold jo;rw[cd (by simp)];rfl
 |q::S,A,p,hok,h19=>by
  have hq:okP 4000 q:=hok q (by simp);have hp:okP 4000 p:=hok p (by simp);have h19':A.length+(S.length+1+1)≤19:=by simpa using h19
  have g1:(A++p::q::S)[A.length+1]?=some q:=by
   simp
  have g0:(A++p::q::S)[A.length]?=some p:=nV A p (q::S);have ew:i64.wrap (((A.length+1:Nat):Int)-1)=(A.length:Int):=by rw[aT (by omega) (by omega)];omega
  have key:∀r n,(match il q p with
    |true=>iM.k n 32 (ef c (A++p::q::S) ((A.length+1:Nat):Int) ((A.length+1:Nat):Int) 1 (A++p::q::S))
    |false=>iM.k n 14 (jE c (A++p::q::S) ((A.length+1+1:Nat):Int)))=some r→
    jo c (A++p::q::S) ((A.length+1:Nat):Int) (iM.k n)=some r:=fun r n h=>by
   unfold jo;rw[bG (by simp only[anJ,anp];omega),av,g1,show((A.length+1:Nat):Int).toNat=A.length+1 by omega,g1];dsimp only;rw[ew,av,g0,show((A.length:Nat):Int).toNat=A.length by omega,g0];dsimp only;rw[dT (show okP 4000 q∧okP 4000 p from⟨hq,hp⟩),bW (k:=A.length+1) (by omega),dT (show(0:Int)≤((A.length+1:Nat):Int)∧((A.length+1:Nat):Int)≤((A++p::q::S).length:Int)∧((A++p::q::S).length:Int)≤((A++p::q::S).length:Int) by simp;omega)];exact h
  have hcm:jZ il p (q::S)=bif il q p then jZ il q S else q::jZ il q S:=rfl;have e2:A++p::q::S=(A++[p])++q::S:=by simp
  rw[hcm];cases he:il q p
  ·obtain⟨r,⟨n,hn⟩,hr⟩:=zN S (A++[p]) q (e2▸hok) (e2▸h19);refine⟨r,lZ _ _ _ ⟨n,key r n ?_⟩,?_⟩
   ·rw[he,e2];have:(A++[p]).length=A.length+1:=by simp
    rw[this]at hn;exact hn
   ·rw[anx]at hr;exact hr
  ·obtain⟨r,⟨n,hn⟩,hr⟩:=uT c (A++p::q::S) (A.length+1) h19 S (A++[p]) [] q (e2▸hok) (by rw[e2];rfl) 1 (anb _) (by simp);refine⟨r,lZ _ _ _ ⟨n,key r n ?_⟩,?_⟩
   ·rw[he,e2];have:(A++[p]).length=A.length+1:=by simp
    rw[this,e2]at hn;exact hn
   ·rw[anx]at hr;exact hr
theorem Uc(hl:l.length≤19)(ho:∀x∈l,okP 4000 x):rg 6 (rM c l 0 20 l) (dh (dC c) l):=by
 have hlast:∀r:List BP,(∀x∈r,okP 4000 x)→r.length≤19→rg 22 (jM c l r 20) (vP il r):=fun r hr h19=>by
  cases r with
  |nil=>
   refine⟨_,mq _ _ _ _ ⟨0,?_⟩,.inl rfl⟩;unfold jh;rw[dF (show ¬(20:Int)<(l.length:Int) by omega)];rfl
  |cons p S=>
   cases S with
   |nil=>
    refine⟨_,mq _ _ _ _ ⟨0,?_⟩,.inl rfl⟩;unfold jh;rw[dF (show ¬(20:Int)<(l.length:Int) by omega)];rfl
   |cons q S=>
    obtain⟨r',⟨n,hn⟩,hr'⟩:=zN c (q::S) [] p hr h19;refine⟨r',mq _ _ _ _ ⟨n,?_⟩,hr'⟩;unfold jh;rw[dF (show ¬(20:Int)<(l.length:Int) by omega)];dsimp only;rw[dF (show ¬((p::q::S).length:Int)<2 by simp;omega)];simpa using hn
 have hsort:rg 22 (jM c l (tc (ltP (dC c)) l) 20) (dh (dC c) l):=hlast _ (fun x hx=>ho x (pG.1 hx)) (by rw[DE];exact hl)
 have h3:rg 3 (eV c l 0 1 l) (dh (dC c) l):=by
  cases l with
  |nil=>
   obtain⟨r,⟨n,hn⟩,hr⟩:=hsort;refine⟨r,kK _ _ _ _ _ ⟨n,?_⟩,hr⟩;unfold iw;rw[dF (show ¬(1:Int)<(([]:List BP).length:Int) by simp)];exact hn
  |cons x l=>
   have:=zk c (x::l) hc hl _ l [x] (fun y hy=>ho y (by simp at hy;simp[hy])) (fun y hy=>ho y (anj _ hy)) (by simp;omega) hsort;simpa using this
 obtain⟨r,⟨n,hn⟩,hr⟩:=h3;refine⟨r,BL _ _ _ _ _ ⟨n,?_⟩,hr⟩;unfold tv;rw[dF (show ¬(20:Int)≤(l.length:Int) by omega),aT (x:=0+1) (by omega) (by omega)];exact hn
end
def LU:Cn 90 [tCU,(.sl tP)]:=cn fun(c:BCU) (l:List BP)=>lf (lA c l) [.d (.sl tP) (dh (dC c) l)] fun h=>by
 obtain⟨hc,hl,ho⟩:=h;obtain⟨r,⟨n,hn⟩,hr⟩:=Uc c l hc hl ho
 have hres:iM.Res 90 [.d tCU c,.d (.sl tP) l] r:=by
  refine af2 _ _ ⟨n,?_⟩;unfold Zj;rw[dT (show l.length≤100000 by omega)];exact hn
 rcases hr with e|e
 ·rw[e]at hres;exact Con.new_d (et:=37) (cY G7 hres)
 ·rw[e]at hres;exact cY G7 hres
end
section
def wL(c d:BCU)(l:List BP):Prop:=lA c l∧okC 4000 d
instance (c d:BCU) (l:List BP):Decidable (wL c d l):=by unfold wL;infer_instance
theorem adP(d:BCU):(dY d).1=d.1:=by
 unfold dY;cases d.2.2.2.1<;>rfl
theorem JA{k:Nat}{d:BCU}(h:okC k d):okC k (dY d):=by
 unfold dY;cases d.2.2.2.1
 ·exact h
 ·exact PS k h
theorem Bf{c:BCU}(hc:okC 4000 c):∀{L:List BP} {f:BP},okP 4000 f→(∀x∈L,okP 4000 x)→∀p∈yU c f L,okC 4000 p
 |[],f,hf,_,p,hp=>by
  rw[List.mem_singleton.1 hp];exact⟨hc.1,hc.2.1,hf,hc.2.2.2⟩
 |x::r,f,hf,hL,p,hp=>by
  have hx:=hL x (by simp);have hr:∀y∈r,okP 4000 y:=fun y hy=>hL y (anj _ hy);unfold yU at hp;cases h:il x c.2.2.2.2.1||il x c.2.2.2.2.2<;>rw[h]at hp
  ·rcases ann.1 hp with e|e
   ·rw[e];exact⟨hc.1,hc.2.1,hf,hx⟩
   ·exact Bf hc hx hr p e
  ·exact Bf hc hf hr p hp
theorem UG{c:BCU}{l:List BP}(h:lA c l):(ru c l).length≤20∧∀p∈ru c l,okC 4000 p:=by
 obtain⟨hc,hl,ho⟩:=h;have hs:∀x∈dh (dC c) l,okP 4000 x:=fun x hx=>ho x (jO hx);have hn:(dh (dC c) l).length≤l.length:=o0
 have len:∀(L:List BP) (f:BP),(yU c f L).length≤L.length+1:=by
  intro L;induction L with
  |nil=>intro f;simp[yU]
  |cons x r ih=>
   intro f;unfold yU;cases il x c.2.2.2.2.1||il x c.2.2.2.2.2
   ·have:=ih x;simp only[cond_false,anp];omega
   ·have:=ih f;simp only[cond_true,anp];omega
 unfold ru;cases aeu c l
 ·refine⟨?_,Bf hc hc.2.2.1 hs⟩;have:=len (dh (dC c) l) c.2.2.2.2.1;simp only[cond_false];unfold adU;omega
 ·exact⟨by simp,fun p hp=>by cases hp⟩
def ND:List En:=[enT IF,enT QU,enK LU]
def abb:NT:=[((188,6),{keep:=[0,1,7,8],hl:=1}),((197,18),{keep:=[2,6,7,17,18,19],own:=[(6,39,tCU)],hl:=3}),((197,4),{keep:=[1,2,13],hl:=0}),((289,3),{keep:=[7],hl:=0}),((188,18),{keep:=[0,1,5,7,8,16],hl:=0})]
def DN:Ctx:=CX (ens ND) abb
def nY(c:BCU)(l:List BP)(s188_8:Int):Cfg:=⟨188,[.blk 0,.seq 25],[(0,.d (.sl tP) l),(1,.clo 290 [0]),(7,SI (l.length:Int)),(8,SI s188_8)],[.box 39 (Ty.split tCU c)],1,[⟨289,[.seq 4],3,2,[],1,none⟩,⟨197,[.seq 5,.seq 10],4,2,[(1,.d (.sl tP) l),(2,.box 0 0)],0,none⟩]⟩
def qu(c:BCU)(l:List BP)(s19:Int)(B1:BCU)(r2:List BCU):Cfg:=⟨197,[.blk 0,.seq 41],[(2,.box 0 0),(6,.own 2),(7,.box 1 0),(17,.d (.sl tP) (dh (dC c) l)),(18,SI ((dh (dC c) l).length:Int)),(19,SI s19)],[.box 39 (Ty.split tCU c),.box 39 (Ty.split tCU B1),.row 39 tCU r2],0,[]⟩
def agJ(c:BCU)(l:List BP)(k:KT):OLR:=k 6 (nY c l 0)
theorem ahW(c:BCU)(l:List BP):RS DN 197 [.d tCU c,.d (.sl tP) l] (agJ c l):=rsX
def oo(c:BCU)(l:List BP)(s188_8:Int)(k:KT):OLR:=match decide (s188_8<(l.length:Int))with|true=>(match aU l s188_8 with|some x1=>(match decide (okC 4000 c∧okP 4000 x1)with|true=>(match !(onP (dC c) (dec x1))with|true=>(match decide (s188_8≥0)with|true=>some [RV.d (.sl tCU) ([]),RV.d aqt 1]|false=>(match decide (lA c l)with|true=>none|false=>none))|false=>k 6 (nY c l (i64.wrap (s188_8+1))))|false=>none)|none=>none)|false=>(match decide ((-1)≥0)with|true=>some [RV.d (.sl tCU) ([]),RV.d aqt 1]|false=>(match decide (lA c l)with|true=>k 18 (qu c l 0 c ([]))|false=>none))
theorem tz(c:BCU)(l:List BP)(s188_8:Int):RN DN 6 (nY c l s188_8) (oo c l s188_8):=rnX
def uq(c:BCU)(l:List BP)(s19:Int)(B1:BCU)(r2:List BCU)(k:KT):OLR:=match decide (s19<((dh (dC c) l).length:Int))with|true=>(match aU (dh (dC c) l) s19 with|some x1=>(match decide (okP 4000 x1∧okP 4000 c.2.2.2.2.1)with|true=>(match aX (dec x1) (dec c.2.2.2.2.1)==0 with|true=>k 18 (qu c l (i64.wrap (s19+1)) B1 r2)|false=>(match decide (okP 4000 x1∧okP 4000 c.2.2.2.2.2)with|true=>(match aX (dec x1) (dec c.2.2.2.2.2)==0 with|true=>k 18 (qu c l (i64.wrap (s19+1)) B1 r2)|false=>dup (.b .l .l) (match decide ((r2.length+([(B1.1,(B1.2.1,(B1.2.2.1,(B1.2.2.2.1,(B1.2.2.2.2.1,x1)))))]).length)*1040≤140737488355328∧r2.length+([(B1.1,(B1.2.1,(B1.2.2.1,(B1.2.2.2.1,(B1.2.2.2.2.1,x1)))))]).length≤140737488355328)with|true=>k 18 (qu c l (i64.wrap (s19+1)) (B1.1,(B1.2.1,(B1.2.2.1,(B1.2.2.2.1,(x1,B1.2.2.2.2.2))))) (r2++([(B1.1,(B1.2.1,(B1.2.2.1,(B1.2.2.2.1,(B1.2.2.2.2.1,x1)))))])))|false=>none))|false=>none))|false=>none)|none=>none)|false=>(match decide ((r2.length+([B1]).length)*1040≤140737488355328∧r2.length+([B1]).length≤140737488355328)with|true=>some [RV.d (.sl tCU) (r2++([B1])),RV.d aqt 0]|false=>none)
theorem zS(c:BCU)(l:List BP)(s19:Int)(B1:BCU)(r2:List BCU):RN DN 18 (qu c l s19 B1 r2) (uq c l s19 B1 r2):=rnX
section
variable (c:BCU) (l:List BP) (h:lA c l)
include h
theorem Ix:∀(L:List BP) (i:Nat),(dh (dC c) l).drop i=L→i≤(dh (dC c) l).length→∀(f:BP) (r2:List BCU),r2.length≤i→DN.Runs 18 (qu c l (i:Int) (MY c f c.2.2.2.2.2) r2) [.d (.sl tCU) (r2++yU c f L),.d aqt (0:Int)]
 |[],i,hd,hi,f,r2,hr=>by
  have hn:(dh (dC c) l).length≤l.length:=o0;have hl:=h.2.1;have hlen:=congrArg List.length hd;rw[apX,List.length_nil]at hlen;refine zS _ _ _ _ _ ⟨0,?_⟩;unfold uq;rw[cd (by omega),anu,AX (by omega) (by omega)];rfl
 |x::r,i,hd,hi,f,r2,hr=>by
  have hn:(dh (dC c) l).length≤l.length:=o0;have hl:=h.2.1;have hlen:=congrArg List.length hd;rw[apX,anp]at hlen;have hil:i<(dh (dC c) l).length:=by omega
  have hd2:=ant hil;rw[hd2]at hd;injection hd with e1 e2;have hx:okP 4000 x:=by rw[←e1];exact h.2.2 _ (jO (anD hil))
  have g1:aU (dh (dC c) l) (i:Int)=some x:=by rw[av,am6 hil,e1]
  have ih:=Ix r (i+1) e2 (by omega);refine zS _ _ _ _ _ ?_;unfold uq yU;rw[bG hil,g1,bW (by omega)];dsimp only;rw[dT (show okP 4000 x∧okP 4000 c.2.2.2.2.1 from⟨hx,h.1.2.2.1⟩),dT (show okP 4000 x∧okP 4000 c.2.2.2.2.2 from⟨hx,h.1.2.2.2⟩)];unfold il;cases q1:aX (dec x) (dec c.2.2.2.2.1)==0
  ·cases q2:aX (dec x) (dec c.2.2.2.2.2)==0
   ·obtain⟨n,hn⟩:=ih x (r2++[MY c f x]) (by simp;omega);refine⟨n,?_⟩;rw[anx]at hn;simp only[fa];rw[anu,AX (by omega) (by omega)];exact hn
   ·exact ih f r2 (by omega)
  ·exact ih f r2 (by omega)
theorem abk:∀(j i:Nat),i+j=l.length→DN.Runs 6 (nY c l (i:Int)) [.d (.sl tCU) (bif (l.drop i).any (fun p=>!onP (dC c) (dec p))then []else adU c l),.d aqt (bif (l.drop i).any (fun p=>!onP (dC c) (dec p))then(1:Int)else 0)]:=by
 intro j;have hl:=h.2.1;induction j with
 |zero=>
  intro i hi;obtain⟨n,hn⟩:=Ix c l h (dh (dC c) l) 0 rfl (apz _) c.2.2.2.2.1 [] (anb _);refine tz _ _ _ ⟨n,?_⟩;unfold oo;rw[cd (by omega),kB (by omega)];dsimp only;rw[dF (show ¬(-1:Int)≥0 by decide),dT h];exact hn
 |succ j ih=>
  intro i hi;have hil:i<l.length:=by omega
  obtain⟨n,hn⟩:=ih (i+1) (by omega);refine tz _ _ _ ⟨n,?_⟩;unfold oo;rw[bG hil,av,am6 hil,fA hil,apS,bW (by omega)];dsimp only;rw[dT (show okC 4000 c∧okP 4000 l[i] from⟨h.1,h.2.2 _ (anD _)⟩)];cases onP (dC c) (dec l[i])
  ·dsimp only[Bool.not_false];rw[dT (show(i:Int)≥0 by omega)];rfl
  ·exact hn
end
def ajR:Cn 197 [tCU,(.sl tP)]:=cn fun(c:BCU) (l:List BP)=>lf (lA c l) [.d (.sl tCU) (ru c l),.d aqt (al3 c l)] fun h=>by
 have q:=abk c l h l.length 0 (anF _);exact cY ND (ahW _ _ q)
def aeO:List En:=[enT IF,enT QU,enL X7,enT Ro]
def Zs(d p:BCU)(_k:KT):OLR:=og (decide (okC 4000 d∧okP 4000 p.2.2.2.2.1)) (match !(onP (dC d) (dec p.2.2.2.2.1))with|true=>some [RV.d .bool false]|false=>(og (decide (okC 4000 d∧okP 4000 p.2.2.2.2.2)) (match !(onP (dC d) (dec p.2.2.2.2.2))with|true=>some [RV.d .bool false]|false=>(match !d.1 with|true=>some [RV.d .bool true]|false=>(og (decide (okP 4000 ((((((hid (dY p)).2).2).2).2).1)∧okP 4000 ((((((hid (dY d)).2).2).2).2).2))) (match aX (dec ((((((hid (dY p)).2).2).2).2).1)) (dec ((((((hid (dY d)).2).2).2).2).2))==0 with|true=>some [RV.d .bool false]|false=>(og (decide (ok Ln 300 ((((hid (dY d)).2).2).1)∧okP 4000 ((((((hid (dY p)).2).2).2).2).1)∧okP 4000 ((((((hid (dY p)).2).2).2).2).2)∧okP 4000 ((((((hid (dY d)).2).2).2).2).2))) (some [RV.d .bool (decide ((gI aW (ptd (dec ((((hid (dY d)).2).2).1)) (dec ((((((hid (dY p)).2).2).2).2).1))) (ptd (dec ((((hid (dY d)).2).2).1)) (dec ((((((hid (dY p)).2).2).2).2).2))) (ptd (dec ((((hid (dY d)).2).2).1)) (dec ((((((hid (dY d)).2).2).2).2).2))))≤0))]))))))))
def ajJ:Cn 199 [tCU,tCU]:=cn fun(d p:BCU)=>lf (okC 4000 d∧okC 4000 p) [.d .bool (CZ d p)] fun h=>by
 refine aA aeO (Zs d p) ⟨0,?_⟩;obtain⟨hd,hp⟩:=h;have hd':=JA hd;have hp':=JA hp;unfold Zs CZ frB toB il;simp only[bJ];rw[dT (show okC 4000 d∧okP 4000 p.2.2.2.2.1 from⟨hd,hp.2.2.1⟩),dT (show okC 4000 d∧okP 4000 p.2.2.2.2.2 from⟨hd,hp.2.2.2⟩)];cases onP (dC d) (dec p.2.2.2.2.1)
 ·rfl
 ·cases onP (dC d) (dec p.2.2.2.2.2)
  ·rfl
  ·cases ha:d.1
   ·rfl
   ·rw[dT (show okP 4000 (dY p).2.2.2.2.1∧okP 4000 (dY d).2.2.2.2.2 from⟨hp'.2.2.1,hd'.2.2.2⟩),dT (show ok Ln 300 (dY d).2.2.1∧okP 4000 (dY p).2.2.2.2.1∧okP 4000 (dY p).2.2.2.2.2∧okP 4000 (dY d).2.2.2.2.2 from⟨(hd'.1 ((adP d).trans ha)).1,hp'.2.2.1,hp'.2.2.2,hd'.2.2.2⟩)];cases aX (dec (dY p).2.2.2.2.1) (dec (dY d).2.2.2.2.2)==0<;>rfl
def PR:List En:=[enK ajR,enT ajJ]
def acd:NT:=[((69,6),{keep:=[0,1,7,8],hl:=2}),((91,5),{keep:=[17],hl:=0}),((71,3),{keep:=[7],hl:=0}),((69,18),{keep:=[0,1,5,7,8,16],hl:=0})]
def PU:Ctx:=CX (ens PR) acd
def qz(c d:BCU)(l:List BP)(s69_8:Int):Cfg:=⟨69,[.blk 0,.seq 25],[(0,.d (.sl tCU) (ru c l)),(1,.clo 198 [1]),(7,SI ((ru c l).length:Int)),(8,SI s69_8)],[.box 39 (Ty.split tCU c),.box 39 (Ty.split tCU d)],2,[⟨71,[.seq 4],3,2,[],2,none⟩,⟨91,[.seq 6],5,2,[],0,none⟩]⟩
def XH(c d:BCU)(l:List BP)(k:KT):OLR:=og (decide (lA c l)) (k 6 (qz c d l 0))
theorem aiw(c d:BCU)(l:List BP):RS PU 91 [.d tCU c,.d tCU d,.d (.sl tP) l] (XH c d l):=rsX
def oY(c d:BCU)(l:List BP)(s69_8:Int)(k:KT):OLR:=match decide (s69_8<((ru c l).length:Int))with|true=>(match aU (ru c l) s69_8 with|some x1=>(og (decide (okC 4000 d∧okC 4000 x1)) (match CZ d x1 with|true=>some [RV.d .bool (decide (s69_8≥0))]|false=>k 6 (qz c d l (i64.wrap (s69_8+1)))))|none=>none)|false=>some [RV.d .bool (decide ((-1)≥0))]
theorem vL(c d:BCU)(l:List BP)(s69_8:Int):RN PU 6 (qz c d l s69_8) (oY c d l s69_8):=rnX
theorem adb(c d:BCU)(l:List BP)(h:wL c d l):∀(j i:Nat),i+j=(ru c l).length→PU.Runs 6 (qz c d l (i:Int)) [.d .bool (((ru c l).drop i).any (CZ d))]:=by
 obtain⟨hn,ho⟩:=UG h.1;intro j;induction j with
 |zero=>
  intro i hi;refine vL _ _ _ _ ⟨0,?_⟩;unfold oY;rw[cd (by omega),kB (by omega)];rfl
 |succ j ih=>
  intro i hi;have hil:i<(ru c l).length:=by omega
  obtain⟨n,hn⟩:=ih (i+1) (by omega);refine vL _ _ _ _ ⟨n,?_⟩;unfold oY;rw[bG hil,av,am6 hil,fA hil,apS,bW (by omega)];dsimp only;rw[dT (show okC 4000 d∧okC 4000 (ru c l)[i] from⟨h.2,ho _ (anD _)⟩)];cases CZ d (ru c l)[i]
  ·exact hn
  ·dsimp only;rw[dT (show(i:Int)≥0 by omega)];rfl
def Zy:Cn 91 [tCU,tCU,(.sl tP)]:=cn fun(c d:BCU) (l:List BP)=>lf (wL c d l) [.d .bool (yA c d l)] fun h=>by
 obtain⟨n,hn⟩:=adb c d l h (ru c l).length 0 (anF _);refine cY PR (aiw _ _ _ ⟨n,?_⟩);unfold XH;rw[dT h.1];exact hn
end
end Go.Proofs.YtnkndpoojnflmaaGreat
end
