/- The distance of any point: the program's Point. -/
import Derived.Test.YtnkndpoojnflmaaGreatH14
import Derived.Test.YtnkndpoojnflmaaGreatH15
import Derived.Test.YtnkndpoojnflmaaGreatH6
import Derived.ProofKit
import Derived.OpenShut
import Derived.ChangeSame
import Derived.Deep.Slices
import Derived.Test.YtnkndpoojnflmaaGreatH16
import Derived.Test.YtnkndpoojnflmaaGreatH13
noncomputable section
namespace Go.Proofs.YtnkndpoojnflmaaGreat
open Go.RowKit Go.IntKind
section
instance alr {a b c d e f:Rat} {i1 i2 i3 i4 i5 i6:Nat} [h1:Bd a i1] [h2:Bd b i2] [h3:Bd c i3] [h4:Bd d i4] [h5:Bd e i5] [h6:Bd f i6]:Bd ((a,b,c,d,e,f):Qd) (mx i1 (mx i2 (mx i3 (mx i4 (mx i5 i6))))):=inferInstance
instance ajI {p:Pt} {v:Rat×Rat} {j k:Nat} [h:Bd p j] [h':Bd v k]:Bd (rcX p v) (j+k+1):=by
 have a:Bd (p.1-v.1) _:=inferInstance
 have b:Bd p.2.1 j:=inferInstance
 have i:Bd ((p.1-v.1,p.2.1):Rat×Rat) _:=inferInstance
 exact i.mono (cV (by omega) (by omega))
instance aj5 {p:Pt} {v:Rat×Rat} {j k:Nat} [h:Bd p j] [h':Bd v k]:Bd (rcY p v) (j+k+1):=by
 have a:Bd (p.2.2.1-v.2) _:=inferInstance
 have b:Bd p.2.2.2.1 j:=inferInstance
 have i:Bd ((p.2.2.1-v.2,p.2.2.2.1):Rat×Rat) _:=inferInstance
 exact i.mono (cV (by omega) (by omega))
instance akC {p q:Pt} {j k:Nat} [h:Bd p j] [h':Bd q k]:Bd (noQ p q) (j+k):=by
 have hj:1≤j:=nI (show bdR j p.1 from(inferInstance:Bd p.1 j).le)
 have z:Bd (0:Rat) (j+k):=⟨bJ lR.le (by omega)⟩
 have a:Bd p.2.2.2.2 (j+k):=(inferInstance:Bd p.2.2.2.2 j).mono (by omega)
 have b:Bd q.2.2.2.2 (j+k):=(inferInstance:Bd q.2.2.2.2 k).mono (by omega)
 have i:Bd ((0,0,0,0,p.2.2.2.2,q.2.2.2.2):Qd) _:=inferInstance
 have e:∀n,mx n n=n:=fun n=>by unfold mx;rw[alF (alL n)];rfl
 simp only[e]at i
 exact i
instance akR {q:Qd} {x y:Rat×Rat} {s:Rat} {i j k l:Nat} [h:Bd q i] [h1:Bd x j] [h2:Bd y k] [h3:Bd s l]:Bd (prQ q x y s) (i+l+j+k+1):=by
 have a1:Bd (q.1+s*(x.1*y.1)) (i+(l+(j+k))+1):=inferInstance
 have a2:Bd (q.2.1+s*(x.2*y.1)) (i+(l+(j+k))+1):=inferInstance
 have a3:Bd (q.2.2.1+s*(x.1*y.2)) (i+(l+(j+k))+1):=inferInstance
 have a4:Bd (q.2.2.2.1+s*(x.2*y.2)) (i+(l+(j+k))+1):=inferInstance
 have a5:Bd q.2.2.2.2.1 (i+(l+(j+k))+1):=(inferInstance:Bd q.2.2.2.2.1 i).mono (by omega)
 have a6:Bd q.2.2.2.2.2 (i+(l+(j+k))+1):=(inferInstance:Bd q.2.2.2.2.2 i).mono (by omega)
 have i6:Bd ((q.1+s*(x.1*y.1),q.2.1+s*(x.2*y.1),q.2.2.1+s*(x.1*y.2),q.2.2.2.1+s*(x.2*y.2),q.2.2.2.2.1,q.2.2.2.2.2):Qd) _:=inferInstance
 have e:∀n,mx n n=n:=fun n=>by unfold mx;rw[alF (alL n)];rfl
 simp only[e]at i6
 exact i6.mono (by omega)
theorem P2{q:Qd}{k:Nat}[h:Bd q k](hk:k≤6000)(h5:0≤q.2.2.2.2.1)(h6:0≤q.2.2.2.2.2):decide (okQ (enc q))=true:=by
 have n5:Nn q.2.2.2.2.1:=⟨h5⟩
 have n6:Nn q.2.2.2.2.2:=⟨h6⟩
 show decide (okQ (enc ((q.1,q.2.1,q.2.2.1,q.2.2.2.1,q.2.2.2.2.1,q.2.2.2.2.2):Qd)))=true
 exact zQ (a:=k) (b:=k) (c:=k) (d:=k) (m:=k) (n:=k) (by omega) (by omega) (by omega) (by omega) (by omega) (by omega)
instance alv:Bd z2 1:=(inferInstance:Bd ((0,0):Rat×Rat) _)
theorem aj7(p:Pt)(v:Rat×Rat):(sqP p v).1=sqA p v:=by
 show(coR (sqA p v) (sqB p v) p.2.2.2.2).1=_
 unfold coR
 cases decide (sqB p v=0)<;>rfl
theorem aaR(p:Pt)(v:Rat×Rat):(sqP p v).2.1=sqB p v:=by
 show(coR (sqA p v) (sqB p v) p.2.2.2.2).2.1=_
 unfold coR
 by_cases e:sqB p v=0
 ·rw[alF e,e];rfl
 ·rw[alH e];rfl
theorem YR(p:Pt)(v:Rat×Rat):(sqP p v).2.1=0∨(sqP p v).2.2=p.2.2.2.2:=by
 show(coR (sqA p v) (sqB p v) p.2.2.2.2).2.1=0∨(coR (sqA p v) (sqB p v) p.2.2.2.2).2.2=_
 unfold coR
 cases decide (sqB p v=0)
 ·exact .inr rfl
 ·exact .inl rfl
theorem aaS{p q:Pt}{r:Rat}[bp:Bd p 580][bq:Bd q 580][br:Bd r 1000](hp:0≤p.2.2.2.2)(hq:0≤q.2.2.2.2):decide (okQ (enc (apQ p q r)))=true:=by
 have n1:Nn p.2.2.2.2:=⟨hp⟩
 have n2:Nn q.2.2.2.2:=⟨hq⟩
 have b2:Bd (-2:Rat) 3:=cQ (n:= -2) (by decide)
 have bD:Bd (doQ z2 p q) 3496:=(inferInstance:Bd (prQ (prQ (noQ p q) (rcX p z2) (rcX q z2) (-2)) (rcY p z2) (rcY q z2) (-2)) _).mono (by decide)
 have bA:Bd ((doQ z2 p q).1+(sqA p z2+sqA q z2)-r*r) _:=inferInstance
 have bB:Bd ((doQ z2 p q).2.1+sqB p z2) _:=inferInstance
 have bC:Bd ((doQ z2 p q).2.2.1+sqB q z2) _:=inferInstance
 have bE:Bd (doQ z2 p q).2.2.2.1 3496:=inferInstance
 exact zQ (h1:=bA) (h2:=bB) (h3:=bC) (h4:=bE) (by decide) (by decide) (by decide) (by decide) (by decide) (by decide)
namespace RE
theorem aih(a b c d:RE):a*d-b*c= -(c*b-d*a):=by grind
theorem Q7(u w:PE):crs u w= -crs w u:=aih _ _ _ _
theorem turS_anti(v:Rat×Rat)(p q:PE):turS v p q= -turS v q p:=by
 unfold turS
 rw[Q7,rI]
theorem wit_eq(c:Cv)(p:PE):witE c p=AR (turS (ctr (ciC c)) (pR (ccF c)) (pR (ccT c))) (turS (ctr (ciC c)) (pR (ccF c)) p) (turS (ctr (ciC c)) p (pR (ccT c))):=rfl
theorem wit_go(a b c:Int):(match decide (a≥0)with|true=>(match decide (b≥0)with|true=>some [RV.d .bool (decide (c≥0))]|false=>some [RV.d .bool false])|false=>(match decide (-c≤0)with|true=>some [RV.d .bool true]|false=>some [RV.d .bool (decide (-b≤0))]))=some [RV.d .bool (AR a b c)]:=by
 have h1:decide (-c≤0)=decide (0≤c):=amc.2 (by omega)
 have h2:decide (-b≤0)=decide (0≤b):=amc.2 (by omega)
 have h3:decide (c<0)=!decide (0≤c):=by rw[←decide_not];exact amc.2 (by omega)
 have h4:decide (b<0)=!decide (0≤b):=by rw[←decide_not];exact amc.2 (by omega)
 unfold AR
 simp only[h1,h2,h3,h4,ge_iff_le]
 cases decide (0≤a)<;>cases decide (0≤b)<;>cases decide (0≤c)<;>rfl
open Classical in
theorem bes_E{c:Cv}[hf:Rpd (frC c)][ht:Rpd (toC c)]{p:Pt}[hp:Rpd p]:besE c (pR p)=rS c p:=by
 unfold besE
 rw[anv,amL]
 exact xN.symm
theorem min_if(a b:Int):(if b<a then b else a)=min a b:=by
 split<;>omega
theorem wr_sg(x:RE):i64.wrap (0-sg x)= -sg x:=by
 rcases bh x with⟨_,e⟩|⟨_,e⟩|⟨_,e⟩<;>rw[e]<;>rfl
theorem abN(a b m t:RE):a*a+m*(b*b)+2*(a*b)*t=(a+b*t)*(a+b*t)+(m-t*t)*(b*b):=by grind
theorem abQ(A B C x y z w t:RE):A*x+B*y-C+(A*z+B*w)*t=A*(x+z*t)+B*(y+w*t)-C:=by grind
theorem vR_lin(l:Ln){p:Pt}[hp:Rpd p]:vR (mkR (qH l p*qH l p+p.2.2.2.2*(qI l p*qI l p)) (2*(qH l p*qI l p)) p.2.2.2.2)=exE l (pR p)*exE l (pR p):=by
 have e:exE l (pR p)=of (qH l p)+of (qI l p)*rq p.2.2.2.2:=by
  unfold exE pR pX pY v2 qH qI
  dsimp only
  rw[of_sub,of_add,of_add,aF,aF,aF,aF,abQ]
 have two:of 2=2:=rfl
 rw[vR_mk,e]
 unfold v2
 rw[of_add,aF,aF,aF,aF,aF,two,abN,fS hp.nn,sub_self,zero_mul,add_zero]
theorem sq_zr{p:Pt}[hp:Rpd p]{v:Rat×Rat}:(sgR (sqP p v)==0)=true↔pR p=vE v:=by
 have hr:Rdd (sqP p v):=inferInstance
 rw[E5 hr.nn,amR,pP,vR_sq]
 constructor
 ·intro e
  obtain⟨a,b⟩:=wi e
  exact amV (fY _ _ a) (fY _ _ b)
 ·intro e
  rw[e]
  unfold dsE
  rw[sub_self,sub_self,mul_zero,add_zero]
end RE
def abV:List En:=[⟨41,fC,dQ⟩,enL afu]
def Zs(r:BO3)(_k:KT):Option (List RV):=match decide (okR r.1)with|true=>(match decide (okR r.2.1)with|true=>(match(aG (ah r.2.1) 0)==0 with|true=>some [RV.d aoX (aG (ah r.1) 0)]|false=>(match(aG (ah r.1) 0)==(aG (ah r.2.1) 0)with|true=>some [RV.d aoX (aG (ah r.1) 0)]|false=>(match(aG (ah r.1) 0)==0 with|true=>some [RV.d aoX (aG (ah r.2.1) 0)]|false=>(match decide (ok Rt 15000 r)with|true=>(match decide (okR (hid (am (noR (dec r)))))with|true=>some [RV.d aoX (i64.wrap ((aG (ah r.1) 0)*(aG (ah (hid (am (noR (dec r))))) 0)))]|false=>none)|false=>none))))|false=>none)|false=>none
def agI:Cn 103 [tO]:=cn fun(r:BO3)=>lf (okT 15000 r) [.d aoX (sgR (dec r))] fun h=>by
 refine aA abV (Zs r) ⟨0,?_⟩
 have hr:=h
 obtain⟨r,rfl,br,rr⟩:=gg hr
 unfold Zs
 simp only[bO,az,rY,AC,eO,cA,okd,H5,Nat.reduceAdd,Nat.reduceMul,Nat.reduceLeDiff,AO (jX _ _) (jX _ _)]
 rw[WN rr]
 cases aG r.2.1 0==0
 ·cases aG r.1 0==aG r.2.1 0
  ·cases aG r.1 0==0<;>rfl
  ·rfl
 ·rfl
def Am:List En:=[⟨41,fC,dQ⟩,⟨109,kG,gD⟩,⟨99,iA,eW⟩,⟨108,gO,eM⟩,⟨73,lY,iu⟩,⟨107,iO,fk⟩,⟨106,ie,fc⟩,enL Wq,enL PS,enL zv,enL Zc,enT Ef,enT LC,enL Nr,enL HZ,enL L9,enL Yg,enL Zr,enT Z7,enT Nm,enT agI]
def We(p:BP)(v:BV)(_k:KT):Option (List RV):=ce (og (o2 p.1 v.1) (ce (og (o2 p.2.2.1 v.2) (dup (.b .l .l) (some [RV.d tV (hSu p.1 v.1,p.2.1),RV.d tV (hSu p.2.2.1 v.2,p.2.2.2.1)]))) (og (o2 p.2.2.1 v.2) (some [RV.d tV (hSu p.1 v.1,p.2.1),RV.d tV (hSu p.2.2.1 v.2,p.2.2.2.1)])))) (og (o2 p.1 v.1) (og (o2 p.2.2.1 v.2) (some [RV.d tV (hSu p.1 v.1,p.2.1),RV.d tV (hSu p.2.2.1 v.2,p.2.2.2.1)])))
def ago:Cn 200 [tP,tV]:=cn fun(p:BP) (v:BV)=>lf (okP 580 p∧ok (Rat×Rat) 400 v) [.d tV (enc (rcX (dec p) (dec v))),.d tV (enc (rcY (dec p) (dec v)))] fun h=>by
 refine aA Am (We p v) ⟨0,?_⟩
 obtain⟨hp,hv⟩:=h
 obtain⟨p,rfl,bp,rp⟩:=a9 hp
 obtain⟨v,rfl,bv⟩:=aB hv
 unfold We
 simp only[aS,Nat.reduceLeDiff]
 try rfl
def Z2(q:BQ)(x y:BV)(s:Int)(_k:KT):Option (List RV):=og (decide (aH s)) (og (o2 x.1 y.1) (og (o2 (hid (am (s:Rat))) (hMu x.1 y.1)) (og (o2 q.1 (hMu (hid (am (s:Rat))) (hMu x.1 y.1))) (og (o2 x.2 y.1) (og (o2 (hid (am (s:Rat))) (hMu x.2 y.1)) (og (o2 q.2.1 (hMu (hid (am (s:Rat))) (hMu x.2 y.1))) (og (o2 x.1 y.2) (og (o2 (hid (am (s:Rat))) (hMu x.1 y.2)) (og (o2 q.2.2.1 (hMu (hid (am (s:Rat))) (hMu x.1 y.2))) (og (o2 x.2 y.2) (og (o2 (hid (am (s:Rat))) (hMu x.2 y.2)) (og (o2 q.2.2.2.1 (hMu (hid (am (s:Rat))) (hMu x.2 y.2))) (some [RV.d tQ (hAd q.1 (hMu (hid (am (s:Rat))) (hMu x.1 y.1)),(hAd q.2.1 (hMu (hid (am (s:Rat))) (hMu x.2 y.1)),(hAd q.2.2.1 (hMu (hid (am (s:Rat))) (hMu x.1 y.2)),(hAd q.2.2.2.1 (hMu (hid (am (s:Rat))) (hMu x.2 y.2)),q.2.2.2.2))))])))))))))))))
def ahw:Cn 201 [tQ,tV,tV,aoX]:=cn fun(q:BQ) (x y:BV) (s:Int)=>lf (ok Qd 12000 q∧ok (Rat×Rat) 2500 x∧ok (Rat×Rat) 2500 y∧aH s) [.d tQ (enc (prQ (dec q) (dec x) (dec y) (s:Rat)))] fun h=>by
 refine aA Am (Z2 q x y s) ⟨0,?_⟩
 obtain⟨hq,hx,hy,hs⟩:=h
 obtain⟨q,rfl,bq⟩:=aB hq
 obtain⟨x,rfl,bx⟩:=aB hx
 obtain⟨y,rfl,b_y⟩:=aB hy
 have bs:=cQ hs
 unfold Z2
 simp only[aS,Nat.reduceAdd,Nat.reduceLeDiff,dT hs]
 try rfl
def W4(p q:BP)(_k:KT):Option (List RV):=og (decide (aH (0:Int))) (some [RV.d tQ (hid (am ((0:Int):Rat)),(hid (am ((0:Int):Rat)),(hid (am ((0:Int):Rat)),(hid (am ((0:Int):Rat)),(p.2.2.2.2,q.2.2.2.2)))))])
def ad7:Cn 202 [tP,tP]:=cn fun(p q:BP)=>lf (okP 580 p∧okP 580 q) [.d tQ (enc (noQ (dec p) (dec q)))] fun h=>by
 refine aA Am (W4 p q) ⟨0,?_⟩
 obtain⟨hp,hq⟩:=h
 obtain⟨p,rfl,bp,rp⟩:=a9 hp
 obtain⟨q,rfl,bq,rq⟩:=a9 hq
 unfold W4
 simp only[aS,dT (show aH 0 by decide)]
 try rfl
def Bc:List En:=enL ago::enL ahw::enL ad7::Am
def XU(v:BV)(p q:BP)(_k:KT):Option (List RV):=og (decide (okP 580 p∧ok (Rat×Rat) 400 v)) (og (decide (okP 580 q∧ok (Rat×Rat) 400 v)) (og (decide (okP 580 p∧okP 580 q)) (og (decide (ok Qd 12000 (hid (enc (noQ (dec p) (dec q))))∧ok (Rat×Rat) 2500 (hid (enc (rcX (dec p) (dec v))))∧ok (Rat×Rat) 2500 (hid (enc (rcY (dec q) (dec v))))∧aH (1:Int))) (og (decide (ok Qd 12000 (hid (enc (prQ (dec (hid (enc (noQ (dec p) (dec q))))) (dec (hid (enc (rcX (dec p) (dec v))))) (dec (hid (enc (rcY (dec q) (dec v))))) ((1:Int):Rat))))∧ok (Rat×Rat) 2500 (hid (enc (rcY (dec p) (dec v))))∧ok (Rat×Rat) 2500 (hid (enc (rcX (dec q) (dec v))))∧aH ((-1):Int))) (og (decide (okQ (hid (enc (prQ (dec (hid (enc (prQ (dec (hid (enc (noQ (dec p) (dec q))))) (dec (hid (enc (rcX (dec p) (dec v))))) (dec (hid (enc (rcY (dec q) (dec v))))) ((1:Int):Rat))))) (dec (hid (enc (rcY (dec p) (dec v))))) (dec (hid (enc (rcX (dec q) (dec v))))) (((-1):Int):Rat)))))) (some [RV.d aoX (sgQ (dec (hid (enc (prQ (dec (hid (enc (prQ (dec (hid (enc (noQ (dec p) (dec q))))) (dec (hid (enc (rcX (dec p) (dec v))))) (dec (hid (enc (rcY (dec q) (dec v))))) ((1:Int):Rat))))) (dec (hid (enc (rcY (dec p) (dec v))))) (dec (hid (enc (rcX (dec q) (dec v))))) (((-1):Int):Rat))))))]))))))
def agc:Cn 213 [tV,tP,tP]:=cn fun(v:BV) (p q:BP)=>lf (ok (Rat×Rat) 400 v∧okP 580 p∧okP 580 q) [.d aoX (RE.turS (dec v) (RE.pR (dec p)) (RE.pR (dec q)))] fun h=>by
 refine aA Bc (XU v p q) ⟨0,?_⟩
 obtain⟨hv,hp,hq⟩:=h
 obtain⟨v,rfl,bv⟩:=aB hv
 obtain⟨p,rfl,bp,rp⟩:=a9 hp
 obtain⟨q,rfl,bq,rq⟩:=a9 hq
 have h1:decide (aH 1)=true:=by decide
 have h2:decide (aH (-1))=true:=by decide
 have c1:((1:Int):Rat)=1:=rfl
 have c2:((-1:Int):Rat)= -1:=rfl
 have b1:Bd (1:Rat) 3:=cQ (n:=1) (by decide)
 have b2:Bd (-1:Rat) 3:=cQ (n:= -1) (by decide)
 have n1:Bd (prQ (prQ (noQ p q) (rcX p v) (rcY q v) 1) (rcY p v) (rcX q v) (-1)) _:=inferInstance
 have o1:decide (okQ (enc (prQ (prQ (noQ p q) (rcX p v) (rcY q v) 1) (rcY p v) (rcX q v) (-1))))=true:=P2 (k:=6000) (h:=n1.mono (by decide)) (by decide) rp.nn rq.nn
 unfold XU
 simp only[aS,Nat.reduceAdd,Nat.reduceLeDiff,aJ,h1,h2,c1,c2,o1]
 rw[←RE.crQ_re]
 rfl
def Wv(a:BO3)(c:BR)(_k:KT):Option (List RV):=og (o1 a.2.1) (match(aG (ah a.2.1) 0)==0 with|true=>some [RV.d tR a.2.1]|false=>(og (o2 a.2.2 c) (match(aG (ah a.2.2) (ah c))==0 with|true=>some [RV.d tR a.2.1]|false=>(og (decide (ij a.2.2 c)) (og (o1 (hDi a.2.2 c)) (match !(fM (ah (hDi a.2.2 c)))with|true=>some [RV.d tR a.2.1]|false=>(og (o2 a.2.1 (hid (rtB (ah (hDi a.2.2 c))))) (some [RV.d tR (hMu a.2.1 (hid (rtB (ah (hDi a.2.2 c)))))]))))))))
def aee:Cn 203 [tO,tR]:=cn fun(a:BO3) (c:BR)=>lf (okT 15000 a∧ok Rat 15000 c∧((dec a:Rt).2.1=0∨(dec a:Rt).2.2=ah c)) [.d tR (am (dec a:Rt).2.1)] fun h=>by
 refine aA Bc (Wv a c) ⟨0,?_⟩
 obtain⟨ha,hc,h⟩:=h
 obtain⟨a,rfl,ba,ra⟩:=gg ha
 obtain⟨c,rfl,bc⟩:=aB hc
 rw[az,eO,cA]at h
 unfold Wv
 simp only[aS,Nat.reduceAdd,Nat.reduceLeDiff,aq]
 by_cases e:a.2.1=0
 ·rw[dT e]
 ·rw[dF e,dT (h.resolve_left e)]
def Xq(d:BO3)(q r:BR)(_k:KT):Option (List RV):=og (o2 r r) (og (o2 q (hMu r r)) (og (o2 r r) (og (decide (ok Rat 100000 (hAd q (hMu r r))∧ok Rat 100000 (hAd r r)∧ok Rat 100000 q∧0≤ah q)) (og (decide (okT 15000 d∧okT 15000 (hid (enc (mkR (ah (hAd q (hMu r r))) (ah (hAd r r)) (ah q)))))) (match decide ((a8 (dec d) (dec (hid (enc (mkR (ah (hAd q (hMu r r))) (ah (hAd r r)) (ah q))))))≥0)with|true=>some [RV.d aoX (a8 (dec d) (dec (hid (enc (mkR (ah (hAd q (hMu r r))) (ah (hAd r r)) (ah q))))))]|false=>(og (o2 r r) (og (o2 q (hMu r r)) (match decide ((aG (ah q) (ah (hMu r r)))≤0)with|true=>some [RV.d aoX (-1)]|false=>(og (o1 (hAd r r)) (og (decide (ok Rat 100000 (hAd q (hMu r r))∧ok Rat 100000 (hNe (hAd r r))∧ok Rat 100000 q∧0≤ah q)) (og (decide (okT 15000 d∧okT 15000 (hid (enc (mkR (ah (hAd q (hMu r r))) (ah (hNe (hAd r r))) (ah q)))))) (some [RV.d aoX (i64.wrap (0-(a8 (dec d) (dec (hid (enc (mkR (ah (hAd q (hMu r r))) (ah (hNe (hAd r r))) (ah q))))))))]))))))))))))
def agB:Cn 105 [tO,tR,tR]:=cn fun(d:BO3) (q r:BR)=>lf (okT 15000 d∧ok Rat 1000 q∧ok Rat 1000 r∧0≤ah q) [.d aoX (RE.rngS (RE.vR (dec d)) (ah q) (ah r))] fun h=>by
 refine aA Bc (Xq d q r) ⟨0,?_⟩
 obtain⟨hd,hq,hr,hn⟩:=h
 obtain⟨d,rfl,bd,rd⟩:=gg hd
 obtain⟨q,rfl,bq⟩:=aB hq
 obtain⟨r,rfl,br⟩:=aB hr
 rw[eO,cA]at hn
 have nq:Nn q:=⟨hn⟩
 have m:∀a b,a8 d (mkR a b q)=RE.sg (RE.vR d-RE.v2 a b q):=fun a b=>by
  rw[RE.cmpT_re rd.nn (tW (a:=a) (b:=b) (c:=q)).nn,RE.vR_mk]
 unfold Xq RE.rngS
 simp only[aS,Nat.reduceAdd,Nat.reduceLeDiff,aM,dT hn,m,ge_iff_le,RE.wr_sg]
 cases decide (0≤RE.sg (RE.vR d-RE.v2 (q+r*r) (r+r) q))
 ·cases decide (aG q (r*r)≤0)<;>rfl
 ·rfl
def EI:List En:=enT agc::enL aee::enT agB::Bc
def XG(p q:BP)(r:BR)(_k:KT):Option (List RV):=let y1:=am ((0:Int):Rat);let y2:=hid (enc (noQ (dec p) (dec q)));let y3:=dec (hid y1,hid y1);let y4:=hid (enc (rcX (dec p) y3));let y5:=hid (enc (rcX (dec q) y3));let y6:=hid (enc (prQ (dec y2) (dec y4) (dec y5) (((-2):Int):Rat)));let y7:=hid (enc (rcY (dec p) y3));let y8:=hid (enc (rcY (dec q) y3));let y9:=hid (enc (sqP (dec p) y3));let y10:=hid (enc (sqP (dec q) y3));let y11:=hid (enc (prQ (dec y6) (dec y7) (dec y8) (((-2):Int):Rat)));let y12:=hAd (y9.1) (y10.1);let y13:=hid (am (dec y9:Rt).2.1);let y14:=hid (am (dec y10:Rt).2.1);og (decide (aH (0:Int))) (og (decide (aH (0:Int))) (og (decide (okP 580 p∧ok (Rat×Rat) 400 (hid y1,hid y1))) (og (decide (okP 580 q∧ok (Rat×Rat) 400 (hid y1,hid y1))) (og (decide (okP 580 p∧okP 580 q)) (og (decide (ok Qd 12000 y2∧ok (Rat×Rat) 2500 y4∧ok (Rat×Rat) 2500 y5∧aH ((-2):Int))) (og (decide (ok Qd 12000 y6∧ok (Rat×Rat) 2500 y7∧ok (Rat×Rat) 2500 y8∧aH ((-2):Int))) (og (decide (okP 3500 p∧ok (Rat×Rat) 300 (hid y1,hid y1))) (og (decide (okP 3500 q∧ok (Rat×Rat) 300 (hid y1,hid y1))) (og (o2 (y9.1) (y10.1)) (og (o2 (y11.1) y12) (og (o2 r r) (og (o2 (hAd (y11.1) y12) (hMu r r)) (og (decide (okT 15000 y9∧ok Rat 15000 p.2.2.2.2∧((dec y9:Rt).2.1=0∨(dec y9:Rt).2.2=ah p.2.2.2.2))) (og (o2 ((y11.2).1) y13) (og (decide (okT 15000 y10∧ok Rat 15000 q.2.2.2.2∧((dec y10:Rt).2.1=0∨(dec y10:Rt).2.2=ah q.2.2.2.2))) (og (o2 (((y11.2).2).1) y14) (og (decide (okQ (hSu (hAd (y11.1) y12) (hMu r r),(hAd ((y11.2).1) y13,(hAd (((y11.2).2).1) y14,((y11.2).2).2))))) (some [RV.d aoX (sgQ (dec (hSu (hAd (y11.1) y12) (hMu r r),(hAd ((y11.2).1) y13,(hAd (((y11.2).2).1) y14,((y11.2).2).2)))))]))))))))))))))))))
def afT:Cn 93 [tP,tP,tR]:=cn fun(p q:BP) (r:BR)=>lf (okP 580 p∧okP 580 q∧ok Rat 1000 r) [.d aoX (RE.apaS (RE.pR (dec p)) (RE.pR (dec q)) (ah r))] fun h=>by
 refine aA EI (XG p q r) ⟨0,?_⟩
 obtain⟨hp,hq,hr⟩:=h
 obtain⟨p,rfl,bp,rp⟩:=a9 hp
 obtain⟨q,rfl,bq,rq⟩:=a9 hq
 obtain⟨r,rfl,br⟩:=aB hr
 have h0:decide (aH 0)=true:=by decide
 have h2:decide (aH (-2))=true:=by decide
 have c2:((-2:Int):Rat)= -2:=rfl
 have b2:Bd (-2:Rat) 3:=cQ (n:= -2) (by decide)
 have hz:((am ((0:Int):Rat),am ((0:Int):Rat)):BV)=enc z2:=rfl
 have o1:=aaS (p:=p) (q:=q) (r:=r) rp.nn rq.nn
 unfold XG
 simp only[aS,Nat.reduceAdd,Nat.reduceMul,Nat.reduceLeDiff,aM,aJ,h0,h2,c2,hz,dT (show sqB p z2=0∨(sqP p z2).2.2=p.2.2.2.2 by rw[←aaR];exact YR p z2),dT (show sqB q z2=0∨(sqP q z2).2.2=q.2.2.2.2 by rw[←aaR];exact YR q z2),aj7,aaR]
 show(match decide (okQ (enc (apQ p q r)))with|true=>some [RV.d aoX (sgQ (dec (enc (apQ p q r))))]|false=>none)=_
 rw[az,o1,RE.apQ_re]
def Y9(c:BCU)(p:BP)(_k:KT):Option (List RV):=match c.2.2.2.1 with|true=>(og (decide (ok (Rat×Rat) 400 (hid ((c.2.2.1.1,c.2.2.1.2.1)))∧okP 580 c.2.2.2.2.2∧okP 580 c.2.2.2.2.1)) (match decide ((RE.turS (dec (hid ((c.2.2.1.1,c.2.2.1.2.1)))) (RE.pR (dec c.2.2.2.2.2)) (RE.pR (dec c.2.2.2.2.1)))≥0)with|true=>(og (decide (ok (Rat×Rat) 400 (hid ((c.2.2.1.1,c.2.2.1.2.1)))∧okP 580 c.2.2.2.2.2∧okP 580 p)) (match decide ((RE.turS (dec (hid ((c.2.2.1.1,c.2.2.1.2.1)))) (RE.pR (dec c.2.2.2.2.2)) (RE.pR (dec p)))≥0)with|true=>(og (decide (ok (Rat×Rat) 400 (hid ((c.2.2.1.1,c.2.2.1.2.1)))∧okP 580 p∧okP 580 c.2.2.2.2.1)) (some [RV.d .bool (decide ((RE.turS (dec (hid ((c.2.2.1.1,c.2.2.1.2.1)))) (RE.pR (dec p)) (RE.pR (dec c.2.2.2.2.1)))≥0))]))|false=>some [RV.d .bool false]))|false=>(og (decide (ok (Rat×Rat) 400 (hid ((c.2.2.1.1,c.2.2.1.2.1)))∧okP 580 c.2.2.2.2.1∧okP 580 p)) (match decide ((RE.turS (dec (hid ((c.2.2.1.1,c.2.2.1.2.1)))) (RE.pR (dec c.2.2.2.2.1)) (RE.pR (dec p)))≤0)with|true=>some [RV.d .bool true]|false=>(og (decide (ok (Rat×Rat) 400 (hid ((c.2.2.1.1,c.2.2.1.2.1)))∧okP 580 p∧okP 580 c.2.2.2.2.2)) (some [RV.d .bool (decide ((RE.turS (dec (hid ((c.2.2.1.1,c.2.2.1.2.1)))) (RE.pR (dec p)) (RE.pR (dec c.2.2.2.2.2)))≤0))]))))))|false=>(og (decide (ok (Rat×Rat) 400 (hid ((c.2.2.1.1,c.2.2.1.2.1)))∧okP 580 c.2.2.2.2.1∧okP 580 c.2.2.2.2.2)) (match decide ((RE.turS (dec (hid ((c.2.2.1.1,c.2.2.1.2.1)))) (RE.pR (dec c.2.2.2.2.1)) (RE.pR (dec c.2.2.2.2.2)))≥0)with|true=>(og (decide (ok (Rat×Rat) 400 (hid ((c.2.2.1.1,c.2.2.1.2.1)))∧okP 580 c.2.2.2.2.1∧okP 580 p)) (match decide ((RE.turS (dec (hid ((c.2.2.1.1,c.2.2.1.2.1)))) (RE.pR (dec c.2.2.2.2.1)) (RE.pR (dec p)))≥0)with|true=>(og (decide (ok (Rat×Rat) 400 (hid ((c.2.2.1.1,c.2.2.1.2.1)))∧okP 580 p∧okP 580 c.2.2.2.2.2)) (some [RV.d .bool (decide ((RE.turS (dec (hid ((c.2.2.1.1,c.2.2.1.2.1)))) (RE.pR (dec p)) (RE.pR (dec c.2.2.2.2.2)))≥0))]))|false=>some [RV.d .bool false]))|false=>(og (decide (ok (Rat×Rat) 400 (hid ((c.2.2.1.1,c.2.2.1.2.1)))∧okP 580 c.2.2.2.2.2∧okP 580 p)) (match decide ((RE.turS (dec (hid ((c.2.2.1.1,c.2.2.1.2.1)))) (RE.pR (dec c.2.2.2.2.2)) (RE.pR (dec p)))≤0)with|true=>some [RV.d .bool true]|false=>(og (decide (ok (Rat×Rat) 400 (hid ((c.2.2.1.1,c.2.2.1.2.1)))∧okP 580 p∧okP 580 c.2.2.2.2.1)) (some [RV.d .bool (decide ((RE.turS (dec (hid ((c.2.2.1.1,c.2.2.1.2.1)))) (RE.pR (dec p)) (RE.pR (dec c.2.2.2.2.1)))≤0))]))))))
def aeE:Cn 104 [tCU,tP]:=cn fun(c:BCU) (p:BP)=>lf (uY c.2.2.1∧okP 580 c.2.2.2.2.1∧okP 580 c.2.2.2.2.2∧okP 580 p) [.d .bool (RE.witE (dC c) (RE.pR (dec p)))] fun h=>by
 refine aA EI (Y9 c p) ⟨0,?_⟩
 obtain⟨⟨hc,_⟩,hf,ht,hp⟩:=h
 obtain⟨p,rfl,bp,rp⟩:=a9 hp
 obtain⟨ar,li,ci,cw,fr,to⟩:=c
 simp only at hc hf ht
 obtain⟨ci,rfl,bc⟩:=aB hc
 obtain⟨fr,rfl,bf,rf⟩:=a9 hf
 obtain⟨to,rfl,bt,rt⟩:=a9 ht
 have e0:((am ci.1,am ci.2.1):BV)=enc (ctr ci):=rfl
 unfold Y9
 rw[RE.wit_eq]
 simp only[aS,Nat.reduceLeDiff,aJ,e0]
 cases cw
 ·simp only[aS,dC,ciC,ccF,ccT,cwC,frC,toC]
  rw[RE.turS_anti (ctr ci) (RE.pR to) (RE.pR p),RE.turS_anti (ctr ci) (RE.pR p) (RE.pR fr)]
  exact RE.wit_go _ _ _
 ·simp only[aS,dC,ciC,ccF,ccT,cwC,frC,toC]
  rw[RE.turS_anti (ctr ci) (RE.pR fr) (RE.pR p),RE.turS_anti (ctr ci) (RE.pR p) (RE.pR to)]
  exact RE.wit_go _ _ _
def Rp:List En:=enT afT::enT aeE::EI
def ada:NT:=[((43,21),{keep:=[25],hl:=0}),((43,49),{keep:=[107],hl:=0})]
def afC:Ctx:=CX (ens Rp) ada
def Zu(c:BCU)(p:BP)(r:BR)(_k:KT):Option (List RV):=let y1:=RE.pR (dec c.2.2.2.2.2);let y2:=RE.pR (dec c.2.2.2.2.1);let y3:Option (List RV):=match decide (okP 580 c.2.2.2.2.1∧okP 580 p∧ok Rat 1000 r)with|true=>(match decide (okP 580 c.2.2.2.2.2∧okP 580 p∧ok Rat 1000 r)with|true=>some [RV.d aoX (if RE.apaS y1 (RE.pR (dec p)) (ah r)<RE.apaS y2 (RE.pR (dec p)) (ah r)then RE.apaS y1 (RE.pR (dec p)) (ah r)else RE.apaS y2 (RE.pR (dec p)) (ah r))]|false=>none)|false=>none;let y4:=hMu c.2.1.2.1 p.2.2.1;let y5:=hAd (hMu c.2.1.1 p.1) y4;let y6:=hMu c.2.1.2.1 p.2.2.2.1;let y7:=hSu y5 c.2.1.2.2;let y8:=hAd (hMu c.2.1.1 p.2.1) y6;let y9:=hMu p.2.2.2.2 (hMu y8 y8);let y10:=hid (am ((2:Int):Rat));let y11:=hAd (hMu y7 y7) y9;let y12:=hMu y10 (hMu y7 y8);let y13:=hMu c.2.1.1 c.2.1.1;let y14:=hMu c.2.1.2.1 c.2.1.2.1;let y15:=hid (enc (mkR (ah y11) (ah y12) (ah p.2.2.2.2)));let y16:=hMu (hMu r r) (hAd y13 y14);let y17:=hid ((c.2.2.1.1,c.2.2.1.2.1));let y18:=hid (enc (sqP (dec p) (dec y17)));match decide (okR r)with|true=>(match decide ((aG (ah r) 0)<0)with|true=>some [RV.d aoX 1]|false=>(match !c.1 with|true=>(match decide (okC 3000 c∧okP 3000 p∧c.1=false)with|true=>(match !(rS (dC c) (dec p))with|true=>y3|false=>(match decide (okR c.2.1.1∧okR p.1)with|true=>(match decide (okR c.2.1.2.1∧okR p.2.2.1)with|true=>(match decide (okR (hMu c.2.1.1 p.1)∧okR y4)with|true=>(match decide (okR y5∧okR c.2.1.2.2)with|true=>(match decide (okR c.2.1.1∧okR p.2.1)with|true=>(match decide (okR c.2.1.2.1∧okR p.2.2.2.1)with|true=>(match decide (okR (hMu c.2.1.1 p.2.1)∧okR y6)with|true=>(match decide (okR y7∧okR y7)with|true=>(match decide (okR y8∧okR y8)with|true=>(match decide (okR p.2.2.2.2∧okR (hMu y8 y8))with|true=>(match decide (okR (hMu y7 y7)∧okR y9)with|true=>(match decide (aH (2:Int))with|true=>(match decide (okR y7∧okR y8)with|true=>(match decide (okR y10∧okR (hMu y7 y8))with|true=>(match decide (ok Rat 100000 y11∧ok Rat 100000 y12∧ok Rat 100000 p.2.2.2.2∧0≤ah p.2.2.2.2)with|true=>(match decide (okR r∧okR r)with|true=>(match decide (okR c.2.1.1∧okR c.2.1.1)with|true=>(match decide (okR c.2.1.2.1∧okR c.2.1.2.1)with|true=>(match decide (okR y13∧okR y14)with|true=>(match decide (okR (hMu r r)∧okR (hAd y13 y14))with|true=>(match decide (okT 15000 y15∧ok Rat 15000 y16)with|true=>some [RV.d aoX (fN (dec y15) (ah y16))]|false=>none)|false=>none)|false=>none)|false=>none)|false=>none)|false=>none)|false=>none)|false=>none)|false=>none)|false=>none)|false=>none)|false=>none)|false=>none)|false=>none)|false=>none)|false=>none)|false=>none)|false=>none)|false=>none)|false=>none)|false=>none))|false=>none)|false=>(match decide (okP 3500 p∧ok (Rat×Rat) 300 y17)with|true=>(match decide (okT 15000 y18)with|true=>(match(sgR (dec y18))==0 with|true=>(match decide (okR r∧okR r)with|true=>(match decide (okR c.2.2.1.2.2∧okR (hMu r r))with|true=>some [RV.d aoX (aG (ah c.2.2.1.2.2) (ah (hMu r r)))]|false=>none)|false=>none)|false=>(match decide (uY c.2.2.1∧okP 580 c.2.2.2.2.1∧okP 580 c.2.2.2.2.2∧okP 580 p)with|true=>(match !(RE.witE (dC c) (RE.pR (dec p)))with|true=>y3|false=>(match decide (okT 15000 y18∧ok Rat 1000 c.2.2.1.2.2∧ok Rat 1000 r∧0≤ah c.2.2.1.2.2)with|true=>some [RV.d aoX (RE.rngS (RE.vR (dec y18)) (ah c.2.2.1.2.2) (ah r))]|false=>none))|false=>none))|false=>none)|false=>none)))|false=>none
theorem af2(c:BCU)(p:BP)(r:BR):RS afC 43 [.d tCU c,.d tP p,.d tR r] (Zu c p r):=rsX
open Classical in
def ae5:Cn 43 [tCU,tP,tR]:=cn fun(c:BCU) (p:BP) (r:BR)=>lf (okC 580 c∧okP 580 p∧ok Rat 1000 r) [.d aoX (RE.poiE (dC c) (RE.pR (dec p)) (ah r))] fun h=>by
 refine cZ Rp (af2 _ _ _ ⟨0,?_⟩)
 obtain⟨hc,hp,hr⟩:=h
 have hp1:=cK (k:=580) hp (by decide) (by decide)
 have hp6:=cK (k:=580) hp (by decide) (by decide)
 have hp3:=cK (k:=3000) hp (by decide) (by decide)
 have hc3:=cg (k:=3000) hc (by decide) (by decide)
 obtain⟨p,rfl,bp,rp⟩:=a9 hp
 obtain⟨r,rfl,br⟩:=aB hr
 obtain⟨ar,li,ci,cw,fr,to⟩:=c
 have h3:=hc.2.2.1
 have h4:=hc.2.2.2
 simp only at h3 h4
 obtain⟨fr,rfl,bf,rf⟩:=a9 h3
 obtain⟨to,rfl,bt,rt⟩:=a9 h4
 have o1:decide (okP 580 (enc fr)∧okP 580 (enc p)∧ok Rat 1000 (am r))=true:=alF ⟨h3,hp1,hr⟩
 have o2:decide (okP 580 (enc to)∧okP 580 (enc p)∧ok Rat 1000 (am r))=true:=alF ⟨h4,hp1,hr⟩
 have b2:Bd ((2:Int):Rat) 3:=cQ (n:=2) (by decide)
 have i2:decide (aH 2)=true:=by decide
 have hn:0≤p.2.2.2.2:=rp.nn
 rw[eO,cA,az]
 unfold Zu RE.poiE
 cases ar
 ·obtain⟨c2,c3⟩:=hc.2.1 rfl
  simp only at c2 c3
  obtain⟨li,rfl,bl⟩:=aB c2
  have o3:decide (okC 3000 (false,enc li,ci,cw,enc fr,enc to)∧okP 3000 (enc p)∧(false,enc li,ci,cw,enc fr,enc to).1=false)=true:=alF ⟨hc3,hp3,rfl⟩
  have hb:RE.besE (false,li,dec ci,cw,fr,to) (RE.pR p)=rS (false,li,dec ci,cw,fr,to) p:=RE.bes_E (c:=(false,li,dec ci,cw,fr,to)) (hf:=rf) (ht:=rt)
  have q2:fN (mkR (qH li p*qH li p+p.2.2.2.2*(qI li p*qI li p)) (2*(qH li p*qI li p)) p.2.2.2.2) (r*r*(li.1*li.1+li.2.1*li.2.1))=RE.sg (RE.exE li (RE.pR p)*RE.exE li (RE.pR p)-RE.of (r*r*(li.1*li.1+li.2.1*li.2.1))):=by
   rw[RE.cmpTR_re (tW (h:=⟨hn⟩)).nn,RE.vR_lin]
  have bA:Bd (qH li p) 2070:=(inferInstance:Bd (li.1*p.1+li.2.1*p.2.2.1-li.2.2) _).mono (by decide)
  have bB:Bd (qI li p) 2070:=(inferInstance:Bd (li.1*p.2.1+li.2.1*p.2.2.2.1) _).mono (by decide)
  have eA:li.1*p.1+li.2.1*p.2.2.1-li.2.2=qH li p:=rfl
  have eB:li.1*p.2.1+li.2.1*p.2.2.2.1=qI li p:=rfl
  have e2:((2:Int):Rat)=2:=rfl
  have b2':Bd (2:Rat) 3:=b2
  have nC:Nn p.2.2.2.2:=⟨hn⟩
  dsimp only
  simp only[aS,Nat.reduceAdd,Nat.reduceLeDiff,aM,aJ,au,o1,o2,alF hc3,i2,dT hn,RE.min_if,Bool.not_false,dC,lnC,eA,eB,e2,q2,hb]
  cases decide (r<0)
  ·cases rS (false,li,dec ci,cw,fr,to) p<;>rfl
  ·rfl
 ·obtain⟨c1,hq⟩:=hc.1 rfl
  have hci:uY ci:=⟨c1,hq⟩
  simp only at c1 hq
  obtain⟨ci,rfl,bc⟩:=aB c1
  rw[az]at hq
  have e0:((am ci.1,am ci.2.1):BV)=enc (ctr ci):=rfl
  have o3:decide (uY (enc ci)∧okP 580 (enc fr)∧okP 580 (enc to)∧okP 580 (enc p))=true:=alF ⟨hci,h3,h4,hp6⟩
  have z:(sgR (sqP p (ctr ci))==0)=decide (RE.pR p=RE.vE (ctr ci)):=by
   rw[anv,amL]
   exact RE.sq_zr
  have vs:RE.vR (sqP p (ctr ci))=RE.dsE (RE.pR p) (RE.vE (ctr ci)):=RE.vR_sq _
  dsimp only
  simp only[aS,Nat.reduceAdd,Nat.reduceMul,Nat.reduceLeDiff,aM,aJ,au,e0,o1,o2,o3,RE.min_if,Bool.not_true,dC,ciC,z,vs,dT (show 0≤ci.2.2 by grind)]
  cases decide (r<0)
  ·cases decide (RE.pR p=RE.vE (ctr ci))
   ·cases RE.witE (true,dec li,ci,cw,fr,to) (RE.pR p)<;>rfl
   ·rfl
  ·rfl
end
section
open Go.ChangeShapes Go.WideShapes Go.ChangeAt Go.WideMaps Go.WideElems Go.RowKit
theorem NJ:ownKnob Tryz.prog.godebug=none:=by kernel_rfl
def Ty.ok:(t:Ty)→t.D→Prop
 |.int k,x=>(Lit.int k x).wf=true
 |.bool,_=>True
 |.str,_=>True
 |.sl e,xs=>xs.length≤9223372036854775807∧∀x∈xs,e.ok x
 |.pair a b,x=>a.ok x.1∧b.ok x.2
 |.st a,x=>a.ok x
def xO(rp:TypeId→Ty→Bool)(cells:TypeId→Nat):List Field→Ty→Nat→Bool
 |[],_,_=>false
 |[f],a,off=>rp f.type a&&Nat.beq f.offset off&&Nat.beq (cells f.type) a.n
 |f::g::fs,.pair a b,off=>rp f.type a&&Nat.beq f.offset off&&Nat.beq (cells f.type) a.n&&xO rp cells (g::fs) b (off+a.n)
 |_,_,_=>false
def Ff(rp:Ty→Bool)(n:Nat):Nat→Ty→Bool
 |0,_=>false
 |1,a=>rp a&&Nat.beq a.n n
 |k+2,.pair a b=>rp a&&Nat.beq a.n n&&Ff rp n (k+1) b
 |_,_=>false
def rep(P:Program):Nat→TypeId→Ty→Bool
 |0,_,_=>false
 |n+1,t,ty=>match P.underlying t,ty with
  |some (.int k),.int k'=>decide (k=k')
  |some .bool,.bool=>true
  |some .string,.str=>true
  |some (.slice e),.sl ety=>rep P n e ety&&Nat.beq (P.cellsOf e) ety.n&&Nat.ble 1 ety.n
  |some (.struct fs),.st a=>xO (rep P n) P.cellsOf fs.toList a 0&&Nat.beq (P.cellsOf t) a.n
  |some (.array k e),.st a=>Ff (rep P n e) (P.cellsOf e) k a&&Nat.beq (P.cellsOf t) a.n
  |_,_=>false
theorem Uh{w:World}{a:Addr}{v:Value}(h:w.cell? a=some v):a.block<w.heap.size∧a.spot=none:=by
 unfold World.cell? at h
 split at h
 ·rename_i hb
  refine⟨(alZ.1 hb).1,?_⟩
  simp_all
 grind
theorem DO{α β:Type}{f:α→Option β}:∀{l:List α} {r:List β},l.mapM f=some r→r.length=l.length∧∀(j:Nat) (y:β),r[j]?=some y→∃x,l[j]?=some x∧f x=some y
 |[],r,h=>by simp at h;subst h;simp
 |x::l,r,h=>by
  rw[List.mapM_cons]at h
  cases hx:f x with
  |none=>rw[hx]at h;simp at h
  |some y=>
   rw[hx]at h
   cases hl:l.mapM f with
   |none=>rw[hl]at h;simp at h
   |some r'=>
    rw[hl]at h
    obtain rfl:y::r'=r:=by simpa using h
    obtain⟨h1,h2⟩:=DO hl
    refine⟨by simp[h1],fun j z hz=>?_⟩
    cases j with
    |zero=>exact⟨x,rfl,by simpa [hx]using hz⟩
    |succ j=>obtain⟨u,h3,h4⟩:=h2 j z (by simpa using hz);exact⟨u,by simpa using h3,h4⟩
theorem Kk{w:World}{base n:Nat}{a:Addr}{l:List Value}(h:w.cells? base a n=some l):l.length=n∧∀(j:Nat) (v:Value),l[j]?=some v→w.cell? (a.add j)=some v:=by
 unfold World.cells? at h
 split at h
 ·obtain⟨h1,h2⟩:=DO h
  grind
 grind
theorem Rb{α β:Type}{n:Nat}{p:Nat→α→β→Prop}(h:∀i,i<n→∃s t,p i s t):∃(l:List α) (m:List β),l.length=n∧m.length=n∧∀i s t,l[i]?=some s→m[i]?=some t→p i s t:=by
 induction n with
 |zero=>exact⟨[],[],rfl,rfl,fun i s t h=>by simp at h⟩
 |succ n ih=>
  obtain⟨l,m,h1,h2,h3⟩:=ih fun i hi=>h i (by omega)
  obtain⟨s,t,hst⟩:=h n (by omega)
  refine⟨l++[s],m++[t],by simp[h1],by simp[h2],fun i s' t' hs ht=>?_⟩
  grind
section
variable {H:Type} {enc:TypeId×Value→H} {P:Program} {w:World} {base:Nat} {spare:Nat→Bool} {held:Bool}
def R1(enc:TypeId×Value→H)(P:Program)(w:World)(base:Nat)(spare:Nat→Bool)(held:Bool)(ty:Ty):Prop:=∀(n:Nat) (t:TypeId),rep P n t ty=true→∀(fuel:Nat) (cs:List Value) (x:DataW H×List MemPlace),cs.length=ty.n→DataW.trod enc P w base spare held fuel t cs=some x→∃y:ty.D,ty.rd (fun _=>True) w cs y∧ty.ok y
def R2(enc:TypeId×Value→H)(P:Program)(w:World)(base:Nat)(spare:Nat→Bool)(held:Bool)(ty:Ty):Prop:=∀(n:Nat) (fs:List Field) (off:Nat) (cs:List Value),xO (rep P n) P.cellsOf fs ty off=true→cs.length=ty.n→(∀f∈fs,off≤f.offset→∃fuel x,DataW.trod enc P w base spare held fuel f.type ((cs.drop (f.offset-off)).take (P.cellsOf f.type))=some x)→∃y:ty.D,ty.rd (fun _=>True) w cs y∧ty.ok y
def R3(enc:TypeId×Value→H)(P:Program)(w:World)(base:Nat)(spare:Nat→Bool)(held:Bool)(ty:Ty):Prop:=∀(n k:Nat) (e:TypeId) (cs:List Value),Ff (rep P n e) (P.cellsOf e) k ty=true→cs.length=ty.n→(∀i,i<k→∃fuel x,DataW.trod enc P w base spare held fuel e ((cs.drop (i*P.cellsOf e)).take (P.cellsOf e))=some x)→∃y:ty.D,ty.rd (fun _=>True) w cs y∧ty.ok y
theorem aiT{ty:Ty}(h1:R1 enc P w base spare held ty)(hp:∀(n:Nat) (f g:Field) (fs:List Field) (off:Nat) (cs:List Value),xO (rep P n) P.cellsOf (f::g::fs) ty off=true→cs.length=ty.n→(∀q∈f::g::fs,off≤q.offset→∃fuel x,DataW.trod enc P w base spare held fuel q.type ((cs.drop (q.offset-off)).take (P.cellsOf q.type))=some x)→∃y:ty.D,ty.rd (fun _=>True) w cs y∧ty.ok y):R2 enc P w base spare held ty:=by
 intro n fs off cs hr hl hf
 match fs,hr,hf with
 |[f],hr,hf=>
  simp only[xO,alJ]at hr
  have ho:=alK hr.1.2
  have hc:=alK hr.2
  obtain⟨fuel,x,hx⟩:=hf f (by simp) (by omega)
  rw[ho,aoe,hc,ut _ _ hl]at hx
  exact h1 n f.type hr.1.1 fuel cs x hl hx
 |f::g::fs,hr,hf=>exact hp n f g fs off cs hr hl hf
theorem ai5{ty:Ty}(h1:R1 enc P w base spare held ty)(hp:∀(n k:Nat) (e:TypeId) (cs:List Value),Ff (rep P n e) (P.cellsOf e) (k+2) ty=true→cs.length=ty.n→(∀i,i<k+2→∃fuel x,DataW.trod enc P w base spare held fuel e ((cs.drop (i*P.cellsOf e)).take (P.cellsOf e))=some x)→∃y:ty.D,ty.rd (fun _=>True) w cs y∧ty.ok y):R3 enc P w base spare held ty:=by
 intro n k e cs hr hl hf
 match k,hr,hf with
 |1,hr,hf=>
  simp only[Ff,alJ]at hr
  have hc:=alK hr.2
  obtain⟨fuel,x,hx⟩:=hf 0 (by omega)
  rw[Nat.zero_mul,←hc,ut _ _ hl]at hx
  exact h1 n e hr.1 fuel cs x hl hx
 |k+2,hr,hf=>exact hp n k e cs hr hl hf
theorem S2:∀(ty:Ty),R1 enc P w base spare held ty∧R2 enc P w base spare held ty∧R3 enc P w base spare held ty:=by
 intro ty
 have oR:∀{ty:Ty},(∀a b,ty≠.pair a b)→R1 enc P w base spare held ty→R1 enc P w base spare held ty∧R2 enc P w base spare held ty∧R3 enc P w base spare held ty:=by
  intro ty hne h1
  refine⟨h1,aiT h1 fun n f g fs off cs hr=>?_,ai5 h1 fun n k e cs hr=>?_⟩
  ·cases ty<;>first|exact absurd rfl (hne _ _)|simp[xO]at hr
  ·cases ty<;>first|exact absurd rfl (hne _ _)|simp[Ff]at hr
 induction ty with
 |int k=>
  refine oR (fun a b e=>by cases e) fun n t hr fuel cs x hl hx=>?_
  cases n with
  |zero=>simp[rep]at hr
  |succ n=>
   unfold rep at hr
   split at hr<;>try (cases hr;done)
   all_goals rename_i hu he<;>cases he
   have:=alI hr
   subst this
   obtain⟨m,rfl,_,hw⟩:=DataW.trod_int hu hx
   exact⟨m,rfl,hw⟩
 |bool=>
  refine oR (fun a b e=>by cases e) fun n t hr fuel cs x hl hx=>?_
  cases n with
  |zero=>simp[rep]at hr
  |succ n=>
   unfold rep at hr
   split at hr<;>try (cases hr;done)
   all_goals rename_i hu he<;>cases he
   obtain⟨m,rfl,_⟩:=DataW.trod_bool hu hx
   exact⟨m,rfl,trivial⟩
 |str=>
  refine oR (fun a b e=>by cases e) fun n t hr fuel cs x hl hx=>?_
  cases n with
  |zero=>simp[rep]at hr
  |succ n=>
   unfold rep at hr
   split at hr<;>try (cases hr;done)
   all_goals rename_i hu he<;>cases he
   cases fuel with
   |zero=>simp[DataW.trod]at hx
   |succ fuel=>
    unfold DataW.trod at hx
    rw[hu]at hx
    split at hx<;>simp_all
    exact⟨_,rfl,trivial⟩
 |sl e ih=>
  refine oR (fun a b e=>by cases e) fun n t hr fuel cs x hl hx=>?_
  cases n with
  |zero=>simp[rep]at hr
  |succ n=>
   unfold rep at hr
   split at hr<;>try (cases hr;done)
   all_goals rename_i hu he<;>cases he
   simp only[alJ]at hr
   obtain⟨⟨r1,r2⟩,r3⟩:=hr
   have hc:=alK r2
   have hn0:=alM r3
   rcases Deep.open_slice hu hx with⟨rfl,_⟩|⟨a,len,cap,m,nn,D,Pl,rfl,hb,hle,hcap,hm,_,hel⟩
   ·exact⟨[],ya,by simp,fun x hx=>by simp at hx⟩
   ·have hlm:len≤m:=by rw[hm];split<;>omega
    have key:∀i,i<len→∃(l:List Value) (y:e.D),(e.rd (fun _=>True) w l y∧e.ok y)∧∀j v,l[j]?=some v→w.cell? ((a.add (i*e.n)).add j)=some v:=by
     intro i hi
     obtain⟨cs',h1,h2⟩:=hel i (by omega)
     rw[hc]at h1
     obtain⟨h3,h4⟩:=Kk h1
     obtain⟨y,h5⟩:=ih.1 n _ r1 nn cs' _ h3 h2
     exact⟨cs',y,h5,h4⟩
    obtain⟨css,ys,l1,l2,hk⟩:=Rb key
    have hall:ck (fun l y=>e.rd (fun _=>True) w l y) css ys:=HE (by omega) fun i l y h1 h2=>(hk i l y h1 h2).1.1
    refine⟨ys,⟨some a,len,cap,css,rfl,l2,hle,hcap,hall,fun h0=>?_⟩,by unfold maxLen at hcap;omega,fun y hy=>?_⟩
    ·obtain⟨l0,hl0⟩:∃l,css[0]?=some l:=⟨_,alG (by omega)⟩
     obtain⟨y0,hy0,hrd0⟩:=iM hall 0 l0 hl0
     have hlen0:=Ty.rd_len hrd0
     obtain⟨v0,hv0⟩:∃v,l0[0]?=some v:=⟨_,alG (by omega)⟩
     have hc0:=(hk 0 l0 y0 hl0 hy0).2 0 v0 hv0
     have e0:(a.add (0*e.n)).add 0=a:=by simp[Addr.add]
     rw[e0]at hc0
     obtain⟨h1,h2⟩:=Uh hc0
     obtain⟨b,off,sp⟩:=a
     dsimp only at h1 h2
     subst h2
     refine⟨b,off,rfl,trivial,h1,fun i v hv=>?_⟩
     have hls:=fX hall
     have hi:i<css.flatten.length:=(alP.1 hv).1
     rw[gV hls,l1]at hi
     have hq:i/e.n<len:=Nat.div_lt_of_lt_mul (by rw[Nat.mul_comm];exact hi)
     obtain⟨l,hl⟩:∃l,css[i/e.n]?=some l:=⟨_,alG (by omega)⟩
     obtain⟨y,hy,hrd⟩:=iM hall _ l hl
     have hmod:i%e.n<e.n:=aoA _ hn0
     obtain⟨u,hu'⟩:∃u,l[i%e.n]?=some u:=⟨_,alG (by rw[Ty.rd_len hrd];exact hmod)⟩
     have hfl:=lS hls hl hu'
     have hdm:i/e.n*e.n+i%e.n=i:=by rw[Nat.mul_comm];exact Nat.div_add_mod i e.n
     rw[hdm,hv]at hfl
     injection hfl with hfl
     subst hfl
     have:=(hk _ l y hl hy).2 _ _ hu'
     rw[dM,dM]at this
     rwa [anL,hdm]at this
    ·obtain⟨i,hi,rfl⟩:=an0 hy
     obtain⟨l,hl,_⟩:=oY hall i _ (alG hi)
     exact(hk i l _ hl (alG hi)).1.2
 |st a ih=>
  refine oR (fun a b e=>by cases e) fun n t hr fuel cs x hl hx=>?_
  cases n with
  |zero=>simp[rep]at hr
  |succ n=>
   unfold rep at hr
   split at hr<;>try (cases hr;done)
   all_goals rename_i hu he<;>cases he
   ·simp only[alJ]at hr
    obtain⟨xs,k,rfl,_,_,hlen,hg⟩:=DataW.trod_struct hu hx
    refine ih.2.1 n _ 0 cs hr.1 hl fun f hf _=>?_
    obtain⟨i,hi,rfl⟩:=an0 hf
    rename_i fs
    have h1:=hg i _ (by rw[←anr];exact alG hi)
    obtain⟨y,hy⟩:∃y,xs[i]?=some y:=⟨_,alG (by rw[hlen];simpa using hi)⟩
    rw[hy]at h1
    exact⟨k,y,by rw[Nat.sub_zero];exact h1⟩
   ·simp only[alJ]at hr
    obtain⟨xs,k,rfl,_,_,hlen,hg⟩:=DataW.trod_array hu hx
    refine ih.2.2 n _ _ cs hr.1 hl fun i hi=>?_
    have h1:=hg i hi
    obtain⟨y,hy⟩:∃y,xs[i]?=some y:=⟨_,alG (by rw[hlen];exact hi)⟩
    rw[hy]at h1
    exact⟨k,y,h1⟩
 |pair a b iha ihb=>
  have h1:R1 enc P w base spare held (.pair a b):=by
   intro n t hr
   cases n with
   |zero=>simp[rep]at hr
   |succ n=>
    unfold rep at hr
    split at hr<;>first|(cases hr;done)|(rename_i he;cases he)
  have cut:∀{cs:List Value} {k m:Nat},cs.length=a.n+b.n→((cs.drop a.n).drop k).take m=(cs.drop (a.n+k)).take m:=fun _=>by rw[aoO]
  refine⟨h1,aiT h1 fun n f g fs off cs hr hl hf=>?_,ai5 h1 fun n k e cs hr hl hf=>?_⟩
  ·simp only[xO,alJ]at hr
   obtain⟨⟨⟨r1,r2⟩,r3⟩,r4⟩:=hr
   have ho:=alK r2
   have hc:=alK r3
   simp only[Ty.n]at hl
   obtain⟨fuel,x,hx⟩:=hf f (by simp) (by omega)
   rw[ho,aoe,hc,ann]at hx
   obtain⟨y1,k1,k2⟩:=iha.1 n f.type r1 fuel (cs.take a.n) x (by simp;omega) hx
   obtain⟨y2,k3,k4⟩:=ihb.2.1 n (g::fs) (off+a.n) (cs.drop a.n) r4 (by simp;omega) fun q hq hle=>by
    obtain⟨fuel,x,hx⟩:=hf q (by simp only[al0]at hq ⊢;exact .inr hq) (by omega)
    refine⟨fuel,x,?_⟩
    rw[aoO,show a.n+(q.offset-(off+a.n))=q.offset-off by omega]
    exact hx
   exact⟨(y1,y2),⟨_,_,(am3 a.n cs).symm,k1,k3⟩,k2,k4⟩
  ·simp only[Ff,alJ]at hr
   obtain⟨⟨r1,r2⟩,r3⟩:=hr
   have hc:=alK r2
   simp only[Ty.n]at hl
   obtain⟨fuel,x,hx⟩:=hf 0 (by omega)
   rw[Nat.zero_mul,ann,←hc]at hx
   obtain⟨y1,k1,k2⟩:=iha.1 n e r1 fuel (cs.take a.n) x (by simp;omega) hx
   obtain⟨y2,k3,k4⟩:=ihb.2.2 n (k+1) e (cs.drop a.n) r3 (by simp;omega) fun i hi=>by
    obtain⟨fuel,x,hx⟩:=hf (i+1) (by omega)
    refine⟨fuel,x,?_⟩
    rw[aoO,hc,show P.cellsOf e+i*P.cellsOf e=(i+1)*P.cellsOf e by rw[anp];omega]
    exact hx
   exact⟨(y1,y2),⟨_,_,(am3 a.n cs).symm,k1,k3⟩,k2,k4⟩
end
end
def aeC:List En:=[enL Ao]
def X2(n:Int)(_k:KT):Option (List RV):=og (decide (yL (i64.wrap n) (4:Int))) (some [RV.d tR (hid (am (Rat.divInt (i64.wrap n) (4:Int))))])
def agN:Cn 13 [(.int .i8)]:=cn fun(n:Int)=>lf (i8P n) [.d tR (am (Rat.divInt n 4))] fun h=>by
 refine aA aeC (X2 n) ⟨0,?_⟩
 obtain⟨h1,h2⟩:=h
 unfold X2
 rw[aT (x:=n) (by omega) (by omega),dT (show yL n 4 from⟨⟨by omega,by omega⟩,⟨by omega,by omega⟩,by omega⟩)]
 simp only[bO]
theorem ER{n:Int}(h:i8P n):Bd (Rat.divInt n 4) 3:=Id (n:=n) (d:=4) (by obtain⟨h1,h2⟩:=h;exact⟨by omega,by omega⟩) (by decide) (by decide)
theorem tH{n:Int}(h:Ty.ok (.int .i8) n):i8P n:=bounds_i8 h
theorem Nl{n:Int}(h:Ty.ok (.int .u8) n):u8P n:=bounds_u8 h
theorem Zg{x:Dr}(h:Ty.ok tDr x):yO x:=⟨Nl h.1,Nl h.2.1,tH h.2.2.1,tH h.2.2.2.1,tH h.2.2.2.2.1,tH h.2.2.2.2.2.1,tH h.2.2.2.2.2.2.1,tH h.2.2.2.2.2.2.2⟩
theorem P9{x:Pce}(h:Ty.ok xS x):wV x:=⟨Zg h.1,Zg h.2.1,Nl h.2.2⟩
theorem aai{n:Int}(h:i8P n){k:Nat}(hk:3≤k)(hk':k≤480000):ok Rat k (am (Rat.divInt n 4)):=by
 have:=ER h
 exact alI (okd (x:=Rat.divInt n 4) hk hk')
def rwX(p:Pt)(v:Rat×Rat):Rt:=(p.1-v.1,p.2.1,p.2.2.2.2)
def rwY(p:Pt)(v:Rat×Rat):Rt:=(p.2.2.1-v.2,p.2.2.2.1,p.2.2.2.2)
def tiQ(x y:Rt):Qd:=(x.1*y.1,x.2.1*y.1,x.1*y.2.1,x.2.1*y.2.1,x.2.2,y.2.2)
def plQ(p q:Qd):Qd:=(p.1+q.1,p.2.1+q.2.1,p.2.2.1+q.2.2.1,p.2.2.2.1+q.2.2.2.1,p.2.2.2.2.1,p.2.2.2.2.2)
def miQ(p:Qd):Qd:=(-p.1,-p.2.1,-p.2.2.1,-p.2.2.2.1,p.2.2.2.2.1,p.2.2.2.2.2)
def alR(d:Rat×Rat)(p:Pt):Rt:=mkR (d.1*p.1+d.2*p.2.2.1) (d.1*p.2.1+d.2*p.2.2.2.1) p.2.2.2.2
def mvB(c:BCU)(v:Rat×Rat):BCU:=(c.1,bif c.1 then c.2.1 else enc (RE.mvLn (dec c.2.1) v),bif c.1 then enc (RE.mvCi (dec c.2.2.1) v)else c.2.2.1,c.2.2.2.1,enc (trP (dec c.2.2.2.2.1) v),enc (trP (dec c.2.2.2.2.2) v))
namespace RE
theorem S5(a b c d m n:RE):a*c+b*c*m+a*d*n+b*d*(m*n)=(a+b*m)*(c+d*n):=by grind
theorem VH(A B C D E F G H m n:RE):A+E+(B+F)*m+(C+G)*n+(D+H)*(m*n)=A+B*m+C*n+D*(m*n)+(E+F*m+G*n+H*(m*n)):=by grind
theorem Vx(A B C D m n:RE): -A+ -B*m+ -C*n+ -D*(m*n)= -(A+B*m+C*n+D*(m*n)):=by grind
theorem YH(x y:Rt):vq (tiQ x y)=vR x*vR y:=by
 unfold vq vQ tiQ vR v2
 dsimp only
 simp only[aF]
 exact S5 _ _ _ _ _ _
theorem afA(p q:Qd)(h:q.2.2.2.2=p.2.2.2.2):vq (plQ p q)=vq p+vq q:=by
 unfold vq vQ plQ
 dsimp only
 rw[h]
 simp only[of_add]
 exact VH _ _ _ _ _ _ _ _ _ _
theorem aiD(p:Qd):vq (miQ p)= -vq p:=by
 unfold vq vQ miQ
 dsimp only
 simp only[of_neg]
 exact Vx _ _ _ _ _ _
theorem K1(p:Pt)(v:Rat×Rat):vR (rwX p v)=(sbE v (pR p)).1:=by
 unfold rwX sbE pR pX vR v2
 dsimp only
 rw[of_sub,BF]
theorem Lj(p:Pt)(v:Rat×Rat):vR (rwY p v)=(sbE v (pR p)).2:=by
 unfold rwY sbE pR pY vR v2
 dsimp only
 rw[of_sub,BF]
def crR(v:Rat×Rat)(p q:Pt):Qd:=plQ (tiQ (rwX p v) (rwY q v)) (miQ (tiQ (rwY p v) (rwX q v)))
theorem crR_re(v:Rat×Rat){p q:Pt}[hp:Rpd p][hq:Rpd q]:sgQ (crR v p q)=turS v (pR p) (pR q):=by
 rw[F7 (q:=crR v p q) (show 0≤p.2.2.2.2 from hp.nn) (show 0≤q.2.2.2.2 from hq.nn)]
 unfold crR
 rw[afA (tiQ (rwX p v) (rwY q v)) (miQ (tiQ (rwY p v) (rwX q v))) rfl,aiD,YH,YH,K1,K1,Lj,Lj]
 rfl
end RE
instance ajG {p:Pt} {v:Rat×Rat} {j k:Nat} [h:Bd p j] [h':Bd v k]:Bd (rwX p v) (j+k+1):=by
 have i:Bd ((p.1-v.1,p.2.1,p.2.2.2.2):Rt) _:=inferInstance
 exact i.mono (cV (by omega) (cV (by omega) (by omega)))
instance akk {p:Pt} {v:Rat×Rat} {j k:Nat} [h:Bd p j] [h':Bd v k]:Bd (rwY p v) (j+k+1):=by
 have i:Bd ((p.2.2.1-v.2,p.2.2.2.1,p.2.2.2.2):Rt) _:=inferInstance
 exact i.mono (cV (by omega) (cV (by omega) (by omega)))
instance ajH {x y:Rt} {i j:Nat} [h:Bd x i] [h':Bd y j]:Bd (tiQ x y) (i+j):=by
 have t:Bd ((x.1*y.1,x.2.1*y.1,x.1*y.2.1,x.2.1*y.2.1,x.2.2,y.2.2):Qd) _:=inferInstance
 exact t.mono (cV (by omega) (cV (by omega) (cV (by omega) (cV (by omega) (cV (by omega) (by omega))))))
instance akx {p q:Qd} {i j:Nat} [h:Bd p i] [h':Bd q j]:Bd (plQ p q) (i+j+1):=by
 have t:Bd ((p.1+q.1,p.2.1+q.2.1,p.2.2.1+q.2.2.1,p.2.2.2.1+q.2.2.2.1,p.2.2.2.2.1,p.2.2.2.2.2):Qd) _:=inferInstance
 exact t.mono (cV (by omega) (cV (by omega) (cV (by omega) (cV (by omega) (cV (by omega) (by omega))))))
instance aku {p:Qd} {i:Nat} [h:Bd p i]:Bd (miQ p) i:=by
 have t:Bd ((-p.1,-p.2.1,-p.2.2.1,-p.2.2.2.1,p.2.2.2.2.1,p.2.2.2.2.2):Qd) _:=inferInstance
 exact t.mono (cV (by omega) (cV (by omega) (cV (by omega) (cV (by omega) (cV (by omega) (by omega))))))
namespace RE
theorem ajK(a b c:Int):(match decide (a>0)with|true=>(match decide (b≥0)with|true=>some [RV.d .bool (decide (c≥0))]|false=>some [RV.d .bool false])|false=>(match a==0 with|true=>(match decide (b≥0)with|true=>some [RV.d .bool (decide (c≥0))]|false=>some [RV.d .bool false])|false=>(match decide (-c>0)with|true=>some [RV.d .bool (!(decide (-b>0)))]|false=>some [RV.d .bool (!false)])))=some [RV.d .bool (AR a b c)]:=by
 have h1:decide (-c>0)=!decide (0≤c):=by rw[←decide_not];exact amc.2 (by omega)
 have h2:decide (-b>0)=!decide (0≤b):=by rw[←decide_not];exact amc.2 (by omega)
 have h3:decide (c<0)=!decide (0≤c):=by rw[←decide_not];exact amc.2 (by omega)
 have h4:decide (b<0)=!decide (0≤b):=by rw[←decide_not];exact amc.2 (by omega)
 have h5:decide (0≤a)=(decide (a>0)||(a==0)):=by
  by_cases g:0≤a
  ·rw[alF g]
   by_cases k:a=0
   ·rw[k];rfl
   ·rw[alF (show a>0 by omega)];rfl
  ·rw[alH g,alH (show ¬a>0 by omega),anH.2 (show a≠0 by omega)];rfl
 unfold AR
 simp only[h1,h2,h3,h4,h5,ge_iff_le]
 cases decide (a>0)<;>cases a==0<;>cases decide (0≤b)<;>cases decide (0≤c)<;>rfl
end RE
def xc:List En:=[enT lT,enL oK,enL l7,enL ng,enT rQ,enL m7,enL oH,enL Ao,enL F3,enL RO,enL O5,enL yk,enL E9,enL FS,enL E0,enL QE,enT Fs,enL Gf,enL AP,enL M9,enL acK,enT Aq,enT AA,enT Le,enL K0,enL Pq,enL Ru]
def Ye(p:BP)(v:BV)(_k:KT):Option (List RV):=ce (og (o2 p.1 v.1) (ce (og (o2 p.2.2.1 v.2) (dup (.b (.b .l .l) (.b (.b .l .l) (.b .l .l))) (some [RV.d tO (hSu p.1 v.1,(p.2.1,p.2.2.2.2)),RV.d tO (hSu p.2.2.1 v.2,p.2.2.2)]))) (dup (.b .l .l) (ce (og (o2 p.2.2.1 v.2) (dup (.b .l .l) (some [RV.d tO (hSu p.1 v.1,(p.2.1,p.2.2.2.2)),RV.d tO (hSu p.2.2.1 v.2,p.2.2.2)]))) (og (o2 p.2.2.1 v.2) (some [RV.d tO (hSu p.1 v.1,(p.2.1,p.2.2.2.2)),RV.d tO (hSu p.2.2.1 v.2,p.2.2.2)])))))) (dup (.b .l .l) (ce (og (o2 p.1 v.1) (ce (og (o2 p.2.2.1 v.2) (dup (.b .l .l) (some [RV.d tO (hSu p.1 v.1,(p.2.1,p.2.2.2.2)),RV.d tO (hSu p.2.2.1 v.2,p.2.2.2)]))) (og (o2 p.2.2.1 v.2) (some [RV.d tO (hSu p.1 v.1,(p.2.1,p.2.2.2.2)),RV.d tO (hSu p.2.2.1 v.2,p.2.2.2)])))) (og (o2 p.1 v.1) (og (o2 p.2.2.1 v.2) (some [RV.d tO (hSu p.1 v.1,(p.2.1,p.2.2.2.2)),RV.d tO (hSu p.2.2.1 v.2,p.2.2.2)])))))
def afm:Cn 229 [tP,tV]:=cn fun(p:BP) (v:BV)=>lf (okP 580 p∧ok (Rat×Rat) 400 v) [.d tO (enc (rwX (dec p) (dec v))),.d tO (enc (rwY (dec p) (dec v)))] fun h=>by
 refine aA xc (Ye p v) ⟨0,?_⟩
 obtain⟨hp,hv⟩:=h
 obtain⟨p,rfl,bp,rp⟩:=a9 hp
 obtain⟨v,rfl,bv⟩:=aB hv
 unfold Ye
 simp only[aS,Nat.reduceLeDiff]
 try rfl
def Wh(x y:BO3)(_k:KT):Option (List RV):=og (o2 x.1 y.1) (og (o2 x.2.1 y.1) (og (o2 x.1 y.2.1) (og (o2 x.2.1 y.2.1) (some [RV.d tQ (hMu x.1 y.1,(hMu x.2.1 y.1,(hMu x.1 y.2.1,(hMu x.2.1 y.2.1,(x.2.2,y.2.2)))))]))))
def ae3:Cn 231 [tO,tO]:=cn fun(x y:BO3)=>lf (ok Rt 3000 x∧ok Rt 3000 y) [.d tQ (enc (tiQ (dec x) (dec y)))] fun h=>by
 refine aA xc (Wh x y) ⟨0,?_⟩
 obtain⟨hx,hy⟩:=h
 obtain⟨x,rfl,bx⟩:=aB hx
 obtain⟨y,rfl,b_y⟩:=aB hy
 unfold Wh
 simp only[aS,Nat.reduceLeDiff]
 try rfl
def Wp(p q:BQ)(_k:KT):Option (List RV):=og (o2 p.1 q.1) (og (o2 p.2.1 q.2.1) (og (o2 p.2.2.1 q.2.2.1) (og (o2 p.2.2.2.1 q.2.2.2.1) (some [RV.d tQ (hAd p.1 q.1,(hAd p.2.1 q.2.1,(hAd p.2.2.1 q.2.2.1,(hAd p.2.2.2.1 q.2.2.2.1,p.2.2.2.2))))]))))
def aek:Cn 230 [tQ,tQ]:=cn fun(p q:BQ)=>lf (ok Qd 14000 p∧ok Qd 14000 q) [.d tQ (enc (plQ (dec p) (dec q)))] fun h=>by
 refine aA xc (Wp p q) ⟨0,?_⟩
 obtain⟨hp,hq⟩:=h
 obtain⟨p,rfl,bp⟩:=aB hp
 obtain⟨q,rfl,bq⟩:=aB hq
 unfold Wp
 simp only[aS,Nat.reduceLeDiff]
 try rfl
def XN(p:BQ)(_k:KT):Option (List RV):=og (o1 p.1) (og (o1 p.2.1) (og (o1 p.2.2.1) (og (o1 p.2.2.2.1) (some [RV.d tQ (hNe p.1,(hNe p.2.1,(hNe p.2.2.1,(hNe p.2.2.2.1,p.2.2.2.2))))]))))
def ahK:Cn 232 [tQ]:=cn fun(p:BQ)=>lf (ok Qd 30000 p) [.d tQ (enc (miQ (dec p)))] fun h=>by
 refine aA xc (XN p) ⟨0,?_⟩
 have hp:=h
 obtain⟨p,rfl,bp⟩:=aB hp
 unfold XN
 simp only[aS,Nat.reduceLeDiff]
 try rfl
def wx:List En:=enL afm::enL ae3::enL aek::enL ahK::xc
def XI(v:BV)(p q:BP)(_k:KT):Option (List RV):=og (decide (okP 580 p∧ok (Rat×Rat) 400 v)) (og (decide (okP 580 q∧ok (Rat×Rat) 400 v)) (og (decide (ok Rt 3000 (hid (enc (rwX (dec p) (dec v))))∧ok Rt 3000 (hid (enc (rwY (dec q) (dec v)))))) (og (decide (ok Rt 3000 (hid (enc (rwY (dec p) (dec v))))∧ok Rt 3000 (hid (enc (rwX (dec q) (dec v)))))) (og (decide (ok Qd 30000 (hid (enc (tiQ (dec (hid (enc (rwY (dec p) (dec v))))) (dec (hid (enc (rwX (dec q) (dec v)))))))))) (og (decide (ok Qd 14000 (hid (enc (tiQ (dec (hid (enc (rwX (dec p) (dec v))))) (dec (hid (enc (rwY (dec q) (dec v))))))))∧ok Qd 14000 (hid (enc (miQ (dec (hid (enc (tiQ (dec (hid (enc (rwY (dec p) (dec v))))) (dec (hid (enc (rwX (dec q) (dec v)))))))))))))) (og (decide (okQ (hid (enc (plQ (dec (hid (enc (tiQ (dec (hid (enc (rwX (dec p) (dec v))))) (dec (hid (enc (rwY (dec q) (dec v))))))))) (dec (hid (enc (miQ (dec (hid (enc (tiQ (dec (hid (enc (rwY (dec p) (dec v))))) (dec (hid (enc (rwX (dec q) (dec v)))))))))))))))))) (some [RV.d aoX (sgQ (dec (hid (enc (plQ (dec (hid (enc (tiQ (dec (hid (enc (rwX (dec p) (dec v))))) (dec (hid (enc (rwY (dec q) (dec v))))))))) (dec (hid (enc (miQ (dec (hid (enc (tiQ (dec (hid (enc (rwY (dec p) (dec v))))) (dec (hid (enc (rwX (dec q) (dec v))))))))))))))))))])))))))
def aij:Cn 240 [tV,tP,tP]:=cn fun(v:BV) (p q:BP)=>lf (ok (Rat×Rat) 400 v∧okP 580 p∧okP 580 q) [.d aoX (RE.turS (dec v) (RE.pR (dec p)) (RE.pR (dec q)))] fun h=>by
 refine aA wx (XI v p q) ⟨0,?_⟩
 obtain⟨hv,hp,hq⟩:=h
 obtain⟨v,rfl,bv⟩:=aB hv
 obtain⟨p,rfl,bp,rp⟩:=a9 hp
 obtain⟨q,rfl,bq,rq⟩:=a9 hq
 have o1:decide (okQ (enc (plQ (tiQ (rwX p v) (rwY q v)) (miQ (tiQ (rwY p v) (rwX q v))))))=true:=P2 (k:=6000) (h:=(inferInstance:Bd (plQ (tiQ (rwX p v) (rwY q v)) (miQ (tiQ (rwY p v) (rwX q v)))) _).mono (by decide)) (by decide) rp.nn rq.nn
 unfold XI
 simp only[aS,Nat.reduceAdd,Nat.reduceLeDiff,aJ,o1]
 rw[←RE.crR_re]
 rfl
def aab(d:BV)(p:BP)(_k:KT):Option (List RV):=og (o2 d.1 p.1) (og (o2 d.2 p.2.2.1) (og (o2 (hMu d.1 p.1) (hMu d.2 p.2.2.1)) (og (o2 d.1 p.2.1) (og (o2 d.2 p.2.2.2.1) (og (o2 (hMu d.1 p.2.1) (hMu d.2 p.2.2.2.1)) (og (decide (ok Rat 100000 (hAd (hMu d.1 p.1) (hMu d.2 p.2.2.1))∧ok Rat 100000 (hAd (hMu d.1 p.2.1) (hMu d.2 p.2.2.2.1))∧ok Rat 100000 p.2.2.2.2∧0≤ah p.2.2.2.2)) (some [RV.d tO (hid (enc (mkR (ah (hAd (hMu d.1 p.1) (hMu d.2 p.2.2.1))) (ah (hAd (hMu d.1 p.2.1) (hMu d.2 p.2.2.2.1))) (ah p.2.2.2.2))))])))))))
def aiC:Cn 120 [tV,tP]:=cn fun(d:BV) (p:BP)=>lf (ok (Rat×Rat) 400 d∧okP 580 p) [.d tO (enc (alR (dec d) (dec p)))] fun h=>by
 refine aA wx (aab d p) ⟨0,?_⟩
 obtain⟨hd,hp⟩:=h
 obtain⟨d,rfl,bd⟩:=aB hd
 obtain⟨p,rfl,bp,rp⟩:=a9 hp
 have hn:0≤p.2.2.2.2:=rp.nn
 unfold aab
 simp only[aS,Nat.reduceAdd,Nat.reduceLeDiff,dT hn]
 rfl
def NC(l:BO3)(v:BV)(_k:KT):Option (List RV):=og (o2 l.1 v.1) (og (o2 l.2.1 v.2) (og (o2 (hMu l.1 v.1) (hMu l.2.1 v.2)) (og (o2 l.2.2 (hAd (hMu l.1 v.1) (hMu l.2.1 v.2))) (some [RV.d tO (l.1,(l.2.1,hAd l.2.2 (hAd (hMu l.1 v.1) (hMu l.2.1 v.2))))]))))
def aal:Cn 51 [tO,tV]:=cn fun(l:BO3) (v:BV)=>lf (ok Ln 300 l∧ok (Rat×Rat) 200 v) [.d tO (enc (RE.mvLn (dec l) (dec v)))] fun h=>by
 refine aA wx (NC l v) ⟨0,?_⟩
 obtain⟨hl,hv⟩:=h
 obtain⟨l,rfl,bl⟩:=aB hl
 obtain⟨v,rfl,bv⟩:=aB hv
 unfold NC
 simp only[aS,Nat.reduceAdd,Nat.reduceLeDiff]
 try rfl
def Rg(c:BO3)(v:BV)(_k:KT):Option (List RV):=og (o2 c.1 v.1) (og (o2 c.2.1 v.2) (some [RV.d tO (hAd c.1 v.1,(hAd c.2.1 v.2,c.2.2))]))
def acn:Cn 50 [tO,tV]:=cn fun(c:BO3) (v:BV)=>lf (ok Ln 300 c∧ok (Rat×Rat) 200 v) [.d tO (enc (RE.mvCi (dec c) (dec v)))] fun h=>by
 refine aA wx (Rg c v) ⟨0,?_⟩
 obtain⟨hc,hv⟩:=h
 obtain⟨c,rfl,bc⟩:=aB hc
 obtain⟨v,rfl,bv⟩:=aB hv
 unfold Rg
 simp only[aS,Nat.reduceLeDiff]
 try rfl
def abS:List En:=enT aij::enL aiC::enL aal::enL acn::wx
def Wu(c:BCU)(v:BV)(_k:KT):Option (List RV):=match c.1 with|true=>(og (decide (ok Ln 300 c.2.2.1∧ok (Rat×Rat) 200 v)) (og (decide (ok Pt 21000 c.2.2.2.2.1∧ok (Rat×Rat) 1000 v)) (og (decide (ok Pt 21000 c.2.2.2.2.2∧ok (Rat×Rat) 1000 v)) (some [RV.d tCU (c.1,(c.2.1,(hid (enc (RE.mvCi (dec c.2.2.1) (dec v))),(c.2.2.2.1,(hid (enc (trP (dec c.2.2.2.2.1) (dec v))),hid (enc (trP (dec c.2.2.2.2.2) (dec v))))))))]))))|false=>(og (decide (ok Ln 300 c.2.1∧ok (Rat×Rat) 200 v)) (og (decide (ok Pt 21000 c.2.2.2.2.1∧ok (Rat×Rat) 1000 v)) (og (decide (ok Pt 21000 c.2.2.2.2.2∧ok (Rat×Rat) 1000 v)) (some [RV.d tCU (c.1,(hid (enc (RE.mvLn (dec c.2.1) (dec v))),(c.2.2.1,(c.2.2.2.1,(hid (enc (trP (dec c.2.2.2.2.1) (dec v))),hid (enc (trP (dec c.2.2.2.2.2) (dec v))))))))]))))
def aia:Cn 17 [tCU,tV]:=cn fun(c:BCU) (v:BV)=>lf (okC 500 c∧ok (Rat×Rat) 10 v) [.d tCU (mvB c (dec v))] fun h=>by
 refine aA abS (Wu c v) ⟨0,?_⟩
 obtain⟨hc,hv⟩:=h
 obtain⟨v,rfl,bv⟩:=aB hv
 obtain⟨ar,li,ci,cw,fr,to⟩:=c
 have h3:=hc.2.2.1
 have h4:=hc.2.2.2
 simp only at h3 h4
 obtain⟨fr,rfl,bf,rf⟩:=a9 h3
 obtain⟨to,rfl,bt,rt⟩:=a9 h4
 unfold Wu mvB
 cases ar
 ·obtain⟨c2,_⟩:=hc.2.1 rfl
  simp only at c2
  obtain⟨li,rfl,bl⟩:=aB c2
  simp only[aS,Nat.reduceLeDiff]
 ·obtain⟨c1,_⟩:=hc.1 rfl
  simp only at c1
  obtain⟨ci,rfl,bc⟩:=aB c1
  simp only[aS,Nat.reduceLeDiff]
theorem aeb{c:BCU}(hc:okC 500 c)(hs:pp c){v:Rat×Rat}[bv:Bd v 3]:okC 580 (mvB c v):=by
 obtain⟨ar,li,ci,cw,fr,to⟩:=c
 have h3:=hc.2.2.1
 have h4:=hc.2.2.2
 simp only at h3 h4
 obtain⟨fr,rfl,bf,rf⟩:=a9 h3
 obtain⟨to,rfl,bt,rt⟩:=a9 h4
 have o3:okP 580 (enc (trP (dec (enc fr)) v)):=by
  rw[az]
  exact alI (aJ (by decide) (by decide))
 have o4:okP 580 (enc (trP (dec (enc to)) v)):=by
  rw[az]
  exact alI (aJ (by decide) (by decide))
 cases ar
 ·have k:=hs.2 rfl
  simp only at k
  obtain⟨li,rfl,⟨ba,bb,bc⟩,nz⟩:=dW k
  refine⟨fun e=>(by cases e),fun _=>?_,o3,o4⟩
  show Oi (enc (RE.mvLn (dec (enc li)) v))
  rw[az]
  have bm:Bd (RE.mvLn li v) 300:=(inferInstance:Bd ((li.1,li.2.1,li.2.2+(li.1*v.1+li.2.1*v.2)):Ln) _).mono (by decide)
  exact⟨alI (okd (by decide) (by decide)),by rw[az];exact nz⟩
 ·have k:=hs.1 rfl
  simp only at k
  obtain⟨ci,rfl,⟨ba,bb,bc⟩,nz⟩:=cJ k
  refine⟨fun _=>?_,fun e=>(by cases e),o3,o4⟩
  show uY (enc (RE.mvCi (dec (enc ci)) v))
  rw[az]
  have bm:Bd (RE.mvCi ci v) 300:=(inferInstance:Bd ((ci.1+v.1,ci.2.1+v.2,ci.2.2):Ln) _).mono (by decide)
  exact⟨alI (okd (by decide) (by decide)),by rw[az];exact nz⟩
theorem jn(c:BCU)(v:Rat×Rat):dC (mvB c v)=RE.mvCv (dC c) v:=by
 obtain⟨ar,li,ci,cw,fr,to⟩:=c
 unfold mvB RE.mvCv dC
 cases ar<;>simp only[az,cond_true,cond_false]
section
open RE
namespace RE
theorem B7{l:Ln}{p:PE}{v:Rat×Rat}:fx (mvLn l v) (mvE v p)↔fx l p:=by
 unfold fx mvLn mvE
 dsimp only
 rw[of_add,of_add,aF,aF]
 constructor<;>intro h<;>grind
theorem Au{c:Ln}{p:PE}{v:Rat×Rat}:fw (mvCi c v) (mvE v p)↔fw c p:=by
 unfold fw
 rw[pC]
 exact Iff.rfl
theorem adR{a b x t:RE}:btE (a+t) (b+t) (x+t)↔btE a b x:=by
 have k:∀x y t:RE,x+t≤y+t↔x≤y:=fun x y t=>⟨Ov _ _ _,Yk _ _ _⟩
 unfold btE
 rw[k,k,k,k]
section
variable {c:Cv} {v:Rat×Rat}
theorem nf:pR (frC (mvCv c v))=mvE v (pR (frC c)):=Jh _ _
theorem nA:pR (toC (mvCv c v))=mvE v (pR (toC c)):=Jh _ _
theorem aag:pR (ccF (mvCv c v))=mvE v (pR (ccF c)):=by
 unfold ccF
 show pR (bif cwC c then _ else _)=_
 cases cwC c
 ·exact nf
 ·exact nA
theorem aav:pR (ccT (mvCv c v))=mvE v (pR (ccT c)):=by
 unfold ccT
 show pR (bif cwC c then _ else _)=_
 cases cwC c
 ·exact nA
 ·exact nf
theorem uV(h:c.1=false):lnC (mvCv c v)=mvLn (lnC c) v:=by
 show(bif c.1 then c.2.1 else mvLn c.2.1 v)=_
 rw[h];rfl
theorem kI(h:c.1=true):ciC (mvCv c v)=mvCi (ciC c) v:=by
 show(bif c.1 then mvCi c.2.2.1 v else c.2.2.1)=_
 rw[h];rfl
theorem kX{p:PE}:onE (mvCv c v) (mvE v p)↔onE c p:=by
 have e:(mvCv c v).1=c.1:=rfl
 cases ha:c.1
 ·rw[Gr (e.trans ha),Gr ha]
  unfold RE.segE
  rw[uV ha,nf,nA,zN,zN,zN,adR,B7]
 ·rw[GK (e.trans ha),GK ha]
  unfold RE.arcE
  rw[kI ha,aag,aav,pC,pC,pC,Au]
end
theorem NX(v:Rat×Rat)(p:PE):∃q,p=mvE v q:=⟨(p.1-of v.1,p.2-of v.2),amV (by unfold mvE;grind) (by unfold mvE;grind)⟩
theorem Mn.mv{c:Cv}{v:Rat×Rat}{p:PE}{m:RE}(h:Mn (onE c) p m):Mn (onE (mvCv c v)) (mvE v p) m:=by
 obtain⟨⟨q,hq,e⟩,hl⟩:=h
 refine⟨⟨mvE v q,kX.2 hq,by rw[xJ,e]⟩,fun x hx=>?_⟩
 obtain⟨y,rfl⟩:=NX v x
 rw[xJ]
 exact hl y (kX.1 hx)
end RE
section
variable {c d:BCU} {v:Rat×Rat}
theorem Ql{p:PE}:onE (dC (mvB c v)) (mvE v p)↔onE (dC c) p:=by rw[jn];exact kX
theorem gdm(h:gdN c)(h5:okC 500 c)[Bd v 3](hs:pp (mvB c v)):gdN (mvB c v):=by
 have i1:Rpd (frC (dC c)):=h.crp.f.1
 have i2:Rpd (toC (dC c)):=h.crp.t.1
 have m:=aeb (v:=v) h5 h.1.2
 have j1:Rpd (frC (mvCv (dC c) v)):=by rw[←jn];exact ky m.2.2.1
 have j2:Rpd (toC (mvCv (dC c) v)):=by rw[←jn];exact ky m.2.2.2
 obtain⟨_,s1,s2,s3⟩:=h
 have e:(dC c).1=c.1:=rfl
 refine⟨⟨m,hs⟩,?_,?_,?_⟩<;>rw[jn]
 ·rw[fo]at s1 ⊢
  rw[nf]
  have e':(mvCv (dC c) v).1=c.1:=rfl
  rw[e]at s1
  rw[e']
  cases ha:c.1<;>rw[ha]at s1
  ·rw[uV (e.trans ha)];exact B7.2 s1
  ·rw[kI (e.trans ha)];exact Au.2 s1
 ·rw[fo]at s2 ⊢
  rw[nA]
  have e':(mvCv (dC c) v).1=c.1:=rfl
  rw[e]at s2
  rw[e']
  cases ha:c.1<;>rw[ha]at s2
  ·rw[uV (e.trans ha)];exact B7.2 s2
  ·rw[kI (e.trans ha)];exact Au.2 s2
 ·intro z
  have z:=cmpP_0.1 z
  rw[nf,nA]at z
  exact s3 (cmpP_0.2 (IK.1 z))
theorem abA{a b:Cv}:cC (mvCv a v) (mvCv b v)=cC a b:=by
 unfold cC
 have e1:(mvCv a v).1=a.1:=rfl
 have e2:(mvCv b v).1=b.1:=rfl
 rw[e1,e2]
 cases ha:a.1<;>cases hb:b.1
 ·rw[uV ha,uV hb]
  show lU _ _=lU _ _
  unfold lU mvLn
  dsimp only
  by_cases h:(lnC a).1*(lnC b).2.1=(lnC a).2.1*(lnC b).1
  ·rw[dT h,amN,amN]
   congr 1
   ·exact amc.2 (by constructor<;>intro g<;>grind)
   ·exact amc.2 (by constructor<;>intro g<;>grind)
  ·rw[dF h];rfl
 ·rfl
 ·rfl
 ·rw[kI ha,kI hb]
  show ni _ _=ni _ _
  unfold ni mvCi
  dsimp only
  congr 1
  ·exact amc.2 (by constructor<;>intro g<;>grind)
  ·congr 1
   exact amc.2 (by constructor<;>intro g<;>grind)
def V0(c d:BCU):Prop:=(onE (dC d) (pR (frC (dC c)))∨onE (dC d) (pR (toC (dC c))))∨(onE (dC c) (pR (frC (dC d)))∨onE (dC c) (pR (toC (dC d))))∨cC (dC c) (dC d)=false∧∃p,onE (dC c) p∧onE (dC d) p
theorem N7(hc:gdN c)(hd:gdN d):fR c d≠[]↔V0 c d:=by
 constructor
 ·intro h
  obtain⟨x,hx⟩:=List.exists_mem_of_ne_nil _ h
  obtain⟨hx,hk,_,_,o1,o2⟩:=yF hc hd hx
  have r:Rpd (dec x:Pt):=ky hk
  rw[←il hc.crp r]at o1
  rw[←il hd.crp r]at o2
  have o1:=(gJ hc.e).1 o1
  have o2:=(gJ hd.e).1 o2
  cases hs:cC (dC c) (dC d)
  ·exact .inr (.inr ⟨hs,_,o1,o2⟩)
  ·unfold jF at hx
   rw[hs]at hx
   have:x=c.2.2.2.2.1∨x=c.2.2.2.2.2∨x=d.2.2.2.2.1∨x=d.2.2.2.2.2:=by simpa using hx
   rcases this with rfl|rfl|rfl|rfl
   ·exact .inl (.inl o2)
   ·exact .inl (.inr o2)
   ·exact .inr (.inl (.inl o1))
   ·exact .inr (.inl (.inr o1))
 ·rintro ((h|h)|(h|h)|⟨hs,p,h1,h2⟩)
  ·exact wg hc hd (.inl rfl) h
  ·exact wg hc hd (.inr rfl) h
  ·exact fun n=>wg hd hc (.inl rfl) h (El hc hd n)
  ·exact fun n=>wg hd hc (.inr rfl) h (El hc hd n)
  ·exact H4 hc hd hs h1 h2
theorem adF:V0 (mvB c v) (mvB d v)↔V0 c d:=by
 unfold V0
 rw[jn,jn,nf,nf,nA,nA,kX,kX,kX,kX,abA]
 refine or_congr Iff.rfl (or_congr Iff.rfl (and_congr Iff.rfl ⟨fun⟨p,h1,h2⟩=>?_,fun⟨p,h1,h2⟩=>⟨mvE v p,kX.2 h1,kX.2 h2⟩⟩))
 obtain⟨q,rfl⟩:=NX v p
 exact⟨q,kX.1 h1,kX.1 h2⟩
theorem adn{s a:Cv}(hs:s.1=false)(ha:a.1=true):ftv (mvCv s v) (mvCv a v)=((ftv s a).1+v.1,(ftv s a).2+v.2):=by
 unfold ftv
 rw[uV hs,kI ha]
 have e:kY (mvLn (lnC s) v) (ctr (mvCi (ciC a) v))=kY (lnC s) (ctr (ciC a)):=by
  unfold kY mvLn mvCi ctr
  dsimp only
  exact congrArg (·/_) (by grind)
 unfold dV
 rw[e]
 unfold mvLn mvCi ctr
 exact amV (by dsimp only;grind) (by dsimp only;grind)
theorem Yu(u:Rat×Rat):vE (u.1+v.1,u.2+v.2)=mvE v (vE u):=by
 unfold vE mvE
 dsimp only
 rw[of_add,of_add]
theorem AZ(hc:gdN c)(hm:gdN (mvB c v))(u:Rat×Rat):fe (dC (mvB c v)) u=fe (dC c) u:=by
 have e:(dC c).1=c.1:=rfl
 have e':(dC (mvB c v)).1=c.1:=rfl
 unfold fe
 rw[e,e']
 cases ha:c.1
 ·rfl
 ·cases zeV u
  ·show onP _ _=onP _ _
   have i1:Cir (ciC (dC c)):=⟨hc.crp.q ha⟩
   have i2:Cir (ciC (dC (mvB c v))):=⟨hm.crp.q ha⟩
   rw[anv,gJ hm.e,gJ hc.e]
   have k:pR (qD (ciC (dC (mvB c v))) u)=mvE v (pR (qD (ciC (dC c)) u)):=by
    rw[jn,kI (e.trans ha)]
    refine VM (c:=mvCi (ciC (dC c)) v) ?_
    rw[pC,sV,sV]
    rfl
   rw[k]
   exact Ql
  ·rfl
theorem adT(hc:gdN c)(hd:gdN d)(mc:gdN (mvB c v))(md:gdN (mvB d v)){r:Rat}(hr:0≤r):qF (dC (mvB c v)) (dC (mvB d v)) r=qF (dC c) (dC d) r:=by
 have E:yM (dC (mvB c v)) (dC (mvB d v)) r=yM (dC c) (dC d) r:=by
  unfold yM
  rw[jn,jn,nf,nf,nA,nA,Bj,Bj,Bj,Bj]
 have F:∀{s a:BCU},gdN s→gdN a→gdN (mvB s v)→gdN (mvB a v)→s.1=false→a.1=true→By (dC (mvB s v)) (dC (mvB a v)) r=By (dC s) (dC a) r:=fun{s a} hs ha ms ma es ea=>by
  have b1:=Gu hs.1.2 ha.1.2 es ea
  have b2:=Gu ms.1.2 ma.1.2 es ea
  have f:ftv (dC (mvB s v)) (dC (mvB a v))=((ftv (dC s) (dC a)).1+v.1,(ftv (dC s) (dC a)).2+v.2):=by rw[jn,jn];exact adn es ea
  unfold By
  rw[Qc ma b2 hr,Qc ha b1 hr]
  have o:onP (dC (mvB s v)) (atP (ftv (dC (mvB s v)) (dC (mvB a v))))=onP (dC s) (atP (ftv (dC s) (dC a))):=by
   rw[anv,gJ ms.e,gJ hs.e,f,show pR (atP ((ftv (dC s) (dC a)).1+v.1,(ftv (dC s) (dC a)).2+v.2))=mvE v (pR (atP (ftv (dC s) (dC a)))) by rw[lE,lE];exact Yu _]
   exact Ql
  have m:vR (me (dC (mvB a v)) (ftv (dC (mvB s v)) (dC (mvB a v))))=vR (me (dC a) (ftv (dC s) (dC a))):=by
   have h1:=MN ma.e (ftv (dC (mvB s v)) (dC (mvB a v)))
   have h2:=(MN ha.e (ftv (dC s) (dC a))).mv (v:=v)
   rw[f,Yu,jn]at h1
   rw[f,jn]
   exact h1.uni h2
  rw[o,m]
 unfold qF
 have e1:(dC c).1=c.1:=rfl
 have e2:(dC d).1=d.1:=rfl
 have e3:(dC (mvB c v)).1=c.1:=rfl
 have e4:(dC (mvB d v)).1=d.1:=rfl
 rw[e1,e2,e3,e4,E]
 cases hx:c.1<;>cases hy:d.1<;>simp only[cond_true,cond_false]
 ·rw[F hc hd mc md hx hy]
 ·rw[F hd hc md mc hy hx]
 ·have w:wyv (dC (mvB c v)) (dC (mvB d v))=wyv (dC c) (dC d):=by
   rw[jn,jn]
   unfold wyv
   rw[kI (e1.trans hx),kI (e2.trans hy)]
   unfold cU ctr mvCi
   exact amV (by dsimp only;grind) (by dsimp only;grind)
  have q1:(ciC (dC (mvB c v))).2.2=(ciC (dC c)).2.2:=by rw[jn,kI (e1.trans hx)];rfl
  have q2:(ciC (dC (mvB d v))).2.2=(ciC (dC d)).2.2:=by rw[jn,kI (e2.trans hy)];rfl
  unfold O7 nT fT nD
  rw[w,q1,q2,AZ hc mc,AZ hc mc,AZ hd md,AZ hd md]
theorem ac3(hc:gdN c)(hd:gdN d)(mc:gdN (mvB c v))(md:gdN (mvB d v))(r:Rat):mg (mvB c v) (mvB d v) r=mg c d r:=by
 have h:=(N7 mc md).trans (adF.trans (N7 hc hd).symm)
 exact acI mc md hc hd ⟨fun e=>alW fun n=>h.2 n e,fun e=>alW fun n=>h.1 n e⟩ r (adT hc hd mc md)
end
end
theorem aic{x:Dr}{c:BCU}(hc:c∈ofL x):(vG (drA x) (drB x)=false∧c=ic (drA x) (drB x))∨(dR (drA x) (drB x) (drC x)≠0∧c=jV (drA x) (drB x) (drC x))∨(0<(drB x).1∧c∈tk (enc (drQ x))):=by
 unfold ofL at hc
 cases h3:x.1%3==2
 ·rw[h3,cond_false]at hc
  cases h4:x.1%3==1
  ·rw[h4,cond_false]at hc
   refine .inl ?_
   cases h5:vG (drA x) (drB x)
   ·rw[show segE (drA x) (drB x)=0 by unfold segE;rw[h5];rfl]at hc
    exact⟨rfl,by simpa using hc⟩
   ·rw[show segE (drA x) (drB x)=6 by unfold segE;rw[h5];rfl]at hc
    cases hc
  ·rw[h4,cond_true]at hc
   refine .inr (.inl ?_)
   by_cases h5:dR (drA x) (drB x) (drC x)=0
   ·rw[show arcE (drA x) (drB x) (drC x)=6 by unfold arcE;rw[alF h5];rfl]at hc
    cases hc
   ·rw[show arcE (drA x) (drB x) (drC x)=0 by unfold arcE;rw[alH h5];rfl]at hc
    exact⟨h5,by simpa using hc⟩
 ·rw[h3,cond_true]at hc
  refine .inr (.inr ?_)
  by_cases h5:(drB x).1≤0
  ·rw[alF h5]at hc
   cases hc
  ·rw[alH h5]at hc
   exact⟨by grind,hc⟩
theorem Te{c:Ln}[bc:BdC c](h:0<c.2.2):okP 500 (enc (jS c))∧okP 500 (enc (jU c)):=by
 have b0:Bd (0:Rat) 3:=cQ (n:=0) (by decide)
 have b1:Bd (1:Rat) 3:=cQ (n:=1) (by decide)
 have q0:(0:Rat)≤c.2.2:=by grind
 have pl:Rpd (jS c):=uy (fun e=>absurd e.1 (by decide)) q0
 have pr:Rpd (jU c):=uy (fun e=>absurd e.1 (by decide)) q0
 have bl:Bd (jS c) 490:=uO (bc.x.mono (by decide:4≤4)) (ZU.mono (by decide:3≤3)) bc.y b0 bc.q (by decide)
 have br:Bd (jU c) 490:=uO (bc.x.mono (by decide:4≤4)) b1 bc.y b0 bc.q (by decide)
 exact⟨alI (aJ (by decide) (by decide)),alI (aJ (by decide) (by decide))⟩
def smQ(v:Rat×Rat)(c:BCU):Prop:=okC 500 c∧pp (mvB c v)
theorem Wf{x:Dr}(h:yO x){v:Rat×Rat}[v1:Bb v.1 7 2][v2:Bb v.2 7 2]:∀c∈ofL x,smQ v c:=by
 intro c hc
 have g:=vf h c hc
 obtain⟨h1,h2,hA,hB,hC,hD,hE,hF⟩:=h
 have a1:Bb (drA x).1 7 2:=mC hA h2
 have a2:Bb (drA x).2 7 2:=mC hB h2
 have b1:Bb (drB x).1 7 2:=mC hC h2
 have b2:Bb (drB x).2 7 2:=mC hD h2
 have c1:Bb (drC x).1 7 2:=mC hE h2
 have c2:Bb (drC x).2 7 2:=mC hF h2
 have l:∀{q:Rat},Bb q 7 2→Bd q 1:=fun h=>oE (h:=h) (by decide) (by decide)
 have m:∀v:Rat×Rat,Bb v.1 7 2→Bb v.2 7 2→Bd v 1:=fun v g g'=>by
  have:=l g
  have:=l g'
  exact inferInstanceAs (Bd (v.1,v.2) _)
 have vA:=m _ a1 a2
 have vB:=m _ b1 b2
 have vC:=m _ c1 c2
 obtain⟨⟨⟨k1,k2,_⟩,k3,k4⟩,_⟩:=g
 have p:∀{w:Rat×Rat},Bd w 1→okP 500 (enc (atP w)):=fun _=>yd (by decide) (by decide)
 rcases aic hc with⟨hz,rfl⟩|⟨hz,rfl⟩|⟨hz,hc⟩
 ·have e:ic (drA x) (drB x)=(false,enc (ou (drA x) (drB x)),o00,false,enc (atP (drA x)),enc (atP (drB x))):=by
   unfold ic
   rw[hz]
   rfl
  rw[e]at k1 k2 k3 k4 ⊢
  refine⟨⟨k1,k2,p vA,p vB⟩,fun z=>(by cases z),fun _=>?_⟩
  show cL (enc (RE.mvLn (dec (enc (ou (drA x) (drB x)))) v))
  obtain⟨_,_,_,nz⟩:=k4 rfl
  rw[az]at nz ⊢
  have i1:Bd (ou (drA x) (drB x)).1 12:=(inferInstance:Bd ((drA x).2-(drB x).2) _).mono (by decide)
  have i2:Bd (ou (drA x) (drB x)).2.1 12:=(inferInstance:Bd ((drB x).1-(drA x).1) _).mono (by decide)
  have i3:Bb (((drA x).2-(drB x).2)*(drA x).1+((drB x).1-(drA x).1)*(drA x).2+(((drA x).2-(drB x).2)*v.1+((drB x).1-(drA x).1)*v.2)) _ _:=inferInstance
  exact kU (h:=⟨i1,i2,oE (h:=i3) (by decide) (by decide)⟩) nz
 ·have e:jV (drA x) (drB x) (drC x)=(true,o00,enc (oh (drA x) (drB x) (drC x)),decide (vd (drA x) (drB x) (drC x)<0),enc (atP (drA x)),enc (atP (drC x))):=by
   unfold jV
   rw[dF hz]
   rfl
  rw[e]at k1 k2 k3 k4 ⊢
  refine⟨⟨k1,k2,p vA,p vC⟩,fun _=>?_,fun z=>by cases z⟩
  show cf (enc (RE.mvCi (dec (enc (oh (drA x) (drB x) (drC x)))) v))
  obtain⟨_,_,_,nz⟩:=k3 rfl
  rw[az]at nz ⊢
  have d:Bb (((drB x).1-(drA x).1)*((drC x).2-(drA x).2)-((drB x).2-(drA x).2)*((drC x).1-(drA x).1)) _ _:=inferInstance
  have d:Bb (dR (drA x) (drB x) (drC x)) _ _:=d
  have X:Bb (((((drB x).1-(drA x).1)*((drB x).1-(drA x).1)+((drB x).2-(drA x).2)*((drB x).2-(drA x).2))*((drC x).2-(drA x).2)-(((drC x).1-(drA x).1)*((drC x).1-(drA x).1)+((drC x).2-(drA x).2)*((drC x).2-(drA x).2))*((drB x).2-(drA x).2))/(dR (drA x) (drB x) (drC x)+dR (drA x) (drB x) (drC x))) _ _:=inferInstance
  have X:Bb (ua (drA x) (drB x) (drC x)) _ _:=X
  have Y:Bb (((((drC x).1-(drA x).1)*((drC x).1-(drA x).1)+((drC x).2-(drA x).2)*((drC x).2-(drA x).2))*((drB x).1-(drA x).1)-(((drB x).1-(drA x).1)*((drB x).1-(drA x).1)+((drB x).2-(drA x).2)*((drB x).2-(drA x).2))*((drC x).1-(drA x).1))/(dR (drA x) (drB x) (drC x)+dR (drA x) (drB x) (drC x))) _ _:=inferInstance
  have Y:Bb (uP (drA x) (drB x) (drC x)) _ _:=Y
  have x1:Bb ((drA x).1+ua (drA x) (drB x) (drC x)+v.1) _ _:=inferInstance
  have x2:Bb ((drA x).2+uP (drA x) (drB x) (drC x)+v.2) _ _:=inferInstance
  exact fQ (h:=⟨oE (h:=x1) (by decide) (by decide),oE (h:=x2) (by decide) (by decide),(NZ (a:=drA x) (b:=drB x) (c:=drC x)).q⟩) nz
 ·have bq:BdC (drQ x):=⟨(l a1).mono (by decide),(l a2).mono (by decide),(l b1).mono (by decide)⟩
  have hq:0<(drQ x).2.2:=hz
  obtain⟨ol,or_⟩:=Te hq
  have y1:Bb ((drA x).1+v.1) _ _:=inferInstance
  have y2:Bb ((drA x).2+v.2) _ _:=inferInstance
  have S:cf (enc (RE.mvCi (dec (enc (drQ x))) v)):=by
   rw[az]
   exact fQ (h:=⟨oE (h:=y1) (by decide) (by decide),oE (h:=y2) (by decide) (by decide),bq.q⟩) hq
  unfold tk at hc
  rw[az]at hc
  simp only[al0,amZ,aob]at hc
  rcases hc with rfl|rfl
  ·exact⟨⟨k1,k2,ol,or_⟩,fun _=>S,fun z=>by cases z⟩
  ·exact⟨⟨k1,k2,or_,ol⟩,fun _=>S,fun z=>by cases z⟩
theorem Se{x:Pce}(h:wV x)(ho:w9 x=true){v:Rat×Rat}[Bb v.1 7 2][Bb v.2 7 2]:smQ v (kS x):=by
 have hp:=He h ho
 unfold DL at hp
 cases hl:ofL x.1 with
 |nil=>rw[hl]at hp;cases hp
 |cons c r=>
  rw[hl]at hp
  have hc:=Wf h.1 (v:=v) c (by rw[hl];simp)
  have gc:=vf h.1 c (by rw[hl];simp)
  obtain⟨u,w,hu,hw,e⟩:=AJ (show kS x∈wU c (sM c (jR c (ofL x.2.1))) from hp)
  have k:∀y∈sM c (jR c (ofL x.2.1)),okP 500 y:=fun y hy=>by
   rcases Cf hy with rfl|rfl|hy
   ·exact hc.1.2.2.1
   ·exact hc.1.2.2.2
   ·obtain⟨m,hm,hy⟩:=List.mem_flatten.1 hy
    obtain⟨d,hd,rfl⟩:=anh.1 hm
    have hd':=Wf h.2.1 (v:=v) d hd
    have gd:=vf h.2.1 d hd
    have hy:=(P8 hy).1
    unfold yR at hy
    cases hs:cC (dC c) (dC d)<;>rw[hs]at hy
    ·obtain⟨p,hp,rfl⟩:=anh.1 hy
     obtain⟨b,r⟩:=(Jb (show gA c d from⟨gc.1.2,gd.1.2⟩)).2 p hp
     exact alI (aJ (j:=490) (by decide) (by decide))
    ·have:y=c.2.2.2.2.1∨y=c.2.2.2.2.2∨y=d.2.2.2.2.1∨y=d.2.2.2.2.2:=by simpa using hy
     rcases this with rfl|rfl|rfl|rfl
     ·exact hc.1.2.2.1
     ·exact hc.1.2.2.2
     ·exact hd'.1.2.2.1
     ·exact hd'.1.2.2.2
  rw[e]
  exact⟨⟨hc.1.1,hc.1.2.1,k u hu,k w hw⟩,hc.2⟩
end Go.Proofs.YtnkndpoojnflmaaGreat
end
