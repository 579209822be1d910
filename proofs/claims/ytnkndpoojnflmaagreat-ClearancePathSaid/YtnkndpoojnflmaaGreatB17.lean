/- The distance of any point: the program's Point. -/
import Derived.Test.YtnkndpoojnflmaaGreatB13
import Derived.Test.YtnkndpoojnflmaaGreatB16
import Derived.Test.YtnkndpoojnflmaaGreatB14
noncomputable section
namespace Go.Proofs.YtnkndpoojnflmaaGreat
open Go.RowKit Go.IntKind
section
instance afG {a b c d e f:Rat} {i1 i2 i3 i4 i5 i6:Nat} [h1:Bd a i1] [h2:Bd b i2] [h3:Bd c i3] [h4:Bd d i4] [h5:Bd e i5] [h6:Bd f i6]:Bd ((a,b,c,d,e,f):Qd) (mx i1 (mx i2 (mx i3 (mx i4 (mx i5 i6))))):=inferInstance
instance aeG {p:Pt} {v:Rat×Rat} {j k:Nat} [h:Bd p j] [h':Bd v k]:Bd (rcX p v) (j+k+1):=by
 have a:Bd (p.1-v.1) _:=inferInstance
 have b:Bd p.2.1 j:=inferInstance
 have i:Bd ((p.1-v.1,p.2.1):Rat×Rat) _:=inferInstance
 exact i.mono (eI (by omega) (by omega))
instance afc {p:Pt} {v:Rat×Rat} {j k:Nat} [h:Bd p j] [h':Bd v k]:Bd (rcY p v) (j+k+1):=by
 have a:Bd (p.2.2.1-v.2) _:=inferInstance
 have b:Bd p.2.2.2.1 j:=inferInstance
 have i:Bd ((p.2.2.1-v.2,p.2.2.2.1):Rat×Rat) _:=inferInstance
 exact i.mono (eI (by omega) (by omega))
instance aes {p q:Pt} {j k:Nat} [h:Bd p j] [h':Bd q k]:Bd (noQ p q) (j+k):=by
 have hj:1≤j:=lH (show bdR j p.1 from(inferInstance:Bd p.1 j).le)
 have z:Bd (0:Rat) (j+k):=⟨a9 ki.le (by omega)⟩
 have a:Bd p.2.2.2.2 (j+k):=(inferInstance:Bd p.2.2.2.2 j).mono (by omega)
 have b:Bd q.2.2.2.2 (j+k):=(inferInstance:Bd q.2.2.2.2 k).mono (by omega)
 have i:Bd ((0,0,0,0,p.2.2.2.2,q.2.2.2.2):Qd) _:=inferInstance
 have e:∀n,mx n n=n:=fun n=>by unfold mx;rw[afZ (af6 n)];rfl
 simp only[e]at i
 exact i
instance aeM {q:Qd} {x y:Rat×Rat} {s:Rat} {i j k l:Nat} [h:Bd q i] [h1:Bd x j] [h2:Bd y k] [h3:Bd s l]:Bd (prQ q x y s) (i+l+j+k+1):=by
 have a1:Bd (q.1+s*(x.1*y.1)) (i+(l+(j+k))+1):=inferInstance
 have a2:Bd (q.2.1+s*(x.2*y.1)) (i+(l+(j+k))+1):=inferInstance
 have a3:Bd (q.2.2.1+s*(x.1*y.2)) (i+(l+(j+k))+1):=inferInstance
 have a4:Bd (q.2.2.2.1+s*(x.2*y.2)) (i+(l+(j+k))+1):=inferInstance
 have a5:Bd q.2.2.2.2.1 (i+(l+(j+k))+1):=(inferInstance:Bd q.2.2.2.2.1 i).mono (by omega)
 have a6:Bd q.2.2.2.2.2 (i+(l+(j+k))+1):=(inferInstance:Bd q.2.2.2.2.2 i).mono (by omega)
 have i6:Bd ((q.1+s*(x.1*y.1),q.2.1+s*(x.2*y.1),q.2.2.1+s*(x.1*y.2),q.2.2.2.1+s*(x.2*y.2),q.2.2.2.2.1,q.2.2.2.2.2):Qd) _:=inferInstance
 have e:∀n,mx n n=n:=fun n=>by unfold mx;rw[afZ (af6 n)];rfl
 simp only[e]at i6
 exact i6.mono (by omega)
theorem Xd{q:Qd}{k:Nat}[h:Bd q k](hk:k≤6000)(h5:0≤q.2.2.2.2.1)(h6:0≤q.2.2.2.2.2):decide (okQ (enc q))=true:=by
 have n5:Nn q.2.2.2.2.1:=⟨h5⟩
 have n6:Nn q.2.2.2.2.2:=⟨h6⟩
 show decide (okQ (enc ((q.1,q.2.1,q.2.2.1,q.2.2.2.1,q.2.2.2.2.1,q.2.2.2.2.2):Qd)))=true
 exact wU (a:=k) (b:=k) (c:=k) (d:=k) (m:=k) (n:=k) (by omega) (by omega) (by omega) (by omega) (by omega) (by omega)
instance afH:Bd z2 1:=(inferInstance:Bd ((0,0):Rat×Rat) _)
theorem afp(p:Pt)(v:Rat×Rat):(sqP p v).1=sqA p v:=by
 show(coR (sqA p v) (sqB p v) p.2.2.2.2).1=_
 unfold coR
 cases decide (sqB p v=0)<;>rfl
theorem V6(p:Pt)(v:Rat×Rat):(sqP p v).2.1=sqB p v:=by
 show(coR (sqA p v) (sqB p v) p.2.2.2.2).2.1=_
 unfold coR
 by_cases e:sqB p v=0
 ·rw[afZ e,e];rfl
 ·rw[af1 e];rfl
theorem Sq(p:Pt)(v:Rat×Rat):(sqP p v).2.1=0∨(sqP p v).2.2=p.2.2.2.2:=by
 show(coR (sqA p v) (sqB p v) p.2.2.2.2).2.1=0∨(coR (sqA p v) (sqB p v) p.2.2.2.2).2.2=_
 unfold coR
 cases decide (sqB p v=0)
 ·exact .inr rfl
 ·exact .inl rfl
theorem VA{p q:Pt}{r:Rat}[bp:Bd p 580][bq:Bd q 580][br:Bd r 1000](hp:0≤p.2.2.2.2)(hq:0≤q.2.2.2.2):decide (okQ (enc (apQ p q r)))=true:=by
 have n1:Nn p.2.2.2.2:=⟨hp⟩
 have n2:Nn q.2.2.2.2:=⟨hq⟩
 have b2:Bd (-2:Rat) 3:=cO (n:= -2) (by decide)
 have bD:Bd (doQ z2 p q) 3496:=(inferInstance:Bd (prQ (prQ (noQ p q) (rcX p z2) (rcX q z2) (-2)) (rcY p z2) (rcY q z2) (-2)) _).mono (by decide)
 have bA:Bd ((doQ z2 p q).1+(sqA p z2+sqA q z2)-r*r) _:=inferInstance
 have bB:Bd ((doQ z2 p q).2.1+sqB p z2) _:=inferInstance
 have bC:Bd ((doQ z2 p q).2.2.1+sqB q z2) _:=inferInstance
 have bE:Bd (doQ z2 p q).2.2.2.1 3496:=inferInstance
 exact wU (h1:=bA) (h2:=bB) (h3:=bC) (h4:=bE) (by decide) (by decide) (by decide) (by decide) (by decide) (by decide)
namespace RE
theorem abw(a b c d:RE):a*d-b*c= -(c*b-d*a):=by grind
theorem IA(u w:PE):crs u w= -crs w u:=abw _ _ _ _
theorem turS_anti(v:Rat×Rat)(p q:PE):turS v p q= -turS v q p:=by
 unfold turS
 rw[IA,sG]
theorem wit_eq(c:Cv)(p:PE):witE c p=NX (turS (ctr (ciC c)) (pR (ccF c)) (pR (ccT c))) (turS (ctr (ciC c)) (pR (ccF c)) p) (turS (ctr (ciC c)) p (pR (ccT c))):=rfl
theorem wit_go(a b c:Int):(match decide (a≥0)with|true=>(match decide (b≥0)with|true=>some [RV.d .bool (decide (c≥0))]|false=>some [RV.d .bool false])|false=>(match decide (-c≤0)with|true=>some [RV.d .bool true]|false=>some [RV.d .bool (decide (-b≤0))]))=some [RV.d .bool (NX a b c)]:=by
 have h1:decide (-c≤0)=decide (0≤c):=ahe.2 (by omega)
 have h2:decide (-b≤0)=decide (0≤b):=ahe.2 (by omega)
 have h3:decide (c<0)=!decide (0≤c):=by rw[←decide_not];exact ahe.2 (by omega)
 have h4:decide (b<0)=!decide (0≤b):=by rw[←decide_not];exact ahe.2 (by omega)
 unfold NX
 simp only[h1,h2,h3,h4,ge_iff_le]
 cases decide (0≤a)<;>cases decide (0≤b)<;>cases decide (0≤c)<;>rfl
open Classical in
theorem bes_E{c:Cv}[hf:Rpd (frC c)][ht:Rpd (toC c)]{p:Pt}[hp:Rpd p]:besE c (pR p)=qM c p:=by
 unfold besE
 rw[ahF,aim]
 exact Bq.symm
theorem min_if(a b:Int):(if b<a then b else a)=min a b:=by
 split<;>omega
theorem wr_sg(x:RE):i64.wrap (0-sg x)= -sg x:=by
 rcases bj x with⟨_,e⟩|⟨_,e⟩|⟨_,e⟩<;>rw[e]<;>rfl
theorem X2(a b m t:RE):a*a+m*(b*b)+2*(a*b)*t=(a+b*t)*(a+b*t)+(m-t*t)*(b*b):=by grind
theorem X9(A B C x y z w t:RE):A*x+B*y-C+(A*z+B*w)*t=A*(x+z*t)+B*(y+w*t)-C:=by grind
theorem vR_lin(l:Ln){p:Pt}[hp:Rpd p]:vR (mkR (ob l p*ob l p+p.2.2.2.2*(oa l p*oa l p)) (2*(ob l p*oa l p)) p.2.2.2.2)=exE l (pR p)*exE l (pR p):=by
 have e:exE l (pR p)=of (ob l p)+of (oa l p)*rq p.2.2.2.2:=by
  unfold exE pR pX pY v2 ob oa
  dsimp only
  rw[of_sub,of_add,of_add,aS,aS,aS,aS,X9]
 have two:of 2=2:=rfl
 rw[vR_mk,e]
 unfold v2
 rw[of_add,aS,aS,aS,aS,aS,two,X2,fX hp.nn,sub_self,zero_mul,add_zero]
theorem sq_zr{p:Pt}[hp:Rpd p]{v:Rat×Rat}:(sgR (sqP p v)==0)=true↔pR p=vE v:=by
 have hr:Rdd (sqP p v):=inferInstance
 rw[CI hr.nn,aha,sf,vR_sq]
 constructor
 ·intro e
  obtain⟨a,b⟩:=O9 e
  exact aiV (rM _ _ a) (rM _ _ b)
 ·intro e
  rw[e]
  unfold dsE
  rw[sub_self,sub_self,mul_zero,add_zero]
end RE
def Wv:List En:=[⟨41,eW,dk⟩,enL abK]
def U5(r:BO3)(_k:KT):Option (List RV):=match decide (okR r.1)with|true=>(match decide (okR r.2.1)with|true=>(match(aC (ah r.2.1) 0)==0 with|true=>some [RV.d ai2 (aC (ah r.1) 0)]|false=>(match(aC (ah r.1) 0)==(aC (ah r.2.1) 0)with|true=>some [RV.d ai2 (aC (ah r.1) 0)]|false=>(match(aC (ah r.1) 0)==0 with|true=>some [RV.d ai2 (aC (ah r.2.1) 0)]|false=>(match decide (ok Rt 15000 r)with|true=>(match decide (okR (hid (aq (noR (dec r)))))with|true=>some [RV.d ai2 (i64.wrap ((aC (ah r.1) 0)*(aC (ah (hid (aq (noR (dec r))))) 0)))]|false=>none)|false=>none))))|false=>none)|false=>none
def ZG:Cn 103 [tO]:=cn fun(r:BO3)=>lf (okT 15000 r) [.d ai2 (sgR (dec r))] fun h=>by
 refine az Wv (U5 r) ⟨0,?_⟩
 have hr:=h
 obtain⟨r,rfl,br,rr⟩:=fN hr
 unfold U5
 simp only[aX,aA,qr,xR,d7,cj,okd,FZ,Nat.reduceAdd,Nat.reduceMul,Nat.reduceLeDiff,yv (jc _ _) (jc _ _)]
 rw[UY rr]
 cases aC r.2.1 0==0
 ·cases aC r.1 0==aC r.2.1 0
  ·cases aC r.1 0==0<;>rfl
  ·rfl
 ·rfl
def zj:List En:=[⟨41,eW,dk⟩,⟨109,jN,f0⟩,⟨99,fM,dS⟩,⟨108,fO,dP⟩,⟨73,iY,fx⟩,⟨107,gS,eU⟩,⟨106,gi,dY⟩,enL UC,enL MJ,enL xc,enL RT,enT Aw,enT KH,enL HQ,enL EZ,enL JL,enL Sc,enL Vj,enT T2,enT J2,enT ZG]
def T5(p:BP)(v:BV)(_k:KT):Option (List RV):=cd (og (o2 p.1 v.1) (cd (og (o2 p.2.2.1 v.2) (dup (.b .l .l) (some [RV.d tV (hSu p.1 v.1,p.2.1),RV.d tV (hSu p.2.2.1 v.2,p.2.2.2.1)]))) (og (o2 p.2.2.1 v.2) (some [RV.d tV (hSu p.1 v.1,p.2.1),RV.d tV (hSu p.2.2.1 v.2,p.2.2.2.1)])))) (og (o2 p.1 v.1) (og (o2 p.2.2.1 v.2) (some [RV.d tV (hSu p.1 v.1,p.2.1),RV.d tV (hSu p.2.2.1 v.2,p.2.2.2.1)])))
def abG:Cn 200 [tP,tV]:=cn fun(p:BP) (v:BV)=>lf (okP 580 p∧ok (Rat×Rat) 400 v) [.d tV (enc (rcX (dec p) (dec v))),.d tV (enc (rcY (dec p) (dec v)))] fun h=>by
 refine az zj (T5 p v) ⟨0,?_⟩
 obtain⟨hp,hv⟩:=h
 obtain⟨p,rfl,bp,rp⟩:=bG hp
 obtain⟨v,rfl,bv⟩:=aB hv
 unfold T5
 simp only[aO,Nat.reduceLeDiff]
 try rfl
def RK(q:BQ)(x y:BV)(s:Int)(_k:KT):Option (List RV):=og (decide (aF s)) (og (o2 x.1 y.1) (og (o2 (hid (aq (s:Rat))) (hMu x.1 y.1)) (og (o2 q.1 (hMu (hid (aq (s:Rat))) (hMu x.1 y.1))) (og (o2 x.2 y.1) (og (o2 (hid (aq (s:Rat))) (hMu x.2 y.1)) (og (o2 q.2.1 (hMu (hid (aq (s:Rat))) (hMu x.2 y.1))) (og (o2 x.1 y.2) (og (o2 (hid (aq (s:Rat))) (hMu x.1 y.2)) (og (o2 q.2.2.1 (hMu (hid (aq (s:Rat))) (hMu x.1 y.2))) (og (o2 x.2 y.2) (og (o2 (hid (aq (s:Rat))) (hMu x.2 y.2)) (og (o2 q.2.2.2.1 (hMu (hid (aq (s:Rat))) (hMu x.2 y.2))) (some [RV.d tQ (hAd q.1 (hMu (hid (aq (s:Rat))) (hMu x.1 y.1)),(hAd q.2.1 (hMu (hid (aq (s:Rat))) (hMu x.2 y.1)),(hAd q.2.2.1 (hMu (hid (aq (s:Rat))) (hMu x.1 y.2)),(hAd q.2.2.2.1 (hMu (hid (aq (s:Rat))) (hMu x.2 y.2)),q.2.2.2.2))))])))))))))))))
def abq:Cn 201 [tQ,tV,tV,ai2]:=cn fun(q:BQ) (x y:BV) (s:Int)=>lf (ok Qd 12000 q∧ok (Rat×Rat) 2500 x∧ok (Rat×Rat) 2500 y∧aF s) [.d tQ (enc (prQ (dec q) (dec x) (dec y) (s:Rat)))] fun h=>by
 refine az zj (RK q x y s) ⟨0,?_⟩
 obtain⟨hq,hx,hy,hs⟩:=h
 obtain⟨q,rfl,bq⟩:=aB hq
 obtain⟨x,rfl,bx⟩:=aB hx
 obtain⟨y,rfl,b_y⟩:=aB hy
 have bs:=cO hs
 unfold RK
 simp only[aO,Nat.reduceAdd,Nat.reduceLeDiff,dT hs]
 try rfl
def RW(p q:BP)(_k:KT):Option (List RV):=og (decide (aF (0:Int))) (some [RV.d tQ (hid (aq ((0:Int):Rat)),(hid (aq ((0:Int):Rat)),(hid (aq ((0:Int):Rat)),(hid (aq ((0:Int):Rat)),(p.2.2.2.2,q.2.2.2.2)))))])
def adc:Cn 202 [tP,tP]:=cn fun(p q:BP)=>lf (okP 580 p∧okP 580 q) [.d tQ (enc (noQ (dec p) (dec q)))] fun h=>by
 refine az zj (RW p q) ⟨0,?_⟩
 obtain⟨hp,hq⟩:=h
 obtain⟨p,rfl,bp,rp⟩:=bG hp
 obtain⟨q,rfl,bq,rq⟩:=bG hq
 unfold RW
 simp only[aO,dT (show aF 0 by decide)]
 try rfl
def yr:List En:=enL abG::enL abq::enL adc::zj
def Ts(v:BV)(p q:BP)(_k:KT):Option (List RV):=og (decide (okP 580 p∧ok (Rat×Rat) 400 v)) (og (decide (okP 580 q∧ok (Rat×Rat) 400 v)) (og (decide (okP 580 p∧okP 580 q)) (og (decide (ok Qd 12000 (hid (enc (noQ (dec p) (dec q))))∧ok (Rat×Rat) 2500 (hid (enc (rcX (dec p) (dec v))))∧ok (Rat×Rat) 2500 (hid (enc (rcY (dec q) (dec v))))∧aF (1:Int))) (og (decide (ok Qd 12000 (hid (enc (prQ (dec (hid (enc (noQ (dec p) (dec q))))) (dec (hid (enc (rcX (dec p) (dec v))))) (dec (hid (enc (rcY (dec q) (dec v))))) ((1:Int):Rat))))∧ok (Rat×Rat) 2500 (hid (enc (rcY (dec p) (dec v))))∧ok (Rat×Rat) 2500 (hid (enc (rcX (dec q) (dec v))))∧aF ((-1):Int))) (og (decide (okQ (hid (enc (prQ (dec (hid (enc (prQ (dec (hid (enc (noQ (dec p) (dec q))))) (dec (hid (enc (rcX (dec p) (dec v))))) (dec (hid (enc (rcY (dec q) (dec v))))) ((1:Int):Rat))))) (dec (hid (enc (rcY (dec p) (dec v))))) (dec (hid (enc (rcX (dec q) (dec v))))) (((-1):Int):Rat)))))) (some [RV.d ai2 (sgQ (dec (hid (enc (prQ (dec (hid (enc (prQ (dec (hid (enc (noQ (dec p) (dec q))))) (dec (hid (enc (rcX (dec p) (dec v))))) (dec (hid (enc (rcY (dec q) (dec v))))) ((1:Int):Rat))))) (dec (hid (enc (rcY (dec p) (dec v))))) (dec (hid (enc (rcX (dec q) (dec v))))) (((-1):Int):Rat))))))]))))))
def Z3:Cn 213 [tV,tP,tP]:=cn fun(v:BV) (p q:BP)=>lf (ok (Rat×Rat) 400 v∧okP 580 p∧okP 580 q) [.d ai2 (RE.turS (dec v) (RE.pR (dec p)) (RE.pR (dec q)))] fun h=>by
 refine az yr (Ts v p q) ⟨0,?_⟩
 obtain⟨hv,hp,hq⟩:=h
 obtain⟨v,rfl,bv⟩:=aB hv
 obtain⟨p,rfl,bp,rp⟩:=bG hp
 obtain⟨q,rfl,bq,rq⟩:=bG hq
 have h1:decide (aF 1)=true:=by decide
 have h2:decide (aF (-1))=true:=by decide
 have c1:((1:Int):Rat)=1:=rfl
 have c2:((-1:Int):Rat)= -1:=rfl
 have b1:Bd (1:Rat) 3:=cO (n:=1) (by decide)
 have b2:Bd (-1:Rat) 3:=cO (n:= -1) (by decide)
 have n1:Bd (prQ (prQ (noQ p q) (rcX p v) (rcY q v) 1) (rcY p v) (rcX q v) (-1)) _:=inferInstance
 have o1:decide (okQ (enc (prQ (prQ (noQ p q) (rcX p v) (rcY q v) 1) (rcY p v) (rcX q v) (-1))))=true:=Xd (k:=6000) (h:=n1.mono (by decide)) (by decide) rp.nn rq.nn
 unfold Ts
 simp only[aO,Nat.reduceAdd,Nat.reduceLeDiff,aI,h1,h2,c1,c2,o1]
 rw[←RE.crQ_re]
 rfl
def S5(a:BO3)(c:BR)(_k:KT):Option (List RV):=og (o1 a.2.1) (match(aC (ah a.2.1) 0)==0 with|true=>some [RV.d tR a.2.1]|false=>(og (o2 a.2.2 c) (match(aC (ah a.2.2) (ah c))==0 with|true=>some [RV.d tR a.2.1]|false=>(og (decide (gA a.2.2 c)) (og (o1 (hDi a.2.2 c)) (match !(eZ (ah (hDi a.2.2 c)))with|true=>some [RV.d tR a.2.1]|false=>(og (o2 a.2.1 (hid (rtB (ah (hDi a.2.2 c))))) (some [RV.d tR (hMu a.2.1 (hid (rtB (ah (hDi a.2.2 c)))))]))))))))
def Zl:Cn 203 [tO,tR]:=cn fun(a:BO3) (c:BR)=>lf (okT 15000 a∧ok Rat 15000 c∧((dec a:Rt).2.1=0∨(dec a:Rt).2.2=ah c)) [.d tR (aq (dec a:Rt).2.1)] fun h=>by
 refine az yr (S5 a c) ⟨0,?_⟩
 obtain⟨ha,hc,h⟩:=h
 obtain⟨a,rfl,ba,ra⟩:=fN ha
 obtain⟨c,rfl,bc⟩:=aB hc
 rw[aA,d7,cj]at h
 unfold S5
 simp only[aO,Nat.reduceAdd,Nat.reduceLeDiff,am]
 by_cases e:a.2.1=0
 ·rw[dT e]
 ·rw[dF e,dT (h.resolve_left e)]
def Tj(d:BO3)(q r:BR)(_k:KT):Option (List RV):=og (o2 r r) (og (o2 q (hMu r r)) (og (o2 r r) (og (decide (ok Rat 100000 (hAd q (hMu r r))∧ok Rat 100000 (hAd r r)∧ok Rat 100000 q∧0≤ah q)) (og (decide (okT 15000 d∧okT 15000 (hid (enc (mkR (ah (hAd q (hMu r r))) (ah (hAd r r)) (ah q)))))) (match decide ((bI (dec d) (dec (hid (enc (mkR (ah (hAd q (hMu r r))) (ah (hAd r r)) (ah q))))))≥0)with|true=>some [RV.d ai2 (bI (dec d) (dec (hid (enc (mkR (ah (hAd q (hMu r r))) (ah (hAd r r)) (ah q))))))]|false=>(og (o2 r r) (og (o2 q (hMu r r)) (match decide ((aC (ah q) (ah (hMu r r)))≤0)with|true=>some [RV.d ai2 (-1)]|false=>(og (o1 (hAd r r)) (og (decide (ok Rat 100000 (hAd q (hMu r r))∧ok Rat 100000 (hNe (hAd r r))∧ok Rat 100000 q∧0≤ah q)) (og (decide (okT 15000 d∧okT 15000 (hid (enc (mkR (ah (hAd q (hMu r r))) (ah (hNe (hAd r r))) (ah q)))))) (some [RV.d ai2 (i64.wrap (0-(bI (dec d) (dec (hid (enc (mkR (ah (hAd q (hMu r r))) (ah (hNe (hAd r r))) (ah q))))))))]))))))))))))
def adP:Cn 105 [tO,tR,tR]:=cn fun(d:BO3) (q r:BR)=>lf (okT 15000 d∧ok Rat 1000 q∧ok Rat 1000 r∧0≤ah q) [.d ai2 (RE.rngS (RE.vR (dec d)) (ah q) (ah r))] fun h=>by
 refine az yr (Tj d q r) ⟨0,?_⟩
 obtain⟨hd,hq,hr,hn⟩:=h
 obtain⟨d,rfl,bd,rd⟩:=fN hd
 obtain⟨q,rfl,bq⟩:=aB hq
 obtain⟨r,rfl,br⟩:=aB hr
 rw[d7,cj]at hn
 have nq:Nn q:=⟨hn⟩
 have m:∀a b,bI d (mkR a b q)=RE.sg (RE.vR d-RE.v2 a b q):=fun a b=>by
  rw[RE.cmpT_re rd.nn (pF (a:=a) (b:=b) (c:=q)).nn,RE.vR_mk]
 unfold Tj RE.rngS
 simp only[aO,Nat.reduceAdd,Nat.reduceLeDiff,aH,dT hn,m,ge_iff_le,RE.wr_sg]
 cases decide (0≤RE.sg (RE.vR d-RE.v2 (q+r*r) (r+r) q))
 ·cases decide (aC q (r*r)≤0)<;>rfl
 ·rfl
def Cw:List En:=enT Z3::enL Zl::enT adP::yr
def UB(p q:BP)(r:BR)(_k:KT):Option (List RV):=let y1:=aq ((0:Int):Rat);let y2:=hid (enc (noQ (dec p) (dec q)));let y3:=dec (hid y1,hid y1);let y4:=hid (enc (rcX (dec p) y3));let y5:=hid (enc (rcX (dec q) y3));let y6:=hid (enc (prQ (dec y2) (dec y4) (dec y5) (((-2):Int):Rat)));let y7:=hid (enc (rcY (dec p) y3));let y8:=hid (enc (rcY (dec q) y3));let y9:=hid (enc (sqP (dec p) y3));let y10:=hid (enc (sqP (dec q) y3));let y11:=hid (enc (prQ (dec y6) (dec y7) (dec y8) (((-2):Int):Rat)));let y12:=hAd (y9.1) (y10.1);let y13:=hid (aq (dec y9:Rt).2.1);let y14:=hid (aq (dec y10:Rt).2.1);og (decide (aF (0:Int))) (og (decide (aF (0:Int))) (og (decide (okP 580 p∧ok (Rat×Rat) 400 (hid y1,hid y1))) (og (decide (okP 580 q∧ok (Rat×Rat) 400 (hid y1,hid y1))) (og (decide (okP 580 p∧okP 580 q)) (og (decide (ok Qd 12000 y2∧ok (Rat×Rat) 2500 y4∧ok (Rat×Rat) 2500 y5∧aF ((-2):Int))) (og (decide (ok Qd 12000 y6∧ok (Rat×Rat) 2500 y7∧ok (Rat×Rat) 2500 y8∧aF ((-2):Int))) (og (decide (okP 3500 p∧ok (Rat×Rat) 300 (hid y1,hid y1))) (og (decide (okP 3500 q∧ok (Rat×Rat) 300 (hid y1,hid y1))) (og (o2 (y9.1) (y10.1)) (og (o2 (y11.1) y12) (og (o2 r r) (og (o2 (hAd (y11.1) y12) (hMu r r)) (og (decide (okT 15000 y9∧ok Rat 15000 p.2.2.2.2∧((dec y9:Rt).2.1=0∨(dec y9:Rt).2.2=ah p.2.2.2.2))) (og (o2 ((y11.2).1) y13) (og (decide (okT 15000 y10∧ok Rat 15000 q.2.2.2.2∧((dec y10:Rt).2.1=0∨(dec y10:Rt).2.2=ah q.2.2.2.2))) (og (o2 (((y11.2).2).1) y14) (og (decide (okQ (hSu (hAd (y11.1) y12) (hMu r r),(hAd ((y11.2).1) y13,(hAd (((y11.2).2).1) y14,((y11.2).2).2))))) (some [RV.d ai2 (sgQ (dec (hSu (hAd (y11.1) y12) (hMu r r),(hAd ((y11.2).1) y13,(hAd (((y11.2).2).1) y14,((y11.2).2).2)))))]))))))))))))))))))
def ade:Cn 93 [tP,tP,tR]:=cn fun(p q:BP) (r:BR)=>lf (okP 580 p∧okP 580 q∧ok Rat 1000 r) [.d ai2 (RE.apaS (RE.pR (dec p)) (RE.pR (dec q)) (ah r))] fun h=>by
 refine az Cw (UB p q r) ⟨0,?_⟩
 obtain⟨hp,hq,hr⟩:=h
 obtain⟨p,rfl,bp,rp⟩:=bG hp
 obtain⟨q,rfl,bq,rq⟩:=bG hq
 obtain⟨r,rfl,br⟩:=aB hr
 have h0:decide (aF 0)=true:=by decide
 have h2:decide (aF (-2))=true:=by decide
 have c2:((-2:Int):Rat)= -2:=rfl
 have b2:Bd (-2:Rat) 3:=cO (n:= -2) (by decide)
 have hz:((aq ((0:Int):Rat),aq ((0:Int):Rat)):BV)=enc z2:=rfl
 have o1:=VA (p:=p) (q:=q) (r:=r) rp.nn rq.nn
 unfold UB
 simp only[aO,Nat.reduceAdd,Nat.reduceMul,Nat.reduceLeDiff,aH,aI,h0,h2,c2,hz,dT (show sqB p z2=0∨(sqP p z2).2.2=p.2.2.2.2 by rw[←V6];exact Sq p z2),dT (show sqB q z2=0∨(sqP q z2).2.2=q.2.2.2.2 by rw[←V6];exact Sq q z2),afp,V6]
 show(match decide (okQ (enc (apQ p q r)))with|true=>some [RV.d ai2 (sgQ (dec (enc (apQ p q r))))]|false=>none)=_
 rw[aA,o1,RE.apQ_re]
def Sa(c:BCU)(p:BP)(_k:KT):Option (List RV):=match c.2.2.2.1 with|true=>(og (decide (ok (Rat×Rat) 400 (hid ((c.2.2.1.1,c.2.2.1.2.1)))∧okP 580 c.2.2.2.2.2∧okP 580 c.2.2.2.2.1)) (match decide ((RE.turS (dec (hid ((c.2.2.1.1,c.2.2.1.2.1)))) (RE.pR (dec c.2.2.2.2.2)) (RE.pR (dec c.2.2.2.2.1)))≥0)with|true=>(og (decide (ok (Rat×Rat) 400 (hid ((c.2.2.1.1,c.2.2.1.2.1)))∧okP 580 c.2.2.2.2.2∧okP 580 p)) (match decide ((RE.turS (dec (hid ((c.2.2.1.1,c.2.2.1.2.1)))) (RE.pR (dec c.2.2.2.2.2)) (RE.pR (dec p)))≥0)with|true=>(og (decide (ok (Rat×Rat) 400 (hid ((c.2.2.1.1,c.2.2.1.2.1)))∧okP 580 p∧okP 580 c.2.2.2.2.1)) (some [RV.d .bool (decide ((RE.turS (dec (hid ((c.2.2.1.1,c.2.2.1.2.1)))) (RE.pR (dec p)) (RE.pR (dec c.2.2.2.2.1)))≥0))]))|false=>some [RV.d .bool false]))|false=>(og (decide (ok (Rat×Rat) 400 (hid ((c.2.2.1.1,c.2.2.1.2.1)))∧okP 580 c.2.2.2.2.1∧okP 580 p)) (match decide ((RE.turS (dec (hid ((c.2.2.1.1,c.2.2.1.2.1)))) (RE.pR (dec c.2.2.2.2.1)) (RE.pR (dec p)))≤0)with|true=>some [RV.d .bool true]|false=>(og (decide (ok (Rat×Rat) 400 (hid ((c.2.2.1.1,c.2.2.1.2.1)))∧okP 580 p∧okP 580 c.2.2.2.2.2)) (some [RV.d .bool (decide ((RE.turS (dec (hid ((c.2.2.1.1,c.2.2.1.2.1)))) (RE.pR (dec p)) (RE.pR (dec c.2.2.2.2.2)))≤0))]))))))|false=>(og (decide (ok (Rat×Rat) 400 (hid ((c.2.2.1.1,c.2.2.1.2.1)))∧okP 580 c.2.2.2.2.1∧okP 580 c.2.2.2.2.2)) (match decide ((RE.turS (dec (hid ((c.2.2.1.1,c.2.2.1.2.1)))) (RE.pR (dec c.2.2.2.2.1)) (RE.pR (dec c.2.2.2.2.2)))≥0)with|true=>(og (decide (ok (Rat×Rat) 400 (hid ((c.2.2.1.1,c.2.2.1.2.1)))∧okP 580 c.2.2.2.2.1∧okP 580 p)) (match decide ((RE.turS (dec (hid ((c.2.2.1.1,c.2.2.1.2.1)))) (RE.pR (dec c.2.2.2.2.1)) (RE.pR (dec p)))≥0)with|true=>(og (decide (ok (Rat×Rat) 400 (hid ((c.2.2.1.1,c.2.2.1.2.1)))∧okP 580 p∧okP 580 c.2.2.2.2.2)) (some [RV.d .bool (decide ((RE.turS (dec (hid ((c.2.2.1.1,c.2.2.1.2.1)))) (RE.pR (dec p)) (RE.pR (dec c.2.2.2.2.2)))≥0))]))|false=>some [RV.d .bool false]))|false=>(og (decide (ok (Rat×Rat) 400 (hid ((c.2.2.1.1,c.2.2.1.2.1)))∧okP 580 c.2.2.2.2.2∧okP 580 p)) (match decide ((RE.turS (dec (hid ((c.2.2.1.1,c.2.2.1.2.1)))) (RE.pR (dec c.2.2.2.2.2)) (RE.pR (dec p)))≤0)with|true=>some [RV.d .bool true]|false=>(og (decide (ok (Rat×Rat) 400 (hid ((c.2.2.1.1,c.2.2.1.2.1)))∧okP 580 p∧okP 580 c.2.2.2.2.1)) (some [RV.d .bool (decide ((RE.turS (dec (hid ((c.2.2.1.1,c.2.2.1.2.1)))) (RE.pR (dec p)) (RE.pR (dec c.2.2.2.2.1)))≤0))]))))))
def Zv:Cn 104 [tCU,tP]:=cn fun(c:BCU) (p:BP)=>lf (oR c.2.2.1∧okP 580 c.2.2.2.2.1∧okP 580 c.2.2.2.2.2∧okP 580 p) [.d .bool (RE.witE (dC c) (RE.pR (dec p)))] fun h=>by
 refine az Cw (Sa c p) ⟨0,?_⟩
 obtain⟨⟨hc,_⟩,hf,ht,hp⟩:=h
 obtain⟨p,rfl,bp,rp⟩:=bG hp
 obtain⟨ar,li,ci,cw,fr,to⟩:=c
 simp only at hc hf ht
 obtain⟨ci,rfl,bc⟩:=aB hc
 obtain⟨fr,rfl,bf,rf⟩:=bG hf
 obtain⟨to,rfl,bt,rt⟩:=bG ht
 have e0:((aq ci.1,aq ci.2.1):BV)=enc (ctr ci):=rfl
 unfold Sa
 rw[RE.wit_eq]
 simp only[aO,Nat.reduceLeDiff,aI,e0]
 cases cw
 ·simp only[aO,dC,ciC,ccF,ccT,cwC,frC,toC]
  rw[RE.turS_anti (ctr ci) (RE.pR to) (RE.pR p),RE.turS_anti (ctr ci) (RE.pR p) (RE.pR fr)]
  exact RE.wit_go _ _ _
 ·simp only[aO,dC,ciC,ccF,ccT,cwC,frC,toC]
  rw[RE.turS_anti (ctr ci) (RE.pR fr) (RE.pR p),RE.turS_anti (ctr ci) (RE.pR p) (RE.pR to)]
  exact RE.wit_go _ _ _
def Kq:List En:=enT ade::enT Zv::Cw
def Yd:NT:=[((43,21),{keep:=[25],hl:=0}),((43,49),{keep:=[107],hl:=0})]
def adY:Ctx:=CX (ens Kq) Yd
def UZ(c:BCU)(p:BP)(r:BR)(_k:KT):Option (List RV):=let y1:=RE.pR (dec c.2.2.2.2.2);let y2:=RE.pR (dec c.2.2.2.2.1);let y3:Option (List RV):=match decide (okP 580 c.2.2.2.2.1∧okP 580 p∧ok Rat 1000 r)with|true=>(match decide (okP 580 c.2.2.2.2.2∧okP 580 p∧ok Rat 1000 r)with|true=>some [RV.d ai2 (if RE.apaS y1 (RE.pR (dec p)) (ah r)<RE.apaS y2 (RE.pR (dec p)) (ah r)then RE.apaS y1 (RE.pR (dec p)) (ah r)else RE.apaS y2 (RE.pR (dec p)) (ah r))]|false=>none)|false=>none;let y4:=hMu c.2.1.2.1 p.2.2.1;let y5:=hAd (hMu c.2.1.1 p.1) y4;let y6:=hMu c.2.1.2.1 p.2.2.2.1;let y7:=hSu y5 c.2.1.2.2;let y8:=hAd (hMu c.2.1.1 p.2.1) y6;let y9:=hMu p.2.2.2.2 (hMu y8 y8);let y10:=hid (aq ((2:Int):Rat));let y11:=hAd (hMu y7 y7) y9;let y12:=hMu y10 (hMu y7 y8);let y13:=hMu c.2.1.1 c.2.1.1;let y14:=hMu c.2.1.2.1 c.2.1.2.1;let y15:=hid (enc (mkR (ah y11) (ah y12) (ah p.2.2.2.2)));let y16:=hMu (hMu r r) (hAd y13 y14);let y17:=hid ((c.2.2.1.1,c.2.2.1.2.1));let y18:=hid (enc (sqP (dec p) (dec y17)));match decide (okR r)with|true=>(match decide ((aC (ah r) 0)<0)with|true=>some [RV.d ai2 1]|false=>(match !c.1 with|true=>(match decide (okC 3000 c∧okP 3000 p∧c.1=false)with|true=>(match !(qM (dC c) (dec p))with|true=>y3|false=>(match decide (okR c.2.1.1∧okR p.1)with|true=>(match decide (okR c.2.1.2.1∧okR p.2.2.1)with|true=>(match decide (okR (hMu c.2.1.1 p.1)∧okR y4)with|true=>(match decide (okR y5∧okR c.2.1.2.2)with|true=>(match decide (okR c.2.1.1∧okR p.2.1)with|true=>(match decide (okR c.2.1.2.1∧okR p.2.2.2.1)with|true=>(match decide (okR (hMu c.2.1.1 p.2.1)∧okR y6)with|true=>(match decide (okR y7∧okR y7)with|true=>(match decide (okR y8∧okR y8)with|true=>(match decide (okR p.2.2.2.2∧okR (hMu y8 y8))with|true=>(match decide (okR (hMu y7 y7)∧okR y9)with|true=>(match decide (aF (2:Int))with|true=>(match decide (okR y7∧okR y8)with|true=>(match decide (okR y10∧okR (hMu y7 y8))with|true=>(match decide (ok Rat 100000 y11∧ok Rat 100000 y12∧ok Rat 100000 p.2.2.2.2∧0≤ah p.2.2.2.2)with|true=>(match decide (okR r∧okR r)with|true=>(match decide (okR c.2.1.1∧okR c.2.1.1)with|true=>(match decide (okR c.2.1.2.1∧okR c.2.1.2.1)with|true=>(match decide (okR y13∧okR y14)with|true=>(match decide (okR (hMu r r)∧okR (hAd y13 y14))with|true=>(match decide (okT 15000 y15∧ok Rat 15000 y16)with|true=>some [RV.d ai2 (fv (dec y15) (ah y16))]|false=>none)|false=>none)|false=>none)|false=>none)|false=>none)|false=>none)|false=>none)|false=>none)|false=>none)|false=>none)|false=>none)|false=>none)|false=>none)|false=>none)|false=>none)|false=>none)|false=>none)|false=>none)|false=>none)|false=>none)|false=>none))|false=>none)|false=>(match decide (okP 3500 p∧ok (Rat×Rat) 300 y17)with|true=>(match decide (okT 15000 y18)with|true=>(match(sgR (dec y18))==0 with|true=>(match decide (okR r∧okR r)with|true=>(match decide (okR c.2.2.1.2.2∧okR (hMu r r))with|true=>some [RV.d ai2 (aC (ah c.2.2.1.2.2) (ah (hMu r r)))]|false=>none)|false=>none)|false=>(match decide (oR c.2.2.1∧okP 580 c.2.2.2.2.1∧okP 580 c.2.2.2.2.2∧okP 580 p)with|true=>(match !(RE.witE (dC c) (RE.pR (dec p)))with|true=>y3|false=>(match decide (okT 15000 y18∧ok Rat 1000 c.2.2.1.2.2∧ok Rat 1000 r∧0≤ah c.2.2.1.2.2)with|true=>some [RV.d ai2 (RE.rngS (RE.vR (dec y18)) (ah c.2.2.1.2.2) (ah r))]|false=>none))|false=>none))|false=>none)|false=>none)))|false=>none
theorem ad3(c:BCU)(p:BP)(r:BR):RS adY 43 [.d tCU c,.d tP p,.d tR r] (UZ c p r):=rsX
open Classical in
def Zt:Cn 43 [tCU,tP,tR]:=cn fun(c:BCU) (p:BP) (r:BR)=>lf (okC 580 c∧okP 580 p∧ok Rat 1000 r) [.d ai2 (RE.poiE (dC c) (RE.pR (dec p)) (ah r))] fun h=>by
 refine cJ Kq (ad3 _ _ _ ⟨0,?_⟩)
 obtain⟨hc,hp,hr⟩:=h
 have hp1:=kJ (k:=580) hp (by decide) (by decide)
 have hp6:=kJ (k:=580) hp (by decide) (by decide)
 have hp3:=kJ (k:=3000) hp (by decide) (by decide)
 have hc3:=cG (k:=3000) hc (by decide) (by decide)
 obtain⟨p,rfl,bp,rp⟩:=bG hp
 obtain⟨r,rfl,br⟩:=aB hr
 obtain⟨ar,li,ci,cw,fr,to⟩:=c
 have h3:=hc.2.2.1
 have h4:=hc.2.2.2
 simp only at h3 h4
 obtain⟨fr,rfl,bf,rf⟩:=bG h3
 obtain⟨to,rfl,bt,rt⟩:=bG h4
 have o1:decide (okP 580 (enc fr)∧okP 580 (enc p)∧ok Rat 1000 (aq r))=true:=afZ ⟨h3,hp1,hr⟩
 have o2:decide (okP 580 (enc to)∧okP 580 (enc p)∧ok Rat 1000 (aq r))=true:=afZ ⟨h4,hp1,hr⟩
 have b2:Bd ((2:Int):Rat) 3:=cO (n:=2) (by decide)
 have i2:decide (aF 2)=true:=by decide
 have hn:0≤p.2.2.2.2:=rp.nn
 rw[d7,cj,aA]
 unfold UZ RE.poiE
 cases ar
 ·obtain⟨c2,c3⟩:=hc.2.1 rfl
  simp only at c2 c3
  obtain⟨li,rfl,bl⟩:=aB c2
  have o3:decide (okC 3000 (false,enc li,ci,cw,enc fr,enc to)∧okP 3000 (enc p)∧(false,enc li,ci,cw,enc fr,enc to).1=false)=true:=afZ ⟨hc3,hp3,rfl⟩
  have hb:RE.besE (false,li,dec ci,cw,fr,to) (RE.pR p)=qM (false,li,dec ci,cw,fr,to) p:=RE.bes_E (c:=(false,li,dec ci,cw,fr,to)) (hf:=rf) (ht:=rt)
  have q2:fv (mkR (ob li p*ob li p+p.2.2.2.2*(oa li p*oa li p)) (2*(ob li p*oa li p)) p.2.2.2.2) (r*r*(li.1*li.1+li.2.1*li.2.1))=RE.sg (RE.exE li (RE.pR p)*RE.exE li (RE.pR p)-RE.of (r*r*(li.1*li.1+li.2.1*li.2.1))):=by
   rw[RE.cmpTR_re (pF (h:=⟨hn⟩)).nn,RE.vR_lin]
  have bA:Bd (ob li p) 2070:=(inferInstance:Bd (li.1*p.1+li.2.1*p.2.2.1-li.2.2) _).mono (by decide)
  have bB:Bd (oa li p) 2070:=(inferInstance:Bd (li.1*p.2.1+li.2.1*p.2.2.2.1) _).mono (by decide)
  have eA:li.1*p.1+li.2.1*p.2.2.1-li.2.2=ob li p:=rfl
  have eB:li.1*p.2.1+li.2.1*p.2.2.2.1=oa li p:=rfl
  have e2:((2:Int):Rat)=2:=rfl
  have b2':Bd (2:Rat) 3:=b2
  have nC:Nn p.2.2.2.2:=⟨hn⟩
  dsimp only
  simp only[aO,Nat.reduceAdd,Nat.reduceLeDiff,aH,aI,au,o1,o2,afZ hc3,i2,dT hn,RE.min_if,Bool.not_false,dC,lnC,eA,eB,e2,q2,hb]
  cases decide (r<0)
  ·cases qM (false,li,dec ci,cw,fr,to) p<;>rfl
  ·rfl
 ·obtain⟨c1,hq⟩:=hc.1 rfl
  have hci:oR ci:=⟨c1,hq⟩
  simp only at c1 hq
  obtain⟨ci,rfl,bc⟩:=aB c1
  rw[aA]at hq
  have e0:((aq ci.1,aq ci.2.1):BV)=enc (ctr ci):=rfl
  have o3:decide (oR (enc ci)∧okP 580 (enc fr)∧okP 580 (enc to)∧okP 580 (enc p))=true:=afZ ⟨hci,h3,h4,hp6⟩
  have z:(sgR (sqP p (ctr ci))==0)=decide (RE.pR p=RE.vE (ctr ci)):=by
   rw[ahF,aim]
   exact RE.sq_zr
  have vs:RE.vR (sqP p (ctr ci))=RE.dsE (RE.pR p) (RE.vE (ctr ci)):=RE.vR_sq _
  dsimp only
  simp only[aO,Nat.reduceAdd,Nat.reduceMul,Nat.reduceLeDiff,aH,aI,au,e0,o1,o2,o3,RE.min_if,Bool.not_true,dC,ciC,z,vs,dT (show 0≤ci.2.2 by grind)]
  cases decide (r<0)
  ·cases decide (RE.pR p=RE.vE (ctr ci))
   ·cases RE.witE (true,dec li,ci,cw,fr,to) (RE.pR p)<;>rfl
   ·rfl
  ·rfl
end
def yn:List En:=[⟨41,eW,dk⟩,⟨99,fM,dS⟩,⟨108,fO,dP⟩,⟨107,gS,eU⟩,⟨106,gi,dY⟩,⟨109,jN,f0⟩,enT J2]
def Yi:NT:=[((221,6),{keep:=[4,5,6,7,18,19,20],hl:=5})]
def Ig:Ctx:=CX (ens yn) Yi
def yx(d p q r:BR)(s20:Int):Cfg:=⟨221,[.blk 0,.seq 25],[(4,.box 0 0),(5,.box 1 0),(6,.box 2 0),(7,.box 3 0),(18,.own 4),(19,SI (([d,p,q,r]).length:Int)),(20,SI s20)],[.box 31 [SB d.1.1,.d ai1 d.1.2,SB d.2.1,.d ai1 d.2.2],.box 31 [SB p.1.1,.d ai1 p.1.2,SB p.2.1,.d ai1 p.2.2],.box 31 [SB q.1.1,.d ai1 q.1.2,SB q.2.1,.d ai1 q.2.2],.box 31 [SB r.1.1,.d ai1 r.1.2,SB r.2.1,.d ai1 r.2.2],.row 31 tR ([d,p,q,r])],0,[]⟩
def acO(d p q r:BR)(k:KT):Option (List RV):=k 6 (yx d p q r 0)
theorem aby(d p q r:BR):RS Ig 221 [.d tR d,.d tR p,.d tR q,.d tR r] (acO d p q r):=rsX
def ui(d p q r:BR)(s20:Int)(k:KT):Option (List RV):=match decide (s20<(([d,p,q,r]).length:Int))with|true=>(match aN ([d,p,q,r]) s20 with|some _=>(match true,([d,p,q,r])[(s20).toNat]? with|true,some x1=>(og (o1 x1) (match decide ((aC (ah x1) 0)<0)with|true=>some [RV.d ai2 0,RV.d ai2 7]|false=>k 6 (yx d p q r (i64.wrap (s20+1)))))|_,_=>none)|none=>none)|false=>(og (o2 d p) (og (o2 (hSu d p) q) (og (o2 r r) (og (o2 (hSu (hSu d p) q) (hMu r r)) (og (decide (aF ((-2):Int))) (og (o2 (hid (aq (((-2):Int):Rat))) r) (og (decide (aF ((-2):Int))) (og (decide (okQ (hSu (hSu (hSu d p) q) (hMu r r),(hMu (hid (aq (((-2):Int):Rat))) r,(hMu (hid (aq (((-2):Int):Rat))) r,(hid (aq (((-2):Int):Rat)),(p,q))))))) (some [RV.d ai2 (sgQ (dec (hSu (hSu (hSu d p) q) (hMu r r),(hMu (hid (aq (((-2):Int):Rat))) r,(hMu (hid (aq (((-2):Int):Rat))) r,(hid (aq (((-2):Int):Rat)),(p,q))))))),RV.d ai2 0])))))))))
theorem z6(d p q r:BR)(s20:Int):RN Ig 6 (yx d p q r s20) (ui d p q r s20):=rnX
theorem adf{d p q r:Rat}[bd:Bd d 2000][bp:Bd p 2000][bq:Bd q 2000][br:Bd r 2000](nd:0≤d)(np:0≤p)(nq:0≤q)(nr_:0≤r):∀(j i:Nat),i+j=4→Ig.Runs 6 (yx (enc d) (enc p) (enc q) (enc r) (i:Int)) [.d ai2 (uc d p q r),.d ai2 (0:Int)]:=by
 have k2:decide (aF (-2))=true:=by decide
 have b2:Bd ((-2:Int):Rat) 3:=cO (n:= -2) (by decide)
 have b2':Bd (-2:Rat) 3:=b2
 have e2:((-2:Int):Rat)= -2:=rfl
 have n1:Nn p:=⟨np⟩
 have n2:Nn q:=⟨nq⟩
 have o1:decide (okQ (enc ((d-p-q-r*r,-2*r,-2*r,-2,p,q):Qd)))=true:=wU (by decide) (by decide) (by decide) (by decide) (by decide) (by decide)
 have hall:∀x∈[d,p,q,r],Bd x 2000∧0≤x:=by
  intro x hx
  simp only[agl,ahS,or_false]at hx
  rcases hx with e|e|e|e<;>subst e<;>constructor<;>assumption
 intro j
 induction j with
 |zero=>
  intro i hi
  refine z6 _ _ _ _ _ ⟨0,?_⟩
  unfold ui
  rw[dF (show ¬(i:Int)<(([enc d,enc p,enc q,enc r]:List BR).length:Int) by simp;omega)]
  simp only[aO,Nat.reduceAdd,Nat.reduceLeDiff,k2,e2]
  show og (decide (okQ (enc ((d-p-q-r*r,-2*r,-2*r,-2,p,q):Qd)))) (some [RV.d ai2 (sgQ (dec (enc ((d-p-q-r*r,-2*r,-2*r,-2,p,q):Qd)))),_])=_
  rw[o1,aA]
  rfl
 |succ j ih=>
  intro i hi
  have hil:i<[d,p,q,r].length:=by simp;omega
  obtain⟨n,hn⟩:=ih (i+1) (by omega)
  refine z6 _ _ _ _ _ ⟨n,?_⟩
  have g:([enc d,enc p,enc q,enc r]:List BR)[i]?=some (enc [d,p,q,r][i]):=by
   show(([d,p,q,r]:List Rat).map enc)[i]?=_
   rw[ag2,af0 hil]
   rfl
  obtain⟨hb,hx⟩:=hall _ (agz hil)
  generalize [d,p,q,r][i]=x at*
  unfold ui
  rw[dT (show(i:Int)<(([enc d,enc p,enc q,enc r]:List BR).length:Int) by simp;omega),ao,ahm,g,bK (by omega)]
  dsimp only
  simp only[aO,Nat.reduceLeDiff,au,dF (show ¬x<0 by grind)]
  exact hn
def ac9:Cn 221 [tR,tR,tR,tR]:=cn fun(d p q r:BR)=>lf (n4P d p q r) [.d ai2 (uc (ah d) (ah p) (ah q) (ah r)),.d ai2 0] fun h=>by
 obtain⟨d,p,q,r,⟨rfl,rfl,rfl,rfl⟩,bd,bp,bq,br,nd,np,nq,nr_⟩:=Ve h
 have:=adf nd np nq nr_ 4 0 rfl
 simp only[d7,cj]
 exact cJ yn (aby _ _ _ _ this)
def RA(x y z r:BR)(_k:KT):Option (List RV):=og (decide (aF (2:Int))) (og (o2 x y) (og (o2 (hAd x y) z) (og (o2 r r) (og (o2 (hSu (hAd x y) z) (hMu r r)) (og (o2 (hid (aq ((2:Int):Rat))) r) (og (o1 (hMu (hid (aq ((2:Int):Rat))) r)) (og (decide (aF (0:Int))) (og (o2 x y) (og (decide (okQ (hSu (hSu (hAd x y) z) (hMu r r),(hid (aq ((2:Int):Rat)),(hNe (hMu (hid (aq ((2:Int):Rat))) r),(hid (aq ((0:Int):Rat)),(hMu x y,z))))))) (some [RV.d ai2 (sgQ (dec (hSu (hSu (hAd x y) z) (hMu r r),(hid (aq ((2:Int):Rat)),(hNe (hMu (hid (aq ((2:Int):Rat))) r),(hid (aq ((0:Int):Rat)),(hMu x y,z)))))))]))))))))))
def ach:Cn 112 [tR,tR,tR,tR]:=cn fun(x y z r:BR)=>lf (n4P x y z r) [.d ai2 (Bi (ah x) (ah y) (ah z) (ah r))] fun h=>by
 refine az yn (RA x y z r) ⟨0,?_⟩
 obtain⟨x,y,z,r,⟨rfl,rfl,rfl,rfl⟩,bx,b_,bz,br,nx,ny,nz,nr_⟩:=Ve h
 have i2:decide (aF 2)=true:=by decide
 have i0:decide (aF 0)=true:=by decide
 have b2:Bd ((2:Int):Rat) 3:=cO (n:=2) (by decide)
 have b0:Bd ((0:Int):Rat) 3:=cO (n:=0) (by decide)
 have b2':Bd (2:Rat) 3:=b2
 have b0':Bd (0:Rat) 3:=b0
 have e2:((2:Int):Rat)=2:=rfl
 have e0:((0:Int):Rat)=0:=rfl
 have n1:Nn (x*y):=⟨agm nx ny⟩
 have n2:Nn z:=⟨nz⟩
 have o1:decide (okQ (enc ((x+y-z-r*r,2,-(2*r),0,x*y,z):Qd)))=true:=wU (by decide) (by decide) (by decide) (by decide) (by decide) (by decide)
 unfold RA
 simp only[aO,Nat.reduceAdd,Nat.reduceLeDiff,i2,i0,e2,e0]
 show og (decide (okQ (enc ((x+y-z-r*r,2,-(2*r),0,x*y,z):Qd)))) (some [RV.d ai2 (sgQ (dec (enc ((x+y-z-r*r,2,-(2*r),0,x*y,z):Qd))))])=_
 rw[o1,aA]
 rfl
def VI:List En:=enT ac9::yn
def aaI:Cn 111 [tR,tR,tR,tR]:=cn fun(x y z r:BR)=>lf (n4P x y z r) [.d ai2 (uc (ah x) (ah y) (ah z) (ah r))] fun h=>iW [RV.d ai2 (uc (ah x) (ah y) (ah z) (ah r))] (c7 VI) h
def W1:List En:=[enL HX,enT Ek,enL AT,enT Zh]
def RU(s a:BCU)(r:BR)(_k:KT):Option (List RV):=og (decide (ok Ln 300 s.2.1∧ok (Rat×Rat) 200 (a.2.2.1.1,a.2.2.1.2.1)∧((dec s.2.1:Ln).1≠0∨(dec s.2.1:Ln).2.1≠0))) (og (decide (ok (Rat×Rat) 100000 (hid (enc (eT (dec s.2.1) (dec (a.2.2.1.1,a.2.2.1.2.1))))))) (og (decide (okC 4000 s∧okP 4000 (hid (enc (atP (dec (hid (enc (eT (dec s.2.1) (dec (a.2.2.1.1,a.2.2.1.2.1))))))))))) (match !(onP (dC s) (dec (hid (enc (atP (dec (hid (enc (eT (dec s.2.1) (dec (a.2.2.1.1,a.2.2.1.2.1)))))))))))with|true=>some [RV.d ai2 1]|false=>(og (decide (okC 500 a∧ok (Rat×Rat) 200 (hid (enc (eT (dec s.2.1) (dec (a.2.2.1.1,a.2.2.1.2.1)))))∧ok Rat 1000 r)) (some [RV.d ai2 (u7 (dC a) (dec (hid (enc (eT (dec s.2.1) (dec (a.2.2.1.1,a.2.2.1.2.1)))))) (ah r))])))))
def Zg:Cn 45 [tCU,tCU,tR]:=cn fun(s a:BCU) (r:BR)=>lf (Dl s a∧ok Rat 1000 r) [.d ai2 (Gr (dC s) (dC a) (ah r))] fun h=>by
 refine az W1 (RU s a r) ⟨0,?_⟩
 obtain⟨⟨hs,ha,es,ea⟩,hr⟩:=h
 have hF:=Xe hs.2 ha.2 es ea
 obtain⟨ar,li,ci,cw,fr,to⟩:=s
 obtain⟨ar',li',ci',cw',fr',to'⟩:=a
 simp only at es ea
 subst es ea
 obtain⟨l1,l2⟩:=hs.1.2.1 rfl
 obtain⟨c1,c2⟩:=ha.1.1 rfl
 simp only at l1 l2 c1 c2
 obtain⟨li,rfl,bl⟩:=aB l1
 obtain⟨ci',rfl,bc,qc⟩:=cH (ha.2.1 rfl)
 have bc':Bd (ctr ci') 200:=(inferInstance:Bd ((ci'.1,ci'.2.1):Rat×Rat) _).mono (by decide)
 have e0:((aq ci'.1,aq ci'.2.1):BV)=enc (ctr ci'):=rfl
 rw[aA]at l2
 simp only[ftv,dC,lnC,ciC,aA]at hF
 unfold RU Gr ftv Gx
 simp only[dC,lnC,ciC,aA]
 simp only[aO,Nat.reduceLeDiff,aI,e0,dT l2,dT (cG (k:=4000) hs.1 (by decide) (by decide)),dT ha.1,dT hr]
 cases onP (false,li,dec ci,cw,dec fr,dec to) (atP (eT li (ctr ci')))<;>rfl
def XE:List En:=[⟨106,gi,dY⟩,⟨107,gS,eU⟩,⟨108,fO,dP⟩,⟨109,jN,f0⟩,⟨41,eW,dk⟩,enT Rp,enT aaI,enT ach]
def Tb(c d:BCU)(r:BR)(_k:KT):Option (List RV):=let y1:=hSu d.2.2.1.1 c.2.2.1.1;let y2:=hSu d.2.2.1.2.1 c.2.2.1.2.1;let y3:=hAd (hMu y1 y1) (hMu y2 y2);let y4:=dec (hSu d.2.2.1.1 c.2.2.1.1,hSu d.2.2.1.2.1 c.2.2.1.2.1);let y5:=dec (hNe y1,hNe y2);let y6:=n4P y3 c.2.2.1.2.2 d.2.2.1.2.2 r;let y7:=n4P y3 d.2.2.1.2.2 c.2.2.1.2.2 r;let y8:=n4P c.2.2.1.2.2 y3 d.2.2.1.2.2 r;let y9:=n4P d.2.2.1.2.2 y3 c.2.2.1.2.2 r;let y10:=ah c.2.2.1.2.2;let y11:=ah d.2.2.1.2.2;let y12:=mn2 1 (mx2 (uc (ah y3) y10 y11 (ah r)) (Bi y10 y11 (ah y3) (ah r)));let y13:=mx2 (Bi (ah y3) y11 y10 (ah r)) (uc y10 (ah y3) y11 (ah r));let y14:=mx2 (Bi (ah y3) y10 y11 (ah r)) (uc y11 (ah y3) y10 (ah r));let y15:Option (List RV):=match decide (okC 500 c∧ok (Rat×Rat) 510 (hNe y1,hNe y2))with|true=>(match fB (dC c) y5 with|true=>(og (decide (okC 500 d∧ok (Rat×Rat) 510 (hNe y1,hNe y2))) (match fB (dC d) y5 with|true=>(og (decide y6) (og (decide y9) (some [RV.d ai2 (mn2 1 y14)])))|false=>some [RV.d ai2 1]))|false=>some [RV.d ai2 1])|false=>none;og (o2 d.2.2.1.1 c.2.2.1.1) (og (o2 d.2.2.1.2.1 c.2.2.1.2.1) (og (o2 y1 y1) (og (o2 y2 y2) (og (o2 (hMu y1 y1) (hMu y2 y2)) (og (o1 y3) (match(aC (ah y3) 0)==0 with|true=>some [RV.d ai2 1]|false=>(og (o1 y1) (og (o1 y2) (og (decide (okC 500 c∧ok (Rat×Rat) 510 (hSu d.2.2.1.1 c.2.2.1.1,hSu d.2.2.1.2.1 c.2.2.1.2.1))) (match fB (dC c) y4 with|true=>(og (decide (okC 500 d∧ok (Rat×Rat) 510 (hNe y1,hNe y2))) (match fB (dC d) y5 with|true=>(og (decide y6) (og (decide (n4P c.2.2.1.2.2 d.2.2.1.2.2 y3 r)) (og (decide (okC 500 d∧ok (Rat×Rat) 510 (hSu d.2.2.1.1 c.2.2.1.1,hSu d.2.2.1.2.1 c.2.2.1.2.1))) (match fB (dC d) y4 with|true=>(og (decide y7) (og (decide y8) (og (decide (okC 500 c∧ok (Rat×Rat) 510 (hNe y1,hNe y2))) (match fB (dC c) y5 with|true=>(og (decide (okC 500 d∧ok (Rat×Rat) 510 (hNe y1,hNe y2))) (match fB (dC d) y5 with|true=>(og (decide y6) (og (decide y9) (some [RV.d ai2 (mn2 (mn2 y12 y13) y14)])))|false=>some [RV.d ai2 (mn2 y12 y13)]))|false=>some [RV.d ai2 (mn2 y12 y13)]))))|false=>(og (decide (okC 500 c∧ok (Rat×Rat) 510 (hNe y1,hNe y2))) (match fB (dC c) y5 with|true=>(og (decide (okC 500 d∧ok (Rat×Rat) 510 (hNe y1,hNe y2))) (match fB (dC d) y5 with|true=>(og (decide y6) (og (decide y9) (some [RV.d ai2 (mn2 y12 y14)])))|false=>some [RV.d ai2 y12]))|false=>some [RV.d ai2 y12]))))))|false=>(og (decide (okC 500 d∧ok (Rat×Rat) 510 (hSu d.2.2.1.1 c.2.2.1.1,hSu d.2.2.1.2.1 c.2.2.1.2.1))) (match fB (dC d) y4 with|true=>(og (decide y7) (og (decide y8) (og (decide (okC 500 c∧ok (Rat×Rat) 510 (hNe y1,hNe y2))) (match fB (dC c) y5 with|true=>(og (decide (okC 500 d∧ok (Rat×Rat) 510 (hNe y1,hNe y2))) (match fB (dC d) y5 with|true=>(og (decide y6) (og (decide y9) (some [RV.d ai2 (mn2 (mn2 1 y13) y14)])))|false=>some [RV.d ai2 (mn2 1 y13)]))|false=>some [RV.d ai2 (mn2 1 y13)]))))|false=>y15))))|false=>y15))))))))))
def Z5:Cn 44 [tCU,tCU,tR]:=cn fun(c d:BCU) (r:BR)=>lf (IC c d∧ok Rat 1000 r∧0≤ah r) [.d ai2 (Pa (dC c) (dC d) (ah r))] fun h=>by
 refine az XE (Tb c d r) ⟨0,?_⟩
 obtain⟨⟨hc,hd,ec,ed⟩,hr,nr_⟩:=h
 obtain⟨ar,li,ci,cw,fr,to⟩:=c
 obtain⟨ar',li',di,cw',fr',to'⟩:=d
 simp only at ec ed
 subst ec ed
 have oc:decide (okC 500 _)=true:=dT hc.1
 have od:decide (okC 500 _)=true:=dT hd.1
 obtain⟨ci,rfl,bc,qc⟩:=cH (hc.2.1 rfl)
 obtain⟨di,rfl,bd,qd⟩:=cH (hd.2.1 rfl)
 obtain⟨r,rfl,br⟩:=aB hr
 rw[d7,cj]at nr_
 have n0:0≤bT (cU (ctr ci) (ctr di)) (cU (ctr ci) (ctr di)):=oO _
 have bN:Bd (bT (cU (ctr ci) (ctr di)) (cU (ctr ci) (ctr di))) 100:=(inferInstance:Bd ((di.1-ci.1)*(di.1-ci.1)+(di.2.1-ci.2.1)*(di.2.1-ci.2.1)) _).mono (by decide)
 have e0:((aq (di.1-ci.1),aq (di.2.1-ci.2.1)):BV)=enc (cU (ctr ci) (ctr di)):=rfl
 have e1:((aq (-(di.1-ci.1)),aq (-(di.2.1-ci.2.1))):BV)=enc (bkV (cU (ctr ci) (ctr di))):=rfl
 have eN:(di.1-ci.1)*(di.1-ci.1)+(di.2.1-ci.2.1)*(di.2.1-ci.2.1)=bT (cU (ctr ci) (ctr di)) (cU (ctr ci) (ctr di)):=rfl
 have bw:Bd (cU (ctr ci) (ctr di)) 20:=(inferInstance:Bd ((di.1-ci.1,di.2.1-ci.2.1):Rat×Rat) _).mono (by decide)
 have bb:Bd (bkV (cU (ctr ci) (ctr di))) 20:=(inferInstance:Bd ((-(di.1-ci.1),-(di.2.1-ci.2.1)):Rat×Rat) _).mono (by decide)
 have b0:Bd (di.1-ci.1) 10:=(inferInstance:Bd (di.1-ci.1) _).mono (by decide)
 have b1:Bd (di.2.1-ci.2.1) 10:=(inferInstance:Bd (di.2.1-ci.2.1) _).mono (by decide)
 have pc:0≤ci.2.2:=by grind
 have pd:0≤di.2.2:=by grind
 have k1:=(Nf (i:=100) (j:=13) (k:=13) (l:=1000) (by decide) (by decide) (by decide) (by decide) n0 pc pd nr_)
 have k2:=(Nf (i:=100) (j:=13) (k:=13) (l:=1000) (by decide) (by decide) (by decide) (by decide) n0 pd pc nr_)
 have k3:=(Nf (i:=13) (j:=100) (k:=13) (l:=1000) (by decide) (by decide) (by decide) (by decide) pc n0 pd nr_)
 have k4:=(Nf (i:=13) (j:=100) (k:=13) (l:=1000) (by decide) (by decide) (by decide) (by decide) pd n0 pc nr_)
 have k5:=(Nf (i:=13) (j:=13) (k:=100) (l:=1000) (by decide) (by decide) (by decide) (by decide) pc pd n0 nr_)
 have sl:∀a b c d,uc a b c d≤1:=fun a b c d=>NW _
 have bl:∀a b c d,Bi a b c d≤1:=fun a b c d=>NW _
 unfold Tb Pa nT fT nD wyv
 simp only[aO,Nat.reduceAdd,Nat.reduceLeDiff,am,e0,e1,eN,oc,od,k1,k2,k3,k4,k5,dC,ciC,CF,VV]
 have s1:=sl (bT (cU (ctr ci) (ctr di)) (cU (ctr ci) (ctr di))) ci.2.2 di.2.2 r
 have s2:=sl ci.2.2 (bT (cU (ctr ci) (ctr di)) (cU (ctr ci) (ctr di))) di.2.2 r
 have s3:=sl di.2.2 (bT (cU (ctr ci) (ctr di)) (cU (ctr ci) (ctr di))) ci.2.2 r
 have s4:=bl ci.2.2 di.2.2 (bT (cU (ctr ci) (ctr di)) (cU (ctr ci) (ctr di))) r
 have s5:=bl (bT (cU (ctr ci) (ctr di)) (cU (ctr ci) (ctr di))) di.2.2 ci.2.2 r
 have s6:=bl (bT (cU (ctr ci) (ctr di)) (cU (ctr ci) (ctr di))) ci.2.2 di.2.2 r
 cases decide (bT (cU (ctr ci) (ctr di)) (cU (ctr ci) (ctr di))=0)
 ·cases fB (true,dec li,ci,cw,dec fr,dec to) (cU (ctr ci) (ctr di))<;>cases fB (true,dec li,ci,cw,dec fr,dec to) (bkV (cU (ctr ci) (ctr di)))<;>cases fB (true,dec li',di,cw',dec fr',dec to') (cU (ctr ci) (ctr di))<;>cases fB (true,dec li',di,cw',dec fr',dec to') (bkV (cU (ctr ci) (ctr di)))<;>simp only[Gx,agd,cond_false,Bool.and_true,Bool.and_false]<;>refine congrArg (fun x:Int=>some [RV.d ai2 x]) ?_<;>omega
 ·rfl
def WH:List En:=[⟨41,eW,dk⟩,enL ZX,enT Zt,enT Z5,enT Zg]
def TD(c d:BCU)(r:BR)(_k:KT):Option (List RV):=let y1:Option (List RV):=match decide (okR r)with|true=>some [RV.d ai2 (i64.wrap (0-(aC (ah r) 0)))]|false=>none;let y2:=Gj (RE.poiE (dC d) (RE.pR (dec c.2.2.2.2.1)) (ah r)) (RE.poiE (dC d) (RE.pR (dec c.2.2.2.2.2)) (ah r)) (RE.poiE (dC c) (RE.pR (dec d.2.2.2.2.1)) (ah r)) (RE.poiE (dC c) (RE.pR (dec d.2.2.2.2.2)) (ah r));let y3:Option (List RV):=match c.1 with|true=>(og (decide (Dl d c∧ok Rat 1000 r)) (some [RV.d ai2 (mn2 y2 (Gr (dC d) (dC c) (ah r)))]))|false=>(match d.1 with|true=>(og (decide (Dl c d∧ok Rat 1000 r)) (some [RV.d ai2 (mn2 y2 (Gr (dC c) (dC d) (ah r)))]))|false=>some [RV.d ai2 y2]);og (o1 r) (match decide ((aC (ah r) 0)<0)with|true=>some [RV.d ai2 1]|false=>(og (decide (jU c d)) (match decide (((qg c d).length:Int)>0)with|true=>y1|false=>(match sW c d with|true=>y1|false=>(og (decide (okC 580 d∧okP 580 c.2.2.2.2.1∧ok Rat 1000 r)) (og (decide (okC 580 d∧okP 580 c.2.2.2.2.2∧ok Rat 1000 r)) (og (decide (okC 580 c∧okP 580 d.2.2.2.2.1∧ok Rat 1000 r)) (og (decide (okC 580 c∧okP 580 d.2.2.2.2.2∧ok Rat 1000 r)) (match c.1 with|true=>(match d.1 with|true=>(og (decide (IC c d∧ok Rat 1000 r∧0≤ah r)) (some [RV.d ai2 (mn2 y2 (Pa (dC c) (dC d) (ah r)))]))|false=>y3)|false=>y3)))))))))
def RM:Cn 14 [tCU,tCU,tR]:=cn fun(c d:BCU) (r:BR)=>lf (jU c d∧ok Rat 1000 r) [.d ai2 (qk c d (ah r))] fun h=>by
 refine az WH (TD c d r) ⟨0,?_⟩
 obtain⟨⟨mc,md⟩,hr⟩:=h
 have c5:=cG (k:=580) mc.1 (by decide) (by decide)
 have d5:=cG (k:=580) md.1 (by decide) (by decide)
 obtain⟨r,rfl,br⟩:=aB hr
 have w:i64.wrap (0-aC r 0)= -aC r 0:=by
  have:=jc r 0
  rw[aP (by omega) (by omega)]
  omega
 unfold TD qk YH uT Ci
 simp only[aO,Nat.reduceLeDiff,au,CF,QI,dT (show jU c d from⟨mc,md⟩),dT c5,dT d5,dT c5.2.2.1,dT c5.2.2.2,dT d5.2.2.1,dT d5.2.2.2,w]
 by_cases h0:r<0
 ·rw[dT h0];rfl
 ·rw[dF h0]
  have hn:0≤r:=by grind
  cases decide (((qg c d).length:Int)>0)
  ·cases sW c d
   ·cases ea:c.1<;>cases eb:d.1
    ·simp only[dC,ea,eb];rfl
    ·simp only[dC,ea,eb,dT (show Dl c d from⟨mc,md,ea,eb⟩)];rfl
    ·simp only[dC,ea,eb,dT (show Dl d c from⟨md,mc,eb,ea⟩)];rfl
    ·simp only[dC,ea,eb,dT (show IC c d from⟨mc,md,ea,eb⟩),dT hn];rfl
   ·rfl
  ·rfl
def GJ(c:BCU)(l:List BCU)(r:BR):Prop:=mG c∧(∀x∈l,mG x)∧l.length≤1000000∧ok Rat 1000 r
instance (c:BCU) (l:List BCU) (r:BR):Decidable (GJ c l r):=by unfold GJ;infer_instance
def xQ(a b:List BCU)(r:BR):Prop:=(∀x∈a,mG x)∧(∀x∈b,mG x)∧a.length≤1000000∧b.length≤1000000∧ok Rat 1000 r
instance (a b:List BCU) (r:BR):Decidable (xQ a b r):=by unfold xQ;infer_instance
def nrZ(c:BCU)(r:Rat)(d:BCU):Bool:=decide (qk c d r<0)
def CT(c:BCU)(l:List BCU)(r:Rat):Bool:=!(l.any (nrZ c r))
def A6(f:BCU→Bool):List BCU→Int→Int
 |[],_=> -1
 |c::l,i=>bif f c then i else A6 f l (i+1)
def zz(a b:List BCU)(r:Rat):Int:=A6 (fun c=>!(CT c b r)) a 0
def zJ:List En:=[enT RM]
def YY:NT:=[((69,6),{keep:=[0,1,7,8],hl:=2}),((28,3),{keep:=[9],hl:=0}),((71,3),{keep:=[7],hl:=0}),((69,18),{keep:=[0,1,5,7,8,16],hl:=0})]
def Ik:Ctx:=CX (ens zJ) YY
def nZ(c:BCU)(l:List BCU)(r:BR)(s69_8:Int):Cfg:=⟨69,[.blk 0,.seq 25],[(0,.d (.sl tCU) l),(1,.clo 72 [0,1]),(7,SI (l.length:Int)),(8,SI s69_8)],[.box 39 [SB c.1,SB c.2.1.1.1.1,.d ai1 c.2.1.1.1.2,SB c.2.1.1.2.1,.d ai1 c.2.1.1.2.2,SB c.2.1.2.1.1.1,.d ai1 c.2.1.2.1.1.2,SB c.2.1.2.1.2.1,.d ai1 c.2.1.2.1.2.2,SB c.2.1.2.2.1.1,.d ai1 c.2.1.2.2.1.2,SB c.2.1.2.2.2.1,.d ai1 c.2.1.2.2.2.2,SB c.2.2.1.1.1.1,.d ai1 c.2.2.1.1.1.2,SB c.2.2.1.1.2.1,.d ai1 c.2.2.1.1.2.2,SB c.2.2.1.2.1.1.1,.d ai1 c.2.2.1.2.1.1.2,SB c.2.2.1.2.1.2.1,.d ai1 c.2.2.1.2.1.2.2,SB c.2.2.1.2.2.1.1,.d ai1 c.2.2.1.2.2.1.2,SB c.2.2.1.2.2.2.1,.d ai1 c.2.2.1.2.2.2.2,SB c.2.2.2.1,SB c.2.2.2.2.1.1.1.1,.d ai1 c.2.2.2.2.1.1.1.2,SB c.2.2.2.2.1.1.2.1,.d ai1 c.2.2.2.2.1.1.2.2,SB c.2.2.2.2.1.2.1.1.1,.d ai1 c.2.2.2.2.1.2.1.1.2,SB c.2.2.2.2.1.2.1.2.1,.d ai1 c.2.2.2.2.1.2.1.2.2,SB c.2.2.2.2.1.2.2.1.1.1,.d ai1 c.2.2.2.2.1.2.2.1.1.2,SB c.2.2.2.2.1.2.2.1.2.1,.d ai1 c.2.2.2.2.1.2.2.1.2.2,SB c.2.2.2.2.1.2.2.2.1.1.1,.d ai1 c.2.2.2.2.1.2.2.2.1.1.2,SB c.2.2.2.2.1.2.2.2.1.2.1,.d ai1 c.2.2.2.2.1.2.2.2.1.2.2,SB c.2.2.2.2.1.2.2.2.2.1.1,.d ai1 c.2.2.2.2.1.2.2.2.2.1.2,SB c.2.2.2.2.1.2.2.2.2.2.1,.d ai1 c.2.2.2.2.1.2.2.2.2.2.2,SB c.2.2.2.2.2.1.1.1,.d ai1 c.2.2.2.2.2.1.1.2,SB c.2.2.2.2.2.1.2.1,.d ai1 c.2.2.2.2.2.1.2.2,SB c.2.2.2.2.2.2.1.1.1,.d ai1 c.2.2.2.2.2.2.1.1.2,SB c.2.2.2.2.2.2.1.2.1,.d ai1 c.2.2.2.2.2.2.1.2.2,SB c.2.2.2.2.2.2.2.1.1.1,.d ai1 c.2.2.2.2.2.2.2.1.1.2,SB c.2.2.2.2.2.2.2.1.2.1,.d ai1 c.2.2.2.2.2.2.2.1.2.2,SB c.2.2.2.2.2.2.2.2.1.1.1,.d ai1 c.2.2.2.2.2.2.2.2.1.1.2,SB c.2.2.2.2.2.2.2.2.1.2.1,.d ai1 c.2.2.2.2.2.2.2.2.1.2.2,SB c.2.2.2.2.2.2.2.2.2.1.1,.d ai1 c.2.2.2.2.2.2.2.2.2.1.2,SB c.2.2.2.2.2.2.2.2.2.2.1,.d ai1 c.2.2.2.2.2.2.2.2.2.2.2],.box 31 [SB r.1.1,.d ai1 r.1.2,SB r.2.1,.d ai1 r.2.2]],2,[⟨71,[.seq 4],3,2,[],2,none⟩,⟨28,[.seq 4],3,2,[],0,none⟩]⟩
def abr(c:BCU)(l:List BCU)(r:BR)(k:KT):Option (List RV):=k 6 (nZ c l r 0)
theorem abJ(c:BCU)(l:List BCU)(r:BR):RS Ik 28 [.d tCU c,.d (.sl tCU) l,.d tR r] (abr c l r):=rsX
def mZ(c:BCU)(l:List BCU)(r:BR)(s69_8:Int)(k:KT):Option (List RV):=match decide (s69_8<(l.length:Int))with|true=>(match aN l s69_8 with|some x1=>(og (decide (jU c x1∧ok Rat 1000 r)) (match decide ((qk c x1 (ah r))<0)with|true=>some [RV.d .bool (!(decide (s69_8≥0)))]|false=>k 6 (nZ c l r (i64.wrap (s69_8+1)))))|none=>none)|false=>some [RV.d .bool (!(decide ((-1)≥0)))]
theorem sL(c:BCU)(l:List BCU)(r:BR)(s69_8:Int):RN Ik 6 (nZ c l r s69_8) (mZ c l r s69_8):=rnX
theorem ZD(c:BCU)(l:List BCU)(r:BR)(h:GJ c l r):∀(j i:Nat),i+j=l.length→Ik.Runs 6 (nZ c l r (i:Int)) [.d .bool (!((l.drop i).any (nrZ c (ah r))))]:=by
 intro j
 have hl:=h.2.2.1
 induction j with
 |zero=>
  intro i hi
  refine sL _ _ _ _ ⟨0,?_⟩
  unfold mZ
  rw[bV (by omega),jA (by omega)]
  rfl
 |succ j ih=>
  intro i hi
  have hil:i<l.length:=by omega
  obtain⟨n,hn⟩:=ih (i+1) (by omega)
  refine sL _ _ _ _ ⟨n,?_⟩
  unfold mZ
  rw[bh hil,ao,af0 hil,dO hil,List.any_cons,bK (by omega)]
  dsimp only
  rw[dT (show jU c l[i]∧ok Rat 1000 r from⟨⟨h.1,h.2.1 _ (agz _)⟩,h.2.2.2⟩)]
  have e:nrZ c (ah r) l[i]=decide (qk c l[i] (ah r)<0):=rfl
  rw[e]
  cases decide (qk c l[i] (ah r)<0)
  ·exact hn
  ·show some [RV.d .bool (!(decide ((i:Int)≥0)))]=_
   rw[dT (show(i:Int)≥0 by omega)]
   rfl
def adi:Cn 28 [tCU,(.sl tCU),tR]:=cn fun(c:BCU) (l:List BCU) (r:BR)=>lf (GJ c l r) [.d .bool (CT c l (ah r))] fun h=>by
 exact cJ zJ (abJ _ _ _ (ZD c l r h l.length 0 (agE _)))
def yQ:List En:=enF adi::zJ
def XD:NT:=[((69,6),{keep:=[0,1,7,8],hl:=2}),((26,3),{keep:=[9],hl:=0}),((69,18),{keep:=[0,1,5,7,8,16],hl:=0})]
def HA:Ctx:=CX (ens yQ) XD
def nR(a b:List BCU)(r:BR)(s69_8:Int):Cfg:=⟨69,[.blk 0,.seq 25],[(0,.d (.sl tCU) a),(1,.clo 70 [0,1]),(7,SI (a.length:Int)),(8,SI s69_8)],[.box 54 [.d (.sl tCU) b],.box 31 [SB r.1.1,.d ai1 r.1.2,SB r.2.1,.d ai1 r.2.2]],2,[⟨26,[.seq 4],3,2,[],0,none⟩]⟩
def abA(a b:List BCU)(r:BR)(k:KT):Option (List RV):=k 6 (nR a b r 0)
theorem ZY(a b:List BCU)(r:BR):RS HA 26 [.d (.sl tCU) a,.d (.sl tCU) b,.d tR r] (abA a b r):=rsX
def mL(a b:List BCU)(r:BR)(s69_8:Int)(k:KT):Option (List RV):=match decide (s69_8<(a.length:Int))with|true=>(match aN a s69_8 with|some x1=>(og (decide (GJ x1 b r)) (match !(CT x1 b (ah r))with|true=>some [RV.d ai2 s69_8]|false=>k 6 (nR a b r (i64.wrap (s69_8+1)))))|none=>none)|false=>some [RV.d ai2 (-1)]
theorem sJ(a b:List BCU)(r:BR)(s69_8:Int):RN HA 6 (nR a b r s69_8) (mL a b r s69_8):=rnX
theorem abL(a b:List BCU)(r:BR)(h:xQ a b r):∀(j i:Nat),i+j=a.length→HA.Runs 6 (nR a b r (i:Int)) [.d ai2 (A6 (fun c=>!(CT c b (ah r))) (a.drop i) (i:Int))]:=by
 intro j
 have hl:=h.2.2.1
 induction j with
 |zero=>
  intro i hi
  refine sJ _ _ _ _ ⟨0,?_⟩
  unfold mL
  rw[bV (by omega),jA (by omega)]
  rfl
 |succ j ih=>
  intro i hi
  have hil:i<a.length:=by omega
  obtain⟨n,hn⟩:=ih (i+1) (by omega)
  refine sJ _ _ _ _ ⟨n,?_⟩
  unfold mL
  rw[bh hil,ao,af0 hil,dO hil,bK (by omega)]
  dsimp only
  rw[dT (show GJ a[i] b r from⟨h.1 _ (agz _),h.2.1,h.2.2.2.1,h.2.2.2.2⟩)]
  unfold A6
  cases CT a[i] b (ah r)
  ·rfl
  ·exact hn
def adT:Cn 26 [(.sl tCU),(.sl tCU),tR]:=cn fun(a b:List BCU) (r:BR)=>lf (xQ a b r) [.d ai2 (zz a b (ah r))] fun h=>by
 exact cJ yQ (ZY _ _ _ (abL a b r h a.length 0 (agE _)))
def Pw:List En:=enF adT::yQ
def Z6:Cn 27 [(.sl tCU),(.sl tCU),tR]:=cn fun(a b:List BCU) (r:BR)=>lf (xQ a b r) [.d .bool (decide (zz a b (ah r)<0))] fun h=>iW [RV.d .bool (decide ((zz a b (ah r))<0))] (c7 Pw) h
namespace RE
end RE
namespace RE
end RE
section
open RE
abbrev sgC(a b:Rat×Rat):Cv:=(false,oL a b,dec o00,false,atP a,atP b)
abbrev arC(a b c:Rat×Rat):Cv:=(true,dec o00,oJ a b c,decide (uU a b c<0),atP a,atP c)
abbrev fuA(c:Ln):Cv:=(true,dec o00,c,false,ky c,kx c)
abbrev fuB(c:Ln):Cv:=(true,dec o00,c,false,kx c,ky c)
theorem Nw{a b:Rat×Rat}(h:gU a b=false):dC (eL a b)=sgC a b:=by
 unfold eL dC
 rw[h]
 simp only[cond_false,aA]
theorem TP{a b c:Rat×Rat}(h:fa a b c≠0):dC (ml a b c)=arC a b c:=by
 unfold ml dC
 rw[dF h]
 simp only[cond_false,aA]
theorem qR{c:BCU}(h:gdN c):c.2.2.2.2.1=enc (frC (dC c))∧c.2.2.2.2.2=enc (toC (dC c)):=
 ⟨(Cod.ok_dec _ _ h.fr.1).1,(Cod.ok_dec _ _ h.to.1).1⟩
theorem jX{c d:BCU}(hc:gdN c)(hd:gdN d){c' d':Cv}(ec:dC c=c')(ed:dC d=d')(hs:eG c' d'=false)(hm:VP c' d'=[]){r:Rat}(hr:decide (r<0)=false):qk c d r=uT c' d' r:=by
 subst ec ed
 have e:qg c d=[]:=by rw[LH (qR hc).1 (qR hc).2 (qR hd).1 (qR hd).2,hm];rfl
 have n:sW c d=false:=by unfold sW;rw[hs];rfl
 unfold qk YH
 rw[e,n,hr]
 rfl
theorem xT{d:BCU}(hd:gdN d){p:Pt}{v:Rat×Rat}(e:p=atP v)(hv:Bd v 200)(r:Rat):poiE (dC d) (pR p) r=u7 (dC d) v r:=by
 rw[e,p7]
 exact P1 hd.e (FJ (bv:=hv) hd.1.1).2 r
theorem j8{c d:BCU}(hc:gdN c)(hd:gdN d){a b u w:Rat×Rat}(ba:Bd a 200)(bb:Bd b 200)(bu:Bd u 200)(bw:Bd w 200)(e1:frC (dC c)=atP a)(e2:toC (dC c)=atP b)(e3:frC (dC d)=atP u)(e4:toC (dC d)=atP w)(r:Rat):
  Ci (dC c) (dC d) r=min (min (min (u7 (dC d) a r) (u7 (dC d) b r)) (u7 (dC c) u r)) (u7 (dC c) w r):=by
 unfold Ci
 rw[xT hd e1 ba,xT hd e2 bb,xT hc e3 bu,xT hc e4 bw]
abbrev v00:Rat×Rat:=vcR 0 0
theorem Ye:Bd v00 1:=⟨⟨⟨by decide+kernel,by decide+kernel⟩,⟨by decide+kernel,by decide+kernel⟩⟩⟩
theorem aeX:Bd v00 200:=Ye.mono (by decide)
abbrev v40:Rat×Rat:=vcR 4 0
theorem W2:Bd v40 1:=⟨⟨⟨by decide+kernel,by decide+kernel⟩,⟨by decide+kernel,by decide+kernel⟩⟩⟩
theorem afl:Bd v40 200:=W2.mono (by decide)
abbrev v13:Rat×Rat:=vcR 1 3
theorem WY:Bd v13 1:=⟨⟨⟨by decide+kernel,by decide+kernel⟩,⟨by decide+kernel,by decide+kernel⟩⟩⟩
theorem afi:Bd v13 200:=WY.mono (by decide)
abbrev v19:Rat×Rat:=vcR 1 9
theorem X0:Bd v19 1:=⟨⟨⟨by decide+kernel,by decide+kernel⟩,⟨by decide+kernel,by decide+kernel⟩⟩⟩
theorem afs:Bd v19 200:=X0.mono (by decide)
abbrev v10:Rat×Rat:=vcR 1 0
theorem Ww:Bd v10 1:=⟨⟨⟨by decide+kernel,by decide+kernel⟩,⟨by decide+kernel,by decide+kernel⟩⟩⟩
theorem abM:Bd v10 200:=Ww.mono (by decide)
abbrev v01:Rat×Rat:=vcR 0 1
theorem aft:Bd v01 1:=⟨⟨⟨by decide+kernel,by decide+kernel⟩,⟨by decide+kernel,by decide+kernel⟩⟩⟩
abbrev vm1:Rat×Rat:=vcR (-1) 0
theorem Yq:Bd vm1 1:=⟨⟨⟨by decide+kernel,by decide+kernel⟩,⟨by decide+kernel,by decide+kernel⟩⟩⟩
theorem adF:Bd vm1 200:=Yq.mono (by decide)
abbrev v30:Rat×Rat:=vcR 3 0
theorem XP:Bd v30 1:=⟨⟨⟨by decide+kernel,by decide+kernel⟩,⟨by decide+kernel,by decide+kernel⟩⟩⟩
theorem Gy:Bd v30 200:=XP.mono (by decide)
abbrev v03:Rat×Rat:=vcR 0 3
theorem afx:Bd v03 1:=⟨⟨⟨by decide+kernel,by decide+kernel⟩,⟨by decide+kernel,by decide+kernel⟩⟩⟩
abbrev vm3:Rat×Rat:=vcR (-3) 0
theorem Yj:Bd vm3 1:=⟨⟨⟨by decide+kernel,by decide+kernel⟩,⟨by decide+kernel,by decide+kernel⟩⟩⟩
theorem afh:Bd vm3 200:=Yj.mono (by decide)
abbrev vm5:Rat×Rat:=vcR (-5) 3
theorem YW:Bd vm5 1:=⟨⟨⟨by decide+kernel,by decide+kernel⟩,⟨by decide+kernel,by decide+kernel⟩⟩⟩
theorem ae7:Bd vm5 200:=YW.mono (by decide)
abbrev v53:Rat×Rat:=vcR 5 3
theorem X8:Bd v53 1:=⟨⟨⟨by decide+kernel,by decide+kernel⟩,⟨by decide+kernel,by decide+kernel⟩⟩⟩
theorem aeO:Bd v53 200:=X8.mono (by decide)
abbrev vm2:Rat×Rat:=vcR (-2) 0
theorem aey:Bd vm2 1:=⟨⟨⟨by decide+kernel,by decide+kernel⟩,⟨by decide+kernel,by decide+kernel⟩⟩⟩
theorem J6:Bd vm2 200:=aey.mono (by decide)
abbrev v20:Rat×Rat:=vcR 2 0
theorem ae6:Bd v20 1:=⟨⟨⟨by decide+kernel,by decide+kernel⟩,⟨by decide+kernel,by decide+kernel⟩⟩⟩
theorem Il:Bd v20 200:=ae6.mono (by decide)
abbrev v90:Rat×Rat:=vcR 9 0
theorem afu:Bd v90 1:=⟨⟨⟨by decide+kernel,by decide+kernel⟩,⟨by decide+kernel,by decide+kernel⟩⟩⟩
theorem HJ:Bd v90 200:=afu.mono (by decide)
abbrev lF:Ln:=(((0:Int):Rat),((0:Int):Rat),((4:Int):Rat))
abbrev lG:Ln:=(((6:Int):Rat),((0:Int):Rat),((9:Int):Rat))
theorem blF:BdC lF:=⟨⟨by decide+kernel,by decide+kernel⟩,⟨by decide+kernel,by decide+kernel⟩,⟨by decide+kernel,by decide+kernel⟩⟩
theorem blG:BdC lG:=⟨⟨by decide+kernel,by decide+kernel⟩,⟨by decide+kernel,by decide+kernel⟩,⟨by decide+kernel,by decide+kernel⟩⟩
theorem gS1:gdN (eL v00 v40):=vk (ba:=Ye) (bb:=W2) (by decide+kernel)
theorem dS1:dC (eL v00 v40)=sgC v00 v40:=Nw (by decide+kernel)
theorem gS2:gdN (eL v13 v19):=vk (ba:=WY) (bb:=X0) (by decide+kernel)
theorem dS2:dC (eL v13 v19)=sgC v13 v19:=Nw (by decide+kernel)
theorem gS3:gdN (eL vm5 v53):=vk (ba:=YW) (bb:=X8) (by decide+kernel)
theorem dS3:dC (eL vm5 v53)=sgC vm5 v53:=Nw (by decide+kernel)
theorem gH1:gdN (ml v10 v01 vm1):=by
 have:=Ww
 have:=Yq
 exact HC (bc:=⟨⟨by decide+kernel,by decide+kernel⟩,⟨by decide+kernel,by decide+kernel⟩,⟨by decide+kernel,by decide+kernel⟩⟩) (by decide+kernel)
theorem dH1:dC (ml v10 v01 vm1)=arC v10 v01 vm1:=TP (by decide+kernel)
theorem gH3:gdN (ml v30 v03 vm3):=by
 have:=XP
 have:=Yj
 exact HC (bc:=⟨⟨by decide+kernel,by decide+kernel⟩,⟨by decide+kernel,by decide+kernel⟩,⟨by decide+kernel,by decide+kernel⟩⟩) (by decide+kernel)
theorem dH3:dC (ml v30 v03 vm3)=arC v30 v03 vm3:=TP (by decide+kernel)
theorem c12:qk (eL v00 v40) (eL v13 v19) ((3:Int):Rat)=0:=by
 rw[jX gS1 gS2 dS1 dS2 (by decide+kernel) (by decide+kernel) (by decide+kernel)]
 have:=j8 gS1 gS2 aeX afl afi afs (by rw[dS1];rfl) (by rw[dS1];rfl) (by rw[dS2];rfl) (by rw[dS2];rfl) ((3:Int):Rat)
 rw[dS1,dS2]at this
 unfold uT
 rw[this]
 decide+kernel
theorem cHH:qk (ml v10 v01 vm1) (ml v30 v03 vm3) ((2:Int):Rat)=0:=by
 rw[jX gH1 gH3 dH1 dH3 (by decide+kernel) (by decide+kernel) (by decide+kernel)]
 have:=j8 gH1 gH3 abM adF Gy afh (by rw[dH1];rfl) (by rw[dH1];rfl) (by rw[dH3];rfl) (by rw[dH3];rfl) ((2:Int):Rat)
 rw[dH1,dH3]at this
 unfold uT
 rw[this]
 decide+kernel
theorem cHS:qk (ml v10 v01 vm1) (eL vm5 v53) ((2:Int):Rat)=0:=by
 rw[jX gH1 gS3 dH1 dS3 (by decide+kernel) (by decide+kernel) (by decide+kernel)]
 have:=j8 gH1 gS3 abM adF ae7 aeO (by rw[dH1];rfl) (by rw[dH1];rfl) (by rw[dS3];rfl) (by rw[dS3];rfl) ((2:Int):Rat)
 rw[dH1,dS3]at this
 unfold uT
 rw[this]
 decide+kernel
abbrev kF1:BCU:=(true,o00,enc lF,false,enc (ky lF),enc (kx lF))
abbrev kF2:BCU:=(true,o00,enc lF,false,enc (kx lF),enc (ky lF))
abbrev kG1:BCU:=(true,o00,enc lG,false,enc (ky lG),enc (kx lG))
abbrev kG2:BCU:=(true,o00,enc lG,false,enc (kx lG),enc (ky lG))
theorem fF:zr (enc lF)=[kF1,kF2]:=by unfold zr;rw[aA]
theorem fG:zr (enc lG)=[kG1,kG2]:=by unfold zr;rw[aA]
theorem Ck:gdN kF1:=zx (bc:=blF) (by decide+kernel) _ (by rw[fF];simp)
theorem ta:dC kF1=fuA lF:=by unfold dC;simp only[aA]
theorem IK:gdN kF2:=zx (bc:=blF) (by decide+kernel) _ (by rw[fF];simp)
theorem AH:dC kF2=fuB lF:=by unfold dC;simp only[aA]
theorem B5:gdN kG1:=zx (bc:=blG) (by decide+kernel) _ (by rw[fG];simp)
theorem tc:dC kG1=fuA lG:=by unfold dC;simp only[aA]
theorem IN:gdN kG2:=zx (bc:=blG) (by decide+kernel) _ (by rw[fG];simp)
theorem AA:dC kG2=fuB lG:=by unfold dC;simp only[aA]
theorem QZ:nrZ kF1 ((1:Int):Rat) kG1=false:=by
 unfold nrZ
 rw[jX Ck B5 ta tc (by decide+kernel) (by decide+kernel) (by decide+kernel)]
 have:=j8 Ck B5 J6 Il Gy HJ (by rw[ta];decide+kernel) (by rw[ta];decide+kernel) (by rw[tc];decide+kernel) (by rw[tc];decide+kernel) ((1:Int):Rat)
 rw[ta,tc]at this
 unfold uT
 rw[this]
 decide+kernel
theorem Po:nrZ kF1 ((1:Int):Rat) kG2=false:=by
 unfold nrZ
 rw[jX Ck IN ta AA (by decide+kernel) (by decide+kernel) (by decide+kernel)]
 have:=j8 Ck IN J6 Il HJ Gy (by rw[ta];decide+kernel) (by rw[ta];decide+kernel) (by rw[AA];decide+kernel) (by rw[AA];decide+kernel) ((1:Int):Rat)
 rw[ta,AA]at this
 unfold uT
 rw[this]
 decide+kernel
theorem OI:nrZ kF2 ((1:Int):Rat) kG1=false:=by
 unfold nrZ
 rw[jX IK B5 AH tc (by decide+kernel) (by decide+kernel) (by decide+kernel)]
 have:=j8 IK B5 Il J6 Gy HJ (by rw[AH];decide+kernel) (by rw[AH];decide+kernel) (by rw[tc];decide+kernel) (by rw[tc];decide+kernel) ((1:Int):Rat)
 rw[AH,tc]at this
 unfold uT
 rw[this]
 decide+kernel
theorem Q2:nrZ kF2 ((1:Int):Rat) kG2=false:=by
 unfold nrZ
 rw[jX IK IN AH AA (by decide+kernel) (by decide+kernel) (by decide+kernel)]
 have:=j8 IK IN Il J6 HJ Gy (by rw[AH];decide+kernel) (by rw[AH];decide+kernel) (by rw[AA];decide+kernel) (by rw[AA];decide+kernel) ((1:Int):Rat)
 rw[AH,AA]at this
 unfold uT
 rw[this]
 decide+kernel
theorem aeV:nrZ kF1 (Rat.divInt 11 10) kG1=true:=by
 unfold nrZ
 rw[jX Ck B5 ta tc (by decide+kernel) (by decide+kernel) (by decide+kernel)]
 have:=j8 Ck B5 J6 Il Gy HJ (by rw[ta];decide+kernel) (by rw[ta];decide+kernel) (by rw[tc];decide+kernel) (by rw[tc];decide+kernel) (Rat.divInt 11 10)
 rw[ta,tc]at this
 unfold uT
 rw[this]
 decide+kernel
theorem fi1:decide (zz [kF1,kF2] [kG1,kG2] ((1:Int):Rat)<0)=true:=by
 unfold zz A6 A6 A6 CT
 simp only[List.any_cons,List.any_nil,QZ,Po,OI,Q2,Bool.or_false,Bool.not_false,Bool.not_true,cond_false]
 rfl
theorem fi2:decide (zz [kF1,kF2] [kG1,kG2] (Rat.divInt 11 10)<0)=false:=by
 unfold zz A6 CT
 simp only[List.any_cons,aeV,Bool.true_or,Bool.not_true,Bool.not_false,agd]
 rfl
theorem mGF:∀x∈[kF1,kF2],mG x:=by
 intro x hx
 simp only[agl,ahS,or_false]at hx
 rcases hx with e|e<;>rw[e]
 ·exact Ck.1
 ·exact IK.1
theorem mGG:∀x∈[kG1,kG2],mG x:=by
 intro x hx
 simp only[agl,ahS,or_false]at hx
 rcases hx with e|e<;>rw[e]
 ·exact B5.1
 ·exact IN.1
theorem okZ{n:Int}(h:aF n):ok Rat 1000 (aq (n:Rat)):=by
 have:=cO h
 exact af2 (okd (by decide) (by decide))
def D7:List En:=[enL mE,enL JK]
def Rr(x y:Int)(_k:KT):Option (List RV):=og (decide (aF x)) (og (decide (aF y)) (some [RV.d tV (hid (aq (x:Rat)),hid (aq (y:Rat)))]))
def IR:Cn 80 [ai2,ai2]:=cn fun(x y:Int)=>lf (aF x∧aF y) [.d tV (enc (vcR x y))] fun h=>by
 refine az D7 (Rr x y) ⟨0,?_⟩
 unfold Rr
 rw[dT h.1,dT h.2]
 simp only[aX]
 rfl
def TA(a b:BV)(_k:KT):Option (List RV):=og (decide (ok (Rat×Rat) 100 a∧ok (Rat×Rat) 100 b)) (some [RV.d tCU (hid (eL (dec a) (dec b)))])
def Mn:Cn 76 [tV,tV]:=cn fun(a b:BV)=>lf (ok (Rat×Rat) 100 a∧ok (Rat×Rat) 100 b) [.d tCU (eL (dec a) (dec b))] fun h=>by
 refine az D7 (TA a b) ⟨0,?_⟩
 unfold TA
 rw[dT h]
 simp only[aX]
def EF:List En:=[enL mE,enL Mn,enL IR,enL Lg,enT RM,enL ZL,enF Z6,enL Dn]
def Nl:NT:=[((12,3),{keep:=[3,4,5,7],hl:=0}),((12,5),{keep:=[1,8,9,10,12],hl:=0}),((12,7),{keep:=[1,2,13,14,15,16,18,19,20,21,22,25,26,27,28,29,32,33,34,35,36,38,39,40,41,42],hl:=0})]
def Rf:Ctx:=CX (ens EF) Nl
def Fd(_k:KT):Option (List RV):=let y1:=aq ((0:Int):Rat);let y2:=hid (enc (vcR (0:Int) (0:Int)));let y3:=hid (enc (vcR (4:Int) (0:Int)));let y4:=hid (enc (vcR (1:Int) (3:Int)));let y5:=hid (enc (vcR (1:Int) (9:Int)));let y6:=hid (eL (dec y2) (dec y3));let y7:=hid (eL (dec y4) (dec y5));let y8:=hid (aq ((3:Int):Rat));let y9:=i64.wrap (0+1);let y10:=i64.wrap (0-1);let y11:=hid (enc (vcR y9 (0:Int)));let y12:=hid (enc (vcR (0:Int) y9));let y13:=hid (enc (vcR y10 (0:Int)));let y14:=i64.wrap (0+3);let y15:=i64.wrap (0-3);let y16:=hid (enc (vcR y14 (0:Int)));let y17:=hid (enc (vcR (0:Int) y14));let y18:=hid (enc (vcR y15 (0:Int)));let y19:=hid (ml (dec y11) (dec y12) (dec y13));let y20:=hid (ml (dec y16) (dec y17) (dec y18));let y21:=hid (aq ((2:Int):Rat));let y22:=hid (enc (vcR ((-5):Int) (3:Int)));let y23:=hid (enc (vcR (5:Int) (3:Int)));let y24:=hid (eL (dec y22) (dec y23));let y25:=zr (hid y1,(hid y1,hid (aq ((4:Int):Rat))));let y26:=zr (hid (aq ((6:Int):Rat)),(hid y1,hid (aq ((9:Int):Rat))));let y27:=hid (aq ((1:Int):Rat));let y28:=hid (aq (Rat.divInt (11:Int) (10:Int)));og (decide (aF (0:Int))) (og (decide (aF (0:Int))) (og (decide (aF (4:Int))) (og (decide (cg (hid y1,(hid y1,hid (aq ((4:Int):Rat)))))) (og (decide (aF (6:Int))) (og (decide (aF (0:Int))) (og (decide (aF (9:Int))) (og (decide (cg (hid (aq ((6:Int):Rat)),(hid y1,hid (aq ((9:Int):Rat)))))) (og (decide (aF (0:Int)∧aF (0:Int))) (og (decide (aF (4:Int)∧aF (0:Int))) (og (decide (ok (Rat×Rat) 100 y2∧ok (Rat×Rat) 100 y3)) (og (decide (aF (1:Int)∧aF (3:Int))) (og (decide (aF (1:Int)∧aF (9:Int))) (og (decide (ok (Rat×Rat) 100 y4∧ok (Rat×Rat) 100 y5)) (og (decide (aF (3:Int))) (og (decide (jU y6 y7∧ok Rat 1000 y8)) (match(qk y6 y7 (ah y8))==0 with|true=>(og (decide (aF y9∧aF (0:Int))) (og (decide (aF (0:Int)∧aF y9)) (og (decide (aF y10∧aF (0:Int))) (og (decide (ok (Rat×Rat) 100 y11∧ok (Rat×Rat) 100 y12∧ok (Rat×Rat) 100 y13)) (og (decide (aF y14∧aF (0:Int))) (og (decide (aF (0:Int)∧aF y14)) (og (decide (aF y15∧aF (0:Int))) (og (decide (ok (Rat×Rat) 100 y16∧ok (Rat×Rat) 100 y17∧ok (Rat×Rat) 100 y18)) (og (decide (aF (2:Int))) (og (decide (jU y19 y20∧ok Rat 1000 y21)) (match(qk y19 y20 (ah y21))==0 with|true=>(og (decide (aF y9∧aF (0:Int))) (og (decide (aF (0:Int)∧aF y9)) (og (decide (aF y10∧aF (0:Int))) (og (decide (ok (Rat×Rat) 100 y11∧ok (Rat×Rat) 100 y12∧ok (Rat×Rat) 100 y13)) (og (decide (aF ((-5):Int)∧aF (3:Int))) (og (decide (aF (5:Int)∧aF (3:Int))) (og (decide (ok (Rat×Rat) 100 y22∧ok (Rat×Rat) 100 y23)) (og (decide (aF (2:Int))) (og (decide (jU y19 y24∧ok Rat 1000 y21)) (match(qk y19 y24 (ah y21))==0 with|true=>(og (decide (aF (1:Int))) (og (decide (xQ y25 y26 y27)) (match decide (zz y25 y26 (ah y27)<0)with|true=>(og (decide (v8 (11:Int) (10:Int))) (og (decide (xQ y25 y26 y28)) (some [RV.d .bool (!(decide (zz y25 y26 (ah y28)<0)))])))|false=>some [RV.d .bool false])))|false=>some [RV.d .bool false]))))))))))|false=>some [RV.d .bool false])))))))))))|false=>some [RV.d .bool false]))))))))))))))))
theorem QD:RS Rf 12 [] (Fd):=rsX
def PJ:Cn 12 []:=cn<|lf True [.d .bool true] fun _=>by
 have i0:decide (aF 0)=true:=by decide
 have i1:decide (aF 1)=true:=by decide
 have i2:decide (aF 2)=true:=by decide
 have i3:decide (aF 3)=true:=by decide
 have i4:decide (aF 4)=true:=by decide
 have i6:decide (aF 6)=true:=by decide
 have i9:decide (aF 9)=true:=by decide
 have i5:decide (aF 5)=true:=by decide
 have jv00:decide (aF (0)∧aF (0))=true:=by decide
 have jv40:decide (aF (4)∧aF (0))=true:=by decide
 have jv13:decide (aF (1)∧aF (3))=true:=by decide
 have jv19:decide (aF (1)∧aF (9))=true:=by decide
 have jv10:decide (aF (1)∧aF (0))=true:=by decide
 have jv01:decide (aF (0)∧aF (1))=true:=by decide
 have jvm1:decide (aF (-1)∧aF (0))=true:=by decide
 have jv30:decide (aF (3)∧aF (0))=true:=by decide
 have jv03:decide (aF (0)∧aF (3))=true:=by decide
 have jvm3:decide (aF (-3)∧aF (0))=true:=by decide
 have jvm5:decide (aF (-5)∧aF (3))=true:=by decide
 have jv53:decide (aF (5)∧aF (3))=true:=by decide
 have jvm2:decide (aF (-2)∧aF (0))=true:=by decide
 have jv20:decide (aF (2)∧aF (0))=true:=by decide
 have jv90:decide (aF (9)∧aF (0))=true:=by decide
 have o1:decide (ok (Rat×Rat) 100 (enc v00)∧ok (Rat×Rat) 100 (enc v40))=true:=dT ⟨af2 (okd (h:=Ye) (by decide) (by decide)),af2 (okd (h:=W2) (by decide) (by decide))⟩
 have o2:decide (ok (Rat×Rat) 100 (enc v13)∧ok (Rat×Rat) 100 (enc v19))=true:=dT ⟨af2 (okd (h:=WY) (by decide) (by decide)),af2 (okd (h:=X0) (by decide) (by decide))⟩
 have o3:decide (ok (Rat×Rat) 100 (enc vm5)∧ok (Rat×Rat) 100 (enc v53))=true:=dT ⟨af2 (okd (h:=YW) (by decide) (by decide)),af2 (okd (h:=X8) (by decide) (by decide))⟩
 have o4:decide (ok (Rat×Rat) 100 (enc v10)∧ok (Rat×Rat) 100 (enc v01)∧ok (Rat×Rat) 100 (enc vm1))=true:=dT ⟨af2 (okd (h:=Ww) (by decide) (by decide)),af2 (okd (h:=aft) (by decide) (by decide)),af2 (okd (h:=Yq) (by decide) (by decide))⟩
 have o5:decide (ok (Rat×Rat) 100 (enc v30)∧ok (Rat×Rat) 100 (enc v03)∧ok (Rat×Rat) 100 (enc vm3))=true:=dT ⟨af2 (okd (h:=XP) (by decide) (by decide)),af2 (okd (h:=afx) (by decide) (by decide)),af2 (okd (h:=Yj) (by decide) (by decide))⟩
 have m1:decide (jU (eL v00 v40) (eL v13 v19)∧ok Rat 1000 (aq ((3:Int):Rat)))=true:=dT ⟨⟨gS1.1,gS2.1⟩,okZ (by decide)⟩
 have m2:decide (jU (ml v10 v01 vm1) (ml v30 v03 vm3)∧ok Rat 1000 (aq ((2:Int):Rat)))=true:=dT ⟨⟨gH1.1,gH3.1⟩,okZ (by decide)⟩
 have m3:decide (jU (ml v10 v01 vm1) (eL vm5 v53)∧ok Rat 1000 (aq ((2:Int):Rat)))=true:=dT ⟨⟨gH1.1,gS3.1⟩,okZ (by decide)⟩
 have f1:decide (xQ [kF1,kF2] [kG1,kG2] (aq ((1:Int):Rat)))=true:=dT ⟨mGF,mGG,by decide,by decide,okZ (by decide)⟩
 have f2:decide (xQ [kF1,kF2] [kG1,kG2] (aq (Rat.divInt 11 10)))=true:=dT ⟨mGF,mGG,by decide,by decide,by have:=bQ 11 10 (by decide);exact af2 (okd (by decide) (by decide))⟩
 have q1:decide (v8 11 10)=true:=by decide
 have l1:((aq ((0:Int):Rat),(aq ((0:Int):Rat),aq ((4:Int):Rat))):BO3)=enc lF:=rfl
 have l2:((aq ((6:Int):Rat),(aq ((0:Int):Rat),aq ((9:Int):Rat))):BO3)=enc lG:=rfl
 have k1:decide (cg (enc lF))=true:=dT (gF (h:=blF) (by decide+kernel))
 have k2:decide (cg (enc lG))=true:=dT (gF (h:=blG) (by decide+kernel))
 have w1:i64.wrap (0+1)=1:=by decide
 have w2:i64.wrap (0-1)= -1:=by decide
 have w3:i64.wrap (0+3)=3:=by decide
 have w4:i64.wrap (0-3)= -3:=by decide
 refine cJ EF (QD ⟨0,?_⟩)
 unfold Fd
 simp only[aO,w1,w2,w3,w4,l1,l2,k1,k2,f1,f2,q1,fF,fG,fi1,fi2,c12,cHH,cHS,i0,i1,i2,i3,i4,i6,i9,jv00,jv40,jv13,jv19,jv10,jv01,jvm1,jv30,jv03,jvm3,jvm5,jv53,o1,o2,o3,o4,o5,m1,m2,m3]
 rfl
end
end Go.Proofs.YtnkndpoojnflmaaGreat
end
