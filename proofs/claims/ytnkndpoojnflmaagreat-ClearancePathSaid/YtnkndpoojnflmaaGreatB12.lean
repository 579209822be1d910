/- Intervals: the contracts of products, roots and sides. -/
import Derived.Test.YtnkndpoojnflmaaGreatB11
import Derived.Test.YtnkndpoojnflmaaGreatB1
import Derived.Lib.LazyBuf
import Derived.Test.YtnkndpoojnflmaaGreatB6
import Derived.Test.YtnkndpoojnflmaaGreatB10
noncomputable section
namespace Go.Proofs.YtnkndpoojnflmaaGreat
open Go.RowKit Go.IntKind
theorem aiA:type_of% @Rat.mul_eq_zero:=@Rat.mul_eq_zero
theorem MR{z:Int}(h:aF z):okI (ai z):=aR (by have:=je h;omega)
theorem Fz{n:Int}(h:Ac n):0≤dV n∧dV n≤2305843009213693952:=by
 obtain⟨h0,h1⟩:=h
 unfold dV
 obtain⟨g0,g1,g2⟩:=fC (z:=n*65536) (by omega)
 refine⟨g0,?_⟩
 rcases ags 2305843009213693952 (bg (n*65536))with h|h
 ·have:2305843009213693952*2305843009213693952≤bg (n*65536)*bg (n*65536):=ah0 (by omega) (by omega) (by omega) (by omega)
  omega
 ·exact h
theorem IE{a b:Iv}(ha:prI a)(hb:prI b){x y:Int}(hx:x=a.1∨x=a.2)(hy:y=b.1∨y=b.2):scP x y:=by
 obtain⟨a1,a2,a3⟩:=ha
 obtain⟨b1,b2,b3⟩:=hb
 constructor
 ·rcases hx with rfl|rfl<;>omega
 ·rcases hy with rfl|rfl<;>omega
theorem aeb{α:Type}(b:Bool)(x y:α):(match b with|true=>x|false=>y)=bif b then x else y:=by cases b<;>rfl
def Ia:dH:=spN false true [ai2] (fun x=>decide (aF x.1)) (fun x=>[RV.d tI (hid (ai x.1))])
theorem Js:SpK 210 Ia:=spX fun x h=>by simp only[aX];exact Fo x.1 (af2 h)
def D8:List En:=[⟨99,fM,dS⟩,⟨108,fO,dP⟩,⟨109,jN,f0⟩,enL IJ,enT Rn,⟨216,Ch,Bh⟩,⟨41,eW,dk⟩,⟨173,CK,BZ⟩,enL UQ,⟨172,DN,An⟩,⟨210,Ia,Js⟩,enL Lw,enL Ju,enL KX,enL Kk,enA Ii,enA LM,enL SX]
def XJ:NT:=[((334,8),{keep:=[3,4,6,7,19,20,21],hl:=4}),((334,22),{keep:=[3,4,6,7,9,19,20,21,29,30,31],hl:=5})]
def mB:Ctx:=CX (ens D8) XJ
def oI(a b:(Int×Int))(s21 s6 s7:Int):Cfg:=⟨334,[.blk 0,.seq 46],[(3,.box 1 0),(4,.box 2 0),(6,SI s6),(7,SI s7),(19,.own 3),(20,SI (([a.1,a.2]).length:Int)),(21,SI s21)],[.box 259 [SI a.1,SI a.2],.box 259 [SI b.1,SI b.2],.box 259 [SI 0,SI 0],.row 2 ai2 ([a.1,a.2])],0,[]⟩
def nA(a b:(Int×Int))(s21 x1 s6 s7 s31:Int):Cfg:=⟨334,[.blk 2,.blk 1,.seq 45,.lp 8,.blk 0,.seq 46],[(3,.box 1 0),(4,.box 2 0),(6,SI s6),(7,SI s7),(9,SI x1),(19,.own 3),(20,SI (([a.1,a.2]).length:Int)),(21,SI s21),(29,.own 4),(30,SI (([b.1,b.2]).length:Int)),(31,SI s31)],[.box 259 [SI a.1,SI a.2],.box 259 [SI b.1,SI b.2],.box 259 [SI 0,SI 0],.row 2 ai2 ([a.1,a.2]),.row 2 ai2 ([b.1,b.2])],0,[]⟩
def ZS(a b:(Int×Int))(k:KT):Option (List RV):=k 8 (oI a b 0 2305843009213693952 (-2305843009213693952))
theorem abS(a b:(Int×Int)):RS mB 334 [.d tG a,.d tG b] (ZS a b):=rsX
def uK(a b:(Int×Int))(s21 s6 s7:Int)(k:KT):Option (List RV):=match decide (s21<(([a.1,a.2]).length:Int))with|true=>(match aN ([a.1,a.2]) s21 with|some _=>(match true,([a.1,a.2])[(s21).toNat]? with|true,some x1=>k 22 (nA a b s21 x1 s6 s7 0)|_,_=>none)|none=>none)|false=>some [RV.d tG (s6,s7),RV.d .bool true]
theorem Bl(a b:(Int×Int))(s21 s6 s7:Int):RN mB 8 (oI a b s21 s6 s7) (uK a b s21 s6 s7):=rnX
def nu(a b:(Int×Int))(s21 x1 s6 s7 s31:Int)(k:KT):Option (List RV):=match decide (s31<(([b.1,b.2]).length:Int))with|true=>(match aN ([b.1,b.2]) s31 with|some _=>(match true,([b.1,b.2])[(s31).toNat]? with|true,some x2=>(og (decide (scP x1 x2)) (match !((scF x1 x2).2)with|true=>some [RV.d tG (0,0),RV.d .bool false]|false=>k 22 (nA a b s21 x1 (if(scF x1 x2).1.1<s6 then(scF x1 x2).1.1 else s6) (if(scF x1 x2).1.2>s7 then(scF x1 x2).1.2 else s7) (i64.wrap (s31+1)))))|_,_=>none)|none=>none)|false=>k 8 (oI a b (i64.wrap (s21+1)) s6 s7)
theorem sD(a b:(Int×Int))(s21 x1 s6 s7 s31:Int):RN mB 22 (nA a b s21 x1 s6 s7 s31) (nu a b s21 x1 s6 s7 s31):=rnX
theorem Me(a b:Iv)(ha:prI a)(hb:prI b)(s21 x:Int)(hx:x=a.1∨x=a.2)(s:Iv)(r:List RV)(h:∀s2:Iv×Bool,s2=gz (gz (s,true) x b.1) x b.2→bif s2.2 then mB.Runs 8 (oI a b (i64.wrap (s21+1)) s2.1.1 s2.1.2) r else r=[RV.d tG (0,0),RV.d .bool false]):
  mB.Runs 22 (nA a b s21 x s.1 s.2 0) r:=by
 have h:=h _ rfl
 refine sD _ _ _ _ _ _ _ ?_
 unfold nu
 have g1:decide ((0:Int)<(([b.1,b.2]).length:Int))=true:=by simp
 have g2:decide ((1:Int)<(([b.1,b.2]).length:Int))=true:=by simp
 have g3:decide ((2:Int)<(([b.1,b.2]).length:Int))=false:=by simp
 rw[g1]
 simp only[show aN [b.1,b.2] 0=some b.1 from rfl,show [b.1,b.2][(0:Int).toNat]?=some b.1 from rfl,dT (IE ha hb hx (.inl rfl))]
 cases e1:(scF x b.1).2
 ·rw[show gz (gz (s,true) x b.1) x b.2=(iv0,false) by unfold gz;rw[e1];rfl]at h
  exact⟨0,by rw[h];rfl⟩
 ·try dsimp only[Bool.not_true]
  have e0:gz (s,true) x b.1=((if(scF x b.1).1.1<s.1 then(scF x b.1).1.1 else s.1,if(scF x b.1).1.2>s.2 then(scF x b.1).1.2 else s.2),true):=by unfold gz;rw[e1];rfl
  rw[e0]at h
  suffices hh:mB.Runs 22 (nA a b s21 x (if(scF x b.1).1.1<s.1 then(scF x b.1).1.1 else s.1) (if(scF x b.1).1.2>s.2 then(scF x b.1).1.2 else s.2) (i64.wrap (0+1))) r by
   obtain⟨n,hn⟩:=hh
   exact⟨n,hn⟩
  rw[show i64.wrap (0+1)=1 by decide]
  refine sD _ _ _ _ _ _ _ ?_
  unfold nu
  rw[g2]
  simp only[show aN [b.1,b.2] 1=some b.2 from rfl,show [b.1,b.2][(1:Int).toNat]?=some b.2 from rfl,dT (IE ha hb hx (.inr rfl))]
  cases e2:(scF x b.2).2
  ·unfold gz at h
   rw[e2]at h
   exact⟨0,by rw[show r=[RV.d tG (0,0),RV.d .bool false] from h];rfl⟩
  ·try dsimp only[Bool.not_true]
   unfold gz at h
   rw[e2]at h
   simp only[ahq,agd]at h
   suffices hh:mB.Runs 22 (nA a b s21 x _ _ (i64.wrap (1+1))) r by
    obtain⟨n,hn⟩:=hh
    exact⟨n,hn⟩
   rw[show i64.wrap (1+1)=2 by decide]
   refine sD _ _ _ _ _ _ _ ?_
   unfold nu
   rw[g3]
   obtain⟨n,hn⟩:=h
   exact⟨n,hn⟩
theorem EA(a b:Iv)(ha:prI a)(hb:prI b)(x i:Int)(hi:(i=0∧x=a.1)∨(i=1∧x=a.2))(s:Iv)(r:List RV)(h:∀s2:Iv×Bool,s2=gz (gz (s,true) x b.1) x b.2→bif s2.2 then mB.Runs 8 (oI a b (i+1) s2.1.1 s2.1.2) r else r=[RV.d tG (0,0),RV.d .bool false]):
  mB.Runs 8 (oI a b i s.1 s.2) r:=by
 refine Bl _ _ _ _ _ ?_
 unfold uK
 rcases hi with⟨rfl,rfl⟩|⟨rfl,rfl⟩
 ·obtain⟨n,hn⟩:=Me a b ha hb 0 a.1 (.inl rfl) s r (by rw[show i64.wrap (0+1)=0+1 by decide];exact h)
  exact⟨n,hn⟩
 ·obtain⟨n,hn⟩:=Me a b ha hb 1 a.2 (.inr rfl) s r (by rw[show i64.wrap (1+1)=1+1 by decide];exact h)
  exact⟨n,hn⟩
theorem KZ{s:Iv×Bool}{x y:Int}(h:s.2=false):gz s x y=(iv0,false):=by unfold gz;rw[h];rfl
theorem Zb{s:Iv×Bool}(h:s.2=true):s=(s.1,true):=by rw[←h]
def NG:Cn 334 [tG,tG]:=cn fun(a b:(Int×Int))=>lf (prI a∧prI b) [.d tG ((ct a b).1),.d .bool ((ct a b).2)] fun h=>by
 obtain⟨ha,hb⟩:=h
 refine cJ D8 (show mB.Res _ _ _ from ?_)
 refine abS _ _ ?_
 suffices hh:mB.Runs 8 (oI a b 0 2305843009213693952 (-2305843009213693952)) [.d tG (ct a b).1,.d .bool (ct a b).2] by
  obtain⟨n,hn⟩:=hh
  exact⟨n,hn⟩
 refine EA a b ha hb a.1 0 (.inl ⟨rfl,rfl⟩) (2305843009213693952,-2305843009213693952) _ fun s1 e1=>?_
 have hm:ct a b=gz (gz s1 a.2 b.1) a.2 b.2:=by rw[e1];rfl
 cases c1:s1.2
 ·rw[hm,KZ (KZ c1▸rfl)]
  rfl
 ·rw[agd]
  refine EA a b ha hb a.2 1 (.inr ⟨rfl,rfl⟩) s1.1 _ fun s2 e2=>?_
  rw[←Zb c1,←hm]at e2
  cases c2:s2.2
  ·rw[←e2]
   rw[show s2=(iv0,false) by
    rw[e2,hm]
    rw[e2,hm]at c2
    unfold gz at c2 ⊢
    revert c2
    cases(_:Bool)&&(scF a.2 b.2).2
    ·intro _;rfl
    ·intro h;cases h]
   rfl
  ·rw[agd,←e2]
   refine Bl _ _ _ _ _ ⟨0,?_⟩
   unfold uK
   rw[show decide ((1+1:Int)<(([a.1,a.2]).length:Int))=false from by simp,c2]
def Uk(n:Int)(_k:KT):Option (List RV):=og (decide (aF n)) (og (decide (aF (65536:Int))) (og (decide (okI (hid (ai n))∧okI (hid (ai (65536:Int))))) (og (decide (okI (hid (ai (ae (hid (ai n))*ae (hid (ai (65536:Int)))))))) (og (decide (okI (hid (fp (hid (ai (ae (hid (ai n))*ae (hid (ai (65536:Int)))))))))) (og (decide (okI (hid (fp (hid (ai (ae (hid (ai n))*ae (hid (ai (65536:Int))))))))∧okI (hid (fp (hid (ai (ae (hid (ai n))*ae (hid (ai (65536:Int)))))))))) (og (decide (okI (hid (ai (ae (hid (fp (hid (ai (ae (hid (ai n))*ae (hid (ai (65536:Int))))))))*ae (hid (fp (hid (ai (ae (hid (ai n))*ae (hid (ai (65536:Int)))))))))))∧okI (hid (ai (ae (hid (ai n))*ae (hid (ai (65536:Int)))))))) (some [RV.d ai2 (bif decide (aF (ae (hid (fp (hid (ai (ae (hid (ai n))*ae (hid (ai (65536:Int))))))))))then ae (hid (fp (hid (ai (ae (hid (ai n))*ae (hid (ai (65536:Int))))))))else 0),RV.d .bool ((ce (ae (hid (ai (ae (hid (fp (hid (ai (ae (hid (ai n))*ae (hid (ai (65536:Int))))))))*ae (hid (fp (hid (ai (ae (hid (ai n))*ae (hid (ai (65536:Int)))))))))))) (ae (hid (ai (ae (hid (ai n))*ae (hid (ai (65536:Int))))))))==0)])))))))
def aag:Cn 352 [ai2]:=cn fun(n:Int)=>lf (Ac n) [.d ai2 (dV n),.d .bool (decide (dV n*dV n=n*65536))] fun h=>by
 refine az D8 (Uk n) ⟨0,?_⟩
 have hr:=Fz h
 obtain⟨h0,h1⟩:=h
 have i1:aF n:=⟨by omega,by omega⟩
 have i2:aF 65536:=by decide
 have o1:okI (ai (n*65536)):=aR (by have:=cE (je i1) (je i2);omega)
 have o2:okI (ai (dV n)):=MR ⟨by omega,by omega⟩
 have o3:okI (ai (dV n*dV n)):=aR (by have:=cE (je (n:=dV n) ⟨by omega,by omega⟩) (je (n:=dV n) ⟨by omega,by omega⟩);omega)
 have o4:okI (ai n)∧okI (ai 65536):=⟨MR i1,MR i2⟩
 have o5:okI (ai (dV n))∧okI (ai (dV n)):=⟨o2,o2⟩
 have o6:okI (ai (dV n*dV n))∧okI (ai (n*65536)):=⟨o3,o1⟩
 have o7:aF (dV n):=⟨by omega,by omega⟩
 unfold Uk
 simp only[aX,dec_enc,dT i1,dT i2,dT o4,dT o1,zL o1]
 have e:bg (n*65536)=dV n:=rfl
 simp only[e,dT o2,dT o5,dT o6,dT o7,agd,kO]
def Sm:List En:=enL NG::enL aag::D8
def Vd(a:(Int×Int))(_k:KT):Option (List RV):=match decide (a.2<0)with|true=>some [RV.d tG (0,0),RV.d .bool false]|false=>(og (decide (Ac (if 0>a.1 then 0 else a.1))) (og (decide (Ac a.2)) (match !(decide (dV a.2*dV a.2=a.2*65536))with|true=>some [RV.d tG (hid ((mi (dV (if 0>a.1 then 0 else a.1)) (i64.wrap ((dV a.2)+1))).1)),RV.d .bool ((mi (dV (if 0>a.1 then 0 else a.1)) (i64.wrap ((dV a.2)+1))).2)]|false=>some [RV.d tG (hid ((mi (dV (if 0>a.1 then 0 else a.1)) (dV a.2)).1)),RV.d .bool ((mi (dV (if 0>a.1 then 0 else a.1)) (dV a.2)).2)])))
def Sz:Cn 332 [tG]:=cn fun(a:(Int×Int))=>lf (prI a) [.d tG ((sqF a).1),.d .bool ((sqF a).2)] fun h=>by
 refine az Sm (Vd a) ⟨0,?_⟩
 obtain⟨a1,a2,a3⟩:=h
 unfold Vd sqF
 cases hn:decide (a.2<0)
 ·have hn:=agK hn
  have r2:Ac a.2:=⟨by omega,by omega⟩
  have r1:Ac (if 0>a.1 then 0 else a.1):=⟨by split<;>omega,by split<;>omega⟩
  have b2:=Fz r2
  simp only[dT r1,dT r2,aX,aP (x:=dV a.2+1) (by omega) (by omega)]
  cases decide (dV a.2*dV a.2=a.2*65536)<;>rfl
 ·rfl
def Ix:List En:=enL Sz::Sm
def UA(r:BO3)(_k:KT):Option (List RV):=og (decide (ok Rat 200000 r.1)) (match !((frF (ah r.1)).2)with|true=>some [RV.d tG (hid ((frF (ah r.1)).1)),RV.d .bool ((frF (ah r.1)).2)]|false=>(og (o1 r.2.1) (match(aC (ah r.2.1) 0)==0 with|true=>some [RV.d tG (hid ((frF (ah r.1)).1)),RV.d .bool ((frF (ah r.1)).2)]|false=>(og (decide (ok Rat 200000 r.2.1)) (og (decide (ok Rat 200000 r.2.2)) (match !((frF (ah r.2.1)).2)with|true=>some [RV.d tG (0,0),RV.d .bool false]|false=>(match !((frF (ah r.2.2)).2)with|true=>some [RV.d tG (0,0),RV.d .bool false]|false=>(og (o1 r.2.2) (match decide ((aC (ah r.2.2) 0)<0)with|true=>some [RV.d tG (0,0),RV.d .bool false]|false=>(og (decide (prI (hid ((frF (ah r.2.2)).1)))) (match !((sqF (hid ((frF (ah r.2.2)).1))).2)with|true=>some [RV.d tG (0,0),RV.d .bool false]|false=>(og (decide (prI (hid ((frF (ah r.2.1)).1))∧prI (hid ((sqF (hid ((frF (ah r.2.2)).1))).1)))) (match !((ct (hid ((frF (ah r.2.1)).1)) (hid ((sqF (hid ((frF (ah r.2.2)).1))).1))).2)with|true=>some [RV.d tG (0,0),RV.d .bool false]|false=>(og (decide (prI (hid ((frF (ah r.1)).1))∧prI (hid ((ct (hid ((frF (ah r.2.1)).1)) (hid ((sqF (hid ((frF (ah r.2.2)).1))).1))).1)))) (some [RV.d tG (hid ((dl (hid ((frF (ah r.1)).1)) (hid ((ct (hid ((frF (ah r.2.1)).1)) (hid ((sqF (hid ((frF (ah r.2.2)).1))).1))).1))).1)),RV.d .bool ((dl (hid ((frF (ah r.1)).1)) (hid ((ct (hid ((frF (ah r.2.1)).1)) (hid ((sqF (hid ((frF (ah r.2.2)).1))).1))).1))).2)])))))))))))))))
def EK:Cn 337 [tO]:=cn fun(r:BO3)=>lf (ok Rt 100000 r) [.d tG ((aZ (dec r)).1),.d .bool ((aZ (dec r)).2)] fun h=>by
 refine az Ix (UA r) ⟨0,?_⟩
 have hr:=h
 obtain⟨r,rfl,br⟩:=aB hr
 have p1:prI (frF r.1).1:=RE.frF_pr _
 have p2:prI (frF r.2.1).1:=RE.frF_pr _
 have p3:prI (frF r.2.2).1:=RE.frF_pr _
 have p4:prI (sqF (frF r.2.2).1).1:=RE.sqF_pr p3
 have p5:prI (ct (frF r.2.1).1 (sqF (frF r.2.2).1).1).1:=qt _ _
 unfold UA
 simp only[aO,Nat.reduceLeDiff,am,au,dT p3,dT (show prI (frF r.2.1).1∧prI (sqF (frF r.2.2).1).1 from⟨p2,p4⟩),dT (show prI (frF r.1).1∧prI (ct (frF r.2.1).1 (sqF (frF r.2.2).1).1).1 from⟨p1,p5⟩)]
 unfold aZ
 clear p1 p2 p3 p4 p5
 generalize frF r.1=A
 generalize frF r.2.1=B
 generalize frF r.2.2=C
 generalize sqF C.1=S
 generalize ct B.1 S.1=M
 generalize dl A.1 M.1=U
 obtain⟨_,a⟩:=A
 obtain⟨_,b⟩:=B
 obtain⟨_,c⟩:=C
 obtain⟨_,s⟩:=S
 obtain⟨_,m⟩:=M
 cases a<;>cases decide (r.2.1=0)<;>cases b<;>cases c<;>cases decide (r.2.2<0)<;>cases s<;>cases m<;>rfl
def S2(a:(Int×Int))(_k:KT):Option (List RV):=match decide (a.1>0)with|true=>some [RV.d ai2 1,RV.d .bool true]|false=>(match decide (a.2<0)with|true=>some [RV.d ai2 (-1),RV.d .bool true]|false=>(match a.1==0 with|true=>some [RV.d ai2 0,RV.d .bool (a.2==0)]|false=>some [RV.d ai2 0,RV.d .bool false]))
def Kv:Cn 336 [tG]:=cn fun(a:(Int×Int))=>lf True [.d ai2 ((sgF a).1),.d .bool ((sgF a).2)] fun _=>by
 refine az Ix (S2 a) ⟨0,?_⟩
 unfold S2 sgF
 cases decide (a.1>0)<;>cases decide (a.2<0)<;>try rfl
 by_cases e1:a.1=0
 ·rw[afZ e1,show(a.1==0)=true by simp[e1]]
  by_cases e2:a.2=0
  ·rw[afZ e2,show(a.2==0)=true by simp[e2]];rfl
  ·rw[af1 e2,show(a.2==0)=false by simp[e2]];rfl
 ·rw[af1 e1,show(a.1==0)=false by simp[e1]];rfl
def abm:List En:=enL EK::enL Kv::Ix
def UO(n:BR)(a:(Int×Int))(g:Bool)(_k:KT):Option (List RV):=og (decide (ok Rat 200000 n)) (match !g with|true=>some [RV.d tG (0,0),RV.d .bool false]|false=>(match !((frF (ah n)).2)with|true=>some [RV.d tG (0,0),RV.d .bool false]|false=>(og (decide (prI (hid ((frF (ah n)).1))∧prI a)) (some [RV.d tG (hid ((ct (hid ((frF (ah n)).1)) a).1)),RV.d .bool ((ct (hid ((frF (ah n)).1)) a).2)]))))
def Sn:Cn 363 [tR,tG,.bool]:=cn fun(n:BR) (a:(Int×Int)) (g:Bool)=>lf (ok Rat 100000 n∧prI a) [.d tG ((iU (ah n) a g).1),.d .bool ((iU (ah n) a g).2)] fun h=>by
 refine az abm (UO n a g) ⟨0,?_⟩
 obtain⟨hn,ha⟩:=h
 obtain⟨n,rfl,bn⟩:=aB hn
 unfold UO
 simp only[aO,Nat.reduceLeDiff,dT (show prI (frF n).1∧prI a from⟨RE.frF_pr _,ha⟩)]
 unfold iU
 generalize frF n=A
 obtain⟨_,q⟩:=A
 cases g<;>cases q<;>rfl
section
section
variable {u:Nat} {w w':World} {size n:Nat} {v:Value} {xs:List Value}
end
section
variable {P:Program} {fn:Func} {R:Ending→World→Prop} {B:Code} {K:List KI} {i:Nat} {a:Act} {w:World}
end
end
section
section
variable {P:Program} {a:Act} {w:World}
end
end
theorem vH{w w1 w2:World}{o:Option Nat}(h:w.grownBy w1 o)(hb:Below w1.heap.size w1 w2):w.grownBy w2 o:=
 ⟨hb.os.trans h.os,hb.tape.trans h.tape,hb.output.trans h.output,agj h.size hb.size,fun i hi hn=>(hb.block i (ahG hi h.size)).trans (h.block i hi hn)⟩
theorem pW{w w1 w2:World}{c b:Nat}(h:w.grownBy w1 (some c))(hu:Upd w1 w2 b)(hb:b=c∨w.heap.size≤b):w.grownBy w2 (some c):=
 ⟨hu.os.trans h.os,hu.tape.trans h.tape,hu.output.trans h.output,by rw[hu.size];exact h.size,fun i hi hn=>(hu.block i (fun e=>by
  subst e
  rcases hb with hb|hb
  ·subst hb;exact hn rfl
  ·omega)).trans (h.block i hi hn)⟩
def O8:Code:=Tryz.f331.body.getD .skip
set_option maxRecDepth 100000 in
theorem Gt:adE Tryz.prog 331 257:=by
 intro w c b ok x y _ hc
 have hB:w.grownBy w (some c):=World.grownBy.refl _ _
 have hlt:=hc.lt
 refine enter (B:=O8) (args:=[.pointer (some ⟨c,0,none⟩),.agg #[.int .i64 x,.int .i64 y],.bool ok]) Tryz.func331 (by kernel_rfl) (by kernel_rfl) ?_
 rw[show Tryz.f331.ntmps=18 from by kernel_rfl]
 intro a hs
 replace hs:=hs.pick (ts:=[0,1,2]) (L':=[(0,.pointer (some ⟨c,0,none⟩)),(1,.agg #[.int .i64 x,.int .i64 y]),(2,.bool ok)]) (by kernel_rfl)
 refine vW (j:=2) (by kernel_rfl) ?_
 refine kR (id:=0) (by kernel_rfl) ?_
 refine rB hs (by kernel_rfl) (Y5 (t:=259) (cs:= #[.int .i64 x,.int .i64 y]) (fun rb_=>.pointer (some ⟨rb_,0,none⟩)) [0,2,4] (fun rb_=>[(0,.pointer (some ⟨c,0,none⟩)),(2,.bool ok),(4,.pointer (some ⟨rb_,0,none⟩))]) hs (fun _=>by kernel_rfl) (fun _=>by kernel_rfl) ?_)
 clear hs a;intro a w1 b1 hn hs
 have B1:=hn.blk
 have l1:w.heap.size≤b1:=by rw[hn.at_];exact hB.size
 replace hc:=hc.below hn.below hc.lt
 replace hB:=vH hB hn.below
 clear hn
 refine rB hs (by kernel_rfl) (Y5 (t:=259) (cs:= #[.int .i64 0,.int .i64 0]) (fun rb_=>.pointer (some ⟨rb_,0,none⟩)) [0,2,4,6] (fun rb_=>[(0,.pointer (some ⟨c,0,none⟩)),(2,.bool ok),(4,.pointer (some ⟨b1,0,none⟩)),(6,.pointer (some ⟨rb_,0,none⟩))]) hs (fun _=>by kernel_rfl) (fun _=>by kernel_rfl) ?_)
 clear hs a;intro a w2 b2 hn hs
 have B2:=hn.blk
 have l2:w.heap.size≤b2:=by rw[hn.at_];exact hB.size
 have l2':b1<b2:=by rw[hn.at_];exact B1.lt
 replace hc:=hc.below hn.below hc.lt
 replace B1:=B1.below hn.below B1.lt
 replace hB:=vH hB hn.below
 clear hn
 refine nK (by kernel_rfl) ?_
 refine kX rfl ?_
 refine vW (j:=4) (by kernel_rfl) ?_
 refine kR (id:=1) (by kernel_rfl) ?_
 refine pZ (m:=6) (H:=[(4,none,[.bool b])]) (ts:=[2,4,6,7,12]) (L':=[(2,.bool ok),(4,.pointer (some ⟨b1,0,none⟩)),(6,.pointer (some ⟨b2,0,none⟩)),(7,.pointer (some ⟨c,0,none⟩)),(12,.bool b)]) (O:=fun w=>(w.cell? ⟨c,0,none⟩=some (.bool b))∧True) hs (by kernel_rfl) ⟨hc.cell 0 rfl,trivial⟩ ?_
 clear hs a;intro a hs
 rcases Bool.eq_false_or_eq_true (b)with hb|hb
 ·replace hs:=hs.know (t:=12) rfl hb
  have cd1:=hb;have cd1b:=hb;clear hb
  replace hs:=hs.pick (ts:=[2,4,6,7,12]) (L':=[(2,.bool ok),(4,.pointer (some ⟨b1,0,none⟩)),(6,.pointer (some ⟨b2,0,none⟩)),(7,.pointer (some ⟨c,0,none⟩)),(12,.bool true)]) (by kernel_rfl)
  refine pZ (m:=4) (H:=[]) (ts:=[4,6,14,16]) (L':=[(4,.pointer (some ⟨b1,0,none⟩)),(6,.pointer (some ⟨b2,0,none⟩)),(14,.bool ok),(16,.pointer (some ⟨c,0,none⟩))]) (O:=fun w=>True) hs (by kernel_rfl) trivial ?_
  clear hs a;intro a hs
  refine rB hs (by kernel_rfl) (yf (b:=c) (cs:= #[.bool b]) #[.bool ok] [(0,.bool ok)] [4,6] [(4,.pointer (some ⟨b1,0,none⟩)),(6,.pointer (some ⟨b2,0,none⟩))] hs hc (by kernel_rfl) ⟨af5 rfl,trivial,trivial⟩ rfl (by kernel_rfl) ?_)
  clear hs a;intro a w3 hc' hu hs
  replace hc:=hc';clear hc'
  replace B1:=hu.blk B1 (by omega)
  replace B2:=hu.blk B2 (by omega)
  replace hB:=pW hB hu (by omega)
  clear hu
  refine nK (by kernel_rfl) ?_
  refine kX rfl ?_
  refine vW (j:=6) (by kernel_rfl) ?_
  refine kR (id:=2) (by kernel_rfl) ?_
  refine pZ (m:=1) (H:=[(0,none,[.int .i64 x,.int .i64 y])]) (ts:=[6,17]) (L':=[(6,.pointer (some ⟨b2,0,none⟩)),(17,.agg #[.int .i64 x,.int .i64 y])]) (O:=fun w=>(w.cell? ⟨b1,0,none⟩=some (.int .i64 x))∧(w.cell? ⟨b1,1,none⟩=some (.int .i64 y))∧True) hs (by kernel_rfl) ⟨B1.cell 0 rfl,B1.cell 1 rfl,trivial⟩ ?_
  clear hs a;intro a hs
  refine rB hs (by kernel_rfl) (yf (b:=b2) (cs:= #[.int .i64 0,.int .i64 0]) #[.int .i64 x,.int .i64 y] [(0,.int .i64 x),(1,.int .i64 y)] [6] [(6,.pointer (some ⟨b2,0,none⟩))] hs B2 (by kernel_rfl) ⟨af5 rfl,trivial,⟨af5 rfl,trivial,trivial⟩⟩ rfl (by kernel_rfl) ?_)
  clear hs a;intro a w4 B2' hu hs
  replace B2:=B2';clear B2'
  replace hc:=hu.blk hc (by omega)
  replace B1:=hu.blk B1 (by omega)
  replace hB:=pW hB hu (by omega)
  clear hu
  refine nK (by kernel_rfl) ?_
  refine kX rfl ?_
  refine CU (by kernel_rfl) ?_
  refine Lo (vs:=[.agg #[.int .i64 x,.int .i64 y]]) (H:=[.int .i64 x,.int .i64 y]) (v:=.agg #[.int .i64 x,.int .i64 y]) (O:=fun w=>(w.cell? ⟨b2,0,none⟩=some (.int .i64 x))∧(w.cell? ⟨b2,1,none⟩=some (.int .i64 y))∧True) hs (by kernel_rfl) rfl ⟨B2.cell 0 rfl,B2.cell 1 rfl,trivial⟩ ?_
  exact⟨rfl,by rw[cd1];exact hc,hB⟩
 ·replace hs:=hs.know (t:=12) rfl hb
  have cd1:=hb;have cd1b:=hb;clear hb
  replace hs:=hs.pick (ts:=[2,4,6,7,12]) (L':=[(2,.bool ok),(4,.pointer (some ⟨b1,0,none⟩)),(6,.pointer (some ⟨b2,0,none⟩)),(7,.pointer (some ⟨c,0,none⟩)),(12,.bool false)]) (by kernel_rfl)
  refine pZ (m:=4) (H:=[]) (ts:=[4,6,14,16]) (L':=[(4,.pointer (some ⟨b1,0,none⟩)),(6,.pointer (some ⟨b2,0,none⟩)),(14,.bool false),(16,.pointer (some ⟨c,0,none⟩))]) (O:=fun w=>True) hs (by kernel_rfl) trivial ?_
  clear hs a;intro a hs
  refine rB hs (by kernel_rfl) (yf (b:=c) (cs:= #[.bool b]) #[.bool false] [(0,.bool false)] [4,6] [(4,.pointer (some ⟨b1,0,none⟩)),(6,.pointer (some ⟨b2,0,none⟩))] hs hc (by kernel_rfl) ⟨af5 rfl,trivial,trivial⟩ rfl (by kernel_rfl) ?_)
  clear hs a;intro a w5 hc' hu hs
  replace hc:=hc';clear hc'
  replace B1:=hu.blk B1 (by omega)
  replace B2:=hu.blk B2 (by omega)
  replace hB:=pW hB hu (by omega)
  clear hu
  refine nK (by kernel_rfl) ?_
  refine kX rfl ?_
  refine vW (j:=6) (by kernel_rfl) ?_
  refine kR (id:=2) (by kernel_rfl) ?_
  refine pZ (m:=1) (H:=[(0,none,[.int .i64 x,.int .i64 y])]) (ts:=[6,17]) (L':=[(6,.pointer (some ⟨b2,0,none⟩)),(17,.agg #[.int .i64 x,.int .i64 y])]) (O:=fun w=>(w.cell? ⟨b1,0,none⟩=some (.int .i64 x))∧(w.cell? ⟨b1,1,none⟩=some (.int .i64 y))∧True) hs (by kernel_rfl) ⟨B1.cell 0 rfl,B1.cell 1 rfl,trivial⟩ ?_
  clear hs a;intro a hs
  refine rB hs (by kernel_rfl) (yf (b:=b2) (cs:= #[.int .i64 0,.int .i64 0]) #[.int .i64 x,.int .i64 y] [(0,.int .i64 x),(1,.int .i64 y)] [6] [(6,.pointer (some ⟨b2,0,none⟩))] hs B2 (by kernel_rfl) ⟨af5 rfl,trivial,⟨af5 rfl,trivial,trivial⟩⟩ rfl (by kernel_rfl) ?_)
  clear hs a;intro a w6 B2' hu hs
  replace B2:=B2';clear B2'
  replace hc:=hu.blk hc (by omega)
  replace B1:=hu.blk B1 (by omega)
  replace hB:=pW hB hu (by omega)
  clear hu
  refine nK (by kernel_rfl) ?_
  refine kX rfl ?_
  refine CU (by kernel_rfl) ?_
  refine Lo (vs:=[.agg #[.int .i64 x,.int .i64 y]]) (H:=[.int .i64 x,.int .i64 y]) (v:=.agg #[.int .i64 x,.int .i64 y]) (O:=fun w=>(w.cell? ⟨b2,0,none⟩=some (.int .i64 x))∧(w.cell? ⟨b2,1,none⟩=some (.int .i64 y))∧True) hs (by kernel_rfl) rfl ⟨B2.cell 0 rfl,B2.cell 1 rfl,trivial⟩ ?_
  exact⟨rfl,by rw[cd1];exact hc,hB⟩
def HR:dH:={keep:=true,tame:=true,run:=fun _ _ _=>none,mut_:=some ⟨true,fun l=>l,some 257⟩}
theorem Kz:SpK 331 HR:=by
 refine⟨by kernel_rfl,fun R args k r h=>(by cases h),fun g h=>?_⟩
 injection h with h
 subst h
 exact Gt
def Sf:List En:=[⟨99,fM,dS⟩,⟨108,fO,dP⟩,⟨107,gS,eU⟩,⟨106,gi,dY⟩,⟨109,jN,f0⟩,enL IJ,⟨73,iY,fx⟩,⟨41,eW,dk⟩,enL xc,enT Ax,enL Je,enL R4,enL Lw,enL Ju,enL KX,enL Kk,enA Ii,enA LM,enL SX,enL NG,enL Sz,enL EK,enL Kv,enL Sn,⟨331,HR,Kz⟩]
def Vy:NT:=[((292,5),{keep:=[1,4,13,14,17,20,21,24],hl:=0}),((292,7),{keep:=[1,4,5,25,26,29,32,33,36],hl:=0})]
def abi:Ctx:=CX (ens Sf) Vy
def Tq(q:BQ)(_k:KT):Option (List RV):=let y1:=frF (ah q.2.2.2.2.1);let y2:=ok Rat 200000 q.2.2.2.2.2;let y3:=frF (ah q.2.2.2.2.2);let y4:=sqF (hid (y3.1));let y5:=hid ((frF (ah q.2.1)).1);let y6:=hid ((sqF (hid (y1.1))).1);let y7:=frF (ah q.2.2.1);let y8:=frF (ah q.2.2.2.1);let y9:=ct y6 (hid (y4.1));let y10:=ct (hid (y7.1)) (hid (y4.1));let y11:=ct (hid (y8.1)) (hid (y9.1));let y12:=hid ((frF (ah q.1)).1);let y13:=hid ((ct y5 y6).1);let y14:=hid ((dl y12 y13).1);let y15:=dl (hid (y10.1)) (hid (y11.1));let y16:=dl y14 (hid (y15.1));let y17:Option (List RV):=match decide (prI (hid (y3.1)))with|true=>some [RV.d ai2 0,RV.d .bool false]|false=>none;og (decide (ok Rat 200000 q.2.2.2.2.1)) (og (decide (prI (hid (y1.1)))) (match y1.2 with|true=>(og (decide y2) (match(sqF (hid (y1.1))).2 with|true=>(og (decide (prI (hid (y3.1)))) (match y3.2 with|true=>(match !(y4.2)with|true=>some [RV.d ai2 0,RV.d .bool false]|false=>(og (decide (ok Rat 200000 q.2.1)) (og (decide (prI y5∧prI y6)) (og (decide (ok Rat 200000 q.2.2.1)) (og (decide (prI (hid (y7.1))∧prI (hid (y4.1)))) (og (decide (ok Rat 200000 q.2.2.2.1)) (og (decide (prI y6∧prI (hid (y4.1)))) (og (decide (prI (hid (y8.1))∧prI (hid (y9.1)))) (match !(((((((y4.2&&(frF (ah q.2.1)).2)&&(ct y5 y6).2)&&y7.2)&&y10.2)&&y8.2)&&y9.2)&&y11.2)with|true=>some [RV.d ai2 0,RV.d .bool false]|false=>(og (decide (ok Rat 200000 q.1)) (og (decide (prI y12∧prI y13)) (og (decide (prI (hid (y10.1))∧prI (hid (y11.1)))) (og (decide (prI y14∧prI (hid (y15.1)))) (match !(((((((((((y4.2&&(frF (ah q.2.1)).2)&&(ct y5 y6).2)&&y7.2)&&y10.2)&&y8.2)&&y9.2)&&y11.2)&&(frF (ah q.1)).2)&&(dl y12 y13).2)&&y15.2)&&y16.2)with|true=>some [RV.d ai2 0,RV.d .bool false]|false=>some [RV.d ai2 ((sgF (hid (y16.1))).1),RV.d .bool ((sgF (hid (y16.1))).2)]))))))))))))))|false=>some [RV.d ai2 0,RV.d .bool false]))|false=>y17))|false=>(og (decide y2) y17)))
theorem aa8(q:BQ):RS abi 292 [.d tQ q] (Tq q):=rsX
def ab8:Cn 292 [tQ]:=cn fun(q:BQ)=>lf (okQ q) [.d ai2 ((quF (dec q)).1),.d .bool ((quF (dec q)).2)] fun h=>by
 refine cJ Sf (aa8 _ ⟨0,?_⟩)
 obtain⟨A,B,C,D,M,N,rfl,bA,bB,bC,bD,bM,bN,hM,hN⟩:=CJ h
 rw[aA]
 have pf:∀q,prI (frF q).1:=RE.frF_pr
 have pm:∀a b,prI (ct a b).1:=qt
 have ps:∀q,prI (sqF (frF q).1).1:=fun q=>RE.sqF_pr (pf q)
 have pa:∀{a b},prI a→prI b→prI (dl a b).1:=fun ha hb=>RE.addF_pr ha hb
 have d1:∀q,decide (prI (frF q).1)=true:=fun q=>dT (pf q)
 have d2:∀q m,decide (prI (frF q).1∧prI (sqF (frF m).1).1)=true:=fun q m=>dT ⟨pf q,ps m⟩
 have d3:∀q m,decide (prI (sqF (frF q).1).1∧prI (sqF (frF m).1).1)=true:=fun q m=>dT ⟨ps q,ps m⟩
 have d4:∀q a b,decide (prI (frF q).1∧prI (ct a b).1)=true:=fun q a b=>dT ⟨pf q,pm a b⟩
 have d5:∀a b c d,decide (prI (ct a b).1∧prI (ct c d).1)=true:=fun a b c d=>dT ⟨pm a b,pm c d⟩
 have d6:∀q a b c d e f,decide (prI (dl (frF q).1 (ct a b).1).1∧prI (dl (ct c d).1 (ct e f).1).1)=true:=fun q a b c d e f=>dT ⟨pa (pf q) (pm a b),pa (pm c d) (pm e f)⟩
 unfold Tq
 simp only[aO,aD,Nat.reduceLeDiff,dT (pf _),dT (pm _ _),dT (ps _),dT (pa (pf _) (pm _ _)),dT (pa (pm _ _) (pm _ _))]
 unfold quF qu1 qu2 qu3 quA quB sfF mfF
 generalize frF M=FM
 generalize frF N=FN
 generalize sqF FM.1=SM
 generalize sqF FN.1=SN
 generalize frF A=FA
 generalize frF B=FB
 generalize frF C=FC
 generalize frF D=FD
 generalize ct FB.1 SM.1=MB
 generalize ct FC.1 SN.1=MC
 generalize ct SM.1 SN.1=MM
 generalize ct FD.1 MM.1=MD
 generalize dl FA.1 MB.1=A1
 generalize dl MC.1 MD.1=A2
 generalize dl A1.1 A2.1=A3
 generalize sgF A3.1=S
 obtain⟨_,fm⟩:=FM
 obtain⟨_,fn⟩:=FN
 obtain⟨_,sm⟩:=SM
 obtain⟨_,sn⟩:=SN
 cases fm<;>cases sm<;>cases fn<;>cases sn<;>try rfl
 dsimp only
 simp only[ahr,ahq]
 generalize (FB.2&&MB.2&&FC.2&&MC.2&&FD.2&&MM.2&&MD.2)=c2
 cases c2
 ·rfl
 ·simp only[ahr]
  generalize (FA.2&&A1.2&&A2.2&&A3.2)=c3
  cases c3<;>rfl
namespace RE
theorem same_rad(a b c d r:RE):a-c+(b-d)*r=a+b*r-(c+d*r):=by grind
theorem Xl(a b c:RE):a-b+c=a+c-b:=by grind
theorem vR_rat(q:Rat):vR (q,0,0)=of q:=dA q 0
theorem cmpTR_re{x:Rt}{q:Rat}(h:0≤x.2.2):fv x q=sg (vR x-of q):=by
 unfold fv vR
 rw[sgn2_re h]
 unfold v2
 rw[of_sub,Xl]
end RE
theorem Rdd.rat{x:Rt}(h:Rdd x)(hb:x.2.1=0):x=(x.1,0,0):=by
 obtain⟨a,b,c⟩:=x
 rcases h.rd with h|h
 ·obtain⟨h1,h2⟩:=h
  simp only at h1 h2
  rw[h1,h2]
 ·exact absurd hb h.1
theorem N8{x:Rt}{q:Rat}(h:Rdd x):bI x (q,0,0)=fv x q:=by
 rw[RE.cmpT_re h.nn (by show(0:Rat)≤0;grind),RE.cmpTR_re h.nn,RE.vR_rat]
theorem Ot{x y:Rt}(hx:Rdd x)(hy:Rdd y)(bx:x.2.1=0)(b_:y.2.1=0):bI x y=aC x.1 y.1:=by
 rw[hx.rat bx,hy.rat b_,RE.cmpT_re (by show(0:Rat)≤0;grind) (by show(0:Rat)≤0;grind),RE.vR_rat,RE.vR_rat,←RE.of_sub,RE.sg_of,qf]
theorem Qy{x y:Rt}(hx:Rdd x)(hy:Rdd y)(h:(apF x y).2=true):(apF x y).1=bI x y:=by
 rw[RE.apF_ok h,RE.cmpT_re hx.nn hy.nn]
theorem Ge{x y:Rt}(hx:Rdd x)(hy:Rdd y)(h:x.2.2=y.2.2):fS (x.1-y.1) (x.2.1-y.2.1) x.2.2=bI x y:=by
 rw[RE.cmpT_re hx.nn hy.nn,RE.sgn2_re hx.nn]
 unfold RE.vR RE.v2
 rw[RE.of_sub,RE.of_sub,RE.same_rad,h]
theorem Xb{A B C D M N:Rat}(hM:0≤M)(hN:0≤N)(h:(quF (A,B,C,D,M,N)).2=true):(quF (A,B,C,D,M,N)).1=sgQ (A,B,C,D,M,N):=by
 rw[RE.quF_ok (q:=(A,B,C,D,M,N)) hM hN h]
 exact(RE.sgnQ_re hM hN).symm
def IG:List En:=[⟨107,gS,eU⟩,⟨108,fO,dP⟩,⟨73,iY,fx⟩,⟨106,gi,dY⟩,⟨41,eW,dk⟩,⟨99,fM,dS⟩,enL xc,enT Ax,enL Je,enL EK]
def WS:Cn 294 [tR,tR]:=cn fun(a b:BR)=>lf (okR a∧okR b) [.d tR (aq (ah a+ah b))] fun h=>iW [RV.d tR (hAd a b)] (c7 IG) h
def SW(a b:BO3)(_k:KT):Option (List RV):=og (decide (ok Rt 100000 a)) (og (decide (ok Rt 100000 b)) (match !((aZ (dec a)).2)with|true=>some [RV.d ai2 0,RV.d .bool false]|false=>(match !((aZ (dec b)).2)with|true=>some [RV.d ai2 0,RV.d .bool false]|false=>(match decide (((hid ((aZ (dec a)).1)).2)<((hid ((aZ (dec b)).1)).1))with|true=>some [RV.d ai2 (-1),RV.d .bool true]|false=>(match decide (((hid ((aZ (dec a)).1)).1)>((hid ((aZ (dec b)).1)).2))with|true=>some [RV.d ai2 1,RV.d .bool true]|false=>some [RV.d ai2 0,RV.d .bool false])))))
def Uw:Cn 295 [tO,tO]:=cn fun(a b:BO3)=>lf (ok Rt 100000 a∧ok Rt 100000 b) [.d ai2 ((apF (dec a) (dec b)).1),.d .bool ((apF (dec a) (dec b)).2)] fun h=>by
 refine az IG (SW a b) ⟨0,?_⟩
 obtain⟨ha,hb⟩:=h
 obtain⟨a,rfl,ba⟩:=aB ha
 obtain⟨b,rfl,bb⟩:=aB hb
 unfold SW
 simp only[aO,Nat.reduceLeDiff]
 unfold apF
 generalize aZ a=A
 generalize aZ b=B
 obtain⟨⟨a1,a2⟩,p⟩:=A
 obtain⟨⟨b1,b2⟩,q⟩:=B
 cases p<;>cases q<;>try rfl
 dsimp only
 cases decide (a2<b1)<;>try rfl
 cases decide (a1>b2)<;>rfl
def acN:List En:=enL WS::enT Uw::enT ab8::IG
def Tu(q:BQ)(_k:KT):Option (List RV):=let y1:=ah q.2.2.2.2.1;let y2:=aC (ah q.2.2.2.2.2) 0;let y3:=i64.wrap ((fS (ah q.2.2.1) (ah q.2.2.2.1) y1)*y2);let y4:=fS (ah q.1) (ah q.2.1) y1;let y5:=hMu q.2.2.2.2.1 (hMu q.2.1 q.2.1);let y6:=hMu q.2.2.2.1 q.2.2.2.1;let y7:=hMu q.2.2.1 q.2.2.1;let y8:=hMu q.2.2.2.2.1 y6;let y9:=hAd (hMu q.1 q.1) y5;let y10:=hMu q.2.2.2.2.2 (hAd y7 y8);let y11:=hMu q.2.2.1 q.2.2.2.1;let y12:=hMu q.2.2.2.2.2 y11;let y13:=hSu (hMu q.1 q.2.1) y12;let y14:Option (List RV):=match decide (okR (hMu q.1 q.2.1)∧okR y12)with|true=>(og (o2 y13 y13) (og (decide (ok Rat 240000 (hSu y9 y10)∧ok Rat 170000 (hAd y13 y13)∧ok Rat 30000 q.2.2.2.2.1)) (some [RV.d ai2 (i64.wrap (y4*(fS (ah (hSu y9 y10)) (ah (hAd y13 y13)) y1)))])))|false=>none;let y15:Option (List RV):=match decide (okR q.2.2.2.2.2∧okR y11)with|true=>y14|false=>none;let y16:Option (List RV):=match decide (okR q.2.2.1∧okR q.2.2.2.1)with|true=>y15|false=>none;let y17:Option (List RV):=match decide (okR y9∧okR y10)with|true=>cd (og (o2 q.1 q.2.1) (cd (og (o2 q.2.2.1 q.2.2.2.1) (cd (og (o2 q.2.2.2.2.2 y11) (dup (.b .l .l) y14)) y15)) y16)) (og (o2 q.1 q.2.1) y16)|false=>none;let y18:Option (List RV):=match decide (okR q.2.2.2.2.2∧okR (hAd y7 y8))with|true=>y17|false=>none;let y19:Option (List RV):=match decide (okR y7∧okR y8)with|true=>y18|false=>none;let y20:Option (List RV):=match decide (okR q.2.2.2.2.1∧okR y6)with|true=>y19|false=>none;let y21:Option (List RV):=match decide (okR q.2.2.2.1∧okR q.2.2.2.1)with|true=>y20|false=>none;let y22:Option (List RV):=match decide (okR q.2.2.1∧okR q.2.2.1)with|true=>y21|false=>none;let y23:Option (List RV):=match decide (okR (hMu q.1 q.1)∧okR y5)with|true=>y22|false=>none;let y24:Option (List RV):=match decide (okR q.2.2.2.2.1∧okR (hMu q.2.1 q.2.1))with|true=>y23|false=>none;let y25:Option (List RV):=match decide (okR q.2.1∧okR q.2.1)with|true=>y24|false=>none;og (o1 q.2.2.2.2.1) (match decide ((aC y1 0)<0)with|true=>some [RV.d ai2 0]|false=>(og (o1 q.2.2.2.2.2) (match decide (y2<0)with|true=>some [RV.d ai2 0]|false=>(og (decide (okQ q)) (match(quF (dec q)).2 with|true=>some [RV.d ai2 ((quF (dec q)).1)]|false=>(og (decide (ok Rat 240000 q.1∧ok Rat 170000 q.2.1∧ok Rat 30000 q.2.2.2.2.1)) (og (decide (ok Rat 240000 q.2.2.1∧ok Rat 170000 q.2.2.2.1∧ok Rat 30000 q.2.2.2.2.1)) (og (o1 q.2.2.2.2.2) (match y3==0 with|true=>some [RV.d ai2 y4]|false=>(match y4==y3 with|true=>some [RV.d ai2 y4]|false=>(match y4==0 with|true=>some [RV.d ai2 y3]|false=>cd (og (o2 q.1 q.1) (cd (og (o2 q.2.1 q.2.1) (cd (og (o2 q.2.2.2.2.1 (hMu q.2.1 q.2.1)) (cd (og (o2 (hMu q.1 q.1) y5) (cd (og (o2 q.2.2.1 q.2.2.1) (cd (og (o2 q.2.2.2.1 q.2.2.2.1) (cd (og (o2 q.2.2.2.2.1 y6) (cd (og (o2 y7 y8) (cd (og (o2 q.2.2.2.2.2 (hAd y7 y8)) (dup (.b .l .l) y17)) y18)) y19)) y20)) y21)) y22)) y23)) y24)) y25)) (og (o2 q.1 q.1) y25))))))))))))
def J2:Cn 204 [tQ]:=cn fun(q:BQ)=>lf (okQ q) [.d ai2 (sgQ (dec q))] fun h=>by
 refine az acN (Tu q) ⟨0,?_⟩
 obtain⟨A,B,C,D,M,N,rfl,bA,bB,bC,bD,bM,bN,hM,hN⟩:=CJ h
 have hh:decide (okQ (aq A,aq B,aq C,aq D,aq M,aq N))=true:=afZ h
 have hd:(dec ((aq A,aq B,aq C,aq D,aq M,aq N):BQ):Qd)=(A,B,C,D,M,N):=aA ((A,B,C,D,M,N):Qd)
 rw[aA]
 unfold Tu
 simp only[aO,aD,Nat.reduceAdd,Nat.reduceLeDiff,qz,qO,au,hh,hd,af1 (show ¬M<0 by grind),af1 (show ¬N<0 by grind)]
 cases hq:(quF (A,B,C,D,M,N)).2
 ·try dsimp only
  refine(xZ _ _ _).trans ?_
  unfold sgQ zb
  rw[af1 (show ¬M<0 by grind),af1 (show ¬N<0 by grind)]
  dsimp only[Bool.or_false,cond_false]
  rw[show A*B-N*(C*D)+(A*B-N*(C*D))=2*(A*B-N*(C*D)) by grind,show A*A+M*(B*B)-N*(C*C+M*(D*D))=A*A+B*B*M-N*(C*C+D*D*M) by grind]
  rfl
 ·try dsimp only
  rw[Xb hM hN hq]
def Vt:List En:=[⟨41,eW,dk⟩,⟨73,iY,fx⟩,⟨106,gi,dY⟩,enT Ax,enL Je,enT Uw,enT J2,enL xc]
def TQ(a b:BO3)(_k:KT):Option (List RV):=og (o1 a.2.1) (match(aC (ah a.2.1) 0)==0 with|true=>(og (o1 b.2.1) (match(aC (ah b.2.1) 0)==0 with|true=>(og (o2 a.1 b.1) (some [RV.d ai2 (aC (ah a.1) (ah b.1))]))|false=>(og (decide (ok Rt 100000 a∧ok Rt 100000 b)) (match(apF (dec a) (dec b)).2 with|true=>some [RV.d ai2 ((apF (dec a) (dec b)).1)]|false=>(og (o2 a.2.2 b.2.2) (match(aC (ah a.2.2) (ah b.2.2))==0 with|true=>(og (o2 a.1 b.1) (og (o2 a.2.1 b.2.1) (og (decide (ok Rat 240000 (hSu a.1 b.1)∧ok Rat 170000 (hSu a.2.1 b.2.1)∧ok Rat 30000 a.2.2)) (some [RV.d ai2 (fS (ah (hSu a.1 b.1)) (ah (hSu a.2.1 b.2.1)) (ah a.2.2))]))))|false=>(og (decide (ok Rt 15000 a∧ok Rt 15000 b)) (og (decide (okQ (hid (enc (suT (dec a) (dec b)))))) (some [RV.d ai2 (sgQ (dec (hid (enc (suT (dec a) (dec b))))))])))))))))|false=>(og (decide (ok Rt 100000 a∧ok Rt 100000 b)) (match(apF (dec a) (dec b)).2 with|true=>some [RV.d ai2 ((apF (dec a) (dec b)).1)]|false=>(og (o2 a.2.2 b.2.2) (match(aC (ah a.2.2) (ah b.2.2))==0 with|true=>(og (o2 a.1 b.1) (og (o2 a.2.1 b.2.1) (og (decide (ok Rat 240000 (hSu a.1 b.1)∧ok Rat 170000 (hSu a.2.1 b.2.1)∧ok Rat 30000 a.2.2)) (some [RV.d ai2 (fS (ah (hSu a.1 b.1)) (ah (hSu a.2.1 b.2.1)) (ah a.2.2))]))))|false=>(og (decide (ok Rt 15000 a∧ok Rt 15000 b)) (og (decide (okQ (hid (enc (suT (dec a) (dec b)))))) (some [RV.d ai2 (sgQ (dec (hid (enc (suT (dec a) (dec b))))))]))))))))
def Aw:Cn 206 [tO,tO]:=cn fun(a b:BO3)=>lf (okT 15000 a∧okT 15000 b) [.d ai2 (bI (dec a) (dec b))] fun h=>by
 refine az Vt (TQ a b) ⟨0,?_⟩
 obtain⟨ha,hb⟩:=h
 obtain⟨a,rfl,ba,ra⟩:=fN ha
 obtain⟨b,rfl,bb,rb⟩:=fN hb
 have na:Nn a.2.2:=inferInstance
 have nb:Nn b.2.2:=inferInstance
 have e:decide (okQ (enc (suT a b)))=true:=wU (by decide) (by decide) (by decide) (by decide) (by decide) (by decide)
 have e1:=fun h1 h2=>Ot ra rb h1 h2
 have e2:=fun h=>Qy ra rb h
 have e3:=fun h=>Ge ra rb h
 unfold TQ
 simp only[aO,Nat.reduceAdd,Nat.reduceLeDiff,am,e]
 by_cases ha:a.2.1=0
 ·by_cases hb:b.2.1=0
  ·rw[afZ ha,afZ hb,e1 ha hb]
  ·rw[afZ ha,af1 hb]
   dsimp only
   cases hq:(apF a b).2
   ·dsimp only
    by_cases hc:a.2.2=b.2.2
    ·rw[afZ hc,←e3 hc]
    ·rw[af1 hc];rfl
   ·dsimp only
    rw[e2 hq]
 ·rw[af1 ha]
  dsimp only
  cases hq:(apF a b).2
  ·dsimp only
   by_cases hc:a.2.2=b.2.2
   ·rw[afZ hc,←e3 hc]
   ·rw[af1 hc];rfl
  ·dsimp only
   rw[e2 hq]
def adM:List En:=enT Aw::Vt
def Sk(a:BO3)(b:BR)(_k:KT):Option (List RV):=og (o1 b) (og (decide (okT 15000 a∧okT 15000 (hid (enc ((ah b,0,0):Rt))))) (some [RV.d ai2 (bI (dec a) (dec (hid (enc ((ah b,0,0):Rt)))))]))
def KH:Cn 100 [tO,tR]:=cn fun(a:BO3) (b:BR)=>lf (okT 15000 a∧ok Rat 15000 b) [.d ai2 (fv (dec a) (ah b))] fun h=>by
 refine az adM (Sk a b) ⟨0,?_⟩
 obtain⟨ha,hb⟩:=h
 obtain⟨a,rfl,ba,ra⟩:=fN ha
 obtain⟨b,rfl,bb⟩:=aB hb
 unfold Sk
 simp only[aO,Nat.reduceLeDiff,aH]
 rw[N8 ra]
section
section
variable {α:Type}
open Classical in
def rk(lt:α→α→Prop):List α→α→Nat
 |[],_=>0
 |e::r,x=>(if lt e x then 1 else 0)+rk lt r x
structure DR (lt:α→α→Prop):Prop where
 irr:∀x,¬lt x x
 tr:∀x y z,lt x y→lt y z→lt x z
 tri:∀x y,lt x y∨x=y∨lt y x
variable {lt:α→α→Prop}
theorem To(h:DR lt){x y:α}(hxy:lt x y):∀L,rk lt L x≤rk lt L y
 |[]=>af6 _
 |e::r=>by
  have:=To h hxy r
  unfold rk
  by_cases h1:lt e x
  ·rw[agu h1,agu (h.tr _ _ _ h1 hxy)];omega
  ·rw[agk h1];omega
theorem I0(h:DR lt){x y:α}(hxy:lt x y):∀{L},x∈L→rk lt L x<rk lt L y
 |e::r,hm=>by
  have h0:=To h hxy r
  unfold rk
  rcases agl.1 hm with rfl|hm
  ·rw[agk (h.irr _),agu hxy];omega
  ·have:=I0 h hxy hm
   by_cases h1:lt e x
   ·rw[agu h1,agu (h.tr _ _ _ h1 hxy)];omega
   ·rw[agk h1];omega
theorem Wn(L:List α)(x:α):rk lt L x≤L.length:=by
 induction L with
 |nil=>exact af6 _
 |cons e r ih=>
  unfold rk
  rw[agi]
  split<;>omega
theorem A9(h:DR lt){x:α}:∀{L},x∈L→rk lt L x<L.length
 |e::r,hm=>by
  unfold rk
  rw[agi]
  rcases agl.1 hm with rfl|hm
  ·rw[agk (h.irr _)];have:=Wn (lt:=lt) r x;omega
  ·have:=A9 h hm
   split<;>omega
def Xt(lt:α→α→Prop)(c:α→α→Int):Prop:=∀x y,(lt x y→c x y= -1)∧(x=y→c x y=0)∧(lt y x→c x y=1)
def cI(i j:Nat):Int:=if i<j then-1 else if i=j then 0 else 1
theorem MX(h:DR lt){c:α→α→Int}(hc:Xt lt c){L:List α}{x y:α}(hx:x∈L)(hy:y∈L):c x y=cI (rk lt L x) (rk lt L y):=by
 unfold cI
 rcases h.tri x y with e|e|e
 ·rw[(hc x y).1 e,agu (I0 h e hx)]
 ·subst e;rw[(hc x x).2.1 rfl,agk (Nat.lt_irrefl _),agu rfl]
 ·have:=I0 h e hy
  rw[(hc x y).2.2 e,agk (by omega),agk (by omega)]
end
section
variable {α:Type} (cmp:α→α→Int)
def oK(p q:Bool×α):Int:=bif p.1==q.1 then(bif p.1 then-cmp p.2 q.2 else cmp p.2 q.2)else(bif p.1 then-1 else 1)
def mo(f p:Bool×α):Int:=bif oK cmp p f==0 then 0 else bif decide (oK cmp p f>0)then 1 else 2
def jd(n:Int):Int:=if n<0 then-1 else if n=0 then 0 else 1
def kL(f p q:Bool×α):Int:=bif mo cmp f p==mo cmp f q then jd (oK cmp p q)else jd (mo cmp f p-mo cmp f q)
def sX(p q:Bool×α):Int:=bif p.1==q.1 then(bif p.1 then-cmp p.2 q.2 else cmp p.2 q.2)else(bif q.1 then-1 else 1)
def GL(f p q:Bool×α):Int:=bif decide (sX cmp p f<0)==decide (sX cmp q f<0)then sX cmp p q else(bif decide (sX cmp q f<0)then-1 else 1)
variable {cmp} {β:Type} {cmq:β→β→Int}
theorem pq{u v:Bool}{a b:α}{c d:β}(h:cmp a b=cmq c d):oK cmp (u,a) (v,b)=oK cmq (u,c) (v,d):=by unfold oK;rw[h]
theorem C7{u v w:Bool}{f p q:α}{f' p' q':β}(h1:cmp p f=cmq p' f')(h2:cmp q f=cmq q' f')(h3:cmp p q=cmq p' q'):kL cmp (u,f) (v,p) (w,q)=kL cmq (u,f') (v,p') (w,q'):=by
 unfold kL mo
 rw[pq h1,pq h2,pq h3]
end
def upA(k:Nat):Bool:=k==0||k==1
def u4(a b:Int):Bool:=a==0||b==0||a==b
namespace RE
theorem sC:DR (fun x y:RE=>x<y):=⟨lt_irrefl,fun _ _ _=>dK,oB⟩
theorem pT(x y:RE)(h1:x<y):x-y<0:=by grind
theorem zg(x y:RE)(h1:y<x):0<x-y:=by grind
theorem D6:Xt (fun x y:RE=>x<y) (fun x y=>sg (x-y)):=fun x y=>⟨fun h=>iM (pT _ _ h),fun h=>by subst h;show sg (x-x)=0;rw[sub_self,dU],fun h=>dE (zg _ _ h)⟩
def aaM(p q:RE×RE):Prop:=p.1<q.1∨(p.1=q.1∧p.2<q.2)
theorem D5:DR aaM:=by
 refine⟨fun x h=>?_,fun x y z h1 h2=>?_,fun x y=>?_⟩
 ·rcases h with h|h
  ·exact lt_irrefl _ h
  ·exact lt_irrefl _ h.2
 ·rcases h1 with h1|⟨h1,h1'⟩
  ·rcases h2 with h2|⟨h2,h2'⟩
   ·exact .inl (dK h1 h2)
   ·exact .inl (h2▸h1)
  ·rcases h2 with h2|⟨h2,h2'⟩
   ·exact .inl (h1▸h2)
   ·exact .inr ⟨h1.trans h2,dK h1' h2'⟩
 ·rcases oB x.1 y.1 with h|h|h
  ·exact .inl (.inl h)
  ·rcases oB x.2 y.2 with h'|h'|h'
   ·exact .inl (.inr ⟨h,h'⟩)
   ·exact .inr (.inl (aiV h h'))
   ·exact .inr (.inr (.inr ⟨h.symm,h'⟩))
  ·exact .inr (.inr (.inl h))
def lxc(p q:RE×RE):Int:=bif sg (p.1-q.1)==0 then sg (p.2-q.2)else sg (p.1-q.1)
theorem QN:Xt aaM lxc:=fun p q=>by
 unfold lxc
 refine⟨fun h=>?_,fun h=>?_,fun h=>?_⟩
 ·rcases h with h|⟨h,h'⟩
  ·rw[iM (pT _ _ h)];rfl
  ·rw[h,sub_self,dU,iM (pT _ _ h')];rfl
 ·subst h
  rw[sub_self,sub_self,dU];rfl
 ·rcases h with h|⟨h,h'⟩
  ·rw[dE (zg _ _ h)];rfl
  ·rw[←h,sub_self,dU,dE (zg _ _ h')];rfl
def cls(u v:RE):Nat:=bif sg v==1 then 1 else bif sg v== -1 then 3 else bif sg u==1 then 0 else 2
theorem uo(u v:RE):cls u v<4:=by
 unfold cls
 cases sg v==1<;>cases sg v== -1<;>cases sg u==1<;>simp
theorem Wr(u v:RE):(decide (sg v>0)||(sg v==0&&decide (sg u>0)))=upA (cls u v):=by
 unfold cls
 rcases bj v with⟨_,h⟩|⟨_,h⟩|⟨_,h⟩<;>rcases bj u with⟨_,h'⟩|⟨_,h'⟩|⟨_,h'⟩<;>rw[h,h']<;>rfl
theorem Ey{z:RE}(h:z*z≤0):z=0:=by
 rcases oB z 0 with e|e|e
 ·have:=mul_pos (lI e) (lI e)
  rw[neg_mul,mul_neg,neg_neg]at this
  exact absurd this (fun h'=>lt_irrefl _ (dK h' (by
   rcases ld (uD z)with h2|h2
   ·exact absurd h2 ((KW _ _).1 h)
   ·rw[h2]at h';exact absurd h' (lt_irrefl _))))
 ·exact e
 ·exact absurd (mul_pos e e) ((KW _ _).1 h)
theorem acd{u v:RE}:cls u v=0↔v=0∧0<u:=by
 unfold cls
 rcases bj v with⟨a,h1⟩|⟨a,h1⟩|⟨a,h1⟩<;>rcases bj u with⟨b,h'⟩|⟨b,h'⟩|⟨b,h'⟩<;>rw[h1,h']<;>simp[a,b]<;>first|exact lt_irrefl _|exact fun h=>absurd (dK h b) (lt_irrefl _)|(intro h;rw[h]at a;exact absurd a (lt_irrefl _))|skip
end RE
end
section
def xP(p:Pt):Rt:=coR p.1 p.2.1 p.2.2.2.2
def yP(p:Pt):Rt:=coR p.2.2.1 p.2.2.2.1 p.2.2.2.2
def atP(v:Rat×Rat):Pt:=(v.1,0,v.2,0,0)
def rdP(p:Pt):Pt:=(p.1,p.2.1,p.2.2.1,p.2.2.2.1,bif decide (p.2.1=0)&&decide (p.2.2.2.1=0)then 0 else p.2.2.2.2)
def mkP(x y:Rt):Pt:=rdP (x.1,x.2.1,y.1,y.2.1,bif decide (x.2.1=0)then y.2.2 else x.2.2)
def sR(x y:Rt):Prop:=x.2.1=0∨y.2.1=0∨x.2.2=y.2.2
instance (x y:Rt):Decidable (sR x y):=by unfold sR;infer_instance
def bZ(p q:Pt):Int:=bif bI (xP p) (xP q)==0 then bI (yP p) (yP q)else bI (xP p) (xP q)
def trP(p:Pt)(v:Rat×Rat):Pt:=(p.1+v.1,p.2.1,p.2.2.1+v.2,p.2.2.2.1,p.2.2.2.2)
def bkV(v:Rat×Rat):Rat×Rat:=(-v.1,-v.2)
def sqA(p:Pt)(v:Rat×Rat):Rat:=(p.1-v.1)*(p.1-v.1)+(p.2.2.1-v.2)*(p.2.2.1-v.2)+(p.2.1*p.2.1+p.2.2.2.1*p.2.2.2.1)*p.2.2.2.2
def sqB(p:Pt)(v:Rat×Rat):Rat:=(p.1-v.1)*p.2.1+(p.2.2.1-v.2)*p.2.2.2.1+((p.1-v.1)*p.2.1+(p.2.2.1-v.2)*p.2.2.2.1)
def sqP(p:Pt)(v:Rat×Rat):Rt:=coR (sqA p v) (sqB p v) p.2.2.2.2
def Cg(p:Pt):Prop:=(p.2.1=0∧p.2.2.2.1=0∧p.2.2.2.2=0)∨(¬(p.2.1=0∧p.2.2.2.1=0)∧0<p.2.2.2.2∧eZ p.2.2.2.2=false)
instance (p:Pt):Decidable (Cg p):=by unfold Cg;infer_instance
class Rpd (p:Pt):Prop where
 rd:Cg p
def okP(k:Nat)(x:BP):Prop:=ok Pt k x∧Cg (dec x)
instance (k:Nat) (x:BP):Decidable (okP k x):=by unfold okP;infer_instance
theorem bG{k:Nat}{x:BP}(h:okP k x):∃v:Pt,x=enc v∧Bd v k∧Rpd v:=by
 obtain⟨h1,h2⟩:=h
 obtain⟨v,rfl,bv⟩:=aB h1
 rw[aA]at h2
 exact⟨v,rfl,bv,⟨h2⟩⟩
theorem aI{x:Pt}{j k:Nat}[h:Bd x j][r:Rpd x](hj:j≤k)(hk:k≤480000):decide (okP k (enc x))=true:=afZ ⟨af2 (okd hj hk),by rw[aA];exact r.rd⟩
theorem Rpd.ns{p:Pt}(h:Rpd p):Ns p.2.2.2.2:=⟨by rcases h.rd with h|h;exact .inl h.2.2;exact .inr h.2⟩
instance afM {p:Pt} [h:Rpd p]:Ns p.2.2.2.2:=h.ns
theorem Rpd.nn{p:Pt}(h:Rpd p):0≤p.2.2.2.2:=h.ns.nn
theorem Ji{a b c:Rat}(h:Ns c)(hb:b=0∨c≠0):Rdd (coR a b c):=by
 refine⟨?_⟩
 unfold coR
 by_cases e:b=0
 ·rw[afZ e];exact .inl ⟨rfl,rfl⟩
 ·rw[af1 e]
  rcases h.ns with h|h
  ·rcases hb with hb|hb
   ·exact absurd hb e
   ·exact absurd h hb
  ·exact .inr ⟨e,h⟩
theorem Rpd.b0{p:Pt}(h:Rpd p):(p.2.1=0∧p.2.2.2.1=0)∨p.2.2.2.2≠0:=by
 rcases h.rd with h|h
 ·exact .inl ⟨h.1,h.2.1⟩
 ·exact .inr (by have:=h.2.1;grind)
instance aeQ {p:Pt} [h:Rpd p]:Rdd (xP p):=Ji h.ns (by rcases h.b0 with h|h;exact .inl h.1;exact .inr h)
instance afq {p:Pt} [h:Rpd p]:Rdd (yP p):=Ji h.ns (by rcases h.b0 with h|h;exact .inl h.2;exact .inr h)
instance afQ {p:Pt} {v:Rat×Rat} [h:Rpd p]:Rdd (sqP p v):=Ji h.ns (by
 rcases h.b0 with h|h
 ·refine .inl ?_
  unfold sqB
  rw[h.1,h.2]
  grind
 ·exact .inr h)
instance afA {v:Rat×Rat}:Rpd (atP v):=⟨.inl ⟨rfl,rfl,rfl⟩⟩
instance afO {p:Pt} {v:Rat×Rat} [h:Rpd p]:Rpd (trP p v):=⟨h.rd⟩
theorem UL{x y:Rt}(hx:Rdd x)(hy:Rdd y)(_h:sR x y):Rpd (mkP x y):=by
 refine⟨?_⟩
 unfold mkP rdP Cg
 dsimp only
 rcases hx.rd with⟨a1,a2⟩|⟨a1,a2,a3⟩<;>rcases hy.rd with⟨b1,b2⟩|⟨b1,b2,b3⟩
 ·simp[a1,b1]
 ·simp[a1,b1,b2,b3]
 ·simp[a1,b1,a2,a3]
 ·simp[a1,b1,a2,a3]
section
variable {p:Pt} {j:Nat}
instance afN [h:Bd p j]:Bd (xP p) (mx j (mx j j)):=inferInstanceAs (Bd (coR p.1 p.2.1 p.2.2.2.2) _)
instance afD [h:Bd p j]:Bd (yP p) (mx j (mx j j)):=inferInstanceAs (Bd (coR p.2.2.1 p.2.2.2.1 p.2.2.2.2) _)
instance aer {v:Rat×Rat} [h:Bd v j]:Bd (atP v) (mx j (mx 1 (mx j (mx 1 1)))):=inferInstanceAs (Bd ((v.1,0,v.2,0,0):Pt) _)
instance aeJ {v:Rat×Rat} {k:Nat} [h:Bd p j] [h':Bd v k]:Bd (trP p v) (mx (j+k+1) (mx j (mx (j+k+1) (mx j j)))):=inferInstanceAs (Bd ((p.1+v.1,p.2.1,p.2.2.1+v.2,p.2.2.2.1,p.2.2.2.2):Pt) _)
instance afz {v:Rat×Rat} [h:Bd v j]:Bd (bkV v) (mx j j):=inferInstanceAs (Bd ((-v.1,-v.2):Rat×Rat) _)
end
instance ae4 {p:Pt} {j:Nat} [h:Bd p j]:Bd (rdP p) (mx j (mx j (mx j (mx j (mx 1 j))))):=inferInstanceAs (Bd ((p.1,p.2.1,p.2.2.1,p.2.2.2.1,bif decide (p.2.1=0)&&decide (p.2.2.2.1=0)then 0 else p.2.2.2.2):Pt) _)
instance XH {x y:Rt} {j k:Nat} [h:Bd x j] [h':Bd y k]:Bd (mkP x y) (mx (mx j (mx j (mx k (mx k (mx k j))))) (mx (mx j (mx j (mx k (mx k (mx k j))))) (mx (mx j (mx j (mx k (mx k (mx k j))))) (mx (mx j (mx j (mx k (mx k (mx k j))))) (mx 1 (mx j (mx j (mx k (mx k (mx k j)))))))))):=inferInstanceAs (Bd (rdP (x.1,x.2.1,y.1,y.2.1,bif decide (x.2.1=0)then y.2.2 else x.2.2)) _)
theorem eI{j k n:Nat}(h1:j≤n)(h2:k≤n):mx j k≤n:=by
 unfold mx
 cases decide (j≤k)
 ·exact h1
 ·exact h2
section
variable {p:Pt} {v:Rat×Rat} {j k:Nat}
instance aeC [h:Bd p j] [h':Bd v k]:Bd (sqA p v) (20*(j+k+1)):=by
 have a1:Bd (p.1-v.1) _:=inferInstance
 have a2:Bd (p.2.2.1-v.2) _:=inferInstance
 have a3:Bd (p.2.1*p.2.1+p.2.2.2.1*p.2.2.2.1) _:=inferInstance
 have i:Bd ((p.1-v.1)*(p.1-v.1)+(p.2.2.1-v.2)*(p.2.2.1-v.2)+(p.2.1*p.2.1+p.2.2.2.1*p.2.2.2.1)*p.2.2.2.2) _:=inferInstance
 exact i.mono (by omega)
instance ae0 [h:Bd p j] [h':Bd v k]:Bd (sqB p v) (20*(j+k+1)):=by
 have a1:Bd (p.1-v.1) _:=inferInstance
 have a2:Bd (p.2.2.1-v.2) _:=inferInstance
 have i:Bd ((p.1-v.1)*p.2.1+(p.2.2.1-v.2)*p.2.2.2.1+((p.1-v.1)*p.2.1+(p.2.2.1-v.2)*p.2.2.2.1)) _:=inferInstance
 exact i.mono (by omega)
instance ae3 [h:Bd p j] [h':Bd v k]:Bd (sqP p v) (20*(j+k+1)):=by
 have i:Bd (coR (sqA p v) (sqB p v) p.2.2.2.2) _:=inferInstance
 exact i.mono (eI (by omega) (eI (by omega) (by omega)))
end
namespace RE
def pX(p:Pt):RE:=v2 p.1 p.2.1 p.2.2.2.2
def pY(p:Pt):RE:=v2 p.2.2.1 p.2.2.2.1 p.2.2.2.2
def pR(p:Pt):RE×RE:=(pX p,pY p)
theorem J4(p:Pt):vR (xP p)=pX p:=vR_co _ _ _
theorem Xw(p:Pt):vR (yP p)=pY p:=vR_co _ _ _
theorem z8{p:Pt}[h:Rpd p]:0≤(xP p).2.2:=(aeQ (p:=p)).nn
theorem Oa{p:Pt}[h:Rpd p]:0≤(yP p).2.2:=(afq (p:=p)).nn
theorem yF{p q:Pt}[Rpd p][Rpd q]:bZ p q=lxc (pR p) (pR q):=by
 unfold bZ lxc
 rw[cmpT_re z8 z8,cmpT_re Oa Oa,J4,J4,Xw,Xw]
 rfl
theorem WO(x y s t c u w:RE):(x+s*c-u)*(x+s*c-u)+(y+t*c-w)*(y+t*c-w)=(x-u)*(x-u)+(y-w)*(y-w)+(s*s+t*t)*(c*c)+((x-u)*s+(y-w)*t+((x-u)*s+(y-w)*t))*c:=by grind
theorem Dg{p:Pt}{v:Rat×Rat}[h:Rpd p]:vR (sqP p v)=(pX p-of v.1)*(pX p-of v.1)+(pY p-of v.2)*(pY p-of v.2):=by
 unfold sqP pX pY
 rw[vR_co]
 unfold v2
 rw[WO,fX h.nn]
 unfold sqA sqB
 simp only[of_add,of_sub,aS]
theorem acJ(v:Rat×Rat):pX (atP v)=of v.1:=dA _ _
theorem adH(v:Rat×Rat):pY (atP v)=of v.2:=dA _ _
end RE
end
theorem jF(a b:Rat):(aC a b !=0)=!decide (a=b):=by
 unfold bne
 rw[am]
def R5:List En:=[⟨99,fM,dS⟩,⟨108,fO,dP⟩,⟨107,gS,eU⟩,⟨106,gi,dY⟩,⟨41,eW,dk⟩,⟨73,iY,fx⟩,enT Aw]
def T9(_k:KT):Option (List RV):=og (decide (aF (0:Int))) (some [RV.d tR (hid (aq ((0:Int):Rat)))])
def adq:Cn 227 []:=cn<|lf True [.d tR (aq 0)] fun _=>by
 refine az R5 (T9) ⟨0,?_⟩
 unfold T9
 rw[dT (show aF 0 by decide)]
 simp only[aX]
 rfl
def F3:List En:=enL adq::R5
def Ud(v:BV)(_k:KT):Option (List RV):=some [RV.d tP (v.1,(hid (aq 0),(v.2,(hid (aq 0),hid (aq 0)))))]
def AT:Cn 115 [tV]:=cn fun(v:BV)=>lf (ok (Rat×Rat) 100000 v) [.d tP (enc (atP (dec v)))] fun h=>by
 refine az F3 (Ud v) ⟨0,?_⟩
 have hv:=h
 obtain⟨v,rfl,bv⟩:=aB hv
 unfold Ud
 simp only[aO]
 try rfl
def R9(p:BP)(_k:KT):Option (List RV):=og (o1 p.2.1) (match(aC (ah p.2.1) 0)==0 with|true=>(og (o1 p.2.2.2.1) (match(aC (ah p.2.2.2.1) 0)==0 with|true=>some [RV.d tP (p.1,(p.2.1,(p.2.2.1,(p.2.2.2.1,hid (aq 0)))))]|false=>some [RV.d tP p]))|false=>some [RV.d tP p])
def aac:Cn 306 [tP]:=cn fun(p:BP)=>lf (ok Pt 21000 p) [.d tP (enc (rdP (dec p)))] fun h=>by
 refine az F3 (R9 p) ⟨0,?_⟩
 have hp:=h
 obtain⟨p,rfl,bp⟩:=aB hp
 unfold R9
 simp only[aO,Nat.reduceLeDiff,am]
 unfold rdP
 by_cases h1:p.2.1=0
 ·by_cases h2:p.2.2.2.1=0
  ·rw[afZ h1,afZ h2];rfl
  ·rw[afZ h1,af1 h2];rfl
 ·rw[af1 h1];rfl
def Tg(a b c:BR)(_k:KT):Option (List RV):=og (o1 b) (match(aC (ah b) 0)==0 with|true=>some [RV.d tO (a,(b,hid (aq 0)))]|false=>some [RV.d tO (a,(b,c))])
def aao:Cn 211 [tR,tR,tR]:=cn fun(a b c:BR)=>lf (okR a∧okR b∧okR c) [.d tO (enc (coR (ah a) (ah b) (ah c)))] fun h=>by
 refine az F3 (Tg a b c) ⟨0,?_⟩
 obtain⟨ha,hb,hc⟩:=h
 obtain⟨a,rfl,ba⟩:=eu ha
 obtain⟨b,rfl,bb⟩:=eu hb
 obtain⟨c,rfl,bc⟩:=eu hc
 unfold Tg
 simp only[aO,Nat.reduceLeDiff,am]
 unfold coR
 by_cases e:b=0
 ·subst e;rw[afZ rfl];rfl
 ·rw[af1 e];rfl
def BY:List En:=enL AT::enL aac::enL aao::F3
def Vs(x y:BO3)(_k:KT):Option (List RV):=og (o1 x.2.1) (match(aC (ah x.2.1) 0)==0 with|true=>(og (decide (ok Pt 21000 (x.1,(x.2.1,y)))) (some [RV.d tP (hid (enc (rdP (dec (x.1,(x.2.1,y)))))),RV.d ai2 0]))|false=>(og (o1 y.2.1) (match(aC (ah y.2.1) 0) !=0 with|true=>(og (o2 x.2.2 y.2.2) (match(aC (ah x.2.2) (ah y.2.2)) !=0 with|true=>some [RV.d tP (((false,[]),(false,[])),(((false,[]),(false,[])),(((false,[]),(false,[])),(((false,[]),(false,[])),((false,[]),(false,[])))))),RV.d ai2 1]|false=>(og (decide (ok Pt 21000 (x.1,(x.2.1,(y.1,(y.2.1,x.2.2)))))) (some [RV.d tP (hid (enc (rdP (dec (x.1,(x.2.1,(y.1,(y.2.1,x.2.2)))))))),RV.d ai2 0]))))|false=>(og (decide (ok Pt 21000 (x.1,(x.2.1,(y.1,(y.2.1,x.2.2)))))) (some [RV.d tP (hid (enc (rdP (dec (x.1,(x.2.1,(y.1,(y.2.1,x.2.2)))))))),RV.d ai2 0])))))
def UH:Cn 220 [tO,tO]:=cn fun(x y:BO3)=>lf (okT 15000 x∧okT 15000 y∧sR (dec x) (dec y)) [.d tP (enc (mkP (dec x) (dec y))),.d ai2 0] fun h=>by
 refine az BY (Vs x y) ⟨0,?_⟩
 obtain⟨hx,hy,hy_2⟩:=h
 obtain⟨x,rfl,bx,rx⟩:=fN hx
 obtain⟨y,rfl,b_y,ry⟩:=fN hy
 have i1:decide (ok Pt 21000 (enc ((x.1,x.2.1,y):Pt)))=true:=okd (by decide) (by decide)
 have i2:decide (ok Pt 21000 (enc ((x.1,x.2.1,y.1,y.2.1,x.2.2):Pt)))=true:=okd (by decide) (by decide)
 have j1:(dec ((aq x.1,aq x.2.1,enc y):BP):Pt)=(x.1,x.2.1,y):=aA ((x.1,x.2.1,y):Pt)
 have j2:(dec ((aq x.1,aq x.2.1,aq y.1,aq y.2.1,aq x.2.2):BP):Pt)=(x.1,x.2.1,y.1,y.2.1,x.2.2):=aA ((x.1,x.2.1,y.1,y.2.1,x.2.2):Pt)
 have i1:decide (ok Pt 21000 ((aq x.1,aq x.2.1,enc y):BP))=true:=i1
 have i2:decide (ok Pt 21000 ((aq x.1,aq x.2.1,aq y.1,aq y.2.1,aq x.2.2):BP))=true:=i2
 have hm:=hy_2
 rw[aA,aA]at hm
 unfold Vs
 simp only[aO,Nat.reduceLeDiff,am,jF,i1,i2,j1,j2]
 unfold mkP
 by_cases e1:x.2.1=0
 ·rw[afZ e1];rfl
 ·rw[af1 e1]
  by_cases e2:y.2.1=0
  ·rw[afZ e2];rfl
  ·rw[af1 e2,afZ ((hm.resolve_left e1).resolve_left e2)];rfl
def ac3(p:BP)(_k:KT):Option (List RV):=og (decide (okR p.1∧okR p.2.1∧okR p.2.2.2.2)) (some [RV.d tO (hid (enc (coR (ah p.1) (ah p.2.1) (ah p.2.2.2.2))))])
def abl:Cn 282 [tP]:=cn fun(p:BP)=>lf (okP 4000 p) [.d tO (enc (xP (dec p)))] fun h=>by
 refine az BY (ac3 p) ⟨0,?_⟩
 have hp:=h
 obtain⟨p,rfl,bp,rp⟩:=bG hp
 unfold ac3
 simp only[aO,Nat.reduceLeDiff]
 try rfl
def aad(p:BP)(_k:KT):Option (List RV):=og (decide (okR p.2.2.1∧okR p.2.2.2.1∧okR p.2.2.2.2)) (some [RV.d tO (hid (enc (coR (ah p.2.2.1) (ah p.2.2.2.1) (ah p.2.2.2.2))))])
def ZM:Cn 283 [tP]:=cn fun(p:BP)=>lf (okP 4000 p) [.d tO (enc (yP (dec p)))] fun h=>by
 refine az BY (aad p) ⟨0,?_⟩
 have hp:=h
 obtain⟨p,rfl,bp,rp⟩:=bG hp
 unfold aad
 simp only[aO,Nat.reduceLeDiff]
 try rfl
def RB(p:BP)(v:BV)(_k:KT):Option (List RV):=let y1:=hMu (hSu p.1 v.1) (hSu p.1 v.1);let y2:=hMu (hSu p.2.2.1 v.2) (hSu p.2.2.1 v.2);let y3:=hMu p.2.2.2.1 p.2.2.2.1;let y4:=hAd (hMu p.2.1 p.2.1) y3;let y5:=hMu (hSu p.1 v.1) p.2.1;let y6:=hMu (hSu p.2.2.1 v.2) p.2.2.2.1;let y7:=hAd (hAd y1 y2) (hMu y4 p.2.2.2.2);let y8:=hAd (hAd y5 y6) (hAd y5 y6);let y9:Option (List RV):=match decide (okR y5∧okR y6)with|true=>(og (o2 (hAd y5 y6) (hAd y5 y6)) (og (decide (okR y7∧okR y8∧okR p.2.2.2.2)) (some [RV.d tO (hid (enc (coR (ah y7) (ah y8) (ah p.2.2.2.2))))])))|false=>none;let y10:Option (List RV):=match decide (okR (hSu p.2.2.1 v.2)∧okR p.2.2.2.1)with|true=>y9|false=>none;let y11:Option (List RV):=match decide (okR (hAd y1 y2)∧okR (hMu y4 p.2.2.2.2))with|true=>cd (og (o2 (hSu p.1 v.1) p.2.1) (cd (og (o2 (hSu p.2.2.1 v.2) p.2.2.2.1) (dup (.b .l .l) y9)) y10)) (og (o2 (hSu p.1 v.1) p.2.1) y10)|false=>none;let y12:Option (List RV):=match decide (okR y4∧okR p.2.2.2.2)with|true=>y11|false=>none;let y13:Option (List RV):=match decide (okR (hMu p.2.1 p.2.1)∧okR y3)with|true=>y12|false=>none;let y14:Option (List RV):=match decide (okR p.2.2.2.1∧okR p.2.2.2.1)with|true=>y13|false=>none;let y15:Option (List RV):=match decide (okR p.2.1∧okR p.2.1)with|true=>y14|false=>none;let y16:Option (List RV):=match decide (okR y1∧okR y2)with|true=>y15|false=>none;let y17:Option (List RV):=match decide (okR (hSu p.2.2.1 v.2)∧okR (hSu p.2.2.1 v.2))with|true=>y16|false=>none;og (o2 p.1 v.1) (og (o2 p.2.2.1 v.2) (cd (og (o2 (hSu p.1 v.1) (hSu p.1 v.1)) (cd (og (o2 (hSu p.2.2.1 v.2) (hSu p.2.2.1 v.2)) (cd (og (o2 y1 y2) (cd (og (o2 p.2.1 p.2.1) (cd (og (o2 p.2.2.2.1 p.2.2.2.1) (cd (og (o2 (hMu p.2.1 p.2.1) y3) (cd (og (o2 y4 p.2.2.2.2) (dup (.b .l .l) y11)) y12)) y13)) y14)) y15)) y16)) y17)) (og (o2 (hSu p.1 v.1) (hSu p.1 v.1)) y17)))
def RT:Cn 101 [tP,tV]:=cn fun(p:BP) (v:BV)=>lf (okP 3500 p∧ok (Rat×Rat) 300 v) [.d tO (enc (sqP (dec p) (dec v)))] fun h=>by
 refine az BY (RB p v) ⟨0,?_⟩
 obtain⟨hp,hv⟩:=h
 obtain⟨p,rfl,bp,rp⟩:=bG hp
 obtain⟨v,rfl,bv⟩:=aB hv
 unfold RB
 simp only[aO,Nat.reduceAdd,Nat.reduceLeDiff]
 rfl
def ZT:List En:=enL abl::enL ZM::BY
def Ur(p q:BP)(_k:KT):Option (List RV):=og (decide (okP 4000 p)) (og (decide (okP 4000 q)) (og (decide (okT 15000 (hid (enc (xP (dec p))))∧okT 15000 (hid (enc (xP (dec q)))))) (match(bI (dec (hid (enc (xP (dec p))))) (dec (hid (enc (xP (dec q)))))) !=0 with|true=>some [RV.d ai2 (bI (dec (hid (enc (xP (dec p))))) (dec (hid (enc (xP (dec q))))))]|false=>(og (decide (okP 4000 p)) (og (decide (okP 4000 q)) (og (decide (okT 15000 (hid (enc (yP (dec p))))∧okT 15000 (hid (enc (yP (dec q)))))) (some [RV.d ai2 (bI (dec (hid (enc (yP (dec p))))) (dec (hid (enc (yP (dec q))))))])))))))
def Na:Cn 189 [tP,tP]:=cn fun(p q:BP)=>lf (okP 4000 p∧okP 4000 q) [.d ai2 (bZ (dec p) (dec q))] fun h=>by
 refine az ZT (Ur p q) ⟨0,?_⟩
 obtain⟨hp,hq⟩:=h
 obtain⟨p,rfl,bp,rp⟩:=bG hp
 obtain⟨q,rfl,bq,rq⟩:=bG hq
 unfold Ur
 simp only[aO,Nat.reduceLeDiff,aH,aI]
 unfold bZ bne
 cases bI (xP p) (xP q)==0<;>rfl
section
def ob(l:Ln)(p:Pt):Rat:=l.1*p.1+l.2.1*p.2.2.1-l.2.2
def oa(l:Ln)(p:Pt):Rat:=l.1*p.2.1+l.2.1*p.2.2.2.1
def p6(l:Ln)(p:Pt):Int:=fS (ob l p) (oa l p) p.2.2.2.2
def ctr(c:Ln):Rat×Rat:=(c.1,c.2.1)
def ot(c:Ln)(p:Pt):Int:= -fS (sqA p (ctr c)-c.2.2) (sqB p (ctr c)) p.2.2.2.2
def mp(l:Ln)(v:Rat×Rat):Rat:=(l.1*v.1+l.2.1*v.2-l.2.2)/(l.1*l.1+l.2.1*l.2.1)
def eT(l:Ln)(v:Rat×Rat):Rat×Rat:=(v.1-mp l v*l.1,v.2-mp l v*l.2.1)
section
variable {l:Ln} {p:Pt} {v:Rat×Rat} {i j k:Nat}
instance aeT [h:Bd l i]:Bd (ctr l) (mx i i):=inferInstanceAs (Bd ((l.1,l.2.1):Rat×Rat) _)
instance aec [h:Bd l i] [h':Bd p j]:Bd (ob l p) ((i+j)+(i+j)+1+i+1):=inferInstanceAs (Bd (l.1*p.1+l.2.1*p.2.2.1-l.2.2) _)
instance aef [h:Bd l i] [h':Bd p j]:Bd (oa l p) ((i+j)+(i+j)+1):=inferInstanceAs (Bd (l.1*p.2.1+l.2.1*p.2.2.2.1) _)
instance aeh [h:Bd l i] [h':Bd v k]:Bd (mp l v) (((i+k)+(i+k)+1+i+1)+((i+i)+(i+i)+1)):=inferInstanceAs (Bd ((l.1*v.1+l.2.1*v.2-l.2.2)/(l.1*l.1+l.2.1*l.2.1)) _)
instance Y9 [h:Bd l i] [h':Bd v k]:Bd (eT l v) (8*i+3*k+4):=by
 have i1:Bd (v.1-mp l v*l.1) _:=inferInstance
 have i2:Bd (v.2-mp l v*l.2.1) _:=inferInstance
 have i3:Bd ((v.1-mp l v*l.1,v.2-mp l v*l.2.1):Rat×Rat) _:=inferInstance
 exact i3.mono (eI (by omega) (by omega))
end
theorem lZ{a b:Rat}(h:a≠0∨b≠0):a*a+b*b≠0:=by
 have ha:0≤a*a:=by
  rcases(by grind:0≤a∨0≤ -a)with h|h
  ·exact agm h h
  ·have:=agm h h;grind
 have hb:0≤b*b:=by
  rcases(by grind:0≤b∨0≤ -b)with h|h
  ·exact agm h h
  ·have:=agm h h;grind
 intro e
 have e1:a*a=0:=by grind
 have e2:b*b=0:=by grind
 rcases h with h|h
 ·exact h (by rcases aiA.1 e1 with h|h<;>exact h)
 ·exact h (by rcases aiA.1 e2 with h|h<;>exact h)
namespace RE
theorem VZ(a b x s y t c r:RE):a*(x+s*r)+b*(y+t*r)+ -c=a*x+b*y-c+(a*s+b*t)*r:=by grind
theorem ads(a b q r:RE):a+b*r+ -q=a-q+b*r:=by grind
theorem LJ(a b:RE):a+ -b=a-b:=rfl
theorem zH(l:Ln){p:Pt}[h:Rpd p]:p6 l p=sg (of l.1*pX p+of l.2.1*pY p+ -of l.2.2):=by
 unfold p6 pX pY
 rw[sgn2_re h.nn]
 unfold v2
 rw[VZ]
 unfold ob oa
 simp only[of_add,of_sub,aS]
theorem zv(c:Ln){p:Pt}[h:Rpd p]:ot c p= -sg ((pX p-of c.1)*(pX p-of c.1)+(pY p-of c.2.1)*(pY p-of c.2.1)+ -of c.2.2):=by
 unfold ot
 have e:=Dg (p:=p) (v:=ctr c)
 unfold sqP at e
 rw[vR_co]at e
 rw[sgn2_re h.nn]
 unfold v2 at e ⊢
 rw[of_sub,←ads,e]
 rfl
theorem sidL_ok(l:Ln){p:Pt}[Rpd p](h:(vL l p).2=true):(vL l p).1=p6 l p:=by
 rw[Qc h,zH]
 try rfl
theorem insC_ok(c:Ln){p:Pt}[Rpd p](h:(rh c p).2=true): -(rh c p).1=ot c p:=by
 rw[P0 h,zv]
 simp only[LJ]
 try rfl
end RE
end
def iQ(r s:Rt):Rat:=bif decide (r.2.1=0)then s.2.2 else r.2.2
def pk(r s:Rt):Bool:=decide (r.2.1=0)||(decide (s.2.1=0)||decide (r.2.2=s.2.2))
def mg(r s:Rt):Rt:=kQ (r.1*s.1+r.2.1*s.2.1*iQ r s) (r.1*s.2.1+r.2.1*s.1) (iQ r s)
def wd(r s:Rt):Rt:=kQ (r.1+s.1) (r.2.1+s.2.1) (iQ r s)
def arT(r:Rt)(a:Rat):Rt:=(r.1+a,r.2.1,r.2.2)
theorem aU(a b:Rat):(aC a b !=0)=!decide (a=b):=by
 unfold bne
 rw[am]
instance aeA {r s:Rt} {i j:Nat} [h:Bd r i] [h':Bd s j]:Bd (iQ r s) (mx j i):=inferInstanceAs (Bd (bif decide (r.2.1=0)then s.2.2 else r.2.2) _)
instance ad9 {a b c:Rat} {i j k:Nat} [ha:Bd a i] [hb:Bd b j] [hc:Bd c k]:Bd (kQ a b c) (mx i (mx j k)):=by
 have h1:=z7 i (mx j k)
 have h2:=zZ i (mx j k)
 have h3:=z7 j k
 have h4:=zZ j k
 have h5:=lH ha.le
 have z:bdR (mx i (mx j k)) 0:=a9 ki.le (by omega)
 refine⟨?_⟩
 unfold kQ
 cases decide (b=0)
 ·cases decide (c=0)
  ·exact⟨a9 ha.le (by omega),a9 hb.le (by omega),a9 hc.le (by omega)⟩
  ·exact⟨a9 ha.le (by omega),z,z⟩
 ·exact⟨a9 ha.le (by omega),z,z⟩
theorem G5(r:Rt):pk r r=true:=by
 unfold pk
 rw[afZ (rfl:r.2.2=r.2.2)]
 simp
theorem E3{p:Pt}{v:Rat×Rat}(h:Rpd p):pk (mg (xP (trP p (bkV v))) (xP (trP p (bkV v)))) (mg (yP (trP p (bkV v))) (yP (trP p (bkV v))))=true∧wd (mg (xP (trP p (bkV v))) (xP (trP p (bkV v)))) (mg (yP (trP p (bkV v))) (yP (trP p (bkV v))))=sqP p v:=by
 obtain⟨ax,bx,ay,b_,c⟩:=p
 have hr:=h.rd
 unfold Cg at hr
 simp only at hr
 unfold sqP sqA sqB xP yP trP bkV
 simp only
 rw[show ax+ -v.1=ax-v.1 by grind,show ay+ -v.2=ay-v.2 by grind]
 generalize ax-v.1=x
 generalize ay-v.2=y
 rcases hr with⟨rfl,rfl,rfl⟩|⟨h1,h2,h3⟩
 ·have e0:∀a:Rat,coR a 0 0=(a,0,0):=fun a=>rfl
  have e1:∀a:Rat,mg (a,0,0) (a,0,0)=(a*a,0,0):=fun a=>by
   unfold mg iQ kQ
   simp
   grind
  rw[e0,e0,e1,e1]
  refine⟨rfl,?_⟩
  rw[show x*0+y*0+(x*0+y*0)=(0:Rat) by grind]
  unfold wd iQ kQ coR
  simp
  grind
 ·have hc:c≠0:=by grind
  have dc:decide (c=0)=false:=af1 hc
  have sq0:∀a:Rat,mg (coR a 0 c) (coR a 0 c)=(a*a,0,0):=fun a=>by
   unfold coR
   rw[afZ rfl]
   unfold mg iQ kQ
   simp
   grind
  have sq1:∀a b:Rat,b≠0→mg (coR a b c) (coR a b c)=coR (a*a+b*b*c) (a*b+b*a) c:=fun a b hb=>by
   have e:coR a b c=(a,b,c):=by unfold coR;rw[af1 hb];rfl
   rw[e]
   unfold mg iQ kQ coR
   simp only[af1 hb,cond_false,dc]
  have cR:∀a b:Rat,kQ a b c=coR a b c:=fun a b=>by unfold kQ coR;rw[dc];rfl
  have ad:∀a b d e:Rat,pk (coR a b c) (coR d e c)=true∧(b≠0∨e≠0→wd (coR a b c) (coR d e c)=coR (a+d) (b+e) c)∧(b=0→e=0→wd (coR a b c) (coR d e c)=(a+d,0,0)):=fun a b d e=>by
   by_cases hb:b=0
   ·subst hb
    by_cases he:e=0
    ·subst he
     refine⟨rfl,fun h=>by simp at h,fun _ _=>?_⟩
     unfold coR wd iQ kQ
     simp
    ·refine⟨rfl,fun _=>?_,fun _ h=>absurd h he⟩
     have e1:coR a 0 c=(a,0,0):=rfl
     have e2:coR d e c=(d,e,c):=by unfold coR;rw[af1 he];rfl
     rw[e1,e2]
     show kQ (a+d) (0+e) c=_
     rw[cR]
   ·have e1:coR a b c=(a,b,c):=by unfold coR;rw[af1 hb];rfl
    by_cases he:e=0
    ·subst he
     have e2:coR d 0 c=(d,0,0):=rfl
     refine⟨by rw[e1,e2];simp[pk],fun _=>?_,fun h=>absurd h hb⟩
     rw[e1,e2]
     unfold wd iQ
     simp only[af1 hb,cond_false]
     rw[cR]
    ·have e2:coR d e c=(d,e,c):=by unfold coR;rw[af1 he];rfl
     refine⟨by rw[e1,e2];simp[pk],fun _=>?_,fun h=>absurd h hb⟩
     rw[e1,e2]
     unfold wd iQ
     simp only[af1 hb,cond_false]
     rw[cR]
  have c0:∀a:Rat,((a,0,0):Rt)=coR a 0 c:=fun a=>rfl
  by_cases hx:bx=0
  ·subst hx
   have hy:b_≠0:=fun e=>h1 ⟨rfl,e⟩
   rw[sq0,sq1 _ _ hy,c0]
   obtain⟨g1,g2,g3⟩:=ad (x*x) 0 (y*y+b_*b_*c) (y*b_+b_*y)
   refine⟨g1,?_⟩
   by_cases he:y*b_+b_*y=0
   ·rw[g3 rfl he,show x*0+y*b_+(x*0+y*b_)=0 by grind]
    show _=coR _ 0 c
    rw[←c0]
    congr 1
    grind
   ·rw[g2 (.inr he)]
    congr 1<;>grind
  ·by_cases hy:b_=0
   ·subst hy
    rw[sq0,sq1 _ _ hx,c0]
    obtain⟨g1,g2,g3⟩:=ad (x*x+bx*bx*c) (x*bx+bx*x) (y*y) 0
    refine⟨g1,?_⟩
    by_cases he:x*bx+bx*x=0
    ·rw[g3 he rfl,show x*bx+y*0+(x*bx+y*0)=0 by grind]
     show _=coR _ 0 c
     rw[←c0]
     congr 1
     grind
    ·rw[g2 (.inl he)]
     congr 1<;>grind
   ·rw[sq1 _ _ hx,sq1 _ _ hy]
    obtain⟨g1,g2,g3⟩:=ad (x*x+bx*bx*c) (x*bx+bx*x) (y*y+b_*b_*c) (y*b_+b_*y)
    refine⟨g1,?_⟩
    by_cases h0:x*bx+bx*x=0∧y*b_+b_*y=0
    ·rw[g3 h0.1 h0.2,show x*bx+y*b_+(x*bx+y*b_)=0 by grind]
     show _=coR _ 0 c
     rw[←c0]
     congr 1
     grind
    ·rw[g2 (by by_cases e:x*bx+bx*x=0;exact .inr (fun e'=>h0 ⟨e,e'⟩);exact .inl e)]
     congr 1<;>grind
theorem Rpd.com{p:Pt}{v:Rat×Rat}(h:Rpd p):pk (mg (xP (trP p (bkV v))) (xP (trP p (bkV v)))) (mg (yP (trP p (bkV v))) (yP (trP p (bkV v))))=true:=(E3 h).1
instance ad8 {r s:Rt} {i j:Nat} [h:Bd r i] [h':Bd s j]:Bd (mg r s) (2*(i+j)+(mx j i)+1):=by
 have m:Bd (iQ r s) (mx j i):=inferInstance
 have a1:Bd (r.1*s.1+r.2.1*s.2.1*iQ r s) _:=inferInstance
 have a2:Bd (r.1*s.2.1+r.2.1*s.1) _:=inferInstance
 have i1:Bd (kQ (r.1*s.1+r.2.1*s.2.1*iQ r s) (r.1*s.2.1+r.2.1*s.1) (iQ r s)) _:=inferInstance
 exact i1.mono (eI (by omega) (eI (by omega) (by omega)))
instance aei {r s:Rt} {i j:Nat} [h:Bd r i] [h':Bd s j]:Bd (wd r s) (i+j+1):=by
 have i1:Bd (kQ (r.1+s.1) (r.2.1+s.2.1) (iQ r s)) _:=inferInstance
 exact i1.mono (eI (by omega) (eI (by omega) (eI (by omega) (by omega))))
instance aew {r:Rt} {a:Rat} {i j:Nat} [h:Bd r i] [h':Bd a j]:Bd (arT r a) (i+j+1):=by
 have i1:Bd ((r.1+a,r.2.1,r.2.2):Rt) _:=inferInstance
 exact i1.mono (eI (by omega) (eI (by omega) (by omega)))
def xi:List En:=[enT lS,enL mE,enL oZ,enL pi,enT pg,enL sH,enL HE,enL Jf,enL LS,enT Ht,enT Kg]
def Ls(r s:BO3)(_k:KT):Option (List RV):=og (o1 r.2.1) (match(aC (ah r.2.1) 0)==0 with|true=>some [RV.d tR s.2.2,RV.d .bool true]|false=>(og (o1 s.2.1) (match(aC (ah s.2.1) 0)==0 with|true=>some [RV.d tR r.2.2,RV.d .bool true]|false=>(og (o2 r.2.2 s.2.2) (some [RV.d tR r.2.2,RV.d .bool ((aC (ah r.2.2) (ah s.2.2))==0)])))))
def Vz:Cn 312 [tO,tO]:=cn fun(r s:BO3)=>lf (ok Rt 100000 r∧ok Rt 100000 s) [.d tR (aq (iQ (dec r) (dec s))),.d .bool (pk (dec r) (dec s))] fun h=>by
 refine az xi (Ls r s) ⟨0,?_⟩
 obtain⟨hr,hs⟩:=h
 obtain⟨r,rfl,br⟩:=aB hr
 obtain⟨s,rfl,bs⟩:=aB hs
 unfold Ls
 simp only[aO,Nat.reduceLeDiff,am]
 unfold iQ pk
 cases decide (r.2.1=0)<;>cases decide (s.2.1=0)<;>rfl
def Mt(r:BO3)(a:BR)(_k:KT):Option (List RV):=og (o2 r.1 a) (some [RV.d tO (hAd r.1 a,r.2)])
def N9:Cn 349 [tO,tR]:=cn fun(r:BO3) (a:BR)=>lf (ok Rt 100000 r∧ok Rat 100000 a) [.d tO (enc (arT (dec r) (ah a)))] fun h=>by
 refine az xi (Mt r a) ⟨0,?_⟩
 obtain⟨hr,ha⟩:=h
 obtain⟨r,rfl,br⟩:=aB hr
 obtain⟨a,rfl,ba⟩:=aB ha
 unfold Mt
 simp only[aO,Nat.reduceLeDiff]
 rfl
def K9(_k:KT):Option (List RV):=og (decide (aF (0:Int))) (some [RV.d tR (hid (aq ((0:Int):Rat)))])
def Xn:Cn 239 []:=cn<|lf True [.d tR (aq 0)] fun _=>by
 refine az xi (K9) ⟨0,?_⟩
 unfold K9
 rw[dT (show aF 0 by decide)]
 simp only[aX]
 rfl
def KC(p:BP)(v:BV)(_k:KT):Option (List RV):=og (o2 p.1 v.1) (og (o2 p.2.2.1 v.2) (some [RV.d tP (hAd p.1 v.1,(p.2.1,(hAd p.2.2.1 v.2,p.2.2.2)))]))
def VT:Cn 52 [tP,tV]:=cn fun(p:BP) (v:BV)=>lf (ok Pt 21000 p∧ok (Rat×Rat) 1000 v) [.d tP (enc (trP (dec p) (dec v)))] fun h=>by
 refine az xi (KC p v) ⟨0,?_⟩
 obtain⟨hp,hv⟩:=h
 obtain⟨p,rfl,bp⟩:=aB hp
 obtain⟨v,rfl,bv⟩:=aB hv
 unfold KC
 simp only[aO,Nat.reduceLeDiff]
 rfl
def Ip(v:BV)(_k:KT):Option (List RV):=og (o1 v.1) (og (o1 v.2) (some [RV.d tV (hNe v.1,hNe v.2)]))
def Wt:Cn 235 [tV]:=cn fun(v:BV)=>lf (ok (Rat×Rat) 21000 v) [.d tV (enc (bkV (dec v)))] fun h=>by
 refine az xi (Ip v) ⟨0,?_⟩
 have hv:=h
 obtain⟨v,rfl,bv⟩:=aB hv
 unfold Ip
 simp only[aO,Nat.reduceLeDiff]
 rfl
def Ke:List En:=enL Vz::enL N9::enL Xn::enL VT::enL Wt::xi
def Ir(r s:BO3)(_k:KT):Option (List RV):=og (decide (ok Rt 100000 r∧ok Rt 100000 s)) (match !(pk (dec r) (dec s))with|true=>some [RV.d tO (((false,[]),(false,[])),(((false,[]),(false,[])),((false,[]),(false,[])))),RV.d ai2 1]|false=>(og (o2 r.1 s.1) (og (o2 r.2.1 s.2.1) (og (o2 (hMu r.2.1 s.2.1) (hid (aq (iQ (dec r) (dec s))))) (og (o2 (hMu r.1 s.1) (hMu (hMu r.2.1 s.2.1) (hid (aq (iQ (dec r) (dec s)))))) (og (o2 r.1 s.2.1) (og (o2 r.2.1 s.1) (og (o2 (hMu r.1 s.2.1) (hMu r.2.1 s.1)) (og (decide (okR (hAd (hMu r.1 s.1) (hMu (hMu r.2.1 s.2.1) (hid (aq (iQ (dec r) (dec s))))))∧okR (hAd (hMu r.1 s.2.1) (hMu r.2.1 s.1))∧okR (hid (aq (iQ (dec r) (dec s)))))) (some [RV.d tO (hid (enc (kQ (ah (hAd (hMu r.1 s.1) (hMu (hMu r.2.1 s.2.1) (hid (aq (iQ (dec r) (dec s))))))) (ah (hAd (hMu r.1 s.2.1) (hMu r.2.1 s.1))) (ah (hid (aq (iQ (dec r) (dec s)))))))),RV.d ai2 0]))))))))))
def Wi:Cn 237 [tO,tO]:=cn fun(r s:BO3)=>lf (ok Rt 50000 r∧ok Rt 50000 s∧pk (dec r) (dec s)=true) [.d tO (enc (mg (dec r) (dec s))),.d ai2 0] fun h=>by
 refine az Ke (Ir r s) ⟨0,?_⟩
 obtain⟨hr,hs,htrue⟩:=h
 obtain⟨r,rfl,br⟩:=aB hr
 obtain⟨s,rfl,bs⟩:=aB hs
 have hm:=htrue
 rw[aA,aA]at hm
 unfold Ir
 simp only[aO,Nat.reduceAdd,Nat.reduceLeDiff,hm,Bool.not_true]
 rfl
def LN(r s:BO3)(_k:KT):Option (List RV):=og (decide (ok Rt 100000 r∧ok Rt 100000 s)) (match !(pk (dec r) (dec s))with|true=>some [RV.d tO (((false,[]),(false,[])),(((false,[]),(false,[])),((false,[]),(false,[])))),RV.d ai2 1]|false=>(og (o2 r.1 s.1) (og (o2 r.2.1 s.2.1) (og (decide (okR (hAd r.1 s.1)∧okR (hAd r.2.1 s.2.1)∧okR (hid (aq (iQ (dec r) (dec s)))))) (some [RV.d tO (hid (enc (kQ (ah (hAd r.1 s.1)) (ah (hAd r.2.1 s.2.1)) (ah (hid (aq (iQ (dec r) (dec s)))))))),RV.d ai2 0])))))
def W8:Cn 241 [tO,tO]:=cn fun(r s:BO3)=>lf (ok Rt 100000 r∧ok Rt 100000 s∧pk (dec r) (dec s)=true) [.d tO (enc (wd (dec r) (dec s))),.d ai2 0] fun h=>by
 refine az Ke (LN r s) ⟨0,?_⟩
 obtain⟨hr,hs,htrue⟩:=h
 obtain⟨r,rfl,br⟩:=aB hr
 obtain⟨s,rfl,bs⟩:=aB hs
 have hm:=htrue
 rw[aA,aA]at hm
 unfold LN
 simp only[aO,Nat.reduceAdd,Nat.reduceLeDiff,hm,Bool.not_true]
 rfl
def Be:List En:=enL Wi::enL W8::Ke
def Og(r:BO3)(_k:KT):Option (List RV):=og (decide (ok Rt 50000 r∧ok Rt 50000 r∧pk (dec r) (dec r)=true)) (some [RV.d tO (hid (enc (mg (dec r) (dec r))))])
def YM:Cn 123 [tO]:=cn fun(r:BO3)=>lf (ok Rt 50000 r) [.d tO (enc (mg (dec r) (dec r)))] fun h=>by
 refine az Be (Og r) ⟨0,?_⟩
 have hr:=h
 obtain⟨r,rfl,br⟩:=aB hr
 unfold Og
 simp only[aO,Nat.reduceLeDiff,G5]
def Ij(v:BV)(_k:KT):Option (List RV):=some [RV.d tP (v.1,(hid (aq 0),(v.2,(hid (aq 0),hid (aq 0)))))]
def Cy:Cn 127 [tV]:=cn fun(v:BV)=>lf (ok (Rat×Rat) 100000 v) [.d tP (enc (atP (dec v)))] fun h=>by
 refine az Be (Ij v) ⟨0,?_⟩
 have hv:=h
 obtain⟨v,rfl,bv⟩:=aB hv
 unfold Ij
 simp only[aO]
 try rfl
def Hu(a b c d e:BR)(_k:KT):Option (List RV):=og (o1 b) (match(aC (ah b) 0)==0 with|true=>(og (o1 d) (match(aC (ah d) 0)==0 with|true=>some [RV.d tP (a,(b,(c,(d,hid (aq 0)))))]|false=>some [RV.d tP (a,(b,(c,(d,e))))]))|false=>some [RV.d tP (a,(b,(c,(d,e))))])
def XA:Cn 346 [tR,tR,tR,tR,tR]:=cn fun(a b c d e:BR)=>lf (okR a∧okR b∧okR c∧okR d∧okR e) [.d tP (enc (rdP (ah a,ah b,ah c,ah d,ah e)))] fun h=>by
 refine az Be (Hu a b c d e) ⟨0,?_⟩
 obtain⟨ha,hb,hc,hd,he⟩:=h
 obtain⟨a,rfl,ba⟩:=eu ha
 obtain⟨b,rfl,bb⟩:=eu hb
 obtain⟨c,rfl,bc⟩:=eu hc
 obtain⟨d,rfl,bd⟩:=eu hd
 obtain⟨e,rfl,be⟩:=eu he
 unfold Hu
 simp only[aO,Nat.reduceLeDiff,am]
 unfold rdP
 by_cases h1:b=0
 ·by_cases h2:d=0
  ·rw[afZ h1,afZ h2];rfl
  ·rw[afZ h1,af1 h2];rfl
 ·rw[af1 h1];rfl
def JP(a b c:BR)(_k:KT):Option (List RV):=og (o1 b) (match(aC (ah b) 0)==0 with|true=>(og (o1 a) (some [RV.d tO (hid (enc ((ah a,0,0):Rt)))]))|false=>some [RV.d tO (a,(b,c))])
def XR:Cn 260 [tR,tR,tR]:=cn fun(a b c:BR)=>lf (okR a∧okR b∧okR c) [.d tO (enc (coR (ah a) (ah b) (ah c)))] fun h=>by
 refine az Be (JP a b c) ⟨0,?_⟩
 obtain⟨ha,hb,hc⟩:=h
 obtain⟨a,rfl,ba⟩:=eu ha
 obtain⟨b,rfl,bb⟩:=eu hb
 obtain⟨c,rfl,bc⟩:=eu hc
 unfold JP
 simp only[aO,aD,Nat.reduceLeDiff,am]
 unfold coR
 by_cases e:b=0
 ·subst e;rw[afZ rfl];rfl
 ·rw[af1 e];rfl
def FL:List En:=enL YM::enL Cy::enL XA::enL XR::Be
def JG(x y:BO3)(_k:KT):Option (List RV):=let y1:=aC (ah x.2.1) 0;let y2:Option (List RV):=match decide (okR x.2.1)with|true=>(match y1==0 with|true=>(og (decide (okR x.1∧okR x.2.1∧okR y.1∧okR y.2.1∧okR y.2.2)) (some [RV.d tP (hid (enc (rdP (ah x.1,ah x.2.1,ah y.1,ah y.2.1,ah y.2.2)))),RV.d ai2 0]))|false=>(og (decide (okR x.1∧okR x.2.1∧okR y.1∧okR y.2.1∧okR x.2.2)) (some [RV.d tP (hid (enc (rdP (ah x.1,ah x.2.1,ah y.1,ah y.2.1,ah x.2.2)))),RV.d ai2 0])))|false=>none;og (o1 x.2.1) (match y1 !=0 with|true=>(og (o1 y.2.1) (match(aC (ah y.2.1) 0) !=0 with|true=>(og (o2 x.2.2 y.2.2) (match(aC (ah x.2.2) (ah y.2.2)) !=0 with|true=>some [RV.d tP (((false,[]),(false,[])),(((false,[]),(false,[])),(((false,[]),(false,[])),(((false,[]),(false,[])),((false,[]),(false,[])))))),RV.d ai2 1]|false=>y2))|false=>y2))|false=>y2)
def YT:Cn 315 [tO,tO]:=cn fun(x y:BO3)=>lf (okT 15000 x∧okT 15000 y∧sR (dec x) (dec y)) [.d tP (enc (mkP (dec x) (dec y))),.d ai2 0] fun h=>by
 refine az FL (JG x y) ⟨0,?_⟩
 obtain⟨hx,hy,hy_2⟩:=h
 obtain⟨x,rfl,bx,rx⟩:=fN hx
 obtain⟨y,rfl,b_y,ry⟩:=fN hy
 have hm:=hy_2
 rw[aA,aA]at hm
 unfold JG
 simp only[aO,Nat.reduceLeDiff,am,aU]
 unfold mkP
 by_cases e1:x.2.1=0
 ·rw[afZ e1];rfl
 ·rw[af1 e1]
  by_cases e2:y.2.1=0
  ·rw[afZ e2];rfl
  ·rw[af1 e2,afZ ((hm.resolve_left e1).resolve_left e2)];rfl
def Vk(p:BP)(_k:KT):Option (List RV):=og (decide (okR p.1∧okR p.2.1∧okR p.2.2.2.2)) (some [RV.d tO (hid (enc (coR (ah p.1) (ah p.2.1) (ah p.2.2.2.2))))])
def Vu:Cn 151 [tP]:=cn fun(p:BP)=>lf (okP 4000 p) [.d tO (enc (xP (dec p)))] fun h=>by
 refine az FL (Vk p) ⟨0,?_⟩
 have hp:=h
 obtain⟨p,rfl,bp,rp⟩:=bG hp
 unfold Vk
 simp only[aO,Nat.reduceLeDiff]
 try rfl
def Rk(p:BP)(_k:KT):Option (List RV):=og (decide (okR p.2.2.1∧okR p.2.2.2.1∧okR p.2.2.2.2)) (some [RV.d tO (hid (enc (coR (ah p.2.2.1) (ah p.2.2.2.1) (ah p.2.2.2.2))))])
def UJ:Cn 152 [tP]:=cn fun(p:BP)=>lf (okP 4000 p) [.d tO (enc (yP (dec p)))] fun h=>by
 refine az FL (Rk p) ⟨0,?_⟩
 have hp:=h
 obtain⟨p,rfl,bp,rp⟩:=bG hp
 unfold Rk
 simp only[aO,Nat.reduceLeDiff]
 try rfl
def Tr:List En:=enL Vu::enL UJ::FL
def Mm(p q:BP)(_k:KT):Option (List RV):=og (decide (okP 4000 p)) (og (decide (okP 4000 q)) (og (decide (okT 15000 (hid (enc (xP (dec p))))∧okT 15000 (hid (enc (xP (dec q)))))) (match(bI (dec (hid (enc (xP (dec p))))) (dec (hid (enc (xP (dec q)))))) !=0 with|true=>some [RV.d ai2 (bI (dec (hid (enc (xP (dec p))))) (dec (hid (enc (xP (dec q))))))]|false=>(og (decide (okP 4000 p)) (og (decide (okP 4000 q)) (og (decide (okT 15000 (hid (enc (yP (dec p))))∧okT 15000 (hid (enc (yP (dec q)))))) (some [RV.d ai2 (bI (dec (hid (enc (yP (dec p))))) (dec (hid (enc (yP (dec q))))))])))))))
def yN:Cn 60 [tP,tP]:=cn fun(p q:BP)=>lf (okP 4000 p∧okP 4000 q) [.d ai2 (bZ (dec p) (dec q))] fun h=>by
 refine az Tr (Mm p q) ⟨0,?_⟩
 obtain⟨hp,hq⟩:=h
 obtain⟨p,rfl,bp,rp⟩:=bG hp
 obtain⟨q,rfl,bq,rq⟩:=bG hq
 unfold Mm
 simp only[aO,Nat.reduceLeDiff,aH,aI]
 unfold bZ bne
 cases bI (xP p) (xP q)==0<;>rfl
def SZ:List En:=enL YT::enT yN::Tr
def Ib(p q:BP)(_k:KT):Option (List RV):=og (decide (okP 4000 p∧okP 4000 q)) (some [RV.d .bool ((bZ (dec p) (dec q))==0)])
def D0:Cn 126 [tP,tP]:=cn fun(p q:BP)=>lf (okP 4000 p∧okP 4000 q) [.d .bool (bZ (dec p) (dec q)==0)] fun h=>by
 refine az SZ (Ib p q) ⟨0,?_⟩
 unfold Ib
 rw[dT h]
def HN(p:BP)(v:BV)(_k:KT):Option (List RV):=let y1:=hid (enc (bkV (dec v)));let y2:=hid (enc (trP (dec p) (dec y1)));let y3:=hid (enc (xP (dec y2)));let y4:=hid (enc (yP (dec y2)));let y5:=hid (enc (mg (dec y3) (dec y3)));let y6:=hid (enc (mg (dec y4) (dec y4)));og (decide (ok (Rat×Rat) 21000 v)) (og (decide (ok Pt 21000 p∧ok (Rat×Rat) 1000 y1)) (og (decide (okP 4000 y2)) (og (decide (ok Rt 50000 y3)) (og (decide (okP 4000 y2)) (og (decide (ok Rt 50000 y4)) (og (decide (ok Rt 100000 y5∧ok Rt 100000 y6∧pk (dec y5) (dec y6)=true)) (some [RV.d tO (hid (enc (wd (dec y5) (dec y6))))])))))))
def YL:Cn 129 [tP,tV]:=cn fun(p:BP) (v:BV)=>lf (okP 3500 p∧ok (Rat×Rat) 300 v) [.d tO (enc (sqP (dec p) (dec v)))] fun h=>by
 refine az SZ (HN p v) ⟨0,?_⟩
 obtain⟨hp,hv⟩:=h
 obtain⟨p,rfl,bp,rp⟩:=bG hp
 obtain⟨v,rfl,bv⟩:=aB hv
 obtain⟨e1,e2⟩:=E3 (v:=v) rp
 unfold HN
 simp only[aO,Nat.reduceAdd,Nat.reduceMul,Nat.reduceLeDiff,aI,e1]
 rw[e2]
end Go.Proofs.YtnkndpoojnflmaaGreat
end
