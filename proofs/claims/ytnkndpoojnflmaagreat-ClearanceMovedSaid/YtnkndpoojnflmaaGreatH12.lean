/- Intervals: the contracts of products, roots and sides. -/
import Derived.Test.YtnkndpoojnflmaaGreatH11
import Derived.Test.YtnkndpoojnflmaaGreatH1
import Derived.Lib.LazyBuf
import Derived.Test.YtnkndpoojnflmaaGreatH6
import Derived.Test.YtnkndpoojnflmaaGreatH10
noncomputable section
namespace Go.Proofs.YtnkndpoojnflmaaGreat
open Go.RowKit Go.IntKind
theorem anX:type_of% @Rat.mul_eq_zero:=@Rat.mul_eq_zero
theorem Lt{z:Int}(h:aH z):okI (ai z):=aU (by have:=j9 h;omega)
theorem Hu{n:Int}(h:CT n):0≤eE n∧eE n≤2305843009213693952:=by
 obtain⟨h0,h1⟩:=h
 unfold eE
 obtain⟨g0,g1,g2⟩:=fU (z:=n*65536) (by omega)
 refine⟨g0,?_⟩
 rcases amd 2305843009213693952 (bK (n*65536))with h|h
 ·have:2305843009213693952*2305843009213693952≤bK (n*65536)*bK (n*65536):=anQ (by omega) (by omega) (by omega) (by omega)
  omega
 ·exact h
theorem Q5{a b:Iv}(ha:prI a)(hb:prI b){x y:Int}(hx:x=a.1∨x=a.2)(hy:y=b.1∨y=b.2):scP x y:=by
 obtain⟨a1,a2,a3⟩:=ha
 obtain⟨b1,b2,b3⟩:=hb
 constructor
 ·rcases hx with rfl|rfl<;>omega
 ·rcases hy with rfl|rfl<;>omega
theorem ajb{α:Type}(b:Bool)(x y:α):(match b with|true=>x|false=>y)=bif b then x else y:=by cases b<;>rfl
def K8:ef:=spN false true [aoX] (fun x=>decide (aH x.1)) (fun x=>[RV.d tI (hid (ai x.1))])
theorem M4:SpK 210 K8:=spX fun x h=>by simp only[bO];exact HP x.1 (alI h)
def It:List En:=[⟨99,iA,eW⟩,⟨108,gO,eM⟩,⟨109,kG,gD⟩,enL Sd,enT ZL,⟨216,Fx,CM⟩,⟨41,fC,dQ⟩,⟨173,GF,Cy⟩,enL Zz,⟨172,Fb,Dh⟩,⟨210,K8,M4⟩,enL OF,enL PV,enL Qg,enL Pc,enA OS,enA MU,enL YN]
def aaA:NT:=[((334,8),{keep:=[3,4,6,7,19,20,21],hl:=4}),((334,22),{keep:=[3,4,6,7,9,19,20,21,29,30,31],hl:=5})]
def pg:Ctx:=CX (ens It) aaA
def rA(a b:(Int×Int))(s21 s6 s7:Int):Cfg:=⟨334,[.blk 0,.seq 46],[(3,.box 1 0),(4,.box 2 0),(6,SI s6),(7,SI s7),(19,.own 3),(20,SI (([a.1,a.2]).length:Int)),(21,SI s21)],[.box 259 [SI a.1,SI a.2],.box 259 [SI b.1,SI b.2],.box 259 [SI 0,SI 0],.row 2 aoX ([a.1,a.2])],0,[]⟩
def pV(a b:(Int×Int))(s21 x1 s6 s7 s31:Int):Cfg:=⟨334,[.blk 2,.blk 1,.seq 45,.lp 8,.blk 0,.seq 46],[(3,.box 1 0),(4,.box 2 0),(6,SI s6),(7,SI s7),(9,SI x1),(19,.own 3),(20,SI (([a.1,a.2]).length:Int)),(21,SI s21),(29,.own 4),(30,SI (([b.1,b.2]).length:Int)),(31,SI s31)],[.box 259 [SI a.1,SI a.2],.box 259 [SI b.1,SI b.2],.box 259 [SI 0,SI 0],.row 2 aoX ([a.1,a.2]),.row 2 aoX ([b.1,b.2])],0,[]⟩
def afk(a b:(Int×Int))(k:KT):Option (List RV):=k 8 (rA a b 0 2305843009213693952 (-2305843009213693952))
theorem aiX(a b:(Int×Int)):RS pg 334 [.d tG a,.d tG b] (afk a b):=rsX
def xZ(a b:(Int×Int))(s21 s6 s7:Int)(k:KT):Option (List RV):=match decide (s21<(([a.1,a.2]).length:Int))with|true=>(match aR ([a.1,a.2]) s21 with|some _=>(match true,([a.1,a.2])[(s21).toNat]? with|true,some x1=>k 22 (pV a b s21 x1 s6 s7 0)|_,_=>none)|none=>none)|false=>some [RV.d tG (s6,s7),RV.d .bool true]
theorem CN(a b:(Int×Int))(s21 s6 s7:Int):RN pg 8 (rA a b s21 s6 s7) (xZ a b s21 s6 s7):=rnX
def qv(a b:(Int×Int))(s21 x1 s6 s7 s31:Int)(k:KT):Option (List RV):=match decide (s31<(([b.1,b.2]).length:Int))with|true=>(match aR ([b.1,b.2]) s31 with|some _=>(match true,([b.1,b.2])[(s31).toNat]? with|true,some x2=>(og (decide (scP x1 x2)) (match !((scF x1 x2).2)with|true=>some [RV.d tG (0,0),RV.d .bool false]|false=>k 22 (pV a b s21 x1 (if(scF x1 x2).1.1<s6 then(scF x1 x2).1.1 else s6) (if(scF x1 x2).1.2>s7 then(scF x1 x2).1.2 else s7) (i64.wrap (s31+1)))))|_,_=>none)|none=>none)|false=>k 8 (rA a b (i64.wrap (s21+1)) s6 s7)
theorem um(a b:(Int×Int))(s21 x1 s6 s7 s31:Int):RN pg 22 (pV a b s21 x1 s6 s7 s31) (qv a b s21 x1 s6 s7 s31):=rnX
theorem RC(a b:Iv)(ha:prI a)(hb:prI b)(s21 x:Int)(hx:x=a.1∨x=a.2)(s:Iv)(r:List RV)(h:∀s2:Iv×Bool,s2=iy (iy (s,true) x b.1) x b.2→bif s2.2 then pg.Runs 8 (rA a b (i64.wrap (s21+1)) s2.1.1 s2.1.2) r else r=[RV.d tG (0,0),RV.d .bool false]):
  pg.Runs 22 (pV a b s21 x s.1 s.2 0) r:=by
 have h:=h _ rfl
 refine um _ _ _ _ _ _ _ ?_
 unfold qv
 have g1:decide ((0:Int)<(([b.1,b.2]).length:Int))=true:=by simp
 have g2:decide ((1:Int)<(([b.1,b.2]).length:Int))=true:=by simp
 have g3:decide ((2:Int)<(([b.1,b.2]).length:Int))=false:=by simp
 rw[g1]
 simp only[show aR [b.1,b.2] 0=some b.1 from rfl,show [b.1,b.2][(0:Int).toNat]?=some b.1 from rfl,dT (Q5 ha hb hx (.inl rfl))]
 cases e1:(scF x b.1).2
 ·rw[show iy (iy (s,true) x b.1) x b.2=(iv0,false) by unfold iy;rw[e1];rfl]at h
  exact⟨0,by rw[h];rfl⟩
 ·try dsimp only[Bool.not_true]
  have e0:iy (s,true) x b.1=((if(scF x b.1).1.1<s.1 then(scF x b.1).1.1 else s.1,if(scF x b.1).1.2>s.2 then(scF x b.1).1.2 else s.2),true):=by unfold iy;rw[e1];rfl
  rw[e0]at h
  suffices hh:pg.Runs 22 (pV a b s21 x (if(scF x b.1).1.1<s.1 then(scF x b.1).1.1 else s.1) (if(scF x b.1).1.2>s.2 then(scF x b.1).1.2 else s.2) (i64.wrap (0+1))) r by
   obtain⟨n,hn⟩:=hh
   exact⟨n,hn⟩
  rw[show i64.wrap (0+1)=1 by decide]
  refine um _ _ _ _ _ _ _ ?_
  unfold qv
  rw[g2]
  simp only[show aR [b.1,b.2] 1=some b.2 from rfl,show [b.1,b.2][(1:Int).toNat]?=some b.2 from rfl,dT (Q5 ha hb hx (.inr rfl))]
  cases e2:(scF x b.2).2
  ·unfold iy at h
   rw[e2]at h
   exact⟨0,by rw[show r=[RV.d tG (0,0),RV.d .bool false] from h];rfl⟩
  ·try dsimp only[Bool.not_true]
   unfold iy at h
   rw[e2]at h
   simp only[anc,cond_true]at h
   suffices hh:pg.Runs 22 (pV a b s21 x _ _ (i64.wrap (1+1))) r by
    obtain⟨n,hn⟩:=hh
    exact⟨n,hn⟩
   rw[show i64.wrap (1+1)=2 by decide]
   refine um _ _ _ _ _ _ _ ?_
   unfold qv
   rw[g3]
   obtain⟨n,hn⟩:=h
   exact⟨n,hn⟩
theorem HQ(a b:Iv)(ha:prI a)(hb:prI b)(x i:Int)(hi:(i=0∧x=a.1)∨(i=1∧x=a.2))(s:Iv)(r:List RV)(h:∀s2:Iv×Bool,s2=iy (iy (s,true) x b.1) x b.2→bif s2.2 then pg.Runs 8 (rA a b (i+1) s2.1.1 s2.1.2) r else r=[RV.d tG (0,0),RV.d .bool false]):
  pg.Runs 8 (rA a b i s.1 s.2) r:=by
 refine CN _ _ _ _ _ ?_
 unfold xZ
 rcases hi with⟨rfl,rfl⟩|⟨rfl,rfl⟩
 ·obtain⟨n,hn⟩:=RC a b ha hb 0 a.1 (.inl rfl) s r (by rw[show i64.wrap (0+1)=0+1 by decide];exact h)
  exact⟨n,hn⟩
 ·obtain⟨n,hn⟩:=RC a b ha hb 1 a.2 (.inr rfl) s r (by rw[show i64.wrap (1+1)=1+1 by decide];exact h)
  exact⟨n,hn⟩
theorem PY{s:Iv×Bool}{x y:Int}(h:s.2=false):iy s x y=(iv0,false):=by unfold iy;rw[h];rfl
theorem agP{s:Iv×Bool}(h:s.2=true):s=(s.1,true):=by rw[←h]
def NA:Cn 334 [tG,tG]:=cn fun(a b:(Int×Int))=>lf (prI a∧prI b) [.d tG ((cH a b).1),.d .bool ((cH a b).2)] fun h=>by
 obtain⟨ha,hb⟩:=h
 refine cZ It (show pg.Res _ _ _ from ?_)
 refine aiX _ _ ?_
 suffices hh:pg.Runs 8 (rA a b 0 2305843009213693952 (-2305843009213693952)) [.d tG (cH a b).1,.d .bool (cH a b).2] by
  obtain⟨n,hn⟩:=hh
  exact⟨n,hn⟩
 refine HQ a b ha hb a.1 0 (.inl ⟨rfl,rfl⟩) (2305843009213693952,-2305843009213693952) _ fun s1 e1=>?_
 have hm:cH a b=iy (iy s1 a.2 b.1) a.2 b.2:=by rw[e1];rfl
 cases c1:s1.2
 ·rw[hm,PY (PY c1▸rfl)]
  rfl
 ·rw[cond_true]
  refine HQ a b ha hb a.2 1 (.inr ⟨rfl,rfl⟩) s1.1 _ fun s2 e2=>?_
  rw[←agP c1,←hm]at e2
  cases c2:s2.2
  ·rw[←e2]
   rw[show s2=(iv0,false) by
    rw[e2,hm]
    rw[e2,hm]at c2
    unfold iy at c2 ⊢
    revert c2
    cases(_:Bool)&&(scF a.2 b.2).2
    ·intro _;rfl
    ·intro h;cases h]
   rfl
  ·rw[cond_true,←e2]
   refine CN _ _ _ _ _ ⟨0,?_⟩
   unfold xZ
   rw[show decide ((1+1:Int)<(([a.1,a.2]).length:Int))=false from by simp,c2]
def Ze(n:Int)(_k:KT):Option (List RV):=og (decide (aH n)) (og (decide (aH (65536:Int))) (og (decide (okI (hid (ai n))∧okI (hid (ai (65536:Int))))) (og (decide (okI (hid (ai (ae (hid (ai n))*ae (hid (ai (65536:Int)))))))) (og (decide (okI (hid (fy (hid (ai (ae (hid (ai n))*ae (hid (ai (65536:Int)))))))))) (og (decide (okI (hid (fy (hid (ai (ae (hid (ai n))*ae (hid (ai (65536:Int))))))))∧okI (hid (fy (hid (ai (ae (hid (ai n))*ae (hid (ai (65536:Int)))))))))) (og (decide (okI (hid (ai (ae (hid (fy (hid (ai (ae (hid (ai n))*ae (hid (ai (65536:Int))))))))*ae (hid (fy (hid (ai (ae (hid (ai n))*ae (hid (ai (65536:Int)))))))))))∧okI (hid (ai (ae (hid (ai n))*ae (hid (ai (65536:Int)))))))) (some [RV.d aoX (bif decide (aH (ae (hid (fy (hid (ai (ae (hid (ai n))*ae (hid (ai (65536:Int))))))))))then ae (hid (fy (hid (ai (ae (hid (ai n))*ae (hid (ai (65536:Int))))))))else 0),RV.d .bool ((cr (ae (hid (ai (ae (hid (fy (hid (ai (ae (hid (ai n))*ae (hid (ai (65536:Int))))))))*ae (hid (fy (hid (ai (ae (hid (ai n))*ae (hid (ai (65536:Int)))))))))))) (ae (hid (ai (ae (hid (ai n))*ae (hid (ai (65536:Int))))))))==0)])))))))
def aiB:Cn 352 [aoX]:=cn fun(n:Int)=>lf (CT n) [.d aoX (eE n),.d .bool (decide (eE n*eE n=n*65536))] fun h=>by
 refine aA It (Ze n) ⟨0,?_⟩
 have hr:=Hu h
 obtain⟨h0,h1⟩:=h
 have i1:aH n:=⟨by omega,by omega⟩
 have i2:aH 65536:=by decide
 have o1:okI (ai (n*65536)):=aU (by have:=cO (j9 i1) (j9 i2);omega)
 have o2:okI (ai (eE n)):=Lt ⟨by omega,by omega⟩
 have o3:okI (ai (eE n*eE n)):=aU (by have:=cO (j9 (n:=eE n) ⟨by omega,by omega⟩) (j9 (n:=eE n) ⟨by omega,by omega⟩);omega)
 have o4:okI (ai n)∧okI (ai 65536):=⟨Lt i1,Lt i2⟩
 have o5:okI (ai (eE n))∧okI (ai (eE n)):=⟨o2,o2⟩
 have o6:okI (ai (eE n*eE n))∧okI (ai (n*65536)):=⟨o3,o1⟩
 have o7:aH (eE n):=⟨by omega,by omega⟩
 unfold Ze
 simp only[bO,dec_enc,dT i1,dT i2,dT o4,dT o1,B9 o1]
 have e:bK (n*65536)=eE n:=rfl
 simp only[e,dT o2,dT o5,dT o6,dT o7,cond_true,mn]
def YA:List En:=enL NA::enL aiB::It
def WH(a:(Int×Int))(_k:KT):Option (List RV):=match decide (a.2<0)with|true=>some [RV.d tG (0,0),RV.d .bool false]|false=>(og (decide (CT (if 0>a.1 then 0 else a.1))) (og (decide (CT a.2)) (match !(decide (eE a.2*eE a.2=a.2*65536))with|true=>some [RV.d tG (hid ((oz (eE (if 0>a.1 then 0 else a.1)) (i64.wrap ((eE a.2)+1))).1)),RV.d .bool ((oz (eE (if 0>a.1 then 0 else a.1)) (i64.wrap ((eE a.2)+1))).2)]|false=>some [RV.d tG (hid ((oz (eE (if 0>a.1 then 0 else a.1)) (eE a.2)).1)),RV.d .bool ((oz (eE (if 0>a.1 then 0 else a.1)) (eE a.2)).2)])))
def Yz:Cn 332 [tG]:=cn fun(a:(Int×Int))=>lf (prI a) [.d tG ((sqF a).1),.d .bool ((sqF a).2)] fun h=>by
 refine aA YA (WH a) ⟨0,?_⟩
 obtain⟨a1,a2,a3⟩:=h
 unfold WH sqF
 cases hn:decide (a.2<0)
 ·have hn:=amz hn
  have r2:CT a.2:=⟨by omega,by omega⟩
  have r1:CT (if 0>a.1 then 0 else a.1):=⟨by split<;>omega,by split<;>omega⟩
  have b2:=Hu r2
  simp only[dT r1,dT r2,bO,aT (x:=eE a.2+1) (by omega) (by omega)]
  cases decide (eE a.2*eE a.2=a.2*65536)<;>rfl
 ·rfl
def M1:List En:=enL Yz::YA
def Yy(r:BO3)(_k:KT):Option (List RV):=og (decide (ok Rat 200000 r.1)) (match !((frF (ah r.1)).2)with|true=>some [RV.d tG (hid ((frF (ah r.1)).1)),RV.d .bool ((frF (ah r.1)).2)]|false=>(og (o1 r.2.1) (match(aG (ah r.2.1) 0)==0 with|true=>some [RV.d tG (hid ((frF (ah r.1)).1)),RV.d .bool ((frF (ah r.1)).2)]|false=>(og (decide (ok Rat 200000 r.2.1)) (og (decide (ok Rat 200000 r.2.2)) (match !((frF (ah r.2.1)).2)with|true=>some [RV.d tG (0,0),RV.d .bool false]|false=>(match !((frF (ah r.2.2)).2)with|true=>some [RV.d tG (0,0),RV.d .bool false]|false=>(og (o1 r.2.2) (match decide ((aG (ah r.2.2) 0)<0)with|true=>some [RV.d tG (0,0),RV.d .bool false]|false=>(og (decide (prI (hid ((frF (ah r.2.2)).1)))) (match !((sqF (hid ((frF (ah r.2.2)).1))).2)with|true=>some [RV.d tG (0,0),RV.d .bool false]|false=>(og (decide (prI (hid ((frF (ah r.2.1)).1))∧prI (hid ((sqF (hid ((frF (ah r.2.2)).1))).1)))) (match !((cH (hid ((frF (ah r.2.1)).1)) (hid ((sqF (hid ((frF (ah r.2.2)).1))).1))).2)with|true=>some [RV.d tG (0,0),RV.d .bool false]|false=>(og (decide (prI (hid ((frF (ah r.1)).1))∧prI (hid ((cH (hid ((frF (ah r.2.1)).1)) (hid ((sqF (hid ((frF (ah r.2.2)).1))).1))).1)))) (some [RV.d tG (hid ((dJ (hid ((frF (ah r.1)).1)) (hid ((cH (hid ((frF (ah r.2.1)).1)) (hid ((sqF (hid ((frF (ah r.2.2)).1))).1))).1))).1)),RV.d .bool ((dJ (hid ((frF (ah r.1)).1)) (hid ((cH (hid ((frF (ah r.2.1)).1)) (hid ((sqF (hid ((frF (ah r.2.2)).1))).1))).1))).2)])))))))))))))))
def Jf:Cn 337 [tO]:=cn fun(r:BO3)=>lf (ok Rt 100000 r) [.d tG ((bG (dec r)).1),.d .bool ((bG (dec r)).2)] fun h=>by
 refine aA M1 (Yy r) ⟨0,?_⟩
 have hr:=h
 obtain⟨r,rfl,br⟩:=aB hr
 have p1:prI (frF r.1).1:=RE.frF_pr _
 have p2:prI (frF r.2.1).1:=RE.frF_pr _
 have p3:prI (frF r.2.2).1:=RE.frF_pr _
 have p4:prI (sqF (frF r.2.2).1).1:=RE.sqF_pr p3
 have p5:prI (cH (frF r.2.1).1 (sqF (frF r.2.2).1).1).1:=r7 _ _
 unfold Yy
 simp only[aS,Nat.reduceLeDiff,aq,au,dT p3,dT (show prI (frF r.2.1).1∧prI (sqF (frF r.2.2).1).1 from⟨p2,p4⟩),dT (show prI (frF r.1).1∧prI (cH (frF r.2.1).1 (sqF (frF r.2.2).1).1).1 from⟨p1,p5⟩)]
 unfold bG
 clear p1 p2 p3 p4 p5
 generalize frF r.1=A
 generalize frF r.2.1=B
 generalize frF r.2.2=C
 generalize sqF C.1=S
 generalize cH B.1 S.1=M
 generalize dJ A.1 M.1=U
 obtain⟨_,a⟩:=A
 obtain⟨_,b⟩:=B
 obtain⟨_,c⟩:=C
 obtain⟨_,s⟩:=S
 obtain⟨_,m⟩:=M
 cases a<;>cases decide (r.2.1=0)<;>cases b<;>cases c<;>cases decide (r.2.2<0)<;>cases s<;>cases m<;>rfl
def X8(a:(Int×Int))(_k:KT):Option (List RV):=match decide (a.1>0)with|true=>some [RV.d aoX 1,RV.d .bool true]|false=>(match decide (a.2<0)with|true=>some [RV.d aoX (-1),RV.d .bool true]|false=>(match a.1==0 with|true=>some [RV.d aoX 0,RV.d .bool (a.2==0)]|false=>some [RV.d aoX 0,RV.d .bool false]))
def LN:Cn 336 [tG]:=cn fun(a:(Int×Int))=>lf True [.d aoX ((sgF a).1),.d .bool ((sgF a).2)] fun _=>by
 refine aA M1 (X8 a) ⟨0,?_⟩
 unfold X8 sgF
 cases decide (a.1>0)<;>cases decide (a.2<0)<;>try rfl
 by_cases e1:a.1=0
 ·rw[alF e1,show(a.1==0)=true by simp[e1]]
  by_cases e2:a.2=0
  ·rw[alF e2,show(a.2==0)=true by simp[e2]];rfl
  ·rw[alH e2,show(a.2==0)=false by simp[e2]];rfl
 ·rw[alH e1,show(a.1==0)=false by simp[e1]];rfl
def agR:List En:=enL Jf::enL LN::M1
def WI(n:BR)(a:(Int×Int))(g:Bool)(_k:KT):Option (List RV):=og (decide (ok Rat 200000 n)) (match !g with|true=>some [RV.d tG (0,0),RV.d .bool false]|false=>(match !((frF (ah n)).2)with|true=>some [RV.d tG (0,0),RV.d .bool false]|false=>(og (decide (prI (hid ((frF (ah n)).1))∧prI a)) (some [RV.d tG (hid ((cH (hid ((frF (ah n)).1)) a).1)),RV.d .bool ((cH (hid ((frF (ah n)).1)) a).2)]))))
def Zt:Cn 363 [tR,tG,.bool]:=cn fun(n:BR) (a:(Int×Int)) (g:Bool)=>lf (ok Rat 100000 n∧prI a) [.d tG ((jN (ah n) a g).1),.d .bool ((jN (ah n) a g).2)] fun h=>by
 refine aA agR (WI n a g) ⟨0,?_⟩
 obtain⟨hn,ha⟩:=h
 obtain⟨n,rfl,bn⟩:=aB hn
 unfold WI
 simp only[aS,Nat.reduceLeDiff,dT (show prI (frF n).1∧prI a from⟨RE.frF_pr _,ha⟩)]
 unfold jN
 generalize frF n=A
 obtain⟨_,q⟩:=A
 cases g<;>cases q<;>rfl
section
section
variable {u:Nat} {w w':World} {size n:Nat} {v:Value} {xs:List Value}
end
section
variable {P:Program} {fn:Func} {R:Ending→World→Prop} {B:Code} {K:List KI} {i:Nat} {a:Act} {w:World}
end
end
section
section
variable {P:Program} {a:Act} {w:World}
end
end
theorem yG{w w1 w2:World}{o:Option Nat}(h:w.grownBy w1 o)(hb:Below w1.heap.size w1 w2):w.grownBy w2 o:=
 ⟨hb.os.trans h.os,hb.tape.trans h.tape,hb.output.trans h.output,alU h.size hb.size,fun i hi hn=>(hb.block i (anw hi h.size)).trans (h.block i hi hn)⟩
theorem tj{w w1 w2:World}{c b:Nat}(h:w.grownBy w1 (some c))(hu:Upd w1 w2 b)(hb:b=c∨w.heap.size≤b):w.grownBy w2 (some c):=
 ⟨hu.os.trans h.os,hu.tape.trans h.tape,hu.output.trans h.output,by rw[hu.size];exact h.size,fun i hi hn=>(hu.block i (fun e=>by
  subst e
  rcases hb with hb|hb
  ·subst hb;exact hn rfl
  ·omega)).trans (h.block i hi hn)⟩
def U0:Code:=Tryz.f331.body.getD .skip
set_option maxRecDepth 100000 in
theorem Ks:ah0 Tryz.prog 331 257:=by
 intro w c b ok x y _ hc
 have hB:w.grownBy w (some c):=World.grownBy.refl _ _
 have hlt:=hc.lt
 refine enter (B:=U0) (args:=[.pointer (some ⟨c,0,none⟩),.agg #[.int .i64 x,.int .i64 y],.bool ok]) Tryz.func331 (by kernel_rfl) (by kernel_rfl) ?_
 rw[show Tryz.f331.ntmps=18 from by kernel_rfl]
 intro a hs
 replace hs:=hs.pick (ts:=[0,1,2]) (L':=[(0,.pointer (some ⟨c,0,none⟩)),(1,.agg #[.int .i64 x,.int .i64 y]),(2,.bool ok)]) (by kernel_rfl)
 refine yz (j:=2) (by kernel_rfl) ?_
 refine mL (id:=0) (by kernel_rfl) ?_
 refine u6 hs (by kernel_rfl) (aiU (t:=259) (cs:= #[.int .i64 x,.int .i64 y]) (fun rb_=>.pointer (some ⟨rb_,0,none⟩)) [0,2,4] (fun rb_=>[(0,.pointer (some ⟨c,0,none⟩)),(2,.bool ok),(4,.pointer (some ⟨rb_,0,none⟩))]) hs (fun _=>by kernel_rfl) (fun _=>by kernel_rfl) ?_)
 clear hs a;intro a w1 b1 hn hs
 have B1:=hn.blk
 have l1:w.heap.size≤b1:=by rw[hn.at_];exact hB.size
 replace hc:=hc.below hn.below hc.lt
 replace hB:=yG hB hn.below
 clear hn
 refine u6 hs (by kernel_rfl) (aiU (t:=259) (cs:= #[.int .i64 0,.int .i64 0]) (fun rb_=>.pointer (some ⟨rb_,0,none⟩)) [0,2,4,6] (fun rb_=>[(0,.pointer (some ⟨c,0,none⟩)),(2,.bool ok),(4,.pointer (some ⟨b1,0,none⟩)),(6,.pointer (some ⟨rb_,0,none⟩))]) hs (fun _=>by kernel_rfl) (fun _=>by kernel_rfl) ?_)
 clear hs a;intro a w2 b2 hn hs
 have B2:=hn.blk
 have l2:w.heap.size≤b2:=by rw[hn.at_];exact hB.size
 have l2':b1<b2:=by rw[hn.at_];exact B1.lt
 replace hc:=hc.below hn.below hc.lt
 replace B1:=B1.below hn.below B1.lt
 replace hB:=yG hB hn.below
 clear hn
 refine qp (by kernel_rfl) ?_
 refine mW rfl ?_
 refine yz (j:=4) (by kernel_rfl) ?_
 refine mL (id:=1) (by kernel_rfl) ?_
 refine tB (m:=6) (H:=[(4,none,[.bool b])]) (ts:=[2,4,6,7,12]) (L':=[(2,.bool ok),(4,.pointer (some ⟨b1,0,none⟩)),(6,.pointer (some ⟨b2,0,none⟩)),(7,.pointer (some ⟨c,0,none⟩)),(12,.bool b)]) (O:=fun w=>(w.cell? ⟨c,0,none⟩=some (.bool b))∧True) hs (by kernel_rfl) ⟨hc.cell 0 rfl,trivial⟩ ?_
 clear hs a;intro a hs
 rcases Bool.eq_false_or_eq_true (b)with hb|hb
 ·replace hs:=hs.know (t:=12) rfl hb
  have cd1:=hb;have cd1b:=hb;clear hb
  replace hs:=hs.pick (ts:=[2,4,6,7,12]) (L':=[(2,.bool ok),(4,.pointer (some ⟨b1,0,none⟩)),(6,.pointer (some ⟨b2,0,none⟩)),(7,.pointer (some ⟨c,0,none⟩)),(12,.bool true)]) (by kernel_rfl)
  refine tB (m:=4) (H:=[]) (ts:=[4,6,14,16]) (L':=[(4,.pointer (some ⟨b1,0,none⟩)),(6,.pointer (some ⟨b2,0,none⟩)),(14,.bool ok),(16,.pointer (some ⟨c,0,none⟩))]) (O:=fun w=>True) hs (by kernel_rfl) trivial ?_
  clear hs a;intro a hs
  refine u6 hs (by kernel_rfl) (An (b:=c) (cs:= #[.bool b]) #[.bool ok] [(0,.bool ok)] [4,6] [(4,.pointer (some ⟨b1,0,none⟩)),(6,.pointer (some ⟨b2,0,none⟩))] hs hc (by kernel_rfl) ⟨alM rfl,trivial,trivial⟩ rfl (by kernel_rfl) ?_)
  clear hs a;intro a w3 hc' hu hs
  replace hc:=hc';clear hc'
  replace B1:=hu.blk B1 (by omega)
  replace B2:=hu.blk B2 (by omega)
  replace hB:=tj hB hu (by omega)
  clear hu
  refine qp (by kernel_rfl) ?_
  refine mW rfl ?_
  refine yz (j:=6) (by kernel_rfl) ?_
  refine mL (id:=2) (by kernel_rfl) ?_
  refine tB (m:=1) (H:=[(0,none,[.int .i64 x,.int .i64 y])]) (ts:=[6,17]) (L':=[(6,.pointer (some ⟨b2,0,none⟩)),(17,.agg #[.int .i64 x,.int .i64 y])]) (O:=fun w=>(w.cell? ⟨b1,0,none⟩=some (.int .i64 x))∧(w.cell? ⟨b1,1,none⟩=some (.int .i64 y))∧True) hs (by kernel_rfl) ⟨B1.cell 0 rfl,B1.cell 1 rfl,trivial⟩ ?_
  clear hs a;intro a hs
  refine u6 hs (by kernel_rfl) (An (b:=b2) (cs:= #[.int .i64 0,.int .i64 0]) #[.int .i64 x,.int .i64 y] [(0,.int .i64 x),(1,.int .i64 y)] [6] [(6,.pointer (some ⟨b2,0,none⟩))] hs B2 (by kernel_rfl) ⟨alM rfl,trivial,⟨alM rfl,trivial,trivial⟩⟩ rfl (by kernel_rfl) ?_)
  clear hs a;intro a w4 B2' hu hs
  replace B2:=B2';clear B2'
  replace hc:=hu.blk hc (by omega)
  replace B1:=hu.blk B1 (by omega)
  replace hB:=tj hB hu (by omega)
  clear hu
  refine qp (by kernel_rfl) ?_
  refine mW rfl ?_
  refine ES (by kernel_rfl) ?_
  refine K9 (vs:=[.agg #[.int .i64 x,.int .i64 y]]) (H:=[.int .i64 x,.int .i64 y]) (v:=.agg #[.int .i64 x,.int .i64 y]) (O:=fun w=>(w.cell? ⟨b2,0,none⟩=some (.int .i64 x))∧(w.cell? ⟨b2,1,none⟩=some (.int .i64 y))∧True) hs (by kernel_rfl) rfl ⟨B2.cell 0 rfl,B2.cell 1 rfl,trivial⟩ ?_
  exact⟨rfl,by rw[cd1];exact hc,hB⟩
 ·replace hs:=hs.know (t:=12) rfl hb
  have cd1:=hb;have cd1b:=hb;clear hb
  replace hs:=hs.pick (ts:=[2,4,6,7,12]) (L':=[(2,.bool ok),(4,.pointer (some ⟨b1,0,none⟩)),(6,.pointer (some ⟨b2,0,none⟩)),(7,.pointer (some ⟨c,0,none⟩)),(12,.bool false)]) (by kernel_rfl)
  refine tB (m:=4) (H:=[]) (ts:=[4,6,14,16]) (L':=[(4,.pointer (some ⟨b1,0,none⟩)),(6,.pointer (some ⟨b2,0,none⟩)),(14,.bool false),(16,.pointer (some ⟨c,0,none⟩))]) (O:=fun w=>True) hs (by kernel_rfl) trivial ?_
  clear hs a;intro a hs
  refine u6 hs (by kernel_rfl) (An (b:=c) (cs:= #[.bool b]) #[.bool false] [(0,.bool false)] [4,6] [(4,.pointer (some ⟨b1,0,none⟩)),(6,.pointer (some ⟨b2,0,none⟩))] hs hc (by kernel_rfl) ⟨alM rfl,trivial,trivial⟩ rfl (by kernel_rfl) ?_)
  clear hs a;intro a w5 hc' hu hs
  replace hc:=hc';clear hc'
  replace B1:=hu.blk B1 (by omega)
  replace B2:=hu.blk B2 (by omega)
  replace hB:=tj hB hu (by omega)
  clear hu
  refine qp (by kernel_rfl) ?_
  refine mW rfl ?_
  refine yz (j:=6) (by kernel_rfl) ?_
  refine mL (id:=2) (by kernel_rfl) ?_
  refine tB (m:=1) (H:=[(0,none,[.int .i64 x,.int .i64 y])]) (ts:=[6,17]) (L':=[(6,.pointer (some ⟨b2,0,none⟩)),(17,.agg #[.int .i64 x,.int .i64 y])]) (O:=fun w=>(w.cell? ⟨b1,0,none⟩=some (.int .i64 x))∧(w.cell? ⟨b1,1,none⟩=some (.int .i64 y))∧True) hs (by kernel_rfl) ⟨B1.cell 0 rfl,B1.cell 1 rfl,trivial⟩ ?_
  clear hs a;intro a hs
  refine u6 hs (by kernel_rfl) (An (b:=b2) (cs:= #[.int .i64 0,.int .i64 0]) #[.int .i64 x,.int .i64 y] [(0,.int .i64 x),(1,.int .i64 y)] [6] [(6,.pointer (some ⟨b2,0,none⟩))] hs B2 (by kernel_rfl) ⟨alM rfl,trivial,⟨alM rfl,trivial,trivial⟩⟩ rfl (by kernel_rfl) ?_)
  clear hs a;intro a w6 B2' hu hs
  replace B2:=B2';clear B2'
  replace hc:=hu.blk hc (by omega)
  replace B1:=hu.blk B1 (by omega)
  replace hB:=tj hB hu (by omega)
  clear hu
  refine qp (by kernel_rfl) ?_
  refine mW rfl ?_
  refine ES (by kernel_rfl) ?_
  refine K9 (vs:=[.agg #[.int .i64 x,.int .i64 y]]) (H:=[.int .i64 x,.int .i64 y]) (v:=.agg #[.int .i64 x,.int .i64 y]) (O:=fun w=>(w.cell? ⟨b2,0,none⟩=some (.int .i64 x))∧(w.cell? ⟨b2,1,none⟩=some (.int .i64 y))∧True) hs (by kernel_rfl) rfl ⟨B2.cell 0 rfl,B2.cell 1 rfl,trivial⟩ ?_
  exact⟨rfl,by rw[cd1];exact hc,hB⟩
def OY:ef:={keep:=true,tame:=true,run:=fun _ _ _=>none,mut_:=some ⟨true,fun l=>l,some 257⟩}
theorem Rf:SpK 331 OY:=by
 refine⟨by kernel_rfl,fun R args k r h=>(by cases h),fun g h=>?_⟩
 injection h with h
 subst h
 exact Ks
def ZZ:List En:=[⟨99,iA,eW⟩,⟨108,gO,eM⟩,⟨107,iO,fk⟩,⟨106,ie,fc⟩,⟨109,kG,gD⟩,enL Sd,⟨73,lY,iu⟩,⟨41,fC,dQ⟩,enL zv,enT DN,enL Qm,enL ZH,enL OF,enL PV,enL Qg,enL Pc,enA OS,enA MU,enL YN,enL NA,enL Yz,enL Jf,enL LN,enL Zt,⟨331,OY,Rf⟩]
def abC:NT:=[((292,5),{keep:=[1,4,13,14,17,20,21,24],hl:=0}),((292,7),{keep:=[1,4,5,25,26,29,32,33,36],hl:=0})]
def aeq:Ctx:=CX (ens ZZ) abC
def WP(q:BQ)(_k:KT):Option (List RV):=let y1:=frF (ah q.2.2.2.2.1);let y2:=ok Rat 200000 q.2.2.2.2.2;let y3:=frF (ah q.2.2.2.2.2);let y4:=sqF (hid (y3.1));let y5:=hid ((frF (ah q.2.1)).1);let y6:=hid ((sqF (hid (y1.1))).1);let y7:=frF (ah q.2.2.1);let y8:=frF (ah q.2.2.2.1);let y9:=cH y6 (hid (y4.1));let y10:=cH (hid (y7.1)) (hid (y4.1));let y11:=cH (hid (y8.1)) (hid (y9.1));let y12:=hid ((frF (ah q.1)).1);let y13:=hid ((cH y5 y6).1);let y14:=hid ((dJ y12 y13).1);let y15:=dJ (hid (y10.1)) (hid (y11.1));let y16:=dJ y14 (hid (y15.1));let y17:Option (List RV):=match decide (prI (hid (y3.1)))with|true=>some [RV.d aoX 0,RV.d .bool false]|false=>none;og (decide (ok Rat 200000 q.2.2.2.2.1)) (og (decide (prI (hid (y1.1)))) (match y1.2 with|true=>(og (decide y2) (match(sqF (hid (y1.1))).2 with|true=>(og (decide (prI (hid (y3.1)))) (match y3.2 with|true=>(match !(y4.2)with|true=>some [RV.d aoX 0,RV.d .bool false]|false=>(og (decide (ok Rat 200000 q.2.1)) (og (decide (prI y5∧prI y6)) (og (decide (ok Rat 200000 q.2.2.1)) (og (decide (prI (hid (y7.1))∧prI (hid (y4.1)))) (og (decide (ok Rat 200000 q.2.2.2.1)) (og (decide (prI y6∧prI (hid (y4.1)))) (og (decide (prI (hid (y8.1))∧prI (hid (y9.1)))) (match !(((((((y4.2&&(frF (ah q.2.1)).2)&&(cH y5 y6).2)&&y7.2)&&y10.2)&&y8.2)&&y9.2)&&y11.2)with|true=>some [RV.d aoX 0,RV.d .bool false]|false=>(og (decide (ok Rat 200000 q.1)) (og (decide (prI y12∧prI y13)) (og (decide (prI (hid (y10.1))∧prI (hid (y11.1)))) (og (decide (prI y14∧prI (hid (y15.1)))) (match !(((((((((((y4.2&&(frF (ah q.2.1)).2)&&(cH y5 y6).2)&&y7.2)&&y10.2)&&y8.2)&&y9.2)&&y11.2)&&(frF (ah q.1)).2)&&(dJ y12 y13).2)&&y15.2)&&y16.2)with|true=>some [RV.d aoX 0,RV.d .bool false]|false=>some [RV.d aoX ((sgF (hid (y16.1))).1),RV.d .bool ((sgF (hid (y16.1))).2)]))))))))))))))|false=>some [RV.d aoX 0,RV.d .bool false]))|false=>y17))|false=>(og (decide y2) y17)))
theorem ahc(q:BQ):RS aeq 292 [.d tQ q] (WP q):=rsX
def ahg:Cn 292 [tQ]:=cn fun(q:BQ)=>lf (okQ q) [.d aoX ((quF (dec q)).1),.d .bool ((quF (dec q)).2)] fun h=>by
 refine cZ ZZ (ahc _ ⟨0,?_⟩)
 obtain⟨A,B,C,D,M,N,rfl,bA,bB,bC,bD,bM,bN,hM,hN⟩:=E2 h
 rw[az]
 have pf:∀q,prI (frF q).1:=RE.frF_pr
 have pm:∀a b,prI (cH a b).1:=r7
 have ps:∀q,prI (sqF (frF q).1).1:=fun q=>RE.sqF_pr (pf q)
 have pa:∀{a b},prI a→prI b→prI (dJ a b).1:=fun ha hb=>RE.addF_pr ha hb
 have d1:∀q,decide (prI (frF q).1)=true:=fun q=>dT (pf q)
 have d2:∀q m,decide (prI (frF q).1∧prI (sqF (frF m).1).1)=true:=fun q m=>dT ⟨pf q,ps m⟩
 have d3:∀q m,decide (prI (sqF (frF q).1).1∧prI (sqF (frF m).1).1)=true:=fun q m=>dT ⟨ps q,ps m⟩
 have d4:∀q a b,decide (prI (frF q).1∧prI (cH a b).1)=true:=fun q a b=>dT ⟨pf q,pm a b⟩
 have d5:∀a b c d,decide (prI (cH a b).1∧prI (cH c d).1)=true:=fun a b c d=>dT ⟨pm a b,pm c d⟩
 have d6:∀q a b c d e f,decide (prI (dJ (frF q).1 (cH a b).1).1∧prI (dJ (cH c d).1 (cH e f).1).1)=true:=fun q a b c d e f=>dT ⟨pa (pf q) (pm a b),pa (pm c d) (pm e f)⟩
 unfold WP
 simp only[aS,aC,Nat.reduceLeDiff,dT (pf _),dT (pm _ _),dT (ps _),dT (pa (pf _) (pm _ _)),dT (pa (pm _ _) (pm _ _))]
 unfold quF qu1 qu2 qu3 quA quB sfF mfF
 generalize frF M=FM
 generalize frF N=FN
 generalize sqF FM.1=SM
 generalize sqF FN.1=SN
 generalize frF A=FA
 generalize frF B=FB
 generalize frF C=FC
 generalize frF D=FD
 generalize cH FB.1 SM.1=MB
 generalize cH FC.1 SN.1=MC
 generalize cH SM.1 SN.1=MM
 generalize cH FD.1 MM.1=MD
 generalize dJ FA.1 MB.1=A1
 generalize dJ MC.1 MD.1=A2
 generalize dJ A1.1 A2.1=A3
 generalize sgF A3.1=S
 obtain⟨_,fm⟩:=FM
 obtain⟨_,fn⟩:=FN
 obtain⟨_,sm⟩:=SM
 obtain⟨_,sn⟩:=SN
 cases fm<;>cases sm<;>cases fn<;>cases sn<;>try rfl
 dsimp only
 simp only[amN,anc]
 generalize (FB.2&&MB.2&&FC.2&&MC.2&&FD.2&&MM.2&&MD.2)=c2
 cases c2
 ·rfl
 ·simp only[amN]
  generalize (FA.2&&A1.2&&A2.2&&A3.2)=c3
  cases c3<;>rfl
namespace RE
theorem same_rad(a b c d r:RE):a-c+(b-d)*r=a+b*r-(c+d*r):=by grind
theorem adP(a b c:RE):a-b+c=a+c-b:=by grind
theorem vR_rat(q:Rat):vR (q,0,0)=of q:=dN q 0
theorem cmpTR_re{x:Rt}{q:Rat}(h:0≤x.2.2):fN x q=sg (vR x-of q):=by
 unfold fN vR
 rw[sgn2_re h]
 unfold v2
 rw[of_sub,adP]
end RE
theorem Rdd.rat{x:Rt}(h:Rdd x)(hb:x.2.1=0):x=(x.1,0,0):=by
 obtain⟨a,b,c⟩:=x
 rcases h.rd with h|h
 ·obtain⟨h1,h2⟩:=h
  simp only at h1 h2
  rw[h1,h2]
 ·exact absurd hb h.1
theorem Nb{x:Rt}{q:Rat}(h:Rdd x):a8 x (q,0,0)=fN x q:=by
 rw[RE.cmpT_re h.nn (by show(0:Rat)≤0;grind),RE.cmpTR_re h.nn,RE.vR_rat]
theorem TK{x y:Rt}(hx:Rdd x)(hy:Rdd y)(bx:x.2.1=0)(b_:y.2.1=0):a8 x y=aG x.1 y.1:=by
 rw[hx.rat bx,hy.rat b_,RE.cmpT_re (by show(0:Rat)≤0;grind) (by show(0:Rat)≤0;grind),RE.vR_rat,RE.vR_rat,←RE.of_sub,RE.sg_of,ta]
theorem UT{x y:Rt}(hx:Rdd x)(hy:Rdd y)(h:(apF x y).2=true):(apF x y).1=a8 x y:=by
 rw[RE.apF_ok h,RE.cmpT_re hx.nn hy.nn]
theorem zH{x y:Rt}(hx:Rdd x)(hy:Rdd y)(h:x.2.2=y.2.2):gz (x.1-y.1) (x.2.1-y.2.1) x.2.2=a8 x y:=by
 rw[RE.cmpT_re hx.nn hy.nn,RE.sgn2_re hx.nn]
 unfold RE.vR RE.v2
 rw[RE.of_sub,RE.of_sub,RE.same_rad,h]
theorem acP{A B C D M N:Rat}(hM:0≤M)(hN:0≤N)(h:(quF (A,B,C,D,M,N)).2=true):(quF (A,B,C,D,M,N)).1=sgQ (A,B,C,D,M,N):=by
 rw[RE.quF_ok (q:=(A,B,C,D,M,N)) hM hN h]
 exact(RE.sgnQ_re hM hN).symm
def Po:List En:=[⟨107,iO,fk⟩,⟨108,gO,eM⟩,⟨73,lY,iu⟩,⟨106,ie,fc⟩,⟨41,fC,dQ⟩,⟨99,iA,eW⟩,enL zv,enT DN,enL Qm,enL Jf]
def aaH:Cn 294 [tR,tR]:=cn fun(a b:BR)=>lf (okR a∧okR b) [.d tR (am (ah a+ah b))] fun h=>jL [RV.d tR (hAd a b)] (du Po) h
def YQ(a b:BO3)(_k:KT):Option (List RV):=og (decide (ok Rt 100000 a)) (og (decide (ok Rt 100000 b)) (match !((bG (dec a)).2)with|true=>some [RV.d aoX 0,RV.d .bool false]|false=>(match !((bG (dec b)).2)with|true=>some [RV.d aoX 0,RV.d .bool false]|false=>(match decide (((hid ((bG (dec a)).1)).2)<((hid ((bG (dec b)).1)).1))with|true=>some [RV.d aoX (-1),RV.d .bool true]|false=>(match decide (((hid ((bG (dec a)).1)).1)>((hid ((bG (dec b)).1)).2))with|true=>some [RV.d aoX 1,RV.d .bool true]|false=>some [RV.d aoX 0,RV.d .bool false])))))
def XX:Cn 295 [tO,tO]:=cn fun(a b:BO3)=>lf (ok Rt 100000 a∧ok Rt 100000 b) [.d aoX ((apF (dec a) (dec b)).1),.d .bool ((apF (dec a) (dec b)).2)] fun h=>by
 refine aA Po (YQ a b) ⟨0,?_⟩
 obtain⟨ha,hb⟩:=h
 obtain⟨a,rfl,ba⟩:=aB ha
 obtain⟨b,rfl,bb⟩:=aB hb
 unfold YQ
 simp only[aS,Nat.reduceLeDiff]
 unfold apF
 generalize bG a=A
 generalize bG b=B
 obtain⟨⟨a1,a2⟩,p⟩:=A
 obtain⟨⟨b1,b2⟩,q⟩:=B
 cases p<;>cases q<;>try rfl
 dsimp only
 cases decide (a2<b1)<;>try rfl
 cases decide (a1>b2)<;>rfl
def ael:List En:=enL aaH::enT XX::enT ahg::Po
def Wo(q:BQ)(_k:KT):Option (List RV):=let y1:=ah q.2.2.2.2.1;let y2:=aG (ah q.2.2.2.2.2) 0;let y3:=i64.wrap ((gz (ah q.2.2.1) (ah q.2.2.2.1) y1)*y2);let y4:=gz (ah q.1) (ah q.2.1) y1;let y5:=hMu q.2.2.2.2.1 (hMu q.2.1 q.2.1);let y6:=hMu q.2.2.2.1 q.2.2.2.1;let y7:=hMu q.2.2.1 q.2.2.1;let y8:=hMu q.2.2.2.2.1 y6;let y9:=hAd (hMu q.1 q.1) y5;let y10:=hMu q.2.2.2.2.2 (hAd y7 y8);let y11:=hMu q.2.2.1 q.2.2.2.1;let y12:=hMu q.2.2.2.2.2 y11;let y13:=hSu (hMu q.1 q.2.1) y12;let y14:Option (List RV):=match decide (okR (hMu q.1 q.2.1)∧okR y12)with|true=>(og (o2 y13 y13) (og (decide (ok Rat 240000 (hSu y9 y10)∧ok Rat 170000 (hAd y13 y13)∧ok Rat 30000 q.2.2.2.2.1)) (some [RV.d aoX (i64.wrap (y4*(gz (ah (hSu y9 y10)) (ah (hAd y13 y13)) y1)))])))|false=>none;let y15:Option (List RV):=match decide (okR q.2.2.2.2.2∧okR y11)with|true=>y14|false=>none;let y16:Option (List RV):=match decide (okR q.2.2.1∧okR q.2.2.2.1)with|true=>y15|false=>none;let y17:Option (List RV):=match decide (okR y9∧okR y10)with|true=>ce (og (o2 q.1 q.2.1) (ce (og (o2 q.2.2.1 q.2.2.2.1) (ce (og (o2 q.2.2.2.2.2 y11) (dup (.b .l .l) y14)) y15)) y16)) (og (o2 q.1 q.2.1) y16)|false=>none;let y18:Option (List RV):=match decide (okR q.2.2.2.2.2∧okR (hAd y7 y8))with|true=>y17|false=>none;let y19:Option (List RV):=match decide (okR y7∧okR y8)with|true=>y18|false=>none;let y20:Option (List RV):=match decide (okR q.2.2.2.2.1∧okR y6)with|true=>y19|false=>none;let y21:Option (List RV):=match decide (okR q.2.2.2.1∧okR q.2.2.2.1)with|true=>y20|false=>none;let y22:Option (List RV):=match decide (okR q.2.2.1∧okR q.2.2.1)with|true=>y21|false=>none;let y23:Option (List RV):=match decide (okR (hMu q.1 q.1)∧okR y5)with|true=>y22|false=>none;let y24:Option (List RV):=match decide (okR q.2.2.2.2.1∧okR (hMu q.2.1 q.2.1))with|true=>y23|false=>none;let y25:Option (List RV):=match decide (okR q.2.1∧okR q.2.1)with|true=>y24|false=>none;og (o1 q.2.2.2.2.1) (match decide ((aG y1 0)<0)with|true=>some [RV.d aoX 0]|false=>(og (o1 q.2.2.2.2.2) (match decide (y2<0)with|true=>some [RV.d aoX 0]|false=>(og (decide (okQ q)) (match(quF (dec q)).2 with|true=>some [RV.d aoX ((quF (dec q)).1)]|false=>(og (decide (ok Rat 240000 q.1∧ok Rat 170000 q.2.1∧ok Rat 30000 q.2.2.2.2.1)) (og (decide (ok Rat 240000 q.2.2.1∧ok Rat 170000 q.2.2.2.1∧ok Rat 30000 q.2.2.2.2.1)) (og (o1 q.2.2.2.2.2) (match y3==0 with|true=>some [RV.d aoX y4]|false=>(match y4==y3 with|true=>some [RV.d aoX y4]|false=>(match y4==0 with|true=>some [RV.d aoX y3]|false=>ce (og (o2 q.1 q.1) (ce (og (o2 q.2.1 q.2.1) (ce (og (o2 q.2.2.2.2.1 (hMu q.2.1 q.2.1)) (ce (og (o2 (hMu q.1 q.1) y5) (ce (og (o2 q.2.2.1 q.2.2.1) (ce (og (o2 q.2.2.2.1 q.2.2.2.1) (ce (og (o2 q.2.2.2.2.1 y6) (ce (og (o2 y7 y8) (ce (og (o2 q.2.2.2.2.2 (hAd y7 y8)) (dup (.b .l .l) y17)) y18)) y19)) y20)) y21)) y22)) y23)) y24)) y25)) (og (o2 q.1 q.1) y25))))))))))))
def Nm:Cn 204 [tQ]:=cn fun(q:BQ)=>lf (okQ q) [.d aoX (sgQ (dec q))] fun h=>by
 refine aA ael (Wo q) ⟨0,?_⟩
 obtain⟨A,B,C,D,M,N,rfl,bA,bB,bC,bD,bM,bN,hM,hN⟩:=E2 h
 have hh:decide (okQ (am A,am B,am C,am D,am M,am N))=true:=alF h
 have hd:(dec ((am A,am B,am C,am D,am M,am N):BQ):Qd)=(A,B,C,D,M,N):=az ((A,B,C,D,M,N):Qd)
 rw[az]
 unfold Wo
 simp only[aS,aC,Nat.reduceAdd,Nat.reduceLeDiff,sZ,sP,au,hh,hd,alH (show ¬M<0 by grind),alH (show ¬N<0 by grind)]
 cases hq:(quF (A,B,C,D,M,N)).2
 ·try dsimp only
  refine(A5 _ _ _).trans ?_
  unfold sgQ AQ
  rw[alH (show ¬M<0 by grind),alH (show ¬N<0 by grind)]
  dsimp only[Bool.or_false,cond_false]
  rw[show A*B-N*(C*D)+(A*B-N*(C*D))=2*(A*B-N*(C*D)) by grind,show A*A+M*(B*B)-N*(C*C+M*(D*D))=A*A+B*B*M-N*(C*C+D*D*M) by grind]
  rfl
 ·try dsimp only
  rw[acP hM hN hq]
def Y6:List En:=[⟨41,fC,dQ⟩,⟨73,lY,iu⟩,⟨106,ie,fc⟩,enT DN,enL Qm,enT XX,enT Nm,enL zv]
def WY(a b:BO3)(_k:KT):Option (List RV):=og (o1 a.2.1) (match(aG (ah a.2.1) 0)==0 with|true=>(og (o1 b.2.1) (match(aG (ah b.2.1) 0)==0 with|true=>(og (o2 a.1 b.1) (some [RV.d aoX (aG (ah a.1) (ah b.1))]))|false=>(og (decide (ok Rt 100000 a∧ok Rt 100000 b)) (match(apF (dec a) (dec b)).2 with|true=>some [RV.d aoX ((apF (dec a) (dec b)).1)]|false=>(og (o2 a.2.2 b.2.2) (match(aG (ah a.2.2) (ah b.2.2))==0 with|true=>(og (o2 a.1 b.1) (og (o2 a.2.1 b.2.1) (og (decide (ok Rat 240000 (hSu a.1 b.1)∧ok Rat 170000 (hSu a.2.1 b.2.1)∧ok Rat 30000 a.2.2)) (some [RV.d aoX (gz (ah (hSu a.1 b.1)) (ah (hSu a.2.1 b.2.1)) (ah a.2.2))]))))|false=>(og (decide (ok Rt 15000 a∧ok Rt 15000 b)) (og (decide (okQ (hid (enc (suT (dec a) (dec b)))))) (some [RV.d aoX (sgQ (dec (hid (enc (suT (dec a) (dec b))))))])))))))))|false=>(og (decide (ok Rt 100000 a∧ok Rt 100000 b)) (match(apF (dec a) (dec b)).2 with|true=>some [RV.d aoX ((apF (dec a) (dec b)).1)]|false=>(og (o2 a.2.2 b.2.2) (match(aG (ah a.2.2) (ah b.2.2))==0 with|true=>(og (o2 a.1 b.1) (og (o2 a.2.1 b.2.1) (og (decide (ok Rat 240000 (hSu a.1 b.1)∧ok Rat 170000 (hSu a.2.1 b.2.1)∧ok Rat 30000 a.2.2)) (some [RV.d aoX (gz (ah (hSu a.1 b.1)) (ah (hSu a.2.1 b.2.1)) (ah a.2.2))]))))|false=>(og (decide (ok Rt 15000 a∧ok Rt 15000 b)) (og (decide (okQ (hid (enc (suT (dec a) (dec b)))))) (some [RV.d aoX (sgQ (dec (hid (enc (suT (dec a) (dec b))))))]))))))))
def Ef:Cn 206 [tO,tO]:=cn fun(a b:BO3)=>lf (okT 15000 a∧okT 15000 b) [.d aoX (a8 (dec a) (dec b))] fun h=>by
 refine aA Y6 (WY a b) ⟨0,?_⟩
 obtain⟨ha,hb⟩:=h
 obtain⟨a,rfl,ba,ra⟩:=gg ha
 obtain⟨b,rfl,bb,rb⟩:=gg hb
 have na:Nn a.2.2:=inferInstance
 have nb:Nn b.2.2:=inferInstance
 have e:decide (okQ (enc (suT a b)))=true:=zQ (by decide) (by decide) (by decide) (by decide) (by decide) (by decide)
 have e1:=fun h1 h2=>TK ra rb h1 h2
 have e2:=fun h=>UT ra rb h
 have e3:=fun h=>zH ra rb h
 unfold WY
 simp only[aS,Nat.reduceAdd,Nat.reduceLeDiff,aq,e]
 by_cases ha:a.2.1=0
 ·by_cases hb:b.2.1=0
  ·rw[alF ha,alF hb,e1 ha hb]
  ·rw[alF ha,alH hb]
   dsimp only
   cases hq:(apF a b).2
   ·dsimp only
    by_cases hc:a.2.2=b.2.2
    ·rw[alF hc,←e3 hc]
    ·rw[alH hc];rfl
   ·dsimp only
    rw[e2 hq]
 ·rw[alH ha]
  dsimp only
  cases hq:(apF a b).2
  ·dsimp only
   by_cases hc:a.2.2=b.2.2
   ·rw[alF hc,←e3 hc]
   ·rw[alH hc];rfl
  ·dsimp only
   rw[e2 hq]
def agH:List En:=enT Ef::Y6
def Z6(a:BO3)(b:BR)(_k:KT):Option (List RV):=og (o1 b) (og (decide (okT 15000 a∧okT 15000 (hid (enc ((ah b,0,0):Rt))))) (some [RV.d aoX (a8 (dec a) (dec (hid (enc ((ah b,0,0):Rt)))))]))
def LC:Cn 100 [tO,tR]:=cn fun(a:BO3) (b:BR)=>lf (okT 15000 a∧ok Rat 15000 b) [.d aoX (fN (dec a) (ah b))] fun h=>by
 refine aA agH (Z6 a b) ⟨0,?_⟩
 obtain⟨ha,hb⟩:=h
 obtain⟨a,rfl,ba,ra⟩:=gg ha
 obtain⟨b,rfl,bb⟩:=aB hb
 unfold Z6
 simp only[aS,Nat.reduceLeDiff,aM]
 rw[Nb ra]
section
section
variable {α:Type}
open Classical in
def rk(lt:α→α→Prop):List α→α→Nat
 |[],_=>0
 |e::r,x=>(if lt e x then 1 else 0)+rk lt r x
structure oD (lt:α→α→Prop):Prop where
 irr:∀x,¬lt x x
 tr:∀x y z,lt x y→lt y z→lt x z
 tri:∀x y,lt x y∨x=y∨lt y x
variable {lt:α→α→Prop}
theorem Ym(h:oD lt){x y:α}(hxy:lt x y):∀L,rk lt L x≤rk lt L y
 |[]=>alL _
 |e::r=>by
  have:=Ym h hxy r
  unfold rk
  by_cases h1:lt e x
  ·rw[ama h1,ama (h.tr _ _ _ h1 hxy)];omega
  ·rw[al3 h1];omega
theorem D5(h:oD lt){x y:α}(hxy:lt x y):∀{L},x∈L→rk lt L x<rk lt L y
 |e::r,hm=>by
  have h0:=Ym h hxy r
  unfold rk
  rcases al0.1 hm with rfl|hm
  ·rw[al3 (h.irr _),ama hxy];omega
  ·have:=D5 h hxy hm
   by_cases h1:lt e x
   ·rw[ama h1,ama (h.tr _ _ _ h1 hxy)];omega
   ·rw[al3 h1];omega
theorem adC(L:List α)(x:α):rk lt L x≤L.length:=by
 induction L with
 |nil=>exact alL _
 |cons e r ih=>
  unfold rk
  rw[alY]
  split<;>omega
theorem iG(h:oD lt){x:α}:∀{L},x∈L→rk lt L x<L.length
 |e::r,hm=>by
  unfold rk
  rw[alY]
  rcases al0.1 hm with rfl|hm
  ·rw[al3 (h.irr _)];have:=adC (lt:=lt) r x;omega
  ·have:=iG h hm
   split<;>omega
def t7(lt:α→α→Prop)(c:α→α→Int):Prop:=∀x y,(lt x y→c x y= -1)∧(x=y→c x y=0)∧(lt y x→c x y=1)
def cI(i j:Nat):Int:=if i<j then-1 else if i=j then 0 else 1
theorem rM(h:oD lt){c:α→α→Int}(hc:t7 lt c){L:List α}{x y:α}(hx:x∈L)(hy:y∈L):c x y=cI (rk lt L x) (rk lt L y):=by
 unfold cI
 rcases h.tri x y with e|e|e
 ·rw[(hc x y).1 e,ama (D5 h e hx)]
 ·subst e;rw[(hc x x).2.1 rfl,al3 (Nat.lt_irrefl _),ama rfl]
 ·have:=D5 h e hy
  rw[(hc x y).2.2 e,al3 (by omega),al3 (by omega)]
end
section
variable {α:Type} (cmp:α→α→Int)
def rj(p q:Bool×α):Int:=bif p.1==q.1 then(bif p.1 then-cmp p.2 q.2 else cmp p.2 q.2)else(bif p.1 then-1 else 1)
def ow(f p:Bool×α):Int:=bif rj cmp p f==0 then 0 else bif decide (rj cmp p f>0)then 1 else 2
def jW(n:Int):Int:=if n<0 then-1 else if n=0 then 0 else 1
def gC(f p q:Bool×α):Int:=bif ow cmp f p==ow cmp f q then jW (rj cmp p q)else jW (ow cmp f p-ow cmp f q)
def jI(p q:Bool×α):Int:=bif p.1==q.1 then(bif p.1 then-cmp p.2 q.2 else cmp p.2 q.2)else(bif q.1 then-1 else 1)
def jT(f p q:Bool×α):Int:=bif decide (jI cmp p f<0)==decide (jI cmp q f<0)then jI cmp p q else(bif decide (jI cmp q f<0)then-1 else 1)
variable {cmp} {β:Type} {cmq:β→β→Int}
theorem rR{u v:Bool}{a b:α}{c d:β}(h:cmp a b=cmq c d):rj cmp (u,a) (v,b)=rj cmq (u,c) (v,d):=by unfold rj;rw[h]
theorem rD{u v:Bool}{a b:α}{c d:β}(h:cmp a b=cmq c d):jI cmp (u,a) (v,b)=jI cmq (u,c) (v,d):=by unfold jI;rw[h]
theorem gQ{u v w:Bool}{f p q:α}{f' p' q':β}(h1:cmp p f=cmq p' f')(h2:cmp q f=cmq q' f')(h3:cmp p q=cmq p' q'):gC cmp (u,f) (v,p) (w,q)=gC cmq (u,f') (v,p') (w,q'):=by
 unfold gC ow
 rw[rR h1,rR h2,rR h3]
theorem fH{u v w:Bool}{f p q:α}{f' p' q':β}(h1:cmp p f=cmq p' f')(h2:cmp q f=cmq q' f')(h3:cmp p q=cmq p' q'):jT cmp (u,f) (v,p) (w,q)=jT cmq (u,f') (v,p') (w,q'):=by
 unfold jT
 rw[rD h1,rD h2,rD h3]
end
def ml(k i l j:Nat):Bool:=(k !=0||(bif l==0 then i==j else decide (j<i)))&&(k !=2||(bif l==2 then i==j else decide (i<j)))
def upA(k:Nat):Bool:=k==0||k==1
def ufA(k:Nat):Bool:=k==1||k==2
def dI(i j:Nat):Int:=cI j i
def Fp(k i l j m n:Nat):Bool:=ml k i l j&&ml l j k i&&ml k i m n&&ml m n k i&&ml l j m n&&ml m n l j
theorem Tt:∀kF kP kT:Fin 4,∀iF iP iT:Fin 3,Fp kF.1 iF.1 kP.1 iP.1 kT.1 iT.1=true→
  decide (gC cI (upA kF.1,iF.1) (upA kP.1,iP.1) (upA kT.1,iT.1)≤0)=(decide (jT cI (upA kF.1,iF.1) (upA kF.1,iF.1) (upA kP.1,iP.1)≤0)&&decide (jT cI (upA kF.1,iF.1) (upA kP.1,iP.1) (upA kT.1,iT.1)≤0)):=by decide+kernel
theorem adY:∀kF kP kT:Fin 4,∀iF iP iT:Fin 3,Fp kF.1 iF.1 kP.1 iP.1 kT.1 iT.1=true→
  decide (gC cI (upA kT.1,iT.1) (upA kP.1,iP.1) (upA kF.1,iF.1)≤0)=(decide (jT dI (ufA kF.1,iF.1) (ufA kF.1,iF.1) (ufA kP.1,iP.1)≤0)&&decide (jT dI (ufA kF.1,iF.1) (ufA kP.1,iP.1) (ufA kT.1,iT.1)≤0)):=by decide+kernel
def uu(a b:Int):Bool:=a==0||b==0||a==b
def ahv(d a b:Int):Bool:=decide ((bif decide (d>0)then-a else a)≤0)&&decide ((bif decide (d>0)then-b else b)≤0)
theorem Bq:∀f p t:Fin 3,uu (cI f.1 p.1) (cI p.1 t.1)=ahv (cI f.1 t.1) (cI f.1 p.1) (cI p.1 t.1):=by decide+kernel
namespace RE
theorem lt_lin:oD (fun x y:RE=>x<y):=⟨lt_irrefl,fun _ _ _=>cW,mp⟩
theorem sH(x y:RE)(h1:x<y):x-y<0:=by grind
theorem Aw(x y:RE)(h1:y<x):0<x-y:=by grind
theorem sg_cmpO:t7 (fun x y:RE=>x<y) (fun x y=>sg (x-y)):=fun x y=>⟨fun h=>gk (sH _ _ h),fun h=>by subst h;show sg (x-x)=0;rw[sub_self,db],fun h=>dt (Aw _ _ h)⟩
def adm(p q:RE×RE):Prop:=p.1<q.1∨(p.1=q.1∧p.2<q.2)
theorem jJ:oD adm:=by
 refine⟨fun x h=>?_,fun x y z h1 h2=>?_,fun x y=>?_⟩
 ·rcases h with h|h
  ·exact lt_irrefl _ h
  ·exact lt_irrefl _ h.2
 ·rcases h1 with h1|⟨h1,h1'⟩
  ·rcases h2 with h2|⟨h2,h2'⟩
   ·exact .inl (cW h1 h2)
   ·exact .inl (h2▸h1)
  ·rcases h2 with h2|⟨h2,h2'⟩
   ·exact .inl (h1▸h2)
   ·exact .inr ⟨h1.trans h2,cW h1' h2'⟩
 ·rcases mp x.1 y.1 with h|h|h
  ·exact .inl (.inl h)
  ·rcases mp x.2 y.2 with h'|h'|h'
   ·exact .inl (.inr ⟨h,h'⟩)
   ·exact .inr (.inl (amV h h'))
   ·exact .inr (.inr (.inr ⟨h.symm,h'⟩))
  ·exact .inr (.inr (.inl h))
def lxc(p q:RE×RE):Int:=bif sg (p.1-q.1)==0 then sg (p.2-q.2)else sg (p.1-q.1)
theorem ik:t7 adm lxc:=fun p q=>by
 unfold lxc
 refine⟨fun h=>?_,fun h=>?_,fun h=>?_⟩
 ·rcases h with h|⟨h,h'⟩
  ·rw[gk (sH _ _ h)];rfl
  ·rw[h,sub_self,db,gk (sH _ _ h')];rfl
 ·subst h
  rw[sub_self,sub_self,db];rfl
 ·rcases h with h|⟨h,h'⟩
  ·rw[dt (Aw _ _ h)];rfl
  ·rw[←h,sub_self,db,dt (Aw _ _ h')];rfl
def cls(u v:RE):Nat:=bif sg v==1 then 1 else bif sg v== -1 then 3 else bif sg u==1 then 0 else 2
theorem gT(u v:RE):cls u v<4:=by
 unfold cls
 cases sg v==1<;>cases sg v== -1<;>cases sg u==1<;>simp
theorem abx(u v:RE):(decide (sg v>0)||(sg v==0&&decide (sg u>0)))=upA (cls u v):=by
 unfold cls
 rcases bh v with⟨_,h⟩|⟨_,h⟩|⟨_,h⟩<;>rcases bh u with⟨_,h'⟩|⟨_,h'⟩|⟨_,h'⟩<;>rw[h,h']<;>rfl
theorem adU{u v Q:RE}(hQ:0<Q)(h:u*u+v*v=Q):(decide (sg v>0)||(sg v==0&&decide (-sg u>0)))=ufA (cls u v):=by
 unfold cls
 rcases bh v with⟨_,h1⟩|⟨h0,h1⟩|⟨_,h1⟩<;>rcases bh u with⟨_,h'⟩|⟨h2,h'⟩|⟨_,h'⟩<;>rw[h1,h']<;>try rfl
 rw[h0,h2,mul_zero,add_zero]at h
 rw[←h]at hQ
 exact absurd hQ (lt_irrefl _)
theorem KM(u v w z Q:RE):2*((u-(0))*(w-(u)))+((w-(u))*(w-(u)))+((u*u+v*v-(Q)))+((Q-(w*w+z*z)))+((z*z-(0)))+((0-(v))*(v-(0)))=0:=by grind
theorem aa6(u v w z Q:RE)(h1:u*u+v*v=Q)(h2:w*w+z*z=Q)(h3:v=0)(h4:0<u)(h5:0≤z*z):w≤u:=fun hg=>far (aI (aI (aI (aI (aI (Jp (by decide+kernel:(0:Rat)<2) (mul_pos (aK h4) (aK hg))) (le_of_lt (mul_pos (aK hg) (aK hg)))) (aE (mM h1))) (aE (oa h2))) (aE h5)) (bi (aE (oa h3)) (aE (mM h3)))) (KM u v w z Q)
theorem So(u v w z Q:RE):2*((0-(u))*(u-(w)))+((u-(w))*(u-(w)))+((u*u+v*v-(Q)))+((Q-(w*w+z*z)))+((z*z-(0)))+((0-(v))*(v-(0)))=0:=by grind
theorem abF(u v w z Q:RE)(h1:u*u+v*v=Q)(h2:w*w+z*z=Q)(h3:v=0)(h4:u<0)(h5:0≤z*z):u≤w:=fun hg=>far (aI (aI (aI (aI (aI (Jp (by decide+kernel:(0:Rat)<2) (mul_pos (aK h4) (aK hg))) (le_of_lt (mul_pos (aK hg) (aK hg)))) (aE (mM h1))) (aE (oa h2))) (aE h5)) (bi (aE (oa h3)) (aE (mM h3)))) (So u v w z Q)
theorem Ri(u w z Q:RE)(h1:u*u=Q)(h2:w*w+z*z=Q)(h3:w*w=u*u):z*z≤0:=by grind
theorem wv{z:RE}(h:z*z≤0):z=0:=by
 rcases mp z 0 with e|e|e
 ·have:=mul_pos (jP e) (jP e)
  rw[neg_mul,mul_neg,neg_neg]at this
  exact absurd this (fun h'=>lt_irrefl _ (cW h' (by
   rcases iq (ir z)with h2|h2
   ·exact absurd h2 ((AF _ _).1 h)
   ·rw[h2]at h';exact absurd h' (lt_irrefl _))))
 ·exact e
 ·exact absurd (mul_pos e e) ((AF _ _).1 h)
theorem Jt{u v:RE}:cls u v=0↔v=0∧0<u:=by
 unfold cls
 rcases bh v with⟨a,h1⟩|⟨a,h1⟩|⟨a,h1⟩<;>rcases bh u with⟨b,h'⟩|⟨b,h'⟩|⟨b,h'⟩<;>rw[h1,h']<;>simp[a,b]<;>first|exact lt_irrefl _|exact fun h=>absurd (cW h b) (lt_irrefl _)|(intro h;rw[h]at a;exact absurd a (lt_irrefl _))|skip
end RE
end
section
def xP(p:Pt):Rt:=coR p.1 p.2.1 p.2.2.2.2
def yP(p:Pt):Rt:=coR p.2.2.1 p.2.2.2.1 p.2.2.2.2
def atP(v:Rat×Rat):Pt:=(v.1,0,v.2,0,0)
def rdP(p:Pt):Pt:=(p.1,p.2.1,p.2.2.1,p.2.2.2.1,bif decide (p.2.1=0)&&decide (p.2.2.2.1=0)then 0 else p.2.2.2.2)
def mkP(x y:Rt):Pt:=rdP (x.1,x.2.1,y.1,y.2.1,bif decide (x.2.1=0)then y.2.2 else x.2.2)
def vu(x y:Rt):Prop:=x.2.1=0∨y.2.1=0∨x.2.2=y.2.2
instance (x y:Rt):Decidable (vu x y):=by unfold vu;infer_instance
def aX(p q:Pt):Int:=bif a8 (xP p) (xP q)==0 then a8 (yP p) (yP q)else a8 (xP p) (xP q)
def trP(p:Pt)(v:Rat×Rat):Pt:=(p.1+v.1,p.2.1,p.2.2.1+v.2,p.2.2.2.1,p.2.2.2.2)
def bkV(v:Rat×Rat):Rat×Rat:=(-v.1,-v.2)
def sqA(p:Pt)(v:Rat×Rat):Rat:=(p.1-v.1)*(p.1-v.1)+(p.2.2.1-v.2)*(p.2.2.1-v.2)+(p.2.1*p.2.1+p.2.2.2.1*p.2.2.2.1)*p.2.2.2.2
def sqB(p:Pt)(v:Rat×Rat):Rat:=(p.1-v.1)*p.2.1+(p.2.2.1-v.2)*p.2.2.2.1+((p.1-v.1)*p.2.1+(p.2.2.1-v.2)*p.2.2.2.1)
def sqP(p:Pt)(v:Rat×Rat):Rt:=coR (sqA p v) (sqB p v) p.2.2.2.2
def Fk(p:Pt):Prop:=(p.2.1=0∧p.2.2.2.1=0∧p.2.2.2.2=0)∨(¬(p.2.1=0∧p.2.2.2.1=0)∧0<p.2.2.2.2∧fM p.2.2.2.2=false)
instance (p:Pt):Decidable (Fk p):=by unfold Fk;infer_instance
class Rpd (p:Pt):Prop where
 rd:Fk p
def okP(k:Nat)(x:BP):Prop:=ok Pt k x∧Fk (dec x)
instance (k:Nat) (x:BP):Decidable (okP k x):=by unfold okP;infer_instance
theorem a9{k:Nat}{x:BP}(h:okP k x):∃v:Pt,x=enc v∧Bd v k∧Rpd v:=by
 obtain⟨h1,h2⟩:=h
 obtain⟨v,rfl,bv⟩:=aB h1
 rw[az]at h2
 exact⟨v,rfl,bv,⟨h2⟩⟩
theorem aJ{x:Pt}{j k:Nat}[h:Bd x j][r:Rpd x](hj:j≤k)(hk:k≤480000):decide (okP k (enc x))=true:=alF ⟨alI (okd hj hk),by rw[az];exact r.rd⟩
theorem Rpd.ns{p:Pt}(h:Rpd p):Ns p.2.2.2.2:=⟨by rcases h.rd with h|h;exact .inl h.2.2;exact .inr h.2⟩
instance alq {p:Pt} [h:Rpd p]:Ns p.2.2.2.2:=h.ns
theorem Rpd.nn{p:Pt}(h:Rpd p):0≤p.2.2.2.2:=h.ns.nn
theorem K6{a b c:Rat}(h:Ns c)(hb:b=0∨c≠0):Rdd (coR a b c):=by
 refine⟨?_⟩
 unfold coR
 by_cases e:b=0
 ·rw[alF e];exact .inl ⟨rfl,rfl⟩
 ·rw[alH e]
  rcases h.ns with h|h
  ·rcases hb with hb|hb
   ·exact absurd hb e
   ·exact absurd h hb
  ·exact .inr ⟨e,h⟩
theorem Rpd.b0{p:Pt}(h:Rpd p):(p.2.1=0∧p.2.2.2.1=0)∨p.2.2.2.2≠0:=by
 rcases h.rd with h|h
 ·exact .inl ⟨h.1,h.2.1⟩
 ·exact .inr (by have:=h.2.1;grind)
instance akX {p:Pt} [h:Rpd p]:Rdd (xP p):=K6 h.ns (by rcases h.b0 with h|h;exact .inl h.1;exact .inr h)
instance aj0 {p:Pt} [h:Rpd p]:Rdd (yP p):=K6 h.ns (by rcases h.b0 with h|h;exact .inl h.2;exact .inr h)
instance alw {p:Pt} {v:Rat×Rat} [h:Rpd p]:Rdd (sqP p v):=K6 h.ns (by
 rcases h.b0 with h|h
 ·refine .inl ?_
  unfold sqB
  rw[h.1,h.2]
  grind
 ·exact .inr h)
instance alt {v:Rat×Rat}:Rpd (atP v):=⟨.inl ⟨rfl,rfl,rfl⟩⟩
instance alg {p:Pt} {v:Rat×Rat} [h:Rpd p]:Rpd (trP p v):=⟨h.rd⟩
theorem WE{x y:Rt}(hx:Rdd x)(hy:Rdd y)(_h:vu x y):Rpd (mkP x y):=by
 refine⟨?_⟩
 unfold mkP rdP Fk
 dsimp only
 rcases hx.rd with⟨a1,a2⟩|⟨a1,a2,a3⟩<;>rcases hy.rd with⟨b1,b2⟩|⟨b1,b2,b3⟩
 ·simp[a1,b1]
 ·simp[a1,b1,b2,b3]
 ·simp[a1,b1,a2,a3]
 ·simp[a1,b1,a2,a3]
section
variable {p:Pt} {j:Nat}
instance ali [h:Bd p j]:Bd (xP p) (mx j (mx j j)):=inferInstanceAs (Bd (coR p.1 p.2.1 p.2.2.2.2) _)
instance alo [h:Bd p j]:Bd (yP p) (mx j (mx j j)):=inferInstanceAs (Bd (coR p.2.2.1 p.2.2.2.1 p.2.2.2.2) _)
instance akM {v:Rat×Rat} [h:Bd v j]:Bd (atP v) (mx j (mx 1 (mx j (mx 1 1)))):=inferInstanceAs (Bd ((v.1,0,v.2,0,0):Pt) _)
instance ak8 {v:Rat×Rat} {k:Nat} [h:Bd p j] [h':Bd v k]:Bd (trP p v) (mx (j+k+1) (mx j (mx (j+k+1) (mx j j)))):=inferInstanceAs (Bd ((p.1+v.1,p.2.1,p.2.2.1+v.2,p.2.2.2.1,p.2.2.2.2):Pt) _)
instance alh {v:Rat×Rat} [h:Bd v j]:Bd (bkV v) (mx j j):=inferInstanceAs (Bd ((-v.1,-v.2):Rat×Rat) _)
end
instance aj8 {p:Pt} {j:Nat} [h:Bd p j]:Bd (rdP p) (mx j (mx j (mx j (mx j (mx 1 j))))):=inferInstanceAs (Bd ((p.1,p.2.1,p.2.2.1,p.2.2.2.1,bif decide (p.2.1=0)&&decide (p.2.2.2.1=0)then 0 else p.2.2.2.2):Pt) _)
instance aco {x y:Rt} {j k:Nat} [h:Bd x j] [h':Bd y k]:Bd (mkP x y) (mx (mx j (mx j (mx k (mx k (mx k j))))) (mx (mx j (mx j (mx k (mx k (mx k j))))) (mx (mx j (mx j (mx k (mx k (mx k j))))) (mx (mx j (mx j (mx k (mx k (mx k j))))) (mx 1 (mx j (mx j (mx k (mx k (mx k j)))))))))):=inferInstanceAs (Bd (rdP (x.1,x.2.1,y.1,y.2.1,bif decide (x.2.1=0)then y.2.2 else x.2.2)) _)
theorem cV{j k n:Nat}(h1:j≤n)(h2:k≤n):mx j k≤n:=by
 unfold mx
 cases decide (j≤k)
 ·exact h1
 ·exact h2
section
variable {p:Pt} {v:Rat×Rat} {j k:Nat}
instance ak0 [h:Bd p j] [h':Bd v k]:Bd (sqA p v) (10*(j+k+1)):=by
 have a1:Bd (p.1-v.1) _:=inferInstance
 have a2:Bd (p.2.2.1-v.2) _:=inferInstance
 have a3:Bd (p.2.1*p.2.1+p.2.2.2.1*p.2.2.2.1) _:=inferInstance
 have i:Bd ((p.1-v.1)*(p.1-v.1)+(p.2.2.1-v.2)*(p.2.2.1-v.2)+(p.2.1*p.2.1+p.2.2.2.1*p.2.2.2.1)*p.2.2.2.2) _:=inferInstance
 exact i.mono (by omega)
instance akS [h:Bd p j] [h':Bd v k]:Bd (sqB p v) (10*(j+k+1)):=by
 have a1:Bd (p.1-v.1) _:=inferInstance
 have a2:Bd (p.2.2.1-v.2) _:=inferInstance
 have i:Bd ((p.1-v.1)*p.2.1+(p.2.2.1-v.2)*p.2.2.2.1+((p.1-v.1)*p.2.1+(p.2.2.1-v.2)*p.2.2.2.1)) _:=inferInstance
 exact i.mono (by omega)
instance ajx [h:Bd p j] [h':Bd v k]:Bd (sqP p v) (10*(j+k+1)):=by
 have i:Bd (coR (sqA p v) (sqB p v) p.2.2.2.2) _:=inferInstance
 exact i.mono (cV (by omega) (cV (by omega) (by omega)))
end
namespace RE
def pX(p:Pt):RE:=v2 p.1 p.2.1 p.2.2.2.2
def pY(p:Pt):RE:=v2 p.2.2.1 p.2.2.2.1 p.2.2.2.2
def pR(p:Pt):RE×RE:=(pX p,pY p)
theorem sA(p:Pt):vR (xP p)=pX p:=vR_co _ _ _
theorem UM(p:Pt):vR (yP p)=pY p:=vR_co _ _ _
theorem lC{p:Pt}[h:Rpd p]:0≤(xP p).2.2:=(akX (p:=p)).nn
theorem Hw{p:Pt}[h:Rpd p]:0≤(yP p).2.2:=(aj0 (p:=p)).nn
theorem iW{p q:Pt}[Rpd p][Rpd q]:aX p q=lxc (pR p) (pR q):=by
 unfold aX lxc
 rw[cmpT_re lC lC,cmpT_re Hw Hw,sA,sA,UM,UM]
 rfl
theorem abX(x y s t c u w:RE):(x+s*c-u)*(x+s*c-u)+(y+t*c-w)*(y+t*c-w)=(x-u)*(x-u)+(y-w)*(y-w)+(s*s+t*t)*(c*c)+((x-u)*s+(y-w)*t+((x-u)*s+(y-w)*t))*c:=by grind
theorem Gk{p:Pt}{v:Rat×Rat}[h:Rpd p]:vR (sqP p v)=(pX p-of v.1)*(pX p-of v.1)+(pY p-of v.2)*(pY p-of v.2):=by
 unfold sqP pX pY
 rw[vR_co]
 unfold v2
 rw[abX,fS h.nn]
 unfold sqA sqB
 simp only[of_add,of_sub,aF]
theorem ad1(v:Rat×Rat):pX (atP v)=of v.1:=dN _ _
theorem ag3(v:Rat×Rat):pY (atP v)=of v.2:=dN _ _
end RE
end
theorem kJ(a b:Rat):(aG a b !=0)=!decide (a=b):=by
 unfold bne
 rw[aq]
def YP:List En:=[⟨99,iA,eW⟩,⟨108,gO,eM⟩,⟨107,iO,fk⟩,⟨106,ie,fc⟩,⟨41,fC,dQ⟩,⟨73,lY,iu⟩,enT Ef]
def Yq(_k:KT):Option (List RV):=og (decide (aH (0:Int))) (some [RV.d tR (hid (am ((0:Int):Rat)))])
def afE:Cn 227 []:=cn<|lf True [.d tR (am 0)] fun _=>by
 refine aA YP (Yq) ⟨0,?_⟩
 unfold Yq
 rw[dT (show aH 0 by decide)]
 simp only[bO]
 rfl
def IA:List En:=enL afE::YP
def Z5(v:BV)(_k:KT):Option (List RV):=some [RV.d tP (v.1,(hid (am 0),(v.2,(hid (am 0),hid (am 0)))))]
def Hk:Cn 115 [tV]:=cn fun(v:BV)=>lf (ok (Rat×Rat) 100000 v) [.d tP (enc (atP (dec v)))] fun h=>by
 refine aA IA (Z5 v) ⟨0,?_⟩
 have hv:=h
 obtain⟨v,rfl,bv⟩:=aB hv
 unfold Z5
 simp only[aS]
 try rfl
def Xc(p:BP)(_k:KT):Option (List RV):=og (o1 p.2.1) (match(aG (ah p.2.1) 0)==0 with|true=>(og (o1 p.2.2.2.1) (match(aG (ah p.2.2.2.1) 0)==0 with|true=>some [RV.d tP (p.1,(p.2.1,(p.2.2.1,(p.2.2.2.1,hid (am 0)))))]|false=>some [RV.d tP p]))|false=>some [RV.d tP p])
def aiN:Cn 306 [tP]:=cn fun(p:BP)=>lf (ok Pt 21000 p) [.d tP (enc (rdP (dec p)))] fun h=>by
 refine aA IA (Xc p) ⟨0,?_⟩
 have hp:=h
 obtain⟨p,rfl,bp⟩:=aB hp
 unfold Xc
 simp only[aS,Nat.reduceLeDiff,aq]
 unfold rdP
 by_cases h1:p.2.1=0
 ·by_cases h2:p.2.2.2.1=0
  ·rw[alF h1,alF h2];rfl
  ·rw[alF h1,alH h2];rfl
 ·rw[alH h1];rfl
def Zf(a b c:BR)(_k:KT):Option (List RV):=og (o1 b) (match(aG (ah b) 0)==0 with|true=>some [RV.d tO (a,(b,hid (am 0)))]|false=>some [RV.d tO (a,(b,c))])
def ah1:Cn 211 [tR,tR,tR]:=cn fun(a b c:BR)=>lf (okR a∧okR b∧okR c) [.d tO (enc (coR (ah a) (ah b) (ah c)))] fun h=>by
 refine aA IA (Zf a b c) ⟨0,?_⟩
 obtain⟨ha,hb,hc⟩:=h
 obtain⟨a,rfl,ba⟩:=fd ha
 obtain⟨b,rfl,bb⟩:=fd hb
 obtain⟨c,rfl,bc⟩:=fd hc
 unfold Zf
 simp only[aS,Nat.reduceLeDiff,aq]
 unfold coR
 by_cases e:b=0
 ·subst e;rw[alF rfl];rfl
 ·rw[alH e];rfl
def DD:List En:=enL Hk::enL aiN::enL ah1::IA
def ZQ(x y:BO3)(_k:KT):Option (List RV):=og (o1 x.2.1) (match(aG (ah x.2.1) 0)==0 with|true=>(og (decide (ok Pt 21000 (x.1,(x.2.1,y)))) (some [RV.d tP (hid (enc (rdP (dec (x.1,(x.2.1,y)))))),RV.d aoX 0]))|false=>(og (o1 y.2.1) (match(aG (ah y.2.1) 0) !=0 with|true=>(og (o2 x.2.2 y.2.2) (match(aG (ah x.2.2) (ah y.2.2)) !=0 with|true=>some [RV.d tP (((false,[]),(false,[])),(((false,[]),(false,[])),(((false,[]),(false,[])),(((false,[]),(false,[])),((false,[]),(false,[])))))),RV.d aoX 1]|false=>(og (decide (ok Pt 21000 (x.1,(x.2.1,(y.1,(y.2.1,x.2.2)))))) (some [RV.d tP (hid (enc (rdP (dec (x.1,(x.2.1,(y.1,(y.2.1,x.2.2)))))))),RV.d aoX 0]))))|false=>(og (decide (ok Pt 21000 (x.1,(x.2.1,(y.1,(y.2.1,x.2.2)))))) (some [RV.d tP (hid (enc (rdP (dec (x.1,(x.2.1,(y.1,(y.2.1,x.2.2)))))))),RV.d aoX 0])))))
def Yd:Cn 220 [tO,tO]:=cn fun(x y:BO3)=>lf (okT 15000 x∧okT 15000 y∧vu (dec x) (dec y)) [.d tP (enc (mkP (dec x) (dec y))),.d aoX 0] fun h=>by
 refine aA DD (ZQ x y) ⟨0,?_⟩
 obtain⟨hx,hy,hy_2⟩:=h
 obtain⟨x,rfl,bx,rx⟩:=gg hx
 obtain⟨y,rfl,b_y,ry⟩:=gg hy
 have i1:decide (ok Pt 21000 (enc ((x.1,x.2.1,y):Pt)))=true:=okd (by decide) (by decide)
 have i2:decide (ok Pt 21000 (enc ((x.1,x.2.1,y.1,y.2.1,x.2.2):Pt)))=true:=okd (by decide) (by decide)
 have j1:(dec ((am x.1,am x.2.1,enc y):BP):Pt)=(x.1,x.2.1,y):=az ((x.1,x.2.1,y):Pt)
 have j2:(dec ((am x.1,am x.2.1,am y.1,am y.2.1,am x.2.2):BP):Pt)=(x.1,x.2.1,y.1,y.2.1,x.2.2):=az ((x.1,x.2.1,y.1,y.2.1,x.2.2):Pt)
 have i1:decide (ok Pt 21000 ((am x.1,am x.2.1,enc y):BP))=true:=i1
 have i2:decide (ok Pt 21000 ((am x.1,am x.2.1,am y.1,am y.2.1,am x.2.2):BP))=true:=i2
 have hm:=hy_2
 rw[az,az]at hm
 unfold ZQ
 simp only[aS,Nat.reduceLeDiff,aq,kJ,i1,i2,j1,j2]
 unfold mkP
 by_cases e1:x.2.1=0
 ·rw[alF e1];rfl
 ·rw[alH e1]
  by_cases e2:y.2.1=0
  ·rw[alF e2];rfl
  ·rw[alH e2,alF ((hm.resolve_left e1).resolve_left e2)];rfl
def aey(p:BP)(_k:KT):Option (List RV):=og (decide (okR p.1∧okR p.2.1∧okR p.2.2.2.2)) (some [RV.d tO (hid (enc (coR (ah p.1) (ah p.2.1) (ah p.2.2.2.2))))])
def aeB:Cn 282 [tP]:=cn fun(p:BP)=>lf (okP 4000 p) [.d tO (enc (xP (dec p)))] fun h=>by
 refine aA DD (aey p) ⟨0,?_⟩
 have hp:=h
 obtain⟨p,rfl,bp,rp⟩:=a9 hp
 unfold aey
 simp only[aS,Nat.reduceLeDiff]
 try rfl
def afF(p:BP)(_k:KT):Option (List RV):=og (decide (okR p.2.2.1∧okR p.2.2.2.1∧okR p.2.2.2.2)) (some [RV.d tO (hid (enc (coR (ah p.2.2.1) (ah p.2.2.2.1) (ah p.2.2.2.2))))])
def ahJ:Cn 283 [tP]:=cn fun(p:BP)=>lf (okP 4000 p) [.d tO (enc (yP (dec p)))] fun h=>by
 refine aA DD (afF p) ⟨0,?_⟩
 have hp:=h
 obtain⟨p,rfl,bp,rp⟩:=a9 hp
 unfold afF
 simp only[aS,Nat.reduceLeDiff]
 try rfl
def Wm(p:BP)(v:BV)(_k:KT):Option (List RV):=let y1:=hMu (hSu p.1 v.1) (hSu p.1 v.1);let y2:=hMu (hSu p.2.2.1 v.2) (hSu p.2.2.1 v.2);let y3:=hMu p.2.2.2.1 p.2.2.2.1;let y4:=hAd (hMu p.2.1 p.2.1) y3;let y5:=hMu (hSu p.1 v.1) p.2.1;let y6:=hMu (hSu p.2.2.1 v.2) p.2.2.2.1;let y7:=hAd (hAd y1 y2) (hMu y4 p.2.2.2.2);let y8:=hAd (hAd y5 y6) (hAd y5 y6);let y9:Option (List RV):=match decide (okR y5∧okR y6)with|true=>(og (o2 (hAd y5 y6) (hAd y5 y6)) (og (decide (okR y7∧okR y8∧okR p.2.2.2.2)) (some [RV.d tO (hid (enc (coR (ah y7) (ah y8) (ah p.2.2.2.2))))])))|false=>none;let y10:Option (List RV):=match decide (okR (hSu p.2.2.1 v.2)∧okR p.2.2.2.1)with|true=>y9|false=>none;let y11:Option (List RV):=match decide (okR (hAd y1 y2)∧okR (hMu y4 p.2.2.2.2))with|true=>ce (og (o2 (hSu p.1 v.1) p.2.1) (ce (og (o2 (hSu p.2.2.1 v.2) p.2.2.2.1) (dup (.b .l .l) y9)) y10)) (og (o2 (hSu p.1 v.1) p.2.1) y10)|false=>none;let y12:Option (List RV):=match decide (okR y4∧okR p.2.2.2.2)with|true=>y11|false=>none;let y13:Option (List RV):=match decide (okR (hMu p.2.1 p.2.1)∧okR y3)with|true=>y12|false=>none;let y14:Option (List RV):=match decide (okR p.2.2.2.1∧okR p.2.2.2.1)with|true=>y13|false=>none;let y15:Option (List RV):=match decide (okR p.2.1∧okR p.2.1)with|true=>y14|false=>none;let y16:Option (List RV):=match decide (okR y1∧okR y2)with|true=>y15|false=>none;let y17:Option (List RV):=match decide (okR (hSu p.2.2.1 v.2)∧okR (hSu p.2.2.1 v.2))with|true=>y16|false=>none;og (o2 p.1 v.1) (og (o2 p.2.2.1 v.2) (ce (og (o2 (hSu p.1 v.1) (hSu p.1 v.1)) (ce (og (o2 (hSu p.2.2.1 v.2) (hSu p.2.2.1 v.2)) (ce (og (o2 y1 y2) (ce (og (o2 p.2.1 p.2.1) (ce (og (o2 p.2.2.2.1 p.2.2.2.1) (ce (og (o2 (hMu p.2.1 p.2.1) y3) (ce (og (o2 y4 p.2.2.2.2) (dup (.b .l .l) y11)) y12)) y13)) y14)) y15)) y16)) y17)) (og (o2 (hSu p.1 v.1) (hSu p.1 v.1)) y17)))
def Zc:Cn 101 [tP,tV]:=cn fun(p:BP) (v:BV)=>lf (okP 3500 p∧ok (Rat×Rat) 300 v) [.d tO (enc (sqP (dec p) (dec v)))] fun h=>by
 refine aA DD (Wm p v) ⟨0,?_⟩
 obtain⟨hp,hv⟩:=h
 obtain⟨p,rfl,bp,rp⟩:=a9 hp
 obtain⟨v,rfl,bv⟩:=aB hv
 unfold Wm
 simp only[aS,Nat.reduceAdd,Nat.reduceLeDiff]
 rfl
def agw:List En:=enL aeB::enL ahJ::DD
def Xk(p q:BP)(_k:KT):Option (List RV):=og (decide (okP 4000 p)) (og (decide (okP 4000 q)) (og (decide (okT 15000 (hid (enc (xP (dec p))))∧okT 15000 (hid (enc (xP (dec q)))))) (match(a8 (dec (hid (enc (xP (dec p))))) (dec (hid (enc (xP (dec q)))))) !=0 with|true=>some [RV.d aoX (a8 (dec (hid (enc (xP (dec p))))) (dec (hid (enc (xP (dec q))))))]|false=>(og (decide (okP 4000 p)) (og (decide (okP 4000 q)) (og (decide (okT 15000 (hid (enc (yP (dec p))))∧okT 15000 (hid (enc (yP (dec q)))))) (some [RV.d aoX (a8 (dec (hid (enc (yP (dec p))))) (dec (hid (enc (yP (dec q))))))])))))))
def QP:Cn 189 [tP,tP]:=cn fun(p q:BP)=>lf (okP 4000 p∧okP 4000 q) [.d aoX (aX (dec p) (dec q))] fun h=>by
 refine aA agw (Xk p q) ⟨0,?_⟩
 obtain⟨hp,hq⟩:=h
 obtain⟨p,rfl,bp,rp⟩:=a9 hp
 obtain⟨q,rfl,bq,rq⟩:=a9 hq
 unfold Xk
 simp only[aS,Nat.reduceLeDiff,aM,aJ]
 unfold aX bne
 cases a8 (xP p) (xP q)==0<;>rfl
section
def qH(l:Ln)(p:Pt):Rat:=l.1*p.1+l.2.1*p.2.2.1-l.2.2
def qI(l:Ln)(p:Pt):Rat:=l.1*p.2.1+l.2.1*p.2.2.2.1
def rX(l:Ln)(p:Pt):Int:=gz (qH l p) (qI l p) p.2.2.2.2
def ctr(c:Ln):Rat×Rat:=(c.1,c.2.1)
def oC(c:Ln)(p:Pt):Int:= -gz (sqA p (ctr c)-c.2.2) (sqB p (ctr c)) p.2.2.2.2
def kY(l:Ln)(v:Rat×Rat):Rat:=(l.1*v.1+l.2.1*v.2-l.2.2)/(l.1*l.1+l.2.1*l.2.1)
def dV(l:Ln)(v:Rat×Rat):Rat×Rat:=(v.1-kY l v*l.1,v.2-kY l v*l.2.1)
section
variable {l:Ln} {p:Pt} {v:Rat×Rat} {i j k:Nat}
instance ajD [h:Bd l i]:Bd (ctr l) (mx i i):=inferInstanceAs (Bd ((l.1,l.2.1):Rat×Rat) _)
instance ajk [h:Bd l i] [h':Bd p j]:Bd (qH l p) ((i+j)+(i+j)+1+i+1):=inferInstanceAs (Bd (l.1*p.1+l.2.1*p.2.2.1-l.2.2) _)
instance aji [h:Bd l i] [h':Bd p j]:Bd (qI l p) ((i+j)+(i+j)+1):=inferInstanceAs (Bd (l.1*p.2.1+l.2.1*p.2.2.2.1) _)
instance ajc [h:Bd l i] [h':Bd v k]:Bd (kY l v) (((i+k)+(i+k)+1+i+1)+((i+i)+(i+i)+1)):=inferInstanceAs (Bd ((l.1*v.1+l.2.1*v.2-l.2.2)/(l.1*l.1+l.2.1*l.2.1)) _)
instance aew [h:Bd l i] [h':Bd v k]:Bd (dV l v) (8*i+3*k+4):=by
 have i1:Bd (v.1-kY l v*l.1) _:=inferInstance
 have i2:Bd (v.2-kY l v*l.2.1) _:=inferInstance
 have i3:Bd ((v.1-kY l v*l.1,v.2-kY l v*l.2.1):Rat×Rat) _:=inferInstance
 exact i3.mono (cV (by omega) (by omega))
end
theorem j8{a b:Rat}(h:a≠0∨b≠0):a*a+b*b≠0:=by
 have ha:0≤a*a:=by
  rcases(by grind:0≤a∨0≤ -a)with h|h
  ·exact al8 h h
  ·have:=al8 h h;grind
 have hb:0≤b*b:=by
  rcases(by grind:0≤b∨0≤ -b)with h|h
  ·exact al8 h h
  ·have:=al8 h h;grind
 intro e
 have e1:a*a=0:=by grind
 have e2:b*b=0:=by grind
 rcases h with h|h
 ·exact h (by rcases anX.1 e1 with h|h<;>exact h)
 ·exact h (by rcases anX.1 e2 with h|h<;>exact h)
namespace RE
theorem abU(a b x s y t c r:RE):a*(x+s*r)+b*(y+t*r)+ -c=a*x+b*y-c+(a*s+b*t)*r:=by grind
theorem ahE(a b q r:RE):a+b*r+ -q=a-q+b*r:=by grind
theorem LJ(a b:RE):a+ -b=a-b:=rfl
theorem A8(l:Ln){p:Pt}[h:Rpd p]:rX l p=sg (of l.1*pX p+of l.2.1*pY p+ -of l.2.2):=by
 unfold rX pX pY
 rw[sgn2_re h.nn]
 unfold v2
 rw[abU]
 unfold qH qI
 simp only[of_add,of_sub,aF]
theorem Ca(c:Ln){p:Pt}[h:Rpd p]:oC c p= -sg ((pX p-of c.1)*(pX p-of c.1)+(pY p-of c.2.1)*(pY p-of c.2.1)+ -of c.2.2):=by
 unfold oC
 have e:=Gk (p:=p) (v:=ctr c)
 unfold sqP at e
 rw[vR_co]at e
 rw[sgn2_re h.nn]
 unfold v2 at e ⊢
 rw[of_sub,←ahE,e]
 rfl
theorem sidL_ok(l:Ln){p:Pt}[Rpd p](h:(yf l p).2=true):(yf l p).1=rX l p:=by
 rw[US h,A8]
 try rfl
theorem insC_ok(c:Ln){p:Pt}[Rpd p](h:(t5 c p).2=true): -(t5 c p).1=oC c p:=by
 rw[SG h,Ca]
 simp only[LJ]
 try rfl
end RE
end
def jz(r s:Rt):Rat:=bif decide (r.2.1=0)then s.2.2 else r.2.2
def rN(r s:Rt):Bool:=decide (r.2.1=0)||(decide (s.2.1=0)||decide (r.2.2=s.2.2))
def oB(r s:Rt):Rt:=mB (r.1*s.1+r.2.1*s.2.1*jz r s) (r.1*s.2.1+r.2.1*s.1) (jz r s)
def yI(r s:Rt):Rt:=mB (r.1+s.1) (r.2.1+s.2.1) (jz r s)
def arT(r:Rt)(a:Rat):Rt:=(r.1+a,r.2.1,r.2.2)
theorem aY(a b:Rat):(aG a b !=0)=!decide (a=b):=by
 unfold bne
 rw[aq]
instance ala {r s:Rt} {i j:Nat} [h:Bd r i] [h':Bd s j]:Bd (jz r s) (mx j i):=inferInstanceAs (Bd (bif decide (r.2.1=0)then s.2.2 else r.2.2) _)
instance aje {a b c:Rat} {i j k:Nat} [ha:Bd a i] [hb:Bd b j] [hc:Bd c k]:Bd (mB a b c) (mx i (mx j k)):=by
 have h1:=AI i (mx j k)
 have h2:=Bp i (mx j k)
 have h3:=AI j k
 have h4:=Bp j k
 have h5:=nI ha.le
 have z:bdR (mx i (mx j k)) 0:=bJ lR.le (by omega)
 refine⟨?_⟩
 unfold mB
 cases decide (b=0)
 ·cases decide (c=0)
  ·exact⟨bJ ha.le (by omega),bJ hb.le (by omega),bJ hc.le (by omega)⟩
  ·exact⟨bJ ha.le (by omega),z,z⟩
 ·exact⟨bJ ha.le (by omega),z,z⟩
theorem Ku(r:Rt):rN r r=true:=by
 unfold rN
 rw[alF (rfl:r.2.2=r.2.2)]
 simp
theorem H6{p:Pt}{v:Rat×Rat}(h:Rpd p):rN (oB (xP (trP p (bkV v))) (xP (trP p (bkV v)))) (oB (yP (trP p (bkV v))) (yP (trP p (bkV v))))=true∧yI (oB (xP (trP p (bkV v))) (xP (trP p (bkV v)))) (oB (yP (trP p (bkV v))) (yP (trP p (bkV v))))=sqP p v:=by
 obtain⟨ax,bx,ay,b_,c⟩:=p
 have hr:=h.rd
 unfold Fk at hr
 simp only at hr
 unfold sqP sqA sqB xP yP trP bkV
 simp only
 rw[show ax+ -v.1=ax-v.1 by grind,show ay+ -v.2=ay-v.2 by grind]
 generalize ax-v.1=x
 generalize ay-v.2=y
 rcases hr with⟨rfl,rfl,rfl⟩|⟨h1,h2,h3⟩
 ·have e0:∀a:Rat,coR a 0 0=(a,0,0):=fun a=>rfl
  have e1:∀a:Rat,oB (a,0,0) (a,0,0)=(a*a,0,0):=fun a=>by
   unfold oB jz mB
   simp
   grind
  rw[e0,e0,e1,e1]
  refine⟨rfl,?_⟩
  rw[show x*0+y*0+(x*0+y*0)=(0:Rat) by grind]
  unfold yI jz mB coR
  simp
  grind
 ·have hc:c≠0:=by grind
  have dc:decide (c=0)=false:=alH hc
  have sq0:∀a:Rat,oB (coR a 0 c) (coR a 0 c)=(a*a,0,0):=fun a=>by
   unfold coR
   rw[alF rfl]
   unfold oB jz mB
   simp
   grind
  have sq1:∀a b:Rat,b≠0→oB (coR a b c) (coR a b c)=coR (a*a+b*b*c) (a*b+b*a) c:=fun a b hb=>by
   have e:coR a b c=(a,b,c):=by unfold coR;rw[alH hb];rfl
   rw[e]
   unfold oB jz mB coR
   simp only[alH hb,cond_false,dc]
  have cR:∀a b:Rat,mB a b c=coR a b c:=fun a b=>by unfold mB coR;rw[dc];rfl
  have ad:∀a b d e:Rat,rN (coR a b c) (coR d e c)=true∧(b≠0∨e≠0→yI (coR a b c) (coR d e c)=coR (a+d) (b+e) c)∧(b=0→e=0→yI (coR a b c) (coR d e c)=(a+d,0,0)):=fun a b d e=>by
   by_cases hb:b=0
   ·subst hb
    by_cases he:e=0
    ·subst he
     refine⟨rfl,fun h=>by simp at h,fun _ _=>?_⟩
     unfold coR yI jz mB
     simp
    ·refine⟨rfl,fun _=>?_,fun _ h=>absurd h he⟩
     have e1:coR a 0 c=(a,0,0):=rfl
     have e2:coR d e c=(d,e,c):=by unfold coR;rw[alH he];rfl
     rw[e1,e2]
     show mB (a+d) (0+e) c=_
     rw[cR]
   ·have e1:coR a b c=(a,b,c):=by unfold coR;rw[alH hb];rfl
    by_cases he:e=0
    ·subst he
     have e2:coR d 0 c=(d,0,0):=rfl
     refine⟨by rw[e1,e2];simp[rN],fun _=>?_,fun h=>absurd h hb⟩
     rw[e1,e2]
     unfold yI jz
     simp only[alH hb,cond_false]
     rw[cR]
    ·have e2:coR d e c=(d,e,c):=by unfold coR;rw[alH he];rfl
     refine⟨by rw[e1,e2];simp[rN],fun _=>?_,fun h=>absurd h hb⟩
     rw[e1,e2]
     unfold yI jz
     simp only[alH hb,cond_false]
     rw[cR]
  have c0:∀a:Rat,((a,0,0):Rt)=coR a 0 c:=fun a=>rfl
  by_cases hx:bx=0
  ·subst hx
   have hy:b_≠0:=fun e=>h1 ⟨rfl,e⟩
   rw[sq0,sq1 _ _ hy,c0]
   obtain⟨g1,g2,g3⟩:=ad (x*x) 0 (y*y+b_*b_*c) (y*b_+b_*y)
   refine⟨g1,?_⟩
   by_cases he:y*b_+b_*y=0
   ·rw[g3 rfl he,show x*0+y*b_+(x*0+y*b_)=0 by grind]
    show _=coR _ 0 c
    rw[←c0]
    congr 1
    grind
   ·rw[g2 (.inr he)]
    congr 1<;>grind
  ·by_cases hy:b_=0
   ·subst hy
    rw[sq0,sq1 _ _ hx,c0]
    obtain⟨g1,g2,g3⟩:=ad (x*x+bx*bx*c) (x*bx+bx*x) (y*y) 0
    refine⟨g1,?_⟩
    by_cases he:x*bx+bx*x=0
    ·rw[g3 he rfl,show x*bx+y*0+(x*bx+y*0)=0 by grind]
     show _=coR _ 0 c
     rw[←c0]
     congr 1
     grind
    ·rw[g2 (.inl he)]
     congr 1<;>grind
   ·rw[sq1 _ _ hx,sq1 _ _ hy]
    obtain⟨g1,g2,g3⟩:=ad (x*x+bx*bx*c) (x*bx+bx*x) (y*y+b_*b_*c) (y*b_+b_*y)
    refine⟨g1,?_⟩
    by_cases h0:x*bx+bx*x=0∧y*b_+b_*y=0
    ·rw[g3 h0.1 h0.2,show x*bx+y*b_+(x*bx+y*b_)=0 by grind]
     show _=coR _ 0 c
     rw[←c0]
     congr 1
     grind
    ·rw[g2 (by by_cases e:x*bx+bx*x=0;exact .inr (fun e'=>h0 ⟨e,e'⟩);exact .inl e)]
     congr 1<;>grind
theorem Rpd.com{p:Pt}{v:Rat×Rat}(h:Rpd p):rN (oB (xP (trP p (bkV v))) (xP (trP p (bkV v)))) (oB (yP (trP p (bkV v))) (yP (trP p (bkV v))))=true:=(H6 h).1
instance ajd {r s:Rt} {i j:Nat} [h:Bd r i] [h':Bd s j]:Bd (oB r s) (2*(i+j)+(mx j i)+1):=by
 have m:Bd (jz r s) (mx j i):=inferInstance
 have a1:Bd (r.1*s.1+r.2.1*s.2.1*jz r s) _:=inferInstance
 have a2:Bd (r.1*s.2.1+r.2.1*s.1) _:=inferInstance
 have i1:Bd (mB (r.1*s.1+r.2.1*s.2.1*jz r s) (r.1*s.2.1+r.2.1*s.1) (jz r s)) _:=inferInstance
 exact i1.mono (cV (by omega) (cV (by omega) (by omega)))
instance ajg {r s:Rt} {i j:Nat} [h:Bd r i] [h':Bd s j]:Bd (yI r s) (i+j+1):=by
 have i1:Bd (mB (r.1+s.1) (r.2.1+s.2.1) (jz r s)) _:=inferInstance
 exact i1.mono (cV (by omega) (cV (by omega) (cV (by omega) (by omega))))
instance ajS {r:Rt} {a:Rat} {i j:Nat} [h:Bd r i] [h':Bd a j]:Bd (arT r a) (i+j+1):=by
 have i1:Bd ((r.1+a,r.2.1,r.2.2):Rt) _:=inferInstance
 exact i1.mono (cV (by omega) (cV (by omega) (by omega)))
def Ad:List En:=[enT lT,enL l7,enL m7,enL ng,enT rQ,enL oK,enL QH,enL Fo,enL LP,enT Aq,enT AA]
def LV(r s:BO3)(_k:KT):Option (List RV):=og (o1 r.2.1) (match(aG (ah r.2.1) 0)==0 with|true=>some [RV.d tR s.2.2,RV.d .bool true]|false=>(og (o1 s.2.1) (match(aG (ah s.2.1) 0)==0 with|true=>some [RV.d tR r.2.2,RV.d .bool true]|false=>(og (o2 r.2.2 s.2.2) (some [RV.d tR r.2.2,RV.d .bool ((aG (ah r.2.2) (ah s.2.2))==0)])))))
def aax:Cn 312 [tO,tO]:=cn fun(r s:BO3)=>lf (ok Rt 100000 r∧ok Rt 100000 s) [.d tR (am (jz (dec r) (dec s))),.d .bool (rN (dec r) (dec s))] fun h=>by
 refine aA Ad (LV r s) ⟨0,?_⟩
 obtain⟨hr,hs⟩:=h
 obtain⟨r,rfl,br⟩:=aB hr
 obtain⟨s,rfl,bs⟩:=aB hs
 unfold LV
 simp only[aS,Nat.reduceLeDiff,aq]
 unfold jz rN
 cases decide (r.2.1=0)<;>cases decide (s.2.1=0)<;>rfl
def OO(r:BO3)(a:BR)(_k:KT):Option (List RV):=og (o2 r.1 a) (some [RV.d tO (hAd r.1 a,r.2)])
def Od:Cn 349 [tO,tR]:=cn fun(r:BO3) (a:BR)=>lf (ok Rt 100000 r∧ok Rat 100000 a) [.d tO (enc (arT (dec r) (ah a)))] fun h=>by
 refine aA Ad (OO r a) ⟨0,?_⟩
 obtain⟨hr,ha⟩:=h
 obtain⟨r,rfl,br⟩:=aB hr
 obtain⟨a,rfl,ba⟩:=aB ha
 unfold OO
 simp only[aS,Nat.reduceLeDiff]
 rfl
def OG(_k:KT):Option (List RV):=og (decide (aH (0:Int))) (some [RV.d tR (hid (am ((0:Int):Rat)))])
def acQ:Cn 239 []:=cn<|lf True [.d tR (am 0)] fun _=>by
 refine aA Ad (OG) ⟨0,?_⟩
 unfold OG
 rw[dT (show aH 0 by decide)]
 simp only[bO]
 rfl
def QK(p:BP)(v:BV)(_k:KT):Option (List RV):=og (o2 p.1 v.1) (og (o2 p.2.2.1 v.2) (some [RV.d tP (hAd p.1 v.1,(p.2.1,(hAd p.2.2.1 v.2,p.2.2.2)))]))
def FS:Cn 52 [tP,tV]:=cn fun(p:BP) (v:BV)=>lf (ok Pt 21000 p∧ok (Rat×Rat) 1000 v) [.d tP (enc (trP (dec p) (dec v)))] fun h=>by
 refine aA Ad (QK p v) ⟨0,?_⟩
 obtain⟨hp,hv⟩:=h
 obtain⟨p,rfl,bp⟩:=aB hp
 obtain⟨v,rfl,bv⟩:=aB hv
 unfold QK
 simp only[aS,Nat.reduceLeDiff]
 rfl
def Rn(v:BV)(_k:KT):Option (List RV):=og (o1 v.1) (og (o1 v.2) (some [RV.d tV (hNe v.1,hNe v.2)]))
def QE:Cn 235 [tV]:=cn fun(v:BV)=>lf (ok (Rat×Rat) 21000 v) [.d tV (enc (bkV (dec v)))] fun h=>by
 refine aA Ad (Rn v) ⟨0,?_⟩
 have hv:=h
 obtain⟨v,rfl,bv⟩:=aB hv
 unfold Rn
 simp only[aS,Nat.reduceLeDiff]
 rfl
def LW:List En:=enL aax::enL Od::enL acQ::enL FS::enL QE::Ad
def P7(r s:BO3)(_k:KT):Option (List RV):=og (decide (ok Rt 100000 r∧ok Rt 100000 s)) (match !(rN (dec r) (dec s))with|true=>some [RV.d tO (((false,[]),(false,[])),(((false,[]),(false,[])),((false,[]),(false,[])))),RV.d aoX 1]|false=>(og (o2 r.1 s.1) (og (o2 r.2.1 s.2.1) (og (o2 (hMu r.2.1 s.2.1) (hid (am (jz (dec r) (dec s))))) (og (o2 (hMu r.1 s.1) (hMu (hMu r.2.1 s.2.1) (hid (am (jz (dec r) (dec s)))))) (og (o2 r.1 s.2.1) (og (o2 r.2.1 s.1) (og (o2 (hMu r.1 s.2.1) (hMu r.2.1 s.1)) (og (decide (okR (hAd (hMu r.1 s.1) (hMu (hMu r.2.1 s.2.1) (hid (am (jz (dec r) (dec s))))))∧okR (hAd (hMu r.1 s.2.1) (hMu r.2.1 s.1))∧okR (hid (am (jz (dec r) (dec s)))))) (some [RV.d tO (hid (enc (mB (ah (hAd (hMu r.1 s.1) (hMu (hMu r.2.1 s.2.1) (hid (am (jz (dec r) (dec s))))))) (ah (hAd (hMu r.1 s.2.1) (hMu r.2.1 s.1))) (ah (hid (am (jz (dec r) (dec s)))))))),RV.d aoX 0]))))))))))
def O5:Cn 237 [tO,tO]:=cn fun(r s:BO3)=>lf (ok Rt 50000 r∧ok Rt 50000 s∧rN (dec r) (dec s)=true) [.d tO (enc (oB (dec r) (dec s))),.d aoX 0] fun h=>by
 refine aA LW (P7 r s) ⟨0,?_⟩
 obtain⟨hr,hs,htrue⟩:=h
 obtain⟨r,rfl,br⟩:=aB hr
 obtain⟨s,rfl,bs⟩:=aB hs
 have hm:=htrue
 rw[az,az]at hm
 unfold P7
 simp only[aS,Nat.reduceAdd,Nat.reduceLeDiff,hm,Bool.not_true]
 rfl
def NY(r s:BO3)(_k:KT):Option (List RV):=og (decide (ok Rt 100000 r∧ok Rt 100000 s)) (match !(rN (dec r) (dec s))with|true=>some [RV.d tO (((false,[]),(false,[])),(((false,[]),(false,[])),((false,[]),(false,[])))),RV.d aoX 1]|false=>(og (o2 r.1 s.1) (og (o2 r.2.1 s.2.1) (og (decide (okR (hAd r.1 s.1)∧okR (hAd r.2.1 s.2.1)∧okR (hid (am (jz (dec r) (dec s)))))) (some [RV.d tO (hid (enc (mB (ah (hAd r.1 s.1)) (ah (hAd r.2.1 s.2.1)) (ah (hid (am (jz (dec r) (dec s)))))))),RV.d aoX 0])))))
def abe:Cn 241 [tO,tO]:=cn fun(r s:BO3)=>lf (ok Rt 100000 r∧ok Rt 100000 s∧rN (dec r) (dec s)=true) [.d tO (enc (yI (dec r) (dec s))),.d aoX 0] fun h=>by
 refine aA LW (NY r s) ⟨0,?_⟩
 obtain⟨hr,hs,htrue⟩:=h
 obtain⟨r,rfl,br⟩:=aB hr
 obtain⟨s,rfl,bs⟩:=aB hs
 have hm:=htrue
 rw[az,az]at hm
 unfold NY
 simp only[aS,Nat.reduceAdd,Nat.reduceLeDiff,hm,Bool.not_true]
 rfl
def Cw:List En:=enL O5::enL abe::LW
def ND(r:BO3)(_k:KT):Option (List RV):=og (decide (ok Rt 50000 r∧ok Rt 50000 r∧rN (dec r) (dec r)=true)) (some [RV.d tO (hid (enc (oB (dec r) (dec r))))])
def RO:Cn 123 [tO]:=cn fun(r:BO3)=>lf (ok Rt 50000 r) [.d tO (enc (oB (dec r) (dec r)))] fun h=>by
 refine aA Cw (ND r) ⟨0,?_⟩
 have hr:=h
 obtain⟨r,rfl,br⟩:=aB hr
 unfold ND
 simp only[aS,Nat.reduceLeDiff,Ku]
def OB(v:BV)(_k:KT):Option (List RV):=some [RV.d tP (v.1,(hid (am 0),(v.2,(hid (am 0),hid (am 0)))))]
def yk:Cn 127 [tV]:=cn fun(v:BV)=>lf (ok (Rat×Rat) 100000 v) [.d tP (enc (atP (dec v)))] fun h=>by
 refine aA Cw (OB v) ⟨0,?_⟩
 have hv:=h
 obtain⟨v,rfl,bv⟩:=aB hv
 unfold OB
 simp only[aS]
 try rfl
def Nf(a b c d e:BR)(_k:KT):Option (List RV):=og (o1 b) (match(aG (ah b) 0)==0 with|true=>(og (o1 d) (match(aG (ah d) 0)==0 with|true=>some [RV.d tP (a,(b,(c,(d,hid (am 0)))))]|false=>some [RV.d tP (a,(b,(c,(d,e))))]))|false=>some [RV.d tP (a,(b,(c,(d,e))))])
def acj:Cn 346 [tR,tR,tR,tR,tR]:=cn fun(a b c d e:BR)=>lf (okR a∧okR b∧okR c∧okR d∧okR e) [.d tP (enc (rdP (ah a,ah b,ah c,ah d,ah e)))] fun h=>by
 refine aA Cw (Nf a b c d e) ⟨0,?_⟩
 obtain⟨ha,hb,hc,hd,he⟩:=h
 obtain⟨a,rfl,ba⟩:=fd ha
 obtain⟨b,rfl,bb⟩:=fd hb
 obtain⟨c,rfl,bc⟩:=fd hc
 obtain⟨d,rfl,bd⟩:=fd hd
 obtain⟨e,rfl,be⟩:=fd he
 unfold Nf
 simp only[aS,Nat.reduceLeDiff,aq]
 unfold rdP
 by_cases h1:b=0
 ·by_cases h2:d=0
  ·rw[alF h1,alF h2];rfl
  ·rw[alF h1,alH h2];rfl
 ·rw[alH h1];rfl
def QL(a b c:BR)(_k:KT):Option (List RV):=og (o1 b) (match(aG (ah b) 0)==0 with|true=>(og (o1 a) (some [RV.d tO (hid (enc ((ah a,0,0):Rt)))]))|false=>some [RV.d tO (a,(b,c))])
def acv:Cn 260 [tR,tR,tR]:=cn fun(a b c:BR)=>lf (okR a∧okR b∧okR c) [.d tO (enc (coR (ah a) (ah b) (ah c)))] fun h=>by
 refine aA Cw (QL a b c) ⟨0,?_⟩
 obtain⟨ha,hb,hc⟩:=h
 obtain⟨a,rfl,ba⟩:=fd ha
 obtain⟨b,rfl,bb⟩:=fd hb
 obtain⟨c,rfl,bc⟩:=fd hc
 unfold QL
 simp only[aS,aC,Nat.reduceLeDiff,aq]
 unfold coR
 by_cases e:b=0
 ·subst e;rw[alF rfl];rfl
 ·rw[alH e];rfl
def Ip:List En:=enL RO::enL yk::enL acj::enL acv::Cw
def MV(x y:BO3)(_k:KT):Option (List RV):=let y1:=aG (ah x.2.1) 0;let y2:Option (List RV):=match decide (okR x.2.1)with|true=>(match y1==0 with|true=>(og (decide (okR x.1∧okR x.2.1∧okR y.1∧okR y.2.1∧okR y.2.2)) (some [RV.d tP (hid (enc (rdP (ah x.1,ah x.2.1,ah y.1,ah y.2.1,ah y.2.2)))),RV.d aoX 0]))|false=>(og (decide (okR x.1∧okR x.2.1∧okR y.1∧okR y.2.1∧okR x.2.2)) (some [RV.d tP (hid (enc (rdP (ah x.1,ah x.2.1,ah y.1,ah y.2.1,ah x.2.2)))),RV.d aoX 0])))|false=>none;og (o1 x.2.1) (match y1 !=0 with|true=>(og (o1 y.2.1) (match(aG (ah y.2.1) 0) !=0 with|true=>(og (o2 x.2.2 y.2.2) (match(aG (ah x.2.2) (ah y.2.2)) !=0 with|true=>some [RV.d tP (((false,[]),(false,[])),(((false,[]),(false,[])),(((false,[]),(false,[])),(((false,[]),(false,[])),((false,[]),(false,[])))))),RV.d aoX 1]|false=>y2))|false=>y2))|false=>y2)
def E9:Cn 315 [tO,tO]:=cn fun(x y:BO3)=>lf (okT 15000 x∧okT 15000 y∧vu (dec x) (dec y)) [.d tP (enc (mkP (dec x) (dec y))),.d aoX 0] fun h=>by
 refine aA Ip (MV x y) ⟨0,?_⟩
 obtain⟨hx,hy,hy_2⟩:=h
 obtain⟨x,rfl,bx,rx⟩:=gg hx
 obtain⟨y,rfl,b_y,ry⟩:=gg hy
 have hm:=hy_2
 rw[az,az]at hm
 unfold MV
 simp only[aS,Nat.reduceLeDiff,aq,aY]
 unfold mkP
 by_cases e1:x.2.1=0
 ·rw[alF e1];rfl
 ·rw[alH e1]
  by_cases e2:y.2.1=0
  ·rw[alF e2];rfl
  ·rw[alH e2,alF ((hm.resolve_left e1).resolve_left e2)];rfl
def YZ(p:BP)(_k:KT):Option (List RV):=og (decide (okR p.1∧okR p.2.1∧okR p.2.2.2.2)) (some [RV.d tO (hid (enc (coR (ah p.1) (ah p.2.1) (ah p.2.2.2.2))))])
def Wx:Cn 151 [tP]:=cn fun(p:BP)=>lf (okP 4000 p) [.d tO (enc (xP (dec p)))] fun h=>by
 refine aA Ip (YZ p) ⟨0,?_⟩
 have hp:=h
 obtain⟨p,rfl,bp,rp⟩:=a9 hp
 unfold YZ
 simp only[aS,Nat.reduceLeDiff]
 try rfl
def Wb(p:BP)(_k:KT):Option (List RV):=og (decide (okR p.2.2.1∧okR p.2.2.2.1∧okR p.2.2.2.2)) (some [RV.d tO (hid (enc (coR (ah p.2.2.1) (ah p.2.2.2.1) (ah p.2.2.2.2))))])
def W6:Cn 152 [tP]:=cn fun(p:BP)=>lf (okP 4000 p) [.d tO (enc (yP (dec p)))] fun h=>by
 refine aA Ip (Wb p) ⟨0,?_⟩
 have hp:=h
 obtain⟨p,rfl,bp,rp⟩:=a9 hp
 unfold Wb
 simp only[aS,Nat.reduceLeDiff]
 try rfl
def Zq:List En:=enL Wx::enL W6::Ip
def Pn(p q:BP)(_k:KT):Option (List RV):=og (decide (okP 4000 p)) (og (decide (okP 4000 q)) (og (decide (okT 15000 (hid (enc (xP (dec p))))∧okT 15000 (hid (enc (xP (dec q)))))) (match(a8 (dec (hid (enc (xP (dec p))))) (dec (hid (enc (xP (dec q)))))) !=0 with|true=>some [RV.d aoX (a8 (dec (hid (enc (xP (dec p))))) (dec (hid (enc (xP (dec q))))))]|false=>(og (decide (okP 4000 p)) (og (decide (okP 4000 q)) (og (decide (okT 15000 (hid (enc (yP (dec p))))∧okT 15000 (hid (enc (yP (dec q)))))) (some [RV.d aoX (a8 (dec (hid (enc (yP (dec p))))) (dec (hid (enc (yP (dec q))))))])))))))
def xp:Cn 60 [tP,tP]:=cn fun(p q:BP)=>lf (okP 4000 p∧okP 4000 q) [.d aoX (aX (dec p) (dec q))] fun h=>by
 refine aA Zq (Pn p q) ⟨0,?_⟩
 obtain⟨hp,hq⟩:=h
 obtain⟨p,rfl,bp,rp⟩:=a9 hp
 obtain⟨q,rfl,bq,rq⟩:=a9 hq
 unfold Pn
 simp only[aS,Nat.reduceLeDiff,aM,aJ]
 unfold aX bne
 cases a8 (xP p) (xP q)==0<;>rfl
def ZA:List En:=enL E9::enT xp::Zq
def OP(p q:BP)(_k:KT):Option (List RV):=og (decide (okP 4000 p∧okP 4000 q)) (some [RV.d .bool ((aX (dec p) (dec q))==0)])
def Fs:Cn 126 [tP,tP]:=cn fun(p q:BP)=>lf (okP 4000 p∧okP 4000 q) [.d .bool (aX (dec p) (dec q)==0)] fun h=>by
 refine aA ZA (OP p q) ⟨0,?_⟩
 unfold OP
 rw[dT h]
def Rw(p:BP)(v:BV)(_k:KT):Option (List RV):=let y1:=hid (enc (bkV (dec v)));let y2:=hid (enc (trP (dec p) (dec y1)));let y3:=hid (enc (xP (dec y2)));let y4:=hid (enc (yP (dec y2)));let y5:=hid (enc (oB (dec y3) (dec y3)));let y6:=hid (enc (oB (dec y4) (dec y4)));og (decide (ok (Rat×Rat) 21000 v)) (og (decide (ok Pt 21000 p∧ok (Rat×Rat) 1000 y1)) (og (decide (okP 4000 y2)) (og (decide (ok Rt 50000 y3)) (og (decide (okP 4000 y2)) (og (decide (ok Rt 50000 y4)) (og (decide (ok Rt 100000 y5∧ok Rt 100000 y6∧rN (dec y5) (dec y6)=true)) (some [RV.d tO (hid (enc (yI (dec y5) (dec y6))))])))))))
def E0:Cn 129 [tP,tV]:=cn fun(p:BP) (v:BV)=>lf (okP 3500 p∧ok (Rat×Rat) 300 v) [.d tO (enc (sqP (dec p) (dec v)))] fun h=>by
 refine aA ZA (Rw p v) ⟨0,?_⟩
 obtain⟨hp,hv⟩:=h
 obtain⟨p,rfl,bp,rp⟩:=a9 hp
 obtain⟨v,rfl,bv⟩:=aB hv
 obtain⟨e1,e2⟩:=H6 (v:=v) rp
 unfold Rw
 simp only[aS,Nat.reduceAdd,Nat.reduceMul,Nat.reduceLeDiff,aJ,e1]
 rw[e2]
end Go.Proofs.YtnkndpoojnflmaaGreat
end
