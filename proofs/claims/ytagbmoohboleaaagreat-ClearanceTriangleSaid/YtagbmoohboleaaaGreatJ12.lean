/- Intervals: the contracts of products, roots and sides. -/
import Derived.Test.YtagbmoohboleaaaGreatJ11
import Derived.Test.YtagbmoohboleaaaGreatJ1
import Derived.Lib.LazyBuf
import Derived.Test.YtagbmoohboleaaaGreatJ6
import Derived.Test.YtagbmoohboleaaaGreatJ10
noncomputable section
namespace Go.Proofs.YtagbmoohboleaaaGreat
open Go.RowKit Go.IntKind
theorem apa:type_of% @Rat.mul_eq_zero:=@Rat.mul_eq_zero
theorem Sj{z:Int}(h:aI z):okI (ai z):=aX (by have:=kU h;omega)
theorem Jg{n:Int}(h:DK n):0<=fe n/\fe n<=2305843009213693952:=by
 obtain⟨h0,h1⟩:=h;unfold fe;obtain⟨g0,g1,g2⟩:=gN (z:=n*65536) (by omega);refine⟨g0,?_⟩;rcases ans 2305843009213693952 (bK (n*65536))with h|h
 ·have:2305843009213693952*2305843009213693952<=bK (n*65536)*bK (n*65536):=ao3 (by omega) (by omega) (by omega) (by omega);omega
 ·exact h
theorem Ml{a b:Iv}(ha:prI a)(hb:prI b){x y:Int}(hx:x=a.1\/x=a.2)(hy:y=b.1\/y=b.2):scP x y:=by
 obtain⟨a1,a2,a3⟩:=ha;obtain⟨b1,b2,b3⟩:=hb;constructor
 ·rcases hx with rfl|rfl<;>omega
 ·rcases hy with rfl|rfl<;>omega
theorem akx{α:Type}(b:Bool)(x y:α):(match b with|true=>x|false=>y)=bif b then x else y:=by cases b<;>rfl
def SX:eM:=spN false true [aqh] (λx=>decide (aI x.1)) (λx=>[RV.d tI (hid (ai x.1))])
theorem M5:SpK 223 SX:=spX λx h=>by simp only[bL];exact Ic x.1 (amZ h)
def H6:List En:=[⟨125,jh,fE⟩,⟨67,iA,fi⟩,⟨133,lU,ib⟩,enL MS,enT Zc,⟨228,G5,EL⟩,⟨54,gi,eg⟩,⟨164,He,Dq⟩,enL Xq,⟨163,HL,Ew⟩,⟨223,SX,M5⟩,enL M6,enL S5,enL Pd,enL Qq,enA NV,enA SW,enL aac]
def adI:NT:=[((308,8),{keep:=[3,4,6,7,19,20,21],hl:=4}),((308,22),{keep:=[3,4,6,7,9,19,20,21,29,30,31],hl:=5})]
def qy:Ctx:=CX (ens H6) adI
def sK(a b:(Int×Int))(s21 s6 s7:Int):Cfg:=⟨308,[.blk 0,.seq 46],[(3,.box 1 0),(4,.box 2 0),(6,SI s6),(7,SI s7),(19,.own 3),(20,SI (([a.1,a.2]).length:Int)),(21,SI s21)],[.box 232 [SI a.1,SI a.2],.box 232 [SI b.1,SI b.2],.box 232 [SI 0,SI 0],.row 2 aqh ([a.1,a.2])],0,[]⟩
def rP(a b:(Int×Int))(s21 x1 s6 s7 s31:Int):Cfg:=⟨308,[.blk 2,.blk 1,.seq 45,.lp 8,.blk 0,.seq 46],[(3,.box 1 0),(4,.box 2 0),(6,SI s6),(7,SI s7),(9,SI x1),(19,.own 3),(20,SI (([a.1,a.2]).length:Int)),(21,SI s21),(29,.own 4),(30,SI (([b.1,b.2]).length:Int)),(31,SI s31)],[.box 232 [SI a.1,SI a.2],.box 232 [SI b.1,SI b.2],.box 232 [SI 0,SI 0],.row 2 aqh ([a.1,a.2]),.row 2 aqh ([b.1,b.2])],0,[]⟩
def agO(a b:(Int×Int))(k:KT):OLR:=k 8 (sK a b 0 2305843009213693952 (-2305843009213693952))
theorem ajx(a b:(Int×Int)):RS qy 308 [.d tG a,.d tG b] (agO a b):=rsX
def yM(a b:(Int×Int))(s21 s6 s7:Int)(k:KT):OLR:=match decide (s21<(([a.1,a.2]).length:Int))with|true=>(match aT ([a.1,a.2]) s21 with|some _=>(match true,([a.1,a.2])[(s21).toNat]? with|true,some x1=>k 22 (rP a b s21 x1 s6 s7 0)|_,_=>none)|none=>none)|false=>some [RV.d tG (s6,s7),RV.d .bool true]
theorem FK(a b:(Int×Int))(s21 s6 s7:Int):RN qy 8 (sK a b s21 s6 s7) (yM a b s21 s6 s7):=rnX
def rg(a b:(Int×Int))(s21 x1 s6 s7 s31:Int)(k:KT):OLR:=match decide (s31<(([b.1,b.2]).length:Int))with|true=>(match aT ([b.1,b.2]) s31 with|some _=>(match true,([b.1,b.2])[(s31).toNat]? with|true,some x2=>(og (decide (scP x1 x2)) (match !((scF x1 x2).2)with|true=>some [RV.d tG (0,0),RV.d .bool false]|false=>k 22 (rP a b s21 x1 (if(scF x1 x2).1.1<s6 then(scF x1 x2).1.1 else s6) (if(scF x1 x2).1.2>s7 then(scF x1 x2).1.2 else s7) (i64.wrap (s31+1)))))|_,_=>none)|none=>none)|false=>k 8 (sK a b (i64.wrap (s21+1)) s6 s7)
theorem vI(a b:(Int×Int))(s21 x1 s6 s7 s31:Int):RN qy 22 (rP a b s21 x1 s6 s7 s31) (rg a b s21 x1 s6 s7 s31):=rnX
theorem QT(a b:Iv)(ha:prI a)(hb:prI b)(s21 x:Int)(hx:x=a.1\/x=a.2)(s:Iv)(r:List RV)(h:∀s2:Iv×Bool,s2=jd (jd (s,true) x b.1) x b.2->bif s2.2 then qy.Runs 8 (sK a b (i64.wrap (s21+1)) s2.1.1 s2.1.2) r else r=[RV.d tG (0,0),RV.d .bool false]):
  qy.Runs 22 (rP a b s21 x s.1 s.2 0) r:=by
 have h:=h _ rfl;refine vI _ _ _ _ _ _ _ ?_;unfold rg;have g1:decide ((0:Int)<(([b.1,b.2]).length:Int))=true:=by simp
 have g2:decide ((1:Int)<(([b.1,b.2]).length:Int))=true:=by simp
 have g3:decide ((2:Int)<(([b.1,b.2]).length:Int))=false:=by simp
 rw[g1];simp only[show aT [b.1,b.2] 0=some b.1 from rfl,show [b.1,b.2][(0:Int).toNat]?=some b.1 from rfl,dT (Ml ha hb hx (.inl rfl))];cases e1:(scF x b.1).2
 ·rw[show jd (jd (s,true) x b.1) x b.2=(iv0,false) by unfold jd;rw[e1];rfl]at h;exact⟨0,by rw[h];rfl⟩
 ·try dsimp only[Bool.not_true]
  have e0:jd (s,true) x b.1=((if(scF x b.1).1.1<s.1 then(scF x b.1).1.1 else s.1,if(scF x b.1).1.2>s.2 then(scF x b.1).1.2 else s.2),true):=by unfold jd;rw[e1];rfl
  rw[e0]at h
  suffices hh:qy.Runs 22 (rP a b s21 x (if(scF x b.1).1.1<s.1 then(scF x b.1).1.1 else s.1) (if(scF x b.1).1.2>s.2 then(scF x b.1).1.2 else s.2) (i64.wrap (0+1))) r by
   obtain⟨n,hn⟩:=hh;exact⟨n,hn⟩
  rw[show i64.wrap (0+1)=1 by decide];refine vI _ _ _ _ _ _ _ ?_;unfold rg;rw[g2];simp only[show aT [b.1,b.2] 1=some b.2 from rfl,show [b.1,b.2][(1:Int).toNat]?=some b.2 from rfl,dT (Ml ha hb hx (.inr rfl))];cases e2:(scF x b.2).2
  ·unfold jd at h;rw[e2]at h;exact⟨0,by rw[show r=[RV.d tG (0,0),RV.d .bool false] from h];rfl⟩
  ·try dsimp only[Bool.not_true]
   unfold jd at h;rw[e2]at h;simp only[aos,cond_true]at h
   suffices hh:qy.Runs 22 (rP a b s21 x _ _ (i64.wrap (1+1))) r by
    obtain⟨n,hn⟩:=hh;exact⟨n,hn⟩
   rw[show i64.wrap (1+1)=2 by decide];refine vI _ _ _ _ _ _ _ ?_;unfold rg;rw[g3];obtain⟨n,hn⟩:=h;exact⟨n,hn⟩
theorem Ja(a b:Iv)(ha:prI a)(hb:prI b)(x i:Int)(hi:(i=0/\x=a.1)\/(i=1/\x=a.2))(s:Iv)(r:List RV)(h:∀s2:Iv×Bool,s2=jd (jd (s,true) x b.1) x b.2->bif s2.2 then qy.Runs 8 (sK a b (i+1) s2.1.1 s2.1.2) r else r=[RV.d tG (0,0),RV.d .bool false]):
  qy.Runs 8 (sK a b i s.1 s.2) r:=by
 refine FK _ _ _ _ _ ?_;unfold yM;rcases hi with⟨rfl,rfl⟩|⟨rfl,rfl⟩
 ·obtain⟨n,hn⟩:=QT a b ha hb 0 a.1 (.inl rfl) s r (by rw[show i64.wrap (0+1)=0+1 by decide];exact h);exact⟨n,hn⟩
 ·obtain⟨n,hn⟩:=QT a b ha hb 1 a.2 (.inr rfl) s r (by rw[show i64.wrap (1+1)=1+1 by decide];exact h);exact⟨n,hn⟩
theorem Mo{s:Iv×Bool}{x y:Int}(h:s.2=false):jd s x y=(iv0,false):=by unfold jd;rw[h];rfl
theorem air{s:Iv×Bool}(h:s.2=true):s=(s.1,true):=by rw[<-h]
def M0:Cn 308 [tG,tG]:=cn λ(a b:(Int×Int))=>lf (prI a/\prI b) [.d tG ((cK a b).1),.d .bool ((cK a b).2)] λh=>by
 obtain⟨ha,hb⟩:=h;refine da H6 (show qy.Res _ _ _ from ?_);refine ajx _ _ ?_
 suffices hh:qy.Runs 8 (sK a b 0 2305843009213693952 (-2305843009213693952)) [.d tG (cK a b).1,.d .bool (cK a b).2] by
  obtain⟨n,hn⟩:=hh;exact⟨n,hn⟩
 refine Ja a b ha hb a.1 0 (.inl ⟨rfl,rfl⟩) (2305843009213693952,-2305843009213693952) _ λs1 e1=>?_;have hm:cK a b=jd (jd s1 a.2 b.1) a.2 b.2:=by rw[e1];rfl
 cases c1:s1.2
 ·rw[hm,Mo (Mo c1▸rfl)];rfl
 ·rw[cond_true];refine Ja a b ha hb a.2 1 (.inr ⟨rfl,rfl⟩) s1.1 _ λs2 e2=>?_;rw[<-air c1,<-hm]at e2;cases c2:s2.2
  ·rw[<-e2]
   rw[show s2=(iv0,false) by
    rw[e2,hm];rw[e2,hm]at c2;unfold jd at c2 ⊢;revert c2;cases(_:Bool)&&(scF a.2 b.2).2
    ·intro _;rfl
    ·intro h;cases h]
   rfl
  ·rw[cond_true,<-e2];refine FK _ _ _ _ _ ⟨0,?_⟩;unfold yM;rw[show decide ((1+1:Int)<(([a.1,a.2]).length:Int))=false from by simp,c2]
def XW(n:Int)(_k:KT):OLR:=og (decide (aI n)) (og (decide (aI (65536:Int))) (og (decide (okI (hid (ai n))/\okI (hid (ai (65536:Int))))) (og (decide (okI (hid (ai (ae (hid (ai n))*ae (hid (ai (65536:Int)))))))) (og (decide (okI (hid (ge (hid (ai (ae (hid (ai n))*ae (hid (ai (65536:Int)))))))))) (og (decide (okI (hid (ge (hid (ai (ae (hid (ai n))*ae (hid (ai (65536:Int))))))))/\okI (hid (ge (hid (ai (ae (hid (ai n))*ae (hid (ai (65536:Int)))))))))) (og (decide (okI (hid (ai (ae (hid (ge (hid (ai (ae (hid (ai n))*ae (hid (ai (65536:Int))))))))*ae (hid (ge (hid (ai (ae (hid (ai n))*ae (hid (ai (65536:Int)))))))))))/\okI (hid (ai (ae (hid (ai n))*ae (hid (ai (65536:Int)))))))) (some [RV.d aqh (bif decide (aI (ae (hid (ge (hid (ai (ae (hid (ai n))*ae (hid (ai (65536:Int))))))))))then ae (hid (ge (hid (ai (ae (hid (ai n))*ae (hid (ai (65536:Int))))))))else 0),RV.d .bool ((cr (ae (hid (ai (ae (hid (ge (hid (ai (ae (hid (ai n))*ae (hid (ai (65536:Int))))))))*ae (hid (ge (hid (ai (ae (hid (ai n))*ae (hid (ai (65536:Int)))))))))))) (ae (hid (ai (ae (hid (ai n))*ae (hid (ai (65536:Int))))))))==0)])))))))
def agT:Cn 332 [aqh]:=cn λ(n:Int)=>lf (DK n) [.d aqh (fe n),.d .bool (decide (fe n*fe n=n*65536))] λh=>by
 refine aB H6 (XW n) ⟨0,?_⟩;have hr:=Jg h;obtain⟨h0,h1⟩:=h;have i1:aI n:=⟨by omega,by omega⟩
 have i2:aI 65536:=by decide
 have o1:okI (ai (n*65536)):=aX (by have:=cV (kU i1) (kU i2);omega);have o2:okI (ai (fe n)):=Sj ⟨by omega,by omega⟩;have o3:okI (ai (fe n*fe n)):=aX (by have:=cV (kU (n:=fe n) ⟨by omega,by omega⟩) (kU (n:=fe n) ⟨by omega,by omega⟩);omega);have o4:okI (ai n)/\okI (ai 65536):=⟨Sj i1,Sj i2⟩
 have o5:okI (ai (fe n))/\okI (ai (fe n)):=⟨o2,o2⟩
 have o6:okI (ai (fe n*fe n))/\okI (ai (n*65536)):=⟨o3,o1⟩
 have o7:aI (fe n):=⟨by omega,by omega⟩
 unfold XW;simp only[bL,dec_enc,dT i1,dT i2,dT o4,dT o1,BA o1];have e:bK (n*65536)=fe n:=rfl;simp only[e,dT o2,dT o5,dT o6,dT o7,cond_true,nW]
def aa4:List En:=enL M0::enL agT::H6
def ZI(a:(Int×Int))(_k:KT):OLR:=match decide (a.2<0)with|true=>some [RV.d tG (0,0),RV.d .bool false]|false=>(og (decide (DK (if 0>a.1 then 0 else a.1))) (og (decide (DK a.2)) (match !(decide (fe a.2*fe a.2=a.2*65536))with|true=>some [RV.d tG (hid ((pQ (fe (if 0>a.1 then 0 else a.1)) (i64.wrap ((fe a.2)+1))).1)),RV.d .bool ((pQ (fe (if 0>a.1 then 0 else a.1)) (i64.wrap ((fe a.2)+1))).2)]|false=>some [RV.d tG (hid ((pQ (fe (if 0>a.1 then 0 else a.1)) (fe a.2)).1)),RV.d .bool ((pQ (fe (if 0>a.1 then 0 else a.1)) (fe a.2)).2)])))
def YM:Cn 320 [tG]:=cn λ(a:(Int×Int))=>lf (prI a) [.d tG ((sqF a).1),.d .bool ((sqF a).2)] λh=>by
 refine aB aa4 (ZI a) ⟨0,?_⟩;obtain⟨a1,a2,a3⟩:=h;unfold ZI sqF;cases hn:decide (a.2<0)
 ·have hn:=anP hn;have r2:DK a.2:=⟨by omega,by omega⟩
  have r1:DK (if 0>a.1 then 0 else a.1):=⟨by split<;>omega,by split<;>omega⟩
  have b2:=Jg r2;simp only[dT r1,dT r2,bL,aV (x:=fe a.2+1) (by omega) (by omega)];cases decide (fe a.2*fe a.2=a.2*65536)<;>rfl
 ·rfl
def OY:List En:=enL YM::aa4
def Zr(r:BO3)(_k:KT):OLR:=og (decide (ok Rat 200000 r.1)) (match !((frF (ah r.1)).2)with|true=>some [RV.d tG (hid ((frF (ah r.1)).1)),RV.d .bool ((frF (ah r.1)).2)]|false=>(og (o1 r.2.1) (match(aE (ah r.2.1) 0)==0 with|true=>some [RV.d tG (hid ((frF (ah r.1)).1)),RV.d .bool ((frF (ah r.1)).2)]|false=>(og (decide (ok Rat 200000 r.2.1)) (og (decide (ok Rat 200000 r.2.2)) (match !((frF (ah r.2.1)).2)with|true=>some [RV.d tG (0,0),RV.d .bool false]|false=>(match !((frF (ah r.2.2)).2)with|true=>some [RV.d tG (0,0),RV.d .bool false]|false=>(og (o1 r.2.2) (match decide ((aE (ah r.2.2) 0)<0)with|true=>some [RV.d tG (0,0),RV.d .bool false]|false=>(og (decide (prI (hid ((frF (ah r.2.2)).1)))) (match !((sqF (hid ((frF (ah r.2.2)).1))).2)with|true=>some [RV.d tG (0,0),RV.d .bool false]|false=>(og (decide (prI (hid ((frF (ah r.2.1)).1))/\prI (hid ((sqF (hid ((frF (ah r.2.2)).1))).1)))) (match !((cK (hid ((frF (ah r.2.1)).1)) (hid ((sqF (hid ((frF (ah r.2.2)).1))).1))).2)with|true=>some [RV.d tG (0,0),RV.d .bool false]|false=>(og (decide (prI (hid ((frF (ah r.1)).1))/\prI (hid ((cK (hid ((frF (ah r.2.1)).1)) (hid ((sqF (hid ((frF (ah r.2.2)).1))).1))).1)))) (some [RV.d tG (hid ((dW (hid ((frF (ah r.1)).1)) (hid ((cK (hid ((frF (ah r.2.1)).1)) (hid ((sqF (hid ((frF (ah r.2.2)).1))).1))).1))).1)),RV.d .bool ((dW (hid ((frF (ah r.1)).1)) (hid ((cK (hid ((frF (ah r.2.1)).1)) (hid ((sqF (hid ((frF (ah r.2.2)).1))).1))).1))).2)])))))))))))))))
def Jt:Cn 312 [tO]:=cn λ(r:BO3)=>lf (ok Rt 100000 r) [.d tG ((bH (dec r)).1),.d .bool ((bH (dec r)).2)] λh=>by
 refine aB OY (Zr r) ⟨0,?_⟩;have hr:=h;obtain⟨r,rfl,br⟩:=aD hr;have p1:prI (frF r.1).1:=RE.frF_pr _;have p2:prI (frF r.2.1).1:=RE.frF_pr _;have p3:prI (frF r.2.2).1:=RE.frF_pr _;have p4:prI (sqF (frF r.2.2).1).1:=RE.sqF_pr p3;have p5:prI (cK (frF r.2.1).1 (sqF (frF r.2.2).1).1).1:=uI _ _;unfold Zr;simp only[aU,Nat.reduceLeDiff,aq,au,dT p3,dT (show prI (frF r.2.1).1/\prI (sqF (frF r.2.2).1).1 from⟨p2,p4⟩),dT (show prI (frF r.1).1/\prI (cK (frF r.2.1).1 (sqF (frF r.2.2).1).1).1 from⟨p1,p5⟩)];unfold bH;clear p1 p2 p3 p4 p5;generalize frF r.1=A;generalize frF r.2.1=B;generalize frF r.2.2=C;generalize sqF C.1=S;generalize cK B.1 S.1=M;generalize dW A.1 M.1=U;obtain⟨_,a⟩:=A;obtain⟨_,b⟩:=B;obtain⟨_,c⟩:=C;obtain⟨_,s⟩:=S;obtain⟨_,m⟩:=M;cases a<;>cases decide (r.2.1=0)<;>cases b<;>cases c<;>cases decide (r.2.2<0)<;>cases s<;>cases m<;>rfl
def Zu(a:(Int×Int))(_k:KT):OLR:=match decide (a.1>0)with|true=>some [RV.d aqh 1,RV.d .bool true]|false=>(match decide (a.2<0)with|true=>some [RV.d aqh (-1),RV.d .bool true]|false=>(match a.1==0 with|true=>some [RV.d aqh 0,RV.d .bool (a.2==0)]|false=>some [RV.d aqh 0,RV.d .bool false]))
def My:Cn 311 [tG]:=cn λ(a:(Int×Int))=>lf True [.d aqh ((sgF a).1),.d .bool ((sgF a).2)] λ_=>by
 refine aB OY (Zu a) ⟨0,?_⟩;unfold Zu sgF;cases decide (a.1>0)<;>cases decide (a.2<0)<;>try rfl
 by_cases e1:a.1=0
 ·rw[amW e1,show(a.1==0)=true by simp[e1]];by_cases e2:a.2=0
  ·rw[amW e2,show(a.2==0)=true by simp[e2]];rfl
  ·rw[amY e2,show(a.2==0)=false by simp[e2]];rfl
 ·rw[amY e1,show(a.1==0)=false by simp[e1]];rfl
def ako:List En:=enL Jt::enL My::OY
def Z6(n:BR)(a:(Int×Int))(g:Bool)(_k:KT):OLR:=og (decide (ok Rat 200000 n)) (match !g with|true=>some [RV.d tG (0,0),RV.d .bool false]|false=>(match !((frF (ah n)).2)with|true=>some [RV.d tG (0,0),RV.d .bool false]|false=>(og (decide (prI (hid ((frF (ah n)).1))/\prI a)) (some [RV.d tG (hid ((cK (hid ((frF (ah n)).1)) a).1)),RV.d .bool ((cK (hid ((frF (ah n)).1)) a).2)]))))
def aaT:Cn 313 [tR,tG,.bool]:=cn λ(n:BR) (a:(Int×Int)) (g:Bool)=>lf (ok Rat 100000 n/\prI a) [.d tG ((ku (ah n) a g).1),.d .bool ((ku (ah n) a g).2)] λh=>by
 refine aB ako (Z6 n a g) ⟨0,?_⟩;obtain⟨hn,ha⟩:=h;obtain⟨n,rfl,bn⟩:=aD hn;unfold Z6;simp only[aU,Nat.reduceLeDiff,dT (show prI (frF n).1/\prI a from⟨RE.frF_pr _,ha⟩)];unfold ku;generalize frF n=A;obtain⟨_,q⟩:=A;cases g<;>cases q<;>rfl
section
section
variable {u:Nat} {w w':World} {size n:Nat} {v:Value} {xs:List Value}
end
section
variable {P:Program} {fn:Func} {R:Ending->World->Prop} {B:Code} {K:List KI} {i:Nat} {a:Act} {w:World}
end
end
section
section
variable {P:Program} {a:Act} {w:World}
end
end
theorem zh{w w1 w2:World}{o:Option Nat}(h:w.grownBy w1 o)(hb:Below w1.heap.size w1 w2):w.grownBy w2 o:=
 ⟨hb.os.trans h.os,hb.tape.trans h.tape,hb.output.trans h.output,am9 h.size hb.size,λi hi hn=>(hb.block i (aoJ hi h.size)).trans (h.block i hi hn)⟩
theorem uK{w w1 w2:World}{c b:Nat}(h:w.grownBy w1 (some c))(hu:Upd w1 w2 b)(hb:b=c\/w.heap.size<=b):w.grownBy w2 (some c):=
 ⟨hu.os.trans h.os,hu.tape.trans h.tape,hu.output.trans h.output,by rw[hu.size];exact h.size,λi hi hn=>(hu.block i (λe=>by
  subst e;rcases hb with hb|hb
  ·subst hb;exact hn rfl
  ·omega)).trans (h.block i hi hn)⟩
def VP:Code:=Tryz.f319.body.getD .skip
set_option maxRecDepth 100000 in
theorem KW:ahv Tryz.prog 319 245:=by
 intro w c b ok x y _ hc;have hB:w.grownBy w (some c):=World.grownBy.refl _ _;have hlt:=hc.lt;refine enter (B:=VP) (args:=[.pointer (some ⟨c,0,none⟩),.agg #[.int .i64 x,.int .i64 y],.bool ok]) Tryz.func319 (by kernel_rfl) (by kernel_rfl) ?_;rw[show Tryz.f319.ntmps=18 from by kernel_rfl];intro a hs;replace hs:=hs.pick (ts:=[0,1,2]) (L':=[(0,.pointer (some ⟨c,0,none⟩)),(1,.agg #[.int .i64 x,.int .i64 y]),(2,.bool ok)]) (by kernel_rfl)
 refine ye (j:=2) (by kernel_rfl) ?_;refine nt (id:=0) (by kernel_rfl) ?_;refine vO hs (by kernel_rfl) (akn (t:=232) (cs:= #[.int .i64 x,.int .i64 y]) (λrb_=>.pointer (some ⟨rb_,0,none⟩)) [0,2,4] (λrb_=>[(0,.pointer (some ⟨c,0,none⟩)),(2,.bool ok),(4,.pointer (some ⟨rb_,0,none⟩))]) hs (λ_=>by kernel_rfl) (λ_=>by kernel_rfl) ?_);clear hs a;intro a w1 b1 hn hs;have B1:=hn.blk;have l1:w.heap.size<=b1:=by rw[hn.at_];exact hB.size
 replace hc:=hc.below hn.below hc.lt
 replace hB:=zh hB hn.below
 clear hn;refine vO hs (by kernel_rfl) (akn (t:=232) (cs:= #[.int .i64 0,.int .i64 0]) (λrb_=>.pointer (some ⟨rb_,0,none⟩)) [0,2,4,6] (λrb_=>[(0,.pointer (some ⟨c,0,none⟩)),(2,.bool ok),(4,.pointer (some ⟨b1,0,none⟩)),(6,.pointer (some ⟨rb_,0,none⟩))]) hs (λ_=>by kernel_rfl) (λ_=>by kernel_rfl) ?_);clear hs a;intro a w2 b2 hn hs;have B2:=hn.blk;have l2:w.heap.size<=b2:=by rw[hn.at_];exact hB.size
 have l2':b1<b2:=by rw[hn.at_];exact B1.lt
 replace hc:=hc.below hn.below hc.lt
 replace B1:=B1.below hn.below B1.lt
 replace hB:=zh hB hn.below
 clear hn;refine rB (by kernel_rfl) ?_;refine nG rfl ?_;refine ye (j:=4) (by kernel_rfl) ?_;refine nt (id:=1) (by kernel_rfl) ?_;refine ut (m:=6) (H:=[(4,none,[.bool b])]) (ts:=[2,4,6,7,12]) (L':=[(2,.bool ok),(4,.pointer (some ⟨b1,0,none⟩)),(6,.pointer (some ⟨b2,0,none⟩)),(7,.pointer (some ⟨c,0,none⟩)),(12,.bool b)]) (O:=λw=>(w.cell? ⟨c,0,none⟩=some (.bool b))/\True) hs (by kernel_rfl) ⟨hc.cell 0 rfl,trivial⟩ ?_;clear hs a;intro a hs;rcases Bool.eq_false_or_eq_true (b)with hb|hb
 ·replace hs:=hs.know (t:=12) rfl hb
  have cd1:=hb;have cd1b:=hb;clear hb;replace hs:=hs.pick (ts:=[2,4,6,7,12]) (L':=[(2,.bool ok),(4,.pointer (some ⟨b1,0,none⟩)),(6,.pointer (some ⟨b2,0,none⟩)),(7,.pointer (some ⟨c,0,none⟩)),(12,.bool true)]) (by kernel_rfl)
  refine ut (m:=4) (H:=[]) (ts:=[4,6,14,16]) (L':=[(4,.pointer (some ⟨b1,0,none⟩)),(6,.pointer (some ⟨b2,0,none⟩)),(14,.bool ok),(16,.pointer (some ⟨c,0,none⟩))]) (O:=λw=>True) hs (by kernel_rfl) trivial ?_;clear hs a;intro a hs;refine vO hs (by kernel_rfl) (BJ (b:=c) (cs:= #[.bool b]) #[.bool ok] [(0,.bool ok)] [4,6] [(4,.pointer (some ⟨b1,0,none⟩)),(6,.pointer (some ⟨b2,0,none⟩))] hs hc (by kernel_rfl) ⟨am3 rfl,trivial,trivial⟩ rfl (by kernel_rfl) ?_);clear hs a;intro a w3 hc' hu hs;replace hc:=hc';clear hc'
  replace B1:=hu.blk B1 (by omega)
  replace B2:=hu.blk B2 (by omega)
  replace hB:=uK hB hu (by omega)
  clear hu;refine rB (by kernel_rfl) ?_;refine nG rfl ?_;refine ye (j:=6) (by kernel_rfl) ?_;refine nt (id:=2) (by kernel_rfl) ?_;refine ut (m:=1) (H:=[(0,none,[.int .i64 x,.int .i64 y])]) (ts:=[6,17]) (L':=[(6,.pointer (some ⟨b2,0,none⟩)),(17,.agg #[.int .i64 x,.int .i64 y])]) (O:=λw=>(w.cell? ⟨b1,0,none⟩=some (.int .i64 x))/\(w.cell? ⟨b1,1,none⟩=some (.int .i64 y))/\True) hs (by kernel_rfl) ⟨B1.cell 0 rfl,B1.cell 1 rfl,trivial⟩ ?_;clear hs a;intro a hs;refine vO hs (by kernel_rfl) (BJ (b:=b2) (cs:= #[.int .i64 0,.int .i64 0]) #[.int .i64 x,.int .i64 y] [(0,.int .i64 x),(1,.int .i64 y)] [6] [(6,.pointer (some ⟨b2,0,none⟩))] hs B2 (by kernel_rfl) ⟨am3 rfl,trivial,⟨am3 rfl,trivial,trivial⟩⟩ rfl (by kernel_rfl) ?_);clear hs a;intro a w4 B2' hu hs;replace B2:=B2';clear B2'
  replace hc:=hu.blk hc (by omega)
  replace B1:=hu.blk B1 (by omega)
  replace hB:=uK hB hu (by omega)
  clear hu;refine rB (by kernel_rfl) ?_;refine nG rfl ?_;refine HG (by kernel_rfl) ?_;refine RO (vs:=[.agg #[.int .i64 x,.int .i64 y]]) (H:=[.int .i64 x,.int .i64 y]) (v:=.agg #[.int .i64 x,.int .i64 y]) (O:=λw=>(w.cell? ⟨b2,0,none⟩=some (.int .i64 x))/\(w.cell? ⟨b2,1,none⟩=some (.int .i64 y))/\True) hs (by kernel_rfl) rfl ⟨B2.cell 0 rfl,B2.cell 1 rfl,trivial⟩ ?_;exact⟨rfl,by rw[cd1];exact hc,hB⟩
 ·replace hs:=hs.know (t:=12) rfl hb
  have cd1:=hb;have cd1b:=hb;clear hb;replace hs:=hs.pick (ts:=[2,4,6,7,12]) (L':=[(2,.bool ok),(4,.pointer (some ⟨b1,0,none⟩)),(6,.pointer (some ⟨b2,0,none⟩)),(7,.pointer (some ⟨c,0,none⟩)),(12,.bool false)]) (by kernel_rfl)
  refine ut (m:=4) (H:=[]) (ts:=[4,6,14,16]) (L':=[(4,.pointer (some ⟨b1,0,none⟩)),(6,.pointer (some ⟨b2,0,none⟩)),(14,.bool false),(16,.pointer (some ⟨c,0,none⟩))]) (O:=λw=>True) hs (by kernel_rfl) trivial ?_;clear hs a;intro a hs;refine vO hs (by kernel_rfl) (BJ (b:=c) (cs:= #[.bool b]) #[.bool false] [(0,.bool false)] [4,6] [(4,.pointer (some ⟨b1,0,none⟩)),(6,.pointer (some ⟨b2,0,none⟩))] hs hc (by kernel_rfl) ⟨am3 rfl,trivial,trivial⟩ rfl (by kernel_rfl) ?_);clear hs a;intro a w5 hc' hu hs;replace hc:=hc';clear hc'
  replace B1:=hu.blk B1 (by omega)
  replace B2:=hu.blk B2 (by omega)
  replace hB:=uK hB hu (by omega)
  clear hu;refine rB (by kernel_rfl) ?_;refine nG rfl ?_;refine ye (j:=6) (by kernel_rfl) ?_;refine nt (id:=2) (by kernel_rfl) ?_;refine ut (m:=1) (H:=[(0,none,[.int .i64 x,.int .i64 y])]) (ts:=[6,17]) (L':=[(6,.pointer (some ⟨b2,0,none⟩)),(17,.agg #[.int .i64 x,.int .i64 y])]) (O:=λw=>(w.cell? ⟨b1,0,none⟩=some (.int .i64 x))/\(w.cell? ⟨b1,1,none⟩=some (.int .i64 y))/\True) hs (by kernel_rfl) ⟨B1.cell 0 rfl,B1.cell 1 rfl,trivial⟩ ?_;clear hs a;intro a hs;refine vO hs (by kernel_rfl) (BJ (b:=b2) (cs:= #[.int .i64 0,.int .i64 0]) #[.int .i64 x,.int .i64 y] [(0,.int .i64 x),(1,.int .i64 y)] [6] [(6,.pointer (some ⟨b2,0,none⟩))] hs B2 (by kernel_rfl) ⟨am3 rfl,trivial,⟨am3 rfl,trivial,trivial⟩⟩ rfl (by kernel_rfl) ?_);clear hs a;intro a w6 B2' hu hs;replace B2:=B2';clear B2'
  replace hc:=hu.blk hc (by omega)
  replace B1:=hu.blk B1 (by omega)
  replace hB:=uK hB hu (by omega)
  clear hu;refine rB (by kernel_rfl) ?_;refine nG rfl ?_;refine HG (by kernel_rfl) ?_;refine RO (vs:=[.agg #[.int .i64 x,.int .i64 y]]) (H:=[.int .i64 x,.int .i64 y]) (v:=.agg #[.int .i64 x,.int .i64 y]) (O:=λw=>(w.cell? ⟨b2,0,none⟩=some (.int .i64 x))/\(w.cell? ⟨b2,1,none⟩=some (.int .i64 y))/\True) hs (by kernel_rfl) rfl ⟨B2.cell 0 rfl,B2.cell 1 rfl,trivial⟩ ?_;exact⟨rfl,by rw[cd1];exact hc,hB⟩
def N6:eM:={keep:=true,tame:=true,run:=λ_ _ _=>none,mut_:=some ⟨true,λl=>l,some 245⟩}
theorem NQ:SpK 319 N6:=by
 refine⟨by kernel_rfl,λR args k r h=>(by cases h),λg h=>?_⟩;injection h with h;subst h;exact KW
def aaJ:List En:=[⟨125,jh,fE⟩,⟨67,iA,fi⟩,⟨132,jw,fO⟩,⟨65,je,fH⟩,⟨133,lU,ib⟩,enL MS,⟨66,mX,ji⟩,⟨54,gi,eg⟩,enL A8,enT DB,enL Sa,enL Zx,enL M6,enL S5,enL Pd,enL Qq,enA NV,enA SW,enL aac,enL M0,enL YM,enL Jt,enL My,enL aaT,⟨319,N6,NQ⟩]
def adl:NT:=[((283,5),{keep:=[1,4,13,14,17,20,21,24],hl:=0}),((283,7),{keep:=[1,4,5,25,26,29,32,33,36],hl:=0})]
def aie:Ctx:=CX (ens aaJ) adl
def aan(q:BQ)(_k:KT):OLR:=let y1:=frF (ah q.2.2.2.2.1);let y2:=ok Rat 200000 q.2.2.2.2.2;let y3:=frF (ah q.2.2.2.2.2);let y4:=sqF (hid (y3.1));let y5:=hid ((frF (ah q.2.1)).1);let y6:=hid ((sqF (hid (y1.1))).1);let y7:=frF (ah q.2.2.1);let y8:=frF (ah q.2.2.2.1);let y9:=cK y6 (hid (y4.1));let y10:=cK (hid (y7.1)) (hid (y4.1));let y11:=cK (hid (y8.1)) (hid (y9.1));let y12:=hid ((frF (ah q.1)).1);let y13:=hid ((cK y5 y6).1);let y14:=hid ((dW y12 y13).1);let y15:=dW (hid (y10.1)) (hid (y11.1));let y16:=dW y14 (hid (y15.1));let y17:OLR:=match decide (prI (hid (y3.1)))with|true=>some [RV.d aqh 0,RV.d .bool false]|false=>none;og (decide (ok Rat 200000 q.2.2.2.2.1)) (og (decide (prI (hid (y1.1)))) (match y1.2 with|true=>(og (decide y2) (match(sqF (hid (y1.1))).2 with|true=>(og (decide (prI (hid (y3.1)))) (match y3.2 with|true=>(match !(y4.2)with|true=>some [RV.d aqh 0,RV.d .bool false]|false=>(og (decide (ok Rat 200000 q.2.1)) (og (decide (prI y5/\prI y6)) (og (decide (ok Rat 200000 q.2.2.1)) (og (decide (prI (hid (y7.1))/\prI (hid (y4.1)))) (og (decide (ok Rat 200000 q.2.2.2.1)) (og (decide (prI y6/\prI (hid (y4.1)))) (og (decide (prI (hid (y8.1))/\prI (hid (y9.1)))) (match !(((((((y4.2&&(frF (ah q.2.1)).2)&&(cK y5 y6).2)&&y7.2)&&y10.2)&&y8.2)&&y9.2)&&y11.2)with|true=>some [RV.d aqh 0,RV.d .bool false]|false=>(og (decide (ok Rat 200000 q.1)) (og (decide (prI y12/\prI y13)) (og (decide (prI (hid (y10.1))/\prI (hid (y11.1)))) (og (decide (prI y14/\prI (hid (y15.1)))) (match !(((((((((((y4.2&&(frF (ah q.2.1)).2)&&(cK y5 y6).2)&&y7.2)&&y10.2)&&y8.2)&&y9.2)&&y11.2)&&(frF (ah q.1)).2)&&(dW y12 y13).2)&&y15.2)&&y16.2)with|true=>some [RV.d aqh 0,RV.d .bool false]|false=>some [RV.d aqh ((sgF (hid (y16.1))).1),RV.d .bool ((sgF (hid (y16.1))).2)]))))))))))))))|false=>some [RV.d aqh 0,RV.d .bool false]))|false=>y17))|false=>(og (decide y2) y17)))
theorem aj2(q:BQ):RS aie 283 [.d tQ q] (aan q):=rsX
def ajs:Cn 283 [tQ]:=cn λ(q:BQ)=>lf (okQ q) [.d aqh ((quF (dec q)).1),.d .bool ((quF (dec q)).2)] λh=>by
 refine da aaJ (aj2 _ ⟨0,?_⟩);obtain⟨A,B,C,D,M,N,rfl,bA,bB,bC,bD,bM,bN,hM,hN⟩:=GY h;rw[aA];have pf:∀q,prI (frF q).1:=RE.frF_pr;have pm:∀a b,prI (cK a b).1:=uI;have ps:∀q,prI (sqF (frF q).1).1:=λq=>RE.sqF_pr (pf q);have pa:∀{a b},prI a->prI b->prI (dW a b).1:=λha hb=>RE.addF_pr ha hb;have d1:∀q,decide (prI (frF q).1)=true:=λq=>dT (pf q);have d2:∀q m,decide (prI (frF q).1/\prI (sqF (frF m).1).1)=true:=λq m=>dT ⟨pf q,ps m⟩;have d3:∀q m,decide (prI (sqF (frF q).1).1/\prI (sqF (frF m).1).1)=true:=λq m=>dT ⟨ps q,ps m⟩;have d4:∀q a b,decide (prI (frF q).1/\prI (cK a b).1)=true:=λq a b=>dT ⟨pf q,pm a b⟩;have d5:∀a b c d,decide (prI (cK a b).1/\prI (cK c d).1)=true:=λa b c d=>dT ⟨pm a b,pm c d⟩;have d6:∀q a b c d e f,decide (prI (dW (frF q).1 (cK a b).1).1/\prI (dW (cK c d).1 (cK e f).1).1)=true:=λq a b c d e f=>dT ⟨pa (pf q) (pm a b),pa (pm c d) (pm e f)⟩;unfold aan;simp only[aU,aC,Nat.reduceLeDiff,dT (pf _),dT (pm _ _),dT (ps _),dT (pa (pf _) (pm _ _)),dT (pa (pm _ _) (pm _ _))];unfold quF qu1 qu2 qu3 quA quB sfF mfF;generalize frF M=FM;generalize frF N=FN;generalize sqF FM.1=SM;generalize sqF FN.1=SN;generalize frF A=FA;generalize frF B=FB;generalize frF C=FC;generalize frF D=FD;generalize cK FB.1 SM.1=MB;generalize cK FC.1 SN.1=MC;generalize cK SM.1 SN.1=MM;generalize cK FD.1 MM.1=MD;generalize dW FA.1 MB.1=A1;generalize dW MC.1 MD.1=A2;generalize dW A1.1 A2.1=A3;generalize sgF A3.1=S;obtain⟨_,fm⟩:=FM;obtain⟨_,fn⟩:=FN;obtain⟨_,sm⟩:=SM;obtain⟨_,sn⟩:=SN;cases fm<;>cases sm<;>cases fn<;>cases sn<;>try rfl
 dsimp only;simp only[aog,aos];generalize (FB.2&&MB.2&&FC.2&&MC.2&&FD.2&&MM.2&&MD.2)=c2;cases c2
 ·rfl
 ·simp only[aog];generalize (FA.2&&A1.2&&A2.2&&A3.2)=c3;cases c3<;>rfl
namespace RE
theorem same_rad(a b c d r:RE):a-c+(b-d)*r=a+b*r-(c+d*r):=by grind
theorem adU(a b c:RE):a-b+c=a+c-b:=by grind
theorem vR_rat(q:Rat):vR (q,0,0)=of q:=dZ q 0
theorem cmpTR_re{x:Rt}{q:Rat}(h:0<=x.2.2):fY x q=sg (vR x-of q):=by
 unfold fY vR;rw[sgn2_re h];unfold v2;rw[of_sub,adU]
end RE
theorem Rdd.rat{x:Rt}(h:Rdd x)(hb:x.2.1=0):x=(x.1,0,0):=by
 obtain⟨a,b,c⟩:=x;rcases h.rd with h|h
 ·obtain⟨h1,h2⟩:=h;simp only at h1 h2;rw[h1,h2]
 ·exact absurd hb h.1
theorem NY{x:Rt}{q:Rat}(h:Rdd x):bh x (q,0,0)=fY x q:=by
 rw[RE.cmpT_re h.nn (by show(0:Rat)<=0;grind),RE.cmpTR_re h.nn,RE.vR_rat]
theorem Vm{x y:Rt}(hx:Rdd x)(hy:Rdd y)(bx:x.2.1=0)(b_:y.2.1=0):bh x y=aE x.1 y.1:=by
 rw[hx.rat bx,hy.rat b_,RE.cmpT_re (by show(0:Rat)<=0;grind) (by show(0:Rat)<=0;grind),RE.vR_rat,RE.vR_rat,<-RE.of_sub,RE.sg_of,ue]
theorem Us{x y:Rt}(hx:Rdd x)(hy:Rdd y)(h:(apF x y).2=true):(apF x y).1=bh x y:=by
 rw[RE.apF_ok h,RE.cmpT_re hx.nn hy.nn]
theorem Bg{x y:Rt}(hx:Rdd x)(hy:Rdd y)(h:x.2.2=y.2.2):il (x.1-y.1) (x.2.1-y.2.1) x.2.2=bh x y:=by
 rw[RE.cmpT_re hx.nn hy.nn,RE.sgn2_re hx.nn];unfold RE.vR RE.v2;rw[RE.of_sub,RE.of_sub,RE.same_rad,h]
theorem ad5{A B C D M N:Rat}(hM:0<=M)(hN:0<=N)(h:(quF (A,B,C,D,M,N)).2=true):(quF (A,B,C,D,M,N)).1=sgQ (A,B,C,D,M,N):=by
 rw[RE.quF_ok (q:=(A,B,C,D,M,N)) hM hN h];exact(RE.sgnQ_re hM hN).symm
def Ny:List En:=[⟨132,jw,fO⟩,⟨67,iA,fi⟩,⟨66,mX,ji⟩,⟨65,je,fH⟩,⟨54,gi,eg⟩,⟨125,jh,fE⟩,enL A8,enT DB,enL Sa,enL Jt]
def aeT:Cn 284 [tR,tR]:=cn λ(a b:BR)=>lf (okR a/\okR b) [.d tR (ao (ah a+ah b))] λh=>kB [RV.d tR (hAd a b)] (dL Ny) h
def Z2(a b:BO3)(_k:KT):OLR:=og (decide (ok Rt 100000 a)) (og (decide (ok Rt 100000 b)) (match !((bH (dec a)).2)with|true=>some [RV.d aqh 0,RV.d .bool false]|false=>(match !((bH (dec b)).2)with|true=>some [RV.d aqh 0,RV.d .bool false]|false=>(match decide (((hid ((bH (dec a)).1)).2)<((hid ((bH (dec b)).1)).1))with|true=>some [RV.d aqh (-1),RV.d .bool true]|false=>(match decide (((hid ((bH (dec a)).1)).1)>((hid ((bH (dec b)).1)).2))with|true=>some [RV.d aqh 1,RV.d .bool true]|false=>some [RV.d aqh 0,RV.d .bool false])))))
def YP:Cn 275 [tO,tO]:=cn λ(a b:BO3)=>lf (ok Rt 100000 a/\ok Rt 100000 b) [.d aqh ((apF (dec a) (dec b)).1),.d .bool ((apF (dec a) (dec b)).2)] λh=>by
 refine aB Ny (Z2 a b) ⟨0,?_⟩;obtain⟨ha,hb⟩:=h;obtain⟨a,rfl,ba⟩:=aD ha;obtain⟨b,rfl,bb⟩:=aD hb;unfold Z2;simp only[aU,Nat.reduceLeDiff];unfold apF;generalize bH a=A;generalize bH b=B;obtain⟨⟨a1,a2⟩,p⟩:=A;obtain⟨⟨b1,b2⟩,q⟩:=B;cases p<;>cases q<;>try rfl
 dsimp only;cases decide (a2<b1)<;>try rfl
 cases decide (a1>b2)<;>rfl
def af2:List En:=enL aeT::enT YP::enT ajs::Ny
def XT(q:BQ)(_k:KT):OLR:=let y1:=ah q.2.2.2.2.1;let y2:=aE (ah q.2.2.2.2.2) 0;let y3:=i64.wrap ((il (ah q.2.2.1) (ah q.2.2.2.1) y1)*y2);let y4:=il (ah q.1) (ah q.2.1) y1;let y5:=hMu q.2.2.2.2.1 (hMu q.2.1 q.2.1);let y6:=hMu q.2.2.2.1 q.2.2.2.1;let y7:=hMu q.2.2.1 q.2.2.1;let y8:=hMu q.2.2.2.2.1 y6;let y9:=hAd (hMu q.1 q.1) y5;let y10:=hMu q.2.2.2.2.2 (hAd y7 y8);let y11:=hMu q.2.2.1 q.2.2.2.1;let y12:=hMu q.2.2.2.2.2 y11;let y13:=hSu (hMu q.1 q.2.1) y12;let y14:OLR:=match decide (okR (hMu q.1 q.2.1)/\okR y12)with|true=>(og (o2 y13 y13) (og (decide (ok Rat 240000 (hSu y9 y10)/\ok Rat 170000 (hAd y13 y13)/\ok Rat 30000 q.2.2.2.2.1)) (some [RV.d aqh (i64.wrap (y4*(il (ah (hSu y9 y10)) (ah (hAd y13 y13)) y1)))])))|false=>none;let y15:OLR:=match decide (okR q.2.2.2.2.2/\okR y11)with|true=>y14|false=>none;let y16:OLR:=match decide (okR q.2.2.1/\okR q.2.2.2.1)with|true=>y15|false=>none;let y17:OLR:=match decide (okR y9/\okR y10)with|true=>cA (og (o2 q.1 q.2.1) (cA (og (o2 q.2.2.1 q.2.2.2.1) (cA (og (o2 q.2.2.2.2.2 y11) (dup (.b .l .l) y14)) y15)) y16)) (og (o2 q.1 q.2.1) y16)|false=>none;let y18:OLR:=match decide (okR q.2.2.2.2.2/\okR (hAd y7 y8))with|true=>y17|false=>none;let y19:OLR:=match decide (okR y7/\okR y8)with|true=>y18|false=>none;let y20:OLR:=match decide (okR q.2.2.2.2.1/\okR y6)with|true=>y19|false=>none;let y21:OLR:=match decide (okR q.2.2.2.1/\okR q.2.2.2.1)with|true=>y20|false=>none;let y22:OLR:=match decide (okR q.2.2.1/\okR q.2.2.1)with|true=>y21|false=>none;let y23:OLR:=match decide (okR (hMu q.1 q.1)/\okR y5)with|true=>y22|false=>none;let y24:OLR:=match decide (okR q.2.2.2.2.1/\okR (hMu q.2.1 q.2.1))with|true=>y23|false=>none;let y25:OLR:=match decide (okR q.2.1/\okR q.2.1)with|true=>y24|false=>none;og (o1 q.2.2.2.2.1) (match decide ((aE y1 0)<0)with|true=>some [RV.d aqh 0]|false=>(og (o1 q.2.2.2.2.2) (match decide (y2<0)with|true=>some [RV.d aqh 0]|false=>(og (decide (okQ q)) (match(quF (dec q)).2 with|true=>some [RV.d aqh ((quF (dec q)).1)]|false=>(og (decide (ok Rat 240000 q.1/\ok Rat 170000 q.2.1/\ok Rat 30000 q.2.2.2.2.1)) (og (decide (ok Rat 240000 q.2.2.1/\ok Rat 170000 q.2.2.2.1/\ok Rat 30000 q.2.2.2.2.1)) (og (o1 q.2.2.2.2.2) (match y3==0 with|true=>some [RV.d aqh y4]|false=>(match y4==y3 with|true=>some [RV.d aqh y4]|false=>(match y4==0 with|true=>some [RV.d aqh y3]|false=>cA (og (o2 q.1 q.1) (cA (og (o2 q.2.1 q.2.1) (cA (og (o2 q.2.2.2.2.1 (hMu q.2.1 q.2.1)) (cA (og (o2 (hMu q.1 q.1) y5) (cA (og (o2 q.2.2.1 q.2.2.1) (cA (og (o2 q.2.2.2.1 q.2.2.2.1) (cA (og (o2 q.2.2.2.2.1 y6) (cA (og (o2 y7 y8) (cA (og (o2 q.2.2.2.2.2 (hAd y7 y8)) (dup (.b .l .l) y17)) y18)) y19)) y20)) y21)) y22)) y23)) y24)) y25)) (og (o2 q.1 q.1) y25))))))))))))
def PJ:Cn 218 [tQ]:=cn λ(q:BQ)=>lf (okQ q) [.d aqh (sgQ (dec q))] λh=>by
 refine aB af2 (XT q) ⟨0,?_⟩;obtain⟨A,B,C,D,M,N,rfl,bA,bB,bC,bD,bM,bN,hM,hN⟩:=GY h;have hh:decide (okQ (ao A,ao B,ao C,ao D,ao M,ao N))=true:=amW h;have hd:(dec ((ao A,ao B,ao C,ao D,ao M,ao N):BQ):Qd)=(A,B,C,D,M,N):=aA ((A,B,C,D,M,N):Qd);rw[aA];unfold XT;simp only[aU,aC,Nat.reduceAdd,Nat.reduceLeDiff,uJ,uN,au,hh,hd,amY (show ¬M<0 by grind),amY (show ¬N<0 by grind)];cases hq:(quF (A,B,C,D,M,N)).2
 ·try dsimp only
  refine(Cw _ _ _).trans ?_;unfold sgQ BM;rw[amY (show ¬M<0 by grind),amY (show ¬N<0 by grind)];dsimp only[Bool.or_false,cond_false];rw[show A*B-N*(C*D)+(A*B-N*(C*D))=2*(A*B-N*(C*D)) by grind,show A*A+M*(B*B)-N*(C*C+M*(D*D))=A*A+B*B*M-N*(C*C+D*D*M) by grind];rfl
 ·try dsimp only
  rw[ad5 hM hN hq]
def XX:List En:=[⟨54,gi,eg⟩,⟨66,mX,ji⟩,⟨65,je,fH⟩,enT DB,enL Sa,enT YP,enT PJ,enL A8]
def aaE(a b:BO3)(_k:KT):OLR:=og (o1 a.2.1) (match(aE (ah a.2.1) 0)==0 with|true=>(og (o1 b.2.1) (match(aE (ah b.2.1) 0)==0 with|true=>(og (o2 a.1 b.1) (some [RV.d aqh (aE (ah a.1) (ah b.1))]))|false=>(og (decide (ok Rt 100000 a/\ok Rt 100000 b)) (match(apF (dec a) (dec b)).2 with|true=>some [RV.d aqh ((apF (dec a) (dec b)).1)]|false=>(og (o2 a.2.2 b.2.2) (match(aE (ah a.2.2) (ah b.2.2))==0 with|true=>(og (o2 a.1 b.1) (og (o2 a.2.1 b.2.1) (og (decide (ok Rat 240000 (hSu a.1 b.1)/\ok Rat 170000 (hSu a.2.1 b.2.1)/\ok Rat 30000 a.2.2)) (some [RV.d aqh (il (ah (hSu a.1 b.1)) (ah (hSu a.2.1 b.2.1)) (ah a.2.2))]))))|false=>(og (decide (ok Rt 15000 a/\ok Rt 15000 b)) (og (decide (okQ (hid (enc (suT (dec a) (dec b)))))) (some [RV.d aqh (sgQ (dec (hid (enc (suT (dec a) (dec b))))))])))))))))|false=>(og (decide (ok Rt 100000 a/\ok Rt 100000 b)) (match(apF (dec a) (dec b)).2 with|true=>some [RV.d aqh ((apF (dec a) (dec b)).1)]|false=>(og (o2 a.2.2 b.2.2) (match(aE (ah a.2.2) (ah b.2.2))==0 with|true=>(og (o2 a.1 b.1) (og (o2 a.2.1 b.2.1) (og (decide (ok Rat 240000 (hSu a.1 b.1)/\ok Rat 170000 (hSu a.2.1 b.2.1)/\ok Rat 30000 a.2.2)) (some [RV.d aqh (il (ah (hSu a.1 b.1)) (ah (hSu a.2.1 b.2.1)) (ah a.2.2))]))))|false=>(og (decide (ok Rt 15000 a/\ok Rt 15000 b)) (og (decide (okQ (hid (enc (suT (dec a) (dec b)))))) (some [RV.d aqh (sgQ (dec (hid (enc (suT (dec a) (dec b))))))]))))))))
def Er:Cn 201 [tO,tO]:=cn λ(a b:BO3)=>lf (okT 15000 a/\okT 15000 b) [.d aqh (bh (dec a) (dec b))] λh=>by
 refine aB XX (aaE a b) ⟨0,?_⟩;obtain⟨ha,hb⟩:=h;obtain⟨a,rfl,ba,ra⟩:=fU ha;obtain⟨b,rfl,bb,rb⟩:=fU hb;have na:Nn a.2.2:=inferInstance;have nb:Nn b.2.2:=inferInstance;have e:decide (okQ (enc (suT a b)))=true:=AA (by decide) (by decide) (by decide) (by decide) (by decide) (by decide);have e1:=λh1 h2=>Vm ra rb h1 h2;have e2:=λh=>Us ra rb h;have e3:=λh=>Bg ra rb h;unfold aaE;simp only[aU,Nat.reduceAdd,Nat.reduceLeDiff,aq,e];by_cases ha:a.2.1=0
 ·by_cases hb:b.2.1=0
  ·rw[amW ha,amW hb,e1 ha hb]
  ·rw[amW ha,amY hb];dsimp only;cases hq:(apF a b).2
   ·dsimp only;by_cases hc:a.2.2=b.2.2
    ·rw[amW hc,<-e3 hc]
    ·rw[amY hc];rfl
   ·dsimp only;rw[e2 hq]
 ·rw[amY ha];dsimp only;cases hq:(apF a b).2
  ·dsimp only;by_cases hc:a.2.2=b.2.2
   ·rw[amW hc,<-e3 hc]
   ·rw[amY hc];rfl
  ·dsimp only;rw[e2 hq]
def ajO:List En:=enT Er::XX
def YL(a:BO3)(b:BR)(_k:KT):OLR:=og (o1 b) (og (decide (okT 15000 a/\okT 15000 (hid (enc ((ah b,0,0):Rt))))) (some [RV.d aqh (bh (dec a) (dec (hid (enc ((ah b,0,0):Rt)))))]))
def QB:Cn 126 [tO,tR]:=cn λ(a:BO3) (b:BR)=>lf (okT 15000 a/\ok Rat 15000 b) [.d aqh (fY (dec a) (ah b))] λh=>by
 refine aB ajO (YL a b) ⟨0,?_⟩;obtain⟨ha,hb⟩:=h;obtain⟨a,rfl,ba,ra⟩:=fU ha;obtain⟨b,rfl,bb⟩:=aD hb;unfold YL;simp only[aU,Nat.reduceLeDiff,aK];rw[NY ra]
section
section
variable {α:Type}
open Classical in
def rk(lt:α->α->Prop):List α->α->Nat
 |[],_=>0
 |e::r,x=>(if lt e x then 1 else 0)+rk lt r x
structure pW (lt:α->α->Prop):Prop where
 irr:∀x,¬lt x x
 tr:∀x y z,lt x y->lt y z->lt x z
 tri:∀x y,lt x y\/x=y\/lt y x
variable {lt:α->α->Prop}
theorem Yk(h:pW lt){x y:α}(hxy:lt x y):∀L,rk lt L x<=rk lt L y
 |[]=>am2 _
 |e::r=>by
  have:=Yk h hxy r;unfold rk;by_cases h1:lt e x
  ·rw[anp h1,anp (h.tr _ _ _ h1 hxy)];omega
  ·rw[ank h1];omega
theorem Fr(h:pW lt){x y:α}(hxy:lt x y):∀{L},x∈L->rk lt L x<rk lt L y
 |e::r,hm=>by
  have h0:=Yk h hxy r;unfold rk;rcases ane.1 hm with rfl|hm
  ·rw[ank (h.irr _),anp hxy];omega
  ·have:=Fr h hxy hm;by_cases h1:lt e x
   ·rw[anp h1,anp (h.tr _ _ _ h1 hxy)];omega
   ·rw[ank h1];omega
theorem ae0(L:List α)(x:α):rk lt L x<=L.length:=by
 induction L with
 |nil=>exact am2 _
 |cons e r ih=>
  unfold rk;rw[anb];split<;>omega
theorem jp(h:pW lt){x:α}:∀{L},x∈L->rk lt L x<L.length
 |e::r,hm=>by
  unfold rk;rw[anb];rcases ane.1 hm with rfl|hm
  ·rw[ank (h.irr _)];have:=ae0 (lt:=lt) r x;omega
  ·have:=jp h hm;split<;>omega
def wc(lt:α->α->Prop)(c:α->α->Int):Prop:=∀x y,(lt x y->c x y= -1)/\(x=y->c x y=0)/\(lt y x->c x y=1)
def cI(i j:Nat):Int:=if i<j then-1 else if i=j then 0 else 1
theorem sH(h:pW lt){c:α->α->Int}(hc:wc lt c){L:List α}{x y:α}(hx:x∈L)(hy:y∈L):c x y=cI (rk lt L x) (rk lt L y):=by
 unfold cI;rcases h.tri x y with e|e|e
 ·rw[(hc x y).1 e,anp (Fr h e hx)]
 ·subst e;rw[(hc x x).2.1 rfl,ank (Nat.lt_irrefl _),anp rfl]
 ·have:=Fr h e hy;rw[(hc x y).2.2 e,ank (by omega),ank (by omega)]
end
section
variable {α:Type} (cmp:α->α->Int)
def tn(p q:Bool×α):Int:=bif p.1==q.1 then(bif p.1 then-cmp p.2 q.2 else cmp p.2 q.2)else(bif p.1 then-1 else 1)
def pU(f p:Bool×α):Int:=bif tn cmp p f==0 then 0 else bif decide (tn cmp p f>0)then 1 else 2
def kC(n:Int):Int:=if n<0 then-1 else if n=0 then 0 else 1
def ic(f p q:Bool×α):Int:=bif pU cmp f p==pU cmp f q then kC (tn cmp p q)else kC (pU cmp f p-pU cmp f q)
def ky(p q:Bool×α):Int:=bif p.1==q.1 then(bif p.1 then-cmp p.2 q.2 else cmp p.2 q.2)else(bif q.1 then-1 else 1)
def kO(f p q:Bool×α):Int:=bif decide (ky cmp p f<0)==decide (ky cmp q f<0)then ky cmp p q else(bif decide (ky cmp q f<0)then-1 else 1)
variable {cmp} {β:Type} {cmq:β->β->Int}
theorem tj{u v:Bool}{a b:α}{c d:β}(h:cmp a b=cmq c d):tn cmp (u,a) (v,b)=tn cmq (u,c) (v,d):=by unfold tn;rw[h]
theorem tH{u v:Bool}{a b:α}{c d:β}(h:cmp a b=cmq c d):ky cmp (u,a) (v,b)=ky cmq (u,c) (v,d):=by unfold ky;rw[h]
theorem iB{u v w:Bool}{f p q:α}{f' p' q':β}(h1:cmp p f=cmq p' f')(h2:cmp q f=cmq q' f')(h3:cmp p q=cmq p' q'):ic cmp (u,f) (v,p) (w,q)=ic cmq (u,f') (v,p') (w,q'):=by
 unfold ic pU;rw[tj h1,tj h2,tj h3]
theorem gC{u v w:Bool}{f p q:α}{f' p' q':β}(h1:cmp p f=cmq p' f')(h2:cmp q f=cmq q' f')(h3:cmp p q=cmq p' q'):kO cmp (u,f) (v,p) (w,q)=kO cmq (u,f') (v,p') (w,q'):=by
 unfold kO;rw[tH h1,tH h2,tH h3]
end
def nN(k i l j:Nat):Bool:=(k !=0||(bif l==0 then i==j else decide (j<i)))&&(k !=2||(bif l==2 then i==j else decide (i<j)))
def upA(k:Nat):Bool:=k==0||k==1
def ufA(k:Nat):Bool:=k==1||k==2
def dI(i j:Nat):Int:=cI j i
def H5(k i l j m n:Nat):Bool:=nN k i l j&&nN l j k i&&nN k i m n&&nN m n k i&&nN l j m n&&nN m n l j
theorem Wi:∀kF kP kT:Fin 4,∀iF iP iT:Fin 3,H5 kF.1 iF.1 kP.1 iP.1 kT.1 iT.1=true->
  decide (ic cI (upA kF.1,iF.1) (upA kP.1,iP.1) (upA kT.1,iT.1)<=0)=(decide (kO cI (upA kF.1,iF.1) (upA kF.1,iF.1) (upA kP.1,iP.1)<=0)&&decide (kO cI (upA kF.1,iF.1) (upA kP.1,iP.1) (upA kT.1,iT.1)<=0)):=by decide+kernel
theorem afi:∀kF kP kT:Fin 4,∀iF iP iT:Fin 3,H5 kF.1 iF.1 kP.1 iP.1 kT.1 iT.1=true->
  decide (ic cI (upA kT.1,iT.1) (upA kP.1,iP.1) (upA kF.1,iF.1)<=0)=(decide (kO dI (ufA kF.1,iF.1) (ufA kF.1,iF.1) (ufA kP.1,iP.1)<=0)&&decide (kO dI (ufA kF.1,iF.1) (ufA kP.1,iP.1) (ufA kT.1,iT.1)<=0)):=by decide+kernel
def uX(a b:Int):Bool:=a==0||b==0||a==b
def ahp(d a b:Int):Bool:=decide ((bif decide (d>0)then-a else a)<=0)&&decide ((bif decide (d>0)then-b else b)<=0)
theorem tW:∀f p t:Fin 3,uX (cI f.1 p.1) (cI p.1 t.1)=ahp (cI f.1 t.1) (cI f.1 p.1) (cI p.1 t.1):=by decide+kernel
namespace RE
theorem lt_lin:pW (λx y:RE=>x<y):=⟨lt_irrefl,λ_ _ _=>c7,nZ⟩
theorem tT(x y:RE)(h1:x<y):x-y<0:=by grind
theorem BG(x y:RE)(h1:y<x):0<x-y:=by grind
theorem sg_cmpO:wc (λx y:RE=>x<y) (λx y=>sg (x-y)):=λx y=>⟨λh=>ii (tT _ _ h),λh=>by subst h;show sg (x-x)=0;rw[sub_self,dm],λh=>dA (BG _ _ h)⟩
def ab4(p q:RE×RE):Prop:=p.1<q.1\/(p.1=q.1/\p.2<q.2)
theorem kq:pW ab4:=by
 refine⟨λx h=>?_,λx y z h1 h2=>?_,λx y=>?_⟩
 ·rcases h with h|h
  ·exact lt_irrefl _ h
  ·exact lt_irrefl _ h.2
 ·rcases h1 with h1|⟨h1,h1'⟩
  ·rcases h2 with h2|⟨h2,h2'⟩
   ·exact .inl (c7 h1 h2)
   ·exact .inl (h2▸h1)
  ·rcases h2 with h2|⟨h2,h2'⟩
   ·exact .inl (h1▸h2)
   ·exact .inr ⟨h1.trans h2,c7 h1' h2'⟩
 ·rcases nZ x.1 y.1 with h|h|h
  ·exact .inl (.inl h)
  ·rcases nZ x.2 y.2 with h'|h'|h'
   ·exact .inl (.inr ⟨h,h'⟩)
   ·exact .inr (.inl (anx h h'))
   ·exact .inr (.inr (.inr ⟨h.symm,h'⟩))
  ·exact .inr (.inr (.inl h))
def lxc(p q:RE×RE):Int:=bif sg (p.1-q.1)==0 then sg (p.2-q.2)else sg (p.1-q.1)
theorem jc:wc ab4 lxc:=λp q=>by
 unfold lxc;refine⟨λh=>?_,λh=>?_,λh=>?_⟩
 ·rcases h with h|⟨h,h'⟩
  ·rw[ii (tT _ _ h)];rfl
  ·rw[h,sub_self,dm,ii (tT _ _ h')];rfl
 ·subst h;rw[sub_self,sub_self,dm];rfl
 ·rcases h with h|⟨h,h'⟩
  ·rw[dA (BG _ _ h)];rfl
  ·rw[<-h,sub_self,dm,dA (BG _ _ h')];rfl
def cls(u v:RE):Nat:=bif sg v==1 then 1 else bif sg v== -1 then 3 else bif sg u==1 then 0 else 2
theorem iv(u v:RE):cls u v<4:=by
 unfold cls;cases sg v==1<;>cases sg v== -1<;>cases sg u==1<;>simp
theorem ab7(u v:RE):(decide (sg v>0)||(sg v==0&&decide (sg u>0)))=upA (cls u v):=by
 unfold cls;rcases bi v with⟨_,h⟩|⟨_,h⟩|⟨_,h⟩<;>rcases bi u with⟨_,h'⟩|⟨_,h'⟩|⟨_,h'⟩<;>rw[h,h']<;>rfl
theorem acD{u v Q:RE}(hQ:0<Q)(h:u*u+v*v=Q):(decide (sg v>0)||(sg v==0&&decide (-sg u>0)))=ufA (cls u v):=by
 unfold cls;rcases bi v with⟨_,h1⟩|⟨h0,h1⟩|⟨_,h1⟩<;>rcases bi u with⟨_,h'⟩|⟨h2,h'⟩|⟨_,h'⟩<;>rw[h1,h']<;>try rfl
 rw[h0,h2,mul_zero,add_zero]at h;rw[<-h]at hQ;exact absurd hQ (lt_irrefl _)
theorem Sz(u v w z Q:RE):2*((u-(0))*(w-(u)))+((w-(u))*(w-(u)))+((u*u+v*v-(Q)))+((Q-(w*w+z*z)))+((z*z-(0)))+((0-(v))*(v-(0)))=0:=by grind
theorem afo(u v w z Q:RE)(h1:u*u+v*v=Q)(h2:w*w+z*z=Q)(h3:v=0)(h4:0<u)(h5:0<=z*z):w<=u:=λhg=>far (aJ (aJ (aJ (aJ (aJ (Ix (by decide+kernel:(0:Rat)<2) (mul_pos (aM h4) (aM hg))) (le_of_lt (mul_pos (aM hg) (aM hg)))) (aG (mp h1))) (aG (fP h2))) (aG h5)) (aH (aG (fP h3)) (aG (mp h3)))) (Sz u v w z Q)
theorem OH(u v w z Q:RE):2*((0-(u))*(u-(w)))+((u-(w))*(u-(w)))+((u*u+v*v-(Q)))+((Q-(w*w+z*z)))+((z*z-(0)))+((0-(v))*(v-(0)))=0:=by grind
theorem adv(u v w z Q:RE)(h1:u*u+v*v=Q)(h2:w*w+z*z=Q)(h3:v=0)(h4:u<0)(h5:0<=z*z):u<=w:=λhg=>far (aJ (aJ (aJ (aJ (aJ (Ix (by decide+kernel:(0:Rat)<2) (mul_pos (aM h4) (aM hg))) (le_of_lt (mul_pos (aM hg) (aM hg)))) (aG (mp h1))) (aG (fP h2))) (aG h5)) (aH (aG (fP h3)) (aG (mp h3)))) (OH u v w z Q)
theorem Q6(u w z Q:RE)(h1:u*u=Q)(h2:w*w+z*z=Q)(h3:w*w=u*u):z*z<=0:=by grind
theorem wN{z:RE}(h:z*z<=0):z=0:=by
 rcases nZ z 0 with e|e|e
 ·have:=mul_pos (kj e) (kj e);rw[neg_mul,mul_neg,neg_neg]at this
  exact absurd this (λh'=>lt_irrefl _ (c7 h' (by
   rcases cO (cZ z)with h2|h2
   ·exact absurd h2 ((CF _ _).1 h)
   ·rw[h2]at h';exact absurd h' (lt_irrefl _))))
 ·exact e
 ·exact absurd (mul_pos e e) ((CF _ _).1 h)
theorem Ka{u v:RE}:cls u v=0↔v=0/\0<u:=by
 unfold cls;rcases bi v with⟨a,h1⟩|⟨a,h1⟩|⟨a,h1⟩<;>rcases bi u with⟨b,h'⟩|⟨b,h'⟩|⟨b,h'⟩<;>rw[h1,h']<;>simp[a,b]<;>first|exact lt_irrefl _|exact λh=>absurd (c7 h b) (lt_irrefl _)|(intro h;rw[h]at a;exact absurd a (lt_irrefl _))|skip
end RE
end
section
def xP(p:Pt):Rt:=coR p.1 p.2.1 p.2.2.2.2
def yP(p:Pt):Rt:=coR p.2.2.1 p.2.2.2.1 p.2.2.2.2
def atP(v:Rat×Rat):Pt:=(v.1,0,v.2,0,0)
def rdP(p:Pt):Pt:=(p.1,p.2.1,p.2.2.1,p.2.2.2.1,bif decide (p.2.1=0)&&decide (p.2.2.2.1=0)then 0 else p.2.2.2.2)
def mkP(x y:Rt):Pt:=rdP (x.1,x.2.1,y.1,y.2.1,bif decide (x.2.1=0)then y.2.2 else x.2.2)
def uR(x y:Rt):Prop:=x.2.1=0\/y.2.1=0\/x.2.2=y.2.2
instance (x y:Rt):Decidable (uR x y):=by unfold uR;infer_instance
def a8(p q:Pt):Int:=bif bh (xP p) (xP q)==0 then bh (yP p) (yP q)else bh (xP p) (xP q)
def trP(p:Pt)(v:Rat×Rat):Pt:=(p.1+v.1,p.2.1,p.2.2.1+v.2,p.2.2.2.1,p.2.2.2.2)
def bkV(v:Rat×Rat):Rat×Rat:=(-v.1,-v.2)
def sqA(p:Pt)(v:Rat×Rat):Rat:=(p.1-v.1)*(p.1-v.1)+(p.2.2.1-v.2)*(p.2.2.1-v.2)+(p.2.1*p.2.1+p.2.2.2.1*p.2.2.2.1)*p.2.2.2.2
def sqB(p:Pt)(v:Rat×Rat):Rat:=(p.1-v.1)*p.2.1+(p.2.2.1-v.2)*p.2.2.2.1+((p.1-v.1)*p.2.1+(p.2.2.1-v.2)*p.2.2.2.1)
def sqP(p:Pt)(v:Rat×Rat):Rt:=coR (sqA p v) (sqB p v) p.2.2.2.2
def HM(p:Pt):Prop:=(p.2.1=0/\p.2.2.2.1=0/\p.2.2.2.2=0)\/(¬(p.2.1=0/\p.2.2.2.1=0)/\0<p.2.2.2.2/\ga p.2.2.2.2=false)
instance (p:Pt):Decidable (HM p):=by unfold HM;infer_instance
class Rpd (p:Pt):Prop where
 rd:HM p
def okP(k:Nat)(x:BP):Prop:=ok Pt k x/\HM (dec x)
instance (k:Nat) (x:BP):Decidable (okP k x):=by unfold okP;infer_instance
theorem bR{k:Nat}{x:BP}(h:okP k x):∃v:Pt,x=enc v/\Bd v k/\Rpd v:=by
 obtain⟨h1,h2⟩:=h;obtain⟨v,rfl,bv⟩:=aD h1;rw[aA]at h2;exact⟨v,rfl,bv,⟨h2⟩⟩
theorem aL{x:Pt}{j k:Nat}[h:Bd x j][r:Rpd x](hj:j<=k)(hk:k<=480000):decide (okP k (enc x))=true:=amW ⟨amZ (okd hj hk),by rw[aA];exact r.rd⟩
theorem Rpd.ns{p:Pt}(h:Rpd p):Ns p.2.2.2.2:=⟨by rcases h.rd with h|h;exact .inl h.2.2;exact .inr h.2⟩
instance amF {p:Pt} [h:Rpd p]:Ns p.2.2.2.2:=h.ns
theorem Rpd.nn{p:Pt}(h:Rpd p):0<=p.2.2.2.2:=h.ns.nn
theorem Nd{a b c:Rat}(h:Ns c)(hb:b=0\/c≠0):Rdd (coR a b c):=by
 refine⟨?_⟩;unfold coR;by_cases e:b=0
 ·rw[amW e];exact .inl ⟨rfl,rfl⟩
 ·rw[amY e];rcases h.ns with h|h
  ·rcases hb with hb|hb
   ·exact absurd hb e
   ·exact absurd h hb
  ·exact .inr ⟨e,h⟩
theorem Rpd.b0{p:Pt}(h:Rpd p):(p.2.1=0/\p.2.2.2.1=0)\/p.2.2.2.2≠0:=by
 rcases h.rd with h|h
 ·exact .inl ⟨h.1,h.2.1⟩
 ·exact .inr (by have:=h.2.1;grind)
instance ald {p:Pt} [h:Rpd p]:Rdd (xP p):=Nd h.ns (by rcases h.b0 with h|h;exact .inl h.1;exact .inr h)
instance alz {p:Pt} [h:Rpd p]:Rdd (yP p):=Nd h.ns (by rcases h.b0 with h|h;exact .inl h.2;exact .inr h)
instance amA {p:Pt} {v:Rat×Rat} [h:Rpd p]:Rdd (sqP p v):=Nd h.ns (by
 rcases h.b0 with h|h
 ·refine .inl ?_;unfold sqB;rw[h.1,h.2];grind
 ·exact .inr h)
instance afX {v:Rat×Rat}:Rpd (atP v):=⟨.inl ⟨rfl,rfl,rfl⟩⟩
instance amB {p:Pt} {v:Rat×Rat} [h:Rpd p]:Rpd (trP p v):=⟨h.rd⟩
theorem X9{x y:Rt}(hx:Rdd x)(hy:Rdd y)(_h:uR x y):Rpd (mkP x y):=by
 refine⟨?_⟩;unfold mkP rdP HM;dsimp only;rcases hx.rd with⟨a1,a2⟩|⟨a1,a2,a3⟩<;>rcases hy.rd with⟨b1,b2⟩|⟨b1,b2,b3⟩
 ·simp[a1,b1]
 ·simp[a1,b1,b2,b3]
 ·simp[a1,b1,a2,a3]
 ·simp[a1,b1,a2,a3]
section
variable {p:Pt} {j:Nat}
instance amD [h:Bd p j]:Bd (xP p) (mx j (mx j j)):=inferInstanceAs (Bd (coR p.1 p.2.1 p.2.2.2.2) _)
instance amI [h:Bd p j]:Bd (yP p) (mx j (mx j j)):=inferInstanceAs (Bd (coR p.2.2.1 p.2.2.2.1 p.2.2.2.2) _)
instance alU {v:Rat×Rat} [h:Bd v j]:Bd (atP v) (mx j (mx 1 (mx j (mx 1 1)))):=inferInstanceAs (Bd ((v.1,0,v.2,0,0):Pt) _)
instance alO {v:Rat×Rat} {k:Nat} [h:Bd p j] [h':Bd v k]:Bd (trP p v) (mx (j+k+1) (mx j (mx (j+k+1) (mx j j)))):=inferInstanceAs (Bd ((p.1+v.1,p.2.1,p.2.2.1+v.2,p.2.2.2.1,p.2.2.2.2):Pt) _)
instance amO {v:Rat×Rat} [h:Bd v j]:Bd (bkV v) (mx j j):=inferInstanceAs (Bd ((-v.1,-v.2):Rat×Rat) _)
end
instance ali {p:Pt} {j:Nat} [h:Bd p j]:Bd (rdP p) (mx j (mx j (mx j (mx j (mx 1 j))))):=inferInstanceAs (Bd ((p.1,p.2.1,p.2.2.1,p.2.2.2.1,bif decide (p.2.1=0)&&decide (p.2.2.2.1=0)then 0 else p.2.2.2.2):Pt) _)
instance acJ {x y:Rt} {j k:Nat} [h:Bd x j] [h':Bd y k]:Bd (mkP x y) (mx (mx j (mx j (mx k (mx k (mx k j))))) (mx (mx j (mx j (mx k (mx k (mx k j))))) (mx (mx j (mx j (mx k (mx k (mx k j))))) (mx (mx j (mx j (mx k (mx k (mx k j))))) (mx 1 (mx j (mx j (mx k (mx k (mx k j)))))))))):=inferInstanceAs (Bd (rdP (x.1,x.2.1,y.1,y.2.1,bif decide (x.2.1=0)then y.2.2 else x.2.2)) _)
theorem fZ{j k n:Nat}(h1:j<=n)(h2:k<=n):mx j k<=n:=by
 unfold mx;cases decide (j<=k)
 ·exact h1
 ·exact h2
section
variable {p:Pt} {v:Rat×Rat} {j k:Nat}
instance akN [h:Bd p j] [h':Bd v k]:Bd (sqA p v) (10*(j+k+1)):=by
 have a1:Bd (p.1-v.1) _:=inferInstance;have a2:Bd (p.2.2.1-v.2) _:=inferInstance;have a3:Bd (p.2.1*p.2.1+p.2.2.2.1*p.2.2.2.1) _:=inferInstance;have i:Bd ((p.1-v.1)*(p.1-v.1)+(p.2.2.1-v.2)*(p.2.2.1-v.2)+(p.2.1*p.2.1+p.2.2.2.1*p.2.2.2.1)*p.2.2.2.2) _:=inferInstance;exact i.mono (by omega)
instance al9 [h:Bd p j] [h':Bd v k]:Bd (sqB p v) (10*(j+k+1)):=by
 have a1:Bd (p.1-v.1) _:=inferInstance;have a2:Bd (p.2.2.1-v.2) _:=inferInstance;have i:Bd ((p.1-v.1)*p.2.1+(p.2.2.1-v.2)*p.2.2.2.1+((p.1-v.1)*p.2.1+(p.2.2.1-v.2)*p.2.2.2.1)) _:=inferInstance;exact i.mono (by omega)
instance aml [h:Bd p j] [h':Bd v k]:Bd (sqP p v) (10*(j+k+1)):=by
 have i:Bd (coR (sqA p v) (sqB p v) p.2.2.2.2) _:=inferInstance;exact i.mono (fZ (by omega) (fZ (by omega) (by omega)))
end
namespace RE
def pX(p:Pt):RE:=v2 p.1 p.2.1 p.2.2.2.2
def pY(p:Pt):RE:=v2 p.2.2.1 p.2.2.2.1 p.2.2.2.2
def pR(p:Pt):RE×RE:=(pX p,pY p)
theorem tY(p:Pt):vR (xP p)=pX p:=vR_co _ _ _
theorem WX(p:Pt):vR (yP p)=pY p:=vR_co _ _ _
theorem mL{p:Pt}[h:Rpd p]:0<=(xP p).2.2:=(ald (p:=p)).nn
theorem Ip{p:Pt}[h:Rpd p]:0<=(yP p).2.2:=(alz (p:=p)).nn
theorem jP{p q:Pt}[Rpd p][Rpd q]:a8 p q=lxc (pR p) (pR q):=by
 unfold a8 lxc;rw[cmpT_re mL mL,cmpT_re Ip Ip,tY,tY,WX,WX];rfl
theorem abM(x y s t c u w:RE):(x+s*c-u)*(x+s*c-u)+(y+t*c-w)*(y+t*c-w)=(x-u)*(x-u)+(y-w)*(y-w)+(s*s+t*t)*(c*c)+((x-u)*s+(y-w)*t+((x-u)*s+(y-w)*t))*c:=by grind
theorem HR{p:Pt}{v:Rat×Rat}[h:Rpd p]:vR (sqP p v)=(pX p-of v.1)*(pX p-of v.1)+(pY p-of v.2)*(pY p-of v.2):=by
 unfold sqP pX pY;rw[vR_co];unfold v2;rw[abM,dB h.nn];unfold sqA sqB;simp only[of_add,of_sub,of_mul]
theorem pX_at(v:Rat×Rat):pX (atP v)=of v.1:=dZ _ _
theorem pY_at(v:Rat×Rat):pY (atP v)=of v.2:=dZ _ _
end RE
end
theorem lS(a b:Rat):(aE a b !=0)=!decide (a=b):=by
 unfold bne;rw[aq]
def Yt:List En:=[⟨125,jh,fE⟩,⟨67,iA,fi⟩,⟨132,jw,fO⟩,⟨65,je,fH⟩,⟨54,gi,eg⟩,⟨66,mX,ji⟩,enT Er]
def X1(_k:KT):OLR:=og (decide (aI (0:Int))) (some [RV.d tR (hid (ao ((0:Int):Rat)))])
def ajd:Cn 166 []:=cn<|lf True [.d tR (ao 0)] λ_=>by
 refine aB Yt (X1) ⟨0,?_⟩;unfold X1;rw[dT (show aI 0 by decide)];simp only[bL];rfl
def Jc:List En:=enL ajd::Yt
def Xu(v:BV)(_k:KT):OLR:=some [RV.d tP (v.1,(hid (ao 0),(v.2,(hid (ao 0),hid (ao 0)))))]
def Jz:Cn 69 [tV]:=cn λ(v:BV)=>lf (ok (Rat×Rat) 100000 v) [.d tP (enc (atP (dec v)))] λh=>by
 refine aB Jc (Xu v) ⟨0,?_⟩;have hv:=h;obtain⟨v,rfl,bv⟩:=aD hv;unfold Xu;simp only[aU];try rfl
def aa1(p:BP)(_k:KT):OLR:=og (o1 p.2.1) (match(aE (ah p.2.1) 0)==0 with|true=>(og (o1 p.2.2.2.1) (match(aE (ah p.2.2.2.1) 0)==0 with|true=>some [RV.d tP (p.1,(p.2.1,(p.2.2.1,(p.2.2.2.1,hid (ao 0)))))]|false=>some [RV.d tP p]))|false=>some [RV.d tP p])
def agw:Cn 290 [tP]:=cn λ(p:BP)=>lf (ok Pt 21000 p) [.d tP (enc (rdP (dec p)))] λh=>by
 refine aB Jc (aa1 p) ⟨0,?_⟩;have hp:=h;obtain⟨p,rfl,bp⟩:=aD hp;unfold aa1;simp only[aU,Nat.reduceLeDiff,aq];unfold rdP;by_cases h1:p.2.1=0
 ·by_cases h2:p.2.2.2.1=0
  ·rw[amW h1,amW h2];rfl
  ·rw[amW h1,amY h2];rfl
 ·rw[amY h1];rfl
def aax(a b c:BR)(_k:KT):OLR:=og (o1 b) (match(aE (ah b) 0)==0 with|true=>some [RV.d tO (a,(b,hid (ao 0)))]|false=>some [RV.d tO (a,(b,c))])
def aiF:Cn 224 [tR,tR,tR]:=cn λ(a b c:BR)=>lf (okR a/\okR b/\okR c) [.d tO (enc (coR (ah a) (ah b) (ah c)))] λh=>by
 refine aB Jc (aax a b c) ⟨0,?_⟩;obtain⟨ha,hb,hc⟩:=h;obtain⟨a,rfl,ba⟩:=fD ha;obtain⟨b,rfl,bb⟩:=fD hb;obtain⟨c,rfl,bc⟩:=fD hc;unfold aax;simp only[aU,Nat.reduceLeDiff,aq];unfold coR;by_cases e:b=0
 ·subst e;rw[amW rfl];rfl
 ·rw[amY e];rfl
def DS:List En:=enL Jz::enL agw::enL aiF::Jc
def aaq(x y:BO3)(_k:KT):OLR:=og (o1 x.2.1) (match(aE (ah x.2.1) 0)==0 with|true=>(og (decide (ok Pt 21000 (x.1,(x.2.1,y)))) (some [RV.d tP (hid (enc (rdP (dec (x.1,(x.2.1,y)))))),RV.d aqh 0]))|false=>(og (o1 y.2.1) (match(aE (ah y.2.1) 0) !=0 with|true=>(og (o2 x.2.2 y.2.2) (match(aE (ah x.2.2) (ah y.2.2)) !=0 with|true=>some [RV.d tP (((false,[]),(false,[])),(((false,[]),(false,[])),(((false,[]),(false,[])),(((false,[]),(false,[])),((false,[]),(false,[])))))),RV.d aqh 1]|false=>(og (decide (ok Pt 21000 (x.1,(x.2.1,(y.1,(y.2.1,x.2.2)))))) (some [RV.d tP (hid (enc (rdP (dec (x.1,(x.2.1,(y.1,(y.2.1,x.2.2)))))))),RV.d aqh 0]))))|false=>(og (decide (ok Pt 21000 (x.1,(x.2.1,(y.1,(y.2.1,x.2.2)))))) (some [RV.d tP (hid (enc (rdP (dec (x.1,(x.2.1,(y.1,(y.2.1,x.2.2)))))))),RV.d aqh 0])))))
def Za:Cn 232 [tO,tO]:=cn λ(x y:BO3)=>lf (okT 15000 x/\okT 15000 y/\uR (dec x) (dec y)) [.d tP (enc (mkP (dec x) (dec y))),.d aqh 0] λh=>by
 refine aB DS (aaq x y) ⟨0,?_⟩;obtain⟨hx,hy,hy_2⟩:=h;obtain⟨x,rfl,bx,rx⟩:=fU hx;obtain⟨y,rfl,b_y,ry⟩:=fU hy;have i1:decide (ok Pt 21000 (enc ((x.1,x.2.1,y):Pt)))=true:=okd (by decide) (by decide);have i2:decide (ok Pt 21000 (enc ((x.1,x.2.1,y.1,y.2.1,x.2.2):Pt)))=true:=okd (by decide) (by decide);have j1:(dec ((ao x.1,ao x.2.1,enc y):BP):Pt)=(x.1,x.2.1,y):=aA ((x.1,x.2.1,y):Pt);have j2:(dec ((ao x.1,ao x.2.1,ao y.1,ao y.2.1,ao x.2.2):BP):Pt)=(x.1,x.2.1,y.1,y.2.1,x.2.2):=aA ((x.1,x.2.1,y.1,y.2.1,x.2.2):Pt);have i1:decide (ok Pt 21000 ((ao x.1,ao x.2.1,enc y):BP))=true:=i1;have i2:decide (ok Pt 21000 ((ao x.1,ao x.2.1,ao y.1,ao y.2.1,ao x.2.2):BP))=true:=i2;have hm:=hy_2;rw[aA,aA]at hm;unfold aaq;simp only[aU,Nat.reduceLeDiff,aq,lS,i1,i2,j1,j2];unfold mkP;by_cases e1:x.2.1=0
 ·rw[amW e1];rfl
 ·rw[amY e1];by_cases e2:y.2.1=0
  ·rw[amW e2];rfl
  ·rw[amY e2,amW ((hm.resolve_left e1).resolve_left e2)];rfl
def afU(p:BP)(_k:KT):OLR:=og (decide (okR p.1/\okR p.2.1/\okR p.2.2.2.2)) (some [RV.d tO (hid (enc (coR (ah p.1) (ah p.2.1) (ah p.2.2.2.2))))])
def agn:Cn 202 [tP]:=cn λ(p:BP)=>lf (okP 4000 p) [.d tO (enc (xP (dec p)))] λh=>by
 refine aB DS (afU p) ⟨0,?_⟩;have hp:=h;obtain⟨p,rfl,bp,rp⟩:=bR hp;unfold afU;simp only[aU,Nat.reduceLeDiff];try rfl
def aiq(p:BP)(_k:KT):OLR:=og (decide (okR p.2.2.1/\okR p.2.2.2.1/\okR p.2.2.2.2)) (some [RV.d tO (hid (enc (coR (ah p.2.2.1) (ah p.2.2.2.1) (ah p.2.2.2.2))))])
def aip:Cn 203 [tP]:=cn λ(p:BP)=>lf (okP 4000 p) [.d tO (enc (yP (dec p)))] λh=>by
 refine aB DS (aiq p) ⟨0,?_⟩;have hp:=h;obtain⟨p,rfl,bp,rp⟩:=bR hp;unfold aiq;simp only[aU,Nat.reduceLeDiff];try rfl
def Z9(p:BP)(v:BV)(_k:KT):OLR:=let y1:=hMu (hSu p.1 v.1) (hSu p.1 v.1);let y2:=hMu (hSu p.2.2.1 v.2) (hSu p.2.2.1 v.2);let y3:=hMu p.2.2.2.1 p.2.2.2.1;let y4:=hAd (hMu p.2.1 p.2.1) y3;let y5:=hMu (hSu p.1 v.1) p.2.1;let y6:=hMu (hSu p.2.2.1 v.2) p.2.2.2.1;let y7:=hAd (hAd y1 y2) (hMu y4 p.2.2.2.2);let y8:=hAd (hAd y5 y6) (hAd y5 y6);let y9:OLR:=match decide (okR y5/\okR y6)with|true=>(og (o2 (hAd y5 y6) (hAd y5 y6)) (og (decide (okR y7/\okR y8/\okR p.2.2.2.2)) (some [RV.d tO (hid (enc (coR (ah y7) (ah y8) (ah p.2.2.2.2))))])))|false=>none;let y10:OLR:=match decide (okR (hSu p.2.2.1 v.2)/\okR p.2.2.2.1)with|true=>y9|false=>none;let y11:OLR:=match decide (okR (hAd y1 y2)/\okR (hMu y4 p.2.2.2.2))with|true=>cA (og (o2 (hSu p.1 v.1) p.2.1) (cA (og (o2 (hSu p.2.2.1 v.2) p.2.2.2.1) (dup (.b .l .l) y9)) y10)) (og (o2 (hSu p.1 v.1) p.2.1) y10)|false=>none;let y12:OLR:=match decide (okR y4/\okR p.2.2.2.2)with|true=>y11|false=>none;let y13:OLR:=match decide (okR (hMu p.2.1 p.2.1)/\okR y3)with|true=>y12|false=>none;let y14:OLR:=match decide (okR p.2.2.2.1/\okR p.2.2.2.1)with|true=>y13|false=>none;let y15:OLR:=match decide (okR p.2.1/\okR p.2.1)with|true=>y14|false=>none;let y16:OLR:=match decide (okR y1/\okR y2)with|true=>y15|false=>none;let y17:OLR:=match decide (okR (hSu p.2.2.1 v.2)/\okR (hSu p.2.2.1 v.2))with|true=>y16|false=>none;og (o2 p.1 v.1) (og (o2 p.2.2.1 v.2) (cA (og (o2 (hSu p.1 v.1) (hSu p.1 v.1)) (cA (og (o2 (hSu p.2.2.1 v.2) (hSu p.2.2.1 v.2)) (cA (og (o2 y1 y2) (cA (og (o2 p.2.1 p.2.1) (cA (og (o2 p.2.2.2.1 p.2.2.2.1) (cA (og (o2 (hMu p.2.1 p.2.1) y3) (cA (og (o2 y4 p.2.2.2.2) (dup (.b .l .l) y11)) y12)) y13)) y14)) y15)) y16)) y17)) (og (o2 (hSu p.1 v.1) (hSu p.1 v.1)) y17)))
def Yn:Cn 127 [tP,tV]:=cn λ(p:BP) (v:BV)=>lf (okP 3500 p/\ok (Rat×Rat) 300 v) [.d tO (enc (sqP (dec p) (dec v)))] λh=>by
 refine aB DS (Z9 p v) ⟨0,?_⟩;obtain⟨hp,hv⟩:=h;obtain⟨p,rfl,bp,rp⟩:=bR hp;obtain⟨v,rfl,bv⟩:=aD hv;unfold Z9;simp only[aU,Nat.reduceAdd,Nat.reduceLeDiff];rfl
def ajI:List En:=enL agn::enL aip::DS
def aak(p q:BP)(_k:KT):OLR:=og (decide (okP 4000 p)) (og (decide (okP 4000 q)) (og (decide (okT 15000 (hid (enc (xP (dec p))))/\okT 15000 (hid (enc (xP (dec q)))))) (match(bh (dec (hid (enc (xP (dec p))))) (dec (hid (enc (xP (dec q)))))) !=0 with|true=>some [RV.d aqh (bh (dec (hid (enc (xP (dec p))))) (dec (hid (enc (xP (dec q))))))]|false=>(og (decide (okP 4000 p)) (og (decide (okP 4000 q)) (og (decide (okT 15000 (hid (enc (yP (dec p))))/\okT 15000 (hid (enc (yP (dec q)))))) (some [RV.d aqh (bh (dec (hid (enc (yP (dec p))))) (dec (hid (enc (yP (dec q))))))])))))))
def SS:Cn 103 [tP,tP]:=cn λ(p q:BP)=>lf (okP 4000 p/\okP 4000 q) [.d aqh (a8 (dec p) (dec q))] λh=>by
 refine aB ajI (aak p q) ⟨0,?_⟩;obtain⟨hp,hq⟩:=h;obtain⟨p,rfl,bp,rp⟩:=bR hp;obtain⟨q,rfl,bq,rq⟩:=bR hq;unfold aak;simp only[aU,Nat.reduceLeDiff,aK,aL];unfold a8 bne;cases bh (xP p) (xP q)==0<;>rfl
section
def qC(l:Ln)(p:Pt):Rat:=l.1*p.1+l.2.1*p.2.2.1-l.2.2
def qK(l:Ln)(p:Pt):Rat:=l.1*p.2.1+l.2.1*p.2.2.2.1
def qB(l:Ln)(p:Pt):Int:=il (qC l p) (qK l p) p.2.2.2.2
def ctr(c:Ln):Rat×Rat:=(c.1,c.2.1)
def pV(c:Ln)(p:Pt):Int:= -il (sqA p (ctr c)-c.2.2) (sqB p (ctr c)) p.2.2.2.2
def nV(l:Ln)(v:Rat×Rat):Rat:=(l.1*v.1+l.2.1*v.2-l.2.2)/(l.1*l.1+l.2.1*l.2.1)
def cQ(l:Ln)(v:Rat×Rat):Rat×Rat:=(v.1-nV l v*l.1,v.2-nV l v*l.2.1)
section
variable {l:Ln} {p:Pt} {v:Rat×Rat} {i j k:Nat}
instance alQ [h:Bd l i]:Bd (ctr l) (mx i i):=inferInstanceAs (Bd ((l.1,l.2.1):Rat×Rat) _)
instance akD [h:Bd l i] [h':Bd p j]:Bd (qC l p) ((i+j)+(i+j)+1+i+1):=inferInstanceAs (Bd (l.1*p.1+l.2.1*p.2.2.1-l.2.2) _)
instance akF [h:Bd l i] [h':Bd p j]:Bd (qK l p) ((i+j)+(i+j)+1):=inferInstanceAs (Bd (l.1*p.2.1+l.2.1*p.2.2.2.1) _)
instance akC [h:Bd l i] [h':Bd v k]:Bd (nV l v) (((i+k)+(i+k)+1+i+1)+((i+i)+(i+i)+1)):=inferInstanceAs (Bd ((l.1*v.1+l.2.1*v.2-l.2.2)/(l.1*l.1+l.2.1*l.2.1)) _)
instance ahH [h:Bd l i] [h':Bd v k]:Bd (cQ l v) (8*i+3*k+4):=by
 have i1:Bd (v.1-nV l v*l.1) _:=inferInstance;have i2:Bd (v.2-nV l v*l.2.1) _:=inferInstance;have i3:Bd ((v.1-nV l v*l.1,v.2-nV l v*l.2.1):Rat×Rat) _:=inferInstance;exact i3.mono (fZ (by omega) (by omega))
end
theorem kR{a b:Rat}(h:a≠0\/b≠0):a*a+b*b≠0:=by
 have ha:0<=a*a:=by
  rcases(by grind:0<=a\/0<= -a)with h|h
  ·exact anh h h
  ·have:=anh h h;grind
 have hb:0<=b*b:=by
  rcases(by grind:0<=b\/0<= -b)with h|h
  ·exact anh h h
  ·have:=anh h h;grind
 intro e;have e1:a*a=0:=by grind
 have e2:b*b=0:=by grind
 rcases h with h|h
 ·exact h (by rcases apa.1 e1 with h|h<;>exact h)
 ·exact h (by rcases apa.1 e2 with h|h<;>exact h)
namespace RE
theorem aeL(a b x s y t c r:RE):a*(x+s*r)+b*(y+t*r)+ -c=a*x+b*y-c+(a*s+b*t)*r:=by grind
theorem ahw(a b q r:RE):a+b*r+ -q=a-q+b*r:=by grind
theorem RC(a b:RE):a+ -b=a-b:=rfl
theorem C2(l:Ln){p:Pt}[h:Rpd p]:qB l p=sg (of l.1*pX p+of l.2.1*pY p+ -of l.2.2):=by
 unfold qB pX pY;rw[sgn2_re h.nn];unfold v2;rw[aeL];unfold qC qK;simp only[of_add,of_sub,of_mul]
theorem Bs(c:Ln){p:Pt}[h:Rpd p]:pV c p= -sg ((pX p-of c.1)*(pX p-of c.1)+(pY p-of c.2.1)*(pY p-of c.2.1)+ -of c.2.2):=by
 unfold pV;have e:=HR (p:=p) (v:=ctr c);unfold sqP at e;rw[vR_co]at e;rw[sgn2_re h.nn];unfold v2 at e ⊢;rw[of_sub,<-ahw,e];rfl
theorem sidL_ok(l:Ln){p:Pt}[Rpd p](h:(yr l p).2=true):(yr l p).1=qB l p:=by
 rw[WS h,C2];try rfl
theorem insC_ok(c:Ln){p:Pt}[Rpd p](h:(vu c p).2=true): -(vu c p).1=pV c p:=by
 rw[Xc h,Bs];simp only[RC];try rfl
end RE
end
def jY(r s:Rt):Rat:=bif decide (r.2.1=0)then s.2.2 else r.2.2
def tz(r s:Rt):Bool:=decide (r.2.1=0)||(decide (s.2.1=0)||decide (r.2.2=s.2.2))
def pT(r s:Rt):Rt:=nL (r.1*s.1+r.2.1*s.2.1*jY r s) (r.1*s.2.1+r.2.1*s.1) (jY r s)
def z5(r s:Rt):Rt:=nL (r.1+s.1) (r.2.1+s.2.1) (jY r s)
def arT(r:Rt)(a:Rat):Rt:=(r.1+a,r.2.1,r.2.2)
theorem aZ(a b:Rat):(aE a b !=0)=!decide (a=b):=by
 unfold bne;rw[aq]
instance alv {r s:Rt} {i j:Nat} [h:Bd r i] [h':Bd s j]:Bd (jY r s) (mx j i):=inferInstanceAs (Bd (bif decide (r.2.1=0)then s.2.2 else r.2.2) _)
instance aky {a b c:Rat} {i j k:Nat} [ha:Bd a i] [hb:Bd b j] [hc:Bd c k]:Bd (nL a b c) (mx i (mx j k)):=by
 have h1:=Bo i (mx j k);have h2:=B9 i (mx j k);have h3:=Bo j k;have h4:=B9 j k;have h5:=pK ha.le;have z:bdR (mx i (mx j k)) 0:=bJ mN.le (by omega);refine⟨?_⟩;unfold nL;cases decide (b=0)
 ·cases decide (c=0)
  ·exact⟨bJ ha.le (by omega),bJ hb.le (by omega),bJ hc.le (by omega)⟩
  ·exact⟨bJ ha.le (by omega),z,z⟩
 ·exact⟨bJ ha.le (by omega),z,z⟩
theorem Le(r:Rt):tz r r=true:=by
 unfold tz;rw[amW (rfl:r.2.2=r.2.2)];simp
theorem JG{p:Pt}{v:Rat×Rat}(h:Rpd p):tz (pT (xP (trP p (bkV v))) (xP (trP p (bkV v)))) (pT (yP (trP p (bkV v))) (yP (trP p (bkV v))))=true/\z5 (pT (xP (trP p (bkV v))) (xP (trP p (bkV v)))) (pT (yP (trP p (bkV v))) (yP (trP p (bkV v))))=sqP p v:=by
 obtain⟨ax,bx,ay,b_,c⟩:=p;have hr:=h.rd;unfold HM at hr;simp only at hr;unfold sqP sqA sqB xP yP trP bkV;simp only;rw[show ax+ -v.1=ax-v.1 by grind,show ay+ -v.2=ay-v.2 by grind];generalize ax-v.1=x;generalize ay-v.2=y;rcases hr with⟨rfl,rfl,rfl⟩|⟨h1,h2,h3⟩
 ·have e0:∀a:Rat,coR a 0 0=(a,0,0):=λa=>rfl
  have e1:∀a:Rat,pT (a,0,0) (a,0,0)=(a*a,0,0):=λa=>by
   unfold pT jY nL;simp;grind
  rw[e0,e0,e1,e1];refine⟨rfl,?_⟩;rw[show x*0+y*0+(x*0+y*0)=(0:Rat) by grind];unfold z5 jY nL coR;simp;grind
 ·have hc:c≠0:=by grind
  have dc:decide (c=0)=false:=amY hc
  have sq0:∀a:Rat,pT (coR a 0 c) (coR a 0 c)=(a*a,0,0):=λa=>by
   unfold coR;rw[amW rfl];unfold pT jY nL;simp;grind
  have sq1:∀a b:Rat,b≠0->pT (coR a b c) (coR a b c)=coR (a*a+b*b*c) (a*b+b*a) c:=λa b hb=>by
   have e:coR a b c=(a,b,c):=by unfold coR;rw[amY hb];rfl
   rw[e];unfold pT jY nL coR;simp only[amY hb,cond_false,dc]
  have cR:∀a b:Rat,nL a b c=coR a b c:=λa b=>by unfold nL coR;rw[dc];rfl
  have ad:∀a b d e:Rat,tz (coR a b c) (coR d e c)=true/\(b≠0\/e≠0->z5 (coR a b c) (coR d e c)=coR (a+d) (b+e) c)/\(b=0->e=0->z5 (coR a b c) (coR d e c)=(a+d,0,0)):=λa b d e=>by
   by_cases hb:b=0
   ·subst hb;by_cases he:e=0
    ·subst he;refine⟨rfl,λh=>by simp at h,λ_ _=>?_⟩;unfold coR z5 jY nL;simp
    ·refine⟨rfl,λ_=>?_,λ_ h=>absurd h he⟩;have e1:coR a 0 c=(a,0,0):=rfl;have e2:coR d e c=(d,e,c):=by unfold coR;rw[amY he];rfl
     rw[e1,e2];show nL (a+d) (0+e) c=_;rw[cR]
   ·have e1:coR a b c=(a,b,c):=by unfold coR;rw[amY hb];rfl
    by_cases he:e=0
    ·subst he;have e2:coR d 0 c=(d,0,0):=rfl;refine⟨by rw[e1,e2];simp[tz],λ_=>?_,λh=>absurd h hb⟩;rw[e1,e2];unfold z5 jY;simp only[amY hb,cond_false];rw[cR]
    ·have e2:coR d e c=(d,e,c):=by unfold coR;rw[amY he];rfl
     refine⟨by rw[e1,e2];simp[tz],λ_=>?_,λh=>absurd h hb⟩;rw[e1,e2];unfold z5 jY;simp only[amY hb,cond_false];rw[cR]
  have c0:∀a:Rat,((a,0,0):Rt)=coR a 0 c:=λa=>rfl;by_cases hx:bx=0
  ·subst hx;have hy:b_≠0:=λe=>h1 ⟨rfl,e⟩;rw[sq0,sq1 _ _ hy,c0];obtain⟨g1,g2,g3⟩:=ad (x*x) 0 (y*y+b_*b_*c) (y*b_+b_*y);refine⟨g1,?_⟩;by_cases he:y*b_+b_*y=0
   ·rw[g3 rfl he,show x*0+y*b_+(x*0+y*b_)=0 by grind];show _=coR _ 0 c;rw[<-c0];congr 1;grind
   ·rw[g2 (.inr he)];congr 1<;>grind
  ·by_cases hy:b_=0
   ·subst hy;rw[sq0,sq1 _ _ hx,c0];obtain⟨g1,g2,g3⟩:=ad (x*x+bx*bx*c) (x*bx+bx*x) (y*y) 0;refine⟨g1,?_⟩;by_cases he:x*bx+bx*x=0
    ·rw[g3 he rfl,show x*bx+y*0+(x*bx+y*0)=0 by grind];show _=coR _ 0 c;rw[<-c0];congr 1;grind
    ·rw[g2 (.inl he)];congr 1<;>grind
   ·rw[sq1 _ _ hx,sq1 _ _ hy];obtain⟨g1,g2,g3⟩:=ad (x*x+bx*bx*c) (x*bx+bx*x) (y*y+b_*b_*c) (y*b_+b_*y);refine⟨g1,?_⟩;by_cases h0:x*bx+bx*x=0/\y*b_+b_*y=0
    ·rw[g3 h0.1 h0.2,show x*bx+y*b_+(x*bx+y*b_)=0 by grind];show _=coR _ 0 c;rw[<-c0];congr 1;grind
    ·rw[g2 (by by_cases e:x*bx+bx*x=0;exact .inr (λe'=>h0 ⟨e,e'⟩);exact .inl e)];congr 1<;>grind
theorem Rpd.com{p:Pt}{v:Rat×Rat}(h:Rpd p):tz (pT (xP (trP p (bkV v))) (xP (trP p (bkV v)))) (pT (yP (trP p (bkV v))) (yP (trP p (bkV v))))=true:=(JG h).1
instance akz {r s:Rt} {i j:Nat} [h:Bd r i] [h':Bd s j]:Bd (pT r s) (2*(i+j)+(mx j i)+1):=by
 have m:Bd (jY r s) (mx j i):=inferInstance;have a1:Bd (r.1*s.1+r.2.1*s.2.1*jY r s) _:=inferInstance;have a2:Bd (r.1*s.2.1+r.2.1*s.1) _:=inferInstance;have i1:Bd (nL (r.1*s.1+r.2.1*s.2.1*jY r s) (r.1*s.2.1+r.2.1*s.1) (jY r s)) _:=inferInstance;exact i1.mono (fZ (by omega) (fZ (by omega) (by omega)))
instance akA {r s:Rt} {i j:Nat} [h:Bd r i] [h':Bd s j]:Bd (z5 r s) (i+j+1):=by
 have i1:Bd (nL (r.1+s.1) (r.2.1+s.2.1) (jY r s)) _:=inferInstance;exact i1.mono (fZ (by omega) (fZ (by omega) (fZ (by omega) (by omega))))
instance alb {r:Rt} {a:Rat} {i j:Nat} [h:Bd r i] [h':Bd a j]:Bd (arT r a) (i+j+1):=by
 have i1:Bd ((r.1+a,r.2.1,r.2.2):Rt) _:=inferInstance;exact i1.mono (fZ (by omega) (fZ (by omega) (by omega)))
def AH:List En:=[enT pJ,enL n9,enL oN,enL qH,enT wq,enL tC,enL RZ,enL GT,enL P7,enT FL,enT HH]
def Rb(r s:BO3)(_k:KT):OLR:=og (o1 r.2.1) (match(aE (ah r.2.1) 0)==0 with|true=>some [RV.d tR s.2.2,RV.d .bool true]|false=>(og (o1 s.2.1) (match(aE (ah s.2.1) 0)==0 with|true=>some [RV.d tR r.2.2,RV.d .bool true]|false=>(og (o2 r.2.2 s.2.2) (some [RV.d tR r.2.2,RV.d .bool ((aE (ah r.2.2) (ah s.2.2))==0)])))))
def aeA:Cn 294 [tO,tO]:=cn λ(r s:BO3)=>lf (ok Rt 100000 r/\ok Rt 100000 s) [.d tR (ao (jY (dec r) (dec s))),.d .bool (tz (dec r) (dec s))] λh=>by
 refine aB AH (Rb r s) ⟨0,?_⟩;obtain⟨hr,hs⟩:=h;obtain⟨r,rfl,br⟩:=aD hr;obtain⟨s,rfl,bs⟩:=aD hs;unfold Rb;simp only[aU,Nat.reduceLeDiff,aq];unfold jY tz;cases decide (r.2.1=0)<;>cases decide (s.2.1=0)<;>rfl
def PB(r:BO3)(a:BR)(_k:KT):OLR:=og (o2 r.1 a) (some [RV.d tO (hAd r.1 a,r.2)])
def LR:Cn 280 [tO,tR]:=cn λ(r:BO3) (a:BR)=>lf (ok Rt 100000 r/\ok Rat 100000 a) [.d tO (enc (arT (dec r) (ah a)))] λh=>by
 refine aB AH (PB r a) ⟨0,?_⟩;obtain⟨hr,ha⟩:=h;obtain⟨r,rfl,br⟩:=aD hr;obtain⟨a,rfl,ba⟩:=aD ha;unfold PB;simp only[aU,Nat.reduceLeDiff];rfl
def OG(_k:KT):OLR:=og (decide (aI (0:Int))) (some [RV.d tR (hid (ao ((0:Int):Rat)))])
def aeo:Cn 86 []:=cn<|lf True [.d tR (ao 0)] λ_=>by
 refine aB AH (OG) ⟨0,?_⟩;unfold OG;rw[dT (show aI 0 by decide)];simp only[bL];rfl
def Qe(p:BP)(v:BV)(_k:KT):OLR:=og (o2 p.1 v.1) (og (o2 p.2.2.1 v.2) (some [RV.d tP (hAd p.1 v.1,(p.2.1,(hAd p.2.2.1 v.2,p.2.2.2)))]))
def Rm:Cn 235 [tP,tV]:=cn λ(p:BP) (v:BV)=>lf (ok Pt 21000 p/\ok (Rat×Rat) 1000 v) [.d tP (enc (trP (dec p) (dec v)))] λh=>by
 refine aB AH (Qe p v) ⟨0,?_⟩;obtain⟨hp,hv⟩:=h;obtain⟨p,rfl,bp⟩:=aD hp;obtain⟨v,rfl,bv⟩:=aD hv;unfold Qe;simp only[aU,Nat.reduceLeDiff];rfl
def Rw(v:BV)(_k:KT):OLR:=og (o1 v.1) (og (o1 v.2) (some [RV.d tV (hNe v.1,hNe v.2)]))
def aeg:Cn 236 [tV]:=cn λ(v:BV)=>lf (ok (Rat×Rat) 21000 v) [.d tV (enc (bkV (dec v)))] λh=>by
 refine aB AH (Rw v) ⟨0,?_⟩;have hv:=h;obtain⟨v,rfl,bv⟩:=aD hv;unfold Rw;simp only[aU,Nat.reduceLeDiff];rfl
def L9:List En:=enL aeA::enL LR::enL aeo::enL Rm::enL aeg::AH
def Tk(r s:BO3)(_k:KT):OLR:=og (decide (ok Rt 100000 r/\ok Rt 100000 s)) (match !(tz (dec r) (dec s))with|true=>some [RV.d tO (((false,[]),(false,[])),(((false,[]),(false,[])),((false,[]),(false,[])))),RV.d aqh 1]|false=>(og (o2 r.1 s.1) (og (o2 r.2.1 s.2.1) (og (o2 (hMu r.2.1 s.2.1) (hid (ao (jY (dec r) (dec s))))) (og (o2 (hMu r.1 s.1) (hMu (hMu r.2.1 s.2.1) (hid (ao (jY (dec r) (dec s)))))) (og (o2 r.1 s.2.1) (og (o2 r.2.1 s.1) (og (o2 (hMu r.1 s.2.1) (hMu r.2.1 s.1)) (og (decide (okR (hAd (hMu r.1 s.1) (hMu (hMu r.2.1 s.2.1) (hid (ao (jY (dec r) (dec s))))))/\okR (hAd (hMu r.1 s.2.1) (hMu r.2.1 s.1))/\okR (hid (ao (jY (dec r) (dec s)))))) (some [RV.d tO (hid (enc (nL (ah (hAd (hMu r.1 s.1) (hMu (hMu r.2.1 s.2.1) (hid (ao (jY (dec r) (dec s))))))) (ah (hAd (hMu r.1 s.2.1) (hMu r.2.1 s.1))) (ah (hid (ao (jY (dec r) (dec s)))))))),RV.d aqh 0]))))))))))
def adt:Cn 295 [tO,tO]:=cn λ(r s:BO3)=>lf (ok Rt 50000 r/\ok Rt 50000 s/\tz (dec r) (dec s)=true) [.d tO (enc (pT (dec r) (dec s))),.d aqh 0] λh=>by
 refine aB L9 (Tk r s) ⟨0,?_⟩;obtain⟨hr,hs,htrue⟩:=h;obtain⟨r,rfl,br⟩:=aD hr;obtain⟨s,rfl,bs⟩:=aD hs;have hm:=htrue;rw[aA,aA]at hm;unfold Tk;simp only[aU,Nat.reduceAdd,Nat.reduceLeDiff,hm,Bool.not_true];rfl
def Ql(r s:BO3)(_k:KT):OLR:=og (decide (ok Rt 100000 r/\ok Rt 100000 s)) (match !(tz (dec r) (dec s))with|true=>some [RV.d tO (((false,[]),(false,[])),(((false,[]),(false,[])),((false,[]),(false,[])))),RV.d aqh 1]|false=>(og (o2 r.1 s.1) (og (o2 r.2.1 s.2.1) (og (decide (okR (hAd r.1 s.1)/\okR (hAd r.2.1 s.2.1)/\okR (hid (ao (jY (dec r) (dec s)))))) (some [RV.d tO (hid (enc (nL (ah (hAd r.1 s.1)) (ah (hAd r.2.1 s.2.1)) (ah (hid (ao (jY (dec r) (dec s)))))))),RV.d aqh 0])))))
def aeD:Cn 237 [tO,tO]:=cn λ(r s:BO3)=>lf (ok Rt 100000 r/\ok Rt 100000 s/\tz (dec r) (dec s)=true) [.d tO (enc (z5 (dec r) (dec s))),.d aqh 0] λh=>by
 refine aB L9 (Ql r s) ⟨0,?_⟩;obtain⟨hr,hs,htrue⟩:=h;obtain⟨r,rfl,br⟩:=aD hr;obtain⟨s,rfl,bs⟩:=aD hs;have hm:=htrue;rw[aA,aA]at hm;unfold Ql;simp only[aU,Nat.reduceAdd,Nat.reduceLeDiff,hm,Bool.not_true];rfl
def EE:List En:=enL adt::enL aeD::L9
def Ov(r:BO3)(_k:KT):OLR:=og (decide (ok Rt 50000 r/\ok Rt 50000 r/\tz (dec r) (dec r)=true)) (some [RV.d tO (hid (enc (pT (dec r) (dec r))))])
def acE:Cn 238 [tO]:=cn λ(r:BO3)=>lf (ok Rt 50000 r) [.d tO (enc (pT (dec r) (dec r)))] λh=>by
 refine aB EE (Ov r) ⟨0,?_⟩;have hr:=h;obtain⟨r,rfl,br⟩:=aD hr;unfold Ov;simp only[aU,Nat.reduceLeDiff,Le]
def QA(v:BV)(_k:KT):OLR:=some [RV.d tP (v.1,(hid (ao 0),(v.2,(hid (ao 0),hid (ao 0)))))]
def CV:Cn 29 [tV]:=cn λ(v:BV)=>lf (ok (Rat×Rat) 100000 v) [.d tP (enc (atP (dec v)))] λh=>by
 refine aB EE (QA v) ⟨0,?_⟩;have hv:=h;obtain⟨v,rfl,bv⟩:=aD hv;unfold QA;simp only[aU];try rfl
def MN(a b c d e:BR)(_k:KT):OLR:=og (o1 b) (match(aE (ah b) 0)==0 with|true=>(og (o1 d) (match(aE (ah d) 0)==0 with|true=>some [RV.d tP (a,(b,(c,(d,hid (ao 0)))))]|false=>some [RV.d tP (a,(b,(c,(d,e))))]))|false=>some [RV.d tP (a,(b,(c,(d,e))))])
def abU:Cn 321 [tR,tR,tR,tR,tR]:=cn λ(a b c d e:BR)=>lf (okR a/\okR b/\okR c/\okR d/\okR e) [.d tP (enc (rdP (ah a,ah b,ah c,ah d,ah e)))] λh=>by
 refine aB EE (MN a b c d e) ⟨0,?_⟩;obtain⟨ha,hb,hc,hd,he⟩:=h;obtain⟨a,rfl,ba⟩:=fD ha;obtain⟨b,rfl,bb⟩:=fD hb;obtain⟨c,rfl,bc⟩:=fD hc;obtain⟨d,rfl,bd⟩:=fD hd;obtain⟨e,rfl,be⟩:=fD he;unfold MN;simp only[aU,Nat.reduceLeDiff,aq];unfold rdP;by_cases h1:b=0
 ·by_cases h2:d=0
  ·rw[amW h1,amW h2];rfl
  ·rw[amW h1,amY h2];rfl
 ·rw[amY h1];rfl
def Qw(a b c:BR)(_k:KT):OLR:=og (o1 b) (match(aE (ah b) 0)==0 with|true=>(og (o1 a) (some [RV.d tO (hid (enc ((ah a,0,0):Rt)))]))|false=>some [RV.d tO (a,(b,c))])
def aca:Cn 88 [tR,tR,tR]:=cn λ(a b c:BR)=>lf (okR a/\okR b/\okR c) [.d tO (enc (coR (ah a) (ah b) (ah c)))] λh=>by
 refine aB EE (Qw a b c) ⟨0,?_⟩;obtain⟨ha,hb,hc⟩:=h;obtain⟨a,rfl,ba⟩:=fD ha;obtain⟨b,rfl,bb⟩:=fD hb;obtain⟨c,rfl,bc⟩:=fD hc;unfold Qw;simp only[aU,aC,Nat.reduceLeDiff,aq];unfold coR;by_cases e:b=0
 ·subst e;rw[amW rfl];rfl
 ·rw[amY e];rfl
def JX:List En:=enL acE::enL CV::enL abU::enL aca::EE
def NS(x y:BO3)(_k:KT):OLR:=let y1:=aE (ah x.2.1) 0;let y2:OLR:=match decide (okR x.2.1)with|true=>(match y1==0 with|true=>(og (decide (okR x.1/\okR x.2.1/\okR y.1/\okR y.2.1/\okR y.2.2)) (some [RV.d tP (hid (enc (rdP (ah x.1,ah x.2.1,ah y.1,ah y.2.1,ah y.2.2)))),RV.d aqh 0]))|false=>(og (decide (okR x.1/\okR x.2.1/\okR y.1/\okR y.2.1/\okR x.2.2)) (some [RV.d tP (hid (enc (rdP (ah x.1,ah x.2.1,ah y.1,ah y.2.1,ah x.2.2)))),RV.d aqh 0])))|false=>none;og (o1 x.2.1) (match y1 !=0 with|true=>(og (o1 y.2.1) (match(aE (ah y.2.1) 0) !=0 with|true=>(og (o2 x.2.2 y.2.2) (match(aE (ah x.2.2) (ah y.2.2)) !=0 with|true=>some [RV.d tP (((false,[]),(false,[])),(((false,[]),(false,[])),(((false,[]),(false,[])),(((false,[]),(false,[])),((false,[]),(false,[])))))),RV.d aqh 1]|false=>y2))|false=>y2))|false=>y2)
def PD:Cn 297 [tO,tO]:=cn λ(x y:BO3)=>lf (okT 15000 x/\okT 15000 y/\uR (dec x) (dec y)) [.d tP (enc (mkP (dec x) (dec y))),.d aqh 0] λh=>by
 refine aB JX (NS x y) ⟨0,?_⟩;obtain⟨hx,hy,hy_2⟩:=h;obtain⟨x,rfl,bx,rx⟩:=fU hx;obtain⟨y,rfl,b_y,ry⟩:=fU hy;have hm:=hy_2;rw[aA,aA]at hm;unfold NS;simp only[aU,Nat.reduceLeDiff,aq,aZ];unfold mkP;by_cases e1:x.2.1=0
 ·rw[amW e1];rfl
 ·rw[amY e1];by_cases e2:y.2.1=0
  ·rw[amW e2];rfl
  ·rw[amY e2,amW ((hm.resolve_left e1).resolve_left e2)];rfl
def Z5(p:BP)(_k:KT):OLR:=og (decide (okR p.1/\okR p.2.1/\okR p.2.2.2.2)) (some [RV.d tO (hid (enc (coR (ah p.1) (ah p.2.1) (ah p.2.2.2.2))))])
def aag:Cn 31 [tP]:=cn λ(p:BP)=>lf (okP 4000 p) [.d tO (enc (xP (dec p)))] λh=>by
 refine aB JX (Z5 p) ⟨0,?_⟩;have hp:=h;obtain⟨p,rfl,bp,rp⟩:=bR hp;unfold Z5;simp only[aU,Nat.reduceLeDiff];try rfl
def aa9(p:BP)(_k:KT):OLR:=og (decide (okR p.2.2.1/\okR p.2.2.2.1/\okR p.2.2.2.2)) (some [RV.d tO (hid (enc (coR (ah p.2.2.1) (ah p.2.2.2.1) (ah p.2.2.2.2))))])
def XS:Cn 94 [tP]:=cn λ(p:BP)=>lf (okP 4000 p) [.d tO (enc (yP (dec p)))] λh=>by
 refine aB JX (aa9 p) ⟨0,?_⟩;have hp:=h;obtain⟨p,rfl,bp,rp⟩:=bR hp;unfold aa9;simp only[aU,Nat.reduceLeDiff];try rfl
def aae:List En:=enL aag::enL XS::JX
def Mz(p q:BP)(_k:KT):OLR:=og (decide (okP 4000 p)) (og (decide (okP 4000 q)) (og (decide (okT 15000 (hid (enc (xP (dec p))))/\okT 15000 (hid (enc (xP (dec q)))))) (match(bh (dec (hid (enc (xP (dec p))))) (dec (hid (enc (xP (dec q)))))) !=0 with|true=>some [RV.d aqh (bh (dec (hid (enc (xP (dec p))))) (dec (hid (enc (xP (dec q))))))]|false=>(og (decide (okP 4000 p)) (og (decide (okP 4000 q)) (og (decide (okT 15000 (hid (enc (yP (dec p))))/\okT 15000 (hid (enc (yP (dec q)))))) (some [RV.d aqh (bh (dec (hid (enc (yP (dec p))))) (dec (hid (enc (yP (dec q))))))])))))))
def yW:Cn 35 [tP,tP]:=cn λ(p q:BP)=>lf (okP 4000 p/\okP 4000 q) [.d aqh (a8 (dec p) (dec q))] λh=>by
 refine aB aae (Mz p q) ⟨0,?_⟩;obtain⟨hp,hq⟩:=h;obtain⟨p,rfl,bp,rp⟩:=bR hp;obtain⟨q,rfl,bq,rq⟩:=bR hq;unfold Mz;simp only[aU,Nat.reduceLeDiff,aK,aL];unfold a8 bne;cases bh (xP p) (xP q)==0<;>rfl
def ZB:List En:=enL PD::enT yW::aae
def O6(p q:BP)(_k:KT):OLR:=og (decide (okP 4000 p/\okP 4000 q)) (some [RV.d .bool ((a8 (dec p) (dec q))==0)])
def ON:Cn 12 [tP,tP]:=cn λ(p q:BP)=>lf (okP 4000 p/\okP 4000 q) [.d .bool (a8 (dec p) (dec q)==0)] λh=>by
 refine aB ZB (O6 p q) ⟨0,?_⟩;unfold O6;rw[dT h]
def Q8(p:BP)(v:BV)(_k:KT):OLR:=let y1:=hid (enc (bkV (dec v)));let y2:=hid (enc (trP (dec p) (dec y1)));let y3:=hid (enc (xP (dec y2)));let y4:=hid (enc (yP (dec y2)));let y5:=hid (enc (pT (dec y3) (dec y3)));let y6:=hid (enc (pT (dec y4) (dec y4)));og (decide (ok (Rat×Rat) 21000 v)) (og (decide (ok Pt 21000 p/\ok (Rat×Rat) 1000 y1)) (og (decide (okP 4000 y2)) (og (decide (ok Rt 50000 y3)) (og (decide (okP 4000 y2)) (og (decide (ok Rt 50000 y4)) (og (decide (ok Rt 100000 y5/\ok Rt 100000 y6/\tz (dec y5) (dec y6)=true)) (some [RV.d tO (hid (enc (z5 (dec y5) (dec y6))))])))))))
def S9:Cn 142 [tP,tV]:=cn λ(p:BP) (v:BV)=>lf (okP 3500 p/\ok (Rat×Rat) 300 v) [.d tO (enc (sqP (dec p) (dec v)))] λh=>by
 refine aB ZB (Q8 p v) ⟨0,?_⟩;obtain⟨hp,hv⟩:=h;obtain⟨p,rfl,bp,rp⟩:=bR hp;obtain⟨v,rfl,bv⟩:=aD hv;obtain⟨e1,e2⟩:=JG (v:=v) rp;unfold Q8;simp only[aU,Nat.reduceAdd,Nat.reduceMul,Nat.reduceLeDiff,aL,e1];rw[e2]
end Go.Proofs.YtagbmoohboleaaaGreat
end
