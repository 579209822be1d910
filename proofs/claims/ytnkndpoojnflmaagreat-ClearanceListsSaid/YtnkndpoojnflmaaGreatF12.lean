/- Intervals: the contracts of products, roots and sides. -/
import Derived.Test.YtnkndpoojnflmaaGreatF11
import Derived.Test.YtnkndpoojnflmaaGreatF1
import Derived.Lib.LazyBuf
import Derived.Test.YtnkndpoojnflmaaGreatF6
import Derived.Test.YtnkndpoojnflmaaGreatF10
noncomputable section
namespace Go.Proofs.YtnkndpoojnflmaaGreat
open Go.RowKit Go.IntKind
theorem apk:type_of% @Rat.mul_eq_zero:=@Rat.mul_eq_zero
theorem OS{z:Int}(h:aH z):okI (ai z):=aV (by have:=ki h;omega)
theorem Ik{n:Int}(h:C8 n):0≤eL n∧eL n≤2305843009213693952:=by
 obtain⟨h0,h1⟩:=h;unfold eL;obtain⟨g0,g1,g2⟩:=gh (z:=n*65536) (by omega);refine⟨g0,?_⟩;rcases anC 2305843009213693952 (bL (n*65536))with h|h
 ·have:2305843009213693952*2305843009213693952≤bL (n*65536)*bL (n*65536):=apf (by omega) (by omega) (by omega) (by omega);omega
 ·exact h
theorem OX{a b:Iv}(ha:prI a)(hb:prI b){x y:Int}(hx:x=a.1∨x=a.2)(hy:y=b.1∨y=b.2):scP x y:=by
 obtain⟨a1,a2,a3⟩:=ha;obtain⟨b1,b2,b3⟩:=hb;constructor
 ·rcases hx with rfl|rfl<;>omega
 ·rcases hy with rfl|rfl<;>omega
theorem akD{α:Type}(b:Bool)(x y:α):(match b with|true=>x|false=>y)=bif b then x else y:=by cases b<;>rfl
def Ny:eo:=spN false true [aqt] (fun x=>decide (aH x.1)) (fun x=>[RV.d tI (hid (ai x.1))])
theorem RD:SpK 210 Ny:=spX fun x h=>by simp only[bJ];exact JS x.1 (am8 h)
def I1:List En:=[⟨99,iy,fi⟩,⟨108,gV,eU⟩,⟨109,kH,gH⟩,enL Q8,enT aaD,⟨216,GU,DH⟩,⟨41,fM,dW⟩,⟨173,E8,CO⟩,enL Xe,⟨172,Fz,EW⟩,⟨210,Ny,RD⟩,enL MJ,enL Pf,enL M8,enL Nj,enA RB,enA Sg,enL aaB]
def aeK:NT:=[((334,8),{keep:=[3,4,6,7,19,20,21],hl:=4}),((334,22),{keep:=[3,4,6,7,9,19,20,21,29,30,31],hl:=5})]
def qa:Ctx:=CX (ens I1) aeK
def rG(a b:(Int×Int))(s21 s6 s7:Int):Cfg:=⟨334,[.blk 0,.seq 46],[(3,.box 1 0),(4,.box 2 0),(6,SI s6),(7,SI s7),(19,.own 3),(20,SI (([a.1,a.2]).length:Int)),(21,SI s21)],[.box 259 [SI a.1,SI a.2],.box 259 [SI b.1,SI b.2],.box 259 [SI 0,SI 0],.row 2 aqt ([a.1,a.2])],0,[]⟩
def qj(a b:(Int×Int))(s21 x1 s6 s7 s31:Int):Cfg:=⟨334,[.blk 2,.blk 1,.seq 45,.lp 8,.blk 0,.seq 46],[(3,.box 1 0),(4,.box 2 0),(6,SI s6),(7,SI s7),(9,SI x1),(19,.own 3),(20,SI (([a.1,a.2]).length:Int)),(21,SI s21),(29,.own 4),(30,SI (([b.1,b.2]).length:Int)),(31,SI s31)],[.box 259 [SI a.1,SI a.2],.box 259 [SI b.1,SI b.2],.box 259 [SI 0,SI 0],.row 2 aqt ([a.1,a.2]),.row 2 aqt ([b.1,b.2])],0,[]⟩
def afw(a b:(Int×Int))(k:KT):OLR:=k 8 (rG a b 0 2305843009213693952 (-2305843009213693952))
theorem afV(a b:(Int×Int)):RS qa 334 [.d tG a,.d tG b] (afw a b):=rsX
def xx(a b:(Int×Int))(s21 s6 s7:Int)(k:KT):OLR:=match decide (s21<(([a.1,a.2]).length:Int))with|true=>(match aU ([a.1,a.2]) s21 with|some _=>(match true,([a.1,a.2])[(s21).toNat]? with|true,some x1=>k 22 (qj a b s21 x1 s6 s7 0)|_,_=>none)|none=>none)|false=>some [RV.d tG (s6,s7),RV.d .bool true]
theorem Dt(a b:(Int×Int))(s21 s6 s7:Int):RN qa 8 (rG a b s21 s6 s7) (xx a b s21 s6 s7):=rnX
def qk(a b:(Int×Int))(s21 x1 s6 s7 s31:Int)(k:KT):OLR:=match decide (s31<(([b.1,b.2]).length:Int))with|true=>(match aU ([b.1,b.2]) s31 with|some _=>(match true,([b.1,b.2])[(s31).toNat]? with|true,some x2=>(og (decide (scP x1 x2)) (match !((scF x1 x2).2)with|true=>some [RV.d tG (0,0),RV.d .bool false]|false=>k 22 (qj a b s21 x1 (if(scF x1 x2).1.1<s6 then(scF x1 x2).1.1 else s6) (if(scF x1 x2).1.2>s7 then(scF x1 x2).1.2 else s7) (i64.wrap (s31+1)))))|_,_=>none)|none=>none)|false=>k 8 (rG a b (i64.wrap (s21+1)) s6 s7)
theorem uQ(a b:(Int×Int))(s21 x1 s6 s7 s31:Int):RN qa 22 (qj a b s21 x1 s6 s7 s31) (qk a b s21 x1 s6 s7 s31):=rnX
theorem Nk(a b:Iv)(ha:prI a)(hb:prI b)(s21 x:Int)(hx:x=a.1∨x=a.2)(s:Iv)(r:List RV)(h:∀s2:Iv×Bool,s2=iG (iG (s,true) x b.1) x b.2→bif s2.2 then qa.Runs 8 (rG a b (i64.wrap (s21+1)) s2.1.1 s2.1.2) r else r=[RV.d tG (0,0),RV.d .bool false]):
  qa.Runs 22 (qj a b s21 x s.1 s.2 0) r:=by
 have h:=h _ rfl;refine uQ _ _ _ _ _ _ _ ?_;unfold qk;have g1:decide ((0:Int)<(([b.1,b.2]).length:Int))=true:=by simp
 have g2:decide ((1:Int)<(([b.1,b.2]).length:Int))=true:=by simp
 have g3:decide ((2:Int)<(([b.1,b.2]).length:Int))=false:=by simp
 rw[g1];simp only[show aU [b.1,b.2] 0=some b.1 from rfl,show [b.1,b.2][(0:Int).toNat]?=some b.1 from rfl,dT (OX ha hb hx (.inl rfl))];cases e1:(scF x b.1).2
 ·rw[show iG (iG (s,true) x b.1) x b.2=(iv0,false) by unfold iG;rw[e1];rfl]at h;exact⟨0,by rw[h];rfl⟩
 ·try dsimp only[Bool.not_true]
  have e0:iG (s,true) x b.1=((if(scF x b.1).1.1<s.1 then(scF x b.1).1.1 else s.1,if(scF x b.1).1.2>s.2 then(scF x b.1).1.2 else s.2),true):=by unfold iG;rw[e1];rfl
  rw[e0]at h
  suffices hh:qa.Runs 22 (qj a b s21 x (if(scF x b.1).1.1<s.1 then(scF x b.1).1.1 else s.1) (if(scF x b.1).1.2>s.2 then(scF x b.1).1.2 else s.2) (i64.wrap (0+1))) r by
   obtain⟨n,hn⟩:=hh;exact⟨n,hn⟩
  rw[show i64.wrap (0+1)=1 by decide];refine uQ _ _ _ _ _ _ _ ?_;unfold qk;rw[g2];simp only[show aU [b.1,b.2] 1=some b.2 from rfl,show [b.1,b.2][(1:Int).toNat]?=some b.2 from rfl,dT (OX ha hb hx (.inr rfl))];cases e2:(scF x b.2).2
  ·unfold iG at h;rw[e2]at h;exact⟨0,by rw[show r=[RV.d tG (0,0),RV.d .bool false] from h];rfl⟩
  ·try dsimp only[Bool.not_true]
   unfold iG at h;rw[e2]at h;simp only[aoB,cond_true]at h
   suffices hh:qa.Runs 22 (qj a b s21 x _ _ (i64.wrap (1+1))) r by
    obtain⟨n,hn⟩:=hh;exact⟨n,hn⟩
   rw[show i64.wrap (1+1)=2 by decide];refine uQ _ _ _ _ _ _ _ ?_;unfold qk;rw[g3];obtain⟨n,hn⟩:=h;exact⟨n,hn⟩
theorem JC(a b:Iv)(ha:prI a)(hb:prI b)(x i:Int)(hi:(i=0∧x=a.1)∨(i=1∧x=a.2))(s:Iv)(r:List RV)(h:∀s2:Iv×Bool,s2=iG (iG (s,true) x b.1) x b.2→bif s2.2 then qa.Runs 8 (rG a b (i+1) s2.1.1 s2.1.2) r else r=[RV.d tG (0,0),RV.d .bool false]):
  qa.Runs 8 (rG a b i s.1 s.2) r:=by
 refine Dt _ _ _ _ _ ?_;unfold xx;rcases hi with⟨rfl,rfl⟩|⟨rfl,rfl⟩
 ·obtain⟨n,hn⟩:=Nk a b ha hb 0 a.1 (.inl rfl) s r (by rw[show i64.wrap (0+1)=0+1 by decide];exact h);exact⟨n,hn⟩
 ·obtain⟨n,hn⟩:=Nk a b ha hb 1 a.2 (.inr rfl) s r (by rw[show i64.wrap (1+1)=1+1 by decide];exact h);exact⟨n,hn⟩
theorem MX{s:Iv×Bool}{x y:Int}(h:s.2=false):iG s x y=(iv0,false):=by unfold iG;rw[h];rfl
theorem ajK{s:Iv×Bool}(h:s.2=true):s=(s.1,true):=by rw[←h]
def NY:Cn 334 [tG,tG]:=cn fun(a b:(Int×Int))=>lf (prI a∧prI b) [.d tG ((cM a b).1),.d .bool ((cM a b).2)] fun h=>by
 obtain⟨ha,hb⟩:=h;refine cY I1 (show qa.Res _ _ _ from ?_);refine afV _ _ ?_
 suffices hh:qa.Runs 8 (rG a b 0 2305843009213693952 (-2305843009213693952)) [.d tG (cM a b).1,.d .bool (cM a b).2] by
  obtain⟨n,hn⟩:=hh;exact⟨n,hn⟩
 refine JC a b ha hb a.1 0 (.inl ⟨rfl,rfl⟩) (2305843009213693952,-2305843009213693952) _ fun s1 e1=>?_;have hm:cM a b=iG (iG s1 a.2 b.1) a.2 b.2:=by rw[e1];rfl
 cases c1:s1.2
 ·rw[hm,MX (MX c1▸rfl)];rfl
 ·rw[cond_true];refine JC a b ha hb a.2 1 (.inr ⟨rfl,rfl⟩) s1.1 _ fun s2 e2=>?_;rw[←ajK c1,←hm]at e2;cases c2:s2.2
  ·rw[←e2]
   rw[show s2=(iv0,false) by
    rw[e2,hm];rw[e2,hm]at c2;unfold iG at c2 ⊢;revert c2;cases(_:Bool)&&(scF a.2 b.2).2
    ·intro _;rfl
    ·intro h;cases h]
   rfl
  ·rw[cond_true,←e2];refine Dt _ _ _ _ _ ⟨0,?_⟩;unfold xx;rw[show decide ((1+1:Int)<(([a.1,a.2]).length:Int))=false from by simp,c2]
def YB(n:Int)(_k:KT):OLR:=og (decide (aH n)) (og (decide (aH (65536:Int))) (og (decide (okI (hid (ai n))∧okI (hid (ai (65536:Int))))) (og (decide (okI (hid (ai (ag (hid (ai n))*ag (hid (ai (65536:Int)))))))) (og (decide (okI (hid (fN (hid (ai (ag (hid (ai n))*ag (hid (ai (65536:Int)))))))))) (og (decide (okI (hid (fN (hid (ai (ag (hid (ai n))*ag (hid (ai (65536:Int))))))))∧okI (hid (fN (hid (ai (ag (hid (ai n))*ag (hid (ai (65536:Int)))))))))) (og (decide (okI (hid (ai (ag (hid (fN (hid (ai (ag (hid (ai n))*ag (hid (ai (65536:Int))))))))*ag (hid (fN (hid (ai (ag (hid (ai n))*ag (hid (ai (65536:Int)))))))))))∧okI (hid (ai (ag (hid (ai n))*ag (hid (ai (65536:Int)))))))) (some [RV.d aqt (bif decide (aH (ag (hid (fN (hid (ai (ag (hid (ai n))*ag (hid (ai (65536:Int))))))))))then ag (hid (fN (hid (ai (ag (hid (ai n))*ag (hid (ai (65536:Int))))))))else 0),RV.d .bool ((cC (ag (hid (ai (ag (hid (fN (hid (ai (ag (hid (ai n))*ag (hid (ai (65536:Int))))))))*ag (hid (fN (hid (ai (ag (hid (ai n))*ag (hid (ai (65536:Int)))))))))))) (ag (hid (ai (ag (hid (ai n))*ag (hid (ai (65536:Int))))))))==0)])))))))
def agL:Cn 352 [aqt]:=cn fun(n:Int)=>lf (C8 n) [.d aqt (eL n),.d .bool (decide (eL n*eL n=n*65536))] fun h=>by
 refine aA I1 (YB n) ⟨0,?_⟩;have hr:=Ik h;obtain⟨h0,h1⟩:=h;have i1:aH n:=⟨by omega,by omega⟩
 have i2:aH 65536:=by decide
 have o1:okI (ai (n*65536)):=aV (by have:=cW (ki i1) (ki i2);omega);have o2:okI (ai (eL n)):=OS ⟨by omega,by omega⟩;have o3:okI (ai (eL n*eL n)):=aV (by have:=cW (ki (n:=eL n) ⟨by omega,by omega⟩) (ki (n:=eL n) ⟨by omega,by omega⟩);omega);have o4:okI (ai n)∧okI (ai 65536):=⟨OS i1,OS i2⟩
 have o5:okI (ai (eL n))∧okI (ai (eL n)):=⟨o2,o2⟩
 have o6:okI (ai (eL n*eL n))∧okI (ai (n*65536)):=⟨o3,o1⟩
 have o7:aH (eL n):=⟨by omega,by omega⟩
 unfold YB;simp only[bJ,dec_enc,dT i1,dT i2,dT o4,dT o1,Be o1];have e:bL (n*65536)=eL n:=rfl;simp only[e,dT o2,dT o5,dT o6,dT o7,cond_true,mW]
def XA:List En:=enL NY::enL agL::I1
def ZH(a:(Int×Int))(_k:KT):OLR:=match decide (a.2<0)with|true=>some [RV.d tG (0,0),RV.d .bool false]|false=>(og (decide (C8 (if 0>a.1 then 0 else a.1))) (og (decide (C8 a.2)) (match !(decide (eL a.2*eL a.2=a.2*65536))with|true=>some [RV.d tG (hid ((oJ (eL (if 0>a.1 then 0 else a.1)) (i64.wrap ((eL a.2)+1))).1)),RV.d .bool ((oJ (eL (if 0>a.1 then 0 else a.1)) (i64.wrap ((eL a.2)+1))).2)]|false=>some [RV.d tG (hid ((oJ (eL (if 0>a.1 then 0 else a.1)) (eL a.2)).1)),RV.d .bool ((oJ (eL (if 0>a.1 then 0 else a.1)) (eL a.2)).2)])))
def ZE:Cn 332 [tG]:=cn fun(a:(Int×Int))=>lf (prI a) [.d tG ((sqF a).1),.d .bool ((sqF a).2)] fun h=>by
 refine aA XA (ZH a) ⟨0,?_⟩;obtain⟨a1,a2,a3⟩:=h;unfold ZH sqF;cases hn:decide (a.2<0)
 ·have hn:=anZ hn;have r2:C8 a.2:=⟨by omega,by omega⟩
  have r1:C8 (if 0>a.1 then 0 else a.1):=⟨by split<;>omega,by split<;>omega⟩
  have b2:=Ik r2;simp only[dT r1,dT r2,bJ,aT (x:=eL a.2+1) (by omega) (by omega)];cases decide (eL a.2*eL a.2=a.2*65536)<;>rfl
 ·rfl
def Md:List En:=enL ZE::XA
def XN(r:BO3)(_k:KT):OLR:=og (decide (ok Rat 200000 r.1)) (match !((frF (ae r.1)).2)with|true=>some [RV.d tG (hid ((frF (ae r.1)).1)),RV.d .bool ((frF (ae r.1)).2)]|false=>(og (o1 r.2.1) (match(aD (ae r.2.1) 0)==0 with|true=>some [RV.d tG (hid ((frF (ae r.1)).1)),RV.d .bool ((frF (ae r.1)).2)]|false=>(og (decide (ok Rat 200000 r.2.1)) (og (decide (ok Rat 200000 r.2.2)) (match !((frF (ae r.2.1)).2)with|true=>some [RV.d tG (0,0),RV.d .bool false]|false=>(match !((frF (ae r.2.2)).2)with|true=>some [RV.d tG (0,0),RV.d .bool false]|false=>(og (o1 r.2.2) (match decide ((aD (ae r.2.2) 0)<0)with|true=>some [RV.d tG (0,0),RV.d .bool false]|false=>(og (decide (prI (hid ((frF (ae r.2.2)).1)))) (match !((sqF (hid ((frF (ae r.2.2)).1))).2)with|true=>some [RV.d tG (0,0),RV.d .bool false]|false=>(og (decide (prI (hid ((frF (ae r.2.1)).1))∧prI (hid ((sqF (hid ((frF (ae r.2.2)).1))).1)))) (match !((cM (hid ((frF (ae r.2.1)).1)) (hid ((sqF (hid ((frF (ae r.2.2)).1))).1))).2)with|true=>some [RV.d tG (0,0),RV.d .bool false]|false=>(og (decide (prI (hid ((frF (ae r.1)).1))∧prI (hid ((cM (hid ((frF (ae r.2.1)).1)) (hid ((sqF (hid ((frF (ae r.2.2)).1))).1))).1)))) (some [RV.d tG (hid ((dO (hid ((frF (ae r.1)).1)) (hid ((cM (hid ((frF (ae r.2.1)).1)) (hid ((sqF (hid ((frF (ae r.2.2)).1))).1))).1))).1)),RV.d .bool ((dO (hid ((frF (ae r.1)).1)) (hid ((cM (hid ((frF (ae r.2.1)).1)) (hid ((sqF (hid ((frF (ae r.2.2)).1))).1))).1))).2)])))))))))))))))
def IH:Cn 337 [tO]:=cn fun(r:BO3)=>lf (ok Rt 100000 r) [.d tG ((bI (dec r)).1),.d .bool ((bI (dec r)).2)] fun h=>by
 refine aA Md (XN r) ⟨0,?_⟩;have hr:=h;obtain⟨r,rfl,br⟩:=aB hr;have p1:prI (frF r.1).1:=RE.frF_pr _;have p2:prI (frF r.2.1).1:=RE.frF_pr _;have p3:prI (frF r.2.2).1:=RE.frF_pr _;have p4:prI (sqF (frF r.2.2).1).1:=RE.sqF_pr p3;have p5:prI (cM (frF r.2.1).1 (sqF (frF r.2.2).1).1).1:=uk _ _;unfold XN;simp only[aO,Nat.reduceLeDiff,ao,aq,dT p3,dT (show prI (frF r.2.1).1∧prI (sqF (frF r.2.2).1).1 from⟨p2,p4⟩),dT (show prI (frF r.1).1∧prI (cM (frF r.2.1).1 (sqF (frF r.2.2).1).1).1 from⟨p1,p5⟩)];unfold bI;clear p1 p2 p3 p4 p5;generalize frF r.1=A;generalize frF r.2.1=B;generalize frF r.2.2=C;generalize sqF C.1=S;generalize cM B.1 S.1=M;generalize dO A.1 M.1=U;obtain⟨_,a⟩:=A;obtain⟨_,b⟩:=B;obtain⟨_,c⟩:=C;obtain⟨_,s⟩:=S;obtain⟨_,m⟩:=M;cases a<;>cases decide (r.2.1=0)<;>cases b<;>cases c<;>cases decide (r.2.2<0)<;>cases s<;>cases m<;>rfl
def Y7(a:(Int×Int))(_k:KT):OLR:=match decide (a.1>0)with|true=>some [RV.d aqt 1,RV.d .bool true]|false=>(match decide (a.2<0)with|true=>some [RV.d aqt (-1),RV.d .bool true]|false=>(match a.1==0 with|true=>some [RV.d aqt 0,RV.d .bool (a.2==0)]|false=>some [RV.d aqt 0,RV.d .bool false]))
def Pv:Cn 336 [tG]:=cn fun(a:(Int×Int))=>lf True [.d aqt ((sgF a).1),.d .bool ((sgF a).2)] fun _=>by
 refine aA Md (Y7 a) ⟨0,?_⟩;unfold Y7 sgF;cases decide (a.1>0)<;>cases decide (a.2<0)<;>try rfl
 by_cases e1:a.1=0
 ·rw[am5 e1,show(a.1==0)=true by simp[e1]];by_cases e2:a.2=0
  ·rw[am5 e2,show(a.2==0)=true by simp[e2]];rfl
  ·rw[am7 e2,show(a.2==0)=false by simp[e2]];rfl
 ·rw[am7 e1,show(a.1==0)=false by simp[e1]];rfl
def ajx:List En:=enL IH::enL Pv::Md
def Xl(n:BR)(a:(Int×Int))(g:Bool)(_k:KT):OLR:=og (decide (ok Rat 200000 n)) (match !g with|true=>some [RV.d tG (0,0),RV.d .bool false]|false=>(match !((frF (ae n)).2)with|true=>some [RV.d tG (0,0),RV.d .bool false]|false=>(og (decide (prI (hid ((frF (ae n)).1))∧prI a)) (some [RV.d tG (hid ((cM (hid ((frF (ae n)).1)) a).1)),RV.d .bool ((cM (hid ((frF (ae n)).1)) a).2)]))))
def aau:Cn 363 [tR,tG,.bool]:=cn fun(n:BR) (a:(Int×Int)) (g:Bool)=>lf (ok Rat 100000 n∧prI a) [.d tG ((jW (ae n) a g).1),.d .bool ((jW (ae n) a g).2)] fun h=>by
 refine aA ajx (Xl n a g) ⟨0,?_⟩;obtain⟨hn,ha⟩:=h;obtain⟨n,rfl,bn⟩:=aB hn;unfold Xl;simp only[aO,Nat.reduceLeDiff,dT (show prI (frF n).1∧prI a from⟨RE.frF_pr _,ha⟩)];unfold jW;generalize frF n=A;obtain⟨_,q⟩:=A;cases g<;>cases q<;>rfl
section
section
variable {u:Nat} {w w':World} {size n:Nat} {v:Value} {xs:List Value}
end
section
variable {P:Program} {fn:Func} {R:Ending→World→Prop} {B:Code} {K:List KI} {i:Nat} {a:Act} {w:World}
end
end
section
section
variable {P:Program} {a:Act} {w:World}
end
end
theorem yr{w w1 w2:World}{o:Option Nat}(h:w.grownBy w1 o)(hb:Below w1.heap.size w1 w2):w.grownBy w2 o:=
 ⟨hb.os.trans h.os,hb.tape.trans h.tape,hb.output.trans h.output,ank h.size hb.size,fun i hi hn=>(hb.block i (aoS hi h.size)).trans (h.block i hi hn)⟩
theorem sJ{w w1 w2:World}{c b:Nat}(h:w.grownBy w1 (some c))(hu:Upd w1 w2 b)(hb:b=c∨w.heap.size≤b):w.grownBy w2 (some c):=
 ⟨hu.os.trans h.os,hu.tape.trans h.tape,hu.output.trans h.output,by rw[hu.size];exact h.size,fun i hi hn=>(hu.block i (fun e=>by
  subst e;rcases hb with hb|hb
  ·subst hb;exact hn rfl
  ·omega)).trans (h.block i hi hn)⟩
def Ue:Code:=Tryz.f331.body.getD .skip
set_option maxRecDepth 100000 in
theorem KO:ahC Tryz.prog 331 257:=by
 intro w c b ok x y _ hc;have hB:w.grownBy w (some c):=World.grownBy.refl _ _;have hlt:=hc.lt;refine enter (B:=Ue) (args:=[.pointer (some ⟨c,0,none⟩),.agg #[.int .i64 x,.int .i64 y],.bool ok]) Tryz.func331 (by kernel_rfl) (by kernel_rfl) ?_;rw[show Tryz.f331.ntmps=18 from by kernel_rfl];intro a hs;replace hs:=hs.pick (ts:=[0,1,2]) (L':=[(0,.pointer (some ⟨c,0,none⟩)),(1,.agg #[.int .i64 x,.int .i64 y]),(2,.bool ok)]) (by kernel_rfl)
 refine yx (j:=2) (by kernel_rfl) ?_;refine mS (id:=0) (by kernel_rfl) ?_;refine vf hs (by kernel_rfl) (aj9 (t:=259) (cs:= #[.int .i64 x,.int .i64 y]) (fun rb_=>.pointer (some ⟨rb_,0,none⟩)) [0,2,4] (fun rb_=>[(0,.pointer (some ⟨c,0,none⟩)),(2,.bool ok),(4,.pointer (some ⟨rb_,0,none⟩))]) hs (fun _=>by kernel_rfl) (fun _=>by kernel_rfl) ?_);clear hs a;intro a w1 b1 hn hs;have B1:=hn.blk;have l1:w.heap.size≤b1:=by rw[hn.at_];exact hB.size
 replace hc:=hc.below hn.below hc.lt
 replace hB:=yr hB hn.below
 clear hn;refine vf hs (by kernel_rfl) (aj9 (t:=259) (cs:= #[.int .i64 0,.int .i64 0]) (fun rb_=>.pointer (some ⟨rb_,0,none⟩)) [0,2,4,6] (fun rb_=>[(0,.pointer (some ⟨c,0,none⟩)),(2,.bool ok),(4,.pointer (some ⟨b1,0,none⟩)),(6,.pointer (some ⟨rb_,0,none⟩))]) hs (fun _=>by kernel_rfl) (fun _=>by kernel_rfl) ?_);clear hs a;intro a w2 b2 hn hs;have B2:=hn.blk;have l2:w.heap.size≤b2:=by rw[hn.at_];exact hB.size
 have l2':b1<b2:=by rw[hn.at_];exact B1.lt
 replace hc:=hc.below hn.below hc.lt
 replace B1:=B1.below hn.below B1.lt
 replace hB:=yr hB hn.below
 clear hn;refine qB (by kernel_rfl) ?_;refine mV rfl ?_;refine yx (j:=4) (by kernel_rfl) ?_;refine mS (id:=1) (by kernel_rfl) ?_;refine sP (m:=6) (H:=[(4,none,[.bool b])]) (ts:=[2,4,6,7,12]) (L':=[(2,.bool ok),(4,.pointer (some ⟨b1,0,none⟩)),(6,.pointer (some ⟨b2,0,none⟩)),(7,.pointer (some ⟨c,0,none⟩)),(12,.bool b)]) (O:=fun w=>(w.cell? ⟨c,0,none⟩=some (.bool b))∧True) hs (by kernel_rfl) ⟨hc.cell 0 rfl,trivial⟩ ?_;clear hs a;intro a hs;rcases Bool.eq_false_or_eq_true (b)with hb|hb
 ·replace hs:=hs.know (t:=12) rfl hb
  have cd1:=hb;have cd1b:=hb;clear hb;replace hs:=hs.pick (ts:=[2,4,6,7,12]) (L':=[(2,.bool ok),(4,.pointer (some ⟨b1,0,none⟩)),(6,.pointer (some ⟨b2,0,none⟩)),(7,.pointer (some ⟨c,0,none⟩)),(12,.bool true)]) (by kernel_rfl)
  refine sP (m:=4) (H:=[]) (ts:=[4,6,14,16]) (L':=[(4,.pointer (some ⟨b1,0,none⟩)),(6,.pointer (some ⟨b2,0,none⟩)),(14,.bool ok),(16,.pointer (some ⟨c,0,none⟩))]) (O:=fun w=>True) hs (by kernel_rfl) trivial ?_;clear hs a;intro a hs;refine vf hs (by kernel_rfl) (Cc (b:=c) (cs:= #[.bool b]) #[.bool ok] [(0,.bool ok)] [4,6] [(4,.pointer (some ⟨b1,0,none⟩)),(6,.pointer (some ⟨b2,0,none⟩))] hs hc (by kernel_rfl) ⟨anc rfl,trivial,trivial⟩ rfl (by kernel_rfl) ?_);clear hs a;intro a w3 hc' hu hs;replace hc:=hc';clear hc'
  replace B1:=hu.blk B1 (by omega)
  replace B2:=hu.blk B2 (by omega)
  replace hB:=sJ hB hu (by omega)
  clear hu;refine qB (by kernel_rfl) ?_;refine mV rfl ?_;refine yx (j:=6) (by kernel_rfl) ?_;refine mS (id:=2) (by kernel_rfl) ?_;refine sP (m:=1) (H:=[(0,none,[.int .i64 x,.int .i64 y])]) (ts:=[6,17]) (L':=[(6,.pointer (some ⟨b2,0,none⟩)),(17,.agg #[.int .i64 x,.int .i64 y])]) (O:=fun w=>(w.cell? ⟨b1,0,none⟩=some (.int .i64 x))∧(w.cell? ⟨b1,1,none⟩=some (.int .i64 y))∧True) hs (by kernel_rfl) ⟨B1.cell 0 rfl,B1.cell 1 rfl,trivial⟩ ?_;clear hs a;intro a hs;refine vf hs (by kernel_rfl) (Cc (b:=b2) (cs:= #[.int .i64 0,.int .i64 0]) #[.int .i64 x,.int .i64 y] [(0,.int .i64 x),(1,.int .i64 y)] [6] [(6,.pointer (some ⟨b2,0,none⟩))] hs B2 (by kernel_rfl) ⟨anc rfl,trivial,⟨anc rfl,trivial,trivial⟩⟩ rfl (by kernel_rfl) ?_);clear hs a;intro a w4 B2' hu hs;replace B2:=B2';clear B2'
  replace hc:=hu.blk hc (by omega)
  replace B1:=hu.blk B1 (by omega)
  replace hB:=sJ hB hu (by omega)
  clear hu;refine qB (by kernel_rfl) ?_;refine mV rfl ?_;refine Fp (by kernel_rfl) ?_;refine Qo (vs:=[.agg #[.int .i64 x,.int .i64 y]]) (H:=[.int .i64 x,.int .i64 y]) (v:=.agg #[.int .i64 x,.int .i64 y]) (O:=fun w=>(w.cell? ⟨b2,0,none⟩=some (.int .i64 x))∧(w.cell? ⟨b2,1,none⟩=some (.int .i64 y))∧True) hs (by kernel_rfl) rfl ⟨B2.cell 0 rfl,B2.cell 1 rfl,trivial⟩ ?_;exact⟨rfl,by rw[cd1];exact hc,hB⟩
 ·replace hs:=hs.know (t:=12) rfl hb
  have cd1:=hb;have cd1b:=hb;clear hb;replace hs:=hs.pick (ts:=[2,4,6,7,12]) (L':=[(2,.bool ok),(4,.pointer (some ⟨b1,0,none⟩)),(6,.pointer (some ⟨b2,0,none⟩)),(7,.pointer (some ⟨c,0,none⟩)),(12,.bool false)]) (by kernel_rfl)
  refine sP (m:=4) (H:=[]) (ts:=[4,6,14,16]) (L':=[(4,.pointer (some ⟨b1,0,none⟩)),(6,.pointer (some ⟨b2,0,none⟩)),(14,.bool false),(16,.pointer (some ⟨c,0,none⟩))]) (O:=fun w=>True) hs (by kernel_rfl) trivial ?_;clear hs a;intro a hs;refine vf hs (by kernel_rfl) (Cc (b:=c) (cs:= #[.bool b]) #[.bool false] [(0,.bool false)] [4,6] [(4,.pointer (some ⟨b1,0,none⟩)),(6,.pointer (some ⟨b2,0,none⟩))] hs hc (by kernel_rfl) ⟨anc rfl,trivial,trivial⟩ rfl (by kernel_rfl) ?_);clear hs a;intro a w5 hc' hu hs;replace hc:=hc';clear hc'
  replace B1:=hu.blk B1 (by omega)
  replace B2:=hu.blk B2 (by omega)
  replace hB:=sJ hB hu (by omega)
  clear hu;refine qB (by kernel_rfl) ?_;refine mV rfl ?_;refine yx (j:=6) (by kernel_rfl) ?_;refine mS (id:=2) (by kernel_rfl) ?_;refine sP (m:=1) (H:=[(0,none,[.int .i64 x,.int .i64 y])]) (ts:=[6,17]) (L':=[(6,.pointer (some ⟨b2,0,none⟩)),(17,.agg #[.int .i64 x,.int .i64 y])]) (O:=fun w=>(w.cell? ⟨b1,0,none⟩=some (.int .i64 x))∧(w.cell? ⟨b1,1,none⟩=some (.int .i64 y))∧True) hs (by kernel_rfl) ⟨B1.cell 0 rfl,B1.cell 1 rfl,trivial⟩ ?_;clear hs a;intro a hs;refine vf hs (by kernel_rfl) (Cc (b:=b2) (cs:= #[.int .i64 0,.int .i64 0]) #[.int .i64 x,.int .i64 y] [(0,.int .i64 x),(1,.int .i64 y)] [6] [(6,.pointer (some ⟨b2,0,none⟩))] hs B2 (by kernel_rfl) ⟨anc rfl,trivial,⟨anc rfl,trivial,trivial⟩⟩ rfl (by kernel_rfl) ?_);clear hs a;intro a w6 B2' hu hs;replace B2:=B2';clear B2'
  replace hc:=hu.blk hc (by omega)
  replace B1:=hu.blk B1 (by omega)
  replace hB:=sJ hB hu (by omega)
  clear hu;refine qB (by kernel_rfl) ?_;refine mV rfl ?_;refine Fp (by kernel_rfl) ?_;refine Qo (vs:=[.agg #[.int .i64 x,.int .i64 y]]) (H:=[.int .i64 x,.int .i64 y]) (v:=.agg #[.int .i64 x,.int .i64 y]) (O:=fun w=>(w.cell? ⟨b2,0,none⟩=some (.int .i64 x))∧(w.cell? ⟨b2,1,none⟩=some (.int .i64 y))∧True) hs (by kernel_rfl) rfl ⟨B2.cell 0 rfl,B2.cell 1 rfl,trivial⟩ ?_;exact⟨rfl,by rw[cd1];exact hc,hB⟩
def Li:eo:={keep:=true,tame:=true,run:=fun _ _ _=>none,mut_:=some ⟨true,fun l=>l,some 257⟩}
theorem Sy:SpK 331 Li:=by
 refine⟨by kernel_rfl,fun R args k r h=>(by cases h),fun g h=>?_⟩;injection h with h;subst h;exact KO
def Ze:List En:=[⟨99,iy,fi⟩,⟨108,gV,eU⟩,⟨107,iS,fB⟩,⟨106,iE,ff⟩,⟨109,kH,gH⟩,enL Q8,⟨73,mr,iu⟩,⟨41,fM,dW⟩,enL Ag,enT Dg,enL OC,enL aac,enL MJ,enL Pf,enL M8,enL Nj,enA RB,enA Sg,enL aaB,enL NY,enL ZE,enL IH,enL Pv,enL aau,⟨331,Li,Sy⟩]
def adM:NT:=[((292,5),{keep:=[1,4,13,14,17,20,21,24],hl:=0}),((292,7),{keep:=[1,4,5,25,26,29,32,33,36],hl:=0})]
def ahs:Ctx:=CX (ens Ze) adM
def Ys(q:BQ)(_k:KT):OLR:=let y1:=frF (ae q.2.2.2.2.1);let y2:=ok Rat 200000 q.2.2.2.2.2;let y3:=frF (ae q.2.2.2.2.2);let y4:=sqF (hid (y3.1));let y5:=hid ((frF (ae q.2.1)).1);let y6:=hid ((sqF (hid (y1.1))).1);let y7:=frF (ae q.2.2.1);let y8:=frF (ae q.2.2.2.1);let y9:=cM y6 (hid (y4.1));let y10:=cM (hid (y7.1)) (hid (y4.1));let y11:=cM (hid (y8.1)) (hid (y9.1));let y12:=hid ((frF (ae q.1)).1);let y13:=hid ((cM y5 y6).1);let y14:=hid ((dO y12 y13).1);let y15:=dO (hid (y10.1)) (hid (y11.1));let y16:=dO y14 (hid (y15.1));let y17:OLR:=match decide (prI (hid (y3.1)))with|true=>some [RV.d aqt 0,RV.d .bool false]|false=>none;og (decide (ok Rat 200000 q.2.2.2.2.1)) (og (decide (prI (hid (y1.1)))) (match y1.2 with|true=>(og (decide y2) (match(sqF (hid (y1.1))).2 with|true=>(og (decide (prI (hid (y3.1)))) (match y3.2 with|true=>(match !(y4.2)with|true=>some [RV.d aqt 0,RV.d .bool false]|false=>(og (decide (ok Rat 200000 q.2.1)) (og (decide (prI y5∧prI y6)) (og (decide (ok Rat 200000 q.2.2.1)) (og (decide (prI (hid (y7.1))∧prI (hid (y4.1)))) (og (decide (ok Rat 200000 q.2.2.2.1)) (og (decide (prI y6∧prI (hid (y4.1)))) (og (decide (prI (hid (y8.1))∧prI (hid (y9.1)))) (match !(((((((y4.2&&(frF (ae q.2.1)).2)&&(cM y5 y6).2)&&y7.2)&&y10.2)&&y8.2)&&y9.2)&&y11.2)with|true=>some [RV.d aqt 0,RV.d .bool false]|false=>(og (decide (ok Rat 200000 q.1)) (og (decide (prI y12∧prI y13)) (og (decide (prI (hid (y10.1))∧prI (hid (y11.1)))) (og (decide (prI y14∧prI (hid (y15.1)))) (match !(((((((((((y4.2&&(frF (ae q.2.1)).2)&&(cM y5 y6).2)&&y7.2)&&y10.2)&&y8.2)&&y9.2)&&y11.2)&&(frF (ae q.1)).2)&&(dO y12 y13).2)&&y15.2)&&y16.2)with|true=>some [RV.d aqt 0,RV.d .bool false]|false=>some [RV.d aqt ((sgF (hid (y16.1))).1),RV.d .bool ((sgF (hid (y16.1))).2)]))))))))))))))|false=>some [RV.d aqt 0,RV.d .bool false]))|false=>y17))|false=>(og (decide y2) y17)))
theorem aiQ(q:BQ):RS ahs 292 [.d tQ q] (Ys q):=rsX
def akp:Cn 292 [tQ]:=cn fun(q:BQ)=>lf (okQ q) [.d aqt ((quF (dec q)).1),.d .bool ((quF (dec q)).2)] fun h=>by
 refine cY Ze (aiQ _ ⟨0,?_⟩);obtain⟨A,B,C,D,M,N,rfl,bA,bB,bC,bD,bM,bN,hM,hN⟩:=Hv h;rw[az];have pf:∀q,prI (frF q).1:=RE.frF_pr;have pm:∀a b,prI (cM a b).1:=uk;have ps:∀q,prI (sqF (frF q).1).1:=fun q=>RE.sqF_pr (pf q);have pa:∀{a b},prI a→prI b→prI (dO a b).1:=fun ha hb=>RE.addF_pr ha hb;have d1:∀q,decide (prI (frF q).1)=true:=fun q=>dT (pf q);have d2:∀q m,decide (prI (frF q).1∧prI (sqF (frF m).1).1)=true:=fun q m=>dT ⟨pf q,ps m⟩;have d3:∀q m,decide (prI (sqF (frF q).1).1∧prI (sqF (frF m).1).1)=true:=fun q m=>dT ⟨ps q,ps m⟩;have d4:∀q a b,decide (prI (frF q).1∧prI (cM a b).1)=true:=fun q a b=>dT ⟨pf q,pm a b⟩;have d5:∀a b c d,decide (prI (cM a b).1∧prI (cM c d).1)=true:=fun a b c d=>dT ⟨pm a b,pm c d⟩;have d6:∀q a b c d e f,decide (prI (dO (frF q).1 (cM a b).1).1∧prI (dO (cM c d).1 (cM e f).1).1)=true:=fun q a b c d e f=>dT ⟨pa (pf q) (pm a b),pa (pm c d) (pm e f)⟩;unfold Ys;simp only[aO,aC,Nat.reduceLeDiff,dT (pf _),dT (pm _ _),dT (ps _),dT (pa (pf _) (pm _ _)),dT (pa (pm _ _) (pm _ _))];unfold quF qu1 qu2 qu3 quA quB sfF mfF;generalize frF M=FM;generalize frF N=FN;generalize sqF FM.1=SM;generalize sqF FN.1=SN;generalize frF A=FA;generalize frF B=FB;generalize frF C=FC;generalize frF D=FD;generalize cM FB.1 SM.1=MB;generalize cM FC.1 SN.1=MC;generalize cM SM.1 SN.1=MM;generalize cM FD.1 MM.1=MD;generalize dO FA.1 MB.1=A1;generalize dO MC.1 MD.1=A2;generalize dO A1.1 A2.1=A3;generalize sgF A3.1=S;obtain⟨_,fm⟩:=FM;obtain⟨_,fn⟩:=FN;obtain⟨_,sm⟩:=SM;obtain⟨_,sn⟩:=SN;cases fm<;>cases sm<;>cases fn<;>cases sn<;>try rfl
 dsimp only;simp only[aoj,aoB];generalize (FB.2&&MB.2&&FC.2&&MC.2&&FD.2&&MM.2&&MD.2)=c2;cases c2
 ·rfl
 ·simp only[aoj];generalize (FA.2&&A1.2&&A2.2&&A3.2)=c3;cases c3<;>rfl
namespace RE
theorem same_rad(a b c d r:RE):a-c+(b-d)*r=a+b*r-(c+d*r):=by grind
theorem aei(a b c:RE):a-b+c=a+c-b:=by grind
theorem vR_rat(q:Rat):vR (q,0,0)=of q:=dD q 0
theorem cmpTR_re{x:Rt}{q:Rat}(h:0≤x.2.2):fC x q=sg (vR x-of q):=by
 unfold fC vR;rw[sgn2_re h];unfold v2;rw[of_sub,aei]
end RE
theorem Rdd.rat{x:Rt}(h:Rdd x)(hb:x.2.1=0):x=(x.1,0,0):=by
 obtain⟨a,b,c⟩:=x;rcases h.rd with h|h
 ·obtain⟨h1,h2⟩:=h;simp only at h1 h2;rw[h1,h2]
 ·exact absurd hb h.1
theorem Od{x:Rt}{q:Rat}(h:Rdd x):aW x (q,0,0)=fC x q:=by
 rw[RE.cmpT_re h.nn (by show(0:Rat)≤0;grind),RE.cmpTR_re h.nn,RE.vR_rat]
theorem To{x y:Rt}(hx:Rdd x)(hy:Rdd y)(bx:x.2.1=0)(b_:y.2.1=0):aW x y=aD x.1 y.1:=by
 rw[hx.rat bx,hy.rat b_,RE.cmpT_re (by show(0:Rat)≤0;grind) (by show(0:Rat)≤0;grind),RE.vR_rat,RE.vR_rat,←RE.of_sub,RE.sg_of,ta]
theorem TF{x y:Rt}(hx:Rdd x)(hy:Rdd y)(h:(apF x y).2=true):(apF x y).1=aW x y:=by
 rw[RE.apF_ok h,RE.cmpT_re hx.nn hy.nn]
theorem Aq{x y:Rt}(hx:Rdd x)(hy:Rdd y)(h:x.2.2=y.2.2):gJ (x.1-y.1) (x.2.1-y.2.1) x.2.2=aW x y:=by
 rw[RE.cmpT_re hx.nn hy.nn,RE.sgn2_re hx.nn];unfold RE.vR RE.v2;rw[RE.of_sub,RE.of_sub,RE.same_rad,h]
theorem aco{A B C D M N:Rat}(hM:0≤M)(hN:0≤N)(h:(quF (A,B,C,D,M,N)).2=true):(quF (A,B,C,D,M,N)).1=sgQ (A,B,C,D,M,N):=by
 rw[RE.quF_ok (q:=(A,B,C,D,M,N)) hM hN h];exact(RE.sgnQ_re hM hN).symm
def Me:List En:=[⟨107,iS,fB⟩,⟨108,gV,eU⟩,⟨73,mr,iu⟩,⟨106,iE,ff⟩,⟨41,fM,dW⟩,⟨99,iy,fi⟩,enL Ag,enT Dg,enL OC,enL IH]
def ac9:Cn 294 [tR,tR]:=cn fun(a b:BR)=>lf (okR a∧okR b) [.d tR (aj (ae a+ae b))] fun h=>jx [RV.d tR (hAd a b)] (du Me) h
def Yt(a b:BO3)(_k:KT):OLR:=og (decide (ok Rt 100000 a)) (og (decide (ok Rt 100000 b)) (match !((bI (dec a)).2)with|true=>some [RV.d aqt 0,RV.d .bool false]|false=>(match !((bI (dec b)).2)with|true=>some [RV.d aqt 0,RV.d .bool false]|false=>(match decide (((hid ((bI (dec a)).1)).2)<((hid ((bI (dec b)).1)).1))with|true=>some [RV.d aqt (-1),RV.d .bool true]|false=>(match decide (((hid ((bI (dec a)).1)).1)>((hid ((bI (dec b)).1)).2))with|true=>some [RV.d aqt 1,RV.d .bool true]|false=>some [RV.d aqt 0,RV.d .bool false])))))
def aaP:Cn 295 [tO,tO]:=cn fun(a b:BO3)=>lf (ok Rt 100000 a∧ok Rt 100000 b) [.d aqt ((apF (dec a) (dec b)).1),.d .bool ((apF (dec a) (dec b)).2)] fun h=>by
 refine aA Me (Yt a b) ⟨0,?_⟩;obtain⟨ha,hb⟩:=h;obtain⟨a,rfl,ba⟩:=aB ha;obtain⟨b,rfl,bb⟩:=aB hb;unfold Yt;simp only[aO,Nat.reduceLeDiff];unfold apF;generalize bI a=A;generalize bI b=B;obtain⟨⟨a1,a2⟩,p⟩:=A;obtain⟨⟨b1,b2⟩,q⟩:=B;cases p<;>cases q<;>try rfl
 dsimp only;cases decide (a2<b1)<;>try rfl
 cases decide (a1>b2)<;>rfl
def aj8:List En:=enL ac9::enT aaP::enT akp::Me
def YG(q:BQ)(_k:KT):OLR:=let y1:=ae q.2.2.2.2.1;let y2:=aD (ae q.2.2.2.2.2) 0;let y3:=i64.wrap ((gJ (ae q.2.2.1) (ae q.2.2.2.1) y1)*y2);let y4:=gJ (ae q.1) (ae q.2.1) y1;let y5:=hMu q.2.2.2.2.1 (hMu q.2.1 q.2.1);let y6:=hMu q.2.2.2.1 q.2.2.2.1;let y7:=hMu q.2.2.1 q.2.2.1;let y8:=hMu q.2.2.2.2.1 y6;let y9:=hAd (hMu q.1 q.1) y5;let y10:=hMu q.2.2.2.2.2 (hAd y7 y8);let y11:=hMu q.2.2.1 q.2.2.2.1;let y12:=hMu q.2.2.2.2.2 y11;let y13:=hSu (hMu q.1 q.2.1) y12;let y14:OLR:=match decide (okR (hMu q.1 q.2.1)∧okR y12)with|true=>(og (o2 y13 y13) (og (decide (ok Rat 240000 (hSu y9 y10)∧ok Rat 170000 (hAd y13 y13)∧ok Rat 30000 q.2.2.2.2.1)) (some [RV.d aqt (i64.wrap (y4*(gJ (ae (hSu y9 y10)) (ae (hAd y13 y13)) y1)))])))|false=>none;let y15:OLR:=match decide (okR q.2.2.2.2.2∧okR y11)with|true=>y14|false=>none;let y16:OLR:=match decide (okR q.2.2.1∧okR q.2.2.2.1)with|true=>y15|false=>none;let y17:OLR:=match decide (okR y9∧okR y10)with|true=>ck (og (o2 q.1 q.2.1) (ck (og (o2 q.2.2.1 q.2.2.2.1) (ck (og (o2 q.2.2.2.2.2 y11) (dup (.b .l .l) y14)) y15)) y16)) (og (o2 q.1 q.2.1) y16)|false=>none;let y18:OLR:=match decide (okR q.2.2.2.2.2∧okR (hAd y7 y8))with|true=>y17|false=>none;let y19:OLR:=match decide (okR y7∧okR y8)with|true=>y18|false=>none;let y20:OLR:=match decide (okR q.2.2.2.2.1∧okR y6)with|true=>y19|false=>none;let y21:OLR:=match decide (okR q.2.2.2.1∧okR q.2.2.2.1)with|true=>y20|false=>none;let y22:OLR:=match decide (okR q.2.2.1∧okR q.2.2.1)with|true=>y21|false=>none;let y23:OLR:=match decide (okR (hMu q.1 q.1)∧okR y5)with|true=>y22|false=>none;let y24:OLR:=match decide (okR q.2.2.2.2.1∧okR (hMu q.2.1 q.2.1))with|true=>y23|false=>none;let y25:OLR:=match decide (okR q.2.1∧okR q.2.1)with|true=>y24|false=>none;og (o1 q.2.2.2.2.1) (match decide ((aD y1 0)<0)with|true=>some [RV.d aqt 0]|false=>(og (o1 q.2.2.2.2.2) (match decide (y2<0)with|true=>some [RV.d aqt 0]|false=>(og (decide (okQ q)) (match(quF (dec q)).2 with|true=>some [RV.d aqt ((quF (dec q)).1)]|false=>(og (decide (ok Rat 240000 q.1∧ok Rat 170000 q.2.1∧ok Rat 30000 q.2.2.2.2.1)) (og (decide (ok Rat 240000 q.2.2.1∧ok Rat 170000 q.2.2.2.1∧ok Rat 30000 q.2.2.2.2.1)) (og (o1 q.2.2.2.2.2) (match y3==0 with|true=>some [RV.d aqt y4]|false=>(match y4==y3 with|true=>some [RV.d aqt y4]|false=>(match y4==0 with|true=>some [RV.d aqt y3]|false=>ck (og (o2 q.1 q.1) (ck (og (o2 q.2.1 q.2.1) (ck (og (o2 q.2.2.2.2.1 (hMu q.2.1 q.2.1)) (ck (og (o2 (hMu q.1 q.1) y5) (ck (og (o2 q.2.2.1 q.2.2.1) (ck (og (o2 q.2.2.2.1 q.2.2.2.1) (ck (og (o2 q.2.2.2.2.1 y6) (ck (og (o2 y7 y8) (ck (og (o2 q.2.2.2.2.2 (hAd y7 y8)) (dup (.b .l .l) y17)) y18)) y19)) y20)) y21)) y22)) y23)) y24)) y25)) (og (o2 q.1 q.1) y25))))))))))))
def Lo:Cn 204 [tQ]:=cn fun(q:BQ)=>lf (okQ q) [.d aqt (sgQ (dec q))] fun h=>by
 refine aA aj8 (YG q) ⟨0,?_⟩;obtain⟨A,B,C,D,M,N,rfl,bA,bB,bC,bD,bM,bN,hM,hN⟩:=Hv h;have hh:decide (okQ (aj A,aj B,aj C,aj D,aj M,aj N))=true:=am5 h;have hd:(dec ((aj A,aj B,aj C,aj D,aj M,aj N):BQ):Qd)=(A,B,C,D,M,N):=az ((A,B,C,D,M,N):Qd);rw[az];unfold YG;simp only[aO,aC,Nat.reduceAdd,Nat.reduceLeDiff,tZ,sG,aq,hh,hd,am7 (show ¬M<0 by grind),am7 (show ¬N<0 by grind)];cases hq:(quF (A,B,C,D,M,N)).2
 ·try dsimp only
  refine(Bx _ _ _).trans ?_;unfold sgQ BX;rw[am7 (show ¬M<0 by grind),am7 (show ¬N<0 by grind)];dsimp only[Bool.or_false,cond_false];rw[show A*B-N*(C*D)+(A*B-N*(C*D))=2*(A*B-N*(C*D)) by grind,show A*A+M*(B*B)-N*(C*C+M*(D*D))=A*A+B*B*M-N*(C*C+D*D*M) by grind];rfl
 ·try dsimp only
  rw[aco hM hN hq]
def X9:List En:=[⟨41,fM,dW⟩,⟨73,mr,iu⟩,⟨106,iE,ff⟩,enT Dg,enL OC,enT aaP,enT Lo,enL Ag]
def aaZ(a b:BO3)(_k:KT):OLR:=og (o1 a.2.1) (match(aD (ae a.2.1) 0)==0 with|true=>(og (o1 b.2.1) (match(aD (ae b.2.1) 0)==0 with|true=>(og (o2 a.1 b.1) (some [RV.d aqt (aD (ae a.1) (ae b.1))]))|false=>(og (decide (ok Rt 100000 a∧ok Rt 100000 b)) (match(apF (dec a) (dec b)).2 with|true=>some [RV.d aqt ((apF (dec a) (dec b)).1)]|false=>(og (o2 a.2.2 b.2.2) (match(aD (ae a.2.2) (ae b.2.2))==0 with|true=>(og (o2 a.1 b.1) (og (o2 a.2.1 b.2.1) (og (decide (ok Rat 240000 (hSu a.1 b.1)∧ok Rat 170000 (hSu a.2.1 b.2.1)∧ok Rat 30000 a.2.2)) (some [RV.d aqt (gJ (ae (hSu a.1 b.1)) (ae (hSu a.2.1 b.2.1)) (ae a.2.2))]))))|false=>(og (decide (ok Rt 15000 a∧ok Rt 15000 b)) (og (decide (okQ (hid (enc (suT (dec a) (dec b)))))) (some [RV.d aqt (sgQ (dec (hid (enc (suT (dec a) (dec b))))))])))))))))|false=>(og (decide (ok Rt 100000 a∧ok Rt 100000 b)) (match(apF (dec a) (dec b)).2 with|true=>some [RV.d aqt ((apF (dec a) (dec b)).1)]|false=>(og (o2 a.2.2 b.2.2) (match(aD (ae a.2.2) (ae b.2.2))==0 with|true=>(og (o2 a.1 b.1) (og (o2 a.2.1 b.2.1) (og (decide (ok Rat 240000 (hSu a.1 b.1)∧ok Rat 170000 (hSu a.2.1 b.2.1)∧ok Rat 30000 a.2.2)) (some [RV.d aqt (gJ (ae (hSu a.1 b.1)) (ae (hSu a.2.1 b.2.1)) (ae a.2.2))]))))|false=>(og (decide (ok Rt 15000 a∧ok Rt 15000 b)) (og (decide (okQ (hid (enc (suT (dec a) (dec b)))))) (some [RV.d aqt (sgQ (dec (hid (enc (suT (dec a) (dec b))))))]))))))))
def Er:Cn 206 [tO,tO]:=cn fun(a b:BO3)=>lf (okT 15000 a∧okT 15000 b) [.d aqt (aW (dec a) (dec b))] fun h=>by
 refine aA X9 (aaZ a b) ⟨0,?_⟩;obtain⟨ha,hb⟩:=h;obtain⟨a,rfl,ba,ra⟩:=fH ha;obtain⟨b,rfl,bb,rb⟩:=fH hb;have na:Nn a.2.2:=inferInstance;have nb:Nn b.2.2:=inferInstance;have e:decide (okQ (enc (suT a b)))=true:=rn (by decide) (by decide) (by decide) (by decide) (by decide) (by decide);have e1:=fun h1 h2=>To ra rb h1 h2;have e2:=fun h=>TF ra rb h;have e3:=fun h=>Aq ra rb h;unfold aaZ;simp only[aO,Nat.reduceAdd,Nat.reduceLeDiff,ao,e];by_cases ha:a.2.1=0
 ·by_cases hb:b.2.1=0
  ·rw[am5 ha,am5 hb,e1 ha hb]
  ·rw[am5 ha,am7 hb];dsimp only;cases hq:(apF a b).2
   ·dsimp only;by_cases hc:a.2.2=b.2.2
    ·rw[am5 hc,←e3 hc]
    ·rw[am7 hc];rfl
   ·dsimp only;rw[e2 hq]
 ·rw[am7 ha];dsimp only;cases hq:(apF a b).2
  ·dsimp only;by_cases hc:a.2.2=b.2.2
   ·rw[am5 hc,←e3 hc]
   ·rw[am7 hc];rfl
  ·dsimp only;rw[e2 hq]
def af6:List En:=enT Er::X9
def aaH(a:BO3)(b:BR)(_k:KT):OLR:=og (o1 b) (og (decide (okT 15000 a∧okT 15000 (hid (enc ((ae b,0,0):Rt))))) (some [RV.d aqt (aW (dec a) (dec (hid (enc ((ae b,0,0):Rt)))))]))
def Qr:Cn 100 [tO,tR]:=cn fun(a:BO3) (b:BR)=>lf (okT 15000 a∧ok Rat 15000 b) [.d aqt (fC (dec a) (ae b))] fun h=>by
 refine aA af6 (aaH a b) ⟨0,?_⟩;obtain⟨ha,hb⟩:=h;obtain⟨a,rfl,ba,ra⟩:=fH ha;obtain⟨b,rfl,bb⟩:=aB hb;unfold aaH;simp only[aO,Nat.reduceLeDiff,aI];rw[Od ra]
section
section
variable {α:Type}
open Classical in
def rk(lt:α→α→Prop):List α→α→Nat
 |[],_=>0
 |e::r,x=>(if lt e x then 1 else 0)+rk lt r x
structure nQ (lt:α→α→Prop):Prop where
 irr:∀x,¬lt x x
 tr:∀x y z,lt x y→lt y z→lt x z
 tri:∀x y,lt x y∨x=y∨lt y x
variable {lt:α→α→Prop}
theorem YR(h:nQ lt){x y:α}(hxy:lt x y):∀L,rk lt L x≤rk lt L y
 |[]=>anb _
 |e::r=>by
  have:=YR h hxy r;unfold rk;by_cases h1:lt e x
  ·rw[anB h1,anB (h.tr _ _ _ h1 hxy)];omega
  ·rw[anr h1];omega
theorem Ei(h:nQ lt){x y:α}(hxy:lt x y):∀{L},x∈L→rk lt L x<rk lt L y
 |e::r,hm=>by
  have h0:=YR h hxy r;unfold rk;rcases ann.1 hm with rfl|hm
  ·rw[anr (h.irr _),anB hxy];omega
  ·have:=Ei h hxy hm;by_cases h1:lt e x
   ·rw[anB h1,anB (h.tr _ _ _ h1 hxy)];omega
   ·rw[anr h1];omega
theorem abF(L:List α)(x:α):rk lt L x≤L.length:=by
 induction L with
 |nil=>exact anb _
 |cons e r ih=>
  unfold rk;rw[anp];split<;>omega
theorem iN(h:nQ lt){x:α}:∀{L},x∈L→rk lt L x<L.length
 |e::r,hm=>by
  unfold rk;rw[anp];rcases ann.1 hm with rfl|hm
  ·rw[anr (h.irr _)];have:=abF (lt:=lt) r x;omega
  ·have:=iN h hm;split<;>omega
def vp(lt:α→α→Prop)(c:α→α→Int):Prop:=∀x y,(lt x y→c x y= -1)∧(x=y→c x y=0)∧(lt y x→c x y=1)
def cI(i j:Nat):Int:=if i<j then-1 else if i=j then 0 else 1
theorem sB(h:nQ lt){c:α→α→Int}(hc:vp lt c){L:List α}{x y:α}(hx:x∈L)(hy:y∈L):c x y=cI (rk lt L x) (rk lt L y):=by
 unfold cI;rcases h.tri x y with e|e|e
 ·rw[(hc x y).1 e,anB (Ei h e hx)]
 ·subst e;rw[(hc x x).2.1 rfl,anr (Nat.lt_irrefl _),anB rfl]
 ·have:=Ei h e hy;rw[(hc x y).2.2 e,anr (by omega),anr (by omega)]
end
section
variable {α:Type} (cmp:α→α→Int)
def sh(p q:Bool×α):Int:=bif p.1==q.1 then(bif p.1 then-cmp p.2 q.2 else cmp p.2 q.2)else(bif p.1 then-1 else 1)
def oM(f p:Bool×α):Int:=bif sh cmp p f==0 then 0 else bif decide (sh cmp p f>0)then 1 else 2
def kj(n:Int):Int:=if n<0 then-1 else if n=0 then 0 else 1
def gI(f p q:Bool×α):Int:=bif oM cmp f p==oM cmp f q then kj (sh cmp p q)else kj (oM cmp f p-oM cmp f q)
def jP(p q:Bool×α):Int:=bif p.1==q.1 then(bif p.1 then-cmp p.2 q.2 else cmp p.2 q.2)else(bif q.1 then-1 else 1)
def j8(f p q:Bool×α):Int:=bif decide (jP cmp p f<0)==decide (jP cmp q f<0)then jP cmp p q else(bif decide (jP cmp q f<0)then-1 else 1)
variable {cmp} {β:Type} {cmq:β→β→Int}
theorem rZ{u v:Bool}{a b:α}{c d:β}(h:cmp a b=cmq c d):sh cmp (u,a) (v,b)=sh cmq (u,c) (v,d):=by unfold sh;rw[h]
theorem rO{u v:Bool}{a b:α}{c d:β}(h:cmp a b=cmq c d):jP cmp (u,a) (v,b)=jP cmq (u,c) (v,d):=by unfold jP;rw[h]
theorem gS{u v w:Bool}{f p q:α}{f' p' q':β}(h1:cmp p f=cmq p' f')(h2:cmp q f=cmq q' f')(h3:cmp p q=cmq p' q'):gI cmp (u,f) (v,p) (w,q)=gI cmq (u,f') (v,p') (w,q'):=by
 unfold gI oM;rw[rZ h1,rZ h2,rZ h3]
theorem fL{u v w:Bool}{f p q:α}{f' p' q':β}(h1:cmp p f=cmq p' f')(h2:cmp q f=cmq q' f')(h3:cmp p q=cmq p' q'):j8 cmp (u,f) (v,p) (w,q)=j8 cmq (u,f') (v,p') (w,q'):=by
 unfold j8;rw[rO h1,rO h2,rO h3]
end
def mU(k i l j:Nat):Bool:=(k !=0||(bif l==0 then i==j else decide (j<i)))&&(k !=2||(bif l==2 then i==j else decide (i<j)))
def upA(k:Nat):Bool:=k==0||k==1
def ufA(k:Nat):Bool:=k==1||k==2
def dI(i j:Nat):Int:=cI j i
def FJ(k i l j m n:Nat):Bool:=mU k i l j&&mU l j k i&&mU k i m n&&mU m n k i&&mU l j m n&&mU m n l j
theorem Vb:∀kF kP kT:Fin 4,∀iF iP iT:Fin 3,FJ kF.1 iF.1 kP.1 iP.1 kT.1 iT.1=true→
  decide (gI cI (upA kF.1,iF.1) (upA kP.1,iP.1) (upA kT.1,iT.1)≤0)=(decide (j8 cI (upA kF.1,iF.1) (upA kF.1,iF.1) (upA kP.1,iP.1)≤0)&&decide (j8 cI (upA kF.1,iF.1) (upA kP.1,iP.1) (upA kT.1,iT.1)≤0)):=by decide+kernel
theorem acj:∀kF kP kT:Fin 4,∀iF iP iT:Fin 3,FJ kF.1 iF.1 kP.1 iP.1 kT.1 iT.1=true→
  decide (gI cI (upA kT.1,iT.1) (upA kP.1,iP.1) (upA kF.1,iF.1)≤0)=(decide (j8 dI (ufA kF.1,iF.1) (ufA kF.1,iF.1) (ufA kP.1,iP.1)≤0)&&decide (j8 dI (ufA kF.1,iF.1) (ufA kP.1,iP.1) (ufA kT.1,iT.1)≤0)):=by decide+kernel
def uH(a b:Int):Bool:=a==0||b==0||a==b
def ajq(d a b:Int):Bool:=decide ((bif decide (d>0)then-a else a)≤0)&&decide ((bif decide (d>0)then-b else b)≤0)
theorem Ce:∀f p t:Fin 3,uH (cI f.1 p.1) (cI p.1 t.1)=ajq (cI f.1 t.1) (cI f.1 p.1) (cI p.1 t.1):=by decide+kernel
namespace RE
theorem lt_lin:nQ (fun x y:RE=>x<y):=⟨lt_irrefl,fun _ _ _=>cO,m9⟩
theorem tD(x y:RE)(h1:x<y):x-y<0:=by grind
theorem Cz(x y:RE)(h1:y<x):0<x-y:=by grind
theorem sg_cmpO:vp (fun x y:RE=>x<y) (fun x y=>sg (x-y)):=fun x y=>⟨fun h=>gE (tD _ _ h),fun h=>by subst h;show sg (x-x)=0;rw[sub_self,dg],fun h=>dB (Cz _ _ h)⟩
def abn(p q:RE×RE):Prop:=p.1<q.1∨(p.1=q.1∧p.2<q.2)
theorem jS:nQ abn:=by
 refine⟨fun x h=>?_,fun x y z h1 h2=>?_,fun x y=>?_⟩
 ·rcases h with h|h
  ·exact lt_irrefl _ h
  ·exact lt_irrefl _ h.2
 ·rcases h1 with h1|⟨h1,h1'⟩
  ·rcases h2 with h2|⟨h2,h2'⟩
   ·exact .inl (cO h1 h2)
   ·exact .inl (h2▸h1)
  ·rcases h2 with h2|⟨h2,h2'⟩
   ·exact .inl (h1▸h2)
   ·exact .inr ⟨h1.trans h2,cO h1' h2'⟩
 ·rcases m9 x.1 y.1 with h|h|h
  ·exact .inl (.inl h)
  ·rcases m9 x.2 y.2 with h'|h'|h'
   ·exact .inl (.inr ⟨h,h'⟩)
   ·exact .inr (.inl (aoq h h'))
   ·exact .inr (.inr (.inr ⟨h.symm,h'⟩))
  ·exact .inr (.inr (.inl h))
def lxc(p q:RE×RE):Int:=bif sg (p.1-q.1)==0 then sg (p.2-q.2)else sg (p.1-q.1)
theorem iz:vp abn lxc:=fun p q=>by
 unfold lxc;refine⟨fun h=>?_,fun h=>?_,fun h=>?_⟩
 ·rcases h with h|⟨h,h'⟩
  ·rw[gE (tD _ _ h)];rfl
  ·rw[h,sub_self,dg,gE (tD _ _ h')];rfl
 ·subst h;rw[sub_self,sub_self,dg];rfl
 ·rcases h with h|⟨h,h'⟩
  ·rw[dB (Cz _ _ h)];rfl
  ·rw[←h,sub_self,dg,dB (Cz _ _ h')];rfl
def cls(u v:RE):Nat:=bif sg v==1 then 1 else bif sg v== -1 then 3 else bif sg u==1 then 0 else 2
theorem gQ(u v:RE):cls u v<4:=by
 unfold cls;cases sg v==1<;>cases sg v== -1<;>cases sg u==1<;>simp
theorem acq(u v:RE):(decide (sg v>0)||(sg v==0&&decide (sg u>0)))=upA (cls u v):=by
 unfold cls;rcases bi v with⟨_,h⟩|⟨_,h⟩|⟨_,h⟩<;>rcases bi u with⟨_,h'⟩|⟨_,h'⟩|⟨_,h'⟩<;>rw[h,h']<;>rfl
theorem aev{u v Q:RE}(hQ:0<Q)(h:u*u+v*v=Q):(decide (sg v>0)||(sg v==0&&decide (-sg u>0)))=ufA (cls u v):=by
 unfold cls;rcases bi v with⟨_,h1⟩|⟨h0,h1⟩|⟨_,h1⟩<;>rcases bi u with⟨_,h'⟩|⟨h2,h'⟩|⟨_,h'⟩<;>rw[h1,h']<;>try rfl
 rw[h0,h2,mul_zero,add_zero]at h;rw[←h]at hQ;exact absurd hQ (lt_irrefl _)
theorem SC(u v w z Q:RE):2*((u-(0))*(w-(u)))+((w-(u))*(w-(u)))+((u*u+v*v-(Q)))+((Q-(w*w+z*z)))+((z*z-(0)))+((0-(v))*(v-(0)))=0:=by grind
theorem aew(u v w z Q:RE)(h1:u*u+v*v=Q)(h2:w*w+z*z=Q)(h3:v=0)(h4:0<u)(h5:0≤z*z):w≤u:=fun hg=>far (aK (aK (aK (aK (aK (I6 (by decide+kernel:(0:Rat)<2) (mul_pos (aL h4) (aL hg))) (le_of_lt (mul_pos (aL hg) (aL hg)))) (aF (lT h1))) (aF (ow h2))) (aF h5)) (bg (aF (ow h3)) (aF (lT h3)))) (SC u v w z Q)
theorem OL(u v w z Q:RE):2*((0-(u))*(u-(w)))+((u-(w))*(u-(w)))+((u*u+v*v-(Q)))+((Q-(w*w+z*z)))+((z*z-(0)))+((0-(v))*(v-(0)))=0:=by grind
theorem acK(u v w z Q:RE)(h1:u*u+v*v=Q)(h2:w*w+z*z=Q)(h3:v=0)(h4:u<0)(h5:0≤z*z):u≤w:=fun hg=>far (aK (aK (aK (aK (aK (I6 (by decide+kernel:(0:Rat)<2) (mul_pos (aL h4) (aL hg))) (le_of_lt (mul_pos (aL hg) (aL hg)))) (aF (lT h1))) (aF (ow h2))) (aF h5)) (bg (aF (ow h3)) (aF (lT h3)))) (OL u v w z Q)
theorem SA(u w z Q:RE)(h1:u*u=Q)(h2:w*w+z*z=Q)(h3:w*w=u*u):z*z≤0:=by grind
theorem v9{z:RE}(h:z*z≤0):z=0:=by
 rcases m9 z 0 with e|e|e
 ·have:=mul_pos (jQ e) (jQ e);rw[neg_mul,mul_neg,neg_neg]at this
  exact absurd this (fun h'=>lt_irrefl _ (cO h' (by
   rcases fS (fo z)with h2|h2
   ·exact absurd h2 ((AS _ _).1 h)
   ·rw[h2]at h';exact absurd h' (lt_irrefl _))))
 ·exact e
 ·exact absurd (mul_pos e e) ((AS _ _).1 h)
theorem JL{u v:RE}:cls u v=0↔v=0∧0<u:=by
 unfold cls;rcases bi v with⟨a,h1⟩|⟨a,h1⟩|⟨a,h1⟩<;>rcases bi u with⟨b,h'⟩|⟨b,h'⟩|⟨b,h'⟩<;>rw[h1,h']<;>simp[a,b]<;>first|exact lt_irrefl _|exact fun h=>absurd (cO h b) (lt_irrefl _)|(intro h;rw[h]at a;exact absurd a (lt_irrefl _))|skip
end RE
end
section
def xP(p:Pt):Rt:=coR p.1 p.2.1 p.2.2.2.2
def yP(p:Pt):Rt:=coR p.2.2.1 p.2.2.2.1 p.2.2.2.2
def atP(v:Rat×Rat):Pt:=(v.1,0,v.2,0,0)
def rdP(p:Pt):Pt:=(p.1,p.2.1,p.2.2.1,p.2.2.2.1,bif decide (p.2.1=0)&&decide (p.2.2.2.1=0)then 0 else p.2.2.2.2)
def mkP(x y:Rt):Pt:=rdP (x.1,x.2.1,y.1,y.2.1,bif decide (x.2.1=0)then y.2.2 else x.2.2)
def t5(x y:Rt):Prop:=x.2.1=0∨y.2.1=0∨x.2.2=y.2.2
instance (x y:Rt):Decidable (t5 x y):=by unfold t5;infer_instance
def aX(p q:Pt):Int:=bif aW (xP p) (xP q)==0 then aW (yP p) (yP q)else aW (xP p) (xP q)
def trP(p:Pt)(v:Rat×Rat):Pt:=(p.1+v.1,p.2.1,p.2.2.1+v.2,p.2.2.2.1,p.2.2.2.2)
def bkV(v:Rat×Rat):Rat×Rat:=(-v.1,-v.2)
def sqA(p:Pt)(v:Rat×Rat):Rat:=(p.1-v.1)*(p.1-v.1)+(p.2.2.1-v.2)*(p.2.2.1-v.2)+(p.2.1*p.2.1+p.2.2.2.1*p.2.2.2.1)*p.2.2.2.2
def sqB(p:Pt)(v:Rat×Rat):Rat:=(p.1-v.1)*p.2.1+(p.2.2.1-v.2)*p.2.2.2.1+((p.1-v.1)*p.2.1+(p.2.2.1-v.2)*p.2.2.2.1)
def sqP(p:Pt)(v:Rat×Rat):Rt:=coR (sqA p v) (sqB p v) p.2.2.2.2
def GR(p:Pt):Prop:=(p.2.1=0∧p.2.2.2.1=0∧p.2.2.2.2=0)∨(¬(p.2.1=0∧p.2.2.2.1=0)∧0<p.2.2.2.2∧fE p.2.2.2.2=false)
instance (p:Pt):Decidable (GR p):=by unfold GR;infer_instance
class Rpd (p:Pt):Prop where
 rd:GR p
def okP(k:Nat)(x:BP):Prop:=ok Pt k x∧GR (dec x)
instance (k:Nat) (x:BP):Decidable (okP k x):=by unfold okP;infer_instance
theorem aZ{k:Nat}{x:BP}(h:okP k x):∃v:Pt,x=enc v∧Bd v k∧Rpd v:=by
 obtain⟨h1,h2⟩:=h;obtain⟨v,rfl,bv⟩:=aB h1;rw[az]at h2;exact⟨v,rfl,bv,⟨h2⟩⟩
theorem aJ{x:Pt}{j k:Nat}[h:Bd x j][r:Rpd x](hj:j≤k)(hk:k≤480000):decide (okP k (enc x))=true:=am5 ⟨am8 (okd hj hk),by rw[az];exact r.rd⟩
theorem Rpd.ns{p:Pt}(h:Rpd p):Ns p.2.2.2.2:=⟨by rcases h.rd with h|h;exact .inl h.2.2;exact .inr h.2⟩
instance amP {p:Pt} [h:Rpd p]:Ns p.2.2.2.2:=h.ns
theorem Rpd.nn{p:Pt}(h:Rpd p):0≤p.2.2.2.2:=h.ns.nn
theorem Nl{a b c:Rat}(h:Ns c)(hb:b=0∨c≠0):Rdd (coR a b c):=by
 refine⟨?_⟩;unfold coR;by_cases e:b=0
 ·rw[am5 e];exact .inl ⟨rfl,rfl⟩
 ·rw[am7 e];rcases h.ns with h|h
  ·rcases hb with hb|hb
   ·exact absurd hb e
   ·exact absurd h hb
  ·exact .inr ⟨e,h⟩
theorem Rpd.b0{p:Pt}(h:Rpd p):(p.2.1=0∧p.2.2.2.1=0)∨p.2.2.2.2≠0:=by
 rcases h.rd with h|h
 ·exact .inl ⟨h.1,h.2.1⟩
 ·exact .inr (by have:=h.2.1;grind)
instance akV {p:Pt} [h:Rpd p]:Rdd (xP p):=Nl h.ns (by rcases h.b0 with h|h;exact .inl h.1;exact .inr h)
instance alU {p:Pt} [h:Rpd p]:Rdd (yP p):=Nl h.ns (by rcases h.b0 with h|h;exact .inl h.2;exact .inr h)
instance amX {p:Pt} {v:Rat×Rat} [h:Rpd p]:Rdd (sqP p v):=Nl h.ns (by
 rcases h.b0 with h|h
 ·refine .inl ?_;unfold sqB;rw[h.1,h.2];grind
 ·exact .inr h)
instance amO {v:Rat×Rat}:Rpd (atP v):=⟨.inl ⟨rfl,rfl,rfl⟩⟩
instance amI {p:Pt} {v:Rat×Rat} [h:Rpd p]:Rpd (trP p v):=⟨h.rd⟩
theorem Z9{x y:Rt}(hx:Rdd x)(hy:Rdd y)(_h:t5 x y):Rpd (mkP x y):=by
 refine⟨?_⟩;unfold mkP rdP GR;dsimp only;rcases hx.rd with⟨a1,a2⟩|⟨a1,a2,a3⟩<;>rcases hy.rd with⟨b1,b2⟩|⟨b1,b2,b3⟩
 ·simp[a1,b1]
 ·simp[a1,b1,b2,b3]
 ·simp[a1,b1,a2,a3]
 ·simp[a1,b1,a2,a3]
section
variable {p:Pt} {j:Nat}
instance amJ [h:Bd p j]:Bd (xP p) (mx j (mx j j)):=inferInstanceAs (Bd (coR p.1 p.2.1 p.2.2.2.2) _)
instance amN [h:Bd p j]:Bd (yP p) (mx j (mx j j)):=inferInstanceAs (Bd (coR p.2.2.1 p.2.2.2.1 p.2.2.2.2) _)
instance alm {v:Rat×Rat} [h:Bd v j]:Bd (atP v) (mx j (mx 1 (mx j (mx 1 1)))):=inferInstanceAs (Bd ((v.1,0,v.2,0,0):Pt) _)
instance alf {v:Rat×Rat} {k:Nat} [h:Bd p j] [h':Bd v k]:Bd (trP p v) (mx (j+k+1) (mx j (mx (j+k+1) (mx j j)))):=inferInstanceAs (Bd ((p.1+v.1,p.2.1,p.2.2.1+v.2,p.2.2.2.1,p.2.2.2.2):Pt) _)
instance amU {v:Rat×Rat} [h:Bd v j]:Bd (bkV v) (mx j j):=inferInstanceAs (Bd ((-v.1,-v.2):Rat×Rat) _)
end
instance amG {p:Pt} {j:Nat} [h:Bd p j]:Bd (rdP p) (mx j (mx j (mx j (mx j (mx 1 j))))):=inferInstanceAs (Bd ((p.1,p.2.1,p.2.2.1,p.2.2.2.1,bif decide (p.2.1=0)&&decide (p.2.2.2.1=0)then 0 else p.2.2.2.2):Pt) _)
instance abW {x y:Rt} {j k:Nat} [h:Bd x j] [h':Bd y k]:Bd (mkP x y) (mx (mx j (mx j (mx k (mx k (mx k j))))) (mx (mx j (mx j (mx k (mx k (mx k j))))) (mx (mx j (mx j (mx k (mx k (mx k j))))) (mx (mx j (mx j (mx k (mx k (mx k j))))) (mx 1 (mx j (mx j (mx k (mx k (mx k j)))))))))):=inferInstanceAs (Bd (rdP (x.1,x.2.1,y.1,y.2.1,bif decide (x.2.1=0)then y.2.2 else x.2.2)) _)
theorem cL{j k n:Nat}(h1:j≤n)(h2:k≤n):mx j k≤n:=by
 unfold mx;cases decide (j≤k)
 ·exact h1
 ·exact h2
section
variable {p:Pt} {v:Rat×Rat} {j k:Nat}
instance akM [h:Bd p j] [h':Bd v k]:Bd (sqA p v) (20*(j+k+1)):=by
 have a1:Bd (p.1-v.1) _:=inferInstance;have a2:Bd (p.2.2.1-v.2) _:=inferInstance;have a3:Bd (p.2.1*p.2.1+p.2.2.2.1*p.2.2.2.1) _:=inferInstance;have i:Bd ((p.1-v.1)*(p.1-v.1)+(p.2.2.1-v.2)*(p.2.2.1-v.2)+(p.2.1*p.2.1+p.2.2.2.1*p.2.2.2.1)*p.2.2.2.2) _:=inferInstance;exact i.mono (by omega)
instance ali [h:Bd p j] [h':Bd v k]:Bd (sqB p v) (20*(j+k+1)):=by
 have a1:Bd (p.1-v.1) _:=inferInstance;have a2:Bd (p.2.2.1-v.2) _:=inferInstance;have i:Bd ((p.1-v.1)*p.2.1+(p.2.2.1-v.2)*p.2.2.2.1+((p.1-v.1)*p.2.1+(p.2.2.1-v.2)*p.2.2.2.1)) _:=inferInstance;exact i.mono (by omega)
instance alL [h:Bd p j] [h':Bd v k]:Bd (sqP p v) (20*(j+k+1)):=by
 have i:Bd (coR (sqA p v) (sqB p v) p.2.2.2.2) _:=inferInstance;exact i.mono (cL (by omega) (cL (by omega) (by omega)))
end
namespace RE
def pX(p:Pt):RE:=v2 p.1 p.2.1 p.2.2.2.2
def pY(p:Pt):RE:=v2 p.2.2.1 p.2.2.2.1 p.2.2.2.2
def pR(p:Pt):RE×RE:=(pX p,pY p)
theorem tH(p:Pt):vR (xP p)=pX p:=vR_co _ _ _
theorem Uj(p:Pt):vR (yP p)=pY p:=vR_co _ _ _
theorem lW{p:Pt}[h:Rpd p]:0≤(xP p).2.2:=(akV (p:=p)).nn
theorem IW{p:Pt}[h:Rpd p]:0≤(yP p).2.2:=(alU (p:=p)).nn
theorem jl{p q:Pt}[Rpd p][Rpd q]:aX p q=lxc (pR p) (pR q):=by
 unfold aX lxc;rw[cmpT_re lW lW,cmpT_re IW IW,tH,tH,Uj,Uj];rfl
theorem aeV(x y s t c u w:RE):(x+s*c-u)*(x+s*c-u)+(y+t*c-w)*(y+t*c-w)=(x-u)*(x-u)+(y-w)*(y-w)+(s*s+t*t)*(c*c)+((x-u)*s+(y-w)*t+((x-u)*s+(y-w)*t))*c:=by grind
theorem BK{p:Pt}{v:Rat×Rat}[h:Rpd p]:vR (sqP p v)=(pX p-of v.1)*(pX p-of v.1)+(pY p-of v.2)*(pY p-of v.2):=by
 unfold sqP pX pY;rw[vR_co];unfold v2;rw[aeV,cQ h.nn];unfold sqA sqB;simp only[of_add,of_sub,aG]
theorem aiy(v:Rat×Rat):pX (atP v)=of v.1:=dD _ _
theorem afS(v:Rat×Rat):pY (atP v)=of v.2:=dD _ _
end RE
end
theorem kY(a b:Rat):(aD a b !=0)=!decide (a=b):=by
 unfold bne;rw[ao]
def Zv:List En:=[⟨99,iy,fi⟩,⟨108,gV,eU⟩,⟨107,iS,fB⟩,⟨106,iE,ff⟩,⟨41,fM,dW⟩,⟨73,mr,iu⟩,enT Er]
def Xb(_k:KT):OLR:=og (decide (aH (0:Int))) (some [RV.d tR (hid (aj ((0:Int):Rat)))])
def agz:Cn 227 []:=cn<|lf True [.d tR (aj 0)] fun _=>by
 refine aA Zv (Xb) ⟨0,?_⟩;unfold Xb;rw[dT (show aH 0 by decide)];simp only[bJ];rfl
def JI:List En:=enL agz::Zv
def YE(v:BV)(_k:KT):OLR:=some [RV.d tP (v.1,(hid (aj 0),(v.2,(hid (aj 0),hid (aj 0)))))]
def HY:Cn 115 [tV]:=cn fun(v:BV)=>lf (ok (Rat×Rat) 100000 v) [.d tP (enc (atP (dec v)))] fun h=>by
 refine aA JI (YE v) ⟨0,?_⟩;have hv:=h;obtain⟨v,rfl,bv⟩:=aB hv;unfold YE;simp only[aO];try rfl
def aah(p:BP)(_k:KT):OLR:=og (o1 p.2.1) (match(aD (ae p.2.1) 0)==0 with|true=>(og (o1 p.2.2.2.1) (match(aD (ae p.2.2.2.1) 0)==0 with|true=>some [RV.d tP (p.1,(p.2.1,(p.2.2.1,(p.2.2.2.1,hid (aj 0)))))]|false=>some [RV.d tP p]))|false=>some [RV.d tP p])
def ajY:Cn 306 [tP]:=cn fun(p:BP)=>lf (ok Pt 21000 p) [.d tP (enc (rdP (dec p)))] fun h=>by
 refine aA JI (aah p) ⟨0,?_⟩;have hp:=h;obtain⟨p,rfl,bp⟩:=aB hp;unfold aah;simp only[aO,Nat.reduceLeDiff,ao];unfold rdP;by_cases h1:p.2.1=0
 ·by_cases h2:p.2.2.2.1=0
  ·rw[am5 h1,am5 h2];rfl
  ·rw[am5 h1,am7 h2];rfl
 ·rw[am7 h1];rfl
def Zw(a b c:BR)(_k:KT):OLR:=og (o1 b) (match(aD (ae b) 0)==0 with|true=>some [RV.d tO (a,(b,hid (aj 0)))]|false=>some [RV.d tO (a,(b,c))])
def ae4:Cn 211 [tR,tR,tR]:=cn fun(a b c:BR)=>lf (okR a∧okR b∧okR c) [.d tO (enc (coR (ae a) (ae b) (ae c)))] fun h=>by
 refine aA JI (Zw a b c) ⟨0,?_⟩;obtain⟨ha,hb,hc⟩:=h;obtain⟨a,rfl,ba⟩:=fe ha;obtain⟨b,rfl,bb⟩:=fe hb;obtain⟨c,rfl,bc⟩:=fe hc;unfold Zw;simp only[aO,Nat.reduceLeDiff,ao];unfold coR;by_cases e:b=0
 ·subst e;rw[am5 rfl];rfl
 ·rw[am7 e];rfl
def Ea:List En:=enL HY::enL ajY::enL ae4::JI
def Zp(x y:BO3)(_k:KT):OLR:=og (o1 x.2.1) (match(aD (ae x.2.1) 0)==0 with|true=>(og (decide (ok Pt 21000 (x.1,(x.2.1,y)))) (some [RV.d tP (hid (enc (rdP (dec (x.1,(x.2.1,y)))))),RV.d aqt 0]))|false=>(og (o1 y.2.1) (match(aD (ae y.2.1) 0) !=0 with|true=>(og (o2 x.2.2 y.2.2) (match(aD (ae x.2.2) (ae y.2.2)) !=0 with|true=>some [RV.d tP (((false,[]),(false,[])),(((false,[]),(false,[])),(((false,[]),(false,[])),(((false,[]),(false,[])),((false,[]),(false,[])))))),RV.d aqt 1]|false=>(og (decide (ok Pt 21000 (x.1,(x.2.1,(y.1,(y.2.1,x.2.2)))))) (some [RV.d tP (hid (enc (rdP (dec (x.1,(x.2.1,(y.1,(y.2.1,x.2.2)))))))),RV.d aqt 0]))))|false=>(og (decide (ok Pt 21000 (x.1,(x.2.1,(y.1,(y.2.1,x.2.2)))))) (some [RV.d tP (hid (enc (rdP (dec (x.1,(x.2.1,(y.1,(y.2.1,x.2.2)))))))),RV.d aqt 0])))))
def Xv:Cn 220 [tO,tO]:=cn fun(x y:BO3)=>lf (okT 15000 x∧okT 15000 y∧t5 (dec x) (dec y)) [.d tP (enc (mkP (dec x) (dec y))),.d aqt 0] fun h=>by
 refine aA Ea (Zp x y) ⟨0,?_⟩;obtain⟨hx,hy,hy_2⟩:=h;obtain⟨x,rfl,bx,rx⟩:=fH hx;obtain⟨y,rfl,b_y,ry⟩:=fH hy;have i1:decide (ok Pt 21000 (enc ((x.1,x.2.1,y):Pt)))=true:=okd (by decide) (by decide);have i2:decide (ok Pt 21000 (enc ((x.1,x.2.1,y.1,y.2.1,x.2.2):Pt)))=true:=okd (by decide) (by decide);have j1:(dec ((aj x.1,aj x.2.1,enc y):BP):Pt)=(x.1,x.2.1,y):=az ((x.1,x.2.1,y):Pt);have j2:(dec ((aj x.1,aj x.2.1,aj y.1,aj y.2.1,aj x.2.2):BP):Pt)=(x.1,x.2.1,y.1,y.2.1,x.2.2):=az ((x.1,x.2.1,y.1,y.2.1,x.2.2):Pt);have i1:decide (ok Pt 21000 ((aj x.1,aj x.2.1,enc y):BP))=true:=i1;have i2:decide (ok Pt 21000 ((aj x.1,aj x.2.1,aj y.1,aj y.2.1,aj x.2.2):BP))=true:=i2;have hm:=hy_2;rw[az,az]at hm;unfold Zp;simp only[aO,Nat.reduceLeDiff,ao,kY,i1,i2,j1,j2];unfold mkP;by_cases e1:x.2.1=0
 ·rw[am5 e1];rfl
 ·rw[am7 e1];by_cases e2:y.2.1=0
  ·rw[am5 e2];rfl
  ·rw[am7 e2,am5 ((hm.resolve_left e1).resolve_left e2)];rfl
def ajt(p:BP)(_k:KT):OLR:=og (decide (okR p.1∧okR p.2.1∧okR p.2.2.2.2)) (some [RV.d tO (hid (enc (coR (ae p.1) (ae p.2.1) (ae p.2.2.2.2))))])
def akk:Cn 282 [tP]:=cn fun(p:BP)=>lf (okP 4000 p) [.d tO (enc (xP (dec p)))] fun h=>by
 refine aA Ea (ajt p) ⟨0,?_⟩;have hp:=h;obtain⟨p,rfl,bp,rp⟩:=aZ hp;unfold ajt;simp only[aO,Nat.reduceLeDiff];try rfl
def agb(p:BP)(_k:KT):OLR:=og (decide (okR p.2.2.1∧okR p.2.2.2.1∧okR p.2.2.2.2)) (some [RV.d tO (hid (enc (coR (ae p.2.2.1) (ae p.2.2.2.1) (ae p.2.2.2.2))))])
def aiC:Cn 283 [tP]:=cn fun(p:BP)=>lf (okP 4000 p) [.d tO (enc (yP (dec p)))] fun h=>by
 refine aA Ea (agb p) ⟨0,?_⟩;have hp:=h;obtain⟨p,rfl,bp,rp⟩:=aZ hp;unfold agb;simp only[aO,Nat.reduceLeDiff];try rfl
def aaL(p:BP)(v:BV)(_k:KT):OLR:=let y1:=hMu (hSu p.1 v.1) (hSu p.1 v.1);let y2:=hMu (hSu p.2.2.1 v.2) (hSu p.2.2.1 v.2);let y3:=hMu p.2.2.2.1 p.2.2.2.1;let y4:=hAd (hMu p.2.1 p.2.1) y3;let y5:=hMu (hSu p.1 v.1) p.2.1;let y6:=hMu (hSu p.2.2.1 v.2) p.2.2.2.1;let y7:=hAd (hAd y1 y2) (hMu y4 p.2.2.2.2);let y8:=hAd (hAd y5 y6) (hAd y5 y6);let y9:OLR:=match decide (okR y5∧okR y6)with|true=>(og (o2 (hAd y5 y6) (hAd y5 y6)) (og (decide (okR y7∧okR y8∧okR p.2.2.2.2)) (some [RV.d tO (hid (enc (coR (ae y7) (ae y8) (ae p.2.2.2.2))))])))|false=>none;let y10:OLR:=match decide (okR (hSu p.2.2.1 v.2)∧okR p.2.2.2.1)with|true=>y9|false=>none;let y11:OLR:=match decide (okR (hAd y1 y2)∧okR (hMu y4 p.2.2.2.2))with|true=>ck (og (o2 (hSu p.1 v.1) p.2.1) (ck (og (o2 (hSu p.2.2.1 v.2) p.2.2.2.1) (dup (.b .l .l) y9)) y10)) (og (o2 (hSu p.1 v.1) p.2.1) y10)|false=>none;let y12:OLR:=match decide (okR y4∧okR p.2.2.2.2)with|true=>y11|false=>none;let y13:OLR:=match decide (okR (hMu p.2.1 p.2.1)∧okR y3)with|true=>y12|false=>none;let y14:OLR:=match decide (okR p.2.2.2.1∧okR p.2.2.2.1)with|true=>y13|false=>none;let y15:OLR:=match decide (okR p.2.1∧okR p.2.1)with|true=>y14|false=>none;let y16:OLR:=match decide (okR y1∧okR y2)with|true=>y15|false=>none;let y17:OLR:=match decide (okR (hSu p.2.2.1 v.2)∧okR (hSu p.2.2.1 v.2))with|true=>y16|false=>none;og (o2 p.1 v.1) (og (o2 p.2.2.1 v.2) (ck (og (o2 (hSu p.1 v.1) (hSu p.1 v.1)) (ck (og (o2 (hSu p.2.2.1 v.2) (hSu p.2.2.1 v.2)) (ck (og (o2 y1 y2) (ck (og (o2 p.2.1 p.2.1) (ck (og (o2 p.2.2.2.1 p.2.2.2.1) (ck (og (o2 (hMu p.2.1 p.2.1) y3) (ck (og (o2 y4 p.2.2.2.2) (dup (.b .l .l) y11)) y12)) y13)) y14)) y15)) y16)) y17)) (og (o2 (hSu p.1 v.1) (hSu p.1 v.1)) y17)))
def Yn:Cn 101 [tP,tV]:=cn fun(p:BP) (v:BV)=>lf (okP 3500 p∧ok (Rat×Rat) 300 v) [.d tO (enc (sqP (dec p) (dec v)))] fun h=>by
 refine aA Ea (aaL p v) ⟨0,?_⟩;obtain⟨hp,hv⟩:=h;obtain⟨p,rfl,bp,rp⟩:=aZ hp;obtain⟨v,rfl,bv⟩:=aB hv;unfold aaL;simp only[aO,Nat.reduceAdd,Nat.reduceLeDiff];rfl
def agk:List En:=enL akk::enL aiC::Ea
def YF(p q:BP)(_k:KT):OLR:=og (decide (okP 4000 p)) (og (decide (okP 4000 q)) (og (decide (okT 15000 (hid (enc (xP (dec p))))∧okT 15000 (hid (enc (xP (dec q)))))) (match(aW (dec (hid (enc (xP (dec p))))) (dec (hid (enc (xP (dec q)))))) !=0 with|true=>some [RV.d aqt (aW (dec (hid (enc (xP (dec p))))) (dec (hid (enc (xP (dec q))))))]|false=>(og (decide (okP 4000 p)) (og (decide (okP 4000 q)) (og (decide (okT 15000 (hid (enc (yP (dec p))))∧okT 15000 (hid (enc (yP (dec q)))))) (some [RV.d aqt (aW (dec (hid (enc (yP (dec p))))) (dec (hid (enc (yP (dec q))))))])))))))
def R7:Cn 189 [tP,tP]:=cn fun(p q:BP)=>lf (okP 4000 p∧okP 4000 q) [.d aqt (aX (dec p) (dec q))] fun h=>by
 refine aA agk (YF p q) ⟨0,?_⟩;obtain⟨hp,hq⟩:=h;obtain⟨p,rfl,bp,rp⟩:=aZ hp;obtain⟨q,rfl,bq,rq⟩:=aZ hq;unfold YF;simp only[aO,Nat.reduceLeDiff,aI,aJ];unfold aX bne;cases aW (xP p) (xP q)==0<;>rfl
section
def ka(l:Ln)(p:Pt):Rat:=l.1*p.1+l.2.1*p.2.2.1-l.2.2
def ke(l:Ln)(p:Pt):Rat:=l.1*p.2.1+l.2.1*p.2.2.2.1
def ud(l:Ln)(p:Pt):Int:=gJ (ka l p) (ke l p) p.2.2.2.2
def ctr(c:Ln):Rat×Rat:=(c.1,c.2.1)
def oN(c:Ln)(p:Pt):Int:= -gJ (sqA p (ctr c)-c.2.2) (sqB p (ctr c)) p.2.2.2.2
def mv(l:Ln)(v:Rat×Rat):Rat:=(l.1*v.1+l.2.1*v.2-l.2.2)/(l.1*l.1+l.2.1*l.2.1)
def dt(l:Ln)(v:Rat×Rat):Rat×Rat:=(v.1-mv l v*l.1,v.2-mv l v*l.2.1)
section
variable {l:Ln} {p:Pt} {v:Rat×Rat} {i j k:Nat}
instance ak9 [h:Bd l i]:Bd (ctr l) (mx i i):=inferInstanceAs (Bd ((l.1,l.2.1):Rat×Rat) _)
instance akG [h:Bd l i] [h':Bd p j]:Bd (ka l p) ((i+j)+(i+j)+1+i+1):=inferInstanceAs (Bd (l.1*p.1+l.2.1*p.2.2.1-l.2.2) _)
instance akB [h:Bd l i] [h':Bd p j]:Bd (ke l p) ((i+j)+(i+j)+1):=inferInstanceAs (Bd (l.1*p.2.1+l.2.1*p.2.2.2.1) _)
instance akE [h:Bd l i] [h':Bd v k]:Bd (mv l v) (((i+k)+(i+k)+1+i+1)+((i+i)+(i+i)+1)):=inferInstanceAs (Bd ((l.1*v.1+l.2.1*v.2-l.2.2)/(l.1*l.1+l.2.1*l.2.1)) _)
instance ain [h:Bd l i] [h':Bd v k]:Bd (dt l v) (8*i+3*k+4):=by
 have i1:Bd (v.1-mv l v*l.1) _:=inferInstance;have i2:Bd (v.2-mv l v*l.2.1) _:=inferInstance;have i3:Bd ((v.1-mv l v*l.1,v.2-mv l v*l.2.1):Rat×Rat) _:=inferInstance;exact i3.mono (cL (by omega) (by omega))
end
theorem lK{a b:Rat}(h:a≠0∨b≠0):a*a+b*b≠0:=by
 have ha:0≤a*a:=by
  rcases(by grind:0≤a∨0≤ -a)with h|h
  ·exact anl h h
  ·have:=anl h h;grind
 have hb:0≤b*b:=by
  rcases(by grind:0≤b∨0≤ -b)with h|h
  ·exact anl h h
  ·have:=anl h h;grind
 intro e;have e1:a*a=0:=by grind
 have e2:b*b=0:=by grind
 rcases h with h|h
 ·exact h (by rcases apk.1 e1 with h|h<;>exact h)
 ·exact h (by rcases apk.1 e2 with h|h<;>exact h)
namespace RE
theorem abA(a b x s y t c r:RE):a*(x+s*r)+b*(y+t*r)+ -c=a*x+b*y-c+(a*s+b*t)*r:=by grind
theorem agF(a b q r:RE):a+b*r+ -q=a-q+b*r:=by grind
theorem RC(a b:RE):a+ -b=a-b:=rfl
theorem Bc(l:Ln){p:Pt}[h:Rpd p]:ud l p=sg (of l.1*pX p+of l.2.1*pY p+ -of l.2.2):=by
 unfold ud pX pY;rw[sgn2_re h.nn];unfold v2;rw[abA];unfold ka ke;simp only[of_add,of_sub,aG]
theorem BA(c:Ln){p:Pt}[h:Rpd p]:oN c p= -sg ((pX p-of c.1)*(pX p-of c.1)+(pY p-of c.2.1)*(pY p-of c.2.1)+ -of c.2.2):=by
 unfold oN;have e:=BK (p:=p) (v:=ctr c);unfold sqP at e;rw[vR_co]at e;rw[sgn2_re h.nn];unfold v2 at e ⊢;rw[of_sub,←agF,e];rfl
theorem sidL_ok(l:Ln){p:Pt}[Rpd p](h:(xe l p).2=true):(xe l p).1=ud l p:=by
 rw[Vk h,Bc];try rfl
theorem insC_ok(c:Ln){p:Pt}[Rpd p](h:(uJ c p).2=true): -(uJ c p).1=oN c p:=by
 rw[UV h,BA];simp only[RC];try rfl
end RE
end
def ik(r s:Rt):Rat:=bif decide (r.2.1=0)then s.2.2 else r.2.2
def rW(r s:Rt):Bool:=decide (r.2.1=0)||(decide (s.2.1=0)||decide (r.2.2=s.2.2))
def iJ(r s:Rt):Rt:=kN (r.1*s.1+r.2.1*s.2.1*ik r s) (r.1*s.2.1+r.2.1*s.1) (ik r s)
def yR(r s:Rt):Rt:=kN (r.1+s.1) (r.2.1+s.2.1) (ik r s)
def arT(r:Rt)(a:Rat):Rt:=(r.1+a,r.2.1,r.2.2)
theorem aS(a b:Rat):(aD a b !=0)=!decide (a=b):=by
 unfold bne;rw[ao]
instance alv {r s:Rt} {i j:Nat} [h:Bd r i] [h':Bd s j]:Bd (ik r s) (mx j i):=inferInstanceAs (Bd (bif decide (r.2.1=0)then s.2.2 else r.2.2) _)
instance akC {a b c:Rat} {i j k:Nat} [ha:Bd a i] [hb:Bd b j] [hc:Bd c k]:Bd (kN a b c) (mx i (mx j k)):=by
 have h1:=A7 i (mx j k);have h2:=Cx i (mx j k);have h3:=A7 j k;have h4:=Cx j k;have h5:=nv ha.le;have z:bdR (mx i (mx j k)) 0:=bK lS.le (by omega);refine⟨?_⟩;unfold kN;cases decide (b=0)
 ·cases decide (c=0)
  ·exact⟨bK ha.le (by omega),bK hb.le (by omega),bK hc.le (by omega)⟩
  ·exact⟨bK ha.le (by omega),z,z⟩
 ·exact⟨bK ha.le (by omega),z,z⟩
theorem J0(r:Rt):rW r r=true:=by
 unfold rW;rw[am5 (rfl:r.2.2=r.2.2)];simp
theorem Ic{p:Pt}{v:Rat×Rat}(h:Rpd p):rW (iJ (xP (trP p (bkV v))) (xP (trP p (bkV v)))) (iJ (yP (trP p (bkV v))) (yP (trP p (bkV v))))=true∧yR (iJ (xP (trP p (bkV v))) (xP (trP p (bkV v)))) (iJ (yP (trP p (bkV v))) (yP (trP p (bkV v))))=sqP p v:=by
 obtain⟨ax,bx,ay,b_,c⟩:=p;have hr:=h.rd;unfold GR at hr;simp only at hr;unfold sqP sqA sqB xP yP trP bkV;simp only;rw[show ax+ -v.1=ax-v.1 by grind,show ay+ -v.2=ay-v.2 by grind];generalize ax-v.1=x;generalize ay-v.2=y;rcases hr with⟨rfl,rfl,rfl⟩|⟨h1,h2,h3⟩
 ·have e0:∀a:Rat,coR a 0 0=(a,0,0):=fun a=>rfl
  have e1:∀a:Rat,iJ (a,0,0) (a,0,0)=(a*a,0,0):=fun a=>by
   unfold iJ ik kN;simp;grind
  rw[e0,e0,e1,e1];refine⟨rfl,?_⟩;rw[show x*0+y*0+(x*0+y*0)=(0:Rat) by grind];unfold yR ik kN coR;simp;grind
 ·have hc:c≠0:=by grind
  have dc:decide (c=0)=false:=am7 hc
  have sq0:∀a:Rat,iJ (coR a 0 c) (coR a 0 c)=(a*a,0,0):=fun a=>by
   unfold coR;rw[am5 rfl];unfold iJ ik kN;simp;grind
  have sq1:∀a b:Rat,b≠0→iJ (coR a b c) (coR a b c)=coR (a*a+b*b*c) (a*b+b*a) c:=fun a b hb=>by
   have e:coR a b c=(a,b,c):=by unfold coR;rw[am7 hb];rfl
   rw[e];unfold iJ ik kN coR;simp only[am7 hb,cond_false,dc]
  have cR:∀a b:Rat,kN a b c=coR a b c:=fun a b=>by unfold kN coR;rw[dc];rfl
  have ad:∀a b d e:Rat,rW (coR a b c) (coR d e c)=true∧(b≠0∨e≠0→yR (coR a b c) (coR d e c)=coR (a+d) (b+e) c)∧(b=0→e=0→yR (coR a b c) (coR d e c)=(a+d,0,0)):=fun a b d e=>by
   by_cases hb:b=0
   ·subst hb;by_cases he:e=0
    ·subst he;refine⟨rfl,fun h=>by simp at h,fun _ _=>?_⟩;unfold coR yR ik kN;simp
    ·refine⟨rfl,fun _=>?_,fun _ h=>absurd h he⟩;have e1:coR a 0 c=(a,0,0):=rfl;have e2:coR d e c=(d,e,c):=by unfold coR;rw[am7 he];rfl
     rw[e1,e2];show kN (a+d) (0+e) c=_;rw[cR]
   ·have e1:coR a b c=(a,b,c):=by unfold coR;rw[am7 hb];rfl
    by_cases he:e=0
    ·subst he;have e2:coR d 0 c=(d,0,0):=rfl;refine⟨by rw[e1,e2];simp[rW],fun _=>?_,fun h=>absurd h hb⟩;rw[e1,e2];unfold yR ik;simp only[am7 hb,cond_false];rw[cR]
    ·have e2:coR d e c=(d,e,c):=by unfold coR;rw[am7 he];rfl
     refine⟨by rw[e1,e2];simp[rW],fun _=>?_,fun h=>absurd h hb⟩;rw[e1,e2];unfold yR ik;simp only[am7 hb,cond_false];rw[cR]
  have c0:∀a:Rat,((a,0,0):Rt)=coR a 0 c:=fun a=>rfl;by_cases hx:bx=0
  ·subst hx;have hy:b_≠0:=fun e=>h1 ⟨rfl,e⟩;rw[sq0,sq1 _ _ hy,c0];obtain⟨g1,g2,g3⟩:=ad (x*x) 0 (y*y+b_*b_*c) (y*b_+b_*y);refine⟨g1,?_⟩;by_cases he:y*b_+b_*y=0
   ·rw[g3 rfl he,show x*0+y*b_+(x*0+y*b_)=0 by grind];show _=coR _ 0 c;rw[←c0];congr 1;grind
   ·rw[g2 (.inr he)];congr 1<;>grind
  ·by_cases hy:b_=0
   ·subst hy;rw[sq0,sq1 _ _ hx,c0];obtain⟨g1,g2,g3⟩:=ad (x*x+bx*bx*c) (x*bx+bx*x) (y*y) 0;refine⟨g1,?_⟩;by_cases he:x*bx+bx*x=0
    ·rw[g3 he rfl,show x*bx+y*0+(x*bx+y*0)=0 by grind];show _=coR _ 0 c;rw[←c0];congr 1;grind
    ·rw[g2 (.inl he)];congr 1<;>grind
   ·rw[sq1 _ _ hx,sq1 _ _ hy];obtain⟨g1,g2,g3⟩:=ad (x*x+bx*bx*c) (x*bx+bx*x) (y*y+b_*b_*c) (y*b_+b_*y);refine⟨g1,?_⟩;by_cases h0:x*bx+bx*x=0∧y*b_+b_*y=0
    ·rw[g3 h0.1 h0.2,show x*bx+y*b_+(x*bx+y*b_)=0 by grind];show _=coR _ 0 c;rw[←c0];congr 1;grind
    ·rw[g2 (by by_cases e:x*bx+bx*x=0;exact .inr (fun e'=>h0 ⟨e,e'⟩);exact .inl e)];congr 1<;>grind
theorem Rpd.com{p:Pt}{v:Rat×Rat}(h:Rpd p):rW (iJ (xP (trP p (bkV v))) (xP (trP p (bkV v)))) (iJ (yP (trP p (bkV v))) (yP (trP p (bkV v))))=true:=(Ic h).1
instance akz {r s:Rt} {i j:Nat} [h:Bd r i] [h':Bd s j]:Bd (iJ r s) (2*(i+j)+(mx j i)+1):=by
 have m:Bd (ik r s) (mx j i):=inferInstance;have a1:Bd (r.1*s.1+r.2.1*s.2.1*ik r s) _:=inferInstance;have a2:Bd (r.1*s.2.1+r.2.1*s.1) _:=inferInstance;have i1:Bd (kN (r.1*s.1+r.2.1*s.2.1*ik r s) (r.1*s.2.1+r.2.1*s.1) (ik r s)) _:=inferInstance;exact i1.mono (cL (by omega) (cL (by omega) (by omega)))
instance akA {r s:Rt} {i j:Nat} [h:Bd r i] [h':Bd s j]:Bd (yR r s) (i+j+1):=by
 have i1:Bd (kN (r.1+s.1) (r.2.1+s.2.1) (ik r s)) _:=inferInstance;exact i1.mono (cL (by omega) (cL (by omega) (cL (by omega) (by omega))))
instance amg {r:Rt} {a:Rat} {i j:Nat} [h:Bd r i] [h':Bd a j]:Bd (arT r a) (i+j+1):=by
 have i1:Bd ((r.1+a,r.2.1,r.2.2):Rt) _:=inferInstance;exact i1.mono (cL (by omega) (cL (by omega) (by omega)))
def z5:List En:=[enT iY,enL lj,enL lY,enL mh,enT qf,enL pI,enL RR,enL Ff,enL LQ,enT Cm,enT Bn]
def Pi(r s:BO3)(_k:KT):OLR:=og (o1 r.2.1) (match(aD (ae r.2.1) 0)==0 with|true=>some [RV.d tR s.2.2,RV.d .bool true]|false=>(og (o1 s.2.1) (match(aD (ae s.2.1) 0)==0 with|true=>some [RV.d tR r.2.2,RV.d .bool true]|false=>(og (o2 r.2.2 s.2.2) (some [RV.d tR r.2.2,RV.d .bool ((aD (ae r.2.2) (ae s.2.2))==0)])))))
def abG:Cn 312 [tO,tO]:=cn fun(r s:BO3)=>lf (ok Rt 100000 r∧ok Rt 100000 s) [.d tR (aj (ik (dec r) (dec s))),.d .bool (rW (dec r) (dec s))] fun h=>by
 refine aA z5 (Pi r s) ⟨0,?_⟩;obtain⟨hr,hs⟩:=h;obtain⟨r,rfl,br⟩:=aB hr;obtain⟨s,rfl,bs⟩:=aB hs;unfold Pi;simp only[aO,Nat.reduceLeDiff,ao];unfold ik rW;cases decide (r.2.1=0)<;>cases decide (s.2.1=0)<;>rfl
def Qe(r:BO3)(a:BR)(_k:KT):OLR:=og (o2 r.1 a) (some [RV.d tO (hAd r.1 a,r.2)])
def Qv:Cn 349 [tO,tR]:=cn fun(r:BO3) (a:BR)=>lf (ok Rt 100000 r∧ok Rat 100000 a) [.d tO (enc (arT (dec r) (ae a)))] fun h=>by
 refine aA z5 (Qe r a) ⟨0,?_⟩;obtain⟨hr,ha⟩:=h;obtain⟨r,rfl,br⟩:=aB hr;obtain⟨a,rfl,ba⟩:=aB ha;unfold Qe;simp only[aO,Nat.reduceLeDiff];rfl
def RJ(_k:KT):OLR:=og (decide (aH (0:Int))) (some [RV.d tR (hid (aj ((0:Int):Rat)))])
def aeC:Cn 239 []:=cn<|lf True [.d tR (aj 0)] fun _=>by
 refine aA z5 (RJ) ⟨0,?_⟩;unfold RJ;rw[dT (show aH 0 by decide)];simp only[bJ];rfl
def QP(p:BP)(v:BV)(_k:KT):OLR:=og (o2 p.1 v.1) (og (o2 p.2.2.1 v.2) (some [RV.d tP (hAd p.1 v.1,(p.2.1,(hAd p.2.2.1 v.2,p.2.2.2)))]))
def HA:Cn 52 [tP,tV]:=cn fun(p:BP) (v:BV)=>lf (ok Pt 21000 p∧ok (Rat×Rat) 1000 v) [.d tP (enc (trP (dec p) (dec v)))] fun h=>by
 refine aA z5 (QP p v) ⟨0,?_⟩;obtain⟨hp,hv⟩:=h;obtain⟨p,rfl,bp⟩:=aB hp;obtain⟨v,rfl,bv⟩:=aB hv;unfold QP;simp only[aO,Nat.reduceLeDiff];rfl
def Oz(v:BV)(_k:KT):OLR:=og (o1 v.1) (og (o1 v.2) (some [RV.d tV (hNe v.1,hNe v.2)]))
def Fv:Cn 235 [tV]:=cn fun(v:BV)=>lf (ok (Rat×Rat) 21000 v) [.d tV (enc (bkV (dec v)))] fun h=>by
 refine aA z5 (Oz v) ⟨0,?_⟩;have hv:=h;obtain⟨v,rfl,bv⟩:=aB hv;unfold Oz;simp only[aO,Nat.reduceLeDiff];rfl
def Ph:List En:=enL abG::enL Qv::enL aeC::enL HA::enL Fv::z5
def Pc(r s:BO3)(_k:KT):OLR:=og (decide (ok Rt 100000 r∧ok Rt 100000 s)) (match !(rW (dec r) (dec s))with|true=>some [RV.d tO (((false,[]),(false,[])),(((false,[]),(false,[])),((false,[]),(false,[])))),RV.d aqt 1]|false=>(og (o2 r.1 s.1) (og (o2 r.2.1 s.2.1) (og (o2 (hMu r.2.1 s.2.1) (hid (aj (ik (dec r) (dec s))))) (og (o2 (hMu r.1 s.1) (hMu (hMu r.2.1 s.2.1) (hid (aj (ik (dec r) (dec s)))))) (og (o2 r.1 s.2.1) (og (o2 r.2.1 s.1) (og (o2 (hMu r.1 s.2.1) (hMu r.2.1 s.1)) (og (decide (okR (hAd (hMu r.1 s.1) (hMu (hMu r.2.1 s.2.1) (hid (aj (ik (dec r) (dec s))))))∧okR (hAd (hMu r.1 s.2.1) (hMu r.2.1 s.1))∧okR (hid (aj (ik (dec r) (dec s)))))) (some [RV.d tO (hid (enc (kN (ae (hAd (hMu r.1 s.1) (hMu (hMu r.2.1 s.2.1) (hid (aj (ik (dec r) (dec s))))))) (ae (hAd (hMu r.1 s.2.1) (hMu r.2.1 s.1))) (ae (hid (aj (ik (dec r) (dec s)))))))),RV.d aqt 0]))))))))))
def Lv:Cn 237 [tO,tO]:=cn fun(r s:BO3)=>lf (ok Rt 50000 r∧ok Rt 50000 s∧rW (dec r) (dec s)=true) [.d tO (enc (iJ (dec r) (dec s))),.d aqt 0] fun h=>by
 refine aA Ph (Pc r s) ⟨0,?_⟩;obtain⟨hr,hs,htrue⟩:=h;obtain⟨r,rfl,br⟩:=aB hr;obtain⟨s,rfl,bs⟩:=aB hs;have hm:=htrue;rw[az,az]at hm;unfold Pc;simp only[aO,Nat.reduceAdd,Nat.reduceLeDiff,hm,Bool.not_true];rfl
def RG(r s:BO3)(_k:KT):OLR:=og (decide (ok Rt 100000 r∧ok Rt 100000 s)) (match !(rW (dec r) (dec s))with|true=>some [RV.d tO (((false,[]),(false,[])),(((false,[]),(false,[])),((false,[]),(false,[])))),RV.d aqt 1]|false=>(og (o2 r.1 s.1) (og (o2 r.2.1 s.2.1) (og (decide (okR (hAd r.1 s.1)∧okR (hAd r.2.1 s.2.1)∧okR (hid (aj (ik (dec r) (dec s)))))) (some [RV.d tO (hid (enc (kN (ae (hAd r.1 s.1)) (ae (hAd r.2.1 s.2.1)) (ae (hid (aj (ik (dec r) (dec s)))))))),RV.d aqt 0])))))
def adI:Cn 241 [tO,tO]:=cn fun(r s:BO3)=>lf (ok Rt 100000 r∧ok Rt 100000 s∧rW (dec r) (dec s)=true) [.d tO (enc (yR (dec r) (dec s))),.d aqt 0] fun h=>by
 refine aA Ph (RG r s) ⟨0,?_⟩;obtain⟨hr,hs,htrue⟩:=h;obtain⟨r,rfl,br⟩:=aB hr;obtain⟨s,rfl,bs⟩:=aB hs;have hm:=htrue;rw[az,az]at hm;unfold RG;simp only[aO,Nat.reduceAdd,Nat.reduceLeDiff,hm,Bool.not_true];rfl
def Eb:List En:=enL Lv::enL adI::Ph
def Oi(r:BO3)(_k:KT):OLR:=og (decide (ok Rt 50000 r∧ok Rt 50000 r∧rW (dec r) (dec r)=true)) (some [RV.d tO (hid (enc (iJ (dec r) (dec r))))])
def R8:Cn 123 [tO]:=cn fun(r:BO3)=>lf (ok Rt 50000 r) [.d tO (enc (iJ (dec r) (dec r)))] fun h=>by
 refine aA Eb (Oi r) ⟨0,?_⟩;have hr:=h;obtain⟨r,rfl,br⟩:=aB hr;unfold Oi;simp only[aO,Nat.reduceLeDiff,J0]
def Qi(v:BV)(_k:KT):OLR:=some [RV.d tP (v.1,(hid (aj 0),(v.2,(hid (aj 0),hid (aj 0)))))]
def vk:Cn 127 [tV]:=cn fun(v:BV)=>lf (ok (Rat×Rat) 100000 v) [.d tP (enc (atP (dec v)))] fun h=>by
 refine aA Eb (Qi v) ⟨0,?_⟩;have hv:=h;obtain⟨v,rfl,bv⟩:=aB hv;unfold Qi;simp only[aO];try rfl
def Np(a b c d e:BR)(_k:KT):OLR:=og (o1 b) (match(aD (ae b) 0)==0 with|true=>(og (o1 d) (match(aD (ae d) 0)==0 with|true=>some [RV.d tP (a,(b,(c,(d,hid (aj 0)))))]|false=>some [RV.d tP (a,(b,(c,(d,e))))]))|false=>some [RV.d tP (a,(b,(c,(d,e))))])
def adj:Cn 346 [tR,tR,tR,tR,tR]:=cn fun(a b c d e:BR)=>lf (okR a∧okR b∧okR c∧okR d∧okR e) [.d tP (enc (rdP (ae a,ae b,ae c,ae d,ae e)))] fun h=>by
 refine aA Eb (Np a b c d e) ⟨0,?_⟩;obtain⟨ha,hb,hc,hd,he⟩:=h;obtain⟨a,rfl,ba⟩:=fe ha;obtain⟨b,rfl,bb⟩:=fe hb;obtain⟨c,rfl,bc⟩:=fe hc;obtain⟨d,rfl,bd⟩:=fe hd;obtain⟨e,rfl,be⟩:=fe he;unfold Np;simp only[aO,Nat.reduceLeDiff,ao];unfold rdP;by_cases h1:b=0
 ·by_cases h2:d=0
  ·rw[am5 h1,am5 h2];rfl
  ·rw[am5 h1,am7 h2];rfl
 ·rw[am7 h1];rfl
def Qn(a b c:BR)(_k:KT):OLR:=og (o1 b) (match(aD (ae b) 0)==0 with|true=>(og (o1 a) (some [RV.d tO (hid (enc ((ae a,0,0):Rt)))]))|false=>some [RV.d tO (a,(b,c))])
def aby:Cn 260 [tR,tR,tR]:=cn fun(a b c:BR)=>lf (okR a∧okR b∧okR c) [.d tO (enc (coR (ae a) (ae b) (ae c)))] fun h=>by
 refine aA Eb (Qn a b c) ⟨0,?_⟩;obtain⟨ha,hb,hc⟩:=h;obtain⟨a,rfl,ba⟩:=fe ha;obtain⟨b,rfl,bb⟩:=fe hb;obtain⟨c,rfl,bc⟩:=fe hc;unfold Qn;simp only[aO,aC,Nat.reduceLeDiff,ao];unfold coR;by_cases e:b=0
 ·subst e;rw[am5 rfl];rfl
 ·rw[am7 e];rfl
def JU:List En:=enL R8::enL vk::enL adj::enL aby::Eb
def M4(x y:BO3)(_k:KT):OLR:=let y1:=aD (ae x.2.1) 0;let y2:OLR:=match decide (okR x.2.1)with|true=>(match y1==0 with|true=>(og (decide (okR x.1∧okR x.2.1∧okR y.1∧okR y.2.1∧okR y.2.2)) (some [RV.d tP (hid (enc (rdP (ae x.1,ae x.2.1,ae y.1,ae y.2.1,ae y.2.2)))),RV.d aqt 0]))|false=>(og (decide (okR x.1∧okR x.2.1∧okR y.1∧okR y.2.1∧okR x.2.2)) (some [RV.d tP (hid (enc (rdP (ae x.1,ae x.2.1,ae y.1,ae y.2.1,ae x.2.2)))),RV.d aqt 0])))|false=>none;og (o1 x.2.1) (match y1 !=0 with|true=>(og (o1 y.2.1) (match(aD (ae y.2.1) 0) !=0 with|true=>(og (o2 x.2.2 y.2.2) (match(aD (ae x.2.2) (ae y.2.2)) !=0 with|true=>some [RV.d tP (((false,[]),(false,[])),(((false,[]),(false,[])),(((false,[]),(false,[])),(((false,[]),(false,[])),((false,[]),(false,[])))))),RV.d aqt 1]|false=>y2))|false=>y2))|false=>y2)
def Gz:Cn 315 [tO,tO]:=cn fun(x y:BO3)=>lf (okT 15000 x∧okT 15000 y∧t5 (dec x) (dec y)) [.d tP (enc (mkP (dec x) (dec y))),.d aqt 0] fun h=>by
 refine aA JU (M4 x y) ⟨0,?_⟩;obtain⟨hx,hy,hy_2⟩:=h;obtain⟨x,rfl,bx,rx⟩:=fH hx;obtain⟨y,rfl,b_y,ry⟩:=fH hy;have hm:=hy_2;rw[az,az]at hm;unfold M4;simp only[aO,Nat.reduceLeDiff,ao,aS];unfold mkP;by_cases e1:x.2.1=0
 ·rw[am5 e1];rfl
 ·rw[am7 e1];by_cases e2:y.2.1=0
  ·rw[am5 e2];rfl
  ·rw[am7 e2,am5 ((hm.resolve_left e1).resolve_left e2)];rfl
def ZG(p:BP)(_k:KT):OLR:=og (decide (okR p.1∧okR p.2.1∧okR p.2.2.2.2)) (some [RV.d tO (hid (enc (coR (ae p.1) (ae p.2.1) (ae p.2.2.2.2))))])
def WW:Cn 151 [tP]:=cn fun(p:BP)=>lf (okP 4000 p) [.d tO (enc (xP (dec p)))] fun h=>by
 refine aA JU (ZG p) ⟨0,?_⟩;have hp:=h;obtain⟨p,rfl,bp,rp⟩:=aZ hp;unfold ZG;simp only[aO,Nat.reduceLeDiff];try rfl
def aaO(p:BP)(_k:KT):OLR:=og (decide (okR p.2.2.1∧okR p.2.2.2.1∧okR p.2.2.2.2)) (some [RV.d tO (hid (enc (coR (ae p.2.2.1) (ae p.2.2.2.1) (ae p.2.2.2.2))))])
def WM:Cn 152 [tP]:=cn fun(p:BP)=>lf (okP 4000 p) [.d tO (enc (yP (dec p)))] fun h=>by
 refine aA JU (aaO p) ⟨0,?_⟩;have hp:=h;obtain⟨p,rfl,bp,rp⟩:=aZ hp;unfold aaO;simp only[aO,Nat.reduceLeDiff];try rfl
def XT:List En:=enL WW::enL WM::JU
def Qy(p q:BP)(_k:KT):OLR:=og (decide (okP 4000 p)) (og (decide (okP 4000 q)) (og (decide (okT 15000 (hid (enc (xP (dec p))))∧okT 15000 (hid (enc (xP (dec q)))))) (match(aW (dec (hid (enc (xP (dec p))))) (dec (hid (enc (xP (dec q)))))) !=0 with|true=>some [RV.d aqt (aW (dec (hid (enc (xP (dec p))))) (dec (hid (enc (xP (dec q))))))]|false=>(og (decide (okP 4000 p)) (og (decide (okP 4000 q)) (og (decide (okT 15000 (hid (enc (yP (dec p))))∧okT 15000 (hid (enc (yP (dec q)))))) (some [RV.d aqt (aW (dec (hid (enc (yP (dec p))))) (dec (hid (enc (yP (dec q))))))])))))))
def Au:Cn 60 [tP,tP]:=cn fun(p q:BP)=>lf (okP 4000 p∧okP 4000 q) [.d aqt (aX (dec p) (dec q))] fun h=>by
 refine aA XT (Qy p q) ⟨0,?_⟩;obtain⟨hp,hq⟩:=h;obtain⟨p,rfl,bp,rp⟩:=aZ hp;obtain⟨q,rfl,bq,rq⟩:=aZ hq;unfold Qy;simp only[aO,Nat.reduceLeDiff,aI,aJ];unfold aX bne;cases aW (xP p) (xP q)==0<;>rfl
def ZU:List En:=enL Gz::enT Au::XT
def OP(p q:BP)(_k:KT):OLR:=og (decide (okP 4000 p∧okP 4000 q)) (some [RV.d .bool ((aX (dec p) (dec q))==0)])
def P6:Cn 126 [tP,tP]:=cn fun(p q:BP)=>lf (okP 4000 p∧okP 4000 q) [.d .bool (aX (dec p) (dec q)==0)] fun h=>by
 refine aA ZU (OP p q) ⟨0,?_⟩;unfold OP;rw[dT h]
def N6(p:BP)(v:BV)(_k:KT):OLR:=let y1:=hid (enc (bkV (dec v)));let y2:=hid (enc (trP (dec p) (dec y1)));let y3:=hid (enc (xP (dec y2)));let y4:=hid (enc (yP (dec y2)));let y5:=hid (enc (iJ (dec y3) (dec y3)));let y6:=hid (enc (iJ (dec y4) (dec y4)));og (decide (ok (Rat×Rat) 21000 v)) (og (decide (ok Pt 21000 p∧ok (Rat×Rat) 1000 y1)) (og (decide (okP 4000 y2)) (og (decide (ok Rt 50000 y3)) (og (decide (okP 4000 y2)) (og (decide (ok Rt 50000 y4)) (og (decide (ok Rt 100000 y5∧ok Rt 100000 y6∧rW (dec y5) (dec y6)=true)) (some [RV.d tO (hid (enc (yR (dec y5) (dec y6))))])))))))
def Fx:Cn 129 [tP,tV]:=cn fun(p:BP) (v:BV)=>lf (okP 3500 p∧ok (Rat×Rat) 300 v) [.d tO (enc (sqP (dec p) (dec v)))] fun h=>by
 refine aA ZU (N6 p v) ⟨0,?_⟩;obtain⟨hp,hv⟩:=h;obtain⟨p,rfl,bp,rp⟩:=aZ hp;obtain⟨v,rfl,bv⟩:=aB hv;obtain⟨e1,e2⟩:=Ic (v:=v) rp;unfold N6;simp only[aO,Nat.reduceAdd,Nat.reduceMul,Nat.reduceLeDiff,aJ,e1];rw[e2]
end Go.Proofs.YtnkndpoojnflmaaGreat
end
