/- Intervals: the contracts of products, roots and sides. -/
import Derived.Test.YtagbmoohboleaaaGreatL11
import Derived.Test.YtagbmoohboleaaaGreatL1
import Derived.Lib.LazyBuf
import Derived.Test.YtagbmoohboleaaaGreatL6
import Derived.Test.YtagbmoohboleaaaGreatL10
noncomputable section
namespace Go.Proofs.YtagbmoohboleaaaGreat
open Go.RowKit Go.IntKind
theorem ah4:type_of% @Rat.mul_eq_zero:=@Rat.mul_eq_zero
theorem K5{z:Int}(h:a9 z):okI (ai z):=aR (by have:=jI h;omega)
theorem Gp{n:Int}(h:Dg n):0<=eg n/\eg n<=2305843009213693952:=by
 obtain⟨h0,h1⟩:=h;unfold eg;obtain⟨g0,g1,g2⟩:=fK (z:=n*65536) (by omega);refine⟨g0,?_⟩;rcases afT 2305843009213693952 (bJ (n*65536))with h|h
 ·have:2305843009213693952*2305843009213693952<=bJ (n*65536)*bJ (n*65536):=ahw (by omega) (by omega) (by omega) (by omega);omega
 ·exact h
theorem Kz{a b:Iv}(ha:prI a)(hb:prI b){x y:Int}(hx:x=a.1\/x=a.2)(hy:y=b.1\/y=b.2):scP x y:=by
 obtain⟨a1,a2,a3⟩:=ha;obtain⟨b1,b2,b3⟩:=hb;constructor
 ·rcases hx with rfl|rfl<;>omega
 ·rcases hy with rfl|rfl<;>omega
theorem ad0{α:Type}(b:Bool)(x y:α):(match b with|true=>x|false=>y)=bif b then x else y:=by cases b<;>rfl
def OH:dK:=spN false true [aiy] (λx=>decide (a9 x.1)) (λx=>[RV.d tI (hid (ai x.1))])
theorem Jy:SpK 223 OH:=spX λx h=>by simp only[bL];exact Ii x.1 (afp h)
def Hx:List En:=[⟨125,ju,fq⟩,⟨67,jC,fI⟩,⟨133,qO,l4⟩,enL OS,enT Vl,⟨228,ED,Dn⟩,⟨54,jA,fH⟩,⟨164,Fz,C2⟩,enL UZ,⟨163,FY,CL⟩,⟨223,OH,Jy⟩,enL JU,enL Lg,enL M1,enL LH,enA Jx,enA Ke,enL Uw]
def Yi:NT:=[((308,8),{keep:=[3,4,6,7,19,20,21],hl:=4}),((308,22),{keep:=[3,4,6,7,9,19,20,21,29,30,31],hl:=5})]
def oM:Ctx:=CX (ens Hx) Yi
def qq(a b:(Int×Int))(s21 s6 s7:Int):Cfg:=⟨308,[.blk 0,.seq 46],[(3,.box 1 0),(4,.box 2 0),(6,SI s6),(7,SI s7),(19,.own 3),(20,SI (([a.1,a.2]).length:Int)),(21,SI s21)],[.box 232 [SI a.1,SI a.2],.box 232 [SI b.1,SI b.2],.box 232 [SI 0,SI 0],.row 2 aiy ([a.1,a.2])],0,[]⟩
def oU(a b:(Int×Int))(s21 x1 s6 s7 s31:Int):Cfg:=⟨308,[.blk 2,.blk 1,.seq 45,.lp 8,.blk 0,.seq 46],[(3,.box 1 0),(4,.box 2 0),(6,SI s6),(7,SI s7),(9,SI x1),(19,.own 3),(20,SI (([a.1,a.2]).length:Int)),(21,SI s21),(29,.own 4),(30,SI (([b.1,b.2]).length:Int)),(31,SI s31)],[.box 232 [SI a.1,SI a.2],.box 232 [SI b.1,SI b.2],.box 232 [SI 0,SI 0],.row 2 aiy ([a.1,a.2]),.row 2 aiy ([b.1,b.2])],0,[]⟩
def aam(a b:(Int×Int))(k:KT):OLR:=k 8 (qq a b 0 2305843009213693952 (-2305843009213693952))
theorem adN(a b:(Int×Int)):RS oM 308 [.d tG a,.d tG b] (aam a b):=rsX
def xJ(a b:(Int×Int))(s21 s6 s7:Int)(k:KT):OLR:=match decide (s21<(([a.1,a.2]).length:Int))with|true=>(match aG ([a.1,a.2]) s21 with|some _=>(match true,([a.1,a.2])[(s21).toNat]? with|true,some x1=>k 22 (oU a b s21 x1 s6 s7 0)|_,_=>none)|none=>none)|false=>some [RV.d tG (s6,s7),RV.d .bool true]
theorem Dp(a b:(Int×Int))(s21 s6 s7:Int):RN oM 8 (qq a b s21 s6 s7) (xJ a b s21 s6 s7):=rnX
def pc(a b:(Int×Int))(s21 x1 s6 s7 s31:Int)(k:KT):OLR:=match decide (s31<(([b.1,b.2]).length:Int))with|true=>(match aG ([b.1,b.2]) s31 with|some _=>(match true,([b.1,b.2])[(s31).toNat]? with|true,some x2=>(og (decide (scP x1 x2)) (match !((scF x1 x2).2)with|true=>some [RV.d tG (0,0),RV.d .bool false]|false=>k 22 (oU a b s21 x1 (if(scF x1 x2).1.1<s6 then(scF x1 x2).1.1 else s6) (if(scF x1 x2).1.2>s7 then(scF x1 x2).1.2 else s7) (i64.wrap (s31+1)))))|_,_=>none)|none=>none)|false=>k 8 (qq a b (i64.wrap (s21+1)) s6 s7)
theorem th(a b:(Int×Int))(s21 x1 s6 s7 s31:Int):RN oM 22 (oU a b s21 x1 s6 s7 s31) (pc a b s21 x1 s6 s7 s31):=rnX
theorem Mi(a b:Iv)(ha:prI a)(hb:prI b)(s21 x:Int)(hx:x=a.1\/x=a.2)(s:Iv)(r:List RV)(h:∀s2:Iv×Bool,s2=ie (ie (s,true) x b.1) x b.2->bif s2.2 then oM.Runs 8 (qq a b (i64.wrap (s21+1)) s2.1.1 s2.1.2) r else r=[RV.d tG (0,0),RV.d .bool false]):
  oM.Runs 22 (oU a b s21 x s.1 s.2 0) r:=by
 have h:=h _ rfl;refine th _ _ _ _ _ _ _ ?_;unfold pc;have g1:decide ((0:Int)<(([b.1,b.2]).length:Int))=true:=by simp
 have g2:decide ((1:Int)<(([b.1,b.2]).length:Int))=true:=by simp
 have g3:decide ((2:Int)<(([b.1,b.2]).length:Int))=false:=by simp
 rw[g1];simp only[show aG [b.1,b.2] 0=some b.1 from rfl,show [b.1,b.2][(0:Int).toNat]?=some b.1 from rfl,dT (Kz ha hb hx (.inl rfl))];cases e1:(scF x b.1).2
 ·rw[show ie (ie (s,true) x b.1) x b.2=(iv0,false) by unfold ie;rw[e1];rfl]at h;exact⟨0,by rw[h];rfl⟩
 ·try dsimp only[Bool.not_true]
  have e0:ie (s,true) x b.1=((if(scF x b.1).1.1<s.1 then(scF x b.1).1.1 else s.1,if(scF x b.1).1.2>s.2 then(scF x b.1).1.2 else s.2),true):=by unfold ie;rw[e1];rfl
  rw[e0]at h
  suffices hh:oM.Runs 22 (oU a b s21 x (if(scF x b.1).1.1<s.1 then(scF x b.1).1.1 else s.1) (if(scF x b.1).1.2>s.2 then(scF x b.1).1.2 else s.2) (i64.wrap (0+1))) r by
   obtain⟨n,hn⟩:=hh;exact⟨n,hn⟩
  rw[show i64.wrap (0+1)=1 by decide];refine th _ _ _ _ _ _ _ ?_;unfold pc;rw[g2];simp only[show aG [b.1,b.2] 1=some b.2 from rfl,show [b.1,b.2][(1:Int).toNat]?=some b.2 from rfl,dT (Kz ha hb hx (.inr rfl))];cases e2:(scF x b.2).2
  ·unfold ie at h;rw[e2]at h;exact⟨0,by rw[show r=[RV.d tG (0,0),RV.d .bool false] from h];rfl⟩
  ·try dsimp only[Bool.not_true]
   unfold ie at h;rw[e2]at h;simp only[agT,cond_true]at h
   suffices hh:oM.Runs 22 (oU a b s21 x _ _ (i64.wrap (1+1))) r by
    obtain⟨n,hn⟩:=hh;exact⟨n,hn⟩
   rw[show i64.wrap (1+1)=2 by decide];refine th _ _ _ _ _ _ _ ?_;unfold pc;rw[g3];obtain⟨n,hn⟩:=h;exact⟨n,hn⟩
theorem GI(a b:Iv)(ha:prI a)(hb:prI b)(x i:Int)(hi:(i=0/\x=a.1)\/(i=1/\x=a.2))(s:Iv)(r:List RV)(h:∀s2:Iv×Bool,s2=ie (ie (s,true) x b.1) x b.2->bif s2.2 then oM.Runs 8 (qq a b (i+1) s2.1.1 s2.1.2) r else r=[RV.d tG (0,0),RV.d .bool false]):
  oM.Runs 8 (qq a b i s.1 s.2) r:=by
 refine Dp _ _ _ _ _ ?_;unfold xJ;rcases hi with⟨rfl,rfl⟩|⟨rfl,rfl⟩
 ·obtain⟨n,hn⟩:=Mi a b ha hb 0 a.1 (.inl rfl) s r (by rw[show i64.wrap (0+1)=0+1 by decide];exact h);exact⟨n,hn⟩
 ·obtain⟨n,hn⟩:=Mi a b ha hb 1 a.2 (.inr rfl) s r (by rw[show i64.wrap (1+1)=1+1 by decide];exact h);exact⟨n,hn⟩
theorem OP{s:Iv×Bool}{x y:Int}(h:s.2=false):ie s x y=(iv0,false):=by unfold ie;rw[h];rfl
theorem aaL{s:Iv×Bool}(h:s.2=true):s=(s.1,true):=by rw[<-h]
def LP:Cn 308 [tG,tG]:=cn λ(a b:(Int×Int))=>lf (prI a/\prI b) [.d tG ((cD a b).1),.d .bool ((cD a b).2)] λh=>by
 obtain⟨ha,hb⟩:=h;refine dm Hx (show oM.Res _ _ _ from ?_);refine adN _ _ ?_
 suffices hh:oM.Runs 8 (qq a b 0 2305843009213693952 (-2305843009213693952)) [.d tG (cD a b).1,.d .bool (cD a b).2] by
  obtain⟨n,hn⟩:=hh;exact⟨n,hn⟩
 refine GI a b ha hb a.1 0 (.inl ⟨rfl,rfl⟩) (2305843009213693952,-2305843009213693952) _ λs1 e1=>?_;have hm:cD a b=ie (ie s1 a.2 b.1) a.2 b.2:=by rw[e1];rfl
 cases c1:s1.2
 ·rw[hm,OP (OP c1▸rfl)];rfl
 ·rw[cond_true];refine GI a b ha hb a.2 1 (.inr ⟨rfl,rfl⟩) s1.1 _ λs2 e2=>?_;rw[<-aaL c1,<-hm]at e2;cases c2:s2.2
  ·rw[<-e2]
   rw[show s2=(iv0,false) by
    rw[e2,hm];rw[e2,hm]at c2;unfold ie at c2 ⊢;revert c2;cases(_:Bool)&&(scF a.2 b.2).2
    ·intro _;rfl
    ·intro h;cases h]
   rfl
  ·rw[cond_true,<-e2];refine Dp _ _ _ _ _ ⟨0,?_⟩;unfold xJ;rw[show decide ((1+1:Int)<(([a.1,a.2]).length:Int))=false from by simp,c2]
def U7(n:Int)(_k:KT):OLR:=og (decide (a9 n)) (og (decide (a9 (65536:Int))) (og (decide (okI (hid (ai n))/\okI (hid (ai (65536:Int))))) (og (decide (okI (hid (ai (ae (hid (ai n))*ae (hid (ai (65536:Int)))))))) (og (decide (okI (hid (fJ (hid (ai (ae (hid (ai n))*ae (hid (ai (65536:Int)))))))))) (og (decide (okI (hid (fJ (hid (ai (ae (hid (ai n))*ae (hid (ai (65536:Int))))))))/\okI (hid (fJ (hid (ai (ae (hid (ai n))*ae (hid (ai (65536:Int)))))))))) (og (decide (okI (hid (ai (ae (hid (fJ (hid (ai (ae (hid (ai n))*ae (hid (ai (65536:Int))))))))*ae (hid (fJ (hid (ai (ae (hid (ai n))*ae (hid (ai (65536:Int)))))))))))/\okI (hid (ai (ae (hid (ai n))*ae (hid (ai (65536:Int)))))))) (some [RV.d aiy (bif decide (a9 (ae (hid (fJ (hid (ai (ae (hid (ai n))*ae (hid (ai (65536:Int))))))))))then ae (hid (fJ (hid (ai (ae (hid (ai n))*ae (hid (ai (65536:Int))))))))else 0),RV.d .bool ((cq (ae (hid (ai (ae (hid (fJ (hid (ai (ae (hid (ai n))*ae (hid (ai (65536:Int))))))))*ae (hid (fJ (hid (ai (ae (hid (ai n))*ae (hid (ai (65536:Int)))))))))))) (ae (hid (ai (ae (hid (ai n))*ae (hid (ai (65536:Int))))))))==0)])))))))
def aaD:Cn 332 [aiy]:=cn λ(n:Int)=>lf (Dg n) [.d aiy (eg n),.d .bool (decide (eg n*eg n=n*65536))] λh=>by
 refine az Hx (U7 n) ⟨0,?_⟩;have hr:=Gp h;obtain⟨h0,h1⟩:=h;have i1:a9 n:=⟨by omega,by omega⟩
 have i2:a9 65536:=by decide
 have o1:okI (ai (n*65536)):=aR (by have:=cJ (jI i1) (jI i2);omega);have o2:okI (ai (eg n)):=K5 ⟨by omega,by omega⟩;have o3:okI (ai (eg n*eg n)):=aR (by have:=cJ (jI (n:=eg n) ⟨by omega,by omega⟩) (jI (n:=eg n) ⟨by omega,by omega⟩);omega);have o4:okI (ai n)/\okI (ai 65536):=⟨K5 i1,K5 i2⟩
 have o5:okI (ai (eg n))/\okI (ai (eg n)):=⟨o2,o2⟩
 have o6:okI (ai (eg n*eg n))/\okI (ai (n*65536)):=⟨o3,o1⟩
 have o7:a9 (eg n):=⟨by omega,by omega⟩
 unfold U7;simp only[bL,dec_enc,dT i1,dT i2,dT o4,dT o1,Ab o1];have e:bJ (n*65536)=eg n:=rfl;simp only[e,dT o2,dT o5,dT o6,dT o7,cond_true,mf]
def U9:List En:=enL LP::enL aaD::Hx
def S4(a:(Int×Int))(_k:KT):OLR:=match decide (a.2<0)with|true=>some [RV.d tG (0,0),RV.d .bool false]|false=>(og (decide (Dg (if 0>a.1 then 0 else a.1))) (og (decide (Dg a.2)) (match !(decide (eg a.2*eg a.2=a.2*65536))with|true=>some [RV.d tG (hid ((nG (eg (if 0>a.1 then 0 else a.1)) (i64.wrap ((eg a.2)+1))).1)),RV.d .bool ((nG (eg (if 0>a.1 then 0 else a.1)) (i64.wrap ((eg a.2)+1))).2)]|false=>some [RV.d tG (hid ((nG (eg (if 0>a.1 then 0 else a.1)) (eg a.2)).1)),RV.d .bool ((nG (eg (if 0>a.1 then 0 else a.1)) (eg a.2)).2)])))
def V3:Cn 320 [tG]:=cn λ(a:(Int×Int))=>lf (prI a) [.d tG ((sqF a).1),.d .bool ((sqF a).2)] λh=>by
 refine az U9 (S4 a) ⟨0,?_⟩;obtain⟨a1,a2,a3⟩:=h;unfold S4 sqF;cases hn:decide (a.2<0)
 ·have hn:=agn hn;have r2:Dg a.2:=⟨by omega,by omega⟩
  have r1:Dg (if 0>a.1 then 0 else a.1):=⟨by split<;>omega,by split<;>omega⟩
  have b2:=Gp r2;simp only[dT r1,dT r2,bL,aM (x:=eg a.2+1) (by omega) (by omega)];cases decide (eg a.2*eg a.2=a.2*65536)<;>rfl
 ·rfl
def LV:List En:=enL V3::U9
def Vd(r:BO3)(_k:KT):OLR:=og (decide (ok Rat 200000 r.1)) (match !((frF (ah r.1)).2)with|true=>some [RV.d tG (hid ((frF (ah r.1)).1)),RV.d .bool ((frF (ah r.1)).2)]|false=>(og (o1 r.2.1) (match(aE (ah r.2.1) 0)==0 with|true=>some [RV.d tG (hid ((frF (ah r.1)).1)),RV.d .bool ((frF (ah r.1)).2)]|false=>(og (decide (ok Rat 200000 r.2.1)) (og (decide (ok Rat 200000 r.2.2)) (match !((frF (ah r.2.1)).2)with|true=>some [RV.d tG (0,0),RV.d .bool false]|false=>(match !((frF (ah r.2.2)).2)with|true=>some [RV.d tG (0,0),RV.d .bool false]|false=>(og (o1 r.2.2) (match decide ((aE (ah r.2.2) 0)<0)with|true=>some [RV.d tG (0,0),RV.d .bool false]|false=>(og (decide (prI (hid ((frF (ah r.2.2)).1)))) (match !((sqF (hid ((frF (ah r.2.2)).1))).2)with|true=>some [RV.d tG (0,0),RV.d .bool false]|false=>(og (decide (prI (hid ((frF (ah r.2.1)).1))/\prI (hid ((sqF (hid ((frF (ah r.2.2)).1))).1)))) (match !((cD (hid ((frF (ah r.2.1)).1)) (hid ((sqF (hid ((frF (ah r.2.2)).1))).1))).2)with|true=>some [RV.d tG (0,0),RV.d .bool false]|false=>(og (decide (prI (hid ((frF (ah r.1)).1))/\prI (hid ((cD (hid ((frF (ah r.2.1)).1)) (hid ((sqF (hid ((frF (ah r.2.2)).1))).1))).1)))) (some [RV.d tG (hid ((dA (hid ((frF (ah r.1)).1)) (hid ((cD (hid ((frF (ah r.2.1)).1)) (hid ((sqF (hid ((frF (ah r.2.2)).1))).1))).1))).1)),RV.d .bool ((dA (hid ((frF (ah r.1)).1)) (hid ((cD (hid ((frF (ah r.2.1)).1)) (hid ((sqF (hid ((frF (ah r.2.2)).1))).1))).1))).2)])))))))))))))))
def Hg:Cn 312 [tO]:=cn λ(r:BO3)=>lf (ok Rt 100000 r) [.d tG ((bi (dec r)).1),.d .bool ((bi (dec r)).2)] λh=>by
 refine az LV (Vd r) ⟨0,?_⟩;have hr:=h;obtain⟨r,rfl,br⟩:=aH hr;have p1:prI (frF r.1).1:=RE.frF_pr _;have p2:prI (frF r.2.1).1:=RE.frF_pr _;have p3:prI (frF r.2.2).1:=RE.frF_pr _;have p4:prI (sqF (frF r.2.2).1).1:=RE.sqF_pr p3;have p5:prI (cD (frF r.2.1).1 (sqF (frF r.2.2).1).1).1:=rI _ _;unfold Vd;simp only[aW,Nat.reduceLeDiff,aq,au,dT p3,dT (show prI (frF r.2.1).1/\prI (sqF (frF r.2.2).1).1 from⟨p2,p4⟩),dT (show prI (frF r.1).1/\prI (cD (frF r.2.1).1 (sqF (frF r.2.2).1).1).1 from⟨p1,p5⟩)];unfold bi;clear p1 p2 p3 p4 p5;generalize frF r.1=A;generalize frF r.2.1=B;generalize frF r.2.2=C;generalize sqF C.1=S;generalize cD B.1 S.1=M;generalize dA A.1 M.1=U;obtain⟨_,a⟩:=A;obtain⟨_,b⟩:=B;obtain⟨_,c⟩:=C;obtain⟨_,s⟩:=S;obtain⟨_,m⟩:=M;cases a<;>cases decide (r.2.1=0)<;>cases b<;>cases c<;>cases decide (r.2.2<0)<;>cases s<;>cases m<;>rfl
def Vb(a:(Int×Int))(_k:KT):OLR:=match decide (a.1>0)with|true=>some [RV.d aiy 1,RV.d .bool true]|false=>(match decide (a.2<0)with|true=>some [RV.d aiy (-1),RV.d .bool true]|false=>(match a.1==0 with|true=>some [RV.d aiy 0,RV.d .bool (a.2==0)]|false=>some [RV.d aiy 0,RV.d .bool false]))
def Oz:Cn 311 [tG]:=cn λ(a:(Int×Int))=>lf True [.d aiy ((sgF a).1),.d .bool ((sgF a).2)] λ_=>by
 refine az LV (Vb a) ⟨0,?_⟩;unfold Vb sgF;cases decide (a.1>0)<;>cases decide (a.2<0)<;>try rfl
 by_cases e1:a.1=0
 ·rw[afm e1,show(a.1==0)=true by simp[e1]];by_cases e2:a.2=0
  ·rw[afm e2,show(a.2==0)=true by simp[e2]];rfl
  ·rw[afo e2,show(a.2==0)=false by simp[e2]];rfl
 ·rw[afo e1,show(a.1==0)=false by simp[e1]];rfl
def aaU:List En:=enL Hg::enL Oz::LV
def Tv(n:BR)(a:(Int×Int))(g:Bool)(_k:KT):OLR:=og (decide (ok Rat 200000 n)) (match !g with|true=>some [RV.d tG (0,0),RV.d .bool false]|false=>(match !((frF (ah n)).2)with|true=>some [RV.d tG (0,0),RV.d .bool false]|false=>(og (decide (prI (hid ((frF (ah n)).1))/\prI a)) (some [RV.d tG (hid ((cD (hid ((frF (ah n)).1)) a).1)),RV.d .bool ((cD (hid ((frF (ah n)).1)) a).2)]))))
def VK:Cn 313 [tR,tG,.bool]:=cn λ(n:BR) (a:(Int×Int)) (g:Bool)=>lf (ok Rat 100000 n/\prI a) [.d tG ((jw (ah n) a g).1),.d .bool ((jw (ah n) a g).2)] λh=>by
 refine az aaU (Tv n a g) ⟨0,?_⟩;obtain⟨hn,ha⟩:=h;obtain⟨n,rfl,bn⟩:=aH hn;unfold Tv;simp only[aW,Nat.reduceLeDiff,dT (show prI (frF n).1/\prI a from⟨RE.frF_pr _,ha⟩)];unfold jw;generalize frF n=A;obtain⟨_,q⟩:=A;cases g<;>cases q<;>rfl
section
section
variable {u:Nat} {w w':World} {size n:Nat} {v:Value} {xs:List Value}
end
section
variable {P:Program} {fn:Func} {R:Ending->World->Prop} {B:Code} {K:List KI} {i:Nat} {a:Act} {w:World}
end
end
section
section
variable {P:Program} {a:Act} {w:World}
end
end
theorem xH{w w1 w2:World}{o:Option Nat}(h:w.grownBy w1 o)(hb:Below w1.heap.size w1 w2):w.grownBy w2 o:=
 ⟨hb.os.trans h.os,hb.tape.trans h.tape,hb.output.trans h.output,afA h.size hb.size,λi hi hn=>(hb.block i (ahc hi h.size)).trans (h.block i hi hn)⟩
theorem sM{w w1 w2:World}{c b:Nat}(h:w.grownBy w1 (some c))(hu:Upd w1 w2 b)(hb:b=c\/w.heap.size<=b):w.grownBy w2 (some c):=
 ⟨hu.os.trans h.os,hu.tape.trans h.tape,hu.output.trans h.output,by rw[hu.size];exact h.size,λi hi hn=>(hu.block i (λe=>by
  subst e;rcases hb with hb|hb
  ·subst hb;exact hn rfl
  ·omega)).trans (h.block i hi hn)⟩
def Q1:Code:=Tryz.f319.body.getD .skip
set_option maxRecDepth 100000 in
theorem IH:acK Tryz.prog 319 245:=by
 intro w c b ok x y _ hc;have hB:w.grownBy w (some c):=World.grownBy.refl _ _;have hlt:=hc.lt;refine enter (B:=Q1) (args:=[.pointer (some ⟨c,0,none⟩),.agg #[.int .i64 x,.int .i64 y],.bool ok]) Tryz.func319 (by kernel_rfl) (by kernel_rfl) ?_;rw[show Tryz.f319.ntmps=18 from by kernel_rfl];intro a hs;replace hs:=hs.pick (ts:=[0,1,2]) (L':=[(0,.pointer (some ⟨c,0,none⟩)),(1,.agg #[.int .i64 x,.int .i64 y]),(2,.bool ok)]) (by kernel_rfl)
 refine we (j:=2) (by kernel_rfl) ?_;refine lS (id:=0) (by kernel_rfl) ?_;refine um hs (by kernel_rfl) (acj (t:=232) (cs:= #[.int .i64 x,.int .i64 y]) (λrb_=>.pointer (some ⟨rb_,0,none⟩)) [0,2,4] (λrb_=>[(0,.pointer (some ⟨c,0,none⟩)),(2,.bool ok),(4,.pointer (some ⟨rb_,0,none⟩))]) hs (λ_=>by kernel_rfl) (λ_=>by kernel_rfl) ?_);clear hs a;intro a w1 b1 hn hs;have B1:=hn.blk;have l1:w.heap.size<=b1:=by rw[hn.at_];exact hB.size
 replace hc:=hc.below hn.below hc.lt
 replace hB:=xH hB hn.below
 clear hn;refine um hs (by kernel_rfl) (acj (t:=232) (cs:= #[.int .i64 0,.int .i64 0]) (λrb_=>.pointer (some ⟨rb_,0,none⟩)) [0,2,4,6] (λrb_=>[(0,.pointer (some ⟨c,0,none⟩)),(2,.bool ok),(4,.pointer (some ⟨b1,0,none⟩)),(6,.pointer (some ⟨rb_,0,none⟩))]) hs (λ_=>by kernel_rfl) (λ_=>by kernel_rfl) ?_);clear hs a;intro a w2 b2 hn hs;have B2:=hn.blk;have l2:w.heap.size<=b2:=by rw[hn.at_];exact hB.size
 have l2':b1<b2:=by rw[hn.at_];exact B1.lt
 replace hc:=hc.below hn.below hc.lt
 replace B1:=B1.below hn.below B1.lt
 replace hB:=xH hB hn.below
 clear hn;refine pq (by kernel_rfl) ?_;refine lY rfl ?_;refine we (j:=4) (by kernel_rfl) ?_;refine lS (id:=1) (by kernel_rfl) ?_;refine sN (m:=6) (H:=[(4,none,[.bool b])]) (ts:=[2,4,6,7,12]) (L':=[(2,.bool ok),(4,.pointer (some ⟨b1,0,none⟩)),(6,.pointer (some ⟨b2,0,none⟩)),(7,.pointer (some ⟨c,0,none⟩)),(12,.bool b)]) (O:=λw=>(w.cell? ⟨c,0,none⟩=some (.bool b))/\True) hs (by kernel_rfl) ⟨hc.cell 0 rfl,trivial⟩ ?_;clear hs a;intro a hs;rcases Bool.eq_false_or_eq_true (b)with hb|hb
 ·replace hs:=hs.know (t:=12) rfl hb
  have cd1:=hb;have cd1b:=hb;clear hb;replace hs:=hs.pick (ts:=[2,4,6,7,12]) (L':=[(2,.bool ok),(4,.pointer (some ⟨b1,0,none⟩)),(6,.pointer (some ⟨b2,0,none⟩)),(7,.pointer (some ⟨c,0,none⟩)),(12,.bool true)]) (by kernel_rfl)
  refine sN (m:=4) (H:=[]) (ts:=[4,6,14,16]) (L':=[(4,.pointer (some ⟨b1,0,none⟩)),(6,.pointer (some ⟨b2,0,none⟩)),(14,.bool ok),(16,.pointer (some ⟨c,0,none⟩))]) (O:=λw=>True) hs (by kernel_rfl) trivial ?_;clear hs a;intro a hs;refine um hs (by kernel_rfl) (Az (b:=c) (cs:= #[.bool b]) #[.bool ok] [(0,.bool ok)] [4,6] [(4,.pointer (some ⟨b1,0,none⟩)),(6,.pointer (some ⟨b2,0,none⟩))] hs hc (by kernel_rfl) ⟨aft rfl,trivial,trivial⟩ rfl (by kernel_rfl) ?_);clear hs a;intro a w3 hc' hu hs;replace hc:=hc';clear hc'
  replace B1:=hu.blk B1 (by omega)
  replace B2:=hu.blk B2 (by omega)
  replace hB:=sM hB hu (by omega)
  clear hu;refine pq (by kernel_rfl) ?_;refine lY rfl ?_;refine we (j:=6) (by kernel_rfl) ?_;refine lS (id:=2) (by kernel_rfl) ?_;refine sN (m:=1) (H:=[(0,none,[.int .i64 x,.int .i64 y])]) (ts:=[6,17]) (L':=[(6,.pointer (some ⟨b2,0,none⟩)),(17,.agg #[.int .i64 x,.int .i64 y])]) (O:=λw=>(w.cell? ⟨b1,0,none⟩=some (.int .i64 x))/\(w.cell? ⟨b1,1,none⟩=some (.int .i64 y))/\True) hs (by kernel_rfl) ⟨B1.cell 0 rfl,B1.cell 1 rfl,trivial⟩ ?_;clear hs a;intro a hs;refine um hs (by kernel_rfl) (Az (b:=b2) (cs:= #[.int .i64 0,.int .i64 0]) #[.int .i64 x,.int .i64 y] [(0,.int .i64 x),(1,.int .i64 y)] [6] [(6,.pointer (some ⟨b2,0,none⟩))] hs B2 (by kernel_rfl) ⟨aft rfl,trivial,⟨aft rfl,trivial,trivial⟩⟩ rfl (by kernel_rfl) ?_);clear hs a;intro a w4 B2' hu hs;replace B2:=B2';clear B2'
  replace hc:=hu.blk hc (by omega)
  replace B1:=hu.blk B1 (by omega)
  replace hB:=sM hB hu (by omega)
  clear hu;refine pq (by kernel_rfl) ?_;refine lY rfl ?_;refine ET (by kernel_rfl) ?_;refine Np (vs:=[.agg #[.int .i64 x,.int .i64 y]]) (H:=[.int .i64 x,.int .i64 y]) (v:=.agg #[.int .i64 x,.int .i64 y]) (O:=λw=>(w.cell? ⟨b2,0,none⟩=some (.int .i64 x))/\(w.cell? ⟨b2,1,none⟩=some (.int .i64 y))/\True) hs (by kernel_rfl) rfl ⟨B2.cell 0 rfl,B2.cell 1 rfl,trivial⟩ ?_;exact⟨rfl,by rw[cd1];exact hc,hB⟩
 ·replace hs:=hs.know (t:=12) rfl hb
  have cd1:=hb;have cd1b:=hb;clear hb;replace hs:=hs.pick (ts:=[2,4,6,7,12]) (L':=[(2,.bool ok),(4,.pointer (some ⟨b1,0,none⟩)),(6,.pointer (some ⟨b2,0,none⟩)),(7,.pointer (some ⟨c,0,none⟩)),(12,.bool false)]) (by kernel_rfl)
  refine sN (m:=4) (H:=[]) (ts:=[4,6,14,16]) (L':=[(4,.pointer (some ⟨b1,0,none⟩)),(6,.pointer (some ⟨b2,0,none⟩)),(14,.bool false),(16,.pointer (some ⟨c,0,none⟩))]) (O:=λw=>True) hs (by kernel_rfl) trivial ?_;clear hs a;intro a hs;refine um hs (by kernel_rfl) (Az (b:=c) (cs:= #[.bool b]) #[.bool false] [(0,.bool false)] [4,6] [(4,.pointer (some ⟨b1,0,none⟩)),(6,.pointer (some ⟨b2,0,none⟩))] hs hc (by kernel_rfl) ⟨aft rfl,trivial,trivial⟩ rfl (by kernel_rfl) ?_);clear hs a;intro a w5 hc' hu hs;replace hc:=hc';clear hc'
  replace B1:=hu.blk B1 (by omega)
  replace B2:=hu.blk B2 (by omega)
  replace hB:=sM hB hu (by omega)
  clear hu;refine pq (by kernel_rfl) ?_;refine lY rfl ?_;refine we (j:=6) (by kernel_rfl) ?_;refine lS (id:=2) (by kernel_rfl) ?_;refine sN (m:=1) (H:=[(0,none,[.int .i64 x,.int .i64 y])]) (ts:=[6,17]) (L':=[(6,.pointer (some ⟨b2,0,none⟩)),(17,.agg #[.int .i64 x,.int .i64 y])]) (O:=λw=>(w.cell? ⟨b1,0,none⟩=some (.int .i64 x))/\(w.cell? ⟨b1,1,none⟩=some (.int .i64 y))/\True) hs (by kernel_rfl) ⟨B1.cell 0 rfl,B1.cell 1 rfl,trivial⟩ ?_;clear hs a;intro a hs;refine um hs (by kernel_rfl) (Az (b:=b2) (cs:= #[.int .i64 0,.int .i64 0]) #[.int .i64 x,.int .i64 y] [(0,.int .i64 x),(1,.int .i64 y)] [6] [(6,.pointer (some ⟨b2,0,none⟩))] hs B2 (by kernel_rfl) ⟨aft rfl,trivial,⟨aft rfl,trivial,trivial⟩⟩ rfl (by kernel_rfl) ?_);clear hs a;intro a w6 B2' hu hs;replace B2:=B2';clear B2'
  replace hc:=hu.blk hc (by omega)
  replace B1:=hu.blk B1 (by omega)
  replace hB:=sM hB hu (by omega)
  clear hu;refine pq (by kernel_rfl) ?_;refine lY rfl ?_;refine ET (by kernel_rfl) ?_;refine Np (vs:=[.agg #[.int .i64 x,.int .i64 y]]) (H:=[.int .i64 x,.int .i64 y]) (v:=.agg #[.int .i64 x,.int .i64 y]) (O:=λw=>(w.cell? ⟨b2,0,none⟩=some (.int .i64 x))/\(w.cell? ⟨b2,1,none⟩=some (.int .i64 y))/\True) hs (by kernel_rfl) rfl ⟨B2.cell 0 rfl,B2.cell 1 rfl,trivial⟩ ?_;exact⟨rfl,by rw[cd1];exact hc,hB⟩
def O8:dK:={keep:=true,tame:=true,run:=λ_ _ _=>none,mut_:=some ⟨true,λl=>l,some 245⟩}
theorem O4:SpK 319 O8:=by
 refine⟨by kernel_rfl,λR args k r h=>(by cases h),(λg h=>?_),λ_ _ e=>(by cases e)⟩;injection h with h;subst h;exact IH
def SU:List En:=[⟨125,ju,fq⟩,⟨67,jC,fI⟩,⟨132,mA,jk⟩,⟨65,kp,gu⟩,⟨133,qO,l4⟩,enL OS,⟨66,lI,ik⟩,⟨54,jA,fH⟩,enL G6,enT CZ,enL K6,enL VA,enL JU,enL Lg,enL M1,enL LH,enA Jx,enA Ke,enL Uw,enL LP,enL V3,enL Hg,enL Oz,enL VK,⟨319,O8,O4⟩]
def X8:NT:=[((283,5),{keep:=[1,4,13,14,17,20,21,24],hl:=0}),((283,7),{keep:=[1,4,5,25,26,29,32,33,36],hl:=0})]
def acM:Ctx:=CX (ens SU) X8
def SE(q:BQ)(_k:KT):OLR:=let y1:=frF (ah q.2.2.2.2.1);let y2:=ok Rat 200000 q.2.2.2.2.2;let y3:=frF (ah q.2.2.2.2.2);let y4:=sqF (hid (y3.1));let y5:=hid ((frF (ah q.2.1)).1);let y6:=hid ((sqF (hid (y1.1))).1);let y7:=frF (ah q.2.2.1);let y8:=frF (ah q.2.2.2.1);let y9:=cD y6 (hid (y4.1));let y10:=cD (hid (y7.1)) (hid (y4.1));let y11:=cD (hid (y8.1)) (hid (y9.1));let y12:=hid ((frF (ah q.1)).1);let y13:=hid ((cD y5 y6).1);let y14:=hid ((dA y12 y13).1);let y15:=dA (hid (y10.1)) (hid (y11.1));let y16:=dA y14 (hid (y15.1));let y17:OLR:=match decide (prI (hid (y3.1)))with|true=>some [RV.d aiy 0,RV.d .bool false]|false=>none;og (decide (ok Rat 200000 q.2.2.2.2.1)) (og (decide (prI (hid (y1.1)))) (match y1.2 with|true=>(og (decide y2) (match(sqF (hid (y1.1))).2 with|true=>(og (decide (prI (hid (y3.1)))) (match y3.2 with|true=>(match !(y4.2)with|true=>some [RV.d aiy 0,RV.d .bool false]|false=>(og (decide (ok Rat 200000 q.2.1)) (og (decide (prI y5/\prI y6)) (og (decide (ok Rat 200000 q.2.2.1)) (og (decide (prI (hid (y7.1))/\prI (hid (y4.1)))) (og (decide (ok Rat 200000 q.2.2.2.1)) (og (decide (prI y6/\prI (hid (y4.1)))) (og (decide (prI (hid (y8.1))/\prI (hid (y9.1)))) (match !(((((((y4.2&&(frF (ah q.2.1)).2)&&(cD y5 y6).2)&&y7.2)&&y10.2)&&y8.2)&&y9.2)&&y11.2)with|true=>some [RV.d aiy 0,RV.d .bool false]|false=>(og (decide (ok Rat 200000 q.1)) (og (decide (prI y12/\prI y13)) (og (decide (prI (hid (y10.1))/\prI (hid (y11.1)))) (og (decide (prI y14/\prI (hid (y15.1)))) (match !(((((((((((y4.2&&(frF (ah q.2.1)).2)&&(cD y5 y6).2)&&y7.2)&&y10.2)&&y8.2)&&y9.2)&&y11.2)&&(frF (ah q.1)).2)&&(dA y12 y13).2)&&y15.2)&&y16.2)with|true=>some [RV.d aiy 0,RV.d .bool false]|false=>some [RV.d aiy ((sgF (hid (y16.1))).1),RV.d .bool ((sgF (hid (y16.1))).2)]))))))))))))))|false=>some [RV.d aiy 0,RV.d .bool false]))|false=>y17))|false=>(og (decide y2) y17)))
theorem ab9(q:BQ):RS acM 283 [.d tQ q] (SE q):=rsX
def aat:Cn 283 [tQ]:=cn λ(q:BQ)=>lf (okQ q) [.d aiy ((quF (dec q)).1),.d .bool ((quF (dec q)).2)] λh=>by
 refine dm SU (ab9 _ ⟨0,?_⟩);obtain⟨A,B,C,D,M,N,rfl,bA,bB,bC,bD,bM,bN,hM,hN⟩:=EO h;rw[aB];have pf:∀q,prI (frF q).1:=RE.frF_pr;have pm:∀a b,prI (cD a b).1:=rI;have ps:∀q,prI (sqF (frF q).1).1:=λq=>RE.sqF_pr (pf q);have pa:∀{a b},prI a->prI b->prI (dA a b).1:=λha hb=>RE.addF_pr ha hb;have d1:∀q,decide (prI (frF q).1)=true:=λq=>dT (pf q);have d2:∀q m,decide (prI (frF q).1/\prI (sqF (frF m).1).1)=true:=λq m=>dT ⟨pf q,ps m⟩;have d3:∀q m,decide (prI (sqF (frF q).1).1/\prI (sqF (frF m).1).1)=true:=λq m=>dT ⟨ps q,ps m⟩;have d4:∀q a b,decide (prI (frF q).1/\prI (cD a b).1)=true:=λq a b=>dT ⟨pf q,pm a b⟩;have d5:∀a b c d,decide (prI (cD a b).1/\prI (cD c d).1)=true:=λa b c d=>dT ⟨pm a b,pm c d⟩;have d6:∀q a b c d e f,decide (prI (dA (frF q).1 (cD a b).1).1/\prI (dA (cD c d).1 (cD e f).1).1)=true:=λq a b c d e f=>dT ⟨pa (pf q) (pm a b),pa (pm c d) (pm e f)⟩;unfold SE;simp only[aW,aD,Nat.reduceLeDiff,dT (pf _),dT (pm _ _),dT (ps _),dT (pa (pf _) (pm _ _)),dT (pa (pm _ _) (pm _ _))];unfold quF qu1 qu2 qu3 quA quB sfF mfF;generalize frF M=FM;generalize frF N=FN;generalize sqF FM.1=SM;generalize sqF FN.1=SN;generalize frF A=FA;generalize frF B=FB;generalize frF C=FC;generalize frF D=FD;generalize cD FB.1 SM.1=MB;generalize cD FC.1 SN.1=MC;generalize cD SM.1 SN.1=MM;generalize cD FD.1 MM.1=MD;generalize dA FA.1 MB.1=A1;generalize dA MC.1 MD.1=A2;generalize dA A1.1 A2.1=A3;generalize sgF A3.1=S;obtain⟨_,fm⟩:=FM;obtain⟨_,fn⟩:=FN;obtain⟨_,sm⟩:=SM;obtain⟨_,sn⟩:=SN;cases fm<;>cases sm<;>cases fn<;>cases sn<;>try rfl
 dsimp only;simp only[agc,agT];generalize (FB.2&&MB.2&&FC.2&&MC.2&&FD.2&&MM.2&&MD.2)=c2;cases c2
 ·rfl
 ·simp only[agc];generalize (FA.2&&A1.2&&A2.2&&A3.2)=c3;cases c3<;>rfl
namespace RE
theorem same_rad(a b c d r:RE):a-c+(b-d)*r=a+b*r-(c+d*r):=by grind
theorem Xi(a b c:RE):a-b+c=a+c-b:=by grind
theorem vR_rat(q:Rat):vR (q,0,0)=of q:=d9 q 0
theorem cmpTR_re{x:Rt}{q:Rat}(h:0<=x.2.2):hZ x q=sg (vR x-of q):=by
 unfold hZ vR;rw[sgn2_re h];unfold v2;rw[of_sub,Xi]
end RE
theorem Rdd.rat{x:Rt}(h:Rdd x)(hb:x.2.1=0):x=(x.1,0,0):=by
 obtain⟨a,b,c⟩:=x;rcases h.rd with h|h
 ·obtain⟨h1,h2⟩:=h;simp only at h1 h2;rw[h1,h2]
 ·exact absurd hb h.1
theorem Pe{x:Rt}{q:Rat}(h:Rdd x):bj x (q,0,0)=hZ x q:=by
 rw[RE.cmpT_re h.nn (by show(0:Rat)<=0;grind),RE.cmpTR_re h.nn,RE.vR_rat]
theorem Qm{x y:Rt}(hx:Rdd x)(hy:Rdd y)(bx:x.2.1=0)(b_:y.2.1=0):bj x y=aE x.1 y.1:=by
 rw[hx.rat bx,hy.rat b_,RE.cmpT_re (by show(0:Rat)<=0;grind) (by show(0:Rat)<=0;grind),RE.vR_rat,RE.vR_rat,<-RE.of_sub,RE.sg_of,wa]
theorem RM{x y:Rt}(hx:Rdd x)(hy:Rdd y)(h:(apF x y).2=true):(apF x y).1=bj x y:=by
 rw[RE.apF_ok h,RE.cmpT_re hx.nn hy.nn]
theorem Ir{x y:Rt}(hx:Rdd x)(hy:Rdd y)(h:x.2.2=y.2.2):gn (x.1-y.1) (x.2.1-y.2.1) x.2.2=bj x y:=by
 rw[RE.cmpT_re hx.nn hy.nn,RE.sgn2_re hx.nn];unfold RE.vR RE.v2;rw[RE.of_sub,RE.of_sub,RE.same_rad,h]
theorem Xw{A B C D M N:Rat}(hM:0<=M)(hN:0<=N)(h:(quF (A,B,C,D,M,N)).2=true):(quF (A,B,C,D,M,N)).1=sgQ (A,B,C,D,M,N):=by
 rw[RE.quF_ok (q:=(A,B,C,D,M,N)) hM hN h];exact(RE.sgnQ_re hM hN).symm
def Lx:List En:=[⟨132,mA,jk⟩,⟨67,jC,fI⟩,⟨66,lI,ik⟩,⟨65,kp,gu⟩,⟨54,jA,fH⟩,⟨125,ju,fq⟩,enL G6,enT CZ,enL K6,enL Hg]
def XZ:Cn 284 [tR,tR]:=cn λ(a b:BR)=>lf (okR a/\okR b) [.d tR (ao (ah a+ah b))] λh=>kx [RV.d tR (hAd a b)] (dk Lx) h
def T9(a b:BO3)(_k:KT):OLR:=og (decide (ok Rt 100000 a)) (og (decide (ok Rt 100000 b)) (match !((bi (dec a)).2)with|true=>some [RV.d aiy 0,RV.d .bool false]|false=>(match !((bi (dec b)).2)with|true=>some [RV.d aiy 0,RV.d .bool false]|false=>(match decide (((hid ((bi (dec a)).1)).2)<((hid ((bi (dec b)).1)).1))with|true=>some [RV.d aiy (-1),RV.d .bool true]|false=>(match decide (((hid ((bi (dec a)).1)).1)>((hid ((bi (dec b)).1)).2))with|true=>some [RV.d aiy 1,RV.d .bool true]|false=>some [RV.d aiy 0,RV.d .bool false])))))
def VG:Cn 275 [tO,tO]:=cn λ(a b:BO3)=>lf (ok Rt 100000 a/\ok Rt 100000 b) [.d aiy ((apF (dec a) (dec b)).1),.d .bool ((apF (dec a) (dec b)).2)] λh=>by
 refine az Lx (T9 a b) ⟨0,?_⟩;obtain⟨ha,hb⟩:=h;obtain⟨a,rfl,ba⟩:=aH ha;obtain⟨b,rfl,bb⟩:=aH hb;unfold T9;simp only[aW,Nat.reduceLeDiff];unfold apF;generalize bi a=A;generalize bi b=B;obtain⟨⟨a1,a2⟩,p⟩:=A;obtain⟨⟨b1,b2⟩,q⟩:=B;cases p<;>cases q<;>try rfl
 dsimp only;cases decide (a2<b1)<;>try rfl
 cases decide (a1>b2)<;>rfl
def acy:List En:=enL XZ::enT VG::enT aat::Lx
def U5(q:BQ)(_k:KT):OLR:=let y1:=ah q.2.2.2.2.1;let y2:=aE (ah q.2.2.2.2.2) 0;let y3:=i64.wrap ((gn (ah q.2.2.1) (ah q.2.2.2.1) y1)*y2);let y4:=gn (ah q.1) (ah q.2.1) y1;let y5:=hMu q.2.2.2.2.1 (hMu q.2.1 q.2.1);let y6:=hMu q.2.2.2.1 q.2.2.2.1;let y7:=hMu q.2.2.1 q.2.2.1;let y8:=hMu q.2.2.2.2.1 y6;let y9:=hAd (hMu q.1 q.1) y5;let y10:=hMu q.2.2.2.2.2 (hAd y7 y8);let y11:=hMu q.2.2.1 q.2.2.2.1;let y12:=hMu q.2.2.2.2.2 y11;let y13:=hSu (hMu q.1 q.2.1) y12;let y14:OLR:=match decide (okR (hMu q.1 q.2.1)/\okR y12)with|true=>(og (o2 y13 y13) (og (decide (ok Rat 240000 (hSu y9 y10)/\ok Rat 170000 (hAd y13 y13)/\ok Rat 30000 q.2.2.2.2.1)) (some [RV.d aiy (i64.wrap (y4*(gn (ah (hSu y9 y10)) (ah (hAd y13 y13)) y1)))])))|false=>none;let y15:OLR:=match decide (okR q.2.2.2.2.2/\okR y11)with|true=>y14|false=>none;let y16:OLR:=match decide (okR q.2.2.1/\okR q.2.2.2.1)with|true=>y15|false=>none;let y17:OLR:=match decide (okR y9/\okR y10)with|true=>cS (og (o2 q.1 q.2.1) (cS (og (o2 q.2.2.1 q.2.2.2.1) (cS (og (o2 q.2.2.2.2.2 y11) (dup (.b .l .l) y14)) y15)) y16)) (og (o2 q.1 q.2.1) y16)|false=>none;let y18:OLR:=match decide (okR q.2.2.2.2.2/\okR (hAd y7 y8))with|true=>y17|false=>none;let y19:OLR:=match decide (okR y7/\okR y8)with|true=>y18|false=>none;let y20:OLR:=match decide (okR q.2.2.2.2.1/\okR y6)with|true=>y19|false=>none;let y21:OLR:=match decide (okR q.2.2.2.1/\okR q.2.2.2.1)with|true=>y20|false=>none;let y22:OLR:=match decide (okR q.2.2.1/\okR q.2.2.1)with|true=>y21|false=>none;let y23:OLR:=match decide (okR (hMu q.1 q.1)/\okR y5)with|true=>y22|false=>none;let y24:OLR:=match decide (okR q.2.2.2.2.1/\okR (hMu q.2.1 q.2.1))with|true=>y23|false=>none;let y25:OLR:=match decide (okR q.2.1/\okR q.2.1)with|true=>y24|false=>none;og (o1 q.2.2.2.2.1) (match decide ((aE y1 0)<0)with|true=>some [RV.d aiy 0]|false=>(og (o1 q.2.2.2.2.2) (match decide (y2<0)with|true=>some [RV.d aiy 0]|false=>(og (decide (okQ q)) (match(quF (dec q)).2 with|true=>some [RV.d aiy ((quF (dec q)).1)]|false=>(og (decide (ok Rat 240000 q.1/\ok Rat 170000 q.2.1/\ok Rat 30000 q.2.2.2.2.1)) (og (decide (ok Rat 240000 q.2.2.1/\ok Rat 170000 q.2.2.2.1/\ok Rat 30000 q.2.2.2.2.1)) (og (o1 q.2.2.2.2.2) (match y3==0 with|true=>some [RV.d aiy y4]|false=>(match y4==y3 with|true=>some [RV.d aiy y4]|false=>(match y4==0 with|true=>some [RV.d aiy y3]|false=>cS (og (o2 q.1 q.1) (cS (og (o2 q.2.1 q.2.1) (cS (og (o2 q.2.2.2.2.1 (hMu q.2.1 q.2.1)) (cS (og (o2 (hMu q.1 q.1) y5) (cS (og (o2 q.2.2.1 q.2.2.1) (cS (og (o2 q.2.2.2.1 q.2.2.2.1) (cS (og (o2 q.2.2.2.2.1 y6) (cS (og (o2 y7 y8) (cS (og (o2 q.2.2.2.2.2 (hAd y7 y8)) (dup (.b .l .l) y17)) y18)) y19)) y20)) y21)) y22)) y23)) y24)) y25)) (og (o2 q.1 q.1) y25))))))))))))
def ZD:Cn 218 [tQ]:=cn λ(q:BQ)=>lf (okQ q) [.d aiy (sgQ (dec q))] λh=>by
 refine az acy (U5 q) ⟨0,?_⟩;obtain⟨A,B,C,D,M,N,rfl,bA,bB,bC,bD,bM,bN,hM,hN⟩:=EO h;have hh:decide (okQ (ao A,ao B,ao C,ao D,ao M,ao N))=true:=afm h;have hd:(dec ((ao A,ao B,ao C,ao D,ao M,ao N):BQ):Qd)=(A,B,C,D,M,N):=aB ((A,B,C,D,M,N):Qd);rw[aB];unfold U5;simp only[aW,aD,Nat.reduceAdd,Nat.reduceLeDiff,sE,rZ,au,hh,hd,afo (show ¬M<0 by grind),afo (show ¬N<0 by grind)];cases hq:(quF (A,B,C,D,M,N)).2
 ·try dsimp only
  refine(Bn _ _ _).trans ?_;unfold sgQ Au;rw[afo (show ¬M<0 by grind),afo (show ¬N<0 by grind)];dsimp only[Bool.or_false,cond_false];rw[show A*B-N*(C*D)+(A*B-N*(C*D))=2*(A*B-N*(C*D)) by grind,show A*A+M*(B*B)-N*(C*C+M*(D*D))=A*A+B*B*M-N*(C*C+D*D*M) by grind];rfl
 ·try dsimp only
  rw[Xw hM hN hq]
def V2:List En:=[⟨54,jA,fH⟩,⟨66,lI,ik⟩,⟨65,kp,gu⟩,enT CZ,enL K6,enT VG,enT ZD,enL G6]
def VH(a b:BO3)(_k:KT):OLR:=og (o1 a.2.1) (match(aE (ah a.2.1) 0)==0 with|true=>(og (o1 b.2.1) (match(aE (ah b.2.1) 0)==0 with|true=>(og (o2 a.1 b.1) (some [RV.d aiy (aE (ah a.1) (ah b.1))]))|false=>(og (decide (ok Rt 100000 a/\ok Rt 100000 b)) (match(apF (dec a) (dec b)).2 with|true=>some [RV.d aiy ((apF (dec a) (dec b)).1)]|false=>(og (o2 a.2.2 b.2.2) (match(aE (ah a.2.2) (ah b.2.2))==0 with|true=>(og (o2 a.1 b.1) (og (o2 a.2.1 b.2.1) (og (decide (ok Rat 240000 (hSu a.1 b.1)/\ok Rat 170000 (hSu a.2.1 b.2.1)/\ok Rat 30000 a.2.2)) (some [RV.d aiy (gn (ah (hSu a.1 b.1)) (ah (hSu a.2.1 b.2.1)) (ah a.2.2))]))))|false=>(og (decide (ok Rt 15000 a/\ok Rt 15000 b)) (og (decide (okQ (hid (enc (suT (dec a) (dec b)))))) (some [RV.d aiy (sgQ (dec (hid (enc (suT (dec a) (dec b))))))])))))))))|false=>(og (decide (ok Rt 100000 a/\ok Rt 100000 b)) (match(apF (dec a) (dec b)).2 with|true=>some [RV.d aiy ((apF (dec a) (dec b)).1)]|false=>(og (o2 a.2.2 b.2.2) (match(aE (ah a.2.2) (ah b.2.2))==0 with|true=>(og (o2 a.1 b.1) (og (o2 a.2.1 b.2.1) (og (decide (ok Rat 240000 (hSu a.1 b.1)/\ok Rat 170000 (hSu a.2.1 b.2.1)/\ok Rat 30000 a.2.2)) (some [RV.d aiy (gn (ah (hSu a.1 b.1)) (ah (hSu a.2.1 b.2.1)) (ah a.2.2))]))))|false=>(og (decide (ok Rt 15000 a/\ok Rt 15000 b)) (og (decide (okQ (hid (enc (suT (dec a) (dec b)))))) (some [RV.d aiy (sgQ (dec (hid (enc (suT (dec a) (dec b))))))]))))))))
def Mp:Cn 201 [tO,tO]:=cn λ(a b:BO3)=>lf (okT 15000 a/\okT 15000 b) [.d aiy (bj (dec a) (dec b))] λh=>by
 refine az V2 (VH a b) ⟨0,?_⟩;obtain⟨ha,hb⟩:=h;obtain⟨a,rfl,ba,ra⟩:=kv ha;obtain⟨b,rfl,bb,rb⟩:=kv hb;have na:Nn a.2.2:=inferInstance;have nb:Nn b.2.2:=inferInstance;have e:decide (okQ (enc (suT a b)))=true:=Tn (by decide) (by decide) (by decide) (by decide) (by decide) (by decide);have e1:=λh1 h2=>Qm ra rb h1 h2;have e2:=λh=>RM ra rb h;have e3:=λh=>Ir ra rb h;unfold VH;simp only[aW,Nat.reduceAdd,Nat.reduceLeDiff,aq,e];by_cases ha:a.2.1=0
 ·by_cases hb:b.2.1=0
  ·rw[afm ha,afm hb,e1 ha hb]
  ·rw[afm ha,afo hb];dsimp only;cases hq:(apF a b).2
   ·dsimp only;by_cases hc:a.2.2=b.2.2
    ·rw[afm hc,<-e3 hc]
    ·rw[afo hc];rfl
   ·dsimp only;rw[e2 hq]
 ·rw[afo ha];dsimp only;cases hq:(apF a b).2
  ·dsimp only;by_cases hc:a.2.2=b.2.2
   ·rw[afm hc,<-e3 hc]
   ·rw[afo hc];rfl
  ·dsimp only;rw[e2 hq]
def abg:List En:=enT Mp::V2
def Vc(a:BO3)(b:BR)(_k:KT):OLR:=og (o1 b) (og (decide (okT 15000 a/\okT 15000 (hid (enc ((ah b,0,0):Rt))))) (some [RV.d aiy (bj (dec a) (dec (hid (enc ((ah b,0,0):Rt)))))]))
def aah:Cn 126 [tO,tR]:=cn λ(a:BO3) (b:BR)=>lf (okT 15000 a/\ok Rat 15000 b) [.d aiy (hZ (dec a) (ah b))] λh=>by
 refine az abg (Vc a b) ⟨0,?_⟩;obtain⟨ha,hb⟩:=h;obtain⟨a,rfl,ba,ra⟩:=kv ha;obtain⟨b,rfl,bb⟩:=aH hb;unfold Vc;simp only[aW,Nat.reduceLeDiff,aP];rw[Pe ra]
section
section
variable {α:Type}
open Classical in
def rk(lt:α->α->Prop):List α->α->Nat
 |[],_=>0
 |e::r,x=>(if lt e x then 1 else 0)+rk lt r x
structure lO (lt:α->α->Prop):Prop where
 irr:∀x,¬lt x x
 tr:∀x y z,lt x y->lt y z->lt x z
 tri:∀x y,lt x y\/x=y\/lt y x
variable {lt:α->α->Prop}
theorem TQ(h:lO lt){x y:α}(hxy:lt x y):∀L,rk lt L x<=rk lt L y
 |[]=>afs _
 |e::r=>by
  have:=TQ h hxy r;unfold rk;by_cases h1:lt e x
  ·rw[af2 h1,af2 (h.tr _ _ _ h1 hxy)];omega
  ·rw[afQ h1];omega
theorem rW(h:lO lt){x y:α}(hxy:lt x y):∀{L},x∈L->rk lt L x<rk lt L y
 |e::r,hm=>by
  have h0:=TQ h hxy r;unfold rk;rcases afy.1 hm with rfl|hm
  ·rw[afQ (h.irr _),af2 hxy];omega
  ·have:=rW h hxy hm;by_cases h1:lt e x
   ·rw[af2 h1,af2 (h.tr _ _ _ h1 hxy)];omega
   ·rw[afQ h1];omega
theorem YF(L:List α)(x:α):rk lt L x<=L.length:=by
 induction L with
 |nil=>exact afs _
 |cons e r ih=>
  unfold rk;rw[afD];split<;>omega
theorem kX(h:lO lt){x:α}:∀{L},x∈L->rk lt L x<L.length
 |e::r,hm=>by
  unfold rk;rw[afD];rcases afy.1 hm with rfl|hm
  ·rw[afQ (h.irr _)];have:=YF (lt:=lt) r x;omega
  ·have:=kX h hm;split<;>omega
def ub(lt:α->α->Prop)(c:α->α->Int):Prop:=∀x y,(lt x y->c x y= -1)/\(x=y->c x y=0)/\(lt y x->c x y=1)
def cI(i j:Nat):Int:=if i<j then-1 else if i=j then 0 else 1
theorem xI(h:lO lt){c:α->α->Int}(hc:ub lt c){L:List α}{x y:α}(hx:x∈L)(hy:y∈L):c x y=cI (rk lt L x) (rk lt L y):=by
 unfold cI;rcases h.tri x y with e|e|e
 ·rw[(hc x y).1 e,af2 (rW h e hx)]
 ·subst e;rw[(hc x x).2.1 rfl,afQ (Nat.lt_irrefl _),af2 rfl]
 ·have:=rW h e hy;rw[(hc x y).2.2 e,afQ (by omega),afQ (by omega)]
end
section
variable {α:Type} (cmp:α->α->Int)
def qD(p q:Bool×α):Int:=bif p.1==q.1 then(bif p.1 then-cmp p.2 q.2 else cmp p.2 q.2)else(bif p.1 then-1 else 1)
def nC(f p:Bool×α):Int:=bif qD cmp p f==0 then 0 else bif decide (qD cmp p f>0)then 1 else 2
def yf(n:Int):Int:=if n<0 then-1 else if n=0 then 0 else 1
def eI(f p q:Bool×α):Int:=bif nC cmp f p==nC cmp f q then yf (qD cmp p q)else yf (nC cmp f p-nC cmp f q)
def jr(p q:Bool×α):Int:=bif p.1==q.1 then(bif p.1 then-cmp p.2 q.2 else cmp p.2 q.2)else(bif q.1 then-1 else 1)
def jM(f p q:Bool×α):Int:=bif decide (jr cmp p f<0)==decide (jr cmp q f<0)then jr cmp p q else(bif decide (jr cmp q f<0)then-1 else 1)
variable {cmp} {β:Type} {cmq:β->β->Int}
theorem qE{u v:Bool}{a b:α}{c d:β}(h:cmp a b=cmq c d):qD cmp (u,a) (v,b)=qD cmq (u,c) (v,d):=by unfold qD;rw[h]
theorem qT{u v:Bool}{a b:α}{c d:β}(h:cmp a b=cmq c d):jr cmp (u,a) (v,b)=jr cmq (u,c) (v,d):=by unfold jr;rw[h]
theorem iA{u v w:Bool}{f p q:α}{f' p' q':β}(h1:cmp p f=cmq p' f')(h2:cmp q f=cmq q' f')(h3:cmp p q=cmq p' q'):eI cmp (u,f) (v,p) (w,q)=eI cmq (u,f') (v,p') (w,q'):=by
 unfold eI nC;rw[qE h1,qE h2,qE h3]
theorem fy{u v w:Bool}{f p q:α}{f' p' q':β}(h1:cmp p f=cmq p' f')(h2:cmp q f=cmq q' f')(h3:cmp p q=cmq p' q'):jM cmp (u,f) (v,p) (w,q)=jM cmq (u,f') (v,p') (w,q'):=by
 unfold jM;rw[qT h1,qT h2,qT h3]
end
def me(k i l j:Nat):Bool:=(k !=0||(bif l==0 then i==j else decide (j<i)))&&(k !=2||(bif l==2 then i==j else decide (i<j)))
def upA(k:Nat):Bool:=k==0||k==1
def ufA(k:Nat):Bool:=k==1||k==2
def dI(i j:Nat):Int:=cI j i
def Ea(k i l j m n:Nat):Bool:=me k i l j&&me l j k i&&me k i m n&&me m n k i&&me l j m n&&me m n l j
theorem Q3:∀kF kP kT:Fin 4,∀iF iP iT:Fin 3,Ea kF.1 iF.1 kP.1 iP.1 kT.1 iT.1=true->
  decide (eI cI (upA kF.1,iF.1) (upA kP.1,iP.1) (upA kT.1,iT.1)<=0)=(decide (jM cI (upA kF.1,iF.1) (upA kF.1,iF.1) (upA kP.1,iP.1)<=0)&&decide (jM cI (upA kF.1,iF.1) (upA kP.1,iP.1) (upA kT.1,iT.1)<=0)):=by decide+kernel
theorem Wr:∀kF kP kT:Fin 4,∀iF iP iT:Fin 3,Ea kF.1 iF.1 kP.1 iP.1 kT.1 iT.1=true->
  decide (eI cI (upA kT.1,iT.1) (upA kP.1,iP.1) (upA kF.1,iF.1)<=0)=(decide (jM dI (ufA kF.1,iF.1) (ufA kF.1,iF.1) (ufA kP.1,iP.1)<=0)&&decide (jM dI (ufA kF.1,iF.1) (ufA kP.1,iP.1) (ufA kT.1,iT.1)<=0)):=by decide+kernel
def yg(a b:Int):Bool:=a==0||b==0||a==b
def acC(d a b:Int):Bool:=decide ((bif decide (d>0)then-a else a)<=0)&&decide ((bif decide (d>0)then-b else b)<=0)
theorem RY:∀f p t:Fin 3,yg (cI f.1 p.1) (cI p.1 t.1)=acC (cI f.1 t.1) (cI f.1 p.1) (cI p.1 t.1):=by decide+kernel
namespace RE
theorem lt_lin:lO (λx y:RE=>x<y):=⟨lt_irrefl,λ_ _ _=>fF,nO⟩
theorem zV(x y:RE)(h1:x<y):x-y<0:=by grind
theorem Ad(x y:RE)(h1:y<x):0<x-y:=by grind
theorem sg_cmpO:ub (λx y:RE=>x<y) (λx y=>sg (x-y)):=λx y=>⟨λh=>nw (zV _ _ h),λh=>by subst h;show sg (x-x)=0;rw[sub_self,fR],λh=>jm (Ad _ _ h)⟩
def X6(p q:RE×RE):Prop:=p.1<q.1\/(p.1=q.1/\p.2<q.2)
theorem jz:lO X6:=by
 refine⟨λx h=>?_,λx y z h1 h2=>?_,λx y=>?_⟩
 ·rcases h with h|h
  ·exact lt_irrefl _ h
  ·exact lt_irrefl _ h.2
 ·rcases h1 with h1|⟨h1,h1'⟩
  ·rcases h2 with h2|⟨h2,h2'⟩
   ·exact .inl (fF h1 h2)
   ·exact .inl (h2▸h1)
  ·rcases h2 with h2|⟨h2,h2'⟩
   ·exact .inl (h1▸h2)
   ·exact .inr ⟨h1.trans h2,fF h1' h2'⟩
 ·rcases nO x.1 y.1 with h|h|h
  ·exact .inl (.inl h)
  ·rcases nO x.2 y.2 with h'|h'|h'
   ·exact .inl (.inr ⟨h,h'⟩)
   ·exact .inr (.inl (ais h h'))
   ·exact .inr (.inr (.inr ⟨h.symm,h'⟩))
  ·exact .inr (.inr (.inl h))
def lxc(p q:RE×RE):Int:=bif sg (p.1-q.1)==0 then sg (p.2-q.2)else sg (p.1-q.1)
theorem gX:ub X6 lxc:=λp q=>by
 unfold lxc;refine⟨λh=>?_,λh=>?_,λh=>?_⟩
 ·rcases h with h|⟨h,h'⟩
  ·rw[nw (zV _ _ h)];rfl
  ·rw[h,sub_self,fR,nw (zV _ _ h')];rfl
 ·subst h;rw[sub_self,sub_self,fR];rfl
 ·rcases h with h|⟨h,h'⟩
  ·rw[jm (Ad _ _ h)];rfl
  ·rw[<-h,sub_self,fR,jm (Ad _ _ h')];rfl
def cls(u v:RE):Nat:=bif sg v==1 then 1 else bif sg v== -1 then 3 else bif sg u==1 then 0 else 2
theorem lN(u v:RE):cls u v<4:=by
 unfold cls;cases sg v==1<;>cases sg v== -1<;>cases sg u==1<;>simp
theorem Xs(u v:RE):(decide (sg v>0)||(sg v==0&&decide (sg u>0)))=upA (cls u v):=by
 unfold cls;rcases df v with⟨_,h⟩|⟨_,h⟩|⟨_,h⟩<;>rcases df u with⟨_,h'⟩|⟨_,h'⟩|⟨_,h'⟩<;>rw[h,h']<;>rfl
theorem Zp{u v Q:RE}(hQ:0<Q)(h:u*u+v*v=Q):(decide (sg v>0)||(sg v==0&&decide (-sg u>0)))=ufA (cls u v):=by
 unfold cls;rcases df v with⟨_,h1⟩|⟨h0,h1⟩|⟨_,h1⟩<;>rcases df u with⟨_,h'⟩|⟨h2,h'⟩|⟨_,h'⟩<;>rw[h1,h']<;>try rfl
 rw[h0,h2,mul_zero,add_zero]at h;rw[<-h]at hQ;exact absurd hQ (lt_irrefl _)
theorem M7(u v w z Q:RE):2*((u-(0))*(w-(u)))+((w-(u))*(w-(u)))+((u*u+v*v-(Q)))+((Q-(w*w+z*z)))+((z*z-(0)))+((0-(v))*(v-(0)))=0:=by grind
theorem Xu(u v w z Q:RE)(h1:u*u+v*v=Q)(h2:w*w+z*z=Q)(h3:v=0)(h4:0<u)(h5:0<=z*z):w<=u:=λhg=>far (aS (aS (aS (aS (aS (HA (by decide+kernel:(0:Rat)<2) (mul_pos (aX h4) (aX hg))) (le_of_lt (mul_pos (aX hg) (aX hg)))) (aK (rE h1))) (aK (sC h2))) (aK h5)) (cz (aK (sC h3)) (aK (rE h3)))) (M7 u v w z Q)
theorem OD(u v w z Q:RE):2*((0-(u))*(u-(w)))+((u-(w))*(u-(w)))+((u*u+v*v-(Q)))+((Q-(w*w+z*z)))+((z*z-(0)))+((0-(v))*(v-(0)))=0:=by grind
theorem Xh(u v w z Q:RE)(h1:u*u+v*v=Q)(h2:w*w+z*z=Q)(h3:v=0)(h4:u<0)(h5:0<=z*z):u<=w:=λhg=>far (aS (aS (aS (aS (aS (HA (by decide+kernel:(0:Rat)<2) (mul_pos (aX h4) (aX hg))) (le_of_lt (mul_pos (aX hg) (aX hg)))) (aK (rE h1))) (aK (sC h2))) (aK h5)) (cz (aK (sC h3)) (aK (rE h3)))) (OD u v w z Q)
theorem JK(u w z Q:RE)(h1:u*u=Q)(h2:w*w+z*z=Q)(h3:w*w=u*u):z*z<=0:=by grind
theorem Gu{z:RE}(h:z*z<=0):z=0:=by
 rcases nO z 0 with e|e|e
 ·have:=mul_pos (uc e) (uc e);rw[neg_mul,mul_neg,neg_neg]at this
  exact absurd this (λh'=>lt_irrefl _ (fF h' (by
   rcases n4 (Fd z)with h2|h2
   ·exact absurd h2 ((Bq _ _).1 h)
   ·rw[h2]at h';exact absurd h' (lt_irrefl _))))
 ·exact e
 ·exact absurd (mul_pos e e) ((Bq _ _).1 h)
theorem Od{u v:RE}:cls u v=0↔v=0/\0<u:=by
 unfold cls;rcases df v with⟨a,h1⟩|⟨a,h1⟩|⟨a,h1⟩<;>rcases df u with⟨b,h'⟩|⟨b,h'⟩|⟨b,h'⟩<;>rw[h1,h']<;>simp[a,b]<;>first|exact lt_irrefl _|exact λh=>absurd (fF h b) (lt_irrefl _)|(intro h;rw[h]at a;exact absurd a (lt_irrefl _))|skip
end RE
end
section
def xP(p:Pt):Rt:=coR p.1 p.2.1 p.2.2.2.2
def yP(p:Pt):Rt:=coR p.2.2.1 p.2.2.2.1 p.2.2.2.2
def atP(v:Rat×Rat):Pt:=(v.1,0,v.2,0,0)
def rdP(p:Pt):Pt:=(p.1,p.2.1,p.2.2.1,p.2.2.2.1,bif decide (p.2.1=0)&&decide (p.2.2.2.1=0)then 0 else p.2.2.2.2)
def mkP(x y:Rt):Pt:=rdP (x.1,x.2.1,y.1,y.2.1,bif decide (x.2.1=0)then y.2.2 else x.2.2)
def yl(x y:Rt):Prop:=x.2.1=0\/y.2.1=0\/x.2.2=y.2.2
instance (x y:Rt):Decidable (yl x y):=by unfold yl;infer_instance
def aF(p q:Pt):Int:=bif bj (xP p) (xP q)==0 then bj (yP p) (yP q)else bj (xP p) (xP q)
def trP(p:Pt)(v:Rat×Rat):Pt:=(p.1+v.1,p.2.1,p.2.2.1+v.2,p.2.2.2.1,p.2.2.2.2)
def bkV(v:Rat×Rat):Rat×Rat:=(-v.1,-v.2)
def sqA(p:Pt)(v:Rat×Rat):Rat:=(p.1-v.1)*(p.1-v.1)+(p.2.2.1-v.2)*(p.2.2.1-v.2)+(p.2.1*p.2.1+p.2.2.2.1*p.2.2.2.1)*p.2.2.2.2
def sqB(p:Pt)(v:Rat×Rat):Rat:=(p.1-v.1)*p.2.1+(p.2.2.1-v.2)*p.2.2.2.1+((p.1-v.1)*p.2.1+(p.2.2.1-v.2)*p.2.2.2.1)
def sqP(p:Pt)(v:Rat×Rat):Rt:=coR (sqA p v) (sqB p v) p.2.2.2.2
def Ed(p:Pt):Prop:=(p.2.1=0/\p.2.2.2.1=0/\p.2.2.2.2=0)\/(¬(p.2.1=0/\p.2.2.2.1=0)/\0<p.2.2.2.2/\fi p.2.2.2.2=false)
instance (p:Pt):Decidable (Ed p):=by unfold Ed;infer_instance
class Rpd (p:Pt):Prop where
 rd:Ed p
def okP(k:Nat)(x:BP):Prop:=ok Pt k x/\Ed (dec x)
instance (k:Nat) (x:BP):Decidable (okP k x):=by unfold okP;infer_instance
theorem db{k:Nat}{x:BP}(h:okP k x):∃v:Pt,x=enc v/\Bd v k/\Rpd v:=by
 obtain⟨h1,h2⟩:=h;obtain⟨v,rfl,bv⟩:=aH h1;rw[aB]at h2;exact⟨v,rfl,bv,⟨h2⟩⟩
theorem aQ{x:Pt}{j k:Nat}[h:Bd x j][r:Rpd x](hj:j<=k)(hk:k<=480000):decide (okP k (enc x))=true:=afm ⟨afp (okd hj hk),by rw[aB];exact r.rd⟩
theorem Rpd.ns{p:Pt}(h:Rpd p):Ns p.2.2.2.2:=⟨by rcases h.rd with h|h;exact .inl h.2.2;exact .inr h.2⟩
instance ae6 {p:Pt} [h:Rpd p]:Ns p.2.2.2.2:=h.ns
theorem Rpd.nn{p:Pt}(h:Rpd p):0<=p.2.2.2.2:=h.ns.nn
theorem MS{a b c:Rat}(h:Ns c)(hb:b=0\/c≠0):Rdd (coR a b c):=by
 refine⟨?_⟩;unfold coR;by_cases e:b=0
 ·rw[afm e];exact .inl ⟨rfl,rfl⟩
 ·rw[afo e];rcases h.ns with h|h
  ·rcases hb with hb|hb
   ·exact absurd hb e
   ·exact absurd h hb
  ·exact .inr ⟨e,h⟩
theorem Rpd.b0{p:Pt}(h:Rpd p):(p.2.1=0/\p.2.2.2.1=0)\/p.2.2.2.2≠0:=by
 rcases h.rd with h|h
 ·exact .inl ⟨h.1,h.2.1⟩
 ·exact .inr (by have:=h.2.1;grind)
instance ad4 {p:Pt} [h:Rpd p]:Rdd (xP p):=MS h.ns (by rcases h.b0 with h|h;exact .inl h.1;exact .inr h)
instance aeU {p:Pt} [h:Rpd p]:Rdd (yP p):=MS h.ns (by rcases h.b0 with h|h;exact .inl h.2;exact .inr h)
instance ae5 {p:Pt} {v:Rat×Rat} [h:Rpd p]:Rdd (sqP p v):=MS h.ns (by
 rcases h.b0 with h|h
 ·refine .inl ?_;unfold sqB;rw[h.1,h.2];grind
 ·exact .inr h)
instance afa {v:Rat×Rat}:Rpd (atP v):=⟨.inl ⟨rfl,rfl,rfl⟩⟩
instance aff {p:Pt} {v:Rat×Rat} [h:Rpd p]:Rpd (trP p v):=⟨h.rd⟩
theorem aas{x y:Rt}(hx:Rdd x)(hy:Rdd y)(_h:yl x y):Rpd (mkP x y):=by
 refine⟨?_⟩;unfold mkP rdP Ed;dsimp only;rcases hx.rd with⟨a1,a2⟩|⟨a1,a2,a3⟩<;>rcases hy.rd with⟨b1,b2⟩|⟨b1,b2,b3⟩
 ·simp[a1,b1]
 ·simp[a1,b1,b2,b3]
 ·simp[a1,b1,a2,a3]
 ·simp[a1,b1,a2,a3]
section
variable {p:Pt} {j:Nat}
instance afd [h:Bd p j]:Bd (xP p) (mx j (mx j j)):=inferInstanceAs (Bd (coR p.1 p.2.1 p.2.2.2.2) _)
instance ae9 [h:Bd p j]:Bd (yP p) (mx j (mx j j)):=inferInstanceAs (Bd (coR p.2.2.1 p.2.2.2.1 p.2.2.2.2) _)
instance aeu {v:Rat×Rat} [h:Bd v j]:Bd (atP v) (mx j (mx 1 (mx j (mx 1 1)))):=inferInstanceAs (Bd ((v.1,0,v.2,0,0):Pt) _)
instance aeJ {v:Rat×Rat} {k:Nat} [h:Bd p j] [h':Bd v k]:Bd (trP p v) (mx (j+k+1) (mx j (mx (j+k+1) (mx j j)))):=inferInstanceAs (Bd ((p.1+v.1,p.2.1,p.2.2.1+v.2,p.2.2.2.1,p.2.2.2.2):Pt) _)
instance ae8 {v:Rat×Rat} [h:Bd v j]:Bd (bkV v) (mx j j):=inferInstanceAs (Bd ((-v.1,-v.2):Rat×Rat) _)
end
theorem ks{j k n:Nat}(h1:j<=n)(h2:k<=n):mx j k<=n:=by
 unfold mx;cases decide (j<=k)
 ·exact h1
 ·exact h2
section
variable {p:Pt} {v:Rat×Rat} {j k:Nat}
instance aeH [h:Bd p j] [h':Bd v k]:Bd (sqA p v) (10*(j+k+1)):=by
 have a1:Bd (p.1-v.1) _:=inferInstance;have a2:Bd (p.2.2.1-v.2) _:=inferInstance;have a3:Bd (p.2.1*p.2.1+p.2.2.2.1*p.2.2.2.1) _:=inferInstance;have i:Bd ((p.1-v.1)*(p.1-v.1)+(p.2.2.1-v.2)*(p.2.2.1-v.2)+(p.2.1*p.2.1+p.2.2.2.1*p.2.2.2.1)*p.2.2.2.2) _:=inferInstance;exact i.mono (by omega)
instance aec [h:Bd p j] [h':Bd v k]:Bd (sqB p v) (10*(j+k+1)):=by
 have a1:Bd (p.1-v.1) _:=inferInstance;have a2:Bd (p.2.2.1-v.2) _:=inferInstance;have i:Bd ((p.1-v.1)*p.2.1+(p.2.2.1-v.2)*p.2.2.2.1+((p.1-v.1)*p.2.1+(p.2.2.1-v.2)*p.2.2.2.1)) _:=inferInstance;exact i.mono (by omega)
instance aez [h:Bd p j] [h':Bd v k]:Bd (sqP p v) (10*(j+k+1)):=by
 have i:Bd (coR (sqA p v) (sqB p v) p.2.2.2.2) _:=inferInstance;exact i.mono (ks (by omega) (ks (by omega) (by omega)))
end
namespace RE
def pX(p:Pt):RE:=v2 p.1 p.2.1 p.2.2.2.2
def pY(p:Pt):RE:=v2 p.2.2.1 p.2.2.2.1 p.2.2.2.2
def pR(p:Pt):RE×RE:=(pX p,pY p)
theorem uW(p:Pt):vR (xP p)=pX p:=vR_co _ _ _
theorem Qs(p:Pt):vR (yP p)=pY p:=vR_co _ _ _
theorem ny{p:Pt}[h:Rpd p]:0<=(xP p).2.2:=(ad4 (p:=p)).nn
theorem Ho{p:Pt}[h:Rpd p]:0<=(yP p).2.2:=(aeU (p:=p)).nn
theorem lk{p q:Pt}[Rpd p][Rpd q]:aF p q=lxc (pR p) (pR q):=by
 unfold aF lxc;rw[cmpT_re ny ny,cmpT_re Ho Ho,uW,uW,Qs,Qs];rfl
theorem XJ(x y s t c u w:RE):(x+s*c-u)*(x+s*c-u)+(y+t*c-w)*(y+t*c-w)=(x-u)*(x-u)+(y-w)*(y-w)+(s*s+t*t)*(c*c)+((x-u)*s+(y-w)*t+((x-u)*s+(y-w)*t))*c:=by grind
theorem Zd{p:Pt}{v:Rat×Rat}[h:Rpd p]:vR (sqP p v)=(pX p-of v.1)*(pX p-of v.1)+(pY p-of v.2)*(pY p-of v.2):=by
 unfold sqP pX pY;rw[vR_co];unfold v2;rw[XJ,pZ h.nn];unfold sqA sqB;simp only[of_add,of_sub,bS]
theorem adR(v:Rat×Rat):pX (atP v)=of v.1:=d9 _ _
theorem aby(v:Rat×Rat):pY (atP v)=of v.2:=d9 _ _
end RE
end
theorem uP(a b:Rat):(aE a b !=0)=!decide (a=b):=by
 unfold bne;rw[aq]
def Te:List En:=[⟨125,ju,fq⟩,⟨67,jC,fI⟩,⟨132,mA,jk⟩,⟨65,kp,gu⟩,⟨54,jA,fH⟩,⟨66,lI,ik⟩,enT Mp]
def Th(_k:KT):OLR:=og (decide (a9 (0:Int))) (some [RV.d tR (hid (ao ((0:Int):Rat)))])
def abF:Cn 166 []:=cn<|lf True [.d tR (ao 0)] λ_=>by
 refine az Te (Th) ⟨0,?_⟩;unfold Th;rw[dT (show a9 0 by decide)];simp only[bL];rfl
def HR:List En:=enL abF::Te
def Td(v:BV)(_k:KT):OLR:=some [RV.d tP (v.1,(hid (ao 0),(v.2,(hid (ao 0),hid (ao 0)))))]
def ND:Cn 69 [tV]:=cn λ(v:BV)=>lf (ok (Rat×Rat) 100000 v) [.d tP (enc (atP (dec v)))] λh=>by
 refine az HR (Td v) ⟨0,?_⟩;have hv:=h;obtain⟨v,rfl,bv⟩:=aH hv;unfold Td;simp only[aW];try rfl
def V4(p:BP)(_k:KT):OLR:=og (o1 p.2.1) (match(aE (ah p.2.1) 0)==0 with|true=>(og (o1 p.2.2.2.1) (match(aE (ah p.2.2.2.1) 0)==0 with|true=>some [RV.d tP (p.1,(p.2.1,(p.2.2.1,(p.2.2.2.1,hid (ao 0)))))]|false=>some [RV.d tP p]))|false=>some [RV.d tP p])
def adB:Cn 290 [tP]:=cn λ(p:BP)=>lf (ok Pt 21000 p) [.d tP (enc (rdP (dec p)))] λh=>by
 refine az HR (V4 p) ⟨0,?_⟩;have hp:=h;obtain⟨p,rfl,bp⟩:=aH hp;unfold V4;simp only[aW,Nat.reduceLeDiff,aq];unfold rdP;by_cases h1:p.2.1=0
 ·by_cases h2:p.2.2.2.1=0
  ·rw[afm h1,afm h2];rfl
  ·rw[afm h1,afo h2];rfl
 ·rw[afo h1];rfl
def VJ(a b c:BR)(_k:KT):OLR:=og (o1 b) (match(aE (ah b) 0)==0 with|true=>some [RV.d tO (a,(b,hid (ao 0)))]|false=>some [RV.d tO (a,(b,c))])
def aaR:Cn 224 [tR,tR,tR]:=cn λ(a b c:BR)=>lf (okR a/\okR b/\okR c) [.d tO (enc (coR (ah a) (ah b) (ah c)))] λh=>by
 refine az HR (VJ a b c) ⟨0,?_⟩;obtain⟨ha,hb,hc⟩:=h;obtain⟨a,rfl,ba⟩:=eL ha;obtain⟨b,rfl,bb⟩:=eL hb;obtain⟨c,rfl,bc⟩:=eL hc;unfold VJ;simp only[aW,Nat.reduceLeDiff,aq];unfold coR;by_cases e:b=0
 ·subst e;rw[afm rfl];rfl
 ·rw[afo e];rfl
def G7:List En:=enL ND::enL adB::enL aaR::HR
def Ua(x y:BO3)(_k:KT):OLR:=og (o1 x.2.1) (match(aE (ah x.2.1) 0)==0 with|true=>(og (decide (ok Pt 21000 (x.1,(x.2.1,y)))) (some [RV.d tP (hid (enc (rdP (dec (x.1,(x.2.1,y)))))),RV.d aiy 0]))|false=>(og (o1 y.2.1) (match(aE (ah y.2.1) 0) !=0 with|true=>(og (o2 x.2.2 y.2.2) (match(aE (ah x.2.2) (ah y.2.2)) !=0 with|true=>some [RV.d tP (((false,[]),(false,[])),(((false,[]),(false,[])),(((false,[]),(false,[])),(((false,[]),(false,[])),((false,[]),(false,[])))))),RV.d aiy 1]|false=>(og (decide (ok Pt 21000 (x.1,(x.2.1,(y.1,(y.2.1,x.2.2)))))) (some [RV.d tP (hid (enc (rdP (dec (x.1,(x.2.1,(y.1,(y.2.1,x.2.2)))))))),RV.d aiy 0]))))|false=>(og (decide (ok Pt 21000 (x.1,(x.2.1,(y.1,(y.2.1,x.2.2)))))) (some [RV.d tP (hid (enc (rdP (dec (x.1,(x.2.1,(y.1,(y.2.1,x.2.2)))))))),RV.d aiy 0])))))
def ZQ:Cn 232 [tO,tO]:=cn λ(x y:BO3)=>lf (okT 15000 x/\okT 15000 y/\yl (dec x) (dec y)) [.d tP (enc (mkP (dec x) (dec y))),.d aiy 0] λh=>by
 refine az G7 (Ua x y) ⟨0,?_⟩;obtain⟨hx,hy,hy_2⟩:=h;obtain⟨x,rfl,bx,rx⟩:=kv hx;obtain⟨y,rfl,b_y,ry⟩:=kv hy;have i1:decide (ok Pt 21000 (enc ((x.1,x.2.1,y):Pt)))=true:=okd (by decide) (by decide);have i2:decide (ok Pt 21000 (enc ((x.1,x.2.1,y.1,y.2.1,x.2.2):Pt)))=true:=okd (by decide) (by decide);have j1:(dec ((ao x.1,ao x.2.1,enc y):BP):Pt)=(x.1,x.2.1,y):=aB ((x.1,x.2.1,y):Pt);have j2:(dec ((ao x.1,ao x.2.1,ao y.1,ao y.2.1,ao x.2.2):BP):Pt)=(x.1,x.2.1,y.1,y.2.1,x.2.2):=aB ((x.1,x.2.1,y.1,y.2.1,x.2.2):Pt);have i1:decide (ok Pt 21000 ((ao x.1,ao x.2.1,enc y):BP))=true:=i1;have i2:decide (ok Pt 21000 ((ao x.1,ao x.2.1,ao y.1,ao y.2.1,ao x.2.2):BP))=true:=i2;have hm:=hy_2;rw[aB,aB]at hm;unfold Ua;simp only[aW,Nat.reduceLeDiff,aq,uP,i1,i2,j1,j2];unfold mkP;by_cases e1:x.2.1=0
 ·rw[afm e1];rfl
 ·rw[afo e1];by_cases e2:y.2.1=0
  ·rw[afm e2];rfl
  ·rw[afo e2,afm ((hm.resolve_left e1).resolve_left e2)];rfl
def Zu(p:BP)(_k:KT):OLR:=og (decide (okR p.1/\okR p.2.1/\okR p.2.2.2.2)) (some [RV.d tO (hid (enc (coR (ah p.1) (ah p.2.1) (ah p.2.2.2.2))))])
def ab5:Cn 202 [tP]:=cn λ(p:BP)=>lf (okP 4000 p) [.d tO (enc (xP (dec p)))] λh=>by
 refine az G7 (Zu p) ⟨0,?_⟩;have hp:=h;obtain⟨p,rfl,bp,rp⟩:=db hp;unfold Zu;simp only[aW,Nat.reduceLeDiff];try rfl
def aci(p:BP)(_k:KT):OLR:=og (decide (okR p.2.2.1/\okR p.2.2.2.1/\okR p.2.2.2.2)) (some [RV.d tO (hid (enc (coR (ah p.2.2.1) (ah p.2.2.2.1) (ah p.2.2.2.2))))])
def abj:Cn 203 [tP]:=cn λ(p:BP)=>lf (okP 4000 p) [.d tO (enc (yP (dec p)))] λh=>by
 refine az G7 (aci p) ⟨0,?_⟩;have hp:=h;obtain⟨p,rfl,bp,rp⟩:=db hp;unfold aci;simp only[aW,Nat.reduceLeDiff];try rfl
def ads:List En:=enL ab5::enL abj::G7
def SG(p q:BP)(_k:KT):OLR:=og (decide (okP 4000 p)) (og (decide (okP 4000 q)) (og (decide (okT 15000 (hid (enc (xP (dec p))))/\okT 15000 (hid (enc (xP (dec q)))))) (match(bj (dec (hid (enc (xP (dec p))))) (dec (hid (enc (xP (dec q)))))) !=0 with|true=>some [RV.d aiy (bj (dec (hid (enc (xP (dec p))))) (dec (hid (enc (xP (dec q))))))]|false=>(og (decide (okP 4000 p)) (og (decide (okP 4000 q)) (og (decide (okT 15000 (hid (enc (yP (dec p))))/\okT 15000 (hid (enc (yP (dec q)))))) (some [RV.d aiy (bj (dec (hid (enc (yP (dec p))))) (dec (hid (enc (yP (dec q))))))])))))))
def Pw:Cn 103 [tP,tP]:=cn λ(p q:BP)=>lf (okP 4000 p/\okP 4000 q) [.d aiy (aF (dec p) (dec q))] λh=>by
 refine az ads (SG p q) ⟨0,?_⟩;obtain⟨hp,hq⟩:=h;obtain⟨p,rfl,bp,rp⟩:=db hp;obtain⟨q,rfl,bq,rq⟩:=db hq;unfold SG;simp only[aW,Nat.reduceLeDiff,aP,aQ];unfold aF bne;cases bj (xP p) (xP q)==0<;>rfl
section
def IY(l:Ln)(p:Pt):Rat:=l.1*p.1+l.2.1*p.2.2.1-l.2.2
def IF(l:Ln)(p:Pt):Rat:=l.1*p.2.1+l.2.1*p.2.2.2.1
def tK(l:Ln)(p:Pt):Int:=gn (IY l p) (IF l p) p.2.2.2.2
def ctr(c:Ln):Rat×Rat:=(c.1,c.2.1)
def n6(c:Ln)(p:Pt):Int:= -gn (sqA p (ctr c)-c.2.2) (sqB p (ctr c)) p.2.2.2.2
def Cc(l:Ln)(v:Rat×Rat):Rat:=(l.1*v.1+l.2.1*v.2-l.2.2)/(l.1*l.1+l.2.1*l.2.1)
def DP(l:Ln)(v:Rat×Rat):Rat×Rat:=(v.1-Cc l v*l.1,v.2-Cc l v*l.2.1)
section
variable {l:Ln} {p:Pt} {v:Rat×Rat} {i j k:Nat}
instance aeV [h:Bd l i]:Bd (ctr l) (mx i i):=inferInstanceAs (Bd ((l.1,l.2.1):Rat×Rat) _)
instance adT [h:Bd l i] [h':Bd p j]:Bd (IY l p) ((i+j)+(i+j)+1+i+1):=inferInstanceAs (Bd (l.1*p.1+l.2.1*p.2.2.1-l.2.2) _)
instance adX [h:Bd l i] [h':Bd p j]:Bd (IF l p) ((i+j)+(i+j)+1):=inferInstanceAs (Bd (l.1*p.2.1+l.2.1*p.2.2.2.1) _)
end
theorem zQ{a b:Rat}(h:a≠0\/b≠0):a*a+b*b≠0:=by
 have ha:0<=a*a:=by
  rcases(by grind:0<=a\/0<= -a)with h|h
  ·exact af6 h h
  ·have:=af6 h h;grind
 have hb:0<=b*b:=by
  rcases(by grind:0<=b\/0<= -b)with h|h
  ·exact af6 h h
  ·have:=af6 h h;grind
 intro e;have e1:a*a=0:=by grind
 have e2:b*b=0:=by grind
 rcases h with h|h
 ·exact h (by rcases ah4.1 e1 with h|h<;>exact h)
 ·exact h (by rcases ah4.1 e2 with h|h<;>exact h)
namespace RE
theorem WL(a b x s y t c r:RE):a*(x+s*r)+b*(y+t*r)+ -c=a*x+b*y-c+(a*s+b*t)*r:=by grind
theorem abD(a b q r:RE):a+b*r+ -q=a-q+b*r:=by grind
theorem Mm(a b:RE):a+ -b=a-b:=rfl
theorem Aa(l:Ln){p:Pt}[h:Rpd p]:tK l p=sg (of l.1*pX p+of l.2.1*pY p+ -of l.2.2):=by
 unfold tK pX pY;rw[sgn2_re h.nn];unfold v2;rw[WL];unfold IY IF;simp only[of_add,of_sub,bS]
theorem Ah(c:Ln){p:Pt}[h:Rpd p]:n6 c p= -sg ((pX p-of c.1)*(pX p-of c.1)+(pY p-of c.2.1)*(pY p-of c.2.1)+ -of c.2.2):=by
 unfold n6;have e:=Zd (p:=p) (v:=ctr c);unfold sqP at e;rw[vR_co]at e;rw[sgn2_re h.nn];unfold v2 at e ⊢;rw[of_sub,<-abD,e];rfl
theorem sidL_ok(l:Ln){p:Pt}[Rpd p](h:(wX l p).2=true):(wX l p).1=tK l p:=by
 rw[QK h,Aa];try rfl
theorem insC_ok(c:Ln){p:Pt}[Rpd p](h:(tJ c p).2=true): -(tJ c p).1=n6 c p:=by
 rw[RH h,Ah];simp only[Mm];try rfl
end RE
end
def jc(r s:Rt):Rat:=bif decide (r.2.1=0)then s.2.2 else r.2.2
def qP(r s:Rt):Bool:=decide (r.2.1=0)||(decide (s.2.1=0)||decide (r.2.2=s.2.2))
def nA(r s:Rt):Rt:=l7 (r.1*s.1+r.2.1*s.2.1*jc r s) (r.1*s.2.1+r.2.1*s.1) (jc r s)
def yb(r s:Rt):Rt:=l7 (r.1+s.1) (r.2.1+s.2.1) (jc r s)
def arT(r:Rt)(a:Rat):Rt:=(r.1+a,r.2.1,r.2.2)
theorem bg(a b:Rat):(aE a b !=0)=!decide (a=b):=by
 unfold bne;rw[aq]
instance ad7 {r s:Rt} {i j:Nat} [h:Bd r i] [h':Bd s j]:Bd (jc r s) (mx j i):=inferInstanceAs (Bd (bif decide (r.2.1=0)then s.2.2 else r.2.2) _)
instance adV {a b c:Rat} {i j k:Nat} [ha:Bd a i] [hb:Bd b j] [hc:Bd c k]:Bd (l7 a b c) (mx i (mx j k)):=by
 have h1:=FV i (mx j k);have h2:=EG i (mx j k);have h3:=FV j k;have h4:=EG j k;have h5:=ri ha.le;have z:bdR (mx i (mx j k)) 0:=cj rB.le (by omega);refine⟨?_⟩;unfold l7;cases decide (b=0)
 ·cases decide (c=0)
  ·exact⟨cj ha.le (by omega),cj hb.le (by omega),cj hc.le (by omega)⟩
  ·exact⟨cj ha.le (by omega),z,z⟩
 ·exact⟨cj ha.le (by omega),z,z⟩
theorem IR(r:Rt):qP r r=true:=by
 unfold qP;rw[afm (rfl:r.2.2=r.2.2)];simp
theorem HF{p:Pt}{v:Rat×Rat}(h:Rpd p):qP (nA (xP (trP p (bkV v))) (xP (trP p (bkV v)))) (nA (yP (trP p (bkV v))) (yP (trP p (bkV v))))=true/\yb (nA (xP (trP p (bkV v))) (xP (trP p (bkV v)))) (nA (yP (trP p (bkV v))) (yP (trP p (bkV v))))=sqP p v:=by
 obtain⟨ax,bx,ay,b_,c⟩:=p;have hr:=h.rd;unfold Ed at hr;simp only at hr;unfold sqP sqA sqB xP yP trP bkV;simp only;rw[show ax+ -v.1=ax-v.1 by grind,show ay+ -v.2=ay-v.2 by grind];generalize ax-v.1=x;generalize ay-v.2=y;rcases hr with⟨rfl,rfl,rfl⟩|⟨h1,h2,h3⟩
 ·have e0:∀a:Rat,coR a 0 0=(a,0,0):=λa=>rfl
  have e1:∀a:Rat,nA (a,0,0) (a,0,0)=(a*a,0,0):=λa=>by
   unfold nA jc l7;simp;grind
  rw[e0,e0,e1,e1];refine⟨rfl,?_⟩;rw[show x*0+y*0+(x*0+y*0)=(0:Rat) by grind];unfold yb jc l7 coR;simp;grind
 ·have hc:c≠0:=by grind
  have dc:decide (c=0)=false:=afo hc
  have sq0:∀a:Rat,nA (coR a 0 c) (coR a 0 c)=(a*a,0,0):=λa=>by
   unfold coR;rw[afm rfl];unfold nA jc l7;simp;grind
  have sq1:∀a b:Rat,b≠0->nA (coR a b c) (coR a b c)=coR (a*a+b*b*c) (a*b+b*a) c:=λa b hb=>by
   have e:coR a b c=(a,b,c):=by unfold coR;rw[afo hb];rfl
   rw[e];unfold nA jc l7 coR;simp only[afo hb,cond_false,dc]
  have cR:∀a b:Rat,l7 a b c=coR a b c:=λa b=>by unfold l7 coR;rw[dc];rfl
  have ad:∀a b d e:Rat,qP (coR a b c) (coR d e c)=true/\(b≠0\/e≠0->yb (coR a b c) (coR d e c)=coR (a+d) (b+e) c)/\(b=0->e=0->yb (coR a b c) (coR d e c)=(a+d,0,0)):=λa b d e=>by
   by_cases hb:b=0
   ·subst hb;by_cases he:e=0
    ·subst he;refine⟨rfl,λh=>by simp at h,λ_ _=>?_⟩;unfold coR yb jc l7;simp
    ·refine⟨rfl,λ_=>?_,λ_ h=>absurd h he⟩;have e1:coR a 0 c=(a,0,0):=rfl;have e2:coR d e c=(d,e,c):=by unfold coR;rw[afo he];rfl
     rw[e1,e2];show l7 (a+d) (0+e) c=_;rw[cR]
   ·have e1:coR a b c=(a,b,c):=by unfold coR;rw[afo hb];rfl
    by_cases he:e=0
    ·subst he;have e2:coR d 0 c=(d,0,0):=rfl;refine⟨by rw[e1,e2];simp[qP],λ_=>?_,λh=>absurd h hb⟩;rw[e1,e2];unfold yb jc;simp only[afo hb,cond_false];rw[cR]
    ·have e2:coR d e c=(d,e,c):=by unfold coR;rw[afo he];rfl
     refine⟨by rw[e1,e2];simp[qP],λ_=>?_,λh=>absurd h hb⟩;rw[e1,e2];unfold yb jc;simp only[afo hb,cond_false];rw[cR]
  have c0:∀a:Rat,((a,0,0):Rt)=coR a 0 c:=λa=>rfl;by_cases hx:bx=0
  ·subst hx;have hy:b_≠0:=λe=>h1 ⟨rfl,e⟩;rw[sq0,sq1 _ _ hy,c0];obtain⟨g1,g2,g3⟩:=ad (x*x) 0 (y*y+b_*b_*c) (y*b_+b_*y);refine⟨g1,?_⟩;by_cases he:y*b_+b_*y=0
   ·rw[g3 rfl he,show x*0+y*b_+(x*0+y*b_)=0 by grind];show _=coR _ 0 c;rw[<-c0];congr 1;grind
   ·rw[g2 (.inr he)];congr 1<;>grind
  ·by_cases hy:b_=0
   ·subst hy;rw[sq0,sq1 _ _ hx,c0];obtain⟨g1,g2,g3⟩:=ad (x*x+bx*bx*c) (x*bx+bx*x) (y*y) 0;refine⟨g1,?_⟩;by_cases he:x*bx+bx*x=0
    ·rw[g3 he rfl,show x*bx+y*0+(x*bx+y*0)=0 by grind];show _=coR _ 0 c;rw[<-c0];congr 1;grind
    ·rw[g2 (.inl he)];congr 1<;>grind
   ·rw[sq1 _ _ hx,sq1 _ _ hy];obtain⟨g1,g2,g3⟩:=ad (x*x+bx*bx*c) (x*bx+bx*x) (y*y+b_*b_*c) (y*b_+b_*y);refine⟨g1,?_⟩;by_cases h0:x*bx+bx*x=0/\y*b_+b_*y=0
    ·rw[g3 h0.1 h0.2,show x*bx+y*b_+(x*bx+y*b_)=0 by grind];show _=coR _ 0 c;rw[<-c0];congr 1;grind
    ·rw[g2 (by by_cases e:x*bx+bx*x=0;exact .inr (λe'=>h0 ⟨e,e'⟩);exact .inl e)];congr 1<;>grind
theorem Rpd.com{p:Pt}{v:Rat×Rat}(h:Rpd p):qP (nA (xP (trP p (bkV v))) (xP (trP p (bkV v)))) (nA (yP (trP p (bkV v))) (yP (trP p (bkV v))))=true:=(HF h).1
instance adU {r s:Rt} {i j:Nat} [h:Bd r i] [h':Bd s j]:Bd (nA r s) (2*(i+j)+(mx j i)+1):=by
 have m:Bd (jc r s) (mx j i):=inferInstance;have a1:Bd (r.1*s.1+r.2.1*s.2.1*jc r s) _:=inferInstance;have a2:Bd (r.1*s.2.1+r.2.1*s.1) _:=inferInstance;have i1:Bd (l7 (r.1*s.1+r.2.1*s.2.1*jc r s) (r.1*s.2.1+r.2.1*s.1) (jc r s)) _:=inferInstance;exact i1.mono (ks (by omega) (ks (by omega) (by omega)))
instance ad2 {r s:Rt} {i j:Nat} [h:Bd r i] [h':Bd s j]:Bd (yb r s) (i+j+1):=by
 have i1:Bd (l7 (r.1+s.1) (r.2.1+s.2.1) (jc r s)) _:=inferInstance;exact i1.mono (ks (by omega) (ks (by omega) (ks (by omega) (by omega))))
instance aej {r:Rt} {a:Rat} {i j:Nat} [h:Bd r i] [h':Bd a j]:Bd (arT r a) (i+j+1):=by
 have i1:Bd ((r.1+a,r.2.1,r.2.2):Rt) _:=inferInstance;exact i1.mono (ks (by omega) (ks (by omega) (by omega)))
def zq:List En:=[enT nh,enL qx,enL re,enL qr,enT tC,enL ux,enL Ks,enL Ou,enL Kc,enT Fe,enT N7]
def Kk(r s:BO3)(_k:KT):OLR:=og (o1 r.2.1) (match(aE (ah r.2.1) 0)==0 with|true=>some [RV.d tR s.2.2,RV.d .bool true]|false=>(og (o1 s.2.1) (match(aE (ah s.2.1) 0)==0 with|true=>some [RV.d tR r.2.2,RV.d .bool true]|false=>(og (o2 r.2.2 s.2.2) (some [RV.d tR r.2.2,RV.d .bool ((aE (ah r.2.2) (ah s.2.2))==0)])))))
def WH:Cn 294 [tO,tO]:=cn λ(r s:BO3)=>lf (ok Rt 100000 r/\ok Rt 100000 s) [.d tR (ao (jc (dec r) (dec s))),.d .bool (qP (dec r) (dec s))] λh=>by
 refine az zq (Kk r s) ⟨0,?_⟩;obtain⟨hr,hs⟩:=h;obtain⟨r,rfl,br⟩:=aH hr;obtain⟨s,rfl,bs⟩:=aH hs;unfold Kk;simp only[aW,Nat.reduceLeDiff,aq];unfold jc qP;cases decide (r.2.1=0)<;>cases decide (s.2.1=0)<;>rfl
def Jr(r:BO3)(a:BR)(_k:KT):OLR:=og (o2 r.1 a) (some [RV.d tO (hAd r.1 a,r.2)])
def N5:Cn 280 [tO,tR]:=cn λ(r:BO3) (a:BR)=>lf (ok Rt 100000 r/\ok Rat 100000 a) [.d tO (enc (arT (dec r) (ah a)))] λh=>by
 refine az zq (Jr r a) ⟨0,?_⟩;obtain⟨hr,ha⟩:=h;obtain⟨r,rfl,br⟩:=aH hr;obtain⟨a,rfl,ba⟩:=aH ha;unfold Jr;simp only[aW,Nat.reduceLeDiff];rfl
def LU(_k:KT):OLR:=og (decide (a9 (0:Int))) (some [RV.d tR (hid (ao ((0:Int):Rat)))])
def Wh:Cn 86 []:=cn<|lf True [.d tR (ao 0)] λ_=>by
 refine az zq (LU) ⟨0,?_⟩;unfold LU;rw[dT (show a9 0 by decide)];simp only[bL];rfl
def NX(p:BP)(v:BV)(_k:KT):OLR:=og (o2 p.1 v.1) (og (o2 p.2.2.1 v.2) (some [RV.d tP (hAd p.1 v.1,(p.2.1,(hAd p.2.2.1 v.2,p.2.2.2)))]))
def X9:Cn 235 [tP,tV]:=cn λ(p:BP) (v:BV)=>lf (ok Pt 21000 p/\ok (Rat×Rat) 1000 v) [.d tP (enc (trP (dec p) (dec v)))] λh=>by
 refine az zq (NX p v) ⟨0,?_⟩;obtain⟨hp,hv⟩:=h;obtain⟨p,rfl,bp⟩:=aH hp;obtain⟨v,rfl,bv⟩:=aH hv;unfold NX;simp only[aW,Nat.reduceLeDiff];rfl
def M5(v:BV)(_k:KT):OLR:=og (o1 v.1) (og (o1 v.2) (some [RV.d tV (hNe v.1,hNe v.2)]))
def WK:Cn 236 [tV]:=cn λ(v:BV)=>lf (ok (Rat×Rat) 21000 v) [.d tV (enc (bkV (dec v)))] λh=>by
 refine az zq (M5 v) ⟨0,?_⟩;have hv:=h;obtain⟨v,rfl,bv⟩:=aH hv;unfold M5;simp only[aW,Nat.reduceLeDiff];rfl
def Mk:List En:=enL WH::enL N5::enL Wh::enL X9::enL WK::zq
def Na(r s:BO3)(_k:KT):OLR:=og (decide (ok Rt 100000 r/\ok Rt 100000 s)) (match !(qP (dec r) (dec s))with|true=>some [RV.d tO (((false,[]),(false,[])),(((false,[]),(false,[])),((false,[]),(false,[])))),RV.d aiy 1]|false=>(og (o2 r.1 s.1) (og (o2 r.2.1 s.2.1) (og (o2 (hMu r.2.1 s.2.1) (hid (ao (jc (dec r) (dec s))))) (og (o2 (hMu r.1 s.1) (hMu (hMu r.2.1 s.2.1) (hid (ao (jc (dec r) (dec s)))))) (og (o2 r.1 s.2.1) (og (o2 r.2.1 s.1) (og (o2 (hMu r.1 s.2.1) (hMu r.2.1 s.1)) (og (decide (okR (hAd (hMu r.1 s.1) (hMu (hMu r.2.1 s.2.1) (hid (ao (jc (dec r) (dec s))))))/\okR (hAd (hMu r.1 s.2.1) (hMu r.2.1 s.1))/\okR (hid (ao (jc (dec r) (dec s)))))) (some [RV.d tO (hid (enc (l7 (ah (hAd (hMu r.1 s.1) (hMu (hMu r.2.1 s.2.1) (hid (ao (jc (dec r) (dec s))))))) (ah (hAd (hMu r.1 s.2.1) (hMu r.2.1 s.1))) (ah (hid (ao (jc (dec r) (dec s)))))))),RV.d aiy 0]))))))))))
def YE:Cn 295 [tO,tO]:=cn λ(r s:BO3)=>lf (ok Rt 50000 r/\ok Rt 50000 s/\qP (dec r) (dec s)=true) [.d tO (enc (nA (dec r) (dec s))),.d aiy 0] λh=>by
 refine az Mk (Na r s) ⟨0,?_⟩;obtain⟨hr,hs,htrue⟩:=h;obtain⟨r,rfl,br⟩:=aH hr;obtain⟨s,rfl,bs⟩:=aH hs;have hm:=htrue;rw[aB,aB]at hm;unfold Na;simp only[aW,Nat.reduceAdd,Nat.reduceLeDiff,hm,Bool.not_true];rfl
def J7(r s:BO3)(_k:KT):OLR:=og (decide (ok Rt 100000 r/\ok Rt 100000 s)) (match !(qP (dec r) (dec s))with|true=>some [RV.d tO (((false,[]),(false,[])),(((false,[]),(false,[])),((false,[]),(false,[])))),RV.d aiy 1]|false=>(og (o2 r.1 s.1) (og (o2 r.2.1 s.2.1) (og (decide (okR (hAd r.1 s.1)/\okR (hAd r.2.1 s.2.1)/\okR (hid (ao (jc (dec r) (dec s)))))) (some [RV.d tO (hid (enc (l7 (ah (hAd r.1 s.1)) (ah (hAd r.2.1 s.2.1)) (ah (hid (ao (jc (dec r) (dec s)))))))),RV.d aiy 0])))))
def X7:Cn 237 [tO,tO]:=cn λ(r s:BO3)=>lf (ok Rt 100000 r/\ok Rt 100000 s/\qP (dec r) (dec s)=true) [.d tO (enc (yb (dec r) (dec s))),.d aiy 0] λh=>by
 refine az Mk (J7 r s) ⟨0,?_⟩;obtain⟨hr,hs,htrue⟩:=h;obtain⟨r,rfl,br⟩:=aH hr;obtain⟨s,rfl,bs⟩:=aH hs;have hm:=htrue;rw[aB,aB]at hm;unfold J7;simp only[aW,Nat.reduceAdd,Nat.reduceLeDiff,hm,Bool.not_true];rfl
def BF:List En:=enL YE::enL X7::Mk
def Mu(r:BO3)(_k:KT):OLR:=og (decide (ok Rt 50000 r/\ok Rt 50000 r/\qP (dec r) (dec r)=true)) (some [RV.d tO (hid (enc (nA (dec r) (dec r))))])
def Zi:Cn 238 [tO]:=cn λ(r:BO3)=>lf (ok Rt 50000 r) [.d tO (enc (nA (dec r) (dec r)))] λh=>by
 refine az BF (Mu r) ⟨0,?_⟩;have hr:=h;obtain⟨r,rfl,br⟩:=aH hr;unfold Mu;simp only[aW,Nat.reduceLeDiff,IR]
def KW(v:BV)(_k:KT):OLR:=some [RV.d tP (v.1,(hid (ao 0),(v.2,(hid (ao 0),hid (ao 0)))))]
def zR:Cn 29 [tV]:=cn λ(v:BV)=>lf (ok (Rat×Rat) 100000 v) [.d tP (enc (atP (dec v)))] λh=>by
 refine az BF (KW v) ⟨0,?_⟩;have hv:=h;obtain⟨v,rfl,bv⟩:=aH hv;unfold KW;simp only[aW];try rfl
def J4(a b c d e:BR)(_k:KT):OLR:=og (o1 b) (match(aE (ah b) 0)==0 with|true=>(og (o1 d) (match(aE (ah d) 0)==0 with|true=>some [RV.d tP (a,(b,(c,(d,hid (ao 0)))))]|false=>some [RV.d tP (a,(b,(c,(d,e))))]))|false=>some [RV.d tP (a,(b,(c,(d,e))))])
def Wq:Cn 321 [tR,tR,tR,tR,tR]:=cn λ(a b c d e:BR)=>lf (okR a/\okR b/\okR c/\okR d/\okR e) [.d tP (enc (rdP (ah a,ah b,ah c,ah d,ah e)))] λh=>by
 refine az BF (J4 a b c d e) ⟨0,?_⟩;obtain⟨ha,hb,hc,hd,he⟩:=h;obtain⟨a,rfl,ba⟩:=eL ha;obtain⟨b,rfl,bb⟩:=eL hb;obtain⟨c,rfl,bc⟩:=eL hc;obtain⟨d,rfl,bd⟩:=eL hd;obtain⟨e,rfl,be⟩:=eL he;unfold J4;simp only[aW,Nat.reduceLeDiff,aq];unfold rdP;by_cases h1:b=0
 ·by_cases h2:d=0
  ·rw[afm h1,afm h2];rfl
  ·rw[afm h1,afo h2];rfl
 ·rw[afo h1];rfl
def Ml(a b c:BR)(_k:KT):OLR:=og (o1 b) (match(aE (ah b) 0)==0 with|true=>(og (o1 a) (some [RV.d tO (hid (enc ((ah a,0,0):Rt)))]))|false=>some [RV.d tO (a,(b,c))])
def Xc:Cn 88 [tR,tR,tR]:=cn λ(a b c:BR)=>lf (okR a/\okR b/\okR c) [.d tO (enc (coR (ah a) (ah b) (ah c)))] λh=>by
 refine az BF (Ml a b c) ⟨0,?_⟩;obtain⟨ha,hb,hc⟩:=h;obtain⟨a,rfl,ba⟩:=eL ha;obtain⟨b,rfl,bb⟩:=eL hb;obtain⟨c,rfl,bc⟩:=eL hc;unfold Ml;simp only[aW,aD,Nat.reduceLeDiff,aq];unfold coR;by_cases e:b=0
 ·subst e;rw[afm rfl];rfl
 ·rw[afo e];rfl
def GV:List En:=enL Zi::enL zR::enL Wq::enL Xc::BF
def Kx(x y:BO3)(_k:KT):OLR:=let y1:=aE (ah x.2.1) 0;let y2:OLR:=match decide (okR x.2.1)with|true=>(match y1==0 with|true=>(og (decide (okR x.1/\okR x.2.1/\okR y.1/\okR y.2.1/\okR y.2.2)) (some [RV.d tP (hid (enc (rdP (ah x.1,ah x.2.1,ah y.1,ah y.2.1,ah y.2.2)))),RV.d aiy 0]))|false=>(og (decide (okR x.1/\okR x.2.1/\okR y.1/\okR y.2.1/\okR x.2.2)) (some [RV.d tP (hid (enc (rdP (ah x.1,ah x.2.1,ah y.1,ah y.2.1,ah x.2.2)))),RV.d aiy 0])))|false=>none;og (o1 x.2.1) (match y1 !=0 with|true=>(og (o1 y.2.1) (match(aE (ah y.2.1) 0) !=0 with|true=>(og (o2 x.2.2 y.2.2) (match(aE (ah x.2.2) (ah y.2.2)) !=0 with|true=>some [RV.d tP (((false,[]),(false,[])),(((false,[]),(false,[])),(((false,[]),(false,[])),(((false,[]),(false,[])),((false,[]),(false,[])))))),RV.d aiy 1]|false=>y2))|false=>y2))|false=>y2)
def Xx:Cn 297 [tO,tO]:=cn λ(x y:BO3)=>lf (okT 15000 x/\okT 15000 y/\yl (dec x) (dec y)) [.d tP (enc (mkP (dec x) (dec y))),.d aiy 0] λh=>by
 refine az GV (Kx x y) ⟨0,?_⟩;obtain⟨hx,hy,hy_2⟩:=h;obtain⟨x,rfl,bx,rx⟩:=kv hx;obtain⟨y,rfl,b_y,ry⟩:=kv hy;have hm:=hy_2;rw[aB,aB]at hm;unfold Kx;simp only[aW,Nat.reduceLeDiff,aq,bg];unfold mkP;by_cases e1:x.2.1=0
 ·rw[afm e1];rfl
 ·rw[afo e1];by_cases e2:y.2.1=0
  ·rw[afm e2];rfl
  ·rw[afo e2,afm ((hm.resolve_left e1).resolve_left e2)];rfl
def Ur(p:BP)(_k:KT):OLR:=og (decide (okR p.1/\okR p.2.1/\okR p.2.2.2.2)) (some [RV.d tO (hid (enc (coR (ah p.1) (ah p.2.1) (ah p.2.2.2.2))))])
def L8:Cn 31 [tP]:=cn λ(p:BP)=>lf (okP 4000 p) [.d tO (enc (xP (dec p)))] λh=>by
 refine az GV (Ur p) ⟨0,?_⟩;have hp:=h;obtain⟨p,rfl,bp,rp⟩:=db hp;unfold Ur;simp only[aW,Nat.reduceLeDiff];try rfl
def SO(p:BP)(_k:KT):OLR:=og (decide (okR p.2.2.1/\okR p.2.2.2.1/\okR p.2.2.2.2)) (some [RV.d tO (hid (enc (coR (ah p.2.2.1) (ah p.2.2.2.1) (ah p.2.2.2.2))))])
def Tt:Cn 94 [tP]:=cn λ(p:BP)=>lf (okP 4000 p) [.d tO (enc (yP (dec p)))] λh=>by
 refine az GV (SO p) ⟨0,?_⟩;have hp:=h;obtain⟨p,rfl,bp,rp⟩:=db hp;unfold SO;simp only[aW,Nat.reduceLeDiff];try rfl
def S2:List En:=enL L8::enL Tt::GV
def Lb(p q:BP)(_k:KT):OLR:=og (decide (okP 4000 p)) (og (decide (okP 4000 q)) (og (decide (okT 15000 (hid (enc (xP (dec p))))/\okT 15000 (hid (enc (xP (dec q)))))) (match(bj (dec (hid (enc (xP (dec p))))) (dec (hid (enc (xP (dec q)))))) !=0 with|true=>some [RV.d aiy (bj (dec (hid (enc (xP (dec p))))) (dec (hid (enc (xP (dec q))))))]|false=>(og (decide (okP 4000 p)) (og (decide (okP 4000 q)) (og (decide (okT 15000 (hid (enc (yP (dec p))))/\okT 15000 (hid (enc (yP (dec q)))))) (some [RV.d aiy (bj (dec (hid (enc (yP (dec p))))) (dec (hid (enc (yP (dec q))))))])))))))
def ul:Cn 35 [tP,tP]:=cn λ(p q:BP)=>lf (okP 4000 p/\okP 4000 q) [.d aiy (aF (dec p) (dec q))] λh=>by
 refine az S2 (Lb p q) ⟨0,?_⟩;obtain⟨hp,hq⟩:=h;obtain⟨p,rfl,bp,rp⟩:=db hp;obtain⟨q,rfl,bq,rq⟩:=db hq;unfold Lb;simp only[aW,Nat.reduceLeDiff,aP,aQ];unfold aF bne;cases bj (xP p) (xP q)==0<;>rfl
def UK:List En:=enL Xx::enT ul::S2
def JR(p q:BP)(_k:KT):OLR:=og (decide (okP 4000 p/\okP 4000 q)) (some [RV.d .bool ((aF (dec p) (dec q))==0)])
def ue:Cn 12 [tP,tP]:=cn λ(p q:BP)=>lf (okP 4000 p/\okP 4000 q) [.d .bool (aF (dec p) (dec q)==0)] λh=>by
 refine az UK (JR p q) ⟨0,?_⟩;unfold JR;rw[dT h]
def Md(p:BP)(v:BV)(_k:KT):OLR:=let y1:=hid (enc (bkV (dec v)));let y2:=hid (enc (trP (dec p) (dec y1)));let y3:=hid (enc (xP (dec y2)));let y4:=hid (enc (yP (dec y2)));let y5:=hid (enc (nA (dec y3) (dec y3)));let y6:=hid (enc (nA (dec y4) (dec y4)));og (decide (ok (Rat×Rat) 21000 v)) (og (decide (ok Pt 21000 p/\ok (Rat×Rat) 1000 y1)) (og (decide (okP 4000 y2)) (og (decide (ok Rt 50000 y3)) (og (decide (okP 4000 y2)) (og (decide (ok Rt 50000 y4)) (og (decide (ok Rt 100000 y5/\ok Rt 100000 y6/\qP (dec y5) (dec y6)=true)) (some [RV.d tO (hid (enc (yb (dec y5) (dec y6))))])))))))
def Y3:Cn 142 [tP,tV]:=cn λ(p:BP) (v:BV)=>lf (okP 3500 p/\ok (Rat×Rat) 300 v) [.d tO (enc (sqP (dec p) (dec v)))] λh=>by
 refine az UK (Md p v) ⟨0,?_⟩;obtain⟨hp,hv⟩:=h;obtain⟨p,rfl,bp,rp⟩:=db hp;obtain⟨v,rfl,bv⟩:=aH hv;obtain⟨e1,e2⟩:=HF (v:=v) rp;unfold Md;simp only[aW,Nat.reduceAdd,Nat.reduceMul,Nat.reduceLeDiff,aQ,e1];rw[e2]
end Go.Proofs.YtagbmoohboleaaaGreat
end
