/- Intervals: the contracts of products, roots and sides. -/
import Derived.Test.YtagbmoohboleaaaGreatK11
import Derived.Test.YtagbmoohboleaaaGreatK1
import Derived.Lib.LazyBuf
import Derived.Test.YtagbmoohboleaaaGreatK6
import Derived.Test.YtagbmoohboleaaaGreatK10
noncomputable section
namespace Go.Proofs.YtagbmoohboleaaaGreat
open Go.RowKit Go.IntKind
theorem apr:type_of% @Rat.mul_eq_zero:=@Rat.mul_eq_zero
theorem Sf{z:Int}(h:aJ z):okI (ai z):=aW (by have:=lh h;omega)
theorem I6{n:Int}(h:Ee n):0<=fo n/\fo n<=2305843009213693952:=by
 obtain⟨h0,h1⟩:=h;unfold fo;obtain⟨g0,g1,g2⟩:=ic (z:=n*65536) (by omega);refine⟨g0,?_⟩;rcases anL 2305843009213693952 (bO (n*65536))with h|h
 ·have:2305843009213693952*2305843009213693952<=bO (n*65536)*bO (n*65536):=apk (by omega) (by omega) (by omega) (by omega);omega
 ·exact h
theorem PR{a b:Iv}(ha:prI a)(hb:prI b){x y:Int}(hx:x=a.1\/x=a.2)(hy:y=b.1\/y=b.2):scP x y:=by
 obtain⟨a1,a2,a3⟩:=ha;obtain⟨b1,b2,b3⟩:=hb;constructor
 ·rcases hx with rfl|rfl<;>omega
 ·rcases hy with rfl|rfl<;>omega
theorem akK{α:Type}(b:Bool)(x y:α):(match b with|true=>x|false=>y)=bif b then x else y:=by cases b<;>rfl
def TO:fb:=spN false true [aqw] (λx=>decide (aJ x.1)) (λx=>[RV.d tI (hid (ai x.1))])
theorem NU:SpK 223 TO:=spX λx h=>by simp only[bL];exact KA x.1 (anf h)
def KK:List En:=[⟨125,jn,fO⟩,⟨67,iV,fA⟩,⟨133,mv,iu⟩,enL Pw,enT YL,⟨228,IK,EW⟩,⟨54,gK,eH⟩,⟨164,H6,Fv⟩,enL ZH,⟨163,IC,Eb⟩,⟨223,TO,NU⟩,enL Tb,enL RB,enL OT,enL PH,enA Nl,enA Oh,enL abi]
def ab6:NT:=[((308,8),{keep:=[3,4,6,7,19,20,21],hl:=4}),((308,22),{keep:=[3,4,6,7,9,19,20,21,29,30,31],hl:=5})]
def qY:Ctx:=CX (ens KK) ab6
def tY(a b:(Int×Int))(s21 s6 s7:Int):Cfg:=⟨308,[.blk 0,.seq 46],[(3,.box 1 0),(4,.box 2 0),(6,SI s6),(7,SI s7),(19,.own 3),(20,SI (([a.1,a.2]).length:Int)),(21,SI s21)],[.box 232 [SI a.1,SI a.2],.box 232 [SI b.1,SI b.2],.box 232 [SI 0,SI 0],.row 2 aqw ([a.1,a.2])],0,[]⟩
def rE(a b:(Int×Int))(s21 x1 s6 s7 s31:Int):Cfg:=⟨308,[.blk 2,.blk 1,.seq 45,.lp 8,.blk 0,.seq 46],[(3,.box 1 0),(4,.box 2 0),(6,SI s6),(7,SI s7),(9,SI x1),(19,.own 3),(20,SI (([a.1,a.2]).length:Int)),(21,SI s21),(29,.own 4),(30,SI (([b.1,b.2]).length:Int)),(31,SI s31)],[.box 232 [SI a.1,SI a.2],.box 232 [SI b.1,SI b.2],.box 232 [SI 0,SI 0],.row 2 aqw ([a.1,a.2]),.row 2 aqw ([b.1,b.2])],0,[]⟩
def agp(a b:(Int×Int))(k:KT):OLR:=k 8 (tY a b 0 2305843009213693952 (-2305843009213693952))
theorem af8(a b:(Int×Int)):RS qY 308 [.d tG a,.d tG b] (agp a b):=rsX
def yT(a b:(Int×Int))(s21 s6 s7:Int)(k:KT):OLR:=match decide (s21<(([a.1,a.2]).length:Int))with|true=>(match aS ([a.1,a.2]) s21 with|some _=>(match true,([a.1,a.2])[(s21).toNat]? with|true,some x1=>k 22 (rE a b s21 x1 s6 s7 0)|_,_=>none)|none=>none)|false=>some [RV.d tG (s6,s7),RV.d .bool true]
theorem Gm(a b:(Int×Int))(s21 s6 s7:Int):RN qY 8 (tY a b s21 s6 s7) (yT a b s21 s6 s7):=rnX
def rI(a b:(Int×Int))(s21 x1 s6 s7 s31:Int)(k:KT):OLR:=match decide (s31<(([b.1,b.2]).length:Int))with|true=>(match aS ([b.1,b.2]) s31 with|some _=>(match true,([b.1,b.2])[(s31).toNat]? with|true,some x2=>(og (decide (scP x1 x2)) (match !((scF x1 x2).2)with|true=>some [RV.d tG (0,0),RV.d .bool false]|false=>k 22 (rE a b s21 x1 (if(scF x1 x2).1.1<s6 then(scF x1 x2).1.1 else s6) (if(scF x1 x2).1.2>s7 then(scF x1 x2).1.2 else s7) (i64.wrap (s31+1)))))|_,_=>none)|none=>none)|false=>k 8 (tY a b (i64.wrap (s21+1)) s6 s7)
theorem wN(a b:(Int×Int))(s21 x1 s6 s7 s31:Int):RN qY 22 (rE a b s21 x1 s6 s7 s31) (rI a b s21 x1 s6 s7 s31):=rnX
theorem MS(a b:Iv)(ha:prI a)(hb:prI b)(s21 x:Int)(hx:x=a.1\/x=a.2)(s:Iv)(r:List RV)(h:∀s2:Iv×Bool,s2=jp (jp (s,true) x b.1) x b.2->bif s2.2 then qY.Runs 8 (tY a b (i64.wrap (s21+1)) s2.1.1 s2.1.2) r else r=[RV.d tG (0,0),RV.d .bool false]):
  qY.Runs 22 (rE a b s21 x s.1 s.2 0) r:=by
 have h:=h _ rfl;refine wN _ _ _ _ _ _ _ ?_;unfold rI;have g1:decide ((0:Int)<(([b.1,b.2]).length:Int))=true:=by simp
 have g2:decide ((1:Int)<(([b.1,b.2]).length:Int))=true:=by simp
 have g3:decide ((2:Int)<(([b.1,b.2]).length:Int))=false:=by simp
 rw[g1];simp only[show aS [b.1,b.2] 0=some b.1 from rfl,show [b.1,b.2][(0:Int).toNat]?=some b.1 from rfl,dT (PR ha hb hx (.inl rfl))];cases e1:(scF x b.1).2
 ·rw[show jp (jp (s,true) x b.1) x b.2=(iv0,false) by unfold jp;rw[e1];rfl]at h;exact⟨0,by rw[h];rfl⟩
 ·try dsimp only[Bool.not_true]
  have e0:jp (s,true) x b.1=((if(scF x b.1).1.1<s.1 then(scF x b.1).1.1 else s.1,if(scF x b.1).1.2>s.2 then(scF x b.1).1.2 else s.2),true):=by unfold jp;rw[e1];rfl
  rw[e0]at h
  suffices hh:qY.Runs 22 (rE a b s21 x (if(scF x b.1).1.1<s.1 then(scF x b.1).1.1 else s.1) (if(scF x b.1).1.2>s.2 then(scF x b.1).1.2 else s.2) (i64.wrap (0+1))) r by
   obtain⟨n,hn⟩:=hh;exact⟨n,hn⟩
  rw[show i64.wrap (0+1)=1 by decide];refine wN _ _ _ _ _ _ _ ?_;unfold rI;rw[g2];simp only[show aS [b.1,b.2] 1=some b.2 from rfl,show [b.1,b.2][(1:Int).toNat]?=some b.2 from rfl,dT (PR ha hb hx (.inr rfl))];cases e2:(scF x b.2).2
  ·unfold jp at h;rw[e2]at h;exact⟨0,by rw[show r=[RV.d tG (0,0),RV.d .bool false] from h];rfl⟩
  ·try dsimp only[Bool.not_true]
   unfold jp at h;rw[e2]at h;simp only[aoI,cond_true]at h
   suffices hh:qY.Runs 22 (rE a b s21 x _ _ (i64.wrap (1+1))) r by
    obtain⟨n,hn⟩:=hh;exact⟨n,hn⟩
   rw[show i64.wrap (1+1)=2 by decide];refine wN _ _ _ _ _ _ _ ?_;unfold rI;rw[g3];obtain⟨n,hn⟩:=h;exact⟨n,hn⟩
theorem JJ(a b:Iv)(ha:prI a)(hb:prI b)(x i:Int)(hi:(i=0/\x=a.1)\/(i=1/\x=a.2))(s:Iv)(r:List RV)(h:∀s2:Iv×Bool,s2=jp (jp (s,true) x b.1) x b.2->bif s2.2 then qY.Runs 8 (tY a b (i+1) s2.1.1 s2.1.2) r else r=[RV.d tG (0,0),RV.d .bool false]):
  qY.Runs 8 (tY a b i s.1 s.2) r:=by
 refine Gm _ _ _ _ _ ?_;unfold yT;rcases hi with⟨rfl,rfl⟩|⟨rfl,rfl⟩
 ·obtain⟨n,hn⟩:=MS a b ha hb 0 a.1 (.inl rfl) s r (by rw[show i64.wrap (0+1)=0+1 by decide];exact h);exact⟨n,hn⟩
 ·obtain⟨n,hn⟩:=MS a b ha hb 1 a.2 (.inr rfl) s r (by rw[show i64.wrap (1+1)=1+1 by decide];exact h);exact⟨n,hn⟩
theorem Of{s:Iv×Bool}{x y:Int}(h:s.2=false):jp s x y=(iv0,false):=by unfold jp;rw[h];rfl
theorem ajS{s:Iv×Bool}(h:s.2=true):s=(s.1,true):=by rw[<-h]
def P4:Cn 308 [tG,tG]:=cn λ(a b:(Int×Int))=>lf (prI a/\prI b) [.d tG ((cO a b).1),.d .bool ((cO a b).2)] λh=>by
 obtain⟨ha,hb⟩:=h;refine dk KK (show qY.Res _ _ _ from ?_);refine af8 _ _ ?_
 suffices hh:qY.Runs 8 (tY a b 0 2305843009213693952 (-2305843009213693952)) [.d tG (cO a b).1,.d .bool (cO a b).2] by
  obtain⟨n,hn⟩:=hh;exact⟨n,hn⟩
 refine JJ a b ha hb a.1 0 (.inl ⟨rfl,rfl⟩) (2305843009213693952,-2305843009213693952) _ λs1 e1=>?_;have hm:cO a b=jp (jp s1 a.2 b.1) a.2 b.2:=by rw[e1];rfl
 cases c1:s1.2
 ·rw[hm,Of (Of c1▸rfl)];rfl
 ·rw[cond_true];refine JJ a b ha hb a.2 1 (.inr ⟨rfl,rfl⟩) s1.1 _ λs2 e2=>?_;rw[<-ajS c1,<-hm]at e2;cases c2:s2.2
  ·rw[<-e2]
   rw[show s2=(iv0,false) by
    rw[e2,hm];rw[e2,hm]at c2;unfold jp at c2 ⊢;revert c2;cases(_:Bool)&&(scF a.2 b.2).2
    ·intro _;rfl
    ·intro h;cases h]
   rfl
  ·rw[cond_true,<-e2];refine Gm _ _ _ _ _ ⟨0,?_⟩;unfold yT;rw[show decide ((1+1:Int)<(([a.1,a.2]).length:Int))=false from by simp,c2]
def YH(n:Int)(_k:KT):OLR:=og (decide (aJ n)) (og (decide (aJ (65536:Int))) (og (decide (okI (hid (ai n))/\okI (hid (ai (65536:Int))))) (og (decide (okI (hid (ai (ae (hid (ai n))*ae (hid (ai (65536:Int)))))))) (og (decide (okI (hid (gO (hid (ai (ae (hid (ai n))*ae (hid (ai (65536:Int)))))))))) (og (decide (okI (hid (gO (hid (ai (ae (hid (ai n))*ae (hid (ai (65536:Int))))))))/\okI (hid (gO (hid (ai (ae (hid (ai n))*ae (hid (ai (65536:Int)))))))))) (og (decide (okI (hid (ai (ae (hid (gO (hid (ai (ae (hid (ai n))*ae (hid (ai (65536:Int))))))))*ae (hid (gO (hid (ai (ae (hid (ai n))*ae (hid (ai (65536:Int)))))))))))/\okI (hid (ai (ae (hid (ai n))*ae (hid (ai (65536:Int)))))))) (some [RV.d aqw (bif decide (aJ (ae (hid (gO (hid (ai (ae (hid (ai n))*ae (hid (ai (65536:Int))))))))))then ae (hid (gO (hid (ai (ae (hid (ai n))*ae (hid (ai (65536:Int))))))))else 0),RV.d .bool ((cE (ae (hid (ai (ae (hid (gO (hid (ai (ae (hid (ai n))*ae (hid (ai (65536:Int))))))))*ae (hid (gO (hid (ai (ae (hid (ai n))*ae (hid (ai (65536:Int)))))))))))) (ae (hid (ai (ae (hid (ai n))*ae (hid (ai (65536:Int))))))))==0)])))))))
def agC:Cn 332 [aqw]:=cn λ(n:Int)=>lf (Ee n) [.d aqw (fo n),.d .bool (decide (fo n*fo n=n*65536))] λh=>by
 refine aB KK (YH n) ⟨0,?_⟩;have hr:=I6 h;obtain⟨h0,h1⟩:=h;have i1:aJ n:=⟨by omega,by omega⟩
 have i2:aJ 65536:=by decide
 have o1:okI (ai (n*65536)):=aW (by have:=cY (lh i1) (lh i2);omega);have o2:okI (ai (fo n)):=Sf ⟨by omega,by omega⟩;have o3:okI (ai (fo n*fo n)):=aW (by have:=cY (lh (n:=fo n) ⟨by omega,by omega⟩) (lh (n:=fo n) ⟨by omega,by omega⟩);omega);have o4:okI (ai n)/\okI (ai 65536):=⟨Sf i1,Sf i2⟩
 have o5:okI (ai (fo n))/\okI (ai (fo n)):=⟨o2,o2⟩
 have o6:okI (ai (fo n*fo n))/\okI (ai (n*65536)):=⟨o3,o1⟩
 have o7:aJ (fo n):=⟨by omega,by omega⟩
 unfold YH;simp only[bL,dec_enc,dT i1,dT i2,dT o4,dT o1,Dq o1];have e:bO (n*65536)=fo n:=rfl;simp only[e,dT o2,dT o5,dT o6,dT o7,cond_true,nU]
def Zz:List En:=enL P4::enL agC::KK
def Zb(a:(Int×Int))(_k:KT):OLR:=match decide (a.2<0)with|true=>some [RV.d tG (0,0),RV.d .bool false]|false=>(og (decide (Ee (if 0>a.1 then 0 else a.1))) (og (decide (Ee a.2)) (match !(decide (fo a.2*fo a.2=a.2*65536))with|true=>some [RV.d tG (hid ((qs (fo (if 0>a.1 then 0 else a.1)) (i64.wrap ((fo a.2)+1))).1)),RV.d .bool ((qs (fo (if 0>a.1 then 0 else a.1)) (i64.wrap ((fo a.2)+1))).2)]|false=>some [RV.d tG (hid ((qs (fo (if 0>a.1 then 0 else a.1)) (fo a.2)).1)),RV.d .bool ((qs (fo (if 0>a.1 then 0 else a.1)) (fo a.2)).2)])))
def Zq:Cn 320 [tG]:=cn λ(a:(Int×Int))=>lf (prI a) [.d tG ((sqF a).1),.d .bool ((sqF a).2)] λh=>by
 refine aB Zz (Zb a) ⟨0,?_⟩;obtain⟨a1,a2,a3⟩:=h;unfold Zb sqF;cases hn:decide (a.2<0)
 ·have hn:=an4 hn;have r2:Ee a.2:=⟨by omega,by omega⟩
  have r1:Ee (if 0>a.1 then 0 else a.1):=⟨by split<;>omega,by split<;>omega⟩
  have b2:=I6 r2;simp only[dT r1,dT r2,bL,aV (x:=fo a.2+1) (by omega) (by omega)];cases decide (fo a.2*fo a.2=a.2*65536)<;>rfl
 ·rfl
def QA:List En:=enL Zq::Zz
def Z0(r:BO3)(_k:KT):OLR:=og (decide (ok Rat 200000 r.1)) (match !((frF (ah r.1)).2)with|true=>some [RV.d tG (hid ((frF (ah r.1)).1)),RV.d .bool ((frF (ah r.1)).2)]|false=>(og (o1 r.2.1) (match(aF (ah r.2.1) 0)==0 with|true=>some [RV.d tG (hid ((frF (ah r.1)).1)),RV.d .bool ((frF (ah r.1)).2)]|false=>(og (decide (ok Rat 200000 r.2.1)) (og (decide (ok Rat 200000 r.2.2)) (match !((frF (ah r.2.1)).2)with|true=>some [RV.d tG (0,0),RV.d .bool false]|false=>(match !((frF (ah r.2.2)).2)with|true=>some [RV.d tG (0,0),RV.d .bool false]|false=>(og (o1 r.2.2) (match decide ((aF (ah r.2.2) 0)<0)with|true=>some [RV.d tG (0,0),RV.d .bool false]|false=>(og (decide (prI (hid ((frF (ah r.2.2)).1)))) (match !((sqF (hid ((frF (ah r.2.2)).1))).2)with|true=>some [RV.d tG (0,0),RV.d .bool false]|false=>(og (decide (prI (hid ((frF (ah r.2.1)).1))/\prI (hid ((sqF (hid ((frF (ah r.2.2)).1))).1)))) (match !((cO (hid ((frF (ah r.2.1)).1)) (hid ((sqF (hid ((frF (ah r.2.2)).1))).1))).2)with|true=>some [RV.d tG (0,0),RV.d .bool false]|false=>(og (decide (prI (hid ((frF (ah r.1)).1))/\prI (hid ((cO (hid ((frF (ah r.2.1)).1)) (hid ((sqF (hid ((frF (ah r.2.2)).1))).1))).1)))) (some [RV.d tG (hid ((dY (hid ((frF (ah r.1)).1)) (hid ((cO (hid ((frF (ah r.2.1)).1)) (hid ((sqF (hid ((frF (ah r.2.2)).1))).1))).1))).1)),RV.d .bool ((dY (hid ((frF (ah r.1)).1)) (hid ((cO (hid ((frF (ah r.2.1)).1)) (hid ((sqF (hid ((frF (ah r.2.2)).1))).1))).1))).2)])))))))))))))))
def Jz:Cn 312 [tO]:=cn λ(r:BO3)=>lf (ok Rt 100000 r) [.d tG ((bJ (dec r)).1),.d .bool ((bJ (dec r)).2)] λh=>by
 refine aB QA (Z0 r) ⟨0,?_⟩;have hr:=h;obtain⟨r,rfl,br⟩:=aI hr;have p1:prI (frF r.1).1:=RE.frF_pr _;have p2:prI (frF r.2.1).1:=RE.frF_pr _;have p3:prI (frF r.2.2).1:=RE.frF_pr _;have p4:prI (sqF (frF r.2.2).1).1:=RE.sqF_pr p3;have p5:prI (cO (frF r.2.1).1 (sqF (frF r.2.2).1).1).1:=uK _ _;unfold Z0;simp only[aX,Nat.reduceLeDiff,au,av,dT p3,dT (show prI (frF r.2.1).1/\prI (sqF (frF r.2.2).1).1 from⟨p2,p4⟩),dT (show prI (frF r.1).1/\prI (cO (frF r.2.1).1 (sqF (frF r.2.2).1).1).1 from⟨p1,p5⟩)];unfold bJ;clear p1 p2 p3 p4 p5;generalize frF r.1=A;generalize frF r.2.1=B;generalize frF r.2.2=C;generalize sqF C.1=S;generalize cO B.1 S.1=M;generalize dY A.1 M.1=U;obtain⟨_,a⟩:=A;obtain⟨_,b⟩:=B;obtain⟨_,c⟩:=C;obtain⟨_,s⟩:=S;obtain⟨_,m⟩:=M;cases a<;>cases decide (r.2.1=0)<;>cases b<;>cases c<;>cases decide (r.2.2<0)<;>cases s<;>cases m<;>rfl
def Zp(a:(Int×Int))(_k:KT):OLR:=match decide (a.1>0)with|true=>some [RV.d aqw 1,RV.d .bool true]|false=>(match decide (a.2<0)with|true=>some [RV.d aqw (-1),RV.d .bool true]|false=>(match a.1==0 with|true=>some [RV.d aqw 0,RV.d .bool (a.2==0)]|false=>some [RV.d aqw 0,RV.d .bool false]))
def OB:Cn 311 [tG]:=cn λ(a:(Int×Int))=>lf True [.d aqw ((sgF a).1),.d .bool ((sgF a).2)] λ_=>by
 refine aB QA (Zp a) ⟨0,?_⟩;unfold Zp sgF;cases decide (a.1>0)<;>cases decide (a.2<0)<;>try rfl
 by_cases e1:a.1=0
 ·rw[anb e1,show(a.1==0)=true by simp[e1]];by_cases e2:a.2=0
  ·rw[anb e2,show(a.2==0)=true by simp[e2]];rfl
  ·rw[ane e2,show(a.2==0)=false by simp[e2]];rfl
 ·rw[ane e1,show(a.1==0)=false by simp[e1]];rfl
def ajD:List En:=enL Jz::enL OB::QA
def abc(n:BR)(a:(Int×Int))(g:Bool)(_k:KT):OLR:=og (decide (ok Rat 200000 n)) (match !g with|true=>some [RV.d tG (0,0),RV.d .bool false]|false=>(match !((frF (ah n)).2)with|true=>some [RV.d tG (0,0),RV.d .bool false]|false=>(og (decide (prI (hid ((frF (ah n)).1))/\prI a)) (some [RV.d tG (hid ((cO (hid ((frF (ah n)).1)) a).1)),RV.d .bool ((cO (hid ((frF (ah n)).1)) a).2)]))))
def Z5:Cn 313 [tR,tG,.bool]:=cn λ(n:BR) (a:(Int×Int)) (g:Bool)=>lf (ok Rat 100000 n/\prI a) [.d tG ((kJ (ah n) a g).1),.d .bool ((kJ (ah n) a g).2)] λh=>by
 refine aB ajD (abc n a g) ⟨0,?_⟩;obtain⟨hn,ha⟩:=h;obtain⟨n,rfl,bn⟩:=aI hn;unfold abc;simp only[aX,Nat.reduceLeDiff,dT (show prI (frF n).1/\prI a from⟨RE.frF_pr _,ha⟩)];unfold kJ;generalize frF n=A;obtain⟨_,q⟩:=A;cases g<;>cases q<;>rfl
section
section
variable {u:Nat} {w w':World} {size n:Nat} {v:Value} {xs:List Value}
end
section
variable {P:Program} {fn:Func} {R:Ending->World->Prop} {B:Code} {K:List KI} {i:Nat} {a:Act} {w:World}
end
end
section
section
variable {P:Program} {a:Act} {w:World}
end
end
theorem yw{w w1 w2:World}{o:Option Nat}(h:w.grownBy w1 o)(hb:Below w1.heap.size w1 w2):w.grownBy w2 o:=
 ⟨hb.os.trans h.os,hb.tape.trans h.tape,hb.output.trans h.output,anq h.size hb.size,λi hi hn=>(hb.block i (aoZ hi h.size)).trans (h.block i hi hn)⟩
theorem vk{w w1 w2:World}{c b:Nat}(h:w.grownBy w1 (some c))(hu:Upd w1 w2 b)(hb:b=c\/w.heap.size<=b):w.grownBy w2 (some c):=
 ⟨hu.os.trans h.os,hu.tape.trans h.tape,hu.output.trans h.output,by rw[hu.size];exact h.size,λi hi hn=>(hu.block i (λe=>by
  subst e;rcases hb with hb|hb
  ·subst hb;exact hn rfl
  ·omega)).trans (h.block i hi hn)⟩
def Xk:Code:=Tryz.f319.body.getD .skip
set_option maxRecDepth 100000 in
theorem Mp:aiX Tryz.prog 319 245:=by
 intro w c b ok x y _ hc;have hB:w.grownBy w (some c):=World.grownBy.refl _ _;have hlt:=hc.lt;refine enter (B:=Xk) (args:=[.pointer (some ⟨c,0,none⟩),.agg #[.int .i64 x,.int .i64 y],.bool ok]) Tryz.func319 (by kernel_rfl) (by kernel_rfl) ?_;rw[show Tryz.f319.ntmps=18 from by kernel_rfl];intro a hs;replace hs:=hs.pick (ts:=[0,1,2]) (L':=[(0,.pointer (some ⟨c,0,none⟩)),(1,.agg #[.int .i64 x,.int .i64 y]),(2,.bool ok)]) (by kernel_rfl)
 refine zC (j:=2) (by kernel_rfl) ?_;refine nX (id:=0) (by kernel_rfl) ?_;refine wh hs (by kernel_rfl) (aj2 (t:=232) (cs:= #[.int .i64 x,.int .i64 y]) (λrb_=>.pointer (some ⟨rb_,0,none⟩)) [0,2,4] (λrb_=>[(0,.pointer (some ⟨c,0,none⟩)),(2,.bool ok),(4,.pointer (some ⟨rb_,0,none⟩))]) hs (λ_=>by kernel_rfl) (λ_=>by kernel_rfl) ?_);clear hs a;intro a w1 b1 hn hs;have B1:=hn.blk;have l1:w.heap.size<=b1:=by rw[hn.at_];exact hB.size
 replace hc:=hc.below hn.below hc.lt
 replace hB:=yw hB hn.below
 clear hn;refine wh hs (by kernel_rfl) (aj2 (t:=232) (cs:= #[.int .i64 0,.int .i64 0]) (λrb_=>.pointer (some ⟨rb_,0,none⟩)) [0,2,4,6] (λrb_=>[(0,.pointer (some ⟨c,0,none⟩)),(2,.bool ok),(4,.pointer (some ⟨b1,0,none⟩)),(6,.pointer (some ⟨rb_,0,none⟩))]) hs (λ_=>by kernel_rfl) (λ_=>by kernel_rfl) ?_);clear hs a;intro a w2 b2 hn hs;have B2:=hn.blk;have l2:w.heap.size<=b2:=by rw[hn.at_];exact hB.size
 have l2':b1<b2:=by rw[hn.at_];exact B1.lt
 replace hc:=hc.below hn.below hc.lt
 replace B1:=B1.below hn.below B1.lt
 replace hB:=yw hB hn.below
 clear hn;refine rM (by kernel_rfl) ?_;refine nO rfl ?_;refine zC (j:=4) (by kernel_rfl) ?_;refine nX (id:=1) (by kernel_rfl) ?_;refine vm (m:=6) (H:=[(4,none,[.bool b])]) (ts:=[2,4,6,7,12]) (L':=[(2,.bool ok),(4,.pointer (some ⟨b1,0,none⟩)),(6,.pointer (some ⟨b2,0,none⟩)),(7,.pointer (some ⟨c,0,none⟩)),(12,.bool b)]) (O:=λw=>(w.cell? ⟨c,0,none⟩=some (.bool b))/\True) hs (by kernel_rfl) ⟨hc.cell 0 rfl,trivial⟩ ?_;clear hs a;intro a hs;rcases Bool.eq_false_or_eq_true (b)with hb|hb
 ·replace hs:=hs.know (t:=12) rfl hb
  have cd1:=hb;have cd1b:=hb;clear hb;replace hs:=hs.pick (ts:=[2,4,6,7,12]) (L':=[(2,.bool ok),(4,.pointer (some ⟨b1,0,none⟩)),(6,.pointer (some ⟨b2,0,none⟩)),(7,.pointer (some ⟨c,0,none⟩)),(12,.bool true)]) (by kernel_rfl)
  refine vm (m:=4) (H:=[]) (ts:=[4,6,14,16]) (L':=[(4,.pointer (some ⟨b1,0,none⟩)),(6,.pointer (some ⟨b2,0,none⟩)),(14,.bool ok),(16,.pointer (some ⟨c,0,none⟩))]) (O:=λw=>True) hs (by kernel_rfl) trivial ?_;clear hs a;intro a hs;refine wh hs (by kernel_rfl) (Cl (b:=c) (cs:= #[.bool b]) #[.bool ok] [(0,.bool ok)] [4,6] [(4,.pointer (some ⟨b1,0,none⟩)),(6,.pointer (some ⟨b2,0,none⟩))] hs hc (by kernel_rfl) ⟨anj rfl,trivial,trivial⟩ rfl (by kernel_rfl) ?_);clear hs a;intro a w3 hc' hu hs;replace hc:=hc';clear hc'
  replace B1:=hu.blk B1 (by omega)
  replace B2:=hu.blk B2 (by omega)
  replace hB:=vk hB hu (by omega)
  clear hu;refine rM (by kernel_rfl) ?_;refine nO rfl ?_;refine zC (j:=6) (by kernel_rfl) ?_;refine nX (id:=2) (by kernel_rfl) ?_;refine vm (m:=1) (H:=[(0,none,[.int .i64 x,.int .i64 y])]) (ts:=[6,17]) (L':=[(6,.pointer (some ⟨b2,0,none⟩)),(17,.agg #[.int .i64 x,.int .i64 y])]) (O:=λw=>(w.cell? ⟨b1,0,none⟩=some (.int .i64 x))/\(w.cell? ⟨b1,1,none⟩=some (.int .i64 y))/\True) hs (by kernel_rfl) ⟨B1.cell 0 rfl,B1.cell 1 rfl,trivial⟩ ?_;clear hs a;intro a hs;refine wh hs (by kernel_rfl) (Cl (b:=b2) (cs:= #[.int .i64 0,.int .i64 0]) #[.int .i64 x,.int .i64 y] [(0,.int .i64 x),(1,.int .i64 y)] [6] [(6,.pointer (some ⟨b2,0,none⟩))] hs B2 (by kernel_rfl) ⟨anj rfl,trivial,⟨anj rfl,trivial,trivial⟩⟩ rfl (by kernel_rfl) ?_);clear hs a;intro a w4 B2' hu hs;replace B2:=B2';clear B2'
  replace hc:=hu.blk hc (by omega)
  replace B1:=hu.blk B1 (by omega)
  replace hB:=vk hB hu (by omega)
  clear hu;refine rM (by kernel_rfl) ?_;refine nO rfl ?_;refine GJ (by kernel_rfl) ?_;refine MF (vs:=[.agg #[.int .i64 x,.int .i64 y]]) (H:=[.int .i64 x,.int .i64 y]) (v:=.agg #[.int .i64 x,.int .i64 y]) (O:=λw=>(w.cell? ⟨b2,0,none⟩=some (.int .i64 x))/\(w.cell? ⟨b2,1,none⟩=some (.int .i64 y))/\True) hs (by kernel_rfl) rfl ⟨B2.cell 0 rfl,B2.cell 1 rfl,trivial⟩ ?_;exact⟨rfl,by rw[cd1];exact hc,hB⟩
 ·replace hs:=hs.know (t:=12) rfl hb
  have cd1:=hb;have cd1b:=hb;clear hb;replace hs:=hs.pick (ts:=[2,4,6,7,12]) (L':=[(2,.bool ok),(4,.pointer (some ⟨b1,0,none⟩)),(6,.pointer (some ⟨b2,0,none⟩)),(7,.pointer (some ⟨c,0,none⟩)),(12,.bool false)]) (by kernel_rfl)
  refine vm (m:=4) (H:=[]) (ts:=[4,6,14,16]) (L':=[(4,.pointer (some ⟨b1,0,none⟩)),(6,.pointer (some ⟨b2,0,none⟩)),(14,.bool false),(16,.pointer (some ⟨c,0,none⟩))]) (O:=λw=>True) hs (by kernel_rfl) trivial ?_;clear hs a;intro a hs;refine wh hs (by kernel_rfl) (Cl (b:=c) (cs:= #[.bool b]) #[.bool false] [(0,.bool false)] [4,6] [(4,.pointer (some ⟨b1,0,none⟩)),(6,.pointer (some ⟨b2,0,none⟩))] hs hc (by kernel_rfl) ⟨anj rfl,trivial,trivial⟩ rfl (by kernel_rfl) ?_);clear hs a;intro a w5 hc' hu hs;replace hc:=hc';clear hc'
  replace B1:=hu.blk B1 (by omega)
  replace B2:=hu.blk B2 (by omega)
  replace hB:=vk hB hu (by omega)
  clear hu;refine rM (by kernel_rfl) ?_;refine nO rfl ?_;refine zC (j:=6) (by kernel_rfl) ?_;refine nX (id:=2) (by kernel_rfl) ?_;refine vm (m:=1) (H:=[(0,none,[.int .i64 x,.int .i64 y])]) (ts:=[6,17]) (L':=[(6,.pointer (some ⟨b2,0,none⟩)),(17,.agg #[.int .i64 x,.int .i64 y])]) (O:=λw=>(w.cell? ⟨b1,0,none⟩=some (.int .i64 x))/\(w.cell? ⟨b1,1,none⟩=some (.int .i64 y))/\True) hs (by kernel_rfl) ⟨B1.cell 0 rfl,B1.cell 1 rfl,trivial⟩ ?_;clear hs a;intro a hs;refine wh hs (by kernel_rfl) (Cl (b:=b2) (cs:= #[.int .i64 0,.int .i64 0]) #[.int .i64 x,.int .i64 y] [(0,.int .i64 x),(1,.int .i64 y)] [6] [(6,.pointer (some ⟨b2,0,none⟩))] hs B2 (by kernel_rfl) ⟨anj rfl,trivial,⟨anj rfl,trivial,trivial⟩⟩ rfl (by kernel_rfl) ?_);clear hs a;intro a w6 B2' hu hs;replace B2:=B2';clear B2'
  replace hc:=hu.blk hc (by omega)
  replace B1:=hu.blk B1 (by omega)
  replace hB:=vk hB hu (by omega)
  clear hu;refine rM (by kernel_rfl) ?_;refine nO rfl ?_;refine GJ (by kernel_rfl) ?_;refine MF (vs:=[.agg #[.int .i64 x,.int .i64 y]]) (H:=[.int .i64 x,.int .i64 y]) (v:=.agg #[.int .i64 x,.int .i64 y]) (O:=λw=>(w.cell? ⟨b2,0,none⟩=some (.int .i64 x))/\(w.cell? ⟨b2,1,none⟩=some (.int .i64 y))/\True) hs (by kernel_rfl) rfl ⟨B2.cell 0 rfl,B2.cell 1 rfl,trivial⟩ ?_;exact⟨rfl,by rw[cd1];exact hc,hB⟩
def Ow:fb:={keep:=true,tame:=true,run:=λ_ _ _=>none,mut_:=some ⟨true,λl=>l,some 245⟩}
theorem OG:SpK 319 Ow:=by
 refine⟨by kernel_rfl,λR args k r h=>(by cases h),λg h=>?_⟩;injection h with h;subst h;exact Mp
def ZC:List En:=[⟨125,jn,fO⟩,⟨67,iV,fA⟩,⟨132,jR,gb⟩,⟨65,jx,fM⟩,⟨133,mv,iu⟩,enL Pw,⟨66,nA,jk⟩,⟨54,gK,eH⟩,enL Bf,enT Ep,enL Nj,enL YQ,enL Tb,enL RB,enL OT,enL PH,enA Nl,enA Oh,enL abi,enL P4,enL Zq,enL Jz,enL OB,enL Z5,⟨319,Ow,OG⟩]
def acK:NT:=[((283,5),{keep:=[1,4,13,14,17,20,21,24],hl:=0}),((283,7),{keep:=[1,4,5,25,26,29,32,33,36],hl:=0})]
def agv:Ctx:=CX (ens ZC) acK
def aaV(q:BQ)(_k:KT):OLR:=let y1:=frF (ah q.2.2.2.2.1);let y2:=ok Rat 200000 q.2.2.2.2.2;let y3:=frF (ah q.2.2.2.2.2);let y4:=sqF (hid (y3.1));let y5:=hid ((frF (ah q.2.1)).1);let y6:=hid ((sqF (hid (y1.1))).1);let y7:=frF (ah q.2.2.1);let y8:=frF (ah q.2.2.2.1);let y9:=cO y6 (hid (y4.1));let y10:=cO (hid (y7.1)) (hid (y4.1));let y11:=cO (hid (y8.1)) (hid (y9.1));let y12:=hid ((frF (ah q.1)).1);let y13:=hid ((cO y5 y6).1);let y14:=hid ((dY y12 y13).1);let y15:=dY (hid (y10.1)) (hid (y11.1));let y16:=dY y14 (hid (y15.1));let y17:OLR:=match decide (prI (hid (y3.1)))with|true=>some [RV.d aqw 0,RV.d .bool false]|false=>none;og (decide (ok Rat 200000 q.2.2.2.2.1)) (og (decide (prI (hid (y1.1)))) (match y1.2 with|true=>(og (decide y2) (match(sqF (hid (y1.1))).2 with|true=>(og (decide (prI (hid (y3.1)))) (match y3.2 with|true=>(match !(y4.2)with|true=>some [RV.d aqw 0,RV.d .bool false]|false=>(og (decide (ok Rat 200000 q.2.1)) (og (decide (prI y5/\prI y6)) (og (decide (ok Rat 200000 q.2.2.1)) (og (decide (prI (hid (y7.1))/\prI (hid (y4.1)))) (og (decide (ok Rat 200000 q.2.2.2.1)) (og (decide (prI y6/\prI (hid (y4.1)))) (og (decide (prI (hid (y8.1))/\prI (hid (y9.1)))) (match !(((((((y4.2&&(frF (ah q.2.1)).2)&&(cO y5 y6).2)&&y7.2)&&y10.2)&&y8.2)&&y9.2)&&y11.2)with|true=>some [RV.d aqw 0,RV.d .bool false]|false=>(og (decide (ok Rat 200000 q.1)) (og (decide (prI y12/\prI y13)) (og (decide (prI (hid (y10.1))/\prI (hid (y11.1)))) (og (decide (prI y14/\prI (hid (y15.1)))) (match !(((((((((((y4.2&&(frF (ah q.2.1)).2)&&(cO y5 y6).2)&&y7.2)&&y10.2)&&y8.2)&&y9.2)&&y11.2)&&(frF (ah q.1)).2)&&(dY y12 y13).2)&&y15.2)&&y16.2)with|true=>some [RV.d aqw 0,RV.d .bool false]|false=>some [RV.d aqw ((sgF (hid (y16.1))).1),RV.d .bool ((sgF (hid (y16.1))).2)]))))))))))))))|false=>some [RV.d aqw 0,RV.d .bool false]))|false=>y17))|false=>(og (decide y2) y17)))
theorem aiD(q:BQ):RS agv 283 [.d tQ q] (aaV q):=rsX
def aiR:Cn 283 [tQ]:=cn λ(q:BQ)=>lf (okQ q) [.d aqw ((quF (dec q)).1),.d .bool ((quF (dec q)).2)] λh=>by
 refine dk ZC (aiD _ ⟨0,?_⟩);obtain⟨A,B,C,D,M,N,rfl,bA,bB,bC,bD,bM,bN,hM,hN⟩:=IG h;rw[aA];have pf:∀q,prI (frF q).1:=RE.frF_pr;have pm:∀a b,prI (cO a b).1:=uK;have ps:∀q,prI (sqF (frF q).1).1:=λq=>RE.sqF_pr (pf q);have pa:∀{a b},prI a->prI b->prI (dY a b).1:=λha hb=>RE.addF_pr ha hb;have d1:∀q,decide (prI (frF q).1)=true:=λq=>dT (pf q);have d2:∀q m,decide (prI (frF q).1/\prI (sqF (frF m).1).1)=true:=λq m=>dT ⟨pf q,ps m⟩;have d3:∀q m,decide (prI (sqF (frF q).1).1/\prI (sqF (frF m).1).1)=true:=λq m=>dT ⟨ps q,ps m⟩;have d4:∀q a b,decide (prI (frF q).1/\prI (cO a b).1)=true:=λq a b=>dT ⟨pf q,pm a b⟩;have d5:∀a b c d,decide (prI (cO a b).1/\prI (cO c d).1)=true:=λa b c d=>dT ⟨pm a b,pm c d⟩;have d6:∀q a b c d e f,decide (prI (dY (frF q).1 (cO a b).1).1/\prI (dY (cO c d).1 (cO e f).1).1)=true:=λq a b c d e f=>dT ⟨pa (pf q) (pm a b),pa (pm c d) (pm e f)⟩;unfold aaV;simp only[aX,aH,Nat.reduceLeDiff,dT (pf _),dT (pm _ _),dT (ps _),dT (pa (pf _) (pm _ _)),dT (pa (pm _ _) (pm _ _))];unfold quF qu1 qu2 qu3 quA quB sfF mfF;generalize frF M=FM;generalize frF N=FN;generalize sqF FM.1=SM;generalize sqF FN.1=SN;generalize frF A=FA;generalize frF B=FB;generalize frF C=FC;generalize frF D=FD;generalize cO FB.1 SM.1=MB;generalize cO FC.1 SN.1=MC;generalize cO SM.1 SN.1=MM;generalize cO FD.1 MM.1=MD;generalize dY FA.1 MB.1=A1;generalize dY MC.1 MD.1=A2;generalize dY A1.1 A2.1=A3;generalize sgF A3.1=S;obtain⟨_,fm⟩:=FM;obtain⟨_,fn⟩:=FN;obtain⟨_,sm⟩:=SM;obtain⟨_,sn⟩:=SN;cases fm<;>cases sm<;>cases fn<;>cases sn<;>try rfl
 dsimp only;simp only[aow,aoI];generalize (FB.2&&MB.2&&FC.2&&MC.2&&FD.2&&MM.2&&MD.2)=c2;cases c2
 ·rfl
 ·simp only[aow];generalize (FA.2&&A1.2&&A2.2&&A3.2)=c3;cases c3<;>rfl
namespace RE
theorem same_rad(a b c d r:RE):a-c+(b-d)*r=a+b*r-(c+d*r):=by grind
theorem adL(a b c:RE):a-b+c=a+c-b:=by grind
theorem vR_rat(q:Rat):vR (q,0,0)=of q:=d7 q 0
theorem cmpTR_re{x:Rt}{q:Rat}(h:0<=x.2.2):gQ x q=sg (vR x-of q):=by
 unfold gQ vR;rw[sgn2_re h];unfold v2;rw[of_sub,adL]
end RE
theorem Rdd.rat{x:Rt}(h:Rdd x)(hb:x.2.1=0):x=(x.1,0,0):=by
 obtain⟨a,b,c⟩:=x;rcases h.rd with h|h
 ·obtain⟨h1,h2⟩:=h;simp only at h1 h2;rw[h1,h2]
 ·exact absurd hb h.1
theorem M9{x:Rt}{q:Rat}(h:Rdd x):bi x (q,0,0)=gQ x q:=by
 rw[RE.cmpT_re h.nn (by show(0:Rat)<=0;grind),RE.cmpTR_re h.nn,RE.vR_rat]
theorem V6{x y:Rt}(hx:Rdd x)(hy:Rdd y)(bx:x.2.1=0)(b_:y.2.1=0):bi x y=aF x.1 y.1:=by
 rw[hx.rat bx,hy.rat b_,RE.cmpT_re (by show(0:Rat)<=0;grind) (by show(0:Rat)<=0;grind),RE.vR_rat,RE.vR_rat,<-RE.of_sub,RE.sg_of,vf]
theorem Vu{x y:Rt}(hx:Rdd x)(hy:Rdd y)(h:(apF x y).2=true):(apF x y).1=bi x y:=by
 rw[RE.apF_ok h,RE.cmpT_re hx.nn hy.nn]
theorem AQ{x y:Rt}(hx:Rdd x)(hy:Rdd y)(h:x.2.2=y.2.2):iy (x.1-y.1) (x.2.1-y.2.1) x.2.2=bi x y:=by
 rw[RE.cmpT_re hx.nn hy.nn,RE.sgn2_re hx.nn];unfold RE.vR RE.v2;rw[RE.of_sub,RE.of_sub,RE.same_rad,h]
theorem aen{A B C D M N:Rat}(hM:0<=M)(hN:0<=N)(h:(quF (A,B,C,D,M,N)).2=true):(quF (A,B,C,D,M,N)).1=sgQ (A,B,C,D,M,N):=by
 rw[RE.quF_ok (q:=(A,B,C,D,M,N)) hM hN h];exact(RE.sgnQ_re hM hN).symm
def OP:List En:=[⟨132,jR,gb⟩,⟨67,iV,fA⟩,⟨66,nA,jk⟩,⟨65,jx,fM⟩,⟨54,gK,eH⟩,⟨125,jn,fO⟩,enL Bf,enT Ep,enL Nj,enL Jz]
def ac4:Cn 284 [tR,tR]:=cn λ(a b:BR)=>lf (okR a/\okR b) [.d tR (ao (ah a+ah b))] λh=>kO [RV.d tR (hAd a b)] (dN OP) h
def Z7(a b:BO3)(_k:KT):OLR:=og (decide (ok Rt 100000 a)) (og (decide (ok Rt 100000 b)) (match !((bJ (dec a)).2)with|true=>some [RV.d aqw 0,RV.d .bool false]|false=>(match !((bJ (dec b)).2)with|true=>some [RV.d aqw 0,RV.d .bool false]|false=>(match decide (((hid ((bJ (dec a)).1)).2)<((hid ((bJ (dec b)).1)).1))with|true=>some [RV.d aqw (-1),RV.d .bool true]|false=>(match decide (((hid ((bJ (dec a)).1)).1)>((hid ((bJ (dec b)).1)).2))with|true=>some [RV.d aqw 1,RV.d .bool true]|false=>some [RV.d aqw 0,RV.d .bool false])))))
def Yl:Cn 275 [tO,tO]:=cn λ(a b:BO3)=>lf (ok Rt 100000 a/\ok Rt 100000 b) [.d aqw ((apF (dec a) (dec b)).1),.d .bool ((apF (dec a) (dec b)).2)] λh=>by
 refine aB OP (Z7 a b) ⟨0,?_⟩;obtain⟨ha,hb⟩:=h;obtain⟨a,rfl,ba⟩:=aI ha;obtain⟨b,rfl,bb⟩:=aI hb;unfold Z7;simp only[aX,Nat.reduceLeDiff];unfold apF;generalize bJ a=A;generalize bJ b=B;obtain⟨⟨a1,a2⟩,p⟩:=A;obtain⟨⟨b1,b2⟩,q⟩:=B;cases p<;>cases q<;>try rfl
 dsimp only;cases decide (a2<b1)<;>try rfl
 cases decide (a1>b2)<;>rfl
def aka:List En:=enL ac4::enT Yl::enT aiR::OP
def aae(q:BQ)(_k:KT):OLR:=let y1:=ah q.2.2.2.2.1;let y2:=aF (ah q.2.2.2.2.2) 0;let y3:=i64.wrap ((iy (ah q.2.2.1) (ah q.2.2.2.1) y1)*y2);let y4:=iy (ah q.1) (ah q.2.1) y1;let y5:=hMu q.2.2.2.2.1 (hMu q.2.1 q.2.1);let y6:=hMu q.2.2.2.1 q.2.2.2.1;let y7:=hMu q.2.2.1 q.2.2.1;let y8:=hMu q.2.2.2.2.1 y6;let y9:=hAd (hMu q.1 q.1) y5;let y10:=hMu q.2.2.2.2.2 (hAd y7 y8);let y11:=hMu q.2.2.1 q.2.2.2.1;let y12:=hMu q.2.2.2.2.2 y11;let y13:=hSu (hMu q.1 q.2.1) y12;let y14:OLR:=match decide (okR (hMu q.1 q.2.1)/\okR y12)with|true=>(og (o2 y13 y13) (og (decide (ok Rat 240000 (hSu y9 y10)/\ok Rat 170000 (hAd y13 y13)/\ok Rat 30000 q.2.2.2.2.1)) (some [RV.d aqw (i64.wrap (y4*(iy (ah (hSu y9 y10)) (ah (hAd y13 y13)) y1)))])))|false=>none;let y15:OLR:=match decide (okR q.2.2.2.2.2/\okR y11)with|true=>y14|false=>none;let y16:OLR:=match decide (okR q.2.2.1/\okR q.2.2.2.1)with|true=>y15|false=>none;let y17:OLR:=match decide (okR y9/\okR y10)with|true=>cD (og (o2 q.1 q.2.1) (cD (og (o2 q.2.2.1 q.2.2.2.1) (cD (og (o2 q.2.2.2.2.2 y11) (dup (.b .l .l) y14)) y15)) y16)) (og (o2 q.1 q.2.1) y16)|false=>none;let y18:OLR:=match decide (okR q.2.2.2.2.2/\okR (hAd y7 y8))with|true=>y17|false=>none;let y19:OLR:=match decide (okR y7/\okR y8)with|true=>y18|false=>none;let y20:OLR:=match decide (okR q.2.2.2.2.1/\okR y6)with|true=>y19|false=>none;let y21:OLR:=match decide (okR q.2.2.2.1/\okR q.2.2.2.1)with|true=>y20|false=>none;let y22:OLR:=match decide (okR q.2.2.1/\okR q.2.2.1)with|true=>y21|false=>none;let y23:OLR:=match decide (okR (hMu q.1 q.1)/\okR y5)with|true=>y22|false=>none;let y24:OLR:=match decide (okR q.2.2.2.2.1/\okR (hMu q.2.1 q.2.1))with|true=>y23|false=>none;let y25:OLR:=match decide (okR q.2.1/\okR q.2.1)with|true=>y24|false=>none;og (o1 q.2.2.2.2.1) (match decide ((aF y1 0)<0)with|true=>some [RV.d aqw 0]|false=>(og (o1 q.2.2.2.2.2) (match decide (y2<0)with|true=>some [RV.d aqw 0]|false=>(og (decide (okQ q)) (match(quF (dec q)).2 with|true=>some [RV.d aqw ((quF (dec q)).1)]|false=>(og (decide (ok Rat 240000 q.1/\ok Rat 170000 q.2.1/\ok Rat 30000 q.2.2.2.2.1)) (og (decide (ok Rat 240000 q.2.2.1/\ok Rat 170000 q.2.2.2.1/\ok Rat 30000 q.2.2.2.2.1)) (og (o1 q.2.2.2.2.2) (match y3==0 with|true=>some [RV.d aqw y4]|false=>(match y4==y3 with|true=>some [RV.d aqw y4]|false=>(match y4==0 with|true=>some [RV.d aqw y3]|false=>cD (og (o2 q.1 q.1) (cD (og (o2 q.2.1 q.2.1) (cD (og (o2 q.2.2.2.2.1 (hMu q.2.1 q.2.1)) (cD (og (o2 (hMu q.1 q.1) y5) (cD (og (o2 q.2.2.1 q.2.2.1) (cD (og (o2 q.2.2.2.1 q.2.2.2.1) (cD (og (o2 q.2.2.2.2.1 y6) (cD (og (o2 y7 y8) (cD (og (o2 q.2.2.2.2.2 (hAd y7 y8)) (dup (.b .l .l) y17)) y18)) y19)) y20)) y21)) y22)) y23)) y24)) y25)) (og (o2 q.1 q.1) y25))))))))))))
def Pa:Cn 218 [tQ]:=cn λ(q:BQ)=>lf (okQ q) [.d aqw (sgQ (dec q))] λh=>by
 refine aB aka (aae q) ⟨0,?_⟩;obtain⟨A,B,C,D,M,N,rfl,bA,bB,bC,bD,bM,bN,hM,hN⟩:=IG h;have hh:decide (okQ (ao A,ao B,ao C,ao D,ao M,ao N))=true:=anb h;have hd:(dec ((ao A,ao B,ao C,ao D,ao M,ao N):BQ):Qd)=(A,B,C,D,M,N):=aA ((A,B,C,D,M,N):Qd);rw[aA];unfold aae;simp only[aX,aH,Nat.reduceAdd,Nat.reduceLeDiff,vd,vj,av,hh,hd,ane (show ¬M<0 by grind),ane (show ¬N<0 by grind)];cases hq:(quF (A,B,C,D,M,N)).2
 ·try dsimp only
  refine(Cy _ _ _).trans ?_;unfold sgQ C3;rw[ane (show ¬M<0 by grind),ane (show ¬N<0 by grind)];dsimp only[Bool.or_false,cond_false];rw[show A*B-N*(C*D)+(A*B-N*(C*D))=2*(A*B-N*(C*D)) by grind,show A*A+M*(B*B)-N*(C*C+M*(D*D))=A*A+B*B*M-N*(C*C+D*D*M) by grind];rfl
 ·try dsimp only
  rw[aen hM hN hq]
def aaA:List En:=[⟨54,gK,eH⟩,⟨66,nA,jk⟩,⟨65,jx,fM⟩,enT Ep,enL Nj,enT Yl,enT Pa,enL Bf]
def abO(a b:BO3)(_k:KT):OLR:=og (o1 a.2.1) (match(aF (ah a.2.1) 0)==0 with|true=>(og (o1 b.2.1) (match(aF (ah b.2.1) 0)==0 with|true=>(og (o2 a.1 b.1) (some [RV.d aqw (aF (ah a.1) (ah b.1))]))|false=>(og (decide (ok Rt 100000 a/\ok Rt 100000 b)) (match(apF (dec a) (dec b)).2 with|true=>some [RV.d aqw ((apF (dec a) (dec b)).1)]|false=>(og (o2 a.2.2 b.2.2) (match(aF (ah a.2.2) (ah b.2.2))==0 with|true=>(og (o2 a.1 b.1) (og (o2 a.2.1 b.2.1) (og (decide (ok Rat 240000 (hSu a.1 b.1)/\ok Rat 170000 (hSu a.2.1 b.2.1)/\ok Rat 30000 a.2.2)) (some [RV.d aqw (iy (ah (hSu a.1 b.1)) (ah (hSu a.2.1 b.2.1)) (ah a.2.2))]))))|false=>(og (decide (ok Rt 15000 a/\ok Rt 15000 b)) (og (decide (okQ (hid (enc (suT (dec a) (dec b)))))) (some [RV.d aqw (sgQ (dec (hid (enc (suT (dec a) (dec b))))))])))))))))|false=>(og (decide (ok Rt 100000 a/\ok Rt 100000 b)) (match(apF (dec a) (dec b)).2 with|true=>some [RV.d aqw ((apF (dec a) (dec b)).1)]|false=>(og (o2 a.2.2 b.2.2) (match(aF (ah a.2.2) (ah b.2.2))==0 with|true=>(og (o2 a.1 b.1) (og (o2 a.2.1 b.2.1) (og (decide (ok Rat 240000 (hSu a.1 b.1)/\ok Rat 170000 (hSu a.2.1 b.2.1)/\ok Rat 30000 a.2.2)) (some [RV.d aqw (iy (ah (hSu a.1 b.1)) (ah (hSu a.2.1 b.2.1)) (ah a.2.2))]))))|false=>(og (decide (ok Rt 15000 a/\ok Rt 15000 b)) (og (decide (okQ (hid (enc (suT (dec a) (dec b)))))) (some [RV.d aqw (sgQ (dec (hid (enc (suT (dec a) (dec b))))))]))))))))
def Gf:Cn 201 [tO,tO]:=cn λ(a b:BO3)=>lf (okT 15000 a/\okT 15000 b) [.d aqw (bi (dec a) (dec b))] λh=>by
 refine aB aaA (abO a b) ⟨0,?_⟩;obtain⟨ha,hb⟩:=h;obtain⟨a,rfl,ba,ra⟩:=ii ha;obtain⟨b,rfl,bb,rb⟩:=ii hb;have na:Nn a.2.2:=inferInstance;have nb:Nn b.2.2:=inferInstance;have e:decide (okQ (enc (suT a b)))=true:=BM (by decide) (by decide) (by decide) (by decide) (by decide) (by decide);have e1:=λh1 h2=>V6 ra rb h1 h2;have e2:=λh=>Vu ra rb h;have e3:=λh=>AQ ra rb h;unfold abO;simp only[aX,Nat.reduceAdd,Nat.reduceLeDiff,au,e];by_cases ha:a.2.1=0
 ·by_cases hb:b.2.1=0
  ·rw[anb ha,anb hb,e1 ha hb]
  ·rw[anb ha,ane hb];dsimp only;cases hq:(apF a b).2
   ·dsimp only;by_cases hc:a.2.2=b.2.2
    ·rw[anb hc,<-e3 hc]
    ·rw[ane hc];rfl
   ·dsimp only;rw[e2 hq]
 ·rw[ane ha];dsimp only;cases hq:(apF a b).2
  ·dsimp only;by_cases hc:a.2.2=b.2.2
   ·rw[anb hc,<-e3 hc]
   ·rw[ane hc];rfl
  ·dsimp only;rw[e2 hq]
def ajt:List En:=enT Gf::aaA
def YO(a:BO3)(b:BR)(_k:KT):OLR:=og (o1 b) (og (decide (okT 15000 a/\okT 15000 (hid (enc ((ah b,0,0):Rt))))) (some [RV.d aqw (bi (dec a) (dec (hid (enc ((ah b,0,0):Rt)))))]))
def Pg:Cn 126 [tO,tR]:=cn λ(a:BO3) (b:BR)=>lf (okT 15000 a/\ok Rat 15000 b) [.d aqw (gQ (dec a) (ah b))] λh=>by
 refine aB ajt (YO a b) ⟨0,?_⟩;obtain⟨ha,hb⟩:=h;obtain⟨a,rfl,ba,ra⟩:=ii ha;obtain⟨b,rfl,bb⟩:=aI hb;unfold YO;simp only[aX,Nat.reduceLeDiff,aP];rw[M9 ra]
section
section
variable {α:Type}
open Classical in
def rk(lt:α->α->Prop):List α->α->Nat
 |[],_=>0
 |e::r,x=>(if lt e x then 1 else 0)+rk lt r x
structure n7 (lt:α->α->Prop):Prop where
 irr:∀x,¬lt x x
 tr:∀x y z,lt x y->lt y z->lt x z
 tri:∀x y,lt x y\/x=y\/lt y x
variable {lt:α->α->Prop}
theorem aaQ(h:n7 lt){x y:α}(hxy:lt x y):∀L,rk lt L x<=rk lt L y
 |[]=>ani _
 |e::r=>by
  have:=aaQ h hxy r;unfold rk;by_cases h1:lt e x
  ·rw[anH h1,anH (h.tr _ _ _ h1 hxy)];omega
  ·rw[anA h1];omega
theorem Ai(h:n7 lt){x y:α}(hxy:lt x y):∀{L},x∈L->rk lt L x<rk lt L y
 |e::r,hm=>by
  have h0:=aaQ h hxy r;unfold rk;rcases anr.1 hm with rfl|hm
  ·rw[anA (h.irr _),anH hxy];omega
  ·have:=Ai h hxy hm;by_cases h1:lt e x
   ·rw[anH h1,anH (h.tr _ _ _ h1 hxy)];omega
   ·rw[anA h1];omega
theorem adr(L:List α)(x:α):rk lt L x<=L.length:=by
 induction L with
 |nil=>exact ani _
 |cons e r ih=>
  unfold rk;rw[ans];split<;>omega
theorem jE(h:n7 lt){x:α}:∀{L},x∈L->rk lt L x<L.length
 |e::r,hm=>by
  unfold rk;rw[ans];rcases anr.1 hm with rfl|hm
  ·rw[anA (h.irr _)];have:=adr (lt:=lt) r x;omega
  ·have:=jE h hm;split<;>omega
def vM(lt:α->α->Prop)(c:α->α->Int):Prop:=∀x y,(lt x y->c x y= -1)/\(x=y->c x y=0)/\(lt y x->c x y=1)
def cI(i j:Nat):Int:=if i<j then-1 else if i=j then 0 else 1
theorem tk(h:n7 lt){c:α->α->Int}(hc:vM lt c){L:List α}{x y:α}(hx:x∈L)(hy:y∈L):c x y=cI (rk lt L x) (rk lt L y):=by
 unfold cI;rcases h.tri x y with e|e|e
 ·rw[(hc x y).1 e,anH (Ai h e hx)]
 ·subst e;rw[(hc x x).2.1 rfl,anA (Nat.lt_irrefl _),anH rfl]
 ·have:=Ai h e hy;rw[(hc x y).2.2 e,anA (by omega),anA (by omega)]
end
section
variable {α:Type} (cmp:α->α->Int)
def tZ(p q:Bool×α):Int:=bif p.1==q.1 then(bif p.1 then-cmp p.2 q.2 else cmp p.2 q.2)else(bif p.1 then-1 else 1)
def qp(f p:Bool×α):Int:=bif tZ cmp p f==0 then 0 else bif decide (tZ cmp p f>0)then 1 else 2
def kV(n:Int):Int:=if n<0 then-1 else if n=0 then 0 else 1
def iE(f p q:Bool×α):Int:=bif qp cmp f p==qp cmp f q then kV (tZ cmp p q)else kV (qp cmp f p-qp cmp f q)
def kG(p q:Bool×α):Int:=bif p.1==q.1 then(bif p.1 then-cmp p.2 q.2 else cmp p.2 q.2)else(bif q.1 then-1 else 1)
def kU(f p q:Bool×α):Int:=bif decide (kG cmp p f<0)==decide (kG cmp q f<0)then kG cmp p q else(bif decide (kG cmp q f<0)then-1 else 1)
variable {cmp} {β:Type} {cmq:β->β->Int}
theorem sX{u v:Bool}{a b:α}{c d:β}(h:cmp a b=cmq c d):tZ cmp (u,a) (v,b)=tZ cmq (u,c) (v,d):=by unfold tZ;rw[h]
theorem ue{u v:Bool}{a b:α}{c d:β}(h:cmp a b=cmq c d):kG cmp (u,a) (v,b)=kG cmq (u,c) (v,d):=by unfold kG;rw[h]
theorem iL{u v w:Bool}{f p q:α}{f' p' q':β}(h1:cmp p f=cmq p' f')(h2:cmp q f=cmq q' f')(h3:cmp p q=cmq p' q'):iE cmp (u,f) (v,p) (w,q)=iE cmq (u,f') (v,p') (w,q'):=by
 unfold iE qp;rw[sX h1,sX h2,sX h3]
theorem gM{u v w:Bool}{f p q:α}{f' p' q':β}(h1:cmp p f=cmq p' f')(h2:cmp q f=cmq q' f')(h3:cmp p q=cmq p' q'):kU cmp (u,f) (v,p) (w,q)=kU cmq (u,f') (v,p') (w,q'):=by
 unfold kU;rw[ue h1,ue h2,ue h3]
end
def nZ(k i l j:Nat):Bool:=(k !=0||(bif l==0 then i==j else decide (j<i)))&&(k !=2||(bif l==2 then i==j else decide (i<j)))
def upA(k:Nat):Bool:=k==0||k==1
def ufA(k:Nat):Bool:=k==1||k==2
def dI(i j:Nat):Int:=cI j i
def Gz(k i l j m n:Nat):Bool:=nZ k i l j&&nZ l j k i&&nZ k i m n&&nZ m n k i&&nZ l j m n&&nZ m n l j
theorem Uq:∀kF kP kT:Fin 4,∀iF iP iT:Fin 3,Gz kF.1 iF.1 kP.1 iP.1 kT.1 iT.1=true->
  decide (iE cI (upA kF.1,iF.1) (upA kP.1,iP.1) (upA kT.1,iT.1)<=0)=(decide (kU cI (upA kF.1,iF.1) (upA kF.1,iF.1) (upA kP.1,iP.1)<=0)&&decide (kU cI (upA kF.1,iF.1) (upA kP.1,iP.1) (upA kT.1,iT.1)<=0)):=by decide+kernel
theorem aeH:∀kF kP kT:Fin 4,∀iF iP iT:Fin 3,Gz kF.1 iF.1 kP.1 iP.1 kT.1 iT.1=true->
  decide (iE cI (upA kT.1,iT.1) (upA kP.1,iP.1) (upA kF.1,iF.1)<=0)=(decide (kU dI (ufA kF.1,iF.1) (ufA kF.1,iF.1) (ufA kP.1,iP.1)<=0)&&decide (kU dI (ufA kF.1,iF.1) (ufA kP.1,iP.1) (ufA kT.1,iT.1)<=0)):=by decide+kernel
def wc(a b:Int):Bool:=a==0||b==0||a==b
def akG(d a b:Int):Bool:=decide ((bif decide (d>0)then-a else a)<=0)&&decide ((bif decide (d>0)then-b else b)<=0)
theorem u5:∀f p t:Fin 3,wc (cI f.1 p.1) (cI p.1 t.1)=akG (cI f.1 t.1) (cI f.1 p.1) (cI p.1 t.1):=by decide+kernel
namespace RE
theorem lt_lin:n7 (λx y:RE=>x<y):=⟨lt_irrefl,λ_ _ _=>da,n8⟩
theorem uL(x y:RE)(h1:x<y):x-y<0:=by grind
theorem Cq(x y:RE)(h1:y<x):0<x-y:=by grind
theorem sg_cmpO:vM (λx y:RE=>x<y) (λx y=>sg (x-y)):=λx y=>⟨λh=>iw (uL _ _ h),λh=>by subst h;show sg (x-x)=0;rw[sub_self,du],λh=>dD (Cq _ _ h)⟩
def acV(p q:RE×RE):Prop:=p.1<q.1\/(p.1=q.1/\p.2<q.2)
theorem kN:n7 acV:=by
 refine⟨λx h=>?_,λx y z h1 h2=>?_,λx y=>?_⟩
 ·rcases h with h|h
  ·exact lt_irrefl _ h
  ·exact lt_irrefl _ h.2
 ·rcases h1 with h1|⟨h1,h1'⟩
  ·rcases h2 with h2|⟨h2,h2'⟩
   ·exact .inl (da h1 h2)
   ·exact .inl (h2▸h1)
  ·rcases h2 with h2|⟨h2,h2'⟩
   ·exact .inl (h1▸h2)
   ·exact .inr ⟨h1.trans h2,da h1' h2'⟩
 ·rcases n8 x.1 y.1 with h|h|h
  ·exact .inl (.inl h)
  ·rcases n8 x.2 y.2 with h'|h'|h'
   ·exact .inl (.inr ⟨h,h'⟩)
   ·exact .inr (.inl (anN h h'))
   ·exact .inr (.inr (.inr ⟨h.symm,h'⟩))
  ·exact .inr (.inr (.inl h))
def lxc(p q:RE×RE):Int:=bif sg (p.1-q.1)==0 then sg (p.2-q.2)else sg (p.1-q.1)
theorem jz:vM acV lxc:=λp q=>by
 unfold lxc;refine⟨λh=>?_,λh=>?_,λh=>?_⟩
 ·rcases h with h|⟨h,h'⟩
  ·rw[iw (uL _ _ h)];rfl
  ·rw[h,sub_self,du,iw (uL _ _ h')];rfl
 ·subst h;rw[sub_self,sub_self,du];rfl
 ·rcases h with h|⟨h,h'⟩
  ·rw[dD (Cq _ _ h)];rfl
  ·rw[<-h,sub_self,du,dD (Cq _ _ h')];rfl
def cls(u v:RE):Nat:=bif sg v==1 then 1 else bif sg v== -1 then 3 else bif sg u==1 then 0 else 2
theorem iX(u v:RE):cls u v<4:=by
 unfold cls;cases sg v==1<;>cases sg v== -1<;>cases sg u==1<;>simp
theorem adU(u v:RE):(decide (sg v>0)||(sg v==0&&decide (sg u>0)))=upA (cls u v):=by
 unfold cls;rcases bj v with⟨_,h⟩|⟨_,h⟩|⟨_,h⟩<;>rcases bj u with⟨_,h'⟩|⟨_,h'⟩|⟨_,h'⟩<;>rw[h,h']<;>rfl
theorem ad3{u v Q:RE}(hQ:0<Q)(h:u*u+v*v=Q):(decide (sg v>0)||(sg v==0&&decide (-sg u>0)))=ufA (cls u v):=by
 unfold cls;rcases bj v with⟨_,h1⟩|⟨h0,h1⟩|⟨_,h1⟩<;>rcases bj u with⟨_,h'⟩|⟨h2,h'⟩|⟨_,h'⟩<;>rw[h1,h']<;>try rfl
 rw[h0,h2,mul_zero,add_zero]at h;rw[<-h]at hQ;exact absurd hQ (lt_irrefl _)
theorem QC(u v w z Q:RE):2*((u-(0))*(w-(u)))+((w-(u))*(w-(u)))+((u*u+v*v-(Q)))+((Q-(w*w+z*z)))+((z*z-(0)))+((0-(v))*(v-(0)))=0:=by grind
theorem aeU(u v w z Q:RE)(h1:u*u+v*v=Q)(h2:w*w+z*z=Q)(h3:v=0)(h4:0<u)(h5:0<=z*z):w<=u:=λhg=>far (aK (aK (aK (aK (aK (J7 (by decide+kernel:(0:Rat)<2) (mul_pos (aL h4) (aL hg))) (le_of_lt (mul_pos (aL hg) (aL hg)))) (aG (mZ h1))) (aG (ge h2))) (aG h5)) (aD (aG (ge h3)) (aG (mZ h3)))) (QC u v w z Q)
theorem Od(u v w z Q:RE):2*((0-(u))*(u-(w)))+((u-(w))*(u-(w)))+((u*u+v*v-(Q)))+((Q-(w*w+z*z)))+((z*z-(0)))+((0-(v))*(v-(0)))=0:=by grind
theorem ae0(u v w z Q:RE)(h1:u*u+v*v=Q)(h2:w*w+z*z=Q)(h3:v=0)(h4:u<0)(h5:0<=z*z):u<=w:=λhg=>far (aK (aK (aK (aK (aK (J7 (by decide+kernel:(0:Rat)<2) (mul_pos (aL h4) (aL hg))) (le_of_lt (mul_pos (aL hg) (aL hg)))) (aG (mZ h1))) (aG (ge h2))) (aG h5)) (aD (aG (ge h3)) (aG (mZ h3)))) (Od u v w z Q)
theorem Pm(u w z Q:RE)(h1:u*u=Q)(h2:w*w+z*z=Q)(h3:w*w=u*u):z*z<=0:=by grind
theorem xH{z:RE}(h:z*z<=0):z=0:=by
 rcases n8 z 0 with e|e|e
 ·have:=mul_pos (kE e) (kE e);rw[neg_mul,mul_neg,neg_neg]at this
  exact absurd this (λh'=>lt_irrefl _ (da h' (by
   rcases cJ (c9 z)with h2|h2
   ·exact absurd h2 ((DQ _ _).1 h)
   ·rw[h2]at h';exact absurd h' (lt_irrefl _))))
 ·exact e
 ·exact absurd (mul_pos e e) ((DQ _ _).1 h)
theorem Ja{u v:RE}:cls u v=0↔v=0/\0<u:=by
 unfold cls;rcases bj v with⟨a,h1⟩|⟨a,h1⟩|⟨a,h1⟩<;>rcases bj u with⟨b,h'⟩|⟨b,h'⟩|⟨b,h'⟩<;>rw[h1,h']<;>simp[a,b]<;>first|exact lt_irrefl _|exact λh=>absurd (da h b) (lt_irrefl _)|(intro h;rw[h]at a;exact absurd a (lt_irrefl _))|skip
end RE
end
section
def xP(p:Pt):Rt:=coR p.1 p.2.1 p.2.2.2.2
def yP(p:Pt):Rt:=coR p.2.2.1 p.2.2.2.1 p.2.2.2.2
def atP(v:Rat×Rat):Pt:=(v.1,0,v.2,0,0)
def rdP(p:Pt):Pt:=(p.1,p.2.1,p.2.2.1,p.2.2.2.1,bif decide (p.2.1=0)&&decide (p.2.2.2.1=0)then 0 else p.2.2.2.2)
def mkP(x y:Rt):Pt:=rdP (x.1,x.2.1,y.1,y.2.1,bif decide (x.2.1=0)then y.2.2 else x.2.2)
def xn(x y:Rt):Prop:=x.2.1=0\/y.2.1=0\/x.2.2=y.2.2
instance (x y:Rt):Decidable (xn x y):=by unfold xn;infer_instance
def aZ(p q:Pt):Int:=bif bi (xP p) (xP q)==0 then bi (yP p) (yP q)else bi (xP p) (xP q)
def trP(p:Pt)(v:Rat×Rat):Pt:=(p.1+v.1,p.2.1,p.2.2.1+v.2,p.2.2.2.1,p.2.2.2.2)
def bkV(v:Rat×Rat):Rat×Rat:=(-v.1,-v.2)
def sqA(p:Pt)(v:Rat×Rat):Rat:=(p.1-v.1)*(p.1-v.1)+(p.2.2.1-v.2)*(p.2.2.1-v.2)+(p.2.1*p.2.1+p.2.2.2.1*p.2.2.2.1)*p.2.2.2.2
def sqB(p:Pt)(v:Rat×Rat):Rat:=(p.1-v.1)*p.2.1+(p.2.2.1-v.2)*p.2.2.2.1+((p.1-v.1)*p.2.1+(p.2.2.1-v.2)*p.2.2.2.1)
def sqP(p:Pt)(v:Rat×Rat):Rt:=coR (sqA p v) (sqB p v) p.2.2.2.2
def Iu(p:Pt):Prop:=(p.2.1=0/\p.2.2.2.1=0/\p.2.2.2.2=0)\/(¬(p.2.1=0/\p.2.2.2.1=0)/\0<p.2.2.2.2/\gR p.2.2.2.2=false)
instance (p:Pt):Decidable (Iu p):=by unfold Iu;infer_instance
class Rpd (p:Pt):Prop where
 rd:Iu p
def okP(k:Nat)(x:BP):Prop:=ok Pt k x/\Iu (dec x)
instance (k:Nat) (x:BP):Decidable (okP k x):=by unfold okP;infer_instance
theorem bU{k:Nat}{x:BP}(h:okP k x):∃v:Pt,x=enc v/\Bd v k/\Rpd v:=by
 obtain⟨h1,h2⟩:=h;obtain⟨v,rfl,bv⟩:=aI h1;rw[aA]at h2;exact⟨v,rfl,bv,⟨h2⟩⟩
theorem aQ{x:Pt}{j k:Nat}[h:Bd x j][r:Rpd x](hj:j<=k)(hk:k<=480000):decide (okP k (enc x))=true:=anb ⟨anf (okd hj hk),by rw[aA];exact r.rd⟩
theorem Rpd.ns{p:Pt}(h:Rpd p):Ns p.2.2.2.2:=⟨by rcases h.rd with h|h;exact .inl h.2.2;exact .inr h.2⟩
instance am3 {p:Pt} [h:Rpd p]:Ns p.2.2.2.2:=h.ns
theorem Rpd.nn{p:Pt}(h:Rpd p):0<=p.2.2.2.2:=h.ns.nn
theorem S4{a b c:Rat}(h:Ns c)(hb:b=0\/c≠0):Rdd (coR a b c):=by
 refine⟨?_⟩;unfold coR;by_cases e:b=0
 ·rw[anb e];exact .inl ⟨rfl,rfl⟩
 ·rw[ane e];rcases h.ns with h|h
  ·rcases hb with hb|hb
   ·exact absurd hb e
   ·exact absurd h hb
  ·exact .inr ⟨e,h⟩
theorem Rpd.b0{p:Pt}(h:Rpd p):(p.2.1=0/\p.2.2.2.1=0)\/p.2.2.2.2≠0:=by
 rcases h.rd with h|h
 ·exact .inl ⟨h.1,h.2.1⟩
 ·exact .inr (by have:=h.2.1;grind)
instance amN {p:Pt} [h:Rpd p]:Rdd (xP p):=S4 h.ns (by rcases h.b0 with h|h;exact .inl h.1;exact .inr h)
instance alz {p:Pt} [h:Rpd p]:Rdd (yP p):=S4 h.ns (by rcases h.b0 with h|h;exact .inl h.2;exact .inr h)
instance am4 {p:Pt} {v:Rat×Rat} [h:Rpd p]:Rdd (sqP p v):=S4 h.ns (by
 rcases h.b0 with h|h
 ·refine .inl ?_;unfold sqB;rw[h.1,h.2];grind
 ·exact .inr h)
instance amT {v:Rat×Rat}:Rpd (atP v):=⟨.inl ⟨rfl,rfl,rfl⟩⟩
instance am1 {p:Pt} {v:Rat×Rat} [h:Rpd p]:Rpd (trP p v):=⟨h.rd⟩
theorem aar{x y:Rt}(hx:Rdd x)(hy:Rdd y)(_h:xn x y):Rpd (mkP x y):=by
 refine⟨?_⟩;unfold mkP rdP Iu;dsimp only;rcases hx.rd with⟨a1,a2⟩|⟨a1,a2,a3⟩<;>rcases hy.rd with⟨b1,b2⟩|⟨b1,b2,b3⟩
 ·simp[a1,b1]
 ·simp[a1,b1,b2,b3]
 ·simp[a1,b1,a2,a3]
 ·simp[a1,b1,a2,a3]
section
variable {p:Pt} {j:Nat}
instance amZ [h:Bd p j]:Bd (xP p) (mx j (mx j j)):=inferInstanceAs (Bd (coR p.1 p.2.1 p.2.2.2.2) _)
instance amO [h:Bd p j]:Bd (yP p) (mx j (mx j j)):=inferInstanceAs (Bd (coR p.2.2.1 p.2.2.2.1 p.2.2.2.2) _)
instance alN {v:Rat×Rat} [h:Bd v j]:Bd (atP v) (mx j (mx 1 (mx j (mx 1 1)))):=inferInstanceAs (Bd ((v.1,0,v.2,0,0):Pt) _)
instance amF {v:Rat×Rat} {k:Nat} [h:Bd p j] [h':Bd v k]:Bd (trP p v) (mx (j+k+1) (mx j (mx (j+k+1) (mx j j)))):=inferInstanceAs (Bd ((p.1+v.1,p.2.1,p.2.2.1+v.2,p.2.2.2.1,p.2.2.2.2):Pt) _)
instance amX {v:Rat×Rat} [h:Bd v j]:Bd (bkV v) (mx j j):=inferInstanceAs (Bd ((-v.1,-v.2):Rat×Rat) _)
end
instance akW {p:Pt} {j:Nat} [h:Bd p j]:Bd (rdP p) (mx j (mx j (mx j (mx j (mx 1 j))))):=inferInstanceAs (Bd ((p.1,p.2.1,p.2.2.1,p.2.2.2.1,bif decide (p.2.1=0)&&decide (p.2.2.2.1=0)then 0 else p.2.2.2.2):Pt) _)
instance acH {x y:Rt} {j k:Nat} [h:Bd x j] [h':Bd y k]:Bd (mkP x y) (mx (mx j (mx j (mx k (mx k (mx k j))))) (mx (mx j (mx j (mx k (mx k (mx k j))))) (mx (mx j (mx j (mx k (mx k (mx k j))))) (mx (mx j (mx j (mx k (mx k (mx k j))))) (mx 1 (mx j (mx j (mx k (mx k (mx k j)))))))))):=inferInstanceAs (Bd (rdP (x.1,x.2.1,y.1,y.2.1,bif decide (x.2.1=0)then y.2.2 else x.2.2)) _)
theorem gn{j k n:Nat}(h1:j<=n)(h2:k<=n):mx j k<=n:=by
 unfold mx;cases decide (j<=k)
 ·exact h1
 ·exact h2
section
variable {p:Pt} {v:Rat×Rat} {j k:Nat}
instance als [h:Bd p j] [h':Bd v k]:Bd (sqA p v) (10*(j+k+1)):=by
 have a1:Bd (p.1-v.1) _:=inferInstance;have a2:Bd (p.2.2.1-v.2) _:=inferInstance;have a3:Bd (p.2.1*p.2.1+p.2.2.2.1*p.2.2.2.1) _:=inferInstance;have i:Bd ((p.1-v.1)*(p.1-v.1)+(p.2.2.1-v.2)*(p.2.2.1-v.2)+(p.2.1*p.2.1+p.2.2.2.1*p.2.2.2.1)*p.2.2.2.2) _:=inferInstance;exact i.mono (by omega)
instance alw [h:Bd p j] [h':Bd v k]:Bd (sqB p v) (10*(j+k+1)):=by
 have a1:Bd (p.1-v.1) _:=inferInstance;have a2:Bd (p.2.2.1-v.2) _:=inferInstance;have i:Bd ((p.1-v.1)*p.2.1+(p.2.2.1-v.2)*p.2.2.2.1+((p.1-v.1)*p.2.1+(p.2.2.1-v.2)*p.2.2.2.1)) _:=inferInstance;exact i.mono (by omega)
instance alx [h:Bd p j] [h':Bd v k]:Bd (sqP p v) (10*(j+k+1)):=by
 have i:Bd (coR (sqA p v) (sqB p v) p.2.2.2.2) _:=inferInstance;exact i.mono (gn (by omega) (gn (by omega) (by omega)))
end
namespace RE
def pX(p:Pt):RE:=v2 p.1 p.2.1 p.2.2.2.2
def pY(p:Pt):RE:=v2 p.2.2.1 p.2.2.2.1 p.2.2.2.2
def pR(p:Pt):RE×RE:=(pX p,pY p)
theorem uX(p:Pt):vR (xP p)=pX p:=vR_co _ _ _
theorem Xg(p:Pt):vR (yP p)=pY p:=vR_co _ _ _
theorem mW{p:Pt}[h:Rpd p]:0<=(xP p).2.2:=(amN (p:=p)).nn
theorem KB{p:Pt}[h:Rpd p]:0<=(yP p).2.2:=(alz (p:=p)).nn
theorem j8{p q:Pt}[Rpd p][Rpd q]:aZ p q=lxc (pR p) (pR q):=by
 unfold aZ lxc;rw[cmpT_re mW mW,cmpT_re KB KB,uX,uX,Xg,Xg];rfl
theorem adH(x y s t c u w:RE):(x+s*c-u)*(x+s*c-u)+(y+t*c-w)*(y+t*c-w)=(x-u)*(x-u)+(y-w)*(y-w)+(s*s+t*t)*(c*c)+((x-u)*s+(y-w)*t+((x-u)*s+(y-w)*t))*c:=by grind
theorem Hm{p:Pt}{v:Rat×Rat}[h:Rpd p]:vR (sqP p v)=(pX p-of v.1)*(pX p-of v.1)+(pY p-of v.2)*(pY p-of v.2):=by
 unfold sqP pX pY;rw[vR_co];unfold v2;rw[adH,dE h.nn];unfold sqA sqB;simp only[of_add,of_sub,aC]
theorem agO(v:Rat×Rat):pX (atP v)=of v.1:=d7 _ _
theorem agX(v:Rat×Rat):pY (atP v)=of v.2:=d7 _ _
end RE
end
theorem mt(a b:Rat):(aF a b !=0)=!decide (a=b):=by
 unfold bne;rw[au]
def ZN:List En:=[⟨125,jn,fO⟩,⟨67,iV,fA⟩,⟨132,jR,gb⟩,⟨65,jx,fM⟩,⟨54,gK,eH⟩,⟨66,nA,jk⟩,enT Gf]
def Z1(_k:KT):OLR:=og (decide (aJ (0:Int))) (some [RV.d tR (hid (ao ((0:Int):Rat)))])
def ail:Cn 166 []:=cn<|lf True [.d tR (ao 0)] λ_=>by
 refine aB ZN (Z1) ⟨0,?_⟩;unfold Z1;rw[dT (show aJ 0 by decide)];simp only[bL];rfl
def J2:List En:=enL ail::ZN
def Z4(v:BV)(_k:KT):OLR:=some [RV.d tP (v.1,(hid (ao 0),(v.2,(hid (ao 0),hid (ao 0)))))]
def K3:Cn 69 [tV]:=cn λ(v:BV)=>lf (ok (Rat×Rat) 100000 v) [.d tP (enc (atP (dec v)))] λh=>by
 refine aB J2 (Z4 v) ⟨0,?_⟩;have hv:=h;obtain⟨v,rfl,bv⟩:=aI hv;unfold Z4;simp only[aX];try rfl
def Ym(p:BP)(_k:KT):OLR:=og (o1 p.2.1) (match(aF (ah p.2.1) 0)==0 with|true=>(og (o1 p.2.2.2.1) (match(aF (ah p.2.2.2.1) 0)==0 with|true=>some [RV.d tP (p.1,(p.2.1,(p.2.2.1,(p.2.2.2.1,hid (ao 0)))))]|false=>some [RV.d tP p]))|false=>some [RV.d tP p])
def ajI:Cn 290 [tP]:=cn λ(p:BP)=>lf (ok Pt 21000 p) [.d tP (enc (rdP (dec p)))] λh=>by
 refine aB J2 (Ym p) ⟨0,?_⟩;have hp:=h;obtain⟨p,rfl,bp⟩:=aI hp;unfold Ym;simp only[aX,Nat.reduceLeDiff,au];unfold rdP;by_cases h1:p.2.1=0
 ·by_cases h2:p.2.2.2.1=0
  ·rw[anb h1,anb h2];rfl
  ·rw[anb h1,ane h2];rfl
 ·rw[ane h1];rfl
def XX(a b c:BR)(_k:KT):OLR:=og (o1 b) (match(aF (ah b) 0)==0 with|true=>some [RV.d tO (a,(b,hid (ao 0)))]|false=>some [RV.d tO (a,(b,c))])
def ahN:Cn 224 [tR,tR,tR]:=cn λ(a b c:BR)=>lf (okR a/\okR b/\okR c) [.d tO (enc (coR (ah a) (ah b) (ah c)))] λh=>by
 refine aB J2 (XX a b c) ⟨0,?_⟩;obtain⟨ha,hb,hc⟩:=h;obtain⟨a,rfl,ba⟩:=fL ha;obtain⟨b,rfl,bb⟩:=fL hb;obtain⟨c,rfl,bc⟩:=fL hc;unfold XX;simp only[aX,Nat.reduceLeDiff,au];unfold coR;by_cases e:b=0
 ·subst e;rw[anb rfl];rfl
 ·rw[ane e];rfl
def E4:List En:=enL K3::enL ajI::enL ahN::J2
def ZL(x y:BO3)(_k:KT):OLR:=og (o1 x.2.1) (match(aF (ah x.2.1) 0)==0 with|true=>(og (decide (ok Pt 21000 (x.1,(x.2.1,y)))) (some [RV.d tP (hid (enc (rdP (dec (x.1,(x.2.1,y)))))),RV.d aqw 0]))|false=>(og (o1 y.2.1) (match(aF (ah y.2.1) 0) !=0 with|true=>(og (o2 x.2.2 y.2.2) (match(aF (ah x.2.2) (ah y.2.2)) !=0 with|true=>some [RV.d tP (((false,[]),(false,[])),(((false,[]),(false,[])),(((false,[]),(false,[])),(((false,[]),(false,[])),((false,[]),(false,[])))))),RV.d aqw 1]|false=>(og (decide (ok Pt 21000 (x.1,(x.2.1,(y.1,(y.2.1,x.2.2)))))) (some [RV.d tP (hid (enc (rdP (dec (x.1,(x.2.1,(y.1,(y.2.1,x.2.2)))))))),RV.d aqw 0]))))|false=>(og (decide (ok Pt 21000 (x.1,(x.2.1,(y.1,(y.2.1,x.2.2)))))) (some [RV.d tP (hid (enc (rdP (dec (x.1,(x.2.1,(y.1,(y.2.1,x.2.2)))))))),RV.d aqw 0])))))
def Z6:Cn 232 [tO,tO]:=cn λ(x y:BO3)=>lf (okT 15000 x/\okT 15000 y/\xn (dec x) (dec y)) [.d tP (enc (mkP (dec x) (dec y))),.d aqw 0] λh=>by
 refine aB E4 (ZL x y) ⟨0,?_⟩;obtain⟨hx,hy,hy_2⟩:=h;obtain⟨x,rfl,bx,rx⟩:=ii hx;obtain⟨y,rfl,b_y,ry⟩:=ii hy;have i1:decide (ok Pt 21000 (enc ((x.1,x.2.1,y):Pt)))=true:=okd (by decide) (by decide);have i2:decide (ok Pt 21000 (enc ((x.1,x.2.1,y.1,y.2.1,x.2.2):Pt)))=true:=okd (by decide) (by decide);have j1:(dec ((ao x.1,ao x.2.1,enc y):BP):Pt)=(x.1,x.2.1,y):=aA ((x.1,x.2.1,y):Pt);have j2:(dec ((ao x.1,ao x.2.1,ao y.1,ao y.2.1,ao x.2.2):BP):Pt)=(x.1,x.2.1,y.1,y.2.1,x.2.2):=aA ((x.1,x.2.1,y.1,y.2.1,x.2.2):Pt);have i1:decide (ok Pt 21000 ((ao x.1,ao x.2.1,enc y):BP))=true:=i1;have i2:decide (ok Pt 21000 ((ao x.1,ao x.2.1,ao y.1,ao y.2.1,ao x.2.2):BP))=true:=i2;have hm:=hy_2;rw[aA,aA]at hm;unfold ZL;simp only[aX,Nat.reduceLeDiff,au,mt,i1,i2,j1,j2];unfold mkP;by_cases e1:x.2.1=0
 ·rw[anb e1];rfl
 ·rw[ane e1];by_cases e2:y.2.1=0
  ·rw[anb e2];rfl
  ·rw[ane e2,anb ((hm.resolve_left e1).resolve_left e2)];rfl
def ajl(p:BP)(_k:KT):OLR:=og (decide (okR p.1/\okR p.2.1/\okR p.2.2.2.2)) (some [RV.d tO (hid (enc (coR (ah p.1) (ah p.2.1) (ah p.2.2.2.2))))])
def ajj:Cn 202 [tP]:=cn λ(p:BP)=>lf (okP 4000 p) [.d tO (enc (xP (dec p)))] λh=>by
 refine aB E4 (ajl p) ⟨0,?_⟩;have hp:=h;obtain⟨p,rfl,bp,rp⟩:=bU hp;unfold ajl;simp only[aX,Nat.reduceLeDiff];try rfl
def ahU(p:BP)(_k:KT):OLR:=og (decide (okR p.2.2.1/\okR p.2.2.2.1/\okR p.2.2.2.2)) (some [RV.d tO (hid (enc (coR (ah p.2.2.1) (ah p.2.2.2.1) (ah p.2.2.2.2))))])
def afI:Cn 203 [tP]:=cn λ(p:BP)=>lf (okP 4000 p) [.d tO (enc (yP (dec p)))] λh=>by
 refine aB E4 (ahU p) ⟨0,?_⟩;have hp:=h;obtain⟨p,rfl,bp,rp⟩:=bU hp;unfold ahU;simp only[aX,Nat.reduceLeDiff];try rfl
def YE(p:BP)(v:BV)(_k:KT):OLR:=let y1:=hMu (hSu p.1 v.1) (hSu p.1 v.1);let y2:=hMu (hSu p.2.2.1 v.2) (hSu p.2.2.1 v.2);let y3:=hMu p.2.2.2.1 p.2.2.2.1;let y4:=hAd (hMu p.2.1 p.2.1) y3;let y5:=hMu (hSu p.1 v.1) p.2.1;let y6:=hMu (hSu p.2.2.1 v.2) p.2.2.2.1;let y7:=hAd (hAd y1 y2) (hMu y4 p.2.2.2.2);let y8:=hAd (hAd y5 y6) (hAd y5 y6);let y9:OLR:=match decide (okR y5/\okR y6)with|true=>(og (o2 (hAd y5 y6) (hAd y5 y6)) (og (decide (okR y7/\okR y8/\okR p.2.2.2.2)) (some [RV.d tO (hid (enc (coR (ah y7) (ah y8) (ah p.2.2.2.2))))])))|false=>none;let y10:OLR:=match decide (okR (hSu p.2.2.1 v.2)/\okR p.2.2.2.1)with|true=>y9|false=>none;let y11:OLR:=match decide (okR (hAd y1 y2)/\okR (hMu y4 p.2.2.2.2))with|true=>cD (og (o2 (hSu p.1 v.1) p.2.1) (cD (og (o2 (hSu p.2.2.1 v.2) p.2.2.2.1) (dup (.b .l .l) y9)) y10)) (og (o2 (hSu p.1 v.1) p.2.1) y10)|false=>none;let y12:OLR:=match decide (okR y4/\okR p.2.2.2.2)with|true=>y11|false=>none;let y13:OLR:=match decide (okR (hMu p.2.1 p.2.1)/\okR y3)with|true=>y12|false=>none;let y14:OLR:=match decide (okR p.2.2.2.1/\okR p.2.2.2.1)with|true=>y13|false=>none;let y15:OLR:=match decide (okR p.2.1/\okR p.2.1)with|true=>y14|false=>none;let y16:OLR:=match decide (okR y1/\okR y2)with|true=>y15|false=>none;let y17:OLR:=match decide (okR (hSu p.2.2.1 v.2)/\okR (hSu p.2.2.1 v.2))with|true=>y16|false=>none;og (o2 p.1 v.1) (og (o2 p.2.2.1 v.2) (cD (og (o2 (hSu p.1 v.1) (hSu p.1 v.1)) (cD (og (o2 (hSu p.2.2.1 v.2) (hSu p.2.2.1 v.2)) (cD (og (o2 y1 y2) (cD (og (o2 p.2.1 p.2.1) (cD (og (o2 p.2.2.2.1 p.2.2.2.1) (cD (og (o2 (hMu p.2.1 p.2.1) y3) (cD (og (o2 y4 p.2.2.2.2) (dup (.b .l .l) y11)) y12)) y13)) y14)) y15)) y16)) y17)) (og (o2 (hSu p.1 v.1) (hSu p.1 v.1)) y17)))
def abo:Cn 127 [tP,tV]:=cn λ(p:BP) (v:BV)=>lf (okP 3500 p/\ok (Rat×Rat) 300 v) [.d tO (enc (sqP (dec p) (dec v)))] λh=>by
 refine aB E4 (YE p v) ⟨0,?_⟩;obtain⟨hp,hv⟩:=h;obtain⟨p,rfl,bp,rp⟩:=bU hp;obtain⟨v,rfl,bv⟩:=aI hv;unfold YE;simp only[aX,Nat.reduceAdd,Nat.reduceLeDiff];rfl
def akt:List En:=enL ajj::enL afI::E4
def aa3(p q:BP)(_k:KT):OLR:=og (decide (okP 4000 p)) (og (decide (okP 4000 q)) (og (decide (okT 15000 (hid (enc (xP (dec p))))/\okT 15000 (hid (enc (xP (dec q)))))) (match(bi (dec (hid (enc (xP (dec p))))) (dec (hid (enc (xP (dec q)))))) !=0 with|true=>some [RV.d aqw (bi (dec (hid (enc (xP (dec p))))) (dec (hid (enc (xP (dec q))))))]|false=>(og (decide (okP 4000 p)) (og (decide (okP 4000 q)) (og (decide (okT 15000 (hid (enc (yP (dec p))))/\okT 15000 (hid (enc (yP (dec q)))))) (some [RV.d aqw (bi (dec (hid (enc (yP (dec p))))) (dec (hid (enc (yP (dec q))))))])))))))
def OS:Cn 103 [tP,tP]:=cn λ(p q:BP)=>lf (okP 4000 p/\okP 4000 q) [.d aqw (aZ (dec p) (dec q))] λh=>by
 refine aB akt (aa3 p q) ⟨0,?_⟩;obtain⟨hp,hq⟩:=h;obtain⟨p,rfl,bp,rp⟩:=bU hp;obtain⟨q,rfl,bq,rq⟩:=bU hq;unfold aa3;simp only[aX,Nat.reduceLeDiff,aP,aQ];unfold aZ bne;cases bi (xP p) (xP q)==0<;>rfl
section
def so(l:Ln)(p:Pt):Rat:=l.1*p.1+l.2.1*p.2.2.1-l.2.2
def sH(l:Ln)(p:Pt):Rat:=l.1*p.2.1+l.2.1*p.2.2.2.1
def uF(l:Ln)(p:Pt):Int:=iy (so l p) (sH l p) p.2.2.2.2
def ctr(c:Ln):Rat×Rat:=(c.1,c.2.1)
def qn(c:Ln)(p:Pt):Int:= -iy (sqA p (ctr c)-c.2.2) (sqB p (ctr c)) p.2.2.2.2
def ou(l:Ln)(v:Rat×Rat):Rat:=(l.1*v.1+l.2.1*v.2-l.2.2)/(l.1*l.1+l.2.1*l.2.1)
def dZ(l:Ln)(v:Rat×Rat):Rat×Rat:=(v.1-ou l v*l.1,v.2-ou l v*l.2.1)
section
variable {l:Ln} {p:Pt} {v:Rat×Rat} {i j k:Nat}
instance ala [h:Bd l i]:Bd (ctr l) (mx i i):=inferInstanceAs (Bd ((l.1,l.2.1):Rat×Rat) _)
instance akM [h:Bd l i] [h':Bd p j]:Bd (so l p) ((i+j)+(i+j)+1+i+1):=inferInstanceAs (Bd (l.1*p.1+l.2.1*p.2.2.1-l.2.2) _)
instance akI [h:Bd l i] [h':Bd p j]:Bd (sH l p) ((i+j)+(i+j)+1):=inferInstanceAs (Bd (l.1*p.2.1+l.2.1*p.2.2.2.1) _)
instance akP [h:Bd l i] [h':Bd v k]:Bd (ou l v) (((i+k)+(i+k)+1+i+1)+((i+i)+(i+i)+1)):=inferInstanceAs (Bd ((l.1*v.1+l.2.1*v.2-l.2.2)/(l.1*l.1+l.2.1*l.2.1)) _)
instance ai0 [h:Bd l i] [h':Bd v k]:Bd (dZ l v) (8*i+3*k+4):=by
 have i1:Bd (v.1-ou l v*l.1) _:=inferInstance;have i2:Bd (v.2-ou l v*l.2.1) _:=inferInstance;have i3:Bd ((v.1-ou l v*l.1,v.2-ou l v*l.2.1):Rat×Rat) _:=inferInstance;exact i3.mono (gn (by omega) (by omega))
end
theorem lk{a b:Rat}(h:a≠0\/b≠0):a*a+b*b≠0:=by
 have ha:0<=a*a:=by
  rcases(by grind:0<=a\/0<= -a)with h|h
  ·exact anw h h
  ·have:=anw h h;grind
 have hb:0<=b*b:=by
  rcases(by grind:0<=b\/0<= -b)with h|h
  ·exact anw h h
  ·have:=anw h h;grind
 intro e;have e1:a*a=0:=by grind
 have e2:b*b=0:=by grind
 rcases h with h|h
 ·exact h (by rcases apr.1 e1 with h|h<;>exact h)
 ·exact h (by rcases apr.1 e2 with h|h<;>exact h)
namespace RE
theorem aeF(a b x s y t c r:RE):a*(x+s*r)+b*(y+t*r)+ -c=a*x+b*y-c+(a*s+b*t)*r:=by grind
theorem agU(a b q r:RE):a+b*r+ -q=a-q+b*r:=by grind
theorem M2(a b:RE):a+ -b=a-b:=rfl
theorem CW(l:Ln){p:Pt}[h:Rpd p]:uF l p=sg (of l.1*pX p+of l.2.1*pY p+ -of l.2.2):=by
 unfold uF pX pY;rw[sgn2_re h.nn];unfold v2;rw[aeF];unfold so sH;simp only[of_add,of_sub,aC]
theorem DO(c:Ln){p:Pt}[h:Rpd p]:qn c p= -sg ((pX p-of c.1)*(pX p-of c.1)+(pY p-of c.2.1)*(pY p-of c.2.1)+ -of c.2.2):=by
 unfold qn;have e:=Hm (p:=p) (v:=ctr c);unfold sqP at e;rw[vR_co]at e;rw[sgn2_re h.nn];unfold v2 at e ⊢;rw[of_sub,<-agU,e];rfl
theorem sidL_ok(l:Ln){p:Pt}[Rpd p](h:(zU l p).2=true):(zU l p).1=uF l p:=by
 rw[W2 h,CW];try rfl
theorem insC_ok(c:Ln){p:Pt}[Rpd p](h:(wm c p).2=true): -(wm c p).1=qn c p:=by
 rw[UJ h,DO];simp only[M2];try rfl
end RE
end
def kz(r s:Rt):Rat:=bif decide (r.2.1=0)then s.2.2 else r.2.2
def t7(r s:Rt):Bool:=decide (r.2.1=0)||(decide (s.2.1=0)||decide (r.2.2=s.2.2))
def qq(r s:Rt):Rt:=oB (r.1*s.1+r.2.1*s.2.1*kz r s) (r.1*s.2.1+r.2.1*s.1) (kz r s)
def AA(r s:Rt):Rt:=oB (r.1+s.1) (r.2.1+s.2.1) (kz r s)
def arT(r:Rt)(a:Rat):Rt:=(r.1+a,r.2.1,r.2.2)
theorem bh(a b:Rat):(aF a b !=0)=!decide (a=b):=by
 unfold bne;rw[au]
instance alc {r s:Rt} {i j:Nat} [h:Bd r i] [h':Bd s j]:Bd (kz r s) (mx j i):=inferInstanceAs (Bd (bif decide (r.2.1=0)then s.2.2 else r.2.2) _)
instance akO {a b c:Rat} {i j k:Nat} [ha:Bd a i] [hb:Bd b j] [hc:Bd c k]:Bd (oB a b c) (mx i (mx j k)):=by
 have h1:=CL i (mx j k);have h2:=C4 i (mx j k);have h3:=CL j k;have h4:=C4 j k;have h5:=pj ha.le;have z:bdR (mx i (mx j k)) 0:=bK mM.le (by omega);refine⟨?_⟩;unfold oB;cases decide (b=0)
 ·cases decide (c=0)
  ·exact⟨bK ha.le (by omega),bK hb.le (by omega),bK hc.le (by omega)⟩
  ·exact⟨bK ha.le (by omega),z,z⟩
 ·exact⟨bK ha.le (by omega),z,z⟩
theorem LC(r:Rt):t7 r r=true:=by
 unfold t7;rw[anb (rfl:r.2.2=r.2.2)];simp
theorem Kk{p:Pt}{v:Rat×Rat}(h:Rpd p):t7 (qq (xP (trP p (bkV v))) (xP (trP p (bkV v)))) (qq (yP (trP p (bkV v))) (yP (trP p (bkV v))))=true/\AA (qq (xP (trP p (bkV v))) (xP (trP p (bkV v)))) (qq (yP (trP p (bkV v))) (yP (trP p (bkV v))))=sqP p v:=by
 obtain⟨ax,bx,ay,b_,c⟩:=p;have hr:=h.rd;unfold Iu at hr;simp only at hr;unfold sqP sqA sqB xP yP trP bkV;simp only;rw[show ax+ -v.1=ax-v.1 by grind,show ay+ -v.2=ay-v.2 by grind];generalize ax-v.1=x;generalize ay-v.2=y;rcases hr with⟨rfl,rfl,rfl⟩|⟨h1,h2,h3⟩
 ·have e0:∀a:Rat,coR a 0 0=(a,0,0):=λa=>rfl
  have e1:∀a:Rat,qq (a,0,0) (a,0,0)=(a*a,0,0):=λa=>by
   unfold qq kz oB;simp;grind
  rw[e0,e0,e1,e1];refine⟨rfl,?_⟩;rw[show x*0+y*0+(x*0+y*0)=(0:Rat) by grind];unfold AA kz oB coR;simp;grind
 ·have hc:c≠0:=by grind
  have dc:decide (c=0)=false:=ane hc
  have sq0:∀a:Rat,qq (coR a 0 c) (coR a 0 c)=(a*a,0,0):=λa=>by
   unfold coR;rw[anb rfl];unfold qq kz oB;simp;grind
  have sq1:∀a b:Rat,b≠0->qq (coR a b c) (coR a b c)=coR (a*a+b*b*c) (a*b+b*a) c:=λa b hb=>by
   have e:coR a b c=(a,b,c):=by unfold coR;rw[ane hb];rfl
   rw[e];unfold qq kz oB coR;simp only[ane hb,cond_false,dc]
  have cR:∀a b:Rat,oB a b c=coR a b c:=λa b=>by unfold oB coR;rw[dc];rfl
  have ad:∀a b d e:Rat,t7 (coR a b c) (coR d e c)=true/\(b≠0\/e≠0->AA (coR a b c) (coR d e c)=coR (a+d) (b+e) c)/\(b=0->e=0->AA (coR a b c) (coR d e c)=(a+d,0,0)):=λa b d e=>by
   by_cases hb:b=0
   ·subst hb;by_cases he:e=0
    ·subst he;refine⟨rfl,λh=>by simp at h,λ_ _=>?_⟩;unfold coR AA kz oB;simp
    ·refine⟨rfl,λ_=>?_,λ_ h=>absurd h he⟩;have e1:coR a 0 c=(a,0,0):=rfl;have e2:coR d e c=(d,e,c):=by unfold coR;rw[ane he];rfl
     rw[e1,e2];show oB (a+d) (0+e) c=_;rw[cR]
   ·have e1:coR a b c=(a,b,c):=by unfold coR;rw[ane hb];rfl
    by_cases he:e=0
    ·subst he;have e2:coR d 0 c=(d,0,0):=rfl;refine⟨by rw[e1,e2];simp[t7],λ_=>?_,λh=>absurd h hb⟩;rw[e1,e2];unfold AA kz;simp only[ane hb,cond_false];rw[cR]
    ·have e2:coR d e c=(d,e,c):=by unfold coR;rw[ane he];rfl
     refine⟨by rw[e1,e2];simp[t7],λ_=>?_,λh=>absurd h hb⟩;rw[e1,e2];unfold AA kz;simp only[ane hb,cond_false];rw[cR]
  have c0:∀a:Rat,((a,0,0):Rt)=coR a 0 c:=λa=>rfl;by_cases hx:bx=0
  ·subst hx;have hy:b_≠0:=λe=>h1 ⟨rfl,e⟩;rw[sq0,sq1 _ _ hy,c0];obtain⟨g1,g2,g3⟩:=ad (x*x) 0 (y*y+b_*b_*c) (y*b_+b_*y);refine⟨g1,?_⟩;by_cases he:y*b_+b_*y=0
   ·rw[g3 rfl he,show x*0+y*b_+(x*0+y*b_)=0 by grind];show _=coR _ 0 c;rw[<-c0];congr 1;grind
   ·rw[g2 (.inr he)];congr 1<;>grind
  ·by_cases hy:b_=0
   ·subst hy;rw[sq0,sq1 _ _ hx,c0];obtain⟨g1,g2,g3⟩:=ad (x*x+bx*bx*c) (x*bx+bx*x) (y*y) 0;refine⟨g1,?_⟩;by_cases he:x*bx+bx*x=0
    ·rw[g3 he rfl,show x*bx+y*0+(x*bx+y*0)=0 by grind];show _=coR _ 0 c;rw[<-c0];congr 1;grind
    ·rw[g2 (.inl he)];congr 1<;>grind
   ·rw[sq1 _ _ hx,sq1 _ _ hy];obtain⟨g1,g2,g3⟩:=ad (x*x+bx*bx*c) (x*bx+bx*x) (y*y+b_*b_*c) (y*b_+b_*y);refine⟨g1,?_⟩;by_cases h0:x*bx+bx*x=0/\y*b_+b_*y=0
    ·rw[g3 h0.1 h0.2,show x*bx+y*b_+(x*bx+y*b_)=0 by grind];show _=coR _ 0 c;rw[<-c0];congr 1;grind
    ·rw[g2 (by by_cases e:x*bx+bx*x=0;exact .inr (λe'=>h0 ⟨e,e'⟩);exact .inl e)];congr 1<;>grind
theorem Rpd.com{p:Pt}{v:Rat×Rat}(h:Rpd p):t7 (qq (xP (trP p (bkV v))) (xP (trP p (bkV v)))) (qq (yP (trP p (bkV v))) (yP (trP p (bkV v))))=true:=(Kk h).1
instance akJ {r s:Rt} {i j:Nat} [h:Bd r i] [h':Bd s j]:Bd (qq r s) (2*(i+j)+(mx j i)+1):=by
 have m:Bd (kz r s) (mx j i):=inferInstance;have a1:Bd (r.1*s.1+r.2.1*s.2.1*kz r s) _:=inferInstance;have a2:Bd (r.1*s.2.1+r.2.1*s.1) _:=inferInstance;have i1:Bd (oB (r.1*s.1+r.2.1*s.2.1*kz r s) (r.1*s.2.1+r.2.1*s.1) (kz r s)) _:=inferInstance;exact i1.mono (gn (by omega) (gn (by omega) (by omega)))
instance akQ {r s:Rt} {i j:Nat} [h:Bd r i] [h':Bd s j]:Bd (AA r s) (i+j+1):=by
 have i1:Bd (oB (r.1+s.1) (r.2.1+s.2.1) (kz r s)) _:=inferInstance;exact i1.mono (gn (by omega) (gn (by omega) (gn (by omega) (by omega))))
instance al2 {r:Rt} {a:Rat} {i j:Nat} [h:Bd r i] [h':Bd a j]:Bd (arT r a) (i+j+1):=by
 have i1:Bd ((r.1+a,r.2.1,r.2.2):Rt) _:=inferInstance;exact i1.mono (gn (by omega) (gn (by omega) (by omega)))
def AW:List En:=[enT qZ,enL qy,enL ti,enL sZ,enT wL,enL wG,enL Sr,enL Pv,enL Qf,enT TE,enT OR]
def SK(r s:BO3)(_k:KT):OLR:=og (o1 r.2.1) (match(aF (ah r.2.1) 0)==0 with|true=>some [RV.d tR s.2.2,RV.d .bool true]|false=>(og (o1 s.2.1) (match(aF (ah s.2.1) 0)==0 with|true=>some [RV.d tR r.2.2,RV.d .bool true]|false=>(og (o2 r.2.2 s.2.2) (some [RV.d tR r.2.2,RV.d .bool ((aF (ah r.2.2) (ah s.2.2))==0)])))))
def ach:Cn 294 [tO,tO]:=cn λ(r s:BO3)=>lf (ok Rt 100000 r/\ok Rt 100000 s) [.d tR (ao (kz (dec r) (dec s))),.d .bool (t7 (dec r) (dec s))] λh=>by
 refine aB AW (SK r s) ⟨0,?_⟩;obtain⟨hr,hs⟩:=h;obtain⟨r,rfl,br⟩:=aI hr;obtain⟨s,rfl,bs⟩:=aI hs;unfold SK;simp only[aX,Nat.reduceLeDiff,au];unfold kz t7;cases decide (r.2.1=0)<;>cases decide (s.2.1=0)<;>rfl
def Oc(r:BO3)(a:BR)(_k:KT):OLR:=og (o2 r.1 a) (some [RV.d tO (hAd r.1 a,r.2)])
def M1:Cn 280 [tO,tR]:=cn λ(r:BO3) (a:BR)=>lf (ok Rt 100000 r/\ok Rat 100000 a) [.d tO (enc (arT (dec r) (ah a)))] λh=>by
 refine aB AW (Oc r a) ⟨0,?_⟩;obtain⟨hr,ha⟩:=h;obtain⟨r,rfl,br⟩:=aI hr;obtain⟨a,rfl,ba⟩:=aI ha;unfold Oc;simp only[aX,Nat.reduceLeDiff];rfl
def Qq(_k:KT):OLR:=og (decide (aJ (0:Int))) (some [RV.d tR (hid (ao ((0:Int):Rat)))])
def afa:Cn 86 []:=cn<|lf True [.d tR (ao 0)] λ_=>by
 refine aB AW (Qq) ⟨0,?_⟩;unfold Qq;rw[dT (show aJ 0 by decide)];simp only[bL];rfl
def RX(p:BP)(v:BV)(_k:KT):OLR:=og (o2 p.1 v.1) (og (o2 p.2.2.1 v.2) (some [RV.d tP (hAd p.1 v.1,(p.2.1,(hAd p.2.2.1 v.2,p.2.2.2)))]))
def aez:Cn 235 [tP,tV]:=cn λ(p:BP) (v:BV)=>lf (ok Pt 21000 p/\ok (Rat×Rat) 1000 v) [.d tP (enc (trP (dec p) (dec v)))] λh=>by
 refine aB AW (RX p v) ⟨0,?_⟩;obtain⟨hp,hv⟩:=h;obtain⟨p,rfl,bp⟩:=aI hp;obtain⟨v,rfl,bv⟩:=aI hv;unfold RX;simp only[aX,Nat.reduceLeDiff];rfl
def OV(v:BV)(_k:KT):OLR:=og (o1 v.1) (og (o1 v.2) (some [RV.d tV (hNe v.1,hNe v.2)]))
def abV:Cn 236 [tV]:=cn λ(v:BV)=>lf (ok (Rat×Rat) 21000 v) [.d tV (enc (bkV (dec v)))] λh=>by
 refine aB AW (OV v) ⟨0,?_⟩;have hv:=h;obtain⟨v,rfl,bv⟩:=aI hv;unfold OV;simp only[aX,Nat.reduceLeDiff];rfl
def Qc:List En:=enL ach::enL M1::enL afa::enL aez::enL abV::AW
def RA(r s:BO3)(_k:KT):OLR:=og (decide (ok Rt 100000 r/\ok Rt 100000 s)) (match !(t7 (dec r) (dec s))with|true=>some [RV.d tO (((false,[]),(false,[])),(((false,[]),(false,[])),((false,[]),(false,[])))),RV.d aqw 1]|false=>(og (o2 r.1 s.1) (og (o2 r.2.1 s.2.1) (og (o2 (hMu r.2.1 s.2.1) (hid (ao (kz (dec r) (dec s))))) (og (o2 (hMu r.1 s.1) (hMu (hMu r.2.1 s.2.1) (hid (ao (kz (dec r) (dec s)))))) (og (o2 r.1 s.2.1) (og (o2 r.2.1 s.1) (og (o2 (hMu r.1 s.2.1) (hMu r.2.1 s.1)) (og (decide (okR (hAd (hMu r.1 s.1) (hMu (hMu r.2.1 s.2.1) (hid (ao (kz (dec r) (dec s))))))/\okR (hAd (hMu r.1 s.2.1) (hMu r.2.1 s.1))/\okR (hid (ao (kz (dec r) (dec s)))))) (some [RV.d tO (hid (enc (oB (ah (hAd (hMu r.1 s.1) (hMu (hMu r.2.1 s.2.1) (hid (ao (kz (dec r) (dec s))))))) (ah (hAd (hMu r.1 s.2.1) (hMu r.2.1 s.1))) (ah (hid (ao (kz (dec r) (dec s)))))))),RV.d aqw 0]))))))))))
def adE:Cn 295 [tO,tO]:=cn λ(r s:BO3)=>lf (ok Rt 50000 r/\ok Rt 50000 s/\t7 (dec r) (dec s)=true) [.d tO (enc (qq (dec r) (dec s))),.d aqw 0] λh=>by
 refine aB Qc (RA r s) ⟨0,?_⟩;obtain⟨hr,hs,htrue⟩:=h;obtain⟨r,rfl,br⟩:=aI hr;obtain⟨s,rfl,bs⟩:=aI hs;have hm:=htrue;rw[aA,aA]at hm;unfold RA;simp only[aX,Nat.reduceAdd,Nat.reduceLeDiff,hm,Bool.not_true];rfl
def Rg(r s:BO3)(_k:KT):OLR:=og (decide (ok Rt 100000 r/\ok Rt 100000 s)) (match !(t7 (dec r) (dec s))with|true=>some [RV.d tO (((false,[]),(false,[])),(((false,[]),(false,[])),((false,[]),(false,[])))),RV.d aqw 1]|false=>(og (o2 r.1 s.1) (og (o2 r.2.1 s.2.1) (og (decide (okR (hAd r.1 s.1)/\okR (hAd r.2.1 s.2.1)/\okR (hid (ao (kz (dec r) (dec s)))))) (some [RV.d tO (hid (enc (oB (ah (hAd r.1 s.1)) (ah (hAd r.2.1 s.2.1)) (ah (hid (ao (kz (dec r) (dec s)))))))),RV.d aqw 0])))))
def adJ:Cn 237 [tO,tO]:=cn λ(r s:BO3)=>lf (ok Rt 100000 r/\ok Rt 100000 s/\t7 (dec r) (dec s)=true) [.d tO (enc (AA (dec r) (dec s))),.d aqw 0] λh=>by
 refine aB Qc (Rg r s) ⟨0,?_⟩;obtain⟨hr,hs,htrue⟩:=h;obtain⟨r,rfl,br⟩:=aI hr;obtain⟨s,rfl,bs⟩:=aI hs;have hm:=htrue;rw[aA,aA]at hm;unfold Rg;simp only[aX,Nat.reduceAdd,Nat.reduceLeDiff,hm,Bool.not_true];rfl
def Fh:List En:=enL adE::enL adJ::Qc
def Qp(r:BO3)(_k:KT):OLR:=og (decide (ok Rt 50000 r/\ok Rt 50000 r/\t7 (dec r) (dec r)=true)) (some [RV.d tO (hid (enc (qq (dec r) (dec r))))])
def acG:Cn 238 [tO]:=cn λ(r:BO3)=>lf (ok Rt 50000 r) [.d tO (enc (qq (dec r) (dec r)))] λh=>by
 refine aB Fh (Qp r) ⟨0,?_⟩;have hr:=h;obtain⟨r,rfl,br⟩:=aI hr;unfold Qp;simp only[aX,Nat.reduceLeDiff,LC]
def Nb(v:BV)(_k:KT):OLR:=some [RV.d tP (v.1,(hid (ao 0),(v.2,(hid (ao 0),hid (ao 0)))))]
def Hy:Cn 29 [tV]:=cn λ(v:BV)=>lf (ok (Rat×Rat) 100000 v) [.d tP (enc (atP (dec v)))] λh=>by
 refine aB Fh (Nb v) ⟨0,?_⟩;have hv:=h;obtain⟨v,rfl,bv⟩:=aI hv;unfold Nb;simp only[aX];try rfl
def OO(a b c d e:BR)(_k:KT):OLR:=og (o1 b) (match(aF (ah b) 0)==0 with|true=>(og (o1 d) (match(aF (ah d) 0)==0 with|true=>some [RV.d tP (a,(b,(c,(d,hid (ao 0)))))]|false=>some [RV.d tP (a,(b,(c,(d,e))))]))|false=>some [RV.d tP (a,(b,(c,(d,e))))])
def aeI:Cn 321 [tR,tR,tR,tR,tR]:=cn λ(a b c d e:BR)=>lf (okR a/\okR b/\okR c/\okR d/\okR e) [.d tP (enc (rdP (ah a,ah b,ah c,ah d,ah e)))] λh=>by
 refine aB Fh (OO a b c d e) ⟨0,?_⟩;obtain⟨ha,hb,hc,hd,he⟩:=h;obtain⟨a,rfl,ba⟩:=fL ha;obtain⟨b,rfl,bb⟩:=fL hb;obtain⟨c,rfl,bc⟩:=fL hc;obtain⟨d,rfl,bd⟩:=fL hd;obtain⟨e,rfl,be⟩:=fL he;unfold OO;simp only[aX,Nat.reduceLeDiff,au];unfold rdP;by_cases h1:b=0
 ·by_cases h2:d=0
  ·rw[anb h1,anb h2];rfl
  ·rw[anb h1,ane h2];rfl
 ·rw[ane h1];rfl
def TD(a b c:BR)(_k:KT):OLR:=og (o1 b) (match(aF (ah b) 0)==0 with|true=>(og (o1 a) (some [RV.d tO (hid (enc ((ah a,0,0):Rt)))]))|false=>some [RV.d tO (a,(b,c))])
def aeT:Cn 88 [tR,tR,tR]:=cn λ(a b c:BR)=>lf (okR a/\okR b/\okR c) [.d tO (enc (coR (ah a) (ah b) (ah c)))] λh=>by
 refine aB Fh (TD a b c) ⟨0,?_⟩;obtain⟨ha,hb,hc⟩:=h;obtain⟨a,rfl,ba⟩:=fL ha;obtain⟨b,rfl,bb⟩:=fL hb;obtain⟨c,rfl,bc⟩:=fL hc;unfold TD;simp only[aX,aH,Nat.reduceLeDiff,au];unfold coR;by_cases e:b=0
 ·subst e;rw[anb rfl];rfl
 ·rw[ane e];rfl
def KU:List En:=enL acG::enL Hy::enL aeI::enL aeT::Fh
def MA(x y:BO3)(_k:KT):OLR:=let y1:=aF (ah x.2.1) 0;let y2:OLR:=match decide (okR x.2.1)with|true=>(match y1==0 with|true=>(og (decide (okR x.1/\okR x.2.1/\okR y.1/\okR y.2.1/\okR y.2.2)) (some [RV.d tP (hid (enc (rdP (ah x.1,ah x.2.1,ah y.1,ah y.2.1,ah y.2.2)))),RV.d aqw 0]))|false=>(og (decide (okR x.1/\okR x.2.1/\okR y.1/\okR y.2.1/\okR x.2.2)) (some [RV.d tP (hid (enc (rdP (ah x.1,ah x.2.1,ah y.1,ah y.2.1,ah x.2.2)))),RV.d aqw 0])))|false=>none;og (o1 x.2.1) (match y1 !=0 with|true=>(og (o1 y.2.1) (match(aF (ah y.2.1) 0) !=0 with|true=>(og (o2 x.2.2 y.2.2) (match(aF (ah x.2.2) (ah y.2.2)) !=0 with|true=>some [RV.d tP (((false,[]),(false,[])),(((false,[]),(false,[])),(((false,[]),(false,[])),(((false,[]),(false,[])),((false,[]),(false,[])))))),RV.d aqw 1]|false=>y2))|false=>y2))|false=>y2)
def afx:Cn 297 [tO,tO]:=cn λ(x y:BO3)=>lf (okT 15000 x/\okT 15000 y/\xn (dec x) (dec y)) [.d tP (enc (mkP (dec x) (dec y))),.d aqw 0] λh=>by
 refine aB KU (MA x y) ⟨0,?_⟩;obtain⟨hx,hy,hy_2⟩:=h;obtain⟨x,rfl,bx,rx⟩:=ii hx;obtain⟨y,rfl,b_y,ry⟩:=ii hy;have hm:=hy_2;rw[aA,aA]at hm;unfold MA;simp only[aX,Nat.reduceLeDiff,au,bh];unfold mkP;by_cases e1:x.2.1=0
 ·rw[anb e1];rfl
 ·rw[ane e1];by_cases e2:y.2.1=0
  ·rw[anb e2];rfl
  ·rw[ane e2,anb ((hm.resolve_left e1).resolve_left e2)];rfl
def ZM(p:BP)(_k:KT):OLR:=og (decide (okR p.1/\okR p.2.1/\okR p.2.2.2.2)) (some [RV.d tO (hid (enc (coR (ah p.1) (ah p.2.1) (ah p.2.2.2.2))))])
def Zi:Cn 31 [tP]:=cn λ(p:BP)=>lf (okP 4000 p) [.d tO (enc (xP (dec p)))] λh=>by
 refine aB KU (ZM p) ⟨0,?_⟩;have hp:=h;obtain⟨p,rfl,bp,rp⟩:=bU hp;unfold ZM;simp only[aX,Nat.reduceLeDiff];try rfl
def Y5(p:BP)(_k:KT):OLR:=og (decide (okR p.2.2.1/\okR p.2.2.2.1/\okR p.2.2.2.2)) (some [RV.d tO (hid (enc (coR (ah p.2.2.1) (ah p.2.2.2.1) (ah p.2.2.2.2))))])
def YW:Cn 94 [tP]:=cn λ(p:BP)=>lf (okP 4000 p) [.d tO (enc (yP (dec p)))] λh=>by
 refine aB KU (Y5 p) ⟨0,?_⟩;have hp:=h;obtain⟨p,rfl,bp,rp⟩:=bU hp;unfold Y5;simp only[aX,Nat.reduceLeDiff];try rfl
def Za:List En:=enL Zi::enL YW::KU
def Rl(p q:BP)(_k:KT):OLR:=og (decide (okP 4000 p)) (og (decide (okP 4000 q)) (og (decide (okT 15000 (hid (enc (xP (dec p))))/\okT 15000 (hid (enc (xP (dec q)))))) (match(bi (dec (hid (enc (xP (dec p))))) (dec (hid (enc (xP (dec q)))))) !=0 with|true=>some [RV.d aqw (bi (dec (hid (enc (xP (dec p))))) (dec (hid (enc (xP (dec q))))))]|false=>(og (decide (okP 4000 p)) (og (decide (okP 4000 q)) (og (decide (okT 15000 (hid (enc (yP (dec p))))/\okT 15000 (hid (enc (yP (dec q)))))) (some [RV.d aqw (bi (dec (hid (enc (yP (dec p))))) (dec (hid (enc (yP (dec q))))))])))))))
def Ag:Cn 35 [tP,tP]:=cn λ(p q:BP)=>lf (okP 4000 p/\okP 4000 q) [.d aqw (aZ (dec p) (dec q))] λh=>by
 refine aB Za (Rl p q) ⟨0,?_⟩;obtain⟨hp,hq⟩:=h;obtain⟨p,rfl,bp,rp⟩:=bU hp;obtain⟨q,rfl,bq,rq⟩:=bU hq;unfold Rl;simp only[aX,Nat.reduceLeDiff,aP,aQ];unfold aZ bne;cases bi (xP p) (xP q)==0<;>rfl
def aaX:List En:=enL afx::enT Ag::Za
def Q6(p q:BP)(_k:KT):OLR:=og (decide (okP 4000 p/\okP 4000 q)) (some [RV.d .bool ((aZ (dec p) (dec q))==0)])
def PC:Cn 12 [tP,tP]:=cn λ(p q:BP)=>lf (okP 4000 p/\okP 4000 q) [.d .bool (aZ (dec p) (dec q)==0)] λh=>by
 refine aB aaX (Q6 p q) ⟨0,?_⟩;unfold Q6;rw[dT h]
def O5(p:BP)(v:BV)(_k:KT):OLR:=let y1:=hid (enc (bkV (dec v)));let y2:=hid (enc (trP (dec p) (dec y1)));let y3:=hid (enc (xP (dec y2)));let y4:=hid (enc (yP (dec y2)));let y5:=hid (enc (qq (dec y3) (dec y3)));let y6:=hid (enc (qq (dec y4) (dec y4)));og (decide (ok (Rat×Rat) 21000 v)) (og (decide (ok Pt 21000 p/\ok (Rat×Rat) 1000 y1)) (og (decide (okP 4000 y2)) (og (decide (ok Rt 50000 y3)) (og (decide (okP 4000 y2)) (og (decide (ok Rt 50000 y4)) (og (decide (ok Rt 100000 y5/\ok Rt 100000 y6/\t7 (dec y5) (dec y6)=true)) (some [RV.d tO (hid (enc (AA (dec y5) (dec y6))))])))))))
def acp:Cn 142 [tP,tV]:=cn λ(p:BP) (v:BV)=>lf (okP 3500 p/\ok (Rat×Rat) 300 v) [.d tO (enc (sqP (dec p) (dec v)))] λh=>by
 refine aB aaX (O5 p v) ⟨0,?_⟩;obtain⟨hp,hv⟩:=h;obtain⟨p,rfl,bp,rp⟩:=bU hp;obtain⟨v,rfl,bv⟩:=aI hv;obtain⟨e1,e2⟩:=Kk (v:=v) rp;unfold O5;simp only[aX,Nat.reduceAdd,Nat.reduceMul,Nat.reduceLeDiff,aQ,e1];rw[e2]
end Go.Proofs.YtagbmoohboleaaaGreat
end
