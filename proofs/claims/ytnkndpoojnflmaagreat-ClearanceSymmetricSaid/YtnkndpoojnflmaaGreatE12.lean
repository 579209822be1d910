/- Intervals: the contracts of products, roots and sides. -/
import Derived.Test.YtnkndpoojnflmaaGreatE11
import Derived.Test.YtnkndpoojnflmaaGreatE1
import Derived.Lib.LazyBuf
import Derived.Test.YtnkndpoojnflmaaGreatE6
import Derived.Test.YtnkndpoojnflmaaGreatE10
noncomputable section
namespace Go.Proofs.YtnkndpoojnflmaaGreat
open Go.RowKit Go.IntKind
theorem ano:type_of% @Rat.mul_eq_zero:=@Rat.mul_eq_zero
theorem Ll{z:Int}(h:aG z):okI (ai z):=aT (by have:=jX h;omega)
theorem IW{n:Int}(h:C6 n):0≤eK n∧eK n≤2305843009213693952:=by
 obtain⟨h0,h1⟩:=h
 unfold eK
 obtain⟨g0,g1,g2⟩:=gf (z:=n*65536) (by omega)
 refine⟨g0,?_⟩
 rcases alz 2305843009213693952 (bK (n*65536))with h|h
 ·have:2305843009213693952*2305843009213693952≤bK (n*65536)*bK (n*65536):=ani (by omega) (by omega) (by omega) (by omega)
  omega
 ·exact h
theorem Lo{a b:Iv}(ha:prI a)(hb:prI b){x y:Int}(hx:x=a.1∨x=a.2)(hy:y=b.1∨y=b.2):scP x y:=by
 obtain⟨a1,a2,a3⟩:=ha
 obtain⟨b1,b2,b3⟩:=hb
 constructor
 ·rcases hx with rfl|rfl<;>omega
 ·rcases hy with rfl|rfl<;>omega
theorem aiQ{α:Type}(b:Bool)(x y:α):(match b with|true=>x|false=>y)=bif b then x else y:=by cases b<;>rfl
def Mg:eg:=spN false true [aon] (fun x=>decide (aG x.1)) (fun x=>[RV.d tI (hid (ai x.1))])
theorem O5:SpK 210 Mg:=spX fun x h=>by simp only[bL];exact Jc x.1 (ak6 h)
def Hi:List En:=[⟨99,iq,fe⟩,⟨108,gU,eP⟩,⟨109,kO,gH⟩,enL Lp,enT Wq,⟨216,Gy,De⟩,⟨41,fX,dU⟩,⟨173,E9,CT⟩,enL XO,⟨172,F5,CH⟩,⟨210,Mg,O5⟩,enL R7,enL MY,enL PI,enL Pu,enA Of,enA No,enL Yb]
def abM:NT:=[((334,8),{keep:=[3,4,6,7,19,20,21],hl:=4}),((334,22),{keep:=[3,4,6,7,9,19,20,21,29,30,31],hl:=5})]
def oD:Ctx:=CX (ens Hi) abM
def rO(a b:(Int×Int))(s21 s6 s7:Int):Cfg:=⟨334,[.blk 0,.seq 46],[(3,.box 1 0),(4,.box 2 0),(6,SI s6),(7,SI s7),(19,.own 3),(20,SI (([a.1,a.2]).length:Int)),(21,SI s21)],[.box 259 [SI a.1,SI a.2],.box 259 [SI b.1,SI b.2],.box 259 [SI 0,SI 0],.row 2 aon ([a.1,a.2])],0,[]⟩
def pN(a b:(Int×Int))(s21 x1 s6 s7 s31:Int):Cfg:=⟨334,[.blk 2,.blk 1,.seq 45,.lp 8,.blk 0,.seq 46],[(3,.box 1 0),(4,.box 2 0),(6,SI s6),(7,SI s7),(9,SI x1),(19,.own 3),(20,SI (([a.1,a.2]).length:Int)),(21,SI s21),(29,.own 4),(30,SI (([b.1,b.2]).length:Int)),(31,SI s31)],[.box 259 [SI a.1,SI a.2],.box 259 [SI b.1,SI b.2],.box 259 [SI 0,SI 0],.row 2 aon ([a.1,a.2]),.row 2 aon ([b.1,b.2])],0,[]⟩
def ag7(a b:(Int×Int))(k:KT):Option (List RV):=k 8 (rO a b 0 2305843009213693952 (-2305843009213693952))
theorem afx(a b:(Int×Int)):RS oD 334 [.d tG a,.d tG b] (ag7 a b):=rsX
def xw(a b:(Int×Int))(s21 s6 s7:Int)(k:KT):Option (List RV):=match decide (s21<(([a.1,a.2]).length:Int))with|true=>(match aR ([a.1,a.2]) s21 with|some _=>(match true,([a.1,a.2])[(s21).toNat]? with|true,some x1=>k 22 (pN a b s21 x1 s6 s7 0)|_,_=>none)|none=>none)|false=>some [RV.d tG (s6,s7),RV.d .bool true]
theorem Dw(a b:(Int×Int))(s21 s6 s7:Int):RN oD 8 (rO a b s21 s6 s7) (xw a b s21 s6 s7):=rnX
def qe(a b:(Int×Int))(s21 x1 s6 s7 s31:Int)(k:KT):Option (List RV):=match decide (s31<(([b.1,b.2]).length:Int))with|true=>(match aR ([b.1,b.2]) s31 with|some _=>(match true,([b.1,b.2])[(s31).toNat]? with|true,some x2=>(og (decide (scP x1 x2)) (match !((scF x1 x2).2)with|true=>some [RV.d tG (0,0),RV.d .bool false]|false=>k 22 (pN a b s21 x1 (if(scF x1 x2).1.1<s6 then(scF x1 x2).1.1 else s6) (if(scF x1 x2).1.2>s7 then(scF x1 x2).1.2 else s7) (i64.wrap (s31+1)))))|_,_=>none)|none=>none)|false=>k 8 (rO a b (i64.wrap (s21+1)) s6 s7)
theorem uU(a b:(Int×Int))(s21 x1 s6 s7 s31:Int):RN oD 22 (pN a b s21 x1 s6 s7 s31) (qe a b s21 x1 s6 s7 s31):=rnX
theorem K5(a b:Iv)(ha:prI a)(hb:prI b)(s21 x:Int)(hx:x=a.1∨x=a.2)(s:Iv)(r:List RV)(h:∀s2:Iv×Bool,s2=iB (iB (s,true) x b.1) x b.2→bif s2.2 then oD.Runs 8 (rO a b (i64.wrap (s21+1)) s2.1.1 s2.1.2) r else r=[RV.d tG (0,0),RV.d .bool false]):
  oD.Runs 22 (pN a b s21 x s.1 s.2 0) r:=by
 have h:=h _ rfl
 refine uU _ _ _ _ _ _ _ ?_
 unfold qe
 have g1:decide ((0:Int)<(([b.1,b.2]).length:Int))=true:=by simp
 have g2:decide ((1:Int)<(([b.1,b.2]).length:Int))=true:=by simp
 have g3:decide ((2:Int)<(([b.1,b.2]).length:Int))=false:=by simp
 rw[g1]
 simp only[show aR [b.1,b.2] 0=some b.1 from rfl,show [b.1,b.2][(0:Int).toNat]?=some b.1 from rfl,dT (Lo ha hb hx (.inl rfl))]
 cases e1:(scF x b.1).2
 ·rw[show iB (iB (s,true) x b.1) x b.2=(iv0,false) by unfold iB;rw[e1];rfl]at h
  exact⟨0,by rw[h];rfl⟩
 ·try dsimp only[Bool.not_true]
  have e0:iB (s,true) x b.1=((if(scF x b.1).1.1<s.1 then(scF x b.1).1.1 else s.1,if(scF x b.1).1.2>s.2 then(scF x b.1).1.2 else s.2),true):=by unfold iB;rw[e1];rfl
  rw[e0]at h
  suffices hh:oD.Runs 22 (pN a b s21 x (if(scF x b.1).1.1<s.1 then(scF x b.1).1.1 else s.1) (if(scF x b.1).1.2>s.2 then(scF x b.1).1.2 else s.2) (i64.wrap (0+1))) r by
   obtain⟨n,hn⟩:=hh
   exact⟨n,hn⟩
  rw[show i64.wrap (0+1)=1 by decide]
  refine uU _ _ _ _ _ _ _ ?_
  unfold qe
  rw[g2]
  simp only[show aR [b.1,b.2] 1=some b.2 from rfl,show [b.1,b.2][(1:Int).toNat]?=some b.2 from rfl,dT (Lo ha hb hx (.inr rfl))]
  cases e2:(scF x b.2).2
  ·unfold iB at h
   rw[e2]at h
   exact⟨0,by rw[show r=[RV.d tG (0,0),RV.d .bool false] from h];rfl⟩
  ·try dsimp only[Bool.not_true]
   unfold iB at h
   rw[e2]at h
   simp only[amC,cond_true]at h
   suffices hh:oD.Runs 22 (pN a b s21 x _ _ (i64.wrap (1+1))) r by
    obtain⟨n,hn⟩:=hh
    exact⟨n,hn⟩
   rw[show i64.wrap (1+1)=2 by decide]
   refine uU _ _ _ _ _ _ _ ?_
   unfold qe
   rw[g3]
   obtain⟨n,hn⟩:=h
   exact⟨n,hn⟩
theorem IL(a b:Iv)(ha:prI a)(hb:prI b)(x i:Int)(hi:(i=0∧x=a.1)∨(i=1∧x=a.2))(s:Iv)(r:List RV)(h:∀s2:Iv×Bool,s2=iB (iB (s,true) x b.1) x b.2→bif s2.2 then oD.Runs 8 (rO a b (i+1) s2.1.1 s2.1.2) r else r=[RV.d tG (0,0),RV.d .bool false]):
  oD.Runs 8 (rO a b i s.1 s.2) r:=by
 refine Dw _ _ _ _ _ ?_
 unfold xw
 rcases hi with⟨rfl,rfl⟩|⟨rfl,rfl⟩
 ·obtain⟨n,hn⟩:=K5 a b ha hb 0 a.1 (.inl rfl) s r (by rw[show i64.wrap (0+1)=0+1 by decide];exact h)
  exact⟨n,hn⟩
 ·obtain⟨n,hn⟩:=K5 a b ha hb 1 a.2 (.inr rfl) s r (by rw[show i64.wrap (1+1)=1+1 by decide];exact h)
  exact⟨n,hn⟩
theorem PB{s:Iv×Bool}{x y:Int}(h:s.2=false):iB s x y=(iv0,false):=by unfold iB;rw[h];rfl
theorem ahZ{s:Iv×Bool}(h:s.2=true):s=(s.1,true):=by rw[←h]
def Mc:Cn 334 [tG,tG]:=cn fun(a b:(Int×Int))=>lf (prI a∧prI b) [.d tG ((cH a b).1),.d .bool ((cH a b).2)] fun h=>by
 obtain⟨ha,hb⟩:=h
 refine c7 Hi (show oD.Res _ _ _ from ?_)
 refine afx _ _ ?_
 suffices hh:oD.Runs 8 (rO a b 0 2305843009213693952 (-2305843009213693952)) [.d tG (cH a b).1,.d .bool (cH a b).2] by
  obtain⟨n,hn⟩:=hh
  exact⟨n,hn⟩
 refine IL a b ha hb a.1 0 (.inl ⟨rfl,rfl⟩) (2305843009213693952,-2305843009213693952) _ fun s1 e1=>?_
 have hm:cH a b=iB (iB s1 a.2 b.1) a.2 b.2:=by rw[e1];rfl
 cases c1:s1.2
 ·rw[hm,PB (PB c1▸rfl)]
  rfl
 ·rw[cond_true]
  refine IL a b ha hb a.2 1 (.inr ⟨rfl,rfl⟩) s1.1 _ fun s2 e2=>?_
  rw[←ahZ c1,←hm]at e2
  cases c2:s2.2
  ·rw[←e2]
   rw[show s2=(iv0,false) by
    rw[e2,hm]
    rw[e2,hm]at c2
    unfold iB at c2 ⊢
    revert c2
    cases(_:Bool)&&(scF a.2 b.2).2
    ·intro _;rfl
    ·intro h;cases h]
   rfl
  ·rw[cond_true,←e2]
   refine Dw _ _ _ _ _ ⟨0,?_⟩
   unfold xw
   rw[show decide ((1+1:Int)<(([a.1,a.2]).length:Int))=false from by simp,c2]
def WN(n:Int)(_k:KT):Option (List RV):=og (decide (aG n)) (og (decide (aG (65536:Int))) (og (decide (okI (hid (ai n))∧okI (hid (ai (65536:Int))))) (og (decide (okI (hid (ai (ae (hid (ai n))*ae (hid (ai (65536:Int)))))))) (og (decide (okI (hid (fY (hid (ai (ae (hid (ai n))*ae (hid (ai (65536:Int)))))))))) (og (decide (okI (hid (fY (hid (ai (ae (hid (ai n))*ae (hid (ai (65536:Int))))))))∧okI (hid (fY (hid (ai (ae (hid (ai n))*ae (hid (ai (65536:Int)))))))))) (og (decide (okI (hid (ai (ae (hid (fY (hid (ai (ae (hid (ai n))*ae (hid (ai (65536:Int))))))))*ae (hid (fY (hid (ai (ae (hid (ai n))*ae (hid (ai (65536:Int)))))))))))∧okI (hid (ai (ae (hid (ai n))*ae (hid (ai (65536:Int)))))))) (some [RV.d aon (bif decide (aG (ae (hid (fY (hid (ai (ae (hid (ai n))*ae (hid (ai (65536:Int))))))))))then ae (hid (fY (hid (ai (ae (hid (ai n))*ae (hid (ai (65536:Int))))))))else 0),RV.d .bool ((cr (ae (hid (ai (ae (hid (fY (hid (ai (ae (hid (ai n))*ae (hid (ai (65536:Int))))))))*ae (hid (fY (hid (ai (ae (hid (ai n))*ae (hid (ai (65536:Int)))))))))))) (ae (hid (ai (ae (hid (ai n))*ae (hid (ai (65536:Int))))))))==0)])))))))
def afj:Cn 352 [aon]:=cn fun(n:Int)=>lf (C6 n) [.d aon (eK n),.d .bool (decide (eK n*eK n=n*65536))] fun h=>by
 refine aA Hi (WN n) ⟨0,?_⟩
 have hr:=IW h
 obtain⟨h0,h1⟩:=h
 have i1:aG n:=⟨by omega,by omega⟩
 have i2:aG 65536:=by decide
 have o1:okI (ai (n*65536)):=aT (by have:=cM (jX i1) (jX i2);omega)
 have o2:okI (ai (eK n)):=Ll ⟨by omega,by omega⟩
 have o3:okI (ai (eK n*eK n)):=aT (by have:=cM (jX (n:=eK n) ⟨by omega,by omega⟩) (jX (n:=eK n) ⟨by omega,by omega⟩);omega)
 have o4:okI (ai n)∧okI (ai 65536):=⟨Ll i1,Ll i2⟩
 have o5:okI (ai (eK n))∧okI (ai (eK n)):=⟨o2,o2⟩
 have o6:okI (ai (eK n*eK n))∧okI (ai (n*65536)):=⟨o3,o1⟩
 have o7:aG (eK n):=⟨by omega,by omega⟩
 unfold WN
 simp only[bL,dec_enc,dT i1,dT i2,dT o4,dT o1,Al o1]
 have e:bK (n*65536)=eK n:=rfl
 simp only[e,dT o2,dT o5,dT o6,dT o7,cond_true,mW]
def X5:List En:=enL Mc::enL afj::Hi
def WK(a:(Int×Int))(_k:KT):Option (List RV):=match decide (a.2<0)with|true=>some [RV.d tG (0,0),RV.d .bool false]|false=>(og (decide (C6 (if 0>a.1 then 0 else a.1))) (og (decide (C6 a.2)) (match !(decide (eK a.2*eK a.2=a.2*65536))with|true=>some [RV.d tG (hid ((ou (eK (if 0>a.1 then 0 else a.1)) (i64.wrap ((eK a.2)+1))).1)),RV.d .bool ((ou (eK (if 0>a.1 then 0 else a.1)) (i64.wrap ((eK a.2)+1))).2)]|false=>some [RV.d tG (hid ((ou (eK (if 0>a.1 then 0 else a.1)) (eK a.2)).1)),RV.d .bool ((ou (eK (if 0>a.1 then 0 else a.1)) (eK a.2)).2)])))
def WX:Cn 332 [tG]:=cn fun(a:(Int×Int))=>lf (prI a) [.d tG ((sqF a).1),.d .bool ((sqF a).2)] fun h=>by
 refine aA X5 (WK a) ⟨0,?_⟩
 obtain⟨a1,a2,a3⟩:=h
 unfold WK sqF
 cases hn:decide (a.2<0)
 ·have hn:=alW hn
  have r2:C6 a.2:=⟨by omega,by omega⟩
  have r1:C6 (if 0>a.1 then 0 else a.1):=⟨by split<;>omega,by split<;>omega⟩
  have b2:=IW r2
  simp only[dT r1,dT r2,bL,aS (x:=eK a.2+1) (by omega) (by omega)]
  cases decide (eK a.2*eK a.2=a.2*65536)<;>rfl
 ·rfl
def Rv:List En:=enL WX::X5
def YL(r:BO3)(_k:KT):Option (List RV):=og (decide (ok Rat 200000 r.1)) (match !((frF (ah r.1)).2)with|true=>some [RV.d tG (hid ((frF (ah r.1)).1)),RV.d .bool ((frF (ah r.1)).2)]|false=>(og (o1 r.2.1) (match(aC (ah r.2.1) 0)==0 with|true=>some [RV.d tG (hid ((frF (ah r.1)).1)),RV.d .bool ((frF (ah r.1)).2)]|false=>(og (decide (ok Rat 200000 r.2.1)) (og (decide (ok Rat 200000 r.2.2)) (match !((frF (ah r.2.1)).2)with|true=>some [RV.d tG (0,0),RV.d .bool false]|false=>(match !((frF (ah r.2.2)).2)with|true=>some [RV.d tG (0,0),RV.d .bool false]|false=>(og (o1 r.2.2) (match decide ((aC (ah r.2.2) 0)<0)with|true=>some [RV.d tG (0,0),RV.d .bool false]|false=>(og (decide (prI (hid ((frF (ah r.2.2)).1)))) (match !((sqF (hid ((frF (ah r.2.2)).1))).2)with|true=>some [RV.d tG (0,0),RV.d .bool false]|false=>(og (decide (prI (hid ((frF (ah r.2.1)).1))∧prI (hid ((sqF (hid ((frF (ah r.2.2)).1))).1)))) (match !((cH (hid ((frF (ah r.2.1)).1)) (hid ((sqF (hid ((frF (ah r.2.2)).1))).1))).2)with|true=>some [RV.d tG (0,0),RV.d .bool false]|false=>(og (decide (prI (hid ((frF (ah r.1)).1))∧prI (hid ((cH (hid ((frF (ah r.2.1)).1)) (hid ((sqF (hid ((frF (ah r.2.2)).1))).1))).1)))) (some [RV.d tG (hid ((dL (hid ((frF (ah r.1)).1)) (hid ((cH (hid ((frF (ah r.2.1)).1)) (hid ((sqF (hid ((frF (ah r.2.2)).1))).1))).1))).1)),RV.d .bool ((dL (hid ((frF (ah r.1)).1)) (hid ((cH (hid ((frF (ah r.2.1)).1)) (hid ((sqF (hid ((frF (ah r.2.2)).1))).1))).1))).2)])))))))))))))))
def Ht:Cn 337 [tO]:=cn fun(r:BO3)=>lf (ok Rt 100000 r) [.d tG ((bG (dec r)).1),.d .bool ((bG (dec r)).2)] fun h=>by
 refine aA Rv (YL r) ⟨0,?_⟩
 have hr:=h
 obtain⟨r,rfl,br⟩:=aF hr
 have p1:prI (frF r.1).1:=RE.frF_pr _
 have p2:prI (frF r.2.1).1:=RE.frF_pr _
 have p3:prI (frF r.2.2).1:=RE.frF_pr _
 have p4:prI (sqF (frF r.2.2).1).1:=RE.sqF_pr p3
 have p5:prI (cH (frF r.2.1).1 (sqF (frF r.2.2).1).1).1:=sE _ _
 unfold YL
 simp only[aU,Nat.reduceLeDiff,aq,au,dT p3,dT (show prI (frF r.2.1).1∧prI (sqF (frF r.2.2).1).1 from⟨p2,p4⟩),dT (show prI (frF r.1).1∧prI (cH (frF r.2.1).1 (sqF (frF r.2.2).1).1).1 from⟨p1,p5⟩)]
 unfold bG
 clear p1 p2 p3 p4 p5
 generalize frF r.1=A
 generalize frF r.2.1=B
 generalize frF r.2.2=C
 generalize sqF C.1=S
 generalize cH B.1 S.1=M
 generalize dL A.1 M.1=U
 obtain⟨_,a⟩:=A
 obtain⟨_,b⟩:=B
 obtain⟨_,c⟩:=C
 obtain⟨_,s⟩:=S
 obtain⟨_,m⟩:=M
 cases a<;>cases decide (r.2.1=0)<;>cases b<;>cases c<;>cases decide (r.2.2<0)<;>cases s<;>cases m<;>rfl
def XU(a:(Int×Int))(_k:KT):Option (List RV):=match decide (a.1>0)with|true=>some [RV.d aon 1,RV.d .bool true]|false=>(match decide (a.2<0)with|true=>some [RV.d aon (-1),RV.d .bool true]|false=>(match a.1==0 with|true=>some [RV.d aon 0,RV.d .bool (a.2==0)]|false=>some [RV.d aon 0,RV.d .bool false]))
def Nr:Cn 336 [tG]:=cn fun(a:(Int×Int))=>lf True [.d aon ((sgF a).1),.d .bool ((sgF a).2)] fun _=>by
 refine aA Rv (XU a) ⟨0,?_⟩
 unfold XU sgF
 cases decide (a.1>0)<;>cases decide (a.2<0)<;>try rfl
 by_cases e1:a.1=0
 ·rw[ak3 e1,show(a.1==0)=true by simp[e1]]
  by_cases e2:a.2=0
  ·rw[ak3 e2,show(a.2==0)=true by simp[e2]];rfl
  ·rw[ak5 e2,show(a.2==0)=false by simp[e2]];rfl
 ·rw[ak5 e1,show(a.1==0)=false by simp[e1]];rfl
def adU:List En:=enL Ht::enL Nr::Rv
def Xr(n:BR)(a:(Int×Int))(g:Bool)(_k:KT):Option (List RV):=og (decide (ok Rat 200000 n)) (match !g with|true=>some [RV.d tG (0,0),RV.d .bool false]|false=>(match !((frF (ah n)).2)with|true=>some [RV.d tG (0,0),RV.d .bool false]|false=>(og (decide (prI (hid ((frF (ah n)).1))∧prI a)) (some [RV.d tG (hid ((cH (hid ((frF (ah n)).1)) a).1)),RV.d .bool ((cH (hid ((frF (ah n)).1)) a).2)]))))
def Yq:Cn 363 [tR,tG,.bool]:=cn fun(n:BR) (a:(Int×Int)) (g:Bool)=>lf (ok Rat 100000 n∧prI a) [.d tG ((jL (ah n) a g).1),.d .bool ((jL (ah n) a g).2)] fun h=>by
 refine aA adU (Xr n a g) ⟨0,?_⟩
 obtain⟨hn,ha⟩:=h
 obtain⟨n,rfl,bn⟩:=aF hn
 unfold Xr
 simp only[aU,Nat.reduceLeDiff,dT (show prI (frF n).1∧prI a from⟨RE.frF_pr _,ha⟩)]
 unfold jL
 generalize frF n=A
 obtain⟨_,q⟩:=A
 cases g<;>cases q<;>rfl
section
section
variable {u:Nat} {w w':World} {size n:Nat} {v:Value} {xs:List Value}
end
section
variable {P:Program} {fn:Func} {R:Ending→World→Prop} {B:Code} {K:List KI} {i:Nat} {a:Act} {w:World}
end
end
section
section
variable {P:Program} {a:Act} {w:World}
end
end
theorem xj{w w1 w2:World}{o:Option Nat}(h:w.grownBy w1 o)(hb:Below w1.heap.size w1 w2):w.grownBy w2 o:=
 ⟨hb.os.trans h.os,hb.tape.trans h.tape,hb.output.trans h.output,alg h.size hb.size,fun i hi hn=>(hb.block i (amS hi h.size)).trans (h.block i hi hn)⟩
theorem r9{w w1 w2:World}{c b:Nat}(h:w.grownBy w1 (some c))(hu:Upd w1 w2 b)(hb:b=c∨w.heap.size≤b):w.grownBy w2 (some c):=
 ⟨hu.os.trans h.os,hu.tape.trans h.tape,hu.output.trans h.output,by rw[hu.size];exact h.size,fun i hi hn=>(hu.block i (fun e=>by
  subst e
  rcases hb with hb|hb
  ·subst hb;exact hn rfl
  ·omega)).trans (h.block i hi hn)⟩
def SQ:Code:=Tryz.f331.body.getD .skip
set_option maxRecDepth 100000 in
theorem JN:ahe Tryz.prog 331 257:=by
 intro w c b ok x y _ hc
 have hB:w.grownBy w (some c):=World.grownBy.refl _ _
 have hlt:=hc.lt
 refine enter (B:=SQ) (args:=[.pointer (some ⟨c,0,none⟩),.agg #[.int .i64 x,.int .i64 y],.bool ok]) Tryz.func331 (by kernel_rfl) (by kernel_rfl) ?_
 rw[show Tryz.f331.ntmps=18 from by kernel_rfl]
 intro a hs
 replace hs:=hs.pick (ts:=[0,1,2]) (L':=[(0,.pointer (some ⟨c,0,none⟩)),(1,.agg #[.int .i64 x,.int .i64 y]),(2,.bool ok)]) (by kernel_rfl)
 refine xK (j:=2) (by kernel_rfl) ?_
 refine mZ (id:=0) (by kernel_rfl) ?_
 refine t6 hs (by kernel_rfl) (agP (t:=259) (cs:= #[.int .i64 x,.int .i64 y]) (fun rb_=>.pointer (some ⟨rb_,0,none⟩)) [0,2,4] (fun rb_=>[(0,.pointer (some ⟨c,0,none⟩)),(2,.bool ok),(4,.pointer (some ⟨rb_,0,none⟩))]) hs (fun _=>by kernel_rfl) (fun _=>by kernel_rfl) ?_)
 clear hs a;intro a w1 b1 hn hs
 have B1:=hn.blk
 have l1:w.heap.size≤b1:=by rw[hn.at_];exact hB.size
 replace hc:=hc.below hn.below hc.lt
 replace hB:=xj hB hn.below
 clear hn
 refine t6 hs (by kernel_rfl) (agP (t:=259) (cs:= #[.int .i64 0,.int .i64 0]) (fun rb_=>.pointer (some ⟨rb_,0,none⟩)) [0,2,4,6] (fun rb_=>[(0,.pointer (some ⟨c,0,none⟩)),(2,.bool ok),(4,.pointer (some ⟨b1,0,none⟩)),(6,.pointer (some ⟨rb_,0,none⟩))]) hs (fun _=>by kernel_rfl) (fun _=>by kernel_rfl) ?_)
 clear hs a;intro a w2 b2 hn hs
 have B2:=hn.blk
 have l2:w.heap.size≤b2:=by rw[hn.at_];exact hB.size
 have l2':b1<b2:=by rw[hn.at_];exact B1.lt
 replace hc:=hc.below hn.below hc.lt
 replace B1:=B1.below hn.below B1.lt
 replace hB:=xj hB hn.below
 clear hn
 refine qp (by kernel_rfl) ?_
 refine mA rfl ?_
 refine xK (j:=4) (by kernel_rfl) ?_
 refine mZ (id:=1) (by kernel_rfl) ?_
 refine tF (m:=6) (H:=[(4,none,[.bool b])]) (ts:=[2,4,6,7,12]) (L':=[(2,.bool ok),(4,.pointer (some ⟨b1,0,none⟩)),(6,.pointer (some ⟨b2,0,none⟩)),(7,.pointer (some ⟨c,0,none⟩)),(12,.bool b)]) (O:=fun w=>(w.cell? ⟨c,0,none⟩=some (.bool b))∧True) hs (by kernel_rfl) ⟨hc.cell 0 rfl,trivial⟩ ?_
 clear hs a;intro a hs
 rcases Bool.eq_false_or_eq_true (b)with hb|hb
 ·replace hs:=hs.know (t:=12) rfl hb
  have cd1:=hb;have cd1b:=hb;clear hb
  replace hs:=hs.pick (ts:=[2,4,6,7,12]) (L':=[(2,.bool ok),(4,.pointer (some ⟨b1,0,none⟩)),(6,.pointer (some ⟨b2,0,none⟩)),(7,.pointer (some ⟨c,0,none⟩)),(12,.bool true)]) (by kernel_rfl)
  refine tF (m:=4) (H:=[]) (ts:=[4,6,14,16]) (L':=[(4,.pointer (some ⟨b1,0,none⟩)),(6,.pointer (some ⟨b2,0,none⟩)),(14,.bool ok),(16,.pointer (some ⟨c,0,none⟩))]) (O:=fun w=>True) hs (by kernel_rfl) trivial ?_
  clear hs a;intro a hs
  refine t6 hs (by kernel_rfl) (B9 (b:=c) (cs:= #[.bool b]) #[.bool ok] [(0,.bool ok)] [4,6] [(4,.pointer (some ⟨b1,0,none⟩)),(6,.pointer (some ⟨b2,0,none⟩))] hs hc (by kernel_rfl) ⟨ala rfl,trivial,trivial⟩ rfl (by kernel_rfl) ?_)
  clear hs a;intro a w3 hc' hu hs
  replace hc:=hc';clear hc'
  replace B1:=hu.blk B1 (by omega)
  replace B2:=hu.blk B2 (by omega)
  replace hB:=r9 hB hu (by omega)
  clear hu
  refine qp (by kernel_rfl) ?_
  refine mA rfl ?_
  refine xK (j:=6) (by kernel_rfl) ?_
  refine mZ (id:=2) (by kernel_rfl) ?_
  refine tF (m:=1) (H:=[(0,none,[.int .i64 x,.int .i64 y])]) (ts:=[6,17]) (L':=[(6,.pointer (some ⟨b2,0,none⟩)),(17,.agg #[.int .i64 x,.int .i64 y])]) (O:=fun w=>(w.cell? ⟨b1,0,none⟩=some (.int .i64 x))∧(w.cell? ⟨b1,1,none⟩=some (.int .i64 y))∧True) hs (by kernel_rfl) ⟨B1.cell 0 rfl,B1.cell 1 rfl,trivial⟩ ?_
  clear hs a;intro a hs
  refine t6 hs (by kernel_rfl) (B9 (b:=b2) (cs:= #[.int .i64 0,.int .i64 0]) #[.int .i64 x,.int .i64 y] [(0,.int .i64 x),(1,.int .i64 y)] [6] [(6,.pointer (some ⟨b2,0,none⟩))] hs B2 (by kernel_rfl) ⟨ala rfl,trivial,⟨ala rfl,trivial,trivial⟩⟩ rfl (by kernel_rfl) ?_)
  clear hs a;intro a w4 B2' hu hs
  replace B2:=B2';clear B2'
  replace hc:=hu.blk hc (by omega)
  replace B1:=hu.blk B1 (by omega)
  replace hB:=r9 hB hu (by omega)
  clear hu
  refine qp (by kernel_rfl) ?_
  refine mA rfl ?_
  refine Gb (by kernel_rfl) ?_
  refine Oj (vs:=[.agg #[.int .i64 x,.int .i64 y]]) (H:=[.int .i64 x,.int .i64 y]) (v:=.agg #[.int .i64 x,.int .i64 y]) (O:=fun w=>(w.cell? ⟨b2,0,none⟩=some (.int .i64 x))∧(w.cell? ⟨b2,1,none⟩=some (.int .i64 y))∧True) hs (by kernel_rfl) rfl ⟨B2.cell 0 rfl,B2.cell 1 rfl,trivial⟩ ?_
  exact⟨rfl,by rw[cd1];exact hc,hB⟩
 ·replace hs:=hs.know (t:=12) rfl hb
  have cd1:=hb;have cd1b:=hb;clear hb
  replace hs:=hs.pick (ts:=[2,4,6,7,12]) (L':=[(2,.bool ok),(4,.pointer (some ⟨b1,0,none⟩)),(6,.pointer (some ⟨b2,0,none⟩)),(7,.pointer (some ⟨c,0,none⟩)),(12,.bool false)]) (by kernel_rfl)
  refine tF (m:=4) (H:=[]) (ts:=[4,6,14,16]) (L':=[(4,.pointer (some ⟨b1,0,none⟩)),(6,.pointer (some ⟨b2,0,none⟩)),(14,.bool false),(16,.pointer (some ⟨c,0,none⟩))]) (O:=fun w=>True) hs (by kernel_rfl) trivial ?_
  clear hs a;intro a hs
  refine t6 hs (by kernel_rfl) (B9 (b:=c) (cs:= #[.bool b]) #[.bool false] [(0,.bool false)] [4,6] [(4,.pointer (some ⟨b1,0,none⟩)),(6,.pointer (some ⟨b2,0,none⟩))] hs hc (by kernel_rfl) ⟨ala rfl,trivial,trivial⟩ rfl (by kernel_rfl) ?_)
  clear hs a;intro a w5 hc' hu hs
  replace hc:=hc';clear hc'
  replace B1:=hu.blk B1 (by omega)
  replace B2:=hu.blk B2 (by omega)
  replace hB:=r9 hB hu (by omega)
  clear hu
  refine qp (by kernel_rfl) ?_
  refine mA rfl ?_
  refine xK (j:=6) (by kernel_rfl) ?_
  refine mZ (id:=2) (by kernel_rfl) ?_
  refine tF (m:=1) (H:=[(0,none,[.int .i64 x,.int .i64 y])]) (ts:=[6,17]) (L':=[(6,.pointer (some ⟨b2,0,none⟩)),(17,.agg #[.int .i64 x,.int .i64 y])]) (O:=fun w=>(w.cell? ⟨b1,0,none⟩=some (.int .i64 x))∧(w.cell? ⟨b1,1,none⟩=some (.int .i64 y))∧True) hs (by kernel_rfl) ⟨B1.cell 0 rfl,B1.cell 1 rfl,trivial⟩ ?_
  clear hs a;intro a hs
  refine t6 hs (by kernel_rfl) (B9 (b:=b2) (cs:= #[.int .i64 0,.int .i64 0]) #[.int .i64 x,.int .i64 y] [(0,.int .i64 x),(1,.int .i64 y)] [6] [(6,.pointer (some ⟨b2,0,none⟩))] hs B2 (by kernel_rfl) ⟨ala rfl,trivial,⟨ala rfl,trivial,trivial⟩⟩ rfl (by kernel_rfl) ?_)
  clear hs a;intro a w6 B2' hu hs
  replace B2:=B2';clear B2'
  replace hc:=hu.blk hc (by omega)
  replace B1:=hu.blk B1 (by omega)
  replace hB:=r9 hB hu (by omega)
  clear hu
  refine qp (by kernel_rfl) ?_
  refine mA rfl ?_
  refine Gb (by kernel_rfl) ?_
  refine Oj (vs:=[.agg #[.int .i64 x,.int .i64 y]]) (H:=[.int .i64 x,.int .i64 y]) (v:=.agg #[.int .i64 x,.int .i64 y]) (O:=fun w=>(w.cell? ⟨b2,0,none⟩=some (.int .i64 x))∧(w.cell? ⟨b2,1,none⟩=some (.int .i64 y))∧True) hs (by kernel_rfl) rfl ⟨B2.cell 0 rfl,B2.cell 1 rfl,trivial⟩ ?_
  exact⟨rfl,by rw[cd1];exact hc,hB⟩
def OD:eg:={keep:=true,tame:=true,run:=fun _ _ _=>none,mut_:=some ⟨true,fun l=>l,some 257⟩}
theorem RC:SpK 331 OD:=by
 refine⟨by kernel_rfl,fun R args k r h=>(by cases h),fun g h=>?_⟩
 injection h with h
 subst h
 exact JN
def VY:List En:=[⟨99,iq,fe⟩,⟨108,gU,eP⟩,⟨107,iW,fy⟩,⟨106,ir,fh⟩,⟨109,kO,gH⟩,enL Lp,⟨73,lQ,ip⟩,⟨41,fX,dU⟩,enL zX,enT Dm,enL Ma,enL ZE,enL R7,enL MY,enL PI,enL Pu,enA Of,enA No,enL Yb,enL Mc,enL WX,enL Ht,enL Nr,enL Yq,⟨331,OD,RC⟩]
def acN:NT:=[((292,5),{keep:=[1,4,13,14,17,20,21,24],hl:=0}),((292,7),{keep:=[1,4,5,25,26,29,32,33,36],hl:=0})]
def afk:Ctx:=CX (ens VY) acN
def Zv(q:BQ)(_k:KT):Option (List RV):=let y1:=frF (ah q.2.2.2.2.1);let y2:=ok Rat 200000 q.2.2.2.2.2;let y3:=frF (ah q.2.2.2.2.2);let y4:=sqF (hid (y3.1));let y5:=hid ((frF (ah q.2.1)).1);let y6:=hid ((sqF (hid (y1.1))).1);let y7:=frF (ah q.2.2.1);let y8:=frF (ah q.2.2.2.1);let y9:=cH y6 (hid (y4.1));let y10:=cH (hid (y7.1)) (hid (y4.1));let y11:=cH (hid (y8.1)) (hid (y9.1));let y12:=hid ((frF (ah q.1)).1);let y13:=hid ((cH y5 y6).1);let y14:=hid ((dL y12 y13).1);let y15:=dL (hid (y10.1)) (hid (y11.1));let y16:=dL y14 (hid (y15.1));let y17:Option (List RV):=match decide (prI (hid (y3.1)))with|true=>some [RV.d aon 0,RV.d .bool false]|false=>none;og (decide (ok Rat 200000 q.2.2.2.2.1)) (og (decide (prI (hid (y1.1)))) (match y1.2 with|true=>(og (decide y2) (match(sqF (hid (y1.1))).2 with|true=>(og (decide (prI (hid (y3.1)))) (match y3.2 with|true=>(match !(y4.2)with|true=>some [RV.d aon 0,RV.d .bool false]|false=>(og (decide (ok Rat 200000 q.2.1)) (og (decide (prI y5∧prI y6)) (og (decide (ok Rat 200000 q.2.2.1)) (og (decide (prI (hid (y7.1))∧prI (hid (y4.1)))) (og (decide (ok Rat 200000 q.2.2.2.1)) (og (decide (prI y6∧prI (hid (y4.1)))) (og (decide (prI (hid (y8.1))∧prI (hid (y9.1)))) (match !(((((((y4.2&&(frF (ah q.2.1)).2)&&(cH y5 y6).2)&&y7.2)&&y10.2)&&y8.2)&&y9.2)&&y11.2)with|true=>some [RV.d aon 0,RV.d .bool false]|false=>(og (decide (ok Rat 200000 q.1)) (og (decide (prI y12∧prI y13)) (og (decide (prI (hid (y10.1))∧prI (hid (y11.1)))) (og (decide (prI y14∧prI (hid (y15.1)))) (match !(((((((((((y4.2&&(frF (ah q.2.1)).2)&&(cH y5 y6).2)&&y7.2)&&y10.2)&&y8.2)&&y9.2)&&y11.2)&&(frF (ah q.1)).2)&&(dL y12 y13).2)&&y15.2)&&y16.2)with|true=>some [RV.d aon 0,RV.d .bool false]|false=>some [RV.d aon ((sgF (hid (y16.1))).1),RV.d .bool ((sgF (hid (y16.1))).2)]))))))))))))))|false=>some [RV.d aon 0,RV.d .bool false]))|false=>y17))|false=>(og (decide y2) y17)))
theorem aiC(q:BQ):RS afk 292 [.d tQ q] (Zv q):=rsX
def adN:Cn 292 [tQ]:=cn fun(q:BQ)=>lf (okQ q) [.d aon ((quF (dec q)).1),.d .bool ((quF (dec q)).2)] fun h=>by
 refine c7 VY (aiC _ ⟨0,?_⟩)
 obtain⟨A,B,C,D,M,N,rfl,bA,bB,bC,bD,bM,bN,hM,hN⟩:=FH h
 rw[az]
 have pf:∀q,prI (frF q).1:=RE.frF_pr
 have pm:∀a b,prI (cH a b).1:=sE
 have ps:∀q,prI (sqF (frF q).1).1:=fun q=>RE.sqF_pr (pf q)
 have pa:∀{a b},prI a→prI b→prI (dL a b).1:=fun ha hb=>RE.addF_pr ha hb
 have d1:∀q,decide (prI (frF q).1)=true:=fun q=>dT (pf q)
 have d2:∀q m,decide (prI (frF q).1∧prI (sqF (frF m).1).1)=true:=fun q m=>dT ⟨pf q,ps m⟩
 have d3:∀q m,decide (prI (sqF (frF q).1).1∧prI (sqF (frF m).1).1)=true:=fun q m=>dT ⟨ps q,ps m⟩
 have d4:∀q a b,decide (prI (frF q).1∧prI (cH a b).1)=true:=fun q a b=>dT ⟨pf q,pm a b⟩
 have d5:∀a b c d,decide (prI (cH a b).1∧prI (cH c d).1)=true:=fun a b c d=>dT ⟨pm a b,pm c d⟩
 have d6:∀q a b c d e f,decide (prI (dL (frF q).1 (cH a b).1).1∧prI (dL (cH c d).1 (cH e f).1).1)=true:=fun q a b c d e f=>dT ⟨pa (pf q) (pm a b),pa (pm c d) (pm e f)⟩
 unfold Zv
 simp only[aU,aE,Nat.reduceLeDiff,dT (pf _),dT (pm _ _),dT (ps _),dT (pa (pf _) (pm _ _)),dT (pa (pm _ _) (pm _ _))]
 unfold quF qu1 qu2 qu3 quA quB sfF mfF
 generalize frF M=FM
 generalize frF N=FN
 generalize sqF FM.1=SM
 generalize sqF FN.1=SN
 generalize frF A=FA
 generalize frF B=FB
 generalize frF C=FC
 generalize frF D=FD
 generalize cH FB.1 SM.1=MB
 generalize cH FC.1 SN.1=MC
 generalize cH SM.1 SN.1=MM
 generalize cH FD.1 MM.1=MD
 generalize dL FA.1 MB.1=A1
 generalize dL MC.1 MD.1=A2
 generalize dL A1.1 A2.1=A3
 generalize sgF A3.1=S
 obtain⟨_,fm⟩:=FM
 obtain⟨_,fn⟩:=FN
 obtain⟨_,sm⟩:=SM
 obtain⟨_,sn⟩:=SN
 cases fm<;>cases sm<;>cases fn<;>cases sn<;>try rfl
 dsimp only
 simp only[amo,amC]
 generalize (FB.2&&MB.2&&FC.2&&MC.2&&FD.2&&MM.2&&MD.2)=c2
 cases c2
 ·rfl
 ·simp only[amo]
  generalize (FA.2&&A1.2&&A2.2&&A3.2)=c3
  cases c3<;>rfl
namespace RE
theorem same_rad(a b c d r:RE):a-c+(b-d)*r=a+b*r-(c+d*r):=by grind
theorem aaT(a b c:RE):a-b+c=a+c-b:=by grind
theorem vR_rat(q:Rat):vR (q,0,0)=of q:=dP q 0
theorem cmpTR_re{x:Rt}{q:Rat}(h:0≤x.2.2):fR x q=sg (vR x-of q):=by
 unfold fR vR
 rw[sgn2_re h]
 unfold v2
 rw[of_sub,aaT]
end RE
theorem Rdd.rat{x:Rt}(h:Rdd x)(hb:x.2.1=0):x=(x.1,0,0):=by
 obtain⟨a,b,c⟩:=x
 rcases h.rd with h|h
 ·obtain⟨h1,h2⟩:=h
  simp only at h1 h2
  rw[h1,h2]
 ·exact absurd hb h.1
theorem Qk{x:Rt}{q:Rat}(h:Rdd x):a8 x (q,0,0)=fR x q:=by
 rw[RE.cmpT_re h.nn (by show(0:Rat)≤0;grind),RE.cmpTR_re h.nn,RE.vR_rat]
theorem TC{x y:Rt}(hx:Rdd x)(hy:Rdd y)(bx:x.2.1=0)(b_:y.2.1=0):a8 x y=aC x.1 y.1:=by
 rw[hx.rat bx,hy.rat b_,RE.cmpT_re (by show(0:Rat)≤0;grind) (by show(0:Rat)≤0;grind),RE.vR_rat,RE.vR_rat,←RE.of_sub,RE.sg_of,sM]
theorem TY{x y:Rt}(hx:Rdd x)(hy:Rdd y)(h:(apF x y).2=true):(apF x y).1=a8 x y:=by
 rw[RE.apF_ok h,RE.cmpT_re hx.nn hy.nn]
theorem zD{x y:Rt}(hx:Rdd x)(hy:Rdd y)(h:x.2.2=y.2.2):gG (x.1-y.1) (x.2.1-y.2.1) x.2.2=a8 x y:=by
 rw[RE.cmpT_re hx.nn hy.nn,RE.sgn2_re hx.nn]
 unfold RE.vR RE.v2
 rw[RE.of_sub,RE.of_sub,RE.same_rad,h]
theorem acM{A B C D M N:Rat}(hM:0≤M)(hN:0≤N)(h:(quF (A,B,C,D,M,N)).2=true):(quF (A,B,C,D,M,N)).1=sgQ (A,B,C,D,M,N):=by
 rw[RE.quF_ok (q:=(A,B,C,D,M,N)) hM hN h]
 exact(RE.sgnQ_re hM hN).symm
def ML:List En:=[⟨107,iW,fy⟩,⟨108,gU,eP⟩,⟨73,lQ,ip⟩,⟨106,ir,fh⟩,⟨41,fX,dU⟩,⟨99,iq,fe⟩,enL zX,enT Dm,enL Ma,enL Ht]
def abz:Cn 294 [tR,tR]:=cn fun(a b:BR)=>lf (okR a∧okR b) [.d tR (am (ah a+ah b))] fun h=>jJ [RV.d tR (hAd a b)] (du ML) h
def Xp(a b:BO3)(_k:KT):Option (List RV):=og (decide (ok Rt 100000 a)) (og (decide (ok Rt 100000 b)) (match !((bG (dec a)).2)with|true=>some [RV.d aon 0,RV.d .bool false]|false=>(match !((bG (dec b)).2)with|true=>some [RV.d aon 0,RV.d .bool false]|false=>(match decide (((hid ((bG (dec a)).1)).2)<((hid ((bG (dec b)).1)).1))with|true=>some [RV.d aon (-1),RV.d .bool true]|false=>(match decide (((hid ((bG (dec a)).1)).1)>((hid ((bG (dec b)).1)).2))with|true=>some [RV.d aon 1,RV.d .bool true]|false=>some [RV.d aon 0,RV.d .bool false])))))
def Yf:Cn 295 [tO,tO]:=cn fun(a b:BO3)=>lf (ok Rt 100000 a∧ok Rt 100000 b) [.d aon ((apF (dec a) (dec b)).1),.d .bool ((apF (dec a) (dec b)).2)] fun h=>by
 refine aA ML (Xp a b) ⟨0,?_⟩
 obtain⟨ha,hb⟩:=h
 obtain⟨a,rfl,ba⟩:=aF ha
 obtain⟨b,rfl,bb⟩:=aF hb
 unfold Xp
 simp only[aU,Nat.reduceLeDiff]
 unfold apF
 generalize bG a=A
 generalize bG b=B
 obtain⟨⟨a1,a2⟩,p⟩:=A
 obtain⟨⟨b1,b2⟩,q⟩:=B
 cases p<;>cases q<;>try rfl
 dsimp only
 cases decide (a2<b1)<;>try rfl
 cases decide (a1>b2)<;>rfl
def agH:List En:=enL abz::enT Yf::enT adN::ML
def WQ(q:BQ)(_k:KT):Option (List RV):=let y1:=ah q.2.2.2.2.1;let y2:=aC (ah q.2.2.2.2.2) 0;let y3:=i64.wrap ((gG (ah q.2.2.1) (ah q.2.2.2.1) y1)*y2);let y4:=gG (ah q.1) (ah q.2.1) y1;let y5:=hMu q.2.2.2.2.1 (hMu q.2.1 q.2.1);let y6:=hMu q.2.2.2.1 q.2.2.2.1;let y7:=hMu q.2.2.1 q.2.2.1;let y8:=hMu q.2.2.2.2.1 y6;let y9:=hAd (hMu q.1 q.1) y5;let y10:=hMu q.2.2.2.2.2 (hAd y7 y8);let y11:=hMu q.2.2.1 q.2.2.2.1;let y12:=hMu q.2.2.2.2.2 y11;let y13:=hSu (hMu q.1 q.2.1) y12;let y14:Option (List RV):=match decide (okR (hMu q.1 q.2.1)∧okR y12)with|true=>(og (o2 y13 y13) (og (decide (ok Rat 240000 (hSu y9 y10)∧ok Rat 170000 (hAd y13 y13)∧ok Rat 30000 q.2.2.2.2.1)) (some [RV.d aon (i64.wrap (y4*(gG (ah (hSu y9 y10)) (ah (hAd y13 y13)) y1)))])))|false=>none;let y15:Option (List RV):=match decide (okR q.2.2.2.2.2∧okR y11)with|true=>y14|false=>none;let y16:Option (List RV):=match decide (okR q.2.2.1∧okR q.2.2.2.1)with|true=>y15|false=>none;let y17:Option (List RV):=match decide (okR y9∧okR y10)with|true=>ct (og (o2 q.1 q.2.1) (ct (og (o2 q.2.2.1 q.2.2.2.1) (ct (og (o2 q.2.2.2.2.2 y11) (dup (.b .l .l) y14)) y15)) y16)) (og (o2 q.1 q.2.1) y16)|false=>none;let y18:Option (List RV):=match decide (okR q.2.2.2.2.2∧okR (hAd y7 y8))with|true=>y17|false=>none;let y19:Option (List RV):=match decide (okR y7∧okR y8)with|true=>y18|false=>none;let y20:Option (List RV):=match decide (okR q.2.2.2.2.1∧okR y6)with|true=>y19|false=>none;let y21:Option (List RV):=match decide (okR q.2.2.2.1∧okR q.2.2.2.1)with|true=>y20|false=>none;let y22:Option (List RV):=match decide (okR q.2.2.1∧okR q.2.2.1)with|true=>y21|false=>none;let y23:Option (List RV):=match decide (okR (hMu q.1 q.1)∧okR y5)with|true=>y22|false=>none;let y24:Option (List RV):=match decide (okR q.2.2.2.2.1∧okR (hMu q.2.1 q.2.1))with|true=>y23|false=>none;let y25:Option (List RV):=match decide (okR q.2.1∧okR q.2.1)with|true=>y24|false=>none;og (o1 q.2.2.2.2.1) (match decide ((aC y1 0)<0)with|true=>some [RV.d aon 0]|false=>(og (o1 q.2.2.2.2.2) (match decide (y2<0)with|true=>some [RV.d aon 0]|false=>(og (decide (okQ q)) (match(quF (dec q)).2 with|true=>some [RV.d aon ((quF (dec q)).1)]|false=>(og (decide (ok Rat 240000 q.1∧ok Rat 170000 q.2.1∧ok Rat 30000 q.2.2.2.2.1)) (og (decide (ok Rat 240000 q.2.2.1∧ok Rat 170000 q.2.2.2.1∧ok Rat 30000 q.2.2.2.2.1)) (og (o1 q.2.2.2.2.2) (match y3==0 with|true=>some [RV.d aon y4]|false=>(match y4==y3 with|true=>some [RV.d aon y4]|false=>(match y4==0 with|true=>some [RV.d aon y3]|false=>ct (og (o2 q.1 q.1) (ct (og (o2 q.2.1 q.2.1) (ct (og (o2 q.2.2.2.2.1 (hMu q.2.1 q.2.1)) (ct (og (o2 (hMu q.1 q.1) y5) (ct (og (o2 q.2.2.1 q.2.2.1) (ct (og (o2 q.2.2.2.1 q.2.2.2.1) (ct (og (o2 q.2.2.2.2.1 y6) (ct (og (o2 y7 y8) (ct (og (o2 q.2.2.2.2.2 (hAd y7 y8)) (dup (.b .l .l) y17)) y18)) y19)) y20)) y21)) y22)) y23)) y24)) y25)) (og (o2 q.1 q.1) y25))))))))))))
def Mk:Cn 204 [tQ]:=cn fun(q:BQ)=>lf (okQ q) [.d aon (sgQ (dec q))] fun h=>by
 refine aA agH (WQ q) ⟨0,?_⟩
 obtain⟨A,B,C,D,M,N,rfl,bA,bB,bC,bD,bM,bN,hM,hN⟩:=FH h
 have hh:decide (okQ (am A,am B,am C,am D,am M,am N))=true:=ak3 h
 have hd:(dec ((am A,am B,am C,am D,am M,am N):BQ):Qd)=(A,B,C,D,M,N):=az ((A,B,C,D,M,N):Qd)
 rw[az]
 unfold WQ
 simp only[aU,aE,Nat.reduceAdd,Nat.reduceLeDiff,se,ta,au,hh,hd,ak5 (show ¬M<0 by grind),ak5 (show ¬N<0 by grind)]
 cases hq:(quF (A,B,C,D,M,N)).2
 ·try dsimp only
  refine(By _ _ _).trans ?_
  unfold sgQ Ce
  rw[ak5 (show ¬M<0 by grind),ak5 (show ¬N<0 by grind)]
  dsimp only[Bool.or_false,cond_false]
  rw[show A*B-N*(C*D)+(A*B-N*(C*D))=2*(A*B-N*(C*D)) by grind,show A*A+M*(B*B)-N*(C*C+M*(D*D))=A*A+B*B*M-N*(C*C+D*D*M) by grind]
  rfl
 ·try dsimp only
  rw[acM hM hN hq]
def YA:List En:=[⟨41,fX,dU⟩,⟨73,lQ,ip⟩,⟨106,ir,fh⟩,enT Dm,enL Ma,enT Yf,enT Mk,enL zX]
def Xg(a b:BO3)(_k:KT):Option (List RV):=og (o1 a.2.1) (match(aC (ah a.2.1) 0)==0 with|true=>(og (o1 b.2.1) (match(aC (ah b.2.1) 0)==0 with|true=>(og (o2 a.1 b.1) (some [RV.d aon (aC (ah a.1) (ah b.1))]))|false=>(og (decide (ok Rt 100000 a∧ok Rt 100000 b)) (match(apF (dec a) (dec b)).2 with|true=>some [RV.d aon ((apF (dec a) (dec b)).1)]|false=>(og (o2 a.2.2 b.2.2) (match(aC (ah a.2.2) (ah b.2.2))==0 with|true=>(og (o2 a.1 b.1) (og (o2 a.2.1 b.2.1) (og (decide (ok Rat 240000 (hSu a.1 b.1)∧ok Rat 170000 (hSu a.2.1 b.2.1)∧ok Rat 30000 a.2.2)) (some [RV.d aon (gG (ah (hSu a.1 b.1)) (ah (hSu a.2.1 b.2.1)) (ah a.2.2))]))))|false=>(og (decide (ok Rt 15000 a∧ok Rt 15000 b)) (og (decide (okQ (hid (enc (suT (dec a) (dec b)))))) (some [RV.d aon (sgQ (dec (hid (enc (suT (dec a) (dec b))))))])))))))))|false=>(og (decide (ok Rt 100000 a∧ok Rt 100000 b)) (match(apF (dec a) (dec b)).2 with|true=>some [RV.d aon ((apF (dec a) (dec b)).1)]|false=>(og (o2 a.2.2 b.2.2) (match(aC (ah a.2.2) (ah b.2.2))==0 with|true=>(og (o2 a.1 b.1) (og (o2 a.2.1 b.2.1) (og (decide (ok Rat 240000 (hSu a.1 b.1)∧ok Rat 170000 (hSu a.2.1 b.2.1)∧ok Rat 30000 a.2.2)) (some [RV.d aon (gG (ah (hSu a.1 b.1)) (ah (hSu a.2.1 b.2.1)) (ah a.2.2))]))))|false=>(og (decide (ok Rt 15000 a∧ok Rt 15000 b)) (og (decide (okQ (hid (enc (suT (dec a) (dec b)))))) (some [RV.d aon (sgQ (dec (hid (enc (suT (dec a) (dec b))))))]))))))))
def Dy:Cn 206 [tO,tO]:=cn fun(a b:BO3)=>lf (okT 15000 a∧okT 15000 b) [.d aon (a8 (dec a) (dec b))] fun h=>by
 refine aA YA (Xg a b) ⟨0,?_⟩
 obtain⟨ha,hb⟩:=h
 obtain⟨a,rfl,ba,ra⟩:=gk ha
 obtain⟨b,rfl,bb,rb⟩:=gk hb
 have na:Nn a.2.2:=inferInstance
 have nb:Nn b.2.2:=inferInstance
 have e:decide (okQ (enc (suT a b)))=true:=zg (by decide) (by decide) (by decide) (by decide) (by decide) (by decide)
 have e1:=fun h1 h2=>TC ra rb h1 h2
 have e2:=fun h=>TY ra rb h
 have e3:=fun h=>zD ra rb h
 unfold Xg
 simp only[aU,Nat.reduceAdd,Nat.reduceLeDiff,aq,e]
 by_cases ha:a.2.1=0
 ·by_cases hb:b.2.1=0
  ·rw[ak3 ha,ak3 hb,e1 ha hb]
  ·rw[ak3 ha,ak5 hb]
   dsimp only
   cases hq:(apF a b).2
   ·dsimp only
    by_cases hc:a.2.2=b.2.2
    ·rw[ak3 hc,←e3 hc]
    ·rw[ak5 hc];rfl
   ·dsimp only
    rw[e2 hq]
 ·rw[ak5 ha]
  dsimp only
  cases hq:(apF a b).2
  ·dsimp only
   by_cases hc:a.2.2=b.2.2
   ·rw[ak3 hc,←e3 hc]
   ·rw[ak5 hc];rfl
  ·dsimp only
   rw[e2 hq]
def agl:List En:=enT Dy::YA
def VV(a:BO3)(b:BR)(_k:KT):Option (List RV):=og (o1 b) (og (decide (okT 15000 a∧okT 15000 (hid (enc ((ah b,0,0):Rt))))) (some [RV.d aon (a8 (dec a) (dec (hid (enc ((ah b,0,0):Rt)))))]))
def Np:Cn 100 [tO,tR]:=cn fun(a:BO3) (b:BR)=>lf (okT 15000 a∧ok Rat 15000 b) [.d aon (fR (dec a) (ah b))] fun h=>by
 refine aA agl (VV a b) ⟨0,?_⟩
 obtain⟨ha,hb⟩:=h
 obtain⟨a,rfl,ba,ra⟩:=gk ha
 obtain⟨b,rfl,bb⟩:=aF hb
 unfold VV
 simp only[aU,Nat.reduceLeDiff,aM]
 rw[Qk ra]
section
section
variable {α:Type}
open Classical in
def rk(lt:α→α→Prop):List α→α→Nat
 |[],_=>0
 |e::r,x=>(if lt e x then 1 else 0)+rk lt r x
structure oz (lt:α→α→Prop):Prop where
 irr:∀x,¬lt x x
 tr:∀x y z,lt x y→lt y z→lt x z
 tri:∀x y,lt x y∨x=y∨lt y x
variable {lt:α→α→Prop}
theorem Yg(h:oz lt){x y:α}(hxy:lt x y):∀L,rk lt L x≤rk lt L y
 |[]=>ak9 _
 |e::r=>by
  have:=Yg h hxy r
  unfold rk
  by_cases h1:lt e x
  ·rw[alx h1,alx (h.tr _ _ _ h1 hxy)];omega
  ·rw[alq h1];omega
theorem Ei(h:oz lt){x y:α}(hxy:lt x y):∀{L},x∈L→rk lt L x<rk lt L y
 |e::r,hm=>by
  have h0:=Yg h hxy r
  unfold rk
  rcases ali.1 hm with rfl|hm
  ·rw[alq (h.irr _),alx hxy];omega
  ·have:=Ei h hxy hm
   by_cases h1:lt e x
   ·rw[alx h1,alx (h.tr _ _ _ h1 hxy)];omega
   ·rw[alq h1];omega
theorem Z4(L:List α)(x:α):rk lt L x≤L.length:=by
 induction L with
 |nil=>exact ak9 _
 |cons e r ih=>
  unfold rk
  rw[alj]
  split<;>omega
theorem iL(h:oz lt){x:α}:∀{L},x∈L→rk lt L x<L.length
 |e::r,hm=>by
  unfold rk
  rw[alj]
  rcases ali.1 hm with rfl|hm
  ·rw[alq (h.irr _)];have:=Z4 (lt:=lt) r x;omega
  ·have:=iL h hm
   split<;>omega
def uj(lt:α→α→Prop)(c:α→α→Int):Prop:=∀x y,(lt x y→c x y= -1)∧(x=y→c x y=0)∧(lt y x→c x y=1)
def cI(i j:Nat):Int:=if i<j then-1 else if i=j then 0 else 1
theorem rm(h:oz lt){c:α→α→Int}(hc:uj lt c){L:List α}{x y:α}(hx:x∈L)(hy:y∈L):c x y=cI (rk lt L x) (rk lt L y):=by
 unfold cI
 rcases h.tri x y with e|e|e
 ·rw[(hc x y).1 e,alx (Ei h e hx)]
 ·subst e;rw[(hc x x).2.1 rfl,alq (Nat.lt_irrefl _),alx rfl]
 ·have:=Ei h e hy
  rw[(hc x y).2.2 e,alq (by omega),alq (by omega)]
end
section
variable {α:Type} (cmp:α→α→Int)
def rQ(p q:Bool×α):Int:=bif p.1==q.1 then(bif p.1 then-cmp p.2 q.2 else cmp p.2 q.2)else(bif p.1 then-1 else 1)
def ot(f p:Bool×α):Int:=bif rQ cmp p f==0 then 0 else bif decide (rQ cmp p f>0)then 1 else 2
def kb(n:Int):Int:=if n<0 then-1 else if n=0 then 0 else 1
def gF(f p q:Bool×α):Int:=bif ot cmp f p==ot cmp f q then kb (rQ cmp p q)else kb (ot cmp f p-ot cmp f q)
def jK(p q:Bool×α):Int:=bif p.1==q.1 then(bif p.1 then-cmp p.2 q.2 else cmp p.2 q.2)else(bif q.1 then-1 else 1)
def j9(f p q:Bool×α):Int:=bif decide (jK cmp p f<0)==decide (jK cmp q f<0)then jK cmp p q else(bif decide (jK cmp q f<0)then-1 else 1)
variable {cmp} {β:Type} {cmq:β→β→Int}
theorem ru{u v:Bool}{a b:α}{c d:β}(h:cmp a b=cmq c d):rQ cmp (u,a) (v,b)=rQ cmq (u,c) (v,d):=by unfold rQ;rw[h]
theorem rB{u v:Bool}{a b:α}{c d:β}(h:cmp a b=cmq c d):jK cmp (u,a) (v,b)=jK cmq (u,c) (v,d):=by unfold jK;rw[h]
theorem gY{u v w:Bool}{f p q:α}{f' p' q':β}(h1:cmp p f=cmq p' f')(h2:cmp q f=cmq q' f')(h3:cmp p q=cmq p' q'):gF cmp (u,f) (v,p) (w,q)=gF cmq (u,f') (v,p') (w,q'):=by
 unfold gF ot
 rw[ru h1,ru h2,ru h3]
theorem fK{u v w:Bool}{f p q:α}{f' p' q':β}(h1:cmp p f=cmq p' f')(h2:cmp q f=cmq q' f')(h3:cmp p q=cmq p' q'):j9 cmp (u,f) (v,p) (w,q)=j9 cmq (u,f') (v,p') (w,q'):=by
 unfold j9
 rw[rB h1,rB h2,rB h3]
end
def m5(k i l j:Nat):Bool:=(k !=0||(bif l==0 then i==j else decide (j<i)))&&(k !=2||(bif l==2 then i==j else decide (i<j)))
def upA(k:Nat):Bool:=k==0||k==1
def ufA(k:Nat):Bool:=k==1||k==2
def dI(i j:Nat):Int:=cI j i
def GM(k i l j m n:Nat):Bool:=m5 k i l j&&m5 l j k i&&m5 k i m n&&m5 m n k i&&m5 l j m n&&m5 m n l j
theorem R9:∀kF kP kT:Fin 4,∀iF iP iT:Fin 3,GM kF.1 iF.1 kP.1 iP.1 kT.1 iT.1=true→
  decide (gF cI (upA kF.1,iF.1) (upA kP.1,iP.1) (upA kT.1,iT.1)≤0)=(decide (j9 cI (upA kF.1,iF.1) (upA kF.1,iF.1) (upA kP.1,iP.1)≤0)&&decide (j9 cI (upA kF.1,iF.1) (upA kP.1,iP.1) (upA kT.1,iT.1)≤0)):=by decide+kernel
theorem abV:∀kF kP kT:Fin 4,∀iF iP iT:Fin 3,GM kF.1 iF.1 kP.1 iP.1 kT.1 iT.1=true→
  decide (gF cI (upA kT.1,iT.1) (upA kP.1,iP.1) (upA kF.1,iF.1)≤0)=(decide (j9 dI (ufA kF.1,iF.1) (ufA kF.1,iF.1) (ufA kP.1,iP.1)≤0)&&decide (j9 dI (ufA kF.1,iF.1) (ufA kP.1,iP.1) (ufA kT.1,iT.1)≤0)):=by decide+kernel
def oo(a b:Int):Bool:=a==0||b==0||a==b
def afg(d a b:Int):Bool:=decide ((bif decide (d>0)then-a else a)≤0)&&decide ((bif decide (d>0)then-b else b)≤0)
theorem vO:∀f p t:Fin 3,oo (cI f.1 p.1) (cI p.1 t.1)=afg (cI f.1 t.1) (cI f.1 p.1) (cI p.1 t.1):=by decide+kernel
namespace RE
theorem lt_lin:oz (fun x y:RE=>x<y):=⟨lt_irrefl,fun _ _ _=>cV,mN⟩
theorem tD(x y:RE)(h1:x<y):x-y<0:=by grind
theorem A4(x y:RE)(h1:y<x):0<x-y:=by grind
theorem sg_cmpO:uj (fun x y:RE=>x<y) (fun x y=>sg (x-y)):=fun x y=>⟨fun h=>gh (tD _ _ h),fun h=>by subst h;show sg (x-x)=0;rw[sub_self,da],fun h=>dk (A4 _ _ h)⟩
def acK(p q:RE×RE):Prop:=p.1<q.1∨(p.1=q.1∧p.2<q.2)
theorem jQ:oz acK:=by
 refine⟨fun x h=>?_,fun x y z h1 h2=>?_,fun x y=>?_⟩
 ·rcases h with h|h
  ·exact lt_irrefl _ h
  ·exact lt_irrefl _ h.2
 ·rcases h1 with h1|⟨h1,h1'⟩
  ·rcases h2 with h2|⟨h2,h2'⟩
   ·exact .inl (cV h1 h2)
   ·exact .inl (h2▸h1)
  ·rcases h2 with h2|⟨h2,h2'⟩
   ·exact .inl (h1▸h2)
   ·exact .inr ⟨h1.trans h2,cV h1' h2'⟩
 ·rcases mN x.1 y.1 with h|h|h
  ·exact .inl (.inl h)
  ·rcases mN x.2 y.2 with h'|h'|h'
   ·exact .inl (.inr ⟨h,h'⟩)
   ·exact .inr (.inl (amp h h'))
   ·exact .inr (.inr (.inr ⟨h.symm,h'⟩))
  ·exact .inr (.inr (.inl h))
def lxc(p q:RE×RE):Int:=bif sg (p.1-q.1)==0 then sg (p.2-q.2)else sg (p.1-q.1)
theorem iz:uj acK lxc:=fun p q=>by
 unfold lxc
 refine⟨fun h=>?_,fun h=>?_,fun h=>?_⟩
 ·rcases h with h|⟨h,h'⟩
  ·rw[gh (tD _ _ h)];rfl
  ·rw[h,sub_self,da,gh (tD _ _ h')];rfl
 ·subst h
  rw[sub_self,sub_self,da];rfl
 ·rcases h with h|⟨h,h'⟩
  ·rw[dk (A4 _ _ h)];rfl
  ·rw[←h,sub_self,da,dk (A4 _ _ h')];rfl
def cls(u v:RE):Nat:=bif sg v==1 then 1 else bif sg v== -1 then 3 else bif sg u==1 then 0 else 2
theorem gT(u v:RE):cls u v<4:=by
 unfold cls
 cases sg v==1<;>cases sg v== -1<;>cases sg u==1<;>simp
theorem adC(u v:RE):(decide (sg v>0)||(sg v==0&&decide (sg u>0)))=upA (cls u v):=by
 unfold cls
 rcases bg v with⟨_,h⟩|⟨_,h⟩|⟨_,h⟩<;>rcases bg u with⟨_,h'⟩|⟨_,h'⟩|⟨_,h'⟩<;>rw[h,h']<;>rfl
theorem aba{u v Q:RE}(hQ:0<Q)(h:u*u+v*v=Q):(decide (sg v>0)||(sg v==0&&decide (-sg u>0)))=ufA (cls u v):=by
 unfold cls
 rcases bg v with⟨_,h1⟩|⟨h0,h1⟩|⟨_,h1⟩<;>rcases bg u with⟨_,h'⟩|⟨h2,h'⟩|⟨_,h'⟩<;>rw[h1,h']<;>try rfl
 rw[h0,h2,mul_zero,add_zero]at h
 rw[←h]at hQ
 exact absurd hQ (lt_irrefl _)
theorem Ov(u v w z Q:RE):2*((u-(0))*(w-(u)))+((w-(u))*(w-(u)))+((u*u+v*v-(Q)))+((Q-(w*w+z*z)))+((z*z-(0)))+((0-(v))*(v-(0)))=0:=by grind
theorem acI(u v w z Q:RE)(h1:u*u+v*v=Q)(h2:w*w+z*z=Q)(h3:v=0)(h4:0<u)(h5:0≤z*z):w≤u:=fun hg=>far (aI (aI (aI (aI (aI (He (by decide+kernel:(0:Rat)<2) (mul_pos (aJ h4) (aJ hg))) (le_of_lt (mul_pos (aJ hg) (aJ hg)))) (aD (lh h1))) (aD (n4 h2))) (aD h5)) (a9 (aD (n4 h3)) (aD (lh h3)))) (Ov u v w z Q)
theorem Oa(u v w z Q:RE):2*((0-(u))*(u-(w)))+((u-(w))*(u-(w)))+((u*u+v*v-(Q)))+((Q-(w*w+z*z)))+((z*z-(0)))+((0-(v))*(v-(0)))=0:=by grind
theorem acY(u v w z Q:RE)(h1:u*u+v*v=Q)(h2:w*w+z*z=Q)(h3:v=0)(h4:u<0)(h5:0≤z*z):u≤w:=fun hg=>far (aI (aI (aI (aI (aI (He (by decide+kernel:(0:Rat)<2) (mul_pos (aJ h4) (aJ hg))) (le_of_lt (mul_pos (aJ hg) (aJ hg)))) (aD (lh h1))) (aD (n4 h2))) (aD h5)) (a9 (aD (n4 h3)) (aD (lh h3)))) (Oa u v w z Q)
theorem QY(u w z Q:RE)(h1:u*u=Q)(h2:w*w+z*z=Q)(h3:w*w=u*u):z*z≤0:=by grind
theorem wc{z:RE}(h:z*z≤0):z=0:=by
 rcases mN z 0 with e|e|e
 ·have:=mul_pos (jN e) (jN e)
  rw[neg_mul,mul_neg,neg_neg]at this
  exact absurd this (fun h'=>lt_irrefl _ (cV h' (by
   rcases fO (gn z)with h2|h2
   ·exact absurd h2 ((A5 _ _).1 h)
   ·rw[h2]at h';exact absurd h' (lt_irrefl _))))
 ·exact e
 ·exact absurd (mul_pos e e) ((A5 _ _).1 h)
theorem IK{u v:RE}:cls u v=0↔v=0∧0<u:=by
 unfold cls
 rcases bg v with⟨a,h1⟩|⟨a,h1⟩|⟨a,h1⟩<;>rcases bg u with⟨b,h'⟩|⟨b,h'⟩|⟨b,h'⟩<;>rw[h1,h']<;>simp[a,b]<;>first|exact lt_irrefl _|exact fun h=>absurd (cV h b) (lt_irrefl _)|(intro h;rw[h]at a;exact absurd a (lt_irrefl _))|skip
end RE
end
section
def xP(p:Pt):Rt:=coR p.1 p.2.1 p.2.2.2.2
def yP(p:Pt):Rt:=coR p.2.2.1 p.2.2.2.1 p.2.2.2.2
def atP(v:Rat×Rat):Pt:=(v.1,0,v.2,0,0)
def rdP(p:Pt):Pt:=(p.1,p.2.1,p.2.2.1,p.2.2.2.1,bif decide (p.2.1=0)&&decide (p.2.2.2.1=0)then 0 else p.2.2.2.2)
def mkP(x y:Rt):Pt:=rdP (x.1,x.2.1,y.1,y.2.1,bif decide (x.2.1=0)then y.2.2 else x.2.2)
def vD(x y:Rt):Prop:=x.2.1=0∨y.2.1=0∨x.2.2=y.2.2
instance (x y:Rt):Decidable (vD x y):=by unfold vD;infer_instance
def aV(p q:Pt):Int:=bif a8 (xP p) (xP q)==0 then a8 (yP p) (yP q)else a8 (xP p) (xP q)
def trP(p:Pt)(v:Rat×Rat):Pt:=(p.1+v.1,p.2.1,p.2.2.1+v.2,p.2.2.2.1,p.2.2.2.2)
def bkV(v:Rat×Rat):Rat×Rat:=(-v.1,-v.2)
def sqA(p:Pt)(v:Rat×Rat):Rat:=(p.1-v.1)*(p.1-v.1)+(p.2.2.1-v.2)*(p.2.2.1-v.2)+(p.2.1*p.2.1+p.2.2.2.1*p.2.2.2.1)*p.2.2.2.2
def sqB(p:Pt)(v:Rat×Rat):Rat:=(p.1-v.1)*p.2.1+(p.2.2.1-v.2)*p.2.2.2.1+((p.1-v.1)*p.2.1+(p.2.2.1-v.2)*p.2.2.2.1)
def sqP(p:Pt)(v:Rat×Rat):Rt:=coR (sqA p v) (sqB p v) p.2.2.2.2
def EZ(p:Pt):Prop:=(p.2.1=0∧p.2.2.2.1=0∧p.2.2.2.2=0)∨(¬(p.2.1=0∧p.2.2.2.1=0)∧0<p.2.2.2.2∧fN p.2.2.2.2=false)
instance (p:Pt):Decidable (EZ p):=by unfold EZ;infer_instance
class Rpd (p:Pt):Prop where
 rd:EZ p
def okP(k:Nat)(x:BP):Prop:=ok Pt k x∧EZ (dec x)
instance (k:Nat) (x:BP):Decidable (okP k x):=by unfold okP;infer_instance
theorem bS{k:Nat}{x:BP}(h:okP k x):∃v:Pt,x=enc v∧Bd v k∧Rpd v:=by
 obtain⟨h1,h2⟩:=h
 obtain⟨v,rfl,bv⟩:=aF h1
 rw[az]at h2
 exact⟨v,rfl,bv,⟨h2⟩⟩
theorem aN{x:Pt}{j k:Nat}[h:Bd x j][r:Rpd x](hj:j≤k)(hk:k≤480000):decide (okP k (enc x))=true:=ak3 ⟨ak6 (okd hj hk),by rw[az];exact r.rd⟩
theorem Rpd.ns{p:Pt}(h:Rpd p):Ns p.2.2.2.2:=⟨by rcases h.rd with h|h;exact .inl h.2.2;exact .inr h.2⟩
instance akN {p:Pt} [h:Rpd p]:Ns p.2.2.2.2:=h.ns
theorem Rpd.nn{p:Pt}(h:Rpd p):0≤p.2.2.2.2:=h.ns.nn
theorem RT{a b c:Rat}(h:Ns c)(hb:b=0∨c≠0):Rdd (coR a b c):=by
 refine⟨?_⟩
 unfold coR
 by_cases e:b=0
 ·rw[ak3 e];exact .inl ⟨rfl,rfl⟩
 ·rw[ak5 e]
  rcases h.ns with h|h
  ·rcases hb with hb|hb
   ·exact absurd hb e
   ·exact absurd h hb
  ·exact .inr ⟨e,h⟩
theorem Rpd.b0{p:Pt}(h:Rpd p):(p.2.1=0∧p.2.2.2.1=0)∨p.2.2.2.2≠0:=by
 rcases h.rd with h|h
 ·exact .inl ⟨h.1,h.2.1⟩
 ·exact .inr (by have:=h.2.1;grind)
instance ajo {p:Pt} [h:Rpd p]:Rdd (xP p):=RT h.ns (by rcases h.b0 with h|h;exact .inl h.1;exact .inr h)
instance ajw {p:Pt} [h:Rpd p]:Rdd (yP p):=RT h.ns (by rcases h.b0 with h|h;exact .inl h.2;exact .inr h)
instance akS {p:Pt} {v:Rat×Rat} [h:Rpd p]:Rdd (sqP p v):=RT h.ns (by
 rcases h.b0 with h|h
 ·refine .inl ?_
  unfold sqB
  rw[h.1,h.2]
  grind
 ·exact .inr h)
instance akU {v:Rat×Rat}:Rpd (atP v):=⟨.inl ⟨rfl,rfl,rfl⟩⟩
instance akQ {p:Pt} {v:Rat×Rat} [h:Rpd p]:Rpd (trP p v):=⟨h.rd⟩
theorem Yy{x y:Rt}(hx:Rdd x)(hy:Rdd y)(_h:vD x y):Rpd (mkP x y):=by
 refine⟨?_⟩
 unfold mkP rdP EZ
 dsimp only
 rcases hx.rd with⟨a1,a2⟩|⟨a1,a2,a3⟩<;>rcases hy.rd with⟨b1,b2⟩|⟨b1,b2,b3⟩
 ·simp[a1,b1]
 ·simp[a1,b1,b2,b3]
 ·simp[a1,b1,a2,a3]
 ·simp[a1,b1,a2,a3]
section
variable {p:Pt} {j:Nat}
instance akW [h:Bd p j]:Bd (xP p) (mx j (mx j j)):=inferInstanceAs (Bd (coR p.1 p.2.1 p.2.2.2.2) _)
instance akR [h:Bd p j]:Bd (yP p) (mx j (mx j j)):=inferInstanceAs (Bd (coR p.2.2.1 p.2.2.2.1 p.2.2.2.2) _)
instance akx {v:Rat×Rat} [h:Bd v j]:Bd (atP v) (mx j (mx 1 (mx j (mx 1 1)))):=inferInstanceAs (Bd ((v.1,0,v.2,0,0):Pt) _)
instance akv {v:Rat×Rat} {k:Nat} [h:Bd p j] [h':Bd v k]:Bd (trP p v) (mx (j+k+1) (mx j (mx (j+k+1) (mx j j)))):=inferInstanceAs (Bd ((p.1+v.1,p.2.1,p.2.2.1+v.2,p.2.2.2.1,p.2.2.2.2):Pt) _)
instance akH {v:Rat×Rat} [h:Bd v j]:Bd (bkV v) (mx j j):=inferInstanceAs (Bd ((-v.1,-v.2):Rat×Rat) _)
end
instance ajg {p:Pt} {j:Nat} [h:Bd p j]:Bd (rdP p) (mx j (mx j (mx j (mx j (mx 1 j))))):=inferInstanceAs (Bd ((p.1,p.2.1,p.2.2.1,p.2.2.2.1,bif decide (p.2.1=0)&&decide (p.2.2.2.1=0)then 0 else p.2.2.2.2):Pt) _)
instance acW {x y:Rt} {j k:Nat} [h:Bd x j] [h':Bd y k]:Bd (mkP x y) (mx (mx j (mx j (mx k (mx k (mx k j))))) (mx (mx j (mx j (mx k (mx k (mx k j))))) (mx (mx j (mx j (mx k (mx k (mx k j))))) (mx (mx j (mx j (mx k (mx k (mx k j))))) (mx 1 (mx j (mx j (mx k (mx k (mx k j)))))))))):=inferInstanceAs (Bd (rdP (x.1,x.2.1,y.1,y.2.1,bif decide (x.2.1=0)then y.2.2 else x.2.2)) _)
theorem fq{j k n:Nat}(h1:j≤n)(h2:k≤n):mx j k≤n:=by
 unfold mx
 cases decide (j≤k)
 ·exact h1
 ·exact h2
section
variable {p:Pt} {v:Rat×Rat} {j k:Nat}
instance aiR [h:Bd p j] [h':Bd v k]:Bd (sqA p v) (20*(j+k+1)):=by
 have a1:Bd (p.1-v.1) _:=inferInstance
 have a2:Bd (p.2.2.1-v.2) _:=inferInstance
 have a3:Bd (p.2.1*p.2.1+p.2.2.2.1*p.2.2.2.1) _:=inferInstance
 have i:Bd ((p.1-v.1)*(p.1-v.1)+(p.2.2.1-v.2)*(p.2.2.1-v.2)+(p.2.1*p.2.1+p.2.2.2.1*p.2.2.2.1)*p.2.2.2.2) _:=inferInstance
 exact i.mono (by omega)
instance ajU [h:Bd p j] [h':Bd v k]:Bd (sqB p v) (20*(j+k+1)):=by
 have a1:Bd (p.1-v.1) _:=inferInstance
 have a2:Bd (p.2.2.1-v.2) _:=inferInstance
 have i:Bd ((p.1-v.1)*p.2.1+(p.2.2.1-v.2)*p.2.2.2.1+((p.1-v.1)*p.2.1+(p.2.2.1-v.2)*p.2.2.2.1)) _:=inferInstance
 exact i.mono (by omega)
instance ajz [h:Bd p j] [h':Bd v k]:Bd (sqP p v) (20*(j+k+1)):=by
 have i:Bd (coR (sqA p v) (sqB p v) p.2.2.2.2) _:=inferInstance
 exact i.mono (fq (by omega) (fq (by omega) (by omega)))
end
namespace RE
def pX(p:Pt):RE:=v2 p.1 p.2.1 p.2.2.2.2
def pY(p:Pt):RE:=v2 p.2.2.1 p.2.2.2.1 p.2.2.2.2
def pR(p:Pt):RE×RE:=(pX p,pY p)
theorem sZ(p:Pt):vR (xP p)=pX p:=vR_co _ _ _
theorem Tg(p:Pt):vR (yP p)=pY p:=vR_co _ _ _
theorem ln{p:Pt}[h:Rpd p]:0≤(xP p).2.2:=(ajo (p:=p)).nn
theorem H7{p:Pt}[h:Rpd p]:0≤(yP p).2.2:=(ajw (p:=p)).nn
theorem iZ{p q:Pt}[Rpd p][Rpd q]:aV p q=lxc (pR p) (pR q):=by
 unfold aV lxc
 rw[cmpT_re ln ln,cmpT_re H7 H7,sZ,sZ,Tg,Tg]
 rfl
theorem acn(x y s t c u w:RE):(x+s*c-u)*(x+s*c-u)+(y+t*c-w)*(y+t*c-w)=(x-u)*(x-u)+(y-w)*(y-w)+(s*s+t*t)*(c*c)+((x-u)*s+(y-w)*t+((x-u)*s+(y-w)*t))*c:=by grind
theorem GH{p:Pt}{v:Rat×Rat}[h:Rpd p]:vR (sqP p v)=(pX p-of v.1)*(pX p-of v.1)+(pY p-of v.2)*(pY p-of v.2):=by
 unfold sqP pX pY
 rw[vR_co]
 unfold v2
 rw[acn,dw h.nn]
 unfold sqA sqB
 simp only[of_add,of_sub,aH]
theorem agR(v:Rat×Rat):pX (atP v)=of v.1:=dP _ _
theorem agL(v:Rat×Rat):pY (atP v)=of v.2:=dP _ _
end RE
end
theorem kV(a b:Rat):(aC a b !=0)=!decide (a=b):=by
 unfold bne
 rw[aq]
def Zi:List En:=[⟨99,iq,fe⟩,⟨108,gU,eP⟩,⟨107,iW,fy⟩,⟨106,ir,fh⟩,⟨41,fX,dU⟩,⟨73,lQ,ip⟩,enT Dy]
def Zl(_k:KT):Option (List RV):=og (decide (aG (0:Int))) (some [RV.d tR (hid (am ((0:Int):Rat)))])
def agn:Cn 227 []:=cn<|lf True [.d tR (am 0)] fun _=>by
 refine aA Zi (Zl) ⟨0,?_⟩
 unfold Zl
 rw[dT (show aG 0 by decide)]
 simp only[bL]
 rfl
def Iw:List En:=enL agn::Zi
def WG(v:BV)(_k:KT):Option (List RV):=some [RV.d tP (v.1,(hid (am 0),(v.2,(hid (am 0),hid (am 0)))))]
def Jq:Cn 115 [tV]:=cn fun(v:BV)=>lf (ok (Rat×Rat) 100000 v) [.d tP (enc (atP (dec v)))] fun h=>by
 refine aA Iw (WG v) ⟨0,?_⟩
 have hv:=h
 obtain⟨v,rfl,bv⟩:=aF hv
 unfold WG
 simp only[aU]
 try rfl
def Wb(p:BP)(_k:KT):Option (List RV):=og (o1 p.2.1) (match(aC (ah p.2.1) 0)==0 with|true=>(og (o1 p.2.2.2.1) (match(aC (ah p.2.2.2.1) 0)==0 with|true=>some [RV.d tP (p.1,(p.2.1,(p.2.2.1,(p.2.2.2.1,hid (am 0)))))]|false=>some [RV.d tP p]))|false=>some [RV.d tP p])
def af0:Cn 306 [tP]:=cn fun(p:BP)=>lf (ok Pt 21000 p) [.d tP (enc (rdP (dec p)))] fun h=>by
 refine aA Iw (Wb p) ⟨0,?_⟩
 have hp:=h
 obtain⟨p,rfl,bp⟩:=aF hp
 unfold Wb
 simp only[aU,Nat.reduceLeDiff,aq]
 unfold rdP
 by_cases h1:p.2.1=0
 ·by_cases h2:p.2.2.2.1=0
  ·rw[ak3 h1,ak3 h2];rfl
  ·rw[ak3 h1,ak5 h2];rfl
 ·rw[ak5 h1];rfl
def Zf(a b c:BR)(_k:KT):Option (List RV):=og (o1 b) (match(aC (ah b) 0)==0 with|true=>some [RV.d tO (a,(b,hid (am 0)))]|false=>some [RV.d tO (a,(b,c))])
def aim:Cn 211 [tR,tR,tR]:=cn fun(a b c:BR)=>lf (okR a∧okR b∧okR c) [.d tO (enc (coR (ah a) (ah b) (ah c)))] fun h=>by
 refine aA Iw (Zf a b c) ⟨0,?_⟩
 obtain⟨ha,hb,hc⟩:=h
 obtain⟨a,rfl,ba⟩:=fk ha
 obtain⟨b,rfl,bb⟩:=fk hb
 obtain⟨c,rfl,bc⟩:=fk hc
 unfold Zf
 simp only[aU,Nat.reduceLeDiff,aq]
 unfold coR
 by_cases e:b=0
 ·subst e;rw[ak3 rfl];rfl
 ·rw[ak5 e];rfl
def DH:List En:=enL Jq::enL af0::enL aim::Iw
def Wj(x y:BO3)(_k:KT):Option (List RV):=og (o1 x.2.1) (match(aC (ah x.2.1) 0)==0 with|true=>(og (decide (ok Pt 21000 (x.1,(x.2.1,y)))) (some [RV.d tP (hid (enc (rdP (dec (x.1,(x.2.1,y)))))),RV.d aon 0]))|false=>(og (o1 y.2.1) (match(aC (ah y.2.1) 0) !=0 with|true=>(og (o2 x.2.2 y.2.2) (match(aC (ah x.2.2) (ah y.2.2)) !=0 with|true=>some [RV.d tP (((false,[]),(false,[])),(((false,[]),(false,[])),(((false,[]),(false,[])),(((false,[]),(false,[])),((false,[]),(false,[])))))),RV.d aon 1]|false=>(og (decide (ok Pt 21000 (x.1,(x.2.1,(y.1,(y.2.1,x.2.2)))))) (some [RV.d tP (hid (enc (rdP (dec (x.1,(x.2.1,(y.1,(y.2.1,x.2.2)))))))),RV.d aon 0]))))|false=>(og (decide (ok Pt 21000 (x.1,(x.2.1,(y.1,(y.2.1,x.2.2)))))) (some [RV.d tP (hid (enc (rdP (dec (x.1,(x.2.1,(y.1,(y.2.1,x.2.2)))))))),RV.d aon 0])))))
def Xj:Cn 220 [tO,tO]:=cn fun(x y:BO3)=>lf (okT 15000 x∧okT 15000 y∧vD (dec x) (dec y)) [.d tP (enc (mkP (dec x) (dec y))),.d aon 0] fun h=>by
 refine aA DH (Wj x y) ⟨0,?_⟩
 obtain⟨hx,hy,hy_2⟩:=h
 obtain⟨x,rfl,bx,rx⟩:=gk hx
 obtain⟨y,rfl,b_y,ry⟩:=gk hy
 have i1:decide (ok Pt 21000 (enc ((x.1,x.2.1,y):Pt)))=true:=okd (by decide) (by decide)
 have i2:decide (ok Pt 21000 (enc ((x.1,x.2.1,y.1,y.2.1,x.2.2):Pt)))=true:=okd (by decide) (by decide)
 have j1:(dec ((am x.1,am x.2.1,enc y):BP):Pt)=(x.1,x.2.1,y):=az ((x.1,x.2.1,y):Pt)
 have j2:(dec ((am x.1,am x.2.1,am y.1,am y.2.1,am x.2.2):BP):Pt)=(x.1,x.2.1,y.1,y.2.1,x.2.2):=az ((x.1,x.2.1,y.1,y.2.1,x.2.2):Pt)
 have i1:decide (ok Pt 21000 ((am x.1,am x.2.1,enc y):BP))=true:=i1
 have i2:decide (ok Pt 21000 ((am x.1,am x.2.1,am y.1,am y.2.1,am x.2.2):BP))=true:=i2
 have hm:=hy_2
 rw[az,az]at hm
 unfold Wj
 simp only[aU,Nat.reduceLeDiff,aq,kV,i1,i2,j1,j2]
 unfold mkP
 by_cases e1:x.2.1=0
 ·rw[ak3 e1];rfl
 ·rw[ak5 e1]
  by_cases e2:y.2.1=0
  ·rw[ak3 e2];rfl
  ·rw[ak5 e2,ak3 ((hm.resolve_left e1).resolve_left e2)];rfl
def aiD(p:BP)(_k:KT):Option (List RV):=og (decide (okR p.1∧okR p.2.1∧okR p.2.2.2.2)) (some [RV.d tO (hid (enc (coR (ah p.1) (ah p.2.1) (ah p.2.2.2.2))))])
def afT:Cn 282 [tP]:=cn fun(p:BP)=>lf (okP 4000 p) [.d tO (enc (xP (dec p)))] fun h=>by
 refine aA DH (aiD p) ⟨0,?_⟩
 have hp:=h
 obtain⟨p,rfl,bp,rp⟩:=bS hp
 unfold aiD
 simp only[aU,Nat.reduceLeDiff]
 try rfl
def aei(p:BP)(_k:KT):Option (List RV):=og (decide (okR p.2.2.1∧okR p.2.2.2.1∧okR p.2.2.2.2)) (some [RV.d tO (hid (enc (coR (ah p.2.2.1) (ah p.2.2.2.1) (ah p.2.2.2.2))))])
def aed:Cn 283 [tP]:=cn fun(p:BP)=>lf (okP 4000 p) [.d tO (enc (yP (dec p)))] fun h=>by
 refine aA DH (aei p) ⟨0,?_⟩
 have hp:=h
 obtain⟨p,rfl,bp,rp⟩:=bS hp
 unfold aei
 simp only[aU,Nat.reduceLeDiff]
 try rfl
def XC(p:BP)(v:BV)(_k:KT):Option (List RV):=let y1:=hMu (hSu p.1 v.1) (hSu p.1 v.1);let y2:=hMu (hSu p.2.2.1 v.2) (hSu p.2.2.1 v.2);let y3:=hMu p.2.2.2.1 p.2.2.2.1;let y4:=hAd (hMu p.2.1 p.2.1) y3;let y5:=hMu (hSu p.1 v.1) p.2.1;let y6:=hMu (hSu p.2.2.1 v.2) p.2.2.2.1;let y7:=hAd (hAd y1 y2) (hMu y4 p.2.2.2.2);let y8:=hAd (hAd y5 y6) (hAd y5 y6);let y9:Option (List RV):=match decide (okR y5∧okR y6)with|true=>(og (o2 (hAd y5 y6) (hAd y5 y6)) (og (decide (okR y7∧okR y8∧okR p.2.2.2.2)) (some [RV.d tO (hid (enc (coR (ah y7) (ah y8) (ah p.2.2.2.2))))])))|false=>none;let y10:Option (List RV):=match decide (okR (hSu p.2.2.1 v.2)∧okR p.2.2.2.1)with|true=>y9|false=>none;let y11:Option (List RV):=match decide (okR (hAd y1 y2)∧okR (hMu y4 p.2.2.2.2))with|true=>ct (og (o2 (hSu p.1 v.1) p.2.1) (ct (og (o2 (hSu p.2.2.1 v.2) p.2.2.2.1) (dup (.b .l .l) y9)) y10)) (og (o2 (hSu p.1 v.1) p.2.1) y10)|false=>none;let y12:Option (List RV):=match decide (okR y4∧okR p.2.2.2.2)with|true=>y11|false=>none;let y13:Option (List RV):=match decide (okR (hMu p.2.1 p.2.1)∧okR y3)with|true=>y12|false=>none;let y14:Option (List RV):=match decide (okR p.2.2.2.1∧okR p.2.2.2.1)with|true=>y13|false=>none;let y15:Option (List RV):=match decide (okR p.2.1∧okR p.2.1)with|true=>y14|false=>none;let y16:Option (List RV):=match decide (okR y1∧okR y2)with|true=>y15|false=>none;let y17:Option (List RV):=match decide (okR (hSu p.2.2.1 v.2)∧okR (hSu p.2.2.1 v.2))with|true=>y16|false=>none;og (o2 p.1 v.1) (og (o2 p.2.2.1 v.2) (ct (og (o2 (hSu p.1 v.1) (hSu p.1 v.1)) (ct (og (o2 (hSu p.2.2.1 v.2) (hSu p.2.2.1 v.2)) (ct (og (o2 y1 y2) (ct (og (o2 p.2.1 p.2.1) (ct (og (o2 p.2.2.2.1 p.2.2.2.1) (ct (og (o2 (hMu p.2.1 p.2.1) y3) (ct (og (o2 y4 p.2.2.2.2) (dup (.b .l .l) y11)) y12)) y13)) y14)) y15)) y16)) y17)) (og (o2 (hSu p.1 v.1) (hSu p.1 v.1)) y17)))
def ZG:Cn 101 [tP,tV]:=cn fun(p:BP) (v:BV)=>lf (okP 3500 p∧ok (Rat×Rat) 300 v) [.d tO (enc (sqP (dec p) (dec v)))] fun h=>by
 refine aA DH (XC p v) ⟨0,?_⟩
 obtain⟨hp,hv⟩:=h
 obtain⟨p,rfl,bp,rp⟩:=bS hp
 obtain⟨v,rfl,bv⟩:=aF hv
 unfold XC
 simp only[aU,Nat.reduceAdd,Nat.reduceLeDiff]
 rfl
def ae1:List En:=enL afT::enL aed::DH
def XF(p q:BP)(_k:KT):Option (List RV):=og (decide (okP 4000 p)) (og (decide (okP 4000 q)) (og (decide (okT 15000 (hid (enc (xP (dec p))))∧okT 15000 (hid (enc (xP (dec q)))))) (match(a8 (dec (hid (enc (xP (dec p))))) (dec (hid (enc (xP (dec q)))))) !=0 with|true=>some [RV.d aon (a8 (dec (hid (enc (xP (dec p))))) (dec (hid (enc (xP (dec q))))))]|false=>(og (decide (okP 4000 p)) (og (decide (okP 4000 q)) (og (decide (okT 15000 (hid (enc (yP (dec p))))∧okT 15000 (hid (enc (yP (dec q)))))) (some [RV.d aon (a8 (dec (hid (enc (yP (dec p))))) (dec (hid (enc (yP (dec q))))))])))))))
def KO:Cn 189 [tP,tP]:=cn fun(p q:BP)=>lf (okP 4000 p∧okP 4000 q) [.d aon (aV (dec p) (dec q))] fun h=>by
 refine aA ae1 (XF p q) ⟨0,?_⟩
 obtain⟨hp,hq⟩:=h
 obtain⟨p,rfl,bp,rp⟩:=bS hp
 obtain⟨q,rfl,bq,rq⟩:=bS hq
 unfold XF
 simp only[aU,Nat.reduceLeDiff,aM,aN]
 unfold aV bne
 cases a8 (xP p) (xP q)==0<;>rfl
section
def qy(l:Ln)(p:Pt):Rat:=l.1*p.1+l.2.1*p.2.2.1-l.2.2
def qz(l:Ln)(p:Pt):Rat:=l.1*p.2.1+l.2.1*p.2.2.2.1
def sR(l:Ln)(p:Pt):Int:=gG (qy l p) (qz l p) p.2.2.2.2
def ctr(c:Ln):Rat×Rat:=(c.1,c.2.1)
def ow(c:Ln)(p:Pt):Int:= -gG (sqA p (ctr c)-c.2.2) (sqB p (ctr c)) p.2.2.2.2
def mh(l:Ln)(v:Rat×Rat):Rat:=(l.1*v.1+l.2.1*v.2-l.2.2)/(l.1*l.1+l.2.1*l.2.1)
def d7(l:Ln)(v:Rat×Rat):Rat×Rat:=(v.1-mh l v*l.1,v.2-mh l v*l.2.1)
section
variable {l:Ln} {p:Pt} {v:Rat×Rat} {i j k:Nat}
instance ajE [h:Bd l i]:Bd (ctr l) (mx i i):=inferInstanceAs (Bd ((l.1,l.2.1):Rat×Rat) _)
instance aiO [h:Bd l i] [h':Bd p j]:Bd (qy l p) ((i+j)+(i+j)+1+i+1):=inferInstanceAs (Bd (l.1*p.1+l.2.1*p.2.2.1-l.2.2) _)
instance aiK [h:Bd l i] [h':Bd p j]:Bd (qz l p) ((i+j)+(i+j)+1):=inferInstanceAs (Bd (l.1*p.2.1+l.2.1*p.2.2.2.1) _)
instance aiI [h:Bd l i] [h':Bd v k]:Bd (mh l v) (((i+k)+(i+k)+1+i+1)+((i+i)+(i+i)+1)):=inferInstanceAs (Bd ((l.1*v.1+l.2.1*v.2-l.2.2)/(l.1*l.1+l.2.1*l.2.1)) _)
instance air [h:Bd l i] [h':Bd v k]:Bd (d7 l v) (8*i+3*k+4):=by
 have i1:Bd (v.1-mh l v*l.1) _:=inferInstance
 have i2:Bd (v.2-mh l v*l.2.1) _:=inferInstance
 have i3:Bd ((v.1-mh l v*l.1,v.2-mh l v*l.2.1):Rat×Rat) _:=inferInstance
 exact i3.mono (fq (by omega) (by omega))
end
theorem jY{a b:Rat}(h:a≠0∨b≠0):a*a+b*b≠0:=by
 have ha:0≤a*a:=by
  rcases(by grind:0≤a∨0≤ -a)with h|h
  ·exact alp h h
  ·have:=alp h h;grind
 have hb:0≤b*b:=by
  rcases(by grind:0≤b∨0≤ -b)with h|h
  ·exact alp h h
  ·have:=alp h h;grind
 intro e
 have e1:a*a=0:=by grind
 have e2:b*b=0:=by grind
 rcases h with h|h
 ·exact h (by rcases ano.1 e1 with h|h<;>exact h)
 ·exact h (by rcases ano.1 e2 with h|h<;>exact h)
namespace RE
theorem aat(a b x s y t c r:RE):a*(x+s*r)+b*(y+t*r)+ -c=a*x+b*y-c+(a*s+b*t)*r:=by grind
theorem aeP(a b q r:RE):a+b*r+ -q=a-q+b*r:=by grind
theorem QO(a b:RE):a+ -b=a-b:=rfl
theorem Ba(l:Ln){p:Pt}[h:Rpd p]:sR l p=sg (of l.1*pX p+of l.2.1*pY p+ -of l.2.2):=by
 unfold sR pX pY
 rw[sgn2_re h.nn]
 unfold v2
 rw[aat]
 unfold qy qz
 simp only[of_add,of_sub,aH]
theorem BD(c:Ln){p:Pt}[h:Rpd p]:ow c p= -sg ((pX p-of c.1)*(pX p-of c.1)+(pY p-of c.2.1)*(pY p-of c.2.1)+ -of c.2.2):=by
 unfold ow
 have e:=GH (p:=p) (v:=ctr c)
 unfold sqP at e
 rw[vR_co]at e
 rw[sgn2_re h.nn]
 unfold v2 at e ⊢
 rw[of_sub,←aeP,e]
 rfl
theorem sidL_ok(l:Ln){p:Pt}[Rpd p](h:(xV l p).2=true):(xV l p).1=sR l p:=by
 rw[Tt h,Ba]
 try rfl
theorem insC_ok(c:Ln){p:Pt}[Rpd p](h:(uK c p).2=true): -(uK c p).1=ow c p:=by
 rw[Vi h,BD]
 simp only[QO]
 try rfl
end RE
end
def jH(r s:Rt):Rat:=bif decide (r.2.1=0)then s.2.2 else r.2.2
def rl(r s:Rt):Bool:=decide (r.2.1=0)||(decide (s.2.1=0)||decide (r.2.2=s.2.2))
def oe(r s:Rt):Rt:=mE (r.1*s.1+r.2.1*s.2.1*jH r s) (r.1*s.2.1+r.2.1*s.1) (jH r s)
def yJ(r s:Rt):Rt:=mE (r.1+s.1) (r.2.1+s.2.1) (jH r s)
def arT(r:Rt)(a:Rat):Rt:=(r.1+a,r.2.1,r.2.2)
theorem aZ(a b:Rat):(aC a b !=0)=!decide (a=b):=by
 unfold bne
 rw[aq]
instance akz {r s:Rt} {i j:Nat} [h:Bd r i] [h':Bd s j]:Bd (jH r s) (mx j i):=inferInstanceAs (Bd (bif decide (r.2.1=0)then s.2.2 else r.2.2) _)
instance aiM {a b c:Rat} {i j k:Nat} [ha:Bd a i] [hb:Bd b j] [hc:Bd c k]:Bd (mE a b c) (mx i (mx j k)):=by
 have h1:=Bn i (mx j k)
 have h2:=Bl i (mx j k)
 have h3:=Bn j k
 have h4:=Bl j k
 have h5:=nK ha.le
 have z:bdR (mx i (mx j k)) 0:=bJ ls.le (by omega)
 refine⟨?_⟩
 unfold mE
 cases decide (b=0)
 ·cases decide (c=0)
  ·exact⟨bJ ha.le (by omega),bJ hb.le (by omega),bJ hc.le (by omega)⟩
  ·exact⟨bJ ha.le (by omega),z,z⟩
 ·exact⟨bJ ha.le (by omega),z,z⟩
theorem Km(r:Rt):rl r r=true:=by
 unfold rl
 rw[ak3 (rfl:r.2.2=r.2.2)]
 simp
theorem G3{p:Pt}{v:Rat×Rat}(h:Rpd p):rl (oe (xP (trP p (bkV v))) (xP (trP p (bkV v)))) (oe (yP (trP p (bkV v))) (yP (trP p (bkV v))))=true∧yJ (oe (xP (trP p (bkV v))) (xP (trP p (bkV v)))) (oe (yP (trP p (bkV v))) (yP (trP p (bkV v))))=sqP p v:=by
 obtain⟨ax,bx,ay,b_,c⟩:=p
 have hr:=h.rd
 unfold EZ at hr
 simp only at hr
 unfold sqP sqA sqB xP yP trP bkV
 simp only
 rw[show ax+ -v.1=ax-v.1 by grind,show ay+ -v.2=ay-v.2 by grind]
 generalize ax-v.1=x
 generalize ay-v.2=y
 rcases hr with⟨rfl,rfl,rfl⟩|⟨h1,h2,h3⟩
 ·have e0:∀a:Rat,coR a 0 0=(a,0,0):=fun a=>rfl
  have e1:∀a:Rat,oe (a,0,0) (a,0,0)=(a*a,0,0):=fun a=>by
   unfold oe jH mE
   simp
   grind
  rw[e0,e0,e1,e1]
  refine⟨rfl,?_⟩
  rw[show x*0+y*0+(x*0+y*0)=(0:Rat) by grind]
  unfold yJ jH mE coR
  simp
  grind
 ·have hc:c≠0:=by grind
  have dc:decide (c=0)=false:=ak5 hc
  have sq0:∀a:Rat,oe (coR a 0 c) (coR a 0 c)=(a*a,0,0):=fun a=>by
   unfold coR
   rw[ak3 rfl]
   unfold oe jH mE
   simp
   grind
  have sq1:∀a b:Rat,b≠0→oe (coR a b c) (coR a b c)=coR (a*a+b*b*c) (a*b+b*a) c:=fun a b hb=>by
   have e:coR a b c=(a,b,c):=by unfold coR;rw[ak5 hb];rfl
   rw[e]
   unfold oe jH mE coR
   simp only[ak5 hb,cond_false,dc]
  have cR:∀a b:Rat,mE a b c=coR a b c:=fun a b=>by unfold mE coR;rw[dc];rfl
  have ad:∀a b d e:Rat,rl (coR a b c) (coR d e c)=true∧(b≠0∨e≠0→yJ (coR a b c) (coR d e c)=coR (a+d) (b+e) c)∧(b=0→e=0→yJ (coR a b c) (coR d e c)=(a+d,0,0)):=fun a b d e=>by
   by_cases hb:b=0
   ·subst hb
    by_cases he:e=0
    ·subst he
     refine⟨rfl,fun h=>by simp at h,fun _ _=>?_⟩
     unfold coR yJ jH mE
     simp
    ·refine⟨rfl,fun _=>?_,fun _ h=>absurd h he⟩
     have e1:coR a 0 c=(a,0,0):=rfl
     have e2:coR d e c=(d,e,c):=by unfold coR;rw[ak5 he];rfl
     rw[e1,e2]
     show mE (a+d) (0+e) c=_
     rw[cR]
   ·have e1:coR a b c=(a,b,c):=by unfold coR;rw[ak5 hb];rfl
    by_cases he:e=0
    ·subst he
     have e2:coR d 0 c=(d,0,0):=rfl
     refine⟨by rw[e1,e2];simp[rl],fun _=>?_,fun h=>absurd h hb⟩
     rw[e1,e2]
     unfold yJ jH
     simp only[ak5 hb,cond_false]
     rw[cR]
    ·have e2:coR d e c=(d,e,c):=by unfold coR;rw[ak5 he];rfl
     refine⟨by rw[e1,e2];simp[rl],fun _=>?_,fun h=>absurd h hb⟩
     rw[e1,e2]
     unfold yJ jH
     simp only[ak5 hb,cond_false]
     rw[cR]
  have c0:∀a:Rat,((a,0,0):Rt)=coR a 0 c:=fun a=>rfl
  by_cases hx:bx=0
  ·subst hx
   have hy:b_≠0:=fun e=>h1 ⟨rfl,e⟩
   rw[sq0,sq1 _ _ hy,c0]
   obtain⟨g1,g2,g3⟩:=ad (x*x) 0 (y*y+b_*b_*c) (y*b_+b_*y)
   refine⟨g1,?_⟩
   by_cases he:y*b_+b_*y=0
   ·rw[g3 rfl he,show x*0+y*b_+(x*0+y*b_)=0 by grind]
    show _=coR _ 0 c
    rw[←c0]
    congr 1
    grind
   ·rw[g2 (.inr he)]
    congr 1<;>grind
  ·by_cases hy:b_=0
   ·subst hy
    rw[sq0,sq1 _ _ hx,c0]
    obtain⟨g1,g2,g3⟩:=ad (x*x+bx*bx*c) (x*bx+bx*x) (y*y) 0
    refine⟨g1,?_⟩
    by_cases he:x*bx+bx*x=0
    ·rw[g3 he rfl,show x*bx+y*0+(x*bx+y*0)=0 by grind]
     show _=coR _ 0 c
     rw[←c0]
     congr 1
     grind
    ·rw[g2 (.inl he)]
     congr 1<;>grind
   ·rw[sq1 _ _ hx,sq1 _ _ hy]
    obtain⟨g1,g2,g3⟩:=ad (x*x+bx*bx*c) (x*bx+bx*x) (y*y+b_*b_*c) (y*b_+b_*y)
    refine⟨g1,?_⟩
    by_cases h0:x*bx+bx*x=0∧y*b_+b_*y=0
    ·rw[g3 h0.1 h0.2,show x*bx+y*b_+(x*bx+y*b_)=0 by grind]
     show _=coR _ 0 c
     rw[←c0]
     congr 1
     grind
    ·rw[g2 (by by_cases e:x*bx+bx*x=0;exact .inr (fun e'=>h0 ⟨e,e'⟩);exact .inl e)]
     congr 1<;>grind
theorem Rpd.com{p:Pt}{v:Rat×Rat}(h:Rpd p):rl (oe (xP (trP p (bkV v))) (xP (trP p (bkV v)))) (oe (yP (trP p (bkV v))) (yP (trP p (bkV v))))=true:=(G3 h).1
instance aiJ {r s:Rt} {i j:Nat} [h:Bd r i] [h':Bd s j]:Bd (oe r s) (2*(i+j)+(mx j i)+1):=by
 have m:Bd (jH r s) (mx j i):=inferInstance
 have a1:Bd (r.1*s.1+r.2.1*s.2.1*jH r s) _:=inferInstance
 have a2:Bd (r.1*s.2.1+r.2.1*s.1) _:=inferInstance
 have i1:Bd (mE (r.1*s.1+r.2.1*s.2.1*jH r s) (r.1*s.2.1+r.2.1*s.1) (jH r s)) _:=inferInstance
 exact i1.mono (fq (by omega) (fq (by omega) (by omega)))
instance aiP {r s:Rt} {i j:Nat} [h:Bd r i] [h':Bd s j]:Bd (yJ r s) (i+j+1):=by
 have i1:Bd (mE (r.1+s.1) (r.2.1+s.2.1) (jH r s)) _:=inferInstance
 exact i1.mono (fq (by omega) (fq (by omega) (fq (by omega) (by omega))))
instance akB {r:Rt} {a:Rat} {i j:Nat} [h:Bd r i] [h':Bd a j]:Bd (arT r a) (i+j+1):=by
 have i1:Bd ((r.1+a,r.2.1,r.2.2):Rt) _:=inferInstance
 exact i1.mono (fq (by omega) (fq (by omega) (by omega)))
def zj:List En:=[enT pg,enL oG,enL re,enL rK,enT uk,enL uz,enL Nq,enL Qf,enL LD,enT N8,enT R4]
def RZ(r s:BO3)(_k:KT):Option (List RV):=og (o1 r.2.1) (match(aC (ah r.2.1) 0)==0 with|true=>some [RV.d tR s.2.2,RV.d .bool true]|false=>(og (o1 s.2.1) (match(aC (ah s.2.1) 0)==0 with|true=>some [RV.d tR r.2.2,RV.d .bool true]|false=>(og (o2 r.2.2 s.2.2) (some [RV.d tR r.2.2,RV.d .bool ((aC (ah r.2.2) (ah s.2.2))==0)])))))
def abE:Cn 312 [tO,tO]:=cn fun(r s:BO3)=>lf (ok Rt 100000 r∧ok Rt 100000 s) [.d tR (am (jH (dec r) (dec s))),.d .bool (rl (dec r) (dec s))] fun h=>by
 refine aA zj (RZ r s) ⟨0,?_⟩
 obtain⟨hr,hs⟩:=h
 obtain⟨r,rfl,br⟩:=aF hr
 obtain⟨s,rfl,bs⟩:=aF hs
 unfold RZ
 simp only[aU,Nat.reduceLeDiff,aq]
 unfold jH rl
 cases decide (r.2.1=0)<;>cases decide (s.2.1=0)<;>rfl
def Qh(r:BO3)(a:BR)(_k:KT):Option (List RV):=og (o2 r.1 a) (some [RV.d tO (hAd r.1 a,r.2)])
def Ly:Cn 349 [tO,tR]:=cn fun(r:BO3) (a:BR)=>lf (ok Rt 100000 r∧ok Rat 100000 a) [.d tO (enc (arT (dec r) (ah a)))] fun h=>by
 refine aA zj (Qh r a) ⟨0,?_⟩
 obtain⟨hr,ha⟩:=h
 obtain⟨r,rfl,br⟩:=aF hr
 obtain⟨a,rfl,ba⟩:=aF ha
 unfold Qh
 simp only[aU,Nat.reduceLeDiff]
 rfl
def Rn(_k:KT):Option (List RV):=og (decide (aG (0:Int))) (some [RV.d tR (hid (am ((0:Int):Rat)))])
def acm:Cn 239 []:=cn<|lf True [.d tR (am 0)] fun _=>by
 refine aA zj (Rn) ⟨0,?_⟩
 unfold Rn
 rw[dT (show aG 0 by decide)]
 simp only[bL]
 rfl
def Qn(p:BP)(v:BV)(_k:KT):Option (List RV):=og (o2 p.1 v.1) (og (o2 p.2.2.1 v.2) (some [RV.d tP (hAd p.1 v.1,(p.2.1,(hAd p.2.2.1 v.2,p.2.2.2)))]))
def acG:Cn 52 [tP,tV]:=cn fun(p:BP) (v:BV)=>lf (ok Pt 21000 p∧ok (Rat×Rat) 1000 v) [.d tP (enc (trP (dec p) (dec v)))] fun h=>by
 refine aA zj (Qn p v) ⟨0,?_⟩
 obtain⟨hp,hv⟩:=h
 obtain⟨p,rfl,bp⟩:=aF hp
 obtain⟨v,rfl,bv⟩:=aF hv
 unfold Qn
 simp only[aU,Nat.reduceLeDiff]
 rfl
def LO(v:BV)(_k:KT):Option (List RV):=og (o1 v.1) (og (o1 v.2) (some [RV.d tV (hNe v.1,hNe v.2)]))
def ZV:Cn 235 [tV]:=cn fun(v:BV)=>lf (ok (Rat×Rat) 21000 v) [.d tV (enc (bkV (dec v)))] fun h=>by
 refine aA zj (LO v) ⟨0,?_⟩
 have hv:=h
 obtain⟨v,rfl,bv⟩:=aF hv
 unfold LO
 simp only[aU,Nat.reduceLeDiff]
 rfl
def M6:List En:=enL abE::enL Ly::enL acm::enL acG::enL ZV::zj
def LW(r s:BO3)(_k:KT):Option (List RV):=og (decide (ok Rt 100000 r∧ok Rt 100000 s)) (match !(rl (dec r) (dec s))with|true=>some [RV.d tO (((false,[]),(false,[])),(((false,[]),(false,[])),((false,[]),(false,[])))),RV.d aon 1]|false=>(og (o2 r.1 s.1) (og (o2 r.2.1 s.2.1) (og (o2 (hMu r.2.1 s.2.1) (hid (am (jH (dec r) (dec s))))) (og (o2 (hMu r.1 s.1) (hMu (hMu r.2.1 s.2.1) (hid (am (jH (dec r) (dec s)))))) (og (o2 r.1 s.2.1) (og (o2 r.2.1 s.1) (og (o2 (hMu r.1 s.2.1) (hMu r.2.1 s.1)) (og (decide (okR (hAd (hMu r.1 s.1) (hMu (hMu r.2.1 s.2.1) (hid (am (jH (dec r) (dec s))))))∧okR (hAd (hMu r.1 s.2.1) (hMu r.2.1 s.1))∧okR (hid (am (jH (dec r) (dec s)))))) (some [RV.d tO (hid (enc (mE (ah (hAd (hMu r.1 s.1) (hMu (hMu r.2.1 s.2.1) (hid (am (jH (dec r) (dec s))))))) (ah (hAd (hMu r.1 s.2.1) (hMu r.2.1 s.1))) (ah (hid (am (jH (dec r) (dec s)))))))),RV.d aon 0]))))))))))
def aa7:Cn 237 [tO,tO]:=cn fun(r s:BO3)=>lf (ok Rt 50000 r∧ok Rt 50000 s∧rl (dec r) (dec s)=true) [.d tO (enc (oe (dec r) (dec s))),.d aon 0] fun h=>by
 refine aA M6 (LW r s) ⟨0,?_⟩
 obtain⟨hr,hs,htrue⟩:=h
 obtain⟨r,rfl,br⟩:=aF hr
 obtain⟨s,rfl,bs⟩:=aF hs
 have hm:=htrue
 rw[az,az]at hm
 unfold LW
 simp only[aU,Nat.reduceAdd,Nat.reduceLeDiff,hm,Bool.not_true]
 rfl
def Nm(r s:BO3)(_k:KT):Option (List RV):=og (decide (ok Rt 100000 r∧ok Rt 100000 s)) (match !(rl (dec r) (dec s))with|true=>some [RV.d tO (((false,[]),(false,[])),(((false,[]),(false,[])),((false,[]),(false,[])))),RV.d aon 1]|false=>(og (o2 r.1 s.1) (og (o2 r.2.1 s.2.1) (og (decide (okR (hAd r.1 s.1)∧okR (hAd r.2.1 s.2.1)∧okR (hid (am (jH (dec r) (dec s)))))) (some [RV.d tO (hid (enc (mE (ah (hAd r.1 s.1)) (ah (hAd r.2.1 s.2.1)) (ah (hid (am (jH (dec r) (dec s)))))))),RV.d aon 0])))))
def acS:Cn 241 [tO,tO]:=cn fun(r s:BO3)=>lf (ok Rt 100000 r∧ok Rt 100000 s∧rl (dec r) (dec s)=true) [.d tO (enc (yJ (dec r) (dec s))),.d aon 0] fun h=>by
 refine aA M6 (Nm r s) ⟨0,?_⟩
 obtain⟨hr,hs,htrue⟩:=h
 obtain⟨r,rfl,br⟩:=aF hr
 obtain⟨s,rfl,bs⟩:=aF hs
 have hm:=htrue
 rw[az,az]at hm
 unfold Nm
 simp only[aU,Nat.reduceAdd,Nat.reduceLeDiff,hm,Bool.not_true]
 rfl
def Cw:List En:=enL aa7::enL acS::M6
def Pd(r:BO3)(_k:KT):Option (List RV):=og (decide (ok Rt 50000 r∧ok Rt 50000 r∧rl (dec r) (dec r)=true)) (some [RV.d tO (hid (enc (oe (dec r) (dec r))))])
def acq:Cn 123 [tO]:=cn fun(r:BO3)=>lf (ok Rt 50000 r) [.d tO (enc (oe (dec r) (dec r)))] fun h=>by
 refine aA Cw (Pd r) ⟨0,?_⟩
 have hr:=h
 obtain⟨r,rfl,br⟩:=aF hr
 unfold Pd
 simp only[aU,Nat.reduceLeDiff,Km]
def Q3(v:BV)(_k:KT):Option (List RV):=some [RV.d tP (v.1,(hid (am 0),(v.2,(hid (am 0),hid (am 0)))))]
def E5:Cn 127 [tV]:=cn fun(v:BV)=>lf (ok (Rat×Rat) 100000 v) [.d tP (enc (atP (dec v)))] fun h=>by
 refine aA Cw (Q3 v) ⟨0,?_⟩
 have hv:=h
 obtain⟨v,rfl,bv⟩:=aF hv
 unfold Q3
 simp only[aU]
 try rfl
def N9(a b c d e:BR)(_k:KT):Option (List RV):=og (o1 b) (match(aC (ah b) 0)==0 with|true=>(og (o1 d) (match(aC (ah d) 0)==0 with|true=>some [RV.d tP (a,(b,(c,(d,hid (am 0)))))]|false=>some [RV.d tP (a,(b,(c,(d,e))))]))|false=>some [RV.d tP (a,(b,(c,(d,e))))])
def aam:Cn 346 [tR,tR,tR,tR,tR]:=cn fun(a b c d e:BR)=>lf (okR a∧okR b∧okR c∧okR d∧okR e) [.d tP (enc (rdP (ah a,ah b,ah c,ah d,ah e)))] fun h=>by
 refine aA Cw (N9 a b c d e) ⟨0,?_⟩
 obtain⟨ha,hb,hc,hd,he⟩:=h
 obtain⟨a,rfl,ba⟩:=fk ha
 obtain⟨b,rfl,bb⟩:=fk hb
 obtain⟨c,rfl,bc⟩:=fk hc
 obtain⟨d,rfl,bd⟩:=fk hd
 obtain⟨e,rfl,be⟩:=fk he
 unfold N9
 simp only[aU,Nat.reduceLeDiff,aq]
 unfold rdP
 by_cases h1:b=0
 ·by_cases h2:d=0
  ·rw[ak3 h1,ak3 h2];rfl
  ·rw[ak3 h1,ak5 h2];rfl
 ·rw[ak5 h1];rfl
def LI(a b c:BR)(_k:KT):Option (List RV):=og (o1 b) (match(aC (ah b) 0)==0 with|true=>(og (o1 a) (some [RV.d tO (hid (enc ((ah a,0,0):Rt)))]))|false=>some [RV.d tO (a,(b,c))])
def aa5:Cn 260 [tR,tR,tR]:=cn fun(a b c:BR)=>lf (okR a∧okR b∧okR c) [.d tO (enc (coR (ah a) (ah b) (ah c)))] fun h=>by
 refine aA Cw (LI a b c) ⟨0,?_⟩
 obtain⟨ha,hb,hc⟩:=h
 obtain⟨a,rfl,ba⟩:=fk ha
 obtain⟨b,rfl,bb⟩:=fk hb
 obtain⟨c,rfl,bc⟩:=fk hc
 unfold LI
 simp only[aU,aE,Nat.reduceLeDiff,aq]
 unfold coR
 by_cases e:b=0
 ·subst e;rw[ak3 rfl];rfl
 ·rw[ak5 e];rfl
def G7:List En:=enL acq::enL E5::enL aam::enL aa5::Cw
def Pj(x y:BO3)(_k:KT):Option (List RV):=let y1:=aC (ah x.2.1) 0;let y2:Option (List RV):=match decide (okR x.2.1)with|true=>(match y1==0 with|true=>(og (decide (okR x.1∧okR x.2.1∧okR y.1∧okR y.2.1∧okR y.2.2)) (some [RV.d tP (hid (enc (rdP (ah x.1,ah x.2.1,ah y.1,ah y.2.1,ah y.2.2)))),RV.d aon 0]))|false=>(og (decide (okR x.1∧okR x.2.1∧okR y.1∧okR y.2.1∧okR x.2.2)) (some [RV.d tP (hid (enc (rdP (ah x.1,ah x.2.1,ah y.1,ah y.2.1,ah x.2.2)))),RV.d aon 0])))|false=>none;og (o1 x.2.1) (match y1 !=0 with|true=>(og (o1 y.2.1) (match(aC (ah y.2.1) 0) !=0 with|true=>(og (o2 x.2.2 y.2.2) (match(aC (ah x.2.2) (ah y.2.2)) !=0 with|true=>some [RV.d tP (((false,[]),(false,[])),(((false,[]),(false,[])),(((false,[]),(false,[])),(((false,[]),(false,[])),((false,[]),(false,[])))))),RV.d aon 1]|false=>y2))|false=>y2))|false=>y2)
def ZW:Cn 315 [tO,tO]:=cn fun(x y:BO3)=>lf (okT 15000 x∧okT 15000 y∧vD (dec x) (dec y)) [.d tP (enc (mkP (dec x) (dec y))),.d aon 0] fun h=>by
 refine aA G7 (Pj x y) ⟨0,?_⟩
 obtain⟨hx,hy,hy_2⟩:=h
 obtain⟨x,rfl,bx,rx⟩:=gk hx
 obtain⟨y,rfl,b_y,ry⟩:=gk hy
 have hm:=hy_2
 rw[az,az]at hm
 unfold Pj
 simp only[aU,Nat.reduceLeDiff,aq,aZ]
 unfold mkP
 by_cases e1:x.2.1=0
 ·rw[ak3 e1];rfl
 ·rw[ak5 e1]
  by_cases e2:y.2.1=0
  ·rw[ak3 e2];rfl
  ·rw[ak5 e2,ak3 ((hm.resolve_left e1).resolve_left e2)];rfl
def X8(p:BP)(_k:KT):Option (List RV):=og (decide (okR p.1∧okR p.2.1∧okR p.2.2.2.2)) (some [RV.d tO (hid (enc (coR (ah p.1) (ah p.2.1) (ah p.2.2.2.2))))])
def WM:Cn 151 [tP]:=cn fun(p:BP)=>lf (okP 4000 p) [.d tO (enc (xP (dec p)))] fun h=>by
 refine aA G7 (X8 p) ⟨0,?_⟩
 have hp:=h
 obtain⟨p,rfl,bp,rp⟩:=bS hp
 unfold X8
 simp only[aU,Nat.reduceLeDiff]
 try rfl
def XD(p:BP)(_k:KT):Option (List RV):=og (decide (okR p.2.2.1∧okR p.2.2.2.1∧okR p.2.2.2.2)) (some [RV.d tO (hid (enc (coR (ah p.2.2.1) (ah p.2.2.2.1) (ah p.2.2.2.2))))])
def Xx:Cn 152 [tP]:=cn fun(p:BP)=>lf (okP 4000 p) [.d tO (enc (yP (dec p)))] fun h=>by
 refine aA G7 (XD p) ⟨0,?_⟩
 have hp:=h
 obtain⟨p,rfl,bp,rp⟩:=bS hp
 unfold XD
 simp only[aU,Nat.reduceLeDiff]
 try rfl
def V4:List En:=enL WM::enL Xx::G7
def Qa(p q:BP)(_k:KT):Option (List RV):=og (decide (okP 4000 p)) (og (decide (okP 4000 q)) (og (decide (okT 15000 (hid (enc (xP (dec p))))∧okT 15000 (hid (enc (xP (dec q)))))) (match(a8 (dec (hid (enc (xP (dec p))))) (dec (hid (enc (xP (dec q)))))) !=0 with|true=>some [RV.d aon (a8 (dec (hid (enc (xP (dec p))))) (dec (hid (enc (xP (dec q))))))]|false=>(og (decide (okP 4000 p)) (og (decide (okP 4000 q)) (og (decide (okT 15000 (hid (enc (yP (dec p))))∧okT 15000 (hid (enc (yP (dec q)))))) (some [RV.d aon (a8 (dec (hid (enc (yP (dec p))))) (dec (hid (enc (yP (dec q))))))])))))))
def xD:Cn 60 [tP,tP]:=cn fun(p q:BP)=>lf (okP 4000 p∧okP 4000 q) [.d aon (aV (dec p) (dec q))] fun h=>by
 refine aA V4 (Qa p q) ⟨0,?_⟩
 obtain⟨hp,hq⟩:=h
 obtain⟨p,rfl,bp,rp⟩:=bS hp
 obtain⟨q,rfl,bq,rq⟩:=bS hq
 unfold Qa
 simp only[aU,Nat.reduceLeDiff,aM,aN]
 unfold aV bne
 cases a8 (xP p) (xP q)==0<;>rfl
def Wn:List En:=enL ZW::enT xD::V4
def KV(p q:BP)(_k:KT):Option (List RV):=og (decide (okP 4000 p∧okP 4000 q)) (some [RV.d .bool ((aV (dec p) (dec q))==0)])
def OB:Cn 126 [tP,tP]:=cn fun(p q:BP)=>lf (okP 4000 p∧okP 4000 q) [.d .bool (aV (dec p) (dec q)==0)] fun h=>by
 refine aA Wn (KV p q) ⟨0,?_⟩
 unfold KV
 rw[dT h]
def Le(p:BP)(v:BV)(_k:KT):Option (List RV):=let y1:=hid (enc (bkV (dec v)));let y2:=hid (enc (trP (dec p) (dec y1)));let y3:=hid (enc (xP (dec y2)));let y4:=hid (enc (yP (dec y2)));let y5:=hid (enc (oe (dec y3) (dec y3)));let y6:=hid (enc (oe (dec y4) (dec y4)));og (decide (ok (Rat×Rat) 21000 v)) (og (decide (ok Pt 21000 p∧ok (Rat×Rat) 1000 y1)) (og (decide (okP 4000 y2)) (og (decide (ok Rt 50000 y3)) (og (decide (okP 4000 y2)) (og (decide (ok Rt 50000 y4)) (og (decide (ok Rt 100000 y5∧ok Rt 100000 y6∧rl (dec y5) (dec y6)=true)) (some [RV.d tO (hid (enc (yJ (dec y5) (dec y6))))])))))))
def ZO:Cn 129 [tP,tV]:=cn fun(p:BP) (v:BV)=>lf (okP 3500 p∧ok (Rat×Rat) 300 v) [.d tO (enc (sqP (dec p) (dec v)))] fun h=>by
 refine aA Wn (Le p v) ⟨0,?_⟩
 obtain⟨hp,hv⟩:=h
 obtain⟨p,rfl,bp,rp⟩:=bS hp
 obtain⟨v,rfl,bv⟩:=aF hv
 obtain⟨e1,e2⟩:=G3 (v:=v) rp
 unfold Le
 simp only[aU,Nat.reduceAdd,Nat.reduceMul,Nat.reduceLeDiff,aN,e1]
 rw[e2]
end Go.Proofs.YtnkndpoojnflmaaGreat
end
