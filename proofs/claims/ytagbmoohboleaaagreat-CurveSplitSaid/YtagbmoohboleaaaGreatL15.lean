/- Curves of drafts: the reference's contracts. -/
import Derived.Test.YtagbmoohboleaaaGreatL14
import Derived.Test.YtagbmoohboleaaaGreatL13
noncomputable section
namespace Go.Proofs.YtagbmoohboleaaaGreat
open Go.RowKit Go.IntKind
theorem agV:type_of% @List.mem_filter:=@List.mem_filter
theorem agW:type_of% @decide_eq_true_iff:=@decide_eq_true_iff
def i8P(n:Int):Prop:= -128<=n/\n<=127
instance (n:Int):Decidable (i8P n):=by unfold i8P;infer_instance
def u8P(n:Int):Prop:=0<=n/\n<=255
instance (n:Int):Decidable (u8P n):=by unfold u8P;infer_instance
def atQ(n u:Int):Rat:=Rat.divInt n (u%4+1)
def DG(c:BO3):List BCU:=[(true,o00,c,false,enc (qz (dec c)),enc (qZ (dec c))),(true,o00,c,false,enc (qZ (dec c)),enc (qz (dec c)))]
abbrev tDr:Ty:=.st (.pair (.int .u8) (.pair (.int .u8) (.pair (.int .i8) (.pair (.int .i8) (.pair (.int .i8) (.pair (.int .i8) (.pair (.int .i8) (.int .i8))))))))
abbrev nE:Ty:=.st (.pair tDr (.pair tDr (.int .u8)))
abbrev Dr:=Int×Int×Int×Int×Int×Int×Int×Int
abbrev Pce:=Dr×Dr×Int
def AC(x:Dr):Prop:=u8P x.1/\u8P x.2.1/\i8P x.2.2.1/\i8P x.2.2.2.1/\i8P x.2.2.2.2.1/\i8P x.2.2.2.2.2.1/\i8P x.2.2.2.2.2.2.1/\i8P x.2.2.2.2.2.2.2
instance (x:Dr):Decidable (AC x):=by unfold AC;infer_instance
def drA(x:Dr):Rat×Rat:=(atQ x.2.2.1 x.2.1,atQ x.2.2.2.1 x.2.1)
def drB(x:Dr):Rat×Rat:=(atQ x.2.2.2.2.1 x.2.1,atQ x.2.2.2.2.2.1 x.2.1)
def drC(x:Dr):Rat×Rat:=(atQ x.2.2.2.2.2.2.1 x.2.1,atQ x.2.2.2.2.2.2.2 x.2.1)
def drQ(x:Dr):Ln:=((drA x).1,(drA x).2,(drB x).1)
def ofL(x:Dr):List BCU:=
 bif x.1%3==2 then(bif decide ((drB x).1<=0)then []else DG (enc (drQ x)))
 else bif x.1%3==1 then(bif pP (drA x) (drB x) (drC x) !=0 then []else [Ak (drA x) (drB x) (drC x)])
 else bif pS (drA x) (drB x) !=0 then []else [By (drA x) (drB x)]
theorem GM{u k:Int}(h:u8P u):Int.tmod u k=u%k:=Int.tmod_eq_emod_of_nonneg h.1
theorem xW{n u:Int}(h:i8P n)(_h':u8P u):Bb (atQ n u) 7 2:=by
 unfold atQ;obtain⟨h1,h2⟩:=h;exact Rk (by omega) (by show n.natAbs<=128;omega) (by show(u%4+1).natAbs<=4;omega)
theorem Con.dd{P:Program}{f:Nat}{args:List SV}{et:TypeId}{e:Ty}{xs:List e.D}{r:RV}(h:Con P f args [r])(hr:r=.new et e xs\/r=.d (.sl e) xs):Con P f args [.d (.sl e) xs]:=by
 rcases hr with rfl|rfl
 ·exact Con.new_d h
 ·exact h
def F7:List En:=[enL FI,enL Ue,enT nh,enL XQ,enL YK]
def S3(n u:Int)(_k:KT):OLR:=og (decide (fh (i64.wrap n) (i64.wrap ((i64.wrap (Int.tmod u 4))+1)))) (some [RV.d tR (hid (ao (Rat.divInt (i64.wrap n) (i64.wrap ((i64.wrap (Int.tmod u 4))+1)))))])
def ac4:Cn 45 [(.int .i8),(.int .u8)]:=cn λ(n u:Int)=>lf (i8P n/\u8P u) [.d tR (ao (atQ n u))] λh=>by
 refine az F7 (S3 n u) ⟨0,?_⟩;obtain⟨hn,hu⟩:=h;have e0:=GM (k:=4) hu;obtain⟨n1,n2⟩:=hn;unfold S3;rw[e0,aM (x:=n) (by omega) (by omega),aM (x:=u%4) (by omega) (by omega),aM (x:=u%4+1) (by omega) (by omega),dT (show fh n (u%4+1) from⟨⟨by omega,by omega⟩,⟨by omega,by omega⟩,by omega⟩)];simp only[bL];rfl
def acg:Ctx:=CX (ens F7) []
def TJ(c:BO3)(_k:KT):OLR:=og (decide (cg c)) (some [RV.new 39 tCU ([(true,((((false,[]),(false,[])),(((false,[]),(false,[])),((false,[]),(false,[])))),(c,(false,(hid (enc (qz (dec c))),hid (enc (qZ (dec c)))))))),(true,((((false,[]),(false,[])),(((false,[]),(false,[])),((false,[]),(false,[])))),(c,(false,(hid (enc (qZ (dec c))),hid (enc (qz (dec c))))))))])])
theorem abV(c:BO3):RS acg 47 [.d tO c] (TJ c):=rsX
def aa3:Cn 47 [tO]:=cn λ(c:BO3)=>lf (cg c) [.d (.sl tCU) (DG c)] λh=>by
 refine Con.new_d (et:=39) (dm F7 (abV _ ⟨0,?_⟩));unfold TJ;rw[dT h];simp only[bL];rfl
def VL:List En:=enL ac4::enL aa3::F7
def U1:Ctx:=CX (ens VL) []
def J0(x:Dr)(_k:KT):OLR:=og (decide (i8P x.2.2.1/\u8P x.2.1)) (og (decide (i8P x.2.2.2.1/\u8P x.2.1)) (og (decide (i8P x.2.2.2.2.1/\u8P x.2.1)) (og (decide (i8P x.2.2.2.2.2.1/\u8P x.2.1)) (match(Int.tmod x.1 3)==2 with|true=>(og (decide (i8P x.2.2.2.2.1/\u8P x.2.1)) (og (o1 (hid (ao (atQ x.2.2.2.2.1 x.2.1)))) (match decide ((aE (ah (hid (ao (atQ x.2.2.2.2.1 x.2.1)))) 0)<=0)with|true=>some [RV.new 39 tCU []]|false=>(og (decide (cg (hid (ao (atQ x.2.2.1 x.2.1)),(hid (ao (atQ x.2.2.2.1 x.2.1)),hid (ao (atQ x.2.2.2.2.1 x.2.1)))))) (some [RV.d (.sl tCU) (DG (hid (ao (atQ x.2.2.1 x.2.1)),(hid (ao (atQ x.2.2.2.1 x.2.1)),hid (ao (atQ x.2.2.2.2.1 x.2.1)))))])))))|false=>(og (decide (ok (Rat×Rat) 100 (hid (ao (atQ x.2.2.1 x.2.1)),hid (ao (atQ x.2.2.2.1 x.2.1)))/\ok (Rat×Rat) 100 (hid (ao (atQ x.2.2.2.2.1 x.2.1)),hid (ao (atQ x.2.2.2.2.2.1 x.2.1))))) (match(Int.tmod x.1 3)==1 with|true=>(og (decide (i8P x.2.2.2.2.2.2.1/\u8P x.2.1)) (og (decide (i8P x.2.2.2.2.2.2.2/\u8P x.2.1)) (og (decide (ok (Rat×Rat) 100 (hid (ao (atQ x.2.2.1 x.2.1)),hid (ao (atQ x.2.2.2.1 x.2.1)))/\ok (Rat×Rat) 100 (hid (ao (atQ x.2.2.2.2.1 x.2.1)),hid (ao (atQ x.2.2.2.2.2.1 x.2.1)))/\ok (Rat×Rat) 100 (hid (ao (atQ x.2.2.2.2.2.2.1 x.2.1)),hid (ao (atQ x.2.2.2.2.2.2.2 x.2.1))))) (match(pP (dec (hid (ao (atQ x.2.2.1 x.2.1)),hid (ao (atQ x.2.2.2.1 x.2.1)))) (dec (hid (ao (atQ x.2.2.2.2.1 x.2.1)),hid (ao (atQ x.2.2.2.2.2.1 x.2.1)))) (dec (hid (ao (atQ x.2.2.2.2.2.2.1 x.2.1)),hid (ao (atQ x.2.2.2.2.2.2.2 x.2.1))))) !=0 with|true=>some [RV.new 39 tCU []]|false=>some [RV.new 39 tCU ([hid (Ak (dec (hid (ao (atQ x.2.2.1 x.2.1)),hid (ao (atQ x.2.2.2.1 x.2.1)))) (dec (hid (ao (atQ x.2.2.2.2.1 x.2.1)),hid (ao (atQ x.2.2.2.2.2.1 x.2.1)))) (dec (hid (ao (atQ x.2.2.2.2.2.2.1 x.2.1)),hid (ao (atQ x.2.2.2.2.2.2.2 x.2.1)))))])]))))|false=>(match(pS (dec (hid (ao (atQ x.2.2.1 x.2.1)),hid (ao (atQ x.2.2.2.1 x.2.1)))) (dec (hid (ao (atQ x.2.2.2.2.1 x.2.1)),hid (ao (atQ x.2.2.2.2.2.1 x.2.1))))) !=0 with|true=>some [RV.new 39 tCU []]|false=>some [RV.new 39 tCU ([hid (By (dec (hid (ao (atQ x.2.2.1 x.2.1)),hid (ao (atQ x.2.2.2.1 x.2.1)))) (dec (hid (ao (atQ x.2.2.2.2.1 x.2.1)),hid (ao (atQ x.2.2.2.2.2.1 x.2.1)))))])])))))))
theorem ZF(x:Dr):RS U1 14 [.d tDr x] (J0 x):=rsX
def aa4:Cn 14 [tDr]:=cn λ(x:Dr)=>lf (AC x) [.d (.sl tCU) (ofL x)] λh=>by
 obtain⟨h1,h2,hA,hB,hC,hD,hE,hF⟩:=h;have at_bd:∀n,i8P n->Bd (atQ n x.2.1) 1:=λn hn=>Ci (h:=xW hn h2) (by decide) (by decide);have bA:=at_bd _ hA;have bB:=at_bd _ hB;have bC:=at_bd _ hC;have bD:=at_bd _ hD;have bE:=at_bd _ hE;have bF:=at_bd _ hF;have vA:Bd (drA x) 1:=inferInstanceAs (Bd (atQ x.2.2.1 x.2.1,atQ x.2.2.2.1 x.2.1) _);have vB:Bd (drB x) 1:=inferInstanceAs (Bd (atQ x.2.2.2.2.1 x.2.1,atQ x.2.2.2.2.2.1 x.2.1) _);have vC:Bd (drC x) 1:=inferInstanceAs (Bd (atQ x.2.2.2.2.2.2.1 x.2.1,atQ x.2.2.2.2.2.2.2 x.2.1) _);have eA:((ao (atQ x.2.2.1 x.2.1),ao (atQ x.2.2.2.1 x.2.1)):BV)=enc (drA x):=rfl;have eB:((ao (atQ x.2.2.2.2.1 x.2.1),ao (atQ x.2.2.2.2.2.1 x.2.1)):BV)=enc (drB x):=rfl;have eC:((ao (atQ x.2.2.2.2.2.2.1 x.2.1),ao (atQ x.2.2.2.2.2.2.2 x.2.1)):BV)=enc (drC x):=rfl;have eQ:((ao (atQ x.2.2.1 x.2.1),ao (atQ x.2.2.2.1 x.2.1),ao (atQ x.2.2.2.2.1 x.2.1)):BO3)=enc (drQ x):=rfl;have tm:=GM (k:=3) h1;have run:∀r:RV,J0 x (U1.k 0)=some [r]->(r=.new 39 tCU (ofL x)\/r=.d (.sl tCU) (ofL x))->CQq7 14 [.d tDr x] [.d (.sl tCU) (ofL x)]:=λr e g=>Con.dd (dm VL (ZF _ ⟨0,e⟩)) g;unfold J0 at run;unfold ofL at run ⊢;simp only[aW,Nat.reduceLeDiff,tm,eQ,eA,eB,eC,dT (show i8P _/\u8P _ from⟨hA,h2⟩),dT (show i8P _/\u8P _ from⟨hB,h2⟩),dT (show i8P _/\u8P _ from⟨hC,h2⟩),dT (show i8P _/\u8P _ from⟨hD,h2⟩),dT (show i8P _/\u8P _ from⟨hE,h2⟩),dT (show i8P _/\u8P _ from⟨hF,h2⟩)]at run;cases h3:x.1%3==2
 ·simp only[h3,cond_false]at run ⊢;cases h4:x.1%3==1
  ·simp only[h4,cond_false]at run ⊢;cases h5:pS (drA x) (drB x) !=0
   ·simp only[h5,cond_false]at run ⊢;exact run _ rfl (.inl rfl)
   ·simp only[h5,cond_true]at run ⊢;exact run _ rfl (.inl rfl)
  ·simp only[h4,cond_true]at run ⊢;cases h5:pP (drA x) (drB x) (drC x) !=0
   ·simp only[h5,cond_false]at run ⊢;exact run _ rfl (.inl rfl)
   ·simp only[h5,cond_true]at run ⊢;exact run _ rfl (.inl rfl)
 ·simp only[h3,cond_true]at run ⊢;have e1:(drB x).1=atQ x.2.2.2.2.1 x.2.1:=rfl;by_cases h5:(drB x).1<=0
  ·rw[afm h5]at run ⊢;refine run _ ?_ (.inl rfl);rw[Do,<-e1,afm h5];rfl
  ·rw[afo h5]at run ⊢;have ok:cg (enc (drQ x)):=gJ (h:=⟨bA.mono (by decide),bB.mono (by decide),bC.mono (by decide)⟩) (show 0<(drB x).1 by grind);refine run _ ?_ (.inr rfl);rw[Do,<-e1,afo h5];simp only[afm ok];rfl
def l0B:BO3:=enc ((0,0,0):Ln)
def c0M:BCU:=(false,l0B,l0B,false,p00,p00)
def Nf(a b:Rat×Rat):BCU:=bif rY a b then c00 else(false,enc (qs a b),l0B,false,enc (atP a),enc (atP b))
def J5(a b c:Rat×Rat):BCU:=bif decide (da a b c=0)then c00 else(true,l0B,enc (oH a b c),!decide (rv a b c>0),enc (atP a),enc (atP c))
def RB(c:BO3):List BCU:=[(true,l0B,c,false,enc (uq (dec c)),enc (tF (dec c))),(true,l0B,c,false,enc (tF (dec c)),enc (uq (dec c)))]
def Ux:List En:=[⟨54,jA,fH⟩,⟨125,ju,fq⟩]
def Vg(a:BR)(_k:KT):OLR:=match decide (okR a)with|true=>some [RV.d .bool ((aE (ah a) 0)==0)]|false=>none
def acl:Cn 159 [tR]:=cn λ(a:BR)=>lf (okR a) [.d .bool (decide (ah a=0))] λh=>by
 refine az Ux (Vg a) ⟨0,?_⟩;unfold Vg;rw[dT h];simp only[aq]
def Ve(_k:KT):OLR:=og (decide (a9 (0:Int))) (some [RV.d tCU (false,((hid (ao ((0:Int):Rat)),(hid (ao ((0:Int):Rat)),hid (ao ((0:Int):Rat)))),((hid (ao ((0:Int):Rat)),(hid (ao ((0:Int):Rat)),hid (ao ((0:Int):Rat)))),(false,((((false,[]),(false,[])),(((false,[]),(false,[])),(((false,[]),(false,[])),(((false,[]),(false,[])),((false,[]),(false,[])))))),(((false,[]),(false,[])),(((false,[]),(false,[])),(((false,[]),(false,[])),(((false,[]),(false,[])),((false,[]),(false,[])))))))))))])
def aal:Cn 68 []:=cn<|lf True [.d tCU c0M] λ_=>by
 refine az Ux (Ve) ⟨0,?_⟩;unfold Ve c0M l0B;rw[dT (show a9 0 by decide)];simp only[bL];rfl
def Uk:List En:=[enL Nj,enL Pj,enL JF,enL TC,enT acl]
def UR(a b:BV)(_k:KT):OLR:=og (o2 a.2 b.2) (og (o2 b.1 a.1) (og (o1 (hSu a.2 b.2)) (match decide (ah (hSu a.2 b.2)=0)with|true=>(og (o1 (hSu b.1 a.1)) (match decide (ah (hSu b.1 a.1)=0)with|true=>some [RV.d tO (((false,[]),(false,[])),(((false,[]),(false,[])),((false,[]),(false,[])))),RV.d aiy 6]|false=>(og (o2 (hSu a.2 b.2) a.1) (og (o2 (hSu b.1 a.1) a.2) (og (o2 (hMu (hSu a.2 b.2) a.1) (hMu (hSu b.1 a.1) a.2)) (some [RV.d tO (hSu a.2 b.2,(hSu b.1 a.1,hAd (hMu (hSu a.2 b.2) a.1) (hMu (hSu b.1 a.1) a.2))),RV.d aiy 0]))))))|false=>(og (o2 (hSu a.2 b.2) a.1) (og (o2 (hSu b.1 a.1) a.2) (og (o2 (hMu (hSu a.2 b.2) a.1) (hMu (hSu b.1 a.1) a.2)) (some [RV.d tO (hSu a.2 b.2,(hSu b.1 a.1,hAd (hMu (hSu a.2 b.2) a.1) (hMu (hSu b.1 a.1) a.2))),RV.d aiy 0])))))))
def aaI:Cn 70 [tV,tV]:=cn λ(a b:BV)=>lf (ok (Rat×Rat) 100 a/\ok (Rat×Rat) 100 b) [.d tO (DQ (dec a) (dec b)),.d aiy (CB (dec a) (dec b))] λh=>by
 refine az Uk (UR a b) ⟨0,?_⟩;obtain⟨ha,hb⟩:=h;obtain⟨a,rfl,ba⟩:=aH ha;obtain⟨b,rfl,bb⟩:=aH hb;unfold UR DQ CB rY;simp only[aW,Nat.reduceAdd,Nat.reduceLeDiff];cases decide (a.2-b.2=0)<;>cases decide (b.1-a.1=0)<;>rfl
def U0(a b c:BV)(_k:KT):OLR:=let y1:=hMu (hSu b.1 a.1) (hSu c.2 a.2);let y2:=hMu (hSu b.2 a.2) (hSu c.1 a.1);let y3:=hMu (hSu b.1 a.1) (hSu b.1 a.1);let y4:=hMu (hSu b.2 a.2) (hSu b.2 a.2);let y5:=hMu (hSu c.1 a.1) (hSu c.1 a.1);let y6:=hMu (hSu c.2 a.2) (hSu c.2 a.2);let y7:=hMu (hAd y3 y4) (hSu c.2 a.2);let y8:=hMu (hAd y5 y6) (hSu b.2 a.2);let y9:=hAd (hSu y1 y2) (hSu y1 y2);let y10:=hMu (hAd y5 y6) (hSu b.1 a.1);let y11:=hMu (hAd y3 y4) (hSu c.1 a.1);let y12:=hDi (hSu y7 y8) y9;let y13:=hDi (hSu y10 y11) y9;og (o2 b.1 a.1) (og (o2 b.2 a.2) (og (o2 c.1 a.1) (og (o2 c.2 a.2) (og (o2 (hSu b.1 a.1) (hSu c.2 a.2)) (og (o2 (hSu b.2 a.2) (hSu c.1 a.1)) (og (o2 y1 y2) (og (o1 (hSu y1 y2)) (match decide (ah (hSu y1 y2)=0)with|true=>some [RV.d tO (((false,[]),(false,[])),(((false,[]),(false,[])),((false,[]),(false,[])))),RV.d aiy 6]|false=>(og (o2 (hSu y1 y2) (hSu y1 y2)) (og (o2 (hSu b.1 a.1) (hSu b.1 a.1)) (og (o2 (hSu b.2 a.2) (hSu b.2 a.2)) (og (o2 y3 y4) (og (o2 (hSu c.1 a.1) (hSu c.1 a.1)) (og (o2 (hSu c.2 a.2) (hSu c.2 a.2)) (og (o2 y5 y6) (og (o2 (hAd y3 y4) (hSu c.2 a.2)) (og (o2 (hAd y5 y6) (hSu b.2 a.2)) (og (o2 y7 y8) (og (decide (ij (hSu y7 y8) y9)) (og (o2 (hAd y5 y6) (hSu b.1 a.1)) (og (o2 (hAd y3 y4) (hSu c.1 a.1)) (og (o2 y10 y11) (og (decide (ij (hSu y10 y11) y9)) (og (o2 a.1 y12) (og (o2 a.2 y13) (og (o2 y12 y12) (og (o2 y13 y13) (og (o2 (hMu y12 y12) (hMu y13 y13)) (some [RV.d tO (hAd a.1 y12,(hAd a.2 y13,hAd (hMu y12 y12) (hMu y13 y13))),RV.d aiy 0])))))))))))))))))))))))))))))
def ady:Cn 64 [tV,tV,tV]:=cn λ(a b c:BV)=>lf (ok (Rat×Rat) 100 a/\ok (Rat×Rat) 100 b/\ok (Rat×Rat) 100 c) [.d tO (Cf (dec a) (dec b) (dec c)),.d aiy (Cg (dec a) (dec b) (dec c))] λh=>by
 refine az Uk (U0 a b c) ⟨0,?_⟩;obtain⟨ha,hb,hc⟩:=h;obtain⟨a,rfl,ba⟩:=aH ha;obtain⟨b,rfl,bb⟩:=aH hb;obtain⟨c,rfl,bc⟩:=aH hc;have e0:(b.1-a.1)*(c.2-a.2)-(b.2-a.2)*(c.1-a.1)=da a b c:=rfl;have bD:Bd (da a b c) 805:=inferInstanceAs (Bd ((b.1-a.1)*(c.2-a.2)-(b.2-a.2)*(c.1-a.1)) _);have eX:(((b.1-a.1)*(b.1-a.1)+(b.2-a.2)*(b.2-a.2))*(c.2-a.2)-((c.1-a.1)*(c.1-a.1)+(c.2-a.2)*(c.2-a.2))*(b.2-a.2))/(da a b c+da a b c)=uf a b c:=rfl;have eY:(((c.1-a.1)*(c.1-a.1)+(c.2-a.2)*(c.2-a.2))*(b.1-a.1)-((b.1-a.1)*(b.1-a.1)+(b.2-a.2)*(b.2-a.2))*(c.1-a.1))/(da a b c+da a b c)=tb a b c:=rfl;have m1:Bd ((b.1-a.1)*(b.1-a.1)+(b.2-a.2)*(b.2-a.2)) _:=inferInstance;have m2:Bd ((c.1-a.1)*(c.1-a.1)+(c.2-a.2)*(c.2-a.2)) _:=inferInstance;have n1:Bd (((b.1-a.1)*(b.1-a.1)+(b.2-a.2)*(b.2-a.2))*(c.2-a.2)-((c.1-a.1)*(c.1-a.1)+(c.2-a.2)*(c.2-a.2))*(b.2-a.2)) _:=inferInstance;have n2:Bd (((c.1-a.1)*(c.1-a.1)+(c.2-a.2)*(c.2-a.2))*(b.1-a.1)-((b.1-a.1)*(b.1-a.1)+(b.2-a.2)*(b.2-a.2))*(c.1-a.1)) _:=inferInstance;have bX0:Bd ((((b.1-a.1)*(b.1-a.1)+(b.2-a.2)*(b.2-a.2))*(c.2-a.2)-((c.1-a.1)*(c.1-a.1)+(c.2-a.2)*(c.2-a.2))*(b.2-a.2))/(da a b c+da a b c)) _:=inferInstance;have bX:Bd (uf a b c) 4000:=by rw[<-eX];exact bX0.mono (by decide)
 have bY0:Bd ((((c.1-a.1)*(c.1-a.1)+(c.2-a.2)*(c.2-a.2))*(b.1-a.1)-((b.1-a.1)*(b.1-a.1)+(b.2-a.2)*(b.2-a.2))*(c.1-a.1))/(da a b c+da a b c)) _:=inferInstance;have bY:Bd (tb a b c) 4000:=by rw[<-eY];exact bY0.mono (by decide)
 unfold U0 Cf Cg;simp only[aW,Nat.reduceAdd,Nat.reduceLeDiff,e0];by_cases hd:da a b c=0
 ·rw[afm hd];rfl
 ·have h2:da a b c+da a b c≠0:=by grind
  rw[afo hd];simp only[aW,Nat.reduceAdd,Nat.reduceLeDiff,h2,ne_eq,agP,eX,eY];rfl
def Gx:List En:=[⟨65,kp,gu⟩,⟨67,jC,fI⟩,⟨66,lI,ik⟩,enL ND,enL aal,enL aaI,enL ady,enL T1]
def O5(a b:BV)(_k:KT):OLR:=og (decide (ok (Rat×Rat) 100 a/\ok (Rat×Rat) 100 b)) (match(CB (dec a) (dec b)) !=0 with|true=>some [RV.d tCU (false,((((false,[]),(false,[])),(((false,[]),(false,[])),((false,[]),(false,[])))),((((false,[]),(false,[])),(((false,[]),(false,[])),((false,[]),(false,[])))),(false,((((false,[]),(false,[])),(((false,[]),(false,[])),(((false,[]),(false,[])),(((false,[]),(false,[])),((false,[]),(false,[])))))),(((false,[]),(false,[])),(((false,[]),(false,[])),(((false,[]),(false,[])),(((false,[]),(false,[])),((false,[]),(false,[]))))))))))),RV.d aiy 6]|false=>(og (decide (ok (Rat×Rat) 100000 a)) (og (decide (ok (Rat×Rat) 100000 b)) (some [RV.d tCU (false,(hid (DQ (dec a) (dec b)),((((hid (c0M)).2).2).1,(false,(hid (enc (atP (dec a))),hid (enc (atP (dec b)))))))),RV.d aiy 0]))))
def XM:Cn 22 [tV,tV]:=cn λ(a b:BV)=>lf (ok (Rat×Rat) 100 a/\ok (Rat×Rat) 100 b) [.d tCU (Nf (dec a) (dec b)),.d aiy (pS (dec a) (dec b))] λh=>by
 refine az Gx (O5 a b) ⟨0,?_⟩;obtain⟨ha,hb⟩:=h;obtain⟨a,rfl,ba⟩:=aH ha;obtain⟨b,rfl,bb⟩:=aH hb;unfold O5 Nf pS CB DQ;simp only[aW,Nat.reduceLeDiff];cases rY a b<;>rfl
def LB(a b c:BV)(_k:KT):OLR:=og (decide (ok (Rat×Rat) 100 a/\ok (Rat×Rat) 100 b/\ok (Rat×Rat) 100 c)) (match(Cg (dec a) (dec b) (dec c)) !=0 with|true=>some [RV.d tCU (false,((((false,[]),(false,[])),(((false,[]),(false,[])),((false,[]),(false,[])))),((((false,[]),(false,[])),(((false,[]),(false,[])),((false,[]),(false,[])))),(false,((((false,[]),(false,[])),(((false,[]),(false,[])),(((false,[]),(false,[])),(((false,[]),(false,[])),((false,[]),(false,[])))))),(((false,[]),(false,[])),(((false,[]),(false,[])),(((false,[]),(false,[])),(((false,[]),(false,[])),((false,[]),(false,[]))))))))))),RV.d aiy 6]|false=>(og (o2 b.1 a.1) (og (o2 b.2 a.2) (og (o2 c.1 a.1) (og (o2 c.2 a.2) (og (o2 (hSu b.1 a.1) (hSu c.2 a.2)) (og (o2 (hSu b.2 a.2) (hSu c.1 a.1)) (og (o2 (hMu (hSu b.1 a.1) (hSu c.2 a.2)) (hMu (hSu b.2 a.2) (hSu c.1 a.1))) (og (decide (ok (Rat×Rat) 100000 a)) (og (decide (ok (Rat×Rat) 100000 c)) (some [RV.d tCU (true,(((hid (c0M)).2).1,(hid (Cf (dec a) (dec b) (dec c)),(!(decide ((aE (ah (hMu (hSu b.1 a.1) (hSu c.2 a.2))) (ah (hMu (hSu b.2 a.2) (hSu c.1 a.1))))>0)),(hid (enc (atP (dec a))),hid (enc (atP (dec c)))))))),RV.d aiy 0])))))))))))
def XL:Cn 20 [tV,tV,tV]:=cn λ(a b c:BV)=>lf (ok (Rat×Rat) 100 a/\ok (Rat×Rat) 100 b/\ok (Rat×Rat) 100 c) [.d tCU (J5 (dec a) (dec b) (dec c)),.d aiy (pP (dec a) (dec b) (dec c))] λh=>by
 refine az Gx (LB a b c) ⟨0,?_⟩;obtain⟨ha,hb,hc⟩:=h;obtain⟨a,rfl,ba⟩:=aH ha;obtain⟨b,rfl,bb⟩:=aH hb;obtain⟨c,rfl,bc⟩:=aH hc;unfold LB J5 pP rv;simp only[aW,Nat.reduceAdd,Nat.reduceLeDiff,av];unfold Cg Cf;cases decide (da a b c=0)<;>rfl
def ZM:Ctx:=CX (ens Gx) []
def VF(c:BO3)(_k:KT):OLR:=og (decide (cg c)) (dup (.b .l .l) (some [RV.new 39 tCU ([(true,(((hid (c0M)).2).1,(c,(false,(hid (enc (uq (dec c))),hid (enc (tF (dec c)))))))),(true,(((hid (c0M)).2).1,(c,(false,(hid (enc (tF (dec c))),hid (enc (uq (dec c))))))))])]))
theorem ZV(c:BO3):RS ZM 24 [.d tO c] (VF c):=rsX
def abu:Cn 24 [tO]:=cn λ(c:BO3)=>lf (cg c) [.d (.sl tCU) (RB c)] λh=>by
 refine Con.new_d (et:=39) (dm Gx (ZV _ ⟨0,?_⟩));unfold VF;rw[dT h];simp only[bL,dV];rfl
section
namespace RE
abbrev PE:=RE×RE
def crs(u w:PE):RE:=u.1*w.2-u.2*w.1
def aeE(a b c:Int):Bool:=bif decide (0<=a)then decide (0<=b)&&decide (0<=c)else !(decide (c<0)&&decide (b<0))
theorem sub_zero(x:RE):x-0=x:=by grind
theorem zero_sub(x:RE):0-x= -x:=by grind
section
variable {u w:PE} {Q:RE} {L:List RE}
end
def frm(c:Ln)(p:PE):PE:=(p.1-of c.1,p.2-of c.2.1)
def aeR(u w z:PE):Bool:=aeE (sg (crs u w)) (sg (crs u z)) (sg (crs z w))
def uU(c:Ln)(p:PE):Prop:=(frm c p).1*(frm c p).1+(frm c p).2*(frm c p).2=of c.2.2
def sL(l:Ln)(p:PE):Prop:=of l.1*p.1+of l.2.1*p.2=of l.2.2
def tE(l:Ln)(p:PE):RE:= -of l.2.1*p.1+of l.1*p.2
def pP(c:Ln)(F T p:PE):Prop:=uU c p/\aeR (frm c F) (frm c T) (frm c p)=true
def btE(a b x:RE):Prop:=(a<=x/\x<=b)\/(b<=x/\x<=a)
def pS(l:Ln)(F T p:PE):Prop:=sL l p/\btE (tE l F) (tE l T) (tE l p)
structure GdE (c:Cv):Prop where
 f:Rpd (frC c)
 t:Rpd (toC c)
 ne:pR (frC c)≠pR (toC c)
 q:c.1=true->0<(ciC c).2.2/\onCi (ciC c) (frC c)/\onCi (ciC c) (toC c)
 l:c.1=false->((lnC c).1≠0\/(lnC c).2.1≠0)/\YT (lnC c) (frC c)/\YT (lnC c) (toC c)
theorem u9{c:Ln}{p:Pt}[Rpd p]:(n6 c p==0)=true↔uU c (pR p):=by
 rw[agl];refine⟨λh=>ins_on h,λh=>?_⟩;rw[Ah];have:(pX p-of c.1)*(pX p-of c.1)+(pY p-of c.2.1)*(pY p-of c.2.1)=of c.2.2:=h;rw[this,kZ,fR];rfl
theorem Gd{l:Ln}{p:Pt}[Rpd p]:(tK l p==0)=true↔sL l (pR p):=by
 rw[agl];refine⟨λh=>Et h,λh=>?_⟩;rw[Aa];have:of l.1*pX p+of l.2.1*pY p=of l.2.2:=h;rw[this,kZ,fR]
end RE
end
instance abc:Bd (-1:Rat) 3:=fx (n:= -1) (by decide)
theorem Bz{v:Rat×Rat}{j k:Nat}[h:Bd v j](hj:mx j (mx 1 (mx j (mx 1 1)))<=k)(hk:k<=480000):okP k (enc (atP v)):=afp (aQ (x:=atP v) hj hk)
section
namespace RE
theorem cmpP_0{p q:Pt}[Rpd p][Rpd q]:aF p q=0↔pR p=pR q:=by
 rw[lk];obtain⟨h1,h2,h3⟩:=gX (pR p) (pR q);rcases jz.tri (pR p) (pR q)with h|h|h
 ·rw[h1 h];exact⟨λe=>absurd e (by decide),λe=>absurd h (by rw[e];exact jz.irr _)⟩
 ·exact⟨λ_=>h,λ_=>h2 h⟩
 ·rw[h3 h];exact⟨λe=>absurd e (by decide),λe=>absurd h (by rw[e];exact jz.irr _)⟩
theorem wg(v:Rat×Rat):pR (atP v)=(of v.1,of v.2):=ais (adR v) (aby v)
theorem KG{ax bx c:Rat}(h:fi c=true):of (ax+bx*rtQ c)=v2 ax bx c:=by
 unfold v2;rw[of_add,bS,NV h]
theorem t9(ax bx ay b_ c:Rat):pR (nH ax bx ay b_ c)=(v2 ax bx c,v2 ay b_ c):=by
 unfold nH;cases h:fi c
 ·rfl
 ·exact(wg _).trans (ais (KG h) (KG h))
theorem X0(a b r:RE):(a+ -1*r-a)*(a+ -1*r-a)+(b+0*r-b)*(b+0*r-b)=r*r:=by grind
theorem RP(a b r:RE):(a+1*r-a)*(a+1*r-a)+(b+0*r-b)*(b+0*r-b)=r*r:=by grind
theorem QB(a r:RE)(h1:a+ -1*r=a+1*r):r<=0:=by grind
theorem Rq(a r:RE)(h1:a+ -1*r=a+1*r):0<=r:=by grind
theorem WU(a r:RE)(h1:a+ -1*r=a+1*r):r=0:=le_antisymm (QB a r h1) (Rq a r h1)
theorem Yg{c:Ln}(h:0<c.2.2):uU c (pR (qz c))/\uU c (pR (qZ c)):=by
 have hr:=pZ (show 0<=c.2.2 by grind);unfold qz qZ;rw[t9,t9];exact⟨(X0 _ _ _).trans hr,(RP _ _ _).trans hr⟩
theorem QJ{c:Ln}(h:0<c.2.2):pR (qz c)≠pR (qZ c):=by
 unfold qz qZ;rw[t9,t9];intro e;have e1:=WU _ _ (congrArg Prod.fst e);have hr:=pZ (show 0<=c.2.2 by grind);rw[e1,mul_zero]at hr;have:=EQ hr;grind
theorem NY{l:Ln}{v:Rat×Rat}(h:l.1*v.1+l.2.1*v.2=l.2.2):(tK l (atP v)==0)=true:=by
 rw[Gd,wg];exact congrArg of h
theorem Pp{c:Ln}{v:Rat×Rat}(h:(v.1-c.1)*(v.1-c.1)+(v.2-c.2.1)*(v.2-c.2.1)=c.2.2):(n6 c (atP v)==0)=true:=by
 rw[u9,wg];unfold uU frm;dsimp only;rw[<-of_sub,<-of_sub];exact congrArg of h
theorem UF{v w:Rat×Rat}(h:v≠w):aF (atP v) (atP w)≠0:=λe=>h (by
 have:=cmpP_0.1 e;rw[wg,wg]at this;exact ais (EQ (congrArg Prod.fst this)) (EQ (congrArg Prod.snd this)))
end RE
open RE
def gdN(c:BCU):Prop:=mG c/\em (dC c) (frC (dC c))=true/\em (dC c) (toC (dC c))=true/\aF (frC (dC c)) (toC (dC c))≠0
theorem gdN.gd{c:BCU}(h:gdN c):gdC c:=⟨h.1.1,h.2.1,h.2.2.1⟩
theorem YZ{a b:Rat×Rat}[ba:Bd a 1][bb:Bd b 1](h:rY a b=false):gdN (By a b):=by
 have hz:(qs a b).1≠0\/(qs a b).2.1≠0:=by
  unfold rY at h;by_cases e:a.2-b.2=0
  ·rw[afm e,agc]at h;exact .inr (agn h)
  ·exact .inl e
 have hne:a≠b:=λe=>by
  subst e;unfold qs at hz;rcases hz with h|h<;>exact h (by show _-_=(0:Rat);grind)
 have b1:Bd (qs a b).1 12:=(inferInstance:Bd (a.2-b.2) _).mono (by decide);have b2:Bd (qs a b).2.1 12:=(inferInstance:Bd (b.1-a.1) _).mono (by decide);have b3:Bd (qs a b).2.2 63:=(inferInstance:Bd ((a.2-b.2)*a.1+(b.1-a.1)*a.2) _).mono (by decide);have hl:=kL (h:=⟨b1,b2,b3⟩) hz;have hL:Fg (enc (qs a b)):=⟨afp (okd (x:=qs a b) (by decide) (by decide)),by rw[aB];exact hz⟩
 unfold By;rw[h];refine⟨⟨⟨λe=>(by cases e),λ_=>hL,Bz (by decide) (by decide),Bz (by decide) (by decide)⟩,λe=>(by cases e),λ_=>hl⟩,?_⟩;simp only[dC,em,frC,toC,lnC,aB,cond_false];exact⟨NY (by unfold qs;grind),NY (by unfold qs;grind),UF hne⟩
theorem WD{c:Ln}[bc:BdC c](h:0<c.2.2):∀d∈DG (enc c),gdN d:=by
 have hs:=gJ h;have bx:=bc.x;have b_:=bc.y;have bq:=bc.q;have b0:Bd (0:Rat) 3:=fx (n:=0) (by decide);have b1:Bd (1:Rat) 3:=fx (n:=1) (by decide);have hC:uV (enc c):=⟨afp (okd (h:=EZ (c:=c)) (by decide) (by decide)),by rw[aB];exact h⟩
 have q0:(0:Rat)<=c.2.2:=by grind
 have pl:Rpd (qz c):=Bi (λe=>absurd e.1 (by decide)) q0;have pr:Rpd (qZ c):=Bi (λe=>absurd e.1 (by decide)) q0;have bl:Bd (qz c) 490:=zS (bx.mono (by decide:4<=4)) (abc.mono (by decide:3<=3)) b_ b0 bq (by decide);have br:Bd (qZ c) 490:=zS (bx.mono (by decide:4<=4)) b1 b_ b0 bq (by decide);have ol:okP 580 (enc (qz c)):=afp (aQ (by decide) (by decide));have or_:okP 580 (enc (qZ c)):=afp (aQ (by decide) (by decide));obtain⟨nl,nr_⟩:=Yg h;have nl:=u9.2 nl;have nr_:=u9.2 nr_;have ne:=QJ h;intro d hd
 have:d=(true,o00,enc c,false,enc (qz c),enc (qZ c))\/d=(true,o00,enc c,false,enc (qZ c),enc (qz c)):=by
  unfold DG at hd;rw[aB]at hd;simpa using hd
 rcases this with e|e<;>rw[e]
 ·refine⟨⟨⟨λ_=>hC,λe=>(by cases e),ol,or_⟩,λ_=>hs,λe=>(by cases e)⟩,?_⟩;simp only[dC,em,frC,toC,ciC,aB,cond_true];exact⟨nl,nr_,λe=>ne (cmpP_0.1 e)⟩
 ·refine⟨⟨⟨λ_=>hC,λe=>(by cases e),or_,ol⟩,λ_=>hs,λe=>(by cases e)⟩,?_⟩;simp only[dC,em,frC,toC,ciC,aB,cond_true];exact⟨nr_,nl,λe=>ne (cmpP_0.1 e).symm⟩
theorem Wf{a b c:Rat×Rat}(h:da a b c≠0):(c.1-(oH a b c).1)*(c.1-(oH a b c).1)+(c.2-(oH a b c).2.1)*(c.2-(oH a b c).2.1)=(oH a b c).2.2:=by
 have h2:da a b c+da a b c≠0:=by grind
 have eX:uf a b c*(da a b c+da a b c)=_:=agA h2;have eY:tb a b c*(da a b c+da a b c)=_:=agA h2;unfold oH;dsimp only;generalize uf a b c=X at*
 generalize tb a b c=Y at*
 have k:da a b c*(2*((c.1-a.1)*X+(c.2-a.2)*Y)-((c.1-a.1)*(c.1-a.1)+(c.2-a.2)*(c.2-a.2)))=0:=by
  unfold da at*
  grind
 rcases ah4.1 k with g|g
 ·exact absurd g h
 ·grind
theorem acI{a b c:Rat×Rat}(h:da a b c≠0)(e:a=c):False:=by
 subst e;refine h ?_;unfold da;grind
theorem Ww{a b c:Rat×Rat}[a1:Bb a.1 7 2][a2:Bb a.2 7 2][b1:Bb b.1 7 2][b2:Bb b.2 7 2][c1:Bb c.1 7 2][c2:Bb c.2 7 2]:BdC (oH a b c):=by
 have d:Bb ((b.1-a.1)*(c.2-a.2)-(b.2-a.2)*(c.1-a.1)) _ _:=inferInstance;have d:Bb (da a b c) _ _:=d;have X:Bb ((((b.1-a.1)*(b.1-a.1)+(b.2-a.2)*(b.2-a.2))*(c.2-a.2)-((c.1-a.1)*(c.1-a.1)+(c.2-a.2)*(c.2-a.2))*(b.2-a.2))/(da a b c+da a b c)) _ _:=inferInstance;have X:Bb (uf a b c) _ _:=X;have Y:Bb ((((c.1-a.1)*(c.1-a.1)+(c.2-a.2)*(c.2-a.2))*(b.1-a.1)-((b.1-a.1)*(b.1-a.1)+(b.2-a.2)*(b.2-a.2))*(c.1-a.1))/(da a b c+da a b c)) _ _:=inferInstance;have Y:Bb (tb a b c) _ _:=Y;have x1:Bb (a.1+uf a b c) _ _:=inferInstance;have x2:Bb (a.2+tb a b c) _ _:=inferInstance;have x3:Bb (uf a b c*uf a b c+tb a b c*tb a b c) _ _:=inferInstance;exact⟨Ci (h:=x1) (by decide) (by decide),Ci (h:=x2) (by decide) (by decide),Ci (h:=x3) (by decide) (by decide)⟩
theorem yG{x y:Rat}(h:¬(x=0/\y=0)):0<x*x+y*y:=by
 have nn:∀a:Rat,0<=a*a:=λa=>by
  rcases(by grind:0<=a\/0<= -a)with h|h
  ·exact af6 h h
  ·have:=af6 h h;grind
 have h1:=nn x;have h2:=nn y;rcases(by grind:0<x*x+y*y\/(x*x=0/\y*y=0))with g|⟨g1,g2⟩
 ·exact g
 ·exact absurd ⟨by simpa using ah4.1 g1,by simpa using ah4.1 g2⟩ h
theorem YB{a b c:Rat×Rat}[Bd a 1][Bd c 1][bc:BdC (oH a b c)](h:da a b c≠0):gdN (Ak a b c):=by
 have hon:=Wf h;have hne:a≠c:=λe=>acI h e
 have hq:0<(oH a b c).2.2:=by
  refine yG λ⟨e1,e2⟩=>hne ?_;unfold oH at hon;dsimp only at hon;rw[e1,e2]at hon;by_cases g:c.1-(a.1+0)=0/\c.2-(a.2+0)=0
  ·obtain⟨g1,g2⟩:=g;exact ais (by grind) (by grind)
  ·have:=yG g;grind
 have hs:=gJ (h:=bc) hq;have bx:=bc.x;have b_:=bc.y;have bq:=bc.q;have hC:uV (enc (oH a b c)):=⟨afp (okd (h:=EZ (c:=oH a b c)) (by decide) (by decide)),by rw[aB];exact hq⟩
 unfold Ak;rw[afo h];refine⟨⟨⟨λ_=>hC,λe=>(by cases e),Bz (by decide) (by decide),Bz (by decide) (by decide)⟩,λ_=>hs,λe=>(by cases e)⟩,?_⟩;simp only[dC,em,frC,toC,ciC,aB,cond_true,cond_false];refine⟨Pp ?_,Pp hon,UF hne⟩;unfold oH;grind
theorem DJ{x:Dr}(h:AC x):∀c∈ofL x,gdN c:=by
 obtain⟨h1,h2,hA,hB,hC,hD,hE,hF⟩:=h;have a1:Bb (drA x).1 7 2:=xW hA h2;have a2:Bb (drA x).2 7 2:=xW hB h2;have b1:Bb (drB x).1 7 2:=xW hC h2;have b2:Bb (drB x).2 7 2:=xW hD h2;have c1:Bb (drC x).1 7 2:=xW hE h2;have c2:Bb (drC x).2 7 2:=xW hF h2;have l:∀{q:Rat},Bb q 7 2->Bd q 1:=λh=>Ci (h:=h) (by decide) (by decide)
 have m:∀v:Rat×Rat,Bb v.1 7 2->Bb v.2 7 2->Bd v 1:=λv g g'=>by
  have:=l g;have:=l g';exact inferInstanceAs (Bd (v.1,v.2) _)
 have vA:=m _ a1 a2;have vB:=m _ b1 b2;have vC:=m _ c1 c2;intro c hc;unfold ofL at hc;cases h3:x.1%3==2
 ·rw[h3,cond_false]at hc;cases h4:x.1%3==1
  ·rw[h4,cond_false]at hc;cases h5:rY (drA x) (drB x)
   ·have:pS (drA x) (drB x)=0:=by unfold pS;rw[h5];rfl
    rw[this]at hc;have:c=By (drA x) (drB x):=by simpa using hc
    rw[this];exact YZ h5
   ·have:pS (drA x) (drB x)=6:=by unfold pS;rw[h5];rfl
    rw[this]at hc;cases hc
  ·rw[h4,cond_true]at hc;by_cases h5:da (drA x) (drB x) (drC x)=0
   ·have:pP (drA x) (drB x) (drC x)=6:=by unfold pP;rw[afm h5];rfl
    rw[this]at hc;cases hc
   ·have:pP (drA x) (drB x) (drC x)=0:=by unfold pP;rw[afo h5];rfl
    rw[this]at hc;have:c=Ak (drA x) (drB x) (drC x):=by simpa using hc
    rw[this];have:=Ww (a:=drA x) (b:=drB x) (c:=drC x);exact YB h5
 ·rw[h3,cond_true]at hc;by_cases h5:(drB x).1<=0
  ·rw[afm h5]at hc;cases hc
  ·rw[afo h5]at hc;have bq:BdC (drQ x):=⟨(l a1).mono (by decide),(l a2).mono (by decide),(l b1).mono (by decide)⟩
   exact WD (c:=drQ x) (show 0<(drB x).1 by grind) c hc
end
def kI(c:BCU)(l:List BCU):List BP:=(l.map (bU c)).flatten
def uT(x:Pce):Prop:=AC x.1/\AC x.2.1/\u8P x.2.2
instance (x:Pce):Decidable (uT x):=by unfold uT;infer_instance
def B8(x:Pce):List BCU:=match ofL x.1 with
 |[]=>[]
 |c::_=>gr c (kI c (ofL x.2.1))
def t5(x:Pce):Bool:=!(ofL x.1).isEmpty
def aC(x:Pce):BCU:=bif t5 x then(B8 x).getD (x.2.2%((B8 x).length:Int)).toNat c00 else c00
def Tz:List En:=[enL aa4,enL Vr,enK acw]
def R7:NT:=[((6,18),{keep:=[1,2,4,5,6,7],own:=[(6,37,tP)],hl:=3})]
def FE:Ctx:=CX (ens Tz) R7
def r8(x:Pce)(s7:Int)(r2:List BP):Cfg:=⟨6,[.blk 0,.seq 31],[(1,.box 0 0),(2,.box 1 0),(4,.d (.sl tCU) (ofL x.1)),(5,.d (.sl tCU) (ofL x.2.1)),(6,.own 2),(7,SI s7)],[.box 26 [.d (.int .u8) x.1.1,.d (.int .u8) x.1.2.1,.d (.int .i8) x.1.2.2.1,.d (.int .i8) x.1.2.2.2.1,.d (.int .i8) x.1.2.2.2.2.1,.d (.int .i8) x.1.2.2.2.2.2.1,.d (.int .i8) x.1.2.2.2.2.2.2.1,.d (.int .i8) x.1.2.2.2.2.2.2.2,.d (.int .u8) x.2.1.1,.d (.int .u8) x.2.1.2.1,.d (.int .i8) x.2.1.2.2.1,.d (.int .i8) x.2.1.2.2.2.1,.d (.int .i8) x.2.1.2.2.2.2.1,.d (.int .i8) x.2.1.2.2.2.2.2.1,.d (.int .i8) x.2.1.2.2.2.2.2.2.1,.d (.int .i8) x.2.1.2.2.2.2.2.2.2,.d (.int .u8) x.2.2],.box 39 [SB false,SB false,.nil,SB false,.nil,SB false,.nil,SB false,.nil,SB false,.nil,SB false,.nil,SB false,.nil,SB false,.nil,SB false,.nil,SB false,.nil,SB false,.nil,SB false,.nil,SB false,SB false,.nil,SB false,.nil,SB false,.nil,SB false,.nil,SB false,.nil,SB false,.nil,SB false,.nil,SB false,.nil,SB false,.nil,SB false,.nil,SB false,.nil,SB false,.nil,SB false,.nil,SB false,.nil,SB false,.nil,SB false,.nil,SB false,.nil,SB false,.nil,SB false,.nil,SB false,.nil],.row 37 tP r2],0,[]⟩
def M2(x:Pce)(k:KT):OLR:=og (decide (AC x.1)) (og (decide (AC x.2.1)) (match((ofL x.1).length:Int)==0 with|true=>some [RV.d tCU (false,((((false,[]),(false,[])),(((false,[]),(false,[])),((false,[]),(false,[])))),((((false,[]),(false,[])),(((false,[]),(false,[])),((false,[]),(false,[])))),(false,((((false,[]),(false,[])),(((false,[]),(false,[])),(((false,[]),(false,[])),(((false,[]),(false,[])),((false,[]),(false,[])))))),(((false,[]),(false,[])),(((false,[]),(false,[])),(((false,[]),(false,[])),(((false,[]),(false,[])),((false,[]),(false,[]))))))))))),RV.d .bool false]|false=>k 18 (r8 x 0 ([]))))
theorem Wx(x:Pce):RS FE 6 [.d nE x] (M2 x):=rsX
def qk(x:Pce)(s7:Int)(r2:List BP)(k:KT):OLR:=match decide (s7<((ofL x.2.1).length:Int))with|true=>(match aG (ofL x.1) 0 with|some x1=>(match aG (ofL x.2.1) s7 with|some x2=>(og (decide (gi x1 x2)) (og (decide ((r2.length+(bU x1 x2).length)*320<=140737488355328/\r2.length+(bU x1 x2).length<=140737488355328)) (k 18 (r8 x (i64.wrap (s7+1)) (r2++(bU x1 x2))))))|none=>none)|none=>none)|false=>(match aG (ofL x.1) 0 with|some x1=>(og (decide (ye x1 r2)) (match decide (((gr x1 r2).length:Int)=(0:Int))with|true=>none|false=>(match aG (gr x1 r2) (Int.tmod (i64.wrap x.2.2) ((gr x1 r2).length:Int))with|some x2=>some [RV.d tCU x2,RV.d .bool true]|none=>none)))|none=>none)
theorem wU(x:Pce)(s7:Int)(r2:List BP):RN FE 18 (r8 x s7 r2) (qk x s7 r2):=rnX
theorem uZ{c d:BCU}(h:gi c d):(bU c d).length<=4/\∀x∈bU c d,okP 580 x/\onR (dC c) (dec x)=true/\onR (dC d) (dec x)=true:=by
 obtain⟨h1,h2⟩:=Ge h;unfold bU W5;have h3:=vi (dC c) ((Dm c d).filter λp=>onR (dC c) (dec p)&&onR (dC d) (dec p)) [];have h4:=List.length_filter_le (λp=>onR (dC c) (dec p)&&onR (dC d) (dec p)) (Dm c d)
 refine⟨by
  unfold fM;rw[ahC,afY]at h3;exact afA h3 (afA h4 h1),Hz λx hx=>?_⟩
 obtain⟨g1,g2⟩:=agV.1 hx;obtain⟨g3,g4⟩:=afz.1 g2;exact⟨h2 x g1,g3,g4⟩
theorem J2(c:Cv)(x:BP):∀r:List BP,r.length<=(fu c r x).length
 |[]=>by simp
 |z::r=>by
  have:=J2 c x r;simp only[fu];cases decide (bz c (dec z) (dec x)<0)
  ·cases aF (dec z) (dec x)==0<;>simp
  ·simp only[cond_true,afD];omega
theorem K3(c:Cv):∀(l out:List BP),out.length<=(l.foldl (fu c) out).length
 |[],_=>afs _
 |x::l,out=>afA (J2 c x out) (K3 c l _)
theorem HV(c:BCU):∀s:List BP,(fj c s).length=s.length-1
 |[]=>rfl
 |[_]=>rfl
 |x::y::r=>by
  have:=HV c (y::r);simp only[fj,afD]at this ⊢;omega
theorem Rb{c:BCU}(h:aF (dec c.2.2.2.2.1) (dec c.2.2.2.2.2)≠0)(l:List BP):2<=(mz c l).length:=by
 unfold mz fM;refine afA ?_ (K3 (dC c) l _);simp only[fu];rw[ag5.2 h];cases decide (bz (dC c) (dec c.2.2.2.2.1) (dec c.2.2.2.2.2)<0)<;>exact afs _
theorem HC{c:BCU}(h:gdN c)(l:List BP):1<=(gr c l).length/\(gr c l).length<=l.length+1:=by
 have h1:=Rb h.2.2.2 l;have h2:=Bh c l;unfold gr;rw[HV];omega
theorem Hl{c:BCU}(h:gdN c){l:List BP}(hl:l.length<=900000)(ho:∀p∈l,okP 580 p/\onR (dC c) (dec p)=true):ye c l:=
 ⟨bZ h.1.1 (by decide) (by decide),hl,λx hx=>⟨cp (ho x hx).1 (by decide) (by decide),(ho x hx).2⟩⟩
def gdM(c:BCU):Prop:=mG c/\em (dC c) (frC (dC c))=true/\em (dC c) (toC (dC c))=true
theorem gdM.gd{c:BCU}(h:gdM c):gdC c:=⟨h.1.1,h.2.1,h.2.2⟩
theorem gdN.m{c:BCU}(h:gdN c):gdM c:=⟨h.1,h.2.1,h.2.2.1⟩
theorem WA{c:BCU}(h:gdN c){l:List BP}(ho:∀p∈l,okP 580 p/\onR (dC c) (dec p)=true):∀p∈gr c l,gdM p:=by
 intro p hp;obtain⟨x,y,hx,hy,e⟩:=AX hp
 have f:∀z,z∈mz c l->okP 580 z/\em (dC c) (dec z)=true:=λz hz=>by
  rcases Bj hz with e|e|e
  ·rw[e];exact⟨h.1.1.2.2.1,h.2.1⟩
  ·rw[e];exact⟨h.1.1.2.2.2,h.2.2.1⟩
  ·exact⟨(ho z e).1,(afz.1 (ho z e).2).1⟩
 obtain⟨x1,x2⟩:=f x hx;obtain⟨y1,y2⟩:=f y hy;rw[e];exact⟨⟨⟨h.1.1.1,h.1.1.2.1,x1,y1⟩,h.1.2⟩,x2,y2⟩
theorem Xr(x:Dr):(ofL x).length<=2:=by
 unfold ofL;cases x.1%3==2
 ·cases x.1%3==1
  ·cases pS (drA x) (drB x) !=0<;>simp
  ·cases pP (drA x) (drB x) (drC x) !=0<;>simp
 ·cases decide ((drB x).1<=0)
  ·unfold DG;simp
  ·simp
theorem Mh{c:BCU}(h:gdN c):∀{l:List BCU},(∀d∈l,gdN d)->(kI c l).length<=4*l.length/\∀p∈kI c l,okP 580 p/\onR (dC c) (dec p)=true
 |[],_=>⟨afs _,λp hp=>by cases hp⟩
 |d::r,hd=>by
  obtain⟨i1,i2⟩:=Mh h (l:=r) (λe he=>hd e (afw _ he));obtain⟨m1,m2⟩:=uZ (show gi c d from⟨h.1,(hd d (by simp)).1⟩);have e:kI c (d::r)=bU c d++kI c r:=rfl;rw[e];refine⟨by rw[afN,afD];omega,λp hp=>?_⟩;rcases afL.1 hp with g|g
  ·exact⟨(m2 p g).1,(m2 p g).2.1⟩
  ·exact i2 p g
def VV(x:Pce)(l:List BCU):BCU:=l.getD (x.2.2%(l.length:Int)).toNat c00
theorem Rg(x:Pce)(h:uT x)(c:BCU)(hc:gdN c)(g0:aG (ofL x.1) 0=some c)(B:List BCU)(hB:ofL x.2.1=B)(gB:∀d∈B,gdN d)(lB:B.length<=2):∀(j i:Nat),i+j=B.length->∀r2:List BP,r2.length<=4*i->(∀p∈r2,okP 580 p/\onR (dC c) (dec p)=true)->
  FE.Runs 18 (r8 x (i:Int) r2) [.d tCU (VV x (gr c (r2++kI c (B.drop i)))),.d .bool true]:=by
 intro j;induction j with
 |zero=>
  intro i hi r2 hr ho;refine wU _ _ _ ⟨0,?_⟩;obtain⟨l1,l2⟩:=HC hc r2;have hs:=Hl hc (l:=r2) (by omega) ho;obtain⟨u1,u2⟩:=h.2.2
  have e1:Int.tmod (i64.wrap x.2.2) ((gr c r2).length:Int)=x.2.2%((gr c r2).length:Int):=by
   rw[aM (by omega) (by omega),Int.tmod_eq_emod_of_nonneg u1]
  have m0:=agu x.2.2 (show((gr c r2).length:Int)≠0 by omega);have m1:=af1 x.2.2 (show 0<((gr c r2).length:Int) by omega);obtain⟨k,hk⟩:=agw m0;have hkl:k<(gr c r2).length:=by omega
  have hd:B.drop i=[]:=List.drop_eq_nil_iff.2 (by omega);have hcut:kI c []=[]:=rfl;unfold qk;rw[hB,bO (by omega),g0];dsimp only;rw[dT hs,dF (show ¬((gr c r2).length:Int)=0 by omega),e1,hk,am,afn hkl,hd,hcut,afO];unfold VV;rw[hk,ahm,List.getD_eq_getElem?_getD,afn hkl];rfl
 |succ j ih=>
  intro i hi r2 hr ho;have hil:i<B.length:=by omega
  have hm:gi c B[i]:=⟨hc.1,(gB _ (afU hil)).1⟩
  obtain⟨m1,m2⟩:=uZ hm
  obtain⟨n,hn⟩:=ih (i+1) (by omega) (r2++bU c B[i]) (by rw[afN];omega) (λp hp=>by
   rcases afL.1 hp with g|g
   ·exact ho p g
   ·exact⟨(m2 p g).1,(m2 p g).2.1⟩)
  have hd:B.drop i=B[i]::B.drop (i+1):=afC hil;have hcut:kI c (B[i]::B.drop (i+1))=bU c B[i]++kI c (B.drop (i+1)):=rfl;refine wU _ _ _ ⟨n,?_⟩;unfold qk;rw[hB,aY hil,g0,am,afn hil];dsimp only;rw[dT hm,dT (by omega),bH (by omega),hd,hcut,<-afG];exact hn
def WQ:Cn 6 [nE]:=cn λ(x:Pce)=>lf (uT x) [.d tCU (aC x),.d .bool (t5 x)] λh=>by
 have hB:=DJ h.2.1;have hA:=DJ h.1;refine dm Tz (Wx _ ?_);unfold M2 aC t5;rw[dT h.1,dT h.2.1];cases hl:ofL x.1 with
 |nil=>exact⟨0,rfl⟩
 |cons c r=>
  rw[hl]at hA;obtain⟨n,hn⟩:=Rg x h c (hA c (by simp)) (by rw[hl];rfl) _ rfl hB (Xr _) _ 0 (afY _) [] (afs _) (λp hp=>by cases hp);refine⟨n,?_⟩;have e:(((c::r).length:Int)==0)=false:=by simp;omega
  rw[e];unfold B8;rw[hl];exact hn
theorem HY{x:Pce}(h:uT x)(ho:t5 x=true):aC x∈B8 x:=by
 have hA:=DJ h.1;unfold aC B8;rw[ho];unfold t5 at ho;cases hl:ofL x.1 with
 |nil=>rw[hl]at ho;cases ho
 |cons c r=>
  rw[hl]at hA;obtain⟨l1,l2⟩:=HC (hA c (by simp)) (kI c (ofL x.2.1));have m0:=agu x.2.2 (show((gr c (kI c (ofL x.2.1))).length:Int)≠0 by omega);have m1:=af1 x.2.2 (show 0<((gr c (kI c (ofL x.2.1))).length:Int) by omega);have hk:(x.2.2%((gr c (kI c (ofL x.2.1))).length:Int)).toNat<(gr c (kI c (ofL x.2.1))).length:=by omega
  simp only[cond_true];rw[List.getD_eq_getElem?_getD,afn hk];exact afU hk
section
section
variable {α:Type} {lt:α->α->Prop} {f:α->α->Int}
theorem JE(h:lO lt):lO (λx y=>lt y x):=⟨h.irr,λx y z a b=>h.tr z y x b a,λx y=>by
 rcases h.tri x y with g|g|g
 ·exact .inr (.inr g)
 ·exact .inr (.inl g)
 ·exact .inl g⟩
theorem IE(h:ub lt f):ub (λx y=>lt y x) (λx y=> -f x y):=λx y=>⟨λg=>(by show-f x y= -1;rw[(h x y).2.2 g]),λg=>(by show-f x y=0;rw[(h x y).2.1 g];rfl),λg=>(by show-f x y=1;rw[(h x y).1 g];rfl)⟩
def aLt(lt:α->α->Prop)(u v:Bool×α):Prop:=(u.1=false/\v.1=true)\/(u.1=false/\v.1=false/\lt u.2 v.2)\/(u.1=true/\v.1=true/\lt v.2 u.2)
theorem GS(h:lO lt):lO (aLt lt):=by
 refine⟨λ⟨a,u⟩ g=>?_,λ⟨a,u⟩ ⟨b,v⟩ ⟨c,w⟩ g g'=>?_,λ⟨a,u⟩ ⟨b,v⟩=>?_⟩
 ·rcases g with⟨g1,g2⟩|⟨_,_,g⟩|⟨_,_,g⟩
  ·rw[g1]at g2;cases g2
  ·exact h.irr _ g
  ·exact h.irr _ g
 ·unfold aLt at*
  cases a<;>cases b<;>cases c<;>simp only[true_and,false_and,and_false,aiv,ah6,false_or,reduceCtorEq,and_self]at g g' ⊢
  ·exact h.tr _ _ _ g g'
  ·exact h.tr _ _ _ g' g
 ·unfold aLt;cases a<;>cases b<;>simp only[true_and,false_and,and_false,aiv,ah6,false_or,reduceCtorEq,and_self,or_true,true_or]
  ·rcases h.tri u v with g|g|g
   ·exact .inl g
   ·exact .inr (.inl (by rw[g]))
   ·exact .inr (.inr g)
  ·rcases h.tri u v with g|g|g
   ·exact .inr (.inr g)
   ·exact .inr (.inl (by rw[g]))
   ·exact .inl g
theorem Nx(h:ub lt f):ub (aLt lt) (jr f):=λ⟨a,u⟩ ⟨b,v⟩=>by
 refine⟨λg=>?_,λg=>?_,λg=>?_⟩
 ·unfold aLt at g;unfold jr;cases a<;>cases b<;>simp only[true_and,false_and,and_false,aiv,ah6,false_or,reduceCtorEq,and_self]at g
  ·exact(h u v).1 g
  ·rfl
  ·show-f u v= -1;rw[(h u v).2.2 g]
 ·injection g with g1 g2;subst g1 g2;unfold jr;have:=(h u u).2.1 rfl;cases a
  ·exact this
  ·show-f u u=0;rw[this];rfl
 ·unfold aLt at g;unfold jr;cases a<;>cases b<;>simp only[true_and,false_and,and_false,aiv,ah6,false_or,reduceCtorEq,and_self]at g
  ·exact(h u v).2.2 g
  ·rfl
  ·show-f u v=1;rw[(h u v).1 g];rfl
def cLt(lt:α->α->Prop)(o u v:α):Prop:=(¬lt u o/\lt v o)\/((lt u o↔lt v o)/\lt u v)
theorem zi(h:lO lt)(o:α):lO (cLt lt o):=by
 refine⟨λu g=>?_,λu v w g g'=>?_,λu v=>?_⟩
 ·rcases g with⟨g1,g2⟩|⟨_,g⟩
  ·exact g1 g2
  ·exact h.irr _ g
 ·rcases g with⟨g1,g2⟩|⟨g1,g2⟩<;>rcases g' with⟨g3,g4⟩|⟨g3,g4⟩
  ·exact absurd g2 g3
  ·exact .inl ⟨g1,g3.1 g2⟩
  ·exact .inl ⟨λe=>g3 (g1.1 e),g4⟩
  ·exact .inr ⟨g1.trans g3,h.tr _ _ _ g2 g4⟩
 ·by_cases e1:lt u o<;>by_cases e2:lt v o
  ·rcases h.tri u v with g|g|g
   ·exact .inl (.inr ⟨⟨λ_=>e2,λ_=>e1⟩,g⟩)
   ·exact .inr (.inl g)
   ·exact .inr (.inr (.inr ⟨⟨λ_=>e1,λ_=>e2⟩,g⟩))
  ·exact .inr (.inr (.inl ⟨e2,e1⟩))
  ·exact .inl (.inl ⟨e1,e2⟩)
  ·rcases h.tri u v with g|g|g
   ·exact .inl (.inr ⟨⟨λe=>absurd e e1,λe=>absurd e e2⟩,g⟩)
   ·exact .inr (.inl g)
   ·exact .inr (.inr (.inr ⟨⟨λe=>absurd e e2,λe=>absurd e e1⟩,g⟩))
theorem xB(hl:lO lt)(h:ub lt f)(x y:α):decide (f x y<0)=true↔lt x y:=by
 rw[agW];rcases hl.tri x y with g|g|g
 ·rw[(h x y).1 g];exact⟨λ_=>g,λ_=>by decide⟩
 ·rw[(h x y).2.1 g];exact⟨λe=>absurd e (by decide),λe=>absurd e (by rw[g];exact hl.irr _)⟩
 ·rw[(h x y).2.2 g];exact⟨λe=>absurd e (by decide),λe=>absurd (hl.tr _ _ _ e g) (hl.irr _)⟩
theorem xp(hl:lO lt)(h:ub lt f)(o:Bool×α):ub (cLt (aLt lt) o) (jM f o):=λu v=>by
 have ha:=Nx h;have n:=xB (GS hl) ha
 have tf:∀x,¬aLt lt x o->decide (jr f x o<0)=false:=λx g=>by
  cases e:decide (jr f x o<0)
  ·rfl
  ·exact absurd ((n x o).1 e) g
 unfold jM;refine⟨λg=>?_,λg=>?_,λg=>?_⟩
 ·rcases g with⟨g1,g2⟩|⟨g1,g2⟩
  ·rw[tf u g1,(n v o).2 g2];rfl
  ·have e:(decide (jr f u o<0)==decide (jr f v o<0))=true:=by
    by_cases e:aLt lt u o
    ·rw[(n u o).2 e,(n v o).2 (g1.1 e)];rfl
    ·rw[tf u e,tf v (λe'=>e (g1.2 e'))];rfl
   rw[e];exact(ha u v).1 g2
 ·subst g;rw[beq_self_eq_true];exact(ha u u).2.1 rfl
 ·rcases g with⟨g1,g2⟩|⟨g1,g2⟩
  ·rw[tf v g1,(n u o).2 g2];rfl
  ·have e:(decide (jr f u o<0)==decide (jr f v o<0))=true:=by
    by_cases e:aLt lt u o
    ·rw[(n u o).2 e,(n v o).2 (g1.2 e)];rfl
    ·rw[tf u e,tf v (λe'=>e (g1.1 e'))];rfl
   rw[e];exact(ha u v).2.2 g2
end
def Sp(c:Cv)(p:Pt):Prop:=Rpd p/\em c p=true
structure Crp (c:Cv):Prop where
 f:Sp c (frC c)
 t:Sp c (toC c)
 q:c.1=true->0<(ciC c).2.2
 l:c.1=false->(lnC c).1≠0\/(lnC c).2.1≠0
theorem qf{c:BCU}(h:gdC c):Crp (dC c):=by
 obtain⟨h1,h2,h3⟩:=h;exact⟨⟨fd h1.2.2.1,h2⟩,⟨fd h1.2.2.2,h3⟩,λe=>(h1.1 e).2,λe=>(h1.2.1 e).2⟩
open RE in
theorem Crp.e{c:Cv}(h:Crp c)(hne:aF (frC c) (toC c)≠0):GdE c:=by
 have hf:=h.f.1;have ht:=h.t.1;have s:=λp (hp:Sp c p)=>hp.2;refine⟨hf,ht,λe=>hne (cmpP_0.2 e),λe=>?_,λe=>?_⟩
 ·have h2:=h.f.2;have h3:=h.t.2;unfold em at h2 h3;rw[e]at h2 h3;exact⟨h.q e,ins_on (agl.1 h2),ins_on (agl.1 h3)⟩
 ·have h2:=h.f.2;have h3:=h.t.2;unfold em at h2 h3;rw[e]at h2 h3;exact⟨h.l e,Et (agl.1 h2),Et (agl.1 h3)⟩
namespace RE
theorem D9(v w:RE):((v-(w))*(v-(w)))+((w*w-(v*v)))+2*((w-(0))*(v-(w)))=0:=by grind
theorem Po(v w:RE)(h1:v*v=w*w)(_h2:0<=v)(h3:0<=w):v<=w:=λhg=>far (aS (aS (mul_pos (aX hg) (aX hg)) (aK (sC h1))) (ld (by decide+kernel:(0:Rat)<2) (cz (aK h3) (le_of_lt (aX hg))))) (D9 v w)
theorem El(v w:RE):((w-(v))*(w-(v)))+((v*v-(w*w)))+2*((v-(0))*(w-(v)))=0:=by grind
theorem NH(v w:RE)(h1:v*v=w*w)(h2:0<=v)(_h3:0<=w):w<=v:=λhg=>far (aS (aS (mul_pos (aX hg) (aX hg)) (aK (rE h1))) (ld (by decide+kernel:(0:Rat)<2) (cz (aK h2) (le_of_lt (aX hg))))) (El v w)
theorem Qh(v w:RE)(h1:v*v=w*w)(h2:0<=v)(h3:0<=w):v=w:=le_antisymm (Po v w h1 h2 h3) (NH v w h1 h2 h3)
theorem DK(v w:RE):((v-(w))*(v-(w)))+((v*v-(w*w)))+2*((0-(v))*(v-(w)))=0:=by grind
theorem Iq(v w:RE)(h1:v*v=w*w)(h2:v<=0)(_h3:w<=0):v<=w:=λhg=>far (aS (aS (mul_pos (aX hg) (aX hg)) (aK (rE h1))) (ld (by decide+kernel:(0:Rat)<2) (cz (aK h2) (le_of_lt (aX hg))))) (DK v w)
theorem CH(v w:RE):((w-(v))*(w-(v)))+((w*w-(v*v)))+2*((0-(w))*(w-(v)))=0:=by grind
theorem IB(v w:RE)(h1:v*v=w*w)(_h2:v<=0)(h3:w<=0):w<=v:=λhg=>far (aS (aS (mul_pos (aX hg) (aX hg)) (aK (sC h1))) (ld (by decide+kernel:(0:Rat)<2) (cz (aK h3) (le_of_lt (aX hg))))) (CH v w)
theorem MZ(v w:RE)(h1:v*v=w*w)(h2:v<=0)(h3:w<=0):v=w:=le_antisymm (Iq v w h1 h2 h3) (IB v w h1 h2 h3)
theorem WF(u v w Q:RE)(h1:u*u+v*v=Q)(h2:u*u+w*w=Q):v*v<=w*w:=by grind
theorem Wn(u v w Q:RE)(h1:u*u+v*v=Q)(h2:u*u+w*w=Q):w*w<=v*v:=by grind
theorem adx(u v w Q:RE)(h1:u*u+v*v=Q)(h2:u*u+w*w=Q):v*v=w*w:=le_antisymm (WF u v w Q h1 h2) (Wn u v w Q h1 h2)
theorem Jv(a b:RE)(h1: -a= -b):a<=b:=by grind
theorem K8(a b:RE)(h1: -a= -b):b<=a:=by grind
theorem Ss(a b:RE)(h1: -a= -b):a=b:=le_antisymm (Jv a b h1) (K8 a b h1)
theorem BS{u v:RE}:(upA (cls u v)=true->0<=v)/\(upA (cls u v)=false->v<=0)/\(ufA (cls u v)=true->0<=v)/\(ufA (cls u v)=false->v<=0):=by
 unfold cls upA ufA;rcases df v with⟨h,e⟩|⟨h,e⟩|⟨h,e⟩<;>rw[e]
 ·exact⟨λ_=>le_of_lt h,λg=>(by cases g),λ_=>le_of_lt h,λg=>(by cases g)⟩
 ·rw[h];exact⟨λ_=>le_refl _,λ_=>le_refl _,λ_=>le_refl _,λ_=>le_refl _⟩
 ·exact⟨λg=>(by cases g),λ_=>le_of_lt h,λg=>(by cases g),λ_=>le_of_lt h⟩
theorem HT{c:Ln}{p q:Pt}(hp:onCi c p)(hq:onCi c q)(hx:pX p=pX q)(g:(0<=pY p-of c.2.1/\0<=pY q-of c.2.1)\/(pY p-of c.2.1<=0/\pY q-of c.2.1<=0)):pR p=pR q:=by
 unfold onCi at hp hq;rw[hx]at hp;have e:=adx _ _ _ _ hp hq;refine ais hx ?_;rcases g with⟨a,b⟩|⟨a,b⟩
 ·exact rN _ _ _ (Qh _ _ e a b)
 ·exact rN _ _ _ (MZ _ _ e a b)
end RE
open RE in
theorem fb{c:Cv}(ha:c.1=true){p:Pt}(hp:Sp c p):onCi (ciC c) p:=by
 have:=hp.1;have g:=hp.2;unfold em at g;rw[ha]at g;exact ins_on (agl.1 g)
open RE in
theorem AK{c:Cv}(h:Crp c)(ha:c.1=true):∃κ:Pt->Bool×RE,(∀d:Cv,d.1=true->ciC d=ciC c->cwC d=cwC c->Sp c (frC d)->∀p q,Sp c p->Sp c q->bz d p q=jM (λx y:RE=>sg (x-y)) (κ (frC d)) (κ p) (κ q))/\∀p q,Sp c p->Sp c q->(κ p=κ q↔aF p q=0):=by
 cases hw:cwC c
 ·refine⟨λp=>(upR (ciC c) p,pX p),λd d1 d2 d3 hd p q hp hq=>?_,λp q hp hq=>?_⟩
  ·have i1:=hd.1;have:=hp.1;have:=hq.1;have e:∀{x y:Pt},Rpd x->Rpd y->bj (xP x) (xP y)=sg (pX x-pX y):=λ{x y} _ _=>by rw[cmpT_re ny ny,uW,uW]
   unfold bz;rw[d1,d3,cond_true,cond_false,d2];exact fy (e hp.1 i1) (e hq.1 i1) (e hp.1 hq.1)
  ·have r1:=hp.1;have r2:=hq.1;rw[cmpP_0];constructor
   ·intro e;injection e with e1 e2;rw[ja,ja]at e1;refine HT (fb ha hp) (fb ha hq) e2 ?_;cases g:upA (cls (pX p-of (ciC c).1) (pY p-of (ciC c).2.1))
    ·exact .inr ⟨BS.2.1 g,BS.2.1 (e1.symm.trans g)⟩
    ·exact .inl ⟨BS.1 g,BS.1 (e1.symm.trans g)⟩
   ·intro e;have e1:pX p=pX q:=congrArg Prod.fst e;have e2:pY p=pY q:=congrArg Prod.snd e;show(upR (ciC c) p,pX p)=(upR (ciC c) q,pX q)
    rw[ja,ja,e1,e2]
 ·refine⟨λp=>(upR (flC (ciC c)) (flP p),-pX p),λd d1 d2 d3 hd p q hp hq=>?_,λp q hp hq=>?_⟩
  ·have i1:=hd.1;have:=hp.1;have:=hq.1;have e:∀{x y:Pt},Rpd x->Rpd y->bj (xP (flP x)) (xP (flP y))=sg (-pX x- -pX y):=λ{x y} _ _=>by rw[cmpT_re ny ny,uW,uW,BD,BD]
   unfold bz;rw[d1,d3,cond_true,cond_true,d2];exact fy (e hp.1 i1) (e hq.1 i1) (e hp.1 hq.1)
  ·have r1:=hp.1;have r2:=hq.1;rw[cmpP_0];have u1:=uL (h.q ha) (fb ha hp);have u2:=uL (h.q ha) (fb ha hq);constructor
   ·intro e;injection e with e1 e2;rw[u1,u2]at e1;refine HT (fb ha hp) (fb ha hq) (Ss _ _ e2) ?_;cases g:ufA (cls (pX p-of (ciC c).1) (pY p-of (ciC c).2.1))
    ·exact .inr ⟨BS.2.2.2 g,BS.2.2.2 (e1.symm.trans g)⟩
    ·exact .inl ⟨BS.2.2.1 g,BS.2.2.1 (e1.symm.trans g)⟩
   ·intro e;have e1:pX p=pX q:=congrArg Prod.fst e;have e2:pY p=pY q:=congrArg Prod.snd e;show(upR (flC (ciC c)) (flP p),-pX p)=(upR (flC (ciC c)) (flP q),-pX q)
    rw[u1,u2,e1,e2]
open RE in
theorem se{c:Cv}(h:Crp c):∃(K:Type) (lt:K->K->Prop) (κ:Pt->K) (f:K->K->Int),lO lt/\ub lt f/\(∀p q,Sp c p->Sp c q->bz c p q=f (κ p) (κ q))/\∀p q,Sp c p->Sp c q->(κ p=κ q↔aF p q=0):=by
 have hF:=h.f;cases ha:c.1
 ·cases hd:decide (aF (frC c) (toC c)>0)
  ·refine⟨PE,X6,pR,lxc,jz,gX,λp q hp hq=>?_,λp q hp hq=>?_⟩
   ·have:=hp.1;have:=hq.1;unfold bz;rw[ha,hd,cond_false,cond_false,lk]
   ·have:=hp.1;have:=hq.1;exact cmpP_0.symm
  ·refine⟨PE,_,pR,_,JE jz,IE gX,λp q hp hq=>?_,λp q hp hq=>?_⟩
   ·have:=hp.1;have:=hq.1;unfold bz;rw[ha,hd,cond_false,cond_true,lk]
   ·have:=hp.1;have:=hq.1;exact cmpP_0.symm
 ·obtain⟨κ,h1,h2⟩:=AK h ha;exact⟨Bool×RE,_,κ,_,zi (GS lt_lin) (κ (frC c)),xp lt_lin sg_cmpO _,h1 c ha rfl rfl hF,h2⟩
structure Ord (c:Cv):Prop where
 tr:∀{p q r},Sp c p->Sp c q->Sp c r->bz c p q<0->bz c q r<0->bz c p r<0
 tri:∀{p q},Sp c p->Sp c q->bz c p q<0\/aF p q=0\/bz c q p<0
 irr:∀{p q},Sp c p->Sp c q->aF p q=0->bz c p q=0
 asy:∀{p q},Sp c p->Sp c q->bz c p q<0->0<bz c q p
theorem qI{c:Cv}(h:Crp c):Ord c:=by
 obtain⟨K,lt,κ,f,hl,hc,ho,hk⟩:=se h
 have n:∀{p q},Sp c p->Sp c q->(bz c p q<0↔lt (κ p) (κ q)):=λ{p q} hp hq=>by
  rw[ho p q hp hq,<-agW (p:=f (κ p) (κ q)<0)];exact xB hl hc _ _
 refine⟨λ{p q r} hp hq hr g g'=>?_,λ{p q} hp hq=>?_,λ{p q} hp hq g=>?_,λ{p q} hp hq g=>?_⟩
 ·rw[n hp hr];exact hl.tr _ _ _ ((n hp hq).1 g) ((n hq hr).1 g')
 ·rw[n hp hq,n hq hp,<-hk p q hp hq];exact hl.tri _ _
 ·rw[ho p q hp hq,(hc _ _).2.1 ((hk p q hp hq).2 g)]
 ·rw[ho q p hq hp,(hc _ _).2.2 ((n hp hq).1 g)];decide
def Spb(c:Cv)(x:BP):Prop:=Sp c (dec x)
theorem Jm{c:Cv}(o:Ord c){x:BP}(hx:Spb c x):∀{l:List BP},(∀y∈l,Spb c y)->l.Pairwise (λa b=>bz c (dec a) (dec b)<0)->(fu c l x).Pairwise (λa b=>bz c (dec a) (dec b)<0)
 |[],_,_=>by simp[fu]
 |y::r,hl,hp=>by
  have hy:=hl y (by simp);have hr:∀z∈r,Spb c z:=λz hz=>hl z (afw _ hz);obtain⟨p1,p2⟩:=afK.1 hp;simp only[fu];by_cases h1:bz c (dec y) (dec x)<0
  ·rw[afm h1,cond_true];refine afK.2 ⟨λz hz=>?_,Jm o hx hr p2⟩;rcases oR hz with g|g
   ·exact p1 z g
   ·rw[g];exact h1
  ·rw[afo h1,cond_false];by_cases h2:aF (dec y) (dec x)=0
   ·rw[agl.2 h2,cond_true];exact hp
   ·rw[ag5.2 h2,cond_false]
    have h3:bz c (dec x) (dec y)<0:=by
     rcases o.tri hy hx with g|g|g
     ·exact absurd g h1
     ·exact absurd g h2
     ·exact g
    refine afK.2 ⟨λz hz=>?_,hp⟩;rcases afy.1 hz with g|g
    ·rw[g];exact h3
    ·exact o.tr hx hy (hr z g) h3 (p1 z g)
theorem GQ{c:Cv}(o:Ord c):∀{l out:List BP},(∀y∈l,Spb c y)->(∀y∈out,Spb c y)->out.Pairwise (λa b=>bz c (dec a) (dec b)<0)->(l.foldl (fu c) out).Pairwise (λa b=>bz c (dec a) (dec b)<0)
 |[],_,_,_,h=>h
 |x::l,out,hl,ho,h=>GQ o (l:=l) (λy hy=>hl y (afw _ hy)) (λy hy=>by
   rcases oR hy with g|g
   ·exact ho y g
   ·rw[g];exact hl x (by simp)) (Jm o (hl x (by simp)) ho h)
theorem Yw{c:Cv}(o:Ord c){l:List BP}(hl:∀y∈l,Spb c y):(fM c l).Pairwise (λa b=>bz c (dec a) (dec b)<0):=GQ o hl (λy hy=>by cases hy) List.Pairwise.nil
theorem FG{c:BCU}{R:BP->BP->Prop}{p:BCU}:∀{s:List BP},s.Pairwise R->p∈fj c s->∃x y,x∈s/\y∈s/\R x y/\p=fc c x y
 |[],_,h=>by cases h
 |[_],_,h=>by cases h
 |x::y::r,hp,h=>by
  obtain⟨p1,p2⟩:=afK.1 hp;simp only[fj]at h;rcases afy.1 h with h|h
  ·exact⟨x,y,by simp,by simp,p1 y (by simp),h⟩
  ·obtain⟨a,b,h1,h2,h3,h4⟩:=FG p2 h;exact⟨a,b,afw _ h1,afw _ h2,h3,h4⟩
theorem tg{c:BCU}(h:gdN c){l:List BP}(ho:∀p∈l,okP 580 p/\onR (dC c) (dec p)=true):∀x∈mz c l,okP 580 x/\Spb (dC c) x:=by
 intro z hz;rcases Bj hz with e|e|e
 ·rw[e];exact⟨h.1.1.2.2.1,fd h.1.1.2.2.1,h.2.1⟩
 ·rw[e];exact⟨h.1.1.2.2.2,fd h.1.1.2.2.2,h.2.2.1⟩
 ·exact⟨(ho z e).1,fd (ho z e).1,(afz.1 (ho z e).2).1⟩
theorem EC{c:BCU}(h:gdN c){l:List BP}(ho:∀p∈l,okP 580 p/\onR (dC c) (dec p)=true):(mz c l).Pairwise (λa b=>bz (dC c) (dec a) (dec b)<0):=by
 refine Yw (qI (qf h.gd)) λy hy=>?_;rcases afL.1 hy with hy|hy
 ·simp only[afy,agF,ah6]at hy;rcases hy with e|e
  ·rw[e];exact⟨fd h.1.1.2.2.1,h.2.1⟩
  ·rw[e];exact⟨fd h.1.1.2.2.2,h.2.2.1⟩
 ·exact⟨fd (ho y hy).1,(afz.1 (ho y hy).2).1⟩
theorem QD{c:BCU}(h:gdN c){l:List BP}(ho:∀p∈l,okP 580 p/\onR (dC c) (dec p)=true):∀p∈gr c l,gdN p:=by
 intro p hp;have hm:=WA h ho p hp;obtain⟨x,y,hx,hy,hr,e⟩:=FG (EC h ho) hp;have o:=qI (qf h.gd);refine⟨hm.1,hm.2.1,hm.2.2,λg=>?_⟩;rw[e]at g;have:=o.irr (tg h ho x hx).2 (tg h ho y hy).2 g;omega
theorem RT{x:Pce}(h:uT x):∀p∈B8 x,gdN p:=by
 intro p hp;have hA:=DJ h.1;unfold B8 at hp;cases hl:ofL x.1 with
 |nil=>rw[hl]at hp;cases hp
 |cons c r=>
  rw[hl]at hp hA;exact QD (hA c (by simp)) (Mh (hA c (by simp)) (DJ h.2.1)).2 p hp
theorem z9{x:Pce}(h:uT x)(ho:t5 x=true):gdN (aC x):=RT h _ (HY h ho)
theorem gdN.e{c:BCU}(h:gdN c):RE.GdE (dC c):=(qf h.gd).e h.2.2.2
end
def uS(c:Cv)(p q:Pt):Int:=bif c.1 then(bif cwC c then-(eI bj (ptd (ciC c) (toC c)) (ptd (ciC c) p) (ptd (ciC c) q))else eI bj (ptd (ciC c) (frC c)) (ptd (ciC c) p) (ptd (ciC c) q))else aF p q*aF (toC c) (frC c)
namespace RE
theorem QI:∀kF kP kQ:Fin 4,∀iF iP iQ:Fin 3,Ea kF.1 iF.1 kP.1 iP.1 kQ.1 iQ.1=true->
  eI cI (upA kF.1,iF.1) (upA kP.1,iP.1) (upA kQ.1,iQ.1)=jM cI (upA kF.1,iF.1) (upA kP.1,iP.1) (upA kQ.1,iQ.1):=by decide+kernel
theorem W7:∀kF kT:Fin 4,∀iF iT:Fin 4,(me kF.1 iF.1 kT.1 iT.1&&me kT.1 iT.1 kF.1 iF.1)=true->∀kP iP:Fin 4,(me kF.1 iF.1 kP.1 iP.1&&me kP.1 iP.1 kF.1 iF.1&&me kT.1 iT.1 kP.1 iP.1&&me kP.1 iP.1 kT.1 iT.1&&decide (eI cI (upA kT.1,iT.1) (upA kP.1,iP.1) (upA kF.1,iF.1)<=0))=true->
  ∀kQ iQ:Fin 4,(me kF.1 iF.1 kQ.1 iQ.1&&me kQ.1 iQ.1 kF.1 iF.1&&me kT.1 iT.1 kQ.1 iQ.1&&me kQ.1 iQ.1 kT.1 iT.1&&me kP.1 iP.1 kQ.1 iQ.1&&me kQ.1 iQ.1 kP.1 iP.1&&decide (eI cI (upA kT.1,iT.1) (upA kQ.1,iQ.1) (upA kF.1,iF.1)<=0))=true->
  -(eI cI (upA kT.1,iT.1) (upA kP.1,iP.1) (upA kQ.1,iQ.1))=jM dI (ufA kF.1,iF.1) (ufA kP.1,iP.1) (ufA kQ.1,iQ.1):=by decide+kernel
theorem Fk{ci:Ln}{F P Q:Pt}[Rpd F][Rpd P][Rpd Q](hQ:0<ci.2.2)(hF:onCi ci F)(hP:onCi ci P)(hq:onCi ci Q):
  eI bj (ptd ci F) (ptd ci P) (ptd ci Q)=jM bj (ptd ci F) (ptd ci P) (ptd ci Q):=by
 have mF:pX F∈[pX F,pX P,pX Q]:=by simp
 have mP:pX P∈[pX F,pX P,pX Q]:=by simp
 have mQ:pX Q∈[pX F,pX P,pX Q]:=by simp
 have h0:0<of ci.2.2:=jF hQ
 have hcon:Ea (cls (pX F-of ci.1) (pY F-of ci.2.1)) (rk (λa b:RE=>a<b) [pX F,pX P,pX Q] (pX F)) (cls (pX P-of ci.1) (pY P-of ci.2.1)) (rk (λa b:RE=>a<b) [pX F,pX P,pX Q] (pX P)) (cls (pX Q-of ci.1) (pY Q-of ci.2.1)) (rk (λa b:RE=>a<b) [pX F,pX P,pX Q] (pX Q))=true:=by
  unfold Ea;rw[cV h0 hF hP mF mP,cV h0 hP hF mP mF,cV h0 hF hq mF mQ,cV h0 hq hF mQ mF,cV h0 hP hq mP mQ,cV h0 hq hP mQ mP];rfl
 have a:=QI ⟨_,lN (pX F-of ci.1) (pY F-of ci.2.1)⟩ ⟨_,lN (pX P-of ci.1) (pY P-of ci.2.1)⟩ ⟨_,lN (pX Q-of ci.1) (pY Q-of ci.2.1)⟩ ⟨_,kX lt_lin mF⟩ ⟨_,kX lt_lin mP⟩ ⟨_,kX lt_lin mQ⟩ hcon;simp only at a;unfold ptd;rw[ja,ja,ja,iA (eN mP mF) (eN mQ mF) (eN mP mQ),fy (eN mP mF) (eN mQ mF) (eN mP mQ)];exact a
theorem aap{ci:Ln}{F T P Q:Pt}[Rpd F][Rpd T][Rpd P][Rpd Q](hQ:0<ci.2.2)(hF:onCi ci F)(hT:onCi ci T)(hP:onCi ci P)(hq:onCi ci Q)
  (oP:decide (eI bj (ptd ci T) (ptd ci P) (ptd ci F)<=0)=true) (oQ:decide (eI bj (ptd ci T) (ptd ci Q) (ptd ci F)<=0)=true):
  -(eI bj (ptd ci T) (ptd ci P) (ptd ci Q))=jM bj (ptd (flC ci) (flP F)) (ptd (flC ci) (flP P)) (ptd (flC ci) (flP Q)):=by
 have mF:pX F∈[pX F,pX T,pX P,pX Q]:=by simp
 have mT:pX T∈[pX F,pX T,pX P,pX Q]:=by simp
 have mP:pX P∈[pX F,pX T,pX P,pX Q]:=by simp
 have mQ:pX Q∈[pX F,pX T,pX P,pX Q]:=by simp
 have h0:0<of ci.2.2:=jF hQ;revert oP oQ;unfold ptd;rw[ja,ja,ja,ja,uL hQ hF,uL hQ hP,uL hQ hq,iA (eN mP mT) (eN mF mT) (eN mP mF),iA (eN mQ mT) (eN mF mT) (eN mQ mF),iA (eN mP mT) (eN mQ mT) (eN mP mQ),fy (mO mP mF) (mO mQ mF) (mO mP mQ)];intro oP oQ;refine W7 ⟨_,lN (pX F-of ci.1) (pY F-of ci.2.1)⟩ ⟨_,lN (pX T-of ci.1) (pY T-of ci.2.1)⟩ ⟨_,kX lt_lin mF⟩ ⟨_,kX lt_lin mT⟩ ?_ ⟨_,lN (pX P-of ci.1) (pY P-of ci.2.1)⟩ ⟨_,kX lt_lin mP⟩ ?_ ⟨_,lN (pX Q-of ci.1) (pY Q-of ci.2.1)⟩ ⟨_,kX lt_lin mQ⟩ ?_
 ·simp only;rw[cV h0 hF hT mF mT,cV h0 hT hF mT mF];rfl
 ·simp only;rw[cV h0 hF hP mF mP,cV h0 hP hF mP mF,cV h0 hT hP mT mP,cV h0 hP hT mP mT,oP];rfl
 ·simp only;rw[cV h0 hF hq mF mQ,cV h0 hq hF mQ mF,cV h0 hT hq mT mQ,cV h0 hq hT mQ mT,cV h0 hP hq mP mQ,cV h0 hq hP mQ mP,oQ];rfl
theorem jX{p q:Pt}[Rpd p][Rpd q]:aF p q= -aF q p:=by
 rw[lk,lk];rcases jz.tri (pR p) (pR q)with h|h|h
 ·rw[(gX _ _).1 h,(gX _ _).2.2 h]
 ·rw[h,(gX (pR q) (pR q)).2.1 rfl];rfl
 ·rw[(gX _ _).2.2 h,(gX _ _).1 h];rfl
theorem ord_eq{c:Cv}(h:Crp c)(hne:aF (frC c) (toC c)≠0){p q:Pt}(hp:Rpd p)(hq:Rpd q)(op:onP c p=true)(oq:onP c q=true):uS c p q=bz c p q:=by
 have hf:=h.f.1;have ht:=h.t.1;unfold onP at op oq;obtain⟨sp,rp⟩:=afz.1 op;obtain⟨sq,rq⟩:=afz.1 oq;unfold uS bz;unfold gT at rp rq;cases ha:c.1
 ·rw[cond_false,cond_false,jX (p:=toC c)];have hb:=lc (frC c) (toC c);by_cases hd:aF (frC c) (toC c)>0
  ·rw[afm hd,cond_true,show aF (frC c) (toC c)=1 by omega];omega
  ·rw[afo hd,cond_false,show aF (frC c) (toC c)= -1 by omega];omega
 ·rw[ha,cond_true]at rp rq;rw[cond_true,cond_true];have q0:=h.q ha;have oF:=fb ha h.f;have oT:=fb ha h.t;have oP:=fb ha ⟨hp,sp⟩;have oQ:=fb ha ⟨hq,sq⟩;unfold ccF ccT at rp rq;cases hw:cwC c
  ·rw[cond_false,cond_false];exact Fk q0 oF oP oQ
  ·rw[hw,cond_true,cond_true]at rp rq;rw[cond_true,cond_true];exact aap q0 oF oT oP oQ rp rq
end RE
theorem P2(f p q:Bool×Rt): -1<=eI bj f p q/\eI bj f p q<=1:=by
 have h:∀n,-1<=yf n/\yf n<=1:=λn=>by
  unfold yf;split<;>(try split)<;>omega
 unfold eI;cases nC bj f p==nC bj f q
 ·exact h _
 ·exact h _
def abd:List En:=[enT Pw,enT Kt]
def S9(c:BCU)(p q:BP)(_k:KT):OLR:=match !c.1 with|true=>(og (decide (okP 4000 p/\okP 4000 q)) (og (decide (okP 4000 c.2.2.2.2.2/\okP 4000 c.2.2.2.2.1)) (some [RV.d aiy (i64.wrap ((aF (dec p) (dec q))*(aF (dec c.2.2.2.2.2) (dec c.2.2.2.2.1))))])))|false=>(match c.2.2.2.1 with|true=>(og (decide (ok Ln 300 c.2.2.1/\okP 4000 c.2.2.2.2.2/\okP 4000 p/\okP 4000 q)) (some [RV.d aiy (i64.wrap (0-(eI bj (ptd (dec c.2.2.1) (dec c.2.2.2.2.2)) (ptd (dec c.2.2.1) (dec p)) (ptd (dec c.2.2.1) (dec q)))))]))|false=>(og (decide (ok Ln 300 c.2.2.1/\okP 4000 c.2.2.2.2.1/\okP 4000 p/\okP 4000 q)) (some [RV.d aiy (eI bj (ptd (dec c.2.2.1) (dec c.2.2.2.2.1)) (ptd (dec c.2.2.1) (dec p)) (ptd (dec c.2.2.1) (dec q)))])))
def UC:Cn 101 [tCU,tP,tP]:=cn λ(c:BCU) (p q:BP)=>lf (okC 4000 c/\okP 4000 p/\okP 4000 q) [.d aiy (uS (dC c) (dec p) (dec q))] λh=>by
 refine az abd (S9 c p q) ⟨0,?_⟩;obtain⟨hc,hp,hq⟩:=h;obtain⟨ar,li,ci,cw,fr,to⟩:=c;have h3:=hc.2.2.1;have h4:=hc.2.2.2;simp only at h3 h4;unfold S9 uS;cases ar
 ·have b1:=lc (dec p) (dec q);have b2:=lc (dec to) (dec fr);simp only[dT (show okP 4000 p/\okP 4000 q from⟨hp,hq⟩),dT (show okP 4000 to/\okP 4000 fr from⟨h4,h3⟩),E2 b1 b2];rfl
 ·have e:=(hc.1 rfl).1;simp only at e;cases cw
  ·simp only[dT (show ok Ln 300 ci/\okP 4000 fr/\okP 4000 p/\okP 4000 q from⟨e,h3,hp,hq⟩)];rfl
  ·have b:=P2 (ptd (dec ci) (dec to)) (ptd (dec ci) (dec p)) (ptd (dec ci) (dec q));simp only[dT (show ok Ln 300 ci/\okP 4000 to/\okP 4000 p/\okP 4000 q from⟨e,h4,hp,hq⟩)];try dsimp only[Bool.not_true]
   rw[aM (x:=0-eI bj (ptd (dec ci) (dec to)) (ptd (dec ci) (dec p)) (ptd (dec ci) (dec q))) (by omega) (by omega),ahl];rfl
theorem np{α:Type}{lt:α->α->Prop}(h:lO lt){L:List α}{a b:α}(ha:a∈L)(hb:b∈L):lt a b↔rk lt L a<rk lt L b:=by
 refine⟨λg=>rW h g ha,λg=>?_⟩;rcases h.tri a b with e|e|e
 ·exact e
 ·rw[e]at g;omega
 ·have:=rW h e hb;omega
theorem H3{α:Type}{lt:α->α->Prop}{f:α->α->Int}(hl:lO lt)(h:ub lt f)(x y:α):f x y<=0↔¬lt y x:=by
 rcases hl.tri x y with g|g|g
 ·rw[(h x y).1 g];exact⟨λ_ e=>hl.irr _ (hl.tr _ _ _ e g),λ_=>by decide⟩
 ·rw[(h x y).2.1 g];exact⟨λ_ e=>by rw[g]at e;exact hl.irr _ e,λ_=>by decide⟩
 ·rw[(h x y).2.2 g];exact⟨λe=>absurd e (by decide),λe=>absurd g e⟩
theorem gW{α:Type}{lt:α->α->Prop}{f:α->α->Int}(hl:lO lt)(h:ub lt f)(x y:α):f x y<0↔lt x y:=by
 rw[<-agW (p:=f x y<0)];exact xB hl h x y
def pcC(c:Cv)(x y:Pt):Cv:=(c.1,c.2.1,c.2.2.1,c.2.2.2.1,x,y)
structure Qu (c:Cv):Prop extends Ord c where
 le:∀{p q},Sp c p->Sp c q->(bz c p q<=0↔¬bz c q p<0)
 lt:∀{p q r},Sp c p->Sp c q->Sp c r->¬bz c q p<0->¬bz c r q<0->¬bz c r p<0
theorem pe{c:Cv}(h:Crp c):Qu c:=by
 obtain⟨K,lt,κ,f,hl,hc,ho,hk⟩:=se h;refine⟨qI h,λ{p q} hp hq=>?_,λ{p q r} hp hq hr=>?_⟩
 ·rw[ho p q hp hq,ho q p hq hp,H3 hl hc,gW hl hc]
 ·rw[ho q p hq hp,ho r q hr hq,ho r p hr hp,gW hl hc,gW hl hc,gW hl hc];intro g g' e;rcases hl.tri (κ q) (κ p)with a|a|a
  ·exact g a
  ·exact g' (by rw[a];exact e)
  ·exact g' (hl.tr _ _ _ e a)
theorem nK{c:Cv}(h:Crp c){p:Pt}(hp:Rpd p):onR c p=true↔em c p=true/\¬bz c p (frC c)<0/\¬bz c (toC c) p<0:=by
 have o:=pe h;unfold onR;rw[afz,afz,agW,agW];refine and_congr_right λhs=>?_;rw[o.le h.f ⟨hp,hs⟩,o.le ⟨hp,hs⟩ h.t]
theorem zj{c:Cv}{x y:BP}:∀{r:List BP},y∈r->y∈fu c r x
 |[],h=>by cases h
 |z::r,h=>by
  simp only[fu];cases decide (bz c (dec z) (dec x)<0)
  ·cases aF (dec z) (dec x)==0
   ·exact afw _ h
   ·exact h
  ·rcases afy.1 h with e|e
   ·rw[e];exact .head _
   ·exact afw _ (zj e)
theorem Cq{c:Cv}{y:BP}:∀{l r:List BP},y∈r->y∈l.foldl (fu c) r
 |[],_,h=>h
 |_::l,_,h=>Cq (l:=l) (zj h)
theorem SF{c:BCU}(h:gdN c):bz (dC c) (frC (dC c)) (toC (dC c))<0:=by
 have k:=qf h.gd;have hne:aF (frC (dC c)) (toC (dC c))≠0:=h.2.2.2;cases ha:(dC c).1
 ·unfold bz;rw[ha,cond_false];cases hd:decide (aF (frC (dC c)) (toC (dC c))>0)
  ·have:=agn hd;rw[cond_false];omega
  ·have:=afp hd;rw[cond_true];omega
 ·rcases(qI k).tri k.f k.t with g|g|g
  ·exact g
  ·exact absurd g hne
  ·obtain⟨κ,h1,h2⟩:=AK k ha;have hl:=GS RE.lt_lin;rw[h1 (dC c) ha rfl rfl k.f _ _ k.t k.f,gW (zi hl _) (xp RE.lt_lin RE.sg_cmpO _)]at g;rcases g with⟨_,g⟩|⟨g1,g2⟩
   ·exact absurd g (hl.irr _)
   ·exact absurd (g1.1 g2) (hl.irr _)
theorem JN{c:BCU}(h:gdN c):onR (dC c) (frC (dC c))=true/\onR (dC c) (toC (dC c))=true:=by
 have k:=qf h.gd;have o:=qI k
 have irr:∀{q},Sp (dC c) q->bz (dC c) q q=0:=λ{q} hq=>by
  have:=hq.1;exact o.irr hq hq (RE.cmpP_0.2 rfl)
 have tf:=o.asy k.f k.t (SF h);rw[nK k k.f.1,nK k k.t.1,irr k.f,irr k.t];exact⟨⟨k.f.2,by omega,by omega⟩,k.t.2,by omega,by omega⟩
theorem zH{K:Type}{lt:K->K->Prop}(h:lO lt):∀{A B:List K},A.Pairwise lt->B.Pairwise lt->(∀x,x∈A↔x∈B)->A=B
 |[],[],_,_,_=>rfl
 |[],b::B,_,_,e=>absurd ((e b).2 (by simp)) (by simp)
 |a::A,[],_,_,e=>absurd ((e a).1 (by simp)) (by simp)
 |a::A,b::B,pa,pb,e=>by
  obtain⟨a1,a2⟩:=afK.1 pa;obtain⟨b1,b2⟩:=afK.1 pb
  have ab:a=b:=by
   rcases afy.1 ((e a).1 (by simp))with g|g
   ·exact g
   ·rcases afy.1 ((e b).2 (by simp))with k|k
    ·exact k.symm
    ·exact absurd (h.tr _ _ _ (a1 b k) (b1 a g)) (h.irr a)
  subst ab;rw[zH h a2 b2 λx=>⟨λhx=>?_,λhx=>?_⟩]
  ·rcases afy.1 ((e x).1 (afw _ hx))with g|g
   ·rw[g]at hx;exact absurd (a1 a hx) (h.irr a)
   ·exact g
  ·rcases afy.1 ((e x).2 (afw _ hx))with g|g
   ·rw[g]at hx;exact absurd (b1 a hx) (h.irr a)
   ·exact g
def eqL(A B:List BP):Prop:=A.length=B.length/\∀(i:Nat) (a b:BP),A[i]?=some a->B[i]?=some b->aF (dec a) (dec b)=0
theorem PO{K:Type}{f:BP->K}{A B:List BP}(e:A.map f=B.map f)(g:∀a∈A,∀b∈B,f a=f b->aF (dec a) (dec b)=0):eqL A B:=by
 refine⟨by simpa using congrArg List.length e,λi a b ha hb=>?_⟩;have h1:(A.map f)[i]?=some (f a):=by rw[agd,ha];rfl
 have h2:(B.map f)[i]?=some (f b):=by rw[agd,hb];rfl
 rw[e,h2]at h1;injection h1 with h1;exact g a (afV ha) b (afV hb) h1.symm
abbrev oL(c:Cv)(A:List BP):Prop:=A.Pairwise (λa b=>bz c (dec a) (dec b)<0)
theorem M0{c:Cv}(h:Crp c){A B:List BP}(hA:∀x∈A,Spb c x)(hB:∀x∈B,Spb c x)(pA:oL c A)(pB:oL c B)(e1:∀a∈A,∃b∈B,aF (dec a) (dec b)=0)(e2:∀b∈B,∃a∈A,aF (dec a) (dec b)=0):eqL A B:=by
 obtain⟨K,lt,κ,f,hl,hc,ho,hk⟩:=se h
 have pw:∀{L:List BP},(∀x∈L,Spb c x)->oL c L->(L.map λx=>κ (dec x)).Pairwise lt:=λ{L} hL pL=>by
  refine List.pairwise_map.2 (List.Pairwise.imp_of_mem (λ{a b} ha hb g=>?_) pL);rw[ho _ _ (hL a ha) (hL b hb)]at g;exact(gW hl hc _ _).1 g
 refine PO (f:=λx=>κ (dec x)) (zH hl (pw hA pA) (pw hB pB) λx=>⟨λhx=>?_,λhx=>?_⟩) λa ha b hb g=>(hk _ _ (hA a ha) (hB b hb)).1 g
 ·obtain⟨a,ha,rfl⟩:=agE.1 hx;obtain⟨b,hb,g⟩:=e1 a ha;exact agE.2 ⟨b,hb,((hk _ _ (hA a ha) (hB b hb)).2 g).symm⟩
 ·obtain⟨b,hb,rfl⟩:=agE.1 hx;obtain⟨a,ha,g⟩:=e2 b hb;exact agE.2 ⟨a,ha,(hk _ _ (hA a ha) (hB b hb)).2 g⟩
section
section
variable {α K:Type}
def jd(lt:α->α->Bool):List α->α->List α
 |[],a=>[a]
 |b::r,a=>bif lt a b then b::jd lt r a else a::b::r
def qJ(lt:α->α->Bool)(l:List α):List α:=(l.foldl (jd lt) []).reverse
def fO(eq:α->α->Bool):α->List α->List α
 |_,[]=>[]
 |p,q::r=>bif eq q p then fO eq q r else q::fO eq q r
def tT(eq:α->α->Bool):List α->List α
 |[]=>[]
 |x::r=>x::fO eq x r
theorem j9{lt:α->α->Bool}{a x:α}:∀{r:List α},x∈jd lt r a↔x=a\/x∈r
 |[]=>by simp[jd]
 |b::r=>by
  unfold jd;cases lt a b
  ·simp
  ·simp only[cond_true,afy,j9 (r:=r)];constructor
   ·rintro (h|h|h)
    ·exact .inr (.inl h)
    ·exact .inl h
    ·exact .inr (.inr h)
   ·rintro (h|h|h)
    ·exact .inr (.inl h)
    ·exact .inl h
    ·exact .inr (.inr h)
theorem CJ{lt:α->α->Bool}{x:α}:∀{l r:List α},x∈l.foldl (jd lt) r↔x∈l\/x∈r
 |[],r=>by simp
 |a::l,r=>by
  rw[ag7,CJ,j9,afy];constructor
  ·rintro (h|h|h)
   ·exact .inl (.inr h)
   ·exact .inl (.inl h)
   ·exact .inr h
  ·rintro ((h|h)|h)
   ·exact .inr (.inl h)
   ·exact .inl h
   ·exact .inr (.inr h)
theorem mp{lt:α->α->Bool}{x:α}{l:List α}:x∈qJ lt l↔x∈l:=by
 unfold qJ;rw[List.mem_reverse,CJ];simp
theorem ma{lt:α->α->Bool}{a:α}:∀{r:List α},(jd lt r a).length=r.length+1
 |[]=>rfl
 |b::r=>by
  unfold jd;cases lt a b
  ·rfl
  ·simp[ma (r:=r)]
theorem GF{lt:α->α->Bool}:∀{l r:List α},(l.foldl (jd lt) r).length=l.length+r.length
 |[],r=>by simp
 |a::l,r=>by
  rw[ag7,GF,ma,afD];omega
theorem wq{lt:α->α->Bool}{l:List α}:(qJ lt l).length=l.length:=by
 unfold qJ;rw[List.length_reverse,GF];rfl
theorem CD{eq:α->α->Bool}:∀{l:List α} {p:α},(fO eq p l).length<=l.length
 |[],_=>afs _
 |q::r,p=>by
  unfold fO;have:=CD (eq:=eq) (l:=r) (p:=q);cases eq q p
  ·simp only[cond_false,afD];omega
  ·simp only[cond_true,afD];omega
theorem Oa{eq:α->α->Bool}{l:List α}:(tT eq l).length<=l.length:=by
 cases l with
 |nil=>exact afs _
 |cons x r=>
  have:=CD (eq:=eq) (l:=r) (p:=x);simp only[tT,afD];omega
theorem xk{eq:α->α->Bool}{x:α}:∀{l:List α} {p:α},x∈fO eq p l->x∈l
 |[],_,h=>h
 |q::r,p,h=>by
  unfold fO at h;cases hq:eq q p<;>rw[hq]at h
  ·rcases afy.1 h with e|e
   ·rw[e];simp
   ·exact afw _ (xk e)
  ·exact afw _ (xk h)
theorem L9{eq:α->α->Bool}{x:α}{l:List α}(h:x∈tT eq l):x∈l:=by
 cases l with
 |nil=>exact h
 |cons y r=>
  rcases afy.1 h with e|e
  ·rw[e];simp
  ·exact afw _ (xk e)
variable {lt:K->K->Prop} (hl:lO lt) (κ:α->K)
abbrev upK(lt:K->K->Prop)(κ:α->K)(l:List α):Prop:=l.Pairwise λa b=>¬lt (κ b) (κ a)
abbrev dnK(lt:K->K->Prop)(κ:α->K)(l:List α):Prop:=l.Pairwise λa b=>¬lt (κ a) (κ b)
include hl in
theorem GO{f:α->α->Bool}{a:α}:∀{r:List α},(∀b∈r,(f a b=true↔lt (κ a) (κ b)))->dnK lt κ r->dnK lt κ (jd f r a)
 |[],_,_=>by simp[jd]
 |b::r,hf,hp=>by
  obtain⟨p1,p2⟩:=afK.1 hp;have hb:=hf b (by simp);unfold jd;cases hfb:f a b
  ·simp only[cond_false];have nlt:¬lt (κ a) (κ b):=λh=>by rw[hb.2 h]at hfb;cases hfb
   refine afK.2 ⟨λx hx=>?_,hp⟩;rcases afy.1 hx with e|e
   ·rw[e];exact nlt
   ·intro h;rcases hl.tri (κ b) (κ x)with g|g|g
    ·exact p1 x e g
    ·rw[<-g]at h;exact nlt h
    ·exact nlt (hl.tr _ _ _ h g)
  ·simp only[cond_true];have hlt:=hb.1 hfb;refine afK.2 ⟨λx hx=>?_,GO (λy hy=>hf y (afw _ hy)) p2⟩;rcases j9.1 hx with e|e
   ·rw[e];intro h;exact hl.irr _ (hl.tr _ _ _ h hlt)
   ·exact p1 x e
include hl in
theorem Hj{f:α->α->Bool}:∀{l r:List α},(∀a b,(a∈l\/a∈r)->(b∈l\/b∈r)->(f a b=true↔lt (κ a) (κ b)))->dnK lt κ r->dnK lt κ (l.foldl (jd f) r)
 |[],_,_,h=>h
 |a::l,r,hf,h=>by
  rw[ag7];refine Hj (λx y hx hy=>hf x y ?_ ?_) (GO hl κ (λb hb=>hf a b (.inl (by simp)) (.inr hb)) h)
  ·rcases hx with e|e
   ·exact .inl (afw _ e)
   ·rcases j9.1 e with g|g
    ·exact .inl (by rw[g];simp)
    ·exact .inr g
  ·rcases hy with e|e
   ·exact .inl (afw _ e)
   ·rcases j9.1 e with g|g
    ·exact .inl (by rw[g];simp)
    ·exact .inr g
include hl in
theorem R8{f:α->α->Bool}{l:List α}(hf:∀a∈l,∀b∈l,(f a b=true↔lt (κ a) (κ b))):upK lt κ (qJ f l):=by
 unfold qJ;refine List.pairwise_reverse.2 (Hj hl κ (λa b ha hb=>hf a ?_ b ?_) (by simp))
 ·rcases ha with h|h
  ·exact h
  ·cases h
 ·rcases hb with h|h
  ·exact h
  ·cases h
include hl in
theorem HO{g:α->α->Bool}:∀{l:List α} {p:α},(∀a b,a∈p::l->b∈p::l->(g a b=true↔κ a=κ b))->upK lt κ (p::l)->
  (p::fO g p l).Pairwise (λa b=>lt (κ a) (κ b))/\∀x∈p::l,∃y∈p::fO g p l,κ y=κ x
 |[],p,_,_=>⟨by simp[fO],λx hx=>⟨x,hx,rfl⟩⟩
 |q::r,p,hg,hp=>by
  obtain⟨p1,p2⟩:=afK.1 hp;obtain⟨i1,i2⟩:=HO (l:=r) (p:=q) (λa b ha hb=>hg a b (afw _ ha) (afw _ hb)) p2;obtain⟨j1,j2⟩:=afK.1 i1;have hq:=hg q p (by simp) (by simp);unfold fO;cases hqp:g q p
  ·simp only[cond_false]
   have hlt:lt (κ p) (κ q):=by
    rcases hl.tri (κ p) (κ q)with e|e|e
    ·exact e
    ·rw[hq.2 e.symm]at hqp;cases hqp
    ·exact absurd e (p1 q (by simp))
   refine⟨afK.2 ⟨λx hx=>?_,i1⟩,λx hx=>?_⟩
   ·rcases afy.1 hx with e|e
    ·rw[e];exact hlt
    ·exact hl.tr _ _ _ hlt (j1 x e)
   ·rcases afy.1 hx with e|e
    ·exact⟨p,by simp,by rw[e]⟩
    ·obtain⟨y,hy,e2⟩:=i2 x e;exact⟨y,afw _ hy,e2⟩
  ·simp only[cond_true];have he:=hq.1 hqp;refine⟨afK.2 ⟨λx hx=>by rw[<-he];exact j1 x hx,j2⟩,λx hx=>?_⟩
   have tr:∀y,y∈q::fO g q r->∃z∈p::fO g q r,κ z=κ y:=λy hy=>by
    rcases afy.1 hy with e|e
    ·exact⟨p,by simp,by rw[e,he]⟩
    ·exact⟨y,afw _ e,rfl⟩
   rcases afy.1 hx with e|e
   ·exact⟨p,by simp,by rw[e]⟩
   ·obtain⟨y,hy,e2⟩:=i2 x e;obtain⟨z,hz,e3⟩:=tr y hy;exact⟨z,hz,e3.trans e2⟩
include hl in
theorem PV{g:α->α->Bool}{l:List α}(hg:∀a∈l,∀b∈l,(g a b=true↔κ a=κ b))(hp:upK lt κ l):(tT g l).Pairwise (λa b=>lt (κ a) (κ b))/\∀x∈l,∃y∈tT g l,κ y=κ x:=by
 cases l with
 |nil=>exact⟨by simp[tT],λx hx=>by cases hx⟩
 |cons p r=>exact HO hl κ (λa b ha hb=>hg a ha b hb) hp
end
def ltP(c:Cv)(a b:BP):Bool:=decide (uS c (dec a) (dec b)<0)
def cZ(a b:BP):Bool:=aF (dec a) (dec b)==0
def bR(c:Cv)(l:List BP):List BP:=tT cZ (qJ (ltP c) l)
theorem dv{c:Cv}{l:List BP}{x:BP}(h:x∈bR c l):x∈l:=mp.1 (L9 h)
theorem jo{c:Cv}{l:List BP}:(bR c l).length<=l.length:=by
 have:=Oa (eq:=cZ) (l:=qJ (ltP c) l);rw[wq]at this;exact this
theorem If{c:Cv}(h:Crp c)(hne:aF (frC c) (toC c)≠0){l:List BP}(hon:∀x∈l,Rpd (dec x:Pt)/\onP c (dec x)=true):oL c (bR c l)/\∀x∈l,∃y∈bR c l,aF (dec y) (dec x)=0:=by
 obtain⟨K,lt,κ,f,hl,hc,ho,hk⟩:=se h;have sp:∀x∈l,Spb c x:=λx hx=>⟨(hon x hx).1,(afz.1 (hon x hx).2).1⟩
 have up:=R8 hl (λx:BP=>κ (dec x)) (f:=ltP c) (l:=l) λa ha b hb=>by
  unfold ltP;rw[agW,RE.ord_eq h hne (hon a ha).1 (hon b hb).1 (hon a ha).2 (hon b hb).2,ho _ _ (sp a ha) (sp b hb)];exact gW hl hc _ _
 have q:=PV hl (λx:BP=>κ (dec x)) (g:=cZ) (l:=qJ (ltP c) l) (λa ha b hb=>by
  unfold cZ;rw[agl];exact(hk _ _ (sp a (mp.1 ha)) (sp b (mp.1 hb))).symm) up
 refine⟨List.Pairwise.imp_of_mem (λ{a b} ha hb g=>?_) q.1,λx hx=>?_⟩
 ·have ha':=dv (c:=c) ha;have hb':=dv (c:=c) hb;rw[ho _ _ (sp a ha') (sp b hb')];exact(gW hl hc _ _).2 g
 ·obtain⟨y,hy,e⟩:=q.2 x (mp.2 hx);exact⟨y,hy,(hk _ _ (sp y (dv (c:=c) hy)) (sp x hx)).1 e⟩
end
end Go.Proofs.YtagbmoohboleaaaGreat
end
