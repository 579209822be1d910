/- Common points of curves: the reference's contract of Meet. -/
import Derived.Test.YtoimchcjhdcdmaaGreatP15
import Derived.Test.YtoimchcjhdcdmaaGreatP14
noncomputable section
namespace Go.Proofs.YtoimchcjhdcdmaaGreat
open Go.RowKit Go.IntKind
open Bool renaming true->T',false->F'
open Option renaming some->S',none->N'
open Decidable renaming decide->D'
theorem apG:type_of% @decide_eq_true_iff:=@decide_eq_true_iff
theorem apJ:type_of% @List.filter_cons:=@List.filter_cons
theorem aqC:type_of% @List.filter_nil:=@List.filter_nil
def mM(c d:BCU)(p:BP):Bool:=onR (dC c) (dec p)&&onR (dC d) (dec p)
theorem HC(c d:BCU)(h:lw c d)(L:List BP)(hL:(wA (dC c) (dC d)).map enc=L)(h4:L.length<=4)(ho:∀x∈L,okP 580 x):∀(j i:Nat),i+j=L.length->∀r3:List BP,r3.length<=i->(∀x∈r3,okP 580 x)->
  tX.Runs 18 (qG c d (i:Int) r3) [.d (.sl tP) (iD (dC c) (r3++(L.drop i).filter (mM c d))),.d .bool (cO (dC c) (dC d)&&C5 (dC (Aj c d)) (iD (dC c) (r3++(L.drop i).filter (mM c d))))]:=by
 intro j;induction j with
 |zero=>
  intro i hi r3 hr h3;obtain⟨n,hn⟩:=Ks c d h r3 (by omega) h3;refine uE _ _ _ _ ⟨n,?_⟩;have hd:L.drop i=[]:=List.drop_eq_nil_iff.2 (by omega);rw[hd,aqC,aoi,<-hn];unfold qp;rw[hL,a8 (by omega)];have hs:yW c r3:=⟨bi h.1.1 (by decide) (by decide),by omega,λx hx=>aV (h3 x hx) (by decide) (by decide)⟩
  have o1:D' (okP 4000 c.2.2.2.2.1/\okP 4000 c.2.2.2.2.2)=true:=anO ⟨aV h.1.1.2.2.1 (by decide) (by decide),aV h.1.1.2.2.2 (by decide) (by decide)⟩;have o2:D' (okP 4000 d.2.2.2.2.1/\okP 4000 d.2.2.2.2.2)=true:=anO ⟨aV h.2.1.2.2.1 (by decide) (by decide),aV h.2.1.2.2.2 (by decide) (by decide)⟩;rw[dT hs,o1,o2];dsimp only;unfold Aj Vg bne;simp only[aR];cases c.1<;>cases d.1<;>cases(c.2.2.2.1==d.2.2.2.1)<;>cases(aB (dec c.2.2.2.2.1) (dec c.2.2.2.2.2)==aB (dec d.2.2.2.2.1) (dec d.2.2.2.2.2))<;>rfl
 |succ j ih=>
  intro i hi r3 hr h3;have hil:i<L.length:=by omega
  have e2:i64.wrap ((i:Int)+1)=((i+1:Nat):Int):=aT (by omega);have g2:aH L (i:Int)=S' L[i]:=by rw[ak,anN hil]
  have g3:L[((i:Int)).toNat]?=S' L[i]:=by rw[show((i:Int)).toNat=i by omega,anN hil]
  have hx:=ho _ (anY hil);have hd:L.drop i=L[i]::L.drop (i+1):=an5 hil;have ox:=aV (k:=3500) hx (by decide) (by decide);have o1:D' (okC 3500 c/\okP 3500 L[i])=true:=anO ⟨bi h.1.1 (by decide) (by decide),ox⟩;have o2:D' (okC 3500 d/\okP 3500 L[i])=true:=anO ⟨bi h.2.1 (by decide) (by decide),ox⟩
  have hf:(L.drop i).filter (mM c d)=bif mM c d L[i]then L[i]::(L.drop (i+1)).filter (mM c d)else(L.drop (i+1)).filter (mM c d):=by
   rw[hd,apJ];cases mM c d L[i]<;>rfl
  cases hb:mM c d L[i]
  ·rw[hb]at hf;obtain⟨n,hn⟩:=ih (i+1) (by omega) r3 (by omega) h3;refine uE _ _ _ _ ⟨n,?_⟩;rw[hf];dsimp only[cond_false];rw[<-hn];unfold mM at hb;unfold qp;rw[hL,aO hil,g2,e2];dsimp only;try rw[g3]
   try dsimp only
   rw[o1,o2];cases h1:onR (dC c) (dec L[i])
   ·rfl
   ·rw[h1,apo]at hb;rw[hb]
  ·rw[hb]at hf
   obtain⟨n,hn⟩:=ih (i+1) (by omega) (r3++[L[i]]) (by simp;omega) (λx hx'=>by
    rcases aod.1 hx' with h'|h'
    ·exact h3 x h'
    ·have:x=L[i]:=by simpa using h'
     rw[this];exact hx)
   refine uE _ _ _ _ ⟨n,?_⟩;rw[hf];dsimp only[cond_true];rw[aof]at hn;refine Eq.trans ?_ hn;unfold mM at hb;obtain⟨h1,h2⟩:=an3.1 hb;unfold qp;rw[hL,aO hil,g2,e2];dsimp only;try rw[g3]
   try dsimp only
   rw[o1,o2,h1,h2];dsimp only;rw[dT (by simp;omega)]
theorem Dt(c d:BCU)(h:lw c d)(L:List BP)(hL:[c.2.2.2.2.1,c.2.2.2.2.2,d.2.2.2.2.1,d.2.2.2.2.2]=L)(h4:L.length<=4)(ho:∀x∈L,okP 580 x):∀(j i:Nat),i+j=L.length->∀r3:List BP,r3.length<=i->(∀x∈r3,okP 580 x)->
  tX.Runs 18 (kG c d (i:Int) r3) [.d (.sl tP) (iD (dC c) (r3++(L.drop i).filter (mM c d))),.d .bool (cO (dC c) (dC d)&&C5 (dC (Aj c d)) (iD (dC c) (r3++(L.drop i).filter (mM c d))))]:=by
 intro j;induction j with
 |zero=>
  intro i hi r3 hr h3;obtain⟨n,hn⟩:=Ks c d h r3 (by omega) h3;refine qe _ _ _ _ ⟨n,?_⟩;have hd:L.drop i=[]:=List.drop_eq_nil_iff.2 (by omega);rw[hd,aqC,aoi,<-hn];unfold lK;rw[hL,a8 (by omega)];have hs:yW c r3:=⟨bi h.1.1 (by decide) (by decide),by omega,λx hx=>aV (h3 x hx) (by decide) (by decide)⟩
  have o1:D' (okP 4000 c.2.2.2.2.1/\okP 4000 c.2.2.2.2.2)=true:=anO ⟨aV h.1.1.2.2.1 (by decide) (by decide),aV h.1.1.2.2.2 (by decide) (by decide)⟩;have o2:D' (okP 4000 d.2.2.2.2.1/\okP 4000 d.2.2.2.2.2)=true:=anO ⟨aV h.2.1.2.2.1 (by decide) (by decide),aV h.2.1.2.2.2 (by decide) (by decide)⟩;rw[dT hs,o1,o2];dsimp only;unfold Aj Vg bne;simp only[aR];cases c.1<;>cases d.1<;>cases(c.2.2.2.1==d.2.2.2.1)<;>cases(aB (dec c.2.2.2.2.1) (dec c.2.2.2.2.2)==aB (dec d.2.2.2.2.1) (dec d.2.2.2.2.2))<;>rfl
 |succ j ih=>
  intro i hi r3 hr h3;have hil:i<L.length:=by omega
  have e2:i64.wrap ((i:Int)+1)=((i+1:Nat):Int):=aT (by omega);have g2:aH L (i:Int)=S' L[i]:=by rw[ak,anN hil]
  have g3:L[((i:Int)).toNat]?=S' L[i]:=by rw[show((i:Int)).toNat=i by omega,anN hil]
  have hx:=ho _ (anY hil);have hd:L.drop i=L[i]::L.drop (i+1):=an5 hil;have ox:=aV (k:=3500) hx (by decide) (by decide);have o1:D' (okC 3500 c/\okP 3500 L[i])=true:=anO ⟨bi h.1.1 (by decide) (by decide),ox⟩;have o2:D' (okC 3500 d/\okP 3500 L[i])=true:=anO ⟨bi h.2.1 (by decide) (by decide),ox⟩
  have hf:(L.drop i).filter (mM c d)=bif mM c d L[i]then L[i]::(L.drop (i+1)).filter (mM c d)else(L.drop (i+1)).filter (mM c d):=by
   rw[hd,apJ];cases mM c d L[i]<;>rfl
  cases hb:mM c d L[i]
  ·rw[hb]at hf;obtain⟨n,hn⟩:=ih (i+1) (by omega) r3 (by omega) h3;refine qe _ _ _ _ ⟨n,?_⟩;rw[hf];dsimp only[cond_false];rw[<-hn];unfold mM at hb;unfold lK;rw[hL,aO hil,g2,e2];dsimp only;try rw[g3]
   try dsimp only
   rw[o1,o2];cases h1:onR (dC c) (dec L[i])
   ·rfl
   ·rw[h1,apo]at hb;rw[hb]
  ·rw[hb]at hf
   obtain⟨n,hn⟩:=ih (i+1) (by omega) (r3++[L[i]]) (by simp;omega) (λx hx'=>by
    rcases aod.1 hx' with h'|h'
    ·exact h3 x h'
    ·have:x=L[i]:=by simpa using h'
     rw[this];exact hx)
   refine qe _ _ _ _ ⟨n,?_⟩;rw[hf];dsimp only[cond_true];rw[aof]at hn;refine Eq.trans ?_ hn;unfold mM at hb;obtain⟨h1,h2⟩:=an3.1 hb;unfold lK;rw[hL,aO hil,g2,e2];dsimp only;try rw[g3]
   try dsimp only
   rw[o1,o2,h1,h2];dsimp only;rw[dT (by simp;omega)]
def ahE:Cn 138 [tCU,tCU]:=cn λ(c d:BCU)=>lf (lw c d) [.d (.sl tP) (zv c d),.d .bool (agL c d)] λh=>by
 obtain⟨h4,ho⟩:=Kk h;have hsp:fx c d:=⟨h.1.2,h.2.2⟩
 refine bj aae (show tX.Res _ _ _ from ?_);unfold Ez at h4 ho;unfold zv agL zv afs Ez;cases hs:cO (dC c) (dC d)
 ·rw[hs]at h4 ho;obtain⟨n,hn⟩:=HC c d h _ rfl h4 ho _ 0 (an2 _) [] (anT _) (λx hx=>by cases hx);refine aa2 _ _ ⟨n,?_⟩;unfold Tx;rw[dT hsp,hs];rw[hs]at hn;exact hn
 ·rw[hs]at h4 ho;obtain⟨n,hn⟩:=Dt c d h _ rfl h4 ho _ 0 (an2 _) [] (anT _) (λx hx=>by cases hx);refine aa2 _ _ ⟨n,?_⟩;unfold Tx;rw[dT hsp,hs];rw[hs]at hn;exact hn
def i8P(n:Int):Prop:= -128<=n/\n<=127
instance (n:Int):Decidable (i8P n):=by unfold i8P;infer_instance
def u8P(n:Int):Prop:=0<=n/\n<=255
instance (n:Int):Decidable (u8P n):=by unfold u8P;infer_instance
def atQ(n u:Int):Rat:=Rat.divInt n (u%4+1)
def D7(c:BO3):List BCU:=[(T',o00,c,F',enc (da (dec c)),enc (dp (dec c))),(T',o00,c,F',enc (dp (dec c)),enc (da (dec c)))]
theorem aaN{n u:Int}(h:i8P n)(_h':u8P u):Bb (atQ n u) 7 2:=by
 unfold atQ;obtain⟨h1,h2⟩:=h;exact Xt (by omega) (by show n.natAbs<=128;omega) (by show(u%4+1).natAbs<=4;omega)
theorem Con.dd{P:Program}{f:Nat}{args:List SV}{et:TypeId}{e:Ty}{xs:List e.D}{r:RV}(h:Con P f args [r])(hr:r=.new et e xs\/r=.d (.sl e) xs):Con P f args [.d (.sl e) xs]:=by
 rcases hr with rfl|rfl
 ·exact Con.new_d h
 ·exact h
def YO:List En:=[enL qf,enL QL,enT mf,enL uz]
def agV:Ctx:=CX (ens YO) []
def ZW(c:BO3)(_k:KT):OLR:=og (D' (bK c)) (S' [RV.new 48 tCU ([(T',((((F',[]),(F',[])),(((F',[]),(F',[])),((F',[]),(F',[])))),(c,(F',(hid (enc (da (dec c))),hid (enc (dp (dec c)))))))),(T',((((F',[]),(F',[])),(((F',[]),(F',[])),((F',[]),(F',[])))),(c,(F',(hid (enc (dp (dec c))),hid (enc (da (dec c))))))))])])
theorem akL(c:BO3):RS agV 134 [.d tO c] (ZW c):=rsX
def ah7:Cn 134 [tO]:=cn λ(c:BO3)=>lf (bK c) [.d (.sl tCU) (D7 c)] λh=>by
 refine Con.new_d (et:=48) (bj YO (akL _ ⟨0,?_⟩));unfold ZW;rw[dT h];simp only[aR];rfl
instance ajd:Bd (-1:Rat) 3:=dQ (n:= -1) (by decide)
theorem Qq{v:Rat×Rat}{j k:Nat}[h:Bd v j](hj:mx j (mx 1 (mx j (mx 1 1)))<=k)(hk:k<=480000):okP k (enc (atP v)):=anP (aN (x:=atP v) hj hk)
section
namespace RE
theorem cmpP_0{p q:Pt}[Rpd p][Rpd q]:aB p q=0↔pR p=pR q:=by
 rw[iw];obtain⟨h1,h2,h3⟩:=fq (pR p) (pR q);rcases gz.tri (pR p) (pR q)with h|h|h
 ·rw[h1 h];exact⟨λe=>absurd e (by decide),λe=>absurd h (by rw[e];exact gz.irr _)⟩
 ·exact⟨λ_=>h,λ_=>h2 h⟩
 ·rw[h3 h];exact⟨λe=>absurd e (by decide),λe=>absurd h (by rw[e];exact gz.irr _)⟩
theorem Bx(v:Rat×Rat):pR (atP v)=(of v.1,of v.2):=arb (aje v) (aj7 v)
theorem Si{ax bx c:Rat}(h:eH c=T'):of (ax+bx*rtQ c)=v2 ax bx c:=by
 unfold v2;rw[of_add,bR,Ud h]
theorem mq(ax bx ay b_ c:Rat):pR (mh ax bx ay b_ c)=(v2 ax bx c,v2 ay b_ c):=by
 unfold mh;cases h:eH c
 ·rfl
 ·exact(Bx _).trans (arb (Si h) (Si h))
theorem acU(a b r:RE):(a+ -1*r-a)*(a+ -1*r-a)+(b+0*r-b)*(b+0*r-b)=r*r:=by grind
theorem We(a b r:RE):(a+1*r-a)*(a+1*r-a)+(b+0*r-b)*(b+0*r-b)=r*r:=by grind
theorem U8(a r:RE)(h1:a+ -1*r=a+1*r):r<=0:=by grind
theorem W2(a r:RE)(h1:a+ -1*r=a+1*r):0<=r:=by grind
theorem acC(a r:RE)(h1:a+ -1*r=a+1*r):r=0:=le_antisymm (U8 a r h1) (W2 a r h1)
theorem NS{c:Ln}(h:0<c.2.2):Am c (pR (da c))/\Am c (pR (dp c)):=by
 have hr:=rn (show 0<=c.2.2 by grind);unfold da dp;rw[mq,mq];exact⟨(acU _ _ _).trans hr,(We _ _ _).trans hr⟩
theorem Vk{c:Ln}(h:0<c.2.2):pR (da c)≠pR (dp c):=by
 unfold da dp;rw[mq,mq];intro e;have e1:=acC _ _ (congrArg Prod.fst e);have hr:=rn (show 0<=c.2.2 by grind);rw[e1,mul_zero]at hr;have:=Hp hr;grind
theorem PK{l:Ln}{v:Rat×Rat}(h:l.1*v.1+l.2.1*v.2=l.2.2):(oD l (atP v)==0)=true:=by
 rw[B7,Bx];exact congrArg of h
theorem aj9{v w:Rat×Rat}(h:v≠w):aB (atP v) (atP w)≠0:=λe=>h (by
 have:=cmpP_0.1 e;rw[Bx,Bx]at this;exact arb (Hp (congrArg Prod.fst this)) (Hp (congrArg Prod.snd this)))
end RE
open RE
def gdN(c:BCU):Prop:=mG c/\df (dC c) (frC (dC c))=T'/\df (dC c) (toC (dC c))=T'/\aB (frC (dC c)) (toC (dC c))≠0
theorem gdN.gd{c:BCU}(h:gdN c):gdC c:=⟨h.1.1,h.2.1,h.2.2.1⟩
theorem adr{a b:Rat×Rat}[ba:Bd a 1][bb:Bd b 1](h:wr a b=F'):gdN (yx a b):=by
 have hz:(ur a b).1≠0\/(ur a b).2.1≠0:=by
  unfold wr at h;by_cases e:a.2-b.2=0
  ·rw[anO e,apo]at h;exact .inr (aoF h)
  ·exact .inl e
 have hne:a≠b:=λe=>by
  subst e;unfold ur at hz;rcases hz with h|h<;>exact h (by show _-_=(0:Rat);grind)
 have b1:Bd (ur a b).1 12:=(inferInstance:Bd (a.2-b.2) _).mono (by decide);have b2:Bd (ur a b).2.1 12:=(inferInstance:Bd (b.1-a.1) _).mono (by decide);have b3:Bd (ur a b).2.2 63:=(inferInstance:Bd ((a.2-b.2)*a.1+(b.1-a.1)*a.2) _).mono (by decide);have hl:=ms (h:=⟨b1,b2,b3⟩) hz;have hL:HI (enc (ur a b)):=⟨anP (okd (x:=ur a b) (by decide) (by decide)),by rw[aq];exact hz⟩
 unfold yx;rw[h];refine⟨⟨⟨λe=>(by cases e),λ_=>hL,Qq (by decide) (by decide),Qq (by decide) (by decide)⟩,λe=>(by cases e),λ_=>hl⟩,?_⟩;simp only[dC,df,frC,toC,lnC,aq,cond_false];exact⟨PK (by unfold ur;grind),PK (by unfold ur;grind),aj9 hne⟩
theorem DR{c:Ln}[bc:BdC c](h:0<c.2.2):∀d∈D7 (enc c),gdN d:=by
 have hs:=jM h;have bx:=bc.x;have b_:=bc.y;have bq:=bc.q;have b0:Bd (0:Rat) 3:=dQ (n:=0) (by decide);have b1:Bd (1:Rat) 3:=dQ (n:=1) (by decide);have hC:tn (enc c):=⟨anP (okd (h:=afy (c:=c)) (by decide) (by decide)),by rw[aq];exact h⟩
 have q0:(0:Rat)<=c.2.2:=by grind
 have pl:Rpd (da c):=mo (λe=>absurd e.1 (by decide)) q0;have pr:Rpd (dp c):=mo (λe=>absurd e.1 (by decide)) q0;have bl:Bd (da c) 490:=Da (bx.mono (by decide:4<=4)) (ajd.mono (by decide:3<=3)) b_ b0 bq (by decide);have br:Bd (dp c) 490:=Da (bx.mono (by decide:4<=4)) b1 b_ b0 bq (by decide);have ol:okP 580 (enc (da c)):=anP (aN (by decide) (by decide));have or_:okP 580 (enc (dp c)):=anP (aN (by decide) (by decide));obtain⟨nl,nr_⟩:=NS h;have nl:=Ce.2 nl;have nr_:=Ce.2 nr_;have ne:=Vk h;intro d hd
 have:d=(T',o00,enc c,F',enc (da c),enc (dp c))\/d=(T',o00,enc c,F',enc (dp c),enc (da c)):=by
  unfold D7 at hd;rw[aq]at hd;simpa using hd
 rcases this with e|e<;>rw[e]
 ·refine⟨⟨⟨λ_=>hC,λe=>(by cases e),ol,or_⟩,λ_=>hs,λe=>(by cases e)⟩,?_⟩;simp only[dC,df,frC,toC,ciC,aq,cond_true];exact⟨nl,nr_,λe=>ne (cmpP_0.1 e)⟩
 ·refine⟨⟨⟨λ_=>hC,λe=>(by cases e),or_,ol⟩,λ_=>hs,λe=>(by cases e)⟩,?_⟩;simp only[dC,df,frC,toC,ciC,aq,cond_true];exact⟨nr_,nl,λe=>ne (cmpP_0.1 e).symm⟩
end
theorem Wx{c d:BCU}(h:lw c d):(zv c d).length<=4/\∀x∈zv c d,okP 580 x/\onR (dC c) (dec x)=T'/\onR (dC d) (dec x)=true:=by
 obtain⟨h1,h2⟩:=Kk h;unfold zv afs;have h3:=wT (dC c) ((Ez c d).filter λp=>onR (dC c) (dec p)&&onR (dC d) (dec p)) [];have h4:=List.length_filter_le (λp=>onR (dC c) (dec p)&&onR (dC d) (dec p)) (Ez c d)
 refine⟨by
  unfold iD;rw[List.length_nil,an2]at h3;exact an0 h3 (an0 h4 h1),Lq λx hx=>?_⟩
 obtain⟨g1,g2⟩:=List.mem_filter.1 hx;obtain⟨g3,g4⟩:=an3.1 g2;exact⟨h2 x g1,g3,g4⟩
def gdM(c:BCU):Prop:=mG c/\df (dC c) (frC (dC c))=T'/\df (dC c) (toC (dC c))=T'
theorem gdM.gd{c:BCU}(h:gdM c):gdC c:=⟨h.1.1,h.2.1,h.2.2⟩
theorem gdN.m{c:BCU}(h:gdN c):gdM c:=⟨h.1,h.2.1,h.2.2.1⟩
theorem afQ{c:BCU}(h:gdN c){l:List BP}(ho:∀p∈l,okP 580 p/\onR (dC c) (dec p)=T'):∀p∈nC c l,gdM p:=by
 intro p hp;obtain⟨x,y,hx,hy,e⟩:=Js hp
 have f:∀z,z∈vD c l->okP 580 z/\df (dC c) (dec z)=true:=λz hz=>by
  rcases DK hz with e|e|e
  ·rw[e];exact⟨h.1.1.2.2.1,h.2.1⟩
  ·rw[e];exact⟨h.1.1.2.2.2,h.2.2.1⟩
  ·exact⟨(ho z e).1,(an3.1 (ho z e).2).1⟩
 obtain⟨x1,x2⟩:=f x hx;obtain⟨y1,y2⟩:=f y hy;rw[e];exact⟨⟨⟨h.1.1.1,h.1.1.2.1,x1,y1⟩,h.1.2⟩,x2,y2⟩
section
section
variable {α:Type} {lt:α->α->Prop} {f:α->α->Int}
theorem Q0(h:m6 lt):m6 (λx y=>lt y x):=⟨h.irr,λx y z a b=>h.tr z y x b a,λx y=>by
 rcases h.tri x y with g|g|g
 ·exact .inr (.inr g)
 ·exact .inr (.inl g)
 ·exact .inl g⟩
theorem MJ(h:v6 lt f):v6 (λx y=>lt y x) (λx y=> -f x y):=λx y=>⟨λg=>(by show-f x y= -1;rw[(h x y).2.2 g]),λg=>(by show-f x y=0;rw[(h x y).2.1 g];rfl),λg=>(by show-f x y=1;rw[(h x y).1 g];rfl)⟩
def aLt(lt:α->α->Prop)(u v:Bool×α):Prop:=(u.1=F'/\v.1=T')\/(u.1=F'/\v.1=F'/\lt u.2 v.2)\/(u.1=T'/\v.1=T'/\lt v.2 u.2)
theorem LA(h:m6 lt):m6 (aLt lt):=by
 refine⟨λ⟨a,u⟩ g=>?_,λ⟨a,u⟩ ⟨b,v⟩ ⟨c,w⟩ g g'=>?_,λ⟨a,u⟩ ⟨b,v⟩=>?_⟩
 ·rcases g with⟨g1,g2⟩|⟨_,_,g⟩|⟨_,_,g⟩
  ·rw[g1]at g2;cases g2
  ·exact h.irr _ g
  ·exact h.irr _ g
 ·unfold aLt at*
  cases a<;>cases b<;>cases c<;>simp only[true_and,false_and,and_false,ara,aqK,false_or,reduceCtorEq,and_self]at g g' ⊢
  ·exact h.tr _ _ _ g g'
  ·exact h.tr _ _ _ g' g
 ·unfold aLt;cases a<;>cases b<;>simp only[true_and,false_and,and_false,ara,aqK,false_or,reduceCtorEq,and_self,or_true,true_or]
  ·rcases h.tri u v with g|g|g
   ·exact .inl g
   ·exact .inr (.inl (by rw[g]))
   ·exact .inr (.inr g)
  ·rcases h.tri u v with g|g|g
   ·exact .inr (.inr g)
   ·exact .inr (.inl (by rw[g]))
   ·exact .inl g
theorem Qe(h:v6 lt f):v6 (aLt lt) (jT f):=λ⟨a,u⟩ ⟨b,v⟩=>by
 refine⟨λg=>?_,λg=>?_,λg=>?_⟩
 ·unfold aLt at g;unfold jT;cases a<;>cases b<;>simp only[true_and,false_and,and_false,ara,aqK,false_or,reduceCtorEq,and_self]at g
  ·exact(h u v).1 g
  ·rfl
  ·show-f u v= -1;rw[(h u v).2.2 g]
 ·injection g with g1 g2;subst g1 g2;unfold jT;have:=(h u u).2.1 rfl;cases a
  ·exact this
  ·show-f u u=0;rw[this];rfl
 ·unfold aLt at g;unfold jT;cases a<;>cases b<;>simp only[true_and,false_and,and_false,ara,aqK,false_or,reduceCtorEq,and_self]at g
  ·exact(h u v).2.2 g
  ·rfl
  ·show-f u v=1;rw[(h u v).1 g];rfl
def cLt(lt:α->α->Prop)(o u v:α):Prop:=(¬lt u o/\lt v o)\/((lt u o↔lt v o)/\lt u v)
theorem zU(h:m6 lt)(o:α):m6 (cLt lt o):=by
 refine⟨λu g=>?_,λu v w g g'=>?_,λu v=>?_⟩
 ·rcases g with⟨g1,g2⟩|⟨_,g⟩
  ·exact g1 g2
  ·exact h.irr _ g
 ·rcases g with⟨g1,g2⟩|⟨g1,g2⟩<;>rcases g' with⟨g3,g4⟩|⟨g3,g4⟩
  ·exact absurd g2 g3
  ·exact .inl ⟨g1,g3.1 g2⟩
  ·exact .inl ⟨λe=>g3 (g1.1 e),g4⟩
  ·exact .inr ⟨g1.trans g3,h.tr _ _ _ g2 g4⟩
 ·by_cases e1:lt u o<;>by_cases e2:lt v o
  ·rcases h.tri u v with g|g|g
   ·exact .inl (.inr ⟨⟨λ_=>e2,λ_=>e1⟩,g⟩)
   ·exact .inr (.inl g)
   ·exact .inr (.inr (.inr ⟨⟨λ_=>e1,λ_=>e2⟩,g⟩))
  ·exact .inr (.inr (.inl ⟨e2,e1⟩))
  ·exact .inl (.inl ⟨e1,e2⟩)
  ·rcases h.tri u v with g|g|g
   ·exact .inl (.inr ⟨⟨λe=>absurd e e1,λe=>absurd e e2⟩,g⟩)
   ·exact .inr (.inl g)
   ·exact .inr (.inr (.inr ⟨⟨λe=>absurd e e2,λe=>absurd e e1⟩,g⟩))
theorem yM(hl:m6 lt)(h:v6 lt f)(x y:α):D' (f x y<0)=T'↔lt x y:=by
 rw[apG];rcases hl.tri x y with g|g|g
 ·rw[(h x y).1 g];exact⟨λ_=>g,λ_=>by decide⟩
 ·rw[(h x y).2.1 g];exact⟨λe=>absurd e (by decide),λe=>absurd e (by rw[g];exact hl.irr _)⟩
 ·rw[(h x y).2.2 g];exact⟨λe=>absurd e (by decide),λe=>absurd (hl.tr _ _ _ e g) (hl.irr _)⟩
theorem zJ(hl:m6 lt)(h:v6 lt f)(o:Bool×α):v6 (cLt (aLt lt) o) (lJ f o):=λu v=>by
 have ha:=Qe h;have n:=yM (LA hl) ha
 have tf:∀x,¬aLt lt x o->D' (jT f x o<0)=false:=λx g=>by
  cases e:D' (jT f x o<0)
  ·rfl
  ·exact absurd ((n x o).1 e) g
 unfold lJ;refine⟨λg=>?_,λg=>?_,λg=>?_⟩
 ·rcases g with⟨g1,g2⟩|⟨g1,g2⟩
  ·rw[tf u g1,(n v o).2 g2];rfl
  ·have e:(D' (jT f u o<0)==D' (jT f v o<0))=true:=by
    by_cases e:aLt lt u o
    ·rw[(n u o).2 e,(n v o).2 (g1.1 e)];rfl
    ·rw[tf u e,tf v (λe'=>e (g1.2 e'))];rfl
   rw[e];exact(ha u v).1 g2
 ·subst g;rw[beq_self_eq_true];exact(ha u u).2.1 rfl
 ·rcases g with⟨g1,g2⟩|⟨g1,g2⟩
  ·rw[tf v g1,(n u o).2 g2];rfl
  ·have e:(D' (jT f u o<0)==D' (jT f v o<0))=true:=by
    by_cases e:aLt lt u o
    ·rw[(n u o).2 e,(n v o).2 (g1.2 e)];rfl
    ·rw[tf u e,tf v (λe'=>e (g1.1 e'))];rfl
   rw[e];exact(ha u v).2.2 g2
end
def Sp(c:Cv)(p:Pt):Prop:=Rpd p/\df c p=T'
structure Crp (c:Cv):Prop where
 f:Sp c (frC c)
 t:Sp c (toC c)
 q:c.1=T'->0<(ciC c).2.2
 l:c.1=F'->(lnC c).1≠0\/(lnC c).2.1≠0
theorem fM{c:BCU}(h:gdC c):Crp (dC c):=by
 obtain⟨h1,h2,h3⟩:=h;exact⟨⟨db h1.2.2.1,h2⟩,⟨db h1.2.2.2,h3⟩,λe=>(h1.1 e).2,λe=>(h1.2.1 e).2⟩
open RE in
theorem Crp.e{c:Cv}(h:Crp c)(hne:aB (frC c) (toC c)≠0):GdE c:=by
 have hf:=h.f.1;have ht:=h.t.1;have s:=λp (hp:Sp c p)=>hp.2;refine⟨hf,ht,λe=>hne (cmpP_0.2 e),λe=>?_,λe=>?_⟩
 ·have h2:=h.f.2;have h3:=h.t.2;unfold df at h2 h3;rw[e]at h2 h3;exact⟨h.q e,ins_on (aos.1 h2),ins_on (aos.1 h3)⟩
 ·have h2:=h.f.2;have h3:=h.t.2;unfold df at h2 h3;rw[e]at h2 h3;exact⟨h.l e,Iy (aos.1 h2),Iy (aos.1 h3)⟩
namespace RE
theorem Ho(v w:RE):((v-(w))*(v-(w)))+((w*w-(v*v)))+2*((w-(0))*(v-(w)))=0:=by grind
theorem T3(v w:RE)(h1:v*v=w*w)(_h2:0<=v)(h3:0<=w):v<=w:=λhg=>far (aW (aW (mul_pos (bE hg) (bE hg)) (aK (tZ h1))) (lQ (by decide+kernel:(0:Rat)<2) (cr (aK h3) (le_of_lt (bE hg))))) (Ho v w)
theorem Ip(v w:RE):((w-(v))*(w-(v)))+((v*v-(w*w)))+2*((v-(0))*(w-(v)))=0:=by grind
theorem Uq(v w:RE)(h1:v*v=w*w)(h2:0<=v)(_h3:0<=w):w<=v:=λhg=>far (aW (aW (mul_pos (bE hg) (bE hg)) (aK (uo h1))) (lQ (by decide+kernel:(0:Rat)<2) (cr (aK h2) (le_of_lt (bE hg))))) (Ip v w)
theorem Xx(v w:RE)(h1:v*v=w*w)(h2:0<=v)(h3:0<=w):v=w:=le_antisymm (T3 v w h1 h2 h3) (Uq v w h1 h2 h3)
theorem Fy(v w:RE):((v-(w))*(v-(w)))+((v*v-(w*w)))+2*((0-(v))*(v-(w)))=0:=by grind
theorem Mm(v w:RE)(h1:v*v=w*w)(h2:v<=0)(_h3:w<=0):v<=w:=λhg=>far (aW (aW (mul_pos (bE hg) (bE hg)) (aK (uo h1))) (lQ (by decide+kernel:(0:Rat)<2) (cr (aK h2) (le_of_lt (bE hg))))) (Fy v w)
theorem GJ(v w:RE):((w-(v))*(w-(v)))+((w*w-(v*v)))+2*((0-(w))*(w-(v)))=0:=by grind
theorem Mw(v w:RE)(h1:v*v=w*w)(_h2:v<=0)(h3:w<=0):w<=v:=λhg=>far (aW (aW (mul_pos (bE hg) (bE hg)) (aK (tZ h1))) (lQ (by decide+kernel:(0:Rat)<2) (cr (aK h3) (le_of_lt (bE hg))))) (GJ v w)
theorem PR(v w:RE)(h1:v*v=w*w)(h2:v<=0)(h3:w<=0):v=w:=le_antisymm (Mm v w h1 h2 h3) (Mw v w h1 h2 h3)
theorem afu(u v w Q:RE)(h1:u*u+v*v=Q)(h2:u*u+w*w=Q):v*v<=w*w:=by grind
theorem afa(u v w Q:RE)(h1:u*u+v*v=Q)(h2:u*u+w*w=Q):w*w<=v*v:=by grind
theorem ajx(u v w Q:RE)(h1:u*u+v*v=Q)(h2:u*u+w*w=Q):v*v=w*w:=le_antisymm (afu u v w Q h1 h2) (afa u v w Q h1 h2)
theorem Sd(a b:RE)(h1: -a= -b):a<=b:=by grind
theorem Tn(a b:RE)(h1: -a= -b):b<=a:=by grind
theorem Vu(a b:RE)(h1: -a= -b):a=b:=le_antisymm (Sd a b h1) (Tn a b h1)
theorem Ge{u v:RE}:(upA (cls u v)=T'->0<=v)/\(upA (cls u v)=F'->v<=0)/\(ufA (cls u v)=T'->0<=v)/\(ufA (cls u v)=F'->v<=0):=by
 unfold cls upA ufA;rcases cd v with⟨h,e⟩|⟨h,e⟩|⟨h,e⟩<;>rw[e]
 ·exact⟨λ_=>le_of_lt h,λg=>(by cases g),λ_=>le_of_lt h,λg=>(by cases g)⟩
 ·rw[h];exact⟨λ_=>le_refl _,λ_=>le_refl _,λ_=>le_refl _,λ_=>le_refl _⟩
 ·exact⟨λg=>(by cases g),λ_=>le_of_lt h,λg=>(by cases g),λ_=>le_of_lt h⟩
theorem DJ{c:Ln}{p q:Pt}(hp:onCi c p)(hq:onCi c q)(hx:pX p=pX q)(g:(0<=pY p-of c.2.1/\0<=pY q-of c.2.1)\/(pY p-of c.2.1<=0/\pY q-of c.2.1<=0)):pR p=pR q:=by
 unfold onCi at hp hq;rw[hx]at hp;have e:=ajx _ _ _ _ hp hq;refine arb hx ?_;rcases g with⟨a,b⟩|⟨a,b⟩
 ·exact tu _ _ _ (Xx _ _ e a b)
 ·exact tu _ _ _ (PR _ _ e a b)
end RE
open RE in
theorem eL{c:Cv}(ha:c.1=T'){p:Pt}(hp:Sp c p):onCi (ciC c) p:=by
 have:=hp.1;have g:=hp.2;unfold df at g;rw[ha]at g;exact ins_on (aos.1 g)
open RE in
theorem C0{c:Cv}(h:Crp c)(ha:c.1=T'):∃κ:Pt->Bool×RE,(∀d:Cv,d.1=T'->ciC d=ciC c->cwC d=cwC c->Sp c (frC d)->∀p q,Sp c p->Sp c q->co d p q=lJ (λx y:RE=>sg (x-y)) (κ (frC d)) (κ p) (κ q))/\∀p q,Sp c p->Sp c q->(κ p=κ q↔aB p q=0):=by
 cases hw:cwC c
 ·refine⟨λp=>(upR (ciC c) p,pX p),λd d1 d2 d3 hd p q hp hq=>?_,λp q hp hq=>?_⟩
  ·have i1:=hd.1;have:=hp.1;have:=hq.1;have e:∀{x y:Pt},Rpd x->Rpd y->aU (xP x) (xP y)=sg (pX x-pX y):=λ{x y} _ _=>by rw[cmpT_re lX lX,qU,qU]
   unfold co;rw[d1,d3,cond_true,cond_false,d2];exact fD (e hp.1 i1) (e hq.1 i1) (e hp.1 hq.1)
  ·have r1:=hp.1;have r2:=hq.1;rw[cmpP_0];constructor
   ·intro e;injection e with e1 e2;rw[nz,nz]at e1;refine DJ (eL ha hp) (eL ha hq) e2 ?_;cases g:upA (cls (pX p-of (ciC c).1) (pY p-of (ciC c).2.1))
    ·exact .inr ⟨Ge.2.1 g,Ge.2.1 (e1.symm.trans g)⟩
    ·exact .inl ⟨Ge.1 g,Ge.1 (e1.symm.trans g)⟩
   ·intro e;have e1:pX p=pX q:=congrArg Prod.fst e;have e2:pY p=pY q:=congrArg Prod.snd e;show(upR (ciC c) p,pX p)=(upR (ciC c) q,pX q)
    rw[nz,nz,e1,e2]
 ·refine⟨λp=>(upR (flC (ciC c)) (flP p),-pX p),λd d1 d2 d3 hd p q hp hq=>?_,λp q hp hq=>?_⟩
  ·have i1:=hd.1;have:=hp.1;have:=hq.1;have e:∀{x y:Pt},Rpd x->Rpd y->aU (xP (flP x)) (xP (flP y))=sg (-pX x- -pX y):=λ{x y} _ _=>by rw[cmpT_re lX lX,qU,qU,FG,FG]
   unfold co;rw[d1,d3,cond_true,cond_true,d2];exact fD (e hp.1 i1) (e hq.1 i1) (e hp.1 hq.1)
  ·have r1:=hp.1;have r2:=hq.1;rw[cmpP_0];have u1:=wi (h.q ha) (eL ha hp);have u2:=wi (h.q ha) (eL ha hq);constructor
   ·intro e;injection e with e1 e2;rw[u1,u2]at e1;refine DJ (eL ha hp) (eL ha hq) (Vu _ _ e2) ?_;cases g:ufA (cls (pX p-of (ciC c).1) (pY p-of (ciC c).2.1))
    ·exact .inr ⟨Ge.2.2.2 g,Ge.2.2.2 (e1.symm.trans g)⟩
    ·exact .inl ⟨Ge.2.2.1 g,Ge.2.2.1 (e1.symm.trans g)⟩
   ·intro e;have e1:pX p=pX q:=congrArg Prod.fst e;have e2:pY p=pY q:=congrArg Prod.snd e;show(upR (flC (ciC c)) (flP p),-pX p)=(upR (flC (ciC c)) (flP q),-pX q)
    rw[u1,u2,e1,e2]
open RE in
theorem Ex{c:Cv}(h:Crp c):∃(K:Type) (lt:K->K->Prop) (κ:Pt->K) (f:K->K->Int),m6 lt/\v6 lt f/\(∀p q,Sp c p->Sp c q->co c p q=f (κ p) (κ q))/\∀p q,Sp c p->Sp c q->(κ p=κ q↔aB p q=0):=by
 have hF:=h.f;cases ha:c.1
 ·cases hd:D' (aB (frC c) (toC c)>0)
  ·refine⟨PE,ad3,pR,lxc,gz,fq,λp q hp hq=>?_,λp q hp hq=>?_⟩
   ·have:=hp.1;have:=hq.1;unfold co;rw[ha,hd,cond_false,cond_false,iw]
   ·have:=hp.1;have:=hq.1;exact cmpP_0.symm
  ·refine⟨PE,_,pR,_,Q0 gz,MJ fq,λp q hp hq=>?_,λp q hp hq=>?_⟩
   ·have:=hp.1;have:=hq.1;unfold co;rw[ha,hd,cond_false,cond_true,iw]
   ·have:=hp.1;have:=hq.1;exact cmpP_0.symm
 ·obtain⟨κ,h1,h2⟩:=C0 h ha;exact⟨Bool×RE,_,κ,_,zU (LA lt_lin) (κ (frC c)),zJ lt_lin sg_cmpO _,h1 c ha rfl rfl hF,h2⟩
structure Ord (c:Cv):Prop where
 tr:∀{p q r},Sp c p->Sp c q->Sp c r->co c p q<0->co c q r<0->co c p r<0
 tri:∀{p q},Sp c p->Sp c q->co c p q<0\/aB p q=0\/co c q p<0
 irr:∀{p q},Sp c p->Sp c q->aB p q=0->co c p q=0
 asy:∀{p q},Sp c p->Sp c q->co c p q<0->0<co c q p
theorem uN{c:Cv}(h:Crp c):Ord c:=by
 obtain⟨K,lt,κ,f,hl,hc,ho,hk⟩:=Ex h
 have n:∀{p q},Sp c p->Sp c q->(co c p q<0↔lt (κ p) (κ q)):=λ{p q} hp hq=>by
  rw[ho p q hp hq,<-apG (p:=f (κ p) (κ q)<0)];exact yM hl hc _ _
 refine⟨λ{p q r} hp hq hr g g'=>?_,λ{p q} hp hq=>?_,λ{p q} hp hq g=>?_,λ{p q} hp hq g=>?_⟩
 ·rw[n hp hr];exact hl.tr _ _ _ ((n hp hq).1 g) ((n hq hr).1 g')
 ·rw[n hp hq,n hq hp,<-hk p q hp hq];exact hl.tri _ _
 ·rw[ho p q hp hq,(hc _ _).2.1 ((hk p q hp hq).2 g)]
 ·rw[ho q p hq hp,(hc _ _).2.2 ((n hp hq).1 g)];decide
def Spb(c:Cv)(x:BP):Prop:=Sp c (dec x)
theorem RB{c:Cv}(o:Ord c){x:BP}(hx:Spb c x):∀{l:List BP},(∀y∈l,Spb c y)->l.Pairwise (λa b=>co c (dec a) (dec b)<0)->(gf c l x).Pairwise (λa b=>co c (dec a) (dec b)<0)
 |[],_,_=>by simp[gf]
 |y::r,hl,hp=>by
  have hy:=hl y (by simp);have hr:∀z∈r,Spb c z:=λz hz=>hl z (an4 _ hz);obtain⟨p1,p2⟩:=aoR.1 hp;simp only[gf];by_cases h1:co c (dec y) (dec x)<0
  ·rw[anO h1,cond_true];refine aoR.2 ⟨λz hz=>?_,RB o hx hr p2⟩;rcases pJ hz with g|g
   ·exact p1 z g
   ·rw[g];exact h1
  ·rw[anQ h1,cond_false];by_cases h2:aB (dec y) (dec x)=0
   ·rw[aos.2 h2,cond_true];exact hp
   ·rw[aom.2 h2,cond_false]
    have h3:co c (dec x) (dec y)<0:=by
     rcases o.tri hy hx with g|g|g
     ·exact absurd g h1
     ·exact absurd g h2
     ·exact g
    refine aoR.2 ⟨λz hz=>?_,hp⟩;rcases an6.1 hz with g|g
    ·rw[g];exact h3
    ·exact o.tr hx hy (hr z g) h3 (p1 z g)
theorem KN{c:Cv}(o:Ord c):∀{l out:List BP},(∀y∈l,Spb c y)->(∀y∈out,Spb c y)->out.Pairwise (λa b=>co c (dec a) (dec b)<0)->(l.foldl (gf c) out).Pairwise (λa b=>co c (dec a) (dec b)<0)
 |[],_,_,_,h=>h
 |x::l,out,hl,ho,h=>KN o (l:=l) (λy hy=>hl y (an4 _ hy)) (λy hy=>by
   rcases pJ hy with g|g
   ·exact ho y g
   ·rw[g];exact hl x (by simp)) (RB o (hl x (by simp)) ho h)
theorem afP{c:Cv}(o:Ord c){l:List BP}(hl:∀y∈l,Spb c y):(iD c l).Pairwise (λa b=>co c (dec a) (dec b)<0):=KN o hl (λy hy=>by cases hy) List.Pairwise.nil
theorem xA{c:BCU}{R:BP->BP->Prop}{p:BCU}:∀{s:List BP},s.Pairwise R->p∈wE c s->∃x y,x∈s/\y∈s/\R x y/\p=Ah c x y
 |[],_,h=>by cases h
 |[_],_,h=>by cases h
 |x::y::r,hp,h=>by
  obtain⟨p1,p2⟩:=aoR.1 hp;simp only[wE]at h;rcases an6.1 h with h|h
  ·exact⟨x,y,by simp,by simp,p1 y (by simp),h⟩
  ·obtain⟨a,b,h1,h2,h3,h4⟩:=xA p2 h;exact⟨a,b,an4 _ h1,an4 _ h2,h3,h4⟩
theorem H4{c:BCU}(h:gdN c){l:List BP}(ho:∀p∈l,okP 580 p/\onR (dC c) (dec p)=T'):∀x∈vD c l,okP 580 x/\Spb (dC c) x:=by
 intro z hz;rcases DK hz with e|e|e
 ·rw[e];exact⟨h.1.1.2.2.1,db h.1.1.2.2.1,h.2.1⟩
 ·rw[e];exact⟨h.1.1.2.2.2,db h.1.1.2.2.2,h.2.2.1⟩
 ·exact⟨(ho z e).1,db (ho z e).1,(an3.1 (ho z e).2).1⟩
theorem zz{c:BCU}(h:gdN c){l:List BP}(ho:∀p∈l,okP 580 p/\onR (dC c) (dec p)=T'):(vD c l).Pairwise (λa b=>co (dC c) (dec a) (dec b)<0):=by
 refine afP (uN (fM h.gd)) λy hy=>?_;rcases aod.1 hy with hy|hy
 ·simp only[an6,apt,aqK]at hy;rcases hy with e|e
  ·rw[e];exact⟨db h.1.1.2.2.1,h.2.1⟩
  ·rw[e];exact⟨db h.1.1.2.2.2,h.2.2.1⟩
 ·exact⟨db (ho y hy).1,(an3.1 (ho y hy).2).1⟩
theorem Ky{c:BCU}(h:gdN c){l:List BP}(ho:∀p∈l,okP 580 p/\onR (dC c) (dec p)=T'):∀p∈nC c l,gdN p:=by
 intro p hp;have hm:=afQ h ho p hp;obtain⟨x,y,hx,hy,hr,e⟩:=xA (zz h ho) hp;have o:=uN (fM h.gd);refine⟨hm.1,hm.2.1,hm.2.2,λg=>?_⟩;rw[e]at g;have:=o.irr (H4 h ho x hx).2 (H4 h ho y hy).2 g;omega
theorem gdN.e{c:BCU}(h:gdN c):RE.GdE (dC c):=(fM h.gd).e h.2.2.2
theorem KE{c:BCU}(h:gdN c):gdN (gT c):=by
 refine⟨⟨Eg 580 h.1.1,h.1.2⟩,h.2.2.1,h.2.1,λe=>h.2.2.2 ?_⟩;have r1:Rpd (frC (dC c)):=db h.1.1.2.2.1;have r2:Rpd (toC (dC c)):=db h.1.1.2.2.2;have e:aB (toC (dC c)) (frC (dC c))=0:=e;exact RE.cmpP_0.2 (RE.cmpP_0.1 e).symm
end
def TA(c:Cv)(p q:Pt):Int:=bif c.1 then(bif cwC c then-(mr aU (ptd (ciC c) (toC c)) (ptd (ciC c) p) (ptd (ciC c) q))else mr aU (ptd (ciC c) (frC c)) (ptd (ciC c) p) (ptd (ciC c) q))else aB p q*aB (toC c) (frC c)
namespace RE
theorem uZ{p q:Pt}[Rpd p][Rpd q]:aB p q= -aB q p:=by
 rw[iw,iw];rcases gz.tri (pR p) (pR q)with h|h|h
 ·rw[(fq _ _).1 h,(fq _ _).2.2 h]
 ·rw[h,(fq (pR q) (pR q)).2.1 rfl];rfl
 ·rw[(fq _ _).2.2 h,(fq _ _).1 h];rfl
end RE
theorem Xn(f p q:Bool×Rt): -1<=mr aU f p q/\mr aU f p q<=1:=by
 have h:∀n,-1<=Ar n/\Ar n<=1:=λn=>by
  unfold Ar;split<;>(try split)<;>omega
 unfold mr;cases oV aU f p==oV aU f q
 ·exact h _
 ·exact h _
def alB:List En:=[enT oN,enT NR]
def aaR(c:BCU)(p q:BP)(_k:KT):OLR:=match !c.1 with|T'=>(og (D' (okP 4000 p/\okP 4000 q)) (og (D' (okP 4000 c.2.2.2.2.2/\okP 4000 c.2.2.2.2.1)) (S' [RV.d arf (i64.wrap ((aB (dec p) (dec q))*(aB (dec c.2.2.2.2.2) (dec c.2.2.2.2.1))))])))|F'=>(match c.2.2.2.1 with|T'=>(og (D' (ok Ln 300 c.2.2.1/\okP 4000 c.2.2.2.2.2/\okP 4000 p/\okP 4000 q)) (S' [RV.d arf (i64.wrap (0-(mr aU (ptd (dec c.2.2.1) (dec c.2.2.2.2.2)) (ptd (dec c.2.2.1) (dec p)) (ptd (dec c.2.2.1) (dec q)))))]))|F'=>(og (D' (ok Ln 300 c.2.2.1/\okP 4000 c.2.2.2.2.1/\okP 4000 p/\okP 4000 q)) (S' [RV.d arf (mr aU (ptd (dec c.2.2.1) (dec c.2.2.2.2.1)) (ptd (dec c.2.2.1) (dec p)) (ptd (dec c.2.2.1) (dec q)))])))
def aaS:Cn 238 [tCU,tP,tP]:=cn λ(c:BCU) (p q:BP)=>lf (okC 4000 c/\okP 4000 p/\okP 4000 q) [.d arf (TA (dC c) (dec p) (dec q))] λh=>by
 refine aA alB (aaR c p q) ⟨0,?_⟩;obtain⟨hc,hp,hq⟩:=h;obtain⟨ar,li,ci,cw,fr,to⟩:=c;have h3:=hc.2.2.1;have h4:=hc.2.2.2;simp only at h3 h4;unfold aaR TA;cases ar
 ·have b1:=C7 (dec p) (dec q);have b2:=C7 (dec to) (dec fr);simp only[dT (show okP 4000 p/\okP 4000 q from⟨hp,hq⟩),dT (show okP 4000 to/\okP 4000 fr from⟨h4,h3⟩),vY b1 b2];rfl
 ·have e:=(hc.1 rfl).1;simp only at e;cases cw
  ·simp only[dT (show ok Ln 300 ci/\okP 4000 fr/\okP 4000 p/\okP 4000 q from⟨e,h3,hp,hq⟩)];rfl
  ·have b:=Xn (ptd (dec ci) (dec to)) (ptd (dec ci) (dec p)) (ptd (dec ci) (dec q));simp only[dT (show ok Ln 300 ci/\okP 4000 to/\okP 4000 p/\okP 4000 q from⟨e,h4,hp,hq⟩)];try dsimp only[Bool.not_true]
   rw[aM (x:=0-mr aU (ptd (dec ci) (dec to)) (ptd (dec ci) (dec p)) (ptd (dec ci) (dec q))) (by omega) (by omega),aps];rfl
theorem rB{α:Type}{lt:α->α->Prop}(h:m6 lt){L:List α}{a b:α}(ha:a∈L)(hb:b∈L):lt a b↔rk lt L a<rk lt L b:=by
 refine⟨λg=>yz h g ha,λg=>?_⟩;rcases h.tri a b with e|e|e
 ·exact e
 ·rw[e]at g;omega
 ·have:=yz h e hb;omega
theorem WJ{α:Type}{lt:α->α->Prop}(h:m6 lt){o x y p:α}(hxy:cLt lt o x y):¬cLt lt x y p↔¬cLt lt o p x/\¬cLt lt o y p:=by
 have m1:o∈[o,x,y,p]:=by simp
 have m2:x∈[o,x,y,p]:=by simp
 have m3:y∈[o,x,y,p]:=by simp
 have m4:p∈[o,x,y,p]:=by simp
 unfold cLt at*
 rw[rB h m2 m1,rB h m3 m1,rB h m2 m3]at hxy;rw[rB h m3 m2,rB h m4 m2,rB h m3 m4,rB h m4 m1,rB h m2 m1,rB h m3 m1];omega
theorem Dc{α:Type}{lt:α->α->Prop}{f:α->α->Int}(hl:m6 lt)(h:v6 lt f)(x y:α):f x y<=0↔¬lt y x:=by
 rcases hl.tri x y with g|g|g
 ·rw[(h x y).1 g];exact⟨λ_ e=>hl.irr _ (hl.tr _ _ _ e g),λ_=>by decide⟩
 ·rw[(h x y).2.1 g];exact⟨λ_ e=>by rw[g]at e;exact hl.irr _ e,λ_=>by decide⟩
 ·rw[(h x y).2.2 g];exact⟨λe=>absurd e (by decide),λe=>absurd g e⟩
theorem jl{α:Type}{lt:α->α->Prop}{f:α->α->Int}(hl:m6 lt)(h:v6 lt f)(x y:α):f x y<0↔lt x y:=by
 rw[<-apG (p:=f x y<0)];exact yM hl h x y
def pcC(c:Cv)(x y:Pt):Cv:=(c.1,c.2.1,c.2.2.1,c.2.2.2.1,x,y)
structure amJ (c:Cv):Prop extends Ord c where
 le:∀{p q},Sp c p->Sp c q->(co c p q<=0↔¬co c q p<0)
 lt:∀{p q r},Sp c p->Sp c q->Sp c r->¬co c q p<0->¬co c r q<0->¬co c r p<0
theorem KU{c:Cv}(h:Crp c):amJ c:=by
 obtain⟨K,lt,κ,f,hl,hc,ho,hk⟩:=Ex h;refine⟨uN h,λ{p q} hp hq=>?_,λ{p q r} hp hq hr=>?_⟩
 ·rw[ho p q hp hq,ho q p hq hp,Dc hl hc,jl hl hc]
 ·rw[ho q p hq hp,ho r q hr hq,ho r p hr hp,jl hl hc,jl hl hc,jl hl hc];intro g g' e;rcases hl.tri (κ q) (κ p)with a|a|a
  ·exact g a
  ·exact g' (by rw[a];exact e)
  ·exact g' (hl.tr _ _ _ e a)
theorem yD{c:Cv}(h:Crp c){p:Pt}(hp:Rpd p):onR c p=T'↔df c p=T'/\¬co c p (frC c)<0/\¬co c (toC c) p<0:=by
 have o:=KU h;unfold onR;rw[an3,an3,apG,apG];refine and_congr_right λhs=>?_;rw[o.le h.f ⟨hp,hs⟩,o.le ⟨hp,hs⟩ h.t]
theorem ae5{c:Cv}(h:Crp c){x y p:Pt}(hx:Sp c x)(hy:Sp c y)(hxy:co c x y<0)(hp:Rpd p):onR (pcC c x y) p=T'↔df c p=T'/\¬co c p x<0/\¬co c y p<0:=by
 have o:=KU h;have es:df (pcC c x y) p=df c p:=rfl;unfold onR;rw[an3,an3,apG,apG,es];refine and_congr_right λhs=>?_;have sp:Sp c p:=⟨hp,hs⟩
 show co (pcC c x y) x p<=0/\co (pcC c x y) p y<=0↔_;cases ha:c.1
 ·have e:∀a b,co (pcC c x y) a b=co c a b:=λa b=>by
   have e1:D' (aB x y>0)=D' (aB (frC c) (toC c)>0):=by
    unfold co at hxy;rw[ha,cond_false]at hxy;cases hd:D' (aB (frC c) (toC c)>0)<;>rw[hd]at hxy
    ·exact anQ (by rw[cond_false]at hxy;omega)
    ·exact anO (by rw[cond_true]at hxy;omega)
   unfold co;show(bif c.1 then _ else bif D' (aB x y>0)then _ else _)=_;rw[ha,cond_false,cond_false,e1]
  rw[e,e,o.le hx sp,o.le sp hy]
 ·obtain⟨κ,h1,h2⟩:=C0 h ha;have hl:=LA RE.lt_lin;have hc:=λu=>zJ RE.lt_lin RE.sg_cmpO u;have ex:=h1 (pcC c x y) ha rfl rfl hx;have ec:=h1 c ha rfl rfl h.f;rw[ec x y hx hy,jl (zU hl _) (hc _)]at hxy;rw[ex x p hx sp,ex p y sp hy,ec p x sp hx,ec y p hy sp,Dc (zU hl _) (hc _),Dc (zU hl _) (hc _),jl (zU hl _) (hc _),jl (zU hl _) (hc _)];refine Iff.trans (and_iff_right ?_) (WJ hl hxy);rintro (⟨_,g⟩|⟨g1,g2⟩)
  ·exact hl.irr _ g
  ·exact hl.irr _ (g1.1 g2)
theorem Bu{c:Cv}{x y:BP}:∀{r:List BP},y∈r->y∈gf c r x
 |[],h=>by cases h
 |z::r,h=>by
  simp only[gf];cases D' (co c (dec z) (dec x)<0)
  ·cases aB (dec z) (dec x)==0
   ·exact an4 _ h
   ·exact h
  ·rcases an6.1 h with e|e
   ·rw[e];exact .head _
   ·exact an4 _ (Bu e)
theorem E8{c:Cv}{y:BP}:∀{l r:List BP},y∈r->y∈l.foldl (gf c) r
 |[],_,h=>h
 |_::l,_,h=>E8 (l:=l) (Bu h)
theorem abS{c:BCU}(h:gdN c):co (dC c) (frC (dC c)) (toC (dC c))<0:=by
 have k:=fM h.gd;have hne:aB (frC (dC c)) (toC (dC c))≠0:=h.2.2.2;cases ha:(dC c).1
 ·unfold co;rw[ha,cond_false];cases hd:D' (aB (frC (dC c)) (toC (dC c))>0)
  ·have:=aoF hd;rw[cond_false];omega
  ·have:=anP hd;rw[cond_true];omega
 ·rcases(uN k).tri k.f k.t with g|g|g
  ·exact g
  ·exact absurd g hne
  ·obtain⟨κ,h1,h2⟩:=C0 k ha;have hl:=LA RE.lt_lin;rw[h1 (dC c) ha rfl rfl k.f _ _ k.t k.f,jl (zU hl _) (zJ RE.lt_lin RE.sg_cmpO _)]at g;rcases g with⟨_,g⟩|⟨g1,g2⟩
   ·exact absurd g (hl.irr _)
   ·exact absurd (g1.1 g2) (hl.irr _)
theorem ID{c:BCU}(h:gdN c):onR (dC c) (frC (dC c))=T'/\onR (dC c) (toC (dC c))=true:=by
 have k:=fM h.gd;have o:=uN k
 have irr:∀{q},Sp (dC c) q->co (dC c) q q=0:=λ{q} hq=>by
  have:=hq.1;exact o.irr hq hq (RE.cmpP_0.2 rfl)
 have tf:=o.asy k.f k.t (abS h);rw[yD k k.f.1,yD k k.t.1,irr k.f,irr k.t];exact⟨⟨k.f.2,by omega,by omega⟩,k.t.2,by omega,by omega⟩
abbrev oL(c:Cv)(A:List BP):Prop:=A.Pairwise (λa b=>co c (dec a) (dec b)<0)
section
section
variable {α K:Type}
def lH(lt:α->α->Bool):List α->α->List α
 |[],a=>[a]
 |b::r,a=>bif lt a b then b::lH lt r a else a::b::r
def qX(lt:α->α->Bool)(l:List α):List α:=(l.foldl (lH lt) []).reverse
def qV(eq:α->α->Bool):α->List α->List α
 |_,[]=>[]
 |p,q::r=>bif eq q p then qV eq q r else q::qV eq q r
def Um(eq:α->α->Bool):List α->List α
 |[]=>[]
 |x::r=>x::qV eq x r
theorem xK{lt:α->α->Bool}{a x:α}:∀{r:List α},x∈lH lt r a↔x=a\/x∈r
 |[]=>by simp[lH]
 |b::r=>by
  unfold lH;cases lt a b
  ·simp
  ·simp only[cond_true,an6,xK (r:=r)];constructor
   ·rintro (h|h|h)
    ·exact .inr (.inl h)
    ·exact .inl h
    ·exact .inr (.inr h)
   ·rintro (h|h|h)
    ·exact .inr (.inl h)
    ·exact .inl h
    ·exact .inr (.inr h)
theorem Gk{lt:α->α->Bool}{x:α}:∀{l r:List α},x∈l.foldl (lH lt) r↔x∈l\/x∈r
 |[],r=>by simp
 |a::l,r=>by
  rw[ap6,Gk,xK,an6];constructor
  ·rintro (h|h|h)
   ·exact .inl (.inr h)
   ·exact .inl (.inl h)
   ·exact .inr h
  ·rintro ((h|h)|h)
   ·exact .inr (.inl h)
   ·exact .inl h
   ·exact .inr (.inr h)
theorem F7{lt:α->α->Bool}{x:α}{l:List α}:x∈qX lt l↔x∈l:=by
 unfold qX;rw[List.mem_reverse,Gk];simp
theorem qa{lt:α->α->Bool}{a:α}:∀{r:List α},(lH lt r a).length=r.length+1
 |[]=>rfl
 |b::r=>by
  unfold lH;cases lt a b
  ·rfl
  ·simp[qa (r:=r)]
theorem Jj{lt:α->α->Bool}:∀{l r:List α},(l.foldl (lH lt) r).length=l.length+r.length
 |[],r=>by simp
 |a::l,r=>by
  rw[ap6,Jj,qa,an8];omega
theorem Fg{lt:α->α->Bool}{l:List α}:(qX lt l).length=l.length:=by
 unfold qX;rw[List.length_reverse,Jj];rfl
theorem EC{eq:α->α->Bool}:∀{l:List α} {p:α},(qV eq p l).length<=l.length
 |[],_=>anT _
 |q::r,p=>by
  unfold qV;have:=EC (eq:=eq) (l:=r) (p:=q);cases eq q p
  ·simp only[cond_false,an8];omega
  ·simp only[cond_true,an8];omega
theorem UG{eq:α->α->Bool}{l:List α}:(Um eq l).length<=l.length:=by
 cases l with
 |nil=>exact anT _
 |cons x r=>
  have:=EC (eq:=eq) (l:=r) (p:=x);simp only[Um,an8];omega
theorem z5{eq:α->α->Bool}{x:α}:∀{l:List α} {p:α},x∈qV eq p l->x∈l
 |[],_,h=>h
 |q::r,p,h=>by
  unfold qV at h;cases hq:eq q p<;>rw[hq]at h
  ·rcases an6.1 h with e|e
   ·rw[e];simp
   ·exact an4 _ (z5 e)
  ·exact an4 _ (z5 h)
theorem Ra{eq:α->α->Bool}{x:α}{l:List α}(h:x∈Um eq l):x∈l:=by
 cases l with
 |nil=>exact h
 |cons y r=>
  rcases an6.1 h with e|e
  ·rw[e];simp
  ·exact an4 _ (z5 e)
variable {lt:K->K->Prop} (hl:m6 lt) (κ:α->K)
include hl in
include hl in
include hl in
include hl in
include hl in
end
def ltP(c:Cv)(a b:BP):Bool:=D' (TA c (dec a) (dec b)<0)
def fV(a b:BP):Bool:=aB (dec a) (dec b)==0
def dv(c:Cv)(l:List BP):List BP:=Um fV (qX (ltP c) l)
theorem nj{c:Cv}{l:List BP}{x:BP}(h:x∈dv c l):x∈l:=F7.1 (Ra h)
theorem nq{c:Cv}{l:List BP}:(dv c l).length<=l.length:=by
 have:=UG (eq:=fV) (l:=qX (ltP c) l);rw[Fg]at this;exact this
end
section
theorem CM{n m k:Nat}(h1:n+m<=100000000)(hk:k<=1000000):D' ((n+m)*k<=140737488355328/\n+m<=140737488355328)=true:=by
 refine anO ⟨?_,by omega⟩;have:=aqi h1 hk;omega
def kK(c:BCU)(l:List BP):Prop:=okC 4000 c/\l.length<=19/\∀x∈l,okP 4000 x
instance (c:BCU) (l:List BP):Decidable (kK c l):=by unfold kK;infer_instance
def Sa:Ctx:=CX [] []
def Tm(p:List BP)(_k:KT):OLR:=match p with|[]=>E3 (S' [RV.new 40 tP []]) (og (D' ((([]:List BP).length+p.length)*320<=140737488355328/\([]:List BP).length+p.length<=140737488355328)) (S' [RV.new 40 tP (([]:List BP)++p)]))|_::_=>(og (D' ((([]:List BP).length+p.length)*320<=140737488355328/\([]:List BP).length+p.length<=140737488355328)) (S' [RV.new 40 tP (([]:List BP)++p)]))
theorem afX(p:List BP):RS Sa 155 [.d (.sl tP) p] (Tm p):=rsX
def IS:Cn 155 [(.sl tP)]:=cn λ(p:List BP)=>lf (p.length<=100000) [.new 40 tP p] λh=>by
 refine Ctx.Res.con (C:=Sa) (Cz (E:=[]) trivial) ?_ (fn:=Tryz.f155) (by kernel_rfl) (by kernel_rfl);refine afX _ ⟨0,?_⟩;unfold Tm;rw[CM (n:=([]:List BP).length) (m:=p.length) (by simp;omega) (by omega)];cases p with
 |nil=>exact dz _
 |cons a p=>rfl
def abZ:List En:=[enT oN]
def abi(p q:BP)(_k:KT):OLR:=og (D' (okP 4000 p/\okP 4000 q)) (S' [RV.d .bool ((aB (dec p) (dec q))==0)])
def oM:Cn 131 [tP,tP]:=cn λ(p q:BP)=>lf (okP 4000 p/\okP 4000 q) [.d .bool (aB (dec p) (dec q)==0)] λh=>by
 refine aA abZ (abi p q) ⟨0,?_⟩;unfold abi;rw[dT h]
def Jt:cE:={keep:=T',run:=λ_ _ _=>N'}
theorem LD:SpK 359 Jt:=by
 refine⟨by kernel_rfl,λR args k r h=>(by cases h),(λg h=>(by cases h)),λ_ _ e=>(by cases e)⟩
def Hz:List En:=[enT aaS,enT oM,enK IS,⟨359,Jt,LD⟩]
def ae4:NT:=[((304,6),{keep:=[0,1,2,6,7,8],hl:=2}),((358,3),{keep:=[0,1,2,3,8],hl:=2}),((358,15),{keep:=[0,1,2,3,8,9],hl:=2}),((304,22),{keep:=[0,1,2,6],hl:=2}),((304,34),{keep:=[0,1,2,6,7,8],hl:=2}),((239,14),{keep:=[0,1,5],hl:=2}),((239,32),{keep:=[0,1,5,6,7],hl:=2}),((158,5),{keep:=[1],hl:=0}),((236,0),{keep:=[],hl:=0}),((304,15),{keep:=[0,1,2,6,8],hl:=0}),((304,20),{keep:=[0,1,2,6],hl:=0}),((358,18),{keep:=[0,1,2,3,8,9,18,19,20,21,22,23,24,25,26,27,28,29,30,31,32,33,34],hl:=0}),((158,7),{keep:=[11],hl:=0})]
def iL:Ctx:=CX (ens Hz) ae4
def rQ(c:BCU)(l:List BP)(s304_7 s304_8:Int)(r304_1:List BP):Cfg:=⟨304,[.blk 0,.seq 19],[(0,.own 1),(1,SI (l.length:Int)),(2,.clo 237 [0]),(6,SI 20),(7,SI s304_7),(8,SI s304_8)],[.box 48 (Ty.split tCU c),.row 40 tP r304_1],2,[⟨236,[],0,4,[],2,N'⟩,⟨158,[.seq 6],5,2,[(1,.own 1)],0,N'⟩]⟩
def r9(c:BCU)(l:List BP)(s304_7 s304_8 s358_8:Int)(r358_1:List BP):Cfg:=⟨358,[.blk 0],[(0,.own 1),(1,SI s304_7),(2,SI s304_8),(3,.clo 237 [0]),(8,SI s358_8)],[.box 48 (Ty.split tCU c),.row 40 tP r358_1],2,[⟨304,[.seq 16,.blk 1,.lp 6,.blk 0,.seq 19],15,4,[(0,.own 1),(1,SI (l.length:Int)),(2,.clo 237 [0]),(6,SI 20),(8,SI s304_8)],2,N'⟩,⟨236,[],0,4,[],2,N'⟩,⟨158,[.seq 6],5,2,[(1,.own 1)],0,N'⟩]⟩
def eE(c:BCU)(l:List BP)(s304_7 s358_8:Int)(r358_1:List BP):Cfg:=⟨358,[.blk 0],[(0,.own 1),(1,SI s304_7),(2,SI (l.length:Int)),(3,.clo 237 [0]),(8,SI s358_8)],[.box 48 (Ty.split tCU c),.row 40 tP r358_1],2,[⟨304,[.seq 21],20,4,[(0,.own 1),(1,SI (l.length:Int)),(2,.clo 237 [0]),(6,SI 20)],2,N'⟩,⟨236,[],0,4,[],2,N'⟩,⟨158,[.seq 6],5,2,[(1,.own 1)],0,N'⟩]⟩
def GV(c:BCU)(l:List BP)(s304_7 s304_8 s358_8 s358_9:Int)(r358_1:List BP):Cfg:=⟨358,[.blk 2,.blk 1,.seq 26,.lp 3,.blk 0],[(0,.own 1),(1,SI s304_7),(2,SI s304_8),(3,.clo 237 [0]),(8,SI s358_8),(9,SI s358_9)],[.box 48 (Ty.split tCU c),.row 40 tP r358_1],2,[⟨304,[.seq 16,.blk 1,.lp 6,.blk 0,.seq 19],15,4,[(0,.own 1),(1,SI (l.length:Int)),(2,.clo 237 [0]),(6,SI 20),(8,SI s304_8)],2,N'⟩,⟨236,[],0,4,[],2,N'⟩,⟨158,[.seq 6],5,2,[(1,.own 1)],0,N'⟩]⟩
def gh(c:BCU)(l:List BP)(s304_7 s358_8 s358_9:Int)(r358_1:List BP):Cfg:=⟨358,[.blk 2,.blk 1,.seq 26,.lp 3,.blk 0],[(0,.own 1),(1,SI s304_7),(2,SI (l.length:Int)),(3,.clo 237 [0]),(8,SI s358_8),(9,SI s358_9)],[.box 48 (Ty.split tCU c),.row 40 tP r358_1],2,[⟨304,[.seq 21],20,4,[(0,.own 1),(1,SI (l.length:Int)),(2,.clo 237 [0]),(6,SI 20)],2,N'⟩,⟨236,[],0,4,[],2,N'⟩,⟨158,[.seq 6],5,2,[(1,.own 1)],0,N'⟩]⟩
def jB(c:BCU)(l r358_1:List BP)(s304_6:Int):Cfg:=⟨304,[.blk 2],[(0,.own 1),(1,SI (l.length:Int)),(2,.clo 237 [0]),(6,SI s304_6)],[.box 48 (Ty.split tCU c),.row 40 tP r358_1],2,[⟨236,[],0,4,[],2,N'⟩,⟨158,[.seq 6],5,2,[(1,.own 1)],0,N'⟩]⟩
def Fa(c:BCU)(l r358_1:List BP)(s304_6:Int):Cfg:=⟨304,[.blk 4,.seq 47,.blk 3,.lp 22,.blk 2],[(0,.own 1),(1,SI (l.length:Int)),(2,.clo 237 [0]),(6,SI s304_6),(7,SI 0),(8,SI (i64.wrap (2*s304_6)))],[.box 48 (Ty.split tCU c),.row 40 tP r358_1],2,[⟨236,[],0,4,[],2,N'⟩,⟨158,[.seq 6],5,2,[(1,.own 1)],0,N'⟩]⟩
def jz(c:BCU)(r358_1:List BP)(s239_5:Int):Cfg:=⟨239,[.blk 0,.seq 56],[(0,.own 1),(1,.clo 131 []),(5,SI s239_5)],[.box 48 (Ty.split tCU c),.row 40 tP r358_1],2,[⟨158,[.seq 8],7,1,[],0,N'⟩]⟩
def dW(c:BCU)(r358_1:List BP)(s239_5 s239_5v s239_7:Int)(r239_1:List BP):Cfg:=⟨239,[.blk 2,.seq 49,.blk 1,.seq 55,.lp 14,.blk 0,.seq 56],[(0,.own 1),(1,.clo 131 []),(5,SI s239_5v),(6,.osl 1 20 ((s239_5:Int).toNat) (((r358_1.length:Int):Int).toNat-(s239_5:Int).toNat)),(7,SI s239_7)],[.box 48 (Ty.split tCU c),.row 40 tP r239_1],2,[⟨158,[.seq 8],7,1,[],0,N'⟩]⟩
def aaM(c:BCU)(l:List BP)(k:KT):OLR:=og (D' (l.length<=100000)) (k 6 (rQ c l 0 20 l))
theorem akj(c:BCU)(l:List BP):RS iL 158 [.d tCU c,.d (.sl tP) l] (aaM c l):=rsX
def tm(c:BCU)(l:List BP)(s304_7 s304_8:Int)(r304_1:List BP)(k:KT):OLR:=match D' (s304_8<=(l.length:Int))with|T'=>k 3 (r9 c l s304_7 s304_8 (i64.wrap (s304_7+1)) r304_1)|F'=>k 3 (eE c l s304_7 (i64.wrap (s304_7+1)) r304_1)
theorem Ej(c:BCU)(l:List BP)(s304_7 s304_8:Int)(r304_1:List BP):RN iL 6 (rQ c l s304_7 s304_8 r304_1) (tm c l s304_7 s304_8 r304_1):=rnX
def io(c:BCU)(l:List BP)(s304_7 s358_8:Int)(r358_1:List BP)(k:KT):OLR:=match D' (s358_8<(l.length:Int))with|T'=>k 15 (gh c l s304_7 s358_8 s358_8 r358_1)|F'=>k 22 (jB c l r358_1 20)
theorem kV(c:BCU)(l:List BP)(s304_7 s358_8:Int)(r358_1:List BP):RN iL 3 (eE c l s304_7 s358_8 r358_1) (io c l s304_7 s358_8 r358_1):=rnX
def UR(c:BCU)(l:List BP)(s304_7 s304_8 s358_8 s358_9:Int)(r358_1:List BP)(k:KT):OLR:=match D' (s358_9>s304_7)with|T'=>(match aH r358_1 s358_9 with|S' _=>(match T',r358_1[(s358_9).toNat]? with|T',S' x1=>(match aH r358_1 (i64.wrap (s358_9-1))with|S' _=>(match T',r358_1[(i64.wrap (s358_9-1)).toNat]? with|T',S' x2=>(og (D' (okC 4000 c/\okP 4000 x1/\okP 4000 x2)) (match D' ((TA (dC c) (dec x1) (dec x2))<0)with|T'=>(match aH r358_1 (i64.wrap (s358_9-1))with|S' _=>(match T',r358_1[(i64.wrap (s358_9-1)).toNat]? with|T',S' x3=>(match aH r358_1 s358_9 with|S' _=>(match T',r358_1[(s358_9).toNat]? with|T',S' x4=>(match aH r358_1 s358_9 with|S' _=>(match T',r358_1[(s358_9).toNat]? with|T',S' _=>(match aH (r358_1.set ((s358_9).toNat) x3) (i64.wrap (s358_9-1))with|S' _=>(match T',(r358_1.set ((s358_9).toNat) x3)[(i64.wrap (s358_9-1)).toNat]? with|T',S' _=>k 15 (GV c l s304_7 s304_8 s358_8 (i64.wrap (s358_9-1)) ((r358_1.set ((s358_9).toNat) x3).set ((i64.wrap (s358_9-1)).toNat) x4))|_,_=>N')|N'=>N')|_,_=>N')|N'=>N')|_,_=>N')|N'=>N')|_,_=>N')|N'=>N')|F'=>k 3 (r9 c l s304_7 s304_8 (i64.wrap (s358_8+1)) r358_1)))|_,_=>N')|N'=>N')|_,_=>N')|N'=>N')|F'=>k 3 (r9 c l s304_7 s304_8 (i64.wrap (s358_8+1)) r358_1)
def gj(c:BCU)(l:List BP)(s304_7 s358_8 s358_9:Int)(r358_1:List BP)(k:KT):OLR:=match D' (s358_9>s304_7)with|T'=>(match aH r358_1 s358_9 with|S' _=>(match T',r358_1[(s358_9).toNat]? with|T',S' x1=>(match aH r358_1 (i64.wrap (s358_9-1))with|S' _=>(match T',r358_1[(i64.wrap (s358_9-1)).toNat]? with|T',S' x2=>(og (D' (okC 4000 c/\okP 4000 x1/\okP 4000 x2)) (match D' ((TA (dC c) (dec x1) (dec x2))<0)with|T'=>(match aH r358_1 (i64.wrap (s358_9-1))with|S' _=>(match T',r358_1[(i64.wrap (s358_9-1)).toNat]? with|T',S' x3=>(match aH r358_1 s358_9 with|S' _=>(match T',r358_1[(s358_9).toNat]? with|T',S' x4=>(match aH r358_1 s358_9 with|S' _=>(match T',r358_1[(s358_9).toNat]? with|T',S' _=>(match aH (r358_1.set ((s358_9).toNat) x3) (i64.wrap (s358_9-1))with|S' _=>(match T',(r358_1.set ((s358_9).toNat) x3)[(i64.wrap (s358_9-1)).toNat]? with|T',S' _=>k 15 (gh c l s304_7 s358_8 (i64.wrap (s358_9-1)) ((r358_1.set ((s358_9).toNat) x3).set ((i64.wrap (s358_9-1)).toNat) x4))|_,_=>N')|N'=>N')|_,_=>N')|N'=>N')|_,_=>N')|N'=>N')|_,_=>N')|N'=>N')|F'=>k 3 (eE c l s304_7 (i64.wrap (s358_8+1)) r358_1)))|_,_=>N')|N'=>N')|_,_=>N')|N'=>N')|F'=>k 3 (eE c l s304_7 (i64.wrap (s358_8+1)) r358_1)
theorem jS(c:BCU)(l:List BP)(s304_7 s358_8 s358_9:Int)(r358_1:List BP):RN iL 15 (gh c l s304_7 s358_8 s358_9 r358_1) (gj c l s304_7 s358_8 s358_9 r358_1):=rnX
def jn(c:BCU)(l r358_1:List BP)(s304_6:Int)(k:KT):OLR:=match D' (s304_6<(l.length:Int))with|T'=>k 34 (Fa c l r358_1 s304_6)|F'=>(match D' ((r358_1.length:Int)<2)with|T'=>S' [RV.new 40 tP r358_1]|F'=>k 14 (jz c r358_1 1))
theorem mg(c:BCU)(l r358_1:List BP)(s304_6:Int):RN iL 22 (jB c l r358_1 s304_6) (jn c l r358_1 s304_6):=rnX
def ja(c:BCU)(r358_1:List BP)(s239_5:Int)(k:KT):OLR:=match D' (s239_5<(r358_1.length:Int))with|T'=>(match aH r358_1 s239_5 with|S' _=>(match T',r358_1[(s239_5).toNat]? with|T',S' x1=>(match aH r358_1 (i64.wrap (s239_5-1))with|S' _=>(match T',r358_1[(i64.wrap (s239_5-1)).toNat]? with|T',S' x2=>(og (D' (okP 4000 x1/\okP 4000 x2)) (match aB (dec x1) (dec x2)==0 with|T'=>(og (D' ((0:Int)<=s239_5/\s239_5<=(r358_1.length:Int)/\(r358_1.length:Int)<=(r358_1.length:Int))) (k 32 (dW c r358_1 s239_5 s239_5 1 r358_1)))|F'=>k 14 (jz c r358_1 (i64.wrap (s239_5+1)))))|_,_=>N')|N'=>N')|_,_=>N')|N'=>N')|F'=>S' [RV.new 40 tP r358_1]
theorem mI(c:BCU)(r358_1:List BP)(s239_5:Int):RN iL 14 (jz c r358_1 s239_5) (ja c r358_1 s239_5):=rnX
def gk(c:BCU)(r358_1:List BP)(s239_5 s239_5v s239_7:Int)(r239_1:List BP)(k:KT):OLR:=match D' (s239_7<((((r358_1.length:Int):Int).toNat-(s239_5:Int).toNat:Nat):Int))with|T'=>(match T',D' ((0:Int)<=s239_7/\s239_7<((((r358_1.length:Int):Int).toNat-(s239_5:Int).toNat:Nat):Int))with|T',T'=>(match T',r239_1[(s239_5:Int).toNat+(s239_7).toNat]? with|T',S' x1=>(match T',D' ((0:Int)<=i64.wrap (s239_7-1)/\i64.wrap (s239_7-1)<((((r358_1.length:Int):Int).toNat-(s239_5:Int).toNat:Nat):Int))with|T',T'=>(match T',r239_1[(s239_5:Int).toNat+(i64.wrap (s239_7-1)).toNat]? with|T',S' x2=>(og (D' (okP 4000 x1/\okP 4000 x2)) (match !(aB (dec x1) (dec x2)==0)with|T'=>(match T',D' ((0:Int)<=s239_7/\s239_7<((((r358_1.length:Int):Int).toNat-(s239_5:Int).toNat:Nat):Int))with|T',T'=>(match T',r239_1[(s239_5:Int).toNat+(s239_7).toNat]? with|T',S' x3=>(match aH r239_1 s239_5v with|S' _=>(match T',r239_1[(s239_5v).toNat]? with|T',S' _=>k 32 (dW c r358_1 s239_5 (i64.wrap (s239_5v+1)) (i64.wrap (s239_7+1)) (r239_1.set ((s239_5v).toNat) x3))|_,_=>N')|N'=>N')|_,_=>N')|_,_=>N')|F'=>k 32 (dW c r358_1 s239_5 s239_5v (i64.wrap (s239_7+1)) r239_1)))|_,_=>N')|_,_=>N')|_,_=>N')|_,_=>N')|F'=>(og (D' ((0:Int)<=s239_5v/\s239_5v<=(r239_1.length:Int)/\(r239_1.length:Int)<=(r239_1.length:Int))) (og (D' ((0:Int)<=0/\0<=s239_5v/\s239_5v<=((jr (Ty.zero tP) ((s239_5v:Int).toNat) (((r239_1.length:Int):Int).toNat-(s239_5v:Int).toNat) r239_1).length:Int))) (S' [RV.d (.sl tP) (((jr (Ty.zero tP) ((s239_5v:Int).toNat) (((r239_1.length:Int):Int).toNat-(s239_5v:Int).toNat) r239_1).drop ((0:Int).toNat)).take ((s239_5v:Int).toNat-(0:Int).toNat))])))
theorem jZ(c:BCU)(r358_1:List BP)(s239_5 s239_5v s239_7:Int)(r239_1:List BP):RN iL 32 (dW c r358_1 s239_5 s239_5v s239_7 r239_1) (gk c r358_1 s239_5 s239_5v s239_7 r239_1):=rnX
theorem nP{α:Type}(L:List α)(x:α)(T:List α):(L++x::T)[L.length]?=S' x:=by simp
theorem CC{α:Type}(x y:α)(T:List α):∀L:List α,(L++x::T).set L.length y=L++y::T
 |[]=>rfl
 |a::L=>by simp[CC x y T L]
section
variable (c:BCU) (l:List BP)
def aks(ys:List BP)(r:List RV):Prop:=r=[.new 40 tP ys]\/r=[.d (.sl tP) ys]
abbrev rD(i:Nat)(g:Cfg)(ys:List BP):Prop:=∃r,iL.Runs i g r/\aks ys r
end
section
variable (c:BCU) (l:List BP) (hc:okC 4000 c)
include hc
theorem AI(hl:l.length<=19)(i:Nat)(ys:List BP):∀(L:List BP) (a:BP) (R:List BP),(∀x∈L,okP 4000 x)->okP 4000 a->(L.reverse++a::R).length<=19->i<=19->
  rD 3 (eE c l 0 ((i+1:Nat):Int) ((lH (ltP (dC c)) L a).reverse++R)) ys->rD 15 (gh c l 0 (i:Int) (L.length:Int) (L.reverse++a::R)) ys
 |[],a,R,hL,ha,h19,hi,⟨r,⟨n,hn⟩,hr⟩=>by
  refine⟨r,jS _ _ _ _ _ _ ⟨n,?_⟩,hr⟩;unfold gj;rw[dF (show ¬((([]:List BP).length:Nat):Int)>0 by simp),aT (by omega)];exact hn
 |b::L,a,R,hL,ha,h19,hi,hnext=>by
  have hb:=hL b (by simp);have hln:L.length<=18:=by simp at h19;omega
  have hrev:(b::L).reverse++a::R=L.reverse++b::a::R:=by simp
  have e1:((b::L).length:Int)=((L.length+1:Nat):Int):=rfl;have ew:i64.wrap (((L.length+1:Nat):Int)-1)=(L.length:Int):=by rw[aM (by omega) (by omega)];omega
  have g1:(L.reverse++b::a::R)[L.length+1]?=S' a:=by
   simp
  have g0:(L.reverse++b::a::R)[L.length]?=S' b:=by
   simp
  have s1:(L.reverse++b::a::R).set (L.length+1) b=L.reverse++b::b::R:=by
   simp
  have s2:(L.reverse++b::b::R).set L.length a=L.reverse++a::b::R:=by
   simp
  have g2:(L.reverse++b::b::R)[L.length]?=S' b:=by
   simp
  have key:∀r n,(match ltP (dC c) a b with
    |true=>iL.k n 15 (gh c l 0 (i:Int) (L.length:Int) (L.reverse++a::b::R))
    |false=>iL.k n 3 (eE c l 0 ((i+1:Nat):Int) (L.reverse++b::a::R)))=some r->
    gj c l 0 (i:Int) ((b::L).length:Int) ((b::L).reverse++a::R) (iL.k n)=S' r:=λr n h=>by
   rw[hrev,e1];unfold gj;rw[dT (show((L.length+1:Nat):Int)>0 by omega),ew,ak,g1,ak,g0,show((L.length+1:Nat):Int).toNat=L.length+1 by omega,show((L.length:Nat):Int).toNat=L.length by omega,g1,g0];dsimp only;rw[dT (show okC 4000 c/\okP 4000 a/\okP 4000 b from⟨hc,ha,hb⟩),s1,ak,g2,s2,aT (by omega)];dsimp only;unfold ltP at h;exact h
  unfold lH at hnext;cases hlt:ltP (dC c) a b
  ·rw[hlt,cond_false]at hnext;obtain⟨r,⟨n,hn⟩,hr⟩:=hnext;refine⟨r,jS _ _ _ _ _ _ ⟨n,key r n ?_⟩,hr⟩;rw[hlt];simpa using hn
  ·rw[hlt,cond_true]at hnext;obtain⟨r,⟨n,hn⟩,hr⟩:=AI hl i ys L a (b::R) (λx hx=>hL x (an4 _ hx)) ha (by simp at h19 ⊢;omega) hi (by simpa using hnext);refine⟨r,jS _ _ _ _ _ _ ⟨n,key r n ?_⟩,hr⟩;rw[hlt];exact hn
theorem AE(hl:l.length<=19)(ys:List BP):∀(R D:List BP),(∀x∈D,okP 4000 x)->(∀x∈R,okP 4000 x)->D.length+R.length=l.length->
  rD 22 (jB c l (R.foldl (lH (ltP (dC c))) D).reverse 20) ys->rD 3 (eE c l 0 (D.length:Int) (D.reverse++R)) ys
 |[],D,hD,hR,hlen,⟨r,⟨n,hn⟩,hr⟩=>by
  refine⟨r,kV _ _ _ _ _ ⟨n,?_⟩,hr⟩;unfold io;rw[a8 (by simp at hlen;omega),aoi];exact hn
 |a::R,D,hD,hR,hlen,hnext=>by
  have ha:=hR a (by simp);have hlen':D.length+(R.length+1)=l.length:=hlen
  have h1:=AE hl ys R (lH (ltP (dC c)) D a) (λx hx=>by
   rcases xK.1 hx with e|e
   ·rw[e];exact ha
   ·exact hD x e) (λx hx=>hR x (an4 _ hx)) (by rw[qa];omega) hnext
  rw[qa]at h1;obtain⟨r,⟨n,hn⟩,hr⟩:=AI c l hc hl D.length ys D a R hD ha (by simp;omega) (by omega) h1;refine⟨r,kV _ _ _ _ _ ⟨n,?_⟩,hr⟩;unfold io;rw[aO (by omega)];exact hn
omit hc in
theorem vd(r0:List BP)(b:Nat)(h19:r0.length<=19):∀(S K J:List BP) (p:BP),(∀x∈K++(J++p::S),okP 4000 x)->(K++(J++p::S)).length=r0.length->∀k2:Nat,1<=k2->b+k2=K.length+J.length+1->
  rD 32 (dW c r0 (b:Int) (K.length:Int) (k2:Int) (K++(J++p::S))) (K++qV fV p S)
 |[],K,J,p,hok,hlen,k2,h1,hb=>by
  refine⟨_,jZ _ _ _ _ _ _ ⟨0,?_⟩,.inr rfl⟩;have hlen':K.length+(J.length+1)=r0.length:=by simpa using hlen
  unfold gk;rw[dF (show ¬(k2:Int)<(((r0.length:Int).toNat-(b:Int).toNat:Nat):Int) by omega)];dsimp only;rw[dT (show(0:Int)<=(K.length:Int)/\(K.length:Int)<=((K++(J++[p])).length:Int)/\((K++(J++[p])).length:Int)<=((K++(J++[p])).length:Int) by rw[hlen];omega)]
  have hcl:((jr (Ty.zero tP) ((K.length:Int).toNat) ((((K++(J++[p])).length:Int)).toNat-(K.length:Int).toNat) (K++(J++[p])))).take K.length=K:=by
   unfold jr;rw[show((K.length:Int)).toNat=K.length by omega,aof,List.take_append_of_le_length (by simp),aqH,Nat.min_self,List.take_left' rfl]
  have hcn:K.length<=(jr (Ty.zero tP) ((K.length:Int).toNat) ((((K++(J++[p])).length:Int)).toNat-(K.length:Int).toNat) (K++(J++[p]))).length:=by
   have:=congrArg List.length hcl;rw[aoo]at this;omega
  rw[dT (show(0:Int)<=0/\0<=(K.length:Int)/\(K.length:Int)<=((jr (Ty.zero tP) ((K.length:Int).toNat) ((((K++(J++[p])).length:Int)).toNat-(K.length:Int).toNat) (K++(J++[p]))).length:Int) by omega)];rw[show((0:Int)).toNat=0 from rfl,apy,show((K.length:Int)).toNat-0=K.length by omega,hcl];simp[qV]
 |q::S,K,J,p,hok,hlen,k2,h1,hb=>by
  have hlen':K.length+(J.length+(S.length+1+1))=r0.length:=by simpa using hlen
  have hq:okP 4000 q:=hok q (by simp);have hp:okP 4000 p:=hok p (by simp)
  have g1:(K++(J++p::q::S))[(b:Int).toNat+(k2:Int).toNat]?=S' q:=by
   rw[show(b:Int).toNat+(k2:Int).toNat=(K++(J++[p])).length by simp;omega];simp
  have ew:i64.wrap ((k2:Int)-1)=((k2-1:Nat):Int):=by rw[aM (by omega) (by omega)];omega
  have g0:(K++(J++p::q::S))[(b:Int).toNat+((k2-1:Nat):Int).toNat]?=S' p:=by
   rw[show(b:Int).toNat+((k2-1:Nat):Int).toNat=(K++J).length by simp;omega];simp
  have key:∀r n,(match fV q p with
    |true=>iL.k n 32 (dW c r0 (b:Int) (K.length:Int) ((k2+1:Nat):Int) (K++(J++p::q::S)))
    |false=>iL.k n 32 (dW c r0 (b:Int) ((K.length+1:Nat):Int) ((k2+1:Nat):Int) ((K++(J++p::q::S)).set K.length q)))=some r->
    gk c r0 (b:Int) (K.length:Int) (k2:Int) (K++(J++p::q::S)) (iL.k n)=S' r:=λr n h=>by
   unfold gk;rw[dT (show(k2:Int)<(((r0.length:Int).toNat-(b:Int).toNat:Nat):Int) by omega)];dsimp only;rw[dT (show(0:Int)<=(k2:Int)/\(k2:Int)<(((r0.length:Int).toNat-(b:Int).toNat:Nat):Int) by omega),g1];dsimp only;rw[ew,dT (show(0:Int)<=((k2-1:Nat):Int)/\((k2-1:Nat):Int)<(((r0.length:Int).toNat-(b:Int).toNat:Nat):Int) by omega),g0];dsimp only;rw[dT (show okP 4000 q/\okP 4000 p from⟨hq,hp⟩),aT (k:=k2) (by omega)];unfold fV at h;cases he:aB (dec q) (dec p)==0<;>rw[he]at h
   ·try dsimp only[Bool.not_false]
    have g3:∃y,(K++(J++p::q::S))[K.length]?=S' y:=⟨_,anN (by simp;omega)⟩
    obtain⟨y,g3⟩:=g3;rw[ak,g3,show((K.length:Int)).toNat=K.length by omega,g3,aT (k:=K.length) (by omega)];exact h
   ·exact h
  have hcm:qV fV p (q::S)=bif fV q p then qV fV q S else q::qV fV q S:=rfl;rw[hcm];cases he:fV q p
  ·have hset:∃J',(K++(J++p::q::S)).set K.length q=(K++[q])++(J'++q::S)/\J'.length=J.length/\∀x∈J',x∈J++[p]:=by
    cases J with
    |nil=>
     refine⟨[],?_,rfl,λx hx=>by cases hx⟩;simp
    |cons h T=>
     refine⟨T++[p],?_,by simp,λx hx=>by simp at hx ⊢;exact .inr hx⟩;simp
   obtain⟨J',e,eJ,mJ⟩:=hset
   obtain⟨r,⟨n,hn⟩,hr⟩:=vd r0 b h19 S (K++[q]) J' q (λx hx=>by
    simp only[aod,an6,apt,aqK]at hx;rcases hx with(hx|hx)|(hx|hx|hx)
    ·exact hok x (by simp[hx])
    ·rw[hx];exact hq
    ·have:=mJ x hx;simp only[aod,an6,apt,aqK]at this;rcases this with h|h
     ·exact hok x (by simp[h])
     ·rw[h];exact hp
    ·rw[hx];exact hq
    ·exact hok x (by simp[hx])) (by simp;omega) (k2+1) (by omega) (by simp;omega)
   refine⟨r,jZ _ _ _ _ _ _ ⟨n,key r n ?_⟩,?_⟩
   ·rw[he,e];have:(K++[q]).length=K.length+1:=by simp
    rw[this]at hn;exact hn
   ·simpa using hr
  ·have e2:K++(J++p::q::S)=K++((J++[p])++q::S):=by simp
   obtain⟨r,⟨n,hn⟩,hr⟩:=vd r0 b h19 S K (J++[p]) q (e2▸hok) (e2▸hlen) (k2+1) (by omega) (by simp;omega);refine⟨r,jZ _ _ _ _ _ _ ⟨n,key r n ?_⟩,hr⟩;rw[he,e2];exact hn
omit hc in
theorem Az:∀(S A:List BP) (p:BP),(∀x∈A++p::S,okP 4000 x)->(A++p::S).length<=19->
  rD 14 (jz c (A++p::S) ((A.length+1:Nat):Int)) (A++p::qV fV p S)
 |[],A,p,hok,h19=>by
  refine⟨_,mI _ _ _ ⟨0,?_⟩,.inl rfl⟩;unfold ja;rw[a8 (by simp)];rfl
 |q::S,A,p,hok,h19=>by
  have hq:okP 4000 q:=hok q (by simp);have hp:okP 4000 p:=hok p (by simp);have h19':A.length+(S.length+1+1)<=19:=by simpa using h19
  have g1:(A++p::q::S)[A.length+1]?=S' q:=by
   simp
  have g0:(A++p::q::S)[A.length]?=S' p:=nP A p (q::S);have ew:i64.wrap (((A.length+1:Nat):Int)-1)=(A.length:Int):=by rw[aM (by omega) (by omega)];omega
  have key:∀r n,(match fV q p with
    |true=>iL.k n 32 (dW c (A++p::q::S) ((A.length+1:Nat):Int) ((A.length+1:Nat):Int) 1 (A++p::q::S))
    |false=>iL.k n 14 (jz c (A++p::q::S) ((A.length+1+1:Nat):Int)))=some r->
    ja c (A++p::q::S) ((A.length+1:Nat):Int) (iL.k n)=S' r:=λr n h=>by
   unfold ja;rw[aO (by simp only[aoq,an8];omega),ak,g1,show((A.length+1:Nat):Int).toNat=A.length+1 by omega,g1];dsimp only;rw[ew,ak,g0,show((A.length:Nat):Int).toNat=A.length by omega,g0];dsimp only;rw[dT (show okP 4000 q/\okP 4000 p from⟨hq,hp⟩),aT (k:=A.length+1) (by omega),dT (show(0:Int)<=((A.length+1:Nat):Int)/\((A.length+1:Nat):Int)<=((A++p::q::S).length:Int)/\((A++p::q::S).length:Int)<=((A++p::q::S).length:Int) by simp;omega)];exact h
  have hcm:qV fV p (q::S)=bif fV q p then qV fV q S else q::qV fV q S:=rfl;have e2:A++p::q::S=(A++[p])++q::S:=by simp
  rw[hcm];cases he:fV q p
  ·obtain⟨r,⟨n,hn⟩,hr⟩:=Az S (A++[p]) q (e2▸hok) (e2▸h19);refine⟨r,mI _ _ _ ⟨n,key r n ?_⟩,?_⟩
   ·rw[he,e2];have:(A++[p]).length=A.length+1:=by simp
    rw[this]at hn;exact hn
   ·rw[aof]at hr;exact hr
  ·obtain⟨r,⟨n,hn⟩,hr⟩:=vd c (A++p::q::S) (A.length+1) h19 S (A++[p]) [] q (e2▸hok) (by rw[e2];rfl) 1 (anT _) (by simp);refine⟨r,mI _ _ _ ⟨n,key r n ?_⟩,?_⟩
   ·rw[he,e2];have:(A++[p]).length=A.length+1:=by simp
    rw[this,e2]at hn;exact hn
   ·rw[aof]at hr;exact hr
theorem Vc(hl:l.length<=19)(ho:∀x∈l,okP 4000 x):rD 6 (rQ c l 0 20 l) (dv (dC c) l):=by
 have hlast:∀r:List BP,(∀x∈r,okP 4000 x)->r.length<=19->rD 22 (jB c l r 20) (Um fV r):=λr hr h19=>by
  cases r with
  |nil=>
   refine⟨_,mg _ _ _ _ ⟨0,?_⟩,.inl rfl⟩;unfold jn;rw[dF (show ¬(20:Int)<(l.length:Int) by omega)];rfl
  |cons p S=>
   cases S with
   |nil=>
    refine⟨_,mg _ _ _ _ ⟨0,?_⟩,.inl rfl⟩;unfold jn;rw[dF (show ¬(20:Int)<(l.length:Int) by omega)];rfl
   |cons q S=>
    obtain⟨r',⟨n,hn⟩,hr'⟩:=Az c (q::S) [] p hr h19;refine⟨r',mg _ _ _ _ ⟨n,?_⟩,hr'⟩;unfold jn;rw[dF (show ¬(20:Int)<(l.length:Int) by omega)];dsimp only;rw[dF (show ¬((p::q::S).length:Int)<2 by simp;omega)];simpa using hn
 have hsort:rD 22 (jB c l (qX (ltP (dC c)) l) 20) (dv (dC c) l):=hlast _ (λx hx=>ho x (F7.1 hx)) (by rw[Fg];exact hl)
 have h3:rD 3 (eE c l 0 1 l) (dv (dC c) l):=by
  cases l with
  |nil=>
   obtain⟨r,⟨n,hn⟩,hr⟩:=hsort;refine⟨r,kV _ _ _ _ _ ⟨n,?_⟩,hr⟩;unfold io;rw[dF (show ¬(1:Int)<(([]:List BP).length:Int) by simp)];exact hn
  |cons x l=>
   have:=AE c (x::l) hc hl _ l [x] (λy hy=>ho y (by simp at hy;simp[hy])) (λy hy=>ho y (an4 _ hy)) (by simp;omega) hsort;simpa using this
 obtain⟨r,⟨n,hn⟩,hr⟩:=h3;refine⟨r,Ej _ _ _ _ _ ⟨n,?_⟩,hr⟩;unfold tm;rw[dF (show ¬(20:Int)<=(l.length:Int) by omega),aM (x:=0+1) (by omega) (by omega)];exact hn
end
def Qf:Cn 158 [tCU,(.sl tP)]:=cn λ(c:BCU) (l:List BP)=>lf (kK c l) [.d (.sl tP) (dv (dC c) l)] λh=>by
 obtain⟨hc,hl,ho⟩:=h;obtain⟨r,⟨n,hn⟩,hr⟩:=Vc c l hc hl ho
 have hres:iL.Res 158 [.d tCU c,.d (.sl tP) l] r:=by
  refine akj _ _ ⟨n,?_⟩;unfold aaM;rw[dT (show l.length<=100000 by omega)];exact hn
 rcases hr with e|e
 ·rw[e]at hres;exact Con.new_d (et:=40) (bj Hz hres)
 ·rw[e]at hres;exact bj Hz hres
end
section
def pK(x u y v k:Rat):Pt:=mkP (mkR x u k) (mkR y v k)
def ftL(l c:Ln):Rat×Rat:=(ftX l c,ftY l c)
def Dv(l c:Ln):Rat:=(ftX l c-c.1)*(ftX l c-c.1)+(ftY l c-c.2.1)*(ftY l c-c.2.1)
def fP(l c:Ln):Rat:=(c.2.2-Dv l c)/cG l
def Mc(l:Ln):Bool:=D' (l.2.1<0)||(D' (l.2.1=0)&&D' (-l.1<0))
def vn(l:Ln):Rat:=bif Mc l then-l.2.1 else l.2.1
def vj(l:Ln):Rat:=bif Mc l then- -l.1 else-l.1
def lcM(l c:Ln):Pt:=pK (ftX l c) (-vn l) (ftY l c) (-vj l) (fP l c)
def lcN(l c:Ln):Pt:=pK (ftX l c) (vn l) (ftY l c) (vj l) (fP l c)
def mY(l c:Ln):List Pt:=bif D' (fP l c<0)then []else bif D' (fP l c=0)then [atP (ftL l c)]else [lcM l c,lcN l c]
def Oc(l m:Ln):Int:=bif !D' (eU l m=0)then 0 else bif pZ l m then 10 else 0
def Gt(c d:Ln):List Pt:=bif jQ c d then []else mY (pL c d) c
def Vy(c d:Ln):Int:=bif qY c d then 10 else 0
def kn(a b:Cv):List Pt:=bif a.1&&b.1 then Gt (ciC a) (ciC b)else bif a.1 then mY (lnC b) (ciC a)else bif b.1 then mY (lnC a) (ciC b)else re (lnC a) (lnC b)
def ajA(a b:Cv):Int:=bif a.1&&b.1 then Vy (ciC a) (ciC b)else bif a.1 then 0 else bif b.1 then 0 else Oc (lnC a) (lnC b)
def dY(c:Ln):Pt:=pK c.1 (-1) c.2.1 0 c.2.2
def eN(c:Ln):Pt:=pK c.1 1 c.2.1 0 c.2.2
theorem Wq(l c:Ln):QW l (c.1,c.2.1)=ftL l c:=rfl
theorem M9{x u y v k:Rat}[h:Nn k]:Rpd (pK x u y v k):=ZV Fr Fr (tM _ _ _ _ _)
section
variable {l c:Ln}
theorem af5 [BdL l]:Bd (vn l) 12/\Bd (vj l) 12:=by
 unfold vn vj;cases Mc l
 ·exact⟨(inferInstance:Bd l.2.1 12),(inferInstance:Bd (-l.1) 12)⟩
 ·exact⟨(inferInstance:Bd (-l.2.1) 12),(inferInstance:Bd (- -l.1) 12)⟩
end
theorem OR{x u y v k:Rat}{a b c:Nat}(h1:Bd x a)(h2:Bd u b)(h3:Bd y a)(h4:Bd v b)(h5:Bd k c){n:Nat}(hn:a+(b+c)+1<=n):Bd (pK x u y v k) n:=by
 have z:bdR n 0:=ce ue.le (by omega);have i1:Bd (mkR x u k) (a+(b+c)+1):=inferInstance;have i2:Bd (mkR y v k) (a+(b+c)+1):=inferInstance;have f1:=i1.mono hn;have f2:=i2.mono hn;refine⟨?_⟩;unfold pK mkP rdP;dsimp only;refine⟨f1.le.1,f1.le.2.1,f2.le.1,f2.le.2.1,?_⟩;cases D' ((mkR x u k).2.1=0)&&D' ((mkR y v k).2.1=0)
 ·cases D' ((mkR x u k).2.1=0)
  ·exact f1.le.2.2
  ·exact f2.le.2.2
 ·exact z
section
variable {l c:Ln}
theorem NN [BdL l][h:BdC c]:Bd (fP l c) 1000:=by
 obtain⟨f1,f2,_,_⟩:=u9 (l:=l) (c:=c);have hx:=h.x;have hy:=h.y;have hq:=h.q;have i1:Bd (cG l) 49:=inferInstanceAs (Bd (l.1*l.1+l.2.1*l.2.1) _);have i2:Bd (Dv l c) 673:=(inferInstance:Bd ((ftX l c-c.1)*(ftX l c-c.1)+(ftY l c-c.2.1)*(ftY l c-c.2.1)) _).mono (by decide);exact(inferInstance:Bd ((c.2.2-Dv l c)/cG l) _).mono (by decide)
theorem Is [BdL l][h:BdC c]:Bd (ftL l c) 163:=by
 obtain⟨f1,f2,_,_⟩:=u9 (l:=l) (c:=c);exact(inferInstance:Bd ((ftX l c,ftY l c):Rat×Rat) _).mono (by decide)
theorem adf [BdL l][BdC c]:Bd (lcM l c) 1200/\Bd (lcN l c) 1200:=by
 obtain⟨f1,f2,_,_⟩:=u9 (l:=l) (c:=c);obtain⟨d1,d2⟩:=af5 (l:=l);have k:=NN (l:=l) (c:=c);have n1:Bd (-vn l) 12:=inferInstance;have n2:Bd (-vj l) 12:=inferInstance;exact⟨OR f1 n1 f2 n2 k (by decide),OR f1 d1 f2 d2 k (by decide)⟩
theorem xg [BdL l][BdC c]:(mY l c).length<=2/\∀p∈mY l c,Bd p 1200/\Rpd p:=by
 unfold mY;by_cases h0:fP l c<0
 ·rw[anO h0];exact⟨by simp,λp hp=>by cases hp⟩
 ·rw[anQ h0];by_cases h1:fP l c=0
  ·rw[anO h1];have:=Is (l:=l) (c:=c);refine⟨by simp,λp hp=>?_⟩;have:p=atP (ftL l c):=by simpa using hp
   rw[this];exact⟨(inferInstance:Bd (atP (ftL l c)) _).mono (by decide),inferInstance⟩
  ·rw[anQ h1];obtain⟨q1,q2⟩:=adf (l:=l) (c:=c);have nn:Nn (fP l c):=⟨by grind⟩
   refine⟨by simp,λp hp=>?_⟩;have:p=lcM l c\/p=lcN l c:=by simpa using hp
   rcases this with e|e<;>rw[e]
   ·exact⟨q1,M9⟩
   ·exact⟨q2,M9⟩
end
end
namespace RE
theorem aed{x:RE}:sg x<0↔x<0:=by
 rcases cd x with⟨h,e⟩|⟨h,e⟩|⟨h,e⟩<;>rw[e]
 ·exact⟨λh'=>absurd h' (by decide),λh'=>absurd (eh h h') (lt_irrefl _)⟩
 ·rw[h];exact⟨λh'=>absurd h' (by decide),λh'=>absurd h' (lt_irrefl _)⟩
 ·exact⟨λ_=>h,λ_=>by decide⟩
end RE
namespace RE
theorem Q4{q:Pt}:pX (rdP q)=pX q/\pY (rdP q)=pY q:=by
 unfold rdP pX pY;by_cases h1:q.2.1=0
 ·by_cases h2:q.2.2.2.1=0
  ·rw[anO h1,anO h2];dsimp only;rw[h1,h2,eu,eu,eu,eu];exact⟨rfl,rfl⟩
  ·rw[anQ h2,ap4];exact⟨rfl,rfl⟩
 ·rw[anQ h1,aqZ];exact⟨rfl,rfl⟩
theorem ahi{x y:Rt}(h:yE x y):pR (mkP x y)=(vR x,vR y):=by
 unfold mkP;refine arb (Q4.1.trans ?_) (Q4.2.trans ?_)
 ·unfold pX vR;dsimp only;by_cases e:x.2.1=0
  ·rw[e,eu,eu]
  ·rw[anQ e];rfl
 ·unfold pY vR;dsimp only;by_cases e:x.2.1=0
  ·rw[anO e];rfl
  ·rw[anQ e];rcases h with h|h|h
   ·exact absurd h e
   ·rw[h,eu,eu]
   ·rw[cond_false,h]
theorem abn{m:Rat}(h:0<m):0<rq m:=by
 have:=NX (m:=m) (by grind);rw[dM h]at this;exact adi.1 this
end RE
section
namespace RE
theorem amW(A B x y u v s:RE):A*(x+u*s)+B*(y+v*s)=(A*x+B*y)+(A*u+B*v)*s:=by grind
theorem amB(x y u v s p q:RE):(x+u*s-p)*(x+u*s-p)+(y+v*s-q)*(y+v*s-q)=((x-p)*(x-p)+(y-q)*(y-q))+((x-p)*u+(y-q)*v)*s+((x-p)*u+(y-q)*v)*s+(u*u+v*v)*(s*s):=by grind
theorem ann(b n r:RE):b*(r*n)=b*n*r:=by grind
theorem anf(r n:RE):r*n*(r*n)=r*r*(n*n):=by grind
theorem amx(x y p q a b m n:RE):(x-a)*(x-a)+(y-b)*(y-b)=((x-p)*(x-p)+(y-q)*(y-q))+(a*a+b*b-m)-(p*p+q*q-n)-((1+1)*(a-p)*x+(1+1)*(b-q)*y)+(m-n):=by grind
theorem ano(a b n m:RE):n+a-b-(a-b)+(m-n)=m:=by grind
theorem Ek(x u y v k:Rat):pR (pK x u y v k)=(v2 x u k,v2 y v k):=by
 unfold pK;rw[ahi (tM _ _ _ _ _),vR_mk,vR_mk]
section
variable {l c:Ln}
theorem Jk(hl:l.1≠0\/l.2.1≠0):0<cG l:=by
 have h:=o0 hl;have h1:0<=cG l:=afU (l.1,l.2.1);grind
theorem HY(hl:l.1≠0\/l.2.1≠0):fP l c*(cG l*cG l)=jC l c:=by
 have hn:=o0 hl;have t:vlL l c.1 c.2.1/cG l*cG l=vlL l c.1 c.2.1:=app hn;have k:(c.2.2-Dv l c)/cG l*cG l=c.2.2-Dv l c:=app hn;unfold fP;rw[<-Rat.mul_assoc,k];unfold Dv ftX ftY jC;generalize vlL l c.1 c.2.1/cG l=s at*
 rw[<-t];unfold cG;grind
theorem ab8(hl:l.1≠0\/l.2.1≠0):(fP l c<0↔jC l c<0)/\(fP l c=0↔jC l c=0):=by
 have hn:=Jk hl;have h2:0<cG l*cG l:=aoH hn hn;have e:=HY (c:=c) hl;rcases(by grind:fP l c<0\/fP l c=0\/0<fP l c)with h|h|h
 ·have:=aoH (show 0< -fP l c by grind) h2;have e2: -fP l c*(cG l*cG l)= -jC l c:=by rw[Rat.neg_mul,e]
  rw[e2]at this;constructor<;>constructor<;>intro<;>grind
 ·rw[h,aqP]at e;constructor<;>constructor<;>intro<;>grind
 ·have:=aoH h h2;rw[e]at this;constructor<;>constructor<;>intro<;>grind
theorem acA(hl:l.1≠0\/l.2.1≠0)(h0:0<=fP l c):rq (jC l c)=rq (fP l c)*of (cG l):=by
 have hn:=Jk hl
 have hr:0<=jC l c:=by
  rw[<-HY hl];exact aoE h0 (aoE (by grind) (by grind))
 refine abI _ _ (PX _) (cr (PX _) (oP.2 (by grind))) ?_;rw[anf,rn hr,rn h0,<-bR,<-bR,HY hl]
theorem Cg(hl:l.1≠0\/l.2.1≠0)(h0:0<=fP l c)(a b:Rat):v2 a b (fP l c)=v2 a (b/cG l) (jC l c):=by
 unfold v2;rw[acA hl h0,ann,<-bR,app (o0 hl)]
theorem ndv(a b:Rat): -a/b= -(a/b):=by rw[Rat.div_def,Rat.div_def,Rat.neg_mul]
theorem amI(hl:l.1≠0\/l.2.1≠0)(v:PE):(∃p∈mY l c,pR p=v)↔∃p∈rK l c,pR p=v:=by
 obtain⟨s1,s2⟩:=ab8 (c:=c) hl;unfold mY rK;by_cases h0:fP l c<0
 ·rw[anO h0,anO (s1.1 h0)];exact Iff.rfl
 ·rw[anQ h0,anQ (λh=>h0 (s1.2 h))];by_cases h1:fP l c=0
  ·rw[anO h1,anO (s2.1 h1)];exact Iff.rfl
  ·rw[anQ h1,anQ (λh=>h1 (s2.2 h))];have hp:0<=fP l c:=by grind
   have e:(pR (lcM l c)=pR (sY l c)/\pR (lcN l c)=pR (uj l c))\/(pR (lcM l c)=pR (uj l c)/\pR (lcN l c)=pR (sY l c)):=by
    unfold lcM lcN sY uj;rw[Ek,Ek,mq,mq,Cg hl hp,Cg hl hp,Cg hl hp,Cg hl hp];unfold vn vj;cases Mc l
    ·left;simp only[cond_false,ndv,Rat.neg_neg,and_self]
    ·right;simp only[cond_true,ndv,Rat.neg_neg,and_self]
   have m2:∀{a b:Pt},(∃p∈[a,b],pR p=v)↔(pR a=v\/pR b=v):=λ{a b}=>by simp
   simp only[cond_false];cases D' (aB (sY l c) (uj l c)>0)
   ·simp only[cond_false];rw[m2,m2];rcases e with⟨e1,e2⟩|⟨e1,e2⟩<;>rw[e1,e2];exact Or.comm
   ·simp only[cond_true];rw[m2,m2];rcases e with⟨e1,e2⟩|⟨e1,e2⟩<;>rw[e1,e2];exact Or.comm
theorem IG(hl:l.1≠0\/l.2.1≠0){u v k:Rat}(hk:0<=k)(h1:l.1*u+l.2.1*v=0)(h2:Dv l c+(u*u+v*v)*k=c.2.2):nF l (v2 (ftX l c) u k,v2 (ftY l c) v k)/\Am c (v2 (ftX l c) u k,v2 (ftY l c) v k):=by
 have hn:=o0 hl;have t:vlL l c.1 c.2.1/cG l*cG l=vlL l c.1 c.2.1:=app hn
 have e1:l.1*ftX l c+l.2.1*ftY l c=l.2.2:=by
  unfold ftX ftY;generalize vlL l c.1 c.2.1/cG l=s at*
  unfold cG vlL at t;grind
 have e3:(ftX l c-c.1)*u+(ftY l c-c.2.1)*v=0:=by
  unfold ftX ftY;generalize vlL l c.1 c.2.1/cG l=s at*
  have:(c.1-s*l.1-c.1)*u+(c.2.1-s*l.2.1-c.2.1)*v= -s*(l.1*u+l.2.1*v):=by grind
  rw[this,h1,Rat.mul_zero]
 unfold nF Am frm v2;dsimp only;constructor
 ·rw[amW,<-bR,<-bR,<-bR,<-bR,<-of_add,<-of_add,e1,h1,qk,zero_mul,add_zero]
 ·rw[amB,rn hk,<-of_sub,<-of_sub,<-bR,<-bR,<-bR,<-bR,<-bR,<-bR,<-of_add,<-of_add,<-of_add,e3,qk,zero_mul,add_zero,add_zero,<-bR,<-of_add];exact congrArg of h2
theorem afo(_hl:l.1≠0\/l.2.1≠0):l.1*vn l+l.2.1*vj l=0/\vn l*vn l+vj l*vj l=cG l:=by
 unfold vn vj cG;cases Mc l
 ·simp only[cond_false];constructor<;>grind
 ·simp only[cond_true];constructor<;>grind
theorem Rs(hl:l.1≠0\/l.2.1≠0){p:Pt}(hp:p∈mY l c):nF l (pR p)/\Am c (pR p):=by
 have hn:=o0 hl;have k:fP l c*cG l=c.2.2-Dv l c:=app hn;obtain⟨d1,d2⟩:=afo hl;unfold mY at hp;by_cases h0:fP l c<0
 ·rw[anO h0]at hp;cases hp
 ·rw[anQ h0]at hp;by_cases h1:fP l c=0
  ·rw[anO h1]at hp;have:p=atP (ftL l c):=by simpa using hp
   rw[this,Bx];have:=IG (c:=c) (u:=0) (v:=0) (k:=0) hl (by decide) (by grind) (by rw[h1]at k;grind);rw[eu,eu]at this;exact this
  ·rw[anQ h1]at hp;have hk:0<=fP l c:=by grind
   have:p=lcM l c\/p=lcN l c:=by simpa using hp
   rcases this with e|e
   ·rw[e];unfold lcM;rw[Ek];refine IG hl hk (by grind) ?_;rw[show-vn l* -vn l+ -vj l* -vj l=cG l by rw[<-d2];grind,aqA,k];grind
   ·rw[e];unfold lcN;rw[Ek];refine IG hl hk d1 ?_;rw[d2,aqA,k];grind
end
theorem aeb{c d:Ln}{v:PE}(hl:nF (pL c d) v)(hc:Am c v):Am d v:=by
 unfold nF pL rH at hl;unfold Am frm at*
 dsimp only at*
 have o2:of 2=1+1:=by
  rw[<-RW,<-of_add];exact congrArg of (by decide+kernel)
 rw[amx v.1 v.2 (of c.1) (of c.2.1) (of d.1) (of d.2.1) (of d.2.2) (of c.2.2),hc];simp only[of_sub,bR,of_add,o2]at hl;rw[hl,ano]
theorem adj{l m:Ln}{p:Pt}(hp:p∈re l m):nF l (pR p)/\nF m (pR p):=by
 unfold re at hp;by_cases h0:eU l m=0
 ·rw[anO h0]at hp;cases hp
 ·rw[anQ h0]at hp;have:p=atP (pC l m/eU l m,pS l m/eU l m):=by simpa using hp
  rw[this,Bx];have ex:pC l m/eU l m*eU l m=pC l m:=app h0;have ey:pS l m/eU l m*eU l m=pS l m:=app h0
  have key:∀a b q:Rat,a*pC l m+b*pS l m=q*eU l m->a*(pC l m/eU l m)+b*(pS l m/eU l m)=q:=λa b q e=>by
   generalize pC l m/eU l m=x at*
   generalize pS l m/eU l m=y at*
   rw[<-ex,<-ey]at e;have:(a*x+b*y-q)*eU l m=0:=by grind
   rcases aqV.1 this with h|h
   ·grind
   ·exact absurd h h0
  unfold nF;rw[<-bR,<-bR,<-of_add,<-bR,<-bR,<-of_add,key l.1 l.2.1 l.2.2 (by unfold pC pS eU;grind),key m.1 m.2.1 m.2.2 (by unfold pC pS eU;grind)];exact⟨rfl,rfl⟩
end RE
end
namespace RE
theorem d9{c:Cv}{p:Pt}[Rpd p]:df c p=T'↔bif c.1 then Am (ciC c) (pR p)else nF (lnC c) (pR p):=by
 unfold df;cases c.1
 ·exact B7
 ·exact Ce
theorem kv{q:Rat}(hq:q≠0){x y:RE}(h:of q*x=of q*y):x=y:=by
 have e:∀z:RE,of q⁻¹*(of q*z)=z:=λz=>by
  rw[<-mul_assoc,<-bR,Rat.inv_mul_cancel _ hq,RW,one_mul]
 rw[<-e x,h,e y]
theorem amN(a p q x y:RE):a*(p*x+q*y)=p*(a*x)+a*q*y:=by grind
theorem ane(p a b x y:RE):p*(a*x+b*y)=p*(a*x)+b*p*y:=by grind
theorem amM(b p q x y:RE):b*(p*x+q*y)=b*p*x+q*(b*y):=by grind
theorem ank(q a b x y:RE):q*(a*x+b*y)=a*q*x+q*(b*y):=by grind
theorem acW{l m:Ln}(hl:l.1≠0\/l.2.1≠0)(h:pZ l m=T'){v:PE}(hv:nF l v):nF m v:=by
 unfold pZ at h;obtain⟨h1,h23⟩:=an3.1 h;obtain⟨h2,h3⟩:=an3.1 h23;have h1:=anP h1;have h2:=anP h2;have h3:=anP h3;unfold nF at*
 rcases hl with ha|hb
 ·refine kv ha ?_;rw[amN,<-bR l.1 m.2.1,h1,bR,<-ane,hv,<-bR,<-bR,h2,aqA]
 ·refine kv hb ?_;rw[amM,<-bR l.2.1 m.1,<-h1,bR,<-ank,hv,<-bR,<-bR,h3,aqA]
theorem Vr{l m:Ln}(h:pZ l m=T'):pZ m l=true:=by
 unfold pZ at*
 obtain⟨h1,h23⟩:=an3.1 h;obtain⟨h2,h3⟩:=an3.1 h23;have h1:=anP h1;have h2:=anP h2;have h3:=anP h3;rw[dT (show m.1*l.2.1=m.2.1*l.1 by grind),dT (show m.1*l.2.2=m.2.2*l.1 by grind),dT (show m.2.1*l.2.2=m.2.2*l.2.1 by grind)];rfl
theorem ags{c d:Ln}(h:qY c d=T'):c=d:=by
 unfold qY at h;obtain⟨h1,h23⟩:=an3.1 h;obtain⟨h2,h3⟩:=an3.1 h23;exact arb (anP h1) (arb (anP h2) (anP h3))
theorem yu{c d:Cv}(h:cO c d=T'):c.1=d.1:=by
 unfold cO at h;cases e:c.1==d.1
 ·rw[e]at h;cases h
 ·exact aos.1 e
theorem IX{c d:Cv}(h:cO c d=T')(ha:c.1=T'):ciC c=ciC d:=by
 have e:=yu h;unfold cO at h;rw[<-e,ha]at h;exact ags h
theorem TW{c d:Cv}(h:cO c d=T')(ha:c.1=F'):pZ (lnC c) (lnC d)=true:=by
 have e:=yu h;unfold cO at h;rw[<-e,ha]at h;exact h
theorem Xj{c d:Cv}(h:cO c d=T'):cO d c=true:=by
 have e:=yu h;unfold cO;rw[<-e,beq_self_eq_true,cond_true];cases ha:c.1
 ·exact Vr (TW h ha)
 ·rw[cond_true,IX h ha];unfold qY;rw[dT rfl,dT rfl,dT rfl];rfl
theorem W7{c d:Cv}(hc:Crp c)(h:cO c d=T'){p:Pt}[Rpd p](hp:df c p=T'):df d p=true:=by
 have e:=yu h;rw[d9]at*
 rw[<-e];cases ha:c.1
 ·rw[ha,cond_false]at hp;exact acW (hc.l ha) (TW h ha) hp
 ·rw[ha,cond_true]at hp;rw[cond_true,<-IX h ha];exact hp
end RE
theorem tW{c:Cv}(h:Crp c){p q r:Pt}(hp:Sp c p)(hq:Sp c q)(hr:Sp c r)(e:aB p q=0):co c p r=co c q r/\co c r p=co c r q:=by
 obtain⟨K,lt,κ,f,hl,hc,ho,hk⟩:=Ex h;have ek:=(hk p q hp hq).2 e;rw[ho p r hp hr,ho q r hq hr,ho r p hr hp,ho r q hr hq,ek];exact⟨rfl,rfl⟩
theorem Pe{p q:Pt}[Rpd p][Rpd q](e:aB p q=0):aB q p=0:=RE.cmpP_0.2 (RE.cmpP_0.1 e).symm
theorem EP{c:Cv}{x:BP}(hx:Rpd (dec x)):∀{r:List BP},∃y∈gf c r x,aB (dec y) (dec x)=0
 |[]=>⟨x,by simp[gf],RE.cmpP_0.2 rfl⟩
 |z::r=>by
  simp only[gf];cases D' (co c (dec z) (dec x)<0)
  ·cases hz:aB (dec z) (dec x)==0
   ·exact⟨x,by simp,RE.cmpP_0.2 rfl⟩
   ·exact⟨z,by simp,aos.1 hz⟩
  ·obtain⟨y,hy,e⟩:=EP (c:=c) hx (r:=r);exact⟨y,an4 _ hy,e⟩
theorem Fh{c:Cv}{x:BP}(hx:Rpd (dec x)):∀{l r:List BP},x∈l->∃y∈l.foldl (gf c) r,aB (dec y) (dec x)=0
 |[],_,h=>by cases h
 |z::l,r,h=>by
  rw[ap6];rcases an6.1 h with e|e
  ·obtain⟨y,hy,e2⟩:=EP (c:=c) hx (r:=r);exact⟨y,E8 (by rw[<-e];exact hy),e2⟩
  ·exact Fh hx e
theorem Rn{c:Cv}{x:BP}{l:List BP}(hx:Rpd (dec x))(h:x∈l):∃y∈iD c l,aB (dec y) (dec x)=0:=Fh hx h
section
def Dg(c d:BCU):List BP:=bif cO (dC c) (dC d)then [c.2.2.2.2.1,c.2.2.2.2.2,d.2.2.2.2.1,d.2.2.2.2.2]else(kn (dC c) (dC d)).map enc
def iJ(c d:BCU)(p:BP):Bool:=kQ (dC c) (dec p)&&kQ (dC d) (dec p)
def ml(c d:BCU):List BP:=dv (dC c) ((Dg c d).filter (iJ c d))
theorem CW{c:BCU}(h:GC c):(c.1=T'->BdC (ciC (dC c))/\0<(ciC (dC c)).2.2)/\(c.1=F'->BdL (lnC (dC c))/\((lnC (dC c)).1≠0\/(lnC (dC c)).2.1≠0)):=by
 refine⟨λe=>?_,λe=>?_⟩
 ·obtain⟨l,e1,bl,nl⟩:=b9 (h.1 e);show BdC (dec c.2.2.1)/\_;rw[show ciC (dC c)=dec c.2.2.1 from rfl,e1,aq];exact⟨bl,nl⟩
 ·obtain⟨l,e1,bl,nl⟩:=dU (h.2 e);show BdL (dec c.2.1)/\_;rw[show lnC (dC c)=dec c.2.1 from rfl,e1,aq];exact⟨bl,nl⟩
namespace RE
theorem supM_on{c d:BCU}(hc:GC c)(hd:GC d){p:Pt}(hp:p∈kn (dC c) (dC d)):Bd p 1200/\Rpd p/\df (dC c) p=T'/\df (dC d) p=true:=by
 obtain⟨c1,c2⟩:=CW hc;obtain⟨d1,d2⟩:=CW hd;have ec:(dC c).1=c.1:=rfl;have ed:(dC d).1=d.1:=rfl;unfold kn at hp;rw[ec,ed]at hp;cases ha:c.1<;>cases hb:d.1<;>rw[ha,hb]at hp
 ·have i1:=(c2 ha).1;have i2:=(d2 hb).1;have hp:p∈re (lnC (dC c)) (lnC (dC d)):=hp;obtain⟨b,r⟩:=Cf.2 p hp;obtain⟨o1,o2⟩:=adj hp;refine⟨b.mono (by decide),r,?_,?_⟩
  ·rw[d9,ec,ha];exact o1
  ·rw[d9,ed,hb];exact o2
 ·have i1:=(c2 ha).1;have i2:=(d1 hb).1;have hp:p∈mY (lnC (dC c)) (ciC (dC d)):=hp;obtain⟨b,r⟩:=xg.2 p hp;obtain⟨o1,o2⟩:=Rs (c2 ha).2 hp;refine⟨b,r,?_,?_⟩
  ·rw[d9,ec,ha];exact o1
  ·rw[d9,ed,hb];exact o2
 ·have i1:=(c1 ha).1;have i2:=(d2 hb).1;have hp:p∈mY (lnC (dC d)) (ciC (dC c)):=hp;obtain⟨b,r⟩:=xg.2 p hp;obtain⟨o1,o2⟩:=Rs (d2 hb).2 hp;refine⟨b,r,?_,?_⟩
  ·rw[d9,ec,ha];exact o2
  ·rw[d9,ed,hb];exact o1
 ·have i1:=(c1 ha).1;have i2:=(d1 hb).1;have hp:p∈Gt (ciC (dC c)) (ciC (dC d)):=hp;unfold Gt at hp;cases hq:jQ (ciC (dC c)) (ciC (dC d))<;>rw[hq]at hp
  ·have i3:BdL (pL (ciC (dC c)) (ciC (dC d))):=Eb;obtain⟨b,r⟩:=xg.2 p hp;obtain⟨o1,o2⟩:=Rs (Io hq) hp;refine⟨b,r,?_,?_⟩
   ·rw[d9,ec,ha];exact o2
   ·rw[d9,ed,hb];exact aeb o1 o2
  ·cases hp
end RE
open RE
theorem gdN.ne{c:BCU}(h:gdN c):aB (frC (dC c)) (toC (dC c))≠0:=h.2.2.2
theorem gdN.fr{c:BCU}(h:gdN c):okP 580 c.2.2.2.2.1:=h.1.1.2.2.1
theorem gdN.to{c:BCU}(h:gdN c):okP 580 c.2.2.2.2.2:=h.1.1.2.2.2
end
end Go.Proofs.YtoimchcjhdcdmaaGreat
end
