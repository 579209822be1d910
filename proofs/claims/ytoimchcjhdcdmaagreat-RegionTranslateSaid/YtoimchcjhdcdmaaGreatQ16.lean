/- Common points of curves: the reference's contract of Meet. -/
import Derived.Test.YtoimchcjhdcdmaaGreatQ15
import Derived.Test.YtoimchcjhdcdmaaGreatQ14
noncomputable section
namespace Go.Proofs.YtoimchcjhdcdmaaGreat
open Go.RowKit Go.IntKind
open Bool renaming true->T',false->F'
open Option renaming some->S',none->N'
open Decidable renaming decide->D'
theorem aqJ:type_of% @decide_eq_true_iff:=@decide_eq_true_iff
theorem aqN:type_of% @List.filter_cons:=@List.filter_cons
theorem arD:type_of% @List.filter_nil:=@List.filter_nil
def m8(c d:BCU)(p:BP):Bool:=onR (dC c) (dec p)&&onR (dC d) (dec p)
theorem Ib(c d:BCU)(h:jy c d)(L:List BP)(hL:(wB (dC c) (dC d)).map enc=L)(h4:L.length<=4)(ho:∀x∈L,okP 580 x):∀(j i:Nat),i+j=L.length->∀r3:List BP,r3.length<=i->(∀x∈r3,okP 580 x)->
  th.Runs 18 (qy c d (i:Int) r3) [.d (.sl tP) (gU (dC c) (r3++(L.drop i).filter (m8 c d))),.d .bool (cG (dC c) (dC d)&&DZ (dC (Ar c d)) (gU (dC c) (r3++(L.drop i).filter (m8 c d))))]:=by
 intro j;induction j with
 |zero=>
  intro i hi r3 hr h3;obtain⟨n,hn⟩:=Km c d h r3 (by omega) h3;refine uT _ _ _ _ ⟨n,?_⟩;have hd:L.drop i=[]:=List.drop_eq_nil_iff.2 (by omega);rw[hd,arD,apj,<-hn];unfold qt;rw[hL,bg (by omega)];have hs:yg c r3:=⟨aY h.1.1 (by decide) (by decide),by omega,λx hx=>aU (h3 x hx) (by decide) (by decide)⟩
  have o1:D' (okP 4000 c.2.2.2.2.1/\okP 4000 c.2.2.2.2.2)=true:=aoP ⟨aU h.1.1.2.2.1 (by decide) (by decide),aU h.1.1.2.2.2 (by decide) (by decide)⟩;have o2:D' (okP 4000 d.2.2.2.2.1/\okP 4000 d.2.2.2.2.2)=true:=aoP ⟨aU h.2.1.2.2.1 (by decide) (by decide),aU h.2.1.2.2.2 (by decide) (by decide)⟩;rw[dT hs,o1,o2];dsimp only;unfold Ar Wc bne;simp only[aQ];cases c.1<;>cases d.1<;>cases(c.2.2.2.1==d.2.2.2.1)<;>cases(aB (dec c.2.2.2.2.1) (dec c.2.2.2.2.2)==aB (dec d.2.2.2.2.1) (dec d.2.2.2.2.2))<;>rfl
 |succ j ih=>
  intro i hi r3 hr h3;have hil:i<L.length:=by omega
  have e2:i64.wrap ((i:Int)+1)=((i+1:Nat):Int):=aS (by omega);have g2:aH L (i:Int)=S' L[i]:=by rw[ak,aoO hil]
  have g3:L[((i:Int)).toNat]?=S' L[i]:=by rw[show((i:Int)).toNat=i by omega,aoO hil]
  have hx:=ho _ (aoY hil);have hd:L.drop i=L[i]::L.drop (i+1):=ao5 hil;have ox:=aU (k:=3500) hx (by decide) (by decide);have o1:D' (okC 3500 c/\okP 3500 L[i])=true:=aoP ⟨aY h.1.1 (by decide) (by decide),ox⟩;have o2:D' (okC 3500 d/\okP 3500 L[i])=true:=aoP ⟨aY h.2.1 (by decide) (by decide),ox⟩
  have hf:(L.drop i).filter (m8 c d)=bif m8 c d L[i]then L[i]::(L.drop (i+1)).filter (m8 c d)else(L.drop (i+1)).filter (m8 c d):=by
   rw[hd,aqN];cases m8 c d L[i]<;>rfl
  cases hb:m8 c d L[i]
  ·rw[hb]at hf;obtain⟨n,hn⟩:=ih (i+1) (by omega) r3 (by omega) h3;refine uT _ _ _ _ ⟨n,?_⟩;rw[hf];dsimp only[cond_false];rw[<-hn];unfold m8 at hb;unfold qt;rw[hL,aO hil,g2,e2];dsimp only;try rw[g3]
   try dsimp only
   rw[o1,o2];cases h1:onR (dC c) (dec L[i])
   ·rfl
   ·rw[h1,aqf]at hb;rw[hb]
  ·rw[hb]at hf
   obtain⟨n,hn⟩:=ih (i+1) (by omega) (r3++[L[i]]) (by simp;omega) (λx hx'=>by
    rcases ape.1 hx' with h'|h'
    ·exact h3 x h'
    ·have:x=L[i]:=by simpa using h'
     rw[this];exact hx)
   refine uT _ _ _ _ ⟨n,?_⟩;rw[hf];dsimp only[cond_true];rw[apg]at hn;refine Eq.trans ?_ hn;unfold m8 at hb;obtain⟨h1,h2⟩:=ao9.1 hb;unfold qt;rw[hL,aO hil,g2,e2];dsimp only;try rw[g3]
   try dsimp only
   rw[o1,o2,h1,h2];dsimp only;rw[dT (by simp;omega)]
theorem C5(c d:BCU)(h:jy c d)(L:List BP)(hL:[c.2.2.2.2.1,c.2.2.2.2.2,d.2.2.2.2.1,d.2.2.2.2.2]=L)(h4:L.length<=4)(ho:∀x∈L,okP 580 x):∀(j i:Nat),i+j=L.length->∀r3:List BP,r3.length<=i->(∀x∈r3,okP 580 x)->
  th.Runs 18 (ki c d (i:Int) r3) [.d (.sl tP) (gU (dC c) (r3++(L.drop i).filter (m8 c d))),.d .bool (cG (dC c) (dC d)&&DZ (dC (Ar c d)) (gU (dC c) (r3++(L.drop i).filter (m8 c d))))]:=by
 intro j;induction j with
 |zero=>
  intro i hi r3 hr h3;obtain⟨n,hn⟩:=Km c d h r3 (by omega) h3;refine pB _ _ _ _ ⟨n,?_⟩;have hd:L.drop i=[]:=List.drop_eq_nil_iff.2 (by omega);rw[hd,arD,apj,<-hn];unfold lF;rw[hL,bg (by omega)];have hs:yg c r3:=⟨aY h.1.1 (by decide) (by decide),by omega,λx hx=>aU (h3 x hx) (by decide) (by decide)⟩
  have o1:D' (okP 4000 c.2.2.2.2.1/\okP 4000 c.2.2.2.2.2)=true:=aoP ⟨aU h.1.1.2.2.1 (by decide) (by decide),aU h.1.1.2.2.2 (by decide) (by decide)⟩;have o2:D' (okP 4000 d.2.2.2.2.1/\okP 4000 d.2.2.2.2.2)=true:=aoP ⟨aU h.2.1.2.2.1 (by decide) (by decide),aU h.2.1.2.2.2 (by decide) (by decide)⟩;rw[dT hs,o1,o2];dsimp only;unfold Ar Wc bne;simp only[aQ];cases c.1<;>cases d.1<;>cases(c.2.2.2.1==d.2.2.2.1)<;>cases(aB (dec c.2.2.2.2.1) (dec c.2.2.2.2.2)==aB (dec d.2.2.2.2.1) (dec d.2.2.2.2.2))<;>rfl
 |succ j ih=>
  intro i hi r3 hr h3;have hil:i<L.length:=by omega
  have e2:i64.wrap ((i:Int)+1)=((i+1:Nat):Int):=aS (by omega);have g2:aH L (i:Int)=S' L[i]:=by rw[ak,aoO hil]
  have g3:L[((i:Int)).toNat]?=S' L[i]:=by rw[show((i:Int)).toNat=i by omega,aoO hil]
  have hx:=ho _ (aoY hil);have hd:L.drop i=L[i]::L.drop (i+1):=ao5 hil;have ox:=aU (k:=3500) hx (by decide) (by decide);have o1:D' (okC 3500 c/\okP 3500 L[i])=true:=aoP ⟨aY h.1.1 (by decide) (by decide),ox⟩;have o2:D' (okC 3500 d/\okP 3500 L[i])=true:=aoP ⟨aY h.2.1 (by decide) (by decide),ox⟩
  have hf:(L.drop i).filter (m8 c d)=bif m8 c d L[i]then L[i]::(L.drop (i+1)).filter (m8 c d)else(L.drop (i+1)).filter (m8 c d):=by
   rw[hd,aqN];cases m8 c d L[i]<;>rfl
  cases hb:m8 c d L[i]
  ·rw[hb]at hf;obtain⟨n,hn⟩:=ih (i+1) (by omega) r3 (by omega) h3;refine pB _ _ _ _ ⟨n,?_⟩;rw[hf];dsimp only[cond_false];rw[<-hn];unfold m8 at hb;unfold lF;rw[hL,aO hil,g2,e2];dsimp only;try rw[g3]
   try dsimp only
   rw[o1,o2];cases h1:onR (dC c) (dec L[i])
   ·rfl
   ·rw[h1,aqf]at hb;rw[hb]
  ·rw[hb]at hf
   obtain⟨n,hn⟩:=ih (i+1) (by omega) (r3++[L[i]]) (by simp;omega) (λx hx'=>by
    rcases ape.1 hx' with h'|h'
    ·exact h3 x h'
    ·have:x=L[i]:=by simpa using h'
     rw[this];exact hx)
   refine pB _ _ _ _ ⟨n,?_⟩;rw[hf];dsimp only[cond_true];rw[apg]at hn;refine Eq.trans ?_ hn;unfold m8 at hb;obtain⟨h1,h2⟩:=ao9.1 hb;unfold lF;rw[hL,aO hil,g2,e2];dsimp only;try rw[g3]
   try dsimp only
   rw[o1,o2,h1,h2];dsimp only;rw[dT (by simp;omega)]
def aiJ:Cn 138 [tCU,tCU]:=cn λ(c d:BCU)=>lf (jy c d) [.d (.sl tP) (yA c d),.d .bool (ahZ c d)] λh=>by
 obtain⟨h4,ho⟩:=KK h;have hsp:fh c d:=⟨h.1.2,h.2.2⟩
 refine aX YO (show th.Res _ _ _ from ?_);unfold EU at h4 ho;unfold yA ahZ yA adj EU;cases hs:cG (dC c) (dC d)
 ·rw[hs]at h4 ho;obtain⟨n,hn⟩:=Ib c d h _ rfl h4 ho _ 0 (ao3 _) [] (aoU _) (λx hx=>by cases hx);refine Z0 _ _ ⟨n,?_⟩;unfold U1;rw[dT hsp,hs];rw[hs]at hn;exact hn
 ·rw[hs]at h4 ho;obtain⟨n,hn⟩:=C5 c d h _ rfl h4 ho _ 0 (ao3 _) [] (aoU _) (λx hx=>by cases hx);refine Z0 _ _ ⟨n,?_⟩;unfold U1;rw[dT hsp,hs];rw[hs]at hn;exact hn
def i8P(n:Int):Prop:= -128<=n/\n<=127
instance (n:Int):Decidable (i8P n):=by unfold i8P;infer_instance
def u8P(n:Int):Prop:=0<=n/\n<=255
instance (n:Int):Decidable (u8P n):=by unfold u8P;infer_instance
def atQ(n u:Int):Rat:=Rat.divInt n (u%4+1)
def B6(c:BO3):List BCU:=[(T',o00,c,F',enc (db (dec c)),enc (df (dec c))),(T',o00,c,F',enc (df (dec c)),enc (db (dec c)))]
theorem Zc{n u:Int}(h:i8P n)(_h':u8P u):Bb (atQ n u) 7 2:=by
 unfold atQ;obtain⟨h1,h2⟩:=h;exact Wf (by omega) (by show n.natAbs<=128;omega) (by show(u%4+1).natAbs<=4;omega)
theorem Con.dd{P:Program}{f:Nat}{args:List SV}{et:TypeId}{e:Ty}{xs:List e.D}{r:RV}(h:Con P f args [r])(hr:r=.new et e xs\/r=.d (.sl e) xs):Con P f args [.d (.sl e) xs]:=by
 rcases hr with rfl|rfl
 ·exact Con.new_d h
 ·exact h
def YT:List En:=[enL ov,enL PS,enT nV,enL vp]
def anj:Ctx:=CX (ens YT) []
def Y6(c:BO3)(_k:KT):OLR:=og (D' (bK c)) (S' [RV.new 48 tCU ([(T',((((F',[]),(F',[])),(((F',[]),(F',[])),((F',[]),(F',[])))),(c,(F',(hid (enc (db (dec c))),hid (enc (df (dec c)))))))),(T',((((F',[]),(F',[])),(((F',[]),(F',[])),((F',[]),(F',[])))),(c,(F',(hid (enc (df (dec c))),hid (enc (db (dec c))))))))])])
theorem akb(c:BO3):RS anj 134 [.d tO c] (Y6 c):=rsX
def ak8:Cn 134 [tO]:=cn λ(c:BO3)=>lf (bK c) [.d (.sl tCU) (B6 c)] λh=>by
 refine Con.new_d (et:=48) (aX YT (akb _ ⟨0,?_⟩));unfold Y6;rw[dT h];simp only[aQ];rfl
instance aj1:Bd (-1:Rat) 3:=dQ (n:= -1) (by decide)
theorem Ps{v:Rat×Rat}{j k:Nat}[h:Bd v j](hj:mx j (mx 1 (mx j (mx 1 1)))<=k)(hk:k<=480000):okP k (enc (atP v)):=aoQ (aL (x:=atP v) hj hk)
section
namespace RE
theorem cmpP_0{p q:Pt}[Rpd p][Rpd q]:aB p q=0↔pR p=pR q:=by
 rw[gQ];obtain⟨h1,h2,h3⟩:=fp (pR p) (pR q);rcases gu.tri (pR p) (pR q)with h|h|h
 ·rw[h1 h];exact⟨λe=>absurd e (by decide),λe=>absurd h (by rw[e];exact gu.irr _)⟩
 ·exact⟨λ_=>h,λ_=>h2 h⟩
 ·rw[h3 h];exact⟨λe=>absurd e (by decide),λe=>absurd h (by rw[e];exact gu.irr _)⟩
theorem Bh(v:Rat×Rat):pR (atP v)=(of v.1,of v.2):=ar1 (ajH v) (ajr v)
theorem Py{ax bx c:Rat}(h:eA c=T'):of (ax+bx*rtQ c)=v2 ax bx c:=by
 unfold v2;rw[of_add,bR,PK h]
theorem lW(ax bx ay b_ c:Rat):pR (lY ax bx ay b_ c)=(v2 ax bx c,v2 ay b_ c):=by
 unfold lY;cases h:eA c
 ·rfl
 ·exact(Bh _).trans (ar1 (Py h) (Py h))
theorem aeT(a b r:RE):(a+ -1*r-a)*(a+ -1*r-a)+(b+0*r-b)*(b+0*r-b)=r*r:=by grind
theorem Xw(a b r:RE):(a+1*r-a)*(a+1*r-a)+(b+0*r-b)*(b+0*r-b)=r*r:=by grind
theorem WE(a r:RE)(h1:a+ -1*r=a+1*r):r<=0:=by grind
theorem VE(a r:RE)(h1:a+ -1*r=a+1*r):0<=r:=by grind
theorem afG(a r:RE)(h1:a+ -1*r=a+1*r):r=0:=le_antisymm (WE a r h1) (VE a r h1)
theorem Pr{c:Ln}(h:0<c.2.2):Ai c (pR (db c))/\Ai c (pR (df c)):=by
 have hr:=qV (show 0<=c.2.2 by grind);unfold db df;rw[lW,lW];exact⟨(aeT _ _ _).trans hr,(Xw _ _ _).trans hr⟩
theorem VG{c:Ln}(h:0<c.2.2):pR (db c)≠pR (df c):=by
 unfold db df;rw[lW,lW];intro e;have e1:=afG _ _ (congrArg Prod.fst e);have hr:=qV (show 0<=c.2.2 by grind);rw[e1,mul_zero]at hr;have:=I3 hr;grind
theorem TO{l:Ln}{v:Rat×Rat}(h:l.1*v.1+l.2.1*v.2=l.2.2):(oM l (atP v)==0)=true:=by
 rw[Lw,Bh];exact congrArg of h
theorem ajs{v w:Rat×Rat}(h:v≠w):aB (atP v) (atP w)≠0:=λe=>h (by
 have:=cmpP_0.1 e;rw[Bh,Bh]at this;exact ar1 (I3 (congrArg Prod.fst this)) (I3 (congrArg Prod.snd this)))
end RE
open RE
def gdN(c:BCU):Prop:=mG c/\dv (dC c) (frC (dC c))=T'/\dv (dC c) (toC (dC c))=T'/\aB (frC (dC c)) (toC (dC c))≠0
theorem gdN.gd{c:BCU}(h:gdN c):gdC c:=⟨h.1.1,h.2.1,h.2.2.1⟩
theorem afi{a b:Rat×Rat}[ba:Bd a 1][bb:Bd b 1](h:wA a b=F'):gdN (yJ a b):=by
 have hz:(sL a b).1≠0\/(sL a b).2.1≠0:=by
  unfold wA at h;by_cases e:a.2-b.2=0
  ·rw[aoP e,aqf]at h;exact .inr (apI h)
  ·exact .inl e
 have hne:a≠b:=λe=>by
  subst e;unfold sL at hz;rcases hz with h|h<;>exact h (by show _-_=(0:Rat);grind)
 have b1:Bd (sL a b).1 12:=(inferInstance:Bd (a.2-b.2) _).mono (by decide);have b2:Bd (sL a b).2.1 12:=(inferInstance:Bd (b.1-a.1) _).mono (by decide);have b3:Bd (sL a b).2.2 63:=(inferInstance:Bd ((a.2-b.2)*a.1+(b.1-a.1)*a.2) _).mono (by decide);have hl:=lX (h:=⟨b1,b2,b3⟩) hz;have hL:Fa (enc (sL a b)):=⟨aoQ (okd (x:=sL a b) (by decide) (by decide)),by rw[ao];exact hz⟩
 unfold yJ;rw[h];refine⟨⟨⟨λe=>(by cases e),λ_=>hL,Ps (by decide) (by decide),Ps (by decide) (by decide)⟩,λe=>(by cases e),λ_=>hl⟩,?_⟩;simp only[dC,dv,frC,toC,lnC,ao,cond_false];exact⟨TO (by unfold sL;grind),TO (by unfold sL;grind),ajs hne⟩
theorem DX{c:Ln}[bc:BdC c](h:0<c.2.2):∀d∈B6 (enc c),gdN d:=by
 have hs:=jR h;have bx:=bc.x;have b_:=bc.y;have bq:=bc.q;have b0:Bd (0:Rat) 3:=dQ (n:=0) (by decide);have b1:Bd (1:Rat) 3:=dQ (n:=1) (by decide);have hC:rD (enc c):=⟨aoQ (okd (h:=ahl (c:=c)) (by decide) (by decide)),by rw[ao];exact h⟩
 have q0:(0:Rat)<=c.2.2:=by grind
 have pl:Rpd (db c):=l7 (λe=>absurd e.1 (by decide)) q0;have pr:Rpd (df c):=l7 (λe=>absurd e.1 (by decide)) q0;have bl:Bd (db c) 490:=DN (bx.mono (by decide:4<=4)) (aj1.mono (by decide:3<=3)) b_ b0 bq (by decide);have br:Bd (df c) 490:=DN (bx.mono (by decide:4<=4)) b1 b_ b0 bq (by decide);have ol:okP 580 (enc (db c)):=aoQ (aL (by decide) (by decide));have or_:okP 580 (enc (df c)):=aoQ (aL (by decide) (by decide));obtain⟨nl,nr_⟩:=Pr h;have nl:=Cg.2 nl;have nr_:=Cg.2 nr_;have ne:=VG h;intro d hd
 have:d=(T',o00,enc c,F',enc (db c),enc (df c))\/d=(T',o00,enc c,F',enc (df c),enc (db c)):=by
  unfold B6 at hd;rw[ao]at hd;simpa using hd
 rcases this with e|e<;>rw[e]
 ·refine⟨⟨⟨λ_=>hC,λe=>(by cases e),ol,or_⟩,λ_=>hs,λe=>(by cases e)⟩,?_⟩;simp only[dC,dv,frC,toC,ciC,ao,cond_true];exact⟨nl,nr_,λe=>ne (cmpP_0.1 e)⟩
 ·refine⟨⟨⟨λ_=>hC,λe=>(by cases e),or_,ol⟩,λ_=>hs,λe=>(by cases e)⟩,?_⟩;simp only[dC,dv,frC,toC,ciC,ao,cond_true];exact⟨nr_,nl,λe=>ne (cmpP_0.1 e).symm⟩
end
theorem V2{c d:BCU}(h:jy c d):(yA c d).length<=4/\∀x∈yA c d,okP 580 x/\onR (dC c) (dec x)=T'/\onR (dC d) (dec x)=true:=by
 obtain⟨h1,h2⟩:=KK h;unfold yA adj;have h3:=wF (dC c) ((EU c d).filter λp=>onR (dC c) (dec p)&&onR (dC d) (dec p)) [];have h4:=List.length_filter_le (λp=>onR (dC c) (dec p)&&onR (dC d) (dec p)) (EU c d)
 refine⟨by
  unfold gU;rw[List.length_nil,ao3]at h3;exact ao1 h3 (ao1 h4 h1),KD λx hx=>?_⟩
 obtain⟨g1,g2⟩:=List.mem_filter.1 hx;obtain⟨g3,g4⟩:=ao9.1 g2;exact⟨h2 x g1,g3,g4⟩
def gdM(c:BCU):Prop:=mG c/\dv (dC c) (frC (dC c))=T'/\dv (dC c) (toC (dC c))=T'
theorem gdM.gd{c:BCU}(h:gdM c):gdC c:=⟨h.1.1,h.2.1,h.2.2⟩
theorem gdN.m{c:BCU}(h:gdN c):gdM c:=⟨h.1,h.2.1,h.2.2.1⟩
theorem ag1{c:BCU}(h:gdN c){l:List BP}(ho:∀p∈l,okP 580 p/\onR (dC c) (dec p)=T'):∀p∈mu c l,gdM p:=by
 intro p hp;obtain⟨x,y,hx,hy,e⟩:=Kh hp
 have f:∀z,z∈uE c l->okP 580 z/\dv (dC c) (dec z)=true:=λz hz=>by
  rcases Do hz with e|e|e
  ·rw[e];exact⟨h.1.1.2.2.1,h.2.1⟩
  ·rw[e];exact⟨h.1.1.2.2.2,h.2.2.1⟩
  ·exact⟨(ho z e).1,(ao9.1 (ho z e).2).1⟩
 obtain⟨x1,x2⟩:=f x hx;obtain⟨y1,y2⟩:=f y hy;rw[e];exact⟨⟨⟨h.1.1.1,h.1.1.2.1,x1,y1⟩,h.1.2⟩,x2,y2⟩
section
section
variable {α:Type} {lt:α->α->Prop} {f:α->α->Int}
theorem Pj(h:np lt):np (λx y=>lt y x):=⟨h.irr,λx y z a b=>h.tr z y x b a,λx y=>by
 rcases h.tri x y with g|g|g
 ·exact .inr (.inr g)
 ·exact .inr (.inl g)
 ·exact .inl g⟩
theorem LR(h:uu lt f):uu (λx y=>lt y x) (λx y=> -f x y):=λx y=>⟨λg=>(by show-f x y= -1;rw[(h x y).2.2 g]),λg=>(by show-f x y=0;rw[(h x y).2.1 g];rfl),λg=>(by show-f x y=1;rw[(h x y).1 g];rfl)⟩
def aLt(lt:α->α->Prop)(u v:Bool×α):Prop:=(u.1=F'/\v.1=T')\/(u.1=F'/\v.1=F'/\lt u.2 v.2)\/(u.1=T'/\v.1=T'/\lt v.2 u.2)
theorem JW(h:np lt):np (aLt lt):=by
 refine⟨λ⟨a,u⟩ g=>?_,λ⟨a,u⟩ ⟨b,v⟩ ⟨c,w⟩ g g'=>?_,λ⟨a,u⟩ ⟨b,v⟩=>?_⟩
 ·rcases g with⟨g1,g2⟩|⟨_,_,g⟩|⟨_,_,g⟩
  ·rw[g1]at g2;cases g2
  ·exact h.irr _ g
  ·exact h.irr _ g
 ·unfold aLt at*
  cases a<;>cases b<;>cases c<;>simp only[true_and,false_and,and_false,ash,arN,false_or,reduceCtorEq,and_self]at g g' ⊢
  ·exact h.tr _ _ _ g g'
  ·exact h.tr _ _ _ g' g
 ·unfold aLt;cases a<;>cases b<;>simp only[true_and,false_and,and_false,ash,arN,false_or,reduceCtorEq,and_self,or_true,true_or]
  ·rcases h.tri u v with g|g|g
   ·exact .inl g
   ·exact .inr (.inl (by rw[g]))
   ·exact .inr (.inr g)
  ·rcases h.tri u v with g|g|g
   ·exact .inr (.inr g)
   ·exact .inr (.inl (by rw[g]))
   ·exact .inl g
theorem OE(h:uu lt f):uu (aLt lt) (jI f):=λ⟨a,u⟩ ⟨b,v⟩=>by
 refine⟨λg=>?_,λg=>?_,λg=>?_⟩
 ·unfold aLt at g;unfold jI;cases a<;>cases b<;>simp only[true_and,false_and,and_false,ash,arN,false_or,reduceCtorEq,and_self]at g
  ·exact(h u v).1 g
  ·rfl
  ·show-f u v= -1;rw[(h u v).2.2 g]
 ·injection g with g1 g2;subst g1 g2;unfold jI;have:=(h u u).2.1 rfl;cases a
  ·exact this
  ·show-f u u=0;rw[this];rfl
 ·unfold aLt at g;unfold jI;cases a<;>cases b<;>simp only[true_and,false_and,and_false,ash,arN,false_or,reduceCtorEq,and_self]at g
  ·exact(h u v).2.2 g
  ·rfl
  ·show-f u v=1;rw[(h u v).1 g];rfl
def cLt(lt:α->α->Prop)(o u v:α):Prop:=(¬lt u o/\lt v o)\/((lt u o↔lt v o)/\lt u v)
theorem zW(h:np lt)(o:α):np (cLt lt o):=by
 refine⟨λu g=>?_,λu v w g g'=>?_,λu v=>?_⟩
 ·rcases g with⟨g1,g2⟩|⟨_,g⟩
  ·exact g1 g2
  ·exact h.irr _ g
 ·rcases g with⟨g1,g2⟩|⟨g1,g2⟩<;>rcases g' with⟨g3,g4⟩|⟨g3,g4⟩
  ·exact absurd g2 g3
  ·exact .inl ⟨g1,g3.1 g2⟩
  ·exact .inl ⟨λe=>g3 (g1.1 e),g4⟩
  ·exact .inr ⟨g1.trans g3,h.tr _ _ _ g2 g4⟩
 ·by_cases e1:lt u o<;>by_cases e2:lt v o
  ·rcases h.tri u v with g|g|g
   ·exact .inl (.inr ⟨⟨λ_=>e2,λ_=>e1⟩,g⟩)
   ·exact .inr (.inl g)
   ·exact .inr (.inr (.inr ⟨⟨λ_=>e1,λ_=>e2⟩,g⟩))
  ·exact .inr (.inr (.inl ⟨e2,e1⟩))
  ·exact .inl (.inl ⟨e1,e2⟩)
  ·rcases h.tri u v with g|g|g
   ·exact .inl (.inr ⟨⟨λe=>absurd e e1,λe=>absurd e e2⟩,g⟩)
   ·exact .inr (.inl g)
   ·exact .inr (.inr (.inr ⟨⟨λe=>absurd e e2,λe=>absurd e e1⟩,g⟩))
theorem zj(hl:np lt)(h:uu lt f)(x y:α):D' (f x y<0)=T'↔lt x y:=by
 rw[aqJ];rcases hl.tri x y with g|g|g
 ·rw[(h x y).1 g];exact⟨λ_=>g,λ_=>by decide⟩
 ·rw[(h x y).2.1 g];exact⟨λe=>absurd e (by decide),λe=>absurd e (by rw[g];exact hl.irr _)⟩
 ·rw[(h x y).2.2 g];exact⟨λe=>absurd e (by decide),λe=>absurd (hl.tr _ _ _ e g) (hl.irr _)⟩
theorem zJ(hl:np lt)(h:uu lt f)(o:Bool×α):uu (cLt (aLt lt) o) (lA f o):=λu v=>by
 have ha:=OE h;have n:=zj (JW hl) ha
 have tf:∀x,¬aLt lt x o->D' (jI f x o<0)=false:=λx g=>by
  cases e:D' (jI f x o<0)
  ·rfl
  ·exact absurd ((n x o).1 e) g
 unfold lA;refine⟨λg=>?_,λg=>?_,λg=>?_⟩
 ·rcases g with⟨g1,g2⟩|⟨g1,g2⟩
  ·rw[tf u g1,(n v o).2 g2];rfl
  ·have e:(D' (jI f u o<0)==D' (jI f v o<0))=true:=by
    by_cases e:aLt lt u o
    ·rw[(n u o).2 e,(n v o).2 (g1.1 e)];rfl
    ·rw[tf u e,tf v (λe'=>e (g1.2 e'))];rfl
   rw[e];exact(ha u v).1 g2
 ·subst g;rw[aqM];exact(ha u u).2.1 rfl
 ·rcases g with⟨g1,g2⟩|⟨g1,g2⟩
  ·rw[tf v g1,(n u o).2 g2];rfl
  ·have e:(D' (jI f u o<0)==D' (jI f v o<0))=true:=by
    by_cases e:aLt lt u o
    ·rw[(n u o).2 e,(n v o).2 (g1.2 e)];rfl
    ·rw[tf u e,tf v (λe'=>e (g1.1 e'))];rfl
   rw[e];exact(ha u v).2.2 g2
end
def Sp(c:Cv)(p:Pt):Prop:=Rpd p/\dv c p=T'
structure Crp (c:Cv):Prop where
 f:Sp c (frC c)
 t:Sp c (toC c)
 q:c.1=T'->0<(ciC c).2.2
 l:c.1=F'->(lnC c).1≠0\/(lnC c).2.1≠0
theorem fG{c:BCU}(h:gdC c):Crp (dC c):=by
 obtain⟨h1,h2,h3⟩:=h;exact⟨⟨cY h1.2.2.1,h2⟩,⟨cY h1.2.2.2,h3⟩,λe=>(h1.1 e).2,λe=>(h1.2.1 e).2⟩
open RE in
theorem Crp.e{c:Cv}(h:Crp c)(hne:aB (frC c) (toC c)≠0):GdE c:=by
 have hf:=h.f.1;have ht:=h.t.1;have s:=λp (hp:Sp c p)=>hp.2;refine⟨hf,ht,λe=>hne (cmpP_0.2 e),λe=>?_,λe=>?_⟩
 ·have h2:=h.f.2;have h3:=h.t.2;unfold dv at h2 h3;rw[e]at h2 h3;exact⟨h.q e,ins_on (apw.1 h2),ins_on (apw.1 h3)⟩
 ·have h2:=h.f.2;have h3:=h.t.2;unfold dv at h2 h3;rw[e]at h2 h3;exact⟨h.l e,I4 (apw.1 h2),I4 (apw.1 h3)⟩
namespace RE
theorem HR(v w:RE):((v-(w))*(v-(w)))+((w*w-(v*v)))+2*((w-(0))*(v-(w)))=0:=by grind
theorem Nh(v w:RE)(h1:v*v=w*w)(_h2:0<=v)(h3:0<=w):v<=w:=λhg=>far (aW (aW (mul_pos (bE hg) (bE hg)) (aN (t7 h1))) (lB (by decide+kernel:(0:Rat)<2) (cq (aN h3) (le_of_lt (bE hg))))) (HR v w)
theorem Ih(v w:RE):((w-(v))*(w-(v)))+((v*v-(w*w)))+2*((v-(0))*(w-(v)))=0:=by grind
theorem Sd(v w:RE)(h1:v*v=w*w)(h2:0<=v)(_h3:0<=w):w<=v:=λhg=>far (aW (aW (mul_pos (bE hg) (bE hg)) (aN (sY h1))) (lB (by decide+kernel:(0:Rat)<2) (cq (aN h2) (le_of_lt (bE hg))))) (Ih v w)
theorem X5(v w:RE)(h1:v*v=w*w)(h2:0<=v)(h3:0<=w):v=w:=le_antisymm (Nh v w h1 h2 h3) (Sd v w h1 h2 h3)
theorem GM(v w:RE):((v-(w))*(v-(w)))+((v*v-(w*w)))+2*((0-(v))*(v-(w)))=0:=by grind
theorem Mo(v w:RE)(h1:v*v=w*w)(h2:v<=0)(_h3:w<=0):v<=w:=λhg=>far (aW (aW (mul_pos (bE hg) (bE hg)) (aN (sY h1))) (lB (by decide+kernel:(0:Rat)<2) (cq (aN h2) (le_of_lt (bE hg))))) (GM v w)
theorem Ey(v w:RE):((w-(v))*(w-(v)))+((w*w-(v*v)))+2*((0-(w))*(w-(v)))=0:=by grind
theorem MH(v w:RE)(h1:v*v=w*w)(_h2:v<=0)(h3:w<=0):w<=v:=λhg=>far (aW (aW (mul_pos (bE hg) (bE hg)) (aN (t7 h1))) (lB (by decide+kernel:(0:Rat)<2) (cq (aN h3) (le_of_lt (bE hg))))) (Ey v w)
theorem Nm(v w:RE)(h1:v*v=w*w)(h2:v<=0)(h3:w<=0):v=w:=le_antisymm (Mo v w h1 h2 h3) (MH v w h1 h2 h3)
theorem ac8(u v w Q:RE)(h1:u*u+v*v=Q)(h2:u*u+w*w=Q):v*v<=w*w:=by grind
theorem afx(u v w Q:RE)(h1:u*u+v*v=Q)(h2:u*u+w*w=Q):w*w<=v*v:=by grind
theorem aji(u v w Q:RE)(h1:u*u+v*v=Q)(h2:u*u+w*w=Q):v*v=w*w:=le_antisymm (ac8 u v w Q h1 h2) (afx u v w Q h1 h2)
theorem RI(a b:RE)(h1: -a= -b):a<=b:=by grind
theorem Sv(a b:RE)(h1: -a= -b):b<=a:=by grind
theorem VR(a b:RE)(h1: -a= -b):a=b:=le_antisymm (RI a b h1) (Sv a b h1)
theorem EF{u v:RE}:(upA (cls u v)=T'->0<=v)/\(upA (cls u v)=F'->v<=0)/\(ufA (cls u v)=T'->0<=v)/\(ufA (cls u v)=F'->v<=0):=by
 unfold cls upA ufA;rcases c8 v with⟨h,e⟩|⟨h,e⟩|⟨h,e⟩<;>rw[e]
 ·exact⟨λ_=>le_of_lt h,λg=>(by cases g),λ_=>le_of_lt h,λg=>(by cases g)⟩
 ·rw[h];exact⟨λ_=>le_refl _,λ_=>le_refl _,λ_=>le_refl _,λ_=>le_refl _⟩
 ·exact⟨λg=>(by cases g),λ_=>le_of_lt h,λg=>(by cases g),λ_=>le_of_lt h⟩
theorem CT{c:Ln}{p q:Pt}(hp:onCi c p)(hq:onCi c q)(hx:pX p=pX q)(g:(0<=pY p-of c.2.1/\0<=pY q-of c.2.1)\/(pY p-of c.2.1<=0/\pY q-of c.2.1<=0)):pR p=pR q:=by
 unfold onCi at hp hq;rw[hx]at hp;have e:=aji _ _ _ _ hp hq;refine ar1 hx ?_;rcases g with⟨a,b⟩|⟨a,b⟩
 ·exact sD _ _ _ (X5 _ _ e a b)
 ·exact sD _ _ _ (Nm _ _ e a b)
end RE
open RE in
theorem fj{c:Cv}(ha:c.1=T'){p:Pt}(hp:Sp c p):onCi (ciC c) p:=by
 have:=hp.1;have g:=hp.2;unfold dv at g;rw[ha]at g;exact ins_on (apw.1 g)
open RE in
theorem B9{c:Cv}(h:Crp c)(ha:c.1=T'):∃κ:Pt->Bool×RE,(∀d:Cv,d.1=T'->ciC d=ciC c->cwC d=cwC c->Sp c (frC d)->∀p q,Sp c p->Sp c q->ck d p q=lA (λx y:RE=>sg (x-y)) (κ (frC d)) (κ p) (κ q))/\∀p q,Sp c p->Sp c q->(κ p=κ q↔aB p q=0):=by
 cases hw:cwC c
 ·refine⟨λp=>(upR (ciC c) p,pX p),λd d1 d2 d3 hd p q hp hq=>?_,λp q hp hq=>?_⟩
  ·have i1:=hd.1;have:=hp.1;have:=hq.1;have e:∀{x y:Pt},Rpd x->Rpd y->bj (xP x) (xP y)=sg (pX x-pX y):=λ{x y} _ _=>by rw[cmpT_re lQ lQ,qK,qK]
   unfold ck;rw[d1,d3,cond_true,cond_false,d2];exact fD (e hp.1 i1) (e hq.1 i1) (e hp.1 hq.1)
  ·have r1:=hp.1;have r2:=hq.1;rw[cmpP_0];constructor
   ·intro e;injection e with e1 e2;rw[mX,mX]at e1;refine CT (fj ha hp) (fj ha hq) e2 ?_;cases g:upA (cls (pX p-of (ciC c).1) (pY p-of (ciC c).2.1))
    ·exact .inr ⟨EF.2.1 g,EF.2.1 (e1.symm.trans g)⟩
    ·exact .inl ⟨EF.1 g,EF.1 (e1.symm.trans g)⟩
   ·intro e;have e1:pX p=pX q:=congrArg Prod.fst e;have e2:pY p=pY q:=congrArg Prod.snd e;show(upR (ciC c) p,pX p)=(upR (ciC c) q,pX q)
    rw[mX,mX,e1,e2]
 ·refine⟨λp=>(upR (flC (ciC c)) (flP p),-pX p),λd d1 d2 d3 hd p q hp hq=>?_,λp q hp hq=>?_⟩
  ·have i1:=hd.1;have:=hp.1;have:=hq.1;have e:∀{x y:Pt},Rpd x->Rpd y->bj (xP (flP x)) (xP (flP y))=sg (-pX x- -pX y):=λ{x y} _ _=>by rw[cmpT_re lQ lQ,qK,qK,Ff,Ff]
   unfold ck;rw[d1,d3,cond_true,cond_true,d2];exact fD (e hp.1 i1) (e hq.1 i1) (e hp.1 hq.1)
  ·have r1:=hp.1;have r2:=hq.1;rw[cmpP_0];have u1:=v7 (h.q ha) (fj ha hp);have u2:=v7 (h.q ha) (fj ha hq);constructor
   ·intro e;injection e with e1 e2;rw[u1,u2]at e1;refine CT (fj ha hp) (fj ha hq) (VR _ _ e2) ?_;cases g:ufA (cls (pX p-of (ciC c).1) (pY p-of (ciC c).2.1))
    ·exact .inr ⟨EF.2.2.2 g,EF.2.2.2 (e1.symm.trans g)⟩
    ·exact .inl ⟨EF.2.2.1 g,EF.2.2.1 (e1.symm.trans g)⟩
   ·intro e;have e1:pX p=pX q:=congrArg Prod.fst e;have e2:pY p=pY q:=congrArg Prod.snd e;show(upR (flC (ciC c)) (flP p),-pX p)=(upR (flC (ciC c)) (flP q),-pX q)
    rw[u1,u2,e1,e2]
open RE in
theorem Cf{c:Cv}(h:Crp c):∃(K:Type) (lt:K->K->Prop) (κ:Pt->K) (f:K->K->Int),np lt/\uu lt f/\(∀p q,Sp c p->Sp c q->ck c p q=f (κ p) (κ q))/\∀p q,Sp c p->Sp c q->(κ p=κ q↔aB p q=0):=by
 have hF:=h.f;cases ha:c.1
 ·cases hd:D' (aB (frC c) (toC c)>0)
  ·refine⟨PE,agI,pR,lxc,gu,fp,λp q hp hq=>?_,λp q hp hq=>?_⟩
   ·have:=hp.1;have:=hq.1;unfold ck;rw[ha,hd,cond_false,cond_false,gQ]
   ·have:=hp.1;have:=hq.1;exact cmpP_0.symm
  ·refine⟨PE,_,pR,_,Pj gu,LR fp,λp q hp hq=>?_,λp q hp hq=>?_⟩
   ·have:=hp.1;have:=hq.1;unfold ck;rw[ha,hd,cond_false,cond_true,gQ]
   ·have:=hp.1;have:=hq.1;exact cmpP_0.symm
 ·obtain⟨κ,h1,h2⟩:=B9 h ha;exact⟨Bool×RE,_,κ,_,zW (JW lt_lin) (κ (frC c)),zJ lt_lin sg_cmpO _,h1 c ha rfl rfl hF,h2⟩
structure Ord (c:Cv):Prop where
 tr:∀{p q r},Sp c p->Sp c q->Sp c r->ck c p q<0->ck c q r<0->ck c p r<0
 tri:∀{p q},Sp c p->Sp c q->ck c p q<0\/aB p q=0\/ck c q p<0
 irr:∀{p q},Sp c p->Sp c q->aB p q=0->ck c p q=0
 asy:∀{p q},Sp c p->Sp c q->ck c p q<0->0<ck c q p
theorem uG{c:Cv}(h:Crp c):Ord c:=by
 obtain⟨K,lt,κ,f,hl,hc,ho,hk⟩:=Cf h
 have n:∀{p q},Sp c p->Sp c q->(ck c p q<0↔lt (κ p) (κ q)):=λ{p q} hp hq=>by
  rw[ho p q hp hq,<-aqJ (p:=f (κ p) (κ q)<0)];exact zj hl hc _ _
 refine⟨λ{p q r} hp hq hr g g'=>?_,λ{p q} hp hq=>?_,λ{p q} hp hq g=>?_,λ{p q} hp hq g=>?_⟩
 ·rw[n hp hr];exact hl.tr _ _ _ ((n hp hq).1 g) ((n hq hr).1 g')
 ·rw[n hp hq,n hq hp,<-hk p q hp hq];exact hl.tri _ _
 ·rw[ho p q hp hq,(hc _ _).2.1 ((hk p q hp hq).2 g)]
 ·rw[ho q p hq hp,(hc _ _).2.2 ((n hp hq).1 g)];decide
def Spb(c:Cv)(x:BP):Prop:=Sp c (dec x)
theorem RC{c:Cv}(o:Ord c){x:BP}(hx:Spb c x):∀{l:List BP},(∀y∈l,Spb c y)->l.Pairwise (λa b=>ck c (dec a) (dec b)<0)->(fZ c l x).Pairwise (λa b=>ck c (dec a) (dec b)<0)
 |[],_,_=>by simp[fZ]
 |y::r,hl,hp=>by
  have hy:=hl y (by simp);have hr:∀z∈r,Spb c z:=λz hz=>hl z (ao4 _ hz);obtain⟨p1,p2⟩:=apT.1 hp;simp only[fZ];by_cases h1:ck c (dec y) (dec x)<0
  ·rw[aoP h1,cond_true];refine apT.2 ⟨λz hz=>?_,RC o hx hr p2⟩;rcases pG hz with g|g
   ·exact p1 z g
   ·rw[g];exact h1
  ·rw[aoR h1,cond_false];by_cases h2:aB (dec y) (dec x)=0
   ·rw[apw.2 h2,cond_true];exact hp
   ·rw[apk.2 h2,cond_false]
    have h3:ck c (dec x) (dec y)<0:=by
     rcases o.tri hy hx with g|g|g
     ·exact absurd g h1
     ·exact absurd g h2
     ·exact g
    refine apT.2 ⟨λz hz=>?_,hp⟩;rcases ao7.1 hz with g|g
    ·rw[g];exact h3
    ·exact o.tr hx hy (hr z g) h3 (p1 z g)
theorem Jp{c:Cv}(o:Ord c):∀{l out:List BP},(∀y∈l,Spb c y)->(∀y∈out,Spb c y)->out.Pairwise (λa b=>ck c (dec a) (dec b)<0)->(l.foldl (fZ c) out).Pairwise (λa b=>ck c (dec a) (dec b)<0)
 |[],_,_,_,h=>h
 |x::l,out,hl,ho,h=>Jp o (l:=l) (λy hy=>hl y (ao4 _ hy)) (λy hy=>by
   rcases pG hy with g|g
   ·exact ho y g
   ·rw[g];exact hl x (by simp)) (RC o (hl x (by simp)) ho h)
theorem agS{c:Cv}(o:Ord c){l:List BP}(hl:∀y∈l,Spb c y):(gU c l).Pairwise (λa b=>ck c (dec a) (dec b)<0):=Jp o hl (λy hy=>by cases hy) List.Pairwise.nil
theorem xn{c:BCU}{R:BP->BP->Prop}{p:BCU}:∀{s:List BP},s.Pairwise R->p∈wv c s->∃x y,x∈s/\y∈s/\R x y/\p=Ap c x y
 |[],_,h=>by cases h
 |[_],_,h=>by cases h
 |x::y::r,hp,h=>by
  obtain⟨p1,p2⟩:=apT.1 hp;simp only[wv]at h;rcases ao7.1 h with h|h
  ·exact⟨x,y,by simp,by simp,p1 y (by simp),h⟩
  ·obtain⟨a,b,h1,h2,h3,h4⟩:=xn p2 h;exact⟨a,b,ao4 _ h1,ao4 _ h2,h3,h4⟩
theorem Iy{c:BCU}(h:gdN c){l:List BP}(ho:∀p∈l,okP 580 p/\onR (dC c) (dec p)=T'):∀x∈uE c l,okP 580 x/\Spb (dC c) x:=by
 intro z hz;rcases Do hz with e|e|e
 ·rw[e];exact⟨h.1.1.2.2.1,cY h.1.1.2.2.1,h.2.1⟩
 ·rw[e];exact⟨h.1.1.2.2.2,cY h.1.1.2.2.2,h.2.2.1⟩
 ·exact⟨(ho z e).1,cY (ho z e).1,(ao9.1 (ho z e).2).1⟩
theorem zC{c:BCU}(h:gdN c){l:List BP}(ho:∀p∈l,okP 580 p/\onR (dC c) (dec p)=T'):(uE c l).Pairwise (λa b=>ck (dC c) (dec a) (dec b)<0):=by
 refine agS (uG (fG h.gd)) λy hy=>?_;rcases ape.1 hy with hy|hy
 ·simp only[ao7,aqw,arN]at hy;rcases hy with e|e
  ·rw[e];exact⟨cY h.1.1.2.2.1,h.2.1⟩
  ·rw[e];exact⟨cY h.1.1.2.2.2,h.2.2.1⟩
 ·exact⟨cY (ho y hy).1,(ao9.1 (ho y hy).2).1⟩
theorem Lz{c:BCU}(h:gdN c){l:List BP}(ho:∀p∈l,okP 580 p/\onR (dC c) (dec p)=T'):∀p∈mu c l,gdN p:=by
 intro p hp;have hm:=ag1 h ho p hp;obtain⟨x,y,hx,hy,hr,e⟩:=xn (zC h ho) hp;have o:=uG (fG h.gd);refine⟨hm.1,hm.2.1,hm.2.2,λg=>?_⟩;rw[e]at g;have:=o.irr (Iy h ho x hx).2 (Iy h ho y hy).2 g;omega
theorem gdN.e{c:BCU}(h:gdN c):RE.GdE (dC c):=(fG h.gd).e h.2.2.2
theorem JQ{c:BCU}(h:gdN c):gdN (gJ c):=by
 refine⟨⟨Es 580 h.1.1,h.1.2⟩,h.2.2.1,h.2.1,λe=>h.2.2.2 ?_⟩;have r1:Rpd (frC (dC c)):=cY h.1.1.2.2.1;have r2:Rpd (toC (dC c)):=cY h.1.1.2.2.2;have e:aB (toC (dC c)) (frC (dC c))=0:=e;exact RE.cmpP_0.2 (RE.cmpP_0.1 e).symm
end
def Pq(c:Cv)(p q:Pt):Int:=bif c.1 then(bif cwC c then-(me bj (ptd (ciC c) (toC c)) (ptd (ciC c) p) (ptd (ciC c) q))else me bj (ptd (ciC c) (frC c)) (ptd (ciC c) p) (ptd (ciC c) q))else aB p q*aB (toC c) (frC c)
namespace RE
theorem vG{p q:Pt}[Rpd p][Rpd q]:aB p q= -aB q p:=by
 rw[gQ,gQ];rcases gu.tri (pR p) (pR q)with h|h|h
 ·rw[(fp _ _).1 h,(fp _ _).2.2 h]
 ·rw[h,(fp (pR q) (pR q)).2.1 rfl];rfl
 ·rw[(fp _ _).2.2 h,(fp _ _).1 h];rfl
end RE
theorem Vu(f p q:Bool×Rt): -1<=me bj f p q/\me bj f p q<=1:=by
 have h:∀n,-1<=Ao n/\Ao n<=1:=λn=>by
  unfold Ao;split<;>(try split)<;>omega
 unfold me;cases oJ bj f p==oJ bj f q
 ·exact h _
 ·exact h _
def ait:List En:=[enT oF,enT Rw]
def aba(c:BCU)(p q:BP)(_k:KT):OLR:=match !c.1 with|T'=>(og (D' (okP 4000 p/\okP 4000 q)) (og (D' (okP 4000 c.2.2.2.2.2/\okP 4000 c.2.2.2.2.1)) (S' [RV.d ask (i64.wrap ((aB (dec p) (dec q))*(aB (dec c.2.2.2.2.2) (dec c.2.2.2.2.1))))])))|F'=>(match c.2.2.2.1 with|T'=>(og (D' (ok Ln 300 c.2.2.1/\okP 4000 c.2.2.2.2.2/\okP 4000 p/\okP 4000 q)) (S' [RV.d ask (i64.wrap (0-(me bj (ptd (dec c.2.2.1) (dec c.2.2.2.2.2)) (ptd (dec c.2.2.1) (dec p)) (ptd (dec c.2.2.1) (dec q)))))]))|F'=>(og (D' (ok Ln 300 c.2.2.1/\okP 4000 c.2.2.2.2.1/\okP 4000 p/\okP 4000 q)) (S' [RV.d ask (me bj (ptd (dec c.2.2.1) (dec c.2.2.2.2.1)) (ptd (dec c.2.2.1) (dec p)) (ptd (dec c.2.2.1) (dec q)))])))
def Zy:Cn 238 [tCU,tP,tP]:=cn λ(c:BCU) (p q:BP)=>lf (okC 4000 c/\okP 4000 p/\okP 4000 q) [.d ask (Pq (dC c) (dec p) (dec q))] λh=>by
 refine aA ait (aba c p q) ⟨0,?_⟩;obtain⟨hc,hp,hq⟩:=h;obtain⟨ar,li,ci,cw,fr,to⟩:=c;have h3:=hc.2.2.1;have h4:=hc.2.2.2;simp only at h3 h4;unfold aba Pq;cases ar
 ·have b1:=Et (dec p) (dec q);have b2:=Et (dec to) (dec fr);simp only[dT (show okP 4000 p/\okP 4000 q from⟨hp,hq⟩),dT (show okP 4000 to/\okP 4000 fr from⟨h4,h3⟩),xp b1 b2];rfl
 ·have e:=(hc.1 rfl).1;simp only at e;cases cw
  ·simp only[dT (show ok Ln 300 ci/\okP 4000 fr/\okP 4000 p/\okP 4000 q from⟨e,h3,hp,hq⟩)];rfl
  ·have b:=Vu (ptd (dec ci) (dec to)) (ptd (dec ci) (dec p)) (ptd (dec ci) (dec q));simp only[dT (show ok Ln 300 ci/\okP 4000 to/\okP 4000 p/\okP 4000 q from⟨e,h4,hp,hq⟩)];try dsimp only[Bool.not_true]
   rw[aM (x:=0-me bj (ptd (dec ci) (dec to)) (ptd (dec ci) (dec p)) (ptd (dec ci) (dec q))) (by omega) (by omega),aqH];rfl
theorem qY{α:Type}{lt:α->α->Prop}(h:np lt){L:List α}{a b:α}(ha:a∈L)(hb:b∈L):lt a b↔rk lt L a<rk lt L b:=by
 refine⟨λg=>xC h g ha,λg=>?_⟩;rcases h.tri a b with e|e|e
 ·exact e
 ·rw[e]at g;omega
 ·have:=xC h e hb;omega
theorem Wj{α:Type}{lt:α->α->Prop}(h:np lt){o x y p:α}(hxy:cLt lt o x y):¬cLt lt x y p↔¬cLt lt o p x/\¬cLt lt o y p:=by
 have m1:o∈[o,x,y,p]:=by simp
 have m2:x∈[o,x,y,p]:=by simp
 have m3:y∈[o,x,y,p]:=by simp
 have m4:p∈[o,x,y,p]:=by simp
 unfold cLt at*
 rw[qY h m2 m1,qY h m3 m1,qY h m2 m3]at hxy;rw[qY h m3 m2,qY h m4 m2,qY h m3 m4,qY h m4 m1,qY h m2 m1,qY h m3 m1];omega
theorem DY{α:Type}{lt:α->α->Prop}{f:α->α->Int}(hl:np lt)(h:uu lt f)(x y:α):f x y<=0↔¬lt y x:=by
 rcases hl.tri x y with g|g|g
 ·rw[(h x y).1 g];exact⟨λ_ e=>hl.irr _ (hl.tr _ _ _ e g),λ_=>by decide⟩
 ·rw[(h x y).2.1 g];exact⟨λ_ e=>by rw[g]at e;exact hl.irr _ e,λ_=>by decide⟩
 ·rw[(h x y).2.2 g];exact⟨λe=>absurd e (by decide),λe=>absurd g e⟩
theorem jf{α:Type}{lt:α->α->Prop}{f:α->α->Int}(hl:np lt)(h:uu lt f)(x y:α):f x y<0↔lt x y:=by
 rw[<-aqJ (p:=f x y<0)];exact zj hl h x y
def pcC(c:Cv)(x y:Pt):Cv:=(c.1,c.2.1,c.2.2.1,c.2.2.2.1,x,y)
structure anT (c:Cv):Prop extends Ord c where
 le:∀{p q},Sp c p->Sp c q->(ck c p q<=0↔¬ck c q p<0)
 lt:∀{p q r},Sp c p->Sp c q->Sp c r->¬ck c q p<0->¬ck c r q<0->¬ck c r p<0
theorem KS{c:Cv}(h:Crp c):anT c:=by
 obtain⟨K,lt,κ,f,hl,hc,ho,hk⟩:=Cf h;refine⟨uG h,λ{p q} hp hq=>?_,λ{p q r} hp hq hr=>?_⟩
 ·rw[ho p q hp hq,ho q p hq hp,DY hl hc,jf hl hc]
 ·rw[ho q p hq hp,ho r q hr hq,ho r p hr hp,jf hl hc,jf hl hc,jf hl hc];intro g g' e;rcases hl.tri (κ q) (κ p)with a|a|a
  ·exact g a
  ·exact g' (by rw[a];exact e)
  ·exact g' (hl.tr _ _ _ e a)
theorem zx{c:Cv}(h:Crp c){p:Pt}(hp:Rpd p):onR c p=T'↔dv c p=T'/\¬ck c p (frC c)<0/\¬ck c (toC c) p<0:=by
 have o:=KS h;unfold onR;rw[ao9,ao9,aqJ,aqJ];refine and_congr_right λhs=>?_;rw[o.le h.f ⟨hp,hs⟩,o.le ⟨hp,hs⟩ h.t]
theorem adA{c:Cv}(h:Crp c){x y p:Pt}(hx:Sp c x)(hy:Sp c y)(hxy:ck c x y<0)(hp:Rpd p):onR (pcC c x y) p=T'↔dv c p=T'/\¬ck c p x<0/\¬ck c y p<0:=by
 have o:=KS h;have es:dv (pcC c x y) p=dv c p:=rfl;unfold onR;rw[ao9,ao9,aqJ,aqJ,es];refine and_congr_right λhs=>?_;have sp:Sp c p:=⟨hp,hs⟩
 show ck (pcC c x y) x p<=0/\ck (pcC c x y) p y<=0↔_;cases ha:c.1
 ·have e:∀a b,ck (pcC c x y) a b=ck c a b:=λa b=>by
   have e1:D' (aB x y>0)=D' (aB (frC c) (toC c)>0):=by
    unfold ck at hxy;rw[ha,cond_false]at hxy;cases hd:D' (aB (frC c) (toC c)>0)<;>rw[hd]at hxy
    ·exact aoR (by rw[cond_false]at hxy;omega)
    ·exact aoP (by rw[cond_true]at hxy;omega)
   unfold ck;show(bif c.1 then _ else bif D' (aB x y>0)then _ else _)=_;rw[ha,cond_false,cond_false,e1]
  rw[e,e,o.le hx sp,o.le sp hy]
 ·obtain⟨κ,h1,h2⟩:=B9 h ha;have hl:=JW RE.lt_lin;have hc:=λu=>zJ RE.lt_lin RE.sg_cmpO u;have ex:=h1 (pcC c x y) ha rfl rfl hx;have ec:=h1 c ha rfl rfl h.f;rw[ec x y hx hy,jf (zW hl _) (hc _)]at hxy;rw[ex x p hx sp,ex p y sp hy,ec p x sp hx,ec y p hy sp,DY (zW hl _) (hc _),DY (zW hl _) (hc _),jf (zW hl _) (hc _),jf (zW hl _) (hc _)];refine Iff.trans (and_iff_right ?_) (Wj hl hxy);rintro (⟨_,g⟩|⟨g1,g2⟩)
  ·exact hl.irr _ g
  ·exact hl.irr _ (g1.1 g2)
theorem BN{c:Cv}{x y:BP}:∀{r:List BP},y∈r->y∈fZ c r x
 |[],h=>by cases h
 |z::r,h=>by
  simp only[fZ];cases D' (ck c (dec z) (dec x)<0)
  ·cases aB (dec z) (dec x)==0
   ·exact ao4 _ h
   ·exact h
  ·rcases ao7.1 h with e|e
   ·rw[e];exact .head _
   ·exact ao4 _ (BN e)
theorem Gq{c:Cv}{y:BP}:∀{l r:List BP},y∈r->y∈l.foldl (fZ c) r
 |[],_,h=>h
 |_::l,_,h=>Gq (l:=l) (BN h)
theorem acm{c:BCU}(h:gdN c):ck (dC c) (frC (dC c)) (toC (dC c))<0:=by
 have k:=fG h.gd;have hne:aB (frC (dC c)) (toC (dC c))≠0:=h.2.2.2;cases ha:(dC c).1
 ·unfold ck;rw[ha,cond_false];cases hd:D' (aB (frC (dC c)) (toC (dC c))>0)
  ·have:=apI hd;rw[cond_false];omega
  ·have:=aoQ hd;rw[cond_true];omega
 ·rcases(uG k).tri k.f k.t with g|g|g
  ·exact g
  ·exact absurd g hne
  ·obtain⟨κ,h1,h2⟩:=B9 k ha;have hl:=JW RE.lt_lin;rw[h1 (dC c) ha rfl rfl k.f _ _ k.t k.f,jf (zW hl _) (zJ RE.lt_lin RE.sg_cmpO _)]at g;rcases g with⟨_,g⟩|⟨g1,g2⟩
   ·exact absurd g (hl.irr _)
   ·exact absurd (g1.1 g2) (hl.irr _)
theorem G8{c:BCU}(h:gdN c):onR (dC c) (frC (dC c))=T'/\onR (dC c) (toC (dC c))=true:=by
 have k:=fG h.gd;have o:=uG k
 have irr:∀{q},Sp (dC c) q->ck (dC c) q q=0:=λ{q} hq=>by
  have:=hq.1;exact o.irr hq hq (RE.cmpP_0.2 rfl)
 have tf:=o.asy k.f k.t (acm h);rw[zx k k.f.1,zx k k.t.1,irr k.f,irr k.t];exact⟨⟨k.f.2,by omega,by omega⟩,k.t.2,by omega,by omega⟩
abbrev oL(c:Cv)(A:List BP):Prop:=A.Pairwise (λa b=>ck c (dec a) (dec b)<0)
section
section
variable {α K:Type}
def lz(lt:α->α->Bool):List α->α->List α
 |[],a=>[a]
 |b::r,a=>bif lt a b then b::lz lt r a else a::b::r
def qM(lt:α->α->Bool)(l:List α):List α:=(l.foldl (lz lt) []).reverse
def qI(eq:α->α->Bool):α->List α->List α
 |_,[]=>[]
 |p,q::r=>bif eq q p then qI eq q r else q::qI eq q r
def Ng(eq:α->α->Bool):List α->List α
 |[]=>[]
 |x::r=>x::qI eq x r
theorem yR{lt:α->α->Bool}{a x:α}:∀{r:List α},x∈lz lt r a↔x=a\/x∈r
 |[]=>by simp[lz]
 |b::r=>by
  unfold lz;cases lt a b
  ·simp
  ·simp only[cond_true,ao7,yR (r:=r)];constructor
   ·rintro (h|h|h)
    ·exact .inr (.inl h)
    ·exact .inl h
    ·exact .inr (.inr h)
   ·rintro (h|h|h)
    ·exact .inr (.inl h)
    ·exact .inl h
    ·exact .inr (.inr h)
theorem GU{lt:α->α->Bool}{x:α}:∀{l r:List α},x∈l.foldl (lz lt) r↔x∈l\/x∈r
 |[],r=>by simp
 |a::l,r=>by
  rw[aq9,GU,yR,ao7];constructor
  ·rintro (h|h|h)
   ·exact .inl (.inr h)
   ·exact .inl (.inl h)
   ·exact .inr h
  ·rintro ((h|h)|h)
   ·exact .inr (.inl h)
   ·exact .inl h
   ·exact .inr (.inr h)
theorem Fb{lt:α->α->Bool}{x:α}{l:List α}:x∈qM lt l↔x∈l:=by
 unfold qM;rw[List.mem_reverse,GU];simp
theorem pu{lt:α->α->Bool}{a:α}:∀{r:List α},(lz lt r a).length=r.length+1
 |[]=>rfl
 |b::r=>by
  unfold lz;cases lt a b
  ·rfl
  ·simp[pu (r:=r)]
theorem K4{lt:α->α->Bool}:∀{l r:List α},(l.foldl (lz lt) r).length=l.length+r.length
 |[],r=>by simp
 |a::l,r=>by
  rw[aq9,K4,pu,ao8];omega
theorem ED{lt:α->α->Bool}{l:List α}:(qM lt l).length=l.length:=by
 unfold qM;rw[List.length_reverse,K4];rfl
theorem E0{eq:α->α->Bool}:∀{l:List α} {p:α},(qI eq p l).length<=l.length
 |[],_=>aoU _
 |q::r,p=>by
  unfold qI;have:=E0 (eq:=eq) (l:=r) (p:=q);cases eq q p
  ·simp only[cond_false,ao8];omega
  ·simp only[cond_true,ao8];omega
theorem NW{eq:α->α->Bool}{l:List α}:(Ng eq l).length<=l.length:=by
 cases l with
 |nil=>exact aoU _
 |cons x r=>
  have:=E0 (eq:=eq) (l:=r) (p:=x);simp only[Ng,ao8];omega
theorem z6{eq:α->α->Bool}{x:α}:∀{l:List α} {p:α},x∈qI eq p l->x∈l
 |[],_,h=>h
 |q::r,p,h=>by
  unfold qI at h;cases hq:eq q p<;>rw[hq]at h
  ·rcases ao7.1 h with e|e
   ·rw[e];simp
   ·exact ao4 _ (z6 e)
  ·exact ao4 _ (z6 h)
theorem RB{eq:α->α->Bool}{x:α}{l:List α}(h:x∈Ng eq l):x∈l:=by
 cases l with
 |nil=>exact h
 |cons y r=>
  rcases ao7.1 h with e|e
  ·rw[e];simp
  ·exact ao4 _ (z6 e)
variable {lt:K->K->Prop} (hl:np lt) (κ:α->K)
include hl in
include hl in
include hl in
include hl in
include hl in
end
def ltP(c:Cv)(a b:BP):Bool:=D' (Pq c (dec a) (dec b)<0)
def fM(a b:BP):Bool:=aB (dec a) (dec b)==0
def du(c:Cv)(l:List BP):List BP:=Ng fM (qM (ltP c) l)
theorem mH{c:Cv}{l:List BP}{x:BP}(h:x∈du c l):x∈l:=Fb.1 (RB h)
theorem ng{c:Cv}{l:List BP}:(du c l).length<=l.length:=by
 have:=NW (eq:=fM) (l:=qM (ltP c) l);rw[ED]at this;exact this
end
section
theorem DB{n m k:Nat}(h1:n+m<=100000000)(hk:k<=1000000):D' ((n+m)*k<=140737488355328/\n+m<=140737488355328)=true:=by
 refine aoP ⟨?_,by omega⟩;have:=arm h1 hk;omega
def kG(c:BCU)(l:List BP):Prop:=okC 4000 c/\l.length<=19/\∀x∈l,okP 4000 x
instance (c:BCU) (l:List BP):Decidable (kG c l):=by unfold kG;infer_instance
def Qh:Ctx:=CX [] []
def Np(p:List BP)(_k:KT):OLR:=match p with|[]=>FX (S' [RV.new 40 tP []]) (og (D' ((([]:List BP).length+p.length)*320<=140737488355328/\([]:List BP).length+p.length<=140737488355328)) (S' [RV.new 40 tP (([]:List BP)++p)]))|_::_=>(og (D' ((([]:List BP).length+p.length)*320<=140737488355328/\([]:List BP).length+p.length<=140737488355328)) (S' [RV.new 40 tP (([]:List BP)++p)]))
theorem adb(p:List BP):RS Qh 155 [.d (.sl tP) p] (Np p):=rsX
def IN:Cn 155 [(.sl tP)]:=cn λ(p:List BP)=>lf (p.length<=100000) [.new 40 tP p] λh=>by
 refine Ctx.Res.con (C:=Qh) (D9 (E:=[]) trivial) ?_ (fn:=Tryz.f155) (by kernel_rfl) (by kernel_rfl);refine adb _ ⟨0,?_⟩;unfold Np;rw[DB (n:=([]:List BP).length) (m:=p.length) (by simp;omega) (by omega)];cases p with
 |nil=>exact dD _
 |cons a p=>rfl
def aeS:List En:=[enT oF]
def abi(p q:BP)(_k:KT):OLR:=og (D' (okP 4000 p/\okP 4000 q)) (S' [RV.d .bool ((aB (dec p) (dec q))==0)])
def mE:Cn 131 [tP,tP]:=cn λ(p q:BP)=>lf (okP 4000 p/\okP 4000 q) [.d .bool (aB (dec p) (dec q)==0)] λh=>by
 refine aA aeS (abi p q) ⟨0,?_⟩;unfold abi;rw[dT h]
def KQ:cE:={keep:=T',run:=λ_ _ _=>N'}
theorem MQ:SpK 359 KQ:=by
 refine⟨by kernel_rfl,λR args k r h=>(by cases h),(λg h=>(by cases h)),λ_ _ e=>(by cases e)⟩
def HM:List En:=[enT Zy,enT mE,enK IN,⟨359,KQ,MQ⟩]
def agn:NT:=[((304,6),{keep:=[0,1,2,6,7,8],hl:=2}),((358,3),{keep:=[0,1,2,3,8],hl:=2}),((358,15),{keep:=[0,1,2,3,8,9],hl:=2}),((304,22),{keep:=[0,1,2,6],hl:=2}),((304,34),{keep:=[0,1,2,6,7,8],hl:=2}),((239,14),{keep:=[0,1,5],hl:=2}),((239,32),{keep:=[0,1,5,6,7],hl:=2}),((158,5),{keep:=[1],hl:=0}),((236,0),{keep:=[],hl:=0}),((304,15),{keep:=[0,1,2,6,8],hl:=0}),((304,20),{keep:=[0,1,2,6],hl:=0}),((358,18),{keep:=[0,1,2,3,8,9,18,19,20,21,22,23,24,25,26,27,28,29,30,31,32,33,34],hl:=0}),((158,7),{keep:=[11],hl:=0})]
def iz:Ctx:=CX (ens HM) agn
def se(c:BCU)(l:List BP)(s304_7 s304_8:Int)(r304_1:List BP):Cfg:=⟨304,[.blk 0,.seq 19],[(0,.own 1),(1,SI (l.length:Int)),(2,.clo 237 [0]),(6,SI 20),(7,SI s304_7),(8,SI s304_8)],[.box 48 (Ty.split tCU c),.row 40 tP r304_1],2,[⟨236,[],0,4,[],2,N'⟩,⟨158,[.seq 6],5,2,[(1,.own 1)],0,N'⟩]⟩
def rY(c:BCU)(l:List BP)(s304_7 s304_8 s358_8:Int)(r358_1:List BP):Cfg:=⟨358,[.blk 0],[(0,.own 1),(1,SI s304_7),(2,SI s304_8),(3,.clo 237 [0]),(8,SI s358_8)],[.box 48 (Ty.split tCU c),.row 40 tP r358_1],2,[⟨304,[.seq 16,.blk 1,.lp 6,.blk 0,.seq 19],15,4,[(0,.own 1),(1,SI (l.length:Int)),(2,.clo 237 [0]),(6,SI 20),(8,SI s304_8)],2,N'⟩,⟨236,[],0,4,[],2,N'⟩,⟨158,[.seq 6],5,2,[(1,.own 1)],0,N'⟩]⟩
def eD(c:BCU)(l:List BP)(s304_7 s358_8:Int)(r358_1:List BP):Cfg:=⟨358,[.blk 0],[(0,.own 1),(1,SI s304_7),(2,SI (l.length:Int)),(3,.clo 237 [0]),(8,SI s358_8)],[.box 48 (Ty.split tCU c),.row 40 tP r358_1],2,[⟨304,[.seq 21],20,4,[(0,.own 1),(1,SI (l.length:Int)),(2,.clo 237 [0]),(6,SI 20)],2,N'⟩,⟨236,[],0,4,[],2,N'⟩,⟨158,[.seq 6],5,2,[(1,.own 1)],0,N'⟩]⟩
def Gj(c:BCU)(l:List BP)(s304_7 s304_8 s358_8 s358_9:Int)(r358_1:List BP):Cfg:=⟨358,[.blk 2,.blk 1,.seq 26,.lp 3,.blk 0],[(0,.own 1),(1,SI s304_7),(2,SI s304_8),(3,.clo 237 [0]),(8,SI s358_8),(9,SI s358_9)],[.box 48 (Ty.split tCU c),.row 40 tP r358_1],2,[⟨304,[.seq 16,.blk 1,.lp 6,.blk 0,.seq 19],15,4,[(0,.own 1),(1,SI (l.length:Int)),(2,.clo 237 [0]),(6,SI 20),(8,SI s304_8)],2,N'⟩,⟨236,[],0,4,[],2,N'⟩,⟨158,[.seq 6],5,2,[(1,.own 1)],0,N'⟩]⟩
def gc(c:BCU)(l:List BP)(s304_7 s358_8 s358_9:Int)(r358_1:List BP):Cfg:=⟨358,[.blk 2,.blk 1,.seq 26,.lp 3,.blk 0],[(0,.own 1),(1,SI s304_7),(2,SI (l.length:Int)),(3,.clo 237 [0]),(8,SI s358_8),(9,SI s358_9)],[.box 48 (Ty.split tCU c),.row 40 tP r358_1],2,[⟨304,[.seq 21],20,4,[(0,.own 1),(1,SI (l.length:Int)),(2,.clo 237 [0]),(6,SI 20)],2,N'⟩,⟨236,[],0,4,[],2,N'⟩,⟨158,[.seq 6],5,2,[(1,.own 1)],0,N'⟩]⟩
def jn(c:BCU)(l r358_1:List BP)(s304_6:Int):Cfg:=⟨304,[.blk 2],[(0,.own 1),(1,SI (l.length:Int)),(2,.clo 237 [0]),(6,SI s304_6)],[.box 48 (Ty.split tCU c),.row 40 tP r358_1],2,[⟨236,[],0,4,[],2,N'⟩,⟨158,[.seq 6],5,2,[(1,.own 1)],0,N'⟩]⟩
def FF(c:BCU)(l r358_1:List BP)(s304_6:Int):Cfg:=⟨304,[.blk 4,.seq 47,.blk 3,.lp 22,.blk 2],[(0,.own 1),(1,SI (l.length:Int)),(2,.clo 237 [0]),(6,SI s304_6),(7,SI 0),(8,SI (i64.wrap (2*s304_6)))],[.box 48 (Ty.split tCU c),.row 40 tP r358_1],2,[⟨236,[],0,4,[],2,N'⟩,⟨158,[.seq 6],5,2,[(1,.own 1)],0,N'⟩]⟩
def jD(c:BCU)(r358_1:List BP)(s239_5:Int):Cfg:=⟨239,[.blk 0,.seq 56],[(0,.own 1),(1,.clo 131 []),(5,SI s239_5)],[.box 48 (Ty.split tCU c),.row 40 tP r358_1],2,[⟨158,[.seq 8],7,1,[],0,N'⟩]⟩
def dV(c:BCU)(r358_1:List BP)(s239_5 s239_5v s239_7:Int)(r239_1:List BP):Cfg:=⟨239,[.blk 2,.seq 49,.blk 1,.seq 55,.lp 14,.blk 0,.seq 56],[(0,.own 1),(1,.clo 131 []),(5,SI s239_5v),(6,.osl 1 20 ((s239_5:Int).toNat) (((r358_1.length:Int):Int).toNat-(s239_5:Int).toNat)),(7,SI s239_7)],[.box 48 (Ty.split tCU c),.row 40 tP r239_1],2,[⟨158,[.seq 8],7,1,[],0,N'⟩]⟩
def acH(c:BCU)(l:List BP)(k:KT):OLR:=og (D' (l.length<=100000)) (k 6 (se c l 0 20 l))
theorem alq(c:BCU)(l:List BP):RS iz 158 [.d tCU c,.d (.sl tP) l] (acH c l):=rsX
def tb(c:BCU)(l:List BP)(s304_7 s304_8:Int)(r304_1:List BP)(k:KT):OLR:=match D' (s304_8<=(l.length:Int))with|T'=>k 3 (rY c l s304_7 s304_8 (i64.wrap (s304_7+1)) r304_1)|F'=>k 3 (eD c l s304_7 (i64.wrap (s304_7+1)) r304_1)
theorem CY(c:BCU)(l:List BP)(s304_7 s304_8:Int)(r304_1:List BP):RN iz 6 (se c l s304_7 s304_8 r304_1) (tb c l s304_7 s304_8 r304_1):=rnX
def ie(c:BCU)(l:List BP)(s304_7 s358_8:Int)(r358_1:List BP)(k:KT):OLR:=match D' (s358_8<(l.length:Int))with|T'=>k 15 (gc c l s304_7 s358_8 s358_8 r358_1)|F'=>k 22 (jn c l r358_1 20)
theorem ln(c:BCU)(l:List BP)(s304_7 s358_8:Int)(r358_1:List BP):RN iz 3 (eD c l s304_7 s358_8 r358_1) (ie c l s304_7 s358_8 r358_1):=rnX
def Vn(c:BCU)(l:List BP)(s304_7 s304_8 s358_8 s358_9:Int)(r358_1:List BP)(k:KT):OLR:=match D' (s358_9>s304_7)with|T'=>(match aH r358_1 s358_9 with|S' _=>(match T',r358_1[(s358_9).toNat]? with|T',S' x1=>(match aH r358_1 (i64.wrap (s358_9-1))with|S' _=>(match T',r358_1[(i64.wrap (s358_9-1)).toNat]? with|T',S' x2=>(og (D' (okC 4000 c/\okP 4000 x1/\okP 4000 x2)) (match D' ((Pq (dC c) (dec x1) (dec x2))<0)with|T'=>(match aH r358_1 (i64.wrap (s358_9-1))with|S' _=>(match T',r358_1[(i64.wrap (s358_9-1)).toNat]? with|T',S' x3=>(match aH r358_1 s358_9 with|S' _=>(match T',r358_1[(s358_9).toNat]? with|T',S' x4=>(match aH r358_1 s358_9 with|S' _=>(match T',r358_1[(s358_9).toNat]? with|T',S' _=>(match aH (r358_1.set ((s358_9).toNat) x3) (i64.wrap (s358_9-1))with|S' _=>(match T',(r358_1.set ((s358_9).toNat) x3)[(i64.wrap (s358_9-1)).toNat]? with|T',S' _=>k 15 (Gj c l s304_7 s304_8 s358_8 (i64.wrap (s358_9-1)) ((r358_1.set ((s358_9).toNat) x3).set ((i64.wrap (s358_9-1)).toNat) x4))|_,_=>N')|N'=>N')|_,_=>N')|N'=>N')|_,_=>N')|N'=>N')|_,_=>N')|N'=>N')|F'=>k 3 (rY c l s304_7 s304_8 (i64.wrap (s358_8+1)) r358_1)))|_,_=>N')|N'=>N')|_,_=>N')|N'=>N')|F'=>k 3 (rY c l s304_7 s304_8 (i64.wrap (s358_8+1)) r358_1)
def gg(c:BCU)(l:List BP)(s304_7 s358_8 s358_9:Int)(r358_1:List BP)(k:KT):OLR:=match D' (s358_9>s304_7)with|T'=>(match aH r358_1 s358_9 with|S' _=>(match T',r358_1[(s358_9).toNat]? with|T',S' x1=>(match aH r358_1 (i64.wrap (s358_9-1))with|S' _=>(match T',r358_1[(i64.wrap (s358_9-1)).toNat]? with|T',S' x2=>(og (D' (okC 4000 c/\okP 4000 x1/\okP 4000 x2)) (match D' ((Pq (dC c) (dec x1) (dec x2))<0)with|T'=>(match aH r358_1 (i64.wrap (s358_9-1))with|S' _=>(match T',r358_1[(i64.wrap (s358_9-1)).toNat]? with|T',S' x3=>(match aH r358_1 s358_9 with|S' _=>(match T',r358_1[(s358_9).toNat]? with|T',S' x4=>(match aH r358_1 s358_9 with|S' _=>(match T',r358_1[(s358_9).toNat]? with|T',S' _=>(match aH (r358_1.set ((s358_9).toNat) x3) (i64.wrap (s358_9-1))with|S' _=>(match T',(r358_1.set ((s358_9).toNat) x3)[(i64.wrap (s358_9-1)).toNat]? with|T',S' _=>k 15 (gc c l s304_7 s358_8 (i64.wrap (s358_9-1)) ((r358_1.set ((s358_9).toNat) x3).set ((i64.wrap (s358_9-1)).toNat) x4))|_,_=>N')|N'=>N')|_,_=>N')|N'=>N')|_,_=>N')|N'=>N')|_,_=>N')|N'=>N')|F'=>k 3 (eD c l s304_7 (i64.wrap (s358_8+1)) r358_1)))|_,_=>N')|N'=>N')|_,_=>N')|N'=>N')|F'=>k 3 (eD c l s304_7 (i64.wrap (s358_8+1)) r358_1)
theorem jJ(c:BCU)(l:List BP)(s304_7 s358_8 s358_9:Int)(r358_1:List BP):RN iz 15 (gc c l s304_7 s358_8 s358_9 r358_1) (gg c l s304_7 s358_8 s358_9 r358_1):=rnX
def jc(c:BCU)(l r358_1:List BP)(s304_6:Int)(k:KT):OLR:=match D' (s304_6<(l.length:Int))with|T'=>k 34 (FF c l r358_1 s304_6)|F'=>(match D' ((r358_1.length:Int)<2)with|T'=>S' [RV.new 40 tP r358_1]|F'=>k 14 (jD c r358_1 1))
theorem mj(c:BCU)(l r358_1:List BP)(s304_6:Int):RN iz 22 (jn c l r358_1 s304_6) (jc c l r358_1 s304_6):=rnX
def iZ(c:BCU)(r358_1:List BP)(s239_5:Int)(k:KT):OLR:=match D' (s239_5<(r358_1.length:Int))with|T'=>(match aH r358_1 s239_5 with|S' _=>(match T',r358_1[(s239_5).toNat]? with|T',S' x1=>(match aH r358_1 (i64.wrap (s239_5-1))with|S' _=>(match T',r358_1[(i64.wrap (s239_5-1)).toNat]? with|T',S' x2=>(og (D' (okP 4000 x1/\okP 4000 x2)) (match aB (dec x1) (dec x2)==0 with|T'=>(og (D' ((0:Int)<=s239_5/\s239_5<=(r358_1.length:Int)/\(r358_1.length:Int)<=(r358_1.length:Int))) (k 32 (dV c r358_1 s239_5 s239_5 1 r358_1)))|F'=>k 14 (jD c r358_1 (i64.wrap (s239_5+1)))))|_,_=>N')|N'=>N')|_,_=>N')|N'=>N')|F'=>S' [RV.new 40 tP r358_1]
theorem l8(c:BCU)(r358_1:List BP)(s239_5:Int):RN iz 14 (jD c r358_1 s239_5) (iZ c r358_1 s239_5):=rnX
def gh(c:BCU)(r358_1:List BP)(s239_5 s239_5v s239_7:Int)(r239_1:List BP)(k:KT):OLR:=match D' (s239_7<((((r358_1.length:Int):Int).toNat-(s239_5:Int).toNat:Nat):Int))with|T'=>(match T',D' ((0:Int)<=s239_7/\s239_7<((((r358_1.length:Int):Int).toNat-(s239_5:Int).toNat:Nat):Int))with|T',T'=>(match T',r239_1[(s239_5:Int).toNat+(s239_7).toNat]? with|T',S' x1=>(match T',D' ((0:Int)<=i64.wrap (s239_7-1)/\i64.wrap (s239_7-1)<((((r358_1.length:Int):Int).toNat-(s239_5:Int).toNat:Nat):Int))with|T',T'=>(match T',r239_1[(s239_5:Int).toNat+(i64.wrap (s239_7-1)).toNat]? with|T',S' x2=>(og (D' (okP 4000 x1/\okP 4000 x2)) (match !(aB (dec x1) (dec x2)==0)with|T'=>(match T',D' ((0:Int)<=s239_7/\s239_7<((((r358_1.length:Int):Int).toNat-(s239_5:Int).toNat:Nat):Int))with|T',T'=>(match T',r239_1[(s239_5:Int).toNat+(s239_7).toNat]? with|T',S' x3=>(match aH r239_1 s239_5v with|S' _=>(match T',r239_1[(s239_5v).toNat]? with|T',S' _=>k 32 (dV c r358_1 s239_5 (i64.wrap (s239_5v+1)) (i64.wrap (s239_7+1)) (r239_1.set ((s239_5v).toNat) x3))|_,_=>N')|N'=>N')|_,_=>N')|_,_=>N')|F'=>k 32 (dV c r358_1 s239_5 s239_5v (i64.wrap (s239_7+1)) r239_1)))|_,_=>N')|_,_=>N')|_,_=>N')|_,_=>N')|F'=>(og (D' ((0:Int)<=s239_5v/\s239_5v<=(r239_1.length:Int)/\(r239_1.length:Int)<=(r239_1.length:Int))) (og (D' ((0:Int)<=0/\0<=s239_5v/\s239_5v<=((jq (Ty.zero tP) ((s239_5v:Int).toNat) (((r239_1.length:Int):Int).toNat-(s239_5v:Int).toNat) r239_1).length:Int))) (S' [RV.d (.sl tP) (((jq (Ty.zero tP) ((s239_5v:Int).toNat) (((r239_1.length:Int):Int).toNat-(s239_5v:Int).toNat) r239_1).drop ((0:Int).toNat)).take ((s239_5v:Int).toNat-(0:Int).toNat))])))
theorem jG(c:BCU)(r358_1:List BP)(s239_5 s239_5v s239_7:Int)(r239_1:List BP):RN iz 32 (dV c r358_1 s239_5 s239_5v s239_7 r239_1) (gh c r358_1 s239_5 s239_5v s239_7 r239_1):=rnX
theorem nP{α:Type}(L:List α)(x:α)(T:List α):(L++x::T)[L.length]?=S' x:=by simp
theorem CL{α:Type}(x y:α)(T:List α):∀L:List α,(L++x::T).set L.length y=L++y::T
 |[]=>rfl
 |a::L=>by simp[CL x y T L]
section
variable (c:BCU) (l:List BP)
def alU(ys:List BP)(r:List RV):Prop:=r=[.new 40 tP ys]\/r=[.d (.sl tP) ys]
abbrev ri(i:Nat)(g:Cfg)(ys:List BP):Prop:=∃r,iz.Runs i g r/\alU ys r
end
section
variable (c:BCU) (l:List BP) (hc:okC 4000 c)
include hc
theorem BE(hl:l.length<=19)(i:Nat)(ys:List BP):∀(L:List BP) (a:BP) (R:List BP),(∀x∈L,okP 4000 x)->okP 4000 a->(L.reverse++a::R).length<=19->i<=19->
  ri 3 (eD c l 0 ((i+1:Nat):Int) ((lz (ltP (dC c)) L a).reverse++R)) ys->ri 15 (gc c l 0 (i:Int) (L.length:Int) (L.reverse++a::R)) ys
 |[],a,R,hL,ha,h19,hi,⟨r,⟨n,hn⟩,hr⟩=>by
  refine⟨r,jJ _ _ _ _ _ _ ⟨n,?_⟩,hr⟩;unfold gg;rw[dF (show ¬((([]:List BP).length:Nat):Int)>0 by simp),aS (by omega)];exact hn
 |b::L,a,R,hL,ha,h19,hi,hnext=>by
  have hb:=hL b (by simp);have hln:L.length<=18:=by simp at h19;omega
  have hrev:(b::L).reverse++a::R=L.reverse++b::a::R:=by simp
  have e1:((b::L).length:Int)=((L.length+1:Nat):Int):=rfl;have ew:i64.wrap (((L.length+1:Nat):Int)-1)=(L.length:Int):=by rw[aM (by omega) (by omega)];omega
  have g1:(L.reverse++b::a::R)[L.length+1]?=S' a:=by
   simp
  have g0:(L.reverse++b::a::R)[L.length]?=S' b:=by
   simp
  have s1:(L.reverse++b::a::R).set (L.length+1) b=L.reverse++b::b::R:=by
   simp
  have s2:(L.reverse++b::b::R).set L.length a=L.reverse++a::b::R:=by
   simp
  have g2:(L.reverse++b::b::R)[L.length]?=S' b:=by
   simp
  have key:∀r n,(match ltP (dC c) a b with
    |true=>iz.k n 15 (gc c l 0 (i:Int) (L.length:Int) (L.reverse++a::b::R))
    |false=>iz.k n 3 (eD c l 0 ((i+1:Nat):Int) (L.reverse++b::a::R)))=some r->
    gg c l 0 (i:Int) ((b::L).length:Int) ((b::L).reverse++a::R) (iz.k n)=S' r:=λr n h=>by
   rw[hrev,e1];unfold gg;rw[dT (show((L.length+1:Nat):Int)>0 by omega),ew,ak,g1,ak,g0,show((L.length+1:Nat):Int).toNat=L.length+1 by omega,show((L.length:Nat):Int).toNat=L.length by omega,g1,g0];dsimp only;rw[dT (show okC 4000 c/\okP 4000 a/\okP 4000 b from⟨hc,ha,hb⟩),s1,ak,g2,s2,aS (by omega)];dsimp only;unfold ltP at h;exact h
  unfold lz at hnext;cases hlt:ltP (dC c) a b
  ·rw[hlt,cond_false]at hnext;obtain⟨r,⟨n,hn⟩,hr⟩:=hnext;refine⟨r,jJ _ _ _ _ _ _ ⟨n,key r n ?_⟩,hr⟩;rw[hlt];simpa using hn
  ·rw[hlt,cond_true]at hnext;obtain⟨r,⟨n,hn⟩,hr⟩:=BE hl i ys L a (b::R) (λx hx=>hL x (ao4 _ hx)) ha (by simp at h19 ⊢;omega) hi (by simpa using hnext);refine⟨r,jJ _ _ _ _ _ _ ⟨n,key r n ?_⟩,hr⟩;rw[hlt];exact hn
theorem BO(hl:l.length<=19)(ys:List BP):∀(R D:List BP),(∀x∈D,okP 4000 x)->(∀x∈R,okP 4000 x)->D.length+R.length=l.length->
  ri 22 (jn c l (R.foldl (lz (ltP (dC c))) D).reverse 20) ys->ri 3 (eD c l 0 (D.length:Int) (D.reverse++R)) ys
 |[],D,hD,hR,hlen,⟨r,⟨n,hn⟩,hr⟩=>by
  refine⟨r,ln _ _ _ _ _ ⟨n,?_⟩,hr⟩;unfold ie;rw[bg (by simp at hlen;omega),apj];exact hn
 |a::R,D,hD,hR,hlen,hnext=>by
  have ha:=hR a (by simp);have hlen':D.length+(R.length+1)=l.length:=hlen
  have h1:=BO hl ys R (lz (ltP (dC c)) D a) (λx hx=>by
   rcases yR.1 hx with e|e
   ·rw[e];exact ha
   ·exact hD x e) (λx hx=>hR x (ao4 _ hx)) (by rw[pu];omega) hnext
  rw[pu]at h1;obtain⟨r,⟨n,hn⟩,hr⟩:=BE c l hc hl D.length ys D a R hD ha (by simp;omega) (by omega) h1;refine⟨r,ln _ _ _ _ _ ⟨n,?_⟩,hr⟩;unfold ie;rw[aO (by omega)];exact hn
omit hc in
theorem vz(r0:List BP)(b:Nat)(h19:r0.length<=19):∀(S K J:List BP) (p:BP),(∀x∈K++(J++p::S),okP 4000 x)->(K++(J++p::S)).length=r0.length->∀k2:Nat,1<=k2->b+k2=K.length+J.length+1->
  ri 32 (dV c r0 (b:Int) (K.length:Int) (k2:Int) (K++(J++p::S))) (K++qI fM p S)
 |[],K,J,p,hok,hlen,k2,h1,hb=>by
  refine⟨_,jG _ _ _ _ _ _ ⟨0,?_⟩,.inr rfl⟩;have hlen':K.length+(J.length+1)=r0.length:=by simpa using hlen
  unfold gh;rw[dF (show ¬(k2:Int)<(((r0.length:Int).toNat-(b:Int).toNat:Nat):Int) by omega)];dsimp only;rw[dT (show(0:Int)<=(K.length:Int)/\(K.length:Int)<=((K++(J++[p])).length:Int)/\((K++(J++[p])).length:Int)<=((K++(J++[p])).length:Int) by rw[hlen];omega)]
  have hcl:((jq (Ty.zero tP) ((K.length:Int).toNat) ((((K++(J++[p])).length:Int)).toNat-(K.length:Int).toNat) (K++(J++[p])))).take K.length=K:=by
   unfold jq;rw[show((K.length:Int)).toNat=K.length by omega,apg,List.take_append_of_le_length (by simp),arJ,Nat.min_self,List.take_left' rfl]
  have hcn:K.length<=(jq (Ty.zero tP) ((K.length:Int).toNat) ((((K++(J++[p])).length:Int)).toNat-(K.length:Int).toNat) (K++(J++[p]))).length:=by
   have:=congrArg List.length hcl;rw[app]at this;omega
  rw[dT (show(0:Int)<=0/\0<=(K.length:Int)/\(K.length:Int)<=((jq (Ty.zero tP) ((K.length:Int).toNat) ((((K++(J++[p])).length:Int)).toNat-(K.length:Int).toNat) (K++(J++[p]))).length:Int) by omega)];rw[show((0:Int)).toNat=0 from rfl,aqB,show((K.length:Int)).toNat-0=K.length by omega,hcl];simp[qI]
 |q::S,K,J,p,hok,hlen,k2,h1,hb=>by
  have hlen':K.length+(J.length+(S.length+1+1))=r0.length:=by simpa using hlen
  have hq:okP 4000 q:=hok q (by simp);have hp:okP 4000 p:=hok p (by simp)
  have g1:(K++(J++p::q::S))[(b:Int).toNat+(k2:Int).toNat]?=S' q:=by
   rw[show(b:Int).toNat+(k2:Int).toNat=(K++(J++[p])).length by simp;omega];simp
  have ew:i64.wrap ((k2:Int)-1)=((k2-1:Nat):Int):=by rw[aM (by omega) (by omega)];omega
  have g0:(K++(J++p::q::S))[(b:Int).toNat+((k2-1:Nat):Int).toNat]?=S' p:=by
   rw[show(b:Int).toNat+((k2-1:Nat):Int).toNat=(K++J).length by simp;omega];simp
  have key:∀r n,(match fM q p with
    |true=>iz.k n 32 (dV c r0 (b:Int) (K.length:Int) ((k2+1:Nat):Int) (K++(J++p::q::S)))
    |false=>iz.k n 32 (dV c r0 (b:Int) ((K.length+1:Nat):Int) ((k2+1:Nat):Int) ((K++(J++p::q::S)).set K.length q)))=some r->
    gh c r0 (b:Int) (K.length:Int) (k2:Int) (K++(J++p::q::S)) (iz.k n)=S' r:=λr n h=>by
   unfold gh;rw[dT (show(k2:Int)<(((r0.length:Int).toNat-(b:Int).toNat:Nat):Int) by omega)];dsimp only;rw[dT (show(0:Int)<=(k2:Int)/\(k2:Int)<(((r0.length:Int).toNat-(b:Int).toNat:Nat):Int) by omega),g1];dsimp only;rw[ew,dT (show(0:Int)<=((k2-1:Nat):Int)/\((k2-1:Nat):Int)<(((r0.length:Int).toNat-(b:Int).toNat:Nat):Int) by omega),g0];dsimp only;rw[dT (show okP 4000 q/\okP 4000 p from⟨hq,hp⟩),aS (k:=k2) (by omega)];unfold fM at h;cases he:aB (dec q) (dec p)==0<;>rw[he]at h
   ·try dsimp only[Bool.not_false]
    have g3:∃y,(K++(J++p::q::S))[K.length]?=S' y:=⟨_,aoO (by simp;omega)⟩
    obtain⟨y,g3⟩:=g3;rw[ak,g3,show((K.length:Int)).toNat=K.length by omega,g3,aS (k:=K.length) (by omega)];exact h
   ·exact h
  have hcm:qI fM p (q::S)=bif fM q p then qI fM q S else q::qI fM q S:=rfl;rw[hcm];cases he:fM q p
  ·have hset:∃J',(K++(J++p::q::S)).set K.length q=(K++[q])++(J'++q::S)/\J'.length=J.length/\∀x∈J',x∈J++[p]:=by
    cases J with
    |nil=>
     refine⟨[],?_,rfl,λx hx=>by cases hx⟩;simp
    |cons h T=>
     refine⟨T++[p],?_,by simp,λx hx=>by simp at hx ⊢;exact .inr hx⟩;simp
   obtain⟨J',e,eJ,mJ⟩:=hset
   obtain⟨r,⟨n,hn⟩,hr⟩:=vz r0 b h19 S (K++[q]) J' q (λx hx=>by
    simp only[ape,ao7,aqw,arN]at hx;rcases hx with(hx|hx)|(hx|hx|hx)
    ·exact hok x (by simp[hx])
    ·rw[hx];exact hq
    ·have:=mJ x hx;simp only[ape,ao7,aqw,arN]at this;rcases this with h|h
     ·exact hok x (by simp[h])
     ·rw[h];exact hp
    ·rw[hx];exact hq
    ·exact hok x (by simp[hx])) (by simp;omega) (k2+1) (by omega) (by simp;omega)
   refine⟨r,jG _ _ _ _ _ _ ⟨n,key r n ?_⟩,?_⟩
   ·rw[he,e];have:(K++[q]).length=K.length+1:=by simp
    rw[this]at hn;exact hn
   ·simpa using hr
  ·have e2:K++(J++p::q::S)=K++((J++[p])++q::S):=by simp
   obtain⟨r,⟨n,hn⟩,hr⟩:=vz r0 b h19 S K (J++[p]) q (e2▸hok) (e2▸hlen) (k2+1) (by omega) (by simp;omega);refine⟨r,jG _ _ _ _ _ _ ⟨n,key r n ?_⟩,hr⟩;rw[he,e2];exact hn
omit hc in
theorem AN:∀(S A:List BP) (p:BP),(∀x∈A++p::S,okP 4000 x)->(A++p::S).length<=19->
  ri 14 (jD c (A++p::S) ((A.length+1:Nat):Int)) (A++p::qI fM p S)
 |[],A,p,hok,h19=>by
  refine⟨_,l8 _ _ _ ⟨0,?_⟩,.inl rfl⟩;unfold iZ;rw[bg (by simp)];rfl
 |q::S,A,p,hok,h19=>by
  have hq:okP 4000 q:=hok q (by simp);have hp:okP 4000 p:=hok p (by simp);have h19':A.length+(S.length+1+1)<=19:=by simpa using h19
  have g1:(A++p::q::S)[A.length+1]?=S' q:=by
   simp
  have g0:(A++p::q::S)[A.length]?=S' p:=nP A p (q::S);have ew:i64.wrap (((A.length+1:Nat):Int)-1)=(A.length:Int):=by rw[aM (by omega) (by omega)];omega
  have key:∀r n,(match fM q p with
    |true=>iz.k n 32 (dV c (A++p::q::S) ((A.length+1:Nat):Int) ((A.length+1:Nat):Int) 1 (A++p::q::S))
    |false=>iz.k n 14 (jD c (A++p::q::S) ((A.length+1+1:Nat):Int)))=some r->
    iZ c (A++p::q::S) ((A.length+1:Nat):Int) (iz.k n)=S' r:=λr n h=>by
   unfold iZ;rw[aO (by simp only[apr,ao8];omega),ak,g1,show((A.length+1:Nat):Int).toNat=A.length+1 by omega,g1];dsimp only;rw[ew,ak,g0,show((A.length:Nat):Int).toNat=A.length by omega,g0];dsimp only;rw[dT (show okP 4000 q/\okP 4000 p from⟨hq,hp⟩),aS (k:=A.length+1) (by omega),dT (show(0:Int)<=((A.length+1:Nat):Int)/\((A.length+1:Nat):Int)<=((A++p::q::S).length:Int)/\((A++p::q::S).length:Int)<=((A++p::q::S).length:Int) by simp;omega)];exact h
  have hcm:qI fM p (q::S)=bif fM q p then qI fM q S else q::qI fM q S:=rfl;have e2:A++p::q::S=(A++[p])++q::S:=by simp
  rw[hcm];cases he:fM q p
  ·obtain⟨r,⟨n,hn⟩,hr⟩:=AN S (A++[p]) q (e2▸hok) (e2▸h19);refine⟨r,l8 _ _ _ ⟨n,key r n ?_⟩,?_⟩
   ·rw[he,e2];have:(A++[p]).length=A.length+1:=by simp
    rw[this]at hn;exact hn
   ·rw[apg]at hr;exact hr
  ·obtain⟨r,⟨n,hn⟩,hr⟩:=vz c (A++p::q::S) (A.length+1) h19 S (A++[p]) [] q (e2▸hok) (by rw[e2];rfl) 1 (aoU _) (by simp);refine⟨r,l8 _ _ _ ⟨n,key r n ?_⟩,?_⟩
   ·rw[he,e2];have:(A++[p]).length=A.length+1:=by simp
    rw[this,e2]at hn;exact hn
   ·rw[apg]at hr;exact hr
theorem XM(hl:l.length<=19)(ho:∀x∈l,okP 4000 x):ri 6 (se c l 0 20 l) (du (dC c) l):=by
 have hlast:∀r:List BP,(∀x∈r,okP 4000 x)->r.length<=19->ri 22 (jn c l r 20) (Ng fM r):=λr hr h19=>by
  cases r with
  |nil=>
   refine⟨_,mj _ _ _ _ ⟨0,?_⟩,.inl rfl⟩;unfold jc;rw[dF (show ¬(20:Int)<(l.length:Int) by omega)];rfl
  |cons p S=>
   cases S with
   |nil=>
    refine⟨_,mj _ _ _ _ ⟨0,?_⟩,.inl rfl⟩;unfold jc;rw[dF (show ¬(20:Int)<(l.length:Int) by omega)];rfl
   |cons q S=>
    obtain⟨r',⟨n,hn⟩,hr'⟩:=AN c (q::S) [] p hr h19;refine⟨r',mj _ _ _ _ ⟨n,?_⟩,hr'⟩;unfold jc;rw[dF (show ¬(20:Int)<(l.length:Int) by omega)];dsimp only;rw[dF (show ¬((p::q::S).length:Int)<2 by simp;omega)];simpa using hn
 have hsort:ri 22 (jn c l (qM (ltP (dC c)) l) 20) (du (dC c) l):=hlast _ (λx hx=>ho x (Fb.1 hx)) (by rw[ED];exact hl)
 have h3:ri 3 (eD c l 0 1 l) (du (dC c) l):=by
  cases l with
  |nil=>
   obtain⟨r,⟨n,hn⟩,hr⟩:=hsort;refine⟨r,ln _ _ _ _ _ ⟨n,?_⟩,hr⟩;unfold ie;rw[dF (show ¬(1:Int)<(([]:List BP).length:Int) by simp)];exact hn
  |cons x l=>
   have:=BO c (x::l) hc hl _ l [x] (λy hy=>ho y (by simp at hy;simp[hy])) (λy hy=>ho y (ao4 _ hy)) (by simp;omega) hsort;simpa using this
 obtain⟨r,⟨n,hn⟩,hr⟩:=h3;refine⟨r,CY _ _ _ _ _ ⟨n,?_⟩,hr⟩;unfold tb;rw[dF (show ¬(20:Int)<=(l.length:Int) by omega),aM (x:=0+1) (by omega) (by omega)];exact hn
end
def Si:Cn 158 [tCU,(.sl tP)]:=cn λ(c:BCU) (l:List BP)=>lf (kG c l) [.d (.sl tP) (du (dC c) l)] λh=>by
 obtain⟨hc,hl,ho⟩:=h;obtain⟨r,⟨n,hn⟩,hr⟩:=XM c l hc hl ho
 have hres:iz.Res 158 [.d tCU c,.d (.sl tP) l] r:=by
  refine alq _ _ ⟨n,?_⟩;unfold acH;rw[dT (show l.length<=100000 by omega)];exact hn
 rcases hr with e|e
 ·rw[e]at hres;exact Con.new_d (et:=40) (aX HM hres)
 ·rw[e]at hres;exact aX HM hres
end
section
def pU(x u y v k:Rat):Pt:=mkP (mkR x u k) (mkR y v k)
def ftL(l c:Ln):Rat×Rat:=(ftX l c,ftY l c)
def Cr(l c:Ln):Rat:=(ftX l c-c.1)*(ftX l c-c.1)+(ftY l c-c.2.1)*(ftY l c-c.2.1)
def fP(l c:Ln):Rat:=(c.2.2-Cr l c)/cD l
def MP(l:Ln):Bool:=D' (l.2.1<0)||(D' (l.2.1=0)&&D' (-l.1<0))
def vg(l:Ln):Rat:=bif MP l then-l.2.1 else l.2.1
def uU(l:Ln):Rat:=bif MP l then- -l.1 else-l.1
def lcM(l c:Ln):Pt:=pU (ftX l c) (-vg l) (ftY l c) (-uU l) (fP l c)
def lcN(l c:Ln):Pt:=pU (ftX l c) (vg l) (ftY l c) (uU l) (fP l c)
def mW(l c:Ln):List Pt:=bif D' (fP l c<0)then []else bif D' (fP l c=0)then [atP (ftL l c)]else [lcM l c,lcN l c]
def TN(l m:Ln):Int:=bif !D' (eK l m=0)then 0 else bif oO l m then 10 else 0
def GO(c d:Ln):List Pt:=bif jF c d then []else mW (pP c d) c
def Xc(c d:Ln):Int:=bif pE c d then 10 else 0
def jY(a b:Cv):List Pt:=bif a.1&&b.1 then GO (ciC a) (ciC b)else bif a.1 then mW (lnC b) (ciC a)else bif b.1 then mW (lnC a) (ciC b)else qJ (lnC a) (lnC b)
def ah5(a b:Cv):Int:=bif a.1&&b.1 then Xc (ciC a) (ciC b)else bif a.1 then 0 else bif b.1 then 0 else TN (lnC a) (lnC b)
def dX(c:Ln):Pt:=pU c.1 (-1) c.2.1 0 c.2.2
def eH(c:Ln):Pt:=pU c.1 1 c.2.1 0 c.2.2
theorem Xo(l c:Ln):Vb l (c.1,c.2.1)=ftL l c:=rfl
theorem Ub{x u y v k:Rat}[h:Nn k]:Rpd (pU x u y v k):=Zi FV FV (sZ _ _ _ _ _)
section
variable {l c:Ln}
theorem ae4 [BdL l]:Bd (vg l) 12/\Bd (uU l) 12:=by
 unfold vg uU;cases MP l
 ·exact⟨(inferInstance:Bd l.2.1 12),(inferInstance:Bd (-l.1) 12)⟩
 ·exact⟨(inferInstance:Bd (-l.2.1) 12),(inferInstance:Bd (- -l.1) 12)⟩
end
theorem P4{x u y v k:Rat}{a b c:Nat}(h1:Bd x a)(h2:Bd u b)(h3:Bd y a)(h4:Bd v b)(h5:Bd k c){n:Nat}(hn:a+(b+c)+1<=n):Bd (pU x u y v k) n:=by
 have z:bdR n 0:=cd tm.le (by omega);have i1:Bd (mkR x u k) (a+(b+c)+1):=inferInstance;have i2:Bd (mkR y v k) (a+(b+c)+1):=inferInstance;have f1:=i1.mono hn;have f2:=i2.mono hn;refine⟨?_⟩;unfold pU mkP rdP;dsimp only;refine⟨f1.le.1,f1.le.2.1,f2.le.1,f2.le.2.1,?_⟩;cases D' ((mkR x u k).2.1=0)&&D' ((mkR y v k).2.1=0)
 ·cases D' ((mkR x u k).2.1=0)
  ·exact f1.le.2.2
  ·exact f2.le.2.2
 ·exact z
section
variable {l c:Ln}
theorem Ru [BdL l][h:BdC c]:Bd (fP l c) 1000:=by
 obtain⟨f1,f2,_,_⟩:=vF (l:=l) (c:=c);have hx:=h.x;have hy:=h.y;have hq:=h.q;have i1:Bd (cD l) 49:=inferInstanceAs (Bd (l.1*l.1+l.2.1*l.2.1) _);have i2:Bd (Cr l c) 673:=(inferInstance:Bd ((ftX l c-c.1)*(ftX l c-c.1)+(ftY l c-c.2.1)*(ftY l c-c.2.1)) _).mono (by decide);exact(inferInstance:Bd ((c.2.2-Cr l c)/cD l) _).mono (by decide)
theorem Ip [BdL l][h:BdC c]:Bd (ftL l c) 163:=by
 obtain⟨f1,f2,_,_⟩:=vF (l:=l) (c:=c);exact(inferInstance:Bd ((ftX l c,ftY l c):Rat×Rat) _).mono (by decide)
theorem aes [BdL l][BdC c]:Bd (lcM l c) 1200/\Bd (lcN l c) 1200:=by
 obtain⟨f1,f2,_,_⟩:=vF (l:=l) (c:=c);obtain⟨d1,d2⟩:=ae4 (l:=l);have k:=Ru (l:=l) (c:=c);have n1:Bd (-vg l) 12:=inferInstance;have n2:Bd (-uU l) 12:=inferInstance;exact⟨P4 f1 n1 f2 n2 k (by decide),P4 f1 d1 f2 d2 k (by decide)⟩
theorem xg [BdL l][BdC c]:(mW l c).length<=2/\∀p∈mW l c,Bd p 1200/\Rpd p:=by
 unfold mW;by_cases h0:fP l c<0
 ·rw[aoP h0];exact⟨by simp,λp hp=>by cases hp⟩
 ·rw[aoR h0];by_cases h1:fP l c=0
  ·rw[aoP h1];have:=Ip (l:=l) (c:=c);refine⟨by simp,λp hp=>?_⟩;have:p=atP (ftL l c):=by simpa using hp
   rw[this];exact⟨(inferInstance:Bd (atP (ftL l c)) _).mono (by decide),inferInstance⟩
  ·rw[aoR h1];obtain⟨q1,q2⟩:=aes (l:=l) (c:=c);have nn:Nn (fP l c):=⟨by grind⟩
   refine⟨by simp,λp hp=>?_⟩;have:p=lcM l c\/p=lcN l c:=by simpa using hp
   rcases this with e|e<;>rw[e]
   ·exact⟨q1,Ub⟩
   ·exact⟨q2,Ub⟩
end
end
namespace RE
end RE
namespace RE
theorem QO{q:Pt}:pX (rdP q)=pX q/\pY (rdP q)=pY q:=by
 unfold rdP pX pY;by_cases h1:q.2.1=0
 ·by_cases h2:q.2.2.2.1=0
  ·rw[aoP h1,aoP h2];dsimp only;rw[h1,h2,eg,eg,eg,eg];exact⟨rfl,rfl⟩
  ·rw[aoR h2,aq7];exact⟨rfl,rfl⟩
 ·rw[aoR h1,ar6];exact⟨rfl,rfl⟩
theorem aj3{x y:Rt}(h:zv x y):pR (mkP x y)=(vR x,vR y):=by
 unfold mkP;refine ar1 (QO.1.trans ?_) (QO.2.trans ?_)
 ·unfold pX vR;dsimp only;by_cases e:x.2.1=0
  ·rw[e,eg,eg]
  ·rw[aoR e];rfl
 ·unfold pY vR;dsimp only;by_cases e:x.2.1=0
  ·rw[aoP e];rfl
  ·rw[aoR e];rcases h with h|h|h
   ·exact absurd h e
   ·rw[h,eg,eg]
   ·rw[cond_false,h]
theorem Y7{m:Rat}(h:0<m):0<rq m:=by
 have:=SK (m:=m) (by grind);rw[dM h]at this;exact aeP.1 this
end RE
section
namespace RE
theorem anR(A B x y u v s:RE):A*(x+u*s)+B*(y+v*s)=(A*x+B*y)+(A*u+B*v)*s:=by grind
theorem anO(x y u v s p q:RE):(x+u*s-p)*(x+u*s-p)+(y+v*s-q)*(y+v*s-q)=((x-p)*(x-p)+(y-q)*(y-q))+((x-p)*u+(y-q)*v)*s+((x-p)*u+(y-q)*v)*s+(u*u+v*v)*(s*s):=by grind
theorem an6(b n r:RE):b*(r*n)=b*n*r:=by grind
theorem an9(r n:RE):r*n*(r*n)=r*r*(n*n):=by grind
theorem aob(x y p q a b m n:RE):(x-a)*(x-a)+(y-b)*(y-b)=((x-p)*(x-p)+(y-q)*(y-q))+(a*a+b*b-m)-(p*p+q*q-n)-((1+1)*(a-p)*x+(1+1)*(b-q)*y)+(m-n):=by grind
theorem aoh(a b n m:RE):n+a-b-(a-b)+(m-n)=m:=by grind
theorem C9(x u y v k:Rat):pR (pU x u y v k)=(v2 x u k,v2 y v k):=by
 unfold pU;rw[aj3 (sZ _ _ _ _ _),vR_mk,vR_mk]
section
variable {l c:Ln}
theorem K1(hl:l.1≠0\/l.2.1≠0):0<cD l:=by
 have h:=pk hl;have h1:0<=cD l:=ag4 (l.1,l.2.1);grind
theorem H4(hl:l.1≠0\/l.2.1≠0):fP l c*(cD l*cD l)=jA l c:=by
 have hn:=pk hl;have t:vlL l c.1 c.2.1/cD l*cD l=vlL l c.1 c.2.1:=aqt hn;have k:(c.2.2-Cr l c)/cD l*cD l=c.2.2-Cr l c:=aqt hn;unfold fP;rw[<-Rat.mul_assoc,k];unfold Cr ftX ftY jA;generalize vlL l c.1 c.2.1/cD l=s at*
 rw[<-t];unfold cD;grind
theorem ad0(hl:l.1≠0\/l.2.1≠0):(fP l c<0↔jA l c<0)/\(fP l c=0↔jA l c=0):=by
 have hn:=K1 hl;have h2:0<cD l*cD l:=apK hn hn;have e:=H4 (c:=c) hl;rcases(by grind:fP l c<0\/fP l c=0\/0<fP l c)with h|h|h
 ·have:=apK (show 0< -fP l c by grind) h2;have e2: -fP l c*(cD l*cD l)= -jA l c:=by rw[Rat.neg_mul,e]
  rw[e2]at this;constructor<;>constructor<;>intro<;>grind
 ·rw[h,arV]at e;constructor<;>constructor<;>intro<;>grind
 ·have:=apK h h2;rw[e]at this;constructor<;>constructor<;>intro<;>grind
theorem aho(hl:l.1≠0\/l.2.1≠0)(h0:0<=fP l c):rq (jA l c)=rq (fP l c)*of (cD l):=by
 have hn:=K1 hl
 have hr:0<=jA l c:=by
  rw[<-H4 hl];exact apH h0 (apH (by grind) (by grind))
 refine acx _ _ (Qm _) (cq (Qm _) (oA.2 (by grind))) ?_;rw[an9,qV hr,qV h0,<-bR,<-bR,H4 hl]
theorem Cy(hl:l.1≠0\/l.2.1≠0)(h0:0<=fP l c)(a b:Rat):v2 a b (fP l c)=v2 a (b/cD l) (jA l c):=by
 unfold v2;rw[aho hl h0,an6,<-bR,aqt (pk hl)]
theorem ndv(a b:Rat): -a/b= -(a/b):=by rw[Rat.div_def,Rat.div_def,Rat.neg_mul]
theorem aot(hl:l.1≠0\/l.2.1≠0)(v:PE):(∃p∈mW l c,pR p=v)↔∃p∈sA l c,pR p=v:=by
 obtain⟨s1,s2⟩:=ad0 (c:=c) hl;unfold mW sA;by_cases h0:fP l c<0
 ·rw[aoP h0,aoP (s1.1 h0)];exact Iff.rfl
 ·rw[aoR h0,aoR (λh=>h0 (s1.2 h))];by_cases h1:fP l c=0
  ·rw[aoP h1,aoP (s2.1 h1)];exact Iff.rfl
  ·rw[aoR h1,aoR (λh=>h1 (s2.2 h))];have hp:0<=fP l c:=by grind
   have e:(pR (lcM l c)=pR (tk l c)/\pR (lcN l c)=pR (uo l c))\/(pR (lcM l c)=pR (uo l c)/\pR (lcN l c)=pR (tk l c)):=by
    unfold lcM lcN tk uo;rw[C9,C9,lW,lW,Cy hl hp,Cy hl hp,Cy hl hp,Cy hl hp];unfold vg uU;cases MP l
    ·left;simp only[cond_false,ndv,Rat.neg_neg,and_self]
    ·right;simp only[cond_true,ndv,Rat.neg_neg,and_self]
   have m2:∀{a b:Pt},(∃p∈[a,b],pR p=v)↔(pR a=v\/pR b=v):=λ{a b}=>by simp
   simp only[cond_false];cases D' (aB (tk l c) (uo l c)>0)
   ·simp only[cond_false];rw[m2,m2];rcases e with⟨e1,e2⟩|⟨e1,e2⟩<;>rw[e1,e2];exact Or.comm
   ·simp only[cond_true];rw[m2,m2];rcases e with⟨e1,e2⟩|⟨e1,e2⟩<;>rw[e1,e2];exact Or.comm
theorem Hn(hl:l.1≠0\/l.2.1≠0){u v k:Rat}(hk:0<=k)(h1:l.1*u+l.2.1*v=0)(h2:Cr l c+(u*u+v*v)*k=c.2.2):t9 l (v2 (ftX l c) u k,v2 (ftY l c) v k)/\Ai c (v2 (ftX l c) u k,v2 (ftY l c) v k):=by
 have hn:=pk hl;have t:vlL l c.1 c.2.1/cD l*cD l=vlL l c.1 c.2.1:=aqt hn
 have e1:l.1*ftX l c+l.2.1*ftY l c=l.2.2:=by
  unfold ftX ftY;generalize vlL l c.1 c.2.1/cD l=s at*
  unfold cD vlL at t;grind
 have e3:(ftX l c-c.1)*u+(ftY l c-c.2.1)*v=0:=by
  unfold ftX ftY;generalize vlL l c.1 c.2.1/cD l=s at*
  have:(c.1-s*l.1-c.1)*u+(c.2.1-s*l.2.1-c.2.1)*v= -s*(l.1*u+l.2.1*v):=by grind
  rw[this,h1,Rat.mul_zero]
 unfold t9 Ai frm v2;dsimp only;constructor
 ·rw[anR,<-bR,<-bR,<-bR,<-bR,<-of_add,<-of_add,e1,h1,sN,zero_mul,add_zero]
 ·rw[anO,qV hk,<-of_sub,<-of_sub,<-bR,<-bR,<-bR,<-bR,<-bR,<-bR,<-of_add,<-of_add,<-of_add,e3,sN,zero_mul,add_zero,add_zero,<-bR,<-of_add];exact congrArg of h2
theorem aef(_hl:l.1≠0\/l.2.1≠0):l.1*vg l+l.2.1*uU l=0/\vg l*vg l+uU l*uU l=cD l:=by
 unfold vg uU cD;cases MP l
 ·simp only[cond_false];constructor<;>grind
 ·simp only[cond_true];constructor<;>grind
theorem Q6(hl:l.1≠0\/l.2.1≠0){p:Pt}(hp:p∈mW l c):t9 l (pR p)/\Ai c (pR p):=by
 have hn:=pk hl;have k:fP l c*cD l=c.2.2-Cr l c:=aqt hn;obtain⟨d1,d2⟩:=aef hl;unfold mW at hp;by_cases h0:fP l c<0
 ·rw[aoP h0]at hp;cases hp
 ·rw[aoR h0]at hp;by_cases h1:fP l c=0
  ·rw[aoP h1]at hp;have:p=atP (ftL l c):=by simpa using hp
   rw[this,Bh];have:=Hn (c:=c) (u:=0) (v:=0) (k:=0) hl (by decide) (by grind) (by rw[h1]at k;grind);rw[eg,eg]at this;exact this
  ·rw[aoR h1]at hp;have hk:0<=fP l c:=by grind
   have:p=lcM l c\/p=lcN l c:=by simpa using hp
   rcases this with e|e
   ·rw[e];unfold lcM;rw[C9];refine Hn hl hk (by grind) ?_;rw[show-vg l* -vg l+ -uU l* -uU l=cD l by rw[<-d2];grind,aqp,k];grind
   ·rw[e];unfold lcN;rw[C9];refine Hn hl hk d1 ?_;rw[d2,aqp,k];grind
end
theorem ahg{c d:Ln}{v:PE}(hl:t9 (pP c d) v)(hc:Ai c v):Ai d v:=by
 unfold t9 pP rC at hl;unfold Ai frm at*
 dsimp only at*
 have o2:of 2=1+1:=by
  rw[<-U2,<-of_add];exact congrArg of (by decide+kernel)
 rw[aob v.1 v.2 (of c.1) (of c.2.1) (of d.1) (of d.2.1) (of d.2.2) (of c.2.2),hc];simp only[of_sub,bR,of_add,o2]at hl;rw[hl,aoh]
theorem afQ{l m:Ln}{p:Pt}(hp:p∈qJ l m):t9 l (pR p)/\t9 m (pR p):=by
 unfold qJ at hp;by_cases h0:eK l m=0
 ·rw[aoP h0]at hp;cases hp
 ·rw[aoR h0]at hp;have:p=atP (pJ l m/eK l m,oY l m/eK l m):=by simpa using hp
  rw[this,Bh];have ex:pJ l m/eK l m*eK l m=pJ l m:=aqt h0;have ey:oY l m/eK l m*eK l m=oY l m:=aqt h0
  have key:∀a b q:Rat,a*pJ l m+b*oY l m=q*eK l m->a*(pJ l m/eK l m)+b*(oY l m/eK l m)=q:=λa b q e=>by
   generalize pJ l m/eK l m=x at*
   generalize oY l m/eK l m=y at*
   rw[<-ex,<-ey]at e;have:(a*x+b*y-q)*eK l m=0:=by grind
   rcases ar2.1 this with h|h
   ·grind
   ·exact absurd h h0
  unfold t9;rw[<-bR,<-bR,<-of_add,<-bR,<-bR,<-of_add,key l.1 l.2.1 l.2.2 (by unfold pJ oY eK;grind),key m.1 m.2.1 m.2.2 (by unfold pJ oY eK;grind)];exact⟨rfl,rfl⟩
end RE
end
namespace RE
theorem ff{c:Cv}{p:Pt}[Rpd p]:dv c p=T'↔bif c.1 then Ai (ciC c) (pR p)else t9 (lnC c) (pR p):=by
 unfold dv;cases c.1
 ·exact Lw
 ·exact Cg
theorem vw{q:Rat}(hq:q≠0){x y:RE}(h:of q*x=of q*y):x=y:=by
 have e:∀z:RE,of q⁻¹*(of q*z)=z:=λz=>by
  rw[<-mul_assoc,<-bR,Rat.inv_mul_cancel _ hq,U2,one_mul]
 rw[<-e x,h,e y]
theorem anC(a p q x y:RE):a*(p*x+q*y)=p*(a*x)+a*q*y:=by grind
theorem anM(p a b x y:RE):p*(a*x+b*y)=p*(a*x)+b*p*y:=by grind
theorem anW(b p q x y:RE):b*(p*x+q*y)=b*p*x+q*(b*y):=by grind
theorem anA(q a b x y:RE):q*(a*x+b*y)=a*q*x+q*(b*y):=by grind
theorem agk{l m:Ln}(hl:l.1≠0\/l.2.1≠0)(h:oO l m=T'){v:PE}(hv:t9 l v):t9 m v:=by
 unfold oO at h;obtain⟨h1,h23⟩:=ao9.1 h;obtain⟨h2,h3⟩:=ao9.1 h23;have h1:=aoQ h1;have h2:=aoQ h2;have h3:=aoQ h3;unfold t9 at*
 rcases hl with ha|hb
 ·refine vw ha ?_;rw[anC,<-bR l.1 m.2.1,h1,bR,<-anM,hv,<-bR,<-bR,h2,aqp]
 ·refine vw hb ?_;rw[anW,<-bR l.2.1 m.1,<-h1,bR,<-anA,hv,<-bR,<-bR,h3,aqp]
theorem Wy{l m:Ln}(h:oO l m=T'):oO m l=true:=by
 unfold oO at*
 obtain⟨h1,h23⟩:=ao9.1 h;obtain⟨h2,h3⟩:=ao9.1 h23;have h1:=aoQ h1;have h2:=aoQ h2;have h3:=aoQ h3;rw[dT (show m.1*l.2.1=m.2.1*l.1 by grind),dT (show m.1*l.2.2=m.2.2*l.1 by grind),dT (show m.2.1*l.2.2=m.2.2*l.2.1 by grind)];rfl
theorem af5{c d:Ln}(h:pE c d=T'):c=d:=by
 unfold pE at h;obtain⟨h1,h23⟩:=ao9.1 h;obtain⟨h2,h3⟩:=ao9.1 h23;exact ar1 (aoQ h1) (ar1 (aoQ h2) (aoQ h3))
theorem yZ{c d:Cv}(h:cG c d=T'):c.1=d.1:=by
 unfold cG at h;cases e:c.1==d.1
 ·rw[e]at h;cases h
 ·exact apw.1 e
theorem IV{c d:Cv}(h:cG c d=T')(ha:c.1=T'):ciC c=ciC d:=by
 have e:=yZ h;unfold cG at h;rw[<-e,ha]at h;exact af5 h
theorem UM{c d:Cv}(h:cG c d=T')(ha:c.1=F'):oO (lnC c) (lnC d)=true:=by
 have e:=yZ h;unfold cG at h;rw[<-e,ha]at h;exact h
theorem Wz{c d:Cv}(h:cG c d=T'):cG d c=true:=by
 have e:=yZ h;unfold cG;rw[<-e,aqM,cond_true];cases ha:c.1
 ·exact Wy (UM h ha)
 ·rw[cond_true,IV h ha];unfold pE;rw[dT rfl,dT rfl,dT rfl];rfl
theorem XY{c d:Cv}(hc:Crp c)(h:cG c d=T'){p:Pt}[Rpd p](hp:dv c p=T'):dv d p=true:=by
 have e:=yZ h;rw[ff]at*
 rw[<-e];cases ha:c.1
 ·rw[ha,cond_false]at hp;exact agk (hc.l ha) (UM h ha) hp
 ·rw[ha,cond_true]at hp;rw[cond_true,<-IV h ha];exact hp
end RE
theorem sO{c:Cv}(h:Crp c){p q r:Pt}(hp:Sp c p)(hq:Sp c q)(hr:Sp c r)(e:aB p q=0):ck c p r=ck c q r/\ck c r p=ck c r q:=by
 obtain⟨K,lt,κ,f,hl,hc,ho,hk⟩:=Cf h;have ek:=(hk p q hp hq).2 e;rw[ho p r hp hr,ho q r hq hr,ho r p hr hp,ho r q hr hq,ek];exact⟨rfl,rfl⟩
theorem Ot{p:Pt}(_h:Rpd p):aB p p=0:=RE.cmpP_0.2 rfl
theorem TS{p q:Pt}[Rpd p][Rpd q](e:aB p q=0):aB q p=0:=RE.cmpP_0.2 (RE.cmpP_0.1 e).symm
theorem Gr{c:Cv}{x:BP}(hx:Rpd (dec x)):∀{r:List BP},∃y∈fZ c r x,aB (dec y) (dec x)=0
 |[]=>⟨x,by simp[fZ],RE.cmpP_0.2 rfl⟩
 |z::r=>by
  simp only[fZ];cases D' (ck c (dec z) (dec x)<0)
  ·cases hz:aB (dec z) (dec x)==0
   ·exact⟨x,by simp,RE.cmpP_0.2 rfl⟩
   ·exact⟨z,by simp,apw.1 hz⟩
  ·obtain⟨y,hy,e⟩:=Gr (c:=c) hx (r:=r);exact⟨y,ao4 _ hy,e⟩
theorem EL{c:Cv}{x:BP}(hx:Rpd (dec x)):∀{l r:List BP},x∈l->∃y∈l.foldl (fZ c) r,aB (dec y) (dec x)=0
 |[],_,h=>by cases h
 |z::l,r,h=>by
  rw[aq9];rcases ao7.1 h with e|e
  ·obtain⟨y,hy,e2⟩:=Gr (c:=c) hx (r:=r);exact⟨y,Gq (by rw[<-e];exact hy),e2⟩
  ·exact EL hx e
theorem RK{c:Cv}{x:BP}{l:List BP}(hx:Rpd (dec x))(h:x∈l):∃y∈gU c l,aB (dec y) (dec x)=0:=EL hx h
section
def Ca(c d:BCU):List BP:=bif cG (dC c) (dC d)then [c.2.2.2.2.1,c.2.2.2.2.2,d.2.2.2.2.1,d.2.2.2.2.2]else(jY (dC c) (dC d)).map enc
def iv(c d:BCU)(p:BP):Bool:=ll (dC c) (dec p)&&ll (dC d) (dec p)
def mc(c d:BCU):List BP:=du (dC c) ((Ca c d).filter (iv c d))
theorem Dl{c:BCU}(h:DH c):(c.1=T'->BdC (ciC (dC c))/\0<(ciC (dC c)).2.2)/\(c.1=F'->BdL (lnC (dC c))/\((lnC (dC c)).1≠0\/(lnC (dC c)).2.1≠0)):=by
 refine⟨λe=>?_,λe=>?_⟩
 ·obtain⟨l,e1,bl,nl⟩:=b8 (h.1 e);show BdC (dec c.2.2.1)/\_;rw[show ciC (dC c)=dec c.2.2.1 from rfl,e1,ao];exact⟨bl,nl⟩
 ·obtain⟨l,e1,bl,nl⟩:=dL (h.2 e);show BdL (dec c.2.1)/\_;rw[show lnC (dC c)=dec c.2.1 from rfl,e1,ao];exact⟨bl,nl⟩
namespace RE
theorem supM_on{c d:BCU}(hc:DH c)(hd:DH d){p:Pt}(hp:p∈jY (dC c) (dC d)):Bd p 1200/\Rpd p/\dv (dC c) p=T'/\dv (dC d) p=true:=by
 obtain⟨c1,c2⟩:=Dl hc;obtain⟨d1,d2⟩:=Dl hd;have ec:(dC c).1=c.1:=rfl;have ed:(dC d).1=d.1:=rfl;unfold jY at hp;rw[ec,ed]at hp;cases ha:c.1<;>cases hb:d.1<;>rw[ha,hb]at hp
 ·have i1:=(c2 ha).1;have i2:=(d2 hb).1;have hp:p∈qJ (lnC (dC c)) (lnC (dC d)):=hp;obtain⟨b,r⟩:=Ct.2 p hp;obtain⟨o1,o2⟩:=afQ hp;refine⟨b.mono (by decide),r,?_,?_⟩
  ·rw[ff,ec,ha];exact o1
  ·rw[ff,ed,hb];exact o2
 ·have i1:=(c2 ha).1;have i2:=(d1 hb).1;have hp:p∈mW (lnC (dC c)) (ciC (dC d)):=hp;obtain⟨b,r⟩:=xg.2 p hp;obtain⟨o1,o2⟩:=Q6 (c2 ha).2 hp;refine⟨b,r,?_,?_⟩
  ·rw[ff,ec,ha];exact o1
  ·rw[ff,ed,hb];exact o2
 ·have i1:=(c1 ha).1;have i2:=(d2 hb).1;have hp:p∈mW (lnC (dC d)) (ciC (dC c)):=hp;obtain⟨b,r⟩:=xg.2 p hp;obtain⟨o1,o2⟩:=Q6 (d2 hb).2 hp;refine⟨b,r,?_,?_⟩
  ·rw[ff,ec,ha];exact o2
  ·rw[ff,ed,hb];exact o1
 ·have i1:=(c1 ha).1;have i2:=(d1 hb).1;have hp:p∈GO (ciC (dC c)) (ciC (dC d)):=hp;unfold GO at hp;cases hq:jF (ciC (dC c)) (ciC (dC d))<;>rw[hq]at hp
  ·have i3:BdL (pP (ciC (dC c)) (ciC (dC d))):=B3;obtain⟨b,r⟩:=xg.2 p hp;obtain⟨o1,o2⟩:=Q6 (HL hq) hp;refine⟨b,r,?_,?_⟩
   ·rw[ff,ec,ha];exact o2
   ·rw[ff,ed,hb];exact ahg o1 o2
  ·cases hp
end RE
open RE
theorem gdN.crp{c:BCU}(h:gdN c):Crp (dC c):=fG h.gd
theorem gdN.ne{c:BCU}(h:gdN c):aB (frC (dC c)) (toC (dC c))≠0:=h.2.2.2
theorem gdN.fr{c:BCU}(h:gdN c):okP 580 c.2.2.2.2.1:=h.1.1.2.2.1
theorem gdN.to{c:BCU}(h:gdN c):okP 580 c.2.2.2.2.2:=h.1.1.2.2.2
end
end Go.Proofs.YtoimchcjhdcdmaaGreat
end
