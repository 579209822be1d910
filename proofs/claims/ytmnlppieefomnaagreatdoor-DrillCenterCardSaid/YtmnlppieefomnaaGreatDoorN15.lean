/- Common points of curves: the reference's contract of Meet. -/
import Derived.Test.YtmnlppieefomnaaGreatDoorN14
import Derived.Test.YtmnlppieefomnaaGreatDoorN13
noncomputable section
namespace Go.Proofs.YtmnlppieefomnaaGreatDoor
open Go.RowKit Go.IntKind
theorem aob:type_of% @decide_eq_true_iff:=@decide_eq_true_iff
theorem aof:type_of% @List.filter_cons:=@List.filter_cons
theorem ao3:type_of% @List.filter_nil:=@List.filter_nil
def mI(c d:BCU)(p:BP):Bool:=onR (dC c) (dec p)&&onR (dC d) (dec p)
theorem Fx(c d:BCU)(h:fU c d)(L:List BP)(hL:(vP (dC c) (dC d)).map enc=L)(h4:L.length<=4)(ho:∀x∈L,okP 580 x):∀(j i:Nat),i+j=L.length->∀r3:List BP,r3.length<=i->(∀x∈r3,okP 580 x)->
  tb.Runs 18 (qj c d (i:Int) r3) [.d (.sl tP) (gu (dC c) (r3++(L.drop i).filter (mI c d))),.d .bool (cf (dC c) (dC d)&&C3 (dC (zy c d)) (gu (dC c) (r3++(L.drop i).filter (mI c d))))]:=by
 intro j;induction j with
 |zero=>
  intro i hi r3 hr h3;obtain⟨n,hn⟩:=IB c d h r3 (by omega) h3;refine vo _ _ _ _ ⟨n,?_⟩;have hd:L.drop i=[]:=List.drop_eq_nil_iff.2 (by omega);rw[hd,ao3,amO,<-hn];unfold p7;rw[hL,aX (by omega)];have hs:zh c r3:=⟨bh h.1.1 (by decide) (by decide),by omega,λx hx=>aV (h3 x hx) (by decide) (by decide)⟩
  have o1:decide (okP 4000 c.2.2.2.2.1/\okP 4000 c.2.2.2.2.2)=true:=amh ⟨aV h.1.1.2.2.1 (by decide) (by decide),aV h.1.1.2.2.2 (by decide) (by decide)⟩;have o2:decide (okP 4000 d.2.2.2.2.1/\okP 4000 d.2.2.2.2.2)=true:=amh ⟨aV h.2.1.2.2.1 (by decide) (by decide),aV h.2.1.2.2.2 (by decide) (by decide)⟩;rw[dT hs,o1,o2];dsimp only;unfold zy V3 bne;simp only[aQ];cases c.1<;>cases d.1<;>cases(c.2.2.2.1==d.2.2.2.1)<;>cases(aB (dec c.2.2.2.2.1) (dec c.2.2.2.2.2)==aB (dec d.2.2.2.2.1) (dec d.2.2.2.2.2))<;>rfl
 |succ j ih=>
  intro i hi r3 hr h3;have hil:i<L.length:=by omega
  have e2:i64.wrap ((i:Int)+1)=((i+1:Nat):Int):=aT (by omega);have g2:aH L (i:Int)=some L[i]:=by rw[ai,amg hil]
  have g3:L[((i:Int)).toNat]?=some L[i]:=by rw[show((i:Int)).toNat=i by omega,amg hil]
  have hx:=ho _ (ams hil);have hd:L.drop i=L[i]::L.drop (i+1):=amz hil;have ox:=aV (k:=3500) hx (by decide) (by decide);have o1:decide (okC 3500 c/\okP 3500 L[i])=true:=amh ⟨bh h.1.1 (by decide) (by decide),ox⟩;have o2:decide (okC 3500 d/\okP 3500 L[i])=true:=amh ⟨bh h.2.1 (by decide) (by decide),ox⟩
  have hf:(L.drop i).filter (mI c d)=bif mI c d L[i]then L[i]::(L.drop (i+1)).filter (mI c d)else(L.drop (i+1)).filter (mI c d):=by
   rw[hd,aof];cases mI c d L[i]<;>rfl
  cases hb:mI c d L[i]
  ·rw[hb]at hf;obtain⟨n,hn⟩:=ih (i+1) (by omega) r3 (by omega) h3;refine vo _ _ _ _ ⟨n,?_⟩;rw[hf];dsimp only[cond_false];rw[<-hn];unfold mI at hb;unfold p7;rw[hL,aK hil,g2,e2];dsimp only;try rw[g3]
   try dsimp only
   rw[o1,o2];cases h1:onR (dC c) (dec L[i])
   ·rfl
   ·rw[h1,anP]at hb;rw[hb]
  ·rw[hb]at hf
   obtain⟨n,hn⟩:=ih (i+1) (by omega) (r3++[L[i]]) (by simp;omega) (λx hx'=>by
    rcases amG.1 hx' with h'|h'
    ·exact h3 x h'
    ·have:x=L[i]:=by simpa using h'
     rw[this];exact hx)
   refine vo _ _ _ _ ⟨n,?_⟩;rw[hf];dsimp only[cond_true];rw[amH]at hn;refine Eq.trans ?_ hn;unfold mI at hb;obtain⟨h1,h2⟩:=amA.1 hb;unfold p7;rw[hL,aK hil,g2,e2];dsimp only;try rw[g3]
   try dsimp only
   rw[o1,o2,h1,h2];dsimp only;rw[dT (by simp;omega)]
theorem BX(c d:BCU)(h:fU c d)(L:List BP)(hL:[c.2.2.2.2.1,c.2.2.2.2.2,d.2.2.2.2.1,d.2.2.2.2.2]=L)(h4:L.length<=4)(ho:∀x∈L,okP 580 x):∀(j i:Nat),i+j=L.length->∀r3:List BP,r3.length<=i->(∀x∈r3,okP 580 x)->
  tb.Runs 18 (ke c d (i:Int) r3) [.d (.sl tP) (gu (dC c) (r3++(L.drop i).filter (mI c d))),.d .bool (cf (dC c) (dC d)&&C3 (dC (zy c d)) (gu (dC c) (r3++(L.drop i).filter (mI c d))))]:=by
 intro j;induction j with
 |zero=>
  intro i hi r3 hr h3;obtain⟨n,hn⟩:=IB c d h r3 (by omega) h3;refine oY _ _ _ _ ⟨n,?_⟩;have hd:L.drop i=[]:=List.drop_eq_nil_iff.2 (by omega);rw[hd,ao3,amO,<-hn];unfold lF;rw[hL,aX (by omega)];have hs:zh c r3:=⟨bh h.1.1 (by decide) (by decide),by omega,λx hx=>aV (h3 x hx) (by decide) (by decide)⟩
  have o1:decide (okP 4000 c.2.2.2.2.1/\okP 4000 c.2.2.2.2.2)=true:=amh ⟨aV h.1.1.2.2.1 (by decide) (by decide),aV h.1.1.2.2.2 (by decide) (by decide)⟩;have o2:decide (okP 4000 d.2.2.2.2.1/\okP 4000 d.2.2.2.2.2)=true:=amh ⟨aV h.2.1.2.2.1 (by decide) (by decide),aV h.2.1.2.2.2 (by decide) (by decide)⟩;rw[dT hs,o1,o2];dsimp only;unfold zy V3 bne;simp only[aQ];cases c.1<;>cases d.1<;>cases(c.2.2.2.1==d.2.2.2.1)<;>cases(aB (dec c.2.2.2.2.1) (dec c.2.2.2.2.2)==aB (dec d.2.2.2.2.1) (dec d.2.2.2.2.2))<;>rfl
 |succ j ih=>
  intro i hi r3 hr h3;have hil:i<L.length:=by omega
  have e2:i64.wrap ((i:Int)+1)=((i+1:Nat):Int):=aT (by omega);have g2:aH L (i:Int)=some L[i]:=by rw[ai,amg hil]
  have g3:L[((i:Int)).toNat]?=some L[i]:=by rw[show((i:Int)).toNat=i by omega,amg hil]
  have hx:=ho _ (ams hil);have hd:L.drop i=L[i]::L.drop (i+1):=amz hil;have ox:=aV (k:=3500) hx (by decide) (by decide);have o1:decide (okC 3500 c/\okP 3500 L[i])=true:=amh ⟨bh h.1.1 (by decide) (by decide),ox⟩;have o2:decide (okC 3500 d/\okP 3500 L[i])=true:=amh ⟨bh h.2.1 (by decide) (by decide),ox⟩
  have hf:(L.drop i).filter (mI c d)=bif mI c d L[i]then L[i]::(L.drop (i+1)).filter (mI c d)else(L.drop (i+1)).filter (mI c d):=by
   rw[hd,aof];cases mI c d L[i]<;>rfl
  cases hb:mI c d L[i]
  ·rw[hb]at hf;obtain⟨n,hn⟩:=ih (i+1) (by omega) r3 (by omega) h3;refine oY _ _ _ _ ⟨n,?_⟩;rw[hf];dsimp only[cond_false];rw[<-hn];unfold mI at hb;unfold lF;rw[hL,aK hil,g2,e2];dsimp only;try rw[g3]
   try dsimp only
   rw[o1,o2];cases h1:onR (dC c) (dec L[i])
   ·rfl
   ·rw[h1,anP]at hb;rw[hb]
  ·rw[hb]at hf
   obtain⟨n,hn⟩:=ih (i+1) (by omega) (r3++[L[i]]) (by simp;omega) (λx hx'=>by
    rcases amG.1 hx' with h'|h'
    ·exact h3 x h'
    ·have:x=L[i]:=by simpa using h'
     rw[this];exact hx)
   refine oY _ _ _ _ ⟨n,?_⟩;rw[hf];dsimp only[cond_true];rw[amH]at hn;refine Eq.trans ?_ hn;unfold mI at hb;obtain⟨h1,h2⟩:=amA.1 hb;unfold lF;rw[hL,aK hil,g2,e2];dsimp only;try rw[g3]
   try dsimp only
   rw[o1,o2,h1,h2];dsimp only;rw[dT (by simp;omega)]
def aap:Cn 79 [tCU,tCU]:=cn λ(c d:BCU)=>lf (fU c d) [.d (.sl tP) (mp c d),.d .bool (agN c d)] λh=>by
 obtain⟨h4,ho⟩:=IC h;have hsp:fa c d:=⟨h.1.2,h.2.2⟩
 refine a8 W3 (show tb.Res _ _ _ from ?_);unfold BA at h4 ho;unfold mp agN mp UW BA;cases hs:cf (dC c) (dC d)
 ·rw[hs]at h4 ho;obtain⟨n,hn⟩:=Fx c d h _ rfl h4 ho _ 0 (amx _) [] (amm _) (λx hx=>by cases hx);refine Zb _ _ ⟨n,?_⟩;unfold Mw;rw[dT hsp,hs];rw[hs]at hn;exact hn
 ·rw[hs]at h4 ho;obtain⟨n,hn⟩:=BX c d h _ rfl h4 ho _ 0 (amx _) [] (amm _) (λx hx=>by cases hx);refine Zb _ _ ⟨n,?_⟩;unfold Mw;rw[dT hsp,hs];rw[hs]at hn;exact hn
def i8P(n:Int):Prop:= -128<=n/\n<=127
instance (n:Int):Decidable (i8P n):=by unfold i8P;infer_instance
def u8P(n:Int):Prop:=0<=n/\n<=255
instance (n:Int):Decidable (u8P n):=by unfold u8P;infer_instance
def atQ(n u:Int):Rat:=Rat.divInt n (u%4+1)
def vT(c:BO3):List BCU:=[(true,o00,c,false,enc (cd (dec c)),enc (bZ (dec c))),(true,o00,c,false,enc (bZ (dec c)),enc (cd (dec c)))]
theorem Ym{n u:Int}(h:i8P n)(_h':u8P u):Bb (atQ n u) 7 2:=by
 unfold atQ;obtain⟨h1,h2⟩:=h;exact Vo (by omega) (by show n.natAbs<=128;omega) (by show(u%4+1).natAbs<=4;omega)
theorem Con.dd{P:Program}{f:Nat}{args:List SV}{et:TypeId}{e:Ty}{xs:List e.D}{r:RV}(h:Con P f args [r])(hr:r=.new et e xs\/r=.d (.sl e) xs):Con P f args [.d (.sl e) xs]:=by
 rcases hr with rfl|rfl
 ·exact Con.new_d h
 ·exact h
def Z1:List En:=[enL Qk,enL Qb,enT l9,enL PN]
def agZ:Ctx:=CX (ens Z1) []
def WW(c:BO3)(_k:KT):OLR:=og (decide (bi c)) (some [RV.new 75 tCU ([(true,((((false,[]),(false,[])),(((false,[]),(false,[])),((false,[]),(false,[])))),(c,(false,(hid (enc (cd (dec c))),hid (enc (bZ (dec c)))))))),(true,((((false,[]),(false,[])),(((false,[]),(false,[])),((false,[]),(false,[])))),(c,(false,(hid (enc (bZ (dec c))),hid (enc (cd (dec c))))))))])])
theorem ag5(c:BO3):RS agZ 44 [.d tO c] (WW c):=rsX
def Xu:Cn 44 [tO]:=cn λ(c:BO3)=>lf (bi c) [.d (.sl tCU) (vT c)] λh=>by
 refine Con.new_d (et:=75) (a8 Z1 (ag5 _ ⟨0,?_⟩));unfold WW;rw[dT h];simp only[aQ];rfl
instance ajK:Bd (-1:Rat) 3:=dZ (n:= -1) (by decide)
theorem RK{v:Rat×Rat}{j k:Nat}[h:Bd v j](hj:mx j (mx 1 (mx j (mx 1 1)))<=k)(hk:k<=480000):okP k (enc (atP v)):=amj (aU (x:=atP v) hj hk)
section
namespace RE
theorem cmpP_0{p q:Pt}[Rpd p][Rpd q]:aB p q=0↔pR p=pR q:=by
 rw[gT];obtain⟨h1,h2,h3⟩:=fh (pR p) (pR q);rcases gv.tri (pR p) (pR q)with h|h|h
 ·rw[h1 h];exact⟨λe=>absurd e (by decide),λe=>absurd h (by rw[e];exact gv.irr _)⟩
 ·exact⟨λ_=>h,λ_=>h2 h⟩
 ·rw[h3 h];exact⟨λe=>absurd e (by decide),λe=>absurd h (by rw[e];exact gv.irr _)⟩
theorem Ai(v:Rat×Rat):pR (atP v)=(of v.1,of v.2):=apB (agl v) (agm v)
theorem N7{ax bx c:Rat}(h:dP c=true):of (ax+bx*rtQ c)=v2 ax bx c:=by
 unfold v2;rw[of_add,bO,SW h]
theorem lZ(ax bx ay b_ c:Rat):pR (l7 ax bx ay b_ c)=(v2 ax bx c,v2 ay b_ c):=by
 unfold l7;cases h:dP c
 ·rfl
 ·exact(Ai _).trans (apB (N7 h) (N7 h))
theorem ad5(a b r:RE):(a+ -1*r-a)*(a+ -1*r-a)+(b+0*r-b)*(b+0*r-b)=r*r:=by grind
theorem TV(a b r:RE):(a+1*r-a)*(a+1*r-a)+(b+0*r-b)*(b+0*r-b)=r*r:=by grind
theorem TD(a r:RE)(h1:a+ -1*r=a+1*r):r<=0:=by grind
theorem Vj(a r:RE)(h1:a+ -1*r=a+1*r):0<=r:=by grind
theorem aeO(a r:RE)(h1:a+ -1*r=a+1*r):r=0:=le_antisymm (TD a r h1) (Vj a r h1)
theorem LM{c:Ln}(h:0<c.2.2):zp c (pR (cd c))/\zp c (pR (bZ c)):=by
 have hr:=qD (show 0<=c.2.2 by grind);unfold cd bZ;rw[lZ,lZ];exact⟨(ad5 _ _ _).trans hr,(TV _ _ _).trans hr⟩
theorem Uv{c:Ln}(h:0<c.2.2):pR (cd c)≠pR (bZ c):=by
 unfold cd bZ;rw[lZ,lZ];intro e;have e1:=aeO _ _ (congrArg Prod.fst e);have hr:=qD (show 0<=c.2.2 by grind);rw[e1,mul_zero]at hr;have:=HB hr;grind
theorem OZ{l:Ln}{v:Rat×Rat}(h:l.1*v.1+l.2.1*v.2=l.2.2):(uZ l (atP v)==0)=true:=by
 rw[JR,Ai];exact congrArg of h
theorem akO{v w:Rat×Rat}(h:v≠w):aB (atP v) (atP w)≠0:=λe=>h (by
 have:=cmpP_0.1 e;rw[Ai,Ai]at this;exact apB (HB (congrArg Prod.fst this)) (HB (congrArg Prod.snd this)))
end RE
open RE
def gdN(c:BCU):Prop:=mG c/\du (dC c) (frC (dC c))=true/\du (dC c) (toC (dC c))=true/\aB (frC (dC c)) (toC (dC c))≠0
theorem gdN.gd{c:BCU}(h:gdN c):gdC c:=⟨h.1.1,h.2.1,h.2.2.1⟩
theorem acU{a b:Rat×Rat}[ba:Bd a 1][bb:Bd b 1](h:Bs a b=false):gdN (zm a b):=by
 have hz:(vj a b).1≠0\/(vj a b).2.1≠0:=by
  unfold Bs at h;by_cases e:a.2-b.2=0
  ·rw[amh e,anP]at h;exact .inr (am7 h)
  ·exact .inl e
 have hne:a≠b:=λe=>by
  subst e;unfold vj at hz;rcases hz with h|h<;>exact h (by show _-_=(0:Rat);grind)
 have b1:Bd (vj a b).1 12:=(inferInstance:Bd (a.2-b.2) _).mono (by decide);have b2:Bd (vj a b).2.1 12:=(inferInstance:Bd (b.1-a.1) _).mono (by decide);have b3:Bd (vj a b).2.2 63:=(inferInstance:Bd ((a.2-b.2)*a.1+(b.1-a.1)*a.2) _).mono (by decide);have hl:=lV (h:=⟨b1,b2,b3⟩) hz;have hL:F8 (enc (vj a b)):=⟨amj (okd (x:=vj a b) (by decide) (by decide)),by rw[au];exact hz⟩
 unfold zm;rw[h];refine⟨⟨⟨λe=>(by cases e),λ_=>hL,RK (by decide) (by decide),RK (by decide) (by decide)⟩,λe=>(by cases e),λ_=>hl⟩,?_⟩;simp only[dC,du,frC,toC,lnC,au,cond_false];exact⟨OZ (by unfold vj;grind),OZ (by unfold vj;grind),akO hne⟩
theorem Bo{c:Ln}[bc:BdC c](h:0<c.2.2):∀d∈vT (enc c),gdN d:=by
 have hs:=jM h;have bx:=bc.x;have b_:=bc.y;have bq:=bc.q;have b0:Bd (0:Rat) 3:=dZ (n:=0) (by decide);have b1:Bd (1:Rat) 3:=dZ (n:=1) (by decide);have hC:t6 (enc c):=⟨amj (okd (h:=ab7 (c:=c)) (by decide) (by decide)),by rw[au];exact h⟩
 have q0:(0:Rat)<=c.2.2:=by grind
 have pl:Rpd (cd c):=mo (λe=>absurd e.1 (by decide)) q0;have pr:Rpd (bZ c):=mo (λe=>absurd e.1 (by decide)) q0;have bl:Bd (cd c) 490:=Cs (bx.mono (by decide:4<=4)) (ajK.mono (by decide:3<=3)) b_ b0 bq (by decide);have br:Bd (bZ c) 490:=Cs (bx.mono (by decide:4<=4)) b1 b_ b0 bq (by decide);have ol:okP 580 (enc (cd c)):=amj (aU (by decide) (by decide));have or_:okP 580 (enc (bZ c)):=amj (aU (by decide) (by decide));obtain⟨nl,nr_⟩:=LM h;have nl:=Bh.2 nl;have nr_:=Bh.2 nr_;have ne:=Uv h;intro d hd
 have:d=(true,o00,enc c,false,enc (cd c),enc (bZ c))\/d=(true,o00,enc c,false,enc (bZ c),enc (cd c)):=by
  unfold vT at hd;rw[au]at hd;simpa using hd
 rcases this with e|e<;>rw[e]
 ·refine⟨⟨⟨λ_=>hC,λe=>(by cases e),ol,or_⟩,λ_=>hs,λe=>(by cases e)⟩,?_⟩;simp only[dC,du,frC,toC,ciC,au,cond_true];exact⟨nl,nr_,λe=>ne (cmpP_0.1 e)⟩
 ·refine⟨⟨⟨λ_=>hC,λe=>(by cases e),or_,ol⟩,λ_=>hs,λe=>(by cases e)⟩,?_⟩;simp only[dC,du,frC,toC,ciC,au,cond_true];exact⟨nr_,nl,λe=>ne (cmpP_0.1 e).symm⟩
end
theorem HT{c d:BCU}(h:fU c d):(mp c d).length<=4/\∀x∈mp c d,okP 580 x/\onR (dC c) (dec x)=true/\onR (dC d) (dec x)=true:=by
 obtain⟨h1,h2⟩:=IC h;unfold mp UW;have h3:=v5 (dC c) ((BA c d).filter λp=>onR (dC c) (dec p)&&onR (dC d) (dec p)) [];have h4:=List.length_filter_le (λp=>onR (dC c) (dec p)&&onR (dC d) (dec p)) (BA c d)
 refine⟨by
  unfold gu;rw[List.length_nil,amx]at h3;exact amt h3 (amt h4 h1),J4 λx hx=>?_⟩
 obtain⟨g1,g2⟩:=List.mem_filter.1 hx;obtain⟨g3,g4⟩:=amA.1 g2;exact⟨h2 x g1,g3,g4⟩
def gdM(c:BCU):Prop:=mG c/\du (dC c) (frC (dC c))=true/\du (dC c) (toC (dC c))=true
theorem gdM.gd{c:BCU}(h:gdM c):gdC c:=⟨h.1.1,h.2.1,h.2.2⟩
theorem gdN.m{c:BCU}(h:gdN c):gdM c:=⟨h.1,h.2.1,h.2.2.1⟩
theorem abi{c:BCU}(h:gdN c){l:List BP}(ho:∀p∈l,okP 580 p/\onR (dC c) (dec p)=true):∀p∈j7 c l,gdM p:=by
 intro p hp;obtain⟨x,y,hx,hy,e⟩:=J1 hp
 have f:∀z,z∈pJ c l->okP 580 z/\du (dC c) (dec z)=true:=λz hz=>by
  rcases C6 hz with e|e|e
  ·rw[e];exact⟨h.1.1.2.2.1,h.2.1⟩
  ·rw[e];exact⟨h.1.1.2.2.2,h.2.2.1⟩
  ·exact⟨(ho z e).1,(amA.1 (ho z e).2).1⟩
 obtain⟨x1,x2⟩:=f x hx;obtain⟨y1,y2⟩:=f y hy;rw[e];exact⟨⟨⟨h.1.1.1,h.1.1.2.1,x1,y1⟩,h.1.2⟩,x2,y2⟩
section
section
variable {α:Type} {lt:α->α->Prop} {f:α->α->Int}
theorem Q6(h:mW lt):mW (λx y=>lt y x):=⟨h.irr,λx y z a b=>h.tr z y x b a,λx y=>by
 rcases h.tri x y with g|g|g
 ·exact .inr (.inr g)
 ·exact .inr (.inl g)
 ·exact .inl g⟩
theorem Lk(h:uN lt f):uN (λx y=>lt y x) (λx y=> -f x y):=λx y=>⟨λg=>(by show-f x y= -1;rw[(h x y).2.2 g]),λg=>(by show-f x y=0;rw[(h x y).2.1 g];rfl),λg=>(by show-f x y=1;rw[(h x y).1 g];rfl)⟩
def aLt(lt:α->α->Prop)(u v:Bool×α):Prop:=(u.1=false/\v.1=true)\/(u.1=false/\v.1=false/\lt u.2 v.2)\/(u.1=true/\v.1=true/\lt v.2 u.2)
theorem Iy(h:mW lt):mW (aLt lt):=by
 refine⟨λ⟨a,u⟩ g=>?_,λ⟨a,u⟩ ⟨b,v⟩ ⟨c,w⟩ g g'=>?_,λ⟨a,u⟩ ⟨b,v⟩=>?_⟩
 ·rcases g with⟨g1,g2⟩|⟨_,_,g⟩|⟨_,_,g⟩
  ·rw[g1]at g2;cases g2
  ·exact h.irr _ g
  ·exact h.irr _ g
 ·unfold aLt at*
  cases a<;>cases b<;>cases c<;>simp only[true_and,false_and,and_false,apA,apb,false_or,reduceCtorEq,and_self]at g g' ⊢
  ·exact h.tr _ _ _ g g'
  ·exact h.tr _ _ _ g' g
 ·unfold aLt;cases a<;>cases b<;>simp only[true_and,false_and,and_false,apA,apb,false_or,reduceCtorEq,and_self,or_true,true_or]
  ·rcases h.tri u v with g|g|g
   ·exact .inl g
   ·exact .inr (.inl (by rw[g]))
   ·exact .inr (.inr g)
  ·rcases h.tri u v with g|g|g
   ·exact .inr (.inr g)
   ·exact .inr (.inl (by rw[g]))
   ·exact .inl g
theorem SQ(h:uN lt f):uN (aLt lt) (jD f):=λ⟨a,u⟩ ⟨b,v⟩=>by
 refine⟨λg=>?_,λg=>?_,λg=>?_⟩
 ·unfold aLt at g;unfold jD;cases a<;>cases b<;>simp only[true_and,false_and,and_false,apA,apb,false_or,reduceCtorEq,and_self]at g
  ·exact(h u v).1 g
  ·rfl
  ·show-f u v= -1;rw[(h u v).2.2 g]
 ·injection g with g1 g2;subst g1 g2;unfold jD;have:=(h u u).2.1 rfl;cases a
  ·exact this
  ·show-f u u=0;rw[this];rfl
 ·unfold aLt at g;unfold jD;cases a<;>cases b<;>simp only[true_and,false_and,and_false,apA,apb,false_or,reduceCtorEq,and_self]at g
  ·exact(h u v).2.2 g
  ·rfl
  ·show-f u v=1;rw[(h u v).1 g];rfl
def cLt(lt:α->α->Prop)(o u v:α):Prop:=(¬lt u o/\lt v o)\/((lt u o↔lt v o)/\lt u v)
theorem xT(h:mW lt)(o:α):mW (cLt lt o):=by
 refine⟨λu g=>?_,λu v w g g'=>?_,λu v=>?_⟩
 ·rcases g with⟨g1,g2⟩|⟨_,g⟩
  ·exact g1 g2
  ·exact h.irr _ g
 ·rcases g with⟨g1,g2⟩|⟨g1,g2⟩<;>rcases g' with⟨g3,g4⟩|⟨g3,g4⟩
  ·exact absurd g2 g3
  ·exact .inl ⟨g1,g3.1 g2⟩
  ·exact .inl ⟨λe=>g3 (g1.1 e),g4⟩
  ·exact .inr ⟨g1.trans g3,h.tr _ _ _ g2 g4⟩
 ·by_cases e1:lt u o<;>by_cases e2:lt v o
  ·rcases h.tri u v with g|g|g
   ·exact .inl (.inr ⟨⟨λ_=>e2,λ_=>e1⟩,g⟩)
   ·exact .inr (.inl g)
   ·exact .inr (.inr (.inr ⟨⟨λ_=>e1,λ_=>e2⟩,g⟩))
  ·exact .inr (.inr (.inl ⟨e2,e1⟩))
  ·exact .inl (.inl ⟨e1,e2⟩)
  ·rcases h.tri u v with g|g|g
   ·exact .inl (.inr ⟨⟨λe=>absurd e e1,λe=>absurd e e2⟩,g⟩)
   ·exact .inr (.inl g)
   ·exact .inr (.inr (.inr ⟨⟨λe=>absurd e e2,λe=>absurd e e1⟩,g⟩))
theorem yu(hl:mW lt)(h:uN lt f)(x y:α):decide (f x y<0)=true↔lt x y:=by
 rw[aob];rcases hl.tri x y with g|g|g
 ·rw[(h x y).1 g];exact⟨λ_=>g,λ_=>by decide⟩
 ·rw[(h x y).2.1 g];exact⟨λe=>absurd e (by decide),λe=>absurd e (by rw[g];exact hl.irr _)⟩
 ·rw[(h x y).2.2 g];exact⟨λe=>absurd e (by decide),λe=>absurd (hl.tr _ _ _ e g) (hl.irr _)⟩
theorem xz(hl:mW lt)(h:uN lt f)(o:Bool×α):uN (cLt (aLt lt) o) (lz f o):=λu v=>by
 have ha:=SQ h;have n:=yu (Iy hl) ha
 have tf:∀x,¬aLt lt x o->decide (jD f x o<0)=false:=λx g=>by
  cases e:decide (jD f x o<0)
  ·rfl
  ·exact absurd ((n x o).1 e) g
 unfold lz;refine⟨λg=>?_,λg=>?_,λg=>?_⟩
 ·rcases g with⟨g1,g2⟩|⟨g1,g2⟩
  ·rw[tf u g1,(n v o).2 g2];rfl
  ·have e:(decide (jD f u o<0)==decide (jD f v o<0))=true:=by
    by_cases e:aLt lt u o
    ·rw[(n u o).2 e,(n v o).2 (g1.1 e)];rfl
    ·rw[tf u e,tf v (λe'=>e (g1.2 e'))];rfl
   rw[e];exact(ha u v).1 g2
 ·subst g;rw[beq_self_eq_true];exact(ha u u).2.1 rfl
 ·rcases g with⟨g1,g2⟩|⟨g1,g2⟩
  ·rw[tf v g1,(n u o).2 g2];rfl
  ·have e:(decide (jD f u o<0)==decide (jD f v o<0))=true:=by
    by_cases e:aLt lt u o
    ·rw[(n u o).2 e,(n v o).2 (g1.2 e)];rfl
    ·rw[tf u e,tf v (λe'=>e (g1.1 e'))];rfl
   rw[e];exact(ha u v).2.2 g2
end
def Sp(c:Cv)(p:Pt):Prop:=Rpd p/\du c p=true
structure Crp (c:Cv):Prop where
 f:Sp c (frC c)
 t:Sp c (toC c)
 q:c.1=true->0<(ciC c).2.2
 l:c.1=false->(lnC c).1≠0\/(lnC c).2.1≠0
theorem fR{c:BCU}(h:gdC c):Crp (dC c):=by
 obtain⟨h1,h2,h3⟩:=h;exact⟨⟨co h1.2.2.1,h2⟩,⟨co h1.2.2.2,h3⟩,λe=>(h1.1 e).2,λe=>(h1.2.1 e).2⟩
open RE in
theorem Crp.e{c:Cv}(h:Crp c)(hne:aB (frC c) (toC c)≠0):GdE c:=by
 have hf:=h.f.1;have ht:=h.t.1;have s:=λp (hp:Sp c p)=>hp.2;refine⟨hf,ht,λe=>hne (cmpP_0.2 e),λe=>?_,λe=>?_⟩
 ·have h2:=h.f.2;have h3:=h.t.2;unfold du at h2 h3;rw[e]at h2 h3;exact⟨h.q e,ins_on (amW.1 h2),ins_on (amW.1 h3)⟩
 ·have h2:=h.f.2;have h3:=h.t.2;unfold du at h2 h3;rw[e]at h2 h3;exact⟨h.l e,Gu (amW.1 h2),Gu (amW.1 h3)⟩
namespace RE
theorem GV(v w:RE):((v-(w))*(v-(w)))+((w*w-(v*v)))+2*((w-(0))*(v-(w)))=0:=by grind
theorem Ql(v w:RE)(h1:v*v=w*w)(_h2:0<=v)(h3:0<=w):v<=w:=λhg=>far (aW (aW (mul_pos (bz hg) (bz hg)) (aJ (t7 h1))) (lS (by decide+kernel:(0:Rat)<2) (ct (aJ h3) (le_of_lt (bz hg))))) (GV v w)
theorem G5(v w:RE):((w-(v))*(w-(v)))+((v*v-(w*w)))+2*((v-(0))*(w-(v)))=0:=by grind
theorem Ny(v w:RE)(h1:v*v=w*w)(h2:0<=v)(_h3:0<=w):w<=v:=λhg=>far (aW (aW (mul_pos (bz hg) (bz hg)) (aJ (sM h1))) (lS (by decide+kernel:(0:Rat)<2) (ct (aJ h2) (le_of_lt (bz hg))))) (G5 v w)
theorem T6(v w:RE)(h1:v*v=w*w)(h2:0<=v)(h3:0<=w):v=w:=le_antisymm (Ql v w h1 h2 h3) (Ny v w h1 h2 h3)
theorem Da(v w:RE):((v-(w))*(v-(w)))+((v*v-(w*w)))+2*((0-(v))*(v-(w)))=0:=by grind
theorem K0(v w:RE)(h1:v*v=w*w)(h2:v<=0)(_h3:w<=0):v<=w:=λhg=>far (aW (aW (mul_pos (bz hg) (bz hg)) (aJ (sM h1))) (lS (by decide+kernel:(0:Rat)<2) (ct (aJ h2) (le_of_lt (bz hg))))) (Da v w)
theorem Eb(v w:RE):((w-(v))*(w-(v)))+((w*w-(v*v)))+2*((0-(w))*(w-(v)))=0:=by grind
theorem Ky(v w:RE)(h1:v*v=w*w)(_h2:v<=0)(h3:w<=0):w<=v:=λhg=>far (aW (aW (mul_pos (bz hg) (bz hg)) (aJ (t7 h1))) (lS (by decide+kernel:(0:Rat)<2) (ct (aJ h3) (le_of_lt (bz hg))))) (Eb v w)
theorem Q9(v w:RE)(h1:v*v=w*w)(h2:v<=0)(h3:w<=0):v=w:=le_antisymm (K0 v w h1 h2 h3) (Ky v w h1 h2 h3)
theorem acF(u v w Q:RE)(h1:u*u+v*v=Q)(h2:u*u+w*w=Q):v*v<=w*w:=by grind
theorem adP(u v w Q:RE)(h1:u*u+v*v=Q)(h2:u*u+w*w=Q):w*w<=v*v:=by grind
theorem afE(u v w Q:RE)(h1:u*u+v*v=Q)(h2:u*u+w*w=Q):v*v=w*w:=le_antisymm (acF u v w Q h1 h2) (adP u v w Q h1 h2)
theorem Lz(a b:RE)(h1: -a= -b):a<=b:=by grind
theorem Sv(a b:RE)(h1: -a= -b):b<=a:=by grind
theorem UF(a b:RE)(h1: -a= -b):a=b:=le_antisymm (Lz a b h1) (Sv a b h1)
theorem Eg{u v:RE}:(upA (cls u v)=true->0<=v)/\(upA (cls u v)=false->v<=0)/\(ufA (cls u v)=true->0<=v)/\(ufA (cls u v)=false->v<=0):=by
 unfold cls upA ufA;rcases c8 v with⟨h,e⟩|⟨h,e⟩|⟨h,e⟩<;>rw[e]
 ·exact⟨λ_=>le_of_lt h,λg=>(by cases g),λ_=>le_of_lt h,λg=>(by cases g)⟩
 ·rw[h];exact⟨λ_=>le_refl _,λ_=>le_refl _,λ_=>le_refl _,λ_=>le_refl _⟩
 ·exact⟨λg=>(by cases g),λ_=>le_of_lt h,λg=>(by cases g),λ_=>le_of_lt h⟩
theorem C2{c:Ln}{p q:Pt}(hp:onCi c p)(hq:onCi c q)(hx:pX p=pX q)(g:(0<=pY p-of c.2.1/\0<=pY q-of c.2.1)\/(pY p-of c.2.1<=0/\pY q-of c.2.1<=0)):pR p=pR q:=by
 unfold onCi at hp hq;rw[hx]at hp;have e:=afE _ _ _ _ hp hq;refine apB hx ?_;rcases g with⟨a,b⟩|⟨a,b⟩
 ·exact sZ _ _ _ (T6 _ _ e a b)
 ·exact sZ _ _ _ (Q9 _ _ e a b)
end RE
open RE in
theorem fd{c:Cv}(ha:c.1=true){p:Pt}(hp:Sp c p):onCi (ciC c) p:=by
 have:=hp.1;have g:=hp.2;unfold du at g;rw[ha]at g;exact ins_on (amW.1 g)
open RE in
theorem Ch{c:Cv}(h:Crp c)(ha:c.1=true):∃κ:Pt->Bool×RE,(∀d:Cv,d.1=true->ciC d=ciC c->cwC d=cwC c->Sp c (frC d)->∀p q,Sp c p->Sp c q->bY d p q=lz (λx y:RE=>sg (x-y)) (κ (frC d)) (κ p) (κ q))/\∀p q,Sp c p->Sp c q->(κ p=κ q↔aB p q=0):=by
 cases hw:cwC c
 ·refine⟨λp=>(upR (ciC c) p,pX p),λd d1 d2 d3 hd p q hp hq=>?_,λp q hp hq=>?_⟩
  ·have i1:=hd.1;have:=hp.1;have:=hq.1;have e:∀{x y:Pt},Rpd x->Rpd y->bQ (xP x) (xP y)=sg (pX x-pX y):=λ{x y} _ _=>by rw[cmpT_re ou ou,tK,tK]
   unfold bY;rw[d1,d3,cond_true,cond_false,d2];exact fB (e hp.1 i1) (e hq.1 i1) (e hp.1 hq.1)
  ·have r1:=hp.1;have r2:=hq.1;rw[cmpP_0];constructor
   ·intro e;injection e with e1 e2;rw[ng,ng]at e1;refine C2 (fd ha hp) (fd ha hq) e2 ?_;cases g:upA (cls (pX p-of (ciC c).1) (pY p-of (ciC c).2.1))
    ·exact .inr ⟨Eg.2.1 g,Eg.2.1 (e1.symm.trans g)⟩
    ·exact .inl ⟨Eg.1 g,Eg.1 (e1.symm.trans g)⟩
   ·intro e;have e1:pX p=pX q:=congrArg Prod.fst e;have e2:pY p=pY q:=congrArg Prod.snd e;show(upR (ciC c) p,pX p)=(upR (ciC c) q,pX q)
    rw[ng,ng,e1,e2]
 ·refine⟨λp=>(upR (flC (ciC c)) (flP p),-pX p),λd d1 d2 d3 hd p q hp hq=>?_,λp q hp hq=>?_⟩
  ·have i1:=hd.1;have:=hp.1;have:=hq.1;have e:∀{x y:Pt},Rpd x->Rpd y->bQ (xP (flP x)) (xP (flP y))=sg (-pX x- -pX y):=λ{x y} _ _=>by rw[cmpT_re ou ou,tK,tK,Dz,Dz]
   unfold bY;rw[d1,d3,cond_true,cond_true,d2];exact fB (e hp.1 i1) (e hq.1 i1) (e hp.1 hq.1)
  ·have r1:=hp.1;have r2:=hq.1;rw[cmpP_0];have u1:=vI (h.q ha) (fd ha hp);have u2:=vI (h.q ha) (fd ha hq);constructor
   ·intro e;injection e with e1 e2;rw[u1,u2]at e1;refine C2 (fd ha hp) (fd ha hq) (UF _ _ e2) ?_;cases g:ufA (cls (pX p-of (ciC c).1) (pY p-of (ciC c).2.1))
    ·exact .inr ⟨Eg.2.2.2 g,Eg.2.2.2 (e1.symm.trans g)⟩
    ·exact .inl ⟨Eg.2.2.1 g,Eg.2.2.1 (e1.symm.trans g)⟩
   ·intro e;have e1:pX p=pX q:=congrArg Prod.fst e;have e2:pY p=pY q:=congrArg Prod.snd e;show(upR (flC (ciC c)) (flP p),-pX p)=(upR (flC (ciC c)) (flP q),-pX q)
    rw[u1,u2,e1,e2]
open RE in
theorem A6{c:Cv}(h:Crp c):∃(K:Type) (lt:K->K->Prop) (κ:Pt->K) (f:K->K->Int),mW lt/\uN lt f/\(∀p q,Sp c p->Sp c q->bY c p q=f (κ p) (κ q))/\∀p q,Sp c p->Sp c q->(κ p=κ q↔aB p q=0):=by
 have hF:=h.f;cases ha:c.1
 ·cases hd:decide (aB (frC c) (toC c)>0)
  ·refine⟨PE,adn,pR,lxc,gv,fh,λp q hp hq=>?_,λp q hp hq=>?_⟩
   ·have:=hp.1;have:=hq.1;unfold bY;rw[ha,hd,cond_false,cond_false,gT]
   ·have:=hp.1;have:=hq.1;exact cmpP_0.symm
  ·refine⟨PE,_,pR,_,Q6 gv,Lk fh,λp q hp hq=>?_,λp q hp hq=>?_⟩
   ·have:=hp.1;have:=hq.1;unfold bY;rw[ha,hd,cond_false,cond_true,gT]
   ·have:=hp.1;have:=hq.1;exact cmpP_0.symm
 ·obtain⟨κ,h1,h2⟩:=Ch h ha;exact⟨Bool×RE,_,κ,_,xT (Iy lt_lin) (κ (frC c)),xz lt_lin sg_cmpO _,h1 c ha rfl rfl hF,h2⟩
structure Ord (c:Cv):Prop where
 tr:∀{p q r},Sp c p->Sp c q->Sp c r->bY c p q<0->bY c q r<0->bY c p r<0
 tri:∀{p q},Sp c p->Sp c q->bY c p q<0\/aB p q=0\/bY c q p<0
 irr:∀{p q},Sp c p->Sp c q->aB p q=0->bY c p q=0
 asy:∀{p q},Sp c p->Sp c q->bY c p q<0->0<bY c q p
theorem rN{c:Cv}(h:Crp c):Ord c:=by
 obtain⟨K,lt,κ,f,hl,hc,ho,hk⟩:=A6 h
 have n:∀{p q},Sp c p->Sp c q->(bY c p q<0↔lt (κ p) (κ q)):=λ{p q} hp hq=>by
  rw[ho p q hp hq,<-aob (p:=f (κ p) (κ q)<0)];exact yu hl hc _ _
 refine⟨λ{p q r} hp hq hr g g'=>?_,λ{p q} hp hq=>?_,λ{p q} hp hq g=>?_,λ{p q} hp hq g=>?_⟩
 ·rw[n hp hr];exact hl.tr _ _ _ ((n hp hq).1 g) ((n hq hr).1 g')
 ·rw[n hp hq,n hq hp,<-hk p q hp hq];exact hl.tri _ _
 ·rw[ho p q hp hq,(hc _ _).2.1 ((hk p q hp hq).2 g)]
 ·rw[ho q p hq hp,(hc _ _).2.2 ((n hp hq).1 g)];decide
def Spb(c:Cv)(x:BP):Prop:=Sp c (dec x)
theorem OX{c:Cv}(o:Ord c){x:BP}(hx:Spb c x):∀{l:List BP},(∀y∈l,Spb c y)->l.Pairwise (λa b=>bY c (dec a) (dec b)<0)->(fb c l x).Pairwise (λa b=>bY c (dec a) (dec b)<0)
 |[],_,_=>by simp[fb]
 |y::r,hl,hp=>by
  have hy:=hl y (by simp);have hr:∀z∈r,Spb c z:=λz hz=>hl z (amv _ hz);obtain⟨p1,p2⟩:=anl.1 hp;simp only[fb];by_cases h1:bY c (dec y) (dec x)<0
  ·rw[amh h1,cond_true];refine anl.2 ⟨λz hz=>?_,OX o hx hr p2⟩;rcases oM hz with g|g
   ·exact p1 z g
   ·rw[g];exact h1
  ·rw[ami h1,cond_false];by_cases h2:aB (dec y) (dec x)=0
   ·rw[amW.2 h2,cond_true];exact hp
   ·rw[amT.2 h2,cond_false]
    have h3:bY c (dec x) (dec y)<0:=by
     rcases o.tri hy hx with g|g|g
     ·exact absurd g h1
     ·exact absurd g h2
     ·exact g
    refine anl.2 ⟨λz hz=>?_,hp⟩;rcases amy.1 hz with g|g
    ·rw[g];exact h3
    ·exact o.tr hx hy (hr z g) h3 (p1 z g)
theorem I6{c:Cv}(o:Ord c):∀{l out:List BP},(∀y∈l,Spb c y)->(∀y∈out,Spb c y)->out.Pairwise (λa b=>bY c (dec a) (dec b)<0)->(l.foldl (fb c) out).Pairwise (λa b=>bY c (dec a) (dec b)<0)
 |[],_,_,_,h=>h
 |x::l,out,hl,ho,h=>I6 o (l:=l) (λy hy=>hl y (amv _ hy)) (λy hy=>by
   rcases oM hy with g|g
   ·exact ho y g
   ·rw[g];exact hl x (by simp)) (OX o (hl x (by simp)) ho h)
theorem aet{c:Cv}(o:Ord c){l:List BP}(hl:∀y∈l,Spb c y):(gu c l).Pairwise (λa b=>bY c (dec a) (dec b)<0):=I6 o hl (λy hy=>by cases hy) List.Pairwise.nil
theorem Bc{c:BCU}{R:BP->BP->Prop}{p:BCU}:∀{s:List BP},s.Pairwise R->p∈vK c s->∃x y,x∈s/\y∈s/\R x y/\p=zv c x y
 |[],_,h=>by cases h
 |[_],_,h=>by cases h
 |x::y::r,hp,h=>by
  obtain⟨p1,p2⟩:=anl.1 hp;simp only[vK]at h;rcases amy.1 h with h|h
  ·exact⟨x,y,by simp,by simp,p1 y (by simp),h⟩
  ·obtain⟨a,b,h1,h2,h3,h4⟩:=Bc p2 h;exact⟨a,b,amv _ h1,amv _ h2,h3,h4⟩
theorem Fh{c:BCU}(h:gdN c){l:List BP}(ho:∀p∈l,okP 580 p/\onR (dC c) (dec p)=true):∀x∈pJ c l,okP 580 x/\Spb (dC c) x:=by
 intro z hz;rcases C6 hz with e|e|e
 ·rw[e];exact⟨h.1.1.2.2.1,co h.1.1.2.2.1,h.2.1⟩
 ·rw[e];exact⟨h.1.1.2.2.2,co h.1.1.2.2.2,h.2.2.1⟩
 ·exact⟨(ho z e).1,co (ho z e).1,(amA.1 (ho z e).2).1⟩
theorem Bw{c:BCU}(h:gdN c){l:List BP}(ho:∀p∈l,okP 580 p/\onR (dC c) (dec p)=true):(pJ c l).Pairwise (λa b=>bY (dC c) (dec a) (dec b)<0):=by
 refine aet (rN (fR h.gd)) λy hy=>?_;rcases amG.1 hy with hy|hy
 ·simp only[amy,anW,apb]at hy;rcases hy with e|e
  ·rw[e];exact⟨co h.1.1.2.2.1,h.2.1⟩
  ·rw[e];exact⟨co h.1.1.2.2.2,h.2.2.1⟩
 ·exact⟨co (ho y hy).1,(amA.1 (ho y hy).2).1⟩
theorem JG{c:BCU}(h:gdN c){l:List BP}(ho:∀p∈l,okP 580 p/\onR (dC c) (dec p)=true):∀p∈j7 c l,gdN p:=by
 intro p hp;have hm:=abi h ho p hp;obtain⟨x,y,hx,hy,hr,e⟩:=Bc (Bw h ho) hp;have o:=rN (fR h.gd);refine⟨hm.1,hm.2.1,hm.2.2,λg=>?_⟩;rw[e]at g;have:=o.irr (Fh h ho x hx).2 (Fh h ho y hy).2 g;omega
theorem gdN.e{c:BCU}(h:gdN c):RE.GdE (dC c):=(fR h.gd).e h.2.2.2
theorem Bp{c:BCU}(h:gdN c):gdN (iM c):=by
 refine⟨⟨By 580 h.1.1,h.1.2⟩,h.2.2.1,h.2.1,λe=>h.2.2.2 ?_⟩;have r1:Rpd (frC (dC c)):=co h.1.1.2.2.1;have r2:Rpd (toC (dC c)):=co h.1.1.2.2.2;have e:aB (toC (dC c)) (frC (dC c))=0:=e;exact RE.cmpP_0.2 (RE.cmpP_0.1 e).symm
end
def NP(c:Cv)(p q:Pt):Int:=bif c.1 then(bif cwC c then-(ml bQ (ptd (ciC c) (toC c)) (ptd (ciC c) p) (ptd (ciC c) q))else ml bQ (ptd (ciC c) (frC c)) (ptd (ciC c) p) (ptd (ciC c) q))else aB p q*aB (toC c) (frC c)
namespace RE
theorem kj{p q:Pt}[Rpd p][Rpd q]:aB p q= -aB q p:=by
 rw[gT,gT];rcases gv.tri (pR p) (pR q)with h|h|h
 ·rw[(fh _ _).1 h,(fh _ _).2.2 h]
 ·rw[h,(fh (pR q) (pR q)).2.1 rfl];rfl
 ·rw[(fh _ _).2.2 h,(fh _ _).1 h];rfl
end RE
theorem UM(f p q:Bool×Rt): -1<=ml bQ f p q/\ml bQ f p q<=1:=by
 have h:∀n,-1<=zs n/\zs n<=1:=λn=>by
  unfold zs;split<;>(try split)<;>omega
 unfold ml;cases oB bQ f p==oB bQ f q
 ·exact h _
 ·exact h _
def agO:List En:=[enT zP,enT M2]
def Y1(c:BCU)(p q:BP)(_k:KT):OLR:=match !c.1 with|true=>(og (decide (okP 4000 p/\okP 4000 q)) (og (decide (okP 4000 c.2.2.2.2.2/\okP 4000 c.2.2.2.2.1)) (some [RV.d apE (i64.wrap ((aB (dec p) (dec q))*(aB (dec c.2.2.2.2.2) (dec c.2.2.2.2.1))))])))|false=>(match c.2.2.2.1 with|true=>(og (decide (ok Ln 300 c.2.2.1/\okP 4000 c.2.2.2.2.2/\okP 4000 p/\okP 4000 q)) (some [RV.d apE (i64.wrap (0-(ml bQ (ptd (dec c.2.2.1) (dec c.2.2.2.2.2)) (ptd (dec c.2.2.1) (dec p)) (ptd (dec c.2.2.1) (dec q)))))]))|false=>(og (decide (ok Ln 300 c.2.2.1/\okP 4000 c.2.2.2.2.1/\okP 4000 p/\okP 4000 q)) (some [RV.d apE (ml bQ (ptd (dec c.2.2.1) (dec c.2.2.2.2.1)) (ptd (dec c.2.2.1) (dec p)) (ptd (dec c.2.2.1) (dec q)))])))
def WU:Cn 294 [tCU,tP,tP]:=cn λ(c:BCU) (p q:BP)=>lf (okC 4000 c/\okP 4000 p/\okP 4000 q) [.d apE (NP (dC c) (dec p) (dec q))] λh=>by
 refine aA agO (Y1 c p q) ⟨0,?_⟩;obtain⟨hc,hp,hq⟩:=h;obtain⟨ar,li,ci,cw,fr,to⟩:=c;have h3:=hc.2.2.1;have h4:=hc.2.2.2;simp only at h3 h4;unfold Y1 NP;cases ar
 ·have b1:=BS (dec p) (dec q);have b2:=BS (dec to) (dec fr);simp only[dT (show okP 4000 p/\okP 4000 q from⟨hp,hq⟩),dT (show okP 4000 to/\okP 4000 fr from⟨h4,h3⟩),Bt b1 b2];rfl
 ·have e:=(hc.1 rfl).1;simp only at e;cases cw
  ·simp only[dT (show ok Ln 300 ci/\okP 4000 fr/\okP 4000 p/\okP 4000 q from⟨e,h3,hp,hq⟩)];rfl
  ·have b:=UM (ptd (dec ci) (dec to)) (ptd (dec ci) (dec p)) (ptd (dec ci) (dec q));simp only[dT (show ok Ln 300 ci/\okP 4000 to/\okP 4000 p/\okP 4000 q from⟨e,h4,hp,hq⟩)];try dsimp only[Bool.not_true]
   rw[aO (x:=0-ml bQ (ptd (dec ci) (dec to)) (ptd (dec ci) (dec p)) (ptd (dec ci) (dec q))) (by omega) (by omega),aoj];rfl
theorem qB{α:Type}{lt:α->α->Prop}(h:mW lt){L:List α}{a b:α}(ha:a∈L)(hb:b∈L):lt a b↔rk lt L a<rk lt L b:=by
 refine⟨λg=>xl h g ha,λg=>?_⟩;rcases h.tri a b with e|e|e
 ·exact e
 ·rw[e]at g;omega
 ·have:=xl h e hb;omega
theorem T7{α:Type}{lt:α->α->Prop}(h:mW lt){o x y p:α}(hxy:cLt lt o x y):¬cLt lt x y p↔¬cLt lt o p x/\¬cLt lt o y p:=by
 have m1:o∈[o,x,y,p]:=by simp
 have m2:x∈[o,x,y,p]:=by simp
 have m3:y∈[o,x,y,p]:=by simp
 have m4:p∈[o,x,y,p]:=by simp
 unfold cLt at*
 rw[qB h m2 m1,qB h m3 m1,qB h m2 m3]at hxy;rw[qB h m3 m2,qB h m4 m2,qB h m3 m4,qB h m4 m1,qB h m2 m1,qB h m3 m1];omega
theorem Cb{α:Type}{lt:α->α->Prop}{f:α->α->Int}(hl:mW lt)(h:uN lt f)(x y:α):f x y<=0↔¬lt y x:=by
 rcases hl.tri x y with g|g|g
 ·rw[(h x y).1 g];exact⟨λ_ e=>hl.irr _ (hl.tr _ _ _ e g),λ_=>by decide⟩
 ·rw[(h x y).2.1 g];exact⟨λ_ e=>by rw[g]at e;exact hl.irr _ e,λ_=>by decide⟩
 ·rw[(h x y).2.2 g];exact⟨λe=>absurd e (by decide),λe=>absurd g e⟩
theorem jb{α:Type}{lt:α->α->Prop}{f:α->α->Int}(hl:mW lt)(h:uN lt f)(x y:α):f x y<0↔lt x y:=by
 rw[<-aob (p:=f x y<0)];exact yu hl h x y
def pcC(c:Cv)(x y:Pt):Cv:=(c.1,c.2.1,c.2.2.1,c.2.2.2.1,x,y)
structure alB (c:Cv):Prop extends Ord c where
 le:∀{p q},Sp c p->Sp c q->(bY c p q<=0↔¬bY c q p<0)
 lt:∀{p q r},Sp c p->Sp c q->Sp c r->¬bY c q p<0->¬bY c r q<0->¬bY c r p<0
theorem JM{c:Cv}(h:Crp c):alB c:=by
 obtain⟨K,lt,κ,f,hl,hc,ho,hk⟩:=A6 h;refine⟨rN h,λ{p q} hp hq=>?_,λ{p q r} hp hq hr=>?_⟩
 ·rw[ho p q hp hq,ho q p hq hp,Cb hl hc,jb hl hc]
 ·rw[ho q p hq hp,ho r q hr hq,ho r p hr hp,jb hl hc,jb hl hc,jb hl hc];intro g g' e;rcases hl.tri (κ q) (κ p)with a|a|a
  ·exact g a
  ·exact g' (by rw[a];exact e)
  ·exact g' (hl.tr _ _ _ e a)
theorem xX{c:Cv}(h:Crp c){p:Pt}(hp:Rpd p):onR c p=true↔du c p=true/\¬bY c p (frC c)<0/\¬bY c (toC c) p<0:=by
 have o:=JM h;unfold onR;rw[amA,amA,aob,aob];refine and_congr_right λhs=>?_;rw[o.le h.f ⟨hp,hs⟩,o.le ⟨hp,hs⟩ h.t]
theorem adV{c:Cv}(h:Crp c){x y p:Pt}(hx:Sp c x)(hy:Sp c y)(hxy:bY c x y<0)(hp:Rpd p):onR (pcC c x y) p=true↔du c p=true/\¬bY c p x<0/\¬bY c y p<0:=by
 have o:=JM h;have es:du (pcC c x y) p=du c p:=rfl;unfold onR;rw[amA,amA,aob,aob,es];refine and_congr_right λhs=>?_;have sp:Sp c p:=⟨hp,hs⟩
 show bY (pcC c x y) x p<=0/\bY (pcC c x y) p y<=0↔_;cases ha:c.1
 ·have e:∀a b,bY (pcC c x y) a b=bY c a b:=λa b=>by
   have e1:decide (aB x y>0)=decide (aB (frC c) (toC c)>0):=by
    unfold bY at hxy;rw[ha,cond_false]at hxy;cases hd:decide (aB (frC c) (toC c)>0)<;>rw[hd]at hxy
    ·exact ami (by rw[cond_false]at hxy;omega)
    ·exact amh (by rw[cond_true]at hxy;omega)
   unfold bY;show(bif c.1 then _ else bif decide (aB x y>0)then _ else _)=_;rw[ha,cond_false,cond_false,e1]
  rw[e,e,o.le hx sp,o.le sp hy]
 ·obtain⟨κ,h1,h2⟩:=Ch h ha;have hl:=Iy RE.lt_lin;have hc:=λu=>xz RE.lt_lin RE.sg_cmpO u;have ex:=h1 (pcC c x y) ha rfl rfl hx;have ec:=h1 c ha rfl rfl h.f;rw[ec x y hx hy,jb (xT hl _) (hc _)]at hxy;rw[ex x p hx sp,ex p y sp hy,ec p x sp hx,ec y p hy sp,Cb (xT hl _) (hc _),Cb (xT hl _) (hc _),jb (xT hl _) (hc _),jb (xT hl _) (hc _)];refine Iff.trans (and_iff_right ?_) (T7 hl hxy);rintro (⟨_,g⟩|⟨g1,g2⟩)
  ·exact hl.irr _ g
  ·exact hl.irr _ (g1.1 g2)
theorem Ao{c:Cv}{x y:BP}:∀{r:List BP},y∈r->y∈fb c r x
 |[],h=>by cases h
 |z::r,h=>by
  simp only[fb];cases decide (bY c (dec z) (dec x)<0)
  ·cases aB (dec z) (dec x)==0
   ·exact amv _ h
   ·exact h
  ·rcases amy.1 h with e|e
   ·rw[e];exact .head _
   ·exact amv _ (Ao e)
theorem D3{c:Cv}{y:BP}:∀{l r:List BP},y∈r->y∈l.foldl (fb c) r
 |[],_,h=>h
 |_::l,_,h=>D3 (l:=l) (Ao h)
theorem JE{c:BCU}(h:gdN c):bY (dC c) (frC (dC c)) (toC (dC c))<0:=by
 have k:=fR h.gd;have hne:aB (frC (dC c)) (toC (dC c))≠0:=h.2.2.2;cases ha:(dC c).1
 ·unfold bY;rw[ha,cond_false];cases hd:decide (aB (frC (dC c)) (toC (dC c))>0)
  ·have:=am7 hd;rw[cond_false];omega
  ·have:=amj hd;rw[cond_true];omega
 ·rcases(rN k).tri k.f k.t with g|g|g
  ·exact g
  ·exact absurd g hne
  ·obtain⟨κ,h1,h2⟩:=Ch k ha;have hl:=Iy RE.lt_lin;rw[h1 (dC c) ha rfl rfl k.f _ _ k.t k.f,jb (xT hl _) (xz RE.lt_lin RE.sg_cmpO _)]at g;rcases g with⟨_,g⟩|⟨g1,g2⟩
   ·exact absurd g (hl.irr _)
   ·exact absurd (g1.1 g2) (hl.irr _)
theorem FS{c:BCU}(h:gdN c):onR (dC c) (frC (dC c))=true/\onR (dC c) (toC (dC c))=true:=by
 have k:=fR h.gd;have o:=rN k
 have irr:∀{q},Sp (dC c) q->bY (dC c) q q=0:=λ{q} hq=>by
  have:=hq.1;exact o.irr hq hq (RE.cmpP_0.2 rfl)
 have tf:=o.asy k.f k.t (JE h);rw[xX k k.f.1,xX k k.t.1,irr k.f,irr k.t];exact⟨⟨k.f.2,by omega,by omega⟩,k.t.2,by omega,by omega⟩
abbrev oL(c:Cv)(A:List BP):Prop:=A.Pairwise (λa b=>bY c (dec a) (dec b)<0)
section
section
variable {α K:Type}
def uI(lt:α->α->Bool):List α->α->List α
 |[],a=>[a]
 |b::r,a=>bif lt a b then b::uI lt r a else a::b::r
def Hp(lt:α->α->Bool)(l:List α):List α:=(l.foldl (uI lt) []).reverse
def qv(eq:α->α->Bool):α->List α->List α
 |_,[]=>[]
 |p,q::r=>bif eq q p then qv eq q r else q::qv eq q r
def Sf(eq:α->α->Bool):List α->List α
 |[]=>[]
 |x::r=>x::qv eq x r
theorem yk{lt:α->α->Bool}{a x:α}:∀{r:List α},x∈uI lt r a↔x=a\/x∈r
 |[]=>by simp[uI]
 |b::r=>by
  unfold uI;cases lt a b
  ·simp
  ·simp only[cond_true,amy,yk (r:=r)];constructor
   ·rintro (h|h|h)
    ·exact .inr (.inl h)
    ·exact .inl h
    ·exact .inr (.inr h)
   ·rintro (h|h|h)
    ·exact .inr (.inl h)
    ·exact .inl h
    ·exact .inr (.inr h)
theorem E4{lt:α->α->Bool}{x:α}:∀{l r:List α},x∈l.foldl (uI lt) r↔x∈l\/x∈r
 |[],r=>by simp
 |a::l,r=>by
  rw[an6,E4,yk,amy];constructor
  ·rintro (h|h|h)
   ·exact .inl (.inr h)
   ·exact .inl (.inl h)
   ·exact .inr h
  ·rintro ((h|h)|h)
   ·exact .inr (.inl h)
   ·exact .inl h
   ·exact .inr (.inr h)
theorem Ds{lt:α->α->Bool}{x:α}{l:List α}:x∈Hp lt l↔x∈l:=by
 unfold Hp;rw[List.mem_reverse,E4];simp
theorem tn{lt:α->α->Bool}{a:α}:∀{r:List α},(uI lt r a).length=r.length+1
 |[]=>rfl
 |b::r=>by
  unfold uI;cases lt a b
  ·rfl
  ·simp[tn (r:=r)]
theorem Ig{lt:α->α->Bool}:∀{l r:List α},(l.foldl (uI lt) r).length=l.length+r.length
 |[],r=>by simp
 |a::l,r=>by
  rw[an6,Ig,tn,amD];omega
theorem E9{lt:α->α->Bool}{l:List α}:(Hp lt l).length=l.length:=by
 unfold Hp;rw[List.length_reverse,Ig];rfl
theorem Dm{eq:α->α->Bool}:∀{l:List α} {p:α},(qv eq p l).length<=l.length
 |[],_=>amm _
 |q::r,p=>by
  unfold qv;have:=Dm (eq:=eq) (l:=r) (p:=q);cases eq q p
  ·simp only[cond_false,amD];omega
  ·simp only[cond_true,amD];omega
theorem Rs{eq:α->α->Bool}{l:List α}:(Sf eq l).length<=l.length:=by
 cases l with
 |nil=>exact amm _
 |cons x r=>
  have:=Dm (eq:=eq) (l:=r) (p:=x);simp only[Sf,amD];omega
theorem w7{eq:α->α->Bool}{x:α}:∀{l:List α} {p:α},x∈qv eq p l->x∈l
 |[],_,h=>h
 |q::r,p,h=>by
  unfold qv at h;cases hq:eq q p<;>rw[hq]at h
  ·rcases amy.1 h with e|e
   ·rw[e];simp
   ·exact amv _ (w7 e)
  ·exact amv _ (w7 h)
theorem OO{eq:α->α->Bool}{x:α}{l:List α}(h:x∈Sf eq l):x∈l:=by
 cases l with
 |nil=>exact h
 |cons y r=>
  rcases amy.1 h with e|e
  ·rw[e];simp
  ·exact amv _ (w7 e)
variable {lt:K->K->Prop} (hl:mW lt) (κ:α->K)
include hl in
include hl in
include hl in
include hl in
include hl in
end
def ltP(c:Cv)(a b:BP):Bool:=decide (NP c (dec a) (dec b)<0)
def fG(a b:BP):Bool:=aB (dec a) (dec b)==0
def dq(c:Cv)(l:List BP):List BP:=Sf fG (Hp (ltP c) l)
theorem mN{c:Cv}{l:List BP}{x:BP}(h:x∈dq c l):x∈l:=Ds.1 (OO h)
theorem mX{c:Cv}{l:List BP}:(dq c l).length<=l.length:=by
 have:=Rs (eq:=fG) (l:=Hp (ltP c) l);rw[E9]at this;exact this
end
section
theorem Ca{n m k:Nat}(h1:n+m<=100000000)(hk:k<=1000000):decide ((n+m)*k<=140737488355328/\n+m<=140737488355328)=true:=by
 refine amh ⟨?_,by omega⟩;have:=aoJ h1 hk;omega
def lj(c:BCU)(l:List BP):Prop:=okC 4000 c/\l.length<=19/\∀x∈l,okP 4000 x
instance (c:BCU) (l:List BP):Decidable (lj c l):=by unfold lj;infer_instance
def LQ:Ctx:=CX [] []
def MU(p:List BP)(_k:KT):OLR:=match p with|[]=>D4 (some [RV.new 73 tP []]) (og (decide ((([]:List BP).length+p.length)*320<=140737488355328/\([]:List BP).length+p.length<=140737488355328)) (some [RV.new 73 tP (([]:List BP)++p)]))|_::_=>(og (decide ((([]:List BP).length+p.length)*320<=140737488355328/\([]:List BP).length+p.length<=140737488355328)) (some [RV.new 73 tP (([]:List BP)++p)]))
theorem acV(p:List BP):RS LQ 255 [.d (.sl tP) p] (MU p):=rsX
def GK:Cn 255 [(.sl tP)]:=cn λ(p:List BP)=>lf (p.length<=100000) [.new 73 tP p] λh=>by
 refine Ctx.Res.con (C:=LQ) (Gw (E:=[]) trivial) ?_ (fn:=Tryz.f255) (by kernel_rfl) (by kernel_rfl);refine acV _ ⟨0,?_⟩;unfold MU;rw[Ca (n:=([]:List BP).length) (m:=p.length) (by simp;omega) (by omega)];cases p with
 |nil=>exact dz _
 |cons a p=>rfl
def adg:List En:=[enT zP]
def Zd(p q:BP)(_k:KT):OLR:=og (decide (okP 4000 p/\okP 4000 q)) (some [RV.d .bool ((aB (dec p) (dec q))==0)])
def sO:Cn 98 [tP,tP]:=cn λ(p q:BP)=>lf (okP 4000 p/\okP 4000 q) [.d .bool (aB (dec p) (dec q)==0)] λh=>by
 refine aA adg (Zd p q) ⟨0,?_⟩;unfold Zd;rw[dT h]
def Iw:dJ:={keep:=true,run:=λ_ _ _=>none}
theorem KN:SpK 358 Iw:=by
 refine⟨by kernel_rfl,λR args k r h=>(by cases h),(λg h=>(by cases h)),λ_ _ e=>(by cases e)⟩
def FJ:List En:=[enT WU,enT sO,enK GK,⟨358,Iw,KN⟩]
def abt:NT:=[((328,6),{keep:=[0,1,2,6,7,8],hl:=2}),((357,3),{keep:=[0,1,2,3,8],hl:=2}),((357,15),{keep:=[0,1,2,3,8,9],hl:=2}),((328,22),{keep:=[0,1,2,6],hl:=2}),((328,34),{keep:=[0,1,2,6,7,8],hl:=2}),((295,14),{keep:=[0,1,5],hl:=2}),((295,32),{keep:=[0,1,5,6,7],hl:=2}),((245,5),{keep:=[1],hl:=0}),((292,0),{keep:=[],hl:=0}),((328,15),{keep:=[0,1,2,6,8],hl:=0}),((328,20),{keep:=[0,1,2,6],hl:=0}),((357,18),{keep:=[0,1,2,3,8,9,18,19,20,21,22,23,24,25,26,27,28,29,30,31,32,33,34],hl:=0}),((245,7),{keep:=[11],hl:=0})]
def iv:Ctx:=CX (ens FJ) abt
def rX(c:BCU)(l:List BP)(s328_7 s328_8:Int)(r328_1:List BP):Cfg:=⟨328,[.blk 0,.seq 19],[(0,.own 1),(1,SI (l.length:Int)),(2,.clo 293 [0]),(6,SI 20),(7,SI s328_7),(8,SI s328_8)],[.box 75 (Ty.split tCU c),.row 73 tP r328_1],2,[⟨292,[],0,4,[],2,none⟩,⟨245,[.seq 6],5,2,[(1,.own 1)],0,none⟩]⟩
def rl(c:BCU)(l:List BP)(s328_7 s328_8 s357_8:Int)(r357_1:List BP):Cfg:=⟨357,[.blk 0],[(0,.own 1),(1,SI s328_7),(2,SI s328_8),(3,.clo 293 [0]),(8,SI s357_8)],[.box 75 (Ty.split tCU c),.row 73 tP r357_1],2,[⟨328,[.seq 16,.blk 1,.lp 6,.blk 0,.seq 19],15,4,[(0,.own 1),(1,SI (l.length:Int)),(2,.clo 293 [0]),(6,SI 20),(8,SI s328_8)],2,none⟩,⟨292,[],0,4,[],2,none⟩,⟨245,[.seq 6],5,2,[(1,.own 1)],0,none⟩]⟩
def eE(c:BCU)(l:List BP)(s328_7 s357_8:Int)(r357_1:List BP):Cfg:=⟨357,[.blk 0],[(0,.own 1),(1,SI s328_7),(2,SI (l.length:Int)),(3,.clo 293 [0]),(8,SI s357_8)],[.box 75 (Ty.split tCU c),.row 73 tP r357_1],2,[⟨328,[.seq 21],20,4,[(0,.own 1),(1,SI (l.length:Int)),(2,.clo 293 [0]),(6,SI 20)],2,none⟩,⟨292,[],0,4,[],2,none⟩,⟨245,[.seq 6],5,2,[(1,.own 1)],0,none⟩]⟩
def Ez(c:BCU)(l:List BP)(s328_7 s328_8 s357_8 s357_9:Int)(r357_1:List BP):Cfg:=⟨357,[.blk 2,.blk 1,.seq 26,.lp 3,.blk 0],[(0,.own 1),(1,SI s328_7),(2,SI s328_8),(3,.clo 293 [0]),(8,SI s357_8),(9,SI s357_9)],[.box 75 (Ty.split tCU c),.row 73 tP r357_1],2,[⟨328,[.seq 16,.blk 1,.lp 6,.blk 0,.seq 19],15,4,[(0,.own 1),(1,SI (l.length:Int)),(2,.clo 293 [0]),(6,SI 20),(8,SI s328_8)],2,none⟩,⟨292,[],0,4,[],2,none⟩,⟨245,[.seq 6],5,2,[(1,.own 1)],0,none⟩]⟩
def gc(c:BCU)(l:List BP)(s328_7 s357_8 s357_9:Int)(r357_1:List BP):Cfg:=⟨357,[.blk 2,.blk 1,.seq 26,.lp 3,.blk 0],[(0,.own 1),(1,SI s328_7),(2,SI (l.length:Int)),(3,.clo 293 [0]),(8,SI s357_8),(9,SI s357_9)],[.box 75 (Ty.split tCU c),.row 73 tP r357_1],2,[⟨328,[.seq 21],20,4,[(0,.own 1),(1,SI (l.length:Int)),(2,.clo 293 [0]),(6,SI 20)],2,none⟩,⟨292,[],0,4,[],2,none⟩,⟨245,[.seq 6],5,2,[(1,.own 1)],0,none⟩]⟩
def je(c:BCU)(l r357_1:List BP)(s328_6:Int):Cfg:=⟨328,[.blk 2],[(0,.own 1),(1,SI (l.length:Int)),(2,.clo 293 [0]),(6,SI s328_6)],[.box 75 (Ty.split tCU c),.row 73 tP r357_1],2,[⟨292,[],0,4,[],2,none⟩,⟨245,[.seq 6],5,2,[(1,.own 1)],0,none⟩]⟩
def DZ(c:BCU)(l r357_1:List BP)(s328_6:Int):Cfg:=⟨328,[.blk 4,.seq 47,.blk 3,.lp 22,.blk 2],[(0,.own 1),(1,SI (l.length:Int)),(2,.clo 293 [0]),(6,SI s328_6),(7,SI 0),(8,SI (i64.wrap (2*s328_6)))],[.box 75 (Ty.split tCU c),.row 73 tP r357_1],2,[⟨292,[],0,4,[],2,none⟩,⟨245,[.seq 6],5,2,[(1,.own 1)],0,none⟩]⟩
def jw(c:BCU)(r357_1:List BP)(s295_5:Int):Cfg:=⟨295,[.blk 0,.seq 56],[(0,.own 1),(1,.clo 98 []),(5,SI s295_5)],[.box 75 (Ty.split tCU c),.row 73 tP r357_1],2,[⟨245,[.seq 8],7,1,[],0,none⟩]⟩
def dV(c:BCU)(r357_1:List BP)(s295_5 s295_5v s295_7:Int)(r295_1:List BP):Cfg:=⟨295,[.blk 2,.seq 49,.blk 1,.seq 55,.lp 14,.blk 0,.seq 56],[(0,.own 1),(1,.clo 98 []),(5,SI s295_5v),(6,.osl 1 20 ((s295_5:Int).toNat) (((r357_1.length:Int):Int).toNat-(s295_5:Int).toNat)),(7,SI s295_7)],[.box 75 (Ty.split tCU c),.row 73 tP r295_1],2,[⟨245,[.seq 8],7,1,[],0,none⟩]⟩
def ZK(c:BCU)(l:List BP)(k:KT):OLR:=og (decide (l.length<=100000)) (k 6 (rX c l 0 20 l))
theorem aje(c:BCU)(l:List BP):RS iv 245 [.d tCU c,.d (.sl tP) l] (ZK c l):=rsX
def sR(c:BCU)(l:List BP)(s328_7 s328_8:Int)(r328_1:List BP)(k:KT):OLR:=match decide (s328_8<=(l.length:Int))with|true=>k 3 (rl c l s328_7 s328_8 (i64.wrap (s328_7+1)) r328_1)|false=>k 3 (eE c l s328_7 (i64.wrap (s328_7+1)) r328_1)
theorem BZ(c:BCU)(l:List BP)(s328_7 s328_8:Int)(r328_1:List BP):RN iv 6 (rX c l s328_7 s328_8 r328_1) (sR c l s328_7 s328_8 r328_1):=rnX
def gV(c:BCU)(l:List BP)(s328_7 s357_8:Int)(r357_1:List BP)(k:KT):OLR:=match decide (s357_8<(l.length:Int))with|true=>k 15 (gc c l s328_7 s357_8 s357_8 r357_1)|false=>k 22 (je c l r357_1 20)
theorem ks(c:BCU)(l:List BP)(s328_7 s357_8:Int)(r357_1:List BP):RN iv 3 (eE c l s328_7 s357_8 r357_1) (gV c l s328_7 s357_8 r357_1):=rnX
def Tk(c:BCU)(l:List BP)(s328_7 s328_8 s357_8 s357_9:Int)(r357_1:List BP)(k:KT):OLR:=match decide (s357_9>s328_7)with|true=>(match aH r357_1 s357_9 with|some _=>(match true,r357_1[(s357_9).toNat]? with|true,some x1=>(match aH r357_1 (i64.wrap (s357_9-1))with|some _=>(match true,r357_1[(i64.wrap (s357_9-1)).toNat]? with|true,some x2=>(og (decide (okC 4000 c/\okP 4000 x1/\okP 4000 x2)) (match decide ((NP (dC c) (dec x1) (dec x2))<0)with|true=>(match aH r357_1 (i64.wrap (s357_9-1))with|some _=>(match true,r357_1[(i64.wrap (s357_9-1)).toNat]? with|true,some x3=>(match aH r357_1 s357_9 with|some _=>(match true,r357_1[(s357_9).toNat]? with|true,some x4=>(match aH r357_1 s357_9 with|some _=>(match true,r357_1[(s357_9).toNat]? with|true,some _=>(match aH (r357_1.set ((s357_9).toNat) x3) (i64.wrap (s357_9-1))with|some _=>(match true,(r357_1.set ((s357_9).toNat) x3)[(i64.wrap (s357_9-1)).toNat]? with|true,some _=>k 15 (Ez c l s328_7 s328_8 s357_8 (i64.wrap (s357_9-1)) ((r357_1.set ((s357_9).toNat) x3).set ((i64.wrap (s357_9-1)).toNat) x4))|_,_=>none)|none=>none)|_,_=>none)|none=>none)|_,_=>none)|none=>none)|_,_=>none)|none=>none)|false=>k 3 (rl c l s328_7 s328_8 (i64.wrap (s357_8+1)) r357_1)))|_,_=>none)|none=>none)|_,_=>none)|none=>none)|false=>k 3 (rl c l s328_7 s328_8 (i64.wrap (s357_8+1)) r357_1)
def gi(c:BCU)(l:List BP)(s328_7 s357_8 s357_9:Int)(r357_1:List BP)(k:KT):OLR:=match decide (s357_9>s328_7)with|true=>(match aH r357_1 s357_9 with|some _=>(match true,r357_1[(s357_9).toNat]? with|true,some x1=>(match aH r357_1 (i64.wrap (s357_9-1))with|some _=>(match true,r357_1[(i64.wrap (s357_9-1)).toNat]? with|true,some x2=>(og (decide (okC 4000 c/\okP 4000 x1/\okP 4000 x2)) (match decide ((NP (dC c) (dec x1) (dec x2))<0)with|true=>(match aH r357_1 (i64.wrap (s357_9-1))with|some _=>(match true,r357_1[(i64.wrap (s357_9-1)).toNat]? with|true,some x3=>(match aH r357_1 s357_9 with|some _=>(match true,r357_1[(s357_9).toNat]? with|true,some x4=>(match aH r357_1 s357_9 with|some _=>(match true,r357_1[(s357_9).toNat]? with|true,some _=>(match aH (r357_1.set ((s357_9).toNat) x3) (i64.wrap (s357_9-1))with|some _=>(match true,(r357_1.set ((s357_9).toNat) x3)[(i64.wrap (s357_9-1)).toNat]? with|true,some _=>k 15 (gc c l s328_7 s357_8 (i64.wrap (s357_9-1)) ((r357_1.set ((s357_9).toNat) x3).set ((i64.wrap (s357_9-1)).toNat) x4))|_,_=>none)|none=>none)|_,_=>none)|none=>none)|_,_=>none)|none=>none)|_,_=>none)|none=>none)|false=>k 3 (eE c l s328_7 (i64.wrap (s357_8+1)) r357_1)))|_,_=>none)|none=>none)|_,_=>none)|none=>none)|false=>k 3 (eE c l s328_7 (i64.wrap (s357_8+1)) r357_1)
theorem jH(c:BCU)(l:List BP)(s328_7 s357_8 s357_9:Int)(r357_1:List BP):RN iv 15 (gc c l s328_7 s357_8 s357_9 r357_1) (gi c l s328_7 s357_8 s357_9 r357_1):=rnX
def iO(c:BCU)(l r357_1:List BP)(s328_6:Int)(k:KT):OLR:=match decide (s328_6<(l.length:Int))with|true=>k 34 (DZ c l r357_1 s328_6)|false=>(match decide ((r357_1.length:Int)<2)with|true=>some [RV.new 73 tP r357_1]|false=>k 14 (jw c r357_1 1))
theorem lY(c:BCU)(l r357_1:List BP)(s328_6:Int):RN iv 22 (je c l r357_1 s328_6) (iO c l r357_1 s328_6):=rnX
def iZ(c:BCU)(r357_1:List BP)(s295_5:Int)(k:KT):OLR:=match decide (s295_5<(r357_1.length:Int))with|true=>(match aH r357_1 s295_5 with|some _=>(match true,r357_1[(s295_5).toNat]? with|true,some x1=>(match aH r357_1 (i64.wrap (s295_5-1))with|some _=>(match true,r357_1[(i64.wrap (s295_5-1)).toNat]? with|true,some x2=>(og (decide (okP 4000 x1/\okP 4000 x2)) (match aB (dec x1) (dec x2)==0 with|true=>(og (decide ((0:Int)<=s295_5/\s295_5<=(r357_1.length:Int)/\(r357_1.length:Int)<=(r357_1.length:Int))) (k 32 (dV c r357_1 s295_5 s295_5 1 r357_1)))|false=>k 14 (jw c r357_1 (i64.wrap (s295_5+1)))))|_,_=>none)|none=>none)|_,_=>none)|none=>none)|false=>some [RV.new 73 tP r357_1]
theorem mh(c:BCU)(r357_1:List BP)(s295_5:Int):RN iv 14 (jw c r357_1 s295_5) (iZ c r357_1 s295_5):=rnX
def gk(c:BCU)(r357_1:List BP)(s295_5 s295_5v s295_7:Int)(r295_1:List BP)(k:KT):OLR:=match decide (s295_7<((((r357_1.length:Int):Int).toNat-(s295_5:Int).toNat:Nat):Int))with|true=>(match true,decide ((0:Int)<=s295_7/\s295_7<((((r357_1.length:Int):Int).toNat-(s295_5:Int).toNat:Nat):Int))with|true,true=>(match true,r295_1[(s295_5:Int).toNat+(s295_7).toNat]? with|true,some x1=>(match true,decide ((0:Int)<=i64.wrap (s295_7-1)/\i64.wrap (s295_7-1)<((((r357_1.length:Int):Int).toNat-(s295_5:Int).toNat:Nat):Int))with|true,true=>(match true,r295_1[(s295_5:Int).toNat+(i64.wrap (s295_7-1)).toNat]? with|true,some x2=>(og (decide (okP 4000 x1/\okP 4000 x2)) (match !(aB (dec x1) (dec x2)==0)with|true=>(match true,decide ((0:Int)<=s295_7/\s295_7<((((r357_1.length:Int):Int).toNat-(s295_5:Int).toNat:Nat):Int))with|true,true=>(match true,r295_1[(s295_5:Int).toNat+(s295_7).toNat]? with|true,some x3=>(match aH r295_1 s295_5v with|some _=>(match true,r295_1[(s295_5v).toNat]? with|true,some _=>k 32 (dV c r357_1 s295_5 (i64.wrap (s295_5v+1)) (i64.wrap (s295_7+1)) (r295_1.set ((s295_5v).toNat) x3))|_,_=>none)|none=>none)|_,_=>none)|_,_=>none)|false=>k 32 (dV c r357_1 s295_5 s295_5v (i64.wrap (s295_7+1)) r295_1)))|_,_=>none)|_,_=>none)|_,_=>none)|_,_=>none)|false=>(og (decide ((0:Int)<=s295_5v/\s295_5v<=(r295_1.length:Int)/\(r295_1.length:Int)<=(r295_1.length:Int))) (og (decide ((0:Int)<=0/\0<=s295_5v/\s295_5v<=((ji (Ty.zero tP) ((s295_5v:Int).toNat) (((r295_1.length:Int):Int).toNat-(s295_5v:Int).toNat) r295_1).length:Int))) (some [RV.d (.sl tP) (((ji (Ty.zero tP) ((s295_5v:Int).toNat) (((r295_1.length:Int):Int).toNat-(s295_5v:Int).toNat) r295_1).drop ((0:Int).toNat)).take ((s295_5v:Int).toNat-(0:Int).toNat))])))
theorem jE(c:BCU)(r357_1:List BP)(s295_5 s295_5v s295_7:Int)(r295_1:List BP):RN iv 32 (dV c r357_1 s295_5 s295_5v s295_7 r295_1) (gk c r357_1 s295_5 s295_5v s295_7 r295_1):=rnX
theorem nR{α:Type}(L:List α)(x:α)(T:List α):(L++x::T)[L.length]?=some x:=by simp
theorem CH{α:Type}(x y:α)(T:List α):∀L:List α,(L++x::T).set L.length y=L++y::T
 |[]=>rfl
 |a::L=>by simp[CH x y T L]
section
variable (c:BCU) (l:List BP)
def aht(ys:List BP)(r:List RV):Prop:=r=[.new 73 tP ys]\/r=[.d (.sl tP) ys]
abbrev qC(i:Nat)(g:Cfg)(ys:List BP):Prop:=∃r,iv.Runs i g r/\aht ys r
end
section
variable (c:BCU) (l:List BP) (hc:okC 4000 c)
include hc
theorem zH(hl:l.length<=19)(i:Nat)(ys:List BP):∀(L:List BP) (a:BP) (R:List BP),(∀x∈L,okP 4000 x)->okP 4000 a->(L.reverse++a::R).length<=19->i<=19->
  qC 3 (eE c l 0 ((i+1:Nat):Int) ((uI (ltP (dC c)) L a).reverse++R)) ys->qC 15 (gc c l 0 (i:Int) (L.length:Int) (L.reverse++a::R)) ys
 |[],a,R,hL,ha,h19,hi,⟨r,⟨n,hn⟩,hr⟩=>by
  refine⟨r,jH _ _ _ _ _ _ ⟨n,?_⟩,hr⟩;unfold gi;rw[dF (show ¬((([]:List BP).length:Nat):Int)>0 by simp),aT (by omega)];exact hn
 |b::L,a,R,hL,ha,h19,hi,hnext=>by
  have hb:=hL b (by simp);have hln:L.length<=18:=by simp at h19;omega
  have hrev:(b::L).reverse++a::R=L.reverse++b::a::R:=by simp
  have e1:((b::L).length:Int)=((L.length+1:Nat):Int):=rfl;have ew:i64.wrap (((L.length+1:Nat):Int)-1)=(L.length:Int):=by rw[aO (by omega) (by omega)];omega
  have g1:(L.reverse++b::a::R)[L.length+1]?=some a:=by
   simp
  have g0:(L.reverse++b::a::R)[L.length]?=some b:=by
   simp
  have s1:(L.reverse++b::a::R).set (L.length+1) b=L.reverse++b::b::R:=by
   simp
  have s2:(L.reverse++b::b::R).set L.length a=L.reverse++a::b::R:=by
   simp
  have g2:(L.reverse++b::b::R)[L.length]?=some b:=by
   simp
  have key:∀r n,(match ltP (dC c) a b with
    |true=>iv.k n 15 (gc c l 0 (i:Int) (L.length:Int) (L.reverse++a::b::R))
    |false=>iv.k n 3 (eE c l 0 ((i+1:Nat):Int) (L.reverse++b::a::R)))=some r->
    gi c l 0 (i:Int) ((b::L).length:Int) ((b::L).reverse++a::R) (iv.k n)=some r:=λr n h=>by
   rw[hrev,e1];unfold gi;rw[dT (show((L.length+1:Nat):Int)>0 by omega),ew,ai,g1,ai,g0,show((L.length+1:Nat):Int).toNat=L.length+1 by omega,show((L.length:Nat):Int).toNat=L.length by omega,g1,g0];dsimp only;rw[dT (show okC 4000 c/\okP 4000 a/\okP 4000 b from⟨hc,ha,hb⟩),s1,ai,g2,s2,aT (by omega)];dsimp only;unfold ltP at h;exact h
  unfold uI at hnext;cases hlt:ltP (dC c) a b
  ·rw[hlt,cond_false]at hnext;obtain⟨r,⟨n,hn⟩,hr⟩:=hnext;refine⟨r,jH _ _ _ _ _ _ ⟨n,key r n ?_⟩,hr⟩;rw[hlt];simpa using hn
  ·rw[hlt,cond_true]at hnext;obtain⟨r,⟨n,hn⟩,hr⟩:=zH hl i ys L a (b::R) (λx hx=>hL x (amv _ hx)) ha (by simp at h19 ⊢;omega) hi (by simpa using hnext);refine⟨r,jH _ _ _ _ _ _ ⟨n,key r n ?_⟩,hr⟩;rw[hlt];exact hn
theorem zY(hl:l.length<=19)(ys:List BP):∀(R D:List BP),(∀x∈D,okP 4000 x)->(∀x∈R,okP 4000 x)->D.length+R.length=l.length->
  qC 22 (je c l (R.foldl (uI (ltP (dC c))) D).reverse 20) ys->qC 3 (eE c l 0 (D.length:Int) (D.reverse++R)) ys
 |[],D,hD,hR,hlen,⟨r,⟨n,hn⟩,hr⟩=>by
  refine⟨r,ks _ _ _ _ _ ⟨n,?_⟩,hr⟩;unfold gV;rw[aX (by simp at hlen;omega),amO];exact hn
 |a::R,D,hD,hR,hlen,hnext=>by
  have ha:=hR a (by simp);have hlen':D.length+(R.length+1)=l.length:=hlen
  have h1:=zY hl ys R (uI (ltP (dC c)) D a) (λx hx=>by
   rcases yk.1 hx with e|e
   ·rw[e];exact ha
   ·exact hD x e) (λx hx=>hR x (amv _ hx)) (by rw[tn];omega) hnext
  rw[tn]at h1;obtain⟨r,⟨n,hn⟩,hr⟩:=zH c l hc hl D.length ys D a R hD ha (by simp;omega) (by omega) h1;refine⟨r,ks _ _ _ _ _ ⟨n,?_⟩,hr⟩;unfold gV;rw[aK (by omega)];exact hn
omit hc in
theorem uT(r0:List BP)(b:Nat)(h19:r0.length<=19):∀(S K J:List BP) (p:BP),(∀x∈K++(J++p::S),okP 4000 x)->(K++(J++p::S)).length=r0.length->∀k2:Nat,1<=k2->b+k2=K.length+J.length+1->
  qC 32 (dV c r0 (b:Int) (K.length:Int) (k2:Int) (K++(J++p::S))) (K++qv fG p S)
 |[],K,J,p,hok,hlen,k2,h1,hb=>by
  refine⟨_,jE _ _ _ _ _ _ ⟨0,?_⟩,.inr rfl⟩;have hlen':K.length+(J.length+1)=r0.length:=by simpa using hlen
  unfold gk;rw[dF (show ¬(k2:Int)<(((r0.length:Int).toNat-(b:Int).toNat:Nat):Int) by omega)];dsimp only;rw[dT (show(0:Int)<=(K.length:Int)/\(K.length:Int)<=((K++(J++[p])).length:Int)/\((K++(J++[p])).length:Int)<=((K++(J++[p])).length:Int) by rw[hlen];omega)]
  have hcl:((ji (Ty.zero tP) ((K.length:Int).toNat) ((((K++(J++[p])).length:Int)).toNat-(K.length:Int).toNat) (K++(J++[p])))).take K.length=K:=by
   unfold ji;rw[show((K.length:Int)).toNat=K.length by omega,amH,List.take_append_of_le_length (by simp),ao8,Nat.min_self,List.take_left' rfl]
  have hcn:K.length<=(ji (Ty.zero tP) ((K.length:Int).toNat) ((((K++(J++[p])).length:Int)).toNat-(K.length:Int).toNat) (K++(J++[p]))).length:=by
   have:=congrArg List.length hcl;rw[amV]at this;omega
  rw[dT (show(0:Int)<=0/\0<=(K.length:Int)/\(K.length:Int)<=((ji (Ty.zero tP) ((K.length:Int).toNat) ((((K++(J++[p])).length:Int)).toNat-(K.length:Int).toNat) (K++(J++[p]))).length:Int) by omega)];rw[show((0:Int)).toNat=0 from rfl,an3,show((K.length:Int)).toNat-0=K.length by omega,hcl];simp[qv]
 |q::S,K,J,p,hok,hlen,k2,h1,hb=>by
  have hlen':K.length+(J.length+(S.length+1+1))=r0.length:=by simpa using hlen
  have hq:okP 4000 q:=hok q (by simp);have hp:okP 4000 p:=hok p (by simp)
  have g1:(K++(J++p::q::S))[(b:Int).toNat+(k2:Int).toNat]?=some q:=by
   rw[show(b:Int).toNat+(k2:Int).toNat=(K++(J++[p])).length by simp;omega];simp
  have ew:i64.wrap ((k2:Int)-1)=((k2-1:Nat):Int):=by rw[aO (by omega) (by omega)];omega
  have g0:(K++(J++p::q::S))[(b:Int).toNat+((k2-1:Nat):Int).toNat]?=some p:=by
   rw[show(b:Int).toNat+((k2-1:Nat):Int).toNat=(K++J).length by simp;omega];simp
  have key:∀r n,(match fG q p with
    |true=>iv.k n 32 (dV c r0 (b:Int) (K.length:Int) ((k2+1:Nat):Int) (K++(J++p::q::S)))
    |false=>iv.k n 32 (dV c r0 (b:Int) ((K.length+1:Nat):Int) ((k2+1:Nat):Int) ((K++(J++p::q::S)).set K.length q)))=some r->
    gk c r0 (b:Int) (K.length:Int) (k2:Int) (K++(J++p::q::S)) (iv.k n)=some r:=λr n h=>by
   unfold gk;rw[dT (show(k2:Int)<(((r0.length:Int).toNat-(b:Int).toNat:Nat):Int) by omega)];dsimp only;rw[dT (show(0:Int)<=(k2:Int)/\(k2:Int)<(((r0.length:Int).toNat-(b:Int).toNat:Nat):Int) by omega),g1];dsimp only;rw[ew,dT (show(0:Int)<=((k2-1:Nat):Int)/\((k2-1:Nat):Int)<(((r0.length:Int).toNat-(b:Int).toNat:Nat):Int) by omega),g0];dsimp only;rw[dT (show okP 4000 q/\okP 4000 p from⟨hq,hp⟩),aT (k:=k2) (by omega)];unfold fG at h;cases he:aB (dec q) (dec p)==0<;>rw[he]at h
   ·try dsimp only[Bool.not_false]
    have g3:∃y,(K++(J++p::q::S))[K.length]?=some y:=⟨_,amg (by simp;omega)⟩
    obtain⟨y,g3⟩:=g3;rw[ai,g3,show((K.length:Int)).toNat=K.length by omega,g3,aT (k:=K.length) (by omega)];exact h
   ·exact h
  have hcm:qv fG p (q::S)=bif fG q p then qv fG q S else q::qv fG q S:=rfl;rw[hcm];cases he:fG q p
  ·have hset:∃J',(K++(J++p::q::S)).set K.length q=(K++[q])++(J'++q::S)/\J'.length=J.length/\∀x∈J',x∈J++[p]:=by
    cases J with
    |nil=>
     refine⟨[],?_,rfl,λx hx=>by cases hx⟩;simp
    |cons h T=>
     refine⟨T++[p],?_,by simp,λx hx=>by simp at hx ⊢;exact .inr hx⟩;simp
   obtain⟨J',e,eJ,mJ⟩:=hset
   obtain⟨r,⟨n,hn⟩,hr⟩:=uT r0 b h19 S (K++[q]) J' q (λx hx=>by
    simp only[amG,amy,anW,apb]at hx;rcases hx with(hx|hx)|(hx|hx|hx)
    ·exact hok x (by simp[hx])
    ·rw[hx];exact hq
    ·have:=mJ x hx;simp only[amG,amy,anW,apb]at this;rcases this with h|h
     ·exact hok x (by simp[h])
     ·rw[h];exact hp
    ·rw[hx];exact hq
    ·exact hok x (by simp[hx])) (by simp;omega) (k2+1) (by omega) (by simp;omega)
   refine⟨r,jE _ _ _ _ _ _ ⟨n,key r n ?_⟩,?_⟩
   ·rw[he,e];have:(K++[q]).length=K.length+1:=by simp
    rw[this]at hn;exact hn
   ·simpa using hr
  ·have e2:K++(J++p::q::S)=K++((J++[p])++q::S):=by simp
   obtain⟨r,⟨n,hn⟩,hr⟩:=uT r0 b h19 S K (J++[p]) q (e2▸hok) (e2▸hlen) (k2+1) (by omega) (by simp;omega);refine⟨r,jE _ _ _ _ _ _ ⟨n,key r n ?_⟩,hr⟩;rw[he,e2];exact hn
omit hc in
theorem zZ:∀(S A:List BP) (p:BP),(∀x∈A++p::S,okP 4000 x)->(A++p::S).length<=19->
  qC 14 (jw c (A++p::S) ((A.length+1:Nat):Int)) (A++p::qv fG p S)
 |[],A,p,hok,h19=>by
  refine⟨_,mh _ _ _ ⟨0,?_⟩,.inl rfl⟩;unfold iZ;rw[aX (by simp)];rfl
 |q::S,A,p,hok,h19=>by
  have hq:okP 4000 q:=hok q (by simp);have hp:okP 4000 p:=hok p (by simp);have h19':A.length+(S.length+1+1)<=19:=by simpa using h19
  have g1:(A++p::q::S)[A.length+1]?=some q:=by
   simp
  have g0:(A++p::q::S)[A.length]?=some p:=nR A p (q::S);have ew:i64.wrap (((A.length+1:Nat):Int)-1)=(A.length:Int):=by rw[aO (by omega) (by omega)];omega
  have key:∀r n,(match fG q p with
    |true=>iv.k n 32 (dV c (A++p::q::S) ((A.length+1:Nat):Int) ((A.length+1:Nat):Int) 1 (A++p::q::S))
    |false=>iv.k n 14 (jw c (A++p::q::S) ((A.length+1+1:Nat):Int)))=some r->
    iZ c (A++p::q::S) ((A.length+1:Nat):Int) (iv.k n)=some r:=λr n h=>by
   unfold iZ;rw[aK (by simp only[amU,amD];omega),ai,g1,show((A.length+1:Nat):Int).toNat=A.length+1 by omega,g1];dsimp only;rw[ew,ai,g0,show((A.length:Nat):Int).toNat=A.length by omega,g0];dsimp only;rw[dT (show okP 4000 q/\okP 4000 p from⟨hq,hp⟩),aT (k:=A.length+1) (by omega),dT (show(0:Int)<=((A.length+1:Nat):Int)/\((A.length+1:Nat):Int)<=((A++p::q::S).length:Int)/\((A++p::q::S).length:Int)<=((A++p::q::S).length:Int) by simp;omega)];exact h
  have hcm:qv fG p (q::S)=bif fG q p then qv fG q S else q::qv fG q S:=rfl;have e2:A++p::q::S=(A++[p])++q::S:=by simp
  rw[hcm];cases he:fG q p
  ·obtain⟨r,⟨n,hn⟩,hr⟩:=zZ S (A++[p]) q (e2▸hok) (e2▸h19);refine⟨r,mh _ _ _ ⟨n,key r n ?_⟩,?_⟩
   ·rw[he,e2];have:(A++[p]).length=A.length+1:=by simp
    rw[this]at hn;exact hn
   ·rw[amH]at hr;exact hr
  ·obtain⟨r,⟨n,hn⟩,hr⟩:=uT c (A++p::q::S) (A.length+1) h19 S (A++[p]) [] q (e2▸hok) (by rw[e2];rfl) 1 (amm _) (by simp);refine⟨r,mh _ _ _ ⟨n,key r n ?_⟩,?_⟩
   ·rw[he,e2];have:(A++[p]).length=A.length+1:=by simp
    rw[this,e2]at hn;exact hn
   ·rw[amH]at hr;exact hr
theorem Vm(hl:l.length<=19)(ho:∀x∈l,okP 4000 x):qC 6 (rX c l 0 20 l) (dq (dC c) l):=by
 have hlast:∀r:List BP,(∀x∈r,okP 4000 x)->r.length<=19->qC 22 (je c l r 20) (Sf fG r):=λr hr h19=>by
  cases r with
  |nil=>
   refine⟨_,lY _ _ _ _ ⟨0,?_⟩,.inl rfl⟩;unfold iO;rw[dF (show ¬(20:Int)<(l.length:Int) by omega)];rfl
  |cons p S=>
   cases S with
   |nil=>
    refine⟨_,lY _ _ _ _ ⟨0,?_⟩,.inl rfl⟩;unfold iO;rw[dF (show ¬(20:Int)<(l.length:Int) by omega)];rfl
   |cons q S=>
    obtain⟨r',⟨n,hn⟩,hr'⟩:=zZ c (q::S) [] p hr h19;refine⟨r',lY _ _ _ _ ⟨n,?_⟩,hr'⟩;unfold iO;rw[dF (show ¬(20:Int)<(l.length:Int) by omega)];dsimp only;rw[dF (show ¬((p::q::S).length:Int)<2 by simp;omega)];simpa using hn
 have hsort:qC 22 (je c l (Hp (ltP (dC c)) l) 20) (dq (dC c) l):=hlast _ (λx hx=>ho x (Ds.1 hx)) (by rw[E9];exact hl)
 have h3:qC 3 (eE c l 0 1 l) (dq (dC c) l):=by
  cases l with
  |nil=>
   obtain⟨r,⟨n,hn⟩,hr⟩:=hsort;refine⟨r,ks _ _ _ _ _ ⟨n,?_⟩,hr⟩;unfold gV;rw[dF (show ¬(1:Int)<(([]:List BP).length:Int) by simp)];exact hn
  |cons x l=>
   have:=zY c (x::l) hc hl _ l [x] (λy hy=>ho y (by simp at hy;simp[hy])) (λy hy=>ho y (amv _ hy)) (by simp;omega) hsort;simpa using this
 obtain⟨r,⟨n,hn⟩,hr⟩:=h3;refine⟨r,BZ _ _ _ _ _ ⟨n,?_⟩,hr⟩;unfold sR;rw[dF (show ¬(20:Int)<=(l.length:Int) by omega),aO (x:=0+1) (by omega) (by omega)];exact hn
end
def NE:Cn 245 [tCU,(.sl tP)]:=cn λ(c:BCU) (l:List BP)=>lf (lj c l) [.d (.sl tP) (dq (dC c) l)] λh=>by
 obtain⟨hc,hl,ho⟩:=h;obtain⟨r,⟨n,hn⟩,hr⟩:=Vm c l hc hl ho
 have hres:iv.Res 245 [.d tCU c,.d (.sl tP) l] r:=by
  refine aje _ _ ⟨n,?_⟩;unfold ZK;rw[dT (show l.length<=100000 by omega)];exact hn
 rcases hr with e|e
 ·rw[e]at hres;exact Con.new_d (et:=73) (a8 FJ hres)
 ·rw[e]at hres;exact a8 FJ hres
end
section
def pB(x u y v k:Rat):Pt:=mkP (mkR x u k) (mkR y v k)
def ftL(l c:Ln):Rat×Rat:=(ftX l c,ftY l c)
def Ci(l c:Ln):Rat:=(ftX l c-c.1)*(ftX l c-c.1)+(ftY l c-c.2.1)*(ftY l c-c.2.1)
def fN(l c:Ln):Rat:=(c.2.2-Ci l c)/cG l
def Lw(l:Ln):Bool:=decide (l.2.1<0)||(decide (l.2.1=0)&&decide (-l.1<0))
def uL(l:Ln):Rat:=bif Lw l then-l.2.1 else l.2.1
def uU(l:Ln):Rat:=bif Lw l then- -l.1 else-l.1
def lcM(l c:Ln):Pt:=pB (ftX l c) (-uL l) (ftY l c) (-uU l) (fN l c)
def lcN(l c:Ln):Pt:=pB (ftX l c) (uL l) (ftY l c) (uU l) (fN l c)
def mH(l c:Ln):List Pt:=bif decide (fN l c<0)then []else bif decide (fN l c=0)then [atP (ftL l c)]else [lcM l c,lcN l c]
def Sd(l m:Ln):Int:=bif !decide (eI l m=0)then 0 else bif pD l m then 10 else 0
def Dq(c d:Ln):List Pt:=bif jL c d then []else mH (o0 c d) c
def Ur(c d:Ln):Int:=bif pE c d then 10 else 0
def jW(a b:Cv):List Pt:=bif a.1&&b.1 then Dq (ciC a) (ciC b)else bif a.1 then mH (lnC b) (ciC a)else bif b.1 then mH (lnC a) (ciC b)else qu (lnC a) (lnC b)
def agt(a b:Cv):Int:=bif a.1&&b.1 then Ur (ciC a) (ciC b)else bif a.1 then 0 else bif b.1 then 0 else Sd (lnC a) (lnC b)
def dS(c:Ln):Pt:=pB c.1 (-1) c.2.1 0 c.2.2
def eu(c:Ln):Pt:=pB c.1 1 c.2.1 0 c.2.2
theorem Wc(l c:Ln):Tj l (c.1,c.2.1)=ftL l c:=rfl
theorem QL{x u y v k:Rat}[h:Nn k]:Rpd (pB x u y v k):=aff Ms Ms (Bu _ _ _ _ _)
section
variable {l c:Ln}
theorem aei [BdL l]:Bd (uL l) 12/\Bd (uU l) 12:=by
 unfold uL uU;cases Lw l
 ·exact⟨(inferInstance:Bd l.2.1 12),(inferInstance:Bd (-l.1) 12)⟩
 ·exact⟨(inferInstance:Bd (-l.2.1) 12),(inferInstance:Bd (- -l.1) 12)⟩
end
theorem Nz{x u y v k:Rat}{a b c:Nat}(h1:Bd x a)(h2:Bd u b)(h3:Bd y a)(h4:Bd v b)(h5:Bd k c){n:Nat}(hn:a+(b+c)+1<=n):Bd (pB x u y v k) n:=by
 have z:bdR n 0:=b9 sQ.le (by omega);have i1:Bd (mkR x u k) (a+(b+c)+1):=inferInstance;have i2:Bd (mkR y v k) (a+(b+c)+1):=inferInstance;have f1:=i1.mono hn;have f2:=i2.mono hn;refine⟨?_⟩;unfold pB mkP rdP;dsimp only;refine⟨f1.le.1,f1.le.2.1,f2.le.1,f2.le.2.1,?_⟩;cases decide ((mkR x u k).2.1=0)&&decide ((mkR y v k).2.1=0)
 ·cases decide ((mkR x u k).2.1=0)
  ·exact f1.le.2.2
  ·exact f2.le.2.2
 ·exact z
section
variable {l c:Ln}
theorem NG [BdL l][h:BdC c]:Bd (fN l c) 1000:=by
 obtain⟨f1,f2,_,_⟩:=vw (l:=l) (c:=c);have hx:=h.x;have hy:=h.y;have hq:=h.q;have i1:Bd (cG l) 49:=inferInstanceAs (Bd (l.1*l.1+l.2.1*l.2.1) _);have i2:Bd (Ci l c) 673:=(inferInstance:Bd ((ftX l c-c.1)*(ftX l c-c.1)+(ftY l c-c.2.1)*(ftY l c-c.2.1)) _).mono (by decide);exact(inferInstance:Bd ((c.2.2-Ci l c)/cG l) _).mono (by decide)
theorem GC [BdL l][h:BdC c]:Bd (ftL l c) 163:=by
 obtain⟨f1,f2,_,_⟩:=vw (l:=l) (c:=c);exact(inferInstance:Bd ((ftX l c,ftY l c):Rat×Rat) _).mono (by decide)
theorem adL [BdL l][BdC c]:Bd (lcM l c) 1200/\Bd (lcN l c) 1200:=by
 obtain⟨f1,f2,_,_⟩:=vw (l:=l) (c:=c);obtain⟨d1,d2⟩:=aei (l:=l);have k:=NG (l:=l) (c:=c);have n1:Bd (-uL l) 12:=inferInstance;have n2:Bd (-uU l) 12:=inferInstance;exact⟨Nz f1 n1 f2 n2 k (by decide),Nz f1 d1 f2 d2 k (by decide)⟩
theorem wm [BdL l][BdC c]:(mH l c).length<=2/\∀p∈mH l c,Bd p 1200/\Rpd p:=by
 unfold mH;by_cases h0:fN l c<0
 ·rw[amh h0];exact⟨by simp,λp hp=>by cases hp⟩
 ·rw[ami h0];by_cases h1:fN l c=0
  ·rw[amh h1];have:=GC (l:=l) (c:=c);refine⟨by simp,λp hp=>?_⟩;have:p=atP (ftL l c):=by simpa using hp
   rw[this];exact⟨(inferInstance:Bd (atP (ftL l c)) _).mono (by decide),inferInstance⟩
  ·rw[ami h1];obtain⟨q1,q2⟩:=adL (l:=l) (c:=c);have nn:Nn (fN l c):=⟨by grind⟩
   refine⟨by simp,λp hp=>?_⟩;have:p=lcM l c\/p=lcN l c:=by simpa using hp
   rcases this with e|e<;>rw[e]
   ·exact⟨q1,QL⟩
   ·exact⟨q2,QL⟩
end
end
namespace RE
end RE
namespace RE
theorem OU{q:Pt}:pX (rdP q)=pX q/\pY (rdP q)=pY q:=by
 unfold rdP pX pY;by_cases h1:q.2.1=0
 ·by_cases h2:q.2.2.2.1=0
  ·rw[amh h1,amh h2];dsimp only;rw[h1,h2,ef,ef,ef,ef];exact⟨rfl,rfl⟩
  ·rw[ami h2,aow];exact⟨rfl,rfl⟩
 ·rw[ami h1,apr];exact⟨rfl,rfl⟩
theorem aiK{x y:Rt}(h:C7 x y):pR (mkP x y)=(vR x,vR y):=by
 unfold mkP;refine apB (OU.1.trans ?_) (OU.2.trans ?_)
 ·unfold pX vR;dsimp only;by_cases e:x.2.1=0
  ·rw[e,ef,ef]
  ·rw[ami e];rfl
 ·unfold pY vR;dsimp only;by_cases e:x.2.1=0
  ·rw[amh e];rfl
  ·rw[ami e];rcases h with h|h|h
   ·exact absurd h e
   ·rw[h,ef,ef]
   ·rw[cond_false,h]
theorem Wp{m:Rat}(h:0<m):0<rq m:=by
 have:=Qq (m:=m) (by grind);rw[dL h]at this;exact abC.1 this
end RE
section
namespace RE
theorem alU(A B x y u v s:RE):A*(x+u*s)+B*(y+v*s)=(A*x+B*y)+(A*u+B*v)*s:=by grind
theorem alR(x y u v s p q:RE):(x+u*s-p)*(x+u*s-p)+(y+v*s-q)*(y+v*s-q)=((x-p)*(x-p)+(y-q)*(y-q))+((x-p)*u+(y-q)*v)*s+((x-p)*u+(y-q)*v)*s+(u*u+v*v)*(s*s):=by grind
theorem alL(b n r:RE):b*(r*n)=b*n*r:=by grind
theorem alM(r n:RE):r*n*(r*n)=r*r*(n*n):=by grind
theorem ak3(x y p q a b m n:RE):(x-a)*(x-a)+(y-b)*(y-b)=((x-p)*(x-p)+(y-q)*(y-q))+(a*a+b*b-m)-(p*p+q*q-n)-((1+1)*(a-p)*x+(1+1)*(b-q)*y)+(m-n):=by grind
theorem alo(a b n m:RE):n+a-b-(a-b)+(m-n)=m:=by grind
theorem Cm(x u y v k:Rat):pR (pB x u y v k)=(v2 x u k,v2 y v k):=by
 unfold pB;rw[aiK (Bu _ _ _ _ _),vR_mk,vR_mk]
section
variable {l c:Ln}
theorem JH(hl:l.1≠0\/l.2.1≠0):0<cG l:=by
 have h:=oT hl;have h1:0<=cG l:=acG (l.1,l.2.1);grind
theorem Fg(hl:l.1≠0\/l.2.1≠0):fN l c*(cG l*cG l)=jd l c:=by
 have hn:=oT hl;have t:vlL l c.1 c.2.1/cG l*cG l=vlL l c.1 c.2.1:=anR hn;have k:(c.2.2-Ci l c)/cG l*cG l=c.2.2-Ci l c:=anR hn;unfold fN;rw[<-Rat.mul_assoc,k];unfold Ci ftX ftY jd;generalize vlL l c.1 c.2.1/cG l=s at*
 rw[<-t];unfold cG;grind
theorem acD(hl:l.1≠0\/l.2.1≠0):(fN l c<0↔jd l c<0)/\(fN l c=0↔jd l c=0):=by
 have hn:=JH hl;have h2:0<cG l*cG l:=am9 hn hn;have e:=Fg (c:=c) hl;rcases(by grind:fN l c<0\/fN l c=0\/0<fN l c)with h|h|h
 ·have:=am9 (show 0< -fN l c by grind) h2;have e2: -fN l c*(cG l*cG l)= -jd l c:=by rw[Rat.neg_mul,e]
  rw[e2]at this;constructor<;>constructor<;>intro<;>grind
 ·rw[h,apg]at e;constructor<;>constructor<;>intro<;>grind
 ·have:=am9 h h2;rw[e]at this;constructor<;>constructor<;>intro<;>grind
theorem ach(hl:l.1≠0\/l.2.1≠0)(h0:0<=fN l c):rq (jd l c)=rq (fN l c)*of (cG l):=by
 have hn:=JH hl
 have hr:0<=jd l c:=by
  rw[<-Fg hl];exact am6 h0 (am6 (by grind) (by grind))
 refine Yg _ _ (Sq _) (ct (Sq _) (oz.2 (by grind))) ?_;rw[alM,qD hr,qD h0,<-bO,<-bO,Fg hl]
theorem A5(hl:l.1≠0\/l.2.1≠0)(h0:0<=fN l c)(a b:Rat):v2 a b (fN l c)=v2 a (b/cG l) (jd l c):=by
 unfold v2;rw[ach hl h0,alL,<-bO,anR (oT hl)]
theorem ndv(a b:Rat): -a/b= -(a/b):=by rw[Rat.div_def,Rat.div_def,Rat.neg_mul]
theorem aln(hl:l.1≠0\/l.2.1≠0)(v:PE):(∃p∈mH l c,pR p=v)↔∃p∈qZ l c,pR p=v:=by
 obtain⟨s1,s2⟩:=acD (c:=c) hl;unfold mH qZ;by_cases h0:fN l c<0
 ·rw[amh h0,amh (s1.1 h0)];exact Iff.rfl
 ·rw[ami h0,ami (λh=>h0 (s1.2 h))];by_cases h1:fN l c=0
  ·rw[amh h1,amh (s2.1 h1)];exact Iff.rfl
  ·rw[ami h1,ami (λh=>h1 (s2.2 h))];have hp:0<=fN l c:=by grind
   have e:(pR (lcM l c)=pR (sE l c)/\pR (lcN l c)=pR (ta l c))\/(pR (lcM l c)=pR (ta l c)/\pR (lcN l c)=pR (sE l c)):=by
    unfold lcM lcN sE ta;rw[Cm,Cm,lZ,lZ,A5 hl hp,A5 hl hp,A5 hl hp,A5 hl hp];unfold uL uU;cases Lw l
    ·left;simp only[cond_false,ndv,Rat.neg_neg,and_self]
    ·right;simp only[cond_true,ndv,Rat.neg_neg,and_self]
   have m2:∀{a b:Pt},(∃p∈[a,b],pR p=v)↔(pR a=v\/pR b=v):=λ{a b}=>by simp
   simp only[cond_false];cases decide (aB (sE l c) (ta l c)>0)
   ·simp only[cond_false];rw[m2,m2];rcases e with⟨e1,e2⟩|⟨e1,e2⟩<;>rw[e1,e2];exact Or.comm
   ·simp only[cond_true];rw[m2,m2];rcases e with⟨e1,e2⟩|⟨e1,e2⟩<;>rw[e1,e2];exact Or.comm
theorem Gz(hl:l.1≠0\/l.2.1≠0){u v k:Rat}(hk:0<=k)(h1:l.1*u+l.2.1*v=0)(h2:Ci l c+(u*u+v*v)*k=c.2.2):tg l (v2 (ftX l c) u k,v2 (ftY l c) v k)/\zp c (v2 (ftX l c) u k,v2 (ftY l c) v k):=by
 have hn:=oT hl;have t:vlL l c.1 c.2.1/cG l*cG l=vlL l c.1 c.2.1:=anR hn
 have e1:l.1*ftX l c+l.2.1*ftY l c=l.2.2:=by
  unfold ftX ftY;generalize vlL l c.1 c.2.1/cG l=s at*
  unfold cG vlL at t;grind
 have e3:(ftX l c-c.1)*u+(ftY l c-c.2.1)*v=0:=by
  unfold ftX ftY;generalize vlL l c.1 c.2.1/cG l=s at*
  have:(c.1-s*l.1-c.1)*u+(c.2.1-s*l.2.1-c.2.1)*v= -s*(l.1*u+l.2.1*v):=by grind
  rw[this,h1,Rat.mul_zero]
 unfold tg zp frm v2;dsimp only;constructor
 ·rw[alU,<-bO,<-bO,<-bO,<-bO,<-of_add,<-of_add,e1,h1,sX,zero_mul,add_zero]
 ·rw[alR,qD hk,<-of_sub,<-of_sub,<-bO,<-bO,<-bO,<-bO,<-bO,<-bO,<-of_add,<-of_add,<-of_add,e3,sX,zero_mul,add_zero,add_zero,<-bO,<-of_add];exact congrArg of h2
theorem aeM(_hl:l.1≠0\/l.2.1≠0):l.1*uL l+l.2.1*uU l=0/\uL l*uL l+uU l*uU l=cG l:=by
 unfold uL uU cG;cases Lw l
 ·simp only[cond_false];constructor<;>grind
 ·simp only[cond_true];constructor<;>grind
theorem OR(hl:l.1≠0\/l.2.1≠0){p:Pt}(hp:p∈mH l c):tg l (pR p)/\zp c (pR p):=by
 have hn:=oT hl;have k:fN l c*cG l=c.2.2-Ci l c:=anR hn;obtain⟨d1,d2⟩:=aeM hl;unfold mH at hp;by_cases h0:fN l c<0
 ·rw[amh h0]at hp;cases hp
 ·rw[ami h0]at hp;by_cases h1:fN l c=0
  ·rw[amh h1]at hp;have:p=atP (ftL l c):=by simpa using hp
   rw[this,Ai];have:=Gz (c:=c) (u:=0) (v:=0) (k:=0) hl (by decide) (by grind) (by rw[h1]at k;grind);rw[ef,ef]at this;exact this
  ·rw[ami h1]at hp;have hk:0<=fN l c:=by grind
   have:p=lcM l c\/p=lcN l c:=by simpa using hp
   rcases this with e|e
   ·rw[e];unfold lcM;rw[Cm];refine Gz hl hk (by grind) ?_;rw[show-uL l* -uL l+ -uU l* -uU l=cG l by rw[<-d2];grind,ao1,k];grind
   ·rw[e];unfold lcN;rw[Cm];refine Gz hl hk d1 ?_;rw[d2,ao1,k];grind
end
theorem ada{c d:Ln}{v:PE}(hl:tg (o0 c d) v)(hc:zp c v):zp d v:=by
 unfold tg o0 rG at hl;unfold zp frm at*
 dsimp only at*
 have o2:of 2=1+1:=by
  rw[<-Tf,<-of_add];exact congrArg of (by decide+kernel)
 rw[ak3 v.1 v.2 (of c.1) (of c.2.1) (of d.1) (of d.2.1) (of d.2.2) (of c.2.2),hc];simp only[of_sub,bO,of_add,o2]at hl;rw[hl,alo]
theorem ac6{l m:Ln}{p:Pt}(hp:p∈qu l m):tg l (pR p)/\tg m (pR p):=by
 unfold qu at hp;by_cases h0:eI l m=0
 ·rw[amh h0]at hp;cases hp
 ·rw[ami h0]at hp;have:p=atP (pu l m/eI l m,pi l m/eI l m):=by simpa using hp
  rw[this,Ai];have ex:pu l m/eI l m*eI l m=pu l m:=anR h0;have ey:pi l m/eI l m*eI l m=pi l m:=anR h0
  have key:∀a b q:Rat,a*pu l m+b*pi l m=q*eI l m->a*(pu l m/eI l m)+b*(pi l m/eI l m)=q:=λa b q e=>by
   generalize pu l m/eI l m=x at*
   generalize pi l m/eI l m=y at*
   rw[<-ex,<-ey]at e;have:(a*x+b*y-q)*eI l m=0:=by grind
   rcases apm.1 this with h|h
   ·grind
   ·exact absurd h h0
  unfold tg;rw[<-bO,<-bO,<-of_add,<-bO,<-bO,<-of_add,key l.1 l.2.1 l.2.2 (by unfold pu pi eI;grind),key m.1 m.2.1 m.2.2 (by unfold pu pi eI;grind)];exact⟨rfl,rfl⟩
end RE
end
namespace RE
theorem eH{c:Cv}{p:Pt}[Rpd p]:du c p=true↔bif c.1 then zp (ciC c) (pR p)else tg (lnC c) (pR p):=by
 unfold du;cases c.1
 ·exact JR
 ·exact Bh
theorem uw{q:Rat}(hq:q≠0){x y:RE}(h:of q*x=of q*y):x=y:=by
 have e:∀z:RE,of q⁻¹*(of q*z)=z:=λz=>by
  rw[<-mul_assoc,<-bO,Rat.inv_mul_cancel _ hq,Tf,one_mul]
 rw[<-e x,h,e y]
theorem ala(a p q x y:RE):a*(p*x+q*y)=p*(a*x)+a*q*y:=by grind
theorem alr(p a b x y:RE):p*(a*x+b*y)=p*(a*x)+b*p*y:=by grind
theorem alV(b p q x y:RE):b*(p*x+q*y)=b*p*x+q*(b*y):=by grind
theorem ak9(q a b x y:RE):q*(a*x+b*y)=a*q*x+q*(b*y):=by grind
theorem aew{l m:Ln}(hl:l.1≠0\/l.2.1≠0)(h:pD l m=true){v:PE}(hv:tg l v):tg m v:=by
 unfold pD at h;obtain⟨h1,h23⟩:=amA.1 h;obtain⟨h2,h3⟩:=amA.1 h23;have h1:=amj h1;have h2:=amj h2;have h3:=amj h3;unfold tg at*
 rcases hl with ha|hb
 ·refine uw ha ?_;rw[ala,<-bO l.1 m.2.1,h1,bO,<-alr,hv,<-bO,<-bO,h2,ao1]
 ·refine uw hb ?_;rw[alV,<-bO l.2.1 m.1,<-h1,bO,<-ak9,hv,<-bO,<-bO,h3,ao1]
theorem TY{l m:Ln}(h:pD l m=true):pD m l=true:=by
 unfold pD at*
 obtain⟨h1,h23⟩:=amA.1 h;obtain⟨h2,h3⟩:=amA.1 h23;have h1:=amj h1;have h2:=amj h2;have h3:=amj h3;rw[dT (show m.1*l.2.1=m.2.1*l.1 by grind),dT (show m.1*l.2.2=m.2.2*l.1 by grind),dT (show m.2.1*l.2.2=m.2.2*l.2.1 by grind)];rfl
theorem abE{c d:Ln}(h:pE c d=true):c=d:=by
 unfold pE at h;obtain⟨h1,h23⟩:=amA.1 h;obtain⟨h2,h3⟩:=amA.1 h23;exact apB (amj h1) (apB (amj h2) (amj h3))
theorem yL{c d:Cv}(h:cf c d=true):c.1=d.1:=by
 unfold cf at h;cases e:c.1==d.1
 ·rw[e]at h;cases h
 ·exact amW.1 e
theorem F9{c d:Cv}(h:cf c d=true)(ha:c.1=true):ciC c=ciC d:=by
 have e:=yL h;unfold cf at h;rw[<-e,ha]at h;exact abE h
theorem OD{c d:Cv}(h:cf c d=true)(ha:c.1=false):pD (lnC c) (lnC d)=true:=by
 have e:=yL h;unfold cf at h;rw[<-e,ha]at h;exact h
theorem BW{c d:Cv}(h:cf c d=true):cf d c=true:=by
 have e:=yL h;unfold cf;rw[<-e,beq_self_eq_true,cond_true];cases ha:c.1
 ·exact TY (OD h ha)
 ·rw[cond_true,F9 h ha];unfold pE;rw[dT rfl,dT rfl,dT rfl];rfl
theorem Uf{c d:Cv}(hc:Crp c)(h:cf c d=true){p:Pt}[Rpd p](hp:du c p=true):du d p=true:=by
 have e:=yL h;rw[eH]at*
 rw[<-e];cases ha:c.1
 ·rw[ha,cond_false]at hp;exact aew (hc.l ha) (OD h ha) hp
 ·rw[ha,cond_true]at hp;rw[cond_true,<-F9 h ha];exact hp
theorem supF_eq{c:Cv}{p q:Pt}[Rpd p][Rpd q](e:pR p=pR q)(h:du c p=true):du c q=true:=by
 rw[eH]at*
 rw[<-e];exact h
end RE
theorem oP{c:Cv}(h:Crp c){p q r:Pt}(hp:Sp c p)(hq:Sp c q)(hr:Sp c r)(e:aB p q=0):bY c p r=bY c q r/\bY c r p=bY c r q:=by
 obtain⟨K,lt,κ,f,hl,hc,ho,hk⟩:=A6 h;have ek:=(hk p q hp hq).2 e;rw[ho p r hp hr,ho q r hq hr,ho r p hr hp,ho r q hr hq,ek];exact⟨rfl,rfl⟩
theorem ZW{c:Cv}{p q:Pt}(hp:Sp c p)(hq:Rpd q)(e:aB p q=0):Sp c q:=by
 have:=hp.1;exact⟨hq,RE.supF_eq (RE.cmpP_0.1 e) hp.2⟩
theorem SD{p q:Pt}[Rpd p][Rpd q](e:aB p q=0):aB q p=0:=RE.cmpP_0.2 (RE.cmpP_0.1 e).symm
theorem ET{c:Cv}{x:BP}(hx:Rpd (dec x)):∀{r:List BP},∃y∈fb c r x,aB (dec y) (dec x)=0
 |[]=>⟨x,by simp[fb],RE.cmpP_0.2 rfl⟩
 |z::r=>by
  simp only[fb];cases decide (bY c (dec z) (dec x)<0)
  ·cases hz:aB (dec z) (dec x)==0
   ·exact⟨x,by simp,RE.cmpP_0.2 rfl⟩
   ·exact⟨z,by simp,amW.1 hz⟩
  ·obtain⟨y,hy,e⟩:=ET (c:=c) hx (r:=r);exact⟨y,amv _ hy,e⟩
theorem DO{c:Cv}{x:BP}(hx:Rpd (dec x)):∀{l r:List BP},x∈l->∃y∈l.foldl (fb c) r,aB (dec y) (dec x)=0
 |[],_,h=>by cases h
 |z::l,r,h=>by
  rw[an6];rcases amy.1 h with e|e
  ·obtain⟨y,hy,e2⟩:=ET (c:=c) hx (r:=r);exact⟨y,D3 (by rw[<-e];exact hy),e2⟩
  ·exact DO hx e
theorem OS{c:Cv}{x:BP}{l:List BP}(hx:Rpd (dec x))(h:x∈l):∃y∈gu c l,aB (dec y) (dec x)=0:=DO hx h
theorem NQ{c:Cv}{x:BP}{l:List BP}(h:x∈gu c l):x∈l:=by
 rcases wx h with h|h
 ·cases h
 ·exact h
section
def BK(c d:BCU):List BP:=bif cf (dC c) (dC d)then [c.2.2.2.2.1,c.2.2.2.2.2,d.2.2.2.2.1,d.2.2.2.2.2]else(jW (dC c) (dC d)).map enc
def iq(c d:BCU)(p:BP):Bool:=lw (dC c) (dec p)&&lw (dC d) (dec p)
def mn(c d:BCU):List BP:=dq (dC c) ((BK c d).filter (iq c d))
theorem A7{c:BCU}(h:EI c):(c.1=true->BdC (ciC (dC c))/\0<(ciC (dC c)).2.2)/\(c.1=false->BdL (lnC (dC c))/\((lnC (dC c)).1≠0\/(lnC (dC c)).2.1≠0)):=by
 refine⟨λe=>?_,λe=>?_⟩
 ·obtain⟨l,e1,bl,nl⟩:=b8 (h.1 e);show BdC (dec c.2.2.1)/\_;rw[show ciC (dC c)=dec c.2.2.1 from rfl,e1,au];exact⟨bl,nl⟩
 ·obtain⟨l,e1,bl,nl⟩:=dU (h.2 e);show BdL (dec c.2.1)/\_;rw[show lnC (dC c)=dec c.2.1 from rfl,e1,au];exact⟨bl,nl⟩
namespace RE
theorem supM_on{c d:BCU}(hc:EI c)(hd:EI d){p:Pt}(hp:p∈jW (dC c) (dC d)):Bd p 1200/\Rpd p/\du (dC c) p=true/\du (dC d) p=true:=by
 obtain⟨c1,c2⟩:=A7 hc;obtain⟨d1,d2⟩:=A7 hd;have ec:(dC c).1=c.1:=rfl;have ed:(dC d).1=d.1:=rfl;unfold jW at hp;rw[ec,ed]at hp;cases ha:c.1<;>cases hb:d.1<;>rw[ha,hb]at hp
 ·have i1:=(c2 ha).1;have i2:=(d2 hb).1;have hp:p∈qu (lnC (dC c)) (lnC (dC d)):=hp;obtain⟨b,r⟩:=BC.2 p hp;obtain⟨o1,o2⟩:=ac6 hp;refine⟨b.mono (by decide),r,?_,?_⟩
  ·rw[eH,ec,ha];exact o1
  ·rw[eH,ed,hb];exact o2
 ·have i1:=(c2 ha).1;have i2:=(d1 hb).1;have hp:p∈mH (lnC (dC c)) (ciC (dC d)):=hp;obtain⟨b,r⟩:=wm.2 p hp;obtain⟨o1,o2⟩:=OR (c2 ha).2 hp;refine⟨b,r,?_,?_⟩
  ·rw[eH,ec,ha];exact o1
  ·rw[eH,ed,hb];exact o2
 ·have i1:=(c1 ha).1;have i2:=(d2 hb).1;have hp:p∈mH (lnC (dC d)) (ciC (dC c)):=hp;obtain⟨b,r⟩:=wm.2 p hp;obtain⟨o1,o2⟩:=OR (d2 hb).2 hp;refine⟨b,r,?_,?_⟩
  ·rw[eH,ec,ha];exact o2
  ·rw[eH,ed,hb];exact o1
 ·have i1:=(c1 ha).1;have i2:=(d1 hb).1;have hp:p∈Dq (ciC (dC c)) (ciC (dC d)):=hp;unfold Dq at hp;cases hq:jL (ciC (dC c)) (ciC (dC d))<;>rw[hq]at hp
  ·have i3:BdL (o0 (ciC (dC c)) (ciC (dC d))):=C8;obtain⟨b,r⟩:=wm.2 p hp;obtain⟨o1,o2⟩:=OR (Fk hq) hp;refine⟨b,r,?_,?_⟩
   ·rw[eH,ec,ha];exact o2
   ·rw[eH,ed,hb];exact ada o1 o2
  ·cases hp
end RE
open RE
theorem gdN.ne{c:BCU}(h:gdN c):aB (frC (dC c)) (toC (dC c))≠0:=h.2.2.2
theorem gdN.fr{c:BCU}(h:gdN c):okP 580 c.2.2.2.2.1:=h.1.1.2.2.1
theorem gdN.to{c:BCU}(h:gdN c):okP 580 c.2.2.2.2.2:=h.1.1.2.2.2
end
end Go.Proofs.YtmnlppieefomnaaGreatDoor
end
