/- Sorted points of a curve: the program's contract. -/
import Derived.Test.YtnkndpoojnflmaaGreatG17
import Derived.Test.YtnkndpoojnflmaaGreatG16
import Derived.Test.YtnkndpoojnflmaaGreatG14
import Derived.Test.YtnkndpoojnflmaaGreatG15
import Derived.Test.YtnkndpoojnflmaaGreatG6
import Derived.ProofKit
import Derived.OpenShut
import Derived.ChangeSame
import Derived.Deep.Slices
noncomputable section
namespace Go.Proofs.YtnkndpoojnflmaaGreat
open Go.RowKit Go.IntKind
section
theorem Bp{n m k:Nat}(h1:n+m≤100000000)(hk:k≤1000000):decide ((n+m)*k≤140737488355328∧n+m≤140737488355328)=true:=by
 refine akY ⟨?_,by omega⟩
 have:=am6 h1 hk
 omega
def lj(c:BCU)(l:List BP):Prop:=okC 4000 c∧l.length≤19∧∀x∈l,okP 4000 x
instance (c:BCU) (l:List BP):Decidable (lj c l):=by unfold lj;infer_instance
def Sj:Ctx:=CX [] []
def QA(p:List BP)(_k:KT):Option (List RV):=match p with|[]=>G9 (some [RV.new 37 tP []]) (og (decide ((([]:List BP).length+p.length)*320≤140737488355328∧([]:List BP).length+p.length≤140737488355328)) (some [RV.new 37 tP (([]:List BP)++p)]))|_::_=>(og (decide ((([]:List BP).length+p.length)*320≤140737488355328∧([]:List BP).length+p.length≤140737488355328)) (some [RV.new 37 tP (([]:List BP)++p)]))
theorem aaX(p:List BP):RS Sj 87 [.d (.sl tP) p] (QA p):=rsX
def Fk:Cn 87 [(.sl tP)]:=cn fun(p:List BP)=>lf (p.length≤100000) [.new 37 tP p] fun h=>by
 refine Ctx.Res.con (C:=Sj) (FY (E:=[]) trivial) ?_ (fn:=Tryz.f87) (by kernel_rfl) (by kernel_rfl)
 refine aaX _ ⟨0,?_⟩
 unfold QA
 rw[Bp (n:=([]:List BP).length) (m:=p.length) (by simp;omega) (by omega)]
 cases p with
 |nil=>exact dR _
 |cons a p=>rfl
def aaV:List En:=[enT Oi]
def Xz(p q:BP)(_k:KT):Option (List RV):=og (decide (okP 4000 p∧okP 4000 q)) (some [RV.d .bool ((aV (dec p) (dec q))==0)])
def O8:Cn 196 [tP,tP]:=cn fun(p q:BP)=>lf (okP 4000 p∧okP 4000 q) [.d .bool (aV (dec p) (dec q)==0)] fun h=>by
 refine aA aaV (Xz p q) ⟨0,?_⟩
 unfold Xz
 rw[dT h]
def H9:ef:={keep:=true,run:=fun _ _ _=>none}
theorem Kb:SpK 329 H9:=by
 refine⟨by kernel_rfl,fun R args k r h=>(by cases h),fun g h=>(by cases h)⟩
def Fz:List En:=[enT ag3,enT O8,enK Fk,⟨329,H9,Kb⟩]
def acX:NT:=[((288,6),{keep:=[0,1,2,6,7,8],hl:=2}),((328,3),{keep:=[0,1,2,3,8],hl:=2}),((328,15),{keep:=[0,1,2,3,8,9],hl:=2}),((288,22),{keep:=[0,1,2,6],hl:=2}),((288,34),{keep:=[0,1,2,6,7,8],hl:=2}),((195,14),{keep:=[0,1,5],hl:=2}),((195,32),{keep:=[0,1,5,6,7],hl:=2}),((90,5),{keep:=[1],hl:=0}),((192,0),{keep:=[],hl:=0}),((288,15),{keep:=[0,1,2,6,8],hl:=0}),((288,20),{keep:=[0,1,2,6],hl:=0}),((328,18),{keep:=[0,1,2,3,8,9,18,19,20,21,22,23,24,25,26,27,28,29,30,31,32,33,34],hl:=0}),((90,7),{keep:=[11],hl:=0})]
def iK:Ctx:=CX (ens Fz) acX
def rV(c:BCU)(l:List BP)(s288_7 s288_8:Int)(r288_1:List BP):Cfg:=⟨288,[.blk 0,.seq 19],[(0,.own 1),(1,SI (l.length:Int)),(2,.clo 193 [0]),(6,SI 20),(7,SI s288_7),(8,SI s288_8)],[.box 39 (Ty.split tCU c),.row 37 tP r288_1],2,[⟨192,[],0,4,[],2,none⟩,⟨90,[.seq 6],5,2,[(1,.own 1)],0,none⟩]⟩
def rD(c:BCU)(l:List BP)(s288_7 s288_8 s328_8:Int)(r328_1:List BP):Cfg:=⟨328,[.blk 0],[(0,.own 1),(1,SI s288_7),(2,SI s288_8),(3,.clo 193 [0]),(8,SI s328_8)],[.box 39 (Ty.split tCU c),.row 37 tP r328_1],2,[⟨288,[.seq 16,.blk 1,.lp 6,.blk 0,.seq 19],15,4,[(0,.own 1),(1,SI (l.length:Int)),(2,.clo 193 [0]),(6,SI 20),(8,SI s288_8)],2,none⟩,⟨192,[],0,4,[],2,none⟩,⟨90,[.seq 6],5,2,[(1,.own 1)],0,none⟩]⟩
def eK(c:BCU)(l:List BP)(s288_7 s328_8:Int)(r328_1:List BP):Cfg:=⟨328,[.blk 0],[(0,.own 1),(1,SI s288_7),(2,SI (l.length:Int)),(3,.clo 193 [0]),(8,SI s328_8)],[.box 39 (Ty.split tCU c),.row 37 tP r328_1],2,[⟨288,[.seq 21],20,4,[(0,.own 1),(1,SI (l.length:Int)),(2,.clo 193 [0]),(6,SI 20)],2,none⟩,⟨192,[],0,4,[],2,none⟩,⟨90,[.seq 6],5,2,[(1,.own 1)],0,none⟩]⟩
def CY(c:BCU)(l:List BP)(s288_7 s288_8 s328_8 s328_9:Int)(r328_1:List BP):Cfg:=⟨328,[.blk 2,.blk 1,.seq 26,.lp 3,.blk 0],[(0,.own 1),(1,SI s288_7),(2,SI s288_8),(3,.clo 193 [0]),(8,SI s328_8),(9,SI s328_9)],[.box 39 (Ty.split tCU c),.row 37 tP r328_1],2,[⟨288,[.seq 16,.blk 1,.lp 6,.blk 0,.seq 19],15,4,[(0,.own 1),(1,SI (l.length:Int)),(2,.clo 193 [0]),(6,SI 20),(8,SI s288_8)],2,none⟩,⟨192,[],0,4,[],2,none⟩,⟨90,[.seq 6],5,2,[(1,.own 1)],0,none⟩]⟩
def gM(c:BCU)(l:List BP)(s288_7 s328_8 s328_9:Int)(r328_1:List BP):Cfg:=⟨328,[.blk 2,.blk 1,.seq 26,.lp 3,.blk 0],[(0,.own 1),(1,SI s288_7),(2,SI (l.length:Int)),(3,.clo 193 [0]),(8,SI s328_8),(9,SI s328_9)],[.box 39 (Ty.split tCU c),.row 37 tP r328_1],2,[⟨288,[.seq 21],20,4,[(0,.own 1),(1,SI (l.length:Int)),(2,.clo 193 [0]),(6,SI 20)],2,none⟩,⟨192,[],0,4,[],2,none⟩,⟨90,[.seq 6],5,2,[(1,.own 1)],0,none⟩]⟩
def jG(c:BCU)(l r328_1:List BP)(s288_6:Int):Cfg:=⟨288,[.blk 2],[(0,.own 1),(1,SI (l.length:Int)),(2,.clo 193 [0]),(6,SI s288_6)],[.box 39 (Ty.split tCU c),.row 37 tP r328_1],2,[⟨192,[],0,4,[],2,none⟩,⟨90,[.seq 6],5,2,[(1,.own 1)],0,none⟩]⟩
def CT(c:BCU)(l r328_1:List BP)(s288_6:Int):Cfg:=⟨288,[.blk 4,.seq 47,.blk 3,.lp 22,.blk 2],[(0,.own 1),(1,SI (l.length:Int)),(2,.clo 193 [0]),(6,SI s288_6),(7,SI 0),(8,SI (i64.wrap (2*s288_6)))],[.box 39 (Ty.split tCU c),.row 37 tP r328_1],2,[⟨192,[],0,4,[],2,none⟩,⟨90,[.seq 6],5,2,[(1,.own 1)],0,none⟩]⟩
def jo(c:BCU)(r328_1:List BP)(s195_5:Int):Cfg:=⟨195,[.blk 0,.seq 56],[(0,.own 1),(1,.clo 196 []),(5,SI s195_5)],[.box 39 (Ty.split tCU c),.row 37 tP r328_1],2,[⟨90,[.seq 8],7,1,[],0,none⟩]⟩
def d9(c:BCU)(r328_1:List BP)(s195_5 s195_5v s195_7:Int)(r195_1:List BP):Cfg:=⟨195,[.blk 2,.seq 49,.blk 1,.seq 55,.lp 14,.blk 0,.seq 56],[(0,.own 1),(1,.clo 196 []),(5,SI s195_5v),(6,.osl 1 20 ((s195_5:Int).toNat) (((r328_1.length:Int):Int).toNat-(s195_5:Int).toNat)),(7,SI s195_7)],[.box 39 (Ty.split tCU c),.row 37 tP r195_1],2,[⟨90,[.seq 8],7,1,[],0,none⟩]⟩
def WD(c:BCU)(l:List BP)(k:KT):Option (List RV):=og (decide (l.length≤100000)) (k 6 (rV c l 0 20 l))
theorem afv(c:BCU)(l:List BP):RS iK 90 [.d tCU c,.d (.sl tP) l] (WD c l):=rsX
def th(c:BCU)(l:List BP)(s288_7 s288_8:Int)(r288_1:List BP)(k:KT):Option (List RV):=match decide (s288_8≤(l.length:Int))with|true=>k 3 (rD c l s288_7 s288_8 (i64.wrap (s288_7+1)) r288_1)|false=>k 3 (eK c l s288_7 (i64.wrap (s288_7+1)) r288_1)
theorem A0(c:BCU)(l:List BP)(s288_7 s288_8:Int)(r288_1:List BP):RN iK 6 (rV c l s288_7 s288_8 r288_1) (th c l s288_7 s288_8 r288_1):=rnX
def iu(c:BCU)(l:List BP)(s288_7 s328_8:Int)(r328_1:List BP)(k:KT):Option (List RV):=match decide (s328_8<(l.length:Int))with|true=>k 15 (gM c l s288_7 s328_8 s328_8 r328_1)|false=>k 22 (jG c l r328_1 20)
theorem kW(c:BCU)(l:List BP)(s288_7 s328_8:Int)(r328_1:List BP):RN iK 3 (eK c l s288_7 s328_8 r328_1) (iu c l s288_7 s328_8 r328_1):=rnX
def So(c:BCU)(l:List BP)(s288_7 s288_8 s328_8 s328_9:Int)(r328_1:List BP)(k:KT):Option (List RV):=match decide (s328_9>s288_7)with|true=>(match aR r328_1 s328_9 with|some _=>(match true,r328_1[(s328_9).toNat]? with|true,some x1=>(match aR r328_1 (i64.wrap (s328_9-1))with|some _=>(match true,r328_1[(i64.wrap (s328_9-1)).toNat]? with|true,some x2=>(og (decide (okC 4000 c∧okP 4000 x1∧okP 4000 x2)) (match decide ((BE (dC c) (dec x1) (dec x2))<0)with|true=>(match aR r328_1 (i64.wrap (s328_9-1))with|some _=>(match true,r328_1[(i64.wrap (s328_9-1)).toNat]? with|true,some x3=>(match aR r328_1 s328_9 with|some _=>(match true,r328_1[(s328_9).toNat]? with|true,some x4=>(match aR r328_1 s328_9 with|some _=>(match true,r328_1[(s328_9).toNat]? with|true,some _=>(match aR (r328_1.set ((s328_9).toNat) x3) (i64.wrap (s328_9-1))with|some _=>(match true,(r328_1.set ((s328_9).toNat) x3)[(i64.wrap (s328_9-1)).toNat]? with|true,some _=>k 15 (CY c l s288_7 s288_8 s328_8 (i64.wrap (s328_9-1)) ((r328_1.set ((s328_9).toNat) x3).set ((i64.wrap (s328_9-1)).toNat) x4))|_,_=>none)|none=>none)|_,_=>none)|none=>none)|_,_=>none)|none=>none)|_,_=>none)|none=>none)|false=>k 3 (rD c l s288_7 s288_8 (i64.wrap (s328_8+1)) r328_1)))|_,_=>none)|none=>none)|_,_=>none)|none=>none)|false=>k 3 (rD c l s288_7 s288_8 (i64.wrap (s328_8+1)) r328_1)
def gR(c:BCU)(l:List BP)(s288_7 s328_8 s328_9:Int)(r328_1:List BP)(k:KT):Option (List RV):=match decide (s328_9>s288_7)with|true=>(match aR r328_1 s328_9 with|some _=>(match true,r328_1[(s328_9).toNat]? with|true,some x1=>(match aR r328_1 (i64.wrap (s328_9-1))with|some _=>(match true,r328_1[(i64.wrap (s328_9-1)).toNat]? with|true,some x2=>(og (decide (okC 4000 c∧okP 4000 x1∧okP 4000 x2)) (match decide ((BE (dC c) (dec x1) (dec x2))<0)with|true=>(match aR r328_1 (i64.wrap (s328_9-1))with|some _=>(match true,r328_1[(i64.wrap (s328_9-1)).toNat]? with|true,some x3=>(match aR r328_1 s328_9 with|some _=>(match true,r328_1[(s328_9).toNat]? with|true,some x4=>(match aR r328_1 s328_9 with|some _=>(match true,r328_1[(s328_9).toNat]? with|true,some _=>(match aR (r328_1.set ((s328_9).toNat) x3) (i64.wrap (s328_9-1))with|some _=>(match true,(r328_1.set ((s328_9).toNat) x3)[(i64.wrap (s328_9-1)).toNat]? with|true,some _=>k 15 (gM c l s288_7 s328_8 (i64.wrap (s328_9-1)) ((r328_1.set ((s328_9).toNat) x3).set ((i64.wrap (s328_9-1)).toNat) x4))|_,_=>none)|none=>none)|_,_=>none)|none=>none)|_,_=>none)|none=>none)|_,_=>none)|none=>none)|false=>k 3 (eK c l s288_7 (i64.wrap (s328_8+1)) r328_1)))|_,_=>none)|none=>none)|_,_=>none)|none=>none)|false=>k 3 (eK c l s288_7 (i64.wrap (s328_8+1)) r328_1)
theorem jJ(c:BCU)(l:List BP)(s288_7 s328_8 s328_9:Int)(r328_1:List BP):RN iK 15 (gM c l s288_7 s328_8 s328_9 r328_1) (gR c l s288_7 s328_8 s328_9 r328_1):=rnX
def jl(c:BCU)(l r328_1:List BP)(s288_6:Int)(k:KT):Option (List RV):=match decide (s288_6<(l.length:Int))with|true=>k 34 (CT c l r328_1 s288_6)|false=>(match decide ((r328_1.length:Int)<2)with|true=>some [RV.new 37 tP r328_1]|false=>k 14 (jo c r328_1 1))
theorem lT(c:BCU)(l r328_1:List BP)(s288_6:Int):RN iK 22 (jG c l r328_1 s288_6) (jl c l r328_1 s288_6):=rnX
def jb(c:BCU)(r328_1:List BP)(s195_5:Int)(k:KT):Option (List RV):=match decide (s195_5<(r328_1.length:Int))with|true=>(match aR r328_1 s195_5 with|some _=>(match true,r328_1[(s195_5).toNat]? with|true,some x1=>(match aR r328_1 (i64.wrap (s195_5-1))with|some _=>(match true,r328_1[(i64.wrap (s195_5-1)).toNat]? with|true,some x2=>(og (decide (okP 4000 x1∧okP 4000 x2)) (match aV (dec x1) (dec x2)==0 with|true=>(og (decide ((0:Int)≤s195_5∧s195_5≤(r328_1.length:Int)∧(r328_1.length:Int)≤(r328_1.length:Int))) (k 32 (d9 c r328_1 s195_5 s195_5 1 r328_1)))|false=>k 14 (jo c r328_1 (i64.wrap (s195_5+1)))))|_,_=>none)|none=>none)|_,_=>none)|none=>none)|false=>some [RV.new 37 tP r328_1]
theorem ma(c:BCU)(r328_1:List BP)(s195_5:Int):RN iK 14 (jo c r328_1 s195_5) (jb c r328_1 s195_5):=rnX
def gT(c:BCU)(r328_1:List BP)(s195_5 s195_5v s195_7:Int)(r195_1:List BP)(k:KT):Option (List RV):=match decide (s195_7<((((r328_1.length:Int):Int).toNat-(s195_5:Int).toNat:Nat):Int))with|true=>(match true,decide ((0:Int)≤s195_7∧s195_7<((((r328_1.length:Int):Int).toNat-(s195_5:Int).toNat:Nat):Int))with|true,true=>(match true,r195_1[(s195_5:Int).toNat+(s195_7).toNat]? with|true,some x1=>(match true,decide ((0:Int)≤i64.wrap (s195_7-1)∧i64.wrap (s195_7-1)<((((r328_1.length:Int):Int).toNat-(s195_5:Int).toNat:Nat):Int))with|true,true=>(match true,r195_1[(s195_5:Int).toNat+(i64.wrap (s195_7-1)).toNat]? with|true,some x2=>(og (decide (okP 4000 x1∧okP 4000 x2)) (match !(aV (dec x1) (dec x2)==0)with|true=>(match true,decide ((0:Int)≤s195_7∧s195_7<((((r328_1.length:Int):Int).toNat-(s195_5:Int).toNat:Nat):Int))with|true,true=>(match true,r195_1[(s195_5:Int).toNat+(s195_7).toNat]? with|true,some x3=>(match aR r195_1 s195_5v with|some _=>(match true,r195_1[(s195_5v).toNat]? with|true,some _=>k 32 (d9 c r328_1 s195_5 (i64.wrap (s195_5v+1)) (i64.wrap (s195_7+1)) (r195_1.set ((s195_5v).toNat) x3))|_,_=>none)|none=>none)|_,_=>none)|_,_=>none)|false=>k 32 (d9 c r328_1 s195_5 s195_5v (i64.wrap (s195_7+1)) r195_1)))|_,_=>none)|_,_=>none)|_,_=>none)|_,_=>none)|false=>(og (decide ((0:Int)≤s195_5v∧s195_5v≤(r195_1.length:Int)∧(r195_1.length:Int)≤(r195_1.length:Int))) (og (decide ((0:Int)≤0∧0≤s195_5v∧s195_5v≤((jx (Ty.zero tP) ((s195_5v:Int).toNat) (((r195_1.length:Int):Int).toNat-(s195_5v:Int).toNat) r195_1).length:Int))) (some [RV.d (.sl tP) (((jx (Ty.zero tP) ((s195_5v:Int).toNat) (((r195_1.length:Int):Int).toNat-(s195_5v:Int).toNat) r195_1).drop ((0:Int).toNat)).take ((s195_5v:Int).toNat-(0:Int).toNat))])))
theorem jR(c:BCU)(r328_1:List BP)(s195_5 s195_5v s195_7:Int)(r195_1:List BP):RN iK 32 (d9 c r328_1 s195_5 s195_5v s195_7 r195_1) (gT c r328_1 s195_5 s195_5v s195_7 r195_1):=rnX
theorem nY{α:Type}(L:List α)(x:α)(T:List α):(L++x::T)[L.length]?=some x:=by simp
theorem Bm{α:Type}(x y:α)(T:List α):∀L:List α,(L++x::T).set L.length y=L++y::T
 |[]=>rfl
 |a::L=>by simp[Bm x y T L]
section
variable (c:BCU) (l:List BP)
def ah7(ys:List BP)(r:List RV):Prop:=r=[.new 37 tP ys]∨r=[.d (.sl tP) ys]
abbrev qQ(i:Nat)(g:Cfg)(ys:List BP):Prop:=∃r,iK.Runs i g r∧ah7 ys r
end
section
variable (c:BCU) (l:List BP) (hc:okC 4000 c)
include hc
theorem z6(hl:l.length≤19)(i:Nat)(ys:List BP):∀(L:List BP) (a:BP) (R:List BP),(∀x∈L,okP 4000 x)→okP 4000 a→(L.reverse++a::R).length≤19→i≤19→
  qQ 3 (eK c l 0 ((i+1:Nat):Int) ((lg (ltP (dC c)) L a).reverse++R)) ys→qQ 15 (gM c l 0 (i:Int) (L.length:Int) (L.reverse++a::R)) ys
 |[],a,R,hL,ha,h19,hi,⟨r,⟨n,hn⟩,hr⟩=>by
  refine⟨r,jJ _ _ _ _ _ _ ⟨n,?_⟩,hr⟩
  unfold gR
  rw[dF (show ¬((([]:List BP).length:Nat):Int)>0 by simp),bV (by omega)]
  exact hn
 |b::L,a,R,hL,ha,h19,hi,hnext=>by
  have hb:=hL b (by simp)
  have hln:L.length≤18:=by simp at h19;omega
  have hrev:(b::L).reverse++a::R=L.reverse++b::a::R:=by simp
  have e1:((b::L).length:Int)=((L.length+1:Nat):Int):=rfl
  have ew:i64.wrap (((L.length+1:Nat):Int)-1)=(L.length:Int):=by rw[aS (by omega) (by omega)];omega
  have g1:(L.reverse++b::a::R)[L.length+1]?=some a:=by
   simp
  have g0:(L.reverse++b::a::R)[L.length]?=some b:=by
   simp
  have s1:(L.reverse++b::a::R).set (L.length+1) b=L.reverse++b::b::R:=by
   simp
  have s2:(L.reverse++b::b::R).set L.length a=L.reverse++a::b::R:=by
   simp
  have g2:(L.reverse++b::b::R)[L.length]?=some b:=by
   simp
  have key:∀r n,(match ltP (dC c) a b with
    |true=>iK.k n 15 (gM c l 0 (i:Int) (L.length:Int) (L.reverse++a::b::R))
    |false=>iK.k n 3 (eK c l 0 ((i+1:Nat):Int) (L.reverse++b::a::R)))=some r→
    gR c l 0 (i:Int) ((b::L).length:Int) ((b::L).reverse++a::R) (iK.k n)=some r:=fun r n h=>by
   rw[hrev,e1]
   unfold gR
   rw[dT (show((L.length+1:Nat):Int)>0 by omega),ew,ao,g1,ao,g0,show((L.length+1:Nat):Int).toNat=L.length+1 by omega,show((L.length:Nat):Int).toNat=L.length by omega,g1,g0]
   dsimp only
   rw[dT (show okC 4000 c∧okP 4000 a∧okP 4000 b from⟨hc,ha,hb⟩),s1,ao,g2,s2,bV (by omega)]
   dsimp only
   unfold ltP at h
   exact h
  unfold lg at hnext
  cases hlt:ltP (dC c) a b
  ·rw[hlt,cond_false]at hnext
   obtain⟨r,⟨n,hn⟩,hr⟩:=hnext
   refine⟨r,jJ _ _ _ _ _ _ ⟨n,key r n ?_⟩,hr⟩
   rw[hlt]
   simpa using hn
  ·rw[hlt,cond_true]at hnext
   obtain⟨r,⟨n,hn⟩,hr⟩:=z6 hl i ys L a (b::R) (fun x hx=>hL x (ala _ hx)) ha (by simp at h19 ⊢;omega) hi (by simpa using hnext)
   refine⟨r,jJ _ _ _ _ _ _ ⟨n,key r n ?_⟩,hr⟩
   rw[hlt]
   exact hn
theorem zD(hl:l.length≤19)(ys:List BP):∀(R D:List BP),(∀x∈D,okP 4000 x)→(∀x∈R,okP 4000 x)→D.length+R.length=l.length→
  qQ 22 (jG c l (R.foldl (lg (ltP (dC c))) D).reverse 20) ys→qQ 3 (eK c l 0 (D.length:Int) (D.reverse++R)) ys
 |[],D,hD,hR,hlen,⟨r,⟨n,hn⟩,hr⟩=>by
  refine⟨r,kW _ _ _ _ _ ⟨n,?_⟩,hr⟩
  unfold iu
  rw[b9 (by simp at hlen;omega),alv]
  exact hn
 |a::R,D,hD,hR,hlen,hnext=>by
  have ha:=hR a (by simp)
  have hlen':D.length+(R.length+1)=l.length:=hlen
  have h1:=zD hl ys R (lg (ltP (dC c)) D a) (fun x hx=>by
   rcases mE.1 hx with e|e
   ·rw[e];exact ha
   ·exact hD x e) (fun x hx=>hR x (ala _ hx)) (by rw[tb];omega) hnext
  rw[tb]at h1
  obtain⟨r,⟨n,hn⟩,hr⟩:=z6 c l hc hl D.length ys D a R hD ha (by simp;omega) (by omega) h1
  refine⟨r,kW _ _ _ _ _ ⟨n,?_⟩,hr⟩
  unfold iu
  rw[bH (by omega)]
  exact hn
omit hc in
theorem uh(r0:List BP)(b:Nat)(h19:r0.length≤19):∀(S K J:List BP) (p:BP),(∀x∈K++(J++p::S),okP 4000 x)→(K++(J++p::S)).length=r0.length→∀k2:Nat,1≤k2→b+k2=K.length+J.length+1→
  qQ 32 (d9 c r0 (b:Int) (K.length:Int) (k2:Int) (K++(J++p::S))) (K++jI im p S)
 |[],K,J,p,hok,hlen,k2,h1,hb=>by
  refine⟨_,jR _ _ _ _ _ _ ⟨0,?_⟩,.inr rfl⟩
  have hlen':K.length+(J.length+1)=r0.length:=by simpa using hlen
  unfold gT
  rw[dF (show ¬(k2:Int)<(((r0.length:Int).toNat-(b:Int).toNat:Nat):Int) by omega)]
  dsimp only
  rw[dT (show(0:Int)≤(K.length:Int)∧(K.length:Int)≤((K++(J++[p])).length:Int)∧((K++(J++[p])).length:Int)≤((K++(J++[p])).length:Int) by rw[hlen];omega)]
  have hcl:((jx (Ty.zero tP) ((K.length:Int).toNat) ((((K++(J++[p])).length:Int)).toNat-(K.length:Int).toNat) (K++(J++[p])))).take K.length=K:=by
   unfold jx
   rw[show((K.length:Int)).toNat=K.length by omega,alp,List.take_append_of_le_length (by simp),an9,Nat.min_self,List.take_left' rfl]
  have hcn:K.length≤(jx (Ty.zero tP) ((K.length:Int).toNat) ((((K++(J++[p])).length:Int)).toNat-(K.length:Int).toNat) (K++(J++[p]))).length:=by
   have:=congrArg List.length hcl
   rw[alK]at this
   omega
  rw[dT (show(0:Int)≤0∧0≤(K.length:Int)∧(K.length:Int)≤((jx (Ty.zero tP) ((K.length:Int).toNat) ((((K++(J++[p])).length:Int)).toNat-(K.length:Int).toNat) (K++(J++[p]))).length:Int) by omega)]
  rw[show((0:Int)).toNat=0 from rfl,amG,show((K.length:Int)).toNat-0=K.length by omega,hcl]
  simp[jI]
 |q::S,K,J,p,hok,hlen,k2,h1,hb=>by
  have hlen':K.length+(J.length+(S.length+1+1))=r0.length:=by simpa using hlen
  have hq:okP 4000 q:=hok q (by simp)
  have hp:okP 4000 p:=hok p (by simp)
  have g1:(K++(J++p::q::S))[(b:Int).toNat+(k2:Int).toNat]?=some q:=by
   rw[show(b:Int).toNat+(k2:Int).toNat=(K++(J++[p])).length by simp;omega]
   simp
  have ew:i64.wrap ((k2:Int)-1)=((k2-1:Nat):Int):=by rw[aS (by omega) (by omega)];omega
  have g0:(K++(J++p::q::S))[(b:Int).toNat+((k2-1:Nat):Int).toNat]?=some p:=by
   rw[show(b:Int).toNat+((k2-1:Nat):Int).toNat=(K++J).length by simp;omega]
   simp
  have key:∀r n,(match im q p with
    |true=>iK.k n 32 (d9 c r0 (b:Int) (K.length:Int) ((k2+1:Nat):Int) (K++(J++p::q::S)))
    |false=>iK.k n 32 (d9 c r0 (b:Int) ((K.length+1:Nat):Int) ((k2+1:Nat):Int) ((K++(J++p::q::S)).set K.length q)))=some r→
    gT c r0 (b:Int) (K.length:Int) (k2:Int) (K++(J++p::q::S)) (iK.k n)=some r:=fun r n h=>by
   unfold gT
   rw[dT (show(k2:Int)<(((r0.length:Int).toNat-(b:Int).toNat:Nat):Int) by omega)]
   dsimp only
   rw[dT (show(0:Int)≤(k2:Int)∧(k2:Int)<(((r0.length:Int).toNat-(b:Int).toNat:Nat):Int) by omega),g1]
   dsimp only
   rw[ew,dT (show(0:Int)≤((k2-1:Nat):Int)∧((k2-1:Nat):Int)<(((r0.length:Int).toNat-(b:Int).toNat:Nat):Int) by omega),g0]
   dsimp only
   rw[dT (show okP 4000 q∧okP 4000 p from⟨hq,hp⟩),bV (k:=k2) (by omega)]
   unfold im at h
   cases he:aV (dec q) (dec p)==0<;>rw[he]at h
   ·try dsimp only[Bool.not_false]
    have g3:∃y,(K++(J++p::q::S))[K.length]?=some y:=⟨_,akZ (by simp;omega)⟩
    obtain⟨y,g3⟩:=g3
    rw[ao,g3,show((K.length:Int)).toNat=K.length by omega,g3,bV (k:=K.length) (by omega)]
    exact h
   ·exact h
  have hcm:jI im p (q::S)=bif im q p then jI im q S else q::jI im q S:=rfl
  rw[hcm]
  cases he:im q p
  ·have hset:∃J',(K++(J++p::q::S)).set K.length q=(K++[q])++(J'++q::S)∧J'.length=J.length∧∀x∈J',x∈J++[p]:=by
    cases J with
    |nil=>
     refine⟨[],?_,rfl,fun x hx=>by cases hx⟩
     simp
    |cons h T=>
     refine⟨T++[p],?_,by simp,fun x hx=>by simp at hx ⊢;exact .inr hx⟩
     simp
   obtain⟨J',e,eJ,mJ⟩:=hset
   obtain⟨r,⟨n,hn⟩,hr⟩:=uh r0 b h19 S (K++[q]) J' q (fun x hx=>by
    simp only[alJ,ald,aml,anM]at hx
    rcases hx with(hx|hx)|(hx|hx|hx)
    ·exact hok x (by simp[hx])
    ·rw[hx];exact hq
    ·have:=mJ x hx
     simp only[alJ,ald,aml,anM]at this
     rcases this with h|h
     ·exact hok x (by simp[h])
     ·rw[h];exact hp
    ·rw[hx];exact hq
    ·exact hok x (by simp[hx])) (by simp;omega) (k2+1) (by omega) (by simp;omega)
   refine⟨r,jR _ _ _ _ _ _ ⟨n,key r n ?_⟩,?_⟩
   ·rw[he,e]
    have:(K++[q]).length=K.length+1:=by simp
    rw[this]at hn
    exact hn
   ·simpa using hr
  ·have e2:K++(J++p::q::S)=K++((J++[p])++q::S):=by simp
   obtain⟨r,⟨n,hn⟩,hr⟩:=uh r0 b h19 S K (J++[p]) q (e2▸hok) (e2▸hlen) (k2+1) (by omega) (by simp;omega)
   refine⟨r,jR _ _ _ _ _ _ ⟨n,key r n ?_⟩,hr⟩
   rw[he,e2]
   exact hn
omit hc in
theorem zP:∀(S A:List BP) (p:BP),(∀x∈A++p::S,okP 4000 x)→(A++p::S).length≤19→
  qQ 14 (jo c (A++p::S) ((A.length+1:Nat):Int)) (A++p::jI im p S)
 |[],A,p,hok,h19=>by
  refine⟨_,ma _ _ _ ⟨0,?_⟩,.inl rfl⟩
  unfold jb
  rw[b9 (by simp)]
  rfl
 |q::S,A,p,hok,h19=>by
  have hq:okP 4000 q:=hok q (by simp)
  have hp:okP 4000 p:=hok p (by simp)
  have h19':A.length+(S.length+1+1)≤19:=by simpa using h19
  have g1:(A++p::q::S)[A.length+1]?=some q:=by
   simp
  have g0:(A++p::q::S)[A.length]?=some p:=nY A p (q::S)
  have ew:i64.wrap (((A.length+1:Nat):Int)-1)=(A.length:Int):=by rw[aS (by omega) (by omega)];omega
  have key:∀r n,(match im q p with
    |true=>iK.k n 32 (d9 c (A++p::q::S) ((A.length+1:Nat):Int) ((A.length+1:Nat):Int) 1 (A++p::q::S))
    |false=>iK.k n 14 (jo c (A++p::q::S) ((A.length+1+1:Nat):Int)))=some r→
    jb c (A++p::q::S) ((A.length+1:Nat):Int) (iK.k n)=some r:=fun r n h=>by
   unfold jb
   rw[bH (by simp only[alw,ale];omega),ao,g1,show((A.length+1:Nat):Int).toNat=A.length+1 by omega,g1]
   dsimp only
   rw[ew,ao,g0,show((A.length:Nat):Int).toNat=A.length by omega,g0]
   dsimp only
   rw[dT (show okP 4000 q∧okP 4000 p from⟨hq,hp⟩),bV (k:=A.length+1) (by omega),dT (show(0:Int)≤((A.length+1:Nat):Int)∧((A.length+1:Nat):Int)≤((A++p::q::S).length:Int)∧((A++p::q::S).length:Int)≤((A++p::q::S).length:Int) by simp;omega)]
   exact h
  have hcm:jI im p (q::S)=bif im q p then jI im q S else q::jI im q S:=rfl
  have e2:A++p::q::S=(A++[p])++q::S:=by simp
  rw[hcm]
  cases he:im q p
  ·obtain⟨r,⟨n,hn⟩,hr⟩:=zP S (A++[p]) q (e2▸hok) (e2▸h19)
   refine⟨r,ma _ _ _ ⟨n,key r n ?_⟩,?_⟩
   ·rw[he,e2]
    have:(A++[p]).length=A.length+1:=by simp
    rw[this]at hn
    exact hn
   ·rw[alp]at hr
    exact hr
  ·obtain⟨r,⟨n,hn⟩,hr⟩:=uh c (A++p::q::S) (A.length+1) h19 S (A++[p]) [] q (e2▸hok) (by rw[e2];rfl) 1 (ak4 _) (by simp)
   refine⟨r,ma _ _ _ ⟨n,key r n ?_⟩,?_⟩
   ·rw[he,e2]
    have:(A++[p]).length=A.length+1:=by simp
    rw[this,e2]at hn
    exact hn
   ·rw[alp]at hr
    exact hr
theorem VU(hl:l.length≤19)(ho:∀x∈l,okP 4000 x):qQ 6 (rV c l 0 20 l) (dh (dC c) l):=by
 have hlast:∀r:List BP,(∀x∈r,okP 4000 x)→r.length≤19→qQ 22 (jG c l r 20) (vJ im r):=fun r hr h19=>by
  cases r with
  |nil=>
   refine⟨_,lT _ _ _ _ ⟨0,?_⟩,.inl rfl⟩
   unfold jl
   rw[dF (show ¬(20:Int)<(l.length:Int) by omega)]
   rfl
  |cons p S=>
   cases S with
   |nil=>
    refine⟨_,lT _ _ _ _ ⟨0,?_⟩,.inl rfl⟩
    unfold jl
    rw[dF (show ¬(20:Int)<(l.length:Int) by omega)]
    rfl
   |cons q S=>
    obtain⟨r',⟨n,hn⟩,hr'⟩:=zP c (q::S) [] p hr h19
    refine⟨r',lT _ _ _ _ ⟨n,?_⟩,hr'⟩
    unfold jl
    rw[dF (show ¬(20:Int)<(l.length:Int) by omega)]
    dsimp only
    rw[dF (show ¬((p::q::S).length:Int)<2 by simp;omega)]
    simpa using hn
 have hsort:qQ 22 (jG c l (tK (ltP (dC c)) l) 20) (dh (dC c) l):=hlast _ (fun x hx=>ho x (pM.1 hx)) (by rw[Et];exact hl)
 have h3:qQ 3 (eK c l 0 1 l) (dh (dC c) l):=by
  cases l with
  |nil=>
   obtain⟨r,⟨n,hn⟩,hr⟩:=hsort
   refine⟨r,kW _ _ _ _ _ ⟨n,?_⟩,hr⟩
   unfold iu
   rw[dF (show ¬(1:Int)<(([]:List BP).length:Int) by simp)]
   exact hn
  |cons x l=>
   have:=zD c (x::l) hc hl _ l [x] (fun y hy=>ho y (by simp at hy;simp[hy])) (fun y hy=>ho y (ala _ hy)) (by simp;omega) hsort
   simpa using this
 obtain⟨r,⟨n,hn⟩,hr⟩:=h3
 refine⟨r,A0 _ _ _ _ _ ⟨n,?_⟩,hr⟩
 unfold th
 rw[dF (show ¬(20:Int)≤(l.length:Int) by omega),aS (x:=0+1) (by omega) (by omega)]
 exact hn
end
def Qh:Cn 90 [tCU,(.sl tP)]:=cn fun(c:BCU) (l:List BP)=>lf (lj c l) [.d (.sl tP) (dh (dC c) l)] fun h=>by
 obtain⟨hc,hl,ho⟩:=h
 obtain⟨r,⟨n,hn⟩,hr⟩:=VU c l hc hl ho
 have hres:iK.Res 90 [.d tCU c,.d (.sl tP) l] r:=by
  refine afv _ _ ⟨n,?_⟩
  unfold WD
  rw[dT (show l.length≤100000 by omega)]
  exact hn
 rcases hr with e|e
 ·rw[e]at hres
  exact Con.new_d (et:=37) (c8 Fz hres)
 ·rw[e]at hres
  exact c8 Fz hres
end
section
def wQ(c d:BCU)(l:List BP):Prop:=lj c l∧okC 4000 d
instance (c d:BCU) (l:List BP):Decidable (wQ c d l):=by unfold wQ;infer_instance
theorem abi(d:BCU):(dV d).1=d.1:=by
 unfold dV
 cases d.2.2.2.1<;>rfl
theorem HG{k:Nat}{d:BCU}(h:okC k d):okC k (dV d):=by
 unfold dV
 cases d.2.2.2.1
 ·exact h
 ·exact P4 k h
theorem A6{c:BCU}(hc:okC 4000 c):∀{L:List BP} {f:BP},okP 4000 f→(∀x∈L,okP 4000 x)→∀p∈yL c f L,okC 4000 p
 |[],f,hf,_,p,hp=>by
  rw[ant.1 hp]
  exact⟨hc.1,hc.2.1,hf,hc.2.2.2⟩
 |x::r,f,hf,hL,p,hp=>by
  have hx:=hL x (by simp)
  have hr:∀y∈r,okP 4000 y:=fun y hy=>hL y (ala _ hy)
  unfold yL at hp
  cases h:im x c.2.2.2.2.1||im x c.2.2.2.2.2<;>rw[h]at hp
  ·rcases ald.1 hp with e|e
   ·rw[e];exact⟨hc.1,hc.2.1,hf,hx⟩
   ·exact A6 hc hx hr p e
  ·exact A6 hc hf hr p hp
theorem UR{c:BCU}{l:List BP}(h:lj c l):(rY c l).length≤20∧∀p∈rY c l,okC 4000 p:=by
 obtain⟨hc,hl,ho⟩:=h
 have hs:∀x∈dh (dC c) l,okP 4000 x:=fun x hx=>ho x (jH hx)
 have hn:(dh (dC c) l).length≤l.length:=oR
 have len:∀(L:List BP) (f:BP),(yL c f L).length≤L.length+1:=by
  intro L
  induction L with
  |nil=>intro f;simp[yL]
  |cons x r ih=>
   intro f
   unfold yL
   cases im x c.2.2.2.2.1||im x c.2.2.2.2.2
   ·have:=ih x;simp only[cond_false,ale];omega
   ·have:=ih f;simp only[cond_true,ale];omega
 unfold rY
 cases ado c l
 ·refine⟨?_,A6 hc hc.2.2.1 hs⟩
  have:=len (dh (dC c) l) c.2.2.2.2.1
  simp only[cond_false]
  unfold abs
  omega
 ·exact⟨by simp,fun p hp=>by cases hp⟩
def MW:List En:=[enT Ja,enT O8,enK Qh]
def ack:NT:=[((188,6),{keep:=[0,1,7,8],hl:=1}),((197,18),{keep:=[2,6,7,17,18,19],own:=[(6,39,tCU)],hl:=3}),((197,4),{keep:=[1,2,13],hl:=0}),((289,3),{keep:=[7],hl:=0}),((188,18),{keep:=[0,1,5,7,8,16],hl:=0})]
def DR:Ctx:=CX (ens MW) ack
def nS(c:BCU)(l:List BP)(s188_8:Int):Cfg:=⟨188,[.blk 0,.seq 25],[(0,.d (.sl tP) l),(1,.clo 290 [0]),(7,SI (l.length:Int)),(8,SI s188_8)],[.box 39 (Ty.split tCU c)],1,[⟨289,[.seq 4],3,2,[],1,none⟩,⟨197,[.seq 5,.seq 10],4,2,[(1,.d (.sl tP) l),(2,.box 0 0)],0,none⟩]⟩
def qx(c:BCU)(l:List BP)(s19:Int)(B1:BCU)(r2:List BCU):Cfg:=⟨197,[.blk 0,.seq 41],[(2,.box 0 0),(6,.own 2),(7,.box 1 0),(17,.d (.sl tP) (dh (dC c) l)),(18,SI ((dh (dC c) l).length:Int)),(19,SI s19)],[.box 39 (Ty.split tCU c),.box 39 (Ty.split tCU B1),.row 39 tCU r2],0,[]⟩
def ahb(c:BCU)(l:List BP)(k:KT):Option (List RV):=k 6 (nS c l 0)
theorem aeU(c:BCU)(l:List BP):RS DR 197 [.d tCU c,.d (.sl tP) l] (ahb c l):=rsX
def nN(c:BCU)(l:List BP)(s188_8:Int)(k:KT):Option (List RV):=match decide (s188_8<(l.length:Int))with|true=>(match aR l s188_8 with|some x1=>(match decide (okC 4000 c∧okP 4000 x1)with|true=>(match !(onP (dC c) (dec x1))with|true=>(match decide (s188_8≥0)with|true=>some [RV.d (.sl tCU) ([]),RV.d aoi 1]|false=>(match decide (lj c l)with|true=>none|false=>none))|false=>k 6 (nS c l (i64.wrap (s188_8+1))))|false=>none)|none=>none)|false=>(match decide ((-1)≥0)with|true=>some [RV.d (.sl tCU) ([]),RV.d aoi 1]|false=>(match decide (lj c l)with|true=>k 18 (qx c l 0 c ([]))|false=>none))
theorem tY(c:BCU)(l:List BP)(s188_8:Int):RN DR 6 (nS c l s188_8) (nN c l s188_8):=rnX
def ug(c:BCU)(l:List BP)(s19:Int)(B1:BCU)(r2:List BCU)(k:KT):Option (List RV):=match decide (s19<((dh (dC c) l).length:Int))with|true=>(match aR (dh (dC c) l) s19 with|some x1=>(match decide (okP 4000 x1∧okP 4000 c.2.2.2.2.1)with|true=>(match aV (dec x1) (dec c.2.2.2.2.1)==0 with|true=>k 18 (qx c l (i64.wrap (s19+1)) B1 r2)|false=>(match decide (okP 4000 x1∧okP 4000 c.2.2.2.2.2)with|true=>(match aV (dec x1) (dec c.2.2.2.2.2)==0 with|true=>k 18 (qx c l (i64.wrap (s19+1)) B1 r2)|false=>dup (.b .l .l) (match decide ((r2.length+([(B1.1,(B1.2.1,(B1.2.2.1,(B1.2.2.2.1,(B1.2.2.2.2.1,x1)))))]).length)*1040≤140737488355328∧r2.length+([(B1.1,(B1.2.1,(B1.2.2.1,(B1.2.2.2.1,(B1.2.2.2.2.1,x1)))))]).length≤140737488355328)with|true=>k 18 (qx c l (i64.wrap (s19+1)) (B1.1,(B1.2.1,(B1.2.2.1,(B1.2.2.2.1,(x1,B1.2.2.2.2.2))))) (r2++([(B1.1,(B1.2.1,(B1.2.2.1,(B1.2.2.2.1,(B1.2.2.2.2.1,x1)))))])))|false=>none))|false=>none))|false=>none)|none=>none)|false=>(match decide ((r2.length+([B1]).length)*1040≤140737488355328∧r2.length+([B1]).length≤140737488355328)with|true=>some [RV.d (.sl tCU) (r2++([B1])),RV.d aoi 0]|false=>none)
theorem Ad(c:BCU)(l:List BP)(s19:Int)(B1:BCU)(r2:List BCU):RN DR 18 (qx c l s19 B1 r2) (ug c l s19 B1 r2):=rnX
section
variable (c:BCU) (l:List BP) (h:lj c l)
include h
theorem Hr:∀(L:List BP) (i:Nat),(dh (dC c) l).drop i=L→i≤(dh (dC c) l).length→∀(f:BP) (r2:List BCU),r2.length≤i→DR.Runs 18 (qx c l (i:Int) (AY c f c.2.2.2.2.2) r2) [.d (.sl tCU) (r2++yL c f L),.d aoi (0:Int)]
 |[],i,hd,hi,f,r2,hr=>by
  have hn:(dh (dC c) l).length≤l.length:=oR
  have hl:=h.2.1
  have hlen:=congrArg List.length hd
  rw[ano,List.length_nil]at hlen
  refine Ad _ _ _ _ _ ⟨0,?_⟩
  unfold ug
  rw[b9 (by omega),alo,Bp (by omega) (by omega)]
  rfl
 |x::r,i,hd,hi,f,r2,hr=>by
  have hn:(dh (dC c) l).length≤l.length:=oR
  have hl:=h.2.1
  have hlen:=congrArg List.length hd
  rw[ano,ale]at hlen
  have hil:i<(dh (dC c) l).length:=by omega
  have hd2:=alg hil
  rw[hd2]at hd
  injection hd with e1 e2
  have hx:okP 4000 x:=by rw[←e1];exact h.2.2 _ (jH (alz hil))
  have g1:aR (dh (dC c) l) (i:Int)=some x:=by rw[ao,akZ hil,e1]
  have ih:=Hr r (i+1) e2 (by omega)
  refine Ad _ _ _ _ _ ?_
  unfold ug yL
  rw[bH hil,g1,bV (by omega)]
  dsimp only
  rw[dT (show okP 4000 x∧okP 4000 c.2.2.2.2.1 from⟨hx,h.1.2.2.1⟩),dT (show okP 4000 x∧okP 4000 c.2.2.2.2.2 from⟨hx,h.1.2.2.2⟩)]
  unfold im
  cases q1:aV (dec x) (dec c.2.2.2.2.1)==0
  ·cases q2:aV (dec x) (dec c.2.2.2.2.2)==0
   ·obtain⟨n,hn⟩:=ih x (r2++[AY c f x]) (by simp;omega)
    refine⟨n,?_⟩
    rw[alp]at hn
    simp only[eZ]
    rw[alo,Bp (by omega) (by omega)]
    exact hn
   ·exact ih f r2 (by omega)
  ·exact ih f r2 (by omega)
theorem aaH:∀(j i:Nat),i+j=l.length→DR.Runs 6 (nS c l (i:Int)) [.d (.sl tCU) (bif (l.drop i).any (fun p=>!onP (dC c) (dec p))then []else abs c l),.d aoi (bif (l.drop i).any (fun p=>!onP (dC c) (dec p))then(1:Int)else 0)]:=by
 intro j
 have hl:=h.2.1
 induction j with
 |zero=>
  intro i hi
  obtain⟨n,hn⟩:=Hr c l h (dh (dC c) l) 0 rfl (anw _) c.2.2.2.2.1 [] (ak4 _)
  refine tY _ _ _ ⟨n,?_⟩
  unfold nN
  rw[b9 (by omega),pC (by omega)]
  dsimp only
  rw[dF (show ¬(-1:Int)≥0 by decide),dT h]
  exact hn
 |succ j ih=>
  intro i hi
  have hil:i<l.length:=by omega
  obtain⟨n,hn⟩:=ih (i+1) (by omega)
  refine tY _ _ _ ⟨n,?_⟩
  unfold nN
  rw[bH hil,ao,akZ hil,gz hil,an4,bV (by omega)]
  dsimp only
  rw[dT (show okC 4000 c∧okP 4000 l[i] from⟨h.1,h.2.2 _ (alz _)⟩)]
  cases onP (dC c) (dec l[i])
  ·dsimp only[Bool.not_false]
   rw[dT (show(i:Int)≥0 by omega)]
   rfl
  ·exact hn
end
def afo:Cn 197 [tCU,(.sl tP)]:=cn fun(c:BCU) (l:List BP)=>lf (lj c l) [.d (.sl tCU) (rY c l),.d aoi (ajQ c l)] fun h=>by
 have q:=aaH c l h l.length 0 (alE _)
 exact c8 MW (aeU _ _ q)
def aaR:List En:=[enT Ja,enT O8,enL Zu,enT NW]
def Y0(d p:BCU)(_k:KT):Option (List RV):=og (decide (okC 4000 d∧okP 4000 p.2.2.2.2.1)) (match !(onP (dC d) (dec p.2.2.2.2.1))with|true=>some [RV.d .bool false]|false=>(og (decide (okC 4000 d∧okP 4000 p.2.2.2.2.2)) (match !(onP (dC d) (dec p.2.2.2.2.2))with|true=>some [RV.d .bool false]|false=>(match !d.1 with|true=>some [RV.d .bool true]|false=>(og (decide (okP 4000 ((((((hid (dV p)).2).2).2).2).1)∧okP 4000 ((((((hid (dV d)).2).2).2).2).2))) (match aV (dec ((((((hid (dV p)).2).2).2).2).1)) (dec ((((((hid (dV d)).2).2).2).2).2))==0 with|true=>some [RV.d .bool false]|false=>(og (decide (ok Ln 300 ((((hid (dV d)).2).2).1)∧okP 4000 ((((((hid (dV p)).2).2).2).2).1)∧okP 4000 ((((((hid (dV p)).2).2).2).2).2)∧okP 4000 ((((((hid (dV d)).2).2).2).2).2))) (some [RV.d .bool (decide ((gO a9 (ptd (dec ((((hid (dV d)).2).2).1)) (dec ((((((hid (dV p)).2).2).2).2).1))) (ptd (dec ((((hid (dV d)).2).2).1)) (dec ((((((hid (dV p)).2).2).2).2).2))) (ptd (dec ((((hid (dV d)).2).2).1)) (dec ((((((hid (dV d)).2).2).2).2).2))))≤0))]))))))))
def aec:Cn 199 [tCU,tCU]:=cn fun(d p:BCU)=>lf (okC 4000 d∧okC 4000 p) [.d .bool (Cx d p)] fun h=>by
 refine aA aaR (Y0 d p) ⟨0,?_⟩
 obtain⟨hd,hp⟩:=h
 have hd':=HG hd
 have hp':=HG hp
 unfold Y0 Cx frB toB im
 simp only[bK]
 rw[dT (show okC 4000 d∧okP 4000 p.2.2.2.2.1 from⟨hd,hp.2.2.1⟩),dT (show okC 4000 d∧okP 4000 p.2.2.2.2.2 from⟨hd,hp.2.2.2⟩)]
 cases onP (dC d) (dec p.2.2.2.2.1)
 ·rfl
 ·cases onP (dC d) (dec p.2.2.2.2.2)
  ·rfl
  ·cases ha:d.1
   ·rfl
   ·rw[dT (show okP 4000 (dV p).2.2.2.2.1∧okP 4000 (dV d).2.2.2.2.2 from⟨hp'.2.2.1,hd'.2.2.2⟩),dT (show ok Ln 300 (dV d).2.2.1∧okP 4000 (dV p).2.2.2.2.1∧okP 4000 (dV p).2.2.2.2.2∧okP 4000 (dV d).2.2.2.2.2 from⟨(hd'.1 ((abi d).trans ha)).1,hp'.2.2.1,hp'.2.2.2,hd'.2.2.2⟩)]
    cases aV (dec (dV p).2.2.2.2.1) (dec (dV d).2.2.2.2.2)==0<;>rfl
def Mm:List En:=[enK afo,enT aec]
def aaF:NT:=[((69,6),{keep:=[0,1,7,8],hl:=2}),((91,5),{keep:=[17],hl:=0}),((71,3),{keep:=[7],hl:=0}),((69,18),{keep:=[0,1,5,7,8,16],hl:=0})]
def OX:Ctx:=CX (ens Mm) aaF
def pW(c d:BCU)(l:List BP)(s69_8:Int):Cfg:=⟨69,[.blk 0,.seq 25],[(0,.d (.sl tCU) (rY c l)),(1,.clo 198 [1]),(7,SI ((rY c l).length:Int)),(8,SI s69_8)],[.box 39 (Ty.split tCU c),.box 39 (Ty.split tCU d)],2,[⟨71,[.seq 4],3,2,[],2,none⟩,⟨91,[.seq 6],5,2,[],0,none⟩]⟩
def XD(c d:BCU)(l:List BP)(k:KT):Option (List RV):=og (decide (lj c l)) (k 6 (pW c d l 0))
theorem afO(c d:BCU)(l:List BP):RS OX 91 [.d tCU c,.d tCU d,.d (.sl tP) l] (XD c d l):=rsX
def pe(c d:BCU)(l:List BP)(s69_8:Int)(k:KT):Option (List RV):=match decide (s69_8<((rY c l).length:Int))with|true=>(match aR (rY c l) s69_8 with|some x1=>(og (decide (okC 4000 d∧okC 4000 x1)) (match Cx d x1 with|true=>some [RV.d .bool (decide (s69_8≥0))]|false=>k 6 (pW c d l (i64.wrap (s69_8+1)))))|none=>none)|false=>some [RV.d .bool (decide ((-1)≥0))]
theorem vt(c d:BCU)(l:List BP)(s69_8:Int):RN OX 6 (pW c d l s69_8) (pe c d l s69_8):=rnX
theorem aao(c d:BCU)(l:List BP)(h:wQ c d l):∀(j i:Nat),i+j=(rY c l).length→OX.Runs 6 (pW c d l (i:Int)) [.d .bool (((rY c l).drop i).any (Cx d))]:=by
 obtain⟨hn,ho⟩:=UR h.1
 intro j
 induction j with
 |zero=>
  intro i hi
  refine vt _ _ _ _ ⟨0,?_⟩
  unfold pe
  rw[b9 (by omega),pC (by omega)]
  rfl
 |succ j ih=>
  intro i hi
  have hil:i<(rY c l).length:=by omega
  obtain⟨n,hn⟩:=ih (i+1) (by omega)
  refine vt _ _ _ _ ⟨n,?_⟩
  unfold pe
  rw[bH hil,ao,akZ hil,gz hil,an4,bV (by omega)]
  dsimp only
  rw[dT (show okC 4000 d∧okC 4000 (rY c l)[i] from⟨h.2,ho _ (alz _)⟩)]
  cases Cx d (rY c l)[i]
  ·exact hn
  ·dsimp only
   rw[dT (show(i:Int)≥0 by omega)]
   rfl
def Yr:Cn 91 [tCU,tCU,(.sl tP)]:=cn fun(c d:BCU) (l:List BP)=>lf (wQ c d l) [.d .bool (ym c d l)] fun h=>by
 obtain⟨n,hn⟩:=aao c d l h (rY c l).length 0 (alE _)
 refine c8 Mm (afO _ _ _ ⟨n,?_⟩)
 unfold XD
 rw[dT h.1]
 exact hn
end
section
theorem DW{c d:BCU}(h:f0 c d):(ik c d).length≤4∧∀x∈ik c d,okP 4000 x:=by
 obtain⟨⟨h1,h2⟩,h3,h4⟩:=h
 have up:∀{k x},okP k x→k≤4000→okP 4000 x:=fun h hk=>cJ h hk (by decide)
 unfold ik
 cases hs:cB (dC c) (dC d)
 ·refine⟨?_,fun x hx=>?_⟩
  ·simp only[cond_false,amK]
   have:∀l c,[BdL l]→[BdC c]→(kA l c).length≤4:=fun l c _ _=>alc t6.1 (by decide)
   obtain⟨c1,c2⟩:=iz h2
   obtain⟨d1,d2⟩:=iz h4
   have ec:(dC c).1=c.1:=rfl
   have ed:(dC d).1=d.1:=rfl
   unfold gf
   rw[ec,ed]
   cases ha:c.1<;>cases hb:d.1
   ·have i1:=(c2 ha).1
    have i2:=(d2 hb).1
    exact alc vY.1 (by decide)
   ·have i1:=(c2 ha).1
    have i2:=(d1 hb).1
    exact this _ _
   ·have i1:=(c1 ha).1
    have i2:=(d2 hb).1
    exact this _ _
   ·have i1:=(c1 ha).1
    have i2:=(d1 hb).1
    show(oK _ _).length≤4
    unfold oK
    cases hq:gQ (ciC (dC c)) (ciC (dC d))
    ·have i3:BdL (mS (ciC (dC c)) (ciC (dC d))):=xn
     exact this _ _
    ·exact anw _
  ·obtain⟨p,hp,rfl⟩:=al3.1 hx
   obtain⟨b,r,_,_⟩:=RE.supM_on h2 h4 hp
   exact ak1 (aN (j:=1200) (by decide) (by decide))
 ·refine⟨by simp,fun x hx=>?_⟩
  have:x=c.2.2.2.2.1∨x=c.2.2.2.2.2∨x=d.2.2.2.2.1∨x=d.2.2.2.2.2:=by simpa using hx
  rcases this with e|e|e|e<;>rw[e]
  ·exact up h1.2.2.1 (by decide)
  ·exact up h1.2.2.2 (by decide)
  ·exact up h3.2.2.1 (by decide)
  ·exact up h3.2.2.2 (by decide)
theorem H7{α:Type}(z:α)(L T:List α):((jx z ((L.length:Int).toNat) ((((L++T).length:Int)).toNat-(L.length:Int).toNat) (L++T)).drop ((0:Int).toNat)).take ((L.length:Int).toNat-(0:Int).toNat)=L∧
  L.length≤(jx z ((L.length:Int).toNat) ((((L++T).length:Int)).toNat-(L.length:Int).toNat) (L++T)).length:=by
 have hcl:(jx z ((L.length:Int).toNat) ((((L++T).length:Int)).toNat-(L.length:Int).toNat) (L++T)).take L.length=L:=by
  unfold jx
  rw[show((L.length:Int)).toNat=L.length by omega,alp,List.take_append_of_le_length (by simp),an9,Nat.min_self,List.take_left' rfl]
 refine⟨?_,?_⟩
 ·rw[show((0:Int)).toNat=0 from rfl,amG,show((L.length:Int)).toNat-0=L.length by omega,hcl]
 ·have:=congrArg List.length hcl
  rw[alK]at this
  omega
def Z4:Cn 84 [tCU,tCU]:=cn fun(a b:BCU)=>lf (gW a b∧cB (dC a) (dC b)=true) [.d .bool true] fun h=>by
 have e:Con Tryz.prog 84 [.d tCU a,.d tCU b] [.d .bool (cB (dC a) (dC b))]:=(YA.g a b).h h.1
 rw[h.2]at e
 exact e
def Qn:List En:=[enT Z4,enT Rf,enL X7,enK Qh,enF Yr,enK Fk]
def Sq:NT:=[((188,6),{keep:=[0,1,7,8],hl:=4}),((86,16),{keep:=[0,1,5,6],hl:=4}),((42,11),{keep:=[2,3,26,28],hl:=0}),((86,3),{keep:=[0,1,10],hl:=0}),((188,18),{keep:=[0,1,5,7,8,16],hl:=0}),((86,28),{keep:=[0,1,5,6,7,28],hl:=0})]
def kJ:Ctx:=CX (ens Qn) Sq
def jC(c d:BCU)(s188_8:Int):Cfg:=⟨188,[.blk 0,.seq 25],[(0,.own 3),(1,.clo 88 [0,1]),(7,SI (([c.2.2.2.2.1,c.2.2.2.2.2,d.2.2.2.2.1,d.2.2.2.2.2]).length:Int)),(8,SI s188_8)],[.box 39 (Ty.split tCU c),.box 39 (Ty.split tCU d),.gone,.row 37 tP ([c.2.2.2.2.1,c.2.2.2.2.2,d.2.2.2.2.1,d.2.2.2.2.2])],4,[⟨86,[.seq 4],3,2,[(0,.own 3),(1,.clo 88 [0,1])],4,none⟩,⟨42,[.seq 12],11,3,[(2,.box 0 0),(3,.box 1 0),(26,.own 3)],0,none⟩]⟩
def dM(c d:BCU)(s86_5 s86_6:Int)(r86_3:List BP):Cfg:=⟨86,[.blk 0,.seq 35],[(0,.own 3),(1,.clo 88 [0,1]),(5,SI s86_5),(6,SI s86_6)],[.box 39 (Ty.split tCU c),.box 39 (Ty.split tCU d),.gone,.row 37 tP r86_3],4,[⟨42,[.seq 12],11,3,[(2,.box 0 0),(3,.box 1 0),(26,.own 3)],0,none⟩]⟩
def Ld(c d:BCU)(k:KT):Option (List RV):=match decide (gW c d∧cB (dC c) (dC d)=true)with|true=>(match decide (([c.2.2.2.2.1,c.2.2.2.2.2,d.2.2.2.2.1,d.2.2.2.2.2]).length≤100000)with|true=>k 6 (jC c d 0)|false=>none)|false=>none
theorem acr(c d:BCU):RS kJ 42 [.d tCU c,.d tCU d] (Ld c d):=rsX
def jm(c d:BCU)(s188_8:Int)(k:KT):Option (List RV):=match decide (s188_8<(([c.2.2.2.2.1,c.2.2.2.2.2,d.2.2.2.2.1,d.2.2.2.2.2]).length:Int))with|true=>(match aR ([c.2.2.2.2.1,c.2.2.2.2.2,d.2.2.2.2.1,d.2.2.2.2.2]) s188_8 with|some _=>(match true,([c.2.2.2.2.1,c.2.2.2.2.2,d.2.2.2.2.1,d.2.2.2.2.2])[(s188_8).toNat]? with|true,some x1=>(match decide (okC 4000 c∧okP 4000 x1)with|true=>(match !(il (dC c) (dec x1))with|true=>(match s188_8==(-1)with|true=>(match decide (lj c ([c.2.2.2.2.1,c.2.2.2.2.2,d.2.2.2.2.1,d.2.2.2.2.2]))with|true=>(match decide (gW c d∧cB (dC c) (dC d)=true)with|true=>(match decide (wQ c d (dh (dC c) ([c.2.2.2.2.1,c.2.2.2.2.2,d.2.2.2.2.1,d.2.2.2.2.2])))with|true=>some [RV.d (.sl tP) (dh (dC c) ([c.2.2.2.2.1,c.2.2.2.2.2,d.2.2.2.2.1,d.2.2.2.2.2])),RV.d .bool (ym c d (dh (dC c) ([c.2.2.2.2.1,c.2.2.2.2.2,d.2.2.2.2.1,d.2.2.2.2.2])))]|false=>none)|false=>none)|false=>none)|false=>k 16 (dM c d s188_8 (i64.wrap (s188_8+1)) ([c.2.2.2.2.1,c.2.2.2.2.2,d.2.2.2.2.1,d.2.2.2.2.2])))|false=>(match decide (okC 4000 d∧okP 4000 x1)with|true=>(match !(il (dC d) (dec x1))with|true=>(match s188_8==(-1)with|true=>(match decide (lj c ([c.2.2.2.2.1,c.2.2.2.2.2,d.2.2.2.2.1,d.2.2.2.2.2]))with|true=>(match decide (gW c d∧cB (dC c) (dC d)=true)with|true=>(match decide (wQ c d (dh (dC c) ([c.2.2.2.2.1,c.2.2.2.2.2,d.2.2.2.2.1,d.2.2.2.2.2])))with|true=>some [RV.d (.sl tP) (dh (dC c) ([c.2.2.2.2.1,c.2.2.2.2.2,d.2.2.2.2.1,d.2.2.2.2.2])),RV.d .bool (ym c d (dh (dC c) ([c.2.2.2.2.1,c.2.2.2.2.2,d.2.2.2.2.1,d.2.2.2.2.2])))]|false=>none)|false=>none)|false=>none)|false=>k 16 (dM c d s188_8 (i64.wrap (s188_8+1)) ([c.2.2.2.2.1,c.2.2.2.2.2,d.2.2.2.2.1,d.2.2.2.2.2])))|false=>k 6 (jC c d (i64.wrap (s188_8+1))))|false=>none))|false=>none)|_,_=>none)|none=>none)|false=>(match(-1)==(-1)with|true=>(match decide (lj c ([c.2.2.2.2.1,c.2.2.2.2.2,d.2.2.2.2.1,d.2.2.2.2.2]))with|true=>(match decide (gW c d∧cB (dC c) (dC d)=true)with|true=>(match decide (wQ c d (dh (dC c) ([c.2.2.2.2.1,c.2.2.2.2.2,d.2.2.2.2.1,d.2.2.2.2.2])))with|true=>some [RV.d (.sl tP) (dh (dC c) ([c.2.2.2.2.1,c.2.2.2.2.2,d.2.2.2.2.1,d.2.2.2.2.2])),RV.d .bool (ym c d (dh (dC c) ([c.2.2.2.2.1,c.2.2.2.2.2,d.2.2.2.2.1,d.2.2.2.2.2])))]|false=>none)|false=>none)|false=>none)|false=>k 16 (dM c d (-1) (i64.wrap ((-1)+1)) ([c.2.2.2.2.1,c.2.2.2.2.2,d.2.2.2.2.1,d.2.2.2.2.2])))
theorem lW(c d:BCU)(s188_8:Int):RN kJ 6 (jC c d s188_8) (jm c d s188_8):=rnX
def iZ(c d:BCU)(s86_5 s86_6:Int)(r86_3:List BP)(k:KT):Option (List RV):=match decide (s86_6<(r86_3.length:Int))with|true=>(match aR r86_3 s86_6 with|some _=>(match true,r86_3[(s86_6).toNat]? with|true,some x1=>(match decide (okC 4000 c∧okP 4000 x1)with|true=>(match !(il (dC c) (dec x1))with|true=>k 16 (dM c d s86_5 (i64.wrap (s86_6+1)) r86_3)|false=>(match decide (okC 4000 d∧okP 4000 x1)with|true=>(match !(!(il (dC d) (dec x1)))with|true=>(match aR r86_3 s86_5 with|some _=>(match true,r86_3[(s86_5).toNat]? with|true,some _=>k 16 (dM c d (i64.wrap (s86_5+1)) (i64.wrap (s86_6+1)) (r86_3.set ((s86_5).toNat) x1))|_,_=>none)|none=>none)|false=>k 16 (dM c d s86_5 (i64.wrap (s86_6+1)) r86_3))|false=>none))|false=>none)|_,_=>none)|none=>none)|false=>(match decide ((0:Int)≤s86_5∧s86_5≤(r86_3.length:Int)∧(r86_3.length:Int)≤(r86_3.length:Int))with|true=>(match decide ((0:Int)≤0∧0≤s86_5∧s86_5≤((jx (Ty.zero tP) ((s86_5:Int).toNat) (((r86_3.length:Int):Int).toNat-(s86_5:Int).toNat) r86_3).length:Int))with|true=>(match decide (lj c (((jx (Ty.zero tP) ((s86_5:Int).toNat) (((r86_3.length:Int):Int).toNat-(s86_5:Int).toNat) r86_3).drop ((0:Int).toNat)).take ((s86_5:Int).toNat-(0:Int).toNat)))with|true=>(match decide (gW c d∧cB (dC c) (dC d)=true)with|true=>(match decide (wQ c d (dh (dC c) (((jx (Ty.zero tP) ((s86_5:Int).toNat) (((r86_3.length:Int):Int).toNat-(s86_5:Int).toNat) r86_3).drop ((0:Int).toNat)).take ((s86_5:Int).toNat-(0:Int).toNat))))with|true=>some [RV.d (.sl tP) (dh (dC c) (((jx (Ty.zero tP) ((s86_5:Int).toNat) (((r86_3.length:Int):Int).toNat-(s86_5:Int).toNat) r86_3).drop ((0:Int).toNat)).take ((s86_5:Int).toNat-(0:Int).toNat))),RV.d .bool (ym c d (dh (dC c) (((jx (Ty.zero tP) ((s86_5:Int).toNat) (((r86_3.length:Int):Int).toNat-(s86_5:Int).toNat) r86_3).drop ((0:Int).toNat)).take ((s86_5:Int).toNat-(0:Int).toNat))))]|false=>none)|false=>none)|false=>none)|false=>none)|false=>none)
theorem l9(c d:BCU)(s86_5 s86_6:Int)(r86_3:List BP):RN kJ 16 (dM c d s86_5 s86_6 r86_3) (iZ c d s86_5 s86_6 r86_3):=rnX
section
variable (c d:BCU) (h:f0 c d) (hs:cB (dC c) (dC d)=true)
include h hs
theorem C7(L:List BP)(hl:L.length≤4)(ho:∀x∈L,okP 4000 x):(match decide (lj c L)with
  |true=>(match decide (gW c d∧cB (dC c) (dC d)=true)with
   |true=>(match decide (wQ c d (dh (dC c) L))with|true=>some [RV.d (.sl tP) (dh (dC c) L),RV.d .bool (ym c d (dh (dC c) L))]|false=>none)
   |false=>none)
  |false=>none)=some [RV.d (.sl tP) (dh (dC c) L),RV.d .bool (ym c d (dh (dC c) L))]:=by
 have hc:okC 4000 c:=ce h.1.1 (by decide) (by decide)
 have hd:okC 4000 d:=ce h.2.1 (by decide) (by decide)
 have q:lj c L:=⟨hc,by omega,ho⟩
 have hn:(dh (dC c) L).length≤L.length:=oR
 have _q2:wQ c d (dh (dC c) L):=⟨⟨hc,by omega,fun x hx=>ho x (jH hx)⟩,hd⟩
 rw[dT q,dT (show gW c d∧cB (dC c) (dC d)=true from⟨⟨h.1.2,h.2.2⟩,hs⟩)]
 dsimp only
 rw[dT _q2]
theorem xL:∀(S:List BP) (L J:List BP),J≠[]→(∀x∈L++(J++S),okP 4000 x)→(L++(J++S)).length≤4→
  kJ.Runs 16 (dM c d (L.length:Int) ((L.length+J.length:Nat):Int) (L++(J++S))) [RV.d (.sl tP) (dh (dC c) (L++S.filter (gA c d))),RV.d .bool (ym c d (dh (dC c) (L++S.filter (gA c d))))]
 |[],L,J,hJ,hok,h4=>by
  have h4':L.length+J.length≤4:=by simpa using h4
  obtain⟨c1,c2⟩:=H7 (Ty.zero tP) L J
  refine l9 _ _ _ _ _ ⟨0,?_⟩
  unfold iZ
  rw[alv,b9 (by simp)]
  dsimp only
  rw[dT (show(0:Int)≤(L.length:Int)∧(L.length:Int)≤((L++J).length:Int)∧((L++J).length:Int)≤((L++J).length:Int) by simp only[alw];omega)]
  rw[dT (show(0:Int)≤0∧0≤(L.length:Int)∧(L.length:Int)≤((jx (Ty.zero tP) ((L.length:Int).toNat) ((((L++J).length:Int)).toNat-(L.length:Int).toNat) (L++J)).length:Int) by omega)]
  rw[c1,anK,alv]
  exact C7 c d h hs L (by omega) fun x hx=>hok x (amA _ hx)
 |q::S,L,J,hJ,hok,h4=>by
  have h4':L.length+(J.length+(S.length+1))≤4:=by simpa using h4
  have hc:okC 4000 c:=ce h.1.1 (by decide) (by decide)
  have hd:okC 4000 d:=ce h.2.1 (by decide) (by decide)
  have hq:okP 4000 q:=hok q (by simp)
  have g1:(L++(J++q::S))[L.length+J.length]?=some q:=by
   have:=nY (L++J) q S
   rw[alw,alp]at this
   exact this
  obtain⟨y,T,rfl⟩:=List.exists_cons_of_ne_nil hJ
  have g2:(L++(y::T++q::S))[L.length]?=some y:=nY L y (T++q::S)
  have hset:(L++(y::T++q::S)).set L.length q=(L++[q])++((T++[q])++S):=by
   have:=Bm y q (T++q::S) L
   rw[show y::T++q::S=y::(T++q::S) from rfl,this]
   simp
  have e2:L++(y::T++q::S)=L++((y::T++[q])++S):=by simp
  have key:∀r n,(match gA c d q with
    |true=>kJ.k n 16 (dM c d ((L.length+1:Nat):Int) ((L.length+(y::T).length+1:Nat):Int) ((L++[q])++((T++[q])++S)))
    |false=>kJ.k n 16 (dM c d (L.length:Int) ((L.length+(y::T).length+1:Nat):Int) (L++(y::T++q::S))))=some r→
    iZ c d (L.length:Int) ((L.length+(y::T).length:Nat):Int) (L++(y::T++q::S)) (kJ.k n)=some r:=fun r n hk=>by
   unfold iZ
   rw[bH (by simp only[alw,ale];omega),ao,g1,show((L.length+(y::T).length:Nat):Int).toNat=L.length+(y::T).length by omega,g1]
   dsimp only
   rw[dT (show okC 4000 c∧okP 4000 q from⟨hc,hq⟩),dT (show okC 4000 d∧okP 4000 q from⟨hd,hq⟩),bV (k:=L.length+(y::T).length) (by simp only[ale]at*;omega),bV (k:=L.length) (by omega),ao,g2,show((L.length:Nat):Int).toNat=L.length by omega,g2,hset]
   unfold gA at hk
   cases r1:il (dC c) (dec q)<;>cases r2:il (dC d) (dec q)<;>rw[r1,r2]at hk<;>exact hk
  rw[amV]
  cases hk:gA c d q
  ·obtain⟨n,hn⟩:=xL S L (y::T++[q]) (by simp) (e2▸hok) (e2▸h4)
   refine l9 _ _ _ _ _ ⟨n,key _ n ?_⟩
   rw[hk,e2]
   rw[alw,alo,←am2]at hn
   exact hn
  ·obtain⟨n,hn⟩:=xL S (L++[q]) (T++[q]) (by simp) (fun x hx=>by
    simp only[alJ,ald,aml,anM]at hx
    rcases hx with(hx|hx)|(hx|hx)|hx
    ·exact hok x (by simp[hx])
    ·rw[hx];exact hq
    ·exact hok x (by simp[hx])
    ·rw[hx];exact hq
    ·exact hok x (by simp[hx])) (by simp at h4 ⊢;omega)
   refine l9 _ _ _ _ _ ⟨n,key _ n ?_⟩
   rw[hk]
   have n1:(L++[q]).length=L.length+1:=by simp
   have n2:L.length+1+(T++[q]).length=L.length+(y::T).length+1:=by simp;omega
   rw[n1,n2,alp L [q] (S.filter (gA c d))]at hn
   exact hn
theorem IY(X:List BP)(hX:[c.2.2.2.2.1,c.2.2.2.2.2,d.2.2.2.2.1,d.2.2.2.2.2]=X)(h4:X.length≤4)(hok:∀x∈X,okP 4000 x):∀(S A:List BP),A++S=X→A.filter (gA c d)=A→
  kJ.Runs 6 (jC c d (A.length:Int)) [RV.d (.sl tP) (dh (dC c) (A++S.filter (gA c d))),RV.d .bool (ym c d (dh (dC c) (A++S.filter (gA c d))))]
 |[],A,hA,hf=>by
  rw[alv]at hA
  refine lW _ _ _ ⟨0,?_⟩
  unfold jm
  rw[hX,←hA,b9 (by omega),anK,alv]
  exact C7 c d h hs A (hA▸h4) (hA▸hok)
 |q::S,A,hA,hf=>by
  have hc:okC 4000 c:=ce h.1.1 (by decide) (by decide)
  have hd:okC 4000 d:=ce h.2.1 (by decide) (by decide)
  have hq:okP 4000 q:=hok q (by rw[←hA];simp)
  have g1:X[A.length]?=some q:=by rw[←hA];exact nY A q S
  have hlen:A.length<X.length:=by rw[←hA];simp
  have key:∀r n,(match gA c d q with
    |true=>kJ.k n 6 (jC c d ((A.length+1:Nat):Int))
    |false=>kJ.k n 16 (dM c d (A.length:Int) ((A.length+1:Nat):Int) X))=some r→
    jm c d (A.length:Int) (kJ.k n)=some r:=fun r n hk=>by
   unfold jm
   rw[hX,bH hlen,ao,g1,show((A.length:Nat):Int).toNat=A.length by omega,g1]
   dsimp only
   rw[dT (show okC 4000 c∧okP 4000 q from⟨hc,hq⟩),dT (show okC 4000 d∧okP 4000 q from⟨hd,hq⟩),bV (k:=A.length) (by omega),show((A.length:Int)== -1)=false by rw[anm];omega]
   unfold gA at hk
   cases r1:il (dC c) (dec q)<;>cases r2:il (dC d) (dec q)<;>rw[r1,r2]at hk<;>exact hk
  rw[amV]
  cases hk:gA c d q
  ·obtain⟨n,hn⟩:=xL c d h hs S A [q] (by simp) (by rw[amr,hA];exact hok) (by rw[amr,hA];exact h4)
   refine lW _ _ _ ⟨n,key _ n ?_⟩
   rw[hk]
   rw[amr,hA]at hn
   exact hn
  ·obtain⟨n,hn⟩:=IY X hX h4 hok S (A++[q]) (by rw[alp];exact hA) (by rw[List.filter_append,hf,amV,hk];rfl)
   refine lW _ _ _ ⟨n,key _ n ?_⟩
   rw[hk]
   have n1:(A++[q]).length=A.length+1:=by simp
   rw[n1,alp A [q] (S.filter (gA c d))]at hn
   exact hn
end
theorem Ow(c d:BCU)(h:f0 c d)(hs:cB (dC c) (dC d)=true):Con Tryz.prog 42 [.d tCU c,.d tCU d] [.d (.sl tP) (fY c d),.d .bool (qN c d)]:=by
 obtain⟨h4,ho⟩:=DW h
 have e:ik c d=[c.2.2.2.2.1,c.2.2.2.2.2,d.2.2.2.2.1,d.2.2.2.2.2]:=by unfold ik;rw[hs];rfl
 rw[e]at h4 ho
 obtain⟨n,hn⟩:=IY c d h hs _ rfl h4 ho _ [] rfl rfl
 have e2:fY c d=dh (dC c) (List.filter (gA c d) [c.2.2.2.2.1,c.2.2.2.2.2,d.2.2.2.2.1,d.2.2.2.2.2]):=by unfold fY;rw[e]
 have e3:qN c d=ym c d (dh (dC c) (List.filter (gA c d) [c.2.2.2.2.1,c.2.2.2.2.2,d.2.2.2.2.1,d.2.2.2.2.2])):=by unfold qN;rw[hs,e2];rfl
 rw[e2,e3]
 refine c8 Qn (acr _ _ ⟨n,?_⟩)
 unfold Ld
 rw[dT (show gW c d∧cB (dC c) (dC d)=true from⟨⟨h.1.2,h.2.2⟩,hs⟩)]
 dsimp only
 rw[dT (alc h4 (by decide))]
 exact hn
def acl:Cn 84 [tCU,tCU]:=cn fun(a b:BCU)=>lf (gW a b∧cB (dC a) (dC b)=false) [.d .bool false] fun h=>by
 have e:Con Tryz.prog 84 [.d tCU a,.d tCU b] [.d .bool (cB (dC a) (dC b))]:=(YA.g a b).h h.1
 rw[h.2]at e
 exact e
def PH:List En:=[enT acl,enT Rf,enL X7,enK Qh,enF Yr,enK Fk]
def UU:NT:=[((188,6),{keep:=[0,1,7,8],hl:=3}),((86,16),{keep:=[0,1,5,6],hl:=3}),((42,11),{keep:=[2,3,26,28],hl:=0}),((86,3),{keep:=[0,1,10],hl:=0}),((188,18),{keep:=[0,1,5,7,8,16],hl:=0}),((86,28),{keep:=[0,1,5,6,7,28],hl:=0})]
def kx:Ctx:=CX (ens PH) UU
def jA(c d:BCU)(s188_8:Int):Cfg:=⟨188,[.blk 0,.seq 25],[(0,.own 2),(1,.clo 88 [0,1]),(7,SI (((gf (dC c) (dC d)).map enc).length:Int)),(8,SI s188_8)],[.box 39 (Ty.split tCU c),.box 39 (Ty.split tCU d),.row 37 tP ((gf (dC c) (dC d)).map enc)],3,[⟨86,[.seq 4],3,2,[(0,.own 2),(1,.clo 88 [0,1])],3,none⟩,⟨42,[.seq 12],11,3,[(2,.box 0 0),(3,.box 1 0),(26,.own 2)],0,none⟩]⟩
def dN(c d:BCU)(s86_5 s86_6:Int)(r86_2:List BP):Cfg:=⟨86,[.blk 0,.seq 35],[(0,.own 2),(1,.clo 88 [0,1]),(5,SI s86_5),(6,SI s86_6)],[.box 39 (Ty.split tCU c),.box 39 (Ty.split tCU d),.row 37 tP r86_2],3,[⟨42,[.seq 12],11,3,[(2,.box 0 0),(3,.box 1 0),(26,.own 2)],0,none⟩]⟩
def Lu(c d:BCU)(k:KT):Option (List RV):=match decide (gW c d∧cB (dC c) (dC d)=false)with|true=>(match decide (gW c d)with|true=>(match decide (((gf (dC c) (dC d)).map enc).length≤100000)with|true=>k 6 (jA c d 0)|false=>none)|false=>none)|false=>none
theorem abK(c d:BCU):RS kx 42 [.d tCU c,.d tCU d] (Lu c d):=rsX
def ja(c d:BCU)(s188_8:Int)(k:KT):Option (List RV):=match decide (s188_8<(((gf (dC c) (dC d)).map enc).length:Int))with|true=>(match aR ((gf (dC c) (dC d)).map enc) s188_8 with|some _=>(match true,((gf (dC c) (dC d)).map enc)[(s188_8).toNat]? with|true,some x1=>(match decide (okC 4000 c∧okP 4000 x1)with|true=>(match !(il (dC c) (dec x1))with|true=>(match s188_8==(-1)with|true=>(match decide (lj c ((gf (dC c) (dC d)).map enc))with|true=>(match decide (gW c d∧cB (dC c) (dC d)=false)with|true=>some [RV.d (.sl tP) (dh (dC c) ((gf (dC c) (dC d)).map enc)),RV.d .bool false]|false=>none)|false=>none)|false=>k 16 (dN c d s188_8 (i64.wrap (s188_8+1)) ((gf (dC c) (dC d)).map enc)))|false=>(match decide (okC 4000 d∧okP 4000 x1)with|true=>(match !(il (dC d) (dec x1))with|true=>(match s188_8==(-1)with|true=>(match decide (lj c ((gf (dC c) (dC d)).map enc))with|true=>(match decide (gW c d∧cB (dC c) (dC d)=false)with|true=>some [RV.d (.sl tP) (dh (dC c) ((gf (dC c) (dC d)).map enc)),RV.d .bool false]|false=>none)|false=>none)|false=>k 16 (dN c d s188_8 (i64.wrap (s188_8+1)) ((gf (dC c) (dC d)).map enc)))|false=>k 6 (jA c d (i64.wrap (s188_8+1))))|false=>none))|false=>none)|_,_=>none)|none=>none)|false=>(match(-1)==(-1)with|true=>(match decide (lj c ((gf (dC c) (dC d)).map enc))with|true=>(match decide (gW c d∧cB (dC c) (dC d)=false)with|true=>some [RV.d (.sl tP) (dh (dC c) ((gf (dC c) (dC d)).map enc)),RV.d .bool false]|false=>none)|false=>none)|false=>k 16 (dN c d (-1) (i64.wrap ((-1)+1)) ((gf (dC c) (dC d)).map enc)))
theorem lY(c d:BCU)(s188_8:Int):RN kx 6 (jA c d s188_8) (ja c d s188_8):=rnX
def jh(c d:BCU)(s86_5 s86_6:Int)(r86_2:List BP)(k:KT):Option (List RV):=match decide (s86_6<(r86_2.length:Int))with|true=>(match aR r86_2 s86_6 with|some _=>(match true,r86_2[(s86_6).toNat]? with|true,some x1=>(match decide (okC 4000 c∧okP 4000 x1)with|true=>(match !(il (dC c) (dec x1))with|true=>k 16 (dN c d s86_5 (i64.wrap (s86_6+1)) r86_2)|false=>(match decide (okC 4000 d∧okP 4000 x1)with|true=>(match !(!(il (dC d) (dec x1)))with|true=>(match aR r86_2 s86_5 with|some _=>(match true,r86_2[(s86_5).toNat]? with|true,some _=>k 16 (dN c d (i64.wrap (s86_5+1)) (i64.wrap (s86_6+1)) (r86_2.set ((s86_5).toNat) x1))|_,_=>none)|none=>none)|false=>k 16 (dN c d s86_5 (i64.wrap (s86_6+1)) r86_2))|false=>none))|false=>none)|_,_=>none)|none=>none)|false=>(match decide ((0:Int)≤s86_5∧s86_5≤(r86_2.length:Int)∧(r86_2.length:Int)≤(r86_2.length:Int))with|true=>(match decide ((0:Int)≤0∧0≤s86_5∧s86_5≤((jx (Ty.zero tP) ((s86_5:Int).toNat) (((r86_2.length:Int):Int).toNat-(s86_5:Int).toNat) r86_2).length:Int))with|true=>(match decide (lj c (((jx (Ty.zero tP) ((s86_5:Int).toNat) (((r86_2.length:Int):Int).toNat-(s86_5:Int).toNat) r86_2).drop ((0:Int).toNat)).take ((s86_5:Int).toNat-(0:Int).toNat)))with|true=>(match decide (gW c d∧cB (dC c) (dC d)=false)with|true=>some [RV.d (.sl tP) (dh (dC c) (((jx (Ty.zero tP) ((s86_5:Int).toNat) (((r86_2.length:Int):Int).toNat-(s86_5:Int).toNat) r86_2).drop ((0:Int).toNat)).take ((s86_5:Int).toNat-(0:Int).toNat))),RV.d .bool false]|false=>none)|false=>none)|false=>none)|false=>none)
theorem l7(c d:BCU)(s86_5 s86_6:Int)(r86_2:List BP):RN kx 16 (dN c d s86_5 s86_6 r86_2) (jh c d s86_5 s86_6 r86_2):=rnX
section
variable (c d:BCU) (h:f0 c d) (hs:cB (dC c) (dC d)=false)
include h hs
theorem ED(L:List BP)(hl:L.length≤4)(ho:∀x∈L,okP 4000 x):(match decide (lj c L)with
  |true=>(match decide (gW c d∧cB (dC c) (dC d)=false)with
   |true=>some [RV.d (.sl tP) (dh (dC c) L),RV.d .bool false]
   |false=>none)
  |false=>none)=some [RV.d (.sl tP) (dh (dC c) L),RV.d .bool (false)]:=by
 have hc:okC 4000 c:=ce h.1.1 (by decide) (by decide)
 have hd:okC 4000 d:=ce h.2.1 (by decide) (by decide)
 have q:lj c L:=⟨hc,by omega,ho⟩
 have hn:(dh (dC c) L).length≤L.length:=oR
 have _q2:wQ c d (dh (dC c) L):=⟨⟨hc,by omega,fun x hx=>ho x (jH hx)⟩,hd⟩
 rw[dT q,dT (show gW c d∧cB (dC c) (dC d)=false from⟨⟨h.1.2,h.2.2⟩,hs⟩)]
theorem xZ:∀(S:List BP) (L J:List BP),J≠[]→(∀x∈L++(J++S),okP 4000 x)→(L++(J++S)).length≤4→
  kx.Runs 16 (dN c d (L.length:Int) ((L.length+J.length:Nat):Int) (L++(J++S))) [RV.d (.sl tP) (dh (dC c) (L++S.filter (gA c d))),RV.d .bool (false)]
 |[],L,J,hJ,hok,h4=>by
  have h4':L.length+J.length≤4:=by simpa using h4
  obtain⟨c1,c2⟩:=H7 (Ty.zero tP) L J
  refine l7 _ _ _ _ _ ⟨0,?_⟩
  unfold jh
  rw[alv,b9 (by simp)]
  dsimp only
  rw[dT (show(0:Int)≤(L.length:Int)∧(L.length:Int)≤((L++J).length:Int)∧((L++J).length:Int)≤((L++J).length:Int) by simp only[alw];omega)]
  rw[dT (show(0:Int)≤0∧0≤(L.length:Int)∧(L.length:Int)≤((jx (Ty.zero tP) ((L.length:Int).toNat) ((((L++J).length:Int)).toNat-(L.length:Int).toNat) (L++J)).length:Int) by omega)]
  rw[c1,anK,alv]
  exact ED c d h hs L (by omega) fun x hx=>hok x (amA _ hx)
 |q::S,L,J,hJ,hok,h4=>by
  have h4':L.length+(J.length+(S.length+1))≤4:=by simpa using h4
  have hc:okC 4000 c:=ce h.1.1 (by decide) (by decide)
  have hd:okC 4000 d:=ce h.2.1 (by decide) (by decide)
  have hq:okP 4000 q:=hok q (by simp)
  have g1:(L++(J++q::S))[L.length+J.length]?=some q:=by
   have:=nY (L++J) q S
   rw[alw,alp]at this
   exact this
  obtain⟨y,T,rfl⟩:=List.exists_cons_of_ne_nil hJ
  have g2:(L++(y::T++q::S))[L.length]?=some y:=nY L y (T++q::S)
  have hset:(L++(y::T++q::S)).set L.length q=(L++[q])++((T++[q])++S):=by
   have:=Bm y q (T++q::S) L
   rw[show y::T++q::S=y::(T++q::S) from rfl,this]
   simp
  have e2:L++(y::T++q::S)=L++((y::T++[q])++S):=by simp
  have key:∀r n,(match gA c d q with
    |true=>kx.k n 16 (dN c d ((L.length+1:Nat):Int) ((L.length+(y::T).length+1:Nat):Int) ((L++[q])++((T++[q])++S)))
    |false=>kx.k n 16 (dN c d (L.length:Int) ((L.length+(y::T).length+1:Nat):Int) (L++(y::T++q::S))))=some r→
    jh c d (L.length:Int) ((L.length+(y::T).length:Nat):Int) (L++(y::T++q::S)) (kx.k n)=some r:=fun r n hk=>by
   unfold jh
   rw[bH (by simp only[alw,ale];omega),ao,g1,show((L.length+(y::T).length:Nat):Int).toNat=L.length+(y::T).length by omega,g1]
   dsimp only
   rw[dT (show okC 4000 c∧okP 4000 q from⟨hc,hq⟩),dT (show okC 4000 d∧okP 4000 q from⟨hd,hq⟩),bV (k:=L.length+(y::T).length) (by simp only[ale]at*;omega),bV (k:=L.length) (by omega),ao,g2,show((L.length:Nat):Int).toNat=L.length by omega,g2,hset]
   unfold gA at hk
   cases r1:il (dC c) (dec q)<;>cases r2:il (dC d) (dec q)<;>rw[r1,r2]at hk<;>exact hk
  rw[amV]
  cases hk:gA c d q
  ·obtain⟨n,hn⟩:=xZ S L (y::T++[q]) (by simp) (e2▸hok) (e2▸h4)
   refine l7 _ _ _ _ _ ⟨n,key _ n ?_⟩
   rw[hk,e2]
   rw[alw,alo,←am2]at hn
   exact hn
  ·obtain⟨n,hn⟩:=xZ S (L++[q]) (T++[q]) (by simp) (fun x hx=>by
    simp only[alJ,ald,aml,anM]at hx
    rcases hx with(hx|hx)|(hx|hx)|hx
    ·exact hok x (by simp[hx])
    ·rw[hx];exact hq
    ·exact hok x (by simp[hx])
    ·rw[hx];exact hq
    ·exact hok x (by simp[hx])) (by simp at h4 ⊢;omega)
   refine l7 _ _ _ _ _ ⟨n,key _ n ?_⟩
   rw[hk]
   have n1:(L++[q]).length=L.length+1:=by simp
   have n2:L.length+1+(T++[q]).length=L.length+(y::T).length+1:=by simp;omega
   rw[n1,n2,alp L [q] (S.filter (gA c d))]at hn
   exact hn
theorem HO(X:List BP)(hX:((gf (dC c) (dC d)).map enc)=X)(h4:X.length≤4)(hok:∀x∈X,okP 4000 x):∀(S A:List BP),A++S=X→A.filter (gA c d)=A→
  kx.Runs 6 (jA c d (A.length:Int)) [RV.d (.sl tP) (dh (dC c) (A++S.filter (gA c d))),RV.d .bool (false)]
 |[],A,hA,hf=>by
  rw[alv]at hA
  refine lY _ _ _ ⟨0,?_⟩
  unfold ja
  rw[hX,←hA,b9 (by omega),anK,alv]
  exact ED c d h hs A (hA▸h4) (hA▸hok)
 |q::S,A,hA,hf=>by
  have hc:okC 4000 c:=ce h.1.1 (by decide) (by decide)
  have hd:okC 4000 d:=ce h.2.1 (by decide) (by decide)
  have hq:okP 4000 q:=hok q (by rw[←hA];simp)
  have g1:X[A.length]?=some q:=by rw[←hA];exact nY A q S
  have hlen:A.length<X.length:=by rw[←hA];simp
  have key:∀r n,(match gA c d q with
    |true=>kx.k n 6 (jA c d ((A.length+1:Nat):Int))
    |false=>kx.k n 16 (dN c d (A.length:Int) ((A.length+1:Nat):Int) X))=some r→
    ja c d (A.length:Int) (kx.k n)=some r:=fun r n hk=>by
   unfold ja
   rw[hX,bH hlen,ao,g1,show((A.length:Nat):Int).toNat=A.length by omega,g1]
   dsimp only
   rw[dT (show okC 4000 c∧okP 4000 q from⟨hc,hq⟩),dT (show okC 4000 d∧okP 4000 q from⟨hd,hq⟩),bV (k:=A.length) (by omega),show((A.length:Int)== -1)=false by rw[anm];omega]
   unfold gA at hk
   cases r1:il (dC c) (dec q)<;>cases r2:il (dC d) (dec q)<;>rw[r1,r2]at hk<;>exact hk
  rw[amV]
  cases hk:gA c d q
  ·obtain⟨n,hn⟩:=xZ c d h hs S A [q] (by simp) (by rw[amr,hA];exact hok) (by rw[amr,hA];exact h4)
   refine lY _ _ _ ⟨n,key _ n ?_⟩
   rw[hk]
   rw[amr,hA]at hn
   exact hn
  ·obtain⟨n,hn⟩:=HO X hX h4 hok S (A++[q]) (by rw[alp];exact hA) (by rw[List.filter_append,hf,amV,hk];rfl)
   refine lY _ _ _ ⟨n,key _ n ?_⟩
   rw[hk]
   have n1:(A++[q]).length=A.length+1:=by simp
   rw[n1,alp A [q] (S.filter (gA c d))]at hn
   exact hn
end
theorem OC(c d:BCU)(h:f0 c d)(hs:cB (dC c) (dC d)=false):Con Tryz.prog 42 [.d tCU c,.d tCU d] [.d (.sl tP) (fY c d),.d .bool (qN c d)]:=by
 obtain⟨h4,ho⟩:=DW h
 have e:ik c d=((gf (dC c) (dC d)).map enc):=by unfold ik;rw[hs];rfl
 rw[e]at h4 ho
 obtain⟨n,hn⟩:=HO c d h hs _ rfl h4 ho _ [] rfl rfl
 have e2:fY c d=dh (dC c) (List.filter (gA c d) ((gf (dC c) (dC d)).map enc)):=by unfold fY;rw[e]
 have e3:qN c d=false:=by unfold qN;rw[hs,e2];rfl
 rw[e2,e3]
 refine c8 PH (abK _ _ ⟨n,?_⟩)
 unfold Lu
 rw[dT (show gW c d∧cB (dC c) (dC d)=false from⟨⟨h.1.2,h.2.2⟩,hs⟩)]
 dsimp only
 rw[dT (show gW c d from⟨h.1.2,h.2.2⟩)]
 dsimp only
 rw[dT (alc h4 (by decide))]
 exact hn
def ae8:Cn 42 [tCU,tCU]:=cn fun(c d:BCU)=>lf (f0 c d) [.d (.sl tP) (fY c d),.d .bool (qN c d)] fun h=>by
 cases hs:cB (dC c) (dC d)
 ·exact OC c d h hs
 ·exact Ow c d h hs
end
section
open RE
section
variable {α β:Type} (f:α→β)
theorem Ez{lt:α→α→Bool}{lt':β→β→Bool}(h:∀a b,lt' (f a) (f b)=lt a b)(a:α):∀r:List α,lg lt' (r.map f) (f a)=(lg lt r a).map f
 |[]=>rfl
 |b::r=>by
  have ih:=Ez h a r
  simp only[ani,lg,h]
  cases lt a b
  ·rfl
  ·simp only[cond_true,ani,ih]
theorem EO{lt:α→α→Bool}{lt':β→β→Bool}(h:∀a b,lt' (f a) (f b)=lt a b):∀(l r:List α),(l.map f).foldl (lg lt') (r.map f)=(l.foldl (lg lt) r).map f
 |[],_=>rfl
 |a::l,r=>by
  rw[ani,amJ,amJ,Ez f h,EO h]
theorem QO{lt:α→α→Bool}{lt':β→β→Bool}(h:∀a b,lt' (f a) (f b)=lt a b)(l:List α):tK lt' (l.map f)=(tK lt l).map f:=by
 unfold tK
 have:=EO f h l []
 rw[List.map_nil]at this
 rw[this,List.map_reverse]
theorem DB{g:α→α→Bool}{g':β→β→Bool}(h:∀a b,g' (f a) (f b)=g a b):∀(l:List α) (p:α),jI g' (f p) (l.map f)=(jI g p l).map f
 |[],_=>rfl
 |q::r,p=>by
  have ih:=DB h r q
  simp only[ani,jI,h]
  cases g q p
  ·simp only[cond_false,ani,ih]
  ·exact ih
theorem P7{g:α→α→Bool}{g':β→β→Bool}(h:∀a b,g' (f a) (f b)=g a b)(l:List α):vJ g' (l.map f)=(vJ g l).map f:=by
 cases l with
 |nil=>rfl
 |cons x r=>
  simp only[ani,vJ]
  rw[DB f h]
end
def acJ(c d:Cv):List Pt:=vJ (fun a b=>aV a b==0) (tK (fun a b=>decide (BE c a b<0)) ((bif cB c d then [frC c,toC c,frC d,toC d]else gf c d).filter fun p=>il c p&&il d p))
theorem QW{c d:BCU}(h1:c.2.2.2.2.1=enc (frC (dC c)))(h2:c.2.2.2.2.2=enc (toC (dC c)))(h3:d.2.2.2.2.1=enc (frC (dC d)))(h4:d.2.2.2.2.2=enc (toC (dC d))):fY c d=(acJ (dC c) (dC d)).map enc:=by
 have e:ik c d=(bif cB (dC c) (dC d)then [frC (dC c),toC (dC c),frC (dC d),toC (dC d)]else gf (dC c) (dC d)).map enc:=by
  unfold ik
  cases cB (dC c) (dC d)
  ·rfl
  ·simp only[cond_true,ani,List.map_nil,←h1,←h2,←h3,←h4]
 unfold fY acJ dh
 rw[e,List.filter_map]
 have e2:(gA c d∘enc)=fun p:Pt=>il (dC c) p&&il (dC d) p:=by
  funext p
  show(il (dC c) (dec (enc p))&&il (dC d) (dec (enc p)))=_
  rw[az]
 rw[e2,QO (f:=(enc:Pt→BP)) (lt:=fun a b=>decide (BE (dC c) a b<0)) (fun a b=>by unfold ltP;rw[az,az]),P7 (f:=(enc:Pt→BP)) (g:=fun a b=>aV a b==0) (fun a b=>by unfold im;rw[az,az])]
abbrev uS1:Rat×Rat:=(Rat.divInt (-4) 2,Rat.divInt 1 2)
abbrev uS2:Rat×Rat:=(Rat.divInt 4 2,Rat.divInt 1 2)
def qS:Cv:=(false,(0,4,2),(0,0,0),false,atP uS1,atP uS2)
section
theorem bQ(n d:Int)(h:DX n d):Bd (Rat.divInt n d) 3:=Tq h.1 h.2.1 h.2.2
end
end
section
open Go.ChangeShapes Go.WideShapes Go.ChangeAt Go.WideMaps Go.WideElems Go.RowKit
theorem Pc:ownKnob Tryz.prog.godebug=none:=by kernel_rfl
def Ty.ok:(t:Ty)→t.D→Prop
 |.int k,x=>(Lit.int k x).wf=true
 |.bool,_=>True
 |.str,_=>True
 |.sl e,xs=>xs.length≤9223372036854775807∧∀x∈xs,e.ok x
 |.pair a b,x=>a.ok x.1∧b.ok x.2
 |.st a,x=>a.ok x
def wG(rp:TypeId→Ty→Bool)(cells:TypeId→Nat):List Field→Ty→Nat→Bool
 |[],_,_=>false
 |[f],a,off=>rp f.type a&&Nat.beq f.offset off&&Nat.beq (cells f.type) a.n
 |f::g::fs,.pair a b,off=>rp f.type a&&Nat.beq f.offset off&&Nat.beq (cells f.type) a.n&&wG rp cells (g::fs) b (off+a.n)
 |_,_,_=>false
def GG(rp:Ty→Bool)(n:Nat):Nat→Ty→Bool
 |0,_=>false
 |1,a=>rp a&&Nat.beq a.n n
 |k+2,.pair a b=>rp a&&Nat.beq a.n n&&GG rp n (k+1) b
 |_,_=>false
def rep(P:Program):Nat→TypeId→Ty→Bool
 |0,_,_=>false
 |n+1,t,ty=>match P.underlying t,ty with
  |some (.int k),.int k'=>decide (k=k')
  |some .bool,.bool=>true
  |some .string,.str=>true
  |some (.slice e),.sl ety=>rep P n e ety&&Nat.beq (P.cellsOf e) ety.n&&Nat.ble 1 ety.n
  |some (.struct fs),.st a=>wG (rep P n) P.cellsOf fs.toList a 0&&Nat.beq (P.cellsOf t) a.n
  |some (.array k e),.st a=>GG (rep P n e) (P.cellsOf e) k a&&Nat.beq (P.cellsOf t) a.n
  |_,_=>false
theorem VF{w:World}{a:Addr}{v:Value}(h:w.cell? a=some v):a.block<w.heap.size∧a.spot=none:=by
 unfold World.cell? at h
 split at h
 ·rename_i hb
  refine⟨(alf.1 hb).1,?_⟩
  simp_all
 grind
theorem D7{α β:Type}{f:α→Option β}:∀{l:List α} {r:List β},l.mapM f=some r→r.length=l.length∧∀(j:Nat) (y:β),r[j]?=some y→∃x,l[j]?=some x∧f x=some y
 |[],r,h=>by simp at h;subst h;simp
 |x::l,r,h=>by
  rw[List.mapM_cons]at h
  cases hx:f x with
  |none=>rw[hx]at h;simp at h
  |some y=>
   rw[hx]at h
   cases hl:l.mapM f with
   |none=>rw[hl]at h;simp at h
   |some r'=>
    rw[hl]at h
    obtain rfl:y::r'=r:=by simpa using h
    obtain⟨h1,h2⟩:=D7 hl
    refine⟨by simp[h1],fun j z hz=>?_⟩
    cases j with
    |zero=>exact⟨x,rfl,by simpa [hx]using hz⟩
    |succ j=>obtain⟨u,h3,h4⟩:=h2 j z (by simpa using hz);exact⟨u,by simpa using h3,h4⟩
theorem J4{w:World}{base n:Nat}{a:Addr}{l:List Value}(h:w.cells? base a n=some l):l.length=n∧∀(j:Nat) (v:Value),l[j]?=some v→w.cell? (a.add j)=some v:=by
 unfold World.cells? at h
 split at h
 ·obtain⟨h1,h2⟩:=D7 h
  grind
 grind
theorem Nt{α β:Type}{n:Nat}{p:Nat→α→β→Prop}(h:∀i,i<n→∃s t,p i s t):∃(l:List α) (m:List β),l.length=n∧m.length=n∧∀i s t,l[i]?=some s→m[i]?=some t→p i s t:=by
 induction n with
 |zero=>exact⟨[],[],rfl,rfl,fun i s t h=>by simp at h⟩
 |succ n ih=>
  obtain⟨l,m,h1,h2,h3⟩:=ih fun i hi=>h i (by omega)
  obtain⟨s,t,hst⟩:=h n (by omega)
  refine⟨l++[s],m++[t],by simp[h1],by simp[h2],fun i s' t' hs ht=>?_⟩
  grind
section
variable {H:Type} {enc:TypeId×Value→H} {P:Program} {w:World} {base:Nat} {spare:Nat→Bool} {held:Bool}
def R1(enc:TypeId×Value→H)(P:Program)(w:World)(base:Nat)(spare:Nat→Bool)(held:Bool)(ty:Ty):Prop:=∀(n:Nat) (t:TypeId),rep P n t ty=true→∀(fuel:Nat) (cs:List Value) (x:DataW H×List MemPlace),cs.length=ty.n→DataW.trod enc P w base spare held fuel t cs=some x→∃y:ty.D,ty.rd (fun _=>True) w cs y∧ty.ok y
def R2(enc:TypeId×Value→H)(P:Program)(w:World)(base:Nat)(spare:Nat→Bool)(held:Bool)(ty:Ty):Prop:=∀(n:Nat) (fs:List Field) (off:Nat) (cs:List Value),wG (rep P n) P.cellsOf fs ty off=true→cs.length=ty.n→(∀f∈fs,off≤f.offset→∃fuel x,DataW.trod enc P w base spare held fuel f.type ((cs.drop (f.offset-off)).take (P.cellsOf f.type))=some x)→∃y:ty.D,ty.rd (fun _=>True) w cs y∧ty.ok y
def R3(enc:TypeId×Value→H)(P:Program)(w:World)(base:Nat)(spare:Nat→Bool)(held:Bool)(ty:Ty):Prop:=∀(n k:Nat) (e:TypeId) (cs:List Value),GG (rep P n e) (P.cellsOf e) k ty=true→cs.length=ty.n→(∀i,i<k→∃fuel x,DataW.trod enc P w base spare held fuel e ((cs.drop (i*P.cellsOf e)).take (P.cellsOf e))=some x)→∃y:ty.D,ty.rd (fun _=>True) w cs y∧ty.ok y
theorem agX{ty:Ty}(h1:R1 enc P w base spare held ty)(hp:∀(n:Nat) (f g:Field) (fs:List Field) (off:Nat) (cs:List Value),wG (rep P n) P.cellsOf (f::g::fs) ty off=true→cs.length=ty.n→(∀q∈f::g::fs,off≤q.offset→∃fuel x,DataW.trod enc P w base spare held fuel q.type ((cs.drop (q.offset-off)).take (P.cellsOf q.type))=some x)→∃y:ty.D,ty.rd (fun _=>True) w cs y∧ty.ok y):R2 enc P w base spare held ty:=by
 intro n fs off cs hr hl hf
 match fs,hr,hf with
 |[f],hr,hf=>
  simp only[wG,ak2]at hr
  have ho:=ak3 hr.1.2
  have hc:=ak3 hr.2
  obtain⟨fuel,x,hx⟩:=hf f (by simp) (by omega)
  rw[ho,anz,hc,ub _ _ hl]at hx
  exact h1 n f.type hr.1.1 fuel cs x hl hx
 |f::g::fs,hr,hf=>exact hp n f g fs off cs hr hl hf
theorem agY{ty:Ty}(h1:R1 enc P w base spare held ty)(hp:∀(n k:Nat) (e:TypeId) (cs:List Value),GG (rep P n e) (P.cellsOf e) (k+2) ty=true→cs.length=ty.n→(∀i,i<k+2→∃fuel x,DataW.trod enc P w base spare held fuel e ((cs.drop (i*P.cellsOf e)).take (P.cellsOf e))=some x)→∃y:ty.D,ty.rd (fun _=>True) w cs y∧ty.ok y):R3 enc P w base spare held ty:=by
 intro n k e cs hr hl hf
 match k,hr,hf with
 |1,hr,hf=>
  simp only[GG,ak2]at hr
  have hc:=ak3 hr.2
  obtain⟨fuel,x,hx⟩:=hf 0 (by omega)
  rw[Nat.zero_mul,←hc,ub _ _ hl]at hx
  exact h1 n e hr.1 fuel cs x hl hx
 |k+2,hr,hf=>exact hp n k e cs hr hl hf
theorem UA:∀(ty:Ty),R1 enc P w base spare held ty∧R2 enc P w base spare held ty∧R3 enc P w base spare held ty:=by
 intro ty
 have pE:∀{ty:Ty},(∀a b,ty≠.pair a b)→R1 enc P w base spare held ty→R1 enc P w base spare held ty∧R2 enc P w base spare held ty∧R3 enc P w base spare held ty:=by
  intro ty hne h1
  refine⟨h1,agX h1 fun n f g fs off cs hr=>?_,agY h1 fun n k e cs hr=>?_⟩
  ·cases ty<;>first|exact absurd rfl (hne _ _)|simp[wG]at hr
  ·cases ty<;>first|exact absurd rfl (hne _ _)|simp[GG]at hr
 induction ty with
 |int k=>
  refine pE (fun a b e=>by cases e) fun n t hr fuel cs x hl hx=>?_
  cases n with
  |zero=>simp[rep]at hr
  |succ n=>
   unfold rep at hr
   split at hr<;>try (cases hr;done)
   all_goals rename_i hu he<;>cases he
   have:=ak1 hr
   subst this
   obtain⟨m,rfl,_,hw⟩:=DataW.trod_int hu hx
   exact⟨m,rfl,hw⟩
 |bool=>
  refine pE (fun a b e=>by cases e) fun n t hr fuel cs x hl hx=>?_
  cases n with
  |zero=>simp[rep]at hr
  |succ n=>
   unfold rep at hr
   split at hr<;>try (cases hr;done)
   all_goals rename_i hu he<;>cases he
   obtain⟨m,rfl,_⟩:=DataW.trod_bool hu hx
   exact⟨m,rfl,trivial⟩
 |str=>
  refine pE (fun a b e=>by cases e) fun n t hr fuel cs x hl hx=>?_
  cases n with
  |zero=>simp[rep]at hr
  |succ n=>
   unfold rep at hr
   split at hr<;>try (cases hr;done)
   all_goals rename_i hu he<;>cases he
   cases fuel with
   |zero=>simp[DataW.trod]at hx
   |succ fuel=>
    unfold DataW.trod at hx
    rw[hu]at hx
    split at hx<;>simp_all
    exact⟨_,rfl,trivial⟩
 |sl e ih=>
  refine pE (fun a b e=>by cases e) fun n t hr fuel cs x hl hx=>?_
  cases n with
  |zero=>simp[rep]at hr
  |succ n=>
   unfold rep at hr
   split at hr<;>try (cases hr;done)
   all_goals rename_i hu he<;>cases he
   simp only[ak2]at hr
   obtain⟨⟨r1,r2⟩,r3⟩:=hr
   have hc:=ak3 r2
   have hn0:=ak5 r3
   rcases Deep.open_slice hu hx with⟨rfl,_⟩|⟨a,len,cap,m,nn,D,Pl,rfl,hb,hle,hcap,hm,_,hel⟩
   ·exact⟨[],wO,by simp,fun x hx=>by simp at hx⟩
   ·have hlm:len≤m:=by rw[hm];split<;>omega
    have key:∀i,i<len→∃(l:List Value) (y:e.D),(e.rd (fun _=>True) w l y∧e.ok y)∧∀j v,l[j]?=some v→w.cell? ((a.add (i*e.n)).add j)=some v:=by
     intro i hi
     obtain⟨cs',h1,h2⟩:=hel i (by omega)
     rw[hc]at h1
     obtain⟨h3,h4⟩:=J4 h1
     obtain⟨y,h5⟩:=ih.1 n _ r1 nn cs' _ h3 h2
     exact⟨cs',y,h5,h4⟩
    obtain⟨css,ys,l1,l2,hk⟩:=Nt key
    have hall:cg (fun l y=>e.rd (fun _=>True) w l y) css ys:=H3 (by omega) fun i l y h1 h2=>(hk i l y h1 h2).1.1
    refine⟨ys,⟨some a,len,cap,css,rfl,l2,hle,hcap,hall,fun h0=>?_⟩,by unfold maxLen at hcap;omega,fun y hy=>?_⟩
    ·obtain⟨l0,hl0⟩:∃l,css[0]?=some l:=⟨_,akZ (by omega)⟩
     obtain⟨y0,hy0,hrd0⟩:=iW hall 0 l0 hl0
     have hlen0:=Ty.rd_len hrd0
     obtain⟨v0,hv0⟩:∃v,l0[0]?=some v:=⟨_,akZ (by omega)⟩
     have hc0:=(hk 0 l0 y0 hl0 hy0).2 0 v0 hv0
     have e0:(a.add (0*e.n)).add 0=a:=by simp[Addr.add]
     rw[e0]at hc0
     obtain⟨h1,h2⟩:=VF hc0
     obtain⟨b,off,sp⟩:=a
     dsimp only at h1 h2
     subst h2
     refine⟨b,off,rfl,trivial,h1,fun i v hv=>?_⟩
     have hls:=fZ hall
     have hi:i<css.flatten.length:=(ak9.1 hv).1
     rw[ia hls,l1]at hi
     have hq:i/e.n<len:=Nat.div_lt_of_lt_mul (by rw[Nat.mul_comm];exact hi)
     obtain⟨l,hl⟩:∃l,css[i/e.n]?=some l:=⟨_,akZ (by omega)⟩
     obtain⟨y,hy,hrd⟩:=iW hall _ l hl
     have hmod:i%e.n<e.n:=anU _ hn0
     obtain⟨u,hu'⟩:∃u,l[i%e.n]?=some u:=⟨_,akZ (by rw[Ty.rd_len hrd];exact hmod)⟩
     have hfl:=lK hls hl hu'
     have hdm:i/e.n*e.n+i%e.n=i:=by rw[Nat.mul_comm];exact Nat.div_add_mod i e.n
     rw[hdm,hv]at hfl
     injection hfl with hfl
     subst hfl
     have:=(hk _ l y hl hy).2 _ _ hu'
     rw[dQ,dQ]at this
     rwa [am2,hdm]at this
    ·obtain⟨i,hi,rfl⟩:=anj hy
     obtain⟨l,hl,_⟩:=pg hall i _ (akZ hi)
     exact(hk i l _ hl (akZ hi)).1.2
 |st a ih=>
  refine pE (fun a b e=>by cases e) fun n t hr fuel cs x hl hx=>?_
  cases n with
  |zero=>simp[rep]at hr
  |succ n=>
   unfold rep at hr
   split at hr<;>try (cases hr;done)
   all_goals rename_i hu he<;>cases he
   ·simp only[ak2]at hr
    obtain⟨xs,k,rfl,_,_,hlen,hg⟩:=DataW.trod_struct hu hx
    refine ih.2.1 n _ 0 cs hr.1 hl fun f hf _=>?_
    obtain⟨i,hi,rfl⟩:=anj hf
    rename_i fs
    have h1:=hg i _ (by rw[←amL];exact akZ hi)
    obtain⟨y,hy⟩:∃y,xs[i]?=some y:=⟨_,akZ (by rw[hlen];simpa using hi)⟩
    rw[hy]at h1
    exact⟨k,y,by rw[Nat.sub_zero];exact h1⟩
   ·simp only[ak2]at hr
    obtain⟨xs,k,rfl,_,_,hlen,hg⟩:=DataW.trod_array hu hx
    refine ih.2.2 n _ _ cs hr.1 hl fun i hi=>?_
    have h1:=hg i hi
    obtain⟨y,hy⟩:∃y,xs[i]?=some y:=⟨_,akZ (by rw[hlen];exact hi)⟩
    rw[hy]at h1
    exact⟨k,y,h1⟩
 |pair a b iha ihb=>
  have h1:R1 enc P w base spare held (.pair a b):=by
   intro n t hr
   cases n with
   |zero=>simp[rep]at hr
   |succ n=>
    unfold rep at hr
    split at hr<;>first|(cases hr;done)|(rename_i he;cases he)
  have cut:∀{cs:List Value} {k m:Nat},cs.length=a.n+b.n→((cs.drop a.n).drop k).take m=(cs.drop (a.n+k)).take m:=fun _=>by rw[an8]
  refine⟨h1,agX h1 fun n f g fs off cs hr hl hf=>?_,agY h1 fun n k e cs hr hl hf=>?_⟩
  ·simp only[wG,ak2]at hr
   obtain⟨⟨⟨r1,r2⟩,r3⟩,r4⟩:=hr
   have ho:=ak3 r2
   have hc:=ak3 r3
   simp only[Ty.n]at hl
   obtain⟨fuel,x,hx⟩:=hf f (by simp) (by omega)
   rw[ho,anz,hc,amG]at hx
   obtain⟨y1,k1,k2⟩:=iha.1 n f.type r1 fuel (cs.take a.n) x (by simp;omega) hx
   obtain⟨y2,k3,k4⟩:=ihb.2.1 n (g::fs) (off+a.n) (cs.drop a.n) r4 (by simp;omega) fun q hq hle=>by
    obtain⟨fuel,x,hx⟩:=hf q (by simp only[ald]at hq ⊢;exact .inr hq) (by omega)
    refine⟨fuel,x,?_⟩
    rw[an8,show a.n+(q.offset-(off+a.n))=q.offset-off by omega]
    exact hx
   exact⟨(y1,y2),⟨_,_,(amo a.n cs).symm,k1,k3⟩,k2,k4⟩
  ·simp only[GG,ak2]at hr
   obtain⟨⟨r1,r2⟩,r3⟩:=hr
   have hc:=ak3 r2
   simp only[Ty.n]at hl
   obtain⟨fuel,x,hx⟩:=hf 0 (by omega)
   rw[Nat.zero_mul,amG,←hc]at hx
   obtain⟨y1,k1,k2⟩:=iha.1 n e r1 fuel (cs.take a.n) x (by simp;omega) hx
   obtain⟨y2,k3,k4⟩:=ihb.2.2 n (k+1) e (cs.drop a.n) r3 (by simp;omega) fun i hi=>by
    obtain⟨fuel,x,hx⟩:=hf (i+1) (by omega)
    refine⟨fuel,x,?_⟩
    rw[an8,hc,show P.cellsOf e+i*P.cellsOf e=(i+1)*P.cellsOf e by rw[amI];omega]
    exact hx
   exact⟨(y1,y2),⟨_,_,(amo a.n cs).symm,k1,k3⟩,k2,k4⟩
end
end
theorem zm{n:Int}(h:Ty.ok (.int .i8) n):i8P n:=bounds_i8 h
theorem Ob{n:Int}(h:Ty.ok (.int .u8) n):u8P n:=bounds_u8 h
theorem XG{x:Dr}(h:Ty.ok tDr x):AW x:=⟨Ob h.1,Ob h.2.1,zm h.2.2.1,zm h.2.2.2.1,zm h.2.2.2.2.1,zm h.2.2.2.2.2.1,zm h.2.2.2.2.2.2.1,zm h.2.2.2.2.2.2.2⟩
theorem OT{x:Pce}(h:Ty.ok yf x):yO x:=⟨XG h.1,XG h.2.1,Ob h.2.2⟩
end Go.Proofs.YtnkndpoojnflmaaGreat
end
