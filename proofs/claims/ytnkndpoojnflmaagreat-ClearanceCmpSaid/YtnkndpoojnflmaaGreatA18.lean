/- Sorted points of a curve: the program's contract. -/
import Derived.Test.YtnkndpoojnflmaaGreatA17
import Derived.Test.YtnkndpoojnflmaaGreatA16
import Derived.Test.YtnkndpoojnflmaaGreatA15
import Derived.Test.YtnkndpoojnflmaaGreatA6
import Derived.ProofKit
import Derived.OpenShut
import Derived.ChangeSame
import Derived.Deep.Slices
import Derived.Test.YtnkndpoojnflmaaGreatA14
noncomputable section
namespace Go.Proofs.YtnkndpoojnflmaaGreat
open Go.RowKit Go.IntKind
section
theorem B7{n m k:Nat}(h1:n+m≤100000000)(hk:k≤1000000):decide ((n+m)*k≤140737488355328∧n+m≤140737488355328)=true:=by
 refine amE ⟨?_,by omega⟩;have:=aoM h1 hk;omega
def lj(c:BCU)(l:List BP):Prop:=okC 4000 c∧l.length≤19∧∀x∈l,okP 4000 x
instance (c:BCU) (l:List BP):Decidable (lj c l):=by unfold lj;infer_instance
def M9:Ctx:=CX [] []
def Qw(p:List BP)(_k:KT):OLR:=match p with|[]=>Gx (some [RV.new 37 tP []]) (og (decide ((([]:List BP).length+p.length)*320≤140737488355328∧([]:List BP).length+p.length≤140737488355328)) (some [RV.new 37 tP (([]:List BP)++p)]))|_::_=>(og (decide ((([]:List BP).length+p.length)*320≤140737488355328∧([]:List BP).length+p.length≤140737488355328)) (some [RV.new 37 tP (([]:List BP)++p)]))
theorem adh(p:List BP):RS M9 87 [.d (.sl tP) p] (Qw p):=rsX
def Gb:Cn 87 [(.sl tP)]:=cn fun(p:List BP)=>lf (p.length≤100000) [.new 37 tP p] fun h=>by
 refine Ctx.Res.con (C:=M9) (FS (E:=[]) trivial) ?_ (fn:=Tryz.f87) (by kernel_rfl) (by kernel_rfl);refine adh _ ⟨0,?_⟩;unfold Qw;rw[B7 (n:=([]:List BP).length) (m:=p.length) (by simp;omega) (by omega)];cases p with
 |nil=>exact dO _
 |cons a p=>rfl
def ac7:List En:=[enT QO]
def Xi(p q:BP)(_k:KT):OLR:=og (decide (okP 4000 p∧okP 4000 q)) (some [RV.d .bool ((aX (dec p) (dec q))==0)])
def Oc:Cn 196 [tP,tP]:=cn fun(p q:BP)=>lf (okP 4000 p∧okP 4000 q) [.d .bool (aX (dec p) (dec q)==0)] fun h=>by
 refine aA ac7 (Xi p q) ⟨0,?_⟩;unfold Xi;rw[dT h]
def Jz:eg:={keep:=true,run:=fun _ _ _=>none}
theorem Kf:SpK 329 Jz:=by
 refine⟨by kernel_rfl,fun R args k r h=>(by cases h),fun g h=>(by cases h)⟩
def GO:List En:=[enT ag8,enT Oc,enK Gb,⟨329,Jz,Kf⟩]
def aa3:NT:=[((288,6),{keep:=[0,1,2,6,7,8],hl:=2}),((328,3),{keep:=[0,1,2,3,8],hl:=2}),((328,15),{keep:=[0,1,2,3,8,9],hl:=2}),((288,22),{keep:=[0,1,2,6],hl:=2}),((288,34),{keep:=[0,1,2,6,7,8],hl:=2}),((195,14),{keep:=[0,1,5],hl:=2}),((195,32),{keep:=[0,1,5,6,7],hl:=2}),((90,5),{keep:=[1],hl:=0}),((192,0),{keep:=[],hl:=0}),((288,15),{keep:=[0,1,2,6,8],hl:=0}),((288,20),{keep:=[0,1,2,6],hl:=0}),((328,18),{keep:=[0,1,2,3,8,9,18,19,20,21,22,23,24,25,26,27,28,29,30,31,32,33,34],hl:=0}),((90,7),{keep:=[11],hl:=0})]
def iG:Ctx:=CX (ens GO) aa3
def rJ(c:BCU)(l:List BP)(s288_7 s288_8:Int)(r288_1:List BP):Cfg:=⟨288,[.blk 0,.seq 19],[(0,.own 1),(1,SI (l.length:Int)),(2,.clo 193 [0]),(6,SI 20),(7,SI s288_7),(8,SI s288_8)],[.box 39 (Ty.split tCU c),.row 37 tP r288_1],2,[⟨192,[],0,4,[],2,none⟩,⟨90,[.seq 6],5,2,[(1,.own 1)],0,none⟩]⟩
def qX(c:BCU)(l:List BP)(s288_7 s288_8 s328_8:Int)(r328_1:List BP):Cfg:=⟨328,[.blk 0],[(0,.own 1),(1,SI s288_7),(2,SI s288_8),(3,.clo 193 [0]),(8,SI s328_8)],[.box 39 (Ty.split tCU c),.row 37 tP r328_1],2,[⟨288,[.seq 16,.blk 1,.lp 6,.blk 0,.seq 19],15,4,[(0,.own 1),(1,SI (l.length:Int)),(2,.clo 193 [0]),(6,SI 20),(8,SI s288_8)],2,none⟩,⟨192,[],0,4,[],2,none⟩,⟨90,[.seq 6],5,2,[(1,.own 1)],0,none⟩]⟩
def eL(c:BCU)(l:List BP)(s288_7 s328_8:Int)(r328_1:List BP):Cfg:=⟨328,[.blk 0],[(0,.own 1),(1,SI s288_7),(2,SI (l.length:Int)),(3,.clo 193 [0]),(8,SI s328_8)],[.box 39 (Ty.split tCU c),.row 37 tP r328_1],2,[⟨288,[.seq 21],20,4,[(0,.own 1),(1,SI (l.length:Int)),(2,.clo 193 [0]),(6,SI 20)],2,none⟩,⟨192,[],0,4,[],2,none⟩,⟨90,[.seq 6],5,2,[(1,.own 1)],0,none⟩]⟩
def Ep(c:BCU)(l:List BP)(s288_7 s288_8 s328_8 s328_9:Int)(r328_1:List BP):Cfg:=⟨328,[.blk 2,.blk 1,.seq 26,.lp 3,.blk 0],[(0,.own 1),(1,SI s288_7),(2,SI s288_8),(3,.clo 193 [0]),(8,SI s328_8),(9,SI s328_9)],[.box 39 (Ty.split tCU c),.row 37 tP r328_1],2,[⟨288,[.seq 16,.blk 1,.lp 6,.blk 0,.seq 19],15,4,[(0,.own 1),(1,SI (l.length:Int)),(2,.clo 193 [0]),(6,SI 20),(8,SI s288_8)],2,none⟩,⟨192,[],0,4,[],2,none⟩,⟨90,[.seq 6],5,2,[(1,.own 1)],0,none⟩]⟩
def gk(c:BCU)(l:List BP)(s288_7 s328_8 s328_9:Int)(r328_1:List BP):Cfg:=⟨328,[.blk 2,.blk 1,.seq 26,.lp 3,.blk 0],[(0,.own 1),(1,SI s288_7),(2,SI (l.length:Int)),(3,.clo 193 [0]),(8,SI s328_8),(9,SI s328_9)],[.box 39 (Ty.split tCU c),.row 37 tP r328_1],2,[⟨288,[.seq 21],20,4,[(0,.own 1),(1,SI (l.length:Int)),(2,.clo 193 [0]),(6,SI 20)],2,none⟩,⟨192,[],0,4,[],2,none⟩,⟨90,[.seq 6],5,2,[(1,.own 1)],0,none⟩]⟩
def jo(c:BCU)(l r328_1:List BP)(s288_6:Int):Cfg:=⟨288,[.blk 2],[(0,.own 1),(1,SI (l.length:Int)),(2,.clo 193 [0]),(6,SI s288_6)],[.box 39 (Ty.split tCU c),.row 37 tP r328_1],2,[⟨192,[],0,4,[],2,none⟩,⟨90,[.seq 6],5,2,[(1,.own 1)],0,none⟩]⟩
def EJ(c:BCU)(l r328_1:List BP)(s288_6:Int):Cfg:=⟨288,[.blk 4,.seq 47,.blk 3,.lp 22,.blk 2],[(0,.own 1),(1,SI (l.length:Int)),(2,.clo 193 [0]),(6,SI s288_6),(7,SI 0),(8,SI (i64.wrap (2*s288_6)))],[.box 39 (Ty.split tCU c),.row 37 tP r328_1],2,[⟨192,[],0,4,[],2,none⟩,⟨90,[.seq 6],5,2,[(1,.own 1)],0,none⟩]⟩
def jq(c:BCU)(r328_1:List BP)(s195_5:Int):Cfg:=⟨195,[.blk 0,.seq 56],[(0,.own 1),(1,.clo 196 []),(5,SI s195_5)],[.box 39 (Ty.split tCU c),.row 37 tP r328_1],2,[⟨90,[.seq 8],7,1,[],0,none⟩]⟩
def d8(c:BCU)(r328_1:List BP)(s195_5 s195_5v s195_7:Int)(r195_1:List BP):Cfg:=⟨195,[.blk 2,.seq 49,.blk 1,.seq 55,.lp 14,.blk 0,.seq 56],[(0,.own 1),(1,.clo 196 []),(5,SI s195_5v),(6,.osl 1 20 ((s195_5:Int).toNat) (((r328_1.length:Int):Int).toNat-(s195_5:Int).toNat)),(7,SI s195_7)],[.box 39 (Ty.split tCU c),.row 37 tP r195_1],2,[⟨90,[.seq 8],7,1,[],0,none⟩]⟩
def YW(c:BCU)(l:List BP)(k:KT):OLR:=og (decide (l.length≤100000)) (k 6 (rJ c l 0 20 l))
theorem afN(c:BCU)(l:List BP):RS iG 90 [.d tCU c,.d (.sl tP) l] (YW c l):=rsX
def tB(c:BCU)(l:List BP)(s288_7 s288_8:Int)(r288_1:List BP)(k:KT):OLR:=match decide (s288_8≤(l.length:Int))with|true=>k 3 (qX c l s288_7 s288_8 (i64.wrap (s288_7+1)) r288_1)|false=>k 3 (eL c l s288_7 (i64.wrap (s288_7+1)) r288_1)
theorem B4(c:BCU)(l:List BP)(s288_7 s288_8:Int)(r288_1:List BP):RN iG 6 (rJ c l s288_7 s288_8 r288_1) (tB c l s288_7 s288_8 r288_1):=rnX
def ii(c:BCU)(l:List BP)(s288_7 s328_8:Int)(r328_1:List BP)(k:KT):OLR:=match decide (s328_8<(l.length:Int))with|true=>k 15 (gk c l s288_7 s328_8 s328_8 r328_1)|false=>k 22 (jo c l r328_1 20)
theorem kV(c:BCU)(l:List BP)(s288_7 s328_8:Int)(r328_1:List BP):RN iG 3 (eL c l s288_7 s328_8 r328_1) (ii c l s288_7 s328_8 r328_1):=rnX
def SU(c:BCU)(l:List BP)(s288_7 s288_8 s328_8 s328_9:Int)(r328_1:List BP)(k:KT):OLR:=match decide (s328_9>s288_7)with|true=>(match aS r328_1 s328_9 with|some _=>(match true,r328_1[(s328_9).toNat]? with|true,some x1=>(match aS r328_1 (i64.wrap (s328_9-1))with|some _=>(match true,r328_1[(i64.wrap (s328_9-1)).toNat]? with|true,some x2=>(og (decide (okC 4000 c∧okP 4000 x1∧okP 4000 x2)) (match decide ((Cl (dC c) (dec x1) (dec x2))<0)with|true=>(match aS r328_1 (i64.wrap (s328_9-1))with|some _=>(match true,r328_1[(i64.wrap (s328_9-1)).toNat]? with|true,some x3=>(match aS r328_1 s328_9 with|some _=>(match true,r328_1[(s328_9).toNat]? with|true,some x4=>(match aS r328_1 s328_9 with|some _=>(match true,r328_1[(s328_9).toNat]? with|true,some _=>(match aS (r328_1.set ((s328_9).toNat) x3) (i64.wrap (s328_9-1))with|some _=>(match true,(r328_1.set ((s328_9).toNat) x3)[(i64.wrap (s328_9-1)).toNat]? with|true,some _=>k 15 (Ep c l s288_7 s288_8 s328_8 (i64.wrap (s328_9-1)) ((r328_1.set ((s328_9).toNat) x3).set ((i64.wrap (s328_9-1)).toNat) x4))|_,_=>none)|none=>none)|_,_=>none)|none=>none)|_,_=>none)|none=>none)|_,_=>none)|none=>none)|false=>k 3 (qX c l s288_7 s288_8 (i64.wrap (s328_8+1)) r328_1)))|_,_=>none)|none=>none)|_,_=>none)|none=>none)|false=>k 3 (qX c l s288_7 s288_8 (i64.wrap (s328_8+1)) r328_1)
def gL(c:BCU)(l:List BP)(s288_7 s328_8 s328_9:Int)(r328_1:List BP)(k:KT):OLR:=match decide (s328_9>s288_7)with|true=>(match aS r328_1 s328_9 with|some _=>(match true,r328_1[(s328_9).toNat]? with|true,some x1=>(match aS r328_1 (i64.wrap (s328_9-1))with|some _=>(match true,r328_1[(i64.wrap (s328_9-1)).toNat]? with|true,some x2=>(og (decide (okC 4000 c∧okP 4000 x1∧okP 4000 x2)) (match decide ((Cl (dC c) (dec x1) (dec x2))<0)with|true=>(match aS r328_1 (i64.wrap (s328_9-1))with|some _=>(match true,r328_1[(i64.wrap (s328_9-1)).toNat]? with|true,some x3=>(match aS r328_1 s328_9 with|some _=>(match true,r328_1[(s328_9).toNat]? with|true,some x4=>(match aS r328_1 s328_9 with|some _=>(match true,r328_1[(s328_9).toNat]? with|true,some _=>(match aS (r328_1.set ((s328_9).toNat) x3) (i64.wrap (s328_9-1))with|some _=>(match true,(r328_1.set ((s328_9).toNat) x3)[(i64.wrap (s328_9-1)).toNat]? with|true,some _=>k 15 (gk c l s288_7 s328_8 (i64.wrap (s328_9-1)) ((r328_1.set ((s328_9).toNat) x3).set ((i64.wrap (s328_9-1)).toNat) x4))|_,_=>none)|none=>none)|_,_=>none)|none=>none)|_,_=>none)|none=>none)|_,_=>none)|none=>none)|false=>k 3 (eL c l s288_7 (i64.wrap (s328_8+1)) r328_1)))|_,_=>none)|none=>none)|_,_=>none)|none=>none)|false=>k 3 (eL c l s288_7 (i64.wrap (s328_8+1)) r328_1)
theorem jK(c:BCU)(l:List BP)(s288_7 s328_8 s328_9:Int)(r328_1:List BP):RN iG 15 (gk c l s288_7 s328_8 s328_9 r328_1) (gL c l s288_7 s328_8 s328_9 r328_1):=rnX
def iZ(c:BCU)(l r328_1:List BP)(s288_6:Int)(k:KT):OLR:=match decide (s288_6<(l.length:Int))with|true=>k 34 (EJ c l r328_1 s288_6)|false=>(match decide ((r328_1.length:Int)<2)with|true=>some [RV.new 37 tP r328_1]|false=>k 14 (jq c r328_1 1))
theorem lS(c:BCU)(l r328_1:List BP)(s288_6:Int):RN iG 22 (jo c l r328_1 s288_6) (iZ c l r328_1 s288_6):=rnX
def jc(c:BCU)(r328_1:List BP)(s195_5:Int)(k:KT):OLR:=match decide (s195_5<(r328_1.length:Int))with|true=>(match aS r328_1 s195_5 with|some _=>(match true,r328_1[(s195_5).toNat]? with|true,some x1=>(match aS r328_1 (i64.wrap (s195_5-1))with|some _=>(match true,r328_1[(i64.wrap (s195_5-1)).toNat]? with|true,some x2=>(og (decide (okP 4000 x1∧okP 4000 x2)) (match aX (dec x1) (dec x2)==0 with|true=>(og (decide ((0:Int)≤s195_5∧s195_5≤(r328_1.length:Int)∧(r328_1.length:Int)≤(r328_1.length:Int))) (k 32 (d8 c r328_1 s195_5 s195_5 1 r328_1)))|false=>k 14 (jq c r328_1 (i64.wrap (s195_5+1)))))|_,_=>none)|none=>none)|_,_=>none)|none=>none)|false=>some [RV.new 37 tP r328_1]
theorem l9(c:BCU)(r328_1:List BP)(s195_5:Int):RN iG 14 (jq c r328_1 s195_5) (jc c r328_1 s195_5):=rnX
def gK(c:BCU)(r328_1:List BP)(s195_5 s195_5v s195_7:Int)(r195_1:List BP)(k:KT):OLR:=match decide (s195_7<((((r328_1.length:Int):Int).toNat-(s195_5:Int).toNat:Nat):Int))with|true=>(match true,decide ((0:Int)≤s195_7∧s195_7<((((r328_1.length:Int):Int).toNat-(s195_5:Int).toNat:Nat):Int))with|true,true=>(match true,r195_1[(s195_5:Int).toNat+(s195_7).toNat]? with|true,some x1=>(match true,decide ((0:Int)≤i64.wrap (s195_7-1)∧i64.wrap (s195_7-1)<((((r328_1.length:Int):Int).toNat-(s195_5:Int).toNat:Nat):Int))with|true,true=>(match true,r195_1[(s195_5:Int).toNat+(i64.wrap (s195_7-1)).toNat]? with|true,some x2=>(og (decide (okP 4000 x1∧okP 4000 x2)) (match !(aX (dec x1) (dec x2)==0)with|true=>(match true,decide ((0:Int)≤s195_7∧s195_7<((((r328_1.length:Int):Int).toNat-(s195_5:Int).toNat:Nat):Int))with|true,true=>(match true,r195_1[(s195_5:Int).toNat+(s195_7).toNat]? with|true,some x3=>(match aS r195_1 s195_5v with|some _=>(match true,r195_1[(s195_5v).toNat]? with|true,some _=>k 32 (d8 c r328_1 s195_5 (i64.wrap (s195_5v+1)) (i64.wrap (s195_7+1)) (r195_1.set ((s195_5v).toNat) x3))|_,_=>none)|none=>none)|_,_=>none)|_,_=>none)|false=>k 32 (d8 c r328_1 s195_5 s195_5v (i64.wrap (s195_7+1)) r195_1)))|_,_=>none)|_,_=>none)|_,_=>none)|_,_=>none)|false=>(og (decide ((0:Int)≤s195_5v∧s195_5v≤(r195_1.length:Int)∧(r195_1.length:Int)≤(r195_1.length:Int))) (og (decide ((0:Int)≤0∧0≤s195_5v∧s195_5v≤((jx (Ty.zero tP) ((s195_5v:Int).toNat) (((r195_1.length:Int):Int).toNat-(s195_5v:Int).toNat) r195_1).length:Int))) (some [RV.d (.sl tP) (((jx (Ty.zero tP) ((s195_5v:Int).toNat) (((r195_1.length:Int):Int).toNat-(s195_5v:Int).toNat) r195_1).drop ((0:Int).toNat)).take ((s195_5v:Int).toNat-(0:Int).toNat))])))
theorem jM(c:BCU)(r328_1:List BP)(s195_5 s195_5v s195_7:Int)(r195_1:List BP):RN iG 32 (d8 c r328_1 s195_5 s195_5v s195_7 r195_1) (gK c r328_1 s195_5 s195_5v s195_7 r195_1):=rnX
theorem m9{α:Type}(L:List α)(x:α)(T:List α):(L++x::T)[L.length]?=some x:=by simp
theorem B9{α:Type}(x y:α)(T:List α):∀L:List α,(L++x::T).set L.length y=L++y::T
 |[]=>rfl
 |a::L=>by simp[B9 x y T L]
section
variable (c:BCU) (l:List BP)
def aiN(ys:List BP)(r:List RV):Prop:=r=[.new 37 tP ys]∨r=[.d (.sl tP) ys]
abbrev qQ(i:Nat)(g:Cfg)(ys:List BP):Prop:=∃r,iG.Runs i g r∧aiN ys r
end
section
variable (c:BCU) (l:List BP) (hc:okC 4000 c)
include hc
theorem Ag(hl:l.length≤19)(i:Nat)(ys:List BP):∀(L:List BP) (a:BP) (R:List BP),(∀x∈L,okP 4000 x)→okP 4000 a→(L.reverse++a::R).length≤19→i≤19→
  qQ 3 (eL c l 0 ((i+1:Nat):Int) ((lh (ltP (dC c)) L a).reverse++R)) ys→qQ 15 (gk c l 0 (i:Int) (L.length:Int) (L.reverse++a::R)) ys
 |[],a,R,hL,ha,h19,hi,⟨r,⟨n,hn⟩,hr⟩=>by
  refine⟨r,jK _ _ _ _ _ _ ⟨n,?_⟩,hr⟩;unfold gL;rw[dF (show ¬((([]:List BP).length:Nat):Int)>0 by simp),b8 (by omega)];exact hn
 |b::L,a,R,hL,ha,h19,hi,hnext=>by
  have hb:=hL b (by simp);have hln:L.length≤18:=by simp at h19;omega
  have hrev:(b::L).reverse++a::R=L.reverse++b::a::R:=by simp
  have e1:((b::L).length:Int)=((L.length+1:Nat):Int):=rfl;have ew:i64.wrap (((L.length+1:Nat):Int)-1)=(L.length:Int):=by rw[aT (by omega) (by omega)];omega
  have g1:(L.reverse++b::a::R)[L.length+1]?=some a:=by
   simp
  have g0:(L.reverse++b::a::R)[L.length]?=some b:=by
   simp
  have s1:(L.reverse++b::a::R).set (L.length+1) b=L.reverse++b::b::R:=by
   simp
  have s2:(L.reverse++b::b::R).set L.length a=L.reverse++a::b::R:=by
   simp
  have g2:(L.reverse++b::b::R)[L.length]?=some b:=by
   simp
  have key:∀r n,(match ltP (dC c) a b with
    |true=>iG.k n 15 (gk c l 0 (i:Int) (L.length:Int) (L.reverse++a::b::R))
    |false=>iG.k n 3 (eL c l 0 ((i+1:Nat):Int) (L.reverse++b::a::R)))=some r→
    gL c l 0 (i:Int) ((b::L).length:Int) ((b::L).reverse++a::R) (iG.k n)=some r:=fun r n h=>by
   rw[hrev,e1];unfold gL;rw[dT (show((L.length+1:Nat):Int)>0 by omega),ew,av,g1,av,g0,show((L.length+1:Nat):Int).toNat=L.length+1 by omega,show((L.length:Nat):Int).toNat=L.length by omega,g1,g0];dsimp only;rw[dT (show okC 4000 c∧okP 4000 a∧okP 4000 b from⟨hc,ha,hb⟩),s1,av,g2,s2,b8 (by omega)];dsimp only;unfold ltP at h;exact h
  unfold lh at hnext;cases hlt:ltP (dC c) a b
  ·rw[hlt,cond_false]at hnext;obtain⟨r,⟨n,hn⟩,hr⟩:=hnext;refine⟨r,jK _ _ _ _ _ _ ⟨n,key r n ?_⟩,hr⟩;rw[hlt];simpa using hn
  ·rw[hlt,cond_true]at hnext;obtain⟨r,⟨n,hn⟩,hr⟩:=Ag hl i ys L a (b::R) (fun x hx=>hL x (amQ _ hx)) ha (by simp at h19 ⊢;omega) hi (by simpa using hnext);refine⟨r,jK _ _ _ _ _ _ ⟨n,key r n ?_⟩,hr⟩;rw[hlt];exact hn
theorem zb(hl:l.length≤19)(ys:List BP):∀(R D:List BP),(∀x∈D,okP 4000 x)→(∀x∈R,okP 4000 x)→D.length+R.length=l.length→
  qQ 22 (jo c l (R.foldl (lh (ltP (dC c))) D).reverse 20) ys→qQ 3 (eL c l 0 (D.length:Int) (D.reverse++R)) ys
 |[],D,hD,hR,hlen,⟨r,⟨n,hn⟩,hr⟩=>by
  refine⟨r,kV _ _ _ _ _ ⟨n,?_⟩,hr⟩;unfold ii;rw[ce (by simp at hlen;omega),am9];exact hn
 |a::R,D,hD,hR,hlen,hnext=>by
  have ha:=hR a (by simp);have hlen':D.length+(R.length+1)=l.length:=hlen
  have h1:=zb hl ys R (lh (ltP (dC c)) D a) (fun x hx=>by
   rcases mv.1 hx with e|e
   ·rw[e];exact ha
   ·exact hD x e) (fun x hx=>hR x (amQ _ hx)) (by rw[tz];omega) hnext
  rw[tz]at h1;obtain⟨r,⟨n,hn⟩,hr⟩:=Ag c l hc hl D.length ys D a R hD ha (by simp;omega) (by omega) h1;refine⟨r,kV _ _ _ _ _ ⟨n,?_⟩,hr⟩;unfold ii;rw[bI (by omega)];exact hn
omit hc in
theorem uk(r0:List BP)(b:Nat)(h19:r0.length≤19):∀(S K J:List BP) (p:BP),(∀x∈K++(J++p::S),okP 4000 x)→(K++(J++p::S)).length=r0.length→∀k2:Nat,1≤k2→b+k2=K.length+J.length+1→
  qQ 32 (d8 c r0 (b:Int) (K.length:Int) (k2:Int) (K++(J++p::S))) (K++jU ib p S)
 |[],K,J,p,hok,hlen,k2,h1,hb=>by
  refine⟨_,jM _ _ _ _ _ _ ⟨0,?_⟩,.inr rfl⟩;have hlen':K.length+(J.length+1)=r0.length:=by simpa using hlen
  unfold gK;rw[dF (show ¬(k2:Int)<(((r0.length:Int).toNat-(b:Int).toNat:Nat):Int) by omega)];dsimp only;rw[dT (show(0:Int)≤(K.length:Int)∧(K.length:Int)≤((K++(J++[p])).length:Int)∧((K++(J++[p])).length:Int)≤((K++(J++[p])).length:Int) by rw[hlen];omega)]
  have hcl:((jx (Ty.zero tP) ((K.length:Int).toNat) ((((K++(J++[p])).length:Int)).toNat-(K.length:Int).toNat) (K++(J++[p])))).take K.length=K:=by
   unfold jx;rw[show((K.length:Int)).toNat=K.length by omega,am3,List.take_append_of_le_length (by simp),apL,Nat.min_self,List.take_left' rfl]
  have hcn:K.length≤(jx (Ty.zero tP) ((K.length:Int).toNat) ((((K++(J++[p])).length:Int)).toNat-(K.length:Int).toNat) (K++(J++[p]))).length:=by
   have:=congrArg List.length hcl;rw[anp]at this;omega
  rw[dT (show(0:Int)≤0∧0≤(K.length:Int)∧(K.length:Int)≤((jx (Ty.zero tP) ((K.length:Int).toNat) ((((K++(J++[p])).length:Int)).toNat-(K.length:Int).toNat) (K++(J++[p]))).length:Int) by omega)];rw[show((0:Int)).toNat=0 from rfl,aoj,show((K.length:Int)).toNat-0=K.length by omega,hcl];simp[jU]
 |q::S,K,J,p,hok,hlen,k2,h1,hb=>by
  have hlen':K.length+(J.length+(S.length+1+1))=r0.length:=by simpa using hlen
  have hq:okP 4000 q:=hok q (by simp);have hp:okP 4000 p:=hok p (by simp)
  have g1:(K++(J++p::q::S))[(b:Int).toNat+(k2:Int).toNat]?=some q:=by
   rw[show(b:Int).toNat+(k2:Int).toNat=(K++(J++[p])).length by simp;omega];simp
  have ew:i64.wrap ((k2:Int)-1)=((k2-1:Nat):Int):=by rw[aT (by omega) (by omega)];omega
  have g0:(K++(J++p::q::S))[(b:Int).toNat+((k2-1:Nat):Int).toNat]?=some p:=by
   rw[show(b:Int).toNat+((k2-1:Nat):Int).toNat=(K++J).length by simp;omega];simp
  have key:∀r n,(match ib q p with
    |true=>iG.k n 32 (d8 c r0 (b:Int) (K.length:Int) ((k2+1:Nat):Int) (K++(J++p::q::S)))
    |false=>iG.k n 32 (d8 c r0 (b:Int) ((K.length+1:Nat):Int) ((k2+1:Nat):Int) ((K++(J++p::q::S)).set K.length q)))=some r→
    gK c r0 (b:Int) (K.length:Int) (k2:Int) (K++(J++p::q::S)) (iG.k n)=some r:=fun r n h=>by
   unfold gK;rw[dT (show(k2:Int)<(((r0.length:Int).toNat-(b:Int).toNat:Nat):Int) by omega)];dsimp only;rw[dT (show(0:Int)≤(k2:Int)∧(k2:Int)<(((r0.length:Int).toNat-(b:Int).toNat:Nat):Int) by omega),g1];dsimp only;rw[ew,dT (show(0:Int)≤((k2-1:Nat):Int)∧((k2-1:Nat):Int)<(((r0.length:Int).toNat-(b:Int).toNat:Nat):Int) by omega),g0];dsimp only;rw[dT (show okP 4000 q∧okP 4000 p from⟨hq,hp⟩),b8 (k:=k2) (by omega)];unfold ib at h;cases he:aX (dec q) (dec p)==0<;>rw[he]at h
   ·try dsimp only[Bool.not_false]
    have g3:∃y,(K++(J++p::q::S))[K.length]?=some y:=⟨_,amF (by simp;omega)⟩
    obtain⟨y,g3⟩:=g3;rw[av,g3,show((K.length:Int)).toNat=K.length by omega,g3,b8 (k:=K.length) (by omega)];exact h
   ·exact h
  have hcm:jU ib p (q::S)=bif ib q p then jU ib q S else q::jU ib q S:=rfl;rw[hcm];cases he:ib q p
  ·have hset:∃J',(K++(J++p::q::S)).set K.length q=(K++[q])++(J'++q::S)∧J'.length=J.length∧∀x∈J',x∈J++[p]:=by
    cases J with
    |nil=>
     refine⟨[],?_,rfl,fun x hx=>by cases hx⟩;simp
    |cons h T=>
     refine⟨T++[p],?_,by simp,fun x hx=>by simp at hx ⊢;exact .inr hx⟩;simp
   obtain⟨J',e,eJ,mJ⟩:=hset
   obtain⟨r,⟨n,hn⟩,hr⟩:=uk r0 b h19 S (K++[q]) J' q (fun x hx=>by
    simp only[ano,amT,anZ,apn]at hx;rcases hx with(hx|hx)|(hx|hx|hx)
    ·exact hok x (by simp[hx])
    ·rw[hx];exact hq
    ·have:=mJ x hx;simp only[ano,amT,anZ,apn]at this;rcases this with h|h
     ·exact hok x (by simp[h])
     ·rw[h];exact hp
    ·rw[hx];exact hq
    ·exact hok x (by simp[hx])) (by simp;omega) (k2+1) (by omega) (by simp;omega)
   refine⟨r,jM _ _ _ _ _ _ ⟨n,key r n ?_⟩,?_⟩
   ·rw[he,e];have:(K++[q]).length=K.length+1:=by simp
    rw[this]at hn;exact hn
   ·simpa using hr
  ·have e2:K++(J++p::q::S)=K++((J++[p])++q::S):=by simp
   obtain⟨r,⟨n,hn⟩,hr⟩:=uk r0 b h19 S K (J++[p]) q (e2▸hok) (e2▸hlen) (k2+1) (by omega) (by simp;omega);refine⟨r,jM _ _ _ _ _ _ ⟨n,key r n ?_⟩,hr⟩;rw[he,e2];exact hn
omit hc in
theorem zk:∀(S A:List BP) (p:BP),(∀x∈A++p::S,okP 4000 x)→(A++p::S).length≤19→
  qQ 14 (jq c (A++p::S) ((A.length+1:Nat):Int)) (A++p::jU ib p S)
 |[],A,p,hok,h19=>by
  refine⟨_,l9 _ _ _ ⟨0,?_⟩,.inl rfl⟩;unfold jc;rw[ce (by simp)];rfl
 |q::S,A,p,hok,h19=>by
  have hq:okP 4000 q:=hok q (by simp);have hp:okP 4000 p:=hok p (by simp);have h19':A.length+(S.length+1+1)≤19:=by simpa using h19
  have g1:(A++p::q::S)[A.length+1]?=some q:=by
   simp
  have g0:(A++p::q::S)[A.length]?=some p:=m9 A p (q::S);have ew:i64.wrap (((A.length+1:Nat):Int)-1)=(A.length:Int):=by rw[aT (by omega) (by omega)];omega
  have key:∀r n,(match ib q p with
    |true=>iG.k n 32 (d8 c (A++p::q::S) ((A.length+1:Nat):Int) ((A.length+1:Nat):Int) 1 (A++p::q::S))
    |false=>iG.k n 14 (jq c (A++p::q::S) ((A.length+1+1:Nat):Int)))=some r→
    jc c (A++p::q::S) ((A.length+1:Nat):Int) (iG.k n)=some r:=fun r n h=>by
   unfold jc;rw[bI (by simp only[ana,amV];omega),av,g1,show((A.length+1:Nat):Int).toNat=A.length+1 by omega,g1];dsimp only;rw[ew,av,g0,show((A.length:Nat):Int).toNat=A.length by omega,g0];dsimp only;rw[dT (show okP 4000 q∧okP 4000 p from⟨hq,hp⟩),b8 (k:=A.length+1) (by omega),dT (show(0:Int)≤((A.length+1:Nat):Int)∧((A.length+1:Nat):Int)≤((A++p::q::S).length:Int)∧((A++p::q::S).length:Int)≤((A++p::q::S).length:Int) by simp;omega)];exact h
  have hcm:jU ib p (q::S)=bif ib q p then jU ib q S else q::jU ib q S:=rfl;have e2:A++p::q::S=(A++[p])++q::S:=by simp
  rw[hcm];cases he:ib q p
  ·obtain⟨r,⟨n,hn⟩,hr⟩:=zk S (A++[p]) q (e2▸hok) (e2▸h19);refine⟨r,l9 _ _ _ ⟨n,key r n ?_⟩,?_⟩
   ·rw[he,e2];have:(A++[p]).length=A.length+1:=by simp
    rw[this]at hn;exact hn
   ·rw[am3]at hr;exact hr
  ·obtain⟨r,⟨n,hn⟩,hr⟩:=uk c (A++p::q::S) (A.length+1) h19 S (A++[p]) [] q (e2▸hok) (by rw[e2];rfl) 1 (amK _) (by simp);refine⟨r,l9 _ _ _ ⟨n,key r n ?_⟩,?_⟩
   ·rw[he,e2];have:(A++[p]).length=A.length+1:=by simp
    rw[this,e2]at hn;exact hn
   ·rw[am3]at hr;exact hr
theorem Va(hl:l.length≤19)(ho:∀x∈l,okP 4000 x):qQ 6 (rJ c l 0 20 l) (dh (dC c) l):=by
 have hlast:∀r:List BP,(∀x∈r,okP 4000 x)→r.length≤19→qQ 22 (jo c l r 20) (vL ib r):=fun r hr h19=>by
  cases r with
  |nil=>
   refine⟨_,lS _ _ _ _ ⟨0,?_⟩,.inl rfl⟩;unfold iZ;rw[dF (show ¬(20:Int)<(l.length:Int) by omega)];rfl
  |cons p S=>
   cases S with
   |nil=>
    refine⟨_,lS _ _ _ _ ⟨0,?_⟩,.inl rfl⟩;unfold iZ;rw[dF (show ¬(20:Int)<(l.length:Int) by omega)];rfl
   |cons q S=>
    obtain⟨r',⟨n,hn⟩,hr'⟩:=zk c (q::S) [] p hr h19;refine⟨r',lS _ _ _ _ ⟨n,?_⟩,hr'⟩;unfold iZ;rw[dF (show ¬(20:Int)<(l.length:Int) by omega)];dsimp only;rw[dF (show ¬((p::q::S).length:Int)<2 by simp;omega)];simpa using hn
 have hsort:qQ 22 (jo c l (r9 (ltP (dC c)) l) 20) (dh (dC c) l):=hlast _ (fun x hx=>ho x (pQ.1 hx)) (by rw[DG];exact hl)
 have h3:qQ 3 (eL c l 0 1 l) (dh (dC c) l):=by
  cases l with
  |nil=>
   obtain⟨r,⟨n,hn⟩,hr⟩:=hsort;refine⟨r,kV _ _ _ _ _ ⟨n,?_⟩,hr⟩;unfold ii;rw[dF (show ¬(1:Int)<(([]:List BP).length:Int) by simp)];exact hn
  |cons x l=>
   have:=zb c (x::l) hc hl _ l [x] (fun y hy=>ho y (by simp at hy;simp[hy])) (fun y hy=>ho y (amQ _ hy)) (by simp;omega) hsort;simpa using this
 obtain⟨r,⟨n,hn⟩,hr⟩:=h3;refine⟨r,B4 _ _ _ _ _ ⟨n,?_⟩,hr⟩;unfold tB;rw[dF (show ¬(20:Int)≤(l.length:Int) by omega),aT (x:=0+1) (by omega) (by omega)];exact hn
end
def PO:Cn 90 [tCU,(.sl tP)]:=cn fun(c:BCU) (l:List BP)=>lf (lj c l) [.d (.sl tP) (dh (dC c) l)] fun h=>by
 obtain⟨hc,hl,ho⟩:=h;obtain⟨r,⟨n,hn⟩,hr⟩:=Va c l hc hl ho
 have hres:iG.Res 90 [.d tCU c,.d (.sl tP) l] r:=by
  refine afN _ _ ⟨n,?_⟩;unfold YW;rw[dT (show l.length≤100000 by omega)];exact hn
 rcases hr with e|e
 ·rw[e]at hres;exact Con.new_d (et:=37) (c8 GO hres)
 ·rw[e]at hres;exact c8 GO hres
end
section
def yi(c d:BCU)(l:List BP):Prop:=lj c l∧okC 4000 d
instance (c d:BCU) (l:List BP):Decidable (yi c d l):=by unfold yi;infer_instance
theorem aco(d:BCU):(dS d).1=d.1:=by
 unfold dS;cases d.2.2.2.1<;>rfl
theorem Ik{k:Nat}{d:BCU}(h:okC k d):okC k (dS d):=by
 unfold dS;cases d.2.2.2.1
 ·exact h
 ·exact OU k h
theorem Bt{c:BCU}(hc:okC 4000 c):∀{L:List BP} {f:BP},okP 4000 f→(∀x∈L,okP 4000 x)→∀p∈yX c f L,okC 4000 p
 |[],f,hf,_,p,hp=>by
  rw[List.mem_singleton.1 hp];exact⟨hc.1,hc.2.1,hf,hc.2.2.2⟩
 |x::r,f,hf,hL,p,hp=>by
  have hx:=hL x (by simp);have hr:∀y∈r,okP 4000 y:=fun y hy=>hL y (amQ _ hy);unfold yX at hp;cases h:ib x c.2.2.2.2.1||ib x c.2.2.2.2.2<;>rw[h]at hp
  ·rcases amT.1 hp with e|e
   ·rw[e];exact⟨hc.1,hc.2.1,hf,hx⟩
   ·exact Bt hc hx hr p e
  ·exact Bt hc hf hr p hp
theorem Vc{c:BCU}{l:List BP}(h:lj c l):(rh c l).length≤20∧∀p∈rh c l,okC 4000 p:=by
 obtain⟨hc,hl,ho⟩:=h;have hs:∀x∈dh (dC c) l,okP 4000 x:=fun x hx=>ho x (jy hx);have hn:(dh (dC c) l).length≤l.length:=pM
 have len:∀(L:List BP) (f:BP),(yX c f L).length≤L.length+1:=by
  intro L;induction L with
  |nil=>intro f;simp[yX]
  |cons x r ih=>
   intro f;unfold yX;cases ib x c.2.2.2.2.1||ib x c.2.2.2.2.2
   ·have:=ih x;simp only[cond_false,amV];omega
   ·have:=ih f;simp only[cond_true,amV];omega
 unfold rh;cases abZ c l
 ·refine⟨?_,Bt hc hc.2.2.1 hs⟩;have:=len (dh (dC c) l) c.2.2.2.2.1;simp only[cond_false];unfold abp;omega
 ·exact⟨by simp,fun p hp=>by cases hp⟩
def O8:List En:=[enT IE,enT Oc,enK PO]
def acx:NT:=[((188,6),{keep:=[0,1,7,8],hl:=1}),((197,18),{keep:=[2,6,7,17,18,19],own:=[(6,39,tCU)],hl:=3}),((197,4),{keep:=[1,2,13],hl:=0}),((289,3),{keep:=[7],hl:=0}),((188,18),{keep:=[0,1,5,7,8,16],hl:=0})]
def ES:Ctx:=CX (ens O8) acx
def nv(c:BCU)(l:List BP)(s188_8:Int):Cfg:=⟨188,[.blk 0,.seq 25],[(0,.d (.sl tP) l),(1,.clo 290 [0]),(7,SI (l.length:Int)),(8,SI s188_8)],[.box 39 (Ty.split tCU c)],1,[⟨289,[.seq 4],3,2,[],1,none⟩,⟨197,[.seq 5,.seq 10],4,2,[(1,.d (.sl tP) l),(2,.box 0 0)],0,none⟩]⟩
def qt(c:BCU)(l:List BP)(s19:Int)(B1:BCU)(r2:List BCU):Cfg:=⟨197,[.blk 0,.seq 41],[(2,.box 0 0),(6,.own 2),(7,.box 1 0),(17,.d (.sl tP) (dh (dC c) l)),(18,SI ((dh (dC c) l).length:Int)),(19,SI s19)],[.box 39 (Ty.split tCU c),.box 39 (Ty.split tCU B1),.row 39 tCU r2],0,[]⟩
def aiH(c:BCU)(l:List BP)(k:KT):OLR:=k 6 (nv c l 0)
theorem aig(c:BCU)(l:List BP):RS ES 197 [.d tCU c,.d (.sl tP) l] (aiH c l):=rsX
def nG(c:BCU)(l:List BP)(s188_8:Int)(k:KT):OLR:=match decide (s188_8<(l.length:Int))with|true=>(match aS l s188_8 with|some x1=>(match decide (okC 4000 c∧okP 4000 x1)with|true=>(match !(onP (dC c) (dec x1))with|true=>(match decide (s188_8≥0)with|true=>some [RV.d (.sl tCU) ([]),RV.d apY 1]|false=>(match decide (lj c l)with|true=>none|false=>none))|false=>k 6 (nv c l (i64.wrap (s188_8+1))))|false=>none)|none=>none)|false=>(match decide ((-1)≥0)with|true=>some [RV.d (.sl tCU) ([]),RV.d apY 1]|false=>(match decide (lj c l)with|true=>k 18 (qt c l 0 c ([]))|false=>none))
theorem sw(c:BCU)(l:List BP)(s188_8:Int):RN ES 6 (nv c l s188_8) (nG c l s188_8):=rnX
def uN(c:BCU)(l:List BP)(s19:Int)(B1:BCU)(r2:List BCU)(k:KT):OLR:=match decide (s19<((dh (dC c) l).length:Int))with|true=>(match aS (dh (dC c) l) s19 with|some x1=>(match decide (okP 4000 x1∧okP 4000 c.2.2.2.2.1)with|true=>(match aX (dec x1) (dec c.2.2.2.2.1)==0 with|true=>k 18 (qt c l (i64.wrap (s19+1)) B1 r2)|false=>(match decide (okP 4000 x1∧okP 4000 c.2.2.2.2.2)with|true=>(match aX (dec x1) (dec c.2.2.2.2.2)==0 with|true=>k 18 (qt c l (i64.wrap (s19+1)) B1 r2)|false=>dup (.b .l .l) (match decide ((r2.length+([(B1.1,(B1.2.1,(B1.2.2.1,(B1.2.2.2.1,(B1.2.2.2.2.1,x1)))))]).length)*1040≤140737488355328∧r2.length+([(B1.1,(B1.2.1,(B1.2.2.1,(B1.2.2.2.1,(B1.2.2.2.2.1,x1)))))]).length≤140737488355328)with|true=>k 18 (qt c l (i64.wrap (s19+1)) (B1.1,(B1.2.1,(B1.2.2.1,(B1.2.2.2.1,(x1,B1.2.2.2.2.2))))) (r2++([(B1.1,(B1.2.1,(B1.2.2.1,(B1.2.2.2.1,(B1.2.2.2.2.1,x1)))))])))|false=>none))|false=>none))|false=>none)|none=>none)|false=>(match decide ((r2.length+([B1]).length)*1040≤140737488355328∧r2.length+([B1]).length≤140737488355328)with|true=>some [RV.d (.sl tCU) (r2++([B1])),RV.d apY 0]|false=>none)
theorem zw(c:BCU)(l:List BP)(s19:Int)(B1:BCU)(r2:List BCU):RN ES 18 (qt c l s19 B1 r2) (uN c l s19 B1 r2):=rnX
section
variable (c:BCU) (l:List BP) (h:lj c l)
include h
theorem Ig:∀(L:List BP) (i:Nat),(dh (dC c) l).drop i=L→i≤(dh (dC c) l).length→∀(f:BP) (r2:List BCU),r2.length≤i→ES.Runs 18 (qt c l (i:Int) (Cy c f c.2.2.2.2.2) r2) [.d (.sl tCU) (r2++yX c f L),.d apY (0:Int)]
 |[],i,hd,hi,f,r2,hr=>by
  have hn:(dh (dC c) l).length≤l.length:=pM;have hl:=h.2.1;have hlen:=congrArg List.length hd;rw[ao0,List.length_nil]at hlen;refine zw _ _ _ _ _ ⟨0,?_⟩;unfold uN;rw[ce (by omega),am2,B7 (by omega) (by omega)];rfl
 |x::r,i,hd,hi,f,r2,hr=>by
  have hn:(dh (dC c) l).length≤l.length:=pM;have hl:=h.2.1;have hlen:=congrArg List.length hd;rw[ao0,amV]at hlen;have hil:i<(dh (dC c) l).length:=by omega
  have hd2:=amX hil;rw[hd2]at hd;injection hd with e1 e2;have hx:okP 4000 x:=by rw[←e1];exact h.2.2 _ (jy (ane hil))
  have g1:aS (dh (dC c) l) (i:Int)=some x:=by rw[av,amF hil,e1]
  have ih:=Ig r (i+1) e2 (by omega);refine zw _ _ _ _ _ ?_;unfold uN yX;rw[bI hil,g1,b8 (by omega)];dsimp only;rw[dT (show okP 4000 x∧okP 4000 c.2.2.2.2.1 from⟨hx,h.1.2.2.1⟩),dT (show okP 4000 x∧okP 4000 c.2.2.2.2.2 from⟨hx,h.1.2.2.2⟩)];unfold ib;cases q1:aX (dec x) (dec c.2.2.2.2.1)==0
  ·cases q2:aX (dec x) (dec c.2.2.2.2.2)==0
   ·obtain⟨n,hn⟩:=ih x (r2++[Cy c f x]) (by simp;omega);refine⟨n,?_⟩;rw[am3]at hn;simp only[eZ];rw[am2,B7 (by omega) (by omega)];exact hn
   ·exact ih f r2 (by omega)
  ·exact ih f r2 (by omega)
theorem aen:∀(j i:Nat),i+j=l.length→ES.Runs 6 (nv c l (i:Int)) [.d (.sl tCU) (bif (l.drop i).any (fun p=>!onP (dC c) (dec p))then []else abp c l),.d apY (bif (l.drop i).any (fun p=>!onP (dC c) (dec p))then(1:Int)else 0)]:=by
 intro j;have hl:=h.2.1;induction j with
 |zero=>
  intro i hi;obtain⟨n,hn⟩:=Ig c l h (dh (dC c) l) 0 rfl (ao7 _) c.2.2.2.2.1 [] (amK _);refine sw _ _ _ ⟨n,?_⟩;unfold nG;rw[ce (by omega),oY (by omega)];dsimp only;rw[dF (show ¬(-1:Int)≥0 by decide),dT h];exact hn
 |succ j ih=>
  intro i hi;have hil:i<l.length:=by omega
  obtain⟨n,hn⟩:=ih (i+1) (by omega);refine sw _ _ _ ⟨n,?_⟩;unfold nG;rw[bI hil,av,amF hil,gI hil,apG,b8 (by omega)];dsimp only;rw[dT (show okC 4000 c∧okP 4000 l[i] from⟨h.1,h.2.2 _ (ane _)⟩)];cases onP (dC c) (dec l[i])
  ·dsimp only[Bool.not_false];rw[dT (show(i:Int)≥0 by omega)];rfl
  ·exact hn
end
def afO:Cn 197 [tCU,(.sl tP)]:=cn fun(c:BCU) (l:List BP)=>lf (lj c l) [.d (.sl tCU) (rh c l),.d apY (alE c l)] fun h=>by
 have q:=aen c l h l.length 0 (ani _);exact c8 O8 (aig _ _ q)
def abG:List En:=[enT IE,enT Oc,enL Ym,enT Oo]
def Xs(d p:BCU)(_k:KT):OLR:=og (decide (okC 4000 d∧okP 4000 p.2.2.2.2.1)) (match !(onP (dC d) (dec p.2.2.2.2.1))with|true=>some [RV.d .bool false]|false=>(og (decide (okC 4000 d∧okP 4000 p.2.2.2.2.2)) (match !(onP (dC d) (dec p.2.2.2.2.2))with|true=>some [RV.d .bool false]|false=>(match !d.1 with|true=>some [RV.d .bool true]|false=>(og (decide (okP 4000 ((((((hid (dS p)).2).2).2).2).1)∧okP 4000 ((((((hid (dS d)).2).2).2).2).2))) (match aX (dec ((((((hid (dS p)).2).2).2).2).1)) (dec ((((((hid (dS d)).2).2).2).2).2))==0 with|true=>some [RV.d .bool false]|false=>(og (decide (ok Ln 300 ((((hid (dS d)).2).2).1)∧okP 4000 ((((((hid (dS p)).2).2).2).2).1)∧okP 4000 ((((((hid (dS p)).2).2).2).2).2)∧okP 4000 ((((((hid (dS d)).2).2).2).2).2))) (some [RV.d .bool (decide ((gu aW (ptd (dec ((((hid (dS d)).2).2).1)) (dec ((((((hid (dS p)).2).2).2).2).1))) (ptd (dec ((((hid (dS d)).2).2).1)) (dec ((((((hid (dS p)).2).2).2).2).2))) (ptd (dec ((((hid (dS d)).2).2).1)) (dec ((((((hid (dS d)).2).2).2).2).2))))≤0))]))))))))
def ahS:Cn 199 [tCU,tCU]:=cn fun(d p:BCU)=>lf (okC 4000 d∧okC 4000 p) [.d .bool (DD d p)] fun h=>by
 refine aA abG (Xs d p) ⟨0,?_⟩;obtain⟨hd,hp⟩:=h;have hd':=Ik hd;have hp':=Ik hp;unfold Xs DD frB toB ib;simp only[bK];rw[dT (show okC 4000 d∧okP 4000 p.2.2.2.2.1 from⟨hd,hp.2.2.1⟩),dT (show okC 4000 d∧okP 4000 p.2.2.2.2.2 from⟨hd,hp.2.2.2⟩)];cases onP (dC d) (dec p.2.2.2.2.1)
 ·rfl
 ·cases onP (dC d) (dec p.2.2.2.2.2)
  ·rfl
  ·cases ha:d.1
   ·rfl
   ·rw[dT (show okP 4000 (dS p).2.2.2.2.1∧okP 4000 (dS d).2.2.2.2.2 from⟨hp'.2.2.1,hd'.2.2.2⟩),dT (show ok Ln 300 (dS d).2.2.1∧okP 4000 (dS p).2.2.2.2.1∧okP 4000 (dS p).2.2.2.2.2∧okP 4000 (dS d).2.2.2.2.2 from⟨(hd'.1 ((aco d).trans ha)).1,hp'.2.2.1,hp'.2.2.2,hd'.2.2.2⟩)];cases aX (dec (dS p).2.2.2.2.1) (dec (dS d).2.2.2.2.2)==0<;>rfl
def Mi:List En:=[enK afO,enT ahS]
def adW:NT:=[((69,6),{keep:=[0,1,7,8],hl:=2}),((91,5),{keep:=[17],hl:=0}),((71,3),{keep:=[7],hl:=0}),((69,18),{keep:=[0,1,5,7,8,16],hl:=0})]
def Np:Ctx:=CX (ens Mi) adW
def pU(c d:BCU)(l:List BP)(s69_8:Int):Cfg:=⟨69,[.blk 0,.seq 25],[(0,.d (.sl tCU) (rh c l)),(1,.clo 198 [1]),(7,SI ((rh c l).length:Int)),(8,SI s69_8)],[.box 39 (Ty.split tCU c),.box 39 (Ty.split tCU d)],2,[⟨71,[.seq 4],3,2,[],2,none⟩,⟨91,[.seq 6],5,2,[],0,none⟩]⟩
def Z7(c d:BCU)(l:List BP)(k:KT):OLR:=og (decide (lj c l)) (k 6 (pU c d l 0))
theorem aij(c d:BCU)(l:List BP):RS Np 91 [.d tCU c,.d tCU d,.d (.sl tP) l] (Z7 c d l):=rsX
def pj(c d:BCU)(l:List BP)(s69_8:Int)(k:KT):OLR:=match decide (s69_8<((rh c l).length:Int))with|true=>(match aS (rh c l) s69_8 with|some x1=>(og (decide (okC 4000 d∧okC 4000 x1)) (match DD d x1 with|true=>some [RV.d .bool (decide (s69_8≥0))]|false=>k 6 (pU c d l (i64.wrap (s69_8+1)))))|none=>none)|false=>some [RV.d .bool (decide ((-1)≥0))]
theorem vj(c d:BCU)(l:List BP)(s69_8:Int):RN Np 6 (pU c d l s69_8) (pj c d l s69_8):=rnX
theorem adM(c d:BCU)(l:List BP)(h:yi c d l):∀(j i:Nat),i+j=(rh c l).length→Np.Runs 6 (pU c d l (i:Int)) [.d .bool (((rh c l).drop i).any (DD d))]:=by
 obtain⟨hn,ho⟩:=Vc h.1;intro j;induction j with
 |zero=>
  intro i hi;refine vj _ _ _ _ ⟨0,?_⟩;unfold pj;rw[ce (by omega),oY (by omega)];rfl
 |succ j ih=>
  intro i hi;have hil:i<(rh c l).length:=by omega
  obtain⟨n,hn⟩:=ih (i+1) (by omega);refine vj _ _ _ _ ⟨n,?_⟩;unfold pj;rw[bI hil,av,amF hil,gI hil,apG,b8 (by omega)];dsimp only;rw[dT (show okC 4000 d∧okC 4000 (rh c l)[i] from⟨h.2,ho _ (ane _)⟩)];cases DD d (rh c l)[i]
  ·exact hn
  ·dsimp only;rw[dT (show(i:Int)≥0 by omega)];rfl
def Zj:Cn 91 [tCU,tCU,(.sl tP)]:=cn fun(c d:BCU) (l:List BP)=>lf (yi c d l) [.d .bool (yE c d l)] fun h=>by
 obtain⟨n,hn⟩:=adM c d l h (rh c l).length 0 (ani _);refine c8 Mi (aij _ _ _ ⟨n,?_⟩);unfold Z7;rw[dT h.1];exact hn
end
section
theorem DN{c d:BCU}(h:fy c d):(kv c d).length≤4∧∀x∈kv c d,okP 4000 x:=by
 obtain⟨⟨h1,h2⟩,h3,h4⟩:=h;have up:∀{k x},okP k x→k≤4000→okP 4000 x:=fun h hk=>cD h hk (by decide);unfold kv;cases hs:cY (dC c) (dC d)
 ·refine⟨?_,fun x hx=>?_⟩
  ·simp only[cond_false,aon];have:∀l c,[BdL l]→[BdC c]→(lU l c).length≤4:=fun l c _ _=>amS tv.1 (by decide);obtain⟨c1,c2⟩:=l6 h2;obtain⟨d1,d2⟩:=l6 h4;have ec:(dC c).1=c.1:=rfl;have ed:(dC d).1=d.1:=rfl;unfold il;rw[ec,ed];cases ha:c.1<;>cases hb:d.1
   ·have i1:=(c2 ha).1;have i2:=(d2 hb).1;exact amS wA.1 (by decide)
   ·have i1:=(c2 ha).1;have i2:=(d1 hb).1;exact this _ _
   ·have i1:=(c1 ha).1;have i2:=(d2 hb).1;exact this _ _
   ·have i1:=(c1 ha).1;have i2:=(d1 hb).1;show(vM _ _).length≤4;unfold vM;cases hq:iO (ciC (dC c)) (ciC (dC d))
    ·have i3:BdL (ou (ciC (dC c)) (ciC (dC d))):=w8;exact this _ _
    ·exact ao7 _
  ·obtain⟨p,hp,rfl⟩:=anQ.1 hx;obtain⟨b,r,_,_⟩:=RE.supM_on h2 h4 hp;exact amH (aI (j:=1200) (by decide) (by decide))
 ·refine⟨by simp,fun x hx=>?_⟩;have:x=c.2.2.2.2.1∨x=c.2.2.2.2.2∨x=d.2.2.2.2.1∨x=d.2.2.2.2.2:=by simpa using hx
  rcases this with e|e|e|e<;>rw[e]
  ·exact up h1.2.2.1 (by decide)
  ·exact up h1.2.2.2 (by decide)
  ·exact up h3.2.2.1 (by decide)
  ·exact up h3.2.2.2 (by decide)
theorem IY{α:Type}(z:α)(L T:List α):((jx z ((L.length:Int).toNat) ((((L++T).length:Int)).toNat-(L.length:Int).toNat) (L++T)).drop ((0:Int).toNat)).take ((L.length:Int).toNat-(0:Int).toNat)=L∧
  L.length≤(jx z ((L.length:Int).toNat) ((((L++T).length:Int)).toNat-(L.length:Int).toNat) (L++T)).length:=by
 have hcl:(jx z ((L.length:Int).toNat) ((((L++T).length:Int)).toNat-(L.length:Int).toNat) (L++T)).take L.length=L:=by
  unfold jx;rw[show((L.length:Int)).toNat=L.length by omega,am3,List.take_append_of_le_length (by simp),apL,Nat.min_self,List.take_left' rfl]
 refine⟨?_,?_⟩
 ·rw[show((0:Int)).toNat=0 from rfl,aoj,show((L.length:Int)).toNat-0=L.length by omega,hcl]
 ·have:=congrArg List.length hcl;rw[anp]at this;omega
def abb:Cn 84 [tCU,tCU]:=cn fun(a b:BCU)=>lf (gO a b∧cY (dC a) (dC b)=true) [.d .bool true] fun h=>by
 have e:CQ 84 [.d tCU a,.d tCU b] [.d .bool (cY (dC a) (dC b))]:=(ZY.g a b).h h.1;rw[h.2]at e;exact e
def RO:List En:=[enT abb,enT NV,enL Zm,enK PO,enF Zj,enK Gb]
def TD:NT:=[((188,6),{keep:=[0,1,7,8],hl:=4}),((86,16),{keep:=[0,1,5,6],hl:=4}),((42,11),{keep:=[2,3,26,28],hl:=0}),((86,3),{keep:=[0,1,10],hl:=0}),((188,18),{keep:=[0,1,5,7,8,16],hl:=0}),((86,28),{keep:=[0,1,5,6,7,28],hl:=0})]
def kG:Ctx:=CX (ens RO) TD
def jz(c d:BCU)(s188_8:Int):Cfg:=⟨188,[.blk 0,.seq 25],[(0,.own 3),(1,.clo 88 [0,1]),(7,SI (([c.2.2.2.2.1,c.2.2.2.2.2,d.2.2.2.2.1,d.2.2.2.2.2]).length:Int)),(8,SI s188_8)],[.box 39 (Ty.split tCU c),.box 39 (Ty.split tCU d),.gone,.row 37 tP ([c.2.2.2.2.1,c.2.2.2.2.2,d.2.2.2.2.1,d.2.2.2.2.2])],4,[⟨86,[.seq 4],3,2,[(0,.own 3),(1,.clo 88 [0,1])],4,none⟩,⟨42,[.seq 12],11,3,[(2,.box 0 0),(3,.box 1 0),(26,.own 3)],0,none⟩]⟩
def dJ(c d:BCU)(s86_5 s86_6:Int)(r86_3:List BP):Cfg:=⟨86,[.blk 0,.seq 35],[(0,.own 3),(1,.clo 88 [0,1]),(5,SI s86_5),(6,SI s86_6)],[.box 39 (Ty.split tCU c),.box 39 (Ty.split tCU d),.gone,.row 37 tP r86_3],4,[⟨42,[.seq 12],11,3,[(2,.box 0 0),(3,.box 1 0),(26,.own 3)],0,none⟩]⟩
def LA(c d:BCU)(k:KT):OLR:=match decide (gO c d∧cY (dC c) (dC d)=true)with|true=>(match decide (([c.2.2.2.2.1,c.2.2.2.2.2,d.2.2.2.2.1,d.2.2.2.2.2]).length≤100000)with|true=>k 6 (jz c d 0)|false=>none)|false=>none
theorem adZ(c d:BCU):RS kG 42 [.d tCU c,.d tCU d] (LA c d):=rsX
def ja(c d:BCU)(s188_8:Int)(k:KT):OLR:=match decide (s188_8<(([c.2.2.2.2.1,c.2.2.2.2.2,d.2.2.2.2.1,d.2.2.2.2.2]).length:Int))with|true=>(match aS ([c.2.2.2.2.1,c.2.2.2.2.2,d.2.2.2.2.1,d.2.2.2.2.2]) s188_8 with|some _=>(match true,([c.2.2.2.2.1,c.2.2.2.2.2,d.2.2.2.2.1,d.2.2.2.2.2])[(s188_8).toNat]? with|true,some x1=>(match decide (okC 4000 c∧okP 4000 x1)with|true=>(match !(gZ (dC c) (dec x1))with|true=>(match s188_8==(-1)with|true=>(match decide (lj c ([c.2.2.2.2.1,c.2.2.2.2.2,d.2.2.2.2.1,d.2.2.2.2.2]))with|true=>(match decide (gO c d∧cY (dC c) (dC d)=true)with|true=>(match decide (yi c d (dh (dC c) ([c.2.2.2.2.1,c.2.2.2.2.2,d.2.2.2.2.1,d.2.2.2.2.2])))with|true=>some [RV.d (.sl tP) (dh (dC c) ([c.2.2.2.2.1,c.2.2.2.2.2,d.2.2.2.2.1,d.2.2.2.2.2])),RV.d .bool (yE c d (dh (dC c) ([c.2.2.2.2.1,c.2.2.2.2.2,d.2.2.2.2.1,d.2.2.2.2.2])))]|false=>none)|false=>none)|false=>none)|false=>k 16 (dJ c d s188_8 (i64.wrap (s188_8+1)) ([c.2.2.2.2.1,c.2.2.2.2.2,d.2.2.2.2.1,d.2.2.2.2.2])))|false=>(match decide (okC 4000 d∧okP 4000 x1)with|true=>(match !(gZ (dC d) (dec x1))with|true=>(match s188_8==(-1)with|true=>(match decide (lj c ([c.2.2.2.2.1,c.2.2.2.2.2,d.2.2.2.2.1,d.2.2.2.2.2]))with|true=>(match decide (gO c d∧cY (dC c) (dC d)=true)with|true=>(match decide (yi c d (dh (dC c) ([c.2.2.2.2.1,c.2.2.2.2.2,d.2.2.2.2.1,d.2.2.2.2.2])))with|true=>some [RV.d (.sl tP) (dh (dC c) ([c.2.2.2.2.1,c.2.2.2.2.2,d.2.2.2.2.1,d.2.2.2.2.2])),RV.d .bool (yE c d (dh (dC c) ([c.2.2.2.2.1,c.2.2.2.2.2,d.2.2.2.2.1,d.2.2.2.2.2])))]|false=>none)|false=>none)|false=>none)|false=>k 16 (dJ c d s188_8 (i64.wrap (s188_8+1)) ([c.2.2.2.2.1,c.2.2.2.2.2,d.2.2.2.2.1,d.2.2.2.2.2])))|false=>k 6 (jz c d (i64.wrap (s188_8+1))))|false=>none))|false=>none)|_,_=>none)|none=>none)|false=>(match(-1)==(-1)with|true=>(match decide (lj c ([c.2.2.2.2.1,c.2.2.2.2.2,d.2.2.2.2.1,d.2.2.2.2.2]))with|true=>(match decide (gO c d∧cY (dC c) (dC d)=true)with|true=>(match decide (yi c d (dh (dC c) ([c.2.2.2.2.1,c.2.2.2.2.2,d.2.2.2.2.1,d.2.2.2.2.2])))with|true=>some [RV.d (.sl tP) (dh (dC c) ([c.2.2.2.2.1,c.2.2.2.2.2,d.2.2.2.2.1,d.2.2.2.2.2])),RV.d .bool (yE c d (dh (dC c) ([c.2.2.2.2.1,c.2.2.2.2.2,d.2.2.2.2.1,d.2.2.2.2.2])))]|false=>none)|false=>none)|false=>none)|false=>k 16 (dJ c d (-1) (i64.wrap ((-1)+1)) ([c.2.2.2.2.1,c.2.2.2.2.2,d.2.2.2.2.1,d.2.2.2.2.2])))
theorem mi(c d:BCU)(s188_8:Int):RN kG 6 (jz c d s188_8) (ja c d s188_8):=rnX
def ji(c d:BCU)(s86_5 s86_6:Int)(r86_3:List BP)(k:KT):OLR:=match decide (s86_6<(r86_3.length:Int))with|true=>(match aS r86_3 s86_6 with|some _=>(match true,r86_3[(s86_6).toNat]? with|true,some x1=>(match decide (okC 4000 c∧okP 4000 x1)with|true=>(match !(gZ (dC c) (dec x1))with|true=>k 16 (dJ c d s86_5 (i64.wrap (s86_6+1)) r86_3)|false=>(match decide (okC 4000 d∧okP 4000 x1)with|true=>(match !(!(gZ (dC d) (dec x1)))with|true=>(match aS r86_3 s86_5 with|some _=>(match true,r86_3[(s86_5).toNat]? with|true,some _=>k 16 (dJ c d (i64.wrap (s86_5+1)) (i64.wrap (s86_6+1)) (r86_3.set ((s86_5).toNat) x1))|_,_=>none)|none=>none)|false=>k 16 (dJ c d s86_5 (i64.wrap (s86_6+1)) r86_3))|false=>none))|false=>none)|_,_=>none)|none=>none)|false=>(match decide ((0:Int)≤s86_5∧s86_5≤(r86_3.length:Int)∧(r86_3.length:Int)≤(r86_3.length:Int))with|true=>(match decide ((0:Int)≤0∧0≤s86_5∧s86_5≤((jx (Ty.zero tP) ((s86_5:Int).toNat) (((r86_3.length:Int):Int).toNat-(s86_5:Int).toNat) r86_3).length:Int))with|true=>(match decide (lj c (((jx (Ty.zero tP) ((s86_5:Int).toNat) (((r86_3.length:Int):Int).toNat-(s86_5:Int).toNat) r86_3).drop ((0:Int).toNat)).take ((s86_5:Int).toNat-(0:Int).toNat)))with|true=>(match decide (gO c d∧cY (dC c) (dC d)=true)with|true=>(match decide (yi c d (dh (dC c) (((jx (Ty.zero tP) ((s86_5:Int).toNat) (((r86_3.length:Int):Int).toNat-(s86_5:Int).toNat) r86_3).drop ((0:Int).toNat)).take ((s86_5:Int).toNat-(0:Int).toNat))))with|true=>some [RV.d (.sl tP) (dh (dC c) (((jx (Ty.zero tP) ((s86_5:Int).toNat) (((r86_3.length:Int):Int).toNat-(s86_5:Int).toNat) r86_3).drop ((0:Int).toNat)).take ((s86_5:Int).toNat-(0:Int).toNat))),RV.d .bool (yE c d (dh (dC c) (((jx (Ty.zero tP) ((s86_5:Int).toNat) (((r86_3.length:Int):Int).toNat-(s86_5:Int).toNat) r86_3).drop ((0:Int).toNat)).take ((s86_5:Int).toNat-(0:Int).toNat))))]|false=>none)|false=>none)|false=>none)|false=>none)|false=>none)
theorem lX(c d:BCU)(s86_5 s86_6:Int)(r86_3:List BP):RN kG 16 (dJ c d s86_5 s86_6 r86_3) (ji c d s86_5 s86_6 r86_3):=rnX
section
variable (c d:BCU) (h:fy c d) (hs:cY (dC c) (dC d)=true)
include h hs
theorem Dq(L:List BP)(hl:L.length≤4)(ho:∀x∈L,okP 4000 x):(match decide (lj c L)with
  |true=>(match decide (gO c d∧cY (dC c) (dC d)=true)with
   |true=>(match decide (yi c d (dh (dC c) L))with|true=>some [RV.d (.sl tP) (dh (dC c) L),RV.d .bool (yE c d (dh (dC c) L))]|false=>none)
   |false=>none)
  |false=>none)=some [RV.d (.sl tP) (dh (dC c) L),RV.d .bool (yE c d (dh (dC c) L))]:=by
 have hc:okC 4000 c:=bU h.1.1 (by decide) (by decide);have hd:okC 4000 d:=bU h.2.1 (by decide) (by decide);have q:lj c L:=⟨hc,by omega,ho⟩
 have hn:(dh (dC c) L).length≤L.length:=pM;have _q2:yi c d (dh (dC c) L):=⟨⟨hc,by omega,fun x hx=>ho x (jy hx)⟩,hd⟩
 rw[dT q,dT (show gO c d∧cY (dC c) (dC d)=true from⟨⟨h.1.2,h.2.2⟩,hs⟩)];dsimp only;rw[dT _q2]
theorem xu:∀(S:List BP) (L J:List BP),J≠[]→(∀x∈L++(J++S),okP 4000 x)→(L++(J++S)).length≤4→
  kG.Runs 16 (dJ c d (L.length:Int) ((L.length+J.length:Nat):Int) (L++(J++S))) [RV.d (.sl tP) (dh (dC c) (L++S.filter (gz c d))),RV.d .bool (yE c d (dh (dC c) (L++S.filter (gz c d))))]
 |[],L,J,hJ,hok,h4=>by
  have h4':L.length+J.length≤4:=by simpa using h4
  obtain⟨c1,c2⟩:=IY (Ty.zero tP) L J;refine lX _ _ _ _ _ ⟨0,?_⟩;unfold ji;rw[am9,ce (by simp)];dsimp only;rw[dT (show(0:Int)≤(L.length:Int)∧(L.length:Int)≤((L++J).length:Int)∧((L++J).length:Int)≤((L++J).length:Int) by simp only[ana];omega)];rw[dT (show(0:Int)≤0∧0≤(L.length:Int)∧(L.length:Int)≤((jx (Ty.zero tP) ((L.length:Int).toNat) ((((L++J).length:Int)).toNat-(L.length:Int).toNat) (L++J)).length:Int) by omega)];rw[c1,apl,am9];exact Dq c d h hs L (by omega) fun x hx=>hok x (aod _ hx)
 |q::S,L,J,hJ,hok,h4=>by
  have h4':L.length+(J.length+(S.length+1))≤4:=by simpa using h4
  have hc:okC 4000 c:=bU h.1.1 (by decide) (by decide);have hd:okC 4000 d:=bU h.2.1 (by decide) (by decide);have hq:okP 4000 q:=hok q (by simp)
  have g1:(L++(J++q::S))[L.length+J.length]?=some q:=by
   have:=m9 (L++J) q S;rw[ana,am3]at this;exact this
  obtain⟨y,T,rfl⟩:=List.exists_cons_of_ne_nil hJ;have g2:(L++(y::T++q::S))[L.length]?=some y:=m9 L y (T++q::S)
  have hset:(L++(y::T++q::S)).set L.length q=(L++[q])++((T++[q])++S):=by
   have:=B9 y q (T++q::S) L;rw[show y::T++q::S=y::(T++q::S) from rfl,this];simp
  have e2:L++(y::T++q::S)=L++((y::T++[q])++S):=by simp
  have key:∀r n,(match gz c d q with
    |true=>kG.k n 16 (dJ c d ((L.length+1:Nat):Int) ((L.length+(y::T).length+1:Nat):Int) ((L++[q])++((T++[q])++S)))
    |false=>kG.k n 16 (dJ c d (L.length:Int) ((L.length+(y::T).length+1:Nat):Int) (L++(y::T++q::S))))=some r→
    ji c d (L.length:Int) ((L.length+(y::T).length:Nat):Int) (L++(y::T++q::S)) (kG.k n)=some r:=fun r n hk=>by
   unfold ji;rw[bI (by simp only[ana,amV];omega),av,g1,show((L.length+(y::T).length:Nat):Int).toNat=L.length+(y::T).length by omega,g1];dsimp only;rw[dT (show okC 4000 c∧okP 4000 q from⟨hc,hq⟩),dT (show okC 4000 d∧okP 4000 q from⟨hd,hq⟩),b8 (k:=L.length+(y::T).length) (by simp only[amV]at*;omega),b8 (k:=L.length) (by omega),av,g2,show((L.length:Nat):Int).toNat=L.length by omega,g2,hset];unfold gz at hk;cases r1:gZ (dC c) (dec q)<;>cases r2:gZ (dC d) (dec q)<;>rw[r1,r2]at hk<;>exact hk
  rw[aow];cases hk:gz c d q
  ·obtain⟨n,hn⟩:=xu S L (y::T++[q]) (by simp) (e2▸hok) (e2▸h4);refine lX _ _ _ _ _ ⟨n,key _ n ?_⟩;rw[hk,e2];rw[ana,am2,←aoH]at hn;exact hn
  ·obtain⟨n,hn⟩:=xu S (L++[q]) (T++[q]) (by simp) (fun x hx=>by
    simp only[ano,amT,anZ,apn]at hx;rcases hx with(hx|hx)|(hx|hx)|hx
    ·exact hok x (by simp[hx])
    ·rw[hx];exact hq
    ·exact hok x (by simp[hx])
    ·rw[hx];exact hq
    ·exact hok x (by simp[hx])) (by simp at h4 ⊢;omega)
   refine lX _ _ _ _ _ ⟨n,key _ n ?_⟩;rw[hk];have n1:(L++[q]).length=L.length+1:=by simp
   have n2:L.length+1+(T++[q]).length=L.length+(y::T).length+1:=by simp;omega
   rw[n1,n2,am3 L [q] (S.filter (gz c d))]at hn;exact hn
theorem Jh(X:List BP)(hX:[c.2.2.2.2.1,c.2.2.2.2.2,d.2.2.2.2.1,d.2.2.2.2.2]=X)(h4:X.length≤4)(hok:∀x∈X,okP 4000 x):∀(S A:List BP),A++S=X→A.filter (gz c d)=A→
  kG.Runs 6 (jz c d (A.length:Int)) [RV.d (.sl tP) (dh (dC c) (A++S.filter (gz c d))),RV.d .bool (yE c d (dh (dC c) (A++S.filter (gz c d))))]
 |[],A,hA,hf=>by
  rw[am9]at hA;refine mi _ _ _ ⟨0,?_⟩;unfold ja;rw[hX,←hA,ce (by omega),apl,am9];exact Dq c d h hs A (hA▸h4) (hA▸hok)
 |q::S,A,hA,hf=>by
  have hc:okC 4000 c:=bU h.1.1 (by decide) (by decide);have hd:okC 4000 d:=bU h.2.1 (by decide) (by decide);have hq:okP 4000 q:=hok q (by rw[←hA];simp);have g1:X[A.length]?=some q:=by rw[←hA];exact m9 A q S
  have hlen:A.length<X.length:=by rw[←hA];simp
  have key:∀r n,(match gz c d q with
    |true=>kG.k n 6 (jz c d ((A.length+1:Nat):Int))
    |false=>kG.k n 16 (dJ c d (A.length:Int) ((A.length+1:Nat):Int) X))=some r→
    ja c d (A.length:Int) (kG.k n)=some r:=fun r n hk=>by
   unfold ja;rw[hX,bI hlen,av,g1,show((A.length:Nat):Int).toNat=A.length by omega,g1];dsimp only;rw[dT (show okC 4000 c∧okP 4000 q from⟨hc,hq⟩),dT (show okC 4000 d∧okP 4000 q from⟨hd,hq⟩),b8 (k:=A.length) (by omega),show((A.length:Int)== -1)=false by rw[aoA];omega];unfold gz at hk;cases r1:gZ (dC c) (dec q)<;>cases r2:gZ (dC d) (dec q)<;>rw[r1,r2]at hk<;>exact hk
  rw[aow];cases hk:gz c d q
  ·obtain⟨n,hn⟩:=xu c d h hs S A [q] (by simp) (by rw[an5,hA];exact hok) (by rw[an5,hA];exact h4);refine mi _ _ _ ⟨n,key _ n ?_⟩;rw[hk];rw[an5,hA]at hn;exact hn
  ·obtain⟨n,hn⟩:=Jh X hX h4 hok S (A++[q]) (by rw[am3];exact hA) (by rw[List.filter_append,hf,aow,hk];rfl);refine mi _ _ _ ⟨n,key _ n ?_⟩;rw[hk];have n1:(A++[q]).length=A.length+1:=by simp
   rw[n1,am3 A [q] (S.filter (gz c d))]at hn;exact hn
end
theorem My(c d:BCU)(h:fy c d)(hs:cY (dC c) (dC d)=true):CQ 42 [.d tCU c,.d tCU d] [.d (.sl tP) (lg c d),.d .bool (qJ c d)]:=by
 obtain⟨h4,ho⟩:=DN h;have e:kv c d=[c.2.2.2.2.1,c.2.2.2.2.2,d.2.2.2.2.1,d.2.2.2.2.2]:=by unfold kv;rw[hs];rfl
 rw[e]at h4 ho;obtain⟨n,hn⟩:=Jh c d h hs _ rfl h4 ho _ [] rfl rfl;have e2:lg c d=dh (dC c) (List.filter (gz c d) [c.2.2.2.2.1,c.2.2.2.2.2,d.2.2.2.2.1,d.2.2.2.2.2]):=by unfold lg;rw[e]
 have e3:qJ c d=yE c d (dh (dC c) (List.filter (gz c d) [c.2.2.2.2.1,c.2.2.2.2.2,d.2.2.2.2.1,d.2.2.2.2.2])):=by unfold qJ;rw[hs,e2];rfl
 rw[e2,e3];refine c8 RO (adZ _ _ ⟨n,?_⟩);unfold LA;rw[dT (show gO c d∧cY (dC c) (dC d)=true from⟨⟨h.1.2,h.2.2⟩,hs⟩)];dsimp only;rw[dT (amS h4 (by decide))];exact hn
def abP:Cn 84 [tCU,tCU]:=cn fun(a b:BCU)=>lf (gO a b∧cY (dC a) (dC b)=false) [.d .bool false] fun h=>by
 have e:CQ 84 [.d tCU a,.d tCU b] [.d .bool (cY (dC a) (dC b))]:=(ZY.g a b).h h.1;rw[h.2]at e;exact e
def Qq:List En:=[enT abP,enT NV,enL Zm,enK PO,enF Zj,enK Gb]
def VX:NT:=[((188,6),{keep:=[0,1,7,8],hl:=3}),((86,16),{keep:=[0,1,5,6],hl:=3}),((42,11),{keep:=[2,3,26,28],hl:=0}),((86,3),{keep:=[0,1,10],hl:=0}),((188,18),{keep:=[0,1,5,7,8,16],hl:=0}),((86,28),{keep:=[0,1,5,6,7,28],hl:=0})]
def kM:Ctx:=CX (ens Qq) VX
def jB(c d:BCU)(s188_8:Int):Cfg:=⟨188,[.blk 0,.seq 25],[(0,.own 2),(1,.clo 88 [0,1]),(7,SI (((il (dC c) (dC d)).map enc).length:Int)),(8,SI s188_8)],[.box 39 (Ty.split tCU c),.box 39 (Ty.split tCU d),.row 37 tP ((il (dC c) (dC d)).map enc)],3,[⟨86,[.seq 4],3,2,[(0,.own 2),(1,.clo 88 [0,1])],3,none⟩,⟨42,[.seq 12],11,3,[(2,.box 0 0),(3,.box 1 0),(26,.own 2)],0,none⟩]⟩
def dK(c d:BCU)(s86_5 s86_6:Int)(r86_2:List BP):Cfg:=⟨86,[.blk 0,.seq 35],[(0,.own 2),(1,.clo 88 [0,1]),(5,SI s86_5),(6,SI s86_6)],[.box 39 (Ty.split tCU c),.box 39 (Ty.split tCU d),.row 37 tP r86_2],3,[⟨42,[.seq 12],11,3,[(2,.box 0 0),(3,.box 1 0),(26,.own 2)],0,none⟩]⟩
def OJ(c d:BCU)(k:KT):OLR:=match decide (gO c d∧cY (dC c) (dC d)=false)with|true=>(match decide (gO c d)with|true=>(match decide (((il (dC c) (dC d)).map enc).length≤100000)with|true=>k 6 (jB c d 0)|false=>none)|false=>none)|false=>none
theorem aeM(c d:BCU):RS kM 42 [.d tCU c,.d tCU d] (OJ c d):=rsX
def iY(c d:BCU)(s188_8:Int)(k:KT):OLR:=match decide (s188_8<(((il (dC c) (dC d)).map enc).length:Int))with|true=>(match aS ((il (dC c) (dC d)).map enc) s188_8 with|some _=>(match true,((il (dC c) (dC d)).map enc)[(s188_8).toNat]? with|true,some x1=>(match decide (okC 4000 c∧okP 4000 x1)with|true=>(match !(gZ (dC c) (dec x1))with|true=>(match s188_8==(-1)with|true=>(match decide (lj c ((il (dC c) (dC d)).map enc))with|true=>(match decide (gO c d∧cY (dC c) (dC d)=false)with|true=>some [RV.d (.sl tP) (dh (dC c) ((il (dC c) (dC d)).map enc)),RV.d .bool false]|false=>none)|false=>none)|false=>k 16 (dK c d s188_8 (i64.wrap (s188_8+1)) ((il (dC c) (dC d)).map enc)))|false=>(match decide (okC 4000 d∧okP 4000 x1)with|true=>(match !(gZ (dC d) (dec x1))with|true=>(match s188_8==(-1)with|true=>(match decide (lj c ((il (dC c) (dC d)).map enc))with|true=>(match decide (gO c d∧cY (dC c) (dC d)=false)with|true=>some [RV.d (.sl tP) (dh (dC c) ((il (dC c) (dC d)).map enc)),RV.d .bool false]|false=>none)|false=>none)|false=>k 16 (dK c d s188_8 (i64.wrap (s188_8+1)) ((il (dC c) (dC d)).map enc)))|false=>k 6 (jB c d (i64.wrap (s188_8+1))))|false=>none))|false=>none)|_,_=>none)|none=>none)|false=>(match(-1)==(-1)with|true=>(match decide (lj c ((il (dC c) (dC d)).map enc))with|true=>(match decide (gO c d∧cY (dC c) (dC d)=false)with|true=>some [RV.d (.sl tP) (dh (dC c) ((il (dC c) (dC d)).map enc)),RV.d .bool false]|false=>none)|false=>none)|false=>k 16 (dK c d (-1) (i64.wrap ((-1)+1)) ((il (dC c) (dC d)).map enc)))
theorem l7(c d:BCU)(s188_8:Int):RN kM 6 (jB c d s188_8) (iY c d s188_8):=rnX
def iX(c d:BCU)(s86_5 s86_6:Int)(r86_2:List BP)(k:KT):OLR:=match decide (s86_6<(r86_2.length:Int))with|true=>(match aS r86_2 s86_6 with|some _=>(match true,r86_2[(s86_6).toNat]? with|true,some x1=>(match decide (okC 4000 c∧okP 4000 x1)with|true=>(match !(gZ (dC c) (dec x1))with|true=>k 16 (dK c d s86_5 (i64.wrap (s86_6+1)) r86_2)|false=>(match decide (okC 4000 d∧okP 4000 x1)with|true=>(match !(!(gZ (dC d) (dec x1)))with|true=>(match aS r86_2 s86_5 with|some _=>(match true,r86_2[(s86_5).toNat]? with|true,some _=>k 16 (dK c d (i64.wrap (s86_5+1)) (i64.wrap (s86_6+1)) (r86_2.set ((s86_5).toNat) x1))|_,_=>none)|none=>none)|false=>k 16 (dK c d s86_5 (i64.wrap (s86_6+1)) r86_2))|false=>none))|false=>none)|_,_=>none)|none=>none)|false=>(match decide ((0:Int)≤s86_5∧s86_5≤(r86_2.length:Int)∧(r86_2.length:Int)≤(r86_2.length:Int))with|true=>(match decide ((0:Int)≤0∧0≤s86_5∧s86_5≤((jx (Ty.zero tP) ((s86_5:Int).toNat) (((r86_2.length:Int):Int).toNat-(s86_5:Int).toNat) r86_2).length:Int))with|true=>(match decide (lj c (((jx (Ty.zero tP) ((s86_5:Int).toNat) (((r86_2.length:Int):Int).toNat-(s86_5:Int).toNat) r86_2).drop ((0:Int).toNat)).take ((s86_5:Int).toNat-(0:Int).toNat)))with|true=>(match decide (gO c d∧cY (dC c) (dC d)=false)with|true=>some [RV.d (.sl tP) (dh (dC c) (((jx (Ty.zero tP) ((s86_5:Int).toNat) (((r86_2.length:Int):Int).toNat-(s86_5:Int).toNat) r86_2).drop ((0:Int).toNat)).take ((s86_5:Int).toNat-(0:Int).toNat))),RV.d .bool false]|false=>none)|false=>none)|false=>none)|false=>none)
theorem lW(c d:BCU)(s86_5 s86_6:Int)(r86_2:List BP):RN kM 16 (dK c d s86_5 s86_6 r86_2) (iX c d s86_5 s86_6 r86_2):=rnX
section
variable (c d:BCU) (h:fy c d) (hs:cY (dC c) (dC d)=false)
include h hs
theorem CM(L:List BP)(hl:L.length≤4)(ho:∀x∈L,okP 4000 x):(match decide (lj c L)with
  |true=>(match decide (gO c d∧cY (dC c) (dC d)=false)with
   |true=>some [RV.d (.sl tP) (dh (dC c) L),RV.d .bool false]
   |false=>none)
  |false=>none)=some [RV.d (.sl tP) (dh (dC c) L),RV.d .bool (false)]:=by
 have hc:okC 4000 c:=bU h.1.1 (by decide) (by decide);have hd:okC 4000 d:=bU h.2.1 (by decide) (by decide);have q:lj c L:=⟨hc,by omega,ho⟩
 have hn:(dh (dC c) L).length≤L.length:=pM;have _q2:yi c d (dh (dC c) L):=⟨⟨hc,by omega,fun x hx=>ho x (jy hx)⟩,hd⟩
 rw[dT q,dT (show gO c d∧cY (dC c) (dC d)=false from⟨⟨h.1.2,h.2.2⟩,hs⟩)]
theorem wH:∀(S:List BP) (L J:List BP),J≠[]→(∀x∈L++(J++S),okP 4000 x)→(L++(J++S)).length≤4→
  kM.Runs 16 (dK c d (L.length:Int) ((L.length+J.length:Nat):Int) (L++(J++S))) [RV.d (.sl tP) (dh (dC c) (L++S.filter (gz c d))),RV.d .bool (false)]
 |[],L,J,hJ,hok,h4=>by
  have h4':L.length+J.length≤4:=by simpa using h4
  obtain⟨c1,c2⟩:=IY (Ty.zero tP) L J;refine lW _ _ _ _ _ ⟨0,?_⟩;unfold iX;rw[am9,ce (by simp)];dsimp only;rw[dT (show(0:Int)≤(L.length:Int)∧(L.length:Int)≤((L++J).length:Int)∧((L++J).length:Int)≤((L++J).length:Int) by simp only[ana];omega)];rw[dT (show(0:Int)≤0∧0≤(L.length:Int)∧(L.length:Int)≤((jx (Ty.zero tP) ((L.length:Int).toNat) ((((L++J).length:Int)).toNat-(L.length:Int).toNat) (L++J)).length:Int) by omega)];rw[c1,apl,am9];exact CM c d h hs L (by omega) fun x hx=>hok x (aod _ hx)
 |q::S,L,J,hJ,hok,h4=>by
  have h4':L.length+(J.length+(S.length+1))≤4:=by simpa using h4
  have hc:okC 4000 c:=bU h.1.1 (by decide) (by decide);have hd:okC 4000 d:=bU h.2.1 (by decide) (by decide);have hq:okP 4000 q:=hok q (by simp)
  have g1:(L++(J++q::S))[L.length+J.length]?=some q:=by
   have:=m9 (L++J) q S;rw[ana,am3]at this;exact this
  obtain⟨y,T,rfl⟩:=List.exists_cons_of_ne_nil hJ;have g2:(L++(y::T++q::S))[L.length]?=some y:=m9 L y (T++q::S)
  have hset:(L++(y::T++q::S)).set L.length q=(L++[q])++((T++[q])++S):=by
   have:=B9 y q (T++q::S) L;rw[show y::T++q::S=y::(T++q::S) from rfl,this];simp
  have e2:L++(y::T++q::S)=L++((y::T++[q])++S):=by simp
  have key:∀r n,(match gz c d q with
    |true=>kM.k n 16 (dK c d ((L.length+1:Nat):Int) ((L.length+(y::T).length+1:Nat):Int) ((L++[q])++((T++[q])++S)))
    |false=>kM.k n 16 (dK c d (L.length:Int) ((L.length+(y::T).length+1:Nat):Int) (L++(y::T++q::S))))=some r→
    iX c d (L.length:Int) ((L.length+(y::T).length:Nat):Int) (L++(y::T++q::S)) (kM.k n)=some r:=fun r n hk=>by
   unfold iX;rw[bI (by simp only[ana,amV];omega),av,g1,show((L.length+(y::T).length:Nat):Int).toNat=L.length+(y::T).length by omega,g1];dsimp only;rw[dT (show okC 4000 c∧okP 4000 q from⟨hc,hq⟩),dT (show okC 4000 d∧okP 4000 q from⟨hd,hq⟩),b8 (k:=L.length+(y::T).length) (by simp only[amV]at*;omega),b8 (k:=L.length) (by omega),av,g2,show((L.length:Nat):Int).toNat=L.length by omega,g2,hset];unfold gz at hk;cases r1:gZ (dC c) (dec q)<;>cases r2:gZ (dC d) (dec q)<;>rw[r1,r2]at hk<;>exact hk
  rw[aow];cases hk:gz c d q
  ·obtain⟨n,hn⟩:=wH S L (y::T++[q]) (by simp) (e2▸hok) (e2▸h4);refine lW _ _ _ _ _ ⟨n,key _ n ?_⟩;rw[hk,e2];rw[ana,am2,←aoH]at hn;exact hn
  ·obtain⟨n,hn⟩:=wH S (L++[q]) (T++[q]) (by simp) (fun x hx=>by
    simp only[ano,amT,anZ,apn]at hx;rcases hx with(hx|hx)|(hx|hx)|hx
    ·exact hok x (by simp[hx])
    ·rw[hx];exact hq
    ·exact hok x (by simp[hx])
    ·rw[hx];exact hq
    ·exact hok x (by simp[hx])) (by simp at h4 ⊢;omega)
   refine lW _ _ _ _ _ ⟨n,key _ n ?_⟩;rw[hk];have n1:(L++[q]).length=L.length+1:=by simp
   have n2:L.length+1+(T++[q]).length=L.length+(y::T).length+1:=by simp;omega
   rw[n1,n2,am3 L [q] (S.filter (gz c d))]at hn;exact hn
theorem I7(X:List BP)(hX:((il (dC c) (dC d)).map enc)=X)(h4:X.length≤4)(hok:∀x∈X,okP 4000 x):∀(S A:List BP),A++S=X→A.filter (gz c d)=A→
  kM.Runs 6 (jB c d (A.length:Int)) [RV.d (.sl tP) (dh (dC c) (A++S.filter (gz c d))),RV.d .bool (false)]
 |[],A,hA,hf=>by
  rw[am9]at hA;refine l7 _ _ _ ⟨0,?_⟩;unfold iY;rw[hX,←hA,ce (by omega),apl,am9];exact CM c d h hs A (hA▸h4) (hA▸hok)
 |q::S,A,hA,hf=>by
  have hc:okC 4000 c:=bU h.1.1 (by decide) (by decide);have hd:okC 4000 d:=bU h.2.1 (by decide) (by decide);have hq:okP 4000 q:=hok q (by rw[←hA];simp);have g1:X[A.length]?=some q:=by rw[←hA];exact m9 A q S
  have hlen:A.length<X.length:=by rw[←hA];simp
  have key:∀r n,(match gz c d q with
    |true=>kM.k n 6 (jB c d ((A.length+1:Nat):Int))
    |false=>kM.k n 16 (dK c d (A.length:Int) ((A.length+1:Nat):Int) X))=some r→
    iY c d (A.length:Int) (kM.k n)=some r:=fun r n hk=>by
   unfold iY;rw[hX,bI hlen,av,g1,show((A.length:Nat):Int).toNat=A.length by omega,g1];dsimp only;rw[dT (show okC 4000 c∧okP 4000 q from⟨hc,hq⟩),dT (show okC 4000 d∧okP 4000 q from⟨hd,hq⟩),b8 (k:=A.length) (by omega),show((A.length:Int)== -1)=false by rw[aoA];omega];unfold gz at hk;cases r1:gZ (dC c) (dec q)<;>cases r2:gZ (dC d) (dec q)<;>rw[r1,r2]at hk<;>exact hk
  rw[aow];cases hk:gz c d q
  ·obtain⟨n,hn⟩:=wH c d h hs S A [q] (by simp) (by rw[an5,hA];exact hok) (by rw[an5,hA];exact h4);refine l7 _ _ _ ⟨n,key _ n ?_⟩;rw[hk];rw[an5,hA]at hn;exact hn
  ·obtain⟨n,hn⟩:=I7 X hX h4 hok S (A++[q]) (by rw[am3];exact hA) (by rw[List.filter_append,hf,aow,hk];rfl);refine l7 _ _ _ ⟨n,key _ n ?_⟩;rw[hk];have n1:(A++[q]).length=A.length+1:=by simp
   rw[n1,am3 A [q] (S.filter (gz c d))]at hn;exact hn
end
theorem RM(c d:BCU)(h:fy c d)(hs:cY (dC c) (dC d)=false):CQ 42 [.d tCU c,.d tCU d] [.d (.sl tP) (lg c d),.d .bool (qJ c d)]:=by
 obtain⟨h4,ho⟩:=DN h;have e:kv c d=((il (dC c) (dC d)).map enc):=by unfold kv;rw[hs];rfl
 rw[e]at h4 ho;obtain⟨n,hn⟩:=I7 c d h hs _ rfl h4 ho _ [] rfl rfl;have e2:lg c d=dh (dC c) (List.filter (gz c d) ((il (dC c) (dC d)).map enc)):=by unfold lg;rw[e]
 have e3:qJ c d=false:=by unfold qJ;rw[hs,e2];rfl
 rw[e2,e3];refine c8 Qq (aeM _ _ ⟨n,?_⟩);unfold OJ;rw[dT (show gO c d∧cY (dC c) (dC d)=false from⟨⟨h.1.2,h.2.2⟩,hs⟩)];dsimp only;rw[dT (show gO c d from⟨h.1.2,h.2.2⟩)];dsimp only;rw[dT (amS h4 (by decide))];exact hn
def ah9:Cn 42 [tCU,tCU]:=cn fun(c d:BCU)=>lf (fy c d) [.d (.sl tP) (lg c d),.d .bool (qJ c d)] fun h=>by
 cases hs:cY (dC c) (dC d)
 ·exact RM c d h hs
 ·exact My c d h hs
end
section
open RE
end
section
open RE
section
variable {α β:Type} (f:α→β)
theorem DP{lt:α→α→Bool}{lt':β→β→Bool}(h:∀a b,lt' (f a) (f b)=lt a b)(a:α):∀r:List α,lh lt' (r.map f) (f a)=(lh lt r a).map f
 |[]=>rfl
 |b::r=>by
  have ih:=DP h a r;simp only[aoV,lh,h];cases lt a b
  ·rfl
  ·simp only[cond_true,aoV,ih]
theorem D4{lt:α→α→Bool}{lt':β→β→Bool}(h:∀a b,lt' (f a) (f b)=lt a b):∀(l r:List α),(l.map f).foldl (lh lt') (r.map f)=(l.foldl (lh lt) r).map f
 |[],_=>rfl
 |a::l,r=>by
  rw[aoV,aom,aom,DP f h,D4 h]
theorem Om{lt:α→α→Bool}{lt':β→β→Bool}(h:∀a b,lt' (f a) (f b)=lt a b)(l:List α):r9 lt' (l.map f)=(r9 lt l).map f:=by
 unfold r9;have:=D4 f h l [];rw[List.map_nil]at this;rw[this,List.map_reverse]
theorem Dw{g:α→α→Bool}{g':β→β→Bool}(h:∀a b,g' (f a) (f b)=g a b):∀(l:List α) (p:α),jU g' (f p) (l.map f)=(jU g p l).map f
 |[],_=>rfl
 |q::r,p=>by
  have ih:=Dw h r q;simp only[aoV,jU,h];cases g q p
  ·simp only[cond_false,aoV,ih]
  ·exact ih
theorem No{g:α→α→Bool}{g':β→β→Bool}(h:∀a b,g' (f a) (f b)=g a b)(l:List α):vL g' (l.map f)=(vL g l).map f:=by
 cases l with
 |nil=>rfl
 |cons x r=>
  simp only[aoV,vL];rw[Dw f h]
end
def abQ(c d:Cv):List Pt:=vL (fun a b=>aX a b==0) (r9 (fun a b=>decide (Cl c a b<0)) ((bif cY c d then [frC c,toC c,frC d,toC d]else il c d).filter fun p=>gZ c p&&gZ d p))
theorem Lw{c d:BCU}(h1:c.2.2.2.2.1=enc (frC (dC c)))(h2:c.2.2.2.2.2=enc (toC (dC c)))(h3:d.2.2.2.2.1=enc (frC (dC d)))(h4:d.2.2.2.2.2=enc (toC (dC d))):lg c d=(abQ (dC c) (dC d)).map enc:=by
 have e:kv c d=(bif cY (dC c) (dC d)then [frC (dC c),toC (dC c),frC (dC d),toC (dC d)]else il (dC c) (dC d)).map enc:=by
  unfold kv;cases cY (dC c) (dC d)
  ·rfl
  ·simp only[cond_true,aoV,List.map_nil,←h1,←h2,←h3,←h4]
 unfold lg abQ dh;rw[e,List.filter_map]
 have e2:(gz c d∘enc)=fun p:Pt=>gZ (dC c) p&&gZ (dC d) p:=by
  funext p;show(gZ (dC c) (dec (enc p))&&gZ (dC d) (dec (enc p)))=_;rw[az]
 rw[e2,Om (f:=(enc:Pt→BP)) (lt:=fun a b=>decide (Cl (dC c) a b<0)) (fun a b=>by unfold ltP;rw[az,az]),No (f:=(enc:Pt→BP)) (g:=fun a b=>aX a b==0) (fun a b=>by unfold ib;rw[az,az])]
abbrev uS1:Rat×Rat:=(Rat.divInt (-4) 2,Rat.divInt 1 2)
abbrev uS2:Rat×Rat:=(Rat.divInt 4 2,Rat.divInt 1 2)
def qS:Cv:=(false,(0,4,2),(0,0,0),false,atP uS1,atP uS2)
section
theorem bQ(n d:Int)(h:yT n d):Bd (Rat.divInt n d) 3:=IL h.1 h.2.1 h.2.2
end
end
section
open Go.ChangeShapes Go.WideShapes Go.ChangeAt Go.WideMaps Go.WideElems Go.RowKit
theorem Q1:ownKnob Tryz.prog.godebug=none:=by kernel_rfl
def Ty.ok:(t:Ty)→t.D→Prop
 |.int k,x=>(Lit.int k x).wf=true
 |.bool,_=>True
 |.str,_=>True
 |.sl e,xs=>xs.length≤9223372036854775807∧∀x∈xs,e.ok x
 |.pair a b,x=>a.ok x.1∧b.ok x.2
 |.st a,x=>a.ok x
def yv(rp:TypeId→Ty→Bool)(cells:TypeId→Nat):List Field→Ty→Nat→Bool
 |[],_,_=>false
 |[f],a,off=>rp f.type a&&Nat.beq f.offset off&&Nat.beq (cells f.type) a.n
 |f::g::fs,.pair a b,off=>rp f.type a&&Nat.beq f.offset off&&Nat.beq (cells f.type) a.n&&yv rp cells (g::fs) b (off+a.n)
 |_,_,_=>false
def Fo(rp:Ty→Bool)(n:Nat):Nat→Ty→Bool
 |0,_=>false
 |1,a=>rp a&&Nat.beq a.n n
 |k+2,.pair a b=>rp a&&Nat.beq a.n n&&Fo rp n (k+1) b
 |_,_=>false
def rep(P:Program):Nat→TypeId→Ty→Bool
 |0,_,_=>false
 |n+1,t,ty=>match P.underlying t,ty with
  |some (.int k),.int k'=>decide (k=k')
  |some .bool,.bool=>true
  |some .string,.str=>true
  |some (.slice e),.sl ety=>rep P n e ety&&Nat.beq (P.cellsOf e) ety.n&&Nat.ble 1 ety.n
  |some (.struct fs),.st a=>yv (rep P n) P.cellsOf fs.toList a 0&&Nat.beq (P.cellsOf t) a.n
  |some (.array k e),.st a=>Fo (rep P n e) (P.cellsOf e) k a&&Nat.beq (P.cellsOf t) a.n
  |_,_=>false
theorem UV{w:World}{a:Addr}{v:Value}(h:w.cell? a=some v):a.block<w.heap.size∧a.spot=none:=by
 unfold World.cell? at h;split at h
 ·rename_i hb;refine⟨(amW.1 hb).1,?_⟩;simp_all
 grind
theorem DB{α β:Type}{f:α→Option β}:∀{l:List α} {r:List β},l.mapM f=some r→r.length=l.length∧∀(j:Nat) (y:β),r[j]?=some y→∃x,l[j]?=some x∧f x=some y
 |[],r,h=>by simp at h;subst h;simp
 |x::l,r,h=>by
  rw[List.mapM_cons]at h;cases hx:f x with
  |none=>rw[hx]at h;simp at h
  |some y=>
   rw[hx]at h;cases hl:l.mapM f with
   |none=>rw[hl]at h;simp at h
   |some r'=>
    rw[hl]at h;obtain rfl:y::r'=r:=by simpa using h
    obtain⟨h1,h2⟩:=DB hl;refine⟨by simp[h1],fun j z hz=>?_⟩;cases j with
    |zero=>exact⟨x,rfl,by simpa [hx]using hz⟩
    |succ j=>obtain⟨u,h3,h4⟩:=h2 j z (by simpa using hz);exact⟨u,by simpa using h3,h4⟩
theorem KY{w:World}{base n:Nat}{a:Addr}{l:List Value}(h:w.cells? base a n=some l):l.length=n∧∀(j:Nat) (v:Value),l[j]?=some v→w.cell? (a.add j)=some v:=by
 unfold World.cells? at h;split at h
 ·obtain⟨h1,h2⟩:=DB h;grind
 grind
theorem Sv{α β:Type}{n:Nat}{p:Nat→α→β→Prop}(h:∀i,i<n→∃s t,p i s t):∃(l:List α) (m:List β),l.length=n∧m.length=n∧∀i s t,l[i]?=some s→m[i]?=some t→p i s t:=by
 induction n with
 |zero=>exact⟨[],[],rfl,rfl,fun i s t h=>by simp at h⟩
 |succ n ih=>
  obtain⟨l,m,h1,h2,h3⟩:=ih fun i hi=>h i (by omega);obtain⟨s,t,hst⟩:=h n (by omega);refine⟨l++[s],m++[t],by simp[h1],by simp[h2],fun i s' t' hs ht=>?_⟩;grind
section
variable {H:Type} {enc:TypeId×Value→H} {P:Program} {w:World} {base:Nat} {spare:Nat→Bool} {held:Bool}
def R1(enc:TypeId×Value→H)(P:Program)(w:World)(base:Nat)(spare:Nat→Bool)(held:Bool)(ty:Ty):Prop:=∀(n:Nat) (t:TypeId),rep P n t ty=true→∀(fuel:Nat) (cs:List Value) (x:DataW H×List MemPlace),cs.length=ty.n→DataW.trod enc P w base spare held fuel t cs=some x→∃y:ty.D,ty.rd (fun _=>True) w cs y∧ty.ok y
def R2(enc:TypeId×Value→H)(P:Program)(w:World)(base:Nat)(spare:Nat→Bool)(held:Bool)(ty:Ty):Prop:=∀(n:Nat) (fs:List Field) (off:Nat) (cs:List Value),yv (rep P n) P.cellsOf fs ty off=true→cs.length=ty.n→(∀f∈fs,off≤f.offset→∃fuel x,DataW.trod enc P w base spare held fuel f.type ((cs.drop (f.offset-off)).take (P.cellsOf f.type))=some x)→∃y:ty.D,ty.rd (fun _=>True) w cs y∧ty.ok y
def R3(enc:TypeId×Value→H)(P:Program)(w:World)(base:Nat)(spare:Nat→Bool)(held:Bool)(ty:Ty):Prop:=∀(n k:Nat) (e:TypeId) (cs:List Value),Fo (rep P n e) (P.cellsOf e) k ty=true→cs.length=ty.n→(∀i,i<k→∃fuel x,DataW.trod enc P w base spare held fuel e ((cs.drop (i*P.cellsOf e)).take (P.cellsOf e))=some x)→∃y:ty.D,ty.rd (fun _=>True) w cs y∧ty.ok y
theorem ajH{ty:Ty}(h1:R1 enc P w base spare held ty)(hp:∀(n:Nat) (f g:Field) (fs:List Field) (off:Nat) (cs:List Value),yv (rep P n) P.cellsOf (f::g::fs) ty off=true→cs.length=ty.n→(∀q∈f::g::fs,off≤q.offset→∃fuel x,DataW.trod enc P w base spare held fuel q.type ((cs.drop (q.offset-off)).take (P.cellsOf q.type))=some x)→∃y:ty.D,ty.rd (fun _=>True) w cs y∧ty.ok y):R2 enc P w base spare held ty:=by
 intro n fs off cs hr hl hf;match fs,hr,hf with
 |[f],hr,hf=>
  simp only[yv,amI]at hr;have ho:=amJ hr.1.2;have hc:=amJ hr.2;obtain⟨fuel,x,hx⟩:=hf f (by simp) (by omega);rw[ho,ao9,hc,uV _ _ hl]at hx;exact h1 n f.type hr.1.1 fuel cs x hl hx
 |f::g::fs,hr,hf=>exact hp n f g fs off cs hr hl hf
theorem air{ty:Ty}(h1:R1 enc P w base spare held ty)(hp:∀(n k:Nat) (e:TypeId) (cs:List Value),Fo (rep P n e) (P.cellsOf e) (k+2) ty=true→cs.length=ty.n→(∀i,i<k+2→∃fuel x,DataW.trod enc P w base spare held fuel e ((cs.drop (i*P.cellsOf e)).take (P.cellsOf e))=some x)→∃y:ty.D,ty.rd (fun _=>True) w cs y∧ty.ok y):R3 enc P w base spare held ty:=by
 intro n k e cs hr hl hf;match k,hr,hf with
 |1,hr,hf=>
  simp only[Fo,amI]at hr;have hc:=amJ hr.2;obtain⟨fuel,x,hx⟩:=hf 0 (by omega);rw[Nat.zero_mul,←hc,uV _ _ hl]at hx;exact h1 n e hr.1 fuel cs x hl hx
 |k+2,hr,hf=>exact hp n k e cs hr hl hf
theorem VH:∀(ty:Ty),R1 enc P w base spare held ty∧R2 enc P w base spare held ty∧R3 enc P w base spare held ty:=by
 intro ty
 have o9:∀{ty:Ty},(∀a b,ty≠.pair a b)→R1 enc P w base spare held ty→R1 enc P w base spare held ty∧R2 enc P w base spare held ty∧R3 enc P w base spare held ty:=by
  intro ty hne h1;refine⟨h1,ajH h1 fun n f g fs off cs hr=>?_,air h1 fun n k e cs hr=>?_⟩
  ·cases ty<;>first|exact absurd rfl (hne _ _)|simp[yv]at hr
  ·cases ty<;>first|exact absurd rfl (hne _ _)|simp[Fo]at hr
 induction ty with
 |int k=>
  refine o9 (fun a b e=>by cases e) fun n t hr fuel cs x hl hx=>?_;cases n with
  |zero=>simp[rep]at hr
  |succ n=>
   unfold rep at hr;split at hr<;>try (cases hr;done)
   all_goals rename_i hu he<;>cases he
   have:=amH hr;subst this;obtain⟨m,rfl,_,hw⟩:=DataW.trod_int hu hx;exact⟨m,rfl,hw⟩
 |bool=>
  refine o9 (fun a b e=>by cases e) fun n t hr fuel cs x hl hx=>?_;cases n with
  |zero=>simp[rep]at hr
  |succ n=>
   unfold rep at hr;split at hr<;>try (cases hr;done)
   all_goals rename_i hu he<;>cases he
   obtain⟨m,rfl,_⟩:=DataW.trod_bool hu hx;exact⟨m,rfl,trivial⟩
 |str=>
  refine o9 (fun a b e=>by cases e) fun n t hr fuel cs x hl hx=>?_;cases n with
  |zero=>simp[rep]at hr
  |succ n=>
   unfold rep at hr;split at hr<;>try (cases hr;done)
   all_goals rename_i hu he<;>cases he
   cases fuel with
   |zero=>simp[DataW.trod]at hx
   |succ fuel=>
    unfold DataW.trod at hx;rw[hu]at hx;split at hx<;>simp_all;exact⟨_,rfl,trivial⟩
 |sl e ih=>
  refine o9 (fun a b e=>by cases e) fun n t hr fuel cs x hl hx=>?_;cases n with
  |zero=>simp[rep]at hr
  |succ n=>
   unfold rep at hr;split at hr<;>try (cases hr;done)
   all_goals rename_i hu he<;>cases he
   simp only[amI]at hr;obtain⟨⟨r1,r2⟩,r3⟩:=hr;have hc:=amJ r2;have hn0:=amL r3;rcases Deep.open_slice hu hx with⟨rfl,_⟩|⟨a,len,cap,m,nn,D,Pl,rfl,hb,hle,hcap,hm,_,hel⟩
   ·exact⟨[],xz,by simp,fun x hx=>by simp at hx⟩
   ·have hlm:len≤m:=by rw[hm];split<;>omega
    have key:∀i,i<len→∃(l:List Value) (y:e.D),(e.rd (fun _=>True) w l y∧e.ok y)∧∀j v,l[j]?=some v→w.cell? ((a.add (i*e.n)).add j)=some v:=by
     intro i hi;obtain⟨cs',h1,h2⟩:=hel i (by omega);rw[hc]at h1;obtain⟨h3,h4⟩:=KY h1;obtain⟨y,h5⟩:=ih.1 n _ r1 nn cs' _ h3 h2;exact⟨cs',y,h5,h4⟩
    obtain⟨css,ys,l1,l2,hk⟩:=Sv key;have hall:cr (fun l y=>e.rd (fun _=>True) w l y) css ys:=HI (by omega) fun i l y h1 h2=>(hk i l y h1 h2).1.1;refine⟨ys,⟨some a,len,cap,css,rfl,l2,hle,hcap,hall,fun h0=>?_⟩,by unfold maxLen at hcap;omega,fun y hy=>?_⟩
    ·obtain⟨l0,hl0⟩:∃l,css[0]?=some l:=⟨_,amF (by omega)⟩
     obtain⟨y0,hy0,hrd0⟩:=iN hall 0 l0 hl0;have hlen0:=Ty.rd_len hrd0;obtain⟨v0,hv0⟩:∃v,l0[0]?=some v:=⟨_,amF (by omega)⟩
     have hc0:=(hk 0 l0 y0 hl0 hy0).2 0 v0 hv0;have e0:(a.add (0*e.n)).add 0=a:=by simp[Addr.add]
     rw[e0]at hc0;obtain⟨h1,h2⟩:=UV hc0;obtain⟨b,off,sp⟩:=a;dsimp only at h1 h2;subst h2;refine⟨b,off,rfl,trivial,h1,fun i v hv=>?_⟩;have hls:=f0 hall;have hi:i<css.flatten.length:=(amO.1 hv).1;rw[gX hls,l1]at hi;have hq:i/e.n<len:=Nat.div_lt_of_lt_mul (by rw[Nat.mul_comm];exact hi);obtain⟨l,hl⟩:∃l,css[i/e.n]?=some l:=⟨_,amF (by omega)⟩
     obtain⟨y,hy,hrd⟩:=iN hall _ l hl;have hmod:i%e.n<e.n:=apv _ hn0;obtain⟨u,hu'⟩:∃u,l[i%e.n]?=some u:=⟨_,amF (by rw[Ty.rd_len hrd];exact hmod)⟩
     have hfl:=lE hls hl hu';have hdm:i/e.n*e.n+i%e.n=i:=by rw[Nat.mul_comm];exact Nat.div_add_mod i e.n
     rw[hdm,hv]at hfl;injection hfl with hfl;subst hfl;have:=(hk _ l y hl hy).2 _ _ hu';rw[dP,dP]at this;rwa [aoH,hdm]at this
    ·obtain⟨i,hi,rfl⟩:=aoW hy;obtain⟨l,hl,_⟩:=oJ hall i _ (amF hi);exact(hk i l _ hl (amF hi)).1.2
 |st a ih=>
  refine o9 (fun a b e=>by cases e) fun n t hr fuel cs x hl hx=>?_;cases n with
  |zero=>simp[rep]at hr
  |succ n=>
   unfold rep at hr;split at hr<;>try (cases hr;done)
   all_goals rename_i hu he<;>cases he
   ·simp only[amI]at hr;obtain⟨xs,k,rfl,_,_,hlen,hg⟩:=DataW.trod_struct hu hx;refine ih.2.1 n _ 0 cs hr.1 hl fun f hf _=>?_;obtain⟨i,hi,rfl⟩:=aoW hf;rename_i fs;have h1:=hg i _ (by rw[←aoo];exact amF hi);obtain⟨y,hy⟩:∃y,xs[i]?=some y:=⟨_,amF (by rw[hlen];simpa using hi)⟩
    rw[hy]at h1;exact⟨k,y,by rw[Nat.sub_zero];exact h1⟩
   ·simp only[amI]at hr;obtain⟨xs,k,rfl,_,_,hlen,hg⟩:=DataW.trod_array hu hx;refine ih.2.2 n _ _ cs hr.1 hl fun i hi=>?_;have h1:=hg i hi;obtain⟨y,hy⟩:∃y,xs[i]?=some y:=⟨_,amF (by rw[hlen];exact hi)⟩
    rw[hy]at h1;exact⟨k,y,h1⟩
 |pair a b iha ihb=>
  have h1:R1 enc P w base spare held (.pair a b):=by
   intro n t hr;cases n with
   |zero=>simp[rep]at hr
   |succ n=>
    unfold rep at hr;split at hr<;>first|(cases hr;done)|(rename_i he;cases he)
  have cut:∀{cs:List Value} {k m:Nat},cs.length=a.n+b.n→((cs.drop a.n).drop k).take m=(cs.drop (a.n+k)).take m:=fun _=>by rw[apJ]
  refine⟨h1,ajH h1 fun n f g fs off cs hr hl hf=>?_,air h1 fun n k e cs hr hl hf=>?_⟩
  ·simp only[yv,amI]at hr;obtain⟨⟨⟨r1,r2⟩,r3⟩,r4⟩:=hr;have ho:=amJ r2;have hc:=amJ r3;simp only[Ty.n]at hl;obtain⟨fuel,x,hx⟩:=hf f (by simp) (by omega);rw[ho,ao9,hc,aoj]at hx;obtain⟨y1,k1,k2⟩:=iha.1 n f.type r1 fuel (cs.take a.n) x (by simp;omega) hx
   obtain⟨y2,k3,k4⟩:=ihb.2.1 n (g::fs) (off+a.n) (cs.drop a.n) r4 (by simp;omega) fun q hq hle=>by
    obtain⟨fuel,x,hx⟩:=hf q (by simp only[amT]at hq ⊢;exact .inr hq) (by omega);refine⟨fuel,x,?_⟩;rw[apJ,show a.n+(q.offset-(off+a.n))=q.offset-off by omega];exact hx
   exact⟨(y1,y2),⟨_,_,(an2 a.n cs).symm,k1,k3⟩,k2,k4⟩
  ·simp only[Fo,amI]at hr;obtain⟨⟨r1,r2⟩,r3⟩:=hr;have hc:=amJ r2;simp only[Ty.n]at hl;obtain⟨fuel,x,hx⟩:=hf 0 (by omega);rw[Nat.zero_mul,aoj,←hc]at hx;obtain⟨y1,k1,k2⟩:=iha.1 n e r1 fuel (cs.take a.n) x (by simp;omega) hx
   obtain⟨y2,k3,k4⟩:=ihb.2.2 n (k+1) e (cs.drop a.n) r3 (by simp;omega) fun i hi=>by
    obtain⟨fuel,x,hx⟩:=hf (i+1) (by omega);refine⟨fuel,x,?_⟩;rw[apJ,hc,show P.cellsOf e+i*P.cellsOf e=(i+1)*P.cellsOf e by rw[aol];omega];exact hx
   exact⟨(y1,y2),⟨_,_,(an2 a.n cs).symm,k1,k3⟩,k2,k4⟩
end
end
def ajM:List En:=[enL BE]
def ZT(n:Int)(_k:KT):OLR:=og (decide (yT (i64.wrap n) (4:Int))) (some [RV.d tR (hid (ak (Rat.divInt (i64.wrap n) (4:Int))))])
def afs:Cn 13 [(.int .i8)]:=cn fun(n:Int)=>lf (i8P n) [.d tR (ak (Rat.divInt n 4))] fun h=>by
 refine aA ajM (ZT n) ⟨0,?_⟩;obtain⟨h1,h2⟩:=h;unfold ZT;rw[aT (x:=n) (by omega) (by omega),dT (show yT n 4 from⟨⟨by omega,by omega⟩,⟨by omega,by omega⟩,by omega⟩)];simp only[bK]
theorem adp{n:Int}(h:i8P n):Bd (Rat.divInt n 4) 3:=IL (n:=n) (d:=4) (by obtain⟨h1,h2⟩:=h;exact⟨by omega,by omega⟩) (by decide) (by decide)
theorem xQ{n:Int}(h:Ty.ok (.int .i8) n):i8P n:=bounds_i8 h
theorem LF{n:Int}(h:Ty.ok (.int .u8) n):u8P n:=bounds_u8 h
theorem Yi{x:Dr}(h:Ty.ok tDr x):Cr x:=⟨LF h.1,LF h.2.1,xQ h.2.2.1,xQ h.2.2.2.1,xQ h.2.2.2.2.1,xQ h.2.2.2.2.2.1,xQ h.2.2.2.2.2.2.1,xQ h.2.2.2.2.2.2.2⟩
theorem Sy{x:Pce}(h:Ty.ok xc x):yU x:=⟨Yi h.1,Yi h.2.1,LF h.2.2⟩
theorem abY{n:Int}(h:i8P n){k:Nat}(hk:3≤k)(hk':k≤480000):ok Rat k (ak (Rat.divInt n 4)):=by
 have:=adp h;exact amH (okd (x:=Rat.divInt n 4) hk hk')
end Go.Proofs.YtnkndpoojnflmaaGreat
end
