/- Sorted points of a curve: the program's contract. -/
import Derived.Test.YtagbmoohboleaaaGreatL15
import Derived.Test.YtagbmoohboleaaaGreatL14
noncomputable section
namespace Go.Proofs.YtagbmoohboleaaaGreat
open Go.RowKit Go.IntKind
section
theorem oY{n m k:Nat}(h1:n+m<=100000000)(hk:k<=1000000):decide ((n+m)*k<=140737488355328/\n+m<=140737488355328)=true:=by
 refine afm ⟨?_,by omega⟩;have:=ahj h1 hk;omega
def gI(c:BCU)(l:List BP):Prop:=okC 4000 c/\l.length<=19/\∀x∈l,okP 4000 x
instance (c:BCU) (l:List BP):Decidable (gI c l):=by unfold gI;infer_instance
def LG:Ctx:=CX [] []
def Mx(p:List BP)(_k:KT):OLR:=match p with|[]=>BX (some [RV.new 37 tP []]) (og (decide ((([]:List BP).length+p.length)*320<=140737488355328/\([]:List BP).length+p.length<=140737488355328)) (some [RV.new 37 tP (([]:List BP)++p)]))|_::_=>(og (decide ((([]:List BP).length+p.length)*320<=140737488355328/\([]:List BP).length+p.length<=140737488355328)) (some [RV.new 37 tP (([]:List BP)++p)]))
theorem WI(p:List BP):RS LG 74 [.d (.sl tP) p] (Mx p):=rsX
def Ei:Cn 74 [(.sl tP)]:=cn λ(p:List BP)=>lf (p.length<=100000) [.new 37 tP p] λh=>by
 refine Ctx.Res.con (C:=LG) (Aj (E:=[]) trivial) ?_ (fn:=Tryz.f74) (by kernel_rfl) (by kernel_rfl);refine WI _ ⟨0,?_⟩;unfold Mx;rw[oY (n:=([]:List BP).length) (m:=p.length) (by simp;omega) (by omega)];cases p with
 |nil=>exact dB _
 |cons a p=>rfl
def YR:List En:=[enT Pw]
def Uj(p q:BP)(_k:KT):OLR:=og (decide (okP 4000 p/\okP 4000 q)) (some [RV.d .bool ((aF (dec p) (dec q))==0)])
def DC:Cn 41 [tP,tP]:=cn λ(p q:BP)=>lf (okP 4000 p/\okP 4000 q) [.d .bool (aF (dec p) (dec q)==0)] λh=>by
 refine az YR (Uj p q) ⟨0,?_⟩;unfold Uj;rw[dT h]
def Hn:dK:={keep:=true,run:=λ_ _ _=>none}
theorem Jk:SpK 274 Hn:=by
 refine⟨by kernel_rfl,λR args k r h=>(by cases h),(λg h=>(by cases h)),λ_ _ e=>(by cases e)⟩
def Ek:List En:=[enT UC,enT DC,enK Ei,⟨274,Hn,Jk⟩]
def XS:NT:=[((200,6),{keep:=[0,1,2,6,7,8],hl:=2}),((273,3),{keep:=[0,1,2,3,8],hl:=2}),((273,15),{keep:=[0,1,2,3,8,9],hl:=2}),((200,22),{keep:=[0,1,2,6],hl:=2}),((200,34),{keep:=[0,1,2,6,7,8],hl:=2}),((102,14),{keep:=[0,1,5],hl:=2}),((102,32),{keep:=[0,1,5,6,7],hl:=2}),((40,5),{keep:=[1],hl:=0}),((99,0),{keep:=[],hl:=0}),((200,15),{keep:=[0,1,2,6,8],hl:=0}),((200,20),{keep:=[0,1,2,6],hl:=0}),((273,18),{keep:=[0,1,2,3,8,9,18,19,20,21,22,23,24,25,26,27,28,29,30,31,32,33,34],hl:=0}),((40,7),{keep:=[11],hl:=0})]
def iq:Ctx:=CX (ens Ek) XS
def ql(c:BCU)(l:List BP)(s200_7 s200_8:Int)(r200_1:List BP):Cfg:=⟨200,[.blk 0,.seq 19],[(0,.own 1),(1,SI (l.length:Int)),(2,.clo 100 [0]),(6,SI 20),(7,SI s200_7),(8,SI s200_8)],[.box 39 (Ty.split tCU c),.row 37 tP r200_1],2,[⟨99,[],0,4,[],2,none⟩,⟨40,[.seq 6],5,2,[(1,.own 1)],0,none⟩]⟩
def qo(c:BCU)(l:List BP)(s200_7 s200_8 s273_8:Int)(r273_1:List BP):Cfg:=⟨273,[.blk 0],[(0,.own 1),(1,SI s200_7),(2,SI s200_8),(3,.clo 100 [0]),(8,SI s273_8)],[.box 39 (Ty.split tCU c),.row 37 tP r273_1],2,[⟨200,[.seq 16,.blk 1,.lp 6,.blk 0,.seq 19],15,4,[(0,.own 1),(1,SI (l.length:Int)),(2,.clo 100 [0]),(6,SI 20),(8,SI s200_8)],2,none⟩,⟨99,[],0,4,[],2,none⟩,⟨40,[.seq 6],5,2,[(1,.own 1)],0,none⟩]⟩
def eF(c:BCU)(l:List BP)(s200_7 s273_8:Int)(r273_1:List BP):Cfg:=⟨273,[.blk 0],[(0,.own 1),(1,SI s200_7),(2,SI (l.length:Int)),(3,.clo 100 [0]),(8,SI s273_8)],[.box 39 (Ty.split tCU c),.row 37 tP r273_1],2,[⟨200,[.seq 21],20,4,[(0,.own 1),(1,SI (l.length:Int)),(2,.clo 100 [0]),(6,SI 20)],2,none⟩,⟨99,[],0,4,[],2,none⟩,⟨40,[.seq 6],5,2,[(1,.own 1)],0,none⟩]⟩
def BA(c:BCU)(l:List BP)(s200_7 s200_8 s273_8 s273_9:Int)(r273_1:List BP):Cfg:=⟨273,[.blk 2,.blk 1,.seq 26,.lp 3,.blk 0],[(0,.own 1),(1,SI s200_7),(2,SI s200_8),(3,.clo 100 [0]),(8,SI s273_8),(9,SI s273_9)],[.box 39 (Ty.split tCU c),.row 37 tP r273_1],2,[⟨200,[.seq 16,.blk 1,.lp 6,.blk 0,.seq 19],15,4,[(0,.own 1),(1,SI (l.length:Int)),(2,.clo 100 [0]),(6,SI 20),(8,SI s200_8)],2,none⟩,⟨99,[],0,4,[],2,none⟩,⟨40,[.seq 6],5,2,[(1,.own 1)],0,none⟩]⟩
def gg(c:BCU)(l:List BP)(s200_7 s273_8 s273_9:Int)(r273_1:List BP):Cfg:=⟨273,[.blk 2,.blk 1,.seq 26,.lp 3,.blk 0],[(0,.own 1),(1,SI s200_7),(2,SI (l.length:Int)),(3,.clo 100 [0]),(8,SI s273_8),(9,SI s273_9)],[.box 39 (Ty.split tCU c),.row 37 tP r273_1],2,[⟨200,[.seq 21],20,4,[(0,.own 1),(1,SI (l.length:Int)),(2,.clo 100 [0]),(6,SI 20)],2,none⟩,⟨99,[],0,4,[],2,none⟩,⟨40,[.seq 6],5,2,[(1,.own 1)],0,none⟩]⟩
def i9(c:BCU)(l r273_1:List BP)(s200_6:Int):Cfg:=⟨200,[.blk 2],[(0,.own 1),(1,SI (l.length:Int)),(2,.clo 100 [0]),(6,SI s200_6)],[.box 39 (Ty.split tCU c),.row 37 tP r273_1],2,[⟨99,[],0,4,[],2,none⟩,⟨40,[.seq 6],5,2,[(1,.own 1)],0,none⟩]⟩
def Cb(c:BCU)(l r273_1:List BP)(s200_6:Int):Cfg:=⟨200,[.blk 4,.seq 47,.blk 3,.lp 22,.blk 2],[(0,.own 1),(1,SI (l.length:Int)),(2,.clo 100 [0]),(6,SI s200_6),(7,SI 0),(8,SI (i64.wrap (2*s200_6)))],[.box 39 (Ty.split tCU c),.row 37 tP r273_1],2,[⟨99,[],0,4,[],2,none⟩,⟨40,[.seq 6],5,2,[(1,.own 1)],0,none⟩]⟩
def jp(c:BCU)(r273_1:List BP)(s102_5:Int):Cfg:=⟨102,[.blk 0,.seq 56],[(0,.own 1),(1,.clo 41 []),(5,SI s102_5)],[.box 39 (Ty.split tCU c),.row 37 tP r273_1],2,[⟨40,[.seq 8],7,1,[],0,none⟩]⟩
def dQ(c:BCU)(r273_1:List BP)(s102_5 s102_5v s102_7:Int)(r102_1:List BP):Cfg:=⟨102,[.blk 2,.seq 49,.blk 1,.seq 55,.lp 14,.blk 0,.seq 56],[(0,.own 1),(1,.clo 41 []),(5,SI s102_5v),(6,.osl 1 20 ((s102_5:Int).toNat) (((r273_1.length:Int):Int).toNat-(s102_5:Int).toNat)),(7,SI s102_7)],[.box 39 (Ty.split tCU c),.row 37 tP r102_1],2,[⟨40,[.seq 8],7,1,[],0,none⟩]⟩
def U6(c:BCU)(l:List BP)(k:KT):OLR:=og (decide (l.length<=100000)) (k 6 (ql c l 0 20 l))
theorem aaW(c:BCU)(l:List BP):RS iq 40 [.d tCU c,.d (.sl tP) l] (U6 c l):=rsX
def sW(c:BCU)(l:List BP)(s200_7 s200_8:Int)(r200_1:List BP)(k:KT):OLR:=match decide (s200_8<=(l.length:Int))with|true=>k 3 (qo c l s200_7 s200_8 (i64.wrap (s200_7+1)) r200_1)|false=>k 3 (eF c l s200_7 (i64.wrap (s200_7+1)) r200_1)
theorem AI(c:BCU)(l:List BP)(s200_7 s200_8:Int)(r200_1:List BP):RN iq 6 (ql c l s200_7 s200_8 r200_1) (sW c l s200_7 s200_8 r200_1):=rnX
def hU(c:BCU)(l:List BP)(s200_7 s273_8:Int)(r273_1:List BP)(k:KT):OLR:=match decide (s273_8<(l.length:Int))with|true=>k 15 (gg c l s200_7 s273_8 s273_8 r273_1)|false=>k 22 (i9 c l r273_1 20)
theorem kg(c:BCU)(l:List BP)(s200_7 s273_8:Int)(r273_1:List BP):RN iq 3 (eF c l s200_7 s273_8 r273_1) (hU c l s200_7 s273_8 r273_1):=rnX
def PA(c:BCU)(l:List BP)(s200_7 s200_8 s273_8 s273_9:Int)(r273_1:List BP)(k:KT):OLR:=match decide (s273_9>s200_7)with|true=>(match aG r273_1 s273_9 with|some _=>(match true,r273_1[(s273_9).toNat]? with|true,some x1=>(match aG r273_1 (i64.wrap (s273_9-1))with|some _=>(match true,r273_1[(i64.wrap (s273_9-1)).toNat]? with|true,some x2=>(og (decide (okC 4000 c/\okP 4000 x1/\okP 4000 x2)) (match decide ((uS (dC c) (dec x1) (dec x2))<0)with|true=>(match aG r273_1 (i64.wrap (s273_9-1))with|some _=>(match true,r273_1[(i64.wrap (s273_9-1)).toNat]? with|true,some x3=>(match aG r273_1 s273_9 with|some _=>(match true,r273_1[(s273_9).toNat]? with|true,some x4=>(match aG r273_1 s273_9 with|some _=>(match true,r273_1[(s273_9).toNat]? with|true,some _=>(match aG (r273_1.set ((s273_9).toNat) x3) (i64.wrap (s273_9-1))with|some _=>(match true,(r273_1.set ((s273_9).toNat) x3)[(i64.wrap (s273_9-1)).toNat]? with|true,some _=>k 15 (BA c l s200_7 s200_8 s273_8 (i64.wrap (s273_9-1)) ((r273_1.set ((s273_9).toNat) x3).set ((i64.wrap (s273_9-1)).toNat) x4))|_,_=>none)|none=>none)|_,_=>none)|none=>none)|_,_=>none)|none=>none)|_,_=>none)|none=>none)|false=>k 3 (qo c l s200_7 s200_8 (i64.wrap (s273_8+1)) r273_1)))|_,_=>none)|none=>none)|_,_=>none)|none=>none)|false=>k 3 (qo c l s200_7 s200_8 (i64.wrap (s273_8+1)) r273_1)
def gA(c:BCU)(l:List BP)(s200_7 s273_8 s273_9:Int)(r273_1:List BP)(k:KT):OLR:=match decide (s273_9>s200_7)with|true=>(match aG r273_1 s273_9 with|some _=>(match true,r273_1[(s273_9).toNat]? with|true,some x1=>(match aG r273_1 (i64.wrap (s273_9-1))with|some _=>(match true,r273_1[(i64.wrap (s273_9-1)).toNat]? with|true,some x2=>(og (decide (okC 4000 c/\okP 4000 x1/\okP 4000 x2)) (match decide ((uS (dC c) (dec x1) (dec x2))<0)with|true=>(match aG r273_1 (i64.wrap (s273_9-1))with|some _=>(match true,r273_1[(i64.wrap (s273_9-1)).toNat]? with|true,some x3=>(match aG r273_1 s273_9 with|some _=>(match true,r273_1[(s273_9).toNat]? with|true,some x4=>(match aG r273_1 s273_9 with|some _=>(match true,r273_1[(s273_9).toNat]? with|true,some _=>(match aG (r273_1.set ((s273_9).toNat) x3) (i64.wrap (s273_9-1))with|some _=>(match true,(r273_1.set ((s273_9).toNat) x3)[(i64.wrap (s273_9-1)).toNat]? with|true,some _=>k 15 (gg c l s200_7 s273_8 (i64.wrap (s273_9-1)) ((r273_1.set ((s273_9).toNat) x3).set ((i64.wrap (s273_9-1)).toNat) x4))|_,_=>none)|none=>none)|_,_=>none)|none=>none)|_,_=>none)|none=>none)|_,_=>none)|none=>none)|false=>k 3 (eF c l s200_7 (i64.wrap (s273_8+1)) r273_1)))|_,_=>none)|none=>none)|_,_=>none)|none=>none)|false=>k 3 (eF c l s200_7 (i64.wrap (s273_8+1)) r273_1)
theorem jv(c:BCU)(l:List BP)(s200_7 s273_8 s273_9:Int)(r273_1:List BP):RN iq 15 (gg c l s200_7 s273_8 s273_9 r273_1) (gA c l s200_7 s273_8 s273_9 r273_1):=rnX
def iO(c:BCU)(l r273_1:List BP)(s200_6:Int)(k:KT):OLR:=match decide (s200_6<(l.length:Int))with|true=>k 34 (Cb c l r273_1 s200_6)|false=>(match decide ((r273_1.length:Int)<2)with|true=>some [RV.new 37 tP r273_1]|false=>k 14 (jp c r273_1 1))
theorem lz(c:BCU)(l r273_1:List BP)(s200_6:Int):RN iq 22 (i9 c l r273_1 s200_6) (iO c l r273_1 s200_6):=rnX
def iG(c:BCU)(r273_1:List BP)(s102_5:Int)(k:KT):OLR:=match decide (s102_5<(r273_1.length:Int))with|true=>(match aG r273_1 s102_5 with|some _=>(match true,r273_1[(s102_5).toNat]? with|true,some x1=>(match aG r273_1 (i64.wrap (s102_5-1))with|some _=>(match true,r273_1[(i64.wrap (s102_5-1)).toNat]? with|true,some x2=>(og (decide (okP 4000 x1/\okP 4000 x2)) (match aF (dec x1) (dec x2)==0 with|true=>(og (decide ((0:Int)<=s102_5/\s102_5<=(r273_1.length:Int)/\(r273_1.length:Int)<=(r273_1.length:Int))) (k 32 (dQ c r273_1 s102_5 s102_5 1 r273_1)))|false=>k 14 (jp c r273_1 (i64.wrap (s102_5+1)))))|_,_=>none)|none=>none)|_,_=>none)|none=>none)|false=>some [RV.new 37 tP r273_1]
theorem lJ(c:BCU)(r273_1:List BP)(s102_5:Int):RN iq 14 (jp c r273_1 s102_5) (iG c r273_1 s102_5):=rnX
def gE(c:BCU)(r273_1:List BP)(s102_5 s102_5v s102_7:Int)(r102_1:List BP)(k:KT):OLR:=match decide (s102_7<((((r273_1.length:Int):Int).toNat-(s102_5:Int).toNat:Nat):Int))with|true=>(match true,decide ((0:Int)<=s102_7/\s102_7<((((r273_1.length:Int):Int).toNat-(s102_5:Int).toNat:Nat):Int))with|true,true=>(match true,r102_1[(s102_5:Int).toNat+(s102_7).toNat]? with|true,some x1=>(match true,decide ((0:Int)<=i64.wrap (s102_7-1)/\i64.wrap (s102_7-1)<((((r273_1.length:Int):Int).toNat-(s102_5:Int).toNat:Nat):Int))with|true,true=>(match true,r102_1[(s102_5:Int).toNat+(i64.wrap (s102_7-1)).toNat]? with|true,some x2=>(og (decide (okP 4000 x1/\okP 4000 x2)) (match !(aF (dec x1) (dec x2)==0)with|true=>(match true,decide ((0:Int)<=s102_7/\s102_7<((((r273_1.length:Int):Int).toNat-(s102_5:Int).toNat:Nat):Int))with|true,true=>(match true,r102_1[(s102_5:Int).toNat+(s102_7).toNat]? with|true,some x3=>(match aG r102_1 s102_5v with|some _=>(match true,r102_1[(s102_5v).toNat]? with|true,some _=>k 32 (dQ c r273_1 s102_5 (i64.wrap (s102_5v+1)) (i64.wrap (s102_7+1)) (r102_1.set ((s102_5v).toNat) x3))|_,_=>none)|none=>none)|_,_=>none)|_,_=>none)|false=>k 32 (dQ c r273_1 s102_5 s102_5v (i64.wrap (s102_7+1)) r102_1)))|_,_=>none)|_,_=>none)|_,_=>none)|_,_=>none)|false=>(og (decide ((0:Int)<=s102_5v/\s102_5v<=(r102_1.length:Int)/\(r102_1.length:Int)<=(r102_1.length:Int))) (og (decide ((0:Int)<=0/\0<=s102_5v/\s102_5v<=((gv (Ty.zero tP) ((s102_5v:Int).toNat) (((r102_1.length:Int):Int).toNat-(s102_5v:Int).toNat) r102_1).length:Int))) (some [RV.d (.sl tP) (((gv (Ty.zero tP) ((s102_5v:Int).toNat) (((r102_1.length:Int):Int).toNat-(s102_5v:Int).toNat) r102_1).drop ((0:Int).toNat)).take ((s102_5v:Int).toNat-(0:Int).toNat))])))
theorem jD(c:BCU)(r273_1:List BP)(s102_5 s102_5v s102_7:Int)(r102_1:List BP):RN iq 32 (dQ c r273_1 s102_5 s102_5v s102_7 r102_1) (gE c r273_1 s102_5 s102_5v s102_7 r102_1):=rnX
theorem lj{α:Type}(L:List α)(x:α)(T:List α):(L++x::T)[L.length]?=some x:=by simp
theorem z5{α:Type}(x y:α)(T:List α):∀L:List α,(L++x::T).set L.length y=L++y::T
 |[]=>rfl
 |a::L=>by simp[z5 x y T L]
section
variable (c:BCU) (l:List BP)
def ado(ys:List BP)(r:List RV):Prop:=r=[.new 37 tP ys]\/r=[.d (.sl tP) ys]
abbrev p7(i:Nat)(g:Cfg)(ys:List BP):Prop:=∃r,iq.Runs i g r/\ado ys r
end
section
variable (c:BCU) (l:List BP) (hc:okC 4000 c)
include hc
theorem zL(hl:l.length<=19)(i:Nat)(ys:List BP):∀(L:List BP) (a:BP) (R:List BP),(∀x∈L,okP 4000 x)->okP 4000 a->(L.reverse++a::R).length<=19->i<=19->
  p7 3 (eF c l 0 ((i+1:Nat):Int) ((jd (ltP (dC c)) L a).reverse++R)) ys->p7 15 (gg c l 0 (i:Int) (L.length:Int) (L.reverse++a::R)) ys
 |[],a,R,hL,ha,h19,hi,⟨r,⟨n,hn⟩,hr⟩=>by
  refine⟨r,jv _ _ _ _ _ _ ⟨n,?_⟩,hr⟩;unfold gA;rw[dF (show ¬((([]:List BP).length:Nat):Int)>0 by simp),bH (by omega)];exact hn
 |b::L,a,R,hL,ha,h19,hi,hnext=>by
  have hb:=hL b (by simp);have hln:L.length<=18:=by simp at h19;omega
  have hrev:(b::L).reverse++a::R=L.reverse++b::a::R:=by simp
  have e1:((b::L).length:Int)=((L.length+1:Nat):Int):=rfl;have ew:i64.wrap (((L.length+1:Nat):Int)-1)=(L.length:Int):=by rw[aM (by omega) (by omega)];omega
  have g1:(L.reverse++b::a::R)[L.length+1]?=some a:=by
   simp
  have g0:(L.reverse++b::a::R)[L.length]?=some b:=by
   simp
  have s1:(L.reverse++b::a::R).set (L.length+1) b=L.reverse++b::b::R:=by
   simp
  have s2:(L.reverse++b::b::R).set L.length a=L.reverse++a::b::R:=by
   simp
  have g2:(L.reverse++b::b::R)[L.length]?=some b:=by
   simp
  have key:∀r n,(match ltP (dC c) a b with
    |true=>iq.k n 15 (gg c l 0 (i:Int) (L.length:Int) (L.reverse++a::b::R))
    |false=>iq.k n 3 (eF c l 0 ((i+1:Nat):Int) (L.reverse++b::a::R)))=some r->
    gA c l 0 (i:Int) ((b::L).length:Int) ((b::L).reverse++a::R) (iq.k n)=some r:=λr n h=>by
   rw[hrev,e1];unfold gA;rw[dT (show((L.length+1:Nat):Int)>0 by omega),ew,am,g1,am,g0,show((L.length+1:Nat):Int).toNat=L.length+1 by omega,show((L.length:Nat):Int).toNat=L.length by omega,g1,g0];dsimp only;rw[dT (show okC 4000 c/\okP 4000 a/\okP 4000 b from⟨hc,ha,hb⟩),s1,am,g2,s2,bH (by omega)];dsimp only;unfold ltP at h;exact h
  unfold jd at hnext;cases hlt:ltP (dC c) a b
  ·rw[hlt,cond_false]at hnext;obtain⟨r,⟨n,hn⟩,hr⟩:=hnext;refine⟨r,jv _ _ _ _ _ _ ⟨n,key r n ?_⟩,hr⟩;rw[hlt];simpa using hn
  ·rw[hlt,cond_true]at hnext;obtain⟨r,⟨n,hn⟩,hr⟩:=zL hl i ys L a (b::R) (λx hx=>hL x (afw _ hx)) ha (by simp at h19 ⊢;omega) hi (by simpa using hnext);refine⟨r,jv _ _ _ _ _ _ ⟨n,key r n ?_⟩,hr⟩;rw[hlt];exact hn
theorem yU(hl:l.length<=19)(ys:List BP):∀(R D:List BP),(∀x∈D,okP 4000 x)->(∀x∈R,okP 4000 x)->D.length+R.length=l.length->
  p7 22 (i9 c l (R.foldl (jd (ltP (dC c))) D).reverse 20) ys->p7 3 (eF c l 0 (D.length:Int) (D.reverse++R)) ys
 |[],D,hD,hR,hlen,⟨r,⟨n,hn⟩,hr⟩=>by
  refine⟨r,kg _ _ _ _ _ ⟨n,?_⟩,hr⟩;unfold hU;rw[bO (by simp at hlen;omega),afO];exact hn
 |a::R,D,hD,hR,hlen,hnext=>by
  have ha:=hR a (by simp);have hlen':D.length+(R.length+1)=l.length:=hlen
  have h1:=yU hl ys R (jd (ltP (dC c)) D a) (λx hx=>by
   rcases j9.1 hx with e|e
   ·rw[e];exact ha
   ·exact hD x e) (λx hx=>hR x (afw _ hx)) (by rw[ma];omega) hnext
  rw[ma]at h1;obtain⟨r,⟨n,hn⟩,hr⟩:=zL c l hc hl D.length ys D a R hD ha (by simp;omega) (by omega) h1;refine⟨r,kg _ _ _ _ _ ⟨n,?_⟩,hr⟩;unfold hU;rw[aY (by omega)];exact hn
omit hc in
theorem t6(r0:List BP)(b:Nat)(h19:r0.length<=19):∀(S K J:List BP) (p:BP),(∀x∈K++(J++p::S),okP 4000 x)->(K++(J++p::S)).length=r0.length->∀k2:Nat,1<=k2->b+k2=K.length+J.length+1->
  p7 32 (dQ c r0 (b:Int) (K.length:Int) (k2:Int) (K++(J++p::S))) (K++fO cZ p S)
 |[],K,J,p,hok,hlen,k2,h1,hb=>by
  refine⟨_,jD _ _ _ _ _ _ ⟨0,?_⟩,.inr rfl⟩;have hlen':K.length+(J.length+1)=r0.length:=by simpa using hlen
  unfold gE;rw[dF (show ¬(k2:Int)<(((r0.length:Int).toNat-(b:Int).toNat:Nat):Int) by omega)];dsimp only;rw[dT (show(0:Int)<=(K.length:Int)/\(K.length:Int)<=((K++(J++[p])).length:Int)/\((K++(J++[p])).length:Int)<=((K++(J++[p])).length:Int) by rw[hlen];omega)]
  have hcl:((gv (Ty.zero tP) ((K.length:Int).toNat) ((((K++(J++[p])).length:Int)).toNat-(K.length:Int).toNat) (K++(J++[p])))).take K.length=K:=by
   unfold gv;rw[show((K.length:Int)).toNat=K.length by omega,afG,ahh (by simp),ah9,Nat.min_self,List.take_left' rfl]
  have hcn:K.length<=(gv (Ty.zero tP) ((K.length:Int).toNat) ((((K++(J++[p])).length:Int)).toNat-(K.length:Int).toNat) (K++(J++[p]))).length:=by
   have:=congrArg List.length hcl;rw[af3]at this;omega
  rw[dT (show(0:Int)<=0/\0<=(K.length:Int)/\(K.length:Int)<=((gv (Ty.zero tP) ((K.length:Int).toNat) ((((K++(J++[p])).length:Int)).toNat-(K.length:Int).toNat) (K++(J++[p]))).length:Int) by omega)];rw[show((0:Int)).toNat=0 from rfl,agQ,show((K.length:Int)).toNat-0=K.length by omega,hcl];simp[fO]
 |q::S,K,J,p,hok,hlen,k2,h1,hb=>by
  have hlen':K.length+(J.length+(S.length+1+1))=r0.length:=by simpa using hlen
  have hq:okP 4000 q:=hok q (by simp);have hp:okP 4000 p:=hok p (by simp)
  have g1:(K++(J++p::q::S))[(b:Int).toNat+(k2:Int).toNat]?=some q:=by
   rw[show(b:Int).toNat+(k2:Int).toNat=(K++(J++[p])).length by simp;omega];simp
  have ew:i64.wrap ((k2:Int)-1)=((k2-1:Nat):Int):=by rw[aM (by omega) (by omega)];omega
  have g0:(K++(J++p::q::S))[(b:Int).toNat+((k2-1:Nat):Int).toNat]?=some p:=by
   rw[show(b:Int).toNat+((k2-1:Nat):Int).toNat=(K++J).length by simp;omega];simp
  have key:∀r n,(match cZ q p with
    |true=>iq.k n 32 (dQ c r0 (b:Int) (K.length:Int) ((k2+1:Nat):Int) (K++(J++p::q::S)))
    |false=>iq.k n 32 (dQ c r0 (b:Int) ((K.length+1:Nat):Int) ((k2+1:Nat):Int) ((K++(J++p::q::S)).set K.length q)))=some r->
    gE c r0 (b:Int) (K.length:Int) (k2:Int) (K++(J++p::q::S)) (iq.k n)=some r:=λr n h=>by
   unfold gE;rw[dT (show(k2:Int)<(((r0.length:Int).toNat-(b:Int).toNat:Nat):Int) by omega)];dsimp only;rw[dT (show(0:Int)<=(k2:Int)/\(k2:Int)<(((r0.length:Int).toNat-(b:Int).toNat:Nat):Int) by omega),g1];dsimp only;rw[ew,dT (show(0:Int)<=((k2-1:Nat):Int)/\((k2-1:Nat):Int)<(((r0.length:Int).toNat-(b:Int).toNat:Nat):Int) by omega),g0];dsimp only;rw[dT (show okP 4000 q/\okP 4000 p from⟨hq,hp⟩),bH (k:=k2) (by omega)];unfold cZ at h;cases he:aF (dec q) (dec p)==0<;>rw[he]at h
   ·try dsimp only[Bool.not_false]
    have g3:∃y,(K++(J++p::q::S))[K.length]?=some y:=⟨_,afn (by simp;omega)⟩
    obtain⟨y,g3⟩:=g3;rw[am,g3,show((K.length:Int)).toNat=K.length by omega,g3,bH (k:=K.length) (by omega)];exact h
   ·exact h
  have hcm:fO cZ p (q::S)=bif cZ q p then fO cZ q S else q::fO cZ q S:=rfl;rw[hcm];cases he:cZ q p
  ·have hset:∃J',(K++(J++p::q::S)).set K.length q=(K++[q])++(J'++q::S)/\J'.length=J.length/\∀x∈J',x∈J++[p]:=by
    cases J with
    |nil=>
     refine⟨[],?_,rfl,λx hx=>by cases hx⟩;simp
    |cons h T=>
     refine⟨T++[p],?_,by simp,λx hx=>by simp at hx ⊢;exact .inr hx⟩;simp
   obtain⟨J',e,eJ,mJ⟩:=hset
   obtain⟨r,⟨n,hn⟩,hr⟩:=t6 r0 b h19 S (K++[q]) J' q (λx hx=>by
    simp only[afL,afy,agF,ah6]at hx;rcases hx with(hx|hx)|(hx|hx|hx)
    ·exact hok x (by simp[hx])
    ·rw[hx];exact hq
    ·have:=mJ x hx;simp only[afL,afy,agF,ah6]at this;rcases this with h|h
     ·exact hok x (by simp[h])
     ·rw[h];exact hp
    ·rw[hx];exact hq
    ·exact hok x (by simp[hx])) (by simp;omega) (k2+1) (by omega) (by simp;omega)
   refine⟨r,jD _ _ _ _ _ _ ⟨n,key r n ?_⟩,?_⟩
   ·rw[he,e];have:(K++[q]).length=K.length+1:=by simp
    rw[this]at hn;exact hn
   ·simpa using hr
  ·have e2:K++(J++p::q::S)=K++((J++[p])++q::S):=by simp
   obtain⟨r,⟨n,hn⟩,hr⟩:=t6 r0 b h19 S K (J++[p]) q (e2▸hok) (e2▸hlen) (k2+1) (by omega) (by simp;omega);refine⟨r,jD _ _ _ _ _ _ ⟨n,key r n ?_⟩,hr⟩;rw[he,e2];exact hn
omit hc in
theorem yY:∀(S A:List BP) (p:BP),(∀x∈A++p::S,okP 4000 x)->(A++p::S).length<=19->
  p7 14 (jp c (A++p::S) ((A.length+1:Nat):Int)) (A++p::fO cZ p S)
 |[],A,p,hok,h19=>by
  refine⟨_,lJ _ _ _ ⟨0,?_⟩,.inl rfl⟩;unfold iG;rw[bO (by simp)];rfl
 |q::S,A,p,hok,h19=>by
  have hq:okP 4000 q:=hok q (by simp);have hp:okP 4000 p:=hok p (by simp);have h19':A.length+(S.length+1+1)<=19:=by simpa using h19
  have g1:(A++p::q::S)[A.length+1]?=some q:=by
   simp
  have g0:(A++p::q::S)[A.length]?=some p:=lj A p (q::S);have ew:i64.wrap (((A.length+1:Nat):Int)-1)=(A.length:Int):=by rw[aM (by omega) (by omega)];omega
  have key:∀r n,(match cZ q p with
    |true=>iq.k n 32 (dQ c (A++p::q::S) ((A.length+1:Nat):Int) ((A.length+1:Nat):Int) 1 (A++p::q::S))
    |false=>iq.k n 14 (jp c (A++p::q::S) ((A.length+1+1:Nat):Int)))=some r->
    iG c (A++p::q::S) ((A.length+1:Nat):Int) (iq.k n)=some r:=λr n h=>by
   unfold iG;rw[aY (by simp only[afN,afD];omega),am,g1,show((A.length+1:Nat):Int).toNat=A.length+1 by omega,g1];dsimp only;rw[ew,am,g0,show((A.length:Nat):Int).toNat=A.length by omega,g0];dsimp only;rw[dT (show okP 4000 q/\okP 4000 p from⟨hq,hp⟩),bH (k:=A.length+1) (by omega),dT (show(0:Int)<=((A.length+1:Nat):Int)/\((A.length+1:Nat):Int)<=((A++p::q::S).length:Int)/\((A++p::q::S).length:Int)<=((A++p::q::S).length:Int) by simp;omega)];exact h
  have hcm:fO cZ p (q::S)=bif cZ q p then fO cZ q S else q::fO cZ q S:=rfl;have e2:A++p::q::S=(A++[p])++q::S:=by simp
  rw[hcm];cases he:cZ q p
  ·obtain⟨r,⟨n,hn⟩,hr⟩:=yY S (A++[p]) q (e2▸hok) (e2▸h19);refine⟨r,lJ _ _ _ ⟨n,key r n ?_⟩,?_⟩
   ·rw[he,e2];have:(A++[p]).length=A.length+1:=by simp
    rw[this]at hn;exact hn
   ·rw[afG]at hr;exact hr
  ·obtain⟨r,⟨n,hn⟩,hr⟩:=t6 c (A++p::q::S) (A.length+1) h19 S (A++[p]) [] q (e2▸hok) (by rw[e2];rfl) 1 (afs _) (by simp);refine⟨r,lJ _ _ _ ⟨n,key r n ?_⟩,?_⟩
   ·rw[he,e2];have:(A++[p]).length=A.length+1:=by simp
    rw[this,e2]at hn;exact hn
   ·rw[afG]at hr;exact hr
theorem QO(hl:l.length<=19)(ho:∀x∈l,okP 4000 x):p7 6 (ql c l 0 20 l) (bR (dC c) l):=by
 have hlast:∀r:List BP,(∀x∈r,okP 4000 x)->r.length<=19->p7 22 (i9 c l r 20) (tT cZ r):=λr hr h19=>by
  cases r with
  |nil=>
   refine⟨_,lz _ _ _ _ ⟨0,?_⟩,.inl rfl⟩;unfold iO;rw[dF (show ¬(20:Int)<(l.length:Int) by omega)];rfl
  |cons p S=>
   cases S with
   |nil=>
    refine⟨_,lz _ _ _ _ ⟨0,?_⟩,.inl rfl⟩;unfold iO;rw[dF (show ¬(20:Int)<(l.length:Int) by omega)];rfl
   |cons q S=>
    obtain⟨r',⟨n,hn⟩,hr'⟩:=yY c (q::S) [] p hr h19;refine⟨r',lz _ _ _ _ ⟨n,?_⟩,hr'⟩;unfold iO;rw[dF (show ¬(20:Int)<(l.length:Int) by omega)];dsimp only;rw[dF (show ¬((p::q::S).length:Int)<2 by simp;omega)];simpa using hn
 have hsort:p7 22 (i9 c l (qJ (ltP (dC c)) l) 20) (bR (dC c) l):=hlast _ (λx hx=>ho x (mp.1 hx)) (by rw[wq];exact hl)
 have h3:p7 3 (eF c l 0 1 l) (bR (dC c) l):=by
  cases l with
  |nil=>
   obtain⟨r,⟨n,hn⟩,hr⟩:=hsort;refine⟨r,kg _ _ _ _ _ ⟨n,?_⟩,hr⟩;unfold hU;rw[dF (show ¬(1:Int)<(([]:List BP).length:Int) by simp)];exact hn
  |cons x l=>
   have:=yU c (x::l) hc hl _ l [x] (λy hy=>ho y (by simp at hy;simp[hy])) (λy hy=>ho y (afw _ hy)) (by simp;omega) hsort;simpa using this
 obtain⟨r,⟨n,hn⟩,hr⟩:=h3;refine⟨r,AI _ _ _ _ _ ⟨n,?_⟩,hr⟩;unfold sW;rw[dF (show ¬(20:Int)<=(l.length:Int) by omega),aM (x:=0+1) (by omega) (by omega)];exact hn
end
def Nv:Cn 40 [tCU,(.sl tP)]:=cn λ(c:BCU) (l:List BP)=>lf (gI c l) [.d (.sl tP) (bR (dC c) l)] λh=>by
 obtain⟨hc,hl,ho⟩:=h;obtain⟨r,⟨n,hn⟩,hr⟩:=QO c l hc hl ho
 have hres:iq.Res 40 [.d tCU c,.d (.sl tP) l] r:=by
  refine aaW _ _ ⟨n,?_⟩;unfold U6;rw[dT (show l.length<=100000 by omega)];exact hn
 rcases hr with e|e
 ·rw[e]at hres;exact Con.new_d (et:=37) (dm Ek hres)
 ·rw[e]at hres;exact dm Ek hres
end
namespace RE
end RE
namespace RE
theorem Jp{q:Pt}:pX (rdP q)=pX q/\pY (rdP q)=pY q:=by
 unfold rdP pX pY;by_cases h1:q.2.1=0
 ·by_cases h2:q.2.2.2.1=0
  ·rw[afm h1,afm h2];dsimp only;rw[h1,h2,d9,d9,d9,d9];exact⟨rfl,rfl⟩
  ·rw[afo h2,Bool.and_false];exact⟨rfl,rfl⟩
 ·rw[afo h1,Bool.false_and];exact⟨rfl,rfl⟩
theorem aau{x y:Rt}(h:yl x y):pR (mkP x y)=(vR x,vR y):=by
 unfold mkP;refine ais (Jp.1.trans ?_) (Jp.2.trans ?_)
 ·unfold pX vR;dsimp only;by_cases e:x.2.1=0
  ·rw[e,d9,d9]
  ·rw[afo e];rfl
 ·unfold pY vR;dsimp only;by_cases e:x.2.1=0
  ·rw[afm e];rfl
  ·rw[afo e];rcases h with h|h|h
   ·exact absurd h e
   ·rw[h,d9,d9]
   ·rw[cond_false,h]
end RE
section
namespace RE
theorem aeF(A B x y u v s:RE):A*(x+u*s)+B*(y+v*s)=(A*x+B*y)+(A*u+B*v)*s:=by grind
theorem aer(x y u v s p q:RE):(x+u*s-p)*(x+u*s-p)+(y+v*s-q)*(y+v*s-q)=((x-p)*(x-p)+(y-q)*(y-q))+((x-p)*u+(y-q)*v)*s+((x-p)*u+(y-q)*v)*s+(u*u+v*v)*(s*s):=by grind
theorem aeI(b n r:RE):b*(r*n)=b*n*r:=by grind
theorem aeh(r n:RE):r*n*(r*n)=r*r*(n*n):=by grind
theorem aek(x y p q a b m n:RE):(x-a)*(x-a)+(y-b)*(y-b)=((x-p)*(x-p)+(y-q)*(y-q))+(a*a+b*b-m)-(p*p+q*q-n)-((1+1)*(a-p)*x+(1+1)*(b-q)*y)+(m-n):=by grind
theorem aei(a b n m:RE):n+a-b-(a-b)+(m-n)=m:=by grind
theorem Al(x u y v k:Rat):pR (pQ x u y v k)=(v2 x u k,v2 y v k):=by
 unfold pQ;rw[aau (zZ _ _ _ _ _),vR_mk,vR_mk]
section
variable {l c:Ln}
theorem H4(hl:l.1≠0\/l.2.1≠0):0<cE l:=by
 have h:=oh hl;have h1:0<=cE l:=Wt (l.1,l.2.1);grind
theorem Eb(hl:l.1≠0\/l.2.1≠0):fP l c*(cE l*cE l)=iX l c:=by
 have hn:=oh hl;have t:vlL l c.1 c.2.1/cE l*cE l=vlL l c.1 c.2.1:=agA hn;have k:(c.2.2-AP l c)/cE l*cE l=c.2.2-AP l c:=agA hn;unfold fP;rw[<-Rat.mul_assoc,k];unfold AP ftX ftY iX;generalize vlL l c.1 c.2.1/cE l=s at*
 rw[<-t];unfold cE;grind
theorem WT(hl:l.1≠0\/l.2.1≠0):(fP l c<0↔iX l c<0)/\(fP l c=0↔iX l c=0):=by
 have hn:=H4 hl;have h2:0<cE l*cE l:=agf hn hn;have e:=Eb (c:=c) hl;rcases(by grind:fP l c<0\/fP l c=0\/0<fP l c)with h|h|h
 ·have:=agf (show 0< -fP l c by grind) h2;have e2: -fP l c*(cE l*cE l)= -iX l c:=by rw[Rat.neg_mul,e]
  rw[e2]at this;constructor<;>constructor<;>intro<;>grind
 ·rw[h,Rat.zero_mul]at e;constructor<;>constructor<;>intro<;>grind
 ·have:=agf h h2;rw[e]at this;constructor<;>constructor<;>intro<;>grind
theorem Xt(hl:l.1≠0\/l.2.1≠0)(h0:0<=fP l c):rq (iX l c)=rq (fP l c)*of (cE l):=by
 have hn:=H4 hl
 have hr:0<=iX l c:=by
  rw[<-Eb hl];exact af6 h0 (af6 (by grind) (by grind))
 refine SP _ _ (OV _) (cz (OV _) (nt.2 (by grind))) ?_;rw[aeh,pZ hr,pZ h0,<-bS,<-bS,Eb hl]
theorem Bc(hl:l.1≠0\/l.2.1≠0)(h0:0<=fP l c)(a b:Rat):v2 a b (fP l c)=v2 a (b/cE l) (iX l c):=by
 unfold v2;rw[Xt hl h0,aeI,<-bS,agA (oh hl)]
theorem ndv(a b:Rat): -a/b= -(a/b):=by rw[aiu,aiu,Rat.neg_mul]
theorem aem(hl:l.1≠0\/l.2.1≠0)(v:PE):(∃p∈lH l c,pR p=v)↔∃p∈qC l c,pR p=v:=by
 obtain⟨s1,s2⟩:=WT (c:=c) hl;unfold lH qC;by_cases h0:fP l c<0
 ·rw[afm h0,afm (s1.1 h0)];exact Iff.rfl
 ·rw[afo h0,afo (λh=>h0 (s1.2 h))];by_cases h1:fP l c=0
  ·rw[afm h1,afm (s2.1 h1)];exact Iff.rfl
  ·rw[afo h1,afo (λh=>h1 (s2.2 h))];have hp:0<=fP l c:=by grind
   have e:(pR (lcM l c)=pR (ru l c)/\pR (lcN l c)=pR (rP l c))\/(pR (lcM l c)=pR (rP l c)/\pR (lcN l c)=pR (ru l c)):=by
    unfold lcM lcN ru rP;rw[Al,Al,t9,t9,Bc hl hp,Bc hl hp,Bc hl hp,Bc hl hp];unfold uu t8;cases I2 l
    ·left;simp only[cond_false,ndv,Rat.neg_neg,and_self]
    ·right;simp only[cond_true,ndv,Rat.neg_neg,and_self]
   have m2:∀{a b:Pt},(∃p∈[a,b],pR p=v)↔(pR a=v\/pR b=v):=λ{a b}=>by simp
   simp only[cond_false];cases decide (aF (ru l c) (rP l c)>0)
   ·simp only[cond_false];rw[m2,m2];rcases e with⟨e1,e2⟩|⟨e1,e2⟩<;>rw[e1,e2];exact Or.comm
   ·simp only[cond_true];rw[m2,m2];rcases e with⟨e1,e2⟩|⟨e1,e2⟩<;>rw[e1,e2];exact Or.comm
theorem FL(hl:l.1≠0\/l.2.1≠0){u v k:Rat}(hk:0<=k)(h1:l.1*u+l.2.1*v=0)(h2:AP l c+(u*u+v*v)*k=c.2.2):sL l (v2 (ftX l c) u k,v2 (ftY l c) v k)/\uU c (v2 (ftX l c) u k,v2 (ftY l c) v k):=by
 have hn:=oh hl;have t:vlL l c.1 c.2.1/cE l*cE l=vlL l c.1 c.2.1:=agA hn
 have e1:l.1*ftX l c+l.2.1*ftY l c=l.2.2:=by
  unfold ftX ftY;generalize vlL l c.1 c.2.1/cE l=s at*
  unfold cE vlL at t;grind
 have e3:(ftX l c-c.1)*u+(ftY l c-c.2.1)*v=0:=by
  unfold ftX ftY;generalize vlL l c.1 c.2.1/cE l=s at*
  have:(c.1-s*l.1-c.1)*u+(c.2.1-s*l.2.1-c.2.1)*v= -s*(l.1*u+l.2.1*v):=by grind
  rw[this,h1,Rat.mul_zero]
 unfold sL uU frm v2;dsimp only;constructor
 ·rw[aeF,<-bS,<-bS,<-bS,<-bS,<-of_add,<-of_add,e1,h1,vw,zero_mul,add_zero]
 ·rw[aer,pZ hk,<-of_sub,<-of_sub,<-bS,<-bS,<-bS,<-bS,<-bS,<-bS,<-of_add,<-of_add,<-of_add,e3,vw,zero_mul,add_zero,add_zero,<-bS,<-of_add];exact congrArg of h2
theorem YC(_hl:l.1≠0\/l.2.1≠0):l.1*uu l+l.2.1*t8 l=0/\uu l*uu l+t8 l*t8 l=cE l:=by
 unfold uu t8 cE;cases I2 l
 ·simp only[cond_false];constructor<;>grind
 ·simp only[cond_true];constructor<;>grind
theorem Of(hl:l.1≠0\/l.2.1≠0){p:Pt}(hp:p∈lH l c):sL l (pR p)/\uU c (pR p):=by
 have hn:=oh hl;have k:fP l c*cE l=c.2.2-AP l c:=agA hn;obtain⟨d1,d2⟩:=YC hl;unfold lH at hp;by_cases h0:fP l c<0
 ·rw[afm h0]at hp;cases hp
 ·rw[afo h0]at hp;by_cases h1:fP l c=0
  ·rw[afm h1]at hp;have:p=atP (ftL l c):=by simpa using hp
   rw[this,wg];have:=FL (c:=c) (u:=0) (v:=0) (k:=0) hl (by decide) (by grind) (by rw[h1]at k;grind);rw[d9,d9]at this;exact this
  ·rw[afo h1]at hp;have hk:0<=fP l c:=by grind
   have:p=lcM l c\/p=lcN l c:=by simpa using hp
   rcases this with e|e
   ·rw[e];unfold lcM;rw[Al];refine FL hl hk (by grind) ?_;rw[show-uu l* -uu l+ -t8 l* -t8 l=cE l by rw[<-d2];grind,ahk,k];grind
   ·rw[e];unfold lcN;rw[Al];refine FL hl hk d1 ?_;rw[d2,ahk,k];grind
end
theorem Xv{c d:Ln}{v:PE}(hl:sL (nz c d) v)(hc:uU c v):uU d v:=by
 unfold sL nz qB at hl;unfold uU frm at*
 dsimp only at*
 have o2:of 2=1+1:=by
  rw[<-Jz,<-of_add];exact congrArg of (by decide+kernel)
 rw[aek v.1 v.2 (of c.1) (of c.2.1) (of d.1) (of d.2.1) (of d.2.2) (of c.2.2),hc];simp only[of_sub,bS,of_add,o2]at hl;rw[hl,aei]
theorem Xo{l m:Ln}{p:Pt}(hp:p∈pO l m):sL l (pR p)/\sL m (pR p):=by
 unfold pO at hp;by_cases h0:eO l m=0
 ·rw[afm h0]at hp;cases hp
 ·rw[afo h0]at hp;have:p=atP (nI l m/eO l m,nU l m/eO l m):=by simpa using hp
  rw[this,wg];have ex:nI l m/eO l m*eO l m=nI l m:=agA h0;have ey:nU l m/eO l m*eO l m=nU l m:=agA h0
  have key:∀a b q:Rat,a*nI l m+b*nU l m=q*eO l m->a*(nI l m/eO l m)+b*(nU l m/eO l m)=q:=λa b q e=>by
   generalize nI l m/eO l m=x at*
   generalize nU l m/eO l m=y at*
   rw[<-ex,<-ey]at e;have:(a*x+b*y-q)*eO l m=0:=by grind
   rcases ah4.1 this with h|h
   ·grind
   ·exact absurd h h0
  unfold sL;rw[<-bS,<-bS,<-of_add,<-bS,<-bS,<-of_add,key l.1 l.2.1 l.2.2 (by unfold nI nU eO;grind),key m.1 m.2.1 m.2.2 (by unfold nI nU eO;grind)];exact⟨rfl,rfl⟩
end RE
end
theorem Zf{c:Cv}(h:Crp c):Crv c:=⟨h.f.1,h.t.1,λha=>⟨h.q ha,fb ha h.f,fb ha h.t⟩⟩
theorem eU{c:Cv}(h:Crp c){p:Pt}(hp:Rpd p):onP c p=onR c p:=ac8 (Zf h) hp
namespace RE
theorem gz{c:Cv}{p:Pt}[Rpd p]:em c p=true↔bif c.1 then uU (ciC c) (pR p)else sL (lnC c) (pR p):=by
 unfold em;cases c.1
 ·exact Gd
 ·exact u9
theorem zl{q:Rat}(hq:q≠0){x y:RE}(h:of q*x=of q*y):x=y:=by
 have e:∀z:RE,of q⁻¹*(of q*z)=z:=λz=>by
  rw[<-mul_assoc,<-bS,Rat.inv_mul_cancel _ hq,Jz,one_mul]
 rw[<-e x,h,e y]
theorem aeY(a p q x y:RE):a*(p*x+q*y)=p*(a*x)+a*q*y:=by grind
theorem aeB(p a b x y:RE):p*(a*x+b*y)=p*(a*x)+b*p*y:=by grind
theorem aeD(b p q x y:RE):b*(p*x+q*y)=b*p*x+q*(b*y):=by grind
theorem aeW(q a b x y:RE):q*(a*x+b*y)=a*q*x+q*(b*y):=by grind
theorem YU{l m:Ln}(hl:l.1≠0\/l.2.1≠0)(h:oK l m=true){v:PE}(hv:sL l v):sL m v:=by
 unfold oK at h;obtain⟨h1,h23⟩:=afz.1 h;obtain⟨h2,h3⟩:=afz.1 h23;have h1:=afp h1;have h2:=afp h2;have h3:=afp h3;unfold sL at*
 rcases hl with ha|hb
 ·refine zl ha ?_;rw[aeY,<-bS l.1 m.2.1,h1,bS,<-aeB,hv,<-bS,<-bS,h2,ahk]
 ·refine zl hb ?_;rw[aeD,<-bS l.2.1 m.1,<-h1,bS,<-aeW,hv,<-bS,<-bS,h3,ahk]
theorem Rx{l m:Ln}(h:oK l m=true):oK m l=true:=by
 unfold oK at*
 obtain⟨h1,h23⟩:=afz.1 h;obtain⟨h2,h3⟩:=afz.1 h23;have h1:=afp h1;have h2:=afp h2;have h3:=afp h3;rw[dT (show m.1*l.2.1=m.2.1*l.1 by grind),dT (show m.1*l.2.2=m.2.2*l.1 by grind),dT (show m.2.1*l.2.2=m.2.2*l.2.1 by grind)];rfl
theorem V5{c d:Ln}(h:qy c d=true):c=d:=by
 unfold qy at h;obtain⟨h1,h23⟩:=afz.1 h;obtain⟨h2,h3⟩:=afz.1 h23;exact ais (afp h1) (ais (afp h2) (afp h3))
theorem xg{c d:Cv}(h:cG c d=true):c.1=d.1:=by
 unfold cG at h;cases e:c.1==d.1
 ·rw[e]at h;cases h
 ·exact agl.1 e
theorem EX{c d:Cv}(h:cG c d=true)(ha:c.1=true):ciC c=ciC d:=by
 have e:=xg h;unfold cG at h;rw[<-e,ha]at h;exact V5 h
theorem Oi{c d:Cv}(h:cG c d=true)(ha:c.1=false):oK (lnC c) (lnC d)=true:=by
 have e:=xg h;unfold cG at h;rw[<-e,ha]at h;exact h
theorem vF{c d:Cv}(h:cG c d=true):cG d c=true:=by
 have e:=xg h;unfold cG;rw[<-e,beq_self_eq_true,cond_true];cases ha:c.1
 ·exact Rx (Oi h ha)
 ·rw[cond_true,EX h ha];unfold qy;rw[dT rfl,dT rfl,dT rfl];rfl
theorem m6{c d:Cv}(hc:Crp c)(h:cG c d=true){p:Pt}[Rpd p](hp:em c p=true):em d p=true:=by
 have e:=xg h;rw[gz]at*
 rw[<-e];cases ha:c.1
 ·rw[ha,cond_false]at hp;exact YU (hc.l ha) (Oi h ha) hp
 ·rw[ha,cond_true]at hp;rw[cond_true,<-EX h ha];exact hp
theorem supF_eq{c:Cv}{p q:Pt}[Rpd p][Rpd q](e:pR p=pR q)(h:em c p=true):em c q=true:=by
 rw[gz]at*
 rw[<-e];exact h
end RE
theorem ga{c:Cv}(h:Crp c){p q r:Pt}(hp:Sp c p)(hq:Sp c q)(hr:Sp c r)(e:aF p q=0):bz c p r=bz c q r/\bz c r p=bz c r q:=by
 obtain⟨K,lt,κ,f,hl,hc,ho,hk⟩:=se h;have ek:=(hk p q hp hq).2 e;rw[ho p r hp hr,ho q r hq hr,ho r p hr hp,ho r q hr hq,ek];exact⟨rfl,rfl⟩
theorem abv{c:Cv}{p q:Pt}(hp:Sp c p)(hq:Rpd q)(e:aF p q=0):Sp c q:=by
 have:=hp.1;exact⟨hq,RE.supF_eq (RE.cmpP_0.1 e) hp.2⟩
theorem D0{p:Pt}(_h:Rpd p):aF p p=0:=RE.cmpP_0.2 rfl
theorem mt{p q:Pt}[Rpd p][Rpd q](e:aF p q=0):aF q p=0:=RE.cmpP_0.2 (RE.cmpP_0.1 e).symm
theorem H5{p q r:Pt}[Rpd p][Rpd q][Rpd r](e:aF p q=0)(e':aF q r=0):aF p r=0:=RE.cmpP_0.2 ((RE.cmpP_0.1 e).trans (RE.cmpP_0.1 e'))
theorem Du{c:Cv}(h:Crp c){p q:Pt}(hp:Rpd p)(hq:Rpd q)(e:aF p q=0)(ho:onR c p=true):onR c q=true:=by
 obtain⟨h1,h2,h3⟩:=(nK h hp).1 ho;have sp:Sp c p:=⟨hp,h1⟩
 have sq:=abv sp hq e;rw[nK h hq];rw[(ga h sp sq h.f e).1]at h2;rw[(ga h sp sq h.t e).2]at h3;exact⟨sq.2,h2,h3⟩
theorem Hk{c:Cv}(h:Crp c){p q:Pt}(hp:Rpd p)(hq:Rpd q)(e:aF p q=0):onR c p=onR c q:=by
 cases h1:onR c p
 ·cases h2:onR c q
  ·rfl
  ·rw[Du h hq hp (mt e) h2]at h1;cases h1
 ·rw[Du h hp hq e h1]
theorem CC{c:Cv}{x:BP}(hx:Rpd (dec x)):∀{r:List BP},∃y∈fu c r x,aF (dec y) (dec x)=0
 |[]=>⟨x,by simp[fu],RE.cmpP_0.2 rfl⟩
 |z::r=>by
  simp only[fu];cases decide (bz c (dec z) (dec x)<0)
  ·cases hz:aF (dec z) (dec x)==0
   ·exact⟨x,by simp,RE.cmpP_0.2 rfl⟩
   ·exact⟨z,by simp,agl.1 hz⟩
  ·obtain⟨y,hy,e⟩:=CC (c:=c) hx (r:=r);exact⟨y,afw _ hy,e⟩
theorem CE{c:Cv}{x:BP}(hx:Rpd (dec x)):∀{l r:List BP},x∈l->∃y∈l.foldl (fu c) r,aF (dec y) (dec x)=0
 |[],_,h=>by cases h
 |z::l,r,h=>by
  rw[ag7];rcases afy.1 h with e|e
  ·obtain⟨y,hy,e2⟩:=CC (c:=c) hx (r:=r);exact⟨y,Cq (by rw[<-e];exact hy),e2⟩
  ·exact CE hx e
theorem Lo{c:Cv}{x:BP}{l:List BP}(hx:Rpd (dec x))(h:x∈l):∃y∈fM c l,aF (dec y) (dec x)=0:=CE hx h
section
def nF(c d:BCU):List BP:=bif cG (dC c) (dC d)then [c.2.2.2.2.1,c.2.2.2.2.2,d.2.2.2.2.1,d.2.2.2.2.2]else(iu (dC c) (dC d)).map enc
def gN(c d:BCU)(p:BP):Bool:=gT (dC c) (dec p)&&gT (dC d) (dec p)
def dY(c d:BCU):List BP:=bR (dC c) ((nF c d).filter (gN c d))
theorem uj{c:BCU}(h:DS c):(c.1=true->BdC (ciC (dC c))/\0<(ciC (dC c)).2.2)/\(c.1=false->BdL (lnC (dC c))/\((lnC (dC c)).1≠0\/(lnC (dC c)).2.1≠0)):=by
 refine⟨λe=>?_,λe=>?_⟩
 ·obtain⟨l,e1,bl,nl⟩:=cN (h.1 e);show BdC (dec c.2.2.1)/\_;rw[show ciC (dC c)=dec c.2.2.1 from rfl,e1,aB];exact⟨bl,nl⟩
 ·obtain⟨l,e1,bl,nl⟩:=d8 (h.2 e);show BdL (dec c.2.1)/\_;rw[show lnC (dC c)=dec c.2.1 from rfl,e1,aB];exact⟨bl,nl⟩
namespace RE
theorem supM_on{c d:BCU}(hc:DS c)(hd:DS d){p:Pt}(hp:p∈iu (dC c) (dC d)):Bd p 1200/\Rpd p/\em (dC c) p=true/\em (dC d) p=true:=by
 obtain⟨c1,c2⟩:=uj hc;obtain⟨d1,d2⟩:=uj hd;have ec:(dC c).1=c.1:=rfl;have ed:(dC d).1=d.1:=rfl;unfold iu at hp;rw[ec,ed]at hp;cases ha:c.1<;>cases hb:d.1<;>rw[ha,hb]at hp
 ·have i1:=(c2 ha).1;have i2:=(d2 hb).1;have hp:p∈pO (lnC (dC c)) (lnC (dC d)):=hp;obtain⟨b,r⟩:=vO.2 p hp;obtain⟨o1,o2⟩:=Xo hp;refine⟨b.mono (by decide),r,?_,?_⟩
  ·rw[gz,ec,ha];exact o1
  ·rw[gz,ed,hb];exact o2
 ·have i1:=(c2 ha).1;have i2:=(d1 hb).1;have hp:p∈lH (lnC (dC c)) (ciC (dC d)):=hp;obtain⟨b,r⟩:=rV.2 p hp;obtain⟨o1,o2⟩:=Of (c2 ha).2 hp;refine⟨b,r,?_,?_⟩
  ·rw[gz,ec,ha];exact o1
  ·rw[gz,ed,hb];exact o2
 ·have i1:=(c1 ha).1;have i2:=(d2 hb).1;have hp:p∈lH (lnC (dC d)) (ciC (dC c)):=hp;obtain⟨b,r⟩:=rV.2 p hp;obtain⟨o1,o2⟩:=Of (d2 hb).2 hp;refine⟨b,r,?_,?_⟩
  ·rw[gz,ec,ha];exact o2
  ·rw[gz,ed,hb];exact o1
 ·have i1:=(c1 ha).1;have i2:=(d1 hb).1;have hp:p∈yk (ciC (dC c)) (ciC (dC d)):=hp;unfold yk at hp;cases hq:jb (ciC (dC c)) (ciC (dC d))<;>rw[hq]at hp
  ·have i3:BdL (nz (ciC (dC c)) (ciC (dC d))):=v9;obtain⟨b,r⟩:=rV.2 p hp;obtain⟨o1,o2⟩:=Of (EM hq) hp;refine⟨b,r,?_,?_⟩
   ·rw[gz,ec,ha];exact o2
   ·rw[gz,ed,hb];exact Xv o1 o2
  ·cases hp
end RE
open RE
theorem gdN.crp{c:BCU}(h:gdN c):Crp (dC c):=qf h.gd
theorem gdN.ne{c:BCU}(h:gdN c):aF (frC (dC c)) (toC (dC c))≠0:=h.2.2.2
theorem gdN.fr{c:BCU}(h:gdN c):okP 580 c.2.2.2.2.1:=h.1.1.2.2.1
theorem gdN.to{c:BCU}(h:gdN c):okP 580 c.2.2.2.2.2:=h.1.1.2.2.2
theorem GN{c d:BCU}(hc:gdN c)(hd:gdN d):(nF c d).length<=4/\∀x∈nF c d,okP 1200 x/\Spb (dC c) x/\Spb (dC d) x:=by
 have kc:=hc.crp;have kd:=hd.crp;unfold nF;cases hs:cG (dC c) (dC d)
 ·refine⟨?_,λx hx=>?_⟩
  ·simp only[cond_false,agS];have:∀l c,[BdL l]->[BdC c]->(lH l c).length<=4:=λl c _ _=>afA rV.1 (by decide);obtain⟨c1,c2⟩:=uj hc.1.2;obtain⟨d1,d2⟩:=uj hd.1.2;have ec:(dC c).1=c.1:=rfl;have ed:(dC d).1=d.1:=rfl;unfold iu;rw[ec,ed];cases ha:c.1<;>cases hb:d.1
   ·have i1:=(c2 ha).1;have i2:=(d2 hb).1;exact afA vO.1 (by decide)
   ·have i1:=(c2 ha).1;have i2:=(d1 hb).1;exact this _ _
   ·have i1:=(c1 ha).1;have i2:=(d2 hb).1;exact this _ _
   ·have i1:=(c1 ha).1;have i2:=(d1 hb).1;show(yk _ _).length<=4;unfold yk;cases hq:jb (ciC (dC c)) (ciC (dC d))
    ·have i3:BdL (nz (ciC (dC c)) (ciC (dC d))):=v9;exact this _ _
    ·exact ahn _
  ·obtain⟨p,hp,rfl⟩:=agE.1 hx;obtain⟨b,r,o1,o2⟩:=supM_on hc.1.2 hd.1.2 hp;refine⟨afp (aQ (by decide) (by decide)),?_,?_⟩
   ·unfold Spb;rw[aB];exact⟨r,o1⟩
   ·unfold Spb;rw[aB];exact⟨r,o2⟩
 ·have hs':=vF hs;refine⟨by simp,λx hx=>?_⟩;have:x=c.2.2.2.2.1\/x=c.2.2.2.2.2\/x=d.2.2.2.2.1\/x=d.2.2.2.2.2:=by simpa using hx
  have up:∀{x},okP 580 x->okP 1200 x:=λh=>cp h (by decide) (by decide);rcases this with e|e|e|e<;>rw[e]
  ·have i:Rpd (dec c.2.2.2.2.1:Pt):=kc.f.1;exact⟨up hc.fr,kc.f,kc.f.1,m6 kc hs kc.f.2⟩
  ·have i:Rpd (dec c.2.2.2.2.2:Pt):=kc.t.1;exact⟨up hc.to,kc.t,kc.t.1,m6 kc hs kc.t.2⟩
  ·have i:Rpd (dec d.2.2.2.2.1:Pt):=kd.f.1;exact⟨up hd.fr,⟨kd.f.1,m6 kd hs' kd.f.2⟩,kd.f⟩
  ·have i:Rpd (dec d.2.2.2.2.2:Pt):=kd.t.1;exact⟨up hd.to,⟨kd.t.1,m6 kd hs' kd.t.2⟩,kd.t⟩
theorem lX{c d:BCU}(hc:gdN c)(hd:gdN d){x:BP}(hx:x∈dY c d):x∈nF c d/\okP 1200 x/\Spb (dC c) x/\Spb (dC d) x/\onR (dC c) (dec x)=true/\onR (dC d) (dec x)=true:=by
 obtain⟨hm,hk⟩:=agV.1 (dv hx);obtain⟨h0,h1,h2⟩:=(GN hc hd).2 x hm;obtain⟨k1,k2⟩:=afz.1 hk;refine⟨hm,h0,h1,h2,?_,?_⟩
 ·rw[<-eU hc.crp h1.1];exact afz.2 ⟨h1.2,k1⟩
 ·rw[<-eU hd.crp h2.1];exact afz.2 ⟨h2.2,k2⟩
theorem Rr{c d:BCU}{x:BP}(hc:gdN c)(hd:gdN d)(hr:Rpd (dec x:Pt))(h1:onR (dC c) (dec x)=true)(h2:onR (dC d) (dec x)=true):gN c d x=true:=by
 rw[<-eU hc.crp hr]at h1;rw[<-eU hd.crp hr]at h2;exact afz.2 ⟨(afz.1 h1).2,(afz.1 h2).2⟩
theorem YX{c d:BCU}(hc:gdN c)(hd:gdN d):∀x∈(nF c d).filter (gN c d),Rpd (dec x:Pt)/\onP (dC c) (dec x)=true:=λx hx=>by
 obtain⟨hm,hk⟩:=agV.1 hx;obtain⟨h0,h1,h2⟩:=(GN hc hd).2 x hm;exact⟨h1.1,afz.2 ⟨h1.2,(afz.1 hk).1⟩⟩
end
section
open RE
def sQ(c:BCU):BP->List BP->List BCU
 |f,[]=>[fc c f c.2.2.2.2.2]
 |f,p::r=>bif cZ p c.2.2.2.2.1||cZ p c.2.2.2.2.2 then sQ c f r else fc c f p::sQ c p r
def lK(c:BCU)(l:List BP):List BCU:=sQ c c.2.2.2.2.1 (bR (dC c) l)
def Ip(c:BCU)(l:List BP):Bool:=l.any λp=>!onP (dC c) (dec p)
def gK(c:BCU)(l:List BP):List BCU:=bif Ip c l then []else lK c l
def De(c:BCU)(l:List BP):Int:=bif Ip c l then 1 else 0
def nL(c:BCU)(l:List BP):List BP:=l.filter λp=>!(cZ p c.2.2.2.2.1||cZ p c.2.2.2.2.2)
def eH(c:BCU)(l:List BP):List BP:=c.2.2.2.2.1::(nL c (bR (dC c) l)++[c.2.2.2.2.2])
theorem wF(c:BCU):∀(L:List BP) (f:BP),sQ c f L=fj c (f::(nL c L++[c.2.2.2.2.2]))
 |[],f=>rfl
 |p::r,f=>by
  unfold sQ nL;rw[ag0];cases h:cZ p c.2.2.2.2.1||cZ p c.2.2.2.2.2
  ·have:=wF c r p;simp only[cond_false,Bool.not_false,if_true];rw[this];rfl
  ·have:=wF c r f;simp only[cond_true,Bool.not_true,ahM,if_false];exact this
theorem so(c:BCU)(l:List BP):lK c l=fj c (eH c l):=wF c _ _
theorem vM(c:BCU):∀s:List BP,(fj c s).length=s.length-1
 |[]=>rfl
 |[_]=>rfl
 |x::y::r=>by
  have:=vM c (y::r);simp only[fj,afD]at*
  omega
theorem Fs(c:BCU):∀(s:List BP) (i:Nat) (p:BCU),(fj c s)[i]?=some p->∃x y,s[i]?=some x/\s[i+1]?=some y/\p=fc c x y
 |[],_,_,h=>by simp[fj]at h
 |[_],_,_,h=>by simp[fj]at h
 |x::y::r,0,p,h=>by
  simp only[fj,agb,afv]at h;exact⟨x,y,rfl,rfl,h.symm⟩
 |x::y::r,i+1,p,h=>by
  simp only[fj,afP]at h;obtain⟨a,b,h1,h2,h3⟩:=Fs c (y::r) i p h;exact⟨a,b,by simpa using h1,by simpa using h2,h3⟩
section
variable {c:BCU} (h:gdN c) {l:List BP} (ho:∀x∈l,Rpd (dec x:Pt)/\onR (dC c) (dec x)=true)
include h ho
theorem xl:Ip c l=false:=by
 unfold Ip;rw[List.any_eq_false];intro x hx;obtain⟨r,o⟩:=ho x hx;rw[eU h.crp r,o];simp
theorem E9:oL (dC c) (bR (dC c) l)/\∀x∈l,∃y∈bR (dC c) l,aF (dec y) (dec x)=0:=If h.crp h.ne λx hx=>⟨(ho x hx).1,by rw[eU h.crp (ho x hx).1];exact(ho x hx).2⟩
omit h ho in
theorem sJ{x:BP}(hx:x∈eH c l):x=c.2.2.2.2.1\/x=c.2.2.2.2.2\/(x∈bR (dC c) l/\aF (dec x) (dec c.2.2.2.2.1)≠0/\aF (dec x) (dec c.2.2.2.2.2)≠0):=by
 unfold eH at hx;rcases afy.1 hx with e|e
 ·exact .inl e
 ·rcases afL.1 e with e|e
  ·obtain⟨m1,m2⟩:=agV.1 e;refine .inr (.inr ⟨m1,?_,?_⟩)
   ·intro g;have:cZ x c.2.2.2.2.1=true:=agl.2 g;rw[this]at m2;simp at m2
   ·intro g;have:cZ x c.2.2.2.2.2=true:=agl.2 g;rw[this]at m2;simp at m2
  ·exact .inr (.inl (ago.1 e))
theorem sP:∀x∈eH c l,Spb (dC c) x/\onR (dC c) (dec x)=true:=λx hx=>by
 rcases sJ hx with e|e|⟨e,_⟩
 ·rw[e];exact⟨h.crp.f,(JN h).1⟩
 ·rw[e];exact⟨h.crp.t,(JN h).2⟩
 ·obtain⟨r,o⟩:=ho x (dv e);exact⟨⟨r,((nK h.crp r).1 o).1⟩,o⟩
theorem vp:oL (dC c) (eH c l):=by
 have k:=h.crp;have o:=pe k;have sp:=sP h ho
 have hmid:∀x∈nL c (bR (dC c) l),bz (dC c) (frC (dC c)) (dec x)<0/\bz (dC c) (dec x) (toC (dC c))<0:=λx hx=>by
  have hx':x∈eH c l:=by
   unfold eH;exact afw _ (ags _ hx)
  obtain⟨m1,m2⟩:=agV.1 hx;obtain⟨s1,o1⟩:=sp x hx';have hr:=s1.1;obtain⟨_,g1,g2⟩:=(nK k hr).1 o1
  have n1:aF (dec x) (frC (dC c))≠0:=λg=>by
   have:cZ x c.2.2.2.2.1=true:=agl.2 g;rw[this]at m2;simp at m2
  have n2:aF (dec x) (toC (dC c))≠0:=λg=>by
   have:cZ x c.2.2.2.2.2=true:=agl.2 g;rw[this]at m2;simp at m2
  constructor
  ·rcases o.tri s1 k.f with e|e|e
   ·exact absurd e g1
   ·exact absurd e n1
   ·exact e
  ·rcases o.tri s1 k.t with e|e|e
   ·exact e
   ·exact absurd e n2
   ·exact absurd e g2
 unfold eH;refine afK.2 ⟨λx hx=>?_,?_⟩
 ·rcases afL.1 hx with e|e
  ·exact(hmid x e).1
  ·rw[ago.1 e];exact SF h
 ·refine List.pairwise_append.2 ⟨List.Pairwise.filter _ (E9 h ho).1,by simp,λx hx y hy=>?_⟩;rw[ago.1 hy];exact(hmid x hx).2
theorem Kr(h5:∀x∈l,okP 580 x):eqL (eH c l) (mz c l):=by
 have k:=h.crp;have ho5:∀p∈l,okP 580 p/\onR (dC c) (dec p)=true:=λp hp=>⟨h5 p hp,(ho p hp).2⟩
 have has:∀x,Rpd (dec x:Pt)->(x=c.2.2.2.2.1\/x=c.2.2.2.2.2\/x∈l)->∃b∈mz c l,aF (dec x) (dec b)=0:=λx hr hx=>by
  obtain⟨y,hy,e⟩:=Lo (c:=dC c) (l:=[c.2.2.2.2.1,c.2.2.2.2.2]++l) hr (by
   rcases hx with e|e|e
   ·rw[e];simp
   ·rw[e];simp
   ·exact ag9 _ e)
  have ry:=(tg h ho5 y hy).2.1;exact⟨y,hy,mt e⟩
 refine M0 k (λx hx=>(sP h ho x hx).1) (λx hx=>(tg h ho5 x hx).2) (vp h ho) (EC h ho5) (λa ha=>?_) (λb hb=>?_)
 ·refine has a (sP h ho a ha).1.1 ?_;rcases sJ ha with e|e|⟨e,_⟩
  ·exact .inl e
  ·exact .inr (.inl e)
  ·exact .inr (.inr (dv e))
 ·have mF:c.2.2.2.2.1∈eH c l:=by unfold eH;simp
  have mT:c.2.2.2.2.2∈eH c l:=by unfold eH;simp
  rcases Bj hb with e|e|e
  ·exact⟨_,mF,by rw[e];exact D0 h.crp.f.1⟩
  ·exact⟨_,mT,by rw[e];exact D0 h.crp.t.1⟩
  ·have rb:=(ho b e).1;obtain⟨y,hy,ey⟩:=(E9 h ho).2 b e;have ry:=(ho y (dv hy)).1;cases h1:cZ y c.2.2.2.2.1
   ·cases h2:cZ y c.2.2.2.2.2
    ·refine⟨y,?_,ey⟩;unfold eH;refine afw _ (ags _ (agV.2 ⟨hy,?_⟩));rw[h1,h2];rfl
    ·have g:=agl.1 h2;have rt:=h.crp.t.1;exact⟨_,mT,H5 (p:=toC (dC c)) (mt g) ey⟩
   ·have g:=agl.1 h1;have rf:=h.crp.f.1;exact⟨_,mF,H5 (p:=frC (dC c)) (mt g) ey⟩
end
end
section
open RE
def frB(c:BCU):BP:=c.2.2.2.2.1
def toB(c:BCU):BP:=c.2.2.2.2.2
def uO(d p:BCU):Bool:=(onP (dC d) (dec (frB p))&&onP (dC d) (dec (toB p)))&&(bif d.1 then !cZ (frB (dH p)) (toB (dH d))&&decide (eI bj (ptd (dec (dH d).2.2.1) (dec (frB (dH p)))) (ptd (dec (dH d).2.2.1) (dec (toB (dH p)))) (ptd (dec (dH d).2.2.1) (dec (toB (dH d))))<=0)else true)
def uv(c d:BCU)(l:List BP):Bool:=(gK c l).any (uO d)
def qV(c d:BCU):Bool:=cG (dC c) (dC d)&&uv c d (dY c d)
theorem P6{p q r:Pt}[Rpd p][Rpd q][Rpd r]:yg (aF r p) (aF p q)=yg (aF q p) (aF p r):=by
 rw[jX (p:=r) (q:=p),jX (p:=q) (q:=p)];have h1:=lc p r;have h2:=lc p q;unfold yg;rw[Bool.eq_iff_iff];simp only[aho,agl];omega
theorem Zs{d:BCU}(hf:Rpd (frC (dC d)))(ht:Rpd (toC (dC d))){p:Pt}(hp:Rpd p):onP (dC (gb d)) p=onP (dC d) p:=by
 obtain⟨ar,li,ci,cw,fr,to⟩:=d;unfold onP;have e1:em (dC (gb (ar,li,ci,cw,fr,to))) p=em (dC (ar,li,ci,cw,fr,to)) p:=rfl;rw[e1];congr 1;cases ar
 ·show yg (aF (dec to) p) (aF p (dec fr))=yg (aF (dec fr) p) (aF p (dec to));have i1:Rpd (dec fr):=hf;have i2:Rpd (dec to):=ht;exact P6
 ·cases cw<;>rfl
theorem gdN.rev{d:BCU}(h:gdN d):gdN (gb d):=by
 obtain⟨⟨h1,h2,h3⟩,h4,h5,h6⟩:=h;have r1:=fd h1.2.2.1;have r2:=fd h1.2.2.2;refine⟨⟨Eu _ h1,h2,h3⟩,h5,h4,λe=>h6 ?_⟩;have i1:Rpd (frC (dC d)):=r1;have i2:Rpd (toC (dC d)):=r2;exact mt (p:=toC (dC d)) (q:=frC (dC d)) e
theorem u4{d:BCU}(h:gdN d){p:Pt}(hp:Rpd p):onR (dC (gb d)) p=onR (dC d) p:=by
 rw[<-eU h.rev.crp hp,<-eU h.crp hp,Zs h.crp.f.1 h.crp.t.1 hp]
theorem vh{e:Cv}(k:Crp e)(ha:e.1=true)(hw:cwC e=false){x y:Pt}(sx:Sp e x)(sy:Sp e y):eI bj (ptd (ciC e) (frC e)) (ptd (ciC e) x) (ptd (ciC e) y)=bz e x y:=by
 have i1:=sx.1;have i2:=sy.1;have i3:=k.f.1;rw[Fk (k.q ha) (fb ha k.f) (fb ha sx) (fb ha sy)];unfold bz;rw[ha,hw];rfl
theorem HS{d:BCU}(h:gdN d){p q:Pt}(hp:Rpd p)(hq:Rpd q)(op:onR (dC d) p=true)(oq:onR (dC d) q=true):bz (dC (gb d)) p q<0↔bz (dC d) q p<0:=by
 have op':=op;have oq':=oq;rw[<-u4 h hp]at op';rw[<-u4 h hq]at oq';rw[<-eU h.crp hp]at op;rw[<-eU h.crp hq]at oq;rw[<-eU h.rev.crp hp]at op';rw[<-eU h.rev.crp hq]at oq';rw[<-ord_eq h.rev.crp h.rev.ne hp hq op' oq',<-ord_eq h.crp h.ne hq hp oq op];have hf:=h.crp.f;have ht:=h.crp.t;have hq0:=h.crp.q;obtain⟨ar,li,ci,cw,fr,to⟩:=d;unfold uS;cases ar
 ·show aF p q*aF (dec fr) (dec to)<0↔aF q p*aF (dec to) (dec fr)<0;have i1:Rpd (dec fr):=hf.1;have i2:Rpd (dec to):=ht.1;rw[jX (p:=q),jX (p:=dec to),Int.neg_mul_neg]
 ·have sp:=(afz.1 op).1;have sq:=(afz.1 oq).1;cases cw
  ·have k:=h.crp;have o:=pe k;have e1:=vh k rfl rfl ⟨hp,sp⟩ ⟨hq,sq⟩;have e2:=vh k rfl rfl ⟨hq,sq⟩ ⟨hp,sp⟩;have le:=o.le ⟨hp,sp⟩ ⟨hq,sq⟩;show-eI bj (ptd (dec ci) (dec fr)) (ptd (dec ci) p) (ptd (dec ci) q)<0↔eI bj (ptd (dec ci) (dec fr)) (ptd (dec ci) q) (ptd (dec ci) p)<0;have e1:eI bj (ptd (dec ci) (dec fr)) (ptd (dec ci) p) (ptd (dec ci) q)=_:=e1;have e2:eI bj (ptd (dec ci) (dec fr)) (ptd (dec ci) q) (ptd (dec ci) p)=_:=e2;rw[e1,e2];by_cases g:bz (dC (true,li,ci,false,fr,to)) q p<0
   ·have:¬bz (dC (true,li,ci,false,fr,to)) p q<=0:=λg'=>le.1 g' g;exact⟨λ_=>g,λ_=>by omega⟩
   ·have:bz (dC (true,li,ci,false,fr,to)) p q<=0:=le.2 g;exact⟨λ_=>by omega,λg'=>absurd g' g⟩
  ·have k:=h.rev.crp;have o:=pe k;have e1:=vh k rfl rfl ⟨hp,sp⟩ ⟨hq,sq⟩;have e2:=vh k rfl rfl ⟨hq,sq⟩ ⟨hp,sp⟩;have le:=o.le (p:=q) (q:=p) ⟨hq,sq⟩ ⟨hp,sp⟩;show eI bj (ptd (dec ci) (dec to)) (ptd (dec ci) p) (ptd (dec ci) q)<0↔ -eI bj (ptd (dec ci) (dec to)) (ptd (dec ci) q) (ptd (dec ci) p)<0;have e1:eI bj (ptd (dec ci) (dec to)) (ptd (dec ci) p) (ptd (dec ci) q)=_:=e1;have e2:eI bj (ptd (dec ci) (dec to)) (ptd (dec ci) q) (ptd (dec ci) p)=_:=e2;rw[e1,e2];by_cases g:bz (dC (gb (true,li,ci,true,fr,to))) p q<0
   ·have:¬bz (dC (gb (true,li,ci,true,fr,to))) q p<=0:=λg'=>le.1 g' g;exact⟨λ_=>by omega,λ_=>g⟩
   ·have:bz (dC (gb (true,li,ci,true,fr,to))) q p<=0:=le.2 g;exact⟨λg'=>absurd g' g,λ_=>by omega⟩
theorem Se{α:Type}{lt:α->α->Prop}(h:lO lt){o t u w:α}(_hot:o≠t)(huw:u≠w)(hu:¬cLt lt o t u)(hw:¬cLt lt o t w):(u≠t/\¬cLt lt u t w)↔cLt lt o u w:=by
 have m1:o∈[o,t,u,w]:=by simp
 have m2:t∈[o,t,u,w]:=by simp
 have m3:u∈[o,t,u,w]:=by simp
 have m4:w∈[o,t,u,w]:=by simp
 have ne:∀{a b:α},a∈[o,t,u,w]->b∈[o,t,u,w]->(a≠b↔rk lt [o,t,u,w] a≠rk lt [o,t,u,w] b):=λ{a b} ha hb=>by
  constructor
  ·intro e;rcases h.tri a b with g|g|g
   ·have:=rW h g ha;omega
   ·exact absurd g e
   ·have:=rW h g hb;omega
  ·intro e g;rw[g]at e;exact e rfl
 rw[ne m3 m4]at huw;rw[ne m3 m2];unfold cLt at*
 rw[np h m2 m1,np h m3 m1,np h m2 m3]at hu;rw[np h m2 m1,np h m4 m1,np h m2 m4]at hw;rw[np h m2 m3,np h m4 m3,np h m2 m4,np h m3 m1,np h m4 m1,np h m3 m4];omega
theorem GG{e:Cv}(k:Crp e)(hne:aF (frC e) (toC e)≠0)(ha:e.1=true)(hw:cwC e=false){x y:Pt}(sx:Sp e x)(sy:Sp e y)(ox:onR e x=true)(oy:onR e y=true)(hxy:aF x y≠0):
  ((aF x (toC e)==0)=false/\eI bj (ptd (ciC e) x) (ptd (ciC e) y) (ptd (ciC e) (toC e))<=0)↔bz e x y<0:=by
 obtain⟨κ,h1,h2⟩:=AK k ha;have hl:=GS RE.lt_lin;have hc:=λu=>xp RE.lt_lin RE.sg_cmpO u;have i1:=sx.1;have i2:=sy.1;have i3:=k.t.1;have ex:=h1 (pcC e x (toC e)) ha rfl rfl sx y (toC e) sy k.t
 have et:eI bj (ptd (ciC e) x) (ptd (ciC e) y) (ptd (ciC e) (toC e))=bz (pcC e x (toC e)) y (toC e):=by
  rw[Fk (k.q ha) (fb ha sx) (fb ha sy) (fb ha k.t)];unfold bz;rw[show(pcC e x (toC e)).1=true from ha,show cwC (pcC e x (toC e))=false from hw];rfl
 have ec:=h1 e ha rfl rfl k.f;obtain⟨_,x1,x2⟩:=(nK k sx.1).1 ox;obtain⟨_,y1,y2⟩:=(nK k sy.1).1 oy;rw[ec _ _ k.t sx,gW (zi hl _) (hc _)]at x2;rw[ec _ _ k.t sy,gW (zi hl _) (hc _)]at y2;have n1:κ (frC e)≠κ (toC e):=λg=>hne ((h2 _ _ k.f k.t).1 g);have n2:κ x≠κ y:=λg=>hxy ((h2 _ _ sx sy).1 g)
 have e3:(aF x (toC e)==0)=false↔κ x≠κ (toC e):=by
  rw[ag5,ne_eq,ne_eq,h2 _ _ sx k.t]
 rw[e3,et,ex,H3 (zi hl _) (hc _),ec x y sx sy,gW (zi hl _) (hc _)];exact Se hl n1 n2 x2 y2
theorem He{c d:BCU}(hc:gdN c)(hd:gdN d)(hs:cG (dC c) (dC d)=true){x y:BP}(sx:Spb (dC d) x)(sy:Spb (dC d) y)(hxy:bz (dC c) (dec x) (dec y)<0):
  uO d (fc c x y)=(onR (dC d) (dec x)&&onR (dC d) (dec y)&&decide (bz (dC (jE c d)) (dec x) (dec y)<0)):=by
 have e:=xg hs;have kd:=hd.crp;have kc:=hc.crp;have rx:=sx.1;have ry:=sy.1;have cx:Spb (dC c) x:=⟨rx,m6 kd (vF hs) sx.2⟩
 have cy:Spb (dC c) y:=⟨ry,m6 kd (vF hs) sy.2⟩
 have hne:aF (dec x) (dec y)≠0:=λg=>by
  rw[(qI kc).irr cx cy g]at hxy;omega
 unfold uO;rw[show dec (frB (fc c x y))=(dec x:Pt) from rfl,show dec (toB (fc c x y))=(dec y:Pt) from rfl,eU kd rx,eU kd ry];cases ox:onR (dC d) (dec x)
 ·rfl
 ·cases oy:onR (dC d) (dec y)
  ·rfl
  ·rw[agc,agc,agc];rw[Bool.eq_iff_iff,agW];cases ha:d.1
   ·have hca:c.1=false:=by rw[<-ha];exact e
    refine⟨λ_=>?_,λ_=>rfl⟩
    have key:bz (dC (jE c d)) (dec x) (dec y)=bz (dC c) (dec x) (dec y):=by
     have i1:Rpd (dec d.2.2.2.2.1:Pt):=kd.f.1;have i2:Rpd (dec d.2.2.2.2.2:Pt):=kd.t.1;have b1:=lc (dec c.2.2.2.2.1) (dec c.2.2.2.2.2);have b2:=lc (dec d.2.2.2.2.1) (dec d.2.2.2.2.2);have n1:aF (dec c.2.2.2.2.1) (dec c.2.2.2.2.2)≠0:=hc.ne;have n2:aF (dec d.2.2.2.2.1) (dec d.2.2.2.2.2)≠0:=hd.ne;have an:=jX (p:=(dec d.2.2.2.2.2:Pt)) (q:=dec d.2.2.2.2.1)
     have lin:∀b:BCU,b.1=false->bz (dC b) (dec x) (dec y)=bif decide (aF (dec b.2.2.2.2.1) (dec b.2.2.2.2.2)>0)then-aF (dec x) (dec y)else aF (dec x) (dec y):=λb hb=>by
      unfold bz;rw[show(dC b).1=false from hb];rfl
     unfold jE Cd;rw[hca];simp only[Bool.false_and,agc,Bool.not_false,cond_false];cases hq:aF (dec c.2.2.2.2.1) (dec c.2.2.2.2.2) !=aF (dec d.2.2.2.2.1) (dec d.2.2.2.2.2)
     ·have hq:aF (dec c.2.2.2.2.1) (dec c.2.2.2.2.2)=aF (dec d.2.2.2.2.1) (dec d.2.2.2.2.2):=by simpa using hq
      rw[cond_false,lin d ha,lin c hca,hq]
     ·have hq:aF (dec c.2.2.2.2.1) (dec c.2.2.2.2.2)≠aF (dec d.2.2.2.2.1) (dec d.2.2.2.2.2):=by simpa using hq
      rw[cond_true,lin (gb d) ha,lin c hca,show aF (dec (gb d).2.2.2.2.1) (dec (gb d).2.2.2.2.2)=aF (dec c.2.2.2.2.1) (dec c.2.2.2.2.2) by
       show aF (dec d.2.2.2.2.2) (dec d.2.2.2.2.1)=_;rw[an];omega]
    rw[key];exact hxy
   ·have hca:c.1=true:=by rw[<-ha];exact e
    rw[cond_true,afz,agW];have hci:ciC (dC c)=ciC (dC d):=EX hs hca
    have kk:∀b:BCU,gdN b->b.1=true->b.2.2.2.1=false->Spb (dC b) x->Spb (dC b) y->onR (dC b) (dec x)=true->onR (dC b) (dec y)=true->
      ((!cZ x (toB b))=true/\eI bj (ptd (dec b.2.2.1) (dec x)) (ptd (dec b.2.2.1) (dec y)) (ptd (dec b.2.2.1) (dec (toB b)))<=0↔bz (dC b) (dec x) (dec y)<0)/\
      ((!cZ y (toB b))=true/\eI bj (ptd (dec b.2.2.1) (dec y)) (ptd (dec b.2.2.1) (dec x)) (ptd (dec b.2.2.1) (dec (toB b)))<=0↔bz (dC b) (dec y) (dec x)<0):=λb hb h1 h2 s1 s2 o1 o2=>by
     refine⟨?_,?_⟩
     ·rw[<-GG hb.crp hb.ne h1 h2 s1 s2 o1 o2 hne,ag4];rfl
     ·rw[<-GG hb.crp hb.ne h1 h2 s2 s1 o2 o1 (λg=>hne (mt g)),ag4];rfl
    have hdr:=hd.rev;have ox':=ox;have oy':=oy;rw[<-u4 hd rx]at ox';rw[<-u4 hd ry]at oy';have sx':Spb (dC (gb d)) x:=⟨rx,sx.2⟩
    have sy':Spb (dC (gb d)) y:=⟨ry,sy.2⟩
    have rD:jE c d=bif c.2.2.2.1 !=d.2.2.2.1 then gb d else d:=by
     unfold jE Cd;rw[hca,ha];simp only[agc];cases c.2.2.2.1 !=d.2.2.2.1<;>rfl
    have ccB:∀b:BCU,dH b=bif b.2.2.2.1 then gb b else b:=λb=>rfl;rw[rD]
    have rcw:(gb d).2.2.2.1=!d.2.2.2.1:=by
     show(d.1&&!d.2.2.2.1)=_;rw[ha,agc]
    have pcw:(fc c x y).2.2.2.1=c.2.2.2.1:=rfl;rw[ccB,ccB,pcw];cases hcw:c.2.2.2.1<;>cases hdw:d.2.2.2.1
    ·exact(kk d hd ha hdw sx sy ox oy).1
    ·exact(kk (gb d) hdr ha (by rw[rcw,hdw];rfl) sx' sy' ox' oy').1
    ·refine(kk d hd ha hdw sx sy ox oy).2.trans ?_;exact(HS hd rx ry ox oy).symm
    ·refine(kk (gb d) hdr ha (by rw[rcw,hdw];rfl) sx' sy' ox' oy').2.trans ?_;exact HS hd ry rx oy ox
end
section
def wI(c d:BCU)(l:List BP):Prop:=gI c l/\okC 4000 d
instance (c d:BCU) (l:List BP):Decidable (wI c d l):=by unfold wI;infer_instance
theorem Yx(d:BCU):(dH d).1=d.1:=by
 unfold dH;cases d.2.2.2.1<;>rfl
theorem GK{k:Nat}{d:BCU}(h:okC k d):okC k (dH d):=by
 unfold dH;cases d.2.2.2.1
 ·exact h
 ·exact Eu k h
theorem Aq{c:BCU}(hc:okC 4000 c):∀{L:List BP} {f:BP},okP 4000 f->(∀x∈L,okP 4000 x)->∀p∈sQ c f L,okC 4000 p
 |[],f,hf,_,p,hp=>by
  rw[ago.1 hp];exact⟨hc.1,hc.2.1,hf,hc.2.2.2⟩
 |x::r,f,hf,hL,p,hp=>by
  have hx:=hL x (by simp);have hr:∀y∈r,okP 4000 y:=λy hy=>hL y (afw _ hy);unfold sQ at hp;cases h:cZ x c.2.2.2.2.1||cZ x c.2.2.2.2.2<;>rw[h]at hp
  ·rcases afy.1 hp with e|e
   ·rw[e];exact⟨hc.1,hc.2.1,hf,hx⟩
   ·exact Aq hc hx hr p e
  ·exact Aq hc hf hr p hp
theorem PB{c:BCU}{l:List BP}(h:gI c l):(gK c l).length<=20/\∀p∈gK c l,okC 4000 p:=by
 obtain⟨hc,hl,ho⟩:=h;have hs:∀x∈bR (dC c) l,okP 4000 x:=λx hx=>ho x (dv hx);have hn:(bR (dC c) l).length<=l.length:=jo
 have len:∀(L:List BP) (f:BP),(sQ c f L).length<=L.length+1:=by
  intro L;induction L with
  |nil=>intro f;simp[sQ]
  |cons x r ih=>
   intro f;unfold sQ;cases cZ x c.2.2.2.2.1||cZ x c.2.2.2.2.2
   ·have:=ih x;simp only[cond_false,afD];omega
   ·have:=ih f;simp only[cond_true,afD];omega
 unfold gK;cases Ip c l
 ·refine⟨?_,Aq hc hc.2.2.1 hs⟩;have:=len (bR (dC c) l) c.2.2.2.2.1;simp only[cond_false];unfold lK;omega
 ·exact⟨by simp,λp hp=>by cases hp⟩
def KR:List En:=[enT Ik,enT DC,enK Nv]
def WO:NT:=[((98,6),{keep:=[0,1,7,8],hl:=1}),((9,18),{keep:=[2,6,7,17,18,19],own:=[(6,39,tCU)],hl:=3}),((9,4),{keep:=[1,2,13],hl:=0}),((38,3),{keep:=[7],hl:=0}),((98,18),{keep:=[0,1,5,7,8,16],hl:=0})]
def B3:Ctx:=CX (ens KR) WO
def o0(c:BCU)(l:List BP)(s98_8:Int):Cfg:=⟨98,[.blk 0,.seq 25],[(0,.d (.sl tP) l),(1,.clo 39 [0]),(7,SI (l.length:Int)),(8,SI s98_8)],[.box 39 (Ty.split tCU c)],1,[⟨38,[.seq 4],3,2,[],1,none⟩,⟨9,[.seq 5,.seq 10],4,2,[(1,.d (.sl tP) l),(2,.box 0 0)],0,none⟩]⟩
def pn(c:BCU)(l:List BP)(s19:Int)(B1:BCU)(r2:List BCU):Cfg:=⟨9,[.blk 0,.seq 41],[(2,.box 0 0),(6,.own 2),(7,.box 1 0),(17,.d (.sl tP) (bR (dC c) l)),(18,SI ((bR (dC c) l).length:Int)),(19,SI s19)],[.box 39 (Ty.split tCU c),.box 39 (Ty.split tCU B1),.row 39 tCU r2],0,[]⟩
def acX(c:BCU)(l:List BP)(k:KT):OLR:=k 6 (o0 c l 0)
theorem acu(c:BCU)(l:List BP):RS B3 9 [.d tCU c,.d (.sl tP) l] (acX c l):=rsX
def nW(c:BCU)(l:List BP)(s98_8:Int)(k:KT):OLR:=match decide (s98_8<(l.length:Int))with|true=>(match aG l s98_8 with|some x1=>(match decide (okC 4000 c/\okP 4000 x1)with|true=>(match !(onP (dC c) (dec x1))with|true=>(match decide (s98_8>=0)with|true=>some [RV.d (.sl tCU) ([]),RV.d aiy 1]|false=>(match decide (gI c l)with|true=>none|false=>none))|false=>k 6 (o0 c l (i64.wrap (s98_8+1))))|false=>none)|none=>none)|false=>(match decide ((-1)>=0)with|true=>some [RV.d (.sl tCU) ([]),RV.d aiy 1]|false=>(match decide (gI c l)with|true=>k 18 (pn c l 0 c ([]))|false=>none))
theorem uH(c:BCU)(l:List BP)(s98_8:Int):RN B3 6 (o0 c l s98_8) (nW c l s98_8):=rnX
def ut(c:BCU)(l:List BP)(s19:Int)(B1:BCU)(r2:List BCU)(k:KT):OLR:=match decide (s19<((bR (dC c) l).length:Int))with|true=>(match aG (bR (dC c) l) s19 with|some x1=>(match decide (okP 4000 x1/\okP 4000 c.2.2.2.2.1)with|true=>(match aF (dec x1) (dec c.2.2.2.2.1)==0 with|true=>k 18 (pn c l (i64.wrap (s19+1)) B1 r2)|false=>(match decide (okP 4000 x1/\okP 4000 c.2.2.2.2.2)with|true=>(match aF (dec x1) (dec c.2.2.2.2.2)==0 with|true=>k 18 (pn c l (i64.wrap (s19+1)) B1 r2)|false=>dup (.b .l .l) (match decide ((r2.length+([(B1.1,(B1.2.1,(B1.2.2.1,(B1.2.2.2.1,(B1.2.2.2.2.1,x1)))))]).length)*1040<=140737488355328/\r2.length+([(B1.1,(B1.2.1,(B1.2.2.1,(B1.2.2.2.1,(B1.2.2.2.2.1,x1)))))]).length<=140737488355328)with|true=>k 18 (pn c l (i64.wrap (s19+1)) (B1.1,(B1.2.1,(B1.2.2.1,(B1.2.2.2.1,(x1,B1.2.2.2.2.2))))) (r2++([(B1.1,(B1.2.1,(B1.2.2.1,(B1.2.2.2.1,(B1.2.2.2.2.1,x1)))))])))|false=>none))|false=>none))|false=>none)|none=>none)|false=>(match decide ((r2.length+([B1]).length)*1040<=140737488355328/\r2.length+([B1]).length<=140737488355328)with|true=>some [RV.d (.sl tCU) (r2++([B1])),RV.d aiy 0]|false=>none)
theorem zG(c:BCU)(l:List BP)(s19:Int)(B1:BCU)(r2:List BCU):RN B3 18 (pn c l s19 B1 r2) (ut c l s19 B1 r2):=rnX
section
variable (c:BCU) (l:List BP) (h:gI c l)
include h
theorem HU:∀(L:List BP) (i:Nat),(bR (dC c) l).drop i=L->i<=(bR (dC c) l).length->∀(f:BP) (r2:List BCU),r2.length<=i->B3.Runs 18 (pn c l (i:Int) (fc c f c.2.2.2.2.2) r2) [.d (.sl tCU) (r2++sQ c f L),.d aiy (0:Int)]
 |[],i,hd,hi,f,r2,hr=>by
  have hn:(bR (dC c) l).length<=l.length:=jo;have hl:=h.2.1;have hlen:=congrArg List.length hd;rw[agZ,ahC]at hlen;refine zG _ _ _ _ _ ⟨0,?_⟩;unfold ut;rw[bO (by omega),afH,oY (by omega) (by omega)];rfl
 |x::r,i,hd,hi,f,r2,hr=>by
  have hn:(bR (dC c) l).length<=l.length:=jo;have hl:=h.2.1;have hlen:=congrArg List.length hd;rw[agZ,afD]at hlen;have hil:i<(bR (dC c) l).length:=by omega
  have hd2:=afC hil;rw[hd2]at hd;injection hd with e1 e2;have hx:okP 4000 x:=by rw[<-e1];exact h.2.2 _ (dv (afU hil))
  have g1:aG (bR (dC c) l) (i:Int)=some x:=by rw[am,afn hil,e1]
  have ih:=HU r (i+1) e2 (by omega);refine zG _ _ _ _ _ ?_;unfold ut sQ;rw[aY hil,g1,bH (by omega)];dsimp only;rw[dT (show okP 4000 x/\okP 4000 c.2.2.2.2.1 from⟨hx,h.1.2.2.1⟩),dT (show okP 4000 x/\okP 4000 c.2.2.2.2.2 from⟨hx,h.1.2.2.2⟩)];unfold cZ;cases q1:aF (dec x) (dec c.2.2.2.2.1)==0
  ·cases q2:aF (dec x) (dec c.2.2.2.2.2)==0
   ·obtain⟨n,hn⟩:=ih x (r2++[fc c f x]) (by simp;omega);refine⟨n,?_⟩;rw[afG]at hn;simp only[dV];rw[afH,oY (by omega) (by omega)];exact hn
   ·exact ih f r2 (by omega)
  ·exact ih f r2 (by omega)
theorem XH:∀(j i:Nat),i+j=l.length->B3.Runs 6 (o0 c l (i:Int)) [.d (.sl tCU) (bif (l.drop i).any (λp=>!onP (dC c) (dec p))then []else lK c l),.d aiy (bif (l.drop i).any (λp=>!onP (dC c) (dec p))then(1:Int)else 0)]:=by
 intro j;have hl:=h.2.1;induction j with
 |zero=>
  intro i hi;obtain⟨n,hn⟩:=HU c l h (bR (dC c) l) 0 rfl (ahn _) c.2.2.2.2.1 [] (afs _);refine uH _ _ _ ⟨n,?_⟩;unfold nW;rw[bO (by omega),sR (by omega)];dsimp only;rw[dF (show ¬(-1:Int)>=0 by decide),dT h];exact hn
 |succ j ih=>
  intro i hi;have hil:i<l.length:=by omega
  obtain⟨n,hn⟩:=ih (i+1) (by omega);refine uH _ _ _ ⟨n,?_⟩;unfold nW;rw[aY hil,am,afn hil,gU hil,List.any_cons,bH (by omega)];dsimp only;rw[dT (show okC 4000 c/\okP 4000 l[i] from⟨h.1,h.2.2 _ (afU _)⟩)];cases onP (dC c) (dec l[i])
  ·dsimp only[Bool.not_false];rw[dT (show(i:Int)>=0 by omega)];rfl
  ·exact hn
end
def adp:Cn 9 [tCU,(.sl tP)]:=cn λ(c:BCU) (l:List BP)=>lf (gI c l) [.d (.sl tCU) (gK c l),.d aiy (De c l)] λh=>by
 have q:=XH c l h l.length 0 (afY _);exact dm KR (acu _ _ q)
def XF:List En:=[enT Ik,enT DC,enL Sy,enT Kt]
def TP(d p:BCU)(_k:KT):OLR:=og (decide (okC 4000 d/\okP 4000 p.2.2.2.2.1)) (match !(onP (dC d) (dec p.2.2.2.2.1))with|true=>some [RV.d .bool false]|false=>(og (decide (okC 4000 d/\okP 4000 p.2.2.2.2.2)) (match !(onP (dC d) (dec p.2.2.2.2.2))with|true=>some [RV.d .bool false]|false=>(match !d.1 with|true=>some [RV.d .bool true]|false=>(og (decide (okP 4000 ((((((hid (dH p)).2).2).2).2).1)/\okP 4000 ((((((hid (dH d)).2).2).2).2).2))) (match aF (dec ((((((hid (dH p)).2).2).2).2).1)) (dec ((((((hid (dH d)).2).2).2).2).2))==0 with|true=>some [RV.d .bool false]|false=>(og (decide (ok Ln 300 ((((hid (dH d)).2).2).1)/\okP 4000 ((((((hid (dH p)).2).2).2).2).1)/\okP 4000 ((((((hid (dH p)).2).2).2).2).2)/\okP 4000 ((((((hid (dH d)).2).2).2).2).2))) (some [RV.d .bool (decide ((eI bj (ptd (dec ((((hid (dH d)).2).2).1)) (dec ((((((hid (dH p)).2).2).2).2).1))) (ptd (dec ((((hid (dH d)).2).2).1)) (dec ((((((hid (dH p)).2).2).2).2).2))) (ptd (dec ((((hid (dH d)).2).2).1)) (dec ((((((hid (dH d)).2).2).2).2).2))))<=0))]))))))))
def acL:Cn 176 [tCU,tCU]:=cn λ(d p:BCU)=>lf (okC 4000 d/\okC 4000 p) [.d .bool (uO d p)] λh=>by
 refine az XF (TP d p) ⟨0,?_⟩;obtain⟨hd,hp⟩:=h;have hd':=GK hd;have hp':=GK hp;unfold TP uO frB toB cZ;simp only[bL];rw[dT (show okC 4000 d/\okP 4000 p.2.2.2.2.1 from⟨hd,hp.2.2.1⟩),dT (show okC 4000 d/\okP 4000 p.2.2.2.2.2 from⟨hd,hp.2.2.2⟩)];cases onP (dC d) (dec p.2.2.2.2.1)
 ·rfl
 ·cases onP (dC d) (dec p.2.2.2.2.2)
  ·rfl
  ·cases ha:d.1
   ·rfl
   ·rw[dT (show okP 4000 (dH p).2.2.2.2.1/\okP 4000 (dH d).2.2.2.2.2 from⟨hp'.2.2.1,hd'.2.2.2⟩),dT (show ok Ln 300 (dH d).2.2.1/\okP 4000 (dH p).2.2.2.2.1/\okP 4000 (dH p).2.2.2.2.2/\okP 4000 (dH d).2.2.2.2.2 from⟨(hd'.1 ((Yx d).trans ha)).1,hp'.2.2.1,hp'.2.2.2,hd'.2.2.2⟩)];cases aF (dec (dH p).2.2.2.2.1) (dec (dH d).2.2.2.2.2)==0<;>rfl
def My:List En:=[enK adp,enT acL]
def Zj:NT:=[((211,6),{keep:=[0,1,7,8],hl:=2}),((77,5),{keep:=[17],hl:=0}),((174,3),{keep:=[7],hl:=0}),((211,18),{keep:=[0,1,5,7,8,16],hl:=0})]
def Oj:Ctx:=CX (ens My) Zj
def mv(c d:BCU)(l:List BP)(s211_8:Int):Cfg:=⟨211,[.blk 0,.seq 25],[(0,.d (.sl tCU) (gK c l)),(1,.clo 175 [1]),(7,SI ((gK c l).length:Int)),(8,SI s211_8)],[.box 39 (Ty.split tCU c),.box 39 (Ty.split tCU d)],2,[⟨174,[.seq 4],3,2,[],2,none⟩,⟨77,[.seq 6],5,2,[],0,none⟩]⟩
def SK(c d:BCU)(l:List BP)(k:KT):OLR:=og (decide (gI c l)) (k 6 (mv c d l 0))
theorem ac6(c d:BCU)(l:List BP):RS Oj 77 [.d tCU c,.d tCU d,.d (.sl tP) l] (SK c d l):=rsX
def mB(c d:BCU)(l:List BP)(s211_8:Int)(k:KT):OLR:=match decide (s211_8<((gK c l).length:Int))with|true=>(match aG (gK c l) s211_8 with|some x1=>(og (decide (okC 4000 d/\okC 4000 x1)) (match uO d x1 with|true=>some [RV.d .bool (decide (s211_8>=0))]|false=>k 6 (mv c d l (i64.wrap (s211_8+1)))))|none=>none)|false=>some [RV.d .bool (decide ((-1)>=0))]
theorem sA(c d:BCU)(l:List BP)(s211_8:Int):RN Oj 6 (mv c d l s211_8) (mB c d l s211_8):=rnX
theorem Y2(c d:BCU)(l:List BP)(h:wI c d l):∀(j i:Nat),i+j=(gK c l).length->Oj.Runs 6 (mv c d l (i:Int)) [.d .bool (((gK c l).drop i).any (uO d))]:=by
 obtain⟨hn,ho⟩:=PB h.1;intro j;induction j with
 |zero=>
  intro i hi;refine sA _ _ _ _ ⟨0,?_⟩;unfold mB;rw[bO (by omega),sR (by omega)];rfl
 |succ j ih=>
  intro i hi;have hil:i<(gK c l).length:=by omega
  obtain⟨n,hn⟩:=ih (i+1) (by omega);refine sA _ _ _ _ ⟨n,?_⟩;unfold mB;rw[aY hil,am,afn hil,gU hil,List.any_cons,bH (by omega)];dsimp only;rw[dT (show okC 4000 d/\okC 4000 (gK c l)[i] from⟨h.2,ho _ (afU _)⟩)];cases uO d (gK c l)[i]
  ·exact hn
  ·dsimp only;rw[dT (show(i:Int)>=0 by omega)];rfl
def U2:Cn 77 [tCU,tCU,(.sl tP)]:=cn λ(c d:BCU) (l:List BP)=>lf (wI c d l) [.d .bool (uv c d l)] λh=>by
 obtain⟨n,hn⟩:=Y2 c d l h (gK c l).length 0 (afY _);refine dm My (ac6 _ _ _ ⟨n,?_⟩);unfold SK;rw[dT h.1];exact hn
end
end Go.Proofs.YtagbmoohboleaaaGreat
end
