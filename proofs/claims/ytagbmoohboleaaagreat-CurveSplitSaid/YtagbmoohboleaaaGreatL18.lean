/- Sorted points of a curve, out of a list that the caller keeps: the program's contract. -/
import Derived.Test.YtagbmoohboleaaaGreatL16
import Derived.Test.YtagbmoohboleaaaGreatL14
import Derived.Test.YtagbmoohboleaaaGreatL17
import Derived.Stop.Joined
noncomputable section
namespace Go.Proofs.YtagbmoohboleaaaGreat
open Go.RowKit Go.IntKind
section
theorem ID{A:Nat->Prop}{w w':World}{et:TypeId}{e:Ty}{xs:List e.D}{v:Value}(h:mq (λb=>A b\/w.heap.size<=b) w.heap.size w' [.new et e xs] v):mq (λb=>A b\/w.heap.size<=b) w.heap.size w' [.d (.sl e) xs] v:=by
 obtain⟨css,ho,ha2,hn⟩:=h;obtain⟨hlen,p,c,hv,h1,h2,h3⟩:=Rd.of_own hn ho;subst hv;refine⟨[.slice p xs.length c],⟨p,xs.length,c,css,rfl,rfl,h1,h2,aU (λ_ _ h=>Ty.rd_keep ⟨afs _,λb _ hb=>hb.1,λ_ _ _=>rfl⟩ h) ha2,λh0=>?_⟩,rfl⟩;obtain⟨b,off,rfl,h5,h6⟩:=h3 h0;refine⟨b,off,rfl,.inr ?_,h5,h6⟩;rcases ho.2 with⟨h7,_⟩|⟨g,cap,cur,h7,h8,_⟩
 ·cases h7
 ·injection h7 with h7;injection h7 with h7;injection h7 with h7;subst h7;exact h8
theorem ConL.new_d{P:Program}{f p et:Nat}{args:List SV}{e:Ty}{xs:List e.D}(h:ConL P f p args [.new et e xs]):ConL P f p args [.d (.sl e) xs]:=by
 intro A w vs hI ha;refine(h A w vs hI ha).mono ?_;rintro e w' ⟨v,rfl,hb,hres⟩
 exact⟨v,rfl,hb,ID hres⟩
def Yf:Ctx:=CX [] []
def OZ(p:List BP)(_k:KT):OLR:=match p with|[]=>BX (some [RV.new 37 tP []]) (og (decide ((([]:List BP).length+p.length)*320<=140737488355328/\([]:List BP).length+p.length<=140737488355328)) (some [RV.new 37 tP (([]:List BP)++p)]))|_::_=>(og (decide ((([]:List BP).length+p.length)*320<=140737488355328/\([]:List BP).length+p.length<=140737488355328)) (some [RV.new 37 tP (([]:List BP)++p)]))
theorem Zg(p:List BP):RSL Yf 74 0 [.d (.sl tP) p] (OZ p):=RO
def YV:CG (ConL Tryz.prog 74 0) [(.sl tP)] id:=λ(p:List BP)=>lf (p.length<=100000) [.new 37 tP p] λh=>by
 refine DD [] (p:=0) (Zg _ ⟨0,?_⟩);unfold OZ;rw[oY (n:=([]:List BP).length) (m:=p.length) (by simp;omega) (by omega)];cases p with
 |nil=>exact dB _
 |cons a p=>rfl
def Gm:dK:={keep:=true,run:=λ_ _ _=>none}
theorem I8:SpK 274 Gm:=by
 refine⟨by kernel_rfl,λR args k r h=>(by cases h),(λg h=>(by cases h)),λ_ _ e=>(by cases e)⟩
def D7:List En:=[enT UC,enT DC,enB 0 YV,⟨274,Gm,I8⟩]
def XI:NT:=[((200,6),{keep:=[0,1,2,6,7,8],hl:=3}),((273,3),{keep:=[0,1,2,3,8],hl:=3}),((273,15),{keep:=[0,1,2,3,8,9],hl:=3}),((200,22),{keep:=[0,1,2,6],hl:=3}),((200,34),{keep:=[0,1,2,6,7,8],hl:=3}),((102,14),{keep:=[0,1,5],hl:=3}),((102,32),{keep:=[0,1,5,6,7],hl:=3}),((40,5),{keep:=[1],hl:=0}),((99,0),{keep:=[],hl:=0}),((200,15),{keep:=[0,1,2,6,8],hl:=0}),((200,20),{keep:=[0,1,2,6],hl:=0}),((273,18),{keep:=[0,1,2,3,8,9,18,19,20,21,22,23,24,25,26,27,28,29,30,31,32,33,34],hl:=0}),((40,7),{keep:=[11],hl:=0})]
def ip:Ctx:=CX (ens D7) XI
def rl(c:BCU)(l:List BP)(s200_7 s200_8:Int)(r200_2:List BP):Cfg:=⟨200,[.blk 0,.seq 19],[(0,.own 2),(1,SI (l.length:Int)),(2,.clo 100 [1]),(6,SI 20),(7,SI s200_7),(8,SI s200_8)],[.len tP l,.box 39 (Ty.split tCU c),.row 37 tP r200_2],3,[⟨99,[],0,4,[],3,none⟩,⟨40,[.seq 6],5,2,[(1,.own 2)],0,none⟩]⟩
def qe(c:BCU)(l:List BP)(s200_7 s200_8 s273_8:Int)(r273_2:List BP):Cfg:=⟨273,[.blk 0],[(0,.own 2),(1,SI s200_7),(2,SI s200_8),(3,.clo 100 [1]),(8,SI s273_8)],[.len tP l,.box 39 (Ty.split tCU c),.row 37 tP r273_2],3,[⟨200,[.seq 16,.blk 1,.lp 6,.blk 0,.seq 19],15,4,[(0,.own 2),(1,SI (l.length:Int)),(2,.clo 100 [1]),(6,SI 20),(8,SI s200_8)],3,none⟩,⟨99,[],0,4,[],3,none⟩,⟨40,[.seq 6],5,2,[(1,.own 2)],0,none⟩]⟩
def eD(c:BCU)(l:List BP)(s200_7 s273_8:Int)(r273_2:List BP):Cfg:=⟨273,[.blk 0],[(0,.own 2),(1,SI s200_7),(2,SI (l.length:Int)),(3,.clo 100 [1]),(8,SI s273_8)],[.len tP l,.box 39 (Ty.split tCU c),.row 37 tP r273_2],3,[⟨200,[.seq 21],20,4,[(0,.own 2),(1,SI (l.length:Int)),(2,.clo 100 [1]),(6,SI 20)],3,none⟩,⟨99,[],0,4,[],3,none⟩,⟨40,[.seq 6],5,2,[(1,.own 2)],0,none⟩]⟩
def B6(c:BCU)(l:List BP)(s200_7 s200_8 s273_8 s273_9:Int)(r273_2:List BP):Cfg:=⟨273,[.blk 2,.blk 1,.seq 26,.lp 3,.blk 0],[(0,.own 2),(1,SI s200_7),(2,SI s200_8),(3,.clo 100 [1]),(8,SI s273_8),(9,SI s273_9)],[.len tP l,.box 39 (Ty.split tCU c),.row 37 tP r273_2],3,[⟨200,[.seq 16,.blk 1,.lp 6,.blk 0,.seq 19],15,4,[(0,.own 2),(1,SI (l.length:Int)),(2,.clo 100 [1]),(6,SI 20),(8,SI s200_8)],3,none⟩,⟨99,[],0,4,[],3,none⟩,⟨40,[.seq 6],5,2,[(1,.own 2)],0,none⟩]⟩
def gf(c:BCU)(l:List BP)(s200_7 s273_8 s273_9:Int)(r273_2:List BP):Cfg:=⟨273,[.blk 2,.blk 1,.seq 26,.lp 3,.blk 0],[(0,.own 2),(1,SI s200_7),(2,SI (l.length:Int)),(3,.clo 100 [1]),(8,SI s273_8),(9,SI s273_9)],[.len tP l,.box 39 (Ty.split tCU c),.row 37 tP r273_2],3,[⟨200,[.seq 21],20,4,[(0,.own 2),(1,SI (l.length:Int)),(2,.clo 100 [1]),(6,SI 20)],3,none⟩,⟨99,[],0,4,[],3,none⟩,⟨40,[.seq 6],5,2,[(1,.own 2)],0,none⟩]⟩
def je(c:BCU)(l r273_2:List BP)(s200_6:Int):Cfg:=⟨200,[.blk 2],[(0,.own 2),(1,SI (l.length:Int)),(2,.clo 100 [1]),(6,SI s200_6)],[.len tP l,.box 39 (Ty.split tCU c),.row 37 tP r273_2],3,[⟨99,[],0,4,[],3,none⟩,⟨40,[.seq 6],5,2,[(1,.own 2)],0,none⟩]⟩
def Ck(c:BCU)(l r273_2:List BP)(s200_6:Int):Cfg:=⟨200,[.blk 4,.seq 47,.blk 3,.lp 22,.blk 2],[(0,.own 2),(1,SI (l.length:Int)),(2,.clo 100 [1]),(6,SI s200_6),(7,SI 0),(8,SI (i64.wrap (2*s200_6)))],[.len tP l,.box 39 (Ty.split tCU c),.row 37 tP r273_2],3,[⟨99,[],0,4,[],3,none⟩,⟨40,[.seq 6],5,2,[(1,.own 2)],0,none⟩]⟩
def jh(c:BCU)(l r273_2:List BP)(s102_5:Int):Cfg:=⟨102,[.blk 0,.seq 56],[(0,.own 2),(1,.clo 41 []),(5,SI s102_5)],[.len tP l,.box 39 (Ty.split tCU c),.row 37 tP r273_2],3,[⟨40,[.seq 8],7,1,[],0,none⟩]⟩
def dR(c:BCU)(l r273_2:List BP)(s102_5 s102_5v s102_7:Int)(r102_2:List BP):Cfg:=⟨102,[.blk 2,.seq 49,.blk 1,.seq 55,.lp 14,.blk 0,.seq 56],[(0,.own 2),(1,.clo 41 []),(5,SI s102_5v),(6,.osl 2 20 ((s102_5:Int).toNat) (((r273_2.length:Int):Int).toNat-(s102_5:Int).toNat)),(7,SI s102_7)],[.len tP l,.box 39 (Ty.split tCU c),.row 37 tP r102_2],3,[⟨40,[.seq 8],7,1,[],0,none⟩]⟩
def VN(c:BCU)(l:List BP)(k:KT):OLR:=og (decide (l.length<=100000)) (k 6 (rl c l 0 20 l))
theorem acn(c:BCU)(l:List BP):RSL ip 40 1 [.d tCU c,.d (.sl tP) l] (VN c l):=RO
def sU(c:BCU)(l:List BP)(s200_7 s200_8:Int)(r200_2:List BP)(k:KT):OLR:=match decide (s200_8<=(l.length:Int))with|true=>k 3 (qe c l s200_7 s200_8 (i64.wrap (s200_7+1)) r200_2)|false=>k 3 (eD c l s200_7 (i64.wrap (s200_7+1)) r200_2)
theorem A6(c:BCU)(l:List BP)(s200_7 s200_8:Int)(r200_2:List BP):RN ip 6 (rl c l s200_7 s200_8 r200_2) (sU c l s200_7 s200_8 r200_2):=rnX
def ib(c:BCU)(l:List BP)(s200_7 s273_8:Int)(r273_2:List BP)(k:KT):OLR:=match decide (s273_8<(l.length:Int))with|true=>k 15 (gf c l s200_7 s273_8 s273_8 r273_2)|false=>k 22 (je c l r273_2 20)
theorem kS(c:BCU)(l:List BP)(s200_7 s273_8:Int)(r273_2:List BP):RN ip 3 (eD c l s200_7 s273_8 r273_2) (ib c l s200_7 s273_8 r273_2):=rnX
def Pz(c:BCU)(l:List BP)(s200_7 s200_8 s273_8 s273_9:Int)(r273_2:List BP)(k:KT):OLR:=match decide (s273_9>s200_7)with|true=>(match aG r273_2 s273_9 with|some _=>(match true,r273_2[(s273_9).toNat]? with|true,some x1=>(match aG r273_2 (i64.wrap (s273_9-1))with|some _=>(match true,r273_2[(i64.wrap (s273_9-1)).toNat]? with|true,some x2=>(og (decide (okC 4000 c/\okP 4000 x1/\okP 4000 x2)) (match decide ((uS (dC c) (dec x1) (dec x2))<0)with|true=>(match aG r273_2 (i64.wrap (s273_9-1))with|some _=>(match true,r273_2[(i64.wrap (s273_9-1)).toNat]? with|true,some x3=>(match aG r273_2 s273_9 with|some _=>(match true,r273_2[(s273_9).toNat]? with|true,some x4=>(match aG r273_2 s273_9 with|some _=>(match true,r273_2[(s273_9).toNat]? with|true,some _=>(match aG (r273_2.set ((s273_9).toNat) x3) (i64.wrap (s273_9-1))with|some _=>(match true,(r273_2.set ((s273_9).toNat) x3)[(i64.wrap (s273_9-1)).toNat]? with|true,some _=>k 15 (B6 c l s200_7 s200_8 s273_8 (i64.wrap (s273_9-1)) ((r273_2.set ((s273_9).toNat) x3).set ((i64.wrap (s273_9-1)).toNat) x4))|_,_=>none)|none=>none)|_,_=>none)|none=>none)|_,_=>none)|none=>none)|_,_=>none)|none=>none)|false=>k 3 (qe c l s200_7 s200_8 (i64.wrap (s273_8+1)) r273_2)))|_,_=>none)|none=>none)|_,_=>none)|none=>none)|false=>k 3 (qe c l s200_7 s200_8 (i64.wrap (s273_8+1)) r273_2)
def gF(c:BCU)(l:List BP)(s200_7 s273_8 s273_9:Int)(r273_2:List BP)(k:KT):OLR:=match decide (s273_9>s200_7)with|true=>(match aG r273_2 s273_9 with|some _=>(match true,r273_2[(s273_9).toNat]? with|true,some x1=>(match aG r273_2 (i64.wrap (s273_9-1))with|some _=>(match true,r273_2[(i64.wrap (s273_9-1)).toNat]? with|true,some x2=>(og (decide (okC 4000 c/\okP 4000 x1/\okP 4000 x2)) (match decide ((uS (dC c) (dec x1) (dec x2))<0)with|true=>(match aG r273_2 (i64.wrap (s273_9-1))with|some _=>(match true,r273_2[(i64.wrap (s273_9-1)).toNat]? with|true,some x3=>(match aG r273_2 s273_9 with|some _=>(match true,r273_2[(s273_9).toNat]? with|true,some x4=>(match aG r273_2 s273_9 with|some _=>(match true,r273_2[(s273_9).toNat]? with|true,some _=>(match aG (r273_2.set ((s273_9).toNat) x3) (i64.wrap (s273_9-1))with|some _=>(match true,(r273_2.set ((s273_9).toNat) x3)[(i64.wrap (s273_9-1)).toNat]? with|true,some _=>k 15 (gf c l s200_7 s273_8 (i64.wrap (s273_9-1)) ((r273_2.set ((s273_9).toNat) x3).set ((i64.wrap (s273_9-1)).toNat) x4))|_,_=>none)|none=>none)|_,_=>none)|none=>none)|_,_=>none)|none=>none)|_,_=>none)|none=>none)|false=>k 3 (eD c l s200_7 (i64.wrap (s273_8+1)) r273_2)))|_,_=>none)|none=>none)|_,_=>none)|none=>none)|false=>k 3 (eD c l s200_7 (i64.wrap (s273_8+1)) r273_2)
theorem jy(c:BCU)(l:List BP)(s200_7 s273_8 s273_9:Int)(r273_2:List BP):RN ip 15 (gf c l s200_7 s273_8 s273_9 r273_2) (gF c l s200_7 s273_8 s273_9 r273_2):=rnX
def iS(c:BCU)(l r273_2:List BP)(s200_6:Int)(k:KT):OLR:=match decide (s200_6<(l.length:Int))with|true=>k 34 (Ck c l r273_2 s200_6)|false=>(match decide ((r273_2.length:Int)<2)with|true=>some [RV.new 37 tP r273_2]|false=>k 14 (jh c l r273_2 1))
theorem lL(c:BCU)(l r273_2:List BP)(s200_6:Int):RN ip 22 (je c l r273_2 s200_6) (iS c l r273_2 s200_6):=rnX
def iH(c:BCU)(l r273_2:List BP)(s102_5:Int)(k:KT):OLR:=match decide (s102_5<(r273_2.length:Int))with|true=>(match aG r273_2 s102_5 with|some _=>(match true,r273_2[(s102_5).toNat]? with|true,some x1=>(match aG r273_2 (i64.wrap (s102_5-1))with|some _=>(match true,r273_2[(i64.wrap (s102_5-1)).toNat]? with|true,some x2=>(og (decide (okP 4000 x1/\okP 4000 x2)) (match aF (dec x1) (dec x2)==0 with|true=>(og (decide ((0:Int)<=s102_5/\s102_5<=(r273_2.length:Int)/\(r273_2.length:Int)<=(r273_2.length:Int))) (k 32 (dR c l r273_2 s102_5 s102_5 1 r273_2)))|false=>k 14 (jh c l r273_2 (i64.wrap (s102_5+1)))))|_,_=>none)|none=>none)|_,_=>none)|none=>none)|false=>some [RV.new 37 tP r273_2]
theorem lD(c:BCU)(l r273_2:List BP)(s102_5:Int):RN ip 14 (jh c l r273_2 s102_5) (iH c l r273_2 s102_5):=rnX
def gD(c:BCU)(l r273_2:List BP)(s102_5 s102_5v s102_7:Int)(r102_2:List BP)(k:KT):OLR:=match decide (s102_7<((((r273_2.length:Int):Int).toNat-(s102_5:Int).toNat:Nat):Int))with|true=>(match true,decide ((0:Int)<=s102_7/\s102_7<((((r273_2.length:Int):Int).toNat-(s102_5:Int).toNat:Nat):Int))with|true,true=>(match true,r102_2[(s102_5:Int).toNat+(s102_7).toNat]? with|true,some x1=>(match true,decide ((0:Int)<=i64.wrap (s102_7-1)/\i64.wrap (s102_7-1)<((((r273_2.length:Int):Int).toNat-(s102_5:Int).toNat:Nat):Int))with|true,true=>(match true,r102_2[(s102_5:Int).toNat+(i64.wrap (s102_7-1)).toNat]? with|true,some x2=>(og (decide (okP 4000 x1/\okP 4000 x2)) (match !(aF (dec x1) (dec x2)==0)with|true=>(match true,decide ((0:Int)<=s102_7/\s102_7<((((r273_2.length:Int):Int).toNat-(s102_5:Int).toNat:Nat):Int))with|true,true=>(match true,r102_2[(s102_5:Int).toNat+(s102_7).toNat]? with|true,some x3=>(match aG r102_2 s102_5v with|some _=>(match true,r102_2[(s102_5v).toNat]? with|true,some _=>k 32 (dR c l r273_2 s102_5 (i64.wrap (s102_5v+1)) (i64.wrap (s102_7+1)) (r102_2.set ((s102_5v).toNat) x3))|_,_=>none)|none=>none)|_,_=>none)|_,_=>none)|false=>k 32 (dR c l r273_2 s102_5 s102_5v (i64.wrap (s102_7+1)) r102_2)))|_,_=>none)|_,_=>none)|_,_=>none)|_,_=>none)|false=>(og (decide ((0:Int)<=s102_5v/\s102_5v<=(r102_2.length:Int)/\(r102_2.length:Int)<=(r102_2.length:Int))) (og (decide ((0:Int)<=0/\0<=s102_5v/\s102_5v<=((gv (Ty.zero tP) ((s102_5v:Int).toNat) (((r102_2.length:Int):Int).toNat-(s102_5v:Int).toNat) r102_2).length:Int))) (some [RV.d (.sl tP) (((gv (Ty.zero tP) ((s102_5v:Int).toNat) (((r102_2.length:Int):Int).toNat-(s102_5v:Int).toNat) r102_2).drop ((0:Int).toNat)).take ((s102_5v:Int).toNat-(0:Int).toNat))])))
theorem jB(c:BCU)(l r273_2:List BP)(s102_5 s102_5v s102_7:Int)(r102_2:List BP):RN ip 32 (dR c l r273_2 s102_5 s102_5v s102_7 r102_2) (gD c l r273_2 s102_5 s102_5v s102_7 r102_2):=rnX
section
variable (c:BCU) (l:List BP)
def aa2(ys:List BP)(r:List RV):Prop:=r=[.new 37 tP ys]\/r=[.d (.sl tP) ys]
abbrev qb(i:Nat)(g:Cfg)(ys:List BP):Prop:=∃r,ip.Runs i g r/\aa2 ys r
end
section
variable (c:BCU) (l:List BP) (hc:okC 4000 c)
include hc
theorem yx(hl:l.length<=19)(i:Nat)(ys:List BP):∀(L:List BP) (a:BP) (R:List BP),(∀x∈L,okP 4000 x)->okP 4000 a->(L.reverse++a::R).length<=19->i<=19->
  qb 3 (eD c l 0 ((i+1:Nat):Int) ((jd (ltP (dC c)) L a).reverse++R)) ys->qb 15 (gf c l 0 (i:Int) (L.length:Int) (L.reverse++a::R)) ys
 |[],a,R,hL,ha,h19,hi,⟨r,⟨n,hn⟩,hr⟩=>by
  refine⟨r,jy _ _ _ _ _ _ ⟨n,?_⟩,hr⟩;unfold gF;rw[dF (show ¬((([]:List BP).length:Nat):Int)>0 by simp),bH (by omega)];exact hn
 |b::L,a,R,hL,ha,h19,hi,hnext=>by
  have hb:=hL b (by simp);have hln:L.length<=18:=by simp at h19;omega
  have hrev:(b::L).reverse++a::R=L.reverse++b::a::R:=by simp
  have e1:((b::L).length:Int)=((L.length+1:Nat):Int):=rfl;have ew:i64.wrap (((L.length+1:Nat):Int)-1)=(L.length:Int):=by rw[aM (by omega) (by omega)];omega
  have g1:(L.reverse++b::a::R)[L.length+1]?=some a:=by
   simp
  have g0:(L.reverse++b::a::R)[L.length]?=some b:=by
   simp
  have s1:(L.reverse++b::a::R).set (L.length+1) b=L.reverse++b::b::R:=by
   simp
  have s2:(L.reverse++b::b::R).set L.length a=L.reverse++a::b::R:=by
   simp
  have g2:(L.reverse++b::b::R)[L.length]?=some b:=by
   simp
  have key:∀r n,(match ltP (dC c) a b with
    |true=>ip.k n 15 (gf c l 0 (i:Int) (L.length:Int) (L.reverse++a::b::R))
    |false=>ip.k n 3 (eD c l 0 ((i+1:Nat):Int) (L.reverse++b::a::R)))=some r->
    gF c l 0 (i:Int) ((b::L).length:Int) ((b::L).reverse++a::R) (ip.k n)=some r:=λr n h=>by
   rw[hrev,e1];unfold gF;rw[dT (show((L.length+1:Nat):Int)>0 by omega),ew,am,g1,am,g0,show((L.length+1:Nat):Int).toNat=L.length+1 by omega,show((L.length:Nat):Int).toNat=L.length by omega,g1,g0];dsimp only;rw[dT (show okC 4000 c/\okP 4000 a/\okP 4000 b from⟨hc,ha,hb⟩),s1,am,g2,s2,bH (by omega)];dsimp only;unfold ltP at h;exact h
  unfold jd at hnext;cases hlt:ltP (dC c) a b
  ·rw[hlt,cond_false]at hnext;obtain⟨r,⟨n,hn⟩,hr⟩:=hnext;refine⟨r,jy _ _ _ _ _ _ ⟨n,key r n ?_⟩,hr⟩;rw[hlt];simpa using hn
  ·rw[hlt,cond_true]at hnext;obtain⟨r,⟨n,hn⟩,hr⟩:=yx hl i ys L a (b::R) (λx hx=>hL x (afw _ hx)) ha (by simp at h19 ⊢;omega) hi (by simpa using hnext);refine⟨r,jy _ _ _ _ _ _ ⟨n,key r n ?_⟩,hr⟩;rw[hlt];exact hn
theorem yw(hl:l.length<=19)(ys:List BP):∀(R D:List BP),(∀x∈D,okP 4000 x)->(∀x∈R,okP 4000 x)->D.length+R.length=l.length->
  qb 22 (je c l (R.foldl (jd (ltP (dC c))) D).reverse 20) ys->qb 3 (eD c l 0 (D.length:Int) (D.reverse++R)) ys
 |[],D,hD,hR,hlen,⟨r,⟨n,hn⟩,hr⟩=>by
  refine⟨r,kS _ _ _ _ _ ⟨n,?_⟩,hr⟩;unfold ib;rw[bO (by simp at hlen;omega),afO];exact hn
 |a::R,D,hD,hR,hlen,hnext=>by
  have ha:=hR a (by simp);have hlen':D.length+(R.length+1)=l.length:=hlen
  have h1:=yw hl ys R (jd (ltP (dC c)) D a) (λx hx=>by
   rcases j9.1 hx with e|e
   ·rw[e];exact ha
   ·exact hD x e) (λx hx=>hR x (afw _ hx)) (by rw[ma];omega) hnext
  rw[ma]at h1;obtain⟨r,⟨n,hn⟩,hr⟩:=yx c l hc hl D.length ys D a R hD ha (by simp;omega) (by omega) h1;refine⟨r,kS _ _ _ _ _ ⟨n,?_⟩,hr⟩;unfold ib;rw[aY (by omega)];exact hn
omit hc in
theorem tH(r0:List BP)(b:Nat)(h19:r0.length<=19):∀(S K J:List BP) (p:BP),(∀x∈K++(J++p::S),okP 4000 x)->(K++(J++p::S)).length=r0.length->∀k2:Nat,1<=k2->b+k2=K.length+J.length+1->
  qb 32 (dR c l r0 (b:Int) (K.length:Int) (k2:Int) (K++(J++p::S))) (K++fO cZ p S)
 |[],K,J,p,hok,hlen,k2,h1,hb=>by
  refine⟨_,jB _ _ _ _ _ _ _ ⟨0,?_⟩,.inr rfl⟩;have hlen':K.length+(J.length+1)=r0.length:=by simpa using hlen
  unfold gD;rw[dF (show ¬(k2:Int)<(((r0.length:Int).toNat-(b:Int).toNat:Nat):Int) by omega)];dsimp only;rw[dT (show(0:Int)<=(K.length:Int)/\(K.length:Int)<=((K++(J++[p])).length:Int)/\((K++(J++[p])).length:Int)<=((K++(J++[p])).length:Int) by rw[hlen];omega)]
  have hcl:((gv (Ty.zero tP) ((K.length:Int).toNat) ((((K++(J++[p])).length:Int)).toNat-(K.length:Int).toNat) (K++(J++[p])))).take K.length=K:=by
   unfold gv;rw[show((K.length:Int)).toNat=K.length by omega,afG,ahh (by simp),ah9,Nat.min_self,List.take_left' rfl]
  have hcn:K.length<=(gv (Ty.zero tP) ((K.length:Int).toNat) ((((K++(J++[p])).length:Int)).toNat-(K.length:Int).toNat) (K++(J++[p]))).length:=by
   have:=congrArg List.length hcl;rw[af3]at this;omega
  rw[dT (show(0:Int)<=0/\0<=(K.length:Int)/\(K.length:Int)<=((gv (Ty.zero tP) ((K.length:Int).toNat) ((((K++(J++[p])).length:Int)).toNat-(K.length:Int).toNat) (K++(J++[p]))).length:Int) by omega)];rw[show((0:Int)).toNat=0 from rfl,agQ,show((K.length:Int)).toNat-0=K.length by omega,hcl];simp[fO]
 |q::S,K,J,p,hok,hlen,k2,h1,hb=>by
  have hlen':K.length+(J.length+(S.length+1+1))=r0.length:=by simpa using hlen
  have hq:okP 4000 q:=hok q (by simp);have hp:okP 4000 p:=hok p (by simp)
  have g1:(K++(J++p::q::S))[(b:Int).toNat+(k2:Int).toNat]?=some q:=by
   rw[show(b:Int).toNat+(k2:Int).toNat=(K++(J++[p])).length by simp;omega];simp
  have ew:i64.wrap ((k2:Int)-1)=((k2-1:Nat):Int):=by rw[aM (by omega) (by omega)];omega
  have g0:(K++(J++p::q::S))[(b:Int).toNat+((k2-1:Nat):Int).toNat]?=some p:=by
   rw[show(b:Int).toNat+((k2-1:Nat):Int).toNat=(K++J).length by simp;omega];simp
  have key:∀r n,(match cZ q p with
    |true=>ip.k n 32 (dR c l r0 (b:Int) (K.length:Int) ((k2+1:Nat):Int) (K++(J++p::q::S)))
    |false=>ip.k n 32 (dR c l r0 (b:Int) ((K.length+1:Nat):Int) ((k2+1:Nat):Int) ((K++(J++p::q::S)).set K.length q)))=some r->
    gD c l r0 (b:Int) (K.length:Int) (k2:Int) (K++(J++p::q::S)) (ip.k n)=some r:=λr n h=>by
   unfold gD;rw[dT (show(k2:Int)<(((r0.length:Int).toNat-(b:Int).toNat:Nat):Int) by omega)];dsimp only;rw[dT (show(0:Int)<=(k2:Int)/\(k2:Int)<(((r0.length:Int).toNat-(b:Int).toNat:Nat):Int) by omega),g1];dsimp only;rw[ew,dT (show(0:Int)<=((k2-1:Nat):Int)/\((k2-1:Nat):Int)<(((r0.length:Int).toNat-(b:Int).toNat:Nat):Int) by omega),g0];dsimp only;rw[dT (show okP 4000 q/\okP 4000 p from⟨hq,hp⟩),bH (k:=k2) (by omega)];unfold cZ at h;cases he:aF (dec q) (dec p)==0<;>rw[he]at h
   ·try dsimp only[Bool.not_false]
    have g3:∃y,(K++(J++p::q::S))[K.length]?=some y:=⟨_,afn (by simp;omega)⟩
    obtain⟨y,g3⟩:=g3;rw[am,g3,show((K.length:Int)).toNat=K.length by omega,g3,bH (k:=K.length) (by omega)];exact h
   ·exact h
  have hcm:fO cZ p (q::S)=bif cZ q p then fO cZ q S else q::fO cZ q S:=rfl;rw[hcm];cases he:cZ q p
  ·have hset:∃J',(K++(J++p::q::S)).set K.length q=(K++[q])++(J'++q::S)/\J'.length=J.length/\∀x∈J',x∈J++[p]:=by
    cases J with
    |nil=>
     refine⟨[],?_,rfl,λx hx=>by cases hx⟩;simp
    |cons h T=>
     refine⟨T++[p],?_,by simp,λx hx=>by simp at hx ⊢;exact .inr hx⟩;simp
   obtain⟨J',e,eJ,mJ⟩:=hset
   obtain⟨r,⟨n,hn⟩,hr⟩:=tH r0 b h19 S (K++[q]) J' q (λx hx=>by
    simp only[afL,afy,agF,ah6]at hx;rcases hx with(hx|hx)|(hx|hx|hx)
    ·exact hok x (by simp[hx])
    ·rw[hx];exact hq
    ·have:=mJ x hx;simp only[afL,afy,agF,ah6]at this;rcases this with h|h
     ·exact hok x (by simp[h])
     ·rw[h];exact hp
    ·rw[hx];exact hq
    ·exact hok x (by simp[hx])) (by simp;omega) (k2+1) (by omega) (by simp;omega)
   refine⟨r,jB _ _ _ _ _ _ _ ⟨n,key r n ?_⟩,?_⟩
   ·rw[he,e];have:(K++[q]).length=K.length+1:=by simp
    rw[this]at hn;exact hn
   ·simpa using hr
  ·have e2:K++(J++p::q::S)=K++((J++[p])++q::S):=by simp
   obtain⟨r,⟨n,hn⟩,hr⟩:=tH r0 b h19 S K (J++[p]) q (e2▸hok) (e2▸hlen) (k2+1) (by omega) (by simp;omega);refine⟨r,jB _ _ _ _ _ _ _ ⟨n,key r n ?_⟩,hr⟩;rw[he,e2];exact hn
omit hc in
theorem zI:∀(S A:List BP) (p:BP),(∀x∈A++p::S,okP 4000 x)->(A++p::S).length<=19->
  qb 14 (jh c l (A++p::S) ((A.length+1:Nat):Int)) (A++p::fO cZ p S)
 |[],A,p,hok,h19=>by
  refine⟨_,lD _ _ _ _ ⟨0,?_⟩,.inl rfl⟩;unfold iH;rw[bO (by simp)];rfl
 |q::S,A,p,hok,h19=>by
  have hq:okP 4000 q:=hok q (by simp);have hp:okP 4000 p:=hok p (by simp);have h19':A.length+(S.length+1+1)<=19:=by simpa using h19
  have g1:(A++p::q::S)[A.length+1]?=some q:=by
   simp
  have g0:(A++p::q::S)[A.length]?=some p:=lj A p (q::S);have ew:i64.wrap (((A.length+1:Nat):Int)-1)=(A.length:Int):=by rw[aM (by omega) (by omega)];omega
  have key:∀r n,(match cZ q p with
    |true=>ip.k n 32 (dR c l (A++p::q::S) ((A.length+1:Nat):Int) ((A.length+1:Nat):Int) 1 (A++p::q::S))
    |false=>ip.k n 14 (jh c l (A++p::q::S) ((A.length+1+1:Nat):Int)))=some r->
    iH c l (A++p::q::S) ((A.length+1:Nat):Int) (ip.k n)=some r:=λr n h=>by
   unfold iH;rw[aY (by simp only[afN,afD];omega),am,g1,show((A.length+1:Nat):Int).toNat=A.length+1 by omega,g1];dsimp only;rw[ew,am,g0,show((A.length:Nat):Int).toNat=A.length by omega,g0];dsimp only;rw[dT (show okP 4000 q/\okP 4000 p from⟨hq,hp⟩),bH (k:=A.length+1) (by omega),dT (show(0:Int)<=((A.length+1:Nat):Int)/\((A.length+1:Nat):Int)<=((A++p::q::S).length:Int)/\((A++p::q::S).length:Int)<=((A++p::q::S).length:Int) by simp;omega)];exact h
  have hcm:fO cZ p (q::S)=bif cZ q p then fO cZ q S else q::fO cZ q S:=rfl;have e2:A++p::q::S=(A++[p])++q::S:=by simp
  rw[hcm];cases he:cZ q p
  ·obtain⟨r,⟨n,hn⟩,hr⟩:=zI S (A++[p]) q (e2▸hok) (e2▸h19);refine⟨r,lD _ _ _ _ ⟨n,key r n ?_⟩,?_⟩
   ·rw[he,e2];have:(A++[p]).length=A.length+1:=by simp
    rw[this]at hn;exact hn
   ·rw[afG]at hr;exact hr
  ·obtain⟨r,⟨n,hn⟩,hr⟩:=tH c l (A++p::q::S) (A.length+1) h19 S (A++[p]) [] q (e2▸hok) (by rw[e2];rfl) 1 (afs _) (by simp);refine⟨r,lD _ _ _ _ ⟨n,key r n ?_⟩,?_⟩
   ·rw[he,e2];have:(A++[p]).length=A.length+1:=by simp
    rw[this,e2]at hn;exact hn
   ·rw[afG]at hr;exact hr
theorem Ro(hl:l.length<=19)(ho:∀x∈l,okP 4000 x):qb 6 (rl c l 0 20 l) (bR (dC c) l):=by
 have hlast:∀r:List BP,(∀x∈r,okP 4000 x)->r.length<=19->qb 22 (je c l r 20) (tT cZ r):=λr hr h19=>by
  cases r with
  |nil=>
   refine⟨_,lL _ _ _ _ ⟨0,?_⟩,.inl rfl⟩;unfold iS;rw[dF (show ¬(20:Int)<(l.length:Int) by omega)];rfl
  |cons p S=>
   cases S with
   |nil=>
    refine⟨_,lL _ _ _ _ ⟨0,?_⟩,.inl rfl⟩;unfold iS;rw[dF (show ¬(20:Int)<(l.length:Int) by omega)];rfl
   |cons q S=>
    obtain⟨r',⟨n,hn⟩,hr'⟩:=zI c l (q::S) [] p hr h19;refine⟨r',lL _ _ _ _ ⟨n,?_⟩,hr'⟩;unfold iS;rw[dF (show ¬(20:Int)<(l.length:Int) by omega)];dsimp only;rw[dF (show ¬((p::q::S).length:Int)<2 by simp;omega)];simpa using hn
 have hsort:qb 22 (je c l (qJ (ltP (dC c)) l) 20) (bR (dC c) l):=hlast _ (λx hx=>ho x (mp.1 hx)) (by rw[wq];exact hl)
 have h3:qb 3 (eD c l 0 1 l) (bR (dC c) l):=by
  cases l with
  |nil=>
   obtain⟨r,⟨n,hn⟩,hr⟩:=hsort;refine⟨r,kS _ _ _ _ _ ⟨n,?_⟩,hr⟩;unfold ib;rw[dF (show ¬(1:Int)<(([]:List BP).length:Int) by simp)];exact hn
  |cons x l=>
   have:=yw c (x::l) hc hl _ l [x] (λy hy=>ho y (by simp at hy;simp[hy])) (λy hy=>ho y (afw _ hy)) (by simp;omega) hsort;simpa using this
 obtain⟨r,⟨n,hn⟩,hr⟩:=h3;refine⟨r,A6 _ _ _ _ _ ⟨n,?_⟩,hr⟩;unfold sU;rw[dF (show ¬(20:Int)<=(l.length:Int) by omega),aM (x:=0+1) (by omega) (by omega)];exact hn
end
def adg:CG (ConL Tryz.prog 40 1) [tCU,(.sl tP)] id:=λ(c:BCU) (l:List BP)=>lf (gI c l) [.d (.sl tP) (bR (dC c) l)] λh=>by
 obtain⟨hc,hl,ho⟩:=h;obtain⟨r,⟨n,hn⟩,hr⟩:=Ro c l hc hl ho
 have hres:ip.ResL 40 1 [.d tCU c,.d (.sl tP) l] r:=by
  refine acn _ _ ⟨n,?_⟩;unfold VN;rw[dT (show l.length<=100000 by omega)];exact hn
 rcases hr with e|e
 ·rw[e]at hres;exact ConL.new_d (et:=37) (DD D7 hres)
 ·rw[e]at hres;exact DD D7 hres
end
section
def KN:List En:=[enT Ik,enT DC,enB 1 adg]
def W9:NT:=[((98,6),{keep:=[0,1,7,8],hl:=2}),((9,18),{keep:=[2,6,7,17,18,19],own:=[(6,39,tCU)],hl:=4}),((9,4),{keep:=[1,2,13],hl:=0}),((38,3),{keep:=[7],hl:=0}),((98,18),{keep:=[0,1,5,7,8,16],hl:=0})]
def BE:Ctx:=CX (ens KN) W9
def pM(c:BCU)(l:List BP)(s98_8:Int):Cfg:=⟨98,[.blk 0,.seq 25],[(0,.own 0),(1,.clo 39 [1]),(7,SI (l.length:Int)),(8,SI s98_8)],[.len tP l,.box 39 (Ty.split tCU c)],2,[⟨38,[.seq 4],3,2,[],2,none⟩,⟨9,[.seq 5,.seq 10],4,2,[(1,.own 0),(2,.box 1 0)],0,none⟩]⟩
def pN(c:BCU)(l:List BP)(s19:Int)(B2:BCU)(r3:List BCU):Cfg:=⟨9,[.blk 0,.seq 41],[(2,.box 1 0),(6,.own 3),(7,.box 2 0),(17,.d (.sl tP) (bR (dC c) l)),(18,SI ((bR (dC c) l).length:Int)),(19,SI s19)],[.len tP l,.box 39 (Ty.split tCU c),.box 39 (Ty.split tCU B2),.row 39 tCU r3],0,[]⟩
def aaf(c:BCU)(l:List BP)(k:KT):OLR:=k 6 (pM c l 0)
theorem acP(c:BCU)(l:List BP):RSL BE 9 1 [.d tCU c,.d (.sl tP) l] (aaf c l):=RO
def oE(c:BCU)(l:List BP)(s98_8:Int)(k:KT):OLR:=match decide (s98_8<(l.length:Int))with|true=>(match aG l s98_8 with|some _=>(match true,l[(s98_8).toNat]? with|true,some x1=>(og (decide (okC 4000 c/\okP 4000 x1)) (match !(onP (dC c) (dec x1))with|true=>(match decide (s98_8>=0)with|true=>some [RV.d (.sl tCU) ([]),RV.d aiy 1]|false=>(og (decide (gI c l)) none))|false=>k 6 (pM c l (i64.wrap (s98_8+1)))))|_,_=>none)|none=>none)|false=>(match decide ((-1)>=0)with|true=>some [RV.d (.sl tCU) ([]),RV.d aiy 1]|false=>(og (decide (gI c l)) (k 18 (pN c l 0 c ([])))))
theorem uE(c:BCU)(l:List BP)(s98_8:Int):RN BE 6 (pM c l s98_8) (oE c l s98_8):=rnX
def ua(c:BCU)(l:List BP)(s19:Int)(B2:BCU)(r3:List BCU)(k:KT):OLR:=match decide (s19<((bR (dC c) l).length:Int))with|true=>(match aG (bR (dC c) l) s19 with|some x1=>(og (decide (okP 4000 x1/\okP 4000 c.2.2.2.2.1)) (match aF (dec x1) (dec c.2.2.2.2.1)==0 with|true=>k 18 (pN c l (i64.wrap (s19+1)) B2 r3)|false=>(og (decide (okP 4000 x1/\okP 4000 c.2.2.2.2.2)) (match aF (dec x1) (dec c.2.2.2.2.2)==0 with|true=>k 18 (pN c l (i64.wrap (s19+1)) B2 r3)|false=>dup (.b .l .l) (og (decide ((r3.length+([(B2.1,(B2.2.1,(B2.2.2.1,(B2.2.2.2.1,(B2.2.2.2.2.1,x1)))))]).length)*1040<=140737488355328/\r3.length+([(B2.1,(B2.2.1,(B2.2.2.1,(B2.2.2.2.1,(B2.2.2.2.2.1,x1)))))]).length<=140737488355328)) (k 18 (pN c l (i64.wrap (s19+1)) (B2.1,(B2.2.1,(B2.2.2.1,(B2.2.2.2.1,(x1,B2.2.2.2.2.2))))) (r3++([(B2.1,(B2.2.1,(B2.2.2.1,(B2.2.2.2.1,(B2.2.2.2.2.1,x1)))))])))))))))|none=>none)|false=>(og (decide ((r3.length+([B2]).length)*1040<=140737488355328/\r3.length+([B2]).length<=140737488355328)) (some [RV.d (.sl tCU) (r3++([B2])),RV.d aiy 0]))
theorem zn(c:BCU)(l:List BP)(s19:Int)(B2:BCU)(r3:List BCU):RN BE 18 (pN c l s19 B2 r3) (ua c l s19 B2 r3):=rnX
section
variable (c:BCU) (l:List BP) (h:gI c l)
include h
theorem Gi:∀(L:List BP) (i:Nat),(bR (dC c) l).drop i=L->i<=(bR (dC c) l).length->∀(f:BP) (r2:List BCU),r2.length<=i->BE.Runs 18 (pN c l (i:Int) (fc c f c.2.2.2.2.2) r2) [.d (.sl tCU) (r2++sQ c f L),.d aiy (0:Int)]
 |[],i,hd,hi,f,r2,hr=>by
  have hn:(bR (dC c) l).length<=l.length:=jo;have hl:=h.2.1;have hlen:=congrArg List.length hd;rw[agZ,ahC]at hlen;refine zn _ _ _ _ _ ⟨0,?_⟩;unfold ua;rw[bO (by omega),afH,oY (by omega) (by omega)];rfl
 |x::r,i,hd,hi,f,r2,hr=>by
  have hn:(bR (dC c) l).length<=l.length:=jo;have hl:=h.2.1;have hlen:=congrArg List.length hd;rw[agZ,afD]at hlen;have hil:i<(bR (dC c) l).length:=by omega
  have hd2:=afC hil;rw[hd2]at hd;injection hd with e1 e2;have hx:okP 4000 x:=by rw[<-e1];exact h.2.2 _ (dv (afU hil))
  have g1:aG (bR (dC c) l) (i:Int)=some x:=by rw[am,afn hil,e1]
  have ih:=Gi r (i+1) e2 (by omega);refine zn _ _ _ _ _ ?_;unfold ua sQ;rw[aY hil,g1,bH (by omega)];dsimp only;rw[dT (show okP 4000 x/\okP 4000 c.2.2.2.2.1 from⟨hx,h.1.2.2.1⟩),dT (show okP 4000 x/\okP 4000 c.2.2.2.2.2 from⟨hx,h.1.2.2.2⟩)];unfold cZ;cases q1:aF (dec x) (dec c.2.2.2.2.1)==0
  ·cases q2:aF (dec x) (dec c.2.2.2.2.2)==0
   ·obtain⟨n,hn⟩:=ih x (r2++[fc c f x]) (by simp;omega);refine⟨n,?_⟩;rw[afG]at hn;simp only[dV];rw[afH,oY (by omega) (by omega)];exact hn
   ·exact ih f r2 (by omega)
  ·exact ih f r2 (by omega)
theorem YL:∀(j i:Nat),i+j=l.length->BE.Runs 6 (pM c l (i:Int)) [.d (.sl tCU) (bif (l.drop i).any (λp=>!onP (dC c) (dec p))then []else lK c l),.d aiy (bif (l.drop i).any (λp=>!onP (dC c) (dec p))then(1:Int)else 0)]:=by
 intro j;have hl:=h.2.1;induction j with
 |zero=>
  intro i hi;obtain⟨n,hn⟩:=Gi c l h (bR (dC c) l) 0 rfl (ahn _) c.2.2.2.2.1 [] (afs _);refine uE _ _ _ ⟨n,?_⟩;unfold oE;rw[bO (by omega),sR (by omega)];dsimp only;rw[dF (show ¬(-1:Int)>=0 by decide),dT h];exact hn
 |succ j ih=>
  intro i hi;have hil:i<l.length:=by omega
  obtain⟨n,hn⟩:=ih (i+1) (by omega);refine uE _ _ _ ⟨n,?_⟩;unfold oE;rw[aY hil,am,afn hil,show((i:Nat):Int).toNat=i from rfl,afn hil,gU hil,List.any_cons,bH (by omega)];dsimp only;rw[dT (show okC 4000 c/\okP 4000 l[i] from⟨h.1,h.2.2 _ (afU _)⟩)];cases onP (dC c) (dec l[i])
  ·try dsimp only[Bool.not_false]
   rw[dT (show(i:Int)>=0 by omega)];rfl
  ·exact hn
end
def abO:CG (ConL Tryz.prog 9 1) [tCU,(.sl tP)] id:=λ(c:BCU) (l:List BP)=>lf (gI c l) [.d (.sl tCU) (gK c l),.d aiy (De c l)] λh=>by
 have q:=YL c l h l.length 0 (afY _);exact DD KN (acP _ _ q)
end
def Py:List En:=[enT Dy,enT Dh,enT ue,enL Ib,enT ul,enK Oo]
def XV:NT:=[((10,6),{keep:=[1,2,6],hl:=2}),((10,31),{keep:=[2,7,8,9],own:=[(8,39,tCU)],hl:=4})]
def yQ:Ctx:=CX (ens Py) XV
def Bw(c:BCU)(l:List BP)(s6:Int):Cfg:=⟨10,[.blk 0,.seq 23],[(1,.own 0),(2,.box 1 0),(6,SI s6)],[.len tP l,.box 39 [SB c.1,SB c.2.1.1.1.1,.d aix c.2.1.1.1.2,SB c.2.1.1.2.1,.d aix c.2.1.1.2.2,SB c.2.1.2.1.1.1,.d aix c.2.1.2.1.1.2,SB c.2.1.2.1.2.1,.d aix c.2.1.2.1.2.2,SB c.2.1.2.2.1.1,.d aix c.2.1.2.2.1.2,SB c.2.1.2.2.2.1,.d aix c.2.1.2.2.2.2,SB c.2.2.1.1.1.1,.d aix c.2.2.1.1.1.2,SB c.2.2.1.1.2.1,.d aix c.2.2.1.1.2.2,SB c.2.2.1.2.1.1.1,.d aix c.2.2.1.2.1.1.2,SB c.2.2.1.2.1.2.1,.d aix c.2.2.1.2.1.2.2,SB c.2.2.1.2.2.1.1,.d aix c.2.2.1.2.2.1.2,SB c.2.2.1.2.2.2.1,.d aix c.2.2.1.2.2.2.2,SB c.2.2.2.1,SB c.2.2.2.2.1.1.1.1,.d aix c.2.2.2.2.1.1.1.2,SB c.2.2.2.2.1.1.2.1,.d aix c.2.2.2.2.1.1.2.2,SB c.2.2.2.2.1.2.1.1.1,.d aix c.2.2.2.2.1.2.1.1.2,SB c.2.2.2.2.1.2.1.2.1,.d aix c.2.2.2.2.1.2.1.2.2,SB c.2.2.2.2.1.2.2.1.1.1,.d aix c.2.2.2.2.1.2.2.1.1.2,SB c.2.2.2.2.1.2.2.1.2.1,.d aix c.2.2.2.2.1.2.2.1.2.2,SB c.2.2.2.2.1.2.2.2.1.1.1,.d aix c.2.2.2.2.1.2.2.2.1.1.2,SB c.2.2.2.2.1.2.2.2.1.2.1,.d aix c.2.2.2.2.1.2.2.2.1.2.2,SB c.2.2.2.2.1.2.2.2.2.1.1,.d aix c.2.2.2.2.1.2.2.2.2.1.2,SB c.2.2.2.2.1.2.2.2.2.2.1,.d aix c.2.2.2.2.1.2.2.2.2.2.2,SB c.2.2.2.2.2.1.1.1,.d aix c.2.2.2.2.2.1.1.2,SB c.2.2.2.2.2.1.2.1,.d aix c.2.2.2.2.2.1.2.2,SB c.2.2.2.2.2.2.1.1.1,.d aix c.2.2.2.2.2.2.1.1.2,SB c.2.2.2.2.2.2.1.2.1,.d aix c.2.2.2.2.2.2.1.2.2,SB c.2.2.2.2.2.2.2.1.1.1,.d aix c.2.2.2.2.2.2.2.1.1.2,SB c.2.2.2.2.2.2.2.1.2.1,.d aix c.2.2.2.2.2.2.2.1.2.2,SB c.2.2.2.2.2.2.2.2.1.1.1,.d aix c.2.2.2.2.2.2.2.2.1.1.2,SB c.2.2.2.2.2.2.2.2.1.2.1,.d aix c.2.2.2.2.2.2.2.2.1.2.2,SB c.2.2.2.2.2.2.2.2.2.1.1,.d aix c.2.2.2.2.2.2.2.2.2.1.2,SB c.2.2.2.2.2.2.2.2.2.2.1,.d aix c.2.2.2.2.2.2.2.2.2.2.2]],0,[]⟩
def u6(c:BCU)(l:List BP)(s9:Int)(r3:List BCU):Cfg:=⟨10,[.blk 2,.seq 46],[(2,.box 1 0),(7,.d (.sl tP) (fM (dC c) (([c.2.2.2.2.1,c.2.2.2.2.2])++l))),(8,.own 3),(9,SI s9)],[.len tP l,.box 39 [SB c.1,SB c.2.1.1.1.1,.d aix c.2.1.1.1.2,SB c.2.1.1.2.1,.d aix c.2.1.1.2.2,SB c.2.1.2.1.1.1,.d aix c.2.1.2.1.1.2,SB c.2.1.2.1.2.1,.d aix c.2.1.2.1.2.2,SB c.2.1.2.2.1.1,.d aix c.2.1.2.2.1.2,SB c.2.1.2.2.2.1,.d aix c.2.1.2.2.2.2,SB c.2.2.1.1.1.1,.d aix c.2.2.1.1.1.2,SB c.2.2.1.1.2.1,.d aix c.2.2.1.1.2.2,SB c.2.2.1.2.1.1.1,.d aix c.2.2.1.2.1.1.2,SB c.2.2.1.2.1.2.1,.d aix c.2.2.1.2.1.2.2,SB c.2.2.1.2.2.1.1,.d aix c.2.2.1.2.2.1.2,SB c.2.2.1.2.2.2.1,.d aix c.2.2.1.2.2.2.2,SB c.2.2.2.1,SB c.2.2.2.2.1.1.1.1,.d aix c.2.2.2.2.1.1.1.2,SB c.2.2.2.2.1.1.2.1,.d aix c.2.2.2.2.1.1.2.2,SB c.2.2.2.2.1.2.1.1.1,.d aix c.2.2.2.2.1.2.1.1.2,SB c.2.2.2.2.1.2.1.2.1,.d aix c.2.2.2.2.1.2.1.2.2,SB c.2.2.2.2.1.2.2.1.1.1,.d aix c.2.2.2.2.1.2.2.1.1.2,SB c.2.2.2.2.1.2.2.1.2.1,.d aix c.2.2.2.2.1.2.2.1.2.2,SB c.2.2.2.2.1.2.2.2.1.1.1,.d aix c.2.2.2.2.1.2.2.2.1.1.2,SB c.2.2.2.2.1.2.2.2.1.2.1,.d aix c.2.2.2.2.1.2.2.2.1.2.2,SB c.2.2.2.2.1.2.2.2.2.1.1,.d aix c.2.2.2.2.1.2.2.2.2.1.2,SB c.2.2.2.2.1.2.2.2.2.2.1,.d aix c.2.2.2.2.1.2.2.2.2.2.2,SB c.2.2.2.2.2.1.1.1,.d aix c.2.2.2.2.2.1.1.2,SB c.2.2.2.2.2.1.2.1,.d aix c.2.2.2.2.2.1.2.2,SB c.2.2.2.2.2.2.1.1.1,.d aix c.2.2.2.2.2.2.1.1.2,SB c.2.2.2.2.2.2.1.2.1,.d aix c.2.2.2.2.2.2.1.2.2,SB c.2.2.2.2.2.2.2.1.1.1,.d aix c.2.2.2.2.2.2.2.1.1.2,SB c.2.2.2.2.2.2.2.1.2.1,.d aix c.2.2.2.2.2.2.2.1.2.2,SB c.2.2.2.2.2.2.2.2.1.1.1,.d aix c.2.2.2.2.2.2.2.2.1.1.2,SB c.2.2.2.2.2.2.2.2.1.2.1,.d aix c.2.2.2.2.2.2.2.2.1.2.2,SB c.2.2.2.2.2.2.2.2.2.1.1,.d aix c.2.2.2.2.2.2.2.2.2.1.2,SB c.2.2.2.2.2.2.2.2.2.2.1,.d aix c.2.2.2.2.2.2.2.2.2.2.2],.gone,.row 39 tCU r3],0,[]⟩
def aaE(c:BCU)(l:List BP)(k:KT):OLR:=k 6 (Bw c l 0)
theorem abr(c:BCU)(l:List BP):RSL yQ 10 1 [.d tCU c,.d (.sl tP) l] (aaE c l):=RO
def wA(c:BCU)(l:List BP)(s6:Int)(k:KT):OLR:=match decide (s6<(l.length:Int))with|true=>(match aG l s6 with|some _=>(match true,l[(s6).toNat]? with|true,some x1=>(og (decide (okC 3500 c/\okP 3500 x1)) (match !(onR (dC c) (dec x1))with|true=>some [RV.d (.sl tCU) ([]),RV.d aiy 1]|false=>k 6 (Bw c l (i64.wrap (s6+1)))))|_,_=>none)|none=>none)|false=>(og (decide ((([c.2.2.2.2.1,c.2.2.2.2.2]).length+l.length)*320<=140737488355328/\([c.2.2.2.2.1,c.2.2.2.2.2]).length+l.length<=140737488355328)) (og (decide (uY c (([c.2.2.2.2.1,c.2.2.2.2.2])++l))) (k 31 (u6 c l 1 ([])))))
theorem Dk(c:BCU)(l:List BP)(s6:Int):RN yQ 6 (Bw c l s6) (wA c l s6):=rnX
def tX(c:BCU)(l:List BP)(s9:Int)(r3:List BCU)(k:KT):OLR:=match decide (s9<((fM (dC c) (([c.2.2.2.2.1,c.2.2.2.2.2])++l)).length:Int))with|true=>(match aG (fM (dC c) (([c.2.2.2.2.1,c.2.2.2.2.2])++l)) (i64.wrap (s9-1))with|some x1=>(match aG (fM (dC c) (([c.2.2.2.2.1,c.2.2.2.2.2])++l)) s9 with|some x2=>dup (.b .l .l) (og (decide ((r3.length+([(c.1,(c.2.1,(c.2.2.1,(c.2.2.2.1,(x1,x2)))))]).length)*1040<=140737488355328/\r3.length+([(c.1,(c.2.1,(c.2.2.1,(c.2.2.2.1,(x1,x2)))))]).length<=140737488355328)) (k 31 (u6 c l (i64.wrap (s9+1)) (r3++([(c.1,(c.2.1,(c.2.2.1,(c.2.2.2.1,(x1,x2)))))])))))|none=>none)|none=>none)|false=>some [RV.d (.sl tCU) r3,RV.d aiy 0]
theorem zC(c:BCU)(l:List BP)(s9:Int)(r3:List BCU):RN yQ 31 (u6 c l s9 r3) (tX c l s9 r3):=rnX
theorem WZ(c:BCU)(l:List BP)(hle:l.length<=900000)(S:List BP)(hS:S=mz c l):∀(j i:Nat),1<=i->i+j=max S.length 1->∀out:List BCU,out.length<=i->yQ.Runs 31 (u6 c l (i:Int) out) [.d (.sl tCU) (out++fj c (S.drop (i-1))),.d aiy (0:Int)]:=by
 have hSl:=Bh c l;rw[<-hS]at hSl;have eS:fM (dC c) ([c.2.2.2.2.1,c.2.2.2.2.2]++l)=S:=hS.symm;intro j;induction j with
 |zero=>
  intro i h1 hi out hlen;refine zC _ _ _ _ ⟨0,?_⟩;unfold tX;rw[eS,bO (by omega)]
  have:fj c (S.drop (i-1))=[]:=by
   have hl:(S.drop (i-1)).length<=1:=by rw[agZ];omega
   match S.drop (i-1),hl with
   |[],_=>rfl
   |[_],_=>rfl
   |_::_::_,h=>simp at h
  rw[this,afO]
 |succ j ih=>
  intro i h1 hi out hlen;have hil:i<S.length:=by omega
  have e1:i64.wrap ((i:Int)-1)=((i-1:Nat):Int):=by rw[aM (by omega) (by omega)];omega
  have e2:i64.wrap ((i:Int)+1)=((i+1:Nat):Int):=bH (by omega);have g1:aG S ((i-1:Nat):Int)=some S[i-1]:=by rw[am,afn (by omega)]
  have g2:aG S (i:Int)=some S[i]:=by rw[am,afn hil]
  obtain⟨n,hn⟩:=ih (i+1) (by omega) (by omega) (out++[fc c S[i-1] S[i]]) (by simp;omega);refine zC _ _ _ _ ⟨n,?_⟩;unfold tX;rw[eS];simp only[dV,aY hil,e1,e2,g1,g2];rw[dT (by simp;omega)]
  have hd:S.drop (i-1)=S[i-1]::S.drop i:=by
   have:=afC (l:=S) (i:=i-1) (by omega);rw[this,show i-1+1=i by omega]
  have hd2:S.drop i=S[i]::S.drop (i+1):=afC hil;rw[hd,hd2];rw[show i+1-1=i by omega,hd2,afG]at hn;exact hn
theorem WP(c:BCU)(l:List BP)(h:ye c l):∀(j i:Nat),i+j=l.length->yQ.Runs 6 (Bw c l (i:Int)) [.d (.sl tCU) (gr c l),.d aiy (0:Int)]:=by
 have hs:=Gr h;obtain⟨hc,hle,hl⟩:=h;intro j;induction j with
 |zero=>
  intro i hi;obtain⟨n,hn⟩:=WZ c l hle (mz c l) rfl (max (mz c l).length 1-1) 1 (afs _) (by omega) [] (by simp);refine Dk _ _ _ ⟨n,?_⟩;unfold wA;rw[bO (by omega),dT (by simp;omega),dT hs];exact hn
 |succ j ih=>
  intro i hi;have hil:i<l.length:=by omega
  obtain⟨n,hn⟩:=ih (i+1) (by omega);have h1:=hl _ (afU hil);refine Dk _ _ _ ⟨n,?_⟩;unfold wA;rw[aY hil,am,afn hil,show((i:Nat):Int).toNat=i from rfl,afn hil,bH (by omega)];dsimp only;rw[dT (show okC 3500 c/\okP 3500 l[i] from⟨hc,h1.1⟩),h1.2];exact hn
def ab3:CG (ConL Tryz.prog 10 1) [tCU,(.sl tP)] id:=λ(c:BCU) (l:List BP)=>lf (ye c l) [.d (.sl tCU) (gr c l),.d aiy 0] λh=>by
 refine DD Py (p:=1) (show yQ.ResL _ _ _ _ from ?_);obtain⟨n,hn⟩:=WP c l h l.length 0 (by omega);exact abr _ _ ⟨n,hn⟩
section
theorem Qo{c:BCU}{a b a' b':BP}(e1:aF (dec a) (dec a')=0)(e2:aF (dec b) (dec b')=0):Ep (dC (fc c a b)) (dC (fc c a' b'))=true:=by
 have s:cG (dC (fc c a b)) (dC (fc c a' b'))=true:=MX (dC c);unfold Ep;rw[s];show(true&&(c.2.2.2.1==c.2.2.2.1&&(aF (dec a) (dec a')==0&&aF (dec b) (dec b')==0)))=true;rw[e1,e2];simp
theorem NS{c:BCU}(h:gdN c){x y:BP}(hx:okP 580 x/\Spb (dC c) x)(hy:okP 580 y/\Spb (dC c) y)(hr:bz (dC c) (dec x) (dec y)<0):gdN (fc c x y):=by
 have o:=qI (qf h.gd);refine⟨⟨⟨h.1.1.1,h.1.1.2.1,hx.1,hy.1⟩,h.1.2⟩,hx.2.2,hy.2.2,λg=>?_⟩;have:=o.irr hx.2 hy.2 g;omega
theorem JG(c:BCU)(l:List BP):(eH c l).length=(nL c (bR (dC c) l)).length+2:=by unfold eH;simp
theorem R5(c:BCU)(l:List BP):(lK c l).length=(nL c (bR (dC c) l)).length+1:=by rw[so,vM,JG];rfl
section
variable {c:BCU} (h:gdN c) {l:List BP} (ho:∀x∈l,okP 580 x/\onR (dC c) (dec x)=true)
include h ho
theorem Ot:(lK c l).length=(gr c l).length:=by
 have e:=Kr h (λx hx=>⟨fd (ho x hx).1,(ho x hx).2⟩) λx hx=>(ho x hx).1;unfold gr;rw[so,vM,vM,e.1]
theorem AV{i:Nat}(hi:i<(lK c l).length):∃a b a' b',(lK c l)[i]?=some (fc c a b)/\(gr c l)[i]?=some (fc c a' b')/\(eH c l)[i]?=some a/\(eH c l)[i+1]?=some b/\gdN (fc c a b)/\gdN (fc c a' b')/\aF (dec a) (dec a')=0/\aF (dec b) (dec b')=0:=by
 have ho':∀x∈l,Rpd (dec x:Pt)/\onR (dC c) (dec x)=true:=λx hx=>⟨fd (ho x hx).1,(ho x hx).2⟩
 have e:=Kr h ho' λx hx=>(ho x hx).1;have hi':i<(gr c l).length:=by rw[<-Ot h ho];exact hi
 have g1:(fj c (eH c l))[i]?=some (lK c l)[i]:=by rw[<-so];exact afn hi
 have g2:(fj c (mz c l))[i]?=some (gr c l)[i]:=afn hi';obtain⟨a,b,a1,b1,q1⟩:=Fs c _ _ _ g1;obtain⟨a',b',a2,b2,q2⟩:=Fs c _ _ _ g2
 have m5:∀x∈eH c l,okP 580 x/\Spb (dC c) x:=λx hx=>⟨by
  rcases sJ hx with e|e|⟨e,_⟩
  ·rw[e];exact h.1.1.2.2.1
  ·rw[e];exact h.1.1.2.2.2
  ·exact(ho x (dv e)).1,(sP h ho' x hx).1⟩
 have p1:=vp h ho';have p2:=EC h ho
 have at_:∀{s:List BP} {x y:BP},s.Pairwise (λa b=>bz (dC c) (dec a) (dec b)<0)->s[i]?=some x->s[i+1]?=some y->bz (dC c) (dec x) (dec y)<0:=λ{s x y} hp h1 h2=>by
  obtain⟨k1,e1⟩:=afx.1 h1;obtain⟨k2,e2⟩:=afx.1 h2;have:=List.pairwise_iff_getElem.1 hp i (i+1) k1 k2 (Nat.lt_succ_self i);rw[e1,e2]at this;exact this
 refine⟨a,b,a',b',by rw[afn hi,q1],by rw[afn hi',q2],a1,b1,?_,?_,e.2 i a a' a1 a2,e.2 (i+1) b b' b1 b2⟩
 ·exact NS h (m5 a (afV a1)) (m5 b (afV b1)) (at_ p1 a1 b1)
 ·exact NS h (tg h ho a' (afV a2)) (tg h ho b' (afV b2)) (at_ p2 a2 b2)
end
theorem Wj(c:BCU)(l:List BP):(eH c l)[0]?=some c.2.2.2.2.1:=rfl
theorem Y4(c:BCU)(l:List BP):(eH c l)[(nL c (bR (dC c) l)).length+1]?=some c.2.2.2.2.2:=by
 unfold eH;rw[afP];simp
def SJ:List En:=[enT aav,enL WQ,enL Vr,enT W8,enT ue,enT Dh,enB 1 abO,enB 1 ab3]
def BW:NT:=[((3,38),{keep:=[7,9,17,18,20,100,101],hl:=7})]
def qH:Ctx:=CX (ens SJ) BW
def ia(x y z:Pce)(s101:Int):Cfg:=⟨3,[.blk 0,.seq 57],[(7,.box 3 0),(9,.box 4 0),(17,.own 6),(18,.d (.sl tCU) (gK (hid (aC x)) (((([]:List BP)++(bU (hid (aC x)) (hid (aC z))))++(bU (hid (aC x)) (hid (aC y))))++(bU (hid (aC x)) (hid (aC z)))))),(20,.d (.sl tCU) (gr (hid (aC x)) (((([]:List BP)++(bU (hid (aC x)) (hid (aC z))))++(bU (hid (aC x)) (hid (aC y))))++(bU (hid (aC x)) (hid (aC z)))))),(100,SI ((gK (hid (aC x)) (((([]:List BP)++(bU (hid (aC x)) (hid (aC z))))++(bU (hid (aC x)) (hid (aC y))))++(bU (hid (aC x)) (hid (aC z))))).length:Int)),(101,SI s101)],[.box 26 (Ty.split nE x),.box 26 (Ty.split nE y),.box 26 (Ty.split nE z),.box 39 (Ty.split tCU (hid (aC x))),.box 39 (Ty.split tCU (hid (aC y))),.box 39 (Ty.split tCU (hid (aC z))),.row 37 tP (((([]:List BP)++(bU (hid (aC x)) (hid (aC z))))++(bU (hid (aC x)) (hid (aC y))))++(bU (hid (aC x)) (hid (aC z))))],0,[]⟩
def wc(x y z:Pce)(k:KT):OLR:=og (decide (uT x)) (og (decide (uT y)) (og (decide (uT z)) (match !(t5 x)with|true=>some [RV.d .bool true]|false=>(match !(t5 y)with|true=>some [RV.d .bool true]|false=>(match !(t5 z)with|true=>some [RV.d .bool true]|false=>(og (decide (gi (hid (aC x)) (hid (aC y)))) (og (decide (gi (hid (aC x)) (hid (aC z)))) (og (decide ((([]:List BP).length+(bU (hid (aC x)) (hid (aC z))).length)*320<=140737488355328/\([]:List BP).length+(bU (hid (aC x)) (hid (aC z))).length<=140737488355328)) (og (decide (((([]:List BP)++(bU (hid (aC x)) (hid (aC z)))).length+(bU (hid (aC x)) (hid (aC y))).length)*320<=140737488355328/\(([]:List BP)++(bU (hid (aC x)) (hid (aC z)))).length+(bU (hid (aC x)) (hid (aC y))).length<=140737488355328)) (og (decide ((((([]:List BP)++(bU (hid (aC x)) (hid (aC z))))++(bU (hid (aC x)) (hid (aC y)))).length+(bU (hid (aC x)) (hid (aC z))).length)*320<=140737488355328/\((([]:List BP)++(bU (hid (aC x)) (hid (aC z))))++(bU (hid (aC x)) (hid (aC y)))).length+(bU (hid (aC x)) (hid (aC z))).length<=140737488355328)) (og (decide (gI (hid (aC x)) (((([]:List BP)++(bU (hid (aC x)) (hid (aC z))))++(bU (hid (aC x)) (hid (aC y))))++(bU (hid (aC x)) (hid (aC z)))))) (og (decide (ye (hid (aC x)) (((([]:List BP)++(bU (hid (aC x)) (hid (aC z))))++(bU (hid (aC x)) (hid (aC y))))++(bU (hid (aC x)) (hid (aC z)))))) (match(De (hid (aC x)) (((([]:List BP)++(bU (hid (aC x)) (hid (aC z))))++(bU (hid (aC x)) (hid (aC y))))++(bU (hid (aC x)) (hid (aC z))))) !=0 with|true=>some [RV.d .bool false]|false=>(match 0 !=0 with|true=>some [RV.d .bool false]|false=>(match((gK (hid (aC x)) (((([]:List BP)++(bU (hid (aC x)) (hid (aC z))))++(bU (hid (aC x)) (hid (aC y))))++(bU (hid (aC x)) (hid (aC z))))).length:Int) !=((gr (hid (aC x)) (((([]:List BP)++(bU (hid (aC x)) (hid (aC z))))++(bU (hid (aC x)) (hid (aC y))))++(bU (hid (aC x)) (hid (aC z))))).length:Int)with|true=>some [RV.d .bool false]|false=>k 38 (ia x y z 0))))))))))))))))
theorem EJ(x y z:Pce):RS qH 3 [.d nE x,.d nE y,.d nE z] (wc x y z):=rsX
def kN(x y z:Pce)(s101:Int)(k:KT):OLR:=match decide (s101<((gK (hid (aC x)) (((([]:List BP)++(bU (hid (aC x)) (hid (aC z))))++(bU (hid (aC x)) (hid (aC y))))++(bU (hid (aC x)) (hid (aC z))))).length:Int))with|true=>(match aG (gK (hid (aC x)) (((([]:List BP)++(bU (hid (aC x)) (hid (aC z))))++(bU (hid (aC x)) (hid (aC y))))++(bU (hid (aC x)) (hid (aC z))))) s101 with|some x1=>(match aG (gr (hid (aC x)) (((([]:List BP)++(bU (hid (aC x)) (hid (aC z))))++(bU (hid (aC x)) (hid (aC y))))++(bU (hid (aC x)) (hid (aC z))))) s101 with|some x2=>(og (decide (gi x1 x2)) (match !(CM (dC x1)&&Ep (dC x1) (dC x2))with|true=>some [RV.d .bool false]|false=>(match decide (s101>0)with|true=>(match aG (gK (hid (aC x)) (((([]:List BP)++(bU (hid (aC x)) (hid (aC z))))++(bU (hid (aC x)) (hid (aC y))))++(bU (hid (aC x)) (hid (aC z))))) (i64.wrap (s101-1))with|some x3=>(match aG (gK (hid (aC x)) (((([]:List BP)++(bU (hid (aC x)) (hid (aC z))))++(bU (hid (aC x)) (hid (aC y))))++(bU (hid (aC x)) (hid (aC z))))) s101 with|some x4=>(og (decide (okP 4000 x3.2.2.2.2.2/\okP 4000 x4.2.2.2.2.1)) (match !(aF (dec x3.2.2.2.2.2) (dec x4.2.2.2.2.1)==0)with|true=>some [RV.d .bool false]|false=>k 38 (ia x y z (i64.wrap (s101+1)))))|none=>none)|none=>none)|false=>k 38 (ia x y z (i64.wrap (s101+1))))))|none=>none)|none=>none)|false=>(og (decide (((((([]:List BP)++(bU (hid (aC x)) (hid (aC z))))++(bU (hid (aC x)) (hid (aC y))))++(bU (hid (aC x)) (hid (aC z)))).length+([(((((hid (aC y)).2).2).2).2).1]).length)*320<=140737488355328/\(((([]:List BP)++(bU (hid (aC x)) (hid (aC z))))++(bU (hid (aC x)) (hid (aC y))))++(bU (hid (aC x)) (hid (aC z)))).length+([(((((hid (aC y)).2).2).2).2).1]).length<=140737488355328)) (og (decide (gI (hid (aC x)) ((((([]:List BP)++(bU (hid (aC x)) (hid (aC z))))++(bU (hid (aC x)) (hid (aC y))))++(bU (hid (aC x)) (hid (aC z))))++([(((((hid (aC y)).2).2).2).2).1])))) (og (decide (okC 3500 (hid (aC x))/\okP 3500 ((((((hid (aC y)).2).2).2).2).1))) (match((De (hid (aC x)) ((((([]:List BP)++(bU (hid (aC x)) (hid (aC z))))++(bU (hid (aC x)) (hid (aC y))))++(bU (hid (aC x)) (hid (aC z))))++([(((((hid (aC y)).2).2).2).2).1])))==1)==(!(onR (dC (hid (aC x))) (dec ((((((hid (aC y)).2).2).2).2).1))))with|true=>(match aG (gK (hid (aC x)) (((([]:List BP)++(bU (hid (aC x)) (hid (aC z))))++(bU (hid (aC x)) (hid (aC y))))++(bU (hid (aC x)) (hid (aC z))))) 0 with|some x1=>(og (decide (okP 4000 x1.2.2.2.2.1/\okP 4000 ((((((hid (aC x)).2).2).2).2).1))) (match aF (dec x1.2.2.2.2.1) (dec ((((((hid (aC x)).2).2).2).2).1))==0 with|true=>(match aG (gK (hid (aC x)) (((([]:List BP)++(bU (hid (aC x)) (hid (aC z))))++(bU (hid (aC x)) (hid (aC y))))++(bU (hid (aC x)) (hid (aC z))))) (i64.wrap (((gK (hid (aC x)) (((([]:List BP)++(bU (hid (aC x)) (hid (aC z))))++(bU (hid (aC x)) (hid (aC y))))++(bU (hid (aC x)) (hid (aC z))))).length:Int)-1))with|some x2=>(og (decide (okP 4000 x2.2.2.2.2.2/\okP 4000 ((((((hid (aC x)).2).2).2).2).2))) (some [RV.d .bool (aF (dec x2.2.2.2.2.2) (dec ((((((hid (aC x)).2).2).2).2).2))==0)]))|none=>none)|false=>some [RV.d .bool false]))|none=>none)|false=>some [RV.d .bool false]))))
theorem ov(x y z:Pce)(s101:Int):RN qH 38 (ia x y z s101) (kN x y z s101):=rnX
theorem vt{n m k:Nat}(h1:n+m<=100000000)(hk:k<=1000000):decide ((n+m)*k<=140737488355328/\n+m<=140737488355328)=true:=by
 refine afm ⟨?_,by omega⟩;have:=ahj h1 hk;omega
theorem Wd(x y z:Pce){c d:BCU}{l:List BP}(ec:aC x=c)(ed:aC y=d)(el:((([]:List BP)++bU (aC x) (aC z))++bU (aC x) (aC y))++bU (aC x) (aC z)=l)(h:gdN c)(hd:gdN d)(hw:c.1=false->c.2.2.2.1=false)(ho:∀p∈l,okP 580 p/\onR (dC c) (dec p)=true)(hl:l.length<=12):∀(j i:Nat),i+j=(lK c l).length->qH.Runs 38 (ia x y z (i:Int)) [.d .bool true]:=by
 have ho':∀p∈l,Rpd (dec p:Pt)/\onR (dC c) (dec p)=true:=λp hp=>⟨fd (ho p hp).1,(ho p hp).2⟩
 have hV:gK c l=lK c l:=by unfold gK;rw[xl h ho'];rfl
 have sl:=R5 c l
 have hsm:(lK c l).length<=20:=by
  have:(bR (dC c) l).length<=l.length:=jo;have:(nL c (bR (dC c) l)).length<=(bR (dC c) l).length:=List.length_filter_le _ _;omega
 intro j;induction j with
 |zero=>
  intro i hi;refine ov _ _ _ _ ⟨0,?_⟩;unfold kN;simp only[bL];rw[el,ec,ed,hV,bO (by omega)];dsimp only;obtain⟨a0,b0,_,_,k1,_,k2,_,k3,_⟩:=AV h ho (i:=0) (by omega);obtain⟨a1,b1,_,_,l1,_,_,l2,l3,_⟩:=AV h ho (i:=(lK c l).length-1) (by omega);rw[Wj]at k2;rw[show(lK c l).length-1+1=(nL c (bR (dC c) l)).length+1 by omega,Y4]at l2;injection k2 with k2;injection l2 with l2;subst k2 l2
  have o4:∀p∈l++[d.2.2.2.2.1],okP 4000 p:=λp hp=>by
   rcases afL.1 hp with e|e
   ·exact cp (ho p e).1 (by decide) (by decide)
   ·rw[ago.1 e];exact cp hd.1.1.2.2.1 (by decide) (by decide)
  have c4:okC 4000 c:=bZ h.1.1 (by decide) (by decide)
  have hN:De c (l++[d.2.2.2.2.1])=bif onR (dC c) (dec d.2.2.2.2.1)then 0 else 1:=by
   have r:Rpd (dec d.2.2.2.2.1:Pt):=fd hd.1.1.2.2.1;have e:=xl h ho';unfold De;unfold Ip at*
   rw[List.any_append,e,<-eU h.crp r];simp only[List.any_cons,List.any_nil,Bool.or_false,Bool.false_or];cases onP (dC c) (dec d.2.2.2.2.1)<;>rfl
  rw[vt (by simp;omega) (by omega),dT (show gI c (l++[d.2.2.2.2.1]) from⟨c4,by simp;omega,o4⟩),dT (show okC 3500 c/\okP 3500 d.2.2.2.2.1 from⟨bZ h.1.1 (by decide) (by decide),cp hd.1.1.2.2.1 (by decide) (by decide)⟩),hN];have e1:i64.wrap (((lK c l).length:Int)-1)=(((lK c l).length-1:Nat):Int):=by rw[aM (by omega) (by omega)];omega
  have f0:aG (lK c l) 0=some (fc c c.2.2.2.2.1 b0):=k1;have e2:((bif onR (dC c) (dec d.2.2.2.2.1)then(0:Int)else 1)==1)==!(onR (dC c) (dec d.2.2.2.2.1)):=by cases onR (dC c) (dec d.2.2.2.2.1)<;>rfl
  have pf:∀{q:BP},okP 580 q->okP 4000 q:=λhq=>cp hq (by decide) (by decide)
  have rf:∀{q:BP},okP 580 q->(aF (dec q) (dec q)==0)=true:=λ{q} hq=>by
   have r:Rpd (dec q:Pt):=fd hq;rw[D0 r];rfl
  have e3:(fc c c.2.2.2.2.1 b0).2.2.2.2.1=c.2.2.2.2.1:=rfl;have e4:(fc c a1 c.2.2.2.2.2).2.2.2.2.2=c.2.2.2.2.2:=rfl;rw[e2,f0,e1,am,l1];dsimp only;rw[e3,e4,dT (show okP 4000 c.2.2.2.2.1/\okP 4000 c.2.2.2.2.1 from⟨pf h.1.1.2.2.1,pf h.1.1.2.2.1⟩),rf h.1.1.2.2.1,dT (show okP 4000 c.2.2.2.2.2/\okP 4000 c.2.2.2.2.2 from⟨pf h.1.1.2.2.2,pf h.1.1.2.2.2⟩),rf h.1.1.2.2.2]
 |succ j ih=>
  intro i hi;obtain⟨n,hn⟩:=ih (i+1) (by omega);have hil:i<(lK c l).length:=by omega
  obtain⟨a,b,a',b',k1,k2,k3,k4,k5,k6,k7,k8⟩:=AV h ho hil;have hv:=Zr k5 hw;refine ov _ _ _ _ ⟨n,?_⟩;unfold kN;simp only[bL];rw[el,ec,hV,aY hil,am,k1,am,k2];dsimp only;rw[dT (show gi (fc c a b) (fc c a' b') from⟨k5.1,k6.1⟩),hv,Qo k7 k8,bH (by omega)];by_cases h0:i=0
  ·subst h0;rw[dF (show ¬(((0:Nat):Int)>0) by decide)];exact hn
  ·obtain⟨a0,b0,_,_,m1,_,_,m4,m5,_⟩:=AV h ho (i:=i-1) (by omega);rw[show i-1+1=i by omega,k3]at m4;injection m4 with m4;subst m4;have e1:i64.wrap ((i:Int)-1)=((i-1:Nat):Int):=by rw[aM (by omega) (by omega)];omega
   have oa:okP 580 a:=m5.1.1.2.2.2;have ra:Rpd (dec a:Pt):=fd oa;have e3:(fc c a0 a).2.2.2.2.2=a:=rfl;have e4:(fc c a b).2.2.2.2.1=a:=rfl;have o4:okP 4000 a:=cp oa (by decide) (by decide);rw[dT (show(i:Int)>0 by omega),e1,am,m1];dsimp only;rw[e3,e4,dT (show okP 4000 a/\okP 4000 a from⟨o4,o4⟩),D0 ra];exact hn
theorem Rp(x y z:Pce)(hx:Ty.ok nE x)(hy:Ty.ok nE y)(hz:Ty.ok nE z):CQq7 3 [.d nE x,.d nE y,.d nE z] [.d .bool true]:=by
 have h1:=Er hx;have h2:=Er hy;have h3:=Er hz;refine dm SJ (EJ _ _ _ ?_);unfold wc;simp only[bL];rw[dT h1,dT h2,dT h3];cases hp:t5 x
 ·exact⟨0,rfl⟩
 ·cases hq:t5 y
  ·exact⟨0,rfl⟩
  ·cases hr:t5 z
   ·exact⟨0,rfl⟩
   ·have g1:=z9 h1 hp;have g2:=z9 h2 hq;have g3:=z9 h3 hr;obtain⟨l2,o2⟩:=uZ (show gi (aC x) (aC y) from⟨g1.1,g2.1⟩);obtain⟨l3,o3⟩:=uZ (show gi (aC x) (aC z) from⟨g1.1,g3.1⟩);generalize el:((([]:List BP)++bU (aC x) (aC z))++bU (aC x) (aC y))++bU (aC x) (aC z)=l;have hl:l.length<=12:=by rw[<-el];simp only[afN,ahC];omega
    have ho:∀p∈l,okP 580 p/\onR (dC (aC x)) (dec p)=true:=λp hp=>by
     rw[<-el]at hp;simp only[ahP,afL]at hp;rcases hp with(hp|hp)|hp
     ·exact⟨(o3 p hp).1,(o3 p hp).2.1⟩
     ·exact⟨(o2 p hp).1,(o2 p hp).2.1⟩
     ·exact⟨(o3 p hp).1,(o3 p hp).2.1⟩
    have ho':∀p∈l,Rpd (dec p:Pt)/\onR (dC (aC x)) (dec p)=true:=λp hp=>⟨fd (ho p hp).1,(ho p hp).2⟩
    obtain⟨n,hn⟩:=Wd x y z rfl rfl el g1 g2 (XB h1 hp) ho hl (lK (aC x) l).length 0 (afY _);refine⟨n,?_⟩;have hV:gK (aC x) l=lK (aC x) l:=by unfold gK;rw[xl g1 ho'];rfl
    have hN:De (aC x) l=0:=by unfold De;rw[xl g1 ho'];rfl
    have o4:∀p∈l,okP 4000 p:=λp hp=>cp (ho p hp).1 (by decide) (by decide);rw[dT (show gi (aC x) (aC y) from⟨g1.1,g2.1⟩),dT (show gi (aC x) (aC z) from⟨g1.1,g3.1⟩),vt (by simp;omega) (by omega),vt (by simp;omega) (by omega),vt (by simp;omega) (by omega),dT (show gI (aC x) l from⟨bZ g1.1.1 (by decide) (by decide),by omega,o4⟩),dT (Hl g1 (l:=l) (by omega) ho),hV,hN,Ot g1 ho];simp only[bne_self_eq_false];exact hn
end
section
open Go.ChangeShapes Go.WideShapes Go.ChangeAt Go.WideMaps Go.WideElems Go.RowKit Go.Maps
section
variable {H:Type} {enc:TypeId×Value->H} {P:Program}
theorem yi{f:Func}{s:ChangeSpec}{apart fresh handsOn again:Bool}{W W':World}{args:Array Value}{v:Value}{ds gs:List (DataW H)}{before pa pv:List MemPlace}
  (hW:DataW.Whole enc P f.params.toList s.vars apart W args.toList ds gs before)
  (hres:∀(b:Nat) (sp:Nat->Bool) (hd:Bool),DataW.TrodAll enc P W' b sp hd f.resultTypes.toList (v.resultList f.resultTypes.size) (s.fn H (ds++gs)).results [])
  (hargs:∀sp:Nat->Bool,(∀p∈before,sp p.block=true)->DataW.TrodAll enc P W' 0 sp true f.params.toList args.toList (s.fn H (ds++gs)).args pa)
  (hvars:∀sp:Nat->Bool,(∀p∈before,sp p.block=true)->DataW.TrodVars enc P W' sp s.vars (s.fn H (ds++gs)).vars pv)
  (hps:before=pa++pv) (hb:Below W.heap.size W W')
  (hok:∀(j:Nat) (t:TypeId) (r:Value),f.resultTypes[j]?=some t->(v.resultList f.resultTypes.size)[j]?=some r->Value.okWide P W' .any 0 t r):
  s.post enc P f apart fresh handsOn again W args v W':=by
 have hlt:∀p∈before,p.block<W.heap.size:=λp hp=>hW.lt p hp;have hold:∀p∈before,(λb=>decide (b<W.heap.size)) p.block=true:=λp hp=>by simpa using hlt p hp
 refine⟨ds,gs,before,[],pa,pv,hW,hres _ _ _,hargs _ hold,hvars _ hold,World.keptBut_mono (λp hp=>⟨hp,?_⟩) (hb.frame (·∈before)),λ_=>?_⟩
 ·grind
 ·obtain⟨_,_,_,_,_,hz,hn⟩:=hW;refine⟨hok,_,_,([]++pa)++pv,⟨[]++pa,pv,trodAll_append (hargs _ (λ_ _=>rfl)) (hres _ _ _),hvars _ (λ_ _=>rfl),rfl,?_,?_⟩,?_⟩
  ·intro b off hp;have hin:MemPlace.cell b off∈before:=by rw[hps];simpa using hp
   rw[hb.frozen (hlt _ hin)];exact hz b off hin
  ·grind
  grind
end
theorem L7:laidOutB Tryz.prog=true:=by kernel_rfl
theorem pT{H:Type}{enc:TypeId×Value->H}{P:Program}(hl:laidOutB P=true){W W':World}{sp:Nat->Bool}:∀(ts:List TypeId) (vs:List Value) (ds:List (DataW H)) (ps:List MemPlace),
  (ts.all λt=>P.readableRec t&&Nat.ble (t+1) P.types.size)=true->DataW.TrodAll enc P W 0 (λ_=>true) true ts vs ds ps->(∀p∈ps,W.sameAt W' p)->(∀p∈ps,sp p.block=true)->DataW.TrodAll enc P W' 0 sp true ts vs ds ps
 |[],vs,ds,ps,_,h,_,_=>by obtain⟨rfl,rfl,rfl⟩:=trodAll_nil h;exact trodAll_mk0
 |t::ts,vs,ds,ps,ht,h,hs,hp=>by
  obtain⟨v,vs',d,ds',p,q,rfl,rfl,rfl,h0,h1⟩:=trodAll_cons h;simp only[ahE,afr]at ht
  exact trodAll_cons_mk (Trod_stays hl ht.1.1 (aft ht.1.2) h0 (λx hx=>hs x (ags _ hx)) (λx hx=>hp x (ags _ hx)))
   (pT hl ts vs' ds' q ht.2 h1 (λx hx=>hs x (ag9 _ hx)) (λx hx=>hp x (ag9 _ hx)))
set_option maxRecDepth 100000 in
theorem Ob{H:Type}{enc:TypeId×Value->H}{f:Func}{s:ChangeSpec}{apart fresh handsOn again:Bool}{W W':World}{args:Array Value}{ds:List (DataW H)}{before:List MemPlace}
  (hW:DataW.Whole enc Tryz.prog f.params.toList s.vars apart W args.toList ds [] before) (hv:s.vars=[]) (hr:f.resultTypes= #[4]) (hfn:(s.fn H (ds++[])).results=[.lit (.bool true)]/\(s.fn H (ds++[])).args=ds/\(s.fn H (ds++[])).vars=[])
  (hp:(f.params.toList.all λt=>Tryz.prog.readableRec t&&Nat.ble (t+1) Tryz.prog.types.size)=true) (hb:Below W.heap.size W W'):s.post enc Tryz.prog f apart fresh handsOn again W args (.bool true) W':=by
 have hW':=hW;obtain⟨p,q,hA,hV,rfl,hfz,hnd⟩:=hW
 have hq:q=[]:=by
  rw[hv]at hV;exact(trodVars_none hV).2
 subst hq;have hlt:∀x∈p,x.block<W.heap.size:=λx hx=>hW'.lt x (by simpa using hx);refine yi (pa:=p) (pv:=[]) hW' ?_ ?_ ?_ rfl hb ?_
 ·intro b sp hd;rw[hr,hfn.1];exact trodAll_mk1 (shut_bool Tryz.underlying4 _)
 ·intro sp hsp;rw[hfn.2.1];exact pT L7 _ _ _ _ hp hA (λx hx=>hb.same (hlt x hx)) (λx hx=>hsp x (by simpa using hx))
 ·intro sp _;rw[hv,hfn.2.2];rfl
 ·exact ok_one hr rfl (okWide_bool_mk (P:=Tryz.prog) Tryz.underlying4 true)
theorem Fj{P:Program}{w:World}{r:Reach}{base:Nat}{t e:TypeId}{n:Nat}{v:Value}(ht:P.underlying t=some (.array n e))(h:Value.okWide P w r base t v):∃cs,v=.agg cs/\cs.size=P.cellsOf t:=by
 simp only[Value.okWide,ht]at h;obtain⟨cs,h1,h2,_⟩:=h;exact⟨cs,h1,h2⟩
theorem FS{P:Program}{w:World}{r:Reach}{base:Nat}{t:TypeId}{v:Value}(ht:P.underlying t=some .string)(h:Value.okWide P w r base t v):∃s,v=.string s:=by
 simp only[Value.okWide,ht,Cell.okWide]at h;cases v<;>simp_all [Cell.ok]
theorem wS{H:Type}{enc:TypeId×Value->H}{P:Program}{w:World}{r:Reach}{b0 base:Nat}{spare:Nat->Bool}{held:Bool}{v:Value}{d:DataW H}{p:List MemPlace}{t:TypeId}(n:Nat)(ty:Ty)(hrep:rep P n t ty=true)(hv:Value.okWide P w r b0 t v)(h:DataW.Trod enc P w base spare held t v d p):
  ∃y:ty.D,Rel1 [] (λ_=>True) w (.d ty y) v/\ty.ok y:=by
 obtain⟨fuel,hf⟩:=h
 have fin:v.cells.toList.length=ty.n->v=mkV ty v.cells.toList->∃y:ty.D,Rel1 [] (λ_=>True) w (.d ty y) v/\ty.ok y:=λhl hm=>by
  obtain⟨y,h1,h2⟩:=(Q5 ty).1 n t hrep fuel _ _ hl hf;exact⟨y,⟨_,h1,hm⟩,h2⟩
 cases n with
 |zero=>simp[rep]at hrep
 |succ n=>
  have hrep':=hrep;unfold rep at hrep';split at hrep'<;>try (cases hrep';done)
  ·rename_i hu;obtain⟨m,rfl⟩:=okWide_int hu hv;exact fin rfl rfl
  ·rename_i hu;obtain⟨m,rfl⟩:=okWide_bool hu hv;exact fin rfl rfl
  ·rename_i hu;obtain⟨m,rfl⟩:=FS hu hv;exact fin rfl rfl
  ·rename_i hu;obtain⟨q,m,c,rfl⟩:=okWide_slice hu hv;exact fin rfl rfl
  ·rename_i hu;obtain⟨cs,rfl,hsz⟩:=okWide_struct hu hv;simp only[afr]at hrep';exact fin (by simp only[Value.cells,Array.length_toList,hsz];exact afq hrep'.2) (by simp[mkV,Ty.isSt,Value.cells])
  ·rename_i hu;obtain⟨cs,rfl,hsz⟩:=Fj hu hv;simp only[afr]at hrep';exact fin (by simp only[Value.cells,Array.length_toList,hsz];exact afq hrep'.2) (by simp[mkV,Ty.isSt,Value.cells])
end
end Go.Proofs.YtagbmoohboleaaaGreat
end
namespace Go.Proofs.YtagbmoohboleaaaGreat.lawCurveSplit
open Go.ChangeShapes Go.WideShapes Go.ChangeAt Go.RowKit
set_option maxRecDepth 100000 in
theorem contract(H:Type)(enc:TypeId×Value->H)(W:World)(base:Nat)(args:Array Value)(ds gs:List (DataW H))(before:List MemPlace)
  (hval:∀(j:Nat) t v,Tryz.f3.params[j]?=some t->args[j]?=some v->Value.okWide Tryz.prog W .any base t v)
  (hW:DataW.Whole enc Tryz.prog Tryz.f3.params.toList Rows.curveSplitSpec.vars false W args.toList ds gs before):
  Calls Tryz.prog 3 args W λe W'=>∃v,e=.returned v/\Rows.curveSplitSpec.post enc Tryz.prog Tryz.f3 false true false false W args v W':=by
 have hW':=hW;obtain⟨p,q,hA0,hV,rfl,hfz,hnd⟩:=hW;have hA:DataW.TrodAll enc Tryz.prog W 0 (λ_=>true) true Tryz.f3.params.toList args.toList ds p:=hA0;rw[Tryz.params3]at hA hval;obtain⟨v0,vs0,d0,ds0,p0,q0,e0,rfl,rfl,h0,r0⟩:=trodAll_cons hA;obtain⟨v1,vs1,d1,ds1,p1,q1,e1,rfl,rfl,h1,r1⟩:=trodAll_cons r0;obtain⟨v2,vs2,d2,ds2,p2,q2,e2,rfl,rfl,h2,r2⟩:=trodAll_cons r1;obtain⟨en,rfl,rfl⟩:=trodAll_nil r2;obtain rfl:args= #[v0,v1,v2]:=by cases args;simp_all
 obtain⟨rfl,rfl⟩:=trodVars_none hV;obtain⟨y0,s0,k0⟩:=wS 12 (nE) (by kernel_rfl) (hval 0 26 v0 rfl rfl) h0;obtain⟨y1,s1,k1⟩:=wS 12 (nE) (by kernel_rfl) (hval 1 26 v1 rfl rfl) h1;obtain⟨y2,s2,k2⟩:=wS 12 (nE) (by kernel_rfl) (hval 2 26 v2 rfl rfl) h2;clear hA0;refine(Rp y0 y1 y2 k0 k1 k2 (λ_=>True) W [v0,v1,v2] OT ⟨s0,s1,s2,trivial⟩).mono ?_;rintro e W' ⟨v,rfl,hb,hres⟩
 have hv:v=.bool true:=rG (G:=[]) (d7 hres);subst hv;exact⟨_,rfl,Ob hW' rfl (by kernel_rfl) ⟨rfl,rfl,rfl⟩ (by kernel_rfl) hb⟩
set_option maxRecDepth 100000 in
theorem lifted(os:Os)(started:os.Started)(H:Type)(enc:TypeId×Value->H):
  ReturnsInHanded {} Tryz.checked os 3 .any (Rows.curveSplitSpec.pre6 enc Tryz.prog Tryz.f3 Rows.curveSplitRow.domain false) (Rows.curveSplitSpec.post enc Tryz.prog Tryz.f3 false true false false):=by
 refine returnsInHanded_of_change (C:=Tryz.checked) Lw started (by kernel_rfl) Tryz.func3
  (ChangeSpec.witness6 (enc:=enc) (C:=Tryz.checked) false ⟨#[],#[.agg #[.int .u8 0,.int .u8 0,.int .i8 0,.int .i8 0,.int .i8 0,.int .i8 0,.int .i8 0,.int .i8 0,.int .u8 0,.int .u8 0,.int .i8 0,.int .i8 0,.int .i8 0,.int .i8 0,.int .i8 0,.int .i8 0,.int .u8 0],.agg #[.int .u8 0,.int .u8 0,.int .i8 0,.int .i8 0,.int .i8 0,.int .i8 0,.int .i8 0,.int .i8 0,.int .u8 0,.int .u8 0,.int .i8 0,.int .i8 0,.int .i8 0,.int .i8 0,.int .i8 0,.int .i8 0,.int .u8 0],.agg #[.int .u8 0,.int .u8 0,.int .i8 0,.int .i8 0,.int .i8 0,.int .i8 0,.int .i8 0,.int .i8 0,.int .u8 0,.int .u8 0,.int .i8 0,.int .i8 0,.int .i8 0,.int .i8 0,.int .i8 0,.int .i8 0,.int .u8 0]],[]⟩ 8 (by kernel_rfl) (by kernel_rfl) (by kernel_rfl) (by kernel_rfl)) ?_
 intro W base args ds gs before hval hW _ _;exact contract H enc W base args ds gs before hval hW
end Go.Proofs.YtagbmoohboleaaaGreat.lawCurveSplit
namespace Go.Proofs.YtagbmoohboleaaaGreat.lawCurveSplit
open Go.ChangeShapes Go.WideShapes Go.ChangeAt Go.RowKit
set_option maxRecDepth 100000 in
theorem aex:(Rows.curveSplitRow.inPlace==Tryz.prog.inPlace 3)=true:=by kernel_rfl
set_option maxRecDepth 100000 in
theorem ad3:(Rows.curveSplitRow.unfollowed==Tryz.prog.unfollowed 3)=true:=by kernel_rfl
set_option maxRecDepth 100000 in
theorem aet:(Rows.curveSplitRow.recurses==Tryz.prog.recurses 3)=true:=by kernel_rfl
set_option maxRecDepth 100000 in
theorem aee:(Rows.curveSplitRow.named==Tryz.prog.varsNamed 3)=true:=by kernel_rfl
set_option maxRecDepth 100000 in
theorem kf2:(laidOutB Tryz.prog)=true:=by kernel_rfl
set_option maxRecDepth 100000 in
theorem aeS:(Tryz.prog.mayEnter)=true:=by kernel_rfl
theorem gG{a b:Bool}(h:a=true)(h':b=true):(a&&b)=true:=by rw[h,h'];rfl
set_option maxRecDepth 100000 in
theorem Yq:joinedFacts Tryz.prog 3 Tryz.f3 Rows.curveSplitSpec Rows.curveSplitRow=true:=by
 unfold joinedFacts;exact(gG (gG (gG (gG (gG (gG (gG (gG (gG (gG (gG (gG (gG (gG (gG (gG (gG (gG (gG (gG (gG (gG (gG (gG (gG (gG (gG (gG (gG (gG (gG (by kernel_rfl) kf2) (by kernel_rfl)) (by kernel_rfl)) (by kernel_rfl)) (by kernel_rfl)) (by kernel_rfl)) (by kernel_rfl)) (by kernel_rfl)) aex) ad3) aet) aee) (by kernel_rfl)) (by kernel_rfl)) (by kernel_rfl)) (by kernel_rfl)) (by kernel_rfl)) (by kernel_rfl)) (by kernel_rfl)) (by kernel_rfl)) (by kernel_rfl)) (by kernel_rfl)) (by kernel_rfl)) (by kernel_rfl)) aeS) (by kernel_rfl)) (by kernel_rfl)) (by kernel_rfl)) (by kernel_rfl)) (by kernel_rfl)) (by kernel_rfl))
theorem proved:Rows.CurveSplitSaid:=
 OpenClaim.holds_of_wide 3 Tryz.f3 rfl rfl rfl rfl rfl rfl rfl ⟨rfl,rfl,rfl,rfl,rfl⟩ rfl rfl rfl rfl rfl (by kernel_rfl) Tryz.func3 Yq
  (of_decide_eq_true (by kernel_rfl)) (by unfold Func.isWrapper;first|(rw[if_pos (by decide+kernel)];kernel_rfl)|(rw[if_neg (by decide+kernel)];exact⟨rfl,rfl⟩))
  (λos started H enc _=>lifted os started H enc)
end Go.Proofs.YtagbmoohboleaaaGreat.lawCurveSplit
