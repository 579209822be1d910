/- Lists of curves: Curves, Least, Nearest. -/
import Derived.Test.YtlahabkjhgkkjaaGreatY18
import Derived.Test.YtlahabkjhgkkjaaGreatYGeH
noncomputable section
namespace Go.Proofs.YtlahabkjhgkkjaaGreat
open Go.RowKit Go.IntKind
theorem qK{n m k:Nat}(h1:n+m≤100000000)(hk:k≤1000000):decide ((n+m)*k≤140737488355328∧n+m≤140737488355328)=true:=by
 refine au1 ⟨?_,by omega⟩
 have:=aw5 h1 hk
 omega
def wg(l:List Dr)(i:Nat):List BCU:=((l.take i).map ofL).flatten
def wA(l:List Dr)(n:Int):List BCU:=wg l (n.toNat+1)
def DG(l:List Dr)(n:Int):Bool:=decide ((l.length:Int)≤n)&&decide (((wA l n).length:Int)≤n)
def Jg(l:List Dr)(n:Int):Prop:=0≤n∧n≤100∧∀x∈l,pW x
instance (l:List Dr) (n:Int):Decidable (Jg l n):=by unfold Jg;infer_instance
def t7(v:Rat×Rat)(a:Rt)(d:BCU):Rt:=kq a (cd (dC d) v)
def Ga(v:Rat×Rat)(c:BCU)(r:List BCU):Rt:=r.foldl (t7 v) (cd (dC c) v)
def o0(l:List BCU)(v:Rat×Rat):BO3:=match l with
 |[]=>o00
 |c::r=>enc (Ga v c r)
def EQ(l:List BCU):Int:=bif l.isEmpty then 1 else 0
def sJ(l:List BCU)(v:BV):Prop:=l.length≤1000∧(∀c∈l,okC 500 c)∧ok (Rat×Rat) 200 v
instance (l:List BCU) (v:BV):Decidable (sJ l v):=by unfold sJ;infer_instance
def H9(l:List BCU)(v:BV):Prop:=l.length≤1000∧(∀c∈l,gdC c)∧ok (Rat×Rat) 200 v
instance (l:List BCU) (v:BV):Decidable (H9 l v):=by unfold H9;infer_instance
def AU(l:List BCU)(v:BV):Prop:=H9 l v∧1≤l.length
instance (l:List BCU) (v:BV):Decidable (AU l v):=by unfold AU;infer_instance
def o8(v:Rat×Rat)(m:Rt):List BCU→Nat→List Int
 |[],_=>[]
 |c::r,i=>bif bI (cd (dC c) v) m==0 then(i:Int)::o8 v m r (i+1)else o8 v m r (i+1)
def Oj(l:List BCU)(v:Rat×Rat):List Int:=match l with
 |[]=>[]
 |c::r=>o8 v (Ga v c r) (c::r) 0
theorem JS(v:Rat×Rat)(m:Rt):∀(l:List BCU) (i:Nat),(o8 v m l i).length≤l.length
 |[],_=>avb _
 |c::r,i=>by
  have:=JS v m r (i+1)
  show(bif bI (cd (dC c) v) m==0 then(i:Int)::o8 v m r (i+1)else o8 v m r (i+1)).length≤_
  rw[avw]
  cases bI (cd (dC c) v) m==0
  ·exact Nat.le_succ_of_le this
  ·rw[cond_true,avw];omega
theorem JR{l:List Dr}{i:Nat}(h:i<l.length):wg l (i+1)=wg l i++ofL l[i]:=by
 unfold wg
 rw[List.take_succ_eq_append_getElem h,List.map_append,List.flatten_append]
 simp
theorem L8(l:List Dr):∀i,(wg l i).length≤2*i
 |0=>avb _
 |i+1=>by
  have:=L8 l i
  rcases avt i l.length with h|h
  ·rw[JR h,avT]
   have:=BY l[i]
   omega
  ·have e:wg l (i+1)=wg l i:=by
    unfold wg
    rw[avB h,avB (by omega)]
   rw[e];omega
theorem ajY{l:List Dr}(h:∀x∈l,pW x)(n:Int):∀c∈wA l n,gdN c:=by
 intro c hc
 obtain⟨m,hm,hcm⟩:=List.mem_flatten.1 hc
 obtain⟨x,hx,rfl⟩:=axu.1 hm
 exact qt (h x (awT hx)) c hcm
theorem acx(l:List Dr)(n:Int){i:Nat}(h:i=min l.length (n.toNat+1)):wg l i=wA l n:=by
 unfold wA wg
 rcases Nat.le_total l.length (n.toNat+1)with g|g
 ·rw[avB (i:=i) (by omega),avB g]
 ·rw[show i=n.toNat+1 by omega]
def fine(x:Rt):Prop:=Bd x 15000∧Rdd x
theorem GD{v:Rat×Rat}{a:Rt}(h:fine a){d:BCU}(hd:fine (cd (dC d) v)):fine (t7 v a d):=by
 unfold t7
 rcases Ba a (cd (dC d) v)with e|e<;>rw[e]<;>assumption
theorem Vp{v:Rat×Rat}[bv:Bd v 200]:∀{q:List BCU} {a:Rt},fine a→(∀d∈q,okC 500 d)→fine (q.foldl (t7 v) a)
 |[],_,h,_=>h
 |d::q,_,h,hq=>Vp (q:=q) (GD h (dO (hq d (by simp)))) fun e he=>hq e (avo _ he)
theorem Cu{v:Rat×Rat}[bv:Bd v 200]{c:BCU}{r:List BCU}(h:∀d∈c::r,okC 500 d):fine (Ga v c r):=Vp (dO (h c (by simp))) fun e he=>h e (avo _ he)
theorem fine.t{x:Rt}(h:fine x):okT 15000 (enc x):=by
 obtain⟨_,_⟩:=h
 exact au0 (bh (by decide) (by decide))
theorem mr{v:Rat×Rat}[bv:Bd v 200]:ok (Rat×Rat) 200 (enc v):=au0 (okd (by decide) (by decide))
theorem Ls{v:Rat×Rat}:∀(q:List BCU) (a:Rt),q.foldl (t7 v) a=a∨∃d∈q,q.foldl (t7 v) a=cd (dC d) v
 |[],_=>.inl rfl
 |d::q,a=>by
  rcases Ls q (t7 v a d)with e|⟨x,hx,e⟩
  ·rcases Ba a (cd (dC d) v)with g|g
   ·exact .inl (e.trans g)
   ·exact .inr ⟨d,by simp,e.trans g⟩
  ·exact .inr ⟨x,avo _ hx,e⟩
theorem ac1(v:Rat×Rat)(c:BCU)(r:List BCU):∃d∈c::r,Ga v c r=cd (dC d) v:=by
 rcases Ls r (cd (dC c) v) (v:=v)with e|⟨x,hx,e⟩
 ·exact⟨c,by simp,e⟩
 ·exact⟨x,avo _ hx,e⟩
namespace RE
theorem aos(a b:RE):mnE a b≤a:=by
 unfold mnE
 by_cases e:b<a
 ·rw[avr e];exact le_of_lt e
 ·rw[avn e];exact le_refl a
theorem anY(a b:RE):mnE a b≤b:=by
 unfold mnE
 by_cases e:b<a
 ·rw[avr e];exact le_refl b
 ·rw[avn e];exact(lt_or_ge b a).resolve_left e
theorem Vo{v:Rat×Rat}[bv:Bd v 200]:∀{q:List BCU} {a:Rt},Rdd a→(∀d∈q,okC 500 d)→vR (q.foldl (t7 v) a)≤vR a∧∀d∈q,vR (q.foldl (t7 v) a)≤vR (cd (dC d) v)
 |[],_,_,_=>⟨le_refl _,fun d h=>by cases h⟩
 |d::q,a,ha,hq=>by
  have hd:=(dO (hq d (by simp)) (v:=v)).2
  have e:vR (t7 v a d)=mnE (vR a) (vR (cd (dC d) v)):=XG (ha:=ha) (hb:=hd)
  have hs:Rdd (t7 v a d):=Ip (h:=ha) (h':=hd)
  obtain⟨h1,h2⟩:=Vo (v:=v) (q:=q) hs fun e he=>hq e (avo _ he)
  rw[e]at h1
  refine⟨le_trans h1 (aos _ _),fun x hx=>?_⟩
  rcases avz.1 hx with g|g
  ·rw[g];exact le_trans h1 (anY _ _)
  ·exact h2 x g
theorem lea_le{v:Rat×Rat}[bv:Bd v 200]{c:BCU}{r:List BCU}(h:∀d∈c::r,okC 500 d):∀d∈c::r,vR (Ga v c r)≤vR (cd (dC d) v):=by
 obtain⟨h1,h2⟩:=Vo (v:=v) (dO (h c (by simp)) (v:=v)).2 fun e he=>h e (avo _ he)
 intro d hd
 rcases avz.1 hd with g|g
 ·rw[g];exact h1
 ·exact h2 d g
end RE
def xq:Env:=[(26,AS)]
theorem ow:EnvAll Tryz.prog xq:=⟨v9,trivial⟩
def ZN:NT:=[((34,8),{keep:=[0,1,6,7],own:=[(6,43,tCU)],hl:=1})]
def Hy:Ctx:=CX xq ZN
def u7(l:List Dr)(n s7:Int)(r0:List BCU):Cfg:=⟨34,[.blk 0,.seq 19],[(0,.d (.sl tDr) l),(1,SI n),(6,.own 0),(7,SI s7)],[.row 43 tCU r0],0,[]⟩
def RG(l:List Dr)(n:Int)(k:KT):Option (List RV):=k 8 (u7 l n 0 ([]))
theorem amt(l:List Dr)(n:Int):RS Hy 34 [.d (.sl tDr) l,SI n] (RG l n):=rsX
def rY(l:List Dr)(n s7:Int)(r0:List BCU)(k:KT):Option (List RV):=match decide (s7<(l.length:Int))with|true=>(match decide (s7≤n)with|true=>(match bG l s7 with|some x1=>(match decide (pW x1)with|true=>(match decide ((r0.length+(ofL x1).length)*1040≤140737488355328∧r0.length+(ofL x1).length≤140737488355328)with|true=>k 8 (u7 l n (i64.wrap (s7+1)) (r0++(ofL x1)))|false=>none)|false=>none)|none=>none)|false=>(match decide ((l.length:Int)≤n)with|true=>some [RV.d (.sl tCU) r0,RV.d .bool (decide ((r0.length:Int)≤n))]|false=>some [RV.d (.sl tCU) r0,RV.d .bool false]))|false=>(match decide ((l.length:Int)≤n)with|true=>some [RV.d (.sl tCU) r0,RV.d .bool (decide ((r0.length:Int)≤n))]|false=>some [RV.d (.sl tCU) r0,RV.d .bool false])
theorem zs(l:List Dr)(n s7:Int)(r0:List BCU):RN Hy 8 (u7 l n s7 r0) (rY l n s7 r0):=rnX
theorem aao(l:List Dr)(n:Int)(h:Jg l n):∀(j i:Nat),i+j=min l.length (n.toNat+1)→Hy.Runs 8 (u7 l n (i:Int) (wg l i)) [.d (.sl tCU) (wA l n),.d .bool (DG l n)]:=by
 obtain⟨h0,h1,hd⟩:=h
 intro j
 induction j with
 |zero=>
  intro i hi
  refine zs _ _ _ _ ⟨0,?_⟩
  unfold rY
  rw[acx l n (by omega)]
  have e:∀b:Bool,decide ((l.length:Int)≤n)=b→DG l n=bif b then decide (((wA l n).length:Int)≤n)else false:=fun b hb=>by
   unfold DG
   rw[hb]
   cases b<;>rfl
  rcases avt i l.length with g|g
  ·rw[bS g,dF (show ¬(i:Int)≤n by omega)]
   cases hb:decide ((l.length:Int)≤n)<;>rw[e _ hb]<;>rfl
  ·rw[cC g]
   cases hb:decide ((l.length:Int)≤n)<;>rw[e _ hb]<;>rfl
 |succ j ih=>
  intro i hi
  have hil:i<l.length:=by omega
  obtain⟨m,hm⟩:=ih (i+1) (by omega)
  have c1:=L8 l i
  have c2:=BY l[i]
  refine zs _ _ _ _ ⟨m,?_⟩
  unfold rY
  rw[bS hil,dT (show(i:Int)≤n by omega),aD,au2 hil]
  dsimp only
  rw[dT (hd _ (avF hil)),qK (by omega) (by omega),cD (by omega)]
  rw[JR hil]at hm
  exact hm
theorem Wx(l:List Dr)(n:Int)(h:Jg l n):Con Tryz.prog 34 [.d (.sl tDr) l,.d ax8 n] [.d (.sl tCU) (wA l n),.d .bool (DG l n)]:=by
 refine aR ow (amt _ _ ?_)
 unfold RG
 exact aao l n h _ 0 (avD _)
def aib:Ctx:=CX xq []
def Zm(p:List BCU)(_k:KT):Option (List RV):=match p with|[]=>IW (some [RV.new 43 tCU []]) (match decide ((([]:List BCU).length+p.length)*1040≤140737488355328∧([]:List BCU).length+p.length≤140737488355328)with|true=>some [RV.new 43 tCU (([]:List BCU)++p)]|false=>none)|_::_=>(match decide ((([]:List BCU).length+p.length)*1040≤140737488355328∧([]:List BCU).length+p.length≤140737488355328)with|true=>some [RV.new 43 tCU (([]:List BCU)++p)]|false=>none)
theorem alK(p:List BCU):RS aib 36 [.d (.sl tCU) p] (Zm p):=rsX
theorem QH(p:List BCU)(h:p.length≤100000):Con Tryz.prog 36 [.d (.sl tCU) p] [.d (.sl tCU) p]:=by
 refine Con.new_d (et:=43) (aR ow (alK _ ⟨0,?_⟩))
 unfold Zm
 rw[qK (n:=([]:List BCU).length) (m:=p.length) (by simp;omega) (by omega)]
 cases p with
 |nil=>exact av _
 |cons a p=>rfl
def aaC:NT:=[((37,14),{keep:=[0,1,12,13],hl:=0})]
def Jf:Ctx:=CX xq aaC
def qZ(a b:List Int)(s13:Int):Cfg:=⟨37,[.blk 0,.seq 33],[(0,.d (.sl ax8) a),(1,.d (.sl ax8) b),(12,SI (a.length:Int)),(13,SI s13)],[],0,[]⟩
def IC(a b:List Int)(k:KT):Option (List RV):=match(a.length:Int) !=(b.length:Int)with|true=>some [RV.d .bool false]|false=>k 14 (qZ a b 0)
theorem aiO(a b:List Int):RS Jf 37 [.d (.sl ax8) a,.d (.sl ax8) b] (IC a b):=rsX
def pF(a b:List Int)(s13:Int)(k:KT):Option (List RV):=match decide (s13<(a.length:Int))with|true=>(match bG a s13 with|some x1=>(match bG b s13 with|some x2=>(match x1 !=x2 with|true=>some [RV.d .bool false]|false=>k 14 (qZ a b (i64.wrap (s13+1))))|none=>none)|none=>none)|false=>some [RV.d .bool true]
theorem yj(a b:List Int)(s13:Int):RN Jf 14 (qZ a b s13) (pF a b s13):=rnX
theorem Nf(a b:List Int)(ha:a.length≤1000000)(hab:a.length=b.length):∀(j i:Nat),i+j=a.length→Jf.Runs 14 (qZ a b (i:Int)) [.d .bool (decide (a.drop i=b.drop i))]:=by
 intro j
 induction j with
 |zero=>
  intro i hi
  refine yj _ _ _ ⟨0,?_⟩
  unfold pF
  rw[cC (by omega),jk (by omega),jk (by omega)]
  rfl
 |succ j ih=>
  intro i hi
  have hil:i<a.length:=by omega
  have hib:i<b.length:=by omega
  obtain⟨q,hq⟩:=ih (i+1) (by omega)
  refine yj _ _ _ ⟨q,?_⟩
  unfold pF
  rw[bS hil,aD,au2 hil,aD,au2 hib,avk hil,avk hib,cD (by omega)]
  dsimp only
  by_cases e:a[i]=b[i]
  ·rw[e,show(b[i] !=b[i])=false by simp]
   dsimp only
   rw[show decide (b[i]::a.drop (i+1)=b[i]::b.drop (i+1))=decide (a.drop (i+1)=b.drop (i+1)) from awF.2 ⟨fun h=>(List.cons.inj h).2,fun h=>by rw[h]⟩]
   exact hq
  ·rw[show(a[i] !=b[i])=true by simpa using e,dF (show ¬(a[i]::a.drop (i+1)=b[i]::b.drop (i+1)) from fun h=>e (List.cons.inj h).1)]
theorem TM(a b:List Int)(h:a.length≤1000000):Con Tryz.prog 37 [.d (.sl ax8) a,.d (.sl ax8) b] [.d .bool (decide (a=b))]:=by
 refine aR ow (aiO _ _ ?_)
 by_cases hab:a.length=b.length
 ·obtain⟨q,hq⟩:=Nf a b h hab a.length 0 (by omega)
  refine⟨q,?_⟩
  unfold IC
  rw[show((a.length:Int) !=(b.length:Int))=false by simp;omega]
  exact hq
 ·refine⟨0,?_⟩
  unfold IC
  rw[show((a.length:Int) !=(b.length:Int))=true by simp;omega,dF (show ¬a=b from fun e=>hab (by rw[e]))]
def Bo:aO:=spN false false [(.sl tDr),ax8] (fun x=>decide (Jg x.1 x.2.1)) (fun x=>[RV.d (.sl tCU) (wA x.1 x.2.1),RV.d .bool (DG x.1 x.2.1)])
theorem yU:SpK 34 Bo:=spX fun x h=>Wx x.1 x.2.1 (au0 h)
def CB:aO:=spN false false [(.sl tCU)] (fun x=>decide (x.1.length≤100000)) (fun x=>[RV.d (.sl tCU) x.1])
theorem Ax:SpK 36 CB:=spX fun x h=>QH x.1 (au0 h)
def CC:aO:=spN true false [(.sl ax8),(.sl ax8)] (fun x=>decide (x.1.length≤1000000)) (fun x=>[RV.d .bool (decide (x.1=x.2.1))])
theorem Aq:SpK 37 CC:=spX fun x h=>TM x.1 x.2.1 (au0 h)
def IT:Env:=(34,Bo)::(36,CB)::(37,CC)::(16,tM)::(65,Hn)::xq
theorem zM:EnvAll Tryz.prog IT:=⟨yU,Ax,Aq,mR,DB,ow⟩
def aa2:NT:=[((29,16),{keep:=[3,4,6,19,20,21],hl:=3})]
def Io:Ctx:=CX IT aa2
def ru(l:List BCU)(v:BV)(s21:Int)(B2:BO3):Cfg:=⟨29,[.blk 0,.seq 29],[(3,.box 0 0),(4,.box 1 0),(6,.box 2 0),(19,.d (.sl tCU) ((l.take ((l.length:Int)).toNat).drop (1:Int).toNat)),(20,SI (((l.take ((l.length:Int)).toNat).drop (1:Int).toNat).length:Int)),(21,SI s21)],[.box 47 (Ty.split tV v),.box 49 [SB false,.nil,SB false,.nil,SB false,.nil,SB false,.nil,SB false,.nil,SB false,.nil],.box 49 (Ty.split tO B2)],0,[]⟩
def Sv(l:List BCU)(v:BV)(k:KT):Option (List RV):=match(l.length:Int)==0 with|true=>some [RV.d tO (((false,[]),(false,[])),(((false,[]),(false,[])),((false,[]),(false,[])))),RV.d ax8 1]|false=>(match bG l 0 with|some x1=>(match decide (okC 500 x1∧ok (Rat×Rat) 200 v)with|true=>(match decide ((0:Int)≤1∧1≤(l.length:Int)∧(l.length:Int)≤(l.length:Int))with|true=>k 16 (ru l v 0 (hid (enc (cd (dC x1) (dec v)))))|false=>none)|false=>none)|none=>none)
theorem amE(l:List BCU)(v:BV):RS Io 29 [.d (.sl tCU) l,.d tV v] (Sv l v):=rsX
def pQ(l:List BCU)(v:BV)(s21:Int)(B2:BO3)(k:KT):Option (List RV):=match decide (s21<(((l.take ((l.length:Int)).toNat).drop (1:Int).toNat).length:Int))with|true=>(match bG ((l.take ((l.length:Int)).toNat).drop (1:Int).toNat) s21 with|some x1=>(match decide (okC 500 x1∧ok (Rat×Rat) 200 v)with|true=>(match decide (okT 15000 B2∧okT 15000 (hid (enc (cd (dC x1) (dec v)))))with|true=>k 16 (ru l v (i64.wrap (s21+1)) (hid (enc (kq (dec B2) (dec (hid (enc (cd (dC x1) (dec v)))))))))|false=>none)|false=>none)|none=>none)|false=>some [RV.d tO B2,RV.d ax8 0]
theorem wi(l:List BCU)(v:BV)(s21:Int)(B2:BO3):RN Io 16 (ru l v s21 B2) (pQ l v s21 B2):=rnX
theorem act(l:List BCU)(v:Rat×Rat)[bv:Bd v 200](q:List BCU)(hq:(l.take ((l.length:Int)).toNat).drop (1:Int).toNat=q)(hl:q.length≤1000)(hc:∀c∈q,okC 500 c):∀(j i:Nat),i+j=q.length→∀a:Rt,fine a→Io.Runs 16 (ru l (enc v) (i:Int) (enc a)) [.d tO (enc ((q.drop i).foldl (t7 v) a)),.d ax8 0]:=by
 intro j
 induction j with
 |zero=>
  intro i hi a ha
  refine wi _ _ _ _ ⟨0,?_⟩
  unfold pQ
  rw[hq,cC (by omega),jk (by omega)]
  rfl
 |succ j ih=>
  intro i hi a ha
  have hil:i<q.length:=by omega
  have h1:=hc _ (avF hil)
  have h2:fine (cd (dC q[i]) v):=dO h1
  obtain⟨n,hn⟩:=ih (i+1) (by omega) _ (GD ha h2)
  refine wi _ _ _ _ ⟨n,?_⟩
  unfold pQ
  rw[hq,bS hil,aD,au2 hil,avk hil,cD (by omega)]
  dsimp only
  simp only[ak,am,dT (show okC 500 q[i]∧ok (Rat×Rat) 200 (enc v) from⟨h1,mr⟩),dT (show okT 15000 _∧okT 15000 _ from⟨ha.t,h2.t⟩)]
  exact hn
theorem R7(l:List BCU)(v:BV)(h:sJ l v):Con Tryz.prog 29 [.d (.sl tCU) l,.d tV v] [.d tO (o0 l (dec v)),.d ax8 (EQ l)]:=by
 obtain⟨hl,hc,hv⟩:=h
 obtain⟨v,rfl,bv⟩:=aU hv
 rw[am]
 refine aR zM (amE _ _ ?_)
 unfold Sv
 cases l with
 |nil=>exact⟨0,rfl⟩
 |cons c r=>
  have h1:=hc c (by simp)
  have e:(((c::r).length:Int)==0)=false:=by simp;omega
  have hq:((c::r).take (((c::r).length:Int)).toNat).drop (1:Int).toNat=r:=by
   rw[awA,awc]
   rfl
  obtain⟨n,hn⟩:=act (c::r) v r hq (by simp at hl;omega) (fun d hd=>hc d (avo _ hd)) r.length 0 (by omega) (cd (dC c) v) (dO h1)
  refine⟨n,?_⟩
  rw[e,show bG (c::r) 0=some c from rfl]
  dsimp only
  simp only[ak,am,dT (show okC 500 c∧ok (Rat×Rat) 200 (enc v) from⟨h1,mr⟩),dT (show(0:Int)≤1∧1≤((c::r).length:Int)∧((c::r).length:Int)≤((c::r).length:Int) by simp;omega)]
  exact hn
def Iz:Env:=(14,AT)::(53,Ic)::IT
theorem zU:EnvAll Tryz.prog Iz:=⟨wL,Dt,zM⟩
def aaa:NT:=[((39,8),{keep:=[0,3,4,5,6],hl:=3})]
def Jd:Ctx:=CX Iz aaa
def vk(l:List BCU)(v:BV)(s6:Int)(B2:BO3):Cfg:=⟨39,[.blk 0,.seq 19],[(0,.d (.sl tCU) l),(3,.box 0 0),(4,.box 1 0),(5,.box 2 0),(6,SI s6)],[.box 47 (Ty.split tV v),.box 49 [SB false,.nil,SB false,.nil,SB false,.nil,SB false,.nil,SB false,.nil,SB false,.nil],.box 49 (Ty.split tO B2)],0,[]⟩
def Pk(l:List BCU)(v:BV)(k:KT):Option (List RV):=match bG l 0 with|some x1=>(match decide (gdC x1∧ok (Rat×Rat) 200 v)with|true=>k 8 (vk l v 1 (hid (enc (cd (dC x1) (dec v)))))|false=>none)|none=>none
theorem aiF(l:List BCU)(v:BV):RS Jd 39 [.d (.sl tCU) l,.d tV v] (Pk l v):=rsX
def tJ(l:List BCU)(v:BV)(s6:Int)(B2:BO3)(k:KT):Option (List RV):=match decide (s6<(l.length:Int))with|true=>(match bG l s6 with|some x1=>(match decide (gdC x1∧ok (Rat×Rat) 200 v)with|true=>(match decide (okT 15000 B2∧okT 15000 (hid (enc (cd (dC x1) (dec v)))))with|true=>k 8 (vk l v (i64.wrap (s6+1)) (hid (enc (kq (dec B2) (dec (hid (enc (cd (dC x1) (dec v)))))))))|false=>none)|false=>none)|none=>none)|false=>some [RV.d tO B2]
theorem zb(l:List BCU)(v:BV)(s6:Int)(B2:BO3):RN Jd 8 (vk l v s6 B2) (tJ l v s6 B2):=rnX
theorem aco(l:List BCU)(v:Rat×Rat)[bv:Bd v 200](hl:l.length≤1000)(hc:∀c∈l,gdC c):∀(j i:Nat),i+j=l.length→∀a:Rt,fine a→Jd.Runs 8 (vk l (enc v) (i:Int) (enc a)) [.d tO (enc ((l.drop i).foldl (t7 v) a))]:=by
 intro j
 induction j with
 |zero=>
  intro i hi a ha
  refine zb _ _ _ _ ⟨0,?_⟩
  unfold tJ
  rw[cC (by omega),jk (by omega)]
  rfl
 |succ j ih=>
  intro i hi a ha
  have hil:i<l.length:=by omega
  have h1:=hc _ (avF hil)
  have h2:fine (cd (dC l[i]) v):=dO h1.1
  obtain⟨n,hn⟩:=ih (i+1) (by omega) _ (GD ha h2)
  refine zb _ _ _ _ ⟨n,?_⟩
  unfold tJ
  rw[bS hil,aD,au2 hil,avk hil,cD (by omega)]
  dsimp only
  simp only[ak,am,dT (show gdC l[i]∧ok (Rat×Rat) 200 (enc v) from⟨h1,mr⟩),dT (show okT 15000 _∧okT 15000 _ from⟨ha.t,h2.t⟩)]
  exact hn
theorem Rk(l:List BCU)(v:BV)(h:AU l v):Con Tryz.prog 39 [.d (.sl tCU) l,.d tV v] [.d tO (o0 l (dec v))]:=by
 obtain⟨⟨hl,hc,hv⟩,h0⟩:=h
 obtain⟨v,rfl,bv⟩:=aU hv
 rw[am]
 refine aR zU (aiF _ _ ?_)
 unfold Pk
 cases l with
 |nil=>exact absurd h0 (by decide)
 |cons c r=>
  have h1:=hc c (by simp)
  obtain⟨n,hn⟩:=aco (c::r) v hl hc r.length 1 (by simp;omega) (cd (dC c) v) (dO h1.1)
  refine⟨n,?_⟩
  rw[show bG (c::r) 0=some c from rfl]
  dsimp only
  simp only[ak,am,dT (show gdC c∧ok (Rat×Rat) 200 (enc v) from⟨h1,mr⟩)]
  exact hn
def uW:aO:=spN false false [(.sl tCU),tV] (fun x=>decide (sJ x.1 x.2.1)) (fun x=>[RV.d tO (o0 x.1 (dec x.2.1)),RV.d ax8 (EQ x.1)])
theorem tD:SpK 29 uW:=spX fun x h=>R7 x.1 x.2.1 (au0 h)
def CP:aO:=spN false false [(.sl tCU),tV] (fun x=>decide (AU x.1 x.2.1)) (fun x=>[RV.d tO (o0 x.1 (dec x.2.1))])
theorem zr:SpK 39 CP:=spX fun x h=>Rk x.1 x.2.1 (au0 h)
def Pc:aO:=spN true true [tO,tO] (fun x=>decide (okT 15000 x.1∧okT 15000 x.2.1)) (fun x=>[RV.d .bool (bI (dec x.1) (dec x.2.1)==0)])
theorem Q5:SpK 108 Pc:=spX fun x h=>acX x.1 x.2.1 (au0 h)
def GK:Env:=(29,uW)::(39,CP)::(108,Pc)::(63,C8)::Iz
theorem zh:EnvAll Tryz.prog GK:=⟨tD,zr,Q5,zB,zU⟩
def adu:NT:=[((35,18),{keep:=[3,5,7,18,19,20],own:=[(7,3,.int .i64)],hl:=3})]
def Hm:Ctx:=CX GK adu
def nh(l:List BCU)(v:BV)(s20:Int)(r2:List Int):Cfg:=⟨35,[.blk 0,.seq 35],[(3,.box 0 0),(5,.box 1 0),(7,.own 2),(18,.d (.sl tCU) l),(19,SI (l.length:Int)),(20,SI s20)],[.box 47 (Ty.split tV v),.box 49 (Ty.split tO (o0 l (dec v))),.row 3 ax8 r2],0,[]⟩
def VQ(l:List BCU)(v:BV)(k:KT):Option (List RV):=match decide (sJ l v)with|true=>(match(EQ l) !=0 with|true=>some [RV.new 3 ax8 []]|false=>k 18 (nh l v 0 ([])))|false=>none
theorem ai4(l:List BCU)(v:BV):RS Hm 35 [.d (.sl tCU) l,.d tV v] (VQ l v):=rsX
def l9(l:List BCU)(v:BV)(s20:Int)(r2:List Int)(k:KT):Option (List RV):=match decide (s20<(l.length:Int))with|true=>(match bG l s20 with|some x1=>(match decide (okC 500 x1∧ok (Rat×Rat) 200 v)with|true=>(match decide (okT 15000 (hid (enc (cd (dC x1) (dec v))))∧okT 15000 (o0 l (dec v)))with|true=>(match bI (dec (hid (enc (cd (dC x1) (dec v))))) (dec (o0 l (dec v)))==0 with|true=>(match decide ((r2.length+([s20]).length)*8≤140737488355328∧r2.length+([s20]).length≤140737488355328)with|true=>k 18 (nh l v (i64.wrap (s20+1)) (r2++([s20])))|false=>none)|false=>k 18 (nh l v (i64.wrap (s20+1)) r2))|false=>none)|false=>none)|none=>none)|false=>some [RV.new 3 ax8 r2]
theorem pA(l:List BCU)(v:BV)(s20:Int)(r2:List Int):RN Hm 18 (nh l v s20 r2) (l9 l v s20 r2):=rnX
theorem aag(l:List BCU)(v:Rat×Rat)[bv:Bd v 200](m:Rt)(hm:fine m)(he:o0 l v=enc m)(hl:l.length≤1000)(hc:∀c∈l,okC 500 c):∀(j i:Nat),i+j=l.length→∀r:List Int,r.length≤i→Hm.Runs 18 (nh l (enc v) (i:Int) r) [.new 3 ax8 (r++o8 v m (l.drop i) i)]:=by
 intro j
 induction j with
 |zero=>
  intro i hi r hr
  refine pA _ _ _ _ ⟨0,?_⟩
  unfold l9
  rw[cC (by omega),jk (by omega),show o8 v m [] i=[] from rfl,avR]
 |succ j ih=>
  intro i hi r hr
  have hil:i<l.length:=by omega
  have h1:=hc _ (avF hil)
  have h2:fine (cd (dC l[i]) v):=dO h1
  rw[avk hil]
  have e0:o8 v m (l[i]::l.drop (i+1)) i=bif bI (cd (dC l[i]) v) m==0 then(i:Int)::o8 v m (l.drop (i+1)) (i+1)else o8 v m (l.drop (i+1)) (i+1):=rfl
  rw[e0]
  cases e:bI (cd (dC l[i]) v) m==0
  ·obtain⟨n,hn⟩:=ih (i+1) (by omega) r (by omega)
   refine pA _ _ _ _ ⟨n,?_⟩
   unfold l9
   rw[bS hil,aD,au2 hil,cD (by omega)]
   dsimp only
   simp only[ak,am,he,dT (show okC 500 l[i]∧ok (Rat×Rat) 200 (enc v) from⟨h1,mr⟩),dT (show okT 15000 _∧okT 15000 _ from⟨h2.t,hm.t⟩),e]
   exact hn
  ·obtain⟨n,hn⟩:=ih (i+1) (by omega) (r++[(i:Int)]) (by rw[avT,avu];omega)
   rw[awd]at hn
   refine pA _ _ _ _ ⟨n,?_⟩
   unfold l9
   rw[bS hil,aD,au2 hil,cD (by omega)]
   dsimp only
   simp only[ak,am,he,dT (show okC 500 l[i]∧ok (Rat×Rat) 200 (enc v) from⟨h1,mr⟩),dT (show okT 15000 _∧okT 15000 _ from⟨h2.t,hm.t⟩),e]
   rw[avu,qK (by omega) (by omega)]
   exact hn
theorem Zn(l:List BCU)(v:BV)(h:sJ l v):Con Tryz.prog 35 [.d (.sl tCU) l,.d tV v] [.new 3 ax8 (Oj l (dec v))]:=by
 obtain⟨hl,hc,hv⟩:=h
 have hP:sJ l v:=⟨hl,hc,hv⟩
 obtain⟨v,rfl,bv⟩:=aU hv
 rw[am]
 refine aR zh (ai4 _ _ ?_)
 unfold VQ
 rw[dT hP]
 cases l with
 |nil=>exact⟨0,rfl⟩
 |cons c r=>
  obtain⟨n,hn⟩:=aag (c::r) v _ (Cu hc) rfl hl hc _ 0 (avD _) [] (avb _)
  exact⟨n,hn⟩
def adm:NT:=[((38,8),{keep:=[0,3,5,6],own:=[(5,3,.int .i64)],hl:=2})]
def IR:Ctx:=CX GK adm
def qx(l:List BCU)(v:BV)(s6:Int)(r1:List Int):Cfg:=⟨38,[.blk 0,.seq 23],[(0,.d (.sl tCU) l),(3,.box 0 0),(5,.own 1),(6,SI s6)],[.box 47 (Ty.split tV v),.row 3 ax8 r1],0,[]⟩
def UH(l:List BCU)(v:BV)(k:KT):Option (List RV):=k 8 (qx l v 0 ([]))
theorem aji(l:List BCU)(v:BV):RS IR 38 [.d (.sl tCU) l,.d tV v] (UH l v):=rsX
def oJ(l:List BCU)(v:BV)(s6:Int)(r1:List Int)(k:KT):Option (List RV):=match decide (s6<(l.length:Int))with|true=>(match bG l s6 with|some x1=>(match decide (gdC x1∧ok (Rat×Rat) 200 v)with|true=>(match decide (AU l v)with|true=>(match decide (okT 15000 (hid (enc (cd (dC x1) (dec v))))∧okT 15000 (o0 l (dec v)))with|true=>(match bI (dec (hid (enc (cd (dC x1) (dec v))))) (dec (o0 l (dec v)))==0 with|true=>(match decide ((r1.length+([s6]).length)*8≤140737488355328∧r1.length+([s6]).length≤140737488355328)with|true=>k 8 (qx l v (i64.wrap (s6+1)) (r1++([s6])))|false=>none)|false=>k 8 (qx l v (i64.wrap (s6+1)) r1))|false=>none)|false=>none)|false=>none)|none=>none)|false=>some [RV.new 3 ax8 r1]
theorem nV(l:List BCU)(v:BV)(s6:Int)(r1:List Int):RN IR 8 (qx l v s6 r1) (oJ l v s6 r1):=rnX
theorem abS(l:List BCU)(v:Rat×Rat)[bv:Bd v 200](m:Rt)(hm:fine m)(he:o0 l v=enc m)(hl:l.length≤1000)(hc:∀c∈l,gdC c):∀(j i:Nat),i+j=l.length→∀r:List Int,r.length≤i→IR.Runs 8 (qx l (enc v) (i:Int) r) [.new 3 ax8 (r++o8 v m (l.drop i) i)]:=by
 intro j
 induction j with
 |zero=>
  intro i hi r hr
  refine nV _ _ _ _ ⟨0,?_⟩
  unfold oJ
  rw[cC (by omega),jk (by omega),show o8 v m [] i=[] from rfl,avR]
 |succ j ih=>
  intro i hi r hr
  have hil:i<l.length:=by omega
  have h1:=hc _ (avF hil)
  have h2:fine (cd (dC l[i]) v):=dO h1.1
  rw[avk hil]
  have e0:o8 v m (l[i]::l.drop (i+1)) i=bif bI (cd (dC l[i]) v) m==0 then(i:Int)::o8 v m (l.drop (i+1)) (i+1)else o8 v m (l.drop (i+1)) (i+1):=rfl
  rw[e0]
  cases e:bI (cd (dC l[i]) v) m==0
  ·obtain⟨n,hn⟩:=ih (i+1) (by omega) r (by omega)
   refine nV _ _ _ _ ⟨n,?_⟩
   unfold oJ
   rw[bS hil,aD,au2 hil,cD (by omega)]
   dsimp only
   simp only[ak,am,he,dT (show AU l (enc v) from⟨⟨hl,hc,mr⟩,by omega⟩),dT (show gdC l[i]∧ok (Rat×Rat) 200 (enc v) from⟨h1,mr⟩),dT (show okT 15000 _∧okT 15000 _ from⟨h2.t,hm.t⟩),e]
   exact hn
  ·obtain⟨n,hn⟩:=ih (i+1) (by omega) (r++[(i:Int)]) (by rw[avT,avu];omega)
   rw[awd]at hn
   refine nV _ _ _ _ ⟨n,?_⟩
   unfold oJ
   rw[bS hil,aD,au2 hil,cD (by omega)]
   dsimp only
   simp only[ak,am,he,dT (show AU l (enc v) from⟨⟨hl,hc,mr⟩,by omega⟩),dT (show gdC l[i]∧ok (Rat×Rat) 200 (enc v) from⟨h1,mr⟩),dT (show okT 15000 _∧okT 15000 _ from⟨h2.t,hm.t⟩),e]
   rw[avu,qK (by omega) (by omega)]
   exact hn
theorem Yp(l:List BCU)(v:BV)(h:H9 l v):Con Tryz.prog 38 [.d (.sl tCU) l,.d tV v] [.new 3 ax8 (Oj l (dec v))]:=by
 obtain⟨hl,hc,hv⟩:=h
 obtain⟨v,rfl,bv⟩:=aU hv
 rw[am]
 refine aR zh (aji _ _ ?_)
 unfold UH
 cases l with
 |nil=>exact nV _ _ _ _ ⟨0,rfl⟩
 |cons c r=>
  obtain⟨n,hn⟩:=abS (c::r) v _ (Cu fun d hd=>(hc d hd).1) rfl hl hc _ 0 (avD _) [] (avb _)
  exact⟨n,hn⟩
def J8:aO:=spN true false [(.sl tCU),tV] (fun x=>decide (sJ x.1 x.2.1)) (fun x=>[RV.new 3 ax8 (Oj x.1 (dec x.2.1))])
theorem N9:SpK 35 J8:=spX fun x h=>Zn x.1 x.2.1 (au0 h)
def Kb:aO:=spN true false [(.sl tCU),tV] (fun x=>decide (H9 x.1 x.2.1)) (fun x=>[RV.new 3 ax8 (Oj x.1 (dec x.2.1))])
theorem ON:SpK 38 Kb:=spX fun x h=>Yp x.1 x.2.1 (au0 h)
end Go.Proofs.YtlahabkjhgkkjaaGreat
end
