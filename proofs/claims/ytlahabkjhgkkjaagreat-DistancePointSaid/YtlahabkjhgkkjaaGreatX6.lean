/- Regions in which calls join a Bool to a variable: what is tame comes in any order. -/
import Derived.Test.YtlahabkjhgkkjaaGreatX5
import Derived.ProofKit
import Derived.OpenShut
import Derived.ChangeSame
import Derived.Deep.Slices
noncomputable section
namespace Go.Proofs.YtlahabkjhgkkjaaGreat
open Go.RowKit Go.IntKind
theorem at7:type_of% @decide_eq_true:=@decide_eq_true
theorem at9:type_of% @decide_eq_false:=@decide_eq_false
theorem aub:type_of% @Bool.and_self:=@Bool.and_self
theorem avP:type_of% @Int.toNat_natCast:=@Int.toNat_natCast
theorem awn:type_of% @Nat.mul_le_mul:=@Nat.mul_le_mul
theorem awr:type_of% @Nat.sub_add_cancel:=@Nat.sub_add_cancel
theorem awJ:type_of% @Region.noSelect_spec:=@Region.noSelect_spec
section
theorem aaQ(it:Item):ddI (ddJ it)=ddI it:=by
 unfold ddJ
 split
 ·rfl
 ·rfl
theorem EK(it:Item):(ddI it).live=it.live:=by
 unfold ddI
 split<;>rfl
theorem Dc{A B:List Item}(h:A.map ddJ=B):A.map ddI=B.map ddI:=by
 rw[←h,List.map_map]
 exact List.map_congr_left fun it _=>(aaQ it).symm
theorem v9(q:Nat)(b:Bool)(H:List Item):(jr q b H).length=H.length:=by
 unfold jr
 split
 ·simp
 ·rfl
theorem qv{q:Nat}{b:Bool}{H:List Item}{k:Nat}:(jr q b H)[k]?=if k=q then(match H[k]? with
  |some (.box t [.d .bool c])=>some (.box t [.d .bool (c&&b)])
  |x=>x)else H[k]?:=by
 unfold jr
 split
 ·rename_i t c hq
  rw[auy]
  by_cases e:k=q
  ·subst e
   rw[auw rfl,auw rfl,auw (aul.1 hq).1,hq]
  ·rw[aus (avy e),aus e]
 ·rename_i hq
  split
  ·rename_i e
   subst e
   split
   ·rename_i t c hk
    exact absurd hk (hq t c)
   ·rfl
  ·rfl
theorem RM(q q':Nat)(b b':Bool)(H:List Item):jr q b (jr q' b' H)=jr q' b' (jr q b H):=by
 refine avN fun k=>?_
 rw[qv,qv,qv,qv]
 by_cases e:k=q<;>by_cases e':k=q'
 ·subst e
  subst e'
  simp only[auw]
  cases hk:H[k]? with
  |none=>rfl
  |some it=>
   cases it with
   |box t cs=>
    match cs with
    |[.d .bool c]=>show some (Item.box t [.d .bool (c&&b'&&b)])=some (.box t [.d .bool (c&&b&&b')]);rw[Bool.and_assoc,Bool.and_comm b' b,←Bool.and_assoc]
    |[]=>rfl
    |[.d (.int _) _]=>rfl
    |[.d .str _]=>rfl
    |[.d (.pair _ _) _]=>rfl
    |[.d (.st _) _]=>rfl
    |[.d (.sl _) _]=>rfl
    |[.nil]=>rfl
    |[.box _ _]=>rfl
    |[.elt _ _ _]=>rfl
    |[.own _]=>rfl
    |[.oelt _ _ _ _]=>rfl
    |[.clo _ _]=>rfl
    |[.tup _]=>rfl
    |[.undef]=>rfl
    |[.dead]=>rfl
    |[.cut _ _]=>rfl
    |[.osl _ _ _ _]=>rfl
    |.d .bool _::_::_=>rfl
    |.d (.int _) _::_::_=>rfl
    |.d .str _::_::_=>rfl
    |.d (.pair _ _) _::_::_=>rfl
    |.d (.st _) _::_::_=>rfl
    |.d (.sl _) _::_::_=>rfl
    |.nil::_::_=>rfl
    |.box _ _::_::_=>rfl
    |.elt _ _ _::_::_=>rfl
    |.own _::_::_=>rfl
    |.oelt _ _ _ _::_::_=>rfl
    |.clo _ _::_::_=>rfl
    |.tup _::_::_=>rfl
    |.undef::_::_=>rfl
    |.dead::_::_=>rfl
    |.cut _ _::_::_=>rfl
    |.osl _ _ _ _::_::_=>rfl
   |row et e xs=>rfl
   |gone=>rfl
 ·subst e
  simp only[auw,aus e']
 ·subst e'
  simp only[auw,aus e]
 ·simp only[aus e,aus e']
theorem EV(q:Nat)(b:Bool)(H:List Item):(jr q b H).map ddJ=H.map ddJ:=by
 unfold jr
 split
 ·rename_i t c hq
  refine avN fun k=>?_
  rw[au6,au6,auy]
  by_cases e:q=k
  ·subst e
   rw[auw rfl,auw (aul.1 hq).1,hq]
   rfl
  ·rw[aus e]
 ·rfl
def Dd(H1 H2:List Item):Prop:=H1.length=H2.length∧∀(j:Nat) it1 it2,H1[j]?=some it1→H2[j]?=some it2→it1=it2∨it1=ddI it2
theorem ajZ(Hb X:List Item):Dd (Hb.map ddI++X) (Hb++X):=by
 refine⟨by simp,fun j it1 it2 h1 h2=>?_⟩
 rcases auz j Hb.length with hlt|hge
 ·rw[auo (by simpa using hlt),au6]at h1
  rw[auo hlt]at h2
  rw[h2]at h1
  injection h1 with h1
  exact .inr h1.symm
 ·rw[aup (by simpa using hge),av0]at h1
  rw[aup hge]at h2
  rw[h1]at h2
  injection h2 with h2
  exact .inl h2
section
variable {Z:Nat→Prop} {w0:World} {H1 H2:List Item} {G G':List Value} {w w':World}
theorem Dd.at2(h:Dd H1 H2){j:Nat}{it1:Item}(h1:H1[j]?=some it1):∃it2,H2[j]?=some it2∧(it1=it2∨it1=ddI it2)∧it2.live=it1.live:=by
 have hlt:j<H2.length:=by rw[←h.1];exact(aul.1 h1).1
 refine⟨H2[j],at8 hlt,h.2 j _ _ h1 (at8 hlt),?_⟩
 rcases h.2 j _ _ h1 (at8 hlt)with e|e
 ·rw[e]
 ·rw[e,EK]
theorem Dd.at1(h:Dd H1 H2){j:Nat}{it2:Item}(h2:H2[j]?=some it2):∃it1,H1[j]?=some it1∧(it1=it2∨it1=ddI it2)∧it1.live=it2.live:=by
 have hlt:j<H1.length:=by rw[h.1];exact(aul.1 h2).1
 refine⟨H1[j],at8 hlt,h.2 j _ _ (at8 hlt) h2,?_⟩
 rcases h.2 j _ _ (at8 hlt) h2 with e|e
 ·rw[e]
 ·rw[e,EK]
theorem yh(h:Dd H1 H2):Av Z H1 G=Av Z H2 G:=by
 funext b
 refine propext ⟨fun⟨h1,h2⟩=>⟨h1,fun j it g q1 q2 q3=>?_⟩,fun⟨h1,h2⟩=>⟨h1,fun j it g q1 q2 q3=>?_⟩⟩
 ·obtain⟨it1,e1,_,e3⟩:=h.at1 q1
  exact h2 j it1 g e1 (e3.trans q2) q3
 ·obtain⟨it2,e1,_,e3⟩:=h.at2 q1
  exact h2 j it2 g e1 (e3.trans q2) q3
theorem za(it:Item):ddI it=it∨∃t b,it=.box t [.d .bool b]∧ddI it=.box t [.dead]:=by
 unfold ddI
 split
 ·exact .inr ⟨_,_,rfl,rfl⟩
 ·exact .inl rfl
theorem an4(h:Dd H1 H2)(hr:SR Z w0 H2 G w):SR Z w0 H1 G w:=by
 refine⟨hr.len.trans h.1.symm,hr.below,fun j it g h1 hg=>?_,fun i j it jt g k b hij h1 h2 l1 l2=>?_,hr.zf⟩
 ·obtain⟨it2,e1,e2,_⟩:=h.at2 h1
  rw[yh h]
  have:=hr.items j it2 g e1 hg
  rcases e2 with e2|e2
  ·rw[e2];exact this
  ·rcases za it2 with e3|⟨t,b,e3,e4⟩
   ·rw[e2,e3];exact this
   ·rw[e2,e4]
    rw[e3]at this
    obtain⟨b',vs,k1,k2,k3,k4⟩:=this
    refine⟨b',vs,k1,k2,k3,?_⟩
    match vs,k4 with
    |[v],⟨_,q⟩=>exact⟨trivial,q⟩
 ·obtain⟨i2,e1,_,e3⟩:=h.at2 h1
  obtain⟨j2,f1,_,f3⟩:=h.at2 h2
  exact hr.disj i j i2 j2 g k b hij e1 f1 (e3.trans l1) (f3.trans l2)
theorem aoc(h:Dd H1 H2)(hr:SR Z w0 H2 G w)(hold:Old w w')(hr':SR Z w0 H1 G' w')(htr:∀s v,Rel1 G (Av Z H2 G) w s v→Rel1 G' (Av Z H1 G') w' s v):SR Z w0 H2 G' w':=by
 refine⟨hr'.len.trans h.1,hr'.below,fun j it g h2 hg=>?_,fun i j it jt g k b hij h1 h2 l1 l2=>?_,hr'.zf⟩
 ·obtain⟨it1,e1,e2,_⟩:=h.at1 h2
  rw[←yh h]
  have:=hr'.items j it1 g e1 hg
  rcases e2 with e2|e2
  ·rw[←e2];exact this
  ·rcases za it with e3|⟨t,b,e3,e4⟩
   ·rw[e2,e3]at this;exact this
   ·subst e3
    have hlt:j<G.length:=by rw[hr.len];exact(aul.1 h2).1
    obtain⟨b',vs,k1,k2,k3,k4⟩:=hr.items j _ _ h2 (at8 hlt)
    obtain⟨b2,q1,q2⟩:=htr (.box j 0) G[j] ⟨b',by rw[at8 hlt,k1],k1⟩
    rw[hg]at q1
    injection q1 with q1
    rw[k1]at q2
    injection q2 with q2
    injection q2 with q2
    injection q2 with q2
    subst q2
    refine⟨b',vs,q1,k2,?_,?_⟩
    ·show w'.heap[b']?=_
     rw[hold.2 b' k3.lt]
     exact k3
    ·match vs,k4 with
     |[v],⟨q,q'⟩=>exact⟨q,q'⟩
 ·obtain⟨i2,e1,_,e3⟩:=h.at1 h1
  obtain⟨j2,f1,_,f3⟩:=h.at1 h2
  exact hr'.disj i j i2 j2 g k b hij e1 f1 (e3.trans l1) (f3.trans l2)
theorem anJ{n:Nat}{L:SL}{a:Act}(h:Dd H1 H2)(hf:FR Z n L H2 G w a):FR Z n L H1 G w a:=⟨hf.defers,hf.size,fun t s hs=>by rw[yh h];exact hf.slot t s hs⟩
end
section
variable {P:Program} {T:TT} {E:Env} {ops:Array Oper}
theorem StepF.up{Hb:List Item}{Lr:SL}{o:Oper}{j:Nat}{s:SV}(h:StepF P (Hb.map ddI) ops Lr o j s):StepF P Hb ops Lr o j s:=by
 intro X Z w0 n G w a Q K hI hr hf hK
 have hD:=ajZ Hb X
 refine h X Z w0 n G w a Q K hI (an4 hD hr) (anJ hD hf) fun v G' w' ho hr' htr hrel=>?_
 have htr':∀s v,Rel1 G (Av Z (Hb++X) G) w s v→Rel1 G' (Av Z (Hb.map ddI++X) G') w' s v:=fun s v hs=>htr s v (by rw[yh hD];exact hs)
 refine hK v G' w' ho (aoc hD hr ho hr' htr') (fun s' v' hs=>?_) ?_
 ·rw[←yh hD];exact htr' s' v' hs
 ·rw[←yh hD];exact hrel
def afL(P:Program)(H:List Item)(ops:Array Oper)(Lr:SL)(o:Oper)(j q:Nat)(c:Bool)(s:SV):Prop:=
 ∀(Hb X:List Item) (Z:Nat→Prop) (w0:World) (n:Nat) (G:List Value) (w:World) (a:Act) (Q:Exit→Act→World→Prop) (K:Act→World→Prop),Hb.map ddJ=H→inv w0→SR Z w0 (Hb++X) G w→FR Z n Lr (Hb++X) G w a→
  (∀v w',SR Z w0 (jr q c Hb++X) G w'→(∀s' v',Rel1 G (Av Z (Hb++X) G) w s' v'→Rel1 G (Av Z (jr q c Hb++X) G) w' s' v')→Rel G (Av Z (jr q c Hb++X) G) w' s v→K (a.put o.dst v) w')→wpOp P ops Q j K a w
theorem UT{it:Item}{t:Nat}(h:ddJ it=.box t [.d .bool false]):∃b,it=.box t [.d .bool b]:=by
 unfold ddJ at h
 split at h
 ·rename_i t' b
  injection h with h1 h2
  subst h1
  exact⟨b,rfl⟩
 ·exact⟨false,h⟩
theorem NC{q:Nat}{c:Bool}{Hb X:List Item}{t:Nat}{b:Bool}(h:Hb[q]?=some (.box t [.d .bool b])):jr q c Hb++X=(Hb++X).set q (.box t [.d .bool (b&&c)]):=by
 unfold jr
 rw[h]
 dsimp only
 rw[awX,auw (aul.1 h).1]
theorem Zx{Lr:SL}{Hc:List Item}{o:Oper}{j q:Nat}{c:Bool}{s:SV}(hE:jG P E)(hops:ops[j]?=some o)(hg:ct ops Lr o (fun _=>some true) (fun _=>some false)=some true)(h:bxC E Lr Hc o=some (q,s,c)):afL P (Hc.map ddJ) ops Lr o j q c s:=by
 intro Hb X Z w0 n G w a Q K hHb hI hr hf hK
 have want:Region.wanted o (yielded ops a.tmps)=true:=by
  rcases eI hf hg with⟨_,_,_,h3⟩|⟨_,h1,_,_⟩
  ·exact h3
  ·cases h1
 unfold bxC at h
 split at h<;>try (cases h;done)
 rename_i f x y z tys ho
 split at h<;>try (cases h;done)
 rename_i t ht
 split at h<;>try (cases h;done)
 rename_i q' i c' hx hy hz
 split at h<;>try (cases h;done)
 rename_i t' b0 hq
 split at h<;>try (cases h;done)
 rename_i hbeq
 have ett:=auh hbeq
 subst ett
 simp only[auk,auB]at h
 obtain⟨rfl,rfl,rfl⟩:=h
 obtain⟨b,hb⟩:∃b,Hb[q']?=some (.box t [.d .bool b]):=by
  have e1:(Hb.map ddJ)[q']?=some (.box t [.d .bool false]):=by
   rw[hHb,au6,hq]
   rfl
  rw[au6]at e1
  cases hk:Hb[q']? with
  |none=>rw[hk]at e1;cases e1
  |some it=>
   rw[hk]at e1
   injection e1 with e1
   obtain⟨b,e2⟩:=UT e1
   exact⟨b,by rw[e2]⟩
 have hlt:=(aul.1 hb).1
 have hbX:(Hb++X)[q']?=some (.box t [.d .bool b]):=by rw[auo hlt];exact hb
 obtain⟨sp,m,hsp,hm,hbx⟩:∃sp m,lP E f=some sp∧sp.mut_=some m∧m.bx=some t:=by
  unfold akE at ht
  split at ht<;>try (cases ht;done)
  rename_i sp hsp
  split at ht<;>try (cases ht;done)
  rename_i m hm
  exact⟨sp,m,hsp,hm,ht⟩
 obtain⟨hcl,_,hmc⟩:=hE f sp hsp
 have hmc:=hmc m hm
 unfold Mj at hmc
 rw[hbx]at hmc
 dsimp only at hmc
 obtain⟨blk,g1,g2⟩:=a8 hf hx
 obtain⟨cs,g3,g4⟩:=a8 hf hy
 obtain⟨cs',g5,g6⟩:=a8 hf hz
 obtain⟨l1,l2,e0,e1,e2⟩:=g3
 have e1:l1=[Value.int .i64 i.1]:=e1
 have e2:l2=[Value.int .i64 i.2]:=e2
 have e5:cs'=[Value.bool c']:=g5
 subst e1 e2 e5
 subst e0
 have g4:a.eval y=.agg #[.int .i64 i.1,.int .i64 i.2]:=g4
 have g6:a.eval z=.bool c':=g6
 obtain⟨b',vs,k1,k2,k3,k4⟩:=hr.items q' _ _ hbX g1
 injection k1 with k1
 injection k1 with k1
 injection k1 with k1
 subst k1
 have evs:vs=[Value.bool b]:=by
  match vs,k4 with
  |[v],⟨⟨cs,q1,q2⟩,_⟩=>
   have q1:cs=[Value.bool b]:=q1
   subst q1
   rw[q2]
   rfl
 subst evs
 unfold wpOp
 simp only[hops]
 rw[auw want]
 refine .inl ?_
 unfold Oper.wp
 rw[iU hcl a.eval o (.func f) ⟨[x,y,z]⟩ tys #[] ho rfl w]
 have ea:Array.map a.eval ⟨[x,y,z]⟩++ #[]= #[.pointer (some ⟨blk,0,none⟩),.agg #[.int .i64 i.1,.int .i64 i.2],.bool c']:=by
  simp[g2,g4,g6]
 rw[ea]
 refine(hmc w blk b c' i.1 i.2 (m4 hI hr.below) k3).mono ?_
 rintro e w' ⟨rfl,r1,r2⟩
 have hblk:∀b',b'<w.heap.size→(∀g',G[q']?=some g'→bU g'≠some b')→w'.heap[b']?=w.heap[b']?:=fun b' hb' hn=>r2.block b' hb' fun e2=>hn _ g1 e2.symm
 have hB:Below w0.heap.size w0 w':=hr.below.grown r2 hr.below.size fun p hp=>by injection hp with hp;subst hp;exact k2
 have hst:=mA (it':=.box t [.d .bool (b&&c')]) hr hbX rfl hB r2.size hblk
 rw[NC hb]at hK
 refine hK _ w' (Bw hr hbX rfl hB r2.size hblk fun g' hg'=>?_) (fun s' v' hs=>dm hr hst hs) ?_
 ·rw[g1]at hg'
  injection hg' with hg'
  subst hg'
  exact⟨blk,[.bool (b&&c')],rfl,k2,r1,⟨⟨[Value.bool (b&&c')],rfl,rfl⟩,trivial⟩⟩
 ·exact⟨[.int .i64 i.1,.int .i64 i.2],⟨[.int .i64 i.1],[.int .i64 i.2],rfl,rfl,rfl⟩,rfl⟩
end
end
section
section
variable {P:Program} {T:TT} {E:Env} {ops:Array Oper} {R:Type}
def StepK(P:Program)(H:List Item)(K:List Item→List Item)(ops:Array Oper)(Lr:SL)(o:Oper)(j:Nat)(s:SV):Prop:=
 (K=id∧StepF P (H.map ddI) ops Lr o j s)∨∃q c,K=jr q c∧afL P H ops Lr o j q c s
inductive TRunB (P:Program) (E:Env) (ops:Array Oper) (N:Nat) (H:List Item) (lo:Bool) (Fin:Nat→Array Bool→SL→Prop):Nat→Array Bool→SL→(List Item→List Item)→Prop
 |done {n:Nat} {l:Array Bool} {L:SL}:eL E ops l=true→Fin n l L→TRunB P E ops N H lo Fin n l L id
 |step {n:Nat} {l:Array Bool} {L L':SL} {j:Nat} {o:Oper} {d:Nat} {s:SV} {K F:List Item→List Item}:j∈Region.ready .any ops l→(gM E ops j=true∨lo=true)→dM E ops j=true→ops[j]?=some o→o.dst=some d→d<N→Region.free .any ops l j=true→StepK P H K ops (fo L (o.looksAt ops)) o j s→
   s.refsT H.length=true→(∀t,aX L' t=if t=d then some s else aX L t)→TRunB P E ops N H lo Fin n (l.setIfInBounds j true) L' F→TRunB P E ops N H lo Fin (n+1) l L (fun x=>F (K x))
variable {N:Nat} {H:List Item} {lo:Bool} {Fin:Nat→Array Bool→SL→Prop}
theorem StepK.com{K K':List Item→List Item}{Lr Lr':SL}{o o':Oper}{j j':Nat}{s s':SV}(h:StepK P H K ops Lr o j s)(h':StepK P H K' ops Lr' o' j' s')(x:List Item):K (K' x)=K' (K x):=by
 rcases h with⟨rfl,_⟩|⟨q,c,rfl,_⟩
 ·rfl
 ·rcases h' with⟨rfl,_⟩|⟨q',c',rfl,_⟩
  ·rfl
  ·exact RM _ _ _ _ _
theorem StepK.ddJ{K:List Item→List Item}{Lr:SL}{o:Oper}{j:Nat}{s:SV}(h:StepK P H K ops Lr o j s)(x:List Item):(K x).map ddJ=x.map ddJ:=by
 rcases h with⟨rfl,_⟩|⟨q,c,rfl,_⟩
 ·rfl
 ·exact EV _ _ _
theorem TRunB.any{n:Nat}{l:Array Bool}{L:SL}{F:List Item→List Item}(h:TRunB P E ops N H lo Fin n l L F):Clo ops l→∀{j:Nat},j∈Region.ready .any ops l→dM E ops j=true→
  ∃(n':Nat) (o:Oper) (d:Nat) (s:SV) (L':SL) (K F':List Item→List Item),n=n'+1∧ops[j]?=some o∧o.dst=some d∧d<N∧StepK P H K ops (fo L (o.looksAt ops)) o j s∧s.refsT H.length=true∧(∀t,aX L' t=if t=d then some s else aX L t)∧TRunB P E ops N H lo Fin n' (l.setIfInBounds j true) L' F'∧F=fun x=>F' (K x):=by
 induction h with
 |done h1 h2=>intro hcl j hj hs;rw[mL hcl h1 hj]at hs;cases hs
 | @step n l L L1 i oi di si Ki Fi h1 h0 h0' h2 h3 h4 h5 h6 hrf h7 h8 ih=>
  intro hcl j hj hst
  by_cases hji:j=i
  ·subst hji
   exact⟨n,oi,di,si,L1,Ki,Fi,rfl,h2,h3,h4,h6,hrf,h7,h8,rfl⟩
  ·obtain⟨n',oj,dj,sj,L2,Kj,F2,e1,g2,g3,g4,g6,grf,g7,g8,g9⟩:=ih (hcl.set h1) (avF hj hji) hst
   have hjun:=(avj.1 hj).1
   have hap:=avK h2 h5 j oj g2 hji hjun (dY h1 hj g2)
   obtain⟨a1,a2,a3⟩:=awz hap
   have b1:=a1 di h3
   have b2:dj≠di:=fun e=>a2 di h3 (by rw[g3,e])
   have b3:=a3 dj g3
   have c1:StepK P H Kj ops (fo L (oj.looksAt ops)) oj j sj:=by
    rw[←dD (L:=L1) (M:=L) fun t ht=>by rw[h7 t,aus (fun e=>b1 (by rw[←e];exact ht))]]
    exact g6
   have c2:StepK P H Ki ops (fo ((dj,sj)::lc L dj) (oi.looksAt ops)) oi i si:=by
    rw[dD (M:=L) fun t ht=>by rw[cr,aus (fun e=>b3 (by rw[←e];exact ht))]]
    exact h6
   refine⟨n,oj,dj,sj,(dj,sj)::lc L dj,Kj,fun x=>F2 (Ki x),rfl,g2,g3,g4,c1,grf,fun t=>cr,?_,?_⟩
   ·rw[e1]
    refine .step (j:=i) (L':=L2) (avF h1 (avy hji)) h0 h0' h2 h3 h4 (kE h2 hjun h5) c2 hrf (fun t=>?_) ?_ (s:=si)
    ·rw[g7 t,h7 t,cr]
     by_cases e1:t=dj
     ·subst e1;rw[auw rfl,aus b2];rw[auw rfl]
     ·rw[aus e1,aus e1]
    ·rw[au3 _ _ hji]
     exact g8
   ·rw[g9]
    funext x
    show F2 (Kj (Ki x))=F2 (Ki (Kj x))
    rw[g6.com h6]
theorem TRunB.alloc{la:List AlA}(hFin:∀n l L j oj,Fin n l L→Clo ops l→j∈Region.ready .any ops l→eL E ops l=true→ops[j]?=some oj→bI oj=true→∃n' r a L',n=n'+1∧la[r]?=some a∧a.i=j∧oj.dst=some a.d∧a.d<N∧(∃x,oj.op=.alloc a.t∧dw T a.t=some x∧x.z=true∧(∀p q,x.ty≠.pair p q)∧a.cs=x.ty.zsplit)∧(∀t,aX L' t=if t=a.d then some (.box (H.length+r) 0)else aX L t)∧eL E ops (l.setIfInBounds j true)=true∧Fin n' (l.setIfInBounds j true) L')
  {n:Nat} {l:Array Bool} {L:SL} {F:List Item→List Item} (h:TRunB P E ops N H lo Fin n l L F):Clo ops l→∀{j:Nat} {oj:Oper},j∈Region.ready .any ops l→ops[j]?=some oj→bI oj=true→
  ∃(n' r:Nat) (a:AlA) (L':SL),n=n'+1∧la[r]?=some a∧a.i=j∧oj.dst=some a.d∧a.d<N∧(∃x,oj.op=.alloc a.t∧dw T a.t=some x∧x.z=true∧(∀p q,x.ty≠.pair p q)∧a.cs=x.ty.zsplit)∧(∀t,aX L' t=if t=a.d then some (.box (H.length+r) 0)else aX L t)∧TRunB P E ops N H lo Fin n' (l.setIfInBounds j true) L' F:=by
 induction h with
 |done h1 h2=>
  intro hcl j oj hj hoj hal
  obtain⟨n',r,a,L',e1,e2,e3,e4,e5,e6,e7,e8,e9⟩:=hFin _ _ _ _ _ h2 hcl hj h1 hoj hal
  exact⟨n',r,a,L',e1,e2,e3,e4,e5,e6,e7,.done e8 e9⟩
 | @step n l L L1 i oi di si Ki Fi h1 h0 h0' h2 h3 h4 h5 h6 hrf h7 h8 ih=>
  intro hcl j oj hj hoj hal
  by_cases hji:j=i
  ·exfalso
   subst hji
   unfold dM at h0'
   rw[hoj]at h0'
   dsimp only at h0'
   rw[gO hal]at h0'
   cases h0'
  ·obtain⟨n',r,x,L2,e1,e2,e3,g3,g4,g5,g7,g8⟩:=ih (hcl.set h1) (avF hj hji) hoj hal
   have hjun:=(avj.1 hj).1
   have hap:=avK h2 h5 j oj hoj hji hjun (dY h1 hj hoj)
   obtain⟨a1,a2,a3⟩:=awz hap
   have b2:x.d≠di:=fun e=>a2 di h3 (by rw[g3,e])
   have b3:=a3 x.d g3
   refine⟨n,r,x,(x.d,.box (H.length+r) 0)::lc L x.d,rfl,e2,e3,g3,g4,g5,fun t=>cr,?_⟩
   rw[e1]
   refine .step (j:=i) (L':=L2) (avF h1 (avy hji)) h0 h0' h2 h3 h4 (kE h2 hjun h5) ?_ hrf (fun t=>?_) ?_ (s:=si)
   ·rw[dD (M:=L) fun t ht=>by rw[cr,aus (fun e=>b3 (by rw[←e];exact ht))]]
    exact h6
   ·rw[g7 t,h7 t,cr]
    by_cases e1:t=x.d
    ·subst e1;rw[auw rfl,aus b2];rw[auw rfl]
    ·rw[aus e1,aus e1]
   ·rw[au3 _ _ hji]
    exact g8
theorem TRunB.store{ss:List AlS}(hFin:∀n l L j oj,Fin n l L→Clo ops l→j∈Region.ready .any ops l→eL E ops l=true→ops[j]?=some oj→d9 E ops j=true→∃n' s,n=n'+1∧s∈ss∧s.i=j∧ow T L s oj∧eL E ops (l.setIfInBounds j true)=true∧Fin n' (l.setIfInBounds j true) L)
  {n:Nat} {l:Array Bool} {L:SL} {F:List Item→List Item} (h:TRunB P E ops N H lo Fin n l L F):Clo ops l→∀{j:Nat} {oj:Oper},j∈Region.ready .any ops l→ops[j]?=some oj→d9 E ops j=true→
  ∃(n':Nat) (s:AlS),n=n'+1∧s∈ss∧s.i=j∧ow T L s oj∧TRunB P E ops N H lo Fin n' (l.setIfInBounds j true) L F:=by
 induction h with
 |done h1 h2=>
  intro hcl j oj hj hoj hal
  obtain⟨n',s,e1,e2,e3,e4,e5,e6⟩:=hFin _ _ _ _ _ h2 hcl hj h1 hoj hal
  exact⟨n',s,e1,e2,e3,e4,.done e5 e6⟩
 | @step n l L L1 i oi di si Ki Fi h1 h0 h0' h2 h3 h4 h5 h6 hrf h7 h8 ih=>
  intro hcl j oj hj hoj hal
  by_cases hji:j=i
  ·exfalso
   subst hji
   unfold dM at h0'
   unfold d9 at hal
   rw[hoj]at h0' hal
   dsimp only at h0' hal
   rw[h0']at hal
   cases hal
  ·obtain⟨n',s,e1,e2,e3,g5,g8⟩:=ih (hcl.set h1) (avF hj hji) hoj hal
   have hjun:=(avj.1 hj).1
   have hap:=avK h2 h5 j oj hoj hji hjun (dY h1 hj hoj)
   obtain⟨a1,a2,a3⟩:=awz hap
   have b1:=a1 di h3
   refine⟨n,s,rfl,e2,e3,?_,?_⟩
   ·obtain⟨t,x,v,sv,y,q1,q2,q3,q4,q5,q6⟩:=g5
    have hop:∀{z:Operand} {sz:SV},(∀u,z=.tmp u→u∈oj.looksAt ops)→opS L1 z=some sz→opS L z=some sz:=by
     intro z sz hz he
     cases z with
     |tmp u=>
      simp only[opS]at he ⊢
      rw[h7 u,aus (fun e=>b1 (by rw[←e];exact hz u rfl))]at he
      exact he
     |_=>exact he
    refine⟨t,x,v,sv,y,q1,q2,q3,hop (fun u hu=>?_) q4,hop (fun u hu=>?_) q5,q6⟩
    ·unfold Oper.looksAt;rw[q1,hu];simp[Op.operands]
    ·unfold Oper.looksAt;rw[q1,hu];simp[Op.operands]
   ·rw[e1]
    refine .step (j:=i) (L':=L1) (avF h1 (avy hji)) h0 h0' h2 h3 h4 (kE h2 hjun h5) h6 hrf h7 ?_ (s:=si)
    rw[au3 _ _ hji]
    exact g8
theorem qM{H':List Item}{la:List AlA}{ss:List AlS}(hp:PlanOk T ops N H la ss)(hnew:∀s∈ss,H.length≤s.j)(hl:H'.length=H.length):PlanOk T ops N H' la ss:=by
 refine⟨hp.dis,fun a ha=>?_,fun s hs=>?_,hp.far⟩
 ·rw[hl];exact hp.la2 a ha
 ·obtain⟨q1,q2,q3,bt,cells,q4,q5⟩:=hp.ss1 s hs
  have hge:=hnew s hs
  refine⟨q1,by rw[hl];exact q2,by rw[hl];exact q3,bt,cells,?_,q5⟩
  rw[aup (by omega)]at q4 ⊢
  rw[hl]
  exact q4
theorem Jv{h0:Nat}{Hb:List Item}(h:kQ h0 (Hb.map ddJ)):kQ h0 Hb:=by
 intro k t cs hk x hx
 have e:(Hb.map ddJ)[k]?=some (ddJ (.box t cs)):=by rw[au6,hk];rfl
 unfold ddJ at e
 split at e
 ·rename_i t' b heq
  injection heq with e1 e2
  subst e2
  have:x=.d .bool b:=by simpa using hx
  subst this
  rfl
 ·exact h k t cs e x hx
theorem yk{f:Nat→Bool}{h0:Nat}{Y:List Item}:∀{ss:List AlS},(∀s∈ss,h0≤s.j)→∃X,∀H:List Item,H.length=h0→cC f ss (H++Y)=H++X
 |[],_=>⟨Y,fun _ _=>rfl⟩
 |s::r,h=>by
  obtain⟨X,hX⟩:=yk (f:=f) (h0:=h0) (Y:=Y) (ss:=r) fun s hs=>h s (by simp[hs])
  have hs:=h s (by simp)
  cases hf:f s.i with
  |false=>exact⟨X,fun H hl=>by simp only[cC];rw[hf];exact hX H hl⟩
  |true=>
   refine⟨match X[s.j-h0]? with
    |some (.box bt cells)=>X.set (s.j-h0) (.box bt (lU cells s.off s.l))
    |_=>X,fun H hl=>?_⟩
   simp only[cC]
   rw[hf,hX H hl]
   dsimp only
   unfold stP
   rw[aup (by omega),hl]
   split
   ·rename_i bt cells hx
    rw[awX,aus (by omega),hl]
    simp only[hx]
   ·rename_i hx
    split
    ·rename_i bt cells hy
     exact absurd hy (hx bt cells)
    ·rfl
theorem ET{h0:Nat}{Hb:List Item}(h:kQ h0 Hb):kQ h0 (Hb.map ddJ):=by
 intro k t cs hk x hx
 rw[au6]at hk
 cases e:Hb[k]? with
 |none=>rw[e]at hk;cases hk
 |some it=>
  rw[e]at hk
  injection hk with hk
  unfold ddJ at hk
  split at hk
  ·injection hk with h1 h2
   subst h2
   have:x=.d .bool false:=by simpa using hx
   subst this
   rfl
  ·subst hk
   exact h k t cs e x hx
theorem TRunB.sound{Z:Nat→Prop}{w0:World}{fl:Nat}{Q:Exit→Act→World→Prop}{X:List Item→List Value→World→Prop}{la:List AlA}{ss:List AlS}{Hf:List Item}(hT:em P T=true)(hE:jG P E)(hI:inv w0)
  (hFin:∀n l L j oj,Fin n l L→Clo ops l→j∈Region.ready .any ops l→eL E ops l=true→ops[j]?=some oj→bI oj=true→∃n' r a L',n=n'+1∧la[r]?=some a∧a.i=j∧oj.dst=some a.d∧a.d<N∧(∃x,oj.op=.alloc a.t∧dw T a.t=some x∧x.z=true∧(∀p q,x.ty≠.pair p q)∧a.cs=x.ty.zsplit)∧(∀t,aX L' t=if t=a.d then some (.box (H.length+r) 0)else aX L t)∧eL E ops (l.setIfInBounds j true)=true∧Fin n' (l.setIfInBounds j true) L')
  (hFinS:lo=true→∀n l L j oj,Fin n l L→Clo ops l→j∈Region.ready .any ops l→eL E ops l=true→ops[j]?=some oj→d9 E ops j=true→∃n' s,n=n'+1∧s∈ss∧s.i=j∧ow T L s oj∧eL E ops (l.setIfInBounds j true)=true∧Fin n' (l.setIfInBounds j true) L)
  (hp0:PlanOk T ops N H la ss) (hnew:∀s∈ss,H.length≤s.j) (hlow0:kQ H.length H) (hfl:fl≤H.length)
  (hX:∀H G w H' G' w',X H G w→Ev Z fl H G w H' G' w'→X H' G' w') (hQ:∀n l L G w a,eL E ops l=true→Fin n l L→Clo ops l→l.size=ops.size→xl H.length la (dn l) L→SR Z w0 (cC (dn l) ss (Hf++alX (dn l) la)) G w→FR Z N L (cC (dn l) ss (Hf++alX (dn l) la)) G w a→X (cC (dn l) ss (Hf++alX (dn l) la)) G w→wpG P ops Q (fun _=>True) n l a w):
  ∀(n:Nat) (l:Array Bool) (L:SL) (F:List Item→List Item),TRunB P E ops N H lo Fin n l L F→∀Hb,Hb.map ddJ=H→F Hb=Hf→Clo ops l→l.size=ops.size→xl H.length la (dn l) L→∀(G:List Value) (w:World) (a:Act),SR Z w0 (cC (dn l) ss (Hb++alX (dn l) la)) G w→FR Z N L (cC (dn l) ss (Hb++alX (dn l) la)) G w a→X (cC (dn l) ss (Hb++alX (dn l) la)) G w→wpG P ops Q (fun _=>True) n l a w:=by
 have lowS:∀{l:Array Bool} {L L':SL} {j d:Nat} {s:SV},xl H.length la (dn l) L→s.refsT H.length=true→(∀t,aX L' t=if t=d then some s else aX L t)→xl H.length la (dn (l.setIfInBounds j true)) L':=by
  intro l L L' j d s hL hs hL' t u hu
  rw[hL' t]at hu
  split at hu
  ·injection hu with hu
   subst hu
   exact .inl hs
  ·rcases hL t u hu with h|⟨r,a,h1,h2,h3⟩
   ·exact .inl h
   ·refine .inr ⟨r,a,h1,?_,h3⟩
    rw[gX]
    split
    ·rfl
    ·exact h2
 intro n
 induction n with
 |zero=>
  intro l L F h Hb hHb hF hcl hsz hL G w a hr hf hx
  cases h with
  |done h1 h2=>subst hF;exact hQ 0 l L G w a h1 h2 hcl hsz hL hr hf hx
 |succ n ih=>
  intro l L F h Hb hHb hF hcl hsz hL G w a hr hf hx
  have h':=h
  have hlen:Hb.length=H.length:=by rw[←hHb,av0]
  have hp:PlanOk T ops N Hb la ss:=qM hp0 hnew hlen
  have hlow:kQ Hb.length Hb:=by rw[hlen];exact Jv (by rw[hHb];exact hlow0)
  cases h with
  |done h1 h2=>subst hF;exact hQ _ l L G w a h1 h2 hcl hsz hL hr hf hx
  | @step _ _ _ L1 i oi di si Ki Fi h1 h0 h0' h2 h3 h4 h5 h6 hrf h7 h8=>
   refine qC rfl (fun e=>by rw[e]at h1;cases h1) fun j hj=>?_
   obtain⟨hjun,oj,hoj,_⟩:=avj.1 hj
   cases hnl:d9 E ops j with
   |true=>
    have hlo:lo=true:=h0.resolve_left fun h0=>by
     rw[wz hcl h0 (avj.1 h1).1 hj]at hnl
     cases hnl
    obtain⟨n',s,e1,e2,e3,g5,g8⟩:=h'.store (T:=T) (hFinS hlo) hcl hj hoj hnl
    have e1:n=n':=by omega
    subst e1 e3
    obtain⟨_,oj',hoj',hdep⟩:=avj.1 hj
    rw[hoj]at hoj'
    injection hoj' with hoj'
    subst hoj'
    obtain⟨bt,c',b1,b2⟩:=hp.box hcl e2 fun os hos e he hb=>by rw[hoj]at hos;injection hos with hos;subst hos;exact hdep e he hb
    refine oS (fl:=fl) hT hE hI hoj g5 b1 b2 hr hf hx hX fun G' w' k2 k3 k5=>⟨.inr trivial,?_⟩
    rw[←hp.setS e2 hjun]at k2 k3 k5
    refine ih _ _ _ g8 Hb hHb hF (hcl.set hj) (by simpa using hsz) (fun t u hu=>?_) G' w' _ k2 k3 k5
    rcases hL t u hu with h|⟨r,b,q1,q2,q3⟩
    ·exact .inl h
    ·refine .inr ⟨r,b,q1,?_,q3⟩
     rw[gX]
     split
     ·rfl
     ·exact q2
   |false=>
   cases hal:bI oj with
   |false=>
    have hst:dM E ops j=true:=by
     unfold d9 at hnl
     unfold dM
     rw[hoj]at hnl ⊢
     simpa [hal]using hnl
    obtain⟨n',o,d,s,L',K,F',e1,g2,g3,g4,g5,grf,g6,g7,g9⟩:=h'.any hcl hj hst
    have e1:n=n':=by omega
    subst e1
    have hno:bI o=false:=by rw[hoj]at g2;injection g2 with g2;subst g2;exact hal
    rw[g9]at hF
    rcases g5 with⟨rfl,g5⟩|⟨q,c,rfl,g5⟩
    ·have e1:=hp.setT (l:=l) g2 hno g3
     obtain⟨Y,hY⟩:=qE (f:=dn l) (H:=Hb) (Y:=alX (dn l) la) (fun s hs=>by rw[hlen];exact hnew s hs)
     rw[hY]at hr hf hx
     rw[←Dc hHb]at g5
     refine g5.up Y Z w0 N G w a Q _ hI hr ⟨hf.defers,hf.size,fun t s' hs=>hf.slot t s' (fO hs)⟩ fun v G' w' k0 k1 k2 k3=>⟨.inr trivial,?_⟩
     rw[hY]at e1
     have hf1:FR Z N ((d,s)::lc L d) (Hb++Y) G' w' (a.put o.dst v):=by
      refine(hf.keep k2).put (d:=o.dst) (s:=s) ?_ k3
      rw[g3]
      simp only[dI]
      rw[auA (show d+1≤N by omega)]
     exact ih _ _ _ g7 Hb hHb hF (hcl.set hj) (by simpa using hsz) (lowS hL grf g6) G' w' _ (by rw[e1];exact k1) (by rw[e1];exact hf1.eqv fun t=>by rw[cr,g6 t]) (by rw[e1];exact hX _ _ _ _ _ _ hx fun s v hs _=>k2 s v hs)
    ·have hp':PlanOk T ops N (jr q c Hb) la ss:=qM hp (fun s hs=>by rw[hlen];exact hnew s hs) (v9 _ _ _)
     have e1:=hp'.setT (l:=l) g2 hno g3
     obtain⟨Y,hYu⟩:=yk (f:=dn l) (h0:=H.length) (Y:=alX (dn l) la) hnew
     have hY:=hYu Hb hlen
     have hY':=hYu (jr q c Hb) ((v9 _ _ _).trans hlen)
     rw[hY]at hr hf hx
     refine g5 Hb Y Z w0 N G w a Q _ hHb hI hr ⟨hf.defers,hf.size,fun t s' hs=>hf.slot t s' (fO hs)⟩ fun v w' k1 k2 k3=>⟨.inr trivial,?_⟩
     rw[hY']at e1
     have hf1:FR Z N ((d,s)::lc L d) (jr q c Hb++Y) G w' (a.put o.dst v):=by
      refine(hf.keep k2).put (d:=o.dst) (s:=s) ?_ k3
      rw[g3]
      simp only[dI]
      rw[auA (show d+1≤N by omega)]
     exact ih _ _ _ g7 (jr q c Hb) ((EV q c Hb).trans hHb) hF (hcl.set hj) (by simpa using hsz) (lowS hL grf g6) G w' _ (by rw[e1];exact k1) (by rw[e1];exact hf1.eqv fun t=>by rw[cr,g6 t]) (by rw[e1];exact hX _ _ _ _ _ _ hx fun s v hs _=>k2 s v hs)
   |true=>
    obtain⟨n',r,x,L',e1,e2,e3,g3,g4,⟨y,y5,y6,y7,y8,y9⟩,g7,g8⟩:=h'.alloc (T:=T) hFin hcl hj hoj hal
    have e1:n=n':=by omega
    subst e1 e3
    obtain⟨hset,hgone⟩:=hp.setA hcl hsz e2 hjun
    rw[←hlen]at g7 hL
    refine po (L':=L') hT hoj hal e2 g3 g4 y5 ⟨y,y6,y7,y8,y9⟩ hp.dis hjun hgone (hp.low hlow) hL (by rw[hlen];exact hfl) hr hf hx hX g7 fun v G' w' k0 k1 k2 k3=>⟨.inr trivial,?_⟩
    rw[←hset]at k1 k2 k3
    rw[hlen]at g7 hL
    refine ih _ _ _ g8 Hb hHb hF (hcl.set hj) (by simpa using hsz) (fun t u hu=>?_) G' w' _ k1 k2 k3
    rw[g7 t]at hu
    split at hu
    ·injection hu with hu
     exact .inr ⟨r,x,e2,by rw[gX,auw rfl],hu.symm⟩
    ·rcases hL t u hu with h|⟨r',b,q1,q2,q3⟩
     ·exact .inl h
     ·refine .inr ⟨r',b,q1,?_,q3⟩
      rw[gX]
      split
      ·rfl
      ·exact q2
end
section
variable {F:FT} {P:Program} {T:TT} {E:Env} {N:NT} {Fn:Nat→Cfg→Option (List RV)} {r:List RV}
theorem ye{c:Cfg}{i:Nat}{la:List AlA}{ss:List AlS}{m m' n:Nat}{l:Array Bool}{L:SL}(hm:m≤m')(hf:sR P F T E N Fn r c i la ss m n l L):sR P F T E N Fn r c i la ss m' n l L:=by
 rcases hf with⟨D',q,e1,e2,e3,e4,e5,e6,e7,e8,e9⟩|⟨D',q,L0,ss',e1,e2,e3,e4,e5,e6,e7,e8⟩|⟨D',q,j',o',e1,e2,e3,e4,e5,e6,e7,e8,e9,e10,e11⟩
 ·exact .inl ⟨D',q,e1,e2,e3,e4,e5,e6,e7,by omega,e9⟩
 ·exact .inr (.inl ⟨D',q,L0,ss',e1,e2,e3,e4,e5,e6,by omega,e8⟩)
 ·exact .inr (.inr ⟨D',q,j',o',e1,e2,e3,e4,e5,e6,e7,e8,e9,by omega,e11⟩)
theorem TRunB.mono{P:Program}{ops:Array Oper}{N:Nat}{H:List Item}{lo:Bool}{Fin Fin':Nat→Array Bool→SL→Prop}(hF:∀n l L,Fin n l L→Fin' n l L){n:Nat}{l:Array Bool}{L:SL}{Φ:List Item→List Item}(h:TRunB P E ops N H lo Fin n l L Φ):TRunB P E ops N H lo Fin' n l L Φ:=by
 induction h with
 |done h1 h2=>exact .done h1 (hF _ _ _ h2)
 |step h1 h0 h0' h2 h3 h4 h5 h6 hrf h7 h8 ih=>exact .step h1 h0 h0' h2 h3 h4 h5 h6 hrf h7 ih
theorem Cl{ops:Array Oper}{D:List Nat}:∀{rs:List Nat} {j:Nat},xR E ops D rs=some j→j∈rs∧∃o d,ops[j]?=some o∧eZ E o=true∧o.dst=some d∧Region.free .any ops (mkL ops.size D) j=true∧(gM E ops j=true∨(!(cd E ops))=true)
 |[],_,h=>by simp[xR]at h
 |q::rs,j,h=>by
  simp only[xR]at h
  split at h<;>try (cases h;done)
  rename_i o ho
  split at h
  ·rename_i hb
   injection h with h
   subst h
   simp only[aug]at hb
   obtain⟨d,hd⟩:=au2.1 hb.1.1.2
   simp only[avR]at hb
   exact⟨by simp,o,d,ho,hb.1.1.1,hd,hb.1.2,hb.2⟩
  ·obtain⟨h1,h2⟩:=Cl h
   exact⟨by simp[h1],h2⟩
theorem TRun.fin{ops:Array Oper}{N:Nat}{H:List Item}{lo:Bool}{Fin:Nat→Array Bool→SL→Prop}{n:Nat}{l:Array Bool}{L:SL}(h:TRun P E ops N H lo (fun _ _ _=>False) Fin n l L)(hall:eL E ops l=true)(hcl:Clo ops l):Fin n l L:=by
 cases h with
 |done h1 h2=>exact h2
 |stop h1 h2=>exact h2.elim
 |step h1 _ h0'=>
  rw[mL hcl hall h1]at h0'
  cases h0'
theorem X6(hT:em P T=true)(hE:jG P E){i:Nat}{c:Cfg}:∀(m:Nat) (D:List Nat) (L:SL) (H:List Item),go P F T E N Fn m {c with L:=L,H:=H} (.tbx i D)=some r→
  cu (mkL (au (nth (aq F c.f) i)).size D)+D.length=(au (nth (aq F c.f) i)).size→(∀j∈D,dM E (au (nth (aq F c.f) i)) j=true)→(∀t s,aX L t=some s→s.refsT H.length=true)→Clo (au (nth (aq F c.f) i)) (mkL (au (nth (aq F c.f) i)).size D)→
  ∃la ss Φ,cd E (au (nth (aq F c.f) i))=true∧PlanOk T (au (nth (aq F c.f) i)) (ntm F c.f) (H.map ddJ) la ss∧(∀s∈ss,H.length≤s.j)∧(Φ H).map ddJ=H.map ddJ∧TRunB P E (au (nth (aq F c.f) i)) (ntm F c.f) (H.map ddJ) (!(cd E (au (nth (aq F c.f) i)))) (sR P F T E N Fn r {c with H:=Φ H} i la ss m) ((au (nth (aq F c.f) i)).size-D.length) (mkL (au (nth (aq F c.f) i)).size D) L Φ:=by
 intro m
 induction m with
 |zero=>intro D L H h;simp[go]at h
 |succ m ih=>
  intro D L H h hlen hD hlowL hcl
  have next:∀{j:Nat} {o:Oper} {d:Nat} {L1 L2:SL} {s:SV} {K:List Item→List Item},j∈Region.ready .any (au (nth (aq F c.f) i)) (mkL (au (nth (aq F c.f) i)).size D)→(au (nth (aq F c.f) i))[j]?=some o→o.dst=some d→Region.free .any (au (nth (aq F c.f) i)) (mkL (au (nth (aq F c.f) i)).size D) j=true→(gM E (au (nth (aq F c.f) i)) j=true∨(!(cd E (au (nth (aq F c.f) i))))=true)→eZ E o=true→D.length+1≤(au (nth (aq F c.f) i)).size→
    (∀t,aX L1 t=aX L t)→StepK P (H.map ddJ) K (au (nth (aq F c.f) i)) (fo L (o.looksAt (au (nth (aq F c.f) i)))) o j s→(K H).length=H.length→s.refsT H.length=true→dI (ntm F c.f) L1 o.dst s=some L2→go P F T E N Fn m {c with L:=L2,H:=K H} (.tbx i (j::D))=some r→
    ∃la ss Φ,cd E (au (nth (aq F c.f) i))=true∧PlanOk T (au (nth (aq F c.f) i)) (ntm F c.f) (H.map ddJ) la ss∧(∀s∈ss,H.length≤s.j)∧(Φ H).map ddJ=H.map ddJ∧TRunB P E (au (nth (aq F c.f) i)) (ntm F c.f) (H.map ddJ) (!(cd E (au (nth (aq F c.f) i)))) (sR P F T E N Fn r {c with H:=Φ H} i la ss (m+1)) ((au (nth (aq F c.f) i)).size-D.length) (mkL (au (nth (aq F c.f) i)).size D) L Φ:=by
   intro j o d L1 L2 s K h1 h2 h3 h4 h4' h4'' h5 h6 h7 hK hrf h8 h9
   have htj:dM E (au (nth (aq F c.f) i)) j=true:=by unfold dM;rw[h2];exact h4''
   have hcu:=yW (avj.1 h1).1
   rw[h3]at h8
   simp only[dI]at h8
   split at h8<;>try (cases h8;done)
   rename_i hd
   have hd:=aui hd
   injection h8 with h8
   have hlk:∀t,aX L2 t=if t=d then some s else aX L t:=fun t=>by rw[←h8,cr,h6 t]
   obtain⟨la,ss,Φ,hstr,hp,hnew,hlenΦ,h10⟩:=ih (j::D) L2 (K H) h9 (by
    rw[auD]
    show cu ((mkL _ D).setIfInBounds j true)+_=_
    omega) (fun k hk=>by
    rcases auK.1 hk with e|hk
    ·subst e;exact htj
    ·exact hD k hk) (fun t u hu=>by
    rw[hK]
    rw[hlk t]at hu
    split at hu
    ·injection hu with hu;subst hu;exact hrf
    ·exact hlowL t u hu) (hcl.set h1)
   rw[h7.ddJ]at hp h10
   refine⟨la,ss,fun x=>Φ (K x),hstr,hp,fun s hs=>by rw[←hK];exact hnew s hs,hlenΦ.trans (h7.ddJ H),?_⟩
   rw[show(au (nth (aq F c.f) i)).size-D.length=((au (nth (aq F c.f) i)).size-(j::D).length)+1 by simp;omega]
   exact .step (L':=L2) h1 h4' htj h2 h3 (by omega) h4 h7 (by rw[av0];exact hrf) hlk (h10.mono fun n l L hf=>ye (Nat.le_succ _) hf)
  simp only[go]at h
  split at h
  ·rename_i hall
   split at h<;>try (cases h;done)
   rename_i hstr
   obtain⟨la,ss,hp,hnew,hrun⟩:=Kl hT hE (c:={c with H:=H}) m D L h hlen hD hlowL hcl
   refine⟨la,ss,id,hstr,qM hp hnew (av0 _),hnew,rfl,?_⟩
   exact .done hall (ye (Nat.le_succ _) (hrun.fin hall hcl))
  ·rename_i hall
   split at h<;>try (cases h;done)
   rename_i j hb hj
   have hb:=aui hb
   obtain⟨g1,o',d,g2,gt,g3,g4,g5⟩:=Cl hj
   split at h<;>try (cases h;done)
   rename_i o ho
   rw[ho]at g2
   injection g2 with g2
   subst g2
   rcases mE h with⟨L1,k1,k2,k3⟩|⟨L1,k1,k2,k3⟩
   ·rw[dD (M:=L) fun t _=>k1 t]at k2
    split at k2
    ·rename_i q s b hbx
     split at k2<;>try (cases k2;done)
     rename_i L2 hp hrf
     exact next g1 ho g3 g4 g5 gt hb k1 (.inr ⟨q,b,rfl,Zx hE ho k3 hbx⟩) (v9 _ _ _) hrf hp k2
    ·obtain⟨s,q1,q2,_⟩:=Al hT hE ho k3 k2
     split at q1<;>try (cases q1;done)
     rename_i L2 hp hrf
     exact next (K:=id) g1 ho g3 g4 g5 gt hb k1 (.inl ⟨rfl,by rw[Dc rfl]at q2;exact q2⟩) rfl hrf hp q1
   ·split at k2<;>try (cases k2;done)
    rename_i L2 hp
    exact next (K:=id) g1 ho g3 g4 g5 gt hb k1 (.inl ⟨rfl,oZ ho k3⟩) rfl rfl hp k2
end
end
section
theorem CE{P:Program}{fn:Func}{R:Ending→World→Prop}{B:Code}{K:List KI}{i:Nat}{a:Act}{w:World}(S:World→Prop){id:Nat}(hm:P.follows .mixedOrders=true)(hc:nth B i=.region id (au (nth B i)) true)(h:AtG P fn R B K i S (au (nth B i)).size [] a w.drew):At P fn R B K i a w:=by
 unfold At;rw[hc]
 refine wp_region_any hm (Ef (S0:=S) _ _ _ _ ?_)
 simpa [AtG,mkL,au]using h
theorem sG{n s:Nat}:∀{D:List Nat},s∉D→s<n→(mkL n D).getD s true=false
 |[],_,h=>by simp[mkL,h]
 |j::D,hn,h=>by
  have h1:s≠j:=fun e=>hn (by simp[e])
  rw[mkL,avO true (avy h1)]
  exact sG (fun hm=>hn (by simp[hm])) h
theorem Ab{ops:Array Oper}:¬storeDone ops (mkL ops.size []):=by
 rintro ⟨s,os,h1,_,h3⟩
 have hlt:=(aun.1 h1).1
 simp[mkL,hlt]at h3
section
variable {Z:Nat→Prop} {w0:World} {F:FT} {P:Program} {T:TT} {E:Env} {N:NT} {Fin:Nat→Cfg→Option (List RV)} {Rt:Ending→World→Prop} {r:List RV}
set_option maxHeartbeats 2000000 in
theorem Ee(hT:em P T=true)(hE:jG P E)(hI:inv w0)(hF:∀f fn,fQ F f=some fn→P.funcs[f]?=some fn)(hm:P.follows .mixedOrders=true)
  (hRt:∀vs H G w ss tys,xz T H ss tys=some r→SR Z w0 H G w→co (Rel G (Av Z H G) w) ss vs→Rt (.returned (jO vs)) w)
  (hFin:∀i c G w a ats fn,Fin i c=some r→CR Z F w0 c G w a ats→fQ F c.f=some fn→InLoop P (nth (aq F c.f) (i+1)) (gE P fn (fj P F Rt c.fs ats) (aq F c.f) (gj P fn (fj P F Rt c.fs ats) (aq F c.f) c.K)) a w):
  ∀(m:Nat) (c:Cfg) (p:Pos),go P F T E N Fin m c p=some r→∀G w a ats fn,CR Z F w0 c G w a ats→fQ F c.f=some fn→ir P F Rt c fn G w a ats p:=by
 have headOk:∀i c,head N Fin i c=some r→∀G w a ats fn,CR Z F w0 c G w a ats→fQ F c.f=some fn→InLoop P (nth (aq F c.f) (i+1)) (gE P fn (fj P F Rt c.fs ats) (aq F c.f) (gj P fn (fj P F Rt c.fs ats) (aq F c.f) c.K)) a w:=by
  intro i c h G w a ats fn hc hfn
  unfold head at h
  split at h
  ·split at h<;>try (cases h;done)
   rename_i c' hn
   obtain⟨G',k1,k2,k3,k4⟩:=Yj hn hc
   have:=hFin i c' G' w a ats fn h k1 (by rw[k2];exact hfn)
   rw[k2,k3,k4]at this
   exact this
  ·exact hFin i c G w a ats fn h hc hfn
 intro m
 induction m using Nat.strongRecOn with
 |ind m0 ihs=>
 cases m0 with
 |zero=>intro c p h;simp[go]at h
 |succ m=>
  have ih:=ihs m (Nat.lt_succ_self m)
  intro c p h G w a ats fn hc hfn
  have h0:=h
  simp only[go]at h
  split at h
  ·-- nrm
   split at h
   ·rename_i hK
    have:=ih _ _ h G w a ats fn hc hfn
    simp only[ir]at this ⊢
    rw[hK]
    exact this
   ·rename_i j K hK
    have:=ih _ _ h G w a ats fn ⟨hc.sr,hc.fr,hc.fl,hc.frs⟩ hfn
    simp only[ir]at this ⊢
    rw[hK]
    exact this
   ·rename_i id K hK
    have:=ih _ _ h G w a ats fn ⟨hc.sr,hc.fr,hc.fl,hc.frs⟩ hfn
    simp only[ir]at this ⊢
    rw[hK]
    exact this
   ·rename_i i K hK
    have:=headOk i {c with K:=K} h G w a ats fn ⟨hc.sr,hc.fr,hc.fl,hc.frs⟩ hfn
    simp only[ir]
    rw[hK]
    exact this
  ·-- node
   rename_i i
   simp only[ir]
   split at h
   ·rename_i hn
    exact ZA hn (ih _ _ h G w a ats fn hc hfn)
   ·rename_i x y hn
    have:=ih _ _ h G w a ats fn ⟨hc.sr,hc.fr,hc.fl,hc.frs⟩ hfn
    exact uA (Zm hn) this
   ·rename_i id x hn
    have:=ih _ _ h G w a ats fn ⟨hc.sr,hc.fr,hc.fl,hc.frs⟩ hfn
    exact Tx (KK hn) this
   ·rename_i id hn
    split at h<;>try (cases h;done)
    rename_i K hK
    have:=ih _ _ h G w a ats fn ⟨hc.sr,hc.fr,hc.fl,hc.frs⟩ hfn
    exact YW hn (abl (tX hK) this)
   ·rename_i hn
    exact Gw hn (ih _ _ h G w a ats fn hc hfn)
   ·rename_i x p q hn
    split at h<;>try (cases h;done)
    rename_i b hb
    have hv:=mt (a8 hc.fr hb)
    unfold At
    rw[PL hn]
    split at h
    ·exact wp_cond_true hv (ih _ _ h G w a ats fn hc hfn)
    ·exact wp_cond_false hv (ih _ _ h G w a ats fn hc hfn)
   ·rename_i x hn
    unfold At
    rw[Wz hn]
    exact(headOk i c h G w a ats fn hc hfn).wp
   ·rename_i id ops hn
    have:=ih _ _ h G w a ats fn hc hfn
    exact kD (id:=id) (by rw[hn];rfl) this
   ·rename_i id ops hn
    split at h<;>try (cases h;done)
    rename_i hns
    have hops:au (nth (aq F c.f) i)=ops:=by rw[hn];rfl
    have hb:Below w.heap.size w w.drew:=(aw2 _ _).drew
    have hsg:=qQ hc.sr hb
    have hev:Ev Z c.fl c.H G w c.H G w.drew:=fun s v hs _=>dm hc.sr hsg hs
    have hcr:CR Z F w0 c G w.drew a ats:=⟨JL hc.sr hb,hc.fr.keep fun s v hs=>dm hc.sr hsg hs,hc.fl,hc.frs.ev hev (auj _)⟩
    split at h
    ·refine CE (fun _=>True) hm (id:=id) (by rw[hn];rfl) ?_
     split at h
     ·exact ih _ _ h G w.drew a ats fn hcr hfn rfl (by rw[hops];exact hns)
     ·exact ih _ _ h G w.drew a ats fn hcr hfn rfl (by rw[hops];exact hns)
    refine CE (Agr (!(ops.any fun o=>lQ o.op)) c.H G w.drew) hm (id:=id) (by rw[hn];rfl) ?_
    exact ih _ _ h G w.drew a ats fn hcr hfn c.H G w.drew (.inr ⟨Agr.refl,fun _ _ hx=>hx,fun _=>⟨rfl,rfl,rfl⟩,Ab⟩) pT (by rw[hops];exact hns) _ (by simp)
   ·cases h
  ·-- ops
   rename_i i k
   simp only[ir]
   split at h
   ·rename_i hk
    exact acm hk (ih _ _ h G w a ats fn hc hfn)
   ·rename_i o hk
    rcases eI hc.fr h with⟨L1,h1,hf1,hw⟩|⟨L1,h1,hf1,hw⟩
    ·refine aaV hk hw ?_
     split at h1
     ·split at h1<;>try (cases h1;done)
      rename_i hfz
      obtain⟨g1,g2,g3,g4,g5⟩:=ahK hc.sr hf1 hfz
      obtain⟨s,v,h2,h3,h4⟩:=kw hT g1 g2 h1
      split at h2<;>try (cases h2;done)
      rename_i L2 hp
      rw[h4 w (fun _=>Agr.refl)]
      exact ih _ _ h2 G w (a.put o.dst v) ats fn ⟨g1,g2.put hp h3,aur hc.fl (Nat.le_of_eq g5),hc.frs.evF g3 (auj _)⟩ hfn
     ·split at h1
      ·rename_i g ss hin
       obtain⟨f,args,tys,fg,caps,e1,e2,e3,e4,e5,e6,e7⟩:=Aj hf1 hin
       have hcl:dQ P g=true:=by unfold dQ;rw[hF g fg e2];simp only[e6,e7,aub]
       rw[iU hcl a.eval o f args tys caps e1 e3 w]
       obtain⟨B,hB⟩:=au2.1 e7
       have hbf:aq F g=B:=by simp[aq,e2,hB]
       have hcal:Calls P g (args.map a.eval++caps) w (fj P F Rt ({f:=c.f,K:=c.K,i:=i,k:=k,L:=xp N c.f i L1,fl:=c.fl}::c.fs) (a::ats)):=by
        have hto:args.map a.eval++caps=(args.map a.eval++caps).toList.toArray:=by simp
        rw[hto]
        refine enter (hF g fg e2) hB (auA (by rw[←ew e4];exact e5)) fun a2 hst=>?_
        have:=ih _ _ h1 G w a2 (a::ats) fg ⟨hc.sr,⟨hst.defers,by rw[hst.size];simp[ntm,e2],ki e4 hst.slot⟩,auj _,⟨⟨hf1.defers,hf1.size,fun t s hs=>hf1.slot t s (iC hs)⟩,fun t s hs=>by obtain⟨v,_,hv⟩:=hf1.slot t s (iC hs);exact iN hc.sr hv,⟨hc.fl,⟨fn,hfn⟩,fun D hD=>by cases hD⟩,hc.frs⟩⟩ e2
        simp only[ir,gj]at this
        rw[hbf]at this
        exact this
       refine Calls.mono hcal ?_
       rintro e w' ⟨v,rfl,fn',o',q1,q2,q3,_⟩
       have q3:=q3 rfl
       simp only at q1 q2 q3
       rw[hfn]at q1
       injection q1 with q1
       subst q1
       rw[hk]at q2
       injection q2 with q2
       subst q2
       exact q3
      ·refine rj hT hE hI hc.sr hf1 h1 fun s H' L2 G' w' v h2 h3 h4 h5 h6=>?_
       split at h2<;>try (cases h2;done)
       rename_i L3 hp
       exact ih _ _ h2 G' w' (a.put o.dst v) ats fn ⟨h3,h4.put hp h5,aur hc.fl h6.len,hc.frs.evF h6.pres (auj _)⟩ hfn
    ·refine ak4 hk hw ?_
     split at h1<;>try (cases h1;done)
     rename_i L2 hp
     exact ih _ _ h1 G w (a.put o.dst undef) ats fn ⟨hc.sr,hf1.put hp rfl,hc.fl,hc.frs⟩ hfn
  ·-- drw
   rename_i i rw eff D
   simp only[ir]
   intro Hs Gs ws hinv hclo hns m' hm'
   split at h
   ·exact ih _ _ h G w a ats fn hc hfn (Agr rw Hs Gs ws) (fun w w' hw ho=>⟨aur hw.1 ho.1,fun b hb hor=>(ho.2 b (au8 hb hw.1)).trans (hw.2 b hb hor)⟩) (hinv.elim (fun h=>.inl h.1) (fun h=>.inr h.1)) hclo hns m' hm'
   split at h
   ·rename_i hrd
    exact wg hrd (ih _ _ h G w a ats fn hc hfn) _
   ·rename_i rs hrd
    split at h<;>try (cases h;done)
    rename_i hlen
    have hlen:=aui hlen
    obtain⟨m'',rfl⟩:∃m'',m'=m''+1:=⟨m'-1,by omega⟩
    have hsst:Sst (au (nth (aq F c.f) i)) (Agr rw Hs Gs ws) (mkL (au (nth (aq F c.f) i)).size D) w:=hinv.elim (fun h=>.inl h.1) (fun h=>.inr h.1)
    split at h
    ·rename_i j hj
     obtain⟨j1,o,j2,j3,j4,j5,j6⟩:=CQ hj
     rw[j2]at h
     dsimp only at h
     have hns1:dA o.op=false:=by
      cases hop:o.op<;>first|rfl|(rw[hop]at j3;cases j3)
     have hclo':Clo (au (nth (aq F c.f) i)) (mkL (au (nth (aq F c.f) i)).size (j::D)):=hclo.set j1
     have hinv':(storeDone (au (nth (aq F c.f) i)) (mkL (au (nth (aq F c.f) i)).size (j::D))∧eff=true)∨(Agr rw Hs Gs ws w∧(∀b,b<ws.heap.size→gW c.H G b→gW Hs Gs b)∧(eff=false→c.H=Hs∧G=Gs∧w=ws)∧¬storeDone (au (nth (aq F c.f) i)) (mkL (au (nth (aq F c.f) i)).size (j::D))):=
      hinv.elim (fun h=>.inl ⟨h.1.set j,h.2⟩) fun h=>.inr ⟨h.1,h.2.1,h.2.2.1,fun h'=>h.2.2.2 (h'.unset j2 hns1)⟩
     have take:∀{v:Value},YieldsIf P (au (nth (aq F c.f) i)) (fun w'=>lD o.op=true→Agr rw Hs Gs ws w') o v a→AtG P fn (fj P F Rt c.fs ats) (aq F c.f) (gj P fn (fj P F Rt c.fs ats) (aq F c.f) c.K) i (Agr rw Hs Gs ws) m'' (j::D) (a.put o.dst v) w→AtG P fn (fj P F Rt c.fs ats) (aq F c.f) (gj P fn (fj P F Rt c.fs ats) (aq F c.f) c.K) i (Agr rw Hs Gs ws) (m''+1) D a w:=by
      intro v hy hk
      cases hl:lD o.op with
      |true=>
       obtain⟨he,haw⟩:=j4 hl
       obtain⟨hagr,_,_,hun⟩:=hinv.resolve_left (fun h=>by rw[he]at h;cases h.2)
       have hy':YieldsIf P (au (nth (aq F c.f) i)) (Agr rw Hs Gs ws) o v a:=hy.imp (fun h=>⟨h.1,fun w' hS=>h.2 w' fun _=>hS⟩) id
       exact LS j2 (awJ hns) (fun cc a w hq=>kV _ cc a _ _ w hq) hns1 haw m'' _ a w (avK j2 j6) hclo hun j1 hy' hagr hk
      |false=>
       have hy':YieldsIf P (au (nth (aq F c.f) i)) (fun _=>True) o v a:=hy.imp (fun h=>⟨h.1,fun w' _=>h.2 w' fun h'=>by rw[hl]at h';cases h'⟩) id
       exact DU j2 (awJ hns) (fun cc a w hq=>kV _ cc a _ _ w hq) hns1 m'' _ a w (avK j2 j6) j1 hy' hsst hk
     rcases eI hc.fr h with⟨L1,h1,hf1,hw⟩|⟨L1,h1,hf1,hw⟩
     ·obtain⟨s,v,h2,h3,h4⟩:=kw hT hc.sr hf1 h1
      split at h2<;>try (cases h2;done)
      rename_i L2 hp
      refine take (v:=v) (.inl ⟨hw,fun w' hS=>h4 w' fun hl=>?_⟩) ?_
      ·obtain⟨he,_⟩:=j4 hl
       obtain⟨_,_,heff,_⟩:=hinv.resolve_left (fun h=>by rw[he]at h;cases h.2)
       obtain⟨e1,e2,e3⟩:=heff he
       rw[e1,e2,e3]
       exact hS hl
      ·exact ih _ _ h2 G w (a.put o.dst v) ats fn ⟨hc.sr,hf1.put hp h3,hc.fl,hc.frs⟩ hfn Hs Gs ws hinv' hclo' hns m'' (by simp;omega)
     ·split at h1<;>try (cases h1;done)
      rename_i L2 hp
      refine take (v:=undef) (.inr ⟨hw,rfl⟩) ?_
      exact ih _ _ h1 G w (a.put o.dst undef) ats fn ⟨hc.sr,hf1.put hp rfl,hc.fl,hc.frs⟩ hfn Hs Gs ws hinv' hclo' hns m'' (by simp;omega)
    ·refine qC (rs:=Region.ready .any (au (nth (aq F c.f) i)) (mkL (au (nth (aq F c.f) i)).size D)) rfl (by assumption) fun k hk=>?_
     have h:=yM h k hk
     split at h<;>try (cases h;done)
     rename_i o j2
     have hclo':Clo (au (nth (aq F c.f) i)) (mkL (au (nth (aq F c.f) i)).size (k::D)):=hclo.set hk
     have hsst':Sst (au (nth (aq F c.f) i)) (Agr rw Hs Gs ws) (mkL (au (nth (aq F c.f) i)).size (k::D)) w:=hsst.set k
     have sdone:dA o.op=true→storeDone (au (nth (aq F c.f) i)) (mkL (au (nth (aq F c.f) i)).size (k::D)):=fun h=>⟨k,o,j2,h,gN _ _⟩
     have hinv':dA o.op=false→(storeDone (au (nth (aq F c.f) i)) (mkL (au (nth (aq F c.f) i)).size (k::D))∧eff=true)∨(Agr rw Hs Gs ws w∧(∀b,b<ws.heap.size→gW c.H G b→gW Hs Gs b)∧(eff=false→c.H=Hs∧G=Gs∧w=ws)∧¬storeDone (au (nth (aq F c.f) i)) (mkL (au (nth (aq F c.f) i)).size (k::D))):=
      fun hns1=>hinv.elim (fun h=>.inl ⟨h.1.set k,h.2⟩) fun h=>.inr ⟨h.1,h.2.1,h.2.2.1,fun h'=>h.2.2.2 (h'.unset j2 hns1)⟩
     unfold wpOp
     simp only[j2]
     rcases eI hc.fr h with⟨L1,h1,hf1,hw⟩|⟨L1,h1,hf1,hw⟩
     ·rw[auw hw]
      refine .inl ?_
      unfold Oper.wp
      split at h1
      ·rename_i hq
       have hns1:dA o.op=false:=by
        cases hop:o.op<;>first|rfl|(rw[hop]at hq;cases hq)
       obtain⟨s,v,h2,h3,h4⟩:=kw hT hc.sr hf1 h1
       split at h2<;>try (cases h2;done)
       rename_i L2 hp
       rw[h4 w (fun _=>Agr.refl)]
       exact⟨hsst',ih _ _ h2 G w (a.put o.dst v) ats fn ⟨hc.sr,hf1.put hp h3,hc.fl,hc.frs⟩ hfn Hs Gs ws (hinv' hns1) hclo' hns m'' (by simp;omega)⟩
      ·split at h1<;>try (cases h1;done)
       rename_i hcond
       simp only[awI]at hcond
       obtain⟨hst1,hst2⟩:=hcond
       simp only[Bool.and_eq_false_iff]at hst2
       refine rj hT hE hI hc.sr hf1 h1 fun s H' L2 G' w' v h2 h3 h4 h5 h6=>?_
       split at h2<;>try (cases h2;done)
       rename_i L3 hp
       have hcr:CR Z F w0 {c with L:=L3,H:=H'} G' w' (a.put o.dst v) ats:=⟨h3,h4.put hp h5,aur hc.fl h6.len,hc.frs.evF h6.pres (auj _)⟩
       cases hiss:dA o.op with
       |true=>exact⟨.inl (sdone hiss),ih _ _ h2 G' w' (a.put o.dst v) ats fn hcr hfn Hs Gs ws (.inl ⟨sdone hiss,rfl⟩) hclo' hns m'' (by simp;omega)⟩
       |false=>
        rcases hinv with hinv|⟨hagr,hrows,heff,hun⟩
        ·exact⟨.inl (hinv.1.set k),ih _ _ h2 G' w' (a.put o.dst v) ats fn hcr hfn Hs Gs ws (.inl ⟨hinv.1.set k,rfl⟩) hclo' hns m'' (by simp;omega)⟩
        ·have hag:=h6.agr.resolve_left (by rw[hiss,hst1];simp)
         have hagr':Agr rw Hs Gs ws w':=by
          refine⟨aur hagr.1 hag.1.1,fun b hb hor=>?_⟩
          rw[←hagr.2 b hb hor]
          refine hag.1.2 b (au8 hb hagr.1) ?_
          rcases hst2 with h7|h7
          ·left;rw[h7];rfl
          ·right
           rcases hor with hor|hor
           ·rw[h7]at hor;cases hor
           ·exact fun hx=>hor (hrows b hb hx)
         exact⟨.inr hagr',ih _ _ h2 G' w' (a.put o.dst v) ats fn hcr hfn Hs Gs ws (.inr ⟨hagr',fun b hb hx=>hrows b hb (hag.2 b (au8 hb hagr.1) hx),(fun e=>by cases e),fun h'=>hun (h'.unset j2 hiss)⟩) hclo' hns m'' (by simp;omega)⟩
     ·rw[aus (by rw[hw];simp)]
      split at h1<;>try (cases h1;done)
      rename_i L2 hp
      refine⟨hsst',ih _ _ h1 G w (a.put o.dst undef) ats fn ⟨hc.sr,hf1.put hp rfl,hc.fl,hc.frs⟩ hfn Hs Gs ws ?_ hclo' hns m'' (by simp;omega)⟩
      cases hiss:dA o.op with
      |true=>exact .inl ⟨sdone hiss,by simp⟩
      |false=>simpa using hinv' hiss
  ·-- tam
   rename_i i D
   clear h
   simp only[ir]
   intro hD0 hns
   subst hD0
   have hlow:∀t s,aX c.L t=some s→s.refsT c.H.length=true:=fun t s hs=>by
    obtain⟨v,_,hv⟩:=hc.fr.slot t s hs
    exact iN hc.sr hv
   obtain⟨la,ss,hp,hnew,hrun⟩:=Kl hT hE (c:=c) (m+1) [] c.L h0 (by rw[GP];rfl) (fun j hj=>by cases hj) hlow pT
   obtain⟨G1,g1,g2,g3⟩:=wJ (dn (mkL (au (nth (aq F c.f) i)).size [])) (la:=la) (fun x hx=>by
    obtain⟨⟨o,ho,_⟩,_⟩:=hp.la2 x hx
    exact ef (by simp) (aun.1 ho).1) hc.sr hc.fr
   have hst0:cC (dn (mkL (au (nth (aq F c.f) i)).size [])) ss (c.H++alX (dn (mkL (au (nth (aq F c.f) i)).size [])) la)=c.H++alX (dn (mkL (au (nth (aq F c.f) i)).size [])) la:=kC fun s hs=>by
    obtain⟨⟨o,ho,_⟩,_⟩:=hp.ss1 s hs
    exact ef (by simp) (aun.1 ho).1
   refine TRun.sound (T:=T) (S0:=fun _=>True) (fun _ _ h _=>h) (fun _ _=>trivial) (fl:=c.fl) (X:=fun H G w=>FrsOk Z F H G w c.fl c.fs ats) hT hE hI (awJ hns) (kV _) uP FS hp hnew (qh hc.sr) hc.fl (fun H G w H' G' w' hx hp=>hx.ev hp (auj _)) (fun n l L G w a hf ho hcl hsz hL k1 k2 k3=>?_) _ _ _ hrun pT (by rw[eJ]) (fun t s hs=>.inl (hlow t s hs)) G1 w a (by rw[hst0];exact g1) (by rw[hst0];exact g2) (by rw[hst0];exact hc.frs.ev (fun s v h _=>g3 s v h) (auj _)) trivial
   rcases hf.resolve_right (fun h=>h.1)with⟨D',q,_,e1,rfl,rfl,rfl,e2,e3,e4,e5⟩|⟨D',q,L0,ss',q1,q2,q3,qW,qS,eC,e2,e3,e4,e5,e6,e7,e8⟩|⟨D',q,j,o,_,_,rfl,rfl,rfl,e2,e2',hrd,ho1,e4,e5⟩
   ·rw[show cC (dn (mkL (au (nth (aq F c.f) i)).size D')) [] (c.H++alX (dn (mkL (au (nth (aq F c.f) i)).size D')) [])=c.H from auZ _]at k1 k2 k3
    refine l6 _ _ _ _ (ihs q (by omega) _ _ e5 G w a ats fn ⟨k1,k2,hc.fl,k3⟩ hfn c.H G w (.inr ⟨Agr.refl,fun _ _ hx=>hx,fun _=>⟨rfl,rfl,rfl⟩,?_⟩) hcl hns n e2)
    rintro ⟨s,os,h1,h2,h3⟩
    have hlt:=(aun.1 h1).1
    have:s∈D':=by
     apply aut
     intro hn
     rw[sG hn hlt]at h3
     cases h3
    have:=e3 s this os h1
    rw[h2]at this
    cases this
   ·have hst:cC (dn l) ss (c.H++alX (dn l) la)=cC (dn l) ss' (c.H++alX (dn l) la):=by
     rcases qS with⟨_,rfl,h⟩|⟨_,rfl,_⟩
     ·exact(kC (ss:=ss') h).symm
     ·rfl
    rw[hst]at k1 k2 k3
    refine Ie (fl:=c.fl) (X:=fun H G w=>FrsOk Z F H G w c.fl c.fs ats) hT hE hI q1 q2 q3 qW (qh hc.sr) e7 hc.fl (by rw[eJ]) (fun H G w H' G' w' hx hp=>hx.ev hp (auj _)) (fun n l G w a r1 r2 r3 r4 r5 r6 u1 u2 u3=>?_) n l e4 hsz e5 e6 hcl G w a k1 (k2.eqv e8) k3
    have hl:l=mkL (au (nth (aq F c.f) i)).size ((la.map (·.i)++ss'.map (·.i))++D'):=by
     refine Array.ext (by rw[r2,eJ]) fun k h1 h2=>?_
     rw[show l[k]=l.getD k true by simp[h1],show(mkL (au (nth (aq F c.f) i)).size ((la.map (·.i)++ss'.map (·.i))++D'))[k]=(mkL (au (nth (aq F c.f) i)).size ((la.map (·.i)++ss'.map (·.i))++D')).getD k true by rw[auT,av8 h2];rfl]
     by_cases hm:k∈(la.map (·.i)++ss'.map (·.i))++D'
     ·rw[xe hm]
      rcases auN.1 hm with hm|hm
      ·exact r4 k hm
      ·have:=r3 k (by rw[fH (by rw[eJ,←r2];exact h1)];exact xe hm)
       rw[fH h1]at this;exact this
     ·rw[ef hm (by rw[←r2];exact h1)]
      cases hq:l.getD k true with
      |false=>rfl
      |true=>
       exfalso
       rw[auN,not_or]at hm
       rcases r5 k hq with h|h
       ·rw[ef hm.2 (by rw[←r2];exact h1)]at h;cases h
       ·exact hm.1 h
    subst hl
    have hcu:=G9 (au (nth (aq F c.f) i)).size ((la.map (·.i)++ss'.map (·.i))++D')
    refine wX ((au (nth (aq F c.f) i)).size-((la.map (·.i)++ss'.map (·.i))++D').length) n _ _ _ (by omega) (l6 _ _ _ _ (ihs q (by omega) _ _ e3 G w a ats fn ⟨u1,u2,by rw[mW,avs];exact aur hc.fl (Nat.le_add_right _ _),u3⟩ hfn (cC (fun _=>true) ss' (c.H++alX (fun _=>true) la)) G w ?_ r6 hns ((au (nth (aq F c.f) i)).size-((la.map (·.i)++ss'.map (·.i))++D').length) (awr eC)))
    by_cases hsd:storeDone (au (nth (aq F c.f) i)) (mkL (au (nth (aq F c.f) i)).size ((la.map (·.i)++ss'.map (·.i))++D'))
    ·exact .inl ⟨hsd,rfl⟩
    ·exact .inr ⟨Agr.refl,fun _ _ hx=>hx,fun e=>(by cases e),hsd⟩
   ·rw[show cC (dn (mkL (au (nth (aq F c.f) i)).size D')) [] (c.H++alX (dn (mkL (au (nth (aq F c.f) i)).size D')) [])=c.H from auZ _]at k1 k2 k3
    have hjr:j∈Region.ready .any (au (nth (aq F c.f) i)) (mkL (au (nth (aq F c.f) i)).size D'):=by rw[hrd];simp
    obtain⟨n',rfl⟩:∃n',n=n'+1:=⟨n-1,by omega⟩
    have hn':n'=(au (nth (aq F c.f) i)).size-(j::D').length:=by simp;omega
    refine qC hrd (by simp) fun k hk=>?_
    have hk:k=j:=by simpa using hk
    subst hk
    unfold wpOp
    simp only[ho1]
    rcases eI k2 e5 with⟨L1,h1,hf1,hw⟩|⟨L1,h1,hf1,hw⟩
    ·rw[auw hw]
     refine .inl ?_
     unfold Oper.wp
     split at h1<;>try (cases h1;done)
     rename_i g ss hin
     obtain⟨f,args,tys,fg,caps,e1,e2,e3,e4,e5,e6,e7⟩:=Aj hf1 hin
     have hcl2:dQ P g=true:=by unfold dQ;rw[hF g fg e2];simp only[e6,e7,aub]
     rw[iU hcl2 a.eval o f args tys caps e1 e3 w]
     obtain⟨B,hB⟩:=au2.1 e7
     have hbf:aq F g=B:=by simp[aq,e2,hB]
     have hcal:Calls P g (args.map a.eval++caps) w (fj P F Rt ({f:=c.f,K:=c.K,i:=i,k:=k,L:=xp N c.f i L1,fl:=c.fl,d:=some (k::D')}::c.fs) (a::ats)):=by
      have hto:args.map a.eval++caps=(args.map a.eval++caps).toList.toArray:=by simp
      rw[hto]
      refine enter (hF g fg e2) hB (auA (by rw[←ew e4];exact e5)) fun a2 hst=>?_
      have:=ihs q (by omega) _ _ h1 G w a2 (a::ats) fg ⟨k1,⟨hst.defers,by rw[hst.size];simp[ntm,e2],ki e4 hst.slot⟩,auj _,⟨⟨hf1.defers,hf1.size,fun t s hs=>hf1.slot t s (iC hs)⟩,fun t s hs=>by obtain⟨v,_,hv⟩:=hf1.slot t s (iC hs);exact iN k1 hv,⟨hc.fl,⟨fn,hfn⟩,fun D hD=>by
       injection hD with hD
       subst hD
       exact⟨hcl.set hjr,hns,by simpa using e2'⟩⟩,k3⟩⟩ e2
      simp only[ir,gj]at this
      rw[hbf]at this
      exact this
     refine Calls.mono hcal ?_
     rintro e w' ⟨v,rfl,fn',o',q1,q2,_,q3⟩
     have q3:=q3 _ rfl
     simp only at q1 q2 q3
     rw[hfn]at q1
     injection q1 with q1
     subst q1
     rw[ho1]at q2
     injection q2 with q2
     subst q2
     refine⟨.inr trivial,?_⟩
     rw[hn']
     exact q3
    ·rw[aus (by rw[hw];simp)]
     split at h1<;>try (cases h1;done)
     rename_i L2 hp2
     refine⟨.inr trivial,?_⟩
     rw[hn']
     exact ihs q (by omega) _ _ h1 G w (a.put o.dst undef) ats fn ⟨k1,hf1.put hp2 rfl,hc.fl,k3⟩ hfn (fun _=>True) (fun _ _ _ _=>trivial) (.inr trivial) (hcl.set hjr) hns _ (awr (by simpa using e2'))
  ·-- tbx
   rename_i i D
   clear h
   simp only[ir]
   intro hD0 hns
   subst hD0
   have hlow:∀t s,aX c.L t=some s→s.refsT c.H.length=true:=fun t s hs=>by
    obtain⟨v,_,hv⟩:=hc.fr.slot t s hs
    exact iN hc.sr hv
   obtain⟨la,ss,Φ,hstr,hp,hnew,hdd,hrun⟩:=X6 hT hE (c:=c) (m+1) [] c.L c.H h0 (by rw[GP];rfl) (fun j hj=>by cases hj) hlow pT
   obtain⟨G1,g1,g2,g3⟩:=wJ (dn (mkL (au (nth (aq F c.f) i)).size [])) (la:=la) (fun x hx=>by
    obtain⟨⟨o,ho,_⟩,_⟩:=hp.la2 x hx
    exact ef (by simp) (aun.1 ho).1) hc.sr hc.fr
   have hst0:cC (dn (mkL (au (nth (aq F c.f) i)).size [])) ss (c.H++alX (dn (mkL (au (nth (aq F c.f) i)).size [])) la)=c.H++alX (dn (mkL (au (nth (aq F c.f) i)).size [])) la:=kC fun s hs=>by
    obtain⟨⟨o,ho,_⟩,_⟩:=hp.ss1 s hs
    exact ef (by simp) (aun.1 ho).1
   have hml:(c.H.map ddJ).length=c.H.length:=av0 _
   have hlen:(Φ c.H).length=c.H.length:=by rw[←av0 (f:=ddJ),hdd,hml]
   have hlowΦ:kQ (Φ c.H).length (Φ c.H):=by rw[hlen];exact Jv (by rw[hdd];exact ET (qh hc.sr))
   have hlate:∀(j:Nat) (oj:Oper),(au (nth (aq F c.f) i))[j]?=some oj→bI oj=true→d9 E (au (nth (aq F c.f) i)) j=false:=fun j oj hoj hal=>by
    unfold d9
    rw[hoj]
    dsimp only
    rw[hal]
    simp
   have hclΦ:c.fl≤(Φ c.H).length:=by rw[hlen];exact hc.fl
   refine TRunB.sound (T:=T) (Hf:=Φ c.H) (fl:=c.fl) (X:=fun H G w=>FrsOk Z F H G w c.fl c.fs ats) hT hE hI (fun n l L j oj hf hcl hj ho hoj hal=>?_) (fun hlo=>by rw[hstr]at hlo;cases hlo) hp (fun s hs=>by rw[hml];exact hnew s hs) (by rw[hml];exact ET (qh hc.sr)) (by rw[hml];exact hc.fl) (fun H G w H' G' w' hx hp=>hx.ev hp (auj _)) (fun n l L G w a ho hf hcl hsz hL k1 k2 k3=>?_) _ _ _ _ hrun c.H rfl rfl pT (by rw[eJ]) (fun t s hs=>.inl (by rw[hml];exact hlow t s hs)) G1 w a (by rw[hst0];exact g1) (by rw[hst0];exact g2) (by rw[hst0];exact hc.frs.ev (fun s v h _=>g3 s v h) (auj _))
   ·obtain⟨n',r',x,L',e1,e2,e3,e4,e5,e6,e7,e8⟩:=uP n l L j oj hf hj ho hoj hal
    have hon:=yi ho j (hlate j oj hoj hal)
    exact⟨n',r',x,L',e1,e2,e3,e4,e5,e6,(by rw[hml,←hlen];exact e7),hon,e8.fin hon (hcl.set hj)⟩
   have hnewΦ:∀s∈ss,(Φ c.H).length≤s.j:=fun s hs=>by rw[hlen];exact hnew s hs
   have hpΦ:PlanOk T (au (nth (aq F c.f) i)) (ntm F c.f) (Φ c.H) la ss:=qM hp (fun s hs=>by rw[hml];exact hnew s hs) (by rw[hml];exact hlen)
   rcases hf with⟨D',q,_,e1,rfl,rfl,rfl,e2,e3,e4,e5⟩|⟨D',q,L0,ss',q1,q2,q3,qW,qS,eC,e2,e3,e4,e5,e6,e7,e8⟩|⟨D',q,j,o,_,_,rfl,rfl,rfl,e2,e2',hrd,ho1,e4,e5⟩
   ·rw[show cC (dn (mkL (au (nth (aq F c.f) i)).size D')) [] ((Φ c.H)++alX (dn (mkL (au (nth (aq F c.f) i)).size D')) [])=(Φ c.H) from auZ _]at k1 k2 k3
    refine l6 _ _ _ _ (ihs q (by omega) _ _ e5 G w a ats fn ⟨k1,k2,hclΦ,k3⟩ hfn (Φ c.H) G w (.inr ⟨Agr.refl,fun _ _ hx=>hx,fun _=>⟨rfl,rfl,rfl⟩,?_⟩) hcl hns n e2)
    rintro ⟨s,os,h1,h2,h3⟩
    have hlt:=(aun.1 h1).1
    have:s∈D':=by
     apply aut
     intro hn
     rw[sG hn hlt]at h3
     cases h3
    have:=e3 s this os h1
    rw[h2]at this
    cases this
   ·have hst:cC (dn l) ss ((Φ c.H)++alX (dn l) la)=cC (dn l) ss' ((Φ c.H)++alX (dn l) la):=by
     rcases qS with⟨_,rfl,h⟩|⟨_,rfl,_⟩
     ·exact(kC (ss:=ss') h).symm
     ·rfl
    rw[hst]at k1 k2 k3
    refine Ie (fl:=c.fl) (X:=fun H G w=>FrsOk Z F H G w c.fl c.fs ats) hT hE hI q1 q2 q3 qW hlowΦ e7 hclΦ (by rw[eJ]) (fun H G w H' G' w' hx hp=>hx.ev hp (auj _)) (fun n l G w a r1 r2 r3 r4 r5 r6 u1 u2 u3=>?_) n l e4 hsz e5 e6 hcl G w a k1 (k2.eqv e8) k3
    have hl:l=mkL (au (nth (aq F c.f) i)).size ((la.map (·.i)++ss'.map (·.i))++D'):=by
     refine Array.ext (by rw[r2,eJ]) fun k h1 h2=>?_
     rw[show l[k]=l.getD k true by simp[h1],show(mkL (au (nth (aq F c.f) i)).size ((la.map (·.i)++ss'.map (·.i))++D'))[k]=(mkL (au (nth (aq F c.f) i)).size ((la.map (·.i)++ss'.map (·.i))++D')).getD k true by rw[auT,av8 h2];rfl]
     by_cases hm:k∈(la.map (·.i)++ss'.map (·.i))++D'
     ·rw[xe hm]
      rcases auN.1 hm with hm|hm
      ·exact r4 k hm
      ·have:=r3 k (by rw[fH (by rw[eJ,←r2];exact h1)];exact xe hm)
       rw[fH h1]at this;exact this
     ·rw[ef hm (by rw[←r2];exact h1)]
      cases hq:l.getD k true with
      |false=>rfl
      |true=>
       exfalso
       rw[auN,not_or]at hm
       rcases r5 k hq with h|h
       ·rw[ef hm.2 (by rw[←r2];exact h1)]at h;cases h
       ·exact hm.1 h
    subst hl
    have hcu:=G9 (au (nth (aq F c.f) i)).size ((la.map (·.i)++ss'.map (·.i))++D')
    refine wX ((au (nth (aq F c.f) i)).size-((la.map (·.i)++ss'.map (·.i))++D').length) n _ _ _ (by omega) (l6 _ _ _ _ (ihs q (by omega) _ _ e3 G w a ats fn ⟨u1,u2,by rw[mW,avs];exact aur hclΦ (Nat.le_add_right _ _),u3⟩ hfn (cC (fun _=>true) ss' ((Φ c.H)++alX (fun _=>true) la)) G w ?_ r6 hns ((au (nth (aq F c.f) i)).size-((la.map (·.i)++ss'.map (·.i))++D').length) (awr eC)))
    by_cases hsd:storeDone (au (nth (aq F c.f) i)) (mkL (au (nth (aq F c.f) i)).size ((la.map (·.i)++ss'.map (·.i))++D'))
    ·exact .inl ⟨hsd,rfl⟩
    ·exact .inr ⟨Agr.refl,fun _ _ hx=>hx,fun e=>(by cases e),hsd⟩
   ·rw[show cC (dn (mkL (au (nth (aq F c.f) i)).size D')) [] ((Φ c.H)++alX (dn (mkL (au (nth (aq F c.f) i)).size D')) [])=(Φ c.H) from auZ _]at k1 k2 k3
    have e2:n+D'.length=(au (nth (aq F c.f) i)).size:=e2
    have e2':D'.length+1≤(au (nth (aq F c.f) i)).size:=e2'
    have hjr:j∈Region.ready .any (au (nth (aq F c.f) i)) (mkL (au (nth (aq F c.f) i)).size D'):=by rw[hrd];simp
    obtain⟨n',rfl⟩:∃n',n=n'+1:=⟨n-1,by omega⟩
    have hn':n'=(au (nth (aq F c.f) i)).size-(j::D').length:=by simp;omega
    refine qC hrd (by simp) fun k hk=>?_
    have hk:k=j:=by simpa using hk
    subst hk
    unfold wpOp
    simp only[ho1]
    rcases eI k2 e5 with⟨L1,h1,hf1,hw⟩|⟨L1,h1,hf1,hw⟩
    ·rw[auw hw]
     refine .inl ?_
     unfold Oper.wp
     split at h1<;>try (cases h1;done)
     rename_i g ss hin
     obtain⟨f,args,tys,fg,caps,e1,e2,e3,e4,e5,e6,e7⟩:=Aj hf1 hin
     have hcl2:dQ P g=true:=by unfold dQ;rw[hF g fg e2];simp only[e6,e7,aub]
     rw[iU hcl2 a.eval o f args tys caps e1 e3 w]
     obtain⟨B,hB⟩:=au2.1 e7
     have hbf:aq F g=B:=by simp[aq,e2,hB]
     have hcal:Calls P g (args.map a.eval++caps) w (fj P F Rt ({f:=c.f,K:=c.K,i:=i,k:=k,L:=xp N c.f i L1,fl:=c.fl,d:=some (k::D')}::c.fs) (a::ats)):=by
      have hto:args.map a.eval++caps=(args.map a.eval++caps).toList.toArray:=by simp
      rw[hto]
      refine enter (hF g fg e2) hB (auA (by rw[←ew e4];exact e5)) fun a2 hst=>?_
      have:=ihs q (by omega) _ _ h1 G w a2 (a::ats) fg ⟨k1,⟨hst.defers,by rw[hst.size];simp[ntm,e2],ki e4 hst.slot⟩,auj _,⟨⟨hf1.defers,hf1.size,fun t s hs=>hf1.slot t s (iC hs)⟩,fun t s hs=>by obtain⟨v,_,hv⟩:=hf1.slot t s (iC hs);exact iN k1 hv,⟨hclΦ,⟨fn,hfn⟩,fun D hD=>by
       injection hD with hD
       subst hD
       exact⟨hcl.set hjr,hns,by simpa using e2'⟩⟩,k3⟩⟩ e2
      simp only[ir,gj]at this
      rw[hbf]at this
      exact this
     refine Calls.mono hcal ?_
     rintro e w' ⟨v,rfl,fn',o',q1,q2,_,q3⟩
     have q3:=q3 _ rfl
     simp only at q1 q2 q3
     rw[hfn]at q1
     injection q1 with q1
     subst q1
     rw[ho1]at q2
     injection q2 with q2
     subst q2
     refine⟨.inr trivial,?_⟩
     rw[hn']
     exact q3
    ·rw[aus (by rw[hw];simp)]
     split at h1<;>try (cases h1;done)
     rename_i L2 hp2
     refine⟨.inr trivial,?_⟩
     rw[hn']
     exact ihs q (by omega) _ _ h1 G w (a.put o.dst undef) ats fn ⟨k1,hf1.put hp2 rfl,hclΦ,k3⟩ hfn (fun _=>True) (fun _ _ _ _=>trivial) (.inr trivial) (hcl.set hjr) hns _ (awr (by simpa using e2'))
  ·-- tal
   rename_i i D
   clear h
   simp only[ir]
   intro S0 hS0 hSt hclo hns m' hm'
   have hlow:∀t s,aX c.L t=some s→s.refsT c.H.length=true:=fun t s hs=>by
    obtain⟨v,_,hv⟩:=hc.fr.slot t s hs
    exact iN hc.sr hv
   have hrun:=YI hT hE (c:=c) (m+1) D c.L h0 (by omega)
   have e:m'=(au (nth (aq F c.f) i)).size-D.length:=by omega
   subst e
   have key:∀S1:World→Prop,(∀w w',S1 w→Old w w'→S1 w')→S1 w→wpG P (au (nth (aq F c.f) i)) (gE P fn (fj P F Rt c.fs ats) (aq F c.f) (gj P fn (fj P F Rt c.fs ats) (aq F c.f) c.K)) S1 ((au (nth (aq F c.f) i)).size-D.length) (mkL (au (nth (aq F c.f) i)).size D) a w:=fun S1 hS1 hw1=>by
    refine TRun.sound (T:=T) (S0:=S1) (la:=[]) (ss:=[]) hS1 (fun h=>(h rfl).elim) (fl:=c.fl) (X:=fun H G w=>FrsOk Z F H G w c.fl c.fs ats) hT hE hI (awJ hns) (kV _) (fun _ _ _ _ _ h=>h.elim) (fun _ _ _ _ _ _ h=>h.elim) (N:=ntm F c.f) ⟨List.Pairwise.nil,fun a ha=>(by cases ha),fun s hs=>(by cases hs),List.Pairwise.nil⟩ (fun s hs=>by cases hs) (qh hc.sr) hc.fl (fun H G w H' G' w' hx hp=>hx.ev hp (auj _)) (fun n l L G w a hf ho hcl hsz hL k1 k2 k3=>?_) _ _ _ hrun hclo (by rw[eJ]) (fun t s hs=>.inl (hlow t s hs)) G w a (by rw[show cC (dn (mkL (au (nth (aq F c.f) i)).size D)) [] (c.H++alX (dn (mkL (au (nth (aq F c.f) i)).size D)) [])=c.H from auZ _];exact hc.sr) (by rw[show cC (dn (mkL (au (nth (aq F c.f) i)).size D)) [] (c.H++alX (dn (mkL (au (nth (aq F c.f) i)).size D)) [])=c.H from auZ _];exact hc.fr) (by rw[show cC (dn (mkL (au (nth (aq F c.f) i)).size D)) [] (c.H++alX (dn (mkL (au (nth (aq F c.f) i)).size D)) [])=c.H from auZ _];exact hc.frs) hw1
    rcases hf with h|⟨⟨q,hq,hgo⟩,hrd⟩
    ·exact h.elim
    ·rw[show cC (dn l) [] (c.H++alX (dn l) [])=c.H from auZ _]at k1 k2 k3
     exact wg hrd (ihs q (by omega) _ _ hgo G w a ats fn ⟨k1,k2,hc.fl,k3⟩ hfn) _
   rcases hSt with h|h
   ·exact NZ _ _ _ _ h (key (fun _=>True) (fun _ _ _ _=>trivial) trivial)
   ·exact key S0 hS0 h
  ·-- ret
   simp only[ir]
   rw[hfn]at h
   dsimp only at h
   split at h<;>try (cases h;done)
   rename_i ss hss
   split at h
   ·rename_i hfs
    rw[hfs]
    have hats:ats=[]:=by
     have:=hc.frs
     rw[hfs]at this
     cases ats with
     |nil=>rfl
     |cons=>exact this.elim
    subst hats
    exact VL hT hc.sr hc.fr hss fun vs hvs=>hRt vs _ _ _ _ _ h hc.sr hvs
   ·rename_i fm fs hfs
    split at h<;>try (cases h;done)
    rename_i o ho
    split at h<;>try (cases h;done)
    rename_i L2 hp hgood
    have hfrs:=hc.frs
    rw[hfs]at hfrs ⊢
    match ats,hfrs with
    |a0::ats,⟨k1,k2,k3,k4⟩=>
     obtain⟨k3,⟨fn',hfn'⟩,k5⟩:=k3
     refine VL hT hc.sr hc.fr hss fun vs hvs=>⟨_,rfl,fn',o,hfn',ho,?_⟩
     have hb:=P3 (fun s hs l e=>by subst e;have:=auu.1 hgood _ hs;simp[SV.good]at this) hvs
     split at h
     ·rename_i hd
      exact⟨fun _=>ih _ _ h G w (a0.put o.dst _) ats fn' ⟨hc.sr,k1.put hp hb,aur k3 hc.fl,k4⟩ hfn',fun D hD=>(by rw[hd]at hD;cases hD)⟩
     ·rename_i D hd
      refine⟨fun hD=>(by rw[hd]at hD;cases hD),fun D' hD=>?_⟩
      rw[hd]at hD
      injection hD with hD
      subst hD
      obtain⟨d1,d2,d3⟩:=k5 D hd
      exact ih _ _ h G w (a0.put o.dst _) ats fn' ⟨hc.sr,k1.put hp hb,aur k3 hc.fl,k4⟩ hfn' (fun _=>True) (fun _ _ _ _=>trivial) (.inr trivial) d1 d2 _ (awr d3)
end
end
structure Ctx where
 P:Program
 F:FT
 T:TT
 E:Env
 N:NT
structure Ctx.Ok (C:Ctx):Prop where
 T:em C.P C.T=true
 E:jG C.P C.E
 F:∀f fn,fQ C.F f=some fn→C.P.funcs[f]?=some fn
 m:C.P.follows .mixedOrders=true
def Ctx.k(C:Ctx)(n:Nat):Nat→Cfg→Option (List RV):=run C.P C.F C.T C.E C.N n
def Ctx.Runs(C:Ctx)(i:Nat)(c:Cfg)(r:List RV):Prop:=∃n,C.k n i c=some r
def Ctx.RunsE(C:Ctx)(i:Nat)(c:Cfg)(r:List RV):Prop:=∃n0,∀n,n0≤n→C.k n i c=some r
def Ctx.go(C:Ctx)(n:Nat)(c:Cfg)(p:Pos):Option (List RV):=Proofs.YtlahabkjhgkkjaaGreat.go C.P C.F C.T C.E C.N (C.k n) 4000 c p
def Ctx.Res(C:Ctx)(f:Nat)(args:List SV)(r:List RV):Prop:=∃n,C.go n (D0 f args) (.node 0)=some r
theorem Ctx.Runs.step{C:Ctx}{i:Nat}{c:Cfg}{r:List RV}(h:∃n,C.go n {c with K:=.lp i::c.K} (.node (i+1))=some r):C.Runs i c r:=by
 obtain⟨n,h⟩:=h
 exact⟨n+1,h⟩
def okF(fn:Func)(k:Nat):Bool:=fn.body.isSome&&Nat.ble k fn.ntmps
theorem LB{C:Ctx}(ok:C.Ok){Z:Nat→Prop}{w0:World}(hI:inv w0){Rt:Ending→World→Prop}{r:List RV}(hRt:∀vs H G w ss tys,xz C.T H ss tys=some r→SR Z w0 H G w→co (Rel G (Av Z H G) w) ss vs→Rt (.returned (jO vs)) w):
  ∀n i c G w a ats fn,run C.P C.F C.T C.E C.N n i c=some r→CR Z C.F w0 c G w a ats→fQ C.F c.f=some fn→InLoop C.P (nth (aq C.F c.f) (i+1)) (gE C.P fn (fj C.P C.F Rt c.fs ats) (aq C.F c.f) (gj C.P fn (fj C.P C.F Rt c.fs ats) (aq C.F c.f) c.K)) a w:=by
 intro n
 induction n with
 |zero=>intro i c G w a ats fn h;simp[run]at h
 |succ n ih=>
  intro i c G w a ats fn h hc hfn
  simp only[run]at h
  have:=Ee ok.T ok.E hI ok.F ok.m hRt (fun i c G w a ats fn h1 h2 h3=>ih i c G w a ats fn h1 h2 h3) 4000 _ _ h G w a ats fn ⟨hc.sr,hc.fr,hc.fl,hc.frs⟩ hfn
  exact InLoop.step this
theorem Ctx.Res.con{C:Ctx}(ok:C.Ok){f:Nat}{fn:Func}{args:List SV}{r:List RV}(h:C.Res f args r)(hfn:fQ C.F f=some fn)(hk:okF fn args.length=true):Con C.P f args r:=by
 intro A w vs hI ha
 obtain⟨n,h⟩:=h
 simp only[okF,aug]at hk
 obtain⟨B,hB⟩:=au2.1 hk.1
 have hbf:aq C.F f=B:=by simp[aq,hfn,hB]
 let Z:Nat→Prop:=fun b=>A b∨w.heap.size≤b
 have hkp:Keeps A (Av Z [] []) w w:=⟨auj _,fun b _ hA=>⟨.inl hA,fun j it g h=>by simp at h⟩,fun _ _ _=>rfl⟩
 have ha2:co (Rel [] (Av Z [] []) w) args vs:=bW (fun s v h=>dS (h.keep hkp fun j g _ h=>h)) ha
 refine enter (ok.F f fn hfn) hB (auA (by rw[←ew ha];exact aui hk.2)) fun a hst=>?_
 have hsr:SR Z w [] [] w:=⟨rfl,aw2 _ _,fun j it g h=>by simp at h,fun i j it jt g h b _ h1=>by simp at h1,fun b hb=>.inr hb⟩
 let Rt:Ending→World→Prop:=fun e w'=>∃v,e=.returned v∧Below w.heap.size w w'∧uY Z w.heap.size w' r v
 have hRt:∀vs H G w' ss tys,xz C.T H ss tys=some r→SR Z w H G w'→co (Rel G (Av Z H G) w') ss vs→Rt (.returned (jO vs)) w':=fun vs H G w' ss tys h1 h2 h3=>⟨_,rfl,h2.below,ai7 ok.T h2 h1 h3⟩
 have:=Ee ok.T ok.E hI ok.F ok.m hRt (fun i c G w a ats fn h1 h2 h3=>LB ok hI hRt n i c G w a ats fn h1 h2 h3) 4000 _ _ h [] w a [] fn ⟨hsr,⟨hst.defers,by rw[hst.size];simp[ntm,D0,hfn],ki ha2 hst.slot⟩,auj _,trivial⟩ hfn
 simp only[ir,gj,D0]at this
 rw[hbf]at this
 exact this
def FtAll(P:Program):FT→Prop
 |[]=>True
 |p::l=>P.funcs[p.1]?=some p.2∧FtAll P l
theorem FtAll.look{P:Program}:∀{l:FT},FtAll P l→∀f fn,fQ l f=some fn→P.funcs[f]?=some fn
 |[],_,f,fn,h=>by simp[fQ]at h
 |(k,x)::l,⟨h1,h2⟩,f,fn,h=>by
  simp only[fQ]at h
  split at h
  ·rename_i hb
   have:=auh hb
   subst this
   injection h with h
   subst h
   exact h1
  ·exact FtAll.look h2 f fn h
abbrev KT:=Nat→Cfg→Option (List RV)
theorem asB{C:Ctx}{f:Nat}{args:List SV}{t:KT→Option (List RV)}{r:List RV}(e:∀k,go2 C.P C.F C.T C.E C.N k 4000 (D0 f args) (.node 0)=t k)(h:∃n,t (C.k n)=some r):C.Res f args r:=by
 obtain⟨n,h⟩:=h
 exact⟨n,(zU _ _ _ _ _ _ _ _ _).symm.trans ((e _).trans h)⟩
theorem asH{C:Ctx}{i:Nat}{c:Cfg}{t:KT→Option (List RV)}{r:List RV}(e:∀k,go2 C.P C.F C.T C.E C.N k 4000 {c with K:=.lp i::c.K} (.node (i+1))=t k)(h:∃n,t (C.k n)=some r):C.Runs i c r:=by
 obtain⟨n,h⟩:=h
 exact⟨n+1,(zU _ _ _ _ _ _ _ _ _).symm.trans ((e _).trans h)⟩
theorem apc{C:Ctx}{i:Nat}{c:Cfg}{t:KT→Option (List RV)}{r:List RV}(e:∀k,go2 C.P C.F C.T C.E C.N k 4000 {c with K:=.lp i::c.K} (.node (i+1))=t k)(h:∃n0,∀n,n0≤n→t (C.k n)=some r):C.RunsE i c r:=by
 obtain⟨n0,h⟩:=h
 refine⟨n0+1,fun n hn=>?_⟩
 obtain⟨q,rfl⟩:∃q,n=q+1:=⟨n-1,by omega⟩
 exact(zU _ _ _ _ _ _ _ _ _).symm.trans ((e _).trans (h q (by omega)))
@[reducible] def DT:List Ty→Type
 |[]=>Unit
 |t::r=>t.D×DT r
def Jx:(ts:List Ty)→List SV→Option (DT ts)
 |[],l=>match l with
  |[]=>some ()
  |_::_=>none
 |t::r,l=>match l with
  |.d u x::m=>match fv u t x with
   |some y=>match Jx r m with
    |some z=>some (y,z)
    |none=>none
   |none=>none
  |_=>none
def svs:(ts:List Ty)→DT ts→List SV
 |[],_=>[]
 |t::r,x=>.d t x.1::svs r x.2
theorem ww:∀{ts:List Ty} {l:List SV} {x:DT ts},Jx ts l=some x→l=svs ts x
 |[],l,x,h=>by
  cases l with
  |nil=>rfl
  |cons a b=>cases h
 |t::r,l,x,h=>by
  unfold Jx at h
  split at h
  ·split at h
   ·rename_i e1
    split at h
    ·rename_i e2
     injection h with h
     subst h
     obtain⟨rfl,rfl⟩:=dO e1
     rw[ww e2]
     rfl
    ·cases h
   ·cases h
  ·cases h
def spN(keep tame:Bool)(ts:List Ty)(pre:DT ts→Bool)(res:DT ts→List RV):aN:={keep:=keep,tame:=tame,run:=fun _ args k=>match Jx ts args with
 |some x=>match pre x with
  |true=>k (res x)
  |false=>none
 |none=>none}
theorem alm{P:Program}{f:Nat}{keep tame:Bool}{ts:List Ty}{pre:DT ts→Bool}{res:DT ts→List RV}(hc:dQ P f=true)(h:∀x,pre x=true→Con P f (svs ts x) (res x)):dQ P f=true∧zT P f (spN keep tame ts pre res)∧∀g,(spN keep tame ts pre res).mut_=some g→Mj P f g:=by
 refine⟨hc,fun R args k r e=>?_,fun g e=>by cases e⟩
 unfold spN at e
 dsimp only at e
 split at e
 ·rename_i x e1
  split at e
  ·rename_i e2
   rw[ww e1]
   exact⟨_,e,h x e2⟩
  ·cases e
 ·cases e
section
open Go.ChangeShapes Go.WideShapes Go.ChangeAt Go.WideMaps Go.WideElems Go.RowKit
theorem DA:ownKnob Tryz.prog.godebug=none:=by kernel_rfl
def Ty.ok:(t:Ty)→t.D→Prop
 |.int k,x=>(Lit.int k x).wf=true
 |.bool,_=>True
 |.str,_=>True
 |.sl e,xs=>xs.length≤9223372036854775807∧∀x∈xs,e.ok x
 |.pair a b,x=>a.ok x.1∧b.ok x.2
 |.st a,x=>a.ok x
def ta(rp:TypeId→Ty→Bool)(cells:TypeId→Nat):List Field→Ty→Nat→Bool
 |[],_,_=>false
 |[f],a,off=>rp f.type a&&Nat.beq f.offset off&&Nat.beq (cells f.type) a.n
 |f::g::fs,.pair a b,off=>rp f.type a&&Nat.beq f.offset off&&Nat.beq (cells f.type) a.n&&ta rp cells (g::fs) b (off+a.n)
 |_,_,_=>false
def CZ(rp:Ty→Bool)(n:Nat):Nat→Ty→Bool
 |0,_=>false
 |1,a=>rp a&&Nat.beq a.n n
 |k+2,.pair a b=>rp a&&Nat.beq a.n n&&CZ rp n (k+1) b
 |_,_=>false
def rep(P:Program):Nat→TypeId→Ty→Bool
 |0,_,_=>false
 |n+1,t,ty=>match P.underlying t,ty with
  |some (.int k),.int k'=>decide (k=k')
  |some .bool,.bool=>true
  |some .string,.str=>true
  |some (.slice e),.sl ety=>rep P n e ety&&Nat.beq (P.cellsOf e) ety.n&&Nat.ble 1 ety.n
  |some (.struct fs),.st a=>ta (rep P n) P.cellsOf fs.toList a 0&&Nat.beq (P.cellsOf t) a.n
  |some (.array k e),.st a=>CZ (rep P n e) (P.cellsOf e) k a&&Nat.beq (P.cellsOf t) a.n
  |_,_=>false
theorem Z7{w:World}{a:Addr}{v:Value}(h:w.cell? a=some v):a.block<w.heap.size∧a.spot=none:=by
 unfold World.cell? at h
 split at h
 ·rename_i hb
  refine⟨(aun.1 hb).1,?_⟩
  split at h
  ·cases h
  ·rename_i hn;simpa using hn
 ·cases h
theorem DV{α β:Type}{f:α→Option β}:∀{l:List α} {r:List β},l.mapM f=some r→r.length=l.length∧∀(j:Nat) (y:β),r[j]?=some y→∃x,l[j]?=some x∧f x=some y
 |[],r,h=>by simp at h;subst h;simp
 |x::l,r,h=>by
  rw[List.mapM_cons]at h
  cases hx:f x with
  |none=>rw[hx]at h;simp at h
  |some y=>
   rw[hx]at h
   cases hl:l.mapM f with
   |none=>rw[hl]at h;simp at h
   |some r'=>
    rw[hl]at h
    obtain rfl:y::r'=r:=by simpa using h
    obtain⟨h1,h2⟩:=DV hl
    refine⟨by simp[h1],fun j z hz=>?_⟩
    cases j with
    |zero=>exact⟨x,rfl,by simpa [hx]using hz⟩
    |succ j=>obtain⟨u,h3,h4⟩:=h2 j z (by simpa using hz);exact⟨u,by simpa using h3,h4⟩
theorem KN{w:World}{base n:Nat}{a:Addr}{l:List Value}(h:w.cells? base a n=some l):l.length=n∧∀(j:Nat) (v:Value),l[j]?=some v→w.cell? (a.add j)=some v:=by
 unfold World.cells? at h
 split at h
 ·obtain⟨h1,h2⟩:=DV h
  refine⟨by simpa using h1,fun j v hv=>?_⟩
  obtain⟨x,h3,h4⟩:=h2 j v hv
  obtain⟨h5,h6⟩:=aul.1 h3
  rw[List.getElem_range]at h6
  rw[h6];exact h4
 ·cases h
theorem ST{α β:Type}{n:Nat}{p:Nat→α→β→Prop}(h:∀i,i<n→∃s t,p i s t):∃(l:List α) (m:List β),l.length=n∧m.length=n∧∀i s t,l[i]?=some s→m[i]?=some t→p i s t:=by
 induction n with
 |zero=>exact⟨[],[],rfl,rfl,fun i s t h=>by simp at h⟩
 |succ n ih=>
  obtain⟨l,m,h1,h2,h3⟩:=ih fun i hi=>h i (by omega)
  obtain⟨s,t,hst⟩:=h n (by omega)
  refine⟨l++[s],m++[t],by simp[h1],by simp[h2],fun i s' t' hs ht=>?_⟩
  rcases auz i n with hi|hi
  ·rw[auo (by omega)]at hs ht
   exact h3 i s' t' hs ht
  ·rw[aup (by omega)]at hs ht
   have e:i=n:=by
    have:=(aul.1 hs).1
    simp at this
    omega
   subst e
   rw[h1,avE]at hs
   rw[h2,avE]at ht
   simp at hs ht
   subst hs ht
   exact hst
section
variable {H:Type} {enc:TypeId×Value→H} {P:Program} {w:World} {base:Nat} {spare:Nat→Bool} {held:Bool}
def R1(enc:TypeId×Value→H)(P:Program)(w:World)(base:Nat)(spare:Nat→Bool)(held:Bool)(ty:Ty):Prop:=∀(n:Nat) (t:TypeId),rep P n t ty=true→∀(fuel:Nat) (cs:List Value) (x:DataW H×List MemPlace),cs.length=ty.n→DataW.trod enc P w base spare held fuel t cs=some x→∃y:ty.D,ty.rd (fun _=>True) w cs y∧ty.ok y
def R2(enc:TypeId×Value→H)(P:Program)(w:World)(base:Nat)(spare:Nat→Bool)(held:Bool)(ty:Ty):Prop:=∀(n:Nat) (fs:List Field) (off:Nat) (cs:List Value),ta (rep P n) P.cellsOf fs ty off=true→cs.length=ty.n→(∀f∈fs,off≤f.offset→∃fuel x,DataW.trod enc P w base spare held fuel f.type ((cs.drop (f.offset-off)).take (P.cellsOf f.type))=some x)→∃y:ty.D,ty.rd (fun _=>True) w cs y∧ty.ok y
def R3(enc:TypeId×Value→H)(P:Program)(w:World)(base:Nat)(spare:Nat→Bool)(held:Bool)(ty:Ty):Prop:=∀(n k:Nat) (e:TypeId) (cs:List Value),CZ (rep P n e) (P.cellsOf e) k ty=true→cs.length=ty.n→(∀i,i<k→∃fuel x,DataW.trod enc P w base spare held fuel e ((cs.drop (i*P.cellsOf e)).take (P.cellsOf e))=some x)→∃y:ty.D,ty.rd (fun _=>True) w cs y∧ty.ok y
theorem amU{ty:Ty}(h1:R1 enc P w base spare held ty)(hp:∀(n:Nat) (f g:Field) (fs:List Field) (off:Nat) (cs:List Value),ta (rep P n) P.cellsOf (f::g::fs) ty off=true→cs.length=ty.n→(∀q∈f::g::fs,off≤q.offset→∃fuel x,DataW.trod enc P w base spare held fuel q.type ((cs.drop (q.offset-off)).take (P.cellsOf q.type))=some x)→∃y:ty.D,ty.rd (fun _=>True) w cs y∧ty.ok y):R2 enc P w base spare held ty:=by
 intro n fs off cs hr hl hf
 match fs,hr,hf with
 |[],hr,_=>simp[ta]at hr
 |[f],hr,hf=>
  simp only[ta,aug]at hr
  have ho:=auh hr.1.2
  have hc:=auh hr.2
  obtain⟨fuel,x,hx⟩:=hf f (by simp) (by omega)
  rw[ho,avE,hc,sC _ _ hl]at hx
  exact h1 n f.type hr.1.1 fuel cs x hl hx
 |f::g::fs,hr,hf=>exact hp n f g fs off cs hr hl hf
theorem apV{ty:Ty}(h1:R1 enc P w base spare held ty)(hp:∀(n k:Nat) (e:TypeId) (cs:List Value),CZ (rep P n e) (P.cellsOf e) (k+2) ty=true→cs.length=ty.n→(∀i,i<k+2→∃fuel x,DataW.trod enc P w base spare held fuel e ((cs.drop (i*P.cellsOf e)).take (P.cellsOf e))=some x)→∃y:ty.D,ty.rd (fun _=>True) w cs y∧ty.ok y):R3 enc P w base spare held ty:=by
 intro n k e cs hr hl hf
 match k,hr,hf with
 |0,hr,_=>simp[CZ]at hr
 |1,hr,hf=>
  simp only[CZ,aug]at hr
  have hc:=auh hr.2
  obtain⟨fuel,x,hx⟩:=hf 0 (by omega)
  rw[Nat.zero_mul,←hc,sC _ _ hl]at hx
  exact h1 n e hr.1 fuel cs x hl hx
 |k+2,hr,hf=>exact hp n k e cs hr hl hf
theorem act:∀(ty:Ty),R1 enc P w base spare held ty∧R2 enc P w base spare held ty∧R3 enc P w base spare held ty:=by
 intro ty
 have mJ:∀{ty:Ty},(∀a b,ty≠.pair a b)→R1 enc P w base spare held ty→R1 enc P w base spare held ty∧R2 enc P w base spare held ty∧R3 enc P w base spare held ty:=by
  intro ty hne h1
  refine⟨h1,amU h1 fun n f g fs off cs hr=>?_,apV h1 fun n k e cs hr=>?_⟩
  ·cases ty<;>first|exact absurd rfl (hne _ _)|simp[ta]at hr
  ·cases ty<;>first|exact absurd rfl (hne _ _)|simp[CZ]at hr
 induction ty with
 |int k=>
  refine mJ (fun a b e=>by cases e) fun n t hr fuel cs x hl hx=>?_
  cases n with
  |zero=>simp[rep]at hr
  |succ n=>
   unfold rep at hr
   split at hr<;>try (cases hr;done)
   all_goals rename_i hu he<;>cases he
   have:=at6 hr
   subst this
   obtain⟨m,rfl,_,hw⟩:=DataW.trod_int hu hx
   exact⟨m,rfl,hw⟩
 |bool=>
  refine mJ (fun a b e=>by cases e) fun n t hr fuel cs x hl hx=>?_
  cases n with
  |zero=>simp[rep]at hr
  |succ n=>
   unfold rep at hr
   split at hr<;>try (cases hr;done)
   all_goals rename_i hu he<;>cases he
   obtain⟨m,rfl,_⟩:=DataW.trod_bool hu hx
   exact⟨m,rfl,trivial⟩
 |str=>
  refine mJ (fun a b e=>by cases e) fun n t hr fuel cs x hl hx=>?_
  cases n with
  |zero=>simp[rep]at hr
  |succ n=>
   unfold rep at hr
   split at hr<;>try (cases hr;done)
   all_goals rename_i hu he<;>cases he
   cases fuel with
   |zero=>simp[DataW.trod]at hx
   |succ fuel=>
    unfold DataW.trod at hx
    rw[hu]at hx
    split at hx<;>simp_all
    exact⟨_,rfl,trivial⟩
 |sl e ih=>
  refine mJ (fun a b e=>by cases e) fun n t hr fuel cs x hl hx=>?_
  cases n with
  |zero=>simp[rep]at hr
  |succ n=>
   unfold rep at hr
   split at hr<;>try (cases hr;done)
   all_goals rename_i hu he<;>cases he
   simp only[aug]at hr
   obtain⟨⟨r1,r2⟩,r3⟩:=hr
   have hc:=auh r2
   have hn0:=aui r3
   rcases Deep.open_slice hu hx with⟨rfl,_⟩|⟨a,len,cap,m,nn,D,Pl,rfl,hb,hle,hcap,hm,_,hel⟩
   ·exact⟨[],wc,by simp,fun x hx=>by simp at hx⟩
   ·have hlm:len≤m:=by rw[hm];split<;>omega
    have key:∀i,i<len→∃(l:List Value) (y:e.D),(e.rd (fun _=>True) w l y∧e.ok y)∧∀j v,l[j]?=some v→w.cell? ((a.add (i*e.n)).add j)=some v:=by
     intro i hi
     obtain⟨cs',h1,h2⟩:=hel i (by omega)
     rw[hc]at h1
     obtain⟨h3,h4⟩:=KN h1
     obtain⟨y,h5⟩:=ih.1 n _ r1 nn cs' _ h3 h2
     exact⟨cs',y,h5,h4⟩
    obtain⟨css,ys,l1,l2,hk⟩:=ST key
    have hall:co (fun l y=>e.rd (fun _=>True) w l y) css ys:=I0 (by omega) fun i l y h1 h2=>(hk i l y h1 h2).1.1
    refine⟨ys,⟨some a,len,cap,css,rfl,l2,hle,hcap,hall,fun h0=>?_⟩,by unfold maxLen at hcap;omega,fun y hy=>?_⟩
    ·obtain⟨l0,hl0⟩:∃l,css[0]?=some l:=⟨_,at8 (by omega)⟩
     obtain⟨y0,hy0,hrd0⟩:=gv hall 0 l0 hl0
     have hlen0:=Ty.rd_len hrd0
     obtain⟨v0,hv0⟩:∃v,l0[0]?=some v:=⟨_,at8 (by omega)⟩
     have hc0:=(hk 0 l0 y0 hl0 hy0).2 0 v0 hv0
     have e0:(a.add (0*e.n)).add 0=a:=by simp[Addr.add]
     rw[e0]at hc0
     obtain⟨h1,h2⟩:=Z7 hc0
     obtain⟨b,off,sp⟩:=a
     dsimp only at h1 h2
     subst h2
     refine⟨b,off,rfl,trivial,h1,fun i v hv=>?_⟩
     have hls:=fI hall
     have hi:i<css.flatten.length:=(aul.1 hv).1
     rw[hJ hls,l1]at hi
     have hq:i/e.n<len:=Nat.div_lt_of_lt_mul (by rw[Nat.mul_comm];exact hi)
     obtain⟨l,hl⟩:∃l,css[i/e.n]?=some l:=⟨_,at8 (by omega)⟩
     obtain⟨y,hy,hrd⟩:=gv hall _ l hl
     have hmod:i%e.n<e.n:=awP _ hn0
     obtain⟨u,hu'⟩:∃u,l[i%e.n]?=some u:=⟨_,at8 (by rw[Ty.rd_len hrd];exact hmod)⟩
     have hfl:=jK hls hl hu'
     have hdm:i/e.n*e.n+i%e.n=i:=by rw[Nat.mul_comm];exact Nat.div_add_mod i e.n
     rw[hdm,hv]at hfl
     injection hfl with hfl
     subst hfl
     have:=(hk _ l y hl hy).2 _ _ hu'
     rw[dv,dv]at this
     rwa [avQ,hdm]at this
    ·obtain⟨i,hi,rfl⟩:=awi hy
     obtain⟨l,hl,_⟩:=l8 hall i _ (at8 hi)
     exact(hk i l _ hl (at8 hi)).1.2
 |st a ih=>
  refine mJ (fun a b e=>by cases e) fun n t hr fuel cs x hl hx=>?_
  cases n with
  |zero=>simp[rep]at hr
  |succ n=>
   unfold rep at hr
   split at hr<;>try (cases hr;done)
   all_goals rename_i hu he<;>cases he
   ·simp only[aug]at hr
    obtain⟨xs,k,rfl,_,_,hlen,hg⟩:=DataW.trod_struct hu hx
    refine ih.2.1 n _ 0 cs hr.1 hl fun f hf _=>?_
    obtain⟨i,hi,rfl⟩:=awi hf
    rename_i fs
    have h1:=hg i _ (by rw[←au9];exact at8 hi)
    obtain⟨y,hy⟩:∃y,xs[i]?=some y:=⟨_,at8 (by rw[hlen];simpa using hi)⟩
    rw[hy]at h1
    exact⟨k,y,by rw[awQ];exact h1⟩
   ·simp only[aug]at hr
    obtain⟨xs,k,rfl,_,_,hlen,hg⟩:=DataW.trod_array hu hx
    refine ih.2.2 n _ _ cs hr.1 hl fun i hi=>?_
    have h1:=hg i hi
    obtain⟨y,hy⟩:∃y,xs[i]?=some y:=⟨_,at8 (by rw[hlen];exact hi)⟩
    rw[hy]at h1
    exact⟨k,y,h1⟩
 |pair a b iha ihb=>
  have h1:R1 enc P w base spare held (.pair a b):=by
   intro n t hr
   cases n with
   |zero=>simp[rep]at hr
   |succ n=>
    unfold rep at hr
    split at hr<;>first|(cases hr;done)|(rename_i he;cases he)
  have cut:∀{cs:List Value} {k m:Nat},cs.length=a.n+b.n→((cs.drop a.n).drop k).take m=(cs.drop (a.n+k)).take m:=fun _=>by rw[aw4]
  refine⟨h1,amU h1 fun n f g fs off cs hr hl hf=>?_,apV h1 fun n k e cs hr hl hf=>?_⟩
  ·simp only[ta,aug]at hr
   obtain⟨⟨⟨r1,r2⟩,r3⟩,r4⟩:=hr
   have ho:=auh r2
   have hc:=auh r3
   simp only[Ty.n]at hl
   obtain⟨fuel,x,hx⟩:=hf f (by simp) (by omega)
   rw[ho,avE,hc,avX]at hx
   obtain⟨y1,k1,k2⟩:=iha.1 n f.type r1 fuel (cs.take a.n) x (by simp;omega) hx
   obtain⟨y2,k3,k4⟩:=ihb.2.1 n (g::fs) (off+a.n) (cs.drop a.n) r4 (by simp;omega) fun q hq hle=>by
    obtain⟨fuel,x,hx⟩:=hf q (by simp only[auK]at hq ⊢;exact .inr hq) (by omega)
    refine⟨fuel,x,?_⟩
    rw[aw4,show a.n+(q.offset-(off+a.n))=q.offset-off by omega]
    exact hx
   exact⟨(y1,y2),⟨_,_,(avu a.n cs).symm,k1,k3⟩,k2,k4⟩
  ·simp only[CZ,aug]at hr
   obtain⟨⟨r1,r2⟩,r3⟩:=hr
   have hc:=auh r2
   simp only[Ty.n]at hl
   obtain⟨fuel,x,hx⟩:=hf 0 (by omega)
   rw[Nat.zero_mul,avX,←hc]at hx
   obtain⟨y1,k1,k2⟩:=iha.1 n e r1 fuel (cs.take a.n) x (by simp;omega) hx
   obtain⟨y2,k3,k4⟩:=ihb.2.2 n (k+1) e (cs.drop a.n) r3 (by simp;omega) fun i hi=>by
    obtain⟨fuel,x,hx⟩:=hf (i+1) (by omega)
    refine⟨fuel,x,?_⟩
    rw[aw4,hc,show P.cellsOf e+i*P.cellsOf e=(i+1)*P.cellsOf e by rw[avD];omega]
    exact hx
   exact⟨(y1,y2),⟨_,_,(avu a.n cs).symm,k1,k3⟩,k2,k4⟩
end
end
theorem bj{x:Int}(h1: -9223372036854775808≤x)(h2:x≤9223372036854775807):i64.wrap x=x:=IntWalk.i64_in x ⟨h1,h2⟩
theorem cO{k:Nat}(h:k+1≤9223372036854775807):i64.wrap ((k:Int)+1)=((k+1:Nat):Int):=by rw[bj (by omega) (by omega)];simp
theorem aM{α:Type}(xs:List α)(k:Nat):bH xs (k:Int)=xs[k]?:=by unfold bH;rw[at7 (by omega)];rfl
theorem yL{α:Type}(xs:List α):bH xs 0=xs[0]?:=aM xs 0
theorem cg{k n:Nat}(h:k<n):decide ((k:Int)<(n:Int))=true:=at7 (by omega)
theorem cN{k n:Nat}(h:n≤k):decide ((k:Int)<(n:Int))=false:=at9 (by omega)
theorem kn{α:Type}{xs:List α}{k:Nat}(h:k<xs.length):xs.drop k=xs[k]::xs.drop (k+1):=auv h
theorem V6{α:Type}{xs:List α}{k:Nat}(h:xs.length≤k):xs.drop k=[]:=au1 h
theorem aR(k:Nat):((k:Int)).toNat=k:=avP k
theorem ald{m b:Nat}(hb:b≤1000)(h:m≤1000000):decide ((m+1)*b≤140737488355328∧m+1≤140737488355328)=true:=by
 have:(m+1)*b≤1000001*1000:=awn (by omega) hb
 exact at7 ⟨by omega,by omega⟩
end Go.Proofs.YtlahabkjhgkkjaaGreat
end
