/- Regions in which calls join a Bool to a variable: what is tame comes in any order. -/
import Derived.Test.YtlahabkjhgkkjaaGreatW5
import Derived.ProofKit
import Derived.OpenShut
import Derived.ChangeSame
import Derived.Deep.Slices
noncomputable section
namespace Go.Proofs.YtlahabkjhgkkjaaGreat
open Go.RowKit Go.IntKind
theorem aqs:type_of% @decide_eq_true:=@decide_eq_true
theorem aqu:type_of% @decide_eq_false:=@decide_eq_false
theorem aqw:type_of% @Bool.and_self:=@Bool.and_self
theorem ar8:type_of% @Int.toNat_natCast:=@Int.toNat_natCast
theorem asH:type_of% @Nat.mul_le_mul:=@Nat.mul_le_mul
theorem asL:type_of% @Nat.sub_add_cancel:=@Nat.sub_add_cancel
theorem as3:type_of% @Region.noSelect_spec:=@Region.noSelect_spec
section
theorem Y6(it:Item):ddI (ddJ it)=ddI it:=by
 unfold ddJ
 split
 ·rfl
 ·rfl
theorem Bh(it:Item):(ddI it).live=it.live:=by
 unfold ddI
 split<;>rfl
theorem CQ{A B:List Item}(h:A.map ddJ=B):A.map ddI=B.map ddI:=by
 rw[←h,List.map_map]
 exact List.map_congr_left fun it _=>(Y6 it).symm
theorem uf(q:Nat)(b:Bool)(H:List Item):(iT q b H).length=H.length:=by
 unfold iT
 split
 ·simp
 ·rfl
theorem oo{q:Nat}{b:Bool}{H:List Item}{k:Nat}:(iT q b H)[k]?=if k=q then(match H[k]? with
  |some (.box t [.d .bool c])=>some (.box t [.d .bool (c&&b)])
  |x=>x)else H[k]?:=by
 unfold iT
 split
 ·rename_i t c hq
  rw[aqS]
  by_cases e:k=q
  ·subst e
   rw[aqW rfl,aqW rfl,aqW (aqG.1 hq).1,hq]
  ·rw[aqQ (arU e),aqQ e]
 ·rename_i hq
  split
  ·rename_i e
   subst e
   split
   ·rename_i t c hk
    exact absurd hk (hq t c)
   ·rfl
  ·rfl
theorem PK(q q':Nat)(b b':Bool)(H:List Item):iT q b (iT q' b' H)=iT q' b' (iT q b H):=by
 refine ar6 fun k=>?_
 rw[oo,oo,oo,oo]
 by_cases e:k=q<;>by_cases e':k=q'
 ·subst e
  subst e'
  simp only[aqW]
  cases hk:H[k]? with
  |none=>rfl
  |some it=>
   cases it with
   |box t cs=>
    match cs with
    |[.d .bool c]=>show some (Item.box t [.d .bool (c&&b'&&b)])=some (.box t [.d .bool (c&&b&&b')]);rw[Bool.and_assoc,Bool.and_comm b' b,←Bool.and_assoc]
    |[]=>rfl
    |[.d (.int _) _]=>rfl
    |[.d .str _]=>rfl
    |[.d (.pair _ _) _]=>rfl
    |[.d (.st _) _]=>rfl
    |[.d (.sl _) _]=>rfl
    |[.nil]=>rfl
    |[.box _ _]=>rfl
    |[.elt _ _ _]=>rfl
    |[.own _]=>rfl
    |[.oelt _ _ _ _]=>rfl
    |[.clo _ _]=>rfl
    |[.tup _]=>rfl
    |[.undef]=>rfl
    |[.dead]=>rfl
    |[.cut _ _]=>rfl
    |[.osl _ _ _ _]=>rfl
    |.d .bool _::_::_=>rfl
    |.d (.int _) _::_::_=>rfl
    |.d .str _::_::_=>rfl
    |.d (.pair _ _) _::_::_=>rfl
    |.d (.st _) _::_::_=>rfl
    |.d (.sl _) _::_::_=>rfl
    |.nil::_::_=>rfl
    |.box _ _::_::_=>rfl
    |.elt _ _ _::_::_=>rfl
    |.own _::_::_=>rfl
    |.oelt _ _ _ _::_::_=>rfl
    |.clo _ _::_::_=>rfl
    |.tup _::_::_=>rfl
    |.undef::_::_=>rfl
    |.dead::_::_=>rfl
    |.cut _ _::_::_=>rfl
    |.osl _ _ _ _::_::_=>rfl
   |row et e xs=>rfl
   |gone=>rfl
 ·subst e
  simp only[aqW,aqQ e']
 ·subst e'
  simp only[aqW,aqQ e]
 ·simp only[aqQ e,aqQ e']
theorem Dl(q:Nat)(b:Bool)(H:List Item):(iT q b H).map ddJ=H.map ddJ:=by
 unfold iT
 split
 ·rename_i t c hq
  refine ar6 fun k=>?_
  rw[arr,arr,aqS]
  by_cases e:q=k
  ·subst e
   rw[aqW rfl,aqW (aqG.1 hq).1,hq]
   rfl
  ·rw[aqQ e]
 ·rfl
def Dd(H1 H2:List Item):Prop:=H1.length=H2.length∧∀(j:Nat) it1 it2,H1[j]?=some it1→H2[j]?=some it2→it1=it2∨it1=ddI it2
theorem agF(Hb X:List Item):Dd (Hb.map ddI++X) (Hb++X):=by
 refine⟨by simp,fun j it1 it2 h1 h2=>?_⟩
 rcases aqT j Hb.length with hlt|hge
 ·rw[aqJ (by simpa using hlt),arr]at h1
  rw[aqJ hlt]at h2
  rw[h2]at h1
  injection h1 with h1
  exact .inr h1.symm
 ·rw[aqK (by simpa using hge),ask]at h1
  rw[aqK hge]at h2
  rw[h1]at h2
  injection h2 with h2
  exact .inl h2
section
variable {Z:Nat→Prop} {w0:World} {H1 H2:List Item} {G G':List Value} {w w':World}
theorem Dd.at2(h:Dd H1 H2){j:Nat}{it1:Item}(h1:H1[j]?=some it1):∃it2,H2[j]?=some it2∧(it1=it2∨it1=ddI it2)∧it2.live=it1.live:=by
 have hlt:j<H2.length:=by rw[←h.1];exact(aqG.1 h1).1
 refine⟨H2[j],aqt hlt,h.2 j _ _ h1 (aqt hlt),?_⟩
 rcases h.2 j _ _ h1 (aqt hlt)with e|e
 ·rw[e]
 ·rw[e,Bh]
theorem Dd.at1(h:Dd H1 H2){j:Nat}{it2:Item}(h2:H2[j]?=some it2):∃it1,H1[j]?=some it1∧(it1=it2∨it1=ddI it2)∧it1.live=it2.live:=by
 have hlt:j<H1.length:=by rw[h.1];exact(aqG.1 h2).1
 refine⟨H1[j],aqt hlt,h.2 j _ _ (aqt hlt) h2,?_⟩
 rcases h.2 j _ _ (aqt hlt) h2 with e|e
 ·rw[e]
 ·rw[e,Bh]
theorem xc(h:Dd H1 H2):Av Z H1 G=Av Z H2 G:=by
 funext b
 refine propext ⟨fun⟨h1,h2⟩=>⟨h1,fun j it g q1 q2 q3=>?_⟩,fun⟨h1,h2⟩=>⟨h1,fun j it g q1 q2 q3=>?_⟩⟩
 ·obtain⟨it1,e1,_,e3⟩:=h.at1 q1
  exact h2 j it1 g e1 (e3.trans q2) q3
 ·obtain⟨it2,e1,_,e3⟩:=h.at2 q1
  exact h2 j it2 g e1 (e3.trans q2) q3
theorem ww(it:Item):ddI it=it∨∃t b,it=.box t [.d .bool b]∧ddI it=.box t [.dead]:=by
 unfold ddI
 split
 ·exact .inr ⟨_,_,rfl,rfl⟩
 ·exact .inl rfl
theorem aoF(h:Dd H1 H2)(hr:SR Z w0 H2 G w):SR Z w0 H1 G w:=by
 refine⟨hr.len.trans h.1.symm,hr.below,fun j it g h1 hg=>?_,fun i j it jt g k b hij h1 h2 l1 l2=>?_,hr.zf⟩
 ·obtain⟨it2,e1,e2,_⟩:=h.at2 h1
  rw[xc h]
  have:=hr.items j it2 g e1 hg
  rcases e2 with e2|e2
  ·rw[e2];exact this
  ·rcases ww it2 with e3|⟨t,b,e3,e4⟩
   ·rw[e2,e3];exact this
   ·rw[e2,e4]
    rw[e3]at this
    obtain⟨b',vs,k1,k2,k3,k4⟩:=this
    refine⟨b',vs,k1,k2,k3,?_⟩
    match vs,k4 with
    |[v],⟨_,q⟩=>exact⟨trivial,q⟩
 ·obtain⟨i2,e1,_,e3⟩:=h.at2 h1
  obtain⟨j2,f1,_,f3⟩:=h.at2 h2
  exact hr.disj i j i2 j2 g k b hij e1 f1 (e3.trans l1) (f3.trans l2)
theorem ajU(h:Dd H1 H2)(hr:SR Z w0 H2 G w)(hold:Old w w')(hr':SR Z w0 H1 G' w')(htr:∀s v,Rel1 G (Av Z H2 G) w s v→Rel1 G' (Av Z H1 G') w' s v):SR Z w0 H2 G' w':=by
 refine⟨hr'.len.trans h.1,hr'.below,fun j it g h2 hg=>?_,fun i j it jt g k b hij h1 h2 l1 l2=>?_,hr'.zf⟩
 ·obtain⟨it1,e1,e2,_⟩:=h.at1 h2
  rw[←xc h]
  have:=hr'.items j it1 g e1 hg
  rcases e2 with e2|e2
  ·rw[←e2];exact this
  ·rcases ww it with e3|⟨t,b,e3,e4⟩
   ·rw[e2,e3]at this;exact this
   ·subst e3
    have hlt:j<G.length:=by rw[hr.len];exact(aqG.1 h2).1
    obtain⟨b',vs,k1,k2,k3,k4⟩:=hr.items j _ _ h2 (aqt hlt)
    obtain⟨b2,q1,q2⟩:=htr (.box j 0) G[j] ⟨b',by rw[aqt hlt,k1],k1⟩
    rw[hg]at q1
    injection q1 with q1
    rw[k1]at q2
    injection q2 with q2
    injection q2 with q2
    injection q2 with q2
    subst q2
    refine⟨b',vs,q1,k2,?_,?_⟩
    ·show w'.heap[b']?=_
     rw[hold.2 b' k3.lt]
     exact k3
    ·match vs,k4 with
     |[v],⟨q,q'⟩=>exact⟨q,q'⟩
 ·obtain⟨i2,e1,_,e3⟩:=h.at1 h1
  obtain⟨j2,f1,_,f3⟩:=h.at1 h2
  exact hr'.disj i j i2 j2 g k b hij e1 f1 (e3.trans l1) (f3.trans l2)
theorem amb{n:Nat}{L:SL}{a:Act}(h:Dd H1 H2)(hf:FR Z n L H2 G w a):FR Z n L H1 G w a:=⟨hf.defers,hf.size,fun t s hs=>by rw[xc h];exact hf.slot t s hs⟩
end
section
variable {P:Program} {T:TT} {E:Env} {ops:Array Oper}
theorem StepF.up{Hb:List Item}{Lr:SL}{o:Oper}{j:Nat}{s:SV}(h:StepF P (Hb.map ddI) ops Lr o j s):StepF P Hb ops Lr o j s:=by
 intro X Z w0 n G w a Q K hI hr hf hK
 have hD:=agF Hb X
 refine h X Z w0 n G w a Q K hI (aoF hD hr) (amb hD hf) fun v G' w' ho hr' htr hrel=>?_
 have htr':∀s v,Rel1 G (Av Z (Hb++X) G) w s v→Rel1 G' (Av Z (Hb.map ddI++X) G') w' s v:=fun s v hs=>htr s v (by rw[xc hD];exact hs)
 refine hK v G' w' ho (ajU hD hr ho hr' htr') (fun s' v' hs=>?_) ?_
 ·rw[←xc hD];exact htr' s' v' hs
 ·rw[←xc hD];exact hrel
def acB(P:Program)(H:List Item)(ops:Array Oper)(Lr:SL)(o:Oper)(j q:Nat)(c:Bool)(s:SV):Prop:=
 ∀(Hb X:List Item) (Z:Nat→Prop) (w0:World) (n:Nat) (G:List Value) (w:World) (a:Act) (Q:Exit→Act→World→Prop) (K:Act→World→Prop),Hb.map ddJ=H→inv w0→SR Z w0 (Hb++X) G w→FR Z n Lr (Hb++X) G w a→
  (∀v w',SR Z w0 (iT q c Hb++X) G w'→(∀s' v',Rel1 G (Av Z (Hb++X) G) w s' v'→Rel1 G (Av Z (iT q c Hb++X) G) w' s' v')→Rel G (Av Z (iT q c Hb++X) G) w' s v→K (a.put o.dst v) w')→wpOp P ops Q j K a w
theorem Ts{it:Item}{t:Nat}(h:ddJ it=.box t [.d .bool false]):∃b,it=.box t [.d .bool b]:=by
 unfold ddJ at h
 split at h
 ·rename_i t' b
  injection h with h1 h2
  subst h1
  exact⟨b,rfl⟩
 ·exact⟨false,h⟩
theorem Rr{q:Nat}{c:Bool}{Hb X:List Item}{t:Nat}{b:Bool}(h:Hb[q]?=some (.box t [.d .bool b])):iT q c Hb++X=(Hb++X).set q (.box t [.d .bool (b&&c)]):=by
 unfold iT
 rw[h]
 dsimp only
 rw[atg,aqW (aqG.1 h).1]
theorem ZM{Lr:SL}{Hc:List Item}{o:Oper}{j q:Nat}{c:Bool}{s:SV}(hE:i9 P E)(hops:ops[j]?=some o)(hg:ck ops Lr o (fun _=>some true) (fun _=>some false)=some true)(h:bxC E Lr Hc o=some (q,s,c)):acB P (Hc.map ddJ) ops Lr o j q c s:=by
 intro Hb X Z w0 n G w a Q K hHb hI hr hf hK
 have want:Region.wanted o (yielded ops a.tmps)=true:=by
  rcases d8 hf hg with⟨_,_,_,h3⟩|⟨_,h1,_,_⟩
  ·exact h3
  ·cases h1
 unfold bxC at h
 split at h<;>try (cases h;done)
 rename_i f x y z tys ho
 split at h<;>try (cases h;done)
 rename_i t ht
 split at h<;>try (cases h;done)
 rename_i q' i c' hx hy hz
 split at h<;>try (cases h;done)
 rename_i t' b0 hq
 split at h<;>try (cases h;done)
 rename_i hbeq
 have ett:=aqA hbeq
 subst ett
 simp only[aqF,aqV]at h
 obtain⟨rfl,rfl,rfl⟩:=h
 obtain⟨b,hb⟩:∃b,Hb[q']?=some (.box t [.d .bool b]):=by
  have e1:(Hb.map ddJ)[q']?=some (.box t [.d .bool false]):=by
   rw[hHb,arr,hq]
   rfl
  rw[arr]at e1
  cases hk:Hb[q']? with
  |none=>rw[hk]at e1;cases e1
  |some it=>
   rw[hk]at e1
   injection e1 with e1
   obtain⟨b,e2⟩:=Ts e1
   exact⟨b,by rw[e2]⟩
 have hlt:=(aqG.1 hb).1
 have hbX:(Hb++X)[q']?=some (.box t [.d .bool b]):=by rw[aqJ hlt];exact hb
 obtain⟨sp,m,hsp,hm,hbx⟩:∃sp m,kY E f=some sp∧sp.mut_=some m∧m.bx=some t:=by
  unfold ahb at ht
  split at ht<;>try (cases ht;done)
  rename_i sp hsp
  split at ht<;>try (cases ht;done)
  rename_i m hm
  exact⟨sp,m,hsp,hm,ht⟩
 obtain⟨hcl,_,hmc⟩:=hE f sp hsp
 have hmc:=hmc m hm
 unfold Ky at hmc
 rw[hbx]at hmc
 dsimp only at hmc
 obtain⟨blk,g1,g2⟩:=aW hf hx
 obtain⟨cs,g3,g4⟩:=aW hf hy
 obtain⟨cs',g5,g6⟩:=aW hf hz
 obtain⟨l1,l2,e0,e1,e2⟩:=g3
 have e1:l1=[Value.int .i64 i.1]:=e1
 have e2:l2=[Value.int .i64 i.2]:=e2
 have e5:cs'=[Value.bool c']:=g5
 subst e1 e2 e5
 subst e0
 have g4:a.eval y=.agg #[.int .i64 i.1,.int .i64 i.2]:=g4
 have g6:a.eval z=.bool c':=g6
 obtain⟨b',vs,k1,k2,k3,k4⟩:=hr.items q' _ _ hbX g1
 injection k1 with k1
 injection k1 with k1
 injection k1 with k1
 subst k1
 have evs:vs=[Value.bool b]:=by
  match vs,k4 with
  |[v],⟨⟨cs,q1,q2⟩,_⟩=>
   have q1:cs=[Value.bool b]:=q1
   subst q1
   rw[q2]
   rfl
 subst evs
 unfold wpOp
 simp only[hops]
 rw[aqW want]
 refine .inl ?_
 unfold Oper.wp
 rw[iv hcl a.eval o (.func f) ⟨[x,y,z]⟩ tys #[] ho rfl w]
 have ea:Array.map a.eval ⟨[x,y,z]⟩++ #[]= #[.pointer (some ⟨blk,0,none⟩),.agg #[.int .i64 i.1,.int .i64 i.2],.bool c']:=by
  simp[g2,g4,g6]
 rw[ea]
 refine(hmc w blk b c' i.1 i.2 (mr hI hr.below) k3).mono ?_
 rintro e w' ⟨rfl,r1,r2⟩
 have hblk:∀b',b'<w.heap.size→(∀g',G[q']?=some g'→bR g'≠some b')→w'.heap[b']?=w.heap[b']?:=fun b' hb' hn=>r2.block b' hb' fun e2=>hn _ g1 e2.symm
 have hB:Below w0.heap.size w0 w':=hr.below.grown r2 hr.below.size fun p hp=>by injection hp with hp;subst hp;exact k2
 have hst:=lO (it':=.box t [.d .bool (b&&c')]) hr hbX rfl hB r2.size hblk
 rw[Rr hb]at hK
 refine hK _ w' (z6 hr hbX rfl hB r2.size hblk fun g' hg'=>?_) (fun s' v' hs=>cZ hr hst hs) ?_
 ·rw[g1]at hg'
  injection hg' with hg'
  subst hg'
  exact⟨blk,[.bool (b&&c')],rfl,k2,r1,⟨⟨[Value.bool (b&&c')],rfl,rfl⟩,trivial⟩⟩
 ·exact⟨[.int .i64 i.1,.int .i64 i.2],⟨[.int .i64 i.1],[.int .i64 i.2],rfl,rfl,rfl⟩,rfl⟩
end
end
section
section
variable {P:Program} {T:TT} {E:Env} {ops:Array Oper} {R:Type}
def StepK(P:Program)(H:List Item)(K:List Item→List Item)(ops:Array Oper)(Lr:SL)(o:Oper)(j:Nat)(s:SV):Prop:=
 (K=id∧StepF P (H.map ddI) ops Lr o j s)∨∃q c,K=iT q c∧acB P H ops Lr o j q c s
inductive TRunB (P:Program) (E:Env) (ops:Array Oper) (N:Nat) (H:List Item) (lo:Bool) (Fin:Nat→Array Bool→SL→Prop):Nat→Array Bool→SL→(List Item→List Item)→Prop
 |done {n:Nat} {l:Array Bool} {L:SL}:ed E ops l=true→Fin n l L→TRunB P E ops N H lo Fin n l L id
 |step {n:Nat} {l:Array Bool} {L L':SL} {j:Nat} {o:Oper} {d:Nat} {s:SV} {K F:List Item→List Item}:j∈Region.ready .any ops l→(gz E ops j=true∨lo=true)→dA E ops j=true→ops[j]?=some o→o.dst=some d→d<N→Region.free .any ops l j=true→StepK P H K ops (eM L (o.looksAt ops)) o j s→
   s.refsT H.length=true→(∀t,aV L' t=if t=d then some s else aV L t)→TRunB P E ops N H lo Fin n (l.setIfInBounds j true) L' F→TRunB P E ops N H lo Fin (n+1) l L (fun x=>F (K x))
variable {N:Nat} {H:List Item} {lo:Bool} {Fin:Nat→Array Bool→SL→Prop}
theorem StepK.com{K K':List Item→List Item}{Lr Lr':SL}{o o':Oper}{j j':Nat}{s s':SV}(h:StepK P H K ops Lr o j s)(h':StepK P H K' ops Lr' o' j' s')(x:List Item):K (K' x)=K' (K x):=by
 rcases h with⟨rfl,_⟩|⟨q,c,rfl,_⟩
 ·rfl
 ·rcases h' with⟨rfl,_⟩|⟨q',c',rfl,_⟩
  ·rfl
  ·exact PK _ _ _ _ _
theorem StepK.ddJ{K:List Item→List Item}{Lr:SL}{o:Oper}{j:Nat}{s:SV}(h:StepK P H K ops Lr o j s)(x:List Item):(K x).map ddJ=x.map ddJ:=by
 rcases h with⟨rfl,_⟩|⟨q,c,rfl,_⟩
 ·rfl
 ·exact Dl _ _ _
theorem TRunB.any{n:Nat}{l:Array Bool}{L:SL}{F:List Item→List Item}(h:TRunB P E ops N H lo Fin n l L F):Clo ops l→∀{j:Nat},j∈Region.ready .any ops l→dA E ops j=true→
  ∃(n':Nat) (o:Oper) (d:Nat) (s:SV) (L':SL) (K F':List Item→List Item),n=n'+1∧ops[j]?=some o∧o.dst=some d∧d<N∧StepK P H K ops (eM L (o.looksAt ops)) o j s∧s.refsT H.length=true∧(∀t,aV L' t=if t=d then some s else aV L t)∧TRunB P E ops N H lo Fin n' (l.setIfInBounds j true) L' F'∧F=fun x=>F' (K x):=by
 induction h with
 |done h1 h2=>intro hcl j hj hs;rw[mg hcl h1 hj]at hs;cases hs
 | @step n l L L1 i oi di si Ki Fi h1 h0 h0' h2 h3 h4 h5 h6 hrf h7 h8 ih=>
  intro hcl j hj hst
  by_cases hji:j=i
  ·subst hji
   exact⟨n,oi,di,si,L1,Ki,Fi,rfl,h2,h3,h4,h6,hrf,h7,h8,rfl⟩
  ·obtain⟨n',oj,dj,sj,L2,Kj,F2,e1,g2,g3,g4,g6,grf,g7,g8,g9⟩:=ih (hcl.set h1) (arZ hj hji) hst
   have hjun:=(arE.1 hj).1
   have hap:=ar3 h2 h5 j oj g2 hji hjun (dH h1 hj g2)
   obtain⟨a1,a2,a3⟩:=asS hap
   have b1:=a1 di h3
   have b2:dj≠di:=fun e=>a2 di h3 (by rw[g3,e])
   have b3:=a3 dj g3
   have c1:StepK P H Kj ops (eM L (oj.looksAt ops)) oj j sj:=by
    rw[←dk (L:=L1) (M:=L) fun t ht=>by rw[h7 t,aqQ (fun e=>b1 (by rw[←e];exact ht))]]
    exact g6
   have c2:StepK P H Ki ops (eM ((dj,sj)::kN L dj) (oi.looksAt ops)) oi i si:=by
    rw[dk (M:=L) fun t ht=>by rw[cj,aqQ (fun e=>b3 (by rw[←e];exact ht))]]
    exact h6
   refine⟨n,oj,dj,sj,(dj,sj)::kN L dj,Kj,fun x=>F2 (Ki x),rfl,g2,g3,g4,c1,grf,fun t=>cj,?_,?_⟩
   ·rw[e1]
    refine .step (j:=i) (L':=L2) (arZ h1 (arU hji)) h0 h0' h2 h3 h4 (jZ h2 hjun h5) c2 hrf (fun t=>?_) ?_ (s:=si)
    ·rw[g7 t,h7 t,cj]
     by_cases e1:t=dj
     ·subst e1;rw[aqW rfl,aqQ b2];rw[aqW rfl]
     ·rw[aqQ e1,aqQ e1]
    ·rw[aro _ _ hji]
     exact g8
   ·rw[g9]
    funext x
    show F2 (Kj (Ki x))=F2 (Ki (Kj x))
    rw[g6.com h6]
theorem TRunB.alloc{la:List AlA}(hFin:∀n l L j oj,Fin n l L→Clo ops l→j∈Region.ready .any ops l→ed E ops l=true→ops[j]?=some oj→bz oj=true→∃n' r a L',n=n'+1∧la[r]?=some a∧a.i=j∧oj.dst=some a.d∧a.d<N∧(∃x,oj.op=.alloc a.t∧c8 T a.t=some x∧x.z=true∧(∀p q,x.ty≠.pair p q)∧a.cs=x.ty.zsplit)∧(∀t,aV L' t=if t=a.d then some (.box (H.length+r) 0)else aV L t)∧ed E ops (l.setIfInBounds j true)=true∧Fin n' (l.setIfInBounds j true) L')
  {n:Nat} {l:Array Bool} {L:SL} {F:List Item→List Item} (h:TRunB P E ops N H lo Fin n l L F):Clo ops l→∀{j:Nat} {oj:Oper},j∈Region.ready .any ops l→ops[j]?=some oj→bz oj=true→
  ∃(n' r:Nat) (a:AlA) (L':SL),n=n'+1∧la[r]?=some a∧a.i=j∧oj.dst=some a.d∧a.d<N∧(∃x,oj.op=.alloc a.t∧c8 T a.t=some x∧x.z=true∧(∀p q,x.ty≠.pair p q)∧a.cs=x.ty.zsplit)∧(∀t,aV L' t=if t=a.d then some (.box (H.length+r) 0)else aV L t)∧TRunB P E ops N H lo Fin n' (l.setIfInBounds j true) L' F:=by
 induction h with
 |done h1 h2=>
  intro hcl j oj hj hoj hal
  obtain⟨n',r,a,L',e1,e2,e3,e4,e5,e6,e7,e8,e9⟩:=hFin _ _ _ _ _ h2 hcl hj h1 hoj hal
  exact⟨n',r,a,L',e1,e2,e3,e4,e5,e6,e7,.done e8 e9⟩
 | @step n l L L1 i oi di si Ki Fi h1 h0 h0' h2 h3 h4 h5 h6 hrf h7 h8 ih=>
  intro hcl j oj hj hoj hal
  by_cases hji:j=i
  ·exfalso
   subst hji
   unfold dA at h0'
   rw[hoj]at h0'
   dsimp only at h0'
   rw[gC hal]at h0'
   cases h0'
  ·obtain⟨n',r,x,L2,e1,e2,e3,g3,g4,g5,g7,g8⟩:=ih (hcl.set h1) (arZ hj hji) hoj hal
   have hjun:=(arE.1 hj).1
   have hap:=ar3 h2 h5 j oj hoj hji hjun (dH h1 hj hoj)
   obtain⟨a1,a2,a3⟩:=asS hap
   have b2:x.d≠di:=fun e=>a2 di h3 (by rw[g3,e])
   have b3:=a3 x.d g3
   refine⟨n,r,x,(x.d,.box (H.length+r) 0)::kN L x.d,rfl,e2,e3,g3,g4,g5,fun t=>cj,?_⟩
   rw[e1]
   refine .step (j:=i) (L':=L2) (arZ h1 (arU hji)) h0 h0' h2 h3 h4 (jZ h2 hjun h5) ?_ hrf (fun t=>?_) ?_ (s:=si)
   ·rw[dk (M:=L) fun t ht=>by rw[cj,aqQ (fun e=>b3 (by rw[←e];exact ht))]]
    exact h6
   ·rw[g7 t,h7 t,cj]
    by_cases e1:t=x.d
    ·subst e1;rw[aqW rfl,aqQ b2];rw[aqW rfl]
    ·rw[aqQ e1,aqQ e1]
   ·rw[aro _ _ hji]
    exact g8
theorem TRunB.store{ss:List AlS}(hFin:∀n l L j oj,Fin n l L→Clo ops l→j∈Region.ready .any ops l→ed E ops l=true→ops[j]?=some oj→dM E ops j=true→∃n' s,n=n'+1∧s∈ss∧s.i=j∧nv T L s oj∧ed E ops (l.setIfInBounds j true)=true∧Fin n' (l.setIfInBounds j true) L)
  {n:Nat} {l:Array Bool} {L:SL} {F:List Item→List Item} (h:TRunB P E ops N H lo Fin n l L F):Clo ops l→∀{j:Nat} {oj:Oper},j∈Region.ready .any ops l→ops[j]?=some oj→dM E ops j=true→
  ∃(n':Nat) (s:AlS),n=n'+1∧s∈ss∧s.i=j∧nv T L s oj∧TRunB P E ops N H lo Fin n' (l.setIfInBounds j true) L F:=by
 induction h with
 |done h1 h2=>
  intro hcl j oj hj hoj hal
  obtain⟨n',s,e1,e2,e3,e4,e5,e6⟩:=hFin _ _ _ _ _ h2 hcl hj h1 hoj hal
  exact⟨n',s,e1,e2,e3,e4,.done e5 e6⟩
 | @step n l L L1 i oi di si Ki Fi h1 h0 h0' h2 h3 h4 h5 h6 hrf h7 h8 ih=>
  intro hcl j oj hj hoj hal
  by_cases hji:j=i
  ·exfalso
   subst hji
   unfold dA at h0'
   unfold dM at hal
   rw[hoj]at h0' hal
   dsimp only at h0' hal
   rw[h0']at hal
   cases hal
  ·obtain⟨n',s,e1,e2,e3,g5,g8⟩:=ih (hcl.set h1) (arZ hj hji) hoj hal
   have hjun:=(arE.1 hj).1
   have hap:=ar3 h2 h5 j oj hoj hji hjun (dH h1 hj hoj)
   obtain⟨a1,a2,a3⟩:=asS hap
   have b1:=a1 di h3
   refine⟨n,s,rfl,e2,e3,?_,?_⟩
   ·obtain⟨t,x,v,sv,y,q1,q2,q3,q4,q5,q6⟩:=g5
    have hop:∀{z:Operand} {sz:SV},(∀u,z=.tmp u→u∈oj.looksAt ops)→opS L1 z=some sz→opS L z=some sz:=by
     intro z sz hz he
     cases z with
     |tmp u=>
      simp only[opS]at he ⊢
      rw[h7 u,aqQ (fun e=>b1 (by rw[←e];exact hz u rfl))]at he
      exact he
     |_=>exact he
    refine⟨t,x,v,sv,y,q1,q2,q3,hop (fun u hu=>?_) q4,hop (fun u hu=>?_) q5,q6⟩
    ·unfold Oper.looksAt;rw[q1,hu];simp[Op.operands]
    ·unfold Oper.looksAt;rw[q1,hu];simp[Op.operands]
   ·rw[e1]
    refine .step (j:=i) (L':=L1) (arZ h1 (arU hji)) h0 h0' h2 h3 h4 (jZ h2 hjun h5) h6 hrf h7 ?_ (s:=si)
    rw[aro _ _ hji]
    exact g8
theorem oF{H':List Item}{la:List AlA}{ss:List AlS}(hp:PlanOk T ops N H la ss)(hnew:∀s∈ss,H.length≤s.j)(hl:H'.length=H.length):PlanOk T ops N H' la ss:=by
 refine⟨hp.dis,fun a ha=>?_,fun s hs=>?_,hp.far⟩
 ·rw[hl];exact hp.la2 a ha
 ·obtain⟨q1,q2,q3,bt,cells,q4,q5⟩:=hp.ss1 s hs
  have hge:=hnew s hs
  refine⟨q1,by rw[hl];exact q2,by rw[hl];exact q3,bt,cells,?_,q5⟩
  rw[aqK (by omega)]at q4 ⊢
  rw[hl]
  exact q4
theorem H4{h0:Nat}{Hb:List Item}(h:kG h0 (Hb.map ddJ)):kG h0 Hb:=by
 intro k t cs hk x hx
 have e:(Hb.map ddJ)[k]?=some (ddJ (.box t cs)):=by rw[arr,hk];rfl
 unfold ddJ at e
 split at e
 ·rename_i t' b heq
  injection heq with e1 e2
  subst e2
  have:x=.d .bool b:=by simpa using hx
  subst this
  rfl
 ·exact h k t cs e x hx
theorem xj{f:Nat→Bool}{h0:Nat}{Y:List Item}:∀{ss:List AlS},(∀s∈ss,h0≤s.j)→∃X,∀H:List Item,H.length=h0→cq f ss (H++Y)=H++X
 |[],_=>⟨Y,fun _ _=>rfl⟩
 |s::r,h=>by
  obtain⟨X,hX⟩:=xj (f:=f) (h0:=h0) (Y:=Y) (ss:=r) fun s hs=>h s (by simp[hs])
  have hs:=h s (by simp)
  cases hf:f s.i with
  |false=>exact⟨X,fun H hl=>by simp only[cq];rw[hf];exact hX H hl⟩
  |true=>
   refine⟨match X[s.j-h0]? with
    |some (.box bt cells)=>X.set (s.j-h0) (.box bt (lc cells s.off s.l))
    |_=>X,fun H hl=>?_⟩
   simp only[cq]
   rw[hf,hX H hl]
   dsimp only
   unfold stP
   rw[aqK (by omega),hl]
   split
   ·rename_i bt cells hx
    rw[atg,aqQ (by omega),hl]
    simp only[hx]
   ·rename_i hx
    split
    ·rename_i bt cells hy
     exact absurd hy (hx bt cells)
    ·rfl
theorem A5{h0:Nat}{Hb:List Item}(h:kG h0 Hb):kG h0 (Hb.map ddJ):=by
 intro k t cs hk x hx
 rw[arr]at hk
 cases e:Hb[k]? with
 |none=>rw[e]at hk;cases hk
 |some it=>
  rw[e]at hk
  injection hk with hk
  unfold ddJ at hk
  split at hk
  ·injection hk with h1 h2
   subst h2
   have:x=.d .bool false:=by simpa using hx
   subst this
   rfl
  ·subst hk
   exact h k t cs e x hx
theorem TRunB.sound{Z:Nat→Prop}{w0:World}{fl:Nat}{Q:Exit→Act→World→Prop}{X:List Item→List Value→World→Prop}{la:List AlA}{ss:List AlS}{Hf:List Item}(hT:dU P T=true)(hE:i9 P E)(hI:inv w0)
  (hFin:∀n l L j oj,Fin n l L→Clo ops l→j∈Region.ready .any ops l→ed E ops l=true→ops[j]?=some oj→bz oj=true→∃n' r a L',n=n'+1∧la[r]?=some a∧a.i=j∧oj.dst=some a.d∧a.d<N∧(∃x,oj.op=.alloc a.t∧c8 T a.t=some x∧x.z=true∧(∀p q,x.ty≠.pair p q)∧a.cs=x.ty.zsplit)∧(∀t,aV L' t=if t=a.d then some (.box (H.length+r) 0)else aV L t)∧ed E ops (l.setIfInBounds j true)=true∧Fin n' (l.setIfInBounds j true) L')
  (hFinS:lo=true→∀n l L j oj,Fin n l L→Clo ops l→j∈Region.ready .any ops l→ed E ops l=true→ops[j]?=some oj→dM E ops j=true→∃n' s,n=n'+1∧s∈ss∧s.i=j∧nv T L s oj∧ed E ops (l.setIfInBounds j true)=true∧Fin n' (l.setIfInBounds j true) L)
  (hp0:PlanOk T ops N H la ss) (hnew:∀s∈ss,H.length≤s.j) (hlow0:kG H.length H) (hfl:fl≤H.length)
  (hX:∀H G w H' G' w',X H G w→Ev Z fl H G w H' G' w'→X H' G' w') (hQ:∀n l L G w a,ed E ops l=true→Fin n l L→Clo ops l→l.size=ops.size→wk H.length la (dn l) L→SR Z w0 (cq (dn l) ss (Hf++alX (dn l) la)) G w→FR Z N L (cq (dn l) ss (Hf++alX (dn l) la)) G w a→X (cq (dn l) ss (Hf++alX (dn l) la)) G w→wpG P ops Q (fun _=>True) n l a w):
  ∀(n:Nat) (l:Array Bool) (L:SL) (F:List Item→List Item),TRunB P E ops N H lo Fin n l L F→∀Hb,Hb.map ddJ=H→F Hb=Hf→Clo ops l→l.size=ops.size→wk H.length la (dn l) L→∀(G:List Value) (w:World) (a:Act),SR Z w0 (cq (dn l) ss (Hb++alX (dn l) la)) G w→FR Z N L (cq (dn l) ss (Hb++alX (dn l) la)) G w a→X (cq (dn l) ss (Hb++alX (dn l) la)) G w→wpG P ops Q (fun _=>True) n l a w:=by
 have lowS:∀{l:Array Bool} {L L':SL} {j d:Nat} {s:SV},wk H.length la (dn l) L→s.refsT H.length=true→(∀t,aV L' t=if t=d then some s else aV L t)→wk H.length la (dn (l.setIfInBounds j true)) L':=by
  intro l L L' j d s hL hs hL' t u hu
  rw[hL' t]at hu
  split at hu
  ·injection hu with hu
   subst hu
   exact .inl hs
  ·rcases hL t u hu with h|⟨r,a,h1,h2,h3⟩
   ·exact .inl h
   ·refine .inr ⟨r,a,h1,?_,h3⟩
    rw[gF]
    split
    ·rfl
    ·exact h2
 intro n
 induction n with
 |zero=>
  intro l L F h Hb hHb hF hcl hsz hL G w a hr hf hx
  cases h with
  |done h1 h2=>subst hF;exact hQ 0 l L G w a h1 h2 hcl hsz hL hr hf hx
 |succ n ih=>
  intro l L F h Hb hHb hF hcl hsz hL G w a hr hf hx
  have h':=h
  have hlen:Hb.length=H.length:=by rw[←hHb,ask]
  have hp:PlanOk T ops N Hb la ss:=oF hp0 hnew hlen
  have hlow:kG Hb.length Hb:=by rw[hlen];exact H4 (by rw[hHb];exact hlow0)
  cases h with
  |done h1 h2=>subst hF;exact hQ _ l L G w a h1 h2 hcl hsz hL hr hf hx
  | @step _ _ _ L1 i oi di si Ki Fi h1 h0 h0' h2 h3 h4 h5 h6 hrf h7 h8=>
   refine pQ rfl (fun e=>by rw[e]at h1;cases h1) fun j hj=>?_
   obtain⟨hjun,oj,hoj,_⟩:=arE.1 hj
   cases hnl:dM E ops j with
   |true=>
    have hlo:lo=true:=h0.resolve_left fun h0=>by
     rw[ur hcl h0 (arE.1 h1).1 hj]at hnl
     cases hnl
    obtain⟨n',s,e1,e2,e3,g5,g8⟩:=h'.store (T:=T) (hFinS hlo) hcl hj hoj hnl
    have e1:n=n':=by omega
    subst e1 e3
    obtain⟨_,oj',hoj',hdep⟩:=arE.1 hj
    rw[hoj]at hoj'
    injection hoj' with hoj'
    subst hoj'
    obtain⟨bt,c',b1,b2⟩:=hp.box hcl e2 fun os hos e he hb=>by rw[hoj]at hos;injection hos with hos;subst hos;exact hdep e he hb
    refine nX (fl:=fl) hT hE hI hoj g5 b1 b2 hr hf hx hX fun G' w' k2 k3 k5=>⟨.inr trivial,?_⟩
    rw[←hp.setS e2 hjun]at k2 k3 k5
    refine ih _ _ _ g8 Hb hHb hF (hcl.set hj) (by simpa using hsz) (fun t u hu=>?_) G' w' _ k2 k3 k5
    rcases hL t u hu with h|⟨r,b,q1,q2,q3⟩
    ·exact .inl h
    ·refine .inr ⟨r,b,q1,?_,q3⟩
     rw[gF]
     split
     ·rfl
     ·exact q2
   |false=>
   cases hal:bz oj with
   |false=>
    have hst:dA E ops j=true:=by
     unfold dM at hnl
     unfold dA
     rw[hoj]at hnl ⊢
     simpa [hal]using hnl
    obtain⟨n',o,d,s,L',K,F',e1,g2,g3,g4,g5,grf,g6,g7,g9⟩:=h'.any hcl hj hst
    have e1:n=n':=by omega
    subst e1
    have hno:bz o=false:=by rw[hoj]at g2;injection g2 with g2;subst g2;exact hal
    rw[g9]at hF
    rcases g5 with⟨rfl,g5⟩|⟨q,c,rfl,g5⟩
    ·have e1:=hp.setT (l:=l) g2 hno g3
     obtain⟨Y,hY⟩:=ow (f:=dn l) (H:=Hb) (Y:=alX (dn l) la) (fun s hs=>by rw[hlen];exact hnew s hs)
     rw[hY]at hr hf hx
     rw[←CQ hHb]at g5
     refine g5.up Y Z w0 N G w a Q _ hI hr ⟨hf.defers,hf.size,fun t s' hs=>hf.slot t s' (fD hs)⟩ fun v G' w' k0 k1 k2 k3=>⟨.inr trivial,?_⟩
     rw[hY]at e1
     have hf1:FR Z N ((d,s)::kN L d) (Hb++Y) G' w' (a.put o.dst v):=by
      refine(hf.keep k2).put (d:=o.dst) (s:=s) ?_ k3
      rw[g3]
      simp only[dm]
      rw[aqU (show d+1≤N by omega)]
     exact ih _ _ _ g7 Hb hHb hF (hcl.set hj) (by simpa using hsz) (lowS hL grf g6) G' w' _ (by rw[e1];exact k1) (by rw[e1];exact hf1.eqv fun t=>by rw[cj,g6 t]) (by rw[e1];exact hX _ _ _ _ _ _ hx fun s v hs _=>k2 s v hs)
    ·have hp':PlanOk T ops N (iT q c Hb) la ss:=oF hp (fun s hs=>by rw[hlen];exact hnew s hs) (uf _ _ _)
     have e1:=hp'.setT (l:=l) g2 hno g3
     obtain⟨Y,hYu⟩:=xj (f:=dn l) (h0:=H.length) (Y:=alX (dn l) la) hnew
     have hY:=hYu Hb hlen
     have hY':=hYu (iT q c Hb) ((uf _ _ _).trans hlen)
     rw[hY]at hr hf hx
     refine g5 Hb Y Z w0 N G w a Q _ hHb hI hr ⟨hf.defers,hf.size,fun t s' hs=>hf.slot t s' (fD hs)⟩ fun v w' k1 k2 k3=>⟨.inr trivial,?_⟩
     rw[hY']at e1
     have hf1:FR Z N ((d,s)::kN L d) (iT q c Hb++Y) G w' (a.put o.dst v):=by
      refine(hf.keep k2).put (d:=o.dst) (s:=s) ?_ k3
      rw[g3]
      simp only[dm]
      rw[aqU (show d+1≤N by omega)]
     exact ih _ _ _ g7 (iT q c Hb) ((Dl q c Hb).trans hHb) hF (hcl.set hj) (by simpa using hsz) (lowS hL grf g6) G w' _ (by rw[e1];exact k1) (by rw[e1];exact hf1.eqv fun t=>by rw[cj,g6 t]) (by rw[e1];exact hX _ _ _ _ _ _ hx fun s v hs _=>k2 s v hs)
   |true=>
    obtain⟨n',r,x,L',e1,e2,e3,g3,g4,⟨y,y5,y6,y7,y8,y9⟩,g7,g8⟩:=h'.alloc (T:=T) hFin hcl hj hoj hal
    have e1:n=n':=by omega
    subst e1 e3
    obtain⟨hset,hgone⟩:=hp.setA hcl hsz e2 hjun
    rw[←hlen]at g7 hL
    refine nD (L':=L') hT hoj hal e2 g3 g4 y5 ⟨y,y6,y7,y8,y9⟩ hp.dis hjun hgone (hp.low hlow) hL (by rw[hlen];exact hfl) hr hf hx hX g7 fun v G' w' k0 k1 k2 k3=>⟨.inr trivial,?_⟩
    rw[←hset]at k1 k2 k3
    rw[hlen]at g7 hL
    refine ih _ _ _ g8 Hb hHb hF (hcl.set hj) (by simpa using hsz) (fun t u hu=>?_) G' w' _ k1 k2 k3
    rw[g7 t]at hu
    split at hu
    ·injection hu with hu
     exact .inr ⟨r,x,e2,by rw[gF,aqW rfl],hu.symm⟩
    ·rcases hL t u hu with h|⟨r',b,q1,q2,q3⟩
     ·exact .inl h
     ·refine .inr ⟨r',b,q1,?_,q3⟩
      rw[gF]
      split
      ·rfl
      ·exact q2
end
section
variable {F:FT} {P:Program} {T:TT} {E:Env} {N:NT} {Fn:Nat→Cfg→Option (List RV)} {r:List RV}
theorem xG{c:Cfg}{i:Nat}{la:List AlA}{ss:List AlS}{m m' n:Nat}{l:Array Bool}{L:SL}(hm:m≤m')(hf:pV P F T E N Fn r c i la ss m n l L):pV P F T E N Fn r c i la ss m' n l L:=by
 rcases hf with⟨D',q,e1,e2,e3,e4,e5,e6,e7,e8,e9⟩|⟨D',q,L0,ss',e1,e2,e3,e4,e5,e6,e7,e8⟩|⟨D',q,j',o',e1,e2,e3,e4,e5,e6,e7,e8,e9,e10,e11⟩
 ·exact .inl ⟨D',q,e1,e2,e3,e4,e5,e6,e7,by omega,e9⟩
 ·exact .inr (.inl ⟨D',q,L0,ss',e1,e2,e3,e4,e5,e6,by omega,e8⟩)
 ·exact .inr (.inr ⟨D',q,j',o',e1,e2,e3,e4,e5,e6,e7,e8,e9,by omega,e11⟩)
theorem TRunB.mono{P:Program}{ops:Array Oper}{N:Nat}{H:List Item}{lo:Bool}{Fin Fin':Nat→Array Bool→SL→Prop}(hF:∀n l L,Fin n l L→Fin' n l L){n:Nat}{l:Array Bool}{L:SL}{Φ:List Item→List Item}(h:TRunB P E ops N H lo Fin n l L Φ):TRunB P E ops N H lo Fin' n l L Φ:=by
 induction h with
 |done h1 h2=>exact .done h1 (hF _ _ _ h2)
 |step h1 h0 h0' h2 h3 h4 h5 h6 hrf h7 h8 ih=>exact .step h1 h0 h0' h2 h3 h4 h5 h6 hrf h7 ih
theorem A6{ops:Array Oper}{D:List Nat}:∀{rs:List Nat} {j:Nat},xq E ops D rs=some j→j∈rs∧∃o d,ops[j]?=some o∧ez E o=true∧o.dst=some d∧Region.free .any ops (mkL ops.size D) j=true∧(gz E ops j=true∨(!(b9 E ops))=true)
 |[],_,h=>by simp[xq]at h
 |q::rs,j,h=>by
  simp only[xq]at h
  split at h<;>try (cases h;done)
  rename_i o ho
  split at h
  ·rename_i hb
   injection h with h
   subst h
   simp only[aqB]at hb
   obtain⟨d,hd⟩:=arn.1 hb.1.1.2
   simp only[asa]at hb
   exact⟨by simp,o,d,ho,hb.1.1.1,hd,hb.1.2,hb.2⟩
  ·obtain⟨h1,h2⟩:=A6 h
   exact⟨by simp[h1],h2⟩
theorem TRun.fin{ops:Array Oper}{N:Nat}{H:List Item}{lo:Bool}{Fin:Nat→Array Bool→SL→Prop}{n:Nat}{l:Array Bool}{L:SL}(h:TRun P E ops N H lo (fun _ _ _=>False) Fin n l L)(hall:ed E ops l=true)(hcl:Clo ops l):Fin n l L:=by
 cases h with
 |done h1 h2=>exact h2
 |stop h1 h2=>exact h2.elim
 |step h1 _ h0'=>
  rw[mg hcl hall h1]at h0'
  cases h0'
theorem Zi(hT:dU P T=true)(hE:i9 P E){i:Nat}{c:Cfg}:∀(m:Nat) (D:List Nat) (L:SL) (H:List Item),go P F T E N Fn m {c with L:=L,H:=H} (.tbx i D)=some r→
  cu (mkL (aq (nth (am F c.f) i)).size D)+D.length=(aq (nth (am F c.f) i)).size→(∀j∈D,dA E (aq (nth (am F c.f) i)) j=true)→(∀t s,aV L t=some s→s.refsT H.length=true)→Clo (aq (nth (am F c.f) i)) (mkL (aq (nth (am F c.f) i)).size D)→
  ∃la ss Φ,b9 E (aq (nth (am F c.f) i))=true∧PlanOk T (aq (nth (am F c.f) i)) (ntm F c.f) (H.map ddJ) la ss∧(∀s∈ss,H.length≤s.j)∧(Φ H).map ddJ=H.map ddJ∧TRunB P E (aq (nth (am F c.f) i)) (ntm F c.f) (H.map ddJ) (!(b9 E (aq (nth (am F c.f) i)))) (pV P F T E N Fn r {c with H:=Φ H} i la ss m) ((aq (nth (am F c.f) i)).size-D.length) (mkL (aq (nth (am F c.f) i)).size D) L Φ:=by
 intro m
 induction m with
 |zero=>intro D L H h;simp[go]at h
 |succ m ih=>
  intro D L H h hlen hD hlowL hcl
  have next:∀{j:Nat} {o:Oper} {d:Nat} {L1 L2:SL} {s:SV} {K:List Item→List Item},j∈Region.ready .any (aq (nth (am F c.f) i)) (mkL (aq (nth (am F c.f) i)).size D)→(aq (nth (am F c.f) i))[j]?=some o→o.dst=some d→Region.free .any (aq (nth (am F c.f) i)) (mkL (aq (nth (am F c.f) i)).size D) j=true→(gz E (aq (nth (am F c.f) i)) j=true∨(!(b9 E (aq (nth (am F c.f) i))))=true)→ez E o=true→D.length+1≤(aq (nth (am F c.f) i)).size→
    (∀t,aV L1 t=aV L t)→StepK P (H.map ddJ) K (aq (nth (am F c.f) i)) (eM L (o.looksAt (aq (nth (am F c.f) i)))) o j s→(K H).length=H.length→s.refsT H.length=true→dm (ntm F c.f) L1 o.dst s=some L2→go P F T E N Fn m {c with L:=L2,H:=K H} (.tbx i (j::D))=some r→
    ∃la ss Φ,b9 E (aq (nth (am F c.f) i))=true∧PlanOk T (aq (nth (am F c.f) i)) (ntm F c.f) (H.map ddJ) la ss∧(∀s∈ss,H.length≤s.j)∧(Φ H).map ddJ=H.map ddJ∧TRunB P E (aq (nth (am F c.f) i)) (ntm F c.f) (H.map ddJ) (!(b9 E (aq (nth (am F c.f) i)))) (pV P F T E N Fn r {c with H:=Φ H} i la ss (m+1)) ((aq (nth (am F c.f) i)).size-D.length) (mkL (aq (nth (am F c.f) i)).size D) L Φ:=by
   intro j o d L1 L2 s K h1 h2 h3 h4 h4' h4'' h5 h6 h7 hK hrf h8 h9
   have htj:dA E (aq (nth (am F c.f) i)) j=true:=by unfold dA;rw[h2];exact h4''
   have hcu:=wz (arE.1 h1).1
   rw[h3]at h8
   simp only[dm]at h8
   split at h8<;>try (cases h8;done)
   rename_i hd
   have hd:=aqD hd
   injection h8 with h8
   have hlk:∀t,aV L2 t=if t=d then some s else aV L t:=fun t=>by rw[←h8,cj,h6 t]
   obtain⟨la,ss,Φ,hstr,hp,hnew,hlenΦ,h10⟩:=ih (j::D) L2 (K H) h9 (by
    rw[aq1]
    show cu ((mkL _ D).setIfInBounds j true)+_=_
    omega) (fun k hk=>by
    rcases arc.1 hk with e|hk
    ·subst e;exact htj
    ·exact hD k hk) (fun t u hu=>by
    rw[hK]
    rw[hlk t]at hu
    split at hu
    ·injection hu with hu;subst hu;exact hrf
    ·exact hlowL t u hu) (hcl.set h1)
   rw[h7.ddJ]at hp h10
   refine⟨la,ss,fun x=>Φ (K x),hstr,hp,fun s hs=>by rw[←hK];exact hnew s hs,hlenΦ.trans (h7.ddJ H),?_⟩
   rw[show(aq (nth (am F c.f) i)).size-D.length=((aq (nth (am F c.f) i)).size-(j::D).length)+1 by simp;omega]
   exact .step (L':=L2) h1 h4' htj h2 h3 (by omega) h4 h7 (by rw[ask];exact hrf) hlk (h10.mono fun n l L hf=>xG (Nat.le_succ _) hf)
  simp only[go]at h
  split at h
  ·rename_i hall
   split at h<;>try (cases h;done)
   rename_i hstr
   obtain⟨la,ss,hp,hnew,hrun⟩:=GQ hT hE (c:={c with H:=H}) m D L h hlen hD hlowL hcl
   refine⟨la,ss,id,hstr,oF hp hnew (ask _),hnew,rfl,?_⟩
   exact .done hall (xG (Nat.le_succ _) (hrun.fin hall hcl))
  ·rename_i hall
   split at h<;>try (cases h;done)
   rename_i j hb hj
   have hb:=aqD hb
   obtain⟨g1,o',d,g2,gt,g3,g4,g5⟩:=A6 hj
   split at h<;>try (cases h;done)
   rename_i o ho
   rw[ho]at g2
   injection g2 with g2
   subst g2
   rcases lE h with⟨L1,k1,k2,k3⟩|⟨L1,k1,k2,k3⟩
   ·rw[dk (M:=L) fun t _=>k1 t]at k2
    split at k2
    ·rename_i q s b hbx
     split at k2<;>try (cases k2;done)
     rename_i L2 hp hrf
     exact next g1 ho g3 g4 g5 gt hb k1 (.inr ⟨q,b,rfl,ZM hE ho k3 hbx⟩) (uf _ _ _) hrf hp k2
    ·obtain⟨s,q1,q2,_⟩:=zL hT hE ho k3 k2
     split at q1<;>try (cases q1;done)
     rename_i L2 hp hrf
     exact next (K:=id) g1 ho g3 g4 g5 gt hb k1 (.inl ⟨rfl,by rw[CQ rfl]at q2;exact q2⟩) rfl hrf hp q1
   ·split at k2<;>try (cases k2;done)
    rename_i L2 hp
    exact next (K:=id) g1 ho g3 g4 g5 gt hb k1 (.inl ⟨rfl,nG ho k3⟩) rfl rfl hp k2
end
end
section
theorem Ds{P:Program}{fn:Func}{R:Ending→World→Prop}{B:Code}{K:List KI}{i:Nat}{a:Act}{w:World}(S:World→Prop){id:Nat}(hm:P.follows .mixedOrders=true)(hc:nth B i=.region id (aq (nth B i)) true)(h:AtG P fn R B K i S (aq (nth B i)).size [] a w.drew):At P fn R B K i a w:=by
 unfold At;rw[hc]
 refine wp_region_any hm (BG (S0:=S) _ _ _ _ ?_)
 simpa [AtG,mkL,aq]using h
theorem qA{n s:Nat}:∀{D:List Nat},s∉D→s<n→(mkL n D).getD s true=false
 |[],_,h=>by simp[mkL,h]
 |j::D,hn,h=>by
  have h1:s≠j:=fun e=>hn (by simp[e])
  rw[mkL,ar7 true (arU h1)]
  exact qA (fun hm=>hn (by simp[hm])) h
theorem yB{ops:Array Oper}:¬storeDone ops (mkL ops.size []):=by
 rintro ⟨s,os,h1,_,h3⟩
 have hlt:=(aqI.1 h1).1
 simp[mkL,hlt]at h3
section
variable {Z:Nat→Prop} {w0:World} {F:FT} {P:Program} {T:TT} {E:Env} {N:NT} {Fin:Nat→Cfg→Option (List RV)} {Rt:Ending→World→Prop} {r:List RV}
set_option maxHeartbeats 2000000 in
theorem Bc(hT:dU P T=true)(hE:i9 P E)(hI:inv w0)(hF:∀f fn,fH F f=some fn→P.funcs[f]?=some fn)(hm:P.follows .mixedOrders=true)
  (hRt:∀vs H G w ss tys,wv T H ss tys=some r→SR Z w0 H G w→cf (Rel G (Av Z H G) w) ss vs→Rt (.returned (jp vs)) w)
  (hFin:∀i c G w a ats fn,Fin i c=some r→CR Z F w0 c G w a ats→fH F c.f=some fn→InLoop P (nth (am F c.f) (i+1)) (gi P fn (eU P F Rt c.fs ats) (am F c.f) (fU P fn (eU P F Rt c.fs ats) (am F c.f) c.K)) a w):
  ∀(m:Nat) (c:Cfg) (p:Pos),go P F T E N Fin m c p=some r→∀G w a ats fn,CR Z F w0 c G w a ats→fH F c.f=some fn→gV P F Rt c fn G w a ats p:=by
 have headOk:∀i c,head N Fin i c=some r→∀G w a ats fn,CR Z F w0 c G w a ats→fH F c.f=some fn→InLoop P (nth (am F c.f) (i+1)) (gi P fn (eU P F Rt c.fs ats) (am F c.f) (fU P fn (eU P F Rt c.fs ats) (am F c.f) c.K)) a w:=by
  intro i c h G w a ats fn hc hfn
  unfold head at h
  split at h
  ·split at h<;>try (cases h;done)
   rename_i c' hn
   obtain⟨G',k1,k2,k3,k4⟩:=ZY hn hc
   have:=hFin i c' G' w a ats fn h k1 (by rw[k2];exact hfn)
   rw[k2,k3,k4]at this
   exact this
  ·exact hFin i c G w a ats fn h hc hfn
 intro m
 induction m using Nat.strongRecOn with
 |ind m0 ihs=>
 cases m0 with
 |zero=>intro c p h;simp[go]at h
 |succ m=>
  have ih:=ihs m (Nat.lt_succ_self m)
  intro c p h G w a ats fn hc hfn
  have h0:=h
  simp only[go]at h
  split at h
  ·-- nrm
   split at h
   ·rename_i hK
    have:=ih _ _ h G w a ats fn hc hfn
    simp only[gV]at this ⊢
    rw[hK]
    exact this
   ·rename_i j K hK
    have:=ih _ _ h G w a ats fn ⟨hc.sr,hc.fr,hc.fl,hc.frs⟩ hfn
    simp only[gV]at this ⊢
    rw[hK]
    exact this
   ·rename_i id K hK
    have:=ih _ _ h G w a ats fn ⟨hc.sr,hc.fr,hc.fl,hc.frs⟩ hfn
    simp only[gV]at this ⊢
    rw[hK]
    exact this
   ·rename_i i K hK
    have:=headOk i {c with K:=K} h G w a ats fn ⟨hc.sr,hc.fr,hc.fl,hc.frs⟩ hfn
    simp only[gV]
    rw[hK]
    exact this
  ·-- node
   rename_i i
   simp only[gV]
   split at h
   ·rename_i hn
    exact XV hn (ih _ _ h G w a ats fn hc hfn)
   ·rename_i x y hn
    have:=ih _ _ h G w a ats fn ⟨hc.sr,hc.fr,hc.fl,hc.frs⟩ hfn
    exact uW (YJ hn) this
   ·rename_i id x hn
    have:=ih _ _ h G w a ats fn ⟨hc.sr,hc.fr,hc.fl,hc.frs⟩ hfn
    exact Rn (JJ hn) this
   ·rename_i id hn
    split at h<;>try (cases h;done)
    rename_i K hK
    have:=ih _ _ h G w a ats fn ⟨hc.sr,hc.fr,hc.fl,hc.frs⟩ hfn
    exact Wm hn (Vw (rW hK) this)
   ·rename_i hn
    exact DH hn (ih _ _ h G w a ats fn hc hfn)
   ·rename_i x p q hn
    split at h<;>try (cases h;done)
    rename_i b hb
    have hv:=oU (aW hc.fr hb)
    unfold At
    rw[LI hn]
    split at h
    ·exact wp_cond_true hv (ih _ _ h G w a ats fn hc hfn)
    ·exact wp_cond_false hv (ih _ _ h G w a ats fn hc hfn)
   ·rename_i x hn
    unfold At
    rw[LD hn]
    exact(headOk i c h G w a ats fn hc hfn).wp
   ·rename_i id ops hn
    have:=ih _ _ h G w a ats fn hc hfn
    exact j8 (id:=id) (by rw[hn];rfl) this
   ·rename_i id ops hn
    split at h<;>try (cases h;done)
    rename_i hns
    have hops:aq (nth (am F c.f) i)=ops:=by rw[hn];rfl
    have hb:Below w.heap.size w w.drew:=(atm _ _).drew
    have hsg:=qy hc.sr hb
    have hev:Ev Z c.fl c.H G w c.H G w.drew:=fun s v hs _=>cZ hc.sr hsg hs
    have hcr:CR Z F w0 c G w.drew a ats:=⟨Gd hc.sr hb,hc.fr.keep fun s v hs=>cZ hc.sr hsg hs,hc.fl,hc.frs.ev hev (aqE _)⟩
    split at h
    ·refine Ds (fun _=>True) hm (id:=id) (by rw[hn];rfl) ?_
     split at h
     ·exact ih _ _ h G w.drew a ats fn hcr hfn rfl (by rw[hops];exact hns)
     ·exact ih _ _ h G w.drew a ats fn hcr hfn rfl (by rw[hops];exact hns)
    refine Ds (Agr (!(ops.any fun o=>kX o.op)) c.H G w.drew) hm (id:=id) (by rw[hn];rfl) ?_
    exact ih _ _ h G w.drew a ats fn hcr hfn c.H G w.drew (.inr ⟨Agr.refl,fun _ _ hx=>hx,fun _=>⟨rfl,rfl,rfl⟩,yB⟩) oY (by rw[hops];exact hns) _ (by simp)
   ·cases h
  ·-- ops
   rename_i i k
   simp only[gV]
   split at h
   ·rename_i hk
    exact Zx hk (ih _ _ h G w a ats fn hc hfn)
   ·rename_i o hk
    rcases d8 hc.fr h with⟨L1,h1,hf1,hw⟩|⟨L1,h1,hf1,hw⟩
    ·refine YO hk hw ?_
     split at h1
     ·split at h1<;>try (cases h1;done)
      rename_i hfz
      obtain⟨g1,g2,g3,g4,g5⟩:=af7 hc.sr hf1 hfz
      obtain⟨s,v,h2,h3,h4⟩:=jH hT g1 g2 h1
      split at h2<;>try (cases h2;done)
      rename_i L2 hp
      rw[h4 w (fun _=>Agr.refl)]
      exact ih _ _ h2 G w (a.put o.dst v) ats fn ⟨g1,g2.put hp h3,aqM hc.fl (Nat.le_of_eq g5),hc.frs.evF g3 (aqE _)⟩ hfn
     ·split at h1
      ·rename_i g ss hin
       obtain⟨f,args,tys,fg,caps,e1,e2,e3,e4,e5,e6,e7⟩:=yU hf1 hin
       have hcl:dw P g=true:=by unfold dw;rw[hF g fg e2];simp only[e6,e7,aqw]
       rw[iv hcl a.eval o f args tys caps e1 e3 w]
       obtain⟨B,hB⟩:=arn.1 e7
       have hbf:am F g=B:=by simp[am,e2,hB]
       have hcal:Calls P g (args.map a.eval++caps) w (eU P F Rt ({f:=c.f,K:=c.K,i:=i,k:=k,L:=wh N c.f i L1,fl:=c.fl}::c.fs) (a::ats)):=by
        have hto:args.map a.eval++caps=(args.map a.eval++caps).toList.toArray:=by simp
        rw[hto]
        refine enter (hF g fg e2) hB (aqU (by rw[←dG e4];exact e5)) fun a2 hst=>?_
        have:=ih _ _ h1 G w a2 (a::ats) fg ⟨hc.sr,⟨hst.defers,by rw[hst.size];simp[ntm,e2],j9 e4 hst.slot⟩,aqE _,⟨⟨hf1.defers,hf1.size,fun t s hs=>hf1.slot t s (il hs)⟩,fun t s hs=>by obtain⟨v,_,hv⟩:=hf1.slot t s (il hs);exact ia hc.sr hv,⟨hc.fl,⟨fn,hfn⟩,fun D hD=>by cases hD⟩,hc.frs⟩⟩ e2
        simp only[gV,fU]at this
        rw[hbf]at this
        exact this
       refine Calls.mono hcal ?_
       rintro e w' ⟨v,rfl,fn',o',q1,q2,q3,_⟩
       have q3:=q3 rfl
       simp only at q1 q2 q3
       rw[hfn]at q1
       injection q1 with q1
       subst q1
       rw[hk]at q2
       injection q2 with q2
       subst q2
       exact q3
      ·refine qB hT hE hI hc.sr hf1 h1 fun s H' L2 G' w' v h2 h3 h4 h5 h6=>?_
       split at h2<;>try (cases h2;done)
       rename_i L3 hp
       exact ih _ _ h2 G' w' (a.put o.dst v) ats fn ⟨h3,h4.put hp h5,aqM hc.fl h6.len,hc.frs.evF h6.pres (aqE _)⟩ hfn
    ·refine afT hk hw ?_
     split at h1<;>try (cases h1;done)
     rename_i L2 hp
     exact ih _ _ h1 G w (a.put o.dst undef) ats fn ⟨hc.sr,hf1.put hp rfl,hc.fl,hc.frs⟩ hfn
  ·-- drw
   rename_i i rw eff D
   simp only[gV]
   intro Hs Gs ws hinv hclo hns m' hm'
   split at h
   ·exact ih _ _ h G w a ats fn hc hfn (Agr rw Hs Gs ws) (fun w w' hw ho=>⟨aqM hw.1 ho.1,fun b hb hor=>(ho.2 b (art hb hw.1)).trans (hw.2 b hb hor)⟩) (hinv.elim (fun h=>.inl h.1) (fun h=>.inr h.1)) hclo hns m' hm'
   split at h
   ·rename_i hrd
    exact uS hrd (ih _ _ h G w a ats fn hc hfn) _
   ·rename_i rs hrd
    split at h<;>try (cases h;done)
    rename_i hlen
    have hlen:=aqD hlen
    obtain⟨m'',rfl⟩:∃m'',m'=m''+1:=⟨m'-1,by omega⟩
    have hsst:Sst (aq (nth (am F c.f) i)) (Agr rw Hs Gs ws) (mkL (aq (nth (am F c.f) i)).size D) w:=hinv.elim (fun h=>.inl h.1) (fun h=>.inr h.1)
    split at h
    ·rename_i j hj
     obtain⟨j1,o,j2,j3,j4,j5,j6⟩:=Dc hj
     rw[j2]at h
     dsimp only at h
     have hns1:db o.op=false:=Iw j3
     have hclo':Clo (aq (nth (am F c.f) i)) (mkL (aq (nth (am F c.f) i)).size (j::D)):=hclo.set j1
     have hinv':(storeDone (aq (nth (am F c.f) i)) (mkL (aq (nth (am F c.f) i)).size (j::D))∧eff=true)∨(Agr rw Hs Gs ws w∧(∀b,b<ws.heap.size→gM c.H G b→gM Hs Gs b)∧(eff=false→c.H=Hs∧G=Gs∧w=ws)∧¬storeDone (aq (nth (am F c.f) i)) (mkL (aq (nth (am F c.f) i)).size (j::D))):=
      hinv.elim (fun h=>.inl ⟨h.1.set j,h.2⟩) fun h=>.inr ⟨h.1,h.2.1,h.2.2.1,fun h'=>h.2.2.2 (h'.unset j2 hns1)⟩
     have take:∀{v:Value},YieldsIf P (aq (nth (am F c.f) i)) (fun w'=>kM o.op=true→Agr rw Hs Gs ws w') o v a→AtG P fn (eU P F Rt c.fs ats) (am F c.f) (fU P fn (eU P F Rt c.fs ats) (am F c.f) c.K) i (Agr rw Hs Gs ws) m'' (j::D) (a.put o.dst v) w→AtG P fn (eU P F Rt c.fs ats) (am F c.f) (fU P fn (eU P F Rt c.fs ats) (am F c.f) c.K) i (Agr rw Hs Gs ws) (m''+1) D a w:=by
      intro v hy hk
      cases hl:kM o.op with
      |true=>
       obtain⟨he,haw⟩:=j4 hl
       obtain⟨hagr,_,_,hun⟩:=hinv.resolve_left (fun h=>by rw[he]at h;cases h.2)
       have hy':YieldsIf P (aq (nth (am F c.f) i)) (Agr rw Hs Gs ws) o v a:=hy.imp (fun h=>⟨h.1,fun w' hS=>h.2 w' fun _=>hS⟩) id
       exact JT j2 (as3 hns) (fun cc a w hq=>kj _ cc a _ _ w hq) hns1 haw m'' _ a w (ar3 j2 j6) hclo hun j1 hy' hagr hk
      |false=>
       have hy':YieldsIf P (aq (nth (am F c.f) i)) (fun _=>True) o v a:=hy.imp (fun h=>⟨h.1,fun w' _=>h.2 w' fun h'=>by rw[hl]at h';cases h'⟩) id
       exact AW j2 (as3 hns) (fun cc a w hq=>kj _ cc a _ _ w hq) hns1 m'' _ a w (ar3 j2 j6) j1 hy' hsst hk
     rcases d8 hc.fr h with⟨L1,h1,hf1,hw⟩|⟨L1,h1,hf1,hw⟩
     ·obtain⟨s,v,h2,h3,h4⟩:=jH hT hc.sr hf1 h1
      split at h2<;>try (cases h2;done)
      rename_i L2 hp
      refine take (v:=v) (.inl ⟨hw,fun w' hS=>h4 w' fun hl=>?_⟩) ?_
      ·obtain⟨he,_⟩:=j4 hl
       obtain⟨_,_,heff,_⟩:=hinv.resolve_left (fun h=>by rw[he]at h;cases h.2)
       obtain⟨e1,e2,e3⟩:=heff he
       rw[e1,e2,e3]
       exact hS hl
      ·exact ih _ _ h2 G w (a.put o.dst v) ats fn ⟨hc.sr,hf1.put hp h3,hc.fl,hc.frs⟩ hfn Hs Gs ws hinv' hclo' hns m'' (by simp;omega)
     ·split at h1<;>try (cases h1;done)
      rename_i L2 hp
      refine take (v:=undef) (.inr ⟨hw,rfl⟩) ?_
      exact ih _ _ h1 G w (a.put o.dst undef) ats fn ⟨hc.sr,hf1.put hp rfl,hc.fl,hc.frs⟩ hfn Hs Gs ws hinv' hclo' hns m'' (by simp;omega)
    ·refine pQ (rs:=Region.ready .any (aq (nth (am F c.f) i)) (mkL (aq (nth (am F c.f) i)).size D)) rfl (by assumption) fun k hk=>?_
     have h:=wX h k hk
     split at h<;>try (cases h;done)
     rename_i o j2
     have hclo':Clo (aq (nth (am F c.f) i)) (mkL (aq (nth (am F c.f) i)).size (k::D)):=hclo.set hk
     have hsst':Sst (aq (nth (am F c.f) i)) (Agr rw Hs Gs ws) (mkL (aq (nth (am F c.f) i)).size (k::D)) w:=hsst.set k
     have sdone:db o.op=true→storeDone (aq (nth (am F c.f) i)) (mkL (aq (nth (am F c.f) i)).size (k::D)):=fun h=>⟨k,o,j2,h,gj _ _⟩
     have hinv':db o.op=false→(storeDone (aq (nth (am F c.f) i)) (mkL (aq (nth (am F c.f) i)).size (k::D))∧eff=true)∨(Agr rw Hs Gs ws w∧(∀b,b<ws.heap.size→gM c.H G b→gM Hs Gs b)∧(eff=false→c.H=Hs∧G=Gs∧w=ws)∧¬storeDone (aq (nth (am F c.f) i)) (mkL (aq (nth (am F c.f) i)).size (k::D))):=
      fun hns1=>hinv.elim (fun h=>.inl ⟨h.1.set k,h.2⟩) fun h=>.inr ⟨h.1,h.2.1,h.2.2.1,fun h'=>h.2.2.2 (h'.unset j2 hns1)⟩
     unfold wpOp
     simp only[j2]
     rcases d8 hc.fr h with⟨L1,h1,hf1,hw⟩|⟨L1,h1,hf1,hw⟩
     ·rw[aqW hw]
      refine .inl ?_
      unfold Oper.wp
      split at h1
      ·rename_i hq
       have hns1:db o.op=false:=Iw hq
       obtain⟨s,v,h2,h3,h4⟩:=jH hT hc.sr hf1 h1
       split at h2<;>try (cases h2;done)
       rename_i L2 hp
       rw[h4 w (fun _=>Agr.refl)]
       exact⟨hsst',ih _ _ h2 G w (a.put o.dst v) ats fn ⟨hc.sr,hf1.put hp h3,hc.fl,hc.frs⟩ hfn Hs Gs ws (hinv' hns1) hclo' hns m'' (by simp;omega)⟩
      ·split at h1<;>try (cases h1;done)
       rename_i hcond
       simp only[as2]at hcond
       obtain⟨hst1,hst2⟩:=hcond
       simp only[Bool.and_eq_false_iff]at hst2
       refine qB hT hE hI hc.sr hf1 h1 fun s H' L2 G' w' v h2 h3 h4 h5 h6=>?_
       split at h2<;>try (cases h2;done)
       rename_i L3 hp
       have hcr:CR Z F w0 {c with L:=L3,H:=H'} G' w' (a.put o.dst v) ats:=⟨h3,h4.put hp h5,aqM hc.fl h6.len,hc.frs.evF h6.pres (aqE _)⟩
       cases hiss:db o.op with
       |true=>exact⟨.inl (sdone hiss),ih _ _ h2 G' w' (a.put o.dst v) ats fn hcr hfn Hs Gs ws (.inl ⟨sdone hiss,rfl⟩) hclo' hns m'' (by simp;omega)⟩
       |false=>
        rcases hinv with hinv|⟨hagr,hrows,heff,hun⟩
        ·exact⟨.inl (hinv.1.set k),ih _ _ h2 G' w' (a.put o.dst v) ats fn hcr hfn Hs Gs ws (.inl ⟨hinv.1.set k,rfl⟩) hclo' hns m'' (by simp;omega)⟩
        ·have hag:=h6.agr.resolve_left (by rw[hiss,hst1];simp)
         have hagr':Agr rw Hs Gs ws w':=by
          refine⟨aqM hagr.1 hag.1.1,fun b hb hor=>?_⟩
          rw[←hagr.2 b hb hor]
          refine hag.1.2 b (art hb hagr.1) ?_
          rcases hst2 with h7|h7
          ·left;rw[h7];rfl
          ·right
           rcases hor with hor|hor
           ·rw[h7]at hor;cases hor
           ·exact fun hx=>hor (hrows b hb hx)
         exact⟨.inr hagr',ih _ _ h2 G' w' (a.put o.dst v) ats fn hcr hfn Hs Gs ws (.inr ⟨hagr',fun b hb hx=>hrows b hb (hag.2 b (art hb hagr.1) hx),(fun e=>by cases e),fun h'=>hun (h'.unset j2 hiss)⟩) hclo' hns m'' (by simp;omega)⟩
     ·rw[aqQ (by rw[hw];simp)]
      split at h1<;>try (cases h1;done)
      rename_i L2 hp
      refine⟨hsst',ih _ _ h1 G w (a.put o.dst undef) ats fn ⟨hc.sr,hf1.put hp rfl,hc.fl,hc.frs⟩ hfn Hs Gs ws ?_ hclo' hns m'' (by simp;omega)⟩
      cases hiss:db o.op with
      |true=>exact .inl ⟨sdone hiss,by simp⟩
      |false=>simpa using hinv' hiss
  ·-- tam
   rename_i i D
   clear h
   simp only[gV]
   intro hD0 hns
   subst hD0
   have hlow:∀t s,aV c.L t=some s→s.refsT c.H.length=true:=fun t s hs=>by
    obtain⟨v,_,hv⟩:=hc.fr.slot t s hs
    exact ia hc.sr hv
   obtain⟨la,ss,hp,hnew,hrun⟩:=GQ hT hE (c:=c) (m+1) [] c.L h0 (by rw[D2];rfl) (fun j hj=>by cases hj) hlow oY
   obtain⟨G1,g1,g2,g3⟩:=uc (dn (mkL (aq (nth (am F c.f) i)).size [])) (la:=la) (fun x hx=>by
    obtain⟨⟨o,ho,_⟩,_⟩:=hp.la2 x hx
    exact dN (by simp) (aqI.1 ho).1) hc.sr hc.fr
   have hst0:cq (dn (mkL (aq (nth (am F c.f) i)).size [])) ss (c.H++alX (dn (mkL (aq (nth (am F c.f) i)).size [])) la)=c.H++alX (dn (mkL (aq (nth (am F c.f) i)).size [])) la:=jL fun s hs=>by
    obtain⟨⟨o,ho,_⟩,_⟩:=hp.ss1 s hs
    exact dN (by simp) (aqI.1 ho).1
   refine TRun.sound (T:=T) (S0:=fun _=>True) (fun _ _ h _=>h) (fun _ _=>trivial) (fl:=c.fl) (X:=fun H G w=>FrsOk Z F H G w c.fl c.fs ats) hT hE hI (as3 hns) (kj _) vN Eh hp hnew (pu hc.sr) hc.fl (fun H G w H' G' w' hx hp=>hx.ev hp (aqE _)) (fun n l L G w a hf ho hcl hsz hL k1 k2 k3=>?_) _ _ _ hrun oY (by rw[ef]) (fun t s hs=>.inl (hlow t s hs)) G1 w a (by rw[hst0];exact g1) (by rw[hst0];exact g2) (by rw[hst0];exact hc.frs.ev (fun s v h _=>g3 s v h) (aqE _)) trivial
   rcases hf.resolve_right (fun h=>h.1)with⟨D',q,_,e1,rfl,rfl,rfl,e2,e3,e4,e5⟩|⟨D',q,L0,ss',q1,q2,q3,qW,qS,eC,e2,e3,e4,e5,e6,e7,e8⟩|⟨D',q,j,o,_,_,rfl,rfl,rfl,e2,e2',hrd,ho1,e4,e5⟩
   ·rw[show cq (dn (mkL (aq (nth (am F c.f) i)).size D')) [] (c.H++alX (dn (mkL (aq (nth (am F c.f) i)).size D')) [])=c.H from ark _]at k1 k2 k3
    refine mf _ _ _ _ (ihs q (by omega) _ _ e5 G w a ats fn ⟨k1,k2,hc.fl,k3⟩ hfn c.H G w (.inr ⟨Agr.refl,fun _ _ hx=>hx,fun _=>⟨rfl,rfl,rfl⟩,?_⟩) hcl hns n e2)
    rintro ⟨s,os,h1,h2,h3⟩
    have hlt:=(aqI.1 h1).1
    have:s∈D':=by
     apply aqN
     intro hn
     rw[qA hn hlt]at h3
     cases h3
    have:=e3 s this os h1
    rw[h2]at this
    cases this
   ·have hst:cq (dn l) ss (c.H++alX (dn l) la)=cq (dn l) ss' (c.H++alX (dn l) la):=by
     rcases qS with⟨_,rfl,h⟩|⟨_,rfl,_⟩
     ·exact(jL (ss:=ss') h).symm
     ·rfl
    rw[hst]at k1 k2 k3
    refine Ib (fl:=c.fl) (X:=fun H G w=>FrsOk Z F H G w c.fl c.fs ats) hT hE hI q1 q2 q3 qW (pu hc.sr) e7 hc.fl (by rw[ef]) (fun H G w H' G' w' hx hp=>hx.ev hp (aqE _)) (fun n l G w a r1 r2 r3 r4 r5 r6 u1 u2 u3=>?_) n l e4 hsz e5 e6 hcl G w a k1 (k2.eqv e8) k3
    have hl:l=mkL (aq (nth (am F c.f) i)).size ((la.map (·.i)++ss'.map (·.i))++D'):=by
     refine Array.ext (by rw[r2,ef]) fun k h1 h2=>?_
     rw[show l[k]=l.getD k true by simp[h1],show(mkL (aq (nth (am F c.f) i)).size ((la.map (·.i)++ss'.map (·.i))++D'))[k]=(mkL (aq (nth (am F c.f) i)).size ((la.map (·.i)++ss'.map (·.i))++D')).getD k true by rw[arf,asq h2];rfl]
     by_cases hm:k∈(la.map (·.i)++ss'.map (·.i))++D'
     ·rw[tk hm]
      rcases aq7.1 hm with hm|hm
      ·exact r4 k hm
      ·have:=r3 k (by rw[fp (by rw[ef,←r2];exact h1)];exact tk hm)
       rw[fp h1]at this;exact this
     ·rw[dN hm (by rw[←r2];exact h1)]
      cases hq:l.getD k true with
      |false=>rfl
      |true=>
       exfalso
       rw[aq7,not_or]at hm
       rcases r5 k hq with h|h
       ·rw[dN hm.2 (by rw[←r2];exact h1)]at h;cases h
       ·exact hm.1 h
    subst hl
    have hcu:=D8 (aq (nth (am F c.f) i)).size ((la.map (·.i)++ss'.map (·.i))++D')
    refine te ((aq (nth (am F c.f) i)).size-((la.map (·.i)++ss'.map (·.i))++D').length) n _ _ _ (by omega) (mf _ _ _ _ (ihs q (by omega) _ _ e3 G w a ats fn ⟨u1,u2,by rw[l6,arN];exact aqM hc.fl (Nat.le_add_right _ _),u3⟩ hfn (cq (fun _=>true) ss' (c.H++alX (fun _=>true) la)) G w ?_ r6 hns ((aq (nth (am F c.f) i)).size-((la.map (·.i)++ss'.map (·.i))++D').length) (asL eC)))
    by_cases hsd:storeDone (aq (nth (am F c.f) i)) (mkL (aq (nth (am F c.f) i)).size ((la.map (·.i)++ss'.map (·.i))++D'))
    ·exact .inl ⟨hsd,rfl⟩
    ·exact .inr ⟨Agr.refl,fun _ _ hx=>hx,fun e=>(by cases e),hsd⟩
   ·rw[show cq (dn (mkL (aq (nth (am F c.f) i)).size D')) [] (c.H++alX (dn (mkL (aq (nth (am F c.f) i)).size D')) [])=c.H from ark _]at k1 k2 k3
    have hjr:j∈Region.ready .any (aq (nth (am F c.f) i)) (mkL (aq (nth (am F c.f) i)).size D'):=by rw[hrd];simp
    obtain⟨n',rfl⟩:∃n',n=n'+1:=⟨n-1,by omega⟩
    have hn':n'=(aq (nth (am F c.f) i)).size-(j::D').length:=by simp;omega
    refine pQ hrd (by simp) fun k hk=>?_
    have hk:k=j:=by simpa using hk
    subst hk
    unfold wpOp
    simp only[ho1]
    rcases d8 k2 e5 with⟨L1,h1,hf1,hw⟩|⟨L1,h1,hf1,hw⟩
    ·rw[aqW hw]
     refine .inl ?_
     unfold Oper.wp
     split at h1<;>try (cases h1;done)
     rename_i g ss hin
     obtain⟨f,args,tys,fg,caps,e1,e2,e3,e4,e5,e6,e7⟩:=yU hf1 hin
     have hcl2:dw P g=true:=by unfold dw;rw[hF g fg e2];simp only[e6,e7,aqw]
     rw[iv hcl2 a.eval o f args tys caps e1 e3 w]
     obtain⟨B,hB⟩:=arn.1 e7
     have hbf:am F g=B:=by simp[am,e2,hB]
     have hcal:Calls P g (args.map a.eval++caps) w (eU P F Rt ({f:=c.f,K:=c.K,i:=i,k:=k,L:=wh N c.f i L1,fl:=c.fl,d:=some (k::D')}::c.fs) (a::ats)):=by
      have hto:args.map a.eval++caps=(args.map a.eval++caps).toList.toArray:=by simp
      rw[hto]
      refine enter (hF g fg e2) hB (aqU (by rw[←dG e4];exact e5)) fun a2 hst=>?_
      have:=ihs q (by omega) _ _ h1 G w a2 (a::ats) fg ⟨k1,⟨hst.defers,by rw[hst.size];simp[ntm,e2],j9 e4 hst.slot⟩,aqE _,⟨⟨hf1.defers,hf1.size,fun t s hs=>hf1.slot t s (il hs)⟩,fun t s hs=>by obtain⟨v,_,hv⟩:=hf1.slot t s (il hs);exact ia k1 hv,⟨hc.fl,⟨fn,hfn⟩,fun D hD=>by
       injection hD with hD
       subst hD
       exact⟨hcl.set hjr,hns,by simpa using e2'⟩⟩,k3⟩⟩ e2
      simp only[gV,fU]at this
      rw[hbf]at this
      exact this
     refine Calls.mono hcal ?_
     rintro e w' ⟨v,rfl,fn',o',q1,q2,_,q3⟩
     have q3:=q3 _ rfl
     simp only at q1 q2 q3
     rw[hfn]at q1
     injection q1 with q1
     subst q1
     rw[ho1]at q2
     injection q2 with q2
     subst q2
     refine⟨.inr trivial,?_⟩
     rw[hn']
     exact q3
    ·rw[aqQ (by rw[hw];simp)]
     split at h1<;>try (cases h1;done)
     rename_i L2 hp2
     refine⟨.inr trivial,?_⟩
     rw[hn']
     exact ihs q (by omega) _ _ h1 G w (a.put o.dst undef) ats fn ⟨k1,hf1.put hp2 rfl,hc.fl,k3⟩ hfn (fun _=>True) (fun _ _ _ _=>trivial) (.inr trivial) (hcl.set hjr) hns _ (asL (by simpa using e2'))
  ·-- tbx
   rename_i i D
   clear h
   simp only[gV]
   intro hD0 hns
   subst hD0
   have hlow:∀t s,aV c.L t=some s→s.refsT c.H.length=true:=fun t s hs=>by
    obtain⟨v,_,hv⟩:=hc.fr.slot t s hs
    exact ia hc.sr hv
   obtain⟨la,ss,Φ,hstr,hp,hnew,hdd,hrun⟩:=Zi hT hE (c:=c) (m+1) [] c.L c.H h0 (by rw[D2];rfl) (fun j hj=>by cases hj) hlow oY
   obtain⟨G1,g1,g2,g3⟩:=uc (dn (mkL (aq (nth (am F c.f) i)).size [])) (la:=la) (fun x hx=>by
    obtain⟨⟨o,ho,_⟩,_⟩:=hp.la2 x hx
    exact dN (by simp) (aqI.1 ho).1) hc.sr hc.fr
   have hst0:cq (dn (mkL (aq (nth (am F c.f) i)).size [])) ss (c.H++alX (dn (mkL (aq (nth (am F c.f) i)).size [])) la)=c.H++alX (dn (mkL (aq (nth (am F c.f) i)).size [])) la:=jL fun s hs=>by
    obtain⟨⟨o,ho,_⟩,_⟩:=hp.ss1 s hs
    exact dN (by simp) (aqI.1 ho).1
   have hml:(c.H.map ddJ).length=c.H.length:=ask _
   have hlen:(Φ c.H).length=c.H.length:=by rw[←ask (f:=ddJ),hdd,hml]
   have hlowΦ:kG (Φ c.H).length (Φ c.H):=by rw[hlen];exact H4 (by rw[hdd];exact A5 (pu hc.sr))
   have hlate:∀(j:Nat) (oj:Oper),(aq (nth (am F c.f) i))[j]?=some oj→bz oj=true→dM E (aq (nth (am F c.f) i)) j=false:=fun j oj hoj hal=>by
    unfold dM
    rw[hoj]
    dsimp only
    rw[hal]
    simp
   have hclΦ:c.fl≤(Φ c.H).length:=by rw[hlen];exact hc.fl
   refine TRunB.sound (T:=T) (Hf:=Φ c.H) (fl:=c.fl) (X:=fun H G w=>FrsOk Z F H G w c.fl c.fs ats) hT hE hI (fun n l L j oj hf hcl hj ho hoj hal=>?_) (fun hlo=>by rw[hstr]at hlo;cases hlo) hp (fun s hs=>by rw[hml];exact hnew s hs) (by rw[hml];exact A5 (pu hc.sr)) (by rw[hml];exact hc.fl) (fun H G w H' G' w' hx hp=>hx.ev hp (aqE _)) (fun n l L G w a ho hf hcl hsz hL k1 k2 k3=>?_) _ _ _ _ hrun c.H rfl rfl oY (by rw[ef]) (fun t s hs=>.inl (by rw[hml];exact hlow t s hs)) G1 w a (by rw[hst0];exact g1) (by rw[hst0];exact g2) (by rw[hst0];exact hc.frs.ev (fun s v h _=>g3 s v h) (aqE _))
   ·obtain⟨n',r',x,L',e1,e2,e3,e4,e5,e6,e7,e8⟩:=vN n l L j oj hf hj ho hoj hal
    have hon:=xL ho j (hlate j oj hoj hal)
    exact⟨n',r',x,L',e1,e2,e3,e4,e5,e6,(by rw[hml,←hlen];exact e7),hon,e8.fin hon (hcl.set hj)⟩
   have hnewΦ:∀s∈ss,(Φ c.H).length≤s.j:=fun s hs=>by rw[hlen];exact hnew s hs
   have hpΦ:PlanOk T (aq (nth (am F c.f) i)) (ntm F c.f) (Φ c.H) la ss:=oF hp (fun s hs=>by rw[hml];exact hnew s hs) (by rw[hml];exact hlen)
   rcases hf with⟨D',q,_,e1,rfl,rfl,rfl,e2,e3,e4,e5⟩|⟨D',q,L0,ss',q1,q2,q3,qW,qS,eC,e2,e3,e4,e5,e6,e7,e8⟩|⟨D',q,j,o,_,_,rfl,rfl,rfl,e2,e2',hrd,ho1,e4,e5⟩
   ·rw[show cq (dn (mkL (aq (nth (am F c.f) i)).size D')) [] ((Φ c.H)++alX (dn (mkL (aq (nth (am F c.f) i)).size D')) [])=(Φ c.H) from ark _]at k1 k2 k3
    refine mf _ _ _ _ (ihs q (by omega) _ _ e5 G w a ats fn ⟨k1,k2,hclΦ,k3⟩ hfn (Φ c.H) G w (.inr ⟨Agr.refl,fun _ _ hx=>hx,fun _=>⟨rfl,rfl,rfl⟩,?_⟩) hcl hns n e2)
    rintro ⟨s,os,h1,h2,h3⟩
    have hlt:=(aqI.1 h1).1
    have:s∈D':=by
     apply aqN
     intro hn
     rw[qA hn hlt]at h3
     cases h3
    have:=e3 s this os h1
    rw[h2]at this
    cases this
   ·have hst:cq (dn l) ss ((Φ c.H)++alX (dn l) la)=cq (dn l) ss' ((Φ c.H)++alX (dn l) la):=by
     rcases qS with⟨_,rfl,h⟩|⟨_,rfl,_⟩
     ·exact(jL (ss:=ss') h).symm
     ·rfl
    rw[hst]at k1 k2 k3
    refine Ib (fl:=c.fl) (X:=fun H G w=>FrsOk Z F H G w c.fl c.fs ats) hT hE hI q1 q2 q3 qW hlowΦ e7 hclΦ (by rw[ef]) (fun H G w H' G' w' hx hp=>hx.ev hp (aqE _)) (fun n l G w a r1 r2 r3 r4 r5 r6 u1 u2 u3=>?_) n l e4 hsz e5 e6 hcl G w a k1 (k2.eqv e8) k3
    have hl:l=mkL (aq (nth (am F c.f) i)).size ((la.map (·.i)++ss'.map (·.i))++D'):=by
     refine Array.ext (by rw[r2,ef]) fun k h1 h2=>?_
     rw[show l[k]=l.getD k true by simp[h1],show(mkL (aq (nth (am F c.f) i)).size ((la.map (·.i)++ss'.map (·.i))++D'))[k]=(mkL (aq (nth (am F c.f) i)).size ((la.map (·.i)++ss'.map (·.i))++D')).getD k true by rw[arf,asq h2];rfl]
     by_cases hm:k∈(la.map (·.i)++ss'.map (·.i))++D'
     ·rw[tk hm]
      rcases aq7.1 hm with hm|hm
      ·exact r4 k hm
      ·have:=r3 k (by rw[fp (by rw[ef,←r2];exact h1)];exact tk hm)
       rw[fp h1]at this;exact this
     ·rw[dN hm (by rw[←r2];exact h1)]
      cases hq:l.getD k true with
      |false=>rfl
      |true=>
       exfalso
       rw[aq7,not_or]at hm
       rcases r5 k hq with h|h
       ·rw[dN hm.2 (by rw[←r2];exact h1)]at h;cases h
       ·exact hm.1 h
    subst hl
    have hcu:=D8 (aq (nth (am F c.f) i)).size ((la.map (·.i)++ss'.map (·.i))++D')
    refine te ((aq (nth (am F c.f) i)).size-((la.map (·.i)++ss'.map (·.i))++D').length) n _ _ _ (by omega) (mf _ _ _ _ (ihs q (by omega) _ _ e3 G w a ats fn ⟨u1,u2,by rw[l6,arN];exact aqM hclΦ (Nat.le_add_right _ _),u3⟩ hfn (cq (fun _=>true) ss' ((Φ c.H)++alX (fun _=>true) la)) G w ?_ r6 hns ((aq (nth (am F c.f) i)).size-((la.map (·.i)++ss'.map (·.i))++D').length) (asL eC)))
    by_cases hsd:storeDone (aq (nth (am F c.f) i)) (mkL (aq (nth (am F c.f) i)).size ((la.map (·.i)++ss'.map (·.i))++D'))
    ·exact .inl ⟨hsd,rfl⟩
    ·exact .inr ⟨Agr.refl,fun _ _ hx=>hx,fun e=>(by cases e),hsd⟩
   ·rw[show cq (dn (mkL (aq (nth (am F c.f) i)).size D')) [] ((Φ c.H)++alX (dn (mkL (aq (nth (am F c.f) i)).size D')) [])=(Φ c.H) from ark _]at k1 k2 k3
    have e2:n+D'.length=(aq (nth (am F c.f) i)).size:=e2
    have e2':D'.length+1≤(aq (nth (am F c.f) i)).size:=e2'
    have hjr:j∈Region.ready .any (aq (nth (am F c.f) i)) (mkL (aq (nth (am F c.f) i)).size D'):=by rw[hrd];simp
    obtain⟨n',rfl⟩:∃n',n=n'+1:=⟨n-1,by omega⟩
    have hn':n'=(aq (nth (am F c.f) i)).size-(j::D').length:=by simp;omega
    refine pQ hrd (by simp) fun k hk=>?_
    have hk:k=j:=by simpa using hk
    subst hk
    unfold wpOp
    simp only[ho1]
    rcases d8 k2 e5 with⟨L1,h1,hf1,hw⟩|⟨L1,h1,hf1,hw⟩
    ·rw[aqW hw]
     refine .inl ?_
     unfold Oper.wp
     split at h1<;>try (cases h1;done)
     rename_i g ss hin
     obtain⟨f,args,tys,fg,caps,e1,e2,e3,e4,e5,e6,e7⟩:=yU hf1 hin
     have hcl2:dw P g=true:=by unfold dw;rw[hF g fg e2];simp only[e6,e7,aqw]
     rw[iv hcl2 a.eval o f args tys caps e1 e3 w]
     obtain⟨B,hB⟩:=arn.1 e7
     have hbf:am F g=B:=by simp[am,e2,hB]
     have hcal:Calls P g (args.map a.eval++caps) w (eU P F Rt ({f:=c.f,K:=c.K,i:=i,k:=k,L:=wh N c.f i L1,fl:=c.fl,d:=some (k::D')}::c.fs) (a::ats)):=by
      have hto:args.map a.eval++caps=(args.map a.eval++caps).toList.toArray:=by simp
      rw[hto]
      refine enter (hF g fg e2) hB (aqU (by rw[←dG e4];exact e5)) fun a2 hst=>?_
      have:=ihs q (by omega) _ _ h1 G w a2 (a::ats) fg ⟨k1,⟨hst.defers,by rw[hst.size];simp[ntm,e2],j9 e4 hst.slot⟩,aqE _,⟨⟨hf1.defers,hf1.size,fun t s hs=>hf1.slot t s (il hs)⟩,fun t s hs=>by obtain⟨v,_,hv⟩:=hf1.slot t s (il hs);exact ia k1 hv,⟨hclΦ,⟨fn,hfn⟩,fun D hD=>by
       injection hD with hD
       subst hD
       exact⟨hcl.set hjr,hns,by simpa using e2'⟩⟩,k3⟩⟩ e2
      simp only[gV,fU]at this
      rw[hbf]at this
      exact this
     refine Calls.mono hcal ?_
     rintro e w' ⟨v,rfl,fn',o',q1,q2,_,q3⟩
     have q3:=q3 _ rfl
     simp only at q1 q2 q3
     rw[hfn]at q1
     injection q1 with q1
     subst q1
     rw[ho1]at q2
     injection q2 with q2
     subst q2
     refine⟨.inr trivial,?_⟩
     rw[hn']
     exact q3
    ·rw[aqQ (by rw[hw];simp)]
     split at h1<;>try (cases h1;done)
     rename_i L2 hp2
     refine⟨.inr trivial,?_⟩
     rw[hn']
     exact ihs q (by omega) _ _ h1 G w (a.put o.dst undef) ats fn ⟨k1,hf1.put hp2 rfl,hclΦ,k3⟩ hfn (fun _=>True) (fun _ _ _ _=>trivial) (.inr trivial) (hcl.set hjr) hns _ (asL (by simpa using e2'))
  ·-- tal
   rename_i i D
   clear h
   simp only[gV]
   intro S0 hS0 hSt hclo hns m' hm'
   have hlow:∀t s,aV c.L t=some s→s.refsT c.H.length=true:=fun t s hs=>by
    obtain⟨v,_,hv⟩:=hc.fr.slot t s hs
    exact ia hc.sr hv
   have hrun:=XR hT hE (c:=c) (m+1) D c.L h0 (by omega)
   have e:m'=(aq (nth (am F c.f) i)).size-D.length:=by omega
   subst e
   have key:∀S1:World→Prop,(∀w w',S1 w→Old w w'→S1 w')→S1 w→wpG P (aq (nth (am F c.f) i)) (gi P fn (eU P F Rt c.fs ats) (am F c.f) (fU P fn (eU P F Rt c.fs ats) (am F c.f) c.K)) S1 ((aq (nth (am F c.f) i)).size-D.length) (mkL (aq (nth (am F c.f) i)).size D) a w:=fun S1 hS1 hw1=>by
    refine TRun.sound (T:=T) (S0:=S1) (la:=[]) (ss:=[]) hS1 (fun h=>(h rfl).elim) (fl:=c.fl) (X:=fun H G w=>FrsOk Z F H G w c.fl c.fs ats) hT hE hI (as3 hns) (kj _) (fun _ _ _ _ _ h=>h.elim) (fun _ _ _ _ _ _ h=>h.elim) (N:=ntm F c.f) ⟨List.Pairwise.nil,fun a ha=>(by cases ha),fun s hs=>(by cases hs),List.Pairwise.nil⟩ (fun s hs=>by cases hs) (pu hc.sr) hc.fl (fun H G w H' G' w' hx hp=>hx.ev hp (aqE _)) (fun n l L G w a hf ho hcl hsz hL k1 k2 k3=>?_) _ _ _ hrun hclo (by rw[ef]) (fun t s hs=>.inl (hlow t s hs)) G w a (by rw[show cq (dn (mkL (aq (nth (am F c.f) i)).size D)) [] (c.H++alX (dn (mkL (aq (nth (am F c.f) i)).size D)) [])=c.H from ark _];exact hc.sr) (by rw[show cq (dn (mkL (aq (nth (am F c.f) i)).size D)) [] (c.H++alX (dn (mkL (aq (nth (am F c.f) i)).size D)) [])=c.H from ark _];exact hc.fr) (by rw[show cq (dn (mkL (aq (nth (am F c.f) i)).size D)) [] (c.H++alX (dn (mkL (aq (nth (am F c.f) i)).size D)) [])=c.H from ark _];exact hc.frs) hw1
    rcases hf with h|⟨⟨q,hq,hgo⟩,hrd⟩
    ·exact h.elim
    ·rw[show cq (dn l) [] (c.H++alX (dn l) [])=c.H from ark _]at k1 k2 k3
     exact uS hrd (ihs q (by omega) _ _ hgo G w a ats fn ⟨k1,k2,hc.fl,k3⟩ hfn) _
   rcases hSt with h|h
   ·exact KG _ _ _ _ h (key (fun _=>True) (fun _ _ _ _=>trivial) trivial)
   ·exact key S0 hS0 h
  ·-- ret
   simp only[gV]
   rw[hfn]at h
   dsimp only at h
   split at h<;>try (cases h;done)
   rename_i ss hss
   split at h
   ·rename_i hfs
    rw[hfs]
    have hats:ats=[]:=by
     have:=hc.frs
     rw[hfs]at this
     cases ats with
     |nil=>rfl
     |cons=>exact this.elim
    subst hats
    exact TF hT hc.sr hc.fr hss fun vs hvs=>hRt vs _ _ _ _ _ h hc.sr hvs
   ·rename_i fm fs hfs
    split at h<;>try (cases h;done)
    rename_i o ho
    split at h<;>try (cases h;done)
    rename_i L2 hp hgood
    have hfrs:=hc.frs
    rw[hfs]at hfrs ⊢
    match ats,hfrs with
    |a0::ats,⟨k1,k2,k3,k4⟩=>
     obtain⟨k3,⟨fn',hfn'⟩,k5⟩:=k3
     refine TF hT hc.sr hc.fr hss fun vs hvs=>⟨_,rfl,fn',o,hfn',ho,?_⟩
     have hb:=PA (fun s hs l e=>by subst e;have:=aqO.1 hgood _ hs;simp[SV.good]at this) hvs
     split at h
     ·rename_i hd
      exact⟨fun _=>ih _ _ h G w (a0.put o.dst _) ats fn' ⟨hc.sr,k1.put hp hb,aqM k3 hc.fl,k4⟩ hfn',fun D hD=>(by rw[hd]at hD;cases hD)⟩
     ·rename_i D hd
      refine⟨fun hD=>(by rw[hd]at hD;cases hD),fun D' hD=>?_⟩
      rw[hd]at hD
      injection hD with hD
      subst hD
      obtain⟨d1,d2,d3⟩:=k5 D hd
      exact ih _ _ h G w (a0.put o.dst _) ats fn' ⟨hc.sr,k1.put hp hb,aqM k3 hc.fl,k4⟩ hfn' (fun _=>True) (fun _ _ _ _=>trivial) (.inr trivial) d1 d2 _ (asL d3)
end
end
structure Ctx where
 P:Program
 F:FT
 T:TT
 E:Env
 N:NT
structure Ctx.Ok (C:Ctx):Prop where
 T:dU C.P C.T=true
 E:i9 C.P C.E
 F:∀f fn,fH C.F f=some fn→C.P.funcs[f]?=some fn
 m:C.P.follows .mixedOrders=true
def Ctx.k(C:Ctx)(n:Nat):Nat→Cfg→Option (List RV):=run C.P C.F C.T C.E C.N n
def Ctx.Runs(C:Ctx)(i:Nat)(c:Cfg)(r:List RV):Prop:=∃n,C.k n i c=some r
def Ctx.RunsE(C:Ctx)(i:Nat)(c:Cfg)(r:List RV):Prop:=∃n0,∀n,n0≤n→C.k n i c=some r
def Ctx.go(C:Ctx)(n:Nat)(c:Cfg)(p:Pos):Option (List RV):=Proofs.YtlahabkjhgkkjaaGreat.go C.P C.F C.T C.E C.N (C.k n) 4000 c p
def Ctx.Res(C:Ctx)(f:Nat)(args:List SV)(r:List RV):Prop:=∃n,C.go n (BY f args) (.node 0)=some r
theorem Ctx.Runs.step{C:Ctx}{i:Nat}{c:Cfg}{r:List RV}(h:∃n,C.go n {c with K:=.lp i::c.K} (.node (i+1))=some r):C.Runs i c r:=by
 obtain⟨n,h⟩:=h
 exact⟨n+1,h⟩
def okF(fn:Func)(k:Nat):Bool:=fn.body.isSome&&Nat.ble k fn.ntmps
theorem Jl{C:Ctx}(ok:C.Ok){Z:Nat→Prop}{w0:World}(hI:inv w0){Rt:Ending→World→Prop}{r:List RV}(hRt:∀vs H G w ss tys,wv C.T H ss tys=some r→SR Z w0 H G w→cf (Rel G (Av Z H G) w) ss vs→Rt (.returned (jp vs)) w):
  ∀n i c G w a ats fn,run C.P C.F C.T C.E C.N n i c=some r→CR Z C.F w0 c G w a ats→fH C.F c.f=some fn→InLoop C.P (nth (am C.F c.f) (i+1)) (gi C.P fn (eU C.P C.F Rt c.fs ats) (am C.F c.f) (fU C.P fn (eU C.P C.F Rt c.fs ats) (am C.F c.f) c.K)) a w:=by
 intro n
 induction n with
 |zero=>intro i c G w a ats fn h;simp[run]at h
 |succ n ih=>
  intro i c G w a ats fn h hc hfn
  simp only[run]at h
  have:=Bc ok.T ok.E hI ok.F ok.m hRt (fun i c G w a ats fn h1 h2 h3=>ih i c G w a ats fn h1 h2 h3) 4000 _ _ h G w a ats fn ⟨hc.sr,hc.fr,hc.fl,hc.frs⟩ hfn
  exact InLoop.step this
theorem Ctx.Res.con{C:Ctx}(ok:C.Ok){f:Nat}{fn:Func}{args:List SV}{r:List RV}(h:C.Res f args r)(hfn:fH C.F f=some fn)(hk:okF fn args.length=true):Con C.P f args r:=by
 intro A w vs hI ha
 obtain⟨n,h⟩:=h
 simp only[okF,aqB]at hk
 obtain⟨B,hB⟩:=arn.1 hk.1
 have hbf:am C.F f=B:=by simp[am,hfn,hB]
 let Z:Nat→Prop:=fun b=>A b∨w.heap.size≤b
 have hkp:Keeps A (Av Z [] []) w w:=⟨aqE _,fun b _ hA=>⟨.inl hA,fun j it g h=>by simp at h⟩,fun _ _ _=>rfl⟩
 have ha2:cf (Rel [] (Av Z [] []) w) args vs:=bQ (fun s v h=>dK (h.keep hkp fun j g _ h=>h)) ha
 refine enter (ok.F f fn hfn) hB (aqU (by rw[←dG ha];exact aqD hk.2)) fun a hst=>?_
 have hsr:SR Z w [] [] w:=⟨rfl,atm _ _,fun j it g h=>by simp at h,fun i j it jt g h b _ h1=>by simp at h1,fun b hb=>.inr hb⟩
 let Rt:Ending→World→Prop:=fun e w'=>∃v,e=.returned v∧Below w.heap.size w w'∧tu Z w.heap.size w' r v
 have hRt:∀vs H G w' ss tys,wv C.T H ss tys=some r→SR Z w H G w'→cf (Rel G (Av Z H G) w') ss vs→Rt (.returned (jp vs)) w':=fun vs H G w' ss tys h1 h2 h3=>⟨_,rfl,h2.below,af1 ok.T h2 h1 h3⟩
 have:=Bc ok.T ok.E hI ok.F ok.m hRt (fun i c G w a ats fn h1 h2 h3=>Jl ok hI hRt n i c G w a ats fn h1 h2 h3) 4000 _ _ h [] w a [] fn ⟨hsr,⟨hst.defers,by rw[hst.size];simp[ntm,BY,hfn],j9 ha2 hst.slot⟩,aqE _,trivial⟩ hfn
 simp only[gV,fU,BY]at this
 rw[hbf]at this
 exact this
def FtAll(P:Program):FT→Prop
 |[]=>True
 |p::l=>P.funcs[p.1]?=some p.2∧FtAll P l
theorem FtAll.look{P:Program}:∀{l:FT},FtAll P l→∀f fn,fH l f=some fn→P.funcs[f]?=some fn
 |[],_,f,fn,h=>by simp[fH]at h
 |(k,x)::l,⟨h1,h2⟩,f,fn,h=>by
  simp only[fH]at h
  split at h
  ·rename_i hb
   have:=aqA hb
   subst this
   injection h with h
   subst h
   exact h1
  ·exact FtAll.look h2 f fn h
abbrev KT:=Nat→Cfg→Option (List RV)
theorem apY{C:Ctx}{f:Nat}{args:List SV}{t:KT→Option (List RV)}{r:List RV}(e:∀k,go2 C.P C.F C.T C.E C.N k 4000 (BY f args) (.node 0)=t k)(h:∃n,t (C.k n)=some r):C.Res f args r:=by
 obtain⟨n,h⟩:=h
 exact⟨n,(zy _ _ _ _ _ _ _ _ _).symm.trans ((e _).trans h)⟩
theorem apo{C:Ctx}{i:Nat}{c:Cfg}{t:KT→Option (List RV)}{r:List RV}(e:∀k,go2 C.P C.F C.T C.E C.N k 4000 {c with K:=.lp i::c.K} (.node (i+1))=t k)(h:∃n,t (C.k n)=some r):C.Runs i c r:=by
 obtain⟨n,h⟩:=h
 exact⟨n+1,(zy _ _ _ _ _ _ _ _ _).symm.trans ((e _).trans h)⟩
theorem akH{C:Ctx}{i:Nat}{c:Cfg}{t:KT→Option (List RV)}{r:List RV}(e:∀k,go2 C.P C.F C.T C.E C.N k 4000 {c with K:=.lp i::c.K} (.node (i+1))=t k)(h:∃n0,∀n,n0≤n→t (C.k n)=some r):C.RunsE i c r:=by
 obtain⟨n0,h⟩:=h
 refine⟨n0+1,fun n hn=>?_⟩
 obtain⟨q,rfl⟩:∃q,n=q+1:=⟨n-1,by omega⟩
 exact(zy _ _ _ _ _ _ _ _ _).symm.trans ((e _).trans (h q (by omega)))
@[reducible] def DT:List Ty→Type
 |[]=>Unit
 |t::r=>t.D×DT r
def HH:(ts:List Ty)→List SV→Option (DT ts)
 |[],l=>match l with
  |[]=>some ()
  |_::_=>none
 |t::r,l=>match l with
  |.d u x::m=>match eG u t x with
   |some y=>match HH r m with
    |some z=>some (y,z)
    |none=>none
   |none=>none
  |_=>none
def svs:(ts:List Ty)→DT ts→List SV
 |[],_=>[]
 |t::r,x=>.d t x.1::svs r x.2
theorem tD:∀{ts:List Ty} {l:List SV} {x:DT ts},HH ts l=some x→l=svs ts x
 |[],l,x,h=>by
  cases l with
  |nil=>rfl
  |cons a b=>cases h
 |t::r,l,x,h=>by
  unfold HH at h
  split at h
  ·split at h
   ·rename_i e1
    split at h
    ·rename_i e2
     injection h with h
     subst h
     obtain⟨rfl,rfl⟩:=dh e1
     rw[tD e2]
     rfl
    ·cases h
   ·cases h
  ·cases h
def spN(keep tame:Bool)(ts:List Ty)(pre:DT ts→Bool)(res:DT ts→List RV):aM:={keep:=keep,tame:=tame,run:=fun _ args k=>match HH ts args with
 |some x=>match pre x with
  |true=>k (res x)
  |false=>none
 |none=>none}
theorem aio{P:Program}{f:Nat}{keep tame:Bool}{ts:List Ty}{pre:DT ts→Bool}{res:DT ts→List RV}(hc:dw P f=true)(h:∀x,pre x=true→Con P f (svs ts x) (res x)):dw P f=true∧yI P f (spN keep tame ts pre res)∧∀g,(spN keep tame ts pre res).mut_=some g→Ky P f g:=by
 refine⟨hc,fun R args k r e=>?_,fun g e=>by cases e⟩
 unfold spN at e
 dsimp only at e
 split at e
 ·rename_i x e1
  split at e
  ·rename_i e2
   rw[tD e1]
   exact⟨_,e,h x e2⟩
  ·cases e
 ·cases e
section
open Go.ChangeShapes Go.WideShapes Go.ChangeAt Go.WideMaps Go.WideElems Go.RowKit
theorem QP:ownKnob Tryz.prog.godebug=none:=by kernel_rfl
def Ty.ok:(t:Ty)→t.D→Prop
 |.int k,x=>(Lit.int k x).wf=true
 |.bool,_=>True
 |.str,_=>True
 |.sl e,xs=>xs.length≤9223372036854775807∧∀x∈xs,e.ok x
 |.pair a b,x=>a.ok x.1∧b.ok x.2
 |.st a,x=>a.ok x
def rK(rp:TypeId→Ty→Bool)(cells:TypeId→Nat):List Field→Ty→Nat→Bool
 |[],_,_=>false
 |[f],a,off=>rp f.type a&&Nat.beq f.offset off&&Nat.beq (cells f.type) a.n
 |f::g::fs,.pair a b,off=>rp f.type a&&Nat.beq f.offset off&&Nat.beq (cells f.type) a.n&&rK rp cells (g::fs) b (off+a.n)
 |_,_,_=>false
def Db(rp:Ty→Bool)(n:Nat):Nat→Ty→Bool
 |0,_=>false
 |1,a=>rp a&&Nat.beq a.n n
 |k+2,.pair a b=>rp a&&Nat.beq a.n n&&Db rp n (k+1) b
 |_,_=>false
def rep(P:Program):Nat→TypeId→Ty→Bool
 |0,_,_=>false
 |n+1,t,ty=>match P.underlying t,ty with
  |some (.int k),.int k'=>decide (k=k')
  |some .bool,.bool=>true
  |some .string,.str=>true
  |some (.slice e),.sl ety=>rep P n e ety&&Nat.beq (P.cellsOf e) ety.n&&Nat.ble 1 ety.n
  |some (.struct fs),.st a=>rK (rep P n) P.cellsOf fs.toList a 0&&Nat.beq (P.cellsOf t) a.n
  |some (.array k e),.st a=>Db (rep P n e) (P.cellsOf e) k a&&Nat.beq (P.cellsOf t) a.n
  |_,_=>false
theorem Yh{w:World}{a:Addr}{v:Value}(h:w.cell? a=some v):a.block<w.heap.size∧a.spot=none:=by
 unfold World.cell? at h
 split at h
 ·rename_i hb
  refine⟨(aqI.1 hb).1,?_⟩
  split at h
  ·cases h
  ·rename_i hn;simpa using hn
 ·cases h
theorem Dn{α β:Type}{f:α→Option β}:∀{l:List α} {r:List β},l.mapM f=some r→r.length=l.length∧∀(j:Nat) (y:β),r[j]?=some y→∃x,l[j]?=some x∧f x=some y
 |[],r,h=>by simp at h;subst h;simp
 |x::l,r,h=>by
  rw[List.mapM_cons]at h
  cases hx:f x with
  |none=>rw[hx]at h;simp at h
  |some y=>
   rw[hx]at h
   cases hl:l.mapM f with
   |none=>rw[hl]at h;simp at h
   |some r'=>
    rw[hl]at h
    obtain rfl:y::r'=r:=by simpa using h
    obtain⟨h1,h2⟩:=Dn hl
    refine⟨by simp[h1],fun j z hz=>?_⟩
    cases j with
    |zero=>exact⟨x,rfl,by simpa [hx]using hz⟩
    |succ j=>obtain⟨u,h3,h4⟩:=h2 j z (by simpa using hz);exact⟨u,by simpa using h3,h4⟩
theorem IN{w:World}{base n:Nat}{a:Addr}{l:List Value}(h:w.cells? base a n=some l):l.length=n∧∀(j:Nat) (v:Value),l[j]?=some v→w.cell? (a.add j)=some v:=by
 unfold World.cells? at h
 split at h
 ·obtain⟨h1,h2⟩:=Dn h
  refine⟨by simpa using h1,fun j v hv=>?_⟩
  obtain⟨x,h3,h4⟩:=h2 j v hv
  obtain⟨h5,h6⟩:=aqG.1 h3
  rw[List.getElem_range]at h6
  rw[h6];exact h4
 ·cases h
theorem UJ{α β:Type}{n:Nat}{p:Nat→α→β→Prop}(h:∀i,i<n→∃s t,p i s t):∃(l:List α) (m:List β),l.length=n∧m.length=n∧∀i s t,l[i]?=some s→m[i]?=some t→p i s t:=by
 induction n with
 |zero=>exact⟨[],[],rfl,rfl,fun i s t h=>by simp at h⟩
 |succ n ih=>
  obtain⟨l,m,h1,h2,h3⟩:=ih fun i hi=>h i (by omega)
  obtain⟨s,t,hst⟩:=h n (by omega)
  refine⟨l++[s],m++[t],by simp[h1],by simp[h2],fun i s' t' hs ht=>?_⟩
  rcases aqT i n with hi|hi
  ·rw[aqJ (by omega)]at hs ht
   exact h3 i s' t' hs ht
  ·rw[aqK (by omega)]at hs ht
   have e:i=n:=by
    have:=(aqG.1 hs).1
    simp at this
    omega
   subst e
   rw[h1,arY]at hs
   rw[h2,arY]at ht
   simp at hs ht
   subst hs ht
   exact hst
section
variable {H:Type} {enc:TypeId×Value→H} {P:Program} {w:World} {base:Nat} {spare:Nat→Bool} {held:Bool}
def R1(enc:TypeId×Value→H)(P:Program)(w:World)(base:Nat)(spare:Nat→Bool)(held:Bool)(ty:Ty):Prop:=∀(n:Nat) (t:TypeId),rep P n t ty=true→∀(fuel:Nat) (cs:List Value) (x:DataW H×List MemPlace),cs.length=ty.n→DataW.trod enc P w base spare held fuel t cs=some x→∃y:ty.D,ty.rd (fun _=>True) w cs y∧ty.ok y
def R2(enc:TypeId×Value→H)(P:Program)(w:World)(base:Nat)(spare:Nat→Bool)(held:Bool)(ty:Ty):Prop:=∀(n:Nat) (fs:List Field) (off:Nat) (cs:List Value),rK (rep P n) P.cellsOf fs ty off=true→cs.length=ty.n→(∀f∈fs,off≤f.offset→∃fuel x,DataW.trod enc P w base spare held fuel f.type ((cs.drop (f.offset-off)).take (P.cellsOf f.type))=some x)→∃y:ty.D,ty.rd (fun _=>True) w cs y∧ty.ok y
def R3(enc:TypeId×Value→H)(P:Program)(w:World)(base:Nat)(spare:Nat→Bool)(held:Bool)(ty:Ty):Prop:=∀(n k:Nat) (e:TypeId) (cs:List Value),Db (rep P n e) (P.cellsOf e) k ty=true→cs.length=ty.n→(∀i,i<k→∃fuel x,DataW.trod enc P w base spare held fuel e ((cs.drop (i*P.cellsOf e)).take (P.cellsOf e))=some x)→∃y:ty.D,ty.rd (fun _=>True) w cs y∧ty.ok y
theorem anT{ty:Ty}(h1:R1 enc P w base spare held ty)(hp:∀(n:Nat) (f g:Field) (fs:List Field) (off:Nat) (cs:List Value),rK (rep P n) P.cellsOf (f::g::fs) ty off=true→cs.length=ty.n→(∀q∈f::g::fs,off≤q.offset→∃fuel x,DataW.trod enc P w base spare held fuel q.type ((cs.drop (q.offset-off)).take (P.cellsOf q.type))=some x)→∃y:ty.D,ty.rd (fun _=>True) w cs y∧ty.ok y):R2 enc P w base spare held ty:=by
 intro n fs off cs hr hl hf
 match fs,hr,hf with
 |[],hr,_=>simp[rK]at hr
 |[f],hr,hf=>
  simp only[rK,aqB]at hr
  have ho:=aqA hr.1.2
  have hc:=aqA hr.2
  obtain⟨fuel,x,hx⟩:=hf f (by simp) (by omega)
  rw[ho,arY,hc,ri _ _ hl]at hx
  exact h1 n f.type hr.1.1 fuel cs x hl hx
 |f::g::fs,hr,hf=>exact hp n f g fs off cs hr hl hf
theorem aiB{ty:Ty}(h1:R1 enc P w base spare held ty)(hp:∀(n k:Nat) (e:TypeId) (cs:List Value),Db (rep P n e) (P.cellsOf e) (k+2) ty=true→cs.length=ty.n→(∀i,i<k+2→∃fuel x,DataW.trod enc P w base spare held fuel e ((cs.drop (i*P.cellsOf e)).take (P.cellsOf e))=some x)→∃y:ty.D,ty.rd (fun _=>True) w cs y∧ty.ok y):R3 enc P w base spare held ty:=by
 intro n k e cs hr hl hf
 match k,hr,hf with
 |0,hr,_=>simp[Db]at hr
 |1,hr,hf=>
  simp only[Db,aqB]at hr
  have hc:=aqA hr.2
  obtain⟨fuel,x,hx⟩:=hf 0 (by omega)
  rw[Nat.zero_mul,←hc,ri _ _ hl]at hx
  exact h1 n e hr.1 fuel cs x hl hx
 |k+2,hr,hf=>exact hp n k e cs hr hl hf
theorem Wr:∀(ty:Ty),R1 enc P w base spare held ty∧R2 enc P w base spare held ty∧R3 enc P w base spare held ty:=by
 intro ty
 have ln:∀{ty:Ty},(∀a b,ty≠.pair a b)→R1 enc P w base spare held ty→R1 enc P w base spare held ty∧R2 enc P w base spare held ty∧R3 enc P w base spare held ty:=by
  intro ty hne h1
  refine⟨h1,anT h1 fun n f g fs off cs hr=>?_,aiB h1 fun n k e cs hr=>?_⟩
  ·cases ty<;>first|exact absurd rfl (hne _ _)|simp[rK]at hr
  ·cases ty<;>first|exact absurd rfl (hne _ _)|simp[Db]at hr
 induction ty with
 |int k=>
  refine ln (fun a b e=>by cases e) fun n t hr fuel cs x hl hx=>?_
  cases n with
  |zero=>simp[rep]at hr
  |succ n=>
   unfold rep at hr
   split at hr<;>try (cases hr;done)
   all_goals rename_i hu he<;>cases he
   have:=aqr hr
   subst this
   obtain⟨m,rfl,_,hw⟩:=DataW.trod_int hu hx
   exact⟨m,rfl,hw⟩
 |bool=>
  refine ln (fun a b e=>by cases e) fun n t hr fuel cs x hl hx=>?_
  cases n with
  |zero=>simp[rep]at hr
  |succ n=>
   unfold rep at hr
   split at hr<;>try (cases hr;done)
   all_goals rename_i hu he<;>cases he
   obtain⟨m,rfl,_⟩:=DataW.trod_bool hu hx
   exact⟨m,rfl,trivial⟩
 |str=>
  refine ln (fun a b e=>by cases e) fun n t hr fuel cs x hl hx=>?_
  cases n with
  |zero=>simp[rep]at hr
  |succ n=>
   unfold rep at hr
   split at hr<;>try (cases hr;done)
   all_goals rename_i hu he<;>cases he
   cases fuel with
   |zero=>simp[DataW.trod]at hx
   |succ fuel=>
    unfold DataW.trod at hx
    rw[hu]at hx
    split at hx<;>simp_all
    exact⟨_,rfl,trivial⟩
 |sl e ih=>
  refine ln (fun a b e=>by cases e) fun n t hr fuel cs x hl hx=>?_
  cases n with
  |zero=>simp[rep]at hr
  |succ n=>
   unfold rep at hr
   split at hr<;>try (cases hr;done)
   all_goals rename_i hu he<;>cases he
   simp only[aqB]at hr
   obtain⟨⟨r1,r2⟩,r3⟩:=hr
   have hc:=aqA r2
   have hn0:=aqD r3
   rcases Deep.open_slice hu hx with⟨rfl,_⟩|⟨a,len,cap,m,nn,D,Pl,rfl,hb,hle,hcap,hm,_,hel⟩
   ·exact⟨[],uh,by simp,fun x hx=>by simp at hx⟩
   ·have hlm:len≤m:=by rw[hm];split<;>omega
    have key:∀i,i<len→∃(l:List Value) (y:e.D),(e.rd (fun _=>True) w l y∧e.ok y)∧∀j v,l[j]?=some v→w.cell? ((a.add (i*e.n)).add j)=some v:=by
     intro i hi
     obtain⟨cs',h1,h2⟩:=hel i (by omega)
     rw[hc]at h1
     obtain⟨h3,h4⟩:=IN h1
     obtain⟨y,h5⟩:=ih.1 n _ r1 nn cs' _ h3 h2
     exact⟨cs',y,h5,h4⟩
    obtain⟨css,ys,l1,l2,hk⟩:=UJ key
    have hall:cf (fun l y=>e.rd (fun _=>True) w l y) css ys:=Hn (by omega) fun i l y h1 h2=>(hk i l y h1 h2).1.1
    refine⟨ys,⟨some a,len,cap,css,rfl,l2,hle,hcap,hall,fun h0=>?_⟩,by unfold maxLen at hcap;omega,fun y hy=>?_⟩
    ·obtain⟨l0,hl0⟩:∃l,css[0]?=some l:=⟨_,aqt (by omega)⟩
     obtain⟨y0,hy0,hrd0⟩:=fX hall 0 l0 hl0
     have hlen0:=Ty.rd_len hrd0
     obtain⟨v0,hv0⟩:∃v,l0[0]?=some v:=⟨_,aqt (by omega)⟩
     have hc0:=(hk 0 l0 y0 hl0 hy0).2 0 v0 hv0
     have e0:(a.add (0*e.n)).add 0=a:=by simp[Addr.add]
     rw[e0]at hc0
     obtain⟨h1,h2⟩:=Yh hc0
     obtain⟨b,off,sp⟩:=a
     dsimp only at h1 h2
     subst h2
     refine⟨b,off,rfl,trivial,h1,fun i v hv=>?_⟩
     have hls:=eT hall
     have hi:i<css.flatten.length:=(aqG.1 hv).1
     rw[fC hls,l1]at hi
     have hq:i/e.n<len:=Nat.div_lt_of_lt_mul (by rw[Nat.mul_comm];exact hi)
     obtain⟨l,hl⟩:∃l,css[i/e.n]?=some l:=⟨_,aqt (by omega)⟩
     obtain⟨y,hy,hrd⟩:=fX hall _ l hl
     have hmod:i%e.n<e.n:=as9 _ hn0
     obtain⟨u,hu'⟩:∃u,l[i%e.n]?=some u:=⟨_,aqt (by rw[Ty.rd_len hrd];exact hmod)⟩
     have hfl:=iX hls hl hu'
     have hdm:i/e.n*e.n+i%e.n=i:=by rw[Nat.mul_comm];exact Nat.div_add_mod i e.n
     rw[hdm,hv]at hfl
     injection hfl with hfl
     subst hfl
     have:=(hk _ l y hl hy).2 _ _ hu'
     rw[df,df]at this
     rwa [ar9,hdm]at this
    ·obtain⟨i,hi,rfl⟩:=asB hy
     obtain⟨l,hl,_⟩:=lC hall i _ (aqt hi)
     exact(hk i l _ hl (aqt hi)).1.2
 |st a ih=>
  refine ln (fun a b e=>by cases e) fun n t hr fuel cs x hl hx=>?_
  cases n with
  |zero=>simp[rep]at hr
  |succ n=>
   unfold rep at hr
   split at hr<;>try (cases hr;done)
   all_goals rename_i hu he<;>cases he
   ·simp only[aqB]at hr
    obtain⟨xs,k,rfl,_,_,hlen,hg⟩:=DataW.trod_struct hu hx
    refine ih.2.1 n _ 0 cs hr.1 hl fun f hf _=>?_
    obtain⟨i,hi,rfl⟩:=asB hf
    rename_i fs
    have h1:=hg i _ (by rw[←aru];exact aqt hi)
    obtain⟨y,hy⟩:∃y,xs[i]?=some y:=⟨_,aqt (by rw[hlen];simpa using hi)⟩
    rw[hy]at h1
    exact⟨k,y,by rw[ata];exact h1⟩
   ·simp only[aqB]at hr
    obtain⟨xs,k,rfl,_,_,hlen,hg⟩:=DataW.trod_array hu hx
    refine ih.2.2 n _ _ cs hr.1 hl fun i hi=>?_
    have h1:=hg i hi
    obtain⟨y,hy⟩:∃y,xs[i]?=some y:=⟨_,aqt (by rw[hlen];exact hi)⟩
    rw[hy]at h1
    exact⟨k,y,h1⟩
 |pair a b iha ihb=>
  have h1:R1 enc P w base spare held (.pair a b):=by
   intro n t hr
   cases n with
   |zero=>simp[rep]at hr
   |succ n=>
    unfold rep at hr
    split at hr<;>first|(cases hr;done)|(rename_i he;cases he)
  have cut:∀{cs:List Value} {k m:Nat},cs.length=a.n+b.n→((cs.drop a.n).drop k).take m=(cs.drop (a.n+k)).take m:=fun _=>by rw[atq]
  refine⟨h1,anT h1 fun n f g fs off cs hr hl hf=>?_,aiB h1 fun n k e cs hr hl hf=>?_⟩
  ·simp only[rK,aqB]at hr
   obtain⟨⟨⟨r1,r2⟩,r3⟩,r4⟩:=hr
   have ho:=aqA r2
   have hc:=aqA r3
   simp only[Ty.n]at hl
   obtain⟨fuel,x,hx⟩:=hf f (by simp) (by omega)
   rw[ho,arY,hc,asg]at hx
   obtain⟨y1,k1,k2⟩:=iha.1 n f.type r1 fuel (cs.take a.n) x (by simp;omega) hx
   obtain⟨y2,k3,k4⟩:=ihb.2.1 n (g::fs) (off+a.n) (cs.drop a.n) r4 (by simp;omega) fun q hq hle=>by
    obtain⟨fuel,x,hx⟩:=hf q (by simp only[arc]at hq ⊢;exact .inr hq) (by omega)
    refine⟨fuel,x,?_⟩
    rw[atq,show a.n+(q.offset-(off+a.n))=q.offset-off by omega]
    exact hx
   exact⟨(y1,y2),⟨_,_,(arP a.n cs).symm,k1,k3⟩,k2,k4⟩
  ·simp only[Db,aqB]at hr
   obtain⟨⟨r1,r2⟩,r3⟩:=hr
   have hc:=aqA r2
   simp only[Ty.n]at hl
   obtain⟨fuel,x,hx⟩:=hf 0 (by omega)
   rw[Nat.zero_mul,asg,←hc]at hx
   obtain⟨y1,k1,k2⟩:=iha.1 n e r1 fuel (cs.take a.n) x (by simp;omega) hx
   obtain⟨y2,k3,k4⟩:=ihb.2.2 n (k+1) e (cs.drop a.n) r3 (by simp;omega) fun i hi=>by
    obtain⟨fuel,x,hx⟩:=hf (i+1) (by omega)
    refine⟨fuel,x,?_⟩
    rw[atq,hc,show P.cellsOf e+i*P.cellsOf e=(i+1)*P.cellsOf e by rw[arX];omega]
    exact hx
   exact⟨(y1,y2),⟨_,_,(arP a.n cs).symm,k1,k3⟩,k2,k4⟩
end
end
theorem bi{x:Int}(h1: -9223372036854775808≤x)(h2:x≤9223372036854775807):i64.wrap x=x:=IntWalk.i64_in x ⟨h1,h2⟩
theorem cG{k:Nat}(h:k+1≤9223372036854775807):i64.wrap ((k:Int)+1)=((k+1:Nat):Int):=by rw[bi (by omega) (by omega)];simp
theorem aI{α:Type}(xs:List α)(k:Nat):bu xs (k:Int)=xs[k]?:=by unfold bu;rw[aqs (by omega)];rfl
theorem xI{α:Type}(xs:List α):bu xs 0=xs[0]?:=aI xs 0
theorem cd{k n:Nat}(h:k<n):decide ((k:Int)<(n:Int))=true:=aqs (by omega)
theorem cF{k n:Nat}(h:n≤k):decide ((k:Int)<(n:Int))=false:=aqu (by omega)
theorem jS{α:Type}{xs:List α}{k:Nat}(h:k<xs.length):xs.drop k=xs[k]::xs.drop (k+1):=aqP h
theorem MR{α:Type}{xs:List α}{k:Nat}(h:xs.length≤k):xs.drop k=[]:=arm h
theorem aO(k:Nat):((k:Int)).toNat=k:=ar8 k
theorem ah4{m b:Nat}(hb:b≤1000)(h:m≤1000000):decide ((m+1)*b≤140737488355328∧m+1≤140737488355328)=true:=by
 have:(m+1)*b≤1000001*1000:=asH (by omega) hb
 exact aqs ⟨by omega,by omega⟩
end Go.Proofs.YtlahabkjhgkkjaaGreat
end
