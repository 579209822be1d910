/- Regions of calls whose results are data: one order stands for all, the proof. -/
import Derived.Test.YtnkndpoojnflmaaGreatH4
noncomputable section
namespace Go.Proofs.YtnkndpoojnflmaaGreat
open Go.RowKit Go.IntKind
theorem ani:type_of% @Region.free_spec:=@Region.free_spec
theorem aoi:type_of% @Oper.apart_spec:=@Oper.apart_spec
section
section
variable {P:Program} {T:TT} {R:Type}
theorem w8{L:SL}{o:Oper}{k:SV→Option R}{r:R}(h:mh P L o k=some r):∃s,k s=some r∧mh P L o some=some s:=by
 unfold mh at h ⊢
 repeat' (split at h)
 all_goals first
  |(cases h;done)
  |exact⟨_,h,by simp[*]⟩
  |exact⟨_,h,rfl⟩
theorem TM{L:SL}{H:List Item}{o:Oper}{k:SV→Option R}{r:R}(hq:ld o.op=true)(h:qop P T true L H o k=some r):∃s,k s=some r∧qop P T true L H o some=some s:=by
 unfold qop at h ⊢
 split at h
 all_goals (repeat' (split at h))
 all_goals first
  |(cases h;done)
  |exact⟨_,h,by simp[*]⟩
  |exact⟨_,h,rfl⟩
  |exact w8 h
  |(obtain⟨s,h1,h2⟩:=w8 h;exact⟨s,h1,by simp[*]⟩)
  |(exfalso;simp[ld, *]at hq;done)
end
section
variable {P:Program} {T:TT} {R:Type}
theorem V2{H X:List Item}{j:Nat}{it:Item}(h:H[j]?=some it):(H++X)[j]?=some it:=by grind
theorem FO{H X:List Item}{s:SV}{l:List SV}(h:gf H s=some l):gf (H++X) s=some l:=by
 unfold gf at h ⊢
 grind
theorem z4{H X:List Item}{L:SL}{place:Nat→Option (Nat×Nat)}:∀{ps:List (Nat×Operand)} {cs cs':List SV},qQ H L place cs ps=some cs'→qQ (H++X) L place cs ps=some cs'
 |[],_,_,h=>h
 |(i,x)::r,cs,cs',h=>by
  simp only[qQ]at h ⊢
  split at h<;>try (cases h;done)
  rename_i h1 h2
  split at h<;>try (cases h;done)
  rename_i l hl
  split at h<;>try (cases h;done)
  rename_i hb
  simp only[FO hl,hb]
  exact z4 h
theorem D6{H X:List Item}:∀{ss:List SV} {tys:List Nat} {al:List SV},ss.all SV.noOwn=true→mr T H ss tys=some al→mr T (H++X) ss tys=some al
 |[],[],_,_,h=>h
 |[],_::_,_,_,h=>by simp[mr]at h
 |_::_,[],_,_,h=>by simp[mr]at h
 |s::l,t::ts,al,hn,h=>by
  simp only[aor,alJ]at hn
  simp only[mr]at h ⊢
  split at h<;>try (cases h;done)
  rename_i r hr
  rw[D6 hn.2 hr]
  cases s<;>first
   |exact h
   |(exfalso;have:=hn.1;simp[SV.noOwn]at this;done)
theorem G9{L:SL}{H X:List Item}{o:Oper}{s:SV}(hq:ld o.op=true)(h:qop P T true L H o some=some s):qop P T true L (H++X) o some=some s:=by
 have hq':∀op t x y u,o.op=.binOp op t x y u→IW op y=none:=fun op t x y u e=>by
  rw[e]at hq
  simpa [ld,isQ]using hq
 unfold qop at h ⊢
 split at h
 all_goals (try (rename_i hop;simp only[hq' _ _ _ _ _ hop]at h ⊢;exact h))
 all_goals (try (rename_i hop;simp only at h ⊢;exact h))
 all_goals (repeat' (split at h))
 all_goals first
  |(cases h;done)
  |exact h
  |(simp only[*];done)
  |(have hx:=V2 (X:=X) (by assumption:H[_]?=some _);simp only[*];done)
  |(simp[*];done)
  |(have hx:=z4 (X:=X) (by assumption:qQ H _ _ _ _=some _);simp only[*];done)
end
theorem ct{d:Nat}{s:SV}{L:SL}{t:Nat}:aN ((d,s)::nP L d) t=if t=d then some s else aN L t:=eo
theorem NW{L:SL}{t:Nat}:∀{ts:List Nat},t∈ts→aN (hU L ts) t=aN L t:=by
 intro ts ht
 cases hl:aN L t with
 |none=>
  cases hs:aN (hU L ts) t with
  |none=>rfl
  |some s=>rw[gY hs]at hl;cases hl
 |some s=>
  induction ts with
  |nil=>cases ht
  |cons u us ih=>
   simp only[hU]
   by_cases hu:u=t
   ·grind [aN,aoh]
   ·have hb:Nat.beq u t=false:=by
     grind [alK]
    split
    ·grind [aN]
    grind
theorem dP{L M:SL}:∀{ts:List Nat},(∀t∈ts,aN L t=aN M t)→hU L ts=hU M ts
 |[],_=>rfl
 |u::us,h=>by
  simp only[hU]
  rw[h u (by simp),dP (ts:=us) fun t ht=>h t (by simp[ht])]
theorem pF{R:Type}{ops:Array Oper}{L:SL}{o:Oper}{yes no:SL→Option R}{r:R}(h:da ops L o yes no=some r):
  (∃L',(∀t,aN L' t=aN L t)∧yes L'=some r∧da ops (hU L (o.looksAt ops)) o (fun _=>some true) (fun _=>some false)=some true)∨(∃L',(∀t,aN L' t=aN L t)∧no L'=some r∧da ops (hU L (o.looksAt ops)) o (fun _=>some true) (fun _=>some false)=some false):=by
 unfold da at h
 split at h
 ·rename_i hg
  exact .inl ⟨L,fun _=>rfl,h,by unfold da;rw[hg]⟩
 ·rename_i j want hg
  split at h<;>try (cases h;done)
  rename_i d hd
  have hm:d∈o.looksAt ops:=by unfold Oper.looksAt;rw[hg];simp[hd]
  have hl:=NW (L:=L) hm
  split at h
  ·rename_i b hb
   have hy:∀b':Bool,b=b'→∀t,aN ((d,.d .bool b')::nP L d) t=aN L t:=fun b' e t=>by
    subst e
    rw[ct]
    split
    ·rename_i e;subst e;exact hb.symm
    ·rfl
   split at h
   ·split at h
    ·exact .inl ⟨_,hy true rfl,h,by unfold da;simp only[hg,hd,hl,hb]⟩
    ·exact .inr ⟨_,hy true rfl,h,by unfold da;simp only[hg,hd,hl,hb]⟩
   ·split at h
    ·exact .inr ⟨_,hy false rfl,h,by unfold da;simp only[hg,hd,hl,hb]⟩
    ·exact .inl ⟨_,hy false rfl,h,by unfold da;simp only[hg,hd,hl,hb]⟩
  ·grind [da]
  ·cases h
def StepF(P:Program)(H:List Item)(ops:Array Oper)(Lr:SL)(o:Oper)(j:Nat)(s:SV):Prop:=
 ∀(X:List Item) (Z:Nat→Prop) (w0:World) (n:Nat) (G:List Value) (w:World) (a:Act) (Q:Exit→Act→World→Prop) (K:Act→World→Prop),inv w0→SR Z w0 (H++X) G w→FR Z n Lr (H++X) G w a→
  (∀v G' w',Old w w'→SR Z w0 (H++X) G' w'→(∀s' v',Rel1 G (Av Z (H++X) G) w s' v'→Rel1 G' (Av Z (H++X) G') w' s' v')→Rel G' (Av Z (H++X) G') w' s v→K (a.put o.dst v) w')→wpOp P ops Q j K a w
theorem StepF.ext{P:Program}{H:List Item}{ops:Array Oper}{Lr:SL}{o:Oper}{j:Nat}{s:SV}(h:StepF P H ops Lr o j s)(X:List Item):StepF P (H++X) ops Lr o j s:=by
 intro Y Z w0 n G w a Q K
 rw[al7]
 exact h (X++Y) Z w0 n G w a Q K
def StepP(P:Program)(H:List Item)(ops:Array Oper)(Lr:SL)(o:Oper)(s:SV):Prop:=
 ∀(X:List Item) (Z:Nat→Prop) (w0:World) (n:Nat) (G:List Value) (w:World) (a:Act),SR Z w0 (H++X) G w→FR Z n Lr (H++X) G w a→∃v,YieldsIf P ops (fun _=>True) o v a∧Rel G (Av Z (H++X) G) w s v
theorem StepP.ext{P:Program}{H:List Item}{ops:Array Oper}{Lr:SL}{o:Oper}{s:SV}(h:StepP P H ops Lr o s)(X:List Item):StepP P (H++X) ops Lr o s:=by
 intro Y Z w0 n G w a
 rw[al7]
 exact h (X++Y) Z w0 n G w a
section
variable {P:Program} {T:TT} {E:Env} {H:List Item} {ops:Array Oper} {R:Type}
theorem Fh{rs:List RV}{s:SV}(h:aaO rs=some s):uC H rs (fun s H'=>some (s,H'))=some (s,H):=by
 unfold aaO at h
 split at h
 ·injection h with h;subst h;rfl
 ·cases h
 grind [uC]
theorem Fc{Lr:SL}{o:Oper}(hg:da ops Lr o (fun _=>some true) (fun _=>some false)=some false):StepP P H ops Lr o .undef:=by
 intro X Z w0 n G w a hr hf
 have want:Region.wanted o (yielded ops a.tmps)=false:=by
  grind [fA]
 exact⟨undef,.inr ⟨want,rfl⟩,rfl⟩
theorem Ch{Lr:SL}{o:Oper}{j:Nat}{k:SV→Option R}{r:R}(hT:fb P T=true)(hE:lz P E)(hops:ops[j]?=some o)(hg:da ops Lr o (fun _=>some true) (fun _=>some false)=some true)(h:tq P T E Lr H o k=some r):
  ∃s,k s=some r∧StepF P H ops Lr o j s∧(zo o=true→StepP P H ops Lr o s):=by
 have want:∀{H:List Item} {Z:Nat→Prop} {n:Nat} {G:List Value} {w:World} {a:Act},FR Z n Lr H G w a→Region.wanted o (yielded ops a.tmps)=true:=fun hf=>by
  rcases fA hf hg with⟨_,_,_,h3⟩|⟨_,h1,_,_⟩
  ·exact h3
  ·cases h1
 unfold tq at h
 split at h
 ·rename_i hq
  obtain⟨s,h1,h2⟩:=TM hq h
  refine⟨s,h1,fun X Z w0 n G w a Q K hI hr hf hK=>?_,fun hp X Z w0 n G w a hr hf=>?_⟩
  rotate_left
  ·obtain⟨s',v,g1,g2,g3⟩:=mo hT hr hf (G9 (X:=X) hq h2)
   injection g1 with g1
   subst g1
   refine⟨v,.inl ⟨want hf,fun w' _=>g3 w' fun hl=>?_⟩,g2⟩
   unfold zo at hp
   rw[hl]at hp
   simp at hp
  obtain⟨s',v,g1,g2,g3⟩:=mo hT hr hf (G9 (X:=X) hq h2)
  injection g1 with g1
  subst g1
  unfold wpOp
  simp only[hops]
  rw[ama (want hf)]
  refine .inl ?_
  unfold Oper.wp
  rw[g3 w (fun _=>Agr.refl)]
  exact hK v G w (Old.refl w) hr (fun _ _ h=>h) g2
 ·split at h
  ·rename_i f args tys ht ho
   unfold YC at h
   split at h<;>try (cases h;done)
   rename_i sp hsp
   obtain⟨hcl,hok,_⟩:=hE f sp hsp
   split at h<;>try (cases h;done)
   rename_i ss hss
   split at h<;>try (cases h;done)
   rename_i al hal hno
   obtain⟨rs,hk,hcon⟩:=hok _ _ _ _ h
   split at hk<;>try (cases hk;done)
   rename_i s hs
   refine⟨s,hk,fun X Z w0 n G w a Q K hI hr hf hK=>?_,fun hp=>by
    unfold zo at hp
    rw[‹ld o.op=false›]at hp
    cases hp⟩
   have hrel:ck (Rel1 [] (Av Z (H++X) G) w) al (args.toList.map a.eval):=by
    refine oG (A:=Av Z (H++X) G) (ss0:=ss) hr (fun _ _ h=>h) (.inr ?_) (fun s hs=>hs) (D6 hno hal) (mH hf hss)
    intro s hs
    exact al4.1 hno _ hs
   unfold wpOp
   simp only[hops]
   rw[ama (want hf)]
   refine .inl ?_
   unfold Oper.wp
   rw[mz hcl a.eval o (.func f) args tys #[] ho rfl w]
   have e1:Array.map a.eval args++ #[]=(args.toList.map a.eval).toArray:=by obtain⟨l⟩:=args;simp
   rw[e1]
   refine(hcon _ w _ (qA hI hr.below) hrel).mono ?_
   rintro e w' ⟨v,rfl,hb,hres⟩
   obtain⟨s',H',G',k1,k2,k3,k4,k5⟩:=nN hr hf hb hres (.inl fun _ _ h=>h) (Fh hs) (H++X).length false false
   injection k1 with k1
   injection k1 with k1 k1'
   subst k1 k1'
   refine hK v G' w' ⟨hb.size,fun b hbs=>hb.block b hbs⟩ k2 (fun s' v' h=>k5.pres s' v' h fun i hi=>yc (sL hr h) hi) k4
  ·cases h
theorem qY{Lr:SL}{o:Oper}{j:Nat}(hops:ops[j]?=some o)(hg:da ops Lr o (fun _=>some true) (fun _=>some false)=some false):StepF P H ops Lr o j .undef:=by
 intro X Z w0 n G w a Q K hI hr hf hK
 have want:Region.wanted o (yielded ops a.tmps)=false:=by
  grind [fA]
 unfold wpOp
 simp only[hops]
 rw[al3 (by rw[want];simp)]
 exact hK undef G w (Old.refl w) hr (fun _ _ h=>h) rfl
inductive TRun (P:Program) (E:Env) (ops:Array Oper) (N:Nat) (H:List Item) (lo:Bool) (Stp Fin:Nat→Array Bool→SL→Prop):Nat→Array Bool→SL→Prop
 |done {n:Nat} {l:Array Bool} {L:SL}:fB E ops l=true→Fin n l L→TRun P E ops N H lo Stp Fin n l L
 |stop {n:Nat} {l:Array Bool} {L:SL}:Region.ready .any ops l=[]→Stp n l L→TRun P E ops N H lo Stp Fin n l L
 |step {n:Nat} {l:Array Bool} {L L':SL} {j:Nat} {o:Oper} {d:Nat} {s:SV}:j∈Region.ready .any ops l→(jh E ops j=true∨StepP P H ops (hU L (o.looksAt ops)) o s∨lo=true)→eu E ops j=true→ops[j]?=some o→o.dst=some d→d<N→Region.free .any ops l j=true→StepF P H ops (hU L (o.looksAt ops)) o j s→
   s.refsT H.length=true→(∀t,aN L' t=if t=d then some s else aN L t)→TRun P E ops N H lo Stp Fin n (l.setIfInBounds j true) L'→TRun P E ops N H lo Stp Fin (n+1) l L
variable {N:Nat} {lo:Bool} {Stp Fin:Nat→Array Bool→SL→Prop}
theorem pk{l:Array Bool}(hc:Clo ops l)(h:fB E ops l=true){j:Nat}(hj:j∈Region.ready .any ops l):eu E ops j=false:=by
 obtain⟨h1,o,h2,h3⟩:=amM.1 hj
 have:=al4.1 h j (List.mem_range.2 (alZ.1 h2).1)
 grind [kV]
theorem yZ{l:Array Bool}(h:fB E ops l=true)(j:Nat)(hj:eT E ops j=false):fB E ops (l.setIfInBounds j true)=true:=by
 refine al4.2 fun k hk=>?_
 have:=al4.1 h k hk
 by_cases hjk:j=k
 ·simp_all
 ·rw[aog true hjk]
  simp only[anT]at this ⊢
  rcases this with h1|h1
  ·exact .inl h1
  ·refine .inr ?_
   rw[List.any_eq_true]at h1 ⊢
   obtain⟨s,hs,hb⟩:=h1
   refine⟨s,hs,?_⟩
   simp only[alJ]at hb ⊢
   have hne:j≠s:=fun e'=>by rw[←e',hj]at hb;cases hb.1.1
   simp_all
theorem xL{l:Array Bool}(hc:Clo ops l){i j:Nat}(h:jh E ops i=true)(hi:l.getD i true=false)(hj:j∈Region.ready .any ops l):eT E ops j=false:=by
 obtain⟨_,o,ho,hall⟩:=amM.1 hj
 have h1:=al4.1 h j (by simpa using(alZ.1 ho).1)
 grind [uj]
theorem mi{l:Array Bool}{i j:Nat}{oi:Oper}(h2:ops[i]?=some oi)(_hjun:l.getD j true=false)(h5:Region.free .any ops l i=true):Region.free .any ops (l.setIfInBounds j true) i=true:=by
 have hjn:∀k,(l.setIfInBounds j true).getD k true=false→l.getD k true=false:=fun k hk=>by
  by_cases hjk:j=k<;>simp_all
 grind [Region.free]
theorem iX{o:Oper}(h:aZ o=true):fJ E o=false:=by
 unfold aZ at h
 unfold fJ ld D1
 cases hop:o.op<;>rw[hop]at h<;>simp at h
 rfl
theorem qP{o:Oper}(h:fJ E o=true):dY o.op=false:=by
 cases hop:o.op with
 |store=>unfold fJ ld D1 at h;rw[hop]at h;simp[isQ]at h
 |call c=>
  obtain⟨f,x,y⟩:=c
  cases f with
  |builtin b=>cases b<;>first|rfl|(unfold fJ ld D1 at h;rw[hop]at h;simp[isQ]at h)
  |_=>rfl
 |_=>rfl
theorem TRun.any{n:Nat}{l:Array Bool}{L:SL}(h:TRun P E ops N H lo Stp Fin n l L):Clo ops l→∀{j:Nat},j∈Region.ready .any ops l→eu E ops j=true→
  ∃(n':Nat) (o:Oper) (d:Nat) (s:SV) (L':SL),n=n'+1∧ops[j]?=some o∧o.dst=some d∧d<N∧StepF P H ops (hU L (o.looksAt ops)) o j s∧s.refsT H.length=true∧(∀t,aN L' t=if t=d then some s else aN L t)∧TRun P E ops N H lo Stp Fin n' (l.setIfInBounds j true) L':=by
 induction h with
 |done h1 h2=>intro hcl j hj hs;rw[pk hcl h1 hj]at hs;cases hs
 |stop h1 h2=>intro _ j hj;rw[h1]at hj;cases hj
 | @step n l L L1 i oi di si h1 h0 h0' h2 h3 h4 h5 h6 hrf h7 h8 ih=>
  intro hcl j hj hst
  by_cases hji:j=i
  ·subst hji
   exact⟨n,oi,di,si,L1,rfl,h2,h3,h4,h6,hrf,h7,h8⟩
  ·obtain⟨n',oj,dj,sj,L2,e1,g2,g3,g4,g6,grf,g7,g8⟩:=ih (hcl.set h1) (am7 hj hji) hst
   have hjun:=(amM.1 hj).1
   have hap:=ani h2 h5 j oj g2 hji hjun (eG h1 hj g2)
   obtain⟨a1,a2,a3⟩:=aoi hap
   have b1:=a1 di h3
   have b2:dj≠di:=fun e=>a2 di h3 (by rw[g3,e])
   have b3:=a3 dj g3
   have c1:StepF P H ops (hU L (oj.looksAt ops)) oj j sj:=by
    rw[←dP (L:=L1) (M:=L) fun t ht=>by rw[h7 t,al3 (fun e=>b1 (by rw[←e];exact ht))]]
    exact g6
   refine⟨n,oj,dj,sj,(dj,sj)::nP L dj,rfl,g2,g3,g4,c1,grf,fun t=>ct,?_⟩
   rw[e1]
   refine .step (j:=i) (L':=L2) (am7 h1 (ano hji)) ?_ h0' h2 h3 h4 (mi h2 hjun h5) ?_ hrf (fun t=>?_) ?_ (s:=si)
   ·rw[dP (M:=L) fun t ht=>by rw[ct,al3 (fun e=>b3 (by rw[←e];exact ht))]]
    exact h0
   ·rw[dP (M:=L) fun t ht=>by rw[ct,al3 (fun e=>b3 (by rw[←e];exact ht))]]
    exact h6
   ·rw[g7 t,h7 t,ct]
    by_cases e1:t=dj
    ·subst e1;rw[ama rfl,al3 b2];rw[ama rfl]
    ·rw[al3 e1,al3 e1]
   ·rw[amC _ _ hji]
    exact g8
theorem TRun.alloc{la:List AlA}(hFin:∀n l L j oj,Fin n l L→j∈Region.ready .any ops l→fB E ops l=true→ops[j]?=some oj→aZ oj=true→∃n' r a L',n=n'+1∧la[r]?=some a∧a.i=j∧oj.dst=some a.d∧a.d<N∧(∃x,oj.op=.alloc a.t∧dD T a.t=some x∧x.z=true∧(∀p q,x.ty≠.pair p q)∧a.cs=x.ty.zsplit)∧(∀t,aN L' t=if t=a.d then some (.box (H.length+r) 0)else aN L t)∧TRun P E ops N H lo Stp Fin n' (l.setIfInBounds j true) L')
  {n:Nat} {l:Array Bool} {L:SL} (h:TRun P E ops N H lo Stp Fin n l L):Clo ops l→∀{j:Nat} {oj:Oper},j∈Region.ready .any ops l→ops[j]?=some oj→aZ oj=true→
  ∃(n' r:Nat) (a:AlA) (L':SL),n=n'+1∧la[r]?=some a∧a.i=j∧oj.dst=some a.d∧a.d<N∧(∃x,oj.op=.alloc a.t∧dD T a.t=some x∧x.z=true∧(∀p q,x.ty≠.pair p q)∧a.cs=x.ty.zsplit)∧(∀t,aN L' t=if t=a.d then some (.box (H.length+r) 0)else aN L t)∧TRun P E ops N H lo Stp Fin n' (l.setIfInBounds j true) L':=by
 induction h with
 |done h1 h2=>intro _ j oj hj hoj hal;exact hFin _ _ _ _ _ h2 hj h1 hoj hal
 |stop h1 h2=>intro _ j oj hj;rw[h1]at hj;cases hj
 | @step n l L L1 i oi di si h1 h0 h0' h2 h3 h4 h5 h6 hrf h7 h8 ih=>
  intro hcl j oj hj hoj hal
  by_cases hji:j=i
  ·exfalso
   subst hji
   unfold eu at h0'
   rw[hoj]at h0'
   dsimp only at h0'
   rw[iX hal]at h0'
   cases h0'
  ·obtain⟨n',r,x,L2,e1,e2,e3,g3,g4,g5,g7,g8⟩:=ih (hcl.set h1) (am7 hj hji) hoj hal
   have hjun:=(amM.1 hj).1
   have hap:=ani h2 h5 j oj hoj hji hjun (eG h1 hj hoj)
   obtain⟨a1,a2,a3⟩:=aoi hap
   have b2:x.d≠di:=fun e=>a2 di h3 (by rw[g3,e])
   have b3:=a3 x.d g3
   refine⟨n,r,x,(x.d,.box (H.length+r) 0)::nP L x.d,rfl,e2,e3,g3,g4,g5,fun t=>ct,?_⟩
   rw[e1]
   refine .step (j:=i) (L':=L2) (am7 h1 (ano hji)) ?_ h0' h2 h3 h4 (mi h2 hjun h5) ?_ hrf (fun t=>?_) ?_ (s:=si)
   ·rw[dP (M:=L) fun t ht=>by rw[ct,al3 (fun e=>b3 (by rw[←e];exact ht))]]
    exact h0
   ·rw[dP (M:=L) fun t ht=>by rw[ct,al3 (fun e=>b3 (by rw[←e];exact ht))]]
    exact h6
   ·rw[g7 t,h7 t,ct]
    by_cases e1:t=x.d
    ·subst e1;rw[ama rfl,al3 b2];rw[ama rfl]
    ·rw[al3 e1,al3 e1]
   ·rw[amC _ _ hji]
    exact g8
theorem TRun.store{ss:List AlS}(hFin:∀n l L j oj,Fin n l L→Clo ops l→j∈Region.ready .any ops l→fB E ops l=true→ops[j]?=some oj→eT E ops j=true→∃n' s,n=n'+1∧s∈ss∧s.i=j∧qK T L s oj∧TRun P E ops N H lo Stp Fin n' (l.setIfInBounds j true) L)
  {n:Nat} {l:Array Bool} {L:SL} (h:TRun P E ops N H lo Stp Fin n l L):Clo ops l→∀{j:Nat} {oj:Oper},j∈Region.ready .any ops l→ops[j]?=some oj→eT E ops j=true→
  ∃(n':Nat) (s:AlS),n=n'+1∧s∈ss∧s.i=j∧qK T L s oj∧TRun P E ops N H lo Stp Fin n' (l.setIfInBounds j true) L:=by
 induction h with
 |done h1 h2=>intro hcl j oj hj hoj hal;exact hFin _ _ _ _ _ h2 hcl hj h1 hoj hal
 |stop h1 h2=>intro _ j oj hj;rw[h1]at hj;cases hj
 | @step n l L L1 i oi di si h1 h0 h0' h2 h3 h4 h5 h6 hrf h7 h8 ih=>
  intro hcl j oj hj hoj hal
  by_cases hji:j=i
  ·exfalso
   subst hji
   unfold eu at h0'
   unfold eT at hal
   rw[hoj]at h0' hal
   dsimp only at h0' hal
   rw[h0']at hal
   cases hal
  ·obtain⟨n',s,e1,e2,e3,g5,g8⟩:=ih (hcl.set h1) (am7 hj hji) hoj hal
   have hjun:=(amM.1 hj).1
   have hap:=ani h2 h5 j oj hoj hji hjun (eG h1 hj hoj)
   obtain⟨a1,a2,a3⟩:=aoi hap
   have b1:=a1 di h3
   refine⟨n,s,rfl,e2,e3,?_,?_⟩
   ·obtain⟨t,x,v,sv,y,q1,q2,q3,q4,q5,q6⟩:=g5
    have hop:∀{z:Operand} {sz:SV},(∀u,z=.tmp u→u∈oj.looksAt ops)→opS L1 z=some sz→opS L z=some sz:=by
     intro z sz hz he
     cases z with
     |tmp u=>
      simp only[opS]at he ⊢
      rw[h7 u,al3 (fun e=>b1 (by rw[←e];exact hz u rfl))]at he
      exact he
     |_=>exact he
    refine⟨t,x,v,sv,y,q1,q2,q3,hop (fun u hu=>?_) q4,hop (fun u hu=>?_) q5,q6⟩
    ·unfold Oper.looksAt;rw[q1,hu];simp[Op.operands]
    ·unfold Oper.looksAt;rw[q1,hu];simp[Op.operands]
   ·rw[e1]
    refine .step (j:=i) (L':=L1) (am7 h1 (ano hji)) h0 h0' h2 h3 h4 (mi h2 hjun h5) h6 hrf h7 ?_ (s:=si)
    rw[amC _ _ hji]
    exact g8
theorem tJ{f:Nat→Bool}{H Y:List Item}:∀{ss:List AlS},(∀s∈ss,H.length≤s.j)→∃X,cG f ss (H++Y)=H++X
 |[],_=>⟨Y,rfl⟩
 |s::r,h=>by
  obtain⟨X,hX⟩:=tJ (f:=f) (H:=H) (Y:=Y) (ss:=r) fun s hs=>h s (by simp[hs])
  simp only[cG]
  rw[hX]
  split
  ·unfold stP
   split
   ·rename_i bt cells hb
    rw[List.set_append,al3 (by have:=h s (by simp);omega)]
    exact⟨_,rfl⟩
   ·exact⟨X,rfl⟩
  ·exact⟨X,rfl⟩
theorem FR.eqv{Z:Nat→Prop}{n:Nat}{L M:SL}{H:List Item}{G:List Value}{w:World}{a:Act}(h:FR Z n L H G w a)(he:∀t,aN L t=aN M t):FR Z n M H G w a:=
 ⟨h.defers,h.size,fun t s hs=>h.slot t s (by rw[he t];exact hs)⟩
theorem yn{Q:Exit→Act→World→Prop}{S0:World→Prop}:∀(n:Nat) (l:Array Bool) (a:Act) (w:World),wpG P ops Q S0 n l a w→wpG P ops Q (fun _=>True) n l a w
 |0,_,_,_,h=>h
 |n+1,_,_,_,h=>⟨h.1,fun i hi=>wpOp_mono (fun _ _ h'=>⟨.inr trivial,yn n _ _ _ h'.2⟩) (h.2 i hi)⟩
theorem TRun.sound{Z:Nat→Prop}{w0:World}{fl:Nat}{Q:Exit→Act→World→Prop}{X:List Item→List Value→World→Prop}{la:List AlA}{ss:List AlS}{S0:World→Prop}(hS0:∀w w',S0 w→Old w w'→S0 w')(hSs:ss≠[]→∀w,S0 w)(hT:fb P T=true)(hE:lz P E)(hI:inv w0)(hsel:∀(j:Nat) (o:Oper) cs b,ops[j]?=some o→o.op≠.select cs b)(hPQ:∀c a d v w,Q (.panic c) (Act.put a d v) w→Q (.panic c) a w)
  (hFin:∀n l L j oj,Fin n l L→j∈Region.ready .any ops l→fB E ops l=true→ops[j]?=some oj→aZ oj=true→∃n' r a L',n=n'+1∧la[r]?=some a∧a.i=j∧oj.dst=some a.d∧a.d<N∧(∃x,oj.op=.alloc a.t∧dD T a.t=some x∧x.z=true∧(∀p q,x.ty≠.pair p q)∧a.cs=x.ty.zsplit)∧(∀t,aN L' t=if t=a.d then some (.box (H.length+r) 0)else aN L t)∧TRun P E ops N H lo Stp Fin n' (l.setIfInBounds j true) L')
  (hFinS:lo=true→∀n l L j oj,Fin n l L→Clo ops l→j∈Region.ready .any ops l→fB E ops l=true→ops[j]?=some oj→eT E ops j=true→∃n' s,n=n'+1∧s∈ss∧s.i=j∧qK T L s oj∧TRun P E ops N H lo Stp Fin n' (l.setIfInBounds j true) L)
  (hp:PlanOk T ops N H la ss) (hnew:∀s∈ss,H.length≤s.j) (hlow:mX H.length H) (hfl:fl≤H.length)
  (hX:∀H G w H' G' w',X H G w→Ev Z fl H G w H' G' w'→X H' G' w') (hQ:∀n l L G w a,Fin n l L∨(Stp n l L∧Region.ready .any ops l=[])→S0 w→Clo ops l→l.size=ops.size→yS H.length la (dn l) L→SR Z w0 (cG (dn l) ss (H++alX (dn l) la)) G w→FR Z N L (cG (dn l) ss (H++alX (dn l) la)) G w a→X (cG (dn l) ss (H++alX (dn l) la)) G w→wpG P ops Q S0 n l a w):
  ∀(n:Nat) (l:Array Bool) (L:SL),TRun P E ops N H lo Stp Fin n l L→Clo ops l→l.size=ops.size→yS H.length la (dn l) L→∀(G:List Value) (w:World) (a:Act),SR Z w0 (cG (dn l) ss (H++alX (dn l) la)) G w→FR Z N L (cG (dn l) ss (H++alX (dn l) la)) G w a→X (cG (dn l) ss (H++alX (dn l) la)) G w→S0 w→wpG P ops Q S0 n l a w:=by
 have lowS:∀{l:Array Bool} {L L':SL} {j d:Nat} {s:SV},yS H.length la (dn l) L→s.refsT H.length=true→(∀t,aN L' t=if t=d then some s else aN L t)→yS H.length la (dn (l.setIfInBounds j true)) L':=by
  intro l L L' j d s hL hs hL' t u hu
  rw[hL' t]at hu
  split at hu
  ·injection hu with hu
   subst hu
   exact .inl hs
  ·rcases hL t u hu with h|⟨r,a,h1,h2,h3⟩
   ·exact .inl h
   ·refine .inr ⟨r,a,h1,?_,h3⟩
    rw[jl]
    split
    ·rfl
    ·exact h2
 intro n
 induction n with
 |zero=>
  intro l L h hcl hsz hL G w a hr hf hx hs0
  cases h with
  |done h1 h2=>exact hQ 0 l L G w a (.inl h2) hs0 hcl hsz hL hr hf hx
  |stop h1 h2=>exact hQ 0 l L G w a (.inr ⟨h2,h1⟩) hs0 hcl hsz hL hr hf hx
 |succ n ih=>
  intro l L h hcl hsz hL G w a hr hf hx hs0
  have h':=h
  cases h with
  |done h1 h2=>exact hQ _ l L G w a (.inl h2) hs0 hcl hsz hL hr hf hx
  |stop h1 h2=>exact hQ _ l L G w a (.inr ⟨h2,h1⟩) hs0 hcl hsz hL hr hf hx
  | @step _ _ _ L1 i oi di si h1 h0 h0' h2 h3 h4 h5 h6 hrf h7 h8=>
   have ht:fJ E oi=true:=by
    unfold eu at h0'
    rw[h2]at h0'
    exact h0'
   have hnal:aZ oi=false:=by
    cases hq:aZ oi with
    |false=>rfl
    |true=>rw[iX hq]at ht;cases ht
   rw[←or_assoc,or_right_comm]at h0
   rcases h0 with h0|h0
   rotate_left
   ·have hns:dY oi.op=false:=qP ht
    obtain⟨Y,hY⟩:=tJ (f:=dn l) (Y:=alX (dn l) la) hnew
    have e1:=hp.setT (l:=l) h2 hnal h3
    obtain⟨v,y1,y2⟩:=h0 Y Z w0 N G w a (by rw[←hY];exact hr) (by rw[←hY];exact⟨hf.defers,hf.size,fun t s' hs=>hf.slot t s' (gY hs)⟩)
    rw[←hY]at y2
    refine Dc h2 hsel (fun c a w hq=>hPQ c a _ _ w hq) hns n l a w (ani h2 h5) h1 y1 (.inr hs0) (ih _ _ h8 (hcl.set h1) (by simpa using hsz) (lowS hL hrf h7) G w _ (by rw[e1];exact hr) ?_ (by rw[e1];exact hx) hs0)
    have hf1:=hf.put (d:=some di) (L':=(di,si)::nP L di) (s:=si) (by
     simp only[gu]
     rw[amb h4]) y2
    rw[←h3]at hf1
    rw[e1]
    exact hf1.eqv fun t=>by rw[ct,h7 t]
   refine wj rfl (fun e=>by rw[e]at h1;cases h1) fun j hj=>?_
   obtain⟨hjun,oj,hoj,_⟩:=amM.1 hj
   cases hnl:eT E ops j with
   |true=>
    have hlo:lo=true:=h0.resolve_left fun h0=>by
     rw[xL hcl h0 (amM.1 h1).1 hj]at hnl
     cases hnl
    obtain⟨n',s,e1,e2,e3,g5,g8⟩:=h'.store (T:=T) (hFinS hlo) hcl hj hoj hnl
    have e1:n=n':=by omega
    subst e1 e3
    obtain⟨_,oj',hoj',hdep⟩:=amM.1 hj
    rw[hoj]at hoj'
    injection hoj' with hoj'
    subst hoj'
    obtain⟨bt,c',b1,b2⟩:=hp.box hcl e2 fun os hos e he hb=>by rw[hoj]at hos;injection hos with hos;subst hos;exact hdep e he hb
    refine rm (fl:=fl) hT hE hI hoj g5 b1 b2 hr hf hx hX fun G' w' k2 k3 k5=>⟨.inr (hSs (fun e=>by rw[e]at e2;cases e2) w'),?_⟩
    rw[←hp.setS e2 hjun]at k2 k3 k5
    refine ih _ _ g8 (hcl.set hj) (by simpa using hsz) (fun t u hu=>?_) G' w' _ k2 k3 k5 (hSs (fun e=>by rw[e]at e2;cases e2) w')
    rcases hL t u hu with h|⟨r,b,q1,q2,q3⟩
    ·exact .inl h
    ·refine .inr ⟨r,b,q1,?_,q3⟩
     rw[jl]
     split
     ·rfl
     ·exact q2
   |false=>
   cases hal:aZ oj with
   |false=>
    have hst:eu E ops j=true:=by
     unfold eT at hnl
     unfold eu
     rw[hoj]at hnl ⊢
     simpa [hal]using hnl
    obtain⟨n',o,d,s,L',e1,g2,g3,g4,g5,grf,g6,g7⟩:=h'.any hcl hj hst
    have e1:n=n':=by omega
    subst e1
    have e1:=hp.setT (l:=l) g2 (by rw[hoj]at g2;injection g2 with g2;subst g2;exact hal) g3
    obtain⟨Y,hY⟩:=tJ (f:=dn l) (Y:=alX (dn l) la) hnew
    rw[hY]at hr hf hx
    refine g5 Y Z w0 N G w a Q _ hI hr ⟨hf.defers,hf.size,fun t s' hs=>hf.slot t s' (gY hs)⟩ fun v G' w' k0 k1 k2 k3=>⟨.inr (hS0 _ _ hs0 k0),?_⟩
    rw[hY]at e1
    have hf1:FR Z N ((d,s)::nP L d) (H++Y) G' w' (a.put o.dst v):=by
     refine(hf.keep k2).put (d:=o.dst) (s:=s) ?_ k3
     rw[g3]
     simp only[gu]
     rw[amb (show d+1≤N by omega)]
    refine ih _ _ g7 (hcl.set hj) (by simpa using hsz) (lowS hL grf g6) G' w' _ (by rw[e1];exact k1) (by rw[e1];exact hf1.eqv fun t=>by rw[ct,g6 t]) (by rw[e1];exact hX _ _ _ _ _ _ hx fun s v hs _=>k2 s v hs) (hS0 _ _ hs0 k0)
   |true=>
    obtain⟨n',r,x,L',e1,e2,e3,g3,g4,⟨y,y5,y6,y7,y8,y9⟩,g7,g8⟩:=h'.alloc (T:=T) hFin hcl hj hoj hal
    have e1:n=n':=by omega
    subst e1 e3
    obtain⟨hset,hgone⟩:=hp.setA hcl hsz e2 hjun
    refine rh (L':=L') hT hoj hal e2 g3 g4 y5 ⟨y,y6,y7,y8,y9⟩ hp.dis hjun hgone (hp.low hlow) hL hfl hr hf hx hX g7 fun v G' w' k0 k1 k2 k3=>⟨.inr (hS0 _ _ hs0 k0),?_⟩
    rw[←hset]at k1 k2 k3
    refine ih _ _ g8 (hcl.set hj) (by simpa using hsz) (fun t u hu=>?_) G' w' _ k1 k2 k3 (hS0 _ _ hs0 k0)
    rw[g7 t]at hu
    split at hu
    ·injection hu with hu
     exact .inr ⟨r,x,e2,by rw[jl,ama rfl],hu.symm⟩
    ·rcases hL t u hu with h|⟨r',b,q1,q2,q3⟩
     ·exact .inl h
     ·refine .inr ⟨r',b,q1,?_,q3⟩
      rw[jl]
      split
      ·rfl
      ·exact q2
theorem Ea{D:List Nat}:∀{rs:List Nat} {j:Nat},C5 E ops D rs=some j→j∈rs∧∃o d,ops[j]?=some o∧fJ E o=true∧o.dst=some d∧Region.free .any ops (mkL ops.size D) j=true∧(jh E ops j=true∨zo o=true∨(!(co E ops))=true)
 |[],_,h=>by simp[C5]at h
 |q::rs,j,h=>by
  simp only[C5]at h
  split at h<;>try (cases h;done)
  rename_i o ho
  split at h
  ·rename_i hb
   injection h with h
   subst h
   simp only[alJ]at hb
   obtain⟨d,hd⟩:=amI.1 hb.1.1.2
   simp only[anT]at hb
   exact⟨by simp,o,d,ho,hb.1.1.1,hd,hb.1.2,by rcases hb.2 with(h|h)|h;exact .inr (.inl h);exact .inl h;exact .inr (.inr h)⟩
  ·obtain⟨h1,h2⟩:=Ea h
   exact⟨by simp[h1],h2⟩
end
section
variable {F:FT} {P:Program} {T:TT} {E:Env} {N:NT} {Fn:Nat→Cfg→Option (List RV)} {r:List RV}
def t3(P:Program)(F:FT)(T:TT)(E:Env)(N:NT)(Fn:Nat→Cfg→Option (List RV))(r:List RV)(c:Cfg)(i:Nat)(la:List AlA)(ss:List AlS)(m n:Nat)(l:Array Bool)(L:SL):Prop:=
 (∃D q,co E (ak (nth (aj F c.f) i))=true∧(ak (nth (aj F c.f) i)).toList.any aZ=false∧la=[]∧ss=[]∧l=mkL (ak (nth (aj F c.f) i)).size D∧n+D.length=(ak (nth (aj F c.f) i)).size∧(∀j∈D,∀o,(ak (nth (aj F c.f) i))[j]?=some o→dY o.op=false)∧q<m∧go P F T E N Fn q {c with L:=L} (.drw i (!((ak (nth (aj F c.f) i)).any fun o=>vp o.op)) false D)=some r)∨
 (∃D q L0 ss',alA T (ntm F c.f) (ak (nth (aj F c.f) i)).toList 0=some la∧alS T E (ak (nth (aj F c.f) i)) (mkL (ak (nth (aj F c.f) i)).size D) la c.H.length (gb (fun _=>true) la c.H.length L0) (c.H++alX (fun _=>true) la) (ak (nth (aj F c.f) i)).toList 0=some ss'∧GA (ak (nth (aj F c.f) i)) (mkL (ak (nth (aj F c.f) i)).size D) (la.map (·.i)++ss'.map (·.i))=true∧Ho E (ak (nth (aj F c.f) i)) (mkL (ak (nth (aj F c.f) i)).size D) (la.map (·.i)++ss'.map (·.i))=true∧
  ((co E (ak (nth (aj F c.f) i))=true∧ss=[]∧∀s∈ss',l.getD s.i true=false)∨(co E (ak (nth (aj F c.f) i))=false∧ss=ss'∧(∀s∈ss',c.H.length≤s.j)∧∀k,k<(ak (nth (aj F c.f) i)).size→(mkL (ak (nth (aj F c.f) i)).size D).getD k true=true∨eu E (ak (nth (aj F c.f) i)) k=false))∧
  ((la.map (·.i)++ss'.map (·.i))++D).length≤(ak (nth (aj F c.f) i)).size∧q<m∧go P F T E N Fn q {c with L:=gb (fun _=>true) la c.H.length L0,H:=cG (fun _=>true) ss' (c.H++alX (fun _=>true) la)} (.drw i true true ((la.map (·.i)++ss'.map (·.i))++D))=some r∧
  cu l≤n∧(∀k,(mkL (ak (nth (aj F c.f) i)).size D).getD k false=true→l.getD k false=true)∧(∀k,l.getD k true=true→(mkL (ak (nth (aj F c.f) i)).size D).getD k true=true∨k∈la.map (·.i)++ss'.map (·.i))∧
  (∀t s,aN L0 t=some s→s.refsT c.H.length=true)∧∀t,aN L t=aN (gb (dn l) la c.H.length L0) t)∨
 (∃D q j o,co E (ak (nth (aj F c.f) i))=true∧(ak (nth (aj F c.f) i)).toList.any aZ=false∧la=[]∧ss=[]∧l=mkL (ak (nth (aj F c.f) i)).size D∧n+D.length=(ak (nth (aj F c.f) i)).size∧D.length+1≤(ak (nth (aj F c.f) i)).size∧Region.ready .any (ak (nth (aj F c.f) i)) (mkL (ak (nth (aj F c.f) i)).size D)=[j]∧(ak (nth (aj F c.f) i))[j]?=some o∧q<m∧
  da (ak (nth (aj F c.f) i)) L o (fun L=>match Ko F E L o.op with
   |some (g,ss)=>go P F T E N Fn q {f:=g,K:=[],L:=wN 0 ss,H:=c.H,fl:=c.H.length,fs:={f:=c.f,K:=c.K,i:=i,k:=j,L:=EN N c.f i L,fl:=c.fl,d:=some (j::D)}::c.fs} (.node 0)
   |none=>none) (fun L=>match gu (ntm F c.f) L o.dst .undef with
   |some L'=>go P F T E N Fn q {c with L:=L'} (.tal i (j::D))
   |none=>none)=some r)
theorem TRun.mono{P:Program}{ops:Array Oper}{N:Nat}{H:List Item}{lo:Bool}{Stp Stp' Fin Fin':Nat→Array Bool→SL→Prop}(hS:∀n l L,Stp n l L→Stp' n l L)(hF:∀n l L,Fin n l L→Fin' n l L){n:Nat}{l:Array Bool}{L:SL}(h:TRun P E ops N H lo Stp Fin n l L):TRun P E ops N H lo Stp' Fin' n l L:=by
 induction h with
 |done h1 h2=>exact .done h1 (hF _ _ _ h2)
 |stop h1 h2=>exact .stop h1 (hS _ _ _ h2)
 |step h1 h0 h0' h2 h3 h4 h5 h6 hrf h7 h8 ih=>exact .step h1 h0 h0' h2 h3 h4 h5 h6 hrf h7 ih
theorem KA{N:Nat}{ops:Array Oper}{l:Array Bool}{L L1:SL}{H H1:List Item}{C:List Nat}(h:abD T E N ops l L H=some (L1,H1,C)):∃la ss,alA T N ops.toList 0=some la∧alS T E ops l la H.length (gb (fun _=>true) la H.length L) (H++alX (fun _=>true) la) ops.toList 0=some ss∧GA ops l (la.map (·.i)++ss.map (·.i))=true∧Ho E ops l (la.map (·.i)++ss.map (·.i))=true∧
  (co E ops=true∨(co E ops=false∧(∀s∈ss,H.length≤s.j)∧∀k,k<ops.size→l.getD k true=true∨eu E ops k=false))∧C=la.map (·.i)++ss.map (·.i)∧L1=gb (fun _=>true) la H.length L∧H1=cG (fun _=>true) ss (H++alX (fun _=>true) la):=by
 unfold abD at h
 split at h<;>try (cases h;done)
 rename_i la hla
 split at h<;>try (cases h;done)
 rename_i ss hss
 split at h<;>try (cases h;done)
 rename_i hd
 injection h with h
 injection h with h1 h2
 injection h2 with h2 h3
 simp only[alJ]at hd
 refine⟨la,ss,hla,hss,hd.1.1,hd.1.2,?_,h3.symm,h1.symm,h2.symm⟩
 cases hq:co E ops with
 |true=>exact .inl rfl
 |false=>
  have hd2:=hd.2
  rw[hq,Bool.false_or,alJ]at hd2
  refine .inr ⟨rfl,fun s hs=>alM (al4.1 hd2.1 s hs),fun k hk=>?_⟩
  have:=al4.1 hd2.2 k (List.mem_range.2 hk)
  simpa using this
theorem xd{i:Nat}{c:Cfg}{la:List AlA}{ss:List AlS}{m:Nat}(n:Nat)(l:Array Bool)(L:SL)(j:Nat)(oj:Oper)(h:t3 P F T E N Fn r c i la ss m n l L)(hj:j∈Region.ready .any (ak (nth (aj F c.f) i)) l)(ho:fB E (ak (nth (aj F c.f) i)) l=true)
  (hoj:(ak (nth (aj F c.f) i))[j]?=some oj) (hal:aZ oj=true):∃n' r' a L',n=n'+1∧la[r']?=some a∧a.i=j∧oj.dst=some a.d∧a.d<ntm F c.f∧(∃x,oj.op=.alloc a.t∧dD T a.t=some x∧x.z=true∧(∀p q,x.ty≠.pair p q)∧a.cs=x.ty.zsplit)∧(∀t,aN L' t=if t=a.d then some (.box (c.H.length+r') 0)else aN L t)∧TRun P E (ak (nth (aj F c.f) i)) (ntm F c.f) c.H (!(co E (ak (nth (aj F c.f) i)))) (fun _ _ _=>False) (t3 P F T E N Fn r c i la ss m) n' (l.setIfInBounds j true) L':=by
 rcases h with⟨D,q,_,h1,_⟩|⟨D,q,L0,ss',k1,k2,k3,k4,k5,k6,h2,h3,h4,h5,h6,h6',h7⟩|⟨D,q,j',o',_,h1,_⟩
 ·exfalso
  have:=List.any_eq_false.1 h1 oj (Array.mem_toList_iff.2 (Array.mem_of_getElem? hoj))
  exact this hal
 rotate_left
 ·exfalso
  have:=List.any_eq_false.1 h1 oj (Array.mem_toList_iff.2 (Array.mem_of_getElem? hoj))
  exact this hal
 ·have hp:=wo k1 k2
  obtain⟨r',x,g1,g2,g3,g4,y,g5⟩:=Hz k1 hoj hal
  have hjun:=(amM.1 hj).1
  have hcu:=zr hjun
  refine⟨n-1,r',x,gb (dn (l.setIfInBounds j true)) la c.H.length L0,by omega,g1,g2,g3,g4,⟨y,g5⟩,fun t=>?_,.done (yZ ho j ?_) (.inr (.inl ⟨D,q,L0,ss',k1,k2,k3,k4,?_,k6,h2,h3,by omega,fun k hk=>aoG (h5 k hk),fun k hk=>?_,h6',fun t=>rfl⟩))⟩
  ·rw[Ai (fun k=>by rw[jl,g2]) hp.dis g1 t,h7 t]
  ·unfold eT
   rw[hoj]
   dsimp only
   rw[hal,Bool.not_true,Bool.and_false]
  ·rcases k5 with⟨e1,e2,e3⟩|e
   ·refine .inl ⟨e1,e2,fun s hs=>?_⟩
    obtain⟨⟨o',ho',hal',_⟩,_⟩:=hp.ss1 s hs
    have hne:j≠s.i:=fun e=>by
     subst e
     rw[hoj]at ho'
     injection ho' with ho'
     subst ho'
     rw[hal]at hal'
     cases hal'
    rw[aog true hne]
    exact e3 s hs
   ·exact .inr e
  ·have:=jl l j k
   rw[show dn (l.setIfInBounds j true) k=true from hk]at this
   by_cases e:k=j
   ·subst e
    exact .inr (ang _ (anh.2 ⟨x,amS g1,g2⟩))
   ·rw[al3 e]at this;exact h6 k this.symm
theorem Fz{i:Nat}{c:Cfg}{la:List AlA}{ss:List AlS}{m:Nat}(hlo:(!(co E (ak (nth (aj F c.f) i))))=true)(n:Nat)(l:Array Bool)(L:SL)(j:Nat)(oj:Oper)(h:t3 P F T E N Fn r c i la ss m n l L)(hcl:Clo (ak (nth (aj F c.f) i)) l)(hj:j∈Region.ready .any (ak (nth (aj F c.f) i)) l)(_ho:fB E (ak (nth (aj F c.f) i)) l=true)
  (hoj:(ak (nth (aj F c.f) i))[j]?=some oj) (hal:eT E (ak (nth (aj F c.f) i)) j=true):∃n' s,n=n'+1∧s∈ss∧s.i=j∧qK T L s oj∧TRun P E (ak (nth (aj F c.f) i)) (ntm F c.f) c.H (!(co E (ak (nth (aj F c.f) i)))) (fun _ _ _=>False) (t3 P F T E N Fn r c i la ss m) n' (l.setIfInBounds j true) L:=by
 rcases h with⟨D,q,h0,h1,_⟩|⟨D,q,L0,ss',k1,k2,k3,k4,k5,k6,h2,h3,h4,h5,h6,h6',h7⟩|⟨D,q,j',o',h0,h1,_⟩
 ·rw[h0]at hlo;cases hlo
 rotate_left
 ·rw[h0]at hlo;cases hlo
 ·rcases k5 with⟨e1,_⟩|⟨e1,e2,e3,e4⟩
  ·rw[e1]at hlo;cases hlo
  subst e2
  have hp:=wo k1 k2
  obtain⟨s1,s2,s3⟩:=mR k2
  obtain⟨hjun,oj',hoj',hdep⟩:=amM.1 hj
  rw[hoj]at hoj'
  injection hoj' with hoj'
  subst hoj'
  have hcu:=zr hjun
  have hlate:=hal
  unfold eT at hal
  rw[hoj]at hal
  simp only[alJ,anE]at hal
  have hlt:=(alZ.1 hoj).1
  have hu0:(mkL (ak (nth (aj F c.f) i)).size D).getD j true=false:=by
   cases hq:(mkL (ak (nth (aj F c.f) i)).size D).getD j true with
   |false=>rfl
   |true=>
    have:=h5 j (by rw[jY (by rw[ib];exact hlt)];exact hq)
    rcases amm j l.size with h'|h'
    ·rw[jY h',hjun]at this;cases this
    ·simp[anj h']at hjun
  obtain⟨s,hsm,hsi⟩:=s1 j oj (by rw[anr];exact hoj) (by rw[aml];exact hu0) hal.2 hal.1
  have hsi:s.i=j:=by omega
  subst hsi
  obtain⟨_,_,o,ho',hno,hok⟩:=s2 s hsm
  rw[Nat.sub_zero,anr,hoj]at ho'
  injection ho' with ho'
  subst ho'
  have hst:=Eh hok hcl fun os hos e he hb=>by rw[hoj]at hos;injection hos with hos;subst hos;exact hdep e he hb
  have hst':qK T L s oj:=by
   obtain⟨t,x,v,sv,y,q1,q2,q3,q4,q5,q6⟩:=hst
   have hop:∀{z:Operand} {sz:SV},opS (gb (dn l) la c.H.length L0) z=some sz→opS L z=some sz:=by
    intro z sz he
    cases z with
    |tmp u=>simp only[opS]at he ⊢;rw[h7 u];exact he
    |_=>exact he
   exact⟨t,x,v,sv,y,q1,q2,q3,hop q4,hop q5,q6⟩
  refine⟨n-1,s,by omega,hsm,rfl,hst',.done ?_ (.inr (.inl ⟨D,q,L0,ss,k1,k2,k3,k4,.inr ⟨e1,rfl,e3,e4⟩,k6,h2,h3,by omega,fun k hk=>aoG (h5 k hk),fun k hk=>?_,h6',fun t=>?_⟩))⟩
  ·refine al4.2 fun k hk=>?_
   have hk:=List.mem_range.1 hk
   rcases e4 k hk with h|h
   ·have:=aoG (i:=s.i) (h5 k (by rw[jY (by rw[ib];exact hk)];exact h))
    rcases amm k (l.setIfInBounds s.i true).size with h'|h'
    ·rw[jY h']at this;rw[this];rfl
    ·rw[show(l.setIfInBounds s.i true).getD k true=true by simp[anj h']];rfl
   ·rw[h];simp
  ·have:=jl l s.i k
   rw[show dn (l.setIfInBounds s.i true) k=true from hk]at this
   by_cases e:k=s.i
   ·subst e
    exact .inr (anM _ (anh.2 ⟨s,hsm,rfl⟩))
   ·rw[al3 e]at this;exact h6 k this.symm
  ·rw[h7 t]
   exact(iI (fun x hx _=>(hp.same hoj hal.2).2 x hx) rfl).symm
theorem Ex{f:Nat→Bool}:∀{la:List AlA} {k:Nat} {L:SL},(∀a∈la,f a.i=false)→gb f la k L=L
 |[],_,_,_=>rfl
 |a::la,k,L,h=>by
  simp only[gb]
  rw[h a (by simp)]
  exact Ex fun b hb=>h b (by simp[hb])
theorem F4{n s:Nat}:∀{D:List Nat},s∈D→(mkL n D).getD s true=true
 |[],h=>by cases h
 |j::D,h=>by
  rw[mkL]
  by_cases e:j=s
  ·subst e;exact qJ _ _
  ·rw[aog true e]
   exact F4 ((al0.1 h).resolve_left (fun h=>e h.symm))
theorem P4(n:Nat):∀D:List Nat,n≤cu (mkL n D)+D.length
 |[]=>by rw[EU];exact alL _
 |j::D=>by
  have ih:=P4 n D
  rw[mkL,alY]
  cases h:(mkL n D).getD j true with
  |false=>have:=zr h;omega
  |true=>
   have e:(mkL n D).setIfInBounds j true=mkL n D:=by
    refine Array.ext_getElem? fun k=>?_
    by_cases e:j=k
    ·subst e
     rcases amm j (mkL n D).size with h2|h2
     ·rw[Array.getElem?_setIfInBounds_self_of_lt h2]
      rw[amW,Array.getElem?_eq_getElem h2]at h
      rw[Array.getElem?_eq_getElem h2]
      exact congrArg some h.symm
     ·rw[anj h2,anj (by simpa using h2)]
    ·rw[Array.getElem?_setIfInBounds_ne e]
   rw[e];omega
theorem C7{P:Program}{ops:Array Oper}{Q:Exit→Act→World→Prop}{S0:World→Prop}:∀(m n:Nat) (l:Array Bool) (a:Act) (w:World),m≤n→wpG P ops Q S0 m l a w→wpG P ops Q S0 n l a w
 |0,n,l,a,w,_,h=>wA h.1 h.2 n
 |m+1,0,_,_,_,hle,_=>by omega
 |m+1,n+1,l,a,w,hle,h=>⟨h.1,fun i hi=>wpOp_mono (fun a' w' h'=>⟨h'.1,C7 m n _ a' w' (by omega) h'.2⟩) (h.2 i hi)⟩
theorem fE{n s:Nat}:∀{D:List Nat},s∉D→s<n→(mkL n D).getD s true=false
 |[],_,h=>by simp[mkL,h]
 |j::D,hn,h=>by
  have h1:s≠j:=fun e=>hn (by simp[e])
  rw[mkL,aog true (ano h1)]
  exact fE (fun hm=>hn (by simp[hm])) h
theorem Jq(hT:fb P T=true)(hE:lz P E){i:Nat}{c:Cfg}:∀(m:Nat) (D:List Nat) (L:SL),go P F T E N Fn m {c with L:=L} (.tam i D)=some r→
  cu (mkL (ak (nth (aj F c.f) i)).size D)+D.length=(ak (nth (aj F c.f) i)).size→(∀j∈D,eu E (ak (nth (aj F c.f) i)) j=true)→(∀t s,aN L t=some s→s.refsT c.H.length=true)→Clo (ak (nth (aj F c.f) i)) (mkL (ak (nth (aj F c.f) i)).size D)→∃la ss,PlanOk T (ak (nth (aj F c.f) i)) (ntm F c.f) c.H la ss∧(∀s∈ss,c.H.length≤s.j)∧TRun P E (ak (nth (aj F c.f) i)) (ntm F c.f) c.H (!(co E (ak (nth (aj F c.f) i)))) (fun _ _ _=>False) (t3 P F T E N Fn r c i la ss m) ((ak (nth (aj F c.f) i)).size-D.length) (mkL (ak (nth (aj F c.f) i)).size D) L:=by
 intro m
 induction m with
 |zero=>intro D L h;simp[Vy]at h
 |succ m ih=>
  intro D L h hlen hD hlowL hcl
  have nostore:∀j∈D,∀o,(ak (nth (aj F c.f) i))[j]?=some o→dY o.op=false∧aZ o=false:=fun j hj o ho=>by
   have:=hD j hj
   unfold eu at this
   rw[ho]at this
   dsimp only at this
   refine⟨qP this,?_⟩
   cases hq:aZ o with
   |false=>rfl
   |true=>rw[iX hq]at this;cases this
  have next:∀{j:Nat} {o:Oper} {d:Nat} {L1 L2:SL} {s:SV},j∈Region.ready .any (ak (nth (aj F c.f) i)) (mkL (ak (nth (aj F c.f) i)).size D)→(ak (nth (aj F c.f) i))[j]?=some o→o.dst=some d→Region.free .any (ak (nth (aj F c.f) i)) (mkL (ak (nth (aj F c.f) i)).size D) j=true→(jh E (ak (nth (aj F c.f) i)) j=true∨StepP P c.H (ak (nth (aj F c.f) i)) (hU L (o.looksAt (ak (nth (aj F c.f) i)))) o s∨(!(co E (ak (nth (aj F c.f) i))))=true)→fJ E o=true→D.length+1≤(ak (nth (aj F c.f) i)).size→
    (∀t,aN L1 t=aN L t)→StepF P c.H (ak (nth (aj F c.f) i)) (hU L (o.looksAt (ak (nth (aj F c.f) i)))) o j s→s.refsT c.H.length=true→gu (ntm F c.f) L1 o.dst s=some L2→go P F T E N Fn m {c with L:=L2} (.tam i (j::D))=some r→∃la ss,PlanOk T (ak (nth (aj F c.f) i)) (ntm F c.f) c.H la ss∧(∀s∈ss,c.H.length≤s.j)∧TRun P E (ak (nth (aj F c.f) i)) (ntm F c.f) c.H (!(co E (ak (nth (aj F c.f) i)))) (fun _ _ _=>False) (t3 P F T E N Fn r c i la ss (m+1)) ((ak (nth (aj F c.f) i)).size-D.length) (mkL (ak (nth (aj F c.f) i)).size D) L:=by
   intro j o d L1 L2 s h1 h2 h3 h4 h4' h4'' h5 h6 h7 hrf h8 h9
   have htj:eu E (ak (nth (aj F c.f) i)) j=true:=by unfold eu;rw[h2];exact h4''
   have hcu:=zr (amM.1 h1).1
   rw[h3]at h8
   simp only[gu]at h8
   split at h8<;>try (cases h8;done)
   rename_i hd
   have hd:=alM hd
   injection h8 with h8
   have hlk:∀t,aN L2 t=if t=d then some s else aN L t:=fun t=>by rw[←h8,ct,h6 t]
   obtain⟨la,ss,hp,hnew,h10⟩:=ih (j::D) L2 h9 (by
    rw[alY]
    show cu ((mkL _ D).setIfInBounds j true)+_=_
    omega) (fun k hk=>by
    rcases al0.1 hk with e|hk
    ·subst e;exact htj
    ·exact hD k hk) (fun t u hu=>by
    rw[hlk t]at hu
    split at hu
    ·injection hu with hu;subst hu;exact hrf
    ·exact hlowL t u hu) (hcl.set h1)
   have h11:=h10.mono (Fin':=t3 P F T E N Fn r c i la ss (m+1)) (fun _ _ _ h=>h) (fun n l L hf=>by
    rcases hf with⟨D',q,e1,e2,e3,e4,e5,e6,e7,e8,e9⟩|⟨D',q,L0,ss',e1,e2,e3,e4,e5,e6,e7,e8⟩|⟨D',q,j',o',e1,e2,e3,e4,e5,e6,e7,e8,e9,e10,e11⟩
    ·exact .inl ⟨D',q,e1,e2,e3,e4,e5,e6,e7,by omega,e9⟩
    ·exact .inr (.inl ⟨D',q,L0,ss',e1,e2,e3,e4,e5,e6,by omega,e8⟩)
    ·exact .inr (.inr ⟨D',q,j',o',e1,e2,e3,e4,e5,e6,e7,e8,e9,by omega,e11⟩))
   refine⟨la,ss,hp,hnew,?_⟩
   rw[show(ak (nth (aj F c.f) i)).size-D.length=((ak (nth (aj F c.f) i)).size-(j::D).length)+1 by simp;omega]
   exact .step (L':=L2) h1 h4' htj h2 h3 (by omega) h4 h7 hrf hlk h11
  rw[T4]at h;simp only[stC]at h
  split at h
  ·rename_i hall
   have drw:((ak (nth (aj F c.f) i)).toList.any aZ||!(co E (ak (nth (aj F c.f) i))))=false→go P F T E N Fn m {c with L:=L} (.drw i (!((ak (nth (aj F c.f) i)).any fun o=>vp o.op)) false D)=some r→∃la ss,PlanOk T (ak (nth (aj F c.f) i)) (ntm F c.f) c.H la ss∧(∀s∈ss,c.H.length≤s.j)∧TRun P E (ak (nth (aj F c.f) i)) (ntm F c.f) c.H (!(co E (ak (nth (aj F c.f) i)))) (fun _ _ _=>False) (t3 P F T E N Fn r c i la ss (m+1)) ((ak (nth (aj F c.f) i)).size-D.length) (mkL (ak (nth (aj F c.f) i)).size D) L:=fun hna h=>by
    simp only[aot,Bool.not_eq_false']at hna
    exact⟨[],[],⟨List.Pairwise.nil,fun a ha=>(by cases ha),fun s hs=>(by cases hs),List.Pairwise.nil⟩,fun s hs=>(by cases hs),.done hall (.inl ⟨D,m,hna.2,hna.1,rfl,rfl,rfl,by omega,fun j hj o ho=>(nostore j hj o ho).1,by omega,h⟩)⟩
   split at h
   ·rename_i j hcf
    split at h<;>try (cases h;done)
    rename_i o ho
    unfold Yl at hcf
    split at hcf<;>try (cases hcf;done)
    rename_i j' hst hrd
    split at hcf<;>try (cases hcf;done)
    rename_i o' ho'
    split at hcf<;>try (cases hcf;done)
    rename_i x hq hin hble
    injection hcf with hcf
    subst hcf
    simp only[alJ,anE]at hst
    exact⟨[],[],⟨List.Pairwise.nil,fun a ha=>(by cases ha),fun s hs=>(by cases hs),List.Pairwise.nil⟩,fun s hs=>(by cases hs),.done hall (.inr (.inr ⟨D,m,j',o,hst.1,hst.2,rfl,rfl,rfl,by have:=alM hble;omega,alM hble,hrd,ho,by omega,h⟩))⟩
   split at h
   ·split at h
    ·rename_i L1 H1 C hals
     split at h<;>try (cases h;done)
     rename_i hble
     obtain⟨la,ss,k1,k2,k3,k4,k5,k6,k7,k8⟩:=KA hals
     subst k6 k7 k8
     have hp:=wo k1 k2
     have fin:∀ss0,((co E (ak (nth (aj F c.f) i))=true∧ss0=[]∧∀s∈ss,(mkL (ak (nth (aj F c.f) i)).size D).getD s.i true=false)∨(co E (ak (nth (aj F c.f) i))=false∧ss0=ss∧(∀s∈ss,c.H.length≤s.j)∧∀k,k<(ak (nth (aj F c.f) i)).size→(mkL (ak (nth (aj F c.f) i)).size D).getD k true=true∨eu E (ak (nth (aj F c.f) i)) k=false))→t3 P F T E N Fn r c i la ss0 (m+1) ((ak (nth (aj F c.f) i)).size-D.length) (mkL (ak (nth (aj F c.f) i)).size D) L:=fun ss0 hs0=>.inr (.inl ⟨D,m,L,ss,k1,k2,k3,k4,hs0,alM hble,by omega,h,by omega,fun _ h=>h,fun _ h=>.inl h,hlowL,fun t=>by
      rw[Ex fun a ha=>?_]
      obtain⟨⟨o,ho,hal⟩,_⟩:=hp.la2 a ha
      exact fE (fun hm=>by rw[(nostore _ hm o ho).2]at hal;cases hal) (alZ.1 ho).1⟩)
     rcases k5 with k5|⟨k5,k6,k7⟩
     ·refine⟨la,[],⟨hp.dis,hp.la2,fun s hs=>(by cases hs),List.Pairwise.nil⟩,fun s hs=>(by cases hs),.done hall (fin [] (.inl ⟨k5,rfl,fun s hs=>?_⟩))⟩
      obtain⟨_,hu,_⟩:=(mR k2).2.1 s hs
      exact hu
     ·exact⟨la,ss,hp,k6,.done hall (fin ss (.inr ⟨k5,rfl,k6,k7⟩))⟩
    ·split at h<;>try (cases h;done)
     exact drw (by assumption) h
   ·split at h<;>try (cases h;done)
    exact drw (by assumption) h
  ·rename_i hall
   split at h<;>try (cases h;done)
   rename_i j hb hj
   have hb:=alM hb
   obtain⟨g1,o',d,g2,gt,g3,g4,g5⟩:=Ea hj
   split at h<;>try (cases h;done)
   rename_i o ho
   rw[ho]at g2
   injection g2 with g2
   subst g2
   rcases pF h with⟨L1,k1,k2,k3⟩|⟨L1,k1,k2,k3⟩
   ·rw[dP (M:=L) fun t _=>k1 t]at k2
    obtain⟨s,q1,q2,q3⟩:=Ch hT hE ho k3 k2
    split at q1<;>try (cases q1;done)
    rename_i L2 hp hrf
    exact next g1 ho g3 g4 (g5.imp id (Or.imp q3 id)) gt hb k1 q2 hrf hp q1
   ·split at k2<;>try (cases k2;done)
    rename_i L2 hp
    exact next g1 ho g3 g4 (.inr (.inl (Fc k3))) gt hb k1 (qY ho k3) rfl hp k2
theorem C4{ops:Array Oper}{D:List Nat}:∀{rs:List Nat} {j:Nat},CC E ops D rs=some j→j∈rs∧∃o d,ops[j]?=some o∧fJ E o=true∧o.dst=some d∧Region.free .any ops (mkL ops.size D) j=true
 |[],_,h=>by simp[CC]at h
 |q::rs,j,h=>by
  simp only[CC]at h
  split at h<;>try (cases h;done)
  rename_i o ho
  split at h
  ·rename_i hb
   injection h with h
   subst h
   simp only[alJ]at hb
   obtain⟨d,hd⟩:=amI.1 hb.1.2
   exact⟨by simp,o,d,ho,hb.1.1,hd,hb.2⟩
  ·obtain⟨h1,h2⟩:=C4 h
   exact⟨by simp[h1],h2⟩
theorem Va(hT:fb P T=true)(hE:lz P E){i:Nat}{c:Cfg}:∀(m:Nat) (D:List Nat) (L:SL),go P F T E N Fn m {c with L:=L} (.tal i D)=some r→D.length≤(ak (nth (aj F c.f) i)).size→
  TRun P E (ak (nth (aj F c.f) i)) (ntm F c.f) c.H true (fun _ _ L=>∃q,q<m∧go P F T E N Fn q {c with L:=L} .nrm=some r) (fun _ _ _=>False) ((ak (nth (aj F c.f) i)).size-D.length) (mkL (ak (nth (aj F c.f) i)).size D) L:=by
 intro m
 induction m with
 |zero=>intro D L h;simp[Vy]at h
 |succ m ih=>
  intro D L h hlen
  have next:∀{j:Nat} {o:Oper} {d:Nat} {L1 L2:SL} {s:SV},j∈Region.ready .any (ak (nth (aj F c.f) i)) (mkL (ak (nth (aj F c.f) i)).size D)→(ak (nth (aj F c.f) i))[j]?=some o→o.dst=some d→Region.free .any (ak (nth (aj F c.f) i)) (mkL (ak (nth (aj F c.f) i)).size D) j=true→fJ E o=true→D.length+1≤(ak (nth (aj F c.f) i)).size→
    (∀t,aN L1 t=aN L t)→StepF P c.H (ak (nth (aj F c.f) i)) (hU L (o.looksAt (ak (nth (aj F c.f) i)))) o j s→s.refsT c.H.length=true→gu (ntm F c.f) L1 o.dst s=some L2→go P F T E N Fn m {c with L:=L2} (.tal i (j::D))=some r→TRun P E (ak (nth (aj F c.f) i)) (ntm F c.f) c.H true (fun _ _ L=>∃q,q<m+1∧go P F T E N Fn q {c with L:=L} .nrm=some r) (fun _ _ _=>False) ((ak (nth (aj F c.f) i)).size-D.length) (mkL (ak (nth (aj F c.f) i)).size D) L:=by
   intro j o d L1 L2 s h1 h2 h3 h4 h4'' h5 h6 h7 hrf h8 h9
   have htj:eu E (ak (nth (aj F c.f) i)) j=true:=by unfold eu;rw[h2];exact h4''
   rw[h3]at h8
   simp only[gu]at h8
   split at h8<;>try (cases h8;done)
   rename_i hd
   have hd:=alM hd
   injection h8 with h8
   have hlk:∀t,aN L2 t=if t=d then some s else aN L t:=fun t=>by rw[←h8,ct,h6 t]
   have h11:=(ih (j::D) L2 h9 (by simpa using h5)).mono (Stp':=fun _ _ L=>∃q,q<m+1∧go P F T E N Fn q {c with L:=L} .nrm=some r) (Fin':=fun _ _ _=>False) (fun _ _ _ ⟨q,h1,h2⟩=>⟨q,by omega,h2⟩) (fun _ _ _ h=>h)
   rw[show(ak (nth (aj F c.f) i)).size-D.length=((ak (nth (aj F c.f) i)).size-(j::D).length)+1 by simp;omega]
   exact .step (L':=L2) h1 (.inr (.inr rfl)) htj h2 h3 (by omega) h4 h7 hrf hlk h11
  rw[T4]at h;simp only[stC]at h
  split at h
  ·rename_i hrd
   exact .stop hrd ⟨m,by omega,h⟩
  ·rename_i rs hrd
   split at h<;>try (cases h;done)
   rename_i j hb hj
   have hb:=alM hb
   obtain⟨g1,o',d,g2,gt,g3,g4⟩:=C4 hj
   split at h<;>try (cases h;done)
   rename_i o ho
   rw[ho]at g2
   injection g2 with g2
   subst g2
   rcases pF h with⟨L1,k1,k2,k3⟩|⟨L1,k1,k2,k3⟩
   ·rw[dP (M:=L) fun t _=>k1 t]at k2
    obtain⟨s,q1,q2,q3⟩:=Ch hT hE ho k3 k2
    split at q1<;>try (cases q1;done)
    rename_i L2 hp hrf
    exact next g1 ho g3 g4 gt hb k1 q2 hrf hp q1
   ·split at k2<;>try (cases k2;done)
    rename_i L2 hp
    exact next g1 ho g3 g4 gt hb k1 (qY ho k3) rfl hp k2
theorem Nc{P:Program}{ops:Array Oper}{Q:Exit→Act→World→Prop}{S0 S1:World→Prop}:∀(n:Nat) (l:Array Bool) (a:Act) (w:World),storeDone ops l→wpG P ops Q S1 n l a w→wpG P ops Q S0 n l a w
 |0,_,_,_,_,h=>h
 |n+1,_,_,_,hs,h=>⟨h.1,fun i hi=>wpOp_mono (fun _ _ h'=>⟨.inl (hs.set i),Nc n _ _ _ (hs.set i) h'.2⟩) (h.2 i hi)⟩
end
end
section
theorem V7(it:Item):ddI (ddJ it)=ddI it:=by
 unfold ddJ
 split<;>rfl
theorem Ez(it:Item):(ddI it).live=it.live:=by
 unfold ddI
 split<;>rfl
theorem Eu{A B:List Item}(h:A.map ddJ=B):A.map ddI=B.map ddI:=by grind [List.map_congr_left,V7]
theorem xw(q:Nat)(b:Bool)(H:List Item):(l4 q b H).length=H.length:=by grind [l4]
theorem KP{q:Nat}{b:Bool}{H:List Item}{k:Nat}:(l4 q b H)[k]?=if k=q then(match H[k]? with
  |some (.box t [.d .bool c])=>some (.box t [.d .bool (c&&b)])
  |x=>x)else H[k]?:=by grind [l4]
theorem MP(q q':Nat)(b b':Bool)(H:List Item):l4 q b (l4 q' b' H)=l4 q' b' (l4 q b H):=by
 refine anl fun k=>?_
 grind [KP]
theorem Cl(q:Nat)(b:Bool)(H:List Item):(l4 q b H).map ddJ=H.map ddJ:=by
 unfold l4
 split
 ·rename_i t c hq
  refine anl fun k=>?_
  rw[amQ,amQ,amw]
  by_cases e:q=k
  ·subst e
   rw[ama rfl,ama (alP.1 hq).1,hq]
   rfl
  grind
 ·rfl
def Dd(H1 H2:List Item):Prop:=H1.length=H2.length∧∀(j:Nat) it1 it2,H1[j]?=some it1→H2[j]?=some it2→it1=it2∨it1=ddI it2
theorem adQ(Hb X:List Item):Dd (Hb.map ddI++X) (Hb++X):=by
 refine⟨by simp,fun j it1 it2 h1 h2=>?_⟩
 grind
section
variable {Z:Nat→Prop} {w0:World} {H1 H2:List Item} {G G':List Value} {w w':World}
theorem Dd.at2(h:Dd H1 H2){j:Nat}{it1:Item}(h1:H1[j]?=some it1):∃it2,H2[j]?=some it2∧(it1=it2∨it1=ddI it2)∧it2.live=it1.live:=by
 have hlt:j<H2.length:=by rw[←h.1];exact(alP.1 h1).1
 refine⟨H2[j],alG hlt,h.2 j _ _ h1 (alG hlt),?_⟩
 rcases h.2 j _ _ h1 (alG hlt)with e|e
 ·rw[e]
 ·rw[e,Ez]
theorem Dd.at1(h:Dd H1 H2){j:Nat}{it2:Item}(h2:H2[j]?=some it2):∃it1,H1[j]?=some it1∧(it1=it2∨it1=ddI it2)∧it1.live=it2.live:=by
 have hlt:j<H1.length:=by rw[h.1];exact(alP.1 h2).1
 refine⟨H1[j],alG hlt,h.2 j _ _ (alG hlt) h2,?_⟩
 rcases h.2 j _ _ (alG hlt) h2 with e|e
 ·rw[e]
 ·rw[e,Ez]
theorem yV(h:Dd H1 H2):Av Z H1 G=Av Z H2 G:=by
 funext b
 refine propext ⟨fun⟨h1,h2⟩=>⟨h1,fun j it g q1 q2 q3=>?_⟩,fun⟨h1,h2⟩=>⟨h1,fun j it g q1 q2 q3=>?_⟩⟩
 ·obtain⟨it1,e1,_,e3⟩:=h.at1 q1
  grind
 ·obtain⟨it2,e1,_,e3⟩:=h.at2 q1
  grind
theorem zh(it:Item):ddI it=it∨∃t b,it=.box t [.d .bool b]∧ddI it=.box t [.dead]:=by
 unfold ddI
 grind
theorem agl(h:Dd H1 H2)(hr:SR Z w0 H2 G w):SR Z w0 H1 G w:=by
 refine⟨hr.len.trans h.1.symm,hr.below,fun j it g h1 hg=>?_,fun i j it jt g k b hij h1 h2 l1 l2=>?_,hr.zf⟩
 ·obtain⟨it2,e1,e2,_⟩:=h.at2 h1
  rw[yV h]
  have:=hr.items j it2 g e1 hg
  rcases e2 with e2|e2
  ·grind
  ·rcases zh it2 with e3|⟨t,b,e3,e4⟩
   ·grind
   ·rw[e2,e4]
    rw[e3]at this
    obtain⟨b',vs,k1,k2,k3,k4⟩:=this
    refine⟨b',vs,k1,k2,k3,?_⟩
    match vs,k4 with
    |[v],⟨_,q⟩=>exact⟨trivial,q⟩
 ·obtain⟨i2,e1,_,e3⟩:=h.at2 h1
  obtain⟨j2,f1,_,f3⟩:=h.at2 h2
  exact hr.disj i j i2 j2 g k b hij e1 f1 (e3.trans l1) (f3.trans l2)
theorem afI(h:Dd H1 H2)(hr:SR Z w0 H2 G w)(hold:Old w w')(hr':SR Z w0 H1 G' w')(htr:∀s v,Rel1 G (Av Z H2 G) w s v→Rel1 G' (Av Z H1 G') w' s v):SR Z w0 H2 G' w':=by
 refine⟨hr'.len.trans h.1,hr'.below,fun j it g h2 hg=>?_,fun i j it jt g k b hij h1 h2 l1 l2=>?_,hr'.zf⟩
 ·obtain⟨it1,e1,e2,_⟩:=h.at1 h2
  rw[←yV h]
  have:=hr'.items j it1 g e1 hg
  rcases e2 with e2|e2
  ·rw[←e2];exact this
  ·rcases zh it with e3|⟨t,b,e3,e4⟩
   ·grind
   ·subst e3
    have hlt:j<G.length:=by rw[hr.len];exact(alP.1 h2).1
    obtain⟨b',vs,k1,k2,k3,k4⟩:=hr.items j _ _ h2 (alG hlt)
    obtain⟨b2,q1,q2⟩:=htr (.box j 0) G[j] ⟨b',by rw[alG hlt,k1],k1⟩
    rw[hg]at q1
    injection q1 with q1
    rw[k1]at q2
    injection q2 with q2
    injection q2 with q2
    injection q2 with q2
    subst q2
    refine⟨b',vs,q1,k2,?_,?_⟩
    ·show w'.heap[b']?=_
     rw[hold.2 b' k3.lt]
     exact k3
    ·match vs,k4 with
     |[v],⟨q,q'⟩=>exact⟨q,q'⟩
 ·obtain⟨i2,e1,_,e3⟩:=h.at1 h1
  obtain⟨j2,f1,_,f3⟩:=h.at1 h2
  exact hr'.disj i j i2 j2 g k b hij e1 f1 (e3.trans l1) (f3.trans l2)
theorem af0{n:Nat}{L:SL}{a:Act}(h:Dd H1 H2)(hf:FR Z n L H2 G w a):FR Z n L H1 G w a:=⟨hf.defers,hf.size,fun t s hs=>by rw[yV h];exact hf.slot t s hs⟩
end
section
variable {P:Program} {T:TT} {E:Env} {ops:Array Oper}
theorem StepF.up{Hb:List Item}{Lr:SL}{o:Oper}{j:Nat}{s:SV}(h:StepF P (Hb.map ddI) ops Lr o j s):StepF P Hb ops Lr o j s:=by
 intro X Z w0 n G w a Q K hI hr hf hK
 have hD:=adQ Hb X
 refine h X Z w0 n G w a Q K hI (agl hD hr) (af0 hD hf) fun v G' w' ho hr' htr hrel=>?_
 have htr':∀s v,Rel1 G (Av Z (Hb++X) G) w s v→Rel1 G' (Av Z (Hb.map ddI++X) G') w' s v:=fun s v hs=>htr s v (by rw[yV hD];exact hs)
 refine hK v G' w' ho (afI hD hr ho hr' htr') (fun s' v' hs=>?_) ?_
 ·grind [yV]
 grind [yV]
def Yr(P:Program)(H:List Item)(ops:Array Oper)(Lr:SL)(o:Oper)(j q:Nat)(c:Bool)(s:SV):Prop:=
 ∀(Hb X:List Item) (Z:Nat→Prop) (w0:World) (n:Nat) (G:List Value) (w:World) (a:Act) (Q:Exit→Act→World→Prop) (K:Act→World→Prop),Hb.map ddJ=H→inv w0→SR Z w0 (Hb++X) G w→FR Z n Lr (Hb++X) G w a→
  (∀v w',SR Z w0 (l4 q c Hb++X) G w'→(∀s' v',Rel1 G (Av Z (Hb++X) G) w s' v'→Rel1 G (Av Z (l4 q c Hb++X) G) w' s' v')→Rel G (Av Z (l4 q c Hb++X) G) w' s v→K (a.put o.dst v) w')→wpOp P ops Q j K a w
theorem Pu{it:Item}{t:Nat}(h:ddJ it=.box t [.d .bool false]):∃b,it=.box t [.d .bool b]:=by
 unfold ddJ at h
 grind
theorem QB{q:Nat}{c:Bool}{Hb X:List Item}{t:Nat}{b:Bool}(h:Hb[q]?=some (.box t [.d .bool b])):l4 q c Hb++X=(Hb++X).set q (.box t [.d .bool (b&&c)]):=by grind [l4]
theorem SS{Lr:SL}{Hc:List Item}{o:Oper}{j q:Nat}{c:Bool}{s:SV}(hE:lz P E)(hops:ops[j]?=some o)(hg:da ops Lr o (fun _=>some true) (fun _=>some false)=some true)(h:bxC E Lr Hc o=some (q,s,c)):Yr P (Hc.map ddJ) ops Lr o j q c s:=by
 intro Hb X Z w0 n G w a Q K hHb hI hr hf hK
 have want:Region.wanted o (yielded ops a.tmps)=true:=by
  rcases fA hf hg with⟨_,_,_,h3⟩|⟨_,h1,_,_⟩
  ·exact h3
  ·cases h1
 unfold bxC at h
 split at h<;>try (cases h;done)
 rename_i f x y z tys ho
 split at h<;>try (cases h;done)
 rename_i t ht
 split at h<;>try (cases h;done)
 rename_i q' i c' hx hy hz
 split at h<;>try (cases h;done)
 rename_i t' b0 hq
 split at h<;>try (cases h;done)
 rename_i hbeq
 have ett:=alK hbeq
 subst ett
 simp only[alO,amk]at h
 obtain⟨rfl,rfl,rfl⟩:=h
 obtain⟨b,hb⟩:∃b,Hb[q']?=some (.box t [.d .bool b]):=by
  have e1:(Hb.map ddJ)[q']?=some (.box t [.d .bool false]):=by
   rw[hHb,amQ,hq]
   rfl
  rw[amQ]at e1
  cases hk:Hb[q']? with
  |none=>rw[hk]at e1;cases e1
  |some it=>
   rw[hk]at e1
   injection e1 with e1
   obtain⟨b,e2⟩:=Pu e1
   exact⟨b,by rw[e2]⟩
 have hlt:=(alP.1 hb).1
 have hbX:(Hb++X)[q']?=some (.box t [.d .bool b]):=by rw[al2 hlt];exact hb
 obtain⟨sp,m,hsp,hm,hbx⟩:∃sp m,oe E f=some sp∧sp.mut_=some m∧m.bx=some t:=by
  unfold aa2 at ht
  split at ht<;>try (cases ht;done)
  rename_i sp hsp
  split at ht<;>try (cases ht;done)
  rename_i m hm
  exact⟨sp,m,hsp,hm,ht⟩
 obtain⟨hcl,_,hmc⟩:=hE f sp hsp
 have hmc:=hmc m hm
 unfold Kb at hmc
 rw[hbx]at hmc
 dsimp only at hmc
 obtain⟨blk,g1,g2⟩:=aL hf hx
 obtain⟨cs,g3,g4⟩:=aL hf hy
 obtain⟨cs',g5,g6⟩:=aL hf hz
 obtain⟨l1,l2,e0,e1,e2⟩:=g3
 have e1:l1=[Value.int .i64 i.1]:=e1
 have e2:l2=[Value.int .i64 i.2]:=e2
 have e5:cs'=[Value.bool c']:=g5
 subst e1 e2 e5
 subst e0
 have g4:a.eval y=.agg #[.int .i64 i.1,.int .i64 i.2]:=g4
 have g6:a.eval z=.bool c':=g6
 obtain⟨b',vs,k1,k2,k3,k4⟩:=hr.items q' _ _ hbX g1
 injection k1 with k1
 injection k1 with k1
 injection k1 with k1
 subst k1
 have evs:vs=[Value.bool b]:=by
  match vs,k4 with
  |[v],⟨⟨cs,q1,q2⟩,_⟩=>
   have q1:cs=[Value.bool b]:=q1
   subst q1
   rw[q2]
   rfl
 subst evs
 unfold wpOp
 simp only[hops]
 rw[ama want]
 refine .inl ?_
 unfold Oper.wp
 rw[mz hcl a.eval o (.func f) ⟨[x,y,z]⟩ tys #[] ho rfl w]
 have ea:Array.map a.eval ⟨[x,y,z]⟩++ #[]= #[.pointer (some ⟨blk,0,none⟩),.agg #[.int .i64 i.1,.int .i64 i.2],.bool c']:=by
  simp[g2,g4,g6]
 rw[ea]
 refine(hmc w blk b c' i.1 i.2 (qA hI hr.below) k3).mono ?_
 rintro e w' ⟨rfl,r1,r2⟩
 have hblk:∀b',b'<w.heap.size→(∀g',G[q']?=some g'→bS g'≠some b')→w'.heap[b']?=w.heap[b']?:=fun b' hb' hn=>r2.block b' hb' fun e2=>hn _ g1 e2.symm
 have hB:Below w0.heap.size w0 w':=hr.below.grown r2 hr.below.size fun p hp=>by injection hp with hp;subst hp;exact k2
 have hst:=oZ (it':=.box t [.d .bool (b&&c')]) hr hbX rfl hB r2.size hblk
 rw[QB hb]at hK
 refine hK _ w' (Ax hr hbX rfl hB r2.size hblk fun g' hg'=>?_) (fun s' v' hs=>dH hr hst hs) ?_
 ·rw[g1]at hg'
  injection hg' with hg'
  subst hg'
  exact⟨blk,[.bool (b&&c')],rfl,k2,r1,⟨⟨[Value.bool (b&&c')],rfl,rfl⟩,trivial⟩⟩
 ·exact⟨[.int .i64 i.1,.int .i64 i.2],⟨[.int .i64 i.1],[.int .i64 i.2],rfl,rfl,rfl⟩,rfl⟩
end
end
section
section
variable {P:Program} {T:TT} {E:Env} {ops:Array Oper} {R:Type}
def StepK(P:Program)(H:List Item)(K:List Item→List Item)(ops:Array Oper)(Lr:SL)(o:Oper)(j:Nat)(s:SV):Prop:=
 (K=id∧StepF P (H.map ddI) ops Lr o j s)∨∃q c,K=l4 q c∧Yr P H ops Lr o j q c s
inductive TRunB (P:Program) (E:Env) (ops:Array Oper) (N:Nat) (H:List Item) (lo:Bool) (Fin:Nat→Array Bool→SL→Prop):Nat→Array Bool→SL→(List Item→List Item)→Prop
 |done {n:Nat} {l:Array Bool} {L:SL}:fB E ops l=true→Fin n l L→TRunB P E ops N H lo Fin n l L id
 |step {n:Nat} {l:Array Bool} {L L':SL} {j:Nat} {o:Oper} {d:Nat} {s:SV} {K F:List Item→List Item}:j∈Region.ready .any ops l→(jh E ops j=true∨lo=true)→eu E ops j=true→ops[j]?=some o→o.dst=some d→d<N→Region.free .any ops l j=true→StepK P H K ops (hU L (o.looksAt ops)) o j s→
   s.refsT H.length=true→(∀t,aN L' t=if t=d then some s else aN L t)→TRunB P E ops N H lo Fin n (l.setIfInBounds j true) L' F→TRunB P E ops N H lo Fin (n+1) l L (fun x=>F (K x))
variable {N:Nat} {H:List Item} {lo:Bool} {Fin:Nat→Array Bool→SL→Prop}
theorem StepK.com{K K':List Item→List Item}{Lr Lr':SL}{o o':Oper}{j j':Nat}{s s':SV}(h:StepK P H K ops Lr o j s)(h':StepK P H K' ops Lr' o' j' s')(x:List Item):K (K' x)=K' (K x):=by
 rcases h with⟨rfl,_⟩|⟨q,c,rfl,_⟩
 ·rfl
 ·rcases h' with⟨rfl,_⟩|⟨q',c',rfl,_⟩
  ·rfl
  simp[MP]
theorem StepK.ddJ{K:List Item→List Item}{Lr:SL}{o:Oper}{j:Nat}{s:SV}(h:StepK P H K ops Lr o j s)(x:List Item):(K x).map ddJ=x.map ddJ:=by
 rcases h with⟨rfl,_⟩|⟨q,c,rfl,_⟩
 ·rfl
 simp[Cl]
theorem TRunB.any{n:Nat}{l:Array Bool}{L:SL}{F:List Item→List Item}(h:TRunB P E ops N H lo Fin n l L F):Clo ops l→∀{j:Nat},j∈Region.ready .any ops l→eu E ops j=true→
  ∃(n':Nat) (o:Oper) (d:Nat) (s:SV) (L':SL) (K F':List Item→List Item),n=n'+1∧ops[j]?=some o∧o.dst=some d∧d<N∧StepK P H K ops (hU L (o.looksAt ops)) o j s∧s.refsT H.length=true∧(∀t,aN L' t=if t=d then some s else aN L t)∧TRunB P E ops N H lo Fin n' (l.setIfInBounds j true) L' F'∧F=fun x=>F' (K x):=by
 induction h with
 |done h1 h2=>intro hcl j hj hs;rw[pk hcl h1 hj]at hs;cases hs
 | @step n l L L1 i oi di si Ki Fi h1 h0 h0' h2 h3 h4 h5 h6 hrf h7 h8 ih=>
  intro hcl j hj hst
  by_cases hji:j=i
  ·subst hji
   exact⟨n,oi,di,si,L1,Ki,Fi,rfl,h2,h3,h4,h6,hrf,h7,h8,rfl⟩
  ·obtain⟨n',oj,dj,sj,L2,Kj,F2,e1,g2,g3,g4,g6,grf,g7,g8,g9⟩:=ih (hcl.set h1) (am7 hj hji) hst
   have hjun:=(amM.1 hj).1
   have hap:=ani h2 h5 j oj g2 hji hjun (eG h1 hj g2)
   obtain⟨a1,a2,a3⟩:=aoi hap
   have b1:=a1 di h3
   have b2:dj≠di:=fun e=>a2 di h3 (by rw[g3,e])
   have b3:=a3 dj g3
   have c1:StepK P H Kj ops (hU L (oj.looksAt ops)) oj j sj:=by
    rw[←dP (L:=L1) (M:=L) fun t ht=>by rw[h7 t,al3 (fun e=>b1 (by rw[←e];exact ht))]]
    exact g6
   have c2:StepK P H Ki ops (hU ((dj,sj)::nP L dj) (oi.looksAt ops)) oi i si:=by
    rw[dP (M:=L) fun t ht=>by rw[ct,al3 (fun e=>b3 (by rw[←e];exact ht))]]
    exact h6
   refine⟨n,oj,dj,sj,(dj,sj)::nP L dj,Kj,fun x=>F2 (Ki x),rfl,g2,g3,g4,c1,grf,fun t=>ct,?_,?_⟩
   ·rw[e1]
    refine .step (j:=i) (L':=L2) (am7 h1 (ano hji)) h0 h0' h2 h3 h4 (mi h2 hjun h5) c2 hrf (fun t=>?_) ?_ (s:=si)
    ·rw[g7 t,h7 t,ct]
     by_cases e1:t=dj
     ·subst e1;rw[ama rfl,al3 b2];rw[ama rfl]
     ·rw[al3 e1,al3 e1]
    ·rw[amC _ _ hji]
     exact g8
   ·rw[g9]
    funext x
    show F2 (Kj (Ki x))=F2 (Ki (Kj x))
    rw[g6.com h6]
theorem TRunB.alloc{la:List AlA}(hFin:∀n l L j oj,Fin n l L→Clo ops l→j∈Region.ready .any ops l→fB E ops l=true→ops[j]?=some oj→aZ oj=true→∃n' r a L',n=n'+1∧la[r]?=some a∧a.i=j∧oj.dst=some a.d∧a.d<N∧(∃x,oj.op=.alloc a.t∧dD T a.t=some x∧x.z=true∧(∀p q,x.ty≠.pair p q)∧a.cs=x.ty.zsplit)∧(∀t,aN L' t=if t=a.d then some (.box (H.length+r) 0)else aN L t)∧fB E ops (l.setIfInBounds j true)=true∧Fin n' (l.setIfInBounds j true) L')
  {n:Nat} {l:Array Bool} {L:SL} {F:List Item→List Item} (h:TRunB P E ops N H lo Fin n l L F):Clo ops l→∀{j:Nat} {oj:Oper},j∈Region.ready .any ops l→ops[j]?=some oj→aZ oj=true→
  ∃(n' r:Nat) (a:AlA) (L':SL),n=n'+1∧la[r]?=some a∧a.i=j∧oj.dst=some a.d∧a.d<N∧(∃x,oj.op=.alloc a.t∧dD T a.t=some x∧x.z=true∧(∀p q,x.ty≠.pair p q)∧a.cs=x.ty.zsplit)∧(∀t,aN L' t=if t=a.d then some (.box (H.length+r) 0)else aN L t)∧TRunB P E ops N H lo Fin n' (l.setIfInBounds j true) L' F:=by
 induction h with
 |done h1 h2=>
  intro hcl j oj hj hoj hal
  obtain⟨n',r,a,L',e1,e2,e3,e4,e5,e6,e7,e8,e9⟩:=hFin _ _ _ _ _ h2 hcl hj h1 hoj hal
  exact⟨n',r,a,L',e1,e2,e3,e4,e5,e6,e7,.done e8 e9⟩
 | @step n l L L1 i oi di si Ki Fi h1 h0 h0' h2 h3 h4 h5 h6 hrf h7 h8 ih=>
  intro hcl j oj hj hoj hal
  by_cases hji:j=i
  ·exfalso
   subst hji
   unfold eu at h0'
   rw[hoj]at h0'
   dsimp only at h0'
   rw[iX hal]at h0'
   cases h0'
  ·obtain⟨n',r,x,L2,e1,e2,e3,g3,g4,g5,g7,g8⟩:=ih (hcl.set h1) (am7 hj hji) hoj hal
   have hjun:=(amM.1 hj).1
   have hap:=ani h2 h5 j oj hoj hji hjun (eG h1 hj hoj)
   obtain⟨a1,a2,a3⟩:=aoi hap
   have b2:x.d≠di:=fun e=>a2 di h3 (by rw[g3,e])
   have b3:=a3 x.d g3
   refine⟨n,r,x,(x.d,.box (H.length+r) 0)::nP L x.d,rfl,e2,e3,g3,g4,g5,fun t=>ct,?_⟩
   rw[e1]
   refine .step (j:=i) (L':=L2) (am7 h1 (ano hji)) h0 h0' h2 h3 h4 (mi h2 hjun h5) ?_ hrf (fun t=>?_) ?_ (s:=si)
   ·rw[dP (M:=L) fun t ht=>by rw[ct,al3 (fun e=>b3 (by rw[←e];exact ht))]]
    exact h6
   ·rw[g7 t,h7 t,ct]
    by_cases e1:t=x.d
    ·subst e1;rw[ama rfl,al3 b2];rw[ama rfl]
    ·rw[al3 e1,al3 e1]
   ·rw[amC _ _ hji]
    exact g8
theorem TRunB.store{ss:List AlS}(hFin:∀n l L j oj,Fin n l L→Clo ops l→j∈Region.ready .any ops l→fB E ops l=true→ops[j]?=some oj→eT E ops j=true→∃n' s,n=n'+1∧s∈ss∧s.i=j∧qK T L s oj∧fB E ops (l.setIfInBounds j true)=true∧Fin n' (l.setIfInBounds j true) L)
  {n:Nat} {l:Array Bool} {L:SL} {F:List Item→List Item} (h:TRunB P E ops N H lo Fin n l L F):Clo ops l→∀{j:Nat} {oj:Oper},j∈Region.ready .any ops l→ops[j]?=some oj→eT E ops j=true→
  ∃(n':Nat) (s:AlS),n=n'+1∧s∈ss∧s.i=j∧qK T L s oj∧TRunB P E ops N H lo Fin n' (l.setIfInBounds j true) L F:=by
 induction h with
 |done h1 h2=>
  intro hcl j oj hj hoj hal
  obtain⟨n',s,e1,e2,e3,e4,e5,e6⟩:=hFin _ _ _ _ _ h2 hcl hj h1 hoj hal
  exact⟨n',s,e1,e2,e3,e4,.done e5 e6⟩
 | @step n l L L1 i oi di si Ki Fi h1 h0 h0' h2 h3 h4 h5 h6 hrf h7 h8 ih=>
  intro hcl j oj hj hoj hal
  by_cases hji:j=i
  ·exfalso
   subst hji
   unfold eu at h0'
   unfold eT at hal
   rw[hoj]at h0' hal
   dsimp only at h0' hal
   rw[h0']at hal
   cases hal
  ·obtain⟨n',s,e1,e2,e3,g5,g8⟩:=ih (hcl.set h1) (am7 hj hji) hoj hal
   have hjun:=(amM.1 hj).1
   have hap:=ani h2 h5 j oj hoj hji hjun (eG h1 hj hoj)
   obtain⟨a1,a2,a3⟩:=aoi hap
   have b1:=a1 di h3
   refine⟨n,s,rfl,e2,e3,?_,?_⟩
   ·obtain⟨t,x,v,sv,y,q1,q2,q3,q4,q5,q6⟩:=g5
    have hop:∀{z:Operand} {sz:SV},(∀u,z=.tmp u→u∈oj.looksAt ops)→opS L1 z=some sz→opS L z=some sz:=by
     intro z sz hz he
     cases z with
     |tmp u=>
      simp only[opS]at he ⊢
      rw[h7 u,al3 (fun e=>b1 (by rw[←e];exact hz u rfl))]at he
      exact he
     |_=>exact he
    refine⟨t,x,v,sv,y,q1,q2,q3,hop (fun u hu=>?_) q4,hop (fun u hu=>?_) q5,q6⟩
    ·unfold Oper.looksAt;rw[q1,hu];simp[Op.operands]
    ·unfold Oper.looksAt;rw[q1,hu];simp[Op.operands]
   ·rw[e1]
    refine .step (j:=i) (L':=L1) (am7 h1 (ano hji)) h0 h0' h2 h3 h4 (mi h2 hjun h5) h6 hrf h7 ?_ (s:=si)
    rw[amC _ _ hji]
    exact g8
theorem xR{H':List Item}{la:List AlA}{ss:List AlS}(hp:PlanOk T ops N H la ss)(hnew:∀s∈ss,H.length≤s.j)(hl:H'.length=H.length):PlanOk T ops N H' la ss:=by
 refine⟨hp.dis,fun a ha=>?_,fun s hs=>?_,hp.far⟩
 ·rw[hl];exact hp.la2 a ha
 ·obtain⟨q1,q2,q3,bt,cells,q4,q5⟩:=hp.ss1 s hs
  grind
theorem Iq{h0:Nat}{Hb:List Item}(h:mX h0 (Hb.map ddJ)):mX h0 Hb:=by
 intro k t cs hk x hx
 have e:(Hb.map ddJ)[k]?=some (ddJ (.box t cs)):=by rw[amQ,hk];rfl
 unfold ddJ at e
 split at e
 ·rename_i t' b heq
  injection heq with e1 e2
  subst e2
  have:x=.d .bool b:=by simpa using hx
  subst this
  rfl
 ·exact h k t cs e x hx
theorem zl{f:Nat→Bool}{h0:Nat}{Y:List Item}:∀{ss:List AlS},(∀s∈ss,h0≤s.j)→∃X,∀H:List Item,H.length=h0→cG f ss (H++Y)=H++X
 |[],_=>⟨Y,fun _ _=>rfl⟩
 |s::r,h=>by
  obtain⟨X,hX⟩:=zl (f:=f) (h0:=h0) (Y:=Y) (ss:=r) fun s hs=>h s (by simp[hs])
  have hs:=h s (by simp)
  cases hf:f s.i with
  |false=>exact⟨X,fun H hl=>by simp only[cG];rw[hf];exact hX H hl⟩
  |true=>
   refine⟨match X[s.j-h0]? with
    |some (.box bt cells)=>X.set (s.j-h0) (.box bt (oA cells s.off s.l))
    |_=>X,fun H hl=>?_⟩
   simp only[cG]
   rw[hf,hX H hl]
   dsimp only
   unfold stP
   rw[amj (by omega),hl]
   split
   ·rename_i bt cells hx
    rw[List.set_append,al3 (by omega),hl]
    simp only[hx]
   ·rename_i hx
    split
    ·rename_i bt cells hy
     exact absurd hy (hx bt cells)
    ·rfl
theorem CW{h0:Nat}{Hb:List Item}(h:mX h0 Hb):mX h0 (Hb.map ddJ):=by
 intro k t cs hk x hx
 rw[amQ]at hk
 cases e:Hb[k]? with
 |none=>rw[e]at hk;cases hk
 |some it=>
  rw[e]at hk
  injection hk with hk
  unfold ddJ at hk
  split at hk
  ·injection hk with h1 h2
   subst h2
   have:x=.d .bool false:=by simpa using hx
   subst this
   rfl
  ·subst hk
   exact h k t cs e x hx
theorem TRunB.sound{Z:Nat→Prop}{w0:World}{fl:Nat}{Q:Exit→Act→World→Prop}{X:List Item→List Value→World→Prop}{la:List AlA}{ss:List AlS}{Hf:List Item}(hT:fb P T=true)(hE:lz P E)(hI:inv w0)
  (hFin:∀n l L j oj,Fin n l L→Clo ops l→j∈Region.ready .any ops l→fB E ops l=true→ops[j]?=some oj→aZ oj=true→∃n' r a L',n=n'+1∧la[r]?=some a∧a.i=j∧oj.dst=some a.d∧a.d<N∧(∃x,oj.op=.alloc a.t∧dD T a.t=some x∧x.z=true∧(∀p q,x.ty≠.pair p q)∧a.cs=x.ty.zsplit)∧(∀t,aN L' t=if t=a.d then some (.box (H.length+r) 0)else aN L t)∧fB E ops (l.setIfInBounds j true)=true∧Fin n' (l.setIfInBounds j true) L')
  (hFinS:lo=true→∀n l L j oj,Fin n l L→Clo ops l→j∈Region.ready .any ops l→fB E ops l=true→ops[j]?=some oj→eT E ops j=true→∃n' s,n=n'+1∧s∈ss∧s.i=j∧qK T L s oj∧fB E ops (l.setIfInBounds j true)=true∧Fin n' (l.setIfInBounds j true) L)
  (hp0:PlanOk T ops N H la ss) (hnew:∀s∈ss,H.length≤s.j) (hlow0:mX H.length H) (hfl:fl≤H.length)
  (hX:∀H G w H' G' w',X H G w→Ev Z fl H G w H' G' w'→X H' G' w') (hQ:∀n l L G w a,fB E ops l=true→Fin n l L→Clo ops l→l.size=ops.size→yS H.length la (dn l) L→SR Z w0 (cG (dn l) ss (Hf++alX (dn l) la)) G w→FR Z N L (cG (dn l) ss (Hf++alX (dn l) la)) G w a→X (cG (dn l) ss (Hf++alX (dn l) la)) G w→wpG P ops Q (fun _=>True) n l a w):
  ∀(n:Nat) (l:Array Bool) (L:SL) (F:List Item→List Item),TRunB P E ops N H lo Fin n l L F→∀Hb,Hb.map ddJ=H→F Hb=Hf→Clo ops l→l.size=ops.size→yS H.length la (dn l) L→∀(G:List Value) (w:World) (a:Act),SR Z w0 (cG (dn l) ss (Hb++alX (dn l) la)) G w→FR Z N L (cG (dn l) ss (Hb++alX (dn l) la)) G w a→X (cG (dn l) ss (Hb++alX (dn l) la)) G w→wpG P ops Q (fun _=>True) n l a w:=by
 have lowS:∀{l:Array Bool} {L L':SL} {j d:Nat} {s:SV},yS H.length la (dn l) L→s.refsT H.length=true→(∀t,aN L' t=if t=d then some s else aN L t)→yS H.length la (dn (l.setIfInBounds j true)) L':=by
  intro l L L' j d s hL hs hL' t u hu
  rw[hL' t]at hu
  split at hu
  ·injection hu with hu
   subst hu
   exact .inl hs
  ·rcases hL t u hu with h|⟨r,a,h1,h2,h3⟩
   ·exact .inl h
   ·refine .inr ⟨r,a,h1,?_,h3⟩
    rw[jl]
    split
    ·rfl
    ·exact h2
 intro n
 induction n with
 |zero=>
  intro l L F h Hb hHb hF hcl hsz hL G w a hr hf hx
  cases h with
  |done h1 h2=>subst hF;exact hQ 0 l L G w a h1 h2 hcl hsz hL hr hf hx
 |succ n ih=>
  intro l L F h Hb hHb hF hcl hsz hL G w a hr hf hx
  have h':=h
  have hlen:Hb.length=H.length:=by rw[←hHb,anq]
  have hp:PlanOk T ops N Hb la ss:=xR hp0 hnew hlen
  have hlow:mX Hb.length Hb:=by rw[hlen];exact Iq (by rw[hHb];exact hlow0)
  cases h with
  |done h1 h2=>subst hF;exact hQ _ l L G w a h1 h2 hcl hsz hL hr hf hx
  | @step _ _ _ L1 i oi di si Ki Fi h1 h0 h0' h2 h3 h4 h5 h6 hrf h7 h8=>
   refine wj rfl (fun e=>by rw[e]at h1;cases h1) fun j hj=>?_
   obtain⟨hjun,oj,hoj,_⟩:=amM.1 hj
   cases hnl:eT E ops j with
   |true=>
    have hlo:lo=true:=h0.resolve_left fun h0=>by
     rw[xL hcl h0 (amM.1 h1).1 hj]at hnl
     cases hnl
    obtain⟨n',s,e1,e2,e3,g5,g8⟩:=h'.store (T:=T) (hFinS hlo) hcl hj hoj hnl
    have e1:n=n':=by omega
    subst e1 e3
    obtain⟨_,oj',hoj',hdep⟩:=amM.1 hj
    rw[hoj]at hoj'
    injection hoj' with hoj'
    subst hoj'
    obtain⟨bt,c',b1,b2⟩:=hp.box hcl e2 fun os hos e he hb=>by rw[hoj]at hos;injection hos with hos;subst hos;exact hdep e he hb
    refine rm (fl:=fl) hT hE hI hoj g5 b1 b2 hr hf hx hX fun G' w' k2 k3 k5=>⟨.inr trivial,?_⟩
    rw[←hp.setS e2 hjun]at k2 k3 k5
    refine ih _ _ _ g8 Hb hHb hF (hcl.set hj) (by simpa using hsz) (fun t u hu=>?_) G' w' _ k2 k3 k5
    rcases hL t u hu with h|⟨r,b,q1,q2,q3⟩
    ·exact .inl h
    ·refine .inr ⟨r,b,q1,?_,q3⟩
     rw[jl]
     split
     ·rfl
     ·exact q2
   |false=>
   cases hal:aZ oj with
   |false=>
    have hst:eu E ops j=true:=by
     unfold eT at hnl
     unfold eu
     rw[hoj]at hnl ⊢
     simpa [hal]using hnl
    obtain⟨n',o,d,s,L',K,F',e1,g2,g3,g4,g5,grf,g6,g7,g9⟩:=h'.any hcl hj hst
    have e1:n=n':=by omega
    subst e1
    have hno:aZ o=false:=by rw[hoj]at g2;injection g2 with g2;subst g2;exact hal
    rw[g9]at hF
    rcases g5 with⟨rfl,g5⟩|⟨q,c,rfl,g5⟩
    ·have e1:=hp.setT (l:=l) g2 hno g3
     obtain⟨Y,hY⟩:=tJ (f:=dn l) (H:=Hb) (Y:=alX (dn l) la) (fun s hs=>by rw[hlen];exact hnew s hs)
     rw[hY]at hr hf hx
     rw[←Eu hHb]at g5
     refine g5.up Y Z w0 N G w a Q _ hI hr ⟨hf.defers,hf.size,fun t s' hs=>hf.slot t s' (gY hs)⟩ fun v G' w' k0 k1 k2 k3=>⟨.inr trivial,?_⟩
     rw[hY]at e1
     have hf1:FR Z N ((d,s)::nP L d) (Hb++Y) G' w' (a.put o.dst v):=by
      refine(hf.keep k2).put (d:=o.dst) (s:=s) ?_ k3
      rw[g3]
      simp only[gu]
      rw[amb (show d+1≤N by omega)]
     exact ih _ _ _ g7 Hb hHb hF (hcl.set hj) (by simpa using hsz) (lowS hL grf g6) G' w' _ (by rw[e1];exact k1) (by rw[e1];exact hf1.eqv fun t=>by rw[ct,g6 t]) (by rw[e1];exact hX _ _ _ _ _ _ hx fun s v hs _=>k2 s v hs)
    ·have hp':PlanOk T ops N (l4 q c Hb) la ss:=xR hp (fun s hs=>by rw[hlen];exact hnew s hs) (xw _ _ _)
     have e1:=hp'.setT (l:=l) g2 hno g3
     obtain⟨Y,hYu⟩:=zl (f:=dn l) (h0:=H.length) (Y:=alX (dn l) la) hnew
     have hY:=hYu Hb hlen
     have hY':=hYu (l4 q c Hb) ((xw _ _ _).trans hlen)
     rw[hY]at hr hf hx
     refine g5 Hb Y Z w0 N G w a Q _ hHb hI hr ⟨hf.defers,hf.size,fun t s' hs=>hf.slot t s' (gY hs)⟩ fun v w' k1 k2 k3=>⟨.inr trivial,?_⟩
     rw[hY']at e1
     have hf1:FR Z N ((d,s)::nP L d) (l4 q c Hb++Y) G w' (a.put o.dst v):=by
      refine(hf.keep k2).put (d:=o.dst) (s:=s) ?_ k3
      rw[g3]
      simp only[gu]
      rw[amb (show d+1≤N by omega)]
     exact ih _ _ _ g7 (l4 q c Hb) ((Cl q c Hb).trans hHb) hF (hcl.set hj) (by simpa using hsz) (lowS hL grf g6) G w' _ (by rw[e1];exact k1) (by rw[e1];exact hf1.eqv fun t=>by rw[ct,g6 t]) (by rw[e1];exact hX _ _ _ _ _ _ hx fun s v hs _=>k2 s v hs)
   |true=>
    obtain⟨n',r,x,L',e1,e2,e3,g3,g4,⟨y,y5,y6,y7,y8,y9⟩,g7,g8⟩:=h'.alloc (T:=T) hFin hcl hj hoj hal
    have e1:n=n':=by omega
    subst e1 e3
    obtain⟨hset,hgone⟩:=hp.setA hcl hsz e2 hjun
    rw[←hlen]at g7 hL
    refine rh (L':=L') hT hoj hal e2 g3 g4 y5 ⟨y,y6,y7,y8,y9⟩ hp.dis hjun hgone (hp.low hlow) hL (by rw[hlen];exact hfl) hr hf hx hX g7 fun v G' w' k0 k1 k2 k3=>⟨.inr trivial,?_⟩
    rw[←hset]at k1 k2 k3
    rw[hlen]at g7 hL
    refine ih _ _ _ g8 Hb hHb hF (hcl.set hj) (by simpa using hsz) (fun t u hu=>?_) G' w' _ k1 k2 k3
    rw[g7 t]at hu
    split at hu
    ·injection hu with hu
     exact .inr ⟨r,x,e2,by rw[jl,ama rfl],hu.symm⟩
    ·rcases hL t u hu with h|⟨r',b,q1,q2,q3⟩
     ·exact .inl h
     ·refine .inr ⟨r',b,q1,?_,q3⟩
      rw[jl]
      split
      ·rfl
      ·exact q2
end
section
variable {F:FT} {P:Program} {T:TT} {E:Env} {N:NT} {Fn:Nat→Cfg→Option (List RV)} {r:List RV}
theorem ze{c:Cfg}{i:Nat}{la:List AlA}{ss:List AlS}{m m' n:Nat}{l:Array Bool}{L:SL}(hm:m≤m')(hf:t3 P F T E N Fn r c i la ss m n l L):t3 P F T E N Fn r c i la ss m' n l L:=by
 rcases hf with⟨D',q,e1,e2,e3,e4,e5,e6,e7,e8,e9⟩|⟨D',q,L0,ss',e1,e2,e3,e4,e5,e6,e7,e8⟩|⟨D',q,j',o',e1,e2,e3,e4,e5,e6,e7,e8,e9,e10,e11⟩
 ·exact .inl ⟨D',q,e1,e2,e3,e4,e5,e6,e7,by omega,e9⟩
 ·exact .inr (.inl ⟨D',q,L0,ss',e1,e2,e3,e4,e5,e6,by omega,e8⟩)
 ·exact .inr (.inr ⟨D',q,j',o',e1,e2,e3,e4,e5,e6,e7,e8,e9,by omega,e11⟩)
theorem TRunB.mono{P:Program}{ops:Array Oper}{N:Nat}{H:List Item}{lo:Bool}{Fin Fin':Nat→Array Bool→SL→Prop}(hF:∀n l L,Fin n l L→Fin' n l L){n:Nat}{l:Array Bool}{L:SL}{Φ:List Item→List Item}(h:TRunB P E ops N H lo Fin n l L Φ):TRunB P E ops N H lo Fin' n l L Φ:=by
 induction h with
 |done h1 h2=>exact .done h1 (hF _ _ _ h2)
 |step h1 h0 h0' h2 h3 h4 h5 h6 hrf h7 h8 ih=>exact .step h1 h0 h0' h2 h3 h4 h5 h6 hrf h7 ih
theorem DK{ops:Array Oper}{D:List Nat}:∀{rs:List Nat} {j:Nat},Dx E ops D rs=some j→j∈rs∧∃o d,ops[j]?=some o∧fJ E o=true∧o.dst=some d∧Region.free .any ops (mkL ops.size D) j=true∧(jh E ops j=true∨(!(co E ops))=true)
 |[],_,h=>by simp[Dx]at h
 |q::rs,j,h=>by
  simp only[Dx]at h
  split at h<;>try (cases h;done)
  rename_i o ho
  split at h
  ·rename_i hb
   injection h with h
   subst h
   simp only[alJ]at hb
   obtain⟨d,hd⟩:=amI.1 hb.1.1.2
   simp only[anT]at hb
   exact⟨by simp,o,d,ho,hb.1.1.1,hd,hb.1.2,hb.2⟩
  ·obtain⟨h1,h2⟩:=DK h
   exact⟨by simp[h1],h2⟩
theorem TRun.fin{ops:Array Oper}{N:Nat}{H:List Item}{lo:Bool}{Fin:Nat→Array Bool→SL→Prop}{n:Nat}{l:Array Bool}{L:SL}(h:TRun P E ops N H lo (fun _ _ _=>False) Fin n l L)(hall:fB E ops l=true)(hcl:Clo ops l):Fin n l L:=by
 cases h with
 |done h1 h2=>exact h2
 |stop h1 h2=>exact h2.elim
 |step h1 _ h0'=>
  grind [pk]
theorem VU(hT:fb P T=true)(hE:lz P E){i:Nat}{c:Cfg}:∀(m:Nat) (D:List Nat) (L:SL) (H:List Item),go P F T E N Fn m {c with L:=L,H:=H} (.tbx i D)=some r→
  cu (mkL (ak (nth (aj F c.f) i)).size D)+D.length=(ak (nth (aj F c.f) i)).size→(∀j∈D,eu E (ak (nth (aj F c.f) i)) j=true)→(∀t s,aN L t=some s→s.refsT H.length=true)→Clo (ak (nth (aj F c.f) i)) (mkL (ak (nth (aj F c.f) i)).size D)→
  ∃la ss Φ,co E (ak (nth (aj F c.f) i))=true∧PlanOk T (ak (nth (aj F c.f) i)) (ntm F c.f) (H.map ddJ) la ss∧(∀s∈ss,H.length≤s.j)∧(Φ H).map ddJ=H.map ddJ∧TRunB P E (ak (nth (aj F c.f) i)) (ntm F c.f) (H.map ddJ) (!(co E (ak (nth (aj F c.f) i)))) (t3 P F T E N Fn r {c with H:=Φ H} i la ss m) ((ak (nth (aj F c.f) i)).size-D.length) (mkL (ak (nth (aj F c.f) i)).size D) L Φ:=by
 intro m
 induction m with
 |zero=>intro D L H h;simp[Vy]at h
 |succ m ih=>
  intro D L H h hlen hD hlowL hcl
  have next:∀{j:Nat} {o:Oper} {d:Nat} {L1 L2:SL} {s:SV} {K:List Item→List Item},j∈Region.ready .any (ak (nth (aj F c.f) i)) (mkL (ak (nth (aj F c.f) i)).size D)→(ak (nth (aj F c.f) i))[j]?=some o→o.dst=some d→Region.free .any (ak (nth (aj F c.f) i)) (mkL (ak (nth (aj F c.f) i)).size D) j=true→(jh E (ak (nth (aj F c.f) i)) j=true∨(!(co E (ak (nth (aj F c.f) i))))=true)→fJ E o=true→D.length+1≤(ak (nth (aj F c.f) i)).size→
    (∀t,aN L1 t=aN L t)→StepK P (H.map ddJ) K (ak (nth (aj F c.f) i)) (hU L (o.looksAt (ak (nth (aj F c.f) i)))) o j s→(K H).length=H.length→s.refsT H.length=true→gu (ntm F c.f) L1 o.dst s=some L2→go P F T E N Fn m {c with L:=L2,H:=K H} (.tbx i (j::D))=some r→
    ∃la ss Φ,co E (ak (nth (aj F c.f) i))=true∧PlanOk T (ak (nth (aj F c.f) i)) (ntm F c.f) (H.map ddJ) la ss∧(∀s∈ss,H.length≤s.j)∧(Φ H).map ddJ=H.map ddJ∧TRunB P E (ak (nth (aj F c.f) i)) (ntm F c.f) (H.map ddJ) (!(co E (ak (nth (aj F c.f) i)))) (t3 P F T E N Fn r {c with H:=Φ H} i la ss (m+1)) ((ak (nth (aj F c.f) i)).size-D.length) (mkL (ak (nth (aj F c.f) i)).size D) L Φ:=by
   intro j o d L1 L2 s K h1 h2 h3 h4 h4' h4'' h5 h6 h7 hK hrf h8 h9
   have htj:eu E (ak (nth (aj F c.f) i)) j=true:=by unfold eu;rw[h2];exact h4''
   have hcu:=zr (amM.1 h1).1
   rw[h3]at h8
   simp only[gu]at h8
   split at h8<;>try (cases h8;done)
   rename_i hd
   have hd:=alM hd
   injection h8 with h8
   have hlk:∀t,aN L2 t=if t=d then some s else aN L t:=fun t=>by rw[←h8,ct,h6 t]
   obtain⟨la,ss,Φ,hstr,hp,hnew,hlenΦ,h10⟩:=ih (j::D) L2 (K H) h9 (by
    rw[alY]
    show cu ((mkL _ D).setIfInBounds j true)+_=_
    omega) (fun k hk=>by
    rcases al0.1 hk with e|hk
    ·subst e;exact htj
    ·exact hD k hk) (fun t u hu=>by
    rw[hK]
    rw[hlk t]at hu
    split at hu
    ·injection hu with hu;subst hu;exact hrf
    ·exact hlowL t u hu) (hcl.set h1)
   rw[h7.ddJ]at hp h10
   refine⟨la,ss,fun x=>Φ (K x),hstr,hp,fun s hs=>by rw[←hK];exact hnew s hs,hlenΦ.trans (h7.ddJ H),?_⟩
   rw[show(ak (nth (aj F c.f) i)).size-D.length=((ak (nth (aj F c.f) i)).size-(j::D).length)+1 by simp;omega]
   exact .step (L':=L2) h1 h4' htj h2 h3 (by omega) h4 h7 (by rw[anq];exact hrf) hlk (h10.mono fun n l L hf=>ze (Nat.le_succ _) hf)
  rw[T4]at h;simp only[stC]at h
  split at h
  ·rename_i hall
   split at h<;>try (cases h;done)
   rename_i hstr
   obtain⟨la,ss,hp,hnew,hrun⟩:=Jq hT hE (c:={c with H:=H}) m D L h hlen hD hlowL hcl
   refine⟨la,ss,id,hstr,xR hp hnew (anq _),hnew,rfl,?_⟩
   exact .done hall (ze (Nat.le_succ _) (hrun.fin hall hcl))
  ·rename_i hall
   split at h<;>try (cases h;done)
   rename_i j hb hj
   have hb:=alM hb
   obtain⟨g1,o',d,g2,gt,g3,g4,g5⟩:=DK hj
   split at h<;>try (cases h;done)
   rename_i o ho
   rw[ho]at g2
   injection g2 with g2
   subst g2
   rcases pF h with⟨L1,k1,k2,k3⟩|⟨L1,k1,k2,k3⟩
   ·rw[dP (M:=L) fun t _=>k1 t]at k2
    split at k2
    ·rename_i q s b hbx
     split at k2<;>try (cases k2;done)
     rename_i L2 hp hrf
     exact next g1 ho g3 g4 g5 gt hb k1 (.inr ⟨q,b,rfl,SS hE ho k3 hbx⟩) (xw _ _ _) hrf hp k2
    ·obtain⟨s,q1,q2,_⟩:=Ch hT hE ho k3 k2
     split at q1<;>try (cases q1;done)
     rename_i L2 hp hrf
     exact next (K:=id) g1 ho g3 g4 g5 gt hb k1 (.inl ⟨rfl,by rw[Eu rfl]at q2;exact q2⟩) rfl hrf hp q1
   ·split at k2<;>try (cases k2;done)
    rename_i L2 hp
    exact next (K:=id) g1 ho g3 g4 g5 gt hb k1 (.inl ⟨rfl,qY ho k3⟩) rfl rfl hp k2
end
end
end Go.Proofs.YtnkndpoojnflmaaGreat
end
