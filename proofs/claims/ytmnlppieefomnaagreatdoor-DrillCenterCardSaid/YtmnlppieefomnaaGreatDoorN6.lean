/- Regions with joining calls: every order does. -/
import Derived.Test.YtmnlppieefomnaaGreatDoorN5
noncomputable section
namespace Go.Proofs.YtmnlppieefomnaaGreatDoor
open Go.RowKit Go.IntKind
theorem amh:type_of% @decide_eq_true:=@decide_eq_true
theorem ami:type_of% @decide_eq_false:=@decide_eq_false
theorem amo:type_of% @Int.mul_le_mul_of_nonneg_left:=@Int.mul_le_mul_of_nonneg_left
theorem amY:type_of% @Int.le_of_lt:=@Int.le_of_lt
theorem anD:type_of% @Bool.and_self:=@Bool.and_self
theorem aoy:type_of% @Int.toNat_natCast:=@Int.toNat_natCast
theorem aoJ:type_of% @Nat.mul_le_mul:=@Nat.mul_le_mul
theorem ao7:type_of% @Region.noSelect_spec:=@Region.noSelect_spec
section
section
variable {P:Program} {T:TT} {E:Env} {ops:Array Oper} {R:Type}
def StepK(P:Program)(H:List Item)(K:List Item->List Item)(ops:Array Oper)(Lr:SL)(o:Oper)(j:Nat)(s:SV):Prop:=
 (K=id/\StepF P (H.map ddI) ops Lr o j s)\/∃q c,K=l6 q c/\ZX P H ops Lr o j q c s
inductive TRunB (P:Program) (E:Env) (ops:Array Oper) (N:Nat) (H:List Item) (lo:Bool) (Fin:Nat->Array Bool->SL->Prop):Nat->Array Bool->SL->(List Item->List Item)->Prop
 |done {n:Nat} {l:Array Bool} {L:SL}:fA E ops l=true->Fin n l L->TRunB P E ops N H lo Fin n l L id
 |step {n:Nat} {l:Array Bool} {L L':SL} {j:Nat} {o:Oper} {d:Nat} {s:SV} {K F:List Item->List Item}:j∈Region.ready .any ops l->(iV E ops j=true\/lo=true)->dY E ops j=true->ops[j]?=some o->o.dst=some d->d<N->Region.free .any ops l j=true->StepK P H K ops (gI L (o.looksAt ops)) o j s->
   s.refsT H.length=true->(∀t,aI L' t=if t=d then some s else aI L t)->TRunB P E ops N H lo Fin n (l.setIfInBounds j true) L' F->TRunB P E ops N H lo Fin (n+1) l L (λx=>F (K x))
variable {N:Nat} {H:List Item} {lo:Bool} {Fin:Nat->Array Bool->SL->Prop}
theorem StepK.com{K K':List Item->List Item}{Lr Lr':SL}{o o':Oper}{j j':Nat}{s s':SV}(h:StepK P H K ops Lr o j s)(h':StepK P H K' ops Lr' o' j' s')(x:List Item):K (K' x)=K' (K x):=by
 rcases h with⟨rfl,_⟩|⟨q,c,rfl,_⟩
 ·rfl
 ·rcases h' with⟨rfl,_⟩|⟨q',c',rfl,_⟩
  ·rfl
  simp[LU]
theorem StepK.ddJ{K:List Item->List Item}{Lr:SL}{o:Oper}{j:Nat}{s:SV}(h:StepK P H K ops Lr o j s)(x:List Item):(K x).map ddJ=x.map ddJ:=by
 rcases h with⟨rfl,_⟩|⟨q,c,rfl,_⟩
 ·rfl
 simp[EC]
theorem TRunB.any{n:Nat}{l:Array Bool}{L:SL}{F:List Item->List Item}(h:TRunB P E ops N H lo Fin n l L F):Clo ops l->∀{j:Nat},j∈Region.ready .any ops l->dY E ops j=true->
  ∃(n':Nat) (o:Oper) (d:Nat) (s:SV) (L':SL) (K F':List Item->List Item),n=n'+1/\ops[j]?=some o/\o.dst=some d/\d<N/\StepK P H K ops (gI L (o.looksAt ops)) o j s/\s.refsT H.length=true/\(∀t,aI L' t=if t=d then some s else aI L t)/\TRunB P E ops N H lo Fin n' (l.setIfInBounds j true) L' F'/\F=λx=>F' (K x):=by
 induction h with
 |done h1 h2=>intro hcl j hj hs;rw[pF hcl h1 hj]at hs;cases hs
 | @step n l L L1 i oi di si Ki Fi h1 h0 h0' h2 h3 h4 h5 h6 hrf h7 h8 ih=>
  intro hcl j hj hst;by_cases hji:j=i
  ·subst hji;exact⟨n,oi,di,si,L1,Ki,Fi,rfl,h2,h3,h4,h6,hrf,h7,h8,rfl⟩
  ·obtain⟨n',oj,dj,sj,L2,Kj,F2,e1,g2,g3,g4,g6,grf,g7,g8,g9⟩:=ih (hcl.set h1) (anJ hj hji) hst;have hjun:=(anm.1 hj).1;have hap:=anV h2 h5 j oj g2 hji hjun (ez h1 hj g2);obtain⟨a1,a2,a3⟩:=aoV hap;have b1:=a1 di h3;have b2:dj≠di:=λe=>a2 di h3 (by rw[g3,e]);have b3:=a3 dj g3
   have c1:StepK P H Kj ops (gI L (oj.looksAt ops)) oj j sj:=by
    rw[<-dN (L:=L1) (M:=L) λt ht=>by rw[h7 t,amJ (λe=>b1 (by rw[<-e];exact ht))]];exact g6
   have c2:StepK P H Ki ops (gI ((dj,sj)::nS L dj) (oi.looksAt ops)) oi i si:=by
    rw[dN (M:=L) λt ht=>by rw[ck,amJ (λe=>b3 (by rw[<-e];exact ht))]];exact h6
   refine⟨n,oj,dj,sj,(dj,sj)::nS L dj,Kj,λx=>F2 (Ki x),rfl,g2,g3,g4,c1,grf,λt=>ck,?_,?_⟩
   ·rw[e1];refine .step (j:=i) (L':=L2) (anJ h1 (aod hji)) h0 h0' h2 h3 h4 (mt h2 hjun h5) c2 hrf (λt=>?_) ?_ (s:=si)
    ·rw[g7 t,h7 t,ck];by_cases e1:t=dj
     ·subst e1;rw[am2 rfl,amJ b2];rw[am2 rfl]
     ·rw[amJ e1,amJ e1]
    ·rw[anb _ _ hji];exact g8
   ·rw[g9];funext x;show F2 (Kj (Ki x))=F2 (Ki (Kj x));rw[g6.com h6]
theorem TRunB.alloc{la:List AlA}(hFin:∀n l L j oj,Fin n l L->Clo ops l->j∈Region.ready .any ops l->fA E ops l=true->ops[j]?=some oj->bj oj=true->∃n' r a L',n=n'+1/\la[r]?=some a/\a.i=j/\oj.dst=some a.d/\a.d<N/\(∃x,oj.op=.alloc a.t/\dt T a.t=some x/\x.z=true/\(∀p q,x.ty≠.pair p q)/\a.cs=x.ty.zsplit)/\(∀t,aI L' t=if t=a.d then some (.box (H.length+r) 0)else aI L t)/\fA E ops (l.setIfInBounds j true)=true/\Fin n' (l.setIfInBounds j true) L')
  {n:Nat} {l:Array Bool} {L:SL} {F:List Item->List Item} (h:TRunB P E ops N H lo Fin n l L F):Clo ops l->∀{j:Nat} {oj:Oper},j∈Region.ready .any ops l->ops[j]?=some oj->bj oj=true->
  ∃(n' r:Nat) (a:AlA) (L':SL),n=n'+1/\la[r]?=some a/\a.i=j/\oj.dst=some a.d/\a.d<N/\(∃x,oj.op=.alloc a.t/\dt T a.t=some x/\x.z=true/\(∀p q,x.ty≠.pair p q)/\a.cs=x.ty.zsplit)/\(∀t,aI L' t=if t=a.d then some (.box (H.length+r) 0)else aI L t)/\TRunB P E ops N H lo Fin n' (l.setIfInBounds j true) L' F:=by
 induction h with
 |done h1 h2=>
  intro hcl j oj hj hoj hal;obtain⟨n',r,a,L',e1,e2,e3,e4,e5,e6,e7,e8,e9⟩:=hFin _ _ _ _ _ h2 hcl hj h1 hoj hal;exact⟨n',r,a,L',e1,e2,e3,e4,e5,e6,e7,.done e8 e9⟩
 | @step n l L L1 i oi di si Ki Fi h1 h0 h0' h2 h3 h4 h5 h6 hrf h7 h8 ih=>
  intro hcl j oj hj hoj hal;by_cases hji:j=i
  ·exfalso;subst hji;unfold dY at h0';rw[hoj]at h0';dsimp only at h0';rw[iS hal]at h0';cases h0'
  ·obtain⟨n',r,x,L2,e1,e2,e3,g3,g4,g5,g7,g8⟩:=ih (hcl.set h1) (anJ hj hji) hoj hal;have hjun:=(anm.1 hj).1;have hap:=anV h2 h5 j oj hoj hji hjun (ez h1 hj hoj);obtain⟨a1,a2,a3⟩:=aoV hap;have b2:x.d≠di:=λe=>a2 di h3 (by rw[g3,e]);have b3:=a3 x.d g3;refine⟨n,r,x,(x.d,.box (H.length+r) 0)::nS L x.d,rfl,e2,e3,g3,g4,g5,λt=>ck,?_⟩;rw[e1];refine .step (j:=i) (L':=L2) (anJ h1 (aod hji)) h0 h0' h2 h3 h4 (mt h2 hjun h5) ?_ hrf (λt=>?_) ?_ (s:=si)
   ·rw[dN (M:=L) λt ht=>by rw[ck,amJ (λe=>b3 (by rw[<-e];exact ht))]];exact h6
   ·rw[g7 t,h7 t,ck];by_cases e1:t=x.d
    ·subst e1;rw[am2 rfl,amJ b2];rw[am2 rfl]
    ·rw[amJ e1,amJ e1]
   ·rw[anb _ _ hji];exact g8
theorem TRunB.store{ss:List AlS}(hFin:∀n l L j oj,Fin n l L->Clo ops l->j∈Region.ready .any ops l->fA E ops l=true->ops[j]?=some oj->eF E ops j=true->∃n' s,n=n'+1/\s∈ss/\s.i=j/\qK T L s oj/\fA E ops (l.setIfInBounds j true)=true/\Fin n' (l.setIfInBounds j true) L)
  {n:Nat} {l:Array Bool} {L:SL} {F:List Item->List Item} (h:TRunB P E ops N H lo Fin n l L F):Clo ops l->∀{j:Nat} {oj:Oper},j∈Region.ready .any ops l->ops[j]?=some oj->eF E ops j=true->
  ∃(n':Nat) (s:AlS),n=n'+1/\s∈ss/\s.i=j/\qK T L s oj/\TRunB P E ops N H lo Fin n' (l.setIfInBounds j true) L F:=by
 induction h with
 |done h1 h2=>
  intro hcl j oj hj hoj hal;obtain⟨n',s,e1,e2,e3,e4,e5,e6⟩:=hFin _ _ _ _ _ h2 hcl hj h1 hoj hal;exact⟨n',s,e1,e2,e3,e4,.done e5 e6⟩
 | @step n l L L1 i oi di si Ki Fi h1 h0 h0' h2 h3 h4 h5 h6 hrf h7 h8 ih=>
  intro hcl j oj hj hoj hal;by_cases hji:j=i
  ·exfalso;subst hji;unfold dY at h0';unfold eF at hal;rw[hoj]at h0' hal;dsimp only at h0' hal;rw[h0']at hal;cases hal
  ·obtain⟨n',s,e1,e2,e3,g5,g8⟩:=ih (hcl.set h1) (anJ hj hji) hoj hal;have hjun:=(anm.1 hj).1;have hap:=anV h2 h5 j oj hoj hji hjun (ez h1 hj hoj);obtain⟨a1,a2,a3⟩:=aoV hap;have b1:=a1 di h3;refine⟨n,s,rfl,e2,e3,?_,?_⟩
   ·obtain⟨t,x,v,sv,y,q1,q2,q3,q4,q5,q6⟩:=g5
    have hop:∀{z:Operand} {sz:SV},(∀u,z=.tmp u->u∈oj.looksAt ops)->opS L1 z=some sz->opS L z=some sz:=by
     intro z sz hz he;cases z with
     |tmp u=>
      simp only[opS]at he ⊢;rw[h7 u,amJ (λe=>b1 (by rw[<-e];exact hz u rfl))]at he;exact he
     |_=>exact he
    refine⟨t,x,v,sv,y,q1,q2,q3,hop (λu hu=>?_) q4,hop (λu hu=>?_) q5,q6⟩
    ·unfold Oper.looksAt;rw[q1,hu];simp[Op.operands]
    ·unfold Oper.looksAt;rw[q1,hu];simp[Op.operands]
   ·rw[e1];refine .step (j:=i) (L':=L1) (anJ h1 (aod hji)) h0 h0' h2 h3 h4 (mt h2 hjun h5) h6 hrf h7 ?_ (s:=si);rw[anb _ _ hji];exact g8
theorem za{H':List Item}{la:List AlA}{ss:List AlS}(hp:PlanOk T ops N H la ss)(hnew:∀s∈ss,H.length<=s.j)(hl:H'.length=H.length):PlanOk T ops N H' la ss:=by
 refine⟨hp.dis,λa ha=>?_,λs hs=>?_,hp.far⟩
 ·rw[hl];exact hp.la2 a ha
 ·obtain⟨q1,q2,q3,bt,cells,q4,q5⟩:=hp.ss1 s hs;grind
theorem Ie(h0:Nat)(it:Item):(∀s∈(ddJ it).svs,s.refs h0=true)↔∀s∈it.svs,s.refs h0=true:=by
 unfold ddJ;split
 ·exact⟨λ_ s hs=>(by have:s=_:=amQ.1 hs;subst this;rfl),λ_ s hs=>(by have:s=_:=amQ.1 hs;subst this;rfl)⟩
 ·exact Iff.rfl
theorem Io{h0:Nat}{Hb:List Item}(h:mQ h0 (Hb.map ddJ)):mQ h0 Hb:=by
 intro k it hk;exact(Ie h0 it).1 (h k (ddJ it) (by rw[ane,hk];rfl))
theorem Aw{f:Nat->Bool}{h0:Nat}{Y:List Item}:∀{ss:List AlS},(∀s∈ss,h0<=s.j)->∃X,∀H:List Item,H.length=h0->cD f ss (H++Y)=H++X
 |[],_=>⟨Y,λ_ _=>rfl⟩
 |s::r,h=>by
  obtain⟨X,hX⟩:=Aw (f:=f) (h0:=h0) (Y:=Y) (ss:=r) λs hs=>h s (by simp[hs]);have hs:=h s (by simp);cases hf:f s.i with
  |false=>exact⟨X,λH hl=>by simp only[cD];rw[hf];exact hX H hl⟩
  |true=>
   refine⟨match X[s.j-h0]? with
    |some (.box bt cells)=>X.set (s.j-h0) (.box bt (nK cells s.off s.l))
    |_=>X,λH hl=>?_⟩
   simp only[cD];rw[hf,hX H hl];dsimp only;unfold stP;rw[amN (by omega),hl];split
   ·rename_i bt cells hx;rw[List.set_append,amJ (by omega),hl];simp only[hx]
   ·rename_i hx;split
    ·rename_i bt cells hy;exact absurd hy (hx bt cells)
    ·rfl
theorem E6{h0:Nat}{Hb:List Item}(h:mQ h0 Hb):mQ h0 (Hb.map ddJ):=by
 intro k it hk;rw[ane]at hk;cases e:Hb[k]? with
 |none=>rw[e]at hk;cases hk
 |some i0=>
  rw[e]at hk;injection hk with hk;subst hk;exact(Ie h0 i0).2 (h k i0 e)
theorem TRunB.sound{Z:Nat->Prop}{w0:World}{fl:Nat}{Q:Exit->Act->World->Prop}{X:List Item->List Value->World->Prop}{la:List AlA}{ss:List AlS}{Hf:List Item}(hT:eM P T=true)(hE:kD P E)(hI:inv w0)
  (hFin:∀n l L j oj,Fin n l L->Clo ops l->j∈Region.ready .any ops l->fA E ops l=true->ops[j]?=some oj->bj oj=true->∃n' r a L',n=n'+1/\la[r]?=some a/\a.i=j/\oj.dst=some a.d/\a.d<N/\(∃x,oj.op=.alloc a.t/\dt T a.t=some x/\x.z=true/\(∀p q,x.ty≠.pair p q)/\a.cs=x.ty.zsplit)/\(∀t,aI L' t=if t=a.d then some (.box (H.length+r) 0)else aI L t)/\fA E ops (l.setIfInBounds j true)=true/\Fin n' (l.setIfInBounds j true) L')
  (hFinS:lo=true->∀n l L j oj,Fin n l L->Clo ops l->j∈Region.ready .any ops l->fA E ops l=true->ops[j]?=some oj->eF E ops j=true->∃n' s,n=n'+1/\s∈ss/\s.i=j/\qK T L s oj/\fA E ops (l.setIfInBounds j true)=true/\Fin n' (l.setIfInBounds j true) L)
  (hp0:PlanOk T ops N H la ss) (hnew:∀s∈ss,H.length<=s.j) (hlow0:mQ H.length H) (hfl:fl<=H.length)
  (hX:∀H G w H' G' w',X H G w->Ev Z fl H G w H' G' w'->X H' G' w') (hQ:∀n l L G w a,fA E ops l=true->Fin n l L->Clo ops l->l.size=ops.size->zt H.length la (dn l) L->SR Z w0 (cD (dn l) ss (Hf++alX (dn l) la)) G w->FR Z N L (cD (dn l) ss (Hf++alX (dn l) la)) G w a->X (cD (dn l) ss (Hf++alX (dn l) la)) G w->wpG P ops Q (λ_=>True) n l a w):
  ∀(n:Nat) (l:Array Bool) (L:SL) (F:List Item->List Item),TRunB P E ops N H lo Fin n l L F->∀Hb,Hb.map ddJ=H->F Hb=Hf->Clo ops l->l.size=ops.size->zt H.length la (dn l) L->∀(G:List Value) (w:World) (a:Act),SR Z w0 (cD (dn l) ss (Hb++alX (dn l) la)) G w->FR Z N L (cD (dn l) ss (Hb++alX (dn l) la)) G w a->X (cD (dn l) ss (Hb++alX (dn l) la)) G w->wpG P ops Q (λ_=>True) n l a w:=by
 have lowS:∀{l:Array Bool} {L L':SL} {j d:Nat} {s:SV},zt H.length la (dn l) L->s.refsT H.length=true->(∀t,aI L' t=if t=d then some s else aI L t)->zt H.length la (dn (l.setIfInBounds j true)) L':=by
  intro l L L' j d s hL hs hL' t u hu;rw[hL' t]at hu;split at hu
  ·injection hu with hu;subst hu;exact .inl hs
  ·rcases hL t u hu with h|⟨r,a,h1,h2,h3⟩
   ·exact .inl h
   ·refine .inr ⟨r,a,h1,?_,h3⟩;rw[jy];split
    ·rfl
    ·exact h2
 intro n;induction n with
 |zero=>
  intro l L F h Hb hHb hF hcl hsz hL G w a hr hf hx;cases h with
  |done h1 h2=>subst hF;exact hQ 0 l L G w a h1 h2 hcl hsz hL hr hf hx
 |succ n ih=>
  intro l L F h Hb hHb hF hcl hsz hL G w a hr hf hx;have h':=h;have hlen:Hb.length=H.length:=by rw[<-hHb,anA]
  have hp:PlanOk T ops N Hb la ss:=za hp0 hnew hlen;have hlow:mQ Hb.length Hb:=by rw[hlen];exact Io (by rw[hHb];exact hlow0)
  cases h with
  |done h1 h2=>subst hF;exact hQ _ l L G w a h1 h2 hcl hsz hL hr hf hx
  | @step _ _ _ L1 i oi di si Ki Fi h1 h0 h0' h2 h3 h4 h5 h6 hrf h7 h8=>
   refine v6 rfl (λe=>by rw[e]at h1;cases h1) λj hj=>?_;obtain⟨hjun,oj,hoj,_⟩:=anm.1 hj;cases hnl:eF E ops j with
   |true=>
    have hlo:lo=true:=h0.resolve_left λh0=>by
     rw[xk hcl h0 (anm.1 h1).1 hj]at hnl;cases hnl
    obtain⟨n',s,e1,e2,e3,g5,g8⟩:=h'.store (T:=T) (hFinS hlo) hcl hj hoj hnl;have e1:n=n':=by omega
    subst e1 e3;obtain⟨_,oj',hoj',hdep⟩:=anm.1 hj;rw[hoj]at hoj';injection hoj' with hoj';subst hoj';obtain⟨bt,c',b1,b2⟩:=hp.box hcl e2 λos hos e he hb=>by rw[hoj]at hos;injection hos with hos;subst hos;exact hdep e he hb
    refine rg (fl:=fl) hT hE hI hoj g5 b1 b2 hr hf hx hX λG' w' k2 k3 k5=>⟨.inr trivial,?_⟩
    rw[<-hp.setS e2 hjun]at k2 k3 k5;refine ih _ _ _ g8 Hb hHb hF (hcl.set hj) (by simpa using hsz) (λt u hu=>?_) G' w' _ k2 k3 k5;rcases hL t u hu with h|⟨r,b,q1,q2,q3⟩
    ·exact .inl h
    ·refine .inr ⟨r,b,q1,?_,q3⟩;rw[jy];split
     ·rfl
     ·exact q2
   |false=>
   cases hal:bj oj with
   |false=>
    have hst:dY E ops j=true:=by
     unfold eF at hnl;unfold dY;rw[hoj]at hnl ⊢;simpa [hal]using hnl
    obtain⟨n',o,d,s,L',K,F',e1,g2,g3,g4,g5,grf,g6,g7,g9⟩:=h'.any hcl hj hst;have e1:n=n':=by omega
    subst e1;have hno:bj o=false:=by rw[hoj]at g2;injection g2 with g2;subst g2;exact hal
    rw[g9]at hF;rcases g5 with⟨rfl,g5⟩|⟨q,c,rfl,g5⟩
    ·have e1:=hp.setT (l:=l) g2 hno g3;obtain⟨Y,hY⟩:=tM (f:=dn l) (H:=Hb) (Y:=alX (dn l) la) (λs hs=>by rw[hlen];exact hnew s hs);rw[hY]at hr hf hx;rw[<-EN hHb]at g5;refine g5.up Y Z w0 N G w a Q _ hI hr ⟨hf.defers,hf.size,λt s' hs=>hf.slot t s' (gF hs)⟩ λv G' w' k0 k1 k2 k3=>⟨.inr trivial,?_⟩
     rw[hY]at e1
     have hf1:FR Z N ((d,s)::nS L d) (Hb++Y) G' w' (a.put o.dst v):=by
      refine(hf.keep k2).put (d:=o.dst) (s:=s) ?_ k3;rw[g3];simp only[gg];rw[amI (show d+1<=N by omega)]
     exact ih _ _ _ g7 Hb hHb hF (hcl.set hj) (by simpa using hsz) (lowS hL grf g6) G' w' _ (by rw[e1];exact k1) (by rw[e1];exact hf1.eqv λt=>by rw[ck,g6 t]) (by rw[e1];exact hX _ _ _ _ _ _ hx λs v hs _=>k2 s v hs)
    ·have hp':PlanOk T ops N (l6 q c Hb) la ss:=za hp (λs hs=>by rw[hlen];exact hnew s hs) (zi _ _ _);have e1:=hp'.setT (l:=l) g2 hno g3;obtain⟨Y,hYu⟩:=Aw (f:=dn l) (h0:=H.length) (Y:=alX (dn l) la) hnew;have hY:=hYu Hb hlen;have hY':=hYu (l6 q c Hb) ((zi _ _ _).trans hlen);rw[hY]at hr hf hx;refine g5 Hb Y Z w0 N G w a Q _ hHb hI hr ⟨hf.defers,hf.size,λt s' hs=>hf.slot t s' (gF hs)⟩ λv w' k1 k2 k3=>⟨.inr trivial,?_⟩
     rw[hY']at e1
     have hf1:FR Z N ((d,s)::nS L d) (l6 q c Hb++Y) G w' (a.put o.dst v):=by
      refine(hf.keep k2).put (d:=o.dst) (s:=s) ?_ k3;rw[g3];simp only[gg];rw[amI (show d+1<=N by omega)]
     exact ih _ _ _ g7 (l6 q c Hb) ((EC q c Hb).trans hHb) hF (hcl.set hj) (by simpa using hsz) (lowS hL grf g6) G w' _ (by rw[e1];exact k1) (by rw[e1];exact hf1.eqv λt=>by rw[ck,g6 t]) (by rw[e1];exact hX _ _ _ _ _ _ hx λs v hs _=>k2 s v hs)
   |true=>
    obtain⟨n',r,x,L',e1,e2,e3,g3,g4,⟨y,y5,y6,y7,y8,y9⟩,g7,g8⟩:=h'.alloc (T:=T) hFin hcl hj hoj hal;have e1:n=n':=by omega
    subst e1 e3;obtain⟨hset,hgone⟩:=hp.setA hcl hsz e2 hjun;rw[<-hlen]at g7 hL;refine qY (L':=L') hT hoj hal e2 g3 g4 y5 ⟨y,y6,y7,y8,y9⟩ hp.dis hjun hgone (hp.low hlow) hL (by rw[hlen];exact hfl) hr hf hx hX g7 λv G' w' k0 k1 k2 k3=>⟨.inr trivial,?_⟩
    rw[<-hset]at k1 k2 k3;rw[hlen]at g7 hL;refine ih _ _ _ g8 Hb hHb hF (hcl.set hj) (by simpa using hsz) (λt u hu=>?_) G' w' _ k1 k2 k3;rw[g7 t]at hu;split at hu
    ·injection hu with hu;exact .inr ⟨r,x,e2,by rw[jy,am2 rfl],hu.symm⟩
    ·rcases hL t u hu with h|⟨r',b,q1,q2,q3⟩
     ·exact .inl h
     ·refine .inr ⟨r',b,q1,?_,q3⟩;rw[jy];split
      ·rfl
      ·exact q2
end
section
variable {F:FT} {P:Program} {T:TT} {E:Env} {N:NT} {Fn:Nat->Cfg->Option (List RV)} {r:List RV}
theorem AU{c:Cfg}{i:Nat}{la:List AlA}{ss:List AlS}{m m' n:Nat}{l:Array Bool}{L:SL}(hm:m<=m')(hf:th P F T E N Fn r c i la ss m n l L):th P F T E N Fn r c i la ss m' n l L:=by
 rcases hf with⟨D',q,e1,e2,e3,e4,e5,e6,e7,e8,e9⟩|⟨D',q,L0,ss',e1,e2,e3,e4,e5,e6,e7,e8⟩|⟨D',q,j',o',e1,e2,e3,e4,e5,e6,e7,e8,e9,e10,e11⟩
 ·exact .inl ⟨D',q,e1,e2,e3,e4,e5,e6,e7,by omega,e9⟩
 ·exact .inr (.inl ⟨D',q,L0,ss',e1,e2,e3,e4,e5,e6,by omega,e8⟩)
 ·exact .inr (.inr ⟨D',q,j',o',e1,e2,e3,e4,e5,e6,e7,e8,e9,by omega,e11⟩)
theorem TRunB.mono{P:Program}{ops:Array Oper}{N:Nat}{H:List Item}{lo:Bool}{Fin Fin':Nat->Array Bool->SL->Prop}(hF:∀n l L,Fin n l L->Fin' n l L){n:Nat}{l:Array Bool}{L:SL}{Φ:List Item->List Item}(h:TRunB P E ops N H lo Fin n l L Φ):TRunB P E ops N H lo Fin' n l L Φ:=by
 induction h with
 |done h1 h2=>exact .done h1 (hF _ _ _ h2)
 |step h1 h0 h0' h2 h3 h4 h5 h6 hrf h7 h8 ih=>exact .step h1 h0 h0' h2 h3 h4 h5 h6 hrf h7 ih
theorem E3{ops:Array Oper}{D:List Nat}:∀{rs:List Nat} {j:Nat},Dp E ops D rs=some j->j∈rs/\∃o d,ops[j]?=some o/\fo E o=true/\o.dst=some d/\Region.free .any ops (mkL ops.size D) j=true/\(iV E ops j=true\/(!(ce E ops))=true)
 |[],_,h=>by simp[Dp]at h
 |q::rs,j,h=>by
  simp only[Dp]at h;split at h<;>try (cases h;done)
  rename_i o ho;split at h
  ·rename_i hb;injection h with h;subst h;simp only[aml]at hb;obtain⟨d,hd⟩:=ana.1 hb.1.1.2;simp only[aok]at hb;exact⟨by simp,o,d,ho,hb.1.1.1,hd,hb.1.2,hb.2⟩
  ·obtain⟨h1,h2⟩:=E3 h;exact⟨by simp[h1],h2⟩
theorem TRun.fin{ops:Array Oper}{N:Nat}{H:List Item}{lo:Bool}{Fin:Nat->Array Bool->SL->Prop}{n:Nat}{l:Array Bool}{L:SL}(h:TRun P E ops N H lo (λ_ _ _=>False) Fin n l L)(hall:fA E ops l=true)(hcl:Clo ops l):Fin n l L:=by
 cases h with
 |done h1 h2=>exact h2
 |stop h1 h2=>exact h2.elim
 |step h1 _ h0'=>
  grind [pF]
theorem TP(hT:eM P T=true)(hE:kD P E){i:Nat}{c:Cfg}:∀(m:Nat) (D:List Nat) (L:SL) (H:List Item),go P F T E N Fn m {c with L:=L,H:=H} (.tbx i D)=some r->
  cu (mkL (ak (nth (aj F c.f) i)).size D)+D.length=(ak (nth (aj F c.f) i)).size->(∀j∈D,dY E (ak (nth (aj F c.f) i)) j=true)->(∀t s,aI L t=some s->s.refsT H.length=true)->Clo (ak (nth (aj F c.f) i)) (mkL (ak (nth (aj F c.f) i)).size D)->
  ∃la ss Φ,ce E (ak (nth (aj F c.f) i))=true/\PlanOk T (ak (nth (aj F c.f) i)) (ntm F c.f) (H.map ddJ) la ss/\(∀s∈ss,H.length<=s.j)/\(Φ H).map ddJ=H.map ddJ/\TRunB P E (ak (nth (aj F c.f) i)) (ntm F c.f) (H.map ddJ) (!(ce E (ak (nth (aj F c.f) i)))) (th P F T E N Fn r {c with H:=Φ H} i la ss m) ((ak (nth (aj F c.f) i)).size-D.length) (mkL (ak (nth (aj F c.f) i)).size D) L Φ:=by
 intro m;induction m with
 |zero=>intro D L H h;simp[UI]at h
 |succ m ih=>
  intro D L H h hlen hD hlowL hcl
  have next:∀{j:Nat} {o:Oper} {d:Nat} {L1 L2:SL} {s:SV} {K:List Item->List Item},j∈Region.ready .any (ak (nth (aj F c.f) i)) (mkL (ak (nth (aj F c.f) i)).size D)->(ak (nth (aj F c.f) i))[j]?=some o->o.dst=some d->Region.free .any (ak (nth (aj F c.f) i)) (mkL (ak (nth (aj F c.f) i)).size D) j=true->(iV E (ak (nth (aj F c.f) i)) j=true\/(!(ce E (ak (nth (aj F c.f) i))))=true)->fo E o=true->D.length+1<=(ak (nth (aj F c.f) i)).size->
    (∀t,aI L1 t=aI L t)->StepK P (H.map ddJ) K (ak (nth (aj F c.f) i)) (gI L (o.looksAt (ak (nth (aj F c.f) i)))) o j s->(K H).length=H.length->s.refsT H.length=true->gg (ntm F c.f) L1 o.dst s=some L2->go P F T E N Fn m {c with L:=L2,H:=K H} (.tbx i (j::D))=some r->
    ∃la ss Φ,ce E (ak (nth (aj F c.f) i))=true/\PlanOk T (ak (nth (aj F c.f) i)) (ntm F c.f) (H.map ddJ) la ss/\(∀s∈ss,H.length<=s.j)/\(Φ H).map ddJ=H.map ddJ/\TRunB P E (ak (nth (aj F c.f) i)) (ntm F c.f) (H.map ddJ) (!(ce E (ak (nth (aj F c.f) i)))) (th P F T E N Fn r {c with H:=Φ H} i la ss (m+1)) ((ak (nth (aj F c.f) i)).size-D.length) (mkL (ak (nth (aj F c.f) i)).size D) L Φ:=by
   intro j o d L1 L2 s K h1 h2 h3 h4 h4' h4'' h5 h6 h7 hK hrf h8 h9;have htj:dY E (ak (nth (aj F c.f) i)) j=true:=by unfold dY;rw[h2];exact h4''
   have hcu:=zJ (anm.1 h1).1;rw[h3]at h8;simp only[gg]at h8;split at h8<;>try (cases h8;done)
   rename_i hd;have hd:=amn hd;injection h8 with h8;have hlk:∀t,aI L2 t=if t=d then some s else aI L t:=λt=>by rw[<-h8,ck,h6 t]
   obtain⟨la,ss,Φ,hstr,hp,hnew,hlenΦ,h10⟩:=ih (j::D) L2 (K H) h9 (by
    rw[amD];show cu ((mkL _ D).setIfInBounds j true)+_=_;omega) (λk hk=>by
    rcases amy.1 hk with e|hk
    ·subst e;exact htj
    ·exact hD k hk) (λt u hu=>by
    rw[hK];rw[hlk t]at hu;split at hu
    ·injection hu with hu;subst hu;exact hrf
    ·exact hlowL t u hu) (hcl.set h1)
   rw[h7.ddJ]at hp h10;refine⟨la,ss,λx=>Φ (K x),hstr,hp,λs hs=>by rw[<-hK];exact hnew s hs,hlenΦ.trans (h7.ddJ H),?_⟩;rw[show(ak (nth (aj F c.f) i)).size-D.length=((ak (nth (aj F c.f) i)).size-(j::D).length)+1 by simp;omega];exact .step (L':=L2) h1 h4' htj h2 h3 (by omega) h4 h7 (by rw[anA];exact hrf) hlk (h10.mono λn l L hf=>AU (Nat.le_succ _) hf)
  rw[VY]at h;simp only[stC]at h;split at h
  ·rename_i hall;split at h<;>try (cases h;done)
   rename_i hstr;obtain⟨la,ss,hp,hnew,hrun⟩:=H3 hT hE (c:={c with H:=H}) m D L h hlen hD hlowL hcl;refine⟨la,ss,id,hstr,za hp hnew (anA _),hnew,rfl,?_⟩;exact .done hall (AU (Nat.le_succ _) (hrun.fin hall hcl))
  ·rename_i hall;split at h<;>try (cases h;done)
   rename_i j hb hj;have hb:=amn hb;obtain⟨g1,o',d,g2,gt,g3,g4,g5⟩:=E3 hj;split at h<;>try (cases h;done)
   rename_i o ho;rw[ho]at g2;injection g2 with g2;subst g2;rcases pG h with⟨L1,k1,k2,k3⟩|⟨L1,k1,k2,k3⟩
   ·rw[dN (M:=L) λt _=>k1 t]at k2;split at k2
    ·rename_i q s b hbx;split at k2<;>try (cases k2;done)
     rename_i L2 hp hrf;exact next g1 ho g3 g4 g5 gt hb k1 (.inr ⟨q,b,rfl,Ub hE ho k3 hbx⟩) (zi _ _ _) hrf hp k2
    ·obtain⟨s,q1,q2,_⟩:=Cw hT hE ho k3 k2;split at q1<;>try (cases q1;done)
     rename_i L2 hp hrf;exact next (K:=id) g1 ho g3 g4 g5 gt hb k1 (.inl ⟨rfl,by rw[EN rfl]at q2;exact q2⟩) rfl hrf hp q1
   ·split at k2<;>try (cases k2;done)
    rename_i L2 hp;exact next (K:=id) g1 ho g3 g4 g5 gt hb k1 (.inl ⟨rfl,rJ ho k3⟩) rfl rfl hp k2
end
end
section
theorem DX{P:Program}{fn:Func}{R:Ending->World->Prop}{B:Code}{K:List KI}{i:Nat}{a:Act}{w:World}(S:World->Prop){id:Nat}(hm:P.follows .mixedOrders=true)(hc:nth B i=.region id (ak (nth B i)) true)(h:AtG P fn R B K i S (ak (nth B i)).size [] a w.drew):At P fn R B K i a w:=by
 unfold At;rw[hc];refine wp_region_any hm (ER (S0:=S) _ _ _ _ ?_);simpa [AtG,mkL,ak]using h
theorem AE{n s:Nat}:∀{D:List Nat},s∉D->s<n->(mkL n D).getD s true=false
 |[],_,h=>by simp[mkL,h]
 |j::D,hn,h=>by
  have h1:s≠j:=λe=>hn (by simp[e]);rw[mkL,aoS true (aod h1)];exact AE (λhm=>hn (by simp[hm])) h
theorem CO{ops:Array Oper}:¬storeDone ops (mkL ops.size []):=by
 rintro ⟨s,os,h1,_,h3⟩
 have hlt:=(amw.1 h1).1;simp_all [mkL]
section
variable {Z:Nat->Prop} {w0:World} {F:FT} {P:Program} {T:TT} {E:Env} {N:NT} {Fin:Nat->Cfg->Option (List RV)} {Rt:Ending->World->Prop} {r:List RV}
set_option maxHeartbeats 2000000 in
theorem yK(hT:eM P T=true)(hE:kD P E)(hI:inv w0)(hF:∀f fn,fQ F f=some fn->P.funcs[f]?=some fn)(hm:P.follows .mixedOrders=true)
  (hRt:∀vs H G w ss tys,zz T H ss tys=some r->SR Z w0 H G w->bI (Rel G (Av Z H G) w) ss vs->Rt (.returned (ll vs)) w)
  (hFin:∀i c G w a ats fn,Fin i c=some r->CR Z F w0 c G w a ats->fQ F c.f=some fn->InLoop P (nth (aj F c.f) (i+1)) (iu P fn (fj P F Rt c.fs ats) (aj F c.f) (iy P fn (fj P F Rt c.fs ats) (aj F c.f) c.K)) a w):
  ∀(m:Nat) (c:Cfg) (p:Pos),go P F T E N Fin m c p=some r->∀G w a ats fn,CR Z F w0 c G w a ats->fQ F c.f=some fn->jR P F Rt c fn G w a ats p:=by
 have headOk:∀i c,head N Fin i c=some r->∀G w a ats fn,CR Z F w0 c G w a ats->fQ F c.f=some fn->InLoop P (nth (aj F c.f) (i+1)) (iu P fn (fj P F Rt c.fs ats) (aj F c.f) (iy P fn (fj P F Rt c.fs ats) (aj F c.f) c.K)) a w:=by
  intro i c h G w a ats fn hc hfn;unfold head at h;split at h
  ·split at h<;>try (cases h;done)
   rename_i c' hn;obtain⟨G',k1,k2,k3,k4⟩:=U7 hn hc;have:=hFin i c' G' w a ats fn h k1 (by rw[k2];exact hfn);rw[k2,k3,k4]at this;exact this
  ·exact hFin i c G w a ats fn h hc hfn
 intro m;induction m using Nat.strongRecOn with
 |ind m0 ihs=>
 cases m0 with
 |zero=>intro c p h;simp[UI]at h
 |succ m=>
  have ih:=ihs m (Nat.lt_succ_self m)
  have tail:∀(c:Cfg) (i:Nat) (la:List AlA) (ss:List AlS) (ats:List Act) (fn:Func) (n:Nat) (l:Array Bool) (L:SL) (G:List Value) (w:World) (a:Act),th P F T E N Fin r c i la ss (m+1) n l L->mQ c.H.length c.H->c.fl<=c.H.length->Region.noSelect (ak (nth (aj F c.f) i))=true->Clo (ak (nth (aj F c.f) i)) l->l.size=(ak (nth (aj F c.f) i)).size->SR Z w0 (cD (dn l) ss (c.H++alX (dn l) la)) G w->FR Z (ntm F c.f) L (cD (dn l) ss (c.H++alX (dn l) la)) G w a->FrsOk Z F (cD (dn l) ss (c.H++alX (dn l) la)) G w c.fl c.fs ats->fQ F c.f=some fn->wpG P (ak (nth (aj F c.f) i)) (iu P fn (fj P F Rt c.fs ats) (aj F c.f) (iy P fn (fj P F Rt c.fs ats) (aj F c.f) c.K)) (λ_=>True) n l a w:=by
   intro c i la ss ats fn n l L G w a hf hlow hfl hns hcl hsz k1 k2 k3 hfn;rcases hf with⟨D',q,_,e1,rfl,rfl,rfl,e2,e3,e4,e5⟩|⟨D',q,L0,ss',q1,q2,q3,qW,qS,eC,e2,e3,e4,e5,e6,e7,e8⟩|⟨D',q,j,o,_,_,rfl,rfl,rfl,e2,e2',hrd,ho1,e4,e5⟩
   ·rw[show cD (dn (mkL (ak (nth (aj F c.f) i)).size D')) [] (c.H++alX (dn (mkL (ak (nth (aj F c.f) i)).size D')) [])=c.H from amO _]at k1 k2 k3;refine yd _ _ _ _ (ihs q (by omega) _ _ e5 G w a ats fn ⟨k1,k2,hfl,k3⟩ hfn c.H G w (.inr ⟨Agr.refl,λ_ _ hx=>hx,λ_=>⟨rfl,rfl,rfl⟩,?_⟩) hcl hns n e2);rintro ⟨s,os,h1,h2,h3⟩
    have hlt:=(amw.1 h1).1
    have:s∈D':=by
     apply amB;intro hn;rw[AE hn hlt]at h3;cases h3
    have:=e3 s this os h1;rw[h2]at this;cases this
   ·have hst:cD (dn l) ss (c.H++alX (dn l) la)=cD (dn l) ss' (c.H++alX (dn l) la):=by
     rcases qS with⟨_,rfl,h⟩|⟨_,rfl,_⟩
     ·exact(pN (ss:=ss') h).symm
     ·rfl
    rw[hst]at k1 k2 k3;refine UT (fl:=c.fl) (X:=λH G w=>FrsOk Z F H G w c.fl c.fs ats) hT hE hI q1 q2 q3 qW hlow e7 hfl (by rw[ij]) (λH G w H' G' w' hx hp=>hx.ev hp (amm _)) (λn l G w a r1 r2 r3 r4 r5 r6 u1 u2 u3=>?_) n l e4 hsz e5 e6 hcl G w a k1 (k2.eqv e8) k3
    have hl:l=mkL (ak (nth (aj F c.f) i)).size ((la.map (·.i)++ss'.map (·.i))++D'):=by
     refine Array.ext (by rw[r2,ij]) λk h1 h2=>?_;rw[show l[k]=l.getD k true by simp[h1],show(mkL (ak (nth (aj F c.f) i)).size ((la.map (·.i)++ss'.map (·.i))++D'))[k]=(mkL (ak (nth (aj F c.f) i)).size ((la.map (·.i)++ss'.map (·.i))++D')).getD k true by rw[anq,Array.getElem?_eq_getElem h2];rfl];by_cases hm:k∈(la.map (·.i)++ss'.map (·.i))++D'
     ·rw[Hh hm];rcases amG.1 hm with hm|hm
      ·exact r4 k hm
      ·have:=r3 k (by rw[jX (by rw[ij,<-r2];exact h1)];exact Hh hm);rw[jX h1]at this;exact this
     ·rw[fk hm (by rw[<-r2];exact h1)];cases hq:l.getD k true with
      |false=>rfl
      |true=>
       exfalso;rw[amG,not_or]at hm;rcases r5 k hq with h|h
       ·rw[fk hm.2 (by rw[<-r2];exact h1)]at h;cases h
       ·exact hm.1 h
    subst hl;have hcu:=ML (ak (nth (aj F c.f) i)).size ((la.map (·.i)++ss'.map (·.i))++D');refine E2 ((ak (nth (aj F c.f) i)).size-((la.map (·.i)++ss'.map (·.i))++D').length) n _ _ _ (by omega) (yd _ _ _ _ (ihs q (by omega) _ _ e3 G w a ats fn ⟨u1,u2,by rw[uc,amU];exact amt hfl (Nat.le_add_right _ _),u3⟩ hfn (cD (λ_=>true) ss' (c.H++alX (λ_=>true) la)) G w ?_ r6 hns ((ak (nth (aj F c.f) i)).size-((la.map (·.i)++ss'.map (·.i))++D').length) (Nat.sub_add_cancel eC)));by_cases hsd:storeDone (ak (nth (aj F c.f) i)) (mkL (ak (nth (aj F c.f) i)).size ((la.map (·.i)++ss'.map (·.i))++D'))
    ·exact .inl ⟨hsd,rfl⟩
    ·exact .inr ⟨Agr.refl,λ_ _ hx=>hx,λe=>(by cases e),hsd⟩
   ·rw[show cD (dn (mkL (ak (nth (aj F c.f) i)).size D')) [] (c.H++alX (dn (mkL (ak (nth (aj F c.f) i)).size D')) [])=c.H from amO _]at k1 k2 k3;have hjr:j∈Region.ready .any (ak (nth (aj F c.f) i)) (mkL (ak (nth (aj F c.f) i)).size D'):=by rw[hrd];simp
    obtain⟨n',rfl⟩:∃n',n=n'+1:=⟨n-1,by omega⟩
    have hn':n'=(ak (nth (aj F c.f) i)).size-(j::D').length:=by simp;omega
    refine v6 hrd (by simp) λk hk=>?_;have hk:k=j:=by simpa using hk
    subst hk;unfold wpOp;simp only[ho1];rcases fv k2 e5 with⟨L1,h1,hf1,hw⟩|⟨L1,h1,hf1,hw⟩
    ·rw[am2 hw];refine .inl ?_;unfold Oper.wp;split at h1<;>try (cases h1;done)
     rename_i g ss hin;obtain⟨f,args,tys,fg,caps,e1,e2,e3,e4,e5,e6,e7⟩:=IN hf1 hin;have hcl2:dG P g=true:=by unfold dG;rw[hF g fg e2];simp only[e6,e7,anD]
     rw[kM hcl2 a.eval o f args tys caps e1 e3 w];obtain⟨B,hB⟩:=ana.1 e7;have hbf:aj F g=B:=by simp[aj,e2,hB]
     have hcal:Calls P g (args.map a.eval++caps) w (fj P F Rt ({f:=c.f,K:=c.K,i:=i,k:=k,L:=G7 N c.f i L1,fl:=c.fl,d:=some (k::D')}::c.fs) (a::ats)):=by
      have hto:args.map a.eval++caps=(args.map a.eval++caps).toList.toArray:=by simp
      rw[hto];refine enter (hF g fg e2) hB (amI (by rw[<-dD e4];exact e5)) λa2 hst=>?_
      have:=ihs q (by omega) _ _ h1 G w a2 (a::ats) fg ⟨k1,⟨hst.defers,by rw[hst.size];simp[ntm,e2],nj e4 hst.slot⟩,amm _,⟨⟨hf1.defers,hf1.size,λt s hs=>hf1.slot t s (pZ hs)⟩,λt s hs=>by obtain⟨v,_,hv⟩:=hf1.slot t s (pZ hs);exact m9 k1 hv,⟨hfl,⟨fn,hfn⟩,λD hD=>by
       injection hD with hD;subst hD;exact⟨hcl.set hjr,hns,by simpa using e2'⟩⟩,k3⟩⟩ e2
      simp only[jR,iy]at this;rw[hbf]at this;exact this
     refine Calls.mono hcal ?_;rintro e w' ⟨v,rfl,fn',o',q1,q2,_,q3⟩
     have q3:=q3 _ rfl;simp only at q1 q2 q3;rw[hfn]at q1;injection q1 with q1;subst q1;rw[ho1]at q2;injection q2 with q2;subst q2;refine⟨.inr trivial,?_⟩;rw[hn'];exact q3
    ·rw[amJ (by rw[hw];simp)];split at h1<;>try (cases h1;done)
     rename_i L2 hp2;refine⟨.inr trivial,?_⟩;rw[hn'];exact ihs q (by omega) _ _ h1 G w (a.put o.dst undef) ats fn ⟨k1,hf1.put hp2 rfl,hfl,k3⟩ hfn (λ_=>True) (λ_ _ _ _=>trivial) (.inr trivial) (hcl.set hjr) hns _ (Nat.sub_add_cancel (by simpa using e2'))
  intro c p h G w a ats fn hc hfn;have h0:=h;rw[VY]at h;unfold stC at h;split at h
  ·-- nrm
   split at h
   ·rename_i hK;have:=ih _ _ h G w a ats fn ⟨hc.sr,hc.fr,hc.fl,hc.frs⟩ hfn;simp only[jR]at this ⊢;rw[hK];exact this
   ·rename_i j K hK;have:=ih _ _ h G w a ats fn ⟨hc.sr,hc.fr,hc.fl,hc.frs⟩ hfn;simp only[jR]at this ⊢;rw[hK];exact this
   ·rename_i id K hK;have:=ih _ _ h G w a ats fn ⟨hc.sr,hc.fr,hc.fl,hc.frs⟩ hfn;simp only[jR]at this ⊢;rw[hK];exact this
   ·rename_i i K hK;have:=headOk i {c with K:=K} h G w a ats fn ⟨hc.sr,hc.fr,hc.fl,hc.frs⟩ hfn;simp only[jR];rw[hK];exact this
  ·-- node
   rename_i i;simp only[jR];split at h
   ·rename_i hn;exact V7 hn (ih _ _ h G w a ats fn hc hfn)
   ·rename_i x y hn;have:=ih _ _ h G w a ats fn ⟨hc.sr,hc.fr,hc.fl,hc.frs⟩ hfn;exact yG (VV hn) this
   ·rename_i id x hn;have:=ih _ _ h G w a ats fn ⟨hc.sr,hc.fr,hc.fl,hc.frs⟩ hfn;exact RY (KU hn) this
   ·rename_i id hn;split at h<;>try (cases h;done)
    rename_i K hK;have:=ih _ _ h G w a ats fn ⟨hc.sr,hc.fr,hc.fl,hc.frs⟩ hfn;exact VG hn (VQ (wk hK) this)
   ·rename_i hn;exact FZ hn (ih _ _ h G w a ats fn hc hfn)
   ·rename_i x p q hn;split at h<;>try (cases h;done)
    rename_i b hb;have hv:=r9 (aE hc.fr hb);unfold At;rw[QN hn];split at h
    ·exact wp_cond_true hv (ih _ _ h G w a ats fn hc hfn)
    ·exact wp_cond_false hv (ih _ _ h G w a ats fn hc hfn)
   ·rename_i x hn;unfold At;rw[OW hn];exact(headOk i c h G w a ats fn hc hfn).wp
   ·rename_i id ops hn;have:=ih _ _ h G w a ats fn hc hfn;exact m7 (id:=id) (by rw[hn];rfl) this
   ·rename_i id ops hn;split at h<;>try (cases h;done)
    rename_i hns;have hops:ak (nth (aj F c.f) i)=ops:=by rw[hn];rfl
    have hb:Below w.heap.size w w.drew:=(aoo _ _).drew;have hsg:=vh hc.sr hb;have hev:Ev Z c.fl c.H G w c.H G w.drew:=λs v hs _=>cV hc.sr hsg hs;have hcr:CR Z F w0 c G w.drew a ats:=⟨Ik hc.sr hb,hc.fr.keep λs v hs=>cV hc.sr hsg hs,hc.fl,hc.frs.ev hev (amm _)⟩
    split at h
    ·refine DX (λ_=>True) hm (id:=id) (by rw[hn];rfl) ?_;split at h
     ·exact ih _ _ h G w.drew a ats fn hcr hfn rfl (by rw[hops];exact hns)
     ·exact ih _ _ h G w.drew a ats fn hcr hfn rfl (by rw[hops];exact hns)
    refine DX (Agr (!(ops.any λo=>vB o.op)) c.H G w.drew) hm (id:=id) (by rw[hn];rfl) ?_;exact ih _ _ h G w.drew a ats fn hcr hfn c.H G w.drew (.inr ⟨Agr.refl,λ_ _ hx=>hx,λ_=>⟨rfl,rfl,rfl⟩,CO⟩) tX (by rw[hops];exact hns) _ (by simp)
   ·cases h
  ·-- ops
   rename_i i k;simp only[jR];split at h
   ·rename_i hk;exact Wm hk (ih _ _ h G w a ats fn hc hfn)
   ·rename_i o hk;rcases fv hc.fr h with⟨L1,h1,hf1,hw⟩|⟨L1,h1,hf1,hw⟩
    ·refine VC hk hw ?_;split at h1
     ·split at h1<;>try (cases h1;done)
      rename_i hfz;obtain⟨g1,g2,g3,g4,g5⟩:=adu hc.sr hf1 hfz;obtain⟨s,v,h2,h3,h4⟩:=mK hT g1 g2 h1;split at h2<;>try (cases h2;done)
      rename_i L2 hp;rw[h4 w (λ_=>Agr.refl)];exact ih _ _ h2 G w (a.put o.dst v) ats fn ⟨g1,g2.put hp h3,amt hc.fl (Nat.le_of_eq g5),hc.frs.evF g3 (amm _)⟩ hfn
     ·split at h1
      ·rename_i g ss hin;obtain⟨f,args,tys,fg,caps,e1,e2,e3,e4,e5,e6,e7⟩:=IN hf1 hin;have hcl:dG P g=true:=by unfold dG;rw[hF g fg e2];simp only[e6,e7,anD]
       rw[kM hcl a.eval o f args tys caps e1 e3 w];obtain⟨B,hB⟩:=ana.1 e7;have hbf:aj F g=B:=by simp[aj,e2,hB]
       have hcal:Calls P g (args.map a.eval++caps) w (fj P F Rt ({f:=c.f,K:=c.K,i:=i,k:=k,L:=G7 N c.f i L1,fl:=c.fl}::c.fs) (a::ats)):=by
        have hto:args.map a.eval++caps=(args.map a.eval++caps).toList.toArray:=by simp
        rw[hto];refine enter (hF g fg e2) hB (amI (by rw[<-dD e4];exact e5)) λa2 hst=>?_;have:=ih _ _ h1 G w a2 (a::ats) fg ⟨hc.sr,⟨hst.defers,by rw[hst.size];simp[ntm,e2],nj e4 hst.slot⟩,amm _,⟨⟨hf1.defers,hf1.size,λt s hs=>hf1.slot t s (pZ hs)⟩,λt s hs=>by obtain⟨v,_,hv⟩:=hf1.slot t s (pZ hs);exact m9 hc.sr hv,⟨hc.fl,⟨fn,hfn⟩,λD hD=>by cases hD⟩,hc.frs⟩⟩ e2;simp only[jR,iy]at this;rw[hbf]at this;exact this
       refine Calls.mono hcal ?_;rintro e w' ⟨v,rfl,fn',o',q1,q2,q3,_⟩
       have q3:=q3 rfl;simp only at q1 q2 q3;rw[hfn]at q1;injection q1 with q1;subst q1;rw[hk]at q2;injection q2 with q2;subst q2;exact q3
      ·refine vi hT hE hI hc.sr hf1 h1 λs H' L2 G' w' v h2 h3 h4 h5 h6=>?_;split at h2<;>try (cases h2;done)
       rename_i L3 hp;exact ih _ _ h2 G' w' (a.put o.dst v) ats fn ⟨h3,h4.put hp h5,amt hc.fl h6.len,hc.frs.evF h6.pres (amm _)⟩ hfn
    ·refine aaL hk hw ?_;split at h1<;>try (cases h1;done)
     rename_i L2 hp;exact ih _ _ h1 G w (a.put o.dst undef) ats fn ⟨hc.sr,hf1.put hp rfl,hc.fl,hc.frs⟩ hfn
  ·-- drw
   rename_i i rw eff D;simp only[jR];intro Hs Gs ws hinv hclo hns m' hm';split at h
   ·exact ih _ _ h G w a ats fn hc hfn (Agr rw Hs Gs ws) (λw w' hw ho=>⟨amt hw.1 ho.1,λb hb hor=>(ho.2 b (anM hb hw.1)).trans (hw.2 b hb hor)⟩) (hinv.elim (λh=>.inl h.1) (λh=>.inr h.1)) hclo hns m' hm'
   split at h
   ·rename_i hrd;exact yx hrd (ih _ _ h G w a ats fn hc hfn) _
   ·rename_i rs hrd;split at h<;>try (cases h;done)
    rename_i hlen;have hlen:=amn hlen;obtain⟨m'',rfl⟩:∃m'',m'=m''+1:=⟨m'-1,by omega⟩
    have hsst:Sst (ak (nth (aj F c.f) i)) (Agr rw Hs Gs ws) (mkL (ak (nth (aj F c.f) i)).size D) w:=hinv.elim (λh=>.inl h.1) (λh=>.inr h.1);split at h
    ·rename_i j hj;obtain⟨j1,o,j2,j3,j4,j5,j6⟩:=EY hj;have j1:=Tq j1;rw[j2]at h;dsimp only at h;have hns1:dR o.op=false:=JQ j3;have hclo':Clo (ak (nth (aj F c.f) i)) (mkL (ak (nth (aj F c.f) i)).size (j::D)):=hclo.set j1
     have hinv':(storeDone (ak (nth (aj F c.f) i)) (mkL (ak (nth (aj F c.f) i)).size (j::D))/\eff=true)\/(Agr rw Hs Gs ws w/\(∀b,b<ws.heap.size->jv c.H G b->jv Hs Gs b)/\(eff=false->c.H=Hs/\G=Gs/\w=ws)/\¬storeDone (ak (nth (aj F c.f) i)) (mkL (ak (nth (aj F c.f) i)).size (j::D))):=
      hinv.elim (λh=>.inl ⟨h.1.set j,h.2⟩) λh=>.inr ⟨h.1,h.2.1,h.2.2.1,λh'=>h.2.2.2 (h'.unset j2 hns1)⟩
     have take:∀{v:Value},YieldsIf P (ak (nth (aj F c.f) i)) (λw'=>nI o.op=true->Agr rw Hs Gs ws w') o v a->AtG P fn (fj P F Rt c.fs ats) (aj F c.f) (iy P fn (fj P F Rt c.fs ats) (aj F c.f) c.K) i (Agr rw Hs Gs ws) m'' (j::D) (a.put o.dst v) w->AtG P fn (fj P F Rt c.fs ats) (aj F c.f) (iy P fn (fj P F Rt c.fs ats) (aj F c.f) c.K) i (Agr rw Hs Gs ws) (m''+1) D a w:=by
      intro v hy hk;cases hl:nI o.op with
      |true=>
       obtain⟨he,haw⟩:=j4 hl;obtain⟨hagr,_,_,hun⟩:=hinv.resolve_left (λh=>by rw[he]at h;cases h.2);have hy':YieldsIf P (ak (nth (aj F c.f) i)) (Agr rw Hs Gs ws) o v a:=hy.imp (λh=>⟨h.1,λw' hS=>h.2 w' λ_=>hS⟩) id;exact Kc j2 (ao7 hns) (λcc a w hq=>nF _ cc a _ _ w hq) hns1 haw m'' _ a w (anV j2 j6) hclo hun j1 hy' hagr hk
      |false=>
       have hy':YieldsIf P (ak (nth (aj F c.f) i)) (λ_=>True) o v a:=hy.imp (λh=>⟨h.1,λw' _=>h.2 w' λh'=>by rw[hl]at h';cases h'⟩) id;exact Db j2 (ao7 hns) (λcc a w hq=>nF _ cc a _ _ w hq) hns1 m'' _ a w (anV j2 j6) j1 hy' hsst hk
     rcases fv hc.fr h with⟨L1,h1,hf1,hw⟩|⟨L1,h1,hf1,hw⟩
     ·obtain⟨s,v,h2,h3,h4⟩:=mK hT hc.sr hf1 h1;split at h2<;>try (cases h2;done)
      rename_i L2 hp;refine take (v:=v) (.inl ⟨hw,λw' hS=>h4 w' λhl=>?_⟩) ?_
      ·obtain⟨he,_⟩:=j4 hl;obtain⟨_,_,heff,_⟩:=hinv.resolve_left (λh=>by rw[he]at h;cases h.2);obtain⟨e1,e2,e3⟩:=heff he;rw[e1,e2,e3];exact hS hl
      ·exact ih _ _ h2 G w (a.put o.dst v) ats fn ⟨hc.sr,hf1.put hp h3,hc.fl,hc.frs⟩ hfn Hs Gs ws hinv' hclo' hns m'' (by simp;omega)
     ·split at h1<;>try (cases h1;done)
      rename_i L2 hp;refine take (v:=undef) (.inr ⟨hw,rfl⟩) ?_;exact ih _ _ h1 G w (a.put o.dst undef) ats fn ⟨hc.sr,hf1.put hp rfl,hc.fl,hc.frs⟩ hfn Hs Gs ws hinv' hclo' hns m'' (by simp;omega)
    ·refine v6 (rs:=Region.ready .any (ak (nth (aj F c.f) i)) (mkL (ak (nth (aj F c.f) i)).size D)) rfl (by assumption) λk hk=>?_;have h:=zO h k hk;split at h<;>try (cases h;done)
     rename_i o j2;have hclo':Clo (ak (nth (aj F c.f) i)) (mkL (ak (nth (aj F c.f) i)).size (k::D)):=hclo.set hk;have hsst':Sst (ak (nth (aj F c.f) i)) (Agr rw Hs Gs ws) (mkL (ak (nth (aj F c.f) i)).size (k::D)) w:=hsst.set k;have sdone:dR o.op=true->storeDone (ak (nth (aj F c.f) i)) (mkL (ak (nth (aj F c.f) i)).size (k::D)):=λh=>⟨k,o,j2,h,qO _ _⟩
     have hinv':dR o.op=false->(storeDone (ak (nth (aj F c.f) i)) (mkL (ak (nth (aj F c.f) i)).size (k::D))/\eff=true)\/(Agr rw Hs Gs ws w/\(∀b,b<ws.heap.size->jv c.H G b->jv Hs Gs b)/\(eff=false->c.H=Hs/\G=Gs/\w=ws)/\¬storeDone (ak (nth (aj F c.f) i)) (mkL (ak (nth (aj F c.f) i)).size (k::D))):=
      λhns1=>hinv.elim (λh=>.inl ⟨h.1.set k,h.2⟩) λh=>.inr ⟨h.1,h.2.1,h.2.2.1,λh'=>h.2.2.2 (h'.unset j2 hns1)⟩
     unfold wpOp;simp only[j2];rcases fv hc.fr h with⟨L1,h1,hf1,hw⟩|⟨L1,h1,hf1,hw⟩
     ·rw[am2 hw];refine .inl ?_;unfold Oper.wp;split at h1
      ·rename_i hq;have hns1:dR o.op=false:=JQ hq;obtain⟨s,v,h2,h3,h4⟩:=mK hT hc.sr hf1 h1;split at h2<;>try (cases h2;done)
       rename_i L2 hp;rw[h4 w (λ_=>Agr.refl)];exact⟨hsst',ih _ _ h2 G w (a.put o.dst v) ats fn ⟨hc.sr,hf1.put hp h3,hc.fl,hc.frs⟩ hfn Hs Gs ws (hinv' hns1) hclo' hns m'' (by simp;omega)⟩
      ·split at h1<;>try (cases h1;done)
       rename_i hcond;simp only[ao6]at hcond;obtain⟨hst1,hst2⟩:=hcond;simp only[Bool.and_eq_false_iff]at hst2;refine vi hT hE hI hc.sr hf1 h1 λs H' L2 G' w' v h2 h3 h4 h5 h6=>?_;split at h2<;>try (cases h2;done)
       rename_i L3 hp;have hcr:CR Z F w0 {c with L:=L3,H:=H'} G' w' (a.put o.dst v) ats:=⟨h3,h4.put hp h5,amt hc.fl h6.len,hc.frs.evF h6.pres (amm _)⟩
       cases hiss:dR o.op with
       |true=>exact⟨.inl (sdone hiss),ih _ _ h2 G' w' (a.put o.dst v) ats fn hcr hfn Hs Gs ws (.inl ⟨sdone hiss,rfl⟩) hclo' hns m'' (by simp;omega)⟩
       |false=>
        rcases hinv with hinv|⟨hagr,hrows,heff,hun⟩
        ·exact⟨.inl (hinv.1.set k),ih _ _ h2 G' w' (a.put o.dst v) ats fn hcr hfn Hs Gs ws (.inl ⟨hinv.1.set k,rfl⟩) hclo' hns m'' (by simp;omega)⟩
        ·have hag:=h6.agr.resolve_left (by rw[hiss,hst1];simp)
         have hagr':Agr rw Hs Gs ws w':=by
          refine⟨amt hagr.1 hag.1.1,λb hb hor=>?_⟩;rw[<-hagr.2 b hb hor];refine hag.1.2 b (anM hb hagr.1) ?_;rcases hst2 with h7|h7
          ·left;rw[h7];rfl
          ·right;rcases hor with hor|hor
           ·rw[h7]at hor;cases hor
           ·exact λhx=>hor (hrows b hb hx)
         exact⟨.inr hagr',ih _ _ h2 G' w' (a.put o.dst v) ats fn hcr hfn Hs Gs ws (.inr ⟨hagr',λb hb hx=>hrows b hb (hag.2 b (anM hb hagr.1) hx),(λe=>by cases e),λh'=>hun (h'.unset j2 hiss)⟩) hclo' hns m'' (by simp;omega)⟩
     ·rw[amJ (by rw[hw];simp)];split at h1<;>try (cases h1;done)
      rename_i L2 hp;refine⟨hsst',ih _ _ h1 G w (a.put o.dst undef) ats fn ⟨hc.sr,hf1.put hp rfl,hc.fl,hc.frs⟩ hfn Hs Gs ws ?_ hclo' hns m'' (by simp;omega)⟩;cases hiss:dR o.op with
      |true=>exact .inl ⟨sdone hiss,by simp⟩
      |false=>simpa using hinv' hiss
  ·-- tam
   rename_i i D;clear h;simp only[jR];intro hD0 hns;subst hD0
   have hlow:∀t s,aI c.L t=some s->s.refsT c.H.length=true:=λt s hs=>by
    obtain⟨v,_,hv⟩:=hc.fr.slot t s hs;exact m9 hc.sr hv
   obtain⟨la,ss,hp,hnew,hrun⟩:=H3 hT hE (c:=c) (m+1) [] c.L h0 (by rw[F0];rfl) (λj hj=>by cases hj) hlow tX
   obtain⟨G1,g1,g2,g3⟩:=xG (dn (mkL (ak (nth (aj F c.f) i)).size [])) (la:=la) (λx hx=>by
    obtain⟨⟨o,ho,_⟩,_⟩:=hp.la2 x hx;exact fk (by simp) (amw.1 ho).1) hc.sr hc.fr
   have hst0:cD (dn (mkL (ak (nth (aj F c.f) i)).size [])) ss (c.H++alX (dn (mkL (ak (nth (aj F c.f) i)).size [])) la)=c.H++alX (dn (mkL (ak (nth (aj F c.f) i)).size [])) la:=pN λs hs=>by
    obtain⟨⟨o,ho,_⟩,_⟩:=hp.ss1 s hs;exact fk (by simp) (amw.1 ho).1
   refine TRun.sound (T:=T) (S0:=λ_=>True) (λ_ _ h _=>h) (λ_ _=>trivial) (fl:=c.fl) (X:=λH G w=>FrsOk Z F H G w c.fl c.fs ats) hT hE hI (ao7 hns) (nF _) ye Ht hp hnew (tY hc.sr) hc.fl (λH G w H' G' w' hx hp=>hx.ev hp (amm _)) (λn l L G w a hf ho hcl hsz hL k1 k2 k3=>?_) _ _ _ hrun tX (by rw[ij]) (λt s hs=>.inl (hlow t s hs)) G1 w a (by rw[hst0];exact g1) (by rw[hst0];exact g2) (by rw[hst0];exact hc.frs.ev (λs v h _=>g3 s v h) (amm _)) trivial;exact tail c i la ss ats fn n l L G w a (hf.resolve_right λh=>h.1) (tY hc.sr) hc.fl hns hcl hsz k1 k2 k3 hfn
  ·-- tbx
   rename_i i D;clear h;simp only[jR];intro hD0 hns;subst hD0
   have hlow:∀t s,aI c.L t=some s->s.refsT c.H.length=true:=λt s hs=>by
    obtain⟨v,_,hv⟩:=hc.fr.slot t s hs;exact m9 hc.sr hv
   obtain⟨la,ss,Φ,hstr,hp,hnew,hdd,hrun⟩:=TP hT hE (c:=c) (m+1) [] c.L c.H h0 (by rw[F0];rfl) (λj hj=>by cases hj) hlow tX
   obtain⟨G1,g1,g2,g3⟩:=xG (dn (mkL (ak (nth (aj F c.f) i)).size [])) (la:=la) (λx hx=>by
    obtain⟨⟨o,ho,_⟩,_⟩:=hp.la2 x hx;exact fk (by simp) (amw.1 ho).1) hc.sr hc.fr
   have hst0:cD (dn (mkL (ak (nth (aj F c.f) i)).size [])) ss (c.H++alX (dn (mkL (ak (nth (aj F c.f) i)).size [])) la)=c.H++alX (dn (mkL (ak (nth (aj F c.f) i)).size [])) la:=pN λs hs=>by
    obtain⟨⟨o,ho,_⟩,_⟩:=hp.ss1 s hs;exact fk (by simp) (amw.1 ho).1
   have hml:(c.H.map ddJ).length=c.H.length:=anA _;have hlen:(Φ c.H).length=c.H.length:=by rw[<-anA (f:=ddJ),hdd,hml]
   have hlowΦ:mQ (Φ c.H).length (Φ c.H):=by rw[hlen];exact Io (by rw[hdd];exact E6 (tY hc.sr))
   have hlate:∀(j:Nat) (oj:Oper),(ak (nth (aj F c.f) i))[j]?=some oj->bj oj=true->eF E (ak (nth (aj F c.f) i)) j=false:=λj oj hoj hal=>by
    unfold eF;rw[hoj];dsimp only;rw[hal];simp
   have hclΦ:c.fl<=(Φ c.H).length:=by rw[hlen];exact hc.fl
   refine TRunB.sound (T:=T) (Hf:=Φ c.H) (fl:=c.fl) (X:=λH G w=>FrsOk Z F H G w c.fl c.fs ats) hT hE hI (λn l L j oj hf hcl hj ho hoj hal=>?_) (λhlo=>by rw[hstr]at hlo;cases hlo) hp (λs hs=>by rw[hml];exact hnew s hs) (by rw[hml];exact E6 (tY hc.sr)) (by rw[hml];exact hc.fl) (λH G w H' G' w' hx hp=>hx.ev hp (amm _)) (λn l L G w a ho hf hcl hsz hL k1 k2 k3=>?_) _ _ _ _ hrun c.H rfl rfl tX (by rw[ij]) (λt s hs=>.inl (by rw[hml];exact hlow t s hs)) G1 w a (by rw[hst0];exact g1) (by rw[hst0];exact g2) (by rw[hst0];exact hc.frs.ev (λs v h _=>g3 s v h) (amm _))
   ·obtain⟨n',r',x,L',e1,e2,e3,e4,e5,e6,e7,e8⟩:=ye n l L j oj hf hj ho hoj hal;have hon:=Ax ho j (hlate j oj hoj hal);exact⟨n',r',x,L',e1,e2,e3,e4,e5,e6,(by rw[hml,<-hlen];exact e7),hon,e8.fin hon (hcl.set hj)⟩
   exact tail {c with H:=Φ c.H} i la ss ats fn n l L G w a hf hlowΦ hclΦ hns hcl hsz k1 k2 k3 hfn
  ·-- tal
   rename_i i D;clear h;simp only[jR];intro S0 hS0 hSt hclo hns m' hm'
   have hlow:∀t s,aI c.L t=some s->s.refsT c.H.length=true:=λt s hs=>by
    obtain⟨v,_,hv⟩:=hc.fr.slot t s hs;exact m9 hc.sr hv
   have hrun:=Tm hT hE (c:=c) (m+1) D c.L h0 (by omega);have e:m'=(ak (nth (aj F c.f) i)).size-D.length:=by omega
   subst e
   have key:∀S1:World->Prop,(∀w w',S1 w->Old w w'->S1 w')->S1 w->wpG P (ak (nth (aj F c.f) i)) (iu P fn (fj P F Rt c.fs ats) (aj F c.f) (iy P fn (fj P F Rt c.fs ats) (aj F c.f) c.K)) S1 ((ak (nth (aj F c.f) i)).size-D.length) (mkL (ak (nth (aj F c.f) i)).size D) a w:=λS1 hS1 hw1=>by
    refine TRun.sound (T:=T) (S0:=S1) (la:=[]) (ss:=[]) hS1 (λh=>(h rfl).elim) (fl:=c.fl) (X:=λH G w=>FrsOk Z F H G w c.fl c.fs ats) hT hE hI (ao7 hns) (nF _) (λ_ _ _ _ _ h=>h.elim) (λ_ _ _ _ _ _ h=>h.elim) (N:=ntm F c.f) ⟨List.Pairwise.nil,λa ha=>(by cases ha),λs hs=>(by cases hs),List.Pairwise.nil⟩ (λs hs=>by cases hs) (tY hc.sr) hc.fl (λH G w H' G' w' hx hp=>hx.ev hp (amm _)) (λn l L G w a hf ho hcl hsz hL k1 k2 k3=>?_) _ _ _ hrun hclo (by rw[ij]) (λt s hs=>.inl (hlow t s hs)) G w a (by rw[show cD (dn (mkL (ak (nth (aj F c.f) i)).size D)) [] (c.H++alX (dn (mkL (ak (nth (aj F c.f) i)).size D)) [])=c.H from amO _];exact hc.sr) (by rw[show cD (dn (mkL (ak (nth (aj F c.f) i)).size D)) [] (c.H++alX (dn (mkL (ak (nth (aj F c.f) i)).size D)) [])=c.H from amO _];exact hc.fr) (by rw[show cD (dn (mkL (ak (nth (aj F c.f) i)).size D)) [] (c.H++alX (dn (mkL (ak (nth (aj F c.f) i)).size D)) [])=c.H from amO _];exact hc.frs) hw1;rcases hf with h|⟨⟨q,hq,hgo⟩,hrd⟩
    ·exact h.elim
    ·rw[show cD (dn l) [] (c.H++alX (dn l) [])=c.H from amO _]at k1 k2 k3;exact yx hrd (ihs q (by omega) _ _ hgo G w a ats fn ⟨k1,k2,hc.fl,k3⟩ hfn) _
   rcases hSt with h|h
   ·exact Mq _ _ _ _ h (key (λ_=>True) (λ_ _ _ _=>trivial) trivial)
   ·exact key S0 hS0 h
  ·-- ret
   simp only[jR];rw[hfn]at h;dsimp only at h;split at h<;>try (cases h;done)
   rename_i ss hss;split at h
   ·rename_i hfs;rw[hfs]
    have hats:ats=[]:=by
     have:=hc.frs;rw[hfs]at this;cases ats with
     |nil=>rfl
     |cons=>exact this.elim
    subst hats;exact Qr hT hc.sr hc.fr hss λvs hvs=>hRt vs _ _ _ _ _ h hc.sr hvs
   ·rename_i g K2 i2 q2 L3 fl2 d2 fs hfs;split at h<;>try (cases h;done)
    rename_i o ho;split at h<;>try (cases h;done)
    rename_i L2 hp hgood;have hfrs:=hc.frs;rw[hfs]at hfrs ⊢;match ats,hfrs with
    |a0::ats,⟨k1,k2,k3,k4⟩=>
     obtain⟨k3,⟨fn',hfn'⟩,k5⟩:=k3;refine Qr hT hc.sr hc.fr hss λvs hvs=>⟨_,rfl,fn',o,hfn',ho,?_⟩
     have hb:=Qy (λs hs l e=>by subst e;have:=amC.1 hgood _ hs;simp[SV.good]at this) hvs;split at h
     ·exact⟨λ_=>ih _ _ h G w (a0.put o.dst _) ats fn' ⟨hc.sr,k1.put hp hb,amt k3 hc.fl,k4⟩ hfn',λD hD=>by cases hD⟩
     ·rename_i D;refine⟨λhD=>(by cases hD),λD' hD=>?_⟩;injection hD with hD;subst hD;obtain⟨d1,d2,d3⟩:=k5 D rfl;exact ih _ _ h G w (a0.put o.dst _) ats fn' ⟨hc.sr,k1.put hp hb,amt k3 hc.fl,k4⟩ hfn' (λ_=>True) (λ_ _ _ _=>trivial) (.inr trivial) d1 d2 _ (Nat.sub_add_cancel d3)
end
end
structure Ctx where
 P:Program
 F:FT
 T:TT
 E:Env
 N:NT
structure Ctx.Ok (C:Ctx):Prop where
 T:eM C.P C.T=true
 E:kD C.P C.E
 F:∀f fn,fQ C.F f=some fn->C.P.funcs[f]?=some fn
 m:C.P.follows .mixedOrders=true
def Ctx.k(C:Ctx)(n:Nat):Nat->Cfg->Option (List RV):=run C.P C.F C.T C.E C.N n
def Ctx.Runs(C:Ctx)(i:Nat)(c:Cfg)(r:List RV):Prop:=∃n,C.k n i c=some r
def Ctx.RunsE(C:Ctx)(i:Nat)(c:Cfg)(r:List RV):Prop:=∃n0,∀n,n0<=n->C.k n i c=some r
def Ctx.go(C:Ctx)(n:Nat)(c:Cfg)(p:Pos):Option (List RV):=Proofs.YtmnlppieefomnaaGreatDoor.go C.P C.F C.T C.E C.N (C.k n) 4000 c p
def Ctx.Res(C:Ctx)(f:Nat)(args:List SV)(r:List RV):Prop:=∃n,C.go n (oo f args) (.node 0)=some r
theorem Ctx.Runs.step{C:Ctx}{i:Nat}{c:Cfg}{r:List RV}(h:∃n,C.go n {c with K:=.lp i::c.K} (.node (i+1))=some r):C.Runs i c r:=by
 obtain⟨n,h⟩:=h;exact⟨n+1,h⟩
def okF(fn:Func)(k:Nat):Bool:=fn.body.isSome&&Nat.ble k fn.ntmps
theorem Aa{C:Ctx}(ok:C.Ok){Z:Nat->Prop}{w0:World}(hI:inv w0){Rt:Ending->World->Prop}{r:List RV}(hRt:∀vs H G w ss tys,zz C.T H ss tys=some r->SR Z w0 H G w->bI (Rel G (Av Z H G) w) ss vs->Rt (.returned (ll vs)) w):
  ∀n i c G w a ats fn,run C.P C.F C.T C.E C.N n i c=some r->CR Z C.F w0 c G w a ats->fQ C.F c.f=some fn->InLoop C.P (nth (aj C.F c.f) (i+1)) (iu C.P fn (fj C.P C.F Rt c.fs ats) (aj C.F c.f) (iy C.P fn (fj C.P C.F Rt c.fs ats) (aj C.F c.f) c.K)) a w:=by
 intro n;induction n with
 |zero=>intro i c G w a ats fn h;simp[run]at h
 |succ n ih=>
  intro i c G w a ats fn h hc hfn;have:=yK ok.T ok.E hI ok.F ok.m hRt (λi c G w a ats fn h1 h2 h3=>ih i c G w a ats fn h1 h2 h3) 4000 _ _ h G w a ats fn ⟨hc.sr,hc.fr,hc.fl,hc.frs⟩ hfn;exact InLoop.step this
theorem Ctx.Res.con{C:Ctx}(ok:C.Ok){f:Nat}{fn:Func}{args:List SV}{r:List RV}(h:C.Res f args r)(hfn:fQ C.F f=some fn)(hk:okF fn args.length=true):Con C.P f args r:=by
 intro A w vs hI ha;obtain⟨n,h⟩:=h;simp only[okF,aml]at hk;obtain⟨B,hB⟩:=ana.1 hk.1;have hbf:aj C.F f=B:=by simp[aj,hfn,hB]
 let Z:Nat->Prop:=λb=>A b\/w.heap.size<=b
 have hkp:Keeps A (Av Z [] []) w w:=⟨amm _,λb _ hA=>⟨.inl hA,λj it g h=>by simp at h⟩,λ_ _ _=>rfl⟩
 have ha2:bI (Rel [] (Av Z [] []) w) args vs:=aY (λs v h=>dM (h.keep hkp λj g _ h=>h)) ha;refine enter (ok.F f fn hfn) hB (amI (by rw[<-dD ha];exact amn hk.2)) λa hst=>?_;have hsr:SR Z w [] [] w:=⟨rfl,aoo _ _,λj it g h=>by simp at h,λi j it jt g h b _ h1=>by simp at h1,λb hb=>.inr hb⟩
 let Rt:Ending->World->Prop:=λe w'=>∃v,e=.returned v/\Below w.heap.size w w'/\ro Z w.heap.size w' r v
 have hRt:∀vs H G w' ss tys,zz C.T H ss tys=some r->SR Z w H G w'->bI (Rel G (Av Z H G) w') ss vs->Rt (.returned (ll vs)) w':=λvs H G w' ss tys h1 h2 h3=>⟨_,rfl,h2.below,Mn ok.T h2 h1 h3⟩
 have:=yK ok.T ok.E hI ok.F ok.m hRt (λi c G w a ats fn h1 h2 h3=>Aa ok hI hRt n i c G w a ats fn h1 h2 h3) 4000 _ _ h [] w a [] fn ⟨hsr,⟨hst.defers,by rw[hst.size];simp[ntm,oo,hfn],nj ha2 hst.slot⟩,amm _,trivial⟩ hfn;simp only[jR,oo]at this;rwa [hbf]at this
def Hl(f p:Nat)(args:List SV):Cfg:=match args[p]? with
 |some (.d (.sl e) xs)=>{f:=f,K:=[],L:=ti 0 (args.set p (.own 0)),H:=[.len e xs],fl:=0,fs:=[]}
 |_=>oo f args
def Ctx.ResL(C:Ctx)(f p:Nat)(args:List SV)(r:List RV):Prop:=∃n,C.go n (Hl f p args) (.node 0)=some r
theorem xK{A:Nat->Prop}{w:World}:∀{p:Nat} {args:List SV} {vs:List Value},VX A w p args vs->∃s g,args[p]?=some s/\vs[p]?=some g/\Jc A w s g/\∀R:SV->Value->Prop,(∀s v,Rel1 [] A w s v->R s v)->R (.own 0) g->bI R (args.set p (.own 0)) vs
 |0,s::l,v::vs,⟨h1,h2⟩=>⟨s,v,rfl,rfl,h1,λR k1 k2=>⟨k2,aY k1 h2⟩⟩
 |p+1,s::l,v::vs,⟨h1,h2⟩=>by
  obtain⟨s',g,g1,g2,g3,g4⟩:=xK h2;exact⟨s',g,g1,g2,g3,λR k1 k2=>⟨k1 _ _ h1,g4 R k1 k2⟩⟩
theorem Ctx.ResL.con{C:Ctx}(ok:C.Ok){f p:Nat}{fn:Func}{args:List SV}{r:List RV}(h:C.ResL f p args r)(hfn:fQ C.F f=some fn)(hk:okF fn args.length=true):akS C.P f p args r:=by
 intro A w vs hI ha;obtain⟨n,h⟩:=h;obtain⟨_,g,a1,a2,⟨e,xs,et,css,rfl,ho,hrd,hn,hA⟩,a4⟩:=xK ha;simp only[okF,aml]at hk;obtain⟨B,hB⟩:=ana.1 hk.1;have hbf:aj C.F f=B:=by simp[aj,hfn,hB]
 have hs:Hl f p args={f:=f,K:=[],L:=ti 0 (args.set p (.own 0)),H:=[.len e xs],fl:=0,fs:=[]}:=by simp only[Hl,a1]
 let Z:Nat->Prop:=λb=>A b\/w.heap.size<=b
 have one:∀(j:Nat) (it:Item) (x:Value),[Item.len e xs][j]?=some it->[g][j]?=some x->j=0/\it=.len e xs/\x=g:=λj it x h1 h2=>by
  cases j with
  |zero=>simp at h1 h2;exact⟨rfl,h1.symm,h2.symm⟩
  |succ j=>simp at h1
 have hkp:Keeps A (Av Z [.len e xs] [g]) w w:=⟨amm _,λb _ hb=>⟨.inl hb,λj it x h1 _ h3 h4=>by
  obtain⟨_,_,rfl⟩:=one j it x h1 h3;exact hA b h4 hb⟩,λ_ _ _=>rfl⟩
 have ha2:bI (Rel [g] (Av Z [.len e xs] [g]) w) (args.set p (.own 0)) vs:=a4 _ (λs v h=>dM (h.keep hkp λj g _ h=>by simp at h)) (show [g][0]?=some g from rfl);refine enter (ok.F f fn hfn) hB (amI (by rw[<-dD ha2,anr];exact amn hk.2)) λa hst=>?_
 have hsr:SR Z w [.len e xs] [g] w:=by
  refine⟨rfl,aoo _ _,λj it x h1 h2=>?_,λi j it jt x y b hij h1 h2 _ _ h3 h4=>?_,λb hb=>.inr hb⟩
  ·obtain⟨_,rfl,rfl⟩:=one j it x h1 h2;exact⟨et,css,ho,aY (λ_ _ h=>Ty.rd_keep hkp h) hrd,hn⟩
  ·exact absurd ((one i it x h1 h3).1.trans (one j jt y h2 h4).1.symm) hij
 let Rt:Ending->World->Prop:=λe w'=>∃v,e=.returned v/\Below w.heap.size w w'/\ro Z w.heap.size w' r v
 have hRt:∀vs H G w' ss tys,zz C.T H ss tys=some r->SR Z w H G w'->bI (Rel G (Av Z H G) w') ss vs->Rt (.returned (ll vs)) w':=λvs H G w' ss tys h1 h2 h3=>⟨_,rfl,h2.below,Mn ok.T h2 h1 h3⟩
 rw[hs]at h;have:=yK ok.T ok.E hI ok.F ok.m hRt (λi c G w a ats fn h1 h2 h3=>Aa ok hI hRt n i c G w a ats fn h1 h2 h3) 4000 _ _ h [g] w a [] fn ⟨hsr,⟨hst.defers,by rw[hst.size];simp[ntm,hfn],nj ha2 hst.slot⟩,aoE _,trivial⟩ hfn;simp only[jR]at this;rwa [hbf]at this
def FtAll(P:Program):FT->Prop
 |[]=>True
 |p::l=>P.funcs[p.1]?=some p.2/\FtAll P l
theorem FtAll.look{P:Program}:∀{l:FT},FtAll P l->∀f fn,fQ l f=some fn->P.funcs[f]?=some fn
 |[],_,f,fn,h=>by simp[fQ]at h
 |(k,x)::l,⟨h1,h2⟩,f,fn,h=>by
  simp only[fQ]at h;split at h
  ·rename_i hb;have:=amk hb;subst this;injection h with h;subst h;exact h1
  ·exact FtAll.look h2 f fn h
abbrev KT:=Nat->Cfg->Option (List RV)
abbrev OLR:=Option (List RV)
@[reducible] def og(b:Bool)(r:OLR):OLR:=match b with
 |true=>r
 |false=>none
theorem aiB(r:OLR):og true r=r:=rfl
theorem akC{C:Ctx}{f:Nat}{args:List SV}{t:KT->OLR}{r:List RV}(e:∀k,go2 C.P C.F C.T C.E C.N k 4000 (oo f args) (.node 0)=t k)(h:∃n,t (C.k n)=some r):C.Res f args r:=by
 obtain⟨n,h⟩:=h;exact⟨n,(xc _ _ _ _ _ _ _ _ _).symm.trans ((e _).trans h)⟩
theorem ak4{C:Ctx}{i:Nat}{c:Cfg}{t:KT->OLR}{r:List RV}(e:∀k,go2 C.P C.F C.T C.E C.N k 4000 {c with K:=.lp i::c.K} (.node (i+1))=t k)(h:∃n,t (C.k n)=some r):C.Runs i c r:=by
 obtain⟨n,h⟩:=h;exact⟨n+1,(xc _ _ _ _ _ _ _ _ _).symm.trans ((e _).trans h)⟩
theorem aiu{C:Ctx}{i:Nat}{c:Cfg}{t:KT->OLR}{r:List RV}(e:∀k,go2 C.P C.F C.T C.E C.N k 4000 {c with K:=.lp i::c.K} (.node (i+1))=t k)(h:∃n0,∀n,n0<=n->t (C.k n)=some r):C.RunsE i c r:=by
 obtain⟨n0,h⟩:=h;refine⟨n0+1,λn hn=>?_⟩;obtain⟨q,rfl⟩:∃q,n=q+1:=⟨n-1,by omega⟩
 exact(xc _ _ _ _ _ _ _ _ _).symm.trans ((e _).trans (h q (by omega)))
@[reducible] def DT:List Ty->Type
 |[]=>Unit
 |t::r=>t.D×DT r
def II:(ts:List Ty)->List SV->Option (DT ts)
 |[],l=>match l with
  |[]=>some ()
  |_::_=>none
 |t::r,l=>match l with
  |.d u x::m=>match eN u t x with
   |some y=>match II r m with
    |some z=>some (y,z)
    |none=>none
   |none=>none
  |_=>none
def svs:(ts:List Ty)->DT ts->List SV
 |[],_=>[]
 |t::r,x=>.d t x.1::svs r x.2
theorem yQ:∀{ts:List Ty} {l:List SV} {x:DT ts},II ts l=some x->l=svs ts x
 |[],l,x,h=>by
  cases l with
  |nil=>rfl
  |cons a b=>cases h
 |t::r,l,x,h=>by
  unfold II at h;split at h
  ·split at h
   ·rename_i e1;split at h
    ·rename_i e2;injection h with h;subst h;obtain⟨rfl,rfl⟩:=cX e1;rw[yQ e2];rfl
    ·cases h
   ·cases h
  ·cases h
def spN(keep tame:Bool)(ts:List Ty)(pre:DT ts->Bool)(res:DT ts->List RV):dJ:={keep:=keep,tame:=tame,run:=λ_ args k=>match II ts args with
 |some x=>match pre x with
  |true=>k (res x)
  |false=>none
 |none=>none}
theorem adW{P:Program}{f:Nat}{keep tame:Bool}{ts:List Ty}{pre:DT ts->Bool}{res:DT ts->List RV}(hc:dG P f=true)(h:∀x,pre x=true->Con P f (svs ts x) (res x)):dG P f=true/\Cc P f (spN keep tame ts pre res)/\(∀g,(spN keep tame ts pre res).mut_=some g->KM P f g)/\BD P f (spN keep tame ts pre res):=by
 refine⟨hc,λR args k r e=>?_,(λg e=>by cases e),λp g e=>by cases e⟩;unfold spN at e;dsimp only at e;split at e
 ·rename_i x e1;split at e
  ·rename_i e2;rw[yQ e1];exact⟨_,e,h x e2⟩
  ·cases e
 ·cases e
theorem als{C:Ctx}(ok:C.Ok){f:Nat}{fn:Func}{args:List SV}{r r':List RV}{p:Prop}[Decidable p](e:∀k,go2 C.P C.F C.T C.E C.N k 4000 (oo f args) (.node 0)=match decide p with|true=>some r'|false=>none)(hp:p)(hr:r'=r)(hfn:fQ C.F f=some fn)(hk:okF fn args.length=true):Con C.P f args r:=by
 refine Ctx.Res.con ok (akC (t:=λ_=>match decide p with|true=>some r'|false=>none) e ⟨0,?_⟩) hfn hk;rw[amh hp,<-hr]
theorem aO{x:Int}(h1: -9223372036854775808<=x)(h2:x<=9223372036854775807):i64.wrap x=x:=IntWalk.i64_in x ⟨h1,h2⟩
theorem aT{k:Nat}(h:k+1<=9223372036854775807):i64.wrap ((k:Int)+1)=((k+1:Nat):Int):=by rw[aO (by omega) (by omega)];simp
theorem ai{α:Type}(xs:List α)(k:Nat):aH xs (k:Int)=xs[k]?:=by unfold aH;rw[amh (by omega)];rfl
theorem AT{α:Type}(xs:List α):aH xs 0=xs[0]?:=ai xs 0
theorem aK{k n:Nat}(h:k<n):decide ((k:Int)<(n:Int))=true:=amh (by omega)
theorem aX{k n:Nat}(h:n<=k):decide ((k:Int)<(n:Int))=false:=ami (by omega)
theorem jm{α:Type}{xs:List α}{k:Nat}(h:k<xs.length):xs.drop k=xs[k]::xs.drop (k+1):=amz h
theorem wH{α:Type}{xs:List α}{k:Nat}(h:xs.length<=k):xs.drop k=[]:=am0 h
theorem aC(k:Nat):((k:Int)).toNat=k:=aoy k
theorem abo{m b:Nat}(hb:b<=1000)(h:m<=1000000):decide ((m+1)*b<=140737488355328/\m+1<=140737488355328)=true:=by
 have:(m+1)*b<=1000001*1000:=aoJ (by omega) hb;exact amh ⟨by omega,by omega⟩
theorem dT{p:Prop}{i:Decidable p}(h:p): @decide p i=true:=amh h
theorem dF{p:Prop}{i:Decidable p}(h:¬p): @decide p i=false:=ami h
def val:List Int->Int
 |[]=>0
 |x::xs=>x+1000000000*val xs
def Lim(l:List Int):Prop:=∀x∈l,0<=x/\x<1000000000
instance (l:List Int):Decidable (Lim l):=by unfold Lim;infer_instance
def pw(n:Nat):Int:=1000000000^n
theorem n6:pw 0=1:=rfl
theorem bW(n:Nat):pw (n+1)=pw n*1000000000:=by simp[pw,Int.pow_succ]
theorem cg(n:Nat):0<pw n:=Int.pow_pos (by decide)
theorem fc(m n:Nat):pw (m+n)=pw m*pw n:=Int.pow_add _ _ _
theorem df{m n:Nat}(h:m<=n):pw m<=pw n:=by
 obtain⟨k,rfl⟩:=Nat.exists_eq_add_of_le h;rw[fc];have h1:=cg m;have h2:=cg k;have:=amo (show 1<=pw k by omega) (amY h1);omega
theorem Lim.nil:Lim []:=λ_ h=>by cases h
theorem Lim.cons{x:Int}{l:List Int}(h1:0<=x/\x<1000000000)(h2:Lim l):Lim (x::l):=λy hy=>by
 rcases amy.1 hy with rfl|hy
 ·exact h1
 ·exact h2 y hy
theorem Lim.head{x:Int}{l:List Int}(h:Lim (x::l)):0<=x/\x<1000000000:=h x (by simp)
theorem Lim.tail{x:Int}{l:List Int}(h:Lim (x::l)):Lim l:=λy hy=>h y (by simp[hy])
theorem Lim.append{a b:List Int}(h1:Lim a)(h2:Lim b):Lim (a++b):=λy hy=>by
 rcases amG.1 hy with hy|hy
 ·exact h1 y hy
 ·exact h2 y hy
theorem Lim.left{a b:List Int}(h:Lim (a++b)):Lim a:=λy hy=>h y (by simp[hy])
theorem Lim.right{a b:List Int}(h:Lim (a++b)):Lim b:=λy hy=>h y (by simp[hy])
theorem Lim.take{a:List Int}(h:Lim a)(n:Nat):Lim (a.take n):=λy hy=>h y (anv hy)
theorem Lim.drop{a:List Int}(h:Lim a)(n:Nat):Lim (a.drop n):=λy hy=>h y (anS hy)
theorem Lim.set{a:List Int}(h:Lim a)(n:Nat){y:Int}(hy:0<=y/\y<1000000000):Lim (a.set n y):=λz hz=>by
 rcases aov hz with hz|rfl
 ·exact h z hz
 ·exact hy
theorem Lim.get{a:List Int}(h:Lim a){n:Nat}(hn:n<a.length):0<=a[n]/\a[n]<1000000000:=h _ (ams hn)
theorem Lim.rep(n:Nat):Lim (List.replicate n 0):=λy hy=>by
 rw[List.eq_of_mem_replicate hy];decide
theorem dv(a b:List Int):val (a++b)=val a+pw a.length*val b:=by
 induction a with
 |nil=>simp[val,pw]
 |cons x a ih=>
  grind [val,bW]
theorem aL{l:List Int}(h:Lim l):0<=val l:=by
 induction l with
 |nil=>exact Int.le_refl _
 |cons x l ih=>
  grind [h.tail,h.head,val]
theorem bU{l:List Int}(h:Lim l):val l<pw l.length:=by
 induction l with
 |nil=>exact Int.zero_lt_one
 |cons x l ih=>
  grind [h.tail,h.head,val,bW]
theorem wC:∀{a b:List Int},Lim a->Lim b->a.length=b.length->val a=val b->a=b
 |[],[],_,_,_,_=>rfl
 |[],_::_,_,_,h,_=>by simp at h
 |_::_,[],_,_,h,_=>by simp at h
 |x::a,y::b,h1,h2,hl,hv=>by
  have k1:=h1.head;have k2:=h2.head;simp only[val]at hv;have e:x=y:=by omega
  subst e;rw[wC h1.tail h2.tail (by simpa using hl) (by omega)]
theorem gj(n:Nat):val (List.replicate n 0)=0:=by
 induction n with
 |zero=>rfl
 |succ n ih=>simp[List.replicate_succ,val,ih]
theorem bg{l:List Int}{n:Nat}(h:n<l.length):val (l.take (n+1))=val (l.take n)+pw n*l[n]:=by grind [List.take_succ_eq_append_getElem,dv,val]
theorem eV:∀{l:List Int} {n:Nat} (h:n<l.length) (y:Int),val (l.set n y)=val l+pw n*(y-l[n])
 |[],_,h,_=>by simp at h
 |x::l,0,_,y=>by simp only[List.set_cons_zero,val,n6,List.getElem_cons_zero];omega
 |x::l,n+1,h,y=>by
  have:=eV (l:=l) (n:=n) (by simpa using h) y;simp only[List.set_cons_succ,val,this,bW,List.getElem_cons_succ];grind
theorem fH(l:List Int)(n:Nat):val l=val (l.take n)+pw (min n l.length)*val (l.drop n):=by
 have:=dv (l.take n) (l.drop n);simp_all
def dig:Nat->Int->List Int
 |0,_=>[]
 |n+1,v=>v%1000000000::dig n (v/1000000000)
theorem iW:∀(n:Nat) (v:Int),(dig n v).length=n
 |0,_=>rfl
 |n+1,v=>by simp[dig,iW n]
theorem n4:∀(n:Nat) (v:Int),Lim (dig n v)
 |0,_=>Lim.nil
 |n+1,v=>Lim.cons (by omega) (n4 n _)
theorem gN:∀(n:Nat) (v:Int),0<=v->v<pw n->val (dig n v)=v
 |0,v,h1,h2=>by simp only[n6]at h2;simp only[dig,val];omega
 |n+1,v,h1,h2=>by
  rw[bW]at h2;simp only[dig,val];rw[gN n (v/1000000000) (by omega) (by omega)];omega
theorem CK{l:List Int}{n:Nat}{v:Int}(h:Lim l)(hl:l.length=n)(hv:val l=v):l=dig n v:=by
 subst hl hv;grind [wC,n4,iW,gN,aL,bU]
def lbF:Nat->Nat->List Int
 |0,_=>[]
 |f+1,n=>bif n==0 then []else((n%1000000000:Nat):Int)::lbF f (n/1000000000)
def ae(n:Nat):List Int:=lbF (n.log2+1) n
theorem sY(f:Nat):lbF f 0=[]:=by cases f<;>rfl
theorem DA:∀(f g n:Nat),n<2^f->n<2^g->lbF f n=lbF g n
 |0,g,n,h,_=>by
  have:n=0:=by simpa using h
  subst this;rw[sY,sY]
 |f+1,0,n,_,h=>by
  have:n=0:=by simpa using h
  subst this;rw[sY,sY]
 |f+1,g+1,n,h1,h2=>by
  rw[Nat.pow_succ]at h1 h2;simp only[lbF];rw[DA f g (n/1000000000) (by omega) (by omega)]
theorem Qm{f n:Nat}(h:n<2^f):ae n=lbF f n:=DA _ _ _ Nat.lt_log2_self h
theorem fw:ae 0=[]:=rfl
theorem iw{n:Nat}(h:n≠0):ae n=((n%1000000000:Nat):Int)::ae (n/1000000000):=by grind [Nat.lt_log2_self,Qm,ae,lbF]
theorem qr{motive:Nat->Prop}(h0:motive 0)(h1:∀n,n≠0->motive (n/1000000000)->motive n)(n:Nat):motive n:=by
 induction n using Nat.strongRecOn with
 |ind n ih=>
  grind
theorem bS(n:Nat):Lim (ae n):=by
 induction n using qr with
 |h0=>exact Lim.nil
 |h1 n hn ih=>rw[iw hn];exact Lim.cons (by omega) ih
theorem bG(n:Nat):val (ae n)=(n:Int):=by
 induction n using qr with
 |h0=>rfl
 |h1 n hn ih=>rw[iw hn];simp only[val];omega
def can(l:List Int):Prop:=Lim l/\l.getLast?≠some 0
instance (l:List Int):Decidable (can l):=by unfold can;infer_instance
theorem dK(n:Nat):can (ae n):=by
 refine⟨bS n,?_⟩;induction n using qr with
 |h0=>simp[fw]
 |h1 n hn ih=>
  grind [iw]
theorem IU{x:Int}{l:List Int}(h:can (x::l)):can l:=by
 refine⟨h.1.tail,λe=>h.2 ?_⟩;grind
theorem eo:∀{l:List Int},can l->l≠[]->0<val l
 |[],_,h=>by cases h rfl
 |[x],h,_=>by
  have:=h.1.head;have h2:=h.2;simp at h2;simp only[val];omega
 |x::y::l,h,_=>by
  have:=eo (IU h) (by simp);have:=h.1.head;simp only[val]at*
  omega
theorem pK:∀{l:List Int},can l->l=ae (val l).toNat
 |[],_=>rfl
 |x::l,h=>by
  have ih:=pK (IU h);have hp:=eo h (by simp);have hx:=h.1.head;have hn:=aL h.1.tail;rw[iw (by omega)];simp only[val]at hp ⊢;rw[show(x+1000000000*val l).toNat%1000000000=x.toNat by omega,show(x+1000000000*val l).toNat/1000000000=(val l).toNat by omega,<-ih];rw[show((x.toNat:Nat):Int)=x by omega]
theorem dh{n k:Nat}(h:(n:Int)<pw k):(ae n).length<=k:=by
 induction k generalizing n with
 |zero=>
  have:n=0:=by simp only[n6]at h;omega
  subst this;simp[fw]
 |succ k ih=>
  rw[bW]at h;by_cases hn:n=0
  ·subst hn;simp[fw]
  ·rw[iw hn];have:=ih (n:=n/1000000000) (by omega);simp;omega
theorem CU{n k:Nat}(h:pw k<=(n:Int)):k<(ae n).length:=by
 rcases amX k (ae n).length with h1|h1
 ·grind
 ·have h2:=bU (bS n);rw[bG]at h2;have:=df h1;omega
theorem gG{n:Nat}:ae n=[]↔n=0:=by
 constructor
 ·grind [bG,val]
 ·rintro rfl;rfl
def ah(z:Int):Bool×List Int:=(decide (z<0),ae z.natAbs)
def ab(x:Bool×List Int):Int:=bif x.1 then-val x.2 else val x.2
theorem dec_enc(z:Int):ab (ah z)=z:=by grind [ab,ah,bG]
def bV(a b:Int):Int:=bif decide (a<b)then-1 else bif decide (b<a)then 1 else 0
abbrev y0Y:Ty:=.st (.pair .str (.int .u64))
abbrev y1Y:Ty:=.st (.pair (.int .i8) (.int .i8))
abbrev y2Y:Ty:=.st (.pair (.int .i64) (.int .i64))
abbrev y3Y:Ty:=.st (.pair .bool (.sl (.int .u32)))
abbrev y4Y:Ty:=.st (.pair (.int .i64) (.pair (.int .i64) (.int .i64)))
abbrev y5Y:Ty:=.st (.pair (.int .i64) (.pair (.int .i64) (.pair .bool (.int .u8))))
abbrev y6Y:Ty:=.st (.pair (.int .i64) (.pair (.int .i64) (.pair (.int .i64) (.pair (.int .i64) .bool))))
abbrev y7Y:Ty:=.st (.pair (.int .i64) (.pair y4Y (.pair y2Y (.int .i64))))
abbrev y8Y:Ty:=.st (.pair (.int .i64) (.pair (.int .i64) (.pair (.int .i64) (.pair (.int .i64) (.pair (.int .i64) (.pair (.int .i64) (.pair (.int .i64) (.int .i64))))))))
abbrev y9Y:Ty:=.st (.pair (.int .u8) (.pair (.int .u8) (.pair (.int .i8) (.pair (.int .i8) (.pair (.int .i8) (.pair (.int .i8) (.sl y1Y)))))))
abbrev acO:Ty:=.st (.pair (.st (.pair y3Y y3Y)) (.st (.pair y3Y y3Y)))
abbrev CZ:Ty:=.st (.pair (.st (.pair y3Y y3Y)) (.pair (.st (.pair y3Y y3Y)) (.st (.pair y3Y y3Y))))
abbrev V5:Ty:=.st (.pair (.int .i64) CZ)
abbrev Fp:Ty:=.st (.pair (.st (.pair y3Y y3Y)) (.pair (.st (.pair y3Y y3Y)) (.pair (.st (.pair y3Y y3Y)) (.pair (.st (.pair y3Y y3Y)) (.st (.pair y3Y y3Y))))))
abbrev U6:Ty:=.st (.pair Fp (.pair (.int .i64) .bool))
abbrev ajh:Ty:=.st (.pair (.st (.pair y3Y y3Y)) (.pair (.st (.pair y3Y y3Y)) (.pair (.st (.pair y3Y y3Y)) (.pair (.st (.pair y3Y y3Y)) (.pair (.st (.pair y3Y y3Y)) (.st (.pair y3Y y3Y)))))))
abbrev Lv:Ty:=.st (.pair .bool (.pair CZ (.pair CZ (.pair .bool (.pair Fp Fp)))))
abbrev acZ:Ty:=.st (.pair .str (.pair (.int .i64) (.pair (.int .i64) (.st (.sl Lv)))))
abbrev apD:Ty:=.sl (.int .u32)
abbrev apE:Ty:=.int .i64
abbrev apG:Ty:=.int .u32
def tN(n:Nat)(t:Ty):Nat×TI:=(n,⟨t,[],0,0,0,true⟩)
def tU(n:Nat):Nat×TI:=(n,⟨.int .i64,[],0,0,0,false⟩)
def tS(n:Nat)(t:Ty)(l:List (Nat×Nat)):Nat×TI:=(n,⟨t,l,0,0,0,true⟩)
def tA(n:Nat)(t:Ty)(e l:Nat):Nat×TI:=(n,⟨t,[],e,l,0,true⟩)
def tLs(n:Nat)(t:Ty)(e b:Nat):Nat×TI:=(n,⟨t,[],e,0,b,true⟩)
def tys:TT:=[tU 1,
 tN 2 apE,
 tN 3 apE,
 tN 4 .bool,
 tN 5 (.int .u8),
 tN 6 (.int .u8),
 tS 7 y5Y [(0,1),(1,1),(2,1),(3,1)],
 tS 8 y5Y [(0,1),(1,1),(2,1),(3,1)],
 tN 9 .str,
 tN 10 .str,
 tN 11 .str,
 tN 12 (.int .u64),
 tS 13 y0Y [(0,1),(1,1)],
 tS 14 y0Y [(0,1),(1,1)],
 tU 15,
 tU 16,
 tU 17,
 tN 21 (.int .i32),
 tLs 22 (.sl y9Y) 94 32,
 tLs 23 (.sl y9Y) 94 32,
 tLs 24 apD 109 4,
 tS 25 y3Y [(0,1),(1,1)],
 tS 26 y3Y [(0,1),(1,1)],
 tS 27 (.st (.pair y3Y y3Y)) [(0,2),(2,2)],
 tS 28 (.st (.pair y3Y y3Y)) [(0,2),(2,2)],
 tA 29 CZ 4 3,
 tU 30,
 tU 31,
 tLs 32 (.sl acZ) 39 56,
 tLs 33 (.sl Lv) 75 1040,
 tS 34 (.st (.sl Lv)) [(0,1)],
 tS 35 (.st (.sl Lv)) [(0,1)],
 tU 37,
 tS 38 acZ [(0,1),(1,1),(2,1),(3,1)],
 tS 39 acZ [(0,1),(1,1),(2,1),(3,1)],
 tU 41,
 tS 42 y2Y [(0,1),(1,1)],
 tS 43 y2Y [(0,1),(1,1)],
 tN 44 apE,
 tU 46,
 tU 47,
 tU 48,
 tLs 49 (.sl apE) 2 8,
 tU 51,
 tS 52 y8Y [(0,1),(1,1),(2,1),(3,1),(4,1),(5,1),(6,1),(7,1)],
 tS 53 y8Y [(0,1),(1,1),(2,1),(3,1),(4,1),(5,1),(6,1),(7,1)],
 tU 54,
 tLs 55 (.sl y7Y) 62 56,
 tU 57,
 tU 58,
 tS 59 y4Y [(0,1),(1,1),(2,1)],
 tS 60 y4Y [(0,1),(1,1),(2,1)],
 tS 61 y7Y [(0,1),(1,3),(4,2),(6,1)],
 tS 62 y7Y [(0,1),(1,3),(4,2),(6,1)],
 tU 64,
 tU 66,
 tU 67,
 tS 68 CZ [(0,4),(4,4),(8,4)],
 tS 69 CZ [(0,4),(4,4),(8,4)],
 tS 70 CZ [(0,4),(4,4),(8,4)],
 tS 71 CZ [(0,4),(4,4),(8,4)],
 tS 72 Fp [(0,4),(4,4),(8,4),(12,4),(16,4)],
 tS 73 Fp [(0,4),(4,4),(8,4),(12,4),(16,4)],
 tS 74 Lv [(0,1),(1,12),(13,12),(25,1),(26,20),(46,20)],
 tS 75 Lv [(0,1),(1,12),(13,12),(25,1),(26,20),(46,20)],
 tU 77,
 tU 79,
 tU 80,
 tU 81,
 tU 82,
 tU 83,
 tU 84,
 tU 85,
 tU 86,
 tU 87,
 tU 88,
 tLs 89 (.sl y2Y) 43 16,
 tU 90,
 tN 91 (.int .i8),
 tLs 92 (.sl y1Y) 127 2,
 tS 93 y9Y [(0,1),(1,1),(2,1),(3,1),(4,1),(5,1),(6,1)],
 tS 94 y9Y [(0,1),(1,1),(2,1),(3,1),(4,1),(5,1),(6,1)],
 tU 95,
 tU 96,
 tU 97,
 tU 98,
 tU 99,
 tU 100,
 tU 101,
 tU 102,
 tU 103,
 tU 105,
 tU 106,
 tU 107,
 tU 108,
 tN 109 apG,
 tU 110,
 tU 111,
 tU 113,
 tU 114,
 tN 115 (.int .u64),
 tU 116,
 tU 117,
 tU 118,
 tU 119,
 tS 120 acO [(0,4),(4,4)],
 tS 121 acO [(0,4),(4,4)],
 tU 122,
 tU 123,
 tU 124,
 tLs 125 (.sl acO) 121 128,
 tU 126,
 tA 127 y1Y 1 2,
 tU 128,
 tU 129,
 tU 130,
 tU 131,
 tLs 132 (.sl Fp) 73 320,
 tU 133,
 tU 134,
 tU 136,
 tU 138,
 tU 140,
 tU 141,
 tU 142,
 tU 143,
 tU 145,
 tU 146,
 tLs 147 (.sl (.sl U6)) 149 24,
 tU 148,
 tLs 149 (.sl U6) 177 336,
 tU 150,
 tU 151,
 tU 152,
 tU 153,
 tU 154,
 tU 156,
 tU 157,
 tU 158,
 tU 159,
 tU 161,
 tU 162,
 tU 163,
 tU 164,
 tU 166,
 tU 167,
 tU 168,
 tU 169,
 tU 170,
 tU 171,
 tU 173,
 tU 174,
 tU 175,
 tS 176 U6 [(0,20),(20,1),(21,1)],
 tS 177 U6 [(0,20),(20,1),(21,1)],
 tU 178,
 tU 180,
 tU 181,
 tU 182,
 tS 183 CZ [(0,4),(4,4),(8,4)],
 tU 184,
 tU 185,
 tU 186,
 tU 187,
 tS 188 V5 [(0,1),(1,12)],
 tS 189 V5 [(0,1),(1,12)],
 tU 190,
 tU 191,
 tU 192,
 tU 193,
 tU 194,
 tU 195,
 tU 196,
 tU 198,
 tLs 199 (.sl (.st (.pair y3Y y3Y))) 28 64,
 tU 200,
 tU 201,
 tU 202,
 tU 203,
 tLs 204 (.sl apE) 3 8,
 tLs 205 (.sl .bool) 4 1,
 tLs 206 (.sl y6Y) 208 40,
 tS 207 y6Y [(0,1),(1,1),(2,1),(3,1),(4,1)],
 tS 208 y6Y [(0,1),(1,1),(2,1),(3,1),(4,1)],
 tU 209,
 tLs 210 (.sl (.sl Fp)) 132 24,
 tU 211,
 tU 213,
 tU 215,
 tU 216,
 tU 217,
 tU 218,
 tU 219,
 tU 220,
 tU 221,
 tS 222 ajh [(0,4),(4,4),(8,4),(12,4),(16,4),(20,4)],
 tS 223 ajh [(0,4),(4,4),(8,4),(12,4),(16,4),(20,4)],
 tU 224,
 tU 225,
 tU 227,
 tU 228,
 tU 229,
 tU 230,
 tU 231,
 tU 232,
 tU 233,
 tU 234,
 tU 235,
 tU 236,
 tU 237,
 tU 238,
 tU 239,
 tU 240,
 tU 241,
 tU 243,
 tU 244,
 tU 245,
 tU 246,
 tU 247,
 tU 248,
 tU 249,
 tU 250,
 tU 251,
 tN 252 (.int .u64),
 tS 253 y2Y [(0,1),(1,1)],
 tS 254 y2Y [(0,1),(1,1)],
 tU 256,
 tU 257,
 tU 258,
 tU 259,
 tU 260,
 tU 261,
 tU 262,
 tU 263,
 tU 264,
 tU 265,
 tU 266,
 tU 267,
 tU 268,
 tU 269,
 tU 270,
 tU 271,
 tU 272,
 tU 273,
 tU 274,
 tU 275,
 tU 276,
 tU 277,
 tU 278,
 tU 279,
 tS 280 V5 [(0,1),(1,12)],
 tS 281 V5 [(0,1),(1,12)],
 tU 282,
 tN 283 apE,
 tU 285,
 tU 286,
 tU 287,
 tU 288,
 tU 289,
 tU 290,
 tU 291,
 tU 292,
 tU 293,
 tU 294,
 tU 295,
 tU 296,
 tU 298,
 tU 299,
 tU 300,
 tN 301 (.int .u64),
 tU 302,
 tU 303,
 tU 304,
 tU 305,
 tU 306,
 tU 308,
 tU 309,
 tU 310,
 tS 311 (.st .bool) [(0,1)],
 tS 312 (.st .bool) [(0,1)],
 tU 313,
 tU 315,
 tU 316,
 tU 317,
 tU 318,
 tU 319,
 tU 321,
 tU 322,
 tU 323,
 tU 324,
 tU 330,
 tN 331 (.int .u8),
 tN 332 (.int .u8),
 tU 333,
 tU 334,
 tN 335 (.int .i32),
 tN 336 (.int .i32)]
theorem aeT:eM Tryz.prog tys=true:=by kernel_rfl
theorem PJ:Tryz.prog.follows .mixedOrders=true:=by kernel_rfl
set_option maxRecDepth 100000 in
noncomputable def ft:FT:=[(2,Tryz.f2),(3,Tryz.f3),(4,Tryz.f4),(5,Tryz.f5),(6,Tryz.f6),(7,Tryz.f7),(8,Tryz.f8),(9,Tryz.f9),(10,Tryz.f10),(11,Tryz.f11),(12,Tryz.f12),(13,Tryz.f13),(14,Tryz.f14),(15,Tryz.f15),(16,Tryz.f16),(17,Tryz.f17),(18,Tryz.f18),(19,Tryz.f19),(20,Tryz.f20),(21,Tryz.f21),(22,Tryz.f22),(23,Tryz.f23),(24,Tryz.f24),(25,Tryz.f25),(26,Tryz.f26),(27,Tryz.f27),(28,Tryz.f28),(29,Tryz.f29),(30,Tryz.f30),(31,Tryz.f31),(32,Tryz.f32),(33,Tryz.f33),(34,Tryz.f34),(35,Tryz.f35),(36,Tryz.f36),(37,Tryz.f37),(38,Tryz.f38),(39,Tryz.f39),(40,Tryz.f40),(41,Tryz.f41),(42,Tryz.f42),(43,Tryz.f43),(44,Tryz.f44),(45,Tryz.f45),(46,Tryz.f46),(47,Tryz.f47),(48,Tryz.f48),(49,Tryz.f49),(50,Tryz.f50),(51,Tryz.f51),(52,Tryz.f52),(53,Tryz.f53),(54,Tryz.f54),(55,Tryz.f55),(56,Tryz.f56),(57,Tryz.f57),(58,Tryz.f58),(59,Tryz.f59),(60,Tryz.f60),(61,Tryz.f61),(62,Tryz.f62),(63,Tryz.f63),(64,Tryz.f64),(65,Tryz.f65),(66,Tryz.f66),(67,Tryz.f67),(68,Tryz.f68),(69,Tryz.f69),(70,Tryz.f70),(71,Tryz.f71),(72,Tryz.f72),(73,Tryz.f73),(74,Tryz.f74),(75,Tryz.f75),(76,Tryz.f76),(77,Tryz.f77),(78,Tryz.f78),(79,Tryz.f79),(80,Tryz.f80),(81,Tryz.f81),(82,Tryz.f82),(83,Tryz.f83),(84,Tryz.f84),(85,Tryz.f85),(86,Tryz.f86),(87,Tryz.f87),(88,Tryz.f88),(89,Tryz.f89),(90,Tryz.f90),(91,Tryz.f91),(92,Tryz.f92),(93,Tryz.f93),(94,Tryz.f94),(95,Tryz.f95),(96,Tryz.f96),(97,Tryz.f97),(98,Tryz.f98),(99,Tryz.f99),(100,Tryz.f100),(101,Tryz.f101),(102,Tryz.f102),(103,Tryz.f103),(104,Tryz.f104),(105,Tryz.f105),(106,Tryz.f106),(107,Tryz.f107),(108,Tryz.f108),(109,Tryz.f109),(110,Tryz.f110),(111,Tryz.f111),(112,Tryz.f112),(113,Tryz.f113),(114,Tryz.f114),(115,Tryz.f115),(116,Tryz.f116),(117,Tryz.f117),(118,Tryz.f118),(119,Tryz.f119),(120,Tryz.f120),(121,Tryz.f121),(122,Tryz.f122),(123,Tryz.f123),(124,Tryz.f124),(125,Tryz.f125),(126,Tryz.f126),(127,Tryz.f127),(128,Tryz.f128),(129,Tryz.f129),(130,Tryz.f130),(131,Tryz.f131),(132,Tryz.f132),(133,Tryz.f133),(134,Tryz.f134),(135,Tryz.f135),(136,Tryz.f136),(137,Tryz.f137),(138,Tryz.f138),(139,Tryz.f139),(140,Tryz.f140),(141,Tryz.f141),(142,Tryz.f142),(143,Tryz.f143),(144,Tryz.f144),(145,Tryz.f145),(146,Tryz.f146),(147,Tryz.f147),(148,Tryz.f148),(149,Tryz.f149),(150,Tryz.f150),(151,Tryz.f151),(152,Tryz.f152),(153,Tryz.f153),(154,Tryz.f154),(155,Tryz.f155),(156,Tryz.f156),(157,Tryz.f157),(158,Tryz.f158),(159,Tryz.f159),(160,Tryz.f160),(161,Tryz.f161),(162,Tryz.f162),(163,Tryz.f163),(164,Tryz.f164),(165,Tryz.f165),(166,Tryz.f166),(167,Tryz.f167),(168,Tryz.f168),(169,Tryz.f169),(170,Tryz.f170),(171,Tryz.f171),(172,Tryz.f172),(173,Tryz.f173),(174,Tryz.f174),(175,Tryz.f175),(176,Tryz.f176),(177,Tryz.f177),(178,Tryz.f178),(179,Tryz.f179),(180,Tryz.f180),(181,Tryz.f181),(182,Tryz.f182),(183,Tryz.f183),(184,Tryz.f184),(185,Tryz.f185),(186,Tryz.f186),(187,Tryz.f187),(188,Tryz.f188),(189,Tryz.f189),(190,Tryz.f190),(191,Tryz.f191),(192,Tryz.f192),(193,Tryz.f193),(194,Tryz.f194),(195,Tryz.f195),(196,Tryz.f196),(197,Tryz.f197),(198,Tryz.f198),(199,Tryz.f199),(200,Tryz.f200),(201,Tryz.f201),(202,Tryz.f202),(203,Tryz.f203),(204,Tryz.f204),(205,Tryz.f205),(206,Tryz.f206),(207,Tryz.f207),(208,Tryz.f208),(209,Tryz.f209),(210,Tryz.f210),(211,Tryz.f211),(212,Tryz.f212),(213,Tryz.f213),(214,Tryz.f214),(215,Tryz.f215),(216,Tryz.f216),(217,Tryz.f217),(218,Tryz.f218),(219,Tryz.f219),(220,Tryz.f220),(221,Tryz.f221),(222,Tryz.f222),(223,Tryz.f223),(224,Tryz.f224),(225,Tryz.f225),(226,Tryz.f226),(227,Tryz.f227),(228,Tryz.f228),(229,Tryz.f229),(230,Tryz.f230),(231,Tryz.f231),(232,Tryz.f232),(233,Tryz.f233),(234,Tryz.f234),(235,Tryz.f235),(236,Tryz.f236),(237,Tryz.f237),(238,Tryz.f238),(239,Tryz.f239),(240,Tryz.f240),(241,Tryz.f241),(242,Tryz.f242),(243,Tryz.f243),(244,Tryz.f244),(245,Tryz.f245),(246,Tryz.f246),(247,Tryz.f247),(248,Tryz.f248),(249,Tryz.f249),(250,Tryz.f250),(251,Tryz.f251),(252,Tryz.f252),(253,Tryz.f253),(254,Tryz.f254),(255,Tryz.f255),(256,Tryz.f256),(257,Tryz.f257),(258,Tryz.f258),(259,Tryz.f259),(260,Tryz.f260),(261,Tryz.f261),(262,Tryz.f262),(263,Tryz.f263),(264,Tryz.f264),(265,Tryz.f265),(266,Tryz.f266),(267,Tryz.f267),(268,Tryz.f268),(269,Tryz.f269),(270,Tryz.f270),(271,Tryz.f271),(272,Tryz.f272),(273,Tryz.f273),(274,Tryz.f274),(275,Tryz.f275),(276,Tryz.f276),(277,Tryz.f277),(278,Tryz.f278),(279,Tryz.f279),(280,Tryz.f280),(281,Tryz.f281),(282,Tryz.f282),(283,Tryz.f283),(284,Tryz.f284),(285,Tryz.f285),(286,Tryz.f286),(287,Tryz.f287),(288,Tryz.f288),(289,Tryz.f289),(290,Tryz.f290),(291,Tryz.f291),(292,Tryz.f292),(293,Tryz.f293),(294,Tryz.f294),(295,Tryz.f295),(296,Tryz.f296),(297,Tryz.f297),(298,Tryz.f298),(299,Tryz.f299),(300,Tryz.f300),(301,Tryz.f301),(302,Tryz.f302),(303,Tryz.f303),(304,Tryz.f304),(305,Tryz.f305),(306,Tryz.f306),(307,Tryz.f307),(308,Tryz.f308),(309,Tryz.f309),(310,Tryz.f310),(311,Tryz.f311),(312,Tryz.f312),(313,Tryz.f313),(314,Tryz.f314),(315,Tryz.f315),(316,Tryz.f316),(317,Tryz.f317),(318,Tryz.f318),(319,Tryz.f319),(320,Tryz.f320),(321,Tryz.f321),(322,Tryz.f322),(323,Tryz.f323),(324,Tryz.f324),(325,Tryz.f325),(326,Tryz.f326),(327,Tryz.f327),(328,Tryz.f328),(329,Tryz.f329),(330,Tryz.f330),(331,Tryz.f331),(332,Tryz.f332),(333,Tryz.f333),(334,Tryz.f334),(335,Tryz.f335),(336,Tryz.f336),(337,Tryz.f337),(338,Tryz.f338),(339,Tryz.f339),(340,Tryz.f340),(341,Tryz.f341),(342,Tryz.f342),(343,Tryz.f343),(344,Tryz.f344),(345,Tryz.f345),(346,Tryz.f346),(347,Tryz.f347),(348,Tryz.f348),(349,Tryz.f349),(350,Tryz.f350),(351,Tryz.f351),(352,Tryz.f352),(353,Tryz.f353),(354,Tryz.f354),(355,Tryz.f355),(356,Tryz.f356),(357,Tryz.f357),(358,Tryz.f358),(359,Tryz.f359),(360,Tryz.f360),(361,Tryz.f361),(362,Tryz.f362),(363,Tryz.f363),(364,Tryz.f364),(365,Tryz.f365),(366,Tryz.f366),(367,Tryz.f367),(368,Tryz.f368),(369,Tryz.f369),(370,Tryz.f370),(371,Tryz.f371),(372,Tryz.f372),(373,Tryz.f373),(394,Tryz.f394)]
set_option maxRecDepth 100000 in
theorem akj:FtAll Tryz.prog ft:=⟨Tryz.func2,Tryz.func3,Tryz.func4,Tryz.func5,Tryz.func6,Tryz.func7,Tryz.func8,Tryz.func9,Tryz.func10,Tryz.func11,Tryz.func12,Tryz.func13,Tryz.func14,Tryz.func15,Tryz.func16,Tryz.func17,Tryz.func18,Tryz.func19,Tryz.func20,Tryz.func21,Tryz.func22,Tryz.func23,Tryz.func24,Tryz.func25,Tryz.func26,Tryz.func27,Tryz.func28,Tryz.func29,Tryz.func30,Tryz.func31,Tryz.func32,Tryz.func33,Tryz.func34,Tryz.func35,Tryz.func36,Tryz.func37,Tryz.func38,Tryz.func39,Tryz.func40,Tryz.func41,Tryz.func42,Tryz.func43,Tryz.func44,Tryz.func45,Tryz.func46,Tryz.func47,Tryz.func48,Tryz.func49,Tryz.func50,Tryz.func51,Tryz.func52,Tryz.func53,Tryz.func54,Tryz.func55,Tryz.func56,Tryz.func57,Tryz.func58,Tryz.func59,Tryz.func60,Tryz.func61,Tryz.func62,Tryz.func63,Tryz.func64,Tryz.func65,Tryz.func66,Tryz.func67,Tryz.func68,Tryz.func69,Tryz.func70,Tryz.func71,Tryz.func72,Tryz.func73,Tryz.func74,Tryz.func75,Tryz.func76,Tryz.func77,Tryz.func78,Tryz.func79,Tryz.func80,Tryz.func81,Tryz.func82,Tryz.func83,Tryz.func84,Tryz.func85,Tryz.func86,Tryz.func87,Tryz.func88,Tryz.func89,Tryz.func90,Tryz.func91,Tryz.func92,Tryz.func93,Tryz.func94,Tryz.func95,Tryz.func96,Tryz.func97,Tryz.func98,Tryz.func99,Tryz.func100,Tryz.func101,Tryz.func102,Tryz.func103,Tryz.func104,Tryz.func105,Tryz.func106,Tryz.func107,Tryz.func108,Tryz.func109,Tryz.func110,Tryz.func111,Tryz.func112,Tryz.func113,Tryz.func114,Tryz.func115,Tryz.func116,Tryz.func117,Tryz.func118,Tryz.func119,Tryz.func120,Tryz.func121,Tryz.func122,Tryz.func123,Tryz.func124,Tryz.func125,Tryz.func126,Tryz.func127,Tryz.func128,Tryz.func129,Tryz.func130,Tryz.func131,Tryz.func132,Tryz.func133,Tryz.func134,Tryz.func135,Tryz.func136,Tryz.func137,Tryz.func138,Tryz.func139,Tryz.func140,Tryz.func141,Tryz.func142,Tryz.func143,Tryz.func144,Tryz.func145,Tryz.func146,Tryz.func147,Tryz.func148,Tryz.func149,Tryz.func150,Tryz.func151,Tryz.func152,Tryz.func153,Tryz.func154,Tryz.func155,Tryz.func156,Tryz.func157,Tryz.func158,Tryz.func159,Tryz.func160,Tryz.func161,Tryz.func162,Tryz.func163,Tryz.func164,Tryz.func165,Tryz.func166,Tryz.func167,Tryz.func168,Tryz.func169,Tryz.func170,Tryz.func171,Tryz.func172,Tryz.func173,Tryz.func174,Tryz.func175,Tryz.func176,Tryz.func177,Tryz.func178,Tryz.func179,Tryz.func180,Tryz.func181,Tryz.func182,Tryz.func183,Tryz.func184,Tryz.func185,Tryz.func186,Tryz.func187,Tryz.func188,Tryz.func189,Tryz.func190,Tryz.func191,Tryz.func192,Tryz.func193,Tryz.func194,Tryz.func195,Tryz.func196,Tryz.func197,Tryz.func198,Tryz.func199,Tryz.func200,Tryz.func201,Tryz.func202,Tryz.func203,Tryz.func204,Tryz.func205,Tryz.func206,Tryz.func207,Tryz.func208,Tryz.func209,Tryz.func210,Tryz.func211,Tryz.func212,Tryz.func213,Tryz.func214,Tryz.func215,Tryz.func216,Tryz.func217,Tryz.func218,Tryz.func219,Tryz.func220,Tryz.func221,Tryz.func222,Tryz.func223,Tryz.func224,Tryz.func225,Tryz.func226,Tryz.func227,Tryz.func228,Tryz.func229,Tryz.func230,Tryz.func231,Tryz.func232,Tryz.func233,Tryz.func234,Tryz.func235,Tryz.func236,Tryz.func237,Tryz.func238,Tryz.func239,Tryz.func240,Tryz.func241,Tryz.func242,Tryz.func243,Tryz.func244,Tryz.func245,Tryz.func246,Tryz.func247,Tryz.func248,Tryz.func249,Tryz.func250,Tryz.func251,Tryz.func252,Tryz.func253,Tryz.func254,Tryz.func255,Tryz.func256,Tryz.func257,Tryz.func258,Tryz.func259,Tryz.func260,Tryz.func261,Tryz.func262,Tryz.func263,Tryz.func264,Tryz.func265,Tryz.func266,Tryz.func267,Tryz.func268,Tryz.func269,Tryz.func270,Tryz.func271,Tryz.func272,Tryz.func273,Tryz.func274,Tryz.func275,Tryz.func276,Tryz.func277,Tryz.func278,Tryz.func279,Tryz.func280,Tryz.func281,Tryz.func282,Tryz.func283,Tryz.func284,Tryz.func285,Tryz.func286,Tryz.func287,Tryz.func288,Tryz.func289,Tryz.func290,Tryz.func291,Tryz.func292,Tryz.func293,Tryz.func294,Tryz.func295,Tryz.func296,Tryz.func297,Tryz.func298,Tryz.func299,Tryz.func300,Tryz.func301,Tryz.func302,Tryz.func303,Tryz.func304,Tryz.func305,Tryz.func306,Tryz.func307,Tryz.func308,Tryz.func309,Tryz.func310,Tryz.func311,Tryz.func312,Tryz.func313,Tryz.func314,Tryz.func315,Tryz.func316,Tryz.func317,Tryz.func318,Tryz.func319,Tryz.func320,Tryz.func321,Tryz.func322,Tryz.func323,Tryz.func324,Tryz.func325,Tryz.func326,Tryz.func327,Tryz.func328,Tryz.func329,Tryz.func330,Tryz.func331,Tryz.func332,Tryz.func333,Tryz.func334,Tryz.func335,Tryz.func336,Tryz.func337,Tryz.func338,Tryz.func339,Tryz.func340,Tryz.func341,Tryz.func342,Tryz.func343,Tryz.func344,Tryz.func345,Tryz.func346,Tryz.func347,Tryz.func348,Tryz.func349,Tryz.func350,Tryz.func351,Tryz.func352,Tryz.func353,Tryz.func354,Tryz.func355,Tryz.func356,Tryz.func357,Tryz.func358,Tryz.func359,Tryz.func360,Tryz.func361,Tryz.func362,Tryz.func363,Tryz.func364,Tryz.func365,Tryz.func366,Tryz.func367,Tryz.func368,Tryz.func369,Tryz.func370,Tryz.func371,Tryz.func372,Tryz.func373,Tryz.func394,trivial⟩
end Go.Proofs.YtmnlppieefomnaaGreatDoor
end
