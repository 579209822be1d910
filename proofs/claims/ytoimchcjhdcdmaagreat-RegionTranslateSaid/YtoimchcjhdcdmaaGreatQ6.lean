/- Regions of calls whose results are data: one order stands for all, the proof. -/
import Derived.Test.YtoimchcjhdcdmaaGreatQ5
noncomputable section
namespace Go.Proofs.YtoimchcjhdcdmaaGreat
open Go.RowKit Go.IntKind
open Bool renaming true->T',false->Ff'
open Option renaming some->S'
theorem ap5:type_of% @Region.free_spec:=@Region.free_spec
theorem aq7:type_of% @Bool.and_false:=@Bool.and_false
theorem arw:type_of% @Oper.apart_spec:=@Oper.apart_spec
section
section
variable {P:Program} {T:TT} {R:Type}
theorem yD{L:SL}{o:Oper}{k:SV->Option R}{r:R}(h:mh P L o k=S' r):∃s,k s=S' r/\mh P L o S'=S' s:=by
 unfold mh at h ⊢;repeat' (split at h)
 all_goals first
  |(cases h;done)
  |exact⟨_,h,by simp[*]⟩
  |exact⟨_,h,rfl⟩
theorem Xe{L:SL}{H:List Item}{o:Oper}{k:SV->Option R}{r:R}(hq:kQ o.op=T')(h:qop P T T' L H o k=S' r):∃s,k s=S' r/\qop P T T' L H o S'=S' s:=by
 unfold qop at h ⊢;split at h;all_goals (repeat' (split at h))
 all_goals first
  |(cases h;done)
  |exact⟨_,h,by simp[*]⟩
  |exact⟨_,h,rfl⟩
  |exact yD h
  |(obtain⟨s,h1,h2⟩:=yD h;exact⟨s,h1,by simp[*]⟩)
  |(exfalso;simp[kQ, *]at hq;done)
end
section
variable {P:Program} {T:TT} {R:Type}
theorem Cq{H X:List Item}{j:Nat}{it:Item}(h:H[j]?=S' it):(H++X)[j]?=S' it:=by grind
theorem ID{H X:List Item}{s:SV}{l:List SV}(h:fH H s=S' l):fH (H++X) s=S' l:=by
 unfold fH at h ⊢;grind
theorem AB{H X:List Item}{L:SL}{place:Nat->Option (Nat×Nat)}:∀{ps:List (Nat×Operand)} {cs cs':List SV},rg H L place cs ps=S' cs'->rg (H++X) L place cs ps=S' cs'
 |[],_,_,h=>h
 |(i,x)::r,cs,cs',h=>by
  simp only[rg]at h ⊢;split at h<;>try (cases h;done)
  rename_i h1 h2;split at h<;>try (cases h;done)
  rename_i l hl;split at h<;>try (cases h;done)
  rename_i hb;simp only[ID hl,hb];exact AB h
theorem Gn{H X:List Item}:∀{ss:List SV} {tys:List Nat} {al:List SV},ss.all SV.noOwn=T'->fe T H ss tys=S' al->fe T (H++X) ss tys=S' al
 |[],[],_,_,h=>h
 |[],_::_,_,_,h=>by simp[fe]at h
 |_::_,[],_,_,h=>by simp[fe]at h
 |s::l,t::ts,al,hn,h=>by
  simp only[aqR,aoT]at hn;simp only[fe]at h ⊢;split at h<;>try (cases h;done)
  rename_i r hr;rw[Gn hn.2 hr]
  cases s<;>first
   |exact h
   |(exfalso;have:=hn.1;simp[SV.noOwn]at this;done)
theorem LG{L:SL}{H X:List Item}{o:Oper}{s:SV}(hq:kQ o.op=T')(h:qop P T T' L H o S'=S' s):qop P T T' L (H++X) o S'=S' s:=by
 have hq':∀op t x y u,o.op=.binOp op t x y u->Ju op y=none:=λop t x y u e=>by
  rw[e]at hq;simpa [kQ,isQ]using hq
 unfold qop at h ⊢;split at h;all_goals (try (rename_i hop;simp only[hq' _ _ _ _ _ hop]at h ⊢;exact h))
 all_goals (try (rename_i hop;simp only at h ⊢;exact h))
 all_goals (repeat' (split at h))
 all_goals first
  |(cases h;done)
  |exact h
  |(simp only[*];done)
  |(have hx:=Cq (X:=X) (by assumption:H[_]?=some _);simp only[*];done)
  |(have hx:=Cq (X:=X.map rdI) (by assumption:(H.map rdI)[_]?=some _);rw[<-List.map_append]at hx;simp only[*];done)
  |(simp[*];done)
  |(have hx:=AB (X:=X) (by assumption:rg H _ _ _ _=some _);simp only[*];done)
  |(have hx:=Cq (X:=X.map rdI) (by assumption:(H.map rdI)[_]?=some _);rw[<-List.map_append]at hx;simp only[hx];simp_all;done)
end
theorem cj{d:Nat}{s:SV}{L:SL}{t:Nat}:aK ((d,s)::nH L d) t=if t=d then S' s else aK L t:=d9
theorem Rm{L:SL}{t:Nat}:∀{ts:List Nat},t∈ts->aK (gI L ts) t=aK L t:=by
 intro ts ht;cases hl:aK L t with
 |none=>
  cases hs:aK (gI L ts) t with
  |none=>rfl
  |some s=>rw[gD hs]at hl;cases hl
 |some s=>
  induction ts with
  |nil=>cases ht
  |cons u us ih=>
   simp only[gI];by_cases hu:u=t
   ·grind [aK,arv]
   ·have hb:Nat.beq u t=false:=by
     grind [aoS]
    split
    ·grind [aK]
    grind
theorem dP{L M:SL}:∀{ts:List Nat},(∀t∈ts,aK L t=aK M t)->gI L ts=gI M ts
 |[],_=>rfl
 |u::us,h=>by
  simp only[gI];rw[h u (by simp),dP (ts:=us) λt ht=>h t (by simp[ht])]
theorem oU{R:Type}{ops:Array Oper}{L:SL}{o:Oper}{yes no:SL->Option R}{r:R}(h:cN ops L o yes no=S' r):
  (∃L',(∀t,aK L' t=aK L t)/\yes L'=S' r/\cN ops (gI L (o.looksAt ops)) o (λ_=>S' T') (λ_=>S' Ff')=S' T')\/(∃L',(∀t,aK L' t=aK L t)/\no L'=S' r/\cN ops (gI L (o.looksAt ops)) o (λ_=>S' T') (λ_=>S' Ff')=S' Ff'):=by
 unfold cN at h;split at h
 ·rename_i hg;exact .inl ⟨L,λ_=>rfl,h,by unfold cN;rw[hg]⟩
 ·rename_i j want hg;split at h<;>try (cases h;done)
  rename_i d hd;have hm:d∈o.looksAt ops:=by unfold Oper.looksAt;rw[hg];simp[hd]
  have hl:=Rm (L:=L) hm;split at h
  ·rename_i b hb
   have hy:∀b':Bool,b=b'->∀t,aK ((d,.d .bool b')::nH L d) t=aK L t:=λb' e t=>by
    subst e;rw[cj];split
    ·rename_i e;subst e;exact hb.symm
    ·rfl
   split at h
   ·split at h
    ·exact .inl ⟨_,hy T' rfl,h,by unfold cN;simp only[hg,hd,hl,hb]⟩
    ·exact .inr ⟨_,hy T' rfl,h,by unfold cN;simp only[hg,hd,hl,hb]⟩
   ·split at h
    ·exact .inr ⟨_,hy Ff' rfl,h,by unfold cN;simp only[hg,hd,hl,hb]⟩
    ·exact .inl ⟨_,hy Ff' rfl,h,by unfold cN;simp only[hg,hd,hl,hb]⟩
  ·grind [cN]
  ·cases h
def StepF(P:Program)(H:List Item)(ops:Array Oper)(Lr:SL)(o:Oper)(j:Nat)(s:SV):Prop:=
 ∀(X:List Item) (Z:Nat->Prop) (w0:World) (n:Nat) (G:List Value) (w:World) (a:Act) (Q:Exit->Act->World->Prop) (K:Act->World->Prop),inv w0->SR Z w0 (H++X) G w->FR Z n Lr (H++X) G w a->
  (∀v G' w',Old w w'->SR Z w0 (H++X) G' w'->(∀s' v',Rel1 G (Av Z (H++X) G) w s' v'->Rel1 G' (Av Z (H++X) G') w' s' v')->Rel G' (Av Z (H++X) G') w' s v->K (a.put o.dst v) w')->wpOp P ops Q j K a w
theorem StepF.ext{P:Program}{H:List Item}{ops:Array Oper}{Lr:SL}{o:Oper}{j:Nat}{s:SV}(h:StepF P H ops Lr o j s)(X:List Item):StepF P (H++X) ops Lr o j s:=by
 intro Y Z w0 n G w a Q K;rw[apg];exact h (X++Y) Z w0 n G w a Q K
def StepP(P:Program)(H:List Item)(ops:Array Oper)(Lr:SL)(o:Oper)(s:SV):Prop:=
 ∀(X:List Item) (Z:Nat->Prop) (w0:World) (n:Nat) (G:List Value) (w:World) (a:Act),SR Z w0 (H++X) G w->FR Z n Lr (H++X) G w a->∃v,YieldsIf P ops (λ_=>True) o v a/\Rel G (Av Z (H++X) G) w s v
theorem StepP.ext{P:Program}{H:List Item}{ops:Array Oper}{Lr:SL}{o:Oper}{s:SV}(h:StepP P H ops Lr o s)(X:List Item):StepP P (H++X) ops Lr o s:=by
 intro Y Z w0 n G w a;rw[apg];exact h (X++Y) Z w0 n G w a
section
variable {P:Program} {T:TT} {E:Env} {H:List Item} {ops:Array Oper} {R:Type}
theorem HN{rs:List RV}{s:SV}(h:af0 rs=S' s):ph H rs (λs H'=>S' (s,H'))=S' (s,H):=by
 unfold af0 at h;split at h
 ·injection h with h;subst h;rfl
 ·cases h
 grind [ph]
theorem HB{Lr:SL}{o:Oper}(hg:cN ops Lr o (λ_=>S' T') (λ_=>S' Ff')=S' Ff'):StepP P H ops Lr o .undef:=by
 intro X Z w0 n G w a hr hf
 have want:Region.wanted o (yielded ops a.tmps)=false:=by
  grind [d8]
 exact⟨undef,.inr ⟨want,rfl⟩,rfl⟩
theorem Du{Lr:SL}{o:Oper}{j:Nat}{k:SV->Option R}{r:R}(hT:eO P T=T')(hE:kY P E)(hops:ops[j]?=S' o)(hg:cN ops Lr o (λ_=>S' T') (λ_=>S' Ff')=S' T')(h:tq P T E Lr H o k=S' r):
  ∃s,k s=S' r/\StepF P H ops Lr o j s/\(BA o=T'->StepP P H ops Lr o s):=by
 have want:∀{H:List Item} {Z:Nat->Prop} {n:Nat} {G:List Value} {w:World} {a:Act},FR Z n Lr H G w a->Region.wanted o (yielded ops a.tmps)=true:=λhf=>by
  rcases d8 hf hg with⟨_,_,_,h3⟩|⟨_,h1,_,_⟩
  ·exact h3
  ·cases h1
 unfold tq at h;split at h
 ·rename_i hq;obtain⟨s,h1,h2⟩:=Xe hq h;refine⟨s,h1,λX Z w0 n G w a Q K hI hr hf hK=>?_,λhp X Z w0 n G w a hr hf=>?_⟩;rotate_left
  ·obtain⟨s',v,g1,g2,g3⟩:=iE hT hr hf (LG (X:=X) hq h2);injection g1 with g1;subst g1;refine⟨v,.inl ⟨want hf,λw' _=>g3 w' λhl=>?_⟩,g2⟩;unfold BA at hp;rw[hl]at hp;simp at hp
  obtain⟨s',v,g1,g2,g3⟩:=iE hT hr hf (LG (X:=X) hq h2);injection g1 with g1;subst g1;unfold wpOp;simp only[hops];rw[apB (want hf)];refine .inl ?_;unfold Oper.wp;rw[g3 w (λ_=>Agr.refl)];exact hK v G w (Old.refl w) hr (λ_ _ h=>h) g2
 ·split at h
  ·rename_i f args tys ht ho;unfold abM at h;split at h<;>try (cases h;done)
   rename_i sp hsp;obtain⟨hcl,hok,_⟩:=hE f sp hsp;split at h<;>try (cases h;done)
   rename_i ss hss;split at h<;>try (cases h;done)
   rename_i al hal hno;obtain⟨rs,hk,hcon⟩:=hok _ _ _ _ h;split at hk<;>try (cases hk;done)
   rename_i s hs
   refine⟨s,hk,λX Z w0 n G w a Q K hI hr hf hK=>?_,λhp=>by
    unfold BA at hp;rw[‹kQ o.op=Ff'›]at hp;cases hp⟩
   have hrel:bJ (Rel1 [] (Av Z (H++X) G) w) al (args.toList.map a.eval):=by
    refine io (A:=Av Z (H++X) G) (ss0:=ss) hr (λ_ _ h=>h) (.inr ?_) (λs hs=>hs) (Gn hno hal) (jC hf hss);intro s hs;exact apa.1 hno _ hs
   unfold wpOp;simp only[hops];rw[apB (want hf)];refine .inl ?_;unfold Oper.wp;rw[jp hcl a.eval o (.func f) args tys #[] ho rfl w];have e1:Array.map a.eval args++ #[]=(args.toList.map a.eval).toArray:=by obtain⟨l⟩:=args;simp
   rw[e1];refine(hcon _ w _ (kn hI hr.below) hrel).mono ?_;rintro e w' ⟨v,rfl,hb,hres⟩
   obtain⟨s',H',G',k1,k2,k3,k4,k5⟩:=gK hr hf hb hres (.inl λ_ _ h=>h) (HN hs) (H++X).length false false;injection k1 with k1;injection k1 with k1 k1';subst k1 k1';refine hK v G' w' ⟨hb.size,λb hbs=>hb.block b hbs⟩ k2 (λs' v' h=>k5.pres s' v' h λi hi=>zZ (tg hr h) hi) k4
  ·cases h
theorem rQ{Lr:SL}{o:Oper}{j:Nat}(hops:ops[j]?=S' o)(hg:cN ops Lr o (λ_=>S' T') (λ_=>S' Ff')=S' Ff'):StepF P H ops Lr o j .undef:=by
 intro X Z w0 n G w a Q K hI hr hf hK
 have want:Region.wanted o (yielded ops a.tmps)=false:=by
  grind [d8]
 unfold wpOp;simp only[hops];rw[aph (by rw[want];simp)];exact hK undef G w (Old.refl w) hr (λ_ _ h=>h) rfl
inductive TRun (P:Program) (E:Env) (ops:Array Oper) (N:Nat) (H:List Item) (lo:Bool) (Stp Fin:Nat->Array Bool->SL->Prop):Nat->Array Bool->SL->Prop
 |done {n:Nat} {l:Array Bool} {L:SL}:fJ E ops l=true->Fin n l L->TRun P E ops N H lo Stp Fin n l L
 |stop {n:Nat} {l:Array Bool} {L:SL}:Region.ready .any ops l=[]->Stp n l L->TRun P E ops N H lo Stp Fin n l L
 |step {n:Nat} {l:Array Bool} {L L':SL} {j:Nat} {o:Oper} {d:Nat} {s:SV}:j∈Region.ready .any ops l->(iY E ops j=true\/StepP P H ops (gI L (o.looksAt ops)) o s\/lo=true)->dZ E ops j=true->ops[j]?=some o->o.dst=some d->d<N->Region.free .any ops l j=true->StepF P H ops (gI L (o.looksAt ops)) o j s->
   s.refsT H.length=T'->(∀t,aK L' t=if t=d then S' s else aK L t)->TRun P E ops N H lo Stp Fin n (l.setIfInBounds j T') L'->TRun P E ops N H lo Stp Fin (n+1) l L
variable {N:Nat} {lo:Bool} {Stp Fin:Nat->Array Bool->SL->Prop}
theorem pg{l:Array Bool}(hc:Clo ops l)(h:fJ E ops l=T'){j:Nat}(hj:j∈Region.ready .any ops l):dZ E ops j=false:=by
 obtain⟨h1,o,h2,h3⟩:=apU.1 hj;have:=apa.1 h j (List.mem_range.2 (ao6.1 h2).1);grind [kz]
theorem Bg{l:Array Bool}(h:fJ E ops l=T')(j:Nat)(hj:eE E ops j=Ff'):fJ E ops (l.setIfInBounds j T')=true:=by
 refine apa.2 λk hk=>?_;have:=apa.1 h k hk;by_cases hjk:j=k
 ·simp_all
 ·rw[aru true hjk];simp only[aqU]at this ⊢;rcases this with h1|h1
  ·exact .inl h1
  ·refine .inr ?_;rw[List.any_eq_true]at h1 ⊢;obtain⟨s,hs,hb⟩:=h1;refine⟨s,hs,?_⟩;simp only[aoT]at hb ⊢;have hne:j≠s:=λe'=>by rw[<-e',hj]at hb;cases hb.1.1
   simp_all
theorem zP{l:Array Bool}(hc:Clo ops l){i j:Nat}(h:iY E ops i=T')(hi:l.getD i T'=Ff')(hj:j∈Region.ready .any ops l):eE E ops j=false:=by
 obtain⟨_,o,ho,hall⟩:=apU.1 hj;have h1:=apa.1 h j (by simpa using(ao6.1 ho).1);grind [uO]
theorem mK{l:Array Bool}{i j:Nat}{oi:Oper}(h2:ops[i]?=S' oi)(_hjun:l.getD j T'=Ff')(h5:Region.free .any ops l i=T'):Region.free .any ops (l.setIfInBounds j T') i=true:=by
 have hjn:∀k,(l.setIfInBounds j T').getD k T'=Ff'->l.getD k T'=false:=λk hk=>by
  by_cases hjk:j=k<;>simp_all
 grind [Region.free]
theorem ja{o:Oper}(h:bz o=T'):fw E o=false:=by
 unfold bz at h;unfold fw kQ Fp;cases hop:o.op<;>rw[hop]at h<;>simp at h;rfl
theorem rl{o:Oper}(h:fw E o=T'):dO o.op=false:=by
 cases hop:o.op with
 |store=>unfold fw kQ Fp at h;rw[hop]at h;simp[isQ]at h
 |call c=>
  obtain⟨f,x,y⟩:=c;cases f with
  |builtin b=>cases b<;>first|rfl|(unfold fw kQ Fp at h;rw[hop]at h;simp[isQ]at h)
  |_=>rfl
 |_=>rfl
theorem TRun.any{n:Nat}{l:Array Bool}{L:SL}(h:TRun P E ops N H lo Stp Fin n l L):Clo ops l->∀{j:Nat},j∈Region.ready .any ops l->dZ E ops j=T'->
  ∃(n':Nat) (o:Oper) (d:Nat) (s:SV) (L':SL),n=n'+1/\ops[j]?=S' o/\o.dst=S' d/\d<N/\StepF P H ops (gI L (o.looksAt ops)) o j s/\s.refsT H.length=T'/\(∀t,aK L' t=if t=d then S' s else aK L t)/\TRun P E ops N H lo Stp Fin n' (l.setIfInBounds j T') L':=by
 induction h with
 |done h1 h2=>intro hcl j hj hs;rw[pg hcl h1 hj]at hs;cases hs
 |stop h1 h2=>intro _ j hj;rw[h1]at hj;cases hj
 | @step n l L L1 i oi di si h1 h0 h0' h2 h3 h4 h5 h6 hrf h7 h8 ih=>
  intro hcl j hj hst;by_cases hji:j=i
  ·subst hji;exact⟨n,oi,di,si,L1,rfl,h2,h3,h4,h6,hrf,h7,h8⟩
  ·obtain⟨n',oj,dj,sj,L2,e1,g2,g3,g4,g6,grf,g7,g8⟩:=ih (hcl.set h1) (aqm hj hji) hst;have hjun:=(apU.1 hj).1;have hap:=ap5 h2 h5 j oj g2 hji hjun (ez h1 hj g2);obtain⟨a1,a2,a3⟩:=arw hap;have b1:=a1 di h3;have b2:dj≠di:=λe=>a2 di h3 (by rw[g3,e]);have b3:=a3 dj g3
   have c1:StepF P H ops (gI L (oj.looksAt ops)) oj j sj:=by
    rw[<-dP (L:=L1) (M:=L) λt ht=>by rw[h7 t,aph (λe=>b1 (by rw[<-e];exact ht))]];exact g6
   refine⟨n,oj,dj,sj,(dj,sj)::nH L dj,rfl,g2,g3,g4,c1,grf,λt=>cj,?_⟩;rw[e1];refine .step (j:=i) (L':=L2) (aqm h1 (aqK hji)) ?_ h0' h2 h3 h4 (mK h2 hjun h5) ?_ hrf (λt=>?_) ?_ (s:=si)
   ·rw[dP (M:=L) λt ht=>by rw[cj,aph (λe=>b3 (by rw[<-e];exact ht))]];exact h0
   ·rw[dP (M:=L) λt ht=>by rw[cj,aph (λe=>b3 (by rw[<-e];exact ht))]];exact h6
   ·rw[g7 t,h7 t,cj];by_cases e1:t=dj
    ·subst e1;rw[apB rfl,aph b2];rw[apB rfl]
    ·rw[aph e1,aph e1]
   ·rw[apL _ _ hji];exact g8
theorem TRun.alloc{la:List AlA}(hFin:∀n l L j oj,Fin n l L->j∈Region.ready .any ops l->fJ E ops l=T'->ops[j]?=S' oj->bz oj=T'->∃n' r a L',n=n'+1/\la[r]?=S' a/\a.i=j/\oj.dst=S' a.d/\a.d<N/\(∃x,oj.op=.alloc a.t/\dl T a.t=S' x/\x.z=T'/\(∀p q,x.ty≠.pair p q)/\a.cs=x.ty.zsplit)/\(∀t,aK L' t=if t=a.d then S' (.box (H.length+r) 0)else aK L t)/\TRun P E ops N H lo Stp Fin n' (l.setIfInBounds j T') L')
  {n:Nat} {l:Array Bool} {L:SL} (h:TRun P E ops N H lo Stp Fin n l L):Clo ops l->∀{j:Nat} {oj:Oper},j∈Region.ready .any ops l->ops[j]?=S' oj->bz oj=T'->
  ∃(n' r:Nat) (a:AlA) (L':SL),n=n'+1/\la[r]?=S' a/\a.i=j/\oj.dst=S' a.d/\a.d<N/\(∃x,oj.op=.alloc a.t/\dl T a.t=S' x/\x.z=T'/\(∀p q,x.ty≠.pair p q)/\a.cs=x.ty.zsplit)/\(∀t,aK L' t=if t=a.d then S' (.box (H.length+r) 0)else aK L t)/\TRun P E ops N H lo Stp Fin n' (l.setIfInBounds j T') L':=by
 induction h with
 |done h1 h2=>intro _ j oj hj hoj hal;exact hFin _ _ _ _ _ h2 hj h1 hoj hal
 |stop h1 h2=>intro _ j oj hj;rw[h1]at hj;cases hj
 | @step n l L L1 i oi di si h1 h0 h0' h2 h3 h4 h5 h6 hrf h7 h8 ih=>
  intro hcl j oj hj hoj hal;by_cases hji:j=i
  ·exfalso;subst hji;unfold dZ at h0';rw[hoj]at h0';dsimp only at h0';rw[ja hal]at h0';cases h0'
  ·obtain⟨n',r,x,L2,e1,e2,e3,g3,g4,g5,g7,g8⟩:=ih (hcl.set h1) (aqm hj hji) hoj hal;have hjun:=(apU.1 hj).1;have hap:=ap5 h2 h5 j oj hoj hji hjun (ez h1 hj hoj);obtain⟨a1,a2,a3⟩:=arw hap;have b2:x.d≠di:=λe=>a2 di h3 (by rw[g3,e]);have b3:=a3 x.d g3;refine⟨n,r,x,(x.d,.box (H.length+r) 0)::nH L x.d,rfl,e2,e3,g3,g4,g5,λt=>cj,?_⟩;rw[e1];refine .step (j:=i) (L':=L2) (aqm h1 (aqK hji)) ?_ h0' h2 h3 h4 (mK h2 hjun h5) ?_ hrf (λt=>?_) ?_ (s:=si)
   ·rw[dP (M:=L) λt ht=>by rw[cj,aph (λe=>b3 (by rw[<-e];exact ht))]];exact h0
   ·rw[dP (M:=L) λt ht=>by rw[cj,aph (λe=>b3 (by rw[<-e];exact ht))]];exact h6
   ·rw[g7 t,h7 t,cj];by_cases e1:t=x.d
    ·subst e1;rw[apB rfl,aph b2];rw[apB rfl]
    ·rw[aph e1,aph e1]
   ·rw[apL _ _ hji];exact g8
theorem TRun.store{ss:List AlS}(hFin:∀n l L j oj,Fin n l L->Clo ops l->j∈Region.ready .any ops l->fJ E ops l=T'->ops[j]?=S' oj->eE E ops j=T'->∃n' s,n=n'+1/\s∈ss/\s.i=j/\qT T L s oj/\TRun P E ops N H lo Stp Fin n' (l.setIfInBounds j T') L)
  {n:Nat} {l:Array Bool} {L:SL} (h:TRun P E ops N H lo Stp Fin n l L):Clo ops l->∀{j:Nat} {oj:Oper},j∈Region.ready .any ops l->ops[j]?=S' oj->eE E ops j=T'->
  ∃(n':Nat) (s:AlS),n=n'+1/\s∈ss/\s.i=j/\qT T L s oj/\TRun P E ops N H lo Stp Fin n' (l.setIfInBounds j T') L:=by
 induction h with
 |done h1 h2=>intro hcl j oj hj hoj hal;exact hFin _ _ _ _ _ h2 hcl hj h1 hoj hal
 |stop h1 h2=>intro _ j oj hj;rw[h1]at hj;cases hj
 | @step n l L L1 i oi di si h1 h0 h0' h2 h3 h4 h5 h6 hrf h7 h8 ih=>
  intro hcl j oj hj hoj hal;by_cases hji:j=i
  ·exfalso;subst hji;unfold dZ at h0';unfold eE at hal;rw[hoj]at h0' hal;dsimp only at h0' hal;rw[h0']at hal;cases hal
  ·obtain⟨n',s,e1,e2,e3,g5,g8⟩:=ih (hcl.set h1) (aqm hj hji) hoj hal;have hjun:=(apU.1 hj).1;have hap:=ap5 h2 h5 j oj hoj hji hjun (ez h1 hj hoj);obtain⟨a1,a2,a3⟩:=arw hap;have b1:=a1 di h3;refine⟨n,s,rfl,e2,e3,?_,?_⟩
   ·obtain⟨t,x,v,sv,y,q1,q2,q3,q4,q5,q6⟩:=g5
    have hop:∀{z:Operand} {sz:SV},(∀u,z=.tmp u->u∈oj.looksAt ops)->opS L1 z=S' sz->opS L z=S' sz:=by
     intro z sz hz he;cases z with
     |tmp u=>
      simp only[opS]at he ⊢;rw[h7 u,aph (λe=>b1 (by rw[<-e];exact hz u rfl))]at he;exact he
     |_=>exact he
    refine⟨t,x,v,sv,y,q1,q2,q3,hop (λu hu=>?_) q4,hop (λu hu=>?_) q5,q6⟩
    ·unfold Oper.looksAt;rw[q1,hu];simp[Op.operands]
    ·unfold Oper.looksAt;rw[q1,hu];simp[Op.operands]
   ·rw[e1];refine .step (j:=i) (L':=L1) (aqm h1 (aqK hji)) h0 h0' h2 h3 h4 (mK h2 hjun h5) h6 hrf h7 ?_ (s:=si);rw[apL _ _ hji];exact g8
theorem sG{f:Nat->Bool}{H Y:List Item}:∀{ss:List AlS},(∀s∈ss,H.length<=s.j)->∃X,ct f ss (H++Y)=H++X
 |[],_=>⟨Y,rfl⟩
 |s::r,h=>by
  obtain⟨X,hX⟩:=sG (f:=f) (H:=H) (Y:=Y) (ss:=r) λs hs=>h s (by simp[hs]);simp only[ct];rw[hX];split
  ·unfold stP;split
   ·rename_i bt cells hb;rw[List.set_append,aph (by have:=h s (by simp);omega)];exact⟨_,rfl⟩
   ·exact⟨X,rfl⟩
  ·exact⟨X,rfl⟩
theorem FR.eqv{Z:Nat->Prop}{n:Nat}{L M:SL}{H:List Item}{G:List Value}{w:World}{a:Act}(h:FR Z n L H G w a)(he:∀t,aK L t=aK M t):FR Z n M H G w a:=
 ⟨h.defers,h.size,λt s hs=>h.slot t s (by rw[he t];exact hs)⟩
theorem zh{Q:Exit->Act->World->Prop}{S0:World->Prop}:∀(n:Nat) (l:Array Bool) (a:Act) (w:World),wpG P ops Q S0 n l a w->wpG P ops Q (λ_=>True) n l a w
 |0,_,_,_,h=>h
 |n+1,_,_,_,h=>⟨h.1,λi hi=>wpOp_mono (λ_ _ h'=>⟨.inr trivial,zh n _ _ _ h'.2⟩) (h.2 i hi)⟩
theorem TRun.sound{Z:Nat->Prop}{w0:World}{fl:Nat}{Q:Exit->Act->World->Prop}{X:List Item->List Value->World->Prop}{la:List AlA}{ss:List AlS}{S0:World->Prop}(hS0:∀w w',S0 w->Old w w'->S0 w')(hSs:ss≠[]->∀w,S0 w)(hT:eO P T=T')(hE:kY P E)(hI:inv w0)(hsel:∀(j:Nat) (o:Oper) cs b,ops[j]?=S' o->o.op≠.select cs b)(hPQ:∀c a d v w,Q (.panic c) (Act.put a d v) w->Q (.panic c) a w)
  (hFin:∀n l L j oj,Fin n l L->j∈Region.ready .any ops l->fJ E ops l=T'->ops[j]?=S' oj->bz oj=T'->∃n' r a L',n=n'+1/\la[r]?=S' a/\a.i=j/\oj.dst=S' a.d/\a.d<N/\(∃x,oj.op=.alloc a.t/\dl T a.t=S' x/\x.z=T'/\(∀p q,x.ty≠.pair p q)/\a.cs=x.ty.zsplit)/\(∀t,aK L' t=if t=a.d then S' (.box (H.length+r) 0)else aK L t)/\TRun P E ops N H lo Stp Fin n' (l.setIfInBounds j T') L')
  (hFinS:lo=T'->∀n l L j oj,Fin n l L->Clo ops l->j∈Region.ready .any ops l->fJ E ops l=T'->ops[j]?=S' oj->eE E ops j=T'->∃n' s,n=n'+1/\s∈ss/\s.i=j/\qT T L s oj/\TRun P E ops N H lo Stp Fin n' (l.setIfInBounds j T') L)
  (hp:PlanOk T ops N H la ss) (hnew:∀s∈ss,H.length<=s.j) (hlow:mN H.length H) (hfl:fl<=H.length)
  (hX:∀H G w H' G' w',X H G w->Ev Z fl H G w H' G' w'->X H' G' w') (hQ:∀n l L G w a,Fin n l L\/(Stp n l L/\Region.ready .any ops l=[])->S0 w->Clo ops l->l.size=ops.size->Aj H.length la (dn l) L->SR Z w0 (ct (dn l) ss (H++alX (dn l) la)) G w->FR Z N L (ct (dn l) ss (H++alX (dn l) la)) G w a->X (ct (dn l) ss (H++alX (dn l) la)) G w->wpG P ops Q S0 n l a w):
  ∀(n:Nat) (l:Array Bool) (L:SL),TRun P E ops N H lo Stp Fin n l L->Clo ops l->l.size=ops.size->Aj H.length la (dn l) L->∀(G:List Value) (w:World) (a:Act),SR Z w0 (ct (dn l) ss (H++alX (dn l) la)) G w->FR Z N L (ct (dn l) ss (H++alX (dn l) la)) G w a->X (ct (dn l) ss (H++alX (dn l) la)) G w->S0 w->wpG P ops Q S0 n l a w:=by
 have lowS:∀{l:Array Bool} {L L':SL} {j d:Nat} {s:SV},Aj H.length la (dn l) L->s.refsT H.length=T'->(∀t,aK L' t=if t=d then S' s else aK L t)->Aj H.length la (dn (l.setIfInBounds j T')) L':=by
  intro l L L' j d s hL hs hL' t u hu;rw[hL' t]at hu;split at hu
  ·injection hu with hu;subst hu;exact .inl hs
  ·rcases hL t u hu with h|⟨r,a,h1,h2,h3⟩
   ·exact .inl h
   ·refine .inr ⟨r,a,h1,?_,h3⟩;rw[jm];split
    ·rfl
    ·exact h2
 intro n;induction n with
 |zero=>
  intro l L h hcl hsz hL G w a hr hf hx hs0;cases h with
  |done h1 h2=>exact hQ 0 l L G w a (.inl h2) hs0 hcl hsz hL hr hf hx
  |stop h1 h2=>exact hQ 0 l L G w a (.inr ⟨h2,h1⟩) hs0 hcl hsz hL hr hf hx
 |succ n ih=>
  intro l L h hcl hsz hL G w a hr hf hx hs0;have h':=h;cases h with
  |done h1 h2=>exact hQ _ l L G w a (.inl h2) hs0 hcl hsz hL hr hf hx
  |stop h1 h2=>exact hQ _ l L G w a (.inr ⟨h2,h1⟩) hs0 hcl hsz hL hr hf hx
  | @step _ _ _ L1 i oi di si h1 h0 h0' h2 h3 h4 h5 h6 hrf h7 h8=>
   have ht:fw E oi=true:=by
    unfold dZ at h0';rw[h2]at h0';exact h0'
   have hnal:bz oi=false:=by
    cases hq:bz oi with
    |false=>rfl
    |true=>rw[ja hq]at ht;cases ht
   rw[<-or_assoc,or_right_comm]at h0;rcases h0 with h0|h0;rotate_left
   ·have hns:dO oi.op=false:=rl ht;obtain⟨Y,hY⟩:=sG (f:=dn l) (Y:=alX (dn l) la) hnew;have e1:=hp.setT (l:=l) h2 hnal h3;obtain⟨v,y1,y2⟩:=h0 Y Z w0 N G w a (by rw[<-hY];exact hr) (by rw[<-hY];exact⟨hf.defers,hf.size,λt s' hs=>hf.slot t s' (gD hs)⟩);rw[<-hY]at y2;refine sI h2 hsel (λc a w hq=>hPQ c a _ _ w hq) hns n l a w (ap5 h2 h5) h1 y1 (.inr hs0) (ih _ _ h8 (hcl.set h1) (by simpa using hsz) (lowS hL hrf h7) G w _ (by rw[e1];exact hr) ?_ (by rw[e1];exact hx) hs0)
    have hf1:=hf.put (d:=S' di) (L':=(di,si)::nH L di) (s:=si) (by
     simp only[fc];rw[apf h4]) y2
    rw[<-h3]at hf1;rw[e1];exact hf1.eqv λt=>by rw[cj,h7 t]
   refine qp rfl (λe=>by rw[e]at h1;cases h1) λj hj=>?_;obtain⟨hjun,oj,hoj,_⟩:=apU.1 hj;cases hnl:eE E ops j with
   |true=>
    have hlo:lo=true:=h0.resolve_left λh0=>by
     rw[zP hcl h0 (apU.1 h1).1 hj]at hnl;cases hnl
    obtain⟨n',s,e1,e2,e3,g5,g8⟩:=h'.store (T:=T) (hFinS hlo) hcl hj hoj hnl;have e1:n=n':=by omega
    subst e1 e3;obtain⟨_,oj',hoj',hdep⟩:=apU.1 hj;rw[hoj]at hoj';injection hoj' with hoj';subst hoj';obtain⟨bt,c',b1,b2⟩:=hp.box hcl e2 λos hos e he hb=>by rw[hoj]at hos;injection hos with hos;subst hos;exact hdep e he hb
    refine rG (fl:=fl) hT hE hI hoj g5 b1 b2 hr hf hx hX λG' w' k2 k3 k5=>⟨.inr (hSs (λe=>by rw[e]at e2;cases e2) w'),?_⟩
    rw[<-hp.setS e2 hjun]at k2 k3 k5;refine ih _ _ g8 (hcl.set hj) (by simpa using hsz) (λt u hu=>?_) G' w' _ k2 k3 k5 (hSs (λe=>by rw[e]at e2;cases e2) w');rcases hL t u hu with h|⟨r,b,q1,q2,q3⟩
    ·exact .inl h
    ·refine .inr ⟨r,b,q1,?_,q3⟩;rw[jm];split
     ·rfl
     ·exact q2
   |false=>
   cases hal:bz oj with
   |false=>
    have hst:dZ E ops j=true:=by
     unfold eE at hnl;unfold dZ;rw[hoj]at hnl ⊢;simpa [hal]using hnl
    obtain⟨n',o,d,s,L',e1,g2,g3,g4,g5,grf,g6,g7⟩:=h'.any hcl hj hst;have e1:n=n':=by omega
    subst e1;have e1:=hp.setT (l:=l) g2 (by rw[hoj]at g2;injection g2 with g2;subst g2;exact hal) g3;obtain⟨Y,hY⟩:=sG (f:=dn l) (Y:=alX (dn l) la) hnew;rw[hY]at hr hf hx;refine g5 Y Z w0 N G w a Q _ hI hr ⟨hf.defers,hf.size,λt s' hs=>hf.slot t s' (gD hs)⟩ λv G' w' k0 k1 k2 k3=>⟨.inr (hS0 _ _ hs0 k0),?_⟩
    rw[hY]at e1
    have hf1:FR Z N ((d,s)::nH L d) (H++Y) G' w' (a.put o.dst v):=by
     refine(hf.keep k2).put (d:=o.dst) (s:=s) ?_ k3;rw[g3];simp only[fc];rw[apf (show d+1<=N by omega)]
    refine ih _ _ g7 (hcl.set hj) (by simpa using hsz) (lowS hL grf g6) G' w' _ (by rw[e1];exact k1) (by rw[e1];exact hf1.eqv λt=>by rw[cj,g6 t]) (by rw[e1];exact hX _ _ _ _ _ _ hx λs v hs _=>k2 s v hs) (hS0 _ _ hs0 k0)
   |true=>
    obtain⟨n',r,x,L',e1,e2,e3,g3,g4,⟨y,y5,y6,y7,y8,y9⟩,g7,g8⟩:=h'.alloc (T:=T) hFin hcl hj hoj hal;have e1:n=n':=by omega
    subst e1 e3;obtain⟨hset,hgone⟩:=hp.setA hcl hsz e2 hjun;refine rX (L':=L') hT hoj hal e2 g3 g4 y5 ⟨y,y6,y7,y8,y9⟩ hp.dis hjun hgone (hp.low hlow) hL hfl hr hf hx hX g7 λv G' w' k0 k1 k2 k3=>⟨.inr (hS0 _ _ hs0 k0),?_⟩
    rw[<-hset]at k1 k2 k3;refine ih _ _ g8 (hcl.set hj) (by simpa using hsz) (λt u hu=>?_) G' w' _ k1 k2 k3 (hS0 _ _ hs0 k0);rw[g7 t]at hu;split at hu
    ·injection hu with hu;exact .inr ⟨r,x,e2,by rw[jm,apB rfl],hu.symm⟩
    ·rcases hL t u hu with h|⟨r',b,q1,q2,q3⟩
     ·exact .inl h
     ·refine .inr ⟨r',b,q1,?_,q3⟩;rw[jm];split
      ·rfl
      ·exact q2
theorem E8{D:List Nat}:∀{rs:List Nat} {j:Nat},EJ E ops D rs=S' j->j∈rs/\∃o d,ops[j]?=S' o/\fw E o=T'/\o.dst=S' d/\Region.free .any ops (mkL ops.size D) j=T'/\(iY E ops j=T'\/BA o=T'\/(!(ce E ops))=T')
 |[],_,h=>by simp[EJ]at h
 |q::rs,j,h=>by
  simp only[EJ]at h;split at h<;>try (cases h;done)
  rename_i o ho;split at h
  ·rename_i hb;injection h with h;subst h;simp only[aoT]at hb;obtain⟨d,hd⟩:=apD.1 hb.1.1.2;simp only[aqU]at hb;exact⟨by simp,o,d,ho,hb.1.1.1,hd,hb.1.2,by rcases hb.2 with(h|h)|h;exact .inr (.inl h);exact .inl h;exact .inr (.inr h)⟩
  ·obtain⟨h1,h2⟩:=E8 h;exact⟨by simp[h1],h2⟩
end
section
variable {F:FT} {P:Program} {T:TT} {E:Env} {N:NT} {Fn:Nat->Cfg->Option (List RV)} {r:List RV}
def tT(P:Program)(F:FT)(T:TT)(E:Env)(N:NT)(Fn:Nat->Cfg->Option (List RV))(r:List RV)(c:Cfg)(i:Nat)(la:List AlA)(ss:List AlS)(m n:Nat)(l:Array Bool)(L:SL):Prop:=
 (∃D q,ce E (aj (nth (ai F c.f) i))=T'/\(aj (nth (ai F c.f) i)).toList.any bz=Ff'/\la=[]/\ss=[]/\l=mkL (aj (nth (ai F c.f) i)).size D/\n+D.length=(aj (nth (ai F c.f) i)).size/\(∀j∈D,∀o,(aj (nth (ai F c.f) i))[j]?=S' o->dO o.op=Ff')/\q<m/\go P F T E N Fn q {c with L:=L} (.drw i (!((aj (nth (ai F c.f) i)).any λo=>vX o.op)) Ff' D)=S' r)\/
 (∃D q L0 ss',alA T (ntm F c.f) (aj (nth (ai F c.f) i)).toList 0=S' la/\alS T E (aj (nth (ai F c.f) i)) (mkL (aj (nth (ai F c.f) i)).size D) la c.H.length (fV (λ_=>T') la c.H.length L0) (c.H++alX (λ_=>T') la) (aj (nth (ai F c.f) i)).toList 0=S' ss'/\IB (aj (nth (ai F c.f) i)) (mkL (aj (nth (ai F c.f) i)).size D) (la.map (·.i)++ss'.map (·.i))=T'/\Lj E (aj (nth (ai F c.f) i)) (mkL (aj (nth (ai F c.f) i)).size D) (la.map (·.i)++ss'.map (·.i))=T'/\
  ((ce E (aj (nth (ai F c.f) i))=T'/\ss=[]/\∀s∈ss',l.getD s.i T'=Ff')\/(ce E (aj (nth (ai F c.f) i))=Ff'/\ss=ss'/\(∀s∈ss',c.H.length<=s.j)/\∀k,k<(aj (nth (ai F c.f) i)).size->(mkL (aj (nth (ai F c.f) i)).size D).getD k T'=T'\/dZ E (aj (nth (ai F c.f) i)) k=Ff'))/\
  ((la.map (·.i)++ss'.map (·.i))++D).length<=(aj (nth (ai F c.f) i)).size/\q<m/\go P F T E N Fn q {c with L:=fV (λ_=>T') la c.H.length L0,H:=ct (λ_=>T') ss' (c.H++alX (λ_=>T') la)} (.drw i T' T' ((la.map (·.i)++ss'.map (·.i))++D))=S' r/\
  cu l<=n/\(∀k,(mkL (aj (nth (ai F c.f) i)).size D).getD k Ff'=T'->l.getD k Ff'=T')/\(∀k,l.getD k T'=T'->(mkL (aj (nth (ai F c.f) i)).size D).getD k T'=T'\/k∈la.map (·.i)++ss'.map (·.i))/\
  (∀t s,aK L0 t=S' s->s.refsT c.H.length=T')/\∀t,aK L t=aK (fV (dn l) la c.H.length L0) t)\/
 (∃D q j o,ce E (aj (nth (ai F c.f) i))=T'/\(aj (nth (ai F c.f) i)).toList.any bz=Ff'/\la=[]/\ss=[]/\l=mkL (aj (nth (ai F c.f) i)).size D/\n+D.length=(aj (nth (ai F c.f) i)).size/\D.length+1<=(aj (nth (ai F c.f) i)).size/\Region.ready .any (aj (nth (ai F c.f) i)) (mkL (aj (nth (ai F c.f) i)).size D)=[j]/\(aj (nth (ai F c.f) i))[j]?=S' o/\q<m/\
  cN (aj (nth (ai F c.f) i)) L o (λL=>match Gh F E L o.op with
   |some (g,ss)=>go P F T E N Fn q {f:=g,K:=[],L:=qU 0 ss,H:=c.H,fl:=c.H.length,fs:={f:=c.f,K:=c.K,i:=i,k:=j,L:=xI N c.f i L,fl:=c.fl,d:=some (j::D)}::c.fs} (.node 0)
   |none=>none) (λL=>match fc (ntm F c.f) L o.dst .undef with
   |some L'=>go P F T E N Fn q {c with L:=L'} (.tal i (j::D))
   |none=>none)=some r)
theorem TRun.mono{P:Program}{ops:Array Oper}{N:Nat}{H:List Item}{lo:Bool}{Stp Stp' Fin Fin':Nat->Array Bool->SL->Prop}(hS:∀n l L,Stp n l L->Stp' n l L)(hF:∀n l L,Fin n l L->Fin' n l L){n:Nat}{l:Array Bool}{L:SL}(h:TRun P E ops N H lo Stp Fin n l L):TRun P E ops N H lo Stp' Fin' n l L:=by
 induction h with
 |done h1 h2=>exact .done h1 (hF _ _ _ h2)
 |stop h1 h2=>exact .stop h1 (hS _ _ _ h2)
 |step h1 h0 h0' h2 h3 h4 h5 h6 hrf h7 h8 ih=>exact .step h1 h0 h0' h2 h3 h4 h5 h6 hrf h7 ih
theorem Mp{N:Nat}{ops:Array Oper}{l:Array Bool}{L L1:SL}{H H1:List Item}{C:List Nat}(h:ac7 T E N ops l L H=S' (L1,H1,C)):∃la ss,alA T N ops.toList 0=S' la/\alS T E ops l la H.length (fV (λ_=>T') la H.length L) (H++alX (λ_=>T') la) ops.toList 0=S' ss/\IB ops l (la.map (·.i)++ss.map (·.i))=T'/\Lj E ops l (la.map (·.i)++ss.map (·.i))=T'/\
  (ce E ops=T'\/(ce E ops=Ff'/\(∀s∈ss,H.length<=s.j)/\∀k,k<ops.size->l.getD k T'=T'\/dZ E ops k=Ff'))/\C=la.map (·.i)++ss.map (·.i)/\L1=fV (λ_=>T') la H.length L/\H1=ct (λ_=>T') ss (H++alX (λ_=>T') la):=by
 unfold ac7 at h;split at h<;>try (cases h;done)
 rename_i la hla;split at h<;>try (cases h;done)
 rename_i ss hss;split at h<;>try (cases h;done)
 rename_i hd;injection h with h;injection h with h1 h2;injection h2 with h2 h3;simp only[aoT]at hd;refine⟨la,ss,hla,hss,hd.1.1,hd.1.2,?_,h3.symm,h1.symm,h2.symm⟩;cases hq:ce E ops with
 |true=>exact .inl rfl
 |false=>
  have hd2:=hd.2;rw[hq,Bool.false_or,aoT]at hd2;refine .inr ⟨rfl,λs hs=>aoV (apa.1 hd2.1 s hs),λk hk=>?_⟩;have:=apa.1 hd2.2 k (List.mem_range.2 hk);simpa using this
theorem xm{i:Nat}{c:Cfg}{la:List AlA}{ss:List AlS}{m:Nat}(n:Nat)(l:Array Bool)(L:SL)(j:Nat)(oj:Oper)(h:tT P F T E N Fn r c i la ss m n l L)(hj:j∈Region.ready .any (aj (nth (ai F c.f) i)) l)(ho:fJ E (aj (nth (ai F c.f) i)) l=T')
  (hoj:(aj (nth (ai F c.f) i))[j]?=S' oj) (hal:bz oj=T'):∃n' r' a L',n=n'+1/\la[r']?=S' a/\a.i=j/\oj.dst=S' a.d/\a.d<ntm F c.f/\(∃x,oj.op=.alloc a.t/\dl T a.t=S' x/\x.z=T'/\(∀p q,x.ty≠.pair p q)/\a.cs=x.ty.zsplit)/\(∀t,aK L' t=if t=a.d then S' (.box (c.H.length+r') 0)else aK L t)/\TRun P E (aj (nth (ai F c.f) i)) (ntm F c.f) c.H (!(ce E (aj (nth (ai F c.f) i)))) (λ_ _ _=>False) (tT P F T E N Fn r c i la ss m) n' (l.setIfInBounds j T') L':=by
 rcases h with⟨D,q,_,h1,_⟩|⟨D,q,L0,ss',k1,k2,k3,k4,k5,k6,h2,h3,h4,h5,h6,h6',h7⟩|⟨D,q,j',o',_,h1,_⟩
 ·exfalso;have:=List.any_eq_false.1 h1 oj (Array.mem_toList_iff.2 (Array.mem_of_getElem? hoj));exact this hal
 rotate_left
 ·exfalso;have:=List.any_eq_false.1 h1 oj (Array.mem_toList_iff.2 (Array.mem_of_getElem? hoj));exact this hal
 ·have hp:=wI k1 k2;obtain⟨r',x,g1,g2,g3,g4,y,g5⟩:=J2 k1 hoj hal;have hjun:=(apU.1 hj).1;have hcu:=AL hjun;refine⟨n-1,r',x,fV (dn (l.setIfInBounds j T')) la c.H.length L0,by omega,g1,g2,g3,g4,⟨y,g5⟩,λt=>?_,.done (Bg ho j ?_) (.inr (.inl ⟨D,q,L0,ss',k1,k2,k3,k4,?_,k6,h2,h3,by omega,λk hk=>arX (h5 k hk),λk hk=>?_,h6',λt=>rfl⟩))⟩
  ·rw[CD (λk=>by rw[jm,g2]) hp.dis g1 t,h7 t]
  ·unfold eE;rw[hoj];dsimp only;rw[hal,Bool.not_true,aq7]
  ·rcases k5 with⟨e1,e2,e3⟩|e
   ·refine .inl ⟨e1,e2,λs hs=>?_⟩;obtain⟨⟨o',ho',hal',_⟩,_⟩:=hp.ss1 s hs
    have hne:j≠s.i:=λe=>by
     subst e;rw[hoj]at ho';injection ho' with ho';subst ho';rw[hal]at hal';cases hal'
    rw[aru T' hne];exact e3 s hs
   ·exact .inr e
  ·have:=jm l j k;rw[show dn (l.setIfInBounds j T') k=T' from hk]at this;by_cases e:k=j
   ·subst e;exact .inr (aqv _ (aq1.2 ⟨x,apM g1,g2⟩))
   ·rw[aph e]at this;exact h6 k this.symm
theorem I1{i:Nat}{c:Cfg}{la:List AlA}{ss:List AlS}{m:Nat}(hlo:(!(ce E (aj (nth (ai F c.f) i))))=T')(n:Nat)(l:Array Bool)(L:SL)(j:Nat)(oj:Oper)(h:tT P F T E N Fn r c i la ss m n l L)(hcl:Clo (aj (nth (ai F c.f) i)) l)(hj:j∈Region.ready .any (aj (nth (ai F c.f) i)) l)(_ho:fJ E (aj (nth (ai F c.f) i)) l=T')
  (hoj:(aj (nth (ai F c.f) i))[j]?=S' oj) (hal:eE E (aj (nth (ai F c.f) i)) j=T'):∃n' s,n=n'+1/\s∈ss/\s.i=j/\qT T L s oj/\TRun P E (aj (nth (ai F c.f) i)) (ntm F c.f) c.H (!(ce E (aj (nth (ai F c.f) i)))) (λ_ _ _=>False) (tT P F T E N Fn r c i la ss m) n' (l.setIfInBounds j T') L:=by
 rcases h with⟨D,q,h0,h1,_⟩|⟨D,q,L0,ss',k1,k2,k3,k4,k5,k6,h2,h3,h4,h5,h6,h6',h7⟩|⟨D,q,j',o',h0,h1,_⟩
 ·rw[h0]at hlo;cases hlo
 rotate_left
 ·rw[h0]at hlo;cases hlo
 ·rcases k5 with⟨e1,_⟩|⟨e1,e2,e3,e4⟩
  ·rw[e1]at hlo;cases hlo
  subst e2;have hp:=wI k1 k2;obtain⟨s1,s2,s3⟩:=mY k2;obtain⟨hjun,oj',hoj',hdep⟩:=apU.1 hj;rw[hoj]at hoj';injection hoj' with hoj';subst hoj';have hcu:=AL hjun;have hlate:=hal;unfold eE at hal;rw[hoj]at hal;simp only[aoT,aql]at hal;have hlt:=(ao6.1 hoj).1
  have hu0:(mkL (aj (nth (ai F c.f) i)).size D).getD j T'=false:=by
   cases hq:(mkL (aj (nth (ai F c.f) i)).size D).getD j true with
   |false=>rfl
   |true=>
    have:=h5 j (by rw[jX (by rw[ij];exact hlt)];exact hq);rcases apu j l.size with h'|h'
    ·rw[jX h',hjun]at this;cases this
    ·simp[aqy h']at hjun
  obtain⟨s,hsm,hsi⟩:=s1 j oj (by rw[aqD];exact hoj) (by rw[ao3];exact hu0) hal.2 hal.1;have hsi:s.i=j:=by omega
  subst hsi;obtain⟨_,_,o,ho',hno,hok⟩:=s2 s hsm;rw[ar9,aqD,hoj]at ho';injection ho' with ho';subst ho';have hst:=EQ hok hcl λos hos e he hb=>by rw[hoj]at hos;injection hos with hos;subst hos;exact hdep e he hb
  have hst':qT T L s oj:=by
   obtain⟨t,x,v,sv,y,q1,q2,q3,q4,q5,q6⟩:=hst
   have hop:∀{z:Operand} {sz:SV},opS (fV (dn l) la c.H.length L0) z=S' sz->opS L z=S' sz:=by
    intro z sz he;cases z with
    |tmp u=>simp only[opS]at he ⊢;rw[h7 u];exact he
    |_=>exact he
   exact⟨t,x,v,sv,y,q1,q2,q3,hop q4,hop q5,q6⟩
  refine⟨n-1,s,by omega,hsm,rfl,hst',.done ?_ (.inr (.inl ⟨D,q,L0,ss,k1,k2,k3,k4,.inr ⟨e1,rfl,e3,e4⟩,k6,h2,h3,by omega,λk hk=>arX (h5 k hk),λk hk=>?_,h6',λt=>?_⟩))⟩
  ·refine apa.2 λk hk=>?_;have hk:=List.mem_range.1 hk;rcases e4 k hk with h|h
   ·have:=arX (i:=s.i) (h5 k (by rw[jX (by rw[ij];exact hk)];exact h));rcases apu k (l.setIfInBounds s.i true).size with h'|h'
    ·rw[jX h']at this;rw[this];rfl
    ·rw[show(l.setIfInBounds s.i T').getD k T'=T' by simp[aqy h']];rfl
   ·rw[h];simp
  ·have:=jm l s.i k;rw[show dn (l.setIfInBounds s.i T') k=T' from hk]at this;by_cases e:k=s.i
   ·subst e;exact .inr (aqE _ (aq1.2 ⟨s,hsm,rfl⟩))
   ·rw[aph e]at this;exact h6 k this.symm
  ·rw[h7 t];exact(iH (λx hx _=>(hp.same hoj hal.2).2 x hx) rfl).symm
theorem FI{f:Nat->Bool}:∀{la:List AlA} {k:Nat} {L:SL},(∀a∈la,f a.i=Ff')->fV f la k L=L
 |[],_,_,_=>rfl
 |a::la,k,L,h=>by
  simp only[fV];rw[h a (by simp)];exact FI λb hb=>h b (by simp[hb])
theorem Hu{n s:Nat}:∀{D:List Nat},s∈D->(mkL n D).getD s T'=T'
 |[],h=>by cases h
 |j::D,h=>by
  rw[mkL];by_cases e:j=s
  ·subst e;exact qO _ _
  ·rw[aru T' e];exact Hu ((ao7.1 h).resolve_left (λh=>e h.symm))
theorem Th(n:Nat):∀D:List Nat,n<=cu (mkL n D)+D.length
 |[]=>by rw[IT];exact aoU _
 |j::D=>by
  have ih:=Th n D;rw[mkL,ao8];cases h:(mkL n D).getD j true with
  |false=>have:=AL h;omega
  |true=>
   have e:(mkL n D).setIfInBounds j T'=mkL n D:=by
    refine Array.ext_getElem? λk=>?_;by_cases e:j=k
    ·subst e;rcases apu j (mkL n D).size with h2|h2
     ·rw[Array.getElem?_setIfInBounds_self_of_lt h2];rw[ap2,Array.getElem?_eq_getElem h2]at h;rw[Array.getElem?_eq_getElem h2];exact congrArg S' h.symm
     ·rw[aqy h2,aqy (by simpa using h2)]
    ·rw[Array.getElem?_setIfInBounds_ne e]
   rw[e];omega
theorem Gk{P:Program}{ops:Array Oper}{Q:Exit->Act->World->Prop}{S0:World->Prop}:∀(m n:Nat) (l:Array Bool) (a:Act) (w:World),m<=n->wpG P ops Q S0 m l a w->wpG P ops Q S0 n l a w
 |0,n,l,a,w,_,h=>ui h.1 h.2 n
 |m+1,0,_,_,_,hle,_=>by omega
 |m+1,n+1,l,a,w,hle,h=>⟨h.1,λi hi=>wpOp_mono (λa' w' h'=>⟨h'.1,Gk m n _ a' w' (by omega) h'.2⟩) (h.2 i hi)⟩
theorem fK{n s:Nat}:∀{D:List Nat},s∉D->s<n->(mkL n D).getD s T'=Ff'
 |[],_,h=>by simp[mkL,h]
 |j::D,hn,h=>by
  have h1:s≠j:=λe=>hn (by simp[e]);rw[mkL,aru T' (aqK h1)];exact fK (λhm=>hn (by simp[hm])) h
theorem JC(hT:eO P T=T')(hE:kY P E){i:Nat}{c:Cfg}:∀(m:Nat) (D:List Nat) (L:SL),go P F T E N Fn m {c with L:=L} (.tam i D)=S' r->
  cu (mkL (aj (nth (ai F c.f) i)).size D)+D.length=(aj (nth (ai F c.f) i)).size->(∀j∈D,dZ E (aj (nth (ai F c.f) i)) j=T')->(∀t s,aK L t=S' s->s.refsT c.H.length=T')->Clo (aj (nth (ai F c.f) i)) (mkL (aj (nth (ai F c.f) i)).size D)->∃la ss,PlanOk T (aj (nth (ai F c.f) i)) (ntm F c.f) c.H la ss/\(∀s∈ss,c.H.length<=s.j)/\TRun P E (aj (nth (ai F c.f) i)) (ntm F c.f) c.H (!(ce E (aj (nth (ai F c.f) i)))) (λ_ _ _=>False) (tT P F T E N Fn r c i la ss m) ((aj (nth (ai F c.f) i)).size-D.length) (mkL (aj (nth (ai F c.f) i)).size D) L:=by
 intro m;induction m with
 |zero=>intro D L h;simp[WK]at h
 |succ m ih=>
  intro D L h hlen hD hlowL hcl
  have nostore:∀j∈D,∀o,(aj (nth (ai F c.f) i))[j]?=S' o->dO o.op=Ff'/\bz o=false:=λj hj o ho=>by
   have:=hD j hj;unfold dZ at this;rw[ho]at this;dsimp only at this;refine⟨rl this,?_⟩;cases hq:bz o with
   |false=>rfl
   |true=>rw[ja hq]at this;cases this
  have next:∀{j:Nat} {o:Oper} {d:Nat} {L1 L2:SL} {s:SV},j∈Region.ready .any (aj (nth (ai F c.f) i)) (mkL (aj (nth (ai F c.f) i)).size D)->(aj (nth (ai F c.f) i))[j]?=S' o->o.dst=S' d->Region.free .any (aj (nth (ai F c.f) i)) (mkL (aj (nth (ai F c.f) i)).size D) j=T'->(iY E (aj (nth (ai F c.f) i)) j=T'\/StepP P c.H (aj (nth (ai F c.f) i)) (gI L (o.looksAt (aj (nth (ai F c.f) i)))) o s\/(!(ce E (aj (nth (ai F c.f) i))))=T')->fw E o=T'->D.length+1<=(aj (nth (ai F c.f) i)).size->
    (∀t,aK L1 t=aK L t)->StepF P c.H (aj (nth (ai F c.f) i)) (gI L (o.looksAt (aj (nth (ai F c.f) i)))) o j s->s.refsT c.H.length=T'->fc (ntm F c.f) L1 o.dst s=S' L2->go P F T E N Fn m {c with L:=L2} (.tam i (j::D))=S' r->∃la ss,PlanOk T (aj (nth (ai F c.f) i)) (ntm F c.f) c.H la ss/\(∀s∈ss,c.H.length<=s.j)/\TRun P E (aj (nth (ai F c.f) i)) (ntm F c.f) c.H (!(ce E (aj (nth (ai F c.f) i)))) (λ_ _ _=>False) (tT P F T E N Fn r c i la ss (m+1)) ((aj (nth (ai F c.f) i)).size-D.length) (mkL (aj (nth (ai F c.f) i)).size D) L:=by
   intro j o d L1 L2 s h1 h2 h3 h4 h4' h4'' h5 h6 h7 hrf h8 h9;have htj:dZ E (aj (nth (ai F c.f) i)) j=true:=by unfold dZ;rw[h2];exact h4''
   have hcu:=AL (apU.1 h1).1;rw[h3]at h8;simp only[fc]at h8;split at h8<;>try (cases h8;done)
   rename_i hd;have hd:=aoV hd;injection h8 with h8;have hlk:∀t,aK L2 t=if t=d then some s else aK L t:=λt=>by rw[<-h8,cj,h6 t]
   obtain⟨la,ss,hp,hnew,h10⟩:=ih (j::D) L2 h9 (by
    rw[ao8];show cu ((mkL _ D).setIfInBounds j T')+_=_;omega) (λk hk=>by
    rcases ao7.1 hk with e|hk
    ·subst e;exact htj
    ·exact hD k hk) (λt u hu=>by
    rw[hlk t]at hu;split at hu
    ·injection hu with hu;subst hu;exact hrf
    ·exact hlowL t u hu) (hcl.set h1)
   have h11:=h10.mono (Fin':=tT P F T E N Fn r c i la ss (m+1)) (λ_ _ _ h=>h) (λn l L hf=>by
    rcases hf with⟨D',q,e1,e2,e3,e4,e5,e6,e7,e8,e9⟩|⟨D',q,L0,ss',e1,e2,e3,e4,e5,e6,e7,e8⟩|⟨D',q,j',o',e1,e2,e3,e4,e5,e6,e7,e8,e9,e10,e11⟩
    ·exact .inl ⟨D',q,e1,e2,e3,e4,e5,e6,e7,by omega,e9⟩
    ·exact .inr (.inl ⟨D',q,L0,ss',e1,e2,e3,e4,e5,e6,by omega,e8⟩)
    ·exact .inr (.inr ⟨D',q,j',o',e1,e2,e3,e4,e5,e6,e7,e8,e9,by omega,e11⟩))
   refine⟨la,ss,hp,hnew,?_⟩;rw[show(aj (nth (ai F c.f) i)).size-D.length=((aj (nth (ai F c.f) i)).size-(j::D).length)+1 by simp;omega];exact .step (L':=L2) h1 h4' htj h2 h3 (by omega) h4 h7 hrf hlk h11
  rw[Xx]at h;simp only[stC]at h;split at h
  ·rename_i hall
   have drw:((aj (nth (ai F c.f) i)).toList.any bz||!(ce E (aj (nth (ai F c.f) i))))=Ff'->go P F T E N Fn m {c with L:=L} (.drw i (!((aj (nth (ai F c.f) i)).any λo=>vX o.op)) Ff' D)=S' r->∃la ss,PlanOk T (aj (nth (ai F c.f) i)) (ntm F c.f) c.H la ss/\(∀s∈ss,c.H.length<=s.j)/\TRun P E (aj (nth (ai F c.f) i)) (ntm F c.f) c.H (!(ce E (aj (nth (ai F c.f) i)))) (λ_ _ _=>False) (tT P F T E N Fn r c i la ss (m+1)) ((aj (nth (ai F c.f) i)).size-D.length) (mkL (aj (nth (ai F c.f) i)).size D) L:=λhna h=>by
    simp only[arI,Bool.not_eq_false']at hna;exact⟨[],[],⟨List.Pairwise.nil,λa ha=>(by cases ha),λs hs=>(by cases hs),List.Pairwise.nil⟩,λs hs=>(by cases hs),.done hall (.inl ⟨D,m,hna.2,hna.1,rfl,rfl,rfl,by omega,λj hj o ho=>(nostore j hj o ho).1,by omega,h⟩)⟩
   split at h
   ·rename_i j hcf;split at h<;>try (cases h;done)
    rename_i o ho;unfold abk at hcf;split at hcf<;>try (cases hcf;done)
    rename_i j' hst hrd;split at hcf<;>try (cases hcf;done)
    rename_i o' ho';split at hcf<;>try (cases hcf;done)
    rename_i x hq hin hble;injection hcf with hcf;subst hcf;simp only[aoT,aql]at hst;exact⟨[],[],⟨List.Pairwise.nil,λa ha=>(by cases ha),λs hs=>(by cases hs),List.Pairwise.nil⟩,λs hs=>(by cases hs),.done hall (.inr (.inr ⟨D,m,j',o,hst.1,hst.2,rfl,rfl,rfl,by have:=aoV hble;omega,aoV hble,hrd,ho,by omega,h⟩))⟩
   split at h
   ·split at h
    ·rename_i L1 H1 C hals;split at h<;>try (cases h;done)
     rename_i hble;obtain⟨la,ss,k1,k2,k3,k4,k5,k6,k7,k8⟩:=Mp hals;subst k6 k7 k8;have hp:=wI k1 k2
     have fin:∀ss0,((ce E (aj (nth (ai F c.f) i))=T'/\ss0=[]/\∀s∈ss,(mkL (aj (nth (ai F c.f) i)).size D).getD s.i T'=Ff')\/(ce E (aj (nth (ai F c.f) i))=Ff'/\ss0=ss/\(∀s∈ss,c.H.length<=s.j)/\∀k,k<(aj (nth (ai F c.f) i)).size->(mkL (aj (nth (ai F c.f) i)).size D).getD k T'=T'\/dZ E (aj (nth (ai F c.f) i)) k=Ff'))->tT P F T E N Fn r c i la ss0 (m+1) ((aj (nth (ai F c.f) i)).size-D.length) (mkL (aj (nth (ai F c.f) i)).size D) L:=λss0 hs0=>.inr (.inl ⟨D,m,L,ss,k1,k2,k3,k4,hs0,aoV hble,by omega,h,by omega,λ_ h=>h,λ_ h=>.inl h,hlowL,λt=>by
      rw[FI λa ha=>?_];obtain⟨⟨o,ho,hal⟩,_⟩:=hp.la2 a ha;exact fK (λhm=>by rw[(nostore _ hm o ho).2]at hal;cases hal) (ao6.1 ho).1⟩)
     rcases k5 with k5|⟨k5,k6,k7⟩
     ·refine⟨la,[],⟨hp.dis,hp.la2,λs hs=>(by cases hs),List.Pairwise.nil⟩,λs hs=>(by cases hs),.done hall (fin [] (.inl ⟨k5,rfl,λs hs=>?_⟩))⟩;obtain⟨_,hu,_⟩:=(mY k2).2.1 s hs;exact hu
     ·exact⟨la,ss,hp,k6,.done hall (fin ss (.inr ⟨k5,rfl,k6,k7⟩))⟩
    ·split at h<;>try (cases h;done)
     exact drw (by assumption) h
   ·split at h<;>try (cases h;done)
    exact drw (by assumption) h
  ·rename_i hall;split at h<;>try (cases h;done)
   rename_i j hb hj;have hb:=aoV hb;obtain⟨g1,o',d,g2,gt,g3,g4,g5⟩:=E8 hj;split at h<;>try (cases h;done)
   rename_i o ho;rw[ho]at g2;injection g2 with g2;subst g2;rcases oU h with⟨L1,k1,k2,k3⟩|⟨L1,k1,k2,k3⟩
   ·rw[dP (M:=L) λt _=>k1 t]at k2;obtain⟨s,q1,q2,q3⟩:=Du hT hE ho k3 k2;split at q1<;>try (cases q1;done)
    rename_i L2 hp hrf;exact next g1 ho g3 g4 (g5.imp id (Or.imp q3 id)) gt hb k1 q2 hrf hp q1
   ·split at k2<;>try (cases k2;done)
    rename_i L2 hp;exact next g1 ho g3 g4 (.inr (.inl (HB k3))) gt hb k1 (rQ ho k3) rfl hp k2
theorem ES{ops:Array Oper}{D:List Nat}:∀{rs:List Nat} {j:Nat},GJ E ops D rs=S' j->j∈rs/\∃o d,ops[j]?=S' o/\fw E o=T'/\o.dst=S' d/\Region.free .any ops (mkL ops.size D) j=T'
 |[],_,h=>by simp[GJ]at h
 |q::rs,j,h=>by
  simp only[GJ]at h;split at h<;>try (cases h;done)
  rename_i o ho;split at h
  ·rename_i hb;injection h with h;subst h;simp only[aoT]at hb;obtain⟨d,hd⟩:=apD.1 hb.1.2;exact⟨by simp,o,d,ho,hb.1.1,hd,hb.2⟩
  ·obtain⟨h1,h2⟩:=ES h;exact⟨by simp[h1],h2⟩
theorem W4(hT:eO P T=T')(hE:kY P E){i:Nat}{c:Cfg}:∀(m:Nat) (D:List Nat) (L:SL),go P F T E N Fn m {c with L:=L} (.tal i D)=S' r->D.length<=(aj (nth (ai F c.f) i)).size->
  TRun P E (aj (nth (ai F c.f) i)) (ntm F c.f) c.H T' (λ_ _ L=>∃q,q<m/\go P F T E N Fn q {c with L:=L} .nrm=S' r) (λ_ _ _=>False) ((aj (nth (ai F c.f) i)).size-D.length) (mkL (aj (nth (ai F c.f) i)).size D) L:=by
 intro m;induction m with
 |zero=>intro D L h;simp[WK]at h
 |succ m ih=>
  intro D L h hlen
  have next:∀{j:Nat} {o:Oper} {d:Nat} {L1 L2:SL} {s:SV},j∈Region.ready .any (aj (nth (ai F c.f) i)) (mkL (aj (nth (ai F c.f) i)).size D)->(aj (nth (ai F c.f) i))[j]?=S' o->o.dst=S' d->Region.free .any (aj (nth (ai F c.f) i)) (mkL (aj (nth (ai F c.f) i)).size D) j=T'->fw E o=T'->D.length+1<=(aj (nth (ai F c.f) i)).size->
    (∀t,aK L1 t=aK L t)->StepF P c.H (aj (nth (ai F c.f) i)) (gI L (o.looksAt (aj (nth (ai F c.f) i)))) o j s->s.refsT c.H.length=T'->fc (ntm F c.f) L1 o.dst s=S' L2->go P F T E N Fn m {c with L:=L2} (.tal i (j::D))=S' r->TRun P E (aj (nth (ai F c.f) i)) (ntm F c.f) c.H T' (λ_ _ L=>∃q,q<m+1/\go P F T E N Fn q {c with L:=L} .nrm=S' r) (λ_ _ _=>False) ((aj (nth (ai F c.f) i)).size-D.length) (mkL (aj (nth (ai F c.f) i)).size D) L:=by
   intro j o d L1 L2 s h1 h2 h3 h4 h4'' h5 h6 h7 hrf h8 h9;have htj:dZ E (aj (nth (ai F c.f) i)) j=true:=by unfold dZ;rw[h2];exact h4''
   rw[h3]at h8;simp only[fc]at h8;split at h8<;>try (cases h8;done)
   rename_i hd;have hd:=aoV hd;injection h8 with h8;have hlk:∀t,aK L2 t=if t=d then some s else aK L t:=λt=>by rw[<-h8,cj,h6 t]
   have h11:=(ih (j::D) L2 h9 (by simpa using h5)).mono (Stp':=λ_ _ L=>∃q,q<m+1/\go P F T E N Fn q {c with L:=L} .nrm=S' r) (Fin':=λ_ _ _=>False) (λ_ _ _ ⟨q,h1,h2⟩=>⟨q,by omega,h2⟩) (λ_ _ _ h=>h);rw[show(aj (nth (ai F c.f) i)).size-D.length=((aj (nth (ai F c.f) i)).size-(j::D).length)+1 by simp;omega];exact .step (L':=L2) h1 (.inr (.inr rfl)) htj h2 h3 (by omega) h4 h7 hrf hlk h11
  rw[Xx]at h;simp only[stC]at h;split at h
  ·rename_i hrd;exact .stop hrd ⟨m,by omega,h⟩
  ·rename_i rs hrd;split at h<;>try (cases h;done)
   rename_i j hb hj;have hb:=aoV hb;obtain⟨g1,o',d,g2,gt,g3,g4⟩:=ES hj;split at h<;>try (cases h;done)
   rename_i o ho;rw[ho]at g2;injection g2 with g2;subst g2;rcases oU h with⟨L1,k1,k2,k3⟩|⟨L1,k1,k2,k3⟩
   ·rw[dP (M:=L) λt _=>k1 t]at k2;obtain⟨s,q1,q2,q3⟩:=Du hT hE ho k3 k2;split at q1<;>try (cases q1;done)
    rename_i L2 hp hrf;exact next g1 ho g3 g4 gt hb k1 q2 hrf hp q1
   ·split at k2<;>try (cases k2;done)
    rename_i L2 hp;exact next g1 ho g3 g4 gt hb k1 (rQ ho k3) rfl hp k2
theorem OS{P:Program}{ops:Array Oper}{Q:Exit->Act->World->Prop}{S0 S1:World->Prop}:∀(n:Nat) (l:Array Bool) (a:Act) (w:World),storeDone ops l->wpG P ops Q S1 n l a w->wpG P ops Q S0 n l a w
 |0,_,_,_,_,h=>h
 |n+1,_,_,_,hs,h=>⟨h.1,λi hi=>wpOp_mono (λ_ _ h'=>⟨.inl (hs.set i),OS n _ _ _ (hs.set i) h'.2⟩) (h.2 i hi)⟩
end
end
section
theorem XO(it:Item):ddI (ddJ it)=ddI it:=by
 unfold ddJ;split<;>rfl
theorem FP(it:Item):(ddI it).live=it.live:=by
 unfold ddI;split<;>rfl
theorem GD{A B:List Item}(h:A.map ddJ=B):A.map ddI=B.map ddI:=by grind [arQ,XO]
theorem xw(q:Nat)(b:Bool)(H:List Item):(ml q b H).length=H.length:=by grind [ml]
theorem Tl{q:Nat}{b:Bool}{H:List Item}{k:Nat}:(ml q b H)[k]?=if k=q then(match H[k]? with
  |some (.box t [.d .bool c])=>some (.box t [.d .bool (c&&b)])
  |x=>x)else H[k]?:=by grind [ml]
theorem Qy(q q':Nat)(b b':Bool)(H:List Item):ml q b (ml q' b' H)=ml q' b' (ml q b H):=by
 refine aqA λk=>?_;grind [Tl]
theorem ER(q:Nat)(b:Bool)(H:List Item):(ml q b H).map ddJ=H.map ddJ:=by
 unfold ml;split
 ·rename_i t c hq;refine aqA λk=>?_;rw[apS,apS,apY];by_cases e:q=k
  ·subst e;rw[apB rfl,apB (aoZ.1 hq).1,hq];rfl
  grind
 ·rfl
def Dd(H1 H2:List Item):Prop:=H1.length=H2.length/\∀(j:Nat) it1 it2,H1[j]?=S' it1->H2[j]?=S' it2->it1=it2\/it1=ddI it2
theorem ags(Hb X:List Item):Dd (Hb.map ddI++X) (Hb++X):=by
 refine⟨by simp,λj it1 it2 h1 h2=>?_⟩;grind
section
variable {Z:Nat->Prop} {w0:World} {H1 H2:List Item} {G G':List Value} {w w':World}
theorem Dd.at2(h:Dd H1 H2){j:Nat}{it1:Item}(h1:H1[j]?=S' it1):∃it2,H2[j]?=S' it2/\(it1=it2\/it1=ddI it2)/\it2.live=it1.live:=by
 have hlt:j<H2.length:=by rw[<-h.1];exact(aoZ.1 h1).1
 refine⟨H2[j],aoO hlt,h.2 j _ _ h1 (aoO hlt),?_⟩;rcases h.2 j _ _ h1 (aoO hlt)with e|e
 ·rw[e]
 ·rw[e,FP]
theorem Dd.at1(h:Dd H1 H2){j:Nat}{it2:Item}(h2:H2[j]?=S' it2):∃it1,H1[j]?=S' it1/\(it1=it2\/it1=ddI it2)/\it1.live=it2.live:=by
 have hlt:j<H1.length:=by rw[h.1];exact(aoZ.1 h2).1
 refine⟨H1[j],aoO hlt,h.2 j _ _ (aoO hlt) h2,?_⟩;rcases h.2 j _ _ (aoO hlt) h2 with e|e
 ·rw[e]
 ·rw[e,FP]
theorem BL(h:Dd H1 H2):Av Z H1 G=Av Z H2 G:=by
 funext b;refine propext ⟨λ⟨h1,h2⟩=>⟨h1,λj it g q1 q2 q3=>?_⟩,λ⟨h1,h2⟩=>⟨h1,λj it g q1 q2 q3=>?_⟩⟩
 ·obtain⟨it1,e1,_,e3⟩:=h.at1 q1;grind
 ·obtain⟨it2,e1,_,e3⟩:=h.at2 q1;grind
theorem BZ(it:Item):ddI it=it\/∃t b,it=.box t [.d .bool b]/\ddI it=.box t [.dead]:=by
 unfold ddI;grind
theorem amJ(h:Dd H1 H2)(hr:SR Z w0 H2 G w):SR Z w0 H1 G w:=by
 refine⟨hr.len.trans h.1.symm,hr.below,λj it g h1 hg=>?_,λi j it jt g k b hij h1 h2 l1 l2=>?_,hr.zf⟩
 ·obtain⟨it2,e1,e2,_⟩:=h.at2 h1;rw[BL h];have:=hr.items j it2 g e1 hg;rcases e2 with e2|e2
  ·grind
  ·rcases BZ it2 with e3|⟨t,b,e3,e4⟩
   ·grind
   ·rw[e2,e4];rw[e3]at this;obtain⟨b',vs,k1,k2,k3,k4⟩:=this;refine⟨b',vs,k1,k2,k3,?_⟩;match vs,k4 with
    |[v],⟨_,q⟩=>exact⟨trivial,q⟩
 ·obtain⟨i2,e1,_,e3⟩:=h.at2 h1;obtain⟨j2,f1,_,f3⟩:=h.at2 h2;exact hr.disj i j i2 j2 g k b hij e1 f1 (e3.trans l1) (f3.trans l2)
theorem anm(h:Dd H1 H2)(hr:SR Z w0 H2 G w)(hold:Old w w')(hr':SR Z w0 H1 G' w')(htr:∀s v,Rel1 G (Av Z H2 G) w s v->Rel1 G' (Av Z H1 G') w' s v):SR Z w0 H2 G' w':=by
 refine⟨hr'.len.trans h.1,hr'.below,λj it g h2 hg=>?_,λi j it jt g k b hij h1 h2 l1 l2=>?_,hr'.zf⟩
 ·obtain⟨it1,e1,e2,_⟩:=h.at1 h2;rw[<-BL h];have:=hr'.items j it1 g e1 hg;rcases e2 with e2|e2
  ·rw[<-e2];exact this
  ·rcases BZ it with e3|⟨t,b,e3,e4⟩
   ·grind
   ·subst e3;have hlt:j<G.length:=by rw[hr.len];exact(aoZ.1 h2).1
    obtain⟨b',vs,k1,k2,k3,k4⟩:=hr.items j _ _ h2 (aoO hlt);obtain⟨b2,q1,q2⟩:=htr (.box j 0) G[j] ⟨b',by rw[aoO hlt,k1],k1⟩;rw[hg]at q1;injection q1 with q1;rw[k1]at q2;injection q2 with q2;injection q2 with q2;injection q2 with q2;subst q2;refine⟨b',vs,q1,k2,?_,?_⟩
    ·show w'.heap[b']?=_;rw[hold.2 b' k3.lt];exact k3
    ·match vs,k4 with
     |[v],⟨q,q'⟩=>exact⟨q,q'⟩
 ·obtain⟨i2,e1,_,e3⟩:=h.at1 h1;obtain⟨j2,f1,_,f3⟩:=h.at1 h2;exact hr'.disj i j i2 j2 g k b hij e1 f1 (e3.trans l1) (f3.trans l2)
theorem am8{n:Nat}{L:SL}{a:Act}(h:Dd H1 H2)(hf:FR Z n L H2 G w a):FR Z n L H1 G w a:=⟨hf.defers,hf.size,λt s hs=>by rw[BL h];exact hf.slot t s hs⟩
end
section
variable {P:Program} {T:TT} {E:Env} {ops:Array Oper}
theorem StepF.up{Hb:List Item}{Lr:SL}{o:Oper}{j:Nat}{s:SV}(h:StepF P (Hb.map ddI) ops Lr o j s):StepF P Hb ops Lr o j s:=by
 intro X Z w0 n G w a Q K hI hr hf hK;have hD:=ags Hb X;refine h X Z w0 n G w a Q K hI (amJ hD hr) (am8 hD hf) λv G' w' ho hr' htr hrel=>?_;have htr':∀s v,Rel1 G (Av Z (Hb++X) G) w s v->Rel1 G' (Av Z (Hb.map ddI++X) G') w' s v:=λs v hs=>htr s v (by rw[BL hD];exact hs);refine hK v G' w' ho (anm hD hr ho hr' htr') (λs' v' hs=>?_) ?_
 ·grind [BL]
 grind [BL]
def abX(P:Program)(H:List Item)(ops:Array Oper)(Lr:SL)(o:Oper)(j q:Nat)(c:Bool)(s:SV):Prop:=
 ∀(Hb X:List Item) (Z:Nat->Prop) (w0:World) (n:Nat) (G:List Value) (w:World) (a:Act) (Q:Exit->Act->World->Prop) (K:Act->World->Prop),Hb.map ddJ=H->inv w0->SR Z w0 (Hb++X) G w->FR Z n Lr (Hb++X) G w a->
  (∀v w',SR Z w0 (ml q c Hb++X) G w'->(∀s' v',Rel1 G (Av Z (Hb++X) G) w s' v'->Rel1 G (Av Z (ml q c Hb++X) G) w' s' v')->Rel G (Av Z (ml q c Hb++X) G) w' s v->K (a.put o.dst v) w')->wpOp P ops Q j K a w
theorem Pb{it:Item}{t:Nat}(h:ddJ it=.box t [.d .bool Ff']):∃b,it=.box t [.d .bool b]:=by
 unfold ddJ at h;grind
theorem QT{q:Nat}{c:Bool}{Hb X:List Item}{t:Nat}{b:Bool}(h:Hb[q]?=S' (.box t [.d .bool b])):ml q c Hb++X=(Hb++X).set q (.box t [.d .bool (b&&c)]):=by grind [ml]
theorem Yn{Lr:SL}{Hc:List Item}{o:Oper}{j q:Nat}{c:Bool}{s:SV}(hE:kY P E)(hops:ops[j]?=S' o)(hg:cN ops Lr o (λ_=>S' T') (λ_=>S' Ff')=S' T')(h:bxC E Lr Hc o=S' (q,s,c)):abX P (Hc.map ddJ) ops Lr o j q c s:=by
 intro Hb X Z w0 n G w a Q K hHb hI hr hf hK
 have want:Region.wanted o (yielded ops a.tmps)=true:=by
  rcases d8 hf hg with⟨_,_,_,h3⟩|⟨_,h1,_,_⟩
  ·exact h3
  ·cases h1
 unfold bxC at h;split at h<;>try (cases h;done)
 rename_i f x y z tys ho;split at h<;>try (cases h;done)
 rename_i t ht;split at h<;>try (cases h;done)
 rename_i q' i c' hx hy hz;split at h<;>try (cases h;done)
 rename_i t' b0 hq;split at h<;>try (cases h;done)
 rename_i hbeq;have ett:=aoS hbeq;subst ett;simp only[aoX,apt]at h;obtain⟨rfl,rfl,rfl⟩:=h
 obtain⟨b,hb⟩:∃b,Hb[q']?=S' (.box t [.d .bool b]):=by
  have e1:(Hb.map ddJ)[q']?=S' (.box t [.d .bool Ff']):=by
   rw[hHb,apS,hq];rfl
  rw[apS]at e1;cases hk:Hb[q']? with
  |none=>rw[hk]at e1;cases e1
  |some it=>
   rw[hk]at e1;injection e1 with e1;obtain⟨b,e2⟩:=Pb e1;exact⟨b,by rw[e2]⟩
 have hlt:=(aoZ.1 hb).1;have hbX:(Hb++X)[q']?=S' (.box t [.d .bool b]):=by rw[apc hlt];exact hb
 obtain⟨sp,m,hsp,hm,hbx⟩:∃sp m,lG E f=S' sp/\sp.mut_=S' m/\m.bx=S' t:=by
  unfold afU at ht;split at ht<;>try (cases ht;done)
  rename_i sp hsp;split at ht<;>try (cases ht;done)
  rename_i m hm;exact⟨sp,m,hsp,hm,ht⟩
 obtain⟨hcl,_,hmc,_⟩:=hE f sp hsp;have hmc:=hmc m hm;unfold M1 at hmc;rw[hbx]at hmc;dsimp only at hmc;obtain⟨blk,g1,g2⟩:=aF hf hx;obtain⟨cs,g3,g4⟩:=aF hf hy;obtain⟨cs',g5,g6⟩:=aF hf hz;obtain⟨l1,l2,e0,e1,e2⟩:=g3;have e1:l1=[Value.int .i64 i.1]:=e1;have e2:l2=[Value.int .i64 i.2]:=e2;have e5:cs'=[Value.bool c']:=g5;subst e1 e2 e5;subst e0;have g4:a.eval y=.agg #[.int .i64 i.1,.int .i64 i.2]:=g4;have g6:a.eval z=.bool c':=g6;obtain⟨b',vs,k1,k2,k3,k4⟩:=hr.items q' _ _ hbX g1;injection k1 with k1;injection k1 with k1;injection k1 with k1;subst k1
 have evs:vs=[Value.bool b]:=by
  match vs,k4 with
  |[v],⟨⟨cs,q1,q2⟩,_⟩=>
   have q1:cs=[Value.bool b]:=q1;subst q1;rw[q2];rfl
 subst evs;unfold wpOp;simp only[hops];rw[apB want];refine .inl ?_;unfold Oper.wp;rw[jp hcl a.eval o (.func f) ⟨[x,y,z]⟩ tys #[] ho rfl w]
 have ea:Array.map a.eval ⟨[x,y,z]⟩++ #[]= #[.pointer (S' ⟨blk,0,none⟩),.agg #[.int .i64 i.1,.int .i64 i.2],.bool c']:=by
  simp[g2,g4,g6]
 rw[ea];refine(hmc w blk b c' i.1 i.2 (kn hI hr.below) k3).mono ?_;rintro e w' ⟨rfl,r1,r2⟩
 have hblk:∀b',b'<w.heap.size->(∀g',G[q']?=some g'->bh g'≠some b')->w'.heap[b']?=w.heap[b']?:=λb' hb' hn=>r2.block b' hb' λe2=>hn _ g1 e2.symm;have hB:Below w0.heap.size w0 w':=hr.below.grown r2 hr.below.size λp hp=>by injection hp with hp;subst hp;exact k2
 have hst:=pA (it':=.box t [.d .bool (b&&c')]) hr hbX rfl hB r2.size hblk;rw[QT hb]at hK;refine hK _ w' (Ck hr hbX rfl hB r2.size hblk λg' hg'=>?_) (λs' v' hs=>cU hr hst hs) ?_
 ·rw[g1]at hg';injection hg' with hg';subst hg';exact⟨blk,[.bool (b&&c')],rfl,k2,r1,⟨⟨[Value.bool (b&&c')],rfl,rfl⟩,trivial⟩⟩
 ·exact⟨[.int .i64 i.1,.int .i64 i.2],⟨[.int .i64 i.1],[.int .i64 i.2],rfl,rfl,rfl⟩,rfl⟩
end
end
section
section
variable {P:Program} {T:TT} {E:Env} {ops:Array Oper} {R:Type}
def StepK(P:Program)(H:List Item)(K:List Item->List Item)(ops:Array Oper)(Lr:SL)(o:Oper)(j:Nat)(s:SV):Prop:=
 (K=id/\StepF P (H.map ddI) ops Lr o j s)\/∃q c,K=ml q c/\abX P H ops Lr o j q c s
inductive TRunB (P:Program) (E:Env) (ops:Array Oper) (N:Nat) (H:List Item) (lo:Bool) (Fin:Nat->Array Bool->SL->Prop):Nat->Array Bool->SL->(List Item->List Item)->Prop
 |done {n:Nat} {l:Array Bool} {L:SL}:fJ E ops l=true->Fin n l L->TRunB P E ops N H lo Fin n l L id
 |step {n:Nat} {l:Array Bool} {L L':SL} {j:Nat} {o:Oper} {d:Nat} {s:SV} {K F:List Item->List Item}:j∈Region.ready .any ops l->(iY E ops j=true\/lo=true)->dZ E ops j=true->ops[j]?=some o->o.dst=some d->d<N->Region.free .any ops l j=true->StepK P H K ops (gI L (o.looksAt ops)) o j s->
   s.refsT H.length=T'->(∀t,aK L' t=if t=d then S' s else aK L t)->TRunB P E ops N H lo Fin n (l.setIfInBounds j T') L' F->TRunB P E ops N H lo Fin (n+1) l L (λx=>F (K x))
variable {N:Nat} {H:List Item} {lo:Bool} {Fin:Nat->Array Bool->SL->Prop}
theorem StepK.com{K K':List Item->List Item}{Lr Lr':SL}{o o':Oper}{j j':Nat}{s s':SV}(h:StepK P H K ops Lr o j s)(h':StepK P H K' ops Lr' o' j' s')(x:List Item):K (K' x)=K' (K x):=by
 rcases h with⟨rfl,_⟩|⟨q,c,rfl,_⟩
 ·rfl
 ·rcases h' with⟨rfl,_⟩|⟨q',c',rfl,_⟩
  ·rfl
  simp[Qy]
theorem StepK.ddJ{K:List Item->List Item}{Lr:SL}{o:Oper}{j:Nat}{s:SV}(h:StepK P H K ops Lr o j s)(x:List Item):(K x).map ddJ=x.map ddJ:=by
 rcases h with⟨rfl,_⟩|⟨q,c,rfl,_⟩
 ·rfl
 simp[ER]
theorem TRunB.any{n:Nat}{l:Array Bool}{L:SL}{F:List Item->List Item}(h:TRunB P E ops N H lo Fin n l L F):Clo ops l->∀{j:Nat},j∈Region.ready .any ops l->dZ E ops j=T'->
  ∃(n':Nat) (o:Oper) (d:Nat) (s:SV) (L':SL) (K F':List Item->List Item),n=n'+1/\ops[j]?=S' o/\o.dst=S' d/\d<N/\StepK P H K ops (gI L (o.looksAt ops)) o j s/\s.refsT H.length=T'/\(∀t,aK L' t=if t=d then S' s else aK L t)/\TRunB P E ops N H lo Fin n' (l.setIfInBounds j T') L' F'/\F=λx=>F' (K x):=by
 induction h with
 |done h1 h2=>intro hcl j hj hs;rw[pg hcl h1 hj]at hs;cases hs
 | @step n l L L1 i oi di si Ki Fi h1 h0 h0' h2 h3 h4 h5 h6 hrf h7 h8 ih=>
  intro hcl j hj hst;by_cases hji:j=i
  ·subst hji;exact⟨n,oi,di,si,L1,Ki,Fi,rfl,h2,h3,h4,h6,hrf,h7,h8,rfl⟩
  ·obtain⟨n',oj,dj,sj,L2,Kj,F2,e1,g2,g3,g4,g6,grf,g7,g8,g9⟩:=ih (hcl.set h1) (aqm hj hji) hst;have hjun:=(apU.1 hj).1;have hap:=ap5 h2 h5 j oj g2 hji hjun (ez h1 hj g2);obtain⟨a1,a2,a3⟩:=arw hap;have b1:=a1 di h3;have b2:dj≠di:=λe=>a2 di h3 (by rw[g3,e]);have b3:=a3 dj g3
   have c1:StepK P H Kj ops (gI L (oj.looksAt ops)) oj j sj:=by
    rw[<-dP (L:=L1) (M:=L) λt ht=>by rw[h7 t,aph (λe=>b1 (by rw[<-e];exact ht))]];exact g6
   have c2:StepK P H Ki ops (gI ((dj,sj)::nH L dj) (oi.looksAt ops)) oi i si:=by
    rw[dP (M:=L) λt ht=>by rw[cj,aph (λe=>b3 (by rw[<-e];exact ht))]];exact h6
   refine⟨n,oj,dj,sj,(dj,sj)::nH L dj,Kj,λx=>F2 (Ki x),rfl,g2,g3,g4,c1,grf,λt=>cj,?_,?_⟩
   ·rw[e1];refine .step (j:=i) (L':=L2) (aqm h1 (aqK hji)) h0 h0' h2 h3 h4 (mK h2 hjun h5) c2 hrf (λt=>?_) ?_ (s:=si)
    ·rw[g7 t,h7 t,cj];by_cases e1:t=dj
     ·subst e1;rw[apB rfl,aph b2];rw[apB rfl]
     ·rw[aph e1,aph e1]
    ·rw[apL _ _ hji];exact g8
   ·rw[g9];funext x;show F2 (Kj (Ki x))=F2 (Ki (Kj x));rw[g6.com h6]
theorem TRunB.alloc{la:List AlA}(hFin:∀n l L j oj,Fin n l L->Clo ops l->j∈Region.ready .any ops l->fJ E ops l=T'->ops[j]?=S' oj->bz oj=T'->∃n' r a L',n=n'+1/\la[r]?=S' a/\a.i=j/\oj.dst=S' a.d/\a.d<N/\(∃x,oj.op=.alloc a.t/\dl T a.t=S' x/\x.z=T'/\(∀p q,x.ty≠.pair p q)/\a.cs=x.ty.zsplit)/\(∀t,aK L' t=if t=a.d then S' (.box (H.length+r) 0)else aK L t)/\fJ E ops (l.setIfInBounds j T')=T'/\Fin n' (l.setIfInBounds j T') L')
  {n:Nat} {l:Array Bool} {L:SL} {F:List Item->List Item} (h:TRunB P E ops N H lo Fin n l L F):Clo ops l->∀{j:Nat} {oj:Oper},j∈Region.ready .any ops l->ops[j]?=S' oj->bz oj=T'->
  ∃(n' r:Nat) (a:AlA) (L':SL),n=n'+1/\la[r]?=S' a/\a.i=j/\oj.dst=S' a.d/\a.d<N/\(∃x,oj.op=.alloc a.t/\dl T a.t=S' x/\x.z=T'/\(∀p q,x.ty≠.pair p q)/\a.cs=x.ty.zsplit)/\(∀t,aK L' t=if t=a.d then S' (.box (H.length+r) 0)else aK L t)/\TRunB P E ops N H lo Fin n' (l.setIfInBounds j T') L' F:=by
 induction h with
 |done h1 h2=>
  intro hcl j oj hj hoj hal;obtain⟨n',r,a,L',e1,e2,e3,e4,e5,e6,e7,e8,e9⟩:=hFin _ _ _ _ _ h2 hcl hj h1 hoj hal;exact⟨n',r,a,L',e1,e2,e3,e4,e5,e6,e7,.done e8 e9⟩
 | @step n l L L1 i oi di si Ki Fi h1 h0 h0' h2 h3 h4 h5 h6 hrf h7 h8 ih=>
  intro hcl j oj hj hoj hal;by_cases hji:j=i
  ·exfalso;subst hji;unfold dZ at h0';rw[hoj]at h0';dsimp only at h0';rw[ja hal]at h0';cases h0'
  ·obtain⟨n',r,x,L2,e1,e2,e3,g3,g4,g5,g7,g8⟩:=ih (hcl.set h1) (aqm hj hji) hoj hal;have hjun:=(apU.1 hj).1;have hap:=ap5 h2 h5 j oj hoj hji hjun (ez h1 hj hoj);obtain⟨a1,a2,a3⟩:=arw hap;have b2:x.d≠di:=λe=>a2 di h3 (by rw[g3,e]);have b3:=a3 x.d g3;refine⟨n,r,x,(x.d,.box (H.length+r) 0)::nH L x.d,rfl,e2,e3,g3,g4,g5,λt=>cj,?_⟩;rw[e1];refine .step (j:=i) (L':=L2) (aqm h1 (aqK hji)) h0 h0' h2 h3 h4 (mK h2 hjun h5) ?_ hrf (λt=>?_) ?_ (s:=si)
   ·rw[dP (M:=L) λt ht=>by rw[cj,aph (λe=>b3 (by rw[<-e];exact ht))]];exact h6
   ·rw[g7 t,h7 t,cj];by_cases e1:t=x.d
    ·subst e1;rw[apB rfl,aph b2];rw[apB rfl]
    ·rw[aph e1,aph e1]
   ·rw[apL _ _ hji];exact g8
theorem TRunB.store{ss:List AlS}(hFin:∀n l L j oj,Fin n l L->Clo ops l->j∈Region.ready .any ops l->fJ E ops l=T'->ops[j]?=S' oj->eE E ops j=T'->∃n' s,n=n'+1/\s∈ss/\s.i=j/\qT T L s oj/\fJ E ops (l.setIfInBounds j T')=T'/\Fin n' (l.setIfInBounds j T') L)
  {n:Nat} {l:Array Bool} {L:SL} {F:List Item->List Item} (h:TRunB P E ops N H lo Fin n l L F):Clo ops l->∀{j:Nat} {oj:Oper},j∈Region.ready .any ops l->ops[j]?=S' oj->eE E ops j=T'->
  ∃(n':Nat) (s:AlS),n=n'+1/\s∈ss/\s.i=j/\qT T L s oj/\TRunB P E ops N H lo Fin n' (l.setIfInBounds j T') L F:=by
 induction h with
 |done h1 h2=>
  intro hcl j oj hj hoj hal;obtain⟨n',s,e1,e2,e3,e4,e5,e6⟩:=hFin _ _ _ _ _ h2 hcl hj h1 hoj hal;exact⟨n',s,e1,e2,e3,e4,.done e5 e6⟩
 | @step n l L L1 i oi di si Ki Fi h1 h0 h0' h2 h3 h4 h5 h6 hrf h7 h8 ih=>
  intro hcl j oj hj hoj hal;by_cases hji:j=i
  ·exfalso;subst hji;unfold dZ at h0';unfold eE at hal;rw[hoj]at h0' hal;dsimp only at h0' hal;rw[h0']at hal;cases hal
  ·obtain⟨n',s,e1,e2,e3,g5,g8⟩:=ih (hcl.set h1) (aqm hj hji) hoj hal;have hjun:=(apU.1 hj).1;have hap:=ap5 h2 h5 j oj hoj hji hjun (ez h1 hj hoj);obtain⟨a1,a2,a3⟩:=arw hap;have b1:=a1 di h3;refine⟨n,s,rfl,e2,e3,?_,?_⟩
   ·obtain⟨t,x,v,sv,y,q1,q2,q3,q4,q5,q6⟩:=g5
    have hop:∀{z:Operand} {sz:SV},(∀u,z=.tmp u->u∈oj.looksAt ops)->opS L1 z=S' sz->opS L z=S' sz:=by
     intro z sz hz he;cases z with
     |tmp u=>
      simp only[opS]at he ⊢;rw[h7 u,aph (λe=>b1 (by rw[<-e];exact hz u rfl))]at he;exact he
     |_=>exact he
    refine⟨t,x,v,sv,y,q1,q2,q3,hop (λu hu=>?_) q4,hop (λu hu=>?_) q5,q6⟩
    ·unfold Oper.looksAt;rw[q1,hu];simp[Op.operands]
    ·unfold Oper.looksAt;rw[q1,hu];simp[Op.operands]
   ·rw[e1];refine .step (j:=i) (L':=L1) (aqm h1 (aqK hji)) h0 h0' h2 h3 h4 (mK h2 hjun h5) h6 hrf h7 ?_ (s:=si);rw[apL _ _ hji];exact g8
theorem yO{H':List Item}{la:List AlA}{ss:List AlS}(hp:PlanOk T ops N H la ss)(hnew:∀s∈ss,H.length<=s.j)(hl:H'.length=H.length):PlanOk T ops N H' la ss:=by
 refine⟨hp.dis,λa ha=>?_,λs hs=>?_,hp.far⟩
 ·rw[hl];exact hp.la2 a ha
 ·obtain⟨q1,q2,q3,bt,cells,q4,q5⟩:=hp.ss1 s hs;grind
theorem Ks(h0:Nat)(it:Item):(∀s∈(ddJ it).svs,s.refs h0=T')↔∀s∈it.svs,s.refs h0=true:=by
 unfold ddJ;split
 ·exact⟨λ_ s hs=>(by have:s=_:=apz.1 hs;subst this;rfl),λ_ s hs=>(by have:s=_:=apz.1 hs;subst this;rfl)⟩
 ·exact Iff.rfl
theorem K0{h0:Nat}{Hb:List Item}(h:mN h0 (Hb.map ddJ)):mN h0 Hb:=by
 intro k it hk;exact(Ks h0 it).1 (h k (ddJ it) (by rw[apS,hk];rfl))
theorem A7{f:Nat->Bool}{h0:Nat}{Y:List Item}:∀{ss:List AlS},(∀s∈ss,h0<=s.j)->∃X,∀H:List Item,H.length=h0->ct f ss (H++Y)=H++X
 |[],_=>⟨Y,λ_ _=>rfl⟩
 |s::r,h=>by
  obtain⟨X,hX⟩:=A7 (f:=f) (h0:=h0) (Y:=Y) (ss:=r) λs hs=>h s (by simp[hs]);have hs:=h s (by simp);cases hf:f s.i with
  |false=>exact⟨X,λH hl=>by simp only[ct];rw[hf];exact hX H hl⟩
  |true=>
   refine⟨match X[s.j-h0]? with
    |some (.box bt cells)=>X.set (s.j-h0) (.box bt (nT cells s.off s.l))
    |_=>X,λH hl=>?_⟩
   simp only[ct];rw[hf,hX H hl];dsimp only;unfold stP;rw[apm (by omega),hl];split
   ·rename_i bt cells hx;rw[List.set_append,aph (by omega),hl];simp only[hx]
   ·rename_i hx;split
    ·rename_i bt cells hy;exact absurd hy (hx bt cells)
    ·rfl
theorem EZ{h0:Nat}{Hb:List Item}(h:mN h0 Hb):mN h0 (Hb.map ddJ):=by
 intro k it hk;rw[apS]at hk;cases e:Hb[k]? with
 |none=>rw[e]at hk;cases hk
 |some i0=>
  rw[e]at hk;injection hk with hk;subst hk;exact(Ks h0 i0).2 (h k i0 e)
theorem TRunB.sound{Z:Nat->Prop}{w0:World}{fl:Nat}{Q:Exit->Act->World->Prop}{X:List Item->List Value->World->Prop}{la:List AlA}{ss:List AlS}{Hf:List Item}(hT:eO P T=T')(hE:kY P E)(hI:inv w0)
  (hFin:∀n l L j oj,Fin n l L->Clo ops l->j∈Region.ready .any ops l->fJ E ops l=T'->ops[j]?=S' oj->bz oj=T'->∃n' r a L',n=n'+1/\la[r]?=S' a/\a.i=j/\oj.dst=S' a.d/\a.d<N/\(∃x,oj.op=.alloc a.t/\dl T a.t=S' x/\x.z=T'/\(∀p q,x.ty≠.pair p q)/\a.cs=x.ty.zsplit)/\(∀t,aK L' t=if t=a.d then S' (.box (H.length+r) 0)else aK L t)/\fJ E ops (l.setIfInBounds j T')=T'/\Fin n' (l.setIfInBounds j T') L')
  (hFinS:lo=T'->∀n l L j oj,Fin n l L->Clo ops l->j∈Region.ready .any ops l->fJ E ops l=T'->ops[j]?=S' oj->eE E ops j=T'->∃n' s,n=n'+1/\s∈ss/\s.i=j/\qT T L s oj/\fJ E ops (l.setIfInBounds j T')=T'/\Fin n' (l.setIfInBounds j T') L)
  (hp0:PlanOk T ops N H la ss) (hnew:∀s∈ss,H.length<=s.j) (hlow0:mN H.length H) (hfl:fl<=H.length)
  (hX:∀H G w H' G' w',X H G w->Ev Z fl H G w H' G' w'->X H' G' w') (hQ:∀n l L G w a,fJ E ops l=T'->Fin n l L->Clo ops l->l.size=ops.size->Aj H.length la (dn l) L->SR Z w0 (ct (dn l) ss (Hf++alX (dn l) la)) G w->FR Z N L (ct (dn l) ss (Hf++alX (dn l) la)) G w a->X (ct (dn l) ss (Hf++alX (dn l) la)) G w->wpG P ops Q (λ_=>True) n l a w):
  ∀(n:Nat) (l:Array Bool) (L:SL) (F:List Item->List Item),TRunB P E ops N H lo Fin n l L F->∀Hb,Hb.map ddJ=H->F Hb=Hf->Clo ops l->l.size=ops.size->Aj H.length la (dn l) L->∀(G:List Value) (w:World) (a:Act),SR Z w0 (ct (dn l) ss (Hb++alX (dn l) la)) G w->FR Z N L (ct (dn l) ss (Hb++alX (dn l) la)) G w a->X (ct (dn l) ss (Hb++alX (dn l) la)) G w->wpG P ops Q (λ_=>True) n l a w:=by
 have lowS:∀{l:Array Bool} {L L':SL} {j d:Nat} {s:SV},Aj H.length la (dn l) L->s.refsT H.length=T'->(∀t,aK L' t=if t=d then S' s else aK L t)->Aj H.length la (dn (l.setIfInBounds j T')) L':=by
  intro l L L' j d s hL hs hL' t u hu;rw[hL' t]at hu;split at hu
  ·injection hu with hu;subst hu;exact .inl hs
  ·rcases hL t u hu with h|⟨r,a,h1,h2,h3⟩
   ·exact .inl h
   ·refine .inr ⟨r,a,h1,?_,h3⟩;rw[jm];split
    ·rfl
    ·exact h2
 intro n;induction n with
 |zero=>
  intro l L F h Hb hHb hF hcl hsz hL G w a hr hf hx;cases h with
  |done h1 h2=>subst hF;exact hQ 0 l L G w a h1 h2 hcl hsz hL hr hf hx
 |succ n ih=>
  intro l L F h Hb hHb hF hcl hsz hL G w a hr hf hx;have h':=h;have hlen:Hb.length=H.length:=by rw[<-hHb,apW]
  have hp:PlanOk T ops N Hb la ss:=yO hp0 hnew hlen;have hlow:mN Hb.length Hb:=by rw[hlen];exact K0 (by rw[hHb];exact hlow0)
  cases h with
  |done h1 h2=>subst hF;exact hQ _ l L G w a h1 h2 hcl hsz hL hr hf hx
  | @step _ _ _ L1 i oi di si Ki Fi h1 h0 h0' h2 h3 h4 h5 h6 hrf h7 h8=>
   refine qp rfl (λe=>by rw[e]at h1;cases h1) λj hj=>?_;obtain⟨hjun,oj,hoj,_⟩:=apU.1 hj;cases hnl:eE E ops j with
   |true=>
    have hlo:lo=true:=h0.resolve_left λh0=>by
     rw[zP hcl h0 (apU.1 h1).1 hj]at hnl;cases hnl
    obtain⟨n',s,e1,e2,e3,g5,g8⟩:=h'.store (T:=T) (hFinS hlo) hcl hj hoj hnl;have e1:n=n':=by omega
    subst e1 e3;obtain⟨_,oj',hoj',hdep⟩:=apU.1 hj;rw[hoj]at hoj';injection hoj' with hoj';subst hoj';obtain⟨bt,c',b1,b2⟩:=hp.box hcl e2 λos hos e he hb=>by rw[hoj]at hos;injection hos with hos;subst hos;exact hdep e he hb
    refine rG (fl:=fl) hT hE hI hoj g5 b1 b2 hr hf hx hX λG' w' k2 k3 k5=>⟨.inr trivial,?_⟩
    rw[<-hp.setS e2 hjun]at k2 k3 k5;refine ih _ _ _ g8 Hb hHb hF (hcl.set hj) (by simpa using hsz) (λt u hu=>?_) G' w' _ k2 k3 k5;rcases hL t u hu with h|⟨r,b,q1,q2,q3⟩
    ·exact .inl h
    ·refine .inr ⟨r,b,q1,?_,q3⟩;rw[jm];split
     ·rfl
     ·exact q2
   |false=>
   cases hal:bz oj with
   |false=>
    have hst:dZ E ops j=true:=by
     unfold eE at hnl;unfold dZ;rw[hoj]at hnl ⊢;simpa [hal]using hnl
    obtain⟨n',o,d,s,L',K,F',e1,g2,g3,g4,g5,grf,g6,g7,g9⟩:=h'.any hcl hj hst;have e1:n=n':=by omega
    subst e1;have hno:bz o=false:=by rw[hoj]at g2;injection g2 with g2;subst g2;exact hal
    rw[g9]at hF;rcases g5 with⟨rfl,g5⟩|⟨q,c,rfl,g5⟩
    ·have e1:=hp.setT (l:=l) g2 hno g3;obtain⟨Y,hY⟩:=sG (f:=dn l) (H:=Hb) (Y:=alX (dn l) la) (λs hs=>by rw[hlen];exact hnew s hs);rw[hY]at hr hf hx;rw[<-GD hHb]at g5;refine g5.up Y Z w0 N G w a Q _ hI hr ⟨hf.defers,hf.size,λt s' hs=>hf.slot t s' (gD hs)⟩ λv G' w' k0 k1 k2 k3=>⟨.inr trivial,?_⟩
     rw[hY]at e1
     have hf1:FR Z N ((d,s)::nH L d) (Hb++Y) G' w' (a.put o.dst v):=by
      refine(hf.keep k2).put (d:=o.dst) (s:=s) ?_ k3;rw[g3];simp only[fc];rw[apf (show d+1<=N by omega)]
     exact ih _ _ _ g7 Hb hHb hF (hcl.set hj) (by simpa using hsz) (lowS hL grf g6) G' w' _ (by rw[e1];exact k1) (by rw[e1];exact hf1.eqv λt=>by rw[cj,g6 t]) (by rw[e1];exact hX _ _ _ _ _ _ hx λs v hs _=>k2 s v hs)
    ·have hp':PlanOk T ops N (ml q c Hb) la ss:=yO hp (λs hs=>by rw[hlen];exact hnew s hs) (xw _ _ _);have e1:=hp'.setT (l:=l) g2 hno g3;obtain⟨Y,hYu⟩:=A7 (f:=dn l) (h0:=H.length) (Y:=alX (dn l) la) hnew;have hY:=hYu Hb hlen;have hY':=hYu (ml q c Hb) ((xw _ _ _).trans hlen);rw[hY]at hr hf hx;refine g5 Hb Y Z w0 N G w a Q _ hHb hI hr ⟨hf.defers,hf.size,λt s' hs=>hf.slot t s' (gD hs)⟩ λv w' k1 k2 k3=>⟨.inr trivial,?_⟩
     rw[hY']at e1
     have hf1:FR Z N ((d,s)::nH L d) (ml q c Hb++Y) G w' (a.put o.dst v):=by
      refine(hf.keep k2).put (d:=o.dst) (s:=s) ?_ k3;rw[g3];simp only[fc];rw[apf (show d+1<=N by omega)]
     exact ih _ _ _ g7 (ml q c Hb) ((ER q c Hb).trans hHb) hF (hcl.set hj) (by simpa using hsz) (lowS hL grf g6) G w' _ (by rw[e1];exact k1) (by rw[e1];exact hf1.eqv λt=>by rw[cj,g6 t]) (by rw[e1];exact hX _ _ _ _ _ _ hx λs v hs _=>k2 s v hs)
   |true=>
    obtain⟨n',r,x,L',e1,e2,e3,g3,g4,⟨y,y5,y6,y7,y8,y9⟩,g7,g8⟩:=h'.alloc (T:=T) hFin hcl hj hoj hal;have e1:n=n':=by omega
    subst e1 e3;obtain⟨hset,hgone⟩:=hp.setA hcl hsz e2 hjun;rw[<-hlen]at g7 hL;refine rX (L':=L') hT hoj hal e2 g3 g4 y5 ⟨y,y6,y7,y8,y9⟩ hp.dis hjun hgone (hp.low hlow) hL (by rw[hlen];exact hfl) hr hf hx hX g7 λv G' w' k0 k1 k2 k3=>⟨.inr trivial,?_⟩
    rw[<-hset]at k1 k2 k3;rw[hlen]at g7 hL;refine ih _ _ _ g8 Hb hHb hF (hcl.set hj) (by simpa using hsz) (λt u hu=>?_) G' w' _ k1 k2 k3;rw[g7 t]at hu;split at hu
    ·injection hu with hu;exact .inr ⟨r,x,e2,by rw[jm,apB rfl],hu.symm⟩
    ·rcases hL t u hu with h|⟨r',b,q1,q2,q3⟩
     ·exact .inl h
     ·refine .inr ⟨r',b,q1,?_,q3⟩;rw[jm];split
      ·rfl
      ·exact q2
end
section
variable {F:FT} {P:Program} {T:TT} {E:Env} {N:NT} {Fn:Nat->Cfg->Option (List RV)} {r:List RV}
theorem AY{c:Cfg}{i:Nat}{la:List AlA}{ss:List AlS}{m m' n:Nat}{l:Array Bool}{L:SL}(hm:m<=m')(hf:tT P F T E N Fn r c i la ss m n l L):tT P F T E N Fn r c i la ss m' n l L:=by
 rcases hf with⟨D',q,e1,e2,e3,e4,e5,e6,e7,e8,e9⟩|⟨D',q,L0,ss',e1,e2,e3,e4,e5,e6,e7,e8⟩|⟨D',q,j',o',e1,e2,e3,e4,e5,e6,e7,e8,e9,e10,e11⟩
 ·exact .inl ⟨D',q,e1,e2,e3,e4,e5,e6,e7,by omega,e9⟩
 ·exact .inr (.inl ⟨D',q,L0,ss',e1,e2,e3,e4,e5,e6,by omega,e8⟩)
 ·exact .inr (.inr ⟨D',q,j',o',e1,e2,e3,e4,e5,e6,e7,e8,e9,by omega,e11⟩)
theorem TRunB.mono{P:Program}{ops:Array Oper}{N:Nat}{H:List Item}{lo:Bool}{Fin Fin':Nat->Array Bool->SL->Prop}(hF:∀n l L,Fin n l L->Fin' n l L){n:Nat}{l:Array Bool}{L:SL}{Φ:List Item->List Item}(h:TRunB P E ops N H lo Fin n l L Φ):TRunB P E ops N H lo Fin' n l L Φ:=by
 induction h with
 |done h1 h2=>exact .done h1 (hF _ _ _ h2)
 |step h1 h0 h0' h2 h3 h4 h5 h6 hrf h7 h8 ih=>exact .step h1 h0 h0' h2 h3 h4 h5 h6 hrf h7 ih
theorem FS{ops:Array Oper}{D:List Nat}:∀{rs:List Nat} {j:Nat},Fs E ops D rs=S' j->j∈rs/\∃o d,ops[j]?=S' o/\fw E o=T'/\o.dst=S' d/\Region.free .any ops (mkL ops.size D) j=T'/\(iY E ops j=T'\/(!(ce E ops))=T')
 |[],_,h=>by simp[Fs]at h
 |q::rs,j,h=>by
  simp only[Fs]at h;split at h<;>try (cases h;done)
  rename_i o ho;split at h
  ·rename_i hb;injection h with h;subst h;simp only[aoT]at hb;obtain⟨d,hd⟩:=apD.1 hb.1.1.2;simp only[aqU]at hb;exact⟨by simp,o,d,ho,hb.1.1.1,hd,hb.1.2,hb.2⟩
  ·obtain⟨h1,h2⟩:=FS h;exact⟨by simp[h1],h2⟩
theorem TRun.fin{ops:Array Oper}{N:Nat}{H:List Item}{lo:Bool}{Fin:Nat->Array Bool->SL->Prop}{n:Nat}{l:Array Bool}{L:SL}(h:TRun P E ops N H lo (λ_ _ _=>False) Fin n l L)(hall:fJ E ops l=T')(hcl:Clo ops l):Fin n l L:=by
 cases h with
 |done h1 h2=>exact h2
 |stop h1 h2=>exact h2.elim
 |step h1 _ h0'=>
  grind [pg]
theorem VD(hT:eO P T=T')(hE:kY P E){i:Nat}{c:Cfg}:∀(m:Nat) (D:List Nat) (L:SL) (H:List Item),go P F T E N Fn m {c with L:=L,H:=H} (.tbx i D)=S' r->
  cu (mkL (aj (nth (ai F c.f) i)).size D)+D.length=(aj (nth (ai F c.f) i)).size->(∀j∈D,dZ E (aj (nth (ai F c.f) i)) j=T')->(∀t s,aK L t=S' s->s.refsT H.length=T')->Clo (aj (nth (ai F c.f) i)) (mkL (aj (nth (ai F c.f) i)).size D)->
  ∃la ss Φ,ce E (aj (nth (ai F c.f) i))=T'/\PlanOk T (aj (nth (ai F c.f) i)) (ntm F c.f) (H.map ddJ) la ss/\(∀s∈ss,H.length<=s.j)/\(Φ H).map ddJ=H.map ddJ/\TRunB P E (aj (nth (ai F c.f) i)) (ntm F c.f) (H.map ddJ) (!(ce E (aj (nth (ai F c.f) i)))) (tT P F T E N Fn r {c with H:=Φ H} i la ss m) ((aj (nth (ai F c.f) i)).size-D.length) (mkL (aj (nth (ai F c.f) i)).size D) L Φ:=by
 intro m;induction m with
 |zero=>intro D L H h;simp[WK]at h
 |succ m ih=>
  intro D L H h hlen hD hlowL hcl
  have next:∀{j:Nat} {o:Oper} {d:Nat} {L1 L2:SL} {s:SV} {K:List Item->List Item},j∈Region.ready .any (aj (nth (ai F c.f) i)) (mkL (aj (nth (ai F c.f) i)).size D)->(aj (nth (ai F c.f) i))[j]?=S' o->o.dst=S' d->Region.free .any (aj (nth (ai F c.f) i)) (mkL (aj (nth (ai F c.f) i)).size D) j=T'->(iY E (aj (nth (ai F c.f) i)) j=T'\/(!(ce E (aj (nth (ai F c.f) i))))=T')->fw E o=T'->D.length+1<=(aj (nth (ai F c.f) i)).size->
    (∀t,aK L1 t=aK L t)->StepK P (H.map ddJ) K (aj (nth (ai F c.f) i)) (gI L (o.looksAt (aj (nth (ai F c.f) i)))) o j s->(K H).length=H.length->s.refsT H.length=T'->fc (ntm F c.f) L1 o.dst s=S' L2->go P F T E N Fn m {c with L:=L2,H:=K H} (.tbx i (j::D))=S' r->
    ∃la ss Φ,ce E (aj (nth (ai F c.f) i))=T'/\PlanOk T (aj (nth (ai F c.f) i)) (ntm F c.f) (H.map ddJ) la ss/\(∀s∈ss,H.length<=s.j)/\(Φ H).map ddJ=H.map ddJ/\TRunB P E (aj (nth (ai F c.f) i)) (ntm F c.f) (H.map ddJ) (!(ce E (aj (nth (ai F c.f) i)))) (tT P F T E N Fn r {c with H:=Φ H} i la ss (m+1)) ((aj (nth (ai F c.f) i)).size-D.length) (mkL (aj (nth (ai F c.f) i)).size D) L Φ:=by
   intro j o d L1 L2 s K h1 h2 h3 h4 h4' h4'' h5 h6 h7 hK hrf h8 h9;have htj:dZ E (aj (nth (ai F c.f) i)) j=true:=by unfold dZ;rw[h2];exact h4''
   have hcu:=AL (apU.1 h1).1;rw[h3]at h8;simp only[fc]at h8;split at h8<;>try (cases h8;done)
   rename_i hd;have hd:=aoV hd;injection h8 with h8;have hlk:∀t,aK L2 t=if t=d then some s else aK L t:=λt=>by rw[<-h8,cj,h6 t]
   obtain⟨la,ss,Φ,hstr,hp,hnew,hlenΦ,h10⟩:=ih (j::D) L2 (K H) h9 (by
    rw[ao8];show cu ((mkL _ D).setIfInBounds j T')+_=_;omega) (λk hk=>by
    rcases ao7.1 hk with e|hk
    ·subst e;exact htj
    ·exact hD k hk) (λt u hu=>by
    rw[hK];rw[hlk t]at hu;split at hu
    ·injection hu with hu;subst hu;exact hrf
    ·exact hlowL t u hu) (hcl.set h1)
   rw[h7.ddJ]at hp h10;refine⟨la,ss,λx=>Φ (K x),hstr,hp,λs hs=>by rw[<-hK];exact hnew s hs,hlenΦ.trans (h7.ddJ H),?_⟩;rw[show(aj (nth (ai F c.f) i)).size-D.length=((aj (nth (ai F c.f) i)).size-(j::D).length)+1 by simp;omega];exact .step (L':=L2) h1 h4' htj h2 h3 (by omega) h4 h7 (by rw[apW];exact hrf) hlk (h10.mono λn l L hf=>AY (Nat.le_succ _) hf)
  rw[Xx]at h;simp only[stC]at h;split at h
  ·rename_i hall;split at h<;>try (cases h;done)
   rename_i hstr;obtain⟨la,ss,hp,hnew,hrun⟩:=JC hT hE (c:={c with H:=H}) m D L h hlen hD hlowL hcl;refine⟨la,ss,id,hstr,yO hp hnew (apW _),hnew,rfl,?_⟩;exact .done hall (AY (Nat.le_succ _) (hrun.fin hall hcl))
  ·rename_i hall;split at h<;>try (cases h;done)
   rename_i j hb hj;have hb:=aoV hb;obtain⟨g1,o',d,g2,gt,g3,g4,g5⟩:=FS hj;split at h<;>try (cases h;done)
   rename_i o ho;rw[ho]at g2;injection g2 with g2;subst g2;rcases oU h with⟨L1,k1,k2,k3⟩|⟨L1,k1,k2,k3⟩
   ·rw[dP (M:=L) λt _=>k1 t]at k2;split at k2
    ·rename_i q s b hbx;split at k2<;>try (cases k2;done)
     rename_i L2 hp hrf;exact next g1 ho g3 g4 g5 gt hb k1 (.inr ⟨q,b,rfl,Yn hE ho k3 hbx⟩) (xw _ _ _) hrf hp k2
    ·obtain⟨s,q1,q2,_⟩:=Du hT hE ho k3 k2;split at q1<;>try (cases q1;done)
     rename_i L2 hp hrf;exact next (K:=id) g1 ho g3 g4 g5 gt hb k1 (.inl ⟨rfl,by rw[GD rfl]at q2;exact q2⟩) rfl hrf hp q1
   ·split at k2<;>try (cases k2;done)
    rename_i L2 hp;exact next (K:=id) g1 ho g3 g4 g5 gt hb k1 (.inl ⟨rfl,rQ ho k3⟩) rfl rfl hp k2
end
end
end Go.Proofs.YtoimchcjhdcdmaaGreat
end
