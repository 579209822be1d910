/- The pure machine and the machine: slots, loop heads, waiting calls. -/
import Derived.Test.YtagbmoohboleaaaGreatK3
noncomputable section
namespace Go.Proofs.YtagbmoohboleaaaGreat
open Go.RowKit Go.IntKind
theorem anv:type_of% @Classical.byContradiction:=@Classical.byContradiction
theorem anF:type_of% @List.pairwise_cons:=@List.pairwise_cons
theorem anP:type_of% @List.getElem?_cons_succ:=@List.getElem?_cons_succ
theorem aoc:type_of% @List.getElem?_cons_zero:=@List.getElem?_cons_zero
theorem aot:type_of% @List.mem_singleton:=@List.mem_singleton
theorem aoK:type_of% @List.getElem?_set_ne:=@List.getElem?_set_ne
theorem aoL:type_of% @List.mem_append_left:=@List.mem_append_left
theorem aoQ:type_of% @List.getElem?_set_self:=@List.getElem?_set_self
theorem aoV:type_of% @List.length_map:=@List.length_map
theorem aoW:type_of% @Array.getElem?_toList:=@Array.getElem?_toList
theorem ao5:type_of% @List.mem_map:=@List.mem_map
theorem aph:type_of% @List.mem_append_right:=@List.mem_append_right
theorem apv:type_of% @List.getElem_of_mem:=@List.getElem_of_mem
theorem apM:type_of% @Nat.beq_refl:=@Nat.beq_refl
theorem apY:type_of% @List.all_cons:=@List.all_cons
theorem ap2:type_of% @Bool.or_eq_false_iff:=@Bool.or_eq_false_iff
section
theorem BC{d:Nat}{L:SL}{t:Nat}{s:SV}(h:aO (qb L d) t=some s):aO L t=some s:=h
theorem iY{d:Nat}{x:SV}{L:SL}{t:Nat}{s:SV}(h:aO ((d,x)::L) t=some s):(t=d/\s=x)\/(t≠d/\aO L t=some s):=by
 simp only[aO]at h;split at h
 ·simp_all
 ·refine .inr ⟨λe=>?_,h⟩;simp_all
theorem jb{L:SL}:∀{ts:List Nat} {t:Nat} {s:SV},aO (jf L ts) t=some s->aO L t=some s
 |[],_,_,h=>by simp[jf,aO]at h
 |u::ts,t,s,h=>by
  simp only[jf]at h;split at h
  ·rename_i x hx;rcases iY h with⟨rfl,rfl⟩|⟨_,h1⟩
   ·exact hx
   ·exact jb h1
  ·exact jb h
theorem sh{N:NT}{f i:Nat}{L:SL}{t:Nat}{s:SV}(h:aO (Gw N f i L) t=some s):aO L t=some s:=by
 unfold Gw at h;split at h
 ·exact jb h
 omega
theorem Ao{L:SL}:∀{ts:List Nat} {L':SL},EK L ts=some L'->∀t s,aO L' t=some s->aO L t=some s
 |[],L',h,t,s,hs=>by simp only[EK,anl]at h;subst h;simp[aO]at hs
 |u::ts,L',h,t,s,hs=>by
  simp only[EK]at h;split at h<;>try (cases h;done)
  rename_i x r h1 h2;injection h with h;subst h;rcases iY hs with⟨rfl,rfl⟩|⟨_,h3⟩
  ·exact h1
  ·exact Ao h2 t s h3
theorem Bz:∀{L:SL} {t:Nat} {s:SV},aO L t=some s->(t,s)∈L
 |[],_,_,h=>by simp[aO]at h
 |(k,x)::r,t,s,h=>by
  rcases iY h with⟨rfl,rfl⟩|⟨_,h3⟩
  ·simp
  ·simp[Bz h3]
theorem ut{k:Nat}{s:SV}(h:∀l,s≠.tup l):s.refsT k=s.refs k:=by cases s<;>first|rfl|exact(h _ rfl).elim
theorem z9{fl j:Nat}{s:SV}(h:s.refs fl=true)(ho:s.of1 j=true):j<fl:=by
 cases s<;>simp only[SV.of1,Bool.false_eq_true]at ho
 ·have:=anh ho;subst this;exact anj h
 ·have:=anh ho;subst this;exact anj h
 ·have:=anh ho;subst this;exact anj h
section
variable {Z:Nat->Prop} {w0:World} {n:Nat} {L L':SL} {H H':List Item} {G G':List Value} {w w':World} {a:Act} {F:FT}
theorem FR.put{d:Option Nat}{s:SV}{v:Value}(h:FR Z n L H G w a)(hp:iC n L d s=some L')(hv:Rel G (Av Z H G) w s v):FR Z n L' H G w (a.put d v):=by
 cases d with
 |none=>simp only[iC,anl]at hp;subst hp;exact h
 |some d=>
  simp only[iC]at hp;split at hp<;>try (cases hp;done)
  rename_i hd;have hd:=anj hd;injection hp with hp;subst hp;refine⟨h.defers,by simp[Act.put,h.size],λt s' hs=>?_⟩;simp only[Act.put,Array.getElem?_setIfInBounds,h.size];rcases iY hs with⟨rfl,rfl⟩|⟨hne,h3⟩
  ·grind
  ·have h4:=BC h3;obtain⟨u,h5,h6⟩:=h.slot t s' h4;grind
theorem FR.say{d:Nat}{s:SV}{v:Value}(h:FR Z n L H G w a)(hd:a.tmps[d]?=some v)(hv:Rel G (Av Z H G) w s v):FR Z n ((d,s)::qb L d) H G w a:=
 ⟨h.defers,h.size,λt s' hs=>by
  rcases iY hs with⟨rfl,rfl⟩|⟨hne,h3⟩
  ·exact⟨v,hd,hv⟩
  ·exact h.slot t s' (BC h3)⟩
theorem uv(hr:SR Z w0 H G w){s:SV}{v:Value}(h:Rel1 G (Av Z H G) w s v):s.refs H.length=true:=by
 have lt:∀(j:Nat) g,G[j]?=some g->Nat.ble (j+1) H.length=true:=λj g hg=>anJ (by rw[<-hr.len];exact(ano.1 hg).1);cases s with
 |box j off=>obtain⟨b,h1,_⟩:=h;exact lt j _ h1
 |own j=>exact lt j _ h
 |oelt j sz i off=>obtain⟨b,m,c,h1,_⟩:=h;exact lt j _ h1
 |osl j sz lo n=>obtain⟨g,q,c,h1,_⟩:=h;exact lt j _ h1
 |clo f caps=>
  obtain⟨bs,h1,_⟩:=h;refine anB.2 λj hj=>?_;obtain⟨k,hk,rfl⟩:=apv hj;obtain⟨b,_,hb⟩:=jK h1 k _ (anc hk);grind
 |tup l=>exact h.elim
 |_=>rfl
theorem oK(hr:SR Z w0 H G w){s:SV}{v:Value}(h:Rel G (Av Z H G) w s v):s.refsT H.length=true:=by
 cases s with
 |tup l=>
  obtain⟨vs,_,h2⟩:=h;refine anB.2 λs hs=>?_;obtain⟨k,hk,rfl⟩:=apv hs;obtain⟨b,_,hb⟩:=jK h2 k _ (anc hk);grind [uv]
 |_=>rw[ut (λl e=>by cases e)];exact uv hr (pn h (λl e=>by cases e))
def Ev(Z:Nat->Prop)(fl:Nat)(H:List Item)(G:List Value)(w:World)(H':List Item)(G':List Value)(w':World):Prop:=∀s v,Rel1 G (Av Z H G) w s v->s.refs fl=true->Rel1 G' (Av Z H' G') w' s v
theorem Chg.ev{fl:Nat}{st ap:Bool}(h:Chg Z fl st ap H G w H' G' w'):Ev Z fl H G w H' G' w':=λs v hs hr=>h.pres s v hs λ_j hj=>z9 hr hj
def DOk(F:FT)(fm:Fm):Prop:=∀D,fm.d=some D->Clo (ak (nth (aj F fm.f) fm.i)) (mkL (ak (nth (aj F fm.f) fm.i)).size D)/\Region.noSelect (ak (nth (aj F fm.f) fm.i))=true/\D.length<=(ak (nth (aj F fm.f) fm.i)).size
def FrsOk(Z:Nat->Prop)(F:FT)(H:List Item)(G:List Value)(w:World):Nat->List Fm->List Act->Prop
 |_,[],[]=>True
 |fl,fm::fs,a::ats=>FR Z (ntm F fm.f) fm.L H G w a/\(∀t s,aO fm.L t=some s->s.refsT fl=true)/\(fm.fl<=fl/\(∃fn,iv F fm.f=some fn)/\DOk F fm)/\FrsOk Z F H G w fm.fl fs ats
 |_,_,_=>False
theorem rY{k l:Nat}(h:k<=l){s:SV}(hs:s.refs k=true):s.refs l=true:=by
 have b:∀j,Nat.ble (j+1) k=true->Nat.ble (j+1) l=true:=λj hj=>anJ (anq (anj hj) h);cases s with
 |box j off=>exact b j hs
 |own j=>exact b j hs
 |oelt j sz i off=>exact b j hs
 |osl j sz i off=>exact b j hs
 |clo f caps=>exact anB.2 λj hj=>b j (anB.1 hs j hj)
 |tup l=>cases hs
 |_=>rfl
theorem Iw{k l:Nat}(h:k<=l){s:SV}(hs:s.refsT k=true):s.refsT l=true:=by
 cases s with
 |tup l=>exact anB.2 λs hm=>rY h (anB.1 hs s hm)
 |_=>rw[ut (λl e=>by cases e)]at hs ⊢;exact rY h hs
theorem Rel.ev{fl:Nat}(he:Ev Z fl H G w H' G' w'){s:SV}{v:Value}(h:Rel G (Av Z H G) w s v)(hr:s.refsT fl=true):Rel G' (Av Z H' G') w' s v:=by
 cases s with
 |tup l=>
  obtain⟨vs,h1,h2⟩:=h;refine⟨vs,h1,?_⟩;clear h1;induction l generalizing vs with
  |nil=>cases vs<;>exact h2
  |cons s l ih=>
   simp only[SV.refsT,apY,ang]at hr;match vs,h2 with
   |v::vs,⟨g1,g2⟩=>exact⟨he s v g1 hr.1,ih hr.2 vs g2⟩
 |_=>rw[ut (λl e=>by cases e)]at hr;exact fv (he _ _ (pn h (λl e=>by cases e)) hr)
theorem FrsOk.ev{fl:Nat}(he:Ev Z fl H G w H' G' w'):∀{fl':Nat} {fs:List Fm} {ats:List Act},fl'<=fl->FrsOk Z F H G w fl' fs ats->FrsOk Z F H' G' w' fl' fs ats
 |_,[],[],_,_=>trivial
 |fl',fm::fs,a::ats,hle,⟨h1,h2,h3,h4⟩=>⟨⟨h1.defers,h1.size,λt s hs=>by
   obtain⟨v,g1,g2⟩:=h1.slot t s hs;exact⟨v,g1,g2.ev he (Iw hle (h2 t s hs))⟩⟩,h2,h3,FrsOk.ev he (anq h3.1 hle) h4⟩
 |_,[],_::_,_,h=>h.elim
 |_,_::_,[],_,h=>h.elim
theorem xL{a b k:Nat}:Q5 a b<=k↔a<=k/\b<=k:=by grind [Q5,anj,anJ]
theorem JL{k j:Nat}{s:SV}(h:s.ofm<=k)(ho:s.of1 j=true):j<k:=by
 cases s<;>simp only[SV.of1,Bool.false_eq_true]at ho;all_goals (have:=anh ho;subst this;exact h)
theorem WP{s:SV}(h:∀l,s≠.tup l):s.ofmT=s.ofm:=by cases s<;>first|rfl|exact(h _ rfl).elim
theorem Fg{k:Nat}:∀{L:SL} {t:Nat} {s:SV},slM L<=k->aO L t=some s->s.ofmT<=k
 |[],_,_,_,h=>by simp[aO]at h
 |(q,x)::r,t,s,hk,h=>by
  obtain⟨h1,h2⟩:=xL.1 hk;rcases iY h with⟨rfl,rfl⟩|⟨_,h3⟩
  ·exact h1
  ·exact Fg h2 h3
theorem Rel.evF{k:Nat}(he:∀s v,Rel1 G (Av Z H G) w s v->(∀j,s.of1 j=true->j<k)->Rel1 G' (Av Z H' G') w' s v){s:SV}{v:Value}(h:Rel G (Av Z H G) w s v)(hr:s.ofmT<=k):Rel G' (Av Z H' G') w' s v:=by
 cases s with
 |tup l=>
  obtain⟨vs,h1,h2⟩:=h;refine⟨vs,h1,?_⟩;clear h1;induction l generalizing vs with
  |nil=>cases vs<;>exact h2
  |cons s l ih=>
   obtain⟨r1,r2⟩:=xL.1 hr;match vs,h2 with
   |v::vs,⟨g1,g2⟩=>exact⟨he s v g1 λj hj=>JL r1 hj,ih r2 vs g2⟩
 |_=>rw[WP (λl e=>by cases e)]at hr;exact fv (he _ _ (pn h (λl e=>by cases e)) λj hj=>JL hr hj)
theorem FrsOk.evF{k:Nat}(he:∀s v,Rel1 G (Av Z H G) w s v->(∀j,s.of1 j=true->j<k)->Rel1 G' (Av Z H' G') w' s v):∀{fl':Nat} {fs:List Fm} {ats:List Act},Ox fs<=k->FrsOk Z F H G w fl' fs ats->FrsOk Z F H' G' w' fl' fs ats
 |_,[],[],_,_=>trivial
 |fl',fm::fs,a::ats,hle,⟨h1,h2,h3,h4⟩=>⟨⟨h1.defers,h1.size,λt s hs=>by
   obtain⟨v,g1,g2⟩:=h1.slot t s hs;exact⟨v,g1,g2.evF he (Fg (xL.1 hle).1 hs)⟩⟩,h2,h3,FrsOk.evF he (xL.1 hle).2 h4⟩
 |_,[],_::_,_,h=>h.elim
 |_,_::_,[],_,h=>h.elim
theorem th{fl:Nat}:∀{l:List (Nat×Nat×Ty)} {L:SL} {H:List Item} {G:List Value},SR Z w0 H G w->FR Z n L H G w a->fl<=H.length->rU l L H=some (L',H')->∃G',SR Z w0 H' G' w/\FR Z n L' H' G' w a/\Ev Z fl H G w H' G' w/\fl<=H'.length
 |[],L,H,G,hr,hf,hfl,h=>by
  simp only[rU,anl,anS]at h;obtain⟨rfl,rfl⟩:=h;exact⟨G,hr,hf,λs v h _=>h,hfl⟩
 |(t,et,e)::l,L,H,G,hr,hf,hfl,h=>by
  simp only[rU]at h;split at h
  ·rename_i hs;split at h<;>try (cases h;done)
   rename_i hn;have hn:=anj hn;obtain⟨v,h1,h2⟩:=hf.slot t _ hs;have h2:v=.slice none 0 0:=h2;subst h2;obtain⟨G1,k1,k2,k3,k4⟩:=mS (et:=et) (e:=e) (xs:=[]) (css:=[]) hr hf (aqk _ _) (World.ownsRow_nil w _ _ _) hn trivial fl false false;obtain⟨G2,g1,g2,g3,g4⟩:=th (fl:=fl) k1 (k2.say h1 k3) (by simp;omega) h;exact⟨G2,g1,g2,λs v hs hrf=>g3 s v (k4.ev s v hs hrf) hrf,g4⟩
  ·exact th hr hf hfl h
theorem m5{fl:Nat}:∀{l:List (Nat×Ty)} {L:SL} {H:List Item},SR Z w0 H G w->FR Z n L H G w a->fl<=H.length->mq fl l L H=some (L',H')->SR Z w0 H' G w/\FR Z n L' H' G w a/\Ev Z fl H G w H' G w/\fl<=H'.length
 |[],L,H,hr,hf,hfl,h=>by
  simp only[mq,anl,anS]at h;obtain⟨rfl,rfl⟩:=h;exact⟨hr,hf,λs v h _=>h,hfl⟩
 |(t,e)::l,L,H,hr,hf,hfl,h=>by
  simp only[mq]at h;split at h
  ·rename_i hs;obtain⟨v,h1,h2⟩:=hf.slot t _ hs;have h2:v=.slice none 0 0:=h2;subst h2;exact m5 hr (hf.say (s:=.d (.sl e) []) h1 ⟨[_],z5,rfl⟩) hfl h
  ·rename_i j hs;split at h<;>try (cases h;done)
   rename_i L1 H1 hg;have hfz:qU fl [.tmp t] L H=some (L1,H1):=by simp only[qU,opS,hs,hg]
   obtain⟨g1,g2,g3,_,_⟩:=me hr hf hfz
   have hlen:H1.length=H.length:=by
    unfold wy at hg;split at hg<;>try (cases hg;done)
    simp only[anl,anS]at hg;rw[<-hg.2];simp
   obtain⟨k1,k2,k3,k4⟩:=m5 g1 g2 (by omega) h;exact⟨k1,k2,λs v hs hrf=>k3 s v (g3 s v hs λj hj=>z9 hrf hj) hrf,k4⟩
  ·exact m5 hr hf hfl h
theorem ku{α:Type}{l:List α}{k j:Nat}{x:α}(h:(l.take k)[j]?=some x):j<k/\l[j]?=some x:=by grind
theorem De(hl:Nat){b:Nat}(h:Av Z H G b):Av Z (H.take hl) (G.take hl) b:=⟨h.1,λj it g h1 h2 h3=>h.2 j it g (ku h1).2 h2 (ku h3).2⟩
theorem zE{hl:Nat}{s:SV}{v:Value}(h:Rel1 G (Av Z H G) w s v)(hs:s.refs hl=true):Rel1 (G.take hl) (Av Z (H.take hl) (G.take hl)) w s v:=by
 have hk:Keeps (Av Z H G) (Av Z (H.take hl) (G.take hl)) w w:=⟨ani _,λb _ h=>De hl h,λ_ _ _=>rfl⟩
 have g:∀(j:Nat) x,Nat.ble (j+1) hl=true->G[j]?=some x->(G.take hl)[j]?=some x:=λj x hj hx=>by
  grind [anj]
 cases s with
 |d t x=>obtain⟨cs,h1,h2⟩:=h;exact⟨cs,Ty.rd_keep hk h1,h2⟩
 |nil=>exact h
 |box j off=>obtain⟨b,h1,h2⟩:=h;exact⟨b,g j _ hs h1,h2⟩
 |elt e x off=>obtain⟨b,o,cs,h1,h2,h3,h4,h5⟩:=h;exact⟨b,o,cs,h1,De hl h2,h3,Ty.rd_keep hk h4,h5⟩
 |own j=>exact g j _ hs h
 |oelt j sz i off=>obtain⟨b,m,c,h1,h2⟩:=h;exact⟨b,m,c,g j _ hs h1,h2⟩
 |cut e xs=>obtain⟨p,h1,h2⟩:=h;exact⟨p,Ty.rd_keep hk h1,h2⟩
 |osl j sz lo n=>obtain⟨x,q,c,h1,h2⟩:=h;exact⟨x,q,c,g j _ hs h1,h2⟩
 |clo f caps=>
  obtain⟨bs,h1,h2⟩:=h;refine⟨bs,?_,h2⟩;clear h2;induction caps generalizing bs with
  |nil=>cases bs<;>exact h1
  |cons c caps ih=>
   simp only[SV.refs,apY,ang]at hs;match bs,h1 with
   |b::bs,⟨q1,q2⟩=>exact⟨g c _ hs.1 q1,ih hs.2 bs q2⟩
 |tup l=>exact h
 |undef=>exact h
 |dead=>trivial
theorem Um{hl:Nat}(hr:SR Z w0 H G w)(hrf:(H.take hl).all (Item.refs hl)=true):SR Z w0 (H.take hl) (G.take hl) w:=by
 have hk:Keeps (Av Z H G) (Av Z (H.take hl) (G.take hl)) w w:=⟨ani _,λb _ h=>De hl h,λ_ _ _=>rfl⟩
 refine⟨by simp[hr.len],hr.below,λj it g h1 h2=>?_,λi j it jt g h b hij h1 h2 h3 h4 h5 h6 h7=>hr.disj i j it jt g h b hij (ku h1).2 (ku h2).2 h3 h4 (ku h5).2 (ku h6).2 h7,hr.zf⟩;have hi:=hr.items j it g (ku h1).2 (ku h2).2;have hir:it.refs hl=true:=anB.1 hrf it (aoq h1);cases it with
 |gone=>trivial
 |row et e xs=>obtain⟨css,k1,k2,k3⟩:=hi;exact⟨css,k1,bS (λ_ _ h=>Ty.rd_keep hk h) k2,k3⟩
 |box t cs=>
  obtain⟨b,vs,rfl,k1,k2,k3⟩:=hi;refine⟨b,vs,rfl,k1,k2,?_⟩;clear k2 h1;induction cs generalizing vs with
  |nil=>cases vs<;>exact k3
  |cons s l ih=>
   simp only[Item.refs,apY,ang]at hir;match vs,k3 with
   |v::vs,⟨q1,q2⟩=>exact⟨zE q1 hir.1,ih hir.2 vs q2⟩
structure CR (Z:Nat->Prop) (F:FT) (w0:World) (c:Cfg) (G:List Value) (w:World) (a:Act) (ats:List Act):Prop where
 sr:SR Z w0 c.H G w
 fr:FR Z (ntm F c.f) c.L c.H G w a
 fl:c.fl<=c.H.length
 frs:FrsOk Z F c.H G w c.fl c.fs ats
theorem Em{R:SV->Value->Prop}{s:SV}(hs:∀v,R .nil v->R s v):∀{cs:List SV} {vs:List Value} {q:Nat},cp R cs vs->cs[q]?=some .nil->cp R (cs.set q s) vs
 |[],_,_,_,h=>by simp at h
 |c::cs,[],_,h,_=>h.elim
 |c::cs,v::vs,0,⟨h1,h2⟩,h=>by
  simp only[aoc,anl]at h;subst h;exact⟨hs v h1,h2⟩
 |c::cs,v::vs,q+1,⟨h1,h2⟩,h=>by
  rw[anP]at h;exact⟨h1,Em hs h2 h⟩
theorem rJ{fl:Nat}:∀{l:List (Nat×Nat×Nat×Ty)} {H:List Item} {G:List Value},SR Z w0 H G w->FR Z n L H G w a->fl<=H.length->∃G',SR Z w0 (pz l H) G' w/\FR Z n L (pz l H) G' w a/\Ev Z fl H G w (pz l H) G' w/\fl<=(pz l H).length
 |[],H,G,hr,hf,hfl=>⟨G,hr,hf,λs v h _=>h,hfl⟩
 |(j,q,et,e)::l,H,G,hr,hf,hfl=>by
  simp only[pz];split
  ·rename_i t cs hj;split
   ·rename_i hq hn;have hn:=anj hn;obtain⟨G1,k1,k2,k3,k4⟩:=mS (et:=et) (e:=e) (xs:=[]) (css:=[]) hr hf (aqk _ _) (World.ownsRow_nil w _ _ _) hn trivial fl false false;have hlt:=(ano.1 hj).1;have hj1:(H++[.row et e []])[j]?=some (.box t cs):=by rw[anz hlt];exact hj
    have hst:=qB (it':=.box t (cs.set q (.own H.length))) k1 hj1 rfl k1.below (ani _) (λ_ _ _=>rfl)
    have hsr:=Cp (it':=.box t (cs.set q (.own H.length))) k1 hj1 rfl k1.below (ani _) (λ_ _ _=>rfl) (λg hg=>by
     obtain⟨b,vs,e1,e2,e3,e4⟩:=k1.items j _ g hj1 hg;refine⟨b,vs,e1,e2,e3,Em (λv hv=>?_) (bS (λs v h=>dV k1 hst h) e4) hq⟩;have hv:v=.slice none 0 0:=hv;subst hv;exact k3)
    rw[List.set_append,anH hlt]at hsr hst;obtain⟨G2,g1,g2,g3,g4⟩:=rJ (fl:=fl) (l:=l) hsr (k2.keep λs v h=>dV k1 hst h) (by simp;omega);exact⟨G2,g1,g2,λs v hs hrf=>g3 s v (dV k1 hst (k4.ev s v hs hrf)) hrf,g4⟩
   ·exact rJ hr hf hfl
  ·exact rJ hr hf hfl
theorem Wm{x:NI}{c c':Cfg}{ats:List Act}(h:afH x c=some c')(hc:CR Z F w0 c G w a ats):∃G',CR Z F w0 c' G' w a ats/\c'.f=c.f/\c'.K=c.K/\c'.fs=c.fs:=by
 unfold afH at h;split at h<;>try (cases h;done)
 rename_i L1 H1 h1;split at h<;>try (cases h;done)
 rename_i L2 H2 h2;split at h<;>try (cases h;done)
 rename_i L3 h3;split at h<;>try (cases h;done)
 rename_i hb;injection h with h;subst h;simp only[ang]at hb;obtain⟨⟨b1,b2⟩,b3⟩:=hb;obtain⟨G0,f1,f2,f3,f4⟩:=rJ (l:=x.bx) hc.sr hc.fr hc.fl;obtain⟨G1,g1,g2,g3',g4⟩:=th f1 f2 f4 h1;have g3:Ev Z c.fl c.H G w H1 G1 w:=λs v hs hr=>g3' s v (f3 s v hs hr) hr;obtain⟨k1,k2,k3,k4⟩:=m5 g1 g2 g4 h2;have b3':=anj b3;have hev:Ev Z c.fl c.H G w (H2.take x.hl) (G1.take x.hl) w:=λs v hs hrf=>zE (k3 s v (g3 s v hs hrf) hrf) (rY b3' hrf);refine⟨G1.take x.hl,⟨Um k1 b2,⟨k2.defers,k2.size,λt s hs=>?_⟩,by simp;omega,hc.frs.ev hev (ani _)⟩,rfl,rfl,rfl⟩;obtain⟨v,q1,q2⟩:=k2.slot t s (Ao h3 t s hs);have hrf:s.refs x.hl=true:=anB.1 b1 (t,s) (Bz hs);exact⟨v,q1,fv (zE (pn q2 λl e=>by subst e;cases hrf) hrf)⟩
end
end
section
def jM(P:Program)(fn:Func)(R:Ending->World->Prop)(B:Code):List KJ->List KI
 |[]=>[]
 |.seq i::K=>.seq i::jM P fn R B K
 |.blk id::K=>.blk id::jM P fn R B K
 |.lp i::K=>.lp (InLoop P (nth B (i+1)) (jC P fn R B (jM P fn R B K)))::jM P fn R B K
def gI(P:Program)(F:FT)(Rt:Ending->World->Prop):List Fm->List Act->Ending->World->Prop
 |fm::fs,a::ats=>λe w'=>∃v,e=.returned v/\∃fn o,iv F fm.f=some fn/\(ak (nth (aj F fm.f) fm.i))[fm.k]?=some o/\
   (fm.d=none->AtR P fn (gI P F Rt fs ats) (aj F fm.f) (jM P fn (gI P F Rt fs ats) (aj F fm.f) fm.K) fm.i (fm.k+1) (a.put o.dst v) w')/\
   (∀D,fm.d=some D->wpG P (ak (nth (aj F fm.f) fm.i)) (jC P fn (gI P F Rt fs ats) (aj F fm.f) (jM P fn (gI P F Rt fs ats) (aj F fm.f) fm.K)) (λ_=>True) ((ak (nth (aj F fm.f) fm.i)).size-D.length) (mkL (ak (nth (aj F fm.f) fm.i)).size D) (a.put o.dst v) w')
 |_,_=>Rt
section
variable {Z:Nat->Prop} {w0:World} {n:Nat} {L L':SL} {H H':List Item} {G G':List Value} {w w':World} {a:Act} {F:FT} {P:Program} {T:TT}
theorem gU{R:Type}{ops:Array Oper}{o:Oper}{yes no:SL->Option R}{r:R}(hf:FR Z n L H G w a)(h:dt ops L o yes no=some r):
  (∃L',yes L'=some r/\FR Z n L' H G w a/\Region.wanted o (yielded ops a.tmps)=true)\/(∃L',no L'=some r/\FR Z n L' H G w a/\Region.wanted o (yielded ops a.tmps)=false):=by
 unfold dt at h;split at h
 ·grind [Region.wanted]
 ·rename_i j want hg;split at h<;>try (cases h;done)
  rename_i d hd;split at h<;>try (cases h;done)
  ·rename_i b hb;obtain⟨v,h1,h2⟩:=hf.slot d _ hb;have hv:=uO h2;subst hv;have hy:∀b':Bool,b=b'->FR Z n ((d,.d .bool b')::qb L d) H G w a:=λb' e=>by subst e;exact hf.say h1 h2
   have hw:Region.wanted o (yielded ops a.tmps)=(b==want):=by
    simp only[Region.wanted,hg,yielded,hd,Option.bind_some,h1];cases b<;>cases want<;>rfl
   grind
  ·rename_i hb;obtain⟨v,h1,h2⟩:=hf.slot d _ hb;have h2:v=undef:=h2;subst h2;refine .inr ⟨L,h,hf,?_⟩;simp only[Region.wanted,hg,yielded,hd,Option.bind_some,h1];rfl
theorem Uj{fn:Func}{R:Ending->World->Prop}{B:Code}{K:List KI}{i k:Nat}(hk:(ak (nth B i))[k]?=none)(h:jC P fn R B K .normal a w):AtR P fn R B K i k a w:=by simp_all [rM]
theorem Wu{fn:Func}{R:Ending->World->Prop}{B:Code}{K:List KI}{i k:Nat}{o:Oper}(hk:(ak (nth B i))[k]?=some o)(hw:Region.wanted o (yielded (ak (nth B i)) a.tmps)=true)
  (h:o.upon P a (λa' w'=>AtR P fn R B K i (k+1) a' w') (jC P fn R B K) ((execOp a.eval o).run P w)):AtR P fn R B K i k a w:=by
 unfold AtR
 have:(ak (nth B i)).toList.drop k=o::(ak (nth B i)).toList.drop (k+1):=by
  grind [anu]
 rw[this];unfold wpList;rw[anH hw];exact .inl h
theorem adQ{fn:Func}{R:Ending->World->Prop}{B:Code}{K:List KI}{i k:Nat}{o:Oper}(hk:(ak (nth B i))[k]?=some o)(hw:Region.wanted o (yielded (ak (nth B i)) a.tmps)=false)
  (h:AtR P fn R B K i (k+1) (a.put o.dst undef) w):AtR P fn R B K i k a w:=by
 unfold AtR
 have:(ak (nth B i)).toList.drop k=o::(ak (nth B i)).toList.drop (k+1):=by
  grind [anu]
 rw[this];unfold wpList;rwa [anA (by rw[hw];simp)]
theorem Qj(hT:fK P T=true)(hr:SR Z w0 H G w)(hf:FR Z n L H G w a):∀{rs:List ResultVar} {ss:List SV},D9 T H L rs=some ss->∃vs,cp (Rel G (Av Z H G) w) ss vs/\
  ((rs.mapM (m:=Sem) fun
   |.tmp t=>pure (a.tmps.getD t undef)
   |.cell ad t=>do loadVar t (<-asAddr (a.tmps.getD ad undef))).run P w)=.ok vs w:=by
 intro rs;induction rs with
 |nil=>intro ss h;simp only[D9,anl]at h;subst h;exact⟨[],trivial,rfl⟩
 |cons q rs ih=>
  intro ss h;rw[List.mapM_cons];cases q with
  |tmp t=>
   simp only[D9]at h;split at h<;>try (cases h;done)
   rename_i s l h1 h2;injection h with h;subst h;obtain⟨vs,g1,g2⟩:=ih h2;obtain⟨v,k1,k2⟩:=hf.slot t s h1;refine⟨v::vs,⟨k2,g1⟩,?_⟩;simp only[aob,aoz,anI,aou,k1,Option.getD_some]at g2 ⊢;rw[g2];rfl
  |cell ad t=>
   simp only[D9]at h;split at h<;>try (cases h;done)
   rename_i j off i l h1 hi h2;split at h<;>try (cases h;done)
   rename_i bt cells hj;split at h<;>try (cases h;done)
   rename_i s hl;injection h with h;subst h;obtain⟨vs,g1,g2⟩:=ih h2;obtain⟨p,k1,k2⟩:=hf.slot ad _ h1;obtain⟨v,e1,e2⟩:=FY (rw:=true) hr (aR hT hi) k2 hj hl;obtain⟨b,hb,rfl⟩:=k2;refine⟨v::vs,⟨fv e1,g1⟩,?_⟩;have e3:=e2 w Agr.refl;simp only[Instr.loadAt,Instr.sureAddr,aob,aoz,anI]at e3;simp only[aob,aoz,anI,aou,k1,Option.getD_some,asAddr,e3]at g2 ⊢;rw[g2];rfl
theorem Qn{fn:Func}{R:Ending->World->Prop}(hT:fK P T=true)(hr:SR Z w0 H G w)(hf:FR Z n L H G w a){ss:List SV}(h:D9 T H L fn.results.toList=some ss)(hR:∀vs,cp (Rel G (Av Z H G) w) ss vs->R (.returned (nv vs)) w):bodyPost P fn R .ret a w:=by
 obtain⟨vs,g1,g2⟩:=Qj (P:=P) hT hr hf h;refine⟨hf.defers,nv vs,?_,hR vs g1⟩;unfold Go.results;generalize hrs:fn.results=rs at*
 obtain⟨l⟩:=rs;simp only[List.mapM_toArray,bind_map_left];simp only[aob];refine(congrArg (λr:Result (List Value)=>r.andThen λ(a:List Value) w'=>Sem.run P (pure (if h:a.toArray.size=1 then a.toArray[0]else Value.tuple a.toArray)) w') g2).trans ?_;match vs with
 |[]=>rfl
 |[x]=>rfl
 |x::y::r=>simp[nv]
theorem T0{ss:List SV}{vs:List Value}(hn:∀s∈ss,∀l,s≠.tup l)(h:cp (Rel G (Av Z H G) w) ss vs):Rel G (Av Z H G) w (agS ss) (nv vs):=by
 have h1:cp (Rel1 G (Av Z H G) w) ss vs:=by
  induction ss generalizing vs with
  |nil=>cases vs<;>exact h
  |cons s ss ih=>
   match vs,h with
   |v::vs,⟨q1,q2⟩=>exact⟨pn q1 (hn s (by simp)),ih (λs hs=>hn s (by simp[hs])) q2⟩
 match ss,vs,h,h1 with
 |[],[],_,_=>exact⟨[],rfl,trivial⟩
 |[s],[v],⟨q1,_⟩,_=>exact q1
 |s::s'::ss,v::v'::vs,_,h1=>exact⟨v::v'::vs,rfl,h1⟩
theorem E6{A:Nat->Prop}:∀{l:List SV} {r:List RV} {vs:List Value},Dh.outL l=some r->cp (Rel1 [] A w) l vs->rvS r=some l/\(∀q∈r,∃t x,q=.d t x)
 |[],r,vs,h,_=>by simp only[Dh.outL,anl]at h;subst h;exact⟨rfl,by simp⟩
 |s::l,r,vs,h,ha=>by
  unfold Dh.outL at h;split at h
  ·rename_i e;cases e
  ·rename_i t x l' e;injection e with e1 e2;subst e1 e2;split at h<;>try (cases h;done)
   rename_i r' hr';injection h with h;subst h;match vs,ha with
   |v::vs,⟨_,h2⟩=>
    obtain⟨g1,g2⟩:=E6 hr' h2;exact⟨by simp[rvS,g1],λq hq=>by rcases anr.1 hq with rfl|hq;exact⟨t,x,rfl⟩;exact g2 q hq⟩
  ·cases h
theorem adK(_hT:fK P T=true)(hr:SR Z w0 H G w){ss:List SV}{tys:List Nat}{r:List RV}{vs:List Value}(h:Dh T H ss tys=some r)(ha:cp (Rel G (Av Z H G) w) ss vs):zK Z w0.heap.size w r (nv vs):=by
 unfold Dh at h;split at h
 ·rename_i j;split at h<;>try (cases h;done)
  rename_i et e xs hj;injection h with h;subst h;match vs,ha with
  |[v],⟨hv,_⟩=>
   obtain⟨css,k1,k2,k3⟩:=hr.items j _ _ hj hv;refine⟨css,k1,bS (λl y h=>Ty.rd_keep ⟨ani _,λb _ hA=>⟨hA.1,hA.2 j _ _ hj rfl hv⟩,λ_ _ _=>rfl⟩ h) k2,k3⟩
 ·split at h<;>try (cases h;done)
  split at h<;>try (cases h;done)
  split at h<;>try (cases h;done)
  split at h<;>try (cases h;done)
  rename_i hb;injection h with h;subst h;match vs,ha with
  |[v],⟨hv,_⟩=>
   have hv:v=.slice none 0 0:=hv;subst hv;exact⟨[],World.ownsRow_nil _ _ _ _,trivial,anj hb⟩
 ·split at h<;>try (cases h;done)
  rename_i l hl;have h1:cp (Rel1 [] Z w) l vs:=qC (ss0:=ss) hr (λ_ _ h=>h.1) (.inl λj g b hg hb ⟨_,_,_,hj⟩=>hr.zf b ((hr.items j _ g hj hg).blk rfl hb).1) (λs hs=>hs) hl ha;obtain⟨g1,g2⟩:=E6 h h1;match r,g1,g2 with
  |[],g1,_=>
   simp only[rvS,anl]at g1;subst g1;match vs,h1 with
   |[],_=>exact⟨[],rfl,[],rfl,trivial⟩
  |[.d t x],g1,_=>
   simp only[rvS,anl]at g1;subst g1;match vs,h1 with
   |[v],⟨q,_⟩=>exact q
  |[.new et e xs],_,g2=>obtain⟨t,x,he⟩:=g2 (.new et e xs) (by simp);cases he
  |q::q'::r,g1,_=>
   have hlen:vs.length=(q::q'::r).length:=by
    rw[<-fN h1]
    have:∀(r:List RV) (l:List SV),rvS r=some l->l.length=r.length:=by
     intro r;induction r with
     |nil=>intro l h;simp only[rvS,anl]at h;subst h;rfl
     |cons q r ih=>
      intro l h;cases q<;>simp only[rvS]at h<;>split at h<;>first|(cases h;done)|(injection h with h;subst h;simp[ih _ (by assumption)])
    exact this _ _ g1
   match vs,hlen,h1 with
   |v::v'::vs,_,h1=>cases q<;>exact⟨v::v'::vs,rfl,l,g1,h1⟩
end
end
section
theorem rC{Z:Nat->Prop}{H:List Item}{G:List Value}{w:World}{a:Act}:∀{ss:List SV} {vs:List Value} {k:Nat},cp (Rel G (Av Z H G) w) ss vs->(∀t v,look (FG k vs) t=some v->a.tmps[t]?=some v)->∀t s,aO (zF k ss) t=some s->∃v,a.tmps[t]?=some v/\Rel G (Av Z H G) w s v
 |[],[],k,_,_,t,s,h=>by simp[zF,aO]at h
 |s0::ss,v0::vs,k,⟨h1,h2⟩,ha,t,s,h=>by
  rcases iY h with⟨rfl,rfl⟩|⟨hne,h3⟩
  ·exact⟨v0,ha t v0 (by simp[FG,look]),h1⟩
  ·refine rC h2 (λu x hx=>ha u x ?_) t s h3;simp only[FG,look];split
   ·rename_i hb;have e:k=u:=anh hb;have:=(A6 vs (k+1) u x hx).1;omega
   ·exact hx
def AtG(P:Program)(fn:Func)(R:Ending->World->Prop)(B:Code)(K:List KI)(i:Nat)(S0:World->Prop)(m:Nat)(D:List Nat)(a:Act)(w:World):Prop:=
 wpG P (ak (nth B i)) (jC P fn R B K) S0 m (mkL (ak (nth B i)).size D) a w
def l9(P:Program)(F:FT)(Rt:Ending->World->Prop)(c:Cfg)(fn:Func)(G:List Value)(w:World)(a:Act)(ats:List Act):Pos->Prop
 |.nrm=>jC P fn (gI P F Rt c.fs ats) (aj F c.f) (jM P fn (gI P F Rt c.fs ats) (aj F c.f) c.K) .normal a w
 |.node i=>At P fn (gI P F Rt c.fs ats) (aj F c.f) (jM P fn (gI P F Rt c.fs ats) (aj F c.f) c.K) i a w
 |.ops i k=>AtR P fn (gI P F Rt c.fs ats) (aj F c.f) (jM P fn (gI P F Rt c.fs ats) (aj F c.f) c.K) i k a w
 |.ret=>bodyPost P fn (gI P F Rt c.fs ats) .ret a w
 |.tam i D=>D=[]->Region.noSelect (ak (nth (aj F c.f) i))=true->AtG P fn (gI P F Rt c.fs ats) (aj F c.f) (jM P fn (gI P F Rt c.fs ats) (aj F c.f) c.K) i (λ_=>True) (ak (nth (aj F c.f) i)).size [] a w
 |.tbx i D=>D=[]->Region.noSelect (ak (nth (aj F c.f) i))=true->AtG P fn (gI P F Rt c.fs ats) (aj F c.f) (jM P fn (gI P F Rt c.fs ats) (aj F c.f) c.K) i (λ_=>True) (ak (nth (aj F c.f) i)).size [] a w
 |.tal i D=>∀S0:World->Prop,(∀w w',S0 w->(w.heap.size<=w'.heap.size/\∀b,b<w.heap.size->w'.heap[b]?=w.heap[b]?)->S0 w')->(storeDone (ak (nth (aj F c.f) i)) (mkL (ak (nth (aj F c.f) i)).size D)\/S0 w)->Clo (ak (nth (aj F c.f) i)) (mkL (ak (nth (aj F c.f) i)).size D)->Region.noSelect (ak (nth (aj F c.f) i))=true->∀m',m'+D.length=(ak (nth (aj F c.f) i)).size->AtG P fn (gI P F Rt c.fs ats) (aj F c.f) (jM P fn (gI P F Rt c.fs ats) (aj F c.f) c.K) i S0 m' D a w
 |.drw i rw eff D=>∀Hs Gs ws,((storeDone (ak (nth (aj F c.f) i)) (mkL (ak (nth (aj F c.f) i)).size D)/\eff=true)\/(Agr rw Hs Gs ws w/\(∀b,b<ws.heap.size->kg c.H G b->kg Hs Gs b)/\(eff=false->c.H=Hs/\G=Gs/\w=ws)/\¬storeDone (ak (nth (aj F c.f) i)) (mkL (ak (nth (aj F c.f) i)).size D)))->Clo (ak (nth (aj F c.f) i)) (mkL (ak (nth (aj F c.f) i)).size D)->Region.noSelect (ak (nth (aj F c.f) i))=true->
   ∀m',m'+D.length=(ak (nth (aj F c.f) i)).size->AtG P fn (gI P F Rt c.fs ats) (aj F c.f) (jM P fn (gI P F Rt c.fs ats) (aj F c.f) c.K) i (Agr rw Hs Gs ws) m' D a w
section
variable {Z:Nat->Prop} {w0:World} {F:FT} {P:Program} {T:TT} {E:Env} {N:NT} {Fin:Nat->Cfg->Option (List RV)} {Rt:Ending->World->Prop} {r:List RV}
theorem xB{fn:Func}{R:Ending->World->Prop}{B:Code}{id:Nat}:∀{K K':List KJ},Gb id K=some K'->zt id (jM P fn R B K)=some (jM P fn R B K')
 |[],K',h=>by simp[Gb]at h
 |.blk j::K,K',h=>by
  simp only[Gb]at h;simp only[jM,zt];split at h
  ·rename_i hb;rw[hb];injection h with h;rw[h]
  ·rename_i hb;rw[hb];exact xB h
 |.seq _::K,K',h=>by simp only[Gb]at h;simp only[jM,zt];exact xB h
 |.lp _::K,K',h=>by simp only[Gb]at h;simp only[jM,zt];exact xB h
theorem KF {L : SL} {H : List Item} {G : List Value} {w : World} {a : Act} {n g : Nat} {ss : List SV} {o : Op} (hf : FR Z n L H G w a) (h : LK F E L o = some (g, ss)) : ∃ f args tys fn caps, o = .call ⟨.value f, args, tys⟩ /\ iv F g = some fn /\ a.eval f = .func (.func g) #[] caps /\ cp (Rel G (Av Z H G) w) ss (args.map a.eval ++ caps).toList /\ ss.length <= fn.ntmps /\ (!(fn.name == "runtime.NumGoroutine")) = true /\ fn.body.isSome = true := by
 unfold LK at h;split at h<;>try (cases h;done)
 rename_i f args tys;split at h<;>try (cases h;done)
 rename_i g' caps hs;split at h<;>try (cases h;done)
 split at h<;>try (cases h;done)
 rename_i fn ss' hfn hss;split at h<;>try (cases h;done)
 rename_i hb;obtain⟨rfl,rfl⟩:=h;simp only[ang]at hb;obtain⟨bs,hbs,hfv⟩:=aM hf hs;refine⟨f,args,tys,fn,_,rfl,hfn,hfv,?_,by simp;exact anj hb.1,hb.2.1,hb.2.2⟩;have h1:=nS hf hss
 have h2:cp (Rel G (Av Z H G) w) (caps.map λj=>.box j 0) (bs.map λb=>Value.pointer (some ⟨b,0,none⟩)):=by
  clear hs hfv;induction caps generalizing bs with
  |nil=>cases bs<;>exact hbs
  |cons c caps ih=>
   match bs,hbs with
   |b::bs,⟨q1,q2⟩=>exact⟨⟨b,q1,rfl⟩,ih (by
    simp only[ans]at hb;exact⟨anJ (by have:=anj hb.1;omega),hb.2⟩) bs q2⟩
 simp_all [fq]
theorem Ge{ops:Array Oper}{eff:Bool}{D:List Nat}:∀{rs:List Nat} {j:Nat},Ez ops eff D rs=some j->j∈rs/\∃o,ops[j]?=some o/\isQ o.op=true/\(o0 o.op=true->eff=false/\xQ ops j=true)/\o.dst.isSome=true/\Region.free .any ops (mkL ops.size D) j=true
 |[],j,h=>by simp[Ez]at h
 |q::rs,j,h=>by
  simp only[Ez]at h;split at h<;>try (cases h;done)
  rename_i o ho;split at h
  ·rename_i hb;injection h with h;subst h;simp only[ang,ao8,Bool.and_eq_false_iff,ap2,Bool.not_eq_false']at hb;obtain⟨⟨⟨b1,b2⟩,b3⟩,b4⟩:=hb;exact⟨by simp,o,ho,b1,λhl=>by rcases b2 with b2|b2;rw[hl]at b2;cases b2;exact b2,b3,b4⟩
  ·obtain⟨h1,h2⟩:=Ge h;exact⟨by simp[h1],h2⟩
end
end
abbrev dn(l:Array Bool):Nat->Bool:=λk=>l.getD k true
theorem kx(l:Array Bool)(j k:Nat):dn (l.setIfInBounds j true) k=if k=j then true else dn l k:=by
 by_cases h:k=j
 ·simp_all
 simp_all [aoO]
theorem fe{d:Nat}{s:SV}{L:SL}{t:Nat}:aO ((d,s)::qb L d) t=if t=d then some s else aO L t:=by grind [aO,apM,anh]
theorem yk:∀{l cs:List SV} {off:Nat},(qm cs off l).length=cs.length
 |[],_,_=>rfl
 |_::r,_,_=>by simp[qm,yk (l:=r)]
theorem EH:∀(l cs:List SV) (off i:Nat),(qm cs off l)[i]?=if off<=i/\i<off+l.length/\i<cs.length then l[i-off]? else cs[i]?
 |[],cs,off,i=>by rw[anA (by simp;omega)];rfl
 |s::r,cs,off,i=>by
  rw[qm,EH r (cs.set off s) (off+1) i,aqd,ans];by_cases h1:i=off
  ·subst h1;rw[anA (by omega)];by_cases h2:i<cs.length
   ·rw[anH (by omega),apJ,aoQ h2];rfl
   ·rw[anA (by omega),aoC (by simp;omega),aoC (by omega)]
  ·by_cases h2:off+1<=i/\i<off+1+r.length/\i<cs.length
   ·rw[anH h2,anH (by omega),show i-off=(i-(off+1))+1 by omega,anP]
   ·rw[anA h2,anA (by omega),aoK (aoO h1)]
theorem Mr{l l' cs:List SV}{off off':Nat}(h:off+l.length<=off'\/off'+l'.length<=off):qm (qm cs off l) off' l'=qm (qm cs off' l') off l:=by
 refine aoR λi=>?_;grind [EH,yk]
theorem FK{x:SV}:∀{l cs:List SV} {off:Nat},x∈qm cs off l->x∈cs\/x∈l
 |[],_,_,h=>.inl h
 |s::r,cs,off,h=>by
  rcases FK (l:=r) h with h1|h1
  ·rcases List.mem_or_eq_of_mem_set h1 with h2|h2
   ·exact .inl h2
   ·subst h2;exact .inr (by simp)
  ·exact .inr (by simp[h1])
def ovI(s:AlS):Item->Item
 |.box bt cells=>.box bt (qm cells s.off s.l)
 |it=>it
theorem pU(s:AlS)(H:List Item)(k:Nat):(stP s H)[k]?=if k=s.j then H[k]?.map (ovI s)else H[k]?:=by
 unfold stP;split
 ·rename_i bt cells hb;by_cases h:k=s.j
  ·subst h;rw[anH rfl,hb,aoQ (ano.1 hb).1];rfl
  grind
 ·rename_i hb;by_cases h:k=s.j
  ·subst h;rw[anH rfl];cases hh:H[s.j]? with
   |none=>rfl
   |some it=>
    cases it with
    |box bt cells=>exact absurd hh (hb bt cells)
    |row=>rfl
    |gone=>rfl
  ·rw[anA h]
theorem JQ(s:AlS)(H:List Item):(stP s H).length=H.length:=by grind [stP]
theorem Xj{s:AlS}{H:List Item}{k:Nat}{it:Item}(h:s.j≠k):stP s (H.set k it)=(stP s H).set k it:=by
 refine aoR λi=>?_;grind [pU,JQ]
theorem wA{s p:AlS}(h:GQ s p=true):s.i≠p.i/\(s.j≠p.j\/s.off+s.l.length<=p.off\/p.off+p.l.length<=s.off):=by
 simp only[GQ,ang,apn]at h;obtain⟨h1,h2⟩:=h;refine⟨λe=>(by rw[e,apM]at h1;cases h1),?_⟩;rcases h2 with(h2|h2)|h2
 ·grind [apM]
 ·simp_all
 simp_all
theorem N9{s p:AlS}(h:GQ s p=true)(H:List Item):stP s (stP p H)=stP p (stP s H):=by
 obtain⟨_,h⟩:=wA h;refine aoR λk=>?_;rw[pU,pU,pU,pU];by_cases h1:k=s.j
 ·subst h1;rw[anH rfl];by_cases h2:s.j=p.j
  ·rw[anH h2,anH h2,anH rfl];cases hh:H[s.j]? with
   |none=>rfl
   |some it=>
    cases it with
    |box bt cells=>
     simp only[aoi,ovI];rw[Mr (by rcases h with h|h|h;exact absurd h2 h;exact .inr h;exact .inl h)]
    |row=>rfl
    |gone=>rfl
  ·rw[anA h2,anA h2,anH rfl]
 grind
theorem vD{f:Nat->Bool}{H:List Item}:∀{ss:List AlS},(cM f ss H).length=H.length
 |[]=>rfl
 |s::r=>by
  simp only[cM];split
  ·rw[JQ];exact vD
  ·exact vD
theorem zI{f:Nat->Bool}{H:List Item}{k:Nat}{it:Item}:∀{ss:List AlS},(∀s∈ss,f s.i=true->s.j≠k)->cM f ss (H.set k it)=(cM f ss H).set k it
 |[],_=>rfl
 |s::r,h=>by
  have ih:=zI (f:=f) (H:=H) (k:=k) (it:=it) (ss:=r) λs hs=>h s (by simp[hs]);simp only[cM];split
  ·rename_i h1;rw[ih,Xj (h s (by simp) h1)]
  ·exact ih
theorem lK{f g:Nat->Bool}{H:List Item}:∀{ss:List AlS},(∀s∈ss,f s.i=g s.i)->cM f ss H=cM g ss H
 |[],_=>rfl
 |s::r,h=>by
  simp only[cM];rw[h s (by simp),lK (ss:=r) λs hs=>h s (by simp[hs])]
theorem rD{f:Nat->Bool}{H:List Item}:∀{ss:List AlS},(∀s∈ss,f s.i=false)->cM f ss H=H
 |[],_=>rfl
 |s::r,h=>by
  simp only[cM];rw[h s (by simp)];exact rD (ss:=r) λs hs=>h s (by simp[hs])
theorem KH{f g:Nat->Bool}{H:List Item}{s:AlS}(hg:∀k,g k=if k=s.i then true else f k)(hf:f s.i=false):∀{ss:List AlS},ss.Pairwise (λs p=>GQ s p=true)->s∈ss->cM g ss H=stP s (cM f ss H)
 |[],_,hs=>by cases hs
 |p::r,hp,hs=>by
  obtain⟨h1,h2⟩:=anF.1 hp;simp only[cM];rcases anr.1 hs with e|hs
  ·subst e;rw[hg s.i,anH rfl,hf];dsimp only;rw[lK (f:=g) (g:=f) (ss:=r) λq hq=>by rw[hg,anA (aoO (wA (h1 q hq)).1)]]
  ·have hne:=(wA (h1 s hs)).1;have ih:=KH (H:=H) hg hf h2 hs;rw[hg p.i,anA hne,ih];split
   ·exact N9 (h1 s hs) _
   ·rfl
theorem FO{f:Nat->Bool}{H:List Item}{k bt:Nat}{cells:List SV}(h:H[k]?=some (.box bt cells)):∀{ss:List AlS},∃cells',(cM f ss H)[k]?=some (.box bt cells')/\cells'.length=cells.length
 |[]=>⟨cells,h,rfl⟩
 |s::r=>by
  obtain⟨c',h1,h2⟩:=FO (f:=f) h (ss:=r);simp only[cM];split
  ·rw[pU,h1];split
   ·exact⟨_,rfl,by rw[yk,h2]⟩
   ·exact⟨c',rfl,h2⟩
  ·exact⟨c',h1,h2⟩
def nW(h0:Nat)(H:List Item):Prop:=∀(k:Nat) (t:TypeId) (cs:List SV),H[k]?=some (.box t cs)->∀s∈cs,s.refs h0=true
theorem Et{h0:Nat}{f:Nat->Bool}{H:List Item}(hH:nW h0 H):∀{ss:List AlS},(∀s∈ss,∀x∈s.l,x.refs h0=true)->nW h0 (cM f ss H)
 |[],_=>hH
 |s::r,h=>by
  have ih:=Et (f:=f) hH (ss:=r) λs hs=>h s (by simp[hs]);simp only[cM];split
  ·intro k t cs hk x hx;rw[pU]at hk;split at hk
   ·cases hh:(cM f r H)[k]? with
    |none=>rw[hh]at hk;cases hk
    |some it=>
     rw[hh]at hk;cases it with
     |box bt cells=>
      simp only[aoi,ovI,anl,Item.box.injEq]at hk;obtain⟨rfl,rfl⟩:=hk;rcases FK hx with h1|h1
      ·exact ih k _ _ hh x h1
      ·exact h s (by simp) x h1
     |row=>simp[ovI]at hk
     |gone=>simp[ovI]at hk
   ·exact ih k t cs hk x hx
  ·exact ih
theorem uV(f:Nat->Bool)(la:List AlA)(r:Nat):(alX f la)[r]?=la[r]?.map λa=>match f a.i with
  |true=>.box a.t a.cs
  |false=>.gone:=by grind [alX]
abbrev Dis(la:List AlA):Prop:=la.Pairwise λa b=>a.i≠b.i/\a.d≠b.d
theorem NC{la:List AlA}(h:Dis la){r k:Nat}{a b:AlA}(ha:la[r]?=some a)(hb:la[k]?=some b)(hne:k≠r):b.i≠a.i/\b.d≠a.d:=by grind [List.pairwise_iff_getElem]
theorem afA{f g:Nat->Bool}{la:List AlA}{r:Nat}{a:AlA}(hd:Dis la)(ha:la[r]?=some a)(hg:∀k,g k=if k=a.i then true else f k):alX g la=(alX f la).set r (.box a.t a.cs):=by
 refine aoR λk=>?_;rw[an2,uV];by_cases h:r=k
 ·grind [alX,aoV,ano,aoi]
 ·rw[anA h,uV];cases hk:la[k]? with
  |none=>rfl
  |some b=>
   simp only[aoi];rw[hg,anA (NC hd ha hk (aoO h)).1]
theorem HF{f g:Nat->Bool}{la:List AlA}{r:Nat}{a:AlA}{H0:List Item}(hd:Dis la)(ha:la[r]?=some a)(hg:∀k,g k=if k=a.i then true else f k):H0++alX g la=(H0++alX f la).set (H0.length+r) (.box a.t a.cs):=by
 rw[afA hd ha hg,List.set_append,anA (by omega),show H0.length+r-H0.length=r by omega]
theorem Uv{h0:Nat}{f:Nat->Bool}{la:List AlA}{H0:List Item}(hH:nW h0 H0)(hla:∀a∈la,∀x∈a.cs,x.refs h0=true):nW h0 (H0++alX f la):=by
 intro k t cs hk x hx;rcases anT k H0.length with h|h
 ·rw[anz h]at hk;exact hH k t cs hk x hx
 grind [uV]
theorem jI{f g:Nat->Bool}{t:Nat}:∀{la:List AlA} {k:Nat} {L M:SL},(∀a∈la,a.d=t->f a.i=g a.i)->aO L t=aO M t->aO (il f la k L) t=aO (il g la k M) t
 |[],_,_,_,_,h=>h
 |b::l,k,L,M,hl,h=>by
  simp only[il];refine jI (λa ha=>hl a (by simp[ha])) ?_;by_cases e:b.d=t
  ·rw[<-hl b (by simp) e];split
   ·rw[fe,fe,anH e.symm,anH e.symm]
   ·exact h
  ·have e':t≠b.d:=λh=>e h.symm;split<;>split<;>(try rw[fe,anA e'])<;>(try rw[fe,anA e'])<;>exact h
theorem Fb{f:Nat->Bool}{t:Nat}:∀{la:List AlA} {k:Nat} {L:SL},(∀a∈la,a.d≠t)->aO (il f la k L) t=aO L t
 |[],_,_,_=>rfl
 |b::l,k,L,h=>by
  simp only[il];rw[Fb λa ha=>h a (by simp[ha])];split
  ·rw[fe,anA (λe=>h b (by simp) e.symm)]
  ·rfl
theorem Dm{f g:Nat->Bool}{a:AlA}(hg:∀k,g k=if k=a.i then true else f k):∀{la:List AlA} {r k:Nat} {L:SL},Dis la->la[r]?=some a->∀t,aO (il g la k L) t=if t=a.d then some (.box (k+r) 0)else aO (il f la k L) t
 |[],r,_,_,_,h,_=>by simp at h
 |b::l,0,k,L,hd,h,t=>by
  simp only[aoc,anl]at h;subst h;obtain⟨h1,h2⟩:=anF.1 hd;simp only[il];rw[hg b.i,anH rfl];dsimp only;by_cases e:t=b.d
  ·subst e;rw[anH rfl,Fb λa ha=>aoO (h1 a ha).2,fe,anH rfl,ap7]
  ·rw[anA e];refine jI (λa ha _=>by rw[hg,anA (aoO (h1 a ha).1)]) ?_;rw[fe,anA e];split
   ·rw[fe,anA e]
   ·rfl
 |b::l,r+1,k,L,hd,h,t=>by
  obtain⟨h1,h2⟩:=anF.1 hd;rw[anP]at h;simp only[il];rw[hg b.i,anA (h1 a (aoq h)).1,Dm hg h2 h t,show k+1+r=k+(r+1) by omega]
theorem Ft{f:Nat->Bool}{t:Nat}{s:SV}:∀{la:List AlA} {k:Nat} {L:SL},aO (il f la k L) t=some s->(∃r a,la[r]?=some a/\t=a.d/\f a.i=true/\s=.box (k+r) 0)\/aO L t=some s
 |[],_,_,h=>.inr h
 |b::l,k,L,h=>by
  simp only[il]at h;rcases Ft h with⟨r,a,h1,h2,h3,h4⟩|h1
  ·exact .inl ⟨r+1,a,by rw[anP];exact h1,h2,h3,by rw[h4,show k+1+r=k+(r+1) by omega]⟩
  ·split at h1
   ·rename_i hb;rw[fe]at h1;split at h1
    ·rename_i e;injection h1 with h1;exact .inl ⟨0,b,rfl,e,hb,by rw[<-h1,ap7]⟩
    ·exact .inr h1
   ·exact .inr h1
theorem rg{T:TT}{N:Nat}:∀{lo:List Oper} {i0:Nat} {la:List AlA},alA T N lo i0=some la->
  (∀q o,lo[q]?=some o->bg o=true->∃(r:Nat) (a:AlA),la[r]?=some a/\a.i=i0+q/\o.dst=some a.d/\a.d<N/\∃x,o.op=.alloc a.t/\dR T a.t=some x/\x.z=true/\(∀p q,x.ty≠.pair p q)/\a.cs=x.ty.zsplit)/\
  (∀a∈la,i0<=a.i/\∃o,lo[a.i-i0]?=some o/\bg o=true/\∃x,a.cs=Ty.zsplit x)/\Dis la
 |[],_,_,h=>by
  simp only[alA,anl]at h;subst h;exact⟨λq o h=>(by simp at h),λa h=>(by cases h),List.Pairwise.nil⟩
 |o::r,i,la,h=>by
  simp only[alA]at h
  have sub:∀{la:List AlA},(∀a∈la,i+1<=a.i/\∃o,r[a.i-(i+1)]?=some o/\bg o=true/\∃x,a.cs=Ty.zsplit x)->∀a∈la,i<=a.i/\∃o',(o::r)[a.i-i]?=some o'/\bg o'=true/\∃x,a.cs=Ty.zsplit x:=λh a ha=>by
   obtain⟨h1,o',h2,h3⟩:=h a ha;exact⟨by omega,o',by rw[show a.i-i=(a.i-(i+1))+1 by omega,anP];exact h2,h3⟩
  split at h
  ·rename_i hal;obtain⟨h1,h2,h3⟩:=rg h;refine⟨λq o' hq ho=>?_,sub h2,h3⟩;cases q with
   |zero=>simp only[aoc,anl]at hq;subst hq;rw[hal]at ho;cases ho
   |succ q=>
    rw[anP]at hq;obtain⟨r',a,k1,k2,k3⟩:=h1 q o' hq ho;exact⟨r',a,k1,by omega,k3⟩
  ·rename_i hal;split at h<;>try (cases h;done)
   rename_i t d hop hdst;split at h<;>try (cases h;done)
   rename_i x l hx hd hl;split at h<;>try (cases h;done)
   rename_i hz hne;split at h<;>try (cases h;done)
   rename_i hall;injection h with h;subst h;obtain⟨h1,h2,h3⟩:=rg hl;refine⟨λq o' hq ho=>?_,λa ha=>?_,anF.2 ⟨λb hb=>?_,h3⟩⟩
   ·cases q with
    |zero=>
     simp only[aoc,anl]at hq;subst hq;exact⟨0,_,rfl,rfl,hdst,anj hd,x,hop,hx,hz,λp q e=>hne _ _ e,rfl⟩
    |succ q=>
     rw[anP]at hq;obtain⟨r',a,k1,k2,k3⟩:=h1 q o' hq ho;exact⟨r'+1,a,by rw[anP];exact k1,by omega,k3⟩
   ·rcases anr.1 ha with e|ha
    ·subst e;exact⟨ani _,o,by simp,hal,x.ty,rfl⟩
    ·exact sub h2 a ha
   ·have:=anB.1 hall b hb;simp only[ang,ao8]at this;exact⟨λe=>(by have:=this.1;simp only at e;rw[e,apM]at this;cases this),λe=>(by have:=this.2;simp only at e;rw[e,apM]at this;cases this)⟩
def Wb(T:TT)(ops:Array Oper)(la:List AlA)(h0:Nat)(La:SL)(Ha:List Item)(s:AlS)(o:Oper):Prop:=
 ∃t x v sv y bt cells,o.op=.store t x v/\o.guard=none/\o.dst=none/\opS La x=some (.box s.j s.off)/\opS La v=some sv/\dR T t=some y/\ie [] sv=some s.l/\Ha[s.j]?=some (.box bt cells)/\s.l.length=y.ty.n/\s.off+s.l.length<=cells.length/\
  (∀z∈s.l,z.refs h0=true)/\(∀a∈la,(Mw x a.d||Mw v a.d)=true->iM ops 4 s.i a.i=true)/\Hq ops s.i s.j la h0=true
theorem oA{T:TT}{E:Env}{ops:Array Oper}{l:Array Bool}{la:List AlA}{h0:Nat}{La:SL}{Ha:List Item}:∀{lo:List Oper} {i0:Nat} {ss:List AlS},alS T E ops l la h0 La Ha lo i0=some ss->
  (∀q o,lo[q]?=some o->l.getD (i0+q) true=false->bg o=false->gG E o=false->∃s∈ss,s.i=i0+q)/\
  (∀s∈ss,i0<=s.i/\l.getD s.i true=false/\∃o,lo[s.i-i0]?=some o/\bg o=false/\Wb T ops la h0 La Ha s o)/\ss.Pairwise (λs p=>GQ s p=true)
 |[],_,_,h=>by
  simp only[alS,anl]at h;subst h;exact⟨λq o h=>(by simp at h),λa h=>(by cases h),List.Pairwise.nil⟩
 |o::r,i,ss,h=>by
  simp only[alS]at h
  have sub:∀{ss:List AlS},(∀s∈ss,i+1<=s.i/\l.getD s.i true=false/\∃o,r[s.i-(i+1)]?=some o/\bg o=false/\Wb T ops la h0 La Ha s o)->∀s∈ss,i<=s.i/\l.getD s.i true=false/\∃o',(o::r)[s.i-i]?=some o'/\bg o'=false/\Wb T ops la h0 La Ha s o':=λh a ha=>by
   obtain⟨h1,h1',o',h2,h3⟩:=h a ha;exact⟨by omega,h1',o',by rw[show a.i-i=(a.i-(i+1))+1 by omega,anP];exact h2,h3⟩
  split at h
  ·rename_i hal;obtain⟨h1,h2,h3⟩:=oA h;refine⟨λq o' hq hu ho ht=>?_,sub h2,h3⟩;cases q with
   |zero=>
    simp only[aoc,anl]at hq;subst hq;rw[show i+0=i from rfl]at hu;rw[hu,ho,ht]at hal;cases hal
   |succ q=>
    rw[anP]at hq;obtain⟨s,k1,k2⟩:=h1 q o' hq (by rw[show i+1+q=i+(q+1) by omega];exact hu) ho ht;exact⟨s,k1,by omega⟩
  ·rename_i hal;simp only[ap2]at hal;split at h<;>try (cases h;done)
   rename_i t x v hop;split at h<;>try (cases h;done)
   rename_i j off sv y hg hdst hx hv hy;split at h<;>try (cases h;done)
   rename_i cs bt cells ss' hcs hH hss;split at h<;>try (cases h;done)
   rename_i hall;injection h with h;subst h;simp only[ang]at hall;obtain⟨⟨⟨⟨⟨c1,c2⟩,c3⟩,c4⟩,c5⟩,c6⟩:=hall;obtain⟨h1,h2,h3⟩:=oA hss;refine⟨λq o' hq hu ho ht=>?_,λs hs=>?_,anF.2 ⟨λp hp=>anB.1 c6 p hp,h3⟩⟩
   ·cases q with
    |zero=>exact⟨_,List.mem_cons_self ..,rfl⟩
    |succ q=>
     rw[anP]at hq;obtain⟨s,k1,k2⟩:=h1 q o' hq (by rw[show i+1+q=i+(q+1) by omega];exact hu) ho ht;exact⟨s,by simp[k1],by omega⟩
   ·rcases anr.1 hs with e|hs
    ·subst e
     exact⟨ani _,hal.1.1,o,by simp,hal.1.2,t,x,v,sv,y,bt,cells,hop,hg,hdst,hx,hv,hy,hcs,hH,anh c1,anj c2,anB.1 c3,λa ha hw=>by
      have:=anB.1 c4 a ha;rw[hw]at this;simpa using this,c5⟩
    ·exact sub h2 s hs
theorem DI{ops:Array Oper}{i j:Nat}:∀{la:List AlA} {k r:Nat} {a:AlA},Hq ops i j la k=true->la[r]?=some a->j=k+r->iM ops 4 i a.i=true
 |[],_,_,_,_,h,_=>by simp at h
 |b::l,k,0,a,h,ha,hj=>by
  simp only[aoc,anl]at ha;subst ha;simp only[Hq,ang,apn,ao8]at h;rcases h.1 with h1|h1
  ·rw[hj,ap7,apM]at h1;cases h1
  ·exact h1
 |b::l,k,r+1,a,h,ha,hj=>by
  rw[anP]at ha;simp only[Hq,ang]at h;exact DI h.2 ha (by omega)
theorem kS{l:Array Bool}{k:Nat}(h:k<l.size):l.getD k false=l.getD k true:=by simp[h]
theorem Af{ops:Array Oper}{l':Array Bool}(hs:l'.size=ops.size):∀{C:List Nat} {l:Array Bool},HK ops l C=true->(∀k,l.getD k false=true->l'.getD k false=true)->(∃i∈C,l'.getD i true=false)->Region.ready .any ops l'≠[]
 |[],_,_,_,⟨_,h,_⟩=>by cases h
 |i::r,l,h,hsub,⟨k,hk,hu⟩=>by
  simp only[HK,ang]at h;obtain⟨h1,h2⟩:=h;split at h1<;>try (cases h1;done)
  rename_i o ho;have hlt:i<l'.size:=by rw[hs];exact(ant.1 ho).1
  cases hi:l'.getD i true with
  |false=>
   intro hr
   have:i∈Region.ready .any ops l':=aok.2 ⟨hi,o,ho,λe he hb=>by
    have:=anB.1 h1 e (Array.mem_toList_iff.2 he);rw[hb]at this;exact hsub _ (by simpa using this)⟩
   rw[hr]at this;cases this
  |true=>
   refine Af hs h2 (λq hq=>?_) ⟨k,(anr.1 hk).resolve_left λe=>(by subst e;rw[hi]at hu;cases hu),hu⟩;by_cases e:i=q
   ·subst e;rw[kS hlt];exact hi
   ·rw[apL false e]at hq;exact hsub q hq
def cu(l:Array Bool):Nat:=l.toList.countP λb=>!b
theorem Bg:∀(l:List Bool) (j:Nat),l[j]?=some false->(l.set j true).countP (λb=>!b)+1=l.countP (λb=>!b)
 |[],_,h=>by simp at h
 |b::l,0,h=>by
  simp only[aoc,anl]at h;subst h;simp
 |b::l,j+1,h=>by
  rw[anP]at h;have:=Bg l j h;rw[List.set_cons_succ];cases b<;>simp<;>omega
theorem Bl{l:Array Bool}{j:Nat}(h:l.getD j true=false):cu (l.setIfInBounds j true)+1=cu l:=by
 unfold cu;rw[Array.toList_setIfInBounds];refine Bg _ _ ?_;rcases anT j l.size with hlt|hge<;>simp_all
theorem V4{l:Array Bool}(h:cu l=0)(k:Nat):l.getD k true=true:=by
 rcases anT k l.size with hlt|hge
 ·have:=List.countP_eq_zero.1 h l[k] (by simp);simp_all
 grind
theorem HT(n:Nat):cu (mkL n [])=n:=by simp[cu,mkL,List.countP_replicate]
section
def Old(w w':World):Prop:=w.heap.size<=w'.heap.size/\∀b,b<w.heap.size->w'.heap[b]?=w.heap[b]?
theorem Old.refl(w:World):Old w w:=⟨ani _,λ_ _=>rfl⟩
theorem Fz{G G':List Value}{A A':Nat->Prop}{w w':World}{h0:Nat}(hk:Keeps A A' w w'){s:SV}{v:Value}(h:Rel1 G A w s v)(hs:s.refs h0=true)(hG:∀j g,j<h0->G[j]?=some g->G'[j]?=some g):Rel1 G' A' w' s v:=by
 have lt:∀{j:Nat},Nat.ble (j+1) h0=true->j<h0:=λh=>anj h;cases s with
 |d t x=>obtain⟨cs,h1,h2⟩:=h;exact⟨cs,Ty.rd_keep hk h1,h2⟩
 |nil=>exact h
 |box j off=>obtain⟨b,h1,h2⟩:=h;exact⟨b,hG j _ (lt hs) h1,h2⟩
 |elt e x off=>
  obtain⟨b,o,cs,h1,h2,h3,h4,h5⟩:=h;exact⟨b,o,cs,h1,hk.sub b h3 h2,aoZ h3 hk.size,Ty.rd_keep hk h4,hk.cells h3 h2 h5⟩
 |own j=>exact hG j v (lt hs) h
 |oelt j sz i off=>obtain⟨b,n,c,h1,h2⟩:=h;exact⟨b,n,c,hG j _ (lt hs) h1,h2⟩
 |clo f caps=>
  obtain⟨bs,h1,h2⟩:=h;refine⟨bs,?_,h2⟩;simp only[SV.refs]at hs;clear h2;induction caps generalizing bs with
  |nil=>cases bs<;>exact h1
  |cons c caps ih=>
   match bs,h1 with
   |b::bs,⟨q1,q2⟩=>
    simp only[apY,ang]at hs;exact⟨hG c _ (lt hs.1) q1,ih hs.2 bs q2⟩
 |tup l=>exact h.elim
 |undef=>exact h
 |dead=>trivial
 |cut e xs=>obtain⟨p,h1,h2⟩:=h;exact⟨p,Ty.rd_keep hk h1,h2⟩
 |osl j sz lo n=>obtain⟨g,q,c,h1,h2⟩:=h;exact⟨g,q,c,hG j _ (lt hs) h1,h2⟩
theorem Lh{G G':List Value}{A A':Nat->Prop}{w w':World}{h0:Nat}(hk:∀s v,s.refs h0=true->Rel1 G A w s v->Rel1 G' A' w' s v){s:SV}{v:Value}(h:Rel G A w s v)(hs:s.refsT h0=true):Rel G' A' w' s v:=by
 cases s with
 |tup l=>
  obtain⟨vs,h1,h2⟩:=h;refine⟨vs,h1,?_⟩;clear h1;induction l generalizing vs with
  |nil=>cases vs<;>exact h2
  |cons s l ih=>
   simp only[SV.refsT,apY,ang]at hs;match vs,h2 with
   |v::vs,⟨g1,g2⟩=>exact⟨hk s v hs.1 g1,ih hs.2 vs g2⟩
 |_=>rw[ut (λl e=>by cases e)]at hs;exact fv (hk _ _ hs (pn h (λl e=>by cases e)))
section
variable {Z:Nat->Prop} {w0:World} {H:List Item} {G:List Value} {w:World}
theorem u6(hr:SR Z w0 H G w):nW H.length H:=by
 intro k t cs hk x hx;have hlt:k<G.length:=by rw[hr.len];exact(ano.1 hk).1
 obtain⟨b,vs,_,_,_,h4⟩:=hr.items k _ _ hk (anc hlt);obtain⟨i,hi,rfl⟩:=apv hx;obtain⟨v,_,hv⟩:=jK h4 i _ (anc hi);grind [uv]
theorem Xl{it:Item}{g:Value}{h0 k:Nat}(hr:SR Z w0 (H++[it]) (G++[g]) w)(hl:G.length=H.length)(hk:H[k]?=some .gone)(h0k:h0<=k)(hlow:nW h0 (H++[it])):
  SR Z w0 (H.set k it) (G.set k g) w/\(∀b,Av Z (H++[it]) (G++[g]) b↔Av Z (H.set k it) (G.set k g) b):=by
 have hkl:=(ano.1 hk).1
 have a1:∀{j:Nat} {x:Item},j≠k->(H.set k it)[j]?=some x->j<H.length/\(H++[it])[j]?=some x:=λ{j x} hj h=>by
  rw[aoK (aoO hj)]at h;have:=(ano.1 h).1;exact⟨this,by rw[anz this];exact h⟩
 have a2:∀{j:Nat} {x:Value},j≠k->(G.set k g)[j]?=some x->(G++[g])[j]?=some x:=λ{j x} hj h=>by
  rw[aoK (aoO hj)]at h;rw[anz (ano.1 h).1];exact h
 have b1:(H.set k it)[k]?=some it:=aoQ hkl;have b2:(G.set k g)[k]?=some g:=aoQ (by omega);have c1:(H++[it])[H.length]?=some it:=by rw[anQ (ani _),apJ];rfl
 have c2:(G++[g])[H.length]?=some g:=by rw[anQ (by omega),hl,apJ];rfl
 have d1:∀{j:Nat} {x:Item},(H++[it])[j]?=some x->(j<H.length/\H[j]?=some x)\/(j=H.length/\x=it):=λ{j x} h=>by
  rcases anT j H.length with hlt|hge
  ·rw[anz hlt]at h;exact .inl ⟨hlt,h⟩
  ·rw[anQ hge]at h
   have hj:j-H.length=0:=by
    rcases an5 (j-H.length)with h0|h0
    ·exact h0
    ·rw[aoC (by simp;omega)]at h;cases h
   rw[hj]at h;simp only[aoc,anl]at h;exact .inr ⟨by omega,h.symm⟩
 have hav:∀b,Av Z (H++[it]) (G++[g]) b↔Av Z (H.set k it) (G.set k g) b:=by
  refine λb=>⟨λh=>⟨h.1,λj x y hx hlv hy=>?_⟩,λh=>⟨h.1,λj x y hx hlv hy=>?_⟩⟩
  ·by_cases hj:j=k
   ·subst hj;rw[b1]at hx;rw[b2]at hy;injection hx with hx;injection hy with hy;subst hx hy;exact h.2 _ _ _ c1 hlv c2
   ·exact h.2 j x y (a1 hj hx).2 hlv (a2 hj hy)
  ·rcases d1 hx with⟨h1,h2⟩|⟨h1,h2⟩
   ·have hj:j≠k:=λe=>by subst e;rw[hk]at h2;injection h2 with h2;subst h2;cases hlv
    refine h.2 j x y (by rw[aoK (aoO hj)];exact h2) hlv ?_;rw[anz (by omega)]at hy;rw[aoK (aoO hj)];exact hy
   ·subst h1 h2;rw[c2]at hy;injection hy with hy;subst hy;exact h.2 k _ _ b1 hlv b2
 have hkp:Keeps (Av Z (H++[it]) (G++[g])) (Av Z (H.set k it) (G.set k g)) w w:=⟨ani _,λb _ h=>(hav b).1 h,λ_ _ _=>rfl⟩
 have hG:∀j x,j<h0->(G++[g])[j]?=some x->(G.set k g)[j]?=some x:=λj x hj h=>by
  rw[anz (by omega)]at h;rw[aoK (by omega)];exact h
 have hit:∀{j:Nat} {x:Item} {y:Value},(H++[it])[j]?=some x->ItemRel w0.heap.size (G++[g]) (Av Z (H++[it]) (G++[g])) w x y->ItemRel w0.heap.size (G.set k g) (Av Z (H.set k it) (G.set k g)) w x y:=by
  intro j x y hx h;cases x with
  |box t cs=>
   obtain⟨b,vs,e1,e2,e3,e4⟩:=h;refine⟨b,vs,e1,e2,e3,?_⟩;have hc:=hlow j t cs hx;clear e1 e3 hx;induction cs generalizing vs with
   |nil=>cases vs<;>exact e4
   |cons s l ih=>
    match vs,e4 with
    |v::vs,⟨q1,q2⟩=>exact⟨Fz hkp q1 (hc s (by simp)) hG,ih vs q2 (λs hs=>hc s (by simp[hs]))⟩
  |row et e xs=>
   obtain⟨css,e1,e2,e3⟩:=h;exact⟨css,e1,bS (λ_ _ h=>Ty.rd_keep hkp h) e2,e3⟩
  |gone=>trivial
 refine⟨⟨by simp[hl],hr.below,λj x y hx hy=>?_,λi j x y gx gy b hij hx hy hlx hly hgx hgy hb=>?_,hr.zf⟩,hav⟩
 ·by_cases hj:j=k
  ·subst hj;rw[b1]at hx;rw[b2]at hy;injection hx with hx;injection hy with hy;subst hx hy;exact hit c1 (hr.items _ _ _ c1 c2)
  ·exact hit (a1 hj hx).2 (hr.items j x y (a1 hj hx).2 (a2 hj hy))
 ·have key:∀{j:Nat} {x:Item} {y:Value},(H.set k it)[j]?=some x->(G.set k g)[j]?=some y->∃j',(j'=if j=k then H.length else j)/\(H++[it])[j']?=some x/\(G++[g])[j']?=some y:=by
   intro j x y hx hy;by_cases hj:j=k
   ·subst hj;rw[b1]at hx;rw[b2]at hy;injection hx with hx;injection hy with hy;subst hx hy;exact⟨_,rfl,by rw[anH rfl];exact c1,by rw[anH rfl];exact c2⟩
   ·exact⟨_,rfl,by rw[anA hj];exact(a1 hj hx).2,by rw[anA hj];exact a2 hj hy⟩
  obtain⟨i',ei,i1,i2⟩:=key hx hgx;obtain⟨j',ej,j1,j2⟩:=key hy hgy;refine hr.disj i' j' x y gx gy b ?_ i1 j1 hlx hly i2 j2 hb;rw[ei,ej];by_cases h1:i=k
  ·by_cases h2:j=k
   ·omega
   ·rw[anH h1,anA h2];have:=(a1 h2 hy).1;omega
  ·by_cases h2:j=k
   ·rw[anA h1,anH h2];have:=(a1 h1 hx).1;omega
   ·rw[anA h1,anA h2];exact hij
theorem SA(hr:SR Z w0 H G w){h0 k:Nat}(hk:H[k]?=some .gone)(h0k:h0<=k)(hlow:nW h0 H){t:TypeId}{cs:List SV}{vs:Array Value}(hz:∀s∈cs,s.refs h0=true)(hcs:cp (Rel1 G (Av Z H G) w) cs vs.toList):
  ∃G',SR Z w0 (H.set k (.box t cs)) G' (w.alloc (.cells vs t))/\(∀s v,s.refs h0=true->Rel1 G (Av Z H G) w s v->Rel1 G' (Av Z (H.set k (.box t cs)) G') (w.alloc (.cells vs t)) s v)/\
   (∀j off v,j≠k->Rel1 G (Av Z H G) w (.box j off) v->Rel1 G' (Av Z (H.set k (.box t cs)) G') (w.alloc (.cells vs t)) (.box j off) v)/\
   Rel1 G' (Av Z (H.set k (.box t cs)) G') (w.alloc (.cells vs t)) (.box k 0) (.pointer (some ⟨w.heap.size,0,none⟩)):=by
 have hb:=kq w (.cells vs t);have hg:∀b,bV (.pointer (some ⟨w.heap.size,0,none⟩))=some b->w.heap.size<=b:=λb h=>by simp[bV]at h;omega
 have hst:=oO (it:=.box t cs) hr hb hg;have hsr:=DW (it:=.box t cs) hr hb hg ⟨w.heap.size,vs.toList,rfl,hr.below.size,Blk.new w t vs,bS (λs v h=>dV hr hst h) hcs⟩;have hkl:=(ano.1 hk).1;have hl:=hr.len
 obtain⟨m1,m2⟩:=Xl hsr hl hk h0k (by
  intro j u cs' hj x hx;rcases anT j H.length with hlt|hge
  ·rw[anz hlt]at hj;exact hlow j u cs' hj x hx
  ·rw[anQ hge]at hj;have hj':=aoq hj;simp only[aot,Item.box.injEq]at hj';obtain⟨rfl,rfl⟩:=hj';exact hz x hx)
 have hkp:Keeps (Av Z (H++[.box t cs]) (G++[.pointer (some ⟨w.heap.size,0,none⟩)])) (Av Z (H.set k (.box t cs)) (G.set k (.pointer (some ⟨w.heap.size,0,none⟩)))) (w.alloc (.cells vs t)) (w.alloc (.cells vs t)):=⟨ani _,λb _ h=>(m2 b).1 h,λ_ _ _=>rfl⟩
 refine⟨_,m1,λs v hs h=>Fz hkp (dV hr hst h) hs λj x hj h=>?_,λj off v hj h=>?_,⟨_,aoQ (by omega),rfl⟩⟩
 ·grind
 ·obtain⟨b,h1,h2⟩:=h;exact⟨b,by rw[aoK (aoO hj)];exact h1,h2⟩
theorem zq{n:Nat}{L:SL}{a:Act}(f:Nat->Bool):∀{la:List AlA} {H:List Item} {G:List Value},(∀x∈la,f x.i=false)->SR Z w0 H G w->FR Z n L H G w a->∃G',SR Z w0 (H++alX f la) G' w/\FR Z n L (H++alX f la) G' w a/\(∀s v,Rel1 G (Av Z H G) w s v->Rel1 G' (Av Z (H++alX f la) G') w s v)
 |[],H,G,_,hr,hf=>by
  refine⟨G,?_⟩;rw[show alX f []=[] from rfl,anM];exact⟨hr,hf,λ_ _ h=>h⟩
 |x::la,H,G,hx,hr,hf=>by
  have hg:∀b,bV undef=some b->w.heap.size<=b:=λb h=>by simp[bV,undef]at h
  have hst:=oO (it:=.gone) (g:=undef) hr (aqk _ _) hg;have h1:=DW (it:=.gone) (g:=undef) hr (aqk _ _) hg trivial;obtain⟨G',k1,k2,k3⟩:=zq f (la:=la) (λy hy=>hx y (by simp[hy])) h1 (hf.keep λs v h=>dV hr hst h)
  have e:H++alX f (x::la)=(H++[.gone])++alX f la:=by
   rw[show alX f (x::la)=(match f x.i with|true=>.box x.t x.cs|false=>.gone)::alX f la from rfl,hx x (by simp)];simp
  rw[e];exact⟨G',k1,k2,λs v h=>k3 s v (dV hr hst h)⟩
end
theorem Am{h0:Nat}:∀{t:Ty},∀s∈t.zsplit,s.refs h0=true:=by
 intro t;induction t with
 |pair a b iha ihb=>
  grind [Ty.zsplit]
 |st a ih=>intro s hs;simp only[Ty.zsplit]at hs;exact ih s hs
 |_=>intro s hs;simp only[Ty.zsplit,aot]at hs;subst hs;rfl
end
section
theorem GL{H:List Item}{s:SV}{l:List SV}(h:ie [] s=some l):ie H s=some l:=by
 unfold ie at h ⊢;grind
def Az(h0:Nat)(la:List AlA)(f:Nat->Bool)(L:SL):Prop:=∀t s,aO L t=some s->s.refsT h0=true\/∃(r:Nat) (a:AlA),la[r]?=some a/\f a.i=true/\s=.box (h0+r) 0
theorem U2{h0:Nat}{la:List AlA}{f:Nat->Bool}{L:SL}(h:∀t s,aO L t=some s->s.refsT h0=true):Az h0 la f (il f la h0 L):=by
 intro t s hs;rcases Ft hs with⟨r,a,h1,_,h3,h4⟩|h1<;>grind
section
variable {P:Program} {T:TT} {E:Env} {ops:Array Oper} {Z:Nat->Prop} {w0:World} {N fl:Nat} {Q:Exit->Act->World->Prop} {X:List Item->List Value->World->Prop}
theorem tD{H:List Item}{G:List Value}{w:World}{a:Act}{L L':SL}{h0 r j:Nat}{la:List AlA}{x:AlA}{oj:Oper}{f:Nat->Bool}{K:Act->World->Prop}{Qx:Exit->Act->World->Prop}(hT:fK P T=true)(hoj:ops[j]?=some oj)(hal:bg oj=true)
  (hla:la[r]?=some x) (hdst:oj.dst=some x.d) (hd:x.d<N) (hop:oj.op=.alloc x.t) (hxx:∃y,dR T x.t=some y/\y.z=true/\(∀p q,y.ty≠.pair p q)/\x.cs=y.ty.zsplit) (_hD:Dis la) (hfx:f x.i=false)
  (hk:H[h0+r]?=some .gone) (hlow:nW h0 H) (hL:Az h0 la f L) (hfl:fl<=h0) (hr:SR Z w0 H G w) (hf:FR Z N L H G w a) (hx:X H G w) (hX:∀H G w H' G' w',X H G w->Ev Z fl H G w H' G' w'->X H' G' w') (hL':∀t,aO L' t=if t=x.d then some (.box (h0+r) 0)else aO L t)
  (hK:∀v G' w',Old w w'->SR Z w0 (H.set (h0+r) (.box x.t x.cs)) G' w'->FR Z N L' (H.set (h0+r) (.box x.t x.cs)) G' w' (a.put oj.dst v)->X (H.set (h0+r) (.box x.t x.cs)) G' w'->K (a.put oj.dst v) w'):wpOp P ops Qx j K a w:=by
 obtain⟨y,hy,hz,hne,hcs⟩:=hxx
 have hg:oj.guard=none:=by
  unfold bg at hal;rw[hop]at hal;cases hq:oj.guard with
  |none=>rfl
  |some x=>rw[hq]at hal;simp at hal
 have hck:=aR hT hy;obtain⟨inf,hinf,hzero⟩:=Ap hck hz
 have hc:(mkV y.ty (zc y.ty)).cells.toList=zc y.ty:=lz (by
  generalize y.ty=ty at*
  cases ty<;>first|exact .inr rfl|exact .inl rfl|exact(hne _ _ rfl).elim)
 obtain⟨G',k1,k2,k3,k4⟩:=SA (t:=x.t) (cs:=x.cs) (vs:=(mkV y.ty (zc y.ty)).cells) hr hk (by omega) hlow (by rw[hcs];exact Am) (by rw[hcs,hc];exact lV)
 have hrun:(execOp a.eval oj).run P w=.ok (.value (.pointer (some ⟨w.heap.size,0,none⟩))) (w.alloc (.cells (mkV y.ty (zc y.ty)).cells x.t)):=by
  simp[execOp,hop,Instr.alloc,zeroValue,typeInfo,hinf,hzero,newVar,newRow]
 unfold wpOp;simp only[hoj];rw[anH (by simp[Region.wanted,hg])];refine .inl ?_;unfold Oper.wp;rw[hrun];refine hK _ G' _ ⟨(kq w (.cells (mkV y.ty (zc y.ty)).cells x.t)).size,λb hb=>(kq w (.cells (mkV y.ty (zc y.ty)).cells x.t)).block b hb⟩ k1 ?_ (hX _ _ _ _ _ _ hx λs v h hs=>k2 s v (rY hfl hs) h)
 have hf1:FR Z N L (H.set (h0+r) (.box x.t x.cs)) G' (w.alloc (.cells (mkV y.ty (zc y.ty)).cells x.t)) a:=by
  refine⟨hf.defers,hf.size,λt s hs=>?_⟩;obtain⟨v,h1,h2⟩:=hf.slot t s hs;refine⟨v,h1,?_⟩;rcases hL t s hs with h3|⟨r',b,h3,h4,rfl⟩
  ·exact Lh (λs v hs h=>k2 s v hs h) h2 h3
  ·refine k3 _ _ v (λe=>?_) h2;grind
 have hf2:=hf1.put (d:=oj.dst) (L':=(x.d,.box (h0+r) 0)::qb L x.d) (s:=.box (h0+r) 0) (v:=.pointer (some ⟨w.heap.size,0,none⟩)) (by
  rw[hdst];simp only[iC];rw[anJ (show x.d+1<=N from hd)]) k4
 exact⟨hf2.defers,hf2.size,λt s hs=>hf2.slot t s (by rw[fe,<-hL' t];exact hs)⟩
structure PlanOk (T:TT) (ops:Array Oper) (N:Nat) (H0:List Item) (la:List AlA) (ss:List AlS):Prop where
 dis:Dis la
 la2:∀a∈la,(∃o,ops[a.i]?=some o/\bg o=true)/\∀x∈a.cs,x.refs H0.length=true
 ss1:∀s∈ss,(∃o,ops[s.i]?=some o/\bg o=false/\o.dst=none)/\(∀x∈s.l,x.refs H0.length=true)/\Hq ops s.i s.j la H0.length=true/\∃bt cells,(H0++alX (λ_=>true) la)[s.j]?=some (.box bt cells)/\s.off+s.l.length<=cells.length
 far:ss.Pairwise (λs p=>GQ s p=true)
def sK(T:TT)(L:SL)(s:AlS)(o:Oper):Prop:=∃t x v sv y,o.op=.store t x v/\o.guard=none/\o.dst=none/\opS L x=some (.box s.j s.off)/\opS L v=some sv/\dR T t=some y/\ie [] sv=some s.l/\s.l.length=y.ty.n
theorem xY{l0:Array Bool}{H0:List Item}{La:SL}{la:List AlA}{ss:List AlS}(hA:alA T N ops.toList 0=some la)(hS:alS T E ops l0 la H0.length La (H0++alX (λ_=>true) la) ops.toList 0=some ss):PlanOk T ops N H0 la ss:=by
 obtain⟨a1,a2,a3⟩:=rg hA;obtain⟨s1,s2,s3⟩:=oA hS;refine⟨a3,λa ha=>?_,λs hs=>?_,s3⟩
 ·obtain⟨_,o,ho,hal,y,hy⟩:=a2 a ha;grind [Am]
 ·obtain⟨_,_,o,ho,hal,t,x,v,sv,y,bt,cells,q1,q2,q3,q4,q5,q6,q7,q8,q9,q10,q11,q12,q13⟩:=s2 s hs;grind
theorem JA{la:List AlA}(hA:alA T N ops.toList 0=some la):∀{j:Nat} {o:Oper},ops[j]?=some o->bg o=true->∃(r:Nat) (a:AlA),la[r]?=some a/\a.i=j/\o.dst=some a.d/\a.d<N/\∃x,o.op=.alloc a.t/\dR T a.t=some x/\x.z=true/\(∀p q,x.ty≠.pair p q)/\a.cs=x.ty.zsplit:=by
 intro j o ho hal;obtain⟨r,a,h1,h2,h3⟩:=(rg hA).1 j o (by rw[aoW];exact ho) hal;grind
theorem lY{l:Array Bool}{i j:Nat}(hcl:Clo ops l)(hj:∀os,ops[j]?=some os->∀e∈os.after,Region.binds .any e=true->l.getD e.on false=true)(h:iM ops 4 j i=true):l.getD i true=true:=by grind [vN]
section
variable {H0:List Item} {la:List AlA} {ss:List AlS} {l:Array Bool}
theorem PlanOk.wt(_hp:PlanOk T ops N H0 la ss)(hcl:Clo ops l)(_hl:l.size=ops.size){s:AlS}{i:Nat}(hs:dn l s.i=true)(_hm:s∈ss)(h:iM ops 4 s.i i=true):l.getD i true=true:=by exact lY hcl (λos hos e he hb=>hcl s.i os hos hs e he hb) h
theorem PlanOk.setA(hp:PlanOk T ops N H0 la ss)(hcl:Clo ops l)(hl:l.size=ops.size){r:Nat}{x:AlA}(h1:la[r]?=some x)(hju:l.getD x.i true=false):
  cM (dn (l.setIfInBounds x.i true)) ss (H0++alX (dn (l.setIfInBounds x.i true)) la)=(cM (dn l) ss (H0++alX (dn l) la)).set (H0.length+r) (.box x.t x.cs)/\(cM (dn l) ss (H0++alX (dn l) la))[H0.length+r]?=some .gone:=by
 have hup:=kx l x.i;obtain⟨⟨oj,hoj,hal⟩,_⟩:=hp.la2 x (aoq h1)
 have hne:∀s∈ss,dn l s.i=true->s.j≠H0.length+r:=λs hs hds e=>by
  have:=hp.wt hcl hl hds hs (DI (hp.ss1 s hs).2.2.1 h1 e);rw[hju]at this;cases this
 refine⟨?_,?_⟩
 ·rw[HF hp.dis h1 hup,lK (g:=dn l) λs hs=>?_,zI hne];rw[hup,anA];intro e;obtain⟨⟨o,ho,hal',_⟩,_⟩:=hp.ss1 s hs;rw[e,hoj]at ho;injection ho with ho;subst ho;rw[hal]at hal';cases hal'
 ·have h3:(H0++alX (dn l) la)[H0.length+r]?=some .gone:=by
   rw[anQ (by omega),show H0.length+r-H0.length=r by omega,uV,h1];simp only[aoi];rw[show dn l x.i=false from hju]
  have h4:H0++alX (dn l) la=(H0++alX (dn l) la).set (H0.length+r) .gone:=by
   refine aoR λk=>?_;grind
  rw[h4,zI hne,aoQ (by rw[vD];exact(ano.1 h3).1)]
theorem PlanOk.same(hp:PlanOk T ops N H0 la ss){j:Nat}{oj:Oper}(hoj:ops[j]?=some oj)(hal:bg oj=false):alX (dn (l.setIfInBounds j true)) la=alX (dn l) la/\∀a∈la,dn (l.setIfInBounds j true) a.i=dn l a.i:=by
 have h:∀a∈la,dn (l.setIfInBounds j true) a.i=dn l a.i:=λa ha=>by
  rw[kx,anA];obtain⟨⟨o',h1,h2⟩,_⟩:=hp.la2 a ha;grind
 grind [alX,List.map_congr_left]
theorem PlanOk.setS(hp:PlanOk T ops N H0 la ss){s:AlS}(hsm:s∈ss)(hju:l.getD s.i true=false):
  cM (dn (l.setIfInBounds s.i true)) ss (H0++alX (dn (l.setIfInBounds s.i true)) la)=stP s (cM (dn l) ss (H0++alX (dn l) la)):=by
 obtain⟨⟨o,ho,hal,_⟩,_⟩:=hp.ss1 s hsm;rw[(hp.same ho hal).1];exact KH (kx l s.i) hju hp.far hsm
theorem PlanOk.setT(hp:PlanOk T ops N H0 la ss){j:Nat}{oj:Oper}{d:Nat}(hoj:ops[j]?=some oj)(hal:bg oj=false)(hd:oj.dst=some d):
  cM (dn (l.setIfInBounds j true)) ss (H0++alX (dn (l.setIfInBounds j true)) la)=cM (dn l) ss (H0++alX (dn l) la):=by
 rw[(hp.same hoj hal).1];refine lK λs hs=>?_;rw[kx,anA];obtain⟨⟨o,ho,_,hdn⟩,_⟩:=hp.ss1 s hs;grind
theorem PlanOk.low(hp:PlanOk T ops N H0 la ss)(hlowH:nW H0.length H0):nW H0.length (cM (dn l) ss (H0++alX (dn l) la)):=
 Et (Uv hlowH λa ha=>(hp.la2 a ha).2) λs hs=>(hp.ss1 s hs).2.1
theorem PlanOk.box(hp:PlanOk T ops N H0 la ss)(hcl:Clo ops l){s:AlS}(hsm:s∈ss)(hj:∀os,ops[s.i]?=some os->∀e∈os.after,Region.binds .any e=true->l.getD e.on false=true):∃bt c',(cM (dn l) ss (H0++alX (dn l) la))[s.j]?=some (.box bt c')/\s.off+s.l.length<=c'.length:=by
 obtain⟨_,_,ht,bt,cells,q8,q10⟩:=hp.ss1 s hsm
 have:(H0++alX (dn l) la)[s.j]?=some (.box bt cells):=by
  rcases anT s.j H0.length with hlt|hge
  ·grind
  ·rw[anQ hge,uV]at q8 ⊢;cases hb:la[s.j-H0.length]? with
   |none=>rw[hb]at q8;cases q8
   |some b=>
    rw[hb]at q8;simp only[aoi]at q8 ⊢;rw[show dn l b.i=true from lY hcl hj (DI ht hb (by omega))];exact q8
 obtain⟨c',b1,b2⟩:=FO (f:=dn l) this (ss:=ss);grind
theorem uf{H:List Item}{G:List Value}{w:World}{a:Act}{L:SL}{s:AlS}{oj:Oper}{bt:Nat}{c':List SV}{K:Act->World->Prop}{Qx:Exit->Act->World->Prop}(hT:fK P T=true)(hE:mX P E)(hI:inv w0)(hoj:ops[s.i]?=some oj)(hst:sK T L s oj)(b1:H[s.j]?=some (.box bt c'))(b2:s.off+s.l.length<=c'.length)
  (hr:SR Z w0 H G w) (hf:FR Z N L H G w a) (hx:X H G w) (hX:∀H G w H' G' w',X H G w->Ev Z fl H G w H' G' w'->X H' G' w')
  (hK:∀G' w',SR Z w0 (stP s H) G' w'->FR Z N L (stP s H) G' w' a->X (stP s H) G' w'->K a w'):wpOp P ops Qx s.i K a w:=by
 obtain⟨t,x,v,sv,y,q1,q2,q3,q4,q5,q6,q7,q9⟩:=hst
 have hstP:stP s H=H.set s.j (.box bt (qm c' s.off s.l)):=by
  unfold stP;rw[b1]
 have heop:eop T E fl L H oj (λs H' L'=>some (s,H',L'))=some (.undef,stP s H,L):=by
  unfold eop;rw[q1];dsimp only;rw[q4,q5,q6];dsimp only;rw[b1,GL q7];dsimp only;rw[show Nat.beq s.l.length y.ty.n=true by rw[q9];exact apM _,anJ (show s.off+s.l.length<=c'.length by omega),hstP];rfl
 unfold wpOp;simp only[hoj];rw[anH (by simp[Region.wanted,q2])];refine .inl ?_;refine wr hT hE hI hr hf heop λs' H' L1 G' w' v' k1 k2 k3 k4 k5=>?_;injection k1 with k1;injection k1 with k1 k1';injection k1' with k1' k1'';subst k1 k1' k1'';rw[q3];exact hK G' w' k2 k3 (hX _ _ _ _ _ _ hx k5.ev)
end
theorem FS{l:Array Bool}{H0:List Item}{L0:SL}{la:List AlA}{s:AlS}{o:Oper}{Ha:List Item}(h:Wb T ops la H0.length (il (λ_=>true) la H0.length L0) Ha s o)(hcl:Clo ops l)(hj:∀os,ops[s.i]?=some os->∀e∈os.after,Region.binds .any e=true->l.getD e.on false=true):sK T (il (dn l) la H0.length L0) s o:=by
 obtain⟨t,x,v,sv,y,bt,cells,q1,q2,q3,q4,q5,q6,q7,q8,q9,q10,q11,q12,q13⟩:=h
 have hopd:∀{z:Operand} {sz:SV},(∀a∈la,Mw z a.d=true->iM ops 4 s.i a.i=true)->opS (il (λ_=>true) la H0.length L0) z=some sz->opS (il (dn l) la H0.length L0) z=some sz:=by
  intro z sz hw hz;cases z with
  |tmp u=>
   rw[<-hz];refine jI (λb hb e=>?_) rfl;exact lY hcl hj (hw b hb (by simp[Mw,e]))
  |_=>exact hz
 exact⟨t,x,v,sv,y,q1,q2,q3,hopd (λb hb h=>q12 b hb (by rw[h];rfl)) q4,hopd (λb hb h=>q12 b hb (by rw[h,Bool.or_true])) q5,q6,q7,q9⟩
set_option maxHeartbeats 1000000 in
theorem Vv{H0:List Item}{L0:SL}{l0:Array Bool}{la:List AlA}{ss:List AlS}(hT:fK P T=true)(hE:mX P E)(hI:inv w0)
  (hA:alA T N ops.toList 0=some la) (hS:alS T E ops l0 la H0.length (il (λ_=>true) la H0.length L0) (H0++alX (λ_=>true) la) ops.toList 0=some ss) (hD:HK ops l0 (la.map (·.i)++ss.map (·.i))=true) (hW:KQ E ops l0 (la.map (·.i)++ss.map (·.i))=true)
  (hlowH:nW H0.length H0) (hlowL:∀t s,aO L0 t=some s->s.refsT H0.length=true) (hfl:fl<=H0.length) (hl0:l0.size=ops.size)
  (hX:∀H G w H' G' w',X H G w->Ev Z fl H G w H' G' w'->X H' G' w')
  (hEnd:∀(n:Nat) (l:Array Bool) G w a,cu l<=n->l.size=ops.size->(∀k,l0.getD k false=true->l.getD k false=true)->(∀k∈la.map (·.i)++ss.map (·.i),l.getD k true=true)->(∀k,l.getD k true=true->l0.getD k true=true\/k∈la.map (·.i)++ss.map (·.i))->Clo ops l->SR Z w0 (cM (λ_=>true) ss (H0++alX (λ_=>true) la)) G w->FR Z N (il (λ_=>true) la H0.length L0) (cM (λ_=>true) ss (H0++alX (λ_=>true) la)) G w a->X (cM (λ_=>true) ss (H0++alX (λ_=>true) la)) G w->wpG P ops Q (λ_=>True) n l a w):
  ∀(n:Nat) (l:Array Bool),cu l<=n->l.size=ops.size->(∀k,l0.getD k false=true->l.getD k false=true)->(∀k,l.getD k true=true->l0.getD k true=true\/k∈la.map (·.i)++ss.map (·.i))->Clo ops l->∀(G:List Value) (w:World) (a:Act),
   SR Z w0 (cM (dn l) ss (H0++alX (dn l) la)) G w->FR Z N (il (dn l) la H0.length L0) (cM (dn l) ss (H0++alX (dn l) la)) G w a->X (cM (dn l) ss (H0++alX (dn l) la)) G w->wpG P ops Q (λ_=>True) n l a w:=by
 obtain⟨a1,a2,a3⟩:=rg hA;obtain⟨s1,s2,s3⟩:=oA hS;have hp:=xY hA hS
 have cov:∀{l:Array Bool},(∀k,l0.getD k false=true->l.getD k false=true)->∀{k:Nat} {o:Oper},ops[k]?=some o->l.getD k true=false->(∃(r:Nat) (x:AlA),la[r]?=some x/\x.i=k/\bg o=true)\/(∃s∈ss,s.i=k/\bg o=false)\/(gG E o=true/\l0.getD k true=false):=by
  intro l hsub k o ho hu;have hk:ops.toList[k]?=some o:=by rw[aoW];exact ho
  cases hal:bg o with
  |true=>
   obtain⟨r,x,h1,h2,_⟩:=a1 k o hk hal;exact .inl ⟨r,x,h1,by omega,rfl⟩
  |false=>
   right;have hlt:k<l0.size:=by rw[hl0];exact(ant.1 ho).1
   have h0:l0.getD (0+k) true=false:=by
    rw[anO];cases hq:l0.getD k true with
    |false=>rfl
    |true=>
     rw[<-kS hlt]at hq;have:=hsub k hq;rcases anT k l.size with h'|h'
     ·rw[kS h',hu]at this;cases this
     ·simp[aoP h']at hu
   cases ht:gG E o with
   |true=>rw[anO]at h0;exact .inr ⟨rfl,h0⟩
   |false=>
    obtain⟨s,h1,h2⟩:=s1 k o hk h0 hal ht;exact .inl ⟨s,h1,by omega,rfl⟩
 have fin:∀{n:Nat} {l:Array Bool},cu l<=n->l.size=ops.size->(∀k,l0.getD k false=true->l.getD k false=true)->(∀k,l.getD k true=true->l0.getD k true=true\/k∈la.map (·.i)++ss.map (·.i))->Clo ops l->(∀k∈la.map (·.i)++ss.map (·.i),l.getD k true=true)->∀{G:List Value} {w:World} {a:Act},SR Z w0 (cM (dn l) ss (H0++alX (dn l) la)) G w->FR Z N (il (dn l) la H0.length L0) (cM (dn l) ss (H0++alX (dn l) la)) G w a->X (cM (dn l) ss (H0++alX (dn l) la)) G w->wpG P ops Q (λ_=>True) n l a w:=by
  intro n l hcu hl hsub hin hcl hall G w a hr hf hx;have e1:∀x∈la,dn l x.i=true:=λx hx=>hall _ (aoL _ (ao5.2 ⟨x,hx,rfl⟩));have e2:∀s∈ss,dn l s.i=true:=λs hs=>hall _ (aph _ (ao5.2 ⟨s,hs,rfl⟩))
  have e3:alX (dn l) la=alX (λ_=>true) la:=by
   unfold alX;exact List.map_congr_left λx hx=>by rw[e1 x hx]
  have e4:cM (dn l) ss (H0++alX (dn l) la)=cM (λ_=>true) ss (H0++alX (λ_=>true) la):=by
   rw[e3];exact lK e2
  rw[e4]at hr hf hx;refine hEnd n l G w a hcu hl hsub hall hin hcl hr ⟨hf.defers,hf.size,λt s hs=>hf.slot t s ?_⟩ hx;rw[<-hs];exact jI (λx hx _=>e1 x hx) rfl
 intro n;induction n with
 |zero=>
  intro l hcu hl hsub hin hcl G w a hr hf hx;exact fin hcu hl hsub hin hcl (λk _=>V4 (l:=l) (by omega) k) hr hf hx
 |succ n ih=>
  intro l hcu hl hsub hin hcl G w a hr hf hx;by_cases hC:∀k∈la.map (·.i)++ss.map (·.i),l.getD k true=true
  ·exact fin hcu hl hsub hin hcl hC hr hf hx
  have hC':∃k∈la.map (·.i)++ss.map (·.i),l.getD k true=false:=by
   apply anv;intro hn;refine hC λk hk=>?_;cases hq:l.getD k true with
   |true=>rfl
   |false=>exact(hn ⟨k,hk,hq⟩).elim
  refine⟨λh=>(Af hl hD hsub hC' h).elim,λj hj=>?_⟩;obtain⟨hju,oj,hoj,hdep⟩:=aok.1 hj
  have hin':∀{i:Nat},i∈la.map (·.i)++ss.map (·.i)->∀k,(l.setIfInBounds i true).getD k true=true->l0.getD k true=true\/k∈la.map (·.i)++ss.map (·.i):=λ{i} hi k hk=>by
   have:=kx l i k;rw[show dn (l.setIfInBounds i true) k=true from hk]at this;by_cases e:k=i
   ·subst e;exact .inr hi
   ·rw[anA e]at this;exact hin k this.symm
  have hsub':∀k,l0.getD k false=true->(l.setIfInBounds j true).getD k false=true:=λk hk=>aqe (hsub k hk);have hcu':cu (l.setIfInBounds j true)<=n:=by have:=Bl hju;omega
  have hjr:∀os,ops[j]?=some os->∀e∈os.after,Region.binds .any e=true->l.getD e.on false=true:=λos hos e he hb=>by rw[hoj]at hos;injection hos with hos;subst hos;exact hdep e he hb
  rcases cov hsub hoj hju with⟨r,x,h1,h2,hal⟩|⟨s,hsm,h2,hal⟩|⟨ht,hu0⟩
  ·-- an allocation
   subst h2;obtain⟨r',x',g1,g2,g3,g4,y,g5,g6⟩:=JA hA hoj hal
   have e:r'=r:=by
    by_cases hh:r'=r
    ·exact hh
    ·exact absurd g2 (NC a3 h1 g1 hh).1
   subst e;rw[h1]at g1;injection g1 with g1;subst g1;obtain⟨hset,hgone⟩:=hp.setA hcl hl h1 hju;refine tD (L':=il (dn (l.setIfInBounds x.i true)) la H0.length L0) hT hoj hal h1 g3 g4 g5 ⟨y,g6⟩ a3 hju hgone (hp.low hlowH) (U2 hlowL) hfl hr hf hx hX (Dm (kx l x.i) a3 h1) λv G' w' _ k1 k2 k3=>⟨.inr trivial,?_⟩
   rw[<-hset]at k1 k2 k3;exact ih _ hcu' (by simpa using hl) hsub' (hin' (aoL _ (ao5.2 ⟨x,aoq h1,rfl⟩))) (hcl.set hj) G' w' _ k1 k2 k3
  ·-- a store
   subst h2;obtain⟨_,_,o,ho,_,hok⟩:=s2 s hsm;rw[Nat.sub_zero,aoW,hoj]at ho;injection ho with ho;subst ho;obtain⟨bt,c',b1,b2⟩:=hp.box hcl hsm hjr;refine uf (fl:=fl) hT hE hI hoj (FS hok hcl hjr) b1 b2 hr hf hx hX λG' w' k2 k3 k5=>⟨.inr trivial,?_⟩
   rw[<-hp.setS hsm hju]at k2 k3 k5;refine ih _ hcu' (by simpa using hl) hsub' (hin' (aph _ (ao5.2 ⟨s,hsm,rfl⟩))) (hcl.set hj) G' w' _ k2 ?_ k5;exact⟨k3.defers,k3.size,λu su hs=>k3.slot u su (by rw[<-jI (λx hx _=>(hp.same hoj hal).2 x hx) rfl];exact hs)⟩
  ·-- a tame one waits for all
   exfalso;obtain⟨k,hk,hku⟩:=hC';have hw:=anB.1 hW j (List.mem_range.2 (ant.1 hoj).1);unfold ff at hw;rw[hu0,hoj]at hw;dsimp only at hw;rw[ht]at hw;simp only[Bool.not_true,Bool.or_false,Bool.false_or]at hw;have:=lY hcl hjr (anB.1 hw k hk);rw[hku]at this;cases this
end
end
end Go.Proofs.YtagbmoohboleaaaGreat
end
