/- The pure machine and the machine: slots, loop heads, waiting calls. -/
import Derived.Test.YtagbmoohboleaaaGreatL3
noncomputable section
namespace Go.Proofs.YtagbmoohboleaaaGreat
open Go.RowKit Go.IntKind
theorem afF:type_of% @Classical.byContradiction:=@Classical.byContradiction
theorem afK:type_of% @List.pairwise_cons:=@List.pairwise_cons
theorem afP:type_of% @List.getElem?_cons_succ:=@List.getElem?_cons_succ
theorem agb:type_of% @List.getElem?_cons_zero:=@List.getElem?_cons_zero
theorem ago:type_of% @List.mem_singleton:=@List.mem_singleton
theorem ags:type_of% @List.mem_append_left:=@List.mem_append_left
theorem agE:type_of% @List.mem_map:=@List.mem_map
theorem agS:type_of% @List.length_map:=@List.length_map
theorem agX:type_of% @List.getElem?_set_ne:=@List.getElem?_set_ne
theorem ag2:type_of% @List.getElem?_set_self:=@List.getElem?_set_self
theorem ag8:type_of% @Array.getElem?_toList:=@Array.getElem?_toList
theorem ag9:type_of% @List.mem_append_right:=@List.mem_append_right
theorem ahz:type_of% @Bool.or_eq_false_iff:=@Bool.or_eq_false_iff
theorem ahF:type_of% @List.getElem_of_mem:=@List.getElem_of_mem
theorem ahV:type_of% @Nat.beq_refl:=@Nat.beq_refl
section
theorem zw{d:Nat}{L:SL}{t:Nat}{s:SV}(h:aJ (mW L d) t=some s):aJ L t=some s:=h
theorem gM{d:Nat}{x:SV}{L:SL}{t:Nat}{s:SV}(h:aJ ((d,x)::L) t=some s):(t=d/\s=x)\/(t≠d/\aJ L t=some s):=by
 simp only[aJ]at h;split at h
 ·simp_all
 ·refine .inr ⟨λe=>?_,h⟩;simp_all
theorem gP{L:SL}:∀{ts:List Nat} {t:Nat} {s:SV},aJ (gS L ts) t=some s->aJ L t=some s
 |[],_,_,h=>by simp[gS,aJ]at h
 |u::ts,t,s,h=>by
  simp only[gS]at h;split at h
  ·rename_i x hx;rcases gM h with⟨rfl,rfl⟩|⟨_,h1⟩
   ·exact hx
   ·exact gP h1
  ·exact gP h
theorem pC{N:NT}{f i:Nat}{L:SL}{t:Nat}{s:SV}(h:aJ (Em N f i L) t=some s):aJ L t=some s:=by
 unfold Em at h;split at h
 ·exact gP h
 omega
theorem wW{L:SL}:∀{ts:List Nat} {L':SL},CV L ts=some L'->∀t s,aJ L' t=some s->aJ L t=some s
 |[],L',h,t,s,hs=>by simp only[CV,afv]at h;subst h;simp[aJ]at hs
 |u::ts,L',h,t,s,hs=>by
  simp only[CV]at h;split at h<;>try (cases h;done)
  rename_i x r h1 h2;injection h with h;subst h;rcases gM hs with⟨rfl,rfl⟩|⟨_,h3⟩
  ·exact h1
  ·exact wW h2 t s h3
theorem yR:∀{L:SL} {t:Nat} {s:SV},aJ L t=some s->(t,s)∈L
 |[],_,_,h=>by simp[aJ]at h
 |(k,x)::r,t,s,h=>by
  rcases gM h with⟨rfl,rfl⟩|⟨_,h3⟩
  ·simp
  ·simp[yR h3]
theorem sH{k:Nat}{s:SV}(h:∀l,s≠.tup l):s.refsT k=s.refs k:=by cases s<;>first|rfl|exact(h _ rfl).elim
theorem xq{fl j:Nat}{s:SV}(h:s.refs fl=true)(ho:s.of1 j=true):j<fl:=by
 cases s<;>simp only[SV.of1,ahM]at ho
 ·have:=afq ho;subst this;exact aft h
 ·have:=afq ho;subst this;exact aft h
 ·have:=afq ho;subst this;exact aft h
section
variable {Z:Nat->Prop} {w0:World} {n:Nat} {L L':SL} {H H':List Item} {G G':List Value} {w w':World} {a:Act} {F:FT}
theorem FR.put{d:Option Nat}{s:SV}{v:Value}(h:FR Z n L H G w a)(hp:ge n L d s=some L')(hv:Rel G (Av Z H G) w s v):FR Z n L' H G w (a.put d v):=by
 cases d with
 |none=>simp only[ge,afv]at hp;subst hp;exact h
 |some d=>
  simp only[ge]at hp;split at hp<;>try (cases hp;done)
  rename_i hd;have hd:=aft hd;injection hp with hp;subst hp;refine⟨h.defers,by simp[Act.put,h.size],λt s' hs=>?_⟩;simp only[Act.put,Array.getElem?_setIfInBounds,h.size];rcases gM hs with⟨rfl,rfl⟩|⟨hne,h3⟩
  ·grind
  ·have h4:=zw h3;obtain⟨u,h5,h6⟩:=h.slot t s' h4;grind
theorem FR.say{d:Nat}{s:SV}{v:Value}(h:FR Z n L H G w a)(hd:a.tmps[d]?=some v)(hv:Rel G (Av Z H G) w s v):FR Z n ((d,s)::mW L d) H G w a:=
 ⟨h.defers,h.size,λt s' hs=>by
  rcases gM hs with⟨rfl,rfl⟩|⟨hne,h3⟩
  ·exact⟨v,hd,hv⟩
  ·exact h.slot t s' (zw h3)⟩
theorem sV(hr:SR Z w0 H G w){s:SV}{v:Value}(h:Rel1 G (Av Z H G) w s v):s.refs H.length=true:=by
 have lt:∀(j:Nat) g,G[j]?=some g->Nat.ble (j+1) H.length=true:=λj g hg=>afM (by rw[<-hr.len];exact(afx.1 hg).1);cases s with
 |box j off=>obtain⟨b,h1,_⟩:=h;exact lt j _ h1
 |own j=>exact lt j _ h
 |oelt j sz i off=>obtain⟨b,m,c,h1,_⟩:=h;exact lt j _ h1
 |osl j sz lo n=>obtain⟨g,q,c,h1,_⟩:=h;exact lt j _ h1
 |clo f caps=>
  obtain⟨bs,h1,_⟩:=h;refine afI.2 λj hj=>?_;obtain⟨k,hk,rfl⟩:=ahF hj;obtain⟨b,_,hb⟩:=iz h1 k _ (afn hk);grind
 |tup l=>exact h.elim
 |_=>rfl
theorem lQ(hr:SR Z w0 H G w){s:SV}{v:Value}(h:Rel G (Av Z H G) w s v):s.refsT H.length=true:=by
 cases s with
 |tup l=>
  obtain⟨vs,_,h2⟩:=h;refine afI.2 λs hs=>?_;obtain⟨k,hk,rfl⟩:=ahF hs;obtain⟨b,_,hb⟩:=iz h2 k _ (afn hk);grind [sV]
 |_=>rw[sH (λl e=>by cases e)];exact sV hr (mD h (λl e=>by cases e))
def Ev(Z:Nat->Prop)(fl:Nat)(H:List Item)(G:List Value)(w:World)(H':List Item)(G':List Value)(w':World):Prop:=∀s v,Rel1 G (Av Z H G) w s v->s.refs fl=true->Rel1 G' (Av Z H' G') w' s v
theorem Chg.ev{fl:Nat}{st ap:Bool}(h:Chg Z fl st ap H G w H' G' w'):Ev Z fl H G w H' G' w':=λs v hs hr=>h.pres s v hs λ_j hj=>xq hr hj
def DOk(F:FT)(fm:Fm):Prop:=∀D,fm.d=some D->Clo (ak (nth (aj F fm.f) fm.i)) (mkL (ak (nth (aj F fm.f) fm.i)).size D)/\Region.noSelect (ak (nth (aj F fm.f) fm.i))=true/\D.length<=(ak (nth (aj F fm.f) fm.i)).size
def FrsOk(Z:Nat->Prop)(F:FT)(H:List Item)(G:List Value)(w:World):Nat->List Fm->List Act->Prop
 |_,[],[]=>True
 |fl,fm::fs,a::ats=>FR Z (ntm F fm.f) fm.L H G w a/\(∀t s,aJ fm.L t=some s->s.refsT fl=true)/\(fm.fl<=fl/\(∃fn,fV F fm.f=some fn)/\DOk F fm)/\FrsOk Z F H G w fm.fl fs ats
 |_,_,_=>False
theorem pg{k l:Nat}(h:k<=l){s:SV}(hs:s.refs k=true):s.refs l=true:=by
 have b:∀j,Nat.ble (j+1) k=true->Nat.ble (j+1) l=true:=λj hj=>afM (afA (aft hj) h);cases s with
 |box j off=>exact b j hs
 |own j=>exact b j hs
 |oelt j sz i off=>exact b j hs
 |osl j sz i off=>exact b j hs
 |clo f caps=>exact afI.2 λj hj=>b j (afI.1 hs j hj)
 |tup l=>cases hs
 |_=>rfl
theorem FZ{k l:Nat}(h:k<=l){s:SV}(hs:s.refsT k=true):s.refsT l=true:=by
 cases s with
 |tup l=>exact afI.2 λs hm=>pg h (afI.1 hs s hm)
 |_=>rw[sH (λl e=>by cases e)]at hs ⊢;exact pg h hs
theorem Rel.ev{fl:Nat}(he:Ev Z fl H G w H' G' w'){s:SV}{v:Value}(h:Rel G (Av Z H G) w s v)(hr:s.refsT fl=true):Rel G' (Av Z H' G') w' s v:=by
 cases s with
 |tup l=>
  obtain⟨vs,h1,h2⟩:=h;refine⟨vs,h1,?_⟩;clear h1;induction l generalizing vs with
  |nil=>cases vs<;>exact h2
  |cons s l ih=>
   simp only[SV.refsT,ahE,afr]at hr;match vs,h2 with
   |v::vs,⟨g1,g2⟩=>exact⟨he s v g1 hr.1,ih hr.2 vs g2⟩
 |_=>rw[sH (λl e=>by cases e)]at hr;exact d7 (he _ _ (mD h (λl e=>by cases e)) hr)
theorem FrsOk.ev{fl:Nat}(he:Ev Z fl H G w H' G' w'):∀{fl':Nat} {fs:List Fm} {ats:List Act},fl'<=fl->FrsOk Z F H G w fl' fs ats->FrsOk Z F H' G' w' fl' fs ats
 |_,[],[],_,_=>trivial
 |fl',fm::fs,a::ats,hle,⟨h1,h2,h3,h4⟩=>⟨⟨h1.defers,h1.size,λt s hs=>by
   obtain⟨v,g1,g2⟩:=h1.slot t s hs;exact⟨v,g1,g2.ev he (FZ hle (h2 t s hs))⟩⟩,h2,h3,FrsOk.ev he (afA h3.1 hle) h4⟩
 |_,[],_::_,_,h=>h.elim
 |_,_::_,[],_,h=>h.elim
theorem vk{a b k:Nat}:Pn a b<=k↔a<=k/\b<=k:=by grind [Pn,aft,afM]
theorem GL{k j:Nat}{s:SV}(h:s.ofm<=k)(ho:s.of1 j=true):j<k:=by
 cases s<;>simp only[SV.of1,ahM]at ho;all_goals (have:=afq ho;subst this;exact h)
theorem Q7{s:SV}(h:∀l,s≠.tup l):s.ofmT=s.ofm:=by cases s<;>first|rfl|exact(h _ rfl).elim
theorem B0{k:Nat}:∀{L:SL} {t:Nat} {s:SV},slM L<=k->aJ L t=some s->s.ofmT<=k
 |[],_,_,_,h=>by simp[aJ]at h
 |(q,x)::r,t,s,hk,h=>by
  obtain⟨h1,h2⟩:=vk.1 hk;rcases gM h with⟨rfl,rfl⟩|⟨_,h3⟩
  ·exact h1
  ·exact B0 h2 h3
theorem Rel.evF{k:Nat}(he:∀s v,Rel1 G (Av Z H G) w s v->(∀j,s.of1 j=true->j<k)->Rel1 G' (Av Z H' G') w' s v){s:SV}{v:Value}(h:Rel G (Av Z H G) w s v)(hr:s.ofmT<=k):Rel G' (Av Z H' G') w' s v:=by
 cases s with
 |tup l=>
  obtain⟨vs,h1,h2⟩:=h;refine⟨vs,h1,?_⟩;clear h1;induction l generalizing vs with
  |nil=>cases vs<;>exact h2
  |cons s l ih=>
   obtain⟨r1,r2⟩:=vk.1 hr;match vs,h2 with
   |v::vs,⟨g1,g2⟩=>exact⟨he s v g1 λj hj=>GL r1 hj,ih r2 vs g2⟩
 |_=>rw[Q7 (λl e=>by cases e)]at hr;exact d7 (he _ _ (mD h (λl e=>by cases e)) λj hj=>GL hr hj)
theorem FrsOk.evF{k:Nat}(he:∀s v,Rel1 G (Av Z H G) w s v->(∀j,s.of1 j=true->j<k)->Rel1 G' (Av Z H' G') w' s v):∀{fl':Nat} {fs:List Fm} {ats:List Act},Pf fs<=k->FrsOk Z F H G w fl' fs ats->FrsOk Z F H' G' w' fl' fs ats
 |_,[],[],_,_=>trivial
 |fl',fm::fs,a::ats,hle,⟨h1,h2,h3,h4⟩=>⟨⟨h1.defers,h1.size,λt s hs=>by
   obtain⟨v,g1,g2⟩:=h1.slot t s hs;exact⟨v,g1,g2.evF he (B0 (vk.1 hle).1 hs)⟩⟩,h2,h3,FrsOk.evF he (vk.1 hle).2 h4⟩
 |_,[],_::_,_,h=>h.elim
 |_,_::_,[],_,h=>h.elim
theorem qK{fl:Nat}:∀{l:List (Nat×Nat×Ty)} {L:SL} {H:List Item} {G:List Value},SR Z w0 H G w->FR Z n L H G w a->fl<=H.length->pJ l L H=some (L',H')->∃G',SR Z w0 H' G' w/\FR Z n L' H' G' w a/\Ev Z fl H G w H' G' w/\fl<=H'.length
 |[],L,H,G,hr,hf,hfl,h=>by
  simp only[pJ,afv,afX]at h;obtain⟨rfl,rfl⟩:=h;exact⟨G,hr,hf,λs v h _=>h,hfl⟩
 |(t,et,e)::l,L,H,G,hr,hf,hfl,h=>by
  simp only[pJ]at h;split at h
  ·rename_i hs;split at h<;>try (cases h;done)
   rename_i hn;have hn:=aft hn;obtain⟨v,h1,h2⟩:=hf.slot t _ hs;have h2:v=.slice none 0 0:=h2;subst h2;obtain⟨G1,k1,k2,k3,k4⟩:=lw (et:=et) (e:=e) (xs:=[]) (css:=[]) hr hf (aid _ _) (World.ownsRow_nil w _ _ _) hn trivial fl false false;obtain⟨G2,g1,g2,g3,g4⟩:=qK (fl:=fl) k1 (k2.say h1 k3) (by simp;omega) h;exact⟨G2,g1,g2,λs v hs hrf=>g3 s v (k4.ev s v hs hrf) hrf,g4⟩
  ·exact qK hr hf hfl h
theorem ls{fl:Nat}:∀{l:List (Nat×Ty)} {L:SL} {H:List Item},SR Z w0 H G w->FR Z n L H G w a->fl<=H.length->kC fl l L H=some (L',H')->SR Z w0 H' G w/\FR Z n L' H' G w a/\Ev Z fl H G w H' G w/\fl<=H'.length
 |[],L,H,hr,hf,hfl,h=>by
  simp only[kC,afv,afX]at h;obtain⟨rfl,rfl⟩:=h;exact⟨hr,hf,λs v h _=>h,hfl⟩
 |(t,e)::l,L,H,hr,hf,hfl,h=>by
  simp only[kC]at h;split at h
  ·rename_i hs;obtain⟨v,h1,h2⟩:=hf.slot t _ hs;have h2:v=.slice none 0 0:=h2;subst h2;exact ls hr (hf.say (s:=.d (.sl e) []) h1 ⟨[_],wT,rfl⟩) hfl h
  ·rename_i j hs;split at h<;>try (cases h;done)
   rename_i L1 H1 hg;have hfz:oG fl [.tmp t] L H=some (L1,H1):=by simp only[oG,opS,hs,hg]
   obtain⟨g1,g2,g3,_,_⟩:=kz hr hf hfz
   have hlen:H1.length=H.length:=by
    unfold uD at hg;split at hg<;>try (cases hg;done)
    simp only[afv,afX]at hg;rw[<-hg.2];simp
   obtain⟨k1,k2,k3,k4⟩:=ls g1 g2 (by omega) h;exact⟨k1,k2,λs v hs hrf=>k3 s v (g3 s v hs λj hj=>xq hrf hj) hrf,k4⟩
  ·exact ls hr hf hfl h
theorem i7{α:Type}{l:List α}{k j:Nat}{x:α}(h:(l.take k)[j]?=some x):j<k/\l[j]?=some x:=by grind
theorem AA(hl:Nat){b:Nat}(h:Av Z H G b):Av Z (H.take hl) (G.take hl) b:=⟨h.1,λj it g h1 h2 h3=>h.2 j it g (i7 h1).2 h2 (i7 h3).2⟩
theorem wv{hl:Nat}{s:SV}{v:Value}(h:Rel1 G (Av Z H G) w s v)(hs:s.refs hl=true):Rel1 (G.take hl) (Av Z (H.take hl) (G.take hl)) w s v:=by
 have hk:Keeps (Av Z H G) (Av Z (H.take hl) (G.take hl)) w w:=⟨afs _,λb _ h=>AA hl h,λ_ _ _=>rfl⟩
 have g:∀(j:Nat) x,Nat.ble (j+1) hl=true->G[j]?=some x->(G.take hl)[j]?=some x:=λj x hj hx=>by
  grind [aft]
 cases s with
 |d t x=>obtain⟨cs,h1,h2⟩:=h;exact⟨cs,Ty.rd_keep hk h1,h2⟩
 |nil=>exact h
 |box j off=>obtain⟨b,h1,h2⟩:=h;exact⟨b,g j _ hs h1,h2⟩
 |elt e x off=>obtain⟨b,o,cs,h1,h2,h3,h4,h5⟩:=h;exact⟨b,o,cs,h1,AA hl h2,h3,Ty.rd_keep hk h4,h5⟩
 |own j=>exact g j _ hs h
 |oelt j sz i off=>obtain⟨b,m,c,h1,h2⟩:=h;exact⟨b,m,c,g j _ hs h1,h2⟩
 |cut e xs=>obtain⟨p,h1,h2⟩:=h;exact⟨p,Ty.rd_keep hk h1,h2⟩
 |osl j sz lo n=>obtain⟨x,q,c,h1,h2⟩:=h;exact⟨x,q,c,g j _ hs h1,h2⟩
 |clo f caps=>
  obtain⟨bs,h1,h2⟩:=h;refine⟨bs,?_,h2⟩;clear h2;induction caps generalizing bs with
  |nil=>cases bs<;>exact h1
  |cons c caps ih=>
   simp only[SV.refs,ahE,afr]at hs;match bs,h1 with
   |b::bs,⟨q1,q2⟩=>exact⟨g c _ hs.1 q1,ih hs.2 bs q2⟩
 |tup l=>exact h
 |undef=>exact h
 |dead=>trivial
theorem Rm{hl:Nat}(hr:SR Z w0 H G w)(hrf:(H.take hl).all (Item.refs hl)=true):SR Z w0 (H.take hl) (G.take hl) w:=by
 have hk:Keeps (Av Z H G) (Av Z (H.take hl) (G.take hl)) w w:=⟨afs _,λb _ h=>AA hl h,λ_ _ _=>rfl⟩
 refine⟨by simp[hr.len],hr.below,λj it g h1 h2=>?_,λi j it jt g h b hij h1 h2 h3 h4 h5 h6 h7=>hr.disj i j it jt g h b hij (i7 h1).2 (i7 h2).2 h3 h4 (i7 h5).2 (i7 h6).2 h7,hr.zf⟩;have hi:=hr.items j it g (i7 h1).2 (i7 h2).2;have hir:it.refs hl=true:=afI.1 hrf it (afV h1);cases it with
 |gone=>trivial
 |row et e xs=>obtain⟨css,k1,k2,k3⟩:=hi;exact⟨css,k1,aU (λ_ _ h=>Ty.rd_keep hk h) k2,k3⟩
 |len e xs=>obtain⟨et,css,k1,k2,k3⟩:=hi;exact⟨et,css,k1,aU (λ_ _ h=>Ty.rd_keep hk h) k2,k3⟩
 |box t cs=>
  obtain⟨b,vs,rfl,k1,k2,k3⟩:=hi;refine⟨b,vs,rfl,k1,k2,?_⟩;clear k2 h1;induction cs generalizing vs with
  |nil=>cases vs<;>exact k3
  |cons s l ih=>
   simp only[Item.refs,ahE,afr]at hir;match vs,k3 with
   |v::vs,⟨q1,q2⟩=>exact⟨wv q1 hir.1,ih hir.2 vs q2⟩
structure CR (Z:Nat->Prop) (F:FT) (w0:World) (c:Cfg) (G:List Value) (w:World) (a:Act) (ats:List Act):Prop where
 sr:SR Z w0 c.H G w
 fr:FR Z (ntm F c.f) c.L c.H G w a
 fl:c.fl<=c.H.length
 frs:FrsOk Z F c.H G w c.fl c.fs ats
theorem B4{R:SV->Value->Prop}{s:SV}(hs:∀v,R .nil v->R s v):∀{cs:List SV} {vs:List Value} {q:Nat},b9 R cs vs->cs[q]?=some .nil->b9 R (cs.set q s) vs
 |[],_,_,_,h=>by simp at h
 |c::cs,[],_,h,_=>h.elim
 |c::cs,v::vs,0,⟨h1,h2⟩,h=>by
  simp only[agb,afv]at h;subst h;exact⟨hs v h1,h2⟩
 |c::cs,v::vs,q+1,⟨h1,h2⟩,h=>by
  rw[afP]at h;exact⟨h1,B4 hs h2 h⟩
theorem pK{fl:Nat}:∀{l:List (Nat×Nat×Nat×Ty)} {H:List Item} {G:List Value},SR Z w0 H G w->FR Z n L H G w a->fl<=H.length->∃G',SR Z w0 (mu l H) G' w/\FR Z n L (mu l H) G' w a/\Ev Z fl H G w (mu l H) G' w/\fl<=(mu l H).length
 |[],H,G,hr,hf,hfl=>⟨G,hr,hf,λs v h _=>h,hfl⟩
 |(j,q,et,e)::l,H,G,hr,hf,hfl=>by
  simp only[mu];split
  ·rename_i t cs hj;split
   ·rename_i hq hn;have hn:=aft hn;obtain⟨G1,k1,k2,k3,k4⟩:=lw (et:=et) (e:=e) (xs:=[]) (css:=[]) hr hf (aid _ _) (World.ownsRow_nil w _ _ _) hn trivial fl false false;have hlt:=(afx.1 hj).1;have hj1:(H++[.row et e []])[j]?=some (.box t cs):=by rw[afJ hlt];exact hj
    have hst:=oC (it':=.box t (cs.set q (.own H.length))) k1 hj1 rfl k1.below (afs _) (λ_ _ _=>rfl)
    have hsr:=AW (it':=.box t (cs.set q (.own H.length))) k1 hj1 rfl k1.below (afs _) (λ_ _ _=>rfl) (λg hg=>by
     obtain⟨b,vs,e1,e2,e3,e4⟩:=k1.items j _ g hj1 hg;refine⟨b,vs,e1,e2,e3,B4 (λv hv=>?_) (aU (λs v h=>du k1 hst h) e4) hq⟩;have hv:v=.slice none 0 0:=hv;subst hv;exact k3)
    rw[List.set_append,af2 hlt]at hsr hst;obtain⟨G2,g1,g2,g3,g4⟩:=pK (fl:=fl) (l:=l) hsr (k2.keep λs v h=>du k1 hst h) (by simp;omega);exact⟨G2,g1,g2,λs v hs hrf=>g3 s v (du k1 hst (k4.ev s v hs hrf)) hrf,g4⟩
   ·exact pK hr hf hfl
  ·exact pK hr hf hfl
theorem RC{x:NI}{c c':Cfg}{ats:List Act}(h:Wa x c=some c')(hc:CR Z F w0 c G w a ats):∃G',CR Z F w0 c' G' w a ats/\c'.f=c.f/\c'.K=c.K/\c'.fs=c.fs:=by
 unfold Wa at h;split at h<;>try (cases h;done)
 rename_i L1 H1 h1;split at h<;>try (cases h;done)
 rename_i L2 H2 h2;split at h<;>try (cases h;done)
 rename_i L3 h3;split at h<;>try (cases h;done)
 rename_i hb;injection h with h;subst h;simp only[afr]at hb;obtain⟨⟨b1,b2⟩,b3⟩:=hb;obtain⟨G0,f1,f2,f3,f4⟩:=pK (l:=x.bx) hc.sr hc.fr hc.fl;obtain⟨G1,g1,g2,g3',g4⟩:=qK f1 f2 f4 h1;have g3:Ev Z c.fl c.H G w H1 G1 w:=λs v hs hr=>g3' s v (f3 s v hs hr) hr;obtain⟨k1,k2,k3,k4⟩:=ls g1 g2 g4 h2;have b3':=aft b3;have hev:Ev Z c.fl c.H G w (H2.take x.hl) (G1.take x.hl) w:=λs v hs hrf=>wv (k3 s v (g3 s v hs hrf) hrf) (pg b3' hrf);refine⟨G1.take x.hl,⟨Rm k1 b2,⟨k2.defers,k2.size,λt s hs=>?_⟩,by simp;omega,hc.frs.ev hev (afs _)⟩,rfl,rfl,rfl⟩;obtain⟨v,q1,q2⟩:=k2.slot t s (wW h3 t s hs);have hrf:s.refs x.hl=true:=afI.1 b1 (t,s) (yR hs);exact⟨v,q1,d7 (wv (mD q2 λl e=>by subst e;cases hrf) hrf)⟩
end
end
section
def iB(P:Program)(fn:Func)(R:Ending->World->Prop)(B:Code):List KJ->List KI
 |[]=>[]
 |.seq i::K=>.seq i::iB P fn R B K
 |.blk id::K=>.blk id::iB P fn R B K
 |.lp i::K=>.lp (InLoop P (nth B (i+1)) (io P fn R B (iB P fn R B K)))::iB P fn R B K
def fw(P:Program)(F:FT)(Rt:Ending->World->Prop):List Fm->List Act->Ending->World->Prop
 |fm::fs,a::ats=>λe w'=>∃v,e=.returned v/\∃fn o,fV F fm.f=some fn/\(ak (nth (aj F fm.f) fm.i))[fm.k]?=some o/\
   (fm.d=none->AtR P fn (fw P F Rt fs ats) (aj F fm.f) (iB P fn (fw P F Rt fs ats) (aj F fm.f) fm.K) fm.i (fm.k+1) (a.put o.dst v) w')/\
   (∀D,fm.d=some D->wpG P (ak (nth (aj F fm.f) fm.i)) (io P fn (fw P F Rt fs ats) (aj F fm.f) (iB P fn (fw P F Rt fs ats) (aj F fm.f) fm.K)) (λ_=>True) ((ak (nth (aj F fm.f) fm.i)).size-D.length) (mkL (ak (nth (aj F fm.f) fm.i)).size D) (a.put o.dst v) w')
 |_,_=>Rt
section
variable {Z:Nat->Prop} {w0:World} {n:Nat} {L L':SL} {H H':List Item} {G G':List Value} {w w':World} {a:Act} {F:FT} {P:Program} {T:TT}
theorem fk{R:Type}{ops:Array Oper}{o:Oper}{yes no:SL->Option R}{r:R}(hf:FR Z n L H G w a)(h:cY ops L o yes no=some r):
  (∃L',yes L'=some r/\FR Z n L' H G w a/\Region.wanted o (yielded ops a.tmps)=true)\/(∃L',no L'=some r/\FR Z n L' H G w a/\Region.wanted o (yielded ops a.tmps)=false):=by
 unfold cY at h;split at h
 ·grind [Region.wanted]
 ·rename_i j want hg;split at h<;>try (cases h;done)
  rename_i d hd;split at h<;>try (cases h;done)
  ·rename_i b hb;obtain⟨v,h1,h2⟩:=hf.slot d _ hb;have hv:=rG h2;subst hv;have hy:∀b':Bool,b=b'->FR Z n ((d,.d .bool b')::mW L d) H G w a:=λb' e=>by subst e;exact hf.say h1 h2
   have hw:Region.wanted o (yielded ops a.tmps)=(b==want):=by
    simp only[Region.wanted,hg,yielded,hd,Option.bind_some,h1];cases b<;>cases want<;>rfl
   grind
  ·rename_i hb;obtain⟨v,h1,h2⟩:=hf.slot d _ hb;have h2:v=undef:=h2;subst h2;refine .inr ⟨L,h,hf,?_⟩;simp only[Region.wanted,hg,yielded,hd,Option.bind_some,h1];rfl
theorem Rf{fn:Func}{R:Ending->World->Prop}{B:Code}{K:List KI}{i k:Nat}(hk:(ak (nth B i))[k]?=none)(h:io P fn R B K .normal a w):AtR P fn R B K i k a w:=by simp_all [pq]
theorem Qe{fn:Func}{R:Ending->World->Prop}{B:Code}{K:List KI}{i k:Nat}{o:Oper}(hk:(ak (nth B i))[k]?=some o)(hw:Region.wanted o (yielded (ak (nth B i)) a.tmps)=true)
  (h:o.upon P a (λa' w'=>AtR P fn R B K i (k+1) a' w') (io P fn R B K) ((execOp a.eval o).run P w)):AtR P fn R B K i k a w:=by
 unfold AtR
 have:(ak (nth B i)).toList.drop k=o::(ak (nth B i)).toList.drop (k+1):=by
  grind [afC]
 rw[this];unfold wpList;rw[af2 hw];exact .inl h
theorem WW{fn:Func}{R:Ending->World->Prop}{B:Code}{K:List KI}{i k:Nat}{o:Oper}(hk:(ak (nth B i))[k]?=some o)(hw:Region.wanted o (yielded (ak (nth B i)) a.tmps)=false)
  (h:AtR P fn R B K i (k+1) (a.put o.dst undef) w):AtR P fn R B K i k a w:=by
 unfold AtR
 have:(ak (nth B i)).toList.drop k=o::(ak (nth B i)).toList.drop (k+1):=by
  grind [afC]
 rw[this];unfold wpList;rwa [afQ (by rw[hw];simp)]
theorem L5(hT:eM P T=true)(hr:SR Z w0 H G w)(hf:FR Z n L H G w a):∀{rs:List ResultVar} {ss:List SV},Dc T H L rs=some ss->∃vs,b9 (Rel G (Av Z H G) w) ss vs/\
  ((rs.mapM (m:=Sem) fun
   |.tmp t=>pure (a.tmps.getD t undef)
   |.cell ad t=>do loadVar t (<-asAddr (a.tmps.getD ad undef))).run P w)=.ok vs w:=by
 intro rs;induction rs with
 |nil=>intro ss h;simp only[Dc,afv]at h;subst h;exact⟨[],trivial,rfl⟩
 |cons q rs ih=>
  intro ss h;rw[List.mapM_cons];cases q with
  |tmp t=>
   simp only[Dc]at h;split at h<;>try (cases h;done)
   rename_i s l h1 h2;injection h with h;subst h;obtain⟨vs,g1,g2⟩:=ih h2;obtain⟨v,k1,k2⟩:=hf.slot t s h1;refine⟨v::vs,⟨k2,g1⟩,?_⟩;simp only[agm,agH,afR,agB,k1,Option.getD_some]at g2 ⊢;rw[g2];rfl
  |cell ad t=>
   simp only[Dc]at h;split at h<;>try (cases h;done)
   rename_i j off i l h1 hi h2;split at h<;>try (cases h;done)
   rename_i bt cells hj;split at h<;>try (cases h;done)
   rename_i s hl;injection h with h;subst h;obtain⟨vs,g1,g2⟩:=ih h2;obtain⟨p,k1,k2⟩:=hf.slot ad _ h1;obtain⟨v,e1,e2⟩:=Cw (rw:=true) hr (aL hT hi) k2 hj hl;obtain⟨b,hb,rfl⟩:=k2;refine⟨v::vs,⟨d7 e1,g1⟩,?_⟩;have e3:=e2 w Agr.refl;simp only[Instr.loadAt,Instr.sureAddr,agm,agH,afR]at e3;simp only[agm,agH,afR,agB,k1,Option.getD_some,asAddr,e3]at g2 ⊢;rw[g2];rfl
theorem KX{fn:Func}{R:Ending->World->Prop}(hT:eM P T=true)(hr:SR Z w0 H G w)(hf:FR Z n L H G w a){ss:List SV}(h:Dc T H L fn.results.toList=some ss)(hR:∀vs,b9 (Rel G (Av Z H G) w) ss vs->R (.returned (kM vs)) w):bodyPost P fn R .ret a w:=by
 obtain⟨vs,g1,g2⟩:=L5 (P:=P) hT hr hf h;refine⟨hf.defers,kM vs,?_,hR vs g1⟩;unfold Go.results;generalize hrs:fn.results=rs at*
 obtain⟨l⟩:=rs;simp only[List.mapM_toArray,bind_map_left];simp only[agm];refine(congrArg (λr:Result (List Value)=>r.andThen λ(a:List Value) w'=>Sem.run P (pure (if h:a.toArray.size=1 then a.toArray[0]else Value.tuple a.toArray)) w') g2).trans ?_;match vs with
 |[]=>rfl
 |[x]=>rfl
 |x::y::r=>simp[kM]
theorem JS{ss:List SV}{vs:List Value}(hn:∀s∈ss,∀l,s≠.tup l)(h:b9 (Rel G (Av Z H G) w) ss vs):Rel G (Av Z H G) w (aay ss) (kM vs):=by
 have h1:b9 (Rel1 G (Av Z H G) w) ss vs:=by
  induction ss generalizing vs with
  |nil=>cases vs<;>exact h
  |cons s ss ih=>
   match vs,h with
   |v::vs,⟨q1,q2⟩=>exact⟨mD q1 (hn s (by simp)),ih (λs hs=>hn s (by simp[hs])) q2⟩
 match ss,vs,h,h1 with
 |[],[],_,_=>exact⟨[],rfl,trivial⟩
 |[s],[v],⟨q1,_⟩,_=>exact q1
 |s::s'::ss,v::v'::vs,_,h1=>exact⟨v::v'::vs,rfl,h1⟩
theorem Cy{A:Nat->Prop}:∀{l:List SV} {r:List RV} {vs:List Value},yh.outL l=some r->b9 (Rel1 [] A w) l vs->rvS r=some l/\(∀q∈r,∃t x,q=.d t x)
 |[],r,vs,h,_=>by simp only[yh.outL,afv]at h;subst h;exact⟨rfl,by simp⟩
 |s::l,r,vs,h,ha=>by
  unfold yh.outL at h;split at h
  ·rename_i e;cases e
  ·rename_i t x l' e;injection e with e1 e2;subst e1 e2;split at h<;>try (cases h;done)
   rename_i r' hr';injection h with h;subst h;match vs,ha with
   |v::vs,⟨_,h2⟩=>
    obtain⟨g1,g2⟩:=Cy hr' h2;exact⟨by simp[rvS,g1],λq hq=>by rcases afy.1 hq with rfl|hq;exact⟨t,x,rfl⟩;exact g2 q hq⟩
  ·cases h
theorem ML(_hT:eM P T=true)(hr:SR Z w0 H G w){ss:List SV}{tys:List Nat}{r:List RV}{vs:List Value}(h:yh T H ss tys=some r)(ha:b9 (Rel G (Av Z H G) w) ss vs):mq Z w0.heap.size w r (kM vs):=by
 unfold yh at h;split at h
 ·rename_i j;split at h<;>try (cases h;done)
  rename_i et e xs hj;injection h with h;subst h;match vs,ha with
  |[v],⟨hv,_⟩=>
   obtain⟨css,k1,k2,k3⟩:=hr.items j _ _ hj hv;refine⟨css,k1,aU (λl y h=>Ty.rd_keep ⟨afs _,λb _ hA=>⟨hA.1,hA.2 j _ _ hj rfl hv⟩,λ_ _ _=>rfl⟩ h) k2,k3⟩
 ·split at h<;>try (cases h;done)
  split at h<;>try (cases h;done)
  split at h<;>try (cases h;done)
  split at h<;>try (cases h;done)
  rename_i hb;injection h with h;subst h;match vs,ha with
  |[v],⟨hv,_⟩=>
   have hv:v=.slice none 0 0:=hv;subst hv;exact⟨[],World.ownsRow_nil _ _ _ _,trivial,aft hb⟩
 ·split at h<;>try (cases h;done)
  rename_i l hl;have h1:b9 (Rel1 [] Z w) l vs:=kG (ss0:=ss) hr (λ_ _ h=>h.1) (.inl λj g b hg hb ⟨_,_,_,hj⟩=>hr.zf b (((hr.items j _ g hj hg).blk rfl hb).1 rfl)) (λs hs=>hs) hl ha;obtain⟨g1,g2⟩:=Cy h h1;match r,g1,g2 with
  |[],g1,_=>
   simp only[rvS,afv]at g1;subst g1;match vs,h1 with
   |[],_=>exact⟨[],rfl,[],rfl,trivial⟩
  |[.d t x],g1,_=>
   simp only[rvS,afv]at g1;subst g1;match vs,h1 with
   |[v],⟨q,_⟩=>exact q
  |[.new et e xs],_,g2=>obtain⟨t,x,he⟩:=g2 (.new et e xs) (by simp);cases he
  |q::q'::r,g1,_=>
   have hlen:vs.length=(q::q'::r).length:=by
    rw[<-eu h1]
    have:∀(r:List RV) (l:List SV),rvS r=some l->l.length=r.length:=by
     intro r;induction r with
     |nil=>intro l h;simp only[rvS,afv]at h;subst h;rfl
     |cons q r ih=>
      intro l h;cases q<;>simp only[rvS]at h<;>split at h<;>first|(cases h;done)|(injection h with h;subst h;simp[ih _ (by assumption)])
    exact this _ _ g1
   match vs,hlen,h1 with
   |v::v'::vs,_,h1=>cases q<;>exact⟨v::v'::vs,rfl,l,g1,h1⟩
end
end
section
theorem lP{Z:Nat->Prop}{H:List Item}{G:List Value}{w:World}{a:Act}:∀{ss:List SV} {vs:List Value} {k:Nat},b9 (Rel G (Av Z H G) w) ss vs->(∀t v,look (CA k vs) t=some v->a.tmps[t]?=some v)->∀t s,aJ (rH k ss) t=some s->∃v,a.tmps[t]?=some v/\Rel G (Av Z H G) w s v
 |[],[],k,_,_,t,s,h=>by simp[rH,aJ]at h
 |s0::ss,v0::vs,k,⟨h1,h2⟩,ha,t,s,h=>by
  rcases gM h with⟨rfl,rfl⟩|⟨hne,h3⟩
  ·exact⟨v0,ha t v0 (by simp[CA,look]),h1⟩
  ·refine lP h2 (λu x hx=>ha u x ?_) t s h3;simp only[CA,look];split
   ·rename_i hb;have e:k=u:=afq hb;have:=(zb vs (k+1) u x hx).1;omega
   ·exact hx
def AtG(P:Program)(fn:Func)(R:Ending->World->Prop)(B:Code)(K:List KI)(i:Nat)(S0:World->Prop)(m:Nat)(D:List Nat)(a:Act)(w:World):Prop:=
 wpG P (ak (nth B i)) (io P fn R B K) S0 m (mkL (ak (nth B i)).size D) a w
def jG(P:Program)(F:FT)(Rt:Ending->World->Prop)(c:Cfg)(fn:Func)(G:List Value)(w:World)(a:Act)(ats:List Act):Pos->Prop
 |.nrm=>io P fn (fw P F Rt c.fs ats) (aj F c.f) (iB P fn (fw P F Rt c.fs ats) (aj F c.f) c.K) .normal a w
 |.node i=>At P fn (fw P F Rt c.fs ats) (aj F c.f) (iB P fn (fw P F Rt c.fs ats) (aj F c.f) c.K) i a w
 |.ops i k=>AtR P fn (fw P F Rt c.fs ats) (aj F c.f) (iB P fn (fw P F Rt c.fs ats) (aj F c.f) c.K) i k a w
 |.ret=>bodyPost P fn (fw P F Rt c.fs ats) .ret a w
 |.tam i D=>D=[]->Region.noSelect (ak (nth (aj F c.f) i))=true->AtG P fn (fw P F Rt c.fs ats) (aj F c.f) (iB P fn (fw P F Rt c.fs ats) (aj F c.f) c.K) i (λ_=>True) (ak (nth (aj F c.f) i)).size [] a w
 |.tbx i D=>D=[]->Region.noSelect (ak (nth (aj F c.f) i))=true->AtG P fn (fw P F Rt c.fs ats) (aj F c.f) (iB P fn (fw P F Rt c.fs ats) (aj F c.f) c.K) i (λ_=>True) (ak (nth (aj F c.f) i)).size [] a w
 |.tal i D=>∀S0:World->Prop,(∀w w',S0 w->(w.heap.size<=w'.heap.size/\∀b,b<w.heap.size->w'.heap[b]?=w.heap[b]?)->S0 w')->(storeDone (ak (nth (aj F c.f) i)) (mkL (ak (nth (aj F c.f) i)).size D)\/S0 w)->Clo (ak (nth (aj F c.f) i)) (mkL (ak (nth (aj F c.f) i)).size D)->Region.noSelect (ak (nth (aj F c.f) i))=true->∀m',m'+D.length=(ak (nth (aj F c.f) i)).size->AtG P fn (fw P F Rt c.fs ats) (aj F c.f) (iB P fn (fw P F Rt c.fs ats) (aj F c.f) c.K) i S0 m' D a w
 |.drw i rw eff D=>∀Hs Gs ws,((storeDone (ak (nth (aj F c.f) i)) (mkL (ak (nth (aj F c.f) i)).size D)/\eff=true)\/(Agr rw Hs Gs ws w/\(∀b,b<ws.heap.size->jf c.H G b->jf Hs Gs b)/\(eff=false->c.H=Hs/\G=Gs/\w=ws)/\¬storeDone (ak (nth (aj F c.f) i)) (mkL (ak (nth (aj F c.f) i)).size D)))->Clo (ak (nth (aj F c.f) i)) (mkL (ak (nth (aj F c.f) i)).size D)->Region.noSelect (ak (nth (aj F c.f) i))=true->
   ∀m',m'+D.length=(ak (nth (aj F c.f) i)).size->AtG P fn (fw P F Rt c.fs ats) (aj F c.f) (iB P fn (fw P F Rt c.fs ats) (aj F c.f) c.K) i (Agr rw Hs Gs ws) m' D a w
section
variable {Z:Nat->Prop} {w0:World} {F:FT} {P:Program} {T:TT} {E:Env} {N:NT} {Fin:Nat->Cfg->Option (List RV)} {Rt:Ending->World->Prop} {r:List RV}
theorem vj{fn:Func}{R:Ending->World->Prop}{B:Code}{id:Nat}:∀{K K':List KJ},C3 id K=some K'->xX id (iB P fn R B K)=some (iB P fn R B K')
 |[],K',h=>by simp[C3]at h
 |.blk j::K,K',h=>by
  simp only[C3]at h;simp only[iB,xX];split at h
  ·rename_i hb;rw[hb];injection h with h;rw[h]
  ·rename_i hb;rw[hb];exact vj h
 |.seq _::K,K',h=>by simp only[C3]at h;simp only[iB,xX];exact vj h
 |.lp _::K,K',h=>by simp only[C3]at h;simp only[iB,xX];exact vj h
theorem Ig {L : SL} {H : List Item} {G : List Value} {w : World} {a : Act} {n g : Nat} {ss : List SV} {o : Op} (hf : FR Z n L H G w a) (h : Iw F E L o = some (g, ss)) : ∃ f args tys fn caps, o = .call ⟨.value f, args, tys⟩ /\ fV F g = some fn /\ a.eval f = .func (.func g) #[] caps /\ b9 (Rel G (Av Z H G) w) ss (args.map a.eval ++ caps).toList /\ ss.length <= fn.ntmps /\ (!(fn.name == "runtime.NumGoroutine")) = true /\ fn.body.isSome = true := by
 unfold Iw at h;split at h<;>try (cases h;done)
 rename_i f args tys;split at h<;>try (cases h;done)
 rename_i g' caps hs;split at h<;>try (cases h;done)
 split at h<;>try (cases h;done)
 rename_i fn ss' hfn hss;split at h<;>try (cases h;done)
 rename_i hb;obtain⟨rfl,rfl⟩:=h;simp only[afr]at hb;obtain⟨bs,hbs,hfv⟩:=aI hf hs;refine⟨f,args,tys,fn,_,rfl,hfn,hfv,?_,by simp;exact aft hb.1,hb.2.1,hb.2.2⟩;have h1:=kB hf hss
 have h2:b9 (Rel G (Av Z H G) w) (caps.map λj=>.box j 0) (bs.map λb=>Value.pointer (some ⟨b,0,none⟩)):=by
  clear hs hfv;induction caps generalizing bs with
  |nil=>cases bs<;>exact hbs
  |cons c caps ih=>
   match bs,hbs with
   |b::bs,⟨q1,q2⟩=>exact⟨⟨b,q1,rfl⟩,ih (by
    simp only[afD]at hb;exact⟨afM (by have:=aft hb.1;omega),hb.2⟩) bs q2⟩
 simp_all [ez]
theorem CP{ops:Array Oper}{eff:Bool}{D:List Nat}:∀{rs:List Nat} {j:Nat},Cx ops eff D rs=some j->j∈rs/\∃o,ops[j]?=some o/\isQ o.op=true/\(m8 o.op=true->eff=false/\vS ops j=true)/\o.dst.isSome=true/\Region.free .any ops (mkL ops.size D) j=true
 |[],j,h=>by simp[Cx]at h
 |q::rs,j,h=>by
  simp only[Cx]at h;split at h<;>try (cases h;done)
  rename_i o ho;split at h
  ·rename_i hb;injection h with h;subst h;simp only[afr,ag4,Bool.and_eq_false_iff,ahz,Bool.not_eq_false']at hb;obtain⟨⟨⟨b1,b2⟩,b3⟩,b4⟩:=hb;exact⟨by simp,o,ho,b1,λhl=>by rcases b2 with b2|b2;rw[hl]at b2;cases b2;exact b2,b3,b4⟩
  ·obtain⟨h1,h2⟩:=CP h;exact⟨by simp[h1],h2⟩
end
end
abbrev dn(l:Array Bool):Nat->Bool:=λk=>l.getD k true
theorem iY(l:Array Bool)(j k:Nat):dn (l.setIfInBounds j true) k=if k=j then true else dn l k:=by
 by_cases h:k=j
 ·simp_all
 simp_all [ahi]
theorem dW{d:Nat}{s:SV}{L:SL}{t:Nat}:aJ ((d,s)::mW L d) t=if t=d then some s else aJ L t:=by grind [aJ,ahV,afq]
theorem w9:∀{l cs:List SV} {off:Nat},(nD cs off l).length=cs.length
 |[],_,_=>rfl
 |_::r,_,_=>by simp[nD,w9 (l:=r)]
theorem CY:∀(l cs:List SV) (off i:Nat),(nD cs off l)[i]?=if off<=i/\i<off+l.length/\i<cs.length then l[i-off]? else cs[i]?
 |[],cs,off,i=>by rw[afQ (by simp;omega)];rfl
 |s::r,cs,off,i=>by
  rw[nD,CY r (cs.set off s) (off+1) i,ahT,afD];by_cases h1:i=off
  ·subst h1;rw[afQ (by omega)];by_cases h2:i<cs.length
   ·rw[af2 (by omega),ahR,ag2 h2];rfl
   ·rw[afQ (by omega),agK (by simp;omega),agK (by omega)]
  ·by_cases h2:off+1<=i/\i<off+1+r.length/\i<cs.length
   ·rw[af2 h2,af2 (by omega),show i-off=(i-(off+1))+1 by omega,afP]
   ·rw[afQ h2,afQ (by omega),agX (ahi h1)]
theorem IX{l l' cs:List SV}{off off':Nat}(h:off+l.length<=off'\/off'+l'.length<=off):nD (nD cs off l) off' l'=nD (nD cs off' l') off l:=by
 refine ag3 λi=>?_;grind [CY,w9]
theorem Dl{x:SV}:∀{l cs:List SV} {off:Nat},x∈nD cs off l->x∈cs\/x∈l
 |[],_,_,h=>.inl h
 |s::r,cs,off,h=>by
  rcases Dl (l:=r) h with h1|h1
  ·rcases List.mem_or_eq_of_mem_set h1 with h2|h2
   ·exact .inl h2
   ·subst h2;exact .inr (by simp)
  ·exact .inr (by simp[h1])
def ovI(s:AlS):Item->Item
 |.box bt cells=>.box bt (nD cells s.off s.l)
 |it=>it
theorem mL(s:AlS)(H:List Item)(k:Nat):(stP s H)[k]?=if k=s.j then H[k]?.map (ovI s)else H[k]?:=by
 unfold stP;split
 ·rename_i bt cells hb;by_cases h:k=s.j
  ·subst h;rw[af2 rfl,hb,ag2 (afx.1 hb).1];rfl
  grind
 ·rename_i hb;by_cases h:k=s.j
  ·subst h;rw[af2 rfl];cases hh:H[s.j]? with
   |none=>rfl
   |some it=>
    cases it with
    |box bt cells=>exact absurd hh (hb bt cells)
    |row=>rfl
    |len=>rfl
    |gone=>rfl
  ·rw[afQ h]
theorem Gw(s:AlS)(H:List Item):(stP s H).length=H.length:=by grind [stP]
theorem R6{s:AlS}{H:List Item}{k:Nat}{it:Item}(h:s.j≠k):stP s (H.set k it)=(stP s H).set k it:=by
 refine ag3 λi=>?_;grind [mL,Gw]
theorem uz{s p:AlS}(h:Fy s p=true):s.i≠p.i/\(s.j≠p.j\/s.off+s.l.length<=p.off\/p.off+p.l.length<=s.off):=by
 simp only[Fy,afr,aho]at h;obtain⟨h1,h2⟩:=h;refine⟨λe=>(by rw[e,ahV]at h1;cases h1),?_⟩;rcases h2 with(h2|h2)|h2
 ·grind [ahV]
 ·simp_all
 simp_all
theorem M3{s p:AlS}(h:Fy s p=true)(H:List Item):stP s (stP p H)=stP p (stP s H):=by
 obtain⟨_,h⟩:=uz h;refine ag3 λk=>?_;rw[mL,mL,mL,mL];by_cases h1:k=s.j
 ·subst h1;rw[af2 rfl];by_cases h2:s.j=p.j
  ·rw[af2 h2,af2 h2,af2 rfl];cases hh:H[s.j]? with
   |none=>rfl
   |some it=>
    cases it with
    |box bt cells=>
     simp only[agt,ovI];rw[IX (by rcases h with h|h|h;exact absurd h2 h;exact .inr h;exact .inl h)]
    |row=>rfl
    |len=>rfl
    |gone=>rfl
  ·rw[afQ h2,afQ h2,af2 rfl]
 grind
theorem rR{f:Nat->Bool}{H:List Item}:∀{ss:List AlS},(cB f ss H).length=H.length
 |[]=>rfl
 |s::r=>by
  simp only[cB];split
  ·rw[Gw];exact rR
  ·exact rR
theorem xe{f:Nat->Bool}{H:List Item}{k:Nat}{it:Item}:∀{ss:List AlS},(∀s∈ss,f s.i=true->s.j≠k)->cB f ss (H.set k it)=(cB f ss H).set k it
 |[],_=>rfl
 |s::r,h=>by
  have ih:=xe (f:=f) (H:=H) (k:=k) (it:=it) (ss:=r) λs hs=>h s (by simp[hs]);simp only[cB];split
  ·rename_i h1;rw[ih,R6 (h s (by simp) h1)]
  ·exact ih
theorem kj{f g:Nat->Bool}{H:List Item}:∀{ss:List AlS},(∀s∈ss,f s.i=g s.i)->cB f ss H=cB g ss H
 |[],_=>rfl
 |s::r,h=>by
  simp only[cB];rw[h s (by simp),kj (ss:=r) λs hs=>h s (by simp[hs])]
theorem pz{f:Nat->Bool}{H:List Item}:∀{ss:List AlS},(∀s∈ss,f s.i=false)->cB f ss H=H
 |[],_=>rfl
 |s::r,h=>by
  simp only[cB];rw[h s (by simp)];exact pz (ss:=r) λs hs=>h s (by simp[hs])
theorem Ih{f g:Nat->Bool}{H:List Item}{s:AlS}(hg:∀k,g k=if k=s.i then true else f k)(hf:f s.i=false):∀{ss:List AlS},ss.Pairwise (λs p=>Fy s p=true)->s∈ss->cB g ss H=stP s (cB f ss H)
 |[],_,hs=>by cases hs
 |p::r,hp,hs=>by
  obtain⟨h1,h2⟩:=afK.1 hp;simp only[cB];rcases afy.1 hs with e|hs
  ·subst e;rw[hg s.i,af2 rfl,hf];dsimp only;rw[kj (f:=g) (g:=f) (ss:=r) λq hq=>by rw[hg,afQ (ahi (uz (h1 q hq)).1)]]
  ·have hne:=(uz (h1 s hs)).1;have ih:=Ih (H:=H) hg hf h2 hs;rw[hg p.i,afQ hne,ih];split
   ·exact M3 (h1 s hs) _
   ·rfl
theorem CT{f:Nat->Bool}{H:List Item}{k bt:Nat}{cells:List SV}(h:H[k]?=some (.box bt cells)):∀{ss:List AlS},∃cells',(cB f ss H)[k]?=some (.box bt cells')/\cells'.length=cells.length
 |[]=>⟨cells,h,rfl⟩
 |s::r=>by
  obtain⟨c',h1,h2⟩:=CT (f:=f) h (ss:=r);simp only[cB];split
  ·rw[mL,h1];split
   ·exact⟨_,rfl,by rw[w9,h2]⟩
   ·exact⟨c',rfl,h2⟩
  ·exact⟨c',h1,h2⟩
def lT(h0:Nat)(H:List Item):Prop:=∀(k:Nat) (t:TypeId) (cs:List SV),H[k]?=some (.box t cs)->∀s∈cs,s.refs h0=true
theorem DY{h0:Nat}{f:Nat->Bool}{H:List Item}(hH:lT h0 H):∀{ss:List AlS},(∀s∈ss,∀x∈s.l,x.refs h0=true)->lT h0 (cB f ss H)
 |[],_=>hH
 |s::r,h=>by
  have ih:=DY (f:=f) hH (ss:=r) λs hs=>h s (by simp[hs]);simp only[cB];split
  ·intro k t cs hk x hx;rw[mL]at hk;split at hk
   ·cases hh:(cB f r H)[k]? with
    |none=>rw[hh]at hk;cases hk
    |some it=>
     rw[hh]at hk;cases it with
     |box bt cells=>
      simp only[agt,ovI,afv,Item.box.injEq]at hk;obtain⟨rfl,rfl⟩:=hk;rcases Dl hx with h1|h1
      ·exact ih k _ _ hh x h1
      ·exact h s (by simp) x h1
     |row=>simp[ovI]at hk
     |len=>simp[ovI]at hk
     |gone=>simp[ovI]at hk
   ·exact ih k t cs hk x hx
  ·exact ih
theorem sT(f:Nat->Bool)(la:List AlA)(r:Nat):(alX f la)[r]?=la[r]?.map λa=>match f a.i with
  |true=>.box a.t a.cs
  |false=>.gone:=by grind [alX]
abbrev Dis(la:List AlA):Prop:=la.Pairwise λa b=>a.i≠b.i/\a.d≠b.d
theorem MQ{la:List AlA}(h:Dis la){r k:Nat}{a b:AlA}(ha:la[r]?=some a)(hb:la[k]?=some b)(hne:k≠r):b.i≠a.i/\b.d≠a.d:=by grind [List.pairwise_iff_getElem]
theorem Yl{f g:Nat->Bool}{la:List AlA}{r:Nat}{a:AlA}(hd:Dis la)(ha:la[r]?=some a)(hg:∀k,g k=if k=a.i then true else f k):alX g la=(alX f la).set r (.box a.t a.cs):=by
 refine ag3 λk=>?_;rw[af9,sT];by_cases h:r=k
 ·grind [alX,agS,afx,agt]
 ·rw[afQ h,sT];cases hk:la[k]? with
  |none=>rfl
  |some b=>
   simp only[agt];rw[hg,afQ (MQ hd ha hk (ahi h)).1]
theorem EH{f g:Nat->Bool}{la:List AlA}{r:Nat}{a:AlA}{H0:List Item}(hd:Dis la)(ha:la[r]?=some a)(hg:∀k,g k=if k=a.i then true else f k):H0++alX g la=(H0++alX f la).set (H0.length+r) (.box a.t a.cs):=by
 rw[Yl hd ha hg,List.set_append,afQ (by omega),show H0.length+r-H0.length=r by omega]
theorem Rn{h0:Nat}{f:Nat->Bool}{la:List AlA}{H0:List Item}(hH:lT h0 H0)(hla:∀a∈la,∀x∈a.cs,x.refs h0=true):lT h0 (H0++alX f la):=by
 intro k t cs hk x hx;rcases afZ k H0.length with h|h
 ·rw[afJ h]at hk;exact hH k t cs hk x hx
 grind [sT]
theorem iE{f g:Nat->Bool}{t:Nat}:∀{la:List AlA} {k:Nat} {L M:SL},(∀a∈la,a.d=t->f a.i=g a.i)->aJ L t=aJ M t->aJ (fW f la k L) t=aJ (fW g la k M) t
 |[],_,_,_,_,h=>h
 |b::l,k,L,M,hl,h=>by
  simp only[fW];refine iE (λa ha=>hl a (by simp[ha])) ?_;by_cases e:b.d=t
  ·rw[<-hl b (by simp) e];split
   ·rw[dW,dW,af2 e.symm,af2 e.symm]
   ·exact h
  ·have e':t≠b.d:=λh=>e h.symm;split<;>split<;>(try rw[dW,afQ e'])<;>(try rw[dW,afQ e'])<;>exact h
theorem DB{f:Nat->Bool}{t:Nat}:∀{la:List AlA} {k:Nat} {L:SL},(∀a∈la,a.d≠t)->aJ (fW f la k L) t=aJ L t
 |[],_,_,_=>rfl
 |b::l,k,L,h=>by
  simp only[fW];rw[DB λa ha=>h a (by simp[ha])];split
  ·rw[dW,afQ (λe=>h b (by simp) e.symm)]
  ·rfl
theorem AZ{f g:Nat->Bool}{a:AlA}(hg:∀k,g k=if k=a.i then true else f k):∀{la:List AlA} {r k:Nat} {L:SL},Dis la->la[r]?=some a->∀t,aJ (fW g la k L) t=if t=a.d then some (.box (k+r) 0)else aJ (fW f la k L) t
 |[],r,_,_,_,h,_=>by simp at h
 |b::l,0,k,L,hd,h,t=>by
  simp only[agb,afv]at h;subst h;obtain⟨h1,h2⟩:=afK.1 hd;simp only[fW];rw[hg b.i,af2 rfl];dsimp only;by_cases e:t=b.d
  ·subst e;rw[af2 rfl,DB λa ha=>ahi (h1 a ha).2,dW,af2 rfl,aie]
  ·rw[afQ e];refine iE (λa ha _=>by rw[hg,afQ (ahi (h1 a ha).1)]) ?_;rw[dW,afQ e];split
   ·rw[dW,afQ e]
   ·rfl
 |b::l,r+1,k,L,hd,h,t=>by
  obtain⟨h1,h2⟩:=afK.1 hd;rw[afP]at h;simp only[fW];rw[hg b.i,afQ (h1 a (afV h)).1,AZ hg h2 h t,show k+1+r=k+(r+1) by omega]
theorem DR{f:Nat->Bool}{t:Nat}{s:SV}:∀{la:List AlA} {k:Nat} {L:SL},aJ (fW f la k L) t=some s->(∃r a,la[r]?=some a/\t=a.d/\f a.i=true/\s=.box (k+r) 0)\/aJ L t=some s
 |[],_,_,h=>.inr h
 |b::l,k,L,h=>by
  simp only[fW]at h;rcases DR h with⟨r,a,h1,h2,h3,h4⟩|h1
  ·exact .inl ⟨r+1,a,by rw[afP];exact h1,h2,h3,by rw[h4,show k+1+r=k+(r+1) by omega]⟩
  ·split at h1
   ·rename_i hb;rw[dW]at h1;split at h1
    ·rename_i e;injection h1 with h1;exact .inl ⟨0,b,rfl,e,hb,by rw[<-h1,aie]⟩
    ·exact .inr h1
   ·exact .inr h1
theorem oo{T:TT}{N:Nat}:∀{lo:List Oper} {i0:Nat} {la:List AlA},alA T N lo i0=some la->
  (∀q o,lo[q]?=some o->aV o=true->∃(r:Nat) (a:AlA),la[r]?=some a/\a.i=i0+q/\o.dst=some a.d/\a.d<N/\∃x,o.op=.alloc a.t/\dp T a.t=some x/\x.z=true/\(∀p q,x.ty≠.pair p q)/\a.cs=x.ty.zsplit)/\
  (∀a∈la,i0<=a.i/\∃o,lo[a.i-i0]?=some o/\aV o=true/\∃x,a.cs=Ty.zsplit x)/\Dis la
 |[],_,_,h=>by
  simp only[alA,afv]at h;subst h;exact⟨λq o h=>(by simp at h),λa h=>(by cases h),List.Pairwise.nil⟩
 |o::r,i,la,h=>by
  simp only[alA]at h
  have sub:∀{la:List AlA},(∀a∈la,i+1<=a.i/\∃o,r[a.i-(i+1)]?=some o/\aV o=true/\∃x,a.cs=Ty.zsplit x)->∀a∈la,i<=a.i/\∃o',(o::r)[a.i-i]?=some o'/\aV o'=true/\∃x,a.cs=Ty.zsplit x:=λh a ha=>by
   obtain⟨h1,o',h2,h3⟩:=h a ha;exact⟨by omega,o',by rw[show a.i-i=(a.i-(i+1))+1 by omega,afP];exact h2,h3⟩
  split at h
  ·rename_i hal;obtain⟨h1,h2,h3⟩:=oo h;refine⟨λq o' hq ho=>?_,sub h2,h3⟩;cases q with
   |zero=>simp only[agb,afv]at hq;subst hq;rw[hal]at ho;cases ho
   |succ q=>
    rw[afP]at hq;obtain⟨r',a,k1,k2,k3⟩:=h1 q o' hq ho;exact⟨r',a,k1,by omega,k3⟩
  ·rename_i hal;split at h<;>try (cases h;done)
   rename_i t d hop hdst;split at h<;>try (cases h;done)
   rename_i x l hx hd hl;split at h<;>try (cases h;done)
   rename_i hz hne;split at h<;>try (cases h;done)
   rename_i hall;injection h with h;subst h;obtain⟨h1,h2,h3⟩:=oo hl;refine⟨λq o' hq ho=>?_,λa ha=>?_,afK.2 ⟨λb hb=>?_,h3⟩⟩
   ·cases q with
    |zero=>
     simp only[agb,afv]at hq;subst hq;exact⟨0,_,rfl,rfl,hdst,aft hd,x,hop,hx,hz,λp q e=>hne _ _ e,rfl⟩
    |succ q=>
     rw[afP]at hq;obtain⟨r',a,k1,k2,k3⟩:=h1 q o' hq ho;exact⟨r'+1,a,by rw[afP];exact k1,by omega,k3⟩
   ·rcases afy.1 ha with e|ha
    ·subst e;exact⟨afs _,o,by simp,hal,x.ty,rfl⟩
    ·exact sub h2 a ha
   ·have:=afI.1 hall b hb;simp only[afr,ag4]at this;exact⟨λe=>(by have:=this.1;simp only at e;rw[e,ahV]at this;cases this),λe=>(by have:=this.2;simp only at e;rw[e,ahV]at this;cases this)⟩
def RI(T:TT)(ops:Array Oper)(la:List AlA)(h0:Nat)(La:SL)(Ha:List Item)(s:AlS)(o:Oper):Prop:=
 ∃t x v sv y bt cells,o.op=.store t x v/\o.guard=none/\o.dst=none/\opS La x=some (.box s.j s.off)/\opS La v=some sv/\dp T t=some y/\fY [] sv=some s.l/\Ha[s.j]?=some (.box bt cells)/\s.l.length=y.ty.n/\s.off+s.l.length<=cells.length/\
  (∀z∈s.l,z.refs h0=true)/\(∀a∈la,(I1 x a.d||I1 v a.d)=true->gH ops 4 s.i a.i=true)/\Fu ops s.i s.j la h0=true
theorem mc{T:TT}{E:Env}{ops:Array Oper}{l:Array Bool}{la:List AlA}{h0:Nat}{La:SL}{Ha:List Item}:∀{lo:List Oper} {i0:Nat} {ss:List AlS},alS T E ops l la h0 La Ha lo i0=some ss->
  (∀q o,lo[q]?=some o->l.getD (i0+q) true=false->aV o=false->fp E o=false->∃s∈ss,s.i=i0+q)/\
  (∀s∈ss,i0<=s.i/\l.getD s.i true=false/\∃o,lo[s.i-i0]?=some o/\aV o=false/\RI T ops la h0 La Ha s o)/\ss.Pairwise (λs p=>Fy s p=true)
 |[],_,_,h=>by
  simp only[alS,afv]at h;subst h;exact⟨λq o h=>(by simp at h),λa h=>(by cases h),List.Pairwise.nil⟩
 |o::r,i,ss,h=>by
  simp only[alS]at h
  have sub:∀{ss:List AlS},(∀s∈ss,i+1<=s.i/\l.getD s.i true=false/\∃o,r[s.i-(i+1)]?=some o/\aV o=false/\RI T ops la h0 La Ha s o)->∀s∈ss,i<=s.i/\l.getD s.i true=false/\∃o',(o::r)[s.i-i]?=some o'/\aV o'=false/\RI T ops la h0 La Ha s o':=λh a ha=>by
   obtain⟨h1,h1',o',h2,h3⟩:=h a ha;exact⟨by omega,h1',o',by rw[show a.i-i=(a.i-(i+1))+1 by omega,afP];exact h2,h3⟩
  split at h
  ·rename_i hal;obtain⟨h1,h2,h3⟩:=mc h;refine⟨λq o' hq hu ho ht=>?_,sub h2,h3⟩;cases q with
   |zero=>
    simp only[agb,afv]at hq;subst hq;rw[show i+0=i from rfl]at hu;rw[hu,ho,ht]at hal;cases hal
   |succ q=>
    rw[afP]at hq;obtain⟨s,k1,k2⟩:=h1 q o' hq (by rw[show i+1+q=i+(q+1) by omega];exact hu) ho ht;exact⟨s,k1,by omega⟩
  ·rename_i hal;simp only[ahz]at hal;split at h<;>try (cases h;done)
   rename_i t x v hop;split at h<;>try (cases h;done)
   rename_i j off sv y hg hdst hx hv hy;split at h<;>try (cases h;done)
   rename_i cs bt cells ss' hcs hH hss;split at h<;>try (cases h;done)
   rename_i hall;injection h with h;subst h;simp only[afr]at hall;obtain⟨⟨⟨⟨⟨c1,c2⟩,c3⟩,c4⟩,c5⟩,c6⟩:=hall;obtain⟨h1,h2,h3⟩:=mc hss;refine⟨λq o' hq hu ho ht=>?_,λs hs=>?_,afK.2 ⟨λp hp=>afI.1 c6 p hp,h3⟩⟩
   ·cases q with
    |zero=>exact⟨_,List.mem_cons_self ..,rfl⟩
    |succ q=>
     rw[afP]at hq;obtain⟨s,k1,k2⟩:=h1 q o' hq (by rw[show i+1+q=i+(q+1) by omega];exact hu) ho ht;exact⟨s,by simp[k1],by omega⟩
   ·rcases afy.1 hs with e|hs
    ·subst e
     exact⟨afs _,hal.1.1,o,by simp,hal.1.2,t,x,v,sv,y,bt,cells,hop,hg,hdst,hx,hv,hy,hcs,hH,afq c1,aft c2,afI.1 c3,λa ha hw=>by
      have:=afI.1 c4 a ha;rw[hw]at this;simpa using this,c5⟩
    ·exact sub h2 s hs
theorem AN{ops:Array Oper}{i j:Nat}:∀{la:List AlA} {k r:Nat} {a:AlA},Fu ops i j la k=true->la[r]?=some a->j=k+r->gH ops 4 i a.i=true
 |[],_,_,_,_,h,_=>by simp at h
 |b::l,k,0,a,h,ha,hj=>by
  simp only[agb,afv]at ha;subst ha;simp only[Fu,afr,aho,ag4]at h;rcases h.1 with h1|h1
  ·rw[hj,aie,ahV]at h1;cases h1
  ·exact h1
 |b::l,k,r+1,a,h,ha,hj=>by
  rw[afP]at ha;simp only[Fu,afr]at h;exact AN h.2 ha (by omega)
theorem jJ{l:Array Bool}{k:Nat}(h:k<l.size):l.getD k false=l.getD k true:=by simp[h]
theorem vU{ops:Array Oper}{l':Array Bool}(hs:l'.size=ops.size):∀{C:List Nat} {l:Array Bool},Es ops l C=true->(∀k,l.getD k false=true->l'.getD k false=true)->(∃i∈C,l'.getD i true=false)->Region.ready .any ops l'≠[]
 |[],_,_,_,⟨_,h,_⟩=>by cases h
 |i::r,l,h,hsub,⟨k,hk,hu⟩=>by
  simp only[Es,afr]at h;obtain⟨h1,h2⟩:=h;split at h1<;>try (cases h1;done)
  rename_i o ho;have hlt:i<l'.size:=by rw[hs];exact(afE.1 ho).1
  cases hi:l'.getD i true with
  |false=>
   intro hr
   have:i∈Region.ready .any ops l':=agv.2 ⟨hi,o,ho,λe he hb=>by
    have:=afI.1 h1 e (Array.mem_toList_iff.2 he);rw[hb]at this;exact hsub _ (by simpa using this)⟩
   rw[hr]at this;cases this
  |true=>
   refine vU hs h2 (λq hq=>?_) ⟨k,(afy.1 hk).resolve_left λe=>(by subst e;rw[hi]at hu;cases hu),hu⟩;by_cases e:i=q
   ·subst e;rw[jJ hlt];exact hi
   ·rw[ahU false e]at hq;exact hsub q hq
def cu(l:Array Bool):Nat:=l.toList.countP λb=>!b
theorem zu:∀(l:List Bool) (j:Nat),l[j]?=some false->(l.set j true).countP (λb=>!b)+1=l.countP (λb=>!b)
 |[],_,h=>by simp at h
 |b::l,0,h=>by
  simp only[agb,afv]at h;subst h;simp
 |b::l,j+1,h=>by
  rw[afP]at h;have:=zu l j h;rw[List.set_cons_succ];cases b<;>simp<;>omega
theorem yA{l:Array Bool}{j:Nat}(h:l.getD j true=false):cu (l.setIfInBounds j true)+1=cu l:=by
 unfold cu;rw[Array.toList_setIfInBounds];refine zu _ _ ?_;rcases afZ j l.size with hlt|hge<;>simp_all
theorem QM{l:Array Bool}(h:cu l=0)(k:Nat):l.getD k true=true:=by
 rcases afZ k l.size with hlt|hge
 ·have:=List.countP_eq_zero.1 h l[k] (by simp);simp_all
 grind
theorem FP(n:Nat):cu (mkL n [])=n:=by simp[cu,mkL,List.countP_replicate]
section
def Old(w w':World):Prop:=w.heap.size<=w'.heap.size/\∀b,b<w.heap.size->w'.heap[b]?=w.heap[b]?
theorem Old.refl(w:World):Old w w:=⟨afs _,λ_ _=>rfl⟩
theorem DU{G G':List Value}{A A':Nat->Prop}{w w':World}{h0:Nat}(hk:Keeps A A' w w'){s:SV}{v:Value}(h:Rel1 G A w s v)(hs:s.refs h0=true)(hG:∀j g,j<h0->G[j]?=some g->G'[j]?=some g):Rel1 G' A' w' s v:=by
 have lt:∀{j:Nat},Nat.ble (j+1) h0=true->j<h0:=λh=>aft h;cases s with
 |d t x=>obtain⟨cs,h1,h2⟩:=h;exact⟨cs,Ty.rd_keep hk h1,h2⟩
 |nil=>exact h
 |box j off=>obtain⟨b,h1,h2⟩:=h;exact⟨b,hG j _ (lt hs) h1,h2⟩
 |elt e x off=>
  obtain⟨b,o,cs,h1,h2,h3,h4,h5⟩:=h;exact⟨b,o,cs,h1,hk.sub b h3 h2,ahc h3 hk.size,Ty.rd_keep hk h4,hk.cells h3 h2 h5⟩
 |own j=>exact hG j v (lt hs) h
 |oelt j sz i off=>obtain⟨b,n,c,h1,h2⟩:=h;exact⟨b,n,c,hG j _ (lt hs) h1,h2⟩
 |clo f caps=>
  obtain⟨bs,h1,h2⟩:=h;refine⟨bs,?_,h2⟩;simp only[SV.refs]at hs;clear h2;induction caps generalizing bs with
  |nil=>cases bs<;>exact h1
  |cons c caps ih=>
   match bs,h1 with
   |b::bs,⟨q1,q2⟩=>
    simp only[ahE,afr]at hs;exact⟨hG c _ (lt hs.1) q1,ih hs.2 bs q2⟩
 |tup l=>exact h.elim
 |undef=>exact h
 |dead=>trivial
 |cut e xs=>obtain⟨p,h1,h2⟩:=h;exact⟨p,Ty.rd_keep hk h1,h2⟩
 |osl j sz lo n=>obtain⟨g,q,c,h1,h2⟩:=h;exact⟨g,q,c,hG j _ (lt hs) h1,h2⟩
theorem Jf{G G':List Value}{A A':Nat->Prop}{w w':World}{h0:Nat}(hk:∀s v,s.refs h0=true->Rel1 G A w s v->Rel1 G' A' w' s v){s:SV}{v:Value}(h:Rel G A w s v)(hs:s.refsT h0=true):Rel G' A' w' s v:=by
 cases s with
 |tup l=>
  obtain⟨vs,h1,h2⟩:=h;refine⟨vs,h1,?_⟩;clear h1;induction l generalizing vs with
  |nil=>cases vs<;>exact h2
  |cons s l ih=>
   simp only[SV.refsT,ahE,afr]at hs;match vs,h2 with
   |v::vs,⟨g1,g2⟩=>exact⟨hk s v hs.1 g1,ih hs.2 vs g2⟩
 |_=>rw[sH (λl e=>by cases e)]at hs;exact d7 (hk _ _ hs (mD h (λl e=>by cases e)))
section
variable {Z:Nat->Prop} {w0:World} {H:List Item} {G:List Value} {w:World}
theorem sS(hr:SR Z w0 H G w):lT H.length H:=by
 intro k t cs hk x hx;have hlt:k<G.length:=by rw[hr.len];exact(afx.1 hk).1
 obtain⟨b,vs,_,_,_,h4⟩:=hr.items k _ _ hk (afn hlt);obtain⟨i,hi,rfl⟩:=ahF hx;obtain⟨v,_,hv⟩:=iz h4 i _ (afn hi);grind [sV]
theorem Qn{it:Item}{g:Value}{h0 k:Nat}(hr:SR Z w0 (H++[it]) (G++[g]) w)(hl:G.length=H.length)(hk:H[k]?=some .gone)(h0k:h0<=k)(hlow:lT h0 (H++[it])):
  SR Z w0 (H.set k it) (G.set k g) w/\(∀b,Av Z (H++[it]) (G++[g]) b↔Av Z (H.set k it) (G.set k g) b):=by
 have hkl:=(afx.1 hk).1
 have a1:∀{j:Nat} {x:Item},j≠k->(H.set k it)[j]?=some x->j<H.length/\(H++[it])[j]?=some x:=λ{j x} hj h=>by
  rw[agX (ahi hj)]at h;have:=(afx.1 h).1;exact⟨this,by rw[afJ this];exact h⟩
 have a2:∀{j:Nat} {x:Value},j≠k->(G.set k g)[j]?=some x->(G++[g])[j]?=some x:=λ{j x} hj h=>by
  rw[agX (ahi hj)]at h;rw[afJ (afx.1 h).1];exact h
 have b1:(H.set k it)[k]?=some it:=ag2 hkl;have b2:(G.set k g)[k]?=some g:=ag2 (by omega);have c1:(H++[it])[H.length]?=some it:=by rw[afW (afs _),ahR];rfl
 have c2:(G++[g])[H.length]?=some g:=by rw[afW (by omega),hl,ahR];rfl
 have d1:∀{j:Nat} {x:Item},(H++[it])[j]?=some x->(j<H.length/\H[j]?=some x)\/(j=H.length/\x=it):=λ{j x} h=>by
  rcases afZ j H.length with hlt|hge
  ·rw[afJ hlt]at h;exact .inl ⟨hlt,h⟩
  ·rw[afW hge]at h
   have hj:j-H.length=0:=by
    rcases age (j-H.length)with h0|h0
    ·exact h0
    ·rw[agK (by simp;omega)]at h;cases h
   rw[hj]at h;simp only[agb,afv]at h;exact .inr ⟨by omega,h.symm⟩
 have hav:∀b,Av Z (H++[it]) (G++[g]) b↔Av Z (H.set k it) (G.set k g) b:=by
  refine λb=>⟨λh=>⟨h.1,λj x y hx hlv hy=>?_⟩,λh=>⟨h.1,λj x y hx hlv hy=>?_⟩⟩
  ·by_cases hj:j=k
   ·subst hj;rw[b1]at hx;rw[b2]at hy;injection hx with hx;injection hy with hy;subst hx hy;exact h.2 _ _ _ c1 hlv c2
   ·exact h.2 j x y (a1 hj hx).2 hlv (a2 hj hy)
  ·rcases d1 hx with⟨h1,h2⟩|⟨h1,h2⟩
   ·have hj:j≠k:=λe=>by subst e;rw[hk]at h2;injection h2 with h2;subst h2;cases hlv
    refine h.2 j x y (by rw[agX (ahi hj)];exact h2) hlv ?_;rw[afJ (by omega)]at hy;rw[agX (ahi hj)];exact hy
   ·subst h1 h2;rw[c2]at hy;injection hy with hy;subst hy;exact h.2 k _ _ b1 hlv b2
 have hkp:Keeps (Av Z (H++[it]) (G++[g])) (Av Z (H.set k it) (G.set k g)) w w:=⟨afs _,λb _ h=>(hav b).1 h,λ_ _ _=>rfl⟩
 have hG:∀j x,j<h0->(G++[g])[j]?=some x->(G.set k g)[j]?=some x:=λj x hj h=>by
  rw[afJ (by omega)]at h;rw[agX (by omega)];exact h
 have hit:∀{j:Nat} {x:Item} {y:Value},(H++[it])[j]?=some x->ItemRel w0.heap.size (G++[g]) (Av Z (H++[it]) (G++[g])) w x y->ItemRel w0.heap.size (G.set k g) (Av Z (H.set k it) (G.set k g)) w x y:=by
  intro j x y hx h;cases x with
  |box t cs=>
   obtain⟨b,vs,e1,e2,e3,e4⟩:=h;refine⟨b,vs,e1,e2,e3,?_⟩;have hc:=hlow j t cs hx;clear e1 e3 hx;induction cs generalizing vs with
   |nil=>cases vs<;>exact e4
   |cons s l ih=>
    match vs,e4 with
    |v::vs,⟨q1,q2⟩=>exact⟨DU hkp q1 (hc s (by simp)) hG,ih vs q2 (λs hs=>hc s (by simp[hs]))⟩
  |row et e xs=>
   obtain⟨css,e1,e2,e3⟩:=h;exact⟨css,e1,aU (λ_ _ h=>Ty.rd_keep hkp h) e2,e3⟩
  |len e xs=>
   obtain⟨et,css,e1,e2,e3⟩:=h;exact⟨et,css,e1,aU (λ_ _ h=>Ty.rd_keep hkp h) e2,e3⟩
  |gone=>trivial
 refine⟨⟨by simp[hl],hr.below,λj x y hx hy=>?_,λi j x y gx gy b hij hx hy hlx hly hgx hgy hb=>?_,hr.zf⟩,hav⟩
 ·by_cases hj:j=k
  ·subst hj;rw[b1]at hx;rw[b2]at hy;injection hx with hx;injection hy with hy;subst hx hy;exact hit c1 (hr.items _ _ _ c1 c2)
  ·exact hit (a1 hj hx).2 (hr.items j x y (a1 hj hx).2 (a2 hj hy))
 ·have key:∀{j:Nat} {x:Item} {y:Value},(H.set k it)[j]?=some x->(G.set k g)[j]?=some y->∃j',(j'=if j=k then H.length else j)/\(H++[it])[j']?=some x/\(G++[g])[j']?=some y:=by
   intro j x y hx hy;by_cases hj:j=k
   ·subst hj;rw[b1]at hx;rw[b2]at hy;injection hx with hx;injection hy with hy;subst hx hy;exact⟨_,rfl,by rw[af2 rfl];exact c1,by rw[af2 rfl];exact c2⟩
   ·exact⟨_,rfl,by rw[afQ hj];exact(a1 hj hx).2,by rw[afQ hj];exact a2 hj hy⟩
  obtain⟨i',ei,i1,i2⟩:=key hx hgx;obtain⟨j',ej,j1,j2⟩:=key hy hgy;refine hr.disj i' j' x y gx gy b ?_ i1 j1 hlx hly i2 j2 hb;rw[ei,ej];by_cases h1:i=k
  ·by_cases h2:j=k
   ·omega
   ·rw[af2 h1,afQ h2];have:=(a1 h2 hy).1;omega
  ·by_cases h2:j=k
   ·rw[afQ h1,af2 h2];have:=(a1 h1 hx).1;omega
   ·rw[afQ h1,afQ h2];exact hij
theorem LR(hr:SR Z w0 H G w){h0 k:Nat}(hk:H[k]?=some .gone)(h0k:h0<=k)(hlow:lT h0 H){t:TypeId}{cs:List SV}{vs:Array Value}(hz:∀s∈cs,s.refs h0=true)(hcs:b9 (Rel1 G (Av Z H G) w) cs vs.toList):
  ∃G',SR Z w0 (H.set k (.box t cs)) G' (w.alloc (.cells vs t))/\(∀s v,s.refs h0=true->Rel1 G (Av Z H G) w s v->Rel1 G' (Av Z (H.set k (.box t cs)) G') (w.alloc (.cells vs t)) s v)/\
   (∀j off v,j≠k->Rel1 G (Av Z H G) w (.box j off) v->Rel1 G' (Av Z (H.set k (.box t cs)) G') (w.alloc (.cells vs t)) (.box j off) v)/\
   Rel1 G' (Av Z (H.set k (.box t cs)) G') (w.alloc (.cells vs t)) (.box k 0) (.pointer (some ⟨w.heap.size,0,none⟩)):=by
 have hb:=ji w (.cells vs t);have hg:∀b,bG (.pointer (some ⟨w.heap.size,0,none⟩))=some b->w.heap.size<=b:=λb h=>by simp[bG]at h;omega
 have hst:=l8 (it:=.box t cs) hr hb hg;have hsr:=An (it:=.box t cs) hr hb hg ⟨w.heap.size,vs.toList,rfl,hr.below.size,Blk.new w t vs,aU (λs v h=>du hr hst h) hcs⟩;have hkl:=(afx.1 hk).1;have hl:=hr.len
 obtain⟨m1,m2⟩:=Qn hsr hl hk h0k (by
  intro j u cs' hj x hx;rcases afZ j H.length with hlt|hge
  ·rw[afJ hlt]at hj;exact hlow j u cs' hj x hx
  ·rw[afW hge]at hj;have hj':=afV hj;simp only[ago,Item.box.injEq]at hj';obtain⟨rfl,rfl⟩:=hj';exact hz x hx)
 have hkp:Keeps (Av Z (H++[.box t cs]) (G++[.pointer (some ⟨w.heap.size,0,none⟩)])) (Av Z (H.set k (.box t cs)) (G.set k (.pointer (some ⟨w.heap.size,0,none⟩)))) (w.alloc (.cells vs t)) (w.alloc (.cells vs t)):=⟨afs _,λb _ h=>(m2 b).1 h,λ_ _ _=>rfl⟩
 refine⟨_,m1,λs v hs h=>DU hkp (du hr hst h) hs λj x hj h=>?_,λj off v hj h=>?_,⟨_,ag2 (by omega),rfl⟩⟩
 ·grind
 ·obtain⟨b,h1,h2⟩:=h;exact⟨b,by rw[agX (ahi hj)];exact h1,h2⟩
theorem xL{n:Nat}{L:SL}{a:Act}(f:Nat->Bool):∀{la:List AlA} {H:List Item} {G:List Value},(∀x∈la,f x.i=false)->SR Z w0 H G w->FR Z n L H G w a->∃G',SR Z w0 (H++alX f la) G' w/\FR Z n L (H++alX f la) G' w a/\(∀s v,Rel1 G (Av Z H G) w s v->Rel1 G' (Av Z (H++alX f la) G') w s v)
 |[],H,G,_,hr,hf=>by
  refine⟨G,?_⟩;rw[show alX f []=[] from rfl,afO];exact⟨hr,hf,λ_ _ h=>h⟩
 |x::la,H,G,hx,hr,hf=>by
  have hg:∀b,bG undef=some b->w.heap.size<=b:=λb h=>by simp[bG,undef]at h
  have hst:=l8 (it:=.gone) (g:=undef) hr (aid _ _) hg;have h1:=An (it:=.gone) (g:=undef) hr (aid _ _) hg trivial;obtain⟨G',k1,k2,k3⟩:=xL f (la:=la) (λy hy=>hx y (by simp[hy])) h1 (hf.keep λs v h=>du hr hst h)
  have e:H++alX f (x::la)=(H++[.gone])++alX f la:=by
   rw[show alX f (x::la)=(match f x.i with|true=>.box x.t x.cs|false=>.gone)::alX f la from rfl,hx x (by simp)];simp
  rw[e];exact⟨G',k1,k2,λs v h=>k3 s v (du hr hst h)⟩
end
theorem vT{h0:Nat}:∀{t:Ty},∀s∈t.zsplit,s.refs h0=true:=by
 intro t;induction t with
 |pair a b iha ihb=>
  grind [Ty.zsplit]
 |st a ih=>intro s hs;simp only[Ty.zsplit]at hs;exact ih s hs
 |_=>intro s hs;simp only[Ty.zsplit,ago]at hs;subst hs;rfl
end
section
theorem Fh{H:List Item}{s:SV}{l:List SV}(h:fY [] s=some l):fY H s=some l:=by
 unfold fY at h ⊢;grind
def ya(h0:Nat)(la:List AlA)(f:Nat->Bool)(L:SL):Prop:=∀t s,aJ L t=some s->s.refsT h0=true\/∃(r:Nat) (a:AlA),la[r]?=some a/\f a.i=true/\s=.box (h0+r) 0
theorem Qj{h0:Nat}{la:List AlA}{f:Nat->Bool}{L:SL}(h:∀t s,aJ L t=some s->s.refsT h0=true):ya h0 la f (fW f la h0 L):=by
 intro t s hs;rcases DR hs with⟨r,a,h1,_,h3,h4⟩|h1<;>grind
section
variable {P:Program} {T:TT} {E:Env} {ops:Array Oper} {Z:Nat->Prop} {w0:World} {N fl:Nat} {Q:Exit->Act->World->Prop} {X:List Item->List Value->World->Prop}
theorem qX{H:List Item}{G:List Value}{w:World}{a:Act}{L L':SL}{h0 r j:Nat}{la:List AlA}{x:AlA}{oj:Oper}{f:Nat->Bool}{K:Act->World->Prop}{Qx:Exit->Act->World->Prop}(hT:eM P T=true)(hoj:ops[j]?=some oj)(hal:aV oj=true)
  (hla:la[r]?=some x) (hdst:oj.dst=some x.d) (hd:x.d<N) (hop:oj.op=.alloc x.t) (hxx:∃y,dp T x.t=some y/\y.z=true/\(∀p q,y.ty≠.pair p q)/\x.cs=y.ty.zsplit) (_hD:Dis la) (hfx:f x.i=false)
  (hk:H[h0+r]?=some .gone) (hlow:lT h0 H) (hL:ya h0 la f L) (hfl:fl<=h0) (hr:SR Z w0 H G w) (hf:FR Z N L H G w a) (hx:X H G w) (hX:∀H G w H' G' w',X H G w->Ev Z fl H G w H' G' w'->X H' G' w') (hL':∀t,aJ L' t=if t=x.d then some (.box (h0+r) 0)else aJ L t)
  (hK:∀v G' w',Old w w'->SR Z w0 (H.set (h0+r) (.box x.t x.cs)) G' w'->FR Z N L' (H.set (h0+r) (.box x.t x.cs)) G' w' (a.put oj.dst v)->X (H.set (h0+r) (.box x.t x.cs)) G' w'->K (a.put oj.dst v) w'):wpOp P ops Qx j K a w:=by
 obtain⟨y,hy,hz,hne,hcs⟩:=hxx
 have hg:oj.guard=none:=by
  unfold aV at hal;rw[hop]at hal;cases hq:oj.guard with
  |none=>rfl
  |some x=>rw[hq]at hal;simp at hal
 have hck:=aL hT hy;obtain⟨inf,hinf,hzero⟩:=wV hck hz
 have hc:(mkV y.ty (zc y.ty)).cells.toList=zc y.ty:=jU (by
  generalize y.ty=ty at*
  cases ty<;>first|exact .inr rfl|exact .inl rfl|exact(hne _ _ rfl).elim)
 obtain⟨G',k1,k2,k3,k4⟩:=LR (t:=x.t) (cs:=x.cs) (vs:=(mkV y.ty (zc y.ty)).cells) hr hk (by omega) hlow (by rw[hcs];exact vT) (by rw[hcs,hc];exact kK)
 have hrun:(execOp a.eval oj).run P w=.ok (.value (.pointer (some ⟨w.heap.size,0,none⟩))) (w.alloc (.cells (mkV y.ty (zc y.ty)).cells x.t)):=by
  simp[execOp,hop,Instr.alloc,zeroValue,typeInfo,hinf,hzero,newVar,newRow]
 unfold wpOp;simp only[hoj];rw[af2 (by simp[Region.wanted,hg])];refine .inl ?_;unfold Oper.wp;rw[hrun];refine hK _ G' _ ⟨(ji w (.cells (mkV y.ty (zc y.ty)).cells x.t)).size,λb hb=>(ji w (.cells (mkV y.ty (zc y.ty)).cells x.t)).block b hb⟩ k1 ?_ (hX _ _ _ _ _ _ hx λs v h hs=>k2 s v (pg hfl hs) h)
 have hf1:FR Z N L (H.set (h0+r) (.box x.t x.cs)) G' (w.alloc (.cells (mkV y.ty (zc y.ty)).cells x.t)) a:=by
  refine⟨hf.defers,hf.size,λt s hs=>?_⟩;obtain⟨v,h1,h2⟩:=hf.slot t s hs;refine⟨v,h1,?_⟩;rcases hL t s hs with h3|⟨r',b,h3,h4,rfl⟩
  ·exact Jf (λs v hs h=>k2 s v hs h) h2 h3
  ·refine k3 _ _ v (λe=>?_) h2;grind
 have hf2:=hf1.put (d:=oj.dst) (L':=(x.d,.box (h0+r) 0)::mW L x.d) (s:=.box (h0+r) 0) (v:=.pointer (some ⟨w.heap.size,0,none⟩)) (by
  rw[hdst];simp only[ge];rw[afM (show x.d+1<=N from hd)]) k4
 exact⟨hf2.defers,hf2.size,λt s hs=>hf2.slot t s (by rw[dW,<-hL' t];exact hs)⟩
structure PlanOk (T:TT) (ops:Array Oper) (N:Nat) (H0:List Item) (la:List AlA) (ss:List AlS):Prop where
 dis:Dis la
 la2:∀a∈la,(∃o,ops[a.i]?=some o/\aV o=true)/\∀x∈a.cs,x.refs H0.length=true
 ss1:∀s∈ss,(∃o,ops[s.i]?=some o/\aV o=false/\o.dst=none)/\(∀x∈s.l,x.refs H0.length=true)/\Fu ops s.i s.j la H0.length=true/\∃bt cells,(H0++alX (λ_=>true) la)[s.j]?=some (.box bt cells)/\s.off+s.l.length<=cells.length
 far:ss.Pairwise (λs p=>Fy s p=true)
def pW(T:TT)(L:SL)(s:AlS)(o:Oper):Prop:=∃t x v sv y,o.op=.store t x v/\o.guard=none/\o.dst=none/\opS L x=some (.box s.j s.off)/\opS L v=some sv/\dp T t=some y/\fY [] sv=some s.l/\s.l.length=y.ty.n
theorem vI{l0:Array Bool}{H0:List Item}{La:SL}{la:List AlA}{ss:List AlS}(hA:alA T N ops.toList 0=some la)(hS:alS T E ops l0 la H0.length La (H0++alX (λ_=>true) la) ops.toList 0=some ss):PlanOk T ops N H0 la ss:=by
 obtain⟨a1,a2,a3⟩:=oo hA;obtain⟨s1,s2,s3⟩:=mc hS;refine⟨a3,λa ha=>?_,λs hs=>?_,s3⟩
 ·obtain⟨_,o,ho,hal,y,hy⟩:=a2 a ha;grind [vT]
 ·obtain⟨_,_,o,ho,hal,t,x,v,sv,y,bt,cells,q1,q2,q3,q4,q5,q6,q7,q8,q9,q10,q11,q12,q13⟩:=s2 s hs;grind
theorem H6{la:List AlA}(hA:alA T N ops.toList 0=some la):∀{j:Nat} {o:Oper},ops[j]?=some o->aV o=true->∃(r:Nat) (a:AlA),la[r]?=some a/\a.i=j/\o.dst=some a.d/\a.d<N/\∃x,o.op=.alloc a.t/\dp T a.t=some x/\x.z=true/\(∀p q,x.ty≠.pair p q)/\a.cs=x.ty.zsplit:=by
 intro j o ho hal;obtain⟨r,a,h1,h2,h3⟩:=(oo hA).1 j o (by rw[ag8];exact ho) hal;grind
theorem kO{l:Array Bool}{i j:Nat}(hcl:Clo ops l)(hj:∀os,ops[j]?=some os->∀e∈os.after,Region.binds .any e=true->l.getD e.on false=true)(h:gH ops 4 j i=true):l.getD i true=true:=by grind [tw]
section
variable {H0:List Item} {la:List AlA} {ss:List AlS} {l:Array Bool}
theorem PlanOk.wt(_hp:PlanOk T ops N H0 la ss)(hcl:Clo ops l)(_hl:l.size=ops.size){s:AlS}{i:Nat}(hs:dn l s.i=true)(_hm:s∈ss)(h:gH ops 4 s.i i=true):l.getD i true=true:=by exact kO hcl (λos hos e he hb=>hcl s.i os hos hs e he hb) h
theorem PlanOk.setA(hp:PlanOk T ops N H0 la ss)(hcl:Clo ops l)(hl:l.size=ops.size){r:Nat}{x:AlA}(h1:la[r]?=some x)(hju:l.getD x.i true=false):
  cB (dn (l.setIfInBounds x.i true)) ss (H0++alX (dn (l.setIfInBounds x.i true)) la)=(cB (dn l) ss (H0++alX (dn l) la)).set (H0.length+r) (.box x.t x.cs)/\(cB (dn l) ss (H0++alX (dn l) la))[H0.length+r]?=some .gone:=by
 have hup:=iY l x.i;obtain⟨⟨oj,hoj,hal⟩,_⟩:=hp.la2 x (afV h1)
 have hne:∀s∈ss,dn l s.i=true->s.j≠H0.length+r:=λs hs hds e=>by
  have:=hp.wt hcl hl hds hs (AN (hp.ss1 s hs).2.2.1 h1 e);rw[hju]at this;cases this
 refine⟨?_,?_⟩
 ·rw[EH hp.dis h1 hup,kj (g:=dn l) λs hs=>?_,xe hne];rw[hup,afQ];intro e;obtain⟨⟨o,ho,hal',_⟩,_⟩:=hp.ss1 s hs;rw[e,hoj]at ho;injection ho with ho;subst ho;rw[hal]at hal';cases hal'
 ·have h3:(H0++alX (dn l) la)[H0.length+r]?=some .gone:=by
   rw[afW (by omega),show H0.length+r-H0.length=r by omega,sT,h1];simp only[agt];rw[show dn l x.i=false from hju]
  have h4:H0++alX (dn l) la=(H0++alX (dn l) la).set (H0.length+r) .gone:=by
   refine ag3 λk=>?_;grind
  rw[h4,xe hne,ag2 (by rw[rR];exact(afx.1 h3).1)]
theorem PlanOk.same(hp:PlanOk T ops N H0 la ss){j:Nat}{oj:Oper}(hoj:ops[j]?=some oj)(hal:aV oj=false):alX (dn (l.setIfInBounds j true)) la=alX (dn l) la/\∀a∈la,dn (l.setIfInBounds j true) a.i=dn l a.i:=by
 have h:∀a∈la,dn (l.setIfInBounds j true) a.i=dn l a.i:=λa ha=>by
  rw[iY,afQ];obtain⟨⟨o',h1,h2⟩,_⟩:=hp.la2 a ha;grind
 grind [alX,List.map_congr_left]
theorem PlanOk.setS(hp:PlanOk T ops N H0 la ss){s:AlS}(hsm:s∈ss)(hju:l.getD s.i true=false):
  cB (dn (l.setIfInBounds s.i true)) ss (H0++alX (dn (l.setIfInBounds s.i true)) la)=stP s (cB (dn l) ss (H0++alX (dn l) la)):=by
 obtain⟨⟨o,ho,hal,_⟩,_⟩:=hp.ss1 s hsm;rw[(hp.same ho hal).1];exact Ih (iY l s.i) hju hp.far hsm
theorem PlanOk.setT(hp:PlanOk T ops N H0 la ss){j:Nat}{oj:Oper}{d:Nat}(hoj:ops[j]?=some oj)(hal:aV oj=false)(hd:oj.dst=some d):
  cB (dn (l.setIfInBounds j true)) ss (H0++alX (dn (l.setIfInBounds j true)) la)=cB (dn l) ss (H0++alX (dn l) la):=by
 rw[(hp.same hoj hal).1];refine kj λs hs=>?_;rw[iY,afQ];obtain⟨⟨o,ho,_,hdn⟩,_⟩:=hp.ss1 s hs;grind
theorem PlanOk.low(hp:PlanOk T ops N H0 la ss)(hlowH:lT H0.length H0):lT H0.length (cB (dn l) ss (H0++alX (dn l) la)):=
 DY (Rn hlowH λa ha=>(hp.la2 a ha).2) λs hs=>(hp.ss1 s hs).2.1
theorem PlanOk.box(hp:PlanOk T ops N H0 la ss)(hcl:Clo ops l){s:AlS}(hsm:s∈ss)(hj:∀os,ops[s.i]?=some os->∀e∈os.after,Region.binds .any e=true->l.getD e.on false=true):∃bt c',(cB (dn l) ss (H0++alX (dn l) la))[s.j]?=some (.box bt c')/\s.off+s.l.length<=c'.length:=by
 obtain⟨_,_,ht,bt,cells,q8,q10⟩:=hp.ss1 s hsm
 have:(H0++alX (dn l) la)[s.j]?=some (.box bt cells):=by
  rcases afZ s.j H0.length with hlt|hge
  ·grind
  ·rw[afW hge,sT]at q8 ⊢;cases hb:la[s.j-H0.length]? with
   |none=>rw[hb]at q8;cases q8
   |some b=>
    rw[hb]at q8;simp only[agt]at q8 ⊢;rw[show dn l b.i=true from kO hcl hj (AN ht hb (by omega))];exact q8
 obtain⟨c',b1,b2⟩:=CT (f:=dn l) this (ss:=ss);grind
theorem qp{H:List Item}{G:List Value}{w:World}{a:Act}{L:SL}{s:AlS}{oj:Oper}{bt:Nat}{c':List SV}{K:Act->World->Prop}{Qx:Exit->Act->World->Prop}(hT:eM P T=true)(hE:ln P E)(hI:inv w0)(hoj:ops[s.i]?=some oj)(hst:pW T L s oj)(b1:H[s.j]?=some (.box bt c'))(b2:s.off+s.l.length<=c'.length)
  (hr:SR Z w0 H G w) (hf:FR Z N L H G w a) (hx:X H G w) (hX:∀H G w H' G' w',X H G w->Ev Z fl H G w H' G' w'->X H' G' w')
  (hK:∀G' w',SR Z w0 (stP s H) G' w'->FR Z N L (stP s H) G' w' a->X (stP s H) G' w'->K a w'):wpOp P ops Qx s.i K a w:=by
 obtain⟨t,x,v,sv,y,q1,q2,q3,q4,q5,q6,q7,q9⟩:=hst
 have hstP:stP s H=H.set s.j (.box bt (nD c' s.off s.l)):=by
  unfold stP;rw[b1]
 have heop:eop T E fl L H oj (λs H' L'=>some (s,H',L'))=some (.undef,stP s H,L):=by
  unfold eop;rw[q1];dsimp only;rw[q4,q5,q6];dsimp only;rw[b1,Fh q7];dsimp only;rw[show Nat.beq s.l.length y.ty.n=true by rw[q9];exact ahV _,afM (show s.off+s.l.length<=c'.length by omega),hstP];rfl
 unfold wpOp;simp only[hoj];rw[af2 (by simp[Region.wanted,q2])];refine .inl ?_;refine tz hT hE hI hr hf heop λs' H' L1 G' w' v' k1 k2 k3 k4 k5=>?_;injection k1 with k1;injection k1 with k1 k1';injection k1' with k1' k1'';subst k1 k1' k1'';rw[q3];exact hK G' w' k2 k3 (hX _ _ _ _ _ _ hx k5.ev)
end
theorem Ca{l:Array Bool}{H0:List Item}{L0:SL}{la:List AlA}{s:AlS}{o:Oper}{Ha:List Item}(h:RI T ops la H0.length (fW (λ_=>true) la H0.length L0) Ha s o)(hcl:Clo ops l)(hj:∀os,ops[s.i]?=some os->∀e∈os.after,Region.binds .any e=true->l.getD e.on false=true):pW T (fW (dn l) la H0.length L0) s o:=by
 obtain⟨t,x,v,sv,y,bt,cells,q1,q2,q3,q4,q5,q6,q7,q8,q9,q10,q11,q12,q13⟩:=h
 have hopd:∀{z:Operand} {sz:SV},(∀a∈la,I1 z a.d=true->gH ops 4 s.i a.i=true)->opS (fW (λ_=>true) la H0.length L0) z=some sz->opS (fW (dn l) la H0.length L0) z=some sz:=by
  intro z sz hw hz;cases z with
  |tmp u=>
   rw[<-hz];refine iE (λb hb e=>?_) rfl;exact kO hcl hj (hw b hb (by simp[I1,e]))
  |_=>exact hz
 exact⟨t,x,v,sv,y,q1,q2,q3,hopd (λb hb h=>q12 b hb (by rw[h];rfl)) q4,hopd (λb hb h=>q12 b hb (by rw[h,Bool.or_true])) q5,q6,q7,q9⟩
set_option maxHeartbeats 1000000 in
theorem RQ{H0:List Item}{L0:SL}{l0:Array Bool}{la:List AlA}{ss:List AlS}(hT:eM P T=true)(hE:ln P E)(hI:inv w0)
  (hA:alA T N ops.toList 0=some la) (hS:alS T E ops l0 la H0.length (fW (λ_=>true) la H0.length L0) (H0++alX (λ_=>true) la) ops.toList 0=some ss) (hD:Es ops l0 (la.map (·.i)++ss.map (·.i))=true) (hW:Gt E ops l0 (la.map (·.i)++ss.map (·.i))=true)
  (hlowH:lT H0.length H0) (hlowL:∀t s,aJ L0 t=some s->s.refsT H0.length=true) (hfl:fl<=H0.length) (hl0:l0.size=ops.size)
  (hX:∀H G w H' G' w',X H G w->Ev Z fl H G w H' G' w'->X H' G' w')
  (hEnd:∀(n:Nat) (l:Array Bool) G w a,cu l<=n->l.size=ops.size->(∀k,l0.getD k false=true->l.getD k false=true)->(∀k∈la.map (·.i)++ss.map (·.i),l.getD k true=true)->(∀k,l.getD k true=true->l0.getD k true=true\/k∈la.map (·.i)++ss.map (·.i))->Clo ops l->SR Z w0 (cB (λ_=>true) ss (H0++alX (λ_=>true) la)) G w->FR Z N (fW (λ_=>true) la H0.length L0) (cB (λ_=>true) ss (H0++alX (λ_=>true) la)) G w a->X (cB (λ_=>true) ss (H0++alX (λ_=>true) la)) G w->wpG P ops Q (λ_=>True) n l a w):
  ∀(n:Nat) (l:Array Bool),cu l<=n->l.size=ops.size->(∀k,l0.getD k false=true->l.getD k false=true)->(∀k,l.getD k true=true->l0.getD k true=true\/k∈la.map (·.i)++ss.map (·.i))->Clo ops l->∀(G:List Value) (w:World) (a:Act),
   SR Z w0 (cB (dn l) ss (H0++alX (dn l) la)) G w->FR Z N (fW (dn l) la H0.length L0) (cB (dn l) ss (H0++alX (dn l) la)) G w a->X (cB (dn l) ss (H0++alX (dn l) la)) G w->wpG P ops Q (λ_=>True) n l a w:=by
 obtain⟨a1,a2,a3⟩:=oo hA;obtain⟨s1,s2,s3⟩:=mc hS;have hp:=vI hA hS
 have cov:∀{l:Array Bool},(∀k,l0.getD k false=true->l.getD k false=true)->∀{k:Nat} {o:Oper},ops[k]?=some o->l.getD k true=false->(∃(r:Nat) (x:AlA),la[r]?=some x/\x.i=k/\aV o=true)\/(∃s∈ss,s.i=k/\aV o=false)\/(fp E o=true/\l0.getD k true=false):=by
  intro l hsub k o ho hu;have hk:ops.toList[k]?=some o:=by rw[ag8];exact ho
  cases hal:aV o with
  |true=>
   obtain⟨r,x,h1,h2,_⟩:=a1 k o hk hal;exact .inl ⟨r,x,h1,by omega,rfl⟩
  |false=>
   right;have hlt:k<l0.size:=by rw[hl0];exact(afE.1 ho).1
   have h0:l0.getD (0+k) true=false:=by
    rw[afY];cases hq:l0.getD k true with
    |false=>rfl
    |true=>
     rw[<-jJ hlt]at hq;have:=hsub k hq;rcases afZ k l.size with h'|h'
     ·rw[jJ h',hu]at this;cases this
     ·simp[ag1 h']at hu
   cases ht:fp E o with
   |true=>rw[afY]at h0;exact .inr ⟨rfl,h0⟩
   |false=>
    obtain⟨s,h1,h2⟩:=s1 k o hk h0 hal ht;exact .inl ⟨s,h1,by omega,rfl⟩
 have fin:∀{n:Nat} {l:Array Bool},cu l<=n->l.size=ops.size->(∀k,l0.getD k false=true->l.getD k false=true)->(∀k,l.getD k true=true->l0.getD k true=true\/k∈la.map (·.i)++ss.map (·.i))->Clo ops l->(∀k∈la.map (·.i)++ss.map (·.i),l.getD k true=true)->∀{G:List Value} {w:World} {a:Act},SR Z w0 (cB (dn l) ss (H0++alX (dn l) la)) G w->FR Z N (fW (dn l) la H0.length L0) (cB (dn l) ss (H0++alX (dn l) la)) G w a->X (cB (dn l) ss (H0++alX (dn l) la)) G w->wpG P ops Q (λ_=>True) n l a w:=by
  intro n l hcu hl hsub hin hcl hall G w a hr hf hx;have e1:∀x∈la,dn l x.i=true:=λx hx=>hall _ (ags _ (agE.2 ⟨x,hx,rfl⟩));have e2:∀s∈ss,dn l s.i=true:=λs hs=>hall _ (ag9 _ (agE.2 ⟨s,hs,rfl⟩))
  have e3:alX (dn l) la=alX (λ_=>true) la:=by
   unfold alX;exact List.map_congr_left λx hx=>by rw[e1 x hx]
  have e4:cB (dn l) ss (H0++alX (dn l) la)=cB (λ_=>true) ss (H0++alX (λ_=>true) la):=by
   rw[e3];exact kj e2
  rw[e4]at hr hf hx;refine hEnd n l G w a hcu hl hsub hall hin hcl hr ⟨hf.defers,hf.size,λt s hs=>hf.slot t s ?_⟩ hx;rw[<-hs];exact iE (λx hx _=>e1 x hx) rfl
 intro n;induction n with
 |zero=>
  intro l hcu hl hsub hin hcl G w a hr hf hx;exact fin hcu hl hsub hin hcl (λk _=>QM (l:=l) (by omega) k) hr hf hx
 |succ n ih=>
  intro l hcu hl hsub hin hcl G w a hr hf hx;by_cases hC:∀k∈la.map (·.i)++ss.map (·.i),l.getD k true=true
  ·exact fin hcu hl hsub hin hcl hC hr hf hx
  have hC':∃k∈la.map (·.i)++ss.map (·.i),l.getD k true=false:=by
   apply afF;intro hn;refine hC λk hk=>?_;cases hq:l.getD k true with
   |true=>rfl
   |false=>exact(hn ⟨k,hk,hq⟩).elim
  refine⟨λh=>(vU hl hD hsub hC' h).elim,λj hj=>?_⟩;obtain⟨hju,oj,hoj,hdep⟩:=agv.1 hj
  have hin':∀{i:Nat},i∈la.map (·.i)++ss.map (·.i)->∀k,(l.setIfInBounds i true).getD k true=true->l0.getD k true=true\/k∈la.map (·.i)++ss.map (·.i):=λ{i} hi k hk=>by
   have:=iY l i k;rw[show dn (l.setIfInBounds i true) k=true from hk]at this;by_cases e:k=i
   ·subst e;exact .inr hi
   ·rw[afQ e]at this;exact hin k this.symm
  have hsub':∀k,l0.getD k false=true->(l.setIfInBounds j true).getD k false=true:=λk hk=>aii (hsub k hk);have hcu':cu (l.setIfInBounds j true)<=n:=by have:=yA hju;omega
  have hjr:∀os,ops[j]?=some os->∀e∈os.after,Region.binds .any e=true->l.getD e.on false=true:=λos hos e he hb=>by rw[hoj]at hos;injection hos with hos;subst hos;exact hdep e he hb
  rcases cov hsub hoj hju with⟨r,x,h1,h2,hal⟩|⟨s,hsm,h2,hal⟩|⟨ht,hu0⟩
  ·-- an allocation
   subst h2;obtain⟨r',x',g1,g2,g3,g4,y,g5,g6⟩:=H6 hA hoj hal
   have e:r'=r:=by
    by_cases hh:r'=r
    ·exact hh
    ·exact absurd g2 (MQ a3 h1 g1 hh).1
   subst e;rw[h1]at g1;injection g1 with g1;subst g1;obtain⟨hset,hgone⟩:=hp.setA hcl hl h1 hju;refine qX (L':=fW (dn (l.setIfInBounds x.i true)) la H0.length L0) hT hoj hal h1 g3 g4 g5 ⟨y,g6⟩ a3 hju hgone (hp.low hlowH) (Qj hlowL) hfl hr hf hx hX (AZ (iY l x.i) a3 h1) λv G' w' _ k1 k2 k3=>⟨.inr trivial,?_⟩
   rw[<-hset]at k1 k2 k3;exact ih _ hcu' (by simpa using hl) hsub' (hin' (ags _ (agE.2 ⟨x,afV h1,rfl⟩))) (hcl.set hj) G' w' _ k1 k2 k3
  ·-- a store
   subst h2;obtain⟨_,_,o,ho,_,hok⟩:=s2 s hsm;rw[Nat.sub_zero,ag8,hoj]at ho;injection ho with ho;subst ho;obtain⟨bt,c',b1,b2⟩:=hp.box hcl hsm hjr;refine qp (fl:=fl) hT hE hI hoj (Ca hok hcl hjr) b1 b2 hr hf hx hX λG' w' k2 k3 k5=>⟨.inr trivial,?_⟩
   rw[<-hp.setS hsm hju]at k2 k3 k5;refine ih _ hcu' (by simpa using hl) hsub' (hin' (ag9 _ (agE.2 ⟨s,hsm,rfl⟩))) (hcl.set hj) G' w' _ k2 ?_ k5;exact⟨k3.defers,k3.size,λu su hs=>k3.slot u su (by rw[<-iE (λx hx _=>(hp.same hoj hal).2 x hx) rfl];exact hs)⟩
  ·-- a tame one waits for all
   exfalso;obtain⟨k,hk,hku⟩:=hC';have hw:=afI.1 hW j (List.mem_range.2 (afE.1 hoj).1);unfold dZ at hw;rw[hu0,hoj]at hw;dsimp only at hw;rw[ht]at hw;simp only[Bool.not_true,Bool.or_false,Bool.false_or]at hw;have:=kO hcl hjr (afI.1 hw k hk);rw[hku]at this;cases this
end
end
end Go.Proofs.YtagbmoohboleaaaGreat
end
