/- The pure machine and the machine: slots, loop heads, waiting calls. -/
import Derived.Test.YtagbmoohboleaaaGreatJ3
noncomputable section
namespace Go.Proofs.YtagbmoohboleaaaGreat
open Go.RowKit Go.IntKind
theorem ang:type_of% @Classical.byContradiction:=@Classical.byContradiction
theorem anv:type_of% @List.getElem?_cons_succ:=@List.getElem?_cons_succ
theorem anE:type_of% @List.pairwise_cons:=@List.pairwise_cons
theorem anX:type_of% @List.getElem?_cons_zero:=@List.getElem?_cons_zero
theorem aou:type_of% @List.getElem?_set_ne:=@List.getElem?_set_ne
theorem aov:type_of% @List.mem_append_left:=@List.mem_append_left
theorem aoA:type_of% @List.getElem?_set_self:=@List.getElem?_set_self
theorem aoF:type_of% @List.length_map:=@List.length_map
theorem aoG:type_of% @Array.getElem?_toList:=@Array.getElem?_toList
theorem aoP:type_of% @List.mem_map:=@List.mem_map
theorem aoZ:type_of% @List.mem_append_right:=@List.mem_append_right
theorem ape:type_of% @List.getElem_of_mem:=@List.getElem_of_mem
theorem apo:type_of% @List.mem_singleton:=@List.mem_singleton
theorem apw:type_of% @Nat.beq_refl:=@Nat.beq_refl
theorem apI:type_of% @List.all_cons:=@List.all_cons
theorem apL:type_of% @Bool.or_eq_false_iff:=@Bool.or_eq_false_iff
section
theorem Bn{d:Nat}{L:SL}{t:Nat}{s:SV}(h:aP (oh L d) t=some s):aP L t=some s:=h
theorem iC{d:Nat}{x:SV}{L:SL}{t:Nat}{s:SV}(h:aP ((d,x)::L) t=some s):(t=d/\s=x)\/(t≠d/\aP L t=some s):=by
 simp only[aP]at h;split at h
 ·simp_all
 ·refine .inr ⟨λe=>?_,h⟩;simp_all
theorem iH{L:SL}:∀{ts:List Nat} {t:Nat} {s:SV},aP (iR L ts) t=some s->aP L t=some s
 |[],_,_,h=>by simp[iR,aP]at h
 |u::ts,t,s,h=>by
  simp only[iR]at h;split at h
  ·rename_i x hx;rcases iC h with⟨rfl,rfl⟩|⟨_,h1⟩
   ·exact hx
   ·exact iH h1
  ·exact iH h
theorem rC{N:NT}{f i:Nat}{L:SL}{t:Nat}{s:SV}(h:aP (Ho N f i L) t=some s):aP L t=some s:=by
 unfold Ho at h;split at h
 ·exact iH h
 omega
theorem xH{L:SL}:∀{ts:List Nat} {L':SL},ES L ts=some L'->∀t s,aP L' t=some s->aP L t=some s
 |[],L',h,t,s,hs=>by simp only[ES,am5]at h;subst h;simp[aP]at hs
 |u::ts,L',h,t,s,hs=>by
  simp only[ES]at h;split at h<;>try (cases h;done)
  rename_i x r h1 h2;injection h with h;subst h;rcases iC hs with⟨rfl,rfl⟩|⟨_,h3⟩
  ·exact h1
  ·exact xH h2 t s h3
theorem Al:∀{L:SL} {t:Nat} {s:SV},aP L t=some s->(t,s)∈L
 |[],_,_,h=>by simp[aP]at h
 |(k,x)::r,t,s,h=>by
  rcases iC h with⟨rfl,rfl⟩|⟨_,h3⟩
  ·simp
  ·simp[Al h3]
theorem ur{k:Nat}{s:SV}(h:∀l,s≠.tup l):s.refsT k=s.refs k:=by cases s<;>first|rfl|exact(h _ rfl).elim
theorem yD{fl j:Nat}{s:SV}(h:s.refs fl=true)(ho:s.of1 j=true):j<fl:=by
 cases s<;>simp only[SV.of1,Bool.false_eq_true]at ho
 ·have:=am1 ho;subst this;exact am3 h
 ·have:=am1 ho;subst this;exact am3 h
 ·have:=am1 ho;subst this;exact am3 h
section
variable {Z:Nat->Prop} {w0:World} {n:Nat} {L L':SL} {H H':List Item} {G G':List Value} {w w':World} {a:Act} {F:FT}
theorem FR.put{d:Option Nat}{s:SV}{v:Value}(h:FR Z n L H G w a)(hp:ik n L d s=some L')(hv:Rel G (Av Z H G) w s v):FR Z n L' H G w (a.put d v):=by
 cases d with
 |none=>simp only[ik,am5]at hp;subst hp;exact h
 |some d=>
  simp only[ik]at hp;split at hp<;>try (cases hp;done)
  rename_i hd;have hd:=am3 hd;injection hp with hp;subst hp;refine⟨h.defers,by simp[Act.put,h.size],λt s' hs=>?_⟩;simp only[Act.put,Array.getElem?_setIfInBounds,h.size];rcases iC hs with⟨rfl,rfl⟩|⟨hne,h3⟩
  ·grind
  ·have h4:=Bn h3;obtain⟨u,h5,h6⟩:=h.slot t s' h4;grind
theorem FR.say{d:Nat}{s:SV}{v:Value}(h:FR Z n L H G w a)(hd:a.tmps[d]?=some v)(hv:Rel G (Av Z H G) w s v):FR Z n ((d,s)::oh L d) H G w a:=
 ⟨h.defers,h.size,λt s' hs=>by
  rcases iC hs with⟨rfl,rfl⟩|⟨hne,h3⟩
  ·exact⟨v,hd,hv⟩
  ·exact h.slot t s' (Bn h3)⟩
theorem uA(hr:SR Z w0 H G w){s:SV}{v:Value}(h:Rel1 G (Av Z H G) w s v):s.refs H.length=true:=by
 have lt:∀(j:Nat) g,G[j]?=some g->Nat.ble (j+1) H.length=true:=λj g hg=>anr (by rw[<-hr.len];exact(am7.1 hg).1);cases s with
 |box j off=>obtain⟨b,h1,_⟩:=h;exact lt j _ h1
 |own j=>exact lt j _ h
 |oelt j sz i off=>obtain⟨b,m,c,h1,_⟩:=h;exact lt j _ h1
 |osl j sz lo n=>obtain⟨g,q,c,h1,_⟩:=h;exact lt j _ h1
 |clo f caps=>
  obtain⟨bs,h1,_⟩:=h;refine anl.2 λj hj=>?_;obtain⟨k,hk,rfl⟩:=ape hj;obtain⟨b,_,hb⟩:=jx h1 k _ (amX hk);grind
 |tup l=>exact h.elim
 |_=>rfl
theorem nR(hr:SR Z w0 H G w){s:SV}{v:Value}(h:Rel G (Av Z H G) w s v):s.refsT H.length=true:=by
 cases s with
 |tup l=>
  obtain⟨vs,_,h2⟩:=h;refine anl.2 λs hs=>?_;obtain⟨k,hk,rfl⟩:=ape hs;obtain⟨b,_,hb⟩:=jx h2 k _ (amX hk);grind [uA]
 |_=>rw[ur (λl e=>by cases e)];exact uA hr (oa h (λl e=>by cases e))
def Ev(Z:Nat->Prop)(fl:Nat)(H:List Item)(G:List Value)(w:World)(H':List Item)(G':List Value)(w':World):Prop:=∀s v,Rel1 G (Av Z H G) w s v->s.refs fl=true->Rel1 G' (Av Z H' G') w' s v
theorem Chg.ev{fl:Nat}{st ap:Bool}(h:Chg Z fl st ap H G w H' G' w'):Ev Z fl H G w H' G' w':=λs v hs hr=>h.pres s v hs λ_j hj=>yD hr hj
def DOk(F:FT)(fm:Fm):Prop:=∀D,fm.d=some D->Clo (ak (nth (aj F fm.f) fm.i)) (mkL (ak (nth (aj F fm.f) fm.i)).size D)/\Region.noSelect (ak (nth (aj F fm.f) fm.i))=true/\D.length<=(ak (nth (aj F fm.f) fm.i)).size
def FrsOk(Z:Nat->Prop)(F:FT)(H:List Item)(G:List Value)(w:World):Nat->List Fm->List Act->Prop
 |_,[],[]=>True
 |fl,fm::fs,a::ats=>FR Z (ntm F fm.f) fm.L H G w a/\(∀t s,aP fm.L t=some s->s.refsT fl=true)/\(fm.fl<=fl/\(∃fn,gX F fm.f=some fn)/\DOk F fm)/\FrsOk Z F H G w fm.fl fs ats
 |_,_,_=>False
theorem rG{k l:Nat}(h:k<=l){s:SV}(hs:s.refs k=true):s.refs l=true:=by
 have b:∀j,Nat.ble (j+1) k=true->Nat.ble (j+1) l=true:=λj hj=>anr (am9 (am3 hj) h);cases s with
 |box j off=>exact b j hs
 |own j=>exact b j hs
 |oelt j sz i off=>exact b j hs
 |osl j sz i off=>exact b j hs
 |clo f caps=>exact anl.2 λj hj=>b j (anl.1 hs j hj)
 |tup l=>cases hs
 |_=>rfl
theorem F5{k l:Nat}(h:k<=l){s:SV}(hs:s.refsT k=true):s.refsT l=true:=by
 cases s with
 |tup l=>exact anl.2 λs hm=>rG h (anl.1 hs s hm)
 |_=>rw[ur (λl e=>by cases e)]at hs ⊢;exact rG h hs
theorem Rel.ev{fl:Nat}(he:Ev Z fl H G w H' G' w'){s:SV}{v:Value}(h:Rel G (Av Z H G) w s v)(hr:s.refsT fl=true):Rel G' (Av Z H' G') w' s v:=by
 cases s with
 |tup l=>
  obtain⟨vs,h1,h2⟩:=h;refine⟨vs,h1,?_⟩;clear h1;induction l generalizing vs with
  |nil=>cases vs<;>exact h2
  |cons s l ih=>
   simp only[SV.refsT,apI,am0]at hr;match vs,h2 with
   |v::vs,⟨g1,g2⟩=>exact⟨he s v g1 hr.1,ih hr.2 vs g2⟩
 |_=>rw[ur (λl e=>by cases e)]at hr;exact fk (he _ _ (oa h (λl e=>by cases e)) hr)
theorem FrsOk.ev{fl:Nat}(he:Ev Z fl H G w H' G' w'):∀{fl':Nat} {fs:List Fm} {ats:List Act},fl'<=fl->FrsOk Z F H G w fl' fs ats->FrsOk Z F H' G' w' fl' fs ats
 |_,[],[],_,_=>trivial
 |fl',fm::fs,a::ats,hle,⟨h1,h2,h3,h4⟩=>⟨⟨h1.defers,h1.size,λt s hs=>by
   obtain⟨v,g1,g2⟩:=h1.slot t s hs;exact⟨v,g1,g2.ev he (F5 hle (h2 t s hs))⟩⟩,h2,h3,FrsOk.ev he (am9 h3.1 hle) h4⟩
 |_,[],_::_,_,h=>h.elim
 |_,_::_,[],_,h=>h.elim
theorem w8{a b k:Nat}:Ox a b<=k↔a<=k/\b<=k:=by grind [Ox,am3,anr]
theorem Jw{k j:Nat}{s:SV}(h:s.ofm<=k)(ho:s.of1 j=true):j<k:=by
 cases s<;>simp only[SV.of1,Bool.false_eq_true]at ho;all_goals (have:=am1 ho;subst this;exact h)
theorem Xg{s:SV}(h:∀l,s≠.tup l):s.ofmT=s.ofm:=by cases s<;>first|rfl|exact(h _ rfl).elim
theorem DE{k:Nat}:∀{L:SL} {t:Nat} {s:SV},slM L<=k->aP L t=some s->s.ofmT<=k
 |[],_,_,_,h=>by simp[aP]at h
 |(q,x)::r,t,s,hk,h=>by
  obtain⟨h1,h2⟩:=w8.1 hk;rcases iC h with⟨rfl,rfl⟩|⟨_,h3⟩
  ·exact h1
  ·exact DE h2 h3
theorem Rel.evF{k:Nat}(he:∀s v,Rel1 G (Av Z H G) w s v->(∀j,s.of1 j=true->j<k)->Rel1 G' (Av Z H' G') w' s v){s:SV}{v:Value}(h:Rel G (Av Z H G) w s v)(hr:s.ofmT<=k):Rel G' (Av Z H' G') w' s v:=by
 cases s with
 |tup l=>
  obtain⟨vs,h1,h2⟩:=h;refine⟨vs,h1,?_⟩;clear h1;induction l generalizing vs with
  |nil=>cases vs<;>exact h2
  |cons s l ih=>
   obtain⟨r1,r2⟩:=w8.1 hr;match vs,h2 with
   |v::vs,⟨g1,g2⟩=>exact⟨he s v g1 λj hj=>Jw r1 hj,ih r2 vs g2⟩
 |_=>rw[Xg (λl e=>by cases e)]at hr;exact fk (he _ _ (oa h (λl e=>by cases e)) λj hj=>Jw hr hj)
theorem FrsOk.evF{k:Nat}(he:∀s v,Rel1 G (Av Z H G) w s v->(∀j,s.of1 j=true->j<k)->Rel1 G' (Av Z H' G') w' s v):∀{fl':Nat} {fs:List Fm} {ats:List Act},SK fs<=k->FrsOk Z F H G w fl' fs ats->FrsOk Z F H' G' w' fl' fs ats
 |_,[],[],_,_=>trivial
 |fl',fm::fs,a::ats,hle,⟨h1,h2,h3,h4⟩=>⟨⟨h1.defers,h1.size,λt s hs=>by
   obtain⟨v,g1,g2⟩:=h1.slot t s hs;exact⟨v,g1,g2.evF he (DE (w8.1 hle).1 hs)⟩⟩,h2,h3,FrsOk.evF he (w8.1 hle).2 h4⟩
 |_,[],_::_,_,h=>h.elim
 |_,_::_,[],_,h=>h.elim
theorem tk{fl:Nat}:∀{l:List (Nat×Nat×Ty)} {L:SL} {H:List Item} {G:List Value},SR Z w0 H G w->FR Z n L H G w a->fl<=H.length->rK l L H=some (L',H')->∃G',SR Z w0 H' G' w/\FR Z n L' H' G' w a/\Ev Z fl H G w H' G' w/\fl<=H'.length
 |[],L,H,G,hr,hf,hfl,h=>by
  simp only[rK,am5,anA]at h;obtain⟨rfl,rfl⟩:=h;exact⟨G,hr,hf,λs v h _=>h,hfl⟩
 |(t,et,e)::l,L,H,G,hr,hf,hfl,h=>by
  simp only[rK]at h;split at h
  ·rename_i hs;split at h<;>try (cases h;done)
   rename_i hn;have hn:=am3 hn;obtain⟨v,h1,h2⟩:=hf.slot t _ hs;have h2:v=.slice none 0 0:=h2;subst h2;obtain⟨G1,k1,k2,k3,k4⟩:=mH (et:=et) (e:=e) (xs:=[]) (css:=[]) hr hf (ap5 _ _) (World.ownsRow_nil w _ _ _) hn trivial fl false false;obtain⟨G2,g1,g2,g3,g4⟩:=tk (fl:=fl) k1 (k2.say h1 k3) (by simp;omega) h;exact⟨G2,g1,g2,λs v hs hrf=>g3 s v (k4.ev s v hs hrf) hrf,g4⟩
  ·exact tk hr hf hfl h
theorem mC{fl:Nat}:∀{l:List (Nat×Ty)} {L:SL} {H:List Item},SR Z w0 H G w->FR Z n L H G w a->fl<=H.length->lz fl l L H=some (L',H')->SR Z w0 H' G w/\FR Z n L' H' G w a/\Ev Z fl H G w H' G w/\fl<=H'.length
 |[],L,H,hr,hf,hfl,h=>by
  simp only[lz,am5,anA]at h;obtain⟨rfl,rfl⟩:=h;exact⟨hr,hf,λs v h _=>h,hfl⟩
 |(t,e)::l,L,H,hr,hf,hfl,h=>by
  simp only[lz]at h;split at h
  ·rename_i hs;obtain⟨v,h1,h2⟩:=hf.slot t _ hs;have h2:v=.slice none 0 0:=h2;subst h2;exact mC hr (hf.say (s:=.d (.sl e) []) h1 ⟨[_],zF,rfl⟩) hfl h
  ·rename_i j hs;split at h<;>try (cases h;done)
   rename_i L1 H1 hg;have hfz:ql fl [.tmp t] L H=some (L1,H1):=by simp only[ql,opS,hs,hg]
   obtain⟨g1,g2,g3,_,_⟩:=lY hr hf hfz
   have hlen:H1.length=H.length:=by
    unfold vF at hg;split at hg<;>try (cases hg;done)
    simp only[am5,anA]at hg;rw[<-hg.2];simp
   obtain⟨k1,k2,k3,k4⟩:=mC g1 g2 (by omega) h;exact⟨k1,k2,λs v hs hrf=>k3 s v (g3 s v hs λj hj=>yD hrf hj) hrf,k4⟩
  ·exact mC hr hf hfl h
theorem jX{α:Type}{l:List α}{k j:Nat}{x:α}(h:(l.take k)[j]?=some x):j<k/\l[j]?=some x:=by grind
theorem CK(hl:Nat){b:Nat}(h:Av Z H G b):Av Z (H.take hl) (G.take hl) b:=⟨h.1,λj it g h1 h2 h3=>h.2 j it g (jX h1).2 h2 (jX h3).2⟩
theorem yS{hl:Nat}{s:SV}{v:Value}(h:Rel1 G (Av Z H G) w s v)(hs:s.refs hl=true):Rel1 (G.take hl) (Av Z (H.take hl) (G.take hl)) w s v:=by
 have hk:Keeps (Av Z H G) (Av Z (H.take hl) (G.take hl)) w w:=⟨am2 _,λb _ h=>CK hl h,λ_ _ _=>rfl⟩
 have g:∀(j:Nat) x,Nat.ble (j+1) hl=true->G[j]?=some x->(G.take hl)[j]?=some x:=λj x hj hx=>by
  grind [am3]
 cases s with
 |d t x=>obtain⟨cs,h1,h2⟩:=h;exact⟨cs,Ty.rd_keep hk h1,h2⟩
 |nil=>exact h
 |box j off=>obtain⟨b,h1,h2⟩:=h;exact⟨b,g j _ hs h1,h2⟩
 |elt e x off=>obtain⟨b,o,cs,h1,h2,h3,h4,h5⟩:=h;exact⟨b,o,cs,h1,CK hl h2,h3,Ty.rd_keep hk h4,h5⟩
 |own j=>exact g j _ hs h
 |oelt j sz i off=>obtain⟨b,m,c,h1,h2⟩:=h;exact⟨b,m,c,g j _ hs h1,h2⟩
 |cut e xs=>obtain⟨p,h1,h2⟩:=h;exact⟨p,Ty.rd_keep hk h1,h2⟩
 |osl j sz lo n=>obtain⟨x,q,c,h1,h2⟩:=h;exact⟨x,q,c,g j _ hs h1,h2⟩
 |clo f caps=>
  obtain⟨bs,h1,h2⟩:=h;refine⟨bs,?_,h2⟩;clear h2;induction caps generalizing bs with
  |nil=>cases bs<;>exact h1
  |cons c caps ih=>
   simp only[SV.refs,apI,am0]at hs;match bs,h1 with
   |b::bs,⟨q1,q2⟩=>exact⟨g c _ hs.1 q1,ih hs.2 bs q2⟩
 |tup l=>exact h
 |undef=>exact h
 |dead=>trivial
theorem VW{hl:Nat}(hr:SR Z w0 H G w)(hrf:(H.take hl).all (Item.refs hl)=true):SR Z w0 (H.take hl) (G.take hl) w:=by
 have hk:Keeps (Av Z H G) (Av Z (H.take hl) (G.take hl)) w w:=⟨am2 _,λb _ h=>CK hl h,λ_ _ _=>rfl⟩
 refine⟨by simp[hr.len],hr.below,λj it g h1 h2=>?_,λi j it jt g h b hij h1 h2 h3 h4 h5 h6 h7=>hr.disj i j it jt g h b hij (jX h1).2 (jX h2).2 h3 h4 (jX h5).2 (jX h6).2 h7,hr.zf⟩;have hi:=hr.items j it g (jX h1).2 (jX h2).2;have hir:it.refs hl=true:=anl.1 hrf it (aoa h1);cases it with
 |gone=>trivial
 |row et e xs=>obtain⟨css,k1,k2,k3⟩:=hi;exact⟨css,k1,bS (λ_ _ h=>Ty.rd_keep hk h) k2,k3⟩
 |box t cs=>
  obtain⟨b,vs,rfl,k1,k2,k3⟩:=hi;refine⟨b,vs,rfl,k1,k2,?_⟩;clear k2 h1;induction cs generalizing vs with
  |nil=>cases vs<;>exact k3
  |cons s l ih=>
   simp only[Item.refs,apI,am0]at hir;match vs,k3 with
   |v::vs,⟨q1,q2⟩=>exact⟨yS q1 hir.1,ih hir.2 vs q2⟩
structure CR (Z:Nat->Prop) (F:FT) (w0:World) (c:Cfg) (G:List Value) (w:World) (a:Act) (ats:List Act):Prop where
 sr:SR Z w0 c.H G w
 fr:FR Z (ntm F c.f) c.L c.H G w a
 fl:c.fl<=c.H.length
 frs:FrsOk Z F c.H G w c.fl c.fs ats
theorem DP{R:SV->Value->Prop}{s:SV}(hs:∀v,R .nil v->R s v):∀{cs:List SV} {vs:List Value} {q:Nat},cj R cs vs->cs[q]?=some .nil->cj R (cs.set q s) vs
 |[],_,_,_,h=>by simp at h
 |c::cs,[],_,h,_=>h.elim
 |c::cs,v::vs,0,⟨h1,h2⟩,h=>by
  simp only[anX,am5]at h;subst h;exact⟨hs v h1,h2⟩
 |c::cs,v::vs,q+1,⟨h1,h2⟩,h=>by
  rw[anv]at h;exact⟨h1,DP hs h2 h⟩
theorem rj{fl:Nat}:∀{l:List (Nat×Nat×Nat×Ty)} {H:List Item} {G:List Value},SR Z w0 H G w->FR Z n L H G w a->fl<=H.length->∃G',SR Z w0 (oo l H) G' w/\FR Z n L (oo l H) G' w a/\Ev Z fl H G w (oo l H) G' w/\fl<=(oo l H).length
 |[],H,G,hr,hf,hfl=>⟨G,hr,hf,λs v h _=>h,hfl⟩
 |(j,q,et,e)::l,H,G,hr,hf,hfl=>by
  simp only[oo];split
  ·rename_i t cs hj;split
   ·rename_i hq hn;have hn:=am3 hn;obtain⟨G1,k1,k2,k3,k4⟩:=mH (et:=et) (e:=e) (xs:=[]) (css:=[]) hr hf (ap5 _ _) (World.ownsRow_nil w _ _ _) hn trivial fl false false;have hlt:=(am7.1 hj).1;have hj1:(H++[.row et e []])[j]?=some (.box t cs):=by rw[anj hlt];exact hj
    have hst:=qE (it':=.box t (cs.set q (.own H.length))) k1 hj1 rfl k1.below (am2 _) (λ_ _ _=>rfl)
    have hsr:=Cu (it':=.box t (cs.set q (.own H.length))) k1 hj1 rfl k1.below (am2 _) (λ_ _ _=>rfl) (λg hg=>by
     obtain⟨b,vs,e1,e2,e3,e4⟩:=k1.items j _ g hj1 hg;refine⟨b,vs,e1,e2,e3,DP (λv hv=>?_) (bS (λs v h=>dR k1 hst h) e4) hq⟩;have hv:v=.slice none 0 0:=hv;subst hv;exact k3)
    rw[List.set_append,anp hlt]at hsr hst;obtain⟨G2,g1,g2,g3,g4⟩:=rj (fl:=fl) (l:=l) hsr (k2.keep λs v h=>dR k1 hst h) (by simp;omega);exact⟨G2,g1,g2,λs v hs hrf=>g3 s v (dR k1 hst (k4.ev s v hs hrf)) hrf,g4⟩
   ·exact rj hr hf hfl
  ·exact rj hr hf hfl
theorem VL{x:NI}{c c':Cfg}{ats:List Act}(h:afh x c=some c')(hc:CR Z F w0 c G w a ats):∃G',CR Z F w0 c' G' w a ats/\c'.f=c.f/\c'.K=c.K/\c'.fs=c.fs:=by
 unfold afh at h;split at h<;>try (cases h;done)
 rename_i L1 H1 h1;split at h<;>try (cases h;done)
 rename_i L2 H2 h2;split at h<;>try (cases h;done)
 rename_i L3 h3;split at h<;>try (cases h;done)
 rename_i hb;injection h with h;subst h;simp only[am0]at hb;obtain⟨⟨b1,b2⟩,b3⟩:=hb;obtain⟨G0,f1,f2,f3,f4⟩:=rj (l:=x.bx) hc.sr hc.fr hc.fl;obtain⟨G1,g1,g2,g3',g4⟩:=tk f1 f2 f4 h1;have g3:Ev Z c.fl c.H G w H1 G1 w:=λs v hs hr=>g3' s v (f3 s v hs hr) hr;obtain⟨k1,k2,k3,k4⟩:=mC g1 g2 g4 h2;have b3':=am3 b3;have hev:Ev Z c.fl c.H G w (H2.take x.hl) (G1.take x.hl) w:=λs v hs hrf=>yS (k3 s v (g3 s v hs hrf) hrf) (rG b3' hrf);refine⟨G1.take x.hl,⟨VW k1 b2,⟨k2.defers,k2.size,λt s hs=>?_⟩,by simp;omega,hc.frs.ev hev (am2 _)⟩,rfl,rfl,rfl⟩;obtain⟨v,q1,q2⟩:=k2.slot t s (xH h3 t s hs);have hrf:s.refs x.hl=true:=anl.1 b1 (t,s) (Al hs);exact⟨v,q1,fk (yS (oa q2 λl e=>by subst e;cases hrf) hrf)⟩
end
end
section
def jy(P:Program)(fn:Func)(R:Ending->World->Prop)(B:Code):List KJ->List KI
 |[]=>[]
 |.seq i::K=>.seq i::jy P fn R B K
 |.blk id::K=>.blk id::jy P fn R B K
 |.lp i::K=>.lp (InLoop P (nth B (i+1)) (jl P fn R B (jy P fn R B K)))::jy P fn R B K
def gn(P:Program)(F:FT)(Rt:Ending->World->Prop):List Fm->List Act->Ending->World->Prop
 |fm::fs,a::ats=>λe w'=>∃v,e=.returned v/\∃fn o,gX F fm.f=some fn/\(ak (nth (aj F fm.f) fm.i))[fm.k]?=some o/\
   (fm.d=none->AtR P fn (gn P F Rt fs ats) (aj F fm.f) (jy P fn (gn P F Rt fs ats) (aj F fm.f) fm.K) fm.i (fm.k+1) (a.put o.dst v) w')/\
   (∀D,fm.d=some D->wpG P (ak (nth (aj F fm.f) fm.i)) (jl P fn (gn P F Rt fs ats) (aj F fm.f) (jy P fn (gn P F Rt fs ats) (aj F fm.f) fm.K)) (λ_=>True) ((ak (nth (aj F fm.f) fm.i)).size-D.length) (mkL (ak (nth (aj F fm.f) fm.i)).size D) (a.put o.dst v) w')
 |_,_=>Rt
section
variable {Z:Nat->Prop} {w0:World} {n:Nat} {L L':SL} {H H':List Item} {G G':List Value} {w w':World} {a:Act} {F:FT} {P:Program} {T:TT}
theorem gk{R:Type}{ops:Array Oper}{o:Oper}{yes no:SL->Option R}{r:R}(hf:FR Z n L H G w a)(h:dk ops L o yes no=some r):
  (∃L',yes L'=some r/\FR Z n L' H G w a/\Region.wanted o (yielded ops a.tmps)=true)\/(∃L',no L'=some r/\FR Z n L' H G w a/\Region.wanted o (yielded ops a.tmps)=false):=by
 unfold dk at h;split at h
 ·grind [Region.wanted]
 ·rename_i j want hg;split at h<;>try (cases h;done)
  rename_i d hd;split at h<;>try (cases h;done)
  ·rename_i b hb;obtain⟨v,h1,h2⟩:=hf.slot d _ hb;have hv:=uT h2;subst hv;have hy:∀b':Bool,b=b'->FR Z n ((d,.d .bool b')::oh L d) H G w a:=λb' e=>by subst e;exact hf.say h1 h2
   have hw:Region.wanted o (yielded ops a.tmps)=(b==want):=by
    simp only[Region.wanted,hg,yielded,hd,Option.bind_some,h1];cases b<;>cases want<;>rfl
   grind
  ·rename_i hb;obtain⟨v,h1,h2⟩:=hf.slot d _ hb;have h2:v=undef:=h2;subst h2;refine .inr ⟨L,h,hf,?_⟩;simp only[Region.wanted,hg,yielded,hd,Option.bind_some,h1];rfl
theorem Vb{fn:Func}{R:Ending->World->Prop}{B:Code}{K:List KI}{i k:Nat}(hk:(ak (nth B i))[k]?=none)(h:jl P fn R B K .normal a w):AtR P fn R B K i k a w:=by simp_all [rB]
theorem VC{fn:Func}{R:Ending->World->Prop}{B:Code}{K:List KI}{i k:Nat}{o:Oper}(hk:(ak (nth B i))[k]?=some o)(hw:Region.wanted o (yielded (ak (nth B i)) a.tmps)=true)
  (h:o.upon P a (λa' w'=>AtR P fn R B K i (k+1) a' w') (jl P fn R B K) ((execOp a.eval o).run P w)):AtR P fn R B K i k a w:=by
 unfold AtR
 have:(ak (nth B i)).toList.drop k=o::(ak (nth B i)).toList.drop (k+1):=by
  grind [anf]
 rw[this];unfold wpList;rw[anp hw];exact .inl h
theorem acZ{fn:Func}{R:Ending->World->Prop}{B:Code}{K:List KI}{i k:Nat}{o:Oper}(hk:(ak (nth B i))[k]?=some o)(hw:Region.wanted o (yielded (ak (nth B i)) a.tmps)=false)
  (h:AtR P fn R B K i (k+1) (a.put o.dst undef) w):AtR P fn R B K i k a w:=by
 unfold AtR
 have:(ak (nth B i)).toList.drop k=o::(ak (nth B i)).toList.drop (k+1):=by
  grind [anf]
 rw[this];unfold wpList;rwa [ank (by rw[hw];simp)]
theorem Ni(hT:fA P T=true)(hr:SR Z w0 H G w)(hf:FR Z n L H G w a):∀{rs:List ResultVar} {ss:List SV},D4 T H L rs=some ss->∃vs,cj (Rel G (Av Z H G) w) ss vs/\
  ((rs.mapM (m:=Sem) fun
   |.tmp t=>pure (a.tmps.getD t undef)
   |.cell ad t=>do loadVar t (<-asAddr (a.tmps.getD ad undef))).run P w)=.ok vs w:=by
 intro rs;induction rs with
 |nil=>intro ss h;simp only[D4,am5]at h;subst h;exact⟨[],trivial,rfl⟩
 |cons q rs ih=>
  intro ss h;rw[List.mapM_cons];cases q with
  |tmp t=>
   simp only[D4]at h;split at h<;>try (cases h;done)
   rename_i s l h1 h2;injection h with h;subst h;obtain⟨vs,g1,g2⟩:=ih h2;obtain⟨v,k1,k2⟩:=hf.slot t s h1;refine⟨v::vs,⟨k2,g1⟩,?_⟩;simp only[anW,aok,anq,aoe,k1,Option.getD_some]at g2 ⊢;rw[g2];rfl
  |cell ad t=>
   simp only[D4]at h;split at h<;>try (cases h;done)
   rename_i j off i l h1 hi h2;split at h<;>try (cases h;done)
   rename_i bt cells hj;split at h<;>try (cases h;done)
   rename_i s hl;injection h with h;subst h;obtain⟨vs,g1,g2⟩:=ih h2;obtain⟨p,k1,k2⟩:=hf.slot ad _ h1;obtain⟨v,e1,e2⟩:=EY (rw:=true) hr (aQ hT hi) k2 hj hl;obtain⟨b,hb,rfl⟩:=k2;refine⟨v::vs,⟨fk e1,g1⟩,?_⟩;have e3:=e2 w Agr.refl;simp only[Instr.loadAt,Instr.sureAddr,anW,aok,anq]at e3;simp only[anW,aok,anq,aoe,k1,Option.getD_some,asAddr,e3]at g2 ⊢;rw[g2];rfl
theorem Ss{fn:Func}{R:Ending->World->Prop}(hT:fA P T=true)(hr:SR Z w0 H G w)(hf:FR Z n L H G w a){ss:List SV}(h:D4 T H L fn.results.toList=some ss)(hR:∀vs,cj (Rel G (Av Z H G) w) ss vs->R (.returned (m6 vs)) w):bodyPost P fn R .ret a w:=by
 obtain⟨vs,g1,g2⟩:=Ni (P:=P) hT hr hf h;refine⟨hf.defers,m6 vs,?_,hR vs g1⟩;unfold Go.results;generalize hrs:fn.results=rs at*
 obtain⟨l⟩:=rs;simp only[List.mapM_toArray,bind_map_left];simp only[anW];refine(congrArg (λr:Result (List Value)=>r.andThen λ(a:List Value) w'=>Sem.run P (pure (if h:a.toArray.size=1 then a.toArray[0]else Value.tuple a.toArray)) w') g2).trans ?_;match vs with
 |[]=>rfl
 |[x]=>rfl
 |x::y::r=>simp[m6]
theorem QP{ss:List SV}{vs:List Value}(hn:∀s∈ss,∀l,s≠.tup l)(h:cj (Rel G (Av Z H G) w) ss vs):Rel G (Av Z H G) w (afE ss) (m6 vs):=by
 have h1:cj (Rel1 G (Av Z H G) w) ss vs:=by
  induction ss generalizing vs with
  |nil=>cases vs<;>exact h
  |cons s ss ih=>
   match vs,h with
   |v::vs,⟨q1,q2⟩=>exact⟨oa q1 (hn s (by simp)),ih (λs hs=>hn s (by simp[hs])) q2⟩
 match ss,vs,h,h1 with
 |[],[],_,_=>exact⟨[],rfl,trivial⟩
 |[s],[v],⟨q1,_⟩,_=>exact q1
 |s::s'::ss,v::v'::vs,_,h1=>exact⟨v::v'::vs,rfl,h1⟩
theorem Ej{A:Nat->Prop}:∀{l:List SV} {r:List RV} {vs:List Value},BC.outL l=some r->cj (Rel1 [] A w) l vs->rvS r=some l/\(∀q∈r,∃t x,q=.d t x)
 |[],r,vs,h,_=>by simp only[BC.outL,am5]at h;subst h;exact⟨rfl,by simp⟩
 |s::l,r,vs,h,ha=>by
  unfold BC.outL at h;split at h
  ·rename_i e;cases e
  ·rename_i t x l' e;injection e with e1 e2;subst e1 e2;split at h<;>try (cases h;done)
   rename_i r' hr';injection h with h;subst h;match vs,ha with
   |v::vs,⟨_,h2⟩=>
    obtain⟨g1,g2⟩:=Ej hr' h2;exact⟨by simp[rvS,g1],λq hq=>by rcases ane.1 hq with rfl|hq;exact⟨t,x,rfl⟩;exact g2 q hq⟩
  ·cases h
theorem adE(_hT:fA P T=true)(hr:SR Z w0 H G w){ss:List SV}{tys:List Nat}{r:List RV}{vs:List Value}(h:BC T H ss tys=some r)(ha:cj (Rel G (Av Z H G) w) ss vs):zI Z w0.heap.size w r (m6 vs):=by
 unfold BC at h;split at h
 ·rename_i j;split at h<;>try (cases h;done)
  rename_i et e xs hj;injection h with h;subst h;match vs,ha with
  |[v],⟨hv,_⟩=>
   obtain⟨css,k1,k2,k3⟩:=hr.items j _ _ hj hv;refine⟨css,k1,bS (λl y h=>Ty.rd_keep ⟨am2 _,λb _ hA=>⟨hA.1,hA.2 j _ _ hj rfl hv⟩,λ_ _ _=>rfl⟩ h) k2,k3⟩
 ·split at h<;>try (cases h;done)
  split at h<;>try (cases h;done)
  split at h<;>try (cases h;done)
  split at h<;>try (cases h;done)
  rename_i hb;injection h with h;subst h;match vs,ha with
  |[v],⟨hv,_⟩=>
   have hv:v=.slice none 0 0:=hv;subst hv;exact⟨[],World.ownsRow_nil _ _ _ _,trivial,am3 hb⟩
 ·split at h<;>try (cases h;done)
  rename_i l hl;have h1:cj (Rel1 [] Z w) l vs:=qt (ss0:=ss) hr (λ_ _ h=>h.1) (.inl λj g b hg hb ⟨_,_,_,hj⟩=>hr.zf b ((hr.items j _ g hj hg).blk rfl hb).1) (λs hs=>hs) hl ha;obtain⟨g1,g2⟩:=Ej h h1;match r,g1,g2 with
  |[],g1,_=>
   simp only[rvS,am5]at g1;subst g1;match vs,h1 with
   |[],_=>exact⟨[],rfl,[],rfl,trivial⟩
  |[.d t x],g1,_=>
   simp only[rvS,am5]at g1;subst g1;match vs,h1 with
   |[v],⟨q,_⟩=>exact q
  |[.new et e xs],_,g2=>obtain⟨t,x,he⟩:=g2 (.new et e xs) (by simp);cases he
  |q::q'::r,g1,_=>
   have hlen:vs.length=(q::q'::r).length:=by
    rw[<-fI h1]
    have:∀(r:List RV) (l:List SV),rvS r=some l->l.length=r.length:=by
     intro r;induction r with
     |nil=>intro l h;simp only[rvS,am5]at h;subst h;rfl
     |cons q r ih=>
      intro l h;cases q<;>simp only[rvS]at h<;>split at h<;>first|(cases h;done)|(injection h with h;subst h;simp[ih _ (by assumption)])
    exact this _ _ g1
   match vs,hlen,h1 with
   |v::v'::vs,_,h1=>cases q<;>exact⟨v::v'::vs,rfl,l,g1,h1⟩
end
end
section
theorem rF{Z:Nat->Prop}{H:List Item}{G:List Value}{w:World}{a:Act}:∀{ss:List SV} {vs:List Value} {k:Nat},cj (Rel G (Av Z H G) w) ss vs->(∀t v,look (Fl k vs) t=some v->a.tmps[t]?=some v)->∀t s,aP (yi k ss) t=some s->∃v,a.tmps[t]?=some v/\Rel G (Av Z H G) w s v
 |[],[],k,_,_,t,s,h=>by simp[yi,aP]at h
 |s0::ss,v0::vs,k,⟨h1,h2⟩,ha,t,s,h=>by
  rcases iC h with⟨rfl,rfl⟩|⟨hne,h3⟩
  ·exact⟨v0,ha t v0 (by simp[Fl,look]),h1⟩
  ·refine rF h2 (λu x hx=>ha u x ?_) t s h3;simp only[Fl,look];split
   ·rename_i hb;have e:k=u:=am1 hb;have:=(Bk vs (k+1) u x hx).1;omega
   ·exact hx
def AtG(P:Program)(fn:Func)(R:Ending->World->Prop)(B:Code)(K:List KI)(i:Nat)(S0:World->Prop)(m:Nat)(D:List Nat)(a:Act)(w:World):Prop:=
 wpG P (ak (nth B i)) (jl P fn R B K) S0 m (mkL (ak (nth B i)).size D) a w
def ls(P:Program)(F:FT)(Rt:Ending->World->Prop)(c:Cfg)(fn:Func)(G:List Value)(w:World)(a:Act)(ats:List Act):Pos->Prop
 |.nrm=>jl P fn (gn P F Rt c.fs ats) (aj F c.f) (jy P fn (gn P F Rt c.fs ats) (aj F c.f) c.K) .normal a w
 |.node i=>At P fn (gn P F Rt c.fs ats) (aj F c.f) (jy P fn (gn P F Rt c.fs ats) (aj F c.f) c.K) i a w
 |.ops i k=>AtR P fn (gn P F Rt c.fs ats) (aj F c.f) (jy P fn (gn P F Rt c.fs ats) (aj F c.f) c.K) i k a w
 |.ret=>bodyPost P fn (gn P F Rt c.fs ats) .ret a w
 |.tam i D=>D=[]->Region.noSelect (ak (nth (aj F c.f) i))=true->AtG P fn (gn P F Rt c.fs ats) (aj F c.f) (jy P fn (gn P F Rt c.fs ats) (aj F c.f) c.K) i (λ_=>True) (ak (nth (aj F c.f) i)).size [] a w
 |.tbx i D=>D=[]->Region.noSelect (ak (nth (aj F c.f) i))=true->AtG P fn (gn P F Rt c.fs ats) (aj F c.f) (jy P fn (gn P F Rt c.fs ats) (aj F c.f) c.K) i (λ_=>True) (ak (nth (aj F c.f) i)).size [] a w
 |.tal i D=>∀S0:World->Prop,(∀w w',S0 w->(w.heap.size<=w'.heap.size/\∀b,b<w.heap.size->w'.heap[b]?=w.heap[b]?)->S0 w')->(storeDone (ak (nth (aj F c.f) i)) (mkL (ak (nth (aj F c.f) i)).size D)\/S0 w)->Clo (ak (nth (aj F c.f) i)) (mkL (ak (nth (aj F c.f) i)).size D)->Region.noSelect (ak (nth (aj F c.f) i))=true->∀m',m'+D.length=(ak (nth (aj F c.f) i)).size->AtG P fn (gn P F Rt c.fs ats) (aj F c.f) (jy P fn (gn P F Rt c.fs ats) (aj F c.f) c.K) i S0 m' D a w
 |.drw i rw eff D=>∀Hs Gs ws,((storeDone (ak (nth (aj F c.f) i)) (mkL (ak (nth (aj F c.f) i)).size D)/\eff=true)\/(Agr rw Hs Gs ws w/\(∀b,b<ws.heap.size->jT c.H G b->jT Hs Gs b)/\(eff=false->c.H=Hs/\G=Gs/\w=ws)/\¬storeDone (ak (nth (aj F c.f) i)) (mkL (ak (nth (aj F c.f) i)).size D)))->Clo (ak (nth (aj F c.f) i)) (mkL (ak (nth (aj F c.f) i)).size D)->Region.noSelect (ak (nth (aj F c.f) i))=true->
   ∀m',m'+D.length=(ak (nth (aj F c.f) i)).size->AtG P fn (gn P F Rt c.fs ats) (aj F c.f) (jy P fn (gn P F Rt c.fs ats) (aj F c.f) c.K) i (Agr rw Hs Gs ws) m' D a w
section
variable {Z:Nat->Prop} {w0:World} {F:FT} {P:Program} {T:TT} {E:Env} {N:NT} {Fin:Nat->Cfg->Option (List RV)} {Rt:Ending->World->Prop} {r:List RV}
theorem wY{fn:Func}{R:Ending->World->Prop}{B:Code}{id:Nat}:∀{K K':List KJ},DL id K=some K'->yu id (jy P fn R B K)=some (jy P fn R B K')
 |[],K',h=>by simp[DL]at h
 |.blk j::K,K',h=>by
  simp only[DL]at h;simp only[jy,yu];split at h
  ·rename_i hb;rw[hb];injection h with h;rw[h]
  ·rename_i hb;rw[hb];exact wY h
 |.seq _::K,K',h=>by simp only[DL]at h;simp only[jy,yu];exact wY h
 |.lp _::K,K',h=>by simp only[DL]at h;simp only[jy,yu];exact wY h
theorem I2 {L : SL} {H : List Item} {G : List Value} {w : World} {a : Act} {n g : Nat} {ss : List SV} {o : Op} (hf : FR Z n L H G w a) (h : KC F E L o = some (g, ss)) : ∃ f args tys fn caps, o = .call ⟨.value f, args, tys⟩ /\ gX F g = some fn /\ a.eval f = .func (.func g) #[] caps /\ cj (Rel G (Av Z H G) w) ss (args.map a.eval ++ caps).toList /\ ss.length <= fn.ntmps /\ (!(fn.name == "runtime.NumGoroutine")) = true /\ fn.body.isSome = true := by
 unfold KC at h;split at h<;>try (cases h;done)
 rename_i f args tys;split at h<;>try (cases h;done)
 rename_i g' caps hs;split at h<;>try (cases h;done)
 split at h<;>try (cases h;done)
 rename_i fn ss' hfn hss;split at h<;>try (cases h;done)
 rename_i hb;obtain⟨rfl,rfl⟩:=h;simp only[am0]at hb;obtain⟨bs,hbs,hfv⟩:=aO hf hs;refine⟨f,args,tys,fn,_,rfl,hfn,hfv,?_,by simp;exact am3 hb.1,hb.2.1,hb.2.2⟩;have h1:=nv hf hss
 have h2:cj (Rel G (Av Z H G) w) (caps.map λj=>.box j 0) (bs.map λb=>Value.pointer (some ⟨b,0,none⟩)):=by
  clear hs hfv;induction caps generalizing bs with
  |nil=>cases bs<;>exact hbs
  |cons c caps ih=>
   match bs,hbs with
   |b::bs,⟨q1,q2⟩=>exact⟨⟨b,q1,rfl⟩,ih (by
    simp only[anb]at hb;exact⟨anr (by have:=am3 hb.1;omega),hb.2⟩) bs q2⟩
 simp_all [fj]
theorem Eh{ops:Array Oper}{eff:Bool}{D:List Nat}:∀{rs:List Nat} {j:Nat},Dp ops eff D rs=some j->j∈rs/\∃o,ops[j]?=some o/\isQ o.op=true/\(oZ o.op=true->eff=false/\xc ops j=true)/\o.dst.isSome=true/\Region.free .any ops (mkL ops.size D) j=true
 |[],j,h=>by simp[Dp]at h
 |q::rs,j,h=>by
  simp only[Dp]at h;split at h<;>try (cases h;done)
  rename_i o ho;split at h
  ·rename_i hb;injection h with h;subst h;simp only[am0,aoR,Bool.and_eq_false_iff,apL,Bool.not_eq_false']at hb;obtain⟨⟨⟨b1,b2⟩,b3⟩,b4⟩:=hb;exact⟨by simp,o,ho,b1,λhl=>by rcases b2 with b2|b2;rw[hl]at b2;cases b2;exact b2,b3,b4⟩
  ·obtain⟨h1,h2⟩:=Eh h;exact⟨by simp[h1],h2⟩
end
end
abbrev dn(l:Array Bool):Nat->Bool:=λk=>l.getD k true
theorem kf(l:Array Bool)(j k:Nat):dn (l.setIfInBounds j true) k=if k=j then true else dn l k:=by
 by_cases h:k=j
 ·simp_all
 simp_all [aoy]
theorem fa{d:Nat}{s:SV}{L:SL}{t:Nat}:aP ((d,s)::oh L d) t=if t=d then some s else aP L t:=by grind [aP,apw,am1]
theorem yI:∀{l cs:List SV} {off:Nat},(pS cs off l).length=cs.length
 |[],_,_=>rfl
 |_::r,_,_=>by simp[pS,yI (l:=r)]
theorem Ef:∀(l cs:List SV) (off i:Nat),(pS cs off l)[i]?=if off<=i/\i<off+l.length/\i<cs.length then l[i-off]? else cs[i]?
 |[],cs,off,i=>by rw[ank (by simp;omega)];rfl
 |s::r,cs,off,i=>by
  rw[pS,Ef r (cs.set off s) (off+1) i,apX,anb];by_cases h1:i=off
  ·subst h1;rw[ank (by omega)];by_cases h2:i<cs.length
   ·rw[anp (by omega),apt,aoA h2];rfl
   ·rw[ank (by omega),aon (by simp;omega),aon (by omega)]
  ·by_cases h2:off+1<=i/\i<off+1+r.length/\i<cs.length
   ·rw[anp h2,anp (by omega),show i-off=(i-(off+1))+1 by omega,anv]
   ·rw[ank h2,ank (by omega),aou (aoy h1)]
theorem KL{l l' cs:List SV}{off off':Nat}(h:off+l.length<=off'\/off'+l'.length<=off):pS (pS cs off l) off' l'=pS (pS cs off' l') off l:=by
 refine aoB λi=>?_;grind [Ef,yI]
theorem DD{x:SV}:∀{l cs:List SV} {off:Nat},x∈pS cs off l->x∈cs\/x∈l
 |[],_,_,h=>.inl h
 |s::r,cs,off,h=>by
  rcases DD (l:=r) h with h1|h1
  ·rcases List.mem_or_eq_of_mem_set h1 with h2|h2
   ·exact .inl h2
   ·subst h2;exact .inr (by simp)
  ·exact .inr (by simp[h1])
def ovI(s:AlS):Item->Item
 |.box bt cells=>.box bt (pS cells s.off s.l)
 |it=>it
theorem pA(s:AlS)(H:List Item)(k:Nat):(stP s H)[k]?=if k=s.j then H[k]?.map (ovI s)else H[k]?:=by
 unfold stP;split
 ·rename_i bt cells hb;by_cases h:k=s.j
  ·subst h;rw[anp rfl,hb,aoA (am7.1 hb).1];rfl
  grind
 ·rename_i hb;by_cases h:k=s.j
  ·subst h;rw[anp rfl];cases hh:H[s.j]? with
   |none=>rfl
   |some it=>
    cases it with
    |box bt cells=>exact absurd hh (hb bt cells)
    |row=>rfl
    |gone=>rfl
  ·rw[ank h]
theorem Kp(s:AlS)(H:List Item):(stP s H).length=H.length:=by grind [stP]
theorem U2{s:AlS}{H:List Item}{k:Nat}{it:Item}(h:s.j≠k):stP s (H.set k it)=(stP s H).set k it:=by
 refine aoB λi=>?_;grind [pA,Kp]
theorem vW{s p:AlS}(h:FS s p=true):s.i≠p.i/\(s.j≠p.j\/s.off+s.l.length<=p.off\/p.off+p.l.length<=s.off):=by
 simp only[FS,am0,ao6]at h;obtain⟨h1,h2⟩:=h;refine⟨λe=>(by rw[e,apw]at h1;cases h1),?_⟩;rcases h2 with(h2|h2)|h2
 ·grind [apw]
 ·simp_all
 simp_all
theorem PT{s p:AlS}(h:FS s p=true)(H:List Item):stP s (stP p H)=stP p (stP s H):=by
 obtain⟨_,h⟩:=vW h;refine aoB λk=>?_;rw[pA,pA,pA,pA];by_cases h1:k=s.j
 ·subst h1;rw[anp rfl];by_cases h2:s.j=p.j
  ·rw[anp h2,anp h2,anp rfl];cases hh:H[s.j]? with
   |none=>rfl
   |some it=>
    cases it with
    |box bt cells=>
     simp only[an2,ovI];rw[KL (by rcases h with h|h|h;exact absurd h2 h;exact .inr h;exact .inl h)]
    |row=>rfl
    |gone=>rfl
  ·rw[ank h2,ank h2,anp rfl]
 grind
theorem uy{f:Nat->Bool}{H:List Item}:∀{ss:List AlS},(cJ f ss H).length=H.length
 |[]=>rfl
 |s::r=>by
  simp only[cJ];split
  ·rw[Kp];exact uy
  ·exact uy
theorem zr{f:Nat->Bool}{H:List Item}{k:Nat}{it:Item}:∀{ss:List AlS},(∀s∈ss,f s.i=true->s.j≠k)->cJ f ss (H.set k it)=(cJ f ss H).set k it
 |[],_=>rfl
 |s::r,h=>by
  have ih:=zr (f:=f) (H:=H) (k:=k) (it:=it) (ss:=r) λs hs=>h s (by simp[hs]);simp only[cJ];split
  ·rename_i h1;rw[ih,U2 (h s (by simp) h1)]
  ·exact ih
theorem lW{f g:Nat->Bool}{H:List Item}:∀{ss:List AlS},(∀s∈ss,f s.i=g s.i)->cJ f ss H=cJ g ss H
 |[],_=>rfl
 |s::r,h=>by
  simp only[cJ];rw[h s (by simp),lW (ss:=r) λs hs=>h s (by simp[hs])]
theorem rO{f:Nat->Bool}{H:List Item}:∀{ss:List AlS},(∀s∈ss,f s.i=false)->cJ f ss H=H
 |[],_=>rfl
 |s::r,h=>by
  simp only[cJ];rw[h s (by simp)];exact rO (ss:=r) λs hs=>h s (by simp[hs])
theorem IO{f g:Nat->Bool}{H:List Item}{s:AlS}(hg:∀k,g k=if k=s.i then true else f k)(hf:f s.i=false):∀{ss:List AlS},ss.Pairwise (λs p=>FS s p=true)->s∈ss->cJ g ss H=stP s (cJ f ss H)
 |[],_,hs=>by cases hs
 |p::r,hp,hs=>by
  obtain⟨h1,h2⟩:=anE.1 hp;simp only[cJ];rcases ane.1 hs with e|hs
  ·subst e;rw[hg s.i,anp rfl,hf];dsimp only;rw[lW (f:=g) (g:=f) (ss:=r) λq hq=>by rw[hg,ank (aoy (vW (h1 q hq)).1)]]
  ·have hne:=(vW (h1 s hs)).1;have ih:=IO (H:=H) hg hf h2 hs;rw[hg p.i,ank hne,ih];split
   ·exact PT (h1 s hs) _
   ·rfl
theorem DY{f:Nat->Bool}{H:List Item}{k bt:Nat}{cells:List SV}(h:H[k]?=some (.box bt cells)):∀{ss:List AlS},∃cells',(cJ f ss H)[k]?=some (.box bt cells')/\cells'.length=cells.length
 |[]=>⟨cells,h,rfl⟩
 |s::r=>by
  obtain⟨c',h1,h2⟩:=DY (f:=f) h (ss:=r);simp only[cJ];split
  ·rw[pA,h1];split
   ·exact⟨_,rfl,by rw[yI,h2]⟩
   ·exact⟨c',rfl,h2⟩
  ·exact⟨c',h1,h2⟩
def nK(h0:Nat)(H:List Item):Prop:=∀(k:Nat) (t:TypeId) (cs:List SV),H[k]?=some (.box t cs)->∀s∈cs,s.refs h0=true
theorem DF{h0:Nat}{f:Nat->Bool}{H:List Item}(hH:nK h0 H):∀{ss:List AlS},(∀s∈ss,∀x∈s.l,x.refs h0=true)->nK h0 (cJ f ss H)
 |[],_=>hH
 |s::r,h=>by
  have ih:=DF (f:=f) hH (ss:=r) λs hs=>h s (by simp[hs]);simp only[cJ];split
  ·intro k t cs hk x hx;rw[pA]at hk;split at hk
   ·cases hh:(cJ f r H)[k]? with
    |none=>rw[hh]at hk;cases hk
    |some it=>
     rw[hh]at hk;cases it with
     |box bt cells=>
      simp only[an2,ovI,am5,Item.box.injEq]at hk;obtain⟨rfl,rfl⟩:=hk;rcases DD hx with h1|h1
      ·exact ih k _ _ hh x h1
      ·exact h s (by simp) x h1
     |row=>simp[ovI]at hk
     |gone=>simp[ovI]at hk
   ·exact ih k t cs hk x hx
  ·exact ih
theorem uo(f:Nat->Bool)(la:List AlA)(r:Nat):(alX f la)[r]?=la[r]?.map λa=>match f a.i with
  |true=>.box a.t a.cs
  |false=>.gone:=by grind [alX]
abbrev Dis(la:List AlA):Prop:=la.Pairwise λa b=>a.i≠b.i/\a.d≠b.d
theorem OT{la:List AlA}(h:Dis la){r k:Nat}{a b:AlA}(ha:la[r]?=some a)(hb:la[k]?=some b)(hne:k≠r):b.i≠a.i/\b.d≠a.d:=by grind [List.pairwise_iff_getElem]
theorem aff{f g:Nat->Bool}{la:List AlA}{r:Nat}{a:AlA}(hd:Dis la)(ha:la[r]?=some a)(hg:∀k,g k=if k=a.i then true else f k):alX g la=(alX f la).set r (.box a.t a.cs):=by
 refine aoB λk=>?_;rw[anN,uo];by_cases h:r=k
 ·grind [alX,aoF,am7,an2]
 ·rw[ank h,uo];cases hk:la[k]? with
  |none=>rfl
  |some b=>
   simp only[an2];rw[hg,ank (OT hd ha hk (aoy h)).1]
theorem FX{f g:Nat->Bool}{la:List AlA}{r:Nat}{a:AlA}{H0:List Item}(hd:Dis la)(ha:la[r]?=some a)(hg:∀k,g k=if k=a.i then true else f k):H0++alX g la=(H0++alX f la).set (H0.length+r) (.box a.t a.cs):=by
 rw[aff hd ha hg,List.set_append,ank (by omega),show H0.length+r-H0.length=r by omega]
theorem T3{h0:Nat}{f:Nat->Bool}{la:List AlA}{H0:List Item}(hH:nK h0 H0)(hla:∀a∈la,∀x∈a.cs,x.refs h0=true):nK h0 (H0++alX f la):=by
 intro k t cs hk x hx;rcases anC k H0.length with h|h
 ·rw[anj h]at hk;exact hH k t cs hk x hx
 grind [uo]
theorem jv{f g:Nat->Bool}{t:Nat}:∀{la:List AlA} {k:Nat} {L M:SL},(∀a∈la,a.d=t->f a.i=g a.i)->aP L t=aP M t->aP (gV f la k L) t=aP (gV g la k M) t
 |[],_,_,_,_,h=>h
 |b::l,k,L,M,hl,h=>by
  simp only[gV];refine jv (λa ha=>hl a (by simp[ha])) ?_;by_cases e:b.d=t
  ·rw[<-hl b (by simp) e];split
   ·rw[fa,fa,anp e.symm,anp e.symm]
   ·exact h
  ·have e':t≠b.d:=λh=>e h.symm;split<;>split<;>(try rw[fa,ank e'])<;>(try rw[fa,ank e'])<;>exact h
theorem DX{f:Nat->Bool}{t:Nat}:∀{la:List AlA} {k:Nat} {L:SL},(∀a∈la,a.d≠t)->aP (gV f la k L) t=aP L t
 |[],_,_,_=>rfl
 |b::l,k,L,h=>by
  simp only[gV];rw[DX λa ha=>h a (by simp[ha])];split
  ·rw[fa,ank (λe=>h b (by simp) e.symm)]
  ·rfl
theorem Cp{f g:Nat->Bool}{a:AlA}(hg:∀k,g k=if k=a.i then true else f k):∀{la:List AlA} {r k:Nat} {L:SL},Dis la->la[r]?=some a->∀t,aP (gV g la k L) t=if t=a.d then some (.box (k+r) 0)else aP (gV f la k L) t
 |[],r,_,_,_,h,_=>by simp at h
 |b::l,0,k,L,hd,h,t=>by
  simp only[anX,am5]at h;subst h;obtain⟨h1,h2⟩:=anE.1 hd;simp only[gV];rw[hg b.i,anp rfl];dsimp only;by_cases e:t=b.d
  ·subst e;rw[anp rfl,DX λa ha=>aoy (h1 a ha).2,fa,anp rfl,apR]
  ·rw[ank e];refine jv (λa ha _=>by rw[hg,ank (aoy (h1 a ha).1)]) ?_;rw[fa,ank e];split
   ·rw[fa,ank e]
   ·rfl
 |b::l,r+1,k,L,hd,h,t=>by
  obtain⟨h1,h2⟩:=anE.1 hd;rw[anv]at h;simp only[gV];rw[hg b.i,ank (h1 a (aoa h)).1,Cp hg h2 h t,show k+1+r=k+(r+1) by omega]
theorem Fc{f:Nat->Bool}{t:Nat}{s:SV}:∀{la:List AlA} {k:Nat} {L:SL},aP (gV f la k L) t=some s->(∃r a,la[r]?=some a/\t=a.d/\f a.i=true/\s=.box (k+r) 0)\/aP L t=some s
 |[],_,_,h=>.inr h
 |b::l,k,L,h=>by
  simp only[gV]at h;rcases Fc h with⟨r,a,h1,h2,h3,h4⟩|h1
  ·exact .inl ⟨r+1,a,by rw[anv];exact h1,h2,h3,by rw[h4,show k+1+r=k+(r+1) by omega]⟩
  ·split at h1
   ·rename_i hb;rw[fa]at h1;split at h1
    ·rename_i e;injection h1 with h1;exact .inl ⟨0,b,rfl,e,hb,by rw[<-h1,apR]⟩
    ·exact .inr h1
   ·exact .inr h1
theorem qN{T:TT}{N:Nat}:∀{lo:List Oper} {i0:Nat} {la:List AlA},alA T N lo i0=some la->
  (∀q o,lo[q]?=some o->bg o=true->∃(r:Nat) (a:AlA),la[r]?=some a/\a.i=i0+q/\o.dst=some a.d/\a.d<N/\∃x,o.op=.alloc a.t/\dP T a.t=some x/\x.z=true/\(∀p q,x.ty≠.pair p q)/\a.cs=x.ty.zsplit)/\
  (∀a∈la,i0<=a.i/\∃o,lo[a.i-i0]?=some o/\bg o=true/\∃x,a.cs=Ty.zsplit x)/\Dis la
 |[],_,_,h=>by
  simp only[alA,am5]at h;subst h;exact⟨λq o h=>(by simp at h),λa h=>(by cases h),List.Pairwise.nil⟩
 |o::r,i,la,h=>by
  simp only[alA]at h
  have sub:∀{la:List AlA},(∀a∈la,i+1<=a.i/\∃o,r[a.i-(i+1)]?=some o/\bg o=true/\∃x,a.cs=Ty.zsplit x)->∀a∈la,i<=a.i/\∃o',(o::r)[a.i-i]?=some o'/\bg o'=true/\∃x,a.cs=Ty.zsplit x:=λh a ha=>by
   obtain⟨h1,o',h2,h3⟩:=h a ha;exact⟨by omega,o',by rw[show a.i-i=(a.i-(i+1))+1 by omega,anv];exact h2,h3⟩
  split at h
  ·rename_i hal;obtain⟨h1,h2,h3⟩:=qN h;refine⟨λq o' hq ho=>?_,sub h2,h3⟩;cases q with
   |zero=>simp only[anX,am5]at hq;subst hq;rw[hal]at ho;cases ho
   |succ q=>
    rw[anv]at hq;obtain⟨r',a,k1,k2,k3⟩:=h1 q o' hq ho;exact⟨r',a,k1,by omega,k3⟩
  ·rename_i hal;split at h<;>try (cases h;done)
   rename_i t d hop hdst;split at h<;>try (cases h;done)
   rename_i x l hx hd hl;split at h<;>try (cases h;done)
   rename_i hz hne;split at h<;>try (cases h;done)
   rename_i hall;injection h with h;subst h;obtain⟨h1,h2,h3⟩:=qN hl;refine⟨λq o' hq ho=>?_,λa ha=>?_,anE.2 ⟨λb hb=>?_,h3⟩⟩
   ·cases q with
    |zero=>
     simp only[anX,am5]at hq;subst hq;exact⟨0,_,rfl,rfl,hdst,am3 hd,x,hop,hx,hz,λp q e=>hne _ _ e,rfl⟩
    |succ q=>
     rw[anv]at hq;obtain⟨r',a,k1,k2,k3⟩:=h1 q o' hq ho;exact⟨r'+1,a,by rw[anv];exact k1,by omega,k3⟩
   ·rcases ane.1 ha with e|ha
    ·subst e;exact⟨am2 _,o,by simp,hal,x.ty,rfl⟩
    ·exact sub h2 a ha
   ·have:=anl.1 hall b hb;simp only[am0,aoR]at this;exact⟨λe=>(by have:=this.1;simp only at e;rw[e,apw]at this;cases this),λe=>(by have:=this.2;simp only at e;rw[e,apw]at this;cases this)⟩
def Uz(T:TT)(ops:Array Oper)(la:List AlA)(h0:Nat)(La:SL)(Ha:List Item)(s:AlS)(o:Oper):Prop:=
 ∃t x v sv y bt cells,o.op=.store t x v/\o.guard=none/\o.dst=none/\opS La x=some (.box s.j s.off)/\opS La v=some sv/\dP T t=some y/\gU [] sv=some s.l/\Ha[s.j]?=some (.box bt cells)/\s.l.length=y.ty.n/\s.off+s.l.length<=cells.length/\
  (∀z∈s.l,z.refs h0=true)/\(∀a∈la,(KK x a.d||KK v a.d)=true->iE ops 4 s.i a.i=true)/\Gt ops s.i s.j la h0=true
theorem nX{T:TT}{E:Env}{ops:Array Oper}{l:Array Bool}{la:List AlA}{h0:Nat}{La:SL}{Ha:List Item}:∀{lo:List Oper} {i0:Nat} {ss:List AlS},alS T E ops l la h0 La Ha lo i0=some ss->
  (∀q o,lo[q]?=some o->l.getD (i0+q) true=false->bg o=false->gj E o=false->∃s∈ss,s.i=i0+q)/\
  (∀s∈ss,i0<=s.i/\l.getD s.i true=false/\∃o,lo[s.i-i0]?=some o/\bg o=false/\Uz T ops la h0 La Ha s o)/\ss.Pairwise (λs p=>FS s p=true)
 |[],_,_,h=>by
  simp only[alS,am5]at h;subst h;exact⟨λq o h=>(by simp at h),λa h=>(by cases h),List.Pairwise.nil⟩
 |o::r,i,ss,h=>by
  simp only[alS]at h
  have sub:∀{ss:List AlS},(∀s∈ss,i+1<=s.i/\l.getD s.i true=false/\∃o,r[s.i-(i+1)]?=some o/\bg o=false/\Uz T ops la h0 La Ha s o)->∀s∈ss,i<=s.i/\l.getD s.i true=false/\∃o',(o::r)[s.i-i]?=some o'/\bg o'=false/\Uz T ops la h0 La Ha s o':=λh a ha=>by
   obtain⟨h1,h1',o',h2,h3⟩:=h a ha;exact⟨by omega,h1',o',by rw[show a.i-i=(a.i-(i+1))+1 by omega,anv];exact h2,h3⟩
  split at h
  ·rename_i hal;obtain⟨h1,h2,h3⟩:=nX h;refine⟨λq o' hq hu ho ht=>?_,sub h2,h3⟩;cases q with
   |zero=>
    simp only[anX,am5]at hq;subst hq;rw[show i+0=i from rfl]at hu;rw[hu,ho,ht]at hal;cases hal
   |succ q=>
    rw[anv]at hq;obtain⟨s,k1,k2⟩:=h1 q o' hq (by rw[show i+1+q=i+(q+1) by omega];exact hu) ho ht;exact⟨s,k1,by omega⟩
  ·rename_i hal;simp only[apL]at hal;split at h<;>try (cases h;done)
   rename_i t x v hop;split at h<;>try (cases h;done)
   rename_i j off sv y hg hdst hx hv hy;split at h<;>try (cases h;done)
   rename_i cs bt cells ss' hcs hH hss;split at h<;>try (cases h;done)
   rename_i hall;injection h with h;subst h;simp only[am0]at hall;obtain⟨⟨⟨⟨⟨c1,c2⟩,c3⟩,c4⟩,c5⟩,c6⟩:=hall;obtain⟨h1,h2,h3⟩:=nX hss;refine⟨λq o' hq hu ho ht=>?_,λs hs=>?_,anE.2 ⟨λp hp=>anl.1 c6 p hp,h3⟩⟩
   ·cases q with
    |zero=>exact⟨_,List.mem_cons_self ..,rfl⟩
    |succ q=>
     rw[anv]at hq;obtain⟨s,k1,k2⟩:=h1 q o' hq (by rw[show i+1+q=i+(q+1) by omega];exact hu) ho ht;exact⟨s,by simp[k1],by omega⟩
   ·rcases ane.1 hs with e|hs
    ·subst e
     exact⟨am2 _,hal.1.1,o,by simp,hal.1.2,t,x,v,sv,y,bt,cells,hop,hg,hdst,hx,hv,hy,hcs,hH,am1 c1,am3 c2,anl.1 c3,λa ha hw=>by
      have:=anl.1 c4 a ha;rw[hw]at this;simpa using this,c5⟩
    ·exact sub h2 s hs
theorem C0{ops:Array Oper}{i j:Nat}:∀{la:List AlA} {k r:Nat} {a:AlA},Gt ops i j la k=true->la[r]?=some a->j=k+r->iE ops 4 i a.i=true
 |[],_,_,_,_,h,_=>by simp at h
 |b::l,k,0,a,h,ha,hj=>by
  simp only[anX,am5]at ha;subst ha;simp only[Gt,am0,ao6,aoR]at h;rcases h.1 with h1|h1
  ·rw[hj,apR,apw]at h1;cases h1
  ·exact h1
 |b::l,k,r+1,a,h,ha,hj=>by
  rw[anv]at ha;simp only[Gt,am0]at h;exact C0 h.2 ha (by omega)
theorem kM{l:Array Bool}{k:Nat}(h:k<l.size):l.getD k false=l.getD k true:=by simp[h]
theorem zC{ops:Array Oper}{l':Array Bool}(hs:l'.size=ops.size):∀{C:List Nat} {l:Array Bool},GJ ops l C=true->(∀k,l.getD k false=true->l'.getD k false=true)->(∃i∈C,l'.getD i true=false)->Region.ready .any ops l'≠[]
 |[],_,_,_,⟨_,h,_⟩=>by cases h
 |i::r,l,h,hsub,⟨k,hk,hu⟩=>by
  simp only[GJ,am0]at h;obtain⟨h1,h2⟩:=h;split at h1<;>try (cases h1;done)
  rename_i o ho;have hlt:i<l'.size:=by rw[hs];exact(anc.1 ho).1
  cases hi:l'.getD i true with
  |false=>
   intro hr
   have:i∈Region.ready .any ops l':=an5.2 ⟨hi,o,ho,λe he hb=>by
    have:=anl.1 h1 e (Array.mem_toList_iff.2 he);rw[hb]at this;exact hsub _ (by simpa using this)⟩
   rw[hr]at this;cases this
  |true=>
   refine zC hs h2 (λq hq=>?_) ⟨k,(ane.1 hk).resolve_left λe=>(by subst e;rw[hi]at hu;cases hu),hu⟩;by_cases e:i=q
   ·subst e;rw[kM hlt];exact hi
   ·rw[apv false e]at hq;exact hsub q hq
def cu(l:Array Bool):Nat:=l.toList.countP λb=>!b
theorem AR:∀(l:List Bool) (j:Nat),l[j]?=some false->(l.set j true).countP (λb=>!b)+1=l.countP (λb=>!b)
 |[],_,h=>by simp at h
 |b::l,0,h=>by
  simp only[anX,am5]at h;subst h;simp
 |b::l,j+1,h=>by
  rw[anv]at h;have:=AR l j h;rw[List.set_cons_succ];cases b<;>simp<;>omega
theorem A6{l:Array Bool}{j:Nat}(h:l.getD j true=false):cu (l.setIfInBounds j true)+1=cu l:=by
 unfold cu;rw[Array.toList_setIfInBounds];refine AR _ _ ?_;rcases anC j l.size with hlt|hge<;>simp_all
theorem Uy{l:Array Bool}(h:cu l=0)(k:Nat):l.getD k true=true:=by
 rcases anC k l.size with hlt|hge
 ·have:=List.countP_eq_zero.1 h l[k] (by simp);simp_all
 grind
theorem G7(n:Nat):cu (mkL n [])=n:=by simp[cu,mkL,List.countP_replicate]
section
def Old(w w':World):Prop:=w.heap.size<=w'.heap.size/\∀b,b<w.heap.size->w'.heap[b]?=w.heap[b]?
theorem Old.refl(w:World):Old w w:=⟨am2 _,λ_ _=>rfl⟩
theorem EH{G G':List Value}{A A':Nat->Prop}{w w':World}{h0:Nat}(hk:Keeps A A' w w'){s:SV}{v:Value}(h:Rel1 G A w s v)(hs:s.refs h0=true)(hG:∀j g,j<h0->G[j]?=some g->G'[j]?=some g):Rel1 G' A' w' s v:=by
 have lt:∀{j:Nat},Nat.ble (j+1) h0=true->j<h0:=λh=>am3 h;cases s with
 |d t x=>obtain⟨cs,h1,h2⟩:=h;exact⟨cs,Ty.rd_keep hk h1,h2⟩
 |nil=>exact h
 |box j off=>obtain⟨b,h1,h2⟩:=h;exact⟨b,hG j _ (lt hs) h1,h2⟩
 |elt e x off=>
  obtain⟨b,o,cs,h1,h2,h3,h4,h5⟩:=h;exact⟨b,o,cs,h1,hk.sub b h3 h2,aoJ h3 hk.size,Ty.rd_keep hk h4,hk.cells h3 h2 h5⟩
 |own j=>exact hG j v (lt hs) h
 |oelt j sz i off=>obtain⟨b,n,c,h1,h2⟩:=h;exact⟨b,n,c,hG j _ (lt hs) h1,h2⟩
 |clo f caps=>
  obtain⟨bs,h1,h2⟩:=h;refine⟨bs,?_,h2⟩;simp only[SV.refs]at hs;clear h2;induction caps generalizing bs with
  |nil=>cases bs<;>exact h1
  |cons c caps ih=>
   match bs,h1 with
   |b::bs,⟨q1,q2⟩=>
    simp only[apI,am0]at hs;exact⟨hG c _ (lt hs.1) q1,ih hs.2 bs q2⟩
 |tup l=>exact h.elim
 |undef=>exact h
 |dead=>trivial
 |cut e xs=>obtain⟨p,h1,h2⟩:=h;exact⟨p,Ty.rd_keep hk h1,h2⟩
 |osl j sz lo n=>obtain⟨g,q,c,h1,h2⟩:=h;exact⟨g,q,c,hG j _ (lt hs) h1,h2⟩
theorem LG{G G':List Value}{A A':Nat->Prop}{w w':World}{h0:Nat}(hk:∀s v,s.refs h0=true->Rel1 G A w s v->Rel1 G' A' w' s v){s:SV}{v:Value}(h:Rel G A w s v)(hs:s.refsT h0=true):Rel G' A' w' s v:=by
 cases s with
 |tup l=>
  obtain⟨vs,h1,h2⟩:=h;refine⟨vs,h1,?_⟩;clear h1;induction l generalizing vs with
  |nil=>cases vs<;>exact h2
  |cons s l ih=>
   simp only[SV.refsT,apI,am0]at hs;match vs,h2 with
   |v::vs,⟨g1,g2⟩=>exact⟨hk s v hs.1 g1,ih hs.2 vs g2⟩
 |_=>rw[ur (λl e=>by cases e)]at hs;exact fk (hk _ _ hs (oa h (λl e=>by cases e)))
section
variable {Z:Nat->Prop} {w0:World} {H:List Item} {G:List Value} {w:World}
theorem uZ(hr:SR Z w0 H G w):nK H.length H:=by
 intro k t cs hk x hx;have hlt:k<G.length:=by rw[hr.len];exact(am7.1 hk).1
 obtain⟨b,vs,_,_,_,h4⟩:=hr.items k _ _ hk (amX hlt);obtain⟨i,hi,rfl⟩:=ape hx;obtain⟨v,_,hv⟩:=jx h4 i _ (amX hi);grind [uA]
theorem W9{it:Item}{g:Value}{h0 k:Nat}(hr:SR Z w0 (H++[it]) (G++[g]) w)(hl:G.length=H.length)(hk:H[k]?=some .gone)(h0k:h0<=k)(hlow:nK h0 (H++[it])):
  SR Z w0 (H.set k it) (G.set k g) w/\(∀b,Av Z (H++[it]) (G++[g]) b↔Av Z (H.set k it) (G.set k g) b):=by
 have hkl:=(am7.1 hk).1
 have a1:∀{j:Nat} {x:Item},j≠k->(H.set k it)[j]?=some x->j<H.length/\(H++[it])[j]?=some x:=λ{j x} hj h=>by
  rw[aou (aoy hj)]at h;have:=(am7.1 h).1;exact⟨this,by rw[anj this];exact h⟩
 have a2:∀{j:Nat} {x:Value},j≠k->(G.set k g)[j]?=some x->(G++[g])[j]?=some x:=λ{j x} hj h=>by
  rw[aou (aoy hj)]at h;rw[anj (am7.1 h).1];exact h
 have b1:(H.set k it)[k]?=some it:=aoA hkl;have b2:(G.set k g)[k]?=some g:=aoA (by omega);have c1:(H++[it])[H.length]?=some it:=by rw[anz (am2 _),apt];rfl
 have c2:(G++[g])[H.length]?=some g:=by rw[anz (by omega),hl,apt];rfl
 have d1:∀{j:Nat} {x:Item},(H++[it])[j]?=some x->(j<H.length/\H[j]?=some x)\/(j=H.length/\x=it):=λ{j x} h=>by
  rcases anC j H.length with hlt|hge
  ·rw[anj hlt]at h;exact .inl ⟨hlt,h⟩
  ·rw[anz hge]at h
   have hj:j-H.length=0:=by
    rcases anQ (j-H.length)with h0|h0
    ·exact h0
    ·rw[aon (by simp;omega)]at h;cases h
   rw[hj]at h;simp only[anX,am5]at h;exact .inr ⟨by omega,h.symm⟩
 have hav:∀b,Av Z (H++[it]) (G++[g]) b↔Av Z (H.set k it) (G.set k g) b:=by
  refine λb=>⟨λh=>⟨h.1,λj x y hx hlv hy=>?_⟩,λh=>⟨h.1,λj x y hx hlv hy=>?_⟩⟩
  ·by_cases hj:j=k
   ·subst hj;rw[b1]at hx;rw[b2]at hy;injection hx with hx;injection hy with hy;subst hx hy;exact h.2 _ _ _ c1 hlv c2
   ·exact h.2 j x y (a1 hj hx).2 hlv (a2 hj hy)
  ·rcases d1 hx with⟨h1,h2⟩|⟨h1,h2⟩
   ·have hj:j≠k:=λe=>by subst e;rw[hk]at h2;injection h2 with h2;subst h2;cases hlv
    refine h.2 j x y (by rw[aou (aoy hj)];exact h2) hlv ?_;rw[anj (by omega)]at hy;rw[aou (aoy hj)];exact hy
   ·subst h1 h2;rw[c2]at hy;injection hy with hy;subst hy;exact h.2 k _ _ b1 hlv b2
 have hkp:Keeps (Av Z (H++[it]) (G++[g])) (Av Z (H.set k it) (G.set k g)) w w:=⟨am2 _,λb _ h=>(hav b).1 h,λ_ _ _=>rfl⟩
 have hG:∀j x,j<h0->(G++[g])[j]?=some x->(G.set k g)[j]?=some x:=λj x hj h=>by
  rw[anj (by omega)]at h;rw[aou (by omega)];exact h
 have hit:∀{j:Nat} {x:Item} {y:Value},(H++[it])[j]?=some x->ItemRel w0.heap.size (G++[g]) (Av Z (H++[it]) (G++[g])) w x y->ItemRel w0.heap.size (G.set k g) (Av Z (H.set k it) (G.set k g)) w x y:=by
  intro j x y hx h;cases x with
  |box t cs=>
   obtain⟨b,vs,e1,e2,e3,e4⟩:=h;refine⟨b,vs,e1,e2,e3,?_⟩;have hc:=hlow j t cs hx;clear e1 e3 hx;induction cs generalizing vs with
   |nil=>cases vs<;>exact e4
   |cons s l ih=>
    match vs,e4 with
    |v::vs,⟨q1,q2⟩=>exact⟨EH hkp q1 (hc s (by simp)) hG,ih vs q2 (λs hs=>hc s (by simp[hs]))⟩
  |row et e xs=>
   obtain⟨css,e1,e2,e3⟩:=h;exact⟨css,e1,bS (λ_ _ h=>Ty.rd_keep hkp h) e2,e3⟩
  |gone=>trivial
 refine⟨⟨by simp[hl],hr.below,λj x y hx hy=>?_,λi j x y gx gy b hij hx hy hlx hly hgx hgy hb=>?_,hr.zf⟩,hav⟩
 ·by_cases hj:j=k
  ·subst hj;rw[b1]at hx;rw[b2]at hy;injection hx with hx;injection hy with hy;subst hx hy;exact hit c1 (hr.items _ _ _ c1 c2)
  ·exact hit (a1 hj hx).2 (hr.items j x y (a1 hj hx).2 (a2 hj hy))
 ·have key:∀{j:Nat} {x:Item} {y:Value},(H.set k it)[j]?=some x->(G.set k g)[j]?=some y->∃j',(j'=if j=k then H.length else j)/\(H++[it])[j']?=some x/\(G++[g])[j']?=some y:=by
   intro j x y hx hy;by_cases hj:j=k
   ·subst hj;rw[b1]at hx;rw[b2]at hy;injection hx with hx;injection hy with hy;subst hx hy;exact⟨_,rfl,by rw[anp rfl];exact c1,by rw[anp rfl];exact c2⟩
   ·exact⟨_,rfl,by rw[ank hj];exact(a1 hj hx).2,by rw[ank hj];exact a2 hj hy⟩
  obtain⟨i',ei,i1,i2⟩:=key hx hgx;obtain⟨j',ej,j1,j2⟩:=key hy hgy;refine hr.disj i' j' x y gx gy b ?_ i1 j1 hlx hly i2 j2 hb;rw[ei,ej];by_cases h1:i=k
  ·by_cases h2:j=k
   ·omega
   ·rw[anp h1,ank h2];have:=(a1 h2 hy).1;omega
  ·by_cases h2:j=k
   ·rw[ank h1,anp h2];have:=(a1 h1 hx).1;omega
   ·rw[ank h1,ank h2];exact hij
theorem Su(hr:SR Z w0 H G w){h0 k:Nat}(hk:H[k]?=some .gone)(h0k:h0<=k)(hlow:nK h0 H){t:TypeId}{cs:List SV}{vs:Array Value}(hz:∀s∈cs,s.refs h0=true)(hcs:cj (Rel1 G (Av Z H G) w) cs vs.toList):
  ∃G',SR Z w0 (H.set k (.box t cs)) G' (w.alloc (.cells vs t))/\(∀s v,s.refs h0=true->Rel1 G (Av Z H G) w s v->Rel1 G' (Av Z (H.set k (.box t cs)) G') (w.alloc (.cells vs t)) s v)/\
   (∀j off v,j≠k->Rel1 G (Av Z H G) w (.box j off) v->Rel1 G' (Av Z (H.set k (.box t cs)) G') (w.alloc (.cells vs t)) (.box j off) v)/\
   Rel1 G' (Av Z (H.set k (.box t cs)) G') (w.alloc (.cells vs t)) (.box k 0) (.pointer (some ⟨w.heap.size,0,none⟩)):=by
 have hb:=j9 w (.cells vs t);have hg:∀b,bU (.pointer (some ⟨w.heap.size,0,none⟩))=some b->w.heap.size<=b:=λb h=>by simp[bU]at h;omega
 have hst:=nA (it:=.box t cs) hr hb hg;have hsr:=Dm (it:=.box t cs) hr hb hg ⟨w.heap.size,vs.toList,rfl,hr.below.size,Blk.new w t vs,bS (λs v h=>dR hr hst h) hcs⟩;have hkl:=(am7.1 hk).1;have hl:=hr.len
 obtain⟨m1,m2⟩:=W9 hsr hl hk h0k (by
  intro j u cs' hj x hx;rcases anC j H.length with hlt|hge
  ·rw[anj hlt]at hj;exact hlow j u cs' hj x hx
  ·rw[anz hge]at hj;have hj':=aoa hj;simp only[apo,Item.box.injEq]at hj';obtain⟨rfl,rfl⟩:=hj';exact hz x hx)
 have hkp:Keeps (Av Z (H++[.box t cs]) (G++[.pointer (some ⟨w.heap.size,0,none⟩)])) (Av Z (H.set k (.box t cs)) (G.set k (.pointer (some ⟨w.heap.size,0,none⟩)))) (w.alloc (.cells vs t)) (w.alloc (.cells vs t)):=⟨am2 _,λb _ h=>(m2 b).1 h,λ_ _ _=>rfl⟩
 refine⟨_,m1,λs v hs h=>EH hkp (dR hr hst h) hs λj x hj h=>?_,λj off v hj h=>?_,⟨_,aoA (by omega),rfl⟩⟩
 ·grind
 ·obtain⟨b,h1,h2⟩:=h;exact⟨b,by rw[aou (aoy hj)];exact h1,h2⟩
theorem zp{n:Nat}{L:SL}{a:Act}(f:Nat->Bool):∀{la:List AlA} {H:List Item} {G:List Value},(∀x∈la,f x.i=false)->SR Z w0 H G w->FR Z n L H G w a->∃G',SR Z w0 (H++alX f la) G' w/\FR Z n L (H++alX f la) G' w a/\(∀s v,Rel1 G (Av Z H G) w s v->Rel1 G' (Av Z (H++alX f la) G') w s v)
 |[],H,G,_,hr,hf=>by
  refine⟨G,?_⟩;rw[show alX f []=[] from rfl,ant];exact⟨hr,hf,λ_ _ h=>h⟩
 |x::la,H,G,hx,hr,hf=>by
  have hg:∀b,bU undef=some b->w.heap.size<=b:=λb h=>by simp[bU,undef]at h
  have hst:=nA (it:=.gone) (g:=undef) hr (ap5 _ _) hg;have h1:=Dm (it:=.gone) (g:=undef) hr (ap5 _ _) hg trivial;obtain⟨G',k1,k2,k3⟩:=zp f (la:=la) (λy hy=>hx y (by simp[hy])) h1 (hf.keep λs v h=>dR hr hst h)
  have e:H++alX f (x::la)=(H++[.gone])++alX f la:=by
   rw[show alX f (x::la)=(match f x.i with|true=>.box x.t x.cs|false=>.gone)::alX f la from rfl,hx x (by simp)];simp
  rw[e];exact⟨G',k1,k2,λs v h=>k3 s v (dR hr hst h)⟩
end
theorem zg{h0:Nat}:∀{t:Ty},∀s∈t.zsplit,s.refs h0=true:=by
 intro t;induction t with
 |pair a b iha ihb=>
  grind [Ty.zsplit]
 |st a ih=>intro s hs;simp only[Ty.zsplit]at hs;exact ih s hs
 |_=>intro s hs;simp only[Ty.zsplit,apo]at hs;subst hs;rfl
end
section
theorem GN{H:List Item}{s:SV}{l:List SV}(h:gU [] s=some l):gU H s=some l:=by
 unfold gU at h ⊢;grind
def z8(h0:Nat)(la:List AlA)(f:Nat->Bool)(L:SL):Prop:=∀t s,aP L t=some s->s.refsT h0=true\/∃(r:Nat) (a:AlA),la[r]?=some a/\f a.i=true/\s=.box (h0+r) 0
theorem UP{h0:Nat}{la:List AlA}{f:Nat->Bool}{L:SL}(h:∀t s,aP L t=some s->s.refsT h0=true):z8 h0 la f (gV f la h0 L):=by
 intro t s hs;rcases Fc hs with⟨r,a,h1,_,h3,h4⟩|h1<;>grind
section
variable {P:Program} {T:TT} {E:Env} {ops:Array Oper} {Z:Nat->Prop} {w0:World} {N fl:Nat} {Q:Exit->Act->World->Prop} {X:List Item->List Value->World->Prop}
theorem tb{H:List Item}{G:List Value}{w:World}{a:Act}{L L':SL}{h0 r j:Nat}{la:List AlA}{x:AlA}{oj:Oper}{f:Nat->Bool}{K:Act->World->Prop}{Qx:Exit->Act->World->Prop}(hT:fA P T=true)(hoj:ops[j]?=some oj)(hal:bg oj=true)
  (hla:la[r]?=some x) (hdst:oj.dst=some x.d) (hd:x.d<N) (hop:oj.op=.alloc x.t) (hxx:∃y,dP T x.t=some y/\y.z=true/\(∀p q,y.ty≠.pair p q)/\x.cs=y.ty.zsplit) (_hD:Dis la) (hfx:f x.i=false)
  (hk:H[h0+r]?=some .gone) (hlow:nK h0 H) (hL:z8 h0 la f L) (hfl:fl<=h0) (hr:SR Z w0 H G w) (hf:FR Z N L H G w a) (hx:X H G w) (hX:∀H G w H' G' w',X H G w->Ev Z fl H G w H' G' w'->X H' G' w') (hL':∀t,aP L' t=if t=x.d then some (.box (h0+r) 0)else aP L t)
  (hK:∀v G' w',Old w w'->SR Z w0 (H.set (h0+r) (.box x.t x.cs)) G' w'->FR Z N L' (H.set (h0+r) (.box x.t x.cs)) G' w' (a.put oj.dst v)->X (H.set (h0+r) (.box x.t x.cs)) G' w'->K (a.put oj.dst v) w'):wpOp P ops Qx j K a w:=by
 obtain⟨y,hy,hz,hne,hcs⟩:=hxx
 have hg:oj.guard=none:=by
  unfold bg at hal;rw[hop]at hal;cases hq:oj.guard with
  |none=>rfl
  |some x=>rw[hq]at hal;simp at hal
 have hck:=aQ hT hy;obtain⟨inf,hinf,hzero⟩:=yG hck hz
 have hc:(mkV y.ty (zc y.ty)).cells.toList=zc y.ty:=lg (by
  generalize y.ty=ty at*
  cases ty<;>first|exact .inr rfl|exact .inl rfl|exact(hne _ _ rfl).elim)
 obtain⟨G',k1,k2,k3,k4⟩:=Su (t:=x.t) (cs:=x.cs) (vs:=(mkV y.ty (zc y.ty)).cells) hr hk (by omega) hlow (by rw[hcs];exact zg) (by rw[hcs,hc];exact lM)
 have hrun:(execOp a.eval oj).run P w=.ok (.value (.pointer (some ⟨w.heap.size,0,none⟩))) (w.alloc (.cells (mkV y.ty (zc y.ty)).cells x.t)):=by
  simp[execOp,hop,Instr.alloc,zeroValue,typeInfo,hinf,hzero,newVar,newRow]
 unfold wpOp;simp only[hoj];rw[anp (by simp[Region.wanted,hg])];refine .inl ?_;unfold Oper.wp;rw[hrun];refine hK _ G' _ ⟨(j9 w (.cells (mkV y.ty (zc y.ty)).cells x.t)).size,λb hb=>(j9 w (.cells (mkV y.ty (zc y.ty)).cells x.t)).block b hb⟩ k1 ?_ (hX _ _ _ _ _ _ hx λs v h hs=>k2 s v (rG hfl hs) h)
 have hf1:FR Z N L (H.set (h0+r) (.box x.t x.cs)) G' (w.alloc (.cells (mkV y.ty (zc y.ty)).cells x.t)) a:=by
  refine⟨hf.defers,hf.size,λt s hs=>?_⟩;obtain⟨v,h1,h2⟩:=hf.slot t s hs;refine⟨v,h1,?_⟩;rcases hL t s hs with h3|⟨r',b,h3,h4,rfl⟩
  ·exact LG (λs v hs h=>k2 s v hs h) h2 h3
  ·refine k3 _ _ v (λe=>?_) h2;grind
 have hf2:=hf1.put (d:=oj.dst) (L':=(x.d,.box (h0+r) 0)::oh L x.d) (s:=.box (h0+r) 0) (v:=.pointer (some ⟨w.heap.size,0,none⟩)) (by
  rw[hdst];simp only[ik];rw[anr (show x.d+1<=N from hd)]) k4
 exact⟨hf2.defers,hf2.size,λt s hs=>hf2.slot t s (by rw[fa,<-hL' t];exact hs)⟩
structure PlanOk (T:TT) (ops:Array Oper) (N:Nat) (H0:List Item) (la:List AlA) (ss:List AlS):Prop where
 dis:Dis la
 la2:∀a∈la,(∃o,ops[a.i]?=some o/\bg o=true)/\∀x∈a.cs,x.refs H0.length=true
 ss1:∀s∈ss,(∃o,ops[s.i]?=some o/\bg o=false/\o.dst=none)/\(∀x∈s.l,x.refs H0.length=true)/\Gt ops s.i s.j la H0.length=true/\∃bt cells,(H0++alX (λ_=>true) la)[s.j]?=some (.box bt cells)/\s.off+s.l.length<=cells.length
 far:ss.Pairwise (λs p=>FS s p=true)
def rY(T:TT)(L:SL)(s:AlS)(o:Oper):Prop:=∃t x v sv y,o.op=.store t x v/\o.guard=none/\o.dst=none/\opS L x=some (.box s.j s.off)/\opS L v=some sv/\dP T t=some y/\gU [] sv=some s.l/\s.l.length=y.ty.n
theorem wR{l0:Array Bool}{H0:List Item}{La:SL}{la:List AlA}{ss:List AlS}(hA:alA T N ops.toList 0=some la)(hS:alS T E ops l0 la H0.length La (H0++alX (λ_=>true) la) ops.toList 0=some ss):PlanOk T ops N H0 la ss:=by
 obtain⟨a1,a2,a3⟩:=qN hA;obtain⟨s1,s2,s3⟩:=nX hS;refine⟨a3,λa ha=>?_,λs hs=>?_,s3⟩
 ·obtain⟨_,o,ho,hal,y,hy⟩:=a2 a ha;grind [zg]
 ·obtain⟨_,_,o,ho,hal,t,x,v,sv,y,bt,cells,q1,q2,q3,q4,q5,q6,q7,q8,q9,q10,q11,q12,q13⟩:=s2 s hs;grind
theorem Kg{la:List AlA}(hA:alA T N ops.toList 0=some la):∀{j:Nat} {o:Oper},ops[j]?=some o->bg o=true->∃(r:Nat) (a:AlA),la[r]?=some a/\a.i=j/\o.dst=some a.d/\a.d<N/\∃x,o.op=.alloc a.t/\dP T a.t=some x/\x.z=true/\(∀p q,x.ty≠.pair p q)/\a.cs=x.ty.zsplit:=by
 intro j o ho hal;obtain⟨r,a,h1,h2,h3⟩:=(qN hA).1 j o (by rw[aoG];exact ho) hal;grind
theorem lA{l:Array Bool}{i j:Nat}(hcl:Clo ops l)(hj:∀os,ops[j]?=some os->∀e∈os.after,Region.binds .any e=true->l.getD e.on false=true)(h:iE ops 4 j i=true):l.getD i true=true:=by grind [vm]
section
variable {H0:List Item} {la:List AlA} {ss:List AlS} {l:Array Bool}
theorem PlanOk.wt(_hp:PlanOk T ops N H0 la ss)(hcl:Clo ops l)(_hl:l.size=ops.size){s:AlS}{i:Nat}(hs:dn l s.i=true)(_hm:s∈ss)(h:iE ops 4 s.i i=true):l.getD i true=true:=by exact lA hcl (λos hos e he hb=>hcl s.i os hos hs e he hb) h
theorem PlanOk.setA(hp:PlanOk T ops N H0 la ss)(hcl:Clo ops l)(hl:l.size=ops.size){r:Nat}{x:AlA}(h1:la[r]?=some x)(hju:l.getD x.i true=false):
  cJ (dn (l.setIfInBounds x.i true)) ss (H0++alX (dn (l.setIfInBounds x.i true)) la)=(cJ (dn l) ss (H0++alX (dn l) la)).set (H0.length+r) (.box x.t x.cs)/\(cJ (dn l) ss (H0++alX (dn l) la))[H0.length+r]?=some .gone:=by
 have hup:=kf l x.i;obtain⟨⟨oj,hoj,hal⟩,_⟩:=hp.la2 x (aoa h1)
 have hne:∀s∈ss,dn l s.i=true->s.j≠H0.length+r:=λs hs hds e=>by
  have:=hp.wt hcl hl hds hs (C0 (hp.ss1 s hs).2.2.1 h1 e);rw[hju]at this;cases this
 refine⟨?_,?_⟩
 ·rw[FX hp.dis h1 hup,lW (g:=dn l) λs hs=>?_,zr hne];rw[hup,ank];intro e;obtain⟨⟨o,ho,hal',_⟩,_⟩:=hp.ss1 s hs;rw[e,hoj]at ho;injection ho with ho;subst ho;rw[hal]at hal';cases hal'
 ·have h3:(H0++alX (dn l) la)[H0.length+r]?=some .gone:=by
   rw[anz (by omega),show H0.length+r-H0.length=r by omega,uo,h1];simp only[an2];rw[show dn l x.i=false from hju]
  have h4:H0++alX (dn l) la=(H0++alX (dn l) la).set (H0.length+r) .gone:=by
   refine aoB λk=>?_;grind
  rw[h4,zr hne,aoA (by rw[uy];exact(am7.1 h3).1)]
theorem PlanOk.same(hp:PlanOk T ops N H0 la ss){j:Nat}{oj:Oper}(hoj:ops[j]?=some oj)(hal:bg oj=false):alX (dn (l.setIfInBounds j true)) la=alX (dn l) la/\∀a∈la,dn (l.setIfInBounds j true) a.i=dn l a.i:=by
 have h:∀a∈la,dn (l.setIfInBounds j true) a.i=dn l a.i:=λa ha=>by
  rw[kf,ank];obtain⟨⟨o',h1,h2⟩,_⟩:=hp.la2 a ha;grind
 grind [alX,List.map_congr_left]
theorem PlanOk.setS(hp:PlanOk T ops N H0 la ss){s:AlS}(hsm:s∈ss)(hju:l.getD s.i true=false):
  cJ (dn (l.setIfInBounds s.i true)) ss (H0++alX (dn (l.setIfInBounds s.i true)) la)=stP s (cJ (dn l) ss (H0++alX (dn l) la)):=by
 obtain⟨⟨o,ho,hal,_⟩,_⟩:=hp.ss1 s hsm;rw[(hp.same ho hal).1];exact IO (kf l s.i) hju hp.far hsm
theorem PlanOk.setT(hp:PlanOk T ops N H0 la ss){j:Nat}{oj:Oper}{d:Nat}(hoj:ops[j]?=some oj)(hal:bg oj=false)(hd:oj.dst=some d):
  cJ (dn (l.setIfInBounds j true)) ss (H0++alX (dn (l.setIfInBounds j true)) la)=cJ (dn l) ss (H0++alX (dn l) la):=by
 rw[(hp.same hoj hal).1];refine lW λs hs=>?_;rw[kf,ank];obtain⟨⟨o,ho,_,hdn⟩,_⟩:=hp.ss1 s hs;grind
theorem PlanOk.low(hp:PlanOk T ops N H0 la ss)(hlowH:nK H0.length H0):nK H0.length (cJ (dn l) ss (H0++alX (dn l) la)):=
 DF (T3 hlowH λa ha=>(hp.la2 a ha).2) λs hs=>(hp.ss1 s hs).2.1
theorem PlanOk.box(hp:PlanOk T ops N H0 la ss)(hcl:Clo ops l){s:AlS}(hsm:s∈ss)(hj:∀os,ops[s.i]?=some os->∀e∈os.after,Region.binds .any e=true->l.getD e.on false=true):∃bt c',(cJ (dn l) ss (H0++alX (dn l) la))[s.j]?=some (.box bt c')/\s.off+s.l.length<=c'.length:=by
 obtain⟨_,_,ht,bt,cells,q8,q10⟩:=hp.ss1 s hsm
 have:(H0++alX (dn l) la)[s.j]?=some (.box bt cells):=by
  rcases anC s.j H0.length with hlt|hge
  ·grind
  ·rw[anz hge,uo]at q8 ⊢;cases hb:la[s.j-H0.length]? with
   |none=>rw[hb]at q8;cases q8
   |some b=>
    rw[hb]at q8;simp only[an2]at q8 ⊢;rw[show dn l b.i=true from lA hcl hj (C0 ht hb (by omega))];exact q8
 obtain⟨c',b1,b2⟩:=DY (f:=dn l) this (ss:=ss);grind
theorem tu{H:List Item}{G:List Value}{w:World}{a:Act}{L:SL}{s:AlS}{oj:Oper}{bt:Nat}{c':List SV}{K:Act->World->Prop}{Qx:Exit->Act->World->Prop}(hT:fA P T=true)(hE:ml P E)(hI:inv w0)(hoj:ops[s.i]?=some oj)(hst:rY T L s oj)(b1:H[s.j]?=some (.box bt c'))(b2:s.off+s.l.length<=c'.length)
  (hr:SR Z w0 H G w) (hf:FR Z N L H G w a) (hx:X H G w) (hX:∀H G w H' G' w',X H G w->Ev Z fl H G w H' G' w'->X H' G' w')
  (hK:∀G' w',SR Z w0 (stP s H) G' w'->FR Z N L (stP s H) G' w' a->X (stP s H) G' w'->K a w'):wpOp P ops Qx s.i K a w:=by
 obtain⟨t,x,v,sv,y,q1,q2,q3,q4,q5,q6,q7,q9⟩:=hst
 have hstP:stP s H=H.set s.j (.box bt (pS c' s.off s.l)):=by
  unfold stP;rw[b1]
 have heop:eop T E fl L H oj (λs H' L'=>some (s,H',L'))=some (.undef,stP s H,L):=by
  unfold eop;rw[q1];dsimp only;rw[q4,q5,q6];dsimp only;rw[b1,GN q7];dsimp only;rw[show Nat.beq s.l.length y.ty.n=true by rw[q9];exact apw _,anr (show s.off+s.l.length<=c'.length by omega),hstP];rfl
 unfold wpOp;simp only[hoj];rw[anp (by simp[Region.wanted,q2])];refine .inl ?_;refine wo hT hE hI hr hf heop λs' H' L1 G' w' v' k1 k2 k3 k4 k5=>?_;injection k1 with k1;injection k1 with k1 k1';injection k1' with k1' k1'';subst k1 k1' k1'';rw[q3];exact hK G' w' k2 k3 (hX _ _ _ _ _ _ hx k5.ev)
end
theorem DA{l:Array Bool}{H0:List Item}{L0:SL}{la:List AlA}{s:AlS}{o:Oper}{Ha:List Item}(h:Uz T ops la H0.length (gV (λ_=>true) la H0.length L0) Ha s o)(hcl:Clo ops l)(hj:∀os,ops[s.i]?=some os->∀e∈os.after,Region.binds .any e=true->l.getD e.on false=true):rY T (gV (dn l) la H0.length L0) s o:=by
 obtain⟨t,x,v,sv,y,bt,cells,q1,q2,q3,q4,q5,q6,q7,q8,q9,q10,q11,q12,q13⟩:=h
 have hopd:∀{z:Operand} {sz:SV},(∀a∈la,KK z a.d=true->iE ops 4 s.i a.i=true)->opS (gV (λ_=>true) la H0.length L0) z=some sz->opS (gV (dn l) la H0.length L0) z=some sz:=by
  intro z sz hw hz;cases z with
  |tmp u=>
   rw[<-hz];refine jv (λb hb e=>?_) rfl;exact lA hcl hj (hw b hb (by simp[KK,e]))
  |_=>exact hz
 exact⟨t,x,v,sv,y,q1,q2,q3,hopd (λb hb h=>q12 b hb (by rw[h];rfl)) q4,hopd (λb hb h=>q12 b hb (by rw[h,Bool.or_true])) q5,q6,q7,q9⟩
set_option maxHeartbeats 1000000 in
theorem Uf{H0:List Item}{L0:SL}{l0:Array Bool}{la:List AlA}{ss:List AlS}(hT:fA P T=true)(hE:ml P E)(hI:inv w0)
  (hA:alA T N ops.toList 0=some la) (hS:alS T E ops l0 la H0.length (gV (λ_=>true) la H0.length L0) (H0++alX (λ_=>true) la) ops.toList 0=some ss) (hD:GJ ops l0 (la.map (·.i)++ss.map (·.i))=true) (hW:Jh E ops l0 (la.map (·.i)++ss.map (·.i))=true)
  (hlowH:nK H0.length H0) (hlowL:∀t s,aP L0 t=some s->s.refsT H0.length=true) (hfl:fl<=H0.length) (hl0:l0.size=ops.size)
  (hX:∀H G w H' G' w',X H G w->Ev Z fl H G w H' G' w'->X H' G' w')
  (hEnd:∀(n:Nat) (l:Array Bool) G w a,cu l<=n->l.size=ops.size->(∀k,l0.getD k false=true->l.getD k false=true)->(∀k∈la.map (·.i)++ss.map (·.i),l.getD k true=true)->(∀k,l.getD k true=true->l0.getD k true=true\/k∈la.map (·.i)++ss.map (·.i))->Clo ops l->SR Z w0 (cJ (λ_=>true) ss (H0++alX (λ_=>true) la)) G w->FR Z N (gV (λ_=>true) la H0.length L0) (cJ (λ_=>true) ss (H0++alX (λ_=>true) la)) G w a->X (cJ (λ_=>true) ss (H0++alX (λ_=>true) la)) G w->wpG P ops Q (λ_=>True) n l a w):
  ∀(n:Nat) (l:Array Bool),cu l<=n->l.size=ops.size->(∀k,l0.getD k false=true->l.getD k false=true)->(∀k,l.getD k true=true->l0.getD k true=true\/k∈la.map (·.i)++ss.map (·.i))->Clo ops l->∀(G:List Value) (w:World) (a:Act),
   SR Z w0 (cJ (dn l) ss (H0++alX (dn l) la)) G w->FR Z N (gV (dn l) la H0.length L0) (cJ (dn l) ss (H0++alX (dn l) la)) G w a->X (cJ (dn l) ss (H0++alX (dn l) la)) G w->wpG P ops Q (λ_=>True) n l a w:=by
 obtain⟨a1,a2,a3⟩:=qN hA;obtain⟨s1,s2,s3⟩:=nX hS;have hp:=wR hA hS
 have cov:∀{l:Array Bool},(∀k,l0.getD k false=true->l.getD k false=true)->∀{k:Nat} {o:Oper},ops[k]?=some o->l.getD k true=false->(∃(r:Nat) (x:AlA),la[r]?=some x/\x.i=k/\bg o=true)\/(∃s∈ss,s.i=k/\bg o=false)\/(gj E o=true/\l0.getD k true=false):=by
  intro l hsub k o ho hu;have hk:ops.toList[k]?=some o:=by rw[aoG];exact ho
  cases hal:bg o with
  |true=>
   obtain⟨r,x,h1,h2,_⟩:=a1 k o hk hal;exact .inl ⟨r,x,h1,by omega,rfl⟩
  |false=>
   right;have hlt:k<l0.size:=by rw[hl0];exact(anc.1 ho).1
   have h0:l0.getD (0+k) true=false:=by
    rw[anB];cases hq:l0.getD k true with
    |false=>rfl
    |true=>
     rw[<-kM hlt]at hq;have:=hsub k hq;rcases anC k l.size with h'|h'
     ·rw[kM h',hu]at this;cases this
     ·simp[aoz h']at hu
   cases ht:gj E o with
   |true=>rw[anB]at h0;exact .inr ⟨rfl,h0⟩
   |false=>
    obtain⟨s,h1,h2⟩:=s1 k o hk h0 hal ht;exact .inl ⟨s,h1,by omega,rfl⟩
 have fin:∀{n:Nat} {l:Array Bool},cu l<=n->l.size=ops.size->(∀k,l0.getD k false=true->l.getD k false=true)->(∀k,l.getD k true=true->l0.getD k true=true\/k∈la.map (·.i)++ss.map (·.i))->Clo ops l->(∀k∈la.map (·.i)++ss.map (·.i),l.getD k true=true)->∀{G:List Value} {w:World} {a:Act},SR Z w0 (cJ (dn l) ss (H0++alX (dn l) la)) G w->FR Z N (gV (dn l) la H0.length L0) (cJ (dn l) ss (H0++alX (dn l) la)) G w a->X (cJ (dn l) ss (H0++alX (dn l) la)) G w->wpG P ops Q (λ_=>True) n l a w:=by
  intro n l hcu hl hsub hin hcl hall G w a hr hf hx;have e1:∀x∈la,dn l x.i=true:=λx hx=>hall _ (aov _ (aoP.2 ⟨x,hx,rfl⟩));have e2:∀s∈ss,dn l s.i=true:=λs hs=>hall _ (aoZ _ (aoP.2 ⟨s,hs,rfl⟩))
  have e3:alX (dn l) la=alX (λ_=>true) la:=by
   unfold alX;exact List.map_congr_left λx hx=>by rw[e1 x hx]
  have e4:cJ (dn l) ss (H0++alX (dn l) la)=cJ (λ_=>true) ss (H0++alX (λ_=>true) la):=by
   rw[e3];exact lW e2
  rw[e4]at hr hf hx;refine hEnd n l G w a hcu hl hsub hall hin hcl hr ⟨hf.defers,hf.size,λt s hs=>hf.slot t s ?_⟩ hx;rw[<-hs];exact jv (λx hx _=>e1 x hx) rfl
 intro n;induction n with
 |zero=>
  intro l hcu hl hsub hin hcl G w a hr hf hx;exact fin hcu hl hsub hin hcl (λk _=>Uy (l:=l) (by omega) k) hr hf hx
 |succ n ih=>
  intro l hcu hl hsub hin hcl G w a hr hf hx;by_cases hC:∀k∈la.map (·.i)++ss.map (·.i),l.getD k true=true
  ·exact fin hcu hl hsub hin hcl hC hr hf hx
  have hC':∃k∈la.map (·.i)++ss.map (·.i),l.getD k true=false:=by
   apply ang;intro hn;refine hC λk hk=>?_;cases hq:l.getD k true with
   |true=>rfl
   |false=>exact(hn ⟨k,hk,hq⟩).elim
  refine⟨λh=>(zC hl hD hsub hC' h).elim,λj hj=>?_⟩;obtain⟨hju,oj,hoj,hdep⟩:=an5.1 hj
  have hin':∀{i:Nat},i∈la.map (·.i)++ss.map (·.i)->∀k,(l.setIfInBounds i true).getD k true=true->l0.getD k true=true\/k∈la.map (·.i)++ss.map (·.i):=λ{i} hi k hk=>by
   have:=kf l i k;rw[show dn (l.setIfInBounds i true) k=true from hk]at this;by_cases e:k=i
   ·subst e;exact .inr hi
   ·rw[ank e]at this;exact hin k this.symm
  have hsub':∀k,l0.getD k false=true->(l.setIfInBounds j true).getD k false=true:=λk hk=>apY (hsub k hk);have hcu':cu (l.setIfInBounds j true)<=n:=by have:=A6 hju;omega
  have hjr:∀os,ops[j]?=some os->∀e∈os.after,Region.binds .any e=true->l.getD e.on false=true:=λos hos e he hb=>by rw[hoj]at hos;injection hos with hos;subst hos;exact hdep e he hb
  rcases cov hsub hoj hju with⟨r,x,h1,h2,hal⟩|⟨s,hsm,h2,hal⟩|⟨ht,hu0⟩
  ·-- an allocation
   subst h2;obtain⟨r',x',g1,g2,g3,g4,y,g5,g6⟩:=Kg hA hoj hal
   have e:r'=r:=by
    by_cases hh:r'=r
    ·exact hh
    ·exact absurd g2 (OT a3 h1 g1 hh).1
   subst e;rw[h1]at g1;injection g1 with g1;subst g1;obtain⟨hset,hgone⟩:=hp.setA hcl hl h1 hju;refine tb (L':=gV (dn (l.setIfInBounds x.i true)) la H0.length L0) hT hoj hal h1 g3 g4 g5 ⟨y,g6⟩ a3 hju hgone (hp.low hlowH) (UP hlowL) hfl hr hf hx hX (Cp (kf l x.i) a3 h1) λv G' w' _ k1 k2 k3=>⟨.inr trivial,?_⟩
   rw[<-hset]at k1 k2 k3;exact ih _ hcu' (by simpa using hl) hsub' (hin' (aov _ (aoP.2 ⟨x,aoa h1,rfl⟩))) (hcl.set hj) G' w' _ k1 k2 k3
  ·-- a store
   subst h2;obtain⟨_,_,o,ho,_,hok⟩:=s2 s hsm;rw[Nat.sub_zero,aoG,hoj]at ho;injection ho with ho;subst ho;obtain⟨bt,c',b1,b2⟩:=hp.box hcl hsm hjr;refine tu (fl:=fl) hT hE hI hoj (DA hok hcl hjr) b1 b2 hr hf hx hX λG' w' k2 k3 k5=>⟨.inr trivial,?_⟩
   rw[<-hp.setS hsm hju]at k2 k3 k5;refine ih _ hcu' (by simpa using hl) hsub' (hin' (aoZ _ (aoP.2 ⟨s,hsm,rfl⟩))) (hcl.set hj) G' w' _ k2 ?_ k5;exact⟨k3.defers,k3.size,λu su hs=>k3.slot u su (by rw[<-jv (λx hx _=>(hp.same hoj hal).2 x hx) rfl];exact hs)⟩
  ·-- a tame one waits for all
   exfalso;obtain⟨k,hk,hku⟩:=hC';have hw:=anl.1 hW j (List.mem_range.2 (anc.1 hoj).1);unfold eZ at hw;rw[hu0,hoj]at hw;dsimp only at hw;rw[ht]at hw;simp only[Bool.not_true,Bool.or_false,Bool.false_or]at hw;have:=lA hcl hjr (anl.1 hw k hk);rw[hku]at this;cases this
end
end
end Go.Proofs.YtagbmoohboleaaaGreat
end
