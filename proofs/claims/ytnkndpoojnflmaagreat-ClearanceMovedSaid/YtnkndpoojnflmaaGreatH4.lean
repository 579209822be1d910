/- The pure machine and the machine: slots, loop heads, waiting calls. -/
import Derived.Test.YtnkndpoojnflmaaGreatH3
noncomputable section
namespace Go.Proofs.YtnkndpoojnflmaaGreat
open Go.RowKit Go.IntKind
theorem alW:type_of% @Classical.byContradiction:=@Classical.byContradiction
theorem amg:type_of% @List.getElem?_cons_succ:=@List.getElem?_cons_succ
theorem amo:type_of% @List.pairwise_cons:=@List.pairwise_cons
theorem amF:type_of% @List.getElem?_cons_zero:=@List.getElem?_cons_zero
theorem anf:type_of% @List.getElem?_set_ne:=@List.getElem?_set_ne
theorem ang:type_of% @List.mem_append_left:=@List.mem_append_left
theorem anh:type_of% @List.mem_map:=@List.mem_map
theorem ank:type_of% @List.getElem?_set_self:=@List.getElem?_set_self
theorem anq:type_of% @List.length_map:=@List.length_map
theorem anr:type_of% @Array.getElem?_toList:=@Array.getElem?_toList
theorem anM:type_of% @List.mem_append_right:=@List.mem_append_right
theorem an0:type_of% @List.getElem_of_mem:=@List.getElem_of_mem
theorem an8:type_of% @List.mem_singleton:=@List.mem_singleton
theorem aoh:type_of% @Nat.beq_refl:=@Nat.beq_refl
theorem aor:type_of% @List.all_cons:=@List.all_cons
theorem aot:type_of% @Bool.or_eq_false_iff:=@Bool.or_eq_false_iff
section
theorem zk{d:Nat}{L:SL}{t:Nat}{s:SV}(h:aN (nP L d) t=some s):aN L t=some s:=h
theorem gN{d:Nat}{x:SV}{L:SL}{t:Nat}{s:SV}(h:aN ((d,x)::L) t=some s):(t=d∧s=x)∨(t≠d∧aN L t=some s):=by
 simp only[aN]at h
 split at h
 ·simp_all
 ·refine .inr ⟨fun e=>?_,h⟩
  simp_all
theorem gY{L:SL}:∀{ts:List Nat} {t:Nat} {s:SV},aN (hU L ts) t=some s→aN L t=some s
 |[],_,_,h=>by simp[hU,aN]at h
 |u::ts,t,s,h=>by
  simp only[hU]at h
  split at h
  ·rename_i x hx
   rcases gN h with⟨rfl,rfl⟩|⟨_,h1⟩
   ·exact hx
   ·exact gY h1
  ·exact gY h
theorem qt{N:NT}{f i:Nat}{L:SL}{t:Nat}{s:SV}(h:aN (EN N f i L) t=some s):aN L t=some s:=by
 unfold EN at h
 split at h
 ·exact gY h
 omega
theorem wS{L:SL}:∀{ts:List Nat} {L':SL},D3 L ts=some L'→∀t s,aN L' t=some s→aN L t=some s
 |[],L',h,t,s,hs=>by simp only[D3,alO]at h;subst h;simp[aN]at hs
 |u::ts,L',h,t,s,hs=>by
  simp only[D3]at h
  split at h<;>try (cases h;done)
  rename_i x r h1 h2
  injection h with h
  subst h
  rcases gN hs with⟨rfl,rfl⟩|⟨_,h3⟩
  ·exact h1
  ·exact wS h2 t s h3
theorem zJ:∀{L:SL} {t:Nat} {s:SV},aN L t=some s→(t,s)∈L
 |[],_,_,h=>by simp[aN]at h
 |(k,x)::r,t,s,h=>by
  rcases gN h with⟨rfl,rfl⟩|⟨_,h3⟩
  ·simp
  ·simp[zJ h3]
theorem sJ{k:Nat}{s:SV}(h:∀l,s≠.tup l):s.refsT k=s.refs k:=by cases s<;>first|rfl|exact(h _ rfl).elim
theorem yc{fl j:Nat}{s:SV}(h:s.refs fl=true)(ho:s.of1 j=true):j<fl:=by
 cases s<;>simp only[SV.of1,Bool.false_eq_true]at ho
 ·have:=alK ho;subst this;exact alM h
 ·have:=alK ho;subst this;exact alM h
 ·have:=alK ho;subst this;exact alM h
section
variable {Z:Nat→Prop} {w0:World} {n:Nat} {L L':SL} {H H':List Item} {G G':List Value} {w w':World} {a:Act} {F:FT}
theorem FR.put{d:Option Nat}{s:SV}{v:Value}(h:FR Z n L H G w a)(hp:gu n L d s=some L')(hv:Rel G (Av Z H G) w s v):FR Z n L' H G w (a.put d v):=by
 cases d with
 |none=>simp only[gu,alO]at hp;subst hp;exact h
 |some d=>
  simp only[gu]at hp
  split at hp<;>try (cases hp;done)
  rename_i hd
  have hd:=alM hd
  injection hp with hp
  subst hp
  refine⟨h.defers,by simp[Act.put,h.size],fun t s' hs=>?_⟩
  simp only[Act.put,Array.getElem?_setIfInBounds,h.size]
  rcases gN hs with⟨rfl,rfl⟩|⟨hne,h3⟩
  ·grind
  ·have h4:=zk h3
   obtain⟨u,h5,h6⟩:=h.slot t s' h4
   grind
theorem FR.say{d:Nat}{s:SV}{v:Value}(h:FR Z n L H G w a)(hd:a.tmps[d]?=some v)(hv:Rel G (Av Z H G) w s v):FR Z n ((d,s)::nP L d) H G w a:=
 ⟨h.defers,h.size,fun t s' hs=>by
  rcases gN hs with⟨rfl,rfl⟩|⟨hne,h3⟩
  ·exact⟨v,hd,hv⟩
  ·exact h.slot t s' (zk h3)⟩
theorem sL(hr:SR Z w0 H G w){s:SV}{v:Value}(h:Rel1 G (Av Z H G) w s v):s.refs H.length=true:=by
 have lt:∀(j:Nat) g,G[j]?=some g→Nat.ble (j+1) H.length=true:=fun j g hg=>amb (by rw[←hr.len];exact(alP.1 hg).1)
 cases s with
 |box j off=>obtain⟨b,h1,_⟩:=h;exact lt j _ h1
 |own j=>exact lt j _ h
 |oelt j sz i off=>obtain⟨b,m,c,h1,_⟩:=h;exact lt j _ h1
 |osl j sz lo n=>obtain⟨g,q,c,h1,_⟩:=h;exact lt j _ h1
 |clo f caps=>
  obtain⟨bs,h1,_⟩:=h
  refine al4.2 fun j hj=>?_
  obtain⟨k,hk,rfl⟩:=an0 hj
  obtain⟨b,_,hb⟩:=iM h1 k _ (alG hk)
  grind
 |tup l=>exact h.elim
 |_=>rfl
theorem mS(hr:SR Z w0 H G w){s:SV}{v:Value}(h:Rel G (Av Z H G) w s v):s.refsT H.length=true:=by
 cases s with
 |tup l=>
  obtain⟨vs,_,h2⟩:=h
  refine al4.2 fun s hs=>?_
  obtain⟨k,hk,rfl⟩:=an0 hs
  obtain⟨b,_,hb⟩:=iM h2 k _ (alG hk)
  grind [sL]
 |_=>rw[sJ (fun l e=>by cases e)];exact sL hr (m4 h (fun l e=>by cases e))
def Ev(Z:Nat→Prop)(fl:Nat)(H:List Item)(G:List Value)(w:World)(H':List Item)(G':List Value)(w':World):Prop:=∀s v,Rel1 G (Av Z H G) w s v→s.refs fl=true→Rel1 G' (Av Z H' G') w' s v
theorem Chg.ev{fl:Nat}{st ap:Bool}(h:Chg Z fl st ap H G w H' G' w'):Ev Z fl H G w H' G' w':=fun s v hs hr=>h.pres s v hs fun _j hj=>yc hr hj
def DOk(F:FT)(fm:Fm):Prop:=∀D,fm.d=some D→Clo (ak (nth (aj F fm.f) fm.i)) (mkL (ak (nth (aj F fm.f) fm.i)).size D)∧Region.noSelect (ak (nth (aj F fm.f) fm.i))=true∧D.length≤(ak (nth (aj F fm.f) fm.i)).size
def FrsOk(Z:Nat→Prop)(F:FT)(H:List Item)(G:List Value)(w:World):Nat→List Fm→List Act→Prop
 |_,[],[]=>True
 |fl,fm::fs,a::ats=>FR Z (ntm F fm.f) fm.L H G w a∧(∀t s,aN fm.L t=some s→s.refsT fl=true)∧(fm.fl≤fl∧(∃fn,gn F fm.f=some fn)∧DOk F fm)∧FrsOk Z F H G w fm.fl fs ats
 |_,_,_=>False
theorem qy{k l:Nat}(h:k≤l){s:SV}(hs:s.refs k=true):s.refs l=true:=by
 have b:∀j,Nat.ble (j+1) k=true→Nat.ble (j+1) l=true:=fun j hj=>amb (alU (alM hj) h)
 cases s with
 |box j off=>exact b j hs
 |own j=>exact b j hs
 |oelt j sz i off=>exact b j hs
 |osl j sz i off=>exact b j hs
 |clo f caps=>exact al4.2 fun j hj=>b j (al4.1 hs j hj)
 |tup l=>cases hs
 |_=>rfl
theorem GU{k l:Nat}(h:k≤l){s:SV}(hs:s.refsT k=true):s.refsT l=true:=by
 cases s with
 |tup l=>exact al4.2 fun s hm=>qy h (al4.1 hs s hm)
 |_=>rw[sJ (fun l e=>by cases e)]at hs ⊢;exact qy h hs
theorem Rel.ev{fl:Nat}(he:Ev Z fl H G w H' G' w'){s:SV}{v:Value}(h:Rel G (Av Z H G) w s v)(hr:s.refsT fl=true):Rel G' (Av Z H' G') w' s v:=by
 cases s with
 |tup l=>
  obtain⟨vs,h1,h2⟩:=h
  refine⟨vs,h1,?_⟩
  clear h1
  induction l generalizing vs with
  |nil=>cases vs<;>exact h2
  |cons s l ih=>
   simp only[SV.refsT,aor,alJ]at hr
   match vs,h2 with
   |v::vs,⟨g1,g2⟩=>exact⟨he s v g1 hr.1,ih hr.2 vs g2⟩
 |_=>rw[sJ (fun l e=>by cases e)]at hr;exact eH (he _ _ (m4 h (fun l e=>by cases e)) hr)
theorem FrsOk.ev{fl:Nat}(he:Ev Z fl H G w H' G' w'):∀{fl':Nat} {fs:List Fm} {ats:List Act},fl'≤fl→FrsOk Z F H G w fl' fs ats→FrsOk Z F H' G' w' fl' fs ats
 |_,[],[],_,_=>trivial
 |fl',fm::fs,a::ats,hle,⟨h1,h2,h3,h4⟩=>⟨⟨h1.defers,h1.size,fun t s hs=>by
   obtain⟨v,g1,g2⟩:=h1.slot t s hs
   exact⟨v,g1,g2.ev he (GU hle (h2 t s hs))⟩⟩,h2,h3,FrsOk.ev he (alU h3.1 hle) h4⟩
 |_,[],_::_,_,h=>h.elim
 |_,_::_,[],_,h=>h.elim
theorem wb{a b k:Nat}:LB a b≤k↔a≤k∧b≤k:=by grind [LB,alM,amb]
theorem I1{k j:Nat}{s:SV}(h:s.ofm≤k)(ho:s.of1 j=true):j<k:=by
 cases s<;>simp only[SV.of1,Bool.false_eq_true]at ho
 all_goals (have:=alK ho;subst this;exact h)
theorem S4{s:SV}(h:∀l,s≠.tup l):s.ofmT=s.ofm:=by cases s<;>first|rfl|exact(h _ rfl).elim
theorem CH{k:Nat}:∀{L:SL} {t:Nat} {s:SV},slM L≤k→aN L t=some s→s.ofmT≤k
 |[],_,_,_,h=>by simp[aN]at h
 |(q,x)::r,t,s,hk,h=>by
  obtain⟨h1,h2⟩:=wb.1 hk
  rcases gN h with⟨rfl,rfl⟩|⟨_,h3⟩
  ·exact h1
  ·exact CH h2 h3
theorem Rel.evF{k:Nat}(he:∀s v,Rel1 G (Av Z H G) w s v→(∀j,s.of1 j=true→j<k)→Rel1 G' (Av Z H' G') w' s v){s:SV}{v:Value}(h:Rel G (Av Z H G) w s v)(hr:s.ofmT≤k):Rel G' (Av Z H' G') w' s v:=by
 cases s with
 |tup l=>
  obtain⟨vs,h1,h2⟩:=h
  refine⟨vs,h1,?_⟩
  clear h1
  induction l generalizing vs with
  |nil=>cases vs<;>exact h2
  |cons s l ih=>
   obtain⟨r1,r2⟩:=wb.1 hr
   match vs,h2 with
   |v::vs,⟨g1,g2⟩=>exact⟨he s v g1 fun j hj=>I1 r1 hj,ih r2 vs g2⟩
 |_=>rw[S4 (fun l e=>by cases e)]at hr;exact eH (he _ _ (m4 h (fun l e=>by cases e)) fun j hj=>I1 hr hj)
theorem FrsOk.evF{k:Nat}(he:∀s v,Rel1 G (Av Z H G) w s v→(∀j,s.of1 j=true→j<k)→Rel1 G' (Av Z H' G') w' s v):∀{fl':Nat} {fs:List Fm} {ats:List Act},P6 fs≤k→FrsOk Z F H G w fl' fs ats→FrsOk Z F H' G' w' fl' fs ats
 |_,[],[],_,_=>trivial
 |fl',fm::fs,a::ats,hle,⟨h1,h2,h3,h4⟩=>⟨⟨h1.defers,h1.size,fun t s hs=>by
   obtain⟨v,g1,g2⟩:=h1.slot t s hs
   exact⟨v,g1,g2.evF he (CH (wb.1 hle).1 hs)⟩⟩,h2,h3,FrsOk.evF he (wb.1 hle).2 h4⟩
 |_,[],_::_,_,h=>h.elim
 |_,_::_,[],_,h=>h.elim
theorem ro{fl:Nat}:∀{l:List (Nat×Nat×Ty)} {L:SL} {H:List Item} {G:List Value},SR Z w0 H G w→FR Z n L H G w a→fl≤H.length→qw l L H=some (L',H')→∃G',SR Z w0 H' G' w∧FR Z n L' H' G' w a∧Ev Z fl H G w H' G' w∧fl≤H'.length
 |[],L,H,G,hr,hf,hfl,h=>by
  simp only[qw,alO,amk]at h
  obtain⟨rfl,rfl⟩:=h
  exact⟨G,hr,hf,fun s v h _=>h,hfl⟩
 |(t,et,e)::l,L,H,G,hr,hf,hfl,h=>by
  simp only[qw]at h
  split at h
  ·rename_i hs
   split at h<;>try (cases h;done)
   rename_i hn
   have hn:=alM hn
   obtain⟨v,h1,h2⟩:=hf.slot t _ hs
   have h2:v=.slice none 0 0:=h2
   subst h2
   obtain⟨G1,k1,k2,k3,k4⟩:=lN (et:=et) (e:=e) (xs:=[]) (css:=[]) hr hf (aoL _ _) (World.ownsRow_nil w _ _ _) hn trivial fl false false
   obtain⟨G2,g1,g2,g3,g4⟩:=ro (fl:=fl) k1 (k2.say h1 k3) (by simp;omega) h
   exact⟨G2,g1,g2,fun s v hs hrf=>g3 s v (k4.ev s v hs hrf) hrf,g4⟩
  ·exact ro hr hf hfl h
theorem lP{fl:Nat}:∀{l:List (Nat×Ty)} {L:SL} {H:List Item},SR Z w0 H G w→FR Z n L H G w a→fl≤H.length→kK fl l L H=some (L',H')→SR Z w0 H' G w∧FR Z n L' H' G w a∧Ev Z fl H G w H' G w∧fl≤H'.length
 |[],L,H,hr,hf,hfl,h=>by
  simp only[kK,alO,amk]at h
  obtain⟨rfl,rfl⟩:=h
  exact⟨hr,hf,fun s v h _=>h,hfl⟩
 |(t,e)::l,L,H,hr,hf,hfl,h=>by
  simp only[kK]at h
  split at h
  ·rename_i hs
   obtain⟨v,h1,h2⟩:=hf.slot t _ hs
   have h2:v=.slice none 0 0:=h2
   subst h2
   exact lP hr (hf.say (s:=.d (.sl e) []) h1 ⟨[_],ya,rfl⟩) hfl h
  ·rename_i j hs
   split at h<;>try (cases h;done)
   rename_i L1 H1 hg
   have hfz:oN fl [.tmp t] L H=some (L1,H1):=by simp only[oN,opS,hs,hg]
   obtain⟨g1,g2,g3,_,_⟩:=kM hr hf hfz
   have hlen:H1.length=H.length:=by
    unfold uB at hg
    split at hg<;>try (cases hg;done)
    simp only[alO,amk]at hg
    rw[←hg.2];simp
   obtain⟨k1,k2,k3,k4⟩:=lP g1 g2 (by omega) h
   exact⟨k1,k2,fun s v hs hrf=>k3 s v (g3 s v hs fun j hj=>yc hrf hj) hrf,k4⟩
  ·exact lP hr hf hfl h
theorem jk{α:Type}{l:List α}{k j:Nat}{x:α}(h:(l.take k)[j]?=some x):j<k∧l[j]?=some x:=by grind
theorem Bo(hl:Nat){b:Nat}(h:Av Z H G b):Av Z (H.take hl) (G.take hl) b:=⟨h.1,fun j it g h1 h2 h3=>h.2 j it g (jk h1).2 h2 (jk h3).2⟩
theorem xf{hl:Nat}{s:SV}{v:Value}(h:Rel1 G (Av Z H G) w s v)(hs:s.refs hl=true):Rel1 (G.take hl) (Av Z (H.take hl) (G.take hl)) w s v:=by
 have hk:Keeps (Av Z H G) (Av Z (H.take hl) (G.take hl)) w w:=⟨alL _,fun b _ h=>Bo hl h,fun _ _ _=>rfl⟩
 have g:∀(j:Nat) x,Nat.ble (j+1) hl=true→G[j]?=some x→(G.take hl)[j]?=some x:=fun j x hj hx=>by
  grind [alM]
 cases s with
 |d t x=>obtain⟨cs,h1,h2⟩:=h;exact⟨cs,Ty.rd_keep hk h1,h2⟩
 |nil=>exact h
 |box j off=>obtain⟨b,h1,h2⟩:=h;exact⟨b,g j _ hs h1,h2⟩
 |elt e x off=>obtain⟨b,o,cs,h1,h2,h3,h4,h5⟩:=h;exact⟨b,o,cs,h1,Bo hl h2,h3,Ty.rd_keep hk h4,h5⟩
 |own j=>exact g j _ hs h
 |oelt j sz i off=>obtain⟨b,m,c,h1,h2⟩:=h;exact⟨b,m,c,g j _ hs h1,h2⟩
 |cut e xs=>obtain⟨p,h1,h2⟩:=h;exact⟨p,Ty.rd_keep hk h1,h2⟩
 |osl j sz lo n=>obtain⟨x,q,c,h1,h2⟩:=h;exact⟨x,q,c,g j _ hs h1,h2⟩
 |clo f caps=>
  obtain⟨bs,h1,h2⟩:=h
  refine⟨bs,?_,h2⟩
  clear h2
  induction caps generalizing bs with
  |nil=>cases bs<;>exact h1
  |cons c caps ih=>
   simp only[SV.refs,aor,alJ]at hs
   match bs,h1 with
   |b::bs,⟨q1,q2⟩=>exact⟨g c _ hs.1 q1,ih hs.2 bs q2⟩
 |tup l=>exact h
 |undef=>exact h
 |dead=>trivial
theorem VP{hl:Nat}(hr:SR Z w0 H G w)(hrf:(H.take hl).all (Item.refs hl)=true):SR Z w0 (H.take hl) (G.take hl) w:=by
 have hk:Keeps (Av Z H G) (Av Z (H.take hl) (G.take hl)) w w:=⟨alL _,fun b _ h=>Bo hl h,fun _ _ _=>rfl⟩
 refine⟨by simp[hr.len],hr.below,fun j it g h1 h2=>?_,fun i j it jt g h b hij h1 h2 h3 h4 h5 h6 h7=>hr.disj i j it jt g h b hij (jk h1).2 (jk h2).2 h3 h4 (jk h5).2 (jk h6).2 h7,hr.zf⟩
 have hi:=hr.items j it g (jk h1).2 (jk h2).2
 have hir:it.refs hl=true:=al4.1 hrf it (amS h1)
 cases it with
 |gone=>trivial
 |row et e xs=>obtain⟨css,k1,k2,k3⟩:=hi;exact⟨css,k1,bR (fun _ _ h=>Ty.rd_keep hk h) k2,k3⟩
 |box t cs=>
  obtain⟨b,vs,rfl,k1,k2,k3⟩:=hi
  refine⟨b,vs,rfl,k1,k2,?_⟩
  clear k2 h1
  induction cs generalizing vs with
  |nil=>cases vs<;>exact k3
  |cons s l ih=>
   simp only[Item.refs,aor,alJ]at hir
   match vs,k3 with
   |v::vs,⟨q1,q2⟩=>exact⟨xf q1 hir.1,ih hir.2 vs q2⟩
structure CR (Z:Nat→Prop) (F:FT) (w0:World) (c:Cfg) (G:List Value) (w:World) (a:Act) (ats:List Act):Prop where
 sr:SR Z w0 c.H G w
 fr:FR Z (ntm F c.f) c.L c.H G w a
 fl:c.fl≤c.H.length
 frs:FrsOk Z F c.H G w c.fl c.fs ats
theorem DE{R:SV→Value→Prop}{s:SV}(hs:∀v,R .nil v→R s v):∀{cs:List SV} {vs:List Value} {q:Nat},ck R cs vs→cs[q]?=some .nil→ck R (cs.set q s) vs
 |[],_,_,_,h=>by simp at h
 |c::cs,[],_,h,_=>h.elim
 |c::cs,v::vs,0,⟨h1,h2⟩,h=>by
  simp only[amF,alO]at h
  subst h
  exact⟨hs v h1,h2⟩
 |c::cs,v::vs,q+1,⟨h1,h2⟩,h=>by
  rw[amg]at h
  exact⟨h1,DE hs h2 h⟩
theorem qq{fl:Nat}:∀{l:List (Nat×Nat×Nat×Ty)} {H:List Item} {G:List Value},SR Z w0 H G w→FR Z n L H G w a→fl≤H.length→∃G',SR Z w0 (m9 l H) G' w∧FR Z n L (m9 l H) G' w a∧Ev Z fl H G w (m9 l H) G' w∧fl≤(m9 l H).length
 |[],H,G,hr,hf,hfl=>⟨G,hr,hf,fun s v h _=>h,hfl⟩
 |(j,q,et,e)::l,H,G,hr,hf,hfl=>by
  simp only[m9]
  split
  ·rename_i t cs hj
   split
   ·rename_i hq hn
    have hn:=alM hn
    obtain⟨G1,k1,k2,k3,k4⟩:=lN (et:=et) (e:=e) (xs:=[]) (css:=[]) hr hf (aoL _ _) (World.ownsRow_nil w _ _ _) hn trivial fl false false
    have hlt:=(alP.1 hj).1
    have hj1:(H++[.row et e []])[j]?=some (.box t cs):=by rw[al2 hlt];exact hj
    have hst:=oZ (it':=.box t (cs.set q (.own H.length))) k1 hj1 rfl k1.below (alL _) (fun _ _ _=>rfl)
    have hsr:=Ax (it':=.box t (cs.set q (.own H.length))) k1 hj1 rfl k1.below (alL _) (fun _ _ _=>rfl) (fun g hg=>by
     obtain⟨b,vs,e1,e2,e3,e4⟩:=k1.items j _ g hj1 hg
     refine⟨b,vs,e1,e2,e3,DE (fun v hv=>?_) (bR (fun s v h=>dH k1 hst h) e4) hq⟩
     have hv:v=.slice none 0 0:=hv
     subst hv
     exact k3)
    rw[List.set_append,ama hlt]at hsr hst
    obtain⟨G2,g1,g2,g3,g4⟩:=qq (fl:=fl) (l:=l) hsr (k2.keep fun s v h=>dH k1 hst h) (by simp;omega)
    exact⟨G2,g1,g2,fun s v hs hrf=>g3 s v (dH k1 hst (k4.ev s v hs hrf)) hrf,g4⟩
   ·exact qq hr hf hfl
  ·exact qq hr hf hfl
theorem Vs{x:NI}{c c':Cfg}{ats:List Act}(h:acu x c=some c')(hc:CR Z F w0 c G w a ats):∃G',CR Z F w0 c' G' w a ats∧c'.f=c.f∧c'.K=c.K∧c'.fs=c.fs:=by
 unfold acu at h
 split at h<;>try (cases h;done)
 rename_i L1 H1 h1
 split at h<;>try (cases h;done)
 rename_i L2 H2 h2
 split at h<;>try (cases h;done)
 rename_i L3 h3
 split at h<;>try (cases h;done)
 rename_i hb
 injection h with h
 subst h
 simp only[alJ]at hb
 obtain⟨⟨b1,b2⟩,b3⟩:=hb
 obtain⟨G0,f1,f2,f3,f4⟩:=qq (l:=x.bx) hc.sr hc.fr hc.fl
 obtain⟨G1,g1,g2,g3',g4⟩:=ro f1 f2 f4 h1
 have g3:Ev Z c.fl c.H G w H1 G1 w:=fun s v hs hr=>g3' s v (f3 s v hs hr) hr
 obtain⟨k1,k2,k3,k4⟩:=lP g1 g2 g4 h2
 have b3':=alM b3
 have hev:Ev Z c.fl c.H G w (H2.take x.hl) (G1.take x.hl) w:=fun s v hs hrf=>xf (k3 s v (g3 s v hs hrf) hrf) (qy b3' hrf)
 refine⟨G1.take x.hl,⟨VP k1 b2,⟨k2.defers,k2.size,fun t s hs=>?_⟩,by simp;omega,hc.frs.ev hev (alL _)⟩,rfl,rfl,rfl⟩
 obtain⟨v,q1,q2⟩:=k2.slot t s (wS h3 t s hs)
 have hrf:s.refs x.hl=true:=al4.1 b1 (t,s) (zJ hs)
 exact⟨v,q1,eH (xf (m4 q2 fun l e=>by subst e;cases hrf) hrf)⟩
end
end
section
def iH(P:Program)(fn:Func)(R:Ending→World→Prop)(B:Code):List KJ→List KI
 |[]=>[]
 |.seq i::K=>.seq i::iH P fn R B K
 |.blk id::K=>.blk id::iH P fn R B K
 |.lp i::K=>.lp (InLoop P (nth B (i+1)) (iD P fn R B (iH P fn R B K)))::iH P fn R B K
def fD(P:Program)(F:FT)(Rt:Ending→World→Prop):List Fm→List Act→Ending→World→Prop
 |fm::fs,a::ats=>fun e w'=>∃v,e=.returned v∧∃fn o,gn F fm.f=some fn∧(ak (nth (aj F fm.f) fm.i))[fm.k]?=some o∧
   (fm.d=none→AtR P fn (fD P F Rt fs ats) (aj F fm.f) (iH P fn (fD P F Rt fs ats) (aj F fm.f) fm.K) fm.i (fm.k+1) (a.put o.dst v) w')∧
   (∀D,fm.d=some D→wpG P (ak (nth (aj F fm.f) fm.i)) (iD P fn (fD P F Rt fs ats) (aj F fm.f) (iH P fn (fD P F Rt fs ats) (aj F fm.f) fm.K)) (fun _=>True) ((ak (nth (aj F fm.f) fm.i)).size-D.length) (mkL (ak (nth (aj F fm.f) fm.i)).size D) (a.put o.dst v) w')
 |_,_=>Rt
section
variable {Z:Nat→Prop} {w0:World} {n:Nat} {L L':SL} {H H':List Item} {G G':List Value} {w w':World} {a:Act} {F:FT} {P:Program} {T:TT}
theorem fA{R:Type}{ops:Array Oper}{o:Oper}{yes no:SL→Option R}{r:R}(hf:FR Z n L H G w a)(h:da ops L o yes no=some r):
  (∃L',yes L'=some r∧FR Z n L' H G w a∧Region.wanted o (yielded ops a.tmps)=true)∨(∃L',no L'=some r∧FR Z n L' H G w a∧Region.wanted o (yielded ops a.tmps)=false):=by
 unfold da at h
 split at h
 ·grind [Region.wanted]
 ·rename_i j want hg
  split at h<;>try (cases h;done)
  rename_i d hd
  split at h<;>try (cases h;done)
  ·rename_i b hb
   obtain⟨v,h1,h2⟩:=hf.slot d _ hb
   have hv:=tZ h2
   subst hv
   have hy:∀b':Bool,b=b'→FR Z n ((d,.d .bool b')::nP L d) H G w a:=fun b' e=>by subst e;exact hf.say h1 h2
   have hw:Region.wanted o (yielded ops a.tmps)=(b==want):=by
    simp only[Region.wanted,hg,yielded,hd,Option.bind_some,h1]
    cases b<;>cases want<;>rfl
   grind
  ·rename_i hb
   obtain⟨v,h1,h2⟩:=hf.slot d _ hb
   have h2:v=undef:=h2
   subst h2
   refine .inr ⟨L,h,hf,?_⟩
   simp only[Region.wanted,hg,yielded,hd,Option.bind_some,h1]
   rfl
theorem SO{fn:Func}{R:Ending→World→Prop}{B:Code}{K:List KI}{i k:Nat}(hk:(ak (nth B i))[k]?=none)(h:iD P fn R B K .normal a w):AtR P fn R B K i k a w:=by simp_all [qp]
theorem VQ{fn:Func}{R:Ending→World→Prop}{B:Code}{K:List KI}{i k:Nat}{o:Oper}(hk:(ak (nth B i))[k]?=some o)(hw:Region.wanted o (yielded (ak (nth B i)) a.tmps)=true)
  (h:o.upon P a (fun a' w'=>AtR P fn R B K i (k+1) a' w') (iD P fn R B K) ((execOp a.eval o).run P w)):AtR P fn R B K i k a w:=by
 unfold AtR
 have:(ak (nth B i)).toList.drop k=o::(ak (nth B i)).toList.drop (k+1):=by
  grind [al1]
 rw[this]
 unfold wpList
 rw[ama hw]
 exact .inl h
theorem aaG{fn:Func}{R:Ending→World→Prop}{B:Code}{K:List KI}{i k:Nat}{o:Oper}(hk:(ak (nth B i))[k]?=some o)(hw:Region.wanted o (yielded (ak (nth B i)) a.tmps)=false)
  (h:AtR P fn R B K i (k+1) (a.put o.dst undef) w):AtR P fn R B K i k a w:=by
 unfold AtR
 have:(ak (nth B i)).toList.drop k=o::(ak (nth B i)).toList.drop (k+1):=by
  grind [al1]
 rw[this]
 unfold wpList
 rwa [al3 (by rw[hw];simp)]
theorem Qt(hT:fb P T=true)(hr:SR Z w0 H G w)(hf:FR Z n L H G w a):∀{rs:List ResultVar} {ss:List SV},CB T H L rs=some ss→∃vs,ck (Rel G (Av Z H G) w) ss vs∧
  ((rs.mapM (m:=Sem) fun
   |.tmp t=>pure (a.tmps.getD t undef)
   |.cell ad t=>do loadVar t (←asAddr (a.tmps.getD ad undef))).run P w)=.ok vs w:=by
 intro rs
 induction rs with
 |nil=>intro ss h;simp only[CB,alO]at h;subst h;exact⟨[],trivial,rfl⟩
 |cons q rs ih=>
  intro ss h
  rw[List.mapM_cons]
  cases q with
  |tmp t=>
   simp only[CB]at h
   split at h<;>try (cases h;done)
   rename_i s l h1 h2
   injection h with h
   subst h
   obtain⟨vs,g1,g2⟩:=ih h2
   obtain⟨v,k1,k2⟩:=hf.slot t s h1
   refine⟨v::vs,⟨k2,g1⟩,?_⟩
   simp only[amE,am2,al9,amW,k1,Option.getD_some]at g2 ⊢
   rw[g2]
   rfl
  |cell ad t=>
   simp only[CB]at h
   split at h<;>try (cases h;done)
   rename_i j off i l h1 hi h2
   split at h<;>try (cases h;done)
   rename_i bt cells hj
   split at h<;>try (cases h;done)
   rename_i s hl
   injection h with h
   subst h
   obtain⟨vs,g1,g2⟩:=ih h2
   obtain⟨p,k1,k2⟩:=hf.slot ad _ h1
   obtain⟨v,e1,e2⟩:=Cz (rw:=true) hr (aO hT hi) k2 hj hl
   obtain⟨b,hb,rfl⟩:=k2
   refine⟨v::vs,⟨eH e1,g1⟩,?_⟩
   have e3:=e2 w Agr.refl
   simp only[Instr.loadAt,Instr.sureAddr,amE,am2,al9]at e3
   simp only[amE,am2,al9,amW,k1,Option.getD_some,asAddr,e3]at g2 ⊢
   rw[g2]
   rfl
theorem Ng{fn:Func}{R:Ending→World→Prop}(hT:fb P T=true)(hr:SR Z w0 H G w)(hf:FR Z n L H G w a){ss:List SV}(h:CB T H L fn.results.toList=some ss)(hR:∀vs,ck (Rel G (Av Z H G) w) ss vs→R (.returned (l6 vs)) w):bodyPost P fn R .ret a w:=by
 obtain⟨vs,g1,g2⟩:=Qt (P:=P) hT hr hf h
 refine⟨hf.defers,l6 vs,?_,hR vs g1⟩
 unfold Go.results
 generalize hrs:fn.results=rs at*
 obtain⟨l⟩:=rs
 simp only[List.mapM_toArray,bind_map_left]
 simp only[amE]
 refine(congrArg (fun r:Result (List Value)=>r.andThen fun(a:List Value) w'=>Sem.run P (pure (if h:a.toArray.size=1 then a.toArray[0]else Value.tuple a.toArray)) w') g2).trans ?_
 match vs with
 |[]=>rfl
 |[x]=>rfl
 |x::y::r=>simp[l6]
theorem NL{ss:List SV}{vs:List Value}(hn:∀s∈ss,∀l,s≠.tup l)(h:ck (Rel G (Av Z H G) w) ss vs):Rel G (Av Z H G) w (ail ss) (l6 vs):=by
 have h1:ck (Rel1 G (Av Z H G) w) ss vs:=by
  induction ss generalizing vs with
  |nil=>cases vs<;>exact h
  |cons s ss ih=>
   match vs,h with
   |v::vs,⟨q1,q2⟩=>exact⟨m4 q1 (hn s (by simp)),ih (fun s hs=>hn s (by simp[hs])) q2⟩
 match ss,vs,h,h1 with
 |[],[],_,_=>exact⟨[],rfl,trivial⟩
 |[s],[v],⟨q1,_⟩,_=>exact q1
 |s::s'::ss,v::v'::vs,_,h1=>exact⟨v::v'::vs,rfl,h1⟩
theorem Dp{A:Nat→Prop}:∀{l:List SV} {r:List RV} {vs:List Value},Ay.outL l=some r→ck (Rel1 [] A w) l vs→rvS r=some l∧(∀q∈r,∃t x,q=.d t x)
 |[],r,vs,h,_=>by simp only[Ay.outL,alO]at h;subst h;exact⟨rfl,by simp⟩
 |s::l,r,vs,h,ha=>by
  unfold Ay.outL at h
  split at h
  ·rename_i e;cases e
  ·rename_i t x l' e
   injection e with e1 e2
   subst e1 e2
   split at h<;>try (cases h;done)
   rename_i r' hr'
   injection h with h
   subst h
   match vs,ha with
   |v::vs,⟨_,h2⟩=>
    obtain⟨g1,g2⟩:=Dp hr' h2
    exact⟨by simp[rvS,g1],fun q hq=>by rcases al0.1 hq with rfl|hq;exact⟨t,x,rfl⟩;exact g2 q hq⟩
  ·cases h
theorem ac2(_hT:fb P T=true)(hr:SR Z w0 H G w){ss:List SV}{tys:List Nat}{r:List RV}{vs:List Value}(h:Ay T H ss tys=some r)(ha:ck (Rel G (Av Z H G) w) ss vs):wG Z w0.heap.size w r (l6 vs):=by
 unfold Ay at h
 split at h
 ·rename_i j
  split at h<;>try (cases h;done)
  rename_i et e xs hj
  injection h with h
  subst h
  match vs,ha with
  |[v],⟨hv,_⟩=>
   obtain⟨css,k1,k2,k3⟩:=hr.items j _ _ hj hv
   refine⟨css,k1,bR (fun l y h=>Ty.rd_keep ⟨alL _,fun b _ hA=>⟨hA.1,hA.2 j _ _ hj rfl hv⟩,fun _ _ _=>rfl⟩ h) k2,k3⟩
 ·split at h<;>try (cases h;done)
  split at h<;>try (cases h;done)
  split at h<;>try (cases h;done)
  split at h<;>try (cases h;done)
  rename_i hb
  injection h with h
  subst h
  match vs,ha with
  |[v],⟨hv,_⟩=>
   have hv:v=.slice none 0 0:=hv
   subst hv
   exact⟨[],World.ownsRow_nil _ _ _ _,trivial,alM hb⟩
 ·split at h<;>try (cases h;done)
  rename_i l hl
  have h1:ck (Rel1 [] Z w) l vs:=oG (ss0:=ss) hr (fun _ _ h=>h.1) (.inl fun j g b hg hb ⟨_,_,_,hj⟩=>hr.zf b ((hr.items j _ g hj hg).blk rfl hb).1) (fun s hs=>hs) hl ha
  obtain⟨g1,g2⟩:=Dp h h1
  match r,g1,g2 with
  |[],g1,_=>
   simp only[rvS,alO]at g1
   subst g1
   match vs,h1 with
   |[],_=>exact⟨[],rfl,[],rfl,trivial⟩
  |[.d t x],g1,_=>
   simp only[rvS,alO]at g1
   subst g1
   match vs,h1 with
   |[v],⟨q,_⟩=>exact q
  |[.new et e xs],_,g2=>obtain⟨t,x,he⟩:=g2 (.new et e xs) (by simp);cases he
  |q::q'::r,g1,_=>
   have hlen:vs.length=(q::q'::r).length:=by
    rw[←fa h1]
    have:∀(r:List RV) (l:List SV),rvS r=some l→l.length=r.length:=by
     intro r
     induction r with
     |nil=>intro l h;simp only[rvS,alO]at h;subst h;rfl
     |cons q r ih=>
      intro l h
      cases q<;>simp only[rvS]at h<;>split at h<;>first|(cases h;done)|(injection h with h;subst h;simp[ih _ (by assumption)])
    exact this _ _ g1
   match vs,hlen,h1 with
   |v::v'::vs,_,h1=>cases q<;>exact⟨v::v'::vs,rfl,l,g1,h1⟩
end
end
section
theorem qm{Z:Nat→Prop}{H:List Item}{G:List Value}{w:World}{a:Act}:∀{ss:List SV} {vs:List Value} {k:Nat},ck (Rel G (Av Z H G) w) ss vs→(∀t v,look (Df k vs) t=some v→a.tmps[t]?=some v)→∀t s,aN (wN k ss) t=some s→∃v,a.tmps[t]?=some v∧Rel G (Av Z H G) w s v
 |[],[],k,_,_,t,s,h=>by simp[wN,aN]at h
 |s0::ss,v0::vs,k,⟨h1,h2⟩,ha,t,s,h=>by
  rcases gN h with⟨rfl,rfl⟩|⟨hne,h3⟩
  ·exact⟨v0,ha t v0 (by simp[Df,look]),h1⟩
  ·refine qm h2 (fun u x hx=>ha u x ?_) t s h3
   simp only[Df,look]
   split
   ·rename_i hb
    have e:k=u:=alK hb
    have:=(zC vs (k+1) u x hx).1
    omega
   ·exact hx
def AtG(P:Program)(fn:Func)(R:Ending→World→Prop)(B:Code)(K:List KI)(i:Nat)(S0:World→Prop)(m:Nat)(D:List Nat)(a:Act)(w:World):Prop:=
 wpG P (ak (nth B i)) (iD P fn R B K) S0 m (mkL (ak (nth B i)).size D) a w
def k9(P:Program)(F:FT)(Rt:Ending→World→Prop)(c:Cfg)(fn:Func)(G:List Value)(w:World)(a:Act)(ats:List Act):Pos→Prop
 |.nrm=>iD P fn (fD P F Rt c.fs ats) (aj F c.f) (iH P fn (fD P F Rt c.fs ats) (aj F c.f) c.K) .normal a w
 |.node i=>At P fn (fD P F Rt c.fs ats) (aj F c.f) (iH P fn (fD P F Rt c.fs ats) (aj F c.f) c.K) i a w
 |.ops i k=>AtR P fn (fD P F Rt c.fs ats) (aj F c.f) (iH P fn (fD P F Rt c.fs ats) (aj F c.f) c.K) i k a w
 |.ret=>bodyPost P fn (fD P F Rt c.fs ats) .ret a w
 |.tam i D=>D=[]→Region.noSelect (ak (nth (aj F c.f) i))=true→AtG P fn (fD P F Rt c.fs ats) (aj F c.f) (iH P fn (fD P F Rt c.fs ats) (aj F c.f) c.K) i (fun _=>True) (ak (nth (aj F c.f) i)).size [] a w
 |.tbx i D=>D=[]→Region.noSelect (ak (nth (aj F c.f) i))=true→AtG P fn (fD P F Rt c.fs ats) (aj F c.f) (iH P fn (fD P F Rt c.fs ats) (aj F c.f) c.K) i (fun _=>True) (ak (nth (aj F c.f) i)).size [] a w
 |.tal i D=>∀S0:World→Prop,(∀w w',S0 w→(w.heap.size≤w'.heap.size∧∀b,b<w.heap.size→w'.heap[b]?=w.heap[b]?)→S0 w')→(storeDone (ak (nth (aj F c.f) i)) (mkL (ak (nth (aj F c.f) i)).size D)∨S0 w)→Clo (ak (nth (aj F c.f) i)) (mkL (ak (nth (aj F c.f) i)).size D)→Region.noSelect (ak (nth (aj F c.f) i))=true→∀m',m'+D.length=(ak (nth (aj F c.f) i)).size→AtG P fn (fD P F Rt c.fs ats) (aj F c.f) (iH P fn (fD P F Rt c.fs ats) (aj F c.f) c.K) i S0 m' D a w
 |.drw i rw eff D=>∀Hs Gs ws,((storeDone (ak (nth (aj F c.f) i)) (mkL (ak (nth (aj F c.f) i)).size D)∧eff=true)∨(Agr rw Hs Gs ws w∧(∀b,b<ws.heap.size→jm c.H G b→jm Hs Gs b)∧(eff=false→c.H=Hs∧G=Gs∧w=ws)∧¬storeDone (ak (nth (aj F c.f) i)) (mkL (ak (nth (aj F c.f) i)).size D)))→Clo (ak (nth (aj F c.f) i)) (mkL (ak (nth (aj F c.f) i)).size D)→Region.noSelect (ak (nth (aj F c.f) i))=true→
   ∀m',m'+D.length=(ak (nth (aj F c.f) i)).size→AtG P fn (fD P F Rt c.fs ats) (aj F c.f) (iH P fn (fD P F Rt c.fs ats) (aj F c.f) c.K) i (Agr rw Hs Gs ws) m' D a w
section
variable {Z:Nat→Prop} {w0:World} {F:FT} {P:Program} {T:TT} {E:Env} {N:NT} {Fin:Nat→Cfg→Option (List RV)} {Rt:Ending→World→Prop} {r:List RV}
theorem wr{fn:Func}{R:Ending→World→Prop}{B:Code}{id:Nat}:∀{K K':List KJ},Ei id K=some K'→xF id (iH P fn R B K)=some (iH P fn R B K')
 |[],K',h=>by simp[Ei]at h
 |.blk j::K,K',h=>by
  simp only[Ei]at h
  simp only[iH,xF]
  split at h
  ·rename_i hb;rw[hb];injection h with h;rw[h]
  ·rename_i hb;rw[hb];exact wr h
 |.seq _::K,K',h=>by simp only[Ei]at h;simp only[iH,xF];exact wr h
 |.lp _::K,K',h=>by simp only[Ei]at h;simp only[iH,xF];exact wr h
theorem HJ {L : SL} {H : List Item} {G : List Value} {w : World} {a : Act} {n g : Nat} {ss : List SV} {o : Op} (hf : FR Z n L H G w a) (h : Ko F E L o = some (g, ss)) : ∃ f args tys fn caps, o = .call ⟨.value f, args, tys⟩ ∧ gn F g = some fn ∧ a.eval f = .func (.func g) #[] caps ∧ ck (Rel G (Av Z H G) w) ss (args.map a.eval ++ caps).toList ∧ ss.length ≤ fn.ntmps ∧ (!(fn.name == "runtime.NumGoroutine")) = true ∧ fn.body.isSome = true := by
 unfold Ko at h
 split at h<;>try (cases h;done)
 rename_i f args tys
 split at h<;>try (cases h;done)
 rename_i g' caps hs
 split at h<;>try (cases h;done)
 split at h<;>try (cases h;done)
 rename_i fn ss' hfn hss
 split at h<;>try (cases h;done)
 rename_i hb
 obtain⟨rfl,rfl⟩:=h
 simp only[alJ]at hb
 obtain⟨bs,hbs,hfv⟩:=aL hf hs
 refine⟨f,args,tys,fn,_,rfl,hfn,hfv,?_,by simp;exact alM hb.1,hb.2.1,hb.2.2⟩
 have h1:=mH hf hss
 have h2:ck (Rel G (Av Z H G) w) (caps.map fun j=>.box j 0) (bs.map fun b=>Value.pointer (some ⟨b,0,none⟩)):=by
  clear hs hfv
  induction caps generalizing bs with
  |nil=>cases bs<;>exact hbs
  |cons c caps ih=>
   match bs,hbs with
   |b::bs,⟨q1,q2⟩=>exact⟨⟨b,q1,rfl⟩,ih (by
    simp only[alY]at hb
    exact⟨amb (by have:=alM hb.1;omega),hb.2⟩) bs q2⟩
 simp_all [eK]
theorem Dt{ops:Array Oper}{eff:Bool}{D:List Nat}:∀{rs:List Nat} {j:Nat},Ed ops eff D rs=some j→j∈rs∧∃o,ops[j]?=some o∧isQ o.op=true∧(nt o.op=true→eff=false∧v9 ops j=true)∧o.dst.isSome=true∧Region.free .any ops (mkL ops.size D) j=true
 |[],j,h=>by simp[Ed]at h
 |q::rs,j,h=>by
  simp only[Ed]at h
  split at h<;>try (cases h;done)
  rename_i o ho
  split at h
  ·rename_i hb
   injection h with h
   subst h
   simp only[alJ,anE,Bool.and_eq_false_iff,aot,Bool.not_eq_false']at hb
   obtain⟨⟨⟨b1,b2⟩,b3⟩,b4⟩:=hb
   exact⟨by simp,o,ho,b1,fun hl=>by rcases b2 with b2|b2;rw[hl]at b2;cases b2;exact b2,b3,b4⟩
  ·obtain⟨h1,h2⟩:=Dt h
   exact⟨by simp[h1],h2⟩
end
end
abbrev dn(l:Array Bool):Nat→Bool:=fun k=>l.getD k true
theorem jl(l:Array Bool)(j k:Nat):dn (l.setIfInBounds j true) k=if k=j then true else dn l k:=by
 by_cases h:k=j
 ·simp_all
 simp_all [ano]
theorem eo{d:Nat}{s:SV}{L:SL}{t:Nat}:aN ((d,s)::nP L d) t=if t=d then some s else aN L t:=by grind [aN,aoh,alK]
theorem xM:∀{l cs:List SV} {off:Nat},(oA cs off l).length=cs.length
 |[],_,_=>rfl
 |_::r,_,_=>by simp[oA,xM (l:=r)]
theorem DP:∀(l cs:List SV) (off i:Nat),(oA cs off l)[i]?=if off≤i∧i<off+l.length∧i<cs.length then l[i-off]? else cs[i]?
 |[],cs,off,i=>by rw[al3 (by simp;omega)];rfl
 |s::r,cs,off,i=>by
  rw[oA,DP r (cs.set off s) (off+1) i,aoF,alY]
  by_cases h1:i=off
  ·subst h1
   rw[al3 (by omega)]
   by_cases h2:i<cs.length
   ·rw[ama (by omega),aoe,ank h2];rfl
   ·rw[al3 (by omega),am5 (by simp;omega),am5 (by omega)]
  ·by_cases h2:off+1≤i∧i<off+1+r.length∧i<cs.length
   ·rw[ama h2,ama (by omega),show i-off=(i-(off+1))+1 by omega,amg]
   ·rw[al3 h2,al3 (by omega),anf (ano h1)]
theorem J0{l l' cs:List SV}{off off':Nat}(h:off+l.length≤off'∨off'+l'.length≤off):oA (oA cs off l) off' l'=oA (oA cs off' l') off l:=by
 refine anl fun i=>?_
 grind [DP,xM]
theorem Et{x:SV}:∀{l cs:List SV} {off:Nat},x∈oA cs off l→x∈cs∨x∈l
 |[],_,_,h=>.inl h
 |s::r,cs,off,h=>by
  rcases Et (l:=r) h with h1|h1
  ·rcases List.mem_or_eq_of_mem_set h1 with h2|h2
   ·exact .inl h2
   ·subst h2;exact .inr (by simp)
  ·exact .inr (by simp[h1])
def ovI(s:AlS):Item→Item
 |.box bt cells=>.box bt (oA cells s.off s.l)
 |it=>it
theorem nF(s:AlS)(H:List Item)(k:Nat):(stP s H)[k]?=if k=s.j then H[k]?.map (ovI s)else H[k]?:=by
 unfold stP
 split
 ·rename_i bt cells hb
  by_cases h:k=s.j
  ·subst h
   rw[ama rfl,hb,ank (alP.1 hb).1]
   rfl
  grind
 ·rename_i hb
  by_cases h:k=s.j
  ·subst h
   rw[ama rfl]
   cases hh:H[s.j]? with
   |none=>rfl
   |some it=>
    cases it with
    |box bt cells=>exact absurd hh (hb bt cells)
    |row=>rfl
    |gone=>rfl
  ·rw[al3 h]
theorem IZ(s:AlS)(H:List Item):(stP s H).length=H.length:=by grind [stP]
theorem TN{s:AlS}{H:List Item}{k:Nat}{it:Item}(h:s.j≠k):stP s (H.set k it)=(stP s H).set k it:=by
 refine anl fun i=>?_
 grind [nF,IZ]
theorem ub{s p:AlS}(h:EH s p=true):s.i≠p.i∧(s.j≠p.j∨s.off+s.l.length≤p.off∨p.off+p.l.length≤s.off):=by
 simp only[EH,alJ,anT]at h
 obtain⟨h1,h2⟩:=h
 refine⟨fun e=>(by rw[e,aoh]at h1;cases h1),?_⟩
 rcases h2 with(h2|h2)|h2
 ·grind [aoh]
 ·simp_all
 simp_all
theorem Og{s p:AlS}(h:EH s p=true)(H:List Item):stP s (stP p H)=stP p (stP s H):=by
 obtain⟨_,h⟩:=ub h
 refine anl fun k=>?_
 rw[nF,nF,nF,nF]
 by_cases h1:k=s.j
 ·subst h1
  rw[ama rfl]
  by_cases h2:s.j=p.j
  ·rw[ama h2,ama h2,ama rfl]
   cases hh:H[s.j]? with
   |none=>rfl
   |some it=>
    cases it with
    |box bt cells=>
     simp only[amJ,ovI]
     rw[J0 (by rcases h with h|h|h;exact absurd h2 h;exact .inr h;exact .inl h)]
    |row=>rfl
    |gone=>rfl
  ·rw[al3 h2,al3 h2,ama rfl]
 grind
theorem ti{f:Nat→Bool}{H:List Item}:∀{ss:List AlS},(cG f ss H).length=H.length
 |[]=>rfl
 |s::r=>by
  simp only[cG]
  split
  ·rw[IZ];exact ti
  ·exact ti
theorem xD{f:Nat→Bool}{H:List Item}{k:Nat}{it:Item}:∀{ss:List AlS},(∀s∈ss,f s.i=true→s.j≠k)→cG f ss (H.set k it)=(cG f ss H).set k it
 |[],_=>rfl
 |s::r,h=>by
  have ih:=xD (f:=f) (H:=H) (k:=k) (it:=it) (ss:=r) fun s hs=>h s (by simp[hs])
  simp only[cG]
  split
  ·rename_i h1
   rw[ih,TN (h s (by simp) h1)]
  ·exact ih
theorem kD{f g:Nat→Bool}{H:List Item}:∀{ss:List AlS},(∀s∈ss,f s.i=g s.i)→cG f ss H=cG g ss H
 |[],_=>rfl
 |s::r,h=>by
  simp only[cG]
  rw[h s (by simp),kD (ss:=r) fun s hs=>h s (by simp[hs])]
theorem qb{f:Nat→Bool}{H:List Item}:∀{ss:List AlS},(∀s∈ss,f s.i=false)→cG f ss H=H
 |[],_=>rfl
 |s::r,h=>by
  simp only[cG]
  rw[h s (by simp)]
  exact qb (ss:=r) fun s hs=>h s (by simp[hs])
theorem Hx{f g:Nat→Bool}{H:List Item}{s:AlS}(hg:∀k,g k=if k=s.i then true else f k)(hf:f s.i=false):∀{ss:List AlS},ss.Pairwise (fun s p=>EH s p=true)→s∈ss→cG g ss H=stP s (cG f ss H)
 |[],_,hs=>by cases hs
 |p::r,hp,hs=>by
  obtain⟨h1,h2⟩:=amo.1 hp
  simp only[cG]
  rcases al0.1 hs with e|hs
  ·subst e
   rw[hg s.i,ama rfl,hf]
   dsimp only
   rw[kD (f:=g) (g:=f) (ss:=r) fun q hq=>by rw[hg,al3 (ano (ub (h1 q hq)).1)]]
  ·have hne:=(ub (h1 s hs)).1
   have ih:=Hx (H:=H) hg hf h2 hs
   rw[hg p.i,al3 hne,ih]
   split
   ·exact Og (h1 s hs) _
   ·rfl
theorem Dj{f:Nat→Bool}{H:List Item}{k bt:Nat}{cells:List SV}(h:H[k]?=some (.box bt cells)):∀{ss:List AlS},∃cells',(cG f ss H)[k]?=some (.box bt cells')∧cells'.length=cells.length
 |[]=>⟨cells,h,rfl⟩
 |s::r=>by
  obtain⟨c',h1,h2⟩:=Dj (f:=f) h (ss:=r)
  simp only[cG]
  split
  ·rw[nF,h1]
   split
   ·exact⟨_,rfl,by rw[xM,h2]⟩
   ·exact⟨c',rfl,h2⟩
  ·exact⟨c',h1,h2⟩
def mX(h0:Nat)(H:List Item):Prop:=∀(k:Nat) (t:TypeId) (cs:List SV),H[k]?=some (.box t cs)→∀s∈cs,s.refs h0=true
theorem Dq{h0:Nat}{f:Nat→Bool}{H:List Item}(hH:mX h0 H):∀{ss:List AlS},(∀s∈ss,∀x∈s.l,x.refs h0=true)→mX h0 (cG f ss H)
 |[],_=>hH
 |s::r,h=>by
  have ih:=Dq (f:=f) hH (ss:=r) fun s hs=>h s (by simp[hs])
  simp only[cG]
  split
  ·intro k t cs hk x hx
   rw[nF]at hk
   split at hk
   ·cases hh:(cG f r H)[k]? with
    |none=>rw[hh]at hk;cases hk
    |some it=>
     rw[hh]at hk
     cases it with
     |box bt cells=>
      simp only[amJ,ovI,alO,Item.box.injEq]at hk
      obtain⟨rfl,rfl⟩:=hk
      rcases Et hx with h1|h1
      ·exact ih k _ _ hh x h1
      ·exact h s (by simp) x h1
     |row=>simp[ovI]at hk
     |gone=>simp[ovI]at hk
   ·exact ih k t cs hk x hx
  ·exact ih
theorem sw(f:Nat→Bool)(la:List AlA)(r:Nat):(alX f la)[r]?=la[r]?.map fun a=>match f a.i with
  |true=>.box a.t a.cs
  |false=>.gone:=by grind [alX]
abbrev Dis(la:List AlA):Prop:=la.Pairwise fun a b=>a.i≠b.i∧a.d≠b.d
theorem Ou{la:List AlA}(h:Dis la){r k:Nat}{a b:AlA}(ha:la[r]?=some a)(hb:la[k]?=some b)(hne:k≠r):b.i≠a.i∧b.d≠a.d:=by grind [List.pairwise_iff_getElem]
theorem aaE{f g:Nat→Bool}{la:List AlA}{r:Nat}{a:AlA}(hd:Dis la)(ha:la[r]?=some a)(hg:∀k,g k=if k=a.i then true else f k):alX g la=(alX f la).set r (.box a.t a.cs):=by
 refine anl fun k=>?_
 rw[amw,sw]
 by_cases h:r=k
 ·grind [alX,anq,alP,amJ]
 ·rw[al3 h,sw]
  cases hk:la[k]? with
  |none=>rfl
  |some b=>
   simp only[amJ]
   rw[hg,al3 (Ou hd ha hk (ano h)).1]
theorem FJ{f g:Nat→Bool}{la:List AlA}{r:Nat}{a:AlA}{H0:List Item}(hd:Dis la)(ha:la[r]?=some a)(hg:∀k,g k=if k=a.i then true else f k):H0++alX g la=(H0++alX f la).set (H0.length+r) (.box a.t a.cs):=by
 rw[aaE hd ha hg,List.set_append,al3 (by omega),show H0.length+r-H0.length=r by omega]
theorem TR{h0:Nat}{f:Nat→Bool}{la:List AlA}{H0:List Item}(hH:mX h0 H0)(hla:∀a∈la,∀x∈a.cs,x.refs h0=true):mX h0 (H0++alX f la):=by
 intro k t cs hk x hx
 rcases amm k H0.length with h|h
 ·rw[al2 h]at hk
  exact hH k t cs hk x hx
 grind [sw]
theorem iI{f g:Nat→Bool}{t:Nat}:∀{la:List AlA} {k:Nat} {L M:SL},(∀a∈la,a.d=t→f a.i=g a.i)→aN L t=aN M t→aN (gb f la k L) t=aN (gb g la k M) t
 |[],_,_,_,_,h=>h
 |b::l,k,L,M,hl,h=>by
  simp only[gb]
  refine iI (fun a ha=>hl a (by simp[ha])) ?_
  by_cases e:b.d=t
  ·rw[←hl b (by simp) e]
   split
   ·rw[eo,eo,ama e.symm,ama e.symm]
   ·exact h
  ·have e':t≠b.d:=fun h=>e h.symm
   split<;>split<;>(try rw[eo,al3 e'])<;>(try rw[eo,al3 e'])<;>exact h
theorem Cr{f:Nat→Bool}{t:Nat}:∀{la:List AlA} {k:Nat} {L:SL},(∀a∈la,a.d≠t)→aN (gb f la k L) t=aN L t
 |[],_,_,_=>rfl
 |b::l,k,L,h=>by
  simp only[gb]
  rw[Cr fun a ha=>h a (by simp[ha])]
  split
  ·rw[eo,al3 (fun e=>h b (by simp) e.symm)]
  ·rfl
theorem Ai{f g:Nat→Bool}{a:AlA}(hg:∀k,g k=if k=a.i then true else f k):∀{la:List AlA} {r k:Nat} {L:SL},Dis la→la[r]?=some a→∀t,aN (gb g la k L) t=if t=a.d then some (.box (k+r) 0)else aN (gb f la k L) t
 |[],r,_,_,_,h,_=>by simp at h
 |b::l,0,k,L,hd,h,t=>by
  simp only[amF,alO]at h
  subst h
  obtain⟨h1,h2⟩:=amo.1 hd
  simp only[gb]
  rw[hg b.i,ama rfl]
  dsimp only
  by_cases e:t=b.d
  ·subst e
   rw[ama rfl,Cr fun a ha=>ano (h1 a ha).2,eo,ama rfl,aoz]
  ·rw[al3 e]
   refine iI (fun a ha _=>by rw[hg,al3 (ano (h1 a ha).1)]) ?_
   rw[eo,al3 e]
   split
   ·rw[eo,al3 e]
   ·rfl
 |b::l,r+1,k,L,hd,h,t=>by
  obtain⟨h1,h2⟩:=amo.1 hd
  rw[amg]at h
  simp only[gb]
  rw[hg b.i,al3 (h1 a (amS h)).1,Ai hg h2 h t,show k+1+r=k+(r+1) by omega]
theorem D7{f:Nat→Bool}{t:Nat}{s:SV}:∀{la:List AlA} {k:Nat} {L:SL},aN (gb f la k L) t=some s→(∃r a,la[r]?=some a∧t=a.d∧f a.i=true∧s=.box (k+r) 0)∨aN L t=some s
 |[],_,_,h=>.inr h
 |b::l,k,L,h=>by
  simp only[gb]at h
  rcases D7 h with⟨r,a,h1,h2,h3,h4⟩|h1
  ·exact .inl ⟨r+1,a,by rw[amg];exact h1,h2,h3,by rw[h4,show k+1+r=k+(r+1) by omega]⟩
  ·split at h1
   ·rename_i hb
    rw[eo]at h1
    split at h1
    ·rename_i e
     injection h1 with h1
     exact .inl ⟨0,b,rfl,e,hb,by rw[←h1,aoz]⟩
    ·exact .inr h1
   ·exact .inr h1
theorem pH{T:TT}{N:Nat}:∀{lo:List Oper} {i0:Nat} {la:List AlA},alA T N lo i0=some la→
  (∀q o,lo[q]?=some o→aZ o=true→∃(r:Nat) (a:AlA),la[r]?=some a∧a.i=i0+q∧o.dst=some a.d∧a.d<N∧∃x,o.op=.alloc a.t∧dD T a.t=some x∧x.z=true∧(∀p q,x.ty≠.pair p q)∧a.cs=x.ty.zsplit)∧
  (∀a∈la,i0≤a.i∧∃o,lo[a.i-i0]?=some o∧aZ o=true∧∃x,a.cs=Ty.zsplit x)∧Dis la
 |[],_,_,h=>by
  simp only[alA,alO]at h
  subst h
  exact⟨fun q o h=>(by simp at h),fun a h=>(by cases h),List.Pairwise.nil⟩
 |o::r,i,la,h=>by
  simp only[alA]at h
  have sub:∀{la:List AlA},(∀a∈la,i+1≤a.i∧∃o,r[a.i-(i+1)]?=some o∧aZ o=true∧∃x,a.cs=Ty.zsplit x)→∀a∈la,i≤a.i∧∃o',(o::r)[a.i-i]?=some o'∧aZ o'=true∧∃x,a.cs=Ty.zsplit x:=fun h a ha=>by
   obtain⟨h1,o',h2,h3⟩:=h a ha
   exact⟨by omega,o',by rw[show a.i-i=(a.i-(i+1))+1 by omega,amg];exact h2,h3⟩
  split at h
  ·rename_i hal
   obtain⟨h1,h2,h3⟩:=pH h
   refine⟨fun q o' hq ho=>?_,sub h2,h3⟩
   cases q with
   |zero=>simp only[amF,alO]at hq;subst hq;rw[hal]at ho;cases ho
   |succ q=>
    rw[amg]at hq
    obtain⟨r',a,k1,k2,k3⟩:=h1 q o' hq ho
    exact⟨r',a,k1,by omega,k3⟩
  ·rename_i hal
   split at h<;>try (cases h;done)
   rename_i t d hop hdst
   split at h<;>try (cases h;done)
   rename_i x l hx hd hl
   split at h<;>try (cases h;done)
   rename_i hz hne
   split at h<;>try (cases h;done)
   rename_i hall
   injection h with h
   subst h
   obtain⟨h1,h2,h3⟩:=pH hl
   refine⟨fun q o' hq ho=>?_,fun a ha=>?_,amo.2 ⟨fun b hb=>?_,h3⟩⟩
   ·cases q with
    |zero=>
     simp only[amF,alO]at hq
     subst hq
     exact⟨0,_,rfl,rfl,hdst,alM hd,x,hop,hx,hz,fun p q e=>hne _ _ e,rfl⟩
    |succ q=>
     rw[amg]at hq
     obtain⟨r',a,k1,k2,k3⟩:=h1 q o' hq ho
     exact⟨r'+1,a,by rw[amg];exact k1,by omega,k3⟩
   ·rcases al0.1 ha with e|ha
    ·subst e
     exact⟨alL _,o,by simp,hal,x.ty,rfl⟩
    ·exact sub h2 a ha
   ·have:=al4.1 hall b hb
    simp only[alJ,anE]at this
    exact⟨fun e=>(by have:=this.1;simp only at e;rw[e,aoh]at this;cases this),fun e=>(by have:=this.2;simp only at e;rw[e,aoh]at this;cases this)⟩
def SF(T:TT)(ops:Array Oper)(la:List AlA)(h0:Nat)(La:SL)(Ha:List Item)(s:AlS)(o:Oper):Prop:=
 ∃t x v sv y bt cells,o.op=.store t x v∧o.guard=none∧o.dst=none∧opS La x=some (.box s.j s.off)∧opS La v=some sv∧dD T t=some y∧gf [] sv=some s.l∧Ha[s.j]?=some (.box bt cells)∧s.l.length=y.ty.n∧s.off+s.l.length≤cells.length∧
  (∀z∈s.l,z.refs h0=true)∧(∀a∈la,(J9 x a.d||J9 v a.d)=true→gS ops 4 s.i a.i=true)∧F9 ops s.i s.j la h0=true
theorem mR{T:TT}{E:Env}{ops:Array Oper}{l:Array Bool}{la:List AlA}{h0:Nat}{La:SL}{Ha:List Item}:∀{lo:List Oper} {i0:Nat} {ss:List AlS},alS T E ops l la h0 La Ha lo i0=some ss→
  (∀q o,lo[q]?=some o→l.getD (i0+q) true=false→aZ o=false→fJ E o=false→∃s∈ss,s.i=i0+q)∧
  (∀s∈ss,i0≤s.i∧l.getD s.i true=false∧∃o,lo[s.i-i0]?=some o∧aZ o=false∧SF T ops la h0 La Ha s o)∧ss.Pairwise (fun s p=>EH s p=true)
 |[],_,_,h=>by
  simp only[alS,alO]at h
  subst h
  exact⟨fun q o h=>(by simp at h),fun a h=>(by cases h),List.Pairwise.nil⟩
 |o::r,i,ss,h=>by
  simp only[alS]at h
  have sub:∀{ss:List AlS},(∀s∈ss,i+1≤s.i∧l.getD s.i true=false∧∃o,r[s.i-(i+1)]?=some o∧aZ o=false∧SF T ops la h0 La Ha s o)→∀s∈ss,i≤s.i∧l.getD s.i true=false∧∃o',(o::r)[s.i-i]?=some o'∧aZ o'=false∧SF T ops la h0 La Ha s o':=fun h a ha=>by
   obtain⟨h1,h1',o',h2,h3⟩:=h a ha
   exact⟨by omega,h1',o',by rw[show a.i-i=(a.i-(i+1))+1 by omega,amg];exact h2,h3⟩
  split at h
  ·rename_i hal
   obtain⟨h1,h2,h3⟩:=mR h
   refine⟨fun q o' hq hu ho ht=>?_,sub h2,h3⟩
   cases q with
   |zero=>
    simp only[amF,alO]at hq
    subst hq
    rw[show i+0=i from rfl]at hu
    rw[hu,ho,ht]at hal
    cases hal
   |succ q=>
    rw[amg]at hq
    obtain⟨s,k1,k2⟩:=h1 q o' hq (by rw[show i+1+q=i+(q+1) by omega];exact hu) ho ht
    exact⟨s,k1,by omega⟩
  ·rename_i hal
   simp only[aot]at hal
   split at h<;>try (cases h;done)
   rename_i t x v hop
   split at h<;>try (cases h;done)
   rename_i j off sv y hg hdst hx hv hy
   split at h<;>try (cases h;done)
   rename_i cs bt cells ss' hcs hH hss
   split at h<;>try (cases h;done)
   rename_i hall
   injection h with h
   subst h
   simp only[alJ]at hall
   obtain⟨⟨⟨⟨⟨c1,c2⟩,c3⟩,c4⟩,c5⟩,c6⟩:=hall
   obtain⟨h1,h2,h3⟩:=mR hss
   refine⟨fun q o' hq hu ho ht=>?_,fun s hs=>?_,amo.2 ⟨fun p hp=>al4.1 c6 p hp,h3⟩⟩
   ·cases q with
    |zero=>exact⟨_,List.mem_cons_self ..,rfl⟩
    |succ q=>
     rw[amg]at hq
     obtain⟨s,k1,k2⟩:=h1 q o' hq (by rw[show i+1+q=i+(q+1) by omega];exact hu) ho ht
     exact⟨s,by simp[k1],by omega⟩
   ·rcases al0.1 hs with e|hs
    ·subst e
     exact⟨alL _,hal.1.1,o,by simp,hal.1.2,t,x,v,sv,y,bt,cells,hop,hg,hdst,hx,hv,hy,hcs,hH,alK c1,alM c2,al4.1 c3,fun a ha hw=>by
      have:=al4.1 c4 a ha
      rw[hw]at this
      simpa using this,c5⟩
    ·exact sub h2 s hs
theorem BT{ops:Array Oper}{i j:Nat}:∀{la:List AlA} {k r:Nat} {a:AlA},F9 ops i j la k=true→la[r]?=some a→j=k+r→gS ops 4 i a.i=true
 |[],_,_,_,_,h,_=>by simp at h
 |b::l,k,0,a,h,ha,hj=>by
  simp only[amF,alO]at ha
  subst ha
  simp only[F9,alJ,anT,anE]at h
  rcases h.1 with h1|h1
  ·rw[hj,aoz,aoh]at h1;cases h1
  ·exact h1
 |b::l,k,r+1,a,h,ha,hj=>by
  rw[amg]at ha
  simp only[F9,alJ]at h
  exact BT h.2 ha (by omega)
theorem jY{l:Array Bool}{k:Nat}(h:k<l.size):l.getD k false=l.getD k true:=by simp[h]
theorem yw{ops:Array Oper}{l':Array Bool}(hs:l'.size=ops.size):∀{C:List Nat} {l:Array Bool},GA ops l C=true→(∀k,l.getD k false=true→l'.getD k false=true)→(∃i∈C,l'.getD i true=false)→Region.ready .any ops l'≠[]
 |[],_,_,_,⟨_,h,_⟩=>by cases h
 |i::r,l,h,hsub,⟨k,hk,hu⟩=>by
  simp only[GA,alJ]at h
  obtain⟨h1,h2⟩:=h
  split at h1<;>try (cases h1;done)
  rename_i o ho
  have hlt:i<l'.size:=by rw[hs];exact(alZ.1 ho).1
  cases hi:l'.getD i true with
  |false=>
   intro hr
   have:i∈Region.ready .any ops l':=amM.2 ⟨hi,o,ho,fun e he hb=>by
    have:=al4.1 h1 e (Array.mem_toList_iff.2 he)
    rw[hb]at this
    exact hsub _ (by simpa using this)⟩
   rw[hr]at this
   cases this
  |true=>
   refine yw hs h2 (fun q hq=>?_) ⟨k,(al0.1 hk).resolve_left fun e=>(by subst e;rw[hi]at hu;cases hu),hu⟩
   by_cases e:i=q
   ·subst e;rw[jY hlt];exact hi
   ·rw[aog false e]at hq
    exact hsub q hq
def cu(l:Array Bool):Nat:=l.toList.countP fun b=>!b
theorem zM:∀(l:List Bool) (j:Nat),l[j]?=some false→(l.set j true).countP (fun b=>!b)+1=l.countP (fun b=>!b)
 |[],_,h=>by simp at h
 |b::l,0,h=>by
  simp only[amF,alO]at h
  subst h
  simp
 |b::l,j+1,h=>by
  rw[amg]at h
  have:=zM l j h
  rw[List.set_cons_succ]
  cases b<;>simp<;>omega
theorem zr{l:Array Bool}{j:Nat}(h:l.getD j true=false):cu (l.setIfInBounds j true)+1=cu l:=by
 unfold cu
 rw[Array.toList_setIfInBounds]
 refine zM _ _ ?_
 rcases amm j l.size with hlt|hge<;>simp_all
theorem Vr{l:Array Bool}(h:cu l=0)(k:Nat):l.getD k true=true:=by
 rcases amm k l.size with hlt|hge
 ·have:=List.countP_eq_zero.1 h l[k] (by simp)
  simp_all
 grind
theorem EU(n:Nat):cu (mkL n [])=n:=by simp[cu,mkL,List.countP_replicate]
section
def Old(w w':World):Prop:=w.heap.size≤w'.heap.size∧∀b,b<w.heap.size→w'.heap[b]?=w.heap[b]?
theorem Old.refl(w:World):Old w w:=⟨alL _,fun _ _=>rfl⟩
theorem Da{G G':List Value}{A A':Nat→Prop}{w w':World}{h0:Nat}(hk:Keeps A A' w w'){s:SV}{v:Value}(h:Rel1 G A w s v)(hs:s.refs h0=true)(hG:∀j g,j<h0→G[j]?=some g→G'[j]?=some g):Rel1 G' A' w' s v:=by
 have lt:∀{j:Nat},Nat.ble (j+1) h0=true→j<h0:=fun h=>alM h
 cases s with
 |d t x=>obtain⟨cs,h1,h2⟩:=h;exact⟨cs,Ty.rd_keep hk h1,h2⟩
 |nil=>exact h
 |box j off=>obtain⟨b,h1,h2⟩:=h;exact⟨b,hG j _ (lt hs) h1,h2⟩
 |elt e x off=>
  obtain⟨b,o,cs,h1,h2,h3,h4,h5⟩:=h
  exact⟨b,o,cs,h1,hk.sub b h3 h2,anw h3 hk.size,Ty.rd_keep hk h4,hk.cells h3 h2 h5⟩
 |own j=>exact hG j v (lt hs) h
 |oelt j sz i off=>obtain⟨b,n,c,h1,h2⟩:=h;exact⟨b,n,c,hG j _ (lt hs) h1,h2⟩
 |clo f caps=>
  obtain⟨bs,h1,h2⟩:=h
  refine⟨bs,?_,h2⟩
  simp only[SV.refs]at hs
  clear h2
  induction caps generalizing bs with
  |nil=>cases bs<;>exact h1
  |cons c caps ih=>
   match bs,h1 with
   |b::bs,⟨q1,q2⟩=>
    simp only[aor,alJ]at hs
    exact⟨hG c _ (lt hs.1) q1,ih hs.2 bs q2⟩
 |tup l=>exact h.elim
 |undef=>exact h
 |dead=>trivial
 |cut e xs=>obtain⟨p,h1,h2⟩:=h;exact⟨p,Ty.rd_keep hk h1,h2⟩
 |osl j sz lo n=>obtain⟨g,q,c,h1,h2⟩:=h;exact⟨g,q,c,hG j _ (lt hs) h1,h2⟩
theorem Kv{G G':List Value}{A A':Nat→Prop}{w w':World}{h0:Nat}(hk:∀s v,s.refs h0=true→Rel1 G A w s v→Rel1 G' A' w' s v){s:SV}{v:Value}(h:Rel G A w s v)(hs:s.refsT h0=true):Rel G' A' w' s v:=by
 cases s with
 |tup l=>
  obtain⟨vs,h1,h2⟩:=h
  refine⟨vs,h1,?_⟩
  clear h1
  induction l generalizing vs with
  |nil=>cases vs<;>exact h2
  |cons s l ih=>
   simp only[SV.refsT,aor,alJ]at hs
   match vs,h2 with
   |v::vs,⟨g1,g2⟩=>exact⟨hk s v hs.1 g1,ih hs.2 vs g2⟩
 |_=>rw[sJ (fun l e=>by cases e)]at hs;exact eH (hk _ _ hs (m4 h (fun l e=>by cases e)))
section
variable {Z:Nat→Prop} {w0:World} {H:List Item} {G:List Value} {w:World}
theorem sS(hr:SR Z w0 H G w):mX H.length H:=by
 intro k t cs hk x hx
 have hlt:k<G.length:=by rw[hr.len];exact(alP.1 hk).1
 obtain⟨b,vs,_,_,_,h4⟩:=hr.items k _ _ hk (alG hlt)
 obtain⟨i,hi,rfl⟩:=an0 hx
 obtain⟨v,_,hv⟩:=iM h4 i _ (alG hi)
 grind [sL]
theorem V4{it:Item}{g:Value}{h0 k:Nat}(hr:SR Z w0 (H++[it]) (G++[g]) w)(hl:G.length=H.length)(hk:H[k]?=some .gone)(h0k:h0≤k)(hlow:mX h0 (H++[it])):
  SR Z w0 (H.set k it) (G.set k g) w∧(∀b,Av Z (H++[it]) (G++[g]) b↔Av Z (H.set k it) (G.set k g) b):=by
 have hkl:=(alP.1 hk).1
 have a1:∀{j:Nat} {x:Item},j≠k→(H.set k it)[j]?=some x→j<H.length∧(H++[it])[j]?=some x:=fun{j x} hj h=>by
  rw[anf (ano hj)]at h
  have:=(alP.1 h).1
  exact⟨this,by rw[al2 this];exact h⟩
 have a2:∀{j:Nat} {x:Value},j≠k→(G.set k g)[j]?=some x→(G++[g])[j]?=some x:=fun{j x} hj h=>by
  rw[anf (ano hj)]at h
  rw[al2 (alP.1 h).1];exact h
 have b1:(H.set k it)[k]?=some it:=ank hkl
 have b2:(G.set k g)[k]?=some g:=ank (by omega)
 have c1:(H++[it])[H.length]?=some it:=by rw[amj (alL _),aoe];rfl
 have c2:(G++[g])[H.length]?=some g:=by rw[amj (by omega),hl,aoe];rfl
 have d1:∀{j:Nat} {x:Item},(H++[it])[j]?=some x→(j<H.length∧H[j]?=some x)∨(j=H.length∧x=it):=fun{j x} h=>by
  rcases amm j H.length with hlt|hge
  ·rw[al2 hlt]at h;exact .inl ⟨hlt,h⟩
  ·rw[amj hge]at h
   have hj:j-H.length=0:=by
    rcases amA (j-H.length)with h0|h0
    ·exact h0
    ·rw[am5 (by simp;omega)]at h;cases h
   rw[hj]at h
   simp only[amF,alO]at h
   exact .inr ⟨by omega,h.symm⟩
 have hav:∀b,Av Z (H++[it]) (G++[g]) b↔Av Z (H.set k it) (G.set k g) b:=by
  refine fun b=>⟨fun h=>⟨h.1,fun j x y hx hlv hy=>?_⟩,fun h=>⟨h.1,fun j x y hx hlv hy=>?_⟩⟩
  ·by_cases hj:j=k
   ·subst hj
    rw[b1]at hx;rw[b2]at hy
    injection hx with hx;injection hy with hy
    subst hx hy
    exact h.2 _ _ _ c1 hlv c2
   ·exact h.2 j x y (a1 hj hx).2 hlv (a2 hj hy)
  ·rcases d1 hx with⟨h1,h2⟩|⟨h1,h2⟩
   ·have hj:j≠k:=fun e=>by subst e;rw[hk]at h2;injection h2 with h2;subst h2;cases hlv
    refine h.2 j x y (by rw[anf (ano hj)];exact h2) hlv ?_
    rw[al2 (by omega)]at hy
    rw[anf (ano hj)];exact hy
   ·subst h1 h2
    rw[c2]at hy
    injection hy with hy
    subst hy
    exact h.2 k _ _ b1 hlv b2
 have hkp:Keeps (Av Z (H++[it]) (G++[g])) (Av Z (H.set k it) (G.set k g)) w w:=⟨alL _,fun b _ h=>(hav b).1 h,fun _ _ _=>rfl⟩
 have hG:∀j x,j<h0→(G++[g])[j]?=some x→(G.set k g)[j]?=some x:=fun j x hj h=>by
  rw[al2 (by omega)]at h
  rw[anf (by omega)];exact h
 have hit:∀{j:Nat} {x:Item} {y:Value},(H++[it])[j]?=some x→ItemRel w0.heap.size (G++[g]) (Av Z (H++[it]) (G++[g])) w x y→ItemRel w0.heap.size (G.set k g) (Av Z (H.set k it) (G.set k g)) w x y:=by
  intro j x y hx h
  cases x with
  |box t cs=>
   obtain⟨b,vs,e1,e2,e3,e4⟩:=h
   refine⟨b,vs,e1,e2,e3,?_⟩
   have hc:=hlow j t cs hx
   clear e1 e3 hx
   induction cs generalizing vs with
   |nil=>cases vs<;>exact e4
   |cons s l ih=>
    match vs,e4 with
    |v::vs,⟨q1,q2⟩=>exact⟨Da hkp q1 (hc s (by simp)) hG,ih vs q2 (fun s hs=>hc s (by simp[hs]))⟩
  |row et e xs=>
   obtain⟨css,e1,e2,e3⟩:=h
   exact⟨css,e1,bR (fun _ _ h=>Ty.rd_keep hkp h) e2,e3⟩
  |gone=>trivial
 refine⟨⟨by simp[hl],hr.below,fun j x y hx hy=>?_,fun i j x y gx gy b hij hx hy hlx hly hgx hgy hb=>?_,hr.zf⟩,hav⟩
 ·by_cases hj:j=k
  ·subst hj
   rw[b1]at hx;rw[b2]at hy
   injection hx with hx;injection hy with hy
   subst hx hy
   exact hit c1 (hr.items _ _ _ c1 c2)
  ·exact hit (a1 hj hx).2 (hr.items j x y (a1 hj hx).2 (a2 hj hy))
 ·have key:∀{j:Nat} {x:Item} {y:Value},(H.set k it)[j]?=some x→(G.set k g)[j]?=some y→∃j',(j'=if j=k then H.length else j)∧(H++[it])[j']?=some x∧(G++[g])[j']?=some y:=by
   intro j x y hx hy
   by_cases hj:j=k
   ·subst hj
    rw[b1]at hx;rw[b2]at hy
    injection hx with hx;injection hy with hy
    subst hx hy
    exact⟨_,rfl,by rw[ama rfl];exact c1,by rw[ama rfl];exact c2⟩
   ·exact⟨_,rfl,by rw[al3 hj];exact(a1 hj hx).2,by rw[al3 hj];exact a2 hj hy⟩
  obtain⟨i',ei,i1,i2⟩:=key hx hgx
  obtain⟨j',ej,j1,j2⟩:=key hy hgy
  refine hr.disj i' j' x y gx gy b ?_ i1 j1 hlx hly i2 j2 hb
  rw[ei,ej]
  by_cases h1:i=k
  ·by_cases h2:j=k
   ·omega
   ·rw[ama h1,al3 h2];have:=(a1 h2 hy).1;omega
  ·by_cases h2:j=k
   ·rw[al3 h1,ama h2];have:=(a1 h1 hx).1;omega
   ·rw[al3 h1,al3 h2];exact hij
theorem L7(hr:SR Z w0 H G w){h0 k:Nat}(hk:H[k]?=some .gone)(h0k:h0≤k)(hlow:mX h0 H){t:TypeId}{cs:List SV}{vs:Array Value}(hz:∀s∈cs,s.refs h0=true)(hcs:ck (Rel1 G (Av Z H G) w) cs vs.toList):
  ∃G',SR Z w0 (H.set k (.box t cs)) G' (w.alloc (.cells vs t))∧(∀s v,s.refs h0=true→Rel1 G (Av Z H G) w s v→Rel1 G' (Av Z (H.set k (.box t cs)) G') (w.alloc (.cells vs t)) s v)∧
   (∀j off v,j≠k→Rel1 G (Av Z H G) w (.box j off) v→Rel1 G' (Av Z (H.set k (.box t cs)) G') (w.alloc (.cells vs t)) (.box j off) v)∧
   Rel1 G' (Av Z (H.set k (.box t cs)) G') (w.alloc (.cells vs t)) (.box k 0) (.pointer (some ⟨w.heap.size,0,none⟩)):=by
 have hb:=jr w (.cells vs t)
 have hg:∀b,bS (.pointer (some ⟨w.heap.size,0,none⟩))=some b→w.heap.size≤b:=fun b h=>by simp[bS]at h;omega
 have hst:=mD (it:=.box t cs) hr hb hg
 have hsr:=Bu (it:=.box t cs) hr hb hg ⟨w.heap.size,vs.toList,rfl,hr.below.size,Blk.new w t vs,bR (fun s v h=>dH hr hst h) hcs⟩
 have hkl:=(alP.1 hk).1
 have hl:=hr.len
 obtain⟨m1,m2⟩:=V4 hsr hl hk h0k (by
  intro j u cs' hj x hx
  rcases amm j H.length with hlt|hge
  ·rw[al2 hlt]at hj;exact hlow j u cs' hj x hx
  ·rw[amj hge]at hj
   have hj':=amS hj
   simp only[an8,Item.box.injEq]at hj'
   obtain⟨rfl,rfl⟩:=hj'
   exact hz x hx)
 have hkp:Keeps (Av Z (H++[.box t cs]) (G++[.pointer (some ⟨w.heap.size,0,none⟩)])) (Av Z (H.set k (.box t cs)) (G.set k (.pointer (some ⟨w.heap.size,0,none⟩)))) (w.alloc (.cells vs t)) (w.alloc (.cells vs t)):=⟨alL _,fun b _ h=>(m2 b).1 h,fun _ _ _=>rfl⟩
 refine⟨_,m1,fun s v hs h=>Da hkp (dH hr hst h) hs fun j x hj h=>?_,fun j off v hj h=>?_,⟨_,ank (by omega),rfl⟩⟩
 ·grind
 ·obtain⟨b,h1,h2⟩:=h
  exact⟨b,by rw[anf (ano hj)];exact h1,h2⟩
theorem wM{n:Nat}{L:SL}{a:Act}(f:Nat→Bool):∀{la:List AlA} {H:List Item} {G:List Value},(∀x∈la,f x.i=false)→SR Z w0 H G w→FR Z n L H G w a→∃G',SR Z w0 (H++alX f la) G' w∧FR Z n L (H++alX f la) G' w a∧(∀s v,Rel1 G (Av Z H G) w s v→Rel1 G' (Av Z (H++alX f la) G') w s v)
 |[],H,G,_,hr,hf=>by
  refine⟨G,?_⟩
  rw[show alX f []=[] from rfl,ame]
  exact⟨hr,hf,fun _ _ h=>h⟩
 |x::la,H,G,hx,hr,hf=>by
  have hg:∀b,bS undef=some b→w.heap.size≤b:=fun b h=>by simp[bS,undef]at h
  have hst:=mD (it:=.gone) (g:=undef) hr (aoL _ _) hg
  have h1:=Bu (it:=.gone) (g:=undef) hr (aoL _ _) hg trivial
  obtain⟨G',k1,k2,k3⟩:=wM f (la:=la) (fun y hy=>hx y (by simp[hy])) h1 (hf.keep fun s v h=>dH hr hst h)
  have e:H++alX f (x::la)=(H++[.gone])++alX f la:=by
   rw[show alX f (x::la)=(match f x.i with|true=>.box x.t x.cs|false=>.gone)::alX f la from rfl,hx x (by simp)]
   simp
  rw[e]
  exact⟨G',k1,k2,fun s v h=>k3 s v (dH hr hst h)⟩
end
theorem yb{h0:Nat}:∀{t:Ty},∀s∈t.zsplit,s.refs h0=true:=by
 intro t
 induction t with
 |pair a b iha ihb=>
  grind [Ty.zsplit]
 |st a ih=>intro s hs;simp only[Ty.zsplit]at hs;exact ih s hs
 |_=>intro s hs;simp only[Ty.zsplit,an8]at hs;subst hs;rfl
end
section
theorem FH{H:List Item}{s:SV}{l:List SV}(h:gf [] s=some l):gf H s=some l:=by
 unfold gf at h ⊢
 grind
def yS(h0:Nat)(la:List AlA)(f:Nat→Bool)(L:SL):Prop:=∀t s,aN L t=some s→s.refsT h0=true∨∃(r:Nat) (a:AlA),la[r]?=some a∧f a.i=true∧s=.box (h0+r) 0
theorem Tp{h0:Nat}{la:List AlA}{f:Nat→Bool}{L:SL}(h:∀t s,aN L t=some s→s.refsT h0=true):yS h0 la f (gb f la h0 L):=by
 intro t s hs
 rcases D7 hs with⟨r,a,h1,_,h3,h4⟩|h1<;>grind
section
variable {P:Program} {T:TT} {E:Env} {ops:Array Oper} {Z:Nat→Prop} {w0:World} {N fl:Nat} {Q:Exit→Act→World→Prop} {X:List Item→List Value→World→Prop}
theorem rh{H:List Item}{G:List Value}{w:World}{a:Act}{L L':SL}{h0 r j:Nat}{la:List AlA}{x:AlA}{oj:Oper}{f:Nat→Bool}{K:Act→World→Prop}{Qx:Exit→Act→World→Prop}(hT:fb P T=true)(hoj:ops[j]?=some oj)(hal:aZ oj=true)
  (hla:la[r]?=some x) (hdst:oj.dst=some x.d) (hd:x.d<N) (hop:oj.op=.alloc x.t) (hxx:∃y,dD T x.t=some y∧y.z=true∧(∀p q,y.ty≠.pair p q)∧x.cs=y.ty.zsplit) (_hD:Dis la) (hfx:f x.i=false)
  (hk:H[h0+r]?=some .gone) (hlow:mX h0 H) (hL:yS h0 la f L) (hfl:fl≤h0) (hr:SR Z w0 H G w) (hf:FR Z N L H G w a) (hx:X H G w) (hX:∀H G w H' G' w',X H G w→Ev Z fl H G w H' G' w'→X H' G' w') (hL':∀t,aN L' t=if t=x.d then some (.box (h0+r) 0)else aN L t)
  (hK:∀v G' w',Old w w'→SR Z w0 (H.set (h0+r) (.box x.t x.cs)) G' w'→FR Z N L' (H.set (h0+r) (.box x.t x.cs)) G' w' (a.put oj.dst v)→X (H.set (h0+r) (.box x.t x.cs)) G' w'→K (a.put oj.dst v) w'):wpOp P ops Qx j K a w:=by
 obtain⟨y,hy,hz,hne,hcs⟩:=hxx
 have hg:oj.guard=none:=by
  unfold aZ at hal
  rw[hop]at hal
  cases hq:oj.guard with
  |none=>rfl
  |some x=>rw[hq]at hal;simp at hal
 have hck:=aO hT hy
 obtain⟨inf,hinf,hzero⟩:=xg hck hz
 have hc:(mkV y.ty (zc y.ty)).cells.toList=zc y.ty:=ks (by
  generalize y.ty=ty at*
  cases ty<;>first|exact .inr rfl|exact .inl rfl|exact(hne _ _ rfl).elim)
 obtain⟨G',k1,k2,k3,k4⟩:=L7 (t:=x.t) (cs:=x.cs) (vs:=(mkV y.ty (zc y.ty)).cells) hr hk (by omega) hlow (by rw[hcs];exact yb) (by rw[hcs,hc];exact kC)
 have hrun:(execOp a.eval oj).run P w=.ok (.value (.pointer (some ⟨w.heap.size,0,none⟩))) (w.alloc (.cells (mkV y.ty (zc y.ty)).cells x.t)):=by
  simp[execOp,hop,Instr.alloc,zeroValue,typeInfo,hinf,hzero,newVar,newRow]
 unfold wpOp
 simp only[hoj]
 rw[ama (by simp[Region.wanted,hg])]
 refine .inl ?_
 unfold Oper.wp
 rw[hrun]
 refine hK _ G' _ ⟨(jr w (.cells (mkV y.ty (zc y.ty)).cells x.t)).size,fun b hb=>(jr w (.cells (mkV y.ty (zc y.ty)).cells x.t)).block b hb⟩ k1 ?_ (hX _ _ _ _ _ _ hx fun s v h hs=>k2 s v (qy hfl hs) h)
 have hf1:FR Z N L (H.set (h0+r) (.box x.t x.cs)) G' (w.alloc (.cells (mkV y.ty (zc y.ty)).cells x.t)) a:=by
  refine⟨hf.defers,hf.size,fun t s hs=>?_⟩
  obtain⟨v,h1,h2⟩:=hf.slot t s hs
  refine⟨v,h1,?_⟩
  rcases hL t s hs with h3|⟨r',b,h3,h4,rfl⟩
  ·exact Kv (fun s v hs h=>k2 s v hs h) h2 h3
  ·refine k3 _ _ v (fun e=>?_) h2
   grind
 have hf2:=hf1.put (d:=oj.dst) (L':=(x.d,.box (h0+r) 0)::nP L x.d) (s:=.box (h0+r) 0) (v:=.pointer (some ⟨w.heap.size,0,none⟩)) (by
  rw[hdst]
  simp only[gu]
  rw[amb (show x.d+1≤N from hd)]) k4
 exact⟨hf2.defers,hf2.size,fun t s hs=>hf2.slot t s (by rw[eo,←hL' t];exact hs)⟩
structure PlanOk (T:TT) (ops:Array Oper) (N:Nat) (H0:List Item) (la:List AlA) (ss:List AlS):Prop where
 dis:Dis la
 la2:∀a∈la,(∃o,ops[a.i]?=some o∧aZ o=true)∧∀x∈a.cs,x.refs H0.length=true
 ss1:∀s∈ss,(∃o,ops[s.i]?=some o∧aZ o=false∧o.dst=none)∧(∀x∈s.l,x.refs H0.length=true)∧F9 ops s.i s.j la H0.length=true∧∃bt cells,(H0++alX (fun _=>true) la)[s.j]?=some (.box bt cells)∧s.off+s.l.length≤cells.length
 far:ss.Pairwise (fun s p=>EH s p=true)
def qK(T:TT)(L:SL)(s:AlS)(o:Oper):Prop:=∃t x v sv y,o.op=.store t x v∧o.guard=none∧o.dst=none∧opS L x=some (.box s.j s.off)∧opS L v=some sv∧dD T t=some y∧gf [] sv=some s.l∧s.l.length=y.ty.n
theorem wo{l0:Array Bool}{H0:List Item}{La:SL}{la:List AlA}{ss:List AlS}(hA:alA T N ops.toList 0=some la)(hS:alS T E ops l0 la H0.length La (H0++alX (fun _=>true) la) ops.toList 0=some ss):PlanOk T ops N H0 la ss:=by
 obtain⟨a1,a2,a3⟩:=pH hA
 obtain⟨s1,s2,s3⟩:=mR hS
 refine⟨a3,fun a ha=>?_,fun s hs=>?_,s3⟩
 ·obtain⟨_,o,ho,hal,y,hy⟩:=a2 a ha
  grind [yb]
 ·obtain⟨_,_,o,ho,hal,t,x,v,sv,y,bt,cells,q1,q2,q3,q4,q5,q6,q7,q8,q9,q10,q11,q12,q13⟩:=s2 s hs
  grind
theorem Hz{la:List AlA}(hA:alA T N ops.toList 0=some la):∀{j:Nat} {o:Oper},ops[j]?=some o→aZ o=true→∃(r:Nat) (a:AlA),la[r]?=some a∧a.i=j∧o.dst=some a.d∧a.d<N∧∃x,o.op=.alloc a.t∧dD T a.t=some x∧x.z=true∧(∀p q,x.ty≠.pair p q)∧a.cs=x.ty.zsplit:=by
 intro j o ho hal
 obtain⟨r,a,h1,h2,h3⟩:=(pH hA).1 j o (by rw[anr];exact ho) hal
 grind
theorem kV{l:Array Bool}{i j:Nat}(hcl:Clo ops l)(hj:∀os,ops[j]?=some os→∀e∈os.after,Region.binds .any e=true→l.getD e.on false=true)(h:gS ops 4 j i=true):l.getD i true=true:=by grind [uj]
section
variable {H0:List Item} {la:List AlA} {ss:List AlS} {l:Array Bool}
theorem PlanOk.wt(_hp:PlanOk T ops N H0 la ss)(hcl:Clo ops l)(_hl:l.size=ops.size){s:AlS}{i:Nat}(hs:dn l s.i=true)(_hm:s∈ss)(h:gS ops 4 s.i i=true):l.getD i true=true:=by exact kV hcl (fun os hos e he hb=>hcl s.i os hos hs e he hb) h
theorem PlanOk.setA(hp:PlanOk T ops N H0 la ss)(hcl:Clo ops l)(hl:l.size=ops.size){r:Nat}{x:AlA}(h1:la[r]?=some x)(hju:l.getD x.i true=false):
  cG (dn (l.setIfInBounds x.i true)) ss (H0++alX (dn (l.setIfInBounds x.i true)) la)=(cG (dn l) ss (H0++alX (dn l) la)).set (H0.length+r) (.box x.t x.cs)∧(cG (dn l) ss (H0++alX (dn l) la))[H0.length+r]?=some .gone:=by
 have hup:=jl l x.i
 obtain⟨⟨oj,hoj,hal⟩,_⟩:=hp.la2 x (amS h1)
 have hne:∀s∈ss,dn l s.i=true→s.j≠H0.length+r:=fun s hs hds e=>by
  have:=hp.wt hcl hl hds hs (BT (hp.ss1 s hs).2.2.1 h1 e)
  rw[hju]at this
  cases this
 refine⟨?_,?_⟩
 ·rw[FJ hp.dis h1 hup,kD (g:=dn l) fun s hs=>?_,xD hne]
  rw[hup,al3]
  intro e
  obtain⟨⟨o,ho,hal',_⟩,_⟩:=hp.ss1 s hs
  rw[e,hoj]at ho
  injection ho with ho
  subst ho
  rw[hal]at hal'
  cases hal'
 ·have h3:(H0++alX (dn l) la)[H0.length+r]?=some .gone:=by
   rw[amj (by omega),show H0.length+r-H0.length=r by omega,sw,h1]
   simp only[amJ]
   rw[show dn l x.i=false from hju]
  have h4:H0++alX (dn l) la=(H0++alX (dn l) la).set (H0.length+r) .gone:=by
   refine anl fun k=>?_
   grind
  rw[h4,xD hne,ank (by rw[ti];exact(alP.1 h3).1)]
theorem PlanOk.same(hp:PlanOk T ops N H0 la ss){j:Nat}{oj:Oper}(hoj:ops[j]?=some oj)(hal:aZ oj=false):alX (dn (l.setIfInBounds j true)) la=alX (dn l) la∧∀a∈la,dn (l.setIfInBounds j true) a.i=dn l a.i:=by
 have h:∀a∈la,dn (l.setIfInBounds j true) a.i=dn l a.i:=fun a ha=>by
  rw[jl,al3]
  obtain⟨⟨o',h1,h2⟩,_⟩:=hp.la2 a ha
  grind
 grind [alX,List.map_congr_left]
theorem PlanOk.setS(hp:PlanOk T ops N H0 la ss){s:AlS}(hsm:s∈ss)(hju:l.getD s.i true=false):
  cG (dn (l.setIfInBounds s.i true)) ss (H0++alX (dn (l.setIfInBounds s.i true)) la)=stP s (cG (dn l) ss (H0++alX (dn l) la)):=by
 obtain⟨⟨o,ho,hal,_⟩,_⟩:=hp.ss1 s hsm
 rw[(hp.same ho hal).1]
 exact Hx (jl l s.i) hju hp.far hsm
theorem PlanOk.setT(hp:PlanOk T ops N H0 la ss){j:Nat}{oj:Oper}{d:Nat}(hoj:ops[j]?=some oj)(hal:aZ oj=false)(hd:oj.dst=some d):
  cG (dn (l.setIfInBounds j true)) ss (H0++alX (dn (l.setIfInBounds j true)) la)=cG (dn l) ss (H0++alX (dn l) la):=by
 rw[(hp.same hoj hal).1]
 refine kD fun s hs=>?_
 rw[jl,al3]
 obtain⟨⟨o,ho,_,hdn⟩,_⟩:=hp.ss1 s hs
 grind
theorem PlanOk.low(hp:PlanOk T ops N H0 la ss)(hlowH:mX H0.length H0):mX H0.length (cG (dn l) ss (H0++alX (dn l) la)):=
 Dq (TR hlowH fun a ha=>(hp.la2 a ha).2) fun s hs=>(hp.ss1 s hs).2.1
theorem PlanOk.box(hp:PlanOk T ops N H0 la ss)(hcl:Clo ops l){s:AlS}(hsm:s∈ss)(hj:∀os,ops[s.i]?=some os→∀e∈os.after,Region.binds .any e=true→l.getD e.on false=true):∃bt c',(cG (dn l) ss (H0++alX (dn l) la))[s.j]?=some (.box bt c')∧s.off+s.l.length≤c'.length:=by
 obtain⟨_,_,ht,bt,cells,q8,q10⟩:=hp.ss1 s hsm
 have:(H0++alX (dn l) la)[s.j]?=some (.box bt cells):=by
  rcases amm s.j H0.length with hlt|hge
  ·grind
  ·rw[amj hge,sw]at q8 ⊢
   cases hb:la[s.j-H0.length]? with
   |none=>rw[hb]at q8;cases q8
   |some b=>
    rw[hb]at q8
    simp only[amJ]at q8 ⊢
    rw[show dn l b.i=true from kV hcl hj (BT ht hb (by omega))]
    exact q8
 obtain⟨c',b1,b2⟩:=Dj (f:=dn l) this (ss:=ss)
 grind
theorem rm{H:List Item}{G:List Value}{w:World}{a:Act}{L:SL}{s:AlS}{oj:Oper}{bt:Nat}{c':List SV}{K:Act→World→Prop}{Qx:Exit→Act→World→Prop}(hT:fb P T=true)(hE:lz P E)(hI:inv w0)(hoj:ops[s.i]?=some oj)(hst:qK T L s oj)(b1:H[s.j]?=some (.box bt c'))(b2:s.off+s.l.length≤c'.length)
  (hr:SR Z w0 H G w) (hf:FR Z N L H G w a) (hx:X H G w) (hX:∀H G w H' G' w',X H G w→Ev Z fl H G w H' G' w'→X H' G' w')
  (hK:∀G' w',SR Z w0 (stP s H) G' w'→FR Z N L (stP s H) G' w' a→X (stP s H) G' w'→K a w'):wpOp P ops Qx s.i K a w:=by
 obtain⟨t,x,v,sv,y,q1,q2,q3,q4,q5,q6,q7,q9⟩:=hst
 have hstP:stP s H=H.set s.j (.box bt (oA c' s.off s.l)):=by
  unfold stP
  rw[b1]
 have heop:eop T E fl L H oj (fun s H' L'=>some (s,H',L'))=some (.undef,stP s H,L):=by
  unfold eop
  rw[q1]
  dsimp only
  rw[q4,q5,q6]
  dsimp only
  rw[b1,FH q7]
  dsimp only
  rw[show Nat.beq s.l.length y.ty.n=true by rw[q9];exact aoh _,amb (show s.off+s.l.length≤c'.length by omega),hstP]
  rfl
 unfold wpOp
 simp only[hoj]
 rw[ama (by simp[Region.wanted,q2])]
 refine .inl ?_
 refine t8 hT hE hI hr hf heop fun s' H' L1 G' w' v' k1 k2 k3 k4 k5=>?_
 injection k1 with k1
 injection k1 with k1 k1'
 injection k1' with k1' k1''
 subst k1 k1' k1''
 rw[q3]
 exact hK G' w' k2 k3 (hX _ _ _ _ _ _ hx k5.ev)
end
theorem Eh{l:Array Bool}{H0:List Item}{L0:SL}{la:List AlA}{s:AlS}{o:Oper}{Ha:List Item}(h:SF T ops la H0.length (gb (fun _=>true) la H0.length L0) Ha s o)(hcl:Clo ops l)(hj:∀os,ops[s.i]?=some os→∀e∈os.after,Region.binds .any e=true→l.getD e.on false=true):qK T (gb (dn l) la H0.length L0) s o:=by
 obtain⟨t,x,v,sv,y,bt,cells,q1,q2,q3,q4,q5,q6,q7,q8,q9,q10,q11,q12,q13⟩:=h
 have hopd:∀{z:Operand} {sz:SV},(∀a∈la,J9 z a.d=true→gS ops 4 s.i a.i=true)→opS (gb (fun _=>true) la H0.length L0) z=some sz→opS (gb (dn l) la H0.length L0) z=some sz:=by
  intro z sz hw hz
  cases z with
  |tmp u=>
   rw[←hz]
   refine iI (fun b hb e=>?_) rfl
   exact kV hcl hj (hw b hb (by simp[J9,e]))
  |_=>exact hz
 exact⟨t,x,v,sv,y,q1,q2,q3,hopd (fun b hb h=>q12 b hb (by rw[h];rfl)) q4,hopd (fun b hb h=>q12 b hb (by rw[h,Bool.or_true])) q5,q6,q7,q9⟩
set_option maxHeartbeats 1000000 in
theorem VW{H0:List Item}{L0:SL}{l0:Array Bool}{la:List AlA}{ss:List AlS}(hT:fb P T=true)(hE:lz P E)(hI:inv w0)
  (hA:alA T N ops.toList 0=some la) (hS:alS T E ops l0 la H0.length (gb (fun _=>true) la H0.length L0) (H0++alX (fun _=>true) la) ops.toList 0=some ss) (hD:GA ops l0 (la.map (·.i)++ss.map (·.i))=true) (hW:Ho E ops l0 (la.map (·.i)++ss.map (·.i))=true)
  (hlowH:mX H0.length H0) (hlowL:∀t s,aN L0 t=some s→s.refsT H0.length=true) (hfl:fl≤H0.length) (hl0:l0.size=ops.size)
  (hX:∀H G w H' G' w',X H G w→Ev Z fl H G w H' G' w'→X H' G' w')
  (hEnd:∀(n:Nat) (l:Array Bool) G w a,cu l≤n→l.size=ops.size→(∀k,l0.getD k false=true→l.getD k false=true)→(∀k∈la.map (·.i)++ss.map (·.i),l.getD k true=true)→(∀k,l.getD k true=true→l0.getD k true=true∨k∈la.map (·.i)++ss.map (·.i))→Clo ops l→SR Z w0 (cG (fun _=>true) ss (H0++alX (fun _=>true) la)) G w→FR Z N (gb (fun _=>true) la H0.length L0) (cG (fun _=>true) ss (H0++alX (fun _=>true) la)) G w a→X (cG (fun _=>true) ss (H0++alX (fun _=>true) la)) G w→wpG P ops Q (fun _=>True) n l a w):
  ∀(n:Nat) (l:Array Bool),cu l≤n→l.size=ops.size→(∀k,l0.getD k false=true→l.getD k false=true)→(∀k,l.getD k true=true→l0.getD k true=true∨k∈la.map (·.i)++ss.map (·.i))→Clo ops l→∀(G:List Value) (w:World) (a:Act),
   SR Z w0 (cG (dn l) ss (H0++alX (dn l) la)) G w→FR Z N (gb (dn l) la H0.length L0) (cG (dn l) ss (H0++alX (dn l) la)) G w a→X (cG (dn l) ss (H0++alX (dn l) la)) G w→wpG P ops Q (fun _=>True) n l a w:=by
 obtain⟨a1,a2,a3⟩:=pH hA
 obtain⟨s1,s2,s3⟩:=mR hS
 have hp:=wo hA hS
 have cov:∀{l:Array Bool},(∀k,l0.getD k false=true→l.getD k false=true)→∀{k:Nat} {o:Oper},ops[k]?=some o→l.getD k true=false→(∃(r:Nat) (x:AlA),la[r]?=some x∧x.i=k∧aZ o=true)∨(∃s∈ss,s.i=k∧aZ o=false)∨(fJ E o=true∧l0.getD k true=false):=by
  intro l hsub k o ho hu
  have hk:ops.toList[k]?=some o:=by rw[anr];exact ho
  cases hal:aZ o with
  |true=>
   obtain⟨r,x,h1,h2,_⟩:=a1 k o hk hal
   exact .inl ⟨r,x,h1,by omega,rfl⟩
  |false=>
   right
   have hlt:k<l0.size:=by rw[hl0];exact(alZ.1 ho).1
   have h0:l0.getD (0+k) true=false:=by
    rw[aml]
    cases hq:l0.getD k true with
    |false=>rfl
    |true=>
     rw[←jY hlt]at hq
     have:=hsub k hq
     rcases amm k l.size with h'|h'
     ·rw[jY h',hu]at this;cases this
     ·simp[anj h']at hu
   cases ht:fJ E o with
   |true=>rw[aml]at h0;exact .inr ⟨rfl,h0⟩
   |false=>
    obtain⟨s,h1,h2⟩:=s1 k o hk h0 hal ht
    exact .inl ⟨s,h1,by omega,rfl⟩
 have fin:∀{n:Nat} {l:Array Bool},cu l≤n→l.size=ops.size→(∀k,l0.getD k false=true→l.getD k false=true)→(∀k,l.getD k true=true→l0.getD k true=true∨k∈la.map (·.i)++ss.map (·.i))→Clo ops l→(∀k∈la.map (·.i)++ss.map (·.i),l.getD k true=true)→∀{G:List Value} {w:World} {a:Act},SR Z w0 (cG (dn l) ss (H0++alX (dn l) la)) G w→FR Z N (gb (dn l) la H0.length L0) (cG (dn l) ss (H0++alX (dn l) la)) G w a→X (cG (dn l) ss (H0++alX (dn l) la)) G w→wpG P ops Q (fun _=>True) n l a w:=by
  intro n l hcu hl hsub hin hcl hall G w a hr hf hx
  have e1:∀x∈la,dn l x.i=true:=fun x hx=>hall _ (ang _ (anh.2 ⟨x,hx,rfl⟩))
  have e2:∀s∈ss,dn l s.i=true:=fun s hs=>hall _ (anM _ (anh.2 ⟨s,hs,rfl⟩))
  have e3:alX (dn l) la=alX (fun _=>true) la:=by
   unfold alX
   exact List.map_congr_left fun x hx=>by rw[e1 x hx]
  have e4:cG (dn l) ss (H0++alX (dn l) la)=cG (fun _=>true) ss (H0++alX (fun _=>true) la):=by
   rw[e3]
   exact kD e2
  rw[e4]at hr hf hx
  refine hEnd n l G w a hcu hl hsub hall hin hcl hr ⟨hf.defers,hf.size,fun t s hs=>hf.slot t s ?_⟩ hx
  rw[←hs]
  exact iI (fun x hx _=>e1 x hx) rfl
 intro n
 induction n with
 |zero=>
  intro l hcu hl hsub hin hcl G w a hr hf hx
  exact fin hcu hl hsub hin hcl (fun k _=>Vr (l:=l) (by omega) k) hr hf hx
 |succ n ih=>
  intro l hcu hl hsub hin hcl G w a hr hf hx
  by_cases hC:∀k∈la.map (·.i)++ss.map (·.i),l.getD k true=true
  ·exact fin hcu hl hsub hin hcl hC hr hf hx
  have hC':∃k∈la.map (·.i)++ss.map (·.i),l.getD k true=false:=by
   apply alW
   intro hn
   refine hC fun k hk=>?_
   cases hq:l.getD k true with
   |true=>rfl
   |false=>exact(hn ⟨k,hk,hq⟩).elim
  refine⟨fun h=>(yw hl hD hsub hC' h).elim,fun j hj=>?_⟩
  obtain⟨hju,oj,hoj,hdep⟩:=amM.1 hj
  have hin':∀{i:Nat},i∈la.map (·.i)++ss.map (·.i)→∀k,(l.setIfInBounds i true).getD k true=true→l0.getD k true=true∨k∈la.map (·.i)++ss.map (·.i):=fun{i} hi k hk=>by
   have:=jl l i k
   rw[show dn (l.setIfInBounds i true) k=true from hk]at this
   by_cases e:k=i
   ·subst e;exact .inr hi
   ·rw[al3 e]at this;exact hin k this.symm
  have hsub':∀k,l0.getD k false=true→(l.setIfInBounds j true).getD k false=true:=fun k hk=>aoG (hsub k hk)
  have hcu':cu (l.setIfInBounds j true)≤n:=by have:=zr hju;omega
  have hjr:∀os,ops[j]?=some os→∀e∈os.after,Region.binds .any e=true→l.getD e.on false=true:=fun os hos e he hb=>by rw[hoj]at hos;injection hos with hos;subst hos;exact hdep e he hb
  rcases cov hsub hoj hju with⟨r,x,h1,h2,hal⟩|⟨s,hsm,h2,hal⟩|⟨ht,hu0⟩
  ·-- an allocation
   subst h2
   obtain⟨r',x',g1,g2,g3,g4,y,g5,g6⟩:=Hz hA hoj hal
   have e:r'=r:=by
    by_cases hh:r'=r
    ·exact hh
    ·exact absurd g2 (Ou a3 h1 g1 hh).1
   subst e
   rw[h1]at g1
   injection g1 with g1
   subst g1
   obtain⟨hset,hgone⟩:=hp.setA hcl hl h1 hju
   refine rh (L':=gb (dn (l.setIfInBounds x.i true)) la H0.length L0) hT hoj hal h1 g3 g4 g5 ⟨y,g6⟩ a3 hju hgone (hp.low hlowH) (Tp hlowL) hfl hr hf hx hX (Ai (jl l x.i) a3 h1) fun v G' w' _ k1 k2 k3=>⟨.inr trivial,?_⟩
   rw[←hset]at k1 k2 k3
   exact ih _ hcu' (by simpa using hl) hsub' (hin' (ang _ (anh.2 ⟨x,amS h1,rfl⟩))) (hcl.set hj) G' w' _ k1 k2 k3
  ·-- a store
   subst h2
   obtain⟨_,_,o,ho,_,hok⟩:=s2 s hsm
   rw[Nat.sub_zero,anr,hoj]at ho
   injection ho with ho
   subst ho
   obtain⟨bt,c',b1,b2⟩:=hp.box hcl hsm hjr
   refine rm (fl:=fl) hT hE hI hoj (Eh hok hcl hjr) b1 b2 hr hf hx hX fun G' w' k2 k3 k5=>⟨.inr trivial,?_⟩
   rw[←hp.setS hsm hju]at k2 k3 k5
   refine ih _ hcu' (by simpa using hl) hsub' (hin' (anM _ (anh.2 ⟨s,hsm,rfl⟩))) (hcl.set hj) G' w' _ k2 ?_ k5
   exact⟨k3.defers,k3.size,fun u su hs=>k3.slot u su (by rw[←iI (fun x hx _=>(hp.same hoj hal).2 x hx) rfl];exact hs)⟩
  ·-- a tame one waits for all
   exfalso
   obtain⟨k,hk,hku⟩:=hC'
   have hw:=al4.1 hW j (List.mem_range.2 (alZ.1 hoj).1)
   unfold eu at hw
   rw[hu0,hoj]at hw
   dsimp only at hw
   rw[ht]at hw
   simp only[Bool.not_true,Bool.or_false,Bool.false_or]at hw
   have:=kV hcl hjr (al4.1 hw k hk)
   rw[hku]at this
   cases this
end
end
end Go.Proofs.YtnkndpoojnflmaaGreat
end
