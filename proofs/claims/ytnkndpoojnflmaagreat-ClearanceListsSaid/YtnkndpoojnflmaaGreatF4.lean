/- The pure machine and the machine: slots, loop heads, waiting calls. -/
import Derived.Test.YtnkndpoojnflmaaGreatF3
noncomputable section
namespace Go.Proofs.YtnkndpoojnflmaaGreat
open Go.RowKit Go.IntKind
theorem ano:type_of% @Classical.byContradiction:=@Classical.byContradiction
theorem anH:type_of% @List.getElem?_cons_succ:=@List.getElem?_cons_succ
theorem anK:type_of% @List.pairwise_cons:=@List.pairwise_cons
theorem anY:type_of% @List.getElem?_cons_zero:=@List.getElem?_cons_zero
theorem an8:type_of% @List.mem_map:=@List.mem_map
theorem aoD:type_of% @List.getElem?_set_ne:=@List.getElem?_set_ne
theorem aoE:type_of% @List.mem_append_left:=@List.mem_append_left
theorem aoH:type_of% @List.getElem?_set_self:=@List.getElem?_set_self
theorem aoO:type_of% @List.length_map:=@List.length_map
theorem aoP:type_of% @Array.getElem?_toList:=@Array.getElem?_toList
theorem apc:type_of% @List.mem_append_right:=@List.mem_append_right
theorem apo:type_of% @List.getElem_of_mem:=@List.getElem_of_mem
theorem apE:type_of% @Nat.beq_refl:=@Nat.beq_refl
theorem apP:type_of% @List.all_cons:=@List.all_cons
theorem apU:type_of% @Bool.or_eq_false_iff:=@Bool.or_eq_false_iff
section
theorem z7{d:Nat}{L:SL}{t:Nat}{s:SV}(h:aN (nA L d) t=some s):aN L t=some s:=h
theorem gW{d:Nat}{x:SV}{L:SL}{t:Nat}{s:SV}(h:aN ((d,x)::L) t=some s):(t=d∧s=x)∨(t≠d∧aN L t=some s):=by
 simp only[aN]at h;split at h
 ·simp_all
 ·refine .inr ⟨fun e=>?_,h⟩;simp_all
theorem ia{L:SL}:∀{ts:List Nat} {t:Nat} {s:SV},aN (ip L ts) t=some s→aN L t=some s
 |[],_,_,h=>by simp[ip,aN]at h
 |u::ts,t,s,h=>by
  simp only[ip]at h;split at h
  ·rename_i x hx;rcases gW h with⟨rfl,rfl⟩|⟨_,h1⟩
   ·exact hx
   ·exact ia h1
  ·exact ia h
theorem qH{N:NT}{f i:Nat}{L:SL}{t:Nat}{s:SV}(h:aN (GA N f i L) t=some s):aN L t=some s:=by
 unfold GA at h;split at h
 ·exact ia h
 omega
theorem yN{L:SL}:∀{ts:List Nat} {L':SL},Et L ts=some L'→∀t s,aN L' t=some s→aN L t=some s
 |[],L',h,t,s,hs=>by simp only[Et,anf]at h;subst h;simp[aN]at hs
 |u::ts,L',h,t,s,hs=>by
  simp only[Et]at h;split at h<;>try (cases h;done)
  rename_i x r h1 h2;injection h with h;subst h;rcases gW hs with⟨rfl,rfl⟩|⟨_,h3⟩
  ·exact h1
  ·exact yN h2 t s h3
theorem Ak:∀{L:SL} {t:Nat} {s:SV},aN L t=some s→(t,s)∈L
 |[],_,_,h=>by simp[aN]at h
 |(k,x)::r,t,s,h=>by
  rcases gW h with⟨rfl,rfl⟩|⟨_,h3⟩
  ·simp
  ·simp[Ak h3]
theorem sN{k:Nat}{s:SV}(h:∀l,s≠.tup l):s.refsT k=s.refs k:=by cases s<;>first|rfl|exact(h _ rfl).elim
theorem wJ{fl j:Nat}{s:SV}(h:s.refs fl=true)(ho:s.of1 j=true):j<fl:=by
 cases s<;>simp only[SV.of1,Bool.false_eq_true]at ho
 ·have:=ana ho;subst this;exact anc h
 ·have:=ana ho;subst this;exact anc h
 ·have:=ana ho;subst this;exact anc h
section
variable {Z:Nat→Prop} {w0:World} {n:Nat} {L L':SL} {H H':List Item} {G G':List Value} {w w':World} {a:Act} {F:FT}
theorem FR.put{d:Option Nat}{s:SV}{v:Value}(h:FR Z n L H G w a)(hp:gv n L d s=some L')(hv:Rel G (Av Z H G) w s v):FR Z n L' H G w (a.put d v):=by
 cases d with
 |none=>simp only[gv,anf]at hp;subst hp;exact h
 |some d=>
  simp only[gv]at hp;split at hp<;>try (cases hp;done)
  rename_i hd;have hd:=anc hd;injection hp with hp;subst hp;refine⟨h.defers,by simp[Act.put,h.size],fun t s' hs=>?_⟩;simp only[Act.put,Array.getElem?_setIfInBounds,h.size];rcases gW hs with⟨rfl,rfl⟩|⟨hne,h3⟩
  ·grind
  ·have h4:=z7 h3;obtain⟨u,h5,h6⟩:=h.slot t s' h4;grind
theorem FR.say{d:Nat}{s:SV}{v:Value}(h:FR Z n L H G w a)(hd:a.tmps[d]?=some v)(hv:Rel G (Av Z H G) w s v):FR Z n ((d,s)::nA L d) H G w a:=
 ⟨h.defers,h.size,fun t s' hs=>by
  rcases gW hs with⟨rfl,rfl⟩|⟨hne,h3⟩
  ·exact⟨v,hd,hv⟩
  ·exact h.slot t s' (z7 h3)⟩
theorem tn(hr:SR Z w0 H G w){s:SV}{v:Value}(h:Rel1 G (Av Z H G) w s v):s.refs H.length=true:=by
 have lt:∀(j:Nat) g,G[j]?=some g→Nat.ble (j+1) H.length=true:=fun j g hg=>anz (by rw[←hr.len];exact(ang.1 hg).1);cases s with
 |box j off=>obtain⟨b,h1,_⟩:=h;exact lt j _ h1
 |own j=>exact lt j _ h
 |oelt j sz i off=>obtain⟨b,m,c,h1,_⟩:=h;exact lt j _ h1
 |osl j sz lo n=>obtain⟨g,q,c,h1,_⟩:=h;exact lt j _ h1
 |clo f caps=>
  obtain⟨bs,h1,_⟩:=h;refine ans.2 fun j hj=>?_;obtain⟨k,hk,rfl⟩:=apo hj;obtain⟨b,_,hb⟩:=iV h1 k _ (am6 hk);grind
 |tup l=>exact h.elim
 |_=>rfl
theorem mN(hr:SR Z w0 H G w){s:SV}{v:Value}(h:Rel G (Av Z H G) w s v):s.refsT H.length=true:=by
 cases s with
 |tup l=>
  obtain⟨vs,_,h2⟩:=h;refine ans.2 fun s hs=>?_;obtain⟨k,hk,rfl⟩:=apo hs;obtain⟨b,_,hb⟩:=iV h2 k _ (am6 hk);grind [tn]
 |_=>rw[sN (fun l e=>by cases e)];exact tn hr (nh h (fun l e=>by cases e))
def Ev(Z:Nat→Prop)(fl:Nat)(H:List Item)(G:List Value)(w:World)(H':List Item)(G':List Value)(w':World):Prop:=∀s v,Rel1 G (Av Z H G) w s v→s.refs fl=true→Rel1 G' (Av Z H' G') w' s v
theorem Chg.ev{fl:Nat}{st ap:Bool}(h:Chg Z fl st ap H G w H' G' w'):Ev Z fl H G w H' G' w':=fun s v hs hr=>h.pres s v hs fun _j hj=>wJ hr hj
def DOk(F:FT)(fm:Fm):Prop:=∀D,fm.d=some D→Clo (am (nth (ak F fm.f) fm.i)) (mkL (am (nth (ak F fm.f) fm.i)).size D)∧Region.noSelect (am (nth (ak F fm.f) fm.i))=true∧D.length≤(am (nth (ak F fm.f) fm.i)).size
def FrsOk(Z:Nat→Prop)(F:FT)(H:List Item)(G:List Value)(w:World):Nat→List Fm→List Act→Prop
 |_,[],[]=>True
 |fl,fm::fs,a::ats=>FR Z (ntm F fm.f) fm.L H G w a∧(∀t s,aN fm.L t=some s→s.refsT fl=true)∧(fm.fl≤fl∧(∃fn,gn F fm.f=some fn)∧DOk F fm)∧FrsOk Z F H G w fm.fl fs ats
 |_,_,_=>False
theorem qI{k l:Nat}(h:k≤l){s:SV}(hs:s.refs k=true):s.refs l=true:=by
 have b:∀j,Nat.ble (j+1) k=true→Nat.ble (j+1) l=true:=fun j hj=>anz (ank (anc hj) h);cases s with
 |box j off=>exact b j hs
 |own j=>exact b j hs
 |oelt j sz i off=>exact b j hs
 |osl j sz i off=>exact b j hs
 |clo f caps=>exact ans.2 fun j hj=>b j (ans.1 hs j hj)
 |tup l=>cases hs
 |_=>rfl
theorem Hi{k l:Nat}(h:k≤l){s:SV}(hs:s.refsT k=true):s.refsT l=true:=by
 cases s with
 |tup l=>exact ans.2 fun s hm=>qI h (ans.1 hs s hm)
 |_=>rw[sN (fun l e=>by cases e)]at hs ⊢;exact qI h hs
theorem Rel.ev{fl:Nat}(he:Ev Z fl H G w H' G' w'){s:SV}{v:Value}(h:Rel G (Av Z H G) w s v)(hr:s.refsT fl=true):Rel G' (Av Z H' G') w' s v:=by
 cases s with
 |tup l=>
  obtain⟨vs,h1,h2⟩:=h;refine⟨vs,h1,?_⟩;clear h1;induction l generalizing vs with
  |nil=>cases vs<;>exact h2
  |cons s l ih=>
   simp only[SV.refsT,apP,am9]at hr;match vs,h2 with
   |v::vs,⟨g1,g2⟩=>exact⟨he s v g1 hr.1,ih hr.2 vs g2⟩
 |_=>rw[sN (fun l e=>by cases e)]at hr;exact eP (he _ _ (nh h (fun l e=>by cases e)) hr)
theorem FrsOk.ev{fl:Nat}(he:Ev Z fl H G w H' G' w'):∀{fl':Nat} {fs:List Fm} {ats:List Act},fl'≤fl→FrsOk Z F H G w fl' fs ats→FrsOk Z F H' G' w' fl' fs ats
 |_,[],[],_,_=>trivial
 |fl',fm::fs,a::ats,hle,⟨h1,h2,h3,h4⟩=>⟨⟨h1.defers,h1.size,fun t s hs=>by
   obtain⟨v,g1,g2⟩:=h1.slot t s hs;exact⟨v,g1,g2.ev he (Hi hle (h2 t s hs))⟩⟩,h2,h3,FrsOk.ev he (ank h3.1 hle) h4⟩
 |_,[],_::_,_,h=>h.elim
 |_,_::_,[],_,h=>h.elim
theorem wd{a b k:Nat}:OV a b≤k↔a≤k∧b≤k:=by grind [OV,anc,anz]
theorem H3{k j:Nat}{s:SV}(h:s.ofm≤k)(ho:s.of1 j=true):j<k:=by
 cases s<;>simp only[SV.of1,Bool.false_eq_true]at ho;all_goals (have:=ana ho;subst this;exact h)
theorem V3{s:SV}(h:∀l,s≠.tup l):s.ofmT=s.ofm:=by cases s<;>first|rfl|exact(h _ rfl).elim
theorem Dv{k:Nat}:∀{L:SL} {t:Nat} {s:SV},slM L≤k→aN L t=some s→s.ofmT≤k
 |[],_,_,_,h=>by simp[aN]at h
 |(q,x)::r,t,s,hk,h=>by
  obtain⟨h1,h2⟩:=wd.1 hk;rcases gW h with⟨rfl,rfl⟩|⟨_,h3⟩
  ·exact h1
  ·exact Dv h2 h3
theorem Rel.evF{k:Nat}(he:∀s v,Rel1 G (Av Z H G) w s v→(∀j,s.of1 j=true→j<k)→Rel1 G' (Av Z H' G') w' s v){s:SV}{v:Value}(h:Rel G (Av Z H G) w s v)(hr:s.ofmT≤k):Rel G' (Av Z H' G') w' s v:=by
 cases s with
 |tup l=>
  obtain⟨vs,h1,h2⟩:=h;refine⟨vs,h1,?_⟩;clear h1;induction l generalizing vs with
  |nil=>cases vs<;>exact h2
  |cons s l ih=>
   obtain⟨r1,r2⟩:=wd.1 hr;match vs,h2 with
   |v::vs,⟨g1,g2⟩=>exact⟨he s v g1 fun j hj=>H3 r1 hj,ih r2 vs g2⟩
 |_=>rw[V3 (fun l e=>by cases e)]at hr;exact eP (he _ _ (nh h (fun l e=>by cases e)) fun j hj=>H3 hr hj)
theorem FrsOk.evF{k:Nat}(he:∀s v,Rel1 G (Av Z H G) w s v→(∀j,s.of1 j=true→j<k)→Rel1 G' (Av Z H' G') w' s v):∀{fl':Nat} {fs:List Fm} {ats:List Act},SU fs≤k→FrsOk Z F H G w fl' fs ats→FrsOk Z F H' G' w' fl' fs ats
 |_,[],[],_,_=>trivial
 |fl',fm::fs,a::ats,hle,⟨h1,h2,h3,h4⟩=>⟨⟨h1.defers,h1.size,fun t s hs=>by
   obtain⟨v,g1,g2⟩:=h1.slot t s hs;exact⟨v,g1,g2.evF he (Dv (wd.1 hle).1 hs)⟩⟩,h2,h3,FrsOk.evF he (wd.1 hle).2 h4⟩
 |_,[],_::_,_,h=>h.elim
 |_,_::_,[],_,h=>h.elim
theorem rA{fl:Nat}:∀{l:List (Nat×Nat×Ty)} {L:SL} {H:List Item} {G:List Value},SR Z w0 H G w→FR Z n L H G w a→fl≤H.length→qN l L H=some (L',H')→∃G',SR Z w0 H' G' w∧FR Z n L' H' G' w a∧Ev Z fl H G w H' G' w∧fl≤H'.length
 |[],L,H,G,hr,hf,hfl,h=>by
  simp only[qN,anf,anN]at h;obtain⟨rfl,rfl⟩:=h;exact⟨G,hr,hf,fun s v h _=>h,hfl⟩
 |(t,et,e)::l,L,H,G,hr,hf,hfl,h=>by
  simp only[qN]at h;split at h
  ·rename_i hs;split at h<;>try (cases h;done)
   rename_i hn;have hn:=anc hn;obtain⟨v,h1,h2⟩:=hf.slot t _ hs;have h2:v=.slice none 0 0:=h2;subst h2;obtain⟨G1,k1,k2,k3,k4⟩:=lI (et:=et) (e:=e) (xs:=[]) (css:=[]) hr hf (aqc _ _) (World.ownsRow_nil w _ _ _) hn trivial fl false false;obtain⟨G2,g1,g2,g3,g4⟩:=rA (fl:=fl) k1 (k2.say h1 k3) (by simp;omega) h;exact⟨G2,g1,g2,fun s v hs hrf=>g3 s v (k4.ev s v hs hrf) hrf,g4⟩
  ·exact rA hr hf hfl h
theorem lP{fl:Nat}:∀{l:List (Nat×Ty)} {L:SL} {H:List Item},SR Z w0 H G w→FR Z n L H G w a→fl≤H.length→kE fl l L H=some (L',H')→SR Z w0 H' G w∧FR Z n L' H' G w a∧Ev Z fl H G w H' G w∧fl≤H'.length
 |[],L,H,hr,hf,hfl,h=>by
  simp only[kE,anf,anN]at h;obtain⟨rfl,rfl⟩:=h;exact⟨hr,hf,fun s v h _=>h,hfl⟩
 |(t,e)::l,L,H,hr,hf,hfl,h=>by
  simp only[kE]at h;split at h
  ·rename_i hs;obtain⟨v,h1,h2⟩:=hf.slot t _ hs;have h2:v=.slice none 0 0:=h2;subst h2;exact lP hr (hf.say (s:=.d (.sl e) []) h1 ⟨[_],yk,rfl⟩) hfl h
  ·rename_i j hs;split at h<;>try (cases h;done)
   rename_i L1 H1 hg;have hfz:pu fl [.tmp t] L H=some (L1,H1):=by simp only[pu,opS,hs,hg]
   obtain⟨g1,g2,g3,_,_⟩:=kW hr hf hfz
   have hlen:H1.length=H.length:=by
    unfold uP at hg;split at hg<;>try (cases hg;done)
    simp only[anf,anN]at hg;rw[←hg.2];simp
   obtain⟨k1,k2,k3,k4⟩:=lP g1 g2 (by omega) h;exact⟨k1,k2,fun s v hs hrf=>k3 s v (g3 s v hs fun j hj=>wJ hrf hj) hrf,k4⟩
  ·exact lP hr hf hfl h
theorem jH{α:Type}{l:List α}{k j:Nat}{x:α}(h:(l.take k)[j]?=some x):j<k∧l[j]?=some x:=by grind
theorem Ct(hl:Nat){b:Nat}(h:Av Z H G b):Av Z (H.take hl) (G.take hl) b:=⟨h.1,fun j it g h1 h2 h3=>h.2 j it g (jH h1).2 h2 (jH h3).2⟩
theorem yD{hl:Nat}{s:SV}{v:Value}(h:Rel1 G (Av Z H G) w s v)(hs:s.refs hl=true):Rel1 (G.take hl) (Av Z (H.take hl) (G.take hl)) w s v:=by
 have hk:Keeps (Av Z H G) (Av Z (H.take hl) (G.take hl)) w w:=⟨anb _,fun b _ h=>Ct hl h,fun _ _ _=>rfl⟩
 have g:∀(j:Nat) x,Nat.ble (j+1) hl=true→G[j]?=some x→(G.take hl)[j]?=some x:=fun j x hj hx=>by
  grind [anc]
 cases s with
 |d t x=>obtain⟨cs,h1,h2⟩:=h;exact⟨cs,Ty.rd_keep hk h1,h2⟩
 |nil=>exact h
 |box j off=>obtain⟨b,h1,h2⟩:=h;exact⟨b,g j _ hs h1,h2⟩
 |elt e x off=>obtain⟨b,o,cs,h1,h2,h3,h4,h5⟩:=h;exact⟨b,o,cs,h1,Ct hl h2,h3,Ty.rd_keep hk h4,h5⟩
 |own j=>exact g j _ hs h
 |oelt j sz i off=>obtain⟨b,m,c,h1,h2⟩:=h;exact⟨b,m,c,g j _ hs h1,h2⟩
 |cut e xs=>obtain⟨p,h1,h2⟩:=h;exact⟨p,Ty.rd_keep hk h1,h2⟩
 |osl j sz lo n=>obtain⟨x,q,c,h1,h2⟩:=h;exact⟨x,q,c,g j _ hs h1,h2⟩
 |clo f caps=>
  obtain⟨bs,h1,h2⟩:=h;refine⟨bs,?_,h2⟩;clear h2;induction caps generalizing bs with
  |nil=>cases bs<;>exact h1
  |cons c caps ih=>
   simp only[SV.refs,apP,am9]at hs;match bs,h1 with
   |b::bs,⟨q1,q2⟩=>exact⟨g c _ hs.1 q1,ih hs.2 bs q2⟩
 |tup l=>exact h
 |undef=>exact h
 |dead=>trivial
theorem Uz{hl:Nat}(hr:SR Z w0 H G w)(hrf:(H.take hl).all (Item.refs hl)=true):SR Z w0 (H.take hl) (G.take hl) w:=by
 have hk:Keeps (Av Z H G) (Av Z (H.take hl) (G.take hl)) w w:=⟨anb _,fun b _ h=>Ct hl h,fun _ _ _=>rfl⟩
 refine⟨by simp[hr.len],hr.below,fun j it g h1 h2=>?_,fun i j it jt g h b hij h1 h2 h3 h4 h5 h6 h7=>hr.disj i j it jt g h b hij (jH h1).2 (jH h2).2 h3 h4 (jH h5).2 (jH h6).2 h7,hr.zf⟩;have hi:=hr.items j it g (jH h1).2 (jH h2).2;have hir:it.refs hl=true:=ans.1 hrf it (an4 h1);cases it with
 |gone=>trivial
 |row et e xs=>obtain⟨css,k1,k2,k3⟩:=hi;exact⟨css,k1,bR (fun _ _ h=>Ty.rd_keep hk h) k2,k3⟩
 |box t cs=>
  obtain⟨b,vs,rfl,k1,k2,k3⟩:=hi;refine⟨b,vs,rfl,k1,k2,?_⟩;clear k2 h1;induction cs generalizing vs with
  |nil=>cases vs<;>exact k3
  |cons s l ih=>
   simp only[Item.refs,apP,am9]at hir;match vs,k3 with
   |v::vs,⟨q1,q2⟩=>exact⟨yD q1 hir.1,ih hir.2 vs q2⟩
structure CR (Z:Nat→Prop) (F:FT) (w0:World) (c:Cfg) (G:List Value) (w:World) (a:Act) (ats:List Act):Prop where
 sr:SR Z w0 c.H G w
 fr:FR Z (ntm F c.f) c.L c.H G w a
 fl:c.fl≤c.H.length
 frs:FrsOk Z F c.H G w c.fl c.fs ats
theorem De{R:SV→Value→Prop}{s:SV}(hs:∀v,R .nil v→R s v):∀{cs:List SV} {vs:List Value} {q:Nat},ct R cs vs→cs[q]?=some .nil→ct R (cs.set q s) vs
 |[],_,_,_,h=>by simp at h
 |c::cs,[],_,h,_=>h.elim
 |c::cs,v::vs,0,⟨h1,h2⟩,h=>by
  simp only[anY,anf]at h;subst h;exact⟨hs v h1,h2⟩
 |c::cs,v::vs,q+1,⟨h1,h2⟩,h=>by
  rw[anH]at h;exact⟨h1,De hs h2 h⟩
theorem qJ{fl:Nat}:∀{l:List (Nat×Nat×Nat×Ty)} {H:List Item} {G:List Value},SR Z w0 H G w→FR Z n L H G w a→fl≤H.length→∃G',SR Z w0 (nO l H) G' w∧FR Z n L (nO l H) G' w a∧Ev Z fl H G w (nO l H) G' w∧fl≤(nO l H).length
 |[],H,G,hr,hf,hfl=>⟨G,hr,hf,fun s v h _=>h,hfl⟩
 |(j,q,et,e)::l,H,G,hr,hf,hfl=>by
  simp only[nO];split
  ·rename_i t cs hj;split
   ·rename_i hq hn;have hn:=anc hn;obtain⟨G1,k1,k2,k3,k4⟩:=lI (et:=et) (e:=e) (xs:=[]) (css:=[]) hr hf (aqc _ _) (World.ownsRow_nil w _ _ _) hn trivial fl false false;have hlt:=(ang.1 hj).1;have hj1:(H++[.row et e []])[j]?=some (.box t cs):=by rw[anq hlt];exact hj
    have hst:=pU (it':=.box t (cs.set q (.own H.length))) k1 hj1 rfl k1.below (anb _) (fun _ _ _=>rfl)
    have hsr:=AT (it':=.box t (cs.set q (.own H.length))) k1 hj1 rfl k1.below (anb _) (fun _ _ _=>rfl) (fun g hg=>by
     obtain⟨b,vs,e1,e2,e3,e4⟩:=k1.items j _ g hj1 hg;refine⟨b,vs,e1,e2,e3,De (fun v hv=>?_) (bR (fun s v h=>dM k1 hst h) e4) hq⟩;have hv:v=.slice none 0 0:=hv;subst hv;exact k3)
    rw[List.set_append,anB hlt]at hsr hst;obtain⟨G2,g1,g2,g3,g4⟩:=qJ (fl:=fl) (l:=l) hsr (k2.keep fun s v h=>dM k1 hst h) (by simp;omega);exact⟨G2,g1,g2,fun s v hs hrf=>g3 s v (dM k1 hst (k4.ev s v hs hrf)) hrf,g4⟩
   ·exact qJ hr hf hfl
  ·exact qJ hr hf hfl
theorem Wz{x:NI}{c c':Cfg}{ats:List Act}(h:abH x c=some c')(hc:CR Z F w0 c G w a ats):∃G',CR Z F w0 c' G' w a ats∧c'.f=c.f∧c'.K=c.K∧c'.fs=c.fs:=by
 unfold abH at h;split at h<;>try (cases h;done)
 rename_i L1 H1 h1;split at h<;>try (cases h;done)
 rename_i L2 H2 h2;split at h<;>try (cases h;done)
 rename_i L3 h3;split at h<;>try (cases h;done)
 rename_i hb;injection h with h;subst h;simp only[am9]at hb;obtain⟨⟨b1,b2⟩,b3⟩:=hb;obtain⟨G0,f1,f2,f3,f4⟩:=qJ (l:=x.bx) hc.sr hc.fr hc.fl;obtain⟨G1,g1,g2,g3',g4⟩:=rA f1 f2 f4 h1;have g3:Ev Z c.fl c.H G w H1 G1 w:=fun s v hs hr=>g3' s v (f3 s v hs hr) hr;obtain⟨k1,k2,k3,k4⟩:=lP g1 g2 g4 h2;have b3':=anc b3;have hev:Ev Z c.fl c.H G w (H2.take x.hl) (G1.take x.hl) w:=fun s v hs hrf=>yD (k3 s v (g3 s v hs hrf) hrf) (qI b3' hrf);refine⟨G1.take x.hl,⟨Uz k1 b2,⟨k2.defers,k2.size,fun t s hs=>?_⟩,by simp;omega,hc.frs.ev hev (anb _)⟩,rfl,rfl,rfl⟩;obtain⟨v,q1,q2⟩:=k2.slot t s (yN h3 t s hs);have hrf:s.refs x.hl=true:=ans.1 b1 (t,s) (Ak hs);exact⟨v,q1,eP (yD (nh q2 fun l e=>by subst e;cases hrf) hrf)⟩
end
end
section
def iW(P:Program)(fn:Func)(R:Ending→World→Prop)(B:Code):List KJ→List KI
 |[]=>[]
 |.seq i::K=>.seq i::iW P fn R B K
 |.blk id::K=>.blk id::iW P fn R B K
 |.lp i::K=>.lp (InLoop P (nth B (i+1)) (iL P fn R B (iW P fn R B K)))::iW P fn R B K
def fU(P:Program)(F:FT)(Rt:Ending→World→Prop):List Fm→List Act→Ending→World→Prop
 |fm::fs,a::ats=>fun e w'=>∃v,e=.returned v∧∃fn o,gn F fm.f=some fn∧(am (nth (ak F fm.f) fm.i))[fm.k]?=some o∧
   (fm.d=none→AtR P fn (fU P F Rt fs ats) (ak F fm.f) (iW P fn (fU P F Rt fs ats) (ak F fm.f) fm.K) fm.i (fm.k+1) (a.put o.dst v) w')∧
   (∀D,fm.d=some D→wpG P (am (nth (ak F fm.f) fm.i)) (iL P fn (fU P F Rt fs ats) (ak F fm.f) (iW P fn (fU P F Rt fs ats) (ak F fm.f) fm.K)) (fun _=>True) ((am (nth (ak F fm.f) fm.i)).size-D.length) (mkL (am (nth (ak F fm.f) fm.i)).size D) (a.put o.dst v) w')
 |_,_=>Rt
section
variable {Z:Nat→Prop} {w0:World} {n:Nat} {L L':SL} {H H':List Item} {G G':List Value} {w w':World} {a:Act} {F:FT} {P:Program} {T:TT}
theorem fR{R:Type}{ops:Array Oper}{o:Oper}{yes no:SL→Option R}{r:R}(hf:FR Z n L H G w a)(h:db ops L o yes no=some r):
  (∃L',yes L'=some r∧FR Z n L' H G w a∧Region.wanted o (yielded ops a.tmps)=true)∨(∃L',no L'=some r∧FR Z n L' H G w a∧Region.wanted o (yielded ops a.tmps)=false):=by
 unfold db at h;split at h
 ·grind [Region.wanted]
 ·rename_i j want hg;split at h<;>try (cases h;done)
  rename_i d hd;split at h<;>try (cases h;done)
  ·rename_i b hb;obtain⟨v,h1,h2⟩:=hf.slot d _ hb;have hv:=sY h2;subst hv;have hy:∀b':Bool,b=b'→FR Z n ((d,.d .bool b')::nA L d) H G w a:=fun b' e=>by subst e;exact hf.say h1 h2
   have hw:Region.wanted o (yielded ops a.tmps)=(b==want):=by
    simp only[Region.wanted,hg,yielded,hd,Option.bind_some,h1];cases b<;>cases want<;>rfl
   grind
  ·rename_i hb;obtain⟨v,h1,h2⟩:=hf.slot d _ hb;have h2:v=undef:=h2;subst h2;refine .inr ⟨L,h,hf,?_⟩;simp only[Region.wanted,hg,yielded,hd,Option.bind_some,h1];rfl
theorem Ua{fn:Func}{R:Ending→World→Prop}{B:Code}{K:List KI}{i k:Nat}(hk:(am (nth B i))[k]?=none)(h:iL P fn R B K .normal a w):AtR P fn R B K i k a w:=by simp_all [qB]
theorem Wy{fn:Func}{R:Ending→World→Prop}{B:Code}{K:List KI}{i k:Nat}{o:Oper}(hk:(am (nth B i))[k]?=some o)(hw:Region.wanted o (yielded (am (nth B i)) a.tmps)=true)
  (h:o.upon P a (fun a' w'=>AtR P fn R B K i (k+1) a' w') (iL P fn R B K) ((execOp a.eval o).run P w)):AtR P fn R B K i k a w:=by
 unfold AtR
 have:(am (nth B i)).toList.drop k=o::(am (nth B i)).toList.drop (k+1):=by
  grind [ant]
 rw[this];unfold wpList;rw[anB hw];exact .inl h
theorem abu{fn:Func}{R:Ending→World→Prop}{B:Code}{K:List KI}{i k:Nat}{o:Oper}(hk:(am (nth B i))[k]?=some o)(hw:Region.wanted o (yielded (am (nth B i)) a.tmps)=false)
  (h:AtR P fn R B K i (k+1) (a.put o.dst undef) w):AtR P fn R B K i k a w:=by
 unfold AtR
 have:(am (nth B i)).toList.drop k=o::(am (nth B i)).toList.drop (k+1):=by
  grind [ant]
 rw[this];unfold wpList;rwa [anr (by rw[hw];simp)]
theorem NW(hT:fh P T=true)(hr:SR Z w0 H G w)(hf:FR Z n L H G w a):∀{rs:List ResultVar} {ss:List SV},Ex T H L rs=some ss→∃vs,ct (Rel G (Av Z H G) w) ss vs∧
  ((rs.mapM (m:=Sem) fun
   |.tmp t=>pure (a.tmps.getD t undef)
   |.cell ad t=>do loadVar t (←asAddr (a.tmps.getD ad undef))).run P w)=.ok vs w:=by
 intro rs;induction rs with
 |nil=>intro ss h;simp only[Ex,anf]at h;subst h;exact⟨[],trivial,rfl⟩
 |cons q rs ih=>
  intro ss h;rw[List.mapM_cons];cases q with
  |tmp t=>
   simp only[Ex]at h;split at h<;>try (cases h;done)
   rename_i s l h1 h2;injection h with h;subst h;obtain⟨vs,g1,g2⟩:=ih h2;obtain⟨v,k1,k2⟩:=hf.slot t s h1;refine⟨v::vs,⟨k2,g1⟩,?_⟩;simp only[an7,aos,anw,aok,k1,Option.getD_some]at g2 ⊢;rw[g2];rfl
  |cell ad t=>
   simp only[Ex]at h;split at h<;>try (cases h;done)
   rename_i j off i l h1 hi h2;split at h<;>try (cases h;done)
   rename_i bt cells hj;split at h<;>try (cases h;done)
   rename_i s hl;injection h with h;subst h;obtain⟨vs,g1,g2⟩:=ih h2;obtain⟨p,k1,k2⟩:=hf.slot ad _ h1;obtain⟨v,e1,e2⟩:=Di (rw:=true) hr (aP hT hi) k2 hj hl;obtain⟨b,hb,rfl⟩:=k2;refine⟨v::vs,⟨eP e1,g1⟩,?_⟩;have e3:=e2 w Agr.refl;simp only[Instr.loadAt,Instr.sureAddr,an7,aos,anw]at e3;simp only[an7,aos,anw,aok,k1,Option.getD_some,asAddr,e3]at g2 ⊢;rw[g2];rfl
theorem Qc{fn:Func}{R:Ending→World→Prop}(hT:fh P T=true)(hr:SR Z w0 H G w)(hf:FR Z n L H G w a){ss:List SV}(h:Ex T H L fn.results.toList=some ss)(hR:∀vs,ct (Rel G (Av Z H G) w) ss vs→R (.returned (mn vs)) w):bodyPost P fn R .ret a w:=by
 obtain⟨vs,g1,g2⟩:=NW (P:=P) hT hr hf h;refine⟨hf.defers,mn vs,?_,hR vs g1⟩;unfold Go.results;generalize hrs:fn.results=rs at*
 obtain⟨l⟩:=rs;simp only[List.mapM_toArray,bind_map_left];simp only[an7];refine(congrArg (fun r:Result (List Value)=>r.andThen fun(a:List Value) w'=>Sem.run P (pure (if h:a.toArray.size=1 then a.toArray[0]else Value.tuple a.toArray)) w') g2).trans ?_;match vs with
 |[]=>rfl
 |[x]=>rfl
 |x::y::r=>simp[mn]
theorem OQ{ss:List SV}{vs:List Value}(hn:∀s∈ss,∀l,s≠.tup l)(h:ct (Rel G (Av Z H G) w) ss vs):Rel G (Av Z H G) w (ah4 ss) (mn vs):=by
 have h1:ct (Rel1 G (Av Z H G) w) ss vs:=by
  induction ss generalizing vs with
  |nil=>cases vs<;>exact h
  |cons s ss ih=>
   match vs,h with
   |v::vs,⟨q1,q2⟩=>exact⟨nh q1 (hn s (by simp)),ih (fun s hs=>hn s (by simp[hs])) q2⟩
 match ss,vs,h,h1 with
 |[],[],_,_=>exact⟨[],rfl,trivial⟩
 |[s],[v],⟨q1,_⟩,_=>exact q1
 |s::s'::ss,v::v'::vs,_,h1=>exact⟨v::v'::vs,rfl,h1⟩
theorem EQ{A:Nat→Prop}:∀{l:List SV} {r:List RV} {vs:List Value},CD.outL l=some r→ct (Rel1 [] A w) l vs→rvS r=some l∧(∀q∈r,∃t x,q=.d t x)
 |[],r,vs,h,_=>by simp only[CD.outL,anf]at h;subst h;exact⟨rfl,by simp⟩
 |s::l,r,vs,h,ha=>by
  unfold CD.outL at h;split at h
  ·rename_i e;cases e
  ·rename_i t x l' e;injection e with e1 e2;subst e1 e2;split at h<;>try (cases h;done)
   rename_i r' hr';injection h with h;subst h;match vs,ha with
   |v::vs,⟨_,h2⟩=>
    obtain⟨g1,g2⟩:=EQ hr' h2;exact⟨by simp[rvS,g1],fun q hq=>by rcases ann.1 hq with rfl|hq;exact⟨t,x,rfl⟩;exact g2 q hq⟩
  ·cases h
theorem acE(_hT:fh P T=true)(hr:SR Z w0 H G w){ss:List SV}{tys:List Nat}{r:List RV}{vs:List Value}(h:CD T H ss tys=some r)(ha:ct (Rel G (Av Z H G) w) ss vs):xm Z w0.heap.size w r (mn vs):=by
 unfold CD at h;split at h
 ·rename_i j;split at h<;>try (cases h;done)
  rename_i et e xs hj;injection h with h;subst h;match vs,ha with
  |[v],⟨hv,_⟩=>
   obtain⟨css,k1,k2,k3⟩:=hr.items j _ _ hj hv;refine⟨css,k1,bR (fun l y h=>Ty.rd_keep ⟨anb _,fun b _ hA=>⟨hA.1,hA.2 j _ _ hj rfl hv⟩,fun _ _ _=>rfl⟩ h) k2,k3⟩
 ·split at h<;>try (cases h;done)
  split at h<;>try (cases h;done)
  split at h<;>try (cases h;done)
  split at h<;>try (cases h;done)
  rename_i hb;injection h with h;subst h;match vs,ha with
  |[v],⟨hv,_⟩=>
   have hv:v=.slice none 0 0:=hv;subst hv;exact⟨[],World.ownsRow_nil _ _ _ _,trivial,anc hb⟩
 ·split at h<;>try (cases h;done)
  rename_i l hl;have h1:ct (Rel1 [] Z w) l vs:=pK (ss0:=ss) hr (fun _ _ h=>h.1) (.inl fun j g b hg hb ⟨_,_,_,hj⟩=>hr.zf b ((hr.items j _ g hj hg).blk rfl hb).1) (fun s hs=>hs) hl ha;obtain⟨g1,g2⟩:=EQ h h1;match r,g1,g2 with
  |[],g1,_=>
   simp only[rvS,anf]at g1;subst g1;match vs,h1 with
   |[],_=>exact⟨[],rfl,[],rfl,trivial⟩
  |[.d t x],g1,_=>
   simp only[rvS,anf]at g1;subst g1;match vs,h1 with
   |[v],⟨q,_⟩=>exact q
  |[.new et e xs],_,g2=>obtain⟨t,x,he⟩:=g2 (.new et e xs) (by simp);cases he
  |q::q'::r,g1,_=>
   have hlen:vs.length=(q::q'::r).length:=by
    rw[←fd h1]
    have:∀(r:List RV) (l:List SV),rvS r=some l→l.length=r.length:=by
     intro r;induction r with
     |nil=>intro l h;simp only[rvS,anf]at h;subst h;rfl
     |cons q r ih=>
      intro l h;cases q<;>simp only[rvS]at h<;>split at h<;>first|(cases h;done)|(injection h with h;subst h;simp[ih _ (by assumption)])
    exact this _ _ g1
   match vs,hlen,h1 with
   |v::v'::vs,_,h1=>cases q<;>exact⟨v::v'::vs,rfl,l,g1,h1⟩
end
end
section
theorem qn{Z:Nat→Prop}{H:List Item}{G:List Value}{w:World}{a:Act}:∀{ss:List SV} {vs:List Value} {k:Nat},ct (Rel G (Av Z H G) w) ss vs→(∀t v,look (EF k vs) t=some v→a.tmps[t]?=some v)→∀t s,aN (yi k ss) t=some s→∃v,a.tmps[t]?=some v∧Rel G (Av Z H G) w s v
 |[],[],k,_,_,t,s,h=>by simp[yi,aN]at h
 |s0::ss,v0::vs,k,⟨h1,h2⟩,ha,t,s,h=>by
  rcases gW h with⟨rfl,rfl⟩|⟨hne,h3⟩
  ·exact⟨v0,ha t v0 (by simp[EF,look]),h1⟩
  ·refine qn h2 (fun u x hx=>ha u x ?_) t s h3;simp only[EF,look];split
   ·rename_i hb;have e:k=u:=ana hb;have:=(zC vs (k+1) u x hx).1;omega
   ·exact hx
def AtG(P:Program)(fn:Func)(R:Ending→World→Prop)(B:Code)(K:List KI)(i:Nat)(S0:World→Prop)(m:Nat)(D:List Nat)(a:Act)(w:World):Prop:=
 wpG P (am (nth B i)) (iL P fn R B K) S0 m (mkL (am (nth B i)).size D) a w
def lk(P:Program)(F:FT)(Rt:Ending→World→Prop)(c:Cfg)(fn:Func)(G:List Value)(w:World)(a:Act)(ats:List Act):Pos→Prop
 |.nrm=>iL P fn (fU P F Rt c.fs ats) (ak F c.f) (iW P fn (fU P F Rt c.fs ats) (ak F c.f) c.K) .normal a w
 |.node i=>At P fn (fU P F Rt c.fs ats) (ak F c.f) (iW P fn (fU P F Rt c.fs ats) (ak F c.f) c.K) i a w
 |.ops i k=>AtR P fn (fU P F Rt c.fs ats) (ak F c.f) (iW P fn (fU P F Rt c.fs ats) (ak F c.f) c.K) i k a w
 |.ret=>bodyPost P fn (fU P F Rt c.fs ats) .ret a w
 |.tam i D=>D=[]→Region.noSelect (am (nth (ak F c.f) i))=true→AtG P fn (fU P F Rt c.fs ats) (ak F c.f) (iW P fn (fU P F Rt c.fs ats) (ak F c.f) c.K) i (fun _=>True) (am (nth (ak F c.f) i)).size [] a w
 |.tbx i D=>D=[]→Region.noSelect (am (nth (ak F c.f) i))=true→AtG P fn (fU P F Rt c.fs ats) (ak F c.f) (iW P fn (fU P F Rt c.fs ats) (ak F c.f) c.K) i (fun _=>True) (am (nth (ak F c.f) i)).size [] a w
 |.tal i D=>∀S0:World→Prop,(∀w w',S0 w→(w.heap.size≤w'.heap.size∧∀b,b<w.heap.size→w'.heap[b]?=w.heap[b]?)→S0 w')→(storeDone (am (nth (ak F c.f) i)) (mkL (am (nth (ak F c.f) i)).size D)∨S0 w)→Clo (am (nth (ak F c.f) i)) (mkL (am (nth (ak F c.f) i)).size D)→Region.noSelect (am (nth (ak F c.f) i))=true→∀m',m'+D.length=(am (nth (ak F c.f) i)).size→AtG P fn (fU P F Rt c.fs ats) (ak F c.f) (iW P fn (fU P F Rt c.fs ats) (ak F c.f) c.K) i S0 m' D a w
 |.drw i rw eff D=>∀Hs Gs ws,((storeDone (am (nth (ak F c.f) i)) (mkL (am (nth (ak F c.f) i)).size D)∧eff=true)∨(Agr rw Hs Gs ws w∧(∀b,b<ws.heap.size→jF c.H G b→jF Hs Gs b)∧(eff=false→c.H=Hs∧G=Gs∧w=ws)∧¬storeDone (am (nth (ak F c.f) i)) (mkL (am (nth (ak F c.f) i)).size D)))→Clo (am (nth (ak F c.f) i)) (mkL (am (nth (ak F c.f) i)).size D)→Region.noSelect (am (nth (ak F c.f) i))=true→
   ∀m',m'+D.length=(am (nth (ak F c.f) i)).size→AtG P fn (fU P F Rt c.fs ats) (ak F c.f) (iW P fn (fU P F Rt c.fs ats) (ak F c.f) c.K) i (Agr rw Hs Gs ws) m' D a w
section
variable {Z:Nat→Prop} {w0:World} {F:FT} {P:Program} {T:TT} {E:Env} {N:NT} {Fin:Nat→Cfg→Option (List RV)} {Rt:Ending→World→Prop} {r:List RV}
theorem v8{fn:Func}{R:Ending→World→Prop}{B:Code}{id:Nat}:∀{K K':List KJ},DY id K=some K'→xL id (iW P fn R B K)=some (iW P fn R B K')
 |[],K',h=>by simp[DY]at h
 |.blk j::K,K',h=>by
  simp only[DY]at h;simp only[iW,xL];split at h
  ·rename_i hb;rw[hb];injection h with h;rw[h]
  ·rename_i hb;rw[hb];exact v8 h
 |.seq _::K,K',h=>by simp only[DY]at h;simp only[iW,xL];exact v8 h
 |.lp _::K,K',h=>by simp only[DY]at h;simp only[iW,xL];exact v8 h
theorem IG {L : SL} {H : List Item} {G : List Value} {w : World} {a : Act} {n g : Nat} {ss : List SV} {o : Op} (hf : FR Z n L H G w a) (h : Kd F E L o = some (g, ss)) : ∃ f args tys fn caps, o = .call ⟨.value f, args, tys⟩ ∧ gn F g = some fn ∧ a.eval f = .func (.func g) #[] caps ∧ ct (Rel G (Av Z H G) w) ss (args.map a.eval ++ caps).toList ∧ ss.length ≤ fn.ntmps ∧ (!(fn.name == "runtime.NumGoroutine")) = true ∧ fn.body.isSome = true := by
 unfold Kd at h;split at h<;>try (cases h;done)
 rename_i f args tys;split at h<;>try (cases h;done)
 rename_i g' caps hs;split at h<;>try (cases h;done)
 split at h<;>try (cases h;done)
 rename_i fn ss' hfn hss;split at h<;>try (cases h;done)
 rename_i hb;obtain⟨rfl,rfl⟩:=h;simp only[am9]at hb;obtain⟨bs,hbs,hfv⟩:=aM hf hs;refine⟨f,args,tys,fn,_,rfl,hfn,hfv,?_,by simp;exact anc hb.1,hb.2.1,hb.2.2⟩;have h1:=m4 hf hss
 have h2:ct (Rel G (Av Z H G) w) (caps.map fun j=>.box j 0) (bs.map fun b=>Value.pointer (some ⟨b,0,none⟩)):=by
  clear hs hfv;induction caps generalizing bs with
  |nil=>cases bs<;>exact hbs
  |cons c caps ih=>
   match bs,hbs with
   |b::bs,⟨q1,q2⟩=>exact⟨⟨b,q1,rfl⟩,ih (by
    simp only[anp]at hb;exact⟨anz (by have:=anc hb.1;omega),hb.2⟩) bs q2⟩
 simp_all [eO]
theorem DC{ops:Array Oper}{eff:Bool}{D:List Nat}:∀{rs:List Nat} {j:Nat},C4 ops eff D rs=some j→j∈rs∧∃o,ops[j]?=some o∧isQ o.op=true∧(nK o.op=true→eff=false∧wh ops j=true)∧o.dst.isSome=true∧Region.free .any ops (mkL ops.size D) j=true
 |[],j,h=>by simp[C4]at h
 |q::rs,j,h=>by
  simp only[C4]at h;split at h<;>try (cases h;done)
  rename_i o ho;split at h
  ·rename_i hb;injection h with h;subst h;simp only[am9,aoJ,Bool.and_eq_false_iff,apU,Bool.not_eq_false']at hb;obtain⟨⟨⟨b1,b2⟩,b3⟩,b4⟩:=hb;exact⟨by simp,o,ho,b1,fun hl=>by rcases b2 with b2|b2;rw[hl]at b2;cases b2;exact b2,b3,b4⟩
  ·obtain⟨h1,h2⟩:=DC h;exact⟨by simp[h1],h2⟩
end
end
abbrev dn(l:Array Bool):Nat→Bool:=fun k=>l.getD k true
theorem jK(l:Array Bool)(j k:Nat):dn (l.setIfInBounds j true) k=if k=j then true else dn l k:=by
 by_cases h:k=j
 ·simp_all
 simp_all [aoL]
theorem eF{d:Nat}{s:SV}{L:SL}{t:Nat}:aN ((d,s)::nA L d) t=if t=d then some s else aN L t:=by grind [aN,apE,ana]
theorem yM:∀{l cs:List SV} {off:Nat},(oC cs off l).length=cs.length
 |[],_,_=>rfl
 |_::r,_,_=>by simp[oC,yM (l:=r)]
theorem Es:∀(l cs:List SV) (off i:Nat),(oC cs off l)[i]?=if off≤i∧i<off+l.length∧i<cs.length then l[i-off]? else cs[i]?
 |[],cs,off,i=>by rw[anr (by simp;omega)];rfl
 |s::r,cs,off,i=>by
  rw[oC,Es r (cs.set off s) (off+1) i,ap7,anp];by_cases h1:i=off
  ·subst h1;rw[anr (by omega)];by_cases h2:i<cs.length
   ·rw[anB (by omega),apB,aoH h2];rfl
   ·rw[anr (by omega),aov (by simp;omega),aov (by omega)]
  ·by_cases h2:off+1≤i∧i<off+1+r.length∧i<cs.length
   ·rw[anB h2,anB (by omega),show i-off=(i-(off+1))+1 by omega,anH]
   ·rw[anr h2,anr (by omega),aoD (aoL h1)]
theorem KZ{l l' cs:List SV}{off off':Nat}(h:off+l.length≤off'∨off'+l'.length≤off):oC (oC cs off l) off' l'=oC (oC cs off' l') off l:=by
 refine aoI fun i=>?_;grind [Es,yM]
theorem Dy{x:SV}:∀{l cs:List SV} {off:Nat},x∈oC cs off l→x∈cs∨x∈l
 |[],_,_,h=>.inl h
 |s::r,cs,off,h=>by
  rcases Dy (l:=r) h with h1|h1
  ·rcases List.mem_or_eq_of_mem_set h1 with h2|h2
   ·exact .inl h2
   ·subst h2;exact .inr (by simp)
  ·exact .inr (by simp[h1])
def ovI(s:AlS):Item→Item
 |.box bt cells=>.box bt (oC cells s.off s.l)
 |it=>it
theorem nI(s:AlS)(H:List Item)(k:Nat):(stP s H)[k]?=if k=s.j then H[k]?.map (ovI s)else H[k]?:=by
 unfold stP;split
 ·rename_i bt cells hb;by_cases h:k=s.j
  ·subst h;rw[anB rfl,hb,aoH (ang.1 hb).1];rfl
  grind
 ·rename_i hb;by_cases h:k=s.j
  ·subst h;rw[anB rfl];cases hh:H[s.j]? with
   |none=>rfl
   |some it=>
    cases it with
    |box bt cells=>exact absurd hh (hb bt cells)
    |row=>rfl
    |gone=>rfl
  ·rw[anr h]
theorem If(s:AlS)(H:List Item):(stP s H).length=H.length:=by grind [stP]
theorem Wv{s:AlS}{H:List Item}{k:Nat}{it:Item}(h:s.j≠k):stP s (H.set k it)=(stP s H).set k it:=by
 refine aoI fun i=>?_;grind [nI,If]
theorem vh{s p:AlS}(h:G5 s p=true):s.i≠p.i∧(s.j≠p.j∨s.off+s.l.length≤p.off∨p.off+p.l.length≤s.off):=by
 simp only[G5,am9,aph]at h;obtain⟨h1,h2⟩:=h;refine⟨fun e=>(by rw[e,apE]at h1;cases h1),?_⟩;rcases h2 with(h2|h2)|h2
 ·grind [apE]
 ·simp_all
 simp_all
theorem Q2{s p:AlS}(h:G5 s p=true)(H:List Item):stP s (stP p H)=stP p (stP s H):=by
 obtain⟨_,h⟩:=vh h;refine aoI fun k=>?_;rw[nI,nI,nI,nI];by_cases h1:k=s.j
 ·subst h1;rw[anB rfl];by_cases h2:s.j=p.j
  ·rw[anB h2,anB h2,anB rfl];cases hh:H[s.j]? with
   |none=>rfl
   |some it=>
    cases it with
    |box bt cells=>
     simp only[aod,ovI];rw[KZ (by rcases h with h|h|h;exact absurd h2 h;exact .inr h;exact .inl h)]
    |row=>rfl
    |gone=>rfl
  ·rw[anr h2,anr h2,anB rfl]
 grind
theorem sK{f:Nat→Bool}{H:List Item}:∀{ss:List AlS},(cJ f ss H).length=H.length
 |[]=>rfl
 |s::r=>by
  simp only[cJ];split
  ·rw[If];exact sK
  ·exact sK
theorem yJ{f:Nat→Bool}{H:List Item}{k:Nat}{it:Item}:∀{ss:List AlS},(∀s∈ss,f s.i=true→s.j≠k)→cJ f ss (H.set k it)=(cJ f ss H).set k it
 |[],_=>rfl
 |s::r,h=>by
  have ih:=yJ (f:=f) (H:=H) (k:=k) (it:=it) (ss:=r) fun s hs=>h s (by simp[hs]);simp only[cJ];split
  ·rename_i h1;rw[ih,Wv (h s (by simp) h1)]
  ·exact ih
theorem kR{f g:Nat→Bool}{H:List Item}:∀{ss:List AlS},(∀s∈ss,f s.i=g s.i)→cJ f ss H=cJ g ss H
 |[],_=>rfl
 |s::r,h=>by
  simp only[cJ];rw[h s (by simp),kR (ss:=r) fun s hs=>h s (by simp[hs])]
theorem qQ{f:Nat→Bool}{H:List Item}:∀{ss:List AlS},(∀s∈ss,f s.i=false)→cJ f ss H=H
 |[],_=>rfl
 |s::r,h=>by
  simp only[cJ];rw[h s (by simp)];exact qQ (ss:=r) fun s hs=>h s (by simp[hs])
theorem Jo{f g:Nat→Bool}{H:List Item}{s:AlS}(hg:∀k,g k=if k=s.i then true else f k)(hf:f s.i=false):∀{ss:List AlS},ss.Pairwise (fun s p=>G5 s p=true)→s∈ss→cJ g ss H=stP s (cJ f ss H)
 |[],_,hs=>by cases hs
 |p::r,hp,hs=>by
  obtain⟨h1,h2⟩:=anK.1 hp;simp only[cJ];rcases ann.1 hs with e|hs
  ·subst e;rw[hg s.i,anB rfl,hf];dsimp only;rw[kR (f:=g) (g:=f) (ss:=r) fun q hq=>by rw[hg,anr (aoL (vh (h1 q hq)).1)]]
  ·have hne:=(vh (h1 s hs)).1;have ih:=Jo (H:=H) hg hf h2 hs;rw[hg p.i,anr hne,ih];split
   ·exact Q2 (h1 s hs) _
   ·rfl
theorem EL{f:Nat→Bool}{H:List Item}{k bt:Nat}{cells:List SV}(h:H[k]?=some (.box bt cells)):∀{ss:List AlS},∃cells',(cJ f ss H)[k]?=some (.box bt cells')∧cells'.length=cells.length
 |[]=>⟨cells,h,rfl⟩
 |s::r=>by
  obtain⟨c',h1,h2⟩:=EL (f:=f) h (ss:=r);simp only[cJ];split
  ·rw[nI,h1];split
   ·exact⟨_,rfl,by rw[yM,h2]⟩
   ·exact⟨c',rfl,h2⟩
  ·exact⟨c',h1,h2⟩
def mM(h0:Nat)(H:List Item):Prop:=∀(k:Nat) (t:TypeId) (cs:List SV),H[k]?=some (.box t cs)→∀s∈cs,s.refs h0=true
theorem D4{h0:Nat}{f:Nat→Bool}{H:List Item}(hH:mM h0 H):∀{ss:List AlS},(∀s∈ss,∀x∈s.l,x.refs h0=true)→mM h0 (cJ f ss H)
 |[],_=>hH
 |s::r,h=>by
  have ih:=D4 (f:=f) hH (ss:=r) fun s hs=>h s (by simp[hs]);simp only[cJ];split
  ·intro k t cs hk x hx;rw[nI]at hk;split at hk
   ·cases hh:(cJ f r H)[k]? with
    |none=>rw[hh]at hk;cases hk
    |some it=>
     rw[hh]at hk;cases it with
     |box bt cells=>
      simp only[aod,ovI,anf,Item.box.injEq]at hk;obtain⟨rfl,rfl⟩:=hk;rcases Dy hx with h1|h1
      ·exact ih k _ _ hh x h1
      ·exact h s (by simp) x h1
     |row=>simp[ovI]at hk
     |gone=>simp[ovI]at hk
   ·exact ih k t cs hk x hx
  ·exact ih
theorem uh(f:Nat→Bool)(la:List AlA)(r:Nat):(alX f la)[r]?=la[r]?.map fun a=>match f a.i with
  |true=>.box a.t a.cs
  |false=>.gone:=by grind [alX]
abbrev Dis(la:List AlA):Prop:=la.Pairwise fun a b=>a.i≠b.i∧a.d≠b.d
theorem SP{la:List AlA}(h:Dis la){r k:Nat}{a b:AlA}(ha:la[r]?=some a)(hb:la[k]?=some b)(hne:k≠r):b.i≠a.i∧b.d≠a.d:=by grind [List.pairwise_iff_getElem]
theorem aey{f g:Nat→Bool}{la:List AlA}{r:Nat}{a:AlA}(hd:Dis la)(ha:la[r]?=some a)(hg:∀k,g k=if k=a.i then true else f k):alX g la=(alX f la).set r (.box a.t a.cs):=by
 refine aoI fun k=>?_;rw[anV,uh];by_cases h:r=k
 ·grind [alX,aoO,ang,aod]
 ·rw[anr h,uh];cases hk:la[k]? with
  |none=>rfl
  |some b=>
   simp only[aod];rw[hg,anr (SP hd ha hk (aoL h)).1]
theorem Hl{f g:Nat→Bool}{la:List AlA}{r:Nat}{a:AlA}{H0:List Item}(hd:Dis la)(ha:la[r]?=some a)(hg:∀k,g k=if k=a.i then true else f k):H0++alX g la=(H0++alX f la).set (H0.length+r) (.box a.t a.cs):=by
 rw[aey hd ha hg,List.set_append,anr (by omega),show H0.length+r-H0.length=r by omega]
theorem UJ{h0:Nat}{f:Nat→Bool}{la:List AlA}{H0:List Item}(hH:mM h0 H0)(hla:∀a∈la,∀x∈a.cs,x.refs h0=true):mM h0 (H0++alX f la):=by
 intro k t cs hk x hx;rcases anG k H0.length with h|h
 ·rw[anq h]at hk;exact hH k t cs hk x hx
 grind [uh]
theorem iX{f g:Nat→Bool}{t:Nat}:∀{la:List AlA} {k:Nat} {L M:SL},(∀a∈la,a.d=t→f a.i=g a.i)→aN L t=aN M t→aN (gi f la k L) t=aN (gi g la k M) t
 |[],_,_,_,_,h=>h
 |b::l,k,L,M,hl,h=>by
  simp only[gi];refine iX (fun a ha=>hl a (by simp[ha])) ?_;by_cases e:b.d=t
  ·rw[←hl b (by simp) e];split
   ·rw[eF,eF,anB e.symm,anB e.symm]
   ·exact h
  ·have e':t≠b.d:=fun h=>e h.symm;split<;>split<;>(try rw[eF,anr e'])<;>(try rw[eF,anr e'])<;>exact h
theorem D2{f:Nat→Bool}{t:Nat}:∀{la:List AlA} {k:Nat} {L:SL},(∀a∈la,a.d≠t)→aN (gi f la k L) t=aN L t
 |[],_,_,_=>rfl
 |b::l,k,L,h=>by
  simp only[gi];rw[D2 fun a ha=>h a (by simp[ha])];split
  ·rw[eF,anr (fun e=>h b (by simp) e.symm)]
  ·rfl
theorem Ci{f g:Nat→Bool}{a:AlA}(hg:∀k,g k=if k=a.i then true else f k):∀{la:List AlA} {r k:Nat} {L:SL},Dis la→la[r]?=some a→∀t,aN (gi g la k L) t=if t=a.d then some (.box (k+r) 0)else aN (gi f la k L) t
 |[],r,_,_,_,h,_=>by simp at h
 |b::l,0,k,L,hd,h,t=>by
  simp only[anY,anf]at h;subst h;obtain⟨h1,h2⟩:=anK.1 hd;simp only[gi];rw[hg b.i,anB rfl];dsimp only;by_cases e:t=b.d
  ·subst e;rw[anB rfl,D2 fun a ha=>aoL (h1 a ha).2,eF,anB rfl,ap0]
  ·rw[anr e];refine iX (fun a ha _=>by rw[hg,anr (aoL (h1 a ha).1)]) ?_;rw[eF,anr e];split
   ·rw[eF,anr e]
   ·rfl
 |b::l,r+1,k,L,hd,h,t=>by
  obtain⟨h1,h2⟩:=anK.1 hd;rw[anH]at h;simp only[gi];rw[hg b.i,anr (h1 a (an4 h)).1,Ci hg h2 h t,show k+1+r=k+(r+1) by omega]
theorem DW{f:Nat→Bool}{t:Nat}{s:SV}:∀{la:List AlA} {k:Nat} {L:SL},aN (gi f la k L) t=some s→(∃r a,la[r]?=some a∧t=a.d∧f a.i=true∧s=.box (k+r) 0)∨aN L t=some s
 |[],_,_,h=>.inr h
 |b::l,k,L,h=>by
  simp only[gi]at h;rcases DW h with⟨r,a,h1,h2,h3,h4⟩|h1
  ·exact .inl ⟨r+1,a,by rw[anH];exact h1,h2,h3,by rw[h4,show k+1+r=k+(r+1) by omega]⟩
  ·split at h1
   ·rename_i hb;rw[eF]at h1;split at h1
    ·rename_i e;injection h1 with h1;exact .inl ⟨0,b,rfl,e,hb,by rw[←h1,ap0]⟩
    ·exact .inr h1
   ·exact .inr h1
theorem po{T:TT}{N:Nat}:∀{lo:List Oper} {i0:Nat} {la:List AlA},alA T N lo i0=some la→
  (∀q o,lo[q]?=some o→a9 o=true→∃(r:Nat) (a:AlA),la[r]?=some a∧a.i=i0+q∧o.dst=some a.d∧a.d<N∧∃x,o.op=.alloc a.t∧dJ T a.t=some x∧x.z=true∧(∀p q,x.ty≠.pair p q)∧a.cs=x.ty.zsplit)∧
  (∀a∈la,i0≤a.i∧∃o,lo[a.i-i0]?=some o∧a9 o=true∧∃x,a.cs=Ty.zsplit x)∧Dis la
 |[],_,_,h=>by
  simp only[alA,anf]at h;subst h;exact⟨fun q o h=>(by simp at h),fun a h=>(by cases h),List.Pairwise.nil⟩
 |o::r,i,la,h=>by
  simp only[alA]at h
  have sub:∀{la:List AlA},(∀a∈la,i+1≤a.i∧∃o,r[a.i-(i+1)]?=some o∧a9 o=true∧∃x,a.cs=Ty.zsplit x)→∀a∈la,i≤a.i∧∃o',(o::r)[a.i-i]?=some o'∧a9 o'=true∧∃x,a.cs=Ty.zsplit x:=fun h a ha=>by
   obtain⟨h1,o',h2,h3⟩:=h a ha;exact⟨by omega,o',by rw[show a.i-i=(a.i-(i+1))+1 by omega,anH];exact h2,h3⟩
  split at h
  ·rename_i hal;obtain⟨h1,h2,h3⟩:=po h;refine⟨fun q o' hq ho=>?_,sub h2,h3⟩;cases q with
   |zero=>simp only[anY,anf]at hq;subst hq;rw[hal]at ho;cases ho
   |succ q=>
    rw[anH]at hq;obtain⟨r',a,k1,k2,k3⟩:=h1 q o' hq ho;exact⟨r',a,k1,by omega,k3⟩
  ·rename_i hal;split at h<;>try (cases h;done)
   rename_i t d hop hdst;split at h<;>try (cases h;done)
   rename_i x l hx hd hl;split at h<;>try (cases h;done)
   rename_i hz hne;split at h<;>try (cases h;done)
   rename_i hall;injection h with h;subst h;obtain⟨h1,h2,h3⟩:=po hl;refine⟨fun q o' hq ho=>?_,fun a ha=>?_,anK.2 ⟨fun b hb=>?_,h3⟩⟩
   ·cases q with
    |zero=>
     simp only[anY,anf]at hq;subst hq;exact⟨0,_,rfl,rfl,hdst,anc hd,x,hop,hx,hz,fun p q e=>hne _ _ e,rfl⟩
    |succ q=>
     rw[anH]at hq;obtain⟨r',a,k1,k2,k3⟩:=h1 q o' hq ho;exact⟨r'+1,a,by rw[anH];exact k1,by omega,k3⟩
   ·rcases ann.1 ha with e|ha
    ·subst e;exact⟨anb _,o,by simp,hal,x.ty,rfl⟩
    ·exact sub h2 a ha
   ·have:=ans.1 hall b hb;simp only[am9,aoJ]at this;exact⟨fun e=>(by have:=this.1;simp only at e;rw[e,apE]at this;cases this),fun e=>(by have:=this.2;simp only at e;rw[e,apE]at this;cases this)⟩
def VI(T:TT)(ops:Array Oper)(la:List AlA)(h0:Nat)(La:SL)(Ha:List Item)(s:AlS)(o:Oper):Prop:=
 ∃t x v sv y bt cells,o.op=.store t x v∧o.guard=none∧o.dst=none∧opS La x=some (.box s.j s.off)∧opS La v=some sv∧dJ T t=some y∧gj [] sv=some s.l∧Ha[s.j]?=some (.box bt cells)∧s.l.length=y.ty.n∧s.off+s.l.length≤cells.length∧
  (∀z∈s.l,z.refs h0=true)∧(∀a∈la,(Kx x a.d||Kx v a.d)=true→gZ ops 4 s.i a.i=true)∧Fh ops s.i s.j la h0=true
theorem mK{T:TT}{E:Env}{ops:Array Oper}{l:Array Bool}{la:List AlA}{h0:Nat}{La:SL}{Ha:List Item}:∀{lo:List Oper} {i0:Nat} {ss:List AlS},alS T E ops l la h0 La Ha lo i0=some ss→
  (∀q o,lo[q]?=some o→l.getD (i0+q) true=false→a9 o=false→fQ E o=false→∃s∈ss,s.i=i0+q)∧
  (∀s∈ss,i0≤s.i∧l.getD s.i true=false∧∃o,lo[s.i-i0]?=some o∧a9 o=false∧VI T ops la h0 La Ha s o)∧ss.Pairwise (fun s p=>G5 s p=true)
 |[],_,_,h=>by
  simp only[alS,anf]at h;subst h;exact⟨fun q o h=>(by simp at h),fun a h=>(by cases h),List.Pairwise.nil⟩
 |o::r,i,ss,h=>by
  simp only[alS]at h
  have sub:∀{ss:List AlS},(∀s∈ss,i+1≤s.i∧l.getD s.i true=false∧∃o,r[s.i-(i+1)]?=some o∧a9 o=false∧VI T ops la h0 La Ha s o)→∀s∈ss,i≤s.i∧l.getD s.i true=false∧∃o',(o::r)[s.i-i]?=some o'∧a9 o'=false∧VI T ops la h0 La Ha s o':=fun h a ha=>by
   obtain⟨h1,h1',o',h2,h3⟩:=h a ha;exact⟨by omega,h1',o',by rw[show a.i-i=(a.i-(i+1))+1 by omega,anH];exact h2,h3⟩
  split at h
  ·rename_i hal;obtain⟨h1,h2,h3⟩:=mK h;refine⟨fun q o' hq hu ho ht=>?_,sub h2,h3⟩;cases q with
   |zero=>
    simp only[anY,anf]at hq;subst hq;rw[show i+0=i from rfl]at hu;rw[hu,ho,ht]at hal;cases hal
   |succ q=>
    rw[anH]at hq;obtain⟨s,k1,k2⟩:=h1 q o' hq (by rw[show i+1+q=i+(q+1) by omega];exact hu) ho ht;exact⟨s,k1,by omega⟩
  ·rename_i hal;simp only[apU]at hal;split at h<;>try (cases h;done)
   rename_i t x v hop;split at h<;>try (cases h;done)
   rename_i j off sv y hg hdst hx hv hy;split at h<;>try (cases h;done)
   rename_i cs bt cells ss' hcs hH hss;split at h<;>try (cases h;done)
   rename_i hall;injection h with h;subst h;simp only[am9]at hall;obtain⟨⟨⟨⟨⟨c1,c2⟩,c3⟩,c4⟩,c5⟩,c6⟩:=hall;obtain⟨h1,h2,h3⟩:=mK hss;refine⟨fun q o' hq hu ho ht=>?_,fun s hs=>?_,anK.2 ⟨fun p hp=>ans.1 c6 p hp,h3⟩⟩
   ·cases q with
    |zero=>exact⟨_,List.mem_cons_self ..,rfl⟩
    |succ q=>
     rw[anH]at hq;obtain⟨s,k1,k2⟩:=h1 q o' hq (by rw[show i+1+q=i+(q+1) by omega];exact hu) ho ht;exact⟨s,by simp[k1],by omega⟩
   ·rcases ann.1 hs with e|hs
    ·subst e
     exact⟨anb _,hal.1.1,o,by simp,hal.1.2,t,x,v,sv,y,bt,cells,hop,hg,hdst,hx,hv,hy,hcs,hH,ana c1,anc c2,ans.1 c3,fun a ha hw=>by
      have:=ans.1 c4 a ha;rw[hw]at this;simpa using this,c5⟩
    ·exact sub h2 s hs
theorem BB{ops:Array Oper}{i j:Nat}:∀{la:List AlA} {k r:Nat} {a:AlA},Fh ops i j la k=true→la[r]?=some a→j=k+r→gZ ops 4 i a.i=true
 |[],_,_,_,_,h,_=>by simp at h
 |b::l,k,0,a,h,ha,hj=>by
  simp only[anY,anf]at ha;subst ha;simp only[Fh,am9,aph,aoJ]at h;rcases h.1 with h1|h1
  ·rw[hj,ap0,apE]at h1;cases h1
  ·exact h1
 |b::l,k,r+1,a,h,ha,hj=>by
  rw[anH]at ha;simp only[Fh,am9]at h;exact BB h.2 ha (by omega)
theorem kb{l:Array Bool}{k:Nat}(h:k<l.size):l.getD k false=l.getD k true:=by simp[h]
theorem w7{ops:Array Oper}{l':Array Bool}(hs:l'.size=ops.size):∀{C:List Nat} {l:Array Bool},GP ops l C=true→(∀k,l.getD k false=true→l'.getD k false=true)→(∃i∈C,l'.getD i true=false)→Region.ready .any ops l'≠[]
 |[],_,_,_,⟨_,h,_⟩=>by cases h
 |i::r,l,h,hsub,⟨k,hk,hu⟩=>by
  simp only[GP,am9]at h;obtain⟨h1,h2⟩:=h;split at h1<;>try (cases h1;done)
  rename_i o ho;have hlt:i<l'.size:=by rw[hs];exact(anm.1 ho).1
  cases hi:l'.getD i true with
  |false=>
   intro hr
   have:i∈Region.ready .any ops l':=aof.2 ⟨hi,o,ho,fun e he hb=>by
    have:=ans.1 h1 e (Array.mem_toList_iff.2 he);rw[hb]at this;exact hsub _ (by simpa using this)⟩
   rw[hr]at this;cases this
  |true=>
   refine w7 hs h2 (fun q hq=>?_) ⟨k,(ann.1 hk).resolve_left fun e=>(by subst e;rw[hi]at hu;cases hu),hu⟩;by_cases e:i=q
   ·subst e;rw[kb hlt];exact hi
   ·rw[apD false e]at hq;exact hsub q hq
def cu(l:Array Bool):Nat:=l.toList.countP fun b=>!b
theorem Af:∀(l:List Bool) (j:Nat),l[j]?=some false→(l.set j true).countP (fun b=>!b)+1=l.countP (fun b=>!b)
 |[],_,h=>by simp at h
 |b::l,0,h=>by
  simp only[anY,anf]at h;subst h;simp
 |b::l,j+1,h=>by
  rw[anH]at h;have:=Af l j h;rw[List.set_cons_succ];cases b<;>simp<;>omega
theorem zj{l:Array Bool}{j:Nat}(h:l.getD j true=false):cu (l.setIfInBounds j true)+1=cu l:=by
 unfold cu;rw[Array.toList_setIfInBounds];refine Af _ _ ?_;rcases anG j l.size with hlt|hge<;>simp_all
theorem Vt{l:Array Bool}(h:cu l=0)(k:Nat):l.getD k true=true:=by
 rcases anG k l.size with hlt|hge
 ·have:=List.countP_eq_zero.1 h l[k] (by simp);simp_all
 grind
theorem GB(n:Nat):cu (mkL n [])=n:=by simp[cu,mkL,List.countP_replicate]
section
def Old(w w':World):Prop:=w.heap.size≤w'.heap.size∧∀b,b<w.heap.size→w'.heap[b]?=w.heap[b]?
theorem Old.refl(w:World):Old w w:=⟨anb _,fun _ _=>rfl⟩
theorem Da{G G':List Value}{A A':Nat→Prop}{w w':World}{h0:Nat}(hk:Keeps A A' w w'){s:SV}{v:Value}(h:Rel1 G A w s v)(hs:s.refs h0=true)(hG:∀j g,j<h0→G[j]?=some g→G'[j]?=some g):Rel1 G' A' w' s v:=by
 have lt:∀{j:Nat},Nat.ble (j+1) h0=true→j<h0:=fun h=>anc h;cases s with
 |d t x=>obtain⟨cs,h1,h2⟩:=h;exact⟨cs,Ty.rd_keep hk h1,h2⟩
 |nil=>exact h
 |box j off=>obtain⟨b,h1,h2⟩:=h;exact⟨b,hG j _ (lt hs) h1,h2⟩
 |elt e x off=>
  obtain⟨b,o,cs,h1,h2,h3,h4,h5⟩:=h;exact⟨b,o,cs,h1,hk.sub b h3 h2,aoS h3 hk.size,Ty.rd_keep hk h4,hk.cells h3 h2 h5⟩
 |own j=>exact hG j v (lt hs) h
 |oelt j sz i off=>obtain⟨b,n,c,h1,h2⟩:=h;exact⟨b,n,c,hG j _ (lt hs) h1,h2⟩
 |clo f caps=>
  obtain⟨bs,h1,h2⟩:=h;refine⟨bs,?_,h2⟩;simp only[SV.refs]at hs;clear h2;induction caps generalizing bs with
  |nil=>cases bs<;>exact h1
  |cons c caps ih=>
   match bs,h1 with
   |b::bs,⟨q1,q2⟩=>
    simp only[apP,am9]at hs;exact⟨hG c _ (lt hs.1) q1,ih hs.2 bs q2⟩
 |tup l=>exact h.elim
 |undef=>exact h
 |dead=>trivial
 |cut e xs=>obtain⟨p,h1,h2⟩:=h;exact⟨p,Ty.rd_keep hk h1,h2⟩
 |osl j sz lo n=>obtain⟨g,q,c,h1,h2⟩:=h;exact⟨g,q,c,hG j _ (lt hs) h1,h2⟩
theorem Ke{G G':List Value}{A A':Nat→Prop}{w w':World}{h0:Nat}(hk:∀s v,s.refs h0=true→Rel1 G A w s v→Rel1 G' A' w' s v){s:SV}{v:Value}(h:Rel G A w s v)(hs:s.refsT h0=true):Rel G' A' w' s v:=by
 cases s with
 |tup l=>
  obtain⟨vs,h1,h2⟩:=h;refine⟨vs,h1,?_⟩;clear h1;induction l generalizing vs with
  |nil=>cases vs<;>exact h2
  |cons s l ih=>
   simp only[SV.refsT,apP,am9]at hs;match vs,h2 with
   |v::vs,⟨g1,g2⟩=>exact⟨hk s v hs.1 g1,ih hs.2 vs g2⟩
 |_=>rw[sN (fun l e=>by cases e)]at hs;exact eP (hk _ _ hs (nh h (fun l e=>by cases e)))
section
variable {Z:Nat→Prop} {w0:World} {H:List Item} {G:List Value} {w:World}
theorem tK(hr:SR Z w0 H G w):mM H.length H:=by
 intro k t cs hk x hx;have hlt:k<G.length:=by rw[hr.len];exact(ang.1 hk).1
 obtain⟨b,vs,_,_,_,h4⟩:=hr.items k _ _ hk (am6 hlt);obtain⟨i,hi,rfl⟩:=apo hx;obtain⟨v,_,hv⟩:=iV h4 i _ (am6 hi);grind [tn]
theorem TZ{it:Item}{g:Value}{h0 k:Nat}(hr:SR Z w0 (H++[it]) (G++[g]) w)(hl:G.length=H.length)(hk:H[k]?=some .gone)(h0k:h0≤k)(hlow:mM h0 (H++[it])):
  SR Z w0 (H.set k it) (G.set k g) w∧(∀b,Av Z (H++[it]) (G++[g]) b↔Av Z (H.set k it) (G.set k g) b):=by
 have hkl:=(ang.1 hk).1
 have a1:∀{j:Nat} {x:Item},j≠k→(H.set k it)[j]?=some x→j<H.length∧(H++[it])[j]?=some x:=fun{j x} hj h=>by
  rw[aoD (aoL hj)]at h;have:=(ang.1 h).1;exact⟨this,by rw[anq this];exact h⟩
 have a2:∀{j:Nat} {x:Value},j≠k→(G.set k g)[j]?=some x→(G++[g])[j]?=some x:=fun{j x} hj h=>by
  rw[aoD (aoL hj)]at h;rw[anq (ang.1 h).1];exact h
 have b1:(H.set k it)[k]?=some it:=aoH hkl;have b2:(G.set k g)[k]?=some g:=aoH (by omega);have c1:(H++[it])[H.length]?=some it:=by rw[anL (anb _),apB];rfl
 have c2:(G++[g])[H.length]?=some g:=by rw[anL (by omega),hl,apB];rfl
 have d1:∀{j:Nat} {x:Item},(H++[it])[j]?=some x→(j<H.length∧H[j]?=some x)∨(j=H.length∧x=it):=fun{j x} h=>by
  rcases anG j H.length with hlt|hge
  ·rw[anq hlt]at h;exact .inl ⟨hlt,h⟩
  ·rw[anL hge]at h
   have hj:j-H.length=0:=by
    rcases an0 (j-H.length)with h0|h0
    ·exact h0
    ·rw[aov (by simp;omega)]at h;cases h
   rw[hj]at h;simp only[anY,anf]at h;exact .inr ⟨by omega,h.symm⟩
 have hav:∀b,Av Z (H++[it]) (G++[g]) b↔Av Z (H.set k it) (G.set k g) b:=by
  refine fun b=>⟨fun h=>⟨h.1,fun j x y hx hlv hy=>?_⟩,fun h=>⟨h.1,fun j x y hx hlv hy=>?_⟩⟩
  ·by_cases hj:j=k
   ·subst hj;rw[b1]at hx;rw[b2]at hy;injection hx with hx;injection hy with hy;subst hx hy;exact h.2 _ _ _ c1 hlv c2
   ·exact h.2 j x y (a1 hj hx).2 hlv (a2 hj hy)
  ·rcases d1 hx with⟨h1,h2⟩|⟨h1,h2⟩
   ·have hj:j≠k:=fun e=>by subst e;rw[hk]at h2;injection h2 with h2;subst h2;cases hlv
    refine h.2 j x y (by rw[aoD (aoL hj)];exact h2) hlv ?_;rw[anq (by omega)]at hy;rw[aoD (aoL hj)];exact hy
   ·subst h1 h2;rw[c2]at hy;injection hy with hy;subst hy;exact h.2 k _ _ b1 hlv b2
 have hkp:Keeps (Av Z (H++[it]) (G++[g])) (Av Z (H.set k it) (G.set k g)) w w:=⟨anb _,fun b _ h=>(hav b).1 h,fun _ _ _=>rfl⟩
 have hG:∀j x,j<h0→(G++[g])[j]?=some x→(G.set k g)[j]?=some x:=fun j x hj h=>by
  rw[anq (by omega)]at h;rw[aoD (by omega)];exact h
 have hit:∀{j:Nat} {x:Item} {y:Value},(H++[it])[j]?=some x→ItemRel w0.heap.size (G++[g]) (Av Z (H++[it]) (G++[g])) w x y→ItemRel w0.heap.size (G.set k g) (Av Z (H.set k it) (G.set k g)) w x y:=by
  intro j x y hx h;cases x with
  |box t cs=>
   obtain⟨b,vs,e1,e2,e3,e4⟩:=h;refine⟨b,vs,e1,e2,e3,?_⟩;have hc:=hlow j t cs hx;clear e1 e3 hx;induction cs generalizing vs with
   |nil=>cases vs<;>exact e4
   |cons s l ih=>
    match vs,e4 with
    |v::vs,⟨q1,q2⟩=>exact⟨Da hkp q1 (hc s (by simp)) hG,ih vs q2 (fun s hs=>hc s (by simp[hs]))⟩
  |row et e xs=>
   obtain⟨css,e1,e2,e3⟩:=h;exact⟨css,e1,bR (fun _ _ h=>Ty.rd_keep hkp h) e2,e3⟩
  |gone=>trivial
 refine⟨⟨by simp[hl],hr.below,fun j x y hx hy=>?_,fun i j x y gx gy b hij hx hy hlx hly hgx hgy hb=>?_,hr.zf⟩,hav⟩
 ·by_cases hj:j=k
  ·subst hj;rw[b1]at hx;rw[b2]at hy;injection hx with hx;injection hy with hy;subst hx hy;exact hit c1 (hr.items _ _ _ c1 c2)
  ·exact hit (a1 hj hx).2 (hr.items j x y (a1 hj hx).2 (a2 hj hy))
 ·have key:∀{j:Nat} {x:Item} {y:Value},(H.set k it)[j]?=some x→(G.set k g)[j]?=some y→∃j',(j'=if j=k then H.length else j)∧(H++[it])[j']?=some x∧(G++[g])[j']?=some y:=by
   intro j x y hx hy;by_cases hj:j=k
   ·subst hj;rw[b1]at hx;rw[b2]at hy;injection hx with hx;injection hy with hy;subst hx hy;exact⟨_,rfl,by rw[anB rfl];exact c1,by rw[anB rfl];exact c2⟩
   ·exact⟨_,rfl,by rw[anr hj];exact(a1 hj hx).2,by rw[anr hj];exact a2 hj hy⟩
  obtain⟨i',ei,i1,i2⟩:=key hx hgx;obtain⟨j',ej,j1,j2⟩:=key hy hgy;refine hr.disj i' j' x y gx gy b ?_ i1 j1 hlx hly i2 j2 hb;rw[ei,ej];by_cases h1:i=k
  ·by_cases h2:j=k
   ·omega
   ·rw[anB h1,anr h2];have:=(a1 h2 hy).1;omega
  ·by_cases h2:j=k
   ·rw[anr h1,anB h2];have:=(a1 h1 hx).1;omega
   ·rw[anr h1,anr h2];exact hij
theorem Sk(hr:SR Z w0 H G w){h0 k:Nat}(hk:H[k]?=some .gone)(h0k:h0≤k)(hlow:mM h0 H){t:TypeId}{cs:List SV}{vs:Array Value}(hz:∀s∈cs,s.refs h0=true)(hcs:ct (Rel1 G (Av Z H G) w) cs vs.toList):
  ∃G',SR Z w0 (H.set k (.box t cs)) G' (w.alloc (.cells vs t))∧(∀s v,s.refs h0=true→Rel1 G (Av Z H G) w s v→Rel1 G' (Av Z (H.set k (.box t cs)) G') (w.alloc (.cells vs t)) s v)∧
   (∀j off v,j≠k→Rel1 G (Av Z H G) w (.box j off) v→Rel1 G' (Av Z (H.set k (.box t cs)) G') (w.alloc (.cells vs t)) (.box j off) v)∧
   Rel1 G' (Av Z (H.set k (.box t cs)) G') (w.alloc (.cells vs t)) (.box k 0) (.pointer (some ⟨w.heap.size,0,none⟩)):=by
 have hb:=jJ w (.cells vs t);have hg:∀b,bU (.pointer (some ⟨w.heap.size,0,none⟩))=some b→w.heap.size≤b:=fun b h=>by simp[bU]at h;omega
 have hst:=m7 (it:=.box t cs) hr hb hg;have hsr:=AL (it:=.box t cs) hr hb hg ⟨w.heap.size,vs.toList,rfl,hr.below.size,Blk.new w t vs,bR (fun s v h=>dM hr hst h) hcs⟩;have hkl:=(ang.1 hk).1;have hl:=hr.len
 obtain⟨m1,m2⟩:=TZ hsr hl hk h0k (by
  intro j u cs' hj x hx;rcases anG j H.length with hlt|hge
  ·rw[anq hlt]at hj;exact hlow j u cs' hj x hx
  ·rw[anL hge]at hj;have hj':=an4 hj;simp only[List.mem_singleton,Item.box.injEq]at hj';obtain⟨rfl,rfl⟩:=hj';exact hz x hx)
 have hkp:Keeps (Av Z (H++[.box t cs]) (G++[.pointer (some ⟨w.heap.size,0,none⟩)])) (Av Z (H.set k (.box t cs)) (G.set k (.pointer (some ⟨w.heap.size,0,none⟩)))) (w.alloc (.cells vs t)) (w.alloc (.cells vs t)):=⟨anb _,fun b _ h=>(m2 b).1 h,fun _ _ _=>rfl⟩
 refine⟨_,m1,fun s v hs h=>Da hkp (dM hr hst h) hs fun j x hj h=>?_,fun j off v hj h=>?_,⟨_,aoH (by omega),rfl⟩⟩
 ·grind
 ·obtain⟨b,h1,h2⟩:=h;exact⟨b,by rw[aoD (aoL hj)];exact h1,h2⟩
theorem wG{n:Nat}{L:SL}{a:Act}(f:Nat→Bool):∀{la:List AlA} {H:List Item} {G:List Value},(∀x∈la,f x.i=false)→SR Z w0 H G w→FR Z n L H G w a→∃G',SR Z w0 (H++alX f la) G' w∧FR Z n L (H++alX f la) G' w a∧(∀s v,Rel1 G (Av Z H G) w s v→Rel1 G' (Av Z (H++alX f la) G') w s v)
 |[],H,G,_,hr,hf=>by
  refine⟨G,?_⟩;rw[show alX f []=[] from rfl,anM];exact⟨hr,hf,fun _ _ h=>h⟩
 |x::la,H,G,hx,hr,hf=>by
  have hg:∀b,bU undef=some b→w.heap.size≤b:=fun b h=>by simp[bU,undef]at h
  have hst:=m7 (it:=.gone) (g:=undef) hr (aqc _ _) hg;have h1:=AL (it:=.gone) (g:=undef) hr (aqc _ _) hg trivial;obtain⟨G',k1,k2,k3⟩:=wG f (la:=la) (fun y hy=>hx y (by simp[hy])) h1 (hf.keep fun s v h=>dM hr hst h)
  have e:H++alX f (x::la)=(H++[.gone])++alX f la:=by
   rw[show alX f (x::la)=(match f x.i with|true=>.box x.t x.cs|false=>.gone)::alX f la from rfl,hx x (by simp)];simp
  rw[e];exact⟨G',k1,k2,fun s v h=>k3 s v (dM hr hst h)⟩
end
theorem xX{h0:Nat}:∀{t:Ty},∀s∈t.zsplit,s.refs h0=true:=by
 intro t;induction t with
 |pair a b iha ihb=>
  grind [Ty.zsplit]
 |st a ih=>intro s hs;simp only[Ty.zsplit]at hs;exact ih s hs
 |_=>intro s hs;simp only[Ty.zsplit,List.mem_singleton]at hs;subst hs;rfl
end
section
theorem Hu{H:List Item}{s:SV}{l:List SV}(h:gj [] s=some l):gj H s=some l:=by
 unfold gj at h ⊢;grind
def yT(h0:Nat)(la:List AlA)(f:Nat→Bool)(L:SL):Prop:=∀t s,aN L t=some s→s.refsT h0=true∨∃(r:Nat) (a:AlA),la[r]?=some a∧f a.i=true∧s=.box (h0+r) 0
theorem V5{h0:Nat}{la:List AlA}{f:Nat→Bool}{L:SL}(h:∀t s,aN L t=some s→s.refsT h0=true):yT h0 la f (gi f la h0 L):=by
 intro t s hs;rcases DW hs with⟨r,a,h1,_,h3,h4⟩|h1<;>grind
section
variable {P:Program} {T:TT} {E:Env} {ops:Array Oper} {Z:Nat→Prop} {w0:World} {N fl:Nat} {Q:Exit→Act→World→Prop} {X:List Item→List Value→World→Prop}
theorem rN{H:List Item}{G:List Value}{w:World}{a:Act}{L L':SL}{h0 r j:Nat}{la:List AlA}{x:AlA}{oj:Oper}{f:Nat→Bool}{K:Act→World→Prop}{Qx:Exit→Act→World→Prop}(hT:fh P T=true)(hoj:ops[j]?=some oj)(hal:a9 oj=true)
  (hla:la[r]?=some x) (hdst:oj.dst=some x.d) (hd:x.d<N) (hop:oj.op=.alloc x.t) (hxx:∃y,dJ T x.t=some y∧y.z=true∧(∀p q,y.ty≠.pair p q)∧x.cs=y.ty.zsplit) (_hD:Dis la) (hfx:f x.i=false)
  (hk:H[h0+r]?=some .gone) (hlow:mM h0 H) (hL:yT h0 la f L) (hfl:fl≤h0) (hr:SR Z w0 H G w) (hf:FR Z N L H G w a) (hx:X H G w) (hX:∀H G w H' G' w',X H G w→Ev Z fl H G w H' G' w'→X H' G' w') (hL':∀t,aN L' t=if t=x.d then some (.box (h0+r) 0)else aN L t)
  (hK:∀v G' w',Old w w'→SR Z w0 (H.set (h0+r) (.box x.t x.cs)) G' w'→FR Z N L' (H.set (h0+r) (.box x.t x.cs)) G' w' (a.put oj.dst v)→X (H.set (h0+r) (.box x.t x.cs)) G' w'→K (a.put oj.dst v) w'):wpOp P ops Qx j K a w:=by
 obtain⟨y,hy,hz,hne,hcs⟩:=hxx
 have hg:oj.guard=none:=by
  unfold a9 at hal;rw[hop]at hal;cases hq:oj.guard with
  |none=>rfl
  |some x=>rw[hq]at hal;simp at hal
 have hck:=aP hT hy;obtain⟨inf,hinf,hzero⟩:=xc hck hz
 have hc:(mkV y.ty (zc y.ty)).cells.toList=zc y.ty:=kz (by
  generalize y.ty=ty at*
  cases ty<;>first|exact .inr rfl|exact .inl rfl|exact(hne _ _ rfl).elim)
 obtain⟨G',k1,k2,k3,k4⟩:=Sk (t:=x.t) (cs:=x.cs) (vs:=(mkV y.ty (zc y.ty)).cells) hr hk (by omega) hlow (by rw[hcs];exact xX) (by rw[hcs,hc];exact kC)
 have hrun:(execOp a.eval oj).run P w=.ok (.value (.pointer (some ⟨w.heap.size,0,none⟩))) (w.alloc (.cells (mkV y.ty (zc y.ty)).cells x.t)):=by
  simp[execOp,hop,Instr.alloc,zeroValue,typeInfo,hinf,hzero,newVar,newRow]
 unfold wpOp;simp only[hoj];rw[anB (by simp[Region.wanted,hg])];refine .inl ?_;unfold Oper.wp;rw[hrun];refine hK _ G' _ ⟨(jJ w (.cells (mkV y.ty (zc y.ty)).cells x.t)).size,fun b hb=>(jJ w (.cells (mkV y.ty (zc y.ty)).cells x.t)).block b hb⟩ k1 ?_ (hX _ _ _ _ _ _ hx fun s v h hs=>k2 s v (qI hfl hs) h)
 have hf1:FR Z N L (H.set (h0+r) (.box x.t x.cs)) G' (w.alloc (.cells (mkV y.ty (zc y.ty)).cells x.t)) a:=by
  refine⟨hf.defers,hf.size,fun t s hs=>?_⟩;obtain⟨v,h1,h2⟩:=hf.slot t s hs;refine⟨v,h1,?_⟩;rcases hL t s hs with h3|⟨r',b,h3,h4,rfl⟩
  ·exact Ke (fun s v hs h=>k2 s v hs h) h2 h3
  ·refine k3 _ _ v (fun e=>?_) h2;grind
 have hf2:=hf1.put (d:=oj.dst) (L':=(x.d,.box (h0+r) 0)::nA L x.d) (s:=.box (h0+r) 0) (v:=.pointer (some ⟨w.heap.size,0,none⟩)) (by
  rw[hdst];simp only[gv];rw[anz (show x.d+1≤N from hd)]) k4
 exact⟨hf2.defers,hf2.size,fun t s hs=>hf2.slot t s (by rw[eF,←hL' t];exact hs)⟩
structure PlanOk (T:TT) (ops:Array Oper) (N:Nat) (H0:List Item) (la:List AlA) (ss:List AlS):Prop where
 dis:Dis la
 la2:∀a∈la,(∃o,ops[a.i]?=some o∧a9 o=true)∧∀x∈a.cs,x.refs H0.length=true
 ss1:∀s∈ss,(∃o,ops[s.i]?=some o∧a9 o=false∧o.dst=none)∧(∀x∈s.l,x.refs H0.length=true)∧Fh ops s.i s.j la H0.length=true∧∃bt cells,(H0++alX (fun _=>true) la)[s.j]?=some (.box bt cells)∧s.off+s.l.length≤cells.length
 far:ss.Pairwise (fun s p=>G5 s p=true)
def rm(T:TT)(L:SL)(s:AlS)(o:Oper):Prop:=∃t x v sv y,o.op=.store t x v∧o.guard=none∧o.dst=none∧opS L x=some (.box s.j s.off)∧opS L v=some sv∧dJ T t=some y∧gj [] sv=some s.l∧s.l.length=y.ty.n
theorem wa{l0:Array Bool}{H0:List Item}{La:SL}{la:List AlA}{ss:List AlS}(hA:alA T N ops.toList 0=some la)(hS:alS T E ops l0 la H0.length La (H0++alX (fun _=>true) la) ops.toList 0=some ss):PlanOk T ops N H0 la ss:=by
 obtain⟨a1,a2,a3⟩:=po hA;obtain⟨s1,s2,s3⟩:=mK hS;refine⟨a3,fun a ha=>?_,fun s hs=>?_,s3⟩
 ·obtain⟨_,o,ho,hal,y,hy⟩:=a2 a ha;grind [xX]
 ·obtain⟨_,_,o,ho,hal,t,x,v,sv,y,bt,cells,q1,q2,q3,q4,q5,q6,q7,q8,q9,q10,q11,q12,q13⟩:=s2 s hs;grind
theorem JJ{la:List AlA}(hA:alA T N ops.toList 0=some la):∀{j:Nat} {o:Oper},ops[j]?=some o→a9 o=true→∃(r:Nat) (a:AlA),la[r]?=some a∧a.i=j∧o.dst=some a.d∧a.d<N∧∃x,o.op=.alloc a.t∧dJ T a.t=some x∧x.z=true∧(∀p q,x.ty≠.pair p q)∧a.cs=x.ty.zsplit:=by
 intro j o ho hal;obtain⟨r,a,h1,h2,h3⟩:=(po hA).1 j o (by rw[aoP];exact ho) hal;grind
theorem kD{l:Array Bool}{i j:Nat}(hcl:Clo ops l)(hj:∀os,ops[j]?=some os→∀e∈os.after,Region.binds .any e=true→l.getD e.on false=true)(h:gZ ops 4 j i=true):l.getD i true=true:=by grind [uw]
section
variable {H0:List Item} {la:List AlA} {ss:List AlS} {l:Array Bool}
theorem PlanOk.wt(_hp:PlanOk T ops N H0 la ss)(hcl:Clo ops l)(_hl:l.size=ops.size){s:AlS}{i:Nat}(hs:dn l s.i=true)(_hm:s∈ss)(h:gZ ops 4 s.i i=true):l.getD i true=true:=by exact kD hcl (fun os hos e he hb=>hcl s.i os hos hs e he hb) h
theorem PlanOk.setA(hp:PlanOk T ops N H0 la ss)(hcl:Clo ops l)(hl:l.size=ops.size){r:Nat}{x:AlA}(h1:la[r]?=some x)(hju:l.getD x.i true=false):
  cJ (dn (l.setIfInBounds x.i true)) ss (H0++alX (dn (l.setIfInBounds x.i true)) la)=(cJ (dn l) ss (H0++alX (dn l) la)).set (H0.length+r) (.box x.t x.cs)∧(cJ (dn l) ss (H0++alX (dn l) la))[H0.length+r]?=some .gone:=by
 have hup:=jK l x.i;obtain⟨⟨oj,hoj,hal⟩,_⟩:=hp.la2 x (an4 h1)
 have hne:∀s∈ss,dn l s.i=true→s.j≠H0.length+r:=fun s hs hds e=>by
  have:=hp.wt hcl hl hds hs (BB (hp.ss1 s hs).2.2.1 h1 e);rw[hju]at this;cases this
 refine⟨?_,?_⟩
 ·rw[Hl hp.dis h1 hup,kR (g:=dn l) fun s hs=>?_,yJ hne];rw[hup,anr];intro e;obtain⟨⟨o,ho,hal',_⟩,_⟩:=hp.ss1 s hs;rw[e,hoj]at ho;injection ho with ho;subst ho;rw[hal]at hal';cases hal'
 ·have h3:(H0++alX (dn l) la)[H0.length+r]?=some .gone:=by
   rw[anL (by omega),show H0.length+r-H0.length=r by omega,uh,h1];simp only[aod];rw[show dn l x.i=false from hju]
  have h4:H0++alX (dn l) la=(H0++alX (dn l) la).set (H0.length+r) .gone:=by
   refine aoI fun k=>?_;grind
  rw[h4,yJ hne,aoH (by rw[sK];exact(ang.1 h3).1)]
theorem PlanOk.same(hp:PlanOk T ops N H0 la ss){j:Nat}{oj:Oper}(hoj:ops[j]?=some oj)(hal:a9 oj=false):alX (dn (l.setIfInBounds j true)) la=alX (dn l) la∧∀a∈la,dn (l.setIfInBounds j true) a.i=dn l a.i:=by
 have h:∀a∈la,dn (l.setIfInBounds j true) a.i=dn l a.i:=fun a ha=>by
  rw[jK,anr];obtain⟨⟨o',h1,h2⟩,_⟩:=hp.la2 a ha;grind
 grind [alX,List.map_congr_left]
theorem PlanOk.setS(hp:PlanOk T ops N H0 la ss){s:AlS}(hsm:s∈ss)(hju:l.getD s.i true=false):
  cJ (dn (l.setIfInBounds s.i true)) ss (H0++alX (dn (l.setIfInBounds s.i true)) la)=stP s (cJ (dn l) ss (H0++alX (dn l) la)):=by
 obtain⟨⟨o,ho,hal,_⟩,_⟩:=hp.ss1 s hsm;rw[(hp.same ho hal).1];exact Jo (jK l s.i) hju hp.far hsm
theorem PlanOk.setT(hp:PlanOk T ops N H0 la ss){j:Nat}{oj:Oper}{d:Nat}(hoj:ops[j]?=some oj)(hal:a9 oj=false)(hd:oj.dst=some d):
  cJ (dn (l.setIfInBounds j true)) ss (H0++alX (dn (l.setIfInBounds j true)) la)=cJ (dn l) ss (H0++alX (dn l) la):=by
 rw[(hp.same hoj hal).1];refine kR fun s hs=>?_;rw[jK,anr];obtain⟨⟨o,ho,_,hdn⟩,_⟩:=hp.ss1 s hs;grind
theorem PlanOk.low(hp:PlanOk T ops N H0 la ss)(hlowH:mM H0.length H0):mM H0.length (cJ (dn l) ss (H0++alX (dn l) la)):=
 D4 (UJ hlowH fun a ha=>(hp.la2 a ha).2) fun s hs=>(hp.ss1 s hs).2.1
theorem PlanOk.box(hp:PlanOk T ops N H0 la ss)(hcl:Clo ops l){s:AlS}(hsm:s∈ss)(hj:∀os,ops[s.i]?=some os→∀e∈os.after,Region.binds .any e=true→l.getD e.on false=true):∃bt c',(cJ (dn l) ss (H0++alX (dn l) la))[s.j]?=some (.box bt c')∧s.off+s.l.length≤c'.length:=by
 obtain⟨_,_,ht,bt,cells,q8,q10⟩:=hp.ss1 s hsm
 have:(H0++alX (dn l) la)[s.j]?=some (.box bt cells):=by
  rcases anG s.j H0.length with hlt|hge
  ·grind
  ·rw[anL hge,uh]at q8 ⊢;cases hb:la[s.j-H0.length]? with
   |none=>rw[hb]at q8;cases q8
   |some b=>
    rw[hb]at q8;simp only[aod]at q8 ⊢;rw[show dn l b.i=true from kD hcl hj (BB ht hb (by omega))];exact q8
 obtain⟨c',b1,b2⟩:=EL (f:=dn l) this (ss:=ss);grind
theorem rV{H:List Item}{G:List Value}{w:World}{a:Act}{L:SL}{s:AlS}{oj:Oper}{bt:Nat}{c':List SV}{K:Act→World→Prop}{Qx:Exit→Act→World→Prop}(hT:fh P T=true)(hE:lR P E)(hI:inv w0)(hoj:ops[s.i]?=some oj)(hst:rm T L s oj)(b1:H[s.j]?=some (.box bt c'))(b2:s.off+s.l.length≤c'.length)
  (hr:SR Z w0 H G w) (hf:FR Z N L H G w a) (hx:X H G w) (hX:∀H G w H' G' w',X H G w→Ev Z fl H G w H' G' w'→X H' G' w')
  (hK:∀G' w',SR Z w0 (stP s H) G' w'→FR Z N L (stP s H) G' w' a→X (stP s H) G' w'→K a w'):wpOp P ops Qx s.i K a w:=by
 obtain⟨t,x,v,sv,y,q1,q2,q3,q4,q5,q6,q7,q9⟩:=hst
 have hstP:stP s H=H.set s.j (.box bt (oC c' s.off s.l)):=by
  unfold stP;rw[b1]
 have heop:eop T E fl L H oj (fun s H' L'=>some (s,H',L'))=some (.undef,stP s H,L):=by
  unfold eop;rw[q1];dsimp only;rw[q4,q5,q6];dsimp only;rw[b1,Hu q7];dsimp only;rw[show Nat.beq s.l.length y.ty.n=true by rw[q9];exact apE _,anz (show s.off+s.l.length≤c'.length by omega),hstP];rfl
 unfold wpOp;simp only[hoj];rw[anB (by simp[Region.wanted,q2])];refine .inl ?_;refine uU hT hE hI hr hf heop fun s' H' L1 G' w' v' k1 k2 k3 k4 k5=>?_;injection k1 with k1;injection k1 with k1 k1';injection k1' with k1' k1'';subst k1 k1' k1'';rw[q3];exact hK G' w' k2 k3 (hX _ _ _ _ _ _ hx k5.ev)
end
theorem C1{l:Array Bool}{H0:List Item}{L0:SL}{la:List AlA}{s:AlS}{o:Oper}{Ha:List Item}(h:VI T ops la H0.length (gi (fun _=>true) la H0.length L0) Ha s o)(hcl:Clo ops l)(hj:∀os,ops[s.i]?=some os→∀e∈os.after,Region.binds .any e=true→l.getD e.on false=true):rm T (gi (dn l) la H0.length L0) s o:=by
 obtain⟨t,x,v,sv,y,bt,cells,q1,q2,q3,q4,q5,q6,q7,q8,q9,q10,q11,q12,q13⟩:=h
 have hopd:∀{z:Operand} {sz:SV},(∀a∈la,Kx z a.d=true→gZ ops 4 s.i a.i=true)→opS (gi (fun _=>true) la H0.length L0) z=some sz→opS (gi (dn l) la H0.length L0) z=some sz:=by
  intro z sz hw hz;cases z with
  |tmp u=>
   rw[←hz];refine iX (fun b hb e=>?_) rfl;exact kD hcl hj (hw b hb (by simp[Kx,e]))
  |_=>exact hz
 exact⟨t,x,v,sv,y,q1,q2,q3,hopd (fun b hb h=>q12 b hb (by rw[h];rfl)) q4,hopd (fun b hb h=>q12 b hb (by rw[h,Bool.or_true])) q5,q6,q7,q9⟩
set_option maxHeartbeats 1000000 in
theorem UU{H0:List Item}{L0:SL}{l0:Array Bool}{la:List AlA}{ss:List AlS}(hT:fh P T=true)(hE:lR P E)(hI:inv w0)
  (hA:alA T N ops.toList 0=some la) (hS:alS T E ops l0 la H0.length (gi (fun _=>true) la H0.length L0) (H0++alX (fun _=>true) la) ops.toList 0=some ss) (hD:GP ops l0 (la.map (·.i)++ss.map (·.i))=true) (hW:IZ E ops l0 (la.map (·.i)++ss.map (·.i))=true)
  (hlowH:mM H0.length H0) (hlowL:∀t s,aN L0 t=some s→s.refsT H0.length=true) (hfl:fl≤H0.length) (hl0:l0.size=ops.size)
  (hX:∀H G w H' G' w',X H G w→Ev Z fl H G w H' G' w'→X H' G' w')
  (hEnd:∀(n:Nat) (l:Array Bool) G w a,cu l≤n→l.size=ops.size→(∀k,l0.getD k false=true→l.getD k false=true)→(∀k∈la.map (·.i)++ss.map (·.i),l.getD k true=true)→(∀k,l.getD k true=true→l0.getD k true=true∨k∈la.map (·.i)++ss.map (·.i))→Clo ops l→SR Z w0 (cJ (fun _=>true) ss (H0++alX (fun _=>true) la)) G w→FR Z N (gi (fun _=>true) la H0.length L0) (cJ (fun _=>true) ss (H0++alX (fun _=>true) la)) G w a→X (cJ (fun _=>true) ss (H0++alX (fun _=>true) la)) G w→wpG P ops Q (fun _=>True) n l a w):
  ∀(n:Nat) (l:Array Bool),cu l≤n→l.size=ops.size→(∀k,l0.getD k false=true→l.getD k false=true)→(∀k,l.getD k true=true→l0.getD k true=true∨k∈la.map (·.i)++ss.map (·.i))→Clo ops l→∀(G:List Value) (w:World) (a:Act),
   SR Z w0 (cJ (dn l) ss (H0++alX (dn l) la)) G w→FR Z N (gi (dn l) la H0.length L0) (cJ (dn l) ss (H0++alX (dn l) la)) G w a→X (cJ (dn l) ss (H0++alX (dn l) la)) G w→wpG P ops Q (fun _=>True) n l a w:=by
 obtain⟨a1,a2,a3⟩:=po hA;obtain⟨s1,s2,s3⟩:=mK hS;have hp:=wa hA hS
 have cov:∀{l:Array Bool},(∀k,l0.getD k false=true→l.getD k false=true)→∀{k:Nat} {o:Oper},ops[k]?=some o→l.getD k true=false→(∃(r:Nat) (x:AlA),la[r]?=some x∧x.i=k∧a9 o=true)∨(∃s∈ss,s.i=k∧a9 o=false)∨(fQ E o=true∧l0.getD k true=false):=by
  intro l hsub k o ho hu;have hk:ops.toList[k]?=some o:=by rw[aoP];exact ho
  cases hal:a9 o with
  |true=>
   obtain⟨r,x,h1,h2,_⟩:=a1 k o hk hal;exact .inl ⟨r,x,h1,by omega,rfl⟩
  |false=>
   right;have hlt:k<l0.size:=by rw[hl0];exact(anm.1 ho).1
   have h0:l0.getD (0+k) true=false:=by
    rw[anF];cases hq:l0.getD k true with
    |false=>rfl
    |true=>
     rw[←kb hlt]at hq;have:=hsub k hq;rcases anG k l.size with h'|h'
     ·rw[kb h',hu]at this;cases this
     ·simp[aoG h']at hu
   cases ht:fQ E o with
   |true=>rw[anF]at h0;exact .inr ⟨rfl,h0⟩
   |false=>
    obtain⟨s,h1,h2⟩:=s1 k o hk h0 hal ht;exact .inl ⟨s,h1,by omega,rfl⟩
 have fin:∀{n:Nat} {l:Array Bool},cu l≤n→l.size=ops.size→(∀k,l0.getD k false=true→l.getD k false=true)→(∀k,l.getD k true=true→l0.getD k true=true∨k∈la.map (·.i)++ss.map (·.i))→Clo ops l→(∀k∈la.map (·.i)++ss.map (·.i),l.getD k true=true)→∀{G:List Value} {w:World} {a:Act},SR Z w0 (cJ (dn l) ss (H0++alX (dn l) la)) G w→FR Z N (gi (dn l) la H0.length L0) (cJ (dn l) ss (H0++alX (dn l) la)) G w a→X (cJ (dn l) ss (H0++alX (dn l) la)) G w→wpG P ops Q (fun _=>True) n l a w:=by
  intro n l hcu hl hsub hin hcl hall G w a hr hf hx;have e1:∀x∈la,dn l x.i=true:=fun x hx=>hall _ (aoE _ (an8.2 ⟨x,hx,rfl⟩));have e2:∀s∈ss,dn l s.i=true:=fun s hs=>hall _ (apc _ (an8.2 ⟨s,hs,rfl⟩))
  have e3:alX (dn l) la=alX (fun _=>true) la:=by
   unfold alX;exact List.map_congr_left fun x hx=>by rw[e1 x hx]
  have e4:cJ (dn l) ss (H0++alX (dn l) la)=cJ (fun _=>true) ss (H0++alX (fun _=>true) la):=by
   rw[e3];exact kR e2
  rw[e4]at hr hf hx;refine hEnd n l G w a hcu hl hsub hall hin hcl hr ⟨hf.defers,hf.size,fun t s hs=>hf.slot t s ?_⟩ hx;rw[←hs];exact iX (fun x hx _=>e1 x hx) rfl
 intro n;induction n with
 |zero=>
  intro l hcu hl hsub hin hcl G w a hr hf hx;exact fin hcu hl hsub hin hcl (fun k _=>Vt (l:=l) (by omega) k) hr hf hx
 |succ n ih=>
  intro l hcu hl hsub hin hcl G w a hr hf hx;by_cases hC:∀k∈la.map (·.i)++ss.map (·.i),l.getD k true=true
  ·exact fin hcu hl hsub hin hcl hC hr hf hx
  have hC':∃k∈la.map (·.i)++ss.map (·.i),l.getD k true=false:=by
   apply ano;intro hn;refine hC fun k hk=>?_;cases hq:l.getD k true with
   |true=>rfl
   |false=>exact(hn ⟨k,hk,hq⟩).elim
  refine⟨fun h=>(w7 hl hD hsub hC' h).elim,fun j hj=>?_⟩;obtain⟨hju,oj,hoj,hdep⟩:=aof.1 hj
  have hin':∀{i:Nat},i∈la.map (·.i)++ss.map (·.i)→∀k,(l.setIfInBounds i true).getD k true=true→l0.getD k true=true∨k∈la.map (·.i)++ss.map (·.i):=fun{i} hi k hk=>by
   have:=jK l i k;rw[show dn (l.setIfInBounds i true) k=true from hk]at this;by_cases e:k=i
   ·subst e;exact .inr hi
   ·rw[anr e]at this;exact hin k this.symm
  have hsub':∀k,l0.getD k false=true→(l.setIfInBounds j true).getD k false=true:=fun k hk=>ap8 (hsub k hk);have hcu':cu (l.setIfInBounds j true)≤n:=by have:=zj hju;omega
  have hjr:∀os,ops[j]?=some os→∀e∈os.after,Region.binds .any e=true→l.getD e.on false=true:=fun os hos e he hb=>by rw[hoj]at hos;injection hos with hos;subst hos;exact hdep e he hb
  rcases cov hsub hoj hju with⟨r,x,h1,h2,hal⟩|⟨s,hsm,h2,hal⟩|⟨ht,hu0⟩
  ·-- an allocation
   subst h2;obtain⟨r',x',g1,g2,g3,g4,y,g5,g6⟩:=JJ hA hoj hal
   have e:r'=r:=by
    by_cases hh:r'=r
    ·exact hh
    ·exact absurd g2 (SP a3 h1 g1 hh).1
   subst e;rw[h1]at g1;injection g1 with g1;subst g1;obtain⟨hset,hgone⟩:=hp.setA hcl hl h1 hju;refine rN (L':=gi (dn (l.setIfInBounds x.i true)) la H0.length L0) hT hoj hal h1 g3 g4 g5 ⟨y,g6⟩ a3 hju hgone (hp.low hlowH) (V5 hlowL) hfl hr hf hx hX (Ci (jK l x.i) a3 h1) fun v G' w' _ k1 k2 k3=>⟨.inr trivial,?_⟩
   rw[←hset]at k1 k2 k3;exact ih _ hcu' (by simpa using hl) hsub' (hin' (aoE _ (an8.2 ⟨x,an4 h1,rfl⟩))) (hcl.set hj) G' w' _ k1 k2 k3
  ·-- a store
   subst h2;obtain⟨_,_,o,ho,_,hok⟩:=s2 s hsm;rw[Nat.sub_zero,aoP,hoj]at ho;injection ho with ho;subst ho;obtain⟨bt,c',b1,b2⟩:=hp.box hcl hsm hjr;refine rV (fl:=fl) hT hE hI hoj (C1 hok hcl hjr) b1 b2 hr hf hx hX fun G' w' k2 k3 k5=>⟨.inr trivial,?_⟩
   rw[←hp.setS hsm hju]at k2 k3 k5;refine ih _ hcu' (by simpa using hl) hsub' (hin' (apc _ (an8.2 ⟨s,hsm,rfl⟩))) (hcl.set hj) G' w' _ k2 ?_ k5;exact⟨k3.defers,k3.size,fun u su hs=>k3.slot u su (by rw[←iX (fun x hx _=>(hp.same hoj hal).2 x hx) rfl];exact hs)⟩
  ·-- a tame one waits for all
   exfalso;obtain⟨k,hk,hku⟩:=hC';have hw:=ans.1 hW j (List.mem_range.2 (anm.1 hoj).1);unfold eI at hw;rw[hu0,hoj]at hw;dsimp only at hw;rw[ht]at hw;simp only[Bool.not_true,Bool.or_false,Bool.false_or]at hw;have:=kD hcl hjr (ans.1 hw k hk);rw[hku]at this;cases this
end
end
end Go.Proofs.YtnkndpoojnflmaaGreat
end
