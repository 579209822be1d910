/- Operations that change the state are the machine's. -/
import Derived.Test.YtoimchcjhdcdmaaGreatQ2
import Derived.Laws.OwnMore
import Derived.Maps.AppendAt
import Derived.ArgAppend
noncomputable section
namespace Go.Proofs.YtoimchcjhdcdmaaGreat
open Go.RowKit Go.IntKind
open Bool renaming true->T',false->F'
open Option renaming some->S',none->N'
theorem aoY:type_of% @List.getElem_mem:=@List.getElem_mem
theorem ao1:type_of% @Nat.le_trans:=@Nat.le_trans
theorem apd:type_of% @List.length_singleton:=@List.length_singleton
theorem ape:type_of% @List.mem_append:=@List.mem_append
theorem app:type_of% @List.length_take:=@List.length_take
theorem aps:type_of% @Nat.min_eq_left:=@Nat.min_eq_left
theorem apL:type_of% @Array.setIfInBounds_comm:=@Array.setIfInBounds_comm
theorem apU:type_of% @mem_ready:=@mem_ready
theorem ap3:type_of% @List.length_set:=@List.length_set
theorem aqd:type_of% @Int.natCast_mul:=@Int.natCast_mul
theorem aqk:type_of% @List.singleton_append:=@List.singleton_append
theorem aql:type_of% @Bool.not_eq_true':=@Bool.not_eq_true'
theorem aqm:type_of% @ready_mono:=@ready_mono
theorem aqy:type_of% @Array.getElem?_eq_none:=@Array.getElem?_eq_none
theorem aqA:type_of% @List.ext_getElem?:=@List.ext_getElem?
theorem aqO:type_of% @Nat.mul_le_mul_right:=@Nat.mul_le_mul_right
theorem aqR:type_of% @List.all_cons:=@List.all_cons
theorem aqT:type_of% @List.getElem_of_mem:=@List.getElem_of_mem
theorem aqU:type_of% @Bool.or_eq_true:=@Bool.or_eq_true
theorem aq0:type_of% @List.length_replicate:=@List.length_replicate
theorem arg:type_of% @Nat.sub_self:=@Nat.sub_self
theorem aru:type_of% @getD_set_ne:=@getD_set_ne
theorem arE:type_of% @Nat.mod_lt:=@Nat.mod_lt
theorem arF:type_of% @World.ownsRow_nil:=@World.ownsRow_nil
theorem arJ:type_of% @List.take_take:=@List.take_take
theorem arO:type_of% @Int.toNat_of_nonneg:=@Int.toNat_of_nonneg
theorem arP:type_of% @List.flatten_append:=@List.flatten_append
theorem arW:type_of% @List.cons.injEq:=@List.cons.injEq
theorem arX:type_of% @getD_set_true:=@getD_set_true
theorem ar7:type_of% @Int.ofNat_le:=@Int.ofNat_le
theorem asd:type_of% @Calls.mono:=@Calls.mono
theorem ash:type_of% @and_true:=@and_true
section
structure Chg (Z:Nat->Prop) (fl:Nat) (st ap:Bool) (H:List Item) (G:List Value) (w:World) (H':List Item) (G':List Value) (w':World):Prop where
 pres:∀s v,Rel1 G (Av Z H G) w s v->(∀j,s.of1 j=T'->j<fl)->Rel1 G' (Av Z H' G') w' s v
 agr:st=T'\/(Agr (!ap) H G w w'/\∀b,b<w.heap.size->fW H' G' b->fW H G b)
 len:H.length<=H'.length
theorem KA{α:Type}(l:List α):∀(n i:Nat),i<n*l.length->(l9 l n)[i]?=l[i%l.length]?
 |0,i,h=>by simp at h
 |n+1,i,h=>by
  simp only[l9];rcases apu i l.length with hi|hi
  ·rw[apc hi,Nat.mod_eq_of_lt hi]
  ·rw[aqC]at h;rw[apm hi,KA l n (i-l.length) (by omega)];congr 1;rw[Nat.mod_eq_sub_mod hi]
theorem D6{α:Type}(l:List α):∀n,(l9 l n).length=n*l.length
 |0=>by simp[l9]
 |n+1=>by simp[l9,D6 l n,aqC];omega
theorem tK(z:Array Value)(n:Nat):(madeCells z (n*z.size)).toList=l9 z.toList n:=by
 apply aqA;intro i;rcases apu i (n*z.size)with hi|hi
 ·rw[KA _ _ _ (by simpa using hi)]
  have hz:0<z.size:=by
   grind
  have hm:i%z.size<z.size:=arE _ hz;simp[madeCells,hi,hm]
 ·rw[aqj (by simp[madeCells];exact hi),aqj (by rw[D6];simpa using hi)]
theorem Le{R:SV->Value->Prop}{l:List SV}{vs:List Value}(h:bJ R l vs):∀n,bJ R (l9 l n) (l9 vs n)
 |0=>trivial
 |n+1=>dJ h (Le h n)
theorem nw{A:Nat->Prop}{w:World}{e:Ty}{cs:List Value}{x:e.D}(h:e.rd A w cs x):∀n,bJ (λl y=>e.rd A w l y) (List.replicate n cs) (List.replicate n x)/\(List.replicate n cs).flatten=l9 cs n
 |0=>⟨trivial,rfl⟩
 |n+1=>⟨⟨h,(nw h n).1⟩,by rw[List.replicate_succ,apX,(nw h n).2];rfl⟩
theorem Fj{G:List Value}{A:Nat->Prop}{w:World}{e:Ty}:∀{n:Nat} {l:List SV} {xs:List e.D} {vs:List Value},Bq e n l=S' xs->bJ (Rel1 G A w) l vs->∃css,vs=List.flatten css/\bJ (λl y=>e.rd A w l y) css xs/\xs.length=n
 |0,[],xs,vs,h,ha=>by
  simp only[Bq,aoX]at h;subst h;cases vs with
  |nil=>exact⟨[],rfl,trivial,rfl⟩
  |cons=>exact ha.elim
 |0,_::_,xs,vs,h,ha=>by simp[Bq]at h
 |n+1,l,xs,vs,h,ha=>by
  simp only[Bq]at h;split at h<;>try (cases h;done)
  rename_i x r hj;split at h<;>try (cases h;done)
  rename_i ys hy;injection h with h;subst h;obtain⟨v1,v2,rfl,h1,h2⟩:=qz hj ha;obtain⟨css,rfl,h3,h4⟩:=Fj hy h2;exact⟨v1::css,rfl,⟨h1,h3⟩,by simp[h4]⟩
theorem lh{G:List Value}{A:Nat->Prop}{w:World}:∀{t:Ty},bJ (Rel1 G A w) t.zsplit (zc t)
 |.int _=>⟨⟨[_],rfl,rfl⟩,trivial⟩
 |.bool=>⟨⟨[_],rfl,rfl⟩,trivial⟩
 |.str=>⟨⟨[_],rfl,rfl⟩,trivial⟩
 |.sl _=>⟨rfl,trivial⟩
 |.pair _ _=>dJ lh lh
 |.st a=>lh (t:=a)
theorem gC{t:Ty}(ht:t.isSt=T'\/t.n=1):(mkV t (zc t)).cells.toList=zc t:=by
 rcases ht with ht|ht
 ·simp[mkV,ht,Value.cells]
 ·cases t with
  |int=>rfl
  |bool=>rfl
  |str=>rfl
  |sl=>rfl
  |st a=>simp[mkV,Ty.isSt,Value.cells]
  |pair a b=>
   have h1:=mo (.pair a b);rw[ht]at h1;match hz:zc (.pair a b),h1 with
   |[v],_=>
    have:∀t:Ty,∀v∈zc t,v.cells.toList=[v]:=by
     intro t;induction t with
     |int=>intro v hv;simp[zc]at hv;subst hv;rfl
     |bool=>intro v hv;simp[zc]at hv;subst hv;rfl
     |str=>intro v hv;simp[zc]at hv;subst hv;rfl
     |sl=>intro v hv;simp[zc]at hv;subst hv;rfl
     |st a ih=>exact ih
     |pair a b iha ihb=>intro v hv;simp only[zc,ape]at hv;exact hv.elim (iha v) (ihb v)
    grind [mkV,Ty.isSt]
theorem vP{A:Nat->Prop}{w:World}:∀{t:Ty} {cs:List Value} {x:t.D},t.rd A w cs x->∀v∈cs,v.oneCell'=T'
 |.int _,_,_,h,v,hv=>by simp only[Ty.rd]at h;subst h;simp at hv;subst hv;rfl
 |.bool,_,_,h,v,hv=>by simp only[Ty.rd]at h;subst h;simp at hv;subst hv;rfl
 |.str,_,_,h,v,hv=>by simp only[Ty.rd]at h;subst h;simp at hv;subst hv;rfl
 |.pair a b,_,_,⟨l1,l2,h0,h1,h2⟩,v,hv=>by rw[h0]at hv;rcases ape.1 hv with h|h;exact vP h1 v h;exact vP h2 v h
 |.st a,_,_,h,v,hv=>vP (t:=a) h v hv
 |.sl e,_,_,⟨p,n,c,css,h0,_⟩,v,hv=>by subst h0;simp at hv;subst hv;rfl
theorem D3{A:Nat->Prop}{w:World}{e:Ty}:∀{css:List (List Value)} {xs:List e.D},bJ (λl y=>e.rd A w l y) css xs->∀v∈css.flatten,v.oneCell'=T'
 |[],[],_,v,hv=>by simp at hv
 |c::css,x::xs,⟨h1,h2⟩,v,hv=>by
  rw[apX]at hv;rcases ape.1 hv with h|h
  ·exact vP h1 v h
  ·exact D3 h2 v h
section
variable {Z:Nat->Prop} {w0:World} {n:Nat} {L:SL} {H:List Item} {G:List Value} {w:World} {a:Act} {P:Program} {T:TT} {R:Type}
theorem xK(hr:SR Z w0 H G w){s:SV}{v:Value}{l:List SV}(h:Rel G (Av Z H G) w s v)(hs:fH H s=S' l):∀u∈v.cells.toList,u.oneCell'=true:=by
 unfold fH at hs;split at hs
 ·cases hs
 ·rename_i t x hne;obtain⟨cs,h1,rfl⟩:=h;rw[vK (λa b e=>by subst e;exact hne a b x rfl HEq.rfl) h1];exact vP h1
 ·split at hs
  ·rename_i j _ et e xs hj;obtain⟨css,ho,_⟩:=hr.items j _ _ hj h;rcases dA ho with⟨rfl,_⟩|⟨b,c,rfl⟩<;>intro u hu<;>simp[Value.cells]at hu<;>subst hu<;>rfl
  grind
 ·rename_i s' hn1 hn2 hn3;split at hs<;>try (cases hs;done)
  rename_i hg;cases s with
  |d t x=>cases t<;>first|exact(hn1 _ _ _ rfl).elim|exact(hn2 _ _ rfl).elim
  |nil=>rw[show v=.slice none 0 0 from h];intro u hu;simp[Value.cells]at hu;subst hu;rfl
  |box j off=>obtain⟨b,_,rfl⟩:=h;intro u hu;simp[Value.cells]at hu;subst hu;rfl
  |elt e x off=>obtain⟨b,o,cs,rfl,_⟩:=h;intro u hu;simp[Value.cells]at hu;subst hu;rfl
  |own j=>exact(hn3 j rfl).elim
  |oelt j sz i off=>obtain⟨b,n,c,_,rfl⟩:=h;intro u hu;simp[Value.cells]at hu;subst hu;rfl
  |clo f caps=>obtain⟨bs,_,rfl⟩:=h;intro u hu;simp[Value.cells]at hu;subst hu;rfl
  |tup l=>simp[SV.good]at hg
  |undef=>simp[SV.good]at hg
  |dead=>simp[SV.good]at hg
  |cut e xs=>obtain⟨p,_,rfl⟩:=h;intro u hu;simp[Value.cells]at hu;subst hu;rfl
  |osl j sz lo n=>obtain⟨g,q,c,_,rfl,_⟩:=h;intro u hu;simp[Value.cells]at hu;subst hu;rfl
theorem Qf(hr:SR Z w0 H G w){it:Item}{g:Value}(hg:∀b,bh g=S' b->w.heap.size<=b){b:Nat}(hb:b<w.heap.size)(h:fW (H++[it]) (G++[g]) b):fW H G b:=by
 obtain⟨j,jt,g',h1,hw,h2,h3⟩:=h;rcases apu j H.length with hlt|hge
 ·rw[apc hlt]at h1;rw[apc (by rw[hr.len];exact hlt)]at h2;exact⟨j,jt,g',h1,hw,h2,h3⟩
 grind [hr.len]
theorem Dg(hr:SR Z w0 H G w){w':World}(hb:Below w.heap.size w w'){it:Item}{g:Value}(hg:∀b,bh g=S' b->w.heap.size<=b)(fl:Nat)(st ap:Bool):Chg Z fl st ap H G w (H++[it]) (G++[g]) w':=
 ⟨λs v h _=>cU hr (jr hr hb hg) h,.inr ⟨⟨hb.size,λb h1 _=>hb.block b h1⟩,λb h1 h2=>Qf hr hg h1 h2⟩,by simp⟩
theorem gH(w:World)(o:Obj):Below w.heap.size w (w.alloc o):=(arl _ _).alloc (aoU _) o
theorem Lg(hr:SR Z w0 H G w)(hf:FR Z n L H G w a){t:TypeId}{cs:List SV}{vs:Array Value}(hcs:bJ (Rel1 G (Av Z H G) w) cs vs.toList)(fl:Nat)(st ap:Bool):
  ∃G',SR Z w0 (H++[.box t cs]) G' (w.alloc (.cells vs t))/\FR Z n L (H++[.box t cs]) G' (w.alloc (.cells vs t)) a/\Rel G' (Av Z (H++[.box t cs]) G') (w.alloc (.cells vs t)) (.box H.length 0) (.pointer (S' ⟨w.heap.size,0,N'⟩))/\Chg Z fl st ap H G w (H++[.box t cs]) G' (w.alloc (.cells vs t)):=by
 have hb:=gH w (.cells vs t);have hg:∀b,bh (.pointer (S' ⟨w.heap.size,0,N'⟩))=S' b->w.heap.size<=b:=λb h=>by simp[bh]at h;omega
 have hst:=jr (it:=.box t cs) hr hb hg;refine⟨G++[.pointer (S' ⟨w.heap.size,0,N'⟩)],uM hr hb hg ⟨w.heap.size,vs.toList,rfl,hr.below.size,Blk.new w t vs,a8 (λs v h=>cU hr hst h) hcs⟩,hf.keep λs v h=>cU hr hst h,⟨w.heap.size,?_,rfl⟩,Dg hr hb hg fl st ap⟩;simp[hr.len]
theorem lL(hr:SR Z w0 H G w)(hf:FR Z n L H G w a){w':World}(hb:Below w.heap.size w w'){et:TypeId}{e:Ty}{xs:List e.D}{v:Value}{css:List (List Value)}(ho:w'.ownsRow w.heap.size et e.n v xs.length css.flatten)(he:0<e.n)
  (hcs:bJ (λl y=>e.rd (λb=>(Av Z H G b\/w.heap.size<=b)/\bh v≠S' b) w' l y) css xs) (fl:Nat) (st ap:Bool):
  ∃G',SR Z w0 (H++[.row et e xs]) G' w'/\FR Z n L (H++[.row et e xs]) G' w' a/\Rel G' (Av Z (H++[.row et e xs]) G') w' (.own H.length) v/\Chg Z fl st ap H G w (H++[.row et e xs]) G' w':=by
 have hg:∀b,bh v=S' b->w.heap.size<=b:=λb h=>by
  rcases dA ho with⟨rfl,_⟩|⟨b',c,rfl⟩
  ·simp[bh]at h
  ·exact(ho.lt b (by simpa [Value.ownBlock,bh]using h)).1
 have hst:=jr (it:=.row et e xs) hr hb hg
 have hown:w'.ownsRow w0.heap.size et e.n v xs.length css.flatten:=by
  refine⟨ho.1,?_⟩;rcases ho.2 with h|⟨g,cap,cur,h1,h2,h3⟩
  ·exact .inl h
  ·exact .inr ⟨g,cap,cur,h1,ao1 hr.below.size h2,h3⟩
 have hav:∀b,b<w'.heap.size->((Av Z H G b\/w.heap.size<=b)/\bh v≠S' b)->Av Z (H++[.row et e xs]) (G++[v]) b:=by
  rintro b _ ⟨h1,h2⟩
  refine⟨h1.elim (λh=>h.1) (λh=>hr.zf b (ao1 hr.below.size h)),λj it g hj hl hgj=>?_⟩;rcases apu j H.length with hlt|hge
  ·rw[apc hlt]at hj;rw[apc (by rw[hr.len];exact hlt)]at hgj;rcases h1 with h1|h1
   ·exact h1.2 j it g hj hl hgj
   ·exact λh=>by have:=((hr.items j it g hj hgj).blk hl h).2;omega
  ·rw[apm (by rw[hr.len];exact hge)]at hgj;have h4:=apM hgj;simp at h4;subst h4;exact h2
 refine⟨G++[v],uM hr hb hg ⟨css,hown,a8 (λl y h=>Ty.rd_keep ⟨aoU _,hav,λ_ _ _=>rfl⟩ h) hcs,he⟩,hf.keep λs v h=>cU hr hst h,?_,Dg hr hb hg fl st ap⟩;show(G++[v])[H.length]?=S' v;rw[apm (by rw[hr.len];exact aoU _),hr.len,arg];rfl
theorem CC(hr:SR Z w0 H G w)(hf:FR Z n L H G w a){w':World}(hb:Below w.heap.size w w'){et:TypeId}{cells:List SV}{vs:List Value}{v:Value}(ho:w'.ownsRow w.heap.size et 1 v cells.length vs)(hcs:bJ (Rel1 G (Av Z H G) w) cells vs)(fl:Nat)(st ap:Bool):
  ∃G',SR Z w0 (H++[.rws et cells]) G' w'/\FR Z n L (H++[.rws et cells]) G' w' a/\Rel G' (Av Z (H++[.rws et cells]) G') w' (.own H.length) v/\Chg Z fl st ap H G w (H++[.rws et cells]) G' w':=by
 have hg:∀b,bh v=S' b->w.heap.size<=b:=λb h=>by
  rcases dA ho with⟨rfl,_⟩|⟨b',c,rfl⟩
  ·simp[bh]at h
  ·exact(ho.lt b (by simpa [Value.ownBlock,bh]using h)).1
 have hst:=jr (it:=.rws et cells) hr hb hg;refine⟨G++[v],uM hr hb hg ⟨vs,⟨ho.1,ho.2.imp id λ⟨g,cap,cur,h1,h2,h3⟩=>⟨g,cap,cur,h1,ao1 hr.below.size h2,h3⟩⟩,a8 (λs v h=>cU hr hst h) hcs⟩,hf.keep λs v h=>cU hr hst h,?_,Dg hr hb hg fl st ap⟩;show(G++[v])[H.length]?=S' v;rw[apm (by rw[hr.len];exact aoU _),hr.len,arg];rfl
theorem yp(hr:SR Z w0 H G w){s:SV}{v:Value}(hs:vU H s=T')(h:Rel1 G (Av Z H G) w s v):v.oneCell'=true:=by
 unfold vU at hs;split at hs
 ·split at hs
  ·rename_i j _ et e xs hj;obtain⟨css,ho,_⟩:=hr.items j _ _ hj h;rcases dA ho with⟨rfl,_⟩|⟨b,c,rfl⟩<;>rfl
  ·cases hs
 ·cases hs
end
end
section
theorem jp{P:Program}{g:Nat}(hc:cQ P g=T')(ρ:Operand->Value)(o:Oper)(f:Operand)(args:Array Operand)(tys:Array TypeId)(caps:Array Value)(ho:o.op=.call ⟨.value f,args,tys⟩)(hf:ρ f=.func (.func g) #[] caps)(w:World):
  (execOp ρ o).run P w=.ok (.enter g (args.map ρ++caps)) w:=by
 unfold cQ at hc;split at hc
 ·rename_i fn hfn;simp only[aoT]at hc;have hb:¬fn.body=none:=λh=>by rw[h]at hc;simp at hc
  have hn : ¬ fn.name = "runtime.NumGoroutine" := by simpa using hc.1
  simp[execOp,ho,resolve,hf,Deferred.ofValue,invoke,callFunc,hfn,hn,hb]
 grind
section
variable {Z:Nat->Prop} {w0:World} {n:Nat} {L L':SL} {H H':List Item} {G:List Value} {w:World} {a:Act} {P:Program} {T:TT} {R:Type}
theorem AC{fl j:Nat}(hr:SR Z w0 H G w)(hf:FR Z n L H G w a)(h:rK fl j L H=S' (L',H')):SR Z w0 H' G w/\FR Z n L' H' G w a/\(∀s v,Rel1 G (Av Z H G) w s v->(∀j,s.of1 j=T'->j<fl)->Rel1 G (Av Z H' G) w s v)/\(∀b,fW H' G b->fW H G b)/\H.length=H'.length:=by
 unfold rK at h;split at h<;>try (cases h;done)
 rename_i et e xs hfl hj;simp only[aoX,apt]at h;obtain⟨rfl,rfl⟩:=h;obtain⟨h1,h2⟩:=L8 hr hj;have hfl:=aoV hfl;refine⟨h1,hf.map h2,λs v hsv hlt=>?_,λb hb=>?_,by simp⟩
 ·have:fz j e xs s=s:=by
   unfold fz;cases hof:s.of1 j with
   |true=>have:=hlt j hof;omega
   |false=>rfl
  have:=h2 s v hsv;rwa [‹fz j e xs s=s›]at this
 ·obtain⟨i,it',g',k1,kw,k2,k3⟩:=hb;rw[apY]at k1;split at k1
  ·split at k1
   ·injection k1 with k1;subst k1;cases kw
   ·cases k1
  ·rw[apS]at k1;cases hh:H[i]? with
   |none=>rw[hh]at k1;cases k1
   |some it=>
    rw[hh]at k1;injection k1 with k1;subst k1;exact⟨i,it,g',hh,by rw[<-Lh];exact kw,k2,k3⟩
theorem If{fl:Nat}:∀{l:List SV} {L:SL} {H:List Item},SR Z w0 H G w->FR Z n L H G w a->fzS fl l L H=S' (L',H')->SR Z w0 H' G w/\FR Z n L' H' G w a/\(∀s v,Rel1 G (Av Z H G) w s v->(∀j,s.of1 j=T'->j<fl)->Rel1 G (Av Z H' G) w s v)/\(∀b,fW H' G b->fW H G b)/\H.length=H'.length
 |[],L,H,hr,hf,h=>by
  simp only[fzS,aoX,apt]at h;obtain⟨rfl,rfl⟩:=h;exact⟨hr,hf,λs v h _=>h,λb h=>h,rfl⟩
 |x::r,L,H,hr,hf,h=>by
  unfold fzS at h;split at h
  ·contradiction
  ·rename_i e;injection e with e1 e2;subst e1 e2;split at h<;>try (cases h;done)
   rename_i hg;obtain⟨h1,h2,h3,h4,h5⟩:=AC hr hf hg;obtain⟨g1,g2,g3,g4,g5⟩:=If h1 h2 h;exact⟨g1,g2,λs v hs hl=>g3 s v (h3 s v hs hl) hl,λb hb=>h4 b (g4 b hb),h5.trans g5⟩
  ·rename_i e;injection e with e1 e2;subst e1 e2;exact If hr hf h
theorem mt{fl:Nat}:∀{ops:List Operand} {L:SL} {H:List Item},SR Z w0 H G w->FR Z n L H G w a->pS fl ops L H=S' (L',H')->SR Z w0 H' G w/\FR Z n L' H' G w a/\(∀s v,Rel1 G (Av Z H G) w s v->(∀j,s.of1 j=T'->j<fl)->Rel1 G (Av Z H' G) w s v)/\(∀b,fW H' G b->fW H G b)/\H.length=H'.length
 |[],L,H,hr,hf,h=>by
  simp only[pS,aoX,apt]at h;obtain⟨rfl,rfl⟩:=h;exact⟨hr,hf,λs v h _=>h,λb h=>h,rfl⟩
 |x::r,L,H,hr,hf,h=>by
  simp only[pS]at h;split at h;case h_3=>exact mt hr hf h
  all_goals
   split at h<;>try (cases h;done)
   rename_i hg;obtain⟨h1,h2,h3,h4,h5⟩:=AC hr hf hg;obtain⟨g1,g2,g3,g4,g5⟩:=mt h1 h2 h;exact⟨g1,g2,λs v hs hl=>g3 s v (h3 s v hs hl) hl,λb hb=>h4 b (g4 b hb),h5.trans g5⟩
theorem afs{fl:Nat}{o:Oper}(hr:SR Z w0 H G w)(hf:FR Z n L H G w a)(h:fzB T fl o L H=S' (L',H')):SR Z w0 H' G w/\FR Z n L' H' G w a/\(∀s v,Rel1 G (Av Z H G) w s v->(∀j,s.of1 j=T'->j<fl)->Rel1 G (Av Z H' G) w s v)/\(∀b,fW H' G b->fW H G b)/\H.length=H'.length:=by
 unfold fzB at h;split at h
 ·exact mt hr hf h
 ·exact If hr hf h
 grind
theorem Chg.after{fl:Nat}{st ap:Bool}{H1:List Item}{G':List Value}{w':World}(h1:∀s v,Rel1 G (Av Z H G) w s v->(∀j,s.of1 j=T'->j<fl)->Rel1 G (Av Z H' G) w s v)(h2:∀b,fW H' G b->fW H G b)(h3:H.length=H'.length)(h:Chg Z fl st ap H' G w H1 G' w'):Chg Z fl st ap H G w H1 G' w':=
 ⟨λs v hsv hlt=>h.pres s v (h1 s v hsv hlt) hlt,h.agr.imp id λ⟨g1,g2⟩=>⟨⟨g1.1,λb hb hor=>g1.2 b hb (hor.imp id λhn hx=>hn (h2 b hx))⟩,λb hb hx=>h2 b (g2 b hb hx)⟩,by rw[h3];exact h.len⟩
theorem io{ss0:List SV}(hr:SR Z w0 H G w){A:Nat->Prop}(hA:∀b,b<w.heap.size->Av Z H G b->A b)(hAj:(∀(j:Nat) g b,G[j]?=S' g->bh g=S' b->(∃et e xs,H[j]?=S' (.row et e xs))->A b)\/∀s∈ss0,s.noOwn=T'):∀{ss al:List SV} {tys:List Nat} {vs:List Value},(∀s∈ss,s∈ss0)->fe T H ss tys=S' al->bJ (Rel G (Av Z H G) w) ss vs->bJ (Rel1 [] A w) al vs
 |[],al,[],[],_,h,_=>by simp only[fe,aoX]at h;subst h;trivial
 |[],al,_::_,_,_,h,_=>by simp[fe]at h
 |_::_,al,[],_,_,h,_=>by simp[fe]at h
 |s::ss,al,t::ts,v::vs,hss,h,⟨h1,h2⟩=>by
  simp only[fe]at h;split at h<;>try (cases h;done)
  rename_i r0 hr0;have ih:=io hr hA hAj (λs hs=>hss s (by simp[hs])) hr0 h2;have hk:Keeps (Av Z H G) A w w:=⟨aoU _,hA,λ_ _ _=>rfl⟩
  split at h
  ·rename_i t x;injection h with h;subst h;obtain⟨cs,g1,g2⟩:=h1;exact⟨⟨cs,Ty.rd_keep hk g1,g2⟩,ih⟩
  ·split at h<;>try (cases h;done)
   split at h<;>try (cases h;done)
   injection h with h;subst h;exact⟨⟨[v],by rw[show v=.slice none 0 0 from h1];exact yU,rfl⟩,ih⟩
  ·rename_i j;split at h<;>try (cases h;done)
   rename_i et e xs hj;injection h with h;subst h;rcases hAj with hAj|hno
   ·exact⟨⟨[v],RF hr hj h1 hA (λb hb=>hAj j _ b h1 hb ⟨_,_,_,hj⟩),rfl⟩,ih⟩
   ·have:=hno (.own j) (hss _ (by simp));cases this
  ·rename_i e xs;injection h with h;subst h;obtain⟨p,g1,rfl⟩:=h1;exact⟨⟨_,Ty.rd_keep hk g1,rfl⟩,ih⟩
  ·rename_i j sz lo n0;split at h<;>try (cases h;done)
   rename_i et e xs hj;split at h<;>try (cases h;done)
   rename_i hsz;have hsz:=aoS hsz;subst hsz;injection h with h;subst h;rcases hAj with hAj|hno
   ·exact⟨⟨[v],RU hr hj h1 hA (λg b hg hb=>hAj j g b hg hb ⟨_,_,_,hj⟩),rfl⟩,ih⟩
   ·have:=hno (.osl j e.n lo n0) (hss _ (by simp));cases this
  ·cases h
theorem Db{H':List Item}:∀{l:List SV} {ts:List Nat},l.all SV.noOwn=T'->fe T H l ts=fe T H' l ts
 |[],[],_=>rfl
 |[],_::_,_=>rfl
 |_::_,[],_=>rfl
 |s::l,t::ts,h=>by
  simp only[aqR,aoT]at h;have ih:=Db (H':=H') (ts:=ts) h.2;simp only[fe];rw[ih];cases s<;>first|rfl|(have:=h.1;cases this)
theorem AK{s:SV}{t:Nat}{l al:List SV}{ts:List Nat}(h:fe T H (s::l) (t::ts)=S' al):∃x r,al=x::r/\fe T H l ts=S' r/\fe T H [s] [t]=S' [x]:=by
 simp only[fe]at h ⊢;split at h<;>try (cases h;done)
 rename_i r hr;rw[hr];cases s<;>dsimp only at h ⊢ <;>(repeat' split at h)<;>first|(cases h;done)|(injection h with h;subst h;exact⟨_,_,rfl,rfl,by simp only[*]⟩)
theorem EW(hr:SR Z w0 H G w):∀{p:Nat} {ss al:List SV} {tys:List Nat} {vs:List Value},rV p ss=T'->fe T (H.map rdI) ss tys=S' al->bJ (Rel G (Av Z H G) w) ss vs->XJ (Av Z H G) w p al vs
 |0,[],_,_,_,h,_,_=>by simp[rV]at h
 |_+1,[],_,_,_,h,_,_=>by simp[rV]at h
 |_,_::_,_,[],_,_,h,_=>by simp[fe]at h
 |0,s::l,al,t::ts,v::vs,h,ha,⟨h1,h2⟩=>by
  cases s<;>try (simp[rV]at h;done)
  rename_i j;have h:l.all SV.noOwn=true:=h;obtain⟨x,r,rfl,g1,g2⟩:=AK ha;rw[Db (H':=H) h]at g1;refine⟨?_,io (ss0:=l) hr (λ_ _ h=>h) (.inr λs hs=>apa.1 h s hs) (λ_ h=>h) g1 h2⟩;simp only[fe]at g2;split at g2<;>try (cases g2;done)
  rename_i et e xs hj;injection g2 with g2;injection g2 with g2;subst g2;obtain⟨css,et',ho,hrd,hn⟩:=hr.read hj h1;refine⟨e,xs,et',css,rfl,ho,hrd,hn,λb hb hA=>?_⟩;obtain⟨_,it,k1,k2⟩:=hr.rblk hj h1 hb;exact hA.2 j it v k1 k2 h1 hb
 |p+1,s::l,al,t::ts,v::vs,h,ha,⟨h1,h2⟩=>by
  simp only[rV,aoT]at h;obtain⟨x,r,rfl,g1,g2⟩:=AK ha;refine⟨?_,EW hr h.2 g1 h2⟩;have hs:[s].all SV.noOwn=true:=by simp[h.1]
  rw[Db (H':=H) hs]at g2;exact(io (ss0:=[s]) hr (λ_ _ h=>h) (.inr λs hs'=>apa.1 hs s hs') (λ_ h=>h) (vs:=[v]) g2 ⟨h1,trivial⟩).1
theorem NU(hr:SR Z w0 H G w){b:Nat}(hb:w.heap.size<=b):Av Z H G b:=⟨hr.zf b (ao1 hr.below.size hb),λj it g h1 h2 h3 h4=>by have:=((hr.items j it g h1 h3).blk h2 h4).2;omega⟩
theorem UJ{A:Nat->Prop}{t:Ty}{x:t.D}{v:Value}{G':List Value}{A':Nat->Prop}{w':World}(hfl:t.flat=T')(h:Rel1 [] A w (.d t x) v):Rel1 G' A' w' (.d t x) v:=by
 obtain⟨cs,h1,h2⟩:=h;refine⟨cs,?_,h2⟩;rw[ql hfl h1];grind [pL]
theorem gK(hr:SR Z w0 H G w)(hf:FR Z n L H G w a){A:Nat->Prop}{w':World}{rs:List RV}{v:Value}{k:SV->List Item->Option R}{r:R}(hb:Below w.heap.size w w')(hres:rn (λb=>A b\/w.heap.size<=b) w.heap.size w' rs v)
  (hA:(∀b,b<w.heap.size->A b->Av Z H G b)\/ya rs=T') (h:ph H rs k=S' r) (fl:Nat) (st ap:Bool):
  ∃s H' G',k s H'=S' r/\SR Z w0 H' G' w'/\FR Z n L H' G' w' a/\Rel G' (Av Z H' G') w' s v/\Chg Z fl st ap H G w H' G' w':=by
 have hsg:=uv hr hb;have hsr:=LI hr hb;have hfr:FR Z n L H G w' a:=hf.keep λs v h=>cU hr hsg h;have hchg:Chg Z fl st ap H G w H G w':=⟨λs v h _=>cU hr hsg h,.inr ⟨⟨hb.size,λb h1 _=>hb.block b h1⟩,λb _ h=>h⟩,aoU _⟩
 have one:∀{t:Ty} {x:t.D} {v:Value},Rel1 [] (λb=>A b\/w.heap.size<=b) w' (.d t x) v->((∀b,b<w.heap.size->A b->Av Z H G b)\/t.flat=T')->Rel1 G (Av Z H G) w' (.d t x) v:=by
  intro t x v h hor;rcases hor with hA|hfl
  ·obtain⟨cs,h1,h2⟩:=h;refine⟨cs,Ty.rd_keep ⟨aoU _,λb _ hb'=>?_,λ_ _ _=>rfl⟩ h1,h2⟩;rcases apu b w.heap.size with hlt|hge
   ·exact hb'.elim (hA b hlt) (λh=>by omega)
   ·exact NU hr hge
  ·exact UJ hfl h
 unfold ph at h;split at h
 ·rename_i et e xs;obtain⟨css,h1,h2,h3⟩:=hres
  have h2':bJ (λl y=>e.rd (λb=>(Av Z H G b\/w.heap.size<=b)/\bh v≠S' b) w' l y) css xs:=by
   rcases hA with hA|hfl
   ·refine a8 (λl y h=>Ty.rd_keep ⟨aoU _,λb _ hb'=>?_,λ_ _ _=>rfl⟩ h) h2;refine⟨?_,hb'.2⟩;rcases apu b w.heap.size with hlt|hge
    ·exact hb'.1.elim (λh=>.inl (hA b hlt h)) (λh=>by omega)
    ·exact .inr hge
   ·have hfl:e.flat=true:=hfl;exact a8 (λl y h=>by rw[ql hfl h];exact pL hfl) h2
  obtain⟨G',g1,g2,g3,g4⟩:=lL hr hf hb h1 h3 h2' fl st ap;exact⟨_,_,G',h,g1,g2,g3,g4⟩
 ·rename_i t x;exact⟨_,_,G,h,hsr,hfr,dN (one hres (hA.imp id λh=>by simpa [ya,RV.flat]using h)),hchg⟩
 ·rename_i hn1 hn2;split at h<;>try (cases h;done)
  rename_i l hl;refine⟨_,_,G,h,hsr,hfr,?_,hchg⟩
  have hres':∃vs:List Value,v=.tuple vs.toArray/\∃l,rvS rs=S' l/\bJ (Rel1 [] (λb=>A b\/w.heap.size<=b) w') l vs:=by
   unfold rn at hres;split at hres
   ·exact(hn1 _ _ _ rfl).elim
   ·exact(hn2 _ _ rfl).elim
   ·exact hres
  obtain⟨vs,h1,l',h2,h3⟩:=hres';rw[hl]at h2;injection h2 with h2;subst h2;refine⟨vs,h1,?_⟩
  replace hA:(∀b,b<w.heap.size->A b->Av Z H G b)\/rs.all RV.flat=true:=hA.imp id λh=>by
   unfold ya at h;split at h
   ·exact(hn1 _ _ _ rfl).elim
   ·exact h
  clear h hres hn1 hn2 h1;induction rs generalizing l vs with
  |nil=>simp only[rvS,aoX]at hl;subst hl;cases vs<;>exact h3
  |cons q rs ih=>
   have hA':(∀b,b<w.heap.size->A b->Av Z H G b)\/(q.flat=T'/\rs.all RV.flat=T'):=hA.imp id λh=>by simpa using h
   cases q with
   |d t x=>
    simp only[rvS]at hl;split at hl<;>try (cases hl;done)
    rename_i l2 hl2;injection hl with hl;subst hl;match vs,h3 with
    |v1::vs,⟨q1,q2⟩=>exact⟨one q1 (hA'.imp id λh=>h.1),ih l2 hl2 vs q2 (hA'.imp id λh=>h.2)⟩
   |new et e xs=>
    simp only[rvS]at hl;split at hl<;>try (cases hl;done)
    rename_i l2 hl2;injection hl with hl;subst hl;match vs,h3 with
    |v1::vs,⟨q1,q2⟩=>
     refine⟨?_,ih l2 hl2 vs q2 (hA'.imp id λh=>h.2)⟩;rcases hA' with hA'|hA'
     ·exact one q1 (.inl hA')
     ·simp[RV.flat]at hA'
end
end
section
theorem n9:∀(vs l r:List Value) (off:Nat),off+vs.length<=l.length->d7 (l++r) off vs=d7 l off vs++r
 |[],_,_,_,_=>rfl
 |v::vs,l,r,off,h=>by
  simp only[ao8]at h;simp only[d7];rw[List.set_append_left _ _ (by omega),n9 vs _ r (off+1) (by simp;omega)]
theorem lK:∀(vs l r:List Value) (off:Nat),d7 (l++r) (l.length+off) vs=l++d7 r off vs
 |[],_,_,_=>rfl
 |v::vs,l,r,off=>by
  simp only[d7];rw[List.set_append_right _ _ (by omega),Nat.add_sub_cancel_left,aqQ,lK vs l _ (off+1)]
theorem Bk:∀(vs l:List Value),l.length=vs.length->d7 l 0 vs=vs
 |[],l,h=>by cases l with|nil=>rfl|cons=>simp at h
 |v::vs,u::l,h=>by
  simp only[ao8,Nat.add_right_cancel_iff]at h;have:=lK vs [v] l 0;simp only[d7,List.set_cons_zero];simp only[apd,ars,aqk]at this;rw[ao3,this,Bk vs l h]
 |v::vs,[],h=>by simp at h
theorem Af:∀(vs l:List Value) (off N:Nat),off+vs.length<=N->N<=l.length->(d7 l off vs).take N=d7 (l.take N) off vs:=by
 intro vs l off N h1 h2;have:=n9 vs (l.take N) (l.drop N) off (by simp;omega);grind [aqi,mr]
theorem qD:∀(vs l:List Value) (off:Nat),off+vs.length<=l.length->d7 l off vs=l.take off++vs++l.drop (off+vs.length)
 |[],l,off,h=>by simp[d7]
 |v::vs,l,off,h=>by
  simp only[ao8]at h;simp only[d7];rw[qD vs (l.set off v) (off+1) (by simp;omega),list_seg_step l off v vs (by omega)];rfl
theorem rZ{sz:Nat}:∀{css:List (List Value)} {m:Nat} {l:List Value} {off:Nat} {vs:List Value},(∀l∈css,l.length=sz)->css[m]?=S' l->off+vs.length<=sz->d7 css.flatten (m*sz+off) vs=(css.set m (d7 l off vs)).flatten
 |[],_,_,_,_,_,h,_=>by simp at h
 |c::css,0,l,off,vs,hl,h,hb=>by
  simp at h;subst h;have hc:=hl c (by simp);simp only[apX,arS,ao3,List.set_cons_zero];rw[n9 _ _ _ _ (by omega)]
 |c::css,m+1,l,off,vs,hl,h,hb=>by
  have hc:=hl c (by simp);simp only[apX,List.set_cons_succ];rw[show(m+1)*sz+off=c.length+(m*sz+off) by rw[hc,aqC];omega,lK,rZ (λl hm=>hl l (by simp[hm])) (by simpa using h) hb]
theorem afF{A:Nat->Prop}{w:World}:∀{e:Ty} {l vs:List Value} {x x':e.D} {off:Nat} {t:Ty} {y:t.D},e.rd A w l x->e.upd x off t y=S' x'->t.rd A w vs y->e.rd A w (d7 l off vs) x'/\off+vs.length<=l.length:=by
 have lf:∀{e:Ty} {l vs:List Value} {x x':e.D} {off:Nat} {t:Ty} {y:t.D},e.rd A w l x->(match Nat.beq off 0 with|T'=>eU t e y|F'=>N')=S' x'->t.rd A w vs y->e.rd A w (d7 l off vs) x'/\off+vs.length<=l.length:=by
  intro e l vs x x' off t y hr h hy;split at h
  ·rename_i h0;have:off=0:=aoS h0;subst this;obtain⟨rfl,rfl⟩:=cZ h;have h1:=Ty.rd_len hr;have h2:=Ty.rd_len hy;rw[Bk vs l (by omega)];exact⟨hy,by omega⟩
  ·cases h
 intro e;induction e with
 |int k=>intro l vs x x' off t y hr h hy;exact lf hr h hy
 |bool=>intro l vs x x' off t y hr h hy;exact lf hr h hy
 |str=>intro l vs x x' off t y hr h hy;exact lf hr h hy
 |sl e=>intro l vs x x' off t y hr h hy;exact lf hr h hy
 |st a ih=>
  intro l vs x x' off t y hr h hy;simp only[Ty.upd]at h;split at h
  ·rename_i z h0 h1;injection h with h;subst h;exact lf (e:=.st a) hr (by rw[h0];exact h1) hy
  ·exact ih hr h hy
 |pair a b iha ihb=>
  intro l vs x x' off t y hr h hy;obtain⟨l1,l2,rfl,h1,h2⟩:=hr;simp only[Ty.upd]at h;split at h
  ·split at h<;>try (cases h;done)
   rename_i z hz;injection h with h;subst h;obtain⟨g1,g2⟩:=iha h1 hz hy;rw[n9 _ _ _ _ g2];exact⟨⟨_,_,rfl,g1,h2⟩,by simp;omega⟩
  ·rename_i hb;have hl1:=Ty.rd_len h1
   have hge:a.n<=off:=by
    rcases apu off a.n with hlt|hge
    ·have:Nat.ble (off+1) a.n=true:=apf hlt;rw[this]at hb;cases hb
    ·exact hge
   split at h<;>try (cases h;done)
   rename_i z hz;injection h with h;subst h;obtain⟨g1,g2⟩:=ihb h2 hz hy;have e:off=l1.length+(off-a.n):=by omega
   rw[e,lK,<-e];exact⟨⟨_,_,rfl,h1,g1⟩,by simp;omega⟩
theorem kW{P:Program}{t:Nat}{i:TI}(hc:chk P t i=T')(w:World)(b off:Nat)(bt:TypeId)(cur:Array Value)(v:Value)(hg:w.heap[b]?=S' (.cells cur bt (0,0)))(hl:v.cells.toList.length=i.ty.n)(hfit:off+v.cells.toList.length<=cur.size)(h1:∀u∈v.cells.toList,u.oneCell'=T'):
  (Instr.storeAt t (.pointer (S' ⟨b,off,N'⟩)) v).run P w=.ok () (w.setRow b (d7 cur.toList off v.cells.toList).toArray):=by
 have hst:=run_storeCells_at P b off bt v.cells.toList 0 cur w hg (by simpa using hfit) h1;rw[ars,<-qD _ _ _ (by simpa using hfit)]at hst;have hsz:=tj hc;cases hi:P.info? t with
 |none=>rw[hi]at hsz;cases hsz
 |some inf=>
  have hs:inf.size=i.ty.n:=by rw[hi]at hsz;simpa using hsz
  have hn:v.cells.size=inf.size:=by rw[hs,<-hl];simp
  simp[Instr.storeAt,Instr.sureAddr,storeVar,sizeOf,typeInfo,hi,hn,hst]
section
variable {Z:Nat->Prop} {w0:World} {n:Nat} {L:SL} {H:List Item} {G:List Value} {w:World} {a:Act} {P:Program} {T:TT}
theorem vY(w:World)(b:Nat)(cs:Array Value):(w.setRow b cs).heap.size=w.heap.size:=by simp
theorem Ea(hr:SR Z w0 H G w){b:Nat}(hb:w0.heap.size<=b)(cs:Array Value):Below w0.heap.size w0 (w.setRow b cs):=
 hr.below.trans ⟨rfl,rfl,rfl,by rw[vY];exact aoU _,λk hk=>setRow_other w b k cs (by omega)⟩
theorem tB(hr:SR Z w0 H G w)(hf:FR Z n L H G w a){j b:Nat}{it it':Item}{g:Value}{cs:Array Value}(hj:H[j]?=S' it)(hm:it.mine=T')(hg:G[j]?=S' g)(hb:bh g=S' b)(hit:(∀s v,Rel1 G (Av Z H G) w s v->Rel1 G (Av Z (H.set j it') G) (w.setRow b cs) s v)->(∀t l y,Ty.rd (Av Z H G) w t l y->Ty.rd (Av Z (H.set j it') G) (w.setRow b cs) t l y)->ItemRel w0.heap.size G (Av Z (H.set j it') G) (w.setRow b cs) it' g)(fl:Nat)(ap:Bool):
  SR Z w0 (H.set j it') G (w.setRow b cs)/\FR Z n L (H.set j it') G (w.setRow b cs) a/\Chg Z fl T' ap H G w (H.set j it') G (w.setRow b cs):=by
 have hl:it.live=true:=by cases it<;>first|rfl|cases hm
 have hblk:=(hr.items j it g hj hg).blk hl hb;have hbl:∀b',b'<w.heap.size->(∀g,G[j]?=S' g->bh g≠S' b')->(w.setRow b cs).heap[b']?=w.heap[b']?:=λb' _ hn=>setRow_other w b b' cs (λe=>by subst e;exact hn g hg hb);have hB:=Ea hr (hblk.1 hm) cs;have hz:w.heap.size<=(w.setRow b cs).heap.size:=by rw[vY];exact aoU _
 have hst:=pA (it':=it') hr hj hl hB hz hbl;refine⟨Ck hr hj hl hB hz hbl λg' hg'=>?_,hf.keep λs v h=>cU hr hst h,⟨λs v h _=>cU hr hst h,.inl rfl,by simp⟩⟩;rw[hg]at hg';injection hg' with hg';subst hg';exact hit (λs v h=>cU hr hst h) (λt l y h=>Ty.rd_keep (hst.keeps hr) h)
end
end
section
def dO:Op->Bool
 |.store .. =>true
 |.call ⟨.builtin .clear,_,_⟩=>true
 |_=>false
def isSt:Op->Bool
 |.store .. =>true
 |_=>false
def vX:Op->Bool
 |.call ⟨.builtin .append,_,_⟩=>true
 |_=>false
theorem iD{w:World}{base et sz m:Nat}{g:Value}{cs:List Value}(h:w.ownsRow base et sz g m cs):g.ownBlock=bh g:=by
 rcases dA h with⟨rfl,_⟩|⟨b,c,rfl⟩<;>rfl
theorem ME{k:Nat}(h:k<=140737488355328):k<=maxLen:=by unfold maxLen;omega
theorem wd{P:Program}(w:World){t el:TypeId}{j:TypeInfo}{z:Value}{sz len:Nat}{parts:Array (Nat×Value)}{us:Array Value}(hu:P.underlying t=S' (.slice el))(hj:P.info? el=S' j)(hjs:j.size=sz)(hjz:j.zero=S' z)(hn:0<sz)(hb:len*sz<=16777216)
  (hf:Instr.fill (λi=>S' (i*sz,sz)) (madeCells z.cells (len*sz)) parts.toList=S' us):(Instr.buildSlice t len parts).run P w=.ok (.slice (S' ⟨w.heap.size,0,N'⟩) len len) (w.alloc (.cells us el)):=by
 subst hjs;have hgt:¬(len*j.size>16777216):=by omega
 have hf':Instr.fill (λi=>S' (i*j.size,j.size)) ((Array.range (len*j.size)).map (z.cells[·%z.cells.size]!)) parts.toList=S' us:=hf;by_cases hne:len*j.size=0
 ·have hr:Array.range 0= #[]:=rfl;rw[hne,hr,Array.map_empty]at hf';simp only[Instr.buildSlice,apO,apn hu,api,sizeOf,typeInfo,aqh];simp[hj,hne,newRow,hr,hf']
 ·simp only[Instr.buildSlice,apO,apn hu,api,sizeOf,typeInfo,aqh];simp[hj,hgt,hne,zeroValue,typeInfo,hjz,hf',newRow]
theorem mM{P:Program}(w:World)(base:Nat)(t ty e:TypeId)(i:TypeInfo)(size:Nat)(ht:P.underlying t=S' (.slice e))(hi:P.info? e=S' i)
  (v:Value) (n:Nat) (xs:List Value) (hown:w.ownsRow base e size v n xs) (c:Nat):
  (Builtin.append_ #[t,t] ty #[v,.slice N' 0 c]).run P w=.ok v w:=by
 rcases hown.2 with⟨rfl,rfl⟩|⟨g,cap,cur,rfl,_,_,hnc,_⟩
 ·simp[Builtin.append_,apn ht,sizeOf,typeInfo,hi,Builtin.lenOf,Builtin.firstCells]
 ·simp[Builtin.append_,apn ht,sizeOf,typeInfo,hi,Builtin.lenOf,Builtin.firstCells,hnc,storeCells]
theorem Bs{A:Nat->Prop}{w:World}:∀{xs:List Int} {css:List (List Value)},bJ (λl y=>(Ty.int .i64).rd A w l y) css xs->css.flatten=xs.map (Value.int .i64)
 |[],[],_=>rfl
 |y::ys,c::css,⟨q1,q2⟩=>by
  have:c=[Value.int .i64 y]:=q1;subst this;rw[apX,Bs q2];rfl
section
variable {Z:Nat->Prop} {w0:World} {n:Nat} {L:SL} {H:List Item} {G:List Value} {w:World} {a:Act} {P:Program} {T:TT} {E:Env} {R:Type}
theorem Wb(hr:SR Z w0 H G w){s:SV}{v:Value}{e:Ty}{ys:List e.D}{t:Nat}(h:Rel G (Av Z H G) w s v)(ha:fe T (H.map rdI) [s] [t]=S' [.d (.sl e) ys]):
  ∃p m c css,v=.slice p m c/\ys.length=m/\bJ (λl y=>e.rd (Av Z H G) w l y) css ys/\(0<m->∃b off,p=S' ⟨b,off,N'⟩/\jd w b off (List.flatten css)):=by
 simp only[fe]at ha;split at ha
 ·rename_i t' x;simp only[aoX,arW,ash]at ha;cases ha;obtain⟨cs,hrd,rfl⟩:=h;obtain⟨p,m,c,css,rfl,h1,_,_,h4,h5⟩:=hrd;exact⟨p,m,c,css,rfl,h1,h4,λh0=>by obtain⟨b,off,g1,_,_,g4⟩:=h5 h0;exact⟨b,off,g1,g4⟩⟩
 ·split at ha<;>try (cases ha;done)
  split at ha<;>try (cases ha;done)
  simp only[aoX,arW,ash]at ha;cases ha;exact⟨N',0,0,[],h,rfl,trivial,λh0=>absurd h0 (by omega)⟩
 ·split at ha<;>try (cases ha;done)
  rename_i et e' xs hj;simp only[aoX,arW,ash]at ha;cases ha;obtain⟨css,_,ho,ha2,hn⟩:=hr.read hj h;obtain⟨_,p,c,hv,_,_,h3⟩:=Rd.of_own hn ho;exact⟨p,_,c,css,hv,rfl,ha2,λh0=>by obtain⟨b,off,g1,_,g3⟩:=h3 h0;exact⟨b,off,g1,g3⟩⟩
 ·simp only[aoX,arW,ash]at ha;cases ha;obtain⟨p,hrd,rfl⟩:=h;obtain⟨p',m,c,css,e1,h1,_,_,h4,h5⟩:=hrd;injection e1 with e1;rw[e1];exact⟨p',m,c,css,rfl,h1,h4,λh0=>by obtain⟨b,off,g1,_,_,g4⟩:=h5 h0;exact⟨b,off,g1,g4⟩⟩
 ·rename_i j sz lo n0;split at ha<;>try (cases ha;done)
  rename_i et e' xs hj;split at ha<;>try (cases ha;done)
  rename_i hsz;have hsz:=aoS hsz;subst hsz;simp only[aoX,arW,ash]at ha;cases ha;obtain⟨g,q,c,hg,rfl,h1,h2,h3,_⟩:=h;obtain⟨css0,_,ho,ha2,hn⟩:=hr.read hj hg;have hl4:=fu ha2
  have hN:0<n0->lo+n0<=xs.length:=λh0=>by
   obtain⟨b,N,c',rfl,h4,_⟩:=h3 h0;rcases dA ho with⟨h5,_⟩|⟨b',c'',h5⟩
   ·cases h5
   ·injection h5 with _ h5;omega
  refine⟨q,n0,c,(css0.drop lo).take n0,rfl,?_,iO _ (iL _ ha2),λh0=>?_⟩
  ·rcases apJ n0 with h0|h0
   ·subst h0;simp
   ·have:=hN h0;simp;omega
  ·obtain⟨b,N,c',rfl,h4,rfl⟩:=h3 h0;obtain⟨_,p,c1,hv,_,_,h6⟩:=Rd.of_own hn ho;injection hv with hv1 hv2 hv3;obtain⟨b',off,e1,h7,h8⟩:=h6 (by have:=hN h0;omega);rw[e1]at hv1;injection hv1 with hv1;injection hv1 with e2 e3;subst e2 e3;refine⟨b,_,rfl,λk u hu=>?_⟩;rw[em _ (λl hm=>hl4 l (aqu hm)),fQ _ hl4,aqs]at hu;split at hu
   ·rw[aqr]at hu;have:=h8 _ _ hu;rwa [ao3]at this
   ·cases hu
 ·cases ha
theorem FQ(hr:SR Z w0 H G w):∀{cs bs:List Nat},bJ (λj b=>G[j]?=S' (.pointer (S' ⟨b,0,N'⟩))) cs bs->bJ (Rel1 [] (λ_=>True) w) (cs.map (afu H)) (bs.map λb=>.pointer (S' ⟨b,0,N'⟩))
 |[],[],_=>trivial
 |[],_::_,h=>h.elim
 |_::_,[],h=>h.elim
 |j::cs,b::bs,⟨h1,h2⟩=>by
  refine⟨?_,FQ hr h2⟩;unfold afu;split
  ·rename_i x hj;obtain⟨b',vs,e,_,hb,ha⟩:=hr.items j _ _ hj h1;injection e with e;injection e with e;injection e with e;subst e;match vs,ha with
   |[v],⟨⟨cs,q1,q2⟩,_⟩=>
    have q1:cs=[.int .i64 x]:=q1;subst q1 q2;refine⟨b,0,[.int .i64 x],rfl,trivial,hb.lt,rfl,λi u hu=>?_⟩;rw[ao3];exact hb.cell i ((List.getElem?_toArray ..).trans hu)
  ·trivial
theorem FU{fl f:Nat}{args:List Operand}{tys:List Nat}{k:SV->List Item->Option R}{r:R}{Q:Value->World->Prop}{cs bs:List Nat}(hcv:bJ (λj b=>G[j]?=S' (.pointer (S' ⟨b,0,N'⟩))) cs bs)(hE:kY P E)(hI:inv w0)(hr:SR Z w0 H G w)(hf:FR Z n L H G w a)(h:T6 T E L H f cs args tys k=S' r)
  (hnext:∀s H' G' w' v,k s H'=S' r->SR Z w0 H' G' w'->FR Z n L H' G' w' a->Rel G' (Av Z H' G') w' s v->Chg Z fl F' F' H G w H' G' w'->Q v w'):
  cQ P f=T'/\Calls P f (args.map a.eval++bs.map λb=>Value.pointer (S' ⟨b,0,N'⟩)).toArray w λe w'=>∃v,e=.returned v/\Q v w':=by
 unfold T6 at h;split at h<;>try (cases h;done)
 rename_i sp hsp;obtain⟨hcl,hok,_⟩:=hE f sp hsp;refine⟨hcl,?_⟩;split at h<;>try (cases h;done)
 rename_i ss _ hss;split at h<;>try (cases h;done)
 rename_i al hal;obtain⟨rs,hk,hcon⟩:=hok _ _ _ _ h;have hrel:=io (A:=λ_=>True) (ss0:=ss) hr (λ_ _ _=>trivial) (.inl λ_ _ _ _ _ _=>trivial) (λs hs=>hs) hal (jC hf hss);refine(hcon _ w _ (kn hI hr.below) (dJ hrel (FQ hr hcv))).mono ?_;rintro e w' ⟨v,rfl,hb,hres⟩
 split at hk<;>try (cases hk;done)
 rename_i hkp;obtain⟨s,H',G',h1,h2,h3,h4,h5⟩:=gK hr hf hb hres (.inr hkp) hk fl F' F';grind
theorem Fg{fl f:Nat}{args:List Operand}{tys:List Nat}{k:SV->List Item->SL->Option R}{r:R}{Q:Value->World->Prop}(hE:kY P E)(hI:inv w0)(hr:SR Z w0 H G w)(hf:FR Z n L H G w a)(h:R9 T E fl L H f args tys k=S' r)
  (hnext:∀s H' L' G' w' v,k s H' L'=S' r->SR Z w0 H' G' w'->FR Z n L' H' G' w' a->Rel G' (Av Z H' G') w' s v->Chg Z fl F' F' H G w H' G' w'->Q v w'):
  cQ P f=T'/\Calls P f (args.map a.eval).toArray w λe w'=>∃v,e=.returned v/\Q v w':=by
 unfold R9 at h;split at h
 ·rename_i ss g hl;split at h<;>try (cases h;done)
  rename_i al hal;unfold aaT at hl;split at hl<;>try (cases hl;done)
  rename_i sp hsp;split at hl<;>try (cases hl;done)
  rename_i p g' hle;split at hl<;>try (cases hl;done)
  rename_i ss' hss;split at hl<;>try (cases hl;done)
  rename_i hat
  injection hl with hl;injection hl with e1 e2;subst e1 e2;obtain⟨hcl,_,_,hlo⟩:=hE f sp hsp;refine⟨hcl,?_⟩;obtain⟨rs,hk,hcon⟩:=hlo p _ hle _ _ _ _ h;refine(hcon _ w _ (kn hI hr.below) (EW hr hat hal (jC hf hss))).mono ?_;rintro e w' ⟨v,rfl,hb,hres⟩
  obtain⟨s,H',G',h1,h2,h3,h4,h5⟩:=gK hr hf hb hres (.inl λ_ _ h=>h) hk fl F' F';grind
 split at h<;>try (cases h;done)
 rename_i sp hsp;obtain⟨hcl,hok,_⟩:=hE f sp hsp;refine⟨hcl,?_⟩;split at h
 ·split at h<;>try (cases h;done)
  rename_i ss hss;split at h<;>try (cases h;done)
  rename_i al hal;obtain⟨rs,hk,hcon⟩:=hok _ _ _ _ h;have hrel:=io (A:=λ_=>True) (ss0:=ss) hr (λ_ _ _=>trivial) (.inl λ_ _ _ _ _ _=>trivial) (λs hs=>hs) hal (jC hf hss);refine(hcon _ w _ (kn hI hr.below) hrel).mono ?_;rintro e w' ⟨v,rfl,hb,hres⟩
  split at hk<;>try (cases hk;done)
  rename_i hkp;obtain⟨s,H',G',h1,h2,h3,h4,h5⟩:=gK hr hf hb hres (.inr hkp) hk fl F' F';grind
 ·split at h<;>try (cases h;done)
  rename_i L1 H1 hfz;split at h<;>try (cases h;done)
  rename_i ss hss;split at h<;>try (cases h;done)
  rename_i al hal hno;obtain⟨rs,hk,hcon⟩:=hok _ _ _ _ h;obtain⟨g1,g2,g3,g4,g5⟩:=mt hr hf hfz
  have hrel:bJ (Rel1 [] (Av Z H1 G) w) al (args.map a.eval):=by
   refine io (A:=Av Z H1 G) (ss0:=ss) g1 (λ_ _ h=>h) (.inr ?_) (λs hs=>hs) hal (jC g2 hss);intro s hs;exact apa.1 hno _ hs
  refine(hcon _ w _ (kn hI hr.below) hrel).mono ?_;rintro e w' ⟨v,rfl,hb,hres⟩
  obtain⟨s,H',G',h1,h2,h3,h4,h5⟩:=gK g1 g2 hb hres (.inl λ_ _ h=>h) hk fl F' F';grind [h5.after]
theorem AE{R S:SV->Value->Prop}{f:SV->SV}(h:∀s v,R s v->S (f s) v):∀{l:List SV} {vs:List Value},bJ R l vs->bJ S (l.map f) vs
 |[],[],_=>trivial
 |s::_,v::_,⟨h1,h2⟩=>⟨h s v h1,AE h h2⟩
theorem DE{fl:Nat}(hr:SR Z w0 H G w)(hf:FR Z n L H G w a){j:Nat}{it it':Item}{g g':Value}{w':World}(hfl:Nat.ble fl j=T')(hj:H[j]?=S' it)(hm:it.isRw=T')(hg:G[j]?=S' g)(hnp:∀a,g≠.pointer a)(h3:w.grownBy w' (bh g))(h4:bh g'=bh g\/bh g'=S' w.heap.size)
  (hit:(∀s v,Rel1 G (Av Z H G) w s v->Rel1 (G.set j g') (Av Z ((H.map (jM (ji j))).set j it') (G.set j g')) w' (ji j s) v)->(∀t l y,Ty.rd (Av Z H G) w t l y->Ty.rd (Av Z ((H.map (jM (ji j))).set j it') (G.set j g')) w' t l y)->ItemRel w0.heap.size (G.set j g') (Av Z ((H.map (jM (ji j))).set j it') (G.set j g')) w' it' g') (st:Bool):
  SR Z w0 ((H.map (jM (ji j))).set j it') (G.set j g') w'/\FR Z n (wx (ji j) L) ((H.map (jM (ji j))).set j it') (G.set j g') w' a/\Rel (G.set j g') (Av Z ((H.map (jM (ji j))).set j it') (G.set j g')) w' (.own j) g'/\Chg Z fl st T' H G w ((H.map (jM (ji j))).set j it') (G.set j g') w':=by
 have hst:=Q4 (it':=it') hr hj hm hg hnp h3 hr.below.size (g':=g') (λb hb=>by
  rcases h4 with h4|h4
  ·left;rw[<-h4];exact hb
  ·right;rw[h4]at hb;injection hb with hb;omega)
 have hlt:=(aoZ.1 hj).1;refine⟨hst.sr hr λi1 g1 k1 k2=>?_,hf.map λs v hs=>hst.rel1 hr hs (tY j False s),?_,λs v hs hfl'=>?_,.inr ⟨⟨h3.size,λb hb hor=>h3.block b hb λe1=>?_⟩,?_⟩,by simp⟩
 ·rw[apY,apB rfl,apB (by simpa using hlt)]at k1;rw[apY,apB rfl,apB (by rw[hr.len];exact hlt)]at k2;injection k1 with k1;injection k2 with k2;subst k1 k2;exact hit (λs v hs=>hst.rel1 hr hs (tY j False s)) λt l y h=>Ty.rd_keep (hst.keeps hr) h
 ·show(G.set j g')[j]?=S' g';rw[apY,apB rfl,apB (by rw[hr.len];exact hlt)]
 ·have hof:s.of1 j=false:=by
   cases hq:s.of1 j with
   |false=>rfl
   |true=>have:=hfl' j hq;have:=aoV hfl;omega
  have:=hst.rel1 hr hs (tY j False s);unfold ji at this;rw[hof]at this;exact this
 ·rcases hor with hor|hor
  ·cases hor
  ·exact hor ⟨j,_,_,hj,hm,hg,e1.symm⟩
 ·rintro b hb ⟨q,i2,g2,k1,kw,k2,k3⟩
  by_cases hq:j=q
  ·subst hq;rw[apY,apB rfl,apB (by rw[hr.len];exact hlt)]at k2;injection k2 with k2;subst k2;rcases h4 with h4|h4
   ·exact⟨j,_,_,hj,hm,hg,by rw[<-h4];exact k3⟩
   ·rw[h4]at k3;injection k3 with k3;omega
  ·rw[apY,aph hq]at k2;rw[apY,aph hq,apS]at k1;cases hh:H[q]? with
   |none=>rw[hh]at k1;cases k1
   |some it=>
    rw[hh]at k1;injection k1 with k1;subst k1;exact⟨q,it,g2,hh,by rw[<-Lh];exact kw,k2,k3⟩
set_option maxHeartbeats 1000000 in
theorem qx{fl:Nat}{o:Oper}{k:SV->List Item->SL->Option R}{r:R}{N:Act->World->Prop}{Q:Exit->Act->World->Prop}(hT:eO P T=T')(hE:kY P E)(hI:inv w0)(hr:SR Z w0 H G w)(hf:FR Z n L H G w a)(h:eop T E fl L H o k=S' r)
  (hnext:∀s H' L' G' w' v,k s H' L'=S' r->SR Z w0 H' G' w'->FR Z n L' H' G' w' a->Rel G' (Av Z H' G') w' s v->Chg Z fl (dO o.op||we E L o.op) (vX o.op) H G w H' G' w'->N (a.put o.dst v) w'):
  o.upon P a N Q ((execOp a.eval o).run P w):=by
 obtain⟨dst,op,type,pos,after,guard⟩:=o
 have val:∀{v w'},(execOp a.eval ⟨dst,op,type,pos,after,guard⟩).run P w=.ok (.value v) w'->N (a.put dst v) w'->Oper.upon P ⟨dst,op,type,pos,after,guard⟩ a N Q ((execOp a.eval ⟨dst,op,type,pos,after,guard⟩).run P w):=by
  intro v w' h1 h2;rw[h1];exact h2
 unfold eop at h;dsimp only at h hnext;split at h
 case h_1 t x=>
  split at h<;>try (cases h;done)
  rename_i s hs;split at h<;>try (cases h;done)
  rename_i cs hcs;have hrel:=aF hf hs;obtain⟨G',h1,h2,h3,h4⟩:=Lg (t:=t) hr hf (ot hr hrel hcs) fl F' F';refine val (v:=.pointer (S' ⟨w.heap.size,0,N'⟩)) (w':=w.alloc (.cells (a.eval x).cells t)) ?_ (hnext _ _ _ G' _ _ h h1 h2 h3 h4);simp[execOp,Instr.box,newVar,newRow]
 case h_2 t=>
  split at h<;>try (cases h;done)
  rename_i i hi;split at h<;>try (cases h;done)
  rename_i ty hz hne;have hck:=aG hT hi;obtain⟨inf,hinf,hzero⟩:=yd hck hz
  have hc:(mkV i.ty (zc i.ty)).cells.toList=zc i.ty:=gC (by
   generalize i.ty=ty at*
   cases ty<;>first|exact .inr rfl|exact .inl rfl|exact(hne _ _ rfl).elim)
  obtain⟨G',h1,h2,h3,h4⟩:=Lg (t:=t) (cs:=i.ty.zsplit) (vs:=(mkV i.ty (zc i.ty)).cells) hr hf (by rw[hc];exact lh) fl F' F';refine val (v:=.pointer (S' ⟨w.heap.size,0,N'⟩)) (w':=w.alloc (.cells (mkV i.ty (zc i.ty)).cells t)) ?_ (hnext _ _ _ G' _ _ h h1 h2 h3 h4);simp[execOp,Instr.alloc,zeroValue,typeInfo,hinf,hzero,newVar,newRow]
 case h_3 t len parts=>
  split at h
  ·rename_i j hlit;split at h<;>try (cases h;done)
   rename_i et e xs i hj hi;split at h<;>try (cases h;done)
   rename_i e2 he;unfold P6 at hlit;split at hlit<;>try (cases hlit;done)
   rename_i x hparts;split at hlit<;>try (cases hlit;done)
   rename_i j' hl1 hx;injection hlit with hlit;subst hlit;have hl1:=aoS hl1;subst hl1;have hck:=aG hT hi;obtain⟨hu,hn0,j2,hj2,hjs,_,hjz,hone⟩:=c9 hck he;have hxr:G[j']?=some (a.eval x):=aF hf hx;have h1:(a.eval x).oneCell'=true:=yp hr (s:=.own j') (by unfold vU;simp only[hj]) hxr
   have hcl:(a.eval x).cells= #[a.eval x]:=by
    obtain⟨css,ho,_⟩:=hr.items j' _ _ hj hxr;rcases dA ho with⟨e1,_⟩|⟨b,c,e1⟩<;>rw[e1]<;>rfl
   have hbw:=gH w (.cells #[a.eval x] i.el);have hown:=World.ownsRow_lit (e:=i.el) (size:=1) (base:=w.heap.size) w #[a.eval x] 1 (aoU _) (by unfold maxLen;omega) rfl;obtain⟨G',k1,k2,k3,k4⟩:=CC (et:=i.el) (cells:=[.own j']) (vs:=[a.eval x]) hr hf hbw hown ⟨hxr,trivial⟩ fl F' F';refine val (v:=.slice (S' ⟨w.heap.size,0,N'⟩) 1 1) (w':=w.alloc (.cells #[a.eval x] i.el)) ?_ (hnext _ _ _ G' _ _ h k1 k2 k3 k4);have hz1:=gC hone
   have h1':Instr.fill (λi=>S' (i*1,1)) (madeCells (mkV (.sl e2) (zc (.sl e2))).cells (1*1)) (parts.map λp=>(p.1,a.eval p.2)).toList=S' #[a.eval x]:=by
    have:(parts.map λp=>(p.1,a.eval p.2)).toList=[(0,a.eval x)]:=by simp[hparts]
    rw[this]
    have one1:∀(A:Array Value) (v:Value),A.size=1->A.setIfInBounds 0 v= #[v]:=λA v hA=>Array.ext (by simp[hA]) λi g1 g2=>by
     have:i=0:=by simp at g2;omega
     subst this;simp
    simp[Instr.fill,hcl,madeCells,one1]
   have:=wd (P:=P) w hu hj2 hjs hjz (sz:=1) (len:=1) (by decide) (by decide) h1';simp[execOp,this]
  split at h<;>try (cases h;done)
  rename_i i hi;split at h<;>try (cases h;done)
  rename_i e he;split at h<;>try (cases h;done)
  rename_i L1 H1 hfz;split at h<;>try (cases h;done)
  rename_i cs hfl;split at h<;>try (cases h;done)
  rename_i xs hjn hlen;have hlen1:=aoV hlen;obtain⟨g1,g2,g3,g4,g5⟩:=mt hr hf hfz;have hck:=aG hT hi;obtain⟨hu,hn0,j,hj,hjs,_,hjz,hone⟩:=c9 hck he;have hz1:=gC hone;have hcz:(mkV e (zc e)).cells.size=e.n/\(mkV e (zc e)).cells.toList=zc e:=⟨by have:=congrArg List.length hz1;rw[mo]at this;simpa using this,hz1⟩
  have hm:=tK (mkV e (zc e)).cells len;rw[hcz.1,hcz.2]at hm;obtain⟨us',h1,h2⟩:=uL g1 g2 (us:=madeCells (mkV e (zc e)).cells (len*e.n)) hfl (by rw[hm];exact Le (ks re) len);obtain⟨css,hcss,hrds,hxl⟩:=Fj hjn h2
  have hsz:us'.size=len*e.n:=by
   have:=gA (fu hrds);rw[<-hcss,dw hrds,hxl]at this;simpa using this
  have hown:=World.ownsRow_lit (e:=i.el) (size:=e.n) (base:=w.heap.size) w us' len (aoU _) (by unfold maxLen;have:=ao1 (Nat.le_mul_of_pos_right len hn0) hlen1;omega) hsz;have hbw:=gH w (.cells us' i.el);obtain⟨G',k1,k2,k3,k4⟩:=lL (et:=i.el) (css:=css) g1 g2 hbw (by rw[hxl,<-hcss];exact hown) hn0 (a8 (λl y h=>Ty.rd_keep ⟨hbw.size,λb hb hA=>⟨.inl hA,λhh=>by simp[bh]at hh;omega⟩,λb hb _=>hbw.block b hb⟩ h) hrds) fl F' F';refine val (v:=.slice (S' ⟨w.heap.size,0,N'⟩) len len) (w':=w.alloc (.cells us' i.el)) ?_ (hnext _ _ _ G' _ _ h k1 k2 k3 (k4.after g3 g4 g5))
  have h1':Instr.fill (λi=>S' (i*e.n,e.n)) (madeCells (mkV e (zc e)).cells (len*e.n)) (parts.map λp=>(p.1,a.eval p.2)).toList=S' us':=by
   rw[<-h1];simp
  have:=wd (P:=P) w hu hj hjs hjz hn0 hlen1 h1';simp[execOp,this]
 case h_4 t x y=>
  split at h<;>try (cases h;done)
  ·rename_i kd m i hso hs hi;split at h<;>try (cases h;done)
   ·rename_i e2 he;split at h<;>try (cases h;done)
    rename_i hd;have hd:=aoQ hd
    have hxy:y=x:=by
     cases x<;>cases y<;>simp only[HV,arp]at hso;rw[aoS hso]
    subst hxy;have hck:=aG hT hi;obtain⟨hu,hn0,j,hj,hjs,hjb,hjz,hone⟩:=c9 hck he;have hv:=dh (aF hf hs);obtain⟨k0,rfl⟩:∃k:Nat,m=(k:Int):=⟨m.toNat,(arO hd.1).symm⟩
    have hb1:k0*i.byt<=140737488355328:=by
     have:=hd.2.1;rw[<-aqd]at this;exact ar7.1 this
    have hb2:k0<=140737488355328:=ar7.1 hd.2.2;obtain⟨w',hrun,hown,hgr⟩:=run_make_full (P:=P) w w.heap.size t i.el j _ 1 hu hj hjz hjs kd kd k0 (by rw[hjb,Nat.mul_comm];omega) (ME hb2) (aoU _);have hm:=tK (mkV (.sl e2) (zc (.sl e2))).cells k0;have hcz:(mkV (.sl e2) (zc (.sl e2))).cells= #[.slice N' 0 0]:=rfl;rw[hcz]at hm hown
    have hrep:∀k:Nat,l9 [Value.slice N' 0 0] k=List.replicate k (.slice N' 0 0):=λk=>by
     induction k with
     |zero=>rfl
     |succ k ih=>show _::l9 _ k=_;rw[ih];rfl
    have hbw:Below w.heap.size w w':=⟨hgr.os,hgr.tape,hgr.output,hgr.size,λb hb=>hgr.block b hb (by simp)⟩
    have hr2:∀k,bJ (Rel1 G (Av Z H G) w) (List.replicate k SV.nil) (List.replicate k (.slice N' 0 0)):=λk=>by
     induction k with
     |zero=>trivial
     |succ k ih=>exact⟨rfl,ih⟩
    obtain⟨G',k1,k2,k3,k4⟩:=CC (et:=i.el) (cells:=List.replicate k0 .nil) (vs:=List.replicate k0 (.slice N' 0 0)) hr hf hbw (by
     rw[aq0,<-hrep,<-hm];exact hown) (hr2 k0) fl F' F'
    refine val (v:=.slice (S' ⟨w.heap.size,0,N'⟩) k0 k0) (w':=w') ?_ (hnext _ _ _ G' _ _ h k1 k2 k3 k4);simp[execOp,hv,hrun]
   rename_i e _ he;split at h<;>try (cases h;done)
   rename_i hd;have hd:=aoQ hd
   have hxy:y=x:=by
    cases x<;>cases y<;>simp only[HV,arp]at hso;rw[aoS hso]
   subst hxy;have hck:=aG hT hi;obtain⟨hu,hn0,j,hj,hjs,hjb,hjz,hone⟩:=c9 hck he;have hv:=dh (aF hf hs);obtain⟨k0,rfl⟩:∃k:Nat,m=(k:Int):=⟨m.toNat,(arO hd.1).symm⟩
   have hb1:k0*i.byt<=140737488355328:=by
    have:=hd.2.1;rw[<-aqd]at this;exact ar7.1 this
   have hb2:k0<=140737488355328:=ar7.1 hd.2.2;have hz1:=gC hone;have hcz:(mkV e (zc e)).cells.size=e.n:=by have:=congrArg List.length hz1;rw[mo]at this;simpa using this
   obtain⟨w',hrun,hown,hgr⟩:=run_make_full (P:=P) w w.heap.size t i.el j _ e.n hu hj hjz hjs kd kd k0 (by rw[hjb,Nat.mul_comm];omega) (ME hb2) (aoU _);have hm:=tK (mkV e (zc e)).cells k0;rw[hcz,hz1]at hm;obtain⟨r1,r2⟩:=nw (A:=λb=>(Av Z H G b\/w.heap.size<=b)/\bh (.slice (S' ⟨w.heap.size,0,N'⟩) k0 k0)≠S' b) (w:=w') (re (t:=e)) k0;have hbw:Below w.heap.size w w':=⟨hgr.os,hgr.tape,hgr.output,hgr.size,λb hb=>hgr.block b hb (by simp)⟩
   obtain⟨G',k1,k2,k3,k4⟩:=lL (et:=i.el) (e:=e) (xs:=List.replicate k0 e.zero) (css:=List.replicate k0 (zc e)) hr hf hbw (by rw[r2,<-hm,aq0];exact hown) hn0 r1 fl F' F';refine val (v:=.slice (S' ⟨w.heap.size,0,N'⟩) k0 k0) (w':=w') ?_ (hnext _ _ _ G' _ _ h k1 k2 k3 k4);simp[execOp,hv,hrun]
  ·rename_i kd m i hso hs hi;split at h<;>try (cases h;done)
   rename_i kd' n0 e hs' he;split at h<;>try (cases h;done)
   rename_i hd;obtain⟨hm0,hd2⟩:=aoQ hd;clear hd;subst hm0;have hck:=aG hT hi;obtain⟨hu,hn0,j,hj,hjs,hjb,hjz,hone⟩:=c9 hck he;have hv:=dh (aF hf hs);have hv':=dh (aF hf hs');obtain⟨k0,rfl⟩:∃k:Nat,n0=(k:Int):=⟨n0.toNat,(arO hd2.1).symm⟩
   have hb1:k0*i.byt<=140737488355328:=by
    have:=hd2.2.1;rw[<-aqd]at this;exact ar7.1 this
   have hb2:k0<=140737488355328:=ar7.1 hd2.2.2;obtain⟨w',hrun,hown,hgr⟩:=run_make_own (P:=P) w w.heap.size t i.el j _ e.n hu hj hjz hjs kd kd' k0 (by rw[hjb,Nat.mul_comm];omega) (ME hb2) (aoU _);have hbw:Below w.heap.size w w':=⟨hgr.os,hgr.tape,hgr.output,hgr.size,λb hb=>hgr.block b hb (by simp)⟩
   obtain⟨G',k1,k2,k3,k4⟩:=lL (et:=i.el) (e:=e) (xs:=[]) (css:=[]) hr hf hbw (by simpa using hown) hn0 trivial fl F' F';refine val (v:=.slice (S' ⟨w.heap.size,0,N'⟩) 0 k0) (w':=w') ?_ (hnext _ _ _ G' _ _ h k1 k2 k3 k4);simp[execOp,hv,hv',hrun]
 case h_5 t x v=>
  have sk:∀{w'},(Instr.storeAt t (a.eval x) (a.eval v)).run P w=.ok () w'->N (a.put dst undef) w'->Oper.upon P ⟨dst,.store t x v,type,pos,after,guard⟩ a N Q ((execOp a.eval ⟨dst,.store t x v,type,pos,after,guard⟩).run P w):=by
   intro w' h1 h2;have:(execOp a.eval ⟨dst,.store t x v,type,pos,after,guard⟩).run P w=.ok .skip w':=by simp[execOp,h1]
   rw[this];exact h2
  split at h<;>try (cases h;done)
  ·rename_i j off s i hx hs hi;split at h<;>try (cases h;done)
   rename_i bt cells l hj hl;split at h<;>try (cases h;done)
   rename_i hb;simp only[aoT]at hb;have hb1:=aoS hb.1;have hb2:=aoV hb.2;obtain⟨b,hg,hxv⟩:=aF hf hx;have hrel:=aF hf hs;have hsp:=ot hr hrel hl;obtain⟨b',vs,e1,hbb,hblk,hcs⟩:=hr.items j _ _ hj hg;injection e1 with e1;injection e1 with e1;injection e1 with e1;subst e1;have hll:=dw hsp;have hcl:=dw hcs;have hrun:=kW (aG hT hi) w b off bt vs.toArray (a.eval v) hblk (by omega) (by simp only[List.size_toArray];omega) (xK hr hrel hl);obtain⟨k1,k2,k3⟩:=tB (it':=.box bt (nT cells off l)) (cs:=(d7 vs off (a.eval v).cells.toList).toArray) hr hf hj rfl hg rfl (λhk _=>⟨b,d7 vs off (a.eval v).cells.toList,rfl,hbb,setRow_heap w b _ _ bt (0,0) hblk,a8 hk (yW off hsp hcs)⟩) fl false;refine sk (by rw[hxv];exact hrun) (hnext .undef _ _ G _ undef h k1 k2 rfl k3)
  ·rename_i j sz m off t' y i hx hs hi;split at h<;>try (cases h;done)
   rename_i et e xs hfl hj;split at h<;>try (cases h;done)
   rename_i x0 hb hx0;simp only[aoT]at hb;have hb1:=aoS hb.1;have hb2:=aoS hb.2;subst hb1;split at h<;>try (cases h;done)
   rename_i x' hne hup;obtain⟨b,m',c,hg,hxv⟩:=aF hf hx;obtain⟨vs,hrd,hvv⟩:=aF hf hs;obtain⟨css,ho,ha2,hn0⟩:=hr.items j _ _ hj hg;obtain⟨l,hl,hlrd⟩:=pM ha2 m x0 hx0;obtain⟨u1,u2⟩:=afF hlrd hup hrd;have hvc:(a.eval v).cells.toList=vs:=by rw[hvv];exact vK (λp q e=>by subst e;exact hne p q y rfl HEq.rfl) hrd
   have hls:=fu ha2;have hll:=hls l (apM hl);rcases ho.2 with⟨e1,_⟩|⟨g,cap,cur,e1,h1,h2,h3,h4,h5,h6⟩
   ·cases e1
   ·injection e1 with e1 e2 e3;injection e1 with e1;injection e1 with e1;subst e1 e2 e3;have hmlt:m<xs.length:=(aoZ.1 hx0).1;have hfit:m*e.n+e.n<=xs.length*e.n:=by rw[<-aqC];exact aqO _ hmlt
    have hcap:xs.length*e.n<=c*e.n:=aqO _ h3;have hrun:=kW (aG hT hi) w b (m*e.n+off) et cur (a.eval v) h2 (by rw[hvc,Ty.rd_len hrd,hb2]) (by rw[hvc];omega) (by rw[hvc];exact vP hrd);rw[hvc]at hrun
    obtain⟨k1,k2,k3⟩:=tB (it':=.row et e (xs.set m x')) (cs:=(d7 cur.toList (m*e.n+off) vs).toArray) hr hf hj rfl hg rfl (λ_ hk=>by
     refine⟨css.set m (d7 l off vs),⟨?_,.inr ⟨b,c,_,by rw[ap3],h1,setRow_heap w b cur _ et (0,0) h2,by rw[ap3];exact h3,h4,?_,?_⟩⟩,un m (a8 (λl y h=>hk _ l y h) ha2) (hk _ _ _ u1),hn0⟩
     ·rw[<-rZ hls hl (by omega),mr,ap3];exact ho.1
     ·simp[mr,h5]
     ·rw[ap3];show(d7 cur.toList (m*e.n+off) vs).take (xs.length*e.n)=_;rw[Af _ _ _ _ (by omega) (by simp;omega),h6,rZ hls hl (by omega)]) fl F'
    refine sk (by rw[hxv];exact hrun) (hnext .undef _ _ G _ undef h k1 k2 rfl k3)
  ·rename_i j sz m off s i _ hx hs hi;split at h<;>try (cases h;done)
   rename_i et cells hj;split at h<;>try (cases h;done)
   rename_i s' hb hl;simp only[aoT]at hb;obtain⟨⟨⟨b1,b2⟩,b3⟩,b4⟩:=hb;have b1:=aoS b1;have b2:=aoS b2;have b4:=aoV b4;subst b1 b2;obtain⟨b,m',c,hg,hxv⟩:=aF hf hx;obtain⟨vs,ho,hrel⟩:=hr.items j _ _ hj hg;have hrs:=aF hf hs;have hsp:=ot hr hrs hl;have hone:=xK hr hrs hl
   obtain⟨u,hcu,hu⟩:∃u,(a.eval v).cells.toList=[u]/\Rel1 G (Av Z H G) w s' u:=by
    generalize (a.eval v).cells.toList=q at hsp;match q,hsp with
    |[u],⟨hu,_⟩=>exact⟨u,rfl,hu⟩
   have hin:i.ty.n=1:=by cases hh:i.ty<;>rw[hh]at b3<;>first|rfl|cases b3
   rcases ho.2 with⟨e1,_⟩|⟨g,cap,cur,e1,h1,h2,h3,h4,h5,h6⟩
   ·cases e1
   ·injection e1 with e1 e2 e3;injection e1 with e1;injection e1 with e1;subst e1 e2 e3;have hrun:=kW (aG hT hi) w b (m*1+0) et cur (a.eval v) h2 (by rw[hcu,hin];rfl) (by rw[hcu];simp only[apd];omega) hone;rw[hcu]at hrun
    obtain⟨k1,k2,k3⟩:=tB (it':=.rws et (cells.set m s')) (cs:=(d7 cur.toList (m*1+0) [u]).toArray) hr hf hj rfl hg rfl (λhk _=>by
     refine⟨vs.set m u,⟨by rw[ap3,ap3];exact ho.1,.inr ⟨b,c,_,by rw[ap3],h1,setRow_heap w b cur _ et (0,0) h2,by rw[ap3];exact h3,h4,?_,?_⟩⟩,un m (a8 (λs v h=>hk s v h) hrel) (hk _ _ hu)⟩
     ·simp[mr,h5]
     ·rw[ap3];show((cur.toList.set (m*1+0) u).take (cells.length*1))=_;rw[List.take_set,h6,Nat.mul_one,ars]) fl F'
    refine sk (by rw[hxv];exact hrun) (hnext .undef _ _ G _ undef h k1 k2 rfl k3)
 case h_6 x y t t'=>
  split at h<;>try (cases h;done)
  rename_i i htt hi;split at h<;>try (cases h;done)
  rename_i e he;split at h;rotate_left
  ·have:=aoS htt;subst this;have hck:=aG hT hi;obtain⟨hu,hn0,j0,hj0,hjs,hjb,hjz,hone⟩:=c9 hck he
   have ex:∀{v' w'},(Builtin.append_ #[t,t] type #[a.eval x,a.eval y]).run P w=.ok v' w'->(execOp a.eval ⟨dst,.call ⟨.builtin .append,⟨[x,y]⟩,⟨[t,t]⟩⟩,type,pos,after,guard⟩).run P w=.ok (.value v') w':=by
    intro v' w' h1;have h1':(Builtin.append_ [t,t].toArray type [a.eval x,a.eval y].toArray).run P w=.ok v' w':=h1;simp[execOp,resolve,invoke,builtin,h1']
   have run:∀{j2:Nat} {et:TypeId} {ys:List SV} {vs2:List Value} (base:Nat) (g:Value) (N0:Nat) (cs1:List Value),base<=w.heap.size->e.n=1->w.ownsRow w0.heap.size et 1 (a.eval y) ys.length vs2->bJ (Rel1 G (Av Z H G) w) ys vs2->ys.all (vU H)=T'->w.ownsRow base i.el 1 g N0 cs1->(N0+ys.length)*i.byt<=140737488355328->N0+ys.length<=140737488355328->
     ∃v' w',(Builtin.append_ #[t,t] type #[g,a.eval y]).run P w=.ok v' w'/\w'.ownsRow base i.el 1 v' (N0+ys.length) (cs1++vs2)/\w.grownBy w' (bh g)/\(bh v'=bh g\/bh v'=S' w.heap.size):=by
    intro j2 et ys vs2 base g N0 cs1 hbase hen ho2 hrel2 hall hown hb1 hb2;have hz1:=gC hone;have hcz:(mkV e (zc e)).cells.size=1:=by have:=congrArg List.length hz1;rw[mo,hen]at this;simpa using this
    have h1:∀u∈vs2,u.oneCell'=true:=λu hu=>by
     obtain⟨q,hq,rfl⟩:=aqT hu;have hlt:q<ys.length:=by rw[dw hrel2];exact hq
     obtain⟨v,hv,hsv⟩:=fR hrel2 q _ (aoO hlt);rw[aoO hq]at hv;injection hv with hv;subst hv;exact yp hr (apa.1 hall _ (aoY hlt)) hsv
    rcases ho2.2 with⟨e1,e2⟩|⟨b,cap,cur,e1,k1,k2,k3,k4,k5,k6⟩
    ·have hv2:vs2=[]:=aqe (by rw[ho2.1,e2,arS]);rw[e1,e2,hv2,apj];exact⟨g,w,mM (P:=P) w base t type i.el j0 1 hu hj0 g N0 cs1 hown 0,hown,⟨rfl,rfl,rfl,aoU _,λ_ _ _=>rfl⟩,.inl rfl⟩
    ·rw[e1]
     obtain⟨v',w',g1,g2,g3,_,g5⟩:=run_append_own_at (P:=P) w base t type i.el j0 _ 1 i.byt hu hj0 hjz (by rw[hjs,hen]) hjb hcz (by decide) g N0 cs1 hown ⟨b,0,N'⟩ ys.length cap vs2 ho2.1 (λq u hq=>by
      rw[c7,ao3,cell_of_row w _ _ cur et (0,0) k2];rw[<-k6,aqs]at hq;split at hq
      ·simpa using hq
      ·cases hq) h1 (ME hb2) hb1 hbase
     exact⟨v',w',g1,g2,by rw[<-iD hown];exact g3,by rw[<-iD hown,<-iD g2];exact g5⟩
   split at h<;>try (cases h;done)
   ·rename_i j1 j2 hx hy;split at h<;>try (cases h;done)
    rename_i et cs et2 ys hfl hj1 hj2;split at h<;>try (cases h;done)
    rename_i hb hd;simp only[aoT]at hb;obtain⟨⟨b1,b2⟩,b3⟩:=hb;have b1:=aoS b1;have b2:=aoS b2;subst b1;obtain⟨d1,d2⟩:=aoQ hd;have hxr:G[j1]?=some (a.eval x):=aF hf hx;have hyr:G[j2]?=some (a.eval y):=aF hf hy;obtain⟨vs1,ho1,hrel1⟩:=hr.items j1 _ _ hj1 hxr;obtain⟨vs2,ho2,hrel2⟩:=hr.items j2 _ _ hj2 hyr;obtain⟨v',w',h1,h2,h3,h4⟩:=run (j2:=j2) w0.heap.size _ _ _ hr.below.size b2 ho2 hrel2 b3 ho1 d1 d2;have hnp:∀q,a.eval x≠.pointer q:=λq hq=>by rcases dA ho1 with⟨e1,_⟩|⟨b,c,e1⟩<;>rw[hq]at e1<;>cases e1
    obtain⟨q1,q2,q3,q4⟩:=DE (it':=.rws i.el ((cs++ys).map (ji j1))) hr hf hfl hj1 rfl hxr hnp h3 h4 (λhk _=>by
     refine⟨vs1++vs2,by rw[apW,apr];exact h2,?_⟩;exact AE hk (dJ hrel1 hrel2)) F'
    exact val (ex h1) (hnext (.own j1) _ _ _ w' v' h q1 q2 q3 q4)
   ·rename_i j2 hx hy;split at h<;>try (cases h;done)
    rename_i et2 ys hj2;split at h<;>try (cases h;done)
    rename_i hb hd;simp only[aoT]at hb;have b2:=aoS hb.1;obtain⟨d1,d2⟩:=aoQ hd;have hxr:a.eval x=.slice N' 0 0:=aF hf hx;have hyr:G[j2]?=S' (a.eval y):=aF hf hy;obtain⟨vs2,ho2,hrel2⟩:=hr.items j2 _ _ hj2 hyr;obtain⟨v',w',h1,h2,h3,h4⟩:=run (j2:=j2) w.heap.size (.slice N' 0 0) 0 [] (aoU _) b2 ho2 hrel2 hb.2 (arF w _ _ _) (by rw[ao3];exact d1) (by rw[ao3];exact d2);have hbw:Below w.heap.size w w':=⟨h3.os,h3.tape,h3.output,h3.size,λb hb=>h3.block b hb (by simp[bh])⟩
    rw[ao3,aqS]at h2;obtain⟨G',k1,k2,k3,k4⟩:=CC (et:=i.el) (cells:=ys) hr hf hbw h2 hrel2 fl F' T';exact val (ex (by rw[hxr];exact h1)) (hnext _ _ _ G' _ _ h k1 k2 k3 k4)
  rename_i e' ys0 hys;split at h<;>try (cases h;done)
  rename_i ys hcast;obtain⟨ee,rfl⟩:=cZ hcast;injection ee with ee;subst ee;have:=aoS htt;subst this;clear hcast;dsimp only at h;have hck:=aG hT hi;obtain⟨hu,hn0,j,hj,hjs,hjb,hjz,hone⟩:=c9 hck he;have hz1:=gC hone;have hcz:(mkV e' (zc e')).cells.size=e'.n:=by have:=congrArg List.length hz1;rw[mo]at this;simpa using this
  obtain⟨sy,hsy,hsy2⟩:∃sy,opS L y=S' sy/\fe T (H.map rdI) [sy] [t]=S' [.d (.sl e') ys0]:=by
   cases hq:opS L y with
   |none=>rw[hq]at hys;simp[fe]at hys
   |some sy=>rw[hq]at hys;exact⟨sy,rfl,hys⟩
  have hyr:=aF hf hsy;obtain⟨p,m,c,css,hyv,hym,hya,hyc⟩:=Wb hr hyr hsy2;have hfl:=gA (fu hya);rw[dw hya,hym]at hfl;have hone':=D3 hya
  have run:∀(g:Value) (N0:Nat) (cs1:List Value),w.ownsRow w0.heap.size i.el e'.n g N0 cs1->(N0+m)*i.byt<=140737488355328->N0+m<=140737488355328->
    ∃v' w',(Builtin.append_ #[t,t] type #[g,a.eval y]).run P w=.ok v' w'/\w'.ownsRow w0.heap.size i.el e'.n v' (N0+m) (cs1++css.flatten)/\w.grownBy w' (bh g)/\(bh v'=bh g\/bh v'=S' w.heap.size):=by
   intro g N0 cs1 hown hb1 hb2;rw[hyv];cases p with
   |none=>
    have hm0:m=0:=by
     rcases apJ m with h0|h0
     ·exact h0
     ·obtain⟨b,off,hp,_⟩:=hyc h0;cases hp
    subst hm0;have hcss:css.flatten=[]:=aqe (by simpa using hfl);refine⟨g,w,mM (P:=P) w w0.heap.size t type i.el j e'.n hu hj g N0 cs1 hown c,by rw[hcss,apj];exact hown,⟨rfl,rfl,rfl,aoU _,λ_ _ _=>rfl⟩,.inl rfl⟩
   |some ad=>
    obtain⟨v',w',h1,h2,h3,_,h5⟩:=run_append_own_at (P:=P) w w0.heap.size t type i.el j _ e'.n i.byt hu hj hjz hjs hjb hcz hn0 g N0 cs1 hown ad m c css.flatten (by rw[hfl]) (λq u hq=>by
     have hm0:0<m:=by
      rcases apJ m with h0|h0
      ·subst h0;have hnil:css.flatten=[]:=aqe (by rw[hfl];simp);rw[hnil]at hq;simp at hq
      ·exact h0
     obtain⟨b,off,hp,hc⟩:=hyc hm0;injection hp with hp;subst hp;rw[c7];exact hc q u hq) hone' (ME hb2) hb1 hr.below.size
    exact⟨v',w',h1,h2,by rw[<-iD hown];exact h3,by rw[<-iD hown,<-iD h2];exact h5⟩
  have ex:∀{v' w'},(Builtin.append_ #[t,t] type #[a.eval x,a.eval y]).run P w=.ok v' w'->(execOp a.eval ⟨dst,.call ⟨.builtin .append,⟨[x,y]⟩,⟨[t,t]⟩⟩,type,pos,after,guard⟩).run P w=.ok (.value v') w':=by
   intro v' w' h1;have h1':(Builtin.append_ [t,t].toArray type [a.eval x,a.eval y].toArray).run P w=.ok v' w':=h1;simp[execOp,resolve,invoke,builtin,h1']
  have grow:∀{j0:Nat} {xsO xs1:List e'.D} {g0:Value} {css1:List (List Value)},Nat.ble fl j0=T'->H[j0]?=S' (.row i.el e' xsO)->G[j0]?=S' g0->w.ownsRow w0.heap.size i.el e'.n (a.eval x) xs1.length css1.flatten->bh (a.eval x)=bh g0->(∀q,g0≠.pointer q)->bJ (λl y=>e'.rd (Av Z H G) w l y) css1 xs1->((xs1.length+ys0.length)*i.byt<=140737488355328/\xs1.length+ys0.length<=140737488355328)->k (.own j0) ((H.map (jM (ji j0))).set j0 (.row i.el e' (xs1++ys0))) (wx (ji j0) L)=S' r->Oper.upon P ⟨dst,.call ⟨.builtin .append,⟨[x,y]⟩,⟨[t,t]⟩⟩,type,pos,after,guard⟩ a N Q ((execOp a.eval ⟨dst,.call ⟨.builtin .append,⟨[x,y]⟩,⟨[t,t]⟩⟩,type,pos,after,guard⟩).run P w):=by
   intro j0 xsO xs1 g0 css1 hflr hj0 hxr ho1 hbe hnp ha1 hd h;obtain⟨v',w',h1,h2,h3,h4⟩:=run _ _ _ ho1 (by rw[<-hym];exact hd.1) (by rw[<-hym];exact hd.2);rw[hbe]at h3 h4
   obtain⟨q1,q2,q3,q4⟩:=DE (it':=.row i.el e' (xs1++ys0)) hr hf hflr hj0 rfl hxr hnp h3 h4 (λ_ hk=>by
    refine⟨css1++css,?_,dJ (a8 (λl y h=>hk _ l y h) ha1) (a8 (λl y h=>hk _ l y h) hya),hn0⟩;rw[apr,hym,arP];exact h2) F'
   exact val (ex h1) (hnext (.own j0) _ _ _ w' v' h q1 q2 q3 q4)
  split at h<;>try (cases h;done)
  ·rename_i j0 hx;split at h<;>try (cases h;done)
   rename_i et e0 xs0 hflr hj0;split at h<;>try (cases h;done)
   rename_i xs het hcast;obtain⟨ee,rfl⟩:=cZ hcast;injection ee with ee;subst ee;clear hcast;dsimp only at h;split at h<;>try (cases h;done)
   rename_i hd;have het:=aoS het;subst het;have hxr:=aF hf hx;obtain⟨css1,ho1,ha1,_⟩:=hr.items j0 _ _ hj0 hxr;exact grow hflr hj0 hxr ho1 rfl (λq hq=>by rcases dA ho1 with⟨e1,_⟩|⟨b,c,e1⟩<;>rw[hq]at e1<;>cases e1) ha1 (aoQ hd) h
  ·rename_i j0 sz lo n1 hx;split at h<;>try (cases h;done)
   rename_i et e0 xs0 hflr hj0;split at h<;>try (cases h;done)
   rename_i xs het hcast;obtain⟨ee,rfl⟩:=cZ hcast;injection ee with ee;subst ee;clear hcast;dsimp only at h;split at h<;>try (cases h;done)
   rename_i hd;simp only[aoT]at het hflr;obtain⟨hs1,hs2⟩:=het;obtain⟨hs3,hd⟩:=aoQ hd;have hs1:=aoS hs1;have hs2:=aoS hs2;have hlo:=aoS hflr.1;subst hs1 hs2 hlo;obtain⟨g0,q,c,hg,hv,h1,h2,h3,h4⟩:=aF hf hx;obtain⟨_,N0,rfl⟩:=h4 rfl;obtain⟨css1,ho1,ha1,_⟩:=hr.items j0 _ _ hj0 hg;have hle:(xs0.take n1).length=n1:=by rw[app];omega
   have hfl:=fu ha1
   have ho2:w.ownsRow w0.heap.size i.el e0.n (a.eval x) (xs0.take n1).length (css1.take n1).flatten:=by
    rw[hv,hle];refine⟨by rw[em n1 hfl,app,ho1.1];exact aps (aqO _ hs3),?_⟩;rcases ho1.2 with⟨k1,k2⟩|⟨g,cap,cur,k1,k2,k3,k4,k5,k6,k7⟩
    ·injection k1 with k1 k3 k4;exact .inl ⟨by rw[k1,k4,show n1=0 by omega],by omega⟩
    ·injection k1 with k1 k8 k9;refine .inr ⟨g,cap,cur,by rw[k1,k9],k2,k3,by omega,k5,k6,?_⟩;rw[em n1 hfl,<-k7,arJ,aps (aqO _ hs3)]
   exact grow hflr.2 hj0 hg ho2 (by rw[hv];cases q<;>rfl) (λq hq=>by cases hq) (iO n1 ha1) hd h
  ·rename_i hx;split at h<;>try (cases h;done)
   rename_i hd;have hd:=aoQ hd;have hxr:a.eval x=.slice N' 0 0:=aF hf hx;obtain⟨v',w',h1,h2,h3,h4⟩:=run (.slice N' 0 0) 0 [] (arF w _ _ _) (by rw[<-hym,ao3];exact hd.1) (by rw[<-hym,ao3];exact hd.2);have hbw:Below w.heap.size w w':=⟨h3.os,h3.tape,h3.output,h3.size,λb hb=>h3.block b hb (by simp[bh])⟩
   have hown:w'.ownsRow w.heap.size i.el e'.n v' ys0.length css.flatten:=by
    rw[ao3,aqS]at h2;refine⟨by rw[hym];exact h2.1,?_⟩;rcases h2.2 with⟨k1,k2⟩|⟨g,cap,cur,k1,k2,k3⟩
    ·exact .inl ⟨k1,by rw[hym];exact k2⟩
    ·refine .inr ⟨g,cap,cur,by rw[hym];exact k1,?_,by rw[hym];exact k3⟩;rw[k1]at h4;simp[bh]at h4;omega
   have hblk:∀b,b<w.heap.size->bh v'≠S' b:=λb hb h5=>by
    rcases h4 with h4|h4
    ·rw[h4]at h5;simp[bh]at h5
    ·rw[h4]at h5;injection h5 with h5;omega
   obtain⟨G',k1,k2,k3,k4⟩:=lL (et:=i.el) (css:=css) hr hf hbw hown hn0 (a8 (λl y h=>Ty.rd_keep ⟨hbw.size,λb hb hA=>⟨.inl hA,hblk b hb⟩,λb hb _=>hbw.block b hb⟩ h) hya) fl F' T';exact val (ex (by rw[hxr];exact h1)) (hnext _ _ _ G' _ _ h k1 k2 k3 k4)
  ·rename_i e0 xs0 hx;split at h<;>try (cases h;done)
   rename_i xs hcast;obtain⟨ee,rfl⟩:=cZ hcast;injection ee with ee;subst ee;clear hcast;dsimp only at h;split at h<;>try (cases h;done)
   rename_i hd;obtain⟨hd1,hd2,hd3,hd4⟩:=aoQ hd;obtain⟨px,hrd,hxv⟩:=aF hf hx;obtain⟨px',nx,cx,cssx,e1,hx1,hx2,hx3,hx4,hx5⟩:=hrd;injection e1 with e1;injection e1 with e1 e2 e3;subst e1 e2 e3
   have hx0:0<xs0.length:=by
    cases xs0 with
    |nil=>exact absurd rfl hd1
    |cons=>simp
   have hy0:0<m:=by
    rw[<-hym];cases ys0 with
    |nil=>exact absurd rfl hd2
    |cons=>simp
   obtain⟨bx,ox,rfl,hAx,hbx,hcx⟩:=hx5 hx0;obtain⟨by_,oy,rfl,hcy⟩:=hyc hy0;have hflx:=gA (fu hx4);rw[dw hx4]at hflx
   obtain⟨v',w',h1,h2,h3⟩:=run_append_arg_grows (P:=P) w t type i.el j _ e0.n i.byt hu hj hjz hjs hjb hcz hn0 ⟨bx,ox,N'⟩ xs0.length xs0.length cssx.flatten hflx (λq u hq=>by rw[c7];exact hcx q u hq)
    ⟨by_,oy,N'⟩ m c css.flatten hfl (λq u hq=>by rw[c7];exact hcy q u hq) (by omega) (ME (by rw[<-hym];exact hd4)) (by rw[<-hym];exact hd3)
   have hbw:Below w.heap.size w w':=⟨h3.os,h3.tape,h3.output,h3.size,λb hb=>h3.block b hb (by simp)⟩
   have hblk:∀b,b<w.heap.size->bh v'≠S' b:=λb hb h5=>by
    rcases h2.2 with⟨k1,k2⟩|⟨g,cap,cur,k1,k2,_⟩
    ·rw[k1]at h5;simp[bh]at h5
    ·rw[k1]at h5;simp[bh]at h5;omega
   obtain⟨G',k1,k2,k3,k4⟩:=lL (et:=i.el) (e:=e0) (xs:=xs0++ys0) (css:=cssx++css) hr hf hbw (by rw[apr,hym,arP];exact h2) hn0 (dJ (a8 (λl y h=>Ty.rd_keep ⟨hbw.size,λb hb hA=>⟨.inl hA,hblk b hb⟩,λb hb _=>hbw.block b hb⟩ h) hx4) (a8 (λl y h=>Ty.rd_keep ⟨hbw.size,λb hb hA=>⟨.inl hA,hblk b hb⟩,λb hb _=>hbw.block b hb⟩ h) hya)) fl F' T';exact val (ex (by rw[hxv,hyv];exact h1)) (hnext _ _ _ G' _ _ h k1 k2 k3 k4)
 case h_7 x t=>
  split at h<;>try (cases h;done)
  rename_i j sz lo n0 hx;split at h<;>try (cases h;done)
  rename_i et e0 xs0 hj;split at h<;>try (cases h;done)
  rename_i i hi;split at h<;>try (cases h;done)
  rename_i hb;split at h<;>try (cases h;done)
  rename_i e he;split at h<;>try (cases h;done)
  rename_i xs hcast;obtain⟨ee,rfl⟩:=cZ hcast;injection ee with ee;subst ee;clear hcast;dsimp only at h;simp only[aoT]at hb;have hb1:=aoS hb.1;have hb2:=aoS hb.2;subst hb1 hb2;have hck:=aG hT hi;obtain⟨hu,hn0,jj,hjj,hjs,_,hjz,hone⟩:=c9 hck he;have hz1:=gC hone;obtain⟨g,q,c,hg,hxv,_,_,h3,_⟩:=aF hf hx;obtain⟨css,ho,ha2,_⟩:=hr.items j _ _ hj hg;have hls:=fu ha2;have hzl:(zc e0).length=e0.n:=mo e0;have hlc:=dw ha2
  have ex:∀{w'},(Builtin.clear_ #[t] type #[a.eval x]).run P w=.ok (.tuple #[]) w'->N (a.put dst (.tuple #[])) w'->Oper.upon P ⟨dst,.call ⟨.builtin .clear,⟨[x]⟩,⟨[t]⟩⟩,type,pos,after,guard⟩ a N Q ((execOp a.eval ⟨dst,.call ⟨.builtin .clear,⟨[x]⟩,⟨[t]⟩⟩,type,pos,after,guard⟩).run P w):=by
   intro w' e1 e2;have e1':(Builtin.clear_ [t].toArray type [a.eval x].toArray).run P w=.ok (.tuple #[]) w':=e1;refine val (v:=.tuple #[]) (w':=w') ?_ e2;simp[execOp,resolve,invoke,builtin,e1']
  rcases apJ n0 with hn|hn
  ·subst hn;have hcl:jq e0.zero lo 0 xs0=xs0:=by simp[jq]
   have hst:H.set j (.row i.el e0 xs0)=H:=by
    obtain⟨hlt,hjg⟩:=aoZ.1 hj;rw[<-hjg,List.set_getElem_self]
   rw[hcl,hst]at h;refine ex (w':=w) ?_ (hnext (.tup []) _ _ G w (.tuple #[]) h hr hf ⟨[],rfl,trivial⟩ ⟨λs v hv _=>hv,.inl rfl,aoU _⟩);rw[hxv];cases q<;>simp[Builtin.clear_,apn hu]
  ·obtain⟨b,N0,c',rfl,h4,rfl⟩:=h3 hn;rcases ho.2 with⟨e1,_⟩|⟨g',cap,cur,e1,k1,k2,k3,k4,k5,k6⟩
   ·cases e1
   ·injection e1 with e1 e2 e3;injection e1 with e1;injection e1 with e1;subst e1 e2 e3;have hfit:lo*e0.n+n0*e0.n<=xs0.length*e0.n:=by rw[<-Nat.add_mul];exact aqO _ h4
    have hcap:xs0.length*e0.n<=c'*e0.n:=aqO _ k3;have hrl:(l9 (zc e0) n0).length=n0*e0.n:=by rw[D6,hzl]
    have hsz:(mkV e0 (zc e0)).cells.size=e0.n:=by have:=congrArg List.length hz1;rw[hzl]at this;simpa using this
    have hzc:(Builtin.zeroCells (mkV e0 (zc e0)).cells n0).toList=l9 (zc e0) n0:=by
     have hm:=tK (mkV e0 (zc e0)).cells n0;rw[hz1]at hm;exact hm
    have hrun:=run_storeCells_at P b (lo*e0.n) i.el (l9 (zc e0) n0) 0 cur w k2 (by rw[hrl];omega) (λv hv=>by
     rw[(nw (re (A:=λ_=>True) (w:=w) (t:=e0)) n0).2.symm]at hv;exact D3 (nw (re (A:=λ_=>True) (w:=w) (t:=e0)) n0).1 v hv)
    rw[ars,hrl]at hrun
    obtain⟨m1,m2,m3⟩:=tB (it':=.row i.el e0 (jq e0.zero lo n0 xs0)) (cs:=(cur.toList.take (lo*e0.n)++l9 (zc e0) n0++cur.toList.drop (lo*e0.n+n0*e0.n)).toArray) hr hf hj rfl hg rfl (λ_ hk=>by
     have hlen:(jq e0.zero lo n0 xs0).length=xs0.length:=by simp[jq];omega
     have hcut:(css.take lo++List.replicate n0 (zc e0)++css.drop (lo+n0)).flatten=(cur.toList.take (lo*e0.n)++l9 (zc e0) n0++cur.toList.drop (lo*e0.n+n0*e0.n)).take (xs0.length*e0.n):=by
      have f1:=qD (l9 (zc e0) n0) cur.toList (lo*e0.n) (by rw[hrl];simp;omega);have f2:=qD (l9 (zc e0) n0) css.flatten (lo*e0.n) (by rw[hrl,gA hls,hlc];omega);rw[hrl]at f1 f2;rw[<-f1,Af _ _ _ _ (by rw[hrl];omega) (by simp;omega),k6,f2,arP,arP,em lo hls,fQ (lo+n0) hls,(nw (re (A:=λ_=>True) (w:=w) (t:=e0)) n0).2,Nat.add_mul]
     refine⟨css.take lo++List.replicate n0 (zc e0)++css.drop (lo+n0),⟨?_,.inr ⟨b,c',_,by rw[hlen],k1,setRow_heap w b cur _ i.el (0,0) k2,by rw[hlen];exact k3,k4,?_,?_⟩⟩,dJ (dJ (iO lo (a8 (λl y h=>hk _ l y h) ha2)) (nw re n0).1) (iL (lo+n0) (a8 (λl y h=>hk _ l y h) ha2)),hn0⟩
     ·rw[hcut,hlen,app];simp[hrl];omega
     ·simp[hrl];omega
     ·rw[hlen,hcut]) fl F'
    refine ex (w':=w.setRow b (cur.toList.take (lo*e0.n)++l9 (zc e0) n0++cur.toList.drop (lo*e0.n+n0*e0.n)).toArray) ?_ (hnext (.tup []) _ _ G _ (.tuple #[]) h m1 m2 ⟨[],rfl,trivial⟩ m3);rw[hxv];obtain⟨m,rfl⟩:∃m,n0=m+1:=⟨n0-1,by omega⟩
    simp[Builtin.clear_,apn hu,zeroValue,typeInfo,hjj,hjz,hzc,hrun]
 case h_8 f args tys=>
  split at h<;>try (cases h;done)
  rotate_left
  ·rename_i g c0 cs hs;obtain⟨bs,hbs,hfv⟩:=aF hf hs;have hmut:we E L (.call ⟨.value f,args,tys⟩)=false:=by simp only[we,hs]
   obtain⟨hcl,hcalls⟩:=FU (fl:=fl) (Q:=λv w'=>N (a.put dst v) w') hbs hE hI hr hf h λs H' G' w' v h1 h2 h3 h4 h5=>hnext s H' L G' w' v h1 h2 h3 h4 (by rw[hmut];exact h5);have:=jp hcl a.eval ⟨dst,.call ⟨.value f,args,tys⟩,type,pos,after,guard⟩ f args tys (bs.map λb=>Value.pointer (S' ⟨b,0,N'⟩)).toArray rfl hfv w;rw[this];have e1:Array.map a.eval args++(bs.map λb=>Value.pointer (S' ⟨b,0,N'⟩)).toArray=(args.toList.map a.eval++bs.map λb=>Value.pointer (S' ⟨b,0,N'⟩)).toArray:=by obtain⟨l⟩:=args;simp
   rw[e1];refine asd hcalls ?_;rintro e w' ⟨v,rfl,hN⟩
   exact hN
  rename_i g hs;obtain⟨bs,hbs,hfv⟩:=aF hf hs;have:bs=[]:=by cases bs with|nil=>rfl|cons=>exact hbs.elim
  subst this;split at h
  ·rename_i gm hgm;split at h<;>try (cases h;done)
   rename_i x hargs;split at h<;>try (cases h;done)
   rename_i j hxs;split at h<;>try (cases h;done)
   rename_i et xs hfl hj;split at h<;>try (cases h;done)
   rename_i hlen;have hlen:=aoQ hlen
   have hsp:∃sp,lG E g=S' sp/\sp.mut_=S' gm/\gm.bx=none:=by
    unfold U4 at hgm;split at hgm
    ·rename_i sp hsp;split at hgm
     ·rename_i g' hg';split at hgm
      ·cases hgm
      ·rename_i hbx;injection hgm with hgm;subst hgm;exact⟨sp,hsp,hg',hbx⟩
     ·cases hgm
    ·cases hgm
   obtain⟨sp,hsp,hmu,hbx⟩:=hsp;obtain⟨hcl,_,hmc,_⟩:=hE g sp hsp;have hxr:=aF hf hxs;obtain⟨css,ho,ha,hn0⟩:=hr.items j _ _ hj hxr;have hcss:css.flatten=xs.map (Value.int .i64):=Bs ha;rw[hcss]at ho;have hrun:=jp hcl a.eval ⟨dst,.call ⟨.value f,args,tys⟩,type,pos,after,guard⟩ f args tys #[] rfl hfv w;rw[hrun];have e1:Array.map a.eval args++ #[]= #[a.eval x]:=by obtain⟨l⟩:=args;simp only at hargs;subst hargs;simp
   rw[e1];have hmut:we E L (.call ⟨.value f,args,tys⟩)=true:=by simp only[we,hs,hgm,Option.isSome_some]
   have hmc:=hmc gm hmu;unfold M1 at hmc;rw[hbx]at hmc;dsimp only at hmc;split at h
   ·rename_i hret;rw[hret]at hmc;refine asd (hmc w _ et _ xs ho hlen) ?_;rintro e w' ⟨rfl,k1,k2,k3⟩
    have hblk:∀b,b<w.heap.size->(∀g',G[j]?=some g'->bh g'≠some b)->w'.heap[b]?=w.heap[b]?:=λb hb hn=>k3.block b hb λe2=>hn _ hxr e2.symm;have hB:Below w0.heap.size w0 w':=hr.below.grown k3 hr.below.size λq hq=>((hr.items j _ _ hj hxr).blk rfl hq).1 rfl;have hst:=pA (it':=.row et (.int .i64) (gm.g xs)) hr hj rfl hB k3.size hblk;refine hnext (.tup []) _ _ G w' _ h (Ck hr hj rfl hB k3.size hblk λg' hg'=>?_) (hf.keep λs v hv=>cU hr hst hv) ⟨[],rfl,trivial⟩ ⟨λs v hv _=>cU hr hst hv,.inl (by rw[hmut];simp),by simp⟩;rw[show G[j]?=some (a.eval x) from hxr]at hg';injection hg' with hg';subst hg';refine⟨(gm.g xs).map λy=>[Value.int .i64 y],?_,?_,aoU _⟩
    ·have e2:((gm.g xs).map λy=>[Value.int .i64 y]).flatten=(gm.g xs).map (Value.int .i64):=by induction gm.g xs with|nil=>rfl|cons y ys ih=>simp[ih]
     rw[e2,k2];exact k1
    ·induction gm.g xs with
     |nil=>trivial
     |cons y ys ih=>exact⟨rfl,ih⟩
   ·rename_i hret;rw[hret]at hmc;refine asd (hmc w _ et _ xs ho hlen) ?_;rintro e w' ⟨v',rfl,k1,k3,k4⟩
    have hnp:∀q,a.eval x≠.pointer q:=λq hq=>by rcases dA ho with⟨e1,_⟩|⟨b,c,e1⟩<;>rw[hq]at e1<;>cases e1
    obtain⟨q1,q2,q3,q4⟩:=DE (it':=.row et (.int .i64) (gm.g xs)) hr hf hfl hj rfl hxr hnp k3 (.inl k4) (λ_ _=>by
     refine⟨(gm.g xs).map λy=>[Value.int .i64 y],?_,?_,aoU _⟩
     ·have e2:((gm.g xs).map λy=>[Value.int .i64 y]).flatten=(gm.g xs).map (Value.int .i64):=by induction gm.g xs with|nil=>rfl|cons y ys ih=>simp[ih]
      rw[e2];exact k1
     ·induction gm.g xs with
      |nil=>trivial
      |cons y ys ih=>exact⟨rfl,ih⟩) true
    exact hnext (.own j) _ _ _ w' v' h q1 q2 q3 ⟨q4.pres,.inl (by rw[hmut];simp),q4.len⟩
  rename_i hgm;have hmut:we E L (.call ⟨.value f,args,tys⟩)=false:=by simp only[we,hs,hgm,Option.isSome_none]
  obtain⟨hcl,hcalls⟩:=Fg (Q:=λv w'=>N (a.put dst v) w') hE hI hr hf h λs H' L' G' w' v h1 h2 h3 h4 h5=>hnext s H' L' G' w' v h1 h2 h3 h4 (by rw[hmut];exact h5);have:=jp hcl a.eval ⟨dst,.call ⟨.value f,args,tys⟩,type,pos,after,guard⟩ f args tys #[] rfl hfv w;rw[this];have e1:Array.map a.eval args++ #[]=(args.toList.map a.eval).toArray:=by obtain⟨l⟩:=args;simp
  rw[e1];refine asd hcalls ?_;rintro e w' ⟨v,rfl,hN⟩
  exact hN
 case h_9=>cases h
end
end
section
def storeDone(ops:Array Oper)(l:Array Bool):Prop:=∃s os,ops[s]?=S' os/\dO os.op=T'/\l.getD s T'=T'
def Sst(ops:Array Oper)(S0:World->Prop)(l:Array Bool)(w:World):Prop:=storeDone ops l\/S0 w
def wpG(P:Program)(ops:Array Oper)(Q:Exit->Act->World->Prop)(S0:World->Prop):Nat->Array Bool->Act->World->Prop
 |0,l,a,w=>Region.ready .any ops l=[]/\Q .normal a w
 |n+1,l,a,w=>(Region.ready .any ops l=[]->Q .normal a w)/\
  ∀i∈Region.ready .any ops l,wpOp P ops Q i (λa' w'=>Sst ops S0 (l.setIfInBounds i T') w'/\wpG P ops Q S0 n (l.setIfInBounds i T') a' w') a w
def Clo(ops:Array Oper)(l:Array Bool):Prop:=∀j oj,ops[j]?=S' oj->l.getD j T'=T'->∀e∈oj.after,Region.binds .any e=T'->l.getD e.on F'=T'
theorem Clo.set{ops:Array Oper}{l:Array Bool}{j:Nat}(h:Clo ops l)(hj:j∈Region.ready .any ops l):Clo ops (l.setIfInBounds j T'):=by
 intro k ok hk hd e he hb;by_cases hjk:j=k
 ·subst hjk;obtain⟨_,o,ho,hall⟩:=apU.1 hj;rw[hk]at ho;injection ho with ho;subst ho;exact arX (hall e he hb)
 ·rw[aru T' hjk]at hd;exact arX (h k ok hk hd e he hb)
theorem qF{ops:Array Oper}:Clo ops (mkL ops.size []):=by
 intro j oj hj hd;have hlt:=(ao6.1 hj).1;simp_all [mkL]
def gz(ops:Array Oper):Nat->Nat->Nat->Bool
 |0,_,_=>false
 |n+1,s,i=>match ops[s]? with
  |some os=>os.after.toList.any λe=>Region.binds .any e&&(Nat.beq e.on i||gz ops n e.on i)
  |none=>false
theorem uO{ops:Array Oper}{l:Array Bool}(hc:Clo ops l){i:Nat}:∀{n s:Nat},gz ops n s i=T'->(∀os,ops[s]?=S' os->∀e∈os.after,Region.binds .any e=T'->l.getD e.on F'=T')->l.getD i F'=true:=by
 intro n;induction n with
 |zero=>intro s h;simp[gz]at h
 |succ n ih=>
  intro s h hs;unfold gz at h;split at h<;>try (cases h;done)
  rename_i os hos;rw[List.any_eq_true]at h;obtain⟨e,he,hb⟩:=h;simp only[aoT,aqU]at hb;rcases hb.2 with h1|h1
  ·grind [aoS]
  ·refine ih h1 λos' ho' e' he' hb'=>hc e.on os' ho' ?_ e' he' hb';grind
def wX(ops:Array Oper)(i:Nat):Bool:=(List.range ops.size).all λs=>match ops[s]? with
 |some os=>!dO os.op||gz ops 4 s i
 |none=>true
theorem HQ{ops:Array Oper}{l:Array Bool}(hc:Clo ops l){i j:Nat}{oj:Oper}(h:wX ops i=T')(hi:l.getD i T'=F')(hj:j∈Region.ready .any ops l)(hoj:ops[j]?=S' oj):dO oj.op=false:=by
 have h1:=apa.1 h j (by simpa using(ao6.1 hoj).1);rw[hoj]at h1;simp only[aqU,aql]at h1;rcases h1 with h1|h1
 ·omega
 ·obtain⟨_,o,ho,hall⟩:=apU.1 hj;grind [uO]
section
variable {P:Program} {ops:Array Oper} {Q:Exit->Act->World->Prop} {S0:World->Prop}
theorem storeDone.set{l:Array Bool}(h:storeDone ops l)(i:Nat):storeDone ops (l.setIfInBounds i T'):=by
 obtain⟨s,os,h1,h2,h3⟩:=h;refine⟨s,os,h1,h2,?_⟩;by_cases hs:i=s<;>simp_all
theorem storeDone.unset{l:Array Bool}{i:Nat}{oi:Oper}(hi:ops[i]?=S' oi)(hq:dO oi.op=F')(h:storeDone ops (l.setIfInBounds i T')):storeDone ops l:=by
 obtain⟨s,os,h1,h2,h3⟩:=h;refine⟨s,os,h1,h2,?_⟩;have hs:i≠s:=λe=>by subst e;rw[hi]at h1;injection h1 with h1;subst h1;rw[hq]at h2;cases h2
 simp_all
theorem Sst.set{l:Array Bool}{w:World}(h:Sst ops S0 l w)(i:Nat):Sst ops S0 (l.setIfInBounds i T') w:=h.elim (λh=>.inl (h.set i)) .inr
theorem Fz:∀(n:Nat) (l:Array Bool) (a:Act) (w:World),wpG P ops Q S0 n l a w->wpAny P .any ops Q n l a w
 |0,_,_,_,h=>h
 |n+1,_,_,_,h=>⟨h.1,λi hi=>wpOp_mono (λa' w' h'=>Fz n _ a' w' h'.2) (h.2 i hi)⟩
theorem ez{l:Array Bool}{i j:Nat}{oj:Oper}(hr:i∈Region.ready .any ops l)(hj:j∈Region.ready .any ops l)(hoj:ops[j]?=S' oj):∀e∈oj.after,Region.binds .any e=T'->e.on≠i:=λe he hb heq=>by
 obtain⟨_,o,ho,hall⟩:=apU.1 hj;rw[hoj]at ho;injection ho with ho;subst ho;have hiun:=(apU.1 hr).1;have h2:=hall e he hb;rw[heq]at h2;rcases apu i l.size with h'|h'
 ·simp[h']at hiun h2;rw[hiun]at h2;cases h2
 ·simp[aqy h']at h2
theorem M7{i:Nat}{oi:Oper}{v:Value}(hi:ops[i]?=S' oi)(hsel:∀(j:Nat) (o:Oper) cs b,ops[j]?=S' o->o.op≠.select cs b)
  (hQ:∀c a w,Q (.panic c) (a.put oi.dst v) w->Q (.panic c) a w) (hq:dO oi.op=F') (hst:wX ops i=T'):
  ∀(n:Nat) (l:Array Bool) (a:Act) (w:World),
   (∀j oj,ops[j]?=S' oj->j≠i->l.getD j T'=F'->(∀e∈oj.after,Region.binds .any e=T'->e.on≠i)->oi.apart ops oj=T')->
   Clo ops l->¬storeDone ops l->i∈Region.ready .any ops l->YieldsIf P ops S0 oi v a->S0 w->
   wpG P ops Q S0 n (l.setIfInBounds i T') (a.put oi.dst v) w->wpG P ops Q S0 (n+1) l a w:=by
 intro n;induction n with
 |zero=>
  intro l a w _ _ _ hr hy hS H;refine⟨λh=>(by rw[h]at hr;cases hr),λj hj=>?_⟩;by_cases hji:j=i
  ·subst hji;exact hy.wpOp hi hS ⟨.inr hS,H⟩
  ·have:=aqm hj hji;rw[H.1]at this;cases this
 |succ n ih=>
  intro l a w hfree hcl hun hr hy hS H;refine⟨λh=>(by rw[h]at hr;cases hr),λj hj=>?_⟩;by_cases hji:j=i
  ·subst hji;exact hy.wpOp hi hS ⟨.inr hS,H⟩
  ·have h1:=H.2 j (aqm hj hji);obtain⟨hjun,oj,hoj,hall⟩:=apU.1 hj;have hiun:=(apU.1 hr).1;have hjs:=HQ hcl hst hiun hj hoj;have h2:=wpOp_putIf hoj (hfree j oj hoj hji hjun (ez hr hj hoj)) (λcs b=>hsel i oi cs b hi) (λcs b=>hsel j oj cs b hoj) hQ hy h1;have hun':¬storeDone ops (l.setIfInBounds j T'):=λh=>hun (h.unset hoj hjs)
   have hfree':∀k ok,ops[k]?=S' ok->k≠i->(l.setIfInBounds j T').getD k T'=F'->(∀e∈ok.after,Region.binds .any e=T'->e.on≠i)->oi.apart ops ok=true:=λk ok hk hki hu hno=>by
    refine hfree k ok hk hki ?_ hno;by_cases hjk:j=k
    ·subst hjk;exact hjun
    ·rw[aru T' hjk]at hu;exact hu
   refine wpOp_mono (λa' w' h3=>?_) h2;obtain⟨y1,y2,y3⟩:=h3
   have hS':S0 w':=by
    rcases y2 with h|h
    ·exact absurd ((h.unset hoj hjs).unset hi hq) hun
    ·exact h
   refine⟨.inr hS',ih (l.setIfInBounds j T') a' w' hfree' (hcl.set hj) hun' (aqm hr (aqK hji)) y1 hS' ?_⟩;rw[apL _ _ hji];exact y3
theorem sI{i:Nat}{oi:Oper}{v:Value}(hi:ops[i]?=S' oi)(hsel:∀(j:Nat) (o:Oper) cs b,ops[j]?=S' o->o.op≠.select cs b)
  (hQ:∀c a w,Q (.panic c) (a.put oi.dst v) w->Q (.panic c) a w) (hq:dO oi.op=F'):
  ∀(n:Nat) (l:Array Bool) (a:Act) (w:World),
   (∀j oj,ops[j]?=S' oj->j≠i->l.getD j T'=F'->(∀e∈oj.after,Region.binds .any e=T'->e.on≠i)->oi.apart ops oj=T')->
   i∈Region.ready .any ops l->YieldsIf P ops (λ_=>True) oi v a->Sst ops S0 l w->
   wpG P ops Q S0 n (l.setIfInBounds i T') (a.put oi.dst v) w->wpG P ops Q S0 (n+1) l a w:=by
 intro n;induction n with
 |zero=>
  intro l a w _ hr hy hS H;refine⟨λh=>(by rw[h]at hr;cases hr),λj hj=>?_⟩;by_cases hji:j=i
  ·subst hji;exact hy.wpOp hi trivial ⟨hS.set _,H⟩
  ·have:=aqm hj hji;rw[H.1]at this;cases this
 |succ n ih=>
  intro l a w hfree hr hy hS H;refine⟨λh=>(by rw[h]at hr;cases hr),λj hj=>?_⟩;by_cases hji:j=i
  ·subst hji;exact hy.wpOp hi trivial ⟨hS.set _,H⟩
  ·have h1:=H.2 j (aqm hj hji);obtain⟨hjun,oj,hoj,hall⟩:=apU.1 hj;have h2:=wpOp_putIf hoj (hfree j oj hoj hji hjun (ez hr hj hoj)) (λcs b=>hsel i oi cs b hi) (λcs b=>hsel j oj cs b hoj) hQ hy h1
   have hfree':∀k ok,ops[k]?=S' ok->k≠i->(l.setIfInBounds j T').getD k T'=F'->(∀e∈ok.after,Region.binds .any e=T'->e.on≠i)->oi.apart ops ok=true:=λk ok hk hki hu hno=>by
    refine hfree k ok hk hki ?_ hno;by_cases hjk:j=k
    ·subst hjk;exact hjun
    ·rw[aru T' hjk]at hu;exact hu
   refine wpOp_mono (λa' w' h3=>?_) h2;obtain⟨y1,y2,y3⟩:=h3
   have hS':Sst ops S0 (l.setIfInBounds j T') w':=by
    rcases y2 with h|h
    ·rw[apL _ _ (aqK hji)]at h;exact .inl (h.unset hi hq)
    ·exact .inr h
   refine⟨hS',ih (l.setIfInBounds j T') a' w' hfree' (aqm hr (aqK hji)) y1 hS' ?_⟩;rw[apL _ _ hji];exact y3
theorem qp{rs:List Nat}{n:Nat}{l:Array Bool}{a:Act}{w:World}(hr:Region.ready .any ops l=rs)(hne:rs≠[])
  (h:∀i∈rs,wpOp P ops Q i (λa' w'=>Sst ops S0 (l.setIfInBounds i T') w'/\wpG P ops Q S0 n (l.setIfInBounds i T') a' w') a w):wpG P ops Q S0 (n+1) l a w:=
 ⟨λh0=>absurd (hr▸h0) hne,hr▸h⟩
theorem ui{l:Array Bool}{a:Act}{w:World}(hr:Region.ready .any ops l=[])(h:Q .normal a w):∀n,wpG P ops Q S0 n l a w
 |0=>⟨hr,h⟩
 |_+1=>⟨λ_=>h,by rw[hr];simp⟩
end
theorem qO(l:Array Bool)(k:Nat):(l.setIfInBounds k T').getD k T'=true:=by simp
end
end Go.Proofs.YtoimchcjhdcdmaaGreat
end
