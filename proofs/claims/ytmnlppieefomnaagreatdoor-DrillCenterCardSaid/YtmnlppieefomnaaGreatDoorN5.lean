/- Allocations and stores at a region's end: one order stands for all. The world. -/
import Derived.Test.YtmnlppieefomnaaGreatDoorN4
noncomputable section
namespace Go.Proofs.YtmnlppieefomnaaGreatDoor
open Go.RowKit Go.IntKind
theorem amB:type_of% @Classical.byContradiction:=@Classical.byContradiction
theorem amQ:type_of% @List.mem_singleton:=@List.mem_singleton
theorem anU:type_of% @List.mem_append_left:=@List.mem_append_left
theorem anV:type_of% @Region.free_spec:=@Region.free_spec
theorem an7:type_of% @Array.getElem?_toList:=@Array.getElem?_toList
theorem an8:type_of% @List.mem_append_right:=@List.mem_append_right
theorem aow:type_of% @Bool.and_false:=@Bool.and_false
theorem aoU:type_of% @List.mem_map:=@List.mem_map
theorem aoV:type_of% @Oper.apart_spec:=@Oper.apart_spec
theorem apt:type_of% @Bool.or_true:=@Bool.or_true
theorem apu:type_of% @Nat.sub_zero:=@Nat.sub_zero
section
def Old(w w':World):Prop:=w.heap.size<=w'.heap.size/\∀b,b<w.heap.size->w'.heap[b]?=w.heap[b]?
theorem Old.refl(w:World):Old w w:=⟨amm _,λ_ _=>rfl⟩
theorem wQ{G G':List Value}{A A':Nat->Prop}{w w':World}{h0:Nat}(hk:Keeps A A' w w'){s:SV}{v:Value}(h:Rel1 G A w s v)(hs:s.refs h0=true)(hG:∀j g,j<h0->G[j]?=some g->G'[j]?=some g):Rel1 G' A' w' s v:=by
 have lt:∀{j:Nat},Nat.ble (j+1) h0=true->j<h0:=λh=>amn h;cases s with
 |d t x=>obtain⟨cs,h1,h2⟩:=h;exact⟨cs,Ty.rd_keep hk h1,h2⟩
 |nil=>exact h
 |box j off=>obtain⟨b,h1,h2⟩:=h;exact⟨b,hG j _ (lt hs) h1,h2⟩
 |elt e x off=>
  obtain⟨b,o,cs,h1,h2,h3,h4,h5⟩:=h;exact⟨b,o,cs,h1,hk.sub b h3 h2,anM h3 hk.size,Ty.rd_keep hk h4,hk.cells h3 h2 h5⟩
 |own j=>exact hG j v (lt hs) h
 |oelt j sz i off=>obtain⟨b,n,c,h1,h2⟩:=h;exact⟨b,n,c,hG j _ (lt hs) h1,h2⟩
 |clo f caps=>
  obtain⟨bs,h1,h2⟩:=h;refine⟨bs,?_,h2⟩;simp only[SV.refs]at hs;clear h2;induction caps generalizing bs with
  |nil=>cases bs<;>exact h1
  |cons c caps ih=>
   match bs,h1 with
   |b::bs,⟨q1,q2⟩=>
    simp only[anu,aml]at hs;exact⟨hG c _ (lt hs.1) q1,ih hs.2 bs q2⟩
 |tup l=>exact h.elim
 |undef=>exact h
 |dead=>trivial
 |cut e xs=>obtain⟨p,h1,h2⟩:=h;exact⟨p,Ty.rd_keep hk h1,h2⟩
 |osl j sz lo n=>obtain⟨g,q,c,h1,h2⟩:=h;exact⟨g,q,c,hG j _ (lt hs) h1,h2⟩
theorem Kg{G G':List Value}{A A':Nat->Prop}{w w':World}{h0:Nat}(hk:∀s v,s.refs h0=true->Rel1 G A w s v->Rel1 G' A' w' s v){s:SV}{v:Value}(h:Rel G A w s v)(hs:s.refsT h0=true):Rel G' A' w' s v:=by
 cases s with
 |tup l=>
  obtain⟨vs,h1,h2⟩:=h;refine⟨vs,h1,?_⟩;clear h1;induction l generalizing vs with
  |nil=>cases vs<;>exact h2
  |cons s l ih=>
   simp only[SV.refsT,anu,aml]at hs;match vs,h2 with
   |v::vs,⟨g1,g2⟩=>exact⟨hk s v hs.1 g1,ih hs.2 vs g2⟩
 |_=>rw[tT (λl e=>by cases e)]at hs;exact dM (hk _ _ hs (nT h (λl e=>by cases e)))
section
variable {Z:Nat->Prop} {w0:World} {H:List Item} {G:List Value} {w:World}
theorem tY(hr:SR Z w0 H G w):mQ H.length H:=by
 intro k it hk x hx;have hlt:k<G.length:=by rw[hr.len];exact(amr.1 hk).1
 have h:=hr.items k _ _ hk (amg hlt)
 have fin:∀{cs:List SV} {vs:List Value},bI (Rel1 G (Av Z H G) w) cs vs->x∈cs->x.refs H.length=true:=λh4 hx=>by
  obtain⟨i,hi,rfl⟩:=an0 hx;obtain⟨v,_,hv⟩:=fO h4 i _ (amg hi);grind [so]
 cases it with
 |box t cs=>
  obtain⟨b,vs,_,_,_,h4⟩:=h;exact fin h4 hx
 |rws t cs=>
  obtain⟨vs,_,h4⟩:=h;exact fin h4 hx
 |_=>cases hx
theorem TK{it:Item}{g:Value}{h0 k:Nat}(hr:SR Z w0 (H++[it]) (G++[g]) w)(hl:G.length=H.length)(hk:H[k]?=some .gone)(h0k:h0<=k)(hlow:mQ h0 (H++[it])):
  SR Z w0 (H.set k it) (G.set k g) w/\(∀b,Av Z (H++[it]) (G++[g]) b↔Av Z (H.set k it) (G.set k g) b):=by
 have hkl:=(amr.1 hk).1
 have a1:∀{j:Nat} {x:Item},j≠k->(H.set k it)[j]?=some x->j<H.length/\(H++[it])[j]?=some x:=λ{j x} hj h=>by
  rw[anT (aod hj)]at h;have:=(amr.1 h).1;exact⟨this,by rw[amE this];exact h⟩
 have a2:∀{j:Nat} {x:Value},j≠k->(G.set k g)[j]?=some x->(G++[g])[j]?=some x:=λ{j x} hj h=>by
  rw[anT (aod hj)]at h;rw[amE (amr.1 h).1];exact h
 have b1:(H.set k it)[k]?=some it:=anY hkl;have b2:(G.set k g)[k]?=some g:=anY (by omega);have c1:(H++[it])[H.length]?=some it:=by rw[amN (amm _),aoD];rfl
 have c2:(G++[g])[H.length]?=some g:=by rw[amN (by omega),hl,aoD];rfl
 have d1:∀{j:Nat} {x:Item},(H++[it])[j]?=some x->(j<H.length/\H[j]?=some x)\/(j=H.length/\x=it):=λ{j x} h=>by
  rcases amX j H.length with hlt|hge
  ·rw[amE hlt]at h;exact .inl ⟨hlt,h⟩
  ·rw[amN hge]at h
   have hj:j-H.length=0:=by
    rcases am8 (j-H.length)with h0|h0
    ·exact h0
    ·rw[anH (by simp;omega)]at h;cases h
   rw[hj]at h;simp only[ang,amp]at h;exact .inr ⟨by omega,h.symm⟩
 have hav:∀b,Av Z (H++[it]) (G++[g]) b↔Av Z (H.set k it) (G.set k g) b:=by
  refine λb=>⟨λh=>⟨h.1,λj x y hx hlv hy=>?_⟩,λh=>⟨h.1,λj x y hx hlv hy=>?_⟩⟩
  ·by_cases hj:j=k
   ·subst hj;rw[b1]at hx;rw[b2]at hy;injection hx with hx;injection hy with hy;subst hx hy;exact h.2 _ _ _ c1 hlv c2
   ·exact h.2 j x y (a1 hj hx).2 hlv (a2 hj hy)
  ·rcases d1 hx with⟨h1,h2⟩|⟨h1,h2⟩
   ·have hj:j≠k:=λe=>by subst e;rw[hk]at h2;injection h2 with h2;subst h2;cases hlv
    refine h.2 j x y (by rw[anT (aod hj)];exact h2) hlv ?_;rw[amE (by omega)]at hy;rw[anT (aod hj)];exact hy
   ·subst h1 h2;rw[c2]at hy;injection hy with hy;subst hy;exact h.2 k _ _ b1 hlv b2
 have hkp:Keeps (Av Z (H++[it]) (G++[g])) (Av Z (H.set k it) (G.set k g)) w w:=⟨amm _,λb _ h=>(hav b).1 h,λ_ _ _=>rfl⟩
 have hG:∀j x,j<h0->(G++[g])[j]?=some x->(G.set k g)[j]?=some x:=λj x hj h=>by
  rw[amE (by omega)]at h;rw[anT (by omega)];exact h
 have hit:∀{j:Nat} {x:Item} {y:Value},(H++[it])[j]?=some x->ItemRel w0.heap.size (G++[g]) (Av Z (H++[it]) (G++[g])) w x y->ItemRel w0.heap.size (G.set k g) (Av Z (H.set k it) (G.set k g)) w x y:=by
  intro j x y hx h;cases x with
  |box t cs=>
   obtain⟨b,vs,e1,e2,e3,e4⟩:=h;refine⟨b,vs,e1,e2,e3,?_⟩;have hc:∀s∈cs,s.refs h0=true:=hlow j _ hx;clear e1 e3 hx;induction cs generalizing vs with
   |nil=>cases vs<;>exact e4
   |cons s l ih=>
    match vs,e4 with
    |v::vs,⟨q1,q2⟩=>exact⟨wQ hkp q1 (hc s (by simp)) hG,ih vs q2 (λs hs=>hc s (by simp[hs]))⟩
  |row et e xs=>
   obtain⟨css,e1,e2,e3⟩:=h;exact⟨css,e1,aY (λ_ _ h=>Ty.rd_keep hkp h) e2,e3⟩
  |len e xs=>
   obtain⟨et,css,e1,e2,e3⟩:=h;exact⟨et,css,e1,aY (λ_ _ h=>Ty.rd_keep hkp h) e2,e3⟩
  |rws t cs=>
   obtain⟨vs,e1,e4⟩:=h;refine⟨vs,e1,?_⟩;have hc:∀s∈cs,s.refs h0=true:=hlow j _ hx;clear e1 hx;induction cs generalizing vs with
   |nil=>cases vs<;>exact e4
   |cons s l ih=>
    match vs,e4 with
    |v::vs,⟨q1,q2⟩=>exact⟨wQ hkp q1 (hc s (by simp)) hG,ih vs q2 (λs hs=>hc s (by simp[hs]))⟩
  |gone=>trivial
 refine⟨⟨by simp[hl],hr.below,λj x y hx hy=>?_,λi j x y gx gy b hij hx hy hlx hly hgx hgy hb=>?_,hr.zf⟩,hav⟩
 ·by_cases hj:j=k
  ·subst hj;rw[b1]at hx;rw[b2]at hy;injection hx with hx;injection hy with hy;subst hx hy;exact hit c1 (hr.items _ _ _ c1 c2)
  ·exact hit (a1 hj hx).2 (hr.items j x y (a1 hj hx).2 (a2 hj hy))
 ·have key:∀{j:Nat} {x:Item} {y:Value},(H.set k it)[j]?=some x->(G.set k g)[j]?=some y->∃j',(j'=if j=k then H.length else j)/\(H++[it])[j']?=some x/\(G++[g])[j']?=some y:=by
   intro j x y hx hy;by_cases hj:j=k
   ·subst hj;rw[b1]at hx;rw[b2]at hy;injection hx with hx;injection hy with hy;subst hx hy;exact⟨_,rfl,by rw[am2 rfl];exact c1,by rw[am2 rfl];exact c2⟩
   ·exact⟨_,rfl,by rw[amJ hj];exact(a1 hj hx).2,by rw[amJ hj];exact a2 hj hy⟩
  obtain⟨i',ei,i1,i2⟩:=key hx hgx;obtain⟨j',ej,j1,j2⟩:=key hy hgy;refine hr.disj i' j' x y gx gy b ?_ i1 j1 hlx hly i2 j2 hb;rw[ei,ej];by_cases h1:i=k
  ·by_cases h2:j=k
   ·omega
   ·rw[am2 h1,amJ h2];have:=(a1 h2 hy).1;omega
  ·by_cases h2:j=k
   ·rw[amJ h1,am2 h2];have:=(a1 h1 hx).1;omega
   ·rw[amJ h1,amJ h2];exact hij
theorem Qi(hr:SR Z w0 H G w){h0 k:Nat}(hk:H[k]?=some .gone)(h0k:h0<=k)(hlow:mQ h0 H){t:TypeId}{cs:List SV}{vs:Array Value}(hz:∀s∈cs,s.refs h0=true)(hcs:bI (Rel1 G (Av Z H G) w) cs vs.toList):
  ∃G',SR Z w0 (H.set k (.box t cs)) G' (w.alloc (.cells vs t))/\(∀s v,s.refs h0=true->Rel1 G (Av Z H G) w s v->Rel1 G' (Av Z (H.set k (.box t cs)) G') (w.alloc (.cells vs t)) s v)/\
   (∀j off v,j≠k->Rel1 G (Av Z H G) w (.box j off) v->Rel1 G' (Av Z (H.set k (.box t cs)) G') (w.alloc (.cells vs t)) (.box j off) v)/\
   Rel1 G' (Av Z (H.set k (.box t cs)) G') (w.alloc (.cells vs t)) (.box k 0) (.pointer (some ⟨w.heap.size,0,none⟩)):=by
 have hb:=gH w (.cells vs t);have hg:∀b,a9 (.pointer (some ⟨w.heap.size,0,none⟩))=some b->w.heap.size<=b:=λb h=>by simp[a9]at h;omega
 have hst:=jr (it:=.box t cs) hr hb hg;have hsr:=u5 (it:=.box t cs) hr hb hg ⟨w.heap.size,vs.toList,rfl,hr.below.size,Blk.new w t vs,aY (λs v h=>cV hr hst h) hcs⟩;have hkl:=(amr.1 hk).1;have hl:=hr.len
 obtain⟨m1,m2⟩:=TK hsr hl hk h0k (by
  intro j it hj x hx;rcases amX j H.length with hlt|hge
  ·rw[amE hlt]at hj;exact hlow j it hj x hx
  ·rw[amN hge]at hj;have hj':=ano hj;simp only[amQ]at hj';subst hj';exact hz x hx)
 have hkp:Keeps (Av Z (H++[.box t cs]) (G++[.pointer (some ⟨w.heap.size,0,none⟩)])) (Av Z (H.set k (.box t cs)) (G.set k (.pointer (some ⟨w.heap.size,0,none⟩)))) (w.alloc (.cells vs t)) (w.alloc (.cells vs t)):=⟨amm _,λb _ h=>(m2 b).1 h,λ_ _ _=>rfl⟩
 refine⟨_,m1,λs v hs h=>wQ hkp (cV hr hst h) hs λj x hj h=>?_,λj off v hj h=>?_,⟨_,anY (by omega),rfl⟩⟩
 ·grind
 ·obtain⟨b,h1,h2⟩:=h;exact⟨b,by rw[anT (aod hj)];exact h1,h2⟩
theorem xG{n:Nat}{L:SL}{a:Act}(f:Nat->Bool):∀{la:List AlA} {H:List Item} {G:List Value},(∀x∈la,f x.i=false)->SR Z w0 H G w->FR Z n L H G w a->∃G',SR Z w0 (H++alX f la) G' w/\FR Z n L (H++alX f la) G' w a/\(∀s v,Rel1 G (Av Z H G) w s v->Rel1 G' (Av Z (H++alX f la) G') w s v)
 |[],H,G,_,hr,hf=>by
  refine⟨G,?_⟩;rw[show alX f []=[] from rfl,amO];exact⟨hr,hf,λ_ _ h=>h⟩
 |x::la,H,G,hx,hr,hf=>by
  have hg:∀b,a9 undef=some b->w.heap.size<=b:=λb h=>by simp[a9,undef]at h
  have hst:=jr (it:=.gone) (g:=undef) hr (aoo _ _) hg;have h1:=u5 (it:=.gone) (g:=undef) hr (aoo _ _) hg trivial;obtain⟨G',k1,k2,k3⟩:=xG f (la:=la) (λy hy=>hx y (by simp[hy])) h1 (hf.keep λs v h=>cV hr hst h)
  have e:H++alX f (x::la)=(H++[.gone])++alX f la:=by
   rw[show alX f (x::la)=(match f x.i with|true=>.box x.t x.cs|false=>.gone)::alX f la from rfl,hx x (by simp)];simp
  rw[e];exact⟨G',k1,k2,λs v h=>k3 s v (cV hr hst h)⟩
end
theorem yT{h0:Nat}:∀{t:Ty},∀s∈t.zsplit,s.refs h0=true:=by
 intro t;induction t with
 |pair a b iha ihb=>
  grind [Ty.zsplit]
 |st a ih=>intro s hs;simp only[Ty.zsplit]at hs;exact ih s hs
 |_=>intro s hs;simp only[Ty.zsplit,amQ]at hs;subst hs;rfl
end
section
theorem Fq{H:List Item}{s:SV}{l:List SV}(h:fD [] s=some l):fD H s=some l:=by
 unfold fD at h ⊢;grind
def zt(h0:Nat)(la:List AlA)(f:Nat->Bool)(L:SL):Prop:=∀t s,aI L t=some s->s.refsT h0=true\/∃(r:Nat) (a:AlA),la[r]?=some a/\f a.i=true/\s=.box (h0+r) 0
theorem Vt{h0:Nat}{la:List AlA}{f:Nat->Bool}{L:SL}(h:∀t s,aI L t=some s->s.refsT h0=true):zt h0 la f (fV f la h0 L):=by
 intro t s hs;rcases Dn hs with⟨r,a,h1,_,h3,h4⟩|h1<;>grind
section
variable {P:Program} {T:TT} {E:Env} {ops:Array Oper} {Z:Nat->Prop} {w0:World} {N fl:Nat} {Q:Exit->Act->World->Prop} {X:List Item->List Value->World->Prop}
theorem qY{H:List Item}{G:List Value}{w:World}{a:Act}{L L':SL}{h0 r j:Nat}{la:List AlA}{x:AlA}{oj:Oper}{f:Nat->Bool}{K:Act->World->Prop}{Qx:Exit->Act->World->Prop}(hT:eM P T=true)(hoj:ops[j]?=some oj)(hal:bj oj=true)
  (hla:la[r]?=some x) (hdst:oj.dst=some x.d) (hd:x.d<N) (hop:oj.op=.alloc x.t) (hxx:∃y,dt T x.t=some y/\y.z=true/\(∀p q,y.ty≠.pair p q)/\x.cs=y.ty.zsplit) (_hD:Dis la) (hfx:f x.i=false)
  (hk:H[h0+r]?=some .gone) (hlow:mQ h0 H) (hL:zt h0 la f L) (hfl:fl<=h0) (hr:SR Z w0 H G w) (hf:FR Z N L H G w a) (hx:X H G w) (hX:∀H G w H' G' w',X H G w->Ev Z fl H G w H' G' w'->X H' G' w') (hL':∀t,aI L' t=if t=x.d then some (.box (h0+r) 0)else aI L t)
  (hK:∀v G' w',Old w w'->SR Z w0 (H.set (h0+r) (.box x.t x.cs)) G' w'->FR Z N L' (H.set (h0+r) (.box x.t x.cs)) G' w' (a.put oj.dst v)->X (H.set (h0+r) (.box x.t x.cs)) G' w'->K (a.put oj.dst v) w'):wpOp P ops Qx j K a w:=by
 obtain⟨y,hy,hz,hne,hcs⟩:=hxx
 have hg:oj.guard=none:=by
  unfold bj at hal;rw[hop]at hal;cases hq:oj.guard with
  |none=>rfl
  |some x=>rw[hq]at hal;simp at hal
 have hck:=aF hT hy;obtain⟨inf,hinf,hzero⟩:=wU hck hz
 have hc:(mkV y.ty (zc y.ty)).cells.toList=zc y.ty:=gD (by
  generalize y.ty=ty at*
  cases ty<;>first|exact .inr rfl|exact .inl rfl|exact(hne _ _ rfl).elim)
 obtain⟨G',k1,k2,k3,k4⟩:=Qi (t:=x.t) (cs:=x.cs) (vs:=(mkV y.ty (zc y.ty)).cells) hr hk (by omega) hlow (by rw[hcs];exact yT) (by rw[hcs,hc];exact kG)
 have hrun:(execOp a.eval oj).run P w=.ok (.value (.pointer (some ⟨w.heap.size,0,none⟩))) (w.alloc (.cells (mkV y.ty (zc y.ty)).cells x.t)):=by
  simp[execOp,hop,Instr.alloc,zeroValue,typeInfo,hinf,hzero,newVar,newRow]
 unfold wpOp;simp only[hoj];rw[am2 (by simp[Region.wanted,hg])];refine .inl ?_;unfold Oper.wp;rw[hrun];refine hK _ G' _ ⟨(gH w (.cells (mkV y.ty (zc y.ty)).cells x.t)).size,λb hb=>(gH w (.cells (mkV y.ty (zc y.ty)).cells x.t)).block b hb⟩ k1 ?_ (hX _ _ _ _ _ _ hx λs v h hs=>k2 s v (pS hfl hs) h)
 have hf1:FR Z N L (H.set (h0+r) (.box x.t x.cs)) G' (w.alloc (.cells (mkV y.ty (zc y.ty)).cells x.t)) a:=by
  refine⟨hf.defers,hf.size,λt s hs=>?_⟩;obtain⟨v,h1,h2⟩:=hf.slot t s hs;refine⟨v,h1,?_⟩;rcases hL t s hs with h3|⟨r',b,h3,h4,rfl⟩
  ·exact Kg (λs v hs h=>k2 s v hs h) h2 h3
  ·refine k3 _ _ v (λe=>?_) h2;grind
 have hf2:=hf1.put (d:=oj.dst) (L':=(x.d,.box (h0+r) 0)::nS L x.d) (s:=.box (h0+r) 0) (v:=.pointer (some ⟨w.heap.size,0,none⟩)) (by
  rw[hdst];simp only[gg];rw[amI (show x.d+1<=N from hd)]) k4
 exact⟨hf2.defers,hf2.size,λt s hs=>hf2.slot t s (by rw[d8,<-hL' t];exact hs)⟩
structure PlanOk (T:TT) (ops:Array Oper) (N:Nat) (H0:List Item) (la:List AlA) (ss:List AlS):Prop where
 dis:Dis la
 la2:∀a∈la,(∃o,ops[a.i]?=some o/\bj o=true)/\∀x∈a.cs,x.refs H0.length=true
 ss1:∀s∈ss,(∃o,ops[s.i]?=some o/\bj o=false/\o.dst=none)/\(∀x∈s.l,x.refs H0.length=true)/\GS ops s.i s.j la H0.length=true/\∃bt cells,(H0++alX (λ_=>true) la)[s.j]?=some (.box bt cells)/\s.off+s.l.length<=cells.length
 far:ss.Pairwise (λs p=>G3 s p=true)
def qK(T:TT)(L:SL)(s:AlS)(o:Oper):Prop:=∃t x v sv y,o.op=.store t x v/\o.guard=none/\o.dst=none/\opS L x=some (.box s.j s.off)/\opS L v=some sv/\dt T t=some y/\fD [] sv=some s.l/\s.l.length=y.ty.n
theorem wj{l0:Array Bool}{H0:List Item}{La:SL}{la:List AlA}{ss:List AlS}(hA:alA T N ops.toList 0=some la)(hS:alS T E ops l0 la H0.length La (H0++alX (λ_=>true) la) ops.toList 0=some ss):PlanOk T ops N H0 la ss:=by
 obtain⟨a1,a2,a3⟩:=oZ hA;obtain⟨s1,s2,s3⟩:=mD hS;refine⟨a3,λa ha=>?_,λs hs=>?_,s3⟩
 ·obtain⟨_,o,ho,hal,y,hy⟩:=a2 a ha;grind [yT]
 ·obtain⟨_,_,o,ho,hal,t,x,v,sv,y,bt,cells,q1,q2,q3,q4,q5,q6,q7,q8,q9,q10,q11,q12,q13⟩:=s2 s hs;grind
theorem Is{la:List AlA}(hA:alA T N ops.toList 0=some la):∀{j:Nat} {o:Oper},ops[j]?=some o->bj o=true->∃(r:Nat) (a:AlA),la[r]?=some a/\a.i=j/\o.dst=some a.d/\a.d<N/\∃x,o.op=.alloc a.t/\dt T a.t=some x/\x.z=true/\(∀p q,x.ty≠.pair p q)/\a.cs=x.ty.zsplit:=by
 intro j o ho hal;obtain⟨r,a,h1,h2,h3⟩:=(oZ hA).1 j o (by rw[an7];exact ho) hal;grind
theorem kz{l:Array Bool}{i j:Nat}(hcl:Clo ops l)(hj:∀os,ops[j]?=some os->∀e∈os.after,Region.binds .any e=true->l.getD e.on false=true)(h:gz ops 4 j i=true):l.getD i true=true:=by grind [uR]
section
variable {H0:List Item} {la:List AlA} {ss:List AlS} {l:Array Bool}
theorem PlanOk.wt(_hp:PlanOk T ops N H0 la ss)(hcl:Clo ops l)(_hl:l.size=ops.size){s:AlS}{i:Nat}(hs:dn l s.i=true)(_hm:s∈ss)(h:gz ops 4 s.i i=true):l.getD i true=true:=by exact kz hcl (λos hos e he hb=>hcl s.i os hos hs e he hb) h
theorem PlanOk.setA(hp:PlanOk T ops N H0 la ss)(hcl:Clo ops l)(hl:l.size=ops.size){r:Nat}{x:AlA}(h1:la[r]?=some x)(hju:l.getD x.i true=false):
  cD (dn (l.setIfInBounds x.i true)) ss (H0++alX (dn (l.setIfInBounds x.i true)) la)=(cD (dn l) ss (H0++alX (dn l) la)).set (H0.length+r) (.box x.t x.cs)/\(cD (dn l) ss (H0++alX (dn l) la))[H0.length+r]?=some .gone:=by
 have hup:=jy l x.i;obtain⟨⟨oj,hoj,hal⟩,_⟩:=hp.la2 x (ano h1)
 have hne:∀s∈ss,dn l s.i=true->s.j≠H0.length+r:=λs hs hds e=>by
  have:=hp.wt hcl hl hds hs (Cq (hp.ss1 s hs).2.2.1 h1 e);rw[hju]at this;cases this
 refine⟨?_,?_⟩
 ·rw[GE hp.dis h1 hup,kE (g:=dn l) λs hs=>?_,yA hne];rw[hup,amJ];intro e;obtain⟨⟨o,ho,hal',_⟩,_⟩:=hp.ss1 s hs;rw[e,hoj]at ho;injection ho with ho;subst ho;rw[hal]at hal';cases hal'
 ·have h3:(H0++alX (dn l) la)[H0.length+r]?=some .gone:=by
   rw[amN (by omega),show H0.length+r-H0.length=r by omega,tD,h1];simp only[anz];rw[show dn l x.i=false from hju]
  have h4:H0++alX (dn l) la=(H0++alX (dn l) la).set (H0.length+r) .gone:=by
   refine anZ λk=>?_;grind
  rw[h4,yA hne,anY (by rw[uc];exact(amr.1 h3).1)]
theorem PlanOk.same(hp:PlanOk T ops N H0 la ss){j:Nat}{oj:Oper}(hoj:ops[j]?=some oj)(hal:bj oj=false):alX (dn (l.setIfInBounds j true)) la=alX (dn l) la/\∀a∈la,dn (l.setIfInBounds j true) a.i=dn l a.i:=by
 have h:∀a∈la,dn (l.setIfInBounds j true) a.i=dn l a.i:=λa ha=>by
  rw[jy,amJ];obtain⟨⟨o',h1,h2⟩,_⟩:=hp.la2 a ha;grind
 grind [alX,List.map_congr_left]
theorem PlanOk.setS(hp:PlanOk T ops N H0 la ss){s:AlS}(hsm:s∈ss)(hju:l.getD s.i true=false):
  cD (dn (l.setIfInBounds s.i true)) ss (H0++alX (dn (l.setIfInBounds s.i true)) la)=stP s (cD (dn l) ss (H0++alX (dn l) la)):=by
 obtain⟨⟨o,ho,hal,_⟩,_⟩:=hp.ss1 s hsm;rw[(hp.same ho hal).1];exact H9 (jy l s.i) hju hp.far hsm
theorem PlanOk.setT(hp:PlanOk T ops N H0 la ss){j:Nat}{oj:Oper}{d:Nat}(hoj:ops[j]?=some oj)(hal:bj oj=false)(hd:oj.dst=some d):
  cD (dn (l.setIfInBounds j true)) ss (H0++alX (dn (l.setIfInBounds j true)) la)=cD (dn l) ss (H0++alX (dn l) la):=by
 rw[(hp.same hoj hal).1];refine kE λs hs=>?_;rw[jy,amJ];obtain⟨⟨o,ho,_,hdn⟩,_⟩:=hp.ss1 s hs;grind
theorem PlanOk.low(hp:PlanOk T ops N H0 la ss)(hlowH:mQ H0.length H0):mQ H0.length (cD (dn l) ss (H0++alX (dn l) la)):=
 EB (Um hlowH λa ha=>(hp.la2 a ha).2) λs hs=>(hp.ss1 s hs).2.1
theorem PlanOk.box(hp:PlanOk T ops N H0 la ss)(hcl:Clo ops l){s:AlS}(hsm:s∈ss)(hj:∀os,ops[s.i]?=some os->∀e∈os.after,Region.binds .any e=true->l.getD e.on false=true):∃bt c',(cD (dn l) ss (H0++alX (dn l) la))[s.j]?=some (.box bt c')/\s.off+s.l.length<=c'.length:=by
 obtain⟨_,_,ht,bt,cells,q8,q10⟩:=hp.ss1 s hsm
 have:(H0++alX (dn l) la)[s.j]?=some (.box bt cells):=by
  rcases amX s.j H0.length with hlt|hge
  ·grind
  ·rw[amN hge,tD]at q8 ⊢;cases hb:la[s.j-H0.length]? with
   |none=>rw[hb]at q8;cases q8
   |some b=>
    rw[hb]at q8;simp only[anz]at q8 ⊢;rw[show dn l b.i=true from kz hcl hj (Cq ht hb (by omega))];exact q8
 obtain⟨c',b1,b2⟩:=Ed (f:=dn l) this (ss:=ss);grind
theorem rg{H:List Item}{G:List Value}{w:World}{a:Act}{L:SL}{s:AlS}{oj:Oper}{bt:Nat}{c':List SV}{K:Act->World->Prop}{Qx:Exit->Act->World->Prop}(hT:eM P T=true)(hE:kD P E)(hI:inv w0)(hoj:ops[s.i]?=some oj)(hst:qK T L s oj)(b1:H[s.j]?=some (.box bt c'))(b2:s.off+s.l.length<=c'.length)
  (hr:SR Z w0 H G w) (hf:FR Z N L H G w a) (hx:X H G w) (hX:∀H G w H' G' w',X H G w->Ev Z fl H G w H' G' w'->X H' G' w')
  (hK:∀G' w',SR Z w0 (stP s H) G' w'->FR Z N L (stP s H) G' w' a->X (stP s H) G' w'->K a w'):wpOp P ops Qx s.i K a w:=by
 obtain⟨t,x,v,sv,y,q1,q2,q3,q4,q5,q6,q7,q9⟩:=hst
 have Fs:stP s H=H.set s.j (.box bt (nK c' s.off s.l)):=by
  unfold stP;rw[b1]
 have heop:eop T E fl L H oj (λs H' L'=>some (s,H',L'))=some (.undef,stP s H,L):=by
  unfold eop;rw[q1];dsimp only;rw[q4,q5,q6];dsimp only;rw[b1,Fq q7];dsimp only;rw[show Nat.beq s.l.length y.ty.n=true by rw[q9];exact aoT _,amI (show s.off+s.l.length<=c'.length by omega),Fs];rfl
 unfold wpOp;simp only[hoj];rw[am2 (by simp[Region.wanted,q2])];refine .inl ?_;refine vi hT hE hI hr hf heop λs' H' L1 G' w' v' k1 k2 k3 k4 k5=>?_;injection k1 with k1;injection k1 with k1 k1';injection k1' with k1' k1'';subst k1 k1' k1'';rw[q3];exact hK G' w' k2 k3 (hX _ _ _ _ _ _ hx k5.ev)
end
theorem EV{l:Array Bool}{H0:List Item}{L0:SL}{la:List AlA}{s:AlS}{o:Oper}{Ha:List Item}(h:Vp T ops la H0.length (fV (λ_=>true) la H0.length L0) Ha s o)(hcl:Clo ops l)(hj:∀os,ops[s.i]?=some os->∀e∈os.after,Region.binds .any e=true->l.getD e.on false=true):qK T (fV (dn l) la H0.length L0) s o:=by
 obtain⟨t,x,v,sv,y,bt,cells,q1,q2,q3,q4,q5,q6,q7,q8,q9,q10,q11,q12,q13⟩:=h
 have hopd:∀{z:Operand} {sz:SV},(∀a∈la,Ks z a.d=true->gz ops 4 s.i a.i=true)->opS (fV (λ_=>true) la H0.length L0) z=some sz->opS (fV (dn l) la H0.length L0) z=some sz:=by
  intro z sz hw hz;cases z with
  |tmp u=>
   rw[<-hz];refine iH (λb hb e=>?_) rfl;exact kz hcl hj (hw b hb (by simp[Ks,e]))
  |_=>exact hz
 exact⟨t,x,v,sv,y,q1,q2,q3,hopd (λb hb h=>q12 b hb (by rw[h];rfl)) q4,hopd (λb hb h=>q12 b hb (by rw[h,apt])) q5,q6,q7,q9⟩
set_option maxHeartbeats 1000000 in
theorem UT{H0:List Item}{L0:SL}{l0:Array Bool}{la:List AlA}{ss:List AlS}(hT:eM P T=true)(hE:kD P E)(hI:inv w0)
  (hA:alA T N ops.toList 0=some la) (hS:alS T E ops l0 la H0.length (fV (λ_=>true) la H0.length L0) (H0++alX (λ_=>true) la) ops.toList 0=some ss) (hD:GG ops l0 (la.map (·.i)++ss.map (·.i))=true) (hW:JT E ops l0 (la.map (·.i)++ss.map (·.i))=true)
  (hlowH:mQ H0.length H0) (hlowL:∀t s,aI L0 t=some s->s.refsT H0.length=true) (hfl:fl<=H0.length) (hl0:l0.size=ops.size)
  (hX:∀H G w H' G' w',X H G w->Ev Z fl H G w H' G' w'->X H' G' w')
  (hEnd:∀(n:Nat) (l:Array Bool) G w a,cu l<=n->l.size=ops.size->(∀k,l0.getD k false=true->l.getD k false=true)->(∀k∈la.map (·.i)++ss.map (·.i),l.getD k true=true)->(∀k,l.getD k true=true->l0.getD k true=true\/k∈la.map (·.i)++ss.map (·.i))->Clo ops l->SR Z w0 (cD (λ_=>true) ss (H0++alX (λ_=>true) la)) G w->FR Z N (fV (λ_=>true) la H0.length L0) (cD (λ_=>true) ss (H0++alX (λ_=>true) la)) G w a->X (cD (λ_=>true) ss (H0++alX (λ_=>true) la)) G w->wpG P ops Q (λ_=>True) n l a w):
  ∀(n:Nat) (l:Array Bool),cu l<=n->l.size=ops.size->(∀k,l0.getD k false=true->l.getD k false=true)->(∀k,l.getD k true=true->l0.getD k true=true\/k∈la.map (·.i)++ss.map (·.i))->Clo ops l->∀(G:List Value) (w:World) (a:Act),
   SR Z w0 (cD (dn l) ss (H0++alX (dn l) la)) G w->FR Z N (fV (dn l) la H0.length L0) (cD (dn l) ss (H0++alX (dn l) la)) G w a->X (cD (dn l) ss (H0++alX (dn l) la)) G w->wpG P ops Q (λ_=>True) n l a w:=by
 obtain⟨a1,a2,a3⟩:=oZ hA;obtain⟨s1,s2,s3⟩:=mD hS;have hp:=wj hA hS
 have cov:∀{l:Array Bool},(∀k,l0.getD k false=true->l.getD k false=true)->∀{k:Nat} {o:Oper},ops[k]?=some o->l.getD k true=false->(∃(r:Nat) (x:AlA),la[r]?=some x/\x.i=k/\bj o=true)\/(∃s∈ss,s.i=k/\bj o=false)\/(fo E o=true/\l0.getD k true=false):=by
  intro l hsub k o ho hu;have hk:ops.toList[k]?=some o:=by rw[an7];exact ho
  cases hal:bj o with
  |true=>
   obtain⟨r,x,h1,h2,_⟩:=a1 k o hk hal;exact .inl ⟨r,x,h1,by omega,rfl⟩
  |false=>
   right;have hlt:k<l0.size:=by rw[hl0];exact(amw.1 ho).1
   have h0:l0.getD (0+k) true=false:=by
    rw[amx];cases hq:l0.getD k true with
    |false=>rfl
    |true=>
     rw[<-jX hlt]at hq;have:=hsub k hq;rcases amX k l.size with h'|h'
     ·rw[jX h',hu]at this;cases this
     ·simp[anX h']at hu
   cases ht:fo E o with
   |true=>rw[amx]at h0;exact .inr ⟨rfl,h0⟩
   |false=>
    obtain⟨s,h1,h2⟩:=s1 k o hk h0 hal ht;exact .inl ⟨s,h1,by omega,rfl⟩
 have fin:∀{n:Nat} {l:Array Bool},cu l<=n->l.size=ops.size->(∀k,l0.getD k false=true->l.getD k false=true)->(∀k,l.getD k true=true->l0.getD k true=true\/k∈la.map (·.i)++ss.map (·.i))->Clo ops l->(∀k∈la.map (·.i)++ss.map (·.i),l.getD k true=true)->∀{G:List Value} {w:World} {a:Act},SR Z w0 (cD (dn l) ss (H0++alX (dn l) la)) G w->FR Z N (fV (dn l) la H0.length L0) (cD (dn l) ss (H0++alX (dn l) la)) G w a->X (cD (dn l) ss (H0++alX (dn l) la)) G w->wpG P ops Q (λ_=>True) n l a w:=by
  intro n l hcu hl hsub hin hcl hall G w a hr hf hx;have e1:∀x∈la,dn l x.i=true:=λx hx=>hall _ (anU _ (aoU.2 ⟨x,hx,rfl⟩));have e2:∀s∈ss,dn l s.i=true:=λs hs=>hall _ (an8 _ (aoU.2 ⟨s,hs,rfl⟩))
  have e3:alX (dn l) la=alX (λ_=>true) la:=by
   unfold alX;exact List.map_congr_left λx hx=>by rw[e1 x hx]
  have e4:cD (dn l) ss (H0++alX (dn l) la)=cD (λ_=>true) ss (H0++alX (λ_=>true) la):=by
   rw[e3];exact kE e2
  rw[e4]at hr hf hx;refine hEnd n l G w a hcu hl hsub hall hin hcl hr ⟨hf.defers,hf.size,λt s hs=>hf.slot t s ?_⟩ hx;rw[<-hs];exact iH (λx hx _=>e1 x hx) rfl
 intro n;induction n with
 |zero=>
  intro l hcu hl hsub hin hcl G w a hr hf hx;exact fin hcu hl hsub hin hcl (λk _=>T3 (l:=l) (by omega) k) hr hf hx
 |succ n ih=>
  intro l hcu hl hsub hin hcl G w a hr hf hx;by_cases hC:∀k∈la.map (·.i)++ss.map (·.i),l.getD k true=true
  ·exact fin hcu hl hsub hin hcl hC hr hf hx
  have hC':∃k∈la.map (·.i)++ss.map (·.i),l.getD k true=false:=by
   apply amB;intro hn;refine hC λk hk=>?_;cases hq:l.getD k true with
   |true=>rfl
   |false=>exact(hn ⟨k,hk,hq⟩).elim
  refine⟨λh=>(xn hl hD hsub hC' h).elim,λj hj=>?_⟩;obtain⟨hju,oj,hoj,hdep⟩:=anm.1 hj
  have hin':∀{i:Nat},i∈la.map (·.i)++ss.map (·.i)->∀k,(l.setIfInBounds i true).getD k true=true->l0.getD k true=true\/k∈la.map (·.i)++ss.map (·.i):=λ{i} hi k hk=>by
   have:=jy l i k;rw[show dn (l.setIfInBounds i true) k=true from hk]at this;by_cases e:k=i
   ·subst e;exact .inr hi
   ·rw[amJ e]at this;exact hin k this.symm
  have hsub':∀k,l0.getD k false=true->(l.setIfInBounds j true).getD k false=true:=λk hk=>api (hsub k hk);have hcu':cu (l.setIfInBounds j true)<=n:=by have:=zJ hju;omega
  have hjr:∀os,ops[j]?=some os->∀e∈os.after,Region.binds .any e=true->l.getD e.on false=true:=λos hos e he hb=>by rw[hoj]at hos;injection hos with hos;subst hos;exact hdep e he hb
  rcases cov hsub hoj hju with⟨r,x,h1,h2,hal⟩|⟨s,hsm,h2,hal⟩|⟨ht,hu0⟩
  ·-- an allocation
   subst h2;obtain⟨r',x',g1,g2,g3,g4,y,g5,g6⟩:=Is hA hoj hal
   have e:r'=r:=by
    by_cases hh:r'=r
    ·exact hh
    ·exact absurd g2 (Mm a3 h1 g1 hh).1
   subst e;rw[h1]at g1;injection g1 with g1;subst g1;obtain⟨hset,hgone⟩:=hp.setA hcl hl h1 hju;refine qY (L':=fV (dn (l.setIfInBounds x.i true)) la H0.length L0) hT hoj hal h1 g3 g4 g5 ⟨y,g6⟩ a3 hju hgone (hp.low hlowH) (Vt hlowL) hfl hr hf hx hX (CP (jy l x.i) a3 h1) λv G' w' _ k1 k2 k3=>⟨.inr trivial,?_⟩
   rw[<-hset]at k1 k2 k3;exact ih _ hcu' (by simpa using hl) hsub' (hin' (anU _ (aoU.2 ⟨x,ano h1,rfl⟩))) (hcl.set hj) G' w' _ k1 k2 k3
  ·-- a store
   subst h2;obtain⟨_,_,o,ho,_,hok⟩:=s2 s hsm;rw[apu,an7,hoj]at ho;injection ho with ho;subst ho;obtain⟨bt,c',b1,b2⟩:=hp.box hcl hsm hjr;refine rg (fl:=fl) hT hE hI hoj (EV hok hcl hjr) b1 b2 hr hf hx hX λG' w' k2 k3 k5=>⟨.inr trivial,?_⟩
   rw[<-hp.setS hsm hju]at k2 k3 k5;refine ih _ hcu' (by simpa using hl) hsub' (hin' (an8 _ (aoU.2 ⟨s,hsm,rfl⟩))) (hcl.set hj) G' w' _ k2 ?_ k5;exact⟨k3.defers,k3.size,λu su hs=>k3.slot u su (by rw[<-iH (λx hx _=>(hp.same hoj hal).2 x hx) rfl];exact hs)⟩
  ·-- a tame one waits for all
   exfalso;obtain⟨k,hk,hku⟩:=hC';have hw:=amC.1 hW j (List.mem_range.2 (amw.1 hoj).1);unfold dY at hw;rw[hu0,hoj]at hw;dsimp only at hw;rw[ht]at hw;simp only[Bool.not_true,Bool.or_false,Bool.false_or]at hw;have:=kz hcl hjr (amC.1 hw k hk);rw[hku]at this;cases this
end
end
section
section
variable {P:Program} {T:TT} {R:Type}
theorem xf{L:SL}{o:Oper}{k:SV->Option R}{r:R}(h:me P L o k=some r):∃s,k s=some r/\me P L o some=some s:=by
 unfold me at h ⊢;repeat' (split at h)
 all_goals first
  |(cases h;done)
  |exact⟨_,h,by simp[*]⟩
  |exact⟨_,h,rfl⟩
theorem T0{L:SL}{H:List Item}{o:Oper}{k:SV->Option R}{r:R}(hq:kK o.op=true)(h:qop P T true L H o k=some r):∃s,k s=some r/\qop P T true L H o some=some s:=by
 unfold qop at h ⊢;split at h;all_goals (repeat' (split at h))
 all_goals first
  |(cases h;done)
  |exact⟨_,h,by simp[*]⟩
  |exact⟨_,h,rfl⟩
  |exact xf h
  |(obtain⟨s,h1,h2⟩:=xf h;exact⟨s,h1,by simp[*]⟩)
  |(exfalso;simp[kK, *]at hq;done)
end
section
variable {P:Program} {T:TT} {R:Type}
theorem BG{H X:List Item}{j:Nat}{it:Item}(h:H[j]?=some it):(H++X)[j]?=some it:=by grind
theorem G4{H X:List Item}{s:SV}{l:List SV}(h:fD H s=some l):fD (H++X) s=some l:=by
 unfold fD at h ⊢;grind
theorem Ab{H X:List Item}{L:SL}{place:Nat->Option (Nat×Nat)}:∀{ps:List (Nat×Operand)} {cs cs':List SV},qH H L place cs ps=some cs'->qH (H++X) L place cs ps=some cs'
 |[],_,_,h=>h
 |(i,x)::r,cs,cs',h=>by
  simp only[qH]at h ⊢;split at h<;>try (cases h;done)
  rename_i h1 h2;split at h<;>try (cases h;done)
  rename_i l hl;split at h<;>try (cases h;done)
  rename_i hb;simp only[G4 hl,hb];exact Ab h
theorem D8{H X:List Item}:∀{ss:List SV} {tys:List Nat} {al:List SV},ss.all SV.noOwn=true->eW T H ss tys=some al->eW T (H++X) ss tys=some al
 |[],[],_,_,h=>h
 |[],_::_,_,_,h=>by simp[eW]at h
 |_::_,[],_,_,h=>by simp[eW]at h
 |s::l,t::ts,al,hn,h=>by
  simp only[anu,aml]at hn;simp only[eW]at h ⊢;split at h<;>try (cases h;done)
  rename_i r hr;rw[D8 hn.2 hr]
  cases s<;>first
   |exact h
   |(exfalso;have:=hn.1;simp[SV.noOwn]at this;done)
theorem Ix{L:SL}{H X:List Item}{o:Oper}{s:SV}(hq:kK o.op=true)(h:qop P T true L H o some=some s):qop P T true L (H++X) o some=some s:=by
 have hq':∀op t x y u,o.op=.binOp op t x y u->H5 op y=none:=λop t x y u e=>by
  rw[e]at hq;simpa [kK,isQ]using hq
 unfold qop at h ⊢;split at h;all_goals (try (rename_i hop;simp only[hq' _ _ _ _ _ hop]at h ⊢;exact h))
 all_goals (try (rename_i hop;simp only at h ⊢;exact h))
 all_goals (repeat' (split at h))
 all_goals first
  |(cases h;done)
  |exact h
  |(simp only[*];done)
  |(have hx:=BG (X:=X) (by assumption:H[_]?=some _);simp only[*];done)
  |(have hx:=BG (X:=X.map rdI) (by assumption:(H.map rdI)[_]?=some _);rw[<-List.map_append]at hx;simp only[*];done)
  |(simp[*];done)
  |(have hx:=Ab (X:=X) (by assumption:qH H _ _ _ _=some _);simp only[*];done)
  |(have hx:=BG (X:=X.map rdI) (by assumption:(H.map rdI)[_]?=some _);rw[<-List.map_append]at hx;simp only[hx];simp_all;done)
end
theorem ck{d:Nat}{s:SV}{L:SL}{t:Nat}:aI ((d,s)::nS L d) t=if t=d then some s else aI L t:=d8
theorem PA{L:SL}{t:Nat}:∀{ts:List Nat},t∈ts->aI (gI L ts) t=aI L t:=by
 intro ts ht;cases hl:aI L t with
 |none=>
  cases hs:aI (gI L ts) t with
  |none=>rfl
  |some s=>rw[gF hs]at hl;cases hl
 |some s=>
  induction ts with
  |nil=>cases ht
  |cons u us ih=>
   simp only[gI];by_cases hu:u=t
   ·grind [aI,aoT]
   ·have hb:Nat.beq u t=false:=by
     grind [amk]
    split
    ·grind [aI]
    grind
theorem dN{L M:SL}:∀{ts:List Nat},(∀t∈ts,aI L t=aI M t)->gI L ts=gI M ts
 |[],_=>rfl
 |u::us,h=>by
  simp only[gI];rw[h u (by simp),dN (ts:=us) λt ht=>h t (by simp[ht])]
theorem pG{R:Type}{ops:Array Oper}{L:SL}{o:Oper}{yes no:SL->Option R}{r:R}(h:c9 ops L o yes no=some r):
  (∃L',(∀t,aI L' t=aI L t)/\yes L'=some r/\c9 ops (gI L (o.looksAt ops)) o (λ_=>some true) (λ_=>some false)=some true)\/(∃L',(∀t,aI L' t=aI L t)/\no L'=some r/\c9 ops (gI L (o.looksAt ops)) o (λ_=>some true) (λ_=>some false)=some false):=by
 unfold c9 at h;split at h
 ·rename_i hg;exact .inl ⟨L,λ_=>rfl,h,by unfold c9;rw[hg]⟩
 ·rename_i j want hg;split at h<;>try (cases h;done)
  rename_i d hd;have hm:d∈o.looksAt ops:=by unfold Oper.looksAt;rw[hg];simp[hd]
  have hl:=PA (L:=L) hm;split at h
  ·rename_i b hb
   have hy:∀b':Bool,b=b'->∀t,aI ((d,.d .bool b')::nS L d) t=aI L t:=λb' e t=>by
    subst e;rw[ck];split
    ·rename_i e;subst e;exact hb.symm
    ·rfl
   split at h
   ·split at h
    ·exact .inl ⟨_,hy true rfl,h,by unfold c9;simp only[hg,hd,hl,hb]⟩
    ·exact .inr ⟨_,hy true rfl,h,by unfold c9;simp only[hg,hd,hl,hb]⟩
   ·split at h
    ·exact .inr ⟨_,hy false rfl,h,by unfold c9;simp only[hg,hd,hl,hb]⟩
    ·exact .inl ⟨_,hy false rfl,h,by unfold c9;simp only[hg,hd,hl,hb]⟩
  ·grind [c9]
  ·cases h
def StepF(P:Program)(H:List Item)(ops:Array Oper)(Lr:SL)(o:Oper)(j:Nat)(s:SV):Prop:=
 ∀(X:List Item) (Z:Nat->Prop) (w0:World) (n:Nat) (G:List Value) (w:World) (a:Act) (Q:Exit->Act->World->Prop) (K:Act->World->Prop),inv w0->SR Z w0 (H++X) G w->FR Z n Lr (H++X) G w a->
  (∀v G' w',Old w w'->SR Z w0 (H++X) G' w'->(∀s' v',Rel1 G (Av Z (H++X) G) w s' v'->Rel1 G' (Av Z (H++X) G') w' s' v')->Rel G' (Av Z (H++X) G') w' s v->K (a.put o.dst v) w')->wpOp P ops Q j K a w
theorem StepF.ext{P:Program}{H:List Item}{ops:Array Oper}{Lr:SL}{o:Oper}{j:Nat}{s:SV}(h:StepF P H ops Lr o j s)(X:List Item):StepF P (H++X) ops Lr o j s:=by
 intro Y Z w0 n G w a Q K;rw[amH];exact h (X++Y) Z w0 n G w a Q K
def StepP(P:Program)(H:List Item)(ops:Array Oper)(Lr:SL)(o:Oper)(s:SV):Prop:=
 ∀(X:List Item) (Z:Nat->Prop) (w0:World) (n:Nat) (G:List Value) (w:World) (a:Act),SR Z w0 (H++X) G w->FR Z n Lr (H++X) G w a->∃v,YieldsIf P ops (λ_=>True) o v a/\Rel G (Av Z (H++X) G) w s v
theorem StepP.ext{P:Program}{H:List Item}{ops:Array Oper}{Lr:SL}{o:Oper}{s:SV}(h:StepP P H ops Lr o s)(X:List Item):StepP P (H++X) ops Lr o s:=by
 intro Y Z w0 n G w a;rw[amH];exact h (X++Y) Z w0 n G w a
section
variable {P:Program} {T:TT} {E:Env} {H:List Item} {ops:Array Oper} {R:Type}
theorem Hi{rs:List RV}{s:SV}(h:abr rs=some s):pL H rs (λs H'=>some (s,H'))=some (s,H):=by
 unfold abr at h;split at h
 ·injection h with h;subst h;rfl
 ·cases h
 grind [pL]
theorem F1{Lr:SL}{o:Oper}(hg:c9 ops Lr o (λ_=>some true) (λ_=>some false)=some false):StepP P H ops Lr o .undef:=by
 intro X Z w0 n G w a hr hf
 have want:Region.wanted o (yielded ops a.tmps)=false:=by
  grind [fv]
 exact⟨undef,.inr ⟨want,rfl⟩,rfl⟩
theorem Cw{Lr:SL}{o:Oper}{j:Nat}{k:SV->Option R}{r:R}(hT:eM P T=true)(hE:kD P E)(hops:ops[j]?=some o)(hg:c9 ops Lr o (λ_=>some true) (λ_=>some false)=some true)(h:tq P T E Lr H o k=some r):
  ∃s,k s=some r/\StepF P H ops Lr o j s/\(AV o=true->StepP P H ops Lr o s):=by
 have want:∀{H:List Item} {Z:Nat->Prop} {n:Nat} {G:List Value} {w:World} {a:Act},FR Z n Lr H G w a->Region.wanted o (yielded ops a.tmps)=true:=λhf=>by
  rcases fv hf hg with⟨_,_,_,h3⟩|⟨_,h1,_,_⟩
  ·exact h3
  ·cases h1
 unfold tq at h;split at h
 ·rename_i hq;obtain⟨s,h1,h2⟩:=T0 hq h;refine⟨s,h1,λX Z w0 n G w a Q K hI hr hf hK=>?_,λhp X Z w0 n G w a hr hf=>?_⟩;rotate_left
  ·obtain⟨s',v,g1,g2,g3⟩:=mK hT hr hf (Ix (X:=X) hq h2);injection g1 with g1;subst g1;refine⟨v,.inl ⟨want hf,λw' _=>g3 w' λhl=>?_⟩,g2⟩;unfold AV at hp;rw[hl]at hp;simp at hp
  obtain⟨s',v,g1,g2,g3⟩:=mK hT hr hf (Ix (X:=X) hq h2);injection g1 with g1;subst g1;unfold wpOp;simp only[hops];rw[am2 (want hf)];refine .inl ?_;unfold Oper.wp;rw[g3 w (λ_=>Agr.refl)];exact hK v G w (Old.refl w) hr (λ_ _ h=>h) g2
 ·split at h
  ·rename_i f args tys ht ho;unfold YD at h;split at h<;>try (cases h;done)
   rename_i sp hsp;obtain⟨hcl,hok,_⟩:=hE f sp hsp;split at h<;>try (cases h;done)
   rename_i ss hss;split at h<;>try (cases h;done)
   rename_i al hal hno;obtain⟨rs,hk,hcon⟩:=hok _ _ _ _ h;split at hk<;>try (cases hk;done)
   rename_i s hs
   refine⟨s,hk,λX Z w0 n G w a Q K hI hr hf hK=>?_,λhp=>by
    unfold AV at hp;rw[‹kK o.op=false›]at hp;cases hp⟩
   have hrel:bI (Rel1 [] (Av Z (H++X) G) w) al (args.toList.map a.eval):=by
    refine ic (A:=Av Z (H++X) G) (ss0:=ss) hr (λ_ _ h=>h) (.inr ?_) (λs hs=>hs) (D8 hno hal) (jq hf hss);intro s hs;exact amC.1 hno _ hs
   unfold wpOp;simp only[hops];rw[am2 (want hf)];refine .inl ?_;unfold Oper.wp;rw[kM hcl a.eval o (.func f) args tys #[] ho rfl w];have e1:Array.map a.eval args++ #[]=(args.toList.map a.eval).toArray:=by obtain⟨l⟩:=args;simp
   rw[e1];refine(hcon _ w _ (kn hI hr.below) hrel).mono ?_;rintro e w' ⟨v,rfl,hb,hres⟩
   obtain⟨s',H',G',k1,k2,k3,k4,k5⟩:=ie hr hf hb hres (.inl λ_ _ h=>h) (Hi hs) (H++X).length false false;injection k1 with k1;injection k1 with k1 k1';subst k1 k1';refine hK v G' w' ⟨hb.size,λb hbs=>hb.block b hbs⟩ k2 (λs' v' h=>k5.pres s' v' h λi hi=>xO (so hr h) hi) k4
  ·cases h
theorem rJ{Lr:SL}{o:Oper}{j:Nat}(hops:ops[j]?=some o)(hg:c9 ops Lr o (λ_=>some true) (λ_=>some false)=some false):StepF P H ops Lr o j .undef:=by
 intro X Z w0 n G w a Q K hI hr hf hK
 have want:Region.wanted o (yielded ops a.tmps)=false:=by
  grind [fv]
 unfold wpOp;simp only[hops];rw[amJ (by rw[want];simp)];exact hK undef G w (Old.refl w) hr (λ_ _ h=>h) rfl
inductive TRun (P:Program) (E:Env) (ops:Array Oper) (N:Nat) (H:List Item) (lo:Bool) (Stp Fin:Nat->Array Bool->SL->Prop):Nat->Array Bool->SL->Prop
 |done {n:Nat} {l:Array Bool} {L:SL}:fA E ops l=true->Fin n l L->TRun P E ops N H lo Stp Fin n l L
 |stop {n:Nat} {l:Array Bool} {L:SL}:Region.ready .any ops l=[]->Stp n l L->TRun P E ops N H lo Stp Fin n l L
 |step {n:Nat} {l:Array Bool} {L L':SL} {j:Nat} {o:Oper} {d:Nat} {s:SV}:j∈Region.ready .any ops l->(iV E ops j=true\/StepP P H ops (gI L (o.looksAt ops)) o s\/lo=true)->dY E ops j=true->ops[j]?=some o->o.dst=some d->d<N->Region.free .any ops l j=true->StepF P H ops (gI L (o.looksAt ops)) o j s->
   s.refsT H.length=true->(∀t,aI L' t=if t=d then some s else aI L t)->TRun P E ops N H lo Stp Fin n (l.setIfInBounds j true) L'->TRun P E ops N H lo Stp Fin (n+1) l L
variable {N:Nat} {lo:Bool} {Stp Fin:Nat->Array Bool->SL->Prop}
theorem pF{l:Array Bool}(hc:Clo ops l)(h:fA E ops l=true){j:Nat}(hj:j∈Region.ready .any ops l):dY E ops j=false:=by
 obtain⟨h1,o,h2,h3⟩:=anm.1 hj;have:=amC.1 h j (List.mem_range.2 (amw.1 h2).1);grind [kz]
theorem Ax{l:Array Bool}(h:fA E ops l=true)(j:Nat)(hj:eF E ops j=false):fA E ops (l.setIfInBounds j true)=true:=by
 refine amC.2 λk hk=>?_;have:=amC.1 h k hk;by_cases hjk:j=k
 ·simp_all
 ·rw[aoS true hjk];simp only[aok]at this ⊢;rcases this with h1|h1
  ·exact .inl h1
  ·refine .inr ?_;rw[List.any_eq_true]at h1 ⊢;obtain⟨s,hs,hb⟩:=h1;refine⟨s,hs,?_⟩;simp only[aml]at hb ⊢;have hne:j≠s:=λe'=>by rw[<-e',hj]at hb;cases hb.1.1
   simp_all
theorem xk{l:Array Bool}(hc:Clo ops l){i j:Nat}(h:iV E ops i=true)(hi:l.getD i true=false)(hj:j∈Region.ready .any ops l):eF E ops j=false:=by
 obtain⟨_,o,ho,hall⟩:=anm.1 hj;have h1:=amC.1 h j (by simpa using(amw.1 ho).1);grind [uR]
theorem mt{l:Array Bool}{i j:Nat}{oi:Oper}(h2:ops[i]?=some oi)(_hjun:l.getD j true=false)(h5:Region.free .any ops l i=true):Region.free .any ops (l.setIfInBounds j true) i=true:=by
 have hjn:∀k,(l.setIfInBounds j true).getD k true=false->l.getD k true=false:=λk hk=>by
  by_cases hjk:j=k<;>simp_all
 grind [Region.free]
theorem iS{o:Oper}(h:bj o=true):fo E o=false:=by
 unfold bj at h;unfold fo kK Fa;cases hop:o.op<;>rw[hop]at h<;>simp at h;rfl
theorem qI{o:Oper}(h:fo E o=true):dR o.op=false:=by
 cases hop:o.op with
 |store=>unfold fo kK Fa at h;rw[hop]at h;simp[isQ]at h
 |call c=>
  obtain⟨f,x,y⟩:=c;cases f with
  |builtin b=>cases b<;>first|rfl|(unfold fo kK Fa at h;rw[hop]at h;simp[isQ]at h)
  |_=>rfl
 |_=>rfl
theorem TRun.any{n:Nat}{l:Array Bool}{L:SL}(h:TRun P E ops N H lo Stp Fin n l L):Clo ops l->∀{j:Nat},j∈Region.ready .any ops l->dY E ops j=true->
  ∃(n':Nat) (o:Oper) (d:Nat) (s:SV) (L':SL),n=n'+1/\ops[j]?=some o/\o.dst=some d/\d<N/\StepF P H ops (gI L (o.looksAt ops)) o j s/\s.refsT H.length=true/\(∀t,aI L' t=if t=d then some s else aI L t)/\TRun P E ops N H lo Stp Fin n' (l.setIfInBounds j true) L':=by
 induction h with
 |done h1 h2=>intro hcl j hj hs;rw[pF hcl h1 hj]at hs;cases hs
 |stop h1 h2=>intro _ j hj;rw[h1]at hj;cases hj
 | @step n l L L1 i oi di si h1 h0 h0' h2 h3 h4 h5 h6 hrf h7 h8 ih=>
  intro hcl j hj hst;by_cases hji:j=i
  ·subst hji;exact⟨n,oi,di,si,L1,rfl,h2,h3,h4,h6,hrf,h7,h8⟩
  ·obtain⟨n',oj,dj,sj,L2,e1,g2,g3,g4,g6,grf,g7,g8⟩:=ih (hcl.set h1) (anJ hj hji) hst;have hjun:=(anm.1 hj).1;have hap:=anV h2 h5 j oj g2 hji hjun (ez h1 hj g2);obtain⟨a1,a2,a3⟩:=aoV hap;have b1:=a1 di h3;have b2:dj≠di:=λe=>a2 di h3 (by rw[g3,e]);have b3:=a3 dj g3
   have c1:StepF P H ops (gI L (oj.looksAt ops)) oj j sj:=by
    rw[<-dN (L:=L1) (M:=L) λt ht=>by rw[h7 t,amJ (λe=>b1 (by rw[<-e];exact ht))]];exact g6
   refine⟨n,oj,dj,sj,(dj,sj)::nS L dj,rfl,g2,g3,g4,c1,grf,λt=>ck,?_⟩;rw[e1];refine .step (j:=i) (L':=L2) (anJ h1 (aod hji)) ?_ h0' h2 h3 h4 (mt h2 hjun h5) ?_ hrf (λt=>?_) ?_ (s:=si)
   ·rw[dN (M:=L) λt ht=>by rw[ck,amJ (λe=>b3 (by rw[<-e];exact ht))]];exact h0
   ·rw[dN (M:=L) λt ht=>by rw[ck,amJ (λe=>b3 (by rw[<-e];exact ht))]];exact h6
   ·rw[g7 t,h7 t,ck];by_cases e1:t=dj
    ·subst e1;rw[am2 rfl,amJ b2];rw[am2 rfl]
    ·rw[amJ e1,amJ e1]
   ·rw[anb _ _ hji];exact g8
theorem TRun.alloc{la:List AlA}(hFin:∀n l L j oj,Fin n l L->j∈Region.ready .any ops l->fA E ops l=true->ops[j]?=some oj->bj oj=true->∃n' r a L',n=n'+1/\la[r]?=some a/\a.i=j/\oj.dst=some a.d/\a.d<N/\(∃x,oj.op=.alloc a.t/\dt T a.t=some x/\x.z=true/\(∀p q,x.ty≠.pair p q)/\a.cs=x.ty.zsplit)/\(∀t,aI L' t=if t=a.d then some (.box (H.length+r) 0)else aI L t)/\TRun P E ops N H lo Stp Fin n' (l.setIfInBounds j true) L')
  {n:Nat} {l:Array Bool} {L:SL} (h:TRun P E ops N H lo Stp Fin n l L):Clo ops l->∀{j:Nat} {oj:Oper},j∈Region.ready .any ops l->ops[j]?=some oj->bj oj=true->
  ∃(n' r:Nat) (a:AlA) (L':SL),n=n'+1/\la[r]?=some a/\a.i=j/\oj.dst=some a.d/\a.d<N/\(∃x,oj.op=.alloc a.t/\dt T a.t=some x/\x.z=true/\(∀p q,x.ty≠.pair p q)/\a.cs=x.ty.zsplit)/\(∀t,aI L' t=if t=a.d then some (.box (H.length+r) 0)else aI L t)/\TRun P E ops N H lo Stp Fin n' (l.setIfInBounds j true) L':=by
 induction h with
 |done h1 h2=>intro _ j oj hj hoj hal;exact hFin _ _ _ _ _ h2 hj h1 hoj hal
 |stop h1 h2=>intro _ j oj hj;rw[h1]at hj;cases hj
 | @step n l L L1 i oi di si h1 h0 h0' h2 h3 h4 h5 h6 hrf h7 h8 ih=>
  intro hcl j oj hj hoj hal;by_cases hji:j=i
  ·exfalso;subst hji;unfold dY at h0';rw[hoj]at h0';dsimp only at h0';rw[iS hal]at h0';cases h0'
  ·obtain⟨n',r,x,L2,e1,e2,e3,g3,g4,g5,g7,g8⟩:=ih (hcl.set h1) (anJ hj hji) hoj hal;have hjun:=(anm.1 hj).1;have hap:=anV h2 h5 j oj hoj hji hjun (ez h1 hj hoj);obtain⟨a1,a2,a3⟩:=aoV hap;have b2:x.d≠di:=λe=>a2 di h3 (by rw[g3,e]);have b3:=a3 x.d g3;refine⟨n,r,x,(x.d,.box (H.length+r) 0)::nS L x.d,rfl,e2,e3,g3,g4,g5,λt=>ck,?_⟩;rw[e1];refine .step (j:=i) (L':=L2) (anJ h1 (aod hji)) ?_ h0' h2 h3 h4 (mt h2 hjun h5) ?_ hrf (λt=>?_) ?_ (s:=si)
   ·rw[dN (M:=L) λt ht=>by rw[ck,amJ (λe=>b3 (by rw[<-e];exact ht))]];exact h0
   ·rw[dN (M:=L) λt ht=>by rw[ck,amJ (λe=>b3 (by rw[<-e];exact ht))]];exact h6
   ·rw[g7 t,h7 t,ck];by_cases e1:t=x.d
    ·subst e1;rw[am2 rfl,amJ b2];rw[am2 rfl]
    ·rw[amJ e1,amJ e1]
   ·rw[anb _ _ hji];exact g8
theorem TRun.store{ss:List AlS}(hFin:∀n l L j oj,Fin n l L->Clo ops l->j∈Region.ready .any ops l->fA E ops l=true->ops[j]?=some oj->eF E ops j=true->∃n' s,n=n'+1/\s∈ss/\s.i=j/\qK T L s oj/\TRun P E ops N H lo Stp Fin n' (l.setIfInBounds j true) L)
  {n:Nat} {l:Array Bool} {L:SL} (h:TRun P E ops N H lo Stp Fin n l L):Clo ops l->∀{j:Nat} {oj:Oper},j∈Region.ready .any ops l->ops[j]?=some oj->eF E ops j=true->
  ∃(n':Nat) (s:AlS),n=n'+1/\s∈ss/\s.i=j/\qK T L s oj/\TRun P E ops N H lo Stp Fin n' (l.setIfInBounds j true) L:=by
 induction h with
 |done h1 h2=>intro hcl j oj hj hoj hal;exact hFin _ _ _ _ _ h2 hcl hj h1 hoj hal
 |stop h1 h2=>intro _ j oj hj;rw[h1]at hj;cases hj
 | @step n l L L1 i oi di si h1 h0 h0' h2 h3 h4 h5 h6 hrf h7 h8 ih=>
  intro hcl j oj hj hoj hal;by_cases hji:j=i
  ·exfalso;subst hji;unfold dY at h0';unfold eF at hal;rw[hoj]at h0' hal;dsimp only at h0' hal;rw[h0']at hal;cases hal
  ·obtain⟨n',s,e1,e2,e3,g5,g8⟩:=ih (hcl.set h1) (anJ hj hji) hoj hal;have hjun:=(anm.1 hj).1;have hap:=anV h2 h5 j oj hoj hji hjun (ez h1 hj hoj);obtain⟨a1,a2,a3⟩:=aoV hap;have b1:=a1 di h3;refine⟨n,s,rfl,e2,e3,?_,?_⟩
   ·obtain⟨t,x,v,sv,y,q1,q2,q3,q4,q5,q6⟩:=g5
    have hop:∀{z:Operand} {sz:SV},(∀u,z=.tmp u->u∈oj.looksAt ops)->opS L1 z=some sz->opS L z=some sz:=by
     intro z sz hz he;cases z with
     |tmp u=>
      simp only[opS]at he ⊢;rw[h7 u,amJ (λe=>b1 (by rw[<-e];exact hz u rfl))]at he;exact he
     |_=>exact he
    refine⟨t,x,v,sv,y,q1,q2,q3,hop (λu hu=>?_) q4,hop (λu hu=>?_) q5,q6⟩
    ·unfold Oper.looksAt;rw[q1,hu];simp[Op.operands]
    ·unfold Oper.looksAt;rw[q1,hu];simp[Op.operands]
   ·rw[e1];refine .step (j:=i) (L':=L1) (anJ h1 (aod hji)) h0 h0' h2 h3 h4 (mt h2 hjun h5) h6 hrf h7 ?_ (s:=si);rw[anb _ _ hji];exact g8
theorem tM{f:Nat->Bool}{H Y:List Item}:∀{ss:List AlS},(∀s∈ss,H.length<=s.j)->∃X,cD f ss (H++Y)=H++X
 |[],_=>⟨Y,rfl⟩
 |s::r,h=>by
  obtain⟨X,hX⟩:=tM (f:=f) (H:=H) (Y:=Y) (ss:=r) λs hs=>h s (by simp[hs]);simp only[cD];rw[hX];split
  ·unfold stP;split
   ·rename_i bt cells hb;rw[List.set_append,amJ (by have:=h s (by simp);omega)];exact⟨_,rfl⟩
   ·exact⟨X,rfl⟩
  ·exact⟨X,rfl⟩
theorem FR.eqv{Z:Nat->Prop}{n:Nat}{L M:SL}{H:List Item}{G:List Value}{w:World}{a:Act}(h:FR Z n L H G w a)(he:∀t,aI L t=aI M t):FR Z n M H G w a:=
 ⟨h.defers,h.size,λt s hs=>h.slot t s (by rw[he t];exact hs)⟩
theorem yd{Q:Exit->Act->World->Prop}{S0:World->Prop}:∀(n:Nat) (l:Array Bool) (a:Act) (w:World),wpG P ops Q S0 n l a w->wpG P ops Q (λ_=>True) n l a w
 |0,_,_,_,h=>h
 |n+1,_,_,_,h=>⟨h.1,λi hi=>wpOp_mono (λ_ _ h'=>⟨.inr trivial,yd n _ _ _ h'.2⟩) (h.2 i hi)⟩
theorem TRun.sound{Z:Nat->Prop}{w0:World}{fl:Nat}{Q:Exit->Act->World->Prop}{X:List Item->List Value->World->Prop}{la:List AlA}{ss:List AlS}{S0:World->Prop}(hS0:∀w w',S0 w->Old w w'->S0 w')(hSs:ss≠[]->∀w,S0 w)(hT:eM P T=true)(hE:kD P E)(hI:inv w0)(hsel:∀(j:Nat) (o:Oper) cs b,ops[j]?=some o->o.op≠.select cs b)(hPQ:∀c a d v w,Q (.panic c) (Act.put a d v) w->Q (.panic c) a w)
  (hFin:∀n l L j oj,Fin n l L->j∈Region.ready .any ops l->fA E ops l=true->ops[j]?=some oj->bj oj=true->∃n' r a L',n=n'+1/\la[r]?=some a/\a.i=j/\oj.dst=some a.d/\a.d<N/\(∃x,oj.op=.alloc a.t/\dt T a.t=some x/\x.z=true/\(∀p q,x.ty≠.pair p q)/\a.cs=x.ty.zsplit)/\(∀t,aI L' t=if t=a.d then some (.box (H.length+r) 0)else aI L t)/\TRun P E ops N H lo Stp Fin n' (l.setIfInBounds j true) L')
  (hFinS:lo=true->∀n l L j oj,Fin n l L->Clo ops l->j∈Region.ready .any ops l->fA E ops l=true->ops[j]?=some oj->eF E ops j=true->∃n' s,n=n'+1/\s∈ss/\s.i=j/\qK T L s oj/\TRun P E ops N H lo Stp Fin n' (l.setIfInBounds j true) L)
  (hp:PlanOk T ops N H la ss) (hnew:∀s∈ss,H.length<=s.j) (hlow:mQ H.length H) (hfl:fl<=H.length)
  (hX:∀H G w H' G' w',X H G w->Ev Z fl H G w H' G' w'->X H' G' w') (hQ:∀n l L G w a,Fin n l L\/(Stp n l L/\Region.ready .any ops l=[])->S0 w->Clo ops l->l.size=ops.size->zt H.length la (dn l) L->SR Z w0 (cD (dn l) ss (H++alX (dn l) la)) G w->FR Z N L (cD (dn l) ss (H++alX (dn l) la)) G w a->X (cD (dn l) ss (H++alX (dn l) la)) G w->wpG P ops Q S0 n l a w):
  ∀(n:Nat) (l:Array Bool) (L:SL),TRun P E ops N H lo Stp Fin n l L->Clo ops l->l.size=ops.size->zt H.length la (dn l) L->∀(G:List Value) (w:World) (a:Act),SR Z w0 (cD (dn l) ss (H++alX (dn l) la)) G w->FR Z N L (cD (dn l) ss (H++alX (dn l) la)) G w a->X (cD (dn l) ss (H++alX (dn l) la)) G w->S0 w->wpG P ops Q S0 n l a w:=by
 have lowS:∀{l:Array Bool} {L L':SL} {j d:Nat} {s:SV},zt H.length la (dn l) L->s.refsT H.length=true->(∀t,aI L' t=if t=d then some s else aI L t)->zt H.length la (dn (l.setIfInBounds j true)) L':=by
  intro l L L' j d s hL hs hL' t u hu;rw[hL' t]at hu;split at hu
  ·injection hu with hu;subst hu;exact .inl hs
  ·rcases hL t u hu with h|⟨r,a,h1,h2,h3⟩
   ·exact .inl h
   ·refine .inr ⟨r,a,h1,?_,h3⟩;rw[jy];split
    ·rfl
    ·exact h2
 intro n;induction n with
 |zero=>
  intro l L h hcl hsz hL G w a hr hf hx hs0;cases h with
  |done h1 h2=>exact hQ 0 l L G w a (.inl h2) hs0 hcl hsz hL hr hf hx
  |stop h1 h2=>exact hQ 0 l L G w a (.inr ⟨h2,h1⟩) hs0 hcl hsz hL hr hf hx
 |succ n ih=>
  intro l L h hcl hsz hL G w a hr hf hx hs0;have h':=h;cases h with
  |done h1 h2=>exact hQ _ l L G w a (.inl h2) hs0 hcl hsz hL hr hf hx
  |stop h1 h2=>exact hQ _ l L G w a (.inr ⟨h2,h1⟩) hs0 hcl hsz hL hr hf hx
  | @step _ _ _ L1 i oi di si h1 h0 h0' h2 h3 h4 h5 h6 hrf h7 h8=>
   have ht:fo E oi=true:=by
    unfold dY at h0';rw[h2]at h0';exact h0'
   have hnal:bj oi=false:=by
    cases hq:bj oi with
    |false=>rfl
    |true=>rw[iS hq]at ht;cases ht
   rw[<-or_assoc,or_right_comm]at h0;rcases h0 with h0|h0;rotate_left
   ·have hns:dR oi.op=false:=qI ht;obtain⟨Y,hY⟩:=tM (f:=dn l) (Y:=alX (dn l) la) hnew;have e1:=hp.setT (l:=l) h2 hnal h3;obtain⟨v,y1,y2⟩:=h0 Y Z w0 N G w a (by rw[<-hY];exact hr) (by rw[<-hY];exact⟨hf.defers,hf.size,λt s' hs=>hf.slot t s' (gF hs)⟩);rw[<-hY]at y2;refine Db h2 hsel (λc a w hq=>hPQ c a _ _ w hq) hns n l a w (anV h2 h5) h1 y1 (.inr hs0) (ih _ _ h8 (hcl.set h1) (by simpa using hsz) (lowS hL hrf h7) G w _ (by rw[e1];exact hr) ?_ (by rw[e1];exact hx) hs0)
    have hf1:=hf.put (d:=some di) (L':=(di,si)::nS L di) (s:=si) (by
     simp only[gg];rw[amI h4]) y2
    rw[<-h3]at hf1;rw[e1];exact hf1.eqv λt=>by rw[ck,h7 t]
   refine v6 rfl (λe=>by rw[e]at h1;cases h1) λj hj=>?_;obtain⟨hjun,oj,hoj,_⟩:=anm.1 hj;cases hnl:eF E ops j with
   |true=>
    have hlo:lo=true:=h0.resolve_left λh0=>by
     rw[xk hcl h0 (anm.1 h1).1 hj]at hnl;cases hnl
    obtain⟨n',s,e1,e2,e3,g5,g8⟩:=h'.store (T:=T) (hFinS hlo) hcl hj hoj hnl;have e1:n=n':=by omega
    subst e1 e3;obtain⟨_,oj',hoj',hdep⟩:=anm.1 hj;rw[hoj]at hoj';injection hoj' with hoj';subst hoj';obtain⟨bt,c',b1,b2⟩:=hp.box hcl e2 λos hos e he hb=>by rw[hoj]at hos;injection hos with hos;subst hos;exact hdep e he hb
    refine rg (fl:=fl) hT hE hI hoj g5 b1 b2 hr hf hx hX λG' w' k2 k3 k5=>⟨.inr (hSs (λe=>by rw[e]at e2;cases e2) w'),?_⟩
    rw[<-hp.setS e2 hjun]at k2 k3 k5;refine ih _ _ g8 (hcl.set hj) (by simpa using hsz) (λt u hu=>?_) G' w' _ k2 k3 k5 (hSs (λe=>by rw[e]at e2;cases e2) w');rcases hL t u hu with h|⟨r,b,q1,q2,q3⟩
    ·exact .inl h
    ·refine .inr ⟨r,b,q1,?_,q3⟩;rw[jy];split
     ·rfl
     ·exact q2
   |false=>
   cases hal:bj oj with
   |false=>
    have hst:dY E ops j=true:=by
     unfold eF at hnl;unfold dY;rw[hoj]at hnl ⊢;simpa [hal]using hnl
    obtain⟨n',o,d,s,L',e1,g2,g3,g4,g5,grf,g6,g7⟩:=h'.any hcl hj hst;have e1:n=n':=by omega
    subst e1;have e1:=hp.setT (l:=l) g2 (by rw[hoj]at g2;injection g2 with g2;subst g2;exact hal) g3;obtain⟨Y,hY⟩:=tM (f:=dn l) (Y:=alX (dn l) la) hnew;rw[hY]at hr hf hx;refine g5 Y Z w0 N G w a Q _ hI hr ⟨hf.defers,hf.size,λt s' hs=>hf.slot t s' (gF hs)⟩ λv G' w' k0 k1 k2 k3=>⟨.inr (hS0 _ _ hs0 k0),?_⟩
    rw[hY]at e1
    have hf1:FR Z N ((d,s)::nS L d) (H++Y) G' w' (a.put o.dst v):=by
     refine(hf.keep k2).put (d:=o.dst) (s:=s) ?_ k3;rw[g3];simp only[gg];rw[amI (show d+1<=N by omega)]
    refine ih _ _ g7 (hcl.set hj) (by simpa using hsz) (lowS hL grf g6) G' w' _ (by rw[e1];exact k1) (by rw[e1];exact hf1.eqv λt=>by rw[ck,g6 t]) (by rw[e1];exact hX _ _ _ _ _ _ hx λs v hs _=>k2 s v hs) (hS0 _ _ hs0 k0)
   |true=>
    obtain⟨n',r,x,L',e1,e2,e3,g3,g4,⟨y,y5,y6,y7,y8,y9⟩,g7,g8⟩:=h'.alloc (T:=T) hFin hcl hj hoj hal;have e1:n=n':=by omega
    subst e1 e3;obtain⟨hset,hgone⟩:=hp.setA hcl hsz e2 hjun;refine qY (L':=L') hT hoj hal e2 g3 g4 y5 ⟨y,y6,y7,y8,y9⟩ hp.dis hjun hgone (hp.low hlow) hL hfl hr hf hx hX g7 λv G' w' k0 k1 k2 k3=>⟨.inr (hS0 _ _ hs0 k0),?_⟩
    rw[<-hset]at k1 k2 k3;refine ih _ _ g8 (hcl.set hj) (by simpa using hsz) (λt u hu=>?_) G' w' _ k1 k2 k3 (hS0 _ _ hs0 k0);rw[g7 t]at hu;split at hu
    ·injection hu with hu;exact .inr ⟨r,x,e2,by rw[jy,am2 rfl],hu.symm⟩
    ·rcases hL t u hu with h|⟨r',b,q1,q2,q3⟩
     ·exact .inl h
     ·refine .inr ⟨r',b,q1,?_,q3⟩;rw[jy];split
      ·rfl
      ·exact q2
theorem EZ{D:List Nat}:∀{rs:List Nat} {j:Nat},Em E ops D rs=some j->j∈rs/\∃o d,ops[j]?=some o/\fo E o=true/\o.dst=some d/\Region.free .any ops (mkL ops.size D) j=true/\(iV E ops j=true\/AV o=true\/(!(ce E ops))=true)
 |[],_,h=>by simp[Em]at h
 |q::rs,j,h=>by
  simp only[Em]at h;split at h<;>try (cases h;done)
  rename_i o ho;split at h
  ·rename_i hb;injection h with h;subst h;simp only[aml]at hb;obtain⟨d,hd⟩:=ana.1 hb.1.1.2;simp only[aok]at hb;exact⟨by simp,o,d,ho,hb.1.1.1,hd,hb.1.2,by rcases hb.2 with(h|h)|h;exact .inr (.inl h);exact .inl h;exact .inr (.inr h)⟩
  ·obtain⟨h1,h2⟩:=EZ h;exact⟨by simp[h1],h2⟩
end
section
variable {F:FT} {P:Program} {T:TT} {E:Env} {N:NT} {Fn:Nat->Cfg->Option (List RV)} {r:List RV}
def th(P:Program)(F:FT)(T:TT)(E:Env)(N:NT)(Fn:Nat->Cfg->Option (List RV))(r:List RV)(c:Cfg)(i:Nat)(la:List AlA)(ss:List AlS)(m n:Nat)(l:Array Bool)(L:SL):Prop:=
 (∃D q,ce E (ak (nth (aj F c.f) i))=true/\(ak (nth (aj F c.f) i)).toList.any bj=false/\la=[]/\ss=[]/\l=mkL (ak (nth (aj F c.f) i)).size D/\n+D.length=(ak (nth (aj F c.f) i)).size/\(∀j∈D,∀o,(ak (nth (aj F c.f) i))[j]?=some o->dR o.op=false)/\q<m/\go P F T E N Fn q {c with L:=L} (.drw i (!((ak (nth (aj F c.f) i)).any λo=>vB o.op)) false D)=some r)\/
 (∃D q L0 ss',alA T (ntm F c.f) (ak (nth (aj F c.f) i)).toList 0=some la/\alS T E (ak (nth (aj F c.f) i)) (mkL (ak (nth (aj F c.f) i)).size D) la c.H.length (fV (λ_=>true) la c.H.length L0) (c.H++alX (λ_=>true) la) (ak (nth (aj F c.f) i)).toList 0=some ss'/\GG (ak (nth (aj F c.f) i)) (mkL (ak (nth (aj F c.f) i)).size D) (la.map (·.i)++ss'.map (·.i))=true/\JT E (ak (nth (aj F c.f) i)) (mkL (ak (nth (aj F c.f) i)).size D) (la.map (·.i)++ss'.map (·.i))=true/\
  ((ce E (ak (nth (aj F c.f) i))=true/\ss=[]/\∀s∈ss',l.getD s.i true=false)\/(ce E (ak (nth (aj F c.f) i))=false/\ss=ss'/\(∀s∈ss',c.H.length<=s.j)/\∀k,k<(ak (nth (aj F c.f) i)).size->(mkL (ak (nth (aj F c.f) i)).size D).getD k true=true\/dY E (ak (nth (aj F c.f) i)) k=false))/\
  ((la.map (·.i)++ss'.map (·.i))++D).length<=(ak (nth (aj F c.f) i)).size/\q<m/\go P F T E N Fn q {c with L:=fV (λ_=>true) la c.H.length L0,H:=cD (λ_=>true) ss' (c.H++alX (λ_=>true) la)} (.drw i true true ((la.map (·.i)++ss'.map (·.i))++D))=some r/\
  cu l<=n/\(∀k,(mkL (ak (nth (aj F c.f) i)).size D).getD k false=true->l.getD k false=true)/\(∀k,l.getD k true=true->(mkL (ak (nth (aj F c.f) i)).size D).getD k true=true\/k∈la.map (·.i)++ss'.map (·.i))/\
  (∀t s,aI L0 t=some s->s.refsT c.H.length=true)/\∀t,aI L t=aI (fV (dn l) la c.H.length L0) t)\/
 (∃D q j o,ce E (ak (nth (aj F c.f) i))=true/\(ak (nth (aj F c.f) i)).toList.any bj=false/\la=[]/\ss=[]/\l=mkL (ak (nth (aj F c.f) i)).size D/\n+D.length=(ak (nth (aj F c.f) i)).size/\D.length+1<=(ak (nth (aj F c.f) i)).size/\Region.ready .any (ak (nth (aj F c.f) i)) (mkL (ak (nth (aj F c.f) i)).size D)=[j]/\(ak (nth (aj F c.f) i))[j]?=some o/\q<m/\
  c9 (ak (nth (aj F c.f) i)) L o (λL=>match J8 F E L o.op with
   |some (g,ss)=>go P F T E N Fn q {f:=g,K:=[],L:=ti 0 ss,H:=c.H,fl:=c.H.length,fs:={f:=c.f,K:=c.K,i:=i,k:=j,L:=G7 N c.f i L,fl:=c.fl,d:=some (j::D)}::c.fs} (.node 0)
   |none=>none) (λL=>match gg (ntm F c.f) L o.dst .undef with
   |some L'=>go P F T E N Fn q {c with L:=L'} (.tal i (j::D))
   |none=>none)=some r)
theorem TRun.mono{P:Program}{ops:Array Oper}{N:Nat}{H:List Item}{lo:Bool}{Stp Stp' Fin Fin':Nat->Array Bool->SL->Prop}(hS:∀n l L,Stp n l L->Stp' n l L)(hF:∀n l L,Fin n l L->Fin' n l L){n:Nat}{l:Array Bool}{L:SL}(h:TRun P E ops N H lo Stp Fin n l L):TRun P E ops N H lo Stp' Fin' n l L:=by
 induction h with
 |done h1 h2=>exact .done h1 (hF _ _ _ h2)
 |stop h1 h2=>exact .stop h1 (hS _ _ _ h2)
 |step h1 h0 h0' h2 h3 h4 h5 h6 hrf h7 h8 ih=>exact .step h1 h0 h0' h2 h3 h4 h5 h6 hrf h7 ih
theorem Kz{N:Nat}{ops:Array Oper}{l:Array Bool}{L L1:SL}{H H1:List Item}{C:List Nat}(h:adK T E N ops l L H=some (L1,H1,C)):∃la ss,alA T N ops.toList 0=some la/\alS T E ops l la H.length (fV (λ_=>true) la H.length L) (H++alX (λ_=>true) la) ops.toList 0=some ss/\GG ops l (la.map (·.i)++ss.map (·.i))=true/\JT E ops l (la.map (·.i)++ss.map (·.i))=true/\
  (ce E ops=true\/(ce E ops=false/\(∀s∈ss,H.length<=s.j)/\∀k,k<ops.size->l.getD k true=true\/dY E ops k=false))/\C=la.map (·.i)++ss.map (·.i)/\L1=fV (λ_=>true) la H.length L/\H1=cD (λ_=>true) ss (H++alX (λ_=>true) la):=by
 unfold adK at h;split at h<;>try (cases h;done)
 rename_i la hla;split at h<;>try (cases h;done)
 rename_i ss hss;split at h<;>try (cases h;done)
 rename_i hd;injection h with h;injection h with h1 h2;injection h2 with h2 h3;simp only[aml]at hd;refine⟨la,ss,hla,hss,hd.1.1,hd.1.2,?_,h3.symm,h1.symm,h2.symm⟩;cases hq:ce E ops with
 |true=>exact .inl rfl
 |false=>
  have hd2:=hd.2;rw[hq,Bool.false_or,aml]at hd2;refine .inr ⟨rfl,λs hs=>amn (amC.1 hd2.1 s hs),λk hk=>?_⟩;have:=amC.1 hd2.2 k (List.mem_range.2 hk);simpa using this
theorem ye{i:Nat}{c:Cfg}{la:List AlA}{ss:List AlS}{m:Nat}(n:Nat)(l:Array Bool)(L:SL)(j:Nat)(oj:Oper)(h:th P F T E N Fn r c i la ss m n l L)(hj:j∈Region.ready .any (ak (nth (aj F c.f) i)) l)(ho:fA E (ak (nth (aj F c.f) i)) l=true)
  (hoj:(ak (nth (aj F c.f) i))[j]?=some oj) (hal:bj oj=true):∃n' r' a L',n=n'+1/\la[r']?=some a/\a.i=j/\oj.dst=some a.d/\a.d<ntm F c.f/\(∃x,oj.op=.alloc a.t/\dt T a.t=some x/\x.z=true/\(∀p q,x.ty≠.pair p q)/\a.cs=x.ty.zsplit)/\(∀t,aI L' t=if t=a.d then some (.box (c.H.length+r') 0)else aI L t)/\TRun P E (ak (nth (aj F c.f) i)) (ntm F c.f) c.H (!(ce E (ak (nth (aj F c.f) i)))) (λ_ _ _=>False) (th P F T E N Fn r c i la ss m) n' (l.setIfInBounds j true) L':=by
 rcases h with⟨D,q,_,h1,_⟩|⟨D,q,L0,ss',k1,k2,k3,k4,k5,k6,h2,h3,h4,h5,h6,h6',h7⟩|⟨D,q,j',o',_,h1,_⟩
 ·exfalso;have:=List.any_eq_false.1 h1 oj (Array.mem_toList_iff.2 (Array.mem_of_getElem? hoj));exact this hal
 rotate_left
 ·exfalso;have:=List.any_eq_false.1 h1 oj (Array.mem_toList_iff.2 (Array.mem_of_getElem? hoj));exact this hal
 ·have hp:=wj k1 k2;obtain⟨r',x,g1,g2,g3,g4,y,g5⟩:=Is k1 hoj hal;have hjun:=(anm.1 hj).1;have hcu:=zJ hjun;refine⟨n-1,r',x,fV (dn (l.setIfInBounds j true)) la c.H.length L0,by omega,g1,g2,g3,g4,⟨y,g5⟩,λt=>?_,.done (Ax ho j ?_) (.inr (.inl ⟨D,q,L0,ss',k1,k2,k3,k4,?_,k6,h2,h3,by omega,λk hk=>api (h5 k hk),λk hk=>?_,h6',λt=>rfl⟩))⟩
  ·rw[CP (λk=>by rw[jy,g2]) hp.dis g1 t,h7 t]
  ·unfold eF;rw[hoj];dsimp only;rw[hal,Bool.not_true,aow]
  ·rcases k5 with⟨e1,e2,e3⟩|e
   ·refine .inl ⟨e1,e2,λs hs=>?_⟩;obtain⟨⟨o',ho',hal',_⟩,_⟩:=hp.ss1 s hs
    have hne:j≠s.i:=λe=>by
     subst e;rw[hoj]at ho';injection ho' with ho';subst ho';rw[hal]at hal';cases hal'
    rw[aoS true hne];exact e3 s hs
   ·exact .inr e
  ·have:=jy l j k;rw[show dn (l.setIfInBounds j true) k=true from hk]at this;by_cases e:k=j
   ·subst e;exact .inr (anU _ (aoU.2 ⟨x,ano g1,g2⟩))
   ·rw[amJ e]at this;exact h6 k this.symm
theorem Ht{i:Nat}{c:Cfg}{la:List AlA}{ss:List AlS}{m:Nat}(hlo:(!(ce E (ak (nth (aj F c.f) i))))=true)(n:Nat)(l:Array Bool)(L:SL)(j:Nat)(oj:Oper)(h:th P F T E N Fn r c i la ss m n l L)(hcl:Clo (ak (nth (aj F c.f) i)) l)(hj:j∈Region.ready .any (ak (nth (aj F c.f) i)) l)(_ho:fA E (ak (nth (aj F c.f) i)) l=true)
  (hoj:(ak (nth (aj F c.f) i))[j]?=some oj) (hal:eF E (ak (nth (aj F c.f) i)) j=true):∃n' s,n=n'+1/\s∈ss/\s.i=j/\qK T L s oj/\TRun P E (ak (nth (aj F c.f) i)) (ntm F c.f) c.H (!(ce E (ak (nth (aj F c.f) i)))) (λ_ _ _=>False) (th P F T E N Fn r c i la ss m) n' (l.setIfInBounds j true) L:=by
 rcases h with⟨D,q,h0,h1,_⟩|⟨D,q,L0,ss',k1,k2,k3,k4,k5,k6,h2,h3,h4,h5,h6,h6',h7⟩|⟨D,q,j',o',h0,h1,_⟩
 ·rw[h0]at hlo;cases hlo
 rotate_left
 ·rw[h0]at hlo;cases hlo
 ·rcases k5 with⟨e1,_⟩|⟨e1,e2,e3,e4⟩
  ·rw[e1]at hlo;cases hlo
  subst e2;have hp:=wj k1 k2;obtain⟨s1,s2,s3⟩:=mD k2;obtain⟨hjun,oj',hoj',hdep⟩:=anm.1 hj;rw[hoj]at hoj';injection hoj' with hoj';subst hoj';have hcu:=zJ hjun;have hlate:=hal;unfold eF at hal;rw[hoj]at hal;simp only[aml,an1]at hal;have hlt:=(amw.1 hoj).1
  have hu0:(mkL (ak (nth (aj F c.f) i)).size D).getD j true=false:=by
   cases hq:(mkL (ak (nth (aj F c.f) i)).size D).getD j true with
   |false=>rfl
   |true=>
    have:=h5 j (by rw[jX (by rw[ij];exact hlt)];exact hq);rcases amX j l.size with h'|h'
    ·rw[jX h',hjun]at this;cases this
    ·simp[anX h']at hjun
  obtain⟨s,hsm,hsi⟩:=s1 j oj (by rw[an7];exact hoj) (by rw[amx];exact hu0) hal.2 hal.1;have hsi:s.i=j:=by omega
  subst hsi;obtain⟨_,_,o,ho',hno,hok⟩:=s2 s hsm;rw[apu,an7,hoj]at ho';injection ho' with ho';subst ho';have hst:=EV hok hcl λos hos e he hb=>by rw[hoj]at hos;injection hos with hos;subst hos;exact hdep e he hb
  have hst':qK T L s oj:=by
   obtain⟨t,x,v,sv,y,q1,q2,q3,q4,q5,q6⟩:=hst
   have hop:∀{z:Operand} {sz:SV},opS (fV (dn l) la c.H.length L0) z=some sz->opS L z=some sz:=by
    intro z sz he;cases z with
    |tmp u=>simp only[opS]at he ⊢;rw[h7 u];exact he
    |_=>exact he
   exact⟨t,x,v,sv,y,q1,q2,q3,hop q4,hop q5,q6⟩
  refine⟨n-1,s,by omega,hsm,rfl,hst',.done ?_ (.inr (.inl ⟨D,q,L0,ss,k1,k2,k3,k4,.inr ⟨e1,rfl,e3,e4⟩,k6,h2,h3,by omega,λk hk=>api (h5 k hk),λk hk=>?_,h6',λt=>?_⟩))⟩
  ·refine amC.2 λk hk=>?_;have hk:=List.mem_range.1 hk;rcases e4 k hk with h|h
   ·have:=api (i:=s.i) (h5 k (by rw[jX (by rw[ij];exact hk)];exact h));rcases amX k (l.setIfInBounds s.i true).size with h'|h'
    ·rw[jX h']at this;rw[this];rfl
    ·rw[show(l.setIfInBounds s.i true).getD k true=true by simp[anX h']];rfl
   ·rw[h];simp
  ·have:=jy l s.i k;rw[show dn (l.setIfInBounds s.i true) k=true from hk]at this;by_cases e:k=s.i
   ·subst e;exact .inr (an8 _ (aoU.2 ⟨s,hsm,rfl⟩))
   ·rw[amJ e]at this;exact h6 k this.symm
  ·rw[h7 t];exact(iH (λx hx _=>(hp.same hoj hal.2).2 x hx) rfl).symm
theorem Fb{f:Nat->Bool}:∀{la:List AlA} {k:Nat} {L:SL},(∀a∈la,f a.i=false)->fV f la k L=L
 |[],_,_,_=>rfl
 |a::la,k,L,h=>by
  simp only[fV];rw[h a (by simp)];exact Fb λb hb=>h b (by simp[hb])
theorem Hh{n s:Nat}:∀{D:List Nat},s∈D->(mkL n D).getD s true=true
 |[],h=>by cases h
 |j::D,h=>by
  rw[mkL];by_cases e:j=s
  ·subst e;exact qO _ _
  ·rw[aoS true e];exact Hh ((amy.1 h).resolve_left (λh=>e h.symm))
theorem ML(n:Nat):∀D:List Nat,n<=cu (mkL n D)+D.length
 |[]=>by rw[F0];exact amm _
 |j::D=>by
  have ih:=ML n D;rw[mkL,amD];cases h:(mkL n D).getD j true with
  |false=>have:=zJ h;omega
  |true=>
   have e:(mkL n D).setIfInBounds j true=mkL n D:=by
    refine Array.ext_getElem? λk=>?_;by_cases e:j=k
    ·subst e;rcases amX j (mkL n D).size with h2|h2
     ·rw[Array.getElem?_setIfInBounds_self_of_lt h2];rw[anq,Array.getElem?_eq_getElem h2]at h;rw[Array.getElem?_eq_getElem h2];exact congrArg some h.symm
     ·rw[anX h2,anX (by simpa using h2)]
    ·rw[Array.getElem?_setIfInBounds_ne e]
   rw[e];omega
theorem E2{P:Program}{ops:Array Oper}{Q:Exit->Act->World->Prop}{S0:World->Prop}:∀(m n:Nat) (l:Array Bool) (a:Act) (w:World),m<=n->wpG P ops Q S0 m l a w->wpG P ops Q S0 n l a w
 |0,n,l,a,w,_,h=>yx h.1 h.2 n
 |m+1,0,_,_,_,hle,_=>by omega
 |m+1,n+1,l,a,w,hle,h=>⟨h.1,λi hi=>wpOp_mono (λa' w' h'=>⟨h'.1,E2 m n _ a' w' (by omega) h'.2⟩) (h.2 i hi)⟩
theorem fk{n s:Nat}:∀{D:List Nat},s∉D->s<n->(mkL n D).getD s true=false
 |[],_,h=>by simp[mkL,h]
 |j::D,hn,h=>by
  have h1:s≠j:=λe=>hn (by simp[e]);rw[mkL,aoS true (aod h1)];exact fk (λhm=>hn (by simp[hm])) h
theorem H3(hT:eM P T=true)(hE:kD P E){i:Nat}{c:Cfg}:∀(m:Nat) (D:List Nat) (L:SL),go P F T E N Fn m {c with L:=L} (.tam i D)=some r->
  cu (mkL (ak (nth (aj F c.f) i)).size D)+D.length=(ak (nth (aj F c.f) i)).size->(∀j∈D,dY E (ak (nth (aj F c.f) i)) j=true)->(∀t s,aI L t=some s->s.refsT c.H.length=true)->Clo (ak (nth (aj F c.f) i)) (mkL (ak (nth (aj F c.f) i)).size D)->∃la ss,PlanOk T (ak (nth (aj F c.f) i)) (ntm F c.f) c.H la ss/\(∀s∈ss,c.H.length<=s.j)/\TRun P E (ak (nth (aj F c.f) i)) (ntm F c.f) c.H (!(ce E (ak (nth (aj F c.f) i)))) (λ_ _ _=>False) (th P F T E N Fn r c i la ss m) ((ak (nth (aj F c.f) i)).size-D.length) (mkL (ak (nth (aj F c.f) i)).size D) L:=by
 intro m;induction m with
 |zero=>intro D L h;simp[UI]at h
 |succ m ih=>
  intro D L h hlen hD hlowL hcl
  have nostore:∀j∈D,∀o,(ak (nth (aj F c.f) i))[j]?=some o->dR o.op=false/\bj o=false:=λj hj o ho=>by
   have:=hD j hj;unfold dY at this;rw[ho]at this;dsimp only at this;refine⟨qI this,?_⟩;cases hq:bj o with
   |false=>rfl
   |true=>rw[iS hq]at this;cases this
  have next:∀{j:Nat} {o:Oper} {d:Nat} {L1 L2:SL} {s:SV},j∈Region.ready .any (ak (nth (aj F c.f) i)) (mkL (ak (nth (aj F c.f) i)).size D)->(ak (nth (aj F c.f) i))[j]?=some o->o.dst=some d->Region.free .any (ak (nth (aj F c.f) i)) (mkL (ak (nth (aj F c.f) i)).size D) j=true->(iV E (ak (nth (aj F c.f) i)) j=true\/StepP P c.H (ak (nth (aj F c.f) i)) (gI L (o.looksAt (ak (nth (aj F c.f) i)))) o s\/(!(ce E (ak (nth (aj F c.f) i))))=true)->fo E o=true->D.length+1<=(ak (nth (aj F c.f) i)).size->
    (∀t,aI L1 t=aI L t)->StepF P c.H (ak (nth (aj F c.f) i)) (gI L (o.looksAt (ak (nth (aj F c.f) i)))) o j s->s.refsT c.H.length=true->gg (ntm F c.f) L1 o.dst s=some L2->go P F T E N Fn m {c with L:=L2} (.tam i (j::D))=some r->∃la ss,PlanOk T (ak (nth (aj F c.f) i)) (ntm F c.f) c.H la ss/\(∀s∈ss,c.H.length<=s.j)/\TRun P E (ak (nth (aj F c.f) i)) (ntm F c.f) c.H (!(ce E (ak (nth (aj F c.f) i)))) (λ_ _ _=>False) (th P F T E N Fn r c i la ss (m+1)) ((ak (nth (aj F c.f) i)).size-D.length) (mkL (ak (nth (aj F c.f) i)).size D) L:=by
   intro j o d L1 L2 s h1 h2 h3 h4 h4' h4'' h5 h6 h7 hrf h8 h9;have htj:dY E (ak (nth (aj F c.f) i)) j=true:=by unfold dY;rw[h2];exact h4''
   have hcu:=zJ (anm.1 h1).1;rw[h3]at h8;simp only[gg]at h8;split at h8<;>try (cases h8;done)
   rename_i hd;have hd:=amn hd;injection h8 with h8;have hlk:∀t,aI L2 t=if t=d then some s else aI L t:=λt=>by rw[<-h8,ck,h6 t]
   obtain⟨la,ss,hp,hnew,h10⟩:=ih (j::D) L2 h9 (by
    rw[amD];show cu ((mkL _ D).setIfInBounds j true)+_=_;omega) (λk hk=>by
    rcases amy.1 hk with e|hk
    ·subst e;exact htj
    ·exact hD k hk) (λt u hu=>by
    rw[hlk t]at hu;split at hu
    ·injection hu with hu;subst hu;exact hrf
    ·exact hlowL t u hu) (hcl.set h1)
   have h11:=h10.mono (Fin':=th P F T E N Fn r c i la ss (m+1)) (λ_ _ _ h=>h) (λn l L hf=>by
    rcases hf with⟨D',q,e1,e2,e3,e4,e5,e6,e7,e8,e9⟩|⟨D',q,L0,ss',e1,e2,e3,e4,e5,e6,e7,e8⟩|⟨D',q,j',o',e1,e2,e3,e4,e5,e6,e7,e8,e9,e10,e11⟩
    ·exact .inl ⟨D',q,e1,e2,e3,e4,e5,e6,e7,by omega,e9⟩
    ·exact .inr (.inl ⟨D',q,L0,ss',e1,e2,e3,e4,e5,e6,by omega,e8⟩)
    ·exact .inr (.inr ⟨D',q,j',o',e1,e2,e3,e4,e5,e6,e7,e8,e9,by omega,e11⟩))
   refine⟨la,ss,hp,hnew,?_⟩;rw[show(ak (nth (aj F c.f) i)).size-D.length=((ak (nth (aj F c.f) i)).size-(j::D).length)+1 by simp;omega];exact .step (L':=L2) h1 h4' htj h2 h3 (by omega) h4 h7 hrf hlk h11
  rw[VY]at h;simp only[stC]at h;split at h
  ·rename_i hall
   have drw:((ak (nth (aj F c.f) i)).toList.any bj||!(ce E (ak (nth (aj F c.f) i))))=false->go P F T E N Fn m {c with L:=L} (.drw i (!((ak (nth (aj F c.f) i)).any λo=>vB o.op)) false D)=some r->∃la ss,PlanOk T (ak (nth (aj F c.f) i)) (ntm F c.f) c.H la ss/\(∀s∈ss,c.H.length<=s.j)/\TRun P E (ak (nth (aj F c.f) i)) (ntm F c.f) c.H (!(ce E (ak (nth (aj F c.f) i)))) (λ_ _ _=>False) (th P F T E N Fn r c i la ss (m+1)) ((ak (nth (aj F c.f) i)).size-D.length) (mkL (ak (nth (aj F c.f) i)).size D) L:=λhna h=>by
    simp only[ao6,Bool.not_eq_false']at hna;exact⟨[],[],⟨List.Pairwise.nil,λa ha=>(by cases ha),λs hs=>(by cases hs),List.Pairwise.nil⟩,λs hs=>(by cases hs),.done hall (.inl ⟨D,m,hna.2,hna.1,rfl,rfl,rfl,by omega,λj hj o ho=>(nostore j hj o ho).1,by omega,h⟩)⟩
   split at h
   ·rename_i j hcf;split at h<;>try (cases h;done)
    rename_i o ho;unfold aaA at hcf;split at hcf<;>try (cases hcf;done)
    rename_i j' hst hrd;split at hcf<;>try (cases hcf;done)
    rename_i o' ho';split at hcf<;>try (cases hcf;done)
    rename_i x hq hin hble;injection hcf with hcf;subst hcf;simp only[aml,an1]at hst;exact⟨[],[],⟨List.Pairwise.nil,λa ha=>(by cases ha),λs hs=>(by cases hs),List.Pairwise.nil⟩,λs hs=>(by cases hs),.done hall (.inr (.inr ⟨D,m,j',o,hst.1,hst.2,rfl,rfl,rfl,by have:=amn hble;omega,amn hble,hrd,ho,by omega,h⟩))⟩
   split at h
   ·split at h
    ·rename_i L1 H1 C hals;split at h<;>try (cases h;done)
     rename_i hble;obtain⟨la,ss,k1,k2,k3,k4,k5,k6,k7,k8⟩:=Kz hals;subst k6 k7 k8;have hp:=wj k1 k2
     have fin:∀ss0,((ce E (ak (nth (aj F c.f) i))=true/\ss0=[]/\∀s∈ss,(mkL (ak (nth (aj F c.f) i)).size D).getD s.i true=false)\/(ce E (ak (nth (aj F c.f) i))=false/\ss0=ss/\(∀s∈ss,c.H.length<=s.j)/\∀k,k<(ak (nth (aj F c.f) i)).size->(mkL (ak (nth (aj F c.f) i)).size D).getD k true=true\/dY E (ak (nth (aj F c.f) i)) k=false))->th P F T E N Fn r c i la ss0 (m+1) ((ak (nth (aj F c.f) i)).size-D.length) (mkL (ak (nth (aj F c.f) i)).size D) L:=λss0 hs0=>.inr (.inl ⟨D,m,L,ss,k1,k2,k3,k4,hs0,amn hble,by omega,h,by omega,λ_ h=>h,λ_ h=>.inl h,hlowL,λt=>by
      rw[Fb λa ha=>?_];obtain⟨⟨o,ho,hal⟩,_⟩:=hp.la2 a ha;exact fk (λhm=>by rw[(nostore _ hm o ho).2]at hal;cases hal) (amw.1 ho).1⟩)
     rcases k5 with k5|⟨k5,k6,k7⟩
     ·refine⟨la,[],⟨hp.dis,hp.la2,λs hs=>(by cases hs),List.Pairwise.nil⟩,λs hs=>(by cases hs),.done hall (fin [] (.inl ⟨k5,rfl,λs hs=>?_⟩))⟩;obtain⟨_,hu,_⟩:=(mD k2).2.1 s hs;exact hu
     ·exact⟨la,ss,hp,k6,.done hall (fin ss (.inr ⟨k5,rfl,k6,k7⟩))⟩
    ·split at h<;>try (cases h;done)
     exact drw (by assumption) h
   ·split at h<;>try (cases h;done)
    exact drw (by assumption) h
  ·rename_i hall;split at h<;>try (cases h;done)
   rename_i j hb hj;have hb:=amn hb;obtain⟨g1,o',d,g2,gt,g3,g4,g5⟩:=EZ hj;split at h<;>try (cases h;done)
   rename_i o ho;rw[ho]at g2;injection g2 with g2;subst g2;rcases pG h with⟨L1,k1,k2,k3⟩|⟨L1,k1,k2,k3⟩
   ·rw[dN (M:=L) λt _=>k1 t]at k2;obtain⟨s,q1,q2,q3⟩:=Cw hT hE ho k3 k2;split at q1<;>try (cases q1;done)
    rename_i L2 hp hrf;exact next g1 ho g3 g4 (g5.imp id (Or.imp q3 id)) gt hb k1 q2 hrf hp q1
   ·split at k2<;>try (cases k2;done)
    rename_i L2 hp;exact next g1 ho g3 g4 (.inr (.inl (F1 k3))) gt hb k1 (rJ ho k3) rfl hp k2
theorem Et{ops:Array Oper}{D:List Nat}:∀{rs:List Nat} {j:Nat},EU E ops D rs=some j->j∈rs/\∃o d,ops[j]?=some o/\fo E o=true/\o.dst=some d/\Region.free .any ops (mkL ops.size D) j=true
 |[],_,h=>by simp[EU]at h
 |q::rs,j,h=>by
  simp only[EU]at h;split at h<;>try (cases h;done)
  rename_i o ho;split at h
  ·rename_i hb;injection h with h;subst h;simp only[aml]at hb;obtain⟨d,hd⟩:=ana.1 hb.1.2;exact⟨by simp,o,d,ho,hb.1.1,hd,hb.2⟩
  ·obtain⟨h1,h2⟩:=Et h;exact⟨by simp[h1],h2⟩
theorem Tm(hT:eM P T=true)(hE:kD P E){i:Nat}{c:Cfg}:∀(m:Nat) (D:List Nat) (L:SL),go P F T E N Fn m {c with L:=L} (.tal i D)=some r->D.length<=(ak (nth (aj F c.f) i)).size->
  TRun P E (ak (nth (aj F c.f) i)) (ntm F c.f) c.H true (λ_ _ L=>∃q,q<m/\go P F T E N Fn q {c with L:=L} .nrm=some r) (λ_ _ _=>False) ((ak (nth (aj F c.f) i)).size-D.length) (mkL (ak (nth (aj F c.f) i)).size D) L:=by
 intro m;induction m with
 |zero=>intro D L h;simp[UI]at h
 |succ m ih=>
  intro D L h hlen
  have next:∀{j:Nat} {o:Oper} {d:Nat} {L1 L2:SL} {s:SV},j∈Region.ready .any (ak (nth (aj F c.f) i)) (mkL (ak (nth (aj F c.f) i)).size D)->(ak (nth (aj F c.f) i))[j]?=some o->o.dst=some d->Region.free .any (ak (nth (aj F c.f) i)) (mkL (ak (nth (aj F c.f) i)).size D) j=true->fo E o=true->D.length+1<=(ak (nth (aj F c.f) i)).size->
    (∀t,aI L1 t=aI L t)->StepF P c.H (ak (nth (aj F c.f) i)) (gI L (o.looksAt (ak (nth (aj F c.f) i)))) o j s->s.refsT c.H.length=true->gg (ntm F c.f) L1 o.dst s=some L2->go P F T E N Fn m {c with L:=L2} (.tal i (j::D))=some r->TRun P E (ak (nth (aj F c.f) i)) (ntm F c.f) c.H true (λ_ _ L=>∃q,q<m+1/\go P F T E N Fn q {c with L:=L} .nrm=some r) (λ_ _ _=>False) ((ak (nth (aj F c.f) i)).size-D.length) (mkL (ak (nth (aj F c.f) i)).size D) L:=by
   intro j o d L1 L2 s h1 h2 h3 h4 h4'' h5 h6 h7 hrf h8 h9;have htj:dY E (ak (nth (aj F c.f) i)) j=true:=by unfold dY;rw[h2];exact h4''
   rw[h3]at h8;simp only[gg]at h8;split at h8<;>try (cases h8;done)
   rename_i hd;have hd:=amn hd;injection h8 with h8;have hlk:∀t,aI L2 t=if t=d then some s else aI L t:=λt=>by rw[<-h8,ck,h6 t]
   have h11:=(ih (j::D) L2 h9 (by simpa using h5)).mono (Stp':=λ_ _ L=>∃q,q<m+1/\go P F T E N Fn q {c with L:=L} .nrm=some r) (Fin':=λ_ _ _=>False) (λ_ _ _ ⟨q,h1,h2⟩=>⟨q,by omega,h2⟩) (λ_ _ _ h=>h);rw[show(ak (nth (aj F c.f) i)).size-D.length=((ak (nth (aj F c.f) i)).size-(j::D).length)+1 by simp;omega];exact .step (L':=L2) h1 (.inr (.inr rfl)) htj h2 h3 (by omega) h4 h7 hrf hlk h11
  rw[VY]at h;simp only[stC]at h;split at h
  ·rename_i hrd;exact .stop hrd ⟨m,by omega,h⟩
  ·rename_i rs hrd;split at h<;>try (cases h;done)
   rename_i j hb hj;have hb:=amn hb;obtain⟨g1,o',d,g2,gt,g3,g4⟩:=Et hj;split at h<;>try (cases h;done)
   rename_i o ho;rw[ho]at g2;injection g2 with g2;subst g2;rcases pG h with⟨L1,k1,k2,k3⟩|⟨L1,k1,k2,k3⟩
   ·rw[dN (M:=L) λt _=>k1 t]at k2;obtain⟨s,q1,q2,q3⟩:=Cw hT hE ho k3 k2;split at q1<;>try (cases q1;done)
    rename_i L2 hp hrf;exact next g1 ho g3 g4 gt hb k1 q2 hrf hp q1
   ·split at k2<;>try (cases k2;done)
    rename_i L2 hp;exact next g1 ho g3 g4 gt hb k1 (rJ ho k3) rfl hp k2
theorem Mq{P:Program}{ops:Array Oper}{Q:Exit->Act->World->Prop}{S0 S1:World->Prop}:∀(n:Nat) (l:Array Bool) (a:Act) (w:World),storeDone ops l->wpG P ops Q S1 n l a w->wpG P ops Q S0 n l a w
 |0,_,_,_,_,h=>h
 |n+1,_,_,_,hs,h=>⟨h.1,λi hi=>wpOp_mono (λ_ _ h'=>⟨.inl (hs.set i),Mq n _ _ _ (hs.set i) h'.2⟩) (h.2 i hi)⟩
end
end
section
theorem Vy(it:Item):ddI (ddJ it)=ddI it:=by
 unfold ddJ;split<;>rfl
theorem Dt(it:Item):(ddI it).live=it.live:=by
 unfold ddI;split<;>rfl
theorem EN{A B:List Item}(h:A.map ddJ=B):A.map ddI=B.map ddI:=by grind [List.map_congr_left,Vy]
theorem zi(q:Nat)(b:Bool)(H:List Item):(l6 q b H).length=H.length:=by grind [l6]
theorem Qo{q:Nat}{b:Bool}{H:List Item}{k:Nat}:(l6 q b H)[k]?=if k=q then(match H[k]? with
  |some (.box t [.d .bool c])=>some (.box t [.d .bool (c&&b)])
  |x=>x)else H[k]?:=by grind [l6]
theorem LU(q q':Nat)(b b':Bool)(H:List Item):l6 q b (l6 q' b' H)=l6 q' b' (l6 q b H):=by
 refine anZ λk=>?_;grind [Qo]
theorem EC(q:Nat)(b:Bool)(H:List Item):(l6 q b H).map ddJ=H.map ddJ:=by
 unfold l6;split
 ·rename_i t c hq;refine anZ λk=>?_;rw[ane,ane,ank];by_cases e:q=k
  ·subst e;rw[am2 rfl,am2 (amr.1 hq).1,hq];rfl
  grind
 ·rfl
def Dd(H1 H2:List Item):Prop:=H1.length=H2.length/\∀(j:Nat) it1 it2,H1[j]?=some it1->H2[j]?=some it2->it1=it2\/it1=ddI it2
theorem aa1(Hb X:List Item):Dd (Hb.map ddI++X) (Hb++X):=by
 refine⟨by simp,λj it1 it2 h1 h2=>?_⟩;grind
section
variable {Z:Nat->Prop} {w0:World} {H1 H2:List Item} {G G':List Value} {w w':World}
theorem Dd.at2(h:Dd H1 H2){j:Nat}{it1:Item}(h1:H1[j]?=some it1):∃it2,H2[j]?=some it2/\(it1=it2\/it1=ddI it2)/\it2.live=it1.live:=by
 have hlt:j<H2.length:=by rw[<-h.1];exact(amr.1 h1).1
 refine⟨H2[j],amg hlt,h.2 j _ _ h1 (amg hlt),?_⟩;rcases h.2 j _ _ h1 (amg hlt)with e|e
 ·rw[e]
 ·rw[e,Dt]
theorem Dd.at1(h:Dd H1 H2){j:Nat}{it2:Item}(h2:H2[j]?=some it2):∃it1,H1[j]?=some it1/\(it1=it2\/it1=ddI it2)/\it1.live=it2.live:=by
 have hlt:j<H1.length:=by rw[h.1];exact(amr.1 h2).1
 refine⟨H1[j],amg hlt,h.2 j _ _ (amg hlt) h2,?_⟩;rcases h.2 j _ _ (amg hlt) h2 with e|e
 ·rw[e]
 ·rw[e,Dt]
theorem AI(h:Dd H1 H2):Av Z H1 G=Av Z H2 G:=by
 funext b;refine propext ⟨λ⟨h1,h2⟩=>⟨h1,λj it g q1 q2 q3=>?_⟩,λ⟨h1,h2⟩=>⟨h1,λj it g q1 q2 q3=>?_⟩⟩
 ·obtain⟨it1,e1,_,e3⟩:=h.at1 q1;grind
 ·obtain⟨it2,e1,_,e3⟩:=h.at2 q1;grind
theorem Af(it:Item):ddI it=it\/∃t b,it=.box t [.d .bool b]/\ddI it=.box t [.dead]:=by
 unfold ddI;grind
theorem aiM(h:Dd H1 H2)(hr:SR Z w0 H2 G w):SR Z w0 H1 G w:=by
 refine⟨hr.len.trans h.1.symm,hr.below,λj it g h1 hg=>?_,λi j it jt g k b hij h1 h2 l1 l2=>?_,hr.zf⟩
 ·obtain⟨it2,e1,e2,_⟩:=h.at2 h1;rw[AI h];have:=hr.items j it2 g e1 hg;rcases e2 with e2|e2
  ·grind
  ·rcases Af it2 with e3|⟨t,b,e3,e4⟩
   ·grind
   ·rw[e2,e4];rw[e3]at this;obtain⟨b',vs,k1,k2,k3,k4⟩:=this;refine⟨b',vs,k1,k2,k3,?_⟩;match vs,k4 with
    |[v],⟨_,q⟩=>exact⟨trivial,q⟩
 ·obtain⟨i2,e1,_,e3⟩:=h.at2 h1;obtain⟨j2,f1,_,f3⟩:=h.at2 h2;exact hr.disj i j i2 j2 g k b hij e1 f1 (e3.trans l1) (f3.trans l2)
theorem aiQ(h:Dd H1 H2)(hr:SR Z w0 H2 G w)(hold:Old w w')(hr':SR Z w0 H1 G' w')(htr:∀s v,Rel1 G (Av Z H2 G) w s v->Rel1 G' (Av Z H1 G') w' s v):SR Z w0 H2 G' w':=by
 refine⟨hr'.len.trans h.1,hr'.below,λj it g h2 hg=>?_,λi j it jt g k b hij h1 h2 l1 l2=>?_,hr'.zf⟩
 ·obtain⟨it1,e1,e2,_⟩:=h.at1 h2;rw[<-AI h];have:=hr'.items j it1 g e1 hg;rcases e2 with e2|e2
  ·rw[<-e2];exact this
  ·rcases Af it with e3|⟨t,b,e3,e4⟩
   ·grind
   ·subst e3;have hlt:j<G.length:=by rw[hr.len];exact(amr.1 h2).1
    obtain⟨b',vs,k1,k2,k3,k4⟩:=hr.items j _ _ h2 (amg hlt);obtain⟨b2,q1,q2⟩:=htr (.box j 0) G[j] ⟨b',by rw[amg hlt,k1],k1⟩;rw[hg]at q1;injection q1 with q1;rw[k1]at q2;injection q2 with q2;injection q2 with q2;injection q2 with q2;subst q2;refine⟨b',vs,q1,k2,?_,?_⟩
    ·show w'.heap[b']?=_;rw[hold.2 b' k3.lt];exact k3
    ·match vs,k4 with
     |[v],⟨q,q'⟩=>exact⟨q,q'⟩
 ·obtain⟨i2,e1,_,e3⟩:=h.at1 h1;obtain⟨j2,f1,_,f3⟩:=h.at1 h2;exact hr'.disj i j i2 j2 g k b hij e1 f1 (e3.trans l1) (f3.trans l2)
theorem ae4{n:Nat}{L:SL}{a:Act}(h:Dd H1 H2)(hf:FR Z n L H2 G w a):FR Z n L H1 G w a:=⟨hf.defers,hf.size,λt s hs=>by rw[AI h];exact hf.slot t s hs⟩
end
section
variable {P:Program} {T:TT} {E:Env} {ops:Array Oper}
theorem StepF.up{Hb:List Item}{Lr:SL}{o:Oper}{j:Nat}{s:SV}(h:StepF P (Hb.map ddI) ops Lr o j s):StepF P Hb ops Lr o j s:=by
 intro X Z w0 n G w a Q K hI hr hf hK;have hD:=aa1 Hb X;refine h X Z w0 n G w a Q K hI (aiM hD hr) (ae4 hD hf) λv G' w' ho hr' htr hrel=>?_;have htr':∀s v,Rel1 G (Av Z (Hb++X) G) w s v->Rel1 G' (Av Z (Hb.map ddI++X) G') w' s v:=λs v hs=>htr s v (by rw[AI hD];exact hs);refine hK v G' w' ho (aiQ hD hr ho hr' htr') (λs' v' hs=>?_) ?_
 ·grind [AI]
 grind [AI]
def ZX(P:Program)(H:List Item)(ops:Array Oper)(Lr:SL)(o:Oper)(j q:Nat)(c:Bool)(s:SV):Prop:=
 ∀(Hb X:List Item) (Z:Nat->Prop) (w0:World) (n:Nat) (G:List Value) (w:World) (a:Act) (Q:Exit->Act->World->Prop) (K:Act->World->Prop),Hb.map ddJ=H->inv w0->SR Z w0 (Hb++X) G w->FR Z n Lr (Hb++X) G w a->
  (∀v w',SR Z w0 (l6 q c Hb++X) G w'->(∀s' v',Rel1 G (Av Z (Hb++X) G) w s' v'->Rel1 G (Av Z (l6 q c Hb++X) G) w' s' v')->Rel G (Av Z (l6 q c Hb++X) G) w' s v->K (a.put o.dst v) w')->wpOp P ops Q j K a w
theorem Np{it:Item}{t:Nat}(h:ddJ it=.box t [.d .bool false]):∃b,it=.box t [.d .bool b]:=by
 unfold ddJ at h;grind
theorem N5{q:Nat}{c:Bool}{Hb X:List Item}{t:Nat}{b:Bool}(h:Hb[q]?=some (.box t [.d .bool b])):l6 q c Hb++X=(Hb++X).set q (.box t [.d .bool (b&&c)]):=by grind [l6]
theorem Ub{Lr:SL}{Hc:List Item}{o:Oper}{j q:Nat}{c:Bool}{s:SV}(hE:kD P E)(hops:ops[j]?=some o)(hg:c9 ops Lr o (λ_=>some true) (λ_=>some false)=some true)(h:bxC E Lr Hc o=some (q,s,c)):ZX P (Hc.map ddJ) ops Lr o j q c s:=by
 intro Hb X Z w0 n G w a Q K hHb hI hr hf hK
 have want:Region.wanted o (yielded ops a.tmps)=true:=by
  rcases fv hf hg with⟨_,_,_,h3⟩|⟨_,h1,_,_⟩
  ·exact h3
  ·cases h1
 unfold bxC at h;split at h<;>try (cases h;done)
 rename_i f x y z tys ho;split at h<;>try (cases h;done)
 rename_i t ht;split at h<;>try (cases h;done)
 rename_i q' i c' hx hy hz;split at h<;>try (cases h;done)
 rename_i t' b0 hq;split at h<;>try (cases h;done)
 rename_i hbeq;have ett:=amk hbeq;subst ett;simp only[amp,amL]at h;obtain⟨rfl,rfl,rfl⟩:=h
 obtain⟨b,hb⟩:∃b,Hb[q']?=some (.box t [.d .bool b]):=by
  have e1:(Hb.map ddJ)[q']?=some (.box t [.d .bool false]):=by
   rw[hHb,ane,hq];rfl
  rw[ane]at e1;cases hk:Hb[q']? with
  |none=>rw[hk]at e1;cases e1
  |some it=>
   rw[hk]at e1;injection e1 with e1;obtain⟨b,e2⟩:=Np e1;exact⟨b,by rw[e2]⟩
 have hlt:=(amr.1 hb).1;have hbX:(Hb++X)[q']?=some (.box t [.d .bool b]):=by rw[amE hlt];exact hb
 obtain⟨sp,m,hsp,hm,hbx⟩:∃sp m,lL E f=some sp/\sp.mut_=some m/\m.bx=some t:=by
  unfold aeP at ht;split at ht<;>try (cases ht;done)
  rename_i sp hsp;split at ht<;>try (cases ht;done)
  rename_i m hm;exact⟨sp,m,hsp,hm,ht⟩
 obtain⟨hcl,_,hmc,_⟩:=hE f sp hsp;have hmc:=hmc m hm;unfold KM at hmc;rw[hbx]at hmc;dsimp only at hmc;obtain⟨blk,g1,g2⟩:=aE hf hx;obtain⟨cs,g3,g4⟩:=aE hf hy;obtain⟨cs',g5,g6⟩:=aE hf hz;obtain⟨l1,l2,e0,e1,e2⟩:=g3;have e1:l1=[Value.int .i64 i.1]:=e1;have e2:l2=[Value.int .i64 i.2]:=e2;have e5:cs'=[Value.bool c']:=g5;subst e1 e2 e5;subst e0;have g4:a.eval y=.agg #[.int .i64 i.1,.int .i64 i.2]:=g4;have g6:a.eval z=.bool c':=g6;obtain⟨b',vs,k1,k2,k3,k4⟩:=hr.items q' _ _ hbX g1;injection k1 with k1;injection k1 with k1;injection k1 with k1;subst k1
 have evs:vs=[Value.bool b]:=by
  match vs,k4 with
  |[v],⟨⟨cs,q1,q2⟩,_⟩=>
   have q1:cs=[Value.bool b]:=q1;subst q1;rw[q2];rfl
 subst evs;unfold wpOp;simp only[hops];rw[am2 want];refine .inl ?_;unfold Oper.wp;rw[kM hcl a.eval o (.func f) ⟨[x,y,z]⟩ tys #[] ho rfl w]
 have ea:Array.map a.eval ⟨[x,y,z]⟩++ #[]= #[.pointer (some ⟨blk,0,none⟩),.agg #[.int .i64 i.1,.int .i64 i.2],.bool c']:=by
  simp[g2,g4,g6]
 rw[ea];refine(hmc w blk b c' i.1 i.2 (kn hI hr.below) k3).mono ?_;rintro e w' ⟨rfl,r1,r2⟩
 have hblk:∀b',b'<w.heap.size->(∀g',G[q']?=some g'->a9 g'≠some b')->w'.heap[b']?=w.heap[b']?:=λb' hb' hn=>r2.block b' hb' λe2=>hn _ g1 e2.symm;have hB:Below w0.heap.size w0 w':=hr.below.grown r2 hr.below.size λp hp=>by injection hp with hp;subst hp;exact k2
 have hst:=oU (it':=.box t [.d .bool (b&&c')]) hr hbX rfl hB r2.size hblk;rw[N5 hb]at hK;refine hK _ w' (CD hr hbX rfl hB r2.size hblk λg' hg'=>?_) (λs' v' hs=>cV hr hst hs) ?_
 ·rw[g1]at hg';injection hg' with hg';subst hg';exact⟨blk,[.bool (b&&c')],rfl,k2,r1,⟨⟨[Value.bool (b&&c')],rfl,rfl⟩,trivial⟩⟩
 ·exact⟨[.int .i64 i.1,.int .i64 i.2],⟨[.int .i64 i.1],[.int .i64 i.2],rfl,rfl,rfl⟩,rfl⟩
end
end
end Go.Proofs.YtmnlppieefomnaaGreatDoor
end
