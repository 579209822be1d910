/- Allocations and stores at a region's end: one order stands for all. The world. -/
import Derived.Test.YtlahabkjhgkkjaaGreatW4
noncomputable section
namespace Go.Proofs.YtlahabkjhgkkjaaGreat
open Go.RowKit Go.IntKind
theorem aqN:type_of% @Classical.byContradiction:=@Classical.byContradiction
theorem ar3:type_of% @Region.free_spec:=@Region.free_spec
theorem asn:type_of% @List.mem_append_right:=@List.mem_append_right
theorem asq:type_of% @Array.getElem?_eq_getElem:=@Array.getElem?_eq_getElem
theorem asu:type_of% @List.mem_append_left:=@List.mem_append_left
theorem asS:type_of% @Oper.apart_spec:=@Oper.apart_spec
theorem ata:type_of% @Nat.sub_zero:=@Nat.sub_zero
theorem atb:type_of% @List.mem_map:=@List.mem_map
theorem atr:type_of% @List.mem_range:=@List.mem_range
section
def Old(w w':World):Prop:=w.heap.size≤w'.heap.size∧∀b,b<w.heap.size→w'.heap[b]?=w.heap[b]?
theorem Old.refl(w:World):Old w w:=⟨aqE _,fun _ _=>rfl⟩
theorem B8{G G':List Value}{A A':Nat→Prop}{w w':World}{h0:Nat}(hk:Keeps A A' w w'){s:SV}{v:Value}(h:Rel1 G A w s v)(hs:s.refs h0=true)(hG:∀j g,j<h0→G[j]?=some g→G'[j]?=some g):Rel1 G' A' w' s v:=by
 have lt:∀{j:Nat},Nat.ble (j+1) h0=true→j<h0:=fun h=>aqD h
 cases s with
 |d t x=>obtain⟨cs,h1,h2⟩:=h;exact⟨cs,Ty.rd_keep hk h1,h2⟩
 |nil=>exact h
 |box j off=>obtain⟨b,h1,h2⟩:=h;exact⟨b,hG j _ (lt hs) h1,h2⟩
 |elt e x off=>
  obtain⟨b,o,cs,h1,h2,h3,h4,h5⟩:=h
  exact⟨b,o,cs,h1,hk.sub b h3 h2,art h3 hk.size,Ty.rd_keep hk h4,hk.cells h3 h2 h5⟩
 |own j=>exact hG j v (lt hs) h
 |oelt j sz i off=>obtain⟨b,n,c,h1,h2⟩:=h;exact⟨b,n,c,hG j _ (lt hs) h1,h2⟩
 |clo f caps=>
  obtain⟨bs,h1,h2⟩:=h
  refine⟨bs,?_,h2⟩
  simp only[SV.refs]at hs
  clear h2
  induction caps generalizing bs with
  |nil=>cases bs<;>exact h1
  |cons c caps ih=>
   match bs,h1 with
   |b::bs,⟨q1,q2⟩=>
    simp only[asY,aqB]at hs
    exact⟨hG c _ (lt hs.1) q1,ih hs.2 bs q2⟩
 |tup l=>exact h.elim
 |undef=>exact h
 |dead=>trivial
 |cut e xs=>obtain⟨p,h1,h2⟩:=h;exact⟨p,Ty.rd_keep hk h1,h2⟩
 |osl j sz lo n=>obtain⟨g,q,c,h1,h2⟩:=h;exact⟨g,q,c,hG j _ (lt hs) h1,h2⟩
theorem Jw{G G':List Value}{A A':Nat→Prop}{w w':World}{h0:Nat}(hk:∀s v,s.refs h0=true→Rel1 G A w s v→Rel1 G' A' w' s v){s:SV}{v:Value}(h:Rel G A w s v)(hs:s.refsT h0=true):Rel G' A' w' s v:=by
 cases s with
 |tup l=>
  obtain⟨vs,h1,h2⟩:=h
  refine⟨vs,h1,?_⟩
  clear h1
  induction l generalizing vs with
  |nil=>cases vs<;>exact h2
  |cons s l ih=>
   simp only[SV.refsT,asY,aqB]at hs
   match vs,h2 with
   |v::vs,⟨g1,g2⟩=>exact⟨hk s v hs.1 g1,ih hs.2 vs g2⟩
 |_=>rw[oh (fun l e=>by cases e)]at hs;exact dK (hk _ _ hs (kn h (fun l e=>by cases e)))
section
variable {Z:Nat→Prop} {w0:World} {H:List Item} {G:List Value} {w:World}
theorem pu(hr:SR Z w0 H G w):kG H.length H:=by
 intro k t cs hk x hx
 have hlt:k<G.length:=by rw[hr.len];exact(aqG.1 hk).1
 obtain⟨b,vs,_,_,_,h4⟩:=hr.items k _ _ hk (aqt hlt)
 obtain⟨i,hi,rfl⟩:=asB hx
 obtain⟨v,_,hv⟩:=fX h4 i _ (aqt hi)
 exact pH hr hv
theorem YE{it:Item}{g:Value}{h0 k:Nat}(hr:SR Z w0 (H++[it]) (G++[g]) w)(hl:G.length=H.length)(hk:H[k]?=some .gone)(h0k:h0≤k)(hlow:kG h0 (H++[it])):
  SR Z w0 (H.set k it) (G.set k g) w∧(∀b,Av Z (H++[it]) (G++[g]) b↔Av Z (H.set k it) (G.set k g) b):=by
 have hkl:=(aqG.1 hk).1
 have a1:∀{j:Nat} {x:Item},j≠k→(H.set k it)[j]?=some x→j<H.length∧(H++[it])[j]?=some x:=fun{j x} hj h=>by
  rw[arJ (arU hj)]at h
  have:=(aqG.1 h).1
  exact⟨this,by rw[aqJ this];exact h⟩
 have a2:∀{j:Nat} {x:Value},j≠k→(G.set k g)[j]?=some x→(G++[g])[j]?=some x:=fun{j x} hj h=>by
  rw[arJ (arU hj)]at h
  rw[aqJ (aqG.1 h).1];exact h
 have b1:(H.set k it)[k]?=some it:=ar5 hkl
 have b2:(G.set k g)[k]?=some g:=ar5 (by omega)
 have c1:(H++[it])[H.length]?=some it:=by rw[aqK (aqE _),arY];rfl
 have c2:(G++[g])[H.length]?=some g:=by rw[aqK (by omega),hl,arY];rfl
 have d1:∀{j:Nat} {x:Item},(H++[it])[j]?=some x→(j<H.length∧H[j]?=some x)∨(j=H.length∧x=it):=fun{j x} h=>by
  rcases aqT j H.length with hlt|hge
  ·rw[aqJ hlt]at h;exact .inl ⟨hlt,h⟩
  ·rw[aqK hge]at h
   have hj:j-H.length=0:=by
    rcases aq3 (j-H.length)with h0|h0
    ·exact h0
    ·rw[arx (by simp;omega)]at h;cases h
   rw[hj]at h
   simp only[ard,aqF]at h
   exact .inr ⟨by omega,h.symm⟩
 have hav:∀b,Av Z (H++[it]) (G++[g]) b↔Av Z (H.set k it) (G.set k g) b:=by
  refine fun b=>⟨fun h=>⟨h.1,fun j x y hx hlv hy=>?_⟩,fun h=>⟨h.1,fun j x y hx hlv hy=>?_⟩⟩
  ·by_cases hj:j=k
   ·subst hj
    rw[b1]at hx;rw[b2]at hy
    injection hx with hx;injection hy with hy
    subst hx hy
    exact h.2 _ _ _ c1 hlv c2
   ·exact h.2 j x y (a1 hj hx).2 hlv (a2 hj hy)
  ·rcases d1 hx with⟨h1,h2⟩|⟨h1,h2⟩
   ·have hj:j≠k:=fun e=>by subst e;rw[hk]at h2;injection h2 with h2;subst h2;cases hlv
    refine h.2 j x y (by rw[arJ (arU hj)];exact h2) hlv ?_
    rw[aqJ (by omega)]at hy
    rw[arJ (arU hj)];exact hy
   ·subst h1 h2
    rw[c2]at hy
    injection hy with hy
    subst hy
    exact h.2 k _ _ b1 hlv b2
 have hkp:Keeps (Av Z (H++[it]) (G++[g])) (Av Z (H.set k it) (G.set k g)) w w:=⟨aqE _,fun b _ h=>(hav b).1 h,fun _ _ _=>rfl⟩
 have hG:∀j x,j<h0→(G++[g])[j]?=some x→(G.set k g)[j]?=some x:=fun j x hj h=>by
  rw[aqJ (by omega)]at h
  rw[arJ (by omega)];exact h
 have hit:∀{j:Nat} {x:Item} {y:Value},(H++[it])[j]?=some x→ItemRel w0.heap.size (G++[g]) (Av Z (H++[it]) (G++[g])) w x y→ItemRel w0.heap.size (G.set k g) (Av Z (H.set k it) (G.set k g)) w x y:=by
  intro j x y hx h
  cases x with
  |box t cs=>
   obtain⟨b,vs,e1,e2,e3,e4⟩:=h
   refine⟨b,vs,e1,e2,e3,?_⟩
   have hc:=hlow j t cs hx
   clear e1 e3 hx
   induction cs generalizing vs with
   |nil=>cases vs<;>exact e4
   |cons s l ih=>
    match vs,e4 with
    |v::vs,⟨q1,q2⟩=>exact⟨B8 hkp q1 (hc s (by simp)) hG,ih vs q2 (fun s hs=>hc s (by simp[hs]))⟩
  |row et e xs=>
   obtain⟨css,e1,e2,e3⟩:=h
   exact⟨css,e1,bQ (fun _ _ h=>Ty.rd_keep hkp h) e2,e3⟩
  |gone=>trivial
 refine⟨⟨by simp[hl],hr.below,fun j x y hx hy=>?_,fun i j x y gx gy b hij hx hy hlx hly hgx hgy hb=>?_,hr.zf⟩,hav⟩
 ·by_cases hj:j=k
  ·subst hj
   rw[b1]at hx;rw[b2]at hy
   injection hx with hx;injection hy with hy
   subst hx hy
   exact hit c1 (hr.items _ _ _ c1 c2)
  ·exact hit (a1 hj hx).2 (hr.items j x y (a1 hj hx).2 (a2 hj hy))
 ·have key:∀{j:Nat} {x:Item} {y:Value},(H.set k it)[j]?=some x→(G.set k g)[j]?=some y→∃j',(j'=if j=k then H.length else j)∧(H++[it])[j']?=some x∧(G++[g])[j']?=some y:=by
   intro j x y hx hy
   by_cases hj:j=k
   ·subst hj
    rw[b1]at hx;rw[b2]at hy
    injection hx with hx;injection hy with hy
    subst hx hy
    exact⟨_,rfl,by rw[aqW rfl];exact c1,by rw[aqW rfl];exact c2⟩
   ·exact⟨_,rfl,by rw[aqQ hj];exact(a1 hj hx).2,by rw[aqQ hj];exact a2 hj hy⟩
  obtain⟨i',ei,i1,i2⟩:=key hx hgx
  obtain⟨j',ej,j1,j2⟩:=key hy hgy
  refine hr.disj i' j' x y gx gy b ?_ i1 j1 hlx hly i2 j2 hb
  rw[ei,ej]
  by_cases h1:i=k
  ·by_cases h2:j=k
   ·omega
   ·rw[aqW h1,aqQ h2];have:=(a1 h2 hy).1;omega
  ·by_cases h2:j=k
   ·rw[aqQ h1,aqW h2];have:=(a1 h1 hx).1;omega
   ·rw[aqQ h1,aqQ h2];exact hij
theorem Vb(hr:SR Z w0 H G w){h0 k:Nat}(hk:H[k]?=some .gone)(h0k:h0≤k)(hlow:kG h0 H){t:TypeId}{cs:List SV}{vs:Array Value}(hz:∀s∈cs,s.refs h0=true)(hcs:cf (Rel1 G (Av Z H G) w) cs vs.toList):
  ∃G',SR Z w0 (H.set k (.box t cs)) G' (w.alloc (.cells vs t))∧(∀s v,s.refs h0=true→Rel1 G (Av Z H G) w s v→Rel1 G' (Av Z (H.set k (.box t cs)) G') (w.alloc (.cells vs t)) s v)∧
   (∀j off v,j≠k→Rel1 G (Av Z H G) w (.box j off) v→Rel1 G' (Av Z (H.set k (.box t cs)) G') (w.alloc (.cells vs t)) (.box j off) v)∧
   Rel1 G' (Av Z (H.set k (.box t cs)) G') (w.alloc (.cells vs t)) (.box k 0) (.pointer (some ⟨w.heap.size,0,none⟩)):=by
 have hb:=gL w (.cells vs t)
 have hg:∀b,bR (.pointer (some ⟨w.heap.size,0,none⟩))=some b→w.heap.size≤b:=fun b h=>by simp[bR]at h;omega
 have hst:=jy (it:=.box t cs) hr hb hg
 have hsr:=zo (it:=.box t cs) hr hb hg ⟨w.heap.size,vs.toList,rfl,hr.below.size,Blk.new w t vs,bQ (fun s v h=>cZ hr hst h) hcs⟩
 have hkl:=(aqG.1 hk).1
 have hl:=hr.len
 obtain⟨m1,m2⟩:=YE hsr hl hk h0k (by
  intro j u cs' hj x hx
  rcases aqT j H.length with hlt|hge
  ·rw[aqJ hlt]at hj;exact hlow j u cs' hj x hx
  ·rw[aqK hge]at hj
   have hj':=arp hj
   simp only[List.mem_singleton,Item.box.injEq]at hj'
   obtain⟨rfl,rfl⟩:=hj'
   exact hz x hx)
 have hkp:Keeps (Av Z (H++[.box t cs]) (G++[.pointer (some ⟨w.heap.size,0,none⟩)])) (Av Z (H.set k (.box t cs)) (G.set k (.pointer (some ⟨w.heap.size,0,none⟩)))) (w.alloc (.cells vs t)) (w.alloc (.cells vs t)):=⟨aqE _,fun b _ h=>(m2 b).1 h,fun _ _ _=>rfl⟩
 refine⟨_,m1,fun s v hs h=>B8 hkp (cZ hr hst h) hs fun j x hj h=>?_,fun j off v hj h=>?_,⟨_,ar5 (by omega),rfl⟩⟩
 ·rw[aqJ (by omega)]at h
  rw[arJ (by omega)];exact h
 ·obtain⟨b,h1,h2⟩:=h
  exact⟨b,by rw[arJ (arU hj)];exact h1,h2⟩
theorem uc{n:Nat}{L:SL}{a:Act}(f:Nat→Bool):∀{la:List AlA} {H:List Item} {G:List Value},(∀x∈la,f x.i=false)→SR Z w0 H G w→FR Z n L H G w a→∃G',SR Z w0 (H++alX f la) G' w∧FR Z n L (H++alX f la) G' w a∧(∀s v,Rel1 G (Av Z H G) w s v→Rel1 G' (Av Z (H++alX f la) G') w s v)
 |[],H,G,_,hr,hf=>by
  refine⟨G,?_⟩
  rw[show alX f []=[] from rfl,ark]
  exact⟨hr,hf,fun _ _ h=>h⟩
 |x::la,H,G,hx,hr,hf=>by
  have hg:∀b,bR undef=some b→w.heap.size≤b:=fun b h=>by simp[bR,undef]at h
  have hst:=jy (it:=.gone) (g:=undef) hr (atm _ _) hg
  have h1:=zo (it:=.gone) (g:=undef) hr (atm _ _) hg trivial
  obtain⟨G',k1,k2,k3⟩:=uc f (la:=la) (fun y hy=>hx y (by simp[hy])) h1 (hf.keep fun s v h=>cZ hr hst h)
  have e:H++alX f (x::la)=(H++[.gone])++alX f la:=by
   rw[show alX f (x::la)=(match f x.i with|true=>.box x.t x.cs|false=>.gone)::alX f la from rfl,hx x (by simp)]
   simp
  rw[e]
  exact⟨G',k1,k2,fun s v h=>k3 s v (cZ hr hst h)⟩
end
theorem t8{h0:Nat}:∀{t:Ty},∀s∈t.zsplit,s.refs h0=true:=by
 intro t
 induction t with
 |pair a b iha ihb=>
  intro s hs
  simp only[Ty.zsplit,aq7]at hs
  exact hs.elim (iha s) (ihb s)
 |st a ih=>intro s hs;simp only[Ty.zsplit]at hs;exact ih s hs
 |sl e=>intro s hs;simp only[Ty.zsplit,List.mem_singleton]at hs;subst hs;rfl
 |_=>intro s hs;simp only[Ty.zsplit,List.mem_singleton]at hs;subst hs;rfl
end
section
theorem EZ{H:List Item}{s:SV}{l:List SV}(h:fb [] s=some l):fb H s=some l:=by
 unfold fb at h ⊢
 split at h<;>first
  |(cases h;done)
  |exact h
  |(split at h<;>first
    |(cases h;done)
    |(rename_i hj;simp at hj;done)
    |(rename_i hg;simp only[hg];exact h))
def wk(h0:Nat)(la:List AlA)(f:Nat→Bool)(L:SL):Prop:=∀t s,aV L t=some s→s.refsT h0=true∨∃(r:Nat) (a:AlA),la[r]?=some a∧f a.i=true∧s=.box (h0+r) 0
theorem YF{h0:Nat}{la:List AlA}{f:Nat→Bool}{L:SL}(h:∀t s,aV L t=some s→s.refsT h0=true):wk h0 la f (fc f la h0 L):=by
 intro t s hs
 rcases Cy hs with⟨r,a,h1,_,h3,h4⟩|h1
 ·exact .inr ⟨r,a,h1,h3,h4⟩
 ·exact .inl (h t s h1)
section
variable {P:Program} {T:TT} {E:Env} {ops:Array Oper} {Z:Nat→Prop} {w0:World} {N fl:Nat} {Q:Exit→Act→World→Prop} {X:List Item→List Value→World→Prop}
theorem nD{H:List Item}{G:List Value}{w:World}{a:Act}{L L':SL}{h0 r j:Nat}{la:List AlA}{x:AlA}{oj:Oper}{f:Nat→Bool}{K:Act→World→Prop}{Qx:Exit→Act→World→Prop}(hT:dU P T=true)(hoj:ops[j]?=some oj)(hal:bz oj=true)
  (hla:la[r]?=some x) (hdst:oj.dst=some x.d) (hd:x.d<N) (hop:oj.op=.alloc x.t) (hxx:∃y,c8 T x.t=some y∧y.z=true∧(∀p q,y.ty≠.pair p q)∧x.cs=y.ty.zsplit) (_hD:Dis la) (hfx:f x.i=false)
  (hk:H[h0+r]?=some .gone) (hlow:kG h0 H) (hL:wk h0 la f L) (hfl:fl≤h0) (hr:SR Z w0 H G w) (hf:FR Z N L H G w a) (hx:X H G w) (hX:∀H G w H' G' w',X H G w→Ev Z fl H G w H' G' w'→X H' G' w') (hL':∀t,aV L' t=if t=x.d then some (.box (h0+r) 0)else aV L t)
  (hK:∀v G' w',Old w w'→SR Z w0 (H.set (h0+r) (.box x.t x.cs)) G' w'→FR Z N L' (H.set (h0+r) (.box x.t x.cs)) G' w' (a.put oj.dst v)→X (H.set (h0+r) (.box x.t x.cs)) G' w'→K (a.put oj.dst v) w'):wpOp P ops Qx j K a w:=by
 obtain⟨y,hy,hz,hne,hcs⟩:=hxx
 have hg:oj.guard=none:=by
  unfold bz at hal
  rw[hop]at hal
  cases hq:oj.guard with
  |none=>rfl
  |some x=>rw[hq]at hal;simp at hal
 have hck:=aZ hT hy
 obtain⟨inf,hinf,hzero⟩:=uH hck hz
 have hc:(mkV y.ty (zc y.ty)).cells.toList=zc y.ty:=ir (by
  generalize y.ty=ty at*
  cases ty<;>first|exact .inr rfl|exact .inl rfl|exact(hne _ _ rfl).elim)
 obtain⟨G',k1,k2,k3,k4⟩:=Vb (t:=x.t) (cs:=x.cs) (vs:=(mkV y.ty (zc y.ty)).cells) hr hk (by omega) hlow (by rw[hcs];exact t8) (by rw[hcs,hc];exact iw)
 have hrun:(execOp a.eval oj).run P w=.ok (.value (.pointer (some ⟨w.heap.size,0,none⟩))) (w.alloc (.cells (mkV y.ty (zc y.ty)).cells x.t)):=by
  simp[execOp,hop,Instr.alloc,zeroValue,typeInfo,hinf,hzero,newVar,newRow]
 unfold wpOp
 simp only[hoj]
 rw[aqW (by simp[Region.wanted,hg])]
 refine .inl ?_
 unfold Oper.wp
 rw[hrun]
 refine hK _ G' _ ⟨(gL w (.cells (mkV y.ty (zc y.ty)).cells x.t)).size,fun b hb=>(gL w (.cells (mkV y.ty (zc y.ty)).cells x.t)).block b hb⟩ k1 ?_ (hX _ _ _ _ _ _ hx fun s v h hs=>k2 s v (ml hfl hs) h)
 have hf1:FR Z N L (H.set (h0+r) (.box x.t x.cs)) G' (w.alloc (.cells (mkV y.ty (zc y.ty)).cells x.t)) a:=by
  refine⟨hf.defers,hf.size,fun t s hs=>?_⟩
  obtain⟨v,h1,h2⟩:=hf.slot t s hs
  refine⟨v,h1,?_⟩
  rcases hL t s hs with h3|⟨r',b,h3,h4,rfl⟩
  ·exact Jw (fun s v hs h=>k2 s v hs h) h2 h3
  ·refine k3 _ _ v (fun e=>?_) h2
   have e:r'=r:=by omega
   subst e
   rw[hla]at h3
   injection h3 with h3
   subst h3
   rw[hfx]at h4
   cases h4
 have hf2:=hf1.put (d:=oj.dst) (L':=(x.d,.box (h0+r) 0)::kN L x.d) (s:=.box (h0+r) 0) (v:=.pointer (some ⟨w.heap.size,0,none⟩)) (by
  rw[hdst]
  simp only[dm]
  rw[aqU (show x.d+1≤N from hd)]) k4
 exact⟨hf2.defers,hf2.size,fun t s hs=>hf2.slot t s (by rw[dz,←hL' t];exact hs)⟩
structure PlanOk (T:TT) (ops:Array Oper) (N:Nat) (H0:List Item) (la:List AlA) (ss:List AlS):Prop where
 dis:Dis la
 la2:∀a∈la,(∃o,ops[a.i]?=some o∧bz o=true)∧∀x∈a.cs,x.refs H0.length=true
 ss1:∀s∈ss,(∃o,ops[s.i]?=some o∧bz o=false∧o.dst=none)∧(∀x∈s.l,x.refs H0.length=true)∧FL ops s.i s.j la H0.length=true∧∃bt cells,(H0++alX (fun _=>true) la)[s.j]?=some (.box bt cells)∧s.off+s.l.length≤cells.length
 far:ss.Pairwise (fun s p=>EE s p=true)
def nv(T:TT)(L:SL)(s:AlS)(o:Oper):Prop:=∃t x v sv y,o.op=.store t x v∧o.guard=none∧o.dst=none∧opS L x=some (.box s.j s.off)∧opS L v=some sv∧c8 T t=some y∧fb [] sv=some s.l∧s.l.length=y.ty.n
theorem rY{l0:Array Bool}{H0:List Item}{La:SL}{la:List AlA}{ss:List AlS}(hA:alA T N ops.toList 0=some la)(hS:alS T E ops l0 la H0.length La (H0++alX (fun _=>true) la) ops.toList 0=some ss):PlanOk T ops N H0 la ss:=by
 obtain⟨a1,a2,a3⟩:=lw hA
 obtain⟨s1,s2,s3⟩:=jR hS
 refine⟨a3,fun a ha=>?_,fun s hs=>?_,s3⟩
 ·obtain⟨_,o,ho,hal,y,hy⟩:=a2 a ha
  rw[ata,aru]at ho
  exact⟨⟨o,ho,hal⟩,by rw[hy];exact t8⟩
 ·obtain⟨_,_,o,ho,hal,t,x,v,sv,y,bt,cells,q1,q2,q3,q4,q5,q6,q7,q8,q9,q10,q11,q12,q13⟩:=s2 s hs
  rw[ata,aru]at ho
  exact⟨⟨o,ho,hal,q3⟩,q11,q13,bt,cells,q8,q10⟩
theorem GE{la:List AlA}(hA:alA T N ops.toList 0=some la):∀{j:Nat} {o:Oper},ops[j]?=some o→bz o=true→∃(r:Nat) (a:AlA),la[r]?=some a∧a.i=j∧o.dst=some a.d∧a.d<N∧∃x,o.op=.alloc a.t∧c8 T a.t=some x∧x.z=true∧(∀p q,x.ty≠.pair p q)∧a.cs=x.ty.zsplit:=by
 intro j o ho hal
 obtain⟨r,a,h1,h2,h3⟩:=(lw hA).1 j o (by rw[aru];exact ho) hal
 exact⟨r,a,h1,by omega,h3⟩
theorem iQ{l:Array Bool}{i j:Nat}(hcl:Clo ops l)(hj:∀os,ops[j]?=some os→∀e∈os.after,Region.binds .any e=true→l.getD e.on false=true)(h:fv ops 4 j i=true):l.getD i true=true:=by
 have:=qF hcl h hj
 rcases aqT i l.size with h'|h'
 ·rw[←fp h'];exact this
 ·simp[aq8 h']at this
section
variable {H0:List Item} {la:List AlA} {ss:List AlS} {l:Array Bool}
theorem PlanOk.wt(hp:PlanOk T ops N H0 la ss)(hcl:Clo ops l)(hl:l.size=ops.size){s:AlS}{i:Nat}(hs:dn l s.i=true)(hm:s∈ss)(h:fv ops 4 s.i i=true):l.getD i true=true:=by
 obtain⟨⟨o,ho,_⟩,_⟩:=hp.ss1 s hm
 have hlt:s.i<l.size:=by rw[hl];exact(aqI.1 ho).1
 exact iQ hcl (fun os hos e he hb=>hcl s.i os hos hs e he hb) h
theorem PlanOk.setA(hp:PlanOk T ops N H0 la ss)(hcl:Clo ops l)(hl:l.size=ops.size){r:Nat}{x:AlA}(h1:la[r]?=some x)(hju:l.getD x.i true=false):
  cq (dn (l.setIfInBounds x.i true)) ss (H0++alX (dn (l.setIfInBounds x.i true)) la)=(cq (dn l) ss (H0++alX (dn l) la)).set (H0.length+r) (.box x.t x.cs)∧(cq (dn l) ss (H0++alX (dn l) la))[H0.length+r]?=some .gone:=by
 have hup:=gF l x.i
 obtain⟨⟨oj,hoj,hal⟩,_⟩:=hp.la2 x (arp h1)
 have hne:∀s∈ss,dn l s.i=true→s.j≠H0.length+r:=fun s hs hds e=>by
  have:=hp.wt hcl hl hds hs (Am (hp.ss1 s hs).2.2.1 h1 e)
  rw[hju]at this
  cases this
 refine⟨?_,?_⟩
 ·rw[DC hp.dis h1 hup,iG (g:=dn l) fun s hs=>?_,vf hne]
  rw[hup,aqQ]
  intro e
  obtain⟨⟨o,ho,hal',_⟩,_⟩:=hp.ss1 s hs
  rw[e,hoj]at ho
  injection ho with ho
  subst ho
  rw[hal]at hal'
  cases hal'
 ·have h3:(H0++alX (dn l) la)[H0.length+r]?=some .gone:=by
   rw[aqK (by omega),show H0.length+r-H0.length=r by omega,oG,h1]
   simp only[arl]
   rw[show dn l x.i=false from hju]
  have h4:H0++alX (dn l) la=(H0++alX (dn l) la).set (H0.length+r) .gone:=by
   refine ar6 fun k=>?_
   rw[aqS]
   split
   ·rename_i e;subst e;rw[h3,aqW (aqG.1 h3).1]
   ·rfl
  rw[h4,vf hne,ar5 (by rw[l6];exact(aqG.1 h3).1)]
theorem PlanOk.same(hp:PlanOk T ops N H0 la ss){j:Nat}{oj:Oper}(hoj:ops[j]?=some oj)(hal:bz oj=false):alX (dn (l.setIfInBounds j true)) la=alX (dn l) la∧∀a∈la,dn (l.setIfInBounds j true) a.i=dn l a.i:=by
 have h:∀a∈la,dn (l.setIfInBounds j true) a.i=dn l a.i:=fun a ha=>by
  rw[gF,aqQ]
  intro e
  obtain⟨⟨o',h1,h2⟩,_⟩:=hp.la2 a ha
  rw[e,hoj]at h1
  injection h1 with h1
  subst h1
  rw[hal]at h2
  cases h2
 refine⟨?_,h⟩
 unfold alX
 exact List.map_congr_left fun a ha=>by rw[h a ha]
theorem PlanOk.setS(hp:PlanOk T ops N H0 la ss){s:AlS}(hsm:s∈ss)(hju:l.getD s.i true=false):
  cq (dn (l.setIfInBounds s.i true)) ss (H0++alX (dn (l.setIfInBounds s.i true)) la)=stP s (cq (dn l) ss (H0++alX (dn l) la)):=by
 obtain⟨⟨o,ho,hal,_⟩,_⟩:=hp.ss1 s hsm
 rw[(hp.same ho hal).1]
 exact H3 (gF l s.i) hju hp.far hsm
theorem PlanOk.setT(hp:PlanOk T ops N H0 la ss){j:Nat}{oj:Oper}{d:Nat}(hoj:ops[j]?=some oj)(hal:bz oj=false)(hd:oj.dst=some d):
  cq (dn (l.setIfInBounds j true)) ss (H0++alX (dn (l.setIfInBounds j true)) la)=cq (dn l) ss (H0++alX (dn l) la):=by
 rw[(hp.same hoj hal).1]
 refine iG fun s hs=>?_
 rw[gF,aqQ]
 intro e
 obtain⟨⟨o,ho,_,hdn⟩,_⟩:=hp.ss1 s hs
 rw[e,hoj]at ho
 injection ho with ho
 subst ho
 rw[hd]at hdn
 cases hdn
theorem PlanOk.low(hp:PlanOk T ops N H0 la ss)(hlowH:kG H0.length H0):kG H0.length (cq (dn l) ss (H0++alX (dn l) la)):=
 CY (Ye hlowH fun a ha=>(hp.la2 a ha).2) fun s hs=>(hp.ss1 s hs).2.1
theorem PlanOk.box(hp:PlanOk T ops N H0 la ss)(hcl:Clo ops l){s:AlS}(hsm:s∈ss)(hj:∀os,ops[s.i]?=some os→∀e∈os.after,Region.binds .any e=true→l.getD e.on false=true):∃bt c',(cq (dn l) ss (H0++alX (dn l) la))[s.j]?=some (.box bt c')∧s.off+s.l.length≤c'.length:=by
 obtain⟨_,_,ht,bt,cells,q8,q10⟩:=hp.ss1 s hsm
 have:(H0++alX (dn l) la)[s.j]?=some (.box bt cells):=by
  rcases aqT s.j H0.length with hlt|hge
  ·rw[aqJ hlt]at q8 ⊢;exact q8
  ·rw[aqK hge,oG]at q8 ⊢
   cases hb:la[s.j-H0.length]? with
   |none=>rw[hb]at q8;cases q8
   |some b=>
    rw[hb]at q8
    simp only[arl]at q8 ⊢
    rw[show dn l b.i=true from iQ hcl hj (Am ht hb (by omega))]
    exact q8
 obtain⟨c',b1,b2⟩:=BN (f:=dn l) this (ss:=ss)
 exact⟨bt,c',b1,by omega⟩
theorem nX{H:List Item}{G:List Value}{w:World}{a:Act}{L:SL}{s:AlS}{oj:Oper}{bt:Nat}{c':List SV}{K:Act→World→Prop}{Qx:Exit→Act→World→Prop}(hT:dU P T=true)(hE:i9 P E)(hI:inv w0)(hoj:ops[s.i]?=some oj)(hst:nv T L s oj)(b1:H[s.j]?=some (.box bt c'))(b2:s.off+s.l.length≤c'.length)
  (hr:SR Z w0 H G w) (hf:FR Z N L H G w a) (hx:X H G w) (hX:∀H G w H' G' w',X H G w→Ev Z fl H G w H' G' w'→X H' G' w')
  (hK:∀G' w',SR Z w0 (stP s H) G' w'→FR Z N L (stP s H) G' w' a→X (stP s H) G' w'→K a w'):wpOp P ops Qx s.i K a w:=by
 obtain⟨t,x,v,sv,y,q1,q2,q3,q4,q5,q6,q7,q9⟩:=hst
 have hstP:stP s H=H.set s.j (.box bt (lc c' s.off s.l)):=by
  unfold stP
  rw[b1]
 have heop:eop T E fl L H oj (fun s H' L'=>some (s,H',L'))=some (.undef,stP s H,L):=by
  unfold eop
  rw[q1]
  dsimp only
  rw[q4,q5,q6]
  dsimp only
  rw[b1,EZ q7]
  dsimp only
  rw[show Nat.beq s.l.length y.ty.n=true by rw[q9];exact asR _,aqU (show s.off+s.l.length≤c'.length by omega),hstP]
  rfl
 unfold wpOp
 simp only[hoj]
 rw[aqW (by simp[Region.wanted,q2])]
 refine .inl ?_
 unfold Oper.wp
 refine qB hT hE hI hr hf heop fun s' H' L1 G' w' v' k1 k2 k3 k4 k5=>?_
 injection k1 with k1
 injection k1 with k1 k1'
 injection k1' with k1' k1''
 subst k1 k1' k1''
 rw[q3]
 exact hK G' w' k2 k3 (hX _ _ _ _ _ _ hx k5.ev)
end
theorem BO{l:Array Bool}{H0:List Item}{L0:SL}{la:List AlA}{s:AlS}{o:Oper}{Ha:List Item}(h:Vy T ops la H0.length (fc (fun _=>true) la H0.length L0) Ha s o)(hcl:Clo ops l)(hj:∀os,ops[s.i]?=some os→∀e∈os.after,Region.binds .any e=true→l.getD e.on false=true):nv T (fc (dn l) la H0.length L0) s o:=by
 obtain⟨t,x,v,sv,y,bt,cells,q1,q2,q3,q4,q5,q6,q7,q8,q9,q10,q11,q12,q13⟩:=h
 have hopd:∀{z:Operand} {sz:SV},(∀a∈la,IV z a.d=true→fv ops 4 s.i a.i=true)→opS (fc (fun _=>true) la H0.length L0) z=some sz→opS (fc (dn l) la H0.length L0) z=some sz:=by
  intro z sz hw hz
  cases z with
  |tmp u=>
   simp only[opS]at hz ⊢
   rw[←hz]
   refine f0 (fun b hb e=>?_) rfl
   exact iQ hcl hj (hw b hb (by simp[IV,e]))
  |_=>exact hz
 exact⟨t,x,v,sv,y,q1,q2,q3,hopd (fun b hb h=>q12 b hb (by rw[h];rfl)) q4,hopd (fun b hb h=>q12 b hb (by rw[h,Bool.or_true])) q5,q6,q7,q9⟩
set_option maxHeartbeats 1000000 in
theorem Ib{H0:List Item}{L0:SL}{l0:Array Bool}{la:List AlA}{ss:List AlS}(hT:dU P T=true)(hE:i9 P E)(hI:inv w0)
  (hA:alA T N ops.toList 0=some la) (hS:alS T E ops l0 la H0.length (fc (fun _=>true) la H0.length L0) (H0++alX (fun _=>true) la) ops.toList 0=some ss) (hD:FP ops l0 (la.map (·.i)++ss.map (·.i))=true) (hW:FZ E ops l0 (la.map (·.i)++ss.map (·.i))=true)
  (hlowH:kG H0.length H0) (hlowL:∀t s,aV L0 t=some s→s.refsT H0.length=true) (hfl:fl≤H0.length) (hl0:l0.size=ops.size)
  (hX:∀H G w H' G' w',X H G w→Ev Z fl H G w H' G' w'→X H' G' w')
  (hEnd:∀(n:Nat) (l:Array Bool) G w a,cu l≤n→l.size=ops.size→(∀k,l0.getD k false=true→l.getD k false=true)→(∀k∈la.map (·.i)++ss.map (·.i),l.getD k true=true)→(∀k,l.getD k true=true→l0.getD k true=true∨k∈la.map (·.i)++ss.map (·.i))→Clo ops l→SR Z w0 (cq (fun _=>true) ss (H0++alX (fun _=>true) la)) G w→FR Z N (fc (fun _=>true) la H0.length L0) (cq (fun _=>true) ss (H0++alX (fun _=>true) la)) G w a→X (cq (fun _=>true) ss (H0++alX (fun _=>true) la)) G w→wpG P ops Q (fun _=>True) n l a w):
  ∀(n:Nat) (l:Array Bool),cu l≤n→l.size=ops.size→(∀k,l0.getD k false=true→l.getD k false=true)→(∀k,l.getD k true=true→l0.getD k true=true∨k∈la.map (·.i)++ss.map (·.i))→Clo ops l→∀(G:List Value) (w:World) (a:Act),
   SR Z w0 (cq (dn l) ss (H0++alX (dn l) la)) G w→FR Z N (fc (dn l) la H0.length L0) (cq (dn l) ss (H0++alX (dn l) la)) G w a→X (cq (dn l) ss (H0++alX (dn l) la)) G w→wpG P ops Q (fun _=>True) n l a w:=by
 obtain⟨a1,a2,a3⟩:=lw hA
 obtain⟨s1,s2,s3⟩:=jR hS
 have hp:=rY hA hS
 have cov:∀{l:Array Bool},(∀k,l0.getD k false=true→l.getD k false=true)→∀{k:Nat} {o:Oper},ops[k]?=some o→l.getD k true=false→(∃(r:Nat) (x:AlA),la[r]?=some x∧x.i=k∧bz o=true)∨(∃s∈ss,s.i=k∧bz o=false)∨(ez E o=true∧l0.getD k true=false):=by
  intro l hsub k o ho hu
  have hk:ops.toList[k]?=some o:=by rw[aru];exact ho
  cases hal:bz o with
  |true=>
   obtain⟨r,x,h1,h2,_⟩:=a1 k o hk hal
   exact .inl ⟨r,x,h1,by omega,rfl⟩
  |false=>
   right
   have hlt:k<l0.size:=by rw[hl0];exact(aqI.1 ho).1
   have h0:l0.getD (0+k) true=false:=by
    rw[aq9]
    cases hq:l0.getD k true with
    |false=>rfl
    |true=>
     rw[←fp hlt]at hq
     have:=hsub k hq
     rcases aqT k l.size with h'|h'
     ·rw[fp h',hu]at this;cases this
     ·simp[aq8 h']at hu
   cases ht:ez E o with
   |true=>rw[aq9]at h0;exact .inr ⟨rfl,h0⟩
   |false=>
    obtain⟨s,h1,h2⟩:=s1 k o hk h0 hal ht
    exact .inl ⟨s,h1,by omega,rfl⟩
 have fin:∀{n:Nat} {l:Array Bool},cu l≤n→l.size=ops.size→(∀k,l0.getD k false=true→l.getD k false=true)→(∀k,l.getD k true=true→l0.getD k true=true∨k∈la.map (·.i)++ss.map (·.i))→Clo ops l→(∀k∈la.map (·.i)++ss.map (·.i),l.getD k true=true)→∀{G:List Value} {w:World} {a:Act},SR Z w0 (cq (dn l) ss (H0++alX (dn l) la)) G w→FR Z N (fc (dn l) la H0.length L0) (cq (dn l) ss (H0++alX (dn l) la)) G w a→X (cq (dn l) ss (H0++alX (dn l) la)) G w→wpG P ops Q (fun _=>True) n l a w:=by
  intro n l hcu hl hsub hin hcl hall G w a hr hf hx
  have e1:∀x∈la,dn l x.i=true:=fun x hx=>hall _ (asu _ (atb.2 ⟨x,hx,rfl⟩))
  have e2:∀s∈ss,dn l s.i=true:=fun s hs=>hall _ (asn _ (atb.2 ⟨s,hs,rfl⟩))
  have e3:alX (dn l) la=alX (fun _=>true) la:=by
   unfold alX
   exact List.map_congr_left fun x hx=>by rw[e1 x hx]
  have e4:cq (dn l) ss (H0++alX (dn l) la)=cq (fun _=>true) ss (H0++alX (fun _=>true) la):=by
   rw[e3]
   exact iG e2
  rw[e4]at hr hf hx
  refine hEnd n l G w a hcu hl hsub hall hin hcl hr ⟨hf.defers,hf.size,fun t s hs=>hf.slot t s ?_⟩ hx
  rw[←hs]
  exact f0 (fun x hx _=>e1 x hx) rfl
 intro n
 induction n with
 |zero=>
  intro l hcu hl hsub hin hcl G w a hr hf hx
  exact fin hcu hl hsub hin hcl (fun k _=>WO (l:=l) (by omega) k) hr hf hx
 |succ n ih=>
  intro l hcu hl hsub hin hcl G w a hr hf hx
  by_cases hC:∀k∈la.map (·.i)++ss.map (·.i),l.getD k true=true
  ·exact fin hcu hl hsub hin hcl hC hr hf hx
  have hC':∃k∈la.map (·.i)++ss.map (·.i),l.getD k true=false:=by
   apply aqN
   intro hn
   refine hC fun k hk=>?_
   cases hq:l.getD k true with
   |true=>rfl
   |false=>exact(hn ⟨k,hk,hq⟩).elim
  refine⟨fun h=>(vu hl hD hsub hC' h).elim,fun j hj=>?_⟩
  obtain⟨hju,oj,hoj,hdep⟩:=arE.1 hj
  have hin':∀{i:Nat},i∈la.map (·.i)++ss.map (·.i)→∀k,(l.setIfInBounds i true).getD k true=true→l0.getD k true=true∨k∈la.map (·.i)++ss.map (·.i):=fun{i} hi k hk=>by
   have:=gF l i k
   rw[show dn (l.setIfInBounds i true) k=true from hk]at this
   by_cases e:k=i
   ·subst e;exact .inr hi
   ·rw[aqQ e]at this;exact hin k this.symm
  have hsub':∀k,l0.getD k false=true→(l.setIfInBounds j true).getD k false=true:=fun k hk=>atf (hsub k hk)
  have hcu':cu (l.setIfInBounds j true)≤n:=by have:=wz hju;omega
  have hjr:∀os,ops[j]?=some os→∀e∈os.after,Region.binds .any e=true→l.getD e.on false=true:=fun os hos e he hb=>by rw[hoj]at hos;injection hos with hos;subst hos;exact hdep e he hb
  rcases cov hsub hoj hju with⟨r,x,h1,h2,hal⟩|⟨s,hsm,h2,hal⟩|⟨ht,hu0⟩
  ·-- an allocation
   subst h2
   obtain⟨r',x',g1,g2,g3,g4,y,g5,g6⟩:=GE hA hoj hal
   have e:r'=r:=by
    by_cases hh:r'=r
    ·exact hh
    ·exact absurd g2 (K7 a3 h1 g1 hh).1
   subst e
   rw[h1]at g1
   injection g1 with g1
   subst g1
   obtain⟨hset,hgone⟩:=hp.setA hcl hl h1 hju
   refine nD (L':=fc (dn (l.setIfInBounds x.i true)) la H0.length L0) hT hoj hal h1 g3 g4 g5 ⟨y,g6⟩ a3 hju hgone (hp.low hlowH) (YF hlowL) hfl hr hf hx hX (zO (gF l x.i) a3 h1) fun v G' w' _ k1 k2 k3=>⟨.inr trivial,?_⟩
   rw[←hset]at k1 k2 k3
   exact ih _ hcu' (by simpa using hl) hsub' (hin' (asu _ (atb.2 ⟨x,arp h1,rfl⟩))) (hcl.set hj) G' w' _ k1 k2 k3
  ·-- a store
   subst h2
   obtain⟨_,_,o,ho,_,hok⟩:=s2 s hsm
   rw[ata,aru,hoj]at ho
   injection ho with ho
   subst ho
   obtain⟨bt,c',b1,b2⟩:=hp.box hcl hsm hjr
   refine nX (fl:=fl) hT hE hI hoj (BO hok hcl hjr) b1 b2 hr hf hx hX fun G' w' k2 k3 k5=>⟨.inr trivial,?_⟩
   rw[←hp.setS hsm hju]at k2 k3 k5
   refine ih _ hcu' (by simpa using hl) hsub' (hin' (asn _ (atb.2 ⟨s,hsm,rfl⟩))) (hcl.set hj) G' w' _ k2 ?_ k5
   exact⟨k3.defers,k3.size,fun u su hs=>k3.slot u su (by rw[←f0 (fun x hx _=>(hp.same hoj hal).2 x hx) rfl];exact hs)⟩
  ·-- a tame one waits for all
   exfalso
   obtain⟨k,hk,hku⟩:=hC'
   have hw:=aqO.1 hW j (atr.2 (aqI.1 hoj).1)
   unfold dA at hw
   rw[hu0,hoj]at hw
   dsimp only at hw
   rw[ht]at hw
   simp only[Bool.not_true,Bool.or_false,Bool.false_or]at hw
   have:=iQ hcl hjr (aqO.1 hw k hk)
   rw[hku]at this
   cases this
end
end
section
section
variable {P:Program} {T:TT} {R:Type}
theorem tb{L:SL}{o:Oper}{k:SV→Option R}{r:R}(h:jo P L o k=some r):∃s,k s=some r∧jo P L o some=some s:=by
 unfold jo at h ⊢
 repeat' (split at h)
 all_goals first
  |(cases h;done)
  |exact⟨_,h,by simp[*]⟩
  |exact⟨_,h,rfl⟩
theorem Xu{L:SL}{H:List Item}{o:Oper}{k:SV→Option R}{r:R}(hq:iz o.op=true)(h:qop P T true L H o k=some r):∃s,k s=some r∧qop P T true L H o some=some s:=by
 unfold qop at h ⊢
 split at h
 all_goals (repeat' (split at h))
 all_goals first
  |(cases h;done)
  |exact⟨_,h,by simp[*]⟩
  |exact⟨_,h,rfl⟩
  |exact tb h
  |(obtain⟨s,h1,h2⟩:=tb h;exact⟨s,h1,by simp[*]⟩)
  |(exfalso;simp[iz, *]at hq;done)
end
section
variable {P:Program} {T:TT} {R:Type}
theorem Gr{H X:List Item}{j:Nat}{it:Item}(h:H[j]?=some it):(H++X)[j]?=some it:=by
 rw[aqJ (aqG.1 h).1]
 exact h
theorem EK{H X:List Item}{s:SV}{l:List SV}(h:fb H s=some l):fb (H++X) s=some l:=by
 unfold fb at h ⊢
 split at h<;>first
  |(cases h;done)
  |exact h
  |(split at h<;>first
    |(cases h;done)
    |(rename_i hj;simp only[Gr hj];exact h)
    |(rename_i hg;simp only[hg];exact h))
theorem wy{H X:List Item}{L:SL}{place:Nat→Option (Nat×Nat)}:∀{ps:List (Nat×Operand)} {cs cs':List SV},ny H L place cs ps=some cs'→ny (H++X) L place cs ps=some cs'
 |[],_,_,h=>h
 |(i,x)::r,cs,cs',h=>by
  simp only[ny]at h ⊢
  split at h<;>try (cases h;done)
  rename_i h1 h2
  split at h<;>try (cases h;done)
  rename_i l hl
  split at h<;>try (cases h;done)
  rename_i hb
  simp only[EK hl,hb]
  exact wy h
theorem Dz{H X:List Item}:∀{ss:List SV} {tys:List Nat} {al:List SV},ss.all SV.noOwn=true→jP T H ss tys=some al→jP T (H++X) ss tys=some al
 |[],[],_,_,h=>h
 |[],_::_,_,_,h=>by simp[jP]at h
 |_::_,[],_,_,h=>by simp[jP]at h
 |s::l,t::ts,al,hn,h=>by
  simp only[asY,aqB]at hn
  simp only[jP]at h ⊢
  split at h<;>try (cases h;done)
  rename_i r hr
  rw[Dz hn.2 hr]
  cases s<;>first
   |exact h
   |(exfalso;have:=hn.1;simp[SV.noOwn]at this;done)
theorem HZ{L:SL}{H X:List Item}{o:Oper}{s:SV}(hq:iz o.op=true)(h:qop P T true L H o some=some s):qop P T true L (H++X) o some=some s:=by
 have hq':∀op t x y u,o.op=.binOp op t x y u→Gc op y=none:=fun op t x y u e=>by
  rw[e]at hq
  simpa [iz,isQ]using hq
 unfold qop at h ⊢
 split at h
 all_goals (try (rename_i hop;simp only[hq' _ _ _ _ _ hop]at h ⊢;exact h))
 all_goals (try (rename_i hop;simp only at h ⊢;exact h))
 all_goals (repeat' (split at h))
 all_goals first
  |(cases h;done)
  |exact h
  |(simp only[*];done)
  |(have hx:=Gr (X:=X) (by assumption:H[_]?=some _);simp only[*];done)
  |(simp[*];done)
  |(have hx:=wy (X:=X) (by assumption:ny H _ _ _ _=some _);simp only[*];done)
end
theorem cj{d:Nat}{s:SV}{L:SL}{t:Nat}:aV ((d,s)::kN L d) t=if t=d then some s else aV L t:=dz
theorem Nj{L:SL}{t:Nat}:∀{ts:List Nat},t∈ts→aV (eM L ts) t=aV L t:=by
 intro ts ht
 cases hl:aV L t with
 |none=>
  cases hs:aV (eM L ts) t with
  |none=>rfl
  |some s=>rw[fD hs]at hl;cases hl
 |some s=>
  induction ts with
  |nil=>cases ht
  |cons u us ih=>
   simp only[eM]
   by_cases hu:u=t
   ·subst hu
    rw[hl]
    simp[aV]
   ·have hm:t∈us:=(arc.1 ht).resolve_left (fun e=>hu e.symm)
    have hb:Nat.beq u t=false:=by
     cases hq:Nat.beq u t with
     |false=>rfl
     |true=>exact absurd (aqA hq) hu
    split
    ·simp only[aV,hb];exact ih hm
    ·exact ih hm
theorem dk{L M:SL}:∀{ts:List Nat},(∀t∈ts,aV L t=aV M t)→eM L ts=eM M ts
 |[],_=>rfl
 |u::us,h=>by
  simp only[eM]
  rw[h u (by simp),dk (ts:=us) fun t ht=>h t (by simp[ht])]
theorem lE{R:Type}{ops:Array Oper}{L:SL}{o:Oper}{yes no:SL→Option R}{r:R}(h:ck ops L o yes no=some r):
  (∃L',(∀t,aV L' t=aV L t)∧yes L'=some r∧ck ops (eM L (o.looksAt ops)) o (fun _=>some true) (fun _=>some false)=some true)∨(∃L',(∀t,aV L' t=aV L t)∧no L'=some r∧ck ops (eM L (o.looksAt ops)) o (fun _=>some true) (fun _=>some false)=some false):=by
 unfold ck at h
 split at h
 ·rename_i hg
  exact .inl ⟨L,fun _=>rfl,h,by unfold ck;rw[hg]⟩
 ·rename_i j want hg
  split at h<;>try (cases h;done)
  rename_i d hd
  have hm:d∈o.looksAt ops:=by unfold Oper.looksAt;rw[hg];simp[hd]
  have hl:=Nj (L:=L) hm
  split at h
  ·rename_i b hb
   have hy:∀b':Bool,b=b'→∀t,aV ((d,.d .bool b')::kN L d) t=aV L t:=fun b' e t=>by
    subst e
    rw[cj]
    split
    ·rename_i e;subst e;exact hb.symm
    ·rfl
   split at h
   ·split at h
    ·exact .inl ⟨_,hy true rfl,h,by unfold ck;simp only[hg,hd,hl,hb]⟩
    ·exact .inr ⟨_,hy true rfl,h,by unfold ck;simp only[hg,hd,hl,hb]⟩
   ·split at h
    ·exact .inr ⟨_,hy false rfl,h,by unfold ck;simp only[hg,hd,hl,hb]⟩
    ·exact .inl ⟨_,hy false rfl,h,by unfold ck;simp only[hg,hd,hl,hb]⟩
  ·rename_i hb
   exact .inr ⟨L,fun _=>rfl,h,by unfold ck;simp only[hg,hd,hl,hb]⟩
  ·cases h
def StepF(P:Program)(H:List Item)(ops:Array Oper)(Lr:SL)(o:Oper)(j:Nat)(s:SV):Prop:=
 ∀(X:List Item) (Z:Nat→Prop) (w0:World) (n:Nat) (G:List Value) (w:World) (a:Act) (Q:Exit→Act→World→Prop) (K:Act→World→Prop),inv w0→SR Z w0 (H++X) G w→FR Z n Lr (H++X) G w a→
  (∀v G' w',Old w w'→SR Z w0 (H++X) G' w'→(∀s' v',Rel1 G (Av Z (H++X) G) w s' v'→Rel1 G' (Av Z (H++X) G') w' s' v')→Rel G' (Av Z (H++X) G') w' s v→K (a.put o.dst v) w')→wpOp P ops Q j K a w
theorem StepF.ext{P:Program}{H:List Item}{ops:Array Oper}{Lr:SL}{o:Oper}{j:Nat}{s:SV}(h:StepF P H ops Lr o j s)(X:List Item):StepF P (H++X) ops Lr o j s:=by
 intro Y Z w0 n G w a Q K
 rw[arR]
 exact h (X++Y) Z w0 n G w a Q K
def StepP(P:Program)(H:List Item)(ops:Array Oper)(Lr:SL)(o:Oper)(s:SV):Prop:=
 ∀(X:List Item) (Z:Nat→Prop) (w0:World) (n:Nat) (G:List Value) (w:World) (a:Act),SR Z w0 (H++X) G w→FR Z n Lr (H++X) G w a→∃v,YieldsIf P ops (fun _=>True) o v a∧Rel G (Av Z (H++X) G) w s v
theorem StepP.ext{P:Program}{H:List Item}{ops:Array Oper}{Lr:SL}{o:Oper}{s:SV}(h:StepP P H ops Lr o s)(X:List Item):StepP P (H++X) ops Lr o s:=by
 intro Y Z w0 n G w a
 rw[arR]
 exact h (X++Y) Z w0 n G w a
section
variable {P:Program} {T:TT} {E:Env} {H:List Item} {ops:Array Oper} {R:Type}
theorem EW{rs:List RV}{s:SV}(h:afC rs=some s):qR H rs (fun s H'=>some (s,H'))=some (s,H):=by
 unfold afC at h
 split at h
 ·injection h with h;subst h;rfl
 ·cases h
 ·rename_i h1 h2
  unfold qR
  split at h<;>try (cases h;done)
  rename_i l hl
  injection h with h
  subst h
  split
  ·exact absurd rfl (h2 _ _ _)
  ·exact absurd rfl (h1 _ _)
  ·rw[hl]
theorem D0{Lr:SL}{o:Oper}(hg:ck ops Lr o (fun _=>some true) (fun _=>some false)=some false):StepP P H ops Lr o .undef:=by
 intro X Z w0 n G w a hr hf
 have want:Region.wanted o (yielded ops a.tmps)=false:=by
  rcases d8 hf hg with⟨_,h1,_,_⟩|⟨_,_,_,h3⟩
  ·cases h1
  ·exact h3
 exact⟨undef,.inr ⟨want,rfl⟩,rfl⟩
theorem zL{Lr:SL}{o:Oper}{j:Nat}{k:SV→Option R}{r:R}(hT:dU P T=true)(hE:i9 P E)(hops:ops[j]?=some o)(hg:ck ops Lr o (fun _=>some true) (fun _=>some false)=some true)(h:tq P T E Lr H o k=some r):
  ∃s,k s=some r∧StepF P H ops Lr o j s∧(xo o=true→StepP P H ops Lr o s):=by
 have want:∀{H:List Item} {Z:Nat→Prop} {n:Nat} {G:List Value} {w:World} {a:Act},FR Z n Lr H G w a→Region.wanted o (yielded ops a.tmps)=true:=fun hf=>by
  rcases d8 hf hg with⟨_,_,_,h3⟩|⟨_,h1,_,_⟩
  ·exact h3
  ·cases h1
 unfold tq at h
 split at h
 ·rename_i hq
  obtain⟨s,h1,h2⟩:=Xu hq h
  refine⟨s,h1,fun X Z w0 n G w a Q K hI hr hf hK=>?_,fun hp X Z w0 n G w a hr hf=>?_⟩
  rotate_left
  ·obtain⟨s',v,g1,g2,g3⟩:=jH hT hr hf (HZ (X:=X) hq h2)
   injection g1 with g1
   subst g1
   refine⟨v,.inl ⟨want hf,fun w' _=>g3 w' fun hl=>?_⟩,g2⟩
   unfold xo at hp
   rw[hl]at hp
   simp at hp
  obtain⟨s',v,g1,g2,g3⟩:=jH hT hr hf (HZ (X:=X) hq h2)
  injection g1 with g1
  subst g1
  unfold wpOp
  simp only[hops]
  rw[aqW (want hf)]
  refine .inl ?_
  unfold Oper.wp
  rw[g3 w (fun _=>Agr.refl)]
  exact hK v G w (Old.refl w) hr (fun _ _ h=>h) g2
 ·split at h
  ·rename_i f args tys ht ho
   unfold aa6 at h
   split at h<;>try (cases h;done)
   rename_i sp hsp
   obtain⟨hcl,hok,_⟩:=hE f sp hsp
   split at h<;>try (cases h;done)
   rename_i ss hss
   split at h<;>try (cases h;done)
   rename_i al hal hno
   obtain⟨rs,hk,hcon⟩:=hok _ _ _ _ h
   split at hk<;>try (cases hk;done)
   rename_i s hs
   refine⟨s,hk,fun X Z w0 n G w a Q K hI hr hf hK=>?_,fun hp=>by
    unfold xo at hp
    rw[‹iz o.op=false›]at hp
    cases hp⟩
   have hrel:cf (Rel1 [] (Av Z (H++X) G) w) al (args.toList.map a.eval):=by
    refine lN (A:=Av Z (H++X) G) (ss0:=ss) hr (fun _ _ h=>h) (.inr ?_) (fun s hs=>hs) (Dz hno hal) (jQ hf hss)
    intro s hs
    exact aqO.1 hno _ hs
   unfold wpOp
   simp only[hops]
   rw[aqW (want hf)]
   refine .inl ?_
   unfold Oper.wp
   rw[iv hcl a.eval o (.func f) args tys #[] ho rfl w]
   have e1:Array.map a.eval args++ #[]=(args.toList.map a.eval).toArray:=by obtain⟨l⟩:=args;simp
   rw[e1]
   refine(hcon _ w _ (mr hI hr.below) hrel).mono ?_
   rintro e w' ⟨v,rfl,hb,hres⟩
   obtain⟨s',H',G',k1,k2,k3,k4,k5⟩:=kE hr hf hb hres (.inl fun _ _ h=>h) (EW hs) (H++X).length false false
   injection k1 with k1
   injection k1 with k1 k1'
   subst k1 k1'
   refine hK v G' w' ⟨hb.size,fun b hbs=>hb.block b hbs⟩ k2 (fun s' v' h=>k5.pres s' v' h fun i hi=>vG (pH hr h) hi) k4
  ·cases h
theorem nG{Lr:SL}{o:Oper}{j:Nat}(hops:ops[j]?=some o)(hg:ck ops Lr o (fun _=>some true) (fun _=>some false)=some false):StepF P H ops Lr o j .undef:=by
 intro X Z w0 n G w a Q K hI hr hf hK
 have want:Region.wanted o (yielded ops a.tmps)=false:=by
  rcases d8 hf hg with⟨_,h1,_,_⟩|⟨_,_,_,h3⟩
  ·cases h1
  ·exact h3
 unfold wpOp
 simp only[hops]
 rw[aqQ (by rw[want];simp)]
 exact hK undef G w (Old.refl w) hr (fun _ _ h=>h) rfl
inductive TRun (P:Program) (E:Env) (ops:Array Oper) (N:Nat) (H:List Item) (lo:Bool) (Stp Fin:Nat→Array Bool→SL→Prop):Nat→Array Bool→SL→Prop
 |done {n:Nat} {l:Array Bool} {L:SL}:ed E ops l=true→Fin n l L→TRun P E ops N H lo Stp Fin n l L
 |stop {n:Nat} {l:Array Bool} {L:SL}:Region.ready .any ops l=[]→Stp n l L→TRun P E ops N H lo Stp Fin n l L
 |step {n:Nat} {l:Array Bool} {L L':SL} {j:Nat} {o:Oper} {d:Nat} {s:SV}:j∈Region.ready .any ops l→(gz E ops j=true∨StepP P H ops (eM L (o.looksAt ops)) o s∨lo=true)→dA E ops j=true→ops[j]?=some o→o.dst=some d→d<N→Region.free .any ops l j=true→StepF P H ops (eM L (o.looksAt ops)) o j s→
   s.refsT H.length=true→(∀t,aV L' t=if t=d then some s else aV L t)→TRun P E ops N H lo Stp Fin n (l.setIfInBounds j true) L'→TRun P E ops N H lo Stp Fin (n+1) l L
variable {N:Nat} {lo:Bool} {Stp Fin:Nat→Array Bool→SL→Prop}
theorem mg{l:Array Bool}(hc:Clo ops l)(h:ed E ops l=true){j:Nat}(hj:j∈Region.ready .any ops l):dA E ops j=false:=by
 obtain⟨h1,o,h2,h3⟩:=arE.1 hj
 have:=aqO.1 h j (atr.2 (aqI.1 h2).1)
 rw[h1]at this
 simp only[Bool.false_or,asa,arC]at this
 rcases this with h4|h4
 ·exact h4
 ·rw[List.any_eq_true]at h4
  obtain⟨s,hs,hb⟩:=h4
  simp only[aqB,arC]at hb
  have:=iQ hc (fun os hos e he hb=>by rw[h2]at hos;injection hos with hos;subst hos;exact h3 e he hb) hb.2
  rw[hb.1.2]at this
  cases this
theorem xL{l:Array Bool}(h:ed E ops l=true)(j:Nat)(hj:dM E ops j=false):ed E ops (l.setIfInBounds j true)=true:=by
 refine aqO.2 fun k hk=>?_
 have:=aqO.1 h k hk
 by_cases hjk:j=k
 ·subst hjk;rw[gj];rfl
 ·rw[ar7 true hjk]
  simp only[asa]at this ⊢
  rcases this with h1|h1
  ·exact .inl h1
  ·refine .inr ?_
   rw[List.any_eq_true]at h1 ⊢
   obtain⟨s,hs,hb⟩:=h1
   refine⟨s,hs,?_⟩
   simp only[aqB]at hb ⊢
   have hne:j≠s:=fun e'=>by rw[←e',hj]at hb;cases hb.1.1
   rw[ar7 true hne]
   exact hb
theorem ur{l:Array Bool}(hc:Clo ops l){i j:Nat}(h:gz E ops i=true)(hi:l.getD i true=false)(hj:j∈Region.ready .any ops l):dM E ops j=false:=by
 obtain⟨_,o,ho,hall⟩:=arE.1 hj
 have h1:=aqO.1 h j (by simpa using(aqI.1 ho).1)
 simp only[asa,arC]at h1
 rcases h1 with h1|h1
 ·exact h1
 ·have:=qF hc h1 (fun os hos e he hb=>by rw[ho]at hos;injection hos with hos;subst hos;exact hall e he hb)
  rcases aqT i l.size with hlt|hge
  ·simp[hlt]at hi this;rw[hi]at this;cases this
  ·simp[aq8 hge]at this
theorem jZ{l:Array Bool}{i j:Nat}{oi:Oper}(h2:ops[i]?=some oi)(hjun:l.getD j true=false)(h5:Region.free .any ops l i=true):Region.free .any ops (l.setIfInBounds j true) i=true:=by
 have hjn:∀k,(l.setIfInBounds j true).getD k true=false→l.getD k true=false:=fun k hk=>by
  by_cases hjk:j=k
  ·subst hjk;exact hjun
  ·rw[ar7 true hjk]at hk;exact hk
 simp only[Region.free,h2,aqO,atr]at h5 ⊢
 intro k hk
 have:=h5 k hk
 cases hd:(l.setIfInBounds j true).getD k true with
 |true=>simp
 |false=>rw[hjn k hd]at this;simpa [hd]using this
theorem gC{o:Oper}(h:bz o=true):ez E o=false:=by
 unfold bz at h
 unfold ez iz Bn
 cases hop:o.op<;>rw[hop]at h<;>simp at h
 rfl
theorem nw{o:Oper}(h:ez E o=true):db o.op=false:=by
 cases hop:o.op with
 |store=>unfold ez iz Bn at h;rw[hop]at h;simp[isQ]at h
 |call c=>
  obtain⟨f,x,y⟩:=c
  cases f with
  |builtin b=>cases b<;>first|rfl|(unfold ez iz Bn at h;rw[hop]at h;simp[isQ]at h)
  |_=>rfl
 |_=>rfl
theorem TRun.any{n:Nat}{l:Array Bool}{L:SL}(h:TRun P E ops N H lo Stp Fin n l L):Clo ops l→∀{j:Nat},j∈Region.ready .any ops l→dA E ops j=true→
  ∃(n':Nat) (o:Oper) (d:Nat) (s:SV) (L':SL),n=n'+1∧ops[j]?=some o∧o.dst=some d∧d<N∧StepF P H ops (eM L (o.looksAt ops)) o j s∧s.refsT H.length=true∧(∀t,aV L' t=if t=d then some s else aV L t)∧TRun P E ops N H lo Stp Fin n' (l.setIfInBounds j true) L':=by
 induction h with
 |done h1 h2=>intro hcl j hj hs;rw[mg hcl h1 hj]at hs;cases hs
 |stop h1 h2=>intro _ j hj;rw[h1]at hj;cases hj
 | @step n l L L1 i oi di si h1 h0 h0' h2 h3 h4 h5 h6 hrf h7 h8 ih=>
  intro hcl j hj hst
  by_cases hji:j=i
  ·subst hji
   exact⟨n,oi,di,si,L1,rfl,h2,h3,h4,h6,hrf,h7,h8⟩
  ·obtain⟨n',oj,dj,sj,L2,e1,g2,g3,g4,g6,grf,g7,g8⟩:=ih (hcl.set h1) (arZ hj hji) hst
   have hjun:=(arE.1 hj).1
   have hap:=ar3 h2 h5 j oj g2 hji hjun (dH h1 hj g2)
   obtain⟨a1,a2,a3⟩:=asS hap
   have b1:=a1 di h3
   have b2:dj≠di:=fun e=>a2 di h3 (by rw[g3,e])
   have b3:=a3 dj g3
   have c1:StepF P H ops (eM L (oj.looksAt ops)) oj j sj:=by
    rw[←dk (L:=L1) (M:=L) fun t ht=>by rw[h7 t,aqQ (fun e=>b1 (by rw[←e];exact ht))]]
    exact g6
   refine⟨n,oj,dj,sj,(dj,sj)::kN L dj,rfl,g2,g3,g4,c1,grf,fun t=>cj,?_⟩
   rw[e1]
   refine .step (j:=i) (L':=L2) (arZ h1 (arU hji)) ?_ h0' h2 h3 h4 (jZ h2 hjun h5) ?_ hrf (fun t=>?_) ?_ (s:=si)
   ·rw[dk (M:=L) fun t ht=>by rw[cj,aqQ (fun e=>b3 (by rw[←e];exact ht))]]
    exact h0
   ·rw[dk (M:=L) fun t ht=>by rw[cj,aqQ (fun e=>b3 (by rw[←e];exact ht))]]
    exact h6
   ·rw[g7 t,h7 t,cj]
    by_cases e1:t=dj
    ·subst e1;rw[aqW rfl,aqQ b2];rw[aqW rfl]
    ·rw[aqQ e1,aqQ e1]
   ·rw[aro _ _ hji]
    exact g8
theorem TRun.alloc{la:List AlA}(hFin:∀n l L j oj,Fin n l L→j∈Region.ready .any ops l→ed E ops l=true→ops[j]?=some oj→bz oj=true→∃n' r a L',n=n'+1∧la[r]?=some a∧a.i=j∧oj.dst=some a.d∧a.d<N∧(∃x,oj.op=.alloc a.t∧c8 T a.t=some x∧x.z=true∧(∀p q,x.ty≠.pair p q)∧a.cs=x.ty.zsplit)∧(∀t,aV L' t=if t=a.d then some (.box (H.length+r) 0)else aV L t)∧TRun P E ops N H lo Stp Fin n' (l.setIfInBounds j true) L')
  {n:Nat} {l:Array Bool} {L:SL} (h:TRun P E ops N H lo Stp Fin n l L):Clo ops l→∀{j:Nat} {oj:Oper},j∈Region.ready .any ops l→ops[j]?=some oj→bz oj=true→
  ∃(n' r:Nat) (a:AlA) (L':SL),n=n'+1∧la[r]?=some a∧a.i=j∧oj.dst=some a.d∧a.d<N∧(∃x,oj.op=.alloc a.t∧c8 T a.t=some x∧x.z=true∧(∀p q,x.ty≠.pair p q)∧a.cs=x.ty.zsplit)∧(∀t,aV L' t=if t=a.d then some (.box (H.length+r) 0)else aV L t)∧TRun P E ops N H lo Stp Fin n' (l.setIfInBounds j true) L':=by
 induction h with
 |done h1 h2=>intro _ j oj hj hoj hal;exact hFin _ _ _ _ _ h2 hj h1 hoj hal
 |stop h1 h2=>intro _ j oj hj;rw[h1]at hj;cases hj
 | @step n l L L1 i oi di si h1 h0 h0' h2 h3 h4 h5 h6 hrf h7 h8 ih=>
  intro hcl j oj hj hoj hal
  by_cases hji:j=i
  ·exfalso
   subst hji
   unfold dA at h0'
   rw[hoj]at h0'
   dsimp only at h0'
   rw[gC hal]at h0'
   cases h0'
  ·obtain⟨n',r,x,L2,e1,e2,e3,g3,g4,g5,g7,g8⟩:=ih (hcl.set h1) (arZ hj hji) hoj hal
   have hjun:=(arE.1 hj).1
   have hap:=ar3 h2 h5 j oj hoj hji hjun (dH h1 hj hoj)
   obtain⟨a1,a2,a3⟩:=asS hap
   have b2:x.d≠di:=fun e=>a2 di h3 (by rw[g3,e])
   have b3:=a3 x.d g3
   refine⟨n,r,x,(x.d,.box (H.length+r) 0)::kN L x.d,rfl,e2,e3,g3,g4,g5,fun t=>cj,?_⟩
   rw[e1]
   refine .step (j:=i) (L':=L2) (arZ h1 (arU hji)) ?_ h0' h2 h3 h4 (jZ h2 hjun h5) ?_ hrf (fun t=>?_) ?_ (s:=si)
   ·rw[dk (M:=L) fun t ht=>by rw[cj,aqQ (fun e=>b3 (by rw[←e];exact ht))]]
    exact h0
   ·rw[dk (M:=L) fun t ht=>by rw[cj,aqQ (fun e=>b3 (by rw[←e];exact ht))]]
    exact h6
   ·rw[g7 t,h7 t,cj]
    by_cases e1:t=x.d
    ·subst e1;rw[aqW rfl,aqQ b2];rw[aqW rfl]
    ·rw[aqQ e1,aqQ e1]
   ·rw[aro _ _ hji]
    exact g8
theorem TRun.store{ss:List AlS}(hFin:∀n l L j oj,Fin n l L→Clo ops l→j∈Region.ready .any ops l→ed E ops l=true→ops[j]?=some oj→dM E ops j=true→∃n' s,n=n'+1∧s∈ss∧s.i=j∧nv T L s oj∧TRun P E ops N H lo Stp Fin n' (l.setIfInBounds j true) L)
  {n:Nat} {l:Array Bool} {L:SL} (h:TRun P E ops N H lo Stp Fin n l L):Clo ops l→∀{j:Nat} {oj:Oper},j∈Region.ready .any ops l→ops[j]?=some oj→dM E ops j=true→
  ∃(n':Nat) (s:AlS),n=n'+1∧s∈ss∧s.i=j∧nv T L s oj∧TRun P E ops N H lo Stp Fin n' (l.setIfInBounds j true) L:=by
 induction h with
 |done h1 h2=>intro hcl j oj hj hoj hal;exact hFin _ _ _ _ _ h2 hcl hj h1 hoj hal
 |stop h1 h2=>intro _ j oj hj;rw[h1]at hj;cases hj
 | @step n l L L1 i oi di si h1 h0 h0' h2 h3 h4 h5 h6 hrf h7 h8 ih=>
  intro hcl j oj hj hoj hal
  by_cases hji:j=i
  ·exfalso
   subst hji
   unfold dA at h0'
   unfold dM at hal
   rw[hoj]at h0' hal
   dsimp only at h0' hal
   rw[h0']at hal
   cases hal
  ·obtain⟨n',s,e1,e2,e3,g5,g8⟩:=ih (hcl.set h1) (arZ hj hji) hoj hal
   have hjun:=(arE.1 hj).1
   have hap:=ar3 h2 h5 j oj hoj hji hjun (dH h1 hj hoj)
   obtain⟨a1,a2,a3⟩:=asS hap
   have b1:=a1 di h3
   refine⟨n,s,rfl,e2,e3,?_,?_⟩
   ·obtain⟨t,x,v,sv,y,q1,q2,q3,q4,q5,q6⟩:=g5
    have hop:∀{z:Operand} {sz:SV},(∀u,z=.tmp u→u∈oj.looksAt ops)→opS L1 z=some sz→opS L z=some sz:=by
     intro z sz hz he
     cases z with
     |tmp u=>
      simp only[opS]at he ⊢
      rw[h7 u,aqQ (fun e=>b1 (by rw[←e];exact hz u rfl))]at he
      exact he
     |_=>exact he
    refine⟨t,x,v,sv,y,q1,q2,q3,hop (fun u hu=>?_) q4,hop (fun u hu=>?_) q5,q6⟩
    ·unfold Oper.looksAt;rw[q1,hu];simp[Op.operands]
    ·unfold Oper.looksAt;rw[q1,hu];simp[Op.operands]
   ·rw[e1]
    refine .step (j:=i) (L':=L1) (arZ h1 (arU hji)) h0 h0' h2 h3 h4 (jZ h2 hjun h5) h6 hrf h7 ?_ (s:=si)
    rw[aro _ _ hji]
    exact g8
theorem ow{f:Nat→Bool}{H Y:List Item}:∀{ss:List AlS},(∀s∈ss,H.length≤s.j)→∃X,cq f ss (H++Y)=H++X
 |[],_=>⟨Y,rfl⟩
 |s::r,h=>by
  obtain⟨X,hX⟩:=ow (f:=f) (H:=H) (Y:=Y) (ss:=r) fun s hs=>h s (by simp[hs])
  simp only[cq]
  rw[hX]
  split
  ·unfold stP
   split
   ·rename_i bt cells hb
    rw[atg,aqQ (by have:=h s (by simp);omega)]
    exact⟨_,rfl⟩
   ·exact⟨X,rfl⟩
  ·exact⟨X,rfl⟩
theorem FR.eqv{Z:Nat→Prop}{n:Nat}{L M:SL}{H:List Item}{G:List Value}{w:World}{a:Act}(h:FR Z n L H G w a)(he:∀t,aV L t=aV M t):FR Z n M H G w a:=
 ⟨h.defers,h.size,fun t s hs=>h.slot t s (by rw[he t];exact hs)⟩
theorem mf{Q:Exit→Act→World→Prop}{S0:World→Prop}:∀(n:Nat) (l:Array Bool) (a:Act) (w:World),wpG P ops Q S0 n l a w→wpG P ops Q (fun _=>True) n l a w
 |0,_,_,_,h=>h
 |n+1,_,_,_,h=>⟨h.1,fun i hi=>wpOp_mono (fun _ _ h'=>⟨.inr trivial,mf n _ _ _ h'.2⟩) (h.2 i hi)⟩
theorem TRun.sound{Z:Nat→Prop}{w0:World}{fl:Nat}{Q:Exit→Act→World→Prop}{X:List Item→List Value→World→Prop}{la:List AlA}{ss:List AlS}{S0:World→Prop}(hS0:∀w w',S0 w→Old w w'→S0 w')(hSs:ss≠[]→∀w,S0 w)(hT:dU P T=true)(hE:i9 P E)(hI:inv w0)(hsel:∀(j:Nat) (o:Oper) cs b,ops[j]?=some o→o.op≠.select cs b)(hPQ:∀c a d v w,Q (.panic c) (Act.put a d v) w→Q (.panic c) a w)
  (hFin:∀n l L j oj,Fin n l L→j∈Region.ready .any ops l→ed E ops l=true→ops[j]?=some oj→bz oj=true→∃n' r a L',n=n'+1∧la[r]?=some a∧a.i=j∧oj.dst=some a.d∧a.d<N∧(∃x,oj.op=.alloc a.t∧c8 T a.t=some x∧x.z=true∧(∀p q,x.ty≠.pair p q)∧a.cs=x.ty.zsplit)∧(∀t,aV L' t=if t=a.d then some (.box (H.length+r) 0)else aV L t)∧TRun P E ops N H lo Stp Fin n' (l.setIfInBounds j true) L')
  (hFinS:lo=true→∀n l L j oj,Fin n l L→Clo ops l→j∈Region.ready .any ops l→ed E ops l=true→ops[j]?=some oj→dM E ops j=true→∃n' s,n=n'+1∧s∈ss∧s.i=j∧nv T L s oj∧TRun P E ops N H lo Stp Fin n' (l.setIfInBounds j true) L)
  (hp:PlanOk T ops N H la ss) (hnew:∀s∈ss,H.length≤s.j) (hlow:kG H.length H) (hfl:fl≤H.length)
  (hX:∀H G w H' G' w',X H G w→Ev Z fl H G w H' G' w'→X H' G' w') (hQ:∀n l L G w a,Fin n l L∨(Stp n l L∧Region.ready .any ops l=[])→S0 w→Clo ops l→l.size=ops.size→wk H.length la (dn l) L→SR Z w0 (cq (dn l) ss (H++alX (dn l) la)) G w→FR Z N L (cq (dn l) ss (H++alX (dn l) la)) G w a→X (cq (dn l) ss (H++alX (dn l) la)) G w→wpG P ops Q S0 n l a w):
  ∀(n:Nat) (l:Array Bool) (L:SL),TRun P E ops N H lo Stp Fin n l L→Clo ops l→l.size=ops.size→wk H.length la (dn l) L→∀(G:List Value) (w:World) (a:Act),SR Z w0 (cq (dn l) ss (H++alX (dn l) la)) G w→FR Z N L (cq (dn l) ss (H++alX (dn l) la)) G w a→X (cq (dn l) ss (H++alX (dn l) la)) G w→S0 w→wpG P ops Q S0 n l a w:=by
 have lowS:∀{l:Array Bool} {L L':SL} {j d:Nat} {s:SV},wk H.length la (dn l) L→s.refsT H.length=true→(∀t,aV L' t=if t=d then some s else aV L t)→wk H.length la (dn (l.setIfInBounds j true)) L':=by
  intro l L L' j d s hL hs hL' t u hu
  rw[hL' t]at hu
  split at hu
  ·injection hu with hu
   subst hu
   exact .inl hs
  ·rcases hL t u hu with h|⟨r,a,h1,h2,h3⟩
   ·exact .inl h
   ·refine .inr ⟨r,a,h1,?_,h3⟩
    rw[gF]
    split
    ·rfl
    ·exact h2
 intro n
 induction n with
 |zero=>
  intro l L h hcl hsz hL G w a hr hf hx hs0
  cases h with
  |done h1 h2=>exact hQ 0 l L G w a (.inl h2) hs0 hcl hsz hL hr hf hx
  |stop h1 h2=>exact hQ 0 l L G w a (.inr ⟨h2,h1⟩) hs0 hcl hsz hL hr hf hx
 |succ n ih=>
  intro l L h hcl hsz hL G w a hr hf hx hs0
  have h':=h
  cases h with
  |done h1 h2=>exact hQ _ l L G w a (.inl h2) hs0 hcl hsz hL hr hf hx
  |stop h1 h2=>exact hQ _ l L G w a (.inr ⟨h2,h1⟩) hs0 hcl hsz hL hr hf hx
  | @step _ _ _ L1 i oi di si h1 h0 h0' h2 h3 h4 h5 h6 hrf h7 h8=>
   have ht:ez E oi=true:=by
    unfold dA at h0'
    rw[h2]at h0'
    exact h0'
   have hnal:bz oi=false:=by
    cases hq:bz oi with
    |false=>rfl
    |true=>rw[gC hq]at ht;cases ht
   rw[←or_assoc,or_right_comm]at h0
   rcases h0 with h0|h0
   rotate_left
   ·have hns:db oi.op=false:=nw ht
    obtain⟨Y,hY⟩:=ow (f:=dn l) (Y:=alX (dn l) la) hnew
    have e1:=hp.setT (l:=l) h2 hnal h3
    obtain⟨v,y1,y2⟩:=h0 Y Z w0 N G w a (by rw[←hY];exact hr) (by rw[←hY];exact⟨hf.defers,hf.size,fun t s' hs=>hf.slot t s' (fD hs)⟩)
    rw[←hY]at y2
    refine AW h2 hsel (fun c a w hq=>hPQ c a _ _ w hq) hns n l a w (ar3 h2 h5) h1 y1 (.inr hs0) (ih _ _ h8 (hcl.set h1) (by simpa using hsz) (lowS hL hrf h7) G w _ (by rw[e1];exact hr) ?_ (by rw[e1];exact hx) hs0)
    have hf1:=hf.put (d:=some di) (L':=(di,si)::kN L di) (s:=si) (by
     simp only[dm]
     rw[aqU h4]) y2
    rw[←h3]at hf1
    rw[e1]
    exact hf1.eqv fun t=>by rw[cj,h7 t]
   refine pQ rfl (fun e=>by rw[e]at h1;cases h1) fun j hj=>?_
   obtain⟨hjun,oj,hoj,_⟩:=arE.1 hj
   cases hnl:dM E ops j with
   |true=>
    have hlo:lo=true:=h0.resolve_left fun h0=>by
     rw[ur hcl h0 (arE.1 h1).1 hj]at hnl
     cases hnl
    obtain⟨n',s,e1,e2,e3,g5,g8⟩:=h'.store (T:=T) (hFinS hlo) hcl hj hoj hnl
    have e1:n=n':=by omega
    subst e1 e3
    obtain⟨_,oj',hoj',hdep⟩:=arE.1 hj
    rw[hoj]at hoj'
    injection hoj' with hoj'
    subst hoj'
    obtain⟨bt,c',b1,b2⟩:=hp.box hcl e2 fun os hos e he hb=>by rw[hoj]at hos;injection hos with hos;subst hos;exact hdep e he hb
    refine nX (fl:=fl) hT hE hI hoj g5 b1 b2 hr hf hx hX fun G' w' k2 k3 k5=>⟨.inr (hSs (fun e=>by rw[e]at e2;cases e2) w'),?_⟩
    rw[←hp.setS e2 hjun]at k2 k3 k5
    refine ih _ _ g8 (hcl.set hj) (by simpa using hsz) (fun t u hu=>?_) G' w' _ k2 k3 k5 (hSs (fun e=>by rw[e]at e2;cases e2) w')
    rcases hL t u hu with h|⟨r,b,q1,q2,q3⟩
    ·exact .inl h
    ·refine .inr ⟨r,b,q1,?_,q3⟩
     rw[gF]
     split
     ·rfl
     ·exact q2
   |false=>
   cases hal:bz oj with
   |false=>
    have hst:dA E ops j=true:=by
     unfold dM at hnl
     unfold dA
     rw[hoj]at hnl ⊢
     simpa [hal]using hnl
    obtain⟨n',o,d,s,L',e1,g2,g3,g4,g5,grf,g6,g7⟩:=h'.any hcl hj hst
    have e1:n=n':=by omega
    subst e1
    have e1:=hp.setT (l:=l) g2 (by rw[hoj]at g2;injection g2 with g2;subst g2;exact hal) g3
    obtain⟨Y,hY⟩:=ow (f:=dn l) (Y:=alX (dn l) la) hnew
    rw[hY]at hr hf hx
    refine g5 Y Z w0 N G w a Q _ hI hr ⟨hf.defers,hf.size,fun t s' hs=>hf.slot t s' (fD hs)⟩ fun v G' w' k0 k1 k2 k3=>⟨.inr (hS0 _ _ hs0 k0),?_⟩
    rw[hY]at e1
    have hf1:FR Z N ((d,s)::kN L d) (H++Y) G' w' (a.put o.dst v):=by
     refine(hf.keep k2).put (d:=o.dst) (s:=s) ?_ k3
     rw[g3]
     simp only[dm]
     rw[aqU (show d+1≤N by omega)]
    refine ih _ _ g7 (hcl.set hj) (by simpa using hsz) (lowS hL grf g6) G' w' _ (by rw[e1];exact k1) (by rw[e1];exact hf1.eqv fun t=>by rw[cj,g6 t]) (by rw[e1];exact hX _ _ _ _ _ _ hx fun s v hs _=>k2 s v hs) (hS0 _ _ hs0 k0)
   |true=>
    obtain⟨n',r,x,L',e1,e2,e3,g3,g4,⟨y,y5,y6,y7,y8,y9⟩,g7,g8⟩:=h'.alloc (T:=T) hFin hcl hj hoj hal
    have e1:n=n':=by omega
    subst e1 e3
    obtain⟨hset,hgone⟩:=hp.setA hcl hsz e2 hjun
    refine nD (L':=L') hT hoj hal e2 g3 g4 y5 ⟨y,y6,y7,y8,y9⟩ hp.dis hjun hgone (hp.low hlow) hL hfl hr hf hx hX g7 fun v G' w' k0 k1 k2 k3=>⟨.inr (hS0 _ _ hs0 k0),?_⟩
    rw[←hset]at k1 k2 k3
    refine ih _ _ g8 (hcl.set hj) (by simpa using hsz) (fun t u hu=>?_) G' w' _ k1 k2 k3 (hS0 _ _ hs0 k0)
    rw[g7 t]at hu
    split at hu
    ·injection hu with hu
     exact .inr ⟨r,x,e2,by rw[gF,aqW rfl],hu.symm⟩
    ·rcases hL t u hu with h|⟨r',b,q1,q2,q3⟩
     ·exact .inl h
     ·refine .inr ⟨r',b,q1,?_,q3⟩
      rw[gF]
      split
      ·rfl
      ·exact q2
theorem CE{D:List Nat}:∀{rs:List Nat} {j:Nat},xB E ops D rs=some j→j∈rs∧∃o d,ops[j]?=some o∧ez E o=true∧o.dst=some d∧Region.free .any ops (mkL ops.size D) j=true∧(gz E ops j=true∨xo o=true∨(!(b9 E ops))=true)
 |[],_,h=>by simp[xB]at h
 |q::rs,j,h=>by
  simp only[xB]at h
  split at h<;>try (cases h;done)
  rename_i o ho
  split at h
  ·rename_i hb
   injection h with h
   subst h
   simp only[aqB]at hb
   obtain⟨d,hd⟩:=arn.1 hb.1.1.2
   simp only[asa]at hb
   exact⟨by simp,o,d,ho,hb.1.1.1,hd,hb.1.2,by rcases hb.2 with(h|h)|h;exact .inr (.inl h);exact .inl h;exact .inr (.inr h)⟩
  ·obtain⟨h1,h2⟩:=CE h
   exact⟨by simp[h1],h2⟩
end
section
variable {F:FT} {P:Program} {T:TT} {E:Env} {N:NT} {Fn:Nat→Cfg→Option (List RV)} {r:List RV}
def pV(P:Program)(F:FT)(T:TT)(E:Env)(N:NT)(Fn:Nat→Cfg→Option (List RV))(r:List RV)(c:Cfg)(i:Nat)(la:List AlA)(ss:List AlS)(m n:Nat)(l:Array Bool)(L:SL):Prop:=
 (∃D q,b9 E (aq (nth (am F c.f) i))=true∧(aq (nth (am F c.f) i)).toList.any bz=false∧la=[]∧ss=[]∧l=mkL (aq (nth (am F c.f) i)).size D∧n+D.length=(aq (nth (am F c.f) i)).size∧(∀j∈D,∀o,(aq (nth (am F c.f) i))[j]?=some o→db o.op=false)∧q<m∧go P F T E N Fn q {c with L:=L} (.drw i (!((aq (nth (am F c.f) i)).any fun o=>kX o.op)) false D)=some r)∨
 (∃D q L0 ss',alA T (ntm F c.f) (aq (nth (am F c.f) i)).toList 0=some la∧alS T E (aq (nth (am F c.f) i)) (mkL (aq (nth (am F c.f) i)).size D) la c.H.length (fc (fun _=>true) la c.H.length L0) (c.H++alX (fun _=>true) la) (aq (nth (am F c.f) i)).toList 0=some ss'∧FP (aq (nth (am F c.f) i)) (mkL (aq (nth (am F c.f) i)).size D) (la.map (·.i)++ss'.map (·.i))=true∧FZ E (aq (nth (am F c.f) i)) (mkL (aq (nth (am F c.f) i)).size D) (la.map (·.i)++ss'.map (·.i))=true∧
  ((b9 E (aq (nth (am F c.f) i))=true∧ss=[]∧∀s∈ss',l.getD s.i true=false)∨(b9 E (aq (nth (am F c.f) i))=false∧ss=ss'∧(∀s∈ss',c.H.length≤s.j)∧∀k,k<(aq (nth (am F c.f) i)).size→(mkL (aq (nth (am F c.f) i)).size D).getD k true=true∨dA E (aq (nth (am F c.f) i)) k=false))∧
  ((la.map (·.i)++ss'.map (·.i))++D).length≤(aq (nth (am F c.f) i)).size∧q<m∧go P F T E N Fn q {c with L:=fc (fun _=>true) la c.H.length L0,H:=cq (fun _=>true) ss' (c.H++alX (fun _=>true) la)} (.drw i true true ((la.map (·.i)++ss'.map (·.i))++D))=some r∧
  cu l≤n∧(∀k,(mkL (aq (nth (am F c.f) i)).size D).getD k false=true→l.getD k false=true)∧(∀k,l.getD k true=true→(mkL (aq (nth (am F c.f) i)).size D).getD k true=true∨k∈la.map (·.i)++ss'.map (·.i))∧
  (∀t s,aV L0 t=some s→s.refsT c.H.length=true)∧∀t,aV L t=aV (fc (dn l) la c.H.length L0) t)∨
 (∃D q j o,b9 E (aq (nth (am F c.f) i))=true∧(aq (nth (am F c.f) i)).toList.any bz=false∧la=[]∧ss=[]∧l=mkL (aq (nth (am F c.f) i)).size D∧n+D.length=(aq (nth (am F c.f) i)).size∧D.length+1≤(aq (nth (am F c.f) i)).size∧Region.ready .any (aq (nth (am F c.f) i)) (mkL (aq (nth (am F c.f) i)).size D)=[j]∧(aq (nth (am F c.f) i))[j]?=some o∧q<m∧
  ck (aq (nth (am F c.f) i)) L o (fun L=>match Ck F E L o.op with
   |some (g,ss)=>go P F T E N Fn q {f:=g,K:=[],L:=pO 0 ss,H:=c.H,fl:=c.H.length,fs:={f:=c.f,K:=c.K,i:=i,k:=j,L:=wh N c.f i L,fl:=c.fl,d:=some (j::D)}::c.fs} (.node 0)
   |none=>none) (fun L=>match dm (ntm F c.f) L o.dst .undef with
   |some L'=>go P F T E N Fn q {c with L:=L'} (.tal i (j::D))
   |none=>none)=some r)
theorem TRun.mono{P:Program}{ops:Array Oper}{N:Nat}{H:List Item}{lo:Bool}{Stp Stp' Fin Fin':Nat→Array Bool→SL→Prop}(hS:∀n l L,Stp n l L→Stp' n l L)(hF:∀n l L,Fin n l L→Fin' n l L){n:Nat}{l:Array Bool}{L:SL}(h:TRun P E ops N H lo Stp Fin n l L):TRun P E ops N H lo Stp' Fin' n l L:=by
 induction h with
 |done h1 h2=>exact .done h1 (hF _ _ _ h2)
 |stop h1 h2=>exact .stop h1 (hS _ _ _ h2)
 |step h1 h0 h0' h2 h3 h4 h5 h6 hrf h7 h8 ih=>exact .step h1 h0 h0' h2 h3 h4 h5 h6 hrf h7 ih
theorem JP{N:Nat}{ops:Array Oper}{l:Array Bool}{L L1:SL}{H H1:List Item}{C:List Nat}(h:VD T E N ops l L H=some (L1,H1,C)):∃la ss,alA T N ops.toList 0=some la∧alS T E ops l la H.length (fc (fun _=>true) la H.length L) (H++alX (fun _=>true) la) ops.toList 0=some ss∧FP ops l (la.map (·.i)++ss.map (·.i))=true∧FZ E ops l (la.map (·.i)++ss.map (·.i))=true∧
  (b9 E ops=true∨(b9 E ops=false∧(∀s∈ss,H.length≤s.j)∧∀k,k<ops.size→l.getD k true=true∨dA E ops k=false))∧C=la.map (·.i)++ss.map (·.i)∧L1=fc (fun _=>true) la H.length L∧H1=cq (fun _=>true) ss (H++alX (fun _=>true) la):=by
 unfold VD at h
 split at h<;>try (cases h;done)
 rename_i la hla
 split at h<;>try (cases h;done)
 rename_i ss hss
 split at h<;>try (cases h;done)
 rename_i hd
 injection h with h
 injection h with h1 h2
 injection h2 with h2 h3
 simp only[aqB]at hd
 refine⟨la,ss,hla,hss,hd.1.1,hd.1.2,?_,h3.symm,h1.symm,h2.symm⟩
 cases hq:b9 E ops with
 |true=>exact .inl rfl
 |false=>
  have hd2:=hd.2
  rw[hq,Bool.false_or,aqB]at hd2
  refine .inr ⟨rfl,fun s hs=>aqD (aqO.1 hd2.1 s hs),fun k hk=>?_⟩
  have:=aqO.1 hd2.2 k (atr.2 hk)
  simpa using this
theorem vN{i:Nat}{c:Cfg}{la:List AlA}{ss:List AlS}{m:Nat}(n:Nat)(l:Array Bool)(L:SL)(j:Nat)(oj:Oper)(h:pV P F T E N Fn r c i la ss m n l L)(hj:j∈Region.ready .any (aq (nth (am F c.f) i)) l)(ho:ed E (aq (nth (am F c.f) i)) l=true)
  (hoj:(aq (nth (am F c.f) i))[j]?=some oj) (hal:bz oj=true):∃n' r' a L',n=n'+1∧la[r']?=some a∧a.i=j∧oj.dst=some a.d∧a.d<ntm F c.f∧(∃x,oj.op=.alloc a.t∧c8 T a.t=some x∧x.z=true∧(∀p q,x.ty≠.pair p q)∧a.cs=x.ty.zsplit)∧(∀t,aV L' t=if t=a.d then some (.box (c.H.length+r') 0)else aV L t)∧TRun P E (aq (nth (am F c.f) i)) (ntm F c.f) c.H (!(b9 E (aq (nth (am F c.f) i)))) (fun _ _ _=>False) (pV P F T E N Fn r c i la ss m) n' (l.setIfInBounds j true) L':=by
 rcases h with⟨D,q,_,h1,_⟩|⟨D,q,L0,ss',k1,k2,k3,k4,k5,k6,h2,h3,h4,h5,h6,h6',h7⟩|⟨D,q,j',o',_,h1,_⟩
 ·exfalso
  have:=List.any_eq_false.1 h1 oj (as0.2 (Array.mem_of_getElem? hoj))
  exact this hal
 rotate_left
 ·exfalso
  have:=List.any_eq_false.1 h1 oj (as0.2 (Array.mem_of_getElem? hoj))
  exact this hal
 ·have hp:=rY k1 k2
  obtain⟨r',x,g1,g2,g3,g4,y,g5⟩:=GE k1 hoj hal
  have hjun:=(arE.1 hj).1
  have hcu:=wz hjun
  refine⟨n-1,r',x,fc (dn (l.setIfInBounds j true)) la c.H.length L0,by omega,g1,g2,g3,g4,⟨y,g5⟩,fun t=>?_,.done (xL ho j ?_) (.inr (.inl ⟨D,q,L0,ss',k1,k2,k3,k4,?_,k6,h2,h3,by omega,fun k hk=>atf (h5 k hk),fun k hk=>?_,h6',fun t=>rfl⟩))⟩
  ·rw[zO (fun k=>by rw[gF,g2]) hp.dis g1 t,h7 t]
  ·unfold dM
   rw[hoj]
   dsimp only
   rw[hal,Bool.not_true,Bool.and_false]
  ·rcases k5 with⟨e1,e2,e3⟩|e
   ·refine .inl ⟨e1,e2,fun s hs=>?_⟩
    obtain⟨⟨o',ho',hal',_⟩,_⟩:=hp.ss1 s hs
    have hne:j≠s.i:=fun e=>by
     subst e
     rw[hoj]at ho'
     injection ho' with ho'
     subst ho'
     rw[hal]at hal'
     cases hal'
    rw[ar7 true hne]
    exact e3 s hs
   ·exact .inr e
  ·have:=gF l j k
   rw[show dn (l.setIfInBounds j true) k=true from hk]at this
   by_cases e:k=j
   ·subst e
    exact .inr (asu _ (atb.2 ⟨x,arp g1,g2⟩))
   ·rw[aqQ e]at this;exact h6 k this.symm
theorem Eh{i:Nat}{c:Cfg}{la:List AlA}{ss:List AlS}{m:Nat}(hlo:(!(b9 E (aq (nth (am F c.f) i))))=true)(n:Nat)(l:Array Bool)(L:SL)(j:Nat)(oj:Oper)(h:pV P F T E N Fn r c i la ss m n l L)(hcl:Clo (aq (nth (am F c.f) i)) l)(hj:j∈Region.ready .any (aq (nth (am F c.f) i)) l)(_ho:ed E (aq (nth (am F c.f) i)) l=true)
  (hoj:(aq (nth (am F c.f) i))[j]?=some oj) (hal:dM E (aq (nth (am F c.f) i)) j=true):∃n' s,n=n'+1∧s∈ss∧s.i=j∧nv T L s oj∧TRun P E (aq (nth (am F c.f) i)) (ntm F c.f) c.H (!(b9 E (aq (nth (am F c.f) i)))) (fun _ _ _=>False) (pV P F T E N Fn r c i la ss m) n' (l.setIfInBounds j true) L:=by
 rcases h with⟨D,q,h0,h1,_⟩|⟨D,q,L0,ss',k1,k2,k3,k4,k5,k6,h2,h3,h4,h5,h6,h6',h7⟩|⟨D,q,j',o',h0,h1,_⟩
 ·rw[h0]at hlo;cases hlo
 rotate_left
 ·rw[h0]at hlo;cases hlo
 ·rcases k5 with⟨e1,_⟩|⟨e1,e2,e3,e4⟩
  ·rw[e1]at hlo;cases hlo
  subst e2
  have hp:=rY k1 k2
  obtain⟨s1,s2,s3⟩:=jR k2
  obtain⟨hjun,oj',hoj',hdep⟩:=arE.1 hj
  rw[hoj]at hoj'
  injection hoj' with hoj'
  subst hoj'
  have hcu:=wz hjun
  have hlate:=hal
  unfold dM at hal
  rw[hoj]at hal
  simp only[aqB,arC]at hal
  have hlt:=(aqI.1 hoj).1
  have hu0:(mkL (aq (nth (am F c.f) i)).size D).getD j true=false:=by
   cases hq:(mkL (aq (nth (am F c.f) i)).size D).getD j true with
   |false=>rfl
   |true=>
    have:=h5 j (by rw[fp (by rw[ef];exact hlt)];exact hq)
    rcases aqT j l.size with h'|h'
    ·rw[fp h',hjun]at this;cases this
    ·simp[aq8 h']at hjun
  obtain⟨s,hsm,hsi⟩:=s1 j oj (by rw[aru];exact hoj) (by rw[aq9];exact hu0) hal.2 hal.1
  have hsi:s.i=j:=by omega
  subst hsi
  obtain⟨_,_,o,ho',hno,hok⟩:=s2 s hsm
  rw[ata,aru,hoj]at ho'
  injection ho' with ho'
  subst ho'
  have hst:=BO hok hcl fun os hos e he hb=>by rw[hoj]at hos;injection hos with hos;subst hos;exact hdep e he hb
  have hst':nv T L s oj:=by
   obtain⟨t,x,v,sv,y,q1,q2,q3,q4,q5,q6⟩:=hst
   have hop:∀{z:Operand} {sz:SV},opS (fc (dn l) la c.H.length L0) z=some sz→opS L z=some sz:=by
    intro z sz he
    cases z with
    |tmp u=>simp only[opS]at he ⊢;rw[h7 u];exact he
    |_=>exact he
   exact⟨t,x,v,sv,y,q1,q2,q3,hop q4,hop q5,q6⟩
  refine⟨n-1,s,by omega,hsm,rfl,hst',.done ?_ (.inr (.inl ⟨D,q,L0,ss,k1,k2,k3,k4,.inr ⟨e1,rfl,e3,e4⟩,k6,h2,h3,by omega,fun k hk=>atf (h5 k hk),fun k hk=>?_,h6',fun t=>?_⟩))⟩
  ·refine aqO.2 fun k hk=>?_
   have hk:=atr.1 hk
   rcases e4 k hk with h|h
   ·have:=atf (i:=s.i) (h5 k (by rw[fp (by rw[ef];exact hk)];exact h))
    rcases aqT k (l.setIfInBounds s.i true).size with h'|h'
    ·rw[fp h']at this;rw[this];rfl
    ·rw[show(l.setIfInBounds s.i true).getD k true=true by simp[aq8 h']];rfl
   ·rw[h];simp
  ·have:=gF l s.i k
   rw[show dn (l.setIfInBounds s.i true) k=true from hk]at this
   by_cases e:k=s.i
   ·subst e
    exact .inr (asn _ (atb.2 ⟨s,hsm,rfl⟩))
   ·rw[aqQ e]at this;exact h6 k this.symm
  ·rw[h7 t]
   exact(f0 (fun x hx _=>(hp.same hoj hal.2).2 x hx) rfl).symm
theorem B5{f:Nat→Bool}:∀{la:List AlA} {k:Nat} {L:SL},(∀a∈la,f a.i=false)→fc f la k L=L
 |[],_,_,_=>rfl
 |a::la,k,L,h=>by
  simp only[fc]
  rw[h a (by simp)]
  exact B5 fun b hb=>h b (by simp[hb])
theorem tk{n s:Nat}:∀{D:List Nat},s∈D→(mkL n D).getD s true=true
 |[],h=>by cases h
 |j::D,h=>by
  rw[mkL]
  by_cases e:j=s
  ·subst e;exact gj _ _
  ·rw[ar7 true e]
   exact tk ((arc.1 h).resolve_left (fun h=>e h.symm))
theorem D8(n:Nat):∀D:List Nat,n≤cu (mkL n D)+D.length
 |[]=>by rw[D2];exact aqE _
 |j::D=>by
  have ih:=D8 n D
  rw[mkL,aq1]
  cases h:(mkL n D).getD j true with
  |false=>have:=wz h;omega
  |true=>
   have e:(mkL n D).setIfInBounds j true=mkL n D:=by
    refine Array.ext_getElem? fun k=>?_
    by_cases e:j=k
    ·subst e
     rcases aqT j (mkL n D).size with h2|h2
     ·rw[Array.getElem?_setIfInBounds_self_of_lt h2]
      rw[arf,asq h2]at h
      rw[asq h2]
      exact congrArg some h.symm
     ·rw[aq8 h2,aq8 (by simpa using h2)]
    ·rw[Array.getElem?_setIfInBounds_ne e]
   rw[e];omega
theorem te{P:Program}{ops:Array Oper}{Q:Exit→Act→World→Prop}{S0:World→Prop}:∀(m n:Nat) (l:Array Bool) (a:Act) (w:World),m≤n→wpG P ops Q S0 m l a w→wpG P ops Q S0 n l a w
 |0,n,l,a,w,_,h=>uS h.1 h.2 n
 |m+1,0,_,_,_,hle,_=>by omega
 |m+1,n+1,l,a,w,hle,h=>⟨h.1,fun i hi=>wpOp_mono (fun a' w' h'=>⟨h'.1,te m n _ a' w' (by omega) h'.2⟩) (h.2 i hi)⟩
theorem dN{n s:Nat}:∀{D:List Nat},s∉D→s<n→(mkL n D).getD s true=false
 |[],_,h=>by simp[mkL,h]
 |j::D,hn,h=>by
  have h1:s≠j:=fun e=>hn (by simp[e])
  rw[mkL,ar7 true (arU h1)]
  exact dN (fun hm=>hn (by simp[hm])) h
theorem GQ(hT:dU P T=true)(hE:i9 P E){i:Nat}{c:Cfg}:∀(m:Nat) (D:List Nat) (L:SL),go P F T E N Fn m {c with L:=L} (.tam i D)=some r→
  cu (mkL (aq (nth (am F c.f) i)).size D)+D.length=(aq (nth (am F c.f) i)).size→(∀j∈D,dA E (aq (nth (am F c.f) i)) j=true)→(∀t s,aV L t=some s→s.refsT c.H.length=true)→Clo (aq (nth (am F c.f) i)) (mkL (aq (nth (am F c.f) i)).size D)→∃la ss,PlanOk T (aq (nth (am F c.f) i)) (ntm F c.f) c.H la ss∧(∀s∈ss,c.H.length≤s.j)∧TRun P E (aq (nth (am F c.f) i)) (ntm F c.f) c.H (!(b9 E (aq (nth (am F c.f) i)))) (fun _ _ _=>False) (pV P F T E N Fn r c i la ss m) ((aq (nth (am F c.f) i)).size-D.length) (mkL (aq (nth (am F c.f) i)).size D) L:=by
 intro m
 induction m with
 |zero=>intro D L h;simp[go]at h
 |succ m ih=>
  intro D L h hlen hD hlowL hcl
  have nostore:∀j∈D,∀o,(aq (nth (am F c.f) i))[j]?=some o→db o.op=false∧bz o=false:=fun j hj o ho=>by
   have:=hD j hj
   unfold dA at this
   rw[ho]at this
   dsimp only at this
   refine⟨nw this,?_⟩
   cases hq:bz o with
   |false=>rfl
   |true=>rw[gC hq]at this;cases this
  have next:∀{j:Nat} {o:Oper} {d:Nat} {L1 L2:SL} {s:SV},j∈Region.ready .any (aq (nth (am F c.f) i)) (mkL (aq (nth (am F c.f) i)).size D)→(aq (nth (am F c.f) i))[j]?=some o→o.dst=some d→Region.free .any (aq (nth (am F c.f) i)) (mkL (aq (nth (am F c.f) i)).size D) j=true→(gz E (aq (nth (am F c.f) i)) j=true∨StepP P c.H (aq (nth (am F c.f) i)) (eM L (o.looksAt (aq (nth (am F c.f) i)))) o s∨(!(b9 E (aq (nth (am F c.f) i))))=true)→ez E o=true→D.length+1≤(aq (nth (am F c.f) i)).size→
    (∀t,aV L1 t=aV L t)→StepF P c.H (aq (nth (am F c.f) i)) (eM L (o.looksAt (aq (nth (am F c.f) i)))) o j s→s.refsT c.H.length=true→dm (ntm F c.f) L1 o.dst s=some L2→go P F T E N Fn m {c with L:=L2} (.tam i (j::D))=some r→∃la ss,PlanOk T (aq (nth (am F c.f) i)) (ntm F c.f) c.H la ss∧(∀s∈ss,c.H.length≤s.j)∧TRun P E (aq (nth (am F c.f) i)) (ntm F c.f) c.H (!(b9 E (aq (nth (am F c.f) i)))) (fun _ _ _=>False) (pV P F T E N Fn r c i la ss (m+1)) ((aq (nth (am F c.f) i)).size-D.length) (mkL (aq (nth (am F c.f) i)).size D) L:=by
   intro j o d L1 L2 s h1 h2 h3 h4 h4' h4'' h5 h6 h7 hrf h8 h9
   have htj:dA E (aq (nth (am F c.f) i)) j=true:=by unfold dA;rw[h2];exact h4''
   have hcu:=wz (arE.1 h1).1
   rw[h3]at h8
   simp only[dm]at h8
   split at h8<;>try (cases h8;done)
   rename_i hd
   have hd:=aqD hd
   injection h8 with h8
   have hlk:∀t,aV L2 t=if t=d then some s else aV L t:=fun t=>by rw[←h8,cj,h6 t]
   obtain⟨la,ss,hp,hnew,h10⟩:=ih (j::D) L2 h9 (by
    rw[aq1]
    show cu ((mkL _ D).setIfInBounds j true)+_=_
    omega) (fun k hk=>by
    rcases arc.1 hk with e|hk
    ·subst e;exact htj
    ·exact hD k hk) (fun t u hu=>by
    rw[hlk t]at hu
    split at hu
    ·injection hu with hu;subst hu;exact hrf
    ·exact hlowL t u hu) (hcl.set h1)
   have h11:=h10.mono (Fin':=pV P F T E N Fn r c i la ss (m+1)) (fun _ _ _ h=>h) (fun n l L hf=>by
    rcases hf with⟨D',q,e1,e2,e3,e4,e5,e6,e7,e8,e9⟩|⟨D',q,L0,ss',e1,e2,e3,e4,e5,e6,e7,e8⟩|⟨D',q,j',o',e1,e2,e3,e4,e5,e6,e7,e8,e9,e10,e11⟩
    ·exact .inl ⟨D',q,e1,e2,e3,e4,e5,e6,e7,by omega,e9⟩
    ·exact .inr (.inl ⟨D',q,L0,ss',e1,e2,e3,e4,e5,e6,by omega,e8⟩)
    ·exact .inr (.inr ⟨D',q,j',o',e1,e2,e3,e4,e5,e6,e7,e8,e9,by omega,e11⟩))
   refine⟨la,ss,hp,hnew,?_⟩
   rw[show(aq (nth (am F c.f) i)).size-D.length=((aq (nth (am F c.f) i)).size-(j::D).length)+1 by simp;omega]
   exact .step (L':=L2) h1 h4' htj h2 h3 (by omega) h4 h7 hrf hlk h11
  simp only[go]at h
  split at h
  ·rename_i hall
   have drw:((aq (nth (am F c.f) i)).toList.any bz||!(b9 E (aq (nth (am F c.f) i))))=false→go P F T E N Fn m {c with L:=L} (.drw i (!((aq (nth (am F c.f) i)).any fun o=>kX o.op)) false D)=some r→∃la ss,PlanOk T (aq (nth (am F c.f) i)) (ntm F c.f) c.H la ss∧(∀s∈ss,c.H.length≤s.j)∧TRun P E (aq (nth (am F c.f) i)) (ntm F c.f) c.H (!(b9 E (aq (nth (am F c.f) i)))) (fun _ _ _=>False) (pV P F T E N Fn r c i la ss (m+1)) ((aq (nth (am F c.f) i)).size-D.length) (mkL (aq (nth (am F c.f) i)).size D) L:=fun hna h=>by
    simp only[as2,Bool.not_eq_false']at hna
    exact⟨[],[],⟨List.Pairwise.nil,fun a ha=>(by cases ha),fun s hs=>(by cases hs),List.Pairwise.nil⟩,fun s hs=>(by cases hs),.done hall (.inl ⟨D,m,hna.2,hna.1,rfl,rfl,rfl,by omega,fun j hj o ho=>(nostore j hj o ho).1,by omega,h⟩)⟩
   split at h
   ·rename_i j hcf
    split at h<;>try (cases h;done)
    rename_i o ho
    unfold Pv at hcf
    split at hcf<;>try (cases hcf;done)
    rename_i j' hst hrd
    split at hcf<;>try (cases hcf;done)
    rename_i o' ho'
    split at hcf<;>try (cases hcf;done)
    rename_i x hq hin hble
    injection hcf with hcf
    subst hcf
    simp only[aqB,arC]at hst
    exact⟨[],[],⟨List.Pairwise.nil,fun a ha=>(by cases ha),fun s hs=>(by cases hs),List.Pairwise.nil⟩,fun s hs=>(by cases hs),.done hall (.inr (.inr ⟨D,m,j',o,hst.1,hst.2,rfl,rfl,rfl,by have:=aqD hble;omega,aqD hble,hrd,ho,by omega,h⟩))⟩
   split at h
   ·split at h
    ·rename_i L1 H1 C hals
     split at h<;>try (cases h;done)
     rename_i hble
     obtain⟨la,ss,k1,k2,k3,k4,k5,k6,k7,k8⟩:=JP hals
     subst k6 k7 k8
     have hp:=rY k1 k2
     have fin:∀ss0,((b9 E (aq (nth (am F c.f) i))=true∧ss0=[]∧∀s∈ss,(mkL (aq (nth (am F c.f) i)).size D).getD s.i true=false)∨(b9 E (aq (nth (am F c.f) i))=false∧ss0=ss∧(∀s∈ss,c.H.length≤s.j)∧∀k,k<(aq (nth (am F c.f) i)).size→(mkL (aq (nth (am F c.f) i)).size D).getD k true=true∨dA E (aq (nth (am F c.f) i)) k=false))→pV P F T E N Fn r c i la ss0 (m+1) ((aq (nth (am F c.f) i)).size-D.length) (mkL (aq (nth (am F c.f) i)).size D) L:=fun ss0 hs0=>.inr (.inl ⟨D,m,L,ss,k1,k2,k3,k4,hs0,aqD hble,by omega,h,by omega,fun _ h=>h,fun _ h=>.inl h,hlowL,fun t=>by
      rw[B5 fun a ha=>?_]
      obtain⟨⟨o,ho,hal⟩,_⟩:=hp.la2 a ha
      exact dN (fun hm=>by rw[(nostore _ hm o ho).2]at hal;cases hal) (aqI.1 ho).1⟩)
     rcases k5 with k5|⟨k5,k6,k7⟩
     ·refine⟨la,[],⟨hp.dis,hp.la2,fun s hs=>(by cases hs),List.Pairwise.nil⟩,fun s hs=>(by cases hs),.done hall (fin [] (.inl ⟨k5,rfl,fun s hs=>?_⟩))⟩
      obtain⟨_,hu,_⟩:=(jR k2).2.1 s hs
      exact hu
     ·exact⟨la,ss,hp,k6,.done hall (fin ss (.inr ⟨k5,rfl,k6,k7⟩))⟩
    ·split at h<;>try (cases h;done)
     exact drw (by assumption) h
   ·split at h<;>try (cases h;done)
    exact drw (by assumption) h
  ·rename_i hall
   split at h<;>try (cases h;done)
   rename_i j hb hj
   have hb:=aqD hb
   obtain⟨g1,o',d,g2,gt,g3,g4,g5⟩:=CE hj
   split at h<;>try (cases h;done)
   rename_i o ho
   rw[ho]at g2
   injection g2 with g2
   subst g2
   rcases lE h with⟨L1,k1,k2,k3⟩|⟨L1,k1,k2,k3⟩
   ·rw[dk (M:=L) fun t _=>k1 t]at k2
    obtain⟨s,q1,q2,q3⟩:=zL hT hE ho k3 k2
    split at q1<;>try (cases q1;done)
    rename_i L2 hp hrf
    exact next g1 ho g3 g4 (g5.imp id (Or.imp q3 id)) gt hb k1 q2 hrf hp q1
   ·split at k2<;>try (cases k2;done)
    rename_i L2 hp
    exact next g1 ho g3 g4 (.inr (.inl (D0 k3))) gt hb k1 (nG ho k3) rfl hp k2
theorem C1{ops:Array Oper}{D:List Nat}:∀{rs:List Nat} {j:Nat},wG E ops D rs=some j→j∈rs∧∃o d,ops[j]?=some o∧ez E o=true∧o.dst=some d∧Region.free .any ops (mkL ops.size D) j=true
 |[],_,h=>by simp[wG]at h
 |q::rs,j,h=>by
  simp only[wG]at h
  split at h<;>try (cases h;done)
  rename_i o ho
  split at h
  ·rename_i hb
   injection h with h
   subst h
   simp only[aqB]at hb
   obtain⟨d,hd⟩:=arn.1 hb.1.2
   exact⟨by simp,o,d,ho,hb.1.1,hd,hb.2⟩
  ·obtain⟨h1,h2⟩:=C1 h
   exact⟨by simp[h1],h2⟩
theorem XR(hT:dU P T=true)(hE:i9 P E){i:Nat}{c:Cfg}:∀(m:Nat) (D:List Nat) (L:SL),go P F T E N Fn m {c with L:=L} (.tal i D)=some r→D.length≤(aq (nth (am F c.f) i)).size→
  TRun P E (aq (nth (am F c.f) i)) (ntm F c.f) c.H true (fun _ _ L=>∃q,q<m∧go P F T E N Fn q {c with L:=L} .nrm=some r) (fun _ _ _=>False) ((aq (nth (am F c.f) i)).size-D.length) (mkL (aq (nth (am F c.f) i)).size D) L:=by
 intro m
 induction m with
 |zero=>intro D L h;simp[go]at h
 |succ m ih=>
  intro D L h hlen
  have next:∀{j:Nat} {o:Oper} {d:Nat} {L1 L2:SL} {s:SV},j∈Region.ready .any (aq (nth (am F c.f) i)) (mkL (aq (nth (am F c.f) i)).size D)→(aq (nth (am F c.f) i))[j]?=some o→o.dst=some d→Region.free .any (aq (nth (am F c.f) i)) (mkL (aq (nth (am F c.f) i)).size D) j=true→ez E o=true→D.length+1≤(aq (nth (am F c.f) i)).size→
    (∀t,aV L1 t=aV L t)→StepF P c.H (aq (nth (am F c.f) i)) (eM L (o.looksAt (aq (nth (am F c.f) i)))) o j s→s.refsT c.H.length=true→dm (ntm F c.f) L1 o.dst s=some L2→go P F T E N Fn m {c with L:=L2} (.tal i (j::D))=some r→TRun P E (aq (nth (am F c.f) i)) (ntm F c.f) c.H true (fun _ _ L=>∃q,q<m+1∧go P F T E N Fn q {c with L:=L} .nrm=some r) (fun _ _ _=>False) ((aq (nth (am F c.f) i)).size-D.length) (mkL (aq (nth (am F c.f) i)).size D) L:=by
   intro j o d L1 L2 s h1 h2 h3 h4 h4'' h5 h6 h7 hrf h8 h9
   have htj:dA E (aq (nth (am F c.f) i)) j=true:=by unfold dA;rw[h2];exact h4''
   rw[h3]at h8
   simp only[dm]at h8
   split at h8<;>try (cases h8;done)
   rename_i hd
   have hd:=aqD hd
   injection h8 with h8
   have hlk:∀t,aV L2 t=if t=d then some s else aV L t:=fun t=>by rw[←h8,cj,h6 t]
   have h11:=(ih (j::D) L2 h9 (by simpa using h5)).mono (Stp':=fun _ _ L=>∃q,q<m+1∧go P F T E N Fn q {c with L:=L} .nrm=some r) (Fin':=fun _ _ _=>False) (fun _ _ _ ⟨q,h1,h2⟩=>⟨q,by omega,h2⟩) (fun _ _ _ h=>h)
   rw[show(aq (nth (am F c.f) i)).size-D.length=((aq (nth (am F c.f) i)).size-(j::D).length)+1 by simp;omega]
   exact .step (L':=L2) h1 (.inr (.inr rfl)) htj h2 h3 (by omega) h4 h7 hrf hlk h11
  simp only[go]at h
  split at h
  ·rename_i hrd
   exact .stop hrd ⟨m,by omega,h⟩
  ·rename_i rs hrd
   split at h<;>try (cases h;done)
   rename_i j hb hj
   have hb:=aqD hb
   obtain⟨g1,o',d,g2,gt,g3,g4⟩:=C1 hj
   split at h<;>try (cases h;done)
   rename_i o ho
   rw[ho]at g2
   injection g2 with g2
   subst g2
   rcases lE h with⟨L1,k1,k2,k3⟩|⟨L1,k1,k2,k3⟩
   ·rw[dk (M:=L) fun t _=>k1 t]at k2
    obtain⟨s,q1,q2,q3⟩:=zL hT hE ho k3 k2
    split at q1<;>try (cases q1;done)
    rename_i L2 hp hrf
    exact next g1 ho g3 g4 gt hb k1 q2 hrf hp q1
   ·split at k2<;>try (cases k2;done)
    rename_i L2 hp
    exact next g1 ho g3 g4 gt hb k1 (nG ho k3) rfl hp k2
theorem KG{P:Program}{ops:Array Oper}{Q:Exit→Act→World→Prop}{S0 S1:World→Prop}:∀(n:Nat) (l:Array Bool) (a:Act) (w:World),storeDone ops l→wpG P ops Q S1 n l a w→wpG P ops Q S0 n l a w
 |0,_,_,_,_,h=>h
 |n+1,_,_,_,hs,h=>⟨h.1,fun i hi=>wpOp_mono (fun _ _ h'=>⟨.inl (hs.set i),KG n _ _ _ (hs.set i) h'.2⟩) (h.2 i hi)⟩
end
end
end Go.Proofs.YtlahabkjhgkkjaaGreat
end
