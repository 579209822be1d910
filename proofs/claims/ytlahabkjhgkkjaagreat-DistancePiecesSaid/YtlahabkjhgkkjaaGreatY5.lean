/- Allocations and stores at a region's end: one order stands for all. The world. -/
import Derived.Test.YtlahabkjhgkkjaaGreatY4
noncomputable section
namespace Go.Proofs.YtlahabkjhgkkjaaGreat
open Go.RowKit Go.IntKind
theorem avp:type_of% @Classical.byContradiction:=@Classical.byContradiction
theorem awD:type_of% @Region.free_spec:=@Region.free_spec
theorem awZ:type_of% @List.mem_singleton:=@List.mem_singleton
theorem aw0:type_of% @List.mem_append_right:=@List.mem_append_right
theorem aw4:type_of% @Array.getElem?_eq_getElem:=@Array.getElem?_eq_getElem
theorem aw9:type_of% @List.mem_append_left:=@List.mem_append_left
theorem axu:type_of% @List.mem_map:=@List.mem_map
theorem axv:type_of% @Oper.apart_spec:=@Oper.apart_spec
theorem axL:type_of% @Nat.sub_zero:=@Nat.sub_zero
theorem axY:type_of% @List.mem_range:=@List.mem_range
section
def Old(w w':World):Prop:=w.heap.size≤w'.heap.size∧∀b,b<w.heap.size→w'.heap[b]?=w.heap[b]?
theorem Old.refl(w:World):Old w w:=⟨avb _,fun _ _=>rfl⟩
theorem E8{G G':List Value}{A A':Nat→Prop}{w w':World}{h0:Nat}(hk:Keeps A A' w w'){s:SV}{v:Value}(h:Rel1 G A w s v)(hs:s.refs h0=true)(hG:∀j g,j<h0→G[j]?=some g→G'[j]?=some g):Rel1 G' A' w' s v:=by
 have lt:∀{j:Nat},Nat.ble (j+1) h0=true→j<h0:=fun h=>avc h
 cases s with
 |d t x=>obtain⟨cs,h1,h2⟩:=h;exact⟨cs,Ty.rd_keep hk h1,h2⟩
 |nil=>exact h
 |box j off=>obtain⟨b,h1,h2⟩:=h;exact⟨b,hG j _ (lt hs) h1,h2⟩
 |elt e x off=>
  obtain⟨b,o,cs,h1,h2,h3,h4,h5⟩:=h
  exact⟨b,o,cs,h1,hk.sub b h3 h2,av5 h3 hk.size,Ty.rd_keep hk h4,hk.cells h3 h2 h5⟩
 |own j=>exact hG j v (lt hs) h
 |oelt j sz i off=>obtain⟨b,n,c,h1,h2⟩:=h;exact⟨b,n,c,hG j _ (lt hs) h1,h2⟩
 |clo f caps=>
  obtain⟨bs,h1,h2⟩:=h
  refine⟨bs,?_,h2⟩
  simp only[SV.refs]at hs
  clear h2
  induction caps generalizing bs with
  |nil=>cases bs<;>exact h1
  |cons c caps ih=>
   match bs,h1 with
   |b::bs,⟨q1,q2⟩=>
    simp only[axB,au8]at hs
    exact⟨hG c _ (lt hs.1) q1,ih hs.2 bs q2⟩
 |tup l=>exact h.elim
 |undef=>exact h
 |dead=>trivial
 |cut e xs=>obtain⟨p,h1,h2⟩:=h;exact⟨p,Ty.rd_keep hk h1,h2⟩
 |osl j sz lo n=>obtain⟨g,q,c,h1,h2⟩:=h;exact⟨g,q,c,hG j _ (lt hs) h1,h2⟩
theorem Mo{G G':List Value}{A A':Nat→Prop}{w w':World}{h0:Nat}(hk:∀s v,s.refs h0=true→Rel1 G A w s v→Rel1 G' A' w' s v){s:SV}{v:Value}(h:Rel G A w s v)(hs:s.refsT h0=true):Rel G' A' w' s v:=by
 cases s with
 |tup l=>
  obtain⟨vs,h1,h2⟩:=h
  refine⟨vs,h1,?_⟩
  clear h1
  induction l generalizing vs with
  |nil=>cases vs<;>exact h2
  |cons s l ih=>
   simp only[SV.refsT,axB,au8]at hs
   match vs,h2 with
   |v::vs,⟨g1,g2⟩=>exact⟨hk s v hs.1 g1,ih hs.2 vs g2⟩
 |_=>rw[qA (fun l e=>by cases e)]at hs;exact dw (hk _ _ hs (lI h (fun l e=>by cases e)))
section
variable {Z:Nat→Prop} {w0:World} {H:List Item} {G:List Value} {w:World}
theorem qk(hr:SR Z w0 H G w):mg H.length H:=by
 intro k t cs hk x hx
 have hlt:k<G.length:=by rw[hr.len];exact(avf.1 hk).1
 obtain⟨b,vs,_,_,_,h4⟩:=hr.items k _ _ hk (au2 hlt)
 obtain⟨i,hi,rfl⟩:=axd hx
 obtain⟨v,_,hv⟩:=gO h4 i _ (au2 hi)
 exact rC hr hv
theorem adc{it:Item}{g:Value}{h0 k:Nat}(hr:SR Z w0 (H++[it]) (G++[g]) w)(hl:G.length=H.length)(hk:H[k]?=some .gone)(h0k:h0≤k)(hlow:mg h0 (H++[it])):
  SR Z w0 (H.set k it) (G.set k g) w∧(∀b,Av Z (H++[it]) (G++[g]) b↔Av Z (H.set k it) (G.set k g) b):=by
 have hkl:=(avf.1 hk).1
 have a1:∀{j:Nat} {x:Item},j≠k→(H.set k it)[j]?=some x→j<H.length∧(H++[it])[j]?=some x:=fun{j x} hj h=>by
  rw[awm (awt hj)]at h
  have:=(avf.1 h).1
  exact⟨this,by rw[avi this];exact h⟩
 have a2:∀{j:Nat} {x:Value},j≠k→(G.set k g)[j]?=some x→(G++[g])[j]?=some x:=fun{j x} hj h=>by
  rw[awm (awt hj)]at h
  rw[avi (avf.1 h).1];exact h
 have b1:(H.set k it)[k]?=some it:=awG hkl
 have b2:(G.set k g)[k]?=some g:=awG (by omega)
 have c1:(H++[it])[H.length]?=some it:=by rw[avj (avb _),awy];rfl
 have c2:(G++[g])[H.length]?=some g:=by rw[avj (by omega),hl,awy];rfl
 have d1:∀{j:Nat} {x:Item},(H++[it])[j]?=some x→(j<H.length∧H[j]?=some x)∨(j=H.length∧x=it):=fun{j x} h=>by
  rcases avt j H.length with hlt|hge
  ·rw[avi hlt]at h;exact .inl ⟨hlt,h⟩
  ·rw[avj hge]at h
   have hj:j-H.length=0:=by
    rcases avN (j-H.length)with h0|h0
    ·exact h0
    ·rw[av8 (by simp;omega)]at h;cases h
   rw[hj]at h
   simp only[avP,avd]at h
   exact .inr ⟨by omega,h.symm⟩
 have hav:∀b,Av Z (H++[it]) (G++[g]) b↔Av Z (H.set k it) (G.set k g) b:=by
  refine fun b=>⟨fun h=>⟨h.1,fun j x y hx hlv hy=>?_⟩,fun h=>⟨h.1,fun j x y hx hlv hy=>?_⟩⟩
  ·by_cases hj:j=k
   ·subst hj
    rw[b1]at hx;rw[b2]at hy
    injection hx with hx;injection hy with hy
    subst hx hy
    exact h.2 _ _ _ c1 hlv c2
   ·exact h.2 j x y (a1 hj hx).2 hlv (a2 hj hy)
  ·rcases d1 hx with⟨h1,h2⟩|⟨h1,h2⟩
   ·have hj:j≠k:=fun e=>by subst e;rw[hk]at h2;injection h2 with h2;subst h2;cases hlv
    refine h.2 j x y (by rw[awm (awt hj)];exact h2) hlv ?_
    rw[avi (by omega)]at hy
    rw[awm (awt hj)];exact hy
   ·subst h1 h2
    rw[c2]at hy
    injection hy with hy
    subst hy
    exact h.2 k _ _ b1 hlv b2
 have hkp:Keeps (Av Z (H++[it]) (G++[g])) (Av Z (H.set k it) (G.set k g)) w w:=⟨avb _,fun b _ h=>(hav b).1 h,fun _ _ _=>rfl⟩
 have hG:∀j x,j<h0→(G++[g])[j]?=some x→(G.set k g)[j]?=some x:=fun j x hj h=>by
  rw[avi (by omega)]at h
  rw[awm (by omega)];exact h
 have hit:∀{j:Nat} {x:Item} {y:Value},(H++[it])[j]?=some x→ItemRel w0.heap.size (G++[g]) (Av Z (H++[it]) (G++[g])) w x y→ItemRel w0.heap.size (G.set k g) (Av Z (H.set k it) (G.set k g)) w x y:=by
  intro j x y hx h
  cases x with
  |box t cs=>
   obtain⟨b,vs,e1,e2,e3,e4⟩:=h
   refine⟨b,vs,e1,e2,e3,?_⟩
   have hc:=hlow j t cs hx
   clear e1 e3 hx
   induction cs generalizing vs with
   |nil=>cases vs<;>exact e4
   |cons s l ih=>
    match vs,e4 with
    |v::vs,⟨q1,q2⟩=>exact⟨E8 hkp q1 (hc s (by simp)) hG,ih vs q2 (fun s hs=>hc s (by simp[hs]))⟩
  |row et e xs=>
   obtain⟨css,e1,e2,e3⟩:=h
   exact⟨css,e1,ce (fun _ _ h=>Ty.rd_keep hkp h) e2,e3⟩
  |gone=>trivial
 refine⟨⟨by simp[hl],hr.below,fun j x y hx hy=>?_,fun i j x y gx gy b hij hx hy hlx hly hgx hgy hb=>?_,hr.zf⟩,hav⟩
 ·by_cases hj:j=k
  ·subst hj
   rw[b1]at hx;rw[b2]at hy
   injection hx with hx;injection hy with hy
   subst hx hy
   exact hit c1 (hr.items _ _ _ c1 c2)
  ·exact hit (a1 hj hx).2 (hr.items j x y (a1 hj hx).2 (a2 hj hy))
 ·have key:∀{j:Nat} {x:Item} {y:Value},(H.set k it)[j]?=some x→(G.set k g)[j]?=some y→∃j',(j'=if j=k then H.length else j)∧(H++[it])[j']?=some x∧(G++[g])[j']?=some y:=by
   intro j x y hx hy
   by_cases hj:j=k
   ·subst hj
    rw[b1]at hx;rw[b2]at hy
    injection hx with hx;injection hy with hy
    subst hx hy
    exact⟨_,rfl,by rw[avr rfl];exact c1,by rw[avr rfl];exact c2⟩
   ·exact⟨_,rfl,by rw[avn hj];exact(a1 hj hx).2,by rw[avn hj];exact a2 hj hy⟩
  obtain⟨i',ei,i1,i2⟩:=key hx hgx
  obtain⟨j',ej,j1,j2⟩:=key hy hgy
  refine hr.disj i' j' x y gx gy b ?_ i1 j1 hlx hly i2 j2 hb
  rw[ei,ej]
  by_cases h1:i=k
  ·by_cases h2:j=k
   ·omega
   ·rw[avr h1,avn h2];have:=(a1 h2 hy).1;omega
  ·by_cases h2:j=k
   ·rw[avn h1,avr h2];have:=(a1 h1 hx).1;omega
   ·rw[avn h1,avn h2];exact hij
theorem S4(hr:SR Z w0 H G w){h0 k:Nat}(hk:H[k]?=some .gone)(h0k:h0≤k)(hlow:mg h0 H){t:TypeId}{cs:List SV}{vs:Array Value}(hz:∀s∈cs,s.refs h0=true)(hcs:cz (Rel1 G (Av Z H G) w) cs vs.toList):
  ∃G',SR Z w0 (H.set k (.box t cs)) G' (w.alloc (.cells vs t))∧(∀s v,s.refs h0=true→Rel1 G (Av Z H G) w s v→Rel1 G' (Av Z (H.set k (.box t cs)) G') (w.alloc (.cells vs t)) s v)∧
   (∀j off v,j≠k→Rel1 G (Av Z H G) w (.box j off) v→Rel1 G' (Av Z (H.set k (.box t cs)) G') (w.alloc (.cells vs t)) (.box j off) v)∧
   Rel1 G' (Av Z (H.set k (.box t cs)) G') (w.alloc (.cells vs t)) (.box k 0) (.pointer (some ⟨w.heap.size,0,none⟩)):=by
 have hb:=ip w (.cells vs t)
 have hg:∀b,b8 (.pointer (some ⟨w.heap.size,0,none⟩))=some b→w.heap.size≤b:=fun b h=>by simp[b8]at h;omega
 have hst:=kW (it:=.box t cs) hr hb hg
 have hsr:=Di (it:=.box t cs) hr hb hg ⟨w.heap.size,vs.toList,rfl,hr.below.size,Blk.new w t vs,ce (fun s v h=>du hr hst h) hcs⟩
 have hkl:=(avf.1 hk).1
 have hl:=hr.len
 obtain⟨m1,m2⟩:=adc hsr hl hk h0k (by
  intro j u cs' hj x hx
  rcases avt j H.length with hlt|hge
  ·rw[avi hlt]at hj;exact hlow j u cs' hj x hx
  ·rw[avj hge]at hj
   have hj':=av1 hj
   simp only[awZ,Item.box.injEq]at hj'
   obtain⟨rfl,rfl⟩:=hj'
   exact hz x hx)
 have hkp:Keeps (Av Z (H++[.box t cs]) (G++[.pointer (some ⟨w.heap.size,0,none⟩)])) (Av Z (H.set k (.box t cs)) (G.set k (.pointer (some ⟨w.heap.size,0,none⟩)))) (w.alloc (.cells vs t)) (w.alloc (.cells vs t)):=⟨avb _,fun b _ h=>(m2 b).1 h,fun _ _ _=>rfl⟩
 refine⟨_,m1,fun s v hs h=>E8 hkp (du hr hst h) hs fun j x hj h=>?_,fun j off v hj h=>?_,⟨_,awG (by omega),rfl⟩⟩
 ·rw[avi (by omega)]at h
  rw[awm (by omega)];exact h
 ·obtain⟨b,h1,h2⟩:=h
  exact⟨b,by rw[awm (awt hj)];exact h1,h2⟩
theorem xJ{n:Nat}{L:SL}{a:Act}(f:Nat→Bool):∀{la:List AlA} {H:List Item} {G:List Value},(∀x∈la,f x.i=false)→SR Z w0 H G w→FR Z n L H G w a→∃G',SR Z w0 (H++alX f la) G' w∧FR Z n L (H++alX f la) G' w a∧(∀s v,Rel1 G (Av Z H G) w s v→Rel1 G' (Av Z (H++alX f la) G') w s v)
 |[],H,G,_,hr,hf=>by
  refine⟨G,?_⟩
  rw[show alX f []=[] from rfl,avR]
  exact⟨hr,hf,fun _ _ h=>h⟩
 |x::la,H,G,hx,hr,hf=>by
  have hg:∀b,b8 undef=some b→w.heap.size≤b:=fun b h=>by simp[b8,undef]at h
  have hst:=kW (it:=.gone) (g:=undef) hr (axV _ _) hg
  have h1:=Di (it:=.gone) (g:=undef) hr (axV _ _) hg trivial
  obtain⟨G',k1,k2,k3⟩:=xJ f (la:=la) (fun y hy=>hx y (by simp[hy])) h1 (hf.keep fun s v h=>du hr hst h)
  have e:H++alX f (x::la)=(H++[.gone])++alX f la:=by
   rw[show alX f (x::la)=(match f x.i with|true=>.box x.t x.cs|false=>.gone)::alX f la from rfl,hx x (by simp)]
   simp
  rw[e]
  exact⟨G',k1,k2,fun s v h=>k3 s v (du hr hst h)⟩
end
theorem xA{h0:Nat}:∀{t:Ty},∀s∈t.zsplit,s.refs h0=true:=by
 intro t
 induction t with
 |pair a b iha ihb=>
  intro s hs
  simp only[Ty.zsplit,avI]at hs
  exact hs.elim (iha s) (ihb s)
 |st a ih=>intro s hs;simp only[Ty.zsplit]at hs;exact ih s hs
 |sl e=>intro s hs;simp only[Ty.zsplit,awZ]at hs;subst hs;rfl
 |_=>intro s hs;simp only[Ty.zsplit,awZ]at hs;subst hs;rfl
end
section
theorem HF{H:List Item}{s:SV}{l:List SV}(h:fI [] s=some l):fI H s=some l:=by
 unfold fI at h ⊢
 split at h<;>first
  |(cases h;done)
  |exact h
  |(split at h<;>first
    |(cases h;done)
    |(rename_i hj;simp at hj;done)
    |(rename_i hg;simp only[hg];exact h))
def yp(h0:Nat)(la:List AlA)(f:Nat→Bool)(L:SL):Prop:=∀t s,aW L t=some s→s.refsT h0=true∨∃(r:Nat) (a:AlA),la[r]?=some a∧f a.i=true∧s=.box (h0+r) 0
theorem ade{h0:Nat}{la:List AlA}{f:Nat→Bool}{L:SL}(h:∀t s,aW L t=some s→s.refsT h0=true):yp h0 la f (fJ f la h0 L):=by
 intro t s hs
 rcases Ef hs with⟨r,a,h1,_,h3,h4⟩|h1
 ·exact .inr ⟨r,a,h1,h3,h4⟩
 ·exact .inl (h t s h1)
section
variable {P:Program} {T:TT} {E:Env} {ops:Array Oper} {Z:Nat→Prop} {w0:World} {N fl:Nat} {Q:Exit→Act→World→Prop} {X:List Item→List Value→World→Prop}
theorem pE{H:List Item}{G:List Value}{w:World}{a:Act}{L L':SL}{h0 r j:Nat}{la:List AlA}{x:AlA}{oj:Oper}{f:Nat→Bool}{K:Act→World→Prop}{Qx:Exit→Act→World→Prop}(hT:eF P T=true)(hoj:ops[j]?=some oj)(hal:bJ oj=true)
  (hla:la[r]?=some x) (hdst:oj.dst=some x.d) (hd:x.d<N) (hop:oj.op=.alloc x.t) (hxx:∃y,dH T x.t=some y∧y.z=true∧(∀p q,y.ty≠.pair p q)∧x.cs=y.ty.zsplit) (_hD:Dis la) (hfx:f x.i=false)
  (hk:H[h0+r]?=some .gone) (hlow:mg h0 H) (hL:yp h0 la f L) (hfl:fl≤h0) (hr:SR Z w0 H G w) (hf:FR Z N L H G w a) (hx:X H G w) (hX:∀H G w H' G' w',X H G w→Ev Z fl H G w H' G' w'→X H' G' w') (hL':∀t,aW L' t=if t=x.d then some (.box (h0+r) 0)else aW L t)
  (hK:∀v G' w',Old w w'→SR Z w0 (H.set (h0+r) (.box x.t x.cs)) G' w'→FR Z N L' (H.set (h0+r) (.box x.t x.cs)) G' w' (a.put oj.dst v)→X (H.set (h0+r) (.box x.t x.cs)) G' w'→K (a.put oj.dst v) w'):wpOp P ops Qx j K a w:=by
 obtain⟨y,hy,hz,hne,hcs⟩:=hxx
 have hg:oj.guard=none:=by
  unfold bJ at hal
  rw[hop]at hal
  cases hq:oj.guard with
  |none=>rfl
  |some x=>rw[hq]at hal;simp at hal
 have hck:=a8 hT hy
 obtain⟨inf,hinf,hzero⟩:=xj hck hz
 have hc:(mkV y.ty (zc y.ty)).cells.toList=zc y.ty:=ln (by
  generalize y.ty=ty at*
  cases ty<;>first|exact .inr rfl|exact .inl rfl|exact(hne _ _ rfl).elim)
 obtain⟨G',k1,k2,k3,k4⟩:=S4 (t:=x.t) (cs:=x.cs) (vs:=(mkV y.ty (zc y.ty)).cells) hr hk (by omega) hlow (by rw[hcs];exact xA) (by rw[hcs,hc];exact jo)
 have hrun:(execOp a.eval oj).run P w=.ok (.value (.pointer (some ⟨w.heap.size,0,none⟩))) (w.alloc (.cells (mkV y.ty (zc y.ty)).cells x.t)):=by
  simp[execOp,hop,Instr.alloc,zeroValue,typeInfo,hinf,hzero,newVar,newRow]
 unfold wpOp
 simp only[hoj]
 rw[avr (by simp[Region.wanted,hg])]
 refine .inl ?_
 unfold Oper.wp
 rw[hrun]
 refine hK _ G' _ ⟨(ip w (.cells (mkV y.ty (zc y.ty)).cells x.t)).size,fun b hb=>(ip w (.cells (mkV y.ty (zc y.ty)).cells x.t)).block b hb⟩ k1 ?_ (hX _ _ _ _ _ _ hx fun s v h hs=>k2 s v (n8 hfl hs) h)
 have hf1:FR Z N L (H.set (h0+r) (.box x.t x.cs)) G' (w.alloc (.cells (mkV y.ty (zc y.ty)).cells x.t)) a:=by
  refine⟨hf.defers,hf.size,fun t s hs=>?_⟩
  obtain⟨v,h1,h2⟩:=hf.slot t s hs
  refine⟨v,h1,?_⟩
  rcases hL t s hs with h3|⟨r',b,h3,h4,rfl⟩
  ·exact Mo (fun s v hs h=>k2 s v hs h) h2 h3
  ·refine k3 _ _ v (fun e=>?_) h2
   have e:r'=r:=by omega
   subst e
   rw[hla]at h3
   injection h3 with h3
   subst h3
   rw[hfx]at h4
   cases h4
 have hf2:=hf1.put (d:=oj.dst) (L':=(x.d,.box (h0+r) 0)::l7 L x.d) (s:=.box (h0+r) 0) (v:=.pointer (some ⟨w.heap.size,0,none⟩)) (by
  rw[hdst]
  simp only[dL]
  rw[avx (show x.d+1≤N from hd)]) k4
 exact⟨hf2.defers,hf2.size,fun t s hs=>hf2.slot t s (by rw[dY,←hL' t];exact hs)⟩
structure PlanOk (T:TT) (ops:Array Oper) (N:Nat) (H0:List Item) (la:List AlA) (ss:List AlS):Prop where
 dis:Dis la
 la2:∀a∈la,(∃o,ops[a.i]?=some o∧bJ o=true)∧∀x∈a.cs,x.refs H0.length=true
 ss1:∀s∈ss,(∃o,ops[s.i]?=some o∧bJ o=false∧o.dst=none)∧(∀x∈s.l,x.refs H0.length=true)∧Ia ops s.i s.j la H0.length=true∧∃bt cells,(H0++alX (fun _=>true) la)[s.j]?=some (.box bt cells)∧s.off+s.l.length≤cells.length
 far:ss.Pairwise (fun s p=>HU s p=true)
def pk(T:TT)(L:SL)(s:AlS)(o:Oper):Prop:=∃t x v sv y,o.op=.store t x v∧o.guard=none∧o.dst=none∧opS L x=some (.box s.j s.off)∧opS L v=some sv∧dH T t=some y∧fI [] sv=some s.l∧s.l.length=y.ty.n
theorem u5{l0:Array Bool}{H0:List Item}{La:SL}{la:List AlA}{ss:List AlS}(hA:alA T N ops.toList 0=some la)(hS:alS T E ops l0 la H0.length La (H0++alX (fun _=>true) la) ops.toList 0=some ss):PlanOk T ops N H0 la ss:=by
 obtain⟨a1,a2,a3⟩:=m6 hA
 obtain⟨s1,s2,s3⟩:=lh hS
 refine⟨a3,fun a ha=>?_,fun s hs=>?_,s3⟩
 ·obtain⟨_,o,ho,hal,y,hy⟩:=a2 a ha
  rw[axL,av6]at ho
  exact⟨⟨o,ho,hal⟩,by rw[hy];exact xA⟩
 ·obtain⟨_,_,o,ho,hal,t,x,v,sv,y,bt,cells,q1,q2,q3,q4,q5,q6,q7,q8,q9,q10,q11,q12,q13⟩:=s2 s hs
  rw[axL,av6]at ho
  exact⟨⟨o,ho,hal,q3⟩,q11,q13,bt,cells,q8,q10⟩
theorem LQ{la:List AlA}(hA:alA T N ops.toList 0=some la):∀{j:Nat} {o:Oper},ops[j]?=some o→bJ o=true→∃(r:Nat) (a:AlA),la[r]?=some a∧a.i=j∧o.dst=some a.d∧a.d<N∧∃x,o.op=.alloc a.t∧dH T a.t=some x∧x.z=true∧(∀p q,x.ty≠.pair p q)∧a.cs=x.ty.zsplit:=by
 intro j o ho hal
 obtain⟨r,a,h1,h2,h3⟩:=(m6 hA).1 j o (by rw[av6];exact ho) hal
 exact⟨r,a,h1,by omega,h3⟩
theorem jA{l:Array Bool}{i j:Nat}(hcl:Clo ops l)(hj:∀os,ops[j]?=some os→∀e∈os.after,Region.binds .any e=true→l.getD e.on false=true)(h:fZ ops 4 j i=true):l.getD i true=true:=by
 have:=sC hcl h hj
 rcases avt i l.size with h'|h'
 ·rw[←fU h'];exact this
 ·simp[avM h']at this
section
variable {H0:List Item} {la:List AlA} {ss:List AlS} {l:Array Bool}
theorem PlanOk.wt(hp:PlanOk T ops N H0 la ss)(hcl:Clo ops l)(hl:l.size=ops.size){s:AlS}{i:Nat}(hs:dn l s.i=true)(hm:s∈ss)(h:fZ ops 4 s.i i=true):l.getD i true=true:=by
 obtain⟨⟨o,ho,_⟩,_⟩:=hp.ss1 s hm
 have hlt:s.i<l.size:=by rw[hl];exact(avh.1 ho).1
 exact jA hcl (fun os hos e he hb=>hcl s.i os hos hs e he hb) h
theorem PlanOk.setA(hp:PlanOk T ops N H0 la ss)(hcl:Clo ops l)(hl:l.size=ops.size){r:Nat}{x:AlA}(h1:la[r]?=some x)(hju:l.getD x.i true=false):
  cL (dn (l.setIfInBounds x.i true)) ss (H0++alX (dn (l.setIfInBounds x.i true)) la)=(cL (dn l) ss (H0++alX (dn l) la)).set (H0.length+r) (.box x.t x.cs)∧(cL (dn l) ss (H0++alX (dn l) la))[H0.length+r]?=some .gone:=by
 have hup:=iC l x.i
 obtain⟨⟨oj,hoj,hal⟩,_⟩:=hp.la2 x (av1 h1)
 have hne:∀s∈ss,dn l s.i=true→s.j≠H0.length+r:=fun s hs hds e=>by
  have:=hp.wt hcl hl hds hs (Bi (hp.ss1 s hs).2.2.1 h1 e)
  rw[hju]at this
  cases this
 refine⟨?_,?_⟩
 ·rw[HR hp.dis h1 hup,jm (g:=dn l) fun s hs=>?_,xe hne]
  rw[hup,avn]
  intro e
  obtain⟨⟨o,ho,hal',_⟩,_⟩:=hp.ss1 s hs
  rw[e,hoj]at ho
  injection ho with ho
  subst ho
  rw[hal]at hal'
  cases hal'
 ·have h3:(H0++alX (dn l) la)[H0.length+r]?=some .gone:=by
   rw[avj (by omega),show H0.length+r-H0.length=r by omega,rg,h1]
   simp only[avX]
   rw[show dn l x.i=false from hju]
  have h4:H0++alX (dn l) la=(H0++alX (dn l) la).set (H0.length+r) .gone:=by
   refine awH fun k=>?_
   rw[avv]
   split
   ·rename_i e;subst e;rw[h3,avr (avf.1 h3).1]
   ·rfl
  rw[h4,xe hne,awG (by rw[m5];exact(avf.1 h3).1)]
theorem PlanOk.same(hp:PlanOk T ops N H0 la ss){j:Nat}{oj:Oper}(hoj:ops[j]?=some oj)(hal:bJ oj=false):alX (dn (l.setIfInBounds j true)) la=alX (dn l) la∧∀a∈la,dn (l.setIfInBounds j true) a.i=dn l a.i:=by
 have h:∀a∈la,dn (l.setIfInBounds j true) a.i=dn l a.i:=fun a ha=>by
  rw[iC,avn]
  intro e
  obtain⟨⟨o',h1,h2⟩,_⟩:=hp.la2 a ha
  rw[e,hoj]at h1
  injection h1 with h1
  subst h1
  rw[hal]at h2
  cases h2
 refine⟨?_,h⟩
 unfold alX
 exact List.map_congr_left fun a ha=>by rw[h a ha]
theorem PlanOk.setS(hp:PlanOk T ops N H0 la ss){s:AlS}(hsm:s∈ss)(hju:l.getD s.i true=false):
  cL (dn (l.setIfInBounds s.i true)) ss (H0++alX (dn (l.setIfInBounds s.i true)) la)=stP s (cL (dn l) ss (H0++alX (dn l) la)):=by
 obtain⟨⟨o,ho,hal,_⟩,_⟩:=hp.ss1 s hsm
 rw[(hp.same ho hal).1]
 exact Le (iC l s.i) hju hp.far hsm
theorem PlanOk.setT(hp:PlanOk T ops N H0 la ss){j:Nat}{oj:Oper}{d:Nat}(hoj:ops[j]?=some oj)(hal:bJ oj=false)(hd:oj.dst=some d):
  cL (dn (l.setIfInBounds j true)) ss (H0++alX (dn (l.setIfInBounds j true)) la)=cL (dn l) ss (H0++alX (dn l) la):=by
 rw[(hp.same hoj hal).1]
 refine jm fun s hs=>?_
 rw[iC,avn]
 intro e
 obtain⟨⟨o,ho,_,hdn⟩,_⟩:=hp.ss1 s hs
 rw[e,hoj]at ho
 injection ho with ho
 subst ho
 rw[hd]at hdn
 cases hdn
theorem PlanOk.low(hp:PlanOk T ops N H0 la ss)(hlowH:mg H0.length H0):mg H0.length (cL (dn l) ss (H0++alX (dn l) la)):=
 Gg (aee hlowH fun a ha=>(hp.la2 a ha).2) fun s hs=>(hp.ss1 s hs).2.1
theorem PlanOk.box(hp:PlanOk T ops N H0 la ss)(hcl:Clo ops l){s:AlS}(hsm:s∈ss)(hj:∀os,ops[s.i]?=some os→∀e∈os.after,Region.binds .any e=true→l.getD e.on false=true):∃bt c',(cL (dn l) ss (H0++alX (dn l) la))[s.j]?=some (.box bt c')∧s.off+s.l.length≤c'.length:=by
 obtain⟨_,_,ht,bt,cells,q8,q10⟩:=hp.ss1 s hsm
 have:(H0++alX (dn l) la)[s.j]?=some (.box bt cells):=by
  rcases avt s.j H0.length with hlt|hge
  ·rw[avi hlt]at q8 ⊢;exact q8
  ·rw[avj hge,rg]at q8 ⊢
   cases hb:la[s.j-H0.length]? with
   |none=>rw[hb]at q8;cases q8
   |some b=>
    rw[hb]at q8
    simp only[avX]at q8 ⊢
    rw[show dn l b.i=true from jA hcl hj (Bi ht hb (by omega))]
    exact q8
 obtain⟨c',b1,b2⟩:=EC (f:=dn l) this (ss:=ss)
 exact⟨bt,c',b1,by omega⟩
theorem qc{H:List Item}{G:List Value}{w:World}{a:Act}{L:SL}{s:AlS}{oj:Oper}{bt:Nat}{c':List SV}{K:Act→World→Prop}{Qx:Exit→Act→World→Prop}(hT:eF P T=true)(hE:kf P E)(hI:inv w0)(hoj:ops[s.i]?=some oj)(hst:pk T L s oj)(b1:H[s.j]?=some (.box bt c'))(b2:s.off+s.l.length≤c'.length)
  (hr:SR Z w0 H G w) (hf:FR Z N L H G w a) (hx:X H G w) (hX:∀H G w H' G' w',X H G w→Ev Z fl H G w H' G' w'→X H' G' w')
  (hK:∀G' w',SR Z w0 (stP s H) G' w'→FR Z N L (stP s H) G' w' a→X (stP s H) G' w'→K a w'):wpOp P ops Qx s.i K a w:=by
 obtain⟨t,x,v,sv,y,q1,q2,q3,q4,q5,q6,q7,q9⟩:=hst
 have hstP:stP s H=H.set s.j (.box bt (mt c' s.off s.l)):=by
  unfold stP
  rw[b1]
 have heop:eop T E fl L H oj (fun s H' L'=>some (s,H',L'))=some (.undef,stP s H,L):=by
  unfold eop
  rw[q1]
  dsimp only
  rw[q4,q5,q6]
  dsimp only
  rw[b1,HF q7]
  dsimp only
  rw[show Nat.beq s.l.length y.ty.n=true by rw[q9];exact axt _,avx (show s.off+s.l.length≤c'.length by omega),hstP]
  rfl
 unfold wpOp
 simp only[hoj]
 rw[avr (by simp[Region.wanted,q2])]
 refine .inl ?_
 unfold Oper.wp
 refine tW hT hE hI hr hf heop fun s' H' L1 G' w' v' k1 k2 k3 k4 k5=>?_
 injection k1 with k1
 injection k1 with k1 k1'
 injection k1' with k1' k1''
 subst k1 k1' k1''
 rw[q3]
 exact hK G' w' k2 k3 (hX _ _ _ _ _ _ hx k5.ev)
end
theorem ER{l:Array Bool}{H0:List Item}{L0:SL}{la:List AlA}{s:AlS}{o:Oper}{Ha:List Item}(h:abb T ops la H0.length (fJ (fun _=>true) la H0.length L0) Ha s o)(hcl:Clo ops l)(hj:∀os,ops[s.i]?=some os→∀e∈os.after,Region.binds .any e=true→l.getD e.on false=true):pk T (fJ (dn l) la H0.length L0) s o:=by
 obtain⟨t,x,v,sv,y,bt,cells,q1,q2,q3,q4,q5,q6,q7,q8,q9,q10,q11,q12,q13⟩:=h
 have hopd:∀{z:Operand} {sz:SV},(∀a∈la,Ny z a.d=true→fZ ops 4 s.i a.i=true)→opS (fJ (fun _=>true) la H0.length L0) z=some sz→opS (fJ (dn l) la H0.length L0) z=some sz:=by
  intro z sz hw hz
  cases z with
  |tmp u=>
   simp only[opS]at hz ⊢
   rw[←hz]
   refine gU (fun b hb e=>?_) rfl
   exact jA hcl hj (hw b hb (by simp[Ny,e]))
  |_=>exact hz
 exact⟨t,x,v,sv,y,q1,q2,q3,hopd (fun b hb h=>q12 b hb (by rw[h];rfl)) q4,hopd (fun b hb h=>q12 b hb (by rw[h,Bool.or_true])) q5,q6,q7,q9⟩
set_option maxHeartbeats 1000000 in
theorem JN{H0:List Item}{L0:SL}{l0:Array Bool}{la:List AlA}{ss:List AlS}(hT:eF P T=true)(hE:kf P E)(hI:inv w0)
  (hA:alA T N ops.toList 0=some la) (hS:alS T E ops l0 la H0.length (fJ (fun _=>true) la H0.length L0) (H0++alX (fun _=>true) la) ops.toList 0=some ss) (hD:II ops l0 (la.map (·.i)++ss.map (·.i))=true) (hW:KW E ops l0 (la.map (·.i)++ss.map (·.i))=true)
  (hlowH:mg H0.length H0) (hlowL:∀t s,aW L0 t=some s→s.refsT H0.length=true) (hfl:fl≤H0.length) (hl0:l0.size=ops.size)
  (hX:∀H G w H' G' w',X H G w→Ev Z fl H G w H' G' w'→X H' G' w')
  (hEnd:∀(n:Nat) (l:Array Bool) G w a,cu l≤n→l.size=ops.size→(∀k,l0.getD k false=true→l.getD k false=true)→(∀k∈la.map (·.i)++ss.map (·.i),l.getD k true=true)→(∀k,l.getD k true=true→l0.getD k true=true∨k∈la.map (·.i)++ss.map (·.i))→Clo ops l→SR Z w0 (cL (fun _=>true) ss (H0++alX (fun _=>true) la)) G w→FR Z N (fJ (fun _=>true) la H0.length L0) (cL (fun _=>true) ss (H0++alX (fun _=>true) la)) G w a→X (cL (fun _=>true) ss (H0++alX (fun _=>true) la)) G w→wpG P ops Q (fun _=>True) n l a w):
  ∀(n:Nat) (l:Array Bool),cu l≤n→l.size=ops.size→(∀k,l0.getD k false=true→l.getD k false=true)→(∀k,l.getD k true=true→l0.getD k true=true∨k∈la.map (·.i)++ss.map (·.i))→Clo ops l→∀(G:List Value) (w:World) (a:Act),
   SR Z w0 (cL (dn l) ss (H0++alX (dn l) la)) G w→FR Z N (fJ (dn l) la H0.length L0) (cL (dn l) ss (H0++alX (dn l) la)) G w a→X (cL (dn l) ss (H0++alX (dn l) la)) G w→wpG P ops Q (fun _=>True) n l a w:=by
 obtain⟨a1,a2,a3⟩:=m6 hA
 obtain⟨s1,s2,s3⟩:=lh hS
 have hp:=u5 hA hS
 have cov:∀{l:Array Bool},(∀k,l0.getD k false=true→l.getD k false=true)→∀{k:Nat} {o:Oper},ops[k]?=some o→l.getD k true=false→(∃(r:Nat) (x:AlA),la[r]?=some x∧x.i=k∧bJ o=true)∨(∃s∈ss,s.i=k∧bJ o=false)∨(fp E o=true∧l0.getD k true=false):=by
  intro l hsub k o ho hu
  have hk:ops.toList[k]?=some o:=by rw[av6];exact ho
  cases hal:bJ o with
  |true=>
   obtain⟨r,x,h1,h2,_⟩:=a1 k o hk hal
   exact .inl ⟨r,x,h1,by omega,rfl⟩
  |false=>
   right
   have hlt:k<l0.size:=by rw[hl0];exact(avh.1 ho).1
   have h0:l0.getD (0+k) true=false:=by
    rw[avD]
    cases hq:l0.getD k true with
    |false=>rfl
    |true=>
     rw[←fU hlt]at hq
     have:=hsub k hq
     rcases avt k l.size with h'|h'
     ·rw[fU h',hu]at this;cases this
     ·simp[avM h']at hu
   cases ht:fp E o with
   |true=>rw[avD]at h0;exact .inr ⟨rfl,h0⟩
   |false=>
    obtain⟨s,h1,h2⟩:=s1 k o hk h0 hal ht
    exact .inl ⟨s,h1,by omega,rfl⟩
 have fin:∀{n:Nat} {l:Array Bool},cu l≤n→l.size=ops.size→(∀k,l0.getD k false=true→l.getD k false=true)→(∀k,l.getD k true=true→l0.getD k true=true∨k∈la.map (·.i)++ss.map (·.i))→Clo ops l→(∀k∈la.map (·.i)++ss.map (·.i),l.getD k true=true)→∀{G:List Value} {w:World} {a:Act},SR Z w0 (cL (dn l) ss (H0++alX (dn l) la)) G w→FR Z N (fJ (dn l) la H0.length L0) (cL (dn l) ss (H0++alX (dn l) la)) G w a→X (cL (dn l) ss (H0++alX (dn l) la)) G w→wpG P ops Q (fun _=>True) n l a w:=by
  intro n l hcu hl hsub hin hcl hall G w a hr hf hx
  have e1:∀x∈la,dn l x.i=true:=fun x hx=>hall _ (aw9 _ (axu.2 ⟨x,hx,rfl⟩))
  have e2:∀s∈ss,dn l s.i=true:=fun s hs=>hall _ (aw0 _ (axu.2 ⟨s,hs,rfl⟩))
  have e3:alX (dn l) la=alX (fun _=>true) la:=by
   unfold alX
   exact List.map_congr_left fun x hx=>by rw[e1 x hx]
  have e4:cL (dn l) ss (H0++alX (dn l) la)=cL (fun _=>true) ss (H0++alX (fun _=>true) la):=by
   rw[e3]
   exact jm e2
  rw[e4]at hr hf hx
  refine hEnd n l G w a hcu hl hsub hall hin hcl hr ⟨hf.defers,hf.size,fun t s hs=>hf.slot t s ?_⟩ hx
  rw[←hs]
  exact gU (fun x hx _=>e1 x hx) rfl
 intro n
 induction n with
 |zero=>
  intro l hcu hl hsub hin hcl G w a hr hf hx
  exact fin hcu hl hsub hin hcl (fun k _=>acK (l:=l) (by omega) k) hr hf hx
 |succ n ih=>
  intro l hcu hl hsub hin hcl G w a hr hf hx
  by_cases hC:∀k∈la.map (·.i)++ss.map (·.i),l.getD k true=true
  ·exact fin hcu hl hsub hin hcl hC hr hf hx
  have hC':∃k∈la.map (·.i)++ss.map (·.i),l.getD k true=false:=by
   apply avp
   intro hn
   refine hC fun k hk=>?_
   cases hq:l.getD k true with
   |true=>rfl
   |false=>exact(hn ⟨k,hk,hq⟩).elim
  refine⟨fun h=>(wm hl hD hsub hC' h).elim,fun j hj=>?_⟩
  obtain⟨hju,oj,hoj,hdep⟩:=awh.1 hj
  have hin':∀{i:Nat},i∈la.map (·.i)++ss.map (·.i)→∀k,(l.setIfInBounds i true).getD k true=true→l0.getD k true=true∨k∈la.map (·.i)++ss.map (·.i):=fun{i} hi k hk=>by
   have:=iC l i k
   rw[show dn (l.setIfInBounds i true) k=true from hk]at this
   by_cases e:k=i
   ·subst e;exact .inr hi
   ·rw[avn e]at this;exact hin k this.symm
  have hsub':∀k,l0.getD k false=true→(l.setIfInBounds j true).getD k false=true:=fun k hk=>axP (hsub k hk)
  have hcu':cu (l.setIfInBounds j true)≤n:=by have:=zt hju;omega
  have hjr:∀os,ops[j]?=some os→∀e∈os.after,Region.binds .any e=true→l.getD e.on false=true:=fun os hos e he hb=>by rw[hoj]at hos;injection hos with hos;subst hos;exact hdep e he hb
  rcases cov hsub hoj hju with⟨r,x,h1,h2,hal⟩|⟨s,hsm,h2,hal⟩|⟨ht,hu0⟩
  ·-- an allocation
   subst h2
   obtain⟨r',x',g1,g2,g3,g4,y,g5,g6⟩:=LQ hA hoj hal
   have e:r'=r:=by
    by_cases hh:r'=r
    ·exact hh
    ·exact absurd g2 (Vj a3 h1 g1 hh).1
   subst e
   rw[h1]at g1
   injection g1 with g1
   subst g1
   obtain⟨hset,hgone⟩:=hp.setA hcl hl h1 hju
   refine pE (L':=fJ (dn (l.setIfInBounds x.i true)) la H0.length L0) hT hoj hal h1 g3 g4 g5 ⟨y,g6⟩ a3 hju hgone (hp.low hlowH) (ade hlowL) hfl hr hf hx hX (Cl (iC l x.i) a3 h1) fun v G' w' _ k1 k2 k3=>⟨.inr trivial,?_⟩
   rw[←hset]at k1 k2 k3
   exact ih _ hcu' (by simpa using hl) hsub' (hin' (aw9 _ (axu.2 ⟨x,av1 h1,rfl⟩))) (hcl.set hj) G' w' _ k1 k2 k3
  ·-- a store
   subst h2
   obtain⟨_,_,o,ho,_,hok⟩:=s2 s hsm
   rw[axL,av6,hoj]at ho
   injection ho with ho
   subst ho
   obtain⟨bt,c',b1,b2⟩:=hp.box hcl hsm hjr
   refine qc (fl:=fl) hT hE hI hoj (ER hok hcl hjr) b1 b2 hr hf hx hX fun G' w' k2 k3 k5=>⟨.inr trivial,?_⟩
   rw[←hp.setS hsm hju]at k2 k3 k5
   refine ih _ hcu' (by simpa using hl) hsub' (hin' (aw0 _ (axu.2 ⟨s,hsm,rfl⟩))) (hcl.set hj) G' w' _ k2 ?_ k5
   exact⟨k3.defers,k3.size,fun u su hs=>k3.slot u su (by rw[←gU (fun x hx _=>(hp.same hoj hal).2 x hx) rfl];exact hs)⟩
  ·-- a tame one waits for all
   exfalso
   obtain⟨k,hk,hku⟩:=hC'
   have hw:=avq.1 hW j (axY.2 (avh.1 hoj).1)
   unfold dS at hw
   rw[hu0,hoj]at hw
   dsimp only at hw
   rw[ht]at hw
   simp only[Bool.not_true,Bool.or_false,Bool.false_or]at hw
   have:=jA hcl hjr (avq.1 hw k hk)
   rw[hku]at this
   cases this
end
end
section
section
variable {P:Program} {T:TT} {R:Type}
theorem wP{L:SL}{o:Oper}{k:SV→Option R}{r:R}(h:kj P L o k=some r):∃s,k s=some r∧kj P L o some=some s:=by
 unfold kj at h ⊢
 repeat' (split at h)
 all_goals first
  |(cases h;done)
  |exact⟨_,h,by simp[*]⟩
  |exact⟨_,h,rfl⟩
theorem abq{L:SL}{H:List Item}{o:Oper}{k:SV→Option R}{r:R}(hq:jf o.op=true)(h:qop P T true L H o k=some r):∃s,k s=some r∧qop P T true L H o some=some s:=by
 unfold qop at h ⊢
 split at h
 all_goals (repeat' (split at h))
 all_goals first
  |(cases h;done)
  |exact⟨_,h,by simp[*]⟩
  |exact⟨_,h,rfl⟩
  |exact wP h
  |(obtain⟨s,h1,h2⟩:=wP h;exact⟨s,h1,by simp[*]⟩)
  |(exfalso;simp[jf, *]at hq;done)
end
section
variable {P:Program} {T:TT} {R:Type}
theorem KP{H X:List Item}{j:Nat}{it:Item}(h:H[j]?=some it):(H++X)[j]?=some it:=by
 rw[avi (avf.1 h).1]
 exact h
theorem IY{H X:List Item}{s:SV}{l:List SV}(h:fI H s=some l):fI (H++X) s=some l:=by
 unfold fI at h ⊢
 split at h<;>first
  |(cases h;done)
  |exact h
  |(split at h<;>first
    |(cases h;done)
    |(rename_i hj;simp only[KP hj];exact h)
    |(rename_i hg;simp only[hg];exact h))
theorem zz{H X:List Item}{L:SL}{place:Nat→Option (Nat×Nat)}:∀{ps:List (Nat×Operand)} {cs cs':List SV},pn H L place cs ps=some cs'→pn (H++X) L place cs ps=some cs'
 |[],_,_,h=>h
 |(i,x)::r,cs,cs',h=>by
  simp only[pn]at h ⊢
  split at h<;>try (cases h;done)
  rename_i h1 h2
  split at h<;>try (cases h;done)
  rename_i l hl
  split at h<;>try (cases h;done)
  rename_i hb
  simp only[IY hl,hb]
  exact zz h
theorem E5{H X:List Item}:∀{ss:List SV} {tys:List Nat} {al:List SV},ss.all SV.noOwn=true→k9 T H ss tys=some al→k9 T (H++X) ss tys=some al
 |[],[],_,_,h=>h
 |[],_::_,_,_,h=>by simp[k9]at h
 |_::_,[],_,_,h=>by simp[k9]at h
 |s::l,t::ts,al,hn,h=>by
  simp only[axB,au8]at hn
  simp only[k9]at h ⊢
  split at h<;>try (cases h;done)
  rename_i r hr
  rw[E5 hn.2 hr]
  cases s<;>first
   |exact h
   |(exfalso;have:=hn.1;simp[SV.noOwn]at this;done)
theorem KS{L:SL}{H X:List Item}{o:Oper}{s:SV}(hq:jf o.op=true)(h:qop P T true L H o some=some s):qop P T true L (H++X) o some=some s:=by
 have hq':∀op t x y u,o.op=.binOp op t x y u→Lv op y=none:=fun op t x y u e=>by
  rw[e]at hq
  simpa [jf,isQ]using hq
 unfold qop at h ⊢
 split at h
 all_goals (try (rename_i hop;simp only[hq' _ _ _ _ _ hop]at h ⊢;exact h))
 all_goals (try (rename_i hop;simp only at h ⊢;exact h))
 all_goals (repeat' (split at h))
 all_goals first
  |(cases h;done)
  |exact h
  |(simp only[*];done)
  |(have hx:=KP (X:=X) (by assumption:H[_]?=some _);simp only[*];done)
  |(simp[*];done)
  |(have hx:=zz (X:=X) (by assumption:pn H _ _ _ _=some _);simp only[*];done)
end
theorem cG{d:Nat}{s:SV}{L:SL}{t:Nat}:aW ((d,s)::l7 L d) t=if t=d then some s else aW L t:=dY
theorem Pz{L:SL}{t:Nat}:∀{ts:List Nat},t∈ts→aW (fC L ts) t=aW L t:=by
 intro ts ht
 cases hl:aW L t with
 |none=>
  cases hs:aW (fC L ts) t with
  |none=>rfl
  |some s=>rw[gj hs]at hl;cases hl
 |some s=>
  induction ts with
  |nil=>cases ht
  |cons u us ih=>
   simp only[fC]
   by_cases hu:u=t
   ·subst hu
    rw[hl]
    simp[aW]
   ·have hm:t∈us:=(avz.1 ht).resolve_left (fun e=>hu e.symm)
    have hb:Nat.beq u t=false:=by
     cases hq:Nat.beq u t with
     |false=>rfl
     |true=>exact absurd (au9 hq) hu
    split
    ·simp only[aW,hb];exact ih hm
    ·exact ih hm
theorem dJ{L M:SL}:∀{ts:List Nat},(∀t∈ts,aW L t=aW M t)→fC L ts=fC M ts
 |[],_=>rfl
 |u::us,h=>by
  simp only[fC]
  rw[h u (by simp),dJ (ts:=us) fun t ht=>h t (by simp[ht])]
theorem mW{R:Type}{ops:Array Oper}{L:SL}{o:Oper}{yes no:SL→Option R}{r:R}(h:cH ops L o yes no=some r):
  (∃L',(∀t,aW L' t=aW L t)∧yes L'=some r∧cH ops (fC L (o.looksAt ops)) o (fun _=>some true) (fun _=>some false)=some true)∨(∃L',(∀t,aW L' t=aW L t)∧no L'=some r∧cH ops (fC L (o.looksAt ops)) o (fun _=>some true) (fun _=>some false)=some false):=by
 unfold cH at h
 split at h
 ·rename_i hg
  exact .inl ⟨L,fun _=>rfl,h,by unfold cH;rw[hg]⟩
 ·rename_i j want hg
  split at h<;>try (cases h;done)
  rename_i d hd
  have hm:d∈o.looksAt ops:=by unfold Oper.looksAt;rw[hg];simp[hd]
  have hl:=Pz (L:=L) hm
  split at h
  ·rename_i b hb
   have hy:∀b':Bool,b=b'→∀t,aW ((d,.d .bool b')::l7 L d) t=aW L t:=fun b' e t=>by
    subst e
    rw[cG]
    split
    ·rename_i e;subst e;exact hb.symm
    ·rfl
   split at h
   ·split at h
    ·exact .inl ⟨_,hy true rfl,h,by unfold cH;simp only[hg,hd,hl,hb]⟩
    ·exact .inr ⟨_,hy true rfl,h,by unfold cH;simp only[hg,hd,hl,hb]⟩
   ·split at h
    ·exact .inr ⟨_,hy false rfl,h,by unfold cH;simp only[hg,hd,hl,hb]⟩
    ·exact .inl ⟨_,hy false rfl,h,by unfold cH;simp only[hg,hd,hl,hb]⟩
  ·rename_i hb
   exact .inr ⟨L,fun _=>rfl,h,by unfold cH;simp only[hg,hd,hl,hb]⟩
  ·cases h
def StepF(P:Program)(H:List Item)(ops:Array Oper)(Lr:SL)(o:Oper)(j:Nat)(s:SV):Prop:=
 ∀(X:List Item) (Z:Nat→Prop) (w0:World) (n:Nat) (G:List Value) (w:World) (a:Act) (Q:Exit→Act→World→Prop) (K:Act→World→Prop),inv w0→SR Z w0 (H++X) G w→FR Z n Lr (H++X) G w a→
  (∀v G' w',Old w w'→SR Z w0 (H++X) G' w'→(∀s' v',Rel1 G (Av Z (H++X) G) w s' v'→Rel1 G' (Av Z (H++X) G') w' s' v')→Rel G' (Av Z (H++X) G') w' s v→K (a.put o.dst v) w')→wpOp P ops Q j K a w
theorem StepF.ext{P:Program}{H:List Item}{ops:Array Oper}{Lr:SL}{o:Oper}{j:Nat}{s:SV}(h:StepF P H ops Lr o j s)(X:List Item):StepF P (H++X) ops Lr o j s:=by
 intro Y Z w0 n G w a Q K
 rw[awd]
 exact h (X++Y) Z w0 n G w a Q K
def StepP(P:Program)(H:List Item)(ops:Array Oper)(Lr:SL)(o:Oper)(s:SV):Prop:=
 ∀(X:List Item) (Z:Nat→Prop) (w0:World) (n:Nat) (G:List Value) (w:World) (a:Act),SR Z w0 (H++X) G w→FR Z n Lr (H++X) G w a→∃v,YieldsIf P ops (fun _=>True) o v a∧Rel G (Av Z (H++X) G) w s v
theorem StepP.ext{P:Program}{H:List Item}{ops:Array Oper}{Lr:SL}{o:Oper}{s:SV}(h:StepP P H ops Lr o s)(X:List Item):StepP P (H++X) ops Lr o s:=by
 intro Y Z w0 n G w a
 rw[awd]
 exact h (X++Y) Z w0 n G w a
section
variable {P:Program} {T:TT} {E:Env} {H:List Item} {ops:Array Oper} {R:Type}
theorem Im{rs:List RV}{s:SV}(h:akD rs=some s):tz H rs (fun s H'=>some (s,H'))=some (s,H):=by
 unfold akD at h
 split at h
 ·injection h with h;subst h;rfl
 ·cases h
 ·rename_i h1 h2
  unfold tz
  split at h<;>try (cases h;done)
  rename_i l hl
  injection h with h
  subst h
  split
  ·exact absurd rfl (h2 _ _ _)
  ·exact absurd rfl (h1 _ _)
  ·rw[hl]
theorem He{Lr:SL}{o:Oper}(hg:cH ops Lr o (fun _=>some true) (fun _=>some false)=some false):StepP P H ops Lr o .undef:=by
 intro X Z w0 n G w a hr hf
 have want:Region.wanted o (yielded ops a.tmps)=false:=by
  rcases eO hf hg with⟨_,h1,_,_⟩|⟨_,_,_,h3⟩
  ·cases h1
  ·exact h3
 exact⟨undef,.inr ⟨want,rfl⟩,rfl⟩
theorem By{Lr:SL}{o:Oper}{j:Nat}{k:SV→Option R}{r:R}(hT:eF P T=true)(hE:kf P E)(hops:ops[j]?=some o)(hg:cH ops Lr o (fun _=>some true) (fun _=>some false)=some true)(h:tq P T E Lr H o k=some r):
  ∃s,k s=some r∧StepF P H ops Lr o j s∧(yZ o=true→StepP P H ops Lr o s):=by
 have want:∀{H:List Item} {Z:Nat→Prop} {n:Nat} {G:List Value} {w:World} {a:Act},FR Z n Lr H G w a→Region.wanted o (yielded ops a.tmps)=true:=fun hf=>by
  rcases eO hf hg with⟨_,_,_,h3⟩|⟨_,h1,_,_⟩
  ·exact h3
  ·cases h1
 unfold tq at h
 split at h
 ·rename_i hq
  obtain⟨s,h1,h2⟩:=abq hq h
  refine⟨s,h1,fun X Z w0 n G w a Q K hI hr hf hK=>?_,fun hp X Z w0 n G w a hr hf=>?_⟩
  rotate_left
  ·obtain⟨s',v,g1,g2,g3⟩:=ls hT hr hf (KS (X:=X) hq h2)
   injection g1 with g1
   subst g1
   refine⟨v,.inl ⟨want hf,fun w' _=>g3 w' fun hl=>?_⟩,g2⟩
   unfold yZ at hp
   rw[hl]at hp
   simp at hp
  obtain⟨s',v,g1,g2,g3⟩:=ls hT hr hf (KS (X:=X) hq h2)
  injection g1 with g1
  subst g1
  unfold wpOp
  simp only[hops]
  rw[avr (want hf)]
  refine .inl ?_
  unfold Oper.wp
  rw[g3 w (fun _=>Agr.refl)]
  exact hK v G w (Old.refl w) hr (fun _ _ h=>h) g2
 ·split at h
  ·rename_i f args tys ht ho
   unfold afd at h
   split at h<;>try (cases h;done)
   rename_i sp hsp
   obtain⟨hcl,hok,_⟩:=hE f sp hsp
   split at h<;>try (cases h;done)
   rename_i ss hss
   split at h<;>try (cases h;done)
   rename_i al hal hno
   obtain⟨rs,hk,hcon⟩:=hok _ _ _ _ h
   split at hk<;>try (cases hk;done)
   rename_i s hs
   refine⟨s,hk,fun X Z w0 n G w a Q K hI hr hf hK=>?_,fun hp=>by
    unfold yZ at hp
    rw[‹jf o.op=false›]at hp
    cases hp⟩
   have hrel:cz (Rel1 [] (Av Z (H++X) G) w) al (args.toList.map a.eval):=by
    refine nK (A:=Av Z (H++X) G) (ss0:=ss) hr (fun _ _ h=>h) (.inr ?_) (fun s hs=>hs) (E5 hno hal) (kL hf hss)
    intro s hs
    exact avq.1 hno _ hs
   unfold wpOp
   simp only[hops]
   rw[avr (want hf)]
   refine .inl ?_
   unfold Oper.wp
   rw[jF hcl a.eval o (.func f) args tys #[] ho rfl w]
   have e1:Array.map a.eval args++ #[]=(args.toList.map a.eval).toArray:=by obtain⟨l⟩:=args;simp
   rw[e1]
   refine(hcon _ w _ (oN hI hr.below) hrel).mono ?_
   rintro e w' ⟨v,rfl,hb,hres⟩
   obtain⟨s',H',G',k1,k2,k3,k4,k5⟩:=lZ hr hf hb hres (.inl fun _ _ h=>h) (Im hs) (H++X).length false false
   injection k1 with k1
   injection k1 with k1 k1'
   subst k1 k1'
   refine hK v G' w' ⟨hb.size,fun b hbs=>hb.block b hbs⟩ k2 (fun s' v' h=>k5.pres s' v' h fun i hi=>v8 (rC hr h) hi) k4
  ·cases h
theorem qa{Lr:SL}{o:Oper}{j:Nat}(hops:ops[j]?=some o)(hg:cH ops Lr o (fun _=>some true) (fun _=>some false)=some false):StepF P H ops Lr o j .undef:=by
 intro X Z w0 n G w a Q K hI hr hf hK
 have want:Region.wanted o (yielded ops a.tmps)=false:=by
  rcases eO hf hg with⟨_,h1,_,_⟩|⟨_,_,_,h3⟩
  ·cases h1
  ·exact h3
 unfold wpOp
 simp only[hops]
 rw[avn (by rw[want];simp)]
 exact hK undef G w (Old.refl w) hr (fun _ _ h=>h) rfl
inductive TRun (P:Program) (E:Env) (ops:Array Oper) (N:Nat) (H:List Item) (lo:Bool) (Stp Fin:Nat→Array Bool→SL→Prop):Nat→Array Bool→SL→Prop
 |done {n:Nat} {l:Array Bool} {L:SL}:eW E ops l=true→Fin n l L→TRun P E ops N H lo Stp Fin n l L
 |stop {n:Nat} {l:Array Bool} {L:SL}:Region.ready .any ops l=[]→Stp n l L→TRun P E ops N H lo Stp Fin n l L
 |step {n:Nat} {l:Array Bool} {L L':SL} {j:Nat} {o:Oper} {d:Nat} {s:SV}:j∈Region.ready .any ops l→(ii E ops j=true∨StepP P H ops (fC L (o.looksAt ops)) o s∨lo=true)→dS E ops j=true→ops[j]?=some o→o.dst=some d→d<N→Region.free .any ops l j=true→StepF P H ops (fC L (o.looksAt ops)) o j s→
   s.refsT H.length=true→(∀t,aW L' t=if t=d then some s else aW L t)→TRun P E ops N H lo Stp Fin n (l.setIfInBounds j true) L'→TRun P E ops N H lo Stp Fin (n+1) l L
variable {N:Nat} {lo:Bool} {Stp Fin:Nat→Array Bool→SL→Prop}
theorem mB{l:Array Bool}(hc:Clo ops l)(h:eW E ops l=true){j:Nat}(hj:j∈Region.ready .any ops l):dS E ops j=false:=by
 obtain⟨h1,o,h2,h3⟩:=awh.1 hj
 have:=avq.1 h j (axY.2 (avh.1 h2).1)
 rw[h1]at this
 simp only[Bool.false_or,awM,av3]at this
 rcases this with h4|h4
 ·exact h4
 ·rw[List.any_eq_true]at h4
  obtain⟨s,hs,hb⟩:=h4
  simp only[au8,av3]at hb
  have:=jA hc (fun os hos e he hb=>by rw[h2]at hos;injection hos with hos;subst hos;exact h3 e he hb) hb.2
  rw[hb.1.2]at this
  cases this
theorem AC{l:Array Bool}(h:eW E ops l=true)(j:Nat)(hj:ez E ops j=false):eW E ops (l.setIfInBounds j true)=true:=by
 refine avq.2 fun k hk=>?_
 have:=avq.1 h k hk
 by_cases hjk:j=k
 ·subst hjk;rw[ib];rfl
 ·rw[awI true hjk]
  simp only[awM]at this ⊢
  rcases this with h1|h1
  ·exact .inl h1
  ·refine .inr ?_
   rw[List.any_eq_true]at h1 ⊢
   obtain⟨s,hs,hb⟩:=h1
   refine⟨s,hs,?_⟩
   simp only[au8]at hb ⊢
   have hne:j≠s:=fun e'=>by rw[←e',hj]at hb;cases hb.1.1
   rw[awI true hne]
   exact hb
theorem wF{l:Array Bool}(hc:Clo ops l){i j:Nat}(h:ii E ops i=true)(hi:l.getD i true=false)(hj:j∈Region.ready .any ops l):ez E ops j=false:=by
 obtain⟨_,o,ho,hall⟩:=awh.1 hj
 have h1:=avq.1 h j (by simpa using(avh.1 ho).1)
 simp only[awM,av3]at h1
 rcases h1 with h1|h1
 ·exact h1
 ·have:=sC hc h1 (fun os hos e he hb=>by rw[ho]at hos;injection hos with hos;subst hos;exact hall e he hb)
  rcases avt i l.size with hlt|hge
  ·simp[hlt]at hi this;rw[hi]at this;cases this
  ·simp[avM hge]at this
theorem kI{l:Array Bool}{i j:Nat}{oi:Oper}(h2:ops[i]?=some oi)(hjun:l.getD j true=false)(h5:Region.free .any ops l i=true):Region.free .any ops (l.setIfInBounds j true) i=true:=by
 have hjn:∀k,(l.setIfInBounds j true).getD k true=false→l.getD k true=false:=fun k hk=>by
  by_cases hjk:j=k
  ·subst hjk;exact hjun
  ·rw[awI true hjk]at hk;exact hk
 simp only[Region.free,h2,avq,axY]at h5 ⊢
 intro k hk
 have:=h5 k hk
 cases hd:(l.setIfInBounds j true).getD k true with
 |true=>simp
 |false=>rw[hjn k hd]at this;simpa [hd]using this
theorem ie{o:Oper}(h:bJ o=true):fp E o=false:=by
 unfold bJ at h
 unfold fp jf DX
 cases hop:o.op<;>rw[hop]at h<;>simp at h
 rfl
theorem yw{o:Oper}(h:fp E o=true):dB o.op=false:=by
 unfold fp jf DX at h
 cases hop:o.op<;>rw[hop]at h<;>first|rfl|(simp[isQ]at h)
theorem TRun.any{n:Nat}{l:Array Bool}{L:SL}(h:TRun P E ops N H lo Stp Fin n l L):Clo ops l→∀{j:Nat},j∈Region.ready .any ops l→dS E ops j=true→
  ∃(n':Nat) (o:Oper) (d:Nat) (s:SV) (L':SL),n=n'+1∧ops[j]?=some o∧o.dst=some d∧d<N∧StepF P H ops (fC L (o.looksAt ops)) o j s∧s.refsT H.length=true∧(∀t,aW L' t=if t=d then some s else aW L t)∧TRun P E ops N H lo Stp Fin n' (l.setIfInBounds j true) L':=by
 induction h with
 |done h1 h2=>intro hcl j hj hs;rw[mB hcl h1 hj]at hs;cases hs
 |stop h1 h2=>intro _ j hj;rw[h1]at hj;cases hj
 | @step n l L L1 i oi di si h1 h0 h0' h2 h3 h4 h5 h6 hrf h7 h8 ih=>
  intro hcl j hj hst
  by_cases hji:j=i
  ·subst hji
   exact⟨n,oi,di,si,L1,rfl,h2,h3,h4,h6,hrf,h7,h8⟩
  ·obtain⟨n',oj,dj,sj,L2,e1,g2,g3,g4,g6,grf,g7,g8⟩:=ih (hcl.set h1) (awz hj hji) hst
   have hjun:=(awh.1 hj).1
   have hap:=awD h2 h5 j oj g2 hji hjun (eg h1 hj g2)
   obtain⟨a1,a2,a3⟩:=axv hap
   have b1:=a1 di h3
   have b2:dj≠di:=fun e=>a2 di h3 (by rw[g3,e])
   have b3:=a3 dj g3
   have c1:StepF P H ops (fC L (oj.looksAt ops)) oj j sj:=by
    rw[←dJ (L:=L1) (M:=L) fun t ht=>by rw[h7 t,avn (fun e=>b1 (by rw[←e];exact ht))]]
    exact g6
   refine⟨n,oj,dj,sj,(dj,sj)::l7 L dj,rfl,g2,g3,g4,c1,grf,fun t=>cG,?_⟩
   rw[e1]
   refine .step (j:=i) (L':=L2) (awz h1 (awt hji)) ?_ h0' h2 h3 h4 (kI h2 hjun h5) ?_ hrf (fun t=>?_) ?_ (s:=si)
   ·rw[dJ (M:=L) fun t ht=>by rw[cG,avn (fun e=>b3 (by rw[←e];exact ht))]]
    exact h0
   ·rw[dJ (M:=L) fun t ht=>by rw[cG,avn (fun e=>b3 (by rw[←e];exact ht))]]
    exact h6
   ·rw[g7 t,h7 t,cG]
    by_cases e1:t=dj
    ·subst e1;rw[avr rfl,avn b2];rw[avr rfl]
    ·rw[avn e1,avn e1]
   ·rw[av0 _ _ hji]
    exact g8
theorem TRun.alloc{la:List AlA}(hFin:∀n l L j oj,Fin n l L→j∈Region.ready .any ops l→eW E ops l=true→ops[j]?=some oj→bJ oj=true→∃n' r a L',n=n'+1∧la[r]?=some a∧a.i=j∧oj.dst=some a.d∧a.d<N∧(∃x,oj.op=.alloc a.t∧dH T a.t=some x∧x.z=true∧(∀p q,x.ty≠.pair p q)∧a.cs=x.ty.zsplit)∧(∀t,aW L' t=if t=a.d then some (.box (H.length+r) 0)else aW L t)∧TRun P E ops N H lo Stp Fin n' (l.setIfInBounds j true) L')
  {n:Nat} {l:Array Bool} {L:SL} (h:TRun P E ops N H lo Stp Fin n l L):Clo ops l→∀{j:Nat} {oj:Oper},j∈Region.ready .any ops l→ops[j]?=some oj→bJ oj=true→
  ∃(n' r:Nat) (a:AlA) (L':SL),n=n'+1∧la[r]?=some a∧a.i=j∧oj.dst=some a.d∧a.d<N∧(∃x,oj.op=.alloc a.t∧dH T a.t=some x∧x.z=true∧(∀p q,x.ty≠.pair p q)∧a.cs=x.ty.zsplit)∧(∀t,aW L' t=if t=a.d then some (.box (H.length+r) 0)else aW L t)∧TRun P E ops N H lo Stp Fin n' (l.setIfInBounds j true) L':=by
 induction h with
 |done h1 h2=>intro _ j oj hj hoj hal;exact hFin _ _ _ _ _ h2 hj h1 hoj hal
 |stop h1 h2=>intro _ j oj hj;rw[h1]at hj;cases hj
 | @step n l L L1 i oi di si h1 h0 h0' h2 h3 h4 h5 h6 hrf h7 h8 ih=>
  intro hcl j oj hj hoj hal
  by_cases hji:j=i
  ·exfalso
   subst hji
   unfold dS at h0'
   rw[hoj]at h0'
   dsimp only at h0'
   rw[ie hal]at h0'
   cases h0'
  ·obtain⟨n',r,x,L2,e1,e2,e3,g3,g4,g5,g7,g8⟩:=ih (hcl.set h1) (awz hj hji) hoj hal
   have hjun:=(awh.1 hj).1
   have hap:=awD h2 h5 j oj hoj hji hjun (eg h1 hj hoj)
   obtain⟨a1,a2,a3⟩:=axv hap
   have b2:x.d≠di:=fun e=>a2 di h3 (by rw[g3,e])
   have b3:=a3 x.d g3
   refine⟨n,r,x,(x.d,.box (H.length+r) 0)::l7 L x.d,rfl,e2,e3,g3,g4,g5,fun t=>cG,?_⟩
   rw[e1]
   refine .step (j:=i) (L':=L2) (awz h1 (awt hji)) ?_ h0' h2 h3 h4 (kI h2 hjun h5) ?_ hrf (fun t=>?_) ?_ (s:=si)
   ·rw[dJ (M:=L) fun t ht=>by rw[cG,avn (fun e=>b3 (by rw[←e];exact ht))]]
    exact h0
   ·rw[dJ (M:=L) fun t ht=>by rw[cG,avn (fun e=>b3 (by rw[←e];exact ht))]]
    exact h6
   ·rw[g7 t,h7 t,cG]
    by_cases e1:t=x.d
    ·subst e1;rw[avr rfl,avn b2];rw[avr rfl]
    ·rw[avn e1,avn e1]
   ·rw[av0 _ _ hji]
    exact g8
theorem TRun.store{ss:List AlS}(hFin:∀n l L j oj,Fin n l L→Clo ops l→j∈Region.ready .any ops l→eW E ops l=true→ops[j]?=some oj→ez E ops j=true→∃n' s,n=n'+1∧s∈ss∧s.i=j∧pk T L s oj∧TRun P E ops N H lo Stp Fin n' (l.setIfInBounds j true) L)
  {n:Nat} {l:Array Bool} {L:SL} (h:TRun P E ops N H lo Stp Fin n l L):Clo ops l→∀{j:Nat} {oj:Oper},j∈Region.ready .any ops l→ops[j]?=some oj→ez E ops j=true→
  ∃(n':Nat) (s:AlS),n=n'+1∧s∈ss∧s.i=j∧pk T L s oj∧TRun P E ops N H lo Stp Fin n' (l.setIfInBounds j true) L:=by
 induction h with
 |done h1 h2=>intro hcl j oj hj hoj hal;exact hFin _ _ _ _ _ h2 hcl hj h1 hoj hal
 |stop h1 h2=>intro _ j oj hj;rw[h1]at hj;cases hj
 | @step n l L L1 i oi di si h1 h0 h0' h2 h3 h4 h5 h6 hrf h7 h8 ih=>
  intro hcl j oj hj hoj hal
  by_cases hji:j=i
  ·exfalso
   subst hji
   unfold dS at h0'
   unfold ez at hal
   rw[hoj]at h0' hal
   dsimp only at h0' hal
   rw[h0']at hal
   cases hal
  ·obtain⟨n',s,e1,e2,e3,g5,g8⟩:=ih (hcl.set h1) (awz hj hji) hoj hal
   have hjun:=(awh.1 hj).1
   have hap:=awD h2 h5 j oj hoj hji hjun (eg h1 hj hoj)
   obtain⟨a1,a2,a3⟩:=axv hap
   have b1:=a1 di h3
   refine⟨n,s,rfl,e2,e3,?_,?_⟩
   ·obtain⟨t,x,v,sv,y,q1,q2,q3,q4,q5,q6⟩:=g5
    have hop:∀{z:Operand} {sz:SV},(∀u,z=.tmp u→u∈oj.looksAt ops)→opS L1 z=some sz→opS L z=some sz:=by
     intro z sz hz he
     cases z with
     |tmp u=>
      simp only[opS]at he ⊢
      rw[h7 u,avn (fun e=>b1 (by rw[←e];exact hz u rfl))]at he
      exact he
     |_=>exact he
    refine⟨t,x,v,sv,y,q1,q2,q3,hop (fun u hu=>?_) q4,hop (fun u hu=>?_) q5,q6⟩
    ·unfold Oper.looksAt;rw[q1,hu];simp[Op.operands]
    ·unfold Oper.looksAt;rw[q1,hu];simp[Op.operands]
   ·rw[e1]
    refine .step (j:=i) (L':=L1) (awz h1 (awt hji)) h0 h0' h2 h3 h4 (kI h2 hjun h5) h6 hrf h7 ?_ (s:=si)
    rw[av0 _ _ hji]
    exact g8
theorem qv{f:Nat→Bool}{H Y:List Item}:∀{ss:List AlS},(∀s∈ss,H.length≤s.j)→∃X,cL f ss (H++Y)=H++X
 |[],_=>⟨Y,rfl⟩
 |s::r,h=>by
  obtain⟨X,hX⟩:=qv (f:=f) (H:=H) (Y:=Y) (ss:=r) fun s hs=>h s (by simp[hs])
  simp only[cL]
  rw[hX]
  split
  ·unfold stP
   split
   ·rename_i bt cells hb
    rw[axQ,avn (by have:=h s (by simp);omega)]
    exact⟨_,rfl⟩
   ·exact⟨X,rfl⟩
  ·exact⟨X,rfl⟩
theorem FR.eqv{Z:Nat→Prop}{n:Nat}{L M:SL}{H:List Item}{G:List Value}{w:World}{a:Act}(h:FR Z n L H G w a)(he:∀t,aW L t=aW M t):FR Z n M H G w a:=
 ⟨h.defers,h.size,fun t s hs=>h.slot t s (by rw[he t];exact hs)⟩
theorem nC{Q:Exit→Act→World→Prop}{S0:World→Prop}:∀(n:Nat) (l:Array Bool) (a:Act) (w:World),wpG P ops Q S0 n l a w→wpG P ops Q (fun _=>True) n l a w
 |0,_,_,_,h=>h
 |n+1,_,_,_,h=>⟨h.1,fun i hi=>wpOp_mono (fun _ _ h'=>⟨.inr trivial,nC n _ _ _ h'.2⟩) (h.2 i hi)⟩
theorem TRun.sound{Z:Nat→Prop}{w0:World}{fl:Nat}{Q:Exit→Act→World→Prop}{X:List Item→List Value→World→Prop}{la:List AlA}{ss:List AlS}{S0:World→Prop}(hS0:∀w w',S0 w→Old w w'→S0 w')(hSs:ss≠[]→∀w,S0 w)(hT:eF P T=true)(hE:kf P E)(hI:inv w0)(hsel:∀(j:Nat) (o:Oper) cs b,ops[j]?=some o→o.op≠.select cs b)(hPQ:∀c a d v w,Q (.panic c) (Act.put a d v) w→Q (.panic c) a w)
  (hFin:∀n l L j oj,Fin n l L→j∈Region.ready .any ops l→eW E ops l=true→ops[j]?=some oj→bJ oj=true→∃n' r a L',n=n'+1∧la[r]?=some a∧a.i=j∧oj.dst=some a.d∧a.d<N∧(∃x,oj.op=.alloc a.t∧dH T a.t=some x∧x.z=true∧(∀p q,x.ty≠.pair p q)∧a.cs=x.ty.zsplit)∧(∀t,aW L' t=if t=a.d then some (.box (H.length+r) 0)else aW L t)∧TRun P E ops N H lo Stp Fin n' (l.setIfInBounds j true) L')
  (hFinS:lo=true→∀n l L j oj,Fin n l L→Clo ops l→j∈Region.ready .any ops l→eW E ops l=true→ops[j]?=some oj→ez E ops j=true→∃n' s,n=n'+1∧s∈ss∧s.i=j∧pk T L s oj∧TRun P E ops N H lo Stp Fin n' (l.setIfInBounds j true) L)
  (hp:PlanOk T ops N H la ss) (hnew:∀s∈ss,H.length≤s.j) (hlow:mg H.length H) (hfl:fl≤H.length)
  (hX:∀H G w H' G' w',X H G w→Ev Z fl H G w H' G' w'→X H' G' w') (hQ:∀n l L G w a,Fin n l L∨(Stp n l L∧Region.ready .any ops l=[])→S0 w→Clo ops l→l.size=ops.size→yp H.length la (dn l) L→SR Z w0 (cL (dn l) ss (H++alX (dn l) la)) G w→FR Z N L (cL (dn l) ss (H++alX (dn l) la)) G w a→X (cL (dn l) ss (H++alX (dn l) la)) G w→wpG P ops Q S0 n l a w):
  ∀(n:Nat) (l:Array Bool) (L:SL),TRun P E ops N H lo Stp Fin n l L→Clo ops l→l.size=ops.size→yp H.length la (dn l) L→∀(G:List Value) (w:World) (a:Act),SR Z w0 (cL (dn l) ss (H++alX (dn l) la)) G w→FR Z N L (cL (dn l) ss (H++alX (dn l) la)) G w a→X (cL (dn l) ss (H++alX (dn l) la)) G w→S0 w→wpG P ops Q S0 n l a w:=by
 have lowS:∀{l:Array Bool} {L L':SL} {j d:Nat} {s:SV},yp H.length la (dn l) L→s.refsT H.length=true→(∀t,aW L' t=if t=d then some s else aW L t)→yp H.length la (dn (l.setIfInBounds j true)) L':=by
  intro l L L' j d s hL hs hL' t u hu
  rw[hL' t]at hu
  split at hu
  ·injection hu with hu
   subst hu
   exact .inl hs
  ·rcases hL t u hu with h|⟨r,a,h1,h2,h3⟩
   ·exact .inl h
   ·refine .inr ⟨r,a,h1,?_,h3⟩
    rw[iC]
    split
    ·rfl
    ·exact h2
 intro n
 induction n with
 |zero=>
  intro l L h hcl hsz hL G w a hr hf hx hs0
  cases h with
  |done h1 h2=>exact hQ 0 l L G w a (.inl h2) hs0 hcl hsz hL hr hf hx
  |stop h1 h2=>exact hQ 0 l L G w a (.inr ⟨h2,h1⟩) hs0 hcl hsz hL hr hf hx
 |succ n ih=>
  intro l L h hcl hsz hL G w a hr hf hx hs0
  have h':=h
  cases h with
  |done h1 h2=>exact hQ _ l L G w a (.inl h2) hs0 hcl hsz hL hr hf hx
  |stop h1 h2=>exact hQ _ l L G w a (.inr ⟨h2,h1⟩) hs0 hcl hsz hL hr hf hx
  | @step _ _ _ L1 i oi di si h1 h0 h0' h2 h3 h4 h5 h6 hrf h7 h8=>
   have ht:fp E oi=true:=by
    unfold dS at h0'
    rw[h2]at h0'
    exact h0'
   have hnal:bJ oi=false:=by
    cases hq:bJ oi with
    |false=>rfl
    |true=>rw[ie hq]at ht;cases ht
   rw[←or_assoc,or_right_comm]at h0
   rcases h0 with h0|h0
   rotate_left
   ·have hns:dB oi.op=false:=by
     unfold fp jf DX at ht
     cases hop:oi.op<;>rw[hop]at ht<;>first|rfl|(simp[isQ]at ht)
    obtain⟨Y,hY⟩:=qv (f:=dn l) (Y:=alX (dn l) la) hnew
    have e1:=hp.setT (l:=l) h2 hnal h3
    obtain⟨v,y1,y2⟩:=h0 Y Z w0 N G w a (by rw[←hY];exact hr) (by rw[←hY];exact⟨hf.defers,hf.size,fun t s' hs=>hf.slot t s' (gj hs)⟩)
    rw[←hY]at y2
    refine F4 h2 hsel (fun c a w hq=>hPQ c a _ _ w hq) hns n l a w (awD h2 h5) h1 y1 (.inr hs0) (ih _ _ h8 (hcl.set h1) (by simpa using hsz) (lowS hL hrf h7) G w _ (by rw[e1];exact hr) ?_ (by rw[e1];exact hx) hs0)
    have hf1:=hf.put (d:=some di) (L':=(di,si)::l7 L di) (s:=si) (by
     simp only[dL]
     rw[avx h4]) y2
    rw[←h3]at hf1
    rw[e1]
    exact hf1.eqv fun t=>by rw[cG,h7 t]
   refine rO rfl (fun e=>by rw[e]at h1;cases h1) fun j hj=>?_
   obtain⟨hjun,oj,hoj,_⟩:=awh.1 hj
   cases hnl:ez E ops j with
   |true=>
    have hlo:lo=true:=h0.resolve_left fun h0=>by
     rw[wF hcl h0 (awh.1 h1).1 hj]at hnl
     cases hnl
    obtain⟨n',s,e1,e2,e3,g5,g8⟩:=h'.store (T:=T) (hFinS hlo) hcl hj hoj hnl
    have e1:n=n':=by omega
    subst e1 e3
    obtain⟨_,oj',hoj',hdep⟩:=awh.1 hj
    rw[hoj]at hoj'
    injection hoj' with hoj'
    subst hoj'
    obtain⟨bt,c',b1,b2⟩:=hp.box hcl e2 fun os hos e he hb=>by rw[hoj]at hos;injection hos with hos;subst hos;exact hdep e he hb
    refine qc (fl:=fl) hT hE hI hoj g5 b1 b2 hr hf hx hX fun G' w' k2 k3 k5=>⟨.inr (hSs (fun e=>by rw[e]at e2;cases e2) w'),?_⟩
    rw[←hp.setS e2 hjun]at k2 k3 k5
    refine ih _ _ g8 (hcl.set hj) (by simpa using hsz) (fun t u hu=>?_) G' w' _ k2 k3 k5 (hSs (fun e=>by rw[e]at e2;cases e2) w')
    rcases hL t u hu with h|⟨r,b,q1,q2,q3⟩
    ·exact .inl h
    ·refine .inr ⟨r,b,q1,?_,q3⟩
     rw[iC]
     split
     ·rfl
     ·exact q2
   |false=>
   cases hal:bJ oj with
   |false=>
    have hst:dS E ops j=true:=by
     unfold ez at hnl
     unfold dS
     rw[hoj]at hnl ⊢
     simpa [hal]using hnl
    obtain⟨n',o,d,s,L',e1,g2,g3,g4,g5,grf,g6,g7⟩:=h'.any hcl hj hst
    have e1:n=n':=by omega
    subst e1
    have e1:=hp.setT (l:=l) g2 (by rw[hoj]at g2;injection g2 with g2;subst g2;exact hal) g3
    obtain⟨Y,hY⟩:=qv (f:=dn l) (Y:=alX (dn l) la) hnew
    rw[hY]at hr hf hx
    refine g5 Y Z w0 N G w a Q _ hI hr ⟨hf.defers,hf.size,fun t s' hs=>hf.slot t s' (gj hs)⟩ fun v G' w' k0 k1 k2 k3=>⟨.inr (hS0 _ _ hs0 k0),?_⟩
    rw[hY]at e1
    have hf1:FR Z N ((d,s)::l7 L d) (H++Y) G' w' (a.put o.dst v):=by
     refine(hf.keep k2).put (d:=o.dst) (s:=s) ?_ k3
     rw[g3]
     simp only[dL]
     rw[avx (show d+1≤N by omega)]
    refine ih _ _ g7 (hcl.set hj) (by simpa using hsz) (lowS hL grf g6) G' w' _ (by rw[e1];exact k1) (by rw[e1];exact hf1.eqv fun t=>by rw[cG,g6 t]) (by rw[e1];exact hX _ _ _ _ _ _ hx fun s v hs _=>k2 s v hs) (hS0 _ _ hs0 k0)
   |true=>
    obtain⟨n',r,x,L',e1,e2,e3,g3,g4,⟨y,y5,y6,y7,y8,y9⟩,g7,g8⟩:=h'.alloc (T:=T) hFin hcl hj hoj hal
    have e1:n=n':=by omega
    subst e1 e3
    obtain⟨hset,hgone⟩:=hp.setA hcl hsz e2 hjun
    refine pE (L':=L') hT hoj hal e2 g3 g4 y5 ⟨y,y6,y7,y8,y9⟩ hp.dis hjun hgone (hp.low hlow) hL hfl hr hf hx hX g7 fun v G' w' k0 k1 k2 k3=>⟨.inr (hS0 _ _ hs0 k0),?_⟩
    rw[←hset]at k1 k2 k3
    refine ih _ _ g8 (hcl.set hj) (by simpa using hsz) (fun t u hu=>?_) G' w' _ k1 k2 k3 (hS0 _ _ hs0 k0)
    rw[g7 t]at hu
    split at hu
    ·injection hu with hu
     exact .inr ⟨r,x,e2,by rw[iC,avr rfl],hu.symm⟩
    ·rcases hL t u hu with h|⟨r',b,q1,q2,q3⟩
     ·exact .inl h
     ·refine .inr ⟨r',b,q1,?_,q3⟩
      rw[iC]
      split
      ·rfl
      ·exact q2
theorem EK{D:List Nat}:∀{rs:List Nat} {j:Nat},zK E ops D rs=some j→j∈rs∧∃o d,ops[j]?=some o∧fp E o=true∧o.dst=some d∧Region.free .any ops (mkL ops.size D) j=true∧(ii E ops j=true∨yZ o=true∨(!(cq E ops))=true)
 |[],_,h=>by simp[zK]at h
 |q::rs,j,h=>by
  simp only[zK]at h
  split at h<;>try (cases h;done)
  rename_i o ho
  split at h
  ·rename_i hb
   injection h with h
   subst h
   simp only[au8]at hb
   obtain⟨d,hd⟩:=avZ.1 hb.1.1.2
   simp only[awM]at hb
   exact⟨by simp,o,d,ho,hb.1.1.1,hd,hb.1.2,by rcases hb.2 with(h|h)|h;exact .inr (.inl h);exact .inl h;exact .inr (.inr h)⟩
  ·obtain⟨h1,h2⟩:=EK h
   exact⟨by simp[h1],h2⟩
end
section
variable {F:FT} {P:Program} {T:TT} {E:Env} {N:NT} {Fn:Nat→Cfg→Option (List RV)} {r:List RV}
def rX(P:Program)(F:FT)(T:TT)(E:Env)(N:NT)(Fn:Nat→Cfg→Option (List RV))(r:List RV)(c:Cfg)(i:Nat)(la:List AlA)(ss:List AlS)(m n:Nat)(l:Array Bool)(L:SL):Prop:=
 (∃D q,cq E (aq (nth (ao F c.f) i))=true∧(aq (nth (ao F c.f) i)).toList.any bJ=false∧la=[]∧ss=[]∧l=mkL (aq (nth (ao F c.f) i)).size D∧n+D.length=(aq (nth (ao F c.f) i)).size∧(∀j∈D,∀o,(aq (nth (ao F c.f) i))[j]?=some o→dB o.op=false)∧q<m∧go P F T E N Fn q {c with L:=L} (.drw i (!((aq (nth (ao F c.f) i)).any fun o=>mq o.op)) false D)=some r)∨
 (∃D q L0 ss',alA T (ntm F c.f) (aq (nth (ao F c.f) i)).toList 0=some la∧alS T E (aq (nth (ao F c.f) i)) (mkL (aq (nth (ao F c.f) i)).size D) la c.H.length (fJ (fun _=>true) la c.H.length L0) (c.H++alX (fun _=>true) la) (aq (nth (ao F c.f) i)).toList 0=some ss'∧II (aq (nth (ao F c.f) i)) (mkL (aq (nth (ao F c.f) i)).size D) (la.map (·.i)++ss'.map (·.i))=true∧KW E (aq (nth (ao F c.f) i)) (mkL (aq (nth (ao F c.f) i)).size D) (la.map (·.i)++ss'.map (·.i))=true∧
  ((cq E (aq (nth (ao F c.f) i))=true∧ss=[]∧∀s∈ss',l.getD s.i true=false)∨(cq E (aq (nth (ao F c.f) i))=false∧ss=ss'∧(∀s∈ss',c.H.length≤s.j)∧∀k,k<(aq (nth (ao F c.f) i)).size→(mkL (aq (nth (ao F c.f) i)).size D).getD k true=true∨dS E (aq (nth (ao F c.f) i)) k=false))∧
  ((la.map (·.i)++ss'.map (·.i))++D).length≤(aq (nth (ao F c.f) i)).size∧q<m∧go P F T E N Fn q {c with L:=fJ (fun _=>true) la c.H.length L0,H:=cL (fun _=>true) ss' (c.H++alX (fun _=>true) la)} (.drw i true true ((la.map (·.i)++ss'.map (·.i))++D))=some r∧
  cu l≤n∧(∀k,(mkL (aq (nth (ao F c.f) i)).size D).getD k false=true→l.getD k false=true)∧(∀k,l.getD k true=true→(mkL (aq (nth (ao F c.f) i)).size D).getD k true=true∨k∈la.map (·.i)++ss'.map (·.i))∧
  (∀t s,aW L0 t=some s→s.refsT c.H.length=true)∧∀t,aW L t=aW (fJ (dn l) la c.H.length L0) t)∨
 (∃D q j o,cq E (aq (nth (ao F c.f) i))=true∧(aq (nth (ao F c.f) i)).toList.any bJ=false∧la=[]∧ss=[]∧l=mkL (aq (nth (ao F c.f) i)).size D∧n+D.length=(aq (nth (ao F c.f) i)).size∧D.length+1≤(aq (nth (ao F c.f) i)).size∧Region.ready .any (aq (nth (ao F c.f) i)) (mkL (aq (nth (ao F c.f) i)).size D)=[j]∧(aq (nth (ao F c.f) i))[j]?=some o∧q<m∧
  cH (aq (nth (ao F c.f) i)) L o (fun L=>match Dy F E L o.op with
   |some (g,ss)=>go P F T E N Fn q {f:=g,K:=[],L:=rR 0 ss,H:=c.H,fl:=c.H.length,fs:={f:=c.f,K:=c.K,i:=i,k:=j,L:=yA N c.f i L,fl:=c.fl,d:=some (j::D)}::c.fs} (.node 0)
   |none=>none) (fun L=>match dL (ntm F c.f) L o.dst .undef with
   |some L'=>go P F T E N Fn q {c with L:=L'} (.tal i (j::D))
   |none=>none)=some r)
theorem TRun.mono{P:Program}{ops:Array Oper}{N:Nat}{H:List Item}{lo:Bool}{Stp Stp' Fin Fin':Nat→Array Bool→SL→Prop}(hS:∀n l L,Stp n l L→Stp' n l L)(hF:∀n l L,Fin n l L→Fin' n l L){n:Nat}{l:Array Bool}{L:SL}(h:TRun P E ops N H lo Stp Fin n l L):TRun P E ops N H lo Stp' Fin' n l L:=by
 induction h with
 |done h1 h2=>exact .done h1 (hF _ _ _ h2)
 |stop h1 h2=>exact .stop h1 (hS _ _ _ h2)
 |step h1 h0 h0' h2 h3 h4 h5 h6 hrf h7 h8 ih=>exact .step h1 h0 h0' h2 h3 h4 h5 h6 hrf h7 ih
theorem Ni{N:Nat}{ops:Array Oper}{l:Array Bool}{L L1:SL}{H H1:List Item}{C:List Nat}(h:acs T E N ops l L H=some (L1,H1,C)):∃la ss,alA T N ops.toList 0=some la∧alS T E ops l la H.length (fJ (fun _=>true) la H.length L) (H++alX (fun _=>true) la) ops.toList 0=some ss∧II ops l (la.map (·.i)++ss.map (·.i))=true∧KW E ops l (la.map (·.i)++ss.map (·.i))=true∧
  (cq E ops=true∨(cq E ops=false∧(∀s∈ss,H.length≤s.j)∧∀k,k<ops.size→l.getD k true=true∨dS E ops k=false))∧C=la.map (·.i)++ss.map (·.i)∧L1=fJ (fun _=>true) la H.length L∧H1=cL (fun _=>true) ss (H++alX (fun _=>true) la):=by
 unfold acs at h
 split at h<;>try (cases h;done)
 rename_i la hla
 split at h<;>try (cases h;done)
 rename_i ss hss
 split at h<;>try (cases h;done)
 rename_i hd
 injection h with h
 injection h with h1 h2
 injection h2 with h2 h3
 simp only[au8]at hd
 refine⟨la,ss,hla,hss,hd.1.1,hd.1.2,?_,h3.symm,h1.symm,h2.symm⟩
 cases hq:cq E ops with
 |true=>exact .inl rfl
 |false=>
  have hd2:=hd.2
  rw[hq,Bool.false_or,au8]at hd2
  refine .inr ⟨rfl,fun s hs=>avc (avq.1 hd2.1 s hs),fun k hk=>?_⟩
  have:=avq.1 hd2.2 k (axY.2 hk)
  simpa using this
theorem xl{i:Nat}{c:Cfg}{la:List AlA}{ss:List AlS}{m:Nat}(n:Nat)(l:Array Bool)(L:SL)(j:Nat)(oj:Oper)(h:rX P F T E N Fn r c i la ss m n l L)(hj:j∈Region.ready .any (aq (nth (ao F c.f) i)) l)(ho:eW E (aq (nth (ao F c.f) i)) l=true)
  (hoj:(aq (nth (ao F c.f) i))[j]?=some oj) (hal:bJ oj=true):∃n' r' a L',n=n'+1∧la[r']?=some a∧a.i=j∧oj.dst=some a.d∧a.d<ntm F c.f∧(∃x,oj.op=.alloc a.t∧dH T a.t=some x∧x.z=true∧(∀p q,x.ty≠.pair p q)∧a.cs=x.ty.zsplit)∧(∀t,aW L' t=if t=a.d then some (.box (c.H.length+r') 0)else aW L t)∧TRun P E (aq (nth (ao F c.f) i)) (ntm F c.f) c.H (!(cq E (aq (nth (ao F c.f) i)))) (fun _ _ _=>False) (rX P F T E N Fn r c i la ss m) n' (l.setIfInBounds j true) L':=by
 rcases h with⟨D,q,_,h1,_⟩|⟨D,q,L0,ss',k1,k2,k3,k4,k5,k6,h2,h3,h4,h5,h6,h6',h7⟩|⟨D,q,j',o',_,h1,_⟩
 ·exfalso
  have:=List.any_eq_false.1 h1 oj (axC.2 (Array.mem_of_getElem? hoj))
  exact this hal
 rotate_left
 ·exfalso
  have:=List.any_eq_false.1 h1 oj (axC.2 (Array.mem_of_getElem? hoj))
  exact this hal
 ·have hp:=u5 k1 k2
  obtain⟨r',x,g1,g2,g3,g4,y,g5⟩:=LQ k1 hoj hal
  have hjun:=(awh.1 hj).1
  have hcu:=zt hjun
  refine⟨n-1,r',x,fJ (dn (l.setIfInBounds j true)) la c.H.length L0,by omega,g1,g2,g3,g4,⟨y,g5⟩,fun t=>?_,.done (AC ho j ?_) (.inr (.inl ⟨D,q,L0,ss',k1,k2,k3,k4,?_,k6,h2,h3,by omega,fun k hk=>axP (h5 k hk),fun k hk=>?_,h6',fun t=>rfl⟩))⟩
  ·rw[Cl (fun k=>by rw[iC,g2]) hp.dis g1 t,h7 t]
  ·unfold ez
   rw[hoj]
   dsimp only
   rw[hal,Bool.not_true,Bool.and_false]
  ·rcases k5 with⟨e1,e2,e3⟩|e
   ·refine .inl ⟨e1,e2,fun s hs=>?_⟩
    obtain⟨⟨o',ho',hal',_⟩,_⟩:=hp.ss1 s hs
    have hne:j≠s.i:=fun e=>by
     subst e
     rw[hoj]at ho'
     injection ho' with ho'
     subst ho'
     rw[hal]at hal'
     cases hal'
    rw[awI true hne]
    exact e3 s hs
   ·exact .inr e
  ·have:=iC l j k
   rw[show dn (l.setIfInBounds j true) k=true from hk]at this
   by_cases e:k=j
   ·subst e
    exact .inr (aw9 _ (axu.2 ⟨x,av1 g1,g2⟩))
   ·rw[avn e]at this;exact h6 k this.symm
theorem Ix{i:Nat}{c:Cfg}{la:List AlA}{ss:List AlS}{m:Nat}(hlo:(!(cq E (aq (nth (ao F c.f) i))))=true)(n:Nat)(l:Array Bool)(L:SL)(j:Nat)(oj:Oper)(h:rX P F T E N Fn r c i la ss m n l L)(hcl:Clo (aq (nth (ao F c.f) i)) l)(hj:j∈Region.ready .any (aq (nth (ao F c.f) i)) l)(_ho:eW E (aq (nth (ao F c.f) i)) l=true)
  (hoj:(aq (nth (ao F c.f) i))[j]?=some oj) (hal:ez E (aq (nth (ao F c.f) i)) j=true):∃n' s,n=n'+1∧s∈ss∧s.i=j∧pk T L s oj∧TRun P E (aq (nth (ao F c.f) i)) (ntm F c.f) c.H (!(cq E (aq (nth (ao F c.f) i)))) (fun _ _ _=>False) (rX P F T E N Fn r c i la ss m) n' (l.setIfInBounds j true) L:=by
 rcases h with⟨D,q,h0,h1,_⟩|⟨D,q,L0,ss',k1,k2,k3,k4,k5,k6,h2,h3,h4,h5,h6,h6',h7⟩|⟨D,q,j',o',h0,h1,_⟩
 ·rw[h0]at hlo;cases hlo
 rotate_left
 ·rw[h0]at hlo;cases hlo
 ·rcases k5 with⟨e1,_⟩|⟨e1,e2,e3,e4⟩
  ·rw[e1]at hlo;cases hlo
  subst e2
  have hp:=u5 k1 k2
  obtain⟨s1,s2,s3⟩:=lh k2
  obtain⟨hjun,oj',hoj',hdep⟩:=awh.1 hj
  rw[hoj]at hoj'
  injection hoj' with hoj'
  subst hoj'
  have hcu:=zt hjun
  have hlate:=hal
  unfold ez at hal
  rw[hoj]at hal
  simp only[au8,av3]at hal
  have hlt:=(avh.1 hoj).1
  have hu0:(mkL (aq (nth (ao F c.f) i)).size D).getD j true=false:=by
   cases hq:(mkL (aq (nth (ao F c.f) i)).size D).getD j true with
   |false=>rfl
   |true=>
    have:=h5 j (by rw[fU (by rw[fb];exact hlt)];exact hq)
    rcases avt j l.size with h'|h'
    ·rw[fU h',hjun]at this;cases this
    ·simp[avM h']at hjun
  obtain⟨s,hsm,hsi⟩:=s1 j oj (by rw[av6];exact hoj) (by rw[avD];exact hu0) hal.2 hal.1
  have hsi:s.i=j:=by omega
  subst hsi
  obtain⟨_,_,o,ho',hno,hok⟩:=s2 s hsm
  rw[axL,av6,hoj]at ho'
  injection ho' with ho'
  subst ho'
  have hst:=ER hok hcl fun os hos e he hb=>by rw[hoj]at hos;injection hos with hos;subst hos;exact hdep e he hb
  have hst':pk T L s oj:=by
   obtain⟨t,x,v,sv,y,q1,q2,q3,q4,q5,q6⟩:=hst
   have hop:∀{z:Operand} {sz:SV},opS (fJ (dn l) la c.H.length L0) z=some sz→opS L z=some sz:=by
    intro z sz he
    cases z with
    |tmp u=>simp only[opS]at he ⊢;rw[h7 u];exact he
    |_=>exact he
   exact⟨t,x,v,sv,y,q1,q2,q3,hop q4,hop q5,q6⟩
  refine⟨n-1,s,by omega,hsm,rfl,hst',.done ?_ (.inr (.inl ⟨D,q,L0,ss,k1,k2,k3,k4,.inr ⟨e1,rfl,e3,e4⟩,k6,h2,h3,by omega,fun k hk=>axP (h5 k hk),fun k hk=>?_,h6',fun t=>?_⟩))⟩
  ·refine avq.2 fun k hk=>?_
   have hk:=axY.1 hk
   rcases e4 k hk with h|h
   ·have:=axP (i:=s.i) (h5 k (by rw[fU (by rw[fb];exact hk)];exact h))
    rcases avt k (l.setIfInBounds s.i true).size with h'|h'
    ·rw[fU h']at this;rw[this];rfl
    ·rw[show(l.setIfInBounds s.i true).getD k true=true by simp[avM h']];rfl
   ·rw[h];simp
  ·have:=iC l s.i k
   rw[show dn (l.setIfInBounds s.i true) k=true from hk]at this
   by_cases e:k=s.i
   ·subst e
    exact .inr (aw0 _ (axu.2 ⟨s,hsm,rfl⟩))
   ·rw[avn e]at this;exact h6 k this.symm
  ·rw[h7 t]
   exact(gU (fun x hx _=>(hp.same hoj hal.2).2 x hx) rfl).symm
theorem Ep{f:Nat→Bool}:∀{la:List AlA} {k:Nat} {L:SL},(∀a∈la,f a.i=false)→fJ f la k L=L
 |[],_,_,_=>rfl
 |a::la,k,L,h=>by
  simp only[fJ]
  rw[h a (by simp)]
  exact Ep fun b hb=>h b (by simp[hb])
theorem v5{n s:Nat}:∀{D:List Nat},s∈D→(mkL n D).getD s true=true
 |[],h=>by cases h
 |j::D,h=>by
  rw[mkL]
  by_cases e:j=s
  ·subst e;exact ib _ _
  ·rw[awI true e]
   exact v5 ((avz.1 h).resolve_left (fun h=>e h.symm))
theorem HI(n:Nat):∀D:List Nat,n≤cu (mkL n D)+D.length
 |[]=>by rw[Jc];exact avb _
 |j::D=>by
  have ih:=HI n D
  rw[mkL,avw]
  cases h:(mkL n D).getD j true with
  |false=>have:=zt h;omega
  |true=>
   have e:(mkL n D).setIfInBounds j true=mkL n D:=by
    refine Array.ext_getElem? fun k=>?_
    by_cases e:j=k
    ·subst e
     rcases avt j (mkL n D).size with h2|h2
     ·rw[Array.getElem?_setIfInBounds_self_of_lt h2]
      rw[avQ,aw4 h2]at h
      rw[aw4 h2]
      exact congrArg some h.symm
     ·rw[avM h2,avM (by simpa using h2)]
    ·rw[Array.getElem?_setIfInBounds_ne e]
   rw[e];omega
theorem xY{P:Program}{ops:Array Oper}{Q:Exit→Act→World→Prop}{S0:World→Prop}:∀(m n:Nat) (l:Array Bool) (a:Act) (w:World),m≤n→wpG P ops Q S0 m l a w→wpG P ops Q S0 n l a w
 |0,n,l,a,w,_,h=>vM h.1 h.2 n
 |m+1,0,_,_,_,hle,_=>by omega
 |m+1,n+1,l,a,w,hle,h=>⟨h.1,fun i hi=>wpOp_mono (fun a' w' h'=>⟨h'.1,xY m n _ a' w' (by omega) h'.2⟩) (h.2 i hi)⟩
theorem ew{n s:Nat}:∀{D:List Nat},s∉D→s<n→(mkL n D).getD s true=false
 |[],_,h=>by simp[mkL,h]
 |j::D,hn,h=>by
  have h1:s≠j:=fun e=>hn (by simp[e])
  rw[mkL,awI true (awt h1)]
  exact ew (fun hm=>hn (by simp[hm])) h
theorem Jj(hT:eF P T=true)(hE:kf P E){i:Nat}{c:Cfg}:∀(m:Nat) (D:List Nat) (L:SL),go P F T E N Fn m {c with L:=L} (.tam i D)=some r→
  cu (mkL (aq (nth (ao F c.f) i)).size D)+D.length=(aq (nth (ao F c.f) i)).size→(∀j∈D,dS E (aq (nth (ao F c.f) i)) j=true)→(∀t s,aW L t=some s→s.refsT c.H.length=true)→Clo (aq (nth (ao F c.f) i)) (mkL (aq (nth (ao F c.f) i)).size D)→∃la ss,PlanOk T (aq (nth (ao F c.f) i)) (ntm F c.f) c.H la ss∧(∀s∈ss,c.H.length≤s.j)∧TRun P E (aq (nth (ao F c.f) i)) (ntm F c.f) c.H (!(cq E (aq (nth (ao F c.f) i)))) (fun _ _ _=>False) (rX P F T E N Fn r c i la ss m) ((aq (nth (ao F c.f) i)).size-D.length) (mkL (aq (nth (ao F c.f) i)).size D) L:=by
 intro m
 induction m with
 |zero=>intro D L h;simp[go]at h
 |succ m ih=>
  intro D L h hlen hD hlowL hcl
  have nostore:∀j∈D,∀o,(aq (nth (ao F c.f) i))[j]?=some o→dB o.op=false∧bJ o=false:=fun j hj o ho=>by
   have:=hD j hj
   unfold dS at this
   rw[ho]at this
   dsimp only at this
   refine⟨yw this,?_⟩
   cases hq:bJ o with
   |false=>rfl
   |true=>rw[ie hq]at this;cases this
  have next:∀{j:Nat} {o:Oper} {d:Nat} {L1 L2:SL} {s:SV},j∈Region.ready .any (aq (nth (ao F c.f) i)) (mkL (aq (nth (ao F c.f) i)).size D)→(aq (nth (ao F c.f) i))[j]?=some o→o.dst=some d→Region.free .any (aq (nth (ao F c.f) i)) (mkL (aq (nth (ao F c.f) i)).size D) j=true→(ii E (aq (nth (ao F c.f) i)) j=true∨StepP P c.H (aq (nth (ao F c.f) i)) (fC L (o.looksAt (aq (nth (ao F c.f) i)))) o s∨(!(cq E (aq (nth (ao F c.f) i))))=true)→fp E o=true→D.length+1≤(aq (nth (ao F c.f) i)).size→
    (∀t,aW L1 t=aW L t)→StepF P c.H (aq (nth (ao F c.f) i)) (fC L (o.looksAt (aq (nth (ao F c.f) i)))) o j s→s.refsT c.H.length=true→dL (ntm F c.f) L1 o.dst s=some L2→go P F T E N Fn m {c with L:=L2} (.tam i (j::D))=some r→∃la ss,PlanOk T (aq (nth (ao F c.f) i)) (ntm F c.f) c.H la ss∧(∀s∈ss,c.H.length≤s.j)∧TRun P E (aq (nth (ao F c.f) i)) (ntm F c.f) c.H (!(cq E (aq (nth (ao F c.f) i)))) (fun _ _ _=>False) (rX P F T E N Fn r c i la ss (m+1)) ((aq (nth (ao F c.f) i)).size-D.length) (mkL (aq (nth (ao F c.f) i)).size D) L:=by
   intro j o d L1 L2 s h1 h2 h3 h4 h4' h4'' h5 h6 h7 hrf h8 h9
   have htj:dS E (aq (nth (ao F c.f) i)) j=true:=by unfold dS;rw[h2];exact h4''
   have hcu:=zt (awh.1 h1).1
   rw[h3]at h8
   simp only[dL]at h8
   split at h8<;>try (cases h8;done)
   rename_i hd
   have hd:=avc hd
   injection h8 with h8
   have hlk:∀t,aW L2 t=if t=d then some s else aW L t:=fun t=>by rw[←h8,cG,h6 t]
   obtain⟨la,ss,hp,hnew,h10⟩:=ih (j::D) L2 h9 (by
    rw[avw]
    show cu ((mkL _ D).setIfInBounds j true)+_=_
    omega) (fun k hk=>by
    rcases avz.1 hk with e|hk
    ·subst e;exact htj
    ·exact hD k hk) (fun t u hu=>by
    rw[hlk t]at hu
    split at hu
    ·injection hu with hu;subst hu;exact hrf
    ·exact hlowL t u hu) (hcl.set h1)
   have h11:=h10.mono (Fin':=rX P F T E N Fn r c i la ss (m+1)) (fun _ _ _ h=>h) (fun n l L hf=>by
    rcases hf with⟨D',q,e1,e2,e3,e4,e5,e6,e7,e8,e9⟩|⟨D',q,L0,ss',e1,e2,e3,e4,e5,e6,e7,e8⟩|⟨D',q,j',o',e1,e2,e3,e4,e5,e6,e7,e8,e9,e10,e11⟩
    ·exact .inl ⟨D',q,e1,e2,e3,e4,e5,e6,e7,by omega,e9⟩
    ·exact .inr (.inl ⟨D',q,L0,ss',e1,e2,e3,e4,e5,e6,by omega,e8⟩)
    ·exact .inr (.inr ⟨D',q,j',o',e1,e2,e3,e4,e5,e6,e7,e8,e9,by omega,e11⟩))
   refine⟨la,ss,hp,hnew,?_⟩
   rw[show(aq (nth (ao F c.f) i)).size-D.length=((aq (nth (ao F c.f) i)).size-(j::D).length)+1 by simp;omega]
   exact .step (L':=L2) h1 h4' htj h2 h3 (by omega) h4 h7 hrf hlk h11
  simp only[go]at h
  split at h
  ·rename_i hall
   have drw:((aq (nth (ao F c.f) i)).toList.any bJ||!(cq E (aq (nth (ao F c.f) i))))=false→go P F T E N Fn m {c with L:=L} (.drw i (!((aq (nth (ao F c.f) i)).any fun o=>mq o.op)) false D)=some r→∃la ss,PlanOk T (aq (nth (ao F c.f) i)) (ntm F c.f) c.H la ss∧(∀s∈ss,c.H.length≤s.j)∧TRun P E (aq (nth (ao F c.f) i)) (ntm F c.f) c.H (!(cq E (aq (nth (ao F c.f) i)))) (fun _ _ _=>False) (rX P F T E N Fn r c i la ss (m+1)) ((aq (nth (ao F c.f) i)).size-D.length) (mkL (aq (nth (ao F c.f) i)).size D) L:=fun hna h=>by
    simp only[axE,Bool.not_eq_false']at hna
    exact⟨[],[],⟨List.Pairwise.nil,fun a ha=>(by cases ha),fun s hs=>(by cases hs),List.Pairwise.nil⟩,fun s hs=>(by cases hs),.done hall (.inl ⟨D,m,hna.2,hna.1,rfl,rfl,rfl,by omega,fun j hj o ho=>(nostore j hj o ho).1,by omega,h⟩)⟩
   split at h
   ·rename_i j hcf
    split at h<;>try (cases h;done)
    rename_i o ho
    unfold Td at hcf
    split at hcf<;>try (cases hcf;done)
    rename_i j' hst hrd
    split at hcf<;>try (cases hcf;done)
    rename_i o' ho'
    split at hcf<;>try (cases hcf;done)
    rename_i x hq hin hble
    injection hcf with hcf
    subst hcf
    simp only[au8,av3]at hst
    exact⟨[],[],⟨List.Pairwise.nil,fun a ha=>(by cases ha),fun s hs=>(by cases hs),List.Pairwise.nil⟩,fun s hs=>(by cases hs),.done hall (.inr (.inr ⟨D,m,j',o,hst.1,hst.2,rfl,rfl,rfl,by have:=avc hble;omega,avc hble,hrd,ho,by omega,h⟩))⟩
   split at h
   ·split at h
    ·rename_i L1 H1 C hals
     split at h<;>try (cases h;done)
     rename_i hble
     obtain⟨la,ss,k1,k2,k3,k4,k5,k6,k7,k8⟩:=Ni hals
     subst k6 k7 k8
     have hp:=u5 k1 k2
     have fin:∀ss0,((cq E (aq (nth (ao F c.f) i))=true∧ss0=[]∧∀s∈ss,(mkL (aq (nth (ao F c.f) i)).size D).getD s.i true=false)∨(cq E (aq (nth (ao F c.f) i))=false∧ss0=ss∧(∀s∈ss,c.H.length≤s.j)∧∀k,k<(aq (nth (ao F c.f) i)).size→(mkL (aq (nth (ao F c.f) i)).size D).getD k true=true∨dS E (aq (nth (ao F c.f) i)) k=false))→rX P F T E N Fn r c i la ss0 (m+1) ((aq (nth (ao F c.f) i)).size-D.length) (mkL (aq (nth (ao F c.f) i)).size D) L:=fun ss0 hs0=>.inr (.inl ⟨D,m,L,ss,k1,k2,k3,k4,hs0,avc hble,by omega,h,by omega,fun _ h=>h,fun _ h=>.inl h,hlowL,fun t=>by
      rw[Ep fun a ha=>?_]
      obtain⟨⟨o,ho,hal⟩,_⟩:=hp.la2 a ha
      exact ew (fun hm=>by rw[(nostore _ hm o ho).2]at hal;cases hal) (avh.1 ho).1⟩)
     rcases k5 with k5|⟨k5,k6,k7⟩
     ·refine⟨la,[],⟨hp.dis,hp.la2,fun s hs=>(by cases hs),List.Pairwise.nil⟩,fun s hs=>(by cases hs),.done hall (fin [] (.inl ⟨k5,rfl,fun s hs=>?_⟩))⟩
      obtain⟨_,hu,_⟩:=(lh k2).2.1 s hs
      exact hu
     ·exact⟨la,ss,hp,k6,.done hall (fin ss (.inr ⟨k5,rfl,k6,k7⟩))⟩
    ·split at h<;>try (cases h;done)
     exact drw (by assumption) h
   ·split at h<;>try (cases h;done)
    exact drw (by assumption) h
  ·rename_i hall
   split at h<;>try (cases h;done)
   rename_i j hb hj
   have hb:=avc hb
   obtain⟨g1,o',d,g2,gt,g3,g4,g5⟩:=EK hj
   split at h<;>try (cases h;done)
   rename_i o ho
   rw[ho]at g2
   injection g2 with g2
   subst g2
   rcases mW h with⟨L1,k1,k2,k3⟩|⟨L1,k1,k2,k3⟩
   ·rw[dJ (M:=L) fun t _=>k1 t]at k2
    obtain⟨s,q1,q2,q3⟩:=By hT hE ho k3 k2
    split at q1<;>try (cases q1;done)
    rename_i L2 hp hrf
    exact next g1 ho g3 g4 (g5.imp id (Or.imp q3 id)) gt hb k1 q2 hrf hp q1
   ·split at k2<;>try (cases k2;done)
    rename_i L2 hp
    exact next g1 ho g3 g4 (.inr (.inl (He k3))) gt hb k1 (qa ho k3) rfl hp k2
theorem Fe{ops:Array Oper}{D:List Nat}:∀{rs:List Nat} {j:Nat},yK E ops D rs=some j→j∈rs∧∃o d,ops[j]?=some o∧fp E o=true∧o.dst=some d∧Region.free .any ops (mkL ops.size D) j=true
 |[],_,h=>by simp[yK]at h
 |q::rs,j,h=>by
  simp only[yK]at h
  split at h<;>try (cases h;done)
  rename_i o ho
  split at h
  ·rename_i hb
   injection h with h
   subst h
   simp only[au8]at hb
   obtain⟨d,hd⟩:=avZ.1 hb.1.2
   exact⟨by simp,o,d,ho,hb.1.1,hd,hb.2⟩
  ·obtain⟨h1,h2⟩:=Fe h
   exact⟨by simp[h1],h2⟩
theorem aaY(hT:eF P T=true)(hE:kf P E){i:Nat}{c:Cfg}:∀(m:Nat) (D:List Nat) (L:SL),go P F T E N Fn m {c with L:=L} (.tal i D)=some r→D.length≤(aq (nth (ao F c.f) i)).size→
  TRun P E (aq (nth (ao F c.f) i)) (ntm F c.f) c.H true (fun _ _ L=>∃q,q<m∧go P F T E N Fn q {c with L:=L} .nrm=some r) (fun _ _ _=>False) ((aq (nth (ao F c.f) i)).size-D.length) (mkL (aq (nth (ao F c.f) i)).size D) L:=by
 intro m
 induction m with
 |zero=>intro D L h;simp[go]at h
 |succ m ih=>
  intro D L h hlen
  have next:∀{j:Nat} {o:Oper} {d:Nat} {L1 L2:SL} {s:SV},j∈Region.ready .any (aq (nth (ao F c.f) i)) (mkL (aq (nth (ao F c.f) i)).size D)→(aq (nth (ao F c.f) i))[j]?=some o→o.dst=some d→Region.free .any (aq (nth (ao F c.f) i)) (mkL (aq (nth (ao F c.f) i)).size D) j=true→fp E o=true→D.length+1≤(aq (nth (ao F c.f) i)).size→
    (∀t,aW L1 t=aW L t)→StepF P c.H (aq (nth (ao F c.f) i)) (fC L (o.looksAt (aq (nth (ao F c.f) i)))) o j s→s.refsT c.H.length=true→dL (ntm F c.f) L1 o.dst s=some L2→go P F T E N Fn m {c with L:=L2} (.tal i (j::D))=some r→TRun P E (aq (nth (ao F c.f) i)) (ntm F c.f) c.H true (fun _ _ L=>∃q,q<m+1∧go P F T E N Fn q {c with L:=L} .nrm=some r) (fun _ _ _=>False) ((aq (nth (ao F c.f) i)).size-D.length) (mkL (aq (nth (ao F c.f) i)).size D) L:=by
   intro j o d L1 L2 s h1 h2 h3 h4 h4'' h5 h6 h7 hrf h8 h9
   have htj:dS E (aq (nth (ao F c.f) i)) j=true:=by unfold dS;rw[h2];exact h4''
   rw[h3]at h8
   simp only[dL]at h8
   split at h8<;>try (cases h8;done)
   rename_i hd
   have hd:=avc hd
   injection h8 with h8
   have hlk:∀t,aW L2 t=if t=d then some s else aW L t:=fun t=>by rw[←h8,cG,h6 t]
   have h11:=(ih (j::D) L2 h9 (by simpa using h5)).mono (Stp':=fun _ _ L=>∃q,q<m+1∧go P F T E N Fn q {c with L:=L} .nrm=some r) (Fin':=fun _ _ _=>False) (fun _ _ _ ⟨q,h1,h2⟩=>⟨q,by omega,h2⟩) (fun _ _ _ h=>h)
   rw[show(aq (nth (ao F c.f) i)).size-D.length=((aq (nth (ao F c.f) i)).size-(j::D).length)+1 by simp;omega]
   exact .step (L':=L2) h1 (.inr (.inr rfl)) htj h2 h3 (by omega) h4 h7 hrf hlk h11
  simp only[go]at h
  split at h
  ·rename_i hrd
   exact .stop hrd ⟨m,by omega,h⟩
  ·rename_i rs hrd
   split at h<;>try (cases h;done)
   rename_i j hb hj
   have hb:=avc hb
   obtain⟨g1,o',d,g2,gt,g3,g4⟩:=Fe hj
   split at h<;>try (cases h;done)
   rename_i o ho
   rw[ho]at g2
   injection g2 with g2
   subst g2
   rcases mW h with⟨L1,k1,k2,k3⟩|⟨L1,k1,k2,k3⟩
   ·rw[dJ (M:=L) fun t _=>k1 t]at k2
    obtain⟨s,q1,q2,q3⟩:=By hT hE ho k3 k2
    split at q1<;>try (cases q1;done)
    rename_i L2 hp hrf
    exact next g1 ho g3 g4 gt hb k1 q2 hrf hp q1
   ·split at k2<;>try (cases k2;done)
    rename_i L2 hp
    exact next g1 ho g3 g4 gt hb k1 (qa ho k3) rfl hp k2
theorem T9{P:Program}{ops:Array Oper}{Q:Exit→Act→World→Prop}{S0 S1:World→Prop}:∀(n:Nat) (l:Array Bool) (a:Act) (w:World),storeDone ops l→wpG P ops Q S1 n l a w→wpG P ops Q S0 n l a w
 |0,_,_,_,_,h=>h
 |n+1,_,_,_,hs,h=>⟨h.1,fun i hi=>wpOp_mono (fun _ _ h'=>⟨.inl (hs.set i),T9 n _ _ _ (hs.set i) h'.2⟩) (h.2 i hi)⟩
end
end
end Go.Proofs.YtlahabkjhgkkjaaGreat
end
