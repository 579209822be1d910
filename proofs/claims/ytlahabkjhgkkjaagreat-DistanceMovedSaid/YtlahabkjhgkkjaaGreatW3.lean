/- Calls of what is G5. -/
import Derived.Test.YtlahabkjhgkkjaaGreatW2
import Derived.Maps.AppendAt
import Derived.ArgAppend
noncomputable section
namespace Go.Proofs.YtlahabkjhgkkjaaGreat
open Go.RowKit Go.IntKind
theorem aqZ:type_of% @List.length_singleton:=@List.length_singleton
theorem aq8:type_of% @Array.getElem?_eq_none:=@Array.getElem?_eq_none
theorem aro:type_of% @Array.setIfInBounds_comm:=@Array.setIfInBounds_comm
theorem arE:type_of% @mem_ready:=@mem_ready
theorem arQ:type_of% @Int.natCast_mul:=@Int.natCast_mul
theorem arZ:type_of% @ready_mono:=@ready_mono
theorem ar7:type_of% @getD_set_ne:=@getD_set_ne
theorem asa:type_of% @Bool.or_eq_true:=@Bool.or_eq_true
theorem asP:type_of% @List.length_replicate:=@List.length_replicate
theorem asQ:type_of% @List.length_set:=@List.length_set
theorem asZ:type_of% @Nat.mul_le_mul_right:=@Nat.mul_le_mul_right
theorem as0:type_of% @Array.mem_toList_iff:=@Array.mem_toList_iff
theorem as6:type_of% @List.flatten_append:=@List.flatten_append
theorem ate:type_of% @List.cons.injEq:=@List.cons.injEq
theorem atf:type_of% @getD_set_true:=@getD_set_true
theorem aty:type_of% @and_true:=@and_true
section
theorem iv{P:Program}{g:Nat}(hc:dw P g=true)(ρ:Operand→Value)(o:Oper)(f:Operand)(args:Array Operand)(tys:Array TypeId)(caps:Array Value)(ho:o.op=.call ⟨.value f,args,tys⟩)(hf:ρ f=.func (.func g) #[] caps)(w:World):
  (execOp ρ o).run P w=.ok (.enter g (args.map ρ++caps)) w:=by
 unfold dw at hc
 split at hc
 ·rename_i fn hfn
  simp only[aqB,arC]at hc
  have hb:¬fn.body=none:=fun h=>by rw[h]at hc;simp at hc
  have hn : ¬ fn.name = "runtime.NumGoroutine" := by simpa using hc.1
  simp[execOp,ho,resolve,hf,Deferred.ofValue,invoke,callFunc,hfn,hn,hb]
 ·cases hc
section
variable {Z:Nat→Prop} {w0:World} {n:Nat} {L L':SL} {H H':List Item} {G:List Value} {w:World} {a:Act} {P:Program} {T:TT} {R:Type}
theorem iy{fl:Nat}:∀{ops:List Operand} {L:SL} {H:List Item},SR Z w0 H G w→FR Z n L H G w a→l9 fl ops L H=some (L',H')→SR Z w0 H' G w∧FR Z n L' H' G w a∧(∀s v,Rel1 G (Av Z H G) w s v→(∀j,s.of1 j=true→j<fl)→Rel1 G (Av Z H' G) w s v)∧(∀b,gM H' G b→gM H G b)∧H.length=H'.length
 |[],L,H,hr,hf,h=>by
  simp only[l9,aqF,aqV]at h
  obtain⟨rfl,rfl⟩:=h
  exact⟨hr,hf,fun s v h _=>h,fun b h=>h,rfl⟩
 |x::r,L,H,hr,hf,h=>by
  simp only[l9]at h
  split at h
  ·rename_i j hs
   split at h<;>try (cases h;done)
   rename_i L1 H1 hg
   unfold rj at hg
   split at hg<;>try (cases hg;done)
   rename_i et e xs hfl hj
   simp only[aqF,aqV]at hg
   obtain⟨rfl,rfl⟩:=hg
   obtain⟨h1,h2⟩:=xe hr hj
   obtain⟨g1,g2,g3,g4,g5⟩:=iy h1 (hf.map h2) h
   have hfl:=aqD hfl
   refine⟨g1,g2,fun s v hsv hlt=>?_,fun b hb=>?_,by rw[←g5];simp⟩
   ·have:fz j e xs s=s:=by
     unfold fz
     cases hof:s.of1 j with
     |true=>have:=hlt j hof;omega
     |false=>rfl
    refine g3 s v ?_ hlt
    have:=h2 s v hsv
    rwa [‹fz j e xs s=s›]at this
   ·obtain⟨i,et',e',xs',g',k1,k2,k3⟩:=g4 b hb
    rw[aqS]at k1
    split at k1
    ·split at k1<;>cases k1
    ·rw[arr]at k1
     cases hh:H[i]? with
     |none=>rw[hh]at k1;cases k1
     |some it=>
      rw[hh]at k1
      cases it with
      |box t cs=>simp[iD]at k1
      |gone=>simp[iD]at k1
      |row a1 a2 a3=>
       simp only[iD,arl,aqF]at k1
       exact⟨i,et',e',xs',g',by rw[hh,k1],k2,k3⟩
  ·rename_i j _ _ _ hs
   split at h<;>try (cases h;done)
   rename_i L1 H1 hg
   unfold rj at hg
   split at hg<;>try (cases hg;done)
   rename_i et e xs hfl hj
   simp only[aqF,aqV]at hg
   obtain⟨rfl,rfl⟩:=hg
   obtain⟨h1,h2⟩:=xe hr hj
   obtain⟨g1,g2,g3,g4,g5⟩:=iy h1 (hf.map h2) h
   have hfl:=aqD hfl
   refine⟨g1,g2,fun s v hsv hlt=>?_,fun b hb=>?_,by rw[←g5];simp⟩
   ·have:fz j e xs s=s:=by
     unfold fz
     cases hof:s.of1 j with
     |true=>have:=hlt j hof;omega
     |false=>rfl
    refine g3 s v ?_ hlt
    have:=h2 s v hsv
    rwa [‹fz j e xs s=s›]at this
   ·obtain⟨i,et',e',xs',g',k1,k2,k3⟩:=g4 b hb
    rw[aqS]at k1
    split at k1
    ·split at k1<;>cases k1
    ·rw[arr]at k1
     cases hh:H[i]? with
     |none=>rw[hh]at k1;cases k1
     |some it=>
      rw[hh]at k1
      cases it with
      |box t cs=>simp[iD]at k1
      |gone=>simp[iD]at k1
      |row a1 a2 a3=>
       simp only[iD,arl,aqF]at k1
       exact⟨i,et',e',xs',g',by rw[hh,k1],k2,k3⟩
  ·exact iy hr hf h
theorem af7{fl:Nat}{o:Oper}(hr:SR Z w0 H G w)(hf:FR Z n L H G w a)(h:fzB fl o L H=some (L',H')):SR Z w0 H' G w∧FR Z n L' H' G w a∧(∀s v,Rel1 G (Av Z H G) w s v→(∀j,s.of1 j=true→j<fl)→Rel1 G (Av Z H' G) w s v)∧(∀b,gM H' G b→gM H G b)∧H.length=H'.length:=by
 unfold fzB at h
 split at h
 ·exact iy hr hf h
 ·simp only[aqF,aqV]at h
  obtain⟨rfl,rfl⟩:=h
  exact⟨hr,hf,fun s v h _=>h,fun b h=>h,rfl⟩
theorem Chg.after{fl:Nat}{st ap:Bool}{H1:List Item}{G':List Value}{w':World}(h1:∀s v,Rel1 G (Av Z H G) w s v→(∀j,s.of1 j=true→j<fl)→Rel1 G (Av Z H' G) w s v)(h2:∀b,gM H' G b→gM H G b)(h3:H.length=H'.length)(h:Chg Z fl st ap H' G w H1 G' w'):Chg Z fl st ap H G w H1 G' w':=
 ⟨fun s v hsv hlt=>h.pres s v (h1 s v hsv hlt) hlt,h.agr.imp id fun⟨g1,g2⟩=>⟨⟨g1.1,fun b hb hor=>g1.2 b hb (hor.imp id fun hn hx=>hn (h2 b hx))⟩,fun b hb hx=>h2 b (g2 b hb hx)⟩,by rw[h3];exact h.len⟩
theorem lN{ss0:List SV}(hr:SR Z w0 H G w){A:Nat→Prop}(hA:∀b,b<w.heap.size→Av Z H G b→A b)(hAj:(∀(j:Nat) g b,G[j]?=some g→bR g=some b→(∃et e xs,H[j]?=some (.row et e xs))→A b)∨∀s∈ss0,s.noOwn=true):∀{ss al:List SV} {tys:List Nat} {vs:List Value},(∀s∈ss,s∈ss0)→jP T H ss tys=some al→cf (Rel G (Av Z H G) w) ss vs→cf (Rel1 [] A w) al vs
 |[],al,[],[],_,h,_=>by simp only[jP,aqF]at h;subst h;trivial
 |[],al,_::_,_,_,h,_=>by simp[jP]at h
 |_::_,al,[],_,_,h,_=>by simp[jP]at h
 |s::ss,al,t::ts,v::vs,hss,h,⟨h1,h2⟩=>by
  simp only[jP]at h
  split at h<;>try (cases h;done)
  rename_i r0 hr0
  have ih:=lN hr hA hAj (fun s hs=>hss s (by simp[hs])) hr0 h2
  have hk:Keeps (Av Z H G) A w w:=⟨aqE _,hA,fun _ _ _=>rfl⟩
  split at h
  ·rename_i t x
   injection h with h
   subst h
   obtain⟨cs,g1,g2⟩:=h1
   exact⟨⟨cs,Ty.rd_keep hk g1,g2⟩,ih⟩
  ·split at h<;>try (cases h;done)
   split at h<;>try (cases h;done)
   injection h with h
   subst h
   exact⟨⟨[v],by rw[show v=.slice none 0 0 from h1];exact uh,rfl⟩,ih⟩
  ·rename_i j
   split at h<;>try (cases h;done)
   rename_i et e xs hj
   injection h with h
   subst h
   rcases hAj with hAj|hno
   ·exact⟨⟨[v],Lj hr hj h1 hA (fun b hb=>hAj j _ b h1 hb ⟨_,_,_,hj⟩),rfl⟩,ih⟩
   ·have:=hno (.own j) (hss _ (by simp));cases this
  ·rename_i e xs
   injection h with h
   subst h
   obtain⟨p,g1,rfl⟩:=h1
   exact⟨⟨_,Ty.rd_keep hk g1,rfl⟩,ih⟩
  ·rename_i j sz lo n0
   split at h<;>try (cases h;done)
   rename_i et e xs hj
   split at h<;>try (cases h;done)
   rename_i hsz
   have hsz:=aqA hsz
   subst hsz
   injection h with h
   subst h
   rcases hAj with hAj|hno
   ·exact⟨⟨[v],RC hr hj h1 hA (fun g b hg hb=>hAj j g b hg hb ⟨_,_,_,hj⟩),rfl⟩,ih⟩
   ·have:=hno (.osl j e.n lo n0) (hss _ (by simp));cases this
  ·cases h
theorem Um(hr:SR Z w0 H G w){b:Nat}(hb:w.heap.size≤b):Av Z H G b:=⟨hr.zf b (aqM hr.below.size hb),fun j it g h1 h2 h3 h4=>by have:=((hr.items j it g h1 h3).blk h2 h4).2;omega⟩
theorem Lm{A:Nat→Prop}{t:Ty}{x:t.D}{v:Value}{G':List Value}{A':Nat→Prop}{w':World}(hfl:t.flat=true)(h:Rel1 [] A w (.d t x) v):Rel1 G' A' w' (.d t x) v:=by
 obtain⟨cs,h1,h2⟩:=h
 refine⟨cs,?_,h2⟩
 rw[mQ hfl h1]
 exact lm hfl
theorem kE(hr:SR Z w0 H G w)(hf:FR Z n L H G w a){A:Nat→Prop}{w':World}{rs:List RV}{v:Value}{k:SV→List Item→Option R}{r:R}(hb:Below w.heap.size w w')(hres:tu (fun b=>A b∨w.heap.size≤b) w.heap.size w' rs v)
  (hA:(∀b,b<w.heap.size→A b→Av Z H G b)∨AG rs=true) (h:qR H rs k=some r) (fl:Nat) (st ap:Bool):
  ∃s H' G',k s H'=some r∧SR Z w0 H' G' w'∧FR Z n L H' G' w' a∧Rel G' (Av Z H' G') w' s v∧Chg Z fl st ap H G w H' G' w':=by
 have hsg:=qy hr hb
 have hsr:=Gd hr hb
 have hfr:FR Z n L H G w' a:=hf.keep fun s v h=>cZ hr hsg h
 have hchg:Chg Z fl st ap H G w H G w':=⟨fun s v h _=>cZ hr hsg h,.inr ⟨⟨hb.size,fun b h1 _=>hb.block b h1⟩,fun b _ h=>h⟩,aqE _⟩
 have one:∀{t:Ty} {x:t.D} {v:Value},Rel1 [] (fun b=>A b∨w.heap.size≤b) w' (.d t x) v→((∀b,b<w.heap.size→A b→Av Z H G b)∨t.flat=true)→Rel1 G (Av Z H G) w' (.d t x) v:=by
  intro t x v h hor
  rcases hor with hA|hfl
  ·obtain⟨cs,h1,h2⟩:=h
   refine⟨cs,Ty.rd_keep ⟨aqE _,fun b _ hb'=>?_,fun _ _ _=>rfl⟩ h1,h2⟩
   rcases aqT b w.heap.size with hlt|hge
   ·exact hb'.elim (hA b hlt) (fun h=>by omega)
   ·exact Um hr hge
  ·exact Lm hfl h
 unfold qR at h
 split at h
 ·rename_i et e xs
  obtain⟨css,h1,h2,h3⟩:=hres
  have h2':cf (fun l y=>e.rd (fun b=>(Av Z H G b∨w.heap.size≤b)∧bR v≠some b) w' l y) css xs:=by
   rcases hA with hA|hfl
   ·refine bQ (fun l y h=>Ty.rd_keep ⟨aqE _,fun b _ hb'=>?_,fun _ _ _=>rfl⟩ h) h2
    refine⟨?_,hb'.2⟩
    rcases aqT b w.heap.size with hlt|hge
    ·exact hb'.1.elim (fun h=>.inl (hA b hlt h)) (fun h=>by omega)
    ·exact .inr hge
   ·have hfl:e.flat=true:=hfl
    exact bQ (fun l y h=>by rw[mQ hfl h];exact lm hfl) h2
  obtain⟨G',g1,g2,g3,g4⟩:=jc hr hf hb h1 h3 h2' fl st ap
  exact⟨_,_,G',h,g1,g2,g3,g4⟩
 ·rename_i t x
  exact⟨_,_,G,h,hsr,hfr,dK (one hres (hA.imp id fun h=>by simpa [AG,RV.flat]using h)),hchg⟩
 ·rename_i hn1 hn2
  split at h<;>try (cases h;done)
  rename_i l hl
  refine⟨_,_,G,h,hsr,hfr,?_,hchg⟩
  have hres':∃vs:List Value,v=.tuple vs.toArray∧∃l,rvS rs=some l∧cf (Rel1 [] (fun b=>A b∨w.heap.size≤b) w') l vs:=by
   unfold tu at hres
   split at hres
   ·exact(hn1 _ _ _ rfl).elim
   ·exact(hn2 _ _ rfl).elim
   ·exact hres
  obtain⟨vs,h1,l',h2,h3⟩:=hres'
  rw[hl]at h2
  injection h2 with h2
  subst h2
  refine⟨vs,h1,?_⟩
  replace hA:(∀b,b<w.heap.size→A b→Av Z H G b)∨rs.all RV.flat=true:=hA.imp id fun h=>by
   unfold AG at h
   split at h
   ·exact(hn1 _ _ _ rfl).elim
   ·exact h
  clear h hres hn1 hn2 h1
  induction rs generalizing l vs with
  |nil=>simp only[rvS,aqF]at hl;subst hl;cases vs<;>exact h3
  |cons q rs ih=>
   have hA':(∀b,b<w.heap.size→A b→Av Z H G b)∨(q.flat=true∧rs.all RV.flat=true):=hA.imp id fun h=>by simpa using h
   cases q with
   |d t x=>
    simp only[rvS]at hl
    split at hl<;>try (cases hl;done)
    rename_i l2 hl2
    injection hl with hl
    subst hl
    match vs,h3 with
    |v1::vs,⟨q1,q2⟩=>exact⟨one q1 (hA'.imp id fun h=>h.1),ih l2 hl2 vs q2 (hA'.imp id fun h=>h.2)⟩
   |new et e xs=>
    simp only[rvS]at hl
    split at hl<;>try (cases hl;done)
    rename_i l2 hl2
    injection hl with hl
    subst hl
    match vs,h3 with
    |v1::vs,⟨q1,q2⟩=>
     refine⟨?_,ih l2 hl2 vs q2 (hA'.imp id fun h=>h.2)⟩
     rcases hA' with hA'|hA'
     ·exact one q1 (.inl hA')
     ·simp[RV.flat]at hA'
end
end
section
theorem kz:∀(vs l r:List Value) (off:Nat),off+vs.length≤l.length→dD (l++r) off vs=dD l off vs++r
 |[],_,_,_,_=>rfl
 |v::vs,l,r,off,h=>by
  simp only[aq1]at h
  simp only[dD]
  rw[List.set_append_left _ _ (by omega),kz vs _ r (off+1) (by simp;omega)]
theorem jh:∀(vs l r:List Value) (off:Nat),dD (l++r) (l.length+off) vs=l++dD r off vs
 |[],_,_,_=>rfl
 |v::vs,l,r,off=>by
  simp only[dD]
  rw[List.set_append_right _ _ (by omega),Nat.add_sub_cancel_left,ar9,jh vs l _ (off+1)]
theorem yn:∀(vs l:List Value),l.length=vs.length→dD l 0 vs=vs
 |[],l,h=>by cases l with|nil=>rfl|cons=>simp at h
 |v::vs,u::l,h=>by
  simp only[aq1,Nat.add_right_cancel_iff]at h
  have:=jh vs [v] l 0
  simp only[dD,List.set_cons_zero]
  simp only[aqZ,as8,List.singleton_append]at this
  rw[aq9,this,yn vs l h]
 |v::vs,[],h=>by simp at h
theorem tn:∀(vs l:List Value) (off N:Nat),off+vs.length≤N→N≤l.length→(dD l off vs).take N=dD (l.take N) off vs:=by
 intro vs l off N h1 h2
 have:=kz vs (l.take N) (l.drop N) off (by simp;omega)
 rw[arP]at this
 rw[this,List.take_left' (by rw[mZ];simp;omega)]
theorem mC:∀(vs l:List Value) (off:Nat),off+vs.length≤l.length→dD l off vs=l.take off++vs++l.drop (off+vs.length)
 |[],l,off,h=>by simp[dD]
 |v::vs,l,off,h=>by
  simp only[aq1]at h
  simp only[dD]
  rw[mC vs (l.set off v) (off+1) (by simp;omega),list_seg_step l off v vs (by omega)]
  rfl
theorem nR{sz:Nat}:∀{css:List (List Value)} {m:Nat} {l:List Value} {off:Nat} {vs:List Value},(∀l∈css,l.length=sz)→css[m]?=some l→off+vs.length≤sz→dD css.flatten (m*sz+off) vs=(css.set m (dD l off vs)).flatten
 |[],_,_,_,_,_,h,_=>by simp at h
 |c::css,0,l,off,vs,hl,h,hb=>by
  simp at h;subst h
  have hc:=hl c (by simp)
  simp only[arI,Nat.zero_mul,aq9,List.set_cons_zero]
  rw[kz _ _ _ _ (by omega)]
 |c::css,m+1,l,off,vs,hl,h,hb=>by
  have hc:=hl c (by simp)
  simp only[arI,List.set_cons_succ]
  rw[show(m+1)*sz+off=c.length+(m*sz+off) by rw[hc,arX];omega,jh,nR (fun l hm=>hl l (by simp[hm])) (by simpa using h) hb]
theorem aeq{A:Nat→Prop}{w:World}:∀{e:Ty} {l vs:List Value} {x x':e.D} {off:Nat} {t:Ty} {y:t.D},e.rd A w l x→e.upd x off t y=some x'→t.rd A w vs y→e.rd A w (dD l off vs) x'∧off+vs.length≤l.length:=by
 have lf:∀{e:Ty} {l vs:List Value} {x x':e.D} {off:Nat} {t:Ty} {y:t.D},e.rd A w l x→(match Nat.beq off 0 with|true=>eG t e y|false=>none)=some x'→t.rd A w vs y→e.rd A w (dD l off vs) x'∧off+vs.length≤l.length:=by
  intro e l vs x x' off t y hr h hy
  split at h
  ·rename_i h0
   have:off=0:=aqA h0
   subst this
   obtain⟨rfl,rfl⟩:=dh h
   have h1:=Ty.rd_len hr
   have h2:=Ty.rd_len hy
   rw[yn vs l (by omega)]
   exact⟨hy,by omega⟩
  ·cases h
 intro e
 induction e with
 |int k=>intro l vs x x' off t y hr h hy;exact lf hr h hy
 |bool=>intro l vs x x' off t y hr h hy;exact lf hr h hy
 |str=>intro l vs x x' off t y hr h hy;exact lf hr h hy
 |sl e=>intro l vs x x' off t y hr h hy;exact lf hr h hy
 |st a ih=>
  intro l vs x x' off t y hr h hy
  simp only[Ty.upd]at h
  split at h
  ·rename_i z h0 h1
   injection h with h
   subst h
   exact lf (e:=.st a) hr (by rw[h0];exact h1) hy
  ·exact ih hr h hy
 |pair a b iha ihb=>
  intro l vs x x' off t y hr h hy
  obtain⟨l1,l2,rfl,h1,h2⟩:=hr
  simp only[Ty.upd]at h
  split at h
  ·split at h<;>try (cases h;done)
   rename_i z hz
   injection h with h
   subst h
   obtain⟨g1,g2⟩:=iha h1 hz hy
   rw[kz _ _ _ _ g2]
   exact⟨⟨_,_,rfl,g1,h2⟩,by simp;omega⟩
  ·rename_i hb
   have hl1:=Ty.rd_len h1
   have hge:a.n≤off:=by
    rcases aqT off a.n with hlt|hge
    ·have:Nat.ble (off+1) a.n=true:=aqU hlt
     rw[this]at hb;cases hb
    ·exact hge
   split at h<;>try (cases h;done)
   rename_i z hz
   injection h with h
   subst h
   obtain⟨g1,g2⟩:=ihb h2 hz hy
   have e:off=l1.length+(off-a.n):=by omega
   rw[e,jh,←e]
   exact⟨⟨_,_,rfl,h1,g1⟩,by simp;omega⟩
theorem lz{P:Program}{t:Nat}{i:TI}(hc:chk P t i=true)(w:World)(b off:Nat)(bt:TypeId)(cur:Array Value)(v:Value)(hg:w.heap[b]?=some (.cells cur bt (0,0)))(hl:v.cells.toList.length=i.ty.n)(hfit:off+v.cells.toList.length≤cur.size)(h1:∀u∈v.cells.toList,u.oneCell'=true):
  (Instr.storeAt t (.pointer (some ⟨b,off,none⟩)) v).run P w=.ok () (w.setRow b (dD cur.toList off v.cells.toList).toArray):=by
 have hst:=run_storeCells_at P b off bt v.cells.toList 0 cur w hg (by simpa using hfit) h1
 rw[as8,←mC _ _ _ (by simpa using hfit)]at hst
 have hsz:=AV hc
 cases hi:P.info? t with
 |none=>rw[hi]at hsz;cases hsz
 |some inf=>
  have hs:inf.size=i.ty.n:=by rw[hi]at hsz;simpa using hsz
  have hn:v.cells.size=inf.size:=by rw[hs,←hl];simp
  simp[Instr.storeAt,Instr.sureAddr,storeVar,sizeOf,typeInfo,hi,hn,hst]
section
variable {Z:Nat→Prop} {w0:World} {n:Nat} {L:SL} {H:List Item} {G:List Value} {w:World} {a:Act} {P:Program} {T:TT}
theorem rN(w:World)(b:Nat)(cs:Array Value):(w.setRow b cs).heap.size=w.heap.size:=by simp[World.setRow]
theorem yV(hr:SR Z w0 H G w){b:Nat}(hb:w0.heap.size≤b)(cs:Array Value):Below w0.heap.size w0 (w.setRow b cs):=
 hr.below.trans ⟨rfl,rfl,rfl,by rw[rN];exact aqE _,fun k hk=>setRow_other w b k cs (by omega)⟩
theorem ug(hr:SR Z w0 H G w)(hf:FR Z n L H G w a){j b:Nat}{it it':Item}{g:Value}{cs:Array Value}(hj:H[j]?=some it)(hl:it.live=true)(hg:G[j]?=some g)(hb:bR g=some b)(hit:(∀s v,Rel1 G (Av Z H G) w s v→Rel1 G (Av Z (H.set j it') G) (w.setRow b cs) s v)→(∀t l y,Ty.rd (Av Z H G) w t l y→Ty.rd (Av Z (H.set j it') G) (w.setRow b cs) t l y)→ItemRel w0.heap.size G (Av Z (H.set j it') G) (w.setRow b cs) it' g)(fl:Nat)(ap:Bool):
  SR Z w0 (H.set j it') G (w.setRow b cs)∧FR Z n L (H.set j it') G (w.setRow b cs) a∧Chg Z fl true ap H G w (H.set j it') G (w.setRow b cs):=by
 have hblk:=(hr.items j it g hj hg).blk hl hb
 have hbl:∀b',b'<w.heap.size→(∀g,G[j]?=some g→bR g≠some b')→(w.setRow b cs).heap[b']?=w.heap[b']?:=fun b' _ hn=>setRow_other w b b' cs (fun e=>by subst e;exact hn g hg hb)
 have hB:=yV hr hblk.1 cs
 have hz:w.heap.size≤(w.setRow b cs).heap.size:=by rw[rN];exact aqE _
 have hst:=lO (it':=it') hr hj hl hB hz hbl
 refine⟨z6 hr hj hl hB hz hbl fun g' hg'=>?_,hf.keep fun s v h=>cZ hr hst h,⟨fun s v h _=>cZ hr hst h,.inl rfl,by simp⟩⟩
 rw[hg]at hg'
 injection hg' with hg'
 subst hg'
 exact hit (fun s v h=>cZ hr hst h) (fun t l y h=>Ty.rd_keep (hst.keeps hr) h)
end
end
section
def db:Op→Bool
 |.store .. =>true
 |.call ⟨.builtin .clear,_,_⟩=>true
 |_=>false
def isSt:Op→Bool
 |.store .. =>true
 |_=>false
def kX:Op→Bool
 |.call ⟨.builtin .append,_,_⟩=>true
 |_=>false
theorem nI{w:World}{base et sz m:Nat}{g:Value}{cs:List Value}(h:w.ownsRow base et sz g m cs):g.ownBlock=bR g:=by
 rcases eh h with⟨rfl,_⟩|⟨b,c,rfl⟩<;>rfl
theorem ZQ{k:Nat}(h:k≤140737488355328):k≤maxLen:=by unfold maxLen;omega
theorem Dw{P:Program}(w:World){t el:TypeId}{j:TypeInfo}{z:Value}{sz len:Nat}{parts:Array (Nat×Value)}{us:Array Value}(hu:P.underlying t=some (.slice el))(hj:P.info? el=some j)(hjs:j.size=sz)(hjz:j.zero=some z)(hn:0<sz)(hb:len*sz≤16777216)
  (hf:Instr.fill (fun i=>some (i*sz,sz)) (madeCells z.cells (len*sz)) parts.toList=some us):(Instr.buildSlice t len parts).run P w=.ok (.slice (some ⟨w.heap.size,0,none⟩) len len) (w.alloc (.cells us el)):=by
 subst hjs
 have hgt:¬(len*j.size>16777216):=by omega
 have hf':Instr.fill (fun i=>some (i*j.size,j.size)) ((Array.range (len*j.size)).map (z.cells[·%z.cells.size]!)) parts.toList=some us:=hf
 by_cases hne:len*j.size=0
 ·have hr:Array.range 0= #[]:=rfl
  rw[hne,hr,Array.map_empty]at hf'
  simp only[Instr.buildSlice,arv,arA hu,aqR,sizeOf,typeInfo,arW]
  simp[hj,hne,newRow,hr,hf']
 ·simp only[Instr.buildSlice,arv,arA hu,aqR,sizeOf,typeInfo,arW]
  simp[hj,hgt,hne,zeroValue,typeInfo,hjz,hf',newRow]
theorem rA{P:Program}(w:World)(base:Nat)(t ty e:TypeId)(i:TypeInfo)(size:Nat)(ht:P.underlying t=some (.slice e))(hi:P.info? e=some i)
  (v:Value) (n:Nat) (xs:List Value) (hown:w.ownsRow base e size v n xs) (c:Nat):
  (Builtin.append_ #[t,t] ty #[v,.slice none 0 c]).run P w=.ok v w:=by
 rcases hown.2 with⟨rfl,rfl⟩|⟨g,cap,cur,rfl,_,_,hnc,_⟩
 ·simp[Builtin.append_,arA ht,sizeOf,typeInfo,hi,Builtin.lenOf,Builtin.firstCells]
 ·simp[Builtin.append_,arA ht,sizeOf,typeInfo,hi,Builtin.lenOf,Builtin.firstCells,hnc,storeCells]
theorem ya{A:Nat→Prop}{w:World}:∀{xs:List Int} {css:List (List Value)},cf (fun l y=>(Ty.int .i64).rd A w l y) css xs→css.flatten=xs.map (Value.int .i64)
 |[],[],_=>rfl
 |y::ys,c::css,⟨q1,q2⟩=>by
  have:c=[Value.int .i64 y]:=q1
  subst this
  rw[arI,ya q2];rfl
section
variable {Z:Nat→Prop} {w0:World} {n:Nat} {L:SL} {H:List Item} {G:List Value} {w:World} {a:Act} {P:Program} {T:TT} {E:Env} {R:Type}
theorem WX(hr:SR Z w0 H G w){s:SV}{v:Value}{e:Ty}{ys:List e.D}{t:Nat}(h:Rel G (Av Z H G) w s v)(ha:jP T H [s] [t]=some [.d (.sl e) ys]):
  ∃p m c css,v=.slice p m c∧ys.length=m∧cf (fun l y=>e.rd (Av Z H G) w l y) css ys∧(0<m→∃b off,p=some ⟨b,off,none⟩∧gu w b off (List.flatten css)):=by
 simp only[jP]at ha
 split at ha
 ·rename_i t' x
  simp only[aqF,ate,aty]at ha
  cases ha
  obtain⟨cs,hrd,rfl⟩:=h
  obtain⟨p,m,c,css,rfl,h1,_,_,h4,h5⟩:=hrd
  exact⟨p,m,c,css,rfl,h1,h4,fun h0=>by obtain⟨b,off,g1,_,_,g4⟩:=h5 h0;exact⟨b,off,g1,g4⟩⟩
 ·split at ha<;>try (cases ha;done)
  split at ha<;>try (cases ha;done)
  simp only[aqF,ate,aty]at ha
  cases ha
  exact⟨none,0,0,[],h,rfl,trivial,fun h0=>absurd h0 (by omega)⟩
 ·split at ha<;>try (cases ha;done)
  rename_i et e' xs hj
  simp only[aqF,ate,aty]at ha
  cases ha
  obtain⟨css,ho,ha2,hn⟩:=hr.items _ _ _ hj h
  obtain⟨_,p,c,hv,_,_,h3⟩:=Rd.of_own hn ho
  exact⟨p,_,c,css,hv,rfl,ha2,fun h0=>by obtain⟨b,off,g1,_,g3⟩:=h3 h0;exact⟨b,off,g1,g3⟩⟩
 ·simp only[aqF,ate,aty]at ha
  cases ha
  obtain⟨p,hrd,rfl⟩:=h
  obtain⟨p',m,c,css,e1,h1,_,_,h4,h5⟩:=hrd
  injection e1 with e1
  rw[e1]
  exact⟨p',m,c,css,rfl,h1,h4,fun h0=>by obtain⟨b,off,g1,_,_,g4⟩:=h5 h0;exact⟨b,off,g1,g4⟩⟩
 ·rename_i j sz lo n0
  split at ha<;>try (cases ha;done)
  rename_i et e' xs hj
  split at ha<;>try (cases ha;done)
  rename_i hsz
  have hsz:=aqA hsz
  subst hsz
  simp only[aqF,ate,aty]at ha
  cases ha
  obtain⟨g,q,c,hg,rfl,h1,h2,h3⟩:=h
  obtain⟨css0,ho,ha2,hn⟩:=hr.items _ _ _ hj hg
  have hl4:=eT ha2
  have hN:0<n0→lo+n0≤xs.length:=fun h0=>by
   obtain⟨b,N,c',rfl,h4,_⟩:=h3 h0
   rcases eh ho with⟨h5,_⟩|⟨b',c'',h5⟩
   ·cases h5
   ·injection h5 with _ h5;omega
  refine⟨q,n0,c,(css0.drop lo).take n0,rfl,?_,iq _ (gc _ ha2),fun h0=>?_⟩
  ·rcases aq3 n0 with h0|h0
   ·subst h0;simp
   ·have:=hN h0;simp;omega
  ·obtain⟨b,N,c',rfl,h4,rfl⟩:=h3 h0
   obtain⟨_,p,c1,hv,_,_,h6⟩:=Rd.of_own hn ho
   injection hv with hv1 hv2 hv3
   obtain⟨b',off,e1,h7,h8⟩:=h6 (by have:=hN h0;omega)
   rw[e1]at hv1
   injection hv1 with hv1
   injection hv1 with e2 e3
   subst e2 e3
   refine⟨b,_,rfl,fun k u hu=>?_⟩
   rw[eV _ (fun l hm=>hl4 l (ast hm)),eO _ hl4,arM]at hu
   split at hu
   ·rw[asc]at hu
    have:=h8 _ _ hu
    rwa [aq9]at this
   ·cases hu
 ·cases ha
theorem B7{fl f:Nat}{args:List Operand}{tys:List Nat}{k:SV→List Item→SL→Option R}{r:R}{Q:Value→World→Prop}(hE:i9 P E)(hI:inv w0)(hr:SR Z w0 H G w)(hf:FR Z n L H G w a)(h:KU T E fl L H f args tys k=some r)
  (hnext:∀s H' L' G' w' v,k s H' L'=some r→SR Z w0 H' G' w'→FR Z n L' H' G' w' a→Rel G' (Av Z H' G') w' s v→Chg Z fl false false H G w H' G' w'→Q v w'):
  dw P f=true∧Calls P f (args.map a.eval).toArray w fun e w'=>∃v,e=.returned v∧Q v w':=by
 unfold KU at h
 split at h<;>try (cases h;done)
 rename_i sp hsp
 obtain⟨hcl,hok,_⟩:=hE f sp hsp
 refine⟨hcl,?_⟩
 split at h
 ·split at h<;>try (cases h;done)
  rename_i ss hss
  split at h<;>try (cases h;done)
  rename_i al hal
  obtain⟨rs,hk,hcon⟩:=hok _ _ _ _ h
  have hrel:=lN (A:=fun _=>True) (ss0:=ss) hr (fun _ _ _=>trivial) (.inl fun _ _ _ _ _ _=>trivial) (fun s hs=>hs) hal (jQ hf hss)
  refine(hcon _ w _ (mr hI hr.below) hrel).mono ?_
  rintro e w' ⟨v,rfl,hb,hres⟩
  split at hk<;>try (cases hk;done)
  rename_i hkp
  obtain⟨s,H',G',h1,h2,h3,h4,h5⟩:=kE hr hf hb hres (.inr hkp) hk fl false false
  exact⟨v,rfl,hnext s H' L G' w' v h1 h2 h3 h4 h5⟩
 ·split at h<;>try (cases h;done)
  rename_i L1 H1 hfz
  split at h<;>try (cases h;done)
  rename_i ss hss
  split at h<;>try (cases h;done)
  rename_i al hal hno
  obtain⟨rs,hk,hcon⟩:=hok _ _ _ _ h
  obtain⟨g1,g2,g3,g4,g5⟩:=iy hr hf hfz
  have hrel:cf (Rel1 [] (Av Z H1 G) w) al (args.map a.eval):=by
   refine lN (A:=Av Z H1 G) (ss0:=ss) g1 (fun _ _ h=>h) (.inr ?_) (fun s hs=>hs) hal (jQ g2 hss)
   intro s hs
   exact aqO.1 hno _ hs
  refine(hcon _ w _ (mr hI hr.below) hrel).mono ?_
  rintro e w' ⟨v,rfl,hb,hres⟩
  obtain⟨s,H',G',h1,h2,h3,h4,h5⟩:=kE g1 g2 hb hres (.inl fun _ _ h=>h) hk fl false false
  exact⟨v,rfl,hnext s H' L1 G' w' v h1 h2 h3 h4 (h5.after g3 g4 g5)⟩
set_option maxHeartbeats 1000000 in
theorem qB{fl:Nat}{o:Oper}{k:SV→List Item→SL→Option R}{r:R}{N:Act→World→Prop}{Q:Exit→Act→World→Prop}(hT:dU P T=true)(hE:i9 P E)(hI:inv w0)(hr:SR Z w0 H G w)(hf:FR Z n L H G w a)(h:eop T E fl L H o k=some r)
  (hnext:∀s H' L' G' w' v,k s H' L'=some r→SR Z w0 H' G' w'→FR Z n L' H' G' w' a→Rel G' (Av Z H' G') w' s v→Chg Z fl (db o.op||vn E L o.op) (kX o.op) H G w H' G' w'→N (a.put o.dst v) w'):
  o.upon P a N Q ((execOp a.eval o).run P w):=by
 obtain⟨dst,op,type,pos,after,guard⟩:=o
 have val:∀{v w'},(execOp a.eval ⟨dst,op,type,pos,after,guard⟩).run P w=.ok (.value v) w'→N (a.put dst v) w'→Oper.upon P ⟨dst,op,type,pos,after,guard⟩ a N Q ((execOp a.eval ⟨dst,op,type,pos,after,guard⟩).run P w):=by
  intro v w' h1 h2
  rw[h1]
  exact h2
 unfold eop at h
 dsimp only at h hnext
 split at h
 case h_1 t x=>
  split at h<;>try (cases h;done)
  rename_i s hs
  split at h<;>try (cases h;done)
  rename_i cs hcs
  have hrel:=aW hf hs
  obtain⟨G',h1,h2,h3,h4⟩:=HS (t:=t) hr hf (ob hr hrel hcs) fl false false
  refine val (v:=.pointer (some ⟨w.heap.size,0,none⟩)) (w':=w.alloc (.cells (a.eval x).cells t)) ?_ (hnext _ _ _ G' _ _ h h1 h2 h3 h4)
  simp[execOp,Instr.box,newVar,newRow]
 case h_2 t=>
  split at h<;>try (cases h;done)
  rename_i i hi
  split at h<;>try (cases h;done)
  rename_i ty hz hne
  have hck:=aZ hT hi
  obtain⟨inf,hinf,hzero⟩:=uH hck hz
  have hc:(mkV i.ty (zc i.ty)).cells.toList=zc i.ty:=ir (by
   generalize i.ty=ty at*
   cases ty<;>first|exact .inr rfl|exact .inl rfl|exact(hne _ _ rfl).elim)
  obtain⟨G',h1,h2,h3,h4⟩:=HS (t:=t) (cs:=i.ty.zsplit) (vs:=(mkV i.ty (zc i.ty)).cells) hr hf (by rw[hc];exact iw) fl false false
  refine val (v:=.pointer (some ⟨w.heap.size,0,none⟩)) (w':=w.alloc (.cells (mkV i.ty (zc i.ty)).cells t)) ?_ (hnext _ _ _ G' _ _ h h1 h2 h3 h4)
  simp[execOp,Instr.alloc,zeroValue,typeInfo,hinf,hzero,newVar,newRow]
 case h_3 t len parts=>
  split at h<;>try (cases h;done)
  rename_i i hi
  split at h<;>try (cases h;done)
  rename_i e he
  split at h<;>try (cases h;done)
  rename_i L1 H1 hfz
  split at h<;>try (cases h;done)
  rename_i cs hfl
  split at h<;>try (cases h;done)
  rename_i xs hjn hlen
  have hlen1:=aqD hlen
  obtain⟨g1,g2,g3,g4,g5⟩:=iy hr hf hfz
  have hck:=aZ hT hi
  obtain⟨hu,hn0,j,hj,hjs,_,hjz,hone⟩:=dt hck he
  have hz1:=ir hone
  have hcz:(mkV e (zc e)).cells.size=e.n∧(mkV e (zc e)).cells.toList=zc e:=⟨by have:=congrArg List.length hz1;rw[kU]at this;simpa using this,hz1⟩
  have hm:=vI (mkV e (zc e)).cells len
  rw[hcz.1,hcz.2]at hm
  obtain⟨us',h1,h2⟩:=rD g1 g2 (us:=madeCells (mkV e (zc e)).cells (len*e.n)) hfl (by rw[hm];exact HV (ik nt) len)
  obtain⟨css,hcss,hrds,hxl⟩:=BJ hjn h2
  have hsz:us'.size=len*e.n:=by
   have:=fC (eT hrds)
   rw[←hcss,dG hrds,hxl]at this
   simpa using this
  have hown:=World.ownsRow_lit (e:=i.el) (size:=e.n) (base:=w.heap.size) w us' len (aqE _) (by unfold maxLen;have:=aqM (Nat.le_mul_of_pos_right len hn0) hlen1;omega) hsz
  have hbw:=gL w (.cells us' i.el)
  obtain⟨G',k1,k2,k3,k4⟩:=jc (et:=i.el) (css:=css) g1 g2 hbw (by rw[hxl,←hcss];exact hown) hn0 (bQ (fun l y h=>Ty.rd_keep ⟨hbw.size,fun b hb hA=>⟨.inl hA,fun hh=>by simp[bR]at hh;omega⟩,fun b hb _=>hbw.block b hb⟩ h) hrds) fl false false
  refine val (v:=.slice (some ⟨w.heap.size,0,none⟩) len len) (w':=w.alloc (.cells us' i.el)) ?_ (hnext _ _ _ G' _ _ h k1 k2 k3 (k4.after g3 g4 g5))
  have h1':Instr.fill (fun i=>some (i*e.n,e.n)) (madeCells (mkV e (zc e)).cells (len*e.n)) (parts.map fun p=>(p.1,a.eval p.2)).toList=some us':=by
   rw[←h1];simp
  have:=Dw (P:=P) w hu hj hjs hjz hn0 hlen1 h1'
  simp[execOp,this]
 case h_4 t x y=>
  split at h<;>try (cases h;done)
  ·rename_i kd m i hso hs hi
   split at h<;>try (cases h;done)
   rename_i e he
   split at h<;>try (cases h;done)
   rename_i hd
   have hd:=aqr hd
   have hxy:y=x:=by
    cases x<;>cases y<;>simp only[Vq,asK]at hso
    rw[aqA hso]
   subst hxy
   have hck:=aZ hT hi
   obtain⟨hu,hn0,j,hj,hjs,hjb,hjz,hone⟩:=dt hck he
   have hv:=dX (aW hf hs)
   obtain⟨k0,rfl⟩:∃k:Nat,m=(k:Int):=⟨m.toNat,(Int.toNat_of_nonneg hd.1).symm⟩
   have hb1:k0*i.byt≤140737488355328:=by
    have:=hd.2.1
    rw[←arQ]at this
    exact Int.ofNat_le.1 this
   have hb2:k0≤140737488355328:=Int.ofNat_le.1 hd.2.2
   have hz1:=ir hone
   have hcz:(mkV e (zc e)).cells.size=e.n:=by have:=congrArg List.length hz1;rw[kU]at this;simpa using this
   obtain⟨w',hrun,hown,hgr⟩:=run_make_full (P:=P) w w.heap.size t i.el j _ e.n hu hj hjz hjs kd kd k0 (by rw[hjb,Nat.mul_comm];omega) (ZQ hb2) (aqE _)
   have hm:=vI (mkV e (zc e)).cells k0
   rw[hcz,hz1]at hm
   obtain⟨r1,r2⟩:=ku (A:=fun b=>(Av Z H G b∨w.heap.size≤b)∧bR (.slice (some ⟨w.heap.size,0,none⟩) k0 k0)≠some b) (w:=w') (nt (t:=e)) k0
   have hbw:Below w.heap.size w w':=⟨hgr.os,hgr.tape,hgr.output,hgr.size,fun b hb=>hgr.block b hb (by simp)⟩
   obtain⟨G',k1,k2,k3,k4⟩:=jc (et:=i.el) (e:=e) (xs:=List.replicate k0 e.zero) (css:=List.replicate k0 (zc e)) hr hf hbw (by rw[r2,←hm,asP];exact hown) hn0 r1 fl false false
   refine val (v:=.slice (some ⟨w.heap.size,0,none⟩) k0 k0) (w':=w') ?_ (hnext _ _ _ G' _ _ h k1 k2 k3 k4)
   simp[execOp,hv,hrun]
  ·rename_i kd m i hso hs hi
   split at h<;>try (cases h;done)
   rename_i kd' n0 e hs' he
   split at h<;>try (cases h;done)
   rename_i hd
   obtain⟨hm0,hd2⟩:=aqr hd
   clear hd
   subst hm0
   have hck:=aZ hT hi
   obtain⟨hu,hn0,j,hj,hjs,hjb,hjz,hone⟩:=dt hck he
   have hv:=dX (aW hf hs)
   have hv':=dX (aW hf hs')
   obtain⟨k0,rfl⟩:∃k:Nat,n0=(k:Int):=⟨n0.toNat,(Int.toNat_of_nonneg hd2.1).symm⟩
   have hb1:k0*i.byt≤140737488355328:=by
    have:=hd2.2.1
    rw[←arQ]at this
    exact Int.ofNat_le.1 this
   have hb2:k0≤140737488355328:=Int.ofNat_le.1 hd2.2.2
   obtain⟨w',hrun,hown,hgr⟩:=run_make_own (P:=P) w w.heap.size t i.el j _ e.n hu hj hjz hjs kd kd' k0 (by rw[hjb,Nat.mul_comm];omega) (ZQ hb2) (aqE _)
   have hbw:Below w.heap.size w w':=⟨hgr.os,hgr.tape,hgr.output,hgr.size,fun b hb=>hgr.block b hb (by simp)⟩
   obtain⟨G',k1,k2,k3,k4⟩:=jc (et:=i.el) (e:=e) (xs:=[]) (css:=[]) hr hf hbw (by simpa using hown) hn0 trivial fl false false
   refine val (v:=.slice (some ⟨w.heap.size,0,none⟩) 0 k0) (w':=w') ?_ (hnext _ _ _ G' _ _ h k1 k2 k3 k4)
   simp[execOp,hv,hv',hrun]
 case h_5 t x v=>
  have sk:∀{w'},(Instr.storeAt t (a.eval x) (a.eval v)).run P w=.ok () w'→N (a.put dst undef) w'→Oper.upon P ⟨dst,.store t x v,type,pos,after,guard⟩ a N Q ((execOp a.eval ⟨dst,.store t x v,type,pos,after,guard⟩).run P w):=by
   intro w' h1 h2
   have:(execOp a.eval ⟨dst,.store t x v,type,pos,after,guard⟩).run P w=.ok .skip w':=by simp[execOp,h1]
   rw[this]
   exact h2
  split at h<;>try (cases h;done)
  ·rename_i j off s i hx hs hi
   split at h<;>try (cases h;done)
   rename_i bt cells l hj hl
   split at h<;>try (cases h;done)
   rename_i hb
   simp only[aqB]at hb
   have hb1:=aqA hb.1
   have hb2:=aqD hb.2
   obtain⟨b,hg,hxv⟩:=aW hf hx
   have hrel:=aW hf hs
   have hsp:=ob hr hrel hl
   obtain⟨b',vs,e1,hbb,hblk,hcs⟩:=hr.items j _ _ hj hg
   injection e1 with e1
   injection e1 with e1
   injection e1 with e1
   subst e1
   have hll:=dG hsp
   have hcl:=dG hcs
   have hrun:=lz (aZ hT hi) w b off bt vs.toArray (a.eval v) hblk (by omega) (by simp only[List.size_toArray];omega) (Ej hr hrel hl)
   obtain⟨k1,k2,k3⟩:=ug (it':=.box bt (lc cells off l)) (cs:=(dD vs off (a.eval v).cells.toList).toArray) hr hf hj rfl hg rfl (fun hk _=>⟨b,dD vs off (a.eval v).cells.toList,rfl,hbb,setRow_heap w b _ _ bt (0,0) hblk,bQ hk (vj off hsp hcs)⟩) fl false
   refine sk (by rw[hxv];exact hrun) (hnext .undef _ _ G _ undef h k1 k2 rfl k3)
  ·rename_i j sz m off t' y i hx hs hi
   split at h<;>try (cases h;done)
   rename_i et e xs hfl hj
   split at h<;>try (cases h;done)
   rename_i x0 hb hx0
   simp only[aqB]at hb
   have hb1:=aqA hb.1
   have hb2:=aqA hb.2
   subst hb1
   split at h<;>try (cases h;done)
   rename_i x' hne hup
   obtain⟨b,m',c,hg,hxv⟩:=aW hf hx
   obtain⟨vs,hrd,hvv⟩:=aW hf hs
   obtain⟨css,ho,ha2,hn0⟩:=hr.items j _ _ hj hg
   obtain⟨l,hl,hlrd⟩:=lC ha2 m x0 hx0
   obtain⟨u1,u2⟩:=aeq hlrd hup hrd
   have hvc:(a.eval v).cells.toList=vs:=by rw[hvv];exact ro (fun p q e=>by subst e;exact hne p q y rfl HEq.rfl) hrd
   have hls:=eT ha2
   have hll:=hls l (arp hl)
   rcases ho.2 with⟨e1,_⟩|⟨g,cap,cur,e1,h1,h2,h3,h4,h5,h6⟩
   ·cases e1
   ·injection e1 with e1 e2 e3
    injection e1 with e1
    injection e1 with e1
    subst e1 e2 e3
    have hmlt:m<xs.length:=(aqG.1 hx0).1
    have hfit:m*e.n+e.n≤xs.length*e.n:=by rw[←arX];exact asZ _ hmlt
    have hcap:xs.length*e.n≤c*e.n:=asZ _ h3
    have hrun:=lz (aZ hT hi) w b (m*e.n+off) et cur (a.eval v) h2 (by rw[hvc,Ty.rd_len hrd,hb2]) (by rw[hvc];omega) (by rw[hvc];exact pT hrd)
    rw[hvc]at hrun
    obtain⟨k1,k2,k3⟩:=ug (it':=.row et e (xs.set m x')) (cs:=(dD cur.toList (m*e.n+off) vs).toArray) hr hf hj rfl hg rfl (fun _ hk=>by
     refine⟨css.set m (dD l off vs),⟨?_,.inr ⟨b,c,_,by rw[asQ],h1,setRow_heap w b cur _ et (0,0) h2,by rw[asQ];exact h3,h4,?_,?_⟩⟩,vH m (bQ (fun l y h=>hk _ l y h) ha2) (hk _ _ _ u1),hn0⟩
     ·rw[←nR hls hl (by omega),mZ,asQ];exact ho.1
     ·simp[mZ,h5]
     ·rw[asQ]
      show(dD cur.toList (m*e.n+off) vs).take (xs.length*e.n)=_
      rw[tn _ _ _ _ (by omega) (by simp;omega),h6,nR hls hl (by omega)]) fl false
    refine sk (by rw[hxv];exact hrun) (hnext .undef _ _ G _ undef h k1 k2 rfl k3)
 case h_6 x y t t'=>
  split at h<;>try (cases h;done)
  rename_i i htt hi
  split at h<;>try (cases h;done)
  rename_i e he
  split at h<;>try (cases h;done)
  rename_i e' ys0 hys
  split at h<;>try (cases h;done)
  rename_i ys hcast
  obtain⟨ee,rfl⟩:=dh hcast
  injection ee with ee
  subst ee
  have:=aqA htt
  subst this
  clear hcast
  dsimp only at h
  have hck:=aZ hT hi
  obtain⟨hu,hn0,j,hj,hjs,hjb,hjz,hone⟩:=dt hck he
  have hz1:=ir hone
  have hcz:(mkV e' (zc e')).cells.size=e'.n:=by have:=congrArg List.length hz1;rw[kU]at this;simpa using this
  obtain⟨sy,hsy,hsy2⟩:∃sy,opS L y=some sy∧jP T H [sy] [t]=some [.d (.sl e') ys0]:=by
   cases hq:opS L y with
   |none=>rw[hq]at hys;simp[jP]at hys
   |some sy=>rw[hq]at hys;exact⟨sy,rfl,hys⟩
  have hyr:=aW hf hsy
  obtain⟨p,m,c,css,hyv,hym,hya,hyc⟩:=WX hr hyr hsy2
  have hfl:=fC (eT hya)
  rw[dG hya,hym]at hfl
  have hone':=AJ hya
  have run:∀(g:Value) (N0:Nat) (cs1:List Value),w.ownsRow w0.heap.size i.el e'.n g N0 cs1→(N0+m)*i.byt≤140737488355328→N0+m≤140737488355328→
    ∃v' w',(Builtin.append_ #[t,t] type #[g,a.eval y]).run P w=.ok v' w'∧w'.ownsRow w0.heap.size i.el e'.n v' (N0+m) (cs1++css.flatten)∧w.grownBy w' (bR g)∧(bR v'=bR g∨bR v'=some w.heap.size):=by
   intro g N0 cs1 hown hb1 hb2
   rw[hyv]
   cases p with
   |none=>
    have hm0:m=0:=by
     rcases aq3 m with h0|h0
     ·exact h0
     ·obtain⟨b,off,hp,_⟩:=hyc h0;cases hp
    subst hm0
    have hcss:css.flatten=[]:=ase (by simpa using hfl)
    refine⟨g,w,rA (P:=P) w w0.heap.size t type i.el j e'.n hu hj g N0 cs1 hown c,by rw[hcss,ark];exact hown,⟨rfl,rfl,rfl,aqE _,fun _ _ _=>rfl⟩,.inl rfl⟩
   |some ad=>
    obtain⟨v',w',h1,h2,h3,_,h5⟩:=run_append_own_at (P:=P) w w0.heap.size t type i.el j _ e'.n i.byt hu hj hjz hjs hjb hcz hn0 g N0 cs1 hown ad m c css.flatten (by rw[hfl]) (fun q u hq=>by
     have hm0:0<m:=by
      rcases aq3 m with h0|h0
      ·subst h0
       have hnil:css.flatten=[]:=ase (by rw[hfl];simp)
       rw[hnil]at hq;simp at hq
      ·exact h0
     obtain⟨b,off,hp,hc⟩:=hyc hm0
     injection hp with hp
     subst hp
     rw[df]
     exact hc q u hq) hone' (ZQ hb2) hb1 hr.below.size
    exact⟨v',w',h1,h2,by rw[←nI hown];exact h3,by rw[←nI hown,←nI h2];exact h5⟩
  have ex:∀{v' w'},(Builtin.append_ #[t,t] type #[a.eval x,a.eval y]).run P w=.ok v' w'→(execOp a.eval ⟨dst,.call ⟨.builtin .append,⟨[x,y]⟩,⟨[t,t]⟩⟩,type,pos,after,guard⟩).run P w=.ok (.value v') w':=by
   intro v' w' h1
   have h1':(Builtin.append_ [t,t].toArray type [a.eval x,a.eval y].toArray).run P w=.ok v' w':=h1
   simp[execOp,resolve,invoke,builtin,h1']
  split at h<;>try (cases h;done)
  ·rename_i j0 hx
   split at h<;>try (cases h;done)
   rename_i et e0 xs0 hflr hj0
   split at h<;>try (cases h;done)
   rename_i xs het hcast
   obtain⟨ee,rfl⟩:=dh hcast
   injection ee with ee
   subst ee
   clear hcast
   dsimp only at h
   split at h<;>try (cases h;done)
   rename_i hd
   have hd:=aqr hd
   have het:=aqA het
   subst het
   have hxr:=aW hf hx
   have hitem:=hr.items j0 _ _ hj0 hxr
   obtain⟨css1,ho1,ha1,_⟩:=hitem
   obtain⟨v',w',h1,h2,h3,h4⟩:=run _ _ _ ho1 (by rw[←hym];exact hd.1) (by rw[←hym];exact hd.2)
   have hnp:∀q,a.eval x≠.pointer q:=fun q hq=>by rcases eh ho1 with⟨e1,_⟩|⟨b,c,e1⟩<;>rw[hq]at e1<;>cases e1
   have hst:=Bo (et':=i.el) (e':=e0) (xs':=xs0++ys0) hr hj0 hxr hnp h3 hr.below.size (g':=v') (fun b hb=>by
    rcases h4 with h4|h4
    ·left;rw[←h4];exact hb
    ·right;rw[h4]at hb;injection hb with hb;omega)
   have hlt:=(aqG.1 hj0).1
   refine val (ex h1) (hnext (.own j0) _ _ (G.set j0 v') w' v' h (hst.sr hr fun it' g' k1 k2=>?_) (hf.map fun s v hs=>hst.rel1 hr hs (pE j0 False s)) ?_ ?_)
   ·rw[aqS,aqW rfl,aqW (by simpa using hlt)]at k1
    rw[aqS,aqW rfl,aqW (by rw[hr.len];exact hlt)]at k2
    injection k1 with k1
    injection k2 with k2
    subst k1 k2
    refine⟨css1++css,?_,dE (bQ (fun l y h=>Ty.rd_keep (hst.keeps hr) h) ha1) (bQ (fun l y h=>Ty.rd_keep (hst.keeps hr) h) hya),hn0⟩
    rw[arN,hym,as6]
    exact h2
   ·show(G.set j0 v')[j0]?=some v'
    rw[aqS,aqW rfl,aqW (by rw[hr.len];exact hlt)]
   ·refine⟨fun s v hs hfl=>?_,.inr ⟨⟨h3.size,fun b hb hor=>h3.block b hb fun e1=>?_⟩,?_⟩,by simp⟩
    ·have hof:s.of1 j0=false:=by
      cases hq:s.of1 j0 with
      |false=>rfl
      |true=>have:=hfl j0 hq;have:=aqD hflr;omega
     have:=hst.rel1 hr hs (pE j0 False s)
     unfold wj at this
     rw[hof]at this
     exact this
    ·rcases hor with hor|hor
     ·cases hor
     ·exact hor ⟨j0,_,_,_,_,hj0,hxr,e1.symm⟩
    ·rintro b hb ⟨q,et2,e2,xs2,g2,k1,k2,k3⟩
     by_cases hq:j0=q
     ·subst hq
      rw[aqS,aqW rfl,aqW (by rw[hr.len];exact hlt)]at k2
      injection k2 with k2
      subst k2
      rcases h4 with h4|h4
      ·exact⟨j0,_,_,_,_,hj0,hxr,by rw[←h4];exact k3⟩
      ·rw[h4]at k3;injection k3 with k3;omega
     ·rw[aqS,aqQ hq]at k2
      rw[aqS,aqQ hq,arr]at k1
      cases hh:H[q]? with
      |none=>rw[hh]at k1;cases k1
      |some it=>
       rw[hh]at k1
       cases it with
       |box t cs=>simp[iD]at k1
       |gone=>simp[iD]at k1
       |row a1 a2 a3=>
        simp only[iD,arl,aqF]at k1
        exact⟨q,et2,e2,xs2,g2,by rw[hh,k1],k2,k3⟩
  ·rename_i hx
   split at h<;>try (cases h;done)
   rename_i hd
   have hd:=aqr hd
   have hxr:a.eval x=.slice none 0 0:=aW hf hx
   obtain⟨v',w',h1,h2,h3,h4⟩:=run (.slice none 0 0) 0 [] (World.ownsRow_nil w _ _ _) (by rw[←hym,aq9];exact hd.1) (by rw[←hym,aq9];exact hd.2)
   have hbw:Below w.heap.size w w':=⟨h3.os,h3.tape,h3.output,h3.size,fun b hb=>h3.block b hb (by simp[bR])⟩
   have hown:w'.ownsRow w.heap.size i.el e'.n v' ys0.length css.flatten:=by
    rw[aq9,asO]at h2
    refine⟨by rw[hym];exact h2.1,?_⟩
    rcases h2.2 with⟨k1,k2⟩|⟨g,cap,cur,k1,k2,k3⟩
    ·exact .inl ⟨k1,by rw[hym];exact k2⟩
    ·refine .inr ⟨g,cap,cur,by rw[hym];exact k1,?_,by rw[hym];exact k3⟩
     rw[k1]at h4
     simp[bR]at h4
     omega
   have hblk:∀b,b<w.heap.size→bR v'≠some b:=fun b hb h5=>by
    rcases h4 with h4|h4
    ·rw[h4]at h5;simp[bR]at h5
    ·rw[h4]at h5;injection h5 with h5;omega
   obtain⟨G',k1,k2,k3,k4⟩:=jc (et:=i.el) (css:=css) hr hf hbw hown hn0 (bQ (fun l y h=>Ty.rd_keep ⟨hbw.size,fun b hb hA=>⟨.inl hA,hblk b hb⟩,fun b hb _=>hbw.block b hb⟩ h) hya) fl false true
   exact val (ex (by rw[hxr];exact h1)) (hnext _ _ _ G' _ _ h k1 k2 k3 k4)
  ·rename_i e0 xs0 hx
   split at h<;>try (cases h;done)
   rename_i xs hcast
   obtain⟨ee,rfl⟩:=dh hcast
   injection ee with ee
   subst ee
   clear hcast
   dsimp only at h
   split at h<;>try (cases h;done)
   rename_i hd
   obtain⟨hd1,hd2,hd3,hd4⟩:=aqr hd
   obtain⟨px,hrd,hxv⟩:=aW hf hx
   obtain⟨px',nx,cx,cssx,e1,hx1,hx2,hx3,hx4,hx5⟩:=hrd
   injection e1 with e1
   injection e1 with e1 e2 e3
   subst e1 e2 e3
   have hx0:0<xs0.length:=by
    cases xs0 with
    |nil=>exact absurd rfl hd1
    |cons=>simp
   have hy0:0<m:=by
    rw[←hym]
    cases ys0 with
    |nil=>exact absurd rfl hd2
    |cons=>simp
   obtain⟨bx,ox,rfl,hAx,hbx,hcx⟩:=hx5 hx0
   obtain⟨by_,oy,rfl,hcy⟩:=hyc hy0
   have hflx:=fC (eT hx4)
   rw[dG hx4]at hflx
   obtain⟨v',w',h1,h2,h3⟩:=run_append_arg_grows (P:=P) w t type i.el j _ e0.n i.byt hu hj hjz hjs hjb hcz hn0 ⟨bx,ox,none⟩ xs0.length xs0.length cssx.flatten hflx (fun q u hq=>by rw[df];exact hcx q u hq)
    ⟨by_,oy,none⟩ m c css.flatten hfl (fun q u hq=>by rw[df];exact hcy q u hq) (by omega) (ZQ (by rw[←hym];exact hd4)) (by rw[←hym];exact hd3)
   have hbw:Below w.heap.size w w':=⟨h3.os,h3.tape,h3.output,h3.size,fun b hb=>h3.block b hb (by simp)⟩
   have hblk:∀b,b<w.heap.size→bR v'≠some b:=fun b hb h5=>by
    rcases h2.2 with⟨k1,k2⟩|⟨g,cap,cur,k1,k2,_⟩
    ·rw[k1]at h5;simp[bR]at h5
    ·rw[k1]at h5;simp[bR]at h5;omega
   obtain⟨G',k1,k2,k3,k4⟩:=jc (et:=i.el) (e:=e0) (xs:=xs0++ys0) (css:=cssx++css) hr hf hbw (by rw[arN,hym,as6];exact h2) hn0 (dE (bQ (fun l y h=>Ty.rd_keep ⟨hbw.size,fun b hb hA=>⟨.inl hA,hblk b hb⟩,fun b hb _=>hbw.block b hb⟩ h) hx4) (bQ (fun l y h=>Ty.rd_keep ⟨hbw.size,fun b hb hA=>⟨.inl hA,hblk b hb⟩,fun b hb _=>hbw.block b hb⟩ h) hya)) fl false true
   exact val (ex (by rw[hxv,hyv];exact h1)) (hnext _ _ _ G' _ _ h k1 k2 k3 k4)
 case h_7 x t=>
  split at h<;>try (cases h;done)
  rename_i j sz lo n0 hx
  split at h<;>try (cases h;done)
  rename_i et e0 xs0 hj
  split at h<;>try (cases h;done)
  rename_i i hi
  split at h<;>try (cases h;done)
  rename_i hb
  split at h<;>try (cases h;done)
  rename_i e he
  split at h<;>try (cases h;done)
  rename_i xs hcast
  obtain⟨ee,rfl⟩:=dh hcast
  injection ee with ee
  subst ee
  clear hcast
  dsimp only at h
  simp only[aqB]at hb
  have hb1:=aqA hb.1
  have hb2:=aqA hb.2
  subst hb1 hb2
  have hck:=aZ hT hi
  obtain⟨hu,hn0,jj,hjj,hjs,_,hjz,hone⟩:=dt hck he
  have hz1:=ir hone
  obtain⟨g,q,c,hg,hxv,_,_,h3⟩:=aW hf hx
  obtain⟨css,ho,ha2,_⟩:=hr.items j _ _ hj hg
  have hls:=eT ha2
  have hzl:(zc e0).length=e0.n:=kU e0
  have hlc:=dG ha2
  have ex:∀{w'},(Builtin.clear_ #[t] type #[a.eval x]).run P w=.ok (.tuple #[]) w'→N (a.put dst (.tuple #[])) w'→Oper.upon P ⟨dst,.call ⟨.builtin .clear,⟨[x]⟩,⟨[t]⟩⟩,type,pos,after,guard⟩ a N Q ((execOp a.eval ⟨dst,.call ⟨.builtin .clear,⟨[x]⟩,⟨[t]⟩⟩,type,pos,after,guard⟩).run P w):=by
   intro w' e1 e2
   have e1':(Builtin.clear_ [t].toArray type [a.eval x].toArray).run P w=.ok (.tuple #[]) w':=e1
   refine val (v:=.tuple #[]) (w':=w') ?_ e2
   simp[execOp,resolve,invoke,builtin,e1']
  rcases aq3 n0 with hn|hn
  ·subst hn
   have hcl:I1 e0.zero lo 0 xs0=xs0:=by simp[I1]
   have hst:H.set j (.row i.el e0 xs0)=H:=by
    obtain⟨hlt,hjg⟩:=aqG.1 hj
    rw[←hjg,List.set_getElem_self]
   rw[hcl,hst]at h
   refine ex (w':=w) ?_ (hnext (.tup []) _ _ G w (.tuple #[]) h hr hf ⟨[],rfl,trivial⟩ ⟨fun s v hv _=>hv,.inl rfl,aqE _⟩)
   rw[hxv]
   cases q<;>simp[Builtin.clear_,arA hu]
  ·obtain⟨b,N0,c',rfl,h4,rfl⟩:=h3 hn
   rcases ho.2 with⟨e1,_⟩|⟨g',cap,cur,e1,k1,k2,k3,k4,k5,k6⟩
   ·cases e1
   ·injection e1 with e1 e2 e3
    injection e1 with e1
    injection e1 with e1
    subst e1 e2 e3
    have hfit:lo*e0.n+n0*e0.n≤xs0.length*e0.n:=by rw[←Nat.add_mul];exact asZ _ h4
    have hcap:xs0.length*e0.n≤c'*e0.n:=asZ _ k3
    have hrl:(kq (zc e0) n0).length=n0*e0.n:=by rw[zn,hzl]
    have hsz:(mkV e0 (zc e0)).cells.size=e0.n:=by have:=congrArg List.length hz1;rw[hzl]at this;simpa using this
    have hzc:(Builtin.zeroCells (mkV e0 (zc e0)).cells n0).toList=kq (zc e0) n0:=by
     have hm:=vI (mkV e0 (zc e0)).cells n0
     rw[hz1]at hm
     exact hm
    have hrun:=run_storeCells_at P b (lo*e0.n) i.el (kq (zc e0) n0) 0 cur w k2 (by rw[hrl];omega) (fun v hv=>by
     rw[(ku (nt (A:=fun _=>True) (w:=w) (t:=e0)) n0).2.symm]at hv
     exact AJ (ku (nt (A:=fun _=>True) (w:=w) (t:=e0)) n0).1 v hv)
    rw[as8,hrl]at hrun
    obtain⟨m1,m2,m3⟩:=ug (it':=.row i.el e0 (I1 e0.zero lo n0 xs0)) (cs:=(cur.toList.take (lo*e0.n)++kq (zc e0) n0++cur.toList.drop (lo*e0.n+n0*e0.n)).toArray) hr hf hj rfl hg rfl (fun _ hk=>by
     have hlen:(I1 e0.zero lo n0 xs0).length=xs0.length:=by simp[I1];omega
     have hcut:(css.take lo++List.replicate n0 (zc e0)++css.drop (lo+n0)).flatten=(cur.toList.take (lo*e0.n)++kq (zc e0) n0++cur.toList.drop (lo*e0.n+n0*e0.n)).take (xs0.length*e0.n):=by
      have f1:=mC (kq (zc e0) n0) cur.toList (lo*e0.n) (by rw[hrl];simp;omega)
      have f2:=mC (kq (zc e0) n0) css.flatten (lo*e0.n) (by rw[hrl,fC hls,hlc];omega)
      rw[hrl]at f1 f2
      rw[←f1,tn _ _ _ _ (by rw[hrl];omega) (by simp;omega),k6,f2,as6,as6,eV lo hls,eO (lo+n0) hls,(ku (nt (A:=fun _=>True) (w:=w) (t:=e0)) n0).2,Nat.add_mul]
     refine⟨css.take lo++List.replicate n0 (zc e0)++css.drop (lo+n0),⟨?_,.inr ⟨b,c',_,by rw[hlen],k1,setRow_heap w b cur _ i.el (0,0) k2,by rw[hlen];exact k3,k4,?_,?_⟩⟩,dE (dE (iq lo (bQ (fun l y h=>hk _ l y h) ha2)) (ku nt n0).1) (gc (lo+n0) (bQ (fun l y h=>hk _ l y h) ha2)),hn0⟩
     ·rw[hcut,hlen,arb]
      simp[hrl];omega
     ·simp[hrl];omega
     ·rw[hlen,hcut]) fl false
    refine ex (w':=w.setRow b (cur.toList.take (lo*e0.n)++kq (zc e0) n0++cur.toList.drop (lo*e0.n+n0*e0.n)).toArray) ?_ (hnext (.tup []) _ _ G _ (.tuple #[]) h m1 m2 ⟨[],rfl,trivial⟩ m3)
    rw[hxv]
    obtain⟨m,rfl⟩:∃m,n0=m+1:=⟨n0-1,by omega⟩
    simp[Builtin.clear_,arA hu,zeroValue,typeInfo,hjj,hjz,hzc,hrun]
 case h_8 f args tys=>
  split at h<;>try (cases h;done)
  rename_i g hs
  obtain⟨bs,hbs,hfv⟩:=aW hf hs
  have:bs=[]:=by cases bs with|nil=>rfl|cons=>exact hbs.elim
  subst this
  split at h
  ·rename_i gm hgm
   split at h<;>try (cases h;done)
   rename_i x hargs
   split at h<;>try (cases h;done)
   rename_i j hxs
   split at h<;>try (cases h;done)
   rename_i et xs hfl hj
   split at h<;>try (cases h;done)
   rename_i hlen
   have hlen:=aqr hlen
   have hsp:∃sp,kY E g=some sp∧sp.mut_=some gm∧gm.bx=none:=by
    unfold Sz at hgm
    split at hgm
    ·rename_i sp hsp
     split at hgm
     ·rename_i g' hg'
      split at hgm
      ·cases hgm
      ·rename_i hbx
       injection hgm with hgm
       subst hgm
       exact⟨sp,hsp,hg',hbx⟩
     ·cases hgm
    ·cases hgm
   obtain⟨sp,hsp,hmu,hbx⟩:=hsp
   obtain⟨hcl,_,hmc⟩:=hE g sp hsp
   have hxr:=aW hf hxs
   obtain⟨css,ho,ha,hn0⟩:=hr.items j _ _ hj hxr
   have hcss:css.flatten=xs.map (Value.int .i64):=ya ha
   rw[hcss]at ho
   have hrun:=iv hcl a.eval ⟨dst,.call ⟨.value f,args,tys⟩,type,pos,after,guard⟩ f args tys #[] rfl hfv w
   rw[hrun]
   have e1:Array.map a.eval args++ #[]= #[a.eval x]:=by obtain⟨l⟩:=args;simp only at hargs;subst hargs;simp
   rw[e1]
   have hmut:vn E L (.call ⟨.value f,args,tys⟩)=true:=by simp only[vn,hs,hgm,Option.isSome_some]
   have hmc:=hmc gm hmu
   unfold Ky at hmc
   rw[hbx]at hmc
   dsimp only at hmc
   split at h
   ·rename_i hret
    rw[hret]at hmc
    refine Calls.mono (hmc w _ et _ xs ho hlen) ?_
    rintro e w' ⟨rfl,k1,k2,k3⟩
    have hblk:∀b,b<w.heap.size→(∀g',G[j]?=some g'→bR g'≠some b)→w'.heap[b]?=w.heap[b]?:=fun b hb hn=>k3.block b hb fun e2=>hn _ hxr e2.symm
    have hB:Below w0.heap.size w0 w':=hr.below.grown k3 hr.below.size fun q hq=>((hr.items j _ _ hj hxr).blk rfl hq).1
    have hst:=lO (it':=.row et (.int .i64) (gm.g xs)) hr hj rfl hB k3.size hblk
    refine hnext (.tup []) _ _ G w' _ h (z6 hr hj rfl hB k3.size hblk fun g' hg'=>?_) (hf.keep fun s v hv=>cZ hr hst hv) ⟨[],rfl,trivial⟩ ⟨fun s v hv _=>cZ hr hst hv,.inl (by rw[hmut];simp),by simp⟩
    rw[show G[j]?=some (a.eval x) from hxr]at hg'
    injection hg' with hg'
    subst hg'
    refine⟨(gm.g xs).map fun y=>[Value.int .i64 y],?_,?_,aqE _⟩
    ·have e2:((gm.g xs).map fun y=>[Value.int .i64 y]).flatten=(gm.g xs).map (Value.int .i64):=by induction gm.g xs with|nil=>rfl|cons y ys ih=>simp[ih]
     rw[e2,k2]
     exact k1
    ·induction gm.g xs with
     |nil=>trivial
     |cons y ys ih=>exact⟨rfl,ih⟩
   ·rename_i hret
    rw[hret]at hmc
    refine Calls.mono (hmc w _ et _ xs ho hlen) ?_
    rintro e w' ⟨v',rfl,k1,k3,k4⟩
    have hnp:∀q,a.eval x≠.pointer q:=fun q hq=>by rcases eh ho with⟨e1,_⟩|⟨b,c,e1⟩<;>rw[hq]at e1<;>cases e1
    have hst:=Bo (et':=et) (e':=.int .i64) (xs':=gm.g xs) hr hj hxr hnp k3 hr.below.size (g':=v') (fun b hb=>.inl (by rw[←k4];exact hb))
    have hlt:=(aqG.1 hj).1
    refine hnext (.own j) _ _ (G.set j v') w' v' h (hst.sr hr fun it' g' q1 q2=>?_) (hf.map fun s v hs=>hst.rel1 hr hs (pE j False s)) ?_ ⟨fun s v hs hfl'=>?_,.inl (by rw[hmut];simp),by simp⟩
    ·rw[aqS,aqW rfl,aqW (by simpa using hlt)]at q1
     rw[aqS,aqW rfl,aqW (by rw[hr.len];exact hlt)]at q2
     injection q1 with q1
     injection q2 with q2
     subst q1 q2
     refine⟨(gm.g xs).map fun y=>[Value.int .i64 y],?_,?_,aqE _⟩
     ·have e2:((gm.g xs).map fun y=>[Value.int .i64 y]).flatten=(gm.g xs).map (Value.int .i64):=by induction gm.g xs with|nil=>rfl|cons y ys ih=>simp[ih]
      rw[e2]
      exact k1
     ·induction gm.g xs with
      |nil=>trivial
      |cons y ys ih=>exact⟨rfl,ih⟩
    ·show(G.set j v')[j]?=some v'
     rw[aqS,aqW rfl,aqW (by rw[hr.len];exact hlt)]
    ·have hof:s.of1 j=false:=by
      cases hq:s.of1 j with
      |false=>rfl
      |true=>have:=hfl' j hq;have:=aqD hfl;omega
     have:=hst.rel1 hr hs (pE j False s)
     unfold wj at this
     rw[hof]at this
     exact this
  rename_i hgm
  have hmut:vn E L (.call ⟨.value f,args,tys⟩)=false:=by simp only[vn,hs,hgm,Option.isSome_none]
  obtain⟨hcl,hcalls⟩:=B7 (Q:=fun v w'=>N (a.put dst v) w') hE hI hr hf h fun s H' L' G' w' v h1 h2 h3 h4 h5=>hnext s H' L' G' w' v h1 h2 h3 h4 (by rw[hmut];exact h5)
  have:=iv hcl a.eval ⟨dst,.call ⟨.value f,args,tys⟩,type,pos,after,guard⟩ f args tys #[] rfl hfv w
  rw[this]
  have e1:Array.map a.eval args++ #[]=(args.toList.map a.eval).toArray:=by obtain⟨l⟩:=args;simp
  rw[e1]
  refine Calls.mono hcalls ?_
  rintro e w' ⟨v,rfl,hN⟩
  exact hN
 case h_9=>cases h
end
end
section
def storeDone(ops:Array Oper)(l:Array Bool):Prop:=∃s os,ops[s]?=some os∧db os.op=true∧l.getD s true=true
def Sst(ops:Array Oper)(S0:World→Prop)(l:Array Bool)(w:World):Prop:=storeDone ops l∨S0 w
def wpG(P:Program)(ops:Array Oper)(Q:Exit→Act→World→Prop)(S0:World→Prop):Nat→Array Bool→Act→World→Prop
 |0,l,a,w=>Region.ready .any ops l=[]∧Q .normal a w
 |n+1,l,a,w=>(Region.ready .any ops l=[]→Q .normal a w)∧
  ∀i∈Region.ready .any ops l,wpOp P ops Q i (fun a' w'=>Sst ops S0 (l.setIfInBounds i true) w'∧wpG P ops Q S0 n (l.setIfInBounds i true) a' w') a w
def Clo(ops:Array Oper)(l:Array Bool):Prop:=∀j oj,ops[j]?=some oj→l.getD j true=true→∀e∈oj.after,Region.binds .any e=true→l.getD e.on false=true
theorem Clo.set{ops:Array Oper}{l:Array Bool}{j:Nat}(h:Clo ops l)(hj:j∈Region.ready .any ops l):Clo ops (l.setIfInBounds j true):=by
 intro k ok hk hd e he hb
 by_cases hjk:j=k
 ·subst hjk
  obtain⟨_,o,ho,hall⟩:=arE.1 hj
  rw[hk]at ho
  injection ho with ho
  subst ho
  exact atf (hall e he hb)
 ·rw[ar7 true hjk]at hd
  exact atf (h k ok hk hd e he hb)
theorem oY{ops:Array Oper}:Clo ops (mkL ops.size []):=by
 intro j oj hj hd
 have hlt:=(aqI.1 hj).1
 simp[mkL,hlt]at hd
def fv(ops:Array Oper):Nat→Nat→Nat→Bool
 |0,_,_=>false
 |n+1,s,i=>match ops[s]? with
  |some os=>os.after.toList.any fun e=>Region.binds .any e&&(Nat.beq e.on i||fv ops n e.on i)
  |none=>false
theorem qF{ops:Array Oper}{l:Array Bool}(hc:Clo ops l){i:Nat}:∀{n s:Nat},fv ops n s i=true→(∀os,ops[s]?=some os→∀e∈os.after,Region.binds .any e=true→l.getD e.on false=true)→l.getD i false=true:=by
 intro n
 induction n with
 |zero=>intro s h;simp[fv]at h
 |succ n ih=>
  intro s h hs
  unfold fv at h
  split at h<;>try (cases h;done)
  rename_i os hos
  rw[List.any_eq_true]at h
  obtain⟨e,he,hb⟩:=h
  simp only[aqB,asa]at hb
  have hd:=hs os hos e (as0.1 he) hb.1
  rcases hb.2 with h1|h1
  ·rw[←aqA h1];exact hd
  ·refine ih h1 fun os' ho' e' he' hb'=>hc e.on os' ho' ?_ e' he' hb'
   rcases aqT e.on l.size with hlt|hge
   ·simp[hlt]at hd ⊢;exact hd
   ·simp[aq8 hge]at hd
def rX(ops:Array Oper)(i:Nat):Bool:=(List.range ops.size).all fun s=>match ops[s]? with
 |some os=>!db os.op||fv ops 4 s i
 |none=>true
theorem EY{ops:Array Oper}{l:Array Bool}(hc:Clo ops l){i j:Nat}{oj:Oper}(h:rX ops i=true)(hi:l.getD i true=false)(hj:j∈Region.ready .any ops l)(hoj:ops[j]?=some oj):db oj.op=false:=by
 have h1:=aqO.1 h j (by simpa using(aqI.1 hoj).1)
 rw[hoj]at h1
 simp only[asa,arC]at h1
 rcases h1 with h1|h1
 ·exact h1
 ·obtain⟨_,o,ho,hall⟩:=arE.1 hj
  rw[hoj]at ho
  injection ho with ho
  subst ho
  have:=qF hc h1 (fun os hos e he hb=>by rw[hoj]at hos;injection hos with hos;subst hos;exact hall e he hb)
  rcases aqT i l.size with hlt|hge
  ·simp[hlt]at hi this;rw[hi]at this;cases this
  ·simp[aq8 hge]at this
section
variable {P:Program} {ops:Array Oper} {Q:Exit→Act→World→Prop} {S0:World→Prop}
theorem storeDone.set{l:Array Bool}(h:storeDone ops l)(i:Nat):storeDone ops (l.setIfInBounds i true):=by
 obtain⟨s,os,h1,h2,h3⟩:=h
 refine⟨s,os,h1,h2,?_⟩
 by_cases hs:i=s
 ·subst hs
  by_cases hlt:i<l.size
  ·simp[hlt]
  ·simp[hlt]
 ·rw[ar7 true hs];exact h3
theorem storeDone.unset{l:Array Bool}{i:Nat}{oi:Oper}(hi:ops[i]?=some oi)(hq:db oi.op=false)(h:storeDone ops (l.setIfInBounds i true)):storeDone ops l:=by
 obtain⟨s,os,h1,h2,h3⟩:=h
 refine⟨s,os,h1,h2,?_⟩
 have hs:i≠s:=fun e=>by subst e;rw[hi]at h1;injection h1 with h1;subst h1;rw[hq]at h2;cases h2
 rw[ar7 true hs]at h3
 exact h3
theorem Sst.set{l:Array Bool}{w:World}(h:Sst ops S0 l w)(i:Nat):Sst ops S0 (l.setIfInBounds i true) w:=h.elim (fun h=>.inl (h.set i)) .inr
theorem BG:∀(n:Nat) (l:Array Bool) (a:Act) (w:World),wpG P ops Q S0 n l a w→wpAny P .any ops Q n l a w
 |0,_,_,_,h=>h
 |n+1,_,_,_,h=>⟨h.1,fun i hi=>wpOp_mono (fun a' w' h'=>BG n _ a' w' h'.2) (h.2 i hi)⟩
theorem dH{l:Array Bool}{i j:Nat}{oj:Oper}(hr:i∈Region.ready .any ops l)(hj:j∈Region.ready .any ops l)(hoj:ops[j]?=some oj):∀e∈oj.after,Region.binds .any e=true→e.on≠i:=fun e he hb heq=>by
 obtain⟨_,o,ho,hall⟩:=arE.1 hj
 rw[hoj]at ho
 injection ho with ho
 subst ho
 have hiun:=(arE.1 hr).1
 have h2:=hall e he hb
 rw[heq]at h2
 rcases aqT i l.size with h'|h'
 ·simp[h']at hiun h2;rw[hiun]at h2;cases h2
 ·simp[aq8 h']at h2
theorem JT{i:Nat}{oi:Oper}{v:Value}(hi:ops[i]?=some oi)(hsel:∀(j:Nat) (o:Oper) cs b,ops[j]?=some o→o.op≠.select cs b)
  (hQ:∀c a w,Q (.panic c) (a.put oi.dst v) w→Q (.panic c) a w) (hq:db oi.op=false) (hst:rX ops i=true):
  ∀(n:Nat) (l:Array Bool) (a:Act) (w:World),
   (∀j oj,ops[j]?=some oj→j≠i→l.getD j true=false→(∀e∈oj.after,Region.binds .any e=true→e.on≠i)→oi.apart ops oj=true)→
   Clo ops l→¬storeDone ops l→i∈Region.ready .any ops l→YieldsIf P ops S0 oi v a→S0 w→
   wpG P ops Q S0 n (l.setIfInBounds i true) (a.put oi.dst v) w→wpG P ops Q S0 (n+1) l a w:=by
 intro n
 induction n with
 |zero=>
  intro l a w _ _ _ hr hy hS H
  refine⟨fun h=>(by rw[h]at hr;cases hr),fun j hj=>?_⟩
  by_cases hji:j=i
  ·subst hji;exact hy.wpOp hi hS ⟨.inr hS,H⟩
  ·have:=arZ hj hji
   rw[H.1]at this
   cases this
 |succ n ih=>
  intro l a w hfree hcl hun hr hy hS H
  refine⟨fun h=>(by rw[h]at hr;cases hr),fun j hj=>?_⟩
  by_cases hji:j=i
  ·subst hji;exact hy.wpOp hi hS ⟨.inr hS,H⟩
  ·have h1:=H.2 j (arZ hj hji)
   obtain⟨hjun,oj,hoj,hall⟩:=arE.1 hj
   have hiun:=(arE.1 hr).1
   have hjs:=EY hcl hst hiun hj hoj
   have h2:=wpOp_putIf hoj (hfree j oj hoj hji hjun (dH hr hj hoj)) (fun cs b=>hsel i oi cs b hi) (fun cs b=>hsel j oj cs b hoj) hQ hy h1
   have hun':¬storeDone ops (l.setIfInBounds j true):=fun h=>hun (h.unset hoj hjs)
   have hfree':∀k ok,ops[k]?=some ok→k≠i→(l.setIfInBounds j true).getD k true=false→(∀e∈ok.after,Region.binds .any e=true→e.on≠i)→oi.apart ops ok=true:=fun k ok hk hki hu hno=>by
    refine hfree k ok hk hki ?_ hno
    by_cases hjk:j=k
    ·subst hjk;exact hjun
    ·rw[ar7 true hjk]at hu;exact hu
   refine wpOp_mono (fun a' w' h3=>?_) h2
   obtain⟨y1,y2,y3⟩:=h3
   have hS':S0 w':=by
    rcases y2 with h|h
    ·exact absurd ((h.unset hoj hjs).unset hi hq) hun
    ·exact h
   refine⟨.inr hS',ih (l.setIfInBounds j true) a' w' hfree' (hcl.set hj) hun' (arZ hr (arU hji)) y1 hS' ?_⟩
   rw[aro _ _ hji]
   exact y3
theorem AW{i:Nat}{oi:Oper}{v:Value}(hi:ops[i]?=some oi)(hsel:∀(j:Nat) (o:Oper) cs b,ops[j]?=some o→o.op≠.select cs b)
  (hQ:∀c a w,Q (.panic c) (a.put oi.dst v) w→Q (.panic c) a w) (hq:db oi.op=false):
  ∀(n:Nat) (l:Array Bool) (a:Act) (w:World),
   (∀j oj,ops[j]?=some oj→j≠i→l.getD j true=false→(∀e∈oj.after,Region.binds .any e=true→e.on≠i)→oi.apart ops oj=true)→
   i∈Region.ready .any ops l→YieldsIf P ops (fun _=>True) oi v a→Sst ops S0 l w→
   wpG P ops Q S0 n (l.setIfInBounds i true) (a.put oi.dst v) w→wpG P ops Q S0 (n+1) l a w:=by
 intro n
 induction n with
 |zero=>
  intro l a w _ hr hy hS H
  refine⟨fun h=>(by rw[h]at hr;cases hr),fun j hj=>?_⟩
  by_cases hji:j=i
  ·subst hji;exact hy.wpOp hi trivial ⟨hS.set _,H⟩
  ·have:=arZ hj hji
   rw[H.1]at this
   cases this
 |succ n ih=>
  intro l a w hfree hr hy hS H
  refine⟨fun h=>(by rw[h]at hr;cases hr),fun j hj=>?_⟩
  by_cases hji:j=i
  ·subst hji;exact hy.wpOp hi trivial ⟨hS.set _,H⟩
  ·have h1:=H.2 j (arZ hj hji)
   obtain⟨hjun,oj,hoj,hall⟩:=arE.1 hj
   have h2:=wpOp_putIf hoj (hfree j oj hoj hji hjun (dH hr hj hoj)) (fun cs b=>hsel i oi cs b hi) (fun cs b=>hsel j oj cs b hoj) hQ hy h1
   have hfree':∀k ok,ops[k]?=some ok→k≠i→(l.setIfInBounds j true).getD k true=false→(∀e∈ok.after,Region.binds .any e=true→e.on≠i)→oi.apart ops ok=true:=fun k ok hk hki hu hno=>by
    refine hfree k ok hk hki ?_ hno
    by_cases hjk:j=k
    ·subst hjk;exact hjun
    ·rw[ar7 true hjk]at hu;exact hu
   refine wpOp_mono (fun a' w' h3=>?_) h2
   obtain⟨y1,y2,y3⟩:=h3
   have hS':Sst ops S0 (l.setIfInBounds j true) w':=by
    rcases y2 with h|h
    ·rw[aro _ _ (arU hji)]at h
     exact .inl (h.unset hi hq)
    ·exact .inr h
   refine⟨hS',ih (l.setIfInBounds j true) a' w' hfree' (arZ hr (arU hji)) y1 hS' ?_⟩
   rw[aro _ _ hji]
   exact y3
theorem pQ{rs:List Nat}{n:Nat}{l:Array Bool}{a:Act}{w:World}(hr:Region.ready .any ops l=rs)(hne:rs≠[])
  (h:∀i∈rs,wpOp P ops Q i (fun a' w'=>Sst ops S0 (l.setIfInBounds i true) w'∧wpG P ops Q S0 n (l.setIfInBounds i true) a' w') a w):wpG P ops Q S0 (n+1) l a w:=
 ⟨fun h0=>absurd (hr▸h0) hne,hr▸h⟩
theorem uS{l:Array Bool}{a:Act}{w:World}(hr:Region.ready .any ops l=[])(h:Q .normal a w):∀n,wpG P ops Q S0 n l a w
 |0=>⟨hr,h⟩
 |_+1=>⟨fun _=>h,by rw[hr];simp⟩
end
theorem gj(l:Array Bool)(k:Nat):(l.setIfInBounds k true).getD k true=true:=by
 by_cases h:k<l.size
 ·simp[h]
 ·simp[h]
end
def isQ:Op→Bool
 |.move _|.assign _|.nilCheck _|.pick .. |.load .. |.fieldAddr .. |.indexAddr .. |.extract .. |.build .. |.makeFunc .. |.slice .. |.binOp .. |.unOp .. |.convert .. |.index .. =>true
 |.call ⟨.builtin .len,_,_⟩|.call ⟨.builtin .max,_,_⟩|.call ⟨.builtin .min,_,_⟩=>true
 |_=>false
theorem Iw{o:Op}(h:isQ o=true):db o=false:=by
 cases o with
 |store=>cases h
 |call c=>
  obtain⟨f,x,y⟩:=c
  cases f with
  |builtin b=>cases b<;>first|rfl|cases h
  |_=>rfl
 |_=>rfl
def eM(L:SL):List Nat→SL
 |[]=>[]
 |t::ts=>match aV L t with
  |some s=>(t,s)::eM L ts
  |none=>eM L ts
abbrev kN(L:SL)(_:Nat):SL:=L
def ck{R:Type}(ops:Array Oper)(L:SL)(o:Oper)(yes no:SL→Option R):Option R:=match o.guard with
 |none=>yes L
 |some (j,want)=>match(ops[j]?).bind (·.dst)with
  |some d=>match aV L d with
   |some (.d .bool b)=>match b with
    |true=>match want with
     |true=>yes ((d,.d .bool true)::L)
     |false=>no ((d,.d .bool true)::L)
    |false=>match want with
     |true=>no ((d,.d .bool false)::L)
     |false=>yes ((d,.d .bool false)::L)
   |some .undef=>no L
   |_=>none
  |none=>none
def iz(o:Op):Bool:=isQ o&&match o with
 |.binOp op _ _ y _=>(Gc op y).isNone
 |_=>true
def Bn(E:Env):Op→Bool
 |.call ⟨.value (.func f),_,_⟩=>match kY E f with
  |some sp=>sp.tame&&(match sp.mut_ with
   |none=>true
   |some g=>g.bx.isSome)
  |none=>false
 |_=>false
def bz(o:Oper):Bool:=(match o.op with
 |.alloc _=>true
 |_=>false)&&o.guard.isNone&&o.dst.isSome
def ez(E:Env)(o:Oper):Bool:=iz o.op||Bn E o.op
def dA(E:Env)(ops:Array Oper)(j:Nat):Bool:=match ops[j]? with
 |some o=>ez E o
 |none=>false
def dM(E:Env)(ops:Array Oper)(j:Nat):Bool:=match ops[j]? with
 |some o=>!(ez E o)&&!(bz o)
 |none=>false
def gz(E:Env)(ops:Array Oper)(i:Nat):Bool:=(List.range ops.size).all fun s=>!(dM E ops s)||fv ops 4 s i
def r8(E:Env)(ops:Array Oper):Bool:=ops.toList.all fun o=>ez E o||bz o||(isSt o.op&&o.guard.isNone&&o.dst.isNone)
def xo(o:Oper):Bool:=iz o.op&&!(kM o.op)
def b9(E:Env)(ops:Array Oper):Bool:=(List.range ops.size).all fun j=>match ops[j]? with
 |some o=>!(ez E o)||xo o||gz E ops j
 |none=>true
def VB(ops:Array Oper):Bool:=ops.toList.all fun o=>match o.op with
 |.store _ (.tmp d) _=>ops.toList.any fun a=>bz a&&(match a.dst with
  |some e=>Nat.beq e d
  |none=>false)
 |.store .. =>false
 |_=>true
def abN(E:Env)(ops:Array Oper):Bool:=(b9 E ops||(r8 E ops&&VB ops))&&E.any (fun p=>p.2.tame)&&(!(ops.toList.any bz)||r8 E ops)
def afC:List RV→Option SV
 |[.d t x]=>some (.d t x)
 |[.new _ _ _]=>none
 |rs=>match rvS rs with
  |some l=>some (.tup l)
  |none=>none
def aa6{R:Type}(T:TT)(E:Env)(L:SL)(H:List Item)(f:Nat)(args:List Operand)(tys:List Nat)(k:SV→Option R):Option R:=match kY E f with
 |some sp=>match AM L args with
  |some ss=>match jP T H ss tys,ss.all SV.noOwn with
   |some al,true=>sp.run R al fun rs=>match afC rs with
    |some s=>k s
    |none=>none
   |_,_=>none
  |none=>none
 |none=>none
def tq{R:Type}(P:Program)(T:TT)(E:Env)(L:SL)(H:List Item)(o:Oper)(k:SV→Option R):Option R:=match iz o.op with
 |true=>qop P T true L H o k
 |false=>match Bn E o.op,o.op with
  |true,.call ⟨.value (.func f),args,tys⟩=>aa6 T E L H f args.toList tys.toList k
  |_,_=>none
def SV.refs(hl:Nat):SV→Bool
 |.box j _=>Nat.ble (j+1) hl
 |.own j=>Nat.ble (j+1) hl
 |.oelt j _ _ _=>Nat.ble (j+1) hl
 |.osl j _ _ _=>Nat.ble (j+1) hl
 |.clo _ caps=>caps.all fun j=>Nat.ble (j+1) hl
 |.tup _=>false
 |_=>true
def SV.refsT(hl:Nat):SV→Bool
 |.tup l=>l.all (SV.refs hl)
 |s=>s.refs hl
def ed(E:Env)(ops:Array Oper)(l:Array Bool):Bool:=(List.range ops.size).all fun k=>l.getD k true||!(dA E ops k)||(List.range ops.size).any fun s=>dM E ops s&&!(l.getD s true)&&fv ops 4 k s
structure AlA where
 i:Nat
 d:Nat
 t:Nat
 cs:List SV
structure AlS where
 i:Nat
 j:Nat
 off:Nat
 l:List SV
def alA(T:TT)(N:Nat):List Oper→Nat→Option (List AlA)
 |[],_=>some []
 |o::r,i=>match bz o with
  |false=>alA T N r (i+1)
  |true=>match o.op,o.dst with
   |.alloc t,some d=>match c8 T t,Nat.ble (d+1) N,alA T N r (i+1)with
    |some x,true,some l=>match x.z,x.ty with
     |_,.pair _ _=>none
     |true,ty=>match l.all (fun b=>!(Nat.beq i b.i)&&!(Nat.beq d b.d))with
      |true=>some (⟨i,d,t,ty.zsplit⟩::l)
      |false=>none
     |_,_=>none
    |_,_,_=>none
   |_,_=>none
def fc(f:Nat→Bool):List AlA→Nat→SL→SL
 |[],_,L=>L
 |a::r,k,L=>fc f r (k+1) (match f a.i with
  |true=>(a.d,.box k 0)::L
  |false=>L)
def alX(f:Nat→Bool)(la:List AlA):List Item:=la.map fun a=>match f a.i with
 |true=>.box a.t a.cs
 |false=>.gone
def IV:Operand→Nat→Bool
 |.tmp t,d=>Nat.beq t d
 |_,_=>false
def EE(s p:AlS):Bool:=!(Nat.beq s.i p.i)&&(!(Nat.beq s.j p.j)||Nat.ble (s.off+s.l.length) p.off||Nat.ble (p.off+p.l.length) s.off)
def FL(ops:Array Oper)(i j:Nat):List AlA→Nat→Bool
 |[],_=>true
 |a::r,k=>(!(Nat.beq j k)||fv ops 4 i a.i)&&FL ops i j r (k+1)
def alS(T:TT)(E:Env)(ops:Array Oper)(l:Array Bool)(la:List AlA)(h0:Nat)(La:SL)(Ha:List Item):List Oper→Nat→Option (List AlS)
 |[],_=>some []
 |o::r,i=>match l.getD i true||bz o||ez E o with
  |true=>alS T E ops l la h0 La Ha r (i+1)
  |false=>match o.op with
   |.store t x v=>match o.guard,o.dst,opS La x,opS La v,c8 T t with
    |none,none,some (.box j off),some s,some y=>match fb [] s,Ha[j]?,alS T E ops l la h0 La Ha r (i+1)with
     |some cs,some (.box _ cells),some ss=>match Nat.beq cs.length y.ty.n&&Nat.ble (off+cs.length) cells.length&&cs.all (SV.refs h0)&&la.all (fun a=>!(IV x a.d||IV v a.d)||fv ops 4 i a.i)&&FL ops i j la h0&&ss.all (EE ⟨i,j,off,cs⟩)with
      |true=>some (⟨i,j,off,cs⟩::ss)
      |false=>none
     |_,_,_=>none
    |_,_,_,_,_=>none
   |_=>none
def stP(s:AlS)(H:List Item):List Item:=match H[s.j]? with
 |some (.box bt cells)=>H.set s.j (.box bt (lc cells s.off s.l))
 |_=>H
def cq(f:Nat→Bool):List AlS→List Item→List Item
 |[],H=>H
 |s::r,H=>match f s.i with
  |true=>stP s (cq f r H)
  |false=>cq f r H
def FP(ops:Array Oper):Array Bool→List Nat→Bool
 |_,[]=>true
 |l,i::r=>(match ops[i]? with
  |some o=>o.after.toList.all fun e=>!(Region.binds .any e)||l.getD e.on false
  |none=>false)&&FP ops (l.setIfInBounds i true) r
def FZ(E:Env)(ops:Array Oper)(l:Array Bool)(C:List Nat):Bool:=(List.range ops.size).all fun k=>l.getD k true||!(dA E ops k)||C.all (fun j=>fv ops 4 k j)
def VD(T:TT)(E:Env)(N:Nat)(ops:Array Oper)(l:Array Bool)(L:SL)(H:List Item):Option (SL×List Item×List Nat):=match alA T N ops.toList 0 with
 |some la=>match alS T E ops l la H.length (fc (fun _=>true) la H.length L) (H++alX (fun _=>true) la) ops.toList 0 with
  |some ss=>match FP ops l (la.map (·.i)++ss.map (·.i))&&FZ E ops l (la.map (·.i)++ss.map (·.i))&&(b9 E ops||(ss.all (fun s=>Nat.ble H.length s.j)&&(List.range ops.size).all fun k=>l.getD k true||!(dA E ops k)))with
   |true=>some (fc (fun _=>true) la H.length L,cq (fun _=>true) ss (H++alX (fun _=>true) la),la.map (·.i)++ss.map (·.i))
   |false=>none
  |none=>none
 |none=>none
def ahb(E:Env)(f:Nat):Option Nat:=match kY E f with
 |some sp=>match sp.mut_ with
  |some g=>g.bx
  |none=>none
 |none=>none
def aod(E:Env)(o:Oper):Bool:=match o.op with
 |.call ⟨.value (.func f),_,_⟩=>(ahb E f).isSome
 |_=>false
def bxC(E:Env)(L:SL)(H:List Item)(o:Oper):Option (Nat×SV×Bool):=match o.op with
 |.call ⟨.value (.func f),⟨[x,y,z]⟩,_⟩=>match ahb E f with
  |some t=>match opS L x,opS L y,opS L z with
   |some (.box j 0),some (.d (.st (.pair (.int .i64) (.int .i64))) i),some (.d .bool c)=>match H[j]? with
    |some (.box t' [.d .bool _])=>match Nat.beq t t' with
     |true=>some (j,.d (.st (.pair (.int .i64) (.int .i64))) i,c)
     |false=>none
    |_=>none
   |_,_,_=>none
  |none=>none
 |_=>none
def iT(j:Nat)(c:Bool)(H:List Item):List Item:=match H[j]? with
 |some (.box t [.d .bool b])=>H.set j (.box t [.d .bool (b&&c)])
 |_=>H
def ddI:Item→Item
 |.box t [.d .bool _]=>.box t [.dead]
 |it=>it
def ddJ:Item→Item
 |.box t [.d .bool _]=>.box t [.d .bool false]
 |it=>it
def xq(E:Env)(ops:Array Oper)(D:List Nat):List Nat→Option Nat
 |[]=>none
 |j::r=>match ops[j]? with
  |some o=>match ez E o&&o.dst.isSome&&Region.free .any ops (mkL ops.size D) j&&(gz E ops j||!(b9 E ops))with
   |true=>some j
   |false=>xq E ops D r
  |none=>none
def xB(E:Env)(ops:Array Oper)(D:List Nat):List Nat→Option Nat
 |[]=>none
 |j::r=>match ops[j]? with
  |some o=>match ez E o&&o.dst.isSome&&Region.free .any ops (mkL ops.size D) j&&(xo o||gz E ops j||!(b9 E ops))with
   |true=>some j
   |false=>xB E ops D r
  |none=>none
def adf(E:Env)(ops:Array Oper)(l:Array Bool):Bool:=E.any (fun p=>p.2.tame)&&(List.range ops.size).all fun k=>l.getD k true||dA E ops k
def wG(E:Env)(ops:Array Oper)(D:List Nat):List Nat→Option Nat
 |[]=>none
 |j::r=>match ops[j]? with
  |some o=>match ez E o&&o.dst.isSome&&Region.free .any ops (mkL ops.size D) j with
   |true=>some j
   |false=>wG E ops D r
  |none=>none
end Go.Proofs.YtlahabkjhgkkjaaGreat
end
