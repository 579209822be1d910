/- Allocations and stores at a region's end: one order stands for all. Lists. -/
import Derived.Test.YtoimchcjhdcdmaaGreatQ4
noncomputable section
namespace Go.Proofs.YtoimchcjhdcdmaaGreat
open Go.RowKit Go.IntKind
open Bool renaming true->T',false->F'
open Option renaming some->S',none->N'
theorem apb:type_of% @Classical.byContradiction:=@Classical.byContradiction
theorem apz:type_of% @List.mem_singleton:=@List.mem_singleton
theorem apT:type_of% @List.pairwise_cons:=@List.pairwise_cons
theorem ap9:type_of% @List.getElem?_set_ne:=@List.getElem?_set_ne
theorem aqv:type_of% @List.mem_append_left:=@List.mem_append_left
theorem aqz:type_of% @List.getElem?_set_self:=@List.getElem?_set_self
theorem aqD:type_of% @Array.getElem?_toList:=@Array.getElem?_toList
theorem aqE:type_of% @List.mem_append_right:=@List.mem_append_right
theorem aq1:type_of% @List.mem_map:=@List.mem_map
theorem aq6:type_of% @List.mem_or_eq_of_mem_set:=@List.mem_or_eq_of_mem_set
theorem arv:type_of% @Nat.beq_refl:=@Nat.beq_refl
theorem arQ:type_of% @List.map_congr_left:=@List.map_congr_left
theorem ar8:type_of% @Bool.or_true:=@Bool.or_true
theorem ar9:type_of% @Nat.sub_zero:=@Nat.sub_zero
abbrev dn(l:Array Bool):Nat->Bool:=λk=>l.getD k T'
theorem jm(l:Array Bool)(j k:Nat):dn (l.setIfInBounds j T') k=if k=j then T' else dn l k:=by
 by_cases h:k=j
 ·simp_all
 simp_all [aqK]
theorem d9{d:Nat}{s:SV}{L:SL}{t:Nat}:aK ((d,s)::nH L d) t=if t=d then S' s else aK L t:=by grind [aK,arv,aoS]
theorem xR:∀{l cs:List SV} {off:Nat},(nT cs off l).length=cs.length
 |[],_,_=>rfl
 |_::r,_,_=>by simp[nT,xR (l:=r)]
theorem EG:∀(l cs:List SV) (off i:Nat),(nT cs off l)[i]?=if off<=i/\i<off+l.length/\i<cs.length then l[i-off]? else cs[i]?
 |[],cs,off,i=>by rw[aph (by simp;omega)];rfl
 |s::r,cs,off,i=>by
  rw[nT,EG r (cs.set off s) (off+1) i,ap3,ao8];by_cases h1:i=off
  ·subst h1;rw[aph (by omega)];by_cases h2:i<cs.length
   ·rw[apB (by omega),arg,aqz h2];rfl
   ·rw[aph (by omega),aqj (by simp;omega),aqj (by omega)]
  ·by_cases h2:off+1<=i/\i<off+1+r.length/\i<cs.length
   ·rw[apB h2,apB (by omega),show i-off=(i-(off+1))+1 by omega,apq]
   ·rw[aph h2,aph (by omega),ap9 (aqK h1)]
theorem M5{l l' cs:List SV}{off off':Nat}(h:off+l.length<=off'\/off'+l'.length<=off):nT (nT cs off l) off' l'=nT (nT cs off' l') off l:=by
 refine aqA λi=>?_;grind [EG,xR]
theorem GE{x:SV}:∀{l cs:List SV} {off:Nat},x∈nT cs off l->x∈cs\/x∈l
 |[],_,_,h=>.inl h
 |s::r,cs,off,h=>by
  rcases GE (l:=r) h with h1|h1
  ·rcases aq6 h1 with h2|h2
   ·exact .inl h2
   ·subst h2;exact .inr (by simp)
  ·exact .inr (by simp[h1])
def ovI(s:AlS):Item->Item
 |.box bt cells=>.box bt (nT cells s.off s.l)
 |it=>it
theorem oo(s:AlS)(H:List Item)(k:Nat):(stP s H)[k]?=if k=s.j then H[k]?.map (ovI s)else H[k]?:=by
 unfold stP;split
 ·rename_i bt cells hb;by_cases h:k=s.j
  ·subst h;rw[apB rfl,hb,aqz (aoZ.1 hb).1];rfl
  grind
 ·rename_i hb;by_cases h:k=s.j
  ·subst h;rw[apB rfl];cases hh:H[s.j]? with
   |none=>rfl
   |some it=>
    cases it with
    |box bt cells=>exact absurd hh (hb bt cells)
    |row=>rfl
    |len=>rfl
    |rws=>rfl
    |gone=>rfl
  ·rw[aph h]
theorem J3(s:AlS)(H:List Item):(stP s H).length=H.length:=by grind [stP]
theorem WU{s:AlS}{H:List Item}{k:Nat}{it:Item}(h:s.j≠k):stP s (H.set k it)=(stP s H).set k it:=by
 refine aqA λi=>?_;grind [oo,J3]
theorem vA{s p:AlS}(h:Iz s p=T'):s.i≠p.i/\(s.j≠p.j\/s.off+s.l.length<=p.off\/p.off+p.l.length<=s.off):=by
 simp only[Iz,aoT,aqU]at h;obtain⟨h1,h2⟩:=h;refine⟨λe=>(by rw[e,arv]at h1;cases h1),?_⟩;rcases h2 with(h2|h2)|h2
 ·grind [arv]
 ·simp_all
 simp_all
theorem Oo{s p:AlS}(h:Iz s p=T')(H:List Item):stP s (stP p H)=stP p (stP s H):=by
 obtain⟨_,h⟩:=vA h;refine aqA λk=>?_;rw[oo,oo,oo,oo];by_cases h1:k=s.j
 ·subst h1;rw[apB rfl];by_cases h2:s.j=p.j
  ·rw[apB h2,apB h2,apB rfl];cases hh:H[s.j]? with
   |none=>rfl
   |some it=>
    cases it with
    |box bt cells=>
     simp only[aqc,ovI];rw[M5 (by rcases h with h|h|h;exact absurd h2 h;exact .inr h;exact .inl h)]
    |row=>rfl
    |len=>rfl
    |rws=>rfl
    |gone=>rfl
  ·rw[aph h2,aph h2,apB rfl]
 grind
theorem ud{f:Nat->Bool}{H:List Item}:∀{ss:List AlS},(ct f ss H).length=H.length
 |[]=>rfl
 |s::r=>by
  simp only[ct];split
  ·rw[J3];exact ud
  ·exact ud
theorem Ad{f:Nat->Bool}{H:List Item}{k:Nat}{it:Item}:∀{ss:List AlS},(∀s∈ss,f s.i=T'->s.j≠k)->ct f ss (H.set k it)=(ct f ss H).set k it
 |[],_=>rfl
 |s::r,h=>by
  have ih:=Ad (f:=f) (H:=H) (k:=k) (it:=it) (ss:=r) λs hs=>h s (by simp[hs]);simp only[ct];split
  ·rename_i h1;rw[ih,WU (h s (by simp) h1)]
  ·exact ih
theorem lm{f g:Nat->Bool}{H:List Item}:∀{ss:List AlS},(∀s∈ss,f s.i=g s.i)->ct f ss H=ct g ss H
 |[],_=>rfl
 |s::r,h=>by
  simp only[ct];rw[h s (by simp),lm (ss:=r) λs hs=>h s (by simp[hs])]
theorem qu{f:Nat->Bool}{H:List Item}:∀{ss:List AlS},(∀s∈ss,f s.i=F')->ct f ss H=H
 |[],_=>rfl
 |s::r,h=>by
  simp only[ct];rw[h s (by simp)];exact qu (ss:=r) λs hs=>h s (by simp[hs])
theorem Kr{f g:Nat->Bool}{H:List Item}{s:AlS}(hg:∀k,g k=if k=s.i then T' else f k)(hf:f s.i=F'):∀{ss:List AlS},ss.Pairwise (λs p=>Iz s p=T')->s∈ss->ct g ss H=stP s (ct f ss H)
 |[],_,hs=>by cases hs
 |p::r,hp,hs=>by
  obtain⟨h1,h2⟩:=apT.1 hp;simp only[ct];rcases ao7.1 hs with e|hs
  ·subst e;rw[hg s.i,apB rfl,hf];dsimp only;rw[lm (f:=g) (g:=f) (ss:=r) λq hq=>by rw[hg,aph (aqK (vA (h1 q hq)).1)]]
  ·have hne:=(vA (h1 s hs)).1;have ih:=Kr (H:=H) hg hf h2 hs;rw[hg p.i,aph hne,ih];split
   ·exact Oo (h1 s hs) _
   ·rfl
theorem Fx{f:Nat->Bool}{H:List Item}{k bt:Nat}{cells:List SV}(h:H[k]?=S' (.box bt cells)):∀{ss:List AlS},∃cells',(ct f ss H)[k]?=S' (.box bt cells')/\cells'.length=cells.length
 |[]=>⟨cells,h,rfl⟩
 |s::r=>by
  obtain⟨c',h1,h2⟩:=Fx (f:=f) h (ss:=r);simp only[ct];split
  ·rw[oo,h1];split
   ·exact⟨_,rfl,by rw[xR,h2]⟩
   ·exact⟨c',rfl,h2⟩
  ·exact⟨c',h1,h2⟩
def Item.svs:Item->List SV
 |.box _ cs=>cs
 |.rws _ cs=>cs
 |_=>[]
def mN(h0:Nat)(H:List Item):Prop:=∀(k:Nat) (it:Item),H[k]?=S' it->∀s∈it.svs,s.refs h0=T'
theorem FY{h0:Nat}{f:Nat->Bool}{H:List Item}(hH:mN h0 H):∀{ss:List AlS},(∀s∈ss,∀x∈s.l,x.refs h0=T')->mN h0 (ct f ss H)
 |[],_=>hH
 |s::r,h=>by
  have ih:=FY (f:=f) hH (ss:=r) λs hs=>h s (by simp[hs]);simp only[ct];split
  ·intro k it hk x hx;rw[oo]at hk;split at hk
   ·cases hh:(ct f r H)[k]? with
    |none=>rw[hh]at hk;cases hk
    |some i0=>
     rw[hh]at hk;simp only[aqc,aoX]at hk;subst hk;cases i0 with
     |box bt cells=>
      have hx:x∈nT cells s.off s.l:=hx;rcases GE hx with h1|h1
      ·exact ih k _ hh x h1
      ·exact h s (by simp) x h1
     |_=>exact ih k _ hh x hx
   ·exact ih k it hk x hx
  ·exact ih
theorem sU(f:Nat->Bool)(la:List AlA)(r:Nat):(alX f la)[r]?=la[r]?.map λa=>match f a.i with
  |true=>.box a.t a.cs
  |false=>.gone:=by grind [alX]
abbrev Dis(la:List AlA):Prop:=la.Pairwise λa b=>a.i≠b.i/\a.d≠b.d
theorem Sz{la:List AlA}(h:Dis la){r k:Nat}{a b:AlA}(ha:la[r]?=S' a)(hb:la[k]?=S' b)(hne:k≠r):b.i≠a.i/\b.d≠a.d:=by grind [List.pairwise_iff_getElem]
theorem aer{f g:Nat->Bool}{la:List AlA}{r:Nat}{a:AlA}(hd:Dis la)(ha:la[r]?=S' a)(hg:∀k,g k=if k=a.i then T' else f k):alX g la=(alX f la).set r (.box a.t a.cs):=by
 refine aqA λk=>?_;rw[apY,sU];by_cases h:r=k
 ·grind [alX,apW,aoZ,aqc]
 ·rw[aph h,sU];cases hk:la[k]? with
  |none=>rfl
  |some b=>
   simp only[aqc];rw[hg,aph (Sz hd ha hk (aqK h)).1]
theorem IL{f g:Nat->Bool}{la:List AlA}{r:Nat}{a:AlA}{H0:List Item}(hd:Dis la)(ha:la[r]?=S' a)(hg:∀k,g k=if k=a.i then T' else f k):H0++alX g la=(H0++alX f la).set (H0.length+r) (.box a.t a.cs):=by
 rw[aer hd ha hg,List.set_append,aph (by omega),show H0.length+r-H0.length=r by omega]
theorem Yo{h0:Nat}{f:Nat->Bool}{la:List AlA}{H0:List Item}(hH:mN h0 H0)(hla:∀a∈la,∀x∈a.cs,x.refs h0=T'):mN h0 (H0++alX f la):=by
 intro k it hk x hx;rcases apu k H0.length with h|h
 ·rw[apc h]at hk;exact hH k it hk x hx
 grind [sU,Item.svs]
theorem iH{f g:Nat->Bool}{t:Nat}:∀{la:List AlA} {k:Nat} {L M:SL},(∀a∈la,a.d=t->f a.i=g a.i)->aK L t=aK M t->aK (fV f la k L) t=aK (fV g la k M) t
 |[],_,_,_,_,h=>h
 |b::l,k,L,M,hl,h=>by
  simp only[fV];refine iH (λa ha=>hl a (by simp[ha])) ?_;by_cases e:b.d=t
  ·rw[<-hl b (by simp) e];split
   ·rw[d9,d9,apB e.symm,apB e.symm]
   ·exact h
  ·have e':t≠b.d:=λh=>e h.symm;split<;>split<;>(try rw[d9,aph e'])<;>(try rw[d9,aph e'])<;>exact h
theorem Fr{f:Nat->Bool}{t:Nat}:∀{la:List AlA} {k:Nat} {L:SL},(∀a∈la,a.d≠t)->aK (fV f la k L) t=aK L t
 |[],_,_,_=>rfl
 |b::l,k,L,h=>by
  simp only[fV];rw[Fr λa ha=>h a (by simp[ha])];split
  ·rw[d9,aph (λe=>h b (by simp) e.symm)]
  ·rfl
theorem CD{f g:Nat->Bool}{a:AlA}(hg:∀k,g k=if k=a.i then T' else f k):∀{la:List AlA} {r k:Nat} {L:SL},Dis la->la[r]?=S' a->∀t,aK (fV g la k L) t=if t=a.d then S' (.box (k+r) 0)else aK (fV f la k L) t
 |[],r,_,_,_,h,_=>by simp at h
 |b::l,0,k,L,hd,h,t=>by
  simp only[apP,aoX]at h;subst h;obtain⟨h1,h2⟩:=apT.1 hd;simp only[fV];rw[hg b.i,apB rfl];dsimp only;by_cases e:t=b.d
  ·subst e;rw[apB rfl,Fr λa ha=>aqK (h1 a ha).2,d9,apB rfl,ars]
  ·rw[aph e];refine iH (λa ha _=>by rw[hg,aph (aqK (h1 a ha).1)]) ?_;rw[d9,aph e];split
   ·rw[d9,aph e]
   ·rfl
 |b::l,r+1,k,L,hd,h,t=>by
  obtain⟨h1,h2⟩:=apT.1 hd;rw[apq]at h;simp only[fV];rw[hg b.i,aph (h1 a (apM h)).1,CD hg h2 h t,show k+1+r=k+(r+1) by omega]
theorem GL{f:Nat->Bool}{t:Nat}{s:SV}:∀{la:List AlA} {k:Nat} {L:SL},aK (fV f la k L) t=S' s->(∃r a,la[r]?=S' a/\t=a.d/\f a.i=T'/\s=.box (k+r) 0)\/aK L t=S' s
 |[],_,_,h=>.inr h
 |b::l,k,L,h=>by
  simp only[fV]at h;rcases GL h with⟨r,a,h1,h2,h3,h4⟩|h1
  ·exact .inl ⟨r+1,a,by rw[apq];exact h1,h2,h3,by rw[h4,show k+1+r=k+(r+1) by omega]⟩
  ·split at h1
   ·rename_i hb;rw[d9]at h1;split at h1
    ·rename_i e;injection h1 with h1;exact .inl ⟨0,b,rfl,e,hb,by rw[<-h1,ars]⟩
    ·exact .inr h1
   ·exact .inr h1
theorem pO{T:TT}{N:Nat}:∀{lo:List Oper} {i0:Nat} {la:List AlA},alA T N lo i0=S' la->
  (∀q o,lo[q]?=S' o->bz o=T'->∃(r:Nat) (a:AlA),la[r]?=S' a/\a.i=i0+q/\o.dst=S' a.d/\a.d<N/\∃x,o.op=.alloc a.t/\dl T a.t=S' x/\x.z=T'/\(∀p q,x.ty≠.pair p q)/\a.cs=x.ty.zsplit)/\
  (∀a∈la,i0<=a.i/\∃o,lo[a.i-i0]?=S' o/\bz o=T'/\∃x,a.cs=Ty.zsplit x)/\Dis la
 |[],_,_,h=>by
  simp only[alA,aoX]at h;subst h;exact⟨λq o h=>(by simp at h),λa h=>(by cases h),List.Pairwise.nil⟩
 |o::r,i,la,h=>by
  simp only[alA]at h
  have sub:∀{la:List AlA},(∀a∈la,i+1<=a.i/\∃o,r[a.i-(i+1)]?=S' o/\bz o=T'/\∃x,a.cs=Ty.zsplit x)->∀a∈la,i<=a.i/\∃o',(o::r)[a.i-i]?=S' o'/\bz o'=T'/\∃x,a.cs=Ty.zsplit x:=λh a ha=>by
   obtain⟨h1,o',h2,h3⟩:=h a ha;exact⟨by omega,o',by rw[show a.i-i=(a.i-(i+1))+1 by omega,apq];exact h2,h3⟩
  split at h
  ·rename_i hal;obtain⟨h1,h2,h3⟩:=pO h;refine⟨λq o' hq ho=>?_,sub h2,h3⟩;cases q with
   |zero=>simp only[apP,aoX]at hq;subst hq;rw[hal]at ho;cases ho
   |succ q=>
    rw[apq]at hq;obtain⟨r',a,k1,k2,k3⟩:=h1 q o' hq ho;exact⟨r',a,k1,by omega,k3⟩
  ·rename_i hal;split at h<;>try (cases h;done)
   rename_i t d hop hdst;split at h<;>try (cases h;done)
   rename_i x l hx hd hl;split at h<;>try (cases h;done)
   rename_i hz hne;split at h<;>try (cases h;done)
   rename_i hall;injection h with h;subst h;obtain⟨h1,h2,h3⟩:=pO hl;refine⟨λq o' hq ho=>?_,λa ha=>?_,apT.2 ⟨λb hb=>?_,h3⟩⟩
   ·cases q with
    |zero=>
     simp only[apP,aoX]at hq;subst hq;exact⟨0,_,rfl,rfl,hdst,aoV hd,x,hop,hx,hz,λp q e=>hne _ _ e,rfl⟩
    |succ q=>
     rw[apq]at hq;obtain⟨r',a,k1,k2,k3⟩:=h1 q o' hq ho;exact⟨r'+1,a,by rw[apq];exact k1,by omega,k3⟩
   ·rcases ao7.1 ha with e|ha
    ·subst e;exact⟨aoU _,o,by simp,hal,x.ty,rfl⟩
    ·exact sub h2 a ha
   ·have:=apa.1 hall b hb;simp only[aoT,aql]at this;exact⟨λe=>(by have:=this.1;simp only at e;rw[e,arv]at this;cases this),λe=>(by have:=this.2;simp only at e;rw[e,arv]at this;cases this)⟩
def VY(T:TT)(ops:Array Oper)(la:List AlA)(h0:Nat)(La:SL)(Ha:List Item)(s:AlS)(o:Oper):Prop:=
 ∃t x v sv y bt cells,o.op=.store t x v/\o.guard=N'/\o.dst=N'/\opS La x=S' (.box s.j s.off)/\opS La v=S' sv/\dl T t=S' y/\fH [] sv=S' s.l/\Ha[s.j]?=S' (.box bt cells)/\s.l.length=y.ty.n/\s.off+s.l.length<=cells.length/\
  (∀z∈s.l,z.refs h0=T')/\(∀a∈la,(MN x a.d||MN v a.d)=T'->gz ops 4 s.i a.i=T')/\IE ops s.i s.j la h0=T'
theorem mY{T:TT}{E:Env}{ops:Array Oper}{l:Array Bool}{la:List AlA}{h0:Nat}{La:SL}{Ha:List Item}:∀{lo:List Oper} {i0:Nat} {ss:List AlS},alS T E ops l la h0 La Ha lo i0=S' ss->
  (∀q o,lo[q]?=S' o->l.getD (i0+q) T'=F'->bz o=F'->fw E o=F'->∃s∈ss,s.i=i0+q)/\
  (∀s∈ss,i0<=s.i/\l.getD s.i T'=F'/\∃o,lo[s.i-i0]?=S' o/\bz o=F'/\VY T ops la h0 La Ha s o)/\ss.Pairwise (λs p=>Iz s p=T')
 |[],_,_,h=>by
  simp only[alS,aoX]at h;subst h;exact⟨λq o h=>(by simp at h),λa h=>(by cases h),List.Pairwise.nil⟩
 |o::r,i,ss,h=>by
  simp only[alS]at h
  have sub:∀{ss:List AlS},(∀s∈ss,i+1<=s.i/\l.getD s.i T'=F'/\∃o,r[s.i-(i+1)]?=S' o/\bz o=F'/\VY T ops la h0 La Ha s o)->∀s∈ss,i<=s.i/\l.getD s.i T'=F'/\∃o',(o::r)[s.i-i]?=S' o'/\bz o'=F'/\VY T ops la h0 La Ha s o':=λh a ha=>by
   obtain⟨h1,h1',o',h2,h3⟩:=h a ha;exact⟨by omega,h1',o',by rw[show a.i-i=(a.i-(i+1))+1 by omega,apq];exact h2,h3⟩
  split at h
  ·rename_i hal;obtain⟨h1,h2,h3⟩:=mY h;refine⟨λq o' hq hu ho ht=>?_,sub h2,h3⟩;cases q with
   |zero=>
    simp only[apP,aoX]at hq;subst hq;rw[show i+0=i from rfl]at hu;rw[hu,ho,ht]at hal;cases hal
   |succ q=>
    rw[apq]at hq;obtain⟨s,k1,k2⟩:=h1 q o' hq (by rw[show i+1+q=i+(q+1) by omega];exact hu) ho ht;exact⟨s,k1,by omega⟩
  ·rename_i hal;simp only[arI]at hal;split at h<;>try (cases h;done)
   rename_i t x v hop;split at h<;>try (cases h;done)
   rename_i j off sv y hg hdst hx hv hy;split at h<;>try (cases h;done)
   rename_i cs bt cells ss' hcs hH hss;split at h<;>try (cases h;done)
   rename_i hall;injection h with h;subst h;simp only[aoT]at hall;obtain⟨⟨⟨⟨⟨c1,c2⟩,c3⟩,c4⟩,c5⟩,c6⟩:=hall;obtain⟨h1,h2,h3⟩:=mY hss;refine⟨λq o' hq hu ho ht=>?_,λs hs=>?_,apT.2 ⟨λp hp=>apa.1 c6 p hp,h3⟩⟩
   ·cases q with
    |zero=>exact⟨_,List.mem_cons_self ..,rfl⟩
    |succ q=>
     rw[apq]at hq;obtain⟨s,k1,k2⟩:=h1 q o' hq (by rw[show i+1+q=i+(q+1) by omega];exact hu) ho ht;exact⟨s,by simp[k1],by omega⟩
   ·rcases ao7.1 hs with e|hs
    ·subst e
     exact⟨aoU _,hal.1.1,o,by simp,hal.1.2,t,x,v,sv,y,bt,cells,hop,hg,hdst,hx,hv,hy,hcs,hH,aoS c1,aoV c2,apa.1 c3,λa ha hw=>by
      have:=apa.1 c4 a ha;rw[hw]at this;simpa using this,c5⟩
    ·exact sub h2 s hs
theorem DO{ops:Array Oper}{i j:Nat}:∀{la:List AlA} {k r:Nat} {a:AlA},IE ops i j la k=T'->la[r]?=S' a->j=k+r->gz ops 4 i a.i=T'
 |[],_,_,_,_,h,_=>by simp at h
 |b::l,k,0,a,h,ha,hj=>by
  simp only[apP,aoX]at ha;subst ha;simp only[IE,aoT,aqU,aql]at h;rcases h.1 with h1|h1
  ·rw[hj,ars,arv]at h1;cases h1
  ·exact h1
 |b::l,k,r+1,a,h,ha,hj=>by
  rw[apq]at ha;simp only[IE,aoT]at h;exact DO h.2 ha (by omega)
theorem jX{l:Array Bool}{k:Nat}(h:k<l.size):l.getD k F'=l.getD k true:=by simp[h]
theorem yF{ops:Array Oper}{l':Array Bool}(hs:l'.size=ops.size):∀{C:List Nat} {l:Array Bool},IB ops l C=T'->(∀k,l.getD k F'=T'->l'.getD k F'=T')->(∃i∈C,l'.getD i T'=F')->Region.ready .any ops l'≠[]
 |[],_,_,_,⟨_,h,_⟩=>by cases h
 |i::r,l,h,hsub,⟨k,hk,hu⟩=>by
  simp only[IB,aoT]at h;obtain⟨h1,h2⟩:=h;split at h1<;>try (cases h1;done)
  rename_i o ho;have hlt:i<l'.size:=by rw[hs];exact(ao6.1 ho).1
  cases hi:l'.getD i true with
  |false=>
   intro hr
   have:i∈Region.ready .any ops l':=apU.2 ⟨hi,o,ho,λe he hb=>by
    have:=apa.1 h1 e (Array.mem_toList_iff.2 he);rw[hb]at this;exact hsub _ (by simpa using this)⟩
   rw[hr]at this;cases this
  |true=>
   refine yF hs h2 (λq hq=>?_) ⟨k,(ao7.1 hk).resolve_left λe=>(by subst e;rw[hi]at hu;cases hu),hu⟩;by_cases e:i=q
   ·subst e;rw[jX hlt];exact hi
   ·rw[aru F' e]at hq;exact hsub q hq
def cu(l:Array Bool):Nat:=l.toList.countP λb=>!b
theorem AM:∀(l:List Bool) (j:Nat),l[j]?=S' F'->(l.set j T').countP (λb=>!b)+1=l.countP (λb=>!b)
 |[],_,h=>by simp at h
 |b::l,0,h=>by
  simp only[apP,aoX]at h;subst h;simp
 |b::l,j+1,h=>by
  rw[apq]at h;have:=AM l j h;rw[List.set_cons_succ];cases b<;>simp<;>omega
theorem AL{l:Array Bool}{j:Nat}(h:l.getD j T'=F'):cu (l.setIfInBounds j T')+1=cu l:=by
 unfold cu;rw[Array.toList_setIfInBounds];refine AM _ _ ?_;rcases apu j l.size with hlt|hge<;>simp_all
theorem XH{l:Array Bool}(h:cu l=0)(k:Nat):l.getD k T'=true:=by
 rcases apu k l.size with hlt|hge
 ·have:=List.countP_eq_zero.1 h l[k] (by simp);simp_all
 grind
theorem IT(n:Nat):cu (mkL n [])=n:=by simp[cu,mkL,List.countP_replicate]
section
def Old(w w':World):Prop:=w.heap.size<=w'.heap.size/\∀b,b<w.heap.size->w'.heap[b]?=w.heap[b]?
theorem Old.refl(w:World):Old w w:=⟨aoU _,λ_ _=>rfl⟩
theorem yv{G G':List Value}{A A':Nat->Prop}{w w':World}{h0:Nat}(hk:Keeps A A' w w'){s:SV}{v:Value}(h:Rel1 G A w s v)(hs:s.refs h0=T')(hG:∀j g,j<h0->G[j]?=S' g->G'[j]?=S' g):Rel1 G' A' w' s v:=by
 have lt:∀{j:Nat},Nat.ble (j+1) h0=true->j<h0:=λh=>aoV h;cases s with
 |d t x=>obtain⟨cs,h1,h2⟩:=h;exact⟨cs,Ty.rd_keep hk h1,h2⟩
 |nil=>exact h
 |box j off=>obtain⟨b,h1,h2⟩:=h;exact⟨b,hG j _ (lt hs) h1,h2⟩
 |elt e x off=>
  obtain⟨b,o,cs,h1,h2,h3,h4,h5⟩:=h;exact⟨b,o,cs,h1,hk.sub b h3 h2,aqI h3 hk.size,Ty.rd_keep hk h4,hk.cells h3 h2 h5⟩
 |own j=>exact hG j v (lt hs) h
 |oelt j sz i off=>obtain⟨b,n,c,h1,h2⟩:=h;exact⟨b,n,c,hG j _ (lt hs) h1,h2⟩
 |clo f caps=>
  obtain⟨bs,h1,h2⟩:=h;refine⟨bs,?_,h2⟩;simp only[SV.refs]at hs;clear h2;induction caps generalizing bs with
  |nil=>cases bs<;>exact h1
  |cons c caps ih=>
   match bs,h1 with
   |b::bs,⟨q1,q2⟩=>
    simp only[aqR,aoT]at hs;exact⟨hG c _ (lt hs.1) q1,ih hs.2 bs q2⟩
 |tup l=>exact h.elim
 |undef=>exact h
 |dead=>trivial
 |cut e xs=>obtain⟨p,h1,h2⟩:=h;exact⟨p,Ty.rd_keep hk h1,h2⟩
 |osl j sz lo n=>obtain⟨g,q,c,h1,h2⟩:=h;exact⟨g,q,c,hG j _ (lt hs) h1,h2⟩
theorem Ml{G G':List Value}{A A':Nat->Prop}{w w':World}{h0:Nat}(hk:∀s v,s.refs h0=T'->Rel1 G A w s v->Rel1 G' A' w' s v){s:SV}{v:Value}(h:Rel G A w s v)(hs:s.refsT h0=T'):Rel G' A' w' s v:=by
 cases s with
 |tup l=>
  obtain⟨vs,h1,h2⟩:=h;refine⟨vs,h1,?_⟩;clear h1;induction l generalizing vs with
  |nil=>cases vs<;>exact h2
  |cons s l ih=>
   simp only[SV.refsT,aqR,aoT]at hs;match vs,h2 with
   |v::vs,⟨g1,g2⟩=>exact⟨hk s v hs.1 g1,ih hs.2 vs g2⟩
 |_=>rw[tX (λl e=>by cases e)]at hs;exact dN (hk _ _ hs (n4 h (λl e=>by cases e)))
section
variable {Z:Nat->Prop} {w0:World} {H:List Item} {G:List Value} {w:World}
theorem tc(hr:SR Z w0 H G w):mN H.length H:=by
 intro k it hk x hx;have hlt:k<G.length:=by rw[hr.len];exact(aoZ.1 hk).1
 have h:=hr.items k _ _ hk (aoO hlt)
 have fin:∀{cs:List SV} {vs:List Value},bJ (Rel1 G (Av Z H G) w) cs vs->x∈cs->x.refs H.length=true:=λh4 hx=>by
  obtain⟨i,hi,rfl⟩:=aqT hx;obtain⟨v,_,hv⟩:=fR h4 i _ (aoO hi);grind [tg]
 cases it with
 |box t cs=>
  obtain⟨b,vs,_,_,_,h4⟩:=h;exact fin h4 hx
 |rws t cs=>
  obtain⟨vs,_,h4⟩:=h;exact fin h4 hx
 |_=>cases hx
theorem Wn{it:Item}{g:Value}{h0 k:Nat}(hr:SR Z w0 (H++[it]) (G++[g]) w)(hl:G.length=H.length)(hk:H[k]?=S' .gone)(h0k:h0<=k)(hlow:mN h0 (H++[it])):
  SR Z w0 (H.set k it) (G.set k g) w/\(∀b,Av Z (H++[it]) (G++[g]) b↔Av Z (H.set k it) (G.set k g) b):=by
 have hkl:=(aoZ.1 hk).1
 have a1:∀{j:Nat} {x:Item},j≠k->(H.set k it)[j]?=S' x->j<H.length/\(H++[it])[j]?=S' x:=λ{j x} hj h=>by
  rw[ap9 (aqK hj)]at h;have:=(aoZ.1 h).1;exact⟨this,by rw[apc this];exact h⟩
 have a2:∀{j:Nat} {x:Value},j≠k->(G.set k g)[j]?=S' x->(G++[g])[j]?=S' x:=λ{j x} hj h=>by
  rw[ap9 (aqK hj)]at h;rw[apc (aoZ.1 h).1];exact h
 have b1:(H.set k it)[k]?=S' it:=aqz hkl;have b2:(G.set k g)[k]?=S' g:=aqz (by omega);have c1:(H++[it])[H.length]?=S' it:=by rw[apm (aoU _),arg];rfl
 have c2:(G++[g])[H.length]?=S' g:=by rw[apm (by omega),hl,arg];rfl
 have d1:∀{j:Nat} {x:Item},(H++[it])[j]?=S' x->(j<H.length/\H[j]?=S' x)\/(j=H.length/\x=it):=λ{j x} h=>by
  rcases apu j H.length with hlt|hge
  ·rw[apc hlt]at h;exact .inl ⟨hlt,h⟩
  ·rw[apm hge]at h
   have hj:j-H.length=0:=by
    rcases apJ (j-H.length)with h0|h0
    ·exact h0
    ·rw[aqj (by simp;omega)]at h;cases h
   rw[hj]at h;simp only[apP,aoX]at h;exact .inr ⟨by omega,h.symm⟩
 have hav:∀b,Av Z (H++[it]) (G++[g]) b↔Av Z (H.set k it) (G.set k g) b:=by
  refine λb=>⟨λh=>⟨h.1,λj x y hx hlv hy=>?_⟩,λh=>⟨h.1,λj x y hx hlv hy=>?_⟩⟩
  ·by_cases hj:j=k
   ·subst hj;rw[b1]at hx;rw[b2]at hy;injection hx with hx;injection hy with hy;subst hx hy;exact h.2 _ _ _ c1 hlv c2
   ·exact h.2 j x y (a1 hj hx).2 hlv (a2 hj hy)
  ·rcases d1 hx with⟨h1,h2⟩|⟨h1,h2⟩
   ·have hj:j≠k:=λe=>by subst e;rw[hk]at h2;injection h2 with h2;subst h2;cases hlv
    refine h.2 j x y (by rw[ap9 (aqK hj)];exact h2) hlv ?_;rw[apc (by omega)]at hy;rw[ap9 (aqK hj)];exact hy
   ·subst h1 h2;rw[c2]at hy;injection hy with hy;subst hy;exact h.2 k _ _ b1 hlv b2
 have hkp:Keeps (Av Z (H++[it]) (G++[g])) (Av Z (H.set k it) (G.set k g)) w w:=⟨aoU _,λb _ h=>(hav b).1 h,λ_ _ _=>rfl⟩
 have hG:∀j x,j<h0->(G++[g])[j]?=S' x->(G.set k g)[j]?=S' x:=λj x hj h=>by
  rw[apc (by omega)]at h;rw[ap9 (by omega)];exact h
 have hit:∀{j:Nat} {x:Item} {y:Value},(H++[it])[j]?=S' x->ItemRel w0.heap.size (G++[g]) (Av Z (H++[it]) (G++[g])) w x y->ItemRel w0.heap.size (G.set k g) (Av Z (H.set k it) (G.set k g)) w x y:=by
  intro j x y hx h;cases x with
  |box t cs=>
   obtain⟨b,vs,e1,e2,e3,e4⟩:=h;refine⟨b,vs,e1,e2,e3,?_⟩;have hc:∀s∈cs,s.refs h0=true:=hlow j _ hx;clear e1 e3 hx;induction cs generalizing vs with
   |nil=>cases vs<;>exact e4
   |cons s l ih=>
    match vs,e4 with
    |v::vs,⟨q1,q2⟩=>exact⟨yv hkp q1 (hc s (by simp)) hG,ih vs q2 (λs hs=>hc s (by simp[hs]))⟩
  |row et e xs=>
   obtain⟨css,e1,e2,e3⟩:=h;exact⟨css,e1,a8 (λ_ _ h=>Ty.rd_keep hkp h) e2,e3⟩
  |len e xs=>
   obtain⟨et,css,e1,e2,e3⟩:=h;exact⟨et,css,e1,a8 (λ_ _ h=>Ty.rd_keep hkp h) e2,e3⟩
  |rws t cs=>
   obtain⟨vs,e1,e4⟩:=h;refine⟨vs,e1,?_⟩;have hc:∀s∈cs,s.refs h0=true:=hlow j _ hx;clear e1 hx;induction cs generalizing vs with
   |nil=>cases vs<;>exact e4
   |cons s l ih=>
    match vs,e4 with
    |v::vs,⟨q1,q2⟩=>exact⟨yv hkp q1 (hc s (by simp)) hG,ih vs q2 (λs hs=>hc s (by simp[hs]))⟩
  |gone=>trivial
 refine⟨⟨by simp[hl],hr.below,λj x y hx hy=>?_,λi j x y gx gy b hij hx hy hlx hly hgx hgy hb=>?_,hr.zf⟩,hav⟩
 ·by_cases hj:j=k
  ·subst hj;rw[b1]at hx;rw[b2]at hy;injection hx with hx;injection hy with hy;subst hx hy;exact hit c1 (hr.items _ _ _ c1 c2)
  ·exact hit (a1 hj hx).2 (hr.items j x y (a1 hj hx).2 (a2 hj hy))
 ·have key:∀{j:Nat} {x:Item} {y:Value},(H.set k it)[j]?=S' x->(G.set k g)[j]?=S' y->∃j',(j'=if j=k then H.length else j)/\(H++[it])[j']?=S' x/\(G++[g])[j']?=S' y:=by
   intro j x y hx hy;by_cases hj:j=k
   ·subst hj;rw[b1]at hx;rw[b2]at hy;injection hx with hx;injection hy with hy;subst hx hy;exact⟨_,rfl,by rw[apB rfl];exact c1,by rw[apB rfl];exact c2⟩
   ·exact⟨_,rfl,by rw[aph hj];exact(a1 hj hx).2,by rw[aph hj];exact a2 hj hy⟩
  obtain⟨i',ei,i1,i2⟩:=key hx hgx;obtain⟨j',ej,j1,j2⟩:=key hy hgy;refine hr.disj i' j' x y gx gy b ?_ i1 j1 hlx hly i2 j2 hb;rw[ei,ej];by_cases h1:i=k
  ·by_cases h2:j=k
   ·omega
   ·rw[apB h1,aph h2];have:=(a1 h2 hy).1;omega
  ·by_cases h2:j=k
   ·rw[aph h1,apB h2];have:=(a1 h1 hx).1;omega
   ·rw[aph h1,aph h2];exact hij
theorem RY(hr:SR Z w0 H G w){h0 k:Nat}(hk:H[k]?=S' .gone)(h0k:h0<=k)(hlow:mN h0 H){t:TypeId}{cs:List SV}{vs:Array Value}(hz:∀s∈cs,s.refs h0=T')(hcs:bJ (Rel1 G (Av Z H G) w) cs vs.toList):
  ∃G',SR Z w0 (H.set k (.box t cs)) G' (w.alloc (.cells vs t))/\(∀s v,s.refs h0=T'->Rel1 G (Av Z H G) w s v->Rel1 G' (Av Z (H.set k (.box t cs)) G') (w.alloc (.cells vs t)) s v)/\
   (∀j off v,j≠k->Rel1 G (Av Z H G) w (.box j off) v->Rel1 G' (Av Z (H.set k (.box t cs)) G') (w.alloc (.cells vs t)) (.box j off) v)/\
   Rel1 G' (Av Z (H.set k (.box t cs)) G') (w.alloc (.cells vs t)) (.box k 0) (.pointer (S' ⟨w.heap.size,0,N'⟩)):=by
 have hb:=gH w (.cells vs t);have hg:∀b,bh (.pointer (S' ⟨w.heap.size,0,N'⟩))=S' b->w.heap.size<=b:=λb h=>by simp[bh]at h;omega
 have hst:=jr (it:=.box t cs) hr hb hg;have hsr:=uM (it:=.box t cs) hr hb hg ⟨w.heap.size,vs.toList,rfl,hr.below.size,Blk.new w t vs,a8 (λs v h=>cU hr hst h) hcs⟩;have hkl:=(aoZ.1 hk).1;have hl:=hr.len
 obtain⟨m1,m2⟩:=Wn hsr hl hk h0k (by
  intro j it hj x hx;rcases apu j H.length with hlt|hge
  ·rw[apc hlt]at hj;exact hlow j it hj x hx
  ·rw[apm hge]at hj;have hj':=apM hj;simp only[apz]at hj';subst hj';exact hz x hx)
 have hkp:Keeps (Av Z (H++[.box t cs]) (G++[.pointer (S' ⟨w.heap.size,0,N'⟩)])) (Av Z (H.set k (.box t cs)) (G.set k (.pointer (S' ⟨w.heap.size,0,N'⟩)))) (w.alloc (.cells vs t)) (w.alloc (.cells vs t)):=⟨aoU _,λb _ h=>(m2 b).1 h,λ_ _ _=>rfl⟩
 refine⟨_,m1,λs v hs h=>yv hkp (cU hr hst h) hs λj x hj h=>?_,λj off v hj h=>?_,⟨_,aqz (by omega),rfl⟩⟩
 ·grind
 ·obtain⟨b,h1,h2⟩:=h;exact⟨b,by rw[ap9 (aqK hj)];exact h1,h2⟩
theorem yi{n:Nat}{L:SL}{a:Act}(f:Nat->Bool):∀{la:List AlA} {H:List Item} {G:List Value},(∀x∈la,f x.i=F')->SR Z w0 H G w->FR Z n L H G w a->∃G',SR Z w0 (H++alX f la) G' w/\FR Z n L (H++alX f la) G' w a/\(∀s v,Rel1 G (Av Z H G) w s v->Rel1 G' (Av Z (H++alX f la) G') w s v)
 |[],H,G,_,hr,hf=>by
  refine⟨G,?_⟩;rw[show alX f []=[] from rfl,apj];exact⟨hr,hf,λ_ _ h=>h⟩
 |x::la,H,G,hx,hr,hf=>by
  have hg:∀b,bh undef=S' b->w.heap.size<=b:=λb h=>by simp[bh,undef]at h
  have hst:=jr (it:=.gone) (g:=undef) hr (arl _ _) hg;have h1:=uM (it:=.gone) (g:=undef) hr (arl _ _) hg trivial;obtain⟨G',k1,k2,k3⟩:=yi f (la:=la) (λy hy=>hx y (by simp[hy])) h1 (hf.keep λs v h=>cU hr hst h)
  have e:H++alX f (x::la)=(H++[.gone])++alX f la:=by
   rw[show alX f (x::la)=(match f x.i with|T'=>.box x.t x.cs|F'=>.gone)::alX f la from rfl,hx x (by simp)];simp
  rw[e];exact⟨G',k1,k2,λs v h=>k3 s v (cU hr hst h)⟩
end
theorem zD{h0:Nat}:∀{t:Ty},∀s∈t.zsplit,s.refs h0=true:=by
 intro t;induction t with
 |pair a b iha ihb=>
  grind [Ty.zsplit]
 |st a ih=>intro s hs;simp only[Ty.zsplit]at hs;exact ih s hs
 |_=>intro s hs;simp only[Ty.zsplit,apz]at hs;subst hs;rfl
end
section
theorem HD{H:List Item}{s:SV}{l:List SV}(h:fH [] s=S' l):fH H s=S' l:=by
 unfold fH at h ⊢;grind
def Aj(h0:Nat)(la:List AlA)(f:Nat->Bool)(L:SL):Prop:=∀t s,aK L t=S' s->s.refsT h0=T'\/∃(r:Nat) (a:AlA),la[r]?=S' a/\f a.i=T'/\s=.box (h0+r) 0
theorem XE{h0:Nat}{la:List AlA}{f:Nat->Bool}{L:SL}(h:∀t s,aK L t=S' s->s.refsT h0=T'):Aj h0 la f (fV f la h0 L):=by
 intro t s hs;rcases GL hs with⟨r,a,h1,_,h3,h4⟩|h1<;>grind
section
variable {P:Program} {T:TT} {E:Env} {ops:Array Oper} {Z:Nat->Prop} {w0:World} {N fl:Nat} {Q:Exit->Act->World->Prop} {X:List Item->List Value->World->Prop}
theorem rX{H:List Item}{G:List Value}{w:World}{a:Act}{L L':SL}{h0 r j:Nat}{la:List AlA}{x:AlA}{oj:Oper}{f:Nat->Bool}{K:Act->World->Prop}{Qx:Exit->Act->World->Prop}(hT:eO P T=T')(hoj:ops[j]?=S' oj)(hal:bz oj=T')
  (hla:la[r]?=S' x) (hdst:oj.dst=S' x.d) (hd:x.d<N) (hop:oj.op=.alloc x.t) (hxx:∃y,dl T x.t=S' y/\y.z=T'/\(∀p q,y.ty≠.pair p q)/\x.cs=y.ty.zsplit) (_hD:Dis la) (hfx:f x.i=F')
  (hk:H[h0+r]?=S' .gone) (hlow:mN h0 H) (hL:Aj h0 la f L) (hfl:fl<=h0) (hr:SR Z w0 H G w) (hf:FR Z N L H G w a) (hx:X H G w) (hX:∀H G w H' G' w',X H G w->Ev Z fl H G w H' G' w'->X H' G' w') (hL':∀t,aK L' t=if t=x.d then S' (.box (h0+r) 0)else aK L t)
  (hK:∀v G' w',Old w w'->SR Z w0 (H.set (h0+r) (.box x.t x.cs)) G' w'->FR Z N L' (H.set (h0+r) (.box x.t x.cs)) G' w' (a.put oj.dst v)->X (H.set (h0+r) (.box x.t x.cs)) G' w'->K (a.put oj.dst v) w'):wpOp P ops Qx j K a w:=by
 obtain⟨y,hy,hz,hne,hcs⟩:=hxx
 have hg:oj.guard=none:=by
  unfold bz at hal;rw[hop]at hal;cases hq:oj.guard with
  |none=>rfl
  |some x=>rw[hq]at hal;simp at hal
 have hck:=aG hT hy;obtain⟨inf,hinf,hzero⟩:=yd hck hz
 have hc:(mkV y.ty (zc y.ty)).cells.toList=zc y.ty:=gC (by
  generalize y.ty=ty at*
  cases ty<;>first|exact .inr rfl|exact .inl rfl|exact(hne _ _ rfl).elim)
 obtain⟨G',k1,k2,k3,k4⟩:=RY (t:=x.t) (cs:=x.cs) (vs:=(mkV y.ty (zc y.ty)).cells) hr hk (by omega) hlow (by rw[hcs];exact zD) (by rw[hcs,hc];exact lh)
 have hrun:(execOp a.eval oj).run P w=.ok (.value (.pointer (S' ⟨w.heap.size,0,N'⟩))) (w.alloc (.cells (mkV y.ty (zc y.ty)).cells x.t)):=by
  simp[execOp,hop,Instr.alloc,zeroValue,typeInfo,hinf,hzero,newVar,newRow]
 unfold wpOp;simp only[hoj];rw[apB (by simp[Region.wanted,hg])];refine .inl ?_;unfold Oper.wp;rw[hrun];refine hK _ G' _ ⟨(gH w (.cells (mkV y.ty (zc y.ty)).cells x.t)).size,λb hb=>(gH w (.cells (mkV y.ty (zc y.ty)).cells x.t)).block b hb⟩ k1 ?_ (hX _ _ _ _ _ _ hx λs v h hs=>k2 s v (qj hfl hs) h)
 have hf1:FR Z N L (H.set (h0+r) (.box x.t x.cs)) G' (w.alloc (.cells (mkV y.ty (zc y.ty)).cells x.t)) a:=by
  refine⟨hf.defers,hf.size,λt s hs=>?_⟩;obtain⟨v,h1,h2⟩:=hf.slot t s hs;refine⟨v,h1,?_⟩;rcases hL t s hs with h3|⟨r',b,h3,h4,rfl⟩
  ·exact Ml (λs v hs h=>k2 s v hs h) h2 h3
  ·refine k3 _ _ v (λe=>?_) h2;grind
 have hf2:=hf1.put (d:=oj.dst) (L':=(x.d,.box (h0+r) 0)::nH L x.d) (s:=.box (h0+r) 0) (v:=.pointer (S' ⟨w.heap.size,0,N'⟩)) (by
  rw[hdst];simp only[fc];rw[apf (show x.d+1<=N from hd)]) k4
 exact⟨hf2.defers,hf2.size,λt s hs=>hf2.slot t s (by rw[d9,<-hL' t];exact hs)⟩
structure PlanOk (T:TT) (ops:Array Oper) (N:Nat) (H0:List Item) (la:List AlA) (ss:List AlS):Prop where
 dis:Dis la
 la2:∀a∈la,(∃o,ops[a.i]?=S' o/\bz o=T')/\∀x∈a.cs,x.refs H0.length=T'
 ss1:∀s∈ss,(∃o,ops[s.i]?=S' o/\bz o=F'/\o.dst=N')/\(∀x∈s.l,x.refs H0.length=T')/\IE ops s.i s.j la H0.length=T'/\∃bt cells,(H0++alX (λ_=>T') la)[s.j]?=S' (.box bt cells)/\s.off+s.l.length<=cells.length
 far:ss.Pairwise (λs p=>Iz s p=T')
def qT(T:TT)(L:SL)(s:AlS)(o:Oper):Prop:=∃t x v sv y,o.op=.store t x v/\o.guard=N'/\o.dst=N'/\opS L x=S' (.box s.j s.off)/\opS L v=S' sv/\dl T t=S' y/\fH [] sv=S' s.l/\s.l.length=y.ty.n
theorem wI{l0:Array Bool}{H0:List Item}{La:SL}{la:List AlA}{ss:List AlS}(hA:alA T N ops.toList 0=S' la)(hS:alS T E ops l0 la H0.length La (H0++alX (λ_=>T') la) ops.toList 0=S' ss):PlanOk T ops N H0 la ss:=by
 obtain⟨a1,a2,a3⟩:=pO hA;obtain⟨s1,s2,s3⟩:=mY hS;refine⟨a3,λa ha=>?_,λs hs=>?_,s3⟩
 ·obtain⟨_,o,ho,hal,y,hy⟩:=a2 a ha;grind [zD]
 ·obtain⟨_,_,o,ho,hal,t,x,v,sv,y,bt,cells,q1,q2,q3,q4,q5,q6,q7,q8,q9,q10,q11,q12,q13⟩:=s2 s hs;grind
theorem J2{la:List AlA}(hA:alA T N ops.toList 0=S' la):∀{j:Nat} {o:Oper},ops[j]?=S' o->bz o=T'->∃(r:Nat) (a:AlA),la[r]?=S' a/\a.i=j/\o.dst=S' a.d/\a.d<N/\∃x,o.op=.alloc a.t/\dl T a.t=S' x/\x.z=T'/\(∀p q,x.ty≠.pair p q)/\a.cs=x.ty.zsplit:=by
 intro j o ho hal;obtain⟨r,a,h1,h2,h3⟩:=(pO hA).1 j o (by rw[aqD];exact ho) hal;grind
theorem kz{l:Array Bool}{i j:Nat}(hcl:Clo ops l)(hj:∀os,ops[j]?=S' os->∀e∈os.after,Region.binds .any e=T'->l.getD e.on F'=T')(h:gz ops 4 j i=T'):l.getD i T'=true:=by grind [uO]
section
variable {H0:List Item} {la:List AlA} {ss:List AlS} {l:Array Bool}
theorem PlanOk.wt(_hp:PlanOk T ops N H0 la ss)(hcl:Clo ops l)(_hl:l.size=ops.size){s:AlS}{i:Nat}(hs:dn l s.i=T')(_hm:s∈ss)(h:gz ops 4 s.i i=T'):l.getD i T'=true:=by exact kz hcl (λos hos e he hb=>hcl s.i os hos hs e he hb) h
theorem PlanOk.setA(hp:PlanOk T ops N H0 la ss)(hcl:Clo ops l)(hl:l.size=ops.size){r:Nat}{x:AlA}(h1:la[r]?=S' x)(hju:l.getD x.i T'=F'):
  ct (dn (l.setIfInBounds x.i T')) ss (H0++alX (dn (l.setIfInBounds x.i T')) la)=(ct (dn l) ss (H0++alX (dn l) la)).set (H0.length+r) (.box x.t x.cs)/\(ct (dn l) ss (H0++alX (dn l) la))[H0.length+r]?=S' .gone:=by
 have hup:=jm l x.i;obtain⟨⟨oj,hoj,hal⟩,_⟩:=hp.la2 x (apM h1)
 have hne:∀s∈ss,dn l s.i=T'->s.j≠H0.length+r:=λs hs hds e=>by
  have:=hp.wt hcl hl hds hs (DO (hp.ss1 s hs).2.2.1 h1 e);rw[hju]at this;cases this
 refine⟨?_,?_⟩
 ·rw[IL hp.dis h1 hup,lm (g:=dn l) λs hs=>?_,Ad hne];rw[hup,aph];intro e;obtain⟨⟨o,ho,hal',_⟩,_⟩:=hp.ss1 s hs;rw[e,hoj]at ho;injection ho with ho;subst ho;rw[hal]at hal';cases hal'
 ·have h3:(H0++alX (dn l) la)[H0.length+r]?=S' .gone:=by
   rw[apm (by omega),show H0.length+r-H0.length=r by omega,sU,h1];simp only[aqc];rw[show dn l x.i=F' from hju]
  have h4:H0++alX (dn l) la=(H0++alX (dn l) la).set (H0.length+r) .gone:=by
   refine aqA λk=>?_;grind
  rw[h4,Ad hne,aqz (by rw[ud];exact(aoZ.1 h3).1)]
theorem PlanOk.same(hp:PlanOk T ops N H0 la ss){j:Nat}{oj:Oper}(hoj:ops[j]?=S' oj)(hal:bz oj=F'):alX (dn (l.setIfInBounds j T')) la=alX (dn l) la/\∀a∈la,dn (l.setIfInBounds j T') a.i=dn l a.i:=by
 have h:∀a∈la,dn (l.setIfInBounds j T') a.i=dn l a.i:=λa ha=>by
  rw[jm,aph];obtain⟨⟨o',h1,h2⟩,_⟩:=hp.la2 a ha;grind
 grind [alX,arQ]
theorem PlanOk.setS(hp:PlanOk T ops N H0 la ss){s:AlS}(hsm:s∈ss)(hju:l.getD s.i T'=F'):
  ct (dn (l.setIfInBounds s.i T')) ss (H0++alX (dn (l.setIfInBounds s.i T')) la)=stP s (ct (dn l) ss (H0++alX (dn l) la)):=by
 obtain⟨⟨o,ho,hal,_⟩,_⟩:=hp.ss1 s hsm;rw[(hp.same ho hal).1];exact Kr (jm l s.i) hju hp.far hsm
theorem PlanOk.setT(hp:PlanOk T ops N H0 la ss){j:Nat}{oj:Oper}{d:Nat}(hoj:ops[j]?=S' oj)(hal:bz oj=F')(hd:oj.dst=S' d):
  ct (dn (l.setIfInBounds j T')) ss (H0++alX (dn (l.setIfInBounds j T')) la)=ct (dn l) ss (H0++alX (dn l) la):=by
 rw[(hp.same hoj hal).1];refine lm λs hs=>?_;rw[jm,aph];obtain⟨⟨o,ho,_,hdn⟩,_⟩:=hp.ss1 s hs;grind
theorem PlanOk.low(hp:PlanOk T ops N H0 la ss)(hlowH:mN H0.length H0):mN H0.length (ct (dn l) ss (H0++alX (dn l) la)):=
 FY (Yo hlowH λa ha=>(hp.la2 a ha).2) λs hs=>(hp.ss1 s hs).2.1
theorem PlanOk.box(hp:PlanOk T ops N H0 la ss)(hcl:Clo ops l){s:AlS}(hsm:s∈ss)(hj:∀os,ops[s.i]?=S' os->∀e∈os.after,Region.binds .any e=T'->l.getD e.on F'=T'):∃bt c',(ct (dn l) ss (H0++alX (dn l) la))[s.j]?=S' (.box bt c')/\s.off+s.l.length<=c'.length:=by
 obtain⟨_,_,ht,bt,cells,q8,q10⟩:=hp.ss1 s hsm
 have:(H0++alX (dn l) la)[s.j]?=S' (.box bt cells):=by
  rcases apu s.j H0.length with hlt|hge
  ·grind
  ·rw[apm hge,sU]at q8 ⊢;cases hb:la[s.j-H0.length]? with
   |none=>rw[hb]at q8;cases q8
   |some b=>
    rw[hb]at q8;simp only[aqc]at q8 ⊢;rw[show dn l b.i=T' from kz hcl hj (DO ht hb (by omega))];exact q8
 obtain⟨c',b1,b2⟩:=Fx (f:=dn l) this (ss:=ss);grind
theorem rG{H:List Item}{G:List Value}{w:World}{a:Act}{L:SL}{s:AlS}{oj:Oper}{bt:Nat}{c':List SV}{K:Act->World->Prop}{Qx:Exit->Act->World->Prop}(hT:eO P T=T')(hE:kY P E)(hI:inv w0)(hoj:ops[s.i]?=S' oj)(hst:qT T L s oj)(b1:H[s.j]?=S' (.box bt c'))(b2:s.off+s.l.length<=c'.length)
  (hr:SR Z w0 H G w) (hf:FR Z N L H G w a) (hx:X H G w) (hX:∀H G w H' G' w',X H G w->Ev Z fl H G w H' G' w'->X H' G' w')
  (hK:∀G' w',SR Z w0 (stP s H) G' w'->FR Z N L (stP s H) G' w' a->X (stP s H) G' w'->K a w'):wpOp P ops Qx s.i K a w:=by
 obtain⟨t,x,v,sv,y,q1,q2,q3,q4,q5,q6,q7,q9⟩:=hst
 have Iw:stP s H=H.set s.j (.box bt (nT c' s.off s.l)):=by
  unfold stP;rw[b1]
 have heop:eop T E fl L H oj (λs H' L'=>S' (s,H',L'))=S' (.undef,stP s H,L):=by
  unfold eop;rw[q1];dsimp only;rw[q4,q5,q6];dsimp only;rw[b1,HD q7];dsimp only;rw[show Nat.beq s.l.length y.ty.n=T' by rw[q9];exact arv _,apf (show s.off+s.l.length<=c'.length by omega),Iw];rfl
 unfold wpOp;simp only[hoj];rw[apB (by simp[Region.wanted,q2])];refine .inl ?_;refine qx hT hE hI hr hf heop λs' H' L1 G' w' v' k1 k2 k3 k4 k5=>?_;injection k1 with k1;injection k1 with k1 k1';injection k1' with k1' k1'';subst k1 k1' k1'';rw[q3];exact hK G' w' k2 k3 (hX _ _ _ _ _ _ hx k5.ev)
end
theorem EQ{l:Array Bool}{H0:List Item}{L0:SL}{la:List AlA}{s:AlS}{o:Oper}{Ha:List Item}(h:VY T ops la H0.length (fV (λ_=>T') la H0.length L0) Ha s o)(hcl:Clo ops l)(hj:∀os,ops[s.i]?=S' os->∀e∈os.after,Region.binds .any e=T'->l.getD e.on F'=T'):qT T (fV (dn l) la H0.length L0) s o:=by
 obtain⟨t,x,v,sv,y,bt,cells,q1,q2,q3,q4,q5,q6,q7,q8,q9,q10,q11,q12,q13⟩:=h
 have hopd:∀{z:Operand} {sz:SV},(∀a∈la,MN z a.d=T'->gz ops 4 s.i a.i=T')->opS (fV (λ_=>T') la H0.length L0) z=S' sz->opS (fV (dn l) la H0.length L0) z=S' sz:=by
  intro z sz hw hz;cases z with
  |tmp u=>
   rw[<-hz];refine iH (λb hb e=>?_) rfl;exact kz hcl hj (hw b hb (by simp[MN,e]))
  |_=>exact hz
 exact⟨t,x,v,sv,y,q1,q2,q3,hopd (λb hb h=>q12 b hb (by rw[h];rfl)) q4,hopd (λb hb h=>q12 b hb (by rw[h,ar8])) q5,q6,q7,q9⟩
set_option maxHeartbeats 1000000 in
theorem Xu{H0:List Item}{L0:SL}{l0:Array Bool}{la:List AlA}{ss:List AlS}(hT:eO P T=T')(hE:kY P E)(hI:inv w0)
  (hA:alA T N ops.toList 0=S' la) (hS:alS T E ops l0 la H0.length (fV (λ_=>T') la H0.length L0) (H0++alX (λ_=>T') la) ops.toList 0=S' ss) (hD:IB ops l0 (la.map (·.i)++ss.map (·.i))=T') (hW:Lj E ops l0 (la.map (·.i)++ss.map (·.i))=T')
  (hlowH:mN H0.length H0) (hlowL:∀t s,aK L0 t=S' s->s.refsT H0.length=T') (hfl:fl<=H0.length) (hl0:l0.size=ops.size)
  (hX:∀H G w H' G' w',X H G w->Ev Z fl H G w H' G' w'->X H' G' w')
  (hEnd:∀(n:Nat) (l:Array Bool) G w a,cu l<=n->l.size=ops.size->(∀k,l0.getD k F'=T'->l.getD k F'=T')->(∀k∈la.map (·.i)++ss.map (·.i),l.getD k T'=T')->(∀k,l.getD k T'=T'->l0.getD k T'=T'\/k∈la.map (·.i)++ss.map (·.i))->Clo ops l->SR Z w0 (ct (λ_=>T') ss (H0++alX (λ_=>T') la)) G w->FR Z N (fV (λ_=>T') la H0.length L0) (ct (λ_=>T') ss (H0++alX (λ_=>T') la)) G w a->X (ct (λ_=>T') ss (H0++alX (λ_=>T') la)) G w->wpG P ops Q (λ_=>True) n l a w):
  ∀(n:Nat) (l:Array Bool),cu l<=n->l.size=ops.size->(∀k,l0.getD k F'=T'->l.getD k F'=T')->(∀k,l.getD k T'=T'->l0.getD k T'=T'\/k∈la.map (·.i)++ss.map (·.i))->Clo ops l->∀(G:List Value) (w:World) (a:Act),
   SR Z w0 (ct (dn l) ss (H0++alX (dn l) la)) G w->FR Z N (fV (dn l) la H0.length L0) (ct (dn l) ss (H0++alX (dn l) la)) G w a->X (ct (dn l) ss (H0++alX (dn l) la)) G w->wpG P ops Q (λ_=>True) n l a w:=by
 obtain⟨a1,a2,a3⟩:=pO hA;obtain⟨s1,s2,s3⟩:=mY hS;have hp:=wI hA hS
 have cov:∀{l:Array Bool},(∀k,l0.getD k F'=T'->l.getD k F'=T')->∀{k:Nat} {o:Oper},ops[k]?=S' o->l.getD k T'=F'->(∃(r:Nat) (x:AlA),la[r]?=S' x/\x.i=k/\bz o=T')\/(∃s∈ss,s.i=k/\bz o=F')\/(fw E o=T'/\l0.getD k T'=F'):=by
  intro l hsub k o ho hu;have hk:ops.toList[k]?=S' o:=by rw[aqD];exact ho
  cases hal:bz o with
  |true=>
   obtain⟨r,x,h1,h2,_⟩:=a1 k o hk hal;exact .inl ⟨r,x,h1,by omega,rfl⟩
  |false=>
   right;have hlt:k<l0.size:=by rw[hl0];exact(ao6.1 ho).1
   have h0:l0.getD (0+k) T'=false:=by
    rw[ao3];cases hq:l0.getD k true with
    |false=>rfl
    |true=>
     rw[<-jX hlt]at hq;have:=hsub k hq;rcases apu k l.size with h'|h'
     ·rw[jX h',hu]at this;cases this
     ·simp[aqy h']at hu
   cases ht:fw E o with
   |true=>rw[ao3]at h0;exact .inr ⟨rfl,h0⟩
   |false=>
    obtain⟨s,h1,h2⟩:=s1 k o hk h0 hal ht;exact .inl ⟨s,h1,by omega,rfl⟩
 have fin:∀{n:Nat} {l:Array Bool},cu l<=n->l.size=ops.size->(∀k,l0.getD k F'=T'->l.getD k F'=T')->(∀k,l.getD k T'=T'->l0.getD k T'=T'\/k∈la.map (·.i)++ss.map (·.i))->Clo ops l->(∀k∈la.map (·.i)++ss.map (·.i),l.getD k T'=T')->∀{G:List Value} {w:World} {a:Act},SR Z w0 (ct (dn l) ss (H0++alX (dn l) la)) G w->FR Z N (fV (dn l) la H0.length L0) (ct (dn l) ss (H0++alX (dn l) la)) G w a->X (ct (dn l) ss (H0++alX (dn l) la)) G w->wpG P ops Q (λ_=>True) n l a w:=by
  intro n l hcu hl hsub hin hcl hall G w a hr hf hx;have e1:∀x∈la,dn l x.i=true:=λx hx=>hall _ (aqv _ (aq1.2 ⟨x,hx,rfl⟩));have e2:∀s∈ss,dn l s.i=true:=λs hs=>hall _ (aqE _ (aq1.2 ⟨s,hs,rfl⟩))
  have e3:alX (dn l) la=alX (λ_=>T') la:=by
   unfold alX;exact arQ λx hx=>by rw[e1 x hx]
  have e4:ct (dn l) ss (H0++alX (dn l) la)=ct (λ_=>T') ss (H0++alX (λ_=>T') la):=by
   rw[e3];exact lm e2
  rw[e4]at hr hf hx;refine hEnd n l G w a hcu hl hsub hall hin hcl hr ⟨hf.defers,hf.size,λt s hs=>hf.slot t s ?_⟩ hx;rw[<-hs];exact iH (λx hx _=>e1 x hx) rfl
 intro n;induction n with
 |zero=>
  intro l hcu hl hsub hin hcl G w a hr hf hx;exact fin hcu hl hsub hin hcl (λk _=>XH (l:=l) (by omega) k) hr hf hx
 |succ n ih=>
  intro l hcu hl hsub hin hcl G w a hr hf hx;by_cases hC:∀k∈la.map (·.i)++ss.map (·.i),l.getD k T'=T'
  ·exact fin hcu hl hsub hin hcl hC hr hf hx
  have hC':∃k∈la.map (·.i)++ss.map (·.i),l.getD k T'=false:=by
   apply apb;intro hn;refine hC λk hk=>?_;cases hq:l.getD k true with
   |true=>rfl
   |false=>exact(hn ⟨k,hk,hq⟩).elim
  refine⟨λh=>(yF hl hD hsub hC' h).elim,λj hj=>?_⟩;obtain⟨hju,oj,hoj,hdep⟩:=apU.1 hj
  have hin':∀{i:Nat},i∈la.map (·.i)++ss.map (·.i)->∀k,(l.setIfInBounds i T').getD k T'=T'->l0.getD k T'=T'\/k∈la.map (·.i)++ss.map (·.i):=λ{i} hi k hk=>by
   have:=jm l i k;rw[show dn (l.setIfInBounds i T') k=T' from hk]at this;by_cases e:k=i
   ·subst e;exact .inr hi
   ·rw[aph e]at this;exact hin k this.symm
  have hsub':∀k,l0.getD k F'=T'->(l.setIfInBounds j T').getD k F'=true:=λk hk=>arX (hsub k hk);have hcu':cu (l.setIfInBounds j T')<=n:=by have:=AL hju;omega
  have hjr:∀os,ops[j]?=some os->∀e∈os.after,Region.binds .any e=true->l.getD e.on false=true:=λos hos e he hb=>by rw[hoj]at hos;injection hos with hos;subst hos;exact hdep e he hb
  rcases cov hsub hoj hju with⟨r,x,h1,h2,hal⟩|⟨s,hsm,h2,hal⟩|⟨ht,hu0⟩
  ·-- an allocation
   subst h2;obtain⟨r',x',g1,g2,g3,g4,y,g5,g6⟩:=J2 hA hoj hal
   have e:r'=r:=by
    by_cases hh:r'=r
    ·exact hh
    ·exact absurd g2 (Sz a3 h1 g1 hh).1
   subst e;rw[h1]at g1;injection g1 with g1;subst g1;obtain⟨hset,hgone⟩:=hp.setA hcl hl h1 hju;refine rX (L':=fV (dn (l.setIfInBounds x.i true)) la H0.length L0) hT hoj hal h1 g3 g4 g5 ⟨y,g6⟩ a3 hju hgone (hp.low hlowH) (XE hlowL) hfl hr hf hx hX (CD (jm l x.i) a3 h1) λv G' w' _ k1 k2 k3=>⟨.inr trivial,?_⟩
   rw[<-hset]at k1 k2 k3;exact ih _ hcu' (by simpa using hl) hsub' (hin' (aqv _ (aq1.2 ⟨x,apM h1,rfl⟩))) (hcl.set hj) G' w' _ k1 k2 k3
  ·-- a store
   subst h2;obtain⟨_,_,o,ho,_,hok⟩:=s2 s hsm;rw[ar9,aqD,hoj]at ho;injection ho with ho;subst ho;obtain⟨bt,c',b1,b2⟩:=hp.box hcl hsm hjr;refine rG (fl:=fl) hT hE hI hoj (EQ hok hcl hjr) b1 b2 hr hf hx hX λG' w' k2 k3 k5=>⟨.inr trivial,?_⟩
   rw[<-hp.setS hsm hju]at k2 k3 k5;refine ih _ hcu' (by simpa using hl) hsub' (hin' (aqE _ (aq1.2 ⟨s,hsm,rfl⟩))) (hcl.set hj) G' w' _ k2 ?_ k5;exact⟨k3.defers,k3.size,λu su hs=>k3.slot u su (by rw[<-iH (λx hx _=>(hp.same hoj hal).2 x hx) rfl];exact hs)⟩
  ·-- a tame one waits for all
   exfalso;obtain⟨k,hk,hku⟩:=hC';have hw:=apa.1 hW j (List.mem_range.2 (ao6.1 hoj).1);unfold dZ at hw;rw[hu0,hoj]at hw;dsimp only at hw;rw[ht]at hw;simp only[Bool.not_true,Bool.or_false,Bool.false_or]at hw;have:=kz hcl hjr (apa.1 hw k hk);rw[hku]at this;cases this
end
end
end Go.Proofs.YtoimchcjhdcdmaaGreat
end
