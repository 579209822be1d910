/- The pure machine's quiet operations are the machine's. -/
import Derived.Test.YtoimchcjhdcdmaaGreatQ1
import Derived.Lib.LazyBuf
noncomputable section
namespace Go.Proofs.YtoimchcjhdcdmaaGreat
open Go.RowKit Go.IntKind
open Bool renaming true->T',false->F'
open Option renaming some->S',none->N'
theorem aoQ:type_of% @of_decide_eq_true:=@of_decide_eq_true
theorem ao8:type_of% @List.length_cons:=@List.length_cons
theorem apa:type_of% @List.all_eq_true:=@List.all_eq_true
theorem apc:type_of% @List.getElem?_append_left:=@List.getElem?_append_left
theorem apj:type_of% @List.append_nil:=@List.append_nil
theorem apm:type_of% @List.getElem?_append_right:=@List.getElem?_append_right
theorem apr:type_of% @List.length_append:=@List.length_append
theorem apy:type_of% @List.take_of_length_le:=@List.take_of_length_le
theorem apI:type_of% @of_decide_eq_false:=@of_decide_eq_false
theorem apJ:type_of% @Nat.eq_zero_or_pos:=@Nat.eq_zero_or_pos
theorem apW:type_of% @List.length_map:=@List.length_map
theorem apX:type_of% @List.flatten_cons:=@List.flatten_cons
theorem apY:type_of% @List.getElem?_set:=@List.getElem?_set
theorem ap8:type_of% @List.mem_of_mem_take:=@List.mem_of_mem_take
theorem aqc:type_of% @Option.map_some:=@Option.map_some
theorem aqe:type_of% @List.eq_nil_of_length_eq_zero:=@List.eq_nil_of_length_eq_zero
theorem aqj:type_of% @List.getElem?_eq_none:=@List.getElem?_eq_none
theorem aqr:type_of% @List.getElem?_drop:=@List.getElem?_drop
theorem aqs:type_of% @List.getElem?_take:=@List.getElem?_take
theorem aqu:type_of% @List.mem_of_mem_drop:=@List.mem_of_mem_drop
theorem aqC:type_of% @Nat.succ_mul:=@Nat.succ_mul
theorem aqQ:type_of% @Nat.add_assoc:=@Nat.add_assoc
theorem aq9:type_of% @List.foldl_cons:=@List.foldl_cons
theorem arp:type_of% @Bool.false_eq_true:=@Bool.false_eq_true
theorem arq:type_of% @Nat.pos_of_ne_zero:=@Nat.pos_of_ne_zero
theorem ars:type_of% @Nat.add_zero:=@Nat.add_zero
theorem art:type_of% @List.headD_cons:=@List.headD_cons
theorem arS:type_of% @Nat.zero_mul:=@Nat.zero_mul
section
structure FR (Z:Nat->Prop) (n:Nat) (L:SL) (H:List Item) (G:List Value) (w:World) (a:Act):Prop where
 defers:a.defers=[]
 size:a.tmps.size=n
 slot:∀t s,aK L t=S' s->∃v,a.tmps[t]?=S' v/\Rel G (Av Z H G) w s v
def fW(H:List Item)(G:List Value)(b:Nat):Prop:=∃(j:Nat) (it:Item) (g:Value),H[j]?=S' it/\it.isRw=T'/\G[j]?=S' g/\bh g=S' b
def Agr(rw:Bool)(H:List Item)(G:List Value)(w w':World):Prop:=w.heap.size<=w'.heap.size/\∀b,b<w.heap.size->(rw=T'\/¬fW H G b)->w'.heap[b]?=w.heap[b]?
theorem Agr.refl{rw:Bool}{H:List Item}{G:List Value}{w:World}:Agr rw H G w w:=⟨aoU _,λ_ _ _=>rfl⟩
theorem dN{G:List Value}{A:Nat->Prop}{w:World}{s:SV}{v:Value}(h:Rel1 G A w s v):Rel G A w s v:=by cases s<;>first|exact h|exact h.elim
theorem n4{G:List Value}{A:Nat->Prop}{w:World}{s:SV}{v:Value}(h:Rel G A w s v)(hg:∀l,s≠.tup l):Rel1 G A w s v:=by cases s<;>first|exact h|exact(hg _ rfl).elim
section
variable {G:List Value} {A:Nat->Prop} {w:World}
theorem u4{v:Value}{s:SV}(h:oG v=S' s):Rel1 G A w s v:=by
 unfold oG at h;split at h<;>first|(injection h with h;subst h;exact⟨[_],rfl,rfl⟩)|cases h
theorem He{v:Value}{s:SV}(h:oG v=S' s):∃t x,s=.d t x/\t.isSt=F'/\t.n=1:=by
 unfold oG at h;split at h<;>first|(injection h with h;subst h;exact⟨_,_,rfl,rfl,rfl⟩)|cases h
theorem Gm{v:Value}{t:Ty}{x:t.D}(h:oG v=S' (.d t x)):t.rd A w [v] x:=by
 obtain⟨t',x',e,h1,h2⟩:=He h;injection e with e1 e2;subst e1;exact Gz h1 h2 (u4 (G:=[]) h)
theorem AW:∀{l:List Value} {t:Ty} {x:t.D},vM l=S' ⟨t,x⟩->t.rd A w l x
 |[],t,x,h=>by simp[vM]at h
 |[v],t,x,h=>by
  simp only[vM]at h;split at h
  ·rename_i t' x' hv;injection h with h;cases h;exact Gm hv
  ·cases h
 |v::u::l,t,x,h=>by
  simp only[vM]at h;split at h
  ·rename_i t1 x1 t2 x2 h1 h2;injection h with h;cases h;exact⟨[v],u::l,rfl,Gm h1,AW h2⟩
  ·cases h
theorem Iu{v:Value}{s:SV}(h:H8 v=S' s):Rel1 G A w s v:=by
 unfold H8 at h;split at h
 ·injection h with h;subst h;rfl
 ·split at h
  ·rename_i cs t x hc;injection h with h;subst h;refine⟨_,AW (t:=t) hc,?_⟩;rfl
  grind
 grind [u4]
end
section
variable {Z:Nat->Prop} {w0:World} {n:Nat} {L:SL} {H:List Item} {G:List Value} {w:World} {a:Act}
theorem aF(hf:FR Z n L H G w a){x:Operand}{s:SV}(h:opS L x=S' s):Rel G (Av Z H G) w s (a.eval x):=by
 cases x with
 |tmp t=>
  obtain⟨v,h1,h2⟩:=hf.slot t s h;simp_all [Act.eval]
 |const v=>exact dN (Iu h)
 |global g=>simp[opS]at h
 |func f=>simp only[opS,aoX]at h;subst h;exact⟨[],trivial,rfl⟩
theorem val?_rel{s:SV}{v u:Value}{A:Nat->Prop}(h:Rel G A w s u)(hv:val? s=S' v):u=v:=by
 unfold val? at hv;split at hv
 ·split at hv
  ·obtain⟨cs,h1,h2⟩:=h;grind [ql]
  grind
 grind
theorem Ro(hf:FR Z n L H G w a){x:Operand}(h:(match opS L x with|S' s=>(val? s).isSome|N'=>F')=T'):a.eval x=opV L x:=by
 unfold opV;cases hs:opS L x with
 |none=>rw[hs]at h;cases h
 |some s=>
  rw[hs]at h;dsimp only at h ⊢;obtain⟨v,hv⟩:=apD.1 h;rw[hv];exact val?_rel (aF hf hs) hv
theorem Nc(hf:FR Z n L H G w a){o:Oper}(h:C2 L o.op=T'):execOp a.eval o=execOp (opV L) o:=by
 simp only[C2,aoT]at h;refine execOp_congr o (λcs b e=>?_) (λx hx=>Ro hf (apa.1 h.1 x (by simpa using hx)));grind
theorem CZ{P:Program}{R:Type}{o:Oper}{k:SV->Option R}{r:R}(hf:FR Z n L H G w a)(h:mh P L o k=S' r):
  ∃s v,k s=S' r/\Rel1 G (Av Z H G) w s v/\∀w',(execOp a.eval o).run P w'=.ok (.value v) w':=by
 unfold mh at h;split at h
 ·cases h
 ·rename_i hfl;rw[Nc hf hfl]
  have gen:(match evT P (execOp (opV L) o) []with
    |some (.value v,[])=>match oG v with|some s=>k s|none=>none
    |_=>none)=some r->∃s v,k s=some r/\Rel1 G (Av Z H G) w s v/\∀w',(execOp (opV L) o).run P w'=.ok (.value v) w':=by
   intro h;split at h
   ·rename_i v he;split at h
    ·rename_i s hs;exact⟨s,v,h,u4 hs,λw'=>KH _ _ _ _ he trivial⟩
    ·cases h
   ·cases h
  obtain⟨dst,op,type,pos,after,guard⟩:=o;dsimp only at h;split at h;case h_7=>exact gen h
  ·rename_i t x y yt;split at h<;>try (cases h;done)
   all_goals
    rename_i p q hp hq;split at h<;>try (cases h;done)
    rename_i hb;have hb:=apI hb;refine⟨_,_,h,⟨[_],rfl,rfl⟩,λw'=>?_⟩;simp[execOp,hp,hq,eqGuard,binOp,Op.intDiv,hb,mkV,Ty.isSt]
  ·rename_i t x y yt;split at h<;>try (cases h;done)
   all_goals
    rename_i p q hp hq;split at h<;>try (cases h;done)
    rename_i hb;have hb:=apI hb;refine⟨_,_,h,⟨[_],rfl,rfl⟩,λw'=>?_⟩;simp[execOp,hp,hq,eqGuard,binOp,Op.intDiv,hb,mkV,Ty.isSt]
  ·rename_i t x y yt;split at h<;>try (cases h;done)
   rename_i kd p kd' q hp hq;split at h<;>try (cases h;done)
   rename_i hb;have hb:=apI hb;refine⟨_,_,h,⟨[_],rfl,rfl⟩,λw'=>?_⟩;simp[execOp,hp,hq,eqGuard,binOp,Op.shift,hb,mkV,Ty.isSt]
  ·rename_i t x y yt;split at h<;>try (cases h;done)
   rename_i kd p kd' q hp hq;split at h<;>try (cases h;done)
   rename_i hb;have hb:=apI hb;refine⟨_,_,h,⟨[_],rfl,rfl⟩,λw'=>?_⟩;simp[execOp,hp,hq,eqGuard,binOp,Op.shift,hb,mkV,Ty.isSt]
  ·rename_i t x y yt;split at h
   ·rename_i xs ys hx hy;split at h<;>try (cases h;done)
    rename_i rr hg hr;refine⟨_,_,h,⟨[_],rfl,rfl⟩,λw'=>?_⟩;simp only[execOp,hx,hy,apO,run_eqGuard_agg w' .eql t x y xs ys hg,api,run_eql_struct,sM _ _ _ _ _ w' hr,aqh];rfl
   ·exact gen h
  ·rename_i t x y yt;split at h
   ·rename_i xs ys hx hy;split at h<;>try (cases h;done)
    rename_i rr hg hr;refine⟨_,_,h,⟨[_],rfl,rfl⟩,λw'=>?_⟩;simp only[execOp,hx,hy,apO,run_eqGuard_agg w' .neq t x y xs ys hg,api,run_neq_struct,sM _ _ _ _ _ w' hr,aqh];rfl
   ·exact gen h
end
end
section
theorem jH{P:Program}(w:World)(b o:Nat)(ty:TypeId)(v:Value)(d:TypeDesc)(hc:w.cell? ⟨b,o,N'⟩=S' v)(hu:P.underlying ty=S' d)(hd:d.isRow=F'):
  (Instr.loadAt ty (.pointer (S' ⟨b,o,N'⟩))).run P w=.ok v w:=by
 have hagg:(isAgg ty).run P w=.ok F' w:=by
  unfold isAgg;rw[apO,apn hu w];cases d<;>simp_all
 have hl:(load ⟨b,o,N'⟩).run P w=.ok v w:=by simp only[load,Sem.run,hc]
 simp only[Instr.loadAt,Instr.sureAddr,loadVar,apO,aqh,api,hagg,arp,if_false];omega
theorem lU{P:Program}{t:Nat}{i:TI}(hc:chk P t i=T')(w:World)(b o:Nat)(cs:List Value)(hl:cs.length=i.ty.n)(hn:i.ty.isSt=F'->i.ty.n=1)(hcs:jd w b o cs):
  (Instr.loadAt t (.pointer (S' ⟨b,o,N'⟩))).run P w=.ok (mkV i.ty cs) w:=by
 obtain⟨d,h1,h2⟩:=vD hc;have hsz:=tj hc;cases hst:i.ty.isSt with
 |true=>
  rw[hst]at h2;rw[run_loadAt_mid w b o t cs d hcs h1 h2 (by rw[hsz,hl])];grind [mkV]
 |false=>
  rw[hst]at h2;have hl1:=hn hst;match cs,hl with
  |[v],_=>rw[jH w b o t v d (by simpa using hcs 0 v rfl) h1 h2];simp[mkV,hst]
  |[],hl=>rw[hl1]at hl;simp at hl
  |_::_::_,hl=>rw[hl1]at hl;simp at hl
theorem L4{P:Program}{s f:Nat}{fs:Array Field}{fl:Field}{i:TI}(hs:P.underlying s=S' (.struct fs))(hf:fs[f]?=S' fl)(hc:chk P fl.type i=T')(w:World)(cs:List Value)(hl:((cs.drop fl.offset).take i.ty.n).length=i.ty.n)(hn:i.ty.isSt=F'->i.ty.n=1):
  (Instr.field s (.agg cs.toArray) f).run P w=.ok (mkV i.ty ((cs.drop fl.offset).take i.ty.n)) w:=by
 obtain⟨d,h1,h2⟩:=vD hc;have hsz:=tj hc;cases hi:P.info? fl.type with
 |none=>rw[hi]at hsz;cases hsz
 |some inf=>
  have hs2:inf.size=i.ty.n:=by rw[hi]at hsz;simpa using hsz
  cases hst:i.ty.isSt with
  |true=>
   rw[hst]at h2
   have hx:cs.toArray.extract fl.offset (fl.offset+inf.size)=((cs.drop fl.offset).take i.ty.n).toArray:=by
    rw[hs2];simp[List.take_drop]
   cases d<;>simp[TypeDesc.isRow]at h2<;>simp[Instr.field,apn hs,hf,asAgg,part,isAgg,apn h1,sizeOf,typeInfo,hi,hs2,mkV,hst]
  |false=>
   rw[hst]at h2;have h0:=hn hst
   have hg:cs[fl.offset]?=S' (((cs.drop fl.offset).take i.ty.n).headD undef)/\(cs.drop fl.offset).take i.ty.n=[((cs.drop fl.offset).take i.ty.n).headD undef]:=by
    rw[h0]at hl ⊢;cases hd:cs.drop fl.offset with
    |nil=>rw[hd]at hl;simp at hl
    |cons v r=>
     have:(cs.drop fl.offset)[0]?=S' v:=by rw[hd];rfl
     rw[aqr]at this;simpa using this
   cases d<;>simp[TypeDesc.isRow]at h2<;>(rw[hg.2];simp[Instr.field,apn hs,hf,asAgg,part,isAgg,apn h1,hg.1,mkV,hst])
theorem LZ{P:Program}{t len et:Nat}{i:TI}{n:Int}{kd:IntKind}{q:Nat}(hq:n.toNat*i.ty.n=q)(hs:P.underlying t=S' (.array len et))(hc:chk P et i=T')(h0':0<=n/\n<(len:Int))(w:World)(cs:List Value)(hl:((cs.drop q).take i.ty.n).length=i.ty.n)(hn:i.ty.isSt=F'->i.ty.n=1):
  (Instr.index t (.agg cs.toArray) (.int kd n)).run P w=.ok (mkV i.ty ((cs.drop q).take i.ty.n)) w:=by
 obtain⟨d,h1,h2⟩:=vD hc;have hsz:=tj hc;cases hi:P.info? et with
 |none=>rw[hi]at hsz;cases hsz
 |some inf=>
  have hs2:inf.size=i.ty.n:=by rw[hi]at hsz;simpa using hsz
  cases hst:i.ty.isSt with
  |true=>
   rw[hst]at h2
   have hx:cs.toArray.extract q (q+inf.size)=((cs.drop q).take i.ty.n).toArray:=by
    rw[hs2];simp[List.take_drop]
   cases d<;>simp[TypeDesc.isRow]at h2<;>simp[Instr.index,asIntOf,apn hs,h0'.1,h0'.2,part,isAgg,apn h1,sizeOf,typeInfo,hi,hs2,hq,mkV,hst]
  |false=>
   rw[hst]at h2;have h0:=hn hst
   have hg:cs[q]?=S' (((cs.drop q).take i.ty.n).headD undef)/\(cs.drop q).take i.ty.n=[((cs.drop q).take i.ty.n).headD undef]:=by
    rw[h0]at hl ⊢;cases hd:cs.drop q with
    |nil=>rw[hd]at hl;simp at hl
    |cons v r=>
     have:(cs.drop q)[0]?=S' v:=by rw[hd];rfl
     rw[aqr]at this;simpa using this
   cases d<;>simp[TypeDesc.isRow]at h2<;>(rw[hg.2];simp[Instr.index,asIntOf,apn hs,h0'.1,h0'.2,part,isAgg,apn h1,hg.1,mkV,hst,sizeOf,typeInfo,hi,hs2,hq])
theorem pj{P:Program}{t f:Nat}{i:TI}{p:Nat×Nat}(hc:chk P t i=T')(hp:i.pl[f]?=S' p)(w:World)(b o:Nat):
  (Instr.fieldAt t (.pointer (S' ⟨b,o,N'⟩)) f).run P w=.ok (.pointer (S' ⟨b,o+p.1,N'⟩)) w:=by
 obtain⟨fs,fl,inf,h1,h2,h3,h4,h5⟩:=MS hc hp;simp[Instr.fieldAt,apn h1,h2,Instr.sureAddr,fieldPlace,sizeOf,typeInfo,h4,h5,c7,h3]
theorem lC{sz:Nat}:∀{css:List (List Value)} {n i:Nat} {l:List Value} {v:Value},(∀l∈css,l.length=sz)->css[n]?=S' l->l[i]?=S' v->css.flatten[n*sz+i]?=S' v
 |[],_,_,_,_,_,h,_=>by simp at h
 |c::css,0,i,l,v,hl,h,hv=>by
  simp at h;subst h;rw[apX,arS,ao3,apc (aoZ.1 hv).1];exact hv
 |c::css,n+1,i,l,v,hl,h,hv=>by
  have hc:c.length=sz:=hl c (by simp);rw[apX,apm (by rw[hc,aqC];omega),hc,show(n+1)*sz+i-sz=n*sz+i by rw[aqC];omega];exact lC (λl hm=>hl l (by simp[hm])) (by simpa using h) hv
theorem fu{A:Nat->Prop}{w:World}{e:Ty}:∀{css:List (List Value)} {xs:List e.D},bJ (λl y=>e.rd A w l y) css xs->∀l∈css,l.length=e.n
 |[],[],_,l,h=>by simp at h
 |c::css,x::xs,⟨h1,h2⟩,l,h=>by
  rcases ao7.1 h with rfl|h
  ·exact Ty.rd_len h1
  ·exact fu h2 l h
theorem gA{sz:Nat}:∀{css:List (List Value)},(∀l∈css,l.length=sz)->css.flatten.length=css.length*sz
 |[],_=>by simp
 |c::css,h=>by rw[apX,apr,gA (λl hm=>h l (by simp[hm])),h c (by simp),ao8,aqC];omega
theorem em{sz:Nat}:∀{css:List (List Value)} (n:Nat),(∀l∈css,l.length=sz)->(css.take n).flatten=css.flatten.take (n*sz)
 |[],n,_=>by simp
 |c::css,0,_=>by simp
 |c::css,n+1,h=>by
  have hc:=h c (by simp);rw[List.take_succ_cons,apX,em n (λl hm=>h l (by simp[hm])),apX,List.take_append,hc,apy (l:=c) (by rw[hc,aqC];omega),show(n+1)*sz-sz=n*sz by rw[aqC];omega]
theorem fQ{sz:Nat}:∀{css:List (List Value)} (n:Nat),(∀l∈css,l.length=sz)->(css.drop n).flatten=css.flatten.drop (n*sz)
 |[],n,_=>by simp
 |c::css,0,_=>by simp
 |c::css,n+1,h=>by
  have hc:=h c (by simp);rw[List.drop_succ_cons,apX,fQ n (λl hm=>h l (by simp[hm])),List.drop_append,hc,(apx (by rw[hc,aqC];omega):c.drop ((n+1)*sz)=[]),aqS,show(n+1)*sz-sz=n*sz by rw[aqC];omega]
section
variable {Z:Nat->Prop} {w0:World} {n:Nat} {L:SL} {H:List Item} {G:List Value} {w:World} {a:Act} {P:Program} {T:TT}
theorem Agr.pure{rw:Bool}{w':World}(ha:Agr rw H G w w'){b:Nat}(hb:b<w.heap.size)(hA:Av Z H G b):w'.heap[b]?=w.heap[b]?:=
 ha.2 b hb (.inr λ⟨j,_it,g,h1,hw,h2,h3⟩=>hA.2 j _ g h1 (tM hw) h2 h3)
theorem Agr.box{rw:Bool}{w':World}(ha:Agr rw H G w w')(hr:SR Z w0 H G w){j b:Nat}{t:TypeId}{cs:List SV}{g:Value}(hj:H[j]?=S' (.box t cs))(hg:G[j]?=S' g)(hb:bh g=S' b):w'.heap[b]?=w.heap[b]?:=
 ha.2 b ((hr.items j _ g hj hg).blk rfl hb).2 (.inr λ⟨i,it,h,h1,hw,h2,h3⟩=>by
  by_cases hij:i=j
  ·subst hij;rw[hj]at h1;cases h1;cases hw
  ·exact hr.disj i j _ _ h g b hij h1 hj (tM hw) rfl h2 hg h3 hb)
theorem nK{w':World}{b o:Nat}{cs:List Value}(h:w'.heap[b]?=w.heap[b]?)(hc:jd w b o cs):jd w' b o cs:=λi v hv=>(World.cell?_of_block (a:=⟨b,o+i,N'⟩) h).trans (hc i v hv)
theorem MZ{base et:Nat}{e:Ty}{g:Value}{m b c N:Nat}{css:List (List Value)}{l:List Value}{A:Nat->Prop}{xs:List e.D}(ho:w.ownsRow base et e.n g m css.flatten)(hg:g=.slice (S' ⟨b,0,N'⟩) N c)(ha:bJ (λl y=>e.rd A w l y) css xs){k:Nat}(hk:css[k]?=S' l):jd w b (k*e.n) l:=by
 intro i v hv;have hf:=lC (fu ha) hk hv;rcases ho.2 with⟨rfl,_⟩|⟨g',cap,cur,rfl,h1,h2,h3,h4,h5,h6⟩
 ·grind
 ·injection hg with hg;injection hg with hg;injection hg with hg;subst hg;rw[cell_of_row w _ _ cur et (0,0) h2];grind
theorem J8{e t:Ty}{x:e.D}{off:Nat}{y:t.D}:e.sub x off t=S' y->t.isSt=F'->t.n=1:=by
 have lf:∀{e:Ty} {x:e.D} {off:Nat},e.n=1->(match Nat.beq off 0 with|T'=>eU e t x|F'=>N')=S' y->t.n=1:=by
  intro e x off hn h;split at h
  ·obtain⟨rfl,_⟩:=cZ h;exact hn
  ·cases h
 induction e generalizing off with
 |int k=>exact λh _=>lf rfl h
 |bool=>exact λh _=>lf rfl h
 |str=>exact λh _=>lf rfl h
 |sl e=>exact λh _=>lf rfl h
 |st a ih=>
  intro h hs;simp only[Ty.sub]at h;split at h
  ·grind [cZ,Ty.isSt]
  ·exact ih h hs
 |pair a b iha ihb=>
  grind [Ty.sub]
theorem FK(hr:SR Z w0 H G w){rw:Bool}{t:Nat}{i:TI}(hc:chk P t i=T'){j off:Nat}{bt:TypeId}{cells:List SV}{p:Value}{s:SV}(hp:Rel G (Av Z H G) w (.box j off) p)(hj:H[j]?=S' (.box bt cells))(hl:Jf i.ty (cells.drop off)=S' s):
  ∃v,Rel1 G (Av Z H G) w s v/\∀w',Agr rw H G w w'->(Instr.loadAt t p).run P w'=.ok v w':=by
 obtain⟨b,hg,rfl⟩:=hp;obtain⟨b',vs,e1,hb,hblk,hrel⟩:=hr.items j _ _ hj hg;injection e1 with e1;injection e1 with e1;injection e1 with e1;subst e1
 have hcell:∀(cs:List Value),(∃r,vs.drop off=cs++r)->jd w b off cs:=by
  rintro cs ⟨r,hcs⟩ k v hv
  refine hblk.cell _ ?_;have:(vs.drop off)[k]?=S' v:=by rw[hcs,apc (aoZ.1 hv).1];exact hv
  grind
 have hd:=iL off hrel;unfold Jf at hl;split at hl
 ·rename_i hst;split at hl
  ·rename_i x r hjn;injection hl with hl;subst hl;obtain⟨v1,v2,h1,h2,_⟩:=qz hjn hd;refine⟨mkV i.ty v1,⟨v1,h2,rfl⟩,λw' ha=>?_⟩;exact lU hc w' b off v1 (Ty.rd_len h2) (λh=>by rw[hst]at h;cases h) (nK (ha.box hr hj hg rfl) (hcell v1 ⟨v2,h1⟩))
  ·cases hl
 ·rename_i hst;split at hl
  ·rename_i s' r hdr;split at hl<;>try (cases hl;done)
   rename_i hgood;injection hl with hl;subst hl;rw[hdr]at hd;match hv:vs.drop off,hd with
   |v::vr,hd=>
    obtain⟨h1,_⟩:=hd;obtain⟨d,hu,hrow⟩:=vD hc;refine⟨v,h1,λw' ha=>?_⟩;refine jH w' b off t v d ?_ hu (by rw[hrow,hst]);have:=nK (ha.box hr hj hg rfl) (hcell [v] ⟨vr,hv⟩) 0 v rfl;simpa using this
  ·cases hl
theorem QH{rw:Bool}{t:Nat}{i:TI}(hc:chk P t i=T'){e:Ty}{x:e.D}{off:Nat}{p:Value}{y:i.ty.D}(hp:Rel G (Av Z H G) w (.elt e x off) p)(hs:e.sub x off i.ty=S' y):
  ∃v,Rel1 G (Av Z H G) w (.d i.ty y) v/\∀w',Agr rw H G w w'->(Instr.loadAt t p).run P w'=.ok v w':=by
 obtain⟨b,o,cs,rfl,hA,hb,hrd,hcs⟩:=hp;have h1:=CB hrd hs;refine⟨mkV i.ty _,⟨_,h1,rfl⟩,λw' ha=>?_⟩;refine lU hc w' b (o+off) _ (Ty.rd_len h1) (J8 hs) (nK (ha.pure hb hA) λk v hv=>?_);rw[aqs]at hv;split at hv
 ·rw[aqr]at hv;have:=hcs _ _ hv;grind
 grind
theorem Mu(hr:SR Z w0 H G w){t:Nat}{i:TI}(hc:chk P t i=T'){j k off:Nat}{et:TypeId}{e:Ty}{xs:List e.D}{x:e.D}{p:Value}{y:i.ty.D}(hp:Rel G (Av Z H G) w (.oelt j e.n k off) p)(hj:(H.map rdI)[j]?=S' (.row et e xs))(hx:xs[k]?=S' x)(hs:e.sub x off i.ty=S' y):
  ∃v,Rel1 G (Av Z H G) w (.d i.ty y) v/\∀w',Agr T' H G w w'->(Instr.loadAt t p).run P w'=.ok v w':=by
 obtain⟨b,m,c,hg,rfl⟩:=hp;obtain⟨css,_,ho,ha2,_⟩:=hr.read hj hg;obtain⟨l,hl,hrd⟩:=pM ha2 k x hx;have h1:=CB hrd hs;refine⟨mkV i.ty _,⟨_,h1,rfl⟩,λw' ha=>?_⟩;have hb:=(hr.rblk hj hg rfl).1;refine lU hc w' b (k*e.n+off) _ (Ty.rd_len h1) (J8 hs) (nK (ha.2 b hb (.inl rfl)) λq v hv=>?_);rw[aqs]at hv;split at hv
 ·rw[aqr]at hv;have:=MZ ho rfl ha2 hl _ _ hv;grind
 grind
theorem DI(hr:SR Z w0 H G w){j:Nat}{et:TypeId}{cells:List SV}{g:Value}(hj:(H.map rdI)[j]?=S' (.rws et cells))(hg:G[j]?=S' g):H[j]?=S' (.rws et cells)/\∃vs:List Value,w.ownsRow w0.heap.size et 1 g cells.length vs/\bJ (Rel1 G (Av Z H G) w) cells vs:=by
 rw[apS]at hj;cases hh:H[j]? with
 |none=>rw[hh]at hj;cases hj
 |some it=>
  rw[hh]at hj;cases it<;>first|(cases hj;done)|skip
  rename_i t cs;injection hj with hj;injection hj with h1 h2;subst h1 h2;exact⟨rfl,hr.items j _ g hh hg⟩
theorem Nq(hr:SR Z w0 H G w){t:Nat}{i:TI}(hc:chk P t i=T'){j k:Nat}{et:TypeId}{cells:List SV}{p:Value}{s:SV}(hp:Rel G (Av Z H G) w (.oelt j 1 k 0) p)(hj:(H.map rdI)[j]?=S' (.rws et cells))(hs:cells[k]?=S' s)(hsl:i.ty.isSl=T'):
  ∃v,Rel1 G (Av Z H G) w s v/\∀w',Agr T' H G w w'->(Instr.loadAt t p).run P w'=.ok v w':=by
 obtain⟨b,m,c,hg,rfl⟩:=hp;obtain⟨hj,vs,ho,hrel⟩:=DI hr hj hg;obtain⟨v,hv,hsv⟩:=fR hrel k s hs;have hst:i.ty.isSt=false:=by cases h:i.ty<;>rw[h]at hsl<;>first|rfl|cases hsl
 obtain⟨d,hu,hrow⟩:=vD hc;refine⟨v,hsv,λw' ha=>?_⟩;rcases ho.2 with⟨e1,_⟩|⟨b',cap,cur,e1,h1,h2,h3,h4,h5,h6⟩
 ·cases e1
 ·injection e1 with e1;injection e1 with e1;injection e1 with e1;subst e1;have hb:b<w.heap.size:=(ao6.1 h2).1;have hk:(cur.toList.take (cells.length*1))[k]?=some v:=by rw[h6];exact hv
  rw[aqs]at hk;split at hk
  ·refine jH w' b _ t v d ((World.cell?_of_block (a:=⟨b,k*1+0,N'⟩) (ha.2 b hb (.inl rfl))).trans ?_) hu (by rw[hrow,hst]);rw[cell_of_row w _ _ cur et (0,0) h2];simpa using hk
  ·cases hk
theorem hZ{t:Nat}{i:TI}{e:Ty}(hc:chk P t i=T')(ht:i.ty=.sl e)(w:World)(b off len c:Nat)(kd:IntKind)(m:Int)(h0:0<=m)(h1:m<len):
  (Instr.indexAt t (.slice (S' ⟨b,off,N'⟩) len c) (.int kd m)).run P w=.ok (.pointer (S' ⟨b,off+m.toNat*e.n,N'⟩)) w:=by
 obtain⟨hu,_,j,hj,hjs,_⟩:=c9 hc ht;simp[Instr.indexAt,asIntOf,apn hu,sizeOf,typeInfo,hj,h0,h1,c7,hjs]
theorem uV{α:Type}{xs:List α}{m:Int}{y:α}(h:aH xs m=S' y):0<=m/\m<xs.length/\xs[m.toNat]?=S' y:=by grind [aH]
theorem ON{t:Nat}{i:TI}{e:Ty}(hc:chk P t i=T')(ht:i.ty=.sl e){xs:List e.D}{m:Int}{y:e.D}{p:Value}{kd:IntKind}(hp:Rel G (Av Z H G) w (.d (.sl e) xs) p)(hy:aH xs m=S' y):
  ∃v,Rel1 G (Av Z H G) w (.elt e y 0) v/\∀w',(Instr.indexAt t p (.int kd m)).run P w'=.ok v w':=by
 obtain⟨cs,hrd,rfl⟩:=hp;obtain⟨p,n,c,css,rfl,h1,h2,h3,h4,h5⟩:=hrd;obtain⟨g1,g2,g3⟩:=uV hy;obtain⟨b,off,rfl,hA,hb,hcs⟩:=h5 (by omega);obtain⟨l,hl,hrd⟩:=pM h4 _ _ g3;refine⟨.pointer (S' ⟨b,off+m.toNat*e.n,N'⟩),⟨b,off+m.toNat*e.n,l,rfl,hA,hb,hrd,λk v hv=>?_⟩,λw'=>hZ hc ht w' b off n c kd m g1 (by omega)⟩;have:=hcs _ _ (lC (fu h4) hl hv);grind
theorem dA{base et sz:Nat}{g:Value}{m:Nat}{cs:List Value}(h:w.ownsRow base et sz g m cs):(g=.slice none 0 0/\m=0)\/∃b c,g=.slice (some ⟨b,0,none⟩) m c:=by rcases h.2 with h|⟨g',cap,cur,rfl,_⟩<;>grind
theorem Me(hr:SR Z w0 H G w){t:Nat}{i:TI}{e:Ty}(hc:chk P t i=T')(ht:i.ty=.sl e){et:TypeId}{xs:List e.D}{j:Nat}{m:Int}{y:e.D}{p:Value}{kd:IntKind}(hj:(H.map rdI)[j]?=S' (.row et e xs))(hp:Rel G (Av Z H G) w (.own j) p)(hy:aH xs m=S' y):
  ∃v,Rel1 G (Av Z H G) w (.oelt j e.n m.toNat 0) v/\∀w',(Instr.indexAt t p (.int kd m)).run P w'=.ok v w':=by
 obtain⟨css,_,ho,_⟩:=hr.read hj hp;obtain⟨g1,g2,g3⟩:=uV hy;rcases dA ho with⟨rfl,h0⟩|⟨b,c,rfl⟩
 ·omega
 ·refine⟨.pointer (S' ⟨b,m.toNat*e.n,N'⟩),⟨b,_,c,hp,rfl⟩,λw'=>?_⟩;have:=hZ hc ht w' b 0 xs.length c kd m g1 (by omega);grind
theorem Mh(hr:SR Z w0 H G w){t:Nat}{i:TI}{e:Ty}(hc:chk P t i=T')(ht:i.ty=.sl e)(hn:e.n=1){et:TypeId}{cells:List SV}{j:Nat}{m:Int}{y:SV}{p:Value}{kd:IntKind}(hj:(H.map rdI)[j]?=S' (.rws et cells))(hp:Rel G (Av Z H G) w (.own j) p)(hy:aH cells m=S' y):
  ∃v,Rel1 G (Av Z H G) w (.oelt j 1 m.toNat 0) v/\∀w',(Instr.indexAt t p (.int kd m)).run P w'=.ok v w':=by
 obtain⟨_,vs,ho,_⟩:=DI hr hj hp;obtain⟨g1,g2,g3⟩:=uV hy;rcases dA ho with⟨rfl,h0⟩|⟨b,c,rfl⟩
 ·omega
 ·refine⟨.pointer (S' ⟨b,m.toNat*1,N'⟩),⟨b,_,c,hp,rfl⟩,λw'=>?_⟩;have:=hZ hc ht w' b 0 cells.length c kd m g1 (by omega);rw[hn]at this;grind
end
end
section
def d7(cs:List Value):Nat->List Value->List Value
 |_,[]=>cs
 |off,s::r=>d7 (cs.set off s) (off+1) r
theorem yW{R:SV->Value->Prop}:∀{l:List SV} {vs:List Value} {cs:List SV} {us:List Value} (off:Nat),bJ R l vs->bJ R cs us->bJ R (nT cs off l) (d7 us off vs)
 |[],[],_,_,_,_,h=>h
 |_::_,_::_,_,_,off,⟨h1,h2⟩,h=>yW (off+1) h2 (un off h h1)
theorem mr:∀{l:List Value} {cs:List Value} {off:Nat},(d7 cs off l).length=cs.length
 |[],_,_=>rfl
 |_::r,_,_=>by simp[d7,mr (l:=r)]
theorem Bo:∀(l:List Value) (off k:Nat) (cells:Array Value),((l.zipIdx k).foldl (λ(cs:Array Value) (x:Value×Nat)=>cs.setIfInBounds (off+x.2) x.1) cells).toList=d7 cells.toList (off+k) l
 |[],_,_,_=>rfl
 |v::l,off,k,cells=>by
  rw[List.zipIdx_cons,aq9,Bo l off (k+1)];simp[d7,aqQ]
theorem Mc(v:Value)(off:Nat)(cells:Array Value):(v.cells.zipIdx.foldl (λ(cs:Array Value) (x:Value×Nat)=>cs.setIfInBounds (off+x.2) x.1) cells).toList=d7 cells.toList off v.cells.toList:=by
 have:=Bo v.cells.toList off 0 cells;rw[ars]at this;rw[<-this];obtain⟨l⟩:=v.cells;simp
theorem vK{t:Ty}{A:Nat->Prop}{w:World}{cs:List Value}{x:t.D}(ht:∀a b,t≠.pair a b)(h:t.rd A w cs x):(mkV t cs).cells.toList=cs:=by
 cases t with
 |int k=>simp only[Ty.rd]at h;subst h;rfl
 |bool=>simp only[Ty.rd]at h;subst h;rfl
 |str=>simp only[Ty.rd]at h;subst h;rfl
 |sl e=>obtain⟨p,n,c,css,rfl,_⟩:=h;rfl
 |pair a b=>exact(ht a b rfl).elim
 |st a=>simp[mkV,Ty.isSt,Value.cells]
section
variable {Z:Nat->Prop} {w0:World} {n:Nat} {L:SL} {H:List Item} {G:List Value} {w:World} {a:Act} {P:Program} {T:TT}
theorem ot(hr:SR Z w0 H G w){s:SV}{v:Value}{l:List SV}(h:Rel G (Av Z H G) w s v)(hs:fH H s=S' l):bJ (Rel1 G (Av Z H G) w) l v.cells.toList:=by
 unfold fH at hs;split at hs
 ·cases hs
 ·rename_i t x hne;injection hs with hs;subst hs;obtain⟨cs,h1,rfl⟩:=h;rw[vK (λa b e=>by subst e;exact hne a b x rfl HEq.rfl) h1];exact ks h1
 ·split at hs
  ·rename_i j _ et e xs hj;injection hs with hs;subst hs;obtain⟨css,ho,_⟩:=hr.items j _ _ hj h;have hc:v.cells.toList=[v]:=by rcases dA ho with⟨rfl,_⟩|⟨b,c,rfl⟩<;>rfl
   rw[hc];exact⟨h,trivial⟩
  ·cases hs
 ·rename_i s' hn1 hn2 hn3;split at hs<;>try (cases hs;done)
  rename_i hg;injection hs with hs;subst hs
  have hc:v.cells.toList=[v]:=by
   cases s with
   |d t x=>cases t<;>first|exact(hn1 _ _ _ rfl).elim|exact(hn2 _ _ rfl).elim
   |nil=>rw[show v=.slice none 0 0 from h];rfl
   |box j off=>obtain⟨b,_,rfl⟩:=h;rfl
   |elt e x off=>obtain⟨b,o,cs,rfl,_⟩:=h;rfl
   |own j=>exact(hn3 j rfl).elim
   |oelt j sz i off=>obtain⟨b,n,c,_,rfl⟩:=h;rfl
   |clo f caps=>obtain⟨bs,_,rfl⟩:=h;rfl
   |tup l=>simp[SV.good]at hg
   |undef=>simp[SV.good]at hg
   |dead=>simp[SV.good]at hg
   |cut e xs=>obtain⟨p,_,rfl⟩:=h;rfl
   |osl j sz lo n=>obtain⟨g,q,c,_,rfl,_⟩:=h;rfl
  rw[hc];exact⟨n4 h (λl e=>by subst e;simp[SV.good]at hg),trivial⟩
theorem uL(hr:SR Z w0 H G w)(hf:FR Z n L H G w a){place:Nat->Option (Nat×Nat)}:∀{parts:List (Nat×Operand)} {cs cs':List SV} {us:Array Value},rg H L place cs parts=S' cs'->bJ (Rel1 G (Av Z H G) w) cs us.toList->
  ∃us',Instr.fill place us (parts.map λp=>(p.1,a.eval p.2))=S' us'/\bJ (Rel1 G (Av Z H G) w) cs' us'.toList
 |[],cs,cs',us,h,ha=>by simp only[rg,aoX]at h;subst h;exact⟨us,rfl,ha⟩
 |(i,x)::r,cs,cs',us,h,ha=>by
  simp only[rg]at h;split at h
  ·rename_i off size s hp hs;split at h<;>try (cases h;done)
   rename_i l hl;split at h<;>try (cases h;done)
   rename_i hb;simp only[aoT]at hb;have hv:=aF hf hs;have hl2:=ot hr hv hl;have hlen:(a.eval x).cells.size=l.length:=by have:=dw hl2;simpa using this.symm
   have hlu:cs.length=us.size:=by have:=dw ha;simpa using this
   obtain⟨us',h1,h2⟩:=uL hr hf (us:=((a.eval x).cells.zipIdx.foldl (λ(cs:Array Value) (x:Value×Nat)=>cs.setIfInBounds (off+x.2) x.1) us)) h (by rw[Mc];exact yW off hl2 ha);refine⟨us',?_,h2⟩;have e1:=aoS hb.1;have e2:=aoV hb.2;simp only[List.map_cons,Instr.fill,hp];rw[aph (by simp[hlen,e1];omega)];exact h1
  ·cases h
theorem Mb{t:Nat}{i:TI}(hc:chk P t i=T')(hz:i.z=T')(hst:i.ty.isSt=T')(parts:List (Nat×Value)):P.built t parts=Instr.fill (wS i i.el) (zc i.ty).toArray parts:=by
 obtain⟨inf,hi,hzero⟩:=yd hc hz;unfold chk at hc;rw[hi]at hc;cases hu:P.underlying t with
 |none=>rw[hu]at hc;cases hc
 |some d=>
  rw[hu]at hc;simp only[aoT]at hc;have hc:=hc.2;have hmk:(mkV i.ty (zc i.ty)).cells=(zc i.ty).toArray:=by simp[mkV,hst,Value.cells]
  unfold Program.built;rw[hi,hu];match d,hc with
  |.struct fs,hc=>
   simp only[aoT]at hc;obtain⟨_,hc⟩:=hc;split at hc
   ·rename_i pl hpl;simp only[aoT]at hc;obtain⟨rfl,_⟩:=Ia hc.1;simp only[hzero,hpl,hmk];congr 1;unfold wS;rw[hc.2];funext k;simp
   ·cases hc
  |.array m e,hc=>
   simp only[aoT]at hc;obtain⟨⟨⟨⟨_,h1⟩,h2⟩,h3⟩,h4⟩:=hc;split at h4
   ·rename_i j hj;simp only[hzero,hj,hmk,aoS h4];unfold wS;have e1:=aoS h1;have e2:=aoV h2;have e3:Nat.beq i.len 0=false:=by rw[<-e1];cases m<;>first|omega|rfl
    rw[e3]
   ·cases h4
  |.slice e,hc=>
   dsimp only at hc;split at hc
   ·rename_i he _;rw[he]at hst;cases hst
   ·cases hc
  |.invalid,hc|.bool,hc|.int _,hc|.float _,hc|.complex _,hc|.string,hc|.pointer _,hc|.map _ _,hc|.chan _ _,hc|.func _ _ _,hc|.interface _,hc|.tuple _,hc|.named _ _,hc|.unsafePointer,hc=>
   simp only[aoT]at hc;have hc:=hc.2;generalize i.ty=ty at*
   cases ty<;>simp_all [Ty.isSt]
theorem Q7{t:Nat}{i:TI}{e:Ty}(hc:chk P t i=T')(ht:i.ty=.sl e){xs:List e.D}{l h:Int}{p:Value}{lo hi:Option Value}(hp:Rel G (Av Z H G) w (.d (.sl e) xs) p)
  (hlo:(lo=N'/\l=0)\/∃kd,lo=S' (.int kd l)) (hhi:(hi=N'/\h=xs.length)\/∃kd,hi=S' (.int kd h)) (hb:0<=l/\l<=h/\h<=xs.length):
  ∃v,Rel1 G (Av Z H G) w (.d (.sl e) ((xs.take h.toNat).drop l.toNat)) v/\∀w',(Instr.sliceAt t p lo hi N').run P w'=.ok v w':=by
 obtain⟨cs,hrd,rfl⟩:=hp;obtain⟨p,n,c,css,rfl,h1,h2,h3,h4,h5⟩:=hrd;obtain⟨hu,_,j,hj,hjs,_⟩:=c9 hc ht;obtain⟨b1,b2,b3⟩:=hb;have hel:P.elem t=i.el:=by simp[Program.elem,hu]
 have hu':P.underlying t=S' (.slice (P.elem t)):=by rw[hel];exact hu
 have hsz:∀w',(sizeOf (P.elem t)).run P w'=.ok e.n w':=λw'=>by rw[hel];simp[sizeOf,typeInfo,hj,hjs]
 refine⟨sliced p l.toNat h.toNat c e.n,?_,λw'=>?_⟩
 ·have hl4:=fu h4;have hlen:((xs.take h.toNat).drop l.toNat).length=h.toNat-l.toNat:=by simp;omega
  refine⟨[sliced p l.toNat h.toNat c e.n],⟨if c=l.toNat then p else p.map (·.add (l.toNat*e.n)),h.toNat-l.toNat,c-l.toNat,(css.take h.toNat).drop l.toNat,rfl,hlen,by omega,by omega,iL _ (iO _ h4),λhn=>?_⟩,rfl⟩;have hn0:0<n:=by omega
  have hcl:c≠l.toNat:=by omega
  obtain⟨b,off,rfl,hA,hb,hcs⟩:=h5 hn0;refine⟨b,off+l.toNat*e.n,?_,hA,hb,?_⟩
  ·rw[aph hcl];simp[c7]
  ·intro k v hv;rw[fQ _ (λl hm=>hl4 l (ap8 hm)),em _ hl4,aqr,aqs]at hv;split at hv
   ·have:=hcs _ _ hv;rwa [<-aqQ]at this
   ·cases hv
 ·rw[run_sliceAt_slice w' t _ lo hi N' hu'];have hn:(n:Int)=xs.length:=by omega
  rcases hlo with⟨rfl,rfl⟩|⟨kl,rfl⟩<;>rcases hhi with⟨rfl,rfl⟩|⟨kh,rfl⟩
  ·have:=run_slice_all (P:=P) w' t p n c hu';simp only[mkV,Ty.isSt,art,this,hsz,api,<-hn];simp
  ·have:=run_slice_h (P:=P) w' t p n c hu' kh h (by omega) (by omega);simp only[mkV,Ty.isSt,art,this,hsz,api];simp
  ·have:=run_slice_l (P:=P) w' t p n c hu' kl l (by omega) (by omega);simp only[mkV,Ty.isSt,art,this,hsz,api,<-hn];simp
  ·have:=run_slice_lh (P:=P) w' t p n c hu' kl kh l h (by omega) (by omega) (by omega);simp only[mkV,Ty.isSt,art,this,hsz,api]
theorem Ms{t:Nat}{i:TI}{e:Ty}(hc:chk P t i=T')(ht:i.ty=.sl e){xs:List e.D}{l h m:Int}{p:Value}{lo hi mx:Option Value}(hp:Rel G (Av Z H G) w (.d (.sl e) xs) p)
  (hlo:(lo=N'/\l=0)\/∃kd,lo=S' (.int kd l)) (hhi:∃kd,hi=S' (.int kd h)) (hmx:∃kd,mx=S' (.int kd m)) (hb:0<=l/\l<=h/\h<=m/\m<=xs.length):
  ∃v,Rel1 G (Av Z H G) w (.d (.sl e) ((xs.take h.toNat).drop l.toNat)) v/\(h=m->Rel1 G (Av Z H G) w (.cut e ((xs.take h.toNat).drop l.toNat)) v)/\∀w',(Instr.sliceAt t p lo hi mx).run P w'=.ok v w':=by
 obtain⟨cs,hrd,rfl⟩:=hp;obtain⟨p,n,c,css,rfl,h1,h2,h3,h4,h5⟩:=hrd;obtain⟨hu,_,j,hj,hjs,_⟩:=c9 hc ht;obtain⟨b1,b2,b3,b4⟩:=hb;have hel:P.elem t=i.el:=by simp[Program.elem,hu]
 have hu':P.underlying t=S' (.slice (P.elem t)):=by rw[hel];exact hu
 have hsz:∀w',(sizeOf (P.elem t)).run P w'=.ok e.n w':=λw'=>by rw[hel];simp[sizeOf,typeInfo,hj,hjs]
 have hlen:((xs.take h.toNat).drop l.toNat).length=h.toNat-l.toNat:=by simp;omega
 have main:(Ty.sl e).rd (Av Z H G) w [sliced p l.toNat h.toNat m.toNat e.n] ((xs.take h.toNat).drop l.toNat):=by
  have hl4:=fu h4;refine⟨if m.toNat=l.toNat then p else p.map (·.add (l.toNat*e.n)),h.toNat-l.toNat,m.toNat-l.toNat,(css.take h.toNat).drop l.toNat,rfl,hlen,by omega,by omega,iL _ (iO _ h4),λhn=>?_⟩;have hn0:0<n:=by omega
  have hcl:m.toNat≠l.toNat:=by omega
  obtain⟨b,off,rfl,hA,hb,hcs⟩:=h5 hn0;refine⟨b,off+l.toNat*e.n,?_,hA,hb,?_⟩
  ·rw[aph hcl];simp[c7]
  ·intro k v hv;rw[fQ _ (λl hm=>hl4 l (ap8 hm)),em _ hl4,aqr,aqs]at hv;split at hv
   ·have:=hcs _ _ hv;rwa [<-aqQ]at this
   ·cases hv
 refine⟨sliced p l.toNat h.toNat m.toNat e.n,⟨_,main,rfl⟩,λhm=>?_,λw'=>?_⟩
 ·subst hm;refine⟨if h.toNat=l.toNat then p else p.map (·.add (l.toNat*e.n)),?_,?_⟩
  ·rw[hlen];exact main
  ·rw[hlen];rfl
 ·rw[run_sliceAt_slice w' t _ lo hi mx hu'];obtain⟨kh,rfl⟩:=hhi;obtain⟨km,rfl⟩:=hmx;rcases hlo with⟨rfl,rfl⟩|⟨kl,rfl⟩
  ·have:=run_slice_hm (P:=P) w' t p n c hu' kh km h m (by omega) (by omega) (by omega);simp only[mkV,Ty.isSt,art,this,hsz,api];simp
  ·have:=run_slice_lhm (P:=P) w' t p n c hu' kl kh km l h m (by omega) (by omega) (by omega) (by omega);simp only[mkV,Ty.isSt,art,this,hsz,api]
theorem xB:∀{l:List SV} {js:List Nat} {vs:List Value},xq l=S' js->bJ (Rel G (Av Z H G) w) l vs->∃bs:List Nat,bJ (λj b=>G[j]?=S' (.pointer (S' ⟨b,0,N'⟩))) js bs/\vs=bs.map λb=>.pointer (S' ⟨b,0,N'⟩)
 |[],js,[],h,_=>by simp only[xq,aoX]at h;subst h;exact⟨[],trivial,rfl⟩
 |s::l,js,v::vs,h,⟨h1,h2⟩=>by
  unfold xq at h;split at h
  ·rename_i he;cases he
  ·rename_i j r he;injection he with e1 e2;subst e1 e2;split at h
   ·rename_i l' hl';injection h with h;subst h;obtain⟨b,hb,rfl⟩:=h1;obtain⟨bs,g1,g2⟩:=xB hl' h2;exact⟨b::bs,⟨hb,g1⟩,by rw[g2];rfl⟩
   ·cases h
  ·cases h
theorem jC(hf:FR Z n L H G w a):∀{l:List Operand} {ss:List SV},yG L l=S' ss->bJ (Rel G (Av Z H G) w) ss (l.map a.eval)
 |[],ss,h=>by simp only[yG,aoX]at h;subst h;trivial
 |x::l,ss,h=>by
  simp only[yG]at h;split at h
  ·rename_i s l' h1 h2;injection h with h;subst h;exact⟨aF hf h1,jC hf h2⟩
  ·cases h
theorem gY(hf:FR Z n L H G w a){d l:Int}{o:Option Operand}(h:slB L d o=S' l):(o.map a.eval=N'/\l=d)\/∃kd,o.map a.eval=S' (.int kd l):=by
 unfold slB at h;split at h
 ·injection h with h;exact .inl ⟨rfl,h.symm⟩
 ·split at h
  ·rename_i kd i hs;injection h with h;subst h;obtain⟨cs,h1,h2⟩:=aF hf hs;simp only[Ty.rd]at h1;subst h1;exact .inr ⟨kd,by simp[h2,mkV,Ty.isSt]⟩
  ·cases h
end
end
section
theorem dh{G:List Value}{A:Nat->Prop}{w:World}{k:IntKind}{x:Int}{v:Value}(h:Rel G A w (.d (.int k) x) v):v=.int k x:=by
 obtain⟨cs,h1,rfl⟩:=h;subst h1;rfl
theorem sR{G:List Value}{A:Nat->Prop}{w:World}{x:Bool}{v:Value}(h:Rel G A w (.d .bool x) v):v=.bool x:=by
 obtain⟨cs,h1,rfl⟩:=h;subst h1;rfl
theorem iR{P:Program}{t ty:TypeId}{i:TI}{e:Ty}(hc:chk P t i=T')(ht:i.ty=.sl e)(w:World)(p:Option Addr)(n c:Nat):(Builtin.len_ #[t] ty #[.slice p n c]).run P w=.ok (.int .i64 n) w:=by
 obtain⟨hu,_⟩:=c9 hc ht;simp[Builtin.len_,apn hu,goInt]
def nJ:Op->Bool
 |.load .. =>true
 |_=>false
theorem C6{P:Program}{t:Nat}{i:TI}{e:Ty}(hc:chk P t i=T')(ht:i.ty=.sl e)(w':World)(q:Option Addr)(n c:Nat){l h:Int}{lo hi:Option Value}
  (hlo:(lo=N'/\l=0)\/∃kd,lo=S' (.int kd l)) (hhi:(hi=N'/\h=(n:Int))\/∃kd,hi=S' (.int kd h)) (hb:0<=l/\l<=h/\h<=(n:Int)) (hnc:n<=c):
  (Instr.sliceAt t (.slice q n c) lo hi N').run P w'=.ok (sliced q l.toNat h.toNat c e.n) w':=by
 obtain⟨hu,_,j,hj,hjs,_⟩:=c9 hc ht;have hel:P.elem t=i.el:=by simp[Program.elem,hu]
 have hu':P.underlying t=S' (.slice (P.elem t)):=by rw[hel];exact hu
 have hsz:∀w',(sizeOf (P.elem t)).run P w'=.ok e.n w':=λw'=>by rw[hel];simp[sizeOf,typeInfo,hj,hjs]
 rw[run_sliceAt_slice w' t _ lo hi none hu'];rcases hlo with⟨rfl,rfl⟩|⟨kl,rfl⟩<;>rcases hhi with⟨rfl,rfl⟩|⟨kh,rfl⟩
 ·have:=run_slice_all (P:=P) w' t q n c hu';simp_all
 ·have:=run_slice_h (P:=P) w' t q n c hu' kh h (by omega) (by omega);simp_all
 ·have:=run_slice_l (P:=P) w' t q n c hu' kl l (by omega) (by omega);simp_all
 ·have:=run_slice_lh (P:=P) w' t q n c hu' kl kh l h (by omega) (by omega) (by omega);simp_all
section
variable {Z:Nat->Prop} {w0:World} {n:Nat} {L:SL} {H:List Item} {G:List Value} {w:World} {a:Act} {P:Program} {T:TT} {R:Type}
set_option maxHeartbeats 1000000 in
theorem JG{P:Program}{t:Nat}{i:TI}(hck:chk P t i=T')(hst:i.ty.isSt=T'){m:Int}(hb:0<=m/\m<(i.len:Int)):∃ne ej,P.underlying t=S' (.array i.len ne)/\P.info? ne=S' ej/\ej.size=i.el:=by
  obtain⟨d,hu,hrow⟩:=vD hck;have hck':=hck;unfold chk at hck';rw[hu]at hck';cases hinf:P.info? t with
  |none=>rw[hinf]at hck';cases hck'
  |some inf=>
   rw[hinf]at hck';simp only[aoT]at hck';have hck':=hck'.2;rw[hst]at hrow;match d,hck',hrow with
   |.struct fs,hck',_=>
    simp only[aoT]at hck';obtain⟨_,hck'⟩:=hck';split at hck'
    ·simp only[aoT]at hck';have hz:=aoS hck'.2;have h02:=hb.2;rw[hz]at h02;exact(Int.lt_irrefl 0 (Int.lt_of_le_of_lt hb.1 h02)).elim
    ·cases hck'
   |.array m' e,hck',_=>
    simp only[aoT]at hck';obtain⟨⟨⟨⟨_,h1⟩,_⟩,_⟩,h4⟩:=hck';split at h4
    ·rename_i ej hej;exact⟨e,ej,by rw[<-aoS h1];exact hu,hej,aoS h4⟩
    ·cases h4
theorem iE{rw:Bool}{o:Oper}{k:SV->Option R}{r:R}(hT:eO P T=T')(hr:SR Z w0 H G w)(hf:FR Z n L H G w a)(h:qop P T rw L H o k=S' r):
  ∃s v,k s=S' r/\Rel G (Av Z H G) w s v/\∀w',(nJ o.op=T'->Agr rw H G w w')->(execOp a.eval o).run P w'=.ok (.value v) w':=by
 have hflat:mh P L o k=S' r->∃s v,k s=S' r/\Rel G (Av Z H G) w s v/\∀w',(nJ o.op=T'->Agr rw H G w w')->(execOp a.eval o).run P w'=.ok (.value v) w':=λh=>by
  obtain⟨s,v,h1,h2,h3⟩:=CZ hf h;exact⟨s,v,h1,dN h2,λw' _=>h3 w'⟩
 obtain⟨dst,op,type,pos,after,guard⟩:=o;unfold qop at h;dsimp only at h;split at h
 case h_1 x=>
  split at h<;>try (cases h;done)
  rename_i s hs;exact⟨s,_,h,aF hf hs,λw' _=>rfl⟩
 case h_2 x=>
  split at h<;>try (cases h;done)
  rename_i s hs;exact⟨s,_,h,aF hf hs,λw' _=>rfl⟩
 case h_3 x=>
  split at h<;>try (cases h;done)
  ·rename_i j off hs;have hv:=aF hf hs;refine⟨_,_,h,hv,λw' _=>?_⟩;obtain⟨b,_,hv⟩:=hv;simp[execOp,hv]
  ·rename_i e y off hs;have hv:=aF hf hs;refine⟨_,_,h,hv,λw' _=>?_⟩;obtain⟨b,o,cs,hv,_⟩:=hv;simp[execOp,hv]
  ·rename_i j sz i off hs;have hv:=aF hf hs;refine⟨_,_,h,hv,λw' _=>?_⟩;obtain⟨b,_,_,_,hv⟩:=hv;simp[execOp,hv]
 case h_4 c x y=>
  split at h<;>try (cases h;done)
  rename_i b hs;have hb:=sR (aF hf hs);split at h
  ·split at h<;>try (cases h;done)
   rename_i s hs;exact⟨s,_,h,aF hf hs,λw' _=>by simp[execOp,hb,asBool]⟩
  ·split at h<;>try (cases h;done)
   rename_i s hs;exact⟨s,_,h,aF hf hs,λw' _=>by simp[execOp,hb,asBool]⟩
 case h_5 t x=>
  have fin:∀{s:SV} (_:k s=S' r),(∃v,Rel1 G (Av Z H G) w s v/\∀w',Agr rw H G w w'->(Instr.loadAt t (a.eval x)).run P w'=.ok v w')->∃s v,k s=S' r/\Rel G (Av Z H G) w s v/\∀w',(nJ (.load t x)=T'->Agr rw H G w w')->(execOp a.eval ⟨dst,.load t x,type,pos,after,guard⟩).run P w'=.ok (.value v) w':=by
   rintro s hk ⟨v,h1,h2⟩
   exact⟨s,v,hk,dN h1,λw' ha=>by simp[execOp,h2 w' (ha rfl)]⟩
  split at h<;>try (cases h;done)
  ·rename_i j off i hs hi;split at h<;>try (cases h;done)
   rename_i bt cells hj;split at h<;>try (cases h;done)
   rename_i s hl;exact fin h (FK hr (aG hT hi) (aF hf hs) hj hl)
  ·rename_i e y off i hs hi;split at h<;>try (cases h;done)
   rename_i z hz;exact fin h (QH (aG hT hi) (aF hf hs) hz)
  ·rename_i j sz m off i hs hi;split at h<;>try (cases h;done)
   ·rename_i et e xs hj;split at h<;>try (cases h;done)
    rename_i y hsz hy;split at h<;>try (cases h;done)
    rename_i z hz;have:=aoS hsz;subst this;exact fin h (Mu hr (aG hT hi) (aF hf hs) hj hy hz)
   ·rename_i et cells hj;split at h<;>try (cases h;done)
    rename_i s hb hs';split at h<;>try (cases h;done)
    simp only[aoT]at hb;have h1:=aoS hb.1.1;have h2:=aoS hb.1.2;subst h1 h2;exact fin h (Nq hr (aG hT hi) (aF hf hs) hj hs' hb.2)
 case h_6 s x f=>
  split at h<;>try (cases h;done)
  ·rename_i j off i hs hi;split at h<;>try (cases h;done)
   rename_i p hp;obtain⟨b,hg,hv⟩:=aF hf hs;exact⟨_,.pointer (S' ⟨b,off+p.1,N'⟩),h,⟨b,hg,rfl⟩,λw' _=>by simp[execOp,hv,pj (aG hT hi) hp]⟩
  ·rename_i e y off i hs hi;split at h<;>try (cases h;done)
   rename_i p hp;obtain⟨b,o,cs,hv,h2⟩:=aF hf hs;exact⟨_,.pointer (S' ⟨b,o+(off+p.1),N'⟩),h,⟨b,o,cs,rfl,h2⟩,λw' _=>by simp[execOp,hv,pj (aG hT hi) hp,aqQ]⟩
  ·rename_i j sz m off i hs hi;split at h<;>try (cases h;done)
   rename_i p hp;obtain⟨b,n1,c1,hg,hv⟩:=aF hf hs;exact⟨_,.pointer (S' ⟨b,m*sz+(off+p.1),N'⟩),h,⟨b,n1,c1,hg,rfl⟩,λw' _=>by simp[execOp,hv,pj (aG hT hi) hp,aqQ]⟩
 case h_7 t x ix=>
  split at h<;>try (cases h;done)
  ·rename_i e xs kd m i hs hm hi;split at h<;>try (cases h;done)
   rename_i e' he;split at h<;>try (cases h;done)
   rename_i hee _;split at h<;>try (cases h;done)
   rename_i y hy;have hee:=hee.down;subst hee;obtain⟨v,h1,h2⟩:=ON (kd:=kd) (aG hT hi) he (aF hf hs) hy;exact⟨_,v,h,dN h1,λw' _=>by simp[execOp,dh (aF hf hm),h2 w']⟩
  ·rename_i j kd m i hs hm hi;split at h<;>try (cases h;done)
   ·rename_i et e xs e' hj he;split at h<;>try (cases h;done)
    rename_i hee _;split at h<;>try (cases h;done)
    rename_i y hy;have hee:=hee.down;subst hee;obtain⟨v,h1,h2⟩:=Me (kd:=kd) hr (aG hT hi) he hj (aF hf hs) hy;exact⟨_,v,h,dN h1,λw' _=>by simp[execOp,dh (aF hf hm),h2 w']⟩
   ·rename_i et cells e' hj he;split at h<;>try (cases h;done)
    rename_i y hn hy;obtain⟨v,h1,h2⟩:=Mh (kd:=kd) hr (aG hT hi) he (aoS hn) hj (aF hf hs) hy;exact⟨_,v,h,dN h1,λw' _=>by simp[execOp,dh (aF hf hm),h2 w']⟩
  ·rename_i j off kd m i hs hm hi;split at h<;>try (cases h;done)
   rename_i hst hb;have hb:=aoQ hb;obtain⟨b,hg,hv⟩:=aF hf hs;have hck:=aG hT hi;refine⟨_,.pointer (S' ⟨b,off+m.toNat*i.el,N'⟩),h,⟨b,hg,rfl⟩,λw' _=>?_⟩;obtain⟨ne,ej,h1,h2,h3⟩:=JG hck hst hb;simp[execOp,dh (aF hf hm),hv,Instr.indexAt,asIntOf,apn h1,sizeOf,typeInfo,h2,hb.1,hb.2,c7,Instr.sureAddr,h3]
  ·rename_i e y off kd m i hs hm hi;split at h<;>try (cases h;done)
   rename_i hst hb;have hb:=aoQ hb;obtain⟨b,o,cs,hv,hr2⟩:=aF hf hs;obtain⟨ne,ej,h1,h2,h3⟩:=JG (aG hT hi) hst hb;refine⟨_,.pointer (S' ⟨b,o+(off+m.toNat*i.el),N'⟩),h,⟨b,o,cs,rfl,hr2⟩,λw' _=>?_⟩;simp[execOp,dh (aF hf hm),hv,Instr.indexAt,asIntOf,apn h1,sizeOf,typeInfo,h2,hb.1,hb.2,c7,Instr.sureAddr,h3,aqQ]
  ·rename_i j sz lo mm kd m i hs hm hi;split at h<;>try (cases h;done)
   rename_i e' he;split at h<;>try (cases h;done)
   rename_i hsz hb;have hb:=aoQ hb;have hsz:=aoS hsz;subst hsz;obtain⟨g,q,c,hg,hv,h1,h2,h3,_⟩:=aF hf hs;have hmm:0<mm:=Int.ofNat_lt.1 (Int.lt_of_le_of_lt hb.1 hb.2);obtain⟨b,N,c',rfl,h4,rfl⟩:=h3 hmm;refine⟨_,.pointer (S' ⟨b,(lo+m.toNat)*e'.n+0,N'⟩),h,⟨b,N,c',hg,rfl⟩,λw' _=>?_⟩;have:=hZ (P:=P) (kd:=kd) (aG hT hi) he w' b (lo*e'.n) mm c m hb.1 hb.2;simp[execOp,dh (aF hf hm),hv,this,Nat.add_mul]
 case h_8 x m=>
  split at h<;>try (cases h;done)
  rename_i l hs;split at h<;>try (cases h;done)
  rename_i s hl;obtain⟨vs,hv,hal⟩:=aF hf hs;obtain⟨v,h1,h2⟩:=fR hal m s hl;exact⟨s,v,h,dN h2,λw' _=>by simp[execOp,hv,Instr.extract,h1]⟩
 case h_9 t parts=>
  split at h<;>try (cases h;done)
  rename_i i hi;split at h<;>try (cases h;done)
  rename_i cs hzs hfl;split at h<;>try (cases h;done)
  rename_i x hjn;simp only[aoT]at hzs;obtain⟨us',h1,h2⟩:=uL hr hf (us:=(zc i.ty).toArray) hfl (by simpa using ks (re (t:=i.ty)));obtain⟨v1,v2,h3,h4,h5⟩:=qz hjn h2;match v2,h5 with
  |[],_=>
   rw[apj]at h3;subst h3;refine⟨_,mkV i.ty us'.toList,h,⟨_,h4,rfl⟩,λw' _=>?_⟩
   have hb:P.built t (parts.map λp=>(p.1,a.eval p.2)).toList=S' us':=by
    rw[Mb (aG hT hi) hzs.1 hzs.2,<-h1];simp
   have:=run_build (P:=P) w' t (parts.map λp=>(p.1,a.eval p.2)) us' hb;simp[execOp,this,mkV,hzs.2]
 case h_10 f caps=>
  split at h<;>try (cases h;done)
  rename_i l hl;split at h<;>try (cases h;done)
  rename_i js hj;obtain⟨bs,h1,h2⟩:=xB hj (jC hf hl);refine⟨_,.func (.func f) #[] (bs.map λb=>.pointer (S' ⟨b,0,N'⟩)).toArray,h,⟨bs,h1,rfl⟩,λw' _=>?_⟩;rw[<-h2];obtain⟨cl⟩:=caps;simp[execOp,Instr.makeFunc]
 case h_11 x t=>
  split at h<;>try (cases h;done)
  ·rename_i e xs i hs hi;split at h<;>try (cases h;done)
   rename_i e' he;obtain⟨cs,hrd,hv⟩:=aF hf hs;obtain⟨p,m,c,css,rfl,hlen,_⟩:=hrd;have hv:a.eval x=.slice p m c:=hv;refine⟨_,.int .i64 m,h,⟨[_],rfl,by rw[hlen];rfl⟩,λw' _=>?_⟩;simp[execOp,resolve,invoke,builtin,hv,iR (aG hT hi) he]
  ·rename_i i hs hi;split at h<;>try (cases h;done)
   rename_i e' he;have hv:a.eval x=.slice N' 0 0:=aF hf hs;refine⟨_,.int .i64 0,h,⟨[_],rfl,rfl⟩,λw' _=>?_⟩;simp[execOp,resolve,invoke,builtin,hv,iR (aG hT hi) he]
  ·rename_i j i hs hi;have hv:=aF hf hs
   have key:∀{m:Nat} {e':Ty} {et sz base:Nat} {cs:List Value},i.ty=.sl e'->w.ownsRow base et sz (a.eval x) m cs->∀w':World,(execOp a.eval ⟨dst,.call ⟨.builtin .len,⟨[x]⟩,⟨[t]⟩⟩,type,pos,after,guard⟩).run P w'=.ok (.value (.int .i64 m)) w':=λhe ho w'=>by
    rcases dA ho with⟨h1,h2⟩|⟨b,c,h1⟩
    ·simp[execOp,resolve,invoke,builtin,h1,h2,iR (aG hT hi) he]
    ·simp[execOp,resolve,invoke,builtin,h1,iR (aG hT hi) he]
   split at h<;>try (cases h;done)
   ·rename_i et e xs e' hj he;obtain⟨css,_,ho,_⟩:=hr.read hj hv;exact⟨_,.int .i64 xs.length,h,⟨[_],rfl,rfl⟩,λw' _=>key he ho w'⟩
   ·rename_i et cells e' hj he;obtain⟨_,vs,ho,_⟩:=DI hr hj hv;exact⟨_,.int .i64 cells.length,h,⟨[_],rfl,rfl⟩,λw' _=>key he ho w'⟩
  ·rename_i j sz lo n i hs hi;split at h<;>try (cases h;done)
   rename_i e' he;obtain⟨g,q,c,hg,hv,_⟩:=aF hf hs;refine⟨_,.int .i64 n,h,⟨[_],rfl,rfl⟩,λw' _=>?_⟩;simp[execOp,resolve,invoke,builtin,hv,iR (aG hT hi) he]
  ·rename_i e0 xs i hs hi;split at h<;>try (cases h;done)
   rename_i e' he;obtain⟨p,hrd,hv⟩:=aF hf hs;refine⟨_,.int .i64 xs.length,h,⟨[_],rfl,rfl⟩,λw' _=>?_⟩;simp[execOp,resolve,invoke,builtin,hv,iR (aG hT hi) he]
 case h_12 t x lo hi=>
  split at h<;>try (cases h;done)
  ·rename_i e xs i hs hti;split at h<;>try (cases h;done)
   rename_i e' l hh he hl hhh;split at h<;>try (cases h;done)
   rename_i hee _;split at h<;>try (cases h;done)
   rename_i hb;have hb:=aoQ hb;have hee:=hee.down;subst hee;obtain⟨v,h1,h2⟩:=Q7 (aG hT hti) he (aF hf hs) (gY hf hl) (gY hf hhh) hb;exact⟨_,v,h,dN h1,λw' _=>by simp[execOp,h2 w']⟩
  ·rename_i j i hs hti;split at h<;>try (cases h;done)
   rename_i et e xs e' hj he;split at h<;>try (cases h;done)
   rename_i l hh hl hhh hsz;split at h<;>try (cases h;done)
   rename_i hb;have hb:=aoQ hb;have hsz:=aoS hsz;have hx:=aF hf hs;obtain⟨css,ho,_⟩:=hr.items j _ _ hj hx
   have hform:∃q c,a.eval x=.slice q xs.length c/\xs.length<=c/\c<=maxLen/\q.map (·.add 0)=q/\(0<xs.length->∃b,q=S' ⟨b,0,N'⟩):=by
    rcases ho.2 with⟨e1,e2⟩|⟨g,cap,cur,e1,_,_,e4,e5,_⟩
    ·exact⟨N',0,by rw[e1,e2],by omega,by unfold maxLen;omega,rfl,λh0=>by omega⟩
    ·exact⟨_,cap,e1,e4,e5,by simp[c7],λ_=>⟨g,rfl⟩⟩
   obtain⟨q,c,hv,hc1,hc2,hq0,hq⟩:=hform;refine⟨_,sliced q l.toNat hh.toNat c e.n,h,⟨_,_,_,hx,rfl,by omega,by omega,λh0=>?_,λh0=>?_⟩,λw' _=>?_⟩
   ·obtain⟨b,rfl⟩:=hq (by omega);refine⟨b,xs.length,c,hv,by omega,?_⟩;rw[aph (by omega)];simp[c7]
   ·rw[h0,arS,hq0,ite_self];exact⟨hq0,xs.length,by rw[hv];rfl⟩
   ·have:=C6 (P:=P) (aG hT hti) he w' q xs.length c (gY hf hl) (gY hf hhh) hb hc1;rw[<-hsz]at this;simp[execOp,hv,this]
  ·rename_i j sz b0 n i hs hti;split at h<;>try (cases h;done)
   rename_i e' he;split at h<;>try (cases h;done)
   rename_i l hh hl hhh hsz;split at h<;>try (cases h;done)
   rename_i hb;have hb:=aoQ hb;have hsz:=aoS hsz;subst hsz;obtain⟨g,q,c,hg,hv,hc1,hc2,h3,h4'⟩:=aF hf hs;obtain⟨b1,b2,b3⟩:=hb;have z1:hh.toNat-l.toNat<=c-l.toNat:=by clear h3;omega
   have z2:c-l.toNat<=maxLen:=by clear h3;omega
   have z3:0<hh.toNat-l.toNat->0<n/\l.toNat+(hh.toNat-l.toNat)<=n/\c≠l.toNat:=by clear h3;omega
   refine⟨_,sliced q l.toNat hh.toNat c e'.n,h,⟨g,_,_,hg,rfl,z1,z2,λh0=>?_,λh0=>?_⟩,λw' _=>?_⟩
   ·obtain⟨y1,y2,y3⟩:=z3 h0;obtain⟨b,N,c',rfl,h4,rfl⟩:=h3 y1;refine⟨b,N,c',rfl,by clear h3;omega,?_⟩;rw[aph y3];simp[c7,Nat.add_mul]
   ·obtain⟨e1,N,e2⟩:=h4' (by clear h3;omega);rw[show l.toNat=0 by clear h3;omega,arS,e1,ite_self];exact⟨e1,N,e2⟩
   ·have:=C6 (P:=P) (aG hT hti) he w' q n c (gY hf hl) (gY hf hhh) ⟨b1,b2,b3⟩ hc1;simp[execOp,hv,this]
  ·rename_i i hs hti;split at h<;>try (cases h;done)
   rename_i e' l hh he hl hhh;split at h<;>try (cases h;done)
   rename_i hb;obtain⟨b1,b2,b3⟩:=aoQ hb;have hv:a.eval x=.slice N' 0 0:=aF hf hs;refine⟨.nil,.slice N' 0 0,h,rfl,λw' _=>?_⟩;have:=C6 (P:=P) (aG hT hti) he w' N' 0 0 (gY hf hl) (gY hf hhh) ⟨b1,b2,b3⟩ (aoU _);rw[show l.toNat=0 by omega,show hh.toNat=0 by omega,show sliced N' 0 0 0 e'.n=.slice N' 0 0 by simp[sliced]]at this;simp[execOp,hv,this]
 case h_13 x y _=>
  split at h<;>try (cases h;done)
  rename_i kd p kd' q hp hq;split at h<;>try (cases h;done)
  rename_i hee _;have hee:=hee.down;injection hee with hee;subst hee;refine⟨_,.int kd (if q>p then q else p),h,⟨[_],rfl,rfl⟩,λw' _=>?_⟩;simp[execOp,resolve,invoke,builtin,dh (aF hf hp),dh (aF hf hq),Builtin.max_,Builtin.max2]
 case h_14 x y _=>
  split at h<;>try (cases h;done)
  rename_i kd p kd' q hp hq;split at h<;>try (cases h;done)
  rename_i hee _;have hee:=hee.down;injection hee with hee;subst hee;refine⟨_,.int kd (if q<p then q else p),h,⟨[_],rfl,rfl⟩,λw' _=>?_⟩;simp[execOp,resolve,invoke,builtin,dh (aF hf hp),dh (aF hf hq),Builtin.min_,Builtin.min2]
 case h_15 op t x y ty=>
  split at h
  ·exact hflat h
  ·rename_i b hb
   have ev:∀(A:Option Addr) (l c:Nat) (e:TypeId),a.eval x=.slice A l c->P.underlying t=S' (.slice e)->∀w',(execOp a.eval ⟨dst,.binOp op t x y ty,type,pos,after,guard⟩).run P w'=.ok (.value (.bool (if A.isNone then b else !b))) w':=by
    intro A l c e hx hu w';unfold Ju at hb;split at hb<;>try (cases hb;done)
    ·injection hb with hb;subst hb;unfold execOp;simp only[hx,apO];rw[show a.eval (.const (.slice none 0 0))=.slice none 0 0 from rfl];simp only[eqGuard_at_slice,aqh,api,run_eql_slice_nil w' t e A l c hu];cases A<;>rfl
    ·injection hb with hb;subst hb;unfold execOp;simp only[hx,apO];rw[show a.eval (.const (.slice none 0 0))=.slice none 0 0 from rfl];simp only[eqGuard_at_slice,aqh,api,run_neq_slice_nil w' t e A l c hu];cases A<;>rfl
   have nk:∀{α:Type} {xs:List α} {A:Option Addr} {l c:Nat} {e:TypeId},OZ xs b k=S' r->a.eval x=.slice A l c->(xs≠[]->A.isNone=F')->P.underlying t=S' (.slice e)->
     ∃s v,k s=S' r/\Rel G (Av Z H G) w s v/\∀w',(nJ (.binOp op t x y ty)=T'->Agr rw H G w w')->(execOp a.eval ⟨dst,.binOp op t x y ty,type,pos,after,guard⟩).run P w'=.ok (.value v) w':=by
    intro α xs A l c e hk hx hne hu;have hev:=ev A l c e hx hu;unfold OZ at hk;split at hk
    ·obtain⟨k1,k2⟩:=AS hk;cases hA:A.isNone with
     |true=>exact⟨_,.bool b,k1,⟨[_],rfl,rfl⟩,λw' _=>by rw[hev w',hA];rfl⟩
     |false=>exact⟨_,.bool (!b),k2,⟨[_],rfl,rfl⟩,λw' _=>by rw[hev w',hA];rfl⟩
    ·have hA:=hne (by simp);exact⟨_,.bool (!b),hk,⟨[_],rfl,rfl⟩,λw' _=>by rw[hev w',hA];rfl⟩
   split at h<;>try (cases h;done)
   ·rename_i e xs i hs hi;split at h<;>try (cases h;done)
    rename_i e' he;obtain⟨hu,_⟩:=c9 (aG hT hi) he;obtain⟨cs,hrd,hv⟩:=aF hf hs;obtain⟨p,n,c,css,rfl,h1,h2,h3,h4,h5⟩:=hrd;refine nk h hv (λhne=>?_) hu
    have:0<n:=by
     rw[<-h1];cases xs with
     |nil=>exact absurd rfl hne
     |cons=>simp
    obtain⟨b,off,rfl,_⟩:=h5 this;rfl
   ·rename_i i hs hi;split at h<;>try (cases h;done)
    rename_i e' he;obtain⟨hu,_⟩:=c9 (aG hT hi) he;have hv:a.eval x=.slice N' 0 0:=aF hf hs;exact⟨_,.bool b,h,⟨[_],rfl,rfl⟩,λw' _=>by rw[ev N' 0 0 _ hv hu w'];rfl⟩
   ·rename_i j i hs hi;split at h<;>try (cases h;done)
    rename_i et e xs e' hj he;obtain⟨hu,_⟩:=c9 (aG hT hi) he;obtain⟨css,_,ho,ha2,hn0⟩:=hr.read hj (aF hf hs);rcases ho.2 with⟨e1,e2⟩|⟨g,cap,cur,e1,_⟩
    ·refine nk h e1 (λhne=>?_) hu;exact absurd (aqe e2) hne
    ·exact nk h e1 (λ_=>rfl) hu
   ·rename_i j sz lo n i hs hi;split at h<;>try (cases h;done)
    rename_i e' he;obtain⟨hu,_⟩:=c9 (aG hT hi) he;obtain⟨g,q,c,_,hv,_,_,h5,_⟩:=aF hf hs;refine nk h hv (λhne=>?_) hu;obtain⟨b,N,c',_,_,rfl⟩:=h5 (arq λe=>hne (by rw[e];rfl));rfl
 case h_16=>exact hflat h
 case h_17=>exact hflat h
 case h_18 t x ix=>
  split at h
  ·rename_i e y hs;split at h<;>try (cases h;done)
   rename_i kd n len et hm hu;split at h<;>try (cases h;done)
   rename_i i hi hb;split at h<;>try (cases h;done)
   rename_i z hz;obtain⟨cs,hrd,hv⟩:=aF hf hs;have h1:=CB hrd hz;refine⟨_,mkV i.ty _,h,⟨_,h1,rfl⟩,λw' _=>?_⟩;have hv':a.eval x=.agg cs.toArray:=by rw[hv];simp[mkV,Ty.isSt]
   have:=LZ (kd:=kd) rfl hu (aG hT hi) (aoQ hb) w' cs (Ty.rd_len h1) (J8 hz);simp[execOp,hv',dh (aF hf hm),this]
  ·exact hflat h
 case h_19 t x lo hi mx=>
  split at h<;>try (cases h;done)
  rename_i e xs i hs hti;split at h<;>try (cases h;done)
  rename_i e' l hh m he hl hhh hm;split at h<;>try (cases h;done)
  rename_i hq hee _;split at h<;>try (cases h;done)
  rename_i hb;have hb:=aoQ hb;have hee:=hee.down;subst hee;have h2:=(gY hf hhh).resolve_left (by simp);have h3:=(gY hf hm).resolve_left (by simp);obtain⟨v,h1,h1c,h2⟩:=Ms (aG hT hti) he (aF hf hs) (gY hf hl) h2 h3 hb;split at h
  ·rename_i _ hm;exact⟨_,v,h,h1c (aoQ hm),λw' _=>by simp only[execOp,aqc,apO];have:=h2 w';simp only[aqc]at this;simp[this]⟩
  exact⟨_,v,h,dN h1,λw' _=>by simp only[execOp,aqc,apO];have:=h2 w';simp only[aqc]at this;simp[this]⟩
 case h_20 x y z u _=>
  split at h<;>try (cases h;done)
  rename_i p q p' q' hp hq hp' hq';refine⟨_,.int .i64 (acL p q p' q'),h,⟨[_],rfl,rfl⟩,λw' _=>?_⟩;simp[execOp,resolve,invoke,builtin,dh (aF hf hp),dh (aF hf hq),dh (aF hf hp'),dh (aF hf hq'),Builtin.max_,Builtin.max2,acL]
 case h_21 s x f=>
  split at h<;>try (cases h;done)
  rename_i e y hs;split at h<;>try (cases h;done)
  rename_i fs hu;split at h<;>try (cases h;done)
  rename_i fl hfl;split at h<;>try (cases h;done)
  rename_i i hi;split at h<;>try (cases h;done)
  rename_i z hz;obtain⟨cs,hrd,hv⟩:=aF hf hs;have h1:=CB hrd hz;refine⟨_,mkV i.ty _,h,⟨_,h1,rfl⟩,λw' _=>?_⟩;have hv':a.eval x=.agg cs.toArray:=by rw[hv];simp[mkV,Ty.isSt]
  have:=L4 hu hfl (aG hT hi) w' cs (Ty.rd_len h1) (J8 hz);simp[execOp,hv',this]
 case h_22 x y z u _=>
  split at h<;>try (cases h;done)
  rename_i p q p' q' hp hq hp' hq';refine⟨_,.int .i64 (ac1 p q p' q'),h,⟨[_],rfl,rfl⟩,λw' _=>?_⟩;simp[execOp,resolve,invoke,builtin,dh (aF hf hp),dh (aF hf hq),dh (aF hf hp'),dh (aF hf hq'),Builtin.min_,Builtin.min2,ac1,mn2];rfl
 case h_23=>cases h
end
end
section
def VV(f:SV->SV):SV->SV
 |.tup l=>.tup (l.map f)
 |s=>f s
def wx(f:SV->SV):SL->SL
 |[]=>[]
 |(t,s)::r=>(t,VV f s)::wx f r
def jM(f:SV->SV):Item->Item
 |.box t cs=>.box t (cs.map f)
 |.rws t cs=>.rws t (cs.map f)
 |it=>it
theorem Lh(f:SV->SV)(it:Item):(jM f it).isRw=it.isRw:=by cases it<;>rfl
def ji(j:Nat)(s:SV):SV:=match s.of1 j with
 |true=>.dead
 |false=>s
def fz(j:Nat)(e:Ty)(xs:List e.D)(s:SV):SV:=match s.of1 j with
 |true=>match s with
  |.own _=>.d (.sl e) xs
  |.osl _ sz lo n=>match Nat.beq sz e.n with
   |true=>.d (.sl e) ((xs.drop lo).take n)
   |false=>.dead
  |_=>.dead
 |false=>s
theorem AP{f:SV->SV}:∀{L:SL} {t:Nat} {s:SV},aK (wx f L) t=S' s->∃s0,aK L t=S' s0/\s=VV f s0
 |[],t,s,h=>by simp[wx,aK]at h
 |(k,x)::r,t,s,h=>by
  simp only[wx,aK]at h ⊢;split at h
  ·injection h with h;exact⟨x,rfl,h.symm⟩
  ·exact AP h
section
variable {Z:Nat->Prop} {w0:World} {n:Nat} {L:SL} {H H':List Item} {G G':List Value} {w w':World} {a:Act}
theorem Rel.map{A A':Nat->Prop}{f:SV->SV}(hf:∀s v,Rel1 G A w s v->Rel1 G' A' w' (f s) v){s:SV}{v:Value}(h:Rel G A w s v):Rel G' A' w' (VV f s) v:=by
 cases s with
 |tup l=>
  obtain⟨vs,h1,h2⟩:=h;refine⟨vs,h1,?_⟩;clear h1;induction l generalizing vs with
  |nil=>cases vs<;>exact h2
  |cons s l ih=>
   match vs,h2 with
   |v::vs,⟨g1,g2⟩=>exact⟨hf s v g1,ih vs g2⟩
 |_=>exact dN (hf _ _ h)
theorem FR.map{f:SV->SV}(hf:∀s v,Rel1 G (Av Z H G) w s v->Rel1 G' (Av Z H' G') w' (f s) v)(h:FR Z n L H G w a):FR Z n (wx f L) H' G' w' a:=
 ⟨h.defers,h.size,λt s hs=>by
  obtain⟨s0,h1,rfl⟩:=AP hs;obtain⟨v,h2,h3⟩:=h.slot t s0 h1;exact⟨v,h2,h3.map hf⟩⟩
theorem FR.keep(hf:∀s v,Rel1 G (Av Z H G) w s v->Rel1 G' (Av Z H' G') w' s v)(h:FR Z n L H G w a):FR Z n L H' G' w' a:=
 ⟨h.defers,h.size,λt s hs=>by
  obtain⟨v,h2,h3⟩:=h.slot t s hs;refine⟨v,h2,?_⟩;have:=h3.map (f:=id) hf;cases s<;>simpa [VV]using this⟩
theorem tW{j:Nat}{same:Prop}(hs:same):∀it:Item,WkI j same it it
 |.box t cs=>⟨rfl,by induction cs with|nil=>trivial|cons s l ih=>exact⟨.inr ⟨rfl,λ_=>hs⟩,ih⟩⟩
 |.rws t cs=>⟨rfl,by induction cs with|nil=>trivial|cons s l ih=>exact⟨.inr ⟨rfl,λ_=>hs⟩,ih⟩⟩
 |.row _ _ _=>rfl
 |.len _ _=>rfl
 |.gone=>rfl
theorem jr(hr:SR Z w0 H G w)(hb:Below w.heap.size w w'){it:Item}{g:Value}(hg:∀b,bh g=S' b->w.heap.size<=b):Step w0 H.length True H (H++[it]) G (G++[g]) w w':=by
 have hl:=hr.len;refine⟨by simp[hl],?_,hb.size,λb hbw _=>hb.block b hbw,?_,?_,?_,?_,?_⟩
 ·exact hr.below.trans (hb.mono hr.below.size)
 ·grind
 ·intro i it' hi h1;rcases apu i H.length with hlt|hge
  ·rw[apc hlt]at h1;exact⟨it',h1,tW trivial it'⟩
  grind
 ·grind
 ·grind
 ·intro a h1;rw[aqj (by omega)]at h1;cases h1
theorem cU{j:Nat}(hr:SR Z w0 H G w)(hs:Step w0 j True H H' G G' w w'){s:SV}{v:Value}(h:Rel1 G (Av Z H G) w s v):Rel1 G' (Av Z H' G') w' s v:=hs.rel1 hr h (.inr ⟨rfl,λ_=>trivial⟩)
theorem uM(hr:SR Z w0 H G w)(hb:Below w.heap.size w w'){it:Item}{g:Value}(hg:∀b,bh g=S' b->w.heap.size<=b)
  (hit:ItemRel w0.heap.size (G++[g]) (Av Z (H++[it]) (G++[g])) w' it g):SR Z w0 (H++[it]) (G++[g]) w':=by
 refine(jr hr hb hg).sr hr λit' g' h1 h2=>?_;grind [hr.len]
theorem uv(hr:SR Z w0 H G w)(hb:Below w.heap.size w w'):Step w0 H.length True H H G G w w':=by
 have hl:=hr.len;refine⟨hl,hr.below.trans (hb.mono hr.below.size),hb.size,λb hbw _=>hb.block b hbw,λi g _ h=>h,λi it' _ h=>⟨it',h,tW trivial it'⟩,?_,λ_ g h=>h,λa h=>h⟩;grind
theorem LI(hr:SR Z w0 H G w)(hb:Below w.heap.size w w'):SR Z w0 H G w':=
 (uv hr hb).sr hr λit' g' h1 _=>by rw[aqj (aoU _)]at h1;cases h1
theorem pA(hr:SR Z w0 H G w){j:Nat}{it it':Item}(hj:H[j]?=S' it)(hl:it.live=T')(hB:Below w0.heap.size w0 w')(hz:w.heap.size<=w'.heap.size)
  (hblk:∀b,b<w.heap.size->(∀g,G[j]?=S' g->bh g≠S' b)->w'.heap[b]?=w.heap[b]?):Step w0 j True H (H.set j it') G G w w':=by
 refine⟨by simp[hr.len],hB,hz,λb hb hn=>hblk b hb λg hg=>hn it g hj hl hg,λi g _ h=>h,λi it'' hi h=>?_,?_,λ_ g h=>h,λa h=>h⟩
 ·simp_all [aqK,tW]
 grind
theorem Ck(hr:SR Z w0 H G w){j:Nat}{it it':Item}(hj:H[j]?=S' it)(hl:it.live=T')(hB:Below w0.heap.size w0 w')(hz:w.heap.size<=w'.heap.size)
  (hblk:∀b,b<w.heap.size->(∀g,G[j]?=S' g->bh g≠S' b)->w'.heap[b]?=w.heap[b]?) (hit:∀g,G[j]?=S' g->ItemRel w0.heap.size G (Av Z (H.set j it') G) w' it' g):SR Z w0 (H.set j it') G w':=by
 refine(pA hr hj hl hB hz hblk).sr hr λit'' g' h1 h2=>?_;grind
theorem tY(j:Nat)(same:Prop)(s:SV):Wk j same s (ji j s):=by
 unfold ji;split
 ·exact .inl rfl
 ·rename_i h;exact .inr ⟨rfl,λh'=>by rw[h']at h;cases h⟩
theorem OL(j:Nat)(same:Prop):∀it:Item,WkI j same it (jM (ji j) it)
 |.box t cs=>⟨rfl,by induction cs with|nil=>trivial|cons s l ih=>exact⟨tY j same s,ih⟩⟩
 |.rws t cs=>⟨rfl,by induction cs with|nil=>trivial|cons s l ih=>exact⟨tY j same s,ih⟩⟩
 |.row _ _ _=>rfl
 |.len _ _=>rfl
 |.gone=>rfl
theorem Q4(hr:SR Z w0 H G w){j:Nat}{it it':Item}{g g':Value}(hj:H[j]?=S' it)(hm:it.isRw=T')(hg:G[j]?=S' g)(hnp:∀a,g≠.pointer a)(hgr:w.grownBy w' (bh g))(hb:w0.heap.size<=w.heap.size)
  (hg':∀b,bh g'=S' b->bh g=S' b\/w.heap.size<=b):Step w0 j False H ((H.map (jM (ji j))).set j it') G (G.set j g') w w':=by
 have hlt:=(aoZ.1 hj).1;refine⟨by simp[hr.len],?_,hgr.size,?_,?_,?_,?_,λh=>h.elim,?_⟩
 ·refine hr.below.grown hgr hb λk hk=>((hr.items j _ g hj hg).blk (tM hm) hk).1 (V8 hm)
 ·intro b hb' hn;exact hgr.block b hb' λe1=>hn _ g hj (tM hm) hg e1.symm
 ·grind
 ·intro i it' hi h;rw[apY,aph (aqK hi),apS]at h;grind [aqc,aoX,OL]
 ·intro it' g1 b h1 h2 h3 h4;rw[apY,apB rfl,apB (by rw[hr.len];exact hlt)]at h3;injection h3 with h3;subst h3;rcases hg' b h4 with h5|h5
  ·exact .inl ⟨_,g,hj,tM hm,hg,h5⟩
  ·exact .inr h5
 grind
theorem RF{j:Nat}{et:TypeId}{e:Ty}{xs:List e.D}{g:Value}{A:Nat->Prop}(hr:SR Z w0 H G w)(hj:H[j]?=S' (.row et e xs))(hg:G[j]?=S' g)(hA:∀b,b<w.heap.size->Av Z H G b->A b)(hAj:∀b,bh g=S' b->A b):(Ty.sl e).rd A w [g] xs:=by
 obtain⟨css,ho,ha2,hn⟩:=hr.items j _ g hj hg;have hk:Keeps (Av Z H G) A w w:=⟨aoU _,hA,λ_ _ _=>rfl⟩
 have ha3:=a8 (λ_ _ h=>Ty.rd_keep hk h) ha2;have hrd:=Rd.of_own hn ho;obtain⟨hlen,p,c,hv,h1,h2,h3⟩:=hrd;subst hv;refine⟨p,xs.length,c,css,rfl,rfl,h1,h2,ha3,λh0=>?_⟩;obtain⟨b,off,rfl,h5,h6⟩:=h3 h0;exact⟨b,off,rfl,hAj b rfl,h5,h6⟩
theorem RU{j lo n:Nat}{et:TypeId}{e:Ty}{xs:List e.D}{v:Value}{A:Nat->Prop}(hr:SR Z w0 H G w)(hj:H[j]?=S' (.row et e xs))(hv:Rel1 G (Av Z H G) w (.osl j e.n lo n) v)(hA:∀b,b<w.heap.size->Av Z H G b->A b)(hAj:∀g b,G[j]?=S' g->bh g=S' b->A b):(Ty.sl e).rd A w [v] ((xs.drop lo).take n):=by
 obtain⟨g,q,c,hg,rfl,h1,h2,h3,_⟩:=hv;obtain⟨css,ho,ha2,hn⟩:=hr.items j _ g hj hg;have hk:Keeps (Av Z H G) A w w:=⟨aoU _,hA,λ_ _ _=>rfl⟩
 have ha3:=a8 (λ_ _ h=>Ty.rd_keep hk h) ha2;have hl4:=fu ha2
 have hN:0<n->lo+n<=xs.length:=λh0=>by
  grind [dA]
 refine⟨q,n,c,(css.drop lo).take n,rfl,?_,h1,h2,iO _ (iL _ ha3),λh0=>?_⟩
 ·rcases apJ n with h0|h0
  ·subst h0;simp
  ·have:=hN h0;simp;omega
 ·obtain⟨b,N,c',rfl,h4,rfl⟩:=h3 h0;obtain⟨_,p,c1,hv,_,_,h6⟩:=Rd.of_own hn ho;injection hv with hv1 hv2 hv3;obtain⟨b',off,e1,h7,h8⟩:=h6 (by have:=hN h0;omega);rw[e1]at hv1;injection hv1 with hv1;injection hv1 with e2 e3;subst e2 e3;refine⟨b,lo*e.n,rfl,hAj _ b hg rfl,h7,λk u hu=>?_⟩;rw[em _ (λl hm=>hl4 l (aqu hm)),fQ _ hl4,aqs]at hu;split at hu
  ·rw[aqr]at hu;have:=h8 _ _ hu;rwa [ao3]at this
  ·cases hu
theorem L8{j:Nat}{et:TypeId}{e:Ty}{xs:List e.D}(hr:SR Z w0 H G w)(hj:H[j]?=S' (.row et e xs)):
  SR Z w0 ((H.map (jM (fz j e xs))).set j .gone) G w/\∀s v,Rel1 G (Av Z H G) w s v->Rel1 G (Av Z ((H.map (jM (fz j e xs))).set j .gone) G) w (fz j e xs s) v:=by
 have hlt:=(aoZ.1 hj).1;have hltG:j<G.length:=by rw[hr.len];exact hlt
 have hg:G[j]?=S' G[j]:=aoO hltG;generalize hgg:G[j]=g at hg
 have hget:∀(i:Nat) it',((H.map (jM (fz j e xs))).set j .gone)[i]?=S' it'->(i=j/\it'=.gone)\/(i≠j/\∃it,H[i]?=S' it/\it'=jM (fz j e xs) it):=by
  grind
 have live:∀it:Item,(jM (fz j e xs) it).live=it.live:=λit=>by cases it<;>rfl
 have hsub:∀b,b<w.heap.size->Av Z H G b->Av Z ((H.map (jM (fz j e xs))).set j .gone) G b:=by
  intro b _ hA;refine⟨hA.1,λi it' g' h1 h2 h3=>?_⟩;rcases hget i it' h1 with⟨_,rfl⟩|⟨_,it,h4,rfl⟩
  ·cases h2
  ·exact hA.2 i it g' h4 (by rw[<-live];exact h2) h3
 have hAj:∀b,bh g=S' b->Av Z ((H.map (jM (fz j e xs))).set j .gone) G b:=by
  intro b hb;refine⟨hr.zf b (((hr.items j _ g hj hg).blk rfl hb).1 rfl),λi it' g' h1 h2 h3=>?_⟩;rcases hget i it' h1 with⟨_,rfl⟩|⟨hij,it,h4,rfl⟩
  ·cases h2
  ·exact λh5=>hr.disj i j it _ g' g b hij h4 hj (by rw[<-live];exact h2) rfl h3 hg h5 hb
 have hk:Keeps (Av Z H G) (Av Z ((H.map (jM (fz j e xs))).set j .gone) G) w w:=⟨aoU _,hsub,λ_ _ _=>rfl⟩
 have hrel:∀s v,Rel1 G (Av Z H G) w s v->Rel1 G (Av Z ((H.map (jM (fz j e xs))).set j .gone) G) w (fz j e xs s) v:=by
  intro s v h;unfold fz;split
  ·rename_i hof;split
   ·rename_i i;have:i=j:=aoS hof;subst this;have h:G[i]?=some v:=h;rw[hg]at h;injection h with h;subst h;exact⟨[g],RF hr hj hg hsub hAj,rfl⟩
   ·rename_i i sz lo n;have:i=j:=aoS hof;subst this;split
    ·rename_i hb;have:=aoS hb;subst this;have hv:=RU hr hj h hsub (λg' b h1 h2=>hAj b (by rw[hg]at h1;injection h1 with h1;rw[h1];exact h2));exact⟨[v],hv,rfl⟩
    ·trivial
   ·trivial
  ·exact h.keep hk λi g' _ h=>h
 refine⟨⟨by simp[hr.len],hr.below,?_,?_,hr.zf⟩,hrel⟩
 ·intro i it' g' h1 h2;rcases hget i it' h1 with⟨_,rfl⟩|⟨hij,it,h4,rfl⟩
  ·trivial
  ·have hi:=hr.items i it g' h4 h2;cases it with
   |gone=>trivial
   |box t cs=>
    obtain⟨b,vs,rfl,k1,k2,k3⟩:=hi;refine⟨b,vs,rfl,k1,k2,?_⟩;clear k2 h4 h1;induction cs generalizing vs with
    |nil=>cases vs<;>exact k3
    |cons s l ih=>
     match vs,k3 with
     |v::vs,⟨q1,q2⟩=>exact⟨hrel s v q1,ih vs q2⟩
   |row et' e' xs'=>
    obtain⟨css,k1,k2,k3⟩:=hi;exact⟨css,k1,a8 (λ_ _ h=>Ty.rd_keep hk h) k2,k3⟩
   |len e' xs'=>
    obtain⟨et',css,k1,k2,k3⟩:=hi;exact⟨et',css,k1,a8 (λ_ _ h=>Ty.rd_keep hk h) k2,k3⟩
   |rws t cs=>
    obtain⟨vs,k1,k3⟩:=hi;refine⟨vs,by rw[apW];exact k1,?_⟩;clear k1 h4 h1;induction cs generalizing vs with
    |nil=>cases vs<;>exact k3
    |cons s l ih=>
     match vs,k3 with
     |v::vs,⟨q1,q2⟩=>exact⟨hrel s v q1,ih vs q2⟩
 ·intro i k it kt g1 h1 b hik a1 a2 a3 a4 a5 a6 a7;rcases hget i it a1 with⟨_,rfl⟩|⟨_,it0,b1,rfl⟩
  ·cases a3
  ·rcases hget k kt a2 with⟨_,rfl⟩|⟨_,kt0,c1,rfl⟩
   ·cases a4
   ·exact hr.disj i k it0 kt0 g1 h1 b hik b1 c1 (by rw[<-live];exact a3) (by rw[<-live];exact a4) a5 a6 a7
end
end
def inv(_:World):Prop:=True
theorem kn{w w':World}(_:inv w)(_:Below w.heap.size w w'):inv w':=trivial
theorem T9{w:World}:inv w:=trivial
section
inductive RV where
 |d (t:Ty) (x:t.D)
 |new (et:TypeId) (e:Ty) (xs:List e.D)
structure agO where
 ret:Bool
 g:List Int->List Int
 bx:Option Nat:=N'
structure cE where
 keep:Bool
 run:(R:Type)->List SV->(List RV->Option R)->Option R
 mut_:Option agO:=N'
 tame:Bool:=F'
 lent:Option (Nat×((R:Type)->List SV->(List RV->Option R)->Option R)):=N'
abbrev Env:=List (Nat×cE)
def lG:Env->Nat->Option cE
 |[],_=>none
 |(k,x)::r,t=>match Nat.beq k t with
  |true=>some x
  |false=>lG r t
def U4(E:Env)(f:Nat):Option agO:=match lG E f with
 |some sp=>match sp.mut_ with
  |some g=>match g.bx with
   |some _=>none
   |none=>some g
  |none=>none
 |none=>none
def Ty.zsplit:Ty->List SV
 |.pair a b=>a.zsplit++b.zsplit
 |.st a=>a.zsplit
 |.int k=>[.d (.int k) (0:Int)]
 |.bool=>[.d .bool false]
 |.str=>[.d .str ⟨#[]⟩]
 |.sl _=>[.nil]
def Bq(e:Ty):Nat->List SV->Option (List e.D)
 |0,[]=>some []
 |0,_=>none
 |n+1,l=>match e.join l with
  |some (x,r)=>match Bq e n r with
   |some xs=>some (x::xs)
   |none=>none
  |none=>none
def l9{α:Type}(l:List α):Nat->List α
 |0=>[]
 |n+1=>l++l9 l n
def rK(fl j:Nat)(L:SL)(H:List Item):Option (SL×List Item):=match Nat.ble fl j,H[j]? with
 |true,some (.row _ e xs)=>some (wx (fz j e xs) L,(H.map (jM (fz j e xs))).set j .gone)
 |_,_=>none
def pS(fl:Nat):List Operand->SL->List Item->Option (SL×List Item)
 |[],L,H=>some (L,H)
 |x::r,L,H=>match opS L x with
  |some (.own j)=>match rK fl j L H with
   |some (L',H')=>pS fl r L' H'
   |none=>none
  |some (.osl j _ _ _)=>match rK fl j L H with
   |some (L',H')=>pS fl r L' H'
   |none=>none
  |_=>pS fl r L H
def SV.isOwn:SV->Bool
 |.own _=>true
 |_=>false
def fzS(fl:Nat):List SV->SL->List Item->Option (SL×List Item)
 |[],L,H=>some (L,H)
 |.own j::r,L,H=>match rK fl j L H with
  |some (L',H')=>fzS fl r L' H'
  |none=>none
 |_::r,L,H=>fzS fl r L H
def aoe(T:TT)(t:Nat)(x:Option SV)(H:List Item):List SV:=match x with
 |some (.box j off)=>match H[j]? with
  |some (.box _ cells)=>match(cells.drop off).any SV.isOwn with
   |true=>match dl T t with
    |some i=>match i.ty.isSt with
     |true=>(cells.drop off).take i.ty.n
     |false=>[]
    |none=>[]
   |false=>[]
  |_=>[]
 |_=>[]
def fzB(T:TT)(fl:Nat)(o:Oper)(L:SL)(H:List Item):Option (SL×List Item):=match o.op with
 |.build _ parts=>pS fl (parts.toList.map (·.2)) L H
 |.load t x=>fzS fl (aoe T t (opS L x) H) L H
 |_=>some (L,H)
def HV:Operand->Operand->Bool
 |.tmp a,.tmp b=>Nat.beq a b
 |_,_=>false
def fe(T:TT)(H:List Item):List SV->List Nat->Option (List SV)
 |[],[]=>some []
 |s::l,t::ts=>match fe T H l ts with
  |some r=>match s with
   |.d t x=>some (.d t x::r)
   |.nil=>match dl T t with
    |some i=>match i.ty with
     |.sl e=>some (.d (.sl e) []::r)
     |_=>none
    |none=>none
   |.own j=>match H[j]? with
    |some (.row _ e xs)=>some (.d (.sl e) xs::r)
    |_=>none
   |.cut e xs=>some (.d (.sl e) xs::r)
   |.osl j sz lo n=>match H[j]? with
    |some (.row _ e xs)=>match Nat.beq sz e.n with
     |true=>some (.d (.sl e) ((xs.drop lo).take n)::r)
     |false=>none
    |_=>none
   |_=>none
  |none=>none
 |_,_=>none
def SV.noOwn:SV->Bool
 |.own _=>false
 |.osl _ _ _ _=>false
 |_=>true
def RV.flat:RV->Bool
 |.d t _=>t.flat
 |.new _ _ _=>false
def ya(rs:List RV):Bool:=match rs with
 |[.new _ e _]=>e.flat
 |rs=>rs.all RV.flat
def rvS:List RV->Option (List SV)
 |[]=>some []
 |.d t x::r=>match rvS r with
  |some l=>some (.d t x::l)
  |none=>none
 |.new _ e xs::r=>match rvS r with
  |some l=>some (.d (.sl e) xs::l)
  |none=>none
section
variable {R:Type}
def ph(H:List Item)(rs:List RV)(k:SV->List Item->Option R):Option R:=match rs with
 |[.new et e xs]=>k (.own H.length) (H++[.row et e xs])
 |[.d t x]=>k (.d t x) H
 |rs=>match rvS rs with
  |some l=>k (.tup l) H
  |none=>none
def rV:Nat->List SV->Bool
 |0,.own _::l=>l.all SV.noOwn
 |p+1,s::l=>s.noOwn&&rV p l
 |_,_=>false
def aaT(E:Env)(L:SL)(f:Nat)(args:List Operand):Option ((List SV)×((R:Type)->List SV->(List RV->Option R)->Option R)):=match lG E f with
 |some sp=>match sp.lent with
  |some (p,g)=>match yG L args with
   |some ss=>match rV p ss with
    |true=>some (ss,g)
    |false=>none
   |none=>none
  |none=>none
 |none=>none
def R9(T:TT)(E:Env)(fl:Nat)(L:SL)(H:List Item)(f:Nat)(args:List Operand)(tys:List Nat)(k:SV->List Item->SL->Option R):Option R:=
 match aaT E L f args with
 |some (ss,g)=>match fe T (H.map rdI) ss tys with
  |some al=>g R al λrs=>ph H rs λs H'=>k s H' L
  |none=>none
 |none=>match lG E f with
 |some sp=>match sp.keep with
  |true=>match yG L args with
   |some ss=>match fe T H ss tys with
    |some al=>sp.run R al λrs=>match ya rs with
     |true=>ph H rs λs H'=>k s H' L
     |false=>none
    |none=>none
   |none=>none
  |false=>match pS fl args L H with
   |some (L',H')=>match yG L' args with
    |some ss=>match fe T H' ss tys,ss.all SV.noOwn with
     |some al,true=>sp.run R al λrs=>ph H' rs λs H''=>k s H'' L'
     |_,_=>none
    |none=>none
   |none=>none
 |none=>none
def afu(H:List Item)(j:Nat):SV:=match H[j]? with
 |some (.box _ [.d (.int .i64) x])=>.elt (.int .i64) x 0
 |_=>.dead
def T6(T:TT)(E:Env)(L:SL)(H:List Item)(f:Nat)(caps:List Nat)(args:List Operand)(tys:List Nat)(k:SV->List Item->Option R):Option R:=match lG E f with
 |some sp=>match sp.keep,yG L args with
  |true,some ss=>match fe T H ss tys with
   |some al=>sp.run R (al++caps.map (afu H)) λrs=>match ya rs with
    |true=>ph H rs k
    |false=>none
   |none=>none
  |_,_=>none
 |none=>none
def vU(H:List Item):SV->Bool
 |.own j=>match H[j]? with
  |some (.row _ _ _)=>true
  |_=>false
 |_=>false
def P6(L:SL)(len:Nat):List (Nat×Operand)->Option Nat
 |[(0,x)]=>match Nat.beq len 1,opS L x with
  |true,some (.own j)=>some j
  |_,_=>none
 |_=>none
def jq{α:Type}(z:α)(lo n:Nat)(xs:List α):List α:=xs.take lo++List.replicate n z++xs.drop (lo+n)
def eop(T:TT)(E:Env)(fl:Nat)(L:SL)(H:List Item)(o:Oper)(k:SV->List Item->SL->Option R):Option R:=
 match o.op with
 |.box t x=>match opS L x with
  |some s=>match fH H s with
   |some cs=>k (.box H.length 0) (H++[.box t cs]) L
   |none=>none
  |none=>none
 |.alloc t=>match dl T t with
  |some i=>match i.z,i.ty with
   |_,.pair _ _=>none
   |true,ty=>k (.box H.length 0) (H++[.box t ty.zsplit]) L
   |_,_=>none
  |none=>none
 |.buildSlice t len parts=>match P6 L len parts.toList with
  |some j=>match H[j]?,dl T t with
   |some (.row _ _ _),some i=>match i.ty with
    |.sl (.sl _)=>k (.own H.length) (H++[.rws i.el [.own j]]) L
    |_=>none
   |_,_=>none
  |none=>match dl T t with
   |some i=>match i.ty with
    |.sl e=>match pS fl (parts.toList.map (·.2)) L H with
     |some (L',H')=>match rg H' L' (λq=>some (q*e.n,e.n)) (l9 (e.split e.zero) len) parts.toList with
      |some cs=>match Bq e len cs,Nat.ble (len*e.n) 16777216 with
       |some xs,true=>k (.own H'.length) (H'++[.row i.el e xs]) L'
       |_,_=>none
      |none=>none
     |none=>none
    |_=>none
   |none=>none
 |.makeSlice t x y=>match HV x y,opS L x,dl T t with
  |true,some (.d (.int _) n),some i=>match i.ty with
   |.sl (.sl _)=>match decide (0<=n/\n*i.byt<=140737488355328/\n<=140737488355328)with
    |true=>k (.own H.length) (H++[.rws i.el (List.replicate n.toNat .nil)]) L
    |false=>none
   |.sl e=>match decide (0<=n/\n*i.byt<=140737488355328/\n<=140737488355328)with
    |true=>k (.own H.length) (H++[.row i.el e (List.replicate n.toNat e.zero)]) L
    |false=>none
   |_=>none
  |false,some (.d (.int _) m),some i=>match opS L y,i.ty with
   |some (.d (.int _) n),.sl e=>match decide (m=0/\0<=n/\n*i.byt<=140737488355328/\n<=140737488355328)with
    |true=>k (.own H.length) (H++[.row i.el e []]) L
    |false=>none
   |_,_=>none
  |_,_,_=>none
 |.store t x v=>match opS L x,opS L v,dl T t with
  |some (.box j off),some s,some i=>match H[j]?,fH H s with
   |some (.box bt cells),some l=>match Nat.beq l.length i.ty.n&&Nat.ble (off+l.length) cells.length with
    |true=>k .undef (H.set j (.box bt (nT cells off l))) L
    |false=>none
   |_,_=>none
  |some (.oelt j sz m off),some (.d t' y),some i=>match true,H[j]? with
   |true,some (.row et e xs)=>match Nat.beq sz e.n&&Nat.beq t'.n i.ty.n,xs[m]? with
    |true,some x=>match t',e.upd x off t' y with
     |.pair _ _,_=>none
     |_,some x'=>k .undef (H.set j (.row et e (xs.set m x'))) L
     |_,none=>none
    |_,_=>none
   |_,_=>none
  |some (.oelt j sz m off),some s,some i=>match H[j]? with
   |some (.rws et cells)=>match Nat.beq sz 1&&Nat.beq off 0&&i.ty.isSl&&Nat.ble (m+1) cells.length,fH H s with
    |true,some [s']=>k .undef (H.set j (.rws et (cells.set m s'))) L
    |_,_=>none
   |_=>none
  |_,_,_=>none
 |.call ⟨.builtin .append,⟨[x,y]⟩,⟨[t,t']⟩⟩=>match Nat.beq t t',dl T t with
  |true,some i=>match i.ty with
   |.sl e=>match fe T (H.map rdI) ((opS L y).toList) [t]with
    |some [.d (.sl e') ys]=>match eU (.sl e') (.sl e) ys with
     |some ys=>match opS L x with
      |some (.own j)=>match Nat.ble fl j,H[j]? with
       |true,some (.row et e0 xs)=>match Nat.beq et i.el,eU (.sl e0) (.sl e) xs with
        |true,some xs=>match decide ((xs.length+ys.length)*i.byt<=140737488355328/\xs.length+ys.length<=140737488355328)with
         |true=>k (.own j) ((H.map (jM (ji j))).set j (.row i.el e (xs++ys))) (wx (ji j) L)
         |false=>none
        |_,_=>none
       |_,_=>none
      |some (.osl j sz lo n)=>match Nat.beq lo 0&&Nat.ble fl j,H[j]? with
       |true,some (.row et e0 xs)=>match Nat.beq sz e0.n&&Nat.beq et i.el,eU (.sl e0) (.sl e) xs with
        |true,some xs=>match decide (n<=xs.length/\((xs.take n).length+ys.length)*i.byt<=140737488355328/\(xs.take n).length+ys.length<=140737488355328)with
         |true=>k (.own j) ((H.map (jM (ji j))).set j (.row i.el e (xs.take n++ys))) (wx (ji j) L)
         |false=>none
        |_,_=>none
       |_,_=>none
      |some .nil=>match decide (ys.length*i.byt<=140737488355328/\ys.length<=140737488355328)with
       |true=>k (.own H.length) (H++[.row i.el e ys]) L
       |false=>none
      |some (.cut e0 xs)=>match eU (.sl e0) (.sl e) xs with
       |some xs=>match decide (xs≠[]/\ys≠[]/\(xs.length+ys.length)*i.byt<=140737488355328/\xs.length+ys.length<=140737488355328)with
        |true=>k (.own H.length) (H++[.row i.el e (xs++ys)]) L
        |false=>none
       |none=>none
      |_=>none
     |none=>none
    |_=>match opS L x,opS L y with
     |some (.own j),some (.own j2)=>match Nat.ble fl j,H[j]?,H[j2]? with
      |true,some (.rws et cs),some (.rws _ ys)=>match Nat.beq et i.el&&Nat.beq e.n 1&&ys.all (vU H),decide ((cs.length+ys.length)*i.byt<=140737488355328/\cs.length+ys.length<=140737488355328)with
       |true,true=>k (.own j) ((H.map (jM (ji j))).set j (.rws i.el ((cs++ys).map (ji j)))) (wx (ji j) L)
       |_,_=>none
      |_,_,_=>none
     |some .nil,some (.own j2)=>match H[j2]? with
      |some (.rws _ ys)=>match Nat.beq e.n 1&&ys.all (vU H),decide (ys.length*i.byt<=140737488355328/\ys.length<=140737488355328)with
       |true,true=>k (.own H.length) (H++[.rws i.el ys]) L
       |_,_=>none
      |_=>none
     |_,_=>none
   |_=>none
  |_,_=>none
 |.call ⟨.builtin .clear,⟨[x]⟩,⟨[t]⟩⟩=>match opS L x with
  |some (.osl j sz lo n)=>match H[j]? with
   |some (.row et e0 xs)=>match dl T t with
    |some i=>match Nat.beq sz e0.n&&Nat.beq et i.el with
     |true=>match i.ty with
      |.sl e=>match eU (.sl e0) (.sl e) xs with
       |some xs=>k (.tup []) (H.set j (.row et e (jq e.zero lo n xs))) L
       |none=>none
      |_=>none
     |false=>none
    |none=>none
   |_=>none
  |_=>none
 |.call ⟨.value f,args,tys⟩=>match opS L f with
  |some (.clo f [])=>match U4 E f with
   |some g=>match args.toList with
    |[x]=>match opS L x with
     |some (.own j)=>match Nat.ble fl j,H[j]? with
      |true,some (.row et (.int .i64) xs)=>match decide (xs.length<=140737488355328)with
       |true=>match g.ret with
        |false=>k (.tup []) (H.set j (.row et (.int .i64) (g.g xs))) L
        |true=>k (.own j) ((H.map (jM (ji j))).set j (.row et (.int .i64) (g.g xs))) (wx (ji j) L)
       |false=>none
      |_,_=>none
     |_=>none
    |_=>none
   |none=>R9 T E fl L H f args.toList tys.toList k
  |some (.clo f (j::cs))=>T6 T E L H f (j::cs) args.toList tys.toList λs H'=>k s H' L
  |_=>none
 |_=>none
end
def we(E:Env)(L:SL):Op->Bool
 |.call ⟨.value f,_,_⟩=>match opS L f with
  |some (.clo f [])=>(U4 E f).isSome
  |_=>false
 |_=>false
def alC(P:Program)(f:Nat)(g:List Int->List Int):Prop:=
 ∀(w:World) (base et:Nat) (v:Value) (xs:List Int),w.ownsRow base et 1 v xs.length (xs.map (Value.int .i64))->xs.length<=140737488355328->
  Calls P f #[v] w λe w'=>e=.returned (.tuple #[])/\w'.ownsRow base et 1 v xs.length ((g xs).map (Value.int .i64))/\(g xs).length=xs.length/\w.grownBy w' (bh v)
def am6(P:Program)(f:Nat)(g:List Int->List Int):Prop:=
 ∀(w:World) (base et:Nat) (v:Value) (xs:List Int),w.ownsRow base et 1 v xs.length (xs.map (Value.int .i64))->xs.length<=140737488355328->
  Calls P f #[v] w λe w'=>∃v',e=.returned v'/\w'.ownsRow base et 1 v' (g xs).length ((g xs).map (Value.int .i64))/\w.grownBy w' (bh v)/\bh v'=bh v
def ai0(P:Program)(f t:Nat):Prop:=
 ∀(w:World) (c:Nat) (b ok:Bool) (x y:Int),inv w->Blk w c t #[.bool b]->
  Calls P f #[.pointer (S' ⟨c,0,N'⟩),.agg #[.int .i64 x,.int .i64 y],.bool ok] w λe w'=>e=.returned (.agg #[.int .i64 x,.int .i64 y])/\Blk w' c t #[.bool (b&&ok)]/\w.grownBy w' (S' c)
def M1(P:Program)(f:Nat)(m:agO):Prop:=match m.bx with
 |some t=>ai0 P f t
 |none=>match m.ret with
  |false=>alC P f m.g
  |true=>am6 P f m.g
def rn(A:Nat->Prop)(base:Nat)(w:World)(rs:List RV)(v:Value):Prop:=match rs with
 |[.new et e xs]=>∃css,w.ownsRow base et e.n v xs.length (List.flatten css)/\bJ (λl y=>e.rd (λb=>A b/\bh v≠some b) w l y) css xs/\0<e.n
 |[.d t x]=>Rel1 [] A w (.d t x) v
 |rs=>∃vs:List Value,v=.tuple vs.toArray/\∃l,rvS rs=some l/\bJ (Rel1 [] A w) l vs
def Con(P:Program)(f:Nat)(args:List SV)(rs:List RV):Prop:=
 ∀(A:Nat->Prop) (w:World) (vs:List Value),inv w->bJ (Rel1 [] A w) args vs->Calls P f vs.toArray w λe w'=>∃v,e=.returned v/\Below w.heap.size w w'/\rn (λb=>A b\/w.heap.size<=b) w.heap.size w' rs v
def Kz(A:Nat->Prop)(w:World)(s:SV)(v:Value):Prop:=∃(e:Ty) (xs:List e.D) (et:TypeId) (css:List (List Value)),s=.d (.sl e) xs/\w.ownsRow 0 et e.n v xs.length (List.flatten css)/\bJ (λl y=>e.rd A w l y) css xs/\0<e.n/\∀b,bh v=S' b->¬A b
def XJ(A:Nat->Prop)(w:World):Nat->List SV->List Value->Prop
 |0,s::l,v::vs=>Kz A w s v/\bJ (Rel1 [] A w) l vs
 |p+1,s::l,v::vs=>Rel1 [] A w s v/\XJ A w p l vs
 |_,_,_=>False
def Iq(P:Program)(f p:Nat)(args:List SV)(rs:List RV):Prop:=
 ∀(A:Nat->Prop) (w:World) (vs:List Value),inv w->XJ A w p args vs->Calls P f vs.toArray w λe w'=>∃v,e=.returned v/\Below w.heap.size w w'/\rn (λb=>A b\/w.heap.size<=b) w.heap.size w' rs v
def DQ(P:Program)(f:Nat)(sp:cE):Prop:=∀p g,sp.lent=S' (p,g)->∀(R:Type) args (k:List RV->Option R) r,g R args k=S' r->∃rs,k rs=S' r/\Iq P f p args rs
def CK(P:Program)(f:Nat)(sp:cE):Prop:=∀(R:Type) args (k:List RV->Option R) r,sp.run R args k=S' r->∃rs,k rs=S' r/\Con P f args rs
def cQ(P:Program)(g:Nat):Bool:=match P.funcs[g]? with
 | some fn => !(fn.name == "runtime.NumGoroutine") && fn.body.isSome
 |none=>false
def kY(P:Program)(E:Env):Prop:=∀f sp,lG E f=S' sp->cQ P f=T'/\CK P f sp/\(∀g,sp.mut_=S' g->M1 P f g)/\DQ P f sp
end
end Go.Proofs.YtoimchcjhdcdmaaGreat
end
