/- The pure machine's quiet operations are the machine's. -/
import Derived.Test.YtoimchcjhdcdmaaGreatP1
import Derived.Lib.LazyBuf
noncomputable section
namespace Go.Proofs.YtoimchcjhdcdmaaGreat
open Go.RowKit Go.IntKind
open Bool renaming true->T',false->F'
open Option renaming some->S',none->N'
theorem anP:type_of% @of_decide_eq_true:=@of_decide_eq_true
theorem an8:type_of% @List.length_cons:=@List.length_cons
theorem aoa:type_of% @List.all_eq_true:=@List.all_eq_true
theorem aob:type_of% @List.getElem?_append_left:=@List.getElem?_append_left
theorem aoi:type_of% @List.append_nil:=@List.append_nil
theorem aok:type_of% @List.getElem?_append_right:=@List.getElem?_append_right
theorem aoq:type_of% @List.length_append:=@List.length_append
theorem aoF:type_of% @of_decide_eq_false:=@of_decide_eq_false
theorem aoG:type_of% @Nat.eq_zero_or_pos:=@Nat.eq_zero_or_pos
theorem aoI:type_of% @List.take_of_length_le:=@List.take_of_length_le
theorem aoT:type_of% @List.flatten_cons:=@List.flatten_cons
theorem aoU:type_of% @List.getElem?_set:=@List.getElem?_set
theorem ao3:type_of% @List.mem_of_mem_take:=@List.mem_of_mem_take
theorem ao7:type_of% @Option.map_some:=@Option.map_some
theorem ao9:type_of% @List.eq_nil_of_length_eq_zero:=@List.eq_nil_of_length_eq_zero
theorem apd:type_of% @List.getElem?_eq_none:=@List.getElem?_eq_none
theorem apl:type_of% @List.getElem?_drop:=@List.getElem?_drop
theorem apm:type_of% @List.getElem?_take:=@List.getElem?_take
theorem apn:type_of% @List.length_map:=@List.length_map
theorem apq:type_of% @List.mem_of_mem_drop:=@List.mem_of_mem_drop
theorem apz:type_of% @Nat.succ_mul:=@Nat.succ_mul
theorem apM:type_of% @Nat.add_assoc:=@Nat.add_assoc
theorem ap6:type_of% @List.foldl_cons:=@List.foldl_cons
theorem aql:type_of% @Bool.false_eq_true:=@Bool.false_eq_true
theorem aqm:type_of% @Nat.pos_of_ne_zero:=@Nat.pos_of_ne_zero
theorem aqp:type_of% @Nat.add_zero:=@Nat.add_zero
theorem aqq:type_of% @List.headD_cons:=@List.headD_cons
theorem aqN:type_of% @Nat.zero_mul:=@Nat.zero_mul
section
structure FR (Z:Nat->Prop) (n:Nat) (L:SL) (H:List Item) (G:List Value) (w:World) (a:Act):Prop where
 defers:a.defers=[]
 size:a.tmps.size=n
 slot:∀t s,aJ L t=S' s->∃v,a.tmps[t]?=S' v/\Rel G (Av Z H G) w s v
def gg(H:List Item)(G:List Value)(b:Nat):Prop:=∃(j:Nat) (it:Item) (g:Value),H[j]?=S' it/\it.isRw=T'/\G[j]?=S' g/\a9 g=S' b
def Agr(rw:Bool)(H:List Item)(G:List Value)(w w':World):Prop:=w.heap.size<=w'.heap.size/\∀b,b<w.heap.size->(rw=T'\/¬gg H G b)->w'.heap[b]?=w.heap[b]?
theorem Agr.refl{rw:Bool}{H:List Item}{G:List Value}{w:World}:Agr rw H G w w:=⟨anT _,λ_ _ _=>rfl⟩
theorem dN{G:List Value}{A:Nat->Prop}{w:World}{s:SV}{v:Value}(h:Rel1 G A w s v):Rel G A w s v:=by cases s<;>first|exact h|exact h.elim
theorem oA{G:List Value}{A:Nat->Prop}{w:World}{s:SV}{v:Value}(h:Rel G A w s v)(hg:∀l,s≠.tup l):Rel1 G A w s v:=by cases s<;>first|exact h|exact(hg _ rfl).elim
section
variable {G:List Value} {A:Nat->Prop} {w:World}
theorem v8{v:Value}{s:SV}(h:oJ v=S' s):Rel1 G A w s v:=by
 unfold oJ at h;split at h<;>first|(injection h with h;subst h;exact⟨[_],rfl,rfl⟩)|cases h
theorem I9{v:Value}{s:SV}(h:oJ v=S' s):∃t x,s=.d t x/\t.isSt=F'/\t.n=1:=by
 unfold oJ at h;split at h<;>first|(injection h with h;subst h;exact⟨_,_,rfl,rfl,rfl⟩)|cases h
theorem EQ{v:Value}{t:Ty}{x:t.D}(h:oJ v=S' (.d t x)):t.rd A w [v] x:=by
 obtain⟨t',x',e,h1,h2⟩:=I9 h;injection e with e1 e2;subst e1;exact Fx h1 h2 (v8 (G:=[]) h)
theorem BD:∀{l:List Value} {t:Ty} {x:t.D},v7 l=S' ⟨t,x⟩->t.rd A w l x
 |[],t,x,h=>by simp[v7]at h
 |[v],t,x,h=>by
  simp only[v7]at h;split at h
  ·rename_i t' x' hv;injection h with h;cases h;exact EQ hv
  ·cases h
 |v::u::l,t,x,h=>by
  simp only[v7]at h;split at h
  ·rename_i t1 x1 t2 x2 h1 h2;injection h with h;cases h;exact⟨[v],u::l,rfl,EQ h1,BD h2⟩
  ·cases h
theorem Hx{v:Value}{s:SV}(h:II v=S' s):Rel1 G A w s v:=by
 unfold II at h;split at h
 ·injection h with h;subst h;rfl
 ·split at h
  ·rename_i cs t x hc;injection h with h;subst h;refine⟨_,BD (t:=t) hc,?_⟩;rfl
  grind
 grind [v8]
end
section
variable {Z:Nat->Prop} {w0:World} {n:Nat} {L:SL} {H:List Item} {G:List Value} {w:World} {a:Act}
theorem aF(hf:FR Z n L H G w a){x:Operand}{s:SV}(h:opS L x=S' s):Rel G (Av Z H G) w s (a.eval x):=by
 cases x with
 |tmp t=>
  obtain⟨v,h1,h2⟩:=hf.slot t s h;simp_all [Act.eval]
 |const v=>exact dN (Hx h)
 |global g=>simp[opS]at h
 |func f=>simp only[opS,anW]at h;subst h;exact⟨[],trivial,rfl⟩
theorem val?_rel{s:SV}{v u:Value}{A:Nat->Prop}(h:Rel G A w s u)(hv:val? s=S' v):u=v:=by
 unfold val? at hv;split at hv
 ·split at hv
  ·obtain⟨cs,h1,h2⟩:=h;grind [qQ]
  grind
 grind
theorem SW(hf:FR Z n L H G w a){x:Operand}(h:(match opS L x with|S' s=>(val? s).isSome|N'=>F')=T'):a.eval x=opV L x:=by
 unfold opV;cases hs:opS L x with
 |none=>rw[hs]at h;cases h
 |some s=>
  rw[hs]at h;dsimp only at h ⊢;obtain⟨v,hv⟩:=aoB.1 h;rw[hv];exact val?_rel (aF hf hs) hv
theorem MT(hf:FR Z n L H G w a){o:Oper}(h:DI L o.op=T'):execOp a.eval o=execOp (opV L) o:=by
 simp only[DI,anS]at h;refine execOp_congr o (λcs b e=>?_) (λx hx=>SW hf (aoa.1 h.1 x (by simpa using hx)));grind
theorem Ct{P:Program}{R:Type}{o:Oper}{k:SV->Option R}{r:R}(hf:FR Z n L H G w a)(h:mj P L o k=S' r):
  ∃s v,k s=S' r/\Rel1 G (Av Z H G) w s v/\∀w',(execOp a.eval o).run P w'=.ok (.value v) w':=by
 unfold mj at h;split at h
 ·cases h
 ·rename_i hfl;rw[MT hf hfl]
  have gen:(match evT P (execOp (opV L) o) []with
    |some (.value v,[])=>match oJ v with|some s=>k s|none=>none
    |_=>none)=some r->∃s v,k s=some r/\Rel1 G (Av Z H G) w s v/\∀w',(execOp (opV L) o).run P w'=.ok (.value v) w':=by
   intro h;split at h
   ·rename_i v he;split at h
    ·rename_i s hs;exact⟨s,v,h,v8 hs,λw'=>Lp _ _ _ _ he trivial⟩
    ·cases h
   ·cases h
  obtain⟨dst,op,type,pos,after,guard⟩:=o;dsimp only at h;split at h;case h_7=>exact gen h
  ·rename_i t x y yt;split at h<;>try (cases h;done)
   all_goals
    rename_i p q hp hq;split at h<;>try (cases h;done)
    rename_i hb;have hb:=aoF hb;refine⟨_,_,h,⟨[_],rfl,rfl⟩,λw'=>?_⟩;simp[execOp,hp,hq,eqGuard,binOp,Op.intDiv,hb,mkV,Ty.isSt]
  ·rename_i t x y yt;split at h<;>try (cases h;done)
   all_goals
    rename_i p q hp hq;split at h<;>try (cases h;done)
    rename_i hb;have hb:=aoF hb;refine⟨_,_,h,⟨[_],rfl,rfl⟩,λw'=>?_⟩;simp[execOp,hp,hq,eqGuard,binOp,Op.intDiv,hb,mkV,Ty.isSt]
  ·rename_i t x y yt;split at h<;>try (cases h;done)
   rename_i kd p kd' q hp hq;split at h<;>try (cases h;done)
   rename_i hb;have hb:=aoF hb;refine⟨_,_,h,⟨[_],rfl,rfl⟩,λw'=>?_⟩;simp[execOp,hp,hq,eqGuard,binOp,Op.shift,hb,mkV,Ty.isSt]
  ·rename_i t x y yt;split at h<;>try (cases h;done)
   rename_i kd p kd' q hp hq;split at h<;>try (cases h;done)
   rename_i hb;have hb:=aoF hb;refine⟨_,_,h,⟨[_],rfl,rfl⟩,λw'=>?_⟩;simp[execOp,hp,hq,eqGuard,binOp,Op.shift,hb,mkV,Ty.isSt]
  ·rename_i t x y yt;split at h
   ·rename_i xs ys hx hy;split at h<;>try (cases h;done)
    rename_i rr hg hr;refine⟨_,_,h,⟨[_],rfl,rfl⟩,λw'=>?_⟩;simp only[execOp,hx,hy,aoM,run_eqGuard_agg w' .eql t x y xs ys hg,aoh,run_eql_struct,tD _ _ _ _ _ w' hr,apb];rfl
   ·exact gen h
  ·rename_i t x y yt;split at h
   ·rename_i xs ys hx hy;split at h<;>try (cases h;done)
    rename_i rr hg hr;refine⟨_,_,h,⟨[_],rfl,rfl⟩,λw'=>?_⟩;simp only[execOp,hx,hy,aoM,run_eqGuard_agg w' .neq t x y xs ys hg,aoh,run_neq_struct,tD _ _ _ _ _ w' hr,apb];rfl
   ·exact gen h
end
end
section
theorem jN{P:Program}(w:World)(b o:Nat)(ty:TypeId)(v:Value)(d:TypeDesc)(hc:w.cell? ⟨b,o,N'⟩=S' v)(hu:P.underlying ty=S' d)(hd:d.isRow=F'):
  (Instr.loadAt ty (.pointer (S' ⟨b,o,N'⟩))).run P w=.ok v w:=by
 have hagg:(isAgg ty).run P w=.ok F' w:=by
  unfold isAgg;rw[aoM,aol hu w];cases d<;>simp_all
 have hl:(load ⟨b,o,N'⟩).run P w=.ok v w:=by simp only[load,Sem.run,hc]
 simp only[Instr.loadAt,Instr.sureAddr,loadVar,aoM,apb,aoh,hagg,aql,if_false];omega
theorem mu{P:Program}{t:Nat}{i:TI}(hc:chk P t i=T')(w:World)(b o:Nat)(cs:List Value)(hl:cs.length=i.ty.n)(hn:i.ty.isSt=F'->i.ty.n=1)(hcs:jb w b o cs):
  (Instr.loadAt t (.pointer (S' ⟨b,o,N'⟩))).run P w=.ok (mkV i.ty cs) w:=by
 obtain⟨d,h1,h2⟩:=uL hc;have hsz:=sS hc;cases hst:i.ty.isSt with
 |true=>
  rw[hst]at h2;rw[run_loadAt_mid w b o t cs d hcs h1 h2 (by rw[hsz,hl])];grind [mkV]
 |false=>
  rw[hst]at h2;have hl1:=hn hst;match cs,hl with
  |[v],_=>rw[jN w b o t v d (by simpa using hcs 0 v rfl) h1 h2];simp[mkV,hst]
  |[],hl=>rw[hl1]at hl;simp at hl
  |_::_::_,hl=>rw[hl1]at hl;simp at hl
theorem Mr{P:Program}{s f:Nat}{fs:Array Field}{fl:Field}{i:TI}(hs:P.underlying s=S' (.struct fs))(hf:fs[f]?=S' fl)(hc:chk P fl.type i=T')(w:World)(cs:List Value)(hl:((cs.drop fl.offset).take i.ty.n).length=i.ty.n)(hn:i.ty.isSt=F'->i.ty.n=1):
  (Instr.field s (.agg cs.toArray) f).run P w=.ok (mkV i.ty ((cs.drop fl.offset).take i.ty.n)) w:=by
 obtain⟨d,h1,h2⟩:=uL hc;have hsz:=sS hc;cases hi:P.info? fl.type with
 |none=>rw[hi]at hsz;cases hsz
 |some inf=>
  have hs2:inf.size=i.ty.n:=by rw[hi]at hsz;simpa using hsz
  cases hst:i.ty.isSt with
  |true=>
   rw[hst]at h2
   have hx:cs.toArray.extract fl.offset (fl.offset+inf.size)=((cs.drop fl.offset).take i.ty.n).toArray:=by
    rw[hs2];simp[List.take_drop]
   cases d<;>simp[TypeDesc.isRow]at h2<;>simp[Instr.field,aol hs,hf,asAgg,part,isAgg,aol h1,sizeOf,typeInfo,hi,hs2,mkV,hst]
  |false=>
   rw[hst]at h2;have h0:=hn hst
   have hg:cs[fl.offset]?=S' (((cs.drop fl.offset).take i.ty.n).headD undef)/\(cs.drop fl.offset).take i.ty.n=[((cs.drop fl.offset).take i.ty.n).headD undef]:=by
    rw[h0]at hl ⊢;cases hd:cs.drop fl.offset with
    |nil=>rw[hd]at hl;simp at hl
    |cons v r=>
     have:(cs.drop fl.offset)[0]?=S' v:=by rw[hd];rfl
     rw[apl]at this;simpa using this
   cases d<;>simp[TypeDesc.isRow]at h2<;>(rw[hg.2];simp[Instr.field,aol hs,hf,asAgg,part,isAgg,aol h1,hg.1,mkV,hst])
theorem Ml{P:Program}{t len et:Nat}{i:TI}{n:Int}{kd:IntKind}{q:Nat}(hq:n.toNat*i.ty.n=q)(hs:P.underlying t=S' (.array len et))(hc:chk P et i=T')(h0':0<=n/\n<(len:Int))(w:World)(cs:List Value)(hl:((cs.drop q).take i.ty.n).length=i.ty.n)(hn:i.ty.isSt=F'->i.ty.n=1):
  (Instr.index t (.agg cs.toArray) (.int kd n)).run P w=.ok (mkV i.ty ((cs.drop q).take i.ty.n)) w:=by
 obtain⟨d,h1,h2⟩:=uL hc;have hsz:=sS hc;cases hi:P.info? et with
 |none=>rw[hi]at hsz;cases hsz
 |some inf=>
  have hs2:inf.size=i.ty.n:=by rw[hi]at hsz;simpa using hsz
  cases hst:i.ty.isSt with
  |true=>
   rw[hst]at h2
   have hx:cs.toArray.extract q (q+inf.size)=((cs.drop q).take i.ty.n).toArray:=by
    rw[hs2];simp[List.take_drop]
   cases d<;>simp[TypeDesc.isRow]at h2<;>simp[Instr.index,asIntOf,aol hs,h0'.1,h0'.2,part,isAgg,aol h1,sizeOf,typeInfo,hi,hs2,hq,mkV,hst]
  |false=>
   rw[hst]at h2;have h0:=hn hst
   have hg:cs[q]?=S' (((cs.drop q).take i.ty.n).headD undef)/\(cs.drop q).take i.ty.n=[((cs.drop q).take i.ty.n).headD undef]:=by
    rw[h0]at hl ⊢;cases hd:cs.drop q with
    |nil=>rw[hd]at hl;simp at hl
    |cons v r=>
     have:(cs.drop q)[0]?=S' v:=by rw[hd];rfl
     rw[apl]at this;simpa using this
   cases d<;>simp[TypeDesc.isRow]at h2<;>(rw[hg.2];simp[Instr.index,asIntOf,aol hs,h0'.1,h0'.2,part,isAgg,aol h1,hg.1,mkV,hst,sizeOf,typeInfo,hi,hs2,hq])
theorem pT{P:Program}{t f:Nat}{i:TI}{p:Nat×Nat}(hc:chk P t i=T')(hp:i.pl[f]?=S' p)(w:World)(b o:Nat):
  (Instr.fieldAt t (.pointer (S' ⟨b,o,N'⟩)) f).run P w=.ok (.pointer (S' ⟨b,o+p.1,N'⟩)) w:=by
 obtain⟨fs,fl,inf,h1,h2,h3,h4,h5⟩:=MQ hc hp;simp[Instr.fieldAt,aol h1,h2,Instr.sureAddr,fieldPlace,sizeOf,typeInfo,h4,h5,c7,h3]
theorem lW{sz:Nat}:∀{css:List (List Value)} {n i:Nat} {l:List Value} {v:Value},(∀l∈css,l.length=sz)->css[n]?=S' l->l[i]?=S' v->css.flatten[n*sz+i]?=S' v
 |[],_,_,_,_,_,h,_=>by simp at h
 |c::css,0,i,l,v,hl,h,hv=>by
  simp at h;subst h;rw[aoT,aqN,an2,aob (anX.1 hv).1];exact hv
 |c::css,n+1,i,l,v,hl,h,hv=>by
  have hc:c.length=sz:=hl c (by simp);rw[aoT,aok (by rw[hc,apz];omega),hc,show(n+1)*sz+i-sz=n*sz+i by rw[apz];omega];exact lW (λl hm=>hl l (by simp[hm])) (by simpa using h) hv
theorem fv{A:Nat->Prop}{w:World}{e:Ty}:∀{css:List (List Value)} {xs:List e.D},bJ (λl y=>e.rd A w l y) css xs->∀l∈css,l.length=e.n
 |[],[],_,l,h=>by simp at h
 |c::css,x::xs,⟨h1,h2⟩,l,h=>by
  rcases an6.1 h with rfl|h
  ·exact Ty.rd_len h1
  ·exact fv h2 l h
theorem gI{sz:Nat}:∀{css:List (List Value)},(∀l∈css,l.length=sz)->css.flatten.length=css.length*sz
 |[],_=>by simp
 |c::css,h=>by rw[aoT,aoq,gI (λl hm=>h l (by simp[hm])),h c (by simp),an8,apz];omega
theorem eI{sz:Nat}:∀{css:List (List Value)} (n:Nat),(∀l∈css,l.length=sz)->(css.take n).flatten=css.flatten.take (n*sz)
 |[],n,_=>by simp
 |c::css,0,_=>by simp
 |c::css,n+1,h=>by
  have hc:=h c (by simp);rw[List.take_succ_cons,aoT,eI n (λl hm=>h l (by simp[hm])),aoT,List.take_append,hc,aoI (l:=c) (by rw[hc,apz];omega),show(n+1)*sz-sz=n*sz by rw[apz];omega]
theorem fU{sz:Nat}:∀{css:List (List Value)} (n:Nat),(∀l∈css,l.length=sz)->(css.drop n).flatten=css.flatten.drop (n*sz)
 |[],n,_=>by simp
 |c::css,0,_=>by simp
 |c::css,n+1,h=>by
  have hc:=h c (by simp);rw[List.drop_succ_cons,aoT,fU n (λl hm=>h l (by simp[hm])),List.drop_append,hc,(aou (by rw[hc,apz];omega):c.drop ((n+1)*sz)=[]),apO,show(n+1)*sz-sz=n*sz by rw[apz];omega]
section
variable {Z:Nat->Prop} {w0:World} {n:Nat} {L:SL} {H:List Item} {G:List Value} {w:World} {a:Act} {P:Program} {T:TT}
theorem Agr.pure{rw:Bool}{w':World}(ha:Agr rw H G w w'){b:Nat}(hb:b<w.heap.size)(hA:Av Z H G b):w'.heap[b]?=w.heap[b]?:=
 ha.2 b hb (.inr λ⟨j,_it,g,h1,hw,h2,h3⟩=>hA.2 j _ g h1 (sU hw) h2 h3)
theorem Agr.box{rw:Bool}{w':World}(ha:Agr rw H G w w')(hr:SR Z w0 H G w){j b:Nat}{t:TypeId}{cs:List SV}{g:Value}(hj:H[j]?=S' (.box t cs))(hg:G[j]?=S' g)(hb:a9 g=S' b):w'.heap[b]?=w.heap[b]?:=
 ha.2 b ((hr.items j _ g hj hg).blk rfl hb).2 (.inr λ⟨i,it,h,h1,hw,h2,h3⟩=>by
  by_cases hij:i=j
  ·subst hij;rw[hj]at h1;cases h1;cases hw
  ·exact hr.disj i j _ _ h g b hij h1 hj (sU hw) rfl h2 hg h3 hb)
theorem oh{w':World}{b o:Nat}{cs:List Value}(h:w'.heap[b]?=w.heap[b]?)(hc:jb w b o cs):jb w' b o cs:=λi v hv=>(World.cell?_of_block (a:=⟨b,o+i,N'⟩) h).trans (hc i v hv)
theorem Mv{base et:Nat}{e:Ty}{g:Value}{m b c N:Nat}{css:List (List Value)}{l:List Value}{A:Nat->Prop}{xs:List e.D}(ho:w.ownsRow base et e.n g m css.flatten)(hg:g=.slice (S' ⟨b,0,N'⟩) N c)(ha:bJ (λl y=>e.rd A w l y) css xs){k:Nat}(hk:css[k]?=S' l):jb w b (k*e.n) l:=by
 intro i v hv;have hf:=lW (fv ha) hk hv;rcases ho.2 with⟨rfl,_⟩|⟨g',cap,cur,rfl,h1,h2,h3,h4,h5,h6⟩
 ·grind
 ·injection hg with hg;injection hg with hg;injection hg with hg;subst hg;rw[cell_of_row w _ _ cur et (0,0) h2];grind
theorem JR{e t:Ty}{x:e.D}{off:Nat}{y:t.D}:e.sub x off t=S' y->t.isSt=F'->t.n=1:=by
 have lf:∀{e:Ty} {x:e.D} {off:Nat},e.n=1->(match Nat.beq off 0 with|T'=>fa e t x|F'=>N')=S' y->t.n=1:=by
  intro e x off hn h;split at h
  ·obtain⟨rfl,_⟩:=cY h;exact hn
  ·cases h
 induction e generalizing off with
 |int k=>exact λh _=>lf rfl h
 |bool=>exact λh _=>lf rfl h
 |str=>exact λh _=>lf rfl h
 |sl e=>exact λh _=>lf rfl h
 |st a ih=>
  intro h hs;simp only[Ty.sub]at h;split at h
  ·grind [cY,Ty.isSt]
  ·exact ih h hs
 |pair a b iha ihb=>
  grind [Ty.sub]
theorem FH(hr:SR Z w0 H G w){rw:Bool}{t:Nat}{i:TI}(hc:chk P t i=T'){j off:Nat}{bt:TypeId}{cells:List SV}{p:Value}{s:SV}(hp:Rel G (Av Z H G) w (.box j off) p)(hj:H[j]?=S' (.box bt cells))(hl:JS i.ty (cells.drop off)=S' s):
  ∃v,Rel1 G (Av Z H G) w s v/\∀w',Agr rw H G w w'->(Instr.loadAt t p).run P w'=.ok v w':=by
 obtain⟨b,hg,rfl⟩:=hp;obtain⟨b',vs,e1,hb,hblk,hrel⟩:=hr.items j _ _ hj hg;injection e1 with e1;injection e1 with e1;injection e1 with e1;subst e1
 have hcell:∀(cs:List Value),(∃r,vs.drop off=cs++r)->jb w b off cs:=by
  rintro cs ⟨r,hcs⟩ k v hv
  refine hblk.cell _ ?_;have:(vs.drop off)[k]?=S' v:=by rw[hcs,aob (anX.1 hv).1];exact hv
  grind
 have hd:=iQ off hrel;unfold JS at hl;split at hl
 ·rename_i hst;split at hl
  ·rename_i x r hjn;injection hl with hl;subst hl;obtain⟨v1,v2,h1,h2,_⟩:=qE hjn hd;refine⟨mkV i.ty v1,⟨v1,h2,rfl⟩,λw' ha=>?_⟩;exact mu hc w' b off v1 (Ty.rd_len h2) (λh=>by rw[hst]at h;cases h) (oh (ha.box hr hj hg rfl) (hcell v1 ⟨v2,h1⟩))
  ·cases hl
 ·rename_i hst;split at hl
  ·rename_i s' r hdr;split at hl<;>try (cases hl;done)
   rename_i hgood;injection hl with hl;subst hl;rw[hdr]at hd;match hv:vs.drop off,hd with
   |v::vr,hd=>
    obtain⟨h1,_⟩:=hd;obtain⟨d,hu,hrow⟩:=uL hc;refine⟨v,h1,λw' ha=>?_⟩;refine jN w' b off t v d ?_ hu (by rw[hrow,hst]);have:=oh (ha.box hr hj hg rfl) (hcell [v] ⟨vr,hv⟩) 0 v rfl;simpa using this
  ·cases hl
theorem Pr{rw:Bool}{t:Nat}{i:TI}(hc:chk P t i=T'){e:Ty}{x:e.D}{off:Nat}{p:Value}{y:i.ty.D}(hp:Rel G (Av Z H G) w (.elt e x off) p)(hs:e.sub x off i.ty=S' y):
  ∃v,Rel1 G (Av Z H G) w (.d i.ty y) v/\∀w',Agr rw H G w w'->(Instr.loadAt t p).run P w'=.ok v w':=by
 obtain⟨b,o,cs,rfl,hA,hb,hrd,hcs⟩:=hp;have h1:=CK hrd hs;refine⟨mkV i.ty _,⟨_,h1,rfl⟩,λw' ha=>?_⟩;refine mu hc w' b (o+off) _ (Ty.rd_len h1) (JR hs) (oh (ha.pure hb hA) λk v hv=>?_);rw[apm]at hv;split at hv
 ·rw[apl]at hv;have:=hcs _ _ hv;grind
 grind
theorem MG(hr:SR Z w0 H G w){t:Nat}{i:TI}(hc:chk P t i=T'){j k off:Nat}{et:TypeId}{e:Ty}{xs:List e.D}{x:e.D}{p:Value}{y:i.ty.D}(hp:Rel G (Av Z H G) w (.oelt j e.n k off) p)(hj:(H.map rdI)[j]?=S' (.row et e xs))(hx:xs[k]?=S' x)(hs:e.sub x off i.ty=S' y):
  ∃v,Rel1 G (Av Z H G) w (.d i.ty y) v/\∀w',Agr T' H G w w'->(Instr.loadAt t p).run P w'=.ok v w':=by
 obtain⟨b,m,c,hg,rfl⟩:=hp;obtain⟨css,_,ho,ha2,_⟩:=hr.read hj hg;obtain⟨l,hl,hrd⟩:=pi ha2 k x hx;have h1:=CK hrd hs;refine⟨mkV i.ty _,⟨_,h1,rfl⟩,λw' ha=>?_⟩;have hb:=(hr.rblk hj hg rfl).1;refine mu hc w' b (k*e.n+off) _ (Ty.rd_len h1) (JR hs) (oh (ha.2 b hb (.inl rfl)) λq v hv=>?_);rw[apm]at hv;split at hv
 ·rw[apl]at hv;have:=Mv ho rfl ha2 hl _ _ hv;grind
 grind
theorem D9(hr:SR Z w0 H G w){j:Nat}{et:TypeId}{cells:List SV}{g:Value}(hj:(H.map rdI)[j]?=S' (.rws et cells))(hg:G[j]?=S' g):H[j]?=S' (.rws et cells)/\∃vs:List Value,w.ownsRow w0.heap.size et 1 g cells.length vs/\bJ (Rel1 G (Av Z H G) w) cells vs:=by
 rw[aoQ]at hj;cases hh:H[j]? with
 |none=>rw[hh]at hj;cases hj
 |some it=>
  rw[hh]at hj;cases it<;>first|(cases hj;done)|skip
  rename_i t cs;injection hj with hj;injection hj with h1 h2;subst h1 h2;exact⟨rfl,hr.items j _ g hh hg⟩
theorem QS(hr:SR Z w0 H G w){t:Nat}{i:TI}(hc:chk P t i=T'){j k:Nat}{et:TypeId}{cells:List SV}{p:Value}{s:SV}(hp:Rel G (Av Z H G) w (.oelt j 1 k 0) p)(hj:(H.map rdI)[j]?=S' (.rws et cells))(hs:cells[k]?=S' s)(hsl:i.ty.isSl=T'):
  ∃v,Rel1 G (Av Z H G) w s v/\∀w',Agr T' H G w w'->(Instr.loadAt t p).run P w'=.ok v w':=by
 obtain⟨b,m,c,hg,rfl⟩:=hp;obtain⟨hj,vs,ho,hrel⟩:=D9 hr hj hg;obtain⟨v,hv,hsv⟩:=fQ hrel k s hs;have hst:i.ty.isSt=false:=by cases h:i.ty<;>rw[h]at hsl<;>first|rfl|cases hsl
 obtain⟨d,hu,hrow⟩:=uL hc;refine⟨v,hsv,λw' ha=>?_⟩;rcases ho.2 with⟨e1,_⟩|⟨b',cap,cur,e1,h1,h2,h3,h4,h5,h6⟩
 ·cases e1
 ·injection e1 with e1;injection e1 with e1;injection e1 with e1;subst e1;have hb:b<w.heap.size:=(an7.1 h2).1;have hk:(cur.toList.take (cells.length*1))[k]?=some v:=by rw[h6];exact hv
  rw[apm]at hk;split at hk
  ·refine jN w' b _ t v d ((World.cell?_of_block (a:=⟨b,k*1+0,N'⟩) (ha.2 b hb (.inl rfl))).trans ?_) hu (by rw[hrow,hst]);rw[cell_of_row w _ _ cur et (0,0) h2];simpa using hk
  ·cases hk
theorem ii{t:Nat}{i:TI}{e:Ty}(hc:chk P t i=T')(ht:i.ty=.sl e)(w:World)(b off len c:Nat)(kd:IntKind)(m:Int)(h0:0<=m)(h1:m<len):
  (Instr.indexAt t (.slice (S' ⟨b,off,N'⟩) len c) (.int kd m)).run P w=.ok (.pointer (S' ⟨b,off+m.toNat*e.n,N'⟩)) w:=by
 obtain⟨hu,_,j,hj,hjs,_⟩:=c8 hc ht;simp[Instr.indexAt,asIntOf,aol hu,sizeOf,typeInfo,hj,h0,h1,c7,hjs]
theorem vz{α:Type}{xs:List α}{m:Int}{y:α}(h:aH xs m=S' y):0<=m/\m<xs.length/\xs[m.toNat]?=S' y:=by grind [aH]
theorem Rm{t:Nat}{i:TI}{e:Ty}(hc:chk P t i=T')(ht:i.ty=.sl e){xs:List e.D}{m:Int}{y:e.D}{p:Value}{kd:IntKind}(hp:Rel G (Av Z H G) w (.d (.sl e) xs) p)(hy:aH xs m=S' y):
  ∃v,Rel1 G (Av Z H G) w (.elt e y 0) v/\∀w',(Instr.indexAt t p (.int kd m)).run P w'=.ok v w':=by
 obtain⟨cs,hrd,rfl⟩:=hp;obtain⟨p,n,c,css,rfl,h1,h2,h3,h4,h5⟩:=hrd;obtain⟨g1,g2,g3⟩:=vz hy;obtain⟨b,off,rfl,hA,hb,hcs⟩:=h5 (by omega);obtain⟨l,hl,hrd⟩:=pi h4 _ _ g3;refine⟨.pointer (S' ⟨b,off+m.toNat*e.n,N'⟩),⟨b,off+m.toNat*e.n,l,rfl,hA,hb,hrd,λk v hv=>?_⟩,λw'=>ii hc ht w' b off n c kd m g1 (by omega)⟩;have:=hcs _ _ (lW (fv h4) hl hv);grind
theorem dB{base et sz:Nat}{g:Value}{m:Nat}{cs:List Value}(h:w.ownsRow base et sz g m cs):(g=.slice none 0 0/\m=0)\/∃b c,g=.slice (some ⟨b,0,none⟩) m c:=by rcases h.2 with h|⟨g',cap,cur,rfl,_⟩<;>grind
theorem MH(hr:SR Z w0 H G w){t:Nat}{i:TI}{e:Ty}(hc:chk P t i=T')(ht:i.ty=.sl e){et:TypeId}{xs:List e.D}{j:Nat}{m:Int}{y:e.D}{p:Value}{kd:IntKind}(hj:(H.map rdI)[j]?=S' (.row et e xs))(hp:Rel G (Av Z H G) w (.own j) p)(hy:aH xs m=S' y):
  ∃v,Rel1 G (Av Z H G) w (.oelt j e.n m.toNat 0) v/\∀w',(Instr.indexAt t p (.int kd m)).run P w'=.ok v w':=by
 obtain⟨css,_,ho,_⟩:=hr.read hj hp;obtain⟨g1,g2,g3⟩:=vz hy;rcases dB ho with⟨rfl,h0⟩|⟨b,c,rfl⟩
 ·omega
 ·refine⟨.pointer (S' ⟨b,m.toNat*e.n,N'⟩),⟨b,_,c,hp,rfl⟩,λw'=>?_⟩;have:=ii hc ht w' b 0 xs.length c kd m g1 (by omega);grind
theorem LQ(hr:SR Z w0 H G w){t:Nat}{i:TI}{e:Ty}(hc:chk P t i=T')(ht:i.ty=.sl e)(hn:e.n=1){et:TypeId}{cells:List SV}{j:Nat}{m:Int}{y:SV}{p:Value}{kd:IntKind}(hj:(H.map rdI)[j]?=S' (.rws et cells))(hp:Rel G (Av Z H G) w (.own j) p)(hy:aH cells m=S' y):
  ∃v,Rel1 G (Av Z H G) w (.oelt j 1 m.toNat 0) v/\∀w',(Instr.indexAt t p (.int kd m)).run P w'=.ok v w':=by
 obtain⟨_,vs,ho,_⟩:=D9 hr hj hp;obtain⟨g1,g2,g3⟩:=vz hy;rcases dB ho with⟨rfl,h0⟩|⟨b,c,rfl⟩
 ·omega
 ·refine⟨.pointer (S' ⟨b,m.toNat*1,N'⟩),⟨b,_,c,hp,rfl⟩,λw'=>?_⟩;have:=ii hc ht w' b 0 cells.length c kd m g1 (by omega);rw[hn]at this;grind
end
end
section
def eg(cs:List Value):Nat->List Value->List Value
 |_,[]=>cs
 |off,s::r=>eg (cs.set off s) (off+1) r
theorem zo{R:SV->Value->Prop}:∀{l:List SV} {vs:List Value} {cs:List SV} {us:List Value} (off:Nat),bJ R l vs->bJ R cs us->bJ R (nT cs off l) (eg us off vs)
 |[],[],_,_,_,_,h=>h
 |_::_,_::_,_,_,off,⟨h1,h2⟩,h=>zo (off+1) h2 (uq off h h1)
theorem m5:∀{l:List Value} {cs:List Value} {off:Nat},(eg cs off l).length=cs.length
 |[],_,_=>rfl
 |_::r,_,_=>by simp[eg,m5 (l:=r)]
theorem A7:∀(l:List Value) (off k:Nat) (cells:Array Value),((l.zipIdx k).foldl (λ(cs:Array Value) (x:Value×Nat)=>cs.setIfInBounds (off+x.2) x.1) cells).toList=eg cells.toList (off+k) l
 |[],_,_,_=>rfl
 |v::l,off,k,cells=>by
  rw[List.zipIdx_cons,ap6,A7 l off (k+1)];simp[eg,apM]
theorem MK(v:Value)(off:Nat)(cells:Array Value):(v.cells.zipIdx.foldl (λ(cs:Array Value) (x:Value×Nat)=>cs.setIfInBounds (off+x.2) x.1) cells).toList=eg cells.toList off v.cells.toList:=by
 have:=A7 v.cells.toList off 0 cells;rw[aqp]at this;rw[<-this];obtain⟨l⟩:=v.cells;simp
theorem uR{t:Ty}{A:Nat->Prop}{w:World}{cs:List Value}{x:t.D}(ht:∀a b,t≠.pair a b)(h:t.rd A w cs x):(mkV t cs).cells.toList=cs:=by
 cases t with
 |int k=>simp only[Ty.rd]at h;subst h;rfl
 |bool=>simp only[Ty.rd]at h;subst h;rfl
 |str=>simp only[Ty.rd]at h;subst h;rfl
 |sl e=>obtain⟨p,n,c,css,rfl,_⟩:=h;rfl
 |pair a b=>exact(ht a b rfl).elim
 |st a=>simp[mkV,Ty.isSt,Value.cells]
section
variable {Z:Nat->Prop} {w0:World} {n:Nat} {L:SL} {H:List Item} {G:List Value} {w:World} {a:Act} {P:Program} {T:TT}
theorem nW(hr:SR Z w0 H G w){s:SV}{v:Value}{l:List SV}(h:Rel G (Av Z H G) w s v)(hs:fB H s=S' l):bJ (Rel1 G (Av Z H G) w) l v.cells.toList:=by
 unfold fB at hs;split at hs
 ·cases hs
 ·rename_i t x hne;injection hs with hs;subst hs;obtain⟨cs,h1,rfl⟩:=h;rw[uR (λa b e=>by subst e;exact hne a b x rfl HEq.rfl) h1];exact kq h1
 ·split at hs
  ·rename_i j _ et e xs hj;injection hs with hs;subst hs;obtain⟨css,ho,_⟩:=hr.items j _ _ hj h;have hc:v.cells.toList=[v]:=by rcases dB ho with⟨rfl,_⟩|⟨b,c,rfl⟩<;>rfl
   rw[hc];exact⟨h,trivial⟩
  ·cases hs
 ·rename_i s' hn1 hn2 hn3;split at hs<;>try (cases hs;done)
  rename_i hg;injection hs with hs;subst hs
  have hc:v.cells.toList=[v]:=by
   cases s with
   |d t x=>cases t<;>first|exact(hn1 _ _ _ rfl).elim|exact(hn2 _ _ rfl).elim
   |nil=>rw[show v=.slice none 0 0 from h];rfl
   |box j off=>obtain⟨b,_,rfl⟩:=h;rfl
   |elt e x off=>obtain⟨b,o,cs,rfl,_⟩:=h;rfl
   |own j=>exact(hn3 j rfl).elim
   |oelt j sz i off=>obtain⟨b,n,c,_,rfl⟩:=h;rfl
   |clo f caps=>obtain⟨bs,_,rfl⟩:=h;rfl
   |tup l=>simp[SV.good]at hg
   |undef=>simp[SV.good]at hg
   |dead=>simp[SV.good]at hg
   |cut e xs=>obtain⟨p,_,rfl⟩:=h;rfl
   |osl j sz lo n=>obtain⟨g,q,c,_,rfl,_⟩:=h;rfl
  rw[hc];exact⟨oA h (λl e=>by subst e;simp[SV.good]at hg),trivial⟩
theorem u5(hr:SR Z w0 H G w)(hf:FR Z n L H G w a){place:Nat->Option (Nat×Nat)}:∀{parts:List (Nat×Operand)} {cs cs':List SV} {us:Array Value},rA H L place cs parts=S' cs'->bJ (Rel1 G (Av Z H G) w) cs us.toList->
  ∃us',Instr.fill place us (parts.map λp=>(p.1,a.eval p.2))=S' us'/\bJ (Rel1 G (Av Z H G) w) cs' us'.toList
 |[],cs,cs',us,h,ha=>by simp only[rA,anW]at h;subst h;exact⟨us,rfl,ha⟩
 |(i,x)::r,cs,cs',us,h,ha=>by
  simp only[rA]at h;split at h
  ·rename_i off size s hp hs;split at h<;>try (cases h;done)
   rename_i l hl;split at h<;>try (cases h;done)
   rename_i hb;simp only[anS]at hb;have hv:=aF hf hs;have hl2:=nW hr hv hl;have hlen:(a.eval x).cells.size=l.length:=by have:=dw hl2;simpa using this.symm
   have hlu:cs.length=us.size:=by have:=dw ha;simpa using this
   obtain⟨us',h1,h2⟩:=u5 hr hf (us:=((a.eval x).cells.zipIdx.foldl (λ(cs:Array Value) (x:Value×Nat)=>cs.setIfInBounds (off+x.2) x.1) us)) h (by rw[MK];exact zo off hl2 ha);refine⟨us',?_,h2⟩;have e1:=anR hb.1;have e2:=anU hb.2;simp only[List.map_cons,Instr.fill,hp];rw[aog (by simp[hlen,e1];omega)];exact h1
  ·cases h
theorem LR{t:Nat}{i:TI}(hc:chk P t i=T')(hz:i.z=T')(hst:i.ty.isSt=T')(parts:List (Nat×Value)):P.built t parts=Instr.fill (wP i i.el) (zc i.ty).toArray parts:=by
 obtain⟨inf,hi,hzero⟩:=xY hc hz;unfold chk at hc;rw[hi]at hc;cases hu:P.underlying t with
 |none=>rw[hu]at hc;cases hc
 |some d=>
  rw[hu]at hc;simp only[anS]at hc;have hc:=hc.2;have hmk:(mkV i.ty (zc i.ty)).cells=(zc i.ty).toArray:=by simp[mkV,hst,Value.cells]
  unfold Program.built;rw[hi,hu];match d,hc with
  |.struct fs,hc=>
   simp only[anS]at hc;obtain⟨_,hc⟩:=hc;split at hc
   ·rename_i pl hpl;simp only[anS]at hc;obtain⟨rfl,_⟩:=IO hc.1;simp only[hzero,hpl,hmk];congr 1;unfold wP;rw[hc.2];funext k;simp
   ·cases hc
  |.array m e,hc=>
   simp only[anS]at hc;obtain⟨⟨⟨⟨_,h1⟩,h2⟩,h3⟩,h4⟩:=hc;split at h4
   ·rename_i j hj;simp only[hzero,hj,hmk,anR h4];unfold wP;have e1:=anR h1;have e2:=anU h2;have e3:Nat.beq i.len 0=false:=by rw[<-e1];cases m<;>first|omega|rfl
    rw[e3]
   ·cases h4
  |.slice e,hc=>
   dsimp only at hc;split at hc
   ·rename_i he _;rw[he]at hst;cases hst
   ·cases hc
  |.invalid,hc|.bool,hc|.int _,hc|.float _,hc|.complex _,hc|.string,hc|.pointer _,hc|.map _ _,hc|.chan _ _,hc|.func _ _ _,hc|.interface _,hc|.tuple _,hc|.named _ _,hc|.unsafePointer,hc=>
   simp only[anS]at hc;have hc:=hc.2;generalize i.ty=ty at*
   cases ty<;>simp_all [Ty.isSt]
theorem So{t:Nat}{i:TI}{e:Ty}(hc:chk P t i=T')(ht:i.ty=.sl e){xs:List e.D}{l h:Int}{p:Value}{lo hi:Option Value}(hp:Rel G (Av Z H G) w (.d (.sl e) xs) p)
  (hlo:(lo=N'/\l=0)\/∃kd,lo=S' (.int kd l)) (hhi:(hi=N'/\h=xs.length)\/∃kd,hi=S' (.int kd h)) (hb:0<=l/\l<=h/\h<=xs.length):
  ∃v,Rel1 G (Av Z H G) w (.d (.sl e) ((xs.take h.toNat).drop l.toNat)) v/\∀w',(Instr.sliceAt t p lo hi N').run P w'=.ok v w':=by
 obtain⟨cs,hrd,rfl⟩:=hp;obtain⟨p,n,c,css,rfl,h1,h2,h3,h4,h5⟩:=hrd;obtain⟨hu,_,j,hj,hjs,_⟩:=c8 hc ht;obtain⟨b1,b2,b3⟩:=hb;have hel:P.elem t=i.el:=by simp[Program.elem,hu]
 have hu':P.underlying t=S' (.slice (P.elem t)):=by rw[hel];exact hu
 have hsz:∀w',(sizeOf (P.elem t)).run P w'=.ok e.n w':=λw'=>by rw[hel];simp[sizeOf,typeInfo,hj,hjs]
 refine⟨sliced p l.toNat h.toNat c e.n,?_,λw'=>?_⟩
 ·have hl4:=fv h4;have hlen:((xs.take h.toNat).drop l.toNat).length=h.toNat-l.toNat:=by simp;omega
  refine⟨[sliced p l.toNat h.toNat c e.n],⟨if c=l.toNat then p else p.map (·.add (l.toNat*e.n)),h.toNat-l.toNat,c-l.toNat,(css.take h.toNat).drop l.toNat,rfl,hlen,by omega,by omega,iQ _ (iY _ h4),λhn=>?_⟩,rfl⟩;have hn0:0<n:=by omega
  have hcl:c≠l.toNat:=by omega
  obtain⟨b,off,rfl,hA,hb,hcs⟩:=h5 hn0;refine⟨b,off+l.toNat*e.n,?_,hA,hb,?_⟩
  ·rw[aog hcl];simp[c7]
  ·intro k v hv;rw[fU _ (λl hm=>hl4 l (ao3 hm)),eI _ hl4,apl,apm]at hv;split at hv
   ·have:=hcs _ _ hv;rwa [<-apM]at this
   ·cases hv
 ·rw[run_sliceAt_slice w' t _ lo hi N' hu'];have hn:(n:Int)=xs.length:=by omega
  rcases hlo with⟨rfl,rfl⟩|⟨kl,rfl⟩<;>rcases hhi with⟨rfl,rfl⟩|⟨kh,rfl⟩
  ·have:=run_slice_all (P:=P) w' t p n c hu';simp only[mkV,Ty.isSt,aqq,this,hsz,aoh,<-hn];simp
  ·have:=run_slice_h (P:=P) w' t p n c hu' kh h (by omega) (by omega);simp only[mkV,Ty.isSt,aqq,this,hsz,aoh];simp
  ·have:=run_slice_l (P:=P) w' t p n c hu' kl l (by omega) (by omega);simp only[mkV,Ty.isSt,aqq,this,hsz,aoh,<-hn];simp
  ·have:=run_slice_lh (P:=P) w' t p n c hu' kl kh l h (by omega) (by omega) (by omega);simp only[mkV,Ty.isSt,aqq,this,hsz,aoh]
theorem LO{t:Nat}{i:TI}{e:Ty}(hc:chk P t i=T')(ht:i.ty=.sl e){xs:List e.D}{l h m:Int}{p:Value}{lo hi mx:Option Value}(hp:Rel G (Av Z H G) w (.d (.sl e) xs) p)
  (hlo:(lo=N'/\l=0)\/∃kd,lo=S' (.int kd l)) (hhi:∃kd,hi=S' (.int kd h)) (hmx:∃kd,mx=S' (.int kd m)) (hb:0<=l/\l<=h/\h<=m/\m<=xs.length):
  ∃v,Rel1 G (Av Z H G) w (.d (.sl e) ((xs.take h.toNat).drop l.toNat)) v/\(h=m->Rel1 G (Av Z H G) w (.cut e ((xs.take h.toNat).drop l.toNat)) v)/\∀w',(Instr.sliceAt t p lo hi mx).run P w'=.ok v w':=by
 obtain⟨cs,hrd,rfl⟩:=hp;obtain⟨p,n,c,css,rfl,h1,h2,h3,h4,h5⟩:=hrd;obtain⟨hu,_,j,hj,hjs,_⟩:=c8 hc ht;obtain⟨b1,b2,b3,b4⟩:=hb;have hel:P.elem t=i.el:=by simp[Program.elem,hu]
 have hu':P.underlying t=S' (.slice (P.elem t)):=by rw[hel];exact hu
 have hsz:∀w',(sizeOf (P.elem t)).run P w'=.ok e.n w':=λw'=>by rw[hel];simp[sizeOf,typeInfo,hj,hjs]
 have hlen:((xs.take h.toNat).drop l.toNat).length=h.toNat-l.toNat:=by simp;omega
 have main:(Ty.sl e).rd (Av Z H G) w [sliced p l.toNat h.toNat m.toNat e.n] ((xs.take h.toNat).drop l.toNat):=by
  have hl4:=fv h4;refine⟨if m.toNat=l.toNat then p else p.map (·.add (l.toNat*e.n)),h.toNat-l.toNat,m.toNat-l.toNat,(css.take h.toNat).drop l.toNat,rfl,hlen,by omega,by omega,iQ _ (iY _ h4),λhn=>?_⟩;have hn0:0<n:=by omega
  have hcl:m.toNat≠l.toNat:=by omega
  obtain⟨b,off,rfl,hA,hb,hcs⟩:=h5 hn0;refine⟨b,off+l.toNat*e.n,?_,hA,hb,?_⟩
  ·rw[aog hcl];simp[c7]
  ·intro k v hv;rw[fU _ (λl hm=>hl4 l (ao3 hm)),eI _ hl4,apl,apm]at hv;split at hv
   ·have:=hcs _ _ hv;rwa [<-apM]at this
   ·cases hv
 refine⟨sliced p l.toNat h.toNat m.toNat e.n,⟨_,main,rfl⟩,λhm=>?_,λw'=>?_⟩
 ·subst hm;refine⟨if h.toNat=l.toNat then p else p.map (·.add (l.toNat*e.n)),?_,?_⟩
  ·rw[hlen];exact main
  ·rw[hlen];rfl
 ·rw[run_sliceAt_slice w' t _ lo hi mx hu'];obtain⟨kh,rfl⟩:=hhi;obtain⟨km,rfl⟩:=hmx;rcases hlo with⟨rfl,rfl⟩|⟨kl,rfl⟩
  ·have:=run_slice_hm (P:=P) w' t p n c hu' kh km h m (by omega) (by omega) (by omega);simp only[mkV,Ty.isSt,aqq,this,hsz,aoh];simp
  ·have:=run_slice_lhm (P:=P) w' t p n c hu' kl kh km l h m (by omega) (by omega) (by omega) (by omega);simp only[mkV,Ty.isSt,aqq,this,hsz,aoh]
theorem yw:∀{l:List SV} {js:List Nat} {vs:List Value},zw l=S' js->bJ (Rel G (Av Z H G) w) l vs->∃bs:List Nat,bJ (λj b=>G[j]?=S' (.pointer (S' ⟨b,0,N'⟩))) js bs/\vs=bs.map λb=>.pointer (S' ⟨b,0,N'⟩)
 |[],js,[],h,_=>by simp only[zw,anW]at h;subst h;exact⟨[],trivial,rfl⟩
 |s::l,js,v::vs,h,⟨h1,h2⟩=>by
  unfold zw at h;split at h
  ·rename_i he;cases he
  ·rename_i j r he;injection he with e1 e2;subst e1 e2;split at h
   ·rename_i l' hl';injection h with h;subst h;obtain⟨b,hb,rfl⟩:=h1;obtain⟨bs,g1,g2⟩:=yw hl' h2;exact⟨b::bs,⟨hb,g1⟩,by rw[g2];rfl⟩
   ·cases h
  ·cases h
theorem jK(hf:FR Z n L H G w a):∀{l:List Operand} {ss:List SV},zD L l=S' ss->bJ (Rel G (Av Z H G) w) ss (l.map a.eval)
 |[],ss,h=>by simp only[zD,anW]at h;subst h;trivial
 |x::l,ss,h=>by
  simp only[zD]at h;split at h
  ·rename_i s l' h1 h2;injection h with h;subst h;exact⟨aF hf h1,jK hf h2⟩
  ·cases h
theorem ie(hf:FR Z n L H G w a){d l:Int}{o:Option Operand}(h:slB L d o=S' l):(o.map a.eval=N'/\l=d)\/∃kd,o.map a.eval=S' (.int kd l):=by
 unfold slB at h;split at h
 ·injection h with h;exact .inl ⟨rfl,h.symm⟩
 ·split at h
  ·rename_i kd i hs;injection h with h;subst h;obtain⟨cs,h1,h2⟩:=aF hf hs;simp only[Ty.rd]at h1;subst h1;exact .inr ⟨kd,by simp[h2,mkV,Ty.isSt]⟩
  ·cases h
end
end
section
theorem dh{G:List Value}{A:Nat->Prop}{w:World}{k:IntKind}{x:Int}{v:Value}(h:Rel G A w (.d (.int k) x) v):v=.int k x:=by
 obtain⟨cs,h1,rfl⟩:=h;subst h1;rfl
theorem t8{G:List Value}{A:Nat->Prop}{w:World}{x:Bool}{v:Value}(h:Rel G A w (.d .bool x) v):v=.bool x:=by
 obtain⟨cs,h1,rfl⟩:=h;subst h1;rfl
theorem iR{P:Program}{t ty:TypeId}{i:TI}{e:Ty}(hc:chk P t i=T')(ht:i.ty=.sl e)(w:World)(p:Option Addr)(n c:Nat):(Builtin.len_ #[t] ty #[.slice p n c]).run P w=.ok (.int .i64 n) w:=by
 obtain⟨hu,_⟩:=c8 hc ht;simp[Builtin.len_,aol hu,goInt]
def nQ:Op->Bool
 |.load .. =>true
 |_=>false
theorem C4{P:Program}{t:Nat}{i:TI}{e:Ty}(hc:chk P t i=T')(ht:i.ty=.sl e)(w':World)(q:Option Addr)(n c:Nat){l h:Int}{lo hi:Option Value}
  (hlo:(lo=N'/\l=0)\/∃kd,lo=S' (.int kd l)) (hhi:(hi=N'/\h=(n:Int))\/∃kd,hi=S' (.int kd h)) (hb:0<=l/\l<=h/\h<=(n:Int)) (hnc:n<=c):
  (Instr.sliceAt t (.slice q n c) lo hi N').run P w'=.ok (sliced q l.toNat h.toNat c e.n) w':=by
 obtain⟨hu,_,j,hj,hjs,_⟩:=c8 hc ht;have hel:P.elem t=i.el:=by simp[Program.elem,hu]
 have hu':P.underlying t=S' (.slice (P.elem t)):=by rw[hel];exact hu
 have hsz:∀w',(sizeOf (P.elem t)).run P w'=.ok e.n w':=λw'=>by rw[hel];simp[sizeOf,typeInfo,hj,hjs]
 rw[run_sliceAt_slice w' t _ lo hi none hu'];rcases hlo with⟨rfl,rfl⟩|⟨kl,rfl⟩<;>rcases hhi with⟨rfl,rfl⟩|⟨kh,rfl⟩
 ·have:=run_slice_all (P:=P) w' t q n c hu';simp_all
 ·have:=run_slice_h (P:=P) w' t q n c hu' kh h (by omega) (by omega);simp_all
 ·have:=run_slice_l (P:=P) w' t q n c hu' kl l (by omega) (by omega);simp_all
 ·have:=run_slice_lh (P:=P) w' t q n c hu' kl kh l h (by omega) (by omega) (by omega);simp_all
section
variable {Z:Nat->Prop} {w0:World} {n:Nat} {L:SL} {H:List Item} {G:List Value} {w:World} {a:Act} {P:Program} {T:TT} {R:Type}
set_option maxHeartbeats 1000000 in
theorem K7{P:Program}{t:Nat}{i:TI}(hck:chk P t i=T')(hst:i.ty.isSt=T'){m:Int}(hb:0<=m/\m<(i.len:Int)):∃ne ej,P.underlying t=S' (.array i.len ne)/\P.info? ne=S' ej/\ej.size=i.el:=by
  obtain⟨d,hu,hrow⟩:=uL hck;have hck':=hck;unfold chk at hck';rw[hu]at hck';cases hinf:P.info? t with
  |none=>rw[hinf]at hck';cases hck'
  |some inf=>
   rw[hinf]at hck';simp only[anS]at hck';have hck':=hck'.2;rw[hst]at hrow;match d,hck',hrow with
   |.struct fs,hck',_=>
    simp only[anS]at hck';obtain⟨_,hck'⟩:=hck';split at hck'
    ·simp only[anS]at hck';have hz:=anR hck'.2;have h02:=hb.2;rw[hz]at h02;exact(Int.lt_irrefl 0 (Int.lt_of_le_of_lt hb.1 h02)).elim
    ·cases hck'
   |.array m' e,hck',_=>
    simp only[anS]at hck';obtain⟨⟨⟨⟨_,h1⟩,_⟩,_⟩,h4⟩:=hck';split at h4
    ·rename_i ej hej;exact⟨e,ej,by rw[<-anR h1];exact hu,hej,anR h4⟩
    ·cases h4
theorem iW{rw:Bool}{o:Oper}{k:SV->Option R}{r:R}(hT:eW P T=T')(hr:SR Z w0 H G w)(hf:FR Z n L H G w a)(h:qop P T rw L H o k=S' r):
  ∃s v,k s=S' r/\Rel G (Av Z H G) w s v/\∀w',(nQ o.op=T'->Agr rw H G w w')->(execOp a.eval o).run P w'=.ok (.value v) w':=by
 have hflat:mj P L o k=S' r->∃s v,k s=S' r/\Rel G (Av Z H G) w s v/\∀w',(nQ o.op=T'->Agr rw H G w w')->(execOp a.eval o).run P w'=.ok (.value v) w':=λh=>by
  obtain⟨s,v,h1,h2,h3⟩:=Ct hf h;exact⟨s,v,h1,dN h2,λw' _=>h3 w'⟩
 obtain⟨dst,op,type,pos,after,guard⟩:=o;unfold qop at h;dsimp only at h;split at h
 case h_1 x=>
  split at h<;>try (cases h;done)
  rename_i s hs;exact⟨s,_,h,aF hf hs,λw' _=>rfl⟩
 case h_2 x=>
  split at h<;>try (cases h;done)
  rename_i s hs;exact⟨s,_,h,aF hf hs,λw' _=>rfl⟩
 case h_3 x=>
  split at h<;>try (cases h;done)
  ·rename_i j off hs;have hv:=aF hf hs;refine⟨_,_,h,hv,λw' _=>?_⟩;obtain⟨b,_,hv⟩:=hv;simp[execOp,hv]
  ·rename_i e y off hs;have hv:=aF hf hs;refine⟨_,_,h,hv,λw' _=>?_⟩;obtain⟨b,o,cs,hv,_⟩:=hv;simp[execOp,hv]
  ·rename_i j sz i off hs;have hv:=aF hf hs;refine⟨_,_,h,hv,λw' _=>?_⟩;obtain⟨b,_,_,_,hv⟩:=hv;simp[execOp,hv]
 case h_4 c x y=>
  split at h<;>try (cases h;done)
  rename_i b hs;have hb:=t8 (aF hf hs);split at h
  ·split at h<;>try (cases h;done)
   rename_i s hs;exact⟨s,_,h,aF hf hs,λw' _=>by simp[execOp,hb,asBool]⟩
  ·split at h<;>try (cases h;done)
   rename_i s hs;exact⟨s,_,h,aF hf hs,λw' _=>by simp[execOp,hb,asBool]⟩
 case h_5 t x=>
  have fin:∀{s:SV} (_:k s=S' r),(∃v,Rel1 G (Av Z H G) w s v/\∀w',Agr rw H G w w'->(Instr.loadAt t (a.eval x)).run P w'=.ok v w')->∃s v,k s=S' r/\Rel G (Av Z H G) w s v/\∀w',(nQ (.load t x)=T'->Agr rw H G w w')->(execOp a.eval ⟨dst,.load t x,type,pos,after,guard⟩).run P w'=.ok (.value v) w':=by
   rintro s hk ⟨v,h1,h2⟩
   exact⟨s,v,hk,dN h1,λw' ha=>by simp[execOp,h2 w' (ha rfl)]⟩
  split at h<;>try (cases h;done)
  ·rename_i j off i hs hi;split at h<;>try (cases h;done)
   rename_i bt cells hj;split at h<;>try (cases h;done)
   rename_i s hl;exact fin h (FH hr (aG hT hi) (aF hf hs) hj hl)
  ·rename_i e y off i hs hi;split at h<;>try (cases h;done)
   rename_i z hz;exact fin h (Pr (aG hT hi) (aF hf hs) hz)
  ·rename_i j sz m off i hs hi;split at h<;>try (cases h;done)
   ·rename_i et e xs hj;split at h<;>try (cases h;done)
    rename_i y hsz hy;split at h<;>try (cases h;done)
    rename_i z hz;have:=anR hsz;subst this;exact fin h (MG hr (aG hT hi) (aF hf hs) hj hy hz)
   ·rename_i et cells hj;split at h<;>try (cases h;done)
    rename_i s hb hs';split at h<;>try (cases h;done)
    simp only[anS]at hb;have h1:=anR hb.1.1;have h2:=anR hb.1.2;subst h1 h2;exact fin h (QS hr (aG hT hi) (aF hf hs) hj hs' hb.2)
 case h_6 s x f=>
  split at h<;>try (cases h;done)
  ·rename_i j off i hs hi;split at h<;>try (cases h;done)
   rename_i p hp;obtain⟨b,hg,hv⟩:=aF hf hs;exact⟨_,.pointer (S' ⟨b,off+p.1,N'⟩),h,⟨b,hg,rfl⟩,λw' _=>by simp[execOp,hv,pT (aG hT hi) hp]⟩
  ·rename_i e y off i hs hi;split at h<;>try (cases h;done)
   rename_i p hp;obtain⟨b,o,cs,hv,h2⟩:=aF hf hs;exact⟨_,.pointer (S' ⟨b,o+(off+p.1),N'⟩),h,⟨b,o,cs,rfl,h2⟩,λw' _=>by simp[execOp,hv,pT (aG hT hi) hp,apM]⟩
  ·rename_i j sz m off i hs hi;split at h<;>try (cases h;done)
   rename_i p hp;obtain⟨b,n1,c1,hg,hv⟩:=aF hf hs;exact⟨_,.pointer (S' ⟨b,m*sz+(off+p.1),N'⟩),h,⟨b,n1,c1,hg,rfl⟩,λw' _=>by simp[execOp,hv,pT (aG hT hi) hp,apM]⟩
 case h_7 t x ix=>
  split at h<;>try (cases h;done)
  ·rename_i e xs kd m i hs hm hi;split at h<;>try (cases h;done)
   rename_i e' he;split at h<;>try (cases h;done)
   rename_i hee _;split at h<;>try (cases h;done)
   rename_i y hy;have hee:=hee.down;subst hee;obtain⟨v,h1,h2⟩:=Rm (kd:=kd) (aG hT hi) he (aF hf hs) hy;exact⟨_,v,h,dN h1,λw' _=>by simp[execOp,dh (aF hf hm),h2 w']⟩
  ·rename_i j kd m i hs hm hi;split at h<;>try (cases h;done)
   ·rename_i et e xs e' hj he;split at h<;>try (cases h;done)
    rename_i hee _;split at h<;>try (cases h;done)
    rename_i y hy;have hee:=hee.down;subst hee;obtain⟨v,h1,h2⟩:=MH (kd:=kd) hr (aG hT hi) he hj (aF hf hs) hy;exact⟨_,v,h,dN h1,λw' _=>by simp[execOp,dh (aF hf hm),h2 w']⟩
   ·rename_i et cells e' hj he;split at h<;>try (cases h;done)
    rename_i y hn hy;obtain⟨v,h1,h2⟩:=LQ (kd:=kd) hr (aG hT hi) he (anR hn) hj (aF hf hs) hy;exact⟨_,v,h,dN h1,λw' _=>by simp[execOp,dh (aF hf hm),h2 w']⟩
  ·rename_i j off kd m i hs hm hi;split at h<;>try (cases h;done)
   rename_i hst hb;have hb:=anP hb;obtain⟨b,hg,hv⟩:=aF hf hs;have hck:=aG hT hi;refine⟨_,.pointer (S' ⟨b,off+m.toNat*i.el,N'⟩),h,⟨b,hg,rfl⟩,λw' _=>?_⟩;obtain⟨ne,ej,h1,h2,h3⟩:=K7 hck hst hb;simp[execOp,dh (aF hf hm),hv,Instr.indexAt,asIntOf,aol h1,sizeOf,typeInfo,h2,hb.1,hb.2,c7,Instr.sureAddr,h3]
  ·rename_i e y off kd m i hs hm hi;split at h<;>try (cases h;done)
   rename_i hst hb;have hb:=anP hb;obtain⟨b,o,cs,hv,hr2⟩:=aF hf hs;obtain⟨ne,ej,h1,h2,h3⟩:=K7 (aG hT hi) hst hb;refine⟨_,.pointer (S' ⟨b,o+(off+m.toNat*i.el),N'⟩),h,⟨b,o,cs,rfl,hr2⟩,λw' _=>?_⟩;simp[execOp,dh (aF hf hm),hv,Instr.indexAt,asIntOf,aol h1,sizeOf,typeInfo,h2,hb.1,hb.2,c7,Instr.sureAddr,h3,apM]
  ·rename_i j sz lo mm kd m i hs hm hi;split at h<;>try (cases h;done)
   rename_i e' he;split at h<;>try (cases h;done)
   rename_i hsz hb;have hb:=anP hb;have hsz:=anR hsz;subst hsz;obtain⟨g,q,c,hg,hv,h1,h2,h3,_⟩:=aF hf hs;have hmm:0<mm:=Int.ofNat_lt.1 (Int.lt_of_le_of_lt hb.1 hb.2);obtain⟨b,N,c',rfl,h4,rfl⟩:=h3 hmm;refine⟨_,.pointer (S' ⟨b,(lo+m.toNat)*e'.n+0,N'⟩),h,⟨b,N,c',hg,rfl⟩,λw' _=>?_⟩;have:=ii (P:=P) (kd:=kd) (aG hT hi) he w' b (lo*e'.n) mm c m hb.1 hb.2;simp[execOp,dh (aF hf hm),hv,this,Nat.add_mul]
 case h_8 x m=>
  split at h<;>try (cases h;done)
  rename_i l hs;split at h<;>try (cases h;done)
  rename_i s hl;obtain⟨vs,hv,hal⟩:=aF hf hs;obtain⟨v,h1,h2⟩:=fQ hal m s hl;exact⟨s,v,h,dN h2,λw' _=>by simp[execOp,hv,Instr.extract,h1]⟩
 case h_9 t parts=>
  split at h<;>try (cases h;done)
  rename_i i hi;split at h<;>try (cases h;done)
  rename_i cs hzs hfl;split at h<;>try (cases h;done)
  rename_i x hjn;simp only[anS]at hzs;obtain⟨us',h1,h2⟩:=u5 hr hf (us:=(zc i.ty).toArray) hfl (by simpa using kq (rj (t:=i.ty)));obtain⟨v1,v2,h3,h4,h5⟩:=qE hjn h2;match v2,h5 with
  |[],_=>
   rw[aoi]at h3;subst h3;refine⟨_,mkV i.ty us'.toList,h,⟨_,h4,rfl⟩,λw' _=>?_⟩
   have hb:P.built t (parts.map λp=>(p.1,a.eval p.2)).toList=S' us':=by
    rw[LR (aG hT hi) hzs.1 hzs.2,<-h1];simp
   have:=run_build (P:=P) w' t (parts.map λp=>(p.1,a.eval p.2)) us' hb;simp[execOp,this,mkV,hzs.2]
 case h_10 f caps=>
  split at h<;>try (cases h;done)
  rename_i l hl;split at h<;>try (cases h;done)
  rename_i js hj;obtain⟨bs,h1,h2⟩:=yw hj (jK hf hl);refine⟨_,.func (.func f) #[] (bs.map λb=>.pointer (S' ⟨b,0,N'⟩)).toArray,h,⟨bs,h1,rfl⟩,λw' _=>?_⟩;rw[<-h2];obtain⟨cl⟩:=caps;simp[execOp,Instr.makeFunc]
 case h_11 x t=>
  split at h<;>try (cases h;done)
  ·rename_i e xs i hs hi;split at h<;>try (cases h;done)
   rename_i e' he;obtain⟨cs,hrd,hv⟩:=aF hf hs;obtain⟨p,m,c,css,rfl,hlen,_⟩:=hrd;have hv:a.eval x=.slice p m c:=hv;refine⟨_,.int .i64 m,h,⟨[_],rfl,by rw[hlen];rfl⟩,λw' _=>?_⟩;simp[execOp,resolve,invoke,builtin,hv,iR (aG hT hi) he]
  ·rename_i i hs hi;split at h<;>try (cases h;done)
   rename_i e' he;have hv:a.eval x=.slice N' 0 0:=aF hf hs;refine⟨_,.int .i64 0,h,⟨[_],rfl,rfl⟩,λw' _=>?_⟩;simp[execOp,resolve,invoke,builtin,hv,iR (aG hT hi) he]
  ·rename_i j i hs hi;have hv:=aF hf hs
   have key:∀{m:Nat} {e':Ty} {et sz base:Nat} {cs:List Value},i.ty=.sl e'->w.ownsRow base et sz (a.eval x) m cs->∀w':World,(execOp a.eval ⟨dst,.call ⟨.builtin .len,⟨[x]⟩,⟨[t]⟩⟩,type,pos,after,guard⟩).run P w'=.ok (.value (.int .i64 m)) w':=λhe ho w'=>by
    rcases dB ho with⟨h1,h2⟩|⟨b,c,h1⟩
    ·simp[execOp,resolve,invoke,builtin,h1,h2,iR (aG hT hi) he]
    ·simp[execOp,resolve,invoke,builtin,h1,iR (aG hT hi) he]
   split at h<;>try (cases h;done)
   ·rename_i et e xs e' hj he;obtain⟨css,_,ho,_⟩:=hr.read hj hv;exact⟨_,.int .i64 xs.length,h,⟨[_],rfl,rfl⟩,λw' _=>key he ho w'⟩
   ·rename_i et cells e' hj he;obtain⟨_,vs,ho,_⟩:=D9 hr hj hv;exact⟨_,.int .i64 cells.length,h,⟨[_],rfl,rfl⟩,λw' _=>key he ho w'⟩
  ·rename_i j sz lo n i hs hi;split at h<;>try (cases h;done)
   rename_i e' he;obtain⟨g,q,c,hg,hv,_⟩:=aF hf hs;refine⟨_,.int .i64 n,h,⟨[_],rfl,rfl⟩,λw' _=>?_⟩;simp[execOp,resolve,invoke,builtin,hv,iR (aG hT hi) he]
  ·rename_i e0 xs i hs hi;split at h<;>try (cases h;done)
   rename_i e' he;obtain⟨p,hrd,hv⟩:=aF hf hs;refine⟨_,.int .i64 xs.length,h,⟨[_],rfl,rfl⟩,λw' _=>?_⟩;simp[execOp,resolve,invoke,builtin,hv,iR (aG hT hi) he]
 case h_12 t x lo hi=>
  split at h<;>try (cases h;done)
  ·rename_i e xs i hs hti;split at h<;>try (cases h;done)
   rename_i e' l hh he hl hhh;split at h<;>try (cases h;done)
   rename_i hee _;split at h<;>try (cases h;done)
   rename_i hb;have hb:=anP hb;have hee:=hee.down;subst hee;obtain⟨v,h1,h2⟩:=So (aG hT hti) he (aF hf hs) (ie hf hl) (ie hf hhh) hb;exact⟨_,v,h,dN h1,λw' _=>by simp[execOp,h2 w']⟩
  ·rename_i j i hs hti;split at h<;>try (cases h;done)
   rename_i et e xs e' hj he;split at h<;>try (cases h;done)
   rename_i l hh hl hhh hsz;split at h<;>try (cases h;done)
   rename_i hb;have hb:=anP hb;have hsz:=anR hsz;have hx:=aF hf hs;obtain⟨css,ho,_⟩:=hr.items j _ _ hj hx
   have hform:∃q c,a.eval x=.slice q xs.length c/\xs.length<=c/\c<=maxLen/\q.map (·.add 0)=q/\(0<xs.length->∃b,q=S' ⟨b,0,N'⟩):=by
    rcases ho.2 with⟨e1,e2⟩|⟨g,cap,cur,e1,_,_,e4,e5,_⟩
    ·exact⟨N',0,by rw[e1,e2],by omega,by unfold maxLen;omega,rfl,λh0=>by omega⟩
    ·exact⟨_,cap,e1,e4,e5,by simp[c7],λ_=>⟨g,rfl⟩⟩
   obtain⟨q,c,hv,hc1,hc2,hq0,hq⟩:=hform;refine⟨_,sliced q l.toNat hh.toNat c e.n,h,⟨_,_,_,hx,rfl,by omega,by omega,λh0=>?_,λh0=>?_⟩,λw' _=>?_⟩
   ·obtain⟨b,rfl⟩:=hq (by omega);refine⟨b,xs.length,c,hv,by omega,?_⟩;rw[aog (by omega)];simp[c7]
   ·rw[h0,aqN,hq0,ite_self];exact⟨hq0,xs.length,by rw[hv];rfl⟩
   ·have:=C4 (P:=P) (aG hT hti) he w' q xs.length c (ie hf hl) (ie hf hhh) hb hc1;rw[<-hsz]at this;simp[execOp,hv,this]
  ·rename_i j sz b0 n i hs hti;split at h<;>try (cases h;done)
   rename_i e' he;split at h<;>try (cases h;done)
   rename_i l hh hl hhh hsz;split at h<;>try (cases h;done)
   rename_i hb;have hb:=anP hb;have hsz:=anR hsz;subst hsz;obtain⟨g,q,c,hg,hv,hc1,hc2,h3,h4'⟩:=aF hf hs;obtain⟨b1,b2,b3⟩:=hb;have z1:hh.toNat-l.toNat<=c-l.toNat:=by clear h3;omega
   have z2:c-l.toNat<=maxLen:=by clear h3;omega
   have z3:0<hh.toNat-l.toNat->0<n/\l.toNat+(hh.toNat-l.toNat)<=n/\c≠l.toNat:=by clear h3;omega
   refine⟨_,sliced q l.toNat hh.toNat c e'.n,h,⟨g,_,_,hg,rfl,z1,z2,λh0=>?_,λh0=>?_⟩,λw' _=>?_⟩
   ·obtain⟨y1,y2,y3⟩:=z3 h0;obtain⟨b,N,c',rfl,h4,rfl⟩:=h3 y1;refine⟨b,N,c',rfl,by clear h3;omega,?_⟩;rw[aog y3];simp[c7,Nat.add_mul]
   ·obtain⟨e1,N,e2⟩:=h4' (by clear h3;omega);rw[show l.toNat=0 by clear h3;omega,aqN,e1,ite_self];exact⟨e1,N,e2⟩
   ·have:=C4 (P:=P) (aG hT hti) he w' q n c (ie hf hl) (ie hf hhh) ⟨b1,b2,b3⟩ hc1;simp[execOp,hv,this]
  ·rename_i i hs hti;split at h<;>try (cases h;done)
   rename_i e' l hh he hl hhh;split at h<;>try (cases h;done)
   rename_i hb;obtain⟨b1,b2,b3⟩:=anP hb;have hv:a.eval x=.slice N' 0 0:=aF hf hs;refine⟨.nil,.slice N' 0 0,h,rfl,λw' _=>?_⟩;have:=C4 (P:=P) (aG hT hti) he w' N' 0 0 (ie hf hl) (ie hf hhh) ⟨b1,b2,b3⟩ (anT _);rw[show l.toNat=0 by omega,show hh.toNat=0 by omega,show sliced N' 0 0 0 e'.n=.slice N' 0 0 by simp[sliced]]at this;simp[execOp,hv,this]
 case h_13 x y _=>
  split at h<;>try (cases h;done)
  rename_i kd p kd' q hp hq;split at h<;>try (cases h;done)
  rename_i hee _;have hee:=hee.down;injection hee with hee;subst hee;refine⟨_,.int kd (if q>p then q else p),h,⟨[_],rfl,rfl⟩,λw' _=>?_⟩;simp[execOp,resolve,invoke,builtin,dh (aF hf hp),dh (aF hf hq),Builtin.max_,Builtin.max2]
 case h_14 x y _=>
  split at h<;>try (cases h;done)
  rename_i kd p kd' q hp hq;split at h<;>try (cases h;done)
  rename_i hee _;have hee:=hee.down;injection hee with hee;subst hee;refine⟨_,.int kd (if q<p then q else p),h,⟨[_],rfl,rfl⟩,λw' _=>?_⟩;simp[execOp,resolve,invoke,builtin,dh (aF hf hp),dh (aF hf hq),Builtin.min_,Builtin.min2]
 case h_15 op t x y ty=>
  split at h
  ·exact hflat h
  ·rename_i b hb
   have ev:∀(A:Option Addr) (l c:Nat) (e:TypeId),a.eval x=.slice A l c->P.underlying t=S' (.slice e)->∀w',(execOp a.eval ⟨dst,.binOp op t x y ty,type,pos,after,guard⟩).run P w'=.ok (.value (.bool (if A.isNone then b else !b))) w':=by
    intro A l c e hx hu w';unfold JJ at hb;split at hb<;>try (cases hb;done)
    ·injection hb with hb;subst hb;unfold execOp;simp only[hx,aoM];rw[show a.eval (.const (.slice none 0 0))=.slice none 0 0 from rfl];simp only[eqGuard_at_slice,apb,aoh,run_eql_slice_nil w' t e A l c hu];cases A<;>rfl
    ·injection hb with hb;subst hb;unfold execOp;simp only[hx,aoM];rw[show a.eval (.const (.slice none 0 0))=.slice none 0 0 from rfl];simp only[eqGuard_at_slice,apb,aoh,run_neq_slice_nil w' t e A l c hu];cases A<;>rfl
   have nk:∀{α:Type} {xs:List α} {A:Option Addr} {l c:Nat} {e:TypeId},Ut xs b k=S' r->a.eval x=.slice A l c->(xs≠[]->A.isNone=F')->P.underlying t=S' (.slice e)->
     ∃s v,k s=S' r/\Rel G (Av Z H G) w s v/\∀w',(nQ (.binOp op t x y ty)=T'->Agr rw H G w w')->(execOp a.eval ⟨dst,.binOp op t x y ty,type,pos,after,guard⟩).run P w'=.ok (.value v) w':=by
    intro α xs A l c e hk hx hne hu;have hev:=ev A l c e hx hu;unfold Ut at hk;split at hk
    ·obtain⟨k1,k2⟩:=Bk hk;cases hA:A.isNone with
     |true=>exact⟨_,.bool b,k1,⟨[_],rfl,rfl⟩,λw' _=>by rw[hev w',hA];rfl⟩
     |false=>exact⟨_,.bool (!b),k2,⟨[_],rfl,rfl⟩,λw' _=>by rw[hev w',hA];rfl⟩
    ·have hA:=hne (by simp);exact⟨_,.bool (!b),hk,⟨[_],rfl,rfl⟩,λw' _=>by rw[hev w',hA];rfl⟩
   split at h<;>try (cases h;done)
   ·rename_i e xs i hs hi;split at h<;>try (cases h;done)
    rename_i e' he;obtain⟨hu,_⟩:=c8 (aG hT hi) he;obtain⟨cs,hrd,hv⟩:=aF hf hs;obtain⟨p,n,c,css,rfl,h1,h2,h3,h4,h5⟩:=hrd;refine nk h hv (λhne=>?_) hu
    have:0<n:=by
     rw[<-h1];cases xs with
     |nil=>exact absurd rfl hne
     |cons=>simp
    obtain⟨b,off,rfl,_⟩:=h5 this;rfl
   ·rename_i i hs hi;split at h<;>try (cases h;done)
    rename_i e' he;obtain⟨hu,_⟩:=c8 (aG hT hi) he;have hv:a.eval x=.slice N' 0 0:=aF hf hs;exact⟨_,.bool b,h,⟨[_],rfl,rfl⟩,λw' _=>by rw[ev N' 0 0 _ hv hu w'];rfl⟩
   ·rename_i j i hs hi;split at h<;>try (cases h;done)
    rename_i et e xs e' hj he;obtain⟨hu,_⟩:=c8 (aG hT hi) he;obtain⟨css,_,ho,ha2,hn0⟩:=hr.read hj (aF hf hs);rcases ho.2 with⟨e1,e2⟩|⟨g,cap,cur,e1,_⟩
    ·refine nk h e1 (λhne=>?_) hu;exact absurd (ao9 e2) hne
    ·exact nk h e1 (λ_=>rfl) hu
   ·rename_i j sz lo n i hs hi;split at h<;>try (cases h;done)
    rename_i e' he;obtain⟨hu,_⟩:=c8 (aG hT hi) he;obtain⟨g,q,c,_,hv,_,_,h5,_⟩:=aF hf hs;refine nk h hv (λhne=>?_) hu;obtain⟨b,N,c',_,_,rfl⟩:=h5 (aqm λe=>hne (by rw[e];rfl));rfl
 case h_16=>exact hflat h
 case h_17=>exact hflat h
 case h_18 t x ix=>
  split at h
  ·rename_i e y hs;split at h<;>try (cases h;done)
   rename_i kd n len et hm hu;split at h<;>try (cases h;done)
   rename_i i hi hb;split at h<;>try (cases h;done)
   rename_i z hz;obtain⟨cs,hrd,hv⟩:=aF hf hs;have h1:=CK hrd hz;refine⟨_,mkV i.ty _,h,⟨_,h1,rfl⟩,λw' _=>?_⟩;have hv':a.eval x=.agg cs.toArray:=by rw[hv];simp[mkV,Ty.isSt]
   have:=Ml (kd:=kd) rfl hu (aG hT hi) (anP hb) w' cs (Ty.rd_len h1) (JR hz);simp[execOp,hv',dh (aF hf hm),this]
  ·exact hflat h
 case h_19 t x lo hi mx=>
  split at h<;>try (cases h;done)
  rename_i e xs i hs hti;split at h<;>try (cases h;done)
  rename_i e' l hh m he hl hhh hm;split at h<;>try (cases h;done)
  rename_i hq hee _;split at h<;>try (cases h;done)
  rename_i hb;have hb:=anP hb;have hee:=hee.down;subst hee;have h2:=(ie hf hhh).resolve_left (by simp);have h3:=(ie hf hm).resolve_left (by simp);obtain⟨v,h1,h1c,h2⟩:=LO (aG hT hti) he (aF hf hs) (ie hf hl) h2 h3 hb;split at h
  ·rename_i _ hm;exact⟨_,v,h,h1c (anP hm),λw' _=>by simp only[execOp,ao7,aoM];have:=h2 w';simp only[ao7]at this;simp[this]⟩
  exact⟨_,v,h,dN h1,λw' _=>by simp only[execOp,ao7,aoM];have:=h2 w';simp only[ao7]at this;simp[this]⟩
 case h_20 x y z u _=>
  split at h<;>try (cases h;done)
  rename_i p q p' q' hp hq hp' hq';refine⟨_,.int .i64 (ad9 p q p' q'),h,⟨[_],rfl,rfl⟩,λw' _=>?_⟩;simp[execOp,resolve,invoke,builtin,dh (aF hf hp),dh (aF hf hq),dh (aF hf hp'),dh (aF hf hq'),Builtin.max_,Builtin.max2,ad9]
 case h_21 s x f=>
  split at h<;>try (cases h;done)
  rename_i e y hs;split at h<;>try (cases h;done)
  rename_i fs hu;split at h<;>try (cases h;done)
  rename_i fl hfl;split at h<;>try (cases h;done)
  rename_i i hi;split at h<;>try (cases h;done)
  rename_i z hz;obtain⟨cs,hrd,hv⟩:=aF hf hs;have h1:=CK hrd hz;refine⟨_,mkV i.ty _,h,⟨_,h1,rfl⟩,λw' _=>?_⟩;have hv':a.eval x=.agg cs.toArray:=by rw[hv];simp[mkV,Ty.isSt]
  have:=Mr hu hfl (aG hT hi) w' cs (Ty.rd_len h1) (JR hz);simp[execOp,hv',this]
 case h_22 x y z u _=>
  split at h<;>try (cases h;done)
  rename_i p q p' q' hp hq hp' hq';refine⟨_,.int .i64 (aeZ p q p' q'),h,⟨[_],rfl,rfl⟩,λw' _=>?_⟩;simp[execOp,resolve,invoke,builtin,dh (aF hf hp),dh (aF hf hq),dh (aF hf hp'),dh (aF hf hq'),Builtin.min_,Builtin.min2,aeZ,mn2];rfl
 case h_23=>cases h
end
end
section
def WF(f:SV->SV):SV->SV
 |.tup l=>.tup (l.map f)
 |s=>f s
def wx(f:SV->SV):SL->SL
 |[]=>[]
 |(t,s)::r=>(t,WF f s)::wx f r
def jY(f:SV->SV):Item->Item
 |.box t cs=>.box t (cs.map f)
 |.rws t cs=>.rws t (cs.map f)
 |it=>it
theorem K5(f:SV->SV)(it:Item):(jY f it).isRw=it.isRw:=by cases it<;>rfl
def jy(j:Nat)(s:SV):SV:=match s.of1 j with
 |true=>.dead
 |false=>s
def fz(j:Nat)(e:Ty)(xs:List e.D)(s:SV):SV:=match s.of1 j with
 |true=>match s with
  |.own _=>.d (.sl e) xs
  |.osl _ sz lo n=>match Nat.beq sz e.n with
   |true=>.d (.sl e) ((xs.drop lo).take n)
   |false=>.dead
  |_=>.dead
 |false=>s
theorem AP{f:SV->SV}:∀{L:SL} {t:Nat} {s:SV},aJ (wx f L) t=S' s->∃s0,aJ L t=S' s0/\s=WF f s0
 |[],t,s,h=>by simp[wx,aJ]at h
 |(k,x)::r,t,s,h=>by
  simp only[wx,aJ]at h ⊢;split at h
  ·injection h with h;exact⟨x,rfl,h.symm⟩
  ·exact AP h
section
variable {Z:Nat->Prop} {w0:World} {n:Nat} {L:SL} {H H':List Item} {G G':List Value} {w w':World} {a:Act}
theorem Rel.map{A A':Nat->Prop}{f:SV->SV}(hf:∀s v,Rel1 G A w s v->Rel1 G' A' w' (f s) v){s:SV}{v:Value}(h:Rel G A w s v):Rel G' A' w' (WF f s) v:=by
 cases s with
 |tup l=>
  obtain⟨vs,h1,h2⟩:=h;refine⟨vs,h1,?_⟩;clear h1;induction l generalizing vs with
  |nil=>cases vs<;>exact h2
  |cons s l ih=>
   match vs,h2 with
   |v::vs,⟨g1,g2⟩=>exact⟨hf s v g1,ih vs g2⟩
 |_=>exact dN (hf _ _ h)
theorem FR.map{f:SV->SV}(hf:∀s v,Rel1 G (Av Z H G) w s v->Rel1 G' (Av Z H' G') w' (f s) v)(h:FR Z n L H G w a):FR Z n (wx f L) H' G' w' a:=
 ⟨h.defers,h.size,λt s hs=>by
  obtain⟨s0,h1,rfl⟩:=AP hs;obtain⟨v,h2,h3⟩:=h.slot t s0 h1;exact⟨v,h2,h3.map hf⟩⟩
theorem FR.keep(hf:∀s v,Rel1 G (Av Z H G) w s v->Rel1 G' (Av Z H' G') w' s v)(h:FR Z n L H G w a):FR Z n L H' G' w' a:=
 ⟨h.defers,h.size,λt s hs=>by
  obtain⟨v,h2,h3⟩:=h.slot t s hs;refine⟨v,h2,?_⟩;have:=h3.map (f:=id) hf;cases s<;>simpa [WF]using this⟩
theorem sZ{j:Nat}{same:Prop}(hs:same):∀it:Item,WkI j same it it
 |.box t cs=>⟨rfl,by induction cs with|nil=>trivial|cons s l ih=>exact⟨.inr ⟨rfl,λ_=>hs⟩,ih⟩⟩
 |.rws t cs=>⟨rfl,by induction cs with|nil=>trivial|cons s l ih=>exact⟨.inr ⟨rfl,λ_=>hs⟩,ih⟩⟩
 |.row _ _ _=>rfl
 |.len _ _=>rfl
 |.gone=>rfl
theorem jG(hr:SR Z w0 H G w)(hb:Below w.heap.size w w'){it:Item}{g:Value}(hg:∀b,a9 g=S' b->w.heap.size<=b):Step w0 H.length True H (H++[it]) G (G++[g]) w w':=by
 have hl:=hr.len;refine⟨by simp[hl],?_,hb.size,λb hbw _=>hb.block b hbw,?_,?_,?_,?_,?_⟩
 ·exact hr.below.trans (hb.mono hr.below.size)
 ·grind
 ·intro i it' hi h1;rcases aov i H.length with hlt|hge
  ·rw[aob hlt]at h1;exact⟨it',h1,sZ trivial it'⟩
  grind
 ·grind
 ·grind
 ·intro a h1;rw[apd (by omega)]at h1;cases h1
theorem cU{j:Nat}(hr:SR Z w0 H G w)(hs:Step w0 j True H H' G G' w w'){s:SV}{v:Value}(h:Rel1 G (Av Z H G) w s v):Rel1 G' (Av Z H' G') w' s v:=hs.rel1 hr h (.inr ⟨rfl,λ_=>trivial⟩)
theorem uP(hr:SR Z w0 H G w)(hb:Below w.heap.size w w'){it:Item}{g:Value}(hg:∀b,a9 g=S' b->w.heap.size<=b)
  (hit:ItemRel w0.heap.size (G++[g]) (Av Z (H++[it]) (G++[g])) w' it g):SR Z w0 (H++[it]) (G++[g]) w':=by
 refine(jG hr hb hg).sr hr λit' g' h1 h2=>?_;grind [hr.len]
theorem vk(hr:SR Z w0 H G w)(hb:Below w.heap.size w w'):Step w0 H.length True H H G G w w':=by
 have hl:=hr.len;refine⟨hl,hr.below.trans (hb.mono hr.below.size),hb.size,λb hbw _=>hb.block b hbw,λi g _ h=>h,λi it' _ h=>⟨it',h,sZ trivial it'⟩,?_,λ_ g h=>h,λa h=>h⟩;grind
theorem Jh(hr:SR Z w0 H G w)(hb:Below w.heap.size w w'):SR Z w0 H G w':=
 (vk hr hb).sr hr λit' g' h1 _=>by rw[apd (anT _)]at h1;cases h1
theorem pz(hr:SR Z w0 H G w){j:Nat}{it it':Item}(hj:H[j]?=S' it)(hl:it.live=T')(hB:Below w0.heap.size w0 w')(hz:w.heap.size<=w'.heap.size)
  (hblk:∀b,b<w.heap.size->(∀g,G[j]?=S' g->a9 g≠S' b)->w'.heap[b]?=w.heap[b]?):Step w0 j True H (H.set j it') G G w w':=by
 refine⟨by simp[hr.len],hB,hz,λb hb hn=>hblk b hb λg hg=>hn it g hj hl hg,λi g _ h=>h,λi it'' hi h=>?_,?_,λ_ g h=>h,λa h=>h⟩
 ·simp_all [apH,sZ]
 grind
theorem Ep(hr:SR Z w0 H G w){j:Nat}{it it':Item}(hj:H[j]?=S' it)(hl:it.live=T')(hB:Below w0.heap.size w0 w')(hz:w.heap.size<=w'.heap.size)
  (hblk:∀b,b<w.heap.size->(∀g,G[j]?=S' g->a9 g≠S' b)->w'.heap[b]?=w.heap[b]?) (hit:∀g,G[j]?=S' g->ItemRel w0.heap.size G (Av Z (H.set j it') G) w' it' g):SR Z w0 (H.set j it') G w':=by
 refine(pz hr hj hl hB hz hblk).sr hr λit'' g' h1 h2=>?_;grind
theorem sW(j:Nat)(same:Prop)(s:SV):Wk j same s (jy j s):=by
 unfold jy;split
 ·exact .inl rfl
 ·rename_i h;exact .inr ⟨rfl,λh'=>by rw[h']at h;cases h⟩
theorem Nx(j:Nat)(same:Prop):∀it:Item,WkI j same it (jY (jy j) it)
 |.box t cs=>⟨rfl,by induction cs with|nil=>trivial|cons s l ih=>exact⟨sW j same s,ih⟩⟩
 |.rws t cs=>⟨rfl,by induction cs with|nil=>trivial|cons s l ih=>exact⟨sW j same s,ih⟩⟩
 |.row _ _ _=>rfl
 |.len _ _=>rfl
 |.gone=>rfl
theorem PO(hr:SR Z w0 H G w){j:Nat}{it it':Item}{g g':Value}(hj:H[j]?=S' it)(hm:it.isRw=T')(hg:G[j]?=S' g)(hnp:∀a,g≠.pointer a)(hgr:w.grownBy w' (a9 g))(hb:w0.heap.size<=w.heap.size)
  (hg':∀b,a9 g'=S' b->a9 g=S' b\/w.heap.size<=b):Step w0 j False H ((H.map (jY (jy j))).set j it') G (G.set j g') w w':=by
 have hlt:=(anX.1 hj).1;refine⟨by simp[hr.len],?_,hgr.size,?_,?_,?_,?_,λh=>h.elim,?_⟩
 ·refine hr.below.grown hgr hb λk hk=>((hr.items j _ g hj hg).blk (sU hm) hk).1 (V8 hm)
 ·intro b hb' hn;exact hgr.block b hb' λe1=>hn _ g hj (sU hm) hg e1.symm
 ·grind
 ·intro i it' hi h;rw[aoU,aog (apH hi),aoQ]at h;grind [ao7,anW,Nx]
 ·intro it' g1 b h1 h2 h3 h4;rw[aoU,aoz rfl,aoz (by rw[hr.len];exact hlt)]at h3;injection h3 with h3;subst h3;rcases hg' b h4 with h5|h5
  ·exact .inl ⟨_,g,hj,sU hm,hg,h5⟩
  ·exact .inr h5
 grind
theorem Q7{j:Nat}{et:TypeId}{e:Ty}{xs:List e.D}{g:Value}{A:Nat->Prop}(hr:SR Z w0 H G w)(hj:H[j]?=S' (.row et e xs))(hg:G[j]?=S' g)(hA:∀b,b<w.heap.size->Av Z H G b->A b)(hAj:∀b,a9 g=S' b->A b):(Ty.sl e).rd A w [g] xs:=by
 obtain⟨css,ho,ha2,hn⟩:=hr.items j _ g hj hg;have hk:Keeps (Av Z H G) A w w:=⟨anT _,hA,λ_ _ _=>rfl⟩
 have ha3:=aY (λ_ _ h=>Ty.rd_keep hk h) ha2;have hrd:=Rd.of_own hn ho;obtain⟨hlen,p,c,hv,h1,h2,h3⟩:=hrd;subst hv;refine⟨p,xs.length,c,css,rfl,rfl,h1,h2,ha3,λh0=>?_⟩;obtain⟨b,off,rfl,h5,h6⟩:=h3 h0;exact⟨b,off,rfl,hAj b rfl,h5,h6⟩
theorem UP{j lo n:Nat}{et:TypeId}{e:Ty}{xs:List e.D}{v:Value}{A:Nat->Prop}(hr:SR Z w0 H G w)(hj:H[j]?=S' (.row et e xs))(hv:Rel1 G (Av Z H G) w (.osl j e.n lo n) v)(hA:∀b,b<w.heap.size->Av Z H G b->A b)(hAj:∀g b,G[j]?=S' g->a9 g=S' b->A b):(Ty.sl e).rd A w [v] ((xs.drop lo).take n):=by
 obtain⟨g,q,c,hg,rfl,h1,h2,h3,_⟩:=hv;obtain⟨css,ho,ha2,hn⟩:=hr.items j _ g hj hg;have hk:Keeps (Av Z H G) A w w:=⟨anT _,hA,λ_ _ _=>rfl⟩
 have ha3:=aY (λ_ _ h=>Ty.rd_keep hk h) ha2;have hl4:=fv ha2
 have hN:0<n->lo+n<=xs.length:=λh0=>by
  grind [dB]
 refine⟨q,n,c,(css.drop lo).take n,rfl,?_,h1,h2,iY _ (iQ _ ha3),λh0=>?_⟩
 ·rcases aoG n with h0|h0
  ·subst h0;simp
  ·have:=hN h0;simp;omega
 ·obtain⟨b,N,c',rfl,h4,rfl⟩:=h3 h0;obtain⟨_,p,c1,hv,_,_,h6⟩:=Rd.of_own hn ho;injection hv with hv1 hv2 hv3;obtain⟨b',off,e1,h7,h8⟩:=h6 (by have:=hN h0;omega);rw[e1]at hv1;injection hv1 with hv1;injection hv1 with e2 e3;subst e2 e3;refine⟨b,lo*e.n,rfl,hAj _ b hg rfl,h7,λk u hu=>?_⟩;rw[eI _ (λl hm=>hl4 l (apq hm)),fU _ hl4,apm]at hu;split at hu
  ·rw[apl]at hu;have:=h8 _ _ hu;rwa [an2]at this
  ·cases hu
theorem LI{j:Nat}{et:TypeId}{e:Ty}{xs:List e.D}(hr:SR Z w0 H G w)(hj:H[j]?=S' (.row et e xs)):
  SR Z w0 ((H.map (jY (fz j e xs))).set j .gone) G w/\∀s v,Rel1 G (Av Z H G) w s v->Rel1 G (Av Z ((H.map (jY (fz j e xs))).set j .gone) G) w (fz j e xs s) v:=by
 have hlt:=(anX.1 hj).1;have hltG:j<G.length:=by rw[hr.len];exact hlt
 have hg:G[j]?=S' G[j]:=anN hltG;generalize hgg:G[j]=g at hg
 have hget:∀(i:Nat) it',((H.map (jY (fz j e xs))).set j .gone)[i]?=S' it'->(i=j/\it'=.gone)\/(i≠j/\∃it,H[i]?=S' it/\it'=jY (fz j e xs) it):=by
  grind
 have live:∀it:Item,(jY (fz j e xs) it).live=it.live:=λit=>by cases it<;>rfl
 have hsub:∀b,b<w.heap.size->Av Z H G b->Av Z ((H.map (jY (fz j e xs))).set j .gone) G b:=by
  intro b _ hA;refine⟨hA.1,λi it' g' h1 h2 h3=>?_⟩;rcases hget i it' h1 with⟨_,rfl⟩|⟨_,it,h4,rfl⟩
  ·cases h2
  ·exact hA.2 i it g' h4 (by rw[<-live];exact h2) h3
 have hAj:∀b,a9 g=S' b->Av Z ((H.map (jY (fz j e xs))).set j .gone) G b:=by
  intro b hb;refine⟨hr.zf b (((hr.items j _ g hj hg).blk rfl hb).1 rfl),λi it' g' h1 h2 h3=>?_⟩;rcases hget i it' h1 with⟨_,rfl⟩|⟨hij,it,h4,rfl⟩
  ·cases h2
  ·exact λh5=>hr.disj i j it _ g' g b hij h4 hj (by rw[<-live];exact h2) rfl h3 hg h5 hb
 have hk:Keeps (Av Z H G) (Av Z ((H.map (jY (fz j e xs))).set j .gone) G) w w:=⟨anT _,hsub,λ_ _ _=>rfl⟩
 have hrel:∀s v,Rel1 G (Av Z H G) w s v->Rel1 G (Av Z ((H.map (jY (fz j e xs))).set j .gone) G) w (fz j e xs s) v:=by
  intro s v h;unfold fz;split
  ·rename_i hof;split
   ·rename_i i;have:i=j:=anR hof;subst this;have h:G[i]?=some v:=h;rw[hg]at h;injection h with h;subst h;exact⟨[g],Q7 hr hj hg hsub hAj,rfl⟩
   ·rename_i i sz lo n;have:i=j:=anR hof;subst this;split
    ·rename_i hb;have:=anR hb;subst this;have hv:=UP hr hj h hsub (λg' b h1 h2=>hAj b (by rw[hg]at h1;injection h1 with h1;rw[h1];exact h2));exact⟨[v],hv,rfl⟩
    ·trivial
   ·trivial
  ·exact h.keep hk λi g' _ h=>h
 refine⟨⟨by simp[hr.len],hr.below,?_,?_,hr.zf⟩,hrel⟩
 ·intro i it' g' h1 h2;rcases hget i it' h1 with⟨_,rfl⟩|⟨hij,it,h4,rfl⟩
  ·trivial
  ·have hi:=hr.items i it g' h4 h2;cases it with
   |gone=>trivial
   |box t cs=>
    obtain⟨b,vs,rfl,k1,k2,k3⟩:=hi;refine⟨b,vs,rfl,k1,k2,?_⟩;clear k2 h4 h1;induction cs generalizing vs with
    |nil=>cases vs<;>exact k3
    |cons s l ih=>
     match vs,k3 with
     |v::vs,⟨q1,q2⟩=>exact⟨hrel s v q1,ih vs q2⟩
   |row et' e' xs'=>
    obtain⟨css,k1,k2,k3⟩:=hi;exact⟨css,k1,aY (λ_ _ h=>Ty.rd_keep hk h) k2,k3⟩
   |len e' xs'=>
    obtain⟨et',css,k1,k2,k3⟩:=hi;exact⟨et',css,k1,aY (λ_ _ h=>Ty.rd_keep hk h) k2,k3⟩
   |rws t cs=>
    obtain⟨vs,k1,k3⟩:=hi;refine⟨vs,by rw[apn];exact k1,?_⟩;clear k1 h4 h1;induction cs generalizing vs with
    |nil=>cases vs<;>exact k3
    |cons s l ih=>
     match vs,k3 with
     |v::vs,⟨q1,q2⟩=>exact⟨hrel s v q1,ih vs q2⟩
 ·intro i k it kt g1 h1 b hik a1 a2 a3 a4 a5 a6 a7;rcases hget i it a1 with⟨_,rfl⟩|⟨_,it0,b1,rfl⟩
  ·cases a3
  ·rcases hget k kt a2 with⟨_,rfl⟩|⟨_,kt0,c1,rfl⟩
   ·cases a4
   ·exact hr.disj i k it0 kt0 g1 h1 b hik b1 c1 (by rw[<-live];exact a3) (by rw[<-live];exact a4) a5 a6 a7
end
end
def inv(_:World):Prop:=True
theorem kp{w w':World}(_:inv w)(_:Below w.heap.size w w'):inv w':=trivial
theorem Ny{w:World}:inv w:=trivial
section
inductive RV where
 |d (t:Ty) (x:t.D)
 |new (et:TypeId) (e:Ty) (xs:List e.D)
structure aeE where
 ret:Bool
 g:List Int->List Int
 bx:Option Nat:=N'
structure cE where
 keep:Bool
 run:(R:Type)->List SV->(List RV->Option R)->Option R
 mut_:Option aeE:=N'
 tame:Bool:=F'
 lent:Option (Nat×((R:Type)->List SV->(List RV->Option R)->Option R)):=N'
abbrev Env:=List (Nat×cE)
def lO:Env->Nat->Option cE
 |[],_=>none
 |(k,x)::r,t=>match Nat.beq k t with
  |true=>some x
  |false=>lO r t
def QX(E:Env)(f:Nat):Option aeE:=match lO E f with
 |some sp=>match sp.mut_ with
  |some g=>match g.bx with
   |some _=>none
   |none=>some g
  |none=>none
 |none=>none
def Ty.zsplit:Ty->List SV
 |.pair a b=>a.zsplit++b.zsplit
 |.st a=>a.zsplit
 |.int k=>[.d (.int k) (0:Int)]
 |.bool=>[.d .bool false]
 |.str=>[.d .str ⟨#[]⟩]
 |.sl _=>[.nil]
def BN(e:Ty):Nat->List SV->Option (List e.D)
 |0,[]=>some []
 |0,_=>none
 |n+1,l=>match e.join l with
  |some (x,r)=>match BN e n r with
   |some xs=>some (x::xs)
   |none=>none
  |none=>none
def mD{α:Type}(l:List α):Nat->List α
 |0=>[]
 |n+1=>l++mD l n
def sF(fl j:Nat)(L:SL)(H:List Item):Option (SL×List Item):=match Nat.ble fl j,H[j]? with
 |true,some (.row _ e xs)=>some (wx (fz j e xs) L,(H.map (jY (fz j e xs))).set j .gone)
 |_,_=>none
def pO(fl:Nat):List Operand->SL->List Item->Option (SL×List Item)
 |[],L,H=>some (L,H)
 |x::r,L,H=>match opS L x with
  |some (.own j)=>match sF fl j L H with
   |some (L',H')=>pO fl r L' H'
   |none=>none
  |some (.osl j _ _ _)=>match sF fl j L H with
   |some (L',H')=>pO fl r L' H'
   |none=>none
  |_=>pO fl r L H
def SV.isOwn:SV->Bool
 |.own _=>true
 |_=>false
def fzS(fl:Nat):List SV->SL->List Item->Option (SL×List Item)
 |[],L,H=>some (L,H)
 |.own j::r,L,H=>match sF fl j L H with
  |some (L',H')=>fzS fl r L' H'
  |none=>none
 |_::r,L,H=>fzS fl r L H
def am8(T:TT)(t:Nat)(x:Option SV)(H:List Item):List SV:=match x with
 |some (.box j off)=>match H[j]? with
  |some (.box _ cells)=>match(cells.drop off).any SV.isOwn with
   |true=>match dk T t with
    |some i=>match i.ty.isSt with
     |true=>(cells.drop off).take i.ty.n
     |false=>[]
    |none=>[]
   |false=>[]
  |_=>[]
 |_=>[]
def fzB(T:TT)(fl:Nat)(o:Oper)(L:SL)(H:List Item):Option (SL×List Item):=match o.op with
 |.build _ parts=>pO fl (parts.toList.map (·.2)) L H
 |.load t x=>fzS fl (am8 T t (opS L x) H) L H
 |_=>some (L,H)
def IA:Operand->Operand->Bool
 |.tmp a,.tmp b=>Nat.beq a b
 |_,_=>false
def fh(T:TT)(H:List Item):List SV->List Nat->Option (List SV)
 |[],[]=>some []
 |s::l,t::ts=>match fh T H l ts with
  |some r=>match s with
   |.d t x=>some (.d t x::r)
   |.nil=>match dk T t with
    |some i=>match i.ty with
     |.sl e=>some (.d (.sl e) []::r)
     |_=>none
    |none=>none
   |.own j=>match H[j]? with
    |some (.row _ e xs)=>some (.d (.sl e) xs::r)
    |_=>none
   |.cut e xs=>some (.d (.sl e) xs::r)
   |.osl j sz lo n=>match H[j]? with
    |some (.row _ e xs)=>match Nat.beq sz e.n with
     |true=>some (.d (.sl e) ((xs.drop lo).take n)::r)
     |false=>none
    |_=>none
   |_=>none
  |none=>none
 |_,_=>none
def SV.noOwn:SV->Bool
 |.own _=>false
 |.osl _ _ _ _=>false
 |_=>true
def RV.flat:RV->Bool
 |.d t _=>t.flat
 |.new _ _ _=>false
def yv(rs:List RV):Bool:=match rs with
 |[.new _ e _]=>e.flat
 |rs=>rs.all RV.flat
def rvS:List RV->Option (List SV)
 |[]=>some []
 |.d t x::r=>match rvS r with
  |some l=>some (.d t x::l)
  |none=>none
 |.new _ e xs::r=>match rvS r with
  |some l=>some (.d (.sl e) xs::l)
  |none=>none
section
variable {R:Type}
def pU(H:List Item)(rs:List RV)(k:SV->List Item->Option R):Option R:=match rs with
 |[.new et e xs]=>k (.own H.length) (H++[.row et e xs])
 |[.d t x]=>k (.d t x) H
 |rs=>match rvS rs with
  |some l=>k (.tup l) H
  |none=>none
def so:Nat->List SV->Bool
 |0,.own _::l=>l.all SV.noOwn
 |p+1,s::l=>s.noOwn&&so p l
 |_,_=>false
def XQ(E:Env)(L:SL)(f:Nat)(args:List Operand):Option ((List SV)×((R:Type)->List SV->(List RV->Option R)->Option R)):=match lO E f with
 |some sp=>match sp.lent with
  |some (p,g)=>match zD L args with
   |some ss=>match so p ss with
    |true=>some (ss,g)
    |false=>none
   |none=>none
  |none=>none
 |none=>none
def NU(T:TT)(E:Env)(fl:Nat)(L:SL)(H:List Item)(f:Nat)(args:List Operand)(tys:List Nat)(k:SV->List Item->SL->Option R):Option R:=
 match XQ E L f args with
 |some (ss,g)=>match fh T (H.map rdI) ss tys with
  |some al=>g R al λrs=>pU H rs λs H'=>k s H' L
  |none=>none
 |none=>match lO E f with
 |some sp=>match sp.keep with
  |true=>match zD L args with
   |some ss=>match fh T H ss tys with
    |some al=>sp.run R al λrs=>match yv rs with
     |true=>pU H rs λs H'=>k s H' L
     |false=>none
    |none=>none
   |none=>none
  |false=>match pO fl args L H with
   |some (L',H')=>match zD L' args with
    |some ss=>match fh T H' ss tys,ss.all SV.noOwn with
     |some al,true=>sp.run R al λrs=>pU H' rs λs H''=>k s H'' L'
     |_,_=>none
    |none=>none
   |none=>none
 |none=>none
def afZ(H:List Item)(j:Nat):SV:=match H[j]? with
 |some (.box _ [.d (.int .i64) x])=>.elt (.int .i64) x 0
 |_=>.dead
def Og(T:TT)(E:Env)(L:SL)(H:List Item)(f:Nat)(caps:List Nat)(args:List Operand)(tys:List Nat)(k:SV->List Item->Option R):Option R:=match lO E f with
 |some sp=>match sp.keep,zD L args with
  |true,some ss=>match fh T H ss tys with
   |some al=>sp.run R (al++caps.map (afZ H)) λrs=>match yv rs with
    |true=>pU H rs k
    |false=>none
   |none=>none
  |_,_=>none
 |none=>none
def uG(H:List Item):SV->Bool
 |.own j=>match H[j]? with
  |some (.row _ _ _)=>true
  |_=>false
 |_=>false
def Ui(L:SL)(len:Nat):List (Nat×Operand)->Option Nat
 |[(0,x)]=>match Nat.beq len 1,opS L x with
  |true,some (.own j)=>some j
  |_,_=>none
 |_=>none
def jr{α:Type}(z:α)(lo n:Nat)(xs:List α):List α:=xs.take lo++List.replicate n z++xs.drop (lo+n)
def eop(T:TT)(E:Env)(fl:Nat)(L:SL)(H:List Item)(o:Oper)(k:SV->List Item->SL->Option R):Option R:=
 match o.op with
 |.box t x=>match opS L x with
  |some s=>match fB H s with
   |some cs=>k (.box H.length 0) (H++[.box t cs]) L
   |none=>none
  |none=>none
 |.alloc t=>match dk T t with
  |some i=>match i.z,i.ty with
   |_,.pair _ _=>none
   |true,ty=>k (.box H.length 0) (H++[.box t ty.zsplit]) L
   |_,_=>none
  |none=>none
 |.buildSlice t len parts=>match Ui L len parts.toList with
  |some j=>match H[j]?,dk T t with
   |some (.row _ _ _),some i=>match i.ty with
    |.sl (.sl _)=>k (.own H.length) (H++[.rws i.el [.own j]]) L
    |_=>none
   |_,_=>none
  |none=>match dk T t with
   |some i=>match i.ty with
    |.sl e=>match pO fl (parts.toList.map (·.2)) L H with
     |some (L',H')=>match rA H' L' (λq=>some (q*e.n,e.n)) (mD (e.split e.zero) len) parts.toList with
      |some cs=>match BN e len cs,Nat.ble (len*e.n) 16777216 with
       |some xs,true=>k (.own H'.length) (H'++[.row i.el e xs]) L'
       |_,_=>none
      |none=>none
     |none=>none
    |_=>none
   |none=>none
 |.makeSlice t x y=>match IA x y,opS L x,dk T t with
  |true,some (.d (.int _) n),some i=>match i.ty with
   |.sl (.sl _)=>match decide (0<=n/\n*i.byt<=140737488355328/\n<=140737488355328)with
    |true=>k (.own H.length) (H++[.rws i.el (List.replicate n.toNat .nil)]) L
    |false=>none
   |.sl e=>match decide (0<=n/\n*i.byt<=140737488355328/\n<=140737488355328)with
    |true=>k (.own H.length) (H++[.row i.el e (List.replicate n.toNat e.zero)]) L
    |false=>none
   |_=>none
  |false,some (.d (.int _) m),some i=>match opS L y,i.ty with
   |some (.d (.int _) n),.sl e=>match decide (m=0/\0<=n/\n*i.byt<=140737488355328/\n<=140737488355328)with
    |true=>k (.own H.length) (H++[.row i.el e []]) L
    |false=>none
   |_,_=>none
  |_,_,_=>none
 |.store t x v=>match opS L x,opS L v,dk T t with
  |some (.box j off),some s,some i=>match H[j]?,fB H s with
   |some (.box bt cells),some l=>match Nat.beq l.length i.ty.n&&Nat.ble (off+l.length) cells.length with
    |true=>k .undef (H.set j (.box bt (nT cells off l))) L
    |false=>none
   |_,_=>none
  |some (.oelt j sz m off),some (.d t' y),some i=>match true,H[j]? with
   |true,some (.row et e xs)=>match Nat.beq sz e.n&&Nat.beq t'.n i.ty.n,xs[m]? with
    |true,some x=>match t',e.upd x off t' y with
     |.pair _ _,_=>none
     |_,some x'=>k .undef (H.set j (.row et e (xs.set m x'))) L
     |_,none=>none
    |_,_=>none
   |_,_=>none
  |some (.oelt j sz m off),some s,some i=>match H[j]? with
   |some (.rws et cells)=>match Nat.beq sz 1&&Nat.beq off 0&&i.ty.isSl&&Nat.ble (m+1) cells.length,fB H s with
    |true,some [s']=>k .undef (H.set j (.rws et (cells.set m s'))) L
    |_,_=>none
   |_=>none
  |_,_,_=>none
 |.call ⟨.builtin .append,⟨[x,y]⟩,⟨[t,t']⟩⟩=>match Nat.beq t t',dk T t with
  |true,some i=>match i.ty with
   |.sl e=>match fh T (H.map rdI) ((opS L y).toList) [t]with
    |some [.d (.sl e') ys]=>match fa (.sl e') (.sl e) ys with
     |some ys=>match opS L x with
      |some (.own j)=>match Nat.ble fl j,H[j]? with
       |true,some (.row et e0 xs)=>match Nat.beq et i.el,fa (.sl e0) (.sl e) xs with
        |true,some xs=>match decide ((xs.length+ys.length)*i.byt<=140737488355328/\xs.length+ys.length<=140737488355328)with
         |true=>k (.own j) ((H.map (jY (jy j))).set j (.row i.el e (xs++ys))) (wx (jy j) L)
         |false=>none
        |_,_=>none
       |_,_=>none
      |some (.osl j sz lo n)=>match Nat.beq lo 0&&Nat.ble fl j,H[j]? with
       |true,some (.row et e0 xs)=>match Nat.beq sz e0.n&&Nat.beq et i.el,fa (.sl e0) (.sl e) xs with
        |true,some xs=>match decide (n<=xs.length/\((xs.take n).length+ys.length)*i.byt<=140737488355328/\(xs.take n).length+ys.length<=140737488355328)with
         |true=>k (.own j) ((H.map (jY (jy j))).set j (.row i.el e (xs.take n++ys))) (wx (jy j) L)
         |false=>none
        |_,_=>none
       |_,_=>none
      |some .nil=>match decide (ys.length*i.byt<=140737488355328/\ys.length<=140737488355328)with
       |true=>k (.own H.length) (H++[.row i.el e ys]) L
       |false=>none
      |some (.cut e0 xs)=>match fa (.sl e0) (.sl e) xs with
       |some xs=>match decide (xs≠[]/\ys≠[]/\(xs.length+ys.length)*i.byt<=140737488355328/\xs.length+ys.length<=140737488355328)with
        |true=>k (.own H.length) (H++[.row i.el e (xs++ys)]) L
        |false=>none
       |none=>none
      |_=>none
     |none=>none
    |_=>match opS L x,opS L y with
     |some (.own j),some (.own j2)=>match Nat.ble fl j,H[j]?,H[j2]? with
      |true,some (.rws et cs),some (.rws _ ys)=>match Nat.beq et i.el&&Nat.beq e.n 1&&ys.all (uG H),decide ((cs.length+ys.length)*i.byt<=140737488355328/\cs.length+ys.length<=140737488355328)with
       |true,true=>k (.own j) ((H.map (jY (jy j))).set j (.rws i.el ((cs++ys).map (jy j)))) (wx (jy j) L)
       |_,_=>none
      |_,_,_=>none
     |some .nil,some (.own j2)=>match H[j2]? with
      |some (.rws _ ys)=>match Nat.beq e.n 1&&ys.all (uG H),decide (ys.length*i.byt<=140737488355328/\ys.length<=140737488355328)with
       |true,true=>k (.own H.length) (H++[.rws i.el ys]) L
       |_,_=>none
      |_=>none
     |_,_=>none
   |_=>none
  |_,_=>none
 |.call ⟨.builtin .clear,⟨[x]⟩,⟨[t]⟩⟩=>match opS L x with
  |some (.osl j sz lo n)=>match H[j]? with
   |some (.row et e0 xs)=>match dk T t with
    |some i=>match Nat.beq sz e0.n&&Nat.beq et i.el with
     |true=>match i.ty with
      |.sl e=>match fa (.sl e0) (.sl e) xs with
       |some xs=>k (.tup []) (H.set j (.row et e (jr e.zero lo n xs))) L
       |none=>none
      |_=>none
     |false=>none
    |none=>none
   |_=>none
  |_=>none
 |.call ⟨.value f,args,tys⟩=>match opS L f with
  |some (.clo f [])=>match QX E f with
   |some g=>match args.toList with
    |[x]=>match opS L x with
     |some (.own j)=>match Nat.ble fl j,H[j]? with
      |true,some (.row et (.int .i64) xs)=>match decide (xs.length<=140737488355328)with
       |true=>match g.ret with
        |false=>k (.tup []) (H.set j (.row et (.int .i64) (g.g xs))) L
        |true=>k (.own j) ((H.map (jY (jy j))).set j (.row et (.int .i64) (g.g xs))) (wx (jy j) L)
       |false=>none
      |_,_=>none
     |_=>none
    |_=>none
   |none=>NU T E fl L H f args.toList tys.toList k
  |some (.clo f (j::cs))=>Og T E L H f (j::cs) args.toList tys.toList λs H'=>k s H' L
  |_=>none
 |_=>none
end
def wh(E:Env)(L:SL):Op->Bool
 |.call ⟨.value f,_,_⟩=>match opS L f with
  |some (.clo f [])=>(QX E f).isSome
  |_=>false
 |_=>false
def aj4(P:Program)(f:Nat)(g:List Int->List Int):Prop:=
 ∀(w:World) (base et:Nat) (v:Value) (xs:List Int),w.ownsRow base et 1 v xs.length (xs.map (Value.int .i64))->xs.length<=140737488355328->
  Calls P f #[v] w λe w'=>e=.returned (.tuple #[])/\w'.ownsRow base et 1 v xs.length ((g xs).map (Value.int .i64))/\(g xs).length=xs.length/\w.grownBy w' (a9 v)
def akl(P:Program)(f:Nat)(g:List Int->List Int):Prop:=
 ∀(w:World) (base et:Nat) (v:Value) (xs:List Int),w.ownsRow base et 1 v xs.length (xs.map (Value.int .i64))->xs.length<=140737488355328->
  Calls P f #[v] w λe w'=>∃v',e=.returned v'/\w'.ownsRow base et 1 v' (g xs).length ((g xs).map (Value.int .i64))/\w.grownBy w' (a9 v)/\a9 v'=a9 v
def aiw(P:Program)(f t:Nat):Prop:=
 ∀(w:World) (c:Nat) (b ok:Bool) (x y:Int),inv w->Blk w c t #[.bool b]->
  Calls P f #[.pointer (S' ⟨c,0,N'⟩),.agg #[.int .i64 x,.int .i64 y],.bool ok] w λe w'=>e=.returned (.agg #[.int .i64 x,.int .i64 y])/\Blk w' c t #[.bool (b&&ok)]/\w.grownBy w' (S' c)
def ME(P:Program)(f:Nat)(m:aeE):Prop:=match m.bx with
 |some t=>aiw P f t
 |none=>match m.ret with
  |false=>aj4 P f m.g
  |true=>akl P f m.g
def sB(A:Nat->Prop)(base:Nat)(w:World)(rs:List RV)(v:Value):Prop:=match rs with
 |[.new et e xs]=>∃css,w.ownsRow base et e.n v xs.length (List.flatten css)/\bJ (λl y=>e.rd (λb=>A b/\a9 v≠some b) w l y) css xs/\0<e.n
 |[.d t x]=>Rel1 [] A w (.d t x) v
 |rs=>∃vs:List Value,v=.tuple vs.toArray/\∃l,rvS rs=some l/\bJ (Rel1 [] A w) l vs
def Con(P:Program)(f:Nat)(args:List SV)(rs:List RV):Prop:=
 ∀(A:Nat->Prop) (w:World) (vs:List Value),inv w->bJ (Rel1 [] A w) args vs->Calls P f vs.toArray w λe w'=>∃v,e=.returned v/\Below w.heap.size w w'/\sB (λb=>A b\/w.heap.size<=b) w.heap.size w' rs v
def KS(A:Nat->Prop)(w:World)(s:SV)(v:Value):Prop:=∃(e:Ty) (xs:List e.D) (et:TypeId) (css:List (List Value)),s=.d (.sl e) xs/\w.ownsRow 0 et e.n v xs.length (List.flatten css)/\bJ (λl y=>e.rd A w l y) css xs/\0<e.n/\∀b,a9 v=S' b->¬A b
def Vz(A:Nat->Prop)(w:World):Nat->List SV->List Value->Prop
 |0,s::l,v::vs=>KS A w s v/\bJ (Rel1 [] A w) l vs
 |p+1,s::l,v::vs=>Rel1 [] A w s v/\Vz A w p l vs
 |_,_,_=>False
def Iz(P:Program)(f p:Nat)(args:List SV)(rs:List RV):Prop:=
 ∀(A:Nat->Prop) (w:World) (vs:List Value),inv w->Vz A w p args vs->Calls P f vs.toArray w λe w'=>∃v,e=.returned v/\Below w.heap.size w w'/\sB (λb=>A b\/w.heap.size<=b) w.heap.size w' rs v
def Eh(P:Program)(f:Nat)(sp:cE):Prop:=∀p g,sp.lent=S' (p,g)->∀(R:Type) args (k:List RV->Option R) r,g R args k=S' r->∃rs,k rs=S' r/\Iz P f p args rs
def Dm(P:Program)(f:Nat)(sp:cE):Prop:=∀(R:Type) args (k:List RV->Option R) r,sp.run R args k=S' r->∃rs,k rs=S' r/\Con P f args rs
def cS(P:Program)(g:Nat):Bool:=match P.funcs[g]? with
 | some fn => !(fn.name == "runtime.NumGoroutine") && fn.body.isSome
 |none=>false
def kN(P:Program)(E:Env):Prop:=∀f sp,lO E f=S' sp->cS P f=T'/\Dm P f sp/\(∀g,sp.mut_=S' g->ME P f g)/\Eh P f sp
end
end Go.Proofs.YtoimchcjhdcdmaaGreat
end
