/- The pure machine's quiet operations are the machine's. -/
import Derived.Test.YtmnlppieefomnaaGreatDoorN1
import Derived.Lib.LazyBuf
import Derived.Maps.Own
import Derived.Maps.StringElems
noncomputable section
namespace Go.Proofs.YtmnlppieefomnaaGreatDoor
open Go.RowKit Go.IntKind
theorem amj:type_of% @of_decide_eq_true:=@of_decide_eq_true
theorem amC:type_of% @List.all_eq_true:=@List.all_eq_true
theorem amD:type_of% @List.length_cons:=@List.length_cons
theorem amE:type_of% @List.getElem?_append_left:=@List.getElem?_append_left
theorem amN:type_of% @List.getElem?_append_right:=@List.getElem?_append_right
theorem amO:type_of% @List.append_nil:=@List.append_nil
theorem amU:type_of% @List.length_append:=@List.length_append
theorem am7:type_of% @of_decide_eq_false:=@of_decide_eq_false
theorem am8:type_of% @Nat.eq_zero_or_pos:=@Nat.eq_zero_or_pos
theorem anj:type_of% @List.take_of_length_le:=@List.take_of_length_le
theorem ank:type_of% @List.getElem?_set:=@List.getElem?_set
theorem ann:type_of% @List.flatten_cons:=@List.flatten_cons
theorem anv:type_of% @List.mem_of_mem_take:=@List.mem_of_mem_take
theorem anz:type_of% @Option.map_some:=@Option.map_some
theorem anA:type_of% @List.length_map:=@List.length_map
theorem anC:type_of% @List.eq_nil_of_length_eq_zero:=@List.eq_nil_of_length_eq_zero
theorem anH:type_of% @List.getElem?_eq_none:=@List.getElem?_eq_none
theorem anN:type_of% @List.getElem?_drop:=@List.getElem?_drop
theorem anO:type_of% @List.getElem?_take:=@List.getElem?_take
theorem anS:type_of% @List.mem_of_mem_drop:=@List.mem_of_mem_drop
theorem an5:type_of% @Nat.succ_mul:=@Nat.succ_mul
theorem an6:type_of% @List.foldl_cons:=@List.foldl_cons
theorem aoi:type_of% @Nat.add_assoc:=@Nat.add_assoc
theorem aoM:type_of% @Bool.false_eq_true:=@Bool.false_eq_true
theorem aoN:type_of% @Nat.pos_of_ne_zero:=@Nat.pos_of_ne_zero
theorem aoQ:type_of% @Nat.add_zero:=@Nat.add_zero
theorem aoR:type_of% @List.headD_cons:=@List.headD_cons
theorem apa:type_of% @Tryz.underlying9:=@Tryz.underlying9
theorem ape:type_of% @Nat.zero_mul:=@Nat.zero_mul
section
structure FR (Z:Nat->Prop) (n:Nat) (L:SL) (H:List Item) (G:List Value) (w:World) (a:Act):Prop where
 defers:a.defers=[]
 size:a.tmps.size=n
 slot:∀t s,aI L t=some s->∃v,a.tmps[t]?=some v/\Rel G (Av Z H G) w s v
def jv(H:List Item)(G:List Value)(b:Nat):Prop:=∃(j:Nat) (it:Item) (g:Value),H[j]?=some it/\it.isRw=true/\G[j]?=some g/\a9 g=some b
def Agr(rw:Bool)(H:List Item)(G:List Value)(w w':World):Prop:=w.heap.size<=w'.heap.size/\∀b,b<w.heap.size->(rw=true\/¬jv H G b)->w'.heap[b]?=w.heap[b]?
theorem Agr.refl{rw:Bool}{H:List Item}{G:List Value}{w:World}:Agr rw H G w w:=⟨amm _,λ_ _ _=>rfl⟩
theorem dM{G:List Value}{A:Nat->Prop}{w:World}{s:SV}{v:Value}(h:Rel1 G A w s v):Rel G A w s v:=by cases s<;>first|exact h|exact h.elim
theorem nT{G:List Value}{A:Nat->Prop}{w:World}{s:SV}{v:Value}(h:Rel G A w s v)(hg:∀l,s≠.tup l):Rel1 G A w s v:=by cases s<;>first|exact h|exact(hg _ rfl).elim
section
variable {G:List Value} {A:Nat->Prop} {w:World}
theorem uu{v:Value}{s:SV}(h:ot v=some s):Rel1 G A w s v:=by
 unfold ot at h;split at h<;>first|(injection h with h;subst h;exact⟨[_],rfl,rfl⟩)|cases h
theorem FY{v:Value}{s:SV}(h:ot v=some s):∃t x,s=.d t x/\t.isSt=false/\t.n=1:=by
 unfold ot at h;split at h<;>first|(injection h with h;subst h;exact⟨_,_,rfl,rfl,rfl⟩)|cases h
theorem DR{v:Value}{t:Ty}{x:t.D}(h:ot v=some (.d t x)):t.rd A w [v] x:=by
 obtain⟨t',x',e,h1,h2⟩:=FY h;injection e with e1 e2;subst e1;exact EW h1 h2 (uu (G:=[]) h)
theorem An:∀{l:List Value} {t:Ty} {x:t.D},ud l=some ⟨t,x⟩->t.rd A w l x
 |[],t,x,h=>by simp[ud]at h
 |[v],t,x,h=>by
  simp only[ud]at h;split at h
  ·rename_i t' x' hv;injection h with h;cases h;exact DR hv
  ·cases h
 |v::u::l,t,x,h=>by
  simp only[ud]at h;split at h
  ·rename_i t1 x1 t2 x2 h1 h2;injection h with h;cases h;exact⟨[v],u::l,rfl,DR h1,An h2⟩
  ·cases h
theorem Fv{v:Value}{s:SV}(h:FI v=some s):Rel1 G A w s v:=by
 unfold FI at h;split at h
 ·injection h with h;subst h;rfl
 ·split at h
  ·rename_i cs t x hc;injection h with h;subst h;refine⟨_,An (t:=t) hc,?_⟩;rfl
  grind
 grind [uu]
end
section
variable {Z:Nat->Prop} {w0:World} {n:Nat} {L:SL} {H:List Item} {G:List Value} {w:World} {a:Act}
theorem aE(hf:FR Z n L H G w a){x:Operand}{s:SV}(h:opS L x=some s):Rel G (Av Z H G) w s (a.eval x):=by
 cases x with
 |tmp t=>
  obtain⟨v,h1,h2⟩:=hf.slot t s h;simp_all [Act.eval]
 |const v=>exact dM (Fv h)
 |global g=>simp[opS]at h
 |func f=>simp only[opS,amp]at h;subst h;exact⟨[],trivial,rfl⟩
theorem val?_rel{s:SV}{v u:Value}{A:Nat->Prop}(h:Rel G A w s u)(hv:val? s=some v):u=v:=by
 unfold val? at hv;split at hv
 ·split at hv
  ·obtain⟨cs,h1,h2⟩:=h;grind [qn]
  grind
 grind
theorem SE(hf:FR Z n L H G w a){x:Operand}(h:(match opS L x with|some s=>(val? s).isSome|none=>false)=true):a.eval x=opV L x:=by
 unfold opV;cases hs:opS L x with
 |none=>rw[hs]at h;cases h
 |some s=>
  rw[hs]at h;dsimp only at h ⊢;obtain⟨v,hv⟩:=ana.1 h;rw[hv];exact val?_rel (aE hf hs) hv
theorem K8(hf:FR Z n L H G w a){o:Oper}(h:BL L o.op=true):execOp a.eval o=execOp (opV L) o:=by
 simp only[BL,aml]at h;refine execOp_congr o (λcs b e=>?_) (λx hx=>SE hf (amC.1 h.1 x (by simpa using hx)));grind
theorem Bm{P:Program}{R:Type}{o:Oper}{k:SV->Option R}{r:R}(hf:FR Z n L H G w a)(h:me P L o k=some r):
  ∃s v,k s=some r/\Rel1 G (Av Z H G) w s v/\∀w',(execOp a.eval o).run P w'=.ok (.value v) w':=by
 unfold me at h;split at h
 ·cases h
 ·rename_i hfl;rw[K8 hf hfl]
  have gen:(match evT P (execOp (opV L) o) []with
    |some (.value v,[])=>match ot v with|some s=>k s|none=>none
    |_=>none)=some r->∃s v,k s=some r/\Rel1 G (Av Z H G) w s v/\∀w',(execOp (opV L) o).run P w'=.ok (.value v) w':=by
   intro h;split at h
   ·rename_i v he;split at h
    ·rename_i s hs;exact⟨s,v,h,uu hs,λw'=>I0 _ _ _ _ he trivial⟩
    ·cases h
   ·cases h
  obtain⟨dst,op,type,pos,after,guard⟩:=o;dsimp only at h;split at h;case h_7=>exact gen h
  ·rename_i t x y yt;split at h<;>try (cases h;done)
   all_goals
    rename_i p q hp hq;split at h<;>try (cases h;done)
    rename_i hb;have hb:=am7 hb;refine⟨_,_,h,⟨[_],rfl,rfl⟩,λw'=>?_⟩;simp[execOp,hp,hq,eqGuard,binOp,Op.intDiv,hb,mkV,Ty.isSt]
  ·rename_i t x y yt;split at h<;>try (cases h;done)
   all_goals
    rename_i p q hp hq;split at h<;>try (cases h;done)
    rename_i hb;have hb:=am7 hb;refine⟨_,_,h,⟨[_],rfl,rfl⟩,λw'=>?_⟩;simp[execOp,hp,hq,eqGuard,binOp,Op.intDiv,hb,mkV,Ty.isSt]
  ·rename_i t x y yt;split at h<;>try (cases h;done)
   rename_i kd p kd' q hp hq;split at h<;>try (cases h;done)
   rename_i hb;have hb:=am7 hb;refine⟨_,_,h,⟨[_],rfl,rfl⟩,λw'=>?_⟩;simp[execOp,hp,hq,eqGuard,binOp,Op.shift,hb,mkV,Ty.isSt]
  ·rename_i t x y yt;split at h<;>try (cases h;done)
   rename_i kd p kd' q hp hq;split at h<;>try (cases h;done)
   rename_i hb;have hb:=am7 hb;refine⟨_,_,h,⟨[_],rfl,rfl⟩,λw'=>?_⟩;simp[execOp,hp,hq,eqGuard,binOp,Op.shift,hb,mkV,Ty.isSt]
  ·rename_i t x y yt;split at h
   ·rename_i xs ys hx hy;split at h<;>try (cases h;done)
    rename_i rr hg hr;refine⟨_,_,h,⟨[_],rfl,rfl⟩,λw'=>?_⟩;simp only[execOp,hx,hy,anf,run_eqGuard_agg w' .eql t x y xs ys hg,amK,run_eql_struct,sf _ _ _ _ _ w' hr,anF];rfl
   ·exact gen h
  ·rename_i t x y yt;split at h
   ·rename_i xs ys hx hy;split at h<;>try (cases h;done)
    rename_i rr hg hr;refine⟨_,_,h,⟨[_],rfl,rfl⟩,λw'=>?_⟩;simp only[execOp,hx,hy,anf,run_eqGuard_agg w' .neq t x y xs ys hg,amK,run_neq_struct,sf _ _ _ _ _ w' hr,anF];rfl
   ·exact gen h
end
end
section
theorem jK{P:Program}(w:World)(b o:Nat)(ty:TypeId)(v:Value)(d:TypeDesc)(hc:w.cell? ⟨b,o,none⟩=some v)(hu:P.underlying ty=some d)(hd:d.isRow=false):
  (Instr.loadAt ty (.pointer (some ⟨b,o,none⟩))).run P w=.ok v w:=by
 have hagg:(isAgg ty).run P w=.ok false w:=by
  unfold isAgg;rw[anf,amP hu w];cases d<;>simp_all
 have hl:(load ⟨b,o,none⟩).run P w=.ok v w:=by simp only[load,Sem.run,hc]
 simp only[Instr.loadAt,Instr.sureAddr,loadVar,anf,anF,amK,hagg,aoM,if_false];omega
theorem l8{P:Program}{t:Nat}{i:TI}(hc:chk P t i=true)(w:World)(b o:Nat)(cs:List Value)(hl:cs.length=i.ty.n)(hn:i.ty.isSt=false->i.ty.n=1)(hcs:iQ w b o cs):
  (Instr.loadAt t (.pointer (some ⟨b,o,none⟩))).run P w=.ok (mkV i.ty cs) w:=by
 obtain⟨d,h1,h2⟩:=uk hc;have hsz:=sS hc;cases hst:i.ty.isSt with
 |true=>
  rw[hst]at h2;rw[run_loadAt_mid w b o t cs d hcs h1 h2 (by rw[hsz,hl])];grind [mkV]
 |false=>
  rw[hst]at h2;have hl1:=hn hst;match cs,hl with
  |[v],_=>rw[jK w b o t v d (by simpa using hcs 0 v rfl) h1 h2];simp[mkV,hst]
  |[],hl=>rw[hl1]at hl;simp at hl
  |_::_::_,hl=>rw[hl1]at hl;simp at hl
theorem Kk{P:Program}{s f:Nat}{fs:Array Field}{fl:Field}{i:TI}(hs:P.underlying s=some (.struct fs))(hf:fs[f]?=some fl)(hc:chk P fl.type i=true)(w:World)(cs:List Value)(hl:((cs.drop fl.offset).take i.ty.n).length=i.ty.n)(hn:i.ty.isSt=false->i.ty.n=1):
  (Instr.field s (.agg cs.toArray) f).run P w=.ok (mkV i.ty ((cs.drop fl.offset).take i.ty.n)) w:=by
 obtain⟨d,h1,h2⟩:=uk hc;have hsz:=sS hc;cases hi:P.info? fl.type with
 |none=>rw[hi]at hsz;cases hsz
 |some inf=>
  have hs2:inf.size=i.ty.n:=by rw[hi]at hsz;simpa using hsz
  cases hst:i.ty.isSt with
  |true=>
   rw[hst]at h2
   have hx:cs.toArray.extract fl.offset (fl.offset+inf.size)=((cs.drop fl.offset).take i.ty.n).toArray:=by
    rw[hs2];simp[List.take_drop]
   cases d<;>simp[TypeDesc.isRow]at h2<;>simp[Instr.field,amP hs,hf,asAgg,part,isAgg,amP h1,sizeOf,typeInfo,hi,hs2,mkV,hst]
  |false=>
   rw[hst]at h2;have h0:=hn hst
   have hg:cs[fl.offset]?=some (((cs.drop fl.offset).take i.ty.n).headD undef)/\(cs.drop fl.offset).take i.ty.n=[((cs.drop fl.offset).take i.ty.n).headD undef]:=by
    rw[h0]at hl ⊢;cases hd:cs.drop fl.offset with
    |nil=>rw[hd]at hl;simp at hl
    |cons v r=>
     have:(cs.drop fl.offset)[0]?=some v:=by rw[hd];rfl
     rw[anN]at this;simpa using this
   cases d<;>simp[TypeDesc.isRow]at h2<;>(rw[hg.2];simp[Instr.field,amP hs,hf,asAgg,part,isAgg,amP h1,hg.1,mkV,hst])
theorem KB{P:Program}{t len et:Nat}{i:TI}{n:Int}{kd:IntKind}{q:Nat}(hq:n.toNat*i.ty.n=q)(hs:P.underlying t=some (.array len et))(hc:chk P et i=true)(h0':0<=n/\n<(len:Int))(w:World)(cs:List Value)(hl:((cs.drop q).take i.ty.n).length=i.ty.n)(hn:i.ty.isSt=false->i.ty.n=1):
  (Instr.index t (.agg cs.toArray) (.int kd n)).run P w=.ok (mkV i.ty ((cs.drop q).take i.ty.n)) w:=by
 obtain⟨d,h1,h2⟩:=uk hc;have hsz:=sS hc;cases hi:P.info? et with
 |none=>rw[hi]at hsz;cases hsz
 |some inf=>
  have hs2:inf.size=i.ty.n:=by rw[hi]at hsz;simpa using hsz
  cases hst:i.ty.isSt with
  |true=>
   rw[hst]at h2
   have hx:cs.toArray.extract q (q+inf.size)=((cs.drop q).take i.ty.n).toArray:=by
    rw[hs2];simp[List.take_drop]
   cases d<;>simp[TypeDesc.isRow]at h2<;>simp[Instr.index,asIntOf,amP hs,h0'.1,h0'.2,part,isAgg,amP h1,sizeOf,typeInfo,hi,hs2,hq,mkV,hst]
  |false=>
   rw[hst]at h2;have h0:=hn hst
   have hg:cs[q]?=some (((cs.drop q).take i.ty.n).headD undef)/\(cs.drop q).take i.ty.n=[((cs.drop q).take i.ty.n).headD undef]:=by
    rw[h0]at hl ⊢;cases hd:cs.drop q with
    |nil=>rw[hd]at hl;simp at hl
    |cons v r=>
     have:(cs.drop q)[0]?=some v:=by rw[hd];rfl
     rw[anN]at this;simpa using this
   cases d<;>simp[TypeDesc.isRow]at h2<;>(rw[hg.2];simp[Instr.index,asIntOf,amP hs,h0'.1,h0'.2,part,isAgg,amP h1,hg.1,mkV,hst,sizeOf,typeInfo,hi,hs2,hq])
theorem pI{P:Program}{t f:Nat}{i:TI}{p:Nat×Nat}(hc:chk P t i=true)(hp:i.pl[f]?=some p)(w:World)(b o:Nat):
  (Instr.fieldAt t (.pointer (some ⟨b,o,none⟩)) f).run P w=.ok (.pointer (some ⟨b,o+p.1,none⟩)) w:=by
 obtain⟨fs,fl,inf,h1,h2,h3,h4,h5⟩:=KW hc hp;simp[Instr.fieldAt,amP h1,h2,Instr.sureAddr,fieldPlace,sizeOf,typeInfo,h4,h5,c7,h3]
theorem lC{sz:Nat}:∀{css:List (List Value)} {n i:Nat} {l:List Value} {v:Value},(∀l∈css,l.length=sz)->css[n]?=some l->l[i]?=some v->css.flatten[n*sz+i]?=some v
 |[],_,_,_,_,_,h,_=>by simp at h
 |c::css,0,i,l,v,hl,h,hv=>by
  simp at h;subst h;rw[ann,ape,amx,amE (amr.1 hv).1];exact hv
 |c::css,n+1,i,l,v,hl,h,hv=>by
  have hc:c.length=sz:=hl c (by simp);rw[ann,amN (by rw[hc,an5];omega),hc,show(n+1)*sz+i-sz=n*sz+i by rw[an5];omega];exact lC (λl hm=>hl l (by simp[hm])) (by simpa using h) hv
theorem ff{A:Nat->Prop}{w:World}{e:Ty}:∀{css:List (List Value)} {xs:List e.D},bI (λl y=>e.rd A w l y) css xs->∀l∈css,l.length=e.n
 |[],[],_,l,h=>by simp at h
 |c::css,x::xs,⟨h1,h2⟩,l,h=>by
  rcases amy.1 h with rfl|h
  ·exact Ty.rd_len h1
  ·exact ff h2 l h
theorem gE{sz:Nat}:∀{css:List (List Value)},(∀l∈css,l.length=sz)->css.flatten.length=css.length*sz
 |[],_=>by simp
 |c::css,h=>by rw[ann,amU,gE (λl hm=>h l (by simp[hm])),h c (by simp),amD,an5];omega
theorem em{sz:Nat}:∀{css:List (List Value)} (n:Nat),(∀l∈css,l.length=sz)->(css.take n).flatten=css.flatten.take (n*sz)
 |[],n,_=>by simp
 |c::css,0,_=>by simp
 |c::css,n+1,h=>by
  have hc:=h c (by simp);rw[List.take_succ_cons,ann,em n (λl hm=>h l (by simp[hm])),ann,List.take_append,hc,anj (l:=c) (by rw[hc,an5];omega),show(n+1)*sz-sz=n*sz by rw[an5];omega]
theorem fI{sz:Nat}:∀{css:List (List Value)} (n:Nat),(∀l∈css,l.length=sz)->(css.drop n).flatten=css.flatten.drop (n*sz)
 |[],n,_=>by simp
 |c::css,0,_=>by simp
 |c::css,n+1,h=>by
  have hc:=h c (by simp);rw[List.drop_succ_cons,ann,fI n (λl hm=>h l (by simp[hm])),List.drop_append,hc,(am0 (by rw[hc,an5];omega):c.drop ((n+1)*sz)=[]),an4,show(n+1)*sz-sz=n*sz by rw[an5];omega]
section
variable {Z:Nat->Prop} {w0:World} {n:Nat} {L:SL} {H:List Item} {G:List Value} {w:World} {a:Act} {P:Program} {T:TT}
theorem Agr.pure{rw:Bool}{w':World}(ha:Agr rw H G w w'){b:Nat}(hb:b<w.heap.size)(hA:Av Z H G b):w'.heap[b]?=w.heap[b]?:=
 ha.2 b hb (.inr λ⟨j,_it,g,h1,hw,h2,h3⟩=>hA.2 j _ g h1 (sw hw) h2 h3)
theorem Agr.box{rw:Bool}{w':World}(ha:Agr rw H G w w')(hr:SR Z w0 H G w){j b:Nat}{t:TypeId}{cs:List SV}{g:Value}(hj:H[j]?=some (.box t cs))(hg:G[j]?=some g)(hb:a9 g=some b):w'.heap[b]?=w.heap[b]?:=
 ha.2 b ((hr.items j _ g hj hg).blk rfl hb).2 (.inr λ⟨i,it,h,h1,hw,h2,h3⟩=>by
  by_cases hij:i=j
  ·subst hij;rw[hj]at h1;cases h1;cases hw
  ·exact hr.disj i j _ _ h g b hij h1 hj (sw hw) rfl h2 hg h3 hb)
theorem n8{w':World}{b o:Nat}{cs:List Value}(h:w'.heap[b]?=w.heap[b]?)(hc:iQ w b o cs):iQ w' b o cs:=λi v hv=>(World.cell?_of_block (a:=⟨b,o+i,none⟩) h).trans (hc i v hv)
theorem Lu{base et:Nat}{e:Ty}{g:Value}{m b c N:Nat}{css:List (List Value)}{l:List Value}{A:Nat->Prop}{xs:List e.D}(ho:w.ownsRow base et e.n g m css.flatten)(hg:g=.slice (some ⟨b,0,none⟩) N c)(ha:bI (λl y=>e.rd A w l y) css xs){k:Nat}(hk:css[k]?=some l):iQ w b (k*e.n) l:=by
 intro i v hv;have hf:=lC (ff ha) hk hv;rcases ho.2 with⟨rfl,_⟩|⟨g',cap,cur,rfl,h1,h2,h3,h4,h5,h6⟩
 ·grind
 ·injection hg with hg;injection hg with hg;injection hg with hg;subst hg;rw[cell_of_row w _ _ cur et (0,0) h2];grind
theorem Jw{e t:Ty}{x:e.D}{off:Nat}{y:t.D}:e.sub x off t=some y->t.isSt=false->t.n=1:=by
 have lf:∀{e:Ty} {x:e.D} {off:Nat},e.n=1->(match Nat.beq off 0 with|true=>eN e t x|false=>none)=some y->t.n=1:=by
  intro e x off hn h;split at h
  ·obtain⟨rfl,_⟩:=cX h;exact hn
  ·cases h
 induction e generalizing off with
 |int k=>exact λh _=>lf rfl h
 |bool=>exact λh _=>lf rfl h
 |str=>exact λh _=>lf rfl h
 |sl e=>exact λh _=>lf rfl h
 |st a ih=>
  intro h hs;simp only[Ty.sub]at h;split at h
  ·grind [cX,Ty.isSt]
  ·exact ih h hs
 |pair a b iha ihb=>
  grind [Ty.sub]
theorem Eo(hr:SR Z w0 H G w){rw:Bool}{t:Nat}{i:TI}(hc:chk P t i=true){j off:Nat}{bt:TypeId}{cells:List SV}{p:Value}{s:SV}(hp:Rel G (Av Z H G) w (.box j off) p)(hj:H[j]?=some (.box bt cells))(hl:JK i.ty (cells.drop off)=some s):
  ∃v,Rel1 G (Av Z H G) w s v/\∀w',Agr rw H G w w'->(Instr.loadAt t p).run P w'=.ok v w':=by
 obtain⟨b,hg,rfl⟩:=hp;obtain⟨b',vs,e1,hb,hblk,hrel⟩:=hr.items j _ _ hj hg;injection e1 with e1;injection e1 with e1;injection e1 with e1;subst e1
 have hcell:∀(cs:List Value),(∃r,vs.drop off=cs++r)->iQ w b off cs:=by
  rintro cs ⟨r,hcs⟩ k v hv
  refine hblk.cell _ ?_;have:(vs.drop off)[k]?=some v:=by rw[hcs,amE (amr.1 hv).1];exact hv
  grind
 have hd:=iC off hrel;unfold JK at hl;split at hl
 ·rename_i hst;split at hl
  ·rename_i x r hjn;injection hl with hl;subst hl;obtain⟨v1,v2,h1,h2,_⟩:=qe hjn hd;refine⟨mkV i.ty v1,⟨v1,h2,rfl⟩,λw' ha=>?_⟩;exact l8 hc w' b off v1 (Ty.rd_len h2) (λh=>by rw[hst]at h;cases h) (n8 (ha.box hr hj hg rfl) (hcell v1 ⟨v2,h1⟩))
  ·cases hl
 ·rename_i hst;split at hl
  ·rename_i s' r hdr;split at hl<;>try (cases hl;done)
   rename_i hgood;injection hl with hl;subst hl;rw[hdr]at hd;match hv:vs.drop off,hd with
   |v::vr,hd=>
    obtain⟨h1,_⟩:=hd;obtain⟨d,hu,hrow⟩:=uk hc;refine⟨v,h1,λw' ha=>?_⟩;refine jK w' b off t v d ?_ hu (by rw[hrow,hst]);have:=n8 (ha.box hr hj hg rfl) (hcell [v] ⟨vr,hv⟩) 0 v rfl;simpa using this
  ·cases hl
theorem QT{rw:Bool}{t:Nat}{i:TI}(hc:chk P t i=true){e:Ty}{x:e.D}{off:Nat}{p:Value}{y:i.ty.D}(hp:Rel G (Av Z H G) w (.elt e x off) p)(hs:e.sub x off i.ty=some y):
  ∃v,Rel1 G (Av Z H G) w (.d i.ty y) v/\∀w',Agr rw H G w w'->(Instr.loadAt t p).run P w'=.ok v w':=by
 obtain⟨b,o,cs,rfl,hA,hb,hrd,hcs⟩:=hp;have h1:=B6 hrd hs;refine⟨mkV i.ty _,⟨_,h1,rfl⟩,λw' ha=>?_⟩;refine l8 hc w' b (o+off) _ (Ty.rd_len h1) (Jw hs) (n8 (ha.pure hb hA) λk v hv=>?_);rw[anO]at hv;split at hv
 ·rw[anN]at hv;have:=hcs _ _ hv;grind
 grind
theorem Lc(hr:SR Z w0 H G w){t:Nat}{i:TI}(hc:chk P t i=true){j k off:Nat}{et:TypeId}{e:Ty}{xs:List e.D}{x:e.D}{p:Value}{y:i.ty.D}(hp:Rel G (Av Z H G) w (.oelt j e.n k off) p)(hj:(H.map rdI)[j]?=some (.row et e xs))(hx:xs[k]?=some x)(hs:e.sub x off i.ty=some y):
  ∃v,Rel1 G (Av Z H G) w (.d i.ty y) v/\∀w',Agr true H G w w'->(Instr.loadAt t p).run P w'=.ok v w':=by
 obtain⟨b,m,c,hg,rfl⟩:=hp;obtain⟨css,_,ho,ha2,_⟩:=hr.read hj hg;obtain⟨l,hl,hrd⟩:=pM ha2 k x hx;have h1:=B6 hrd hs;refine⟨mkV i.ty _,⟨_,h1,rfl⟩,λw' ha=>?_⟩;have hb:=(hr.rblk hj hg rfl).1;refine l8 hc w' b (k*e.n+off) _ (Ty.rd_len h1) (Jw hs) (n8 (ha.2 b hb (.inl rfl)) λq v hv=>?_);rw[anO]at hv;split at hv
 ·rw[anN]at hv;have:=Lu ho rfl ha2 hl _ _ hv;grind
 grind
theorem Bj(hr:SR Z w0 H G w){j:Nat}{et:TypeId}{cells:List SV}{g:Value}(hj:(H.map rdI)[j]?=some (.rws et cells))(hg:G[j]?=some g):H[j]?=some (.rws et cells)/\∃vs:List Value,w.ownsRow w0.heap.size et 1 g cells.length vs/\bI (Rel1 G (Av Z H G) w) cells vs:=by
 rw[ane]at hj;cases hh:H[j]? with
 |none=>rw[hh]at hj;cases hj
 |some it=>
  rw[hh]at hj;cases it<;>first|(cases hj;done)|skip
  rename_i t cs;injection hj with hj;injection hj with h1 h2;subst h1 h2;exact⟨rfl,hr.items j _ g hh hg⟩
theorem QG(hr:SR Z w0 H G w){t:Nat}{i:TI}(hc:chk P t i=true){j k:Nat}{et:TypeId}{cells:List SV}{p:Value}{s:SV}(hp:Rel G (Av Z H G) w (.oelt j 1 k 0) p)(hj:(H.map rdI)[j]?=some (.rws et cells))(hs:cells[k]?=some s)(hsl:i.ty.isSl=true):
  ∃v,Rel1 G (Av Z H G) w s v/\∀w',Agr true H G w w'->(Instr.loadAt t p).run P w'=.ok v w':=by
 obtain⟨b,m,c,hg,rfl⟩:=hp;obtain⟨hj,vs,ho,hrel⟩:=Bj hr hj hg;obtain⟨v,hv,hsv⟩:=fO hrel k s hs;have hst:i.ty.isSt=false:=by cases h:i.ty<;>rw[h]at hsl<;>first|rfl|cases hsl
 obtain⟨d,hu,hrow⟩:=uk hc;refine⟨v,hsv,λw' ha=>?_⟩;rcases ho.2 with⟨e1,_⟩|⟨b',cap,cur,e1,h1,h2,h3,h4,h5,h6⟩
 ·cases e1
 ·injection e1 with e1;injection e1 with e1;injection e1 with e1;subst e1;have hb:b<w.heap.size:=(amw.1 h2).1;have hk:(cur.toList.take (cells.length*1))[k]?=some v:=by rw[h6];exact hv
  rw[anO]at hk;split at hk
  ·refine jK w' b _ t v d ((World.cell?_of_block (a:=⟨b,k*1+0,none⟩) (ha.2 b hb (.inl rfl))).trans ?_) hu (by rw[hrow,hst]);rw[cell_of_row w _ _ cur et (0,0) h2];simpa using hk
  ·cases hk
theorem gO{t:Nat}{i:TI}{e:Ty}(hc:chk P t i=true)(ht:i.ty=.sl e)(w:World)(b off len c:Nat)(kd:IntKind)(m:Int)(h0:0<=m)(h1:m<len):
  (Instr.indexAt t (.slice (some ⟨b,off,none⟩) len c) (.int kd m)).run P w=.ok (.pointer (some ⟨b,off+m.toNat*e.n,none⟩)) w:=by
 obtain⟨hu,_,j,hj,hjs,_⟩:=cZ hc ht;simp[Instr.indexAt,asIntOf,amP hu,sizeOf,typeInfo,hj,h0,h1,c7,hjs]
theorem ux{α:Type}{xs:List α}{m:Int}{y:α}(h:aH xs m=some y):0<=m/\m<xs.length/\xs[m.toNat]?=some y:=by grind [aH]
theorem S6{t:Nat}{i:TI}{e:Ty}(hc:chk P t i=true)(ht:i.ty=.sl e){xs:List e.D}{m:Int}{y:e.D}{p:Value}{kd:IntKind}(hp:Rel G (Av Z H G) w (.d (.sl e) xs) p)(hy:aH xs m=some y):
  ∃v,Rel1 G (Av Z H G) w (.elt e y 0) v/\∀w',(Instr.indexAt t p (.int kd m)).run P w'=.ok v w':=by
 obtain⟨cs,hrd,rfl⟩:=hp;obtain⟨p,n,c,css,rfl,h1,h2,h3,h4,h5⟩:=hrd;obtain⟨g1,g2,g3⟩:=ux hy;obtain⟨b,off,rfl,hA,hb,hcs⟩:=h5 (by omega);obtain⟨l,hl,hrd⟩:=pM h4 _ _ g3;refine⟨.pointer (some ⟨b,off+m.toNat*e.n,none⟩),⟨b,off+m.toNat*e.n,l,rfl,hA,hb,hrd,λk v hv=>?_⟩,λw'=>gO hc ht w' b off n c kd m g1 (by omega)⟩;have:=hcs _ _ (lC (ff h4) hl hv);grind
theorem dw{base et sz:Nat}{g:Value}{m:Nat}{cs:List Value}(h:w.ownsRow base et sz g m cs):(g=.slice none 0 0/\m=0)\/∃b c,g=.slice (some ⟨b,0,none⟩) m c:=by rcases h.2 with h|⟨g',cap,cur,rfl,_⟩<;>grind
theorem Lb(hr:SR Z w0 H G w){t:Nat}{i:TI}{e:Ty}(hc:chk P t i=true)(ht:i.ty=.sl e){et:TypeId}{xs:List e.D}{j:Nat}{m:Int}{y:e.D}{p:Value}{kd:IntKind}(hj:(H.map rdI)[j]?=some (.row et e xs))(hp:Rel G (Av Z H G) w (.own j) p)(hy:aH xs m=some y):
  ∃v,Rel1 G (Av Z H G) w (.oelt j e.n m.toNat 0) v/\∀w',(Instr.indexAt t p (.int kd m)).run P w'=.ok v w':=by
 obtain⟨css,_,ho,_⟩:=hr.read hj hp;obtain⟨g1,g2,g3⟩:=ux hy;rcases dw ho with⟨rfl,h0⟩|⟨b,c,rfl⟩
 ·omega
 ·refine⟨.pointer (some ⟨b,m.toNat*e.n,none⟩),⟨b,_,c,hp,rfl⟩,λw'=>?_⟩;have:=gO hc ht w' b 0 xs.length c kd m g1 (by omega);grind
theorem KV(hr:SR Z w0 H G w){t:Nat}{i:TI}{e:Ty}(hc:chk P t i=true)(ht:i.ty=.sl e)(hn:e.n=1){et:TypeId}{cells:List SV}{j:Nat}{m:Int}{y:SV}{p:Value}{kd:IntKind}(hj:(H.map rdI)[j]?=some (.rws et cells))(hp:Rel G (Av Z H G) w (.own j) p)(hy:aH cells m=some y):
  ∃v,Rel1 G (Av Z H G) w (.oelt j 1 m.toNat 0) v/\∀w',(Instr.indexAt t p (.int kd m)).run P w'=.ok v w':=by
 obtain⟨_,vs,ho,_⟩:=Bj hr hj hp;obtain⟨g1,g2,g3⟩:=ux hy;rcases dw ho with⟨rfl,h0⟩|⟨b,c,rfl⟩
 ·omega
 ·refine⟨.pointer (some ⟨b,m.toNat*1,none⟩),⟨b,_,c,hp,rfl⟩,λw'=>?_⟩;have:=gO hc ht w' b 0 cells.length c kd m g1 (by omega);rw[hn]at this;grind
end
end
section
def dW(cs:List Value):Nat->List Value->List Value
 |_,[]=>cs
 |off,s::r=>dW (cs.set off s) (off+1) r
theorem xE{R:SV->Value->Prop}:∀{l:List SV} {vs:List Value} {cs:List SV} {us:List Value} (off:Nat),bI R l vs->bI R cs us->bI R (nK cs off l) (dW us off vs)
 |[],[],_,_,_,_,h=>h
 |_::_,_::_,_,_,off,⟨h1,h2⟩,h=>xE (off+1) h2 (sJ off h h1)
theorem mE:∀{l:List Value} {cs:List Value} {off:Nat},(dW cs off l).length=cs.length
 |[],_,_=>rfl
 |_::r,_,_=>by simp[dW,mE (l:=r)]
theorem Ad:∀(l:List Value) (off k:Nat) (cells:Array Value),((l.zipIdx k).foldl (λ(cs:Array Value) (x:Value×Nat)=>cs.setIfInBounds (off+x.2) x.1) cells).toList=dW cells.toList (off+k) l
 |[],_,_,_=>rfl
 |v::l,off,k,cells=>by
  rw[List.zipIdx_cons,an6,Ad l off (k+1)];simp[dW,aoi]
theorem Kx(v:Value)(off:Nat)(cells:Array Value):(v.cells.zipIdx.foldl (λ(cs:Array Value) (x:Value×Nat)=>cs.setIfInBounds (off+x.2) x.1) cells).toList=dW cells.toList off v.cells.toList:=by
 have:=Ad v.cells.toList off 0 cells;rw[aoQ]at this;rw[<-this];obtain⟨l⟩:=v.cells;simp
theorem uE{t:Ty}{A:Nat->Prop}{w:World}{cs:List Value}{x:t.D}(ht:∀a b,t≠.pair a b)(h:t.rd A w cs x):(mkV t cs).cells.toList=cs:=by
 cases t with
 |int k=>simp only[Ty.rd]at h;subst h;rfl
 |bool=>simp only[Ty.rd]at h;subst h;rfl
 |str=>simp only[Ty.rd]at h;subst h;rfl
 |sl e=>obtain⟨p,n,c,css,rfl,_⟩:=h;rfl
 |pair a b=>exact(ht a b rfl).elim
 |st a=>simp[mkV,Ty.isSt,Value.cells]
section
variable {Z:Nat->Prop} {w0:World} {n:Nat} {L:SL} {H:List Item} {G:List Value} {w:World} {a:Act} {P:Program} {T:TT}
theorem nJ(hr:SR Z w0 H G w){s:SV}{v:Value}{l:List SV}(h:Rel G (Av Z H G) w s v)(hs:fD H s=some l):bI (Rel1 G (Av Z H G) w) l v.cells.toList:=by
 unfold fD at hs;split at hs
 ·cases hs
 ·rename_i t x hne;injection hs with hs;subst hs;obtain⟨cs,h1,rfl⟩:=h;rw[uE (λa b e=>by subst e;exact hne a b x rfl HEq.rfl) h1];exact j9 h1
 ·split at hs
  ·rename_i j _ et e xs hj;injection hs with hs;subst hs;obtain⟨css,ho,_⟩:=hr.items j _ _ hj h;have hc:v.cells.toList=[v]:=by rcases dw ho with⟨rfl,_⟩|⟨b,c,rfl⟩<;>rfl
   rw[hc];exact⟨h,trivial⟩
  ·cases hs
 ·rename_i s' hn1 hn2 hn3;split at hs<;>try (cases hs;done)
  rename_i hg;injection hs with hs;subst hs
  have hc:v.cells.toList=[v]:=by
   cases s with
   |d t x=>cases t<;>first|exact(hn1 _ _ _ rfl).elim|exact(hn2 _ _ rfl).elim
   |nil=>rw[show v=.slice none 0 0 from h];rfl
   |box j off=>obtain⟨b,_,rfl⟩:=h;rfl
   |elt e x off=>obtain⟨b,o,cs,rfl,_⟩:=h;rfl
   |own j=>exact(hn3 j rfl).elim
   |oelt j sz i off=>obtain⟨b,n,c,_,rfl⟩:=h;rfl
   |clo f caps=>obtain⟨bs,_,rfl⟩:=h;rfl
   |tup l=>simp[SV.good]at hg
   |undef=>simp[SV.good]at hg
   |dead=>simp[SV.good]at hg
   |cut e xs=>obtain⟨p,_,rfl⟩:=h;rfl
   |osl j sz lo n=>obtain⟨g,q,c,_,rfl,_⟩:=h;rfl
  rw[hc];exact⟨nT h (λl e=>by subst e;simp[SV.good]at hg),trivial⟩
theorem uJ(hr:SR Z w0 H G w)(hf:FR Z n L H G w a){place:Nat->Option (Nat×Nat)}:∀{parts:List (Nat×Operand)} {cs cs':List SV} {us:Array Value},qH H L place cs parts=some cs'->bI (Rel1 G (Av Z H G) w) cs us.toList->
  ∃us',Instr.fill place us (parts.map λp=>(p.1,a.eval p.2))=some us'/\bI (Rel1 G (Av Z H G) w) cs' us'.toList
 |[],cs,cs',us,h,ha=>by simp only[qH,amp]at h;subst h;exact⟨us,rfl,ha⟩
 |(i,x)::r,cs,cs',us,h,ha=>by
  simp only[qH]at h;split at h
  ·rename_i off size s hp hs;split at h<;>try (cases h;done)
   rename_i l hl;split at h<;>try (cases h;done)
   rename_i hb;simp only[aml]at hb;have hv:=aE hf hs;have hl2:=nJ hr hv hl;have hlen:(a.eval x).cells.size=l.length:=by have:=dD hl2;simpa using this.symm
   have hlu:cs.length=us.size:=by have:=dD ha;simpa using this
   obtain⟨us',h1,h2⟩:=uJ hr hf (us:=((a.eval x).cells.zipIdx.foldl (λ(cs:Array Value) (x:Value×Nat)=>cs.setIfInBounds (off+x.2) x.1) us)) h (by rw[Kx];exact xE off hl2 ha);refine⟨us',?_,h2⟩;have e1:=amk hb.1;have e2:=amn hb.2;simp only[List.map_cons,Instr.fill,hp];rw[amJ (by simp[hlen,e1];omega)];exact h1
  ·cases h
theorem K9{t:Nat}{i:TI}(hc:chk P t i=true)(hz:i.z=true)(hst:i.ty.isSt=true)(parts:List (Nat×Value)):P.built t parts=Instr.fill (v8 i i.el) (zc i.ty).toArray parts:=by
 obtain⟨inf,hi,hzero⟩:=wU hc hz;unfold chk at hc;rw[hi]at hc;cases hu:P.underlying t with
 |none=>rw[hu]at hc;cases hc
 |some d=>
  rw[hu]at hc;simp only[aml]at hc;have hc:=hc.2;have hmk:(mkV i.ty (zc i.ty)).cells=(zc i.ty).toArray:=by simp[mkV,hst,Value.cells]
  unfold Program.built;rw[hi,hu];match d,hc with
  |.struct fs,hc=>
   simp only[aml]at hc;obtain⟨_,hc⟩:=hc;split at hc
   ·rename_i pl hpl;simp only[aml]at hc;obtain⟨rfl,_⟩:=FV hc.1;simp only[hzero,hpl,hmk];congr 1;unfold v8;rw[hc.2];funext k;simp
   ·cases hc
  |.array m e,hc=>
   simp only[aml]at hc;obtain⟨⟨⟨⟨_,h1⟩,h2⟩,h3⟩,h4⟩:=hc;split at h4
   ·rename_i j hj;simp only[hzero,hj,hmk,amk h4];unfold v8;have e1:=amk h1;have e2:=amn h2;have e3:Nat.beq i.len 0=false:=by rw[<-e1];cases m<;>first|omega|rfl
    rw[e3]
   ·cases h4
  |.slice e,hc=>
   dsimp only at hc;split at hc
   ·rename_i he _;rw[he]at hst;cases hst
   ·cases hc
  |.invalid,hc|.bool,hc|.int _,hc|.float _,hc|.complex _,hc|.string,hc|.pointer _,hc|.map _ _,hc|.chan _ _,hc|.func _ _ _,hc|.interface _,hc|.tuple _,hc|.named _ _,hc|.unsafePointer,hc=>
   simp only[aml]at hc;have hc:=hc.2;generalize i.ty=ty at*
   cases ty<;>simp_all [Ty.isSt]
theorem Mr{t:Nat}{i:TI}{e:Ty}(hc:chk P t i=true)(ht:i.ty=.sl e){xs:List e.D}{l h:Int}{p:Value}{lo hi:Option Value}(hp:Rel G (Av Z H G) w (.d (.sl e) xs) p)
  (hlo:(lo=none/\l=0)\/∃kd,lo=some (.int kd l)) (hhi:(hi=none/\h=xs.length)\/∃kd,hi=some (.int kd h)) (hb:0<=l/\l<=h/\h<=xs.length):
  ∃v,Rel1 G (Av Z H G) w (.d (.sl e) ((xs.take h.toNat).drop l.toNat)) v/\∀w',(Instr.sliceAt t p lo hi none).run P w'=.ok v w':=by
 obtain⟨cs,hrd,rfl⟩:=hp;obtain⟨p,n,c,css,rfl,h1,h2,h3,h4,h5⟩:=hrd;obtain⟨hu,_,j,hj,hjs,_⟩:=cZ hc ht;obtain⟨b1,b2,b3⟩:=hb;have hel:P.elem t=i.el:=by simp[Program.elem,hu]
 have hu':P.underlying t=some (.slice (P.elem t)):=by rw[hel];exact hu
 have hsz:∀w',(sizeOf (P.elem t)).run P w'=.ok e.n w':=λw'=>by rw[hel];simp[sizeOf,typeInfo,hj,hjs]
 refine⟨sliced p l.toNat h.toNat c e.n,?_,λw'=>?_⟩
 ·have hl4:=ff h4;have hlen:((xs.take h.toNat).drop l.toNat).length=h.toNat-l.toNat:=by simp;omega
  refine⟨[sliced p l.toNat h.toNat c e.n],⟨if c=l.toNat then p else p.map (·.add (l.toNat*e.n)),h.toNat-l.toNat,c-l.toNat,(css.take h.toNat).drop l.toNat,rfl,hlen,by omega,by omega,iC _ (iN _ h4),λhn=>?_⟩,rfl⟩;have hn0:0<n:=by omega
  have hcl:c≠l.toNat:=by omega
  obtain⟨b,off,rfl,hA,hb,hcs⟩:=h5 hn0;refine⟨b,off+l.toNat*e.n,?_,hA,hb,?_⟩
  ·rw[amJ hcl];simp[c7]
  ·intro k v hv;rw[fI _ (λl hm=>hl4 l (anv hm)),em _ hl4,anN,anO]at hv;split at hv
   ·have:=hcs _ _ hv;rwa [<-aoi]at this
   ·cases hv
 ·rw[run_sliceAt_slice w' t _ lo hi none hu'];have hn:(n:Int)=xs.length:=by omega
  rcases hlo with⟨rfl,rfl⟩|⟨kl,rfl⟩<;>rcases hhi with⟨rfl,rfl⟩|⟨kh,rfl⟩
  ·have:=run_slice_all (P:=P) w' t p n c hu';simp only[mkV,Ty.isSt,aoR,this,hsz,amK,<-hn];simp
  ·have:=run_slice_h (P:=P) w' t p n c hu' kh h (by omega) (by omega);simp only[mkV,Ty.isSt,aoR,this,hsz,amK];simp
  ·have:=run_slice_l (P:=P) w' t p n c hu' kl l (by omega) (by omega);simp only[mkV,Ty.isSt,aoR,this,hsz,amK,<-hn];simp
  ·have:=run_slice_lh (P:=P) w' t p n c hu' kl kh l h (by omega) (by omega) (by omega);simp only[mkV,Ty.isSt,aoR,this,hsz,amK]
theorem Lj{t:Nat}{i:TI}{e:Ty}(hc:chk P t i=true)(ht:i.ty=.sl e){xs:List e.D}{l h m:Int}{p:Value}{lo hi mx:Option Value}(hp:Rel G (Av Z H G) w (.d (.sl e) xs) p)
  (hlo:(lo=none/\l=0)\/∃kd,lo=some (.int kd l)) (hhi:∃kd,hi=some (.int kd h)) (hmx:∃kd,mx=some (.int kd m)) (hb:0<=l/\l<=h/\h<=m/\m<=xs.length):
  ∃v,Rel1 G (Av Z H G) w (.d (.sl e) ((xs.take h.toNat).drop l.toNat)) v/\(h=m->Rel1 G (Av Z H G) w (.cut e ((xs.take h.toNat).drop l.toNat)) v)/\∀w',(Instr.sliceAt t p lo hi mx).run P w'=.ok v w':=by
 obtain⟨cs,hrd,rfl⟩:=hp;obtain⟨p,n,c,css,rfl,h1,h2,h3,h4,h5⟩:=hrd;obtain⟨hu,_,j,hj,hjs,_⟩:=cZ hc ht;obtain⟨b1,b2,b3,b4⟩:=hb;have hel:P.elem t=i.el:=by simp[Program.elem,hu]
 have hu':P.underlying t=some (.slice (P.elem t)):=by rw[hel];exact hu
 have hsz:∀w',(sizeOf (P.elem t)).run P w'=.ok e.n w':=λw'=>by rw[hel];simp[sizeOf,typeInfo,hj,hjs]
 have hlen:((xs.take h.toNat).drop l.toNat).length=h.toNat-l.toNat:=by simp;omega
 have main:(Ty.sl e).rd (Av Z H G) w [sliced p l.toNat h.toNat m.toNat e.n] ((xs.take h.toNat).drop l.toNat):=by
  have hl4:=ff h4;refine⟨if m.toNat=l.toNat then p else p.map (·.add (l.toNat*e.n)),h.toNat-l.toNat,m.toNat-l.toNat,(css.take h.toNat).drop l.toNat,rfl,hlen,by omega,by omega,iC _ (iN _ h4),λhn=>?_⟩;have hn0:0<n:=by omega
  have hcl:m.toNat≠l.toNat:=by omega
  obtain⟨b,off,rfl,hA,hb,hcs⟩:=h5 hn0;refine⟨b,off+l.toNat*e.n,?_,hA,hb,?_⟩
  ·rw[amJ hcl];simp[c7]
  ·intro k v hv;rw[fI _ (λl hm=>hl4 l (anv hm)),em _ hl4,anN,anO]at hv;split at hv
   ·have:=hcs _ _ hv;rwa [<-aoi]at this
   ·cases hv
 refine⟨sliced p l.toNat h.toNat m.toNat e.n,⟨_,main,rfl⟩,λhm=>?_,λw'=>?_⟩
 ·subst hm;refine⟨if h.toNat=l.toNat then p else p.map (·.add (l.toNat*e.n)),?_,?_⟩
  ·rw[hlen];exact main
  ·rw[hlen];rfl
 ·rw[run_sliceAt_slice w' t _ lo hi mx hu'];obtain⟨kh,rfl⟩:=hhi;obtain⟨km,rfl⟩:=hmx;rcases hlo with⟨rfl,rfl⟩|⟨kl,rfl⟩
  ·have:=run_slice_hm (P:=P) w' t p n c hu' kh km h m (by omega) (by omega) (by omega);simp only[mkV,Ty.isSt,aoR,this,hsz,amK];simp
  ·have:=run_slice_lhm (P:=P) w' t p n c hu' kl kh km l h m (by omega) (by omega) (by omega) (by omega);simp only[mkV,Ty.isSt,aoR,this,hsz,amK]
theorem xe:∀{l:List SV} {js:List Nat} {vs:List Value},yv l=some js->bI (Rel G (Av Z H G) w) l vs->∃bs:List Nat,bI (λj b=>G[j]?=some (.pointer (some ⟨b,0,none⟩))) js bs/\vs=bs.map λb=>.pointer (some ⟨b,0,none⟩)
 |[],js,[],h,_=>by simp only[yv,amp]at h;subst h;exact⟨[],trivial,rfl⟩
 |s::l,js,v::vs,h,⟨h1,h2⟩=>by
  unfold yv at h;split at h
  ·rename_i he;cases he
  ·rename_i j r he;injection he with e1 e2;subst e1 e2;split at h
   ·rename_i l' hl';injection h with h;subst h;obtain⟨b,hb,rfl⟩:=h1;obtain⟨bs,g1,g2⟩:=xe hl' h2;exact⟨b::bs,⟨hb,g1⟩,by rw[g2];rfl⟩
   ·cases h
  ·cases h
theorem jq(hf:FR Z n L H G w a):∀{l:List Operand} {ss:List SV},xu L l=some ss->bI (Rel G (Av Z H G) w) ss (l.map a.eval)
 |[],ss,h=>by simp only[xu,amp]at h;subst h;trivial
 |x::l,ss,h=>by
  simp only[xu]at h;split at h
  ·rename_i s l' h1 h2;injection h with h;subst h;exact⟨aE hf h1,jq hf h2⟩
  ·cases h
theorem ik(hf:FR Z n L H G w a){d l:Int}{o:Option Operand}(h:slB L d o=some l):(o.map a.eval=none/\l=d)\/∃kd,o.map a.eval=some (.int kd l):=by
 unfold slB at h;split at h
 ·injection h with h;exact .inl ⟨rfl,h.symm⟩
 ·split at h
  ·rename_i kd i hs;injection h with h;subst h;obtain⟨cs,h1,h2⟩:=aE hf hs;simp only[Ty.rd]at h1;subst h1;exact .inr ⟨kd,by simp[h2,mkV,Ty.isSt]⟩
  ·cases h
end
end
section
theorem dk{G:List Value}{A:Nat->Prop}{w:World}{k:IntKind}{x:Int}{v:Value}(h:Rel G A w (.d (.int k) x) v):v=.int k x:=by
 obtain⟨cs,h1,rfl⟩:=h;subst h1;rfl
theorem r9{G:List Value}{A:Nat->Prop}{w:World}{x:Bool}{v:Value}(h:Rel G A w (.d .bool x) v):v=.bool x:=by
 obtain⟨cs,h1,rfl⟩:=h;subst h1;rfl
theorem iD{P:Program}{t ty:TypeId}{i:TI}{e:Ty}(hc:chk P t i=true)(ht:i.ty=.sl e)(w:World)(p:Option Addr)(n c:Nat):(Builtin.len_ #[t] ty #[.slice p n c]).run P w=.ok (.int .i64 n) w:=by
 obtain⟨hu,_⟩:=cZ hc ht;simp[Builtin.len_,amP hu,goInt]
def nI:Op->Bool
 |.load .. =>true
 |_=>false
theorem BY{P:Program}{t:Nat}{i:TI}{e:Ty}(hc:chk P t i=true)(ht:i.ty=.sl e)(w':World)(q:Option Addr)(n c:Nat){l h:Int}{lo hi:Option Value}
  (hlo:(lo=none/\l=0)\/∃kd,lo=some (.int kd l)) (hhi:(hi=none/\h=(n:Int))\/∃kd,hi=some (.int kd h)) (hb:0<=l/\l<=h/\h<=(n:Int)) (hnc:n<=c):
  (Instr.sliceAt t (.slice q n c) lo hi none).run P w'=.ok (sliced q l.toNat h.toNat c e.n) w':=by
 obtain⟨hu,_,j,hj,hjs,_⟩:=cZ hc ht;have hel:P.elem t=i.el:=by simp[Program.elem,hu]
 have hu':P.underlying t=some (.slice (P.elem t)):=by rw[hel];exact hu
 have hsz:∀w',(sizeOf (P.elem t)).run P w'=.ok e.n w':=λw'=>by rw[hel];simp[sizeOf,typeInfo,hj,hjs]
 rw[run_sliceAt_slice w' t _ lo hi none hu'];rcases hlo with⟨rfl,rfl⟩|⟨kl,rfl⟩<;>rcases hhi with⟨rfl,rfl⟩|⟨kh,rfl⟩
 ·have:=run_slice_all (P:=P) w' t q n c hu';simp_all
 ·have:=run_slice_h (P:=P) w' t q n c hu' kh h (by omega) (by omega);simp_all
 ·have:=run_slice_l (P:=P) w' t q n c hu' kl l (by omega) (by omega);simp_all
 ·have:=run_slice_lh (P:=P) w' t q n c hu' kl kh l h (by omega) (by omega) (by omega);simp_all
section
variable {Z:Nat->Prop} {w0:World} {n:Nat} {L:SL} {H:List Item} {G:List Value} {w:World} {a:Act} {P:Program} {T:TT} {R:Type}
set_option maxHeartbeats 1000000 in
theorem Ib{P:Program}{t:Nat}{i:TI}(hck:chk P t i=true)(hst:i.ty.isSt=true){m:Int}(hb:0<=m/\m<(i.len:Int)):∃ne ej,P.underlying t=some (.array i.len ne)/\P.info? ne=some ej/\ej.size=i.el:=by
  obtain⟨d,hu,hrow⟩:=uk hck;have hck':=hck;unfold chk at hck';rw[hu]at hck';cases hinf:P.info? t with
  |none=>rw[hinf]at hck';cases hck'
  |some inf=>
   rw[hinf]at hck';simp only[aml]at hck';have hck':=hck'.2;rw[hst]at hrow;match d,hck',hrow with
   |.struct fs,hck',_=>
    simp only[aml]at hck';obtain⟨_,hck'⟩:=hck';split at hck'
    ·simp only[aml]at hck';have hz:=amk hck'.2;have h02:=hb.2;rw[hz]at h02;exact(Int.lt_irrefl 0 (Int.lt_of_le_of_lt hb.1 h02)).elim
    ·cases hck'
   |.array m' e,hck',_=>
    simp only[aml]at hck';obtain⟨⟨⟨⟨_,h1⟩,_⟩,_⟩,h4⟩:=hck';split at h4
    ·rename_i ej hej;exact⟨e,ej,by rw[<-amk h1];exact hu,hej,amk h4⟩
    ·cases h4
theorem mK{rw:Bool}{o:Oper}{k:SV->Option R}{r:R}(hT:eM P T=true)(hr:SR Z w0 H G w)(hf:FR Z n L H G w a)(h:qop P T rw L H o k=some r):
  ∃s v,k s=some r/\Rel G (Av Z H G) w s v/\∀w',(nI o.op=true->Agr rw H G w w')->(execOp a.eval o).run P w'=.ok (.value v) w':=by
 have hflat:me P L o k=some r->∃s v,k s=some r/\Rel G (Av Z H G) w s v/\∀w',(nI o.op=true->Agr rw H G w w')->(execOp a.eval o).run P w'=.ok (.value v) w':=λh=>by
  obtain⟨s,v,h1,h2,h3⟩:=Bm hf h;exact⟨s,v,h1,dM h2,λw' _=>h3 w'⟩
 obtain⟨dst,op,type,pos,after,guard⟩:=o;unfold qop at h;dsimp only at h;split at h
 case h_1 x=>
  split at h<;>try (cases h;done)
  rename_i s hs;exact⟨s,_,h,aE hf hs,λw' _=>rfl⟩
 case h_2 x=>
  split at h<;>try (cases h;done)
  rename_i s hs;exact⟨s,_,h,aE hf hs,λw' _=>rfl⟩
 case h_3 x=>
  split at h<;>try (cases h;done)
  ·rename_i j off hs;have hv:=aE hf hs;refine⟨_,_,h,hv,λw' _=>?_⟩;obtain⟨b,_,hv⟩:=hv;simp[execOp,hv]
  ·rename_i e y off hs;have hv:=aE hf hs;refine⟨_,_,h,hv,λw' _=>?_⟩;obtain⟨b,o,cs,hv,_⟩:=hv;simp[execOp,hv]
  ·rename_i j sz i off hs;have hv:=aE hf hs;refine⟨_,_,h,hv,λw' _=>?_⟩;obtain⟨b,_,_,_,hv⟩:=hv;simp[execOp,hv]
 case h_4 c x y=>
  split at h<;>try (cases h;done)
  rename_i b hs;have hb:=r9 (aE hf hs);split at h
  ·split at h<;>try (cases h;done)
   rename_i s hs;exact⟨s,_,h,aE hf hs,λw' _=>by simp[execOp,hb,asBool]⟩
  ·split at h<;>try (cases h;done)
   rename_i s hs;exact⟨s,_,h,aE hf hs,λw' _=>by simp[execOp,hb,asBool]⟩
 case h_5 t x=>
  have fin:∀{s:SV} (_:k s=some r),(∃v,Rel1 G (Av Z H G) w s v/\∀w',Agr rw H G w w'->(Instr.loadAt t (a.eval x)).run P w'=.ok v w')->∃s v,k s=some r/\Rel G (Av Z H G) w s v/\∀w',(nI (.load t x)=true->Agr rw H G w w')->(execOp a.eval ⟨dst,.load t x,type,pos,after,guard⟩).run P w'=.ok (.value v) w':=by
   rintro s hk ⟨v,h1,h2⟩
   exact⟨s,v,hk,dM h1,λw' ha=>by simp[execOp,h2 w' (ha rfl)]⟩
  split at h<;>try (cases h;done)
  ·rename_i j off i hs hi;split at h<;>try (cases h;done)
   rename_i bt cells hj;split at h<;>try (cases h;done)
   rename_i s hl;exact fin h (Eo hr (aF hT hi) (aE hf hs) hj hl)
  ·rename_i e y off i hs hi;split at h<;>try (cases h;done)
   rename_i z hz;exact fin h (QT (aF hT hi) (aE hf hs) hz)
  ·rename_i j sz m off i hs hi;split at h<;>try (cases h;done)
   ·rename_i et e xs hj;split at h<;>try (cases h;done)
    rename_i y hsz hy;split at h<;>try (cases h;done)
    rename_i z hz;have:=amk hsz;subst this;exact fin h (Lc hr (aF hT hi) (aE hf hs) hj hy hz)
   ·rename_i et cells hj;split at h<;>try (cases h;done)
    rename_i s hb hs';split at h<;>try (cases h;done)
    simp only[aml]at hb;have h1:=amk hb.1.1;have h2:=amk hb.1.2;subst h1 h2;exact fin h (QG hr (aF hT hi) (aE hf hs) hj hs' hb.2)
 case h_6 s x f=>
  split at h<;>try (cases h;done)
  ·rename_i j off i hs hi;split at h<;>try (cases h;done)
   rename_i p hp;obtain⟨b,hg,hv⟩:=aE hf hs;exact⟨_,.pointer (some ⟨b,off+p.1,none⟩),h,⟨b,hg,rfl⟩,λw' _=>by simp[execOp,hv,pI (aF hT hi) hp]⟩
  ·rename_i e y off i hs hi;split at h<;>try (cases h;done)
   rename_i p hp;obtain⟨b,o,cs,hv,h2⟩:=aE hf hs;exact⟨_,.pointer (some ⟨b,o+(off+p.1),none⟩),h,⟨b,o,cs,rfl,h2⟩,λw' _=>by simp[execOp,hv,pI (aF hT hi) hp,aoi]⟩
  ·rename_i j sz m off i hs hi;split at h<;>try (cases h;done)
   rename_i p hp;obtain⟨b,n1,c1,hg,hv⟩:=aE hf hs;exact⟨_,.pointer (some ⟨b,m*sz+(off+p.1),none⟩),h,⟨b,n1,c1,hg,rfl⟩,λw' _=>by simp[execOp,hv,pI (aF hT hi) hp,aoi]⟩
 case h_7 t x ix=>
  split at h<;>try (cases h;done)
  ·rename_i e xs kd m i hs hm hi;split at h<;>try (cases h;done)
   rename_i e' he;split at h<;>try (cases h;done)
   rename_i hee _;split at h<;>try (cases h;done)
   rename_i y hy;have hee:=hee.down;subst hee;obtain⟨v,h1,h2⟩:=S6 (kd:=kd) (aF hT hi) he (aE hf hs) hy;exact⟨_,v,h,dM h1,λw' _=>by simp[execOp,dk (aE hf hm),h2 w']⟩
  ·rename_i j kd m i hs hm hi;split at h<;>try (cases h;done)
   ·rename_i et e xs e' hj he;split at h<;>try (cases h;done)
    rename_i hee _;split at h<;>try (cases h;done)
    rename_i y hy;have hee:=hee.down;subst hee;obtain⟨v,h1,h2⟩:=Lb (kd:=kd) hr (aF hT hi) he hj (aE hf hs) hy;exact⟨_,v,h,dM h1,λw' _=>by simp[execOp,dk (aE hf hm),h2 w']⟩
   ·rename_i et cells e' hj he;split at h<;>try (cases h;done)
    rename_i y hn hy;obtain⟨v,h1,h2⟩:=KV (kd:=kd) hr (aF hT hi) he (amk hn) hj (aE hf hs) hy;exact⟨_,v,h,dM h1,λw' _=>by simp[execOp,dk (aE hf hm),h2 w']⟩
  ·rename_i j off kd m i hs hm hi;split at h<;>try (cases h;done)
   rename_i hst hb;have hb:=amj hb;obtain⟨b,hg,hv⟩:=aE hf hs;have hck:=aF hT hi;refine⟨_,.pointer (some ⟨b,off+m.toNat*i.el,none⟩),h,⟨b,hg,rfl⟩,λw' _=>?_⟩;obtain⟨ne,ej,h1,h2,h3⟩:=Ib hck hst hb;simp[execOp,dk (aE hf hm),hv,Instr.indexAt,asIntOf,amP h1,sizeOf,typeInfo,h2,hb.1,hb.2,c7,Instr.sureAddr,h3]
  ·rename_i e y off kd m i hs hm hi;split at h<;>try (cases h;done)
   rename_i hst hb;have hb:=amj hb;obtain⟨b,o,cs,hv,hr2⟩:=aE hf hs;obtain⟨ne,ej,h1,h2,h3⟩:=Ib (aF hT hi) hst hb;refine⟨_,.pointer (some ⟨b,o+(off+m.toNat*i.el),none⟩),h,⟨b,o,cs,rfl,hr2⟩,λw' _=>?_⟩;simp[execOp,dk (aE hf hm),hv,Instr.indexAt,asIntOf,amP h1,sizeOf,typeInfo,h2,hb.1,hb.2,c7,Instr.sureAddr,h3,aoi]
  ·rename_i j sz lo mm kd m i hs hm hi;split at h<;>try (cases h;done)
   rename_i e' he;split at h<;>try (cases h;done)
   rename_i hsz hb;have hb:=amj hb;have hsz:=amk hsz;subst hsz;obtain⟨g,q,c,hg,hv,h1,h2,h3,_⟩:=aE hf hs;have hmm:0<mm:=Int.ofNat_lt.1 (Int.lt_of_le_of_lt hb.1 hb.2);obtain⟨b,N,c',rfl,h4,rfl⟩:=h3 hmm;refine⟨_,.pointer (some ⟨b,(lo+m.toNat)*e'.n+0,none⟩),h,⟨b,N,c',hg,rfl⟩,λw' _=>?_⟩;have:=gO (P:=P) (kd:=kd) (aF hT hi) he w' b (lo*e'.n) mm c m hb.1 hb.2;simp[execOp,dk (aE hf hm),hv,this,Nat.add_mul]
 case h_8 x m=>
  split at h<;>try (cases h;done)
  rename_i l hs;split at h<;>try (cases h;done)
  rename_i s hl;obtain⟨vs,hv,hal⟩:=aE hf hs;obtain⟨v,h1,h2⟩:=fO hal m s hl;exact⟨s,v,h,dM h2,λw' _=>by simp[execOp,hv,Instr.extract,h1]⟩
 case h_9 t parts=>
  split at h<;>try (cases h;done)
  rename_i i hi;split at h<;>try (cases h;done)
  rename_i cs hzs hfl;split at h<;>try (cases h;done)
  rename_i x hjn;simp only[aml]at hzs;obtain⟨us',h1,h2⟩:=uJ hr hf (us:=(zc i.ty).toArray) hfl (by simpa using j9 (qF (t:=i.ty)));obtain⟨v1,v2,h3,h4,h5⟩:=qe hjn h2;match v2,h5 with
  |[],_=>
   rw[amO]at h3;subst h3;refine⟨_,mkV i.ty us'.toList,h,⟨_,h4,rfl⟩,λw' _=>?_⟩
   have hb:P.built t (parts.map λp=>(p.1,a.eval p.2)).toList=some us':=by
    rw[K9 (aF hT hi) hzs.1 hzs.2,<-h1];simp
   have:=run_build (P:=P) w' t (parts.map λp=>(p.1,a.eval p.2)) us' hb;simp[execOp,this,mkV,hzs.2]
 case h_10 f caps=>
  split at h<;>try (cases h;done)
  rename_i l hl;split at h<;>try (cases h;done)
  rename_i js hj;obtain⟨bs,h1,h2⟩:=xe hj (jq hf hl);refine⟨_,.func (.func f) #[] (bs.map λb=>.pointer (some ⟨b,0,none⟩)).toArray,h,⟨bs,h1,rfl⟩,λw' _=>?_⟩;rw[<-h2];obtain⟨cl⟩:=caps;simp[execOp,Instr.makeFunc]
 case h_11 x t=>
  split at h<;>try (cases h;done)
  ·rename_i e xs i hs hi;split at h<;>try (cases h;done)
   rename_i e' he;obtain⟨cs,hrd,hv⟩:=aE hf hs;obtain⟨p,m,c,css,rfl,hlen,_⟩:=hrd;have hv:a.eval x=.slice p m c:=hv;refine⟨_,.int .i64 m,h,⟨[_],rfl,by rw[hlen];rfl⟩,λw' _=>?_⟩;simp[execOp,resolve,invoke,builtin,hv,iD (aF hT hi) he]
  ·rename_i i hs hi;split at h<;>try (cases h;done)
   rename_i e' he;have hv:a.eval x=.slice none 0 0:=aE hf hs;refine⟨_,.int .i64 0,h,⟨[_],rfl,rfl⟩,λw' _=>?_⟩;simp[execOp,resolve,invoke,builtin,hv,iD (aF hT hi) he]
  ·rename_i j i hs hi;have hv:=aE hf hs
   have key:∀{m:Nat} {e':Ty} {et sz base:Nat} {cs:List Value},i.ty=.sl e'->w.ownsRow base et sz (a.eval x) m cs->∀w':World,(execOp a.eval ⟨dst,.call ⟨.builtin .len,⟨[x]⟩,⟨[t]⟩⟩,type,pos,after,guard⟩).run P w'=.ok (.value (.int .i64 m)) w':=λhe ho w'=>by
    rcases dw ho with⟨h1,h2⟩|⟨b,c,h1⟩
    ·simp[execOp,resolve,invoke,builtin,h1,h2,iD (aF hT hi) he]
    ·simp[execOp,resolve,invoke,builtin,h1,iD (aF hT hi) he]
   split at h<;>try (cases h;done)
   ·rename_i et e xs e' hj he;obtain⟨css,_,ho,_⟩:=hr.read hj hv;exact⟨_,.int .i64 xs.length,h,⟨[_],rfl,rfl⟩,λw' _=>key he ho w'⟩
   ·rename_i et cells e' hj he;obtain⟨_,vs,ho,_⟩:=Bj hr hj hv;exact⟨_,.int .i64 cells.length,h,⟨[_],rfl,rfl⟩,λw' _=>key he ho w'⟩
  ·rename_i j sz lo n i hs hi;split at h<;>try (cases h;done)
   rename_i e' he;obtain⟨g,q,c,hg,hv,_⟩:=aE hf hs;refine⟨_,.int .i64 n,h,⟨[_],rfl,rfl⟩,λw' _=>?_⟩;simp[execOp,resolve,invoke,builtin,hv,iD (aF hT hi) he]
  ·rename_i e0 xs i hs hi;split at h<;>try (cases h;done)
   rename_i e' he;obtain⟨p,hrd,hv⟩:=aE hf hs;refine⟨_,.int .i64 xs.length,h,⟨[_],rfl,rfl⟩,λw' _=>?_⟩;simp[execOp,resolve,invoke,builtin,hv,iD (aF hT hi) he]
 case h_12 t x lo hi=>
  split at h<;>try (cases h;done)
  ·rename_i e xs i hs hti;split at h<;>try (cases h;done)
   rename_i e' l hh he hl hhh;split at h<;>try (cases h;done)
   rename_i hee _;split at h<;>try (cases h;done)
   rename_i hb;have hb:=amj hb;have hee:=hee.down;subst hee;obtain⟨v,h1,h2⟩:=Mr (aF hT hti) he (aE hf hs) (ik hf hl) (ik hf hhh) hb;exact⟨_,v,h,dM h1,λw' _=>by simp[execOp,h2 w']⟩
  ·rename_i j i hs hti;split at h<;>try (cases h;done)
   rename_i et e xs e' hj he;split at h<;>try (cases h;done)
   rename_i l hh hl hhh hsz;split at h<;>try (cases h;done)
   rename_i hb;have hb:=amj hb;have hsz:=amk hsz;have hx:=aE hf hs;obtain⟨css,ho,_⟩:=hr.items j _ _ hj hx
   have hform:∃q c,a.eval x=.slice q xs.length c/\xs.length<=c/\c<=maxLen/\q.map (·.add 0)=q/\(0<xs.length->∃b,q=some ⟨b,0,none⟩):=by
    rcases ho.2 with⟨e1,e2⟩|⟨g,cap,cur,e1,_,_,e4,e5,_⟩
    ·exact⟨none,0,by rw[e1,e2],by omega,by unfold maxLen;omega,rfl,λh0=>by omega⟩
    ·exact⟨_,cap,e1,e4,e5,by simp[c7],λ_=>⟨g,rfl⟩⟩
   obtain⟨q,c,hv,hc1,hc2,hq0,hq⟩:=hform;refine⟨_,sliced q l.toNat hh.toNat c e.n,h,⟨_,_,_,hx,rfl,by omega,by omega,λh0=>?_,λh0=>?_⟩,λw' _=>?_⟩
   ·obtain⟨b,rfl⟩:=hq (by omega);refine⟨b,xs.length,c,hv,by omega,?_⟩;rw[amJ (by omega)];simp[c7]
   ·rw[h0,ape,hq0,ite_self];exact⟨hq0,xs.length,by rw[hv];rfl⟩
   ·have:=BY (P:=P) (aF hT hti) he w' q xs.length c (ik hf hl) (ik hf hhh) hb hc1;rw[<-hsz]at this;simp[execOp,hv,this]
  ·rename_i j sz b0 n i hs hti;split at h<;>try (cases h;done)
   rename_i e' he;split at h<;>try (cases h;done)
   rename_i l hh hl hhh hsz;split at h<;>try (cases h;done)
   rename_i hb;have hb:=amj hb;have hsz:=amk hsz;subst hsz;obtain⟨g,q,c,hg,hv,hc1,hc2,h3,h4'⟩:=aE hf hs;obtain⟨b1,b2,b3⟩:=hb;have z1:hh.toNat-l.toNat<=c-l.toNat:=by clear h3;omega
   have z2:c-l.toNat<=maxLen:=by clear h3;omega
   have z3:0<hh.toNat-l.toNat->0<n/\l.toNat+(hh.toNat-l.toNat)<=n/\c≠l.toNat:=by clear h3;omega
   refine⟨_,sliced q l.toNat hh.toNat c e'.n,h,⟨g,_,_,hg,rfl,z1,z2,λh0=>?_,λh0=>?_⟩,λw' _=>?_⟩
   ·obtain⟨y1,y2,y3⟩:=z3 h0;obtain⟨b,N,c',rfl,h4,rfl⟩:=h3 y1;refine⟨b,N,c',rfl,by clear h3;omega,?_⟩;rw[amJ y3];simp[c7,Nat.add_mul]
   ·obtain⟨e1,N,e2⟩:=h4' (by clear h3;omega);rw[show l.toNat=0 by clear h3;omega,ape,e1,ite_self];exact⟨e1,N,e2⟩
   ·have:=BY (P:=P) (aF hT hti) he w' q n c (ik hf hl) (ik hf hhh) ⟨b1,b2,b3⟩ hc1;simp[execOp,hv,this]
  ·rename_i i hs hti;split at h<;>try (cases h;done)
   rename_i e' l hh he hl hhh;split at h<;>try (cases h;done)
   rename_i hb;obtain⟨b1,b2,b3⟩:=amj hb;have hv:a.eval x=.slice none 0 0:=aE hf hs;refine⟨.nil,.slice none 0 0,h,rfl,λw' _=>?_⟩;have:=BY (P:=P) (aF hT hti) he w' none 0 0 (ik hf hl) (ik hf hhh) ⟨b1,b2,b3⟩ (amm _);rw[show l.toNat=0 by omega,show hh.toNat=0 by omega,show sliced none 0 0 0 e'.n=.slice none 0 0 by simp[sliced]]at this;simp[execOp,hv,this]
 case h_13 x y _=>
  split at h<;>try (cases h;done)
  rename_i kd p kd' q hp hq;split at h<;>try (cases h;done)
  rename_i hee _;have hee:=hee.down;injection hee with hee;subst hee;refine⟨_,.int kd (if q>p then q else p),h,⟨[_],rfl,rfl⟩,λw' _=>?_⟩;simp[execOp,resolve,invoke,builtin,dk (aE hf hp),dk (aE hf hq),Builtin.max_,Builtin.max2]
 case h_14 x y _=>
  split at h<;>try (cases h;done)
  rename_i kd p kd' q hp hq;split at h<;>try (cases h;done)
  rename_i hee _;have hee:=hee.down;injection hee with hee;subst hee;refine⟨_,.int kd (if q<p then q else p),h,⟨[_],rfl,rfl⟩,λw' _=>?_⟩;simp[execOp,resolve,invoke,builtin,dk (aE hf hp),dk (aE hf hq),Builtin.min_,Builtin.min2]
 case h_15 op t x y ty=>
  split at h
  ·exact hflat h
  ·rename_i b hb
   have ev:∀(A:Option Addr) (l c:Nat) (e:TypeId),a.eval x=.slice A l c->P.underlying t=some (.slice e)->∀w',(execOp a.eval ⟨dst,.binOp op t x y ty,type,pos,after,guard⟩).run P w'=.ok (.value (.bool (if A.isNone then b else !b))) w':=by
    intro A l c e hx hu w';unfold H5 at hb;split at hb<;>try (cases hb;done)
    ·injection hb with hb;subst hb;unfold execOp;simp only[hx,anf];rw[show a.eval (.const (.slice none 0 0))=.slice none 0 0 from rfl];simp only[eqGuard_at_slice,anF,amK,run_eql_slice_nil w' t e A l c hu];cases A<;>rfl
    ·injection hb with hb;subst hb;unfold execOp;simp only[hx,anf];rw[show a.eval (.const (.slice none 0 0))=.slice none 0 0 from rfl];simp only[eqGuard_at_slice,anF,amK,run_neq_slice_nil w' t e A l c hu];cases A<;>rfl
   have nk:∀{α:Type} {xs:List α} {A:Option Addr} {l c:Nat} {e:TypeId},Qw xs b k=some r->a.eval x=.slice A l c->(xs≠[]->A.isNone=false)->P.underlying t=some (.slice e)->
     ∃s v,k s=some r/\Rel G (Av Z H G) w s v/\∀w',(nI (.binOp op t x y ty)=true->Agr rw H G w w')->(execOp a.eval ⟨dst,.binOp op t x y ty,type,pos,after,guard⟩).run P w'=.ok (.value v) w':=by
    intro α xs A l c e hk hx hne hu;have hev:=ev A l c e hx hu;unfold Qw at hk;split at hk
    ·obtain⟨k1,k2⟩:=Aj hk;cases hA:A.isNone with
     |true=>exact⟨_,.bool b,k1,⟨[_],rfl,rfl⟩,λw' _=>by rw[hev w',hA];rfl⟩
     |false=>exact⟨_,.bool (!b),k2,⟨[_],rfl,rfl⟩,λw' _=>by rw[hev w',hA];rfl⟩
    ·have hA:=hne (by simp);exact⟨_,.bool (!b),hk,⟨[_],rfl,rfl⟩,λw' _=>by rw[hev w',hA];rfl⟩
   split at h<;>try (cases h;done)
   ·rename_i e xs i hs hi;split at h<;>try (cases h;done)
    rename_i e' he;obtain⟨hu,_⟩:=cZ (aF hT hi) he;obtain⟨cs,hrd,hv⟩:=aE hf hs;obtain⟨p,n,c,css,rfl,h1,h2,h3,h4,h5⟩:=hrd;refine nk h hv (λhne=>?_) hu
    have:0<n:=by
     rw[<-h1];cases xs with
     |nil=>exact absurd rfl hne
     |cons=>simp
    obtain⟨b,off,rfl,_⟩:=h5 this;rfl
   ·rename_i i hs hi;split at h<;>try (cases h;done)
    rename_i e' he;obtain⟨hu,_⟩:=cZ (aF hT hi) he;have hv:a.eval x=.slice none 0 0:=aE hf hs;exact⟨_,.bool b,h,⟨[_],rfl,rfl⟩,λw' _=>by rw[ev none 0 0 _ hv hu w'];rfl⟩
   ·rename_i j i hs hi;split at h<;>try (cases h;done)
    rename_i et e xs e' hj he;obtain⟨hu,_⟩:=cZ (aF hT hi) he;obtain⟨css,_,ho,ha2,hn0⟩:=hr.read hj (aE hf hs);rcases ho.2 with⟨e1,e2⟩|⟨g,cap,cur,e1,_⟩
    ·refine nk h e1 (λhne=>?_) hu;exact absurd (anC e2) hne
    ·exact nk h e1 (λ_=>rfl) hu
   ·rename_i j sz lo n i hs hi;split at h<;>try (cases h;done)
    rename_i e' he;obtain⟨hu,_⟩:=cZ (aF hT hi) he;obtain⟨g,q,c,_,hv,_,_,h5,_⟩:=aE hf hs;refine nk h hv (λhne=>?_) hu;obtain⟨b,N,c',_,_,rfl⟩:=h5 (aoN λe=>hne (by rw[e];rfl));rfl
 case h_16=>exact hflat h
 case h_17=>exact hflat h
 case h_18 t x ix=>
  split at h
  ·rename_i e y hs;split at h<;>try (cases h;done)
   rename_i kd n len et hm hu;split at h<;>try (cases h;done)
   rename_i i hi hb;split at h<;>try (cases h;done)
   rename_i z hz;obtain⟨cs,hrd,hv⟩:=aE hf hs;have h1:=B6 hrd hz;refine⟨_,mkV i.ty _,h,⟨_,h1,rfl⟩,λw' _=>?_⟩;have hv':a.eval x=.agg cs.toArray:=by rw[hv];simp[mkV,Ty.isSt]
   have:=KB (kd:=kd) rfl hu (aF hT hi) (amj hb) w' cs (Ty.rd_len h1) (Jw hz);simp[execOp,hv',dk (aE hf hm),this]
  ·exact hflat h
 case h_19 t x lo hi mx=>
  split at h<;>try (cases h;done)
  rename_i e xs i hs hti;split at h<;>try (cases h;done)
  rename_i e' l hh m he hl hhh hm;split at h<;>try (cases h;done)
  rename_i hq hee _;split at h<;>try (cases h;done)
  rename_i hb;have hb:=amj hb;have hee:=hee.down;subst hee;have h2:=(ik hf hhh).resolve_left (by simp);have h3:=(ik hf hm).resolve_left (by simp);obtain⟨v,h1,h1c,h2⟩:=Lj (aF hT hti) he (aE hf hs) (ik hf hl) h2 h3 hb;split at h
  ·rename_i _ hm;exact⟨_,v,h,h1c (amj hm),λw' _=>by simp only[execOp,anz,anf];have:=h2 w';simp only[anz]at this;simp[this]⟩
  exact⟨_,v,h,dM h1,λw' _=>by simp only[execOp,anz,anf];have:=h2 w';simp only[anz]at this;simp[this]⟩
 case h_20 x y z u _=>
  split at h<;>try (cases h;done)
  rename_i p q p' q' hp hq hp' hq';refine⟨_,.int .i64 (ad3 p q p' q'),h,⟨[_],rfl,rfl⟩,λw' _=>?_⟩;simp[execOp,resolve,invoke,builtin,dk (aE hf hp),dk (aE hf hq),dk (aE hf hp'),dk (aE hf hq'),Builtin.max_,Builtin.max2,ad3]
 case h_21 s x f=>
  split at h<;>try (cases h;done)
  rename_i e y hs;split at h<;>try (cases h;done)
  rename_i fs hu;split at h<;>try (cases h;done)
  rename_i fl hfl;split at h<;>try (cases h;done)
  rename_i i hi;split at h<;>try (cases h;done)
  rename_i z hz;obtain⟨cs,hrd,hv⟩:=aE hf hs;have h1:=B6 hrd hz;refine⟨_,mkV i.ty _,h,⟨_,h1,rfl⟩,λw' _=>?_⟩;have hv':a.eval x=.agg cs.toArray:=by rw[hv];simp[mkV,Ty.isSt]
  have:=Kk hu hfl (aF hT hi) w' cs (Ty.rd_len h1) (Jw hz);simp[execOp,hv',this]
 case h_22 x y z u _=>
  split at h<;>try (cases h;done)
  rename_i p q p' q' hp hq hp' hq';refine⟨_,.int .i64 (acP p q p' q'),h,⟨[_],rfl,rfl⟩,λw' _=>?_⟩;simp[execOp,resolve,invoke,builtin,dk (aE hf hp),dk (aE hf hq),dk (aE hf hp'),dk (aE hf hq'),Builtin.min_,Builtin.min2,acP,mn2];rfl
 case h_23=>cases h
end
end
section
def VI(f:SV->SV):SV->SV
 |.tup l=>.tup (l.map f)
 |s=>f s
def vW(f:SV->SV):SL->SL
 |[]=>[]
 |(t,s)::r=>(t,VI f s)::vW f r
def jN(f:SV->SV):Item->Item
 |.box t cs=>.box t (cs.map f)
 |.rws t cs=>.rws t (cs.map f)
 |it=>it
theorem CN(f:SV->SV)(it:Item):(jN f it).isRw=it.isRw:=by cases it<;>rfl
def jA(j:Nat)(s:SV):SV:=match s.of1 j with
 |true=>.dead
 |false=>s
def fz(j:Nat)(e:Ty)(xs:List e.D)(s:SV):SV:=match s.of1 j with
 |true=>match s with
  |.own _=>.d (.sl e) xs
  |.osl _ sz lo n=>match Nat.beq sz e.n with
   |true=>.d (.sl e) ((xs.drop lo).take n)
   |false=>.dead
  |_=>.dead
 |false=>s
theorem z7{f:SV->SV}:∀{L:SL} {t:Nat} {s:SV},aI (vW f L) t=some s->∃s0,aI L t=some s0/\s=VI f s0
 |[],t,s,h=>by simp[vW,aI]at h
 |(k,x)::r,t,s,h=>by
  simp only[vW,aI]at h ⊢;split at h
  ·injection h with h;exact⟨x,rfl,h.symm⟩
  ·exact z7 h
section
variable {Z:Nat->Prop} {w0:World} {n:Nat} {L:SL} {H H':List Item} {G G':List Value} {w w':World} {a:Act}
theorem Rel.map{A A':Nat->Prop}{f:SV->SV}(hf:∀s v,Rel1 G A w s v->Rel1 G' A' w' (f s) v){s:SV}{v:Value}(h:Rel G A w s v):Rel G' A' w' (VI f s) v:=by
 cases s with
 |tup l=>
  obtain⟨vs,h1,h2⟩:=h;refine⟨vs,h1,?_⟩;clear h1;induction l generalizing vs with
  |nil=>cases vs<;>exact h2
  |cons s l ih=>
   match vs,h2 with
   |v::vs,⟨g1,g2⟩=>exact⟨hf s v g1,ih vs g2⟩
 |_=>exact dM (hf _ _ h)
theorem FR.map{f:SV->SV}(hf:∀s v,Rel1 G (Av Z H G) w s v->Rel1 G' (Av Z H' G') w' (f s) v)(h:FR Z n L H G w a):FR Z n (vW f L) H' G' w' a:=
 ⟨h.defers,h.size,λt s hs=>by
  obtain⟨s0,h1,rfl⟩:=z7 hs;obtain⟨v,h2,h3⟩:=h.slot t s0 h1;exact⟨v,h2,h3.map hf⟩⟩
theorem FR.keep(hf:∀s v,Rel1 G (Av Z H G) w s v->Rel1 G' (Av Z H' G') w' s v)(h:FR Z n L H G w a):FR Z n L H' G' w' a:=
 ⟨h.defers,h.size,λt s hs=>by
  obtain⟨v,h2,h3⟩:=h.slot t s hs;refine⟨v,h2,?_⟩;have:=h3.map (f:=id) hf;cases s<;>simpa [VI]using this⟩
theorem te{j:Nat}{same:Prop}(hs:same):∀it:Item,WkI j same it it
 |.box t cs=>⟨rfl,by induction cs with|nil=>trivial|cons s l ih=>exact⟨.inr ⟨rfl,λ_=>hs⟩,ih⟩⟩
 |.rws t cs=>⟨rfl,by induction cs with|nil=>trivial|cons s l ih=>exact⟨.inr ⟨rfl,λ_=>hs⟩,ih⟩⟩
 |.row _ _ _=>rfl
 |.len _ _=>rfl
 |.gone=>rfl
theorem jr(hr:SR Z w0 H G w)(hb:Below w.heap.size w w'){it:Item}{g:Value}(hg:∀b,a9 g=some b->w.heap.size<=b):Step w0 H.length True H (H++[it]) G (G++[g]) w w':=by
 have hl:=hr.len;refine⟨by simp[hl],?_,hb.size,λb hbw _=>hb.block b hbw,?_,?_,?_,?_,?_⟩
 ·exact hr.below.trans (hb.mono hr.below.size)
 ·grind
 ·intro i it' hi h1;rcases amX i H.length with hlt|hge
  ·rw[amE hlt]at h1;exact⟨it',h1,te trivial it'⟩
  grind
 ·grind
 ·grind
 ·intro a h1;rw[anH (by omega)]at h1;cases h1
theorem cV{j:Nat}(hr:SR Z w0 H G w)(hs:Step w0 j True H H' G G' w w'){s:SV}{v:Value}(h:Rel1 G (Av Z H G) w s v):Rel1 G' (Av Z H' G') w' s v:=hs.rel1 hr h (.inr ⟨rfl,λ_=>trivial⟩)
theorem u5(hr:SR Z w0 H G w)(hb:Below w.heap.size w w'){it:Item}{g:Value}(hg:∀b,a9 g=some b->w.heap.size<=b)
  (hit:ItemRel w0.heap.size (G++[g]) (Av Z (H++[it]) (G++[g])) w' it g):SR Z w0 (H++[it]) (G++[g]) w':=by
 refine(jr hr hb hg).sr hr λit' g' h1 h2=>?_;grind [hr.len]
theorem vh(hr:SR Z w0 H G w)(hb:Below w.heap.size w w'):Step w0 H.length True H H G G w w':=by
 have hl:=hr.len;refine⟨hl,hr.below.trans (hb.mono hr.below.size),hb.size,λb hbw _=>hb.block b hbw,λi g _ h=>h,λi it' _ h=>⟨it',h,te trivial it'⟩,?_,λ_ g h=>h,λa h=>h⟩;grind
theorem Ik(hr:SR Z w0 H G w)(hb:Below w.heap.size w w'):SR Z w0 H G w':=
 (vh hr hb).sr hr λit' g' h1 _=>by rw[anH (amm _)]at h1;cases h1
theorem oU(hr:SR Z w0 H G w){j:Nat}{it it':Item}(hj:H[j]?=some it)(hl:it.live=true)(hB:Below w0.heap.size w0 w')(hz:w.heap.size<=w'.heap.size)
  (hblk:∀b,b<w.heap.size->(∀g,G[j]?=some g->a9 g≠some b)->w'.heap[b]?=w.heap[b]?):Step w0 j True H (H.set j it') G G w w':=by
 refine⟨by simp[hr.len],hB,hz,λb hb hn=>hblk b hb λg hg=>hn it g hj hl hg,λi g _ h=>h,λi it'' hi h=>?_,?_,λ_ g h=>h,λa h=>h⟩
 ·simp_all [aod,te]
 grind
theorem CD(hr:SR Z w0 H G w){j:Nat}{it it':Item}(hj:H[j]?=some it)(hl:it.live=true)(hB:Below w0.heap.size w0 w')(hz:w.heap.size<=w'.heap.size)
  (hblk:∀b,b<w.heap.size->(∀g,G[j]?=some g->a9 g≠some b)->w'.heap[b]?=w.heap[b]?) (hit:∀g,G[j]?=some g->ItemRel w0.heap.size G (Av Z (H.set j it') G) w' it' g):SR Z w0 (H.set j it') G w':=by
 refine(oU hr hj hl hB hz hblk).sr hr λit'' g' h1 h2=>?_;grind
theorem sU(j:Nat)(same:Prop)(s:SV):Wk j same s (jA j s):=by
 unfold jA;split
 ·exact .inl rfl
 ·rename_i h;exact .inr ⟨rfl,λh'=>by rw[h']at h;cases h⟩
theorem MQ(j:Nat)(same:Prop):∀it:Item,WkI j same it (jN (jA j) it)
 |.box t cs=>⟨rfl,by induction cs with|nil=>trivial|cons s l ih=>exact⟨sU j same s,ih⟩⟩
 |.rws t cs=>⟨rfl,by induction cs with|nil=>trivial|cons s l ih=>exact⟨sU j same s,ih⟩⟩
 |.row _ _ _=>rfl
 |.len _ _=>rfl
 |.gone=>rfl
theorem Qu(hr:SR Z w0 H G w){j:Nat}{it it':Item}{g g':Value}(hj:H[j]?=some it)(hm:it.isRw=true)(hg:G[j]?=some g)(hnp:∀a,g≠.pointer a)(hgr:w.grownBy w' (a9 g))(hb:w0.heap.size<=w.heap.size)
  (hg':∀b,a9 g'=some b->a9 g=some b\/w.heap.size<=b):Step w0 j False H ((H.map (jN (jA j))).set j it') G (G.set j g') w w':=by
 have hlt:=(amr.1 hj).1;refine⟨by simp[hr.len],?_,hgr.size,?_,?_,?_,?_,λh=>h.elim,?_⟩
 ·refine hr.below.grown hgr hb λk hk=>((hr.items j _ g hj hg).blk (sw hm) hk).1 (Ux hm)
 ·intro b hb' hn;exact hgr.block b hb' λe1=>hn _ g hj (sw hm) hg e1.symm
 ·grind
 ·intro i it' hi h;rw[ank,amJ (aod hi),ane]at h;grind [anz,amp,MQ]
 ·intro it' g1 b h1 h2 h3 h4;rw[ank,am2 rfl,am2 (by rw[hr.len];exact hlt)]at h3;injection h3 with h3;subst h3;rcases hg' b h4 with h5|h5
  ·exact .inl ⟨_,g,hj,sw hm,hg,h5⟩
  ·exact .inr h5
 grind
theorem S5{j:Nat}{et:TypeId}{e:Ty}{xs:List e.D}{g:Value}{A:Nat->Prop}(hr:SR Z w0 H G w)(hj:H[j]?=some (.row et e xs))(hg:G[j]?=some g)(hA:∀b,b<w.heap.size->Av Z H G b->A b)(hAj:∀b,a9 g=some b->A b):(Ty.sl e).rd A w [g] xs:=by
 obtain⟨css,ho,ha2,hn⟩:=hr.items j _ g hj hg;have hk:Keeps (Av Z H G) A w w:=⟨amm _,hA,λ_ _ _=>rfl⟩
 have ha3:=aY (λ_ _ h=>Ty.rd_keep hk h) ha2;have hrd:=Rd.of_own hn ho;obtain⟨hlen,p,c,hv,h1,h2,h3⟩:=hrd;subst hv;refine⟨p,xs.length,c,css,rfl,rfl,h1,h2,ha3,λh0=>?_⟩;obtain⟨b,off,rfl,h5,h6⟩:=h3 h0;exact⟨b,off,rfl,hAj b rfl,h5,h6⟩
theorem Pn{j lo n:Nat}{et:TypeId}{e:Ty}{xs:List e.D}{v:Value}{A:Nat->Prop}(hr:SR Z w0 H G w)(hj:H[j]?=some (.row et e xs))(hv:Rel1 G (Av Z H G) w (.osl j e.n lo n) v)(hA:∀b,b<w.heap.size->Av Z H G b->A b)(hAj:∀g b,G[j]?=some g->a9 g=some b->A b):(Ty.sl e).rd A w [v] ((xs.drop lo).take n):=by
 obtain⟨g,q,c,hg,rfl,h1,h2,h3,_⟩:=hv;obtain⟨css,ho,ha2,hn⟩:=hr.items j _ g hj hg;have hk:Keeps (Av Z H G) A w w:=⟨amm _,hA,λ_ _ _=>rfl⟩
 have ha3:=aY (λ_ _ h=>Ty.rd_keep hk h) ha2;have hl4:=ff ha2
 have hN:0<n->lo+n<=xs.length:=λh0=>by
  grind [dw]
 refine⟨q,n,c,(css.drop lo).take n,rfl,?_,h1,h2,iN _ (iC _ ha3),λh0=>?_⟩
 ·rcases am8 n with h0|h0
  ·subst h0;simp
  ·have:=hN h0;simp;omega
 ·obtain⟨b,N,c',rfl,h4,rfl⟩:=h3 h0;obtain⟨_,p,c1,hv,_,_,h6⟩:=Rd.of_own hn ho;injection hv with hv1 hv2 hv3;obtain⟨b',off,e1,h7,h8⟩:=h6 (by have:=hN h0;omega);rw[e1]at hv1;injection hv1 with hv1;injection hv1 with e2 e3;subst e2 e3;refine⟨b,lo*e.n,rfl,hAj _ b hg rfl,h7,λk u hu=>?_⟩;rw[em _ (λl hm=>hl4 l (anS hm)),fI _ hl4,anO]at hu;split at hu
  ·rw[anN]at hu;have:=h8 _ _ hu;rwa [amx]at this
  ·cases hu
theorem Al{j:Nat}{et:TypeId}{e:Ty}{xs:List e.D}(hr:SR Z w0 H G w)(hj:H[j]?=some (.row et e xs)):
  SR Z w0 ((H.map (jN (fz j e xs))).set j .gone) G w/\∀s v,Rel1 G (Av Z H G) w s v->Rel1 G (Av Z ((H.map (jN (fz j e xs))).set j .gone) G) w (fz j e xs s) v:=by
 have hlt:=(amr.1 hj).1;have hltG:j<G.length:=by rw[hr.len];exact hlt
 have hg:G[j]?=some G[j]:=amg hltG;generalize hgg:G[j]=g at hg
 have hget:∀(i:Nat) it',((H.map (jN (fz j e xs))).set j .gone)[i]?=some it'->(i=j/\it'=.gone)\/(i≠j/\∃it,H[i]?=some it/\it'=jN (fz j e xs) it):=by
  grind
 have live:∀it:Item,(jN (fz j e xs) it).live=it.live:=λit=>by cases it<;>rfl
 have hsub:∀b,b<w.heap.size->Av Z H G b->Av Z ((H.map (jN (fz j e xs))).set j .gone) G b:=by
  intro b _ hA;refine⟨hA.1,λi it' g' h1 h2 h3=>?_⟩;rcases hget i it' h1 with⟨_,rfl⟩|⟨_,it,h4,rfl⟩
  ·cases h2
  ·exact hA.2 i it g' h4 (by rw[<-live];exact h2) h3
 have hAj:∀b,a9 g=some b->Av Z ((H.map (jN (fz j e xs))).set j .gone) G b:=by
  intro b hb;refine⟨hr.zf b (((hr.items j _ g hj hg).blk rfl hb).1 rfl),λi it' g' h1 h2 h3=>?_⟩;rcases hget i it' h1 with⟨_,rfl⟩|⟨hij,it,h4,rfl⟩
  ·cases h2
  ·exact λh5=>hr.disj i j it _ g' g b hij h4 hj (by rw[<-live];exact h2) rfl h3 hg h5 hb
 have hk:Keeps (Av Z H G) (Av Z ((H.map (jN (fz j e xs))).set j .gone) G) w w:=⟨amm _,hsub,λ_ _ _=>rfl⟩
 have hrel:∀s v,Rel1 G (Av Z H G) w s v->Rel1 G (Av Z ((H.map (jN (fz j e xs))).set j .gone) G) w (fz j e xs s) v:=by
  intro s v h;unfold fz;split
  ·rename_i hof;split
   ·rename_i i;have:i=j:=amk hof;subst this;have h:G[i]?=some v:=h;rw[hg]at h;injection h with h;subst h;exact⟨[g],S5 hr hj hg hsub hAj,rfl⟩
   ·rename_i i sz lo n;have:i=j:=amk hof;subst this;split
    ·rename_i hb;have:=amk hb;subst this;have hv:=Pn hr hj h hsub (λg' b h1 h2=>hAj b (by rw[hg]at h1;injection h1 with h1;rw[h1];exact h2));exact⟨[v],hv,rfl⟩
    ·trivial
   ·trivial
  ·exact h.keep hk λi g' _ h=>h
 refine⟨⟨by simp[hr.len],hr.below,?_,?_,hr.zf⟩,hrel⟩
 ·intro i it' g' h1 h2;rcases hget i it' h1 with⟨_,rfl⟩|⟨hij,it,h4,rfl⟩
  ·trivial
  ·have hi:=hr.items i it g' h4 h2;cases it with
   |gone=>trivial
   |box t cs=>
    obtain⟨b,vs,rfl,k1,k2,k3⟩:=hi;refine⟨b,vs,rfl,k1,k2,?_⟩;clear k2 h4 h1;induction cs generalizing vs with
    |nil=>cases vs<;>exact k3
    |cons s l ih=>
     match vs,k3 with
     |v::vs,⟨q1,q2⟩=>exact⟨hrel s v q1,ih vs q2⟩
   |row et' e' xs'=>
    obtain⟨css,k1,k2,k3⟩:=hi;exact⟨css,k1,aY (λ_ _ h=>Ty.rd_keep hk h) k2,k3⟩
   |len e' xs'=>
    obtain⟨et',css,k1,k2,k3⟩:=hi;exact⟨et',css,k1,aY (λ_ _ h=>Ty.rd_keep hk h) k2,k3⟩
   |rws t cs=>
    obtain⟨vs,k1,k3⟩:=hi;refine⟨vs,by rw[anA];exact k1,?_⟩;clear k1 h4 h1;induction cs generalizing vs with
    |nil=>cases vs<;>exact k3
    |cons s l ih=>
     match vs,k3 with
     |v::vs,⟨q1,q2⟩=>exact⟨hrel s v q1,ih vs q2⟩
 ·intro i k it kt g1 h1 b hik a1 a2 a3 a4 a5 a6 a7;rcases hget i it a1 with⟨_,rfl⟩|⟨_,it0,b1,rfl⟩
  ·cases a3
  ·rcases hget k kt a2 with⟨_,rfl⟩|⟨_,kt0,c1,rfl⟩
   ·cases a4
   ·exact hr.disj i k it0 kt0 g1 h1 b hik b1 c1 (by rw[<-live];exact a3) (by rw[<-live];exact a4) a5 a6 a7
end
end
open Go.Maps
def zi6(n:Int):Prop:= -9223372036854775808<=n/\n<=9223372036854775807
def Nms(w:World):Prop:=∃bm n,w.cell? ⟨0,0,none⟩=some (.map (some bm))/\0<w.heap.size/\w.ownsMap (H:=Unit) Tryz.prog 3 (plainElem Tryz.prog 9) bm n Rows.laid_swarf_tool_names
theorem Nms.below{w w':World}(h:Nms w)(hb:Below w.heap.size w w'):Nms w':=by
 obtain⟨bm,n,hc,hg,hm⟩:=h;have hlt:=hm.lt;obtain⟨es,clock,hh,F,hs,hD⟩:=hm;exact⟨bm,n,(hb.cell (p:=⟨0,0,none⟩) hg).trans hc,anM hg hb.size,es,clock,(hb.block bm hlt).trans hh,F,hs,hD⟩
theorem zQ:Keyed Tryz.prog 3:=int_keyed Tryz.underlying3
theorem D9(w:World):(zeroValue 9).run Tryz.prog w=.ok (.string ⟨#[]⟩) w:=by kernel_rfl
theorem P0(k:Int):(k=1\/k=2\/k=3\/k=4)/\(∃l,l≠[]/\(Rows.laid_swarf_tool_names (H:=Unit)).atKey (.int .i64 k) (.lit (.string []))=.lit (.string l))\/
  (k<1\/4<k)/\(Rows.laid_swarf_tool_names (H:=Unit)).atKey (.int .i64 k) (.lit (.string []))=.lit (.string []):=by
 by_cases h1:k=1
 ·subst h1;exact .inl ⟨by omega,_,by simp,rfl⟩
 by_cases h2:k=2
 ·subst h2;exact .inl ⟨by omega,_,by simp,rfl⟩
 by_cases h3:k=3
 ·subst h3;exact .inl ⟨by omega,_,by simp,rfl⟩
 by_cases h4:k=4
 ·subst h4;exact .inl ⟨by omega,_,by simp,rfl⟩
 ·refine .inr ⟨by omega,?_⟩;have e1:¬1=k:=λh=>h1 h.symm;have e2:¬2=k:=λh=>h2 h.symm;have e3:¬3=k:=λh=>h3 h.symm;have e4:¬4=k:=λh=>h4 h.symm;simp[Rows.laid_swarf_tool_names,DataW.atKey,Lit.sameKey,List.find?,e1,e2,e3,e4]
theorem Nms.look{w:World}(h:Nms w)(k:Int)(hk:zi6 k):∃bm s,w.cell? ⟨0,0,none⟩=some (.map (some bm))/\(Instr.lookup 153 (.map (some bm)) (.int .i64 k) false).run Tryz.prog w=.ok (.string s) w/\
  ((1<=k/\k<=4)/\s.data.toList≠[]\/(k<1\/4<k)/\s.data.toList=[]):=by
 obtain⟨bm,n,hc,hg,hm⟩:=h;obtain⟨v,ps,hrun,hv⟩:=hm.lookup zQ Tryz.underlying153 (D9 w) (plainElem_string apa (s:=⟨#[]⟩) (by decide)) (keyOf_int_mk (a:=k) Tryz.underlying3 (WalkArith.wf_i64 hk));obtain⟨s,rfl,hz,_⟩:=plainElem_string_inv apa hv;refine⟨bm,s,hc,hrun,?_⟩;simp only[amL]at hz;rcases P0 k with⟨hk',l,hl,he⟩|⟨hk',he⟩
 ·rw[he]at hz;have:=hz.1;simp only[DataW.lit.injEq,Lit.string.injEq]at this;exact .inl ⟨by omega,by rw[<-this];exact hl⟩
 ·rw[he]at hz;have:=hz.1;simp only[DataW.lit.injEq,Lit.string.injEq]at this;exact .inr ⟨hk',this.symm⟩
def inv(w:World):Prop:=Nms w
theorem kn{w w':World}(h:inv w)(hb:Below w.heap.size w w'):inv w':=Nms.below h hb
section
inductive RV where
 |d (t:Ty) (x:t.D)
 |new (et:TypeId) (e:Ty) (xs:List e.D)
structure acm where
 ret:Bool
 g:List Int->List Int
 bx:Option Nat:=none
structure dJ where
 keep:Bool
 run:(R:Type)->List SV->(List RV->Option R)->Option R
 mut_:Option acm:=none
 tame:Bool:=false
 lent:Option (Nat×((R:Type)->List SV->(List RV->Option R)->Option R)):=none
abbrev Env:=List (Nat×dJ)
def lL:Env->Nat->Option dJ
 |[],_=>none
 |(k,x)::r,t=>match Nat.beq k t with
  |true=>some x
  |false=>lL r t
def ME(E:Env)(f:Nat):Option acm:=match lL E f with
 |some sp=>match sp.mut_ with
  |some g=>match g.bx with
   |some _=>none
   |none=>some g
  |none=>none
 |none=>none
def Ty.zsplit:Ty->List SV
 |.pair a b=>a.zsplit++b.zsplit
 |.st a=>a.zsplit
 |.int k=>[.d (.int k) (0:Int)]
 |.bool=>[.d .bool false]
 |.str=>[.d .str ⟨#[]⟩]
 |.sl _=>[.nil]
def zI(e:Ty):Nat->List SV->Option (List e.D)
 |0,[]=>some []
 |0,_=>none
 |n+1,l=>match e.join l with
  |some (x,r)=>match zI e n r with
   |some xs=>some (x::xs)
   |none=>none
  |none=>none
def mi{α:Type}(l:List α):Nat->List α
 |0=>[]
 |n+1=>l++mi l n
def vu(fl j:Nat)(L:SL)(H:List Item):Option (SL×List Item):=match Nat.ble fl j,H[j]? with
 |true,some (.row _ e xs)=>some (vW (fz j e xs) L,(H.map (jN (fz j e xs))).set j .gone)
 |_,_=>none
def o8(fl:Nat):List Operand->SL->List Item->Option (SL×List Item)
 |[],L,H=>some (L,H)
 |x::r,L,H=>match opS L x with
  |some (.own j)=>match vu fl j L H with
   |some (L',H')=>o8 fl r L' H'
   |none=>none
  |some (.osl j _ _ _)=>match vu fl j L H with
   |some (L',H')=>o8 fl r L' H'
   |none=>none
  |_=>o8 fl r L H
def fzB(fl:Nat)(o:Oper)(L:SL)(H:List Item):Option (SL×List Item):=match o.op with
 |.build _ parts=>o8 fl (parts.toList.map (·.2)) L H
 |_=>some (L,H)
def Fe:Operand->Operand->Bool
 |.tmp a,.tmp b=>Nat.beq a b
 |_,_=>false
def eW(T:TT)(H:List Item):List SV->List Nat->Option (List SV)
 |[],[]=>some []
 |s::l,t::ts=>match eW T H l ts with
  |some r=>match s with
   |.d t x=>some (.d t x::r)
   |.nil=>match dt T t with
    |some i=>match i.ty with
     |.sl e=>some (.d (.sl e) []::r)
     |_=>none
    |none=>none
   |.own j=>match H[j]? with
    |some (.row _ e xs)=>some (.d (.sl e) xs::r)
    |_=>none
   |.cut e xs=>some (.d (.sl e) xs::r)
   |.osl j sz lo n=>match H[j]? with
    |some (.row _ e xs)=>match Nat.beq sz e.n with
     |true=>some (.d (.sl e) ((xs.drop lo).take n)::r)
     |false=>none
    |_=>none
   |_=>none
  |none=>none
 |_,_=>none
def SV.noOwn:SV->Bool
 |.own _=>false
 |.osl _ _ _ _=>false
 |_=>true
def RV.flat:RV->Bool
 |.d t _=>t.flat
 |.new _ _ _=>false
def xN(rs:List RV):Bool:=match rs with
 |[.new _ e _]=>e.flat
 |rs=>rs.all RV.flat
def rvS:List RV->Option (List SV)
 |[]=>some []
 |.d t x::r=>match rvS r with
  |some l=>some (.d t x::l)
  |none=>none
 |.new _ e xs::r=>match rvS r with
  |some l=>some (.d (.sl e) xs::l)
  |none=>none
section
variable {R:Type}
def pL(H:List Item)(rs:List RV)(k:SV->List Item->Option R):Option R:=match rs with
 |[.new et e xs]=>k (.own H.length) (H++[.row et e xs])
 |[.d t x]=>k (.d t x) H
 |rs=>match rvS rs with
  |some l=>k (.tup l) H
  |none=>none
def qU:Nat->List SV->Bool
 |0,.own _::l=>l.all SV.noOwn
 |p+1,s::l=>s.noOwn&&qU p l
 |_,_=>false
def Zo(E:Env)(L:SL)(f:Nat)(args:List Operand):Option ((List SV)×((R:Type)->List SV->(List RV->Option R)->Option R)):=match lL E f with
 |some sp=>match sp.lent with
  |some (p,g)=>match xu L args with
   |some ss=>match qU p ss with
    |true=>some (ss,g)
    |false=>none
   |none=>none
  |none=>none
 |none=>none
def Oa(T:TT)(E:Env)(fl:Nat)(L:SL)(H:List Item)(f:Nat)(args:List Operand)(tys:List Nat)(k:SV->List Item->SL->Option R):Option R:=
 match Zo E L f args with
 |some (ss,g)=>match eW T (H.map rdI) ss tys with
  |some al=>g R al λrs=>pL H rs λs H'=>k s H' L
  |none=>none
 |none=>match lL E f with
 |some sp=>match sp.keep with
  |true=>match xu L args with
   |some ss=>match eW T H ss tys with
    |some al=>sp.run R al λrs=>match xN rs with
     |true=>pL H rs λs H'=>k s H' L
     |false=>none
    |none=>none
   |none=>none
  |false=>match o8 fl args L H with
   |some (L',H')=>match xu L' args with
    |some ss=>match eW T H' ss tys,ss.all SV.noOwn with
     |some al,true=>sp.run R al λrs=>pL H' rs λs H''=>k s H'' L'
     |_,_=>none
    |none=>none
   |none=>none
 |none=>none
def Mx(T:TT)(E:Env)(L:SL)(H:List Item)(f nc:Nat)(args:List Operand)(tys:List Nat)(k:SV->List Item->Option R):Option R:=match lL E f with
 |some sp=>match sp.keep,xu L args with
  |true,some ss=>match eW T H ss tys with
   |some al=>sp.run R (al++List.replicate nc .dead) λrs=>match xN rs with
    |true=>pL H rs k
    |false=>none
   |none=>none
  |_,_=>none
 |none=>none
def vm(H:List Item):SV->Bool
 |.own j=>match H[j]? with
  |some (.row _ _ _)=>true
  |_=>false
 |_=>false
def LC(L:SL)(len:Nat):List (Nat×Operand)->Option Nat
 |[(0,x)]=>match Nat.beq len 1,opS L x with
  |true,some (.own j)=>some j
  |_,_=>none
 |_=>none
def ji{α:Type}(z:α)(lo n:Nat)(xs:List α):List α:=xs.take lo++List.replicate n z++xs.drop (lo+n)
def eop(T:TT)(E:Env)(fl:Nat)(L:SL)(H:List Item)(o:Oper)(k:SV->List Item->SL->Option R):Option R:=
 match o.op with
 |.box t x=>match opS L x with
  |some s=>match fD H s with
   |some cs=>k (.box H.length 0) (H++[.box t cs]) L
   |none=>none
  |none=>none
 |.alloc t=>match dt T t with
  |some i=>match i.z,i.ty with
   |_,.pair _ _=>none
   |true,ty=>k (.box H.length 0) (H++[.box t ty.zsplit]) L
   |_,_=>none
  |none=>none
 |.buildSlice t len parts=>match LC L len parts.toList with
  |some j=>match H[j]?,dt T t with
   |some (.row _ _ _),some i=>match i.ty with
    |.sl (.sl _)=>k (.own H.length) (H++[.rws i.el [.own j]]) L
    |_=>none
   |_,_=>none
  |none=>match dt T t with
   |some i=>match i.ty with
    |.sl e=>match o8 fl (parts.toList.map (·.2)) L H with
     |some (L',H')=>match qH H' L' (λq=>some (q*e.n,e.n)) (mi (e.split e.zero) len) parts.toList with
      |some cs=>match zI e len cs,Nat.ble (len*e.n) 16777216 with
       |some xs,true=>k (.own H'.length) (H'++[.row i.el e xs]) L'
       |_,_=>none
      |none=>none
     |none=>none
    |_=>none
   |none=>none
 |.makeSlice t x y=>match Fe x y,opS L x,dt T t with
  |true,some (.d (.int _) n),some i=>match i.ty with
   |.sl (.sl _)=>match decide (0<=n/\n*i.byt<=140737488355328/\n<=140737488355328)with
    |true=>k (.own H.length) (H++[.rws i.el (List.replicate n.toNat .nil)]) L
    |false=>none
   |.sl e=>match decide (0<=n/\n*i.byt<=140737488355328/\n<=140737488355328)with
    |true=>k (.own H.length) (H++[.row i.el e (List.replicate n.toNat e.zero)]) L
    |false=>none
   |_=>none
  |false,some (.d (.int _) m),some i=>match opS L y,i.ty with
   |some (.d (.int _) n),.sl e=>match decide (m=0/\0<=n/\n*i.byt<=140737488355328/\n<=140737488355328)with
    |true=>k (.own H.length) (H++[.row i.el e []]) L
    |false=>none
   |_,_=>none
  |_,_,_=>none
 |.store t x v=>match opS L x,opS L v,dt T t with
  |some (.box j off),some s,some i=>match H[j]?,fD H s with
   |some (.box bt cells),some l=>match Nat.beq l.length i.ty.n&&Nat.ble (off+l.length) cells.length with
    |true=>k .undef (H.set j (.box bt (nK cells off l))) L
    |false=>none
   |_,_=>none
  |some (.oelt j sz m off),some (.d t' y),some i=>match true,H[j]? with
   |true,some (.row et e xs)=>match Nat.beq sz e.n&&Nat.beq t'.n i.ty.n,xs[m]? with
    |true,some x=>match t',e.upd x off t' y with
     |.pair _ _,_=>none
     |_,some x'=>k .undef (H.set j (.row et e (xs.set m x'))) L
     |_,none=>none
    |_,_=>none
   |_,_=>none
  |some (.oelt j sz m off),some s,some i=>match H[j]? with
   |some (.rws et cells)=>match Nat.beq sz 1&&Nat.beq off 0&&i.ty.isSl&&Nat.ble (m+1) cells.length,fD H s with
    |true,some [s']=>k .undef (H.set j (.rws et (cells.set m s'))) L
    |_,_=>none
   |_=>none
  |_,_,_=>none
 |.call ⟨.builtin .append,⟨[x,y]⟩,⟨[t,t']⟩⟩=>match Nat.beq t t',dt T t with
  |true,some i=>match i.ty with
   |.sl e=>match eW T (H.map rdI) ((opS L y).toList) [t]with
    |some [.d (.sl e') ys]=>match eN (.sl e') (.sl e) ys with
     |some ys=>match opS L x with
      |some (.own j)=>match Nat.ble fl j,H[j]? with
       |true,some (.row et e0 xs)=>match Nat.beq et i.el,eN (.sl e0) (.sl e) xs with
        |true,some xs=>match decide ((xs.length+ys.length)*i.byt<=140737488355328/\xs.length+ys.length<=140737488355328)with
         |true=>k (.own j) ((H.map (jN (jA j))).set j (.row i.el e (xs++ys))) (vW (jA j) L)
         |false=>none
        |_,_=>none
       |_,_=>none
      |some (.osl j sz lo n)=>match Nat.beq lo 0&&Nat.ble fl j,H[j]? with
       |true,some (.row et e0 xs)=>match Nat.beq sz e0.n&&Nat.beq et i.el,eN (.sl e0) (.sl e) xs with
        |true,some xs=>match decide (n<=xs.length/\((xs.take n).length+ys.length)*i.byt<=140737488355328/\(xs.take n).length+ys.length<=140737488355328)with
         |true=>k (.own j) ((H.map (jN (jA j))).set j (.row i.el e (xs.take n++ys))) (vW (jA j) L)
         |false=>none
        |_,_=>none
       |_,_=>none
      |some .nil=>match decide (ys.length*i.byt<=140737488355328/\ys.length<=140737488355328)with
       |true=>k (.own H.length) (H++[.row i.el e ys]) L
       |false=>none
      |some (.cut e0 xs)=>match eN (.sl e0) (.sl e) xs with
       |some xs=>match decide (xs≠[]/\ys≠[]/\(xs.length+ys.length)*i.byt<=140737488355328/\xs.length+ys.length<=140737488355328)with
        |true=>k (.own H.length) (H++[.row i.el e (xs++ys)]) L
        |false=>none
       |none=>none
      |_=>none
     |none=>none
    |_=>match opS L x,opS L y with
     |some (.own j),some (.own j2)=>match Nat.ble fl j,H[j]?,H[j2]? with
      |true,some (.rws et cs),some (.rws _ ys)=>match Nat.beq et i.el&&Nat.beq e.n 1&&ys.all (vm H),decide ((cs.length+ys.length)*i.byt<=140737488355328/\cs.length+ys.length<=140737488355328)with
       |true,true=>k (.own j) ((H.map (jN (jA j))).set j (.rws i.el ((cs++ys).map (jA j)))) (vW (jA j) L)
       |_,_=>none
      |_,_,_=>none
     |some .nil,some (.own j2)=>match H[j2]? with
      |some (.rws _ ys)=>match Nat.beq e.n 1&&ys.all (vm H),decide (ys.length*i.byt<=140737488355328/\ys.length<=140737488355328)with
       |true,true=>k (.own H.length) (H++[.rws i.el ys]) L
       |_,_=>none
      |_=>none
     |_,_=>none
   |_=>none
  |_,_=>none
 |.call ⟨.builtin .clear,⟨[x]⟩,⟨[t]⟩⟩=>match opS L x with
  |some (.osl j sz lo n)=>match H[j]? with
   |some (.row et e0 xs)=>match dt T t with
    |some i=>match Nat.beq sz e0.n&&Nat.beq et i.el with
     |true=>match i.ty with
      |.sl e=>match eN (.sl e0) (.sl e) xs with
       |some xs=>k (.tup []) (H.set j (.row et e (ji e.zero lo n xs))) L
       |none=>none
      |_=>none
     |false=>none
    |none=>none
   |_=>none
  |_=>none
 |.call ⟨.value f,args,tys⟩=>match opS L f with
  |some (.clo f [])=>match ME E f with
   |some g=>match args.toList with
    |[x]=>match opS L x with
     |some (.own j)=>match Nat.ble fl j,H[j]? with
      |true,some (.row et (.int .i64) xs)=>match decide (xs.length<=140737488355328)with
       |true=>match g.ret with
        |false=>k (.tup []) (H.set j (.row et (.int .i64) (g.g xs))) L
        |true=>k (.own j) ((H.map (jN (jA j))).set j (.row et (.int .i64) (g.g xs))) (vW (jA j) L)
       |false=>none
      |_,_=>none
     |_=>none
    |_=>none
   |none=>Oa T E fl L H f args.toList tys.toList k
  |some (.clo f (_::cs))=>Mx T E L H f (cs.length+1) args.toList tys.toList λs H'=>k s H' L
  |_=>none
 |_=>none
end
def vC(E:Env)(L:SL):Op->Bool
 |.call ⟨.value f,_,_⟩=>match opS L f with
  |some (.clo f [])=>(ME E f).isSome
  |_=>false
 |_=>false
def agn(P:Program)(f:Nat)(g:List Int->List Int):Prop:=
 ∀(w:World) (base et:Nat) (v:Value) (xs:List Int),w.ownsRow base et 1 v xs.length (xs.map (Value.int .i64))->xs.length<=140737488355328->
  Calls P f #[v] w λe w'=>e=.returned (.tuple #[])/\w'.ownsRow base et 1 v xs.length ((g xs).map (Value.int .i64))/\(g xs).length=xs.length/\w.grownBy w' (a9 v)
def ahv(P:Program)(f:Nat)(g:List Int->List Int):Prop:=
 ∀(w:World) (base et:Nat) (v:Value) (xs:List Int),w.ownsRow base et 1 v xs.length (xs.map (Value.int .i64))->xs.length<=140737488355328->
  Calls P f #[v] w λe w'=>∃v',e=.returned v'/\w'.ownsRow base et 1 v' (g xs).length ((g xs).map (Value.int .i64))/\w.grownBy w' (a9 v)/\a9 v'=a9 v
def afg(P:Program)(f t:Nat):Prop:=
 ∀(w:World) (c:Nat) (b ok:Bool) (x y:Int),inv w->Blk w c t #[.bool b]->
  Calls P f #[.pointer (some ⟨c,0,none⟩),.agg #[.int .i64 x,.int .i64 y],.bool ok] w λe w'=>e=.returned (.agg #[.int .i64 x,.int .i64 y])/\Blk w' c t #[.bool (b&&ok)]/\w.grownBy w' (some c)
def KM(P:Program)(f:Nat)(m:acm):Prop:=match m.bx with
 |some t=>afg P f t
 |none=>match m.ret with
  |false=>agn P f m.g
  |true=>ahv P f m.g
def ro(A:Nat->Prop)(base:Nat)(w:World)(rs:List RV)(v:Value):Prop:=match rs with
 |[.new et e xs]=>∃css,w.ownsRow base et e.n v xs.length (List.flatten css)/\bI (λl y=>e.rd (λb=>A b/\a9 v≠some b) w l y) css xs/\0<e.n
 |[.d t x]=>Rel1 [] A w (.d t x) v
 |rs=>∃vs:List Value,v=.tuple vs.toArray/\∃l,rvS rs=some l/\bI (Rel1 [] A w) l vs
def Con(P:Program)(f:Nat)(args:List SV)(rs:List RV):Prop:=
 ∀(A:Nat->Prop) (w:World) (vs:List Value),inv w->bI (Rel1 [] A w) args vs->Calls P f vs.toArray w λe w'=>∃v,e=.returned v/\Below w.heap.size w w'/\ro (λb=>A b\/w.heap.size<=b) w.heap.size w' rs v
def Jc(A:Nat->Prop)(w:World)(s:SV)(v:Value):Prop:=∃(e:Ty) (xs:List e.D) (et:TypeId) (css:List (List Value)),s=.d (.sl e) xs/\w.ownsRow 0 et e.n v xs.length (List.flatten css)/\bI (λl y=>e.rd A w l y) css xs/\0<e.n/\∀b,a9 v=some b->¬A b
def VX(A:Nat->Prop)(w:World):Nat->List SV->List Value->Prop
 |0,s::l,v::vs=>Jc A w s v/\bI (Rel1 [] A w) l vs
 |p+1,s::l,v::vs=>Rel1 [] A w s v/\VX A w p l vs
 |_,_,_=>False
def akS(P:Program)(f p:Nat)(args:List SV)(rs:List RV):Prop:=
 ∀(A:Nat->Prop) (w:World) (vs:List Value),inv w->VX A w p args vs->Calls P f vs.toArray w λe w'=>∃v,e=.returned v/\Below w.heap.size w w'/\ro (λb=>A b\/w.heap.size<=b) w.heap.size w' rs v
def BD(P:Program)(f:Nat)(sp:dJ):Prop:=∀p g,sp.lent=some (p,g)->∀(R:Type) args (k:List RV->Option R) r,g R args k=some r->∃rs,k rs=some r/\akS P f p args rs
def Cc(P:Program)(f:Nat)(sp:dJ):Prop:=∀(R:Type) args (k:List RV->Option R) r,sp.run R args k=some r->∃rs,k rs=some r/\Con P f args rs
def dG(P:Program)(g:Nat):Bool:=match P.funcs[g]? with
 | some fn => !(fn.name == "runtime.NumGoroutine") && fn.body.isSome
 |none=>false
def kD(P:Program)(E:Env):Prop:=∀f sp,lL E f=some sp->dG P f=true/\Cc P f sp/\(∀g,sp.mut_=some g->KM P f g)/\BD P f sp
end
end Go.Proofs.YtmnlppieefomnaaGreatDoor
end
