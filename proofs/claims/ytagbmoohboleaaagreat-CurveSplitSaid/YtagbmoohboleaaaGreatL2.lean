/- .. loads, addresses, parts, slices. -/
import Derived.Test.YtagbmoohboleaaaGreatL1
import Derived.Lib.LazyBuf
import Derived.Laws.OwnMore
noncomputable section
namespace Go.Proofs.YtagbmoohboleaaaGreat
open Go.RowKit Go.IntKind
theorem afp:type_of% @of_decide_eq_true:=@of_decide_eq_true
theorem afA:type_of% @Nat.le_trans:=@Nat.le_trans
theorem afD:type_of% @List.length_cons:=@List.length_cons
theorem afJ:type_of% @List.getElem?_append_left:=@List.getElem?_append_left
theorem afL:type_of% @List.mem_append:=@List.mem_append
theorem afN:type_of% @List.length_append:=@List.length_append
theorem afO:type_of% @List.append_nil:=@List.append_nil
theorem afW:type_of% @List.getElem?_append_right:=@List.getElem?_append_right
theorem af9:type_of% @List.getElem?_set:=@List.getElem?_set
theorem age:type_of% @Nat.eq_zero_or_pos:=@Nat.eq_zero_or_pos
theorem agt:type_of% @Option.map_some:=@Option.map_some
theorem agx:type_of% @List.flatten_cons:=@List.flatten_cons
theorem agy:type_of% @List.take_of_length_le:=@List.take_of_length_le
theorem agK:type_of% @List.getElem?_eq_none:=@List.getElem?_eq_none
theorem ag3:type_of% @List.ext_getElem?:=@List.ext_getElem?
theorem ag6:type_of% @Nat.succ_mul:=@Nat.succ_mul
theorem ag7:type_of% @List.foldl_cons:=@List.foldl_cons
theorem ahd:type_of% @List.getElem?_drop:=@List.getElem?_drop
theorem ahf:type_of% @List.eq_nil_of_length_eq_zero:=@List.eq_nil_of_length_eq_zero
theorem ahs:type_of% @List.getElem?_take:=@List.getElem?_take
theorem aht:type_of% @Nat.add_assoc:=@Nat.add_assoc
theorem ahx:type_of% @List.mem_of_mem_take:=@List.mem_of_mem_take
theorem ahy:type_of% @List.mem_of_mem_drop:=@List.mem_of_mem_drop
theorem ahD:type_of% @List.map_cons:=@List.map_cons
theorem ahE:type_of% @List.all_cons:=@List.all_cons
theorem ahM:type_of% @Bool.false_eq_true:=@Bool.false_eq_true
theorem ahQ:type_of% @List.headD_cons:=@List.headD_cons
theorem ahR:type_of% @Nat.sub_self:=@Nat.sub_self
theorem aie:type_of% @Nat.add_zero:=@Nat.add_zero
theorem aif:type_of% @Nat.mod_lt:=@Nat.mod_lt
section
theorem nj{P:Program}(w:World)(b o:Nat)(ty:TypeId)(v:Value)(d:TypeDesc)(hc:w.cell? ⟨b,o,none⟩=some v)(hu:P.underlying ty=some d)(hd:d.isRow=false):
  (Instr.loadAt ty (.pointer (some ⟨b,o,none⟩))).run P w=.ok v w:=by
 have hagg:(isAgg ty).run P w=.ok false w:=by
  unfold isAgg;rw[agm,af5 hu w];cases d<;>simp_all
 have hl:(load ⟨b,o,none⟩).run P w=.ok v w:=by simp only[load,Sem.run,hc]
 simp only[Instr.loadAt,Instr.sureAddr,loadVar,agm,agH,afR,hagg,ahM,if_false];omega
theorem lM{P:Program}{t:Nat}{i:TI}(hc:chk P t i=true)(w:World)(b o:Nat)(cs:List Value)(hl:cs.length=i.ty.n)(hn:i.ty.isSt=false->i.ty.n=1)(hcs:iL w b o cs):
  (Instr.loadAt t (.pointer (some ⟨b,o,none⟩))).run P w=.ok (mkV i.ty cs) w:=by
 obtain⟨d,h1,h2⟩:=Ba hc;have hsz:=xy hc;cases hst:i.ty.isSt with
 |true=>
  rw[hst]at h2;rw[run_loadAt_mid w b o t cs d hcs h1 h2 (by rw[hsz,hl])];grind [mkV]
 |false=>
  rw[hst]at h2;have hl1:=hn hst;match cs,hl with
  |[v],_=>rw[nj w b o t v d (by simpa using hcs 0 v rfl) h1 h2];simp[mkV,hst]
  |[],hl=>rw[hl1]at hl;simp at hl
  |_::_::_,hl=>rw[hl1]at hl;simp at hl
theorem Ix{P:Program}{s f:Nat}{fs:Array Field}{fl:Field}{i:TI}(hs:P.underlying s=some (.struct fs))(hf:fs[f]?=some fl)(hc:chk P fl.type i=true)(w:World)(cs:List Value)(hl:((cs.drop fl.offset).take i.ty.n).length=i.ty.n)(hn:i.ty.isSt=false->i.ty.n=1):
  (Instr.field s (.agg cs.toArray) f).run P w=.ok (mkV i.ty ((cs.drop fl.offset).take i.ty.n)) w:=by
 obtain⟨d,h1,h2⟩:=Ba hc;have hsz:=xy hc;cases hi:P.info? fl.type with
 |none=>rw[hi]at hsz;cases hsz
 |some inf=>
  have hs2:inf.size=i.ty.n:=by rw[hi]at hsz;simpa using hsz
  cases hst:i.ty.isSt with
  |true=>
   rw[hst]at h2
   have hx:cs.toArray.extract fl.offset (fl.offset+inf.size)=((cs.drop fl.offset).take i.ty.n).toArray:=by
    rw[hs2];simp[List.take_drop]
   cases d<;>simp[TypeDesc.isRow]at h2<;>simp[Instr.field,af5 hs,hf,asAgg,part,isAgg,af5 h1,sizeOf,typeInfo,hi,hs2,mkV,hst]
  |false=>
   rw[hst]at h2;have h0:=hn hst
   have hg:cs[fl.offset]?=some (((cs.drop fl.offset).take i.ty.n).headD undef)/\(cs.drop fl.offset).take i.ty.n=[((cs.drop fl.offset).take i.ty.n).headD undef]:=by
    rw[h0]at hl ⊢;cases hd:cs.drop fl.offset with
    |nil=>rw[hd]at hl;simp at hl
    |cons v r=>
     have:(cs.drop fl.offset)[0]?=some v:=by rw[hd];rfl
     rw[ahd]at this;simpa using this
   cases d<;>simp[TypeDesc.isRow]at h2<;>(rw[hg.2];simp[Instr.field,af5 hs,hf,asAgg,part,isAgg,af5 h1,hg.1,mkV,hst])
theorem ow{P:Program}{t f:Nat}{i:TI}{p:Nat×Nat}(hc:chk P t i=true)(hp:i.pl[f]?=some p)(w:World)(b o:Nat):
  (Instr.fieldAt t (.pointer (some ⟨b,o,none⟩)) f).run P w=.ok (.pointer (some ⟨b,o+p.1,none⟩)) w:=by
 obtain⟨fs,fl,inf,h1,h2,h3,h4,h5⟩:=Iz hc hp;simp[Instr.fieldAt,af5 h1,h2,Instr.sureAddr,fieldPlace,sizeOf,typeInfo,h4,h5,dE,h3]
theorem kW{sz:Nat}:∀{css:List (List Value)} {n i:Nat} {l:List Value} {v:Value},(∀l∈css,l.length=sz)->css[n]?=some l->l[i]?=some v->css.flatten[n*sz+i]?=some v
 |[],_,_,_,_,_,h,_=>by simp at h
 |c::css,0,i,l,v,hl,h,hv=>by
  simp at h;subst h;rw[agx,Nat.zero_mul,afY,afJ (afx.1 hv).1];exact hv
 |c::css,n+1,i,l,v,hl,h,hv=>by
  have hc:c.length=sz:=hl c (by simp);rw[agx,afW (by rw[hc,ag6];omega),hc,show(n+1)*sz+i-sz=n*sz+i by rw[ag6];omega];exact kW (λl hm=>hl l (by simp[hm])) (by simpa using h) hv
theorem fN{A:Nat->Prop}{w:World}{e:Ty}:∀{css:List (List Value)} {xs:List e.D},b9 (λl y=>e.rd A w l y) css xs->∀l∈css,l.length=e.n
 |[],[],_,l,h=>by simp at h
 |c::css,x::xs,⟨h1,h2⟩,l,h=>by
  rcases afy.1 h with rfl|h
  ·exact Ty.rd_len h1
  ·exact fN h2 l h
theorem gQ{sz:Nat}:∀{css:List (List Value)},(∀l∈css,l.length=sz)->css.flatten.length=css.length*sz
 |[],_=>by simp
 |c::css,h=>by rw[agx,afN,gQ (λl hm=>h l (by simp[hm])),h c (by simp),afD,ag6];omega
theorem fU{sz:Nat}:∀{css:List (List Value)} (n:Nat),(∀l∈css,l.length=sz)->(css.take n).flatten=css.flatten.take (n*sz)
 |[],n,_=>by simp
 |c::css,0,_=>by simp
 |c::css,n+1,h=>by
  have hc:=h c (by simp);rw[List.take_succ_cons,agx,fU n (λl hm=>h l (by simp[hm])),agx,List.take_append,hc,agy (l:=c) (by rw[hc,ag6];omega),show(n+1)*sz-sz=n*sz by rw[ag6];omega]
theorem fL{sz:Nat}:∀{css:List (List Value)} (n:Nat),(∀l∈css,l.length=sz)->(css.drop n).flatten=css.flatten.drop (n*sz)
 |[],n,_=>by simp
 |c::css,0,_=>by simp
 |c::css,n+1,h=>by
  have hc:=h c (by simp);rw[List.drop_succ_cons,agx,fL n (λl hm=>h l (by simp[hm])),List.drop_append,hc,(agh (by rw[hc,ag6];omega):c.drop ((n+1)*sz)=[]),ahP,show(n+1)*sz-sz=n*sz by rw[ag6];omega]
section
variable {Z:Nat->Prop} {w0:World} {n:Nat} {L:SL} {H:List Item} {G:List Value} {w:World} {a:Act} {P:Program} {T:TT}
theorem Agr.pure{rw:Bool}{w':World}(ha:Agr rw H G w w'){b:Nat}(hb:b<w.heap.size)(hA:Av Z H G b):w'.heap[b]?=w.heap[b]?:=
 ha.2 b hb (.inr λ⟨j,_et,_e,_xs,g,h1,h2,h3⟩=>hA.2 j _ g h1 rfl h2 h3)
theorem Agr.box{rw:Bool}{w':World}(ha:Agr rw H G w w')(hr:SR Z w0 H G w){j b:Nat}{t:TypeId}{cs:List SV}{g:Value}(hj:H[j]?=some (.box t cs))(hg:G[j]?=some g)(hb:bG g=some b):w'.heap[b]?=w.heap[b]?:=
 ha.2 b ((hr.items j _ g hj hg).blk rfl hb).2 (.inr λ⟨i,et,e,xs,h,h1,h2,h3⟩=>by
  by_cases hij:i=j
  ·subst hij;rw[hj]at h1;cases h1
  ·exact hr.disj i j _ _ h g b hij h1 hj rfl rfl h2 hg h3 hb)
theorem mS{w':World}{b o:Nat}{cs:List Value}(h:w'.heap[b]?=w.heap[b]?)(hc:iL w b o cs):iL w' b o cs:=λi v hv=>(World.cell?_of_block (a:=⟨b,o+i,none⟩) h).trans (hc i v hv)
theorem IA{base et:Nat}{e:Ty}{g:Value}{m b c N:Nat}{css:List (List Value)}{l:List Value}{A:Nat->Prop}{xs:List e.D}(ho:w.ownsRow base et e.n g m css.flatten)(hg:g=.slice (some ⟨b,0,none⟩) N c)(ha:b9 (λl y=>e.rd A w l y) css xs){k:Nat}(hk:css[k]?=some l):iL w b (k*e.n) l:=by
 intro i v hv;have hf:=kW (fN ha) hk hv;rcases ho.2 with⟨rfl,_⟩|⟨g',cap,cur,rfl,h1,h2,h3,h4,h5,h6⟩
 ·grind
 ·injection hg with hg;injection hg with hg;injection hg with hg;subst hg;rw[cell_of_row w _ _ cur et (0,0) h2];grind
theorem Mf{e t:Ty}{x:e.D}{off:Nat}{y:t.D}:e.sub x off t=some y->t.isSt=false->t.n=1:=by
 have lf:∀{e:Ty} {x:e.D} {off:Nat},e.n=1->(match Nat.beq off 0 with|true=>ff e t x|false=>none)=some y->t.n=1:=by
  intro e x off hn h;split at h
  ·obtain⟨rfl,_⟩:=dl h;exact hn
  ·cases h
 induction e generalizing off with
 |int k=>exact λh _=>lf rfl h
 |bool=>exact λh _=>lf rfl h
 |str=>exact λh _=>lf rfl h
 |sl e=>exact λh _=>lf rfl h
 |st a ih=>
  intro h hs;simp only[Ty.sub]at h;split at h
  ·grind [dl,Ty.isSt]
  ·exact ih h hs
 |pair a b iha ihb=>
  grind [Ty.sub]
theorem Cw(hr:SR Z w0 H G w){rw:Bool}{t:Nat}{i:TI}(hc:chk P t i=true){j off:Nat}{bt:TypeId}{cells:List SV}{p:Value}{s:SV}(hp:Rel G (Av Z H G) w (.box j off) p)(hj:H[j]?=some (.box bt cells))(hl:Il i.ty (cells.drop off)=some s):
  ∃v,Rel1 G (Av Z H G) w s v/\∀w',Agr rw H G w w'->(Instr.loadAt t p).run P w'=.ok v w':=by
 obtain⟨b,hg,rfl⟩:=hp;obtain⟨b',vs,e1,hb,hblk,hrel⟩:=hr.items j _ _ hj hg;injection e1 with e1;injection e1 with e1;injection e1 with e1;subst e1
 have hcell:∀(cs:List Value),(∃r,vs.drop off=cs++r)->iL w b off cs:=by
  rintro cs ⟨r,hcs⟩ k v hv
  refine hblk.cell _ ?_;have:(vs.drop off)[k]?=some v:=by rw[hcs,afJ (afx.1 hv).1];exact hv
  grind
 have hd:=iw off hrel;unfold Il at hl;split at hl
 ·rename_i hst;split at hl
  ·rename_i x r hjn;injection hl with hl;subst hl;obtain⟨v1,v2,h1,h2,_⟩:=pD hjn hd;refine⟨mkV i.ty v1,⟨v1,h2,rfl⟩,λw' ha=>?_⟩;exact lM hc w' b off v1 (Ty.rd_len h2) (λh=>by rw[hst]at h;cases h) (mS (ha.box hr hj hg rfl) (hcell v1 ⟨v2,h1⟩))
  ·cases hl
 ·rename_i hst;split at hl
  ·rename_i s' r hdr;split at hl<;>try (cases hl;done)
   rename_i hgood;injection hl with hl;subst hl;rw[hdr]at hd;match hv:vs.drop off,hd with
   |v::vr,hd=>
    obtain⟨h1,_⟩:=hd;obtain⟨d,hu,hrow⟩:=Ba hc;refine⟨v,h1,λw' ha=>?_⟩;refine nj w' b off t v d ?_ hu (by rw[hrow,hst]);have:=mS (ha.box hr hj hg rfl) (hcell [v] ⟨vr,hv⟩) 0 v rfl;simpa using this
  ·cases hl
theorem JI{rw:Bool}{t:Nat}{i:TI}(hc:chk P t i=true){e:Ty}{x:e.D}{off:Nat}{p:Value}{y:i.ty.D}(hp:Rel G (Av Z H G) w (.elt e x off) p)(hs:e.sub x off i.ty=some y):
  ∃v,Rel1 G (Av Z H G) w (.d i.ty y) v/\∀w',Agr rw H G w w'->(Instr.loadAt t p).run P w'=.ok v w':=by
 obtain⟨b,o,cs,rfl,hA,hb,hrd,hcs⟩:=hp;have h1:=D4 hrd hs;refine⟨mkV i.ty _,⟨_,h1,rfl⟩,λw' ha=>?_⟩;refine lM hc w' b (o+off) _ (Ty.rd_len h1) (Mf hs) (mS (ha.pure hb hA) λk v hv=>?_);rw[ahs]at hv;split at hv
 ·rw[ahd]at hv;have:=hcs _ _ hv;grind
 grind
theorem Je(hr:SR Z w0 H G w){t:Nat}{i:TI}(hc:chk P t i=true){j k off:Nat}{et:TypeId}{e:Ty}{xs:List e.D}{x:e.D}{p:Value}{y:i.ty.D}(hp:Rel G (Av Z H G) w (.oelt j e.n k off) p)(hj:(H.map rdI)[j]?=some (.row et e xs))(hx:xs[k]?=some x)(hs:e.sub x off i.ty=some y):
  ∃v,Rel1 G (Av Z H G) w (.d i.ty y) v/\∀w',Agr true H G w w'->(Instr.loadAt t p).run P w'=.ok v w':=by
 obtain⟨b,m,c,hg,rfl⟩:=hp;obtain⟨css,_,ho,ha2,_⟩:=hr.read hj hg;obtain⟨l,hl,hrd⟩:=oA ha2 k x hx;have h1:=D4 hrd hs;refine⟨mkV i.ty _,⟨_,h1,rfl⟩,λw' ha=>?_⟩;have hb:=(hr.rblk hj hg rfl).1;refine lM hc w' b (k*e.n+off) _ (Ty.rd_len h1) (Mf hs) (mS (ha.2 b hb (.inl rfl)) λq v hv=>?_);rw[ahs]at hv;split at hv
 ·rw[ahd]at hv;have:=IA ho rfl ha2 hl _ _ hv;grind
 grind
theorem ke{t:Nat}{i:TI}{e:Ty}(hc:chk P t i=true)(ht:i.ty=.sl e)(w:World)(b off len c:Nat)(kd:IntKind)(m:Int)(h0:0<=m)(h1:m<len):
  (Instr.indexAt t (.slice (some ⟨b,off,none⟩) len c) (.int kd m)).run P w=.ok (.pointer (some ⟨b,off+m.toNat*e.n,none⟩)) w:=by
 obtain⟨hu,_,j,hj,hjs,_⟩:=dS hc ht;simp[Instr.indexAt,asIntOf,af5 hu,sizeOf,typeInfo,hj,h0,h1,dE,hjs]
theorem zm{α:Type}{xs:List α}{m:Int}{y:α}(h:aG xs m=some y):0<=m/\m<xs.length/\xs[m.toNat]?=some y:=by grind [aG]
theorem OM{t:Nat}{i:TI}{e:Ty}(hc:chk P t i=true)(ht:i.ty=.sl e){xs:List e.D}{m:Int}{y:e.D}{p:Value}{kd:IntKind}(hp:Rel G (Av Z H G) w (.d (.sl e) xs) p)(hy:aG xs m=some y):
  ∃v,Rel1 G (Av Z H G) w (.elt e y 0) v/\∀w',(Instr.indexAt t p (.int kd m)).run P w'=.ok v w':=by
 obtain⟨cs,hrd,rfl⟩:=hp;obtain⟨p,n,c,css,rfl,h1,h2,h3,h4,h5⟩:=hrd;obtain⟨g1,g2,g3⟩:=zm hy;obtain⟨b,off,rfl,hA,hb,hcs⟩:=h5 (by omega);obtain⟨l,hl,hrd⟩:=oA h4 _ _ g3;refine⟨.pointer (some ⟨b,off+m.toNat*e.n,none⟩),⟨b,off+m.toNat*e.n,l,rfl,hA,hb,hrd,λk v hv=>?_⟩,λw'=>ke hc ht w' b off n c kd m g1 (by omega)⟩;have:=hcs _ _ (kW (fN h4) hl hv);grind
theorem fa{base et sz:Nat}{g:Value}{m:Nat}{cs:List Value}(h:w.ownsRow base et sz g m cs):(g=.slice none 0 0/\m=0)\/∃b c,g=.slice (some ⟨b,0,none⟩) m c:=by rcases h.2 with h|⟨g',cap,cur,rfl,_⟩<;>grind
theorem IP(hr:SR Z w0 H G w){t:Nat}{i:TI}{e:Ty}(hc:chk P t i=true)(ht:i.ty=.sl e){et:TypeId}{xs:List e.D}{j:Nat}{m:Int}{y:e.D}{p:Value}{kd:IntKind}(hj:(H.map rdI)[j]?=some (.row et e xs))(hp:Rel G (Av Z H G) w (.own j) p)(hy:aG xs m=some y):
  ∃v,Rel1 G (Av Z H G) w (.oelt j e.n m.toNat 0) v/\∀w',(Instr.indexAt t p (.int kd m)).run P w'=.ok v w':=by
 obtain⟨css,_,ho,_⟩:=hr.read hj hp;obtain⟨g1,g2,g3⟩:=zm hy;rcases fa ho with⟨rfl,h0⟩|⟨b,c,rfl⟩
 ·omega
 ·refine⟨.pointer (some ⟨b,m.toNat*e.n,none⟩),⟨b,_,c,hp,rfl⟩,λw'=>?_⟩;have:=ke hc ht w' b 0 xs.length c kd m g1 (by omega);grind
end
end
section
def eh(cs:List Value):Nat->List Value->List Value
 |_,[]=>cs
 |off,s::r=>eh (cs.set off s) (off+1) r
theorem wr{R:SV->Value->Prop}:∀{l:List SV} {vs:List Value} {cs:List SV} {us:List Value} (off:Nat),b9 R l vs->b9 R cs us->b9 R (nD cs off l) (eh us off vs)
 |[],[],_,_,_,_,h=>h
 |_::_,_::_,_,_,off,⟨h1,h2⟩,h=>wr (off+1) h2 (xi off h h1)
theorem pH:∀{l:List Value} {cs:List Value} {off:Nat},(eh cs off l).length=cs.length
 |[],_,_=>rfl
 |_::r,_,_=>by simp[eh,pH (l:=r)]
theorem zh:∀(l:List Value) (off k:Nat) (cells:Array Value),((l.zipIdx k).foldl (λ(cs:Array Value) (x:Value×Nat)=>cs.setIfInBounds (off+x.2) x.1) cells).toList=eh cells.toList (off+k) l
 |[],_,_,_=>rfl
 |v::l,off,k,cells=>by
  rw[List.zipIdx_cons,ag7,zh l off (k+1)];simp[eh,aht]
theorem IW(v:Value)(off:Nat)(cells:Array Value):(v.cells.zipIdx.foldl (λ(cs:Array Value) (x:Value×Nat)=>cs.setIfInBounds (off+x.2) x.1) cells).toList=eh cells.toList off v.cells.toList:=by
 have:=zh v.cells.toList off 0 cells;rw[aie]at this;rw[<-this];obtain⟨l⟩:=v.cells;simp
theorem tv{t:Ty}{A:Nat->Prop}{w:World}{cs:List Value}{x:t.D}(ht:∀a b,t≠.pair a b)(h:t.rd A w cs x):(mkV t cs).cells.toList=cs:=by
 cases t with
 |int k=>simp only[Ty.rd]at h;subst h;rfl
 |bool=>simp only[Ty.rd]at h;subst h;rfl
 |str=>simp only[Ty.rd]at h;subst h;rfl
 |sl e=>obtain⟨p,n,c,css,rfl,_⟩:=h;rfl
 |pair a b=>exact(ht a b rfl).elim
 |st a=>simp[mkV,Ty.isSt,Value.cells]
section
variable {Z:Nat->Prop} {w0:World} {n:Nat} {L:SL} {H:List Item} {G:List Value} {w:World} {a:Act} {P:Program} {T:TT}
theorem rh(hr:SR Z w0 H G w){s:SV}{v:Value}{l:List SV}(h:Rel G (Av Z H G) w s v)(hs:fY H s=some l):b9 (Rel1 G (Av Z H G) w) l v.cells.toList:=by
 unfold fY at hs;split at hs
 ·cases hs
 ·rename_i t x hne;injection hs with hs;subst hs;obtain⟨cs,h1,rfl⟩:=h;rw[tv (λa b e=>by subst e;exact hne a b x rfl HEq.rfl) h1];exact j7 h1
 ·split at hs
  ·rename_i j _ et e xs hj;injection hs with hs;subst hs;obtain⟨css,ho,_⟩:=hr.items j _ _ hj h;have hc:v.cells.toList=[v]:=by rcases fa ho with⟨rfl,_⟩|⟨b,c,rfl⟩<;>rfl
   rw[hc];exact⟨h,trivial⟩
  ·cases hs
 ·rename_i s' hn1 hn2 hn3;split at hs<;>try (cases hs;done)
  rename_i hg;injection hs with hs;subst hs
  have hc:v.cells.toList=[v]:=by
   cases s with
   |d t x=>cases t<;>first|exact(hn1 _ _ _ rfl).elim|exact(hn2 _ _ rfl).elim
   |nil=>rw[show v=.slice none 0 0 from h];rfl
   |box j off=>obtain⟨b,_,rfl⟩:=h;rfl
   |elt e x off=>obtain⟨b,o,cs,rfl,_⟩:=h;rfl
   |own j=>exact(hn3 j rfl).elim
   |oelt j sz i off=>obtain⟨b,n,c,_,rfl⟩:=h;rfl
   |clo f caps=>obtain⟨bs,_,rfl⟩:=h;rfl
   |tup l=>simp[SV.good]at hg
   |undef=>simp[SV.good]at hg
   |dead=>simp[SV.good]at hg
   |cut e xs=>obtain⟨p,_,rfl⟩:=h;rfl
   |osl j sz lo n=>obtain⟨g,q,c,_,rfl,_⟩:=h;rfl
  rw[hc];exact⟨mD h (λl e=>by subst e;simp[SV.good]at hg),trivial⟩
theorem tY(hr:SR Z w0 H G w)(hf:FR Z n L H G w a){place:Nat->Option (Nat×Nat)}:∀{parts:List (Nat×Operand)} {cs cs':List SV} {us:Array Value},pU H L place cs parts=some cs'->b9 (Rel1 G (Av Z H G) w) cs us.toList->
  ∃us',Instr.fill place us (parts.map λp=>(p.1,a.eval p.2))=some us'/\b9 (Rel1 G (Av Z H G) w) cs' us'.toList
 |[],cs,cs',us,h,ha=>by simp only[pU,afv]at h;subst h;exact⟨us,rfl,ha⟩
 |(i,x)::r,cs,cs',us,h,ha=>by
  simp only[pU]at h;split at h
  ·rename_i off size s hp hs;split at h<;>try (cases h;done)
   rename_i l hl;split at h<;>try (cases h;done)
   rename_i hb;simp only[afr]at hb;have hv:=aI hf hs;have hl2:=rh hr hv hl;have hlen:(a.eval x).cells.size=l.length:=by have:=eu hl2;simpa using this.symm
   have hlu:cs.length=us.size:=by have:=eu ha;simpa using this
   obtain⟨us',h1,h2⟩:=tY hr hf (us:=((a.eval x).cells.zipIdx.foldl (λ(cs:Array Value) (x:Value×Nat)=>cs.setIfInBounds (off+x.2) x.1) us)) h (by rw[IW];exact wr off hl2 ha);refine⟨us',?_,h2⟩;have e1:=afq hb.1;have e2:=aft hb.2;simp only[ahD,Instr.fill,hp];rw[afQ (by simp[hlen,e1];omega)];exact h1
  ·cases h
theorem IT{t:Nat}{i:TI}(hc:chk P t i=true)(hz:i.z=true)(hst:i.ty.isSt=true)(parts:List (Nat×Value)):P.built t parts=Instr.fill (vP i i.el) (zc i.ty).toArray parts:=by
 obtain⟨inf,hi,hzero⟩:=wV hc hz;unfold chk at hc;rw[hi]at hc;cases hu:P.underlying t with
 |none=>rw[hu]at hc;cases hc
 |some d=>
  rw[hu]at hc;simp only[afr]at hc;have hc:=hc.2;have hmk:(mkV i.ty (zc i.ty)).cells=(zc i.ty).toArray:=by simp[mkV,hst,Value.cells]
  unfold Program.built;rw[hi,hu];match d,hc with
  |.struct fs,hc=>
   simp only[afr]at hc;obtain⟨_,hc⟩:=hc;split at hc
   ·rename_i pl hpl;simp only[afr]at hc;obtain⟨rfl,_⟩:=Ec hc.1;simp only[hzero,hpl,hmk];congr 1;unfold vP;rw[hc.2];funext k;simp
   ·cases hc
  |.array m e,hc=>
   simp only[afr]at hc;obtain⟨⟨⟨⟨_,h1⟩,h2⟩,h3⟩,h4⟩:=hc;split at h4
   ·rename_i j hj;simp only[hzero,hj,hmk,afq h4];unfold vP;have e1:=afq h1;have e2:=aft h2;have e3:Nat.beq i.len 0=false:=by rw[<-e1];cases m<;>first|omega|rfl
    rw[e3]
   ·cases h4
  |.slice e,hc=>
   dsimp only at hc;split at hc
   ·rename_i he _;rw[he]at hst;cases hst
   ·cases hc
  |.invalid,hc|.bool,hc|.int _,hc|.float _,hc|.complex _,hc|.string,hc|.pointer _,hc|.map _ _,hc|.chan _ _,hc|.func _ _ _,hc|.interface _,hc|.tuple _,hc|.named _ _,hc|.unsafePointer,hc=>
   simp only[afr]at hc;have hc:=hc.2;generalize i.ty=ty at*
   cases ty<;>simp_all [Ty.isSt]
theorem NA{t:Nat}{i:TI}{e:Ty}(hc:chk P t i=true)(ht:i.ty=.sl e){xs:List e.D}{l h:Int}{p:Value}{lo hi:Option Value}(hp:Rel G (Av Z H G) w (.d (.sl e) xs) p)
  (hlo:(lo=none/\l=0)\/∃kd,lo=some (.int kd l)) (hhi:(hi=none/\h=xs.length)\/∃kd,hi=some (.int kd h)) (hb:0<=l/\l<=h/\h<=xs.length):
  ∃v,Rel1 G (Av Z H G) w (.d (.sl e) ((xs.take h.toNat).drop l.toNat)) v/\∀w',(Instr.sliceAt t p lo hi none).run P w'=.ok v w':=by
 obtain⟨cs,hrd,rfl⟩:=hp;obtain⟨p,n,c,css,rfl,h1,h2,h3,h4,h5⟩:=hrd;obtain⟨hu,_,j,hj,hjs,_⟩:=dS hc ht;obtain⟨b1,b2,b3⟩:=hb;have hel:P.elem t=i.el:=by simp[Program.elem,hu]
 have hu':P.underlying t=some (.slice (P.elem t)):=by rw[hel];exact hu
 have hsz:∀w',(sizeOf (P.elem t)).run P w'=.ok e.n w':=λw'=>by rw[hel];simp[sizeOf,typeInfo,hj,hjs]
 refine⟨sliced p l.toNat h.toNat c e.n,?_,λw'=>?_⟩
 ·have hl4:=fN h4;have hlen:((xs.take h.toNat).drop l.toNat).length=h.toNat-l.toNat:=by simp;omega
  refine⟨[sliced p l.toNat h.toNat c e.n],⟨if c=l.toNat then p else p.map (·.add (l.toNat*e.n)),h.toNat-l.toNat,c-l.toNat,(css.take h.toNat).drop l.toNat,rfl,hlen,by omega,by omega,iw _ (jY _ h4),λhn=>?_⟩,rfl⟩;have hn0:0<n:=by omega
  have hcl:c≠l.toNat:=by omega
  obtain⟨b,off,rfl,hA,hb,hcs⟩:=h5 hn0;refine⟨b,off+l.toNat*e.n,?_,hA,hb,?_⟩
  ·rw[afQ hcl];simp[dE]
  ·intro k v hv;rw[fL _ (λl hm=>hl4 l (ahx hm)),fU _ hl4,ahd,ahs]at hv;split at hv
   ·have:=hcs _ _ hv;rwa [<-aht]at this
   ·cases hv
 ·rw[run_sliceAt_slice w' t _ lo hi none hu'];have hn:(n:Int)=xs.length:=by omega
  rcases hlo with⟨rfl,rfl⟩|⟨kl,rfl⟩<;>rcases hhi with⟨rfl,rfl⟩|⟨kh,rfl⟩
  ·have:=run_slice_all (P:=P) w' t p n c hu';simp only[mkV,Ty.isSt,ahQ,this,hsz,afR,<-hn];simp
  ·have:=run_slice_h (P:=P) w' t p n c hu' kh h (by omega) (by omega);simp only[mkV,Ty.isSt,ahQ,this,hsz,afR];simp
  ·have:=run_slice_l (P:=P) w' t p n c hu' kl l (by omega) (by omega);simp only[mkV,Ty.isSt,ahQ,this,hsz,afR,<-hn];simp
  ·have:=run_slice_lh (P:=P) w' t p n c hu' kl kh l h (by omega) (by omega) (by omega);simp only[mkV,Ty.isSt,ahQ,this,hsz,afR]
theorem I0{t:Nat}{i:TI}{e:Ty}(hc:chk P t i=true)(ht:i.ty=.sl e){xs:List e.D}{l h m:Int}{p:Value}{lo hi mx:Option Value}(hp:Rel G (Av Z H G) w (.d (.sl e) xs) p)
  (hlo:(lo=none/\l=0)\/∃kd,lo=some (.int kd l)) (hhi:∃kd,hi=some (.int kd h)) (hmx:∃kd,mx=some (.int kd m)) (hb:0<=l/\l<=h/\h<=m/\m<=xs.length):
  ∃v,Rel1 G (Av Z H G) w (.d (.sl e) ((xs.take h.toNat).drop l.toNat)) v/\(h=m->Rel1 G (Av Z H G) w (.cut e ((xs.take h.toNat).drop l.toNat)) v)/\∀w',(Instr.sliceAt t p lo hi mx).run P w'=.ok v w':=by
 obtain⟨cs,hrd,rfl⟩:=hp;obtain⟨p,n,c,css,rfl,h1,h2,h3,h4,h5⟩:=hrd;obtain⟨hu,_,j,hj,hjs,_⟩:=dS hc ht;obtain⟨b1,b2,b3,b4⟩:=hb;have hel:P.elem t=i.el:=by simp[Program.elem,hu]
 have hu':P.underlying t=some (.slice (P.elem t)):=by rw[hel];exact hu
 have hsz:∀w',(sizeOf (P.elem t)).run P w'=.ok e.n w':=λw'=>by rw[hel];simp[sizeOf,typeInfo,hj,hjs]
 have hlen:((xs.take h.toNat).drop l.toNat).length=h.toNat-l.toNat:=by simp;omega
 have main:(Ty.sl e).rd (Av Z H G) w [sliced p l.toNat h.toNat m.toNat e.n] ((xs.take h.toNat).drop l.toNat):=by
  have hl4:=fN h4;refine⟨if m.toNat=l.toNat then p else p.map (·.add (l.toNat*e.n)),h.toNat-l.toNat,m.toNat-l.toNat,(css.take h.toNat).drop l.toNat,rfl,hlen,by omega,by omega,iw _ (jY _ h4),λhn=>?_⟩;have hn0:0<n:=by omega
  have hcl:m.toNat≠l.toNat:=by omega
  obtain⟨b,off,rfl,hA,hb,hcs⟩:=h5 hn0;refine⟨b,off+l.toNat*e.n,?_,hA,hb,?_⟩
  ·rw[afQ hcl];simp[dE]
  ·intro k v hv;rw[fL _ (λl hm=>hl4 l (ahx hm)),fU _ hl4,ahd,ahs]at hv;split at hv
   ·have:=hcs _ _ hv;rwa [<-aht]at this
   ·cases hv
 refine⟨sliced p l.toNat h.toNat m.toNat e.n,⟨_,main,rfl⟩,λhm=>?_,λw'=>?_⟩
 ·subst hm;refine⟨if h.toNat=l.toNat then p else p.map (·.add (l.toNat*e.n)),?_,?_⟩
  ·rw[hlen];exact main
  ·rw[hlen];rfl
 ·rw[run_sliceAt_slice w' t _ lo hi mx hu'];obtain⟨kh,rfl⟩:=hhi;obtain⟨km,rfl⟩:=hmx;rcases hlo with⟨rfl,rfl⟩|⟨kl,rfl⟩
  ·have:=run_slice_hm (P:=P) w' t p n c hu' kh km h m (by omega) (by omega) (by omega);simp only[mkV,Ty.isSt,ahQ,this,hsz,afR];simp
  ·have:=run_slice_lhm (P:=P) w' t p n c hu' kl kh km l h m (by omega) (by omega) (by omega) (by omega);simp only[mkV,Ty.isSt,ahQ,this,hsz,afR]
theorem wx:∀{l:List SV} {js:List Nat} {vs:List Value},xC l=some js->b9 (Rel G (Av Z H G) w) l vs->∃bs:List Nat,b9 (λj b=>G[j]?=some (.pointer (some ⟨b,0,none⟩))) js bs/\vs=bs.map λb=>.pointer (some ⟨b,0,none⟩)
 |[],js,[],h,_=>by simp only[xC,afv]at h;subst h;exact⟨[],trivial,rfl⟩
 |s::l,js,v::vs,h,⟨h1,h2⟩=>by
  unfold xC at h;split at h
  ·rename_i he;cases he
  ·rename_i j r he;injection he with e1 e2;subst e1 e2;split at h
   ·rename_i l' hl';injection h with h;subst h;obtain⟨b,hb,rfl⟩:=h1;obtain⟨bs,g1,g2⟩:=wx hl' h2;exact⟨b::bs,⟨hb,g1⟩,by rw[g2];rfl⟩
   ·cases h
  ·cases h
theorem kB(hf:FR Z n L H G w a):∀{l:List Operand} {ss:List SV},yc L l=some ss->b9 (Rel G (Av Z H G) w) ss (l.map a.eval)
 |[],ss,h=>by simp only[yc,afv]at h;subst h;trivial
 |x::l,ss,h=>by
  simp only[yc]at h;split at h
  ·rename_i s l' h1 h2;injection h with h;subst h;exact⟨aI hf h1,kB hf h2⟩
  ·cases h
theorem jL(hf:FR Z n L H G w a){d l:Int}{o:Option Operand}(h:slB L d o=some l):(o.map a.eval=none/\l=d)\/∃kd,o.map a.eval=some (.int kd l):=by
 unfold slB at h;split at h
 ·injection h with h;exact .inl ⟨rfl,h.symm⟩
 ·split at h
  ·rename_i kd i hs;injection h with h;subst h;obtain⟨cs,h1,h2⟩:=aI hf hs;simp only[Ty.rd]at h1;subst h1;exact .inr ⟨kd,by simp[h2,mkV,Ty.isSt]⟩
  ·cases h
end
end
section
theorem dM{G:List Value}{A:Nat->Prop}{w:World}{k:IntKind}{x:Int}{v:Value}(h:Rel G A w (.d (.int k) x) v):v=.int k x:=by
 obtain⟨cs,h1,rfl⟩:=h;subst h1;rfl
theorem rG{G:List Value}{A:Nat->Prop}{w:World}{x:Bool}{v:Value}(h:Rel G A w (.d .bool x) v):v=.bool x:=by
 obtain⟨cs,h1,rfl⟩:=h;subst h1;rfl
theorem iv{P:Program}{t ty:TypeId}{i:TI}{e:Ty}(hc:chk P t i=true)(ht:i.ty=.sl e)(w:World)(p:Option Addr)(n c:Nat):(Builtin.len_ #[t] ty #[.slice p n c]).run P w=.ok (.int .i64 n) w:=by
 obtain⟨hu,_⟩:=dS hc ht;simp[Builtin.len_,af5 hu,goInt]
def m8:Op->Bool
 |.load .. =>true
 |_=>false
theorem HL{P:Program}{t:Nat}{i:TI}{e:Ty}(hc:chk P t i=true)(ht:i.ty=.sl e)(w':World)(q:Option Addr)(n c:Nat){l h:Int}{lo hi:Option Value}
  (hlo:(lo=none/\l=0)\/∃kd,lo=some (.int kd l)) (hhi:(hi=none/\h=(n:Int))\/∃kd,hi=some (.int kd h)) (hb:0<=l/\l<=h/\h<=(n:Int)) (hnc:n<=c):
  (Instr.sliceAt t (.slice q n c) lo hi none).run P w'=.ok (sliced q l.toNat h.toNat c e.n) w':=by
 obtain⟨hu,_,j,hj,hjs,_⟩:=dS hc ht;have hel:P.elem t=i.el:=by simp[Program.elem,hu]
 have hu':P.underlying t=some (.slice (P.elem t)):=by rw[hel];exact hu
 have hsz:∀w',(sizeOf (P.elem t)).run P w'=.ok e.n w':=λw'=>by rw[hel];simp[sizeOf,typeInfo,hj,hjs]
 rw[run_sliceAt_slice w' t _ lo hi none hu'];rcases hlo with⟨rfl,rfl⟩|⟨kl,rfl⟩<;>rcases hhi with⟨rfl,rfl⟩|⟨kh,rfl⟩
 ·have:=run_slice_all (P:=P) w' t q n c hu';simp_all
 ·have:=run_slice_h (P:=P) w' t q n c hu' kh h (by omega) (by omega);simp_all
 ·have:=run_slice_l (P:=P) w' t q n c hu' kl l (by omega) (by omega);simp_all
 ·have:=run_slice_lh (P:=P) w' t q n c hu' kl kh l h (by omega) (by omega) (by omega);simp_all
section
variable {Z:Nat->Prop} {w0:World} {n:Nat} {L:SL} {H:List Item} {G:List Value} {w:World} {a:Act} {P:Program} {T:TT} {R:Type}
set_option maxHeartbeats 1000000 in
theorem ml{rw:Bool}{o:Oper}{k:SV->Option R}{r:R}(hT:eM P T=true)(hr:SR Z w0 H G w)(hf:FR Z n L H G w a)(h:qop P T rw L H o k=some r):
  ∃s v,k s=some r/\Rel G (Av Z H G) w s v/\∀w',(m8 o.op=true->Agr rw H G w w')->(execOp a.eval o).run P w'=.ok (.value v) w':=by
 have hflat:lC P L o k=some r->∃s v,k s=some r/\Rel G (Av Z H G) w s v/\∀w',(m8 o.op=true->Agr rw H G w w')->(execOp a.eval o).run P w'=.ok (.value v) w':=λh=>by
  obtain⟨s,v,h1,h2,h3⟩:=zT hf h;exact⟨s,v,h1,d7 h2,λw' _=>h3 w'⟩
 obtain⟨dst,op,type,pos,after,guard⟩:=o;unfold qop at h;dsimp only at h;split at h
 case h_1 x=>
  split at h<;>try (cases h;done)
  rename_i s hs;exact⟨s,_,h,aI hf hs,λw' _=>rfl⟩
 case h_2 x=>
  split at h<;>try (cases h;done)
  rename_i s hs;exact⟨s,_,h,aI hf hs,λw' _=>rfl⟩
 case h_3 x=>
  split at h<;>try (cases h;done)
  ·rename_i j off hs;have hv:=aI hf hs;refine⟨_,_,h,hv,λw' _=>?_⟩;obtain⟨b,_,hv⟩:=hv;simp[execOp,hv]
  ·rename_i e y off hs;have hv:=aI hf hs;refine⟨_,_,h,hv,λw' _=>?_⟩;obtain⟨b,o,cs,hv,_⟩:=hv;simp[execOp,hv]
  ·rename_i j sz i off hs;have hv:=aI hf hs;refine⟨_,_,h,hv,λw' _=>?_⟩;obtain⟨b,_,_,_,hv⟩:=hv;simp[execOp,hv]
 case h_4 c x y=>
  split at h<;>try (cases h;done)
  rename_i b hs;have hb:=rG (aI hf hs);split at h
  ·split at h<;>try (cases h;done)
   rename_i s hs;exact⟨s,_,h,aI hf hs,λw' _=>by simp[execOp,hb,asBool]⟩
  ·split at h<;>try (cases h;done)
   rename_i s hs;exact⟨s,_,h,aI hf hs,λw' _=>by simp[execOp,hb,asBool]⟩
 case h_5 t x=>
  have fin:∀{s:SV} (_:k s=some r),(∃v,Rel1 G (Av Z H G) w s v/\∀w',Agr rw H G w w'->(Instr.loadAt t (a.eval x)).run P w'=.ok v w')->∃s v,k s=some r/\Rel G (Av Z H G) w s v/\∀w',(m8 (.load t x)=true->Agr rw H G w w')->(execOp a.eval ⟨dst,.load t x,type,pos,after,guard⟩).run P w'=.ok (.value v) w':=by
   rintro s hk ⟨v,h1,h2⟩
   exact⟨s,v,hk,d7 h1,λw' ha=>by simp[execOp,h2 w' (ha rfl)]⟩
  split at h<;>try (cases h;done)
  ·rename_i j off i hs hi;split at h<;>try (cases h;done)
   rename_i bt cells hj;split at h<;>try (cases h;done)
   rename_i s hl;exact fin h (Cw hr (aL hT hi) (aI hf hs) hj hl)
  ·rename_i e y off i hs hi;split at h<;>try (cases h;done)
   rename_i z hz;exact fin h (JI (aL hT hi) (aI hf hs) hz)
  ·rename_i j sz m off i hs hi;split at h<;>try (cases h;done)
   rename_i et e xs hj;split at h<;>try (cases h;done)
   rename_i y hsz hy;split at h<;>try (cases h;done)
   rename_i z hz;have:=afq hsz;subst this;exact fin h (Je hr (aL hT hi) (aI hf hs) hj hy hz)
 case h_6 s x f=>
  split at h<;>try (cases h;done)
  ·rename_i j off i hs hi;split at h<;>try (cases h;done)
   rename_i p hp;obtain⟨b,hg,hv⟩:=aI hf hs;exact⟨_,.pointer (some ⟨b,off+p.1,none⟩),h,⟨b,hg,rfl⟩,λw' _=>by simp[execOp,hv,ow (aL hT hi) hp]⟩
  ·rename_i e y off i hs hi;split at h<;>try (cases h;done)
   rename_i p hp;obtain⟨b,o,cs,hv,h2⟩:=aI hf hs;exact⟨_,.pointer (some ⟨b,o+(off+p.1),none⟩),h,⟨b,o,cs,rfl,h2⟩,λw' _=>by simp[execOp,hv,ow (aL hT hi) hp,aht]⟩
  ·rename_i j sz m off i hs hi;split at h<;>try (cases h;done)
   rename_i p hp;obtain⟨b,n1,c1,hg,hv⟩:=aI hf hs;exact⟨_,.pointer (some ⟨b,m*sz+(off+p.1),none⟩),h,⟨b,n1,c1,hg,rfl⟩,λw' _=>by simp[execOp,hv,ow (aL hT hi) hp,aht]⟩
 case h_7 t x ix=>
  split at h<;>try (cases h;done)
  ·rename_i e xs kd m i hs hm hi;split at h<;>try (cases h;done)
   rename_i e' he;split at h<;>try (cases h;done)
   rename_i hee _;split at h<;>try (cases h;done)
   rename_i y hy;have hee:=hee.down;subst hee;obtain⟨v,h1,h2⟩:=OM (kd:=kd) (aL hT hi) he (aI hf hs) hy;exact⟨_,v,h,d7 h1,λw' _=>by simp[execOp,dM (aI hf hm),h2 w']⟩
  ·rename_i j kd m i hs hm hi;split at h<;>try (cases h;done)
   rename_i et e xs e' hj he;split at h<;>try (cases h;done)
   rename_i hee _;split at h<;>try (cases h;done)
   rename_i y hy;have hee:=hee.down;subst hee;obtain⟨v,h1,h2⟩:=IP (kd:=kd) hr (aL hT hi) he hj (aI hf hs) hy;exact⟨_,v,h,d7 h1,λw' _=>by simp[execOp,dM (aI hf hm),h2 w']⟩
  ·rename_i j off kd m i hs hm hi;split at h<;>try (cases h;done)
   rename_i hst hb;have hb:=afp hb;obtain⟨b,hg,hv⟩:=aI hf hs;have hck:=aL hT hi;refine⟨_,.pointer (some ⟨b,off+m.toNat*i.el,none⟩),h,⟨b,hg,rfl⟩,λw' _=>?_⟩
   have:∃ne ej,P.underlying t=some (.array i.len ne)/\P.info? ne=some ej/\ej.size=i.el:=by
    obtain⟨d,hu,hrow⟩:=Ba hck;have hck':=hck;unfold chk at hck';rw[hu]at hck';cases hinf:P.info? t with
    |none=>rw[hinf]at hck';cases hck'
    |some inf=>
     rw[hinf]at hck';simp only[afr]at hck';have hck':=hck'.2;rw[hst]at hrow;match d,hck',hrow with
     |.struct fs,hck',_=>
      simp only[afr]at hck';obtain⟨_,hck'⟩:=hck';split at hck'
      ·simp only[afr]at hck';have hz:=afq hck'.2;have h02:=hb.2;rw[hz]at h02;exact(Int.lt_irrefl 0 (Int.lt_of_le_of_lt hb.1 h02)).elim
      ·cases hck'
     |.array m' e,hck',_=>
      simp only[afr]at hck';obtain⟨⟨⟨⟨_,h1⟩,_⟩,_⟩,h4⟩:=hck';split at h4
      ·rename_i ej hej;exact⟨e,ej,by rw[<-afq h1];exact hu,hej,afq h4⟩
      ·cases h4
   obtain⟨ne,ej,h1,h2,h3⟩:=this;simp[execOp,dM (aI hf hm),hv,Instr.indexAt,asIntOf,af5 h1,sizeOf,typeInfo,h2,hb.1,hb.2,dE,Instr.sureAddr,h3]
  ·rename_i j sz lo mm kd m i hs hm hi;split at h<;>try (cases h;done)
   rename_i e' he;split at h<;>try (cases h;done)
   rename_i hsz hb;have hb:=afp hb;have hsz:=afq hsz;subst hsz;obtain⟨g,q,c,hg,hv,h1,h2,h3⟩:=aI hf hs;have hmm:0<mm:=Int.ofNat_lt.1 (Int.lt_of_le_of_lt hb.1 hb.2);obtain⟨b,N,c',rfl,h4,rfl⟩:=h3 hmm;refine⟨_,.pointer (some ⟨b,(lo+m.toNat)*e'.n+0,none⟩),h,⟨b,N,c',hg,rfl⟩,λw' _=>?_⟩;have:=ke (P:=P) (kd:=kd) (aL hT hi) he w' b (lo*e'.n) mm c m hb.1 hb.2;simp[execOp,dM (aI hf hm),hv,this,Nat.add_mul]
 case h_8 x m=>
  split at h<;>try (cases h;done)
  rename_i l hs;split at h<;>try (cases h;done)
  rename_i s hl;obtain⟨vs,hv,hal⟩:=aI hf hs;obtain⟨v,h1,h2⟩:=iz hal m s hl;exact⟨s,v,h,d7 h2,λw' _=>by simp[execOp,hv,Instr.extract,h1]⟩
 case h_9 t parts=>
  split at h<;>try (cases h;done)
  rename_i i hi;split at h<;>try (cases h;done)
  rename_i cs hzs hfl;split at h<;>try (cases h;done)
  rename_i x hjn;simp only[afr]at hzs;obtain⟨us',h1,h2⟩:=tY hr hf (us:=(zc i.ty).toArray) hfl (by simpa using j7 (qa (t:=i.ty)));obtain⟨v1,v2,h3,h4,h5⟩:=pD hjn h2;match v2,h5 with
  |[],_=>
   rw[afO]at h3;subst h3;refine⟨_,mkV i.ty us'.toList,h,⟨_,h4,rfl⟩,λw' _=>?_⟩
   have hb:P.built t (parts.map λp=>(p.1,a.eval p.2)).toList=some us':=by
    rw[IT (aL hT hi) hzs.1 hzs.2,<-h1];simp
   have:=run_build (P:=P) w' t (parts.map λp=>(p.1,a.eval p.2)) us' hb;simp[execOp,this,mkV,hzs.2]
 case h_10 f caps=>
  split at h<;>try (cases h;done)
  rename_i l hl;split at h<;>try (cases h;done)
  rename_i js hj;obtain⟨bs,h1,h2⟩:=wx hj (kB hf hl);refine⟨_,.func (.func f) #[] (bs.map λb=>.pointer (some ⟨b,0,none⟩)).toArray,h,⟨bs,h1,rfl⟩,λw' _=>?_⟩;rw[<-h2];obtain⟨cl⟩:=caps;simp[execOp,Instr.makeFunc]
 case h_11 x t=>
  split at h<;>try (cases h;done)
  ·rename_i e xs i hs hi;split at h<;>try (cases h;done)
   rename_i e' he;obtain⟨cs,hrd,hv⟩:=aI hf hs;obtain⟨p,m,c,css,rfl,hlen,_⟩:=hrd;have hv:a.eval x=.slice p m c:=hv;refine⟨_,.int .i64 m,h,⟨[_],rfl,by rw[hlen];rfl⟩,λw' _=>?_⟩;simp[execOp,resolve,invoke,builtin,hv,iv (aL hT hi) he]
  ·rename_i i hs hi;split at h<;>try (cases h;done)
   rename_i e' he;have hv:a.eval x=.slice none 0 0:=aI hf hs;refine⟨_,.int .i64 0,h,⟨[_],rfl,rfl⟩,λw' _=>?_⟩;simp[execOp,resolve,invoke,builtin,hv,iv (aL hT hi) he]
  ·rename_i j i hs hi;split at h<;>try (cases h;done)
   rename_i et e xs e' hj he;have hv:=aI hf hs;obtain⟨css,_,ho,_⟩:=hr.read hj hv;refine⟨_,.int .i64 xs.length,h,⟨[_],rfl,rfl⟩,λw' _=>?_⟩;rcases fa ho with⟨h1,h2⟩|⟨b,c,h1⟩
   ·simp[execOp,resolve,invoke,builtin,h1,h2,iv (aL hT hi) he]
   ·simp[execOp,resolve,invoke,builtin,h1,iv (aL hT hi) he]
  ·rename_i j sz lo n i hs hi;split at h<;>try (cases h;done)
   rename_i e' he;obtain⟨g,q,c,hg,hv,_⟩:=aI hf hs;refine⟨_,.int .i64 n,h,⟨[_],rfl,rfl⟩,λw' _=>?_⟩;simp[execOp,resolve,invoke,builtin,hv,iv (aL hT hi) he]
  ·rename_i e0 xs i hs hi;split at h<;>try (cases h;done)
   rename_i e' he;obtain⟨p,hrd,hv⟩:=aI hf hs;refine⟨_,.int .i64 xs.length,h,⟨[_],rfl,rfl⟩,λw' _=>?_⟩;simp[execOp,resolve,invoke,builtin,hv,iv (aL hT hi) he]
 case h_12 t x lo hi=>
  split at h<;>try (cases h;done)
  ·rename_i e xs i hs hti;split at h<;>try (cases h;done)
   rename_i e' l hh he hl hhh;split at h<;>try (cases h;done)
   rename_i hee _;split at h<;>try (cases h;done)
   rename_i hb;have hb:=afp hb;have hee:=hee.down;subst hee;obtain⟨v,h1,h2⟩:=NA (aL hT hti) he (aI hf hs) (jL hf hl) (jL hf hhh) hb;exact⟨_,v,h,d7 h1,λw' _=>by simp[execOp,h2 w']⟩
  ·rename_i j i hs hti;split at h<;>try (cases h;done)
   rename_i et e xs e' hj he;split at h<;>try (cases h;done)
   rename_i l hh hl hhh hsz;split at h<;>try (cases h;done)
   rename_i hb;have hb:=afp hb;have hsz:=afq hsz;have hx:=aI hf hs;obtain⟨css,ho,_⟩:=hr.items j _ _ hj hx
   have hform:∃q c,a.eval x=.slice q xs.length c/\xs.length<=c/\c<=maxLen/\(0<xs.length->∃b,q=some ⟨b,0,none⟩):=by
    rcases ho.2 with⟨e1,e2⟩|⟨g,cap,cur,e1,_,_,e4,e5,_⟩
    ·exact⟨none,0,by rw[e1,e2],by omega,by unfold maxLen;omega,λh0=>by omega⟩
    ·exact⟨_,cap,e1,e4,e5,λ_=>⟨g,rfl⟩⟩
   obtain⟨q,c,hv,hc1,hc2,hq⟩:=hform;refine⟨_,sliced q l.toNat hh.toNat c e.n,h,⟨_,_,_,hx,rfl,by omega,by omega,λh0=>?_⟩,λw' _=>?_⟩
   ·obtain⟨b,rfl⟩:=hq (by omega);refine⟨b,xs.length,c,hv,by omega,?_⟩;rw[afQ (by omega)];simp[dE]
   ·have:=HL (P:=P) (aL hT hti) he w' q xs.length c (jL hf hl) (jL hf hhh) hb hc1;rw[<-hsz]at this;simp[execOp,hv,this]
  ·rename_i j sz b0 n i hs hti;split at h<;>try (cases h;done)
   rename_i e' he;split at h<;>try (cases h;done)
   rename_i l hh hl hhh hsz;split at h<;>try (cases h;done)
   rename_i hb;have hb:=afp hb;have hsz:=afq hsz;subst hsz;obtain⟨g,q,c,hg,hv,hc1,hc2,h3⟩:=aI hf hs;obtain⟨b1,b2,b3⟩:=hb;have z1:hh.toNat-l.toNat<=c-l.toNat:=by clear h3;omega
   have z2:c-l.toNat<=maxLen:=by clear h3;omega
   have z3:0<hh.toNat-l.toNat->0<n/\l.toNat+(hh.toNat-l.toNat)<=n/\c≠l.toNat:=by clear h3;omega
   refine⟨_,sliced q l.toNat hh.toNat c e'.n,h,⟨g,_,_,hg,rfl,z1,z2,λh0=>?_⟩,λw' _=>?_⟩
   ·obtain⟨y1,y2,y3⟩:=z3 h0;obtain⟨b,N,c',rfl,h4,rfl⟩:=h3 y1;refine⟨b,N,c',rfl,by clear h3;omega,?_⟩;rw[afQ y3];simp[dE,Nat.add_mul]
   ·have:=HL (P:=P) (aL hT hti) he w' q n c (jL hf hl) (jL hf hhh) ⟨b1,b2,b3⟩ hc1;simp[execOp,hv,this]
 case h_13 x y _=>
  split at h<;>try (cases h;done)
  rename_i kd p kd' q hp hq;split at h<;>try (cases h;done)
  rename_i hee _;have hee:=hee.down;injection hee with hee;subst hee;refine⟨_,.int kd (if q>p then q else p),h,⟨[_],rfl,rfl⟩,λw' _=>?_⟩;simp[execOp,resolve,invoke,builtin,dM (aI hf hp),dM (aI hf hq),Builtin.max_,Builtin.max2]
 case h_14 x y _=>
  split at h<;>try (cases h;done)
  rename_i kd p kd' q hp hq;split at h<;>try (cases h;done)
  rename_i hee _;have hee:=hee.down;injection hee with hee;subst hee;refine⟨_,.int kd (if q<p then q else p),h,⟨[_],rfl,rfl⟩,λw' _=>?_⟩;simp[execOp,resolve,invoke,builtin,dM (aI hf hp),dM (aI hf hq),Builtin.min_,Builtin.min2]
 case h_15 op t x y ty=>
  split at h
  ·exact hflat h
  ·rename_i b hb
   have ev:∀(A:Option Addr) (l c:Nat) (e:TypeId),a.eval x=.slice A l c->P.underlying t=some (.slice e)->∀w',(execOp a.eval ⟨dst,.binOp op t x y ty,type,pos,after,guard⟩).run P w'=.ok (.value (.bool (if A.isNone then b else !b))) w':=by
    intro A l c e hx hu w';unfold Gy at hb;split at hb<;>try (cases hb;done)
    ·injection hb with hb;subst hb;unfold execOp;simp only[hx,agm];rw[show a.eval (.const (.slice none 0 0))=.slice none 0 0 from rfl];simp only[eqGuard_at_slice,agH,afR,run_eql_slice_nil w' t e A l c hu];cases A<;>rfl
    ·injection hb with hb;subst hb;unfold execOp;simp only[hx,agm];rw[show a.eval (.const (.slice none 0 0))=.slice none 0 0 from rfl];simp only[eqGuard_at_slice,agH,afR,run_neq_slice_nil w' t e A l c hu];cases A<;>rfl
   have nk:∀{α:Type} {xs:List α} {A:Option Addr} {l c:Nat} {e:TypeId},PS xs b k=some r->a.eval x=.slice A l c->(xs≠[]->A.isNone=false)->P.underlying t=some (.slice e)->
     ∃s v,k s=some r/\Rel G (Av Z H G) w s v/\∀w',(m8 (.binOp op t x y ty)=true->Agr rw H G w w')->(execOp a.eval ⟨dst,.binOp op t x y ty,type,pos,after,guard⟩).run P w'=.ok (.value v) w':=by
    intro α xs A l c e hk hx hne hu;have hev:=ev A l c e hx hu;unfold PS at hk;split at hk
    ·obtain⟨k1,k2⟩:=yp hk;cases hA:A.isNone with
     |true=>exact⟨_,.bool b,k1,⟨[_],rfl,rfl⟩,λw' _=>by rw[hev w',hA];rfl⟩
     |false=>exact⟨_,.bool (!b),k2,⟨[_],rfl,rfl⟩,λw' _=>by rw[hev w',hA];rfl⟩
    ·have hA:=hne (by simp);exact⟨_,.bool (!b),hk,⟨[_],rfl,rfl⟩,λw' _=>by rw[hev w',hA];rfl⟩
   split at h<;>try (cases h;done)
   ·rename_i e xs i hs hi;split at h<;>try (cases h;done)
    rename_i e' he;obtain⟨hu,_⟩:=dS (aL hT hi) he;obtain⟨cs,hrd,hv⟩:=aI hf hs;obtain⟨p,n,c,css,rfl,h1,h2,h3,h4,h5⟩:=hrd;refine nk h hv (λhne=>?_) hu
    have:0<n:=by
     rw[<-h1];cases xs with
     |nil=>exact absurd rfl hne
     |cons=>simp
    obtain⟨b,off,rfl,_⟩:=h5 this;rfl
   ·rename_i i hs hi;split at h<;>try (cases h;done)
    rename_i e' he;obtain⟨hu,_⟩:=dS (aL hT hi) he;have hv:a.eval x=.slice none 0 0:=aI hf hs;exact⟨_,.bool b,h,⟨[_],rfl,rfl⟩,λw' _=>by rw[ev none 0 0 _ hv hu w'];rfl⟩
   ·rename_i j i hs hi;split at h<;>try (cases h;done)
    rename_i et e xs e' hj he;obtain⟨hu,_⟩:=dS (aL hT hi) he;obtain⟨css,_,ho,ha2,hn0⟩:=hr.read hj (aI hf hs);rcases ho.2 with⟨e1,e2⟩|⟨g,cap,cur,e1,_⟩
    ·refine nk h e1 (λhne=>?_) hu;exact absurd (ahf e2) hne
    ·exact nk h e1 (λ_=>rfl) hu
 case h_16=>exact hflat h
 case h_17=>exact hflat h
 case h_18=>exact hflat h
 case h_19 t x lo hi mx=>
  split at h<;>try (cases h;done)
  rename_i e xs i hs hti;split at h<;>try (cases h;done)
  rename_i e' l hh m he hl hhh hm;split at h<;>try (cases h;done)
  rename_i hq hee _;split at h<;>try (cases h;done)
  rename_i hb;have hb:=afp hb;have hee:=hee.down;subst hee;have h2:=(jL hf hhh).resolve_left (by simp);have h3:=(jL hf hm).resolve_left (by simp);obtain⟨v,h1,h1c,h2⟩:=I0 (aL hT hti) he (aI hf hs) (jL hf hl) h2 h3 hb;split at h
  ·rename_i _ hm;exact⟨_,v,h,h1c (afp hm),λw' _=>by simp only[execOp,agt,agm];have:=h2 w';simp only[agt]at this;simp[this]⟩
  exact⟨_,v,h,d7 h1,λw' _=>by simp only[execOp,agt,agm];have:=h2 w';simp only[agt]at this;simp[this]⟩
 case h_20 x y z u _=>
  split at h<;>try (cases h;done)
  rename_i p q p' q' hp hq hp' hq';refine⟨_,.int .i64 (YQ p q p' q'),h,⟨[_],rfl,rfl⟩,λw' _=>?_⟩;simp[execOp,resolve,invoke,builtin,dM (aI hf hp),dM (aI hf hq),dM (aI hf hp'),dM (aI hf hq'),Builtin.max_,Builtin.max2,YQ]
 case h_21 s x f=>
  split at h<;>try (cases h;done)
  rename_i e y hs;split at h<;>try (cases h;done)
  rename_i fs hu;split at h<;>try (cases h;done)
  rename_i fl hfl;split at h<;>try (cases h;done)
  rename_i i hi;split at h<;>try (cases h;done)
  rename_i z hz;obtain⟨cs,hrd,hv⟩:=aI hf hs;have h1:=D4 hrd hz;refine⟨_,mkV i.ty _,h,⟨_,h1,rfl⟩,λw' _=>?_⟩;have hv':a.eval x=.agg cs.toArray:=by rw[hv];simp[mkV,Ty.isSt]
  have:=Ix hu hfl (aL hT hi) w' cs (Ty.rd_len h1) (Mf hz);simp[execOp,hv',this]
 case h_22 x y z u _=>
  split at h<;>try (cases h;done)
  rename_i p q p' q' hp hq hp' hq';refine⟨_,.int .i64 (Yk p q p' q'),h,⟨[_],rfl,rfl⟩,λw' _=>?_⟩;simp[execOp,resolve,invoke,builtin,dM (aI hf hp),dM (aI hf hq),dM (aI hf hp'),dM (aI hf hq'),Builtin.min_,Builtin.min2,Yk,mn2];rfl
 case h_23=>cases h
end
end
section
def QF(f:SV->SV):SV->SV
 |.tup l=>.tup (l.map f)
 |s=>f s
def Dx(f:SV->SV):SL->SL
 |[]=>[]
 |(t,s)::r=>(t,QF f s)::Dx f r
def jg(f:SV->SV):Item->Item
 |.box t cs=>.box t (cs.map f)
 |it=>it
def yj(j:Nat)(s:SV):SV:=match s.of1 j with
 |true=>.dead
 |false=>s
def fz(j:Nat)(e:Ty)(xs:List e.D)(s:SV):SV:=match s.of1 j with
 |true=>match s with
  |.own _=>.d (.sl e) xs
  |.osl _ sz lo n=>match Nat.beq sz e.n with
   |true=>.d (.sl e) ((xs.drop lo).take n)
   |false=>.dead
  |_=>.dead
 |false=>s
theorem yI{f:SV->SV}:∀{L:SL} {t:Nat} {s:SV},aJ (Dx f L) t=some s->∃s0,aJ L t=some s0/\s=QF f s0
 |[],t,s,h=>by simp[Dx,aJ]at h
 |(k,x)::r,t,s,h=>by
  simp only[Dx,aJ]at h ⊢;split at h
  ·injection h with h;exact⟨x,rfl,h.symm⟩
  ·exact yI h
section
variable {Z:Nat->Prop} {w0:World} {n:Nat} {L:SL} {H H':List Item} {G G':List Value} {w w':World} {a:Act}
theorem Rel.map{A A':Nat->Prop}{f:SV->SV}(hf:∀s v,Rel1 G A w s v->Rel1 G' A' w' (f s) v){s:SV}{v:Value}(h:Rel G A w s v):Rel G' A' w' (QF f s) v:=by
 cases s with
 |tup l=>
  obtain⟨vs,h1,h2⟩:=h;refine⟨vs,h1,?_⟩;clear h1;induction l generalizing vs with
  |nil=>cases vs<;>exact h2
  |cons s l ih=>
   match vs,h2 with
   |v::vs,⟨g1,g2⟩=>exact⟨hf s v g1,ih vs g2⟩
 |_=>exact d7 (hf _ _ h)
theorem FR.map{f:SV->SV}(hf:∀s v,Rel1 G (Av Z H G) w s v->Rel1 G' (Av Z H' G') w' (f s) v)(h:FR Z n L H G w a):FR Z n (Dx f L) H' G' w' a:=
 ⟨h.defers,h.size,λt s hs=>by
  obtain⟨s0,h1,rfl⟩:=yI hs;obtain⟨v,h2,h3⟩:=h.slot t s0 h1;exact⟨v,h2,h3.map hf⟩⟩
theorem FR.keep(hf:∀s v,Rel1 G (Av Z H G) w s v->Rel1 G' (Av Z H' G') w' s v)(h:FR Z n L H G w a):FR Z n L H' G' w' a:=
 ⟨h.defers,h.size,λt s hs=>by
  obtain⟨v,h2,h3⟩:=h.slot t s hs;refine⟨v,h2,?_⟩;have:=h3.map (f:=id) hf;cases s<;>simpa [QF]using this⟩
theorem wb{j:Nat}{same:Prop}(hs:same):∀it:Item,WkI j same it it
 |.box t cs=>⟨rfl,by induction cs with|nil=>trivial|cons s l ih=>exact⟨.inr ⟨rfl,λ_=>hs⟩,ih⟩⟩
 |.row _ _ _=>rfl
 |.len _ _=>rfl
 |.gone=>rfl
theorem l8(hr:SR Z w0 H G w)(hb:Below w.heap.size w w'){it:Item}{g:Value}(hg:∀b,bG g=some b->w.heap.size<=b):Step w0 H.length True H (H++[it]) G (G++[g]) w w':=by
 have hl:=hr.len;refine⟨by simp[hl],?_,hb.size,λb hbw _=>hb.block b hbw,?_,?_,?_,?_,?_⟩
 ·exact hr.below.trans (hb.mono hr.below.size)
 ·grind
 ·intro i it' hi h1;rcases afZ i H.length with hlt|hge
  ·rw[afJ hlt]at h1;exact⟨it',h1,wb trivial it'⟩
  grind
 ·grind
 ·grind
 ·intro a h1;rw[agK (by omega)]at h1;cases h1
theorem du{j:Nat}(hr:SR Z w0 H G w)(hs:Step w0 j True H H' G G' w w'){s:SV}{v:Value}(h:Rel1 G (Av Z H G) w s v):Rel1 G' (Av Z H' G') w' s v:=hs.rel1 hr h (.inr ⟨rfl,λ_=>trivial⟩)
theorem An(hr:SR Z w0 H G w)(hb:Below w.heap.size w w'){it:Item}{g:Value}(hg:∀b,bG g=some b->w.heap.size<=b)
  (hit:ItemRel w0.heap.size (G++[g]) (Av Z (H++[it]) (G++[g])) w' it g):SR Z w0 (H++[it]) (G++[g]) w':=by
 refine(l8 hr hb hg).sr hr λit' g' h1 h2=>?_;grind [hr.len]
theorem ur(hr:SR Z w0 H G w)(hb:Below w.heap.size w w'):Step w0 H.length True H H G G w w':=by
 have hl:=hr.len;refine⟨hl,hr.below.trans (hb.mono hr.below.size),hb.size,λb hbw _=>hb.block b hbw,λi g _ h=>h,λi it' _ h=>⟨it',h,wb trivial it'⟩,?_,λ_ g h=>h,λa h=>h⟩;grind
theorem GZ(hr:SR Z w0 H G w)(hb:Below w.heap.size w w'):SR Z w0 H G w':=
 (ur hr hb).sr hr λit' g' h1 _=>by rw[agK (afs _)]at h1;cases h1
theorem oC(hr:SR Z w0 H G w){j:Nat}{it it':Item}(hj:H[j]?=some it)(hl:it.live=true)(hB:Below w0.heap.size w0 w')(hz:w.heap.size<=w'.heap.size)
  (hblk:∀b,b<w.heap.size->(∀g,G[j]?=some g->bG g≠some b)->w'.heap[b]?=w.heap[b]?):Step w0 j True H (H.set j it') G G w w':=by
 refine⟨by simp[hr.len],hB,hz,λb hb hn=>hblk b hb λg hg=>hn it g hj hl hg,λi g _ h=>h,λi it'' hi h=>?_,?_,λ_ g h=>h,λa h=>h⟩
 ·simp_all [ahi,wb]
 grind
theorem AW(hr:SR Z w0 H G w){j:Nat}{it it':Item}(hj:H[j]?=some it)(hl:it.live=true)(hB:Below w0.heap.size w0 w')(hz:w.heap.size<=w'.heap.size)
  (hblk:∀b,b<w.heap.size->(∀g,G[j]?=some g->bG g≠some b)->w'.heap[b]?=w.heap[b]?) (hit:∀g,G[j]?=some g->ItemRel w0.heap.size G (Av Z (H.set j it') G) w' it' g):SR Z w0 (H.set j it') G w':=by
 refine(oC hr hj hl hB hz hblk).sr hr λit'' g' h1 h2=>?_;grind
theorem rO(j:Nat)(same:Prop)(s:SV):Wk j same s (yj j s):=by
 unfold yj;split
 ·exact .inl rfl
 ·rename_i h;exact .inr ⟨rfl,λh'=>by rw[h']at h;cases h⟩
theorem KK(j:Nat)(same:Prop):∀it:Item,WkI j same it (jg (yj j) it)
 |.box t cs=>⟨rfl,by induction cs with|nil=>trivial|cons s l ih=>exact⟨rO j same s,ih⟩⟩
 |.row _ _ _=>rfl
 |.len _ _=>rfl
 |.gone=>rfl
theorem BN(hr:SR Z w0 H G w){j:Nat}{et et':TypeId}{e e':Ty}{xs:List e.D}{xs':List e'.D}{g g':Value}(hj:H[j]?=some (.row et e xs))(hg:G[j]?=some g)(hnp:∀a,g≠.pointer a)(hgr:w.grownBy w' (bG g))(hb:w0.heap.size<=w.heap.size)
  (hg':∀b,bG g'=some b->bG g=some b\/w.heap.size<=b):Step w0 j False H ((H.map (jg (yj j))).set j (.row et' e' xs')) G (G.set j g') w w':=by
 have hlt:=(afx.1 hj).1;refine⟨by simp[hr.len],?_,hgr.size,?_,?_,?_,?_,λh=>h.elim,?_⟩
 ·refine hr.below.grown hgr hb λk hk=>((hr.items j _ g hj hg).blk rfl hk).1 rfl
 ·intro b hb' hn;exact hgr.block b hb' λe1=>hn _ g hj rfl hg e1.symm
 ·grind
 ·intro i it' hi h;rw[af9,afQ (ahi hi),agd]at h;grind [agt,afv,KK]
 ·intro it' g1 b h1 h2 h3 h4;rw[af9,af2 rfl,af2 (by rw[hr.len];exact hlt)]at h3;injection h3 with h3;subst h3;rcases hg' b h4 with h5|h5
  ·exact .inl ⟨_,g,hj,rfl,hg,h5⟩
  ·exact .inr h5
 grind
theorem Mv{j:Nat}{et:TypeId}{e:Ty}{xs:List e.D}{g:Value}{A:Nat->Prop}(hr:SR Z w0 H G w)(hj:H[j]?=some (.row et e xs))(hg:G[j]?=some g)(hA:∀b,b<w.heap.size->Av Z H G b->A b)(hAj:∀b,bG g=some b->A b):(Ty.sl e).rd A w [g] xs:=by
 obtain⟨css,ho,ha2,hn⟩:=hr.items j _ g hj hg;have hk:Keeps (Av Z H G) A w w:=⟨afs _,hA,λ_ _ _=>rfl⟩
 have ha3:=aU (λ_ _ h=>Ty.rd_keep hk h) ha2;have hrd:=Rd.of_own hn ho;obtain⟨hlen,p,c,hv,h1,h2,h3⟩:=hrd;subst hv;refine⟨p,xs.length,c,css,rfl,rfl,h1,h2,ha3,λh0=>?_⟩;obtain⟨b,off,rfl,h5,h6⟩:=h3 h0;exact⟨b,off,rfl,hAj b rfl,h5,h6⟩
theorem Nw{j lo n:Nat}{et:TypeId}{e:Ty}{xs:List e.D}{v:Value}{A:Nat->Prop}(hr:SR Z w0 H G w)(hj:H[j]?=some (.row et e xs))(hv:Rel1 G (Av Z H G) w (.osl j e.n lo n) v)(hA:∀b,b<w.heap.size->Av Z H G b->A b)(hAj:∀g b,G[j]?=some g->bG g=some b->A b):(Ty.sl e).rd A w [v] ((xs.drop lo).take n):=by
 obtain⟨g,q,c,hg,rfl,h1,h2,h3⟩:=hv;obtain⟨css,ho,ha2,hn⟩:=hr.items j _ g hj hg;have hk:Keeps (Av Z H G) A w w:=⟨afs _,hA,λ_ _ _=>rfl⟩
 have ha3:=aU (λ_ _ h=>Ty.rd_keep hk h) ha2;have hl4:=fN ha2
 have hN:0<n->lo+n<=xs.length:=λh0=>by
  grind [fa]
 refine⟨q,n,c,(css.drop lo).take n,rfl,?_,h1,h2,jY _ (iw _ ha3),λh0=>?_⟩
 ·rcases age n with h0|h0
  ·subst h0;simp
  ·have:=hN h0;simp;omega
 ·obtain⟨b,N,c',rfl,h4,rfl⟩:=h3 h0;obtain⟨_,p,c1,hv,_,_,h6⟩:=Rd.of_own hn ho;injection hv with hv1 hv2 hv3;obtain⟨b',off,e1,h7,h8⟩:=h6 (by have:=hN h0;omega);rw[e1]at hv1;injection hv1 with hv1;injection hv1 with e2 e3;subst e2 e3;refine⟨b,lo*e.n,rfl,hAj _ b hg rfl,h7,λk u hu=>?_⟩;rw[fU _ (λl hm=>hl4 l (ahy hm)),fL _ hl4,ahs]at hu;split at hu
  ·rw[ahd]at hu;have:=h8 _ _ hu;rwa [afY]at this
  ·cases hu
theorem yL{j:Nat}{et:TypeId}{e:Ty}{xs:List e.D}(hr:SR Z w0 H G w)(hj:H[j]?=some (.row et e xs)):
  SR Z w0 ((H.map (jg (fz j e xs))).set j .gone) G w/\∀s v,Rel1 G (Av Z H G) w s v->Rel1 G (Av Z ((H.map (jg (fz j e xs))).set j .gone) G) w (fz j e xs s) v:=by
 have hlt:=(afx.1 hj).1;have hltG:j<G.length:=by rw[hr.len];exact hlt
 have hg:G[j]?=some G[j]:=afn hltG;generalize hgg:G[j]=g at hg
 have hget:∀(i:Nat) it',((H.map (jg (fz j e xs))).set j .gone)[i]?=some it'->(i=j/\it'=.gone)\/(i≠j/\∃it,H[i]?=some it/\it'=jg (fz j e xs) it):=by
  grind
 have live:∀it:Item,(jg (fz j e xs) it).live=it.live:=λit=>by cases it<;>rfl
 have hsub:∀b,b<w.heap.size->Av Z H G b->Av Z ((H.map (jg (fz j e xs))).set j .gone) G b:=by
  intro b _ hA;refine⟨hA.1,λi it' g' h1 h2 h3=>?_⟩;rcases hget i it' h1 with⟨_,rfl⟩|⟨_,it,h4,rfl⟩
  ·cases h2
  ·exact hA.2 i it g' h4 (by rw[<-live];exact h2) h3
 have hAj:∀b,bG g=some b->Av Z ((H.map (jg (fz j e xs))).set j .gone) G b:=by
  intro b hb;refine⟨hr.zf b (((hr.items j _ g hj hg).blk rfl hb).1 rfl),λi it' g' h1 h2 h3=>?_⟩;rcases hget i it' h1 with⟨_,rfl⟩|⟨hij,it,h4,rfl⟩
  ·cases h2
  ·exact λh5=>hr.disj i j it _ g' g b hij h4 hj (by rw[<-live];exact h2) rfl h3 hg h5 hb
 have hk:Keeps (Av Z H G) (Av Z ((H.map (jg (fz j e xs))).set j .gone) G) w w:=⟨afs _,hsub,λ_ _ _=>rfl⟩
 have hrel:∀s v,Rel1 G (Av Z H G) w s v->Rel1 G (Av Z ((H.map (jg (fz j e xs))).set j .gone) G) w (fz j e xs s) v:=by
  intro s v h;unfold fz;split
  ·rename_i hof;split
   ·rename_i i;have:i=j:=afq hof;subst this;have h:G[i]?=some v:=h;rw[hg]at h;injection h with h;subst h;exact⟨[g],Mv hr hj hg hsub hAj,rfl⟩
   ·rename_i i sz lo n;have:i=j:=afq hof;subst this;split
    ·rename_i hb;have:=afq hb;subst this;have hv:=Nw hr hj h hsub (λg' b h1 h2=>hAj b (by rw[hg]at h1;injection h1 with h1;rw[h1];exact h2));exact⟨[v],hv,rfl⟩
    ·trivial
   ·trivial
  ·exact h.keep hk λi g' _ h=>h
 refine⟨⟨by simp[hr.len],hr.below,?_,?_,hr.zf⟩,hrel⟩
 ·intro i it' g' h1 h2;rcases hget i it' h1 with⟨_,rfl⟩|⟨hij,it,h4,rfl⟩
  ·trivial
  ·have hi:=hr.items i it g' h4 h2;cases it with
   |gone=>trivial
   |box t cs=>
    obtain⟨b,vs,rfl,k1,k2,k3⟩:=hi;refine⟨b,vs,rfl,k1,k2,?_⟩;clear k2 h4 h1;induction cs generalizing vs with
    |nil=>cases vs<;>exact k3
    |cons s l ih=>
     match vs,k3 with
     |v::vs,⟨q1,q2⟩=>exact⟨hrel s v q1,ih vs q2⟩
   |row et' e' xs'=>
    obtain⟨css,k1,k2,k3⟩:=hi;exact⟨css,k1,aU (λ_ _ h=>Ty.rd_keep hk h) k2,k3⟩
   |len e' xs'=>
    obtain⟨et',css,k1,k2,k3⟩:=hi;exact⟨et',css,k1,aU (λ_ _ h=>Ty.rd_keep hk h) k2,k3⟩
 ·intro i k it kt g1 h1 b hik a1 a2 a3 a4 a5 a6 a7;rcases hget i it a1 with⟨_,rfl⟩|⟨_,it0,b1,rfl⟩
  ·cases a3
  ·rcases hget k kt a2 with⟨_,rfl⟩|⟨_,kt0,c1,rfl⟩
   ·cases a4
   ·exact hr.disj i k it0 kt0 g1 h1 b hik b1 c1 (by rw[<-live];exact a3) (by rw[<-live];exact a4) a5 a6 a7
end
end
def inv(_:World):Prop:=True
theorem lU{w w':World}(_:inv w)(_:Below w.heap.size w w'):inv w':=trivial
theorem OT{w:World}:inv w:=trivial
section
inductive RV where
 |d (t:Ty) (x:t.D)
 |new (et:TypeId) (e:Ty) (xs:List e.D)
structure Yc where
 ret:Bool
 g:List Int->List Int
 bx:Option Nat:=none
structure dK where
 keep:Bool
 run:(R:Type)->List SV->(List RV->Option R)->Option R
 mut_:Option Yc:=none
 tame:Bool:=false
 lent:Option (Nat×((R:Type)->List SV->(List RV->Option R)->Option R)):=none
abbrev Env:=List (Nat×dK)
def l6:Env->Nat->Option dK
 |[],_=>none
 |(k,x)::r,t=>match Nat.beq k t with
  |true=>some x
  |false=>l6 r t
def KM(E:Env)(f:Nat):Option Yc:=match l6 E f with
 |some sp=>match sp.mut_ with
  |some g=>match g.bx with
   |some _=>none
   |none=>some g
  |none=>none
 |none=>none
def Ty.zsplit:Ty->List SV
 |.pair a b=>a.zsplit++b.zsplit
 |.st a=>a.zsplit
 |.int k=>[.d (.int k) (0:Int)]
 |.bool=>[.d .bool false]
 |.str=>[.d .str ⟨#[]⟩]
 |.sl _=>[.nil]
def zE(e:Ty):Nat->List SV->Option (List e.D)
 |0,[]=>some []
 |0,_=>none
 |n+1,l=>match e.join l with
  |some (x,r)=>match zE e n r with
   |some xs=>some (x::xs)
   |none=>none
  |none=>none
def mY{α:Type}(l:List α):Nat->List α
 |0=>[]
 |n+1=>l++mY l n
def uD(fl j:Nat)(L:SL)(H:List Item):Option (SL×List Item):=match Nat.ble fl j,H[j]? with
 |true,some (.row _ e xs)=>some (Dx (fz j e xs) L,(H.map (jg (fz j e xs))).set j .gone)
 |_,_=>none
def oG(fl:Nat):List Operand->SL->List Item->Option (SL×List Item)
 |[],L,H=>some (L,H)
 |x::r,L,H=>match opS L x with
  |some (.own j)=>match uD fl j L H with
   |some (L',H')=>oG fl r L' H'
   |none=>none
  |some (.osl j _ _ _)=>match uD fl j L H with
   |some (L',H')=>oG fl r L' H'
   |none=>none
  |_=>oG fl r L H
def fzB(fl:Nat)(o:Oper)(L:SL)(H:List Item):Option (SL×List Item):=match o.op with
 |.build _ parts=>oG fl (parts.toList.map (·.2)) L H
 |_=>some (L,H)
def Pm:Operand->Operand->Bool
 |.tmp a,.tmp b=>Nat.beq a b
 |_,_=>false
def gL(T:TT)(H:List Item):List SV->List Nat->Option (List SV)
 |[],[]=>some []
 |s::l,t::ts=>match gL T H l ts with
  |some r=>match s with
   |.d t x=>some (.d t x::r)
   |.nil=>match dp T t with
    |some i=>match i.ty with
     |.sl e=>some (.d (.sl e) []::r)
     |_=>none
    |none=>none
   |.own j=>match H[j]? with
    |some (.row _ e xs)=>some (.d (.sl e) xs::r)
    |_=>none
   |.cut e xs=>some (.d (.sl e) xs::r)
   |.osl j sz lo n=>match H[j]? with
    |some (.row _ e xs)=>match Nat.beq sz e.n with
     |true=>some (.d (.sl e) ((xs.drop lo).take n)::r)
     |false=>none
    |_=>none
   |_=>none
  |none=>none
 |_,_=>none
def SV.noOwn:SV->Bool
 |.own _=>false
 |.osl _ _ _ _=>false
 |_=>true
def RV.flat:RV->Bool
 |.d t _=>t.flat
 |.new _ _ _=>false
def AM(rs:List RV):Bool:=match rs with
 |[.new _ e _]=>e.flat
 |rs=>rs.all RV.flat
def rvS:List RV->Option (List SV)
 |[]=>some []
 |.d t x::r=>match rvS r with
  |some l=>some (.d t x::l)
  |none=>none
 |.new _ e xs::r=>match rvS r with
  |some l=>some (.d (.sl e) xs::l)
  |none=>none
section
variable {R:Type}
def qg(H:List Item)(rs:List RV)(k:SV->List Item->Option R):Option R:=match rs with
 |[.new et e xs]=>k (.own H.length) (H++[.row et e xs])
 |[.d t x]=>k (.d t x) H
 |rs=>match rvS rs with
  |some l=>k (.tup l) H
  |none=>none
def qm:Nat->List SV->Bool
 |0,.own _::l=>l.all SV.noOwn
 |p+1,s::l=>s.noOwn&&qm p l
 |_,_=>false
def VW(E:Env)(L:SL)(f:Nat)(args:List Operand):Option ((List SV)×((R:Type)->List SV->(List RV->Option R)->Option R)):=match l6 E f with
 |some sp=>match sp.lent with
  |some (p,g)=>match yc L args with
   |some ss=>match qm p ss with
    |true=>some (ss,g)
    |false=>none
   |none=>none
  |none=>none
 |none=>none
def N6(T:TT)(E:Env)(fl:Nat)(L:SL)(H:List Item)(f:Nat)(args:List Operand)(tys:List Nat)(k:SV->List Item->SL->Option R):Option R:=
 match VW E L f args with
 |some (ss,g)=>match gL T (H.map rdI) ss tys with
  |some al=>g R al λrs=>qg H rs λs H'=>k s H' L
  |none=>none
 |none=>match l6 E f with
 |some sp=>match sp.keep with
  |true=>match yc L args with
   |some ss=>match gL T H ss tys with
    |some al=>sp.run R al λrs=>match AM rs with
     |true=>qg H rs λs H'=>k s H' L
     |false=>none
    |none=>none
   |none=>none
  |false=>match oG fl args L H with
   |some (L',H')=>match yc L' args with
    |some ss=>match gL T H' ss tys,ss.all SV.noOwn with
     |some al,true=>sp.run R al λrs=>qg H' rs λs H''=>k s H'' L'
     |_,_=>none
    |none=>none
   |none=>none
 |none=>none
def gv{α:Type}(z:α)(lo n:Nat)(xs:List α):List α:=xs.take lo++List.replicate n z++xs.drop (lo+n)
def eop(T:TT)(E:Env)(fl:Nat)(L:SL)(H:List Item)(o:Oper)(k:SV->List Item->SL->Option R):Option R:=
 match o.op with
 |.box t x=>match opS L x with
  |some s=>match fY H s with
   |some cs=>k (.box H.length 0) (H++[.box t cs]) L
   |none=>none
  |none=>none
 |.alloc t=>match dp T t with
  |some i=>match i.z,i.ty with
   |_,.pair _ _=>none
   |true,ty=>k (.box H.length 0) (H++[.box t ty.zsplit]) L
   |_,_=>none
  |none=>none
 |.buildSlice t len parts=>match dp T t with
  |some i=>match i.ty with
   |.sl e=>match oG fl (parts.toList.map (·.2)) L H with
    |some (L',H')=>match pU H' L' (λq=>some (q*e.n,e.n)) (mY (e.split e.zero) len) parts.toList with
     |some cs=>match zE e len cs,Nat.ble (len*e.n) 16777216 with
      |some xs,true=>k (.own H'.length) (H'++[.row i.el e xs]) L'
      |_,_=>none
     |none=>none
    |none=>none
   |_=>none
  |none=>none
 |.makeSlice t x y=>match Pm x y,opS L x,dp T t with
  |true,some (.d (.int _) n),some i=>match i.ty with
   |.sl e=>match decide (0<=n/\n*i.byt<=140737488355328/\n<=140737488355328)with
    |true=>k (.own H.length) (H++[.row i.el e (List.replicate n.toNat e.zero)]) L
    |false=>none
   |_=>none
  |false,some (.d (.int _) m),some i=>match opS L y,i.ty with
   |some (.d (.int _) n),.sl e=>match decide (m=0/\0<=n/\n*i.byt<=140737488355328/\n<=140737488355328)with
    |true=>k (.own H.length) (H++[.row i.el e []]) L
    |false=>none
   |_,_=>none
  |_,_,_=>none
 |.store t x v=>match opS L x,opS L v,dp T t with
  |some (.box j off),some s,some i=>match H[j]?,fY H s with
   |some (.box bt cells),some l=>match Nat.beq l.length i.ty.n&&Nat.ble (off+l.length) cells.length with
    |true=>k .undef (H.set j (.box bt (nD cells off l))) L
    |false=>none
   |_,_=>none
  |some (.oelt j sz m off),some (.d t' y),some i=>match true,H[j]? with
   |true,some (.row et e xs)=>match Nat.beq sz e.n&&Nat.beq t'.n i.ty.n,xs[m]? with
    |true,some x=>match t',e.upd x off t' y with
     |.pair _ _,_=>none
     |_,some x'=>k .undef (H.set j (.row et e (xs.set m x'))) L
     |_,none=>none
    |_,_=>none
   |_,_=>none
  |_,_,_=>none
 |.call ⟨.builtin .append,⟨[x,y]⟩,⟨[t,t']⟩⟩=>match Nat.beq t t',dp T t with
  |true,some i=>match i.ty with
   |.sl e=>match gL T (H.map rdI) ((opS L y).toList) [t]with
    |some [.d (.sl e') ys]=>match ff (.sl e') (.sl e) ys with
     |some ys=>match opS L x with
      |some (.own j)=>match Nat.ble fl j,H[j]? with
       |true,some (.row et e0 xs)=>match Nat.beq et i.el,ff (.sl e0) (.sl e) xs with
        |true,some xs=>match decide ((xs.length+ys.length)*i.byt<=140737488355328/\xs.length+ys.length<=140737488355328)with
         |true=>k (.own j) ((H.map (jg (yj j))).set j (.row i.el e (xs++ys))) (Dx (yj j) L)
         |false=>none
        |_,_=>none
       |_,_=>none
      |some .nil=>match decide (ys.length*i.byt<=140737488355328/\ys.length<=140737488355328)with
       |true=>k (.own H.length) (H++[.row i.el e ys]) L
       |false=>none
      |some (.cut e0 xs)=>match ff (.sl e0) (.sl e) xs with
       |some xs=>match decide (xs≠[]/\ys≠[]/\(xs.length+ys.length)*i.byt<=140737488355328/\xs.length+ys.length<=140737488355328)with
        |true=>k (.own H.length) (H++[.row i.el e (xs++ys)]) L
        |false=>none
       |none=>none
      |_=>none
     |none=>none
    |_=>none
   |_=>none
  |_,_=>none
 |.call ⟨.builtin .clear,⟨[x]⟩,⟨[t]⟩⟩=>match opS L x with
  |some (.osl j sz lo n)=>match H[j]? with
   |some (.row et e0 xs)=>match dp T t with
    |some i=>match Nat.beq sz e0.n&&Nat.beq et i.el with
     |true=>match i.ty with
      |.sl e=>match ff (.sl e0) (.sl e) xs with
       |some xs=>k (.tup []) (H.set j (.row et e (gv e.zero lo n xs))) L
       |none=>none
      |_=>none
     |false=>none
    |none=>none
   |_=>none
  |_=>none
 |.call ⟨.value f,args,tys⟩=>match opS L f with
  |some (.clo f [])=>match KM E f with
   |some g=>match args.toList with
    |[x]=>match opS L x with
     |some (.own j)=>match Nat.ble fl j,H[j]? with
      |true,some (.row et (.int .i64) xs)=>match decide (xs.length<=140737488355328)with
       |true=>match g.ret with
        |false=>k (.tup []) (H.set j (.row et (.int .i64) (g.g xs))) L
        |true=>k (.own j) ((H.map (jg (yj j))).set j (.row et (.int .i64) (g.g xs))) (Dx (yj j) L)
       |false=>none
      |_,_=>none
     |_=>none
    |_=>none
   |none=>N6 T E fl L H f args.toList tys.toList k
  |_=>none
 |_=>none
end
def zd(E:Env)(L:SL):Op->Bool
 |.call ⟨.value f,_,_⟩=>match opS L f with
  |some (.clo f [])=>(KM E f).isSome
  |_=>false
 |_=>false
def ZN(P:Program)(f:Nat)(g:List Int->List Int):Prop:=
 ∀(w:World) (base et:Nat) (v:Value) (xs:List Int),w.ownsRow base et 1 v xs.length (xs.map (Value.int .i64))->xs.length<=140737488355328->
  Calls P f #[v] w λe w'=>e=.returned (.tuple #[])/\w'.ownsRow base et 1 v xs.length ((g xs).map (Value.int .i64))/\(g xs).length=xs.length/\w.grownBy w' (bG v)
def adm(P:Program)(f:Nat)(g:List Int->List Int):Prop:=
 ∀(w:World) (base et:Nat) (v:Value) (xs:List Int),w.ownsRow base et 1 v xs.length (xs.map (Value.int .i64))->xs.length<=140737488355328->
  Calls P f #[v] w λe w'=>∃v',e=.returned v'/\w'.ownsRow base et 1 v' (g xs).length ((g xs).map (Value.int .i64))/\w.grownBy w' (bG v)/\bG v'=bG v
def acK(P:Program)(f t:Nat):Prop:=
 ∀(w:World) (c:Nat) (b ok:Bool) (x y:Int),inv w->Blk w c t #[.bool b]->
  Calls P f #[.pointer (some ⟨c,0,none⟩),.agg #[.int .i64 x,.int .i64 y],.bool ok] w λe w'=>e=.returned (.agg #[.int .i64 x,.int .i64 y])/\Blk w' c t #[.bool (b&&ok)]/\w.grownBy w' (some c)
def IJ(P:Program)(f:Nat)(m:Yc):Prop:=match m.bx with
 |some t=>acK P f t
 |none=>match m.ret with
  |false=>ZN P f m.g
  |true=>adm P f m.g
def mq(A:Nat->Prop)(base:Nat)(w:World)(rs:List RV)(v:Value):Prop:=match rs with
 |[.new et e xs]=>∃css,w.ownsRow base et e.n v xs.length (List.flatten css)/\b9 (λl y=>e.rd (λb=>A b/\bG v≠some b) w l y) css xs/\0<e.n
 |[.d t x]=>Rel1 [] A w (.d t x) v
 |rs=>∃vs:List Value,v=.tuple vs.toArray/\∃l,rvS rs=some l/\b9 (Rel1 [] A w) l vs
def Con(P:Program)(f:Nat)(args:List SV)(rs:List RV):Prop:=
 ∀(A:Nat->Prop) (w:World) (vs:List Value),inv w->b9 (Rel1 [] A w) args vs->Calls P f vs.toArray w λe w'=>∃v,e=.returned v/\Below w.heap.size w w'/\mq (λb=>A b\/w.heap.size<=b) w.heap.size w' rs v
def Ga(A:Nat->Prop)(w:World)(s:SV)(v:Value):Prop:=∃(e:Ty) (xs:List e.D) (et:TypeId) (css:List (List Value)),s=.d (.sl e) xs/\w.ownsRow 0 et e.n v xs.length (List.flatten css)/\b9 (λl y=>e.rd A w l y) css xs/\0<e.n/\∀b,bG v=some b->¬A b
def Re(A:Nat->Prop)(w:World):Nat->List SV->List Value->Prop
 |0,s::l,v::vs=>Ga A w s v/\b9 (Rel1 [] A w) l vs
 |p+1,s::l,v::vs=>Rel1 [] A w s v/\Re A w p l vs
 |_,_,_=>False
def ConL(P:Program)(f p:Nat)(args:List SV)(rs:List RV):Prop:=
 ∀(A:Nat->Prop) (w:World) (vs:List Value),inv w->Re A w p args vs->Calls P f vs.toArray w λe w'=>∃v,e=.returned v/\Below w.heap.size w w'/\mq (λb=>A b\/w.heap.size<=b) w.heap.size w' rs v
def Ag(P:Program)(f:Nat)(sp:dK):Prop:=∀p g,sp.lent=some (p,g)->∀(R:Type) args (k:List RV->Option R) r,g R args k=some r->∃rs,k rs=some r/\ConL P f p args rs
def Bp(P:Program)(f:Nat)(sp:dK):Prop:=∀(R:Type) args (k:List RV->Option R) r,sp.run R args k=some r->∃rs,k rs=some r/\Con P f args rs
def dJ(P:Program)(g:Nat):Bool:=match P.funcs[g]? with
 | some fn => !(fn.name == "runtime.NumGoroutine") && fn.body.isSome
 |none=>false
def ln(P:Program)(E:Env):Prop:=∀f sp,l6 E f=some sp->dJ P f=true/\Bp P f sp/\(∀g,sp.mut_=some g->IJ P f g)/\Ag P f sp
end
section
structure Chg (Z:Nat->Prop) (fl:Nat) (st ap:Bool) (H:List Item) (G:List Value) (w:World) (H':List Item) (G':List Value) (w':World):Prop where
 pres:∀s v,Rel1 G (Av Z H G) w s v->(∀j,s.of1 j=true->j<fl)->Rel1 G' (Av Z H' G') w' s v
 agr:st=true\/(Agr (!ap) H G w w'/\∀b,b<w.heap.size->jf H' G' b->jf H G b)
 len:H.length<=H'.length
theorem Hm{α:Type}(l:List α):∀(n i:Nat),i<n*l.length->(mY l n)[i]?=l[i%l.length]?
 |0,i,h=>by simp at h
 |n+1,i,h=>by
  simp only[mY];rcases afZ i l.length with hi|hi
  ·rw[afJ hi,Nat.mod_eq_of_lt hi]
  ·rw[ag6]at h;rw[afW hi,Hm l n (i-l.length) (by omega)];congr 1;rw[Nat.mod_eq_sub_mod hi]
theorem Ao{α:Type}(l:List α):∀n,(mY l n).length=n*l.length
 |0=>by simp[mY]
 |n+1=>by simp[mY,Ao l n,ag6];omega
theorem xM(z:Array Value)(n:Nat):(madeCells z (n*z.size)).toList=mY z.toList n:=by
 apply ag3;intro i;rcases afZ i (n*z.size)with hi|hi
 ·rw[Hm _ _ _ (by simpa using hi)]
  have hz:0<z.size:=by
   grind
  have hm:i%z.size<z.size:=aif _ hz;simp[madeCells,hi,hm]
 ·rw[agK (by simp[madeCells];exact hi),agK (by rw[Ao];simpa using hi)]
theorem Hq{R:SV->Value->Prop}{l:List SV}{vs:List Value}(h:b9 R l vs):∀n,b9 R (mY l n) (mY vs n)
 |0=>trivial
 |n+1=>ez h (Hq h n)
theorem mI{A:Nat->Prop}{w:World}{e:Ty}{cs:List Value}{x:e.D}(h:e.rd A w cs x):∀n,b9 (λl y=>e.rd A w l y) (List.replicate n cs) (List.replicate n x)/\(List.replicate n cs).flatten=mY cs n
 |0=>⟨trivial,rfl⟩
 |n+1=>⟨⟨h,(mI h n).1⟩,by rw[List.replicate_succ,agx,(mI h n).2];rfl⟩
theorem C5{G:List Value}{A:Nat->Prop}{w:World}{e:Ty}:∀{n:Nat} {l:List SV} {xs:List e.D} {vs:List Value},zE e n l=some xs->b9 (Rel1 G A w) l vs->∃css,vs=List.flatten css/\b9 (λl y=>e.rd A w l y) css xs/\xs.length=n
 |0,[],xs,vs,h,ha=>by
  simp only[zE,afv]at h;subst h;cases vs with
  |nil=>exact⟨[],rfl,trivial,rfl⟩
  |cons=>exact ha.elim
 |0,_::_,xs,vs,h,ha=>by simp[zE]at h
 |n+1,l,xs,vs,h,ha=>by
  simp only[zE]at h;split at h<;>try (cases h;done)
  rename_i x r hj;split at h<;>try (cases h;done)
  rename_i ys hy;injection h with h;subst h;obtain⟨v1,v2,rfl,h1,h2⟩:=pD hj ha;obtain⟨css,rfl,h3,h4⟩:=C5 hy h2;exact⟨v1::css,rfl,⟨h1,h3⟩,by simp[h4]⟩
theorem kK{G:List Value}{A:Nat->Prop}{w:World}:∀{t:Ty},b9 (Rel1 G A w) t.zsplit (zc t)
 |.int _=>⟨⟨[_],rfl,rfl⟩,trivial⟩
 |.bool=>⟨⟨[_],rfl,rfl⟩,trivial⟩
 |.str=>⟨⟨[_],rfl,rfl⟩,trivial⟩
 |.sl _=>⟨rfl,trivial⟩
 |.pair _ _=>ez kK kK
 |.st a=>kK (t:=a)
theorem jU{t:Ty}(ht:t.isSt=true\/t.n=1):(mkV t (zc t)).cells.toList=zc t:=by
 rcases ht with ht|ht
 ·simp[mkV,ht,Value.cells]
 ·cases t with
  |int=>rfl
  |bool=>rfl
  |str=>rfl
  |sl=>rfl
  |st a=>simp[mkV,Ty.isSt,Value.cells]
  |pair a b=>
   have h1:=m9 (.pair a b);rw[ht]at h1;match hz:zc (.pair a b),h1 with
   |[v],_=>
    have:∀t:Ty,∀v∈zc t,v.cells.toList=[v]:=by
     intro t;induction t with
     |int=>intro v hv;simp[zc]at hv;subst hv;rfl
     |bool=>intro v hv;simp[zc]at hv;subst hv;rfl
     |str=>intro v hv;simp[zc]at hv;subst hv;rfl
     |sl=>intro v hv;simp[zc]at hv;subst hv;rfl
     |st a ih=>exact ih
     |pair a b iha ihb=>intro v hv;simp only[zc,afL]at hv;exact hv.elim (iha v) (ihb v)
    grind [mkV,Ty.isSt]
theorem uA{A:Nat->Prop}{w:World}:∀{t:Ty} {cs:List Value} {x:t.D},t.rd A w cs x->∀v∈cs,v.oneCell'=true
 |.int _,_,_,h,v,hv=>by simp only[Ty.rd]at h;subst h;simp at hv;subst hv;rfl
 |.bool,_,_,h,v,hv=>by simp only[Ty.rd]at h;subst h;simp at hv;subst hv;rfl
 |.str,_,_,h,v,hv=>by simp only[Ty.rd]at h;subst h;simp at hv;subst hv;rfl
 |.pair a b,_,_,⟨l1,l2,h0,h1,h2⟩,v,hv=>by rw[h0]at hv;rcases afL.1 hv with h|h;exact uA h1 v h;exact uA h2 v h
 |.st a,_,_,h,v,hv=>uA (t:=a) h v hv
 |.sl e,_,_,⟨p,n,c,css,h0,_⟩,v,hv=>by subst h0;simp at hv;subst hv;rfl
theorem AR{A:Nat->Prop}{w:World}{e:Ty}:∀{css:List (List Value)} {xs:List e.D},b9 (λl y=>e.rd A w l y) css xs->∀v∈css.flatten,v.oneCell'=true
 |[],[],_,v,hv=>by simp at hv
 |c::css,x::xs,⟨h1,h2⟩,v,hv=>by
  rw[agx]at hv;rcases afL.1 hv with h|h
  ·exact uA h1 v h
  ·exact AR h2 v h
section
variable {Z:Nat->Prop} {w0:World} {n:Nat} {L:SL} {H:List Item} {G:List Value} {w:World} {a:Act} {P:Program} {T:TT} {R:Type}
theorem FU(hr:SR Z w0 H G w){s:SV}{v:Value}{l:List SV}(h:Rel G (Av Z H G) w s v)(hs:fY H s=some l):∀u∈v.cells.toList,u.oneCell'=true:=by
 unfold fY at hs;split at hs
 ·cases hs
 ·rename_i t x hne;obtain⟨cs,h1,rfl⟩:=h;rw[tv (λa b e=>by subst e;exact hne a b x rfl HEq.rfl) h1];exact uA h1
 ·split at hs
  ·rename_i j _ et e xs hj;obtain⟨css,ho,_⟩:=hr.items j _ _ hj h;rcases fa ho with⟨rfl,_⟩|⟨b,c,rfl⟩<;>intro u hu<;>simp[Value.cells]at hu<;>subst hu<;>rfl
  grind
 ·rename_i s' hn1 hn2 hn3;split at hs<;>try (cases hs;done)
  rename_i hg;cases s with
  |d t x=>cases t<;>first|exact(hn1 _ _ _ rfl).elim|exact(hn2 _ _ rfl).elim
  |nil=>rw[show v=.slice none 0 0 from h];intro u hu;simp[Value.cells]at hu;subst hu;rfl
  |box j off=>obtain⟨b,_,rfl⟩:=h;intro u hu;simp[Value.cells]at hu;subst hu;rfl
  |elt e x off=>obtain⟨b,o,cs,rfl,_⟩:=h;intro u hu;simp[Value.cells]at hu;subst hu;rfl
  |own j=>exact(hn3 j rfl).elim
  |oelt j sz i off=>obtain⟨b,n,c,_,rfl⟩:=h;intro u hu;simp[Value.cells]at hu;subst hu;rfl
  |clo f caps=>obtain⟨bs,_,rfl⟩:=h;intro u hu;simp[Value.cells]at hu;subst hu;rfl
  |tup l=>simp[SV.good]at hg
  |undef=>simp[SV.good]at hg
  |dead=>simp[SV.good]at hg
  |cut e xs=>obtain⟨p,_,rfl⟩:=h;intro u hu;simp[Value.cells]at hu;subst hu;rfl
  |osl j sz lo n=>obtain⟨g,q,c,_,rfl,_⟩:=h;intro u hu;simp[Value.cells]at hu;subst hu;rfl
theorem Lm(hr:SR Z w0 H G w){it:Item}{g:Value}(hg:∀b,bG g=some b->w.heap.size<=b){b:Nat}(hb:b<w.heap.size)(h:jf (H++[it]) (G++[g]) b):jf H G b:=by
 obtain⟨j,et,e,xs,g',h1,h2,h3⟩:=h;rcases afZ j H.length with hlt|hge
 ·rw[afJ hlt]at h1;rw[afJ (by rw[hr.len];exact hlt)]at h2;exact⟨j,et,e,xs,g',h1,h2,h3⟩
 grind [hr.len]
theorem HK(hr:SR Z w0 H G w){w':World}(hb:Below w.heap.size w w'){it:Item}{g:Value}(hg:∀b,bG g=some b->w.heap.size<=b)(fl:Nat)(st ap:Bool):Chg Z fl st ap H G w (H++[it]) (G++[g]) w':=
 ⟨λs v h _=>du hr (l8 hr hb hg) h,.inr ⟨⟨hb.size,λb h1 _=>hb.block b h1⟩,λb h1 h2=>Lm hr hg h1 h2⟩,by simp⟩
theorem ji(w:World)(o:Obj):Below w.heap.size w (w.alloc o):=(aid _ _).alloc (afs _) o
theorem HZ(hr:SR Z w0 H G w)(hf:FR Z n L H G w a){t:TypeId}{cs:List SV}{vs:Array Value}(hcs:b9 (Rel1 G (Av Z H G) w) cs vs.toList)(fl:Nat)(st ap:Bool):
  ∃G',SR Z w0 (H++[.box t cs]) G' (w.alloc (.cells vs t))/\FR Z n L (H++[.box t cs]) G' (w.alloc (.cells vs t)) a/\Rel G' (Av Z (H++[.box t cs]) G') (w.alloc (.cells vs t)) (.box H.length 0) (.pointer (some ⟨w.heap.size,0,none⟩))/\Chg Z fl st ap H G w (H++[.box t cs]) G' (w.alloc (.cells vs t)):=by
 have hb:=ji w (.cells vs t);have hg:∀b,bG (.pointer (some ⟨w.heap.size,0,none⟩))=some b->w.heap.size<=b:=λb h=>by simp[bG]at h;omega
 have hst:=l8 (it:=.box t cs) hr hb hg;refine⟨G++[.pointer (some ⟨w.heap.size,0,none⟩)],An hr hb hg ⟨w.heap.size,vs.toList,rfl,hr.below.size,Blk.new w t vs,aU (λs v h=>du hr hst h) hcs⟩,hf.keep λs v h=>du hr hst h,⟨w.heap.size,?_,rfl⟩,HK hr hb hg fl st ap⟩;simp[hr.len]
theorem lw(hr:SR Z w0 H G w)(hf:FR Z n L H G w a){w':World}(hb:Below w.heap.size w w'){et:TypeId}{e:Ty}{xs:List e.D}{v:Value}{css:List (List Value)}(ho:w'.ownsRow w.heap.size et e.n v xs.length css.flatten)(he:0<e.n)
  (hcs:b9 (λl y=>e.rd (λb=>(Av Z H G b\/w.heap.size<=b)/\bG v≠some b) w' l y) css xs) (fl:Nat) (st ap:Bool):
  ∃G',SR Z w0 (H++[.row et e xs]) G' w'/\FR Z n L (H++[.row et e xs]) G' w' a/\Rel G' (Av Z (H++[.row et e xs]) G') w' (.own H.length) v/\Chg Z fl st ap H G w (H++[.row et e xs]) G' w':=by
 have hg:∀b,bG v=some b->w.heap.size<=b:=λb h=>by
  rcases fa ho with⟨rfl,_⟩|⟨b',c,rfl⟩
  ·simp[bG]at h
  ·exact(ho.lt b (by simpa [Value.ownBlock,bG]using h)).1
 have hst:=l8 (it:=.row et e xs) hr hb hg
 have hown:w'.ownsRow w0.heap.size et e.n v xs.length css.flatten:=by
  refine⟨ho.1,?_⟩;rcases ho.2 with h|⟨g,cap,cur,h1,h2,h3⟩
  ·exact .inl h
  ·exact .inr ⟨g,cap,cur,h1,afA hr.below.size h2,h3⟩
 have hav:∀b,b<w'.heap.size->((Av Z H G b\/w.heap.size<=b)/\bG v≠some b)->Av Z (H++[.row et e xs]) (G++[v]) b:=by
  rintro b _ ⟨h1,h2⟩
  refine⟨h1.elim (λh=>h.1) (λh=>hr.zf b (afA hr.below.size h)),λj it g hj hl hgj=>?_⟩;rcases afZ j H.length with hlt|hge
  ·rw[afJ hlt]at hj;rw[afJ (by rw[hr.len];exact hlt)]at hgj;rcases h1 with h1|h1
   ·exact h1.2 j it g hj hl hgj
   ·exact λh=>by have:=((hr.items j it g hj hgj).blk hl h).2;omega
  ·rw[afW (by rw[hr.len];exact hge)]at hgj;have h4:=afV hgj;simp at h4;subst h4;exact h2
 refine⟨G++[v],An hr hb hg ⟨css,hown,aU (λl y h=>Ty.rd_keep ⟨afs _,hav,λ_ _ _=>rfl⟩ h) hcs,he⟩,hf.keep λs v h=>du hr hst h,?_,HK hr hb hg fl st ap⟩;show(G++[v])[H.length]?=some v;rw[afW (by rw[hr.len];exact afs _),hr.len,ahR];rfl
end
end
section
theorem mh{P:Program}{g:Nat}(hc:dJ P g=true)(ρ:Operand->Value)(o:Oper)(f:Operand)(args:Array Operand)(tys:Array TypeId)(caps:Array Value)(ho:o.op=.call ⟨.value f,args,tys⟩)(hf:ρ f=.func (.func g) #[] caps)(w:World):
  (execOp ρ o).run P w=.ok (.enter g (args.map ρ++caps)) w:=by
 unfold dJ at hc;split at hc
 ·rename_i fn hfn;simp only[afr]at hc;have hb:¬fn.body=none:=λh=>by rw[h]at hc;simp at hc
  have hn : ¬ fn.name = "runtime.NumGoroutine" := by simpa using hc.1
  simp[execOp,ho,resolve,hf,Deferred.ofValue,invoke,callFunc,hfn,hn,hb]
 grind
section
variable {Z:Nat->Prop} {w0:World} {n:Nat} {L L':SL} {H H':List Item} {G:List Value} {w:World} {a:Act} {P:Program} {T:TT} {R:Type}
theorem kz{fl:Nat}:∀{ops:List Operand} {L:SL} {H:List Item},SR Z w0 H G w->FR Z n L H G w a->oG fl ops L H=some (L',H')->SR Z w0 H' G w/\FR Z n L' H' G w a/\(∀s v,Rel1 G (Av Z H G) w s v->(∀j,s.of1 j=true->j<fl)->Rel1 G (Av Z H' G) w s v)/\(∀b,jf H' G b->jf H G b)/\H.length=H'.length
 |[],L,H,hr,hf,h=>by
  simp only[oG,afv,afX]at h;obtain⟨rfl,rfl⟩:=h;exact⟨hr,hf,λs v h _=>h,λb h=>h,rfl⟩
 |x::r,L,H,hr,hf,h=>by
  simp only[oG]at h;split at h
  ·rename_i j hs;split at h<;>try (cases h;done)
   rename_i L1 H1 hg;unfold uD at hg;split at hg<;>try (cases hg;done)
   rename_i et e xs hfl hj;simp only[afv,afX]at hg;obtain⟨rfl,rfl⟩:=hg;obtain⟨h1,h2⟩:=yL hr hj;obtain⟨g1,g2,g3,g4,g5⟩:=kz h1 (hf.map h2) h;have hfl:=aft hfl;refine⟨g1,g2,λs v hsv hlt=>?_,λb hb=>?_,by rw[<-g5];simp⟩
   ·have:fz j e xs s=s:=by
     unfold fz;cases hof:s.of1 j with
     |true=>have:=hlt j hof;omega
     |false=>rfl
    refine g3 s v ?_ hlt;have:=h2 s v hsv;rwa [‹fz j e xs s=s›]at this
   ·obtain⟨i,et',e',xs',g',k1,k2,k3⟩:=g4 b hb;rw[af9]at k1;split at k1
    ·split at k1<;>cases k1
    ·rw[agd]at k1;cases hh:H[i]? with
     |none=>rw[hh]at k1;cases k1
     |some it=>
      rw[hh]at k1;cases it with
      |box t cs=>simp[jg]at k1
      |gone=>simp[jg]at k1
      |len=>simp[jg]at k1
      |row a1 a2 a3=>
       simp only[jg,agt,afv]at k1;exact⟨i,et',e',xs',g',by rw[hh,k1],k2,k3⟩
  ·rename_i j _ _ _ hs;split at h<;>try (cases h;done)
   rename_i L1 H1 hg;unfold uD at hg;split at hg<;>try (cases hg;done)
   rename_i et e xs hfl hj;simp only[afv,afX]at hg;obtain⟨rfl,rfl⟩:=hg;obtain⟨h1,h2⟩:=yL hr hj;obtain⟨g1,g2,g3,g4,g5⟩:=kz h1 (hf.map h2) h;have hfl:=aft hfl;refine⟨g1,g2,λs v hsv hlt=>?_,λb hb=>?_,by rw[<-g5];simp⟩
   ·have:fz j e xs s=s:=by
     unfold fz;cases hof:s.of1 j with
     |true=>have:=hlt j hof;omega
     |false=>rfl
    refine g3 s v ?_ hlt;have:=h2 s v hsv;rwa [‹fz j e xs s=s›]at this
   ·obtain⟨i,et',e',xs',g',k1,k2,k3⟩:=g4 b hb;rw[af9]at k1;split at k1
    ·split at k1<;>cases k1
    ·rw[agd]at k1;cases hh:H[i]? with
     |none=>rw[hh]at k1;cases k1
     |some it=>
      rw[hh]at k1;cases it with
      |box t cs=>simp[jg]at k1
      |gone=>simp[jg]at k1
      |len=>simp[jg]at k1
      |row a1 a2 a3=>
       simp only[jg,agt,afv]at k1;exact⟨i,et',e',xs',g',by rw[hh,k1],k2,k3⟩
  ·exact kz hr hf h
theorem Wp{fl:Nat}{o:Oper}(hr:SR Z w0 H G w)(hf:FR Z n L H G w a)(h:fzB fl o L H=some (L',H')):SR Z w0 H' G w/\FR Z n L' H' G w a/\(∀s v,Rel1 G (Av Z H G) w s v->(∀j,s.of1 j=true->j<fl)->Rel1 G (Av Z H' G) w s v)/\(∀b,jf H' G b->jf H G b)/\H.length=H'.length:=by
 unfold fzB at h;split at h
 ·grind [kz]
 grind
theorem Chg.after{fl:Nat}{st ap:Bool}{H1:List Item}{G':List Value}{w':World}(h1:∀s v,Rel1 G (Av Z H G) w s v->(∀j,s.of1 j=true->j<fl)->Rel1 G (Av Z H' G) w s v)(h2:∀b,jf H' G b->jf H G b)(h3:H.length=H'.length)(h:Chg Z fl st ap H' G w H1 G' w'):Chg Z fl st ap H G w H1 G' w':=
 ⟨λs v hsv hlt=>h.pres s v (h1 s v hsv hlt) hlt,h.agr.imp id λ⟨g1,g2⟩=>⟨⟨g1.1,λb hb hor=>g1.2 b hb (hor.imp id λhn hx=>hn (h2 b hx))⟩,λb hb hx=>h2 b (g2 b hb hx)⟩,by rw[h3];exact h.len⟩
theorem kG{ss0:List SV}(hr:SR Z w0 H G w){A:Nat->Prop}(hA:∀b,b<w.heap.size->Av Z H G b->A b)(hAj:(∀(j:Nat) g b,G[j]?=some g->bG g=some b->(∃et e xs,H[j]?=some (.row et e xs))->A b)\/∀s∈ss0,s.noOwn=true):∀{ss al:List SV} {tys:List Nat} {vs:List Value},(∀s∈ss,s∈ss0)->gL T H ss tys=some al->b9 (Rel G (Av Z H G) w) ss vs->b9 (Rel1 [] A w) al vs
 |[],al,[],[],_,h,_=>by simp only[gL,afv]at h;subst h;trivial
 |[],al,_::_,_,_,h,_=>by simp[gL]at h
 |_::_,al,[],_,_,h,_=>by simp[gL]at h
 |s::ss,al,t::ts,v::vs,hss,h,⟨h1,h2⟩=>by
  simp only[gL]at h;split at h<;>try (cases h;done)
  rename_i r0 hr0;have ih:=kG hr hA hAj (λs hs=>hss s (by simp[hs])) hr0 h2;have hk:Keeps (Av Z H G) A w w:=⟨afs _,hA,λ_ _ _=>rfl⟩
  split at h
  ·rename_i t x;injection h with h;subst h;obtain⟨cs,g1,g2⟩:=h1;exact⟨⟨cs,Ty.rd_keep hk g1,g2⟩,ih⟩
  ·split at h<;>try (cases h;done)
   split at h<;>try (cases h;done)
   injection h with h;subst h;exact⟨⟨[v],by rw[show v=.slice none 0 0 from h1];exact wT,rfl⟩,ih⟩
  ·rename_i j;split at h<;>try (cases h;done)
   rename_i et e xs hj;injection h with h;subst h;rcases hAj with hAj|hno
   ·exact⟨⟨[v],Mv hr hj h1 hA (λb hb=>hAj j _ b h1 hb ⟨_,_,_,hj⟩),rfl⟩,ih⟩
   ·have:=hno (.own j) (hss _ (by simp));cases this
  ·rename_i e xs;injection h with h;subst h;obtain⟨p,g1,rfl⟩:=h1;exact⟨⟨_,Ty.rd_keep hk g1,rfl⟩,ih⟩
  ·rename_i j sz lo n0;split at h<;>try (cases h;done)
   rename_i et e xs hj;split at h<;>try (cases h;done)
   rename_i hsz;have hsz:=afq hsz;subst hsz;injection h with h;subst h;rcases hAj with hAj|hno
   ·exact⟨⟨[v],Nw hr hj h1 hA (λg b hg hb=>hAj j g b hg hb ⟨_,_,_,hj⟩),rfl⟩,ih⟩
   ·have:=hno (.osl j e.n lo n0) (hss _ (by simp));cases this
  ·cases h
theorem AG{H':List Item}:∀{l:List SV} {ts:List Nat},l.all SV.noOwn=true->gL T H l ts=gL T H' l ts
 |[],[],_=>rfl
 |[],_::_,_=>rfl
 |_::_,[],_=>rfl
 |s::l,t::ts,h=>by
  simp only[ahE,afr]at h;have ih:=AG (H':=H') (ts:=ts) h.2;simp only[gL];rw[ih];cases s<;>first|rfl|(have:=h.1;cases this)
theorem zp{s:SV}{t:Nat}{l al:List SV}{ts:List Nat}(h:gL T H (s::l) (t::ts)=some al):∃x r,al=x::r/\gL T H l ts=some r/\gL T H [s] [t]=some [x]:=by
 simp only[gL]at h ⊢;split at h<;>try (cases h;done)
 rename_i r hr;rw[hr];cases s<;>dsimp only at h ⊢ <;>(repeat' split at h)<;>first|(cases h;done)|(injection h with h;subst h;exact⟨_,_,rfl,rfl,by simp only[*]⟩)
theorem B9(hr:SR Z w0 H G w):∀{p:Nat} {ss al:List SV} {tys:List Nat} {vs:List Value},qm p ss=true->gL T (H.map rdI) ss tys=some al->b9 (Rel G (Av Z H G) w) ss vs->Re (Av Z H G) w p al vs
 |0,[],_,_,_,h,_,_=>by simp[qm]at h
 |_+1,[],_,_,_,h,_,_=>by simp[qm]at h
 |_,_::_,_,[],_,_,h,_=>by simp[gL]at h
 |0,s::l,al,t::ts,v::vs,h,ha,⟨h1,h2⟩=>by
  cases s<;>try (simp[qm]at h;done)
  rename_i j;have h:l.all SV.noOwn=true:=h;obtain⟨x,r,rfl,g1,g2⟩:=zp ha;rw[AG (H':=H) h]at g1;refine⟨?_,kG (ss0:=l) hr (λ_ _ h=>h) (.inr λs hs=>afI.1 h s hs) (λ_ h=>h) g1 h2⟩;simp only[gL]at g2;split at g2<;>try (cases g2;done)
  rename_i et e xs hj;injection g2 with g2;injection g2 with g2;subst g2;obtain⟨css,et',ho,hrd,hn⟩:=hr.read hj h1;refine⟨e,xs,et',css,rfl,ho,hrd,hn,λb hb hA=>?_⟩;obtain⟨_,it,k1,k2⟩:=hr.rblk hj h1 hb;exact hA.2 j it v k1 k2 h1 hb
 |p+1,s::l,al,t::ts,v::vs,h,ha,⟨h1,h2⟩=>by
  simp only[qm,afr]at h;obtain⟨x,r,rfl,g1,g2⟩:=zp ha;refine⟨?_,B9 hr h.2 g1 h2⟩;have hs:[s].all SV.noOwn=true:=by simp[h.1]
  rw[AG (H':=H) hs]at g2;exact(kG (ss0:=[s]) hr (λ_ _ h=>h) (.inr λs hs'=>afI.1 hs s hs') (λ_ h=>h) (vs:=[v]) g2 ⟨h1,trivial⟩).1
theorem Mg(hr:SR Z w0 H G w){b:Nat}(hb:w.heap.size<=b):Av Z H G b:=⟨hr.zf b (afA hr.below.size hb),λj it g h1 h2 h3 h4=>by have:=((hr.items j it g h1 h3).blk h2 h4).2;omega⟩
theorem KF{A:Nat->Prop}{t:Ty}{x:t.D}{v:Value}{G':List Value}{A':Nat->Prop}{w':World}(hfl:t.flat=true)(h:Rel1 [] A w (.d t x) v):Rel1 G' A' w' (.d t x) v:=by
 obtain⟨cs,h1,h2⟩:=h;refine⟨cs,?_,h2⟩;rw[oW hfl h1];grind [n8]
theorem jK(hr:SR Z w0 H G w)(hf:FR Z n L H G w a){A:Nat->Prop}{w':World}{rs:List RV}{v:Value}{k:SV->List Item->Option R}{r:R}(hb:Below w.heap.size w w')(hres:mq (λb=>A b\/w.heap.size<=b) w.heap.size w' rs v)
  (hA:(∀b,b<w.heap.size->A b->Av Z H G b)\/AM rs=true) (h:qg H rs k=some r) (fl:Nat) (st ap:Bool):
  ∃s H' G',k s H'=some r/\SR Z w0 H' G' w'/\FR Z n L H' G' w' a/\Rel G' (Av Z H' G') w' s v/\Chg Z fl st ap H G w H' G' w':=by
 have hsg:=ur hr hb;have hsr:=GZ hr hb;have hfr:FR Z n L H G w' a:=hf.keep λs v h=>du hr hsg h;have hchg:Chg Z fl st ap H G w H G w':=⟨λs v h _=>du hr hsg h,.inr ⟨⟨hb.size,λb h1 _=>hb.block b h1⟩,λb _ h=>h⟩,afs _⟩
 have one:∀{t:Ty} {x:t.D} {v:Value},Rel1 [] (λb=>A b\/w.heap.size<=b) w' (.d t x) v->((∀b,b<w.heap.size->A b->Av Z H G b)\/t.flat=true)->Rel1 G (Av Z H G) w' (.d t x) v:=by
  intro t x v h hor;rcases hor with hA|hfl
  ·obtain⟨cs,h1,h2⟩:=h;refine⟨cs,Ty.rd_keep ⟨afs _,λb _ hb'=>?_,λ_ _ _=>rfl⟩ h1,h2⟩;rcases afZ b w.heap.size with hlt|hge
   ·exact hb'.elim (hA b hlt) (λh=>by omega)
   ·exact Mg hr hge
  ·exact KF hfl h
 unfold qg at h;split at h
 ·rename_i et e xs;obtain⟨css,h1,h2,h3⟩:=hres
  have h2':b9 (λl y=>e.rd (λb=>(Av Z H G b\/w.heap.size<=b)/\bG v≠some b) w' l y) css xs:=by
   rcases hA with hA|hfl
   ·refine aU (λl y h=>Ty.rd_keep ⟨afs _,λb _ hb'=>?_,λ_ _ _=>rfl⟩ h) h2;refine⟨?_,hb'.2⟩;rcases afZ b w.heap.size with hlt|hge
    ·exact hb'.1.elim (λh=>.inl (hA b hlt h)) (λh=>by omega)
    ·exact .inr hge
   ·have hfl:e.flat=true:=hfl;exact aU (λl y h=>by rw[oW hfl h];exact n8 hfl) h2
  obtain⟨G',g1,g2,g3,g4⟩:=lw hr hf hb h1 h3 h2' fl st ap;exact⟨_,_,G',h,g1,g2,g3,g4⟩
 ·rename_i t x;exact⟨_,_,G,h,hsr,hfr,d7 (one hres (hA.imp id λh=>by simpa [AM,RV.flat]using h)),hchg⟩
 ·rename_i hn1 hn2;split at h<;>try (cases h;done)
  rename_i l hl;refine⟨_,_,G,h,hsr,hfr,?_,hchg⟩
  have hres':∃vs:List Value,v=.tuple vs.toArray/\∃l,rvS rs=some l/\b9 (Rel1 [] (λb=>A b\/w.heap.size<=b) w') l vs:=by
   unfold mq at hres;split at hres
   ·exact(hn1 _ _ _ rfl).elim
   ·exact(hn2 _ _ rfl).elim
   ·exact hres
  obtain⟨vs,h1,l',h2,h3⟩:=hres';rw[hl]at h2;injection h2 with h2;subst h2;refine⟨vs,h1,?_⟩
  replace hA:(∀b,b<w.heap.size->A b->Av Z H G b)\/rs.all RV.flat=true:=hA.imp id λh=>by
   unfold AM at h;split at h
   ·exact(hn1 _ _ _ rfl).elim
   ·exact h
  clear h hres hn1 hn2 h1;induction rs generalizing l vs with
  |nil=>simp only[rvS,afv]at hl;subst hl;cases vs<;>exact h3
  |cons q rs ih=>
   have hA':(∀b,b<w.heap.size->A b->Av Z H G b)\/(q.flat=true/\rs.all RV.flat=true):=hA.imp id λh=>by simpa using h
   cases q with
   |d t x=>
    simp only[rvS]at hl;split at hl<;>try (cases hl;done)
    rename_i l2 hl2;injection hl with hl;subst hl;match vs,h3 with
    |v1::vs,⟨q1,q2⟩=>exact⟨one q1 (hA'.imp id λh=>h.1),ih l2 hl2 vs q2 (hA'.imp id λh=>h.2)⟩
   |new et e xs=>
    simp only[rvS]at hl;split at hl<;>try (cases hl;done)
    rename_i l2 hl2;injection hl with hl;subst hl;match vs,h3 with
    |v1::vs,⟨q1,q2⟩=>
     refine⟨?_,ih l2 hl2 vs q2 (hA'.imp id λh=>h.2)⟩;rcases hA' with hA'|hA'
     ·exact one q1 (.inl hA')
     ·simp[RV.flat]at hA'
end
end
end Go.Proofs.YtagbmoohboleaaaGreat
end
