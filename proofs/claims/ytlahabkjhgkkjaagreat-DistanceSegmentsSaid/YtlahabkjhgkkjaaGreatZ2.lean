/- The pure machine's quiet operations are the machine's. -/
import Derived.Test.YtlahabkjhgkkjaaGreatZ1
import Derived.Lib.LazyBuf
import Derived.Laws.OwnMore
namespace Go.Proofs.YtlahabkjhgkkjaaGreat
open Go.RowKit
structure FR (Z:Nat→Prop) (n:Nat) (L:SL) (H:List Item) (G:List Value) (w:World) (a:Act):Prop where
 defers:a.defers=[]
 size:a.tmps.size=n
 slot:∀t s,aV L t=some s→∃v,a.tmps[t]?=some v∧Rel G (Av Z H G) w s v
def gK(H:List Item)(G:List Value)(b:Nat):Prop:=∃(j:Nat) (et:TypeId) (e:Ty) (xs:List e.D) (g:Value),H[j]?=some (.row et e xs)∧G[j]?=some g∧bL g=some b
def Agr(rw:Bool)(H:List Item)(G:List Value)(w w':World):Prop:=w.heap.size≤w'.heap.size∧∀b,b<w.heap.size→(rw=true∨¬gK H G b)→w'.heap[b]?=w.heap[b]?
theorem Agr.refl{rw:Bool}{H:List Item}{G:List Value}{w:World}:Agr rw H G w w:=⟨Nat.le_refl _,fun _ _ _=>rfl⟩
theorem dm{G:List Value}{A:Nat→Prop}{w:World}{s:SV}{v:Value}(h:Rel1 G A w s v):Rel G A w s v:=by cases s<;>first|exact h|exact h.elim
theorem kD{G:List Value}{A:Nat→Prop}{w:World}{s:SV}{v:Value}(h:Rel G A w s v)(hg:∀l,s≠.tup l):Rel1 G A w s v:=by cases s<;>first|exact h|exact(hg _ rfl).elim
section
variable {G:List Value} {A:Nat→Prop} {w:World}
theorem pR{v:Value}{s:SV}(h:kR v=some s):Rel1 G A w s v:=by
 unfold kR at h
 split at h<;>first|(injection h with h;subst h;exact⟨[_],rfl,rfl⟩)|cases h
theorem D8{v:Value}{s:SV}(h:kR v=some s):∃t x,s=.d t x∧t.isSt=false∧t.n=1:=by
 unfold kR at h
 split at h<;>first|(injection h with h;subst h;exact⟨_,_,rfl,rfl,rfl⟩)|cases h
theorem C2{v:Value}{t:Ty}{x:t.D}(h:kR v=some (.d t x)):t.rd A w [v] x:=by
 obtain⟨t',x',e,h1,h2⟩:=D8 h
 injection e with e1 e2
 subst e1
 exact DJ h1 h2 (pR (G:=[]) h)
theorem vn:∀{l:List Value} {t:Ty} {x:t.D},pU l=some ⟨t,x⟩→t.rd A w l x
 |[],t,x,h=>by simp[pU]at h
 |[v],t,x,h=>by
  simp only[pU]at h
  split at h
  ·rename_i t' x' hv
   injection h with h
   cases h
   exact C2 hv
  ·cases h
 |v::u::l,t,x,h=>by
  simp only[pU]at h
  split at h
  ·rename_i t1 x1 t2 x2 h1 h2
   injection h with h
   cases h
   exact⟨[v],u::l,rfl,C2 h1,vn h2⟩
  ·cases h
theorem Ez{v:Value}{s:SV}(h:Gu v=some s):Rel1 G A w s v:=by
 unfold Gu at h
 split at h
 ·injection h with h;subst h;rfl
 ·split at h
  ·rename_i cs t x hc
   injection h with h
   subst h
   refine⟨_,vn (t:=t) hc,?_⟩
   simp[mkV,Ty.isSt]
  ·cases h
 ·exact pR h
end
section
variable {Z:Nat→Prop} {w0:World} {n:Nat} {L:SL} {H:List Item} {G:List Value} {w:World} {a:Act}
theorem aW(hf:FR Z n L H G w a){x:Operand}{s:SV}(h:opS L x=some s):Rel G (Av Z H G) w s (a.eval x):=by
 cases x with
 |tmp t=>
  obtain⟨v,h1,h2⟩:=hf.slot t s h
  simpa [Act.eval,Array.getD_eq_getD_getElem?,h1]using h2
 |const v=>exact dm (Ez h)
 |global g=>simp[opS]at h
 |func f=>simp only[opS,Option.some.injEq]at h;subst h;exact⟨[],trivial,rfl⟩
theorem val?_rel{s:SV}{v u:Value}{A:Nat→Prop}(h:Rel G A w s u)(hv:val? s=some v):u=v:=by
 unfold val? at hv
 split at hv
 ·rename_i t x
  split at hv
  ·rename_i hfl
   injection hv with hv
   obtain⟨cs,h1,h2⟩:=h
   rw[h2,←hv,mQ hfl h1]
  ·cases hv
 ·cases hv
theorem RD(hf:FR Z n L H G w a){x:Operand}(h:(match opS L x with|some s=>(val? s).isSome|none=>false)=true):a.eval x=opV L x:=by
 unfold opV
 cases hs:opS L x with
 |none=>rw[hs]at h;cases h
 |some s=>
  rw[hs]at h
  dsimp only at h ⊢
  obtain⟨v,hv⟩:=Option.isSome_iff_exists.1 h
  rw[hv]
  exact val?_rel (aW hf hs) hv
theorem Nw(hf:FR Z n L H G w a){o:Oper}(h:yl L o.op=true):execOp a.eval o=execOp (opV L) o:=by
 simp only[yl,Bool.and_eq_true]at h
 refine execOp_congr o (fun cs b e=>?_) (fun x hx=>RD hf (List.all_eq_true.1 h.1 x (by simpa using hx)))
 rw[e]at h;simp at h
theorem xT{P:Program}{R:Type}{o:Oper}{k:SV→Option R}{r:R}(hf:FR Z n L H G w a)(h:jj P L o k=some r):
  ∃s v,k s=some r∧Rel1 G (Av Z H G) w s v∧∀w',(execOp a.eval o).run P w'=.ok (.value v) w':=by
 unfold jj at h
 split at h
 ·cases h
 ·rename_i hfl
  rw[Nw hf hfl]
  have gen:(match evT P (execOp (opV L) o) []with
    |some (.value v,[])=>match kR v with|some s=>k s|none=>none
    |_=>none)=some r→∃s v,k s=some r∧Rel1 G (Av Z H G) w s v∧∀w',(execOp (opV L) o).run P w'=.ok (.value v) w':=by
   intro h
   split at h
   ·rename_i v he
    split at h
    ·rename_i s hs
     exact⟨s,v,h,pR hs,fun w'=>Lp _ _ _ _ he trivial⟩
    ·cases h
   ·cases h
  obtain⟨dst,op,type,pos,after,guard⟩:=o
  dsimp only at h
  split at h
  case h_7=>exact gen h
  ·rename_i t x y yt
   split at h<;>try (cases h;done)
   all_goals
    rename_i p q hp hq
    split at h<;>try (cases h;done)
    rename_i hb
    have hb:=of_decide_eq_false hb
    refine⟨_,_,h,⟨[_],rfl,rfl⟩,fun w'=>?_⟩
    simp[execOp,hp,hq,eqGuard,binOp,Op.intDiv,hb,mkV,Ty.isSt]
  ·rename_i t x y yt
   split at h<;>try (cases h;done)
   all_goals
    rename_i p q hp hq
    split at h<;>try (cases h;done)
    rename_i hb
    have hb:=of_decide_eq_false hb
    refine⟨_,_,h,⟨[_],rfl,rfl⟩,fun w'=>?_⟩
    simp[execOp,hp,hq,eqGuard,binOp,Op.intDiv,hb,mkV,Ty.isSt]
  ·rename_i t x y yt
   split at h<;>try (cases h;done)
   rename_i kd p kd' q hp hq
   split at h<;>try (cases h;done)
   rename_i hb
   have hb:=of_decide_eq_false hb
   refine⟨_,_,h,⟨[_],rfl,rfl⟩,fun w'=>?_⟩
   simp[execOp,hp,hq,eqGuard,binOp,Op.shift,hb,mkV,Ty.isSt]
  ·rename_i t x y yt
   split at h<;>try (cases h;done)
   rename_i kd p kd' q hp hq
   split at h<;>try (cases h;done)
   rename_i hb
   have hb:=of_decide_eq_false hb
   refine⟨_,_,h,⟨[_],rfl,rfl⟩,fun w'=>?_⟩
   simp[execOp,hp,hq,eqGuard,binOp,Op.shift,hb,mkV,Ty.isSt]
  ·rename_i t x y yt
   split at h
   ·rename_i xs ys hx hy
    split at h<;>try (cases h;done)
    rename_i rr hg hr
    refine⟨_,_,h,⟨[_],rfl,rfl⟩,fun w'=>?_⟩
    simp only[execOp,hx,hy,Sem.run_bind,run_eqGuard_agg w' .eql t x y xs ys hg,Result.andThen_ok,run_eql_struct,ot _ _ _ _ _ w' hr,Sem.run_pure]
    rfl
   ·exact gen h
  ·rename_i t x y yt
   split at h
   ·rename_i xs ys hx hy
    split at h<;>try (cases h;done)
    rename_i rr hg hr
    refine⟨_,_,h,⟨[_],rfl,rfl⟩,fun w'=>?_⟩
    simp only[execOp,hx,hy,Sem.run_bind,run_eqGuard_agg w' .neq t x y xs ys hg,Result.andThen_ok,run_neq_struct,ot _ _ _ _ _ w' hr,Sem.run_pure]
    rfl
   ·exact gen h
end
end Go.Proofs.YtlahabkjhgkkjaaGreat
namespace Go.Proofs.YtlahabkjhgkkjaaGreat
open Go.RowKit
theorem kQ{P:Program}(w:World)(b o:Nat)(ty:TypeId)(v:Value)(d:TypeDesc)(hc:w.cell? ⟨b,o,none⟩=some v)(hu:P.underlying ty=some d)(hd:d.isRow=false):
  (Instr.loadAt ty (.pointer (some ⟨b,o,none⟩))).run P w=.ok v w:=by
 have hagg:(isAgg ty).run P w=.ok false w:=by
  unfold isAgg
  rw[Sem.run_bind,run_underlying hu w]
  cases d<;>simp_all
 have hl:(load ⟨b,o,none⟩).run P w=.ok v w:=by simp only[load,Sem.run,hc]
 simp only[Instr.loadAt,Instr.sureAddr,loadVar,Sem.run_bind,Sem.run_pure,Result.andThen_ok,hagg,Bool.false_eq_true,if_false]
 exact hl
theorem jl{P:Program}{t:Nat}{i:TI}(hc:chk P t i=true)(w:World)(b o:Nat)(cs:List Value)(hl:cs.length=i.ty.n)(hn:i.ty.isSt=false→i.ty.n=1)(hcs:gn w b o cs):
  (Instr.loadAt t (.pointer (some ⟨b,o,none⟩))).run P w=.ok (mkV i.ty cs) w:=by
 obtain⟨d,h1,h2⟩:=HL hc
 have hsz:=BU hc
 cases hst:i.ty.isSt with
 |true=>
  rw[hst]at h2
  rw[run_loadAt_mid w b o t cs d hcs h1 h2 (by rw[hsz,hl])]
  simp[mkV,hst]
 |false=>
  rw[hst]at h2
  have hl1:=hn hst
  match cs,hl with
  |[v],_=>rw[kQ w b o t v d (by simpa using hcs 0 v rfl) h1 h2];simp[mkV,hst]
  |[],hl=>rw[hl1]at hl;simp at hl
  |_::_::_,hl=>rw[hl1]at hl;simp at hl
theorem lZ{P:Program}{t f:Nat}{i:TI}{p:Nat×Nat}(hc:chk P t i=true)(hp:i.pl[f]?=some p)(w:World)(b o:Nat):
  (Instr.fieldAt t (.pointer (some ⟨b,o,none⟩)) f).run P w=.ok (.pointer (some ⟨b,o+p.1,none⟩)) w:=by
 obtain⟨fs,fl,inf,h1,h2,h3,h4,h5⟩:=MP hc hp
 simp[Instr.fieldAt,run_underlying h1,h2,Instr.sureAddr,fieldPlace,sizeOf,typeInfo,h4,h5,cZ,h3]
theorem iX{sz:Nat}:∀{css:List (List Value)} {n i:Nat} {l:List Value} {v:Value},(∀l∈css,l.length=sz)→css[n]?=some l→l[i]?=some v→css.flatten[n*sz+i]?=some v
 |[],_,_,_,_,_,h,_=>by simp at h
 |c::css,0,i,l,v,hl,h,hv=>by
  simp at h;subst h
  rw[List.flatten_cons,Nat.zero_mul,Nat.zero_add,List.getElem?_append_left (List.getElem?_eq_some_iff.1 hv).1]
  exact hv
 |c::css,n+1,i,l,v,hl,h,hv=>by
  have hc:c.length=sz:=hl c (by simp)
  rw[List.flatten_cons,List.getElem?_append_right (by rw[hc,Nat.succ_mul];omega),hc,show(n+1)*sz+i-sz=n*sz+i by rw[Nat.succ_mul];omega]
  exact iX (fun l hm=>hl l (by simp[hm])) (by simpa using h) hv
theorem eV{A:Nat→Prop}{w:World}{e:Ty}:∀{css:List (List Value)} {xs:List e.D},b9 (fun l y=>e.rd A w l y) css xs→∀l∈css,l.length=e.n
 |[],[],_,l,h=>by simp at h
 |c::css,x::xs,⟨h1,h2⟩,l,h=>by
  rcases List.mem_cons.1 h with rfl|h
  ·exact Ty.rd_len h1
  ·exact eV h2 l h
theorem gG{sz:Nat}:∀{css:List (List Value)},(∀l∈css,l.length=sz)→css.flatten.length=css.length*sz
 |[],_=>by simp
 |c::css,h=>by rw[List.flatten_cons,List.length_append,gG (fun l hm=>h l (by simp[hm])),h c (by simp),List.length_cons,Nat.succ_mul];omega
theorem fB{sz:Nat}:∀{css:List (List Value)} (n:Nat),(∀l∈css,l.length=sz)→(css.take n).flatten=css.flatten.take (n*sz)
 |[],n,_=>by simp
 |c::css,0,_=>by simp
 |c::css,n+1,h=>by
  have hc:=h c (by simp)
  rw[List.take_succ_cons,List.flatten_cons,fB n (fun l hm=>h l (by simp[hm])),List.flatten_cons,List.take_append,hc,List.take_of_length_le (l:=c) (by rw[hc,Nat.succ_mul];omega),show(n+1)*sz-sz=n*sz by rw[Nat.succ_mul];omega]
theorem fF{sz:Nat}:∀{css:List (List Value)} (n:Nat),(∀l∈css,l.length=sz)→(css.drop n).flatten=css.flatten.drop (n*sz)
 |[],n,_=>by simp
 |c::css,0,_=>by simp
 |c::css,n+1,h=>by
  have hc:=h c (by simp)
  rw[List.drop_succ_cons,List.flatten_cons,fF n (fun l hm=>h l (by simp[hm])),List.drop_append,hc,(List.drop_eq_nil_of_le (by rw[hc,Nat.succ_mul];omega):c.drop ((n+1)*sz)=[]),List.nil_append,show(n+1)*sz-sz=n*sz by rw[Nat.succ_mul];omega]
section
variable {Z:Nat→Prop} {w0:World} {n:Nat} {L:SL} {H:List Item} {G:List Value} {w:World} {a:Act} {P:Program} {T:TT}
theorem Agr.pure{rw:Bool}{w':World}(ha:Agr rw H G w w'){b:Nat}(hb:b<w.heap.size)(hA:Av Z H G b):w'.heap[b]?=w.heap[b]?:=
 ha.2 b hb (.inr fun⟨j,_et,_e,_xs,g,h1,h2,h3⟩=>hA.2 j _ g h1 rfl h2 h3)
theorem Agr.box{rw:Bool}{w':World}(ha:Agr rw H G w w')(hr:SR Z w0 H G w){j b:Nat}{t:TypeId}{cs:List SV}{g:Value}(hj:H[j]?=some (.box t cs))(hg:G[j]?=some g)(hb:bL g=some b):w'.heap[b]?=w.heap[b]?:=
 ha.2 b ((hr.items j _ g hj hg).blk rfl hb).2 (.inr fun⟨i,et,e,xs,h,h1,h2,h3⟩=>by
  by_cases hij:i=j
  ·subst hij;rw[hj]at h1;cases h1
  ·exact hr.disj i j _ _ h g b hij h1 hj rfl rfl h2 hg h3 hb)
theorem ky{w':World}{b o:Nat}{cs:List Value}(h:w'.heap[b]?=w.heap[b]?)(hc:gn w b o cs):gn w' b o cs:=fun i v hv=>(World.cell?_of_block (a:=⟨b,o+i,none⟩) h).trans (hc i v hv)
theorem LF{base et:Nat}{e:Ty}{g:Value}{m b c N:Nat}{css:List (List Value)}{l:List Value}{A:Nat→Prop}{xs:List e.D}(ho:w.ownsRow base et e.n g m css.flatten)(hg:g=.slice (some ⟨b,0,none⟩) N c)(ha:b9 (fun l y=>e.rd A w l y) css xs){k:Nat}(hk:css[k]?=some l):gn w b (k*e.n) l:=by
 intro i v hv
 have hf:=iX (eV ha) hk hv
 rcases ho.2 with⟨rfl,_⟩|⟨g',cap,cur,rfl,h1,h2,h3,h4,h5,h6⟩
 ·cases hg
 ·injection hg with hg
  injection hg with hg
  injection hg with hg
  subst hg
  rw[cell_of_row w _ _ cur et (0,0) h2]
  rw[←h6,List.getElem?_take]at hf
  split at hf
  ·rw[←Array.getElem?_toList];exact hf
  ·cases hf
theorem Zt{e t:Ty}{x:e.D}{off:Nat}{y:t.D}:e.sub x off t=some y→t.isSt=false→t.n=1:=by
 have lf:∀{e:Ty} {x:e.D} {off:Nat},e.n=1→(match Nat.beq off 0 with|true=>eE e t x|false=>none)=some y→t.n=1:=by
  intro e x off hn h
  split at h
  ·obtain⟨rfl,_⟩:=dd h;exact hn
  ·cases h
 induction e generalizing off with
 |int k=>exact fun h _=>lf rfl h
 |bool=>exact fun h _=>lf rfl h
 |str=>exact fun h _=>lf rfl h
 |sl e=>exact fun h _=>lf rfl h
 |st a ih=>
  intro h hs
  simp only[Ty.sub]at h
  split at h
  ·rename_i z h0 h1
   obtain⟨rfl,_⟩:=dd h1
   simp[Ty.isSt]at hs
  ·exact ih h hs
 |pair a b iha ihb=>
  intro h hs
  simp only[Ty.sub]at h
  split at h
  ·exact iha h hs
  ·exact ihb h hs
theorem BH(hr:SR Z w0 H G w){rw:Bool}{t:Nat}{i:TI}(hc:chk P t i=true){j off:Nat}{bt:TypeId}{cells:List SV}{p:Value}{s:SV}(hp:Rel G (Av Z H G) w (.box j off) p)(hj:H[j]?=some (.box bt cells))(hl:IF i.ty (cells.drop off)=some s):
  ∃v,Rel1 G (Av Z H G) w s v∧∀w',Agr rw H G w w'→(Instr.loadAt t p).run P w'=.ok v w':=by
 obtain⟨b,hg,rfl⟩:=hp
 obtain⟨b',vs,e1,hb,hblk,hrel⟩:=hr.items j _ _ hj hg
 injection e1 with e1
 injection e1 with e1
 injection e1 with e1
 subst e1
 have hcell:∀(cs:List Value),(∃r,vs.drop off=cs++r)→gn w b off cs:=by
  rintro cs ⟨r,hcs⟩ k v hv
  refine hblk.cell _ ?_
  have:(vs.drop off)[k]?=some v:=by rw[hcs,List.getElem?_append_left (List.getElem?_eq_some_iff.1 hv).1];exact hv
  rw[List.getElem?_drop]at this
  simpa using this
 have hd:=im off hrel
 unfold IF at hl
 split at hl
 ·rename_i hst
  split at hl
  ·rename_i x r hjn
   injection hl with hl
   subst hl
   obtain⟨v1,v2,h1,h2,_⟩:=ml hjn hd
   refine⟨mkV i.ty v1,⟨v1,h2,rfl⟩,fun w' ha=>?_⟩
   exact jl hc w' b off v1 (Ty.rd_len h2) (fun h=>by rw[hst]at h;cases h) (ky (ha.box hr hj hg rfl) (hcell v1 ⟨v2,h1⟩))
  ·cases hl
 ·rename_i hst
  split at hl
  ·rename_i s' r hdr
   split at hl<;>try (cases hl;done)
   rename_i hgood
   injection hl with hl
   subst hl
   rw[hdr]at hd
   match hv:vs.drop off,hd with
   |v::vr,hd=>
    obtain⟨h1,_⟩:=hd
    obtain⟨d,hu,hrow⟩:=HL hc
    refine⟨v,h1,fun w' ha=>?_⟩
    refine kQ w' b off t v d ?_ hu (by rw[hrow,hst])
    have:=ky (ha.box hr hj hg rfl) (hcell [v] ⟨vr,hv⟩) 0 v rfl
    simpa using this
  ·cases hl
theorem Qv{rw:Bool}{t:Nat}{i:TI}(hc:chk P t i=true){e:Ty}{x:e.D}{off:Nat}{p:Value}{y:i.ty.D}(hp:Rel G (Av Z H G) w (.elt e x off) p)(hs:e.sub x off i.ty=some y):
  ∃v,Rel1 G (Av Z H G) w (.d i.ty y) v∧∀w',Agr rw H G w w'→(Instr.loadAt t p).run P w'=.ok v w':=by
 obtain⟨b,o,cs,rfl,hA,hb,hrd,hcs⟩:=hp
 have h1:=Tk hrd hs
 refine⟨mkV i.ty _,⟨_,h1,rfl⟩,fun w' ha=>?_⟩
 refine jl hc w' b (o+off) _ (Ty.rd_len h1) (Zt hs) (ky (ha.pure hb hA) fun k v hv=>?_)
 rw[List.getElem?_take]at hv
 split at hv
 ·rw[List.getElem?_drop]at hv
  have:=hcs _ _ hv
  rwa [←Nat.add_assoc]at this
 ·cases hv
theorem MV(hr:SR Z w0 H G w){t:Nat}{i:TI}(hc:chk P t i=true){j k off:Nat}{et:TypeId}{e:Ty}{xs:List e.D}{x:e.D}{p:Value}{y:i.ty.D}(hp:Rel G (Av Z H G) w (.oelt j e.n k off) p)(hj:H[j]?=some (.row et e xs))(hx:xs[k]?=some x)(hs:e.sub x off i.ty=some y):
  ∃v,Rel1 G (Av Z H G) w (.d i.ty y) v∧∀w',Agr true H G w w'→(Instr.loadAt t p).run P w'=.ok v w':=by
 obtain⟨b,m,c,hg,rfl⟩:=hp
 have hit:=hr.items j _ _ hj hg
 obtain⟨css,ho,ha2,_⟩:=hit
 obtain⟨l,hl,hrd⟩:=lh ha2 k x hx
 have h1:=Tk hrd hs
 refine⟨mkV i.ty _,⟨_,h1,rfl⟩,fun w' ha=>?_⟩
 have hb:=((hr.items j _ _ hj hg).blk rfl rfl).2
 refine jl hc w' b (k*e.n+off) _ (Ty.rd_len h1) (Zt hs) (ky (ha.2 b hb (.inl rfl)) fun q v hv=>?_)
 rw[List.getElem?_take]at hv
 split at hv
 ·rw[List.getElem?_drop]at hv
  have:=LF ho rfl ha2 hl _ _ hv
  rwa [←Nat.add_assoc]at this
 ·cases hv
theorem iF{t:Nat}{i:TI}{e:Ty}(hc:chk P t i=true)(ht:i.ty=.sl e)(w:World)(b off len c:Nat)(kd:IntKind)(m:Int)(h0:0≤m)(h1:m<len):
  (Instr.indexAt t (.slice (some ⟨b,off,none⟩) len c) (.int kd m)).run P w=.ok (.pointer (some ⟨b,off+m.toNat*e.n,none⟩)) w:=by
 obtain⟨hu,_,j,hj,hjs,_⟩:=dl hc ht
 simp[Instr.indexAt,asIntOf,run_underlying hu,sizeOf,typeInfo,hj,h0,h1,cZ,hjs]
theorem uY{α:Type}{xs:List α}{m:Int}{y:α}(h:bw xs m=some y):0≤m∧m<xs.length∧xs[m.toNat]?=some y:=by
 unfold bw at h
 split at h
 ·rename_i h0
  have h0:=of_decide_eq_true h0
  have:=(List.getElem?_eq_some_iff.1 h).1
  exact⟨h0,by omega,h⟩
 ·cases h
theorem Sv{t:Nat}{i:TI}{e:Ty}(hc:chk P t i=true)(ht:i.ty=.sl e){xs:List e.D}{m:Int}{y:e.D}{p:Value}{kd:IntKind}(hp:Rel G (Av Z H G) w (.d (.sl e) xs) p)(hy:bw xs m=some y):
  ∃v,Rel1 G (Av Z H G) w (.elt e y 0) v∧∀w',(Instr.indexAt t p (.int kd m)).run P w'=.ok v w':=by
 obtain⟨cs,hrd,rfl⟩:=hp
 obtain⟨p,n,c,css,rfl,h1,h2,h3,h4,h5⟩:=hrd
 obtain⟨g1,g2,g3⟩:=uY hy
 obtain⟨b,off,rfl,hA,hb,hcs⟩:=h5 (by omega)
 obtain⟨l,hl,hrd⟩:=lh h4 _ _ g3
 refine⟨.pointer (some ⟨b,off+m.toNat*e.n,none⟩),⟨b,off+m.toNat*e.n,l,rfl,hA,hb,hrd,fun k v hv=>?_⟩,fun w'=>iF hc ht w' b off n c kd m g1 (by omega)⟩
 have:=hcs _ _ (iX (eV h4) hl hv)
 rwa [←Nat.add_assoc]at this
theorem dR{base et sz:Nat}{g:Value}{m:Nat}{cs:List Value}(h:w.ownsRow base et sz g m cs):(g=.slice none 0 0∧m=0)∨∃b c,g=.slice (some ⟨b,0,none⟩) m c:=by
 rcases h.2 with h|⟨g',cap,cur,rfl,_⟩
 ·exact .inl h
 ·exact .inr ⟨g',cap,rfl⟩
theorem NF(hr:SR Z w0 H G w){t:Nat}{i:TI}{e:Ty}(hc:chk P t i=true)(ht:i.ty=.sl e){et:TypeId}{xs:List e.D}{j:Nat}{m:Int}{y:e.D}{p:Value}{kd:IntKind}(hj:H[j]?=some (.row et e xs))(hp:Rel G (Av Z H G) w (.own j) p)(hy:bw xs m=some y):
  ∃v,Rel1 G (Av Z H G) w (.oelt j e.n m.toNat 0) v∧∀w',(Instr.indexAt t p (.int kd m)).run P w'=.ok v w':=by
 obtain⟨css,ho,_⟩:=hr.items j _ _ hj hp
 obtain⟨g1,g2,g3⟩:=uY hy
 rcases dR ho with⟨rfl,h0⟩|⟨b,c,rfl⟩
 ·omega
 ·refine⟨.pointer (some ⟨b,m.toNat*e.n,none⟩),⟨b,_,c,hp,rfl⟩,fun w'=>?_⟩
  have:=iF hc ht w' b 0 xs.length c kd m g1 (by omega)
  rwa [Nat.zero_add]at this
end
end Go.Proofs.YtlahabkjhgkkjaaGreat
namespace Go.Proofs.YtlahabkjhgkkjaaGreat
open Go.RowKit
def dh(cs:List Value):Nat→List Value→List Value
 |_,[]=>cs
 |off,s::r=>dh (cs.set off s) (off+1) r
theorem sY{R:SV→Value→Prop}:∀{l:List SV} {vs:List Value} {cs:List SV} {us:List Value} (off:Nat),b9 R l vs→b9 R cs us→b9 R (k9 cs off l) (dh us off vs)
 |[],[],_,_,_,_,h=>h
 |_::_,_::_,_,_,off,⟨h1,h2⟩,h=>sY (off+1) h2 (rQ off h h1)
theorem mh:∀{l:List Value} {cs:List Value} {off:Nat},(dh cs off l).length=cs.length
 |[],_,_=>rfl
 |_::r,_,_=>by simp[dh,mh (l:=r)]
theorem uU:∀(l:List Value) (off k:Nat) (cells:Array Value),((l.zipIdx k).foldl (fun(cs:Array Value) (x:Value×Nat)=>cs.setIfInBounds (off+x.2) x.1) cells).toList=dh cells.toList (off+k) l
 |[],_,_,_=>rfl
 |v::l,off,k,cells=>by
  rw[List.zipIdx_cons,List.foldl_cons,uU l off (k+1)]
  simp[dh,Nat.add_assoc]
theorem Ng(v:Value)(off:Nat)(cells:Array Value):(v.cells.zipIdx.foldl (fun(cs:Array Value) (x:Value×Nat)=>cs.setIfInBounds (off+x.2) x.1) cells).toList=dh cells.toList off v.cells.toList:=by
 have:=uU v.cells.toList off 0 cells
 rw[Nat.add_zero]at this
 rw[←this]
 congr 1
 obtain⟨l⟩:=v.cells
 simp
theorem pN{t:Ty}{A:Nat→Prop}{w:World}{cs:List Value}{x:t.D}(ht:∀a b,t≠.pair a b)(h:t.rd A w cs x):(mkV t cs).cells.toList=cs:=by
 cases t with
 |int k=>simp only[Ty.rd]at h;subst h;rfl
 |bool=>simp only[Ty.rd]at h;subst h;rfl
 |str=>simp only[Ty.rd]at h;subst h;rfl
 |sl e=>obtain⟨p,n,c,css,rfl,_⟩:=h;rfl
 |pair a b=>exact(ht a b rfl).elim
 |st a=>simp[mkV,Ty.isSt,Value.cells]
section
variable {Z:Nat→Prop} {w0:World} {n:Nat} {L:SL} {H:List Item} {G:List Value} {w:World} {a:Act} {P:Program} {T:TT}
theorem ni(hr:SR Z w0 H G w){s:SV}{v:Value}{l:List SV}(h:Rel G (Av Z H G) w s v)(hs:eK H s=some l):b9 (Rel1 G (Av Z H G) w) l v.cells.toList:=by
 unfold eK at hs
 split at hs
 ·cases hs
 ·rename_i t x hne
  injection hs with hs
  subst hs
  obtain⟨cs,h1,rfl⟩:=h
  rw[pN (fun a b e=>by subst e;exact hne a b x rfl HEq.rfl) h1]
  exact hJ h1
 ·split at hs
  ·rename_i j _ et e xs hj
   injection hs with hs
   subst hs
   obtain⟨css,ho,_⟩:=hr.items j _ _ hj h
   have hc:v.cells.toList=[v]:=by rcases dR ho with⟨rfl,_⟩|⟨b,c,rfl⟩<;>rfl
   rw[hc]
   exact⟨h,trivial⟩
  ·cases hs
 ·rename_i s' hn1 hn2 hn3
  split at hs<;>try (cases hs;done)
  rename_i hg
  injection hs with hs
  subst hs
  have hc:v.cells.toList=[v]:=by
   cases s with
   |d t x=>cases t<;>first|exact(hn1 _ _ _ rfl).elim|exact(hn2 _ _ rfl).elim
   |nil=>rw[show v=.slice none 0 0 from h];rfl
   |box j off=>obtain⟨b,_,rfl⟩:=h;rfl
   |elt e x off=>obtain⟨b,o,cs,rfl,_⟩:=h;rfl
   |own j=>exact(hn3 j rfl).elim
   |oelt j sz i off=>obtain⟨b,n,c,_,rfl⟩:=h;rfl
   |clo f caps=>obtain⟨bs,_,rfl⟩:=h;rfl
   |tup l=>simp[SV.good]at hg
   |undef=>simp[SV.good]at hg
   |dead=>simp[SV.good]at hg
   |cut e xs=>obtain⟨p,_,rfl⟩:=h;rfl
   |osl j sz lo n=>obtain⟨g,q,c,_,rfl,_⟩:=h;rfl
  rw[hc]
  exact⟨kD h (fun l e=>by subst e;simp[SV.good]at hg),trivial⟩
theorem pg(hr:SR Z w0 H G w)(hf:FR Z n L H G w a){place:Nat→Option (Nat×Nat)}:∀{parts:List (Nat×Operand)} {cs cs':List SV} {us:Array Value},m3 H L place cs parts=some cs'→b9 (Rel1 G (Av Z H G) w) cs us.toList→
  ∃us',Instr.fill place us (parts.map fun p=>(p.1,a.eval p.2))=some us'∧b9 (Rel1 G (Av Z H G) w) cs' us'.toList
 |[],cs,cs',us,h,ha=>by simp only[m3,Option.some.injEq]at h;subst h;exact⟨us,rfl,ha⟩
 |(i,x)::r,cs,cs',us,h,ha=>by
  simp only[m3]at h
  split at h
  ·rename_i off size s hp hs
   split at h<;>try (cases h;done)
   rename_i l hl
   split at h<;>try (cases h;done)
   rename_i hb
   simp only[Bool.and_eq_true]at hb
   have hv:=aW hf hs
   have hl2:=ni hr hv hl
   have hlen:(a.eval x).cells.size=l.length:=by have:=dE hl2;simpa using this.symm
   have hlu:cs.length=us.size:=by have:=dE ha;simpa using this
   obtain⟨us',h1,h2⟩:=pg hr hf (us:=((a.eval x).cells.zipIdx.foldl (fun(cs:Array Value) (x:Value×Nat)=>cs.setIfInBounds (off+x.2) x.1) us)) h (by rw[Ng];exact sY off hl2 ha)
   refine⟨us',?_,h2⟩
   have e1:=Nat.eq_of_beq_eq_true hb.1
   have e2:=Nat.le_of_ble_eq_true hb.2
   simp only[List.map_cons,Instr.fill,hp]
   rw[if_neg (by simp[hlen,e1];omega)]
   exact h1
  ·cases h
theorem Mv{t:Nat}{i:TI}(hc:chk P t i=true)(hz:i.z=true)(hst:i.ty.isSt=true)(parts:List (Nat×Value)):P.built t parts=Instr.fill (rl i i.el) (zc i.ty).toArray parts:=by
 obtain⟨inf,hi,hzero⟩:=td hc hz
 unfold chk at hc
 rw[hi]at hc
 cases hu:P.underlying t with
 |none=>rw[hu]at hc;cases hc
 |some d=>
  rw[hu]at hc
  simp only[Bool.and_eq_true]at hc
  have hc:=hc.2
  have hmk:(mkV i.ty (zc i.ty)).cells=(zc i.ty).toArray:=by simp[mkV,hst,Value.cells]
  unfold Program.built
  rw[hi,hu]
  match d,hc with
  |.struct fs,hc=>
   simp only[Bool.and_eq_true]at hc
   obtain⟨_,hc⟩:=hc
   split at hc
   ·rename_i pl hpl
    simp only[Bool.and_eq_true]at hc
    obtain⟨rfl,_⟩:=FI hc.1
    simp only[hzero,hpl,hmk]
    congr 1
    unfold rl
    rw[hc.2]
    funext k
    simp
   ·cases hc
  |.array m e,hc=>
   simp only[Bool.and_eq_true]at hc
   obtain⟨⟨⟨⟨_,h1⟩,h2⟩,h3⟩,h4⟩:=hc
   split at h4
   ·rename_i j hj
    simp only[hzero,hj,hmk,Nat.eq_of_beq_eq_true h4]
    unfold rl
    have e1:=Nat.eq_of_beq_eq_true h1
    have e2:=Nat.le_of_ble_eq_true h2
    have e3:Nat.beq i.len 0=false:=by rw[←e1];cases m<;>first|omega|rfl
    rw[e3]
   ·cases h4
  |.slice e,hc=>
   dsimp only at hc
   split at hc
   ·rename_i he _;rw[he]at hst;cases hst
   ·cases hc
  |.invalid,hc|.bool,hc|.int _,hc|.float _,hc|.complex _,hc|.string,hc|.pointer _,hc|.map _ _,hc|.chan _ _,hc|.func _ _ _,hc|.interface _,hc|.tuple _,hc|.named _ _,hc|.unsafePointer,hc=>
   simp only[Bool.and_eq_true]at hc
   have hc:=hc.2
   generalize i.ty=ty at*
   cases ty<;>simp_all [Ty.isSt]
theorem Pr{t:Nat}{i:TI}{e:Ty}(hc:chk P t i=true)(ht:i.ty=.sl e){xs:List e.D}{l h:Int}{p:Value}{lo hi:Option Value}(hp:Rel G (Av Z H G) w (.d (.sl e) xs) p)
  (hlo:(lo=none∧l=0)∨∃kd,lo=some (.int kd l)) (hhi:(hi=none∧h=xs.length)∨∃kd,hi=some (.int kd h)) (hb:0≤l∧l≤h∧h≤xs.length):
  ∃v,Rel1 G (Av Z H G) w (.d (.sl e) ((xs.take h.toNat).drop l.toNat)) v∧∀w',(Instr.sliceAt t p lo hi none).run P w'=.ok v w':=by
 obtain⟨cs,hrd,rfl⟩:=hp
 obtain⟨p,n,c,css,rfl,h1,h2,h3,h4,h5⟩:=hrd
 obtain⟨hu,_,j,hj,hjs,_⟩:=dl hc ht
 obtain⟨b1,b2,b3⟩:=hb
 have hel:P.elem t=i.el:=by simp[Program.elem,hu]
 have hu':P.underlying t=some (.slice (P.elem t)):=by rw[hel];exact hu
 have hsz:∀w',(sizeOf (P.elem t)).run P w'=.ok e.n w':=fun w'=>by rw[hel];simp[sizeOf,typeInfo,hj,hjs]
 refine⟨sliced p l.toNat h.toNat c e.n,?_,fun w'=>?_⟩
 ·have hl4:=eV h4
  have hlen:((xs.take h.toNat).drop l.toNat).length=h.toNat-l.toNat:=by simp;omega
  refine⟨[sliced p l.toNat h.toNat c e.n],⟨if c=l.toNat then p else p.map (·.add (l.toNat*e.n)),h.toNat-l.toNat,c-l.toNat,(css.take h.toNat).drop l.toNat,rfl,hlen,by omega,by omega,im _ (jz _ h4),fun hn=>?_⟩,rfl⟩
  have hn0:0<n:=by omega
  have hcl:c≠l.toNat:=by omega
  obtain⟨b,off,rfl,hA,hb,hcs⟩:=h5 hn0
  refine⟨b,off+l.toNat*e.n,?_,hA,hb,?_⟩
  ·rw[if_neg hcl]
   simp[cZ]
  ·intro k v hv
   rw[fF _ (fun l hm=>hl4 l (List.mem_of_mem_take hm)),fB _ hl4,List.getElem?_drop,List.getElem?_take]at hv
   split at hv
   ·have:=hcs _ _ hv
    rwa [←Nat.add_assoc]at this
   ·cases hv
 ·rw[run_sliceAt_slice w' t _ lo hi none hu']
  have hn:(n:Int)=xs.length:=by omega
  rcases hlo with⟨rfl,rfl⟩|⟨kl,rfl⟩<;>rcases hhi with⟨rfl,rfl⟩|⟨kh,rfl⟩
  ·have:=run_slice_all (P:=P) w' t p n c hu'
   simp only[mkV,Ty.isSt,List.headD_cons,this,hsz,Result.andThen_ok,←hn]
   simp
  ·have:=run_slice_h (P:=P) w' t p n c hu' kh h (by omega) (by omega)
   simp only[mkV,Ty.isSt,List.headD_cons,this,hsz,Result.andThen_ok]
   simp
  ·have:=run_slice_l (P:=P) w' t p n c hu' kl l (by omega) (by omega)
   simp only[mkV,Ty.isSt,List.headD_cons,this,hsz,Result.andThen_ok,←hn]
   simp
  ·have:=run_slice_lh (P:=P) w' t p n c hu' kl kh l h (by omega) (by omega) (by omega)
   simp only[mkV,Ty.isSt,List.headD_cons,this,hsz,Result.andThen_ok]
theorem ML{t:Nat}{i:TI}{e:Ty}(hc:chk P t i=true)(ht:i.ty=.sl e){xs:List e.D}{l h m:Int}{p:Value}{lo hi mx:Option Value}(hp:Rel G (Av Z H G) w (.d (.sl e) xs) p)
  (hlo:(lo=none∧l=0)∨∃kd,lo=some (.int kd l)) (hhi:∃kd,hi=some (.int kd h)) (hmx:∃kd,mx=some (.int kd m)) (hb:0≤l∧l≤h∧h≤m∧m≤xs.length):
  ∃v,Rel1 G (Av Z H G) w (.d (.sl e) ((xs.take h.toNat).drop l.toNat)) v∧(h=m→Rel1 G (Av Z H G) w (.cut e ((xs.take h.toNat).drop l.toNat)) v)∧∀w',(Instr.sliceAt t p lo hi mx).run P w'=.ok v w':=by
 obtain⟨cs,hrd,rfl⟩:=hp
 obtain⟨p,n,c,css,rfl,h1,h2,h3,h4,h5⟩:=hrd
 obtain⟨hu,_,j,hj,hjs,_⟩:=dl hc ht
 obtain⟨b1,b2,b3,b4⟩:=hb
 have hel:P.elem t=i.el:=by simp[Program.elem,hu]
 have hu':P.underlying t=some (.slice (P.elem t)):=by rw[hel];exact hu
 have hsz:∀w',(sizeOf (P.elem t)).run P w'=.ok e.n w':=fun w'=>by rw[hel];simp[sizeOf,typeInfo,hj,hjs]
 have hlen:((xs.take h.toNat).drop l.toNat).length=h.toNat-l.toNat:=by simp;omega
 have main:(Ty.sl e).rd (Av Z H G) w [sliced p l.toNat h.toNat m.toNat e.n] ((xs.take h.toNat).drop l.toNat):=by
  have hl4:=eV h4
  refine⟨if m.toNat=l.toNat then p else p.map (·.add (l.toNat*e.n)),h.toNat-l.toNat,m.toNat-l.toNat,(css.take h.toNat).drop l.toNat,rfl,hlen,by omega,by omega,im _ (jz _ h4),fun hn=>?_⟩
  have hn0:0<n:=by omega
  have hcl:m.toNat≠l.toNat:=by omega
  obtain⟨b,off,rfl,hA,hb,hcs⟩:=h5 hn0
  refine⟨b,off+l.toNat*e.n,?_,hA,hb,?_⟩
  ·rw[if_neg hcl]
   simp[cZ]
  ·intro k v hv
   rw[fF _ (fun l hm=>hl4 l (List.mem_of_mem_take hm)),fB _ hl4,List.getElem?_drop,List.getElem?_take]at hv
   split at hv
   ·have:=hcs _ _ hv
    rwa [←Nat.add_assoc]at this
   ·cases hv
 refine⟨sliced p l.toNat h.toNat m.toNat e.n,⟨_,main,rfl⟩,fun hm=>?_,fun w'=>?_⟩
 ·subst hm
  refine⟨if h.toNat=l.toNat then p else p.map (·.add (l.toNat*e.n)),?_,?_⟩
  ·rw[hlen];exact main
  ·rw[hlen];rfl
 ·rw[run_sliceAt_slice w' t _ lo hi mx hu']
  obtain⟨kh,rfl⟩:=hhi
  obtain⟨km,rfl⟩:=hmx
  rcases hlo with⟨rfl,rfl⟩|⟨kl,rfl⟩
  ·have:=run_slice_hm (P:=P) w' t p n c hu' kh km h m (by omega) (by omega) (by omega)
   simp only[mkV,Ty.isSt,List.headD_cons,this,hsz,Result.andThen_ok]
   simp
  ·have:=run_slice_lhm (P:=P) w' t p n c hu' kl kh km l h m (by omega) (by omega) (by omega) (by omega)
   simp only[mkV,Ty.isSt,List.headD_cons,this,hsz,Result.andThen_ok]
theorem uA:∀{l:List SV} {js:List Nat} {vs:List Value},sI l=some js→b9 (Rel G (Av Z H G) w) l vs→∃bs:List Nat,b9 (fun j b=>G[j]?=some (.pointer (some ⟨b,0,none⟩))) js bs∧vs=bs.map fun b=>.pointer (some ⟨b,0,none⟩)
 |[],js,[],h,_=>by simp only[sI,Option.some.injEq]at h;subst h;exact⟨[],trivial,rfl⟩
 |s::l,js,v::vs,h,⟨h1,h2⟩=>by
  unfold sI at h
  split at h
  ·rename_i he;cases he
  ·rename_i j r he
   injection he with e1 e2
   subst e1 e2
   split at h
   ·rename_i l' hl'
    injection h with h
    subst h
    obtain⟨b,hb,rfl⟩:=h1
    obtain⟨bs,g1,g2⟩:=uA hl' h2
    exact⟨b::bs,⟨hb,g1⟩,by rw[g2];rfl⟩
   ·cases h
  ·cases h
theorem jw(hf:FR Z n L H G w a):∀{l:List Operand} {ss:List SV},zT L l=some ss→b9 (Rel G (Av Z H G) w) ss (l.map a.eval)
 |[],ss,h=>by simp only[zT,Option.some.injEq]at h;subst h;trivial
 |x::l,ss,h=>by
  simp only[zT]at h
  split at h
  ·rename_i s l' h1 h2
   injection h with h
   subst h
   exact⟨aW hf h1,jw hf h2⟩
  ·cases h
theorem gU(hf:FR Z n L H G w a){d l:Int}{o:Option Operand}(h:slB L d o=some l):(o.map a.eval=none∧l=d)∨∃kd,o.map a.eval=some (.int kd l):=by
 unfold slB at h
 split at h
 ·injection h with h;exact .inl ⟨rfl,h.symm⟩
 ·split at h
  ·rename_i kd i hs
   injection h with h
   subst h
   obtain⟨cs,h1,h2⟩:=aW hf hs
   simp only[Ty.rd]at h1
   subst h1
   exact .inr ⟨kd,by simp[h2,mkV,Ty.isSt]⟩
  ·cases h
end
end Go.Proofs.YtlahabkjhgkkjaaGreat
namespace Go.Proofs.YtlahabkjhgkkjaaGreat
open Go.RowKit
theorem dI{G:List Value}{A:Nat→Prop}{w:World}{k:IntKind}{x:Int}{v:Value}(h:Rel G A w (.d (.int k) x) v):v=.int k x:=by
 obtain⟨cs,h1,rfl⟩:=h
 simp only[Ty.rd]at h1
 subst h1
 rfl
theorem nU{G:List Value}{A:Nat→Prop}{w:World}{x:Bool}{v:Value}(h:Rel G A w (.d .bool x) v):v=.bool x:=by
 obtain⟨cs,h1,rfl⟩:=h
 simp only[Ty.rd]at h1
 subst h1
 rfl
theorem fX{P:Program}{t ty:TypeId}{i:TI}{e:Ty}(hc:chk P t i=true)(ht:i.ty=.sl e)(w:World)(p:Option Addr)(n c:Nat):(Builtin.len_ #[t] ty #[.slice p n c]).run P w=.ok (.int .i64 n) w:=by
 obtain⟨hu,_⟩:=dl hc ht
 simp[Builtin.len_,run_underlying hu,goInt]
def kz:Op→Bool
 |.load .. =>true
 |_=>false
theorem Lt{P:Program}{t:Nat}{i:TI}{e:Ty}(hc:chk P t i=true)(ht:i.ty=.sl e)(w':World)(q:Option Addr)(n c:Nat){l h:Int}{lo hi:Option Value}
  (hlo:(lo=none∧l=0)∨∃kd,lo=some (.int kd l)) (hhi:(hi=none∧h=(n:Int))∨∃kd,hi=some (.int kd h)) (hb:0≤l∧l≤h∧h≤(n:Int)) (hnc:n≤c):
  (Instr.sliceAt t (.slice q n c) lo hi none).run P w'=.ok (sliced q l.toNat h.toNat c e.n) w':=by
 obtain⟨hu,_,j,hj,hjs,_⟩:=dl hc ht
 obtain⟨b1,b2,b3⟩:=hb
 have hel:P.elem t=i.el:=by simp[Program.elem,hu]
 have hu':P.underlying t=some (.slice (P.elem t)):=by rw[hel];exact hu
 have hsz:∀w',(sizeOf (P.elem t)).run P w'=.ok e.n w':=fun w'=>by rw[hel];simp[sizeOf,typeInfo,hj,hjs]
 rw[run_sliceAt_slice w' t _ lo hi none hu']
 rcases hlo with⟨rfl,rfl⟩|⟨kl,rfl⟩<;>rcases hhi with⟨rfl,rfl⟩|⟨kh,rfl⟩
 ·have:=run_slice_all (P:=P) w' t q n c hu'
  simp only[this,hsz,Result.andThen_ok]
  simp
 ·have:=run_slice_h (P:=P) w' t q n c hu' kh h (by omega) (by omega)
  simp only[this,hsz,Result.andThen_ok]
  simp
 ·have:=run_slice_l (P:=P) w' t q n c hu' kl l (by omega) (by omega)
  simp only[this,hsz,Result.andThen_ok]
  simp
 ·have:=run_slice_lh (P:=P) w' t q n c hu' kl kh l h (by omega) (by omega) (by omega)
  simp only[this,hsz,Result.andThen_ok]
section
variable {Z:Nat→Prop} {w0:World} {n:Nat} {L:SL} {H:List Item} {G:List Value} {w:World} {a:Act} {P:Program} {T:TT} {R:Type}
set_option maxHeartbeats 1000000 in
theorem kf{rw:Bool}{o:Oper}{k:SV→Option R}{r:R}(hT:dG P T=true)(hr:SR Z w0 H G w)(hf:FR Z n L H G w a)(h:qop P T rw L H o k=some r):
  ∃s v,k s=some r∧Rel G (Av Z H G) w s v∧∀w',(kz o.op=true→Agr rw H G w w')→(execOp a.eval o).run P w'=.ok (.value v) w':=by
 have hflat:jj P L o k=some r→∃s v,k s=some r∧Rel G (Av Z H G) w s v∧∀w',(kz o.op=true→Agr rw H G w w')→(execOp a.eval o).run P w'=.ok (.value v) w':=fun h=>by
  obtain⟨s,v,h1,h2,h3⟩:=xT hf h
  exact⟨s,v,h1,dm h2,fun w' _=>h3 w'⟩
 obtain⟨dst,op,type,pos,after,guard⟩:=o
 unfold qop at h
 dsimp only at h
 split at h
 case h_1 x=>
  split at h<;>try (cases h;done)
  rename_i s hs
  exact⟨s,_,h,aW hf hs,fun w' _=>rfl⟩
 case h_2 x=>
  split at h<;>try (cases h;done)
  rename_i s hs
  exact⟨s,_,h,aW hf hs,fun w' _=>rfl⟩
 case h_3 x=>
  split at h<;>try (cases h;done)
  ·rename_i j off hs
   have hv:=aW hf hs
   refine⟨_,_,h,hv,fun w' _=>?_⟩
   obtain⟨b,_,hv⟩:=hv
   simp[execOp,hv]
  ·rename_i e y off hs
   have hv:=aW hf hs
   refine⟨_,_,h,hv,fun w' _=>?_⟩
   obtain⟨b,o,cs,hv,_⟩:=hv
   simp[execOp,hv]
  ·rename_i j sz i off hs
   have hv:=aW hf hs
   refine⟨_,_,h,hv,fun w' _=>?_⟩
   obtain⟨b,_,_,_,hv⟩:=hv
   simp[execOp,hv]
 case h_4 c x y=>
  split at h<;>try (cases h;done)
  rename_i b hs
  have hb:=nU (aW hf hs)
  split at h
  ·split at h<;>try (cases h;done)
   rename_i s hs
   exact⟨s,_,h,aW hf hs,fun w' _=>by simp[execOp,hb,asBool]⟩
  ·split at h<;>try (cases h;done)
   rename_i s hs
   exact⟨s,_,h,aW hf hs,fun w' _=>by simp[execOp,hb,asBool]⟩
 case h_5 t x=>
  have fin:∀{s:SV} (_:k s=some r),(∃v,Rel1 G (Av Z H G) w s v∧∀w',Agr rw H G w w'→(Instr.loadAt t (a.eval x)).run P w'=.ok v w')→∃s v,k s=some r∧Rel G (Av Z H G) w s v∧∀w',(kz (.load t x)=true→Agr rw H G w w')→(execOp a.eval ⟨dst,.load t x,type,pos,after,guard⟩).run P w'=.ok (.value v) w':=by
   rintro s hk ⟨v,h1,h2⟩
   exact⟨s,v,hk,dm h1,fun w' ha=>by simp[execOp,h2 w' (ha rfl)]⟩
  split at h<;>try (cases h;done)
  ·rename_i j off i hs hi
   split at h<;>try (cases h;done)
   rename_i bt cells hj
   split at h<;>try (cases h;done)
   rename_i s hl
   exact fin h (BH hr (aZ hT hi) (aW hf hs) hj hl)
  ·rename_i e y off i hs hi
   split at h<;>try (cases h;done)
   rename_i z hz
   exact fin h (Qv (aZ hT hi) (aW hf hs) hz)
  ·rename_i j sz m off i hs hi
   split at h<;>try (cases h;done)
   rename_i et e xs hj
   split at h<;>try (cases h;done)
   rename_i y hsz hy
   split at h<;>try (cases h;done)
   rename_i z hz
   have:=Nat.eq_of_beq_eq_true hsz
   subst this
   exact fin h (MV hr (aZ hT hi) (aW hf hs) hj hy hz)
 case h_6 s x f=>
  split at h<;>try (cases h;done)
  ·rename_i j off i hs hi
   split at h<;>try (cases h;done)
   rename_i p hp
   obtain⟨b,hg,hv⟩:=aW hf hs
   exact⟨_,.pointer (some ⟨b,off+p.1,none⟩),h,⟨b,hg,rfl⟩,fun w' _=>by simp[execOp,hv,lZ (aZ hT hi) hp]⟩
  ·rename_i e y off i hs hi
   split at h<;>try (cases h;done)
   rename_i p hp
   obtain⟨b,o,cs,hv,h2⟩:=aW hf hs
   exact⟨_,.pointer (some ⟨b,o+(off+p.1),none⟩),h,⟨b,o,cs,rfl,h2⟩,fun w' _=>by simp[execOp,hv,lZ (aZ hT hi) hp,Nat.add_assoc]⟩
  ·rename_i j sz m off i hs hi
   split at h<;>try (cases h;done)
   rename_i p hp
   obtain⟨b,n1,c1,hg,hv⟩:=aW hf hs
   exact⟨_,.pointer (some ⟨b,m*sz+(off+p.1),none⟩),h,⟨b,n1,c1,hg,rfl⟩,fun w' _=>by simp[execOp,hv,lZ (aZ hT hi) hp,Nat.add_assoc]⟩
 case h_7 t x ix=>
  split at h<;>try (cases h;done)
  ·rename_i e xs kd m i hs hm hi
   split at h<;>try (cases h;done)
   rename_i e' he
   split at h<;>try (cases h;done)
   rename_i hee _
   split at h<;>try (cases h;done)
   rename_i y hy
   have hee:=hee.down
   subst hee
   obtain⟨v,h1,h2⟩:=Sv (kd:=kd) (aZ hT hi) he (aW hf hs) hy
   exact⟨_,v,h,dm h1,fun w' _=>by simp[execOp,dI (aW hf hm),h2 w']⟩
  ·rename_i j kd m i hs hm hi
   split at h<;>try (cases h;done)
   rename_i et e xs e' hj he
   split at h<;>try (cases h;done)
   rename_i hee _
   split at h<;>try (cases h;done)
   rename_i y hy
   have hee:=hee.down
   subst hee
   obtain⟨v,h1,h2⟩:=NF (kd:=kd) hr (aZ hT hi) he hj (aW hf hs) hy
   exact⟨_,v,h,dm h1,fun w' _=>by simp[execOp,dI (aW hf hm),h2 w']⟩
  ·rename_i j off kd m i hs hm hi
   split at h<;>try (cases h;done)
   rename_i hst hb
   have hb:=of_decide_eq_true hb
   obtain⟨b,hg,hv⟩:=aW hf hs
   have hck:=aZ hT hi
   refine⟨_,.pointer (some ⟨b,off+m.toNat*i.el,none⟩),h,⟨b,hg,rfl⟩,fun w' _=>?_⟩
   have:∃ne ej,P.underlying t=some (.array i.len ne)∧P.info? ne=some ej∧ej.size=i.el:=by
    obtain⟨d,hu,hrow⟩:=HL hck
    have hck':=hck
    unfold chk at hck'
    rw[hu]at hck'
    cases hinf:P.info? t with
    |none=>rw[hinf]at hck';cases hck'
    |some inf=>
     rw[hinf]at hck'
     simp only[Bool.and_eq_true]at hck'
     have hck':=hck'.2
     rw[hst]at hrow
     match d,hck',hrow with
     |.struct fs,hck',_=>
      simp only[Bool.and_eq_true]at hck'
      obtain⟨_,hck'⟩:=hck'
      split at hck'
      ·simp only[Bool.and_eq_true]at hck'
       have hz:=Nat.eq_of_beq_eq_true hck'.2
       have h02:=hb.2
       rw[hz]at h02
       exact(Int.lt_irrefl 0 (Int.lt_of_le_of_lt hb.1 h02)).elim
      ·cases hck'
     |.array m' e,hck',_=>
      simp only[Bool.and_eq_true]at hck'
      obtain⟨⟨⟨⟨_,h1⟩,_⟩,_⟩,h4⟩:=hck'
      split at h4
      ·rename_i ej hej
       exact⟨e,ej,by rw[←Nat.eq_of_beq_eq_true h1];exact hu,hej,Nat.eq_of_beq_eq_true h4⟩
      ·cases h4
   obtain⟨ne,ej,h1,h2,h3⟩:=this
   simp[execOp,dI (aW hf hm),hv,Instr.indexAt,asIntOf,run_underlying h1,sizeOf,typeInfo,h2,hb.1,hb.2,cZ,Instr.sureAddr,h3]
  ·rename_i j sz lo mm kd m i hs hm hi
   split at h<;>try (cases h;done)
   rename_i e' he
   split at h<;>try (cases h;done)
   rename_i hsz hb
   have hb:=of_decide_eq_true hb
   have hsz:=Nat.eq_of_beq_eq_true hsz
   subst hsz
   obtain⟨g,q,c,hg,hv,h1,h2,h3⟩:=aW hf hs
   have hmm:0<mm:=Int.ofNat_lt.1 (Int.lt_of_le_of_lt hb.1 hb.2)
   obtain⟨b,N,c',rfl,h4,rfl⟩:=h3 hmm
   refine⟨_,.pointer (some ⟨b,(lo+m.toNat)*e'.n+0,none⟩),h,⟨b,N,c',hg,rfl⟩,fun w' _=>?_⟩
   have:=iF (P:=P) (kd:=kd) (aZ hT hi) he w' b (lo*e'.n) mm c m hb.1 hb.2
   simp[execOp,dI (aW hf hm),hv,this,Nat.add_mul]
 case h_8 x m=>
  split at h<;>try (cases h;done)
  rename_i l hs
  split at h<;>try (cases h;done)
  rename_i s hl
  obtain⟨vs,hv,hal⟩:=aW hf hs
  obtain⟨v,h1,h2⟩:=gc hal m s hl
  exact⟨s,v,h,dm h2,fun w' _=>by simp[execOp,hv,Instr.extract,h1]⟩
 case h_9 t parts=>
  split at h<;>try (cases h;done)
  rename_i i hi
  split at h<;>try (cases h;done)
  rename_i cs hzs hfl
  split at h<;>try (cases h;done)
  rename_i x hjn
  simp only[Bool.and_eq_true]at hzs
  obtain⟨us',h1,h2⟩:=pg hr hf (us:=(zc i.ty).toArray) hfl (by simpa using hJ (uS (t:=i.ty)))
  obtain⟨v1,v2,h3,h4,h5⟩:=ml hjn h2
  match v2,h5 with
  |[],_=>
   rw[List.append_nil]at h3
   subst h3
   refine⟨_,mkV i.ty us'.toList,h,⟨_,h4,rfl⟩,fun w' _=>?_⟩
   have hb:P.built t (parts.map fun p=>(p.1,a.eval p.2)).toList=some us':=by
    rw[Mv (aZ hT hi) hzs.1 hzs.2,←h1]
    simp
   have:=run_build (P:=P) w' t (parts.map fun p=>(p.1,a.eval p.2)) us' hb
   simp[execOp,this,mkV,hzs.2]
 case h_10 f caps=>
  split at h<;>try (cases h;done)
  rename_i l hl
  split at h<;>try (cases h;done)
  rename_i js hj
  obtain⟨bs,h1,h2⟩:=uA hj (jw hf hl)
  refine⟨_,.func (.func f) #[] (bs.map fun b=>.pointer (some ⟨b,0,none⟩)).toArray,h,⟨bs,h1,rfl⟩,fun w' _=>?_⟩
  rw[←h2]
  obtain⟨cl⟩:=caps
  simp[execOp,Instr.makeFunc]
 case h_11 x t=>
  split at h<;>try (cases h;done)
  ·rename_i e xs i hs hi
   split at h<;>try (cases h;done)
   rename_i e' he
   obtain⟨cs,hrd,hv⟩:=aW hf hs
   obtain⟨p,m,c,css,rfl,hlen,_⟩:=hrd
   have hv:a.eval x=.slice p m c:=hv
   refine⟨_,.int .i64 m,h,⟨[_],rfl,by rw[hlen];rfl⟩,fun w' _=>?_⟩
   simp[execOp,resolve,invoke,builtin,hv,fX (aZ hT hi) he]
  ·rename_i i hs hi
   split at h<;>try (cases h;done)
   rename_i e' he
   have hv:a.eval x=.slice none 0 0:=aW hf hs
   refine⟨_,.int .i64 0,h,⟨[_],rfl,rfl⟩,fun w' _=>?_⟩
   simp[execOp,resolve,invoke,builtin,hv,fX (aZ hT hi) he]
  ·rename_i j i hs hi
   split at h<;>try (cases h;done)
   rename_i et e xs e' hj he
   have hv:=aW hf hs
   obtain⟨css,ho,_⟩:=hr.items j _ _ hj hv
   refine⟨_,.int .i64 xs.length,h,⟨[_],rfl,rfl⟩,fun w' _=>?_⟩
   rcases dR ho with⟨h1,h2⟩|⟨b,c,h1⟩
   ·simp[execOp,resolve,invoke,builtin,h1,h2,fX (aZ hT hi) he]
   ·simp[execOp,resolve,invoke,builtin,h1,fX (aZ hT hi) he]
  ·rename_i j sz lo n i hs hi
   split at h<;>try (cases h;done)
   rename_i e' he
   obtain⟨g,q,c,hg,hv,_⟩:=aW hf hs
   refine⟨_,.int .i64 n,h,⟨[_],rfl,rfl⟩,fun w' _=>?_⟩
   simp[execOp,resolve,invoke,builtin,hv,fX (aZ hT hi) he]
  ·rename_i e0 xs i hs hi
   split at h<;>try (cases h;done)
   rename_i e' he
   obtain⟨p,hrd,hv⟩:=aW hf hs
   refine⟨_,.int .i64 xs.length,h,⟨[_],rfl,rfl⟩,fun w' _=>?_⟩
   simp[execOp,resolve,invoke,builtin,hv,fX (aZ hT hi) he]
 case h_12 t x lo hi=>
  split at h<;>try (cases h;done)
  ·rename_i e xs i hs hti
   split at h<;>try (cases h;done)
   rename_i e' l hh he hl hhh
   split at h<;>try (cases h;done)
   rename_i hee _
   split at h<;>try (cases h;done)
   rename_i hb
   have hb:=of_decide_eq_true hb
   have hee:=hee.down
   subst hee
   obtain⟨v,h1,h2⟩:=Pr (aZ hT hti) he (aW hf hs) (gU hf hl) (gU hf hhh) hb
   exact⟨_,v,h,dm h1,fun w' _=>by simp[execOp,h2 w']⟩
  ·rename_i j i hs hti
   split at h<;>try (cases h;done)
   rename_i et e xs e' hj he
   split at h<;>try (cases h;done)
   rename_i l hh hl hhh hsz
   split at h<;>try (cases h;done)
   rename_i hb
   have hb:=of_decide_eq_true hb
   have hsz:=Nat.eq_of_beq_eq_true hsz
   have hx:=aW hf hs
   obtain⟨css,ho,_⟩:=hr.items j _ _ hj hx
   have hform:∃q c,a.eval x=.slice q xs.length c∧xs.length≤c∧c≤maxLen∧(0<xs.length→∃b,q=some ⟨b,0,none⟩):=by
    rcases ho.2 with⟨e1,e2⟩|⟨g,cap,cur,e1,_,_,e4,e5,_⟩
    ·exact⟨none,0,by rw[e1,e2],by omega,by unfold maxLen;omega,fun h0=>by omega⟩
    ·exact⟨_,cap,e1,e4,e5,fun _=>⟨g,rfl⟩⟩
   obtain⟨q,c,hv,hc1,hc2,hq⟩:=hform
   refine⟨_,sliced q l.toNat hh.toNat c e.n,h,⟨_,_,_,hx,rfl,by omega,by omega,fun h0=>?_⟩,fun w' _=>?_⟩
   ·obtain⟨b,rfl⟩:=hq (by omega)
    refine⟨b,xs.length,c,hv,by omega,?_⟩
    rw[if_neg (by omega)]
    simp[cZ]
   ·have:=Lt (P:=P) (aZ hT hti) he w' q xs.length c (gU hf hl) (gU hf hhh) hb hc1
    rw[←hsz]at this
    simp[execOp,hv,this]
  ·rename_i j sz b0 n i hs hti
   split at h<;>try (cases h;done)
   rename_i e' he
   split at h<;>try (cases h;done)
   rename_i l hh hl hhh hsz
   split at h<;>try (cases h;done)
   rename_i hb
   have hb:=of_decide_eq_true hb
   have hsz:=Nat.eq_of_beq_eq_true hsz
   subst hsz
   obtain⟨g,q,c,hg,hv,hc1,hc2,h3⟩:=aW hf hs
   obtain⟨b1,b2,b3⟩:=hb
   have z1:hh.toNat-l.toNat≤c-l.toNat:=by clear h3;omega
   have z2:c-l.toNat≤maxLen:=by clear h3;omega
   have z3:0<hh.toNat-l.toNat→0<n∧l.toNat+(hh.toNat-l.toNat)≤n∧c≠l.toNat:=by clear h3;omega
   refine⟨_,sliced q l.toNat hh.toNat c e'.n,h,⟨g,_,_,hg,rfl,z1,z2,fun h0=>?_⟩,fun w' _=>?_⟩
   ·obtain⟨y1,y2,y3⟩:=z3 h0
    obtain⟨b,N,c',rfl,h4,rfl⟩:=h3 y1
    refine⟨b,N,c',rfl,by clear h3;omega,?_⟩
    rw[if_neg y3]
    simp[cZ,Nat.add_mul]
   ·have:=Lt (P:=P) (aZ hT hti) he w' q n c (gU hf hl) (gU hf hhh) ⟨b1,b2,b3⟩ hc1
    simp[execOp,hv,this]
 case h_13 x y _=>
  split at h<;>try (cases h;done)
  rename_i kd p kd' q hp hq
  split at h<;>try (cases h;done)
  rename_i hee _
  have hee:=hee.down
  injection hee with hee
  subst hee
  refine⟨_,.int kd (if q>p then q else p),h,⟨[_],rfl,rfl⟩,fun w' _=>?_⟩
  simp[execOp,resolve,invoke,builtin,dI (aW hf hp),dI (aW hf hq),Builtin.max_,Builtin.max2]
 case h_14 x y _=>
  split at h<;>try (cases h;done)
  rename_i kd p kd' q hp hq
  split at h<;>try (cases h;done)
  rename_i hee _
  have hee:=hee.down
  injection hee with hee
  subst hee
  refine⟨_,.int kd (if q<p then q else p),h,⟨[_],rfl,rfl⟩,fun w' _=>?_⟩
  simp[execOp,resolve,invoke,builtin,dI (aW hf hp),dI (aW hf hq),Builtin.min_,Builtin.min2]
 case h_15 op t x y ty=>
  split at h
  ·exact hflat h
  ·rename_i b hb
   have ev:∀(A:Option Addr) (l c:Nat) (e:TypeId),a.eval x=.slice A l c→P.underlying t=some (.slice e)→∀w',(execOp a.eval ⟨dst,.binOp op t x y ty,type,pos,after,guard⟩).run P w'=.ok (.value (.bool (if A.isNone then b else !b))) w':=by
    intro A l c e hx hu w'
    unfold J0 at hb
    split at hb<;>try (cases hb;done)
    ·injection hb with hb
     subst hb
     unfold execOp
     simp only[hx,Sem.run_bind]
     rw[show a.eval (.const (.slice none 0 0))=.slice none 0 0 from rfl]
     simp only[eqGuard_at_slice,Sem.run_pure,Result.andThen_ok,run_eql_slice_nil w' t e A l c hu]
     cases A<;>rfl
    ·injection hb with hb
     subst hb
     unfold execOp
     simp only[hx,Sem.run_bind]
     rw[show a.eval (.const (.slice none 0 0))=.slice none 0 0 from rfl]
     simp only[eqGuard_at_slice,Sem.run_pure,Result.andThen_ok,run_neq_slice_nil w' t e A l c hu]
     cases A<;>rfl
   have nk:∀{α:Type} {xs:List α} {A:Option Addr} {l c:Nat} {e:TypeId},XN xs b k=some r→a.eval x=.slice A l c→(xs≠[]→A.isNone=false)→P.underlying t=some (.slice e)→
     ∃s v,k s=some r∧Rel G (Av Z H G) w s v∧∀w',(kz (.binOp op t x y ty)=true→Agr rw H G w w')→(execOp a.eval ⟨dst,.binOp op t x y ty,type,pos,after,guard⟩).run P w'=.ok (.value v) w':=by
    intro α xs A l c e hk hx hne hu
    have hev:=ev A l c e hx hu
    unfold XN at hk
    split at hk
    ·obtain⟨k1,k2⟩:=uQ hk
     cases hA:A.isNone with
     |true=>exact⟨_,.bool b,k1,⟨[_],rfl,rfl⟩,fun w' _=>by rw[hev w',hA];rfl⟩
     |false=>exact⟨_,.bool (!b),k2,⟨[_],rfl,rfl⟩,fun w' _=>by rw[hev w',hA];rfl⟩
    ·have hA:=hne (by simp)
     exact⟨_,.bool (!b),hk,⟨[_],rfl,rfl⟩,fun w' _=>by rw[hev w',hA];rfl⟩
   split at h<;>try (cases h;done)
   ·rename_i e xs i hs hi
    split at h<;>try (cases h;done)
    rename_i e' he
    obtain⟨hu,_⟩:=dl (aZ hT hi) he
    obtain⟨cs,hrd,hv⟩:=aW hf hs
    obtain⟨p,n,c,css,rfl,h1,h2,h3,h4,h5⟩:=hrd
    refine nk h hv (fun hne=>?_) hu
    have:0<n:=by
     rw[←h1]
     cases xs with
     |nil=>exact absurd rfl hne
     |cons=>simp
    obtain⟨b,off,rfl,_⟩:=h5 this
    rfl
   ·rename_i i hs hi
    split at h<;>try (cases h;done)
    rename_i e' he
    obtain⟨hu,_⟩:=dl (aZ hT hi) he
    have hv:a.eval x=.slice none 0 0:=aW hf hs
    exact⟨_,.bool b,h,⟨[_],rfl,rfl⟩,fun w' _=>by rw[ev none 0 0 _ hv hu w'];rfl⟩
   ·rename_i j i hs hi
    split at h<;>try (cases h;done)
    rename_i et e xs e' hj he
    obtain⟨hu,_⟩:=dl (aZ hT hi) he
    obtain⟨css,ho,ha2,hn0⟩:=hr.items j _ _ hj (aW hf hs)
    rcases ho.2 with⟨e1,e2⟩|⟨g,cap,cur,e1,_⟩
    ·refine nk h e1 (fun hne=>?_) hu
     exact absurd (List.eq_nil_of_length_eq_zero e2) hne
    ·exact nk h e1 (fun _=>rfl) hu
 case h_16=>exact hflat h
 case h_17=>exact hflat h
 case h_18=>exact hflat h
 case h_19 t x lo hi mx=>
  split at h<;>try (cases h;done)
  rename_i e xs i hs hti
  split at h<;>try (cases h;done)
  rename_i e' l hh m he hl hhh hm
  split at h<;>try (cases h;done)
  rename_i hq hee _
  split at h<;>try (cases h;done)
  rename_i hb
  have hb:=of_decide_eq_true hb
  have hee:=hee.down
  subst hee
  have h2:=(gU hf hhh).resolve_left (by simp)
  have h3:=(gU hf hm).resolve_left (by simp)
  obtain⟨v,h1,h1c,h2⟩:=ML (aZ hT hti) he (aW hf hs) (gU hf hl) h2 h3 hb
  split at h
  ·rename_i _ hm
   exact⟨_,v,h,h1c (of_decide_eq_true hm),fun w' _=>by simp only[execOp,Option.map_some,Sem.run_bind];have:=h2 w';simp only[Option.map_some]at this;simp[this]⟩
  exact⟨_,v,h,dm h1,fun w' _=>by simp only[execOp,Option.map_some,Sem.run_bind];have:=h2 w';simp only[Option.map_some]at this;simp[this]⟩
 case h_20 x y z u _=>
  split at h<;>try (cases h;done)
  rename_i p q p' q' hp hq hp' hq'
  refine⟨_,.int .i64 (abe p q p' q'),h,⟨[_],rfl,rfl⟩,fun w' _=>?_⟩
  simp[execOp,resolve,invoke,builtin,dI (aW hf hp),dI (aW hf hq),dI (aW hf hp'),dI (aW hf hq'),Builtin.max_,Builtin.max2,abe]
 case h_21=>cases h
end
end Go.Proofs.YtlahabkjhgkkjaaGreat
namespace Go.Proofs.YtlahabkjhgkkjaaGreat
open Go.RowKit
def Zo(f:SV→SV):SV→SV
 |.tup l=>.tup (l.map f)
 |s=>f s
def D2(f:SV→SV):SL→SL
 |[]=>[]
 |(t,s)::r=>(t,Zo f s)::D2 f r
def ir(f:SV→SV):Item→Item
 |.box t cs=>.box t (cs.map f)
 |it=>it
def uK(j:Nat)(s:SV):SV:=match s.of1 j with
 |true=>.dead
 |false=>s
def fz(j:Nat)(e:Ty)(xs:List e.D)(s:SV):SV:=match s.of1 j with
 |true=>match s with
  |.own _=>.d (.sl e) xs
  |.osl _ sz lo n=>match Nat.beq sz e.n with
   |true=>.d (.sl e) ((xs.drop lo).take n)
   |false=>.dead
  |_=>.dead
 |false=>s
theorem uV{f:SV→SV}:∀{L:SL} {t:Nat} {s:SV},aV (D2 f L) t=some s→∃s0,aV L t=some s0∧s=Zo f s0
 |[],t,s,h=>by simp[D2,aV]at h
 |(k,x)::r,t,s,h=>by
  simp only[D2,aV]at h ⊢
  split at h
  ·injection h with h;exact⟨x,rfl,h.symm⟩
  ·exact uV h
section
variable {Z:Nat→Prop} {w0:World} {n:Nat} {L:SL} {H H':List Item} {G G':List Value} {w w':World} {a:Act}
theorem Rel.map{A A':Nat→Prop}{f:SV→SV}(hf:∀s v,Rel1 G A w s v→Rel1 G' A' w' (f s) v){s:SV}{v:Value}(h:Rel G A w s v):Rel G' A' w' (Zo f s) v:=by
 cases s with
 |tup l=>
  obtain⟨vs,h1,h2⟩:=h
  refine⟨vs,h1,?_⟩
  clear h1
  induction l generalizing vs with
  |nil=>cases vs<;>exact h2
  |cons s l ih=>
   match vs,h2 with
   |v::vs,⟨g1,g2⟩=>exact⟨hf s v g1,ih vs g2⟩
 |_=>exact dm (hf _ _ h)
theorem FR.map{f:SV→SV}(hf:∀s v,Rel1 G (Av Z H G) w s v→Rel1 G' (Av Z H' G') w' (f s) v)(h:FR Z n L H G w a):FR Z n (D2 f L) H' G' w' a:=
 ⟨h.defers,h.size,fun t s hs=>by
  obtain⟨s0,h1,rfl⟩:=uV hs
  obtain⟨v,h2,h3⟩:=h.slot t s0 h1
  exact⟨v,h2,h3.map hf⟩⟩
theorem FR.keep(hf:∀s v,Rel1 G (Av Z H G) w s v→Rel1 G' (Av Z H' G') w' s v)(h:FR Z n L H G w a):FR Z n L H' G' w' a:=
 ⟨h.defers,h.size,fun t s hs=>by
  obtain⟨v,h2,h3⟩:=h.slot t s hs
  refine⟨v,h2,?_⟩
  have:=h3.map (f:=id) hf
  cases s<;>simpa [Zo]using this⟩
theorem ud{j:Nat}{same:Prop}(hs:same):∀it:Item,WkI j same it it
 |.box t cs=>⟨rfl,by induction cs with|nil=>trivial|cons s l ih=>exact⟨.inr ⟨rfl,fun _=>hs⟩,ih⟩⟩
 |.row _ _ _=>rfl
 |.gone=>rfl
theorem Dx{g:Value}{i:Nat}(hi:i<G.length):(G++[g])[i]?=G[i]?:=List.getElem?_append_left hi
theorem ki(hr:SR Z w0 H G w)(hb:Below w.heap.size w w'){it:Item}{g:Value}(hg:∀b,bL g=some b→w.heap.size≤b):Step w0 H.length True H (H++[it]) G (G++[g]) w w':=by
 have hl:=hr.len
 refine⟨by simp[hl],?_,hb.size,fun b hbw _=>hb.block b hbw,?_,?_,?_,?_,?_⟩
 ·exact hr.below.trans (hb.mono hr.below.size)
 ·intro i g' hi hg'
  have hlt:=(List.getElem?_eq_some_iff.1 hg').1
  rw[Dx hlt];exact hg'
 ·intro i it' hi h1
  rcases Nat.lt_or_ge i H.length with hlt|hge
  ·rw[List.getElem?_append_left hlt]at h1;exact⟨it',h1,ud trivial it'⟩
  ·rw[List.getElem?_append_right hge]at h1
   have:i-H.length=0:=by
    rcases Nat.eq_zero_or_pos (i-H.length)with h0|h0
    ·exact h0
    ·rw[List.getElem?_eq_none (by simp;omega)]at h1;cases h1
   omega
 ·intro it' g' b _ _ h3 h4
  rw[List.getElem?_append_right (by omega),hl,Nat.sub_self]at h3
  simp only[List.getElem?_cons_zero,Option.some.injEq]at h3
  subst h3
  exact .inr (hg b h4)
 ·intro _ g' h1
  rw[List.getElem?_eq_none (by omega)]at h1;cases h1
 ·intro a h1
  rw[List.getElem?_eq_none (by omega)]at h1;cases h1
theorem cU{j:Nat}(hr:SR Z w0 H G w)(hs:Step w0 j True H H' G G' w w'){s:SV}{v:Value}(h:Rel1 G (Av Z H G) w s v):Rel1 G' (Av Z H' G') w' s v:=hs.rel1 hr h (.inr ⟨rfl,fun _=>trivial⟩)
theorem xW(hr:SR Z w0 H G w)(hb:Below w.heap.size w w'){it:Item}{g:Value}(hg:∀b,bL g=some b→w.heap.size≤b)
  (hit:ItemRel w0.heap.size (G++[g]) (Av Z (H++[it]) (G++[g])) w' it g):SR Z w0 (H++[it]) (G++[g]) w':=by
 refine(ki hr hb hg).sr hr fun it' g' h1 h2=>?_
 rw[List.getElem?_append_right (Nat.le_refl _),Nat.sub_self]at h1
 rw[List.getElem?_append_right (by rw[hr.len];exact Nat.le_refl _),hr.len,Nat.sub_self]at h2
 simp only[List.getElem?_cons_zero,Option.some.injEq]at h1 h2
 subst h1 h2
 exact hit
theorem qh(hr:SR Z w0 H G w)(hb:Below w.heap.size w w'):Step w0 H.length True H H G G w w':=by
 have hl:=hr.len
 refine⟨hl,hr.below.trans (hb.mono hr.below.size),hb.size,fun b hbw _=>hb.block b hbw,fun i g _ h=>h,fun i it' _ h=>⟨it',h,ud trivial it'⟩,?_,fun _ g h=>h,fun a h=>h⟩
 intro it' g' b h1 _ _ _
 rw[List.getElem?_eq_none (Nat.le_refl _)]at h1;cases h1
theorem IE(hr:SR Z w0 H G w)(hb:Below w.heap.size w w'):SR Z w0 H G w':=
 (qh hr hb).sr hr fun it' g' h1 _=>by rw[List.getElem?_eq_none (Nat.le_refl _)]at h1;cases h1
theorem lk(hr:SR Z w0 H G w){j:Nat}{it it':Item}(hj:H[j]?=some it)(hl:it.live=true)(hB:Below w0.heap.size w0 w')(hz:w.heap.size≤w'.heap.size)
  (hblk:∀b,b<w.heap.size→(∀g,G[j]?=some g→bL g≠some b)→w'.heap[b]?=w.heap[b]?):Step w0 j True H (H.set j it') G G w w':=by
 have hlt:=(List.getElem?_eq_some_iff.1 hj).1
 refine⟨by simp[hr.len],hB,hz,fun b hb hn=>hblk b hb fun g hg=>hn it g hj hl hg,fun i g _ h=>h,fun i it'' hi h=>?_,?_,fun _ g h=>h,fun a h=>h⟩
 ·rw[List.getElem?_set,if_neg (Ne.symm hi)]at h
  exact⟨it'',h,ud trivial it''⟩
 ·intro it'' g' b _ _ h3 h4
  exact .inl ⟨it,g',hj,hl,h3,h4⟩
theorem yQ(hr:SR Z w0 H G w){j:Nat}{it it':Item}(hj:H[j]?=some it)(hl:it.live=true)(hB:Below w0.heap.size w0 w')(hz:w.heap.size≤w'.heap.size)
  (hblk:∀b,b<w.heap.size→(∀g,G[j]?=some g→bL g≠some b)→w'.heap[b]?=w.heap[b]?) (hit:∀g,G[j]?=some g→ItemRel w0.heap.size G (Av Z (H.set j it') G) w' it' g):SR Z w0 (H.set j it') G w':=by
 have hlt:=(List.getElem?_eq_some_iff.1 hj).1
 refine(lk hr hj hl hB hz hblk).sr hr fun it'' g' h1 h2=>?_
 rw[List.getElem?_set,if_pos rfl,if_pos hlt]at h1
 injection h1 with h1
 subst h1
 exact hit g' h2
theorem oC(j:Nat)(same:Prop)(s:SV):Wk j same s (uK j s):=by
 unfold uK
 split
 ·exact .inl rfl
 ·rename_i h;exact .inr ⟨rfl,fun h'=>by rw[h']at h;cases h⟩
theorem Ox(j:Nat)(same:Prop):∀it:Item,WkI j same it (ir (uK j) it)
 |.box t cs=>⟨rfl,by induction cs with|nil=>trivial|cons s l ih=>exact⟨oC j same s,ih⟩⟩
 |.row _ _ _=>rfl
 |.gone=>rfl
theorem Bu(hr:SR Z w0 H G w){j:Nat}{et et':TypeId}{e e':Ty}{xs:List e.D}{xs':List e'.D}{g g':Value}(hj:H[j]?=some (.row et e xs))(hg:G[j]?=some g)(hnp:∀a,g≠.pointer a)(hgr:w.grownBy w' (bL g))(hb:w0.heap.size≤w.heap.size)
  (hg':∀b,bL g'=some b→bL g=some b∨w.heap.size≤b):Step w0 j False H ((H.map (ir (uK j))).set j (.row et' e' xs')) G (G.set j g') w w':=by
 have hlt:=(List.getElem?_eq_some_iff.1 hj).1
 refine⟨by simp[hr.len],?_,hgr.size,?_,?_,?_,?_,fun h=>h.elim,?_⟩
 ·refine hr.below.grown hgr hb fun k hk=>((hr.items j _ g hj hg).blk rfl hk).1
 ·intro b hb' hn
  exact hgr.block b hb' fun e1=>hn _ g hj rfl hg e1.symm
 ·intro i g1 hi h;rw[List.getElem?_set,if_neg (Ne.symm hi)];exact h
 ·intro i it' hi h
  rw[List.getElem?_set,if_neg (Ne.symm hi),List.getElem?_map]at h
  cases hh:H[i]? with
  |none=>rw[hh]at h;cases h
  |some it=>rw[hh]at h;simp only[Option.map_some,Option.some.injEq]at h;subst h;exact⟨it,rfl,Ox j False it⟩
 ·intro it' g1 b h1 h2 h3 h4
  rw[List.getElem?_set,if_pos rfl,if_pos (by rw[hr.len];exact hlt)]at h3
  injection h3 with h3
  subst h3
  rcases hg' b h4 with h5|h5
  ·exact .inl ⟨_,g,hj,rfl,hg,h5⟩
  ·exact .inr h5
 ·intro a h;rw[hg]at h;injection h with h;exact(hnp a h).elim
theorem QE{j:Nat}{et:TypeId}{e:Ty}{xs:List e.D}{g:Value}{A:Nat→Prop}(hr:SR Z w0 H G w)(hj:H[j]?=some (.row et e xs))(hg:G[j]?=some g)(hA:∀b,b<w.heap.size→Av Z H G b→A b)(hAj:∀b,bL g=some b→A b):(Ty.sl e).rd A w [g] xs:=by
 obtain⟨css,ho,ha2,hn⟩:=hr.items j _ g hj hg
 have hk:Keeps (Av Z H G) A w w:=⟨Nat.le_refl _,hA,fun _ _ _=>rfl⟩
 have ha3:=bS (fun _ _ h=>Ty.rd_keep hk h) ha2
 have hrd:=Rd.of_own hn ho
 obtain⟨hlen,p,c,hv,h1,h2,h3⟩:=hrd
 subst hv
 refine⟨p,xs.length,c,css,rfl,rfl,h1,h2,ha3,fun h0=>?_⟩
 obtain⟨b,off,rfl,h5,h6⟩:=h3 h0
 exact⟨b,off,rfl,hAj b rfl,h5,h6⟩
theorem T3{j lo n:Nat}{et:TypeId}{e:Ty}{xs:List e.D}{v:Value}{A:Nat→Prop}(hr:SR Z w0 H G w)(hj:H[j]?=some (.row et e xs))(hv:Rel1 G (Av Z H G) w (.osl j e.n lo n) v)(hA:∀b,b<w.heap.size→Av Z H G b→A b)(hAj:∀g b,G[j]?=some g→bL g=some b→A b):(Ty.sl e).rd A w [v] ((xs.drop lo).take n):=by
 obtain⟨g,q,c,hg,rfl,h1,h2,h3⟩:=hv
 obtain⟨css,ho,ha2,hn⟩:=hr.items j _ g hj hg
 have hk:Keeps (Av Z H G) A w w:=⟨Nat.le_refl _,hA,fun _ _ _=>rfl⟩
 have ha3:=bS (fun _ _ h=>Ty.rd_keep hk h) ha2
 have hl4:=eV ha2
 have hN:0<n→lo+n≤xs.length:=fun h0=>by
  obtain⟨b,N,c',rfl,h4,_⟩:=h3 h0
  rcases dR ho with⟨h5,_⟩|⟨b',c'',h5⟩
  ·cases h5
  ·injection h5 with _ h5;omega
 refine⟨q,n,c,(css.drop lo).take n,rfl,?_,h1,h2,jz _ (im _ ha3),fun h0=>?_⟩
 ·rcases Nat.eq_zero_or_pos n with h0|h0
  ·subst h0;simp
  ·have:=hN h0;simp;omega
 ·obtain⟨b,N,c',rfl,h4,rfl⟩:=h3 h0
  obtain⟨_,p,c1,hv,_,_,h6⟩:=Rd.of_own hn ho
  injection hv with hv1 hv2 hv3
  obtain⟨b',off,e1,h7,h8⟩:=h6 (by have:=hN h0;omega)
  rw[e1]at hv1
  injection hv1 with hv1
  injection hv1 with e2 e3
  subst e2 e3
  refine⟨b,lo*e.n,rfl,hAj _ b hg rfl,h7,fun k u hu=>?_⟩
  rw[fB _ (fun l hm=>hl4 l (List.mem_of_mem_drop hm)),fF _ hl4,List.getElem?_take]at hu
  split at hu
  ·rw[List.getElem?_drop]at hu
   have:=h8 _ _ hu
   rwa [Nat.zero_add]at this
  ·cases hu
theorem uX{j:Nat}{et:TypeId}{e:Ty}{xs:List e.D}(hr:SR Z w0 H G w)(hj:H[j]?=some (.row et e xs)):
  SR Z w0 ((H.map (ir (fz j e xs))).set j .gone) G w∧∀s v,Rel1 G (Av Z H G) w s v→Rel1 G (Av Z ((H.map (ir (fz j e xs))).set j .gone) G) w (fz j e xs s) v:=by
 have hlt:=(List.getElem?_eq_some_iff.1 hj).1
 have hltG:j<G.length:=by rw[hr.len];exact hlt
 have hg:G[j]?=some G[j]:=List.getElem?_eq_getElem hltG
 generalize hgg:G[j]=g at hg
 have hget:∀(i:Nat) it',((H.map (ir (fz j e xs))).set j .gone)[i]?=some it'→(i=j∧it'=.gone)∨(i≠j∧∃it,H[i]?=some it∧it'=ir (fz j e xs) it):=by
  intro i it' h
  rw[List.getElem?_set]at h
  by_cases hij:j=i
  ·subst hij
   rw[if_pos rfl,if_pos (by simpa using hlt)]at h
   injection h with h
   exact .inl ⟨rfl,h.symm⟩
  ·rw[if_neg hij,List.getElem?_map]at h
   cases hh:H[i]? with
   |none=>rw[hh]at h;cases h
   |some it=>rw[hh]at h;simp only[Option.map_some,Option.some.injEq]at h;exact .inr ⟨fun e=>hij e.symm,it,rfl,h.symm⟩
 have live:∀it:Item,(ir (fz j e xs) it).live=it.live:=fun it=>by cases it<;>rfl
 have hsub:∀b,b<w.heap.size→Av Z H G b→Av Z ((H.map (ir (fz j e xs))).set j .gone) G b:=by
  intro b _ hA
  refine⟨hA.1,fun i it' g' h1 h2 h3=>?_⟩
  rcases hget i it' h1 with⟨_,rfl⟩|⟨_,it,h4,rfl⟩
  ·cases h2
  ·exact hA.2 i it g' h4 (by rw[←live];exact h2) h3
 have hAj:∀b,bL g=some b→Av Z ((H.map (ir (fz j e xs))).set j .gone) G b:=by
  intro b hb
  refine⟨hr.zf b ((hr.items j _ g hj hg).blk rfl hb).1,fun i it' g' h1 h2 h3=>?_⟩
  rcases hget i it' h1 with⟨_,rfl⟩|⟨hij,it,h4,rfl⟩
  ·cases h2
  ·exact fun h5=>hr.disj i j it _ g' g b hij h4 hj (by rw[←live];exact h2) rfl h3 hg h5 hb
 have hk:Keeps (Av Z H G) (Av Z ((H.map (ir (fz j e xs))).set j .gone) G) w w:=⟨Nat.le_refl _,hsub,fun _ _ _=>rfl⟩
 have hrel:∀s v,Rel1 G (Av Z H G) w s v→Rel1 G (Av Z ((H.map (ir (fz j e xs))).set j .gone) G) w (fz j e xs s) v:=by
  intro s v h
  unfold fz
  split
  ·rename_i hof
   split
   ·rename_i i
    have:i=j:=Nat.eq_of_beq_eq_true hof
    subst this
    have h:G[i]?=some v:=h
    rw[hg]at h
    injection h with h
    subst h
    exact⟨[g],QE hr hj hg hsub hAj,rfl⟩
   ·rename_i i sz lo n
    have:i=j:=Nat.eq_of_beq_eq_true hof
    subst this
    split
    ·rename_i hb
     have:=Nat.eq_of_beq_eq_true hb
     subst this
     have hv:=T3 hr hj h hsub (fun g' b h1 h2=>hAj b (by rw[hg]at h1;injection h1 with h1;rw[h1];exact h2))
     exact⟨[v],hv,rfl⟩
    ·trivial
   ·trivial
  ·exact h.keep hk fun i g' _ h=>h
 refine⟨⟨by simp[hr.len],hr.below,?_,?_,hr.zf⟩,hrel⟩
 ·intro i it' g' h1 h2
  rcases hget i it' h1 with⟨_,rfl⟩|⟨hij,it,h4,rfl⟩
  ·trivial
  ·have hi:=hr.items i it g' h4 h2
   cases it with
   |gone=>trivial
   |box t cs=>
    obtain⟨b,vs,rfl,k1,k2,k3⟩:=hi
    refine⟨b,vs,rfl,k1,k2,?_⟩
    clear k2 h4 h1
    induction cs generalizing vs with
    |nil=>cases vs<;>exact k3
    |cons s l ih=>
     match vs,k3 with
     |v::vs,⟨q1,q2⟩=>exact⟨hrel s v q1,ih vs q2⟩
   |row et' e' xs'=>
    obtain⟨css,k1,k2,k3⟩:=hi
    exact⟨css,k1,bS (fun _ _ h=>Ty.rd_keep hk h) k2,k3⟩
 ·intro i k it kt g1 h1 b hik a1 a2 a3 a4 a5 a6 a7
  rcases hget i it a1 with⟨_,rfl⟩|⟨_,it0,b1,rfl⟩
  ·cases a3
  ·rcases hget k kt a2 with⟨_,rfl⟩|⟨_,kt0,c1,rfl⟩
   ·cases a4
   ·exact hr.disj i k it0 kt0 g1 h1 b hik b1 c1 (by rw[←live];exact a3) (by rw[←live];exact a4) a5 a6 a7
end
end Go.Proofs.YtlahabkjhgkkjaaGreat
namespace Go.Proofs.YtlahabkjhgkkjaaGreat
open Go.RowKit
def inv(_:World):Prop:=True
theorem mn{w w':World}(_:inv w)(_:Below w.heap.size w w'):inv w':=trivial
theorem SH{w:World}:inv w:=trivial
end Go.Proofs.YtlahabkjhgkkjaaGreat
namespace Go.Proofs.YtlahabkjhgkkjaaGreat
open Go.RowKit
inductive RV where
 |d (t:Ty) (x:t.D)
 |new (et:TypeId) (e:Ty) (xs:List e.D)
structure aat where
 ret:Bool
 g:List Int→List Int
 bx:Option Nat:=none
structure aL where
 keep:Bool
 run:(R:Type)→List SV→(List RV→Option R)→Option R
 mut_:Option aat:=none
 tame:Bool:=false
abbrev Env:=List (Nat×aL)
def kS:Env→Nat→Option aL
 |[],_=>none
 |(k,x)::r,t=>match Nat.beq k t with
  |true=>some x
  |false=>kS r t
def T7(E:Env)(f:Nat):Option aat:=match kS E f with
 |some sp=>match sp.mut_ with
  |some g=>match g.bx with
   |some _=>none
   |none=>some g
  |none=>none
 |none=>none
def Ty.zsplit:Ty→List SV
 |.pair a b=>a.zsplit++b.zsplit
 |.st a=>a.zsplit
 |.int k=>[.d (.int k) (0:Int)]
 |.bool=>[.d .bool false]
 |.str=>[.d .str ⟨#[]⟩]
 |.sl _=>[.nil]
def uP(e:Ty):Nat→List SV→Option (List e.D)
 |0,[]=>some []
 |0,_=>none
 |n+1,l=>match e.join l with
  |some (x,r)=>match uP e n r with
   |some xs=>some (x::xs)
   |none=>none
  |none=>none
def rM{α:Type}(l:List α):Nat→List α
 |0=>[]
 |n+1=>l++rM l n
def pA(fl:Nat)(j:Nat)(L:SL)(H:List Item):Option (SL×List Item):=match Nat.ble fl j,H[j]? with
 |true,some (.row _ e xs)=>some (D2 (fz j e xs) L,(H.map (ir (fz j e xs))).set j .gone)
 |_,_=>none
def lL(fl:Nat):List Operand→SL→List Item→Option (SL×List Item)
 |[],L,H=>some (L,H)
 |x::r,L,H=>match opS L x with
  |some (.own j)=>match pA fl j L H with
   |some (L',H')=>lL fl r L' H'
   |none=>none
  |some (.osl j _ _ _)=>match pA fl j L H with
   |some (L',H')=>lL fl r L' H'
   |none=>none
  |_=>lL fl r L H
def fzB(fl:Nat)(o:Oper)(L:SL)(H:List Item):Option (SL×List Item):=match o.op with
 |.build _ parts=>lL fl (parts.toList.map (·.2)) L H
 |_=>some (L,H)
def Th:Operand→Operand→Bool
 |.tmp a,.tmp b=>Nat.beq a b
 |_,_=>false
def ke(T:TT)(H:List Item):List SV→List Nat→Option (List SV)
 |[],[]=>some []
 |s::l,t::ts=>match ke T H l ts with
  |some r=>match s with
   |.d t x=>some (.d t x::r)
   |.nil=>match cW T t with
    |some i=>match i.ty with
     |.sl e=>some (.d (.sl e) []::r)
     |_=>none
    |none=>none
   |.own j=>match H[j]? with
    |some (.row _ e xs)=>some (.d (.sl e) xs::r)
    |_=>none
   |.cut e xs=>some (.d (.sl e) xs::r)
   |.osl j sz lo n=>match H[j]? with
    |some (.row _ e xs)=>match Nat.beq sz e.n with
     |true=>some (.d (.sl e) ((xs.drop lo).take n)::r)
     |false=>none
    |_=>none
   |_=>none
  |none=>none
 |_,_=>none
def SV.noOwn:SV→Bool
 |.own _=>false
 |.osl _ _ _ _=>false
 |_=>true
def RV.flat:RV→Bool
 |.d t _=>t.flat
 |.new _ _ _=>false
def yy(rs:List RV):Bool:=match rs with
 |[.new _ e _]=>e.flat
 |rs=>rs.all RV.flat
def rvS:List RV→Option (List SV)
 |[]=>some []
 |.d t x::r=>match rvS r with
  |some l=>some (.d t x::l)
  |none=>none
 |.new _ e xs::r=>match rvS r with
  |some l=>some (.d (.sl e) xs::l)
  |none=>none
section
variable {R:Type}
def ql(H:List Item)(rs:List RV)(k:SV→List Item→Option R):Option R:=match rs with
 |[.new et e xs]=>k (.own H.length) (H++[.row et e xs])
 |[.d t x]=>k (.d t x) H
 |rs=>match rvS rs with
  |some l=>k (.tup l) H
  |none=>none
def Q8(T:TT)(E:Env)(fl:Nat)(L:SL)(H:List Item)(f:Nat)(args:List Operand)(tys:List Nat)(k:SV→List Item→SL→Option R):Option R:=
 match kS E f with
 |some sp=>match sp.keep with
  |true=>match zT L args with
   |some ss=>match ke T H ss tys with
    |some al=>sp.run R al fun rs=>match yy rs with
     |true=>ql H rs fun s H'=>k s H' L
     |false=>none
    |none=>none
   |none=>none
  |false=>match lL fl args L H with
   |some (L',H')=>match zT L' args with
    |some ss=>match ke T H' ss tys,ss.all SV.noOwn with
     |some al,true=>sp.run R al fun rs=>ql H' rs fun s H''=>k s H'' L'
     |_,_=>none
    |none=>none
   |none=>none
 |none=>none
def eop(T:TT)(E:Env)(fl:Nat)(L:SL)(H:List Item)(o:Oper)(k:SV→List Item→SL→Option R):Option R:=
 match o.op with
 |.box t x=>match opS L x with
  |some s=>match eK H s with
   |some cs=>k (.box H.length 0) (H++[.box t cs]) L
   |none=>none
  |none=>none
 |.alloc t=>match cW T t with
  |some i=>match i.z,i.ty with
   |_,.pair _ _=>none
   |true,ty=>k (.box H.length 0) (H++[.box t ty.zsplit]) L
   |_,_=>none
  |none=>none
 |.buildSlice t len parts=>match cW T t with
  |some i=>match i.ty with
   |.sl e=>match lL fl (parts.toList.map (·.2)) L H with
    |some (L',H')=>match m3 H' L' (fun q=>some (q*e.n,e.n)) (rM (e.split e.zero) len) parts.toList with
     |some cs=>match uP e len cs,Nat.ble (len*e.n) 16777216 with
      |some xs,true=>k (.own H'.length) (H'++[.row i.el e xs]) L'
      |_,_=>none
     |none=>none
    |none=>none
   |_=>none
  |none=>none
 |.makeSlice t x y=>match Th x y,opS L x,cW T t with
  |true,some (.d (.int _) n),some i=>match i.ty with
   |.sl e=>match decide (0≤n∧n*i.byt≤140737488355328∧n≤140737488355328)with
    |true=>k (.own H.length) (H++[.row i.el e (List.replicate n.toNat e.zero)]) L
    |false=>none
   |_=>none
  |false,some (.d (.int _) m),some i=>match opS L y,i.ty with
   |some (.d (.int _) n),.sl e=>match decide (m=0∧0≤n∧n*i.byt≤140737488355328∧n≤140737488355328)with
    |true=>k (.own H.length) (H++[.row i.el e []]) L
    |false=>none
   |_,_=>none
  |_,_,_=>none
 |.store t x v=>match opS L x,opS L v,cW T t with
  |some (.box j off),some s,some i=>match H[j]?,eK H s with
   |some (.box bt cells),some l=>match Nat.beq l.length i.ty.n&&Nat.ble (off+l.length) cells.length with
    |true=>k .undef (H.set j (.box bt (k9 cells off l))) L
    |false=>none
   |_,_=>none
  |some (.oelt j sz m off),some (.d t' y),some i=>match true,H[j]? with
   |true,some (.row et e xs)=>match Nat.beq sz e.n&&Nat.beq t'.n i.ty.n,xs[m]? with
    |true,some x=>match t',e.upd x off t' y with
     |.pair _ _,_=>none
     |_,some x'=>k .undef (H.set j (.row et e (xs.set m x'))) L
     |_,none=>none
    |_,_=>none
   |_,_=>none
  |_,_,_=>none
 |.call ⟨.builtin .append,⟨[x,y]⟩,⟨[t,t']⟩⟩=>match Nat.beq t t',cW T t with
  |true,some i=>match i.ty with
   |.sl e=>match ke T H ((opS L y).toList) [t]with
    |some [.d (.sl e') ys]=>match eE (.sl e') (.sl e) ys with
     |some ys=>match opS L x with
      |some (.own j)=>match Nat.ble fl j,H[j]? with
       |true,some (.row et e0 xs)=>match Nat.beq et i.el,eE (.sl e0) (.sl e) xs with
        |true,some xs=>match decide ((xs.length+ys.length)*i.byt≤140737488355328∧xs.length+ys.length≤140737488355328)with
         |true=>k (.own j) ((H.map (ir (uK j))).set j (.row i.el e (xs++ys))) (D2 (uK j) L)
         |false=>none
        |_,_=>none
       |_,_=>none
      |some .nil=>match decide (ys.length*i.byt≤140737488355328∧ys.length≤140737488355328)with
       |true=>k (.own H.length) (H++[.row i.el e ys]) L
       |false=>none
      |some (.cut e0 xs)=>match eE (.sl e0) (.sl e) xs with
       |some xs=>match decide (xs≠[]∧ys≠[]∧(xs.length+ys.length)*i.byt≤140737488355328∧xs.length+ys.length≤140737488355328)with
        |true=>k (.own H.length) (H++[.row i.el e (xs++ys)]) L
        |false=>none
       |none=>none
      |_=>none
     |none=>none
    |_=>none
   |_=>none
  |_,_=>none
 |.call ⟨.value f,args,tys⟩=>match opS L f with
  |some (.clo f [])=>match T7 E f with
   |some g=>match args.toList with
    |[x]=>match opS L x with
     |some (.own j)=>match Nat.ble fl j,H[j]? with
      |true,some (.row et (.int .i64) xs)=>match decide (xs.length≤140737488355328)with
       |true=>match g.ret with
        |false=>k (.tup []) (H.set j (.row et (.int .i64) (g.g xs))) L
        |true=>k (.own j) ((H.map (ir (uK j))).set j (.row et (.int .i64) (g.g xs))) (D2 (uK j) L)
       |false=>none
      |_,_=>none
     |_=>none
    |_=>none
   |none=>Q8 T E fl L H f args.toList tys.toList k
  |_=>none
 |_=>none
end
def tc(E:Env)(L:SL):Op→Bool
 |.call ⟨.value f,_,_⟩=>match opS L f with
  |some (.clo f [])=>(T7 E f).isSome
  |_=>false
 |_=>false
def ad8(P:Program)(f:Nat)(g:List Int→List Int):Prop:=
 ∀(w:World) (base et:Nat) (v:Value) (xs:List Int),w.ownsRow base et 1 v xs.length (xs.map (Value.int .i64))→xs.length≤140737488355328→
  Calls P f #[v] w fun e w'=>e=.returned (.tuple #[])∧w'.ownsRow base et 1 v xs.length ((g xs).map (Value.int .i64))∧(g xs).length=xs.length∧w.grownBy w' (bL v)
def aed(P:Program)(f:Nat)(g:List Int→List Int):Prop:=
 ∀(w:World) (base et:Nat) (v:Value) (xs:List Int),w.ownsRow base et 1 v xs.length (xs.map (Value.int .i64))→xs.length≤140737488355328→
  Calls P f #[v] w fun e w'=>∃v',e=.returned v'∧w'.ownsRow base et 1 v' (g xs).length ((g xs).map (Value.int .i64))∧w.grownBy w' (bL v)∧bL v'=bL v
def aek(P:Program)(f:Nat)(t:Nat):Prop:=
 ∀(w:World) (c:Nat) (b ok:Bool) (x y:Int),inv w→Blk w c t #[.bool b]→
  Calls P f #[.pointer (some ⟨c,0,none⟩),.agg #[.int .i64 x,.int .i64 y],.bool ok] w fun e w'=>e=.returned (.agg #[.int .i64 x,.int .i64 y])∧Blk w' c t #[.bool (b&&ok)]∧w.grownBy w' (some c)
def aK(P:Program)(f:Nat)(m:aat):Prop:=match m.bx with
 |some t=>aek P f t
 |none=>match m.ret with
  |false=>ad8 P f m.g
  |true=>aed P f m.g
def tf(A:Nat→Prop)(base:Nat)(w:World)(rs:List RV)(v:Value):Prop:=match rs with
 |[.new et e xs]=>∃css,w.ownsRow base et e.n v xs.length (List.flatten css)∧b9 (fun l y=>e.rd (fun b=>A b∧bL v≠some b) w l y) css xs∧0<e.n
 |[.d t x]=>Rel1 [] A w (.d t x) v
 |rs=>∃vs:List Value,v=.tuple vs.toArray∧∃l,rvS rs=some l∧b9 (Rel1 [] A w) l vs
def Con(P:Program)(f:Nat)(args:List SV)(rs:List RV):Prop:=
 ∀(A:Nat→Prop) (w:World) (vs:List Value),inv w→b9 (Rel1 [] A w) args vs→Calls P f vs.toArray w fun e w'=>∃v,e=.returned v∧Below w.heap.size w w'∧tf (fun b=>A b∨w.heap.size≤b) w.heap.size w' rs v
def ao(P:Program)(f:Nat)(sp:aL):Prop:=∀(R:Type) args (k:List RV→Option R) r,sp.run R args k=some r→∃rs,k rs=some r∧Con P f args rs
def af(P:Program)(g:Nat):Bool:=match P.funcs[g]? with
 | some fn => !(fn.name == "runtime.NumGoroutine") && fn.body.isSome
 |none=>false
def i9(P:Program)(E:Env):Prop:=∀f sp,kS E f=some sp→af P f=true∧ao P f sp∧∀g,sp.mut_=some g→aK P f g
end Go.Proofs.YtlahabkjhgkkjaaGreat
namespace Go.Proofs.YtlahabkjhgkkjaaGreat
open Go.RowKit
structure Chg (Z:Nat→Prop) (fl:Nat) (st ap:Bool) (H:List Item) (G:List Value) (w:World) (H':List Item) (G':List Value) (w':World):Prop where
 pres:∀s v,Rel1 G (Av Z H G) w s v→(∀j,s.of1 j=true→j<fl)→Rel1 G' (Av Z H' G') w' s v
 agr:st=true∨(Agr (!ap) H G w w'∧∀b,b<w.heap.size→gK H' G' b→gK H G b)
 len:H.length≤H'.length
theorem H5{α:Type}(l:List α):∀(n i:Nat),i<n*l.length→(rM l n)[i]?=l[i%l.length]?
 |0,i,h=>by simp at h
 |n+1,i,h=>by
  simp only[rM]
  rcases Nat.lt_or_ge i l.length with hi|hi
  ·rw[List.getElem?_append_left hi,Nat.mod_eq_of_lt hi]
  ·rw[Nat.succ_mul]at h
   rw[List.getElem?_append_right hi,H5 l n (i-l.length) (by omega)]
   congr 1
   rw[Nat.mod_eq_sub_mod hi]
theorem I5{α:Type}(l:List α):∀n,(rM l n).length=n*l.length
 |0=>by simp[rM]
 |n+1=>by simp[rM,I5 l n,Nat.succ_mul];omega
theorem CZ(z:Array Value)(n:Nat):(madeCells z (n*z.size)).toList=rM z.toList n:=by
 apply List.ext_getElem?
 intro i
 rcases Nat.lt_or_ge i (n*z.size)with hi|hi
 ·rw[H5 _ _ _ (by simpa using hi)]
  have hz:0<z.size:=by
   rcases Nat.eq_zero_or_pos z.size with h0|h0
   ·rw[h0,Nat.mul_zero]at hi;omega
   ·exact h0
  have hm:i%z.size<z.size:=Nat.mod_lt _ hz
  simp[madeCells,hi,hm]
 ·rw[List.getElem?_eq_none (by simp[madeCells];exact hi),List.getElem?_eq_none (by rw[I5];simpa using hi)]
theorem IK{R:SV→Value→Prop}{l:List SV}{vs:List Value}(h:b9 R l vs):∀n,b9 R (rM l n) (rM vs n)
 |0=>trivial
 |n+1=>eg h (IK h n)
theorem Ac{A:Nat→Prop}{w:World}{e:Ty}{cs:List Value}{x:e.D}(h:e.rd A w cs x):∀n,b9 (fun l y=>e.rd A w l y) (List.replicate n cs) (List.replicate n x)∧(List.replicate n cs).flatten=rM cs n
 |0=>⟨trivial,rfl⟩
 |n+1=>⟨⟨h,(Ac h n).1⟩,by rw[List.replicate_succ,List.flatten_cons,(Ac h n).2];rfl⟩
theorem Ck{G:List Value}{A:Nat→Prop}{w:World}{e:Ty}:∀{n:Nat} {l:List SV} {xs:List e.D} {vs:List Value},uP e n l=some xs→b9 (Rel1 G A w) l vs→∃css,vs=List.flatten css∧b9 (fun l y=>e.rd A w l y) css xs∧xs.length=n
 |0,[],xs,vs,h,ha=>by
  simp only[uP,Option.some.injEq]at h
  subst h
  cases vs with
  |nil=>exact⟨[],rfl,trivial,rfl⟩
  |cons=>exact ha.elim
 |0,_::_,xs,vs,h,ha=>by simp[uP]at h
 |n+1,l,xs,vs,h,ha=>by
  simp only[uP]at h
  split at h<;>try (cases h;done)
  rename_i x r hj
  split at h<;>try (cases h;done)
  rename_i ys hy
  injection h with h
  subst h
  obtain⟨v1,v2,rfl,h1,h2⟩:=ml hj ha
  obtain⟨css,rfl,h3,h4⟩:=Ck hy h2
  exact⟨v1::css,rfl,⟨h1,h3⟩,by simp[h4]⟩
theorem iH{G:List Value}{A:Nat→Prop}{w:World}:∀{t:Ty},b9 (Rel1 G A w) t.zsplit (zc t)
 |.int _=>⟨⟨[_],rfl,rfl⟩,trivial⟩
 |.bool=>⟨⟨[_],rfl,rfl⟩,trivial⟩
 |.str=>⟨⟨[_],rfl,rfl⟩,trivial⟩
 |.sl _=>⟨rfl,trivial⟩
 |.pair _ _=>eg iH iH
 |.st a=>iH (t:=a)
theorem jU{t:Ty}(ht:t.isSt=true∨t.n=1):(mkV t (zc t)).cells.toList=zc t:=by
 rcases ht with ht|ht
 ·simp[mkV,ht,Value.cells]
 ·cases t with
  |int=>rfl
  |bool=>rfl
  |str=>rfl
  |sl=>rfl
  |st a=>simp[mkV,Ty.isSt,Value.cells]
  |pair a b=>
   have h1:=lR (.pair a b)
   rw[ht]at h1
   match hz:zc (.pair a b),h1 with
   |[v],_=>
    have:∀t:Ty,∀v∈zc t,v.cells.toList=[v]:=by
     intro t
     induction t with
     |int=>intro v hv;simp[zc]at hv;subst hv;rfl
     |bool=>intro v hv;simp[zc]at hv;subst hv;rfl
     |str=>intro v hv;simp[zc]at hv;subst hv;rfl
     |sl=>intro v hv;simp[zc]at hv;subst hv;rfl
     |st a ih=>exact ih
     |pair a b iha ihb=>intro v hv;simp only[zc,List.mem_append]at hv;exact hv.elim (iha v) (ihb v)
    simp only[mkV,Ty.isSt,List.headD_cons]
    exact this (.pair a b) v (by rw[hz];simp)
theorem pC{A:Nat→Prop}{w:World}:∀{t:Ty} {cs:List Value} {x:t.D},t.rd A w cs x→∀v∈cs,v.oneCell'=true
 |.int _,_,_,h,v,hv=>by simp only[Ty.rd]at h;subst h;simp at hv;subst hv;rfl
 |.bool,_,_,h,v,hv=>by simp only[Ty.rd]at h;subst h;simp at hv;subst hv;rfl
 |.str,_,_,h,v,hv=>by simp only[Ty.rd]at h;subst h;simp at hv;subst hv;rfl
 |.pair a b,_,_,⟨l1,l2,h0,h1,h2⟩,v,hv=>by rw[h0]at hv;rcases List.mem_append.1 hv with h|h;exact pC h1 v h;exact pC h2 v h
 |.st a,_,_,h,v,hv=>pC (t:=a) h v hv
 |.sl e,_,_,⟨p,n,c,css,h0,_⟩,v,hv=>by subst h0;simp at hv;subst hv;rfl
theorem Kq{A:Nat→Prop}{w:World}{e:Ty}:∀{css:List (List Value)} {xs:List e.D},b9 (fun l y=>e.rd A w l y) css xs→∀v∈css.flatten,v.oneCell'=true
 |[],[],_,v,hv=>by simp at hv
 |c::css,x::xs,⟨h1,h2⟩,v,hv=>by
  rw[List.flatten_cons]at hv
  rcases List.mem_append.1 hv with h|h
  ·exact pC h1 v h
  ·exact Kq h2 v h
section
variable {Z:Nat→Prop} {w0:World} {n:Nat} {L:SL} {H:List Item} {G:List Value} {w:World} {a:Act} {P:Program} {T:TT} {R:Type}
theorem F0(hr:SR Z w0 H G w){s:SV}{v:Value}{l:List SV}(h:Rel G (Av Z H G) w s v)(hs:eK H s=some l):∀u∈v.cells.toList,u.oneCell'=true:=by
 unfold eK at hs
 split at hs
 ·cases hs
 ·rename_i t x hne
  obtain⟨cs,h1,rfl⟩:=h
  rw[pN (fun a b e=>by subst e;exact hne a b x rfl HEq.rfl) h1]
  exact pC h1
 ·split at hs
  ·rename_i j _ et e xs hj
   obtain⟨css,ho,_⟩:=hr.items j _ _ hj h
   rcases dR ho with⟨rfl,_⟩|⟨b,c,rfl⟩<;>intro u hu<;>simp[Value.cells]at hu<;>subst hu<;>rfl
  ·cases hs
 ·rename_i s' hn1 hn2 hn3
  split at hs<;>try (cases hs;done)
  rename_i hg
  cases s with
  |d t x=>cases t<;>first|exact(hn1 _ _ _ rfl).elim|exact(hn2 _ _ rfl).elim
  |nil=>rw[show v=.slice none 0 0 from h];intro u hu;simp[Value.cells]at hu;subst hu;rfl
  |box j off=>obtain⟨b,_,rfl⟩:=h;intro u hu;simp[Value.cells]at hu;subst hu;rfl
  |elt e x off=>obtain⟨b,o,cs,rfl,_⟩:=h;intro u hu;simp[Value.cells]at hu;subst hu;rfl
  |own j=>exact(hn3 j rfl).elim
  |oelt j sz i off=>obtain⟨b,n,c,_,rfl⟩:=h;intro u hu;simp[Value.cells]at hu;subst hu;rfl
  |clo f caps=>obtain⟨bs,_,rfl⟩:=h;intro u hu;simp[Value.cells]at hu;subst hu;rfl
  |tup l=>simp[SV.good]at hg
  |undef=>simp[SV.good]at hg
  |dead=>simp[SV.good]at hg
  |cut e xs=>obtain⟨p,_,rfl⟩:=h;intro u hu;simp[Value.cells]at hu;subst hu;rfl
  |osl j sz lo n=>obtain⟨g,q,c,_,rfl,_⟩:=h;intro u hu;simp[Value.cells]at hu;subst hu;rfl
theorem T4(hr:SR Z w0 H G w){it:Item}{g:Value}(hg:∀b,bL g=some b→w.heap.size≤b){b:Nat}(hb:b<w.heap.size)(h:gK (H++[it]) (G++[g]) b):gK H G b:=by
 obtain⟨j,et,e,xs,g',h1,h2,h3⟩:=h
 rcases Nat.lt_or_ge j H.length with hlt|hge
 ·rw[List.getElem?_append_left hlt]at h1
  rw[List.getElem?_append_left (by rw[hr.len];exact hlt)]at h2
  exact⟨j,et,e,xs,g',h1,h2,h3⟩
 ·rw[List.getElem?_append_right (by rw[hr.len];exact hge)]at h2
  have h4:=List.mem_of_getElem? h2
  simp at h4
  subst h4
  have:=hg b h3
  omega
theorem H7(hr:SR Z w0 H G w){w':World}(hb:Below w.heap.size w w'){it:Item}{g:Value}(hg:∀b,bL g=some b→w.heap.size≤b)(fl:Nat)(st ap:Bool):Chg Z fl st ap H G w (H++[it]) (G++[g]) w':=
 ⟨fun s v h _=>cU hr (ki hr hb hg) h,.inr ⟨⟨hb.size,fun b h1 _=>hb.block b h1⟩,fun b h1 h2=>T4 hr hg h1 h2⟩,by simp⟩
theorem gL(w:World)(o:Obj):Below w.heap.size w (w.alloc o):=(Below.refl _ _).alloc (Nat.le_refl _) o
theorem KB(hr:SR Z w0 H G w)(hf:FR Z n L H G w a){t:TypeId}{cs:List SV}{vs:Array Value}(hcs:b9 (Rel1 G (Av Z H G) w) cs vs.toList)(fl:Nat)(st ap:Bool):
  ∃G',SR Z w0 (H++[.box t cs]) G' (w.alloc (.cells vs t))∧FR Z n L (H++[.box t cs]) G' (w.alloc (.cells vs t)) a∧Rel G' (Av Z (H++[.box t cs]) G') (w.alloc (.cells vs t)) (.box H.length 0) (.pointer (some ⟨w.heap.size,0,none⟩))∧Chg Z fl st ap H G w (H++[.box t cs]) G' (w.alloc (.cells vs t)):=by
 have hb:=gL w (.cells vs t)
 have hg:∀b,bL (.pointer (some ⟨w.heap.size,0,none⟩))=some b→w.heap.size≤b:=fun b h=>by simp[bL]at h;omega
 have hst:=ki (it:=.box t cs) hr hb hg
 refine⟨G++[.pointer (some ⟨w.heap.size,0,none⟩)],xW hr hb hg ⟨w.heap.size,vs.toList,rfl,hr.below.size,Blk.new w t vs,bS (fun s v h=>cU hr hst h) hcs⟩,hf.keep fun s v h=>cU hr hst h,⟨w.heap.size,?_,rfl⟩,H7 hr hb hg fl st ap⟩
 rw[List.getElem?_append_right (by rw[hr.len];exact Nat.le_refl _),hr.len,Nat.sub_self]
 rfl
theorem iZ(hr:SR Z w0 H G w)(hf:FR Z n L H G w a){w':World}(hb:Below w.heap.size w w'){et:TypeId}{e:Ty}{xs:List e.D}{v:Value}{css:List (List Value)}(ho:w'.ownsRow w.heap.size et e.n v xs.length css.flatten)(he:0<e.n)
  (hcs:b9 (fun l y=>e.rd (fun b=>(Av Z H G b∨w.heap.size≤b)∧bL v≠some b) w' l y) css xs) (fl:Nat) (st ap:Bool):
  ∃G',SR Z w0 (H++[.row et e xs]) G' w'∧FR Z n L (H++[.row et e xs]) G' w' a∧Rel G' (Av Z (H++[.row et e xs]) G') w' (.own H.length) v∧Chg Z fl st ap H G w (H++[.row et e xs]) G' w':=by
 have hg:∀b,bL v=some b→w.heap.size≤b:=fun b h=>by
  rcases dR ho with⟨rfl,_⟩|⟨b',c,rfl⟩
  ·simp[bL]at h
  ·exact(ho.lt b (by simpa [Value.ownBlock,bL]using h)).1
 have hst:=ki (it:=.row et e xs) hr hb hg
 have hown:w'.ownsRow w0.heap.size et e.n v xs.length css.flatten:=by
  refine⟨ho.1,?_⟩
  rcases ho.2 with h|⟨g,cap,cur,h1,h2,h3⟩
  ·exact .inl h
  ·exact .inr ⟨g,cap,cur,h1,Nat.le_trans hr.below.size h2,h3⟩
 have hav:∀b,b<w'.heap.size→((Av Z H G b∨w.heap.size≤b)∧bL v≠some b)→Av Z (H++[.row et e xs]) (G++[v]) b:=by
  rintro b _ ⟨h1,h2⟩
  refine⟨h1.elim (fun h=>h.1) (fun h=>hr.zf b (Nat.le_trans hr.below.size h)),fun j it g hj hl hgj=>?_⟩
  rcases Nat.lt_or_ge j H.length with hlt|hge
  ·rw[List.getElem?_append_left hlt]at hj
   rw[List.getElem?_append_left (by rw[hr.len];exact hlt)]at hgj
   rcases h1 with h1|h1
   ·exact h1.2 j it g hj hl hgj
   ·exact fun h=>by have:=((hr.items j it g hj hgj).blk hl h).2;omega
  ·rw[List.getElem?_append_right (by rw[hr.len];exact hge)]at hgj
   have h4:=List.mem_of_getElem? hgj
   simp at h4
   subst h4
   exact h2
 refine⟨G++[v],xW hr hb hg ⟨css,hown,bS (fun l y h=>Ty.rd_keep ⟨Nat.le_refl _,hav,fun _ _ _=>rfl⟩ h) hcs,he⟩,hf.keep fun s v h=>cU hr hst h,?_,H7 hr hb hg fl st ap⟩
 show(G++[v])[H.length]?=some v
 rw[List.getElem?_append_right (by rw[hr.len];exact Nat.le_refl _),hr.len,Nat.sub_self]
 rfl
end
end Go.Proofs.YtlahabkjhgkkjaaGreat
