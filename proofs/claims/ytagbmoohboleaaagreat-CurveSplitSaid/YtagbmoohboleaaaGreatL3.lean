/- Stores. -/
import Derived.Test.YtagbmoohboleaaaGreatL2
import Derived.Maps.AppendAt
import Derived.ArgAppend
noncomputable section
namespace Go.Proofs.YtagbmoohboleaaaGreat
open Go.RowKit Go.IntKind
theorem afH:type_of% @List.length_singleton:=@List.length_singleton
theorem af3:type_of% @List.length_take:=@List.length_take
theorem agj:type_of% @Array.setIfInBounds_comm:=@Array.setIfInBounds_comm
theorem agv:type_of% @mem_ready:=@mem_ready
theorem agL:type_of% @List.singleton_append:=@List.singleton_append
theorem agM:type_of% @ready_mono:=@ready_mono
theorem agR:type_of% @Int.natCast_mul:=@Int.natCast_mul
theorem ag1:type_of% @Array.getElem?_eq_none:=@Array.getElem?_eq_none
theorem ag4:type_of% @Bool.not_eq_true':=@Bool.not_eq_true'
theorem aho:type_of% @Bool.or_eq_true:=@Bool.or_eq_true
theorem ahS:type_of% @List.length_replicate:=@List.length_replicate
theorem ahT:type_of% @List.length_set:=@List.length_set
theorem ahU:type_of% @getD_set_ne:=@getD_set_ne
theorem ah7:type_of% @Nat.mul_le_mul_right:=@Nat.mul_le_mul_right
theorem aic:type_of% @List.flatten_append:=@List.flatten_append
theorem aih:type_of% @List.cons.injEq:=@List.cons.injEq
theorem aii:type_of% @getD_set_true:=@getD_set_true
theorem aiv:type_of% @and_true:=@and_true
section
theorem mr:∀(vs l r:List Value) (off:Nat),off+vs.length<=l.length->eh (l++r) off vs=eh l off vs++r
 |[],_,_,_,_=>rfl
 |v::vs,l,r,off,h=>by
  simp only[afD]at h;simp only[eh];rw[List.set_append_left _ _ (by omega),mr vs _ r (off+1) (by simp;omega)]
theorem lh:∀(vs l r:List Value) (off:Nat),eh (l++r) (l.length+off) vs=l++eh r off vs
 |[],_,_,_=>rfl
 |v::vs,l,r,off=>by
  simp only[eh];rw[List.set_append_right _ _ (by omega),Nat.add_sub_cancel_left,aht,lh vs l _ (off+1)]
theorem zs:∀(vs l:List Value),l.length=vs.length->eh l 0 vs=vs
 |[],l,h=>by cases l with|nil=>rfl|cons=>simp at h
 |v::vs,u::l,h=>by
  simp only[afD,Nat.add_right_cancel_iff]at h;have:=lh vs [v] l 0;simp only[eh,List.set_cons_zero];simp only[afH,aie,agL]at this;rw[afY,this,zs vs l h]
 |v::vs,[],h=>by simp at h
theorem v8:∀(vs l:List Value) (off N:Nat),off+vs.length<=N->N<=l.length->(eh l off vs).take N=eh (l.take N) off vs:=by
 intro vs l off N h1 h2;have:=mr vs (l.take N) (l.drop N) off (by simp;omega);grind [agI,pH]
theorem o9:∀(vs l:List Value) (off:Nat),off+vs.length<=l.length->eh l off vs=l.take off++vs++l.drop (off+vs.length)
 |[],l,off,h=>by simp[eh]
 |v::vs,l,off,h=>by
  simp only[afD]at h;simp only[eh];rw[o9 vs (l.set off v) (off+1) (by simp;omega),list_seg_step l off v vs (by omega)];rfl
theorem qd{sz:Nat}:∀{css:List (List Value)} {m:Nat} {l:List Value} {off:Nat} {vs:List Value},(∀l∈css,l.length=sz)->css[m]?=some l->off+vs.length<=sz->eh css.flatten (m*sz+off) vs=(css.set m (eh l off vs)).flatten
 |[],_,_,_,_,_,h,_=>by simp at h
 |c::css,0,l,off,vs,hl,h,hb=>by
  simp at h;subst h;have hc:=hl c (by simp);simp only[agx,Nat.zero_mul,afY,List.set_cons_zero];rw[mr _ _ _ _ (by omega)]
 |c::css,m+1,l,off,vs,hl,h,hb=>by
  have hc:=hl c (by simp);simp only[agx,List.set_cons_succ];rw[show(m+1)*sz+off=c.length+(m*sz+off) by rw[hc,ag6];omega,lh,qd (λl hm=>hl l (by simp[hm])) (by simpa using h) hb]
theorem YD{A:Nat->Prop}{w:World}:∀{e:Ty} {l vs:List Value} {x x':e.D} {off:Nat} {t:Ty} {y:t.D},e.rd A w l x->e.upd x off t y=some x'->t.rd A w vs y->e.rd A w (eh l off vs) x'/\off+vs.length<=l.length:=by
 have lf:∀{e:Ty} {l vs:List Value} {x x':e.D} {off:Nat} {t:Ty} {y:t.D},e.rd A w l x->(match Nat.beq off 0 with|true=>ff t e y|false=>none)=some x'->t.rd A w vs y->e.rd A w (eh l off vs) x'/\off+vs.length<=l.length:=by
  intro e l vs x x' off t y hr h hy;split at h
  ·rename_i h0;have:off=0:=afq h0;subst this;obtain⟨rfl,rfl⟩:=dl h;have h1:=Ty.rd_len hr;have h2:=Ty.rd_len hy;rw[zs vs l (by omega)];exact⟨hy,by omega⟩
  ·cases h
 intro e;induction e with
 |int k=>intro l vs x x' off t y hr h hy;exact lf hr h hy
 |bool=>intro l vs x x' off t y hr h hy;exact lf hr h hy
 |str=>intro l vs x x' off t y hr h hy;exact lf hr h hy
 |sl e=>intro l vs x x' off t y hr h hy;exact lf hr h hy
 |st a ih=>
  intro l vs x x' off t y hr h hy;simp only[Ty.upd]at h;split at h
  ·rename_i z h0 h1;injection h with h;subst h;exact lf (e:=.st a) hr (by rw[h0];exact h1) hy
  ·exact ih hr h hy
 |pair a b iha ihb=>
  intro l vs x x' off t y hr h hy;obtain⟨l1,l2,rfl,h1,h2⟩:=hr;simp only[Ty.upd]at h;split at h
  ·split at h<;>try (cases h;done)
   rename_i z hz;injection h with h;subst h;obtain⟨g1,g2⟩:=iha h1 hz hy;rw[mr _ _ _ _ g2];exact⟨⟨_,_,rfl,g1,h2⟩,by simp;omega⟩
  ·rename_i hb;have hl1:=Ty.rd_len h1
   have hge:a.n<=off:=by
    rcases afZ off a.n with hlt|hge
    ·have:Nat.ble (off+1) a.n=true:=afM hlt;rw[this]at hb;cases hb
    ·exact hge
   split at h<;>try (cases h;done)
   rename_i z hz;injection h with h;subst h;obtain⟨g1,g2⟩:=ihb h2 hz hy;have e:off=l1.length+(off-a.n):=by omega
   rw[e,lh,<-e];exact⟨⟨_,_,rfl,h1,g1⟩,by simp;omega⟩
theorem n5{P:Program}{t:Nat}{i:TI}(hc:chk P t i=true)(w:World)(b off:Nat)(bt:TypeId)(cur:Array Value)(v:Value)(hg:w.heap[b]?=some (.cells cur bt (0,0)))(hl:v.cells.toList.length=i.ty.n)(hfit:off+v.cells.toList.length<=cur.size)(h1:∀u∈v.cells.toList,u.oneCell'=true):
  (Instr.storeAt t (.pointer (some ⟨b,off,none⟩)) v).run P w=.ok () (w.setRow b (eh cur.toList off v.cells.toList).toArray):=by
 have hst:=run_storeCells_at P b off bt v.cells.toList 0 cur w hg (by simpa using hfit) h1;rw[aie,<-o9 _ _ _ (by simpa using hfit)]at hst;have hsz:=xy hc;cases hi:P.info? t with
 |none=>rw[hi]at hsz;cases hsz
 |some inf=>
  have hs:inf.size=i.ty.n:=by rw[hi]at hsz;simpa using hsz
  have hn:v.cells.size=inf.size:=by rw[hs,<-hl];simp
  simp[Instr.storeAt,Instr.sureAddr,storeVar,sizeOf,typeInfo,hi,hn,hst]
section
variable {Z:Nat->Prop} {w0:World} {n:Nat} {L:SL} {H:List Item} {G:List Value} {w:World} {a:Act} {P:Program} {T:TT}
theorem uF(w:World)(b:Nat)(cs:Array Value):(w.setRow b cs).heap.size=w.heap.size:=by simp
theorem A8(hr:SR Z w0 H G w){b:Nat}(hb:w0.heap.size<=b)(cs:Array Value):Below w0.heap.size w0 (w.setRow b cs):=
 hr.below.trans ⟨rfl,rfl,rfl,by rw[uF];exact afs _,λk hk=>setRow_other w b k cs (by omega)⟩
theorem xo(hr:SR Z w0 H G w)(hf:FR Z n L H G w a){j b:Nat}{it it':Item}{g:Value}{cs:Array Value}(hj:H[j]?=some it)(hm:it.mine=true)(hg:G[j]?=some g)(hb:bG g=some b)(hit:(∀s v,Rel1 G (Av Z H G) w s v->Rel1 G (Av Z (H.set j it') G) (w.setRow b cs) s v)->(∀t l y,Ty.rd (Av Z H G) w t l y->Ty.rd (Av Z (H.set j it') G) (w.setRow b cs) t l y)->ItemRel w0.heap.size G (Av Z (H.set j it') G) (w.setRow b cs) it' g)(fl:Nat)(ap:Bool):
  SR Z w0 (H.set j it') G (w.setRow b cs)/\FR Z n L (H.set j it') G (w.setRow b cs) a/\Chg Z fl true ap H G w (H.set j it') G (w.setRow b cs):=by
 have hl:it.live=true:=by cases it<;>first|rfl|cases hm
 have hblk:=(hr.items j it g hj hg).blk hl hb;have hbl:∀b',b'<w.heap.size->(∀g,G[j]?=some g->bG g≠some b')->(w.setRow b cs).heap[b']?=w.heap[b']?:=λb' _ hn=>setRow_other w b b' cs (λe=>by subst e;exact hn g hg hb);have hB:=A8 hr (hblk.1 hm) cs;have hz:w.heap.size<=(w.setRow b cs).heap.size:=by rw[uF];exact afs _
 have hst:=oC (it':=it') hr hj hl hB hz hbl;refine⟨AW hr hj hl hB hz hbl λg' hg'=>?_,hf.keep λs v h=>du hr hst h,⟨λs v h _=>du hr hst h,.inl rfl,by simp⟩⟩;rw[hg]at hg';injection hg' with hg';subst hg';exact hit (λs v h=>du hr hst h) (λt l y h=>Ty.rd_keep (hst.keeps hr) h)
end
end
section
def dN:Op->Bool
 |.store .. =>true
 |.call ⟨.builtin .clear,_,_⟩=>true
 |_=>false
def isSt:Op->Bool
 |.store .. =>true
 |_=>false
def uJ:Op->Bool
 |.call ⟨.builtin .append,_,_⟩=>true
 |_=>false
theorem qu{w:World}{base et sz m:Nat}{g:Value}{cs:List Value}(h:w.ownsRow base et sz g m cs):g.ownBlock=bG g:=by
 rcases fa h with⟨rfl,_⟩|⟨b,c,rfl⟩<;>rfl
theorem P0{k:Nat}(h:k<=140737488355328):k<=maxLen:=by unfold maxLen;omega
theorem C4{P:Program}(w:World){t el:TypeId}{j:TypeInfo}{z:Value}{sz len:Nat}{parts:Array (Nat×Value)}{us:Array Value}(hu:P.underlying t=some (.slice el))(hj:P.info? el=some j)(hjs:j.size=sz)(hjz:j.zero=some z)(hn:0<sz)(hb:len*sz<=16777216)
  (hf:Instr.fill (λi=>some (i*sz,sz)) (madeCells z.cells (len*sz)) parts.toList=some us):(Instr.buildSlice t len parts).run P w=.ok (.slice (some ⟨w.heap.size,0,none⟩) len len) (w.alloc (.cells us el)):=by
 subst hjs;have hgt:¬(len*j.size>16777216):=by omega
 have hf':Instr.fill (λi=>some (i*j.size,j.size)) ((Array.range (len*j.size)).map (z.cells[·%z.cells.size]!)) parts.toList=some us:=hf;by_cases hne:len*j.size=0
 ·have hr:Array.range 0= #[]:=rfl;rw[hne,hr,Array.map_empty]at hf';simp only[Instr.buildSlice,agm,af5 hu,afR,sizeOf,typeInfo,agH];simp[hj,hne,newRow,hr,hf']
 ·simp only[Instr.buildSlice,agm,af5 hu,afR,sizeOf,typeInfo,agH];simp[hj,hgt,hne,zeroValue,typeInfo,hjz,hf',newRow]
theorem tj{P:Program}(w:World)(base:Nat)(t ty e:TypeId)(i:TypeInfo)(size:Nat)(ht:P.underlying t=some (.slice e))(hi:P.info? e=some i)
  (v:Value) (n:Nat) (xs:List Value) (hown:w.ownsRow base e size v n xs) (c:Nat):
  (Builtin.append_ #[t,t] ty #[v,.slice none 0 c]).run P w=.ok v w:=by
 rcases hown.2 with⟨rfl,rfl⟩|⟨g,cap,cur,rfl,_,_,hnc,_⟩
 ·simp[Builtin.append_,af5 ht,sizeOf,typeInfo,hi,Builtin.lenOf,Builtin.firstCells]
 ·simp[Builtin.append_,af5 ht,sizeOf,typeInfo,hi,Builtin.lenOf,Builtin.firstCells,hnc,storeCells]
theorem zJ{A:Nat->Prop}{w:World}:∀{xs:List Int} {css:List (List Value)},b9 (λl y=>(Ty.int .i64).rd A w l y) css xs->css.flatten=xs.map (Value.int .i64)
 |[],[],_=>rfl
 |y::ys,c::css,⟨q1,q2⟩=>by
  have:c=[Value.int .i64 y]:=q1;subst this;rw[agx,zJ q2];rfl
section
variable {Z:Nat->Prop} {w0:World} {n:Nat} {L:SL} {H:List Item} {G:List Value} {w:World} {a:Act} {P:Program} {T:TT} {E:Env} {R:Type}
theorem Q4(hr:SR Z w0 H G w){s:SV}{v:Value}{e:Ty}{ys:List e.D}{t:Nat}(h:Rel G (Av Z H G) w s v)(ha:gL T (H.map rdI) [s] [t]=some [.d (.sl e) ys]):
  ∃p m c css,v=.slice p m c/\ys.length=m/\b9 (λl y=>e.rd (Av Z H G) w l y) css ys/\(0<m->∃b off,p=some ⟨b,off,none⟩/\iL w b off (List.flatten css)):=by
 simp only[gL]at ha;split at ha
 ·rename_i t' x;simp only[afv,aih,aiv]at ha;cases ha;obtain⟨cs,hrd,rfl⟩:=h;obtain⟨p,m,c,css,rfl,h1,_,_,h4,h5⟩:=hrd;exact⟨p,m,c,css,rfl,h1,h4,λh0=>by obtain⟨b,off,g1,_,_,g4⟩:=h5 h0;exact⟨b,off,g1,g4⟩⟩
 ·split at ha<;>try (cases ha;done)
  split at ha<;>try (cases ha;done)
  simp only[afv,aih,aiv]at ha;cases ha;exact⟨none,0,0,[],h,rfl,trivial,λh0=>absurd h0 (by omega)⟩
 ·split at ha<;>try (cases ha;done)
  rename_i et e' xs hj;simp only[afv,aih,aiv]at ha;cases ha;obtain⟨css,_,ho,ha2,hn⟩:=hr.read hj h;obtain⟨_,p,c,hv,_,_,h3⟩:=Rd.of_own hn ho;exact⟨p,_,c,css,hv,rfl,ha2,λh0=>by obtain⟨b,off,g1,_,g3⟩:=h3 h0;exact⟨b,off,g1,g3⟩⟩
 ·simp only[afv,aih,aiv]at ha;cases ha;obtain⟨p,hrd,rfl⟩:=h;obtain⟨p',m,c,css,e1,h1,_,_,h4,h5⟩:=hrd;injection e1 with e1;rw[e1];exact⟨p',m,c,css,rfl,h1,h4,λh0=>by obtain⟨b,off,g1,_,_,g4⟩:=h5 h0;exact⟨b,off,g1,g4⟩⟩
 ·rename_i j sz lo n0;split at ha<;>try (cases ha;done)
  rename_i et e' xs hj;split at ha<;>try (cases ha;done)
  rename_i hsz;have hsz:=afq hsz;subst hsz;simp only[afv,aih,aiv]at ha;cases ha;obtain⟨g,q,c,hg,rfl,h1,h2,h3⟩:=h;obtain⟨css0,_,ho,ha2,hn⟩:=hr.read hj hg;have hl4:=fN ha2
  have hN:0<n0->lo+n0<=xs.length:=λh0=>by
   obtain⟨b,N,c',rfl,h4,_⟩:=h3 h0;rcases fa ho with⟨h5,_⟩|⟨b',c'',h5⟩
   ·cases h5
   ·injection h5 with _ h5;omega
  refine⟨q,n0,c,(css0.drop lo).take n0,rfl,?_,jY _ (iw _ ha2),λh0=>?_⟩
  ·rcases age n0 with h0|h0
   ·subst h0;simp
   ·have:=hN h0;simp;omega
  ·obtain⟨b,N,c',rfl,h4,rfl⟩:=h3 h0;obtain⟨_,p,c1,hv,_,_,h6⟩:=Rd.of_own hn ho;injection hv with hv1 hv2 hv3;obtain⟨b',off,e1,h7,h8⟩:=h6 (by have:=hN h0;omega);rw[e1]at hv1;injection hv1 with hv1;injection hv1 with e2 e3;subst e2 e3;refine⟨b,_,rfl,λk u hu=>?_⟩;rw[fU _ (λl hm=>hl4 l (ahy hm)),fL _ hl4,ahs]at hu;split at hu
   ·rw[ahd]at hu;have:=h8 _ _ hu;rwa [afY]at this
   ·cases hu
 ·cases ha
theorem DV{fl f:Nat}{args:List Operand}{tys:List Nat}{k:SV->List Item->SL->Option R}{r:R}{Q:Value->World->Prop}(hE:ln P E)(hI:inv w0)(hr:SR Z w0 H G w)(hf:FR Z n L H G w a)(h:N6 T E fl L H f args tys k=some r)
  (hnext:∀s H' L' G' w' v,k s H' L'=some r->SR Z w0 H' G' w'->FR Z n L' H' G' w' a->Rel G' (Av Z H' G') w' s v->Chg Z fl false false H G w H' G' w'->Q v w'):
  dJ P f=true/\Calls P f (args.map a.eval).toArray w λe w'=>∃v,e=.returned v/\Q v w':=by
 unfold N6 at h;split at h
 ·rename_i ss g hl;split at h<;>try (cases h;done)
  rename_i al hal;unfold VW at hl;split at hl<;>try (cases hl;done)
  rename_i sp hsp;split at hl<;>try (cases hl;done)
  rename_i p g' hle;split at hl<;>try (cases hl;done)
  rename_i ss' hss;split at hl<;>try (cases hl;done)
  rename_i hat
  injection hl with hl;injection hl with e1 e2;subst e1 e2;obtain⟨hcl,_,_,hlo⟩:=hE f sp hsp;refine⟨hcl,?_⟩;obtain⟨rs,hk,hcon⟩:=hlo p _ hle _ _ _ _ h;refine(hcon _ w _ (lU hI hr.below) (B9 hr hat hal (kB hf hss))).mono ?_;rintro e w' ⟨v,rfl,hb,hres⟩
  obtain⟨s,H',G',h1,h2,h3,h4,h5⟩:=jK hr hf hb hres (.inl λ_ _ h=>h) hk fl false false;grind
 split at h<;>try (cases h;done)
 rename_i sp hsp;obtain⟨hcl,hok,_⟩:=hE f sp hsp;refine⟨hcl,?_⟩;split at h
 ·split at h<;>try (cases h;done)
  rename_i ss hss;split at h<;>try (cases h;done)
  rename_i al hal;obtain⟨rs,hk,hcon⟩:=hok _ _ _ _ h;have hrel:=kG (A:=λ_=>True) (ss0:=ss) hr (λ_ _ _=>trivial) (.inl λ_ _ _ _ _ _=>trivial) (λs hs=>hs) hal (kB hf hss);refine(hcon _ w _ (lU hI hr.below) hrel).mono ?_;rintro e w' ⟨v,rfl,hb,hres⟩
  split at hk<;>try (cases hk;done)
  rename_i hkp;obtain⟨s,H',G',h1,h2,h3,h4,h5⟩:=jK hr hf hb hres (.inr hkp) hk fl false false;grind
 ·split at h<;>try (cases h;done)
  rename_i L1 H1 hfz;split at h<;>try (cases h;done)
  rename_i ss hss;split at h<;>try (cases h;done)
  rename_i al hal hno;obtain⟨rs,hk,hcon⟩:=hok _ _ _ _ h;obtain⟨g1,g2,g3,g4,g5⟩:=kz hr hf hfz
  have hrel:b9 (Rel1 [] (Av Z H1 G) w) al (args.map a.eval):=by
   refine kG (A:=Av Z H1 G) (ss0:=ss) g1 (λ_ _ h=>h) (.inr ?_) (λs hs=>hs) hal (kB g2 hss);intro s hs;exact afI.1 hno _ hs
  refine(hcon _ w _ (lU hI hr.below) hrel).mono ?_;rintro e w' ⟨v,rfl,hb,hres⟩
  obtain⟨s,H',G',h1,h2,h3,h4,h5⟩:=jK g1 g2 hb hres (.inl λ_ _ h=>h) hk fl false false;grind [h5.after]
set_option maxHeartbeats 1000000 in
theorem tz{fl:Nat}{o:Oper}{k:SV->List Item->SL->Option R}{r:R}{N:Act->World->Prop}{Q:Exit->Act->World->Prop}(hT:eM P T=true)(hE:ln P E)(hI:inv w0)(hr:SR Z w0 H G w)(hf:FR Z n L H G w a)(h:eop T E fl L H o k=some r)
  (hnext:∀s H' L' G' w' v,k s H' L'=some r->SR Z w0 H' G' w'->FR Z n L' H' G' w' a->Rel G' (Av Z H' G') w' s v->Chg Z fl (dN o.op||zd E L o.op) (uJ o.op) H G w H' G' w'->N (a.put o.dst v) w'):
  o.upon P a N Q ((execOp a.eval o).run P w):=by
 obtain⟨dst,op,type,pos,after,guard⟩:=o
 have val:∀{v w'},(execOp a.eval ⟨dst,op,type,pos,after,guard⟩).run P w=.ok (.value v) w'->N (a.put dst v) w'->Oper.upon P ⟨dst,op,type,pos,after,guard⟩ a N Q ((execOp a.eval ⟨dst,op,type,pos,after,guard⟩).run P w):=by
  intro v w' h1 h2;rw[h1];exact h2
 unfold eop at h;dsimp only at h hnext;split at h
 case h_1 t x=>
  split at h<;>try (cases h;done)
  rename_i s hs;split at h<;>try (cases h;done)
  rename_i cs hcs;have hrel:=aI hf hs;obtain⟨G',h1,h2,h3,h4⟩:=HZ (t:=t) hr hf (rh hr hrel hcs) fl false false;refine val (v:=.pointer (some ⟨w.heap.size,0,none⟩)) (w':=w.alloc (.cells (a.eval x).cells t)) ?_ (hnext _ _ _ G' _ _ h h1 h2 h3 h4);simp[execOp,Instr.box,newVar,newRow]
 case h_2 t=>
  split at h<;>try (cases h;done)
  rename_i i hi;split at h<;>try (cases h;done)
  rename_i ty hz hne;have hck:=aL hT hi;obtain⟨inf,hinf,hzero⟩:=wV hck hz
  have hc:(mkV i.ty (zc i.ty)).cells.toList=zc i.ty:=jU (by
   generalize i.ty=ty at*
   cases ty<;>first|exact .inr rfl|exact .inl rfl|exact(hne _ _ rfl).elim)
  obtain⟨G',h1,h2,h3,h4⟩:=HZ (t:=t) (cs:=i.ty.zsplit) (vs:=(mkV i.ty (zc i.ty)).cells) hr hf (by rw[hc];exact kK) fl false false;refine val (v:=.pointer (some ⟨w.heap.size,0,none⟩)) (w':=w.alloc (.cells (mkV i.ty (zc i.ty)).cells t)) ?_ (hnext _ _ _ G' _ _ h h1 h2 h3 h4);simp[execOp,Instr.alloc,zeroValue,typeInfo,hinf,hzero,newVar,newRow]
 case h_3 t len parts=>
  split at h<;>try (cases h;done)
  rename_i i hi;split at h<;>try (cases h;done)
  rename_i e he;split at h<;>try (cases h;done)
  rename_i L1 H1 hfz;split at h<;>try (cases h;done)
  rename_i cs hfl;split at h<;>try (cases h;done)
  rename_i xs hjn hlen;have hlen1:=aft hlen;obtain⟨g1,g2,g3,g4,g5⟩:=kz hr hf hfz;have hck:=aL hT hi;obtain⟨hu,hn0,j,hj,hjs,_,hjz,hone⟩:=dS hck he;have hz1:=jU hone;have hcz:(mkV e (zc e)).cells.size=e.n/\(mkV e (zc e)).cells.toList=zc e:=⟨by have:=congrArg List.length hz1;rw[m9]at this;simpa using this,hz1⟩
  have hm:=xM (mkV e (zc e)).cells len;rw[hcz.1,hcz.2]at hm;obtain⟨us',h1,h2⟩:=tY g1 g2 (us:=madeCells (mkV e (zc e)).cells (len*e.n)) hfl (by rw[hm];exact Hq (j7 qa) len);obtain⟨css,hcss,hrds,hxl⟩:=C5 hjn h2
  have hsz:us'.size=len*e.n:=by
   have:=gQ (fN hrds);rw[<-hcss,eu hrds,hxl]at this;simpa using this
  have hown:=World.ownsRow_lit (e:=i.el) (size:=e.n) (base:=w.heap.size) w us' len (afs _) (by unfold maxLen;have:=afA (Nat.le_mul_of_pos_right len hn0) hlen1;omega) hsz;have hbw:=ji w (.cells us' i.el);obtain⟨G',k1,k2,k3,k4⟩:=lw (et:=i.el) (css:=css) g1 g2 hbw (by rw[hxl,<-hcss];exact hown) hn0 (aU (λl y h=>Ty.rd_keep ⟨hbw.size,λb hb hA=>⟨.inl hA,λhh=>by simp[bG]at hh;omega⟩,λb hb _=>hbw.block b hb⟩ h) hrds) fl false false;refine val (v:=.slice (some ⟨w.heap.size,0,none⟩) len len) (w':=w.alloc (.cells us' i.el)) ?_ (hnext _ _ _ G' _ _ h k1 k2 k3 (k4.after g3 g4 g5))
  have h1':Instr.fill (λi=>some (i*e.n,e.n)) (madeCells (mkV e (zc e)).cells (len*e.n)) (parts.map λp=>(p.1,a.eval p.2)).toList=some us':=by
   rw[<-h1];simp
  have:=C4 (P:=P) w hu hj hjs hjz hn0 hlen1 h1';simp[execOp,this]
 case h_4 t x y=>
  split at h<;>try (cases h;done)
  ·rename_i kd m i hso hs hi;split at h<;>try (cases h;done)
   rename_i e he;split at h<;>try (cases h;done)
   rename_i hd;have hd:=afp hd
   have hxy:y=x:=by
    cases x<;>cases y<;>simp only[Pm,ahM]at hso;rw[afq hso]
   subst hxy;have hck:=aL hT hi;obtain⟨hu,hn0,j,hj,hjs,hjb,hjz,hone⟩:=dS hck he;have hv:=dM (aI hf hs);obtain⟨k0,rfl⟩:∃k:Nat,m=(k:Int):=⟨m.toNat,(Int.toNat_of_nonneg hd.1).symm⟩
   have hb1:k0*i.byt<=140737488355328:=by
    have:=hd.2.1;rw[<-agR]at this;exact Int.ofNat_le.1 this
   have hb2:k0<=140737488355328:=Int.ofNat_le.1 hd.2.2;have hz1:=jU hone;have hcz:(mkV e (zc e)).cells.size=e.n:=by have:=congrArg List.length hz1;rw[m9]at this;simpa using this
   obtain⟨w',hrun,hown,hgr⟩:=run_make_full (P:=P) w w.heap.size t i.el j _ e.n hu hj hjz hjs kd kd k0 (by rw[hjb,Nat.mul_comm];omega) (P0 hb2) (afs _);have hm:=xM (mkV e (zc e)).cells k0;rw[hcz,hz1]at hm;obtain⟨r1,r2⟩:=mI (A:=λb=>(Av Z H G b\/w.heap.size<=b)/\bG (.slice (some ⟨w.heap.size,0,none⟩) k0 k0)≠some b) (w:=w') (qa (t:=e)) k0;have hbw:Below w.heap.size w w':=⟨hgr.os,hgr.tape,hgr.output,hgr.size,λb hb=>hgr.block b hb (by simp)⟩
   obtain⟨G',k1,k2,k3,k4⟩:=lw (et:=i.el) (e:=e) (xs:=List.replicate k0 e.zero) (css:=List.replicate k0 (zc e)) hr hf hbw (by rw[r2,<-hm,ahS];exact hown) hn0 r1 fl false false;refine val (v:=.slice (some ⟨w.heap.size,0,none⟩) k0 k0) (w':=w') ?_ (hnext _ _ _ G' _ _ h k1 k2 k3 k4);simp[execOp,hv,hrun]
  ·rename_i kd m i hso hs hi;split at h<;>try (cases h;done)
   rename_i kd' n0 e hs' he;split at h<;>try (cases h;done)
   rename_i hd;obtain⟨hm0,hd2⟩:=afp hd;clear hd;subst hm0;have hck:=aL hT hi;obtain⟨hu,hn0,j,hj,hjs,hjb,hjz,hone⟩:=dS hck he;have hv:=dM (aI hf hs);have hv':=dM (aI hf hs');obtain⟨k0,rfl⟩:∃k:Nat,n0=(k:Int):=⟨n0.toNat,(Int.toNat_of_nonneg hd2.1).symm⟩
   have hb1:k0*i.byt<=140737488355328:=by
    have:=hd2.2.1;rw[<-agR]at this;exact Int.ofNat_le.1 this
   have hb2:k0<=140737488355328:=Int.ofNat_le.1 hd2.2.2;obtain⟨w',hrun,hown,hgr⟩:=run_make_own (P:=P) w w.heap.size t i.el j _ e.n hu hj hjz hjs kd kd' k0 (by rw[hjb,Nat.mul_comm];omega) (P0 hb2) (afs _);have hbw:Below w.heap.size w w':=⟨hgr.os,hgr.tape,hgr.output,hgr.size,λb hb=>hgr.block b hb (by simp)⟩
   obtain⟨G',k1,k2,k3,k4⟩:=lw (et:=i.el) (e:=e) (xs:=[]) (css:=[]) hr hf hbw (by simpa using hown) hn0 trivial fl false false;refine val (v:=.slice (some ⟨w.heap.size,0,none⟩) 0 k0) (w':=w') ?_ (hnext _ _ _ G' _ _ h k1 k2 k3 k4);simp[execOp,hv,hv',hrun]
 case h_5 t x v=>
  have sk:∀{w'},(Instr.storeAt t (a.eval x) (a.eval v)).run P w=.ok () w'->N (a.put dst undef) w'->Oper.upon P ⟨dst,.store t x v,type,pos,after,guard⟩ a N Q ((execOp a.eval ⟨dst,.store t x v,type,pos,after,guard⟩).run P w):=by
   intro w' h1 h2;have:(execOp a.eval ⟨dst,.store t x v,type,pos,after,guard⟩).run P w=.ok .skip w':=by simp[execOp,h1]
   rw[this];exact h2
  split at h<;>try (cases h;done)
  ·rename_i j off s i hx hs hi;split at h<;>try (cases h;done)
   rename_i bt cells l hj hl;split at h<;>try (cases h;done)
   rename_i hb;simp only[afr]at hb;have hb1:=afq hb.1;have hb2:=aft hb.2;obtain⟨b,hg,hxv⟩:=aI hf hx;have hrel:=aI hf hs;have hsp:=rh hr hrel hl;obtain⟨b',vs,e1,hbb,hblk,hcs⟩:=hr.items j _ _ hj hg;injection e1 with e1;injection e1 with e1;injection e1 with e1;subst e1;have hll:=eu hsp;have hcl:=eu hcs;have hrun:=n5 (aL hT hi) w b off bt vs.toArray (a.eval v) hblk (by omega) (by simp only[List.size_toArray];omega) (FU hr hrel hl);obtain⟨k1,k2,k3⟩:=xo (it':=.box bt (nD cells off l)) (cs:=(eh vs off (a.eval v).cells.toList).toArray) hr hf hj rfl hg rfl (λhk _=>⟨b,eh vs off (a.eval v).cells.toList,rfl,hbb,setRow_heap w b _ _ bt (0,0) hblk,aU hk (wr off hsp hcs)⟩) fl false;refine sk (by rw[hxv];exact hrun) (hnext .undef _ _ G _ undef h k1 k2 rfl k3)
  ·rename_i j sz m off t' y i hx hs hi;split at h<;>try (cases h;done)
   rename_i et e xs hfl hj;split at h<;>try (cases h;done)
   rename_i x0 hb hx0;simp only[afr]at hb;have hb1:=afq hb.1;have hb2:=afq hb.2;subst hb1;split at h<;>try (cases h;done)
   rename_i x' hne hup;obtain⟨b,m',c,hg,hxv⟩:=aI hf hx;obtain⟨vs,hrd,hvv⟩:=aI hf hs;obtain⟨css,ho,ha2,hn0⟩:=hr.items j _ _ hj hg;obtain⟨l,hl,hlrd⟩:=oA ha2 m x0 hx0;obtain⟨u1,u2⟩:=YD hlrd hup hrd;have hvc:(a.eval v).cells.toList=vs:=by rw[hvv];exact tv (λp q e=>by subst e;exact hne p q y rfl HEq.rfl) hrd
   have hls:=fN ha2;have hll:=hls l (afV hl);rcases ho.2 with⟨e1,_⟩|⟨g,cap,cur,e1,h1,h2,h3,h4,h5,h6⟩
   ·cases e1
   ·injection e1 with e1 e2 e3;injection e1 with e1;injection e1 with e1;subst e1 e2 e3;have hmlt:m<xs.length:=(afx.1 hx0).1;have hfit:m*e.n+e.n<=xs.length*e.n:=by rw[<-ag6];exact ah7 _ hmlt
    have hcap:xs.length*e.n<=c*e.n:=ah7 _ h3;have hrun:=n5 (aL hT hi) w b (m*e.n+off) et cur (a.eval v) h2 (by rw[hvc,Ty.rd_len hrd,hb2]) (by rw[hvc];omega) (by rw[hvc];exact uA hrd);rw[hvc]at hrun
    obtain⟨k1,k2,k3⟩:=xo (it':=.row et e (xs.set m x')) (cs:=(eh cur.toList (m*e.n+off) vs).toArray) hr hf hj rfl hg rfl (λ_ hk=>by
     refine⟨css.set m (eh l off vs),⟨?_,.inr ⟨b,c,_,by rw[ahT],h1,setRow_heap w b cur _ et (0,0) h2,by rw[ahT];exact h3,h4,?_,?_⟩⟩,xi m (aU (λl y h=>hk _ l y h) ha2) (hk _ _ _ u1),hn0⟩
     ·rw[<-qd hls hl (by omega),pH,ahT];exact ho.1
     ·simp[pH,h5]
     ·rw[ahT];show(eh cur.toList (m*e.n+off) vs).take (xs.length*e.n)=_;rw[v8 _ _ _ _ (by omega) (by simp;omega),h6,qd hls hl (by omega)]) fl false
    refine sk (by rw[hxv];exact hrun) (hnext .undef _ _ G _ undef h k1 k2 rfl k3)
 case h_6 x y t t'=>
  split at h<;>try (cases h;done)
  rename_i i htt hi;split at h<;>try (cases h;done)
  rename_i e he;split at h<;>try (cases h;done)
  rename_i e' ys0 hys;split at h<;>try (cases h;done)
  rename_i ys hcast;obtain⟨ee,rfl⟩:=dl hcast;injection ee with ee;subst ee;have:=afq htt;subst this;clear hcast;dsimp only at h;have hck:=aL hT hi;obtain⟨hu,hn0,j,hj,hjs,hjb,hjz,hone⟩:=dS hck he;have hz1:=jU hone;have hcz:(mkV e' (zc e')).cells.size=e'.n:=by have:=congrArg List.length hz1;rw[m9]at this;simpa using this
  obtain⟨sy,hsy,hsy2⟩:∃sy,opS L y=some sy/\gL T (H.map rdI) [sy] [t]=some [.d (.sl e') ys0]:=by
   cases hq:opS L y with
   |none=>rw[hq]at hys;simp[gL]at hys
   |some sy=>rw[hq]at hys;exact⟨sy,rfl,hys⟩
  have hyr:=aI hf hsy;obtain⟨p,m,c,css,hyv,hym,hya,hyc⟩:=Q4 hr hyr hsy2;have hfl:=gQ (fN hya);rw[eu hya,hym]at hfl;have hone':=AR hya
  have run:∀(g:Value) (N0:Nat) (cs1:List Value),w.ownsRow w0.heap.size i.el e'.n g N0 cs1->(N0+m)*i.byt<=140737488355328->N0+m<=140737488355328->
    ∃v' w',(Builtin.append_ #[t,t] type #[g,a.eval y]).run P w=.ok v' w'/\w'.ownsRow w0.heap.size i.el e'.n v' (N0+m) (cs1++css.flatten)/\w.grownBy w' (bG g)/\(bG v'=bG g\/bG v'=some w.heap.size):=by
   intro g N0 cs1 hown hb1 hb2;rw[hyv];cases p with
   |none=>
    have hm0:m=0:=by
     rcases age m with h0|h0
     ·exact h0
     ·obtain⟨b,off,hp,_⟩:=hyc h0;cases hp
    subst hm0;have hcss:css.flatten=[]:=ahf (by simpa using hfl);refine⟨g,w,tj (P:=P) w w0.heap.size t type i.el j e'.n hu hj g N0 cs1 hown c,by rw[hcss,afO];exact hown,⟨rfl,rfl,rfl,afs _,λ_ _ _=>rfl⟩,.inl rfl⟩
   |some ad=>
    obtain⟨v',w',h1,h2,h3,_,h5⟩:=run_append_own_at (P:=P) w w0.heap.size t type i.el j _ e'.n i.byt hu hj hjz hjs hjb hcz hn0 g N0 cs1 hown ad m c css.flatten (by rw[hfl]) (λq u hq=>by
     have hm0:0<m:=by
      rcases age m with h0|h0
      ·subst h0;have hnil:css.flatten=[]:=ahf (by rw[hfl];simp);rw[hnil]at hq;simp at hq
      ·exact h0
     obtain⟨b,off,hp,hc⟩:=hyc hm0;injection hp with hp;subst hp;rw[dE];exact hc q u hq) hone' (P0 hb2) hb1 hr.below.size
    exact⟨v',w',h1,h2,by rw[<-qu hown];exact h3,by rw[<-qu hown,<-qu h2];exact h5⟩
  have ex:∀{v' w'},(Builtin.append_ #[t,t] type #[a.eval x,a.eval y]).run P w=.ok v' w'->(execOp a.eval ⟨dst,.call ⟨.builtin .append,⟨[x,y]⟩,⟨[t,t]⟩⟩,type,pos,after,guard⟩).run P w=.ok (.value v') w':=by
   intro v' w' h1;have h1':(Builtin.append_ [t,t].toArray type [a.eval x,a.eval y].toArray).run P w=.ok v' w':=h1;simp[execOp,resolve,invoke,builtin,h1']
  split at h<;>try (cases h;done)
  ·rename_i j0 hx;split at h<;>try (cases h;done)
   rename_i et e0 xs0 hflr hj0;split at h<;>try (cases h;done)
   rename_i xs het hcast;obtain⟨ee,rfl⟩:=dl hcast;injection ee with ee;subst ee;clear hcast;dsimp only at h;split at h<;>try (cases h;done)
   rename_i hd;have hd:=afp hd;have het:=afq het;subst het;have hxr:=aI hf hx;have hitem:=hr.items j0 _ _ hj0 hxr;obtain⟨css1,ho1,ha1,_⟩:=hitem;obtain⟨v',w',h1,h2,h3,h4⟩:=run _ _ _ ho1 (by rw[<-hym];exact hd.1) (by rw[<-hym];exact hd.2);have hnp:∀q,a.eval x≠.pointer q:=λq hq=>by rcases fa ho1 with⟨e1,_⟩|⟨b,c,e1⟩<;>rw[hq]at e1<;>cases e1
   have hst:=BN (et':=i.el) (e':=e0) (xs':=xs0++ys0) hr hj0 hxr hnp h3 hr.below.size (g':=v') (λb hb=>by
    rcases h4 with h4|h4
    ·left;rw[<-h4];exact hb
    ·right;rw[h4]at hb;injection hb with hb;omega)
   have hlt:=(afx.1 hj0).1;refine val (ex h1) (hnext (.own j0) _ _ (G.set j0 v') w' v' h (hst.sr hr λit' g' k1 k2=>?_) (hf.map λs v hs=>hst.rel1 hr hs (rO j0 False s)) ?_ ?_)
   ·rw[af9,af2 rfl,af2 (by simpa using hlt)]at k1;rw[af9,af2 rfl,af2 (by rw[hr.len];exact hlt)]at k2;injection k1 with k1;injection k2 with k2;subst k1 k2;refine⟨css1++css,?_,ez (aU (λl y h=>Ty.rd_keep (hst.keeps hr) h) ha1) (aU (λl y h=>Ty.rd_keep (hst.keeps hr) h) hya),hn0⟩;rw[afN,hym,aic];exact h2
   ·show(G.set j0 v')[j0]?=some v';rw[af9,af2 rfl,af2 (by rw[hr.len];exact hlt)]
   ·refine⟨λs v hs hfl=>?_,.inr ⟨⟨h3.size,λb hb hor=>h3.block b hb λe1=>?_⟩,?_⟩,by simp⟩
    ·have hof:s.of1 j0=false:=by
      cases hq:s.of1 j0 with
      |false=>rfl
      |true=>have:=hfl j0 hq;have:=aft hflr;omega
     have:=hst.rel1 hr hs (rO j0 False s);unfold yj at this;rw[hof]at this;exact this
    ·rcases hor with hor|hor
     ·cases hor
     ·exact hor ⟨j0,_,_,_,_,hj0,hxr,e1.symm⟩
    ·rintro b hb ⟨q,et2,e2,xs2,g2,k1,k2,k3⟩
     by_cases hq:j0=q
     ·subst hq;rw[af9,af2 rfl,af2 (by rw[hr.len];exact hlt)]at k2;injection k2 with k2;subst k2;rcases h4 with h4|h4
      ·exact⟨j0,_,_,_,_,hj0,hxr,by rw[<-h4];exact k3⟩
      ·rw[h4]at k3;injection k3 with k3;omega
     ·rw[af9,afQ hq]at k2;rw[af9,afQ hq,agd]at k1;cases hh:H[q]? with
      |none=>rw[hh]at k1;cases k1
      |some it=>
       rw[hh]at k1;cases it with
       |box t cs=>simp[jg]at k1
       |gone=>simp[jg]at k1
       |len=>simp[jg]at k1
       |row a1 a2 a3=>
        simp only[jg,agt,afv]at k1;exact⟨q,et2,e2,xs2,g2,by rw[hh,k1],k2,k3⟩
  ·rename_i hx;split at h<;>try (cases h;done)
   rename_i hd;have hd:=afp hd;have hxr:a.eval x=.slice none 0 0:=aI hf hx;obtain⟨v',w',h1,h2,h3,h4⟩:=run (.slice none 0 0) 0 [] (World.ownsRow_nil w _ _ _) (by rw[<-hym,afY];exact hd.1) (by rw[<-hym,afY];exact hd.2);have hbw:Below w.heap.size w w':=⟨h3.os,h3.tape,h3.output,h3.size,λb hb=>h3.block b hb (by simp[bG])⟩
   have hown:w'.ownsRow w.heap.size i.el e'.n v' ys0.length css.flatten:=by
    rw[afY,ahP]at h2;refine⟨by rw[hym];exact h2.1,?_⟩;rcases h2.2 with⟨k1,k2⟩|⟨g,cap,cur,k1,k2,k3⟩
    ·exact .inl ⟨k1,by rw[hym];exact k2⟩
    ·refine .inr ⟨g,cap,cur,by rw[hym];exact k1,?_,by rw[hym];exact k3⟩;rw[k1]at h4;simp[bG]at h4;omega
   have hblk:∀b,b<w.heap.size->bG v'≠some b:=λb hb h5=>by
    rcases h4 with h4|h4
    ·rw[h4]at h5;simp[bG]at h5
    ·rw[h4]at h5;injection h5 with h5;omega
   obtain⟨G',k1,k2,k3,k4⟩:=lw (et:=i.el) (css:=css) hr hf hbw hown hn0 (aU (λl y h=>Ty.rd_keep ⟨hbw.size,λb hb hA=>⟨.inl hA,hblk b hb⟩,λb hb _=>hbw.block b hb⟩ h) hya) fl false true;exact val (ex (by rw[hxr];exact h1)) (hnext _ _ _ G' _ _ h k1 k2 k3 k4)
  ·rename_i e0 xs0 hx;split at h<;>try (cases h;done)
   rename_i xs hcast;obtain⟨ee,rfl⟩:=dl hcast;injection ee with ee;subst ee;clear hcast;dsimp only at h;split at h<;>try (cases h;done)
   rename_i hd;obtain⟨hd1,hd2,hd3,hd4⟩:=afp hd;obtain⟨px,hrd,hxv⟩:=aI hf hx;obtain⟨px',nx,cx,cssx,e1,hx1,hx2,hx3,hx4,hx5⟩:=hrd;injection e1 with e1;injection e1 with e1 e2 e3;subst e1 e2 e3
   have hx0:0<xs0.length:=by
    cases xs0 with
    |nil=>exact absurd rfl hd1
    |cons=>simp
   have hy0:0<m:=by
    rw[<-hym];cases ys0 with
    |nil=>exact absurd rfl hd2
    |cons=>simp
   obtain⟨bx,ox,rfl,hAx,hbx,hcx⟩:=hx5 hx0;obtain⟨by_,oy,rfl,hcy⟩:=hyc hy0;have hflx:=gQ (fN hx4);rw[eu hx4]at hflx
   obtain⟨v',w',h1,h2,h3⟩:=run_append_arg_grows (P:=P) w t type i.el j _ e0.n i.byt hu hj hjz hjs hjb hcz hn0 ⟨bx,ox,none⟩ xs0.length xs0.length cssx.flatten hflx (λq u hq=>by rw[dE];exact hcx q u hq)
    ⟨by_,oy,none⟩ m c css.flatten hfl (λq u hq=>by rw[dE];exact hcy q u hq) (by omega) (P0 (by rw[<-hym];exact hd4)) (by rw[<-hym];exact hd3)
   have hbw:Below w.heap.size w w':=⟨h3.os,h3.tape,h3.output,h3.size,λb hb=>h3.block b hb (by simp)⟩
   have hblk:∀b,b<w.heap.size->bG v'≠some b:=λb hb h5=>by
    rcases h2.2 with⟨k1,k2⟩|⟨g,cap,cur,k1,k2,_⟩
    ·rw[k1]at h5;simp[bG]at h5
    ·rw[k1]at h5;simp[bG]at h5;omega
   obtain⟨G',k1,k2,k3,k4⟩:=lw (et:=i.el) (e:=e0) (xs:=xs0++ys0) (css:=cssx++css) hr hf hbw (by rw[afN,hym,aic];exact h2) hn0 (ez (aU (λl y h=>Ty.rd_keep ⟨hbw.size,λb hb hA=>⟨.inl hA,hblk b hb⟩,λb hb _=>hbw.block b hb⟩ h) hx4) (aU (λl y h=>Ty.rd_keep ⟨hbw.size,λb hb hA=>⟨.inl hA,hblk b hb⟩,λb hb _=>hbw.block b hb⟩ h) hya)) fl false true;exact val (ex (by rw[hxv,hyv];exact h1)) (hnext _ _ _ G' _ _ h k1 k2 k3 k4)
 case h_7 x t=>
  split at h<;>try (cases h;done)
  rename_i j sz lo n0 hx;split at h<;>try (cases h;done)
  rename_i et e0 xs0 hj;split at h<;>try (cases h;done)
  rename_i i hi;split at h<;>try (cases h;done)
  rename_i hb;split at h<;>try (cases h;done)
  rename_i e he;split at h<;>try (cases h;done)
  rename_i xs hcast;obtain⟨ee,rfl⟩:=dl hcast;injection ee with ee;subst ee;clear hcast;dsimp only at h;simp only[afr]at hb;have hb1:=afq hb.1;have hb2:=afq hb.2;subst hb1 hb2;have hck:=aL hT hi;obtain⟨hu,hn0,jj,hjj,hjs,_,hjz,hone⟩:=dS hck he;have hz1:=jU hone;obtain⟨g,q,c,hg,hxv,_,_,h3⟩:=aI hf hx;obtain⟨css,ho,ha2,_⟩:=hr.items j _ _ hj hg;have hls:=fN ha2;have hzl:(zc e0).length=e0.n:=m9 e0;have hlc:=eu ha2
  have ex:∀{w'},(Builtin.clear_ #[t] type #[a.eval x]).run P w=.ok (.tuple #[]) w'->N (a.put dst (.tuple #[])) w'->Oper.upon P ⟨dst,.call ⟨.builtin .clear,⟨[x]⟩,⟨[t]⟩⟩,type,pos,after,guard⟩ a N Q ((execOp a.eval ⟨dst,.call ⟨.builtin .clear,⟨[x]⟩,⟨[t]⟩⟩,type,pos,after,guard⟩).run P w):=by
   intro w' e1 e2;have e1':(Builtin.clear_ [t].toArray type [a.eval x].toArray).run P w=.ok (.tuple #[]) w':=e1;refine val (v:=.tuple #[]) (w':=w') ?_ e2;simp[execOp,resolve,invoke,builtin,e1']
  rcases age n0 with hn|hn
  ·subst hn;have hcl:gv e0.zero lo 0 xs0=xs0:=by simp[gv]
   have hst:H.set j (.row i.el e0 xs0)=H:=by
    obtain⟨hlt,hjg⟩:=afx.1 hj;rw[<-hjg,List.set_getElem_self]
   rw[hcl,hst]at h;refine ex (w':=w) ?_ (hnext (.tup []) _ _ G w (.tuple #[]) h hr hf ⟨[],rfl,trivial⟩ ⟨λs v hv _=>hv,.inl rfl,afs _⟩);rw[hxv];cases q<;>simp[Builtin.clear_,af5 hu]
  ·obtain⟨b,N0,c',rfl,h4,rfl⟩:=h3 hn;rcases ho.2 with⟨e1,_⟩|⟨g',cap,cur,e1,k1,k2,k3,k4,k5,k6⟩
   ·cases e1
   ·injection e1 with e1 e2 e3;injection e1 with e1;injection e1 with e1;subst e1 e2 e3;have hfit:lo*e0.n+n0*e0.n<=xs0.length*e0.n:=by rw[<-Nat.add_mul];exact ah7 _ h4
    have hcap:xs0.length*e0.n<=c'*e0.n:=ah7 _ k3;have hrl:(mY (zc e0) n0).length=n0*e0.n:=by rw[Ao,hzl]
    have hsz:(mkV e0 (zc e0)).cells.size=e0.n:=by have:=congrArg List.length hz1;rw[hzl]at this;simpa using this
    have hzc:(Builtin.zeroCells (mkV e0 (zc e0)).cells n0).toList=mY (zc e0) n0:=by
     have hm:=xM (mkV e0 (zc e0)).cells n0;rw[hz1]at hm;exact hm
    have hrun:=run_storeCells_at P b (lo*e0.n) i.el (mY (zc e0) n0) 0 cur w k2 (by rw[hrl];omega) (λv hv=>by
     rw[(mI (qa (A:=λ_=>True) (w:=w) (t:=e0)) n0).2.symm]at hv;exact AR (mI (qa (A:=λ_=>True) (w:=w) (t:=e0)) n0).1 v hv)
    rw[aie,hrl]at hrun
    obtain⟨m1,m2,m3⟩:=xo (it':=.row i.el e0 (gv e0.zero lo n0 xs0)) (cs:=(cur.toList.take (lo*e0.n)++mY (zc e0) n0++cur.toList.drop (lo*e0.n+n0*e0.n)).toArray) hr hf hj rfl hg rfl (λ_ hk=>by
     have hlen:(gv e0.zero lo n0 xs0).length=xs0.length:=by simp[gv];omega
     have hcut:(css.take lo++List.replicate n0 (zc e0)++css.drop (lo+n0)).flatten=(cur.toList.take (lo*e0.n)++mY (zc e0) n0++cur.toList.drop (lo*e0.n+n0*e0.n)).take (xs0.length*e0.n):=by
      have f1:=o9 (mY (zc e0) n0) cur.toList (lo*e0.n) (by rw[hrl];simp;omega);have f2:=o9 (mY (zc e0) n0) css.flatten (lo*e0.n) (by rw[hrl,gQ hls,hlc];omega);rw[hrl]at f1 f2;rw[<-f1,v8 _ _ _ _ (by rw[hrl];omega) (by simp;omega),k6,f2,aic,aic,fU lo hls,fL (lo+n0) hls,(mI (qa (A:=λ_=>True) (w:=w) (t:=e0)) n0).2,Nat.add_mul]
     refine⟨css.take lo++List.replicate n0 (zc e0)++css.drop (lo+n0),⟨?_,.inr ⟨b,c',_,by rw[hlen],k1,setRow_heap w b cur _ i.el (0,0) k2,by rw[hlen];exact k3,k4,?_,?_⟩⟩,ez (ez (jY lo (aU (λl y h=>hk _ l y h) ha2)) (mI qa n0).1) (iw (lo+n0) (aU (λl y h=>hk _ l y h) ha2)),hn0⟩
     ·rw[hcut,hlen,af3];simp[hrl];omega
     ·simp[hrl];omega
     ·rw[hlen,hcut]) fl false
    refine ex (w':=w.setRow b (cur.toList.take (lo*e0.n)++mY (zc e0) n0++cur.toList.drop (lo*e0.n+n0*e0.n)).toArray) ?_ (hnext (.tup []) _ _ G _ (.tuple #[]) h m1 m2 ⟨[],rfl,trivial⟩ m3);rw[hxv];obtain⟨m,rfl⟩:∃m,n0=m+1:=⟨n0-1,by omega⟩
    simp[Builtin.clear_,af5 hu,zeroValue,typeInfo,hjj,hjz,hzc,hrun]
 case h_8 f args tys=>
  split at h<;>try (cases h;done)
  rename_i g hs;obtain⟨bs,hbs,hfv⟩:=aI hf hs;have:bs=[]:=by cases bs with|nil=>rfl|cons=>exact hbs.elim
  subst this;split at h
  ·rename_i gm hgm;split at h<;>try (cases h;done)
   rename_i x hargs;split at h<;>try (cases h;done)
   rename_i j hxs;split at h<;>try (cases h;done)
   rename_i et xs hfl hj;split at h<;>try (cases h;done)
   rename_i hlen;have hlen:=afp hlen
   have hsp:∃sp,l6 E g=some sp/\sp.mut_=some gm/\gm.bx=none:=by
    unfold KM at hgm;split at hgm
    ·rename_i sp hsp;split at hgm
     ·rename_i g' hg';split at hgm
      ·cases hgm
      ·rename_i hbx;injection hgm with hgm;subst hgm;exact⟨sp,hsp,hg',hbx⟩
     ·cases hgm
    ·cases hgm
   obtain⟨sp,hsp,hmu,hbx⟩:=hsp;obtain⟨hcl,_,hmc,_⟩:=hE g sp hsp;have hxr:=aI hf hxs;obtain⟨css,ho,ha,hn0⟩:=hr.items j _ _ hj hxr;have hcss:css.flatten=xs.map (Value.int .i64):=zJ ha;rw[hcss]at ho;have hrun:=mh hcl a.eval ⟨dst,.call ⟨.value f,args,tys⟩,type,pos,after,guard⟩ f args tys #[] rfl hfv w;rw[hrun];have e1:Array.map a.eval args++ #[]= #[a.eval x]:=by obtain⟨l⟩:=args;simp only at hargs;subst hargs;simp
   rw[e1];have hmut:zd E L (.call ⟨.value f,args,tys⟩)=true:=by simp only[zd,hs,hgm,Option.isSome_some]
   have hmc:=hmc gm hmu;unfold IJ at hmc;rw[hbx]at hmc;dsimp only at hmc;split at h
   ·rename_i hret;rw[hret]at hmc;refine Calls.mono (hmc w _ et _ xs ho hlen) ?_;rintro e w' ⟨rfl,k1,k2,k3⟩
    have hblk:∀b,b<w.heap.size->(∀g',G[j]?=some g'->bG g'≠some b)->w'.heap[b]?=w.heap[b]?:=λb hb hn=>k3.block b hb λe2=>hn _ hxr e2.symm;have hB:Below w0.heap.size w0 w':=hr.below.grown k3 hr.below.size λq hq=>((hr.items j _ _ hj hxr).blk rfl hq).1 rfl;have hst:=oC (it':=.row et (.int .i64) (gm.g xs)) hr hj rfl hB k3.size hblk;refine hnext (.tup []) _ _ G w' _ h (AW hr hj rfl hB k3.size hblk λg' hg'=>?_) (hf.keep λs v hv=>du hr hst hv) ⟨[],rfl,trivial⟩ ⟨λs v hv _=>du hr hst hv,.inl (by rw[hmut];simp),by simp⟩;rw[show G[j]?=some (a.eval x) from hxr]at hg';injection hg' with hg';subst hg';refine⟨(gm.g xs).map λy=>[Value.int .i64 y],?_,?_,afs _⟩
    ·have e2:((gm.g xs).map λy=>[Value.int .i64 y]).flatten=(gm.g xs).map (Value.int .i64):=by induction gm.g xs with|nil=>rfl|cons y ys ih=>simp[ih]
     rw[e2,k2];exact k1
    ·induction gm.g xs with
     |nil=>trivial
     |cons y ys ih=>exact⟨rfl,ih⟩
   ·rename_i hret;rw[hret]at hmc;refine Calls.mono (hmc w _ et _ xs ho hlen) ?_;rintro e w' ⟨v',rfl,k1,k3,k4⟩
    have hnp:∀q,a.eval x≠.pointer q:=λq hq=>by rcases fa ho with⟨e1,_⟩|⟨b,c,e1⟩<;>rw[hq]at e1<;>cases e1
    have hst:=BN (et':=et) (e':=.int .i64) (xs':=gm.g xs) hr hj hxr hnp k3 hr.below.size (g':=v') (λb hb=>.inl (by rw[<-k4];exact hb));have hlt:=(afx.1 hj).1;refine hnext (.own j) _ _ (G.set j v') w' v' h (hst.sr hr λit' g' q1 q2=>?_) (hf.map λs v hs=>hst.rel1 hr hs (rO j False s)) ?_ ⟨λs v hs hfl'=>?_,.inl (by rw[hmut];simp),by simp⟩
    ·rw[af9,af2 rfl,af2 (by simpa using hlt)]at q1;rw[af9,af2 rfl,af2 (by rw[hr.len];exact hlt)]at q2;injection q1 with q1;injection q2 with q2;subst q1 q2;refine⟨(gm.g xs).map λy=>[Value.int .i64 y],?_,?_,afs _⟩
     ·have e2:((gm.g xs).map λy=>[Value.int .i64 y]).flatten=(gm.g xs).map (Value.int .i64):=by induction gm.g xs with|nil=>rfl|cons y ys ih=>simp[ih]
      rw[e2];exact k1
     ·induction gm.g xs with
      |nil=>trivial
      |cons y ys ih=>exact⟨rfl,ih⟩
    ·show(G.set j v')[j]?=some v';rw[af9,af2 rfl,af2 (by rw[hr.len];exact hlt)]
    ·have hof:s.of1 j=false:=by
      cases hq:s.of1 j with
      |false=>rfl
      |true=>have:=hfl' j hq;have:=aft hfl;omega
     have:=hst.rel1 hr hs (rO j False s);unfold yj at this;rw[hof]at this;exact this
  rename_i hgm;have hmut:zd E L (.call ⟨.value f,args,tys⟩)=false:=by simp only[zd,hs,hgm,Option.isSome_none]
  obtain⟨hcl,hcalls⟩:=DV (Q:=λv w'=>N (a.put dst v) w') hE hI hr hf h λs H' L' G' w' v h1 h2 h3 h4 h5=>hnext s H' L' G' w' v h1 h2 h3 h4 (by rw[hmut];exact h5);have:=mh hcl a.eval ⟨dst,.call ⟨.value f,args,tys⟩,type,pos,after,guard⟩ f args tys #[] rfl hfv w;rw[this];have e1:Array.map a.eval args++ #[]=(args.toList.map a.eval).toArray:=by obtain⟨l⟩:=args;simp
  rw[e1];refine Calls.mono hcalls ?_;rintro e w' ⟨v,rfl,hN⟩
  exact hN
 case h_9=>cases h
end
end
section
def storeDone(ops:Array Oper)(l:Array Bool):Prop:=∃s os,ops[s]?=some os/\dN os.op=true/\l.getD s true=true
def Sst(ops:Array Oper)(S0:World->Prop)(l:Array Bool)(w:World):Prop:=storeDone ops l\/S0 w
def wpG(P:Program)(ops:Array Oper)(Q:Exit->Act->World->Prop)(S0:World->Prop):Nat->Array Bool->Act->World->Prop
 |0,l,a,w=>Region.ready .any ops l=[]/\Q .normal a w
 |n+1,l,a,w=>(Region.ready .any ops l=[]->Q .normal a w)/\
  ∀i∈Region.ready .any ops l,wpOp P ops Q i (λa' w'=>Sst ops S0 (l.setIfInBounds i true) w'/\wpG P ops Q S0 n (l.setIfInBounds i true) a' w') a w
def Clo(ops:Array Oper)(l:Array Bool):Prop:=∀j oj,ops[j]?=some oj->l.getD j true=true->∀e∈oj.after,Region.binds .any e=true->l.getD e.on false=true
theorem Clo.set{ops:Array Oper}{l:Array Bool}{j:Nat}(h:Clo ops l)(hj:j∈Region.ready .any ops l):Clo ops (l.setIfInBounds j true):=by
 intro k ok hk hd e he hb;by_cases hjk:j=k
 ·subst hjk;obtain⟨_,o,ho,hall⟩:=agv.1 hj;rw[hk]at ho;injection ho with ho;subst ho;exact aii (hall e he hb)
 ·rw[ahU true hjk]at hd;exact aii (h k ok hk hd e he hb)
theorem sF{ops:Array Oper}:Clo ops (mkL ops.size []):=by
 intro j oj hj hd;have hlt:=(afE.1 hj).1;simp_all [mkL]
def gH(ops:Array Oper):Nat->Nat->Nat->Bool
 |0,_,_=>false
 |n+1,s,i=>match ops[s]? with
  |some os=>os.after.toList.any λe=>Region.binds .any e&&(Nat.beq e.on i||gH ops n e.on i)
  |none=>false
theorem tw{ops:Array Oper}{l:Array Bool}(hc:Clo ops l){i:Nat}:∀{n s:Nat},gH ops n s i=true->(∀os,ops[s]?=some os->∀e∈os.after,Region.binds .any e=true->l.getD e.on false=true)->l.getD i false=true:=by
 intro n;induction n with
 |zero=>intro s h;simp[gH]at h
 |succ n ih=>
  intro s h hs;unfold gH at h;split at h<;>try (cases h;done)
  rename_i os hos;rw[List.any_eq_true]at h;obtain⟨e,he,hb⟩:=h;simp only[afr,aho]at hb;rcases hb.2 with h1|h1
  ·grind [afq]
  ·refine ih h1 λos' ho' e' he' hb'=>hc e.on os' ho' ?_ e' he' hb';grind
def vS(ops:Array Oper)(i:Nat):Bool:=(List.range ops.size).all λs=>match ops[s]? with
 |some os=>!dN os.op||gH ops 4 s i
 |none=>true
theorem D5{ops:Array Oper}{l:Array Bool}(hc:Clo ops l){i j:Nat}{oj:Oper}(h:vS ops i=true)(hi:l.getD i true=false)(hj:j∈Region.ready .any ops l)(hoj:ops[j]?=some oj):dN oj.op=false:=by
 have h1:=afI.1 h j (by simpa using(afE.1 hoj).1);rw[hoj]at h1;simp only[aho,ag4]at h1;rcases h1 with h1|h1
 ·omega
 ·obtain⟨_,o,ho,hall⟩:=agv.1 hj;grind [tw]
section
variable {P:Program} {ops:Array Oper} {Q:Exit->Act->World->Prop} {S0:World->Prop}
theorem storeDone.set{l:Array Bool}(h:storeDone ops l)(i:Nat):storeDone ops (l.setIfInBounds i true):=by
 obtain⟨s,os,h1,h2,h3⟩:=h;refine⟨s,os,h1,h2,?_⟩;by_cases hs:i=s<;>simp_all
theorem storeDone.unset{l:Array Bool}{i:Nat}{oi:Oper}(hi:ops[i]?=some oi)(hq:dN oi.op=false)(h:storeDone ops (l.setIfInBounds i true)):storeDone ops l:=by
 obtain⟨s,os,h1,h2,h3⟩:=h;refine⟨s,os,h1,h2,?_⟩;have hs:i≠s:=λe=>by subst e;rw[hi]at h1;injection h1 with h1;subst h1;rw[hq]at h2;cases h2
 simp_all
theorem Sst.set{l:Array Bool}{w:World}(h:Sst ops S0 l w)(i:Nat):Sst ops S0 (l.setIfInBounds i true) w:=h.elim (λh=>.inl (h.set i)) .inr
theorem BH:∀(n:Nat) (l:Array Bool) (a:Act) (w:World),wpG P ops Q S0 n l a w->wpAny P .any ops Q n l a w
 |0,_,_,_,h=>h
 |n+1,_,_,_,h=>⟨h.1,λi hi=>wpOp_mono (λa' w' h'=>BH n _ a' w' h'.2) (h.2 i hi)⟩
theorem eE{l:Array Bool}{i j:Nat}{oj:Oper}(hr:i∈Region.ready .any ops l)(hj:j∈Region.ready .any ops l)(hoj:ops[j]?=some oj):∀e∈oj.after,Region.binds .any e=true->e.on≠i:=λe he hb heq=>by
 obtain⟨_,o,ho,hall⟩:=agv.1 hj;rw[hoj]at ho;injection ho with ho;subst ho;have hiun:=(agv.1 hr).1;have h2:=hall e he hb;rw[heq]at h2;rcases afZ i l.size with h'|h'
 ·simp[h']at hiun h2;rw[hiun]at h2;cases h2
 ·simp[ag1 h']at h2
theorem Jj{i:Nat}{oi:Oper}{v:Value}(hi:ops[i]?=some oi)(hsel:∀(j:Nat) (o:Oper) cs b,ops[j]?=some o->o.op≠.select cs b)
  (hQ:∀c a w,Q (.panic c) (a.put oi.dst v) w->Q (.panic c) a w) (hq:dN oi.op=false) (hst:vS ops i=true):
  ∀(n:Nat) (l:Array Bool) (a:Act) (w:World),
   (∀j oj,ops[j]?=some oj->j≠i->l.getD j true=false->(∀e∈oj.after,Region.binds .any e=true->e.on≠i)->oi.apart ops oj=true)->
   Clo ops l->¬storeDone ops l->i∈Region.ready .any ops l->YieldsIf P ops S0 oi v a->S0 w->
   wpG P ops Q S0 n (l.setIfInBounds i true) (a.put oi.dst v) w->wpG P ops Q S0 (n+1) l a w:=by
 intro n;induction n with
 |zero=>
  intro l a w _ _ _ hr hy hS H;refine⟨λh=>(by rw[h]at hr;cases hr),λj hj=>?_⟩;by_cases hji:j=i
  ·subst hji;exact hy.wpOp hi hS ⟨.inr hS,H⟩
  ·have:=agM hj hji;rw[H.1]at this;cases this
 |succ n ih=>
  intro l a w hfree hcl hun hr hy hS H;refine⟨λh=>(by rw[h]at hr;cases hr),λj hj=>?_⟩;by_cases hji:j=i
  ·subst hji;exact hy.wpOp hi hS ⟨.inr hS,H⟩
  ·have h1:=H.2 j (agM hj hji);obtain⟨hjun,oj,hoj,hall⟩:=agv.1 hj;have hiun:=(agv.1 hr).1;have hjs:=D5 hcl hst hiun hj hoj;have h2:=wpOp_putIf hoj (hfree j oj hoj hji hjun (eE hr hj hoj)) (λcs b=>hsel i oi cs b hi) (λcs b=>hsel j oj cs b hoj) hQ hy h1;have hun':¬storeDone ops (l.setIfInBounds j true):=λh=>hun (h.unset hoj hjs)
   have hfree':∀k ok,ops[k]?=some ok->k≠i->(l.setIfInBounds j true).getD k true=false->(∀e∈ok.after,Region.binds .any e=true->e.on≠i)->oi.apart ops ok=true:=λk ok hk hki hu hno=>by
    refine hfree k ok hk hki ?_ hno;by_cases hjk:j=k
    ·subst hjk;exact hjun
    ·rw[ahU true hjk]at hu;exact hu
   refine wpOp_mono (λa' w' h3=>?_) h2;obtain⟨y1,y2,y3⟩:=h3
   have hS':S0 w':=by
    rcases y2 with h|h
    ·exact absurd ((h.unset hoj hjs).unset hi hq) hun
    ·exact h
   refine⟨.inr hS',ih (l.setIfInBounds j true) a' w' hfree' (hcl.set hj) hun' (agM hr (ahi hji)) y1 hS' ?_⟩;rw[agj _ _ hji];exact y3
theorem DW{i:Nat}{oi:Oper}{v:Value}(hi:ops[i]?=some oi)(hsel:∀(j:Nat) (o:Oper) cs b,ops[j]?=some o->o.op≠.select cs b)
  (hQ:∀c a w,Q (.panic c) (a.put oi.dst v) w->Q (.panic c) a w) (hq:dN oi.op=false):
  ∀(n:Nat) (l:Array Bool) (a:Act) (w:World),
   (∀j oj,ops[j]?=some oj->j≠i->l.getD j true=false->(∀e∈oj.after,Region.binds .any e=true->e.on≠i)->oi.apart ops oj=true)->
   i∈Region.ready .any ops l->YieldsIf P ops (λ_=>True) oi v a->Sst ops S0 l w->
   wpG P ops Q S0 n (l.setIfInBounds i true) (a.put oi.dst v) w->wpG P ops Q S0 (n+1) l a w:=by
 intro n;induction n with
 |zero=>
  intro l a w _ hr hy hS H;refine⟨λh=>(by rw[h]at hr;cases hr),λj hj=>?_⟩;by_cases hji:j=i
  ·subst hji;exact hy.wpOp hi trivial ⟨hS.set _,H⟩
  ·have:=agM hj hji;rw[H.1]at this;cases this
 |succ n ih=>
  intro l a w hfree hr hy hS H;refine⟨λh=>(by rw[h]at hr;cases hr),λj hj=>?_⟩;by_cases hji:j=i
  ·subst hji;exact hy.wpOp hi trivial ⟨hS.set _,H⟩
  ·have h1:=H.2 j (agM hj hji);obtain⟨hjun,oj,hoj,hall⟩:=agv.1 hj;have h2:=wpOp_putIf hoj (hfree j oj hoj hji hjun (eE hr hj hoj)) (λcs b=>hsel i oi cs b hi) (λcs b=>hsel j oj cs b hoj) hQ hy h1
   have hfree':∀k ok,ops[k]?=some ok->k≠i->(l.setIfInBounds j true).getD k true=false->(∀e∈ok.after,Region.binds .any e=true->e.on≠i)->oi.apart ops ok=true:=λk ok hk hki hu hno=>by
    refine hfree k ok hk hki ?_ hno;by_cases hjk:j=k
    ·subst hjk;exact hjun
    ·rw[ahU true hjk]at hu;exact hu
   refine wpOp_mono (λa' w' h3=>?_) h2;obtain⟨y1,y2,y3⟩:=h3
   have hS':Sst ops S0 (l.setIfInBounds j true) w':=by
    rcases y2 with h|h
    ·rw[agj _ _ (ahi hji)]at h;exact .inl (h.unset hi hq)
    ·exact .inr h
   refine⟨hS',ih (l.setIfInBounds j true) a' w' hfree' (agM hr (ahi hji)) y1 hS' ?_⟩;rw[agj _ _ hji];exact y3
theorem vH{rs:List Nat}{n:Nat}{l:Array Bool}{a:Act}{w:World}(hr:Region.ready .any ops l=rs)(hne:rs≠[])
  (h:∀i∈rs,wpOp P ops Q i (λa' w'=>Sst ops S0 (l.setIfInBounds i true) w'/\wpG P ops Q S0 n (l.setIfInBounds i true) a' w') a w):wpG P ops Q S0 (n+1) l a w:=
 ⟨λh0=>absurd (hr▸h0) hne,hr▸h⟩
theorem w8{l:Array Bool}{a:Act}{w:World}(hr:Region.ready .any ops l=[])(h:Q .normal a w):∀n,wpG P ops Q S0 n l a w
 |0=>⟨hr,h⟩
 |_+1=>⟨λ_=>h,by rw[hr];simp⟩
end
theorem pV(l:Array Bool)(k:Nat):(l.setIfInBounds k true).getD k true=true:=by simp
end
def isQ:Op->Bool
 |.move _|.assign _|.nilCheck _|.pick .. |.load .. |.fieldAddr .. |.indexAddr .. |.extract .. |.build .. |.makeFunc .. |.slice .. |.binOp .. |.unOp .. |.convert .. |.index .. |.field .. =>true
 |.call ⟨.builtin .len,_,_⟩|.call ⟨.builtin .max,_,_⟩|.call ⟨.builtin .min,_,_⟩=>true
 |_=>false
theorem G8{o:Op}(h:isQ o=true):dN o=false:=by
 cases o with
 |store=>cases h
 |call c=>
  obtain⟨f,x,y⟩:=c;cases f with
  |builtin b=>cases b<;>first|rfl|cases h
  |_=>rfl
 |_=>rfl
def gS(L:SL):List Nat->SL
 |[]=>[]
 |t::ts=>match aJ L t with
  |some s=>(t,s)::gS L ts
  |none=>gS L ts
abbrev mW(L:SL)(_:Nat):SL:=L
def cY{R:Type}(ops:Array Oper)(L:SL)(o:Oper)(yes no:SL->Option R):Option R:=match o.guard with
 |none=>yes L
 |some (j,want)=>match(ops[j]?).bind (·.dst)with
  |some d=>match aJ L d with
   |some (.d .bool b)=>match b with
    |true=>match want with
     |true=>yes ((d,.d .bool true)::L)
     |false=>no ((d,.d .bool true)::L)
    |false=>match want with
     |true=>no ((d,.d .bool false)::L)
     |false=>yes ((d,.d .bool false)::L)
   |some .undef=>no L
   |_=>none
  |none=>none
def ka(o:Op):Bool:=isQ o&&match o with
 |.binOp op _ _ y _=>(Gy op y).isNone
 |_=>true
def B7(E:Env):Op->Bool
 |.call ⟨.value (.func f),_,_⟩=>match l6 E f with
  |some sp=>sp.tame&&(match sp.mut_ with
   |none=>true
   |some g=>g.bx.isSome)
  |none=>false
 |_=>false
def aV(o:Oper):Bool:=(match o.op with
 |.alloc _=>true
 |_=>false)&&o.guard.isNone&&o.dst.isSome
def fp(E:Env)(o:Oper):Bool:=ka o.op||B7 E o.op
def dZ(E:Env)(ops:Array Oper)(j:Nat):Bool:=match ops[j]? with
 |some o=>fp E o
 |none=>false
def eG(E:Env)(ops:Array Oper)(j:Nat):Bool:=match ops[j]? with
 |some o=>!(fp E o)&&!(aV o)
 |none=>false
def iU(E:Env)(ops:Array Oper)(i:Nat):Bool:=(List.range ops.size).all λs=>!(eG E ops s)||gH ops 4 s i
def Bv(E:Env)(ops:Array Oper):Bool:=ops.toList.all λo=>fp E o||aV o||(isSt o.op&&o.guard.isNone&&o.dst.isNone)
def zt(o:Oper):Bool:=ka o.op&&!(m8 o.op)
def ck(E:Env)(ops:Array Oper):Bool:=(List.range ops.size).all λj=>match ops[j]? with
 |some o=>!(fp E o)||zt o||iU E ops j
 |none=>true
def QW(ops:Array Oper):Bool:=ops.toList.all λo=>match o.op with
 |.store _ (.tmp d) _=>ops.toList.any λa=>aV a&&(match a.dst with
  |some e=>Nat.beq e d
  |none=>false)
 |.store .. =>false
 |_=>true
def aaC(E:Env)(ops:Array Oper):Bool:=(ck E ops||(Bv E ops&&QW ops))&&E.any (λp=>p.2.tame)&&(!(ops.toList.any aV)||Bv E ops)
def X2:List RV->Option SV
 |[.d t x]=>some (.d t x)
 |[.new _ _ _]=>none
 |rs=>match rvS rs with
  |some l=>some (.tup l)
  |none=>none
def TW{R:Type}(T:TT)(E:Env)(L:SL)(H:List Item)(f:Nat)(args:List Operand)(tys:List Nat)(k:SV->Option R):Option R:=match l6 E f with
 |some sp=>match yc L args with
  |some ss=>match gL T H ss tys,ss.all SV.noOwn with
   |some al,true=>sp.run R al λrs=>match X2 rs with
    |some s=>k s
    |none=>none
   |_,_=>none
  |none=>none
 |none=>none
def tq{R:Type}(P:Program)(T:TT)(E:Env)(L:SL)(H:List Item)(o:Oper)(k:SV->Option R):Option R:=match ka o.op with
 |true=>qop P T true L H o k
 |false=>match B7 E o.op,o.op with
  |true,.call ⟨.value (.func f),args,tys⟩=>TW T E L H f args.toList tys.toList k
  |_,_=>none
def SV.refs(hl:Nat):SV->Bool
 |.box j _=>Nat.ble (j+1) hl
 |.own j=>Nat.ble (j+1) hl
 |.oelt j _ _ _=>Nat.ble (j+1) hl
 |.osl j _ _ _=>Nat.ble (j+1) hl
 |.clo _ caps=>caps.all λj=>Nat.ble (j+1) hl
 |.tup _=>false
 |_=>true
def SV.refsT(hl:Nat):SV->Bool
 |.tup l=>l.all (SV.refs hl)
 |s=>s.refs hl
def fD(E:Env)(ops:Array Oper)(l:Array Bool):Bool:=(List.range ops.size).all λk=>l.getD k true||!(dZ E ops k)||(List.range ops.size).any λs=>eG E ops s&&!(l.getD s true)&&gH ops 4 k s
structure AlA where
 i:Nat
 d:Nat
 t:Nat
 cs:List SV
structure AlS where
 i:Nat
 j:Nat
 off:Nat
 l:List SV
def alA(T:TT)(N:Nat):List Oper->Nat->Option (List AlA)
 |[],_=>some []
 |o::r,i=>match aV o with
  |false=>alA T N r (i+1)
  |true=>match o.op,o.dst with
   |.alloc t,some d=>match dp T t,Nat.ble (d+1) N,alA T N r (i+1)with
    |some x,true,some l=>match x.z,x.ty with
     |_,.pair _ _=>none
     |true,ty=>match l.all (λb=>!(Nat.beq i b.i)&&!(Nat.beq d b.d))with
      |true=>some (⟨i,d,t,ty.zsplit⟩::l)
      |false=>none
     |_,_=>none
    |_,_,_=>none
   |_,_=>none
def fW(f:Nat->Bool):List AlA->Nat->SL->SL
 |[],_,L=>L
 |a::r,k,L=>fW f r (k+1) (match f a.i with
  |true=>(a.d,.box k 0)::L
  |false=>L)
def alX(f:Nat->Bool)(la:List AlA):List Item:=la.map λa=>match f a.i with
 |true=>.box a.t a.cs
 |false=>.gone
def I1:Operand->Nat->Bool
 |.tmp t,d=>Nat.beq t d
 |_,_=>false
def Fy(s p:AlS):Bool:=!(Nat.beq s.i p.i)&&(!(Nat.beq s.j p.j)||Nat.ble (s.off+s.l.length) p.off||Nat.ble (p.off+p.l.length) s.off)
def Fu(ops:Array Oper)(i j:Nat):List AlA->Nat->Bool
 |[],_=>true
 |a::r,k=>(!(Nat.beq j k)||gH ops 4 i a.i)&&Fu ops i j r (k+1)
def alS(T:TT)(E:Env)(ops:Array Oper)(l:Array Bool)(la:List AlA)(h0:Nat)(La:SL)(Ha:List Item):List Oper->Nat->Option (List AlS)
 |[],_=>some []
 |o::r,i=>match l.getD i true||aV o||fp E o with
  |true=>alS T E ops l la h0 La Ha r (i+1)
  |false=>match o.op with
   |.store t x v=>match o.guard,o.dst,opS La x,opS La v,dp T t with
    |none,none,some (.box j off),some s,some y=>match fY [] s,Ha[j]?,alS T E ops l la h0 La Ha r (i+1)with
     |some cs,some (.box _ cells),some ss=>match Nat.beq cs.length y.ty.n&&Nat.ble (off+cs.length) cells.length&&cs.all (SV.refs h0)&&la.all (λa=>!(I1 x a.d||I1 v a.d)||gH ops 4 i a.i)&&Fu ops i j la h0&&ss.all (Fy ⟨i,j,off,cs⟩)with
      |true=>some (⟨i,j,off,cs⟩::ss)
      |false=>none
     |_,_,_=>none
    |_,_,_,_,_=>none
   |_=>none
def stP(s:AlS)(H:List Item):List Item:=match H[s.j]? with
 |some (.box bt cells)=>H.set s.j (.box bt (nD cells s.off s.l))
 |_=>H
def cB(f:Nat->Bool):List AlS->List Item->List Item
 |[],H=>H
 |s::r,H=>match f s.i with
  |true=>stP s (cB f r H)
  |false=>cB f r H
def Es(ops:Array Oper):Array Bool->List Nat->Bool
 |_,[]=>true
 |l,i::r=>(match ops[i]? with
  |some o=>o.after.toList.all λe=>!(Region.binds .any e)||l.getD e.on false
  |none=>false)&&Es ops (l.setIfInBounds i true) r
def Gt(E:Env)(ops:Array Oper)(l:Array Bool)(C:List Nat):Bool:=(List.range ops.size).all λk=>l.getD k true||!(dZ E ops k)||C.all (λj=>gH ops 4 k j)
def XC(T:TT)(E:Env)(N:Nat)(ops:Array Oper)(l:Array Bool)(L:SL)(H:List Item):Option (SL×List Item×List Nat):=match alA T N ops.toList 0 with
 |some la=>match alS T E ops l la H.length (fW (λ_=>true) la H.length L) (H++alX (λ_=>true) la) ops.toList 0 with
  |some ss=>match Es ops l (la.map (·.i)++ss.map (·.i))&&Gt E ops l (la.map (·.i)++ss.map (·.i))&&(ck E ops||(ss.all (λs=>Nat.ble H.length s.j)&&(List.range ops.size).all λk=>l.getD k true||!(dZ E ops k)))with
   |true=>some (fW (λ_=>true) la H.length L,cB (λ_=>true) ss (H++alX (λ_=>true) la),la.map (·.i)++ss.map (·.i))
   |false=>none
  |none=>none
 |none=>none
def WX(E:Env)(f:Nat):Option Nat:=match l6 E f with
 |some sp=>match sp.mut_ with
  |some g=>g.bx
  |none=>none
 |none=>none
def aeQ(E:Env)(o:Oper):Bool:=match o.op with
 |.call ⟨.value (.func f),_,_⟩=>(WX E f).isSome
 |_=>false
def bxC(E:Env)(L:SL)(H:List Item)(o:Oper):Option (Nat×SV×Bool):=match o.op with
 |.call ⟨.value (.func f),⟨[x,y,z]⟩,_⟩=>match WX E f with
  |some t=>match opS L x,opS L y,opS L z with
   |some (.box j 0),some (.d (.st (.pair (.int .i64) (.int .i64))) i),some (.d .bool c)=>match H[j]? with
    |some (.box t' [.d .bool _])=>match Nat.beq t t' with
     |true=>some (j,.d (.st (.pair (.int .i64) (.int .i64))) i,c)
     |false=>none
    |_=>none
   |_,_,_=>none
  |none=>none
 |_=>none
def lG(j:Nat)(c:Bool)(H:List Item):List Item:=match H[j]? with
 |some (.box t [.d .bool b])=>H.set j (.box t [.d .bool (b&&c)])
 |_=>H
def ddI:Item->Item
 |.box t [.d .bool _]=>.box t [.dead]
 |it=>it
def ddJ:Item->Item
 |.box t [.d .bool _]=>.box t [.d .bool false]
 |it=>it
def BM(E:Env)(ops:Array Oper)(D:List Nat):List Nat->Option Nat
 |[]=>none
 |j::r=>match ops[j]? with
  |some o=>match fp E o&&o.dst.isSome&&Region.free .any ops (mkL ops.size D) j&&(iU E ops j||!(ck E ops))with
   |true=>some j
   |false=>BM E ops D r
  |none=>none
def D3(E:Env)(ops:Array Oper)(D:List Nat):List Nat->Option Nat
 |[]=>none
 |j::r=>match ops[j]? with
  |some o=>match fp E o&&o.dst.isSome&&Region.free .any ops (mkL ops.size D) j&&(zt o||iU E ops j||!(ck E ops))with
   |true=>some j
   |false=>D3 E ops D r
  |none=>none
def aaN(E:Env)(ops:Array Oper)(l:Array Bool):Bool:=E.any (λp=>p.2.tame)&&(List.range ops.size).all λk=>l.getD k true||dZ E ops k
def C0(E:Env)(ops:Array Oper)(D:List Nat):List Nat->Option Nat
 |[]=>none
 |j::r=>match ops[j]? with
  |some o=>match fp E o&&o.dst.isSome&&Region.free .any ops (mkL ops.size D) j with
   |true=>some j
   |false=>C0 E ops D r
  |none=>none
section
inductive KJ where
 |seq (i:Nat)
 |blk (id:Nat)
 |lp (i:Nat)
structure Fm where
 f:Nat
 K:List KJ
 i:Nat
 k:Nat
 L:SL
 fl:Nat
 d:Option (List Nat):=none
structure Cfg where
 f:Nat
 K:List KJ
 L:SL
 H:List Item
 fl:Nat
 fs:List Fm
def Pn(a b:Nat):Nat:=bif Nat.ble a b then b else a
def SV.ofm:SV->Nat
 |.own j=>j+1
 |.oelt j _ _ _=>j+1
 |.osl j _ _ _=>j+1
 |_=>0
def SV.ofmT:SV->Nat
 |.tup l=>l.foldr (λs m=>Pn s.ofm m) 0
 |s=>s.ofm
def slM:SL->Nat
 |[]=>0
 |(_,s)::r=>Pn s.ofmT (slM r)
def Pf:List Fm->Nat
 |[]=>0
 |fm::r=>Pn (slM fm.L) (Pf r)
inductive Pos where
 |nrm
 |node (i:Nat)
 |ops (i k:Nat)
 |drw (i:Nat) (rw eff:Bool) (D:List Nat)
 |tam (i:Nat) (D:List Nat)
 |tal (i:Nat) (D:List Nat)
 |tbx (i:Nat) (D:List Nat)
 |ret
abbrev FT:=List (Nat×Func)
def fV:FT->Nat->Option Func
 |[],_=>none
 |(k,x)::r,t=>match Nat.beq k t with
  |true=>some x
  |false=>fV r t
def aj(F:FT)(f:Nat):Code:=match fV F f with
 |some fn=>fn.body.getD .skip
 |none=>.skip
structure NI where
 keep:List Nat
 own:List (Nat×Nat×Ty):=[]
 pure_:List (Nat×Ty):=[]
 bx:List (Nat×Nat×Nat×Ty):=[]
 hl:Nat
abbrev NT:=List ((Nat×Nat)×NI)
def Kv:NT->Nat->Nat->Option NI
 |[],_,_=>none
 |((f,i),x)::r,g,j=>match Nat.beq f g&&Nat.beq i j with
  |true=>some x
  |false=>Kv r g j
def ge(n:Nat)(L:SL):Option Nat->SV->Option SL
 |none,_=>some L
 |some d,s=>match Nat.ble (d+1) n with
  |true=>some ((d,s)::mW L d)
  |false=>none
def Em(N:NT)(f i:Nat)(L:SL):SL:=match Kv N f i with
 |some x=>gS L x.keep
 |none=>L
def CV(L:SL):List Nat->Option SL
 |[]=>some []
 |t::ts=>match aJ L t,CV L ts with
  |some s,some r=>some ((t,s)::r)
  |_,_=>none
def Item.refs(hl:Nat):Item->Bool
 |.box _ cs=>cs.all (SV.refs hl)
 |_=>true
def pJ:List (Nat×Nat×Ty)->SL->List Item->Option (SL×List Item)
 |[],L,H=>some (L,H)
 |(t,et,e)::r,L,H=>match aJ L t with
  |some .nil=>match Nat.ble 1 e.n with
   |true=>pJ r ((t,.own H.length)::mW L t) (H++[.row et e []])
   |false=>none
  |_=>pJ r L H
def kC(fl:Nat):List (Nat×Ty)->SL->List Item->Option (SL×List Item)
 |[],L,H=>some (L,H)
 |(t,e)::r,L,H=>match aJ L t with
  |some .nil=>kC fl r ((t,.d (.sl e) [])::mW L t) H
  |some (.own j)=>match uD fl j L H with
   |some (L',H')=>kC fl r L' H'
   |none=>none
  |_=>kC fl r L H
def mu:List (Nat×Nat×Nat×Ty)->List Item->List Item
 |[],H=>H
 |(j,q,et,e)::r,H=>match H[j]? with
  |some (.box t cs)=>match cs[q]?,Nat.ble 1 e.n with
   |some .nil,true=>mu r ((H.set j (.box t (cs.set q (.own H.length))))++[.row et e []])
   |_,_=>mu r H
  |_=>mu r H
def Wa(x:NI)(c:Cfg):Option Cfg:=match pJ x.own c.L (mu x.bx c.H)with
 |some (L1,H1)=>match kC c.fl x.pure_ L1 H1 with
  |some (L2,H2)=>match CV L2 x.keep with
   |some L3=>match L3.all (λp=>p.2.refs x.hl)&&(H2.take x.hl).all (Item.refs x.hl)&&Nat.ble c.fl x.hl with
    |true=>some {c with L:=L3,H:=H2.take x.hl}
    |false=>none
   |none=>none
  |none=>none
 |none=>none
def C3(id:Nat):List KJ->Option (List KJ)
 |[]=>none
 |.blk j::K=>match Nat.beq j id with
  |true=>some K
  |false=>C3 id K
 |_::K=>C3 id K
def Cx(ops:Array Oper)(eff:Bool)(D:List Nat):List Nat->Option Nat
 |[]=>none
 |j::r=>match ops[j]? with
  |some o=>match isQ o.op&&!(m8 o.op&&(eff||!vS ops j))&&o.dst.isSome&&Region.free .any ops (mkL ops.size D) j with
   |true=>some j
   |false=>Cx ops eff D r
  |none=>none
def Dc(T:TT)(H:List Item)(L:SL):List ResultVar->Option (List SV)
 |[]=>some []
 |.tmp t::r=>match aJ L t,Dc T H L r with
  |some s,some l=>some (s::l)
  |_,_=>none
 |.cell ad t::r=>match aJ L ad,dp T t,Dc T H L r with
  |some (.box j off),some i,some l=>match H[j]? with
   |some (.box _ cells)=>match Il i.ty (cells.drop off)with
    |some s=>some (s::l)
    |none=>none
   |_=>none
  |_,_,_=>none
def yh(T:TT)(H:List Item)(ss:List SV)(tys:List Nat):Option (List RV):=match ss with
 |[.own j]=>match H[j]? with
  |some (.row et e xs)=>some [.new et e xs]
  |_=>none
 |[.nil]=>match tys with
  |[t]=>match dp T t with
   |some i=>match i.ty with
    |.sl e=>match Nat.ble 1 e.n with
     |true=>some [.new i.el e []]
     |false=>none
    |_=>none
   |none=>none
  |_=>none
 |ss=>match gL T H ss tys with
  |some l=>outL l
  |none=>none
where outL:List SV->Option (List RV)
 |[]=>some []
 |.d t x::r=>match outL r with
  |some l=>some (.d t x::l)
  |none=>none
 |_=>none
def ON{α:Type}(f:α->α->Bool):List α->List α->Bool
 |[],[]=>true
 |x::l,y::m=>match f x y with
  |true=>ON f l m
  |false=>false
 |_,_=>false
theorem Ae{α:Type}{f:α->α->Bool}(hf:∀x y,f x y=true->x=y):∀{l m:List α},ON f l m=true->l=m
 |[],[],_=>rfl
 |x::l,y::m,h=>by
  simp only[ON]at h;split at h
  ·rename_i h1;rw[hf x y h1,Ae hf h]
  ·cases h
 |[],_::_,h=>by cases h
 |_::_,[],h=>by cases h
def Ty.beq:(t:Ty)->t.D->t.D->Bool
 |.int _,x,y=>decide ((x:Int)=y)
 |.bool,x,y=>match x,y with
  |true,true=>true
  |false,false=>true
  |_,_=>false
 |.str,_,_=>false
 |.sl e,x,y=>ON e.beq x y
 |.pair a b,x,y=>match a.beq x.1 y.1 with
  |true=>b.beq x.2 y.2
  |false=>false
 |.st a,x,y=>a.beq x y
theorem Ty.beq_ok:∀(t:Ty) (x y:t.D),t.beq x y=true->x=y
 |.int _,x,y,h=>afp (p:=(x:Int)=y) h
 |.bool,x,y,h=>by cases x<;>cases y<;>first|rfl|cases h
 |.str,_,_,h=>by cases h
 |.sl e,x,y,h=>Ae e.beq_ok h
 |.pair a b,(x1,x2),(y1,y2),h=>by
  simp only[Ty.beq]at h;split at h
  ·rename_i h1;rw[a.beq_ok _ _ h1,b.beq_ok _ _ h]
  ·cases h
 |.st a,x,y,h=>a.beq_ok x y h
def RV.beq:RV->RV->Bool
 |.d t x,.d t' y=>match ff t t' x with
  |some z=>t'.beq z y
  |none=>false
 |.new n e xs,.new m e' ys=>match Nat.beq n m,ff (.sl e) (.sl e') xs with
  |true,some z=>Ty.beq (.sl e') z ys
  |_,_=>false
 |_,_=>false
theorem RV.beq_ok:∀(x y:RV),x.beq y=true->x=y
 |.d t x,.d t' y,h=>by
  simp only[RV.beq]at h;split at h
  ·rename_i z hz;obtain⟨rfl,rfl⟩:=dl hz;rw[<-Ty.beq_ok _ _ _ h]
  ·cases h
 |.new n e xs,.new m e' ys,h=>by
  simp only[RV.beq]at h;split at h
  ·rename_i z h1 hz;obtain⟨he,rfl⟩:=dl hz;cases he;rw[<-Ty.beq_ok _ _ _ h,afq h1]
  ·cases h
 |.d _ _,.new _ _ _,h=>by cases h
 |.new _ _ _,.d _ _,h=>by cases h
def aeP:Option (List RV)->Option (List RV)->Bool
 |some x,some y=>ON RV.beq x y
 |_,_=>false
def cS(x y:Option (List RV)):Option (List RV):=match aeP x y with
 |true=>x
 |false=>BX x y
theorem cM(x:Option (List RV)):cS x x=x:=by
 unfold cS;split
 ·rfl
 simp[dB]
theorem EF{x y:Option (List RV)}{r:List RV}(h:cS x y=some r):x=some r/\y=some r:=by
 unfold cS at h;split at h
 ·rename_i he;subst h;cases y with
  |none=>cases he
  |some y=>exact⟨rfl,by rw[Ae RV.beq_ok he]⟩
 grind [yp]
inductive Sh where
 |l
 |b (x y:Sh)
def dup:Sh->Option (List RV)->Option (List RV)
 |.l,x=>x
 |.b s t,x=>cS (dup s x) (dup t x)
theorem dV:∀(s:Sh) (x:Option (List RV)),dup s x=x
 |.l,_=>rfl
 |.b s t,x=>by rw[dup,dV s,dV t,cM]
def KO(f:Nat->Option (List RV)):List Nat->Option (List RV)
 |[]=>none
 |j::rs=>match rs with
  |[]=>f j
  |_::_=>cS (f j) (KO f rs)
theorem zM{f:Nat->Option (List RV)}{r:List RV}:∀{rs:List Nat},KO f rs=some r->∀j∈rs,f j=some r
 |[],h=>by simp[KO]at h
 |[q],h=>by intro j hj;simp at hj;subst hj;exact h
 |q::q'::rs,h=>by
  have h:cS (f q) (KO f (q'::rs))=some r:=h;have⟨h1,h2⟩:=EF h;intro j hj;rcases afy.1 hj with rfl|hj
  ·exact h1
  ·exact zM h2 j hj
def aay:List SV->SV
 |[s]=>s
 |l=>.tup l
section
variable (P:Program) (F:FT) (T:TT) (E:Env) (N:NT) (Fin:Nat->Cfg->Option (List RV))
def head(i:Nat)(c:Cfg):Option (List RV):=match Kv N c.f i with
 |some x=>match Wa x c with
  |some c'=>Fin i c'
  |none=>none
 |none=>Fin i c
def ntm(f:Nat):Nat:=match fV F f with
 |some fn=>fn.ntmps
 |none=>0
def rH:Nat->List SV->SL
 |_,[]=>[]
 |k,s::r=>(k,s)::rH (k+1) r
def aad(E:Env)(g:Nat):Bool:=match l6 E g with
 |some sp=>match sp.mut_ with
  |some m=>m.bx.isSome
  |none=>false
 |none=>true
def Iw(L:SL)(o:Op):Option (Nat×List SV):=match o with
 |.call ⟨.value f,args,_⟩=>match opS L f with
  |some (.clo g caps)=>match aad E g with
   |false=>none
   |true=>match fV F g,yc L args.toList with
    | some fn, some ss => match Nat.ble (ss.length + caps.length) fn.ntmps && (!(fn.name == "runtime.NumGoroutine") && fn.body.isSome) with
     |true=>some (g,ss++caps.map λj=>.box j 0)
     |false=>none
    |_,_=>none
  |_=>none
 |_=>none
def Ta(L:SL)(ops:Array Oper)(D:List Nat):Option Nat:=match ck E ops&&!(ops.toList.any aV),Region.ready .any ops (mkL ops.size D)with
 |true,[j]=>match ops[j]? with
  |some o=>match isQ o.op,Iw F E L o.op,Nat.ble (D.length+1) ops.size with
   |false,some _,true=>some j
   |_,_,_=>none
  |none=>none
 |_,_=>none
def stC(φ:Nat->(Nat->Option (List RV))->Option (List RV))(rec:Cfg->Pos->Option (List RV))(f:Nat)(K:List KJ)(L:SL)(H:List Item)(fl:Nat)(fs:List Fm):Pos->Option (List RV)
 |.nrm=>match K with
  |[]=>rec ⟨f,[],L,H,fl,fs⟩ .ret
  |.seq j::K=>rec ⟨f,K,L,H,fl,fs⟩ (.node j)
  |.blk _::K=>rec ⟨f,K,L,H,fl,fs⟩ .nrm
  |.lp i::K=>head N Fin i ⟨f,K,L,H,fl,fs⟩
 |.node i=>match nth (aj F f) i with
  |.skip=>rec ⟨f,K,L,H,fl,fs⟩ .nrm
  |.seq a _=>φ (i+1+Code.size a) λj=>φ (i+1) λi'=>rec ⟨f,.seq j::K,L,H,fl,fs⟩ (.node i')
  |.block id _=>φ (i+1) λi'=>rec ⟨f,.blk id::K,L,H,fl,fs⟩ (.node i')
  |.exit id=>match C3 id K with
   |some K=>rec ⟨f,K,L,H,fl,fs⟩ .nrm
   |none=>none
  |.ret=>rec ⟨f,K,L,H,fl,fs⟩ .ret
  |.cond x a _=>match opS L x with
   |some (.d .bool b)=>match b with
    |true=>φ (i+1) λi'=>rec ⟨f,K,L,H,fl,fs⟩ (.node i')
    |false=>φ (i+1+Code.size a) λj=>rec ⟨f,K,L,H,fl,fs⟩ (.node j)
   |_=>none
  |.loop _=>head N Fin i ⟨f,K,L,H,fl,fs⟩
  |.region _ _ false=>rec ⟨f,K,L,H,fl,fs⟩ (.ops i 0)
  |.region _ ops true=>match Region.noSelect ops with
   |true=>match aaC E ops with
    |true=>match ops.toList.any (aeQ E)with
     |true=>rec ⟨f,K,L,H,fl,fs⟩ (.tbx i [])
     |false=>rec ⟨f,K,L,H,fl,fs⟩ (.tam i [])
    |false=>rec ⟨f,K,L,H,fl,fs⟩ (.drw i (!(ops.any λo=>uJ o.op)) false [])
   |false=>none
  |_=>none
 |.ops i k=>match(ak (nth (aj F f) i))[k]? with
    |none=>rec ⟨f,K,L,H,fl,fs⟩ .nrm
    |some o=>cY (ak (nth (aj F f) i)) L o
      (λL=>match isQ o.op with
       |true=>match fzB (Pf fs) o L H with
        |some (L1,H1)=>qop P T true L1 H1 o λs=>match ge (ntm F f) L1 o.dst s with
         |some L'=>φ (k+1) λk'=>rec ⟨f,K,L',H1,fl,fs⟩ (.ops i k')
         |none=>none
        |none=>none
       |false=>match Iw F E L o.op with
        |some (g,ss)=>rec ⟨g,[],rH 0 ss,H,H.length,⟨f,K,i,k,Em N f i L,fl,none⟩::fs⟩ (.node 0)
        |none=>eop T E (Pf fs) L H o λs H' L1=>match ge (ntm F f) L1 o.dst s with
         |some L'=>φ (k+1) λk'=>rec ⟨f,K,L',H',fl,fs⟩ (.ops i k')
         |none=>none)
      (λL=>match ge (ntm F f) L o.dst .undef with
       |some L'=>φ (k+1) λk'=>rec ⟨f,K,L',H,fl,fs⟩ (.ops i k')
       |none=>none)
 |.drw i rw eff D=>match aaN E (ak (nth (aj F f) i)) (mkL (ak (nth (aj F f) i)).size D)with
    |true=>rec ⟨f,K,L,H,fl,fs⟩ (.tal i D)
    |false=>match Region.ready .any (ak (nth (aj F f) i)) (mkL (ak (nth (aj F f) i)).size D)with
    |[]=>rec ⟨f,K,L,H,fl,fs⟩ .nrm
    |rs=>match Nat.ble (D.length+1) (ak (nth (aj F f) i)).size with
     |false=>none
     |true=>match Cx (ak (nth (aj F f) i)) eff D rs with
      |some j=>match(ak (nth (aj F f) i))[j]? with
       |none=>none
       |some o=>cY (ak (nth (aj F f) i)) L o
        (λL=>qop P T rw L H o λs=>match ge (ntm F f) L o.dst s with
         |some L'=>φ j λj'=>rec ⟨f,K,L',H,fl,fs⟩ (.drw i rw eff (j'::D))
         |none=>none)
        (λL=>match ge (ntm F f) L o.dst .undef with
         |some L'=>φ j λj'=>rec ⟨f,K,L',H,fl,fs⟩ (.drw i rw eff (j'::D))
         |none=>none)
      |none=>KO (λj=>match(ak (nth (aj F f) i))[j]? with
        |none=>none
        |some o=>cY (ak (nth (aj F f) i)) L o
         (λL=>match isQ o.op with
          |true=>qop P T true L H o λs=>match ge (ntm F f) L o.dst s with
           |some L'=>φ j λj'=>rec ⟨f,K,L',H,fl,fs⟩ (.drw i rw eff (j'::D))
           |none=>none
          |false=>match zd E L o.op||(uJ o.op&&rw)with
           |true=>none
           |false=>eop T E (Pf fs) L H o λs H' L1=>match ge (ntm F f) L1 o.dst s with
            |some L'=>φ j λj'=>rec ⟨f,K,L',H',fl,fs⟩ (.drw i rw true (j'::D))
            |none=>none)
         (λL=>match ge (ntm F f) L o.dst .undef with
          |some L'=>φ j λj'=>rec ⟨f,K,L',H,fl,fs⟩ (.drw i rw (eff||dN o.op) (j'::D))
          |none=>none)) rs
 |.tam i D=>match fD E (ak (nth (aj F f) i)) (mkL (ak (nth (aj F f) i)).size D)with
    |true=>match Ta F E L (ak (nth (aj F f) i)) D with
     |some j=>match(ak (nth (aj F f) i))[j]? with
      |some o=>cY (ak (nth (aj F f) i)) L o
       (λL=>match Iw F E L o.op with
        |some (g,ss)=>φ j λj'=>rec ⟨g,[],rH 0 ss,H,H.length,⟨f,K,i,j',Em N f i L,fl,some (j'::D)⟩::fs⟩ (.node 0)
        |none=>none)
       (λL=>match ge (ntm F f) L o.dst .undef with
        |some L'=>φ j λj'=>rec ⟨f,K,L',H,fl,fs⟩ (.tal i (j'::D))
        |none=>none)
      |none=>none
     |none=>match Bv E (ak (nth (aj F f) i))with
     |true=>match XC T E (ntm F f) (ak (nth (aj F f) i)) (mkL (ak (nth (aj F f) i)).size D) L H with
      |some (L',H',C)=>match Nat.ble (C++D).length (ak (nth (aj F f) i)).size with
       |true=>rec ⟨f,K,L',H',fl,fs⟩ (.drw i true true (C++D))
       |false=>none
      |none=>match(ak (nth (aj F f) i)).toList.any aV||!(ck E (ak (nth (aj F f) i)))with
       |true=>none
       |false=>rec ⟨f,K,L,H,fl,fs⟩ (.drw i (!((ak (nth (aj F f) i)).any λo=>uJ o.op)) false D)
     |false=>match(ak (nth (aj F f) i)).toList.any aV||!(ck E (ak (nth (aj F f) i)))with
      |true=>none
      |false=>rec ⟨f,K,L,H,fl,fs⟩ (.drw i (!((ak (nth (aj F f) i)).any λo=>uJ o.op)) false D)
    |false=>match Nat.ble (D.length+1) (ak (nth (aj F f) i)).size,D3 E (ak (nth (aj F f) i)) D (Region.ready .any (ak (nth (aj F f) i)) (mkL (ak (nth (aj F f) i)).size D))with
     |true,some j=>match(ak (nth (aj F f) i))[j]? with
      |some o=>cY (ak (nth (aj F f) i)) L o
       (λL=>tq P T E (gS L (o.looksAt (ak (nth (aj F f) i)))) H o λs=>match ge (ntm F f) L o.dst s,s.refsT H.length with
        |some L',true=>φ j λj'=>rec ⟨f,K,L',H,fl,fs⟩ (.tam i (j'::D))
        |_,_=>none)
       (λL=>match ge (ntm F f) L o.dst .undef with
        |some L'=>φ j λj'=>rec ⟨f,K,L',H,fl,fs⟩ (.tam i (j'::D))
        |none=>none)
      |none=>none
     |_,_=>none
 |.tbx i D=>match fD E (ak (nth (aj F f) i)) (mkL (ak (nth (aj F f) i)).size D)with
    |true=>match ck E (ak (nth (aj F f) i))with
     |true=>rec ⟨f,K,L,H,fl,fs⟩ (.tam i D)
     |false=>none
    |false=>match Nat.ble (D.length+1) (ak (nth (aj F f) i)).size,BM E (ak (nth (aj F f) i)) D (Region.ready .any (ak (nth (aj F f) i)) (mkL (ak (nth (aj F f) i)).size D))with
     |true,some j=>match(ak (nth (aj F f) i))[j]? with
      |some o=>cY (ak (nth (aj F f) i)) L o
       (λL=>match bxC E (gS L (o.looksAt (ak (nth (aj F f) i)))) H o with
        |some (q,s,b)=>match ge (ntm F f) L o.dst s,s.refsT H.length with
         |some L',true=>φ j λj'=>rec ⟨f,K,L',lG q b H,fl,fs⟩ (.tbx i (j'::D))
         |_,_=>none
        |none=>tq P T E (gS L (o.looksAt (ak (nth (aj F f) i)))) (H.map ddI) o λs=>match ge (ntm F f) L o.dst s,s.refsT H.length with
         |some L',true=>φ j λj'=>rec ⟨f,K,L',H,fl,fs⟩ (.tbx i (j'::D))
         |_,_=>none)
       (λL=>match ge (ntm F f) L o.dst .undef with
        |some L'=>φ j λj'=>rec ⟨f,K,L',H,fl,fs⟩ (.tbx i (j'::D))
        |none=>none)
      |none=>none
     |_,_=>none
 |.tal i D=>match Region.ready .any (ak (nth (aj F f) i)) (mkL (ak (nth (aj F f) i)).size D)with
    |[]=>rec ⟨f,K,L,H,fl,fs⟩ .nrm
    |rs=>match Nat.ble (D.length+1) (ak (nth (aj F f) i)).size,C0 E (ak (nth (aj F f) i)) D rs with
     |true,some j=>match(ak (nth (aj F f) i))[j]? with
      |some o=>cY (ak (nth (aj F f) i)) L o
       (λL=>tq P T E (gS L (o.looksAt (ak (nth (aj F f) i)))) H o λs=>match ge (ntm F f) L o.dst s,s.refsT H.length with
        |some L',true=>φ j λj'=>rec ⟨f,K,L',H,fl,fs⟩ (.tal i (j'::D))
        |_,_=>none)
       (λL=>match ge (ntm F f) L o.dst .undef with
        |some L'=>φ j λj'=>rec ⟨f,K,L',H,fl,fs⟩ (.tal i (j'::D))
        |none=>none)
      |none=>none
     |_,_=>none
 |.ret=>match fV F f with
    |some fn=>match Dc T H L fn.results.toList with
     |some ss=>match fs with
      |[]=>yh T H ss fn.resultTypes.toList
      |⟨g,K2,i,k,L2,fl2,d⟩::fs=>match(ak (nth (aj F g) i))[k]? with
       |some o=>match ge (ntm F g) L2 o.dst (aay ss),ss.all SV.good with
        |some L',true=>match d with
         |none=>φ (k+1) λk'=>rec ⟨g,K2,L',H,fl2,fs⟩ (.ops i k')
         |some D=>rec ⟨g,K2,L',H,fl2,fs⟩ (.tal i D)
        |_,_=>none
       |none=>none
     |none=>none
    |none=>none
def goC(φ:Nat->(Nat->Option (List RV))->Option (List RV)):Nat->Cfg->Pos->Option (List RV)
 |0,_,_=>none
 |m+1,⟨f,K,L,H,fl,fs⟩,p=>stC P F T E N Fin φ (goC φ m) f K L H fl fs p
def go:Nat->Cfg->Pos->Option (List RV):=goC P F T E N Fin λn k=>k n
theorem Qr(c:Cfg)(p:Pos):go P F T E N Fin 0 c p=none:=rfl
theorem QU(m:Nat)(c:Cfg)(p:Pos):go P F T E N Fin (m+1) c p=stC P F T E N Fin (λn k=>k n) (go P F T E N Fin m) c.f c.K c.L c.H c.fl c.fs p:=by cases c;rfl
def frc{R:Type}(n:Nat)(k:Nat->R):R:=match n with
 |0=>k 0
 |n+1=>k (n+1)
def go2:Nat->Cfg->Pos->Option (List RV):=goC P F T E N Fin frc
theorem Ap(m:Nat)(c:Cfg)(p:Pos):go2 P F T E N Fin m c p=go P F T E N Fin m c p:=by
 have e:(frc:Nat->(Nat->Option (List RV))->Option (List RV))=λn k=>k n:=by funext n k;cases n<;>rfl
 unfold go2 go;rw[e]
end
def run(P:Program)(F:FT)(T:TT)(E:Env)(N:NT):Nat->Nat->Cfg->Option (List RV)
 |0,_,_=>none
 |n+1,i,c=>go P F T E N (run P F T E N n) 4000 {c with K:=.lp i::c.K} (.node (i+1))
def p6(f:Nat)(args:List SV):Cfg:={f:=f,K:=[],L:=rH 0 args,H:=[],fl:=0,fs:=[]}
def Runs(P:Program)(F:FT)(T:TT)(E:Env)(N:NT)(i:Nat)(c:Cfg)(r:List RV):Prop:=∃n,run P F T E N n i c=some r
end
section
def InLoop(P:Program)(c:Code)(Q:Exit->Act->World->Prop)(a:Act)(w:World):Prop:=
 ∀(b:Frame) (k:List Go.Item) (cs:List Frame),∃e a' w',Q e a' w'/\Arrives P (lone (b.at a (.code c:: .inLoop c::k)) cs w) b k cs e a' w'
section
variable {P:Program} {c:Code} {Q:Exit->Act->World->Prop} {a:Act} {w:World}
theorem InLoop.wp(h:InLoop P c Q a w):(Code.loop c).wp P Q a w:=by
 intro b k cs;obtain⟨e,a',w',hq,harr⟩:=h b k cs;exact⟨e,a',w',hq,.of_steps (.one step_loop) harr⟩
theorem InLoop.step(h:c.wp P (Exit.then (InLoop P c Q) Q) a w):InLoop P c Q a w:=by
 intro b k cs;obtain⟨e,a₁,w₁,hq,harr⟩:=h b (.inLoop c::k) cs;cases e with
 |normal=>
  obtain⟨e₂,a₂,w₂,hq₂,harr₂⟩:=hq b k cs;exact⟨e₂,a₂,w₂,hq₂,.of_steps (Steps.trans harr (.one step_inLoop)) harr₂⟩
 |exit id=>exact⟨_,a₁,w₁,hq,.pass (x:=.inLoop c) rfl (λ_ _=>.inl (by simp)) harr⟩
 |goto l=>exact⟨_,a₁,w₁,hq,.pass (x:=.inLoop c) rfl (λ_ _=>.inl (by simp)) harr⟩
 |ret=>exact⟨_,a₁,w₁,hq,.pass (x:=.inLoop c) rfl (λ_ _=>.inl (by simp)) harr⟩
 |panic ch=>exact⟨_,a₁,w₁,hq,.pass (x:=.inLoop c) rfl (λ_ _=>.inl (by simp)) harr⟩
 |outgrown=>exact⟨_,a₁,w₁,hq,.pass (x:=.inLoop c) rfl (λ_ _=>.inl (by simp)) harr⟩
end
theorem rU:∀c:Code,0<Code.size c:=by intro c;cases c<;>simp[Code.size]
theorem L6:∀(B:Code) (i:Nat),Code.size B<=i->nth B i=.skip:=by
 intro B;induction B with
 |seq a b iha ihb=>
  intro i h;simp only[Code.size]at h;cases i with
  |zero=>omega
  |succ i=>
   simp only[nth];grind
 |cond x a b iha ihb=>
  intro i h;simp only[Code.size]at h;cases i with
  |zero=>omega
  |succ i=>
   simp only[nth];grind
 |block id c ih=>intro i h;simp only[Code.size]at h;cases i with|zero=>omega|succ i=>exact ih _ (by omega)
 |loop c ih=>intro i h;simp only[Code.size]at h;cases i with|zero=>omega|succ i=>exact ih _ (by omega)
 |scope c ih=>intro i h;simp only[Code.size]at h;cases i with|zero=>omega|succ i=>exact ih _ (by omega)
 |_=>intro i h;simp only[Code.size]at h;cases i with|zero=>omega|succ i=>rfl
theorem Gq(a b:Code)(i:Nat):(match Nat.ble (i+1) (Code.size a)with|true=>nth a i|false=>nth b (i-Code.size a))=if i<Code.size a then nth a i else nth b (i-Code.size a):=by grind [afM,aft]
theorem dL(c:Code):nth c 0=c:=by cases c<;>rfl
theorem rS(a b:Code)(i:Nat):nth (.seq a b) (i+1)=if i<Code.size a then nth a i else nth b (i-Code.size a):=Gq a b i
theorem nV(x:Operand)(a b:Code)(i:Nat):nth (.cond x a b) (i+1)=if i<Code.size a then nth a i else nth b (i-Code.size a):=Gq a b i
theorem zo:∀(B:Code) (i:Nat),i<Code.size B->i+Code.size (nth B i)<=Code.size B:=by
 intro B;induction B with
 |seq a b iha ihb=>
  intro i h;cases i with
  |zero=>rw[dL];omega
  |succ i=>
   rw[rS];simp only[Code.size]at h ⊢;grind
 |cond x a b iha ihb=>
  intro i h;cases i with
  |zero=>rw[dL];omega
  |succ i=>
   rw[nV];simp only[Code.size]at h ⊢;split
   ·rename_i hi;have:=iha i hi;omega
   ·have:=ihb (i-Code.size a) (by omega);omega
 |block id c ih=>intro i h;cases i with|zero=>rw[dL];omega|succ i=>simp only[Code.size]at h ⊢;have:=ih i (by omega);simp only[nth];omega
 |loop c ih=>intro i h;cases i with|zero=>rw[dL];omega|succ i=>simp only[Code.size]at h ⊢;have:=ih i (by omega);simp only[nth];omega
 |scope c ih=>intro i h;cases i with|zero=>rw[dL];omega|succ i=>simp only[Code.size]at h ⊢;have:=ih i (by omega);simp only[nth];omega
 |_=>intro i h;cases i with|zero=>rw[dL];omega|succ i=>simp only[Code.size]at h;omega
theorem uB:∀(B:Code) (i:Nat),i<Code.size B->∀j,j<Code.size (nth B i)->nth B (i+j)=nth (nth B i) j:=by
 intro B;induction B with
 |seq a b iha ihb=>
  intro i h j hj;cases i with
  |zero=>rw[dL,afY]
  |succ i=>
   rw[rS]at hj ⊢;rw[show i+1+j=(i+j)+1 by omega,rS];simp only[Code.size]at h;split at hj
   ·rename_i hi;have:=zo a i hi;rw[af2 hi,af2 (by omega)];exact iha i hi j hj
   ·rename_i hi;rw[afQ hi,afQ (by omega),show i+j-Code.size a=(i-Code.size a)+j by omega];exact ihb (i-Code.size a) (by omega) j hj
 |cond x a b iha ihb=>
  intro i h j hj;cases i with
  |zero=>rw[dL,afY]
  |succ i=>
   rw[nV]at hj ⊢;rw[show i+1+j=(i+j)+1 by omega,nV];simp only[Code.size]at h;split at hj
   ·rename_i hi;have:=zo a i hi;rw[af2 hi,af2 (by omega)];exact iha i hi j hj
   ·rename_i hi;rw[afQ hi,afQ (by omega),show i+j-Code.size a=(i-Code.size a)+j by omega];exact ihb (i-Code.size a) (by omega) j hj
 |block id c ih=>intro i h j hj;cases i with|zero=>rw[dL,afY]|succ i=>simp only[Code.size]at h;rw[show i+1+j=(i+j)+1 by omega];exact ih i (by omega) j hj
 |loop c ih=>intro i h j hj;cases i with|zero=>rw[dL,afY]|succ i=>simp only[Code.size]at h;rw[show i+1+j=(i+j)+1 by omega];exact ih i (by omega) j hj
 |scope c ih=>intro i h j hj;cases i with|zero=>rw[dL,afY]|succ i=>simp only[Code.size]at h;rw[show i+1+j=(i+j)+1 by omega];exact ih i (by omega) j hj
 |_=>intro i h j hj;cases i with|zero=>rw[dL,afY]|succ i=>simp only[Code.size]at h;omega
theorem Bs{B:Code}{i:Nat}(h:nth B i≠.skip):i<Code.size B:=by grind [L6]
theorem Qt{B:Code}{i:Nat}{a b:Code}(h:nth B i=.seq a b):nth B i=.seq (nth B (i+1)) (nth B (i+1+Code.size a)):=by
 have hlt:=Bs (B:=B) (i:=i) (by rw[h];simp);have ha:=rU a;have hb:=rU b;have h1:=uB B i hlt 1 (by rw[h];simp only[Code.size];omega);have h2:=uB B i hlt (1+Code.size a) (by rw[h];simp only[Code.size];omega);rw[h,show(1:Nat)=0+1 from rfl,rS,af2 ha,dL]at h1;rw[h,show 1+Code.size a=Code.size a+1 by omega,rS,afQ (by omega),ahR,dL]at h2;grind
theorem JT{B:Code}{i:Nat}{x:Operand}{a b:Code}(h:nth B i=.cond x a b):nth B i=.cond x (nth B (i+1)) (nth B (i+1+Code.size a)):=by
 have hlt:=Bs (B:=B) (i:=i) (by rw[h];simp);have ha:=rU a;have hb:=rU b;have h1:=uB B i hlt 1 (by rw[h];simp only[Code.size];omega);have h2:=uB B i hlt (1+Code.size a) (by rw[h];simp only[Code.size];omega);rw[h,show(1:Nat)=0+1 from rfl,nV,af2 ha,dL]at h1;rw[h,show 1+Code.size a=Code.size a+1 by omega,nV,afQ (by omega),ahR,dL]at h2;grind
theorem IL{B:Code}{i id:Nat}{c:Code}(h:nth B i=.block id c):nth B i=.block id (nth B (i+1)):=by grind [Bs,uB,Code.size,nth]
theorem Mb{B:Code}{i:Nat}{c:Code}(h:nth B i=.loop c):nth B i=.loop (nth B (i+1)):=by grind [Bs,uB,Code.size,nth]
end
end Go.Proofs.YtagbmoohboleaaaGreat
end
