/- General lemmas on memory: a slice value that reads as a list of cells, kept while the world grows. -/
import Derived.Test.YtoimchcjhdcdmaaGreatRows
import Derived.WalkKit
import Derived.WalkSpells
import Derived.WalkLawsBesides
import Derived.Handy
import Derived.Lib.Hide
import Derived.Deep.Draws
import Derived.OrdersHeld
import Derived.Deep.MidRow
import Derived.Laws.Tables
noncomputable section
namespace Go.Proofs.YtoimchcjhdcdmaaGreat
open Go.RowKit Go.IntKind
open Bool renaming true->T',false->F'
open Option renaming some->S',none->N'
theorem aoO:type_of% @List.getElem?_eq_getElem:=@List.getElem?_eq_getElem
theorem aoS:type_of% @Nat.eq_of_beq_eq_true:=@Nat.eq_of_beq_eq_true
theorem aoT:type_of% @Bool.and_eq_true:=@Bool.and_eq_true
theorem aoU:type_of% @Nat.le_refl:=@Nat.le_refl
theorem aoV:type_of% @Nat.le_of_ble_eq_true:=@Nat.le_of_ble_eq_true
theorem aoX:type_of% @Option.some.injEq:=@Option.some.injEq
theorem aoZ:type_of% @List.getElem?_eq_some_iff:=@List.getElem?_eq_some_iff
theorem ao3:type_of% @Nat.zero_add:=@Nat.zero_add
theorem ao5:type_of% @List.drop_eq_getElem_cons:=@List.drop_eq_getElem_cons
theorem ao6:type_of% @Array.getElem?_eq_some_iff:=@Array.getElem?_eq_some_iff
theorem ao7:type_of% @List.mem_cons:=@List.mem_cons
theorem apf:type_of% @Nat.ble_eq_true_of_le:=@Nat.ble_eq_true_of_le
theorem apg:type_of% @List.append_assoc:=@List.append_assoc
theorem aph:type_of% @if_neg:=@if_neg
theorem api:type_of% @Result.andThen_ok:=@Result.andThen_ok
theorem apn:type_of% @run_underlying:=@run_underlying
theorem apt:type_of% @Prod.mk.injEq:=@Prod.mk.injEq
theorem apu:type_of% @Nat.lt_or_ge:=@Nat.lt_or_ge
theorem apx:type_of% @List.drop_eq_nil_of_le:=@List.drop_eq_nil_of_le
theorem apB:type_of% @if_pos:=@if_pos
theorem apD:type_of% @Option.isSome_iff_exists:=@Option.isSome_iff_exists
theorem apM:type_of% @List.mem_of_getElem?:=@List.mem_of_getElem?
theorem apO:type_of% @Sem.run_bind:=@Sem.run_bind
theorem apS:type_of% @List.getElem?_map:=@List.getElem?_map
theorem ap2:type_of% @Array.getD_eq_getD_getElem?:=@Array.getD_eq_getD_getElem?
theorem aqh:type_of% @Sem.run_pure:=@Sem.run_pure
theorem aqi:type_of% @List.take_append_drop:=@List.take_append_drop
theorem aqI:type_of% @Nat.lt_of_lt_of_le:=@Nat.lt_of_lt_of_le
theorem aqK:type_of% @Ne.symm:=@Ne.symm
theorem aqS:type_of% @List.nil_append:=@List.nil_append
theorem arh:type_of% @Nat.zero_le:=@Nat.zero_le
theorem arl:type_of% @Below.refl:=@Below.refl
theorem ar5:type_of% @List.drop_drop:=@List.drop_drop
section
def Rd(w:World)(size:Nat)(v:Value)(n:Nat)(xs:List Value):Prop:=
 xs.length=n*size/\∃A c,v=.slice A n c/\n<=c/\c<=maxLen/\
  (0<n->∃b off,A=S' ⟨b,off,N'⟩/\b<w.heap.size/\∀j u,xs[j]?=S' u->w.cell? ⟨b,off+j,N'⟩=S' u)
section
variable {w w':World} {size n:Nat} {v:Value} {xs:List Value}
theorem Rd.below(h:Rd w size v n xs)(hb:Below w.heap.size w w'):Rd w' size v n xs:=by
 obtain⟨hl,A,c,hv,h1,h2,h3⟩:=h;refine⟨hl,A,c,hv,h1,h2,λhn=>?_⟩;grind [hb.size,hb.cell]
theorem Rd.of_own{base:Nat}{e:TypeId}(_hsz:0<size)(h:w.ownsRow base e size v n xs):Rd w size v n xs:=by
 refine⟨h.1,?_⟩;rcases h.2 with⟨rfl,rfl⟩|⟨g,cap,cur,rfl,hg,hh,hn,hm,hs,ht⟩
 ·grind
 ·refine⟨_,cap,rfl,hn,hm,λhn0=>⟨g,0,rfl,(ao6.1 hh).1,λj u hu=>?_⟩⟩;rw[ao3,cell_of_row w g j cur e (0,0) hh];grind
theorem Rd.nil(w:World)(size:Nat):Rd w size (.slice N' 0 0) 0 []:=⟨by simp,N',0,rfl,aoU _,arh _,λh=>absurd h (by omega)⟩
end
def Elem(P:Program)(t e size bytes:Nat):Prop:=
 P.underlying t=S' (.slice e)/\0<size/\∃i z,P.info? e=S' i/\i.zero=S' z/\i.size=size/\i.bytes=bytes/\z.cells.size=size
theorem Elem.mk_{P:Program}{t e size bytes:Nat}{z:Value}(ht:P.underlying t=S' (.slice e))(hs:0<size)(hi:(P.info? e).map (λi=>(i.zero,i.size,i.bytes))=S' (S' z,size,bytes))(hz:z.cells.size=size):Elem P t e size bytes:=by
 obtain⟨i,h1,h2,h3,h4⟩:=info_parts hi;exact⟨ht,hs,i,z,h1,h2,h3,h4,hz⟩
def Blk(w:World)(g:Nat)(t:TypeId)(cs:Array Value):Prop:=w.heap[g]?=S' (.cells cs t (0,0))
section
variable {w w':World} {g:Nat} {t:TypeId} {cs:Array Value}
theorem Blk.lt(h:Blk w g t cs):g<w.heap.size:=(ao6.1 h).1
theorem Blk.cell(h:Blk w g t cs)(i:Nat){v:Value}(hv:cs[i]?=S' v):w.cell? ⟨g,i,N'⟩=S' v:=(cell_of_row w g i cs t (0,0) h).trans hv
theorem Blk.free(h:Blk w g t cs)(i:Nat):w.frozen? ⟨g,i,N'⟩=false:=by grind [Blk,World.frozen?]
theorem Blk.new(w:World)(t:TypeId)(cs:Array Value):Blk (w.alloc (.cells cs t)) w.heap.size t cs:=heap_alloc_new w _
theorem Blk.alloc(h:Blk w g t cs)(o:Obj):Blk (w.alloc o) g t cs:=(Below.heap_alloc w o g h.lt).trans h
theorem Blk.below{B:Nat}(h:Blk w g t cs)(hb:Below B w w')(hg:g<B):Blk w' g t cs:=(hb.block g hg).trans h
theorem Blk.grown{row:Option Nat}(h:Blk w g t cs)(hb:w.grownBy w' row)(hg:S' g≠row):Blk w' g t cs:=(hb.block g h.lt hg).trans h
theorem Blk.set(h:Blk w g t cs)(i:Nat)(u:Value):Blk (w.setCell ⟨g,i,N'⟩ u) g t (cs.setIfInBounds i u):=by grind [Blk,World.setCell]
theorem Blk.far(h:Blk w g t cs){p:Addr}(hp:g≠p.block)(u:Value):Blk (w.setCell p u) g t cs:=(Below.heap_setCell w p u g hp).trans h
end
end
abbrev Sl:=List (Nat×Value)
def look:Sl->Nat->Option Value
 |[],_=>none
 |(k,x)::r,t=>match Nat.beq k t with
  |true=>some x
  |false=>look r t
structure St (n:Nat) (L:Sl) (a:Act):Prop where
 defers:a.defers=[]
 size:a.tmps.size=n
 slot:∀t v,look L t=S' v->a.tmps[t]?=S' v
def HF(n:Nat)(L:Sl):Option Nat->Value->Option Sl
 |none,_=>some L
 |some d,v=>match Nat.ble (d+1) n with
  |true=>some ((d,v)::L)
  |false=>none
theorem St.put{n:Nat}{L L':Sl}{a:Act}{d:Option Nat}{v:Value}(h:St n L a)(hp:HF n L d v=S' L'):St n L' (a.put d v):=by
 cases d with
 |none=>simp[HF]at hp;subst hp;exact h
 |some d=>
  simp only[HF]at hp;split at hp
  ·rename_i hd;have hd':d<n:=by have:=aoV hd;omega
   injection hp with hp;subst hp;refine⟨h.defers,by simp[Act.put,h.size],λt u hu=>?_⟩;simp only[look]at hu;simp only[Act.put,Array.getElem?_setIfInBounds,h.size];split at hu
   ·simp_all
   ·rename_i he;have:d≠t:=λe=>by subst e;simp at he
    rw[aph this];exact h.slot t u hu
  grind
def fX(L:Sl):Operand->Value
 |.tmp t=>(look L t).getD undef
 |.const v=>v
 |.global g=>.pointer (some ⟨g,0,none⟩)
 |.func f=>.func (.func f) #[] #[]
def UG(L:Sl):Operand->Bool
 |.tmp t=>(look L t).isSome
 |_=>true
def Lu(L:Sl)(o:Op):Bool:=o.operands.toList.all (UG L)&&(match o with|.select _ _=>F'|_=>T')
theorem St.eval{n:Nat}{L:Sl}{a:Act}(h:St n L a)(x:Operand)(hx:UG L x=T'):a.eval x=fX L x:=by
 cases x with
 |tmp t=>
  simp only[UG,apD]at hx;obtain⟨v,hv⟩:=hx;have:=h.slot t v hv;simp_all [Act.eval,fX]
 |_=>rfl
theorem St.exec{n:Nat}{L:Sl}{a:Act}(h:St n L a)(o:Oper)(ho:Lu L o.op=T'):execOp a.eval o=execOp (fX L) o:=by
 simp only[Lu]at ho;refine execOp_congr o (λcs b e=>?_) (λx hx=>h.eval x ?_)<;>grind
def tv(ops:Array Oper)(L:Sl)(o:Oper):Option Bool:=
 match o.guard with
 |none=>some true
 |some (j,want)=>
  match(ops[j]?).bind (·.dst)with
  |some d=>match look L d with
   |some (.bool b)=>some (b==want)
   |some (.tuple _)=>some false
   |_=>none
  |none=>none
theorem St.wanted{n:Nat}{L:Sl}{a:Act}{ops:Array Oper}{o:Oper}{b:Bool}(h:St n L a)(hw:tv ops L o=S' b):Region.wanted o (yielded ops a.tmps)=b:=by
 unfold tv at hw;unfold Region.wanted;cases hg:o.guard with
 |none=>simp[hg]at hw;simpa using hw
 |some gw=>
  obtain⟨j,want⟩:=gw;simp only[hg]at hw;cases hd:(ops[j]?).bind (·.dst)with
  |none=>simp[hd]at hw
  |some d=>
   simp only[hd]at hw;cases hl:look L d with
   |none=>simp[hl]at hw
   |some v=>
    simp only[hl]at hw;have hs:=h.slot d v hl;cases v<;>simp at hw
    ·subst hw;simp only[yielded,hd,Option.bind_some,hs];rfl
    ·subst hw;simp only[yielded,hd,Option.bind_some,hs];rfl
abbrev Obl:=List (World->Prop)
def tJ:Obl->World->Prop
 |[],_=>True
 |p::r,w=>p w/\tJ r w
theorem lD{w:World}:∀{l m:Obl},tJ (l++m) w->tJ l w/\tJ m w
 |[],_,h=>⟨trivial,h⟩
 |_::_,_,h=>⟨⟨h.1,(lD h.2).1⟩,(lD h.2).2⟩
def evT(P:Program):Sem Next->List Value->Option (Next×Obl)
 |.pure n,[]=>some (n,[])
 |.program k,H=>evT P (k P) H
 |.load .plain a k,v::H=>match evT P (k v) H with
  |some (n,O)=>some (n,(λw=>w.cell? a=some v)::O)
  |none=>none
 |_,_=>none
theorem KH{P:Program}{w:World}:∀(t:Sem Next) (H:List Value) (n:Next) (O:Obl),evT P t H=S' (n,O)->tJ O w->t.run P w=.ok n w:=by
 intro t;induction t with
 |pure m=>
  intro H n O h _;cases H with
  |nil=>simp[evT]at h;rw[h.1];rfl
  |cons=>simp[evT]at h
 |program k ih=>
  intro H n O h hO;exact ih P H n O h hO
 |load m a k ih=>
  intro H n O h hO;cases m with
  |atomic=>cases H<;>simp[evT]at h
  |plain=>
   cases H with
   |nil=>simp[evT]at h
   |cons v H=>
    simp only[evT]at h;cases hr:evT P (k v) H with
    |none=>simp[hr]at h
    |some r=>
     simp only[hr,aoX,apt]at h;obtain⟨rfl,rfl⟩:=h;simp only[Sem.run,hO.1];exact ih v H _ _ hr hO.2
 |_=>intro H n O h;cases H<;>simp[evT]at h
def JT(P:Program)(t:TypeId)(cs:Array Value)(off:Nat):Option Value:=
 match P.underlying t,P.info? t with
 |some (.struct _),some i=>some (.agg (cs.extract off (off+i.size)))
 |some (.int _),_=>cs[off]?
 |some .bool,_=>cs[off]?
 |_,_=>none
def QK(rc:TypeId->Value->Value->Option Bool)(P:Program)(xs ys:Array Value):List Field->Option Bool
 |[]=>some true
 | f :: fs => if f.name ≠ "_" then
   match JT P f.type xs f.offset,JT P f.type ys f.offset with
   |some a,some b=>match rc f.type a b,QK rc P xs ys fs with
    |some r,some r'=>some (r&&r')
    |_,_=>none
   |_,_=>none
  else N'
def eqV(P:Program):Nat->TypeId->Value->Value->Option Bool
 |0,_,_,_=>none
 |d+1,t,x,y=>match P.underlying t,x,y with
  |some (.int _),.int .i64 a,.int .i64 b=>some (a==b)
  |some (.int _),.int .u32 a,.int .u32 b=>some (a==b)
  |some .bool,.bool a,.bool b=>some (a==b)
  |some (.struct fs),.agg xs,.agg ys=>match P.stoodInHeld t with
   |false=>QK (eqV P d) P xs ys fs.toList
   |true=>none
  |_,_,_=>none
theorem Bc{P:Program}{t:TypeId}{cs:Array Value}{off:Nat}{v:Value}(w:World)(h:JT P t cs off=S' v):(part t cs off).run P w=.ok v w:=by
 unfold JT at h;split at h
 ·rename_i fs i hu hi;injection h with h;subst h;simp[part,isAgg,apn hu,sizeOf,typeInfo,hi]
 ·rename_i hu;simp[part,isAgg,apn hu,h]
 ·rename_i hu;simp[part,isAgg,apn hu,h]
 grind
theorem Fu{P:Program}{rc:TypeId->Value->Value->Option Bool}{d:Nat}(hrc:∀t x y r (w:World),rc t x y=S' r->(Op.equalIn d t x y).run P w=.ok r w)(w:World)(xs ys:Array Value):∀(fs:List Field) (r:Bool),QK rc P xs ys fs=S' r->(Op.eqFields d xs ys fs).run P w=.ok r w
 |[],r,h=>by simp[QK]at h;subst h;rfl
 |f::fs,r,h=>by
  simp only[QK]at h;split at h
  ·rename_i hn;split at h
   ·rename_i a b ha hb;split at h
    ·rename_i r1 r2 h1 h2;injection h with h;subst h;have ih:=Fu hrc w xs ys fs r2 h2;simp only[Op.eqFields,apB hn,apO,Bc w ha,Bc w hb,hrc _ _ _ _ w h1,api];cases r1
     ·simp
     ·simpa using ih
    ·cases h
   ·cases h
  ·cases h
theorem sM{P:Program}:∀(d:Nat) (t:TypeId) (x y:Value) (r:Bool) (w:World),eqV P d t x y=S' r->(Op.equalIn d t x y).run P w=.ok r w
 |0,_,_,_,_,_,h=>by simp[eqV]at h
 |d+1,t,x,y,r,w,h=>by
  simp only[eqV]at h;split at h
  ·rename_i hu;injection h with h;subst h;exact run_equalIn_int w d t _ _ _ _ hu
  ·rename_i hu;injection h with h;subst h;exact run_equalIn_int w d t _ _ _ _ hu
  ·rename_i hu;injection h with h;subst h;exact run_equalIn_bool' w d t _ _ hu
  ·rename_i fs xs ys hu;split at h
   ·rename_i hst;have hf:P.fieldsOf t=fs:=by simp[Program.fieldsOf,hu]
    rw[run_equalIn_struct w d t xs ys (by rw[hf];exact hu) hst,hf];exact Fu (λt x y r w h=>sM d t x y r w h) w xs ys fs.toList r h
   ·cases h
  ·cases h
def wD(P:Program)(L:Sl):Op->Option (Value×Obl)
 |.indexAddr t x ix=>match P.underlying t,fX L x,fX L ix with
  |some (.slice e),.slice (some ⟨b,off,none⟩) len _,.int _ i=>match P.info? e with
   |some inf=>some (.pointer (some ⟨b,off+i.toNat*inf.size,none⟩),[λ_=>0<=i/\i<(len:Int)])
   |none=>none
  |some (.array len e),.pointer (some ⟨b,off,none⟩),.int _ i=>match P.info? e with
   |some inf=>some (.pointer (some ⟨b,off+i.toNat*inf.size,none⟩),[λ_=>0<=i/\i<(len:Int)])
   |none=>none
  |_,_,_=>none
 |.binOp .quo _ x y _=>match fX L x,fX L y with
  |.int .i64 a,.int .i64 b=>some (.int .i64 (i64.wrap (a.tdiv b)),[λ_=>b≠0])
  |.int .u64 a,.int .u64 b=>some (.int .u64 (u64.wrap (a.tdiv b)),[λ_=>b≠0])
  |.int .u32 a,.int .u32 b=>some (.int .u32 (u32.wrap (a.tdiv b)),[λ_=>b≠0])
  |_,_=>none
 |.binOp .rem _ x y _=>match fX L x,fX L y with
  |.int .i64 a,.int .i64 b=>some (.int .i64 (a.tmod b),[λ_=>b≠0])
  |.int .u64 a,.int .u64 b=>some (.int .u64 (a.tmod b),[λ_=>b≠0])
  |.int .u32 a,.int .u32 b=>some (.int .u32 (a.tmod b),[λ_=>b≠0])
  |_,_=>none
 |.binOp .eql t x y _=>match fX L x,fX L y,P.eqGuardType P.depth t with
  |.agg xs,.agg ys,false=>match eqV P 10000 t (.agg xs) (.agg ys)with
   |some r=>some (.bool r,[])
   |none=>none
  |_,_,_=>none
 |.binOp .neq t x y _=>match fX L x,fX L y,P.eqGuardType P.depth t with
  |.agg xs,.agg ys,false=>match eqV P 10000 t (.agg xs) (.agg ys)with
   |some r=>some (.bool (!r),[])
   |none=>none
  |_,_,_=>none
 |_=>none
theorem c7(b off n:Nat):Addr.add ⟨b,off,N'⟩ n=⟨b,off+n,N'⟩:=by unfold Addr.add;split<;>simp_all
theorem EH{P:Program}{L:Sl}{o:Oper}{v:Value}{O:Obl}(w:World)(h:wD P L o.op=S' (v,O))(hO:tJ O w):(execOp (fX L) o).run P w=.ok (.value v) w:=by
 obtain⟨dst,op,type,pos,after,guard⟩:=o;cases op<;>simp only[wD]at h<;>try (cases h;done)
 case indexAddr t x ix=>
  split at h<;>try (cases h;done)
  ·rename_i e b off len cap kk i hu hx hi;split at h<;>try (cases h;done)
   rename_i inf hinf;simp only[aoX,apt]at h;obtain⟨rfl,rfl⟩:=h;obtain⟨⟨h0,h1⟩,_⟩:=hO;simp[execOp,hx,hi,Instr.indexAt,asIntOf,apn hu,sizeOf,typeInfo,hinf,h0,h1,c7]
  ·rename_i len e b off kk i hu hx hi;split at h<;>try (cases h;done)
   rename_i inf hinf;simp only[aoX,apt]at h;obtain⟨rfl,rfl⟩:=h;obtain⟨⟨h0,h1⟩,_⟩:=hO;simp[execOp,hx,hi,Instr.indexAt,asIntOf,apn hu,sizeOf,typeInfo,hinf,h0,h1,c7,Instr.sureAddr]
 case binOp bo xt x y yt=>
  cases bo<;>simp only at h<;>try (cases h;done)
  case eql=>
   split at h<;>try (cases h;done)
   rename_i xs ys hx hy hg;split at h<;>try (cases h;done)
   rename_i r hr;simp only[aoX,apt]at h;obtain⟨rfl,rfl⟩:=h;simp only[execOp,hx,hy,apO,run_eqGuard_agg w .eql xt x y xs ys hg,api,run_eql_struct,sM _ _ _ _ _ w hr,aqh]
  case neq=>
   split at h<;>try (cases h;done)
   rename_i xs ys hx hy hg;split at h<;>try (cases h;done)
   rename_i r hr;simp only[aoX,apt]at h;obtain⟨rfl,rfl⟩:=h;simp only[execOp,hx,hy,apO,run_eqGuard_agg w .neq xt x y xs ys hg,api,run_neq_struct,sM _ _ _ _ _ w hr,aqh]
  all_goals
   split at h<;>try (cases h;done)
   all_goals
    rename_i hx hy;simp only[aoX,apt]at h;obtain⟨rfl,rfl⟩:=h;have hb:=hO.1;simp[execOp,hx,hy,eqGuard,binOp,Op.intDiv,hb]
section
abbrev EO:=List (Nat×Option Value×List Value)
def aik:EO->Nat->Option Value×List Value
 |[],_=>(none,[])
 |(k,x)::r,t=>match Nat.beq k t with
  |true=>x
  |false=>aik r t
def evO(P:Program)(L:Sl)(o:Oper)(H:List Value):Option (Value×Obl):=
 match wD P L o.op with
 |some r=>some r
 |none=>match evT P (execOp (fX L) o) H with
  |some (.value v,O)=>some (v,O)
  |_=>none
theorem K6{P:Program}{w:World}{L:Sl}{o:Oper}{H:List Value}{v:Value}{O:Obl}(h:evO P L o H=S' (v,O))(hO:tJ O w):(execOp (fX L) o).run P w=.ok (.value v) w:=by
 unfold evO at h;split at h
 ·grind [EH]
 ·split at h
  ·grind [KH]
  grind
def stp(P:Program)(ops:Array Oper)(n:Nat)(L:Sl)(o:Oper)(h:Option Value×List Value):Option (Sl×Obl):=
 match tv ops L o with
 |some false=>match HF n L o.dst undef with
  |some L'=>some (L',[])
  |none=>none
 |some true=>match Lu L o.op with
  |true=>match evO P L o h.2 with
   |some (v,O)=>match h.1 with
    |none=>match HF n L o.dst v with
     |some L'=>some (L',O)
     |none=>none
    |some v'=>match HF n L o.dst v' with
     |some L'=>some (L',(λ_=>v=v')::O)
     |none=>none
   |none=>none
  |false=>none
 |none=>none
theorem Xh{P:Program}{w:World}{ops:Array Oper}{n:Nat}{L L':Sl}{o:Oper}{h:Option Value×List Value}{O:Obl}{a:Act}(hs:St n L a)(he:stp P ops n L o h=S' (L',O))(hO:tJ O w):
  ∃v,St n L' (a.put o.dst v)/\((Region.wanted o (yielded ops a.tmps)=T'/\(execOp a.eval o).run P w=.ok (.value v) w)\/(Region.wanted o (yielded ops a.tmps)=F'/\v=undef)):=by
 unfold stp at he;split at he
 ·rename_i hw;split at he
  ·grind [aoX,apt,hs.put,hs.wanted]
  ·cases he
 ·rename_i hw;split at he
  ·rename_i hok;split at he
   ·rename_i v O1 hev;split at he
    ·split at he
     ·rename_i L1 hp;simp only[aoX,apt]at he;obtain⟨rfl,rfl⟩:=he;exact⟨v,hs.put hp,.inl ⟨hs.wanted hw,by rw[hs.exec o hok];exact K6 hev hO⟩⟩
     ·cases he
    ·split at he
     ·rename_i v' _ L1 hp;simp only[aoX,apt]at he;obtain⟨rfl,rfl⟩:=he;obtain⟨rfl,hO'⟩:=hO;exact⟨v,hs.put hp,.inl ⟨hs.wanted hw,by rw[hs.exec o hok];exact K6 hev hO'⟩⟩
     ·cases he
   ·cases he
  ·cases he
 ·cases he
theorem aen{P:Program}{w:World}{ops:Array Oper}{n:Nat}{L L':Sl}{o:Oper}{h:Option Value×List Value}{O:Obl}{a:Act}{rest:List Oper}{Q:Exit->Act->World->Prop}(hs:St n L a)(he:stp P ops n L o h=S' (L',O))(hO:tJ O w)
  (hk:∀a',St n L' a'->wpList P ops Q rest a' w):wpList P ops Q (o::rest) a w:=by
 obtain⟨v,hv,⟨hw,hr⟩|⟨hw,rfl⟩⟩:=Xh hs he hO
 ·unfold wpList;rw[apB hw];refine .inl ?_;unfold Oper.wp;rw[hr];exact hk _ hv
 ·unfold wpList;grind
def QI(P:Program)(ops:Array Oper)(n:Nat)(H:EO):Nat->List Oper->Sl->Option (Sl×Obl)
 |_,[],L=>some (L,[])
 |k,o::os,L=>match stp P ops n L o (aik H k)with
  |some (L',O)=>match QI P ops n H (k+1) os L' with
   |some (L'',O')=>some (L'',O++O')
   |none=>none
  |none=>none
theorem V7{P:Program}{w:World}{ops:Array Oper}{n:Nat}{H:EO}{Q:Exit->Act->World->Prop}{rest:List Oper}:∀(os:List Oper) (k:Nat) (L L':Sl) (O:Obl) (a:Act),QI P ops n H k os L=S' (L',O)->tJ O w->St n L a->
  (∀a',St n L' a'->wpList P ops Q rest a' w)->wpList P ops Q (os++rest) a w:=by
 intro os;induction os with
 |nil=>
  grind [QI,aoX,apt]
 |cons o os ih=>
  intro k L L' O a h hO hs hk;simp only[QI]at h;split at h
  ·rename_i L1 O1 h1;split at h
   ·rename_i L2 O2 h2;simp only[aoX,apt]at h;obtain⟨rfl,rfl⟩:=h;obtain⟨hO1,hO2⟩:=lD hO;exact aen hs h1 hO1 λa' ha'=>ih (k+1) L1 L2 O2 a' h2 hO2 ha' hk
   ·cases h
  ·cases h
def yB(L:Sl):List Nat->Option Sl
 |[]=>some []
 |t::ts=>match look L t with
  |some v=>match yB L ts with
   |some r=>some ((t,v)::r)
   |none=>none
  |none=>none
theorem I5{L:Sl}:∀{ts:List Nat} {L':Sl},yB L ts=S' L'->∀t v,look L' t=S' v->look L t=S' v:=by
 intro ts;induction ts with
 |nil=>intro L' h t v hv;simp[yB]at h;subst h;simp[look]at hv
 |cons s ts ih=>
  intro L' h t v hv;simp only[yB]at h;split at h
  ·split at h
   ·injection h with h;subst h;simp only[look]at hv;split at hv<;>simp_all
   grind
  grind
theorem St.pick{n:Nat}{L L':Sl}{a:Act}{ts:List Nat}(h:St n L a)(hp:yB L ts=S' L'):St n L' a:=⟨h.defers,h.size,λt v hv=>h.slot t v (I5 hp t v hv)⟩
def seg(P:Program)(ops:Array Oper)(n k m:Nat)(L:Sl)(H:EO)(ts:List Nat):Option (Sl×(World->Prop)):=
 match QI P ops n H k ((ops.toList.drop k).take m) L with
 |some (L',O)=>match yB L' ts with
  |some L2=>some (L2,tJ O)
  |none=>none
 |none=>none
def Code.size:Code->Nat
 |.seq a b=>size a+size b+1
 |.cond _ a b=>size a+size b+1
 |.block _ c=>size c+1
 |.loop c=>size c+1
 |.scope c=>size c+1
 |_=>1
def nth:Code->Nat->Code
 |c,0=>c
 |.seq a b,i+1=>match Nat.ble (i+1) (Code.size a)with
  |true=>nth a i
  |false=>nth b (i-Code.size a)
 |.cond _ a b,i+1=>match Nat.ble (i+1) (Code.size a)with
  |true=>nth a i
  |false=>nth b (i-Code.size a)
 |.block _ c,i+1=>nth c i
 |.loop c,i+1=>nth c i
 |.scope c,i+1=>nth c i
 |_,_=>.skip
inductive KI where
 |seq (i:Nat)
 |blk (id:Nat)
 |lp (J:Act->World->Prop)
def iy(P:Program)(fn:Func)(R:Ending->World->Prop)(B:Code):List KI->Exit->Act->World->Prop
 |[]=>bodyPost P fn R
 |.seq i::K=>Exit.then ((nth B i).wp P (iy P fn R B K)) (iy P fn R B K)
 |.blk id::K=>Exit.inBlock id (iy P fn R B K)
 |.lp J::K=>Exit.then J (iy P fn R B K)
def At(P:Program)(fn:Func)(R:Ending->World->Prop)(B:Code)(K:List KI)(i:Nat)(a:Act)(w:World):Prop:=(nth B i).wp P (iy P fn R B K) a w
def aj:Code->Array Oper
 |.region _ ops _=>ops
 |_=> #[]
def AtR(P:Program)(fn:Func)(R:Ending->World->Prop)(B:Code)(K:List KI)(i k:Nat)(a:Act)(w:World):Prop:=
 wpList P (aj (nth B i)) (iy P fn R B K) ((aj (nth B i)).toList.drop k) a w
inductive Way where
 |node (i:Nat) (K:List KI)
 |back
 |ret
 |lost
def xo(id:Nat):List KI->Option (List KI)
 |[]=>none
 |.blk j::K=>match Nat.beq j id with
  |true=>some K
  |false=>xo id K
 |_::K=>xo id K
def Mf:List KI->Way
 |[]=>.ret
 |.seq i::K=>.node i K
 |.blk _::K=>Mf K
 |.lp _::_=>.back
section
variable {P:Program} {fn:Func} {R:Ending->World->Prop} {B:Code} {K K':List KI} {i:Nat} {a:Act} {w:World}
theorem ms(h:Mf K=.node i K')(hk:At P fn R B K' i a w):iy P fn R B K .normal a w:=by
 induction K with
 |nil=>simp[Mf]at h
 |cons x K ih=>
  cases x with
  |seq j=>simp only[Mf]at h;obtain⟨rfl,rfl⟩:=h;exact hk
  |blk id=>exact ih (by simpa [Mf]using h)
  |lp J=>simp[Mf]at h
theorem XK{id:Nat}(h:xo id K=S' K')(hk:iy P fn R B K' .normal a w):iy P fn R B K (.exit id) a w:=by
 induction K with
 |nil=>simp[xo]at h
 |cons x K ih=>
  cases x with
  |seq j=>exact ih (by simpa [xo]using h)
  |lp J=>exact ih (by simpa [xo]using h)
  |blk j=>
   simp only[xo]at h;split at h
   ·simp_all [Exit.inBlock,iy]
   ·rename_i he;have hne:¬id=j:=λe=>by subst e;simp at he
    simp_all [Exit.inBlock,iy]
theorem QU(hk:bodyPost P fn R .ret a w):iy P fn R B K .ret a w:=by
 induction K with
 |nil=>exact hk
 |cons x K ih=>cases x<;>exact ih
theorem yL{j:Nat}(hc:nth B i=.seq (nth B (i+1)) (nth B j))(h:At P fn R B (.seq j::K) (i+1) a w):At P fn R B K i a w:=by
 unfold At;rw[hc];exact wp_seq h
theorem Rz{id:Nat}(hc:nth B i=.block id (nth B (i+1)))(h:At P fn R B (.blk id::K) (i+1) a w):At P fn R B K i a w:=by
 unfold At;rw[hc];exact wp_block h
theorem Xr(hc:nth B i=.skip)(h:iy P fn R B K .normal a w):At P fn R B K i a w:=by
 unfold At;rw[hc];exact wp_skip h
theorem Xl{id:Nat}(hc:nth B i=.exit id)(h:iy P fn R B K (.exit id) a w):At P fn R B K i a w:=by
 unfold At;rw[hc];exact wp_exit h
theorem IU(hc:nth B i=.ret)(h:bodyPost P fn R .ret a w):At P fn R B K i a w:=by
 unfold At;rw[hc];exact wp_ret (QU h)
theorem mD{id:Nat}(hc:nth B i=.region id (aj (nth B i)) F')(h:AtR P fn R B K i 0 a w):At P fn R B K i a w:=by
 unfold At;rw[hc];exact wp_region_list (by simpa [AtR]using h)
theorem qq{k:Nat}(hk:(aj (nth B i)).toList.drop k=[])(h:iy P fn R B K .normal a w):AtR P fn R B K i k a w:=by
 unfold AtR;rw[hk];exact h
theorem te{n k m:Nat}{L L':Sl}{H:EO}{ts:List Nat}{O:World->Prop}(hs:St n L a)(he:seg P (aj (nth B i)) n k m L H ts=S' (L',O))(hO:O w)(h:∀a',St n L' a'->AtR P fn R B K i (k+m) a' w):AtR P fn R B K i k a w:=by
 unfold seg at he;split at he
 ·rename_i L1 O1 h1;split at he
  ·rename_i L2 h2;simp only[aoX,apt]at he;obtain⟨rfl,rfl⟩:=he
   have:(aj (nth B i)).toList.drop k=((aj (nth B i)).toList.drop k).take m++(aj (nth B i)).toList.drop (k+m):=by
    rw[<-ar5,aqi]
   unfold AtR;rw[this];exact V7 _ k L L1 O1 a h1 hO hs λa' ha'=>h a' (ha'.pick h2)
  ·cases he
 ·cases he
end
end
section
def evP(P:Program):Sem Next->Option Next
 |.pure n=>some n
 |.program k=>evP P (k P)
 |_=>none
theorem XB{P:Program}{w:World}:∀(t:Sem Next) (n:Next),evP P t=S' n->t.run P w=.ok n w:=by
 intro t;induction t with
 |pure m=>intro n h;simp[evP]at h;rw[h];rfl
 |program k ih=>intro n h;exact ih P n h
 |_=>intro n h;simp[evP]at h
def evN(P:Program)(r:Nat):Sem Next->Option (Obj×Next)
 |.program k=>evN P r (k P)
 |.new o k=>match evP P (k r)with
  |some n=>some (o,n)
  |none=>none
 |_=>none
theorem XC{P:Program}{w:World}:∀(t:Sem Next) (o:Obj) (n:Next),evN P w.heap.size t=S' (o,n)->t.run P w=.ok n (w.alloc o):=by
 intro t;induction t with
 |program k ih=>intro o n h;exact ih P o n h
 |new o' k ih=>
  intro o n h;simp only[evN]at h;split at h
  ·rename_i m hm;obtain⟨rfl,rfl⟩:=h;exact XB (w:=w.alloc o') _ _ hm
  grind
 |_=>intro o n h;simp[evN]at h
def F3(c:Code)(k:Nat):Oper:=((aj c).toList[k]?).getD default
def acf(c:Code)(k:Nat):Bool:=Nat.ble (k+1) (aj c).toList.length
def Wg(n:Nat)(L:Sl)(d:Option Nat)(v:Value)(ts:List Nat):Option Sl:=
 match HF n L d v with
 |some L'=>yB L' ts
 |none=>none
theorem St.putK_{n:Nat}{L L':Sl}{a:Act}{d:Option Nat}{v:Value}{ts:List Nat}(h:St n L a)(hp:Wg n L d v ts=S' L'):St n L' (a.put d v):=by
 unfold Wg at hp;split at hp
 ·rename_i L1 h1;exact(h.put h1).pick hp
 grind
def ame(L:Sl)(c:Code)(k:Nat):Bool:=acf c k&&Lu L (F3 c k).op&&(match tv (aj c) L (F3 c k)with|S' T'=>T'|_=>F')
section
variable {P:Program} {fn:Func} {R:Ending->World->Prop} {B:Code} {K K':List KI} {i:Nat} {a:Act} {w:World}
theorem vk{n k:Nat}{L:Sl}(hs:St n L a)(hg:ame L (nth B i) k=T')
  (h:(F3 (nth B i) k).upon P a (λa' w'=>AtR P fn R B K i (k+1) a' w') (iy P fn R B K) ((execOp (fX L) (F3 (nth B i) k)).run P w)):AtR P fn R B K i k a w:=by
 simp only[ame,aoT]at hg;obtain⟨⟨hk,hok⟩,hwt⟩:=hg;have hlt:k<(aj (nth B i)).toList.length:=by have:=aoV hk;omega
 have ho:F3 (nth B i) k=(aj (nth B i)).toList[k]:=by unfold F3;rw[aoO hlt];rfl
 generalize hoo:F3 (nth B i) k=o at*
 unfold AtR
 have:(aj (nth B i)).toList.drop k=o::(aj (nth B i)).toList.drop (k+1):=by
  grind [ao5]
 rw[this];unfold wpList
 have hw:tv (aj (nth B i)) L o=S' true:=by
  grind
 rw[apB (hs.wanted hw)];refine .inl ?_;unfold Oper.wp;rwa [hs.exec o hok]
structure New (w w':World) (r:Nat) (t:TypeId) (cs:Array Value):Prop where
 blk:Blk w' r t cs
 at_:r=w.heap.size
 size:w'.heap.size=w.heap.size+1
 below:Below w.heap.size w w'
theorem New.mk_(w:World)(t:TypeId)(cs:Array Value):New w (w.alloc (.cells cs t)) w.heap.size t cs:=⟨Blk.new _ _ _,rfl,by simp,(arl _ _).alloc (aoU _) _⟩
theorem aie{N:Act->World->Prop}{Q:Exit->Act->World->Prop}{o:Oper}{n:Nat}{L:Sl}{t:TypeId}{cs:Array Value}(F:Nat->Value)(ts:List Nat)(L':Nat->Sl)(hs:St n L a)
  (he:∀r,evN P r (execOp (fX L) o)=S' (.cells cs t (0,0),.value (F r))) (hp:∀r,Wg n L o.dst (F r) ts=S' (L' r))
  (h:∀a' w' r,New w w' r t cs->St n (L' r) a'->N a' w'):o.upon P a N Q ((execOp (fX L) o).run P w):=by
 rw[XC _ _ _ (he w.heap.size)];exact h _ _ _ (New.mk_ w t cs) (hs.putK_ (hp _))
def evS(P:Program):Sem Next->Option (List (Addr×Value))
 |.program k=>evS P (k P)
 |.store .plain a v k=>match evS P k with
  |some l=>some ((a,v)::l)
  |none=>none
 |.pure .skip=>some []
 |_=>none
def JO:Value->Prop
 |.agg _=>False
 |.tuple _=>False
 |_=>True
def xM:World->List (Addr×Value)->World
 |w,[]=>w
 |w,(a,v)::l=>xM (w.setCell a v) l
def HP:World->List (Addr×Value)->Prop
 |_,[]=>True
 |w,(a,v)::l=>JO v/\(∃u,w.cell? a=some u)/\w.frozen? a=false/\HP (w.setCell a v) l
theorem Xy{P:Program}:∀(t:Sem Next) (l:List (Addr×Value)) (w:World),evS P t=S' l->HP w l->t.run P w=.ok .skip (xM w l):=by
 intro t;induction t with
 |program k ih=>intro l w h hc;exact ih P l w h hc
 |pure m=>
  intro l w h hc;cases m<;>simp[evS]at h;subst h;rfl
 |store m ad v k ih=>
  intro l w h hc;cases m with
  |atomic=>simp[evS]at h
  |plain=>
   simp only[evS]at h;split at h
   ·rename_i l' hl;injection h with h;subst h;obtain⟨h1,⟨u,hu⟩,h2,h3⟩:=hc;have:=ih l' _ hl h3;cases v<;>first|exact h1.elim|(simp only[Sem.run,hu,h2];exact this)
   grind
 |_=>intro l w h;simp[evS]at h
structure Upd (w w':World) (b:Nat):Prop where
 os:w'.os=w.os
 tape:w'.tape=w.tape
 output:w'.output=w.output
 size:w'.heap.size=w.heap.size
 block:∀k,k≠b->w'.heap[k]?=w.heap[k]?
theorem Upd.below{w w':World}{b B:Nat}(h:Upd w w' b)(hb:B<=b):Below B w w':=⟨h.os,h.tape,h.output,by rw[h.size];exact aoU _,λk hk=>h.block k (by omega)⟩
theorem Upd.blk{w w':World}{b g:Nat}{t:TypeId}{cs:Array Value}(h:Upd w w' b)(hg:Blk w g t cs)(hne:g≠b):Blk w' g t cs:=(h.block g hne).trans hg
def BJ(b:Nat):List (Nat×Value)->List (Addr×Value)
 |[]=>[]
 |(o,v)::l=>(⟨b,o,none⟩,v)::BJ b l
def setRow:Array Value->List (Nat×Value)->Array Value
 |cs,[]=>cs
 |cs,(o,v)::l=>setRow (cs.setIfInBounds o v) l
def Tu(n:Nat):List (Nat×Value)->Prop
 |[]=>True
 |(o,v)::l=>o<n/\JO v/\Tu n l
theorem IX{b:Nat}{t:TypeId}:∀(l:List (Nat×Value)) (w:World) (cs:Array Value),Blk w b t cs->Tu cs.size l->HP w (BJ b l)/\Blk (xM w (BJ b l)) b t (setRow cs l)/\Upd w (xM w (BJ b l)) b:=by
 intro l;induction l with
 |nil=>intro w cs hb _;exact⟨trivial,hb,⟨rfl,rfl,rfl,rfl,λ_ _=>rfl⟩⟩
 |cons x l ih=>
  intro w cs hb hr;obtain⟨o,v⟩:=x;obtain⟨h1,h2,h3⟩:=hr;have hb':Blk (w.setCell ⟨b,o,N'⟩ v) b t (cs.setIfInBounds o v):=hb.set o v;obtain⟨i1,i2,i3⟩:=ih _ _ hb' (by simpa using h3);refine⟨⟨h2,⟨cs[o],hb.cell o (by simp[h1])⟩,hb.free o,i1⟩,i2,⟨i3.os,i3.tape,i3.output,?_,λk hk=>(i3.block k hk).trans (Below.heap_setCell _ _ _ _ hk)⟩⟩;grind [xM,BJ,i3.size,World.setCell]
theorem DA{N:Act->World->Prop}{Q:Exit->Act->World->Prop}{o:Oper}{n b:Nat}{L:Sl}{t:TypeId}{cs:Array Value}(cs':Array Value)(l:List (Nat×Value))(ts:List Nat)(L':Sl)(hs:St n L a)(hb:Blk w b t cs)
  (he:evS P (execOp (fX L) o)=S' (BJ b l)) (hr:Tu cs.size l) (hcs:setRow cs l=cs') (hp:Wg n L o.dst undef ts=S' L')
  (h:∀a' w',Blk w' b t cs'->Upd w w' b->St n L' a'->N a' w'):o.upon P a N Q ((execOp (fX L) o).run P w):=by
 obtain⟨i1,i2,i3⟩:=IX l w cs hb hr;rw[Xy _ _ _ he i1];subst hcs;exact h _ _ i2 i3 (hs.putK_ hp)
def Gg:Nat->List Value->Sl
 |_,[]=>[]
 |k,v::l=>(k,v)::Gg (k+1) l
theorem BS:∀(l:List Value) (k t:Nat) (v:Value),look (Gg k l) t=S' v->k<=t/\l[t-k]?=S' v:=by
 intro l;induction l with
 |nil=>intro k t v h;simp[Gg,look]at h
 |cons x l ih=>
  intro k t v h;simp only[Gg,look]at h;split at h
  ·simp_all
  grind
theorem enter{f:FuncId}{args:List Value}(hf:P.funcs[f]?=S' fn)(hB:fn.body=S' B)(hn:Nat.ble args.length fn.ntmps=T')
  (h:∀a,St fn.ntmps (Gg 0 args) a->At P fn R B [] 0 a w):Calls P f args.toArray w R:=by
 refine calls_of_wp hf hB ?_;have hn:=aoV hn
 have:=h {tmps:=args.toArray++Array.replicate (fn.ntmps-args.toArray.size) undef,defers:=[]} ⟨rfl,by simp;omega,λt v hv=>by
  obtain⟨_,h2⟩:=BS args 0 t v hv;have hlt:t<args.length:=(aoZ.1 h2).1;rw[Array.getElem?_append_left (by simpa using hlt)];simpa using h2⟩
 unfold At at this;have h0:nth B 0=B:=by cases B<;>rfl
 rwa [h0]at this
def evV(P:Program):Sem Value->List Value->Option (Value×Obl)
 |.pure n,[]=>some (n,[])
 |.program k,H=>evV P (k P) H
 |.load .plain a k,v::H=>match evV P (k v) H with
  |some (n,O)=>some (n,(λw=>w.cell? a=some v)::O)
  |none=>none
 |_,_=>none
theorem Vx{P:Program}{w:World}:∀(t:Sem Value) (H:List Value) (n:Value) (O:Obl),evV P t H=S' (n,O)->tJ O w->t.run P w=.ok n w:=by
 intro t;induction t with
 |pure m=>
  intro H n O h _;cases H with
  |nil=>simp[evV]at h;rw[h.1];rfl
  |cons=>simp[evV]at h
 |program k ih=>
  intro H n O h hO;exact ih P H n O h hO
 |load m a k ih=>
  intro H n O h hO;cases m with
  |atomic=>cases H<;>simp[evV]at h
  |plain=>
   cases H with
   |nil=>simp[evV]at h
   |cons v H=>
    simp only[evV]at h;cases hr:evV P (k v) H with
    |none=>simp[hr]at h
    |some r=>
     simp only[hr,aoX,apt]at h;obtain⟨rfl,rfl⟩:=h;simp only[Sem.run,hO.1];exact ih v H _ _ hr hO.2
 |_=>intro H n O h;cases H<;>simp[evV]at h
def sh(P:Program)(L:Sl):List ResultVar->List Value->Option (List Value×Obl)
 |[],[]=>some ([],[])
 |.tmp t::rs,H=>match look L t with
  |some v=>match sh P L rs H with
   |some (vs,O)=>some (v::vs,O)
   |none=>none
  |none=>none
 |.cell ad t::rs,H=>match look L ad with
  |some (.pointer (some p))=>match P.info? t with
   |some inf=>match evV P (loadVar t p) (H.take inf.size)with
    |some (v,O)=>match sh P L rs (H.drop inf.size)with
     |some (vs,O')=>some (v::vs,O++O')
     |none=>none
    |none=>none
   |none=>none
  |_=>none
 |_,_=>none
def kS:List Value->Value
 |[v]=>v
 |vs=>.tuple vs.toArray
theorem Io{n:Nat}{L:Sl}(hs:St n L a):∀(rs:List ResultVar) (H vs:List Value) (O:Obl),sh P L rs H=S' (vs,O)->tJ O w->∀_acc:List Value,
  ((rs.mapM (m:=Sem) fun
   |.tmp t=>pure (a.tmps.getD t undef)
   |.cell ad t=>do loadVar t (<-asAddr (a.tmps.getD ad undef))).run P w)=.ok vs w:=by
 intro rs;induction rs with
 |nil=>
  intro H vs O h _ _;cases H<;>simp[sh]at h;obtain⟨rfl,rfl⟩:=h;rfl
 |cons r rs ih=>
  intro H vs O h hO acc;rw[List.mapM_cons];cases r with
  |tmp t=>
   simp only[sh]at h;split at h
   ·rename_i v hv;split at h
    ·rename_i vs' O' hr;simp only[aoX,apt]at h;obtain⟨rfl,rfl⟩:=h;have:=ih H vs' O' hr hO acc;have hsl:=hs.slot _ _ hv;simp only[apO,aqh,api,ap2,hsl,Option.getD_some]at this ⊢;rw[this];rfl
    ·cases h
   ·cases h
  |cell ad t=>
   simp only[sh]at h;split at h
   ·rename_i p hv;split at h
    ·rename_i inf hinf;split at h
     ·rename_i v O1 h1;split at h
      ·rename_i vs' O' hr;simp only[aoX,apt]at h;obtain⟨rfl,rfl⟩:=h;obtain⟨hO1,hO2⟩:=lD hO;have:=ih _ vs' O' hr hO2 acc;have hsl:=hs.slot _ _ hv;have hld:=Vx _ _ _ _ h1 hO1;simp only[apO,aqh,api,ap2,hsl,Option.getD_some,asAddr,hld]at this ⊢;rw[this];rfl
      ·cases h
     ·cases h
    ·cases h
   ·cases h
def alY(P:Program)(L:Sl)(rs:List ResultVar)(H:List Value):Option (List Value×(World->Prop)):=
 match sh P L rs H with
 |some (vs,O)=>some (vs,tJ O)
 |none=>none
theorem SY{n:Nat}{L:Sl}{H vs:List Value}{O:World->Prop}{v:Value}(hs:St n L a)(he:alY P L fn.results.toList H=S' (vs,O))(hv:kS vs=v)(hO:O w)(h:R (.returned v) w):bodyPost P fn R .ret a w:=by
 unfold alY at he;split at he;case h_2=>cases he
 rename_i vs0 O0 he0;simp only[aoX,apt]at he;obtain⟨rfl,rfl⟩:=he;replace he:=he0
 refine⟨hs.defers,v,?_,h⟩;have:=Io (P:=P) (w:=w) hs fn.results.toList H _ O0 he hO [];unfold Go.results;generalize hrs:fn.results=rs at*
 obtain⟨l⟩:=rs;subst hv;simp only[List.mapM_toArray,bind_map_left];simp only[apO];refine(congrArg (λr:Result (List Value)=>r.andThen λ(a:List Value) w'=>Sem.run P (pure (if h:a.toArray.size=1 then a.toArray[0]else Value.tuple a.toArray)) w') this).trans ?_;match vs0 with
 |[]=>rfl
 |[x]=>rfl
 |x::y::r=>simp[kS]
end
end
section
def W(k:IntKind)(n:Int):Prop:=Value.int k (k.wrap n)=.int k n
section
variable {n:Nat} {L:Sl} {a:Act}
theorem St.know{t:Nat}{b c:Bool}(h:St n L a)(hl:look L t=S' (.bool b))(hb:b=c):St n ((t,.bool c)::L) a:=by
 subst hb;refine⟨h.defers,h.size,λs v hv=>?_⟩;simp only[look]at hv;split at hv
 ·rename_i he;have:t=s:=aoS he;subst this;injection hv with hv;subst hv;exact h.slot _ _ hl
 ·exact h.slot s v hv
def aed(L:Sl):Sl->Prop
 |[]=>True
 |(t,v)::r=>(∃u,look L t=some u/\u=v)/\aed L r
theorem Nf{L:Sl}:∀{L':Sl},aed L L'->∀t v,look L' t=S' v->look L t=S' v:=by
 intro L';induction L' with
 |nil=>intro _ t v h;simp[look]at h
 |cons x r ih=>
  obtain⟨s,u⟩:=x;intro h t v hv;simp only[look]at hv;split at hv
  ·rename_i he;have:s=t:=aoS he;subst this;injection hv with hv;subst hv;obtain⟨⟨u',hu,rfl⟩,_⟩:=h;omega
  ·exact ih h.2 t v hv
theorem St.sub{L':Sl}(h:St n L a)(hs:aed L L'):St n L' a:=⟨h.defers,h.size,λt v hv=>h.slot t v (Nf hs t v hv)⟩
end
def mkL(n:Nat):List Nat->Array Bool
 |[]=>Array.replicate n false
 |i::D=>(mkL n D).setIfInBounds i true
theorem ij(n:Nat):∀D,(mkL n D).size=n
 |[]=>by simp[mkL]
 |i::D=>by simp[mkL,ij n D]
def PQ(Q:Exit->Act->World->Prop):Prop:=∀c a d v w,Q (.panic c) (Act.put a d v) w->Q (.panic c) a w
theorem Xa{P:Program}{fn:Func}{R:Ending->World->Prop}:PQ (bodyPost P fn R):=by
 intro c a d v w h;cases d<;>exact h
theorem j8{P:Program}{fn:Func}{R:Ending->World->Prop}{B:Code}:∀K,PQ (iy P fn R B K)
 |[]=>Xa
 |.seq _::K=>λc a d v w h=>j8 K c a d v w h
 |.blk _::K=>λc a d v w h=>j8 K c a d v w h
 |.lp _::K=>λc a d v w h=>j8 K c a d v w h
section
variable {P:Program} {fn:Func} {R:Ending->World->Prop} {B:Code} {K:List KI} {i:Nat} {a:Act} {w:World} {S:World->Prop}
def okD(c:Code):List Nat->List Nat->Bool
 |[],_=>Region.noSelect (aj c)
 |j::js,D=>acf c j&&(F3 c j).dst.isSome&&Region.free .any (aj c) (mkL (aj c).size D) j&&(Region.ready .any (aj c) (mkL (aj c).size D)).contains j&&okD c js (j::D)
end
section
variable {P:Program} {fn:Func} {R:Ending->World->Prop} {B:Code} {K:List KI} {i:Nat} {a:Act} {w:World}
end
end
inductive Ty where
 |int (k:IntKind)
 |bool
 |str
 |sl (e:Ty)
 |pair (a b:Ty)
 |st (a:Ty)
@[reducible] def Ty.D:Ty->Type
 |.int _=>Int
 |.bool=>Bool
 |.str=>ByteArray
 |.sl e=>List e.D
 |.pair a b=>a.D×b.D
 |.st a=>a.D
def Ty.n:Ty->Nat
 |.pair a b=>a.n+b.n
 |.st a=>a.n
 |_=>1
def bJ{α β:Type}(R:α->β->Prop):List α->List β->Prop
 |[],[]=>True
 |a::l,b::m=>R a b/\bJ R l m
 |_,_=>False
theorem a8{α β:Type}{R S:α->β->Prop}(h:∀a b,R a b->S a b):∀{l:List α} {m:List β},bJ R l m->bJ S l m
 |[],[],_=>trivial
 |_::_,_::_,⟨h1,h2⟩=>⟨h _ _ h1,a8 h h2⟩
theorem dw{α β:Type}{R:α->β->Prop}:∀{l:List α} {m:List β},bJ R l m->l.length=m.length
 |[],[],_=>rfl
 |_::_,_::_,⟨_,h2⟩=>by simp[dw h2]
theorem pM{α β:Type}{R:α->β->Prop}:∀{l:List α} {m:List β},bJ R l m->∀(i:Nat) (b:β),m[i]?=S' b->∃a,l[i]?=S' a/\R a b
 |[],[],_,i,b,h=>by simp at h
 |a::l,b'::m,⟨h1,h2⟩,0,b,h=>by simp at h;subst h;exact⟨a,rfl,h1⟩
 |a::l,b'::m,⟨h1,h2⟩,i+1,b,h=>by simp at h;obtain⟨x,hx,hr⟩:=pM h2 i b h;exact⟨x,by simpa using hx,hr⟩
theorem fR{α β:Type}{R:α->β->Prop}:∀{l:List α} {m:List β},bJ R l m->∀(i:Nat) (a:α),l[i]?=S' a->∃b,m[i]?=S' b/\R a b
 |[],[],_,i,b,h=>by simp at h
 |a::l,b'::m,⟨h1,h2⟩,0,b,h=>by simp at h;subst h;exact⟨b',rfl,h1⟩
 |a::l,b'::m,⟨h1,h2⟩,i+1,b,h=>by simp at h;obtain⟨x,hx,hr⟩:=fR h2 i b h;exact⟨x,by simpa using hx,hr⟩
theorem dJ{α β:Type}{R:α->β->Prop}:∀{l:List α} {m:List β} {l':List α} {m':List β},bJ R l m->bJ R l' m'->bJ R (l++l') (m++m')
 |[],[],_,_,_,h=>h
 |_::_,_::_,_,_,⟨h1,h2⟩,h=>⟨h1,dJ h2 h⟩
theorem iO{α β:Type}{R:α->β->Prop}:∀{l:List α} {m:List β} (k:Nat),bJ R l m->bJ R (l.take k) (m.take k)
 |[],[],k,_=>by simp[bJ]
 |_::_,_::_,0,_=>by simp[bJ]
 |_::_,_::_,k+1,⟨h1,h2⟩=>by simp only[List.take_succ_cons];exact⟨h1,iO k h2⟩
theorem iL{α β:Type}{R:α->β->Prop}:∀{l:List α} {m:List β} (k:Nat),bJ R l m->bJ R (l.drop k) (m.drop k)
 |[],[],k,_=>by simp[bJ]
 |_::_,_::_,0,h=>h
 |_::_,_::_,k+1,⟨h1,h2⟩=>by simp only[List.drop_succ_cons];exact iL k h2
theorem un{α β:Type}{R:α->β->Prop}:∀{l:List α} {m:List β} (k:Nat) {a:α} {b:β},bJ R l m->R a b->bJ R (l.set k a) (m.set k b)
 |[],[],k,_,_,_,_=>by simp[bJ]
 |_::_,_::_,0,_,_,⟨_,h2⟩,h=>⟨h,h2⟩
 |_::_,_::_,k+1,_,_,⟨h1,h2⟩,h=>⟨h1,un k h2 h⟩
theorem J6{α β:Type}{R:α->β->Prop}:∀{l:List α} {m:List β},l.length=m.length->(∀(i:Nat) (a:α) (b:β),l[i]?=S' a->m[i]?=S' b->R a b)->bJ R l m
 |[],[],_,_=>trivial
 |a::l,b::m,hl,h=>⟨h 0 a b rfl rfl,J6 (by simpa using hl) (λi a b h1 h2=>h (i+1) a b (by simpa using h1) (by simpa using h2))⟩
 |[],_::_,hl,_=>by simp at hl
 |_::_,[],hl,_=>by simp at hl
def jd(w:World)(b off:Nat)(cs:List Value):Prop:=∀i v,cs[i]?=S' v->w.cell? ⟨b,off+i,N'⟩=S' v
def Ty.rd(A:Nat->Prop)(w:World):(t:Ty)->List Value->t.D->Prop
 |.int k,cs,x=>cs=[.int k x]
 |.bool,cs,x=>cs=[.bool x]
 |.str,cs,x=>cs=[.string x]
 |.pair a b,cs,x=>∃l1 l2,cs=l1++l2/\a.rd A w l1 x.1/\b.rd A w l2 x.2
 |.st a,cs,x=>a.rd A w cs x
 |.sl e,cs,x=>∃p n c css,cs=[.slice p n c]/\x.length=n/\n<=c/\c<=maxLen/\bJ (λl y=>e.rd A w l y) css x/\
   (0<n->∃b off,p=S' ⟨b,off,N'⟩/\A b/\b<w.heap.size/\jd w b off css.flatten)
theorem Ty.rd_len{A:Nat->Prop}{w:World}:∀{t:Ty} {cs:List Value} {x:t.D},t.rd A w cs x->cs.length=t.n
 |.int _,_,_,h=>by simp only[Ty.rd]at h;subst h;rfl
 |.bool,_,_,h=>by simp only[Ty.rd]at h;subst h;rfl
 |.str,_,_,h=>by simp only[Ty.rd]at h;subst h;rfl
 |.pair a b,_,_,h=>by
  obtain⟨l1,l2,rfl,h1,h2⟩:=h;simp[Ty.n,Ty.rd_len h1,Ty.rd_len h2]
 |.st a,_,_,h=>Ty.rd_len (t:=a) h
 |.sl e,_,_,h=>by obtain⟨p,n,c,css,rfl,_⟩:=h;rfl
structure Keeps (A A':Nat->Prop) (w w':World):Prop where
 size:w.heap.size<=w'.heap.size
 sub:∀b,b<w.heap.size->A b->A' b
 block:∀b,b<w.heap.size->A b->w'.heap[b]?=w.heap[b]?
theorem Keeps.cells{A A':Nat->Prop}{w w':World}(h:Keeps A A' w w'){b off:Nat}{cs:List Value}(hb:b<w.heap.size)(hA:A b)(hc:jd w b off cs):jd w' b off cs:=
 λi v hv=>(World.cell?_of_block (a:=⟨b,off+i,N'⟩) (h.block b hb hA)).trans (hc i v hv)
theorem Ty.rd_keep{A A':Nat->Prop}{w w':World}(hk:Keeps A A' w w'):∀{t:Ty} {cs:List Value} {x:t.D},t.rd A w cs x->t.rd A' w' cs x
 |.int _,_,_,h=>h
 |.bool,_,_,h=>h
 |.str,_,_,h=>h
 |.pair _ _,_,_,⟨l1,l2,h0,h1,h2⟩=>⟨l1,l2,h0,Ty.rd_keep hk h1,Ty.rd_keep hk h2⟩
 |.st a,_,_,h=>Ty.rd_keep (t:=a) hk h
 |.sl e,_,_,⟨p,n,c,css,h0,h1,h2,h3,h4,h5⟩=>⟨p,n,c,css,h0,h1,h2,h3,a8 (λ_ _ h=>Ty.rd_keep hk h) h4,λhn=>by
   obtain⟨b,off,g1,g2,g3,g4⟩:=h5 hn;exact⟨b,off,g1,hk.sub b g3 g2,aqI g3 hk.size,hk.cells g3 g2 g4⟩⟩
def Ty.isSt:Ty->Bool
 |.st _=>true
 |_=>false
def mkV(t:Ty)(cs:List Value):Value:=match t.isSt with
 |true=>.agg cs.toArray
 |false=>cs.headD undef
inductive SV where
 |d (t:Ty) (x:t.D)
 |nil
 |box (j off:Nat)
 |elt (e:Ty) (x:e.D) (off:Nat)
 |own (j:Nat)
 |oelt (j sz i off:Nat)
 |clo (f:Nat) (caps:List Nat)
 |tup (l:List SV)
 |undef
 |dead
 |cut (e:Ty) (xs:List e.D)
 |osl (j sz lo n:Nat)
abbrev SI(x:Int):SV:=.d (.int .i64) x
abbrev SB(b:Bool):SV:=.d .bool b
inductive Item where
 |box (t:TypeId) (cells:List SV)
 |row (et:TypeId) (e:Ty) (xs:List e.D)
 |len (e:Ty) (xs:List e.D)
 |rws (et:TypeId) (cells:List SV)
 |gone
def rdI:Item->Item
 |.len e xs=>.row 0 e xs
 |it=>it
def bh:Value->Option Nat
 |.pointer (some a)=>some a.block
 |.slice (some a) _ _=>some a.block
 |_=>none
def Rel1(G:List Value)(A:Nat->Prop)(w:World):SV->Value->Prop
 |.d t x,v=>∃cs,t.rd A w cs x/\v=mkV t cs
 |.nil,v=>v=.slice none 0 0
 |.box j off,v=>∃b,G[j]?=some (.pointer (some ⟨b,0,none⟩))/\v=.pointer (some ⟨b,off,none⟩)
 |.elt e x off,v=>∃b o cs,v=.pointer (some ⟨b,o+off,none⟩)/\A b/\b<w.heap.size/\e.rd A w cs x/\jd w b o cs
 |.own j,v=>G[j]?=some v
 |.oelt j sz i off,v=>∃b n c,G[j]?=some (.slice (some ⟨b,0,none⟩) n c)/\v=.pointer (some ⟨b,i*sz+off,none⟩)
 |.clo f caps,v=>∃bs:List Nat,bJ (λj b=>G[j]?=some (.pointer (some ⟨b,0,none⟩))) caps bs/\v=.func (.func f) #[] (bs.map λb=>.pointer (some ⟨b,0,none⟩)).toArray
 |.tup _,_=>False
 |.undef,v=>v=Go.undef
 |.dead,_=>True
 |.cut e xs,v=>∃p,(Ty.sl e).rd A w [.slice p xs.length xs.length] xs/\v=.slice p xs.length xs.length
 |.osl j sz lo n,v=>∃g q c,G[j]?=some g/\v=.slice q n c/\n<=c/\c<=maxLen/\(0<n->∃b N c',g=.slice (some ⟨b,0,none⟩) N c'/\lo+n<=N/\q=some ⟨b,lo*sz,none⟩)/\(lo=0->q.map (·.add 0)=q/\∃N,g=.slice q N c)
def Rel(G:List Value)(A:Nat->Prop)(w:World):SV->Value->Prop
 |.tup l,v=>∃vs:List Value,v=.tuple vs.toArray/\bJ (Rel1 G A w) l vs
 |s,v=>Rel1 G A w s v
def SV.of1(j:Nat):SV->Bool
 |.own i=>Nat.beq i j
 |.oelt i _ _ _=>Nat.beq i j
 |.osl i _ _ _=>Nat.beq i j
 |_=>false
theorem Rel1.keep{G G':List Value}{A A':Nat->Prop}{w w':World}(hk:Keeps A A' w w'){s:SV}{v:Value}(h:Rel1 G A w s v)
  (hG:∀j g,s.of1 j=T'\/(∃a,g=.pointer a)->G[j]?=S' g->G'[j]?=S' g):Rel1 G' A' w' s v:=by
 cases s with
 |d t x=>obtain⟨cs,h1,h2⟩:=h;exact⟨cs,Ty.rd_keep hk h1,h2⟩
 |nil=>exact h
 |box j off=>obtain⟨b,h1,h2⟩:=h;exact⟨b,hG j _ (.inr ⟨_,rfl⟩) h1,h2⟩
 |elt e x off=>
  obtain⟨b,o,cs,h1,h2,h3,h4,h5⟩:=h;exact⟨b,o,cs,h1,hk.sub b h3 h2,aqI h3 hk.size,Ty.rd_keep hk h4,hk.cells h3 h2 h5⟩
 |own j=>exact hG j v (.inl (by simp[SV.of1])) h
 |oelt j sz i off=>obtain⟨b,n,c,h1,h2⟩:=h;exact⟨b,n,c,hG j _ (.inl (by simp[SV.of1])) h1,h2⟩
 |clo f caps=>obtain⟨bs,h1,h2⟩:=h;exact⟨bs,a8 (λj b hjb=>hG j _ (.inr ⟨_,rfl⟩) hjb) h1,h2⟩
 |tup l=>exact h.elim
 |undef=>exact h
 |dead=>trivial
 |cut e xs=>obtain⟨p,h1,h2⟩:=h;exact⟨p,Ty.rd_keep hk h1,h2⟩
 |osl j sz lo n=>obtain⟨g,q,c,h1,h2⟩:=h;exact⟨g,q,c,hG j _ (.inl (by simp[SV.of1])) h1,h2⟩
section
abbrev SL:=List (Nat×SV)
def aK:SL->Nat->Option SV
 |[],_=>none
 |(k,x)::r,t=>match Nat.beq k t with
  |true=>some x
  |false=>aK r t
def Item.live:Item->Bool
 |.gone=>false
 |_=>true
def Item.isRw:Item->Bool
 |.row _ _ _=>true
 |.rws _ _=>true
 |_=>false
theorem tM{it:Item}(h:it.isRw=true):it.live=true:=by cases it<;>first|rfl|cases h
def Item.mine:Item->Bool
 |.len _ _=>false
 |it=>it.live
def Av(Z:Nat->Prop)(H:List Item)(G:List Value)(b:Nat):Prop:=Z b/\∀(j:Nat) it g,H[j]?=S' it->it.live=T'->G[j]?=S' g->bh g≠S' b
def ItemRel(base:Nat)(G:List Value)(A:Nat->Prop)(w:World):Item->Value->Prop
 |.box t cells,g=>∃b vs,g=.pointer (some ⟨b,0,none⟩)/\base<=b/\Blk w b t (List.toArray vs)/\bJ (Rel1 G A w) cells vs
 |.row et e xs,g=>∃css,w.ownsRow base et e.n g xs.length (List.flatten css)/\bJ (λl y=>e.rd A w l y) css xs/\0<e.n
 |.len e xs,g=>∃et css,w.ownsRow 0 et e.n g xs.length (List.flatten css)/\bJ (λl y=>e.rd A w l y) css xs/\0<e.n
 |.rws et cells,g=>∃vs:List Value,w.ownsRow base et 1 g cells.length vs/\bJ (Rel1 G A w) cells vs
 |.gone,_=>True
structure SR (Z:Nat->Prop) (w0:World) (H:List Item) (G:List Value) (w:World):Prop where
 len:G.length=H.length
 below:Below w0.heap.size w0 w
 items:∀(j:Nat) it g,H[j]?=S' it->G[j]?=S' g->ItemRel w0.heap.size G (Av Z H G) w it g
 disj:∀(i j:Nat) it jt g h b,i≠j->H[i]?=S' it->H[j]?=S' jt->it.live=T'->jt.live=T'->G[i]?=S' g->G[j]?=S' h->bh g=S' b->bh h≠S' b
 zf:∀b,w0.heap.size<=b->Z b
theorem ItemRel.blk{base:Nat}{G:List Value}{A:Nat->Prop}{w:World}{it:Item}{g:Value}{b:Nat}(h:ItemRel base G A w it g)(hl:it.live=T')(hb:bh g=S' b):(it.mine=T'->base<=b)/\b<w.heap.size:=by
 cases it with
 |box t cells=>
  obtain⟨b',vs,rfl,h1,h2,_⟩:=h;grind [bh,h2.lt]
 |row et e xs=>
  obtain⟨css,h1,_⟩:=h
  have:g.ownBlock=S' b:=by
   rcases h1.2 with⟨rfl,_⟩|⟨g',cap,cur,rfl,_⟩
   ·grind [bh]
   grind [bh,Value.ownBlock]
  simp_all [h1.lt]
 |len e xs=>
  obtain⟨et,css,h1,_⟩:=h
  have:g.ownBlock=S' b:=by
   rcases h1.2 with⟨rfl,_⟩|⟨g',cap,cur,rfl,_⟩
   ·grind [bh]
   grind [bh,Value.ownBlock]
  exact⟨(λh=>by cases h),(h1.lt _ this).2⟩
 |rws et cs=>
  obtain⟨vs,h1,_⟩:=h
  have:g.ownBlock=S' b:=by
   rcases h1.2 with⟨rfl,_⟩|⟨g',cap,cur,rfl,_⟩
   ·grind [bh]
   grind [bh,Value.ownBlock]
  simp_all [h1.lt]
 |gone=>simp[Item.live]at hl
theorem V8{it:Item}(h:it.isRw=true):it.mine=true:=by cases it<;>first|rfl|cases h
theorem SR.read{Z:Nat->Prop}{w0 w:World}{H:List Item}{G:List Value}(hr:SR Z w0 H G w){j:Nat}{et:TypeId}{e:Ty}{xs:List e.D}{g:Value}(hj:(H.map rdI)[j]?=S' (.row et e xs))(hg:G[j]?=S' g):∃css et',w.ownsRow 0 et' e.n g xs.length (List.flatten css)/\bJ (λl y=>e.rd (Av Z H G) w l y) css xs/\0<e.n:=by
 rw[apS]at hj;cases hh:H[j]? with
 |none=>rw[hh]at hj;cases hj
 |some it=>
  rw[hh]at hj;have h:=hr.items j it g hh hg;cases it with
  |box t cs=>cases hj
  |gone=>cases hj
  |rws t cs=>cases hj
  |row t e' ys=>
   injection hj with hj;injection hj with h1 h2 h3;subst h1 h2;cases h3;obtain⟨css,h1,h2,h3⟩:=h;exact⟨css,_,⟨h1.1,h1.2.imp id λ⟨g,cap,cur,a,_,r⟩=>⟨g,cap,cur,a,arh _,r⟩⟩,h2,h3⟩
  |len e' ys=>
   injection hj with hj;injection hj with h1 h2 h3;subst h2;cases h3;obtain⟨t,css,h1,h2,h3⟩:=h;exact⟨css,t,h1,h2,h3⟩
theorem SR.rblk{Z:Nat->Prop}{w0 w:World}{H:List Item}{G:List Value}(hr:SR Z w0 H G w){j:Nat}{et:TypeId}{e:Ty}{xs:List e.D}{g:Value}(hj:(H.map rdI)[j]?=S' (.row et e xs))(hg:G[j]?=S' g){b:Nat}(hb:bh g=S' b):b<w.heap.size/\∃it,H[j]?=S' it/\it.live=true:=by
 rw[apS]at hj;cases hh:H[j]? with
 |none=>rw[hh]at hj;cases hj
 |some it=>
  rw[hh]at hj;have hl:it.live=true:=by cases it<;>first|rfl|cases hj
  exact⟨((hr.items j it g hh hg).blk hl hb).2,it,rfl,hl⟩
def Wk(j:Nat)(same:Prop)(s s':SV):Prop:=s'=.dead\/(s'=s/\(s.of1 j=T'->same))
def WkI(j:Nat)(same:Prop):Item->Item->Prop
 |.box t cs,.box t' cs'=>t=t'/\bJ (Wk j same) cs cs'
 |.row et e xs,it'=>it'=.row et e xs
 |.len e xs,it'=>it'=.len e xs
 |.rws et cs,.rws et' cs'=>et=et'/\bJ (Wk j same) cs cs'
 |.gone,it'=>it'=.gone
 |_,_=>False
theorem WkI.live{j:Nat}{same:Prop}{it it':Item}(h:WkI j same it it'):it'.live=it.live:=by
 cases it<;>cases it'<;>simp_all [WkI,Item.live]
structure Step (w0:World) (j:Nat) (same:Prop) (H H':List Item) (G G':List Value) (w w':World):Prop where
 len:G'.length=H'.length
 below:Below w0.heap.size w0 w'
 size:w.heap.size<=w'.heap.size
 block:∀b,b<w.heap.size->(∀it g,H[j]?=S' it->it.live=T'->G[j]?=S' g->bh g≠S' b)->w'.heap[b]?=w.heap[b]?
 head:∀(i:Nat) g,i≠j->G[i]?=S' g->G'[i]?=S' g
 item:∀(i:Nat) it',i≠j->H'[i]?=S' it'->∃it,H[i]?=S' it/\WkI j same it it'
 new:∀it' g' b,H'[j]?=S' it'->it'.live=T'->G'[j]?=S' g'->bh g'=S' b->(∃it g,H[j]?=S' it/\it.live=T'/\G[j]?=S' g/\bh g=S' b)\/w.heap.size<=b
 fit:same->∀g,G[j]?=S' g->G'[j]?=S' g
 ptr:∀a,G[j]?=S' (.pointer a)->G'[j]?=S' (.pointer a)
section
variable {Z:Nat->Prop} {w0:World} {j:Nat} {same:Prop} {H H':List Item} {G G':List Value} {w w':World}
theorem Step.keeps(hs:Step w0 j same H H' G G' w w')(hr:SR Z w0 H G w):Keeps (Av Z H G) (Av Z H' G') w w':=by
 refine⟨hs.size,λb hb hA=>⟨hA.1,λi it' g' hi hl hg hbk=>?_⟩,λb hb hA=>hs.block b hb λit g h1 h2 h3=>hA.2 j it g h1 h2 h3⟩;by_cases hij:i=j
 ·subst hij;rcases hs.new it' g' b hi hl hg hbk with⟨it,g,h1,h2,h3,h4⟩|h1
  ·exact hA.2 i it g h1 h2 h3 h4
  ·omega
 ·obtain⟨it,h1,h2⟩:=hs.item i it' hij hi;have hlt:i<G.length:=by rw[hr.len];exact(aoZ.1 h1).1
  have h3:G[i]?=some G[i]:=aoO hlt;have h4:=hs.head i _ hij h3;rw[h4]at hg;injection hg with hg;subst hg;exact hA.2 i it _ h1 (h2.live▸hl) h3 hbk
theorem Step.rel1(hs:Step w0 j same H H' G G' w w')(hr:SR Z w0 H G w){s s':SV}{v:Value}(h:Rel1 G (Av Z H G) w s v)(hw:Wk j same s s'):Rel1 G' (Av Z H' G') w' s' v:=by
 rcases hw with rfl|⟨rfl,hs1⟩
 ·trivial
 ·refine h.keep (hs.keeps hr) λi g hi hg=>?_;by_cases hij:i=j
  ·subst hij;rcases hi with hi|⟨a,rfl⟩
   ·exact hs.fit (hs1 hi) g hg
   ·exact hs.ptr a hg
  grind [hs.head]
theorem xZ{R S:SV->Value->Prop}{Q:SV->SV->Prop}(h:∀s s' v,R s v->Q s s'->S s' v):∀{l l':List SV} {vs:List Value},bJ R l vs->bJ Q l l'->bJ S l' vs
 |[],[],[],_,_=>trivial
 |_::_,_::_,_::_,⟨h1,h2⟩,⟨g1,g2⟩=>⟨h _ _ _ h1 g1,xZ h h2 g2⟩
theorem Step.sr(hs:Step w0 j same H H' G G' w w')(hr:SR Z w0 H G w)(hj:∀it' g',H'[j]?=S' it'->G'[j]?=S' g'->ItemRel w0.heap.size G' (Av Z H' G') w' it' g'):SR Z w0 H' G' w':=by
 have old:∀(i:Nat) it' g',i≠j->H'[i]?=S' it'->G'[i]?=S' g'->∃it,H[i]?=S' it/\WkI j same it it'/\G[i]?=S' g':=by
  intro i it' g' hij h1 h2;obtain⟨it,h3,h4⟩:=hs.item i it' hij h1;have hlt:i<G.length:=by rw[hr.len];exact(aoZ.1 h3).1
  have h5:G[i]?=some G[i]:=aoO hlt;have h6:=hs.head i _ hij h5;rw[h6]at h2;injection h2 with h2;exact⟨it,h3,h4,h2▸h5⟩
 have apart:∀(i:Nat) it' g' b,i≠j->H'[i]?=S' it'->it'.live=T'->G'[i]?=S' g'->bh g'=S' b->b<w.heap.size/\(∀it g,H[j]?=S' it->it.live=T'->G[j]?=S' g->bh g≠S' b):=by
  intro i it' g' b hij h1 h2 h3 h4;obtain⟨it,g1,g2,g3⟩:=old i it' g' hij h1 h3;have hl:it.live=true:=by rw[<-g2.live];exact h2
  exact⟨((hr.items i it g' g1 g3).blk hl h4).2,λjt g k1 k2 k3=>hr.disj i j it jt g' g b hij g1 k1 hl k2 g3 k3 h4⟩
 refine⟨hs.len,hs.below,?_,?_,hr.zf⟩
 ·intro i it' g' h1 h2;by_cases hij:i=j
  ·subst hij;exact hj it' g' h1 h2
  ·obtain⟨it,h3,h4,h5⟩:=old i it' g' hij h1 h2;have hi:=hr.items i it g' h3 h5;cases it with
   |gone=>simp only[WkI]at h4;subst h4;trivial
   |box t cs=>
    cases it' with
    |box t' cs'=>
     obtain⟨rfl,h6⟩:=h4;obtain⟨b,vs,rfl,k1,k2,k3⟩:=hi;obtain⟨a1,a2⟩:=apart i _ _ b hij h1 rfl h2 rfl;exact⟨b,vs,rfl,k1,(hs.block b a1 a2).trans k2,xZ (S:=Rel1 G' (Av Z H' G') w') (Q:=Wk j same) (λs s' v hR hQ=>hs.rel1 hr hR hQ) k3 h6⟩
    |row=>simp[WkI]at h4
    |len=>simp[WkI]at h4
    |rws=>simp[WkI]at h4
    |gone=>simp[WkI]at h4
   |rws et cs=>
    cases it' with
    |rws et' cs'=>
     obtain⟨rfl,h6⟩:=h4;obtain⟨vs,k1,k2⟩:=hi;refine⟨vs,⟨by rw[<-dw h6];exact k1.1,?_⟩,xZ (S:=Rel1 G' (Av Z H' G') w') (Q:=Wk j same) (λs s' v hR hQ=>hs.rel1 hr hR hQ) k2 h6⟩;rw[<-dw h6];rcases k1.2 with h6|⟨g,cap,cur,rfl,h8,h9,r⟩
     ·exact .inl h6
     ·obtain⟨a1,a2⟩:=apart i _ _ g hij h1 rfl h2 rfl;exact .inr ⟨g,cap,cur,rfl,h8,(hs.block g a1 a2).trans h9,r⟩
    |_=>simp[WkI]at h4
   |row et e xs=>
    simp only[WkI]at h4;subst h4;obtain⟨css,k1,k2,k3⟩:=hi;refine⟨css,⟨k1.1,?_⟩,a8 (λ_ _ h=>Ty.rd_keep (hs.keeps hr) h) k2,k3⟩;rcases k1.2 with h6|⟨g,cap,cur,rfl,h8,h9,r⟩
    ·exact .inl h6
    ·obtain⟨a1,a2⟩:=apart i _ _ g hij h1 rfl h2 rfl;exact .inr ⟨g,cap,cur,rfl,h8,(hs.block g a1 a2).trans h9,r⟩
   |len e xs=>
    simp only[WkI]at h4;subst h4;obtain⟨et,css,k1,k2,k3⟩:=hi;refine⟨et,css,⟨k1.1,?_⟩,a8 (λ_ _ h=>Ty.rd_keep (hs.keeps hr) h) k2,k3⟩;rcases k1.2 with h6|⟨g,cap,cur,rfl,h8,h9,r⟩
    ·exact .inl h6
    ·obtain⟨a1,a2⟩:=apart i _ _ g hij h1 rfl h2 rfl;exact .inr ⟨g,cap,cur,rfl,h8,(hs.block g a1 a2).trans h9,r⟩
 ·intro i k it kt g h b hik h1 h2 h3 h4 h5 h6 h7
  have key:∀(k:Nat) it g kt h b,k≠j->H'[j]?=S' it->it.live=T'->G'[j]?=S' g->H'[k]?=S' kt->kt.live=T'->G'[k]?=S' h->bh g=S' b->bh h=S' b->False:=by
   intro k it g kt h b hkj h1 h3 h5 h2 h4 h6 h7 h8;obtain⟨a1,a2⟩:=apart k kt h b hkj h2 h4 h6 h8;rcases hs.new it g b h1 h3 h5 h7 with⟨it0,g0,c1,c2,c3,c4⟩|c
   ·exact a2 it0 g0 c1 c2 c3 c4
   ·omega
  intro h8;by_cases hij:i=j
  ·subst hij;exact key k it g kt h b (aqK hik) h1 h3 h5 h2 h4 h6 h7 h8
  ·by_cases hkj:k=j
   ·subst hkj;exact key i kt h it g b hij h2 h4 h6 h1 h3 h5 h8 h7
   ·obtain⟨it0,a1,a2,a3⟩:=old i it g hij h1 h5;obtain⟨kt0,b1,b2,b3⟩:=old k kt h hkj h2 h6;exact hr.disj i k it0 kt0 g h b hik a1 b1 (a2.live▸h3) (b2.live▸h4) a3 b3 h7 h8
end
end
section
def Ty.eq?:(a b:Ty)->Option (PLift (a=b))
 |.int k,.int k'=>if h:k=k' then some ⟨by rw[h]⟩else none
 |.bool,.bool=>some ⟨rfl⟩
 |.str,.str=>some ⟨rfl⟩
 |.sl e,.sl e'=>match Ty.eq? e e' with
  |some ⟨h⟩=>some ⟨by rw[h]⟩
  |none=>none
 |.pair a b,.pair a' b'=>match Ty.eq? a a',Ty.eq? b b' with
  |some ⟨h⟩,some ⟨h'⟩=>some ⟨by rw[h,h']⟩
  |_,_=>none
 |.st a,.st a'=>match Ty.eq? a a' with
  |some ⟨h⟩=>some ⟨by rw[h]⟩
  |none=>none
 |_,_=>none
def eU(a b:Ty)(x:a.D):Option b.D:=match Ty.eq? a b with
 |some ⟨h⟩=>some (h▸x)
 |none=>none
def Ty.zero:(t:Ty)->t.D
 |.int _=>(0:Int)
 |.bool=>false
 |.str=>⟨#[]⟩
 |.sl _=>[]
 |.pair a b=>(a.zero,b.zero)
 |.st a=>a.zero
def Ty.flat:Ty->Bool
 |.sl _=>false
 |.pair a b=>a.flat&&b.flat
 |.st a=>a.flat
 |_=>true
def Ty.cells:(t:Ty)->t.D->List Value
 |.int k,x=>[.int k x]
 |.bool,x=>[.bool x]
 |.str,x=>[.string x]
 |.pair a b,x=>a.cells x.1++b.cells x.2
 |.st a,x=>a.cells x
 |.sl _,_=>[]
def Ty.split:(t:Ty)->t.D->List SV
 |.pair a b,x=>a.split x.1++b.split x.2
 |.st a,x=>a.split x
 |.int k,x=>[.d (.int k) x]
 |.bool,x=>[.d .bool x]
 |.str,x=>[.d .str x]
 |.sl e,x=>[.d (.sl e) x]
def pN?(t:Ty):List SV->Option (t.D×List SV)
 |.d t' x::r=>match eU t' t x with
  |some y=>some (y,r)
  |none=>none
 |_=>none
def Ty.join:(t:Ty)->List SV->Option (t.D×List SV)
 |.pair a b,l=>match a.join l with
  |some (x,r)=>match b.join r with
   |some (y,r')=>some ((x,y),r')
   |none=>none
  |none=>none
 |.st a,l=>a.join l
 |.sl e,l=>match l with
  |.nil::r=>some ([],r)
  |l=>pN? (.sl e) l
 |.int k,l=>pN? (.int k) l
 |.bool,l=>pN? .bool l
 |.str,l=>pN? .str l
def Ty.sub:(e:Ty)->e.D->Nat->(t:Ty)->Option t.D
 |.pair a b,x,off,t=>match Nat.ble (off+1) a.n with
  |true=>a.sub x.1 off t
  |false=>b.sub x.2 (off-a.n) t
 |.st a,x,off,t=>match Nat.beq off 0,eU (.st a) t x with
  |true,some y=>some y
  |_,_=>a.sub x off t
 |.int k,x,off,t=>match Nat.beq off 0 with
  |true=>eU (.int k) t x
  |false=>none
 |.bool,x,off,t=>match Nat.beq off 0 with
  |true=>eU .bool t x
  |false=>none
 |.str,x,off,t=>match Nat.beq off 0 with
  |true=>eU .str t x
  |false=>none
 |.sl e,x,off,t=>match Nat.beq off 0 with
  |true=>eU (.sl e) t x
  |false=>none
def Ty.upd:(e:Ty)->e.D->Nat->(t:Ty)->t.D->Option e.D
 |.pair a b,x,off,t,y=>match Nat.ble (off+1) a.n with
  |true=>match a.upd x.1 off t y with
   |some z=>some (z,x.2)
   |none=>none
  |false=>match b.upd x.2 (off-a.n) t y with
   |some z=>some (x.1,z)
   |none=>none
 |.st a,x,off,t,y=>match Nat.beq off 0,eU t (.st a) y with
  |true,some z=>some z
  |_,_=>a.upd x off t y
 |.int k,_,off,t,y=>match Nat.beq off 0 with
  |true=>eU t (.int k) y
  |false=>none
 |.bool,_,off,t,y=>match Nat.beq off 0 with
  |true=>eU t .bool y
  |false=>none
 |.str,_,off,t,y=>match Nat.beq off 0 with
  |true=>eU t .str y
  |false=>none
 |.sl e,_,off,t,y=>match Nat.beq off 0 with
  |true=>eU t (.sl e) y
  |false=>none
structure TI where
 ty:Ty
 pl:List (Nat×Nat):=[]
 el:Nat:=0
 len:Nat:=0
 byt:Nat:=0
 z:Bool:=T'
abbrev TT:=List (Nat×TI)
def dl:TT->Nat->Option TI
 |[],_=>none
 |(k,x)::r,t=>match Nat.beq k t with
  |true=>some x
  |false=>dl r t
def val?:SV->Option Value
 |.d t x=>match t.flat with
  |true=>some (mkV t (t.cells x))
  |false=>none
 |_=>none
def oG:Value->Option SV
 |.int k n=>some (.d (.int k) n)
 |.bool b=>some (.d .bool b)
 |.string s=>some (.d .str s)
 |_=>none
def vM:List Value->Option ((t:Ty)×t.D)
 |[v]=>match oG v with
  |some (.d t x)=>some ⟨t,x⟩
  |_=>none
 |v::l=>match oG v,vM l with
  |some (.d t x),some ⟨u,y⟩=>some ⟨.pair t u,(x,y)⟩
  |_,_=>none
 |[]=>none
def H8:Value->Option SV
 |.slice none 0 0=>some .nil
 |.agg cs=>match vM cs.toList with
  |some ⟨t,x⟩=>some (.d (.st t) x)
  |none=>none
 |v=>oG v
def opS(L:SL):Operand->Option SV
 |.tmp t=>aK L t
 |.const v=>H8 v
 |.func f=>some (.clo f [])
 |.global _=>none
def opV(L:SL)(x:Operand):Value:=match opS L x with
 |some s=>(val? s).getD undef
 |none=>undef
def C2(L:SL)(o:Op):Bool:=o.operands.toList.all (λx=>match opS L x with|S' s=>(val? s).isSome|N'=>F')&&(match o with|.select _ _=>F'|_=>T')
def SV.good:SV->Bool
 |.dead=>false
 |.undef=>false
 |.tup _=>false
 |_=>true
def Ty.isSl:Ty->Bool
 |.sl _=>true
 |_=>false
def Jf(ty:Ty)(cells:List SV):Option SV:=match ty.isSt with
 |true=>match ty.join cells with
  |some (x,_)=>some (.d ty x)
  |none=>none
 |false=>match cells with
  |s::_=>match s.good with
   |true=>some s
   |false=>none
  |[]=>none
def fH(H:List Item):SV->Option (List SV)
 |.d (.pair _ _) _=>none
 |.d t x=>some (t.split x)
 |.own j=>match H[j]? with
  |some (.row _ _ _)=>some [.own j]
  |_=>none
 |s=>match s.good with
  |true=>some [s]
  |false=>none
def aH{α:Type}(xs:List α)(i:Int):Option α:=match decide (0<=i)with
 |true=>xs[i.toNat]?
 |false=>none
def xq:List SV->Option (List Nat)
 |[]=>some []
 |.box j 0::r=>match xq r with
  |some l=>some (j::l)
  |none=>none
 |_=>none
def yG(L:SL):List Operand->Option (List SV)
 |[]=>some []
 |x::r=>match opS L x,yG L r with
  |some s,some l=>some (s::l)
  |_,_=>none
def nT(cs:List SV):Nat->List SV->List SV
 |_,[]=>cs
 |off,s::r=>nT (cs.set off s) (off+1) r
def rg(H:List Item)(L:SL)(place:Nat->Option (Nat×Nat))(cs:List SV):List (Nat×Operand)->Option (List SV)
 |[]=>some cs
 |(i,x)::r=>match place i,opS L x with
  |some (off,size),some s=>match fH H s with
   |some l=>match Nat.beq l.length size&&Nat.ble (off+l.length) cs.length with
    |true=>rg H L place (nT cs off l) r
    |false=>none
   |none=>none
  |_,_=>none
def wS(i:TI)(es:Nat):Nat->Option (Nat×Nat):=match Nat.beq i.len 0 with
 |true=>λk=>i.pl[k]?
 |false=>λk=>some (k*es,es)
section
variable {R:Type}
def mh(P:Program)(L:SL)(o:Oper)(k:SV->Option R):Option R:=
 match C2 L o.op with
 |false=>none
 |true=>match o.op with
  |.binOp .quo _ x y _=>match opV L x,opV L y with
   |.int .i64 a,.int .i64 b=>match decide (b=0)with|true=>none|false=>k (.d (.int .i64) (i64.wrap (a.tdiv b)))
   |.int .u64 a,.int .u64 b=>match decide (b=0)with|true=>none|false=>k (.d (.int .u64) (u64.wrap (a.tdiv b)))
   |.int .u32 a,.int .u32 b=>match decide (b=0)with|true=>none|false=>k (.d (.int .u32) (u32.wrap (a.tdiv b)))
   |_,_=>none
  |.binOp .rem _ x y _=>match opV L x,opV L y with
   |.int .i64 a,.int .i64 b=>match decide (b=0)with|true=>none|false=>k (.d (.int .i64) (a.tmod b))
   |.int .u64 a,.int .u64 b=>match decide (b=0)with|true=>none|false=>k (.d (.int .u64) (a.tmod b))
   |.int .u32 a,.int .u32 b=>match decide (b=0)with|true=>none|false=>k (.d (.int .u32) (a.tmod b))
   |.int .u8 a,.int .u8 b=>match decide (b=0)with|true=>none|false=>k (.d (.int .u8) (a.tmod b))
   |_,_=>none
  |.binOp .shl _ x y _=>match opV L x,opV L y with
   |.int kd a,.int _ b=>match decide (b<0)with|true=>none|false=>k (.d (.int kd) (kd.wrap (a*2^min b.toNat kd.bits)))
   |_,_=>none
  |.binOp .shr _ x y _=>match opV L x,opV L y with
   |.int kd a,.int _ b=>match decide (b<0)with|true=>none|false=>k (.d (.int kd) (a.fdiv (2^min b.toNat kd.bits)))
   |_,_=>none
  |.binOp .eql t x y _=>match opV L x,opV L y with
   |.agg xs,.agg ys=>match P.eqGuardType P.depth t,eqV P 10000 t (.agg xs) (.agg ys)with
    |false,some r=>k (.d .bool r)
    |_,_=>none
   |_,_=>match evT P (execOp (opV L) o) []with
    |some (.value v,[])=>match oG v with|some s=>k s|none=>none
    |_=>none
  |.binOp .neq t x y _=>match opV L x,opV L y with
   |.agg xs,.agg ys=>match P.eqGuardType P.depth t,eqV P 10000 t (.agg xs) (.agg ys)with
    |false,some r=>k (.d .bool (!r))
    |_,_=>none
   |_,_=>match evT P (execOp (opV L) o) []with
    |some (.value v,[])=>match oG v with|some s=>k s|none=>none
    |_=>none
  |_=>match evT P (execOp (opV L) o) []with
   |some (.value v,[])=>match oG v with|some s=>k s|none=>none
   |_=>none
def slB(L:SL)(d:Int):Option Operand->Option Int
 |none=>some d
 |some x=>match opS L x with
  |some (.d (.int _) i)=>some i
  |_=>none
def FX{R:Type}(x y:Option R):Option R:=open Classical in if x=y then x else N'
theorem dD{R:Type}(x:Option R):FX x x=x:=by simp[FX]
theorem AS{R:Type}{x y:Option R}{r:R}(h:FX x y=S' r):x=S' r/\y=S' r:=by grind [FX]
def mn2(a b:Int):Int:=if b<a then b else a
def ac1(a b c d:Int):Int:=mn2 (mn2 (mn2 a b) c) d
def acL(a b c d:Int):Int:=if d>(if c>(if b>a then b else a)then c else(if b>a then b else a))then d else(if c>(if b>a then b else a)then c else(if b>a then b else a))
def Ju(op:BinOp)(y:Operand):Option Bool:=match op,y with
 |.eql,.const (.slice none 0 0)=>some true
 |.neq,.const (.slice none 0 0)=>some false
 |_,_=>none
def OZ{α R:Type}(xs:List α)(b:Bool)(k:SV->Option R):Option R:=match xs with
 |[]=>FX (k (SB b)) (k (SB (!b)))
 |_::_=>k (SB (!b))
def Wp:Operand->Bool
 |.const _=>true
 |_=>false
def qop(P:Program)(T:TT)(rw:Bool)(L:SL)(H:List Item)(o:Oper)(k:SV->Option R):Option R:=
 match o.op with
 |.move x=>match opS L x with|some s=>k s|none=>none
 |.assign x=>match opS L x with|some s=>k s|none=>none
 |.nilCheck x=>match opS L x with
  |some (.box j off)=>k (.box j off)
  |some (.elt e x off)=>k (.elt e x off)
  |some (.oelt j sz i off)=>k (.oelt j sz i off)
  |_=>none
 |.pick c x y=>match opS L c with
  |some (.d .bool b)=>match b with
   |true=>match opS L x with|some s=>k s|none=>none
   |false=>match opS L y with|some s=>k s|none=>none
  |_=>none
 |.load t x=>match opS L x,dl T t with
  |some (.box j off),some i=>match H[j]? with
   |some (.box _ cells)=>match Jf i.ty (cells.drop off)with|some s=>k s|none=>none
   |_=>none
  |some (.elt e x off),some i=>match e.sub x off i.ty with|some y=>k (.d i.ty y)|none=>none
  |some (.oelt j sz n off),some i=>match rw,(H.map rdI)[j]? with
   |true,some (.row _ e xs)=>match Nat.beq sz e.n,xs[n]? with
    |true,some x=>match e.sub x off i.ty with|some y=>k (.d i.ty y)|none=>none
    |_,_=>none
   |true,some (.rws _ cells)=>match Nat.beq sz 1&&Nat.beq off 0&&i.ty.isSl,cells[n]? with
    |true,some s=>match s.good with|true=>k s|false=>none
    |_,_=>none
   |_,_=>none
  |_,_=>none
 |.fieldAddr s x f=>match opS L x,dl T s with
  |some (.box j off),some i=>match i.pl[f]? with|some p=>k (.box j (off+p.1))|none=>none
  |some (.elt e x off),some i=>match i.pl[f]? with|some p=>k (.elt e x (off+p.1))|none=>none
  |some (.oelt j sz n off),some i=>match i.pl[f]? with|some p=>k (.oelt j sz n (off+p.1))|none=>none
  |_,_=>none
 |.indexAddr t x ix=>match opS L x,opS L ix,dl T t with
  |some (.d (.sl e) xs),some (.d (.int _) n),some i=>match i.ty with
   |.sl e'=>match Ty.eq? e e' with
    |some _=>match aH xs n with|some y=>k (.elt e y 0)|none=>none
    |none=>none
   |_=>none
  |some (.own j),some (.d (.int _) n),some i=>match(H.map rdI)[j]?,i.ty with
   |some (.row _ e xs),.sl e'=>match Ty.eq? e e' with
    |some _=>match aH xs n with|some _=>k (.oelt j e.n n.toNat 0)|none=>none
    |none=>none
   |some (.rws _ cells),.sl e'=>match Nat.beq e'.n 1,aH cells n with|true,some _=>k (.oelt j 1 n.toNat 0)|_,_=>none
   |_,_=>none
  |some (.box j off),some (.d (.int _) n),some i=>match i.ty.isSt,decide (0<=n/\n<(i.len:Int))with
   |true,true=>k (.box j (off+n.toNat*i.el))
   |_,_=>none
  |some (.elt e y off),some (.d (.int _) n),some i=>match i.ty.isSt,decide (0<=n/\n<(i.len:Int))with
   |true,true=>k (.elt e y (off+n.toNat*i.el))
   |_,_=>none
  |some (.osl j sz lo m),some (.d (.int _) n),some i=>match i.ty with
   |.sl e'=>match Nat.beq sz e'.n,decide (0<=n/\n<(m:Int))with
    |true,true=>k (.oelt j sz (lo+n.toNat) 0)
    |_,_=>none
   |_=>none
  |_,_,_=>none
 |.extract x n=>match opS L x with
  |some (.tup l)=>match l[n]? with|some s=>k s|none=>none
  |_=>none
 |.build t parts=>match dl T t with
  |some i=>match i.z&&i.ty.isSt,rg H L (wS i i.el) (i.ty.split i.ty.zero) parts.toList with
   |true,some cs=>match i.ty.join cs with
    |some (x,[])=>k (.d i.ty x)
    |_=>none
   |_,_=>none
  |none=>none
 |.makeFunc (.func f) ⟨[]⟩ caps=>match yG L caps.toList with
  |some l=>match xq l with|some js=>k (.clo f js)|none=>none
  |none=>none
 |.call ⟨.builtin .len,⟨[x]⟩,⟨[t]⟩⟩=>match opS L x,dl T t with
  |some (.d (.sl _) xs),some i=>match i.ty with|.sl _=>k (SI xs.length)|_=>none
  |some .nil,some i=>match i.ty with|.sl _=>k (SI 0)|_=>none
  |some (.own j),some i=>match(H.map rdI)[j]?,i.ty with
   |some (.row _ _ xs),.sl _=>k (SI xs.length)
   |some (.rws _ cells),.sl _=>k (SI cells.length)
   |_,_=>none
  |some (.osl _ _ _ n),some i=>match i.ty with|.sl _=>k (SI n)|_=>none
  |some (.cut _ xs),some i=>match i.ty with|.sl _=>k (SI xs.length)|_=>none
  |_,_=>none
 |.slice t x lo hi none=>match opS L x,dl T t with
  |some (.d (.sl e) xs),some i=>match i.ty,slB L 0 lo,slB L xs.length hi with
   |.sl e',some l,some h=>match Ty.eq? e e' with
    |some _=>match decide (0<=l/\l<=h/\h<=xs.length)with
     |true=>k (.d (.sl e) ((xs.take h.toNat).drop l.toNat))
     |false=>none
    |none=>none
   |_,_,_=>none
  |some (.own j),some i=>match H[j]?,i.ty with
   |some (.row _ e xs),.sl e'=>match slB L 0 lo,slB L xs.length hi,Nat.beq e.n e'.n with
    |some l,some h,true=>match decide (0<=l/\l<=h/\h<=xs.length)with
     |true=>k (.osl j e.n l.toNat (h.toNat-l.toNat))
     |false=>none
    |_,_,_=>none
   |_,_=>none
  |some (.osl j sz b n),some i=>match i.ty with
   |.sl e'=>match slB L 0 lo,slB L n hi,Nat.beq sz e'.n with
    |some l,some h,true=>match decide (0<=l/\l<=h/\h<=(n:Int))with
     |true=>k (.osl j sz (b+l.toNat) (h.toNat-l.toNat))
     |false=>none
    |_,_,_=>none
   |_=>none
  |some .nil,some i=>match i.ty,slB L ((0:Nat):Int) lo,slB L ((0:Nat):Int) hi with
   |.sl _,some l,some h=>match decide (0<=l/\l<=h/\h<=((0:Nat):Int))with
    |true=>k .nil
    |false=>none
   |_,_,_=>none
  |_,_=>none
 |.call ⟨.builtin .max,⟨[x,y]⟩,_⟩=>match opS L x,opS L y with
  |some (.d (.int kd) a),some (.d (.int kd') b)=>match Ty.eq? (.int kd) (.int kd')with
   |some _=>k (.d (.int kd) (if b>a then b else a))
   |none=>none
  |_,_=>none
 |.call ⟨.builtin .min,⟨[x,y]⟩,_⟩=>match opS L x,opS L y with
  |some (.d (.int kd) a),some (.d (.int kd') b)=>match Ty.eq? (.int kd) (.int kd')with
   |some _=>k (.d (.int kd) (if b<a then b else a))
   |none=>none
  |_,_=>none
 |.binOp op t x y _=>match Ju op y with
  |none=>mh P L o k
  |some b=>match opS L x,dl T t with
   |some (.d (.sl _) xs),some i=>match i.ty with|.sl _=>OZ xs b k|_=>none
   |some .nil,some i=>match i.ty with|.sl _=>k (SB b)|_=>none
   |some (.own j),some i=>match(H.map rdI)[j]?,i.ty with
    |some (.row _ _ xs),.sl _=>OZ xs b k
    |_,_=>none
   |some (.osl _ _ _ n),some i=>match i.ty with|.sl _=>OZ (List.replicate n ()) b k|_=>none
   |_,_=>none
 |.unOp .. =>mh P L o k
 |.convert .. =>mh P L o k
 |.index t x ix=>match opS L x with
  |some (.d (.st e) y)=>match opS L ix,P.underlying t with
   |some (.d (.int _) n),some (.array len et)=>match dl T et,decide (0<=n/\n<(len:Int))with
    |some i,true=>match(Ty.st e).sub y (n.toNat*i.ty.n) i.ty with
     |some z=>k (.d i.ty z)
     |none=>none
    |_,_=>none
   |_,_=>none
  |_=>mh P L o k
 |.slice t x lo hi (some mx)=>match opS L x,dl T t with
  |some (.d (.sl e) xs),some i=>match i.ty,slB L 0 lo,slB L xs.length hi,slB L 0 (some mx)with
   |.sl e',some l,some h,some m=>match hi,Ty.eq? e e' with
    |some _,some _=>match decide (0<=l/\l<=h/\h<=m/\m<=xs.length)with
     |true=>match Wp mx,decide (h=m)with
      |true,true=>k (.cut e ((xs.take h.toNat).drop l.toNat))
      |_,_=>k (.d (.sl e) ((xs.take h.toNat).drop l.toNat))
     |false=>none
    |_,_=>none
   |_,_,_,_=>none
  |_,_=>none
 |.call ⟨.builtin .max,⟨[x,y,z,u]⟩,_⟩=>match opS L x,opS L y,opS L z,opS L u with
  |some (.d (.int .i64) a),some (.d (.int .i64) b),some (.d (.int .i64) c),some (.d (.int .i64) d)=>k (SI (acL a b c d))
  |_,_,_,_=>none
 |.field s x f=>match opS L x with
  |some (.d (.st e) y)=>match P.underlying s with
   |some (.struct fs)=>match fs[f]? with
    |some fl=>match dl T fl.type with
     |some i=>match(Ty.st e).sub y fl.offset i.ty with
      |some z=>k (.d i.ty z)
      |none=>none
     |none=>none
    |none=>none
   |_=>none
  |_=>none
 |.call ⟨.builtin .min,⟨[x,y,z,u]⟩,_⟩=>match opS L x,opS L y,opS L z,opS L u with
  |some (.d (.int .i64) a),some (.d (.int .i64) b),some (.d (.int .i64) c),some (.d (.int .i64) d)=>k (SI (ac1 a b c d))
  |_,_,_,_=>none
 |_=>none
end
end
theorem cZ{a b:Ty}{x:a.D}{y:b.D}(h:eU a b x=S' y):∃e:a=b,y=e▸x:=by grind [eU]
theorem ql{A:Nat->Prop}{w:World}:∀{t:Ty} {cs:List Value} {x:t.D},t.flat=T'->t.rd A w cs x->cs=t.cells x
 |.int _,_,_,_,h=>h
 |.bool,_,_,_,h=>h
 |.str,_,_,_,h=>h
 |.pair a b,_,_,hf,⟨l1,l2,h0,h1,h2⟩=>by
  simp only[Ty.flat,aoT]at hf;rw[h0,ql hf.1 h1,ql hf.2 h2];rfl
 |.st a,_,_,hf,h=>ql (t:=a) hf h
 |.sl _,_,_,hf,_=>by simp[Ty.flat]at hf
theorem pL{A:Nat->Prop}{w:World}:∀{t:Ty} {x:t.D},t.flat=T'->t.rd A w (t.cells x) x
 |.int _,_,_=>rfl
 |.bool,_,_=>rfl
 |.str,_,_=>rfl
 |.pair a b,x,hf=>by
  simp only[Ty.flat,aoT]at hf;exact⟨_,_,rfl,pL hf.1,pL hf.2⟩
 |.st a,_,hf=>pL (t:=a) hf
 |.sl _,_,hf=>by simp[Ty.flat]at hf
theorem yU{A:Nat->Prop}{w:World}{e:Ty}:(Ty.sl e).rd A w [.slice N' 0 0] []:=⟨N',0,0,[],rfl,rfl,aoU _,arh _,trivial,λh=>absurd h (by omega)⟩
theorem ua{G:List Value}{A:Nat->Prop}{w:World}{t:Ty}{cs:List Value}{x:t.D}(hs:t.isSt=F')(hn:t.n=1)(h:t.rd A w cs x):∃v,cs=[v]/\Rel1 G A w (.d t x) v:=by
 have hl:=(Ty.rd_len h)
 match cs,hl with
 |[v],_=>exact⟨v,rfl,[v],h,by simp[mkV,hs]⟩
 |[],hl=>rw[hn]at hl;simp at hl
 |_::_::_,hl=>rw[hn]at hl;simp at hl
theorem ks{G:List Value}{A:Nat->Prop}{w:World}:∀{t:Ty} {cs:List Value} {x:t.D},t.rd A w cs x->bJ (Rel1 G A w) (t.split x) cs
 |.int k,cs,x,h=>by obtain⟨v,rfl,hv⟩:=ua (G:=G) (t:=.int k) rfl rfl h;exact⟨hv,trivial⟩
 |.bool,cs,x,h=>by obtain⟨v,rfl,hv⟩:=ua (G:=G) (t:=.bool) rfl rfl h;exact⟨hv,trivial⟩
 |.str,cs,x,h=>by obtain⟨v,rfl,hv⟩:=ua (G:=G) (t:=.str) rfl rfl h;exact⟨hv,trivial⟩
 |.sl e,cs,x,h=>by obtain⟨v,rfl,hv⟩:=ua (G:=G) (t:=.sl e) rfl rfl h;exact⟨hv,trivial⟩
 |.pair a b,_,_,⟨l1,l2,h0,h1,h2⟩=>by rw[h0];exact dJ (ks h1) (ks h2)
 |.st a,_,_,h=>ks (t:=a) h
theorem Gz{G:List Value}{A:Nat->Prop}{w:World}{t:Ty}{v:Value}{x:t.D}(hs:t.isSt=F')(hn:t.n=1)(h:Rel1 G A w (.d t x) v):t.rd A w [v] x:=by
 obtain⟨cs,h1,rfl⟩:=h;have hl:=(Ty.rd_len h1)
 match cs,hl with
 |[v],_=>simpa [mkV,hs]using h1
 |[],hl=>rw[hn]at hl;simp at hl
 |_::_::_,hl=>rw[hn]at hl;simp at hl
theorem pN?_rd{G:List Value}{A:Nat->Prop}{w:World}{t:Ty}(hs:t.isSt=F')(hn:t.n=1){l r:List SV}{x:t.D}{vs:List Value}(h:pN? t l=S' (x,r))(ha:bJ (Rel1 G A w) l vs):
  ∃v1 v2,vs=v1++v2/\t.rd A w v1 x/\bJ (Rel1 G A w) r v2:=by
 unfold pN? at h;split at h
 ·split at h
  ·rename_i y hy;obtain⟨rfl,rfl⟩:=h;match vs,ha with
   |v::vs,⟨h1,h2⟩=>
    obtain⟨rfl,rfl⟩:=cZ hy;exact⟨[v],vs,rfl,Gz hs hn h1,h2⟩
  grind
 grind
theorem qz{G:List Value}{A:Nat->Prop}{w:World}:∀{t:Ty} {l r:List SV} {x:t.D} {vs:List Value},t.join l=S' (x,r)->bJ (Rel1 G A w) l vs->∃v1 v2,vs=v1++v2/\t.rd A w v1 x/\bJ (Rel1 G A w) r v2
 |.int _,_,_,_,_,h,ha=>pN?_rd rfl rfl h ha
 |.bool,_,_,_,_,h,ha=>pN?_rd rfl rfl h ha
 |.str,_,_,_,_,h,ha=>pN?_rd rfl rfl h ha
 |.st a,_,_,_,_,h,ha=>qz (t:=a) h ha
 |.pair a b,l,r,x,vs,h,ha=>by
  simp only[Ty.join]at h;split at h
  ·rename_i x1 r1 h1;split at h
   ·rename_i x2 r2 h2;simp only[aoX,apt]at h;obtain⟨rfl,rfl⟩:=h;obtain⟨v1,v2,rfl,g1,g2⟩:=qz h1 ha;obtain⟨v3,v4,rfl,g3,g4⟩:=qz h2 g2;exact⟨v1++v3,v4,by rw[apg],⟨v1,v3,rfl,g1,g3⟩,g4⟩
   ·cases h
  ·cases h
 |.sl e,l,r,x,vs,h,ha=>by
  simp only[Ty.join]at h;split at h
  ·rename_i r';simp only[aoX,apt]at h;obtain⟨rfl,rfl⟩:=h;match vs,ha with
   |v::vs,⟨h1,h2⟩=>exact⟨[v],vs,rfl,by rw[show v=.slice none 0 0 from h1];exact yU,h2⟩
  ·exact pN?_rd rfl rfl h ha
theorem ux{α:Type}(l:List α)(n:Nat)(h:l.length=n):(l.drop 0).take n=l:=by grind
theorem CB{A:Nat->Prop}{w:World}:∀{e:Ty} {cs:List Value} {x:e.D} {off:Nat} {t:Ty} {y:t.D},e.rd A w cs x->e.sub x off t=S' y->t.rd A w ((cs.drop off).take t.n) y:=by
 have lf:∀{e:Ty} {cs:List Value} {x:e.D} {off:Nat} {t:Ty} {y:t.D},e.rd A w cs x->(match Nat.beq off 0 with|T'=>eU e t x|F'=>N')=S' y->t.rd A w ((cs.drop off).take t.n) y:=by
  intro e cs x off t y hr h;split at h
  ·rename_i h0;have:off=0:=aoS h0;subst this;obtain⟨rfl,rfl⟩:=cZ h;rw[ux _ _ (Ty.rd_len hr)];exact hr
  ·cases h
 intro e;induction e with
 |int k=>intro cs x off t y hr h;exact lf hr h
 |bool=>intro cs x off t y hr h;exact lf hr h
 |str=>intro cs x off t y hr h;exact lf hr h
 |sl e=>intro cs x off t y hr h;exact lf hr h
 |st a ih=>
  intro cs x off t y hr h;simp only[Ty.sub]at h;split at h
  ·rename_i z h0 h1;injection h with h;subst h;exact lf (e:=.st a) hr (by rw[h0];exact h1)
  ·exact ih hr h
 |pair a b iha ihb=>
  intro cs x off t y hr h;obtain⟨l1,l2,rfl,h1,h2⟩:=hr;simp only[Ty.sub]at h;split at h
  ·rename_i hb;have hlt:=aoV hb;have:=iha h1 h;have hl:=(Ty.rd_len this)
   have hl1:=(Ty.rd_len h1)
   grind
  ·rename_i hb
   have hge:a.n<=off:=by
    rcases apu off a.n with hlt|hge
    ·have:Nat.ble (off+1) a.n=true:=apf hlt;rw[this]at hb;cases hb
    ·exact hge
   have:=ihb h2 h;have hl1:=(Ty.rd_len h1)
   rw[List.drop_append,apx (by omega),aqS,hl1];exact this
def zc:Ty->List Value
 |.int k=>[.int k 0]
 |.bool=>[.bool false]
 |.str=>[.string ⟨#[]⟩]
 |.sl _=>[.slice none 0 0]
 |.pair a b=>zc a++zc b
 |.st a=>zc a
theorem re{A:Nat->Prop}{w:World}:∀{t:Ty},t.rd A w (zc t) t.zero
 |.int _=>rfl
 |.bool=>rfl
 |.str=>rfl
 |.sl _=>yU
 |.pair _ _=>⟨_,_,rfl,re,re⟩
 |.st a=>re (t:=a)
def eqZ:Value->Value->Bool
 |.int k a,.int k' b=>decide (k=k')&&decide (a=b)
 |.bool a,.bool b=>a==b
 |.string a,.string b=>a.data.toList.isEmpty&&b.data.toList.isEmpty
 |.slice none 0 0,.slice none 0 0=>true
 |_,_=>false
theorem agG{a b:Value}(h:eqZ a b=T'):a=b:=by
 unfold eqZ at h;split at h
 ·grind
 ·grind
 ·rename_i s t;obtain⟨⟨s⟩⟩:=s;obtain⟨⟨t⟩⟩:=t;grind
 ·rfl
 grind
def ST:List Value->List Value->Bool
 |[],[]=>true
 |a::l,b::m=>eqZ a b&&ST l m
 |_,_=>false
theorem wJ:∀{l m:List Value},ST l m=T'->l=m
 |[],[],_=>rfl
 |a::l,b::m,h=>by simp only[ST,aoT]at h;rw[agG h.1,wJ h.2]
def isZ(t:Ty):Option Value->Bool
 |some (.agg cs)=>t.isSt&&ST cs.toList (zc t)
 |some v=>!t.isSt&&ST [v] (zc t)
 |none=>false
theorem Sw{t:Ty}{z:Option Value}(h:isZ t z=T'):z=S' (mkV t (zc t)):=by
 unfold isZ at h;split at h
 ·simp only[aoT]at h;have:=wJ h.2;simp[mkV,h.1,<-this]
 ·grind [wJ,mkV]
 grind
theorem mo:∀t:Ty,(zc t).length=t.n
 |.int _=>rfl
 |.bool=>rfl
 |.str=>rfl
 |.sl _=>rfl
 |.pair a b=>by simp[zc,Ty.n,mo a,mo b]
 |.st a=>mo a
theorem XA{t:Ty}{z:Option Value}(h:isZ t z=T'):t.isSt=T'\/t.n=1:=by
 unfold isZ at h;split at h
 ·grind
 ·grind [wJ,mo]
 grind
def eqP:List (Nat×Nat)->List (Nat×Nat)->Bool
 |[],[]=>true
 |(a,b)::l,(c,d)::m=>Nat.beq a c&&Nat.beq b d&&Nat.ble 1 b&&eqP l m
 |_,_=>false
theorem Ia:∀{l m:List (Nat×Nat)},eqP l m=T'->l=m/\∀p∈l,1<=p.2
 |[],[],_=>⟨rfl,by simp⟩
 |(a,b)::l,(c,d)::m,h=>by
  simp only[eqP,aoT]at h;obtain⟨⟨⟨h1,h2⟩,h3⟩,h4⟩:=h;obtain⟨rfl,h5⟩:=Ia h4;refine⟨by rw[aoS h1,aoS h2],λp hp=>?_⟩;rcases ao7.1 hp with rfl|hp
  ·exact aoV h3
  ·exact h5 p hp
def chk(P:Program)(t:Nat)(i:TI):Bool:=
 match P.info? t,P.underlying t with
 |some inf,some d=>Nat.beq inf.size i.ty.n&&(!i.z||isZ i.ty inf.zero)&&(match d with
  |.struct fs=>i.ty.isSt&&(match fs.toList.mapM (λf=>(P.info? f.type).map λi=>(f.offset,i.size))with|some pl=>eqP pl i.pl&&Nat.beq i.len 0|none=>false)
  |.array n e=>i.ty.isSt&&Nat.beq n i.len&&Nat.ble 2 n&&i.pl.isEmpty&&(match P.info? e with|some j=>Nat.beq j.size i.el|none=>false)
  |.slice e=>(match i.ty,P.info? e with|.sl et,some j=>i.pl.isEmpty&&Nat.beq e i.el&&Nat.beq j.size et.n&&Nat.ble 1 et.n&&Nat.beq j.bytes i.byt&&isZ et j.zero|_,_=>false)
  |_=>i.pl.isEmpty&&(match i.ty with|.st _=>false|.sl _=>false|.pair _ _=>false|_=>true))
 |_,_=>false
def eO(P:Program):TT->Bool
 |[]=>true
 |(t,i)::r=>chk P t i&&eO P r
theorem aG{P:Program}:∀{T:TT} {t:Nat} {i:TI},eO P T=T'->dl T t=S' i->chk P t i=T'
 |[],_,_,_,h=>by simp[dl]at h
 |(k,x)::r,t,i,hc,h=>by
  simp only[eO,aoT]at hc;simp only[dl]at h;split at h
  ·rename_i he;have:k=t:=aoS he;subst this;injection h with h;subst h;exact hc.1
  ·exact aG hc.2 h
theorem tj{P:Program}{t:Nat}{i:TI}(h:chk P t i=T'):(P.info? t).map (·.size)=S' i.ty.n:=by
 unfold chk at h;split at h<;>simp_all
theorem vD{P:Program}{t:Nat}{i:TI}(h:chk P t i=T'):∃d,P.underlying t=S' d/\d.isRow=i.ty.isSt:=by
 unfold chk at h;split at h
 ·rename_i inf d h1 h2;refine⟨d,h2,?_⟩;simp only[aoT]at h;have h:=h.2;cases d<;>simp only[aoT]at h<;>simp only[TypeDesc.isRow];case slice=>split at h<;>first|(rename_i hh _;rw[hh];rfl)|cases h
  all_goals (obtain⟨_,h⟩:=h;(split at h<;>first|cases h|skip)<;>(generalize i.ty=t at*;cases t<;>simp_all [Ty.isSt]))
 grind
theorem yd{P:Program}{t:Nat}{i:TI}(h:chk P t i=T')(hz:i.z=T'):∃inf,P.info? t=S' inf/\inf.zero=S' (mkV i.ty (zc i.ty)):=by
 unfold chk at h;split at h
 ·grind [Sw]
 grind
theorem c9{P:Program}{t:Nat}{i:TI}{et:Ty}(h:chk P t i=T')(ht:i.ty=.sl et):P.underlying t=S' (.slice i.el)/\0<et.n/\∃j,P.info? i.el=S' j/\j.size=et.n/\j.bytes=i.byt/\j.zero=S' (mkV et (zc et))/\(et.isSt=T'\/et.n=1):=by
 unfold chk at h;split at h
 ·rename_i inf d h1 h2;simp only[aoT]at h;have h:=h.2;cases d<;>simp only[ht,Ty.isSt,aoT]at h
  case slice e=>
   split at h
   ·rename_i et' j he hj;injection he with he;subst he;simp only[aoT]at h;obtain⟨⟨⟨⟨⟨_,h3⟩,h4⟩,h5⟩,h6⟩,h7⟩:=h;have he:=aoS h3;subst he;exact⟨h2,aoV h5,j,hj,aoS h4,aoS h6,Sw h7,XA h7⟩
   ·cases h
  all_goals simp at h
 ·cases h
theorem MS{P:Program}{t f:Nat}{i:TI}{p:Nat×Nat}(h:chk P t i=T')(hp:i.pl[f]?=S' p):∃fs fl inf,P.underlying t=S' (.struct fs)/\fs[f]?=S' fl/\fl.offset=p.1/\P.info? fl.type=S' inf/\inf.size≠0:=by
 unfold chk at h;split at h
 ·rename_i inf d h1 h2;simp only[aoT]at h;have h:=h.2
  have emp:i.pl.isEmpty=T'->False:=λhe=>by
   rw[List.isEmpty_iff]at he;rw[he]at hp;simp at hp
  match d,h,h2 with
  |.struct fs,h,h2=>
   simp only[aoT]at h;obtain⟨_,h⟩:=h;split at h
   ·rename_i pl hpl;simp only[aoT]at h;obtain⟨rfl,hp1⟩:=Ia h.1
    have key:∀(l:List Field) (pl:List (Nat×Nat)) (f:Nat),l.mapM (λf=>(P.info? f.type).map λi=>(f.offset,i.size))=S' pl->pl[f]?=S' p->∃fl inf,l[f]?=S' fl/\fl.offset=p.1/\P.info? fl.type=S' inf/\inf.size=p.2:=by
     intro l;induction l with
     |nil=>intro pl f h1 h2;simp at h1;subst h1;simp at h2
     |cons x l ih=>
      intro pl f h1 h2;simp only[List.mapM_cons,Option.bind_eq_bind,Option.pure_def]at h1;cases hx:P.info? x.type with
      |none=>simp[hx]at h1
      |some ix=>
       cases hr:l.mapM (λf=>(P.info? f.type).map λi=>(f.offset,i.size))with
       |none=>simp[hx,hr]at h1
       |some rest=>
        simp[hx,hr]at h1;subst h1;cases f with
        |zero=>simp at h2;subst h2;exact⟨x,ix,rfl,rfl,hx,rfl⟩
        |succ f=>obtain⟨fl,inf,g1,g2⟩:=ih rest f hr (by simpa using h2);exact⟨fl,inf,by simpa using g1,g2⟩
    obtain⟨fl,inf',g1,g2,g3,g4⟩:=key _ _ f hpl hp;exact⟨fs,fl,inf',h2,by simpa using g1,g2,g3,by have:=hp1 p (apM hp);omega⟩
   ·cases h
  |.array n e,h,h2=>simp only[aoT]at h;exact(emp h.1.2).elim
  |.slice e,h,h2=>
   dsimp only at h;split at h
   ·simp only[aoT]at h;exact(emp h.1.1.1.1.1).elim
   ·cases h
  |.invalid,h,h2|.bool,h,h2|.int _,h,h2|.float _,h,h2|.complex _,h,h2|.string,h,h2|.pointer _,h,h2|.map _ _,h,h2|.chan _ _,h,h2|.func _ _ _,h,h2|.interface _,h,h2|.tuple _,h,h2|.named _ _,h,h2|.unsafePointer,h,h2=>simp only[aoT]at h;exact(emp h.1).elim
 ·cases h
end Go.Proofs.YtoimchcjhdcdmaaGreat
end
