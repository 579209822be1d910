/- What a seat's contexts need. -/
import Derived.Test.YtmnlppieefomnaaGreatDoorN6
noncomputable section
namespace Go.Proofs.YtmnlppieefomnaaGreatDoor
open Go.RowKit Go.IntKind
theorem amu:type_of% @Int.mul_le_mul_of_nonneg_right:=@Int.mul_le_mul_of_nonneg_right
theorem amM:type_of% @Int.lt_or_le:=@Int.lt_or_le
theorem am3:type_of% @Int.mul_ediv_add_emod:=@Int.mul_ediv_add_emod
theorem am4:type_of% @Int.emod_lt_of_pos:=@Int.emod_lt_of_pos
theorem am5:type_of% @IntKind.wrap_u64:=@IntKind.wrap_u64
theorem anc:type_of% @Int.mul_nonneg:=@Int.mul_nonneg
theorem anh:type_of% @Int.ediv_nonneg:=@Int.ediv_nonneg
theorem anp:type_of% @Int.ediv_eq_zero_of_lt:=@Int.ediv_eq_zero_of_lt
theorem ans:type_of% @Int.emod_nonneg:=@Int.emod_nonneg
theorem ant:type_of% @List.take_length:=@List.take_length
theorem anE:type_of% @List.getElem_set_ne:=@List.getElem_set_ne
theorem anK:type_of% @Classical.choose_spec:=@Classical.choose_spec
theorem anL:type_of% @Int.ediv_lt_of_lt_mul:=@Int.ediv_lt_of_lt_mul
theorem anP:type_of% @Bool.true_and:=@Bool.true_and
theorem an3:type_of% @List.drop_zero:=@List.drop_zero
theorem an9:type_of% @Int.add_mul_ediv_left:=@Int.add_mul_ediv_left
theorem aoa:type_of% @Int.mul_comm:=@Int.mul_comm
theorem aon:type_of% @Int.add_mul_emod_self_left:=@Int.add_mul_emod_self_left
theorem aox:type_of% @Int.mul_le_mul:=@Int.mul_le_mul
theorem aoz:type_of% @Int.emod_eq_of_lt:=@Int.emod_eq_of_lt
theorem aoA:type_of% @Int.mul_ediv_cancel_left:=@Int.mul_ediv_cancel_left
theorem aoG:type_of% @List.drop_length:=@List.drop_length
theorem aoH:type_of% @List.length_drop:=@List.length_drop
theorem aoO:type_of% @Int.lt_of_lt_of_le:=@Int.lt_of_lt_of_le
theorem aoW:type_of% @Int.mul_one:=@Int.mul_one
theorem aoX:type_of% @Int.mul_zero:=@Int.mul_zero
theorem apf:type_of% @Int.add_comm:=@Int.add_comm
theorem apo:type_of% @Int.one_mul:=@Int.one_mul
theorem apr:type_of% @Bool.false_and:=@Bool.false_and
theorem apv:type_of% @Int.add_zero:=@Int.add_zero
theorem apz:type_of% @Int.mul_add:=@Int.mul_add
section
def EnvAll(P:Program):Env->Prop
 |[]=>True
 |p::l=>(dG P p.1=true/\Cc P p.1 p.2/\(∀g,p.2.mut_=some g->KM P p.1 g)/\BD P p.1 p.2)/\EnvAll P l
theorem EnvAll.ok{P:Program}:∀{l:Env},EnvAll P l->kD P l
 |[],_,f,fn,h=>by simp[lL]at h
 |(k,x)::l,⟨h1,h2⟩,f,fn,h=>by
  simp only[lL]at h;split at h
  ·rename_i hb;have:=amk hb;subst this;injection h with h;subst h;exact h1
  ·exact EnvAll.ok h2 f fn h
theorem Gw{E:Env}{N:NT}(h:EnvAll Tryz.prog E):(Ctx.mk Tryz.prog ft tys E N).Ok:=⟨aeT,h.ok,akj.look,PJ⟩
def CX(E:Env)(N:NT):Ctx:=⟨Tryz.prog,ft,tys,E,N⟩
def RS(C:Ctx)(f:Nat)(args:List SV)(t:KT->OLR):Prop:=∀{r:List RV},(∃n,t (C.k n)=some r)->C.Res f args r
def RN(C:Ctx)(i:Nat)(c:Cfg)(t:KT->OLR):Prop:=∀{r:List RV},(∃n,t (C.k n)=some r)->C.Runs i c r
def RL(C:Ctx)(i:Nat)(c:Cfg)(t:KT->OLR):Prop:=∀{r:List RV},(∃n0,∀n,n0<=n->t (C.k n)=some r)->C.RunsE i c r
theorem rsX{E:Env}{N:NT}{f:Nat}{args:List SV}{t:KT->OLR}(e:∀k,go2 Tryz.prog ft tys E N k 4000 (oo f args) (.node 0)=t k:=by intro k;kernel_rfl):RS (CX E N) f args t:=λh=>akC (C:=CX E N) e h
theorem rnX{E:Env}{N:NT}{i:Nat}{c:Cfg}{t:KT->OLR}(e:∀k,go2 Tryz.prog ft tys E N k 4000 {c with K:=.lp i::c.K} (.node (i+1))=t k:=by intro k;kernel_rfl):RN (CX E N) i c t:=λh=>ak4 (C:=CX E N) e h
theorem rlX{E:Env}{N:NT}{i:Nat}{c:Cfg}{t:KT->OLR}(e:∀k,go2 Tryz.prog ft tys E N k 4000 {c with K:=.lp i::c.K} (.node (i+1))=t k:=by intro k;kernel_rfl):RL (CX E N) i c t:=λh=>aiu (C:=CX E N) e h
def Hr(f k:Nat):Bool:=match fQ ft f with
 |some fn=>okF fn k
 |none=>false
abbrev CQq7:=Con Tryz.prog
theorem fy{E:Env}{N:NT}{f:Nat}{args:List SV}{r:List RV}(ok:EnvAll Tryz.prog E)(h:(CX E N).Res f args r)(hk:Hr f args.length=true:=by kernel_rfl):CQq7 f args r:=by
 unfold Hr at hk;split at hk
 ·rename_i fn e;exact Ctx.Res.con (C:=CX E N) (Gw ok) h (fn:=fn) e hk
 ·cases hk
theorem alH{E:Env}{f:Nat}{args:List SV}{r:List RV}(ok:EnvAll Tryz.prog E)(t:KT->OLR)(h:∃n,t ((CX E []).k n)=some r)(e:∀k,go2 Tryz.prog ft tys E [] k 4000 (oo f args) (.node 0)=t k:=by intro k;kernel_rfl)(hk:Hr f args.length=true:=by kernel_rfl):CQq7 f args r:=fy ok (rsX e h) hk
def SpK(f:Nat)(s:dJ):Prop:=dG Tryz.prog f=true/\Cc Tryz.prog f s/\(∀g,s.mut_=some g->KM Tryz.prog f g)/\BD Tryz.prog f s
theorem spX{f:Nat}{keep tame:Bool}{ts:List Ty}{pre:DT ts->Bool}{res:DT ts->List RV}(h:∀x,pre x=true->CQq7 f (svs ts x) (res x))(hc:dG Tryz.prog f=true:=by kernel_rfl):SpK f (spN keep tame ts pre res):=adW hc h
theorem qw{E:Env}{f:Nat}{args:List SV}{r:List RV}(r':List RV){p:Prop}[Decidable p](ok:EnvAll Tryz.prog E)(h:p)(e:∀k,go2 Tryz.prog ft tys E [] k 4000 (oo f args) (.node 0)=match decide p with|true=>some r'|false=>none:=by intro k;kernel_rfl)(hr:r'=r:=by simp only[aQ])(hk:Hr f args.length=true:=by kernel_rfl):CQq7 f args r:=by
 unfold Hr at hk;split at hk
 ·rename_i fn g;exact als (C:=CX E []) (Gw ok) (p:=p) e h hr (fn:=fn) g hk
 ·cases hk
def hid{α:Type}(x:α):α:=Classical.choose (⟨x,rfl⟩:∃y,y=x)
theorem aQ{α:Type}(x:α):hid x=x:=anK (⟨x,rfl⟩:∃y,y=x)
structure Lf (K:List SV->List RV->Prop) (args:List SV) where
 p:Prop
 d:Decidable p
 r:List RV
 h:p->K args r
def lf{K:List SV->List RV->Prop}{args:List SV}(p:Prop)[d:Decidable p](r:List RV)(h:p->K args r):Lf K args:=⟨p,d,r,h⟩
@[reducible] def CG(K:List SV->List RV->Prop):List Ty->(List SV->List SV)->Type
 |[],c=>Lf K (c [])
 |t::ts,c=>(x:t.D)->CG K ts λl=>c (.d t x::l)
def Lh{K:List SV->List RV->Prop}{R:Type}(hd:RV->RV):(ts:List Ty)->(c:List SV->List SV)->CG K ts c->List SV->(List RV->Option R)->Option R
 |[],_,g,l,k=>match l with
  |[]=>match @decide g.p g.d with
   |true=>k (g.r.map hd)
   |false=>none
  |_::_=>none
 |t::ts,_,g,l,k=>match l with
  |.d u x::m=>match eN u t x with
   |some y=>Lh hd ts _ (g y) m k
   |none=>none
  |_=>none
theorem Ck{K:List SV->List RV->Prop}{R:Type}{hd:RV->RV}(hh:∀x,hd x=x){k:List RV->Option R}{r:R}:∀(ts:List Ty) (c:List SV->List SV) (g:CG K ts c) (l:List SV),Lh hd ts c g l k=some r->∃rs,k rs=some r/\K (c l) rs
 |[],c,g,l,h=>by
  unfold Lh at h;split at h
  ·split at h
   ·rename_i e;rw[show g.r.map hd=g.r by rw[show hd=id from funext hh,List.map_id]]at h;exact⟨_,h,g.h (@amj _ g.d e)⟩
   ·cases h
  ·cases h
 |t::ts,c,g,l,h=>by
  unfold Lh at h;split at h
  ·split at h
   ·rename_i e;obtain⟨rfl,rfl⟩:=cX e;have q:=Ck hh ts _ _ _ h;exact q
   ·cases h
  ·cases h
structure Cn (f:Nat) (ts:List Ty) where
 g:CG (CQq7 f) ts id
 c:dG Tryz.prog f=true
def cn{f:Nat}{ts:List Ty}(g:CG (CQq7 f) ts id)(c:dG Tryz.prog f=true:=by kernel_rfl):Cn f ts:=⟨g,c⟩
structure En where
 f:Nat
 s:dJ
 ok:SpK f s
def enX(keep tame:Bool){hd:RV->RV}(hh:∀x,hd x=x){f:Nat}{ts:List Ty}(g:Cn f ts):En:=⟨f,{keep:=keep,tame:=tame,run:=λ_ args k=>Lh hd ts id g.g args k},g.c,λ_ args _ _ e=>Ck hh ts id g.g args e,(λ_ e=>by cases e),λ_ _ e=>by cases e⟩
def hdS:RV->RV
 |.d (.st t) x=>.d (.st t) (hid x)
 |r=>r
def hdA:RV->RV
 |.d t x=>.d t (hid x)
 |r=>r
theorem Nl(r:RV):hdS r=r:=by
 unfold hdS;split
 ·rw[aQ]
 ·rfl
theorem acK(r:RV):hdA r=r:=by
 unfold hdA;split
 ·rw[aQ]
 ·rfl
section
variable {f:Nat} {ts:List Ty} (g:Cn f ts)
def enT:En:=enX true true Nl g
def enL:En:=enX false true Nl g
def enA:En:=enX true true acK g
def enU:En:=enX true true (hd:=id) (λ_=>rfl) g
def enF:En:=enX true false (hd:=id) (λ_=>rfl) g
def enK:En:=enX false false (hd:=id) (λ_=>rfl) g
end
def enC{f:Nat}{ts:List Ty}(g:CG (CQq7 f) ts (·++[.dead]))(c:dG Tryz.prog f=true:=by kernel_rfl):En:=⟨f,{keep:=true,run:=λ_ args k=>match args.getLast? with|some .dead=>Lh id ts (·++[.dead]) g args.dropLast k|_=>none},c,(λ_ args _ _ e=>by
 dsimp only at e;split at e
 ·rename_i h;obtain⟨ys,rfl⟩:=List.getLast?_eq_some_iff.1 h;rw[List.dropLast_concat]at e;exact Ck (λ_=>rfl) ts _ g _ e
 ·cases e),(λ_ e=>by cases e),λ_ _ e=>by cases e⟩
def ens(l:List En):Env:=l.map λe=>(e.f,e.s)
theorem eU:∀l:List En,EnvAll Tryz.prog (ens l)
 |[]=>trivial
 |e::l=>⟨e.ok,eU l⟩
section
variable (l:List En) {N:NT} {f:Nat} {args:List SV} {r:List RV}
theorem a8(h:(CX (ens l) N).Res f args r)(hk:Hr f args.length=true:=by kernel_rfl):CQq7 f args r:=fy (eU l) h hk
theorem aA(t:KT->OLR)(h:∃n,t ((CX (ens l) []).k n)=some r)(e:∀k,go2 Tryz.prog ft tys (ens l) [] k 4000 (oo f args) (.node 0)=t k:=by intro k;kernel_rfl)(hk:Hr f args.length=true:=by kernel_rfl):CQq7 f args r:=alH (eU l) t h e hk
end
end
def aN(l:List Int):Prop:=Lim l/\l.length<=1000000000
instance (l:List Int):Decidable (aN l):=by unfold aN;infer_instance
theorem K3{n:Nat}(h1:0<n)(h2:n<=9223372036854775807):i64.wrap ((n:Int)-1)=((n-1:Nat):Int):=by grind [aO]
theorem zC:∀{l:List Int},(∀j (hj:j<l.length),l[j]=0)->val l=0
 |[],_=>rfl
 |x::l,h=>by
  have h0:=h 0 (by simp);have:=zC (l:=l) λj hj=>h (j+1) (by simpa using hj);simp only[List.getElem_cons_zero]at h0;simp only[val];omega
theorem wJ{l:List Int}{n:Nat}(h:∀j (hj:j<l.length),n<=j->l[j]=0):val (l.take n)=val l:=by
 rw[fH l n,zC (l:=l.drop n) λj hj=>by
  rw[List.getElem_drop];exact h _ _ (by omega)]
 simp
theorem mr{l:List Int}{n:Nat}(hl:Lim l)(hn:n<=l.length)(h:∀j (hj:j<l.length),n<=j->l[j]=0)(hz:n=0\/∃hj:n-1<l.length,l[n-1]≠0):l.take n=ae (val l).toNat:=by
 rw[<-wJ h];apply pK;refine⟨hl.take n,?_⟩;grind
def aaD:NT:=[((170,4),{keep:=[0],pure_:=[(0,.int .u32)],hl:=0})]
def OY:Ctx:=CX [] aaD
def CA(s0:List Int):Cfg:=⟨170,[.blk 0,.seq 13],[(0,.d apD s0)],[],0,[]⟩
def ahu(a:List Int)(k:KT):OLR:=k 4 (CA a)
theorem ajZ(a:List Int):RS OY 170 [.d apD a] (ahu a):=rsX
def xF(s0:List Int)(k:KT):OLR:=match decide ((s0.length:Int)>0)with|true=>(match aH s0 (i64.wrap ((s0.length:Int)-1))with|some x1=>(match x1==0 with|true=>(og (decide ((0:Int)<=0/\0<=i64.wrap ((s0.length:Int)-1)/\i64.wrap ((s0.length:Int)-1)<=(s0.length:Int))) (k 4 (CA ((s0.take (i64.wrap ((s0.length:Int)-1)).toNat).drop (0:Int).toNat))))|false=>some [RV.d apD s0])|none=>none)|false=>some [RV.d apD s0]
theorem yI(s0:List Int):RN OY 4 (CA s0) (xF s0):=rnX
def aeV:NT:=[((121,6),{keep:=[0,1,4,5],hl:=1})]
def QF:Ctx:=CX [] aeV
def Cr(neg:Bool)(l:List Int)(s5:Int):Cfg:=⟨121,[.blk 0,.seq 15],[(0,SB neg),(1,.d apD l),(4,.box 0 0),(5,SI s5)],[.box 26 [SB false,.nil]],0,[]⟩
def ahh(neg:Bool)(l:List Int)(k:KT):OLR:=k 6 (Cr neg l (l.length:Int))
theorem akE(neg:Bool)(l:List Int):RS QF 121 [SB neg,.d apD l] (ahh neg l):=rsX
def sK(neg:Bool)(l:List Int)(s5:Int)(k:KT):OLR:=match decide (s5>0)with|true=>(match aH l (i64.wrap (s5-1))with|some x1=>(match x1==0 with|true=>k 6 (Cr neg l (i64.wrap (s5-1)))|false=>(match neg with|true=>(og (decide ((0:Int)<=0/\0<=s5/\s5<=s5/\s5<=(l.length:Int))) (some [RV.d y3Y (decide (s5>0),(l.take (s5).toNat).drop (0:Int).toNat)]))|false=>(og (decide ((0:Int)<=0/\0<=s5/\s5<=s5/\s5<=(l.length:Int))) (some [RV.d y3Y (false,(l.take (s5).toNat).drop (0:Int).toNat)]))))|none=>none)|false=>(match neg with|true=>(og (decide ((0:Int)<=0/\0<=s5/\s5<=s5/\s5<=(l.length:Int))) (some [RV.d y3Y (decide (s5>0),(l.take (s5).toNat).drop (0:Int).toNat)]))|false=>(og (decide ((0:Int)<=0/\0<=s5/\s5<=s5/\s5<=(l.length:Int))) (some [RV.d y3Y (false,(l.take (s5).toNat).drop (0:Int).toNat)])))
theorem xj(neg:Bool)(l:List Int)(s5:Int):RN QF 6 (Cr neg l s5) (sK neg l s5):=rnX
def agX:Ctx:=CX [] []
def YO(u:Int)(_k:KT):OLR:=some [RV.new 109 apG ([u32.wrap (Int.tmod u 1000000000),u32.wrap (Int.tmod (u64.wrap (Int.tdiv u 1000000000)) 1000000000),u32.wrap (u64.wrap (Int.tdiv (u64.wrap (Int.tdiv u 1000000000)) 1000000000))])]
theorem aiI(u:Int):RS agX 122 [.d (.int .u64) u] (YO u):=rsX
theorem R5(l:List Int)(hl:Lim l)(hs:l.length<=1000000000):∀(n:Nat),n<=l.length->(∀j (hj:j<l.length),n<=j->l[j]=0)->OY.Runs 4 (CA (l.take n)) [.d apD (ae (val l).toNat)]:=by
 intro n;induction n with
 |zero=>
  intro _ h;refine yI _ ⟨0,?_⟩;rw[<-mr hl (aoE _) h (.inl rfl)];rfl
 |succ n ih=>
  intro hn h;have hlen:(l.take (n+1)).length=n+1:=by rw[amV,amZ hn]
  have hget:(l.take (n+1))[n]?=some l[n]:=by rw[List.getElem?_take_of_lt (by omega),amg (by omega)]
  by_cases hz:l[n]=0
  ·obtain⟨q,hq⟩:=ih (by omega) λj hj hk=>by
    rcases Nat.eq_or_lt_of_le hk with e|e
    ·subst e;exact hz
    ·exact h j hj e
   refine yI _ ⟨q,?_⟩;unfold xF;rw[hlen,amh (by omega),K3 (by omega) (by omega),ai,show n+1-1=n from rfl,hget];dsimp only;rw[hz,amh (show(0:Int)<=0/\(0:Int)<=(n:Int)/\(n:Int)<=((n+1:Nat):Int) by omega),aC,ao8,amZ (by omega)];exact hq
  ·refine yI _ ⟨0,?_⟩;unfold xF;rw[hlen,amh (by omega),K3 (by omega) (by omega),ai,show n+1-1=n from rfl,hget];dsimp only;rw[show(l[n]==0)=false by simpa using hz,<-mr hl hn h (.inr ⟨Nat.lt_of_succ_le hn,hz⟩)]
theorem U9(a:List Int)(h:aN a):CQq7 170 [.d apD a] [.d apD (ae (val a).toNat)]:=by
 obtain⟨q,hq⟩:=R5 a h.1 h.2 a.length (amm _) (λj hj hk=>by omega);rw[ant]at hq;exact fy (E:=[]) trivial (ajZ _ ⟨q,hq⟩)
def bX(neg:Bool)(v:Int):Int:=bif neg then-v else v
theorem mM(neg:Bool){v:Int}(h:0<=v):ah (bX neg v)=(neg&&decide (0<v),ae v.toNat):=by
 unfold ah bX;cases neg
 ·simp only[cond_false,apr];rw[ami (by omega),show v.natAbs=v.toNat by omega]
 ·simp only[cond_true,anP];rw[show(-v).natAbs=v.toNat by omega];by_cases h0:0<v
  ·rw[amh h0,amh (by omega)]
  ·rw[ami h0,ami (by omega)]
theorem Rk(neg:Bool)(l:List Int)(hl:Lim l)(hs:l.length<=1000000000):∀(n:Nat),n<=l.length->(∀j (hj:j<l.length),n<=j->l[j]=0)->QF.Runs 6 (Cr neg l (n:Int)) [.d y3Y (ah (bX neg (val l)))]:=by
 intro n;have hv:=aL hl;induction n with
 |zero=>
  intro _ h;refine xj _ _ _ ⟨0,?_⟩;rw[mM neg hv,<-mr hl (aoE _) h (.inl rfl)];have h0:val l=0:=by rw[<-wJ h];rfl
  unfold sK;rw[ami (show ¬((0:Nat):Int)>0 by decide),amh (show(0:Int)<=0/\(0:Int)<=((0:Nat):Int)/\((0:Nat):Int)<=((0:Nat):Int)/\((0:Nat):Int)<=(l.length:Int) by omega),h0];cases neg<;>rfl
 |succ n ih=>
  intro hn h;by_cases hz:l[n]=0
  ·obtain⟨q,hq⟩:=ih (by omega) λj hj hk=>by
    rcases Nat.eq_or_lt_of_le hk with e|e
    ·subst e;exact hz
    ·exact h j hj e
   refine xj _ _ _ ⟨q,?_⟩;unfold sK;rw[amh (by omega),K3 (by omega) (by omega),ai,show n+1-1=n from rfl,amg (by omega)];dsimp only;rw[hz];exact hq
  ·refine xj _ _ _ ⟨0,?_⟩;have hct:=mr hl hn h (.inr ⟨Nat.lt_of_succ_le hn,hz⟩)
   have hpos:0<val l:=by
    rcases amM 0 (val l)with h1|h1
    ·exact h1
    ·exfalso;rw[show(val l).toNat=0 by omega,fw]at hct;have:(l.take (n+1)).length=0:=by rw[hct];rfl
     rw[amV,amZ hn]at this;omega
   rw[mM neg hv,<-hct];unfold sK;rw[amh (show((n+1:Nat):Int)>0 by omega),K3 (by omega) (by omega),ai,show n+1-1=n from rfl,amg (by omega)];dsimp only;rw[show(l[n]==0)=false by simpa using hz,amh (show(0:Int)<=0/\(0:Int)<=((n+1:Nat):Int)/\((n+1:Nat):Int)<=((n+1:Nat):Int)/\((n+1:Nat):Int)<=(l.length:Int) by omega),amh hpos,aC];cases neg<;>rfl
theorem VR(neg:Bool)(l:List Int)(h:aN l):CQq7 121 [.d .bool neg,.d apD l] [.d y3Y (ah (bX neg (val l)))]:=by
 obtain⟨q,hq⟩:=Rk neg l h.1 h.2 l.length (amm _) (λj hj hk=>by omega);exact fy (E:=[]) trivial (akE _ _ ⟨q,hq⟩)
def ip(u:Int):Prop:=0<=u/\u<18446744073709551616
instance (u:Int):Decidable (ip u):=by unfold ip;infer_instance
theorem cY{x:Int}(h1:0<=x)(h2:x<4294967296):u32.wrap x=x:=by rw[IntKind.wrap_u32];omega
theorem bH{x:Int}(h1:0<=x)(h2:x<18446744073709551616):u64.wrap x=x:=by rw[am5];omega
theorem gC{a b:Int}(h:0<=a):Int.tdiv a b=a/b:=Int.tdiv_eq_ediv_of_nonneg h
theorem ju{a b:Int}(h:0<=a):Int.tmod a b=a%b:=Int.tmod_eq_emod_of_nonneg h
theorem Wo(u:Int)(h:ip u):CQq7 122 [.d (.int .u64) u] [.new 109 apG (dig 3 u)]:=by
 refine fy (E:=[]) trivial (aiI _ ⟨0,?_⟩);obtain⟨h1,h2⟩:=h;unfold YO;rw[gC h1,ju h1,bH (x:=u/1000000000) (by omega) (by omega),ju (by omega),gC (a:=u/1000000000) (by omega),cY (x:=u%1000000000) (by omega) (by omega),cY (x:=u/1000000000%1000000000) (by omega) (by omega),bH (x:=u/1000000000/1000000000) (by omega) (by omega),cY (x:=u/1000000000/1000000000) (by omega) (by omega)]
 have e:dig 3 u=[u%1000000000,u/1000000000%1000000000,u/1000000000/1000000000]:=by
  simp only[dig];rw[show u/1000000000/1000000000%1000000000=u/1000000000/1000000000 by omega]
 rw[e]
def FL:dJ:=spN false false [apD] (λx=>decide (aN x.1)) (λx=>[RV.d apD (ae (val x.1).toNat)])
theorem EA:SpK 170 FL:=spX λx h=>U9 x.1 (amj h)
def yZ:dJ:=spN false false [.bool,apD] (λx=>decide (aN x.2.1)) (λx=>[RV.d y3Y (ah (bX x.1 (val x.2.1)))])
theorem sT:SpK 121 yZ:=spX λx h=>VR x.1 x.2.1 (amj h)
def Cl:dJ:=spN true false [(.int .u64)] (λx=>decide (ip x.1)) (λx=>[RV.new 109 apG (dig 3 x.1)])
theorem yB:SpK 122 Cl:=spX λx h=>Wo x.1 (amj h)
def GI:Env:=[(170,FL),(121,yZ),(122,Cl)]
theorem Am:EnvAll Tryz.prog GI:=⟨EA,sT,yB,trivial⟩
def ahO:Ctx:=CX GI []
def aam(n:Int)(_k:KT):OLR:=match decide (n<0)with|true=>(og (decide (ip (u64.wrap (0-(u64.wrap n))))) (og (decide (aN (dig 3 (u64.wrap (0-(u64.wrap n)))))) (some [RV.d y3Y (ah (bX (decide (n<0)) (val (dig 3 (u64.wrap (0-(u64.wrap n)))))))])))|false=>(og (decide (ip (u64.wrap n))) (og (decide (aN (dig 3 (u64.wrap n)))) (some [RV.d y3Y (ah (bX (decide (n<0)) (val (dig 3 (u64.wrap n)))))])))
theorem agw(n:Int):RS ahO 83 [SI n] (aam n):=rsX
def adY:NT:=[((120,24),{keep:=[0,1,5],hl:=0})]
def JU:Ctx:=CX GI adY
def wE(a b:List Int)(s5:Int):Cfg:=⟨120,[.blk 0,.seq 49],[(0,.d apD (ae (val a).toNat)),(1,.d apD (ae (val b).toNat)),(5,SI s5)],[],0,[]⟩
def LN(a b:List Int)(k:KT):OLR:=og (decide (aN a)) (og (decide (aN b)) (match((ae (val a).toNat).length:Int) !=((ae (val b).toNat).length:Int)with|true=>(match decide (((ae (val a).toNat).length:Int)<((ae (val b).toNat).length:Int))with|true=>some [RV.d apE (-1)]|false=>some [RV.d apE 1])|false=>k 24 (wE a b (i64.wrap (((ae (val a).toNat).length:Int)-1)))))
theorem Zg(a b:List Int):RS JU 120 [.d apD a,.d apD b] (LN a b):=rsX
def mO(a b:List Int)(s5:Int)(k:KT):OLR:=match decide (s5>=0)with|true=>(match aH (ae (val a).toNat) s5 with|some x1=>(match aH (ae (val b).toNat) s5 with|some x2=>(match decide (x1<x2)with|true=>some [RV.d apE (-1)]|false=>(match aH (ae (val a).toNat) s5 with|some x3=>(match aH (ae (val b).toNat) s5 with|some x4=>(match decide (x3>x4)with|true=>some [RV.d apE 1]|false=>k 24 (wE a b (i64.wrap (s5-1))))|none=>none)|none=>none))|none=>none)|none=>none)|false=>some [RV.d apE 0]
theorem qk(a b:List Int)(s5:Int):RN JU 24 (wE a b s5) (mO a b s5):=rnX
def aR(n:Int):Prop:= -9223372036854775808<=n/\n<=9223372036854775807
instance (n:Int):Decidable (aR n):=by unfold aR;infer_instance
theorem wR{u:Int}(h:ip u):val (dig 3 u)=u:=gN 3 u h.1 (aoO h.2 (by decide))
theorem jo{n:Nat}(h:n<=1000000000)(v:Int):aN (dig n v):=⟨n4 n v,by rw[iW];exact h⟩
theorem HG(n:Int)(h:aR n):CQq7 83 [.d apE n] [.d y3Y (ah n)]:=by
 refine fy Am (agw _ ⟨0,?_⟩);obtain⟨h1,h2⟩:=h;unfold aam;by_cases hn:n<0
 ·have e:u64.wrap (0-u64.wrap n)= -n:=by rw[am5,am5];omega
  have hu:ip (-n):=⟨by omega,by omega⟩
  rw[amh hn];dsimp only;rw[e,amh hu,amh (jo (n:=3) (by decide) (-n)),wR hu];simp[bX]
 ·have e:u64.wrap n=n:=bH (by omega) (by omega);have hu:ip n:=⟨by omega,by omega⟩
  rw[ami hn];dsimp only;rw[e,amh hu,amh (jo (n:=3) (by decide) n),wR hu];rfl
theorem PX{l:List Int}{n:Nat}(h:n<l.length):val l=val (l.take n)+pw n*(l[n]+1000000000*val (l.drop (n+1))):=by
 rw[fH l n,amZ (Nat.le_of_lt h),amz h];rfl
theorem BN{a b:List Int}(ha:Lim a)(hb:Lim b){n:Nat}(h1:n<a.length)(h2:n<b.length)(hd:a.drop (n+1)=b.drop (n+1))(hlt:a[n]<b[n]):val a<val b:=by
 rw[PX h1,PX h2,hd];have k1:=bU (ha.take n);have k2:=aL (hb.take n);rw[amV,amZ (Nat.le_of_lt h1)]at k1;have hp:=cg n;have:=amo (show a[n]+1000000000*val (b.drop (n+1))+1<=b[n]+1000000000*val (b.drop (n+1)) by omega) (amY hp);rw[apz,aoW]at this;omega
theorem cQ{a b:Int}(h:a<b):bV a b= -1:=by unfold bV;rw[amh h];rfl
theorem cq{a b:Int}(h:b<a):bV a b=1:=by unfold bV;rw[ami (by omega),amh h];rfl
theorem dB(a:Int):bV a a=0:=by unfold bV;rw[ami (by omega)];rfl
theorem wq{a b:Nat}(h:(ae a).length<(ae b).length):a<b:=by
 rcases amX a b with h1|h1
 ·exact h1
 ·have:=dh (n:=b) (k:=(ae a).length) (by
   have:=bU (bS a);rw[bG]at this;omega)
  omega
theorem Rr(a b:List Int)(hl:(ae (val a).toNat).length=(ae (val b).toNat).length)(ha:0<=val a)(hb:0<=val b)(hs:(ae (val a).toNat).length<=1000000000):∀(n:Nat),n<=(ae (val a).toNat).length->(ae (val a).toNat).drop n=(ae (val b).toNat).drop n->
  JU.Runs 24 (wE a b ((n:Int)-1)) [.d apE (bV (val a) (val b))]:=by
 have va:=bG (val a).toNat
 have vb:=bG (val b).toNat
 have la:=bS (val a).toNat
 have lb:=bS (val b).toNat
 intro n;induction n with
 |zero=>
  intro _ h;refine qk _ _ _ ⟨0,?_⟩;have e:val a=val b:=by simp only[an3]at h;rw[h]at va;omega
  unfold mO;rw[ami (by omega),e,dB]
 |succ n ih=>
  intro hn h;have h1:n<(ae (val a).toNat).length:=by omega
  have h2:n<(ae (val b).toNat).length:=by omega
  rcases Int.lt_trichotomy (ae (val a).toNat)[n] (ae (val b).toNat)[n]with hc|hc|hc
  ·refine qk _ _ _ ⟨0,?_⟩;have:=BN la lb h1 h2 h hc;unfold mO;rw[show((n+1:Nat):Int)-1=(n:Int) by omega,amh (by omega),ai,ai,amg h1,amg h2];dsimp only;rw[amh hc,cQ (by omega)]
  ·obtain⟨q,hq⟩:=ih (by omega) (by rw[amz h1,amz h2,hc,h]);refine qk _ _ _ ⟨q,?_⟩;unfold mO;rw[show((n+1:Nat):Int)-1=(n:Int) by omega,amh (by omega),ai,ai,amg h1,amg h2];dsimp only;rw[ami (by omega),ami (by omega),aO (x:=(n:Int)-1) (by omega) (by omega)];exact hq
  ·refine qk _ _ _ ⟨0,?_⟩;have:=BN lb la h2 h1 h.symm hc;unfold mO;rw[show((n+1:Nat):Int)-1=(n:Int) by omega,amh (by omega),ai,ai,amg h1,amg h2];dsimp only;rw[ami (by omega),amh hc,cq (by omega)]
theorem jU{l:List Int}(h:Lim l):(ae (val l).toNat).length<=l.length:=dh (by have:=bU h;have:=aL h;omega)
theorem Uq(a b:List Int)(h:aN a/\aN b):CQq7 120 [.d apD a,.d apD b] [.d apE (bV (val a) (val b))]:=by
 refine fy Am (show JU.Res _ _ _ from ?_);obtain⟨ha,hb⟩:=h;have la:=jU ha.1;have lb:=jU hb.1;have na:=aL ha.1;have nb:=aL hb.1;have hsa:=ha.2;have hsb:=hb.2;by_cases hl:(ae (val a).toNat).length=(ae (val b).toNat).length
 ·obtain⟨q,hq⟩:=Rr a b hl na nb (by omega) _ (amm _) (by rw[aoG,hl,aoG]);refine Zg _ _ ⟨q,?_⟩;unfold LN;rw[amh ha,amh hb,show(((ae (val a).toNat).length:Int) !=((ae (val b).toNat).length:Int))=false by simp[hl],aO (x:=((ae (val a).toNat).length:Int)-1) (by omega) (by omega)];exact hq
 ·refine Zg _ _ ⟨0,?_⟩;unfold LN;rw[amh ha,amh hb,show(((ae (val a).toNat).length:Int) !=((ae (val b).toNat).length:Int))=true by simp;omega];dsimp only;rcases Nat.lt_or_gt_of_ne hl with h1|h1
  ·have:=wq h1;rw[amh (by omega),cQ (by omega)]
  ·have:=wq h1;rw[ami (by omega),cq (by omega)]
def abN:NT:=[((173,16),{keep:=[1,5,6,20,21,22],hl:=1})]
def DY:Ctx:=CX [] abN
def jZ(s1 s20:List Int)(s21 s6 s22:Int)(r0:List Int):Cfg:=⟨173,[.blk 0,.seq 45],[(1,.d apD s1),(5,.own 0),(6,.d apG s6),(20,.d apD s20),(21,SI s21),(22,SI s22)],[.row 109 apG r0],0,[]⟩
def QB(a b:List Int)(k:KT):OLR:=match decide ((a.length:Int)<(b.length:Int))with|true=>(og (decide ((0:Int)=0/\(0:Int)<=i64.wrap ((b.length:Int)+1)/\(i64.wrap ((b.length:Int)+1))*((4:Nat):Int)<=140737488355328/\i64.wrap ((b.length:Int)+1)<=140737488355328)) (k 16 (jZ a b (b.length:Int) 0 0 ([]:List Int))))|false=>(og (decide ((0:Int)=0/\(0:Int)<=i64.wrap ((a.length:Int)+1)/\(i64.wrap ((a.length:Int)+1))*((4:Nat):Int)<=140737488355328/\i64.wrap ((a.length:Int)+1)<=140737488355328)) (k 16 (jZ b a (a.length:Int) 0 0 ([]:List Int))))
theorem YG(a b:List Int):RS DY 173 [.d apD a,.d apD b] (QB a b):=rsX
def kp(s1 s20:List Int)(s21 s6 s22:Int)(r0:List Int)(k:KT):OLR:=match decide (s22<s21)with|true=>(match aH s20 s22 with|some x1=>(match decide (s22<(s1.length:Int))with|true=>(match aH s1 s22 with|some x2=>(match decide ((u32.wrap ((u32.wrap (x1+s6))+x2))>=1000000000)with|true=>(og (decide ((r0.length+([u32.wrap ((u32.wrap ((u32.wrap (x1+s6))+x2))-1000000000)]).length)*4<=140737488355328/\r0.length+([u32.wrap ((u32.wrap ((u32.wrap (x1+s6))+x2))-1000000000)]).length<=140737488355328)) (k 16 (jZ s1 s20 s21 1 (i64.wrap (s22+1)) (r0++([u32.wrap ((u32.wrap ((u32.wrap (x1+s6))+x2))-1000000000)])))))|false=>(og (decide ((r0.length+([u32.wrap ((u32.wrap (x1+s6))+x2)]).length)*4<=140737488355328/\r0.length+([u32.wrap ((u32.wrap (x1+s6))+x2)]).length<=140737488355328)) (k 16 (jZ s1 s20 s21 0 (i64.wrap (s22+1)) (r0++([u32.wrap ((u32.wrap (x1+s6))+x2)]))))))|none=>none)|false=>(match decide ((u32.wrap (x1+s6))>=1000000000)with|true=>(og (decide ((r0.length+([u32.wrap ((u32.wrap (x1+s6))-1000000000)]).length)*4<=140737488355328/\r0.length+([u32.wrap ((u32.wrap (x1+s6))-1000000000)]).length<=140737488355328)) (k 16 (jZ s1 s20 s21 1 (i64.wrap (s22+1)) (r0++([u32.wrap ((u32.wrap (x1+s6))-1000000000)])))))|false=>(og (decide ((r0.length+([u32.wrap (x1+s6)]).length)*4<=140737488355328/\r0.length+([u32.wrap (x1+s6)]).length<=140737488355328)) (k 16 (jZ s1 s20 s21 0 (i64.wrap (s22+1)) (r0++([u32.wrap (x1+s6)])))))))|none=>none)|false=>(og (decide ((r0.length+([s6]).length)*4<=140737488355328/\r0.length+([s6]).length<=140737488355328)) (some [RV.new 109 apG (r0++([s6]))]))
theorem nq(s1 s20:List Int)(s21 s6 s22:Int)(r0:List Int):RN DY 16 (jZ s1 s20 s21 s6 s22 r0) (kp s1 s20 s21 s6 s22 r0):=rnX
def abF:NT:=[((174,10),{keep:=[1,5,6,13,14,15],hl:=1})]
def Dj:Ctx:=CX [] abF
def lR(a b:List Int)(s6 s15:Int)(r0:List Int):Cfg:=⟨174,[.blk 0,.seq 39],[(1,.d apD b),(5,.own 0),(6,.d apG s6),(13,.d apD a),(14,SI (a.length:Int)),(15,SI s15)],[.row 109 apG r0],0,[]⟩
def Xk(a b:List Int)(k:KT):OLR:=og (decide ((0:Int)<=(a.length:Int)/\(a.length:Int)*((4:Nat):Int)<=140737488355328/\(a.length:Int)<=140737488355328)) (k 10 (lR a b 0 0 (List.replicate ((a.length:Int)).toNat (0:Int))))
theorem aij(a b:List Int):RS Dj 174 [.d apD a,.d apD b] (Xk a b):=rsX
def j8(a b:List Int)(s6 s15:Int)(r0:List Int)(k:KT):OLR:=match decide (s15<(a.length:Int))with|true=>(match aH a s15 with|some x1=>(match decide (s15<(b.length:Int))with|true=>(match aH b s15 with|some x2=>(match decide (x1<(u32.wrap (s6+x2)))with|true=>(match aH r0 s15 with|some _=>(match true,r0[(s15).toNat]? with|true,some _=>k 10 (lR a b 1 (i64.wrap (s15+1)) (r0.set ((s15).toNat) (u32.wrap ((u32.wrap (x1+1000000000))-(u32.wrap (s6+x2))))))|_,_=>none)|none=>none)|false=>(match aH r0 s15 with|some _=>(match true,r0[(s15).toNat]? with|true,some _=>k 10 (lR a b 0 (i64.wrap (s15+1)) (r0.set ((s15).toNat) (u32.wrap (x1-(u32.wrap (s6+x2))))))|_,_=>none)|none=>none))|none=>none)|false=>(match decide (x1<s6)with|true=>(match aH r0 s15 with|some _=>(match true,r0[(s15).toNat]? with|true,some _=>k 10 (lR a b 1 (i64.wrap (s15+1)) (r0.set ((s15).toNat) (u32.wrap ((u32.wrap (x1+1000000000))-s6))))|_,_=>none)|none=>none)|false=>(match aH r0 s15 with|some _=>(match true,r0[(s15).toNat]? with|true,some _=>k 10 (lR a b 0 (i64.wrap (s15+1)) (r0.set ((s15).toNat) (u32.wrap (x1-s6))))|_,_=>none)|none=>none)))|none=>none)|false=>some [RV.new 109 apG r0]
theorem mY(a b:List Int)(s6 s15:Int)(r0:List Int):RN Dj 10 (lR a b s6 s15 r0) (j8 a b s6 s15 r0):=rnX
def abP:NT:=[((125,8),{keep:=[1,5,18,19,20],hl:=1}),((125,25),{keep:=[1,5,6,7,8,18,19,20,25,26,27],hl:=1})]
def zg:Ctx:=CX [] abP
def yC(a b:List Int)(s20:Int)(r0:List Int):Cfg:=⟨125,[.blk 0,.seq 42],[(1,.d apD b),(5,.own 0),(18,.d apD a),(19,SI (a.length:Int)),(20,SI s20)],[.row 109 apG r0],0,[]⟩
def wy(a b:List Int)(s20 x1 s8 s27:Int)(r0:List Int):Cfg:=⟨125,[.blk 2,.seq 40,.blk 1,.seq 41,.lp 8,.blk 0,.seq 42],[(1,.d apD b),(5,.own 0),(6,SI s20),(7,.d apG x1),(8,.d (.int .u64) s8),(18,.d apD a),(19,SI (a.length:Int)),(20,SI s20),(25,.d apD b),(26,SI (b.length:Int)),(27,SI s27)],[.row 109 apG r0],0,[]⟩
def Xt(a b:List Int)(k:KT):OLR:=og (decide ((0:Int)<=i64.wrap ((a.length:Int)+(b.length:Int))/\(i64.wrap ((a.length:Int)+(b.length:Int)))*((4:Nat):Int)<=140737488355328/\i64.wrap ((a.length:Int)+(b.length:Int))<=140737488355328)) (k 8 (yC a b 0 (List.replicate (i64.wrap ((a.length:Int)+(b.length:Int))).toNat (0:Int))))
theorem ajw(a b:List Int):RS zg 125 [.d apD a,.d apD b] (Xt a b):=rsX
def wY(a b:List Int)(s20:Int)(r0:List Int)(k:KT):OLR:=match decide (s20<(a.length:Int))with|true=>(match aH a s20 with|some x1=>k 25 (wy a b s20 x1 0 0 r0)|none=>none)|false=>some [RV.new 109 apG r0]
theorem Ea(a b:List Int)(s20:Int)(r0:List Int):RN zg 8 (yC a b s20 r0) (wY a b s20 r0):=rnX
def ui(a b:List Int)(s20 x1 s8 s27:Int)(r0:List Int)(k:KT):OLR:=match decide (s27<(b.length:Int))with|true=>(match aH b s27 with|some x2=>(match aH r0 (i64.wrap (s20+s27))with|some _=>(match true,r0[(i64.wrap (s20+s27)).toNat]? with|true,some x3=>(match aH r0 (i64.wrap (s20+s27))with|some _=>(match true,r0[(i64.wrap (s20+s27)).toNat]? with|true,some _=>k 25 (wy a b s20 x1 (u64.wrap (Int.tdiv (u64.wrap ((u64.wrap ((u64.wrap x3)+(u64.wrap ((u64.wrap x1)*(u64.wrap x2)))))+s8)) 1000000000)) (i64.wrap (s27+1)) (r0.set ((i64.wrap (s20+s27)).toNat) (u32.wrap (Int.tmod (u64.wrap ((u64.wrap ((u64.wrap x3)+(u64.wrap ((u64.wrap x1)*(u64.wrap x2)))))+s8)) 1000000000))))|_,_=>none)|none=>none)|_,_=>none)|none=>none)|none=>none)|false=>(match aH r0 (i64.wrap (s20+(b.length:Int)))with|some _=>(match true,r0[(i64.wrap (s20+(b.length:Int))).toNat]? with|true,some _=>k 8 (yC a b (i64.wrap (s20+1)) (r0.set ((i64.wrap (s20+(b.length:Int))).toNat) (u32.wrap s8)))|_,_=>none)|none=>none)
theorem z9(a b:List Int)(s20 x1 s8 s27:Int)(r0:List Int):RN zg 25 (wy a b s20 x1 s8 s27 r0) (ui a b s20 x1 s8 s27 r0):=rnX
def adB:NT:=[((232,10),{keep:=[0,1,6,7,8],hl:=1})]
def Jg:Ctx:=CX [] adB
def wu(a:List Int)(b s7 s8:Int)(r0:List Int):Cfg:=⟨232,[.blk 0,.seq 23],[(0,.d apD a),(1,.d apG b),(6,.own 0),(7,.d (.int .u64) s7),(8,SI s8)],[.row 109 apG r0],0,[]⟩
def WX(a:List Int)(b:Int)(k:KT):OLR:=og (decide ((0:Int)<=(a.length:Int)/\(a.length:Int)*((4:Nat):Int)<=140737488355328/\(a.length:Int)<=140737488355328)) (k 10 (wu a b 0 (i64.wrap ((a.length:Int)-1)) (List.replicate ((a.length:Int)).toNat (0:Int))))
theorem agv(a:List Int)(b:Int):RS Jg 232 [.d apD a,.d apG b] (WX a b):=rsX
def uY(a:List Int)(b s7 s8:Int)(r0:List Int)(k:KT):OLR:=match decide (s8>=0)with|true=>(match aH a s8 with|some x1=>(match decide (u64.wrap b=(0:Int))with|true=>none|false=>(match decide (u64.wrap b=(0:Int))with|true=>none|false=>(match aH r0 s8 with|some _=>(match true,r0[(s8).toNat]? with|true,some _=>k 10 (wu a b (Int.tmod (u64.wrap ((u64.wrap (s7*1000000000))+(u64.wrap x1))) (u64.wrap b)) (i64.wrap (s8-1)) (r0.set ((s8).toNat) (u32.wrap (u64.wrap (Int.tdiv (u64.wrap ((u64.wrap (s7*1000000000))+(u64.wrap x1))) (u64.wrap b))))))|_,_=>none)|none=>none)))|none=>none)|false=>some [RV.d apD r0,RV.d apD ([u32.wrap s7])]
theorem AJ(a:List Int)(b s7 s8:Int)(r0:List Int):RN Jg 10 (wu a b s7 s8 r0) (uY a b s7 s8 r0):=rnX
theorem kq{b:List Int}{i:Nat}(h:b.length<=i):b.take (i+1)=b.take i:=by grind [anj]
theorem sP{n:Nat}(h:n<=4000000000):decide ((0:Int)<=(n:Int)/\(n:Int)*((4:Nat):Int)<=140737488355328/\(n:Int)<=140737488355328)=true:=by grind
theorem QH{m:Nat}(h:m<=4000000000):decide ((m+1)*4<=140737488355328/\m+1<=140737488355328)=true:=by grind
theorem E5(a b:List Int)(ha:aN a)(hb:aN b)(hab:b.length<=a.length):∀(j i:Nat) (c:Int) (r:List Int),i+j=a.length->0<=c->c<=1->Lim r->r.length=i->val r+pw i*c=val (a.take i)+val (b.take i)->
  DY.Runs 16 (jZ b a (a.length:Int) c (i:Int) r) [.new 109 apG (dig (a.length+1) (val a+val b))]:=by
 have hsa:=ha.2;intro j;induction j with
 |zero=>
  intro i c r hi c0 c1 hr hl hv;obtain rfl:i=a.length:=by omega
  refine nq _ _ _ _ _ _ ⟨0,?_⟩;unfold kp;rw[aX (amm _)];simp only[amF];rw[QH (by omega)]
  have e:r++[c]=dig (a.length+1) (val a+val b):=by
   refine CK (hr.append (Lim.cons ⟨c0,by omega⟩ Lim.nil)) (by simp[hl]) ?_;rw[dv,hl];rw[ant,anj hab]at hv;simp only[val,aoX,apv];omega
  rw[e]
 |succ j ih=>
  intro i c r hi c0 c1 hr hl hv;have hia:i<a.length:=by omega
  have xa:=ha.1.get hia;have hp:=cg i
  have step:∀(y c':Int),0<=y->y<1000000000->0<=c'->c'<=1->val (b.take (i+1))=val (b.take i)+pw i*(y+1000000000*c'-a[i]-c)->DY.Runs 16 (jZ b a (a.length:Int) c' ((i+1:Nat):Int) (r++[y])) [.new 109 apG (dig (a.length+1) (val a+val b))]:=by
   intro y c' y0 y1 k0 k1 hb';refine ih (i+1) c' (r++[y]) (by omega) k0 k1 (hr.append (Lim.cons ⟨y0,y1⟩ Lim.nil)) (by simp[hl]) ?_;rw[dv,hl,bg hia,hb',bW];simp only[val];grind
  by_cases hib:i<b.length
  ·have xb:=hb.1.get hib;have ht:=bg hib;by_cases hc:a[i]+c+b[i]>=1000000000
   ·obtain⟨q,hq⟩:=step (a[i]+c+b[i]-1000000000) 1 (by omega) (by omega) (by omega) (by omega) (by rw[ht];grind);refine nq _ _ _ _ _ _ ⟨q,?_⟩;unfold kp;rw[aK hia,ai,amg hia,aK hib,ai,amg hib];dsimp only;rw[cY (x:=a[i]+c) (by omega) (by omega),cY (x:=a[i]+c+b[i]) (by omega) (by omega),amh hc,cY (x:=a[i]+c+b[i]-1000000000) (by omega) (by omega),aT (by omega)];simp only[amF];rw[QH (by omega)];exact hq
   ·obtain⟨q,hq⟩:=step (a[i]+c+b[i]) 0 (by omega) (by omega) (by omega) (by omega) (by rw[ht];grind);refine nq _ _ _ _ _ _ ⟨q,?_⟩;unfold kp;rw[aK hia,ai,amg hia,aK hib,ai,amg hib];dsimp only;rw[cY (x:=a[i]+c) (by omega) (by omega),cY (x:=a[i]+c+b[i]) (by omega) (by omega),ami hc,aT (by omega)];simp only[amF];rw[QH (by omega)];exact hq
  ·have ht:=kq (b:=b) (i:=i) (by omega);by_cases hc:a[i]+c>=1000000000
   ·obtain⟨q,hq⟩:=step (a[i]+c-1000000000) 1 (by omega) (by omega) (by omega) (by omega) (by rw[ht];grind);refine nq _ _ _ _ _ _ ⟨q,?_⟩;unfold kp;rw[aK hia,ai,amg hia,aX (show b.length<=i by omega)];dsimp only;rw[cY (x:=a[i]+c) (by omega) (by omega),amh hc,cY (x:=a[i]+c-1000000000) (by omega) (by omega),aT (by omega)];simp only[amF];rw[QH (by omega)];exact hq
   ·obtain⟨q,hq⟩:=step (a[i]+c) 0 (by omega) (by omega) (by omega) (by omega) (by rw[ht];grind);refine nq _ _ _ _ _ _ ⟨q,?_⟩;unfold kp;rw[aK hia,ai,amg hia,aX (show b.length<=i by omega)];dsimp only;rw[cY (x:=a[i]+c) (by omega) (by omega),ami hc,aT (by omega)];simp only[amF];rw[QH (by omega)];exact hq
theorem U4(a b:List Int)(h:aN a/\aN b):CQq7 173 [.d apD a,.d apD b] [.new 109 apG (dig (max a.length b.length+1) (val a+val b))]:=by
 refine fy (E:=[]) trivial (show DY.Res _ _ _ from ?_);obtain⟨ha,hb⟩:=h;have hsa:=ha.2;have hsb:=hb.2
 have mk:∀n:Nat,n<=1000000000->decide ((0:Int)=0/\(0:Int)<=i64.wrap ((n:Int)+1)/\i64.wrap ((n:Int)+1)*((4:Nat):Int)<=140737488355328/\i64.wrap ((n:Int)+1)<=140737488355328)=true:=λn hn=>by
  rw[aT (by omega)];exact amh ⟨rfl,by omega,by omega,by omega⟩
 by_cases hc:a.length<b.length
 ·obtain⟨q,hq⟩:=E5 b a hb ha (by omega) b.length 0 0 [] (by omega) (by omega) (by omega) Lim.nil rfl (by simp[val]);refine YG _ _ ⟨q,?_⟩;unfold QB;rw[aK hc,mk _ hsb,Nat.max_eq_right (by omega),apf (val a)];exact hq
 ·obtain⟨q,hq⟩:=E5 a b ha hb (by omega) a.length 0 0 [] (by omega) (by omega) (by omega) Lim.nil rfl (by simp[val]);refine YG _ _ ⟨q,?_⟩;unfold QB;rw[aX (by omega),mk _ hsa,Nat.max_eq_left (by omega)];exact hq
theorem pq{r:List Int}{i:Nat}{y:Int}(hz:∀j (hj:j<r.length),i<=j->r[j]=0):∀j (hj:j<(r.set i y).length),i+1<=j->(r.set i y)[j]=0:=λj hj hk=>by
 rw[anE (by omega)];exact hz j (by simpa using hj) (by omega)
theorem Pj(a b:List Int)(ha:aN a)(hb:aN b)(hle:val b<=val a)(_hab:b.length<=a.length\/True):∀(j i:Nat) (c:Int) (r:List Int),i+j=a.length->0<=c->c<=1->Lim r->r.length=a.length->(∀k (hk:k<r.length),i<=k->r[k]=0)->val r+val (b.take i)=val (a.take i)+pw i*c->
  Dj.Runs 10 (lR a b c (i:Int) r) [.new 109 apG (dig a.length (val a-val b))]:=by
 have hsa:=ha.2;intro j;induction j with
 |zero=>
  intro i c r hi c0 c1 hr hl hz hv;obtain rfl:i=a.length:=by omega
  refine mY _ _ _ _ _ ⟨0,?_⟩;unfold j8;rw[aX (amm _)];have hrl:=bU hr;rw[hl]at hrl;have hb2:val b=val (b.take a.length)+pw (min a.length b.length)*val (b.drop a.length):=fH b a.length;have hbd:0<=val (b.drop a.length):=aL (hb.1.drop _);have hal:=bU ha.1;have hbt:=aL (hb.1.take a.length);rw[ant]at hv
  have hz0:val (b.drop a.length)=0:=by
   rcases amX a.length b.length with h1|h1
   ·rw[amZ (by omega)]at hb2;rcases amM 0 (val (b.drop a.length))with h2|h2
    ·have hp:=cg a.length;have:=amo (show 1<=val (b.drop a.length) by omega) (amY hp);omega
    ·omega
   ·rw[am0 h1];rfl
  rw[hz0,aoX,apv]at hb2
  have hc0:c=0:=by
   have hp:=cg a.length;rcases(show c=0\/c=1 by omega)with h|h
   ·exact h
   ·subst h;rw[aoW]at hv;omega
  subst hc0;rw[aoX]at hv;rw[<-CK hr hl (show val r=val a-val b by omega)]
 |succ j ih=>
  intro i c r hi c0 c1 hr hl hz hv;have hia:i<a.length:=by omega
  have hir:i<r.length:=by omega
  have xa:=ha.1.get hia;have hr0:=hz i hir (amm _)
  have step:∀(y c':Int),0<=y->y<1000000000->0<=c'->c'<=1->val (b.take (i+1))=val (b.take i)+pw i*(a[i]+1000000000*c'-y-c)->Dj.Runs 10 (lR a b c' ((i+1:Nat):Int) (r.set i y)) [.new 109 apG (dig a.length (val a-val b))]:=by
   intro y c' y0 y1 k0 k1 hb';refine ih (i+1) c' (r.set i y) (by omega) k0 k1 (hr.set i ⟨y0,y1⟩) (by simpa using hl) (pq hz) ?_;rw[eV hir,hr0,bg hia,hb',bW];grind
  by_cases hib:i<b.length
  ·have xb:=hb.1.get hib;have ht:=bg hib;by_cases hc:a[i]<c+b[i]
   ·obtain⟨q,hq⟩:=step (a[i]+1000000000-(c+b[i])) 1 (by omega) (by omega) (by omega) (by omega) (by rw[ht];grind);refine mY _ _ _ _ _ ⟨q,?_⟩;unfold j8;rw[aK hia,ai,amg hia,aK hib,ai,amg hib,ai,aC,amg hir];dsimp only;rw[cY (x:=c+b[i]) (by omega) (by omega),amh hc,cY (x:=a[i]+1000000000) (by omega) (by omega),cY (x:=a[i]+1000000000-(c+b[i])) (by omega) (by omega),aT (by omega)];exact hq
   ·obtain⟨q,hq⟩:=step (a[i]-(c+b[i])) 0 (by omega) (by omega) (by omega) (by omega) (by rw[ht];grind);refine mY _ _ _ _ _ ⟨q,?_⟩;unfold j8;rw[aK hia,ai,amg hia,aK hib,ai,amg hib,ai,aC,amg hir];dsimp only;rw[cY (x:=c+b[i]) (by omega) (by omega),ami hc,cY (x:=a[i]-(c+b[i])) (by omega) (by omega),aT (by omega)];exact hq
  ·have ht:=kq (b:=b) (i:=i) (by omega);by_cases hc:a[i]<c
   ·obtain⟨q,hq⟩:=step (a[i]+1000000000-c) 1 (by omega) (by omega) (by omega) (by omega) (by rw[ht];grind);refine mY _ _ _ _ _ ⟨q,?_⟩;unfold j8;rw[aK hia,ai,amg hia,aX (show b.length<=i by omega),ai r i,aC,amg hir];dsimp only;rw[amh hc,cY (x:=a[i]+1000000000) (by omega) (by omega),cY (x:=a[i]+1000000000-c) (by omega) (by omega),aT (by omega)];exact hq
   ·obtain⟨q,hq⟩:=step (a[i]-c) 0 (by omega) (by omega) (by omega) (by omega) (by rw[ht];grind);refine mY _ _ _ _ _ ⟨q,?_⟩;unfold j8;rw[aK hia,ai,amg hia,aX (show b.length<=i by omega),ai r i,aC,amg hir];dsimp only;rw[ami hc,cY (x:=a[i]-c) (by omega) (by omega),aT (by omega)];exact hq
def oD(a b:List Int):Prop:=aN a/\aN b/\val b<=val a
instance (a b:List Int):Decidable (oD a b):=by unfold oD;infer_instance
theorem Vx(a b:List Int)(h:oD a b):CQq7 174 [.d apD a,.d apD b] [.new 109 apG (dig a.length (val a-val b))]:=by
 refine fy (E:=[]) trivial (show Dj.Res _ _ _ from ?_);obtain⟨ha,hb,hle⟩:=h;have hsa:=ha.2;obtain⟨q,hq⟩:=Pj a b ha hb hle (.inr trivial) a.length 0 0 (List.replicate a.length 0) (by omega) (by omega) (by omega) (Lim.rep _) (by simp) (λk hk _=>by simp) (by simp[val,gj]);refine aij _ _ ⟨q,?_⟩;unfold Xk;rw[sP (by omega),aC];exact hq
theorem Gf{r x y c:Int}(hr:0<=r/\r<1000000000)(hx:0<=x/\x<1000000000)(hy:0<=y/\y<1000000000)(hc:0<=c/\c<1000000000):0<=x*y/\x*y<=999999998000000001/\0<=(r+x*y+c)/1000000000/\(r+x*y+c)/1000000000<1000000000:=by
 have h1:0<=x*y:=anc hx.1 hy.1;have h2:x*y<=999999999*999999999:=aox (by omega) (by omega) hy.1 (by decide);omega
theorem Kq(a b:List Int)(ha:aN a)(hb:aN b)(i:Nat)(hi:i<a.length)
  (hout:∀r,Lim r->r.length=a.length+b.length->(∀k (hk:k<r.length),i+1+b.length<=k->r[k]=0)->val r=val (a.take (i+1))*val b->zg.Runs 8 (yC a b ((i+1:Nat):Int) r) [.new 109 apG (dig (a.length+b.length) (val a*val b))]):
  ∀(j k:Nat) (c:Int) (r:List Int),k+j=b.length->0<=c->c<1000000000->Lim r->r.length=a.length+b.length->(∀q (hq:q<r.length),i+b.length<=q->r[q]=0)->val r+pw (i+k)*c=val (a.take i)*val b+pw i*a[i]*val (b.take k)->
  zg.Runs 25 (wy a b (i:Int) a[i] c (k:Int) r) [.new 109 apG (dig (a.length+b.length) (val a*val b))]:=by
 have hsa:=ha.2;have hsb:=hb.2;have xa:=ha.1.get hi;intro j;induction j with
 |zero=>
  intro k c r hk c0 c1 hr hl hz hv;obtain rfl:k=b.length:=by omega
  have hir:i+b.length<r.length:=by omega
  have hr0:=hz _ hir (amm _)
  obtain⟨q,hq⟩:=hout (r.set (i+b.length) c) (hr.set _ ⟨c0,c1⟩) (by simpa using hl) (by rw[show i+1+b.length=i+b.length+1 by omega];exact pq hz) (by
   rw[eV hir,hr0,bg hi];rw[ant]at hv;grind)
  refine z9 _ _ _ _ _ _ _ ⟨q,?_⟩;have hw:i64.wrap ((i:Int)+(b.length:Int))=((i+b.length:Nat):Int):=by rw[aO (by omega) (by omega)];simp
  unfold ui;rw[aX (amm _),hw,ai r (i+b.length),aC,amg hir,cY (x:=c) (by omega) (by omega),aT (k:=i) (by omega)];exact hq
 |succ j ih=>
  intro k c r hk c0 c1 hr hl hz hv;have hkb:k<b.length:=by omega
  have hir:i+k<r.length:=by omega
  have xb:=hb.1.get hkb;have xr:=hr.get hir;have hbd:=Gf xr xa xb ⟨c0,c1⟩
  obtain⟨q,hq⟩:=ih (k+1) ((r[i+k]+a[i]*b[k]+c)/1000000000) (r.set (i+k) ((r[i+k]+a[i]*b[k]+c)%1000000000)) (by omega) hbd.2.2.1 hbd.2.2.2 (hr.set _ (by omega)) (by simpa using hl)
   (λm hm hq=>by rw[anE (by omega)];exact hz m (by simpa using hm) hq) (by
    rw[eV hir,bg hkb,show i+(k+1)=i+k+1 by omega,bW,fc];rw[fc]at hv;have e:=Int.emod_add_mul_ediv (r[i+k]+a[i]*b[k]+c) 1000000000;grind)
  refine z9 _ _ _ _ _ _ _ ⟨q,?_⟩;have hw:i64.wrap ((i:Int)+(k:Int))=((i+k:Nat):Int):=by rw[aO (by omega) (by omega)];simp
  unfold ui;rw[aK hkb,ai b k,amg hkb,hw,ai r (i+k),aC,amg hir];dsimp only;rw[bH (x:=r[i+k]) (by omega) (by omega),bH (x:=a[i]) (by omega) (by omega),bH (x:=b[k]) (by omega) (by omega),bH (x:=a[i]*b[k]) (by omega) (by omega),bH (x:=r[i+k]+a[i]*b[k]) (by omega) (by omega),bH (x:=r[i+k]+a[i]*b[k]+c) (by omega) (by omega),gC (a:=r[i+k]+a[i]*b[k]+c) (by omega),ju (a:=r[i+k]+a[i]*b[k]+c) (by omega),bH (x:=(r[i+k]+a[i]*b[k]+c)/1000000000) (by omega) (by omega),cY (x:=(r[i+k]+a[i]*b[k]+c)%1000000000) (by omega) (by omega),aT (k:=k) (by omega)];exact hq
theorem KA(a b:List Int)(ha:aN a)(hb:aN b):∀(j i:Nat) (r:List Int),i+j=a.length->Lim r->r.length=a.length+b.length->(∀k (hk:k<r.length),i+b.length<=k->r[k]=0)->val r=val (a.take i)*val b->
  zg.Runs 8 (yC a b (i:Int) r) [.new 109 apG (dig (a.length+b.length) (val a*val b))]:=by
 have hsa:=ha.2;intro j;induction j with
 |zero=>
  intro i r hi hr hl hz hv;obtain rfl:i=a.length:=by omega
  refine Ea _ _ _ _ ⟨0,?_⟩;unfold wY;rw[ant]at hv;rw[aX (amm _),<-CK hr hl hv]
 |succ j ih=>
  intro i r hi hr hl hz hv;have hia:i<a.length:=by omega
  obtain⟨q,hq⟩:=Kq a b ha hb i hia (λr' h1 h2 h3 h4=>ih (i+1) r' (by omega) h1 h2 h3 h4) b.length 0 0 r (by omega) (by omega) (by omega) hr hl hz (by simp[val,hv]);refine Ea _ _ _ _ ⟨q,?_⟩;unfold wY;rw[aK hia,ai,amg hia];exact hq
theorem Ui(a b:List Int)(h:aN a/\aN b):CQq7 125 [.d apD a,.d apD b] [.new 109 apG (dig (a.length+b.length) (val a*val b))]:=by
 refine fy (E:=[]) trivial (show zg.Res _ _ _ from ?_);obtain⟨ha,hb⟩:=h;have hsa:=ha.2;have hsb:=hb.2;obtain⟨q,hq⟩:=KA a b ha hb a.length 0 (List.replicate (a.length+b.length) 0) (by omega) (Lim.rep _) (by simp) (λk hk _=>by simp) (by simp[val,gj]);refine ajw _ _ ⟨q,?_⟩;have hw:i64.wrap ((a.length:Int)+(b.length:Int))=((a.length+b.length:Nat):Int):=by rw[aO (by omega) (by omega)];simp
 unfold Xt;rw[hw,sP (by omega),aC];exact hq
theorem Pi(a:List Int)(b:Int)(ha:aN a)(hb:1<=b/\b<1000000000):∀(n:Nat) (c:Int) (r:List Int),n<=a.length->0<=c->c<b->Lim r->r.length=a.length->(∀k (hk:k<r.length),k<n->r[k]=0)->b*val r+pw n*c+val (a.take n)=val a->
  Jg.Runs 10 (wu a b c ((n:Int)-1) r) [.d apD (dig a.length (val a/b)),.d apD [val a%b]]:=by
 have hsa:=ha.2;intro n;induction n with
 |zero=>
  intro c r hn c0 c1 hr hl hz hv;simp only[n6,List.take_zero,val,apo,apv]at hv
  have e1:val a%b=c:=by
   rw[<-hv,apf,aon];exact aoz c0 c1
  have e2:val a/b=val r:=by
   rw[<-hv,apf,an9 _ _ (by omega),anp c0 c1];omega
  refine AJ _ _ _ _ _ ⟨0,?_⟩;unfold uY;rw[ami (by omega),e1,e2,<-CK hr hl rfl,cY (x:=c) (by omega) (by omega)]
 |succ n ih=>
  intro c r hn c0 c1 hr hl hz hv;have hna:n<a.length:=by omega
  have hnr:n<r.length:=by omega
  have xa:=ha.1.get hna;have hr0:=hz n hnr (by omega);have hcb:0<=c*1000000000+a[n]:=by omega
  have m0:=ans (c*1000000000+a[n]) (show b≠0 by omega);have m1:=am4 (c*1000000000+a[n]) (show 0<b by omega);have md:=am3 (c*1000000000+a[n]) b;have d0:0<=(c*1000000000+a[n])/b:=anh hcb (by omega)
  have d1:(c*1000000000+a[n])/b<1000000000:=by
   refine anL (by omega) ?_;have:=amu (show c+1<=b by omega) (show(0:Int)<=1000000000 by decide);rw[aoa 1000000000 b];omega
  obtain⟨q,hq⟩:=ih ((c*1000000000+a[n])%b) (r.set n ((c*1000000000+a[n])/b)) (by omega) m0 m1 (hr.set n ⟨d0,d1⟩) (by simpa using hl)
   (λk hk hkn=>by rw[anE (by omega)];exact hz k (by simpa using hk) (by omega)) (by
    rw[eV hnr,hr0];rw[bg hna,bW]at hv;grind)
  refine AJ _ _ _ _ _ ⟨q,?_⟩;unfold uY;rw[show((n+1:Nat):Int)-1=(n:Int) by omega,amh (by omega),ai a n,amg hna,bH (x:=b) (by omega) (by omega),ami (show ¬b=0 by omega),ai r n,aC,amg hnr];dsimp only;rw[bH (x:=c*1000000000) (by omega) (by omega),bH (x:=a[n]) (by omega) (by omega),bH (x:=c*1000000000+a[n]) (by omega) (by omega),gC hcb,ju hcb,bH (x:=(c*1000000000+a[n])/b) (by omega) (by omega),cY (x:=(c*1000000000+a[n])/b) (by omega) (by omega),aO (x:=(n:Int)-1) (by omega) (by omega)];exact hq
def E8(a:List Int)(b:Int):Prop:=aN a/\1<=b/\b<1000000000
instance (a:List Int) (b:Int):Decidable (E8 a b):=by unfold E8;infer_instance
theorem UC(a:List Int)(b:Int)(h:E8 a b):CQq7 232 [.d apD a,.d apG b] [.d apD (dig a.length (val a/b)),.d apD [val a%b]]:=by
 refine fy (E:=[]) trivial (show Jg.Res _ _ _ from ?_);obtain⟨ha,hb⟩:=h;have hsa:=ha.2;obtain⟨q,hq⟩:=Pi a b ha hb a.length 0 (List.replicate a.length 0) (amm _) (by omega) (by omega) (Lim.rep _) (by simp) (λk hk _=>by simp) (by simp[gj]);refine agv _ _ ⟨q,?_⟩;unfold WX;rw[sP (by omega),aC,aO (x:=(a.length:Int)-1) (by omega) (by omega)];exact hq
def FH:dJ:=spN true false [apD,apD] (λx=>decide (aN x.1/\aN x.2.1)) (λx=>[RV.new 109 apG (dig (max x.1.length x.2.1.length+1) (val x.1+val x.2.1))])
theorem Ep:SpK 173 FH:=spX λx h=>U4 x.1 x.2.1 (amj h)
def F3:dJ:=spN true false [apD,apD] (λx=>decide (oD x.1 x.2.1)) (λx=>[RV.new 109 apG (dig x.1.length (val x.1-val x.2.1))])
theorem El:SpK 174 F3:=spX λx h=>Vx x.1 x.2.1 (amj h)
def Gy:dJ:=spN true false [apD,apD] (λx=>decide (aN x.1/\aN x.2.1)) (λx=>[RV.new 109 apG (dig (x.1.length+x.2.1.length) (val x.1*val x.2.1))])
theorem ES:SpK 125 Gy:=spX λx h=>Ui x.1 x.2.1 (amj h)
def Rq:dJ:=spN false false [apD,apG] (λx=>decide (E8 x.1 x.2.1)) (λx=>[RV.d apD (dig x.1.length (val x.1/x.2.1)),RV.d apD ([val x.1%x.2.1])])
theorem Qh:SpK 232 Rq:=spX λx h=>UC x.1 x.2.1 (amj h)
def GQ:dJ:=spN true false [apD,apD] (λx=>decide (aN x.1/\aN x.2.1)) (λx=>[RV.d apE (bV (val x.1) (val x.2.1))])
theorem Ee:SpK 120 GQ:=spX λx h=>Uq x.1 x.2.1 (amj h)
def Mh:Env:=[(170,FL),(173,FH),(174,F3),(125,Gy),(232,Rq),(120,GQ)]
theorem Li:EnvAll Tryz.prog Mh:=⟨EA,Ep,El,ES,Qh,Ee,trivial⟩
def abv:NT:=[((171,34),{keep:=[6,7,8,9,10,11],hl:=6}),((171,49),{keep:=[6,7,8,9,10,11,13,14],hl:=6}),((233,8),{keep:=[0,1,2,7,8,14,15],hl:=6}),((234,5),{keep:=[0,1,4,8,9],hl:=6}),((171,68),{keep:=[6,7,8,9,10,11,13,151],hl:=0}),((171,72),{keep:=[6,7,8,9,10,11,13],hl:=0})]
def ge:Ctx:=CX Mh abv
def qi(b:List Int)(x2 s11:Int)(r5 r1:List Int):Cfg:=⟨171,[.blk 0,.seq 76],[(6,SI ((ae (val b).toNat).length:Int)),(7,.d apG (u32.wrap (u64.wrap (Int.tdiv 1000000000 (u64.wrap ((u64.wrap x2)+1)))))),(8,.own 1),(9,.d apD (ae (val (dig ((ae (val b).toNat).length+([u32.wrap (u64.wrap (Int.tdiv 1000000000 (u64.wrap ((u64.wrap x2)+1))))]).length) (val (ae (val b).toNat)*val ([u32.wrap (u64.wrap (Int.tdiv 1000000000 (u64.wrap ((u64.wrap x2)+1))))])))).toNat)),(10,.own 5),(11,SI s11)],[.row 109 apG ([u32.wrap (u64.wrap (Int.tdiv 1000000000 (u64.wrap ((u64.wrap x2)+1))))]),.row 109 apG r1,.row 109 apG ([0]),.row 109 apG ([u32.wrap (u64.wrap (Int.tdiv 1000000000 (u64.wrap ((u64.wrap x2)+1))))]),.gone,.row 109 apG r5],0,[]⟩
def nz(b:List Int)(x2 s11:Int)(r1 r5:List Int)(s13 s14:Int):Cfg:=⟨171,[.blk 2,.seq 66,.blk 1,.seq 75,.lp 34,.blk 0,.seq 76],[(6,SI ((ae (val b).toNat).length:Int)),(7,.d apG (u32.wrap (u64.wrap (Int.tdiv 1000000000 (u64.wrap ((u64.wrap x2)+1)))))),(8,.own 1),(9,.d apD (ae (val (dig ((ae (val b).toNat).length+([u32.wrap (u64.wrap (Int.tdiv 1000000000 (u64.wrap ((u64.wrap x2)+1))))]).length) (val (ae (val b).toNat)*val ([u32.wrap (u64.wrap (Int.tdiv 1000000000 (u64.wrap ((u64.wrap x2)+1))))])))).toNat)),(10,.own 5),(11,SI s11),(13,.d (.int .u64) s13),(14,.d (.int .u64) s14)],[.row 109 apG ([u32.wrap (u64.wrap (Int.tdiv 1000000000 (u64.wrap ((u64.wrap x2)+1))))]),.row 109 apG r1,.row 109 apG ([0]),.row 109 apG ([u32.wrap (u64.wrap (Int.tdiv 1000000000 (u64.wrap ((u64.wrap x2)+1))))]),.gone,.row 109 apG r5],0,[]⟩
def cU(b:List Int)(x2 s11:Int)(r5:List Int)(s233_2 f233_0_13 s233_7 s233_8 s233_15:Int)(r233_1:List Int):Cfg:=⟨233,[.blk 0,.seq 43],[(0,.osl 1 1 ((s11:Int).toNat) ((i64.wrap ((i64.wrap (s11+((ae (val b).toNat).length:Int)))+1):Int).toNat-(s11:Int).toNat)),(1,.d apD (ae (val (dig ((ae (val b).toNat).length+([u32.wrap (u64.wrap (Int.tdiv 1000000000 (u64.wrap ((u64.wrap x2)+1))))]).length) (val (ae (val b).toNat)*val ([u32.wrap (u64.wrap (Int.tdiv 1000000000 (u64.wrap ((u64.wrap x2)+1))))])))).toNat)),(2,.d (.int .u64) s233_2),(7,.d (.int .u64) s233_7),(8,.d (.int .u64) s233_8),(14,SI (((i64.wrap ((i64.wrap (s11+((ae (val b).toNat).length:Int)))+1):Int).toNat-(s11:Int).toNat:Nat):Int)),(15,SI s233_15)],[.row 109 apG ([u32.wrap (u64.wrap (Int.tdiv 1000000000 (u64.wrap ((u64.wrap x2)+1))))]),.row 109 apG r233_1,.row 109 apG ([0]),.row 109 apG ([u32.wrap (u64.wrap (Int.tdiv 1000000000 (u64.wrap ((u64.wrap x2)+1))))]),.gone,.row 109 apG r5],6,[⟨171,[.seq 69,.seq 74,.blk 1,.seq 75,.lp 34,.blk 0,.seq 76],68,9,[(6,SI ((ae (val b).toNat).length:Int)),(7,.d apG (u32.wrap (u64.wrap (Int.tdiv 1000000000 (u64.wrap ((u64.wrap x2)+1)))))),(8,.own 1),(9,.d apD (ae (val (dig ((ae (val b).toNat).length+([u32.wrap (u64.wrap (Int.tdiv 1000000000 (u64.wrap ((u64.wrap x2)+1))))]).length) (val (ae (val b).toNat)*val ([u32.wrap (u64.wrap (Int.tdiv 1000000000 (u64.wrap ((u64.wrap x2)+1))))])))).toNat)),(10,.own 5),(11,SI s11),(13,.d (.int .u64) f233_0_13)],0,none⟩]⟩
def dA(b:List Int)(x2 s11:Int)(r5:List Int)(f233_0_13 s234_4 s234_9:Int)(r234_1:List Int):Cfg:=⟨234,[.blk 0],[(0,.osl 1 1 ((s11:Int).toNat) ((i64.wrap ((i64.wrap (s11+((ae (val b).toNat).length:Int)))+1):Int).toNat-(s11:Int).toNat)),(1,.d apD (ae (val (dig ((ae (val b).toNat).length+([u32.wrap (u64.wrap (Int.tdiv 1000000000 (u64.wrap ((u64.wrap x2)+1))))]).length) (val (ae (val b).toNat)*val ([u32.wrap (u64.wrap (Int.tdiv 1000000000 (u64.wrap ((u64.wrap x2)+1))))])))).toNat)),(4,.d apG s234_4),(8,SI (((i64.wrap ((i64.wrap (s11+((ae (val b).toNat).length:Int)))+1):Int).toNat-(s11:Int).toNat:Nat):Int)),(9,SI s234_9)],[.row 109 apG ([u32.wrap (u64.wrap (Int.tdiv 1000000000 (u64.wrap ((u64.wrap x2)+1))))]),.row 109 apG r234_1,.row 109 apG ([0]),.row 109 apG ([u32.wrap (u64.wrap (Int.tdiv 1000000000 (u64.wrap ((u64.wrap x2)+1))))]),.gone,.row 109 apG r5],6,[⟨171,[.seq 74,.blk 1,.seq 75,.lp 34,.blk 0,.seq 76],72,8,[(6,SI ((ae (val b).toNat).length:Int)),(7,.d apG (u32.wrap (u64.wrap (Int.tdiv 1000000000 (u64.wrap ((u64.wrap x2)+1)))))),(8,.own 1),(9,.d apD (ae (val (dig ((ae (val b).toNat).length+([u32.wrap (u64.wrap (Int.tdiv 1000000000 (u64.wrap ((u64.wrap x2)+1))))]).length) (val (ae (val b).toNat)*val ([u32.wrap (u64.wrap (Int.tdiv 1000000000 (u64.wrap ((u64.wrap x2)+1))))])))).toNat)),(10,.own 5),(11,SI s11),(13,.d (.int .u64) (u64.wrap (f233_0_13-1)))],0,none⟩]⟩
def If(a b:List Int)(k:KT):OLR:=og (decide (aN a)) (og (decide (aN b)) (match((ae (val b).toNat).length:Int)==1 with|true=>(match aH (ae (val b).toNat) 0 with|some x1=>(og (decide (E8 (ae (val a).toNat) x1)) (some [RV.d apD (dig (ae (val a).toNat).length (val (ae (val a).toNat)/x1)),RV.d apD ([val (ae (val a).toNat)%x1])]))|none=>none)|false=>(og (decide (aN (ae (val a).toNat)/\aN (ae (val b).toNat))) (match decide ((bV (val (ae (val a).toNat)) (val (ae (val b).toNat)))<0)with|true=>(og (decide ((ae (val a).toNat).length*4<=140737488355328/\(ae (val a).toNat).length<=140737488355328)) (some [RV.d apD ([]),RV.d apD (ae (val a).toNat)]))|false=>(match aH (ae (val b).toNat) (i64.wrap (((ae (val b).toNat).length:Int)-1))with|some x2=>(match decide (u64.wrap ((u64.wrap x2)+1)=(0:Int))with|true=>none|false=>(og (decide (aN (ae (val a).toNat)/\aN ([u32.wrap (u64.wrap (Int.tdiv 1000000000 (u64.wrap ((u64.wrap x2)+1))))]))) (og (decide (((dig ((ae (val a).toNat).length+([u32.wrap (u64.wrap (Int.tdiv 1000000000 (u64.wrap ((u64.wrap x2)+1))))]).length) (val (ae (val a).toNat)*val ([u32.wrap (u64.wrap (Int.tdiv 1000000000 (u64.wrap ((u64.wrap x2)+1))))]))).length+([0]).length)*4<=140737488355328/\(dig ((ae (val a).toNat).length+([u32.wrap (u64.wrap (Int.tdiv 1000000000 (u64.wrap ((u64.wrap x2)+1))))]).length) (val (ae (val a).toNat)*val ([u32.wrap (u64.wrap (Int.tdiv 1000000000 (u64.wrap ((u64.wrap x2)+1))))]))).length+([0]).length<=140737488355328)) (og (decide (aN (ae (val b).toNat)/\aN ([u32.wrap (u64.wrap (Int.tdiv 1000000000 (u64.wrap ((u64.wrap x2)+1))))]))) (og (decide (aN (dig ((ae (val b).toNat).length+([u32.wrap (u64.wrap (Int.tdiv 1000000000 (u64.wrap ((u64.wrap x2)+1))))]).length) (val (ae (val b).toNat)*val ([u32.wrap (u64.wrap (Int.tdiv 1000000000 (u64.wrap ((u64.wrap x2)+1))))]))))) (og (decide ((0:Int)<=i64.wrap ((((dig ((ae (val a).toNat).length+([u32.wrap (u64.wrap (Int.tdiv 1000000000 (u64.wrap ((u64.wrap x2)+1))))]).length) (val (ae (val a).toNat)*val ([u32.wrap (u64.wrap (Int.tdiv 1000000000 (u64.wrap ((u64.wrap x2)+1))))])))++([0])).length:Int)-((ae (val b).toNat).length:Int))/\(i64.wrap ((((dig ((ae (val a).toNat).length+([u32.wrap (u64.wrap (Int.tdiv 1000000000 (u64.wrap ((u64.wrap x2)+1))))]).length) (val (ae (val a).toNat)*val ([u32.wrap (u64.wrap (Int.tdiv 1000000000 (u64.wrap ((u64.wrap x2)+1))))])))++([0])).length:Int)-((ae (val b).toNat).length:Int)))*((4:Nat):Int)<=140737488355328/\i64.wrap ((((dig ((ae (val a).toNat).length+([u32.wrap (u64.wrap (Int.tdiv 1000000000 (u64.wrap ((u64.wrap x2)+1))))]).length) (val (ae (val a).toNat)*val ([u32.wrap (u64.wrap (Int.tdiv 1000000000 (u64.wrap ((u64.wrap x2)+1))))])))++([0])).length:Int)-((ae (val b).toNat).length:Int))<=140737488355328)) (k 34 (qi b x2 (i64.wrap ((i64.wrap ((((dig ((ae (val a).toNat).length+([u32.wrap (u64.wrap (Int.tdiv 1000000000 (u64.wrap ((u64.wrap x2)+1))))]).length) (val (ae (val a).toNat)*val ([u32.wrap (u64.wrap (Int.tdiv 1000000000 (u64.wrap ((u64.wrap x2)+1))))])))++([0])).length:Int)-((ae (val b).toNat).length:Int)))-1)) (List.replicate (i64.wrap ((((dig ((ae (val a).toNat).length+([u32.wrap (u64.wrap (Int.tdiv 1000000000 (u64.wrap ((u64.wrap x2)+1))))]).length) (val (ae (val a).toNat)*val ([u32.wrap (u64.wrap (Int.tdiv 1000000000 (u64.wrap ((u64.wrap x2)+1))))])))++([0])).length:Int)-((ae (val b).toNat).length:Int))).toNat (0:Int)) ((dig ((ae (val a).toNat).length+([u32.wrap (u64.wrap (Int.tdiv 1000000000 (u64.wrap ((u64.wrap x2)+1))))]).length) (val (ae (val a).toNat)*val ([u32.wrap (u64.wrap (Int.tdiv 1000000000 (u64.wrap ((u64.wrap x2)+1))))])))++([0]))))))))))|none=>none)))))
theorem Sz(a b:List Int):RS ge 171 [.d apD a,.d apD b] (If a b):=rsX
def un(b:List Int)(x2 s11:Int)(r5 r1:List Int)(k:KT):OLR:=match decide (s11>=0)with|true=>(match aH r1 (i64.wrap (s11+((ae (val b).toNat).length:Int)))with|some _=>(match true,r1[(i64.wrap (s11+((ae (val b).toNat).length:Int))).toNat]? with|true,some x3=>(match aH r1 (i64.wrap ((i64.wrap (s11+((ae (val b).toNat).length:Int)))-1))with|some _=>(match true,r1[(i64.wrap ((i64.wrap (s11+((ae (val b).toNat).length:Int)))-1)).toNat]? with|true,some x4=>(match aH (ae (val (dig ((ae (val b).toNat).length+([u32.wrap (u64.wrap (Int.tdiv 1000000000 (u64.wrap ((u64.wrap x2)+1))))]).length) (val (ae (val b).toNat)*val ([u32.wrap (u64.wrap (Int.tdiv 1000000000 (u64.wrap ((u64.wrap x2)+1))))])))).toNat) (i64.wrap (((ae (val b).toNat).length:Int)-1))with|some x5=>(match decide (u64.wrap x5=(0:Int))with|true=>none|false=>(match aH (ae (val (dig ((ae (val b).toNat).length+([u32.wrap (u64.wrap (Int.tdiv 1000000000 (u64.wrap ((u64.wrap x2)+1))))]).length) (val (ae (val b).toNat)*val ([u32.wrap (u64.wrap (Int.tdiv 1000000000 (u64.wrap ((u64.wrap x2)+1))))])))).toNat) (i64.wrap (((ae (val b).toNat).length:Int)-1))with|some x6=>(match decide (u64.wrap x6=(0:Int))with|true=>none|false=>k 49 (nz b x2 s11 r1 r5 (u64.wrap (Int.tdiv (u64.wrap ((u64.wrap ((u64.wrap x3)*1000000000))+(u64.wrap x4))) (u64.wrap x5))) (Int.tmod (u64.wrap ((u64.wrap ((u64.wrap x3)*1000000000))+(u64.wrap x4))) (u64.wrap x6))))|none=>none))|none=>none)|_,_=>none)|none=>none)|_,_=>none)|none=>none)|false=>(og (decide ((0:Int)<=0/\0<=((ae (val b).toNat).length:Int)/\((ae (val b).toNat).length:Int)<=(r1.length:Int))) (og (decide (aN ((r1.drop ((0:Int).toNat)).take ((((ae (val b).toNat).length:Int):Int).toNat-(0:Int).toNat)))) (og (decide (E8 (ae (val ((r1.drop ((0:Int).toNat)).take ((((ae (val b).toNat).length:Int):Int).toNat-(0:Int).toNat))).toNat) (u32.wrap (u64.wrap (Int.tdiv 1000000000 (u64.wrap ((u64.wrap x2)+1))))))) (some [RV.d apD r5,RV.d apD (dig (ae (val ((r1.drop ((0:Int).toNat)).take ((((ae (val b).toNat).length:Int):Int).toNat-(0:Int).toNat))).toNat).length (val (ae (val ((r1.drop ((0:Int).toNat)).take ((((ae (val b).toNat).length:Int):Int).toNat-(0:Int).toNat))).toNat)/(u32.wrap (u64.wrap (Int.tdiv 1000000000 (u64.wrap ((u64.wrap x2)+1)))))))]))))
theorem AQ(b:List Int)(x2 s11:Int)(r5 r1:List Int):RN ge 34 (qi b x2 s11 r5 r1) (un b x2 s11 r5 r1):=rnX
def mU(b:List Int)(x2 s11:Int)(r1 r5:List Int)(s13 s14:Int)(k:KT):OLR:=match decide (s13>=1000000000)with|true=>(match aH (ae (val (dig ((ae (val b).toNat).length+([u32.wrap (u64.wrap (Int.tdiv 1000000000 (u64.wrap ((u64.wrap x2)+1))))]).length) (val (ae (val b).toNat)*val ([u32.wrap (u64.wrap (Int.tdiv 1000000000 (u64.wrap ((u64.wrap x2)+1))))])))).toNat) (i64.wrap (((ae (val b).toNat).length:Int)-1))with|some x7=>(match decide ((u64.wrap (s14+(u64.wrap x7)))>=1000000000)with|true=>(og (decide ((0:Int)<=s11/\s11<=i64.wrap ((i64.wrap (s11+((ae (val b).toNat).length:Int)))+1)/\i64.wrap ((i64.wrap (s11+((ae (val b).toNat).length:Int)))+1)<=(r1.length:Int))) (k 8 (cU b x2 s11 r5 (u64.wrap (s13-1)) (u64.wrap (s13-1)) 0 0 0 r1)))|false=>k 49 (nz b x2 s11 r1 r5 (u64.wrap (s13-1)) (u64.wrap (s14+(u64.wrap x7)))))|none=>none)|false=>(match aH (ae (val (dig ((ae (val b).toNat).length+([u32.wrap (u64.wrap (Int.tdiv 1000000000 (u64.wrap ((u64.wrap x2)+1))))]).length) (val (ae (val b).toNat)*val ([u32.wrap (u64.wrap (Int.tdiv 1000000000 (u64.wrap ((u64.wrap x2)+1))))])))).toNat) (i64.wrap (((ae (val b).toNat).length:Int)-2))with|some x8=>(match aH r1 (i64.wrap ((i64.wrap (s11+((ae (val b).toNat).length:Int)))-2))with|some _=>(match true,r1[(i64.wrap ((i64.wrap (s11+((ae (val b).toNat).length:Int)))-2)).toNat]? with|true,some x9=>(match decide ((u64.wrap (s13*(u64.wrap x8)))>(u64.wrap ((u64.wrap (s14*1000000000))+(u64.wrap x9))))with|true=>(match aH (ae (val (dig ((ae (val b).toNat).length+([u32.wrap (u64.wrap (Int.tdiv 1000000000 (u64.wrap ((u64.wrap x2)+1))))]).length) (val (ae (val b).toNat)*val ([u32.wrap (u64.wrap (Int.tdiv 1000000000 (u64.wrap ((u64.wrap x2)+1))))])))).toNat) (i64.wrap (((ae (val b).toNat).length:Int)-1))with|some x10=>(match decide ((u64.wrap (s14+(u64.wrap x10)))>=1000000000)with|true=>(og (decide ((0:Int)<=s11/\s11<=i64.wrap ((i64.wrap (s11+((ae (val b).toNat).length:Int)))+1)/\i64.wrap ((i64.wrap (s11+((ae (val b).toNat).length:Int)))+1)<=(r1.length:Int))) (k 8 (cU b x2 s11 r5 (u64.wrap (s13-1)) (u64.wrap (s13-1)) 0 0 0 r1)))|false=>k 49 (nz b x2 s11 r1 r5 (u64.wrap (s13-1)) (u64.wrap (s14+(u64.wrap x10)))))|none=>none)|false=>(og (decide ((0:Int)<=s11/\s11<=i64.wrap ((i64.wrap (s11+((ae (val b).toNat).length:Int)))+1)/\i64.wrap ((i64.wrap (s11+((ae (val b).toNat).length:Int)))+1)<=(r1.length:Int))) (k 8 (cU b x2 s11 r5 s13 s13 0 0 0 r1))))|_,_=>none)|none=>none)|none=>none)
theorem pW(b:List Int)(x2 s11:Int)(r1 r5:List Int)(s13 s14:Int):RN ge 49 (nz b x2 s11 r1 r5 s13 s14) (mU b x2 s11 r1 r5 s13 s14):=rnX
def dg(b:List Int)(x2 s11:Int)(r5:List Int)(s233_2 f233_0_13 s233_7 s233_8 s233_15:Int)(r233_1:List Int)(k:KT):OLR:=match decide (s233_15<(((i64.wrap ((i64.wrap (s11+((ae (val b).toNat).length:Int)))+1):Int).toNat-(s11:Int).toNat:Nat):Int))with|true=>(match decide (s233_15<((ae (val (dig ((ae (val b).toNat).length+([u32.wrap (u64.wrap (Int.tdiv 1000000000 (u64.wrap ((u64.wrap x2)+1))))]).length) (val (ae (val b).toNat)*val ([u32.wrap (u64.wrap (Int.tdiv 1000000000 (u64.wrap ((u64.wrap x2)+1))))])))).toNat).length:Int))with|true=>(match aH (ae (val (dig ((ae (val b).toNat).length+([u32.wrap (u64.wrap (Int.tdiv 1000000000 (u64.wrap ((u64.wrap x2)+1))))]).length) (val (ae (val b).toNat)*val ([u32.wrap (u64.wrap (Int.tdiv 1000000000 (u64.wrap ((u64.wrap x2)+1))))])))).toNat) s233_15 with|some x11=>(match true,decide ((0:Int)<=s233_15/\s233_15<(((i64.wrap ((i64.wrap (s11+((ae (val b).toNat).length:Int)))+1):Int).toNat-(s11:Int).toNat:Nat):Int))with|true,true=>(match true,r233_1[(s11:Int).toNat+(s233_15).toNat]? with|true,some x12=>(match decide ((u64.wrap x12)<(u64.wrap ((Int.tmod (u64.wrap (s233_7+(u64.wrap ((u64.wrap x11)*s233_2)))) 1000000000)+s233_8)))with|true=>(match true,decide ((0:Int)<=s233_15/\s233_15<(((i64.wrap ((i64.wrap (s11+((ae (val b).toNat).length:Int)))+1):Int).toNat-(s11:Int).toNat:Nat):Int))with|true,true=>(match true,r233_1[(s11:Int).toNat+(s233_15).toNat]? with|true,some _=>k 8 (cU b x2 s11 r5 s233_2 f233_0_13 (u64.wrap (Int.tdiv (u64.wrap (s233_7+(u64.wrap ((u64.wrap x11)*s233_2)))) 1000000000)) 1 (i64.wrap (s233_15+1)) (r233_1.set ((s11:Int).toNat+(s233_15).toNat) (u32.wrap (u64.wrap ((u64.wrap ((u64.wrap x12)+1000000000))-(u64.wrap ((Int.tmod (u64.wrap (s233_7+(u64.wrap ((u64.wrap x11)*s233_2)))) 1000000000)+s233_8)))))))|_,_=>none)|_,_=>none)|false=>(match true,decide ((0:Int)<=s233_15/\s233_15<(((i64.wrap ((i64.wrap (s11+((ae (val b).toNat).length:Int)))+1):Int).toNat-(s11:Int).toNat:Nat):Int))with|true,true=>(match true,r233_1[(s11:Int).toNat+(s233_15).toNat]? with|true,some _=>k 8 (cU b x2 s11 r5 s233_2 f233_0_13 (u64.wrap (Int.tdiv (u64.wrap (s233_7+(u64.wrap ((u64.wrap x11)*s233_2)))) 1000000000)) 0 (i64.wrap (s233_15+1)) (r233_1.set ((s11:Int).toNat+(s233_15).toNat) (u32.wrap (u64.wrap ((u64.wrap x12)-(u64.wrap ((Int.tmod (u64.wrap (s233_7+(u64.wrap ((u64.wrap x11)*s233_2)))) 1000000000)+s233_8)))))))|_,_=>none)|_,_=>none))|_,_=>none)|_,_=>none)|none=>none)|false=>(match true,decide ((0:Int)<=s233_15/\s233_15<(((i64.wrap ((i64.wrap (s11+((ae (val b).toNat).length:Int)))+1):Int).toNat-(s11:Int).toNat:Nat):Int))with|true,true=>(match true,r233_1[(s11:Int).toNat+(s233_15).toNat]? with|true,some x15=>(match decide ((u64.wrap x15)<(u64.wrap ((Int.tmod s233_7 1000000000)+s233_8)))with|true=>(match true,decide ((0:Int)<=s233_15/\s233_15<(((i64.wrap ((i64.wrap (s11+((ae (val b).toNat).length:Int)))+1):Int).toNat-(s11:Int).toNat:Nat):Int))with|true,true=>(match true,r233_1[(s11:Int).toNat+(s233_15).toNat]? with|true,some _=>k 8 (cU b x2 s11 r5 s233_2 f233_0_13 (u64.wrap (Int.tdiv s233_7 1000000000)) 1 (i64.wrap (s233_15+1)) (r233_1.set ((s11:Int).toNat+(s233_15).toNat) (u32.wrap (u64.wrap ((u64.wrap ((u64.wrap x15)+1000000000))-(u64.wrap ((Int.tmod s233_7 1000000000)+s233_8)))))))|_,_=>none)|_,_=>none)|false=>(match true,decide ((0:Int)<=s233_15/\s233_15<(((i64.wrap ((i64.wrap (s11+((ae (val b).toNat).length:Int)))+1):Int).toNat-(s11:Int).toNat:Nat):Int))with|true,true=>(match true,r233_1[(s11:Int).toNat+(s233_15).toNat]? with|true,some _=>k 8 (cU b x2 s11 r5 s233_2 f233_0_13 (u64.wrap (Int.tdiv s233_7 1000000000)) 0 (i64.wrap (s233_15+1)) (r233_1.set ((s11:Int).toNat+(s233_15).toNat) (u32.wrap (u64.wrap ((u64.wrap x15)-(u64.wrap ((Int.tmod s233_7 1000000000)+s233_8)))))))|_,_=>none)|_,_=>none))|_,_=>none)|_,_=>none))|false=>(match decide (s233_8>0)with|true=>(og (decide ((0:Int)<=s11/\s11<=i64.wrap ((i64.wrap (s11+((ae (val b).toNat).length:Int)))+1)/\i64.wrap ((i64.wrap (s11+((ae (val b).toNat).length:Int)))+1)<=(r233_1.length:Int))) (k 5 (dA b x2 s11 r5 f233_0_13 0 0 r233_1)))|false=>(match decide (s233_7>0)with|true=>(og (decide ((0:Int)<=s11/\s11<=i64.wrap ((i64.wrap (s11+((ae (val b).toNat).length:Int)))+1)/\i64.wrap ((i64.wrap (s11+((ae (val b).toNat).length:Int)))+1)<=(r233_1.length:Int))) (k 5 (dA b x2 s11 r5 f233_0_13 0 0 r233_1)))|false=>(match aH r5 s11 with|some _=>(match true,r5[(s11).toNat]? with|true,some _=>k 34 (qi b x2 (i64.wrap (s11-1)) (r5.set ((s11).toNat) (u32.wrap f233_0_13)) r233_1)|_,_=>none)|none=>none)))
theorem fp(b:List Int)(x2 s11:Int)(r5:List Int)(s233_2 f233_0_13 s233_7 s233_8 s233_15:Int)(r233_1:List Int):RN ge 8 (cU b x2 s11 r5 s233_2 f233_0_13 s233_7 s233_8 s233_15 r233_1) (dg b x2 s11 r5 s233_2 f233_0_13 s233_7 s233_8 s233_15 r233_1):=rnX
def d7(b:List Int)(x2 s11:Int)(r5:List Int)(f233_0_13 s234_4 s234_9:Int)(r234_1:List Int)(k:KT):OLR:=match decide (s234_9<(((i64.wrap ((i64.wrap (s11+((ae (val b).toNat).length:Int)))+1):Int).toNat-(s11:Int).toNat:Nat):Int))with|true=>(match true,decide ((0:Int)<=s234_9/\s234_9<(((i64.wrap ((i64.wrap (s11+((ae (val b).toNat).length:Int)))+1):Int).toNat-(s11:Int).toNat:Nat):Int))with|true,true=>(match true,r234_1[(s11:Int).toNat+(s234_9).toNat]? with|true,some x19=>(match decide (s234_9<((ae (val (dig ((ae (val b).toNat).length+([u32.wrap (u64.wrap (Int.tdiv 1000000000 (u64.wrap ((u64.wrap x2)+1))))]).length) (val (ae (val b).toNat)*val ([u32.wrap (u64.wrap (Int.tdiv 1000000000 (u64.wrap ((u64.wrap x2)+1))))])))).toNat).length:Int))with|true=>(match aH (ae (val (dig ((ae (val b).toNat).length+([u32.wrap (u64.wrap (Int.tdiv 1000000000 (u64.wrap ((u64.wrap x2)+1))))]).length) (val (ae (val b).toNat)*val ([u32.wrap (u64.wrap (Int.tdiv 1000000000 (u64.wrap ((u64.wrap x2)+1))))])))).toNat) s234_9 with|some x20=>(match decide ((u32.wrap ((u32.wrap (x19+s234_4))+x20))>=1000000000)with|true=>(match true,decide ((0:Int)<=s234_9/\s234_9<(((i64.wrap ((i64.wrap (s11+((ae (val b).toNat).length:Int)))+1):Int).toNat-(s11:Int).toNat:Nat):Int))with|true,true=>(match true,r234_1[(s11:Int).toNat+(s234_9).toNat]? with|true,some _=>k 5 (dA b x2 s11 r5 f233_0_13 1 (i64.wrap (s234_9+1)) (r234_1.set ((s11:Int).toNat+(s234_9).toNat) (u32.wrap ((u32.wrap ((u32.wrap (x19+s234_4))+x20))-1000000000))))|_,_=>none)|_,_=>none)|false=>(match true,decide ((0:Int)<=s234_9/\s234_9<(((i64.wrap ((i64.wrap (s11+((ae (val b).toNat).length:Int)))+1):Int).toNat-(s11:Int).toNat:Nat):Int))with|true,true=>(match true,r234_1[(s11:Int).toNat+(s234_9).toNat]? with|true,some _=>k 5 (dA b x2 s11 r5 f233_0_13 0 (i64.wrap (s234_9+1)) (r234_1.set ((s11:Int).toNat+(s234_9).toNat) (u32.wrap ((u32.wrap (x19+s234_4))+x20))))|_,_=>none)|_,_=>none))|none=>none)|false=>(match decide ((u32.wrap (x19+s234_4))>=1000000000)with|true=>(match true,decide ((0:Int)<=s234_9/\s234_9<(((i64.wrap ((i64.wrap (s11+((ae (val b).toNat).length:Int)))+1):Int).toNat-(s11:Int).toNat:Nat):Int))with|true,true=>(match true,r234_1[(s11:Int).toNat+(s234_9).toNat]? with|true,some _=>k 5 (dA b x2 s11 r5 f233_0_13 1 (i64.wrap (s234_9+1)) (r234_1.set ((s11:Int).toNat+(s234_9).toNat) (u32.wrap ((u32.wrap (x19+s234_4))-1000000000))))|_,_=>none)|_,_=>none)|false=>(match true,decide ((0:Int)<=s234_9/\s234_9<(((i64.wrap ((i64.wrap (s11+((ae (val b).toNat).length:Int)))+1):Int).toNat-(s11:Int).toNat:Nat):Int))with|true,true=>(match true,r234_1[(s11:Int).toNat+(s234_9).toNat]? with|true,some _=>k 5 (dA b x2 s11 r5 f233_0_13 0 (i64.wrap (s234_9+1)) (r234_1.set ((s11:Int).toNat+(s234_9).toNat) (u32.wrap (x19+s234_4))))|_,_=>none)|_,_=>none)))|_,_=>none)|_,_=>none)|false=>(match aH r5 s11 with|some _=>(match true,r5[(s11).toNat]? with|true,some _=>k 34 (qi b x2 (i64.wrap (s11-1)) (r5.set ((s11).toNat) (u32.wrap (u64.wrap (f233_0_13-1)))) r234_1)|_,_=>none)|none=>none)
theorem fx(b:List Int)(x2 s11:Int)(r5:List Int)(f233_0_13 s234_4 s234_9:Int)(r234_1:List Int):RN ge 5 (dA b x2 s11 r5 f233_0_13 s234_4 s234_9 r234_1) (d7 b x2 s11 r5 f233_0_13 s234_4 s234_9 r234_1):=rnX
section
theorem LW{x:Int}(h1:1<=x)(h2:x<1000000000):1<=1000000000/(x+1)/\1000000000/(x+1)<=500000000/\(x+1)*(1000000000/(x+1))<=1000000000/\500000000<=x*(1000000000/(x+1)):=by
 have m0:=ans 1000000000 (show x+1≠0 by omega);have m1:=am4 1000000000 (show 0<x+1 by omega);have md:=am3 1000000000 (x+1);have d1:1<=1000000000/(x+1):=Int.le_ediv_of_mul_le (by omega) (by omega)
 have d2:1000000000/(x+1)<=500000000:=by
  have:1000000000/(x+1)<500000001:=anL (by omega) (by omega);omega
 generalize 1000000000/(x+1)=d at*
 refine⟨d1,d2,by omega,?_⟩;rcases amM x 500000000 with hx|hx
 ·rcases amM (x*d) 500000000 with hd|hd
  ·exfalso;have e2:(x+1)*d>=1000000000-x:=by omega
   have e3:(x+1)*(x*d)<=(x+1)*499999999:=amo (by omega) (by omega);have e4:x*(1000000000-x)<=x*((x+1)*d):=amo e2 (by omega);have e5:0<=(x-1)*(500000000-x):=anc (by omega) (by omega);grind
  omega
 ·have:=aox hx d1 (by decide) (by omega);omega
structure Kn (w V u2 u1 u0 v1 v0:Int):Prop where
 P:∃P wl vl:Int,0<P/\0<=wl/\wl<P/\0<=vl/\vl<P/\w=wl+P*(u0+1000000000*u1+1000000000*1000000000*u2)/\V=vl+P*(v0+1000000000*v1)
 u2:0<=u2/\u2<1000000000
 u1:0<=u1/\u1<1000000000
 u0:0<=u0/\u0<1000000000
 v1:500000000<=v1/\v1<1000000000
 v0:0<=v0/\v0<1000000000
 lt:w<V*1000000000
section
variable {w V u2 u1 u0 v1 v0:Int} (h:Kn w V u2 u1 u0 v1 v0)
include h
theorem Kn.top:u2<=v1:=by
 obtain⟨⟨P,wl,vl,p0,a1,a2,b1,b2,hw,hV⟩,⟨x1,x2⟩,⟨x3,x4⟩,⟨x5,x6⟩,⟨y1,y2⟩,⟨y3,y4⟩,hlt⟩:=h;rcases amM v1 u2 with hc|hc
 ·have e1:P*(1000000000*1000000000*(v1+1))<=P*(u0+1000000000*u1+1000000000*1000000000*u2):=amo (by omega) (by omega);have e2:P*(v0+1000000000*v1)<=P*(999999999+1000000000*v1):=amo (by omega) (by omega);grind
 omega
theorem Kn.pos:0<V:=by
 obtain⟨⟨P,wl,vl,p0,a1,a2,b1,b2,hw,hV⟩,⟨x1,x2⟩,⟨x3,x4⟩,⟨x5,x6⟩,⟨y1,y2⟩,⟨y3,y4⟩,hlt⟩:=h;have:=Int.mul_pos p0 (show 0<v0+1000000000*v1 by omega);omega
theorem Kn.great{g rest:Int}(hg:0<=g)(he:g*v1+rest=u2*1000000000+u1)(hc:rest*1000000000+u0<g*v0):w<g*V:=by
 obtain⟨⟨P,wl,vl,p0,a1,a2,b1,b2,hw,hV⟩,⟨x1,x2⟩,⟨x3,x4⟩,⟨x5,x6⟩,⟨y1,y2⟩,⟨y3,y4⟩,hlt⟩:=h;have e1:g*V=g*vl+P*(g*v0+1000000000*(g*v1)):=by rw[hV];grind
 have e2:0<=g*vl:=anc hg b1;have e3:P*(u0+1000000000*u1+1000000000*1000000000*u2+1)<=P*(g*v0+1000000000*(g*v1)):=amo (by omega) (by omega);grind
theorem Kn.small{g rest:Int}(_hg:0<=g)(hgB:g<=1000000000)(he:g*v1+rest=u2*1000000000+u1)(hc:g*v0<=rest*1000000000+u0):g*V<w+V:=by
 obtain⟨⟨P,wl,vl,p0,a1,a2,b1,b2,hw,hV⟩,⟨x1,x2⟩,⟨x3,x4⟩,⟨x5,x6⟩,⟨y1,y2⟩,⟨y3,y4⟩,hlt⟩:=h;have e1:g*V=g*vl+P*(g*v0+1000000000*(g*v1)):=by rw[hV];grind
 have e2:g*vl<=1000000000*P:=aox hgB (by omega) b1 (by decide);have e3:P*(g*v0+1000000000*(g*v1))<=P*(u0+1000000000*u1+1000000000*1000000000*u2):=amo (by omega) (by omega);have e4:P*(1000000000*500000000)<=P*(v0+1000000000*v1):=amo (by omega) (by omega);omega
theorem Kn.first{g:Int}(hg:g=(u2*1000000000+u1)/v1):w<(g+1)*V:=by
 obtain⟨⟨P,wl,vl,p0,a1,a2,b1,b2,hw,hV⟩,⟨x1,x2⟩,⟨x3,x4⟩,⟨x5,x6⟩,⟨y1,y2⟩,⟨y3,y4⟩,hlt⟩:=h;have m1:=am4 (u2*1000000000+u1) (show 0<v1 by omega);have md:=am3 (u2*1000000000+u1) v1;rw[<-hg]at md;have g0:0<=g:=by rw[hg];exact anh (by omega) (by omega)
 have e1:(g+1)*V=(g+1)*vl+P*((g+1)*v0+1000000000*((g+1)*v1)):=by rw[hV];grind
 have e2:0<=(g+1)*vl:=anc (by omega) b1;have e3:0<=(g+1)*v0:=anc (by omega) y3;have e4:(g+1)*v1=v1*g+v1:=by grind
 have e5:P*(1000000000*(u2*1000000000+u1+1))<=P*((g+1)*v0+1000000000*((g+1)*v1)):=amo (by omega) (by omega)
 have e6:P*(u0+1000000000*u1+1000000000*1000000000*u2)+P<=P*(1000000000*(u2*1000000000+u1+1)):=by
  have:P*(u0+1000000000*u1+1000000000*1000000000*u2+1)<=P*(1000000000*(u2*1000000000+u1+1)):=amo (by omega) (by omega);grind
 omega
end
theorem D7{l:List Int}{m:Nat}(h:l.length=m+2):val l=val (l.take m)+pw m*(l[m]+1000000000*l[m+1]):=by grind [bg,bW]
theorem MA{l:List Int}{m:Nat}(h:l.length=m+3):val l=val (l.take m)+pw m*(l[m]+1000000000*l[m+1]+1000000000*1000000000*l[m+2]):=by grind [bg,bW]
def win(k n:Nat)(r:List Int):Int:=val ((r.drop k).take (n+1))
theorem H6{k n:Nat}{r:List Int}(h:k+n+1<=r.length)(hz:val (r.drop (k+n+1))=0):val r=val (r.take k)+pw k*win k n r:=by
 have h1:=fH r k;have h2:=fH (r.drop k) (n+1);grind [apq,win]
theorem OP{k n:Nat}{r:List Int}(hl:Lim r)(h:k+n+1<=r.length):0<=win k n r/\win k n r<pw (n+1):=by
 have h1:=(hl.drop k).take (n+1);have h2:=bU h1;rw[amV,aoH,amZ (by omega)]at h2;exact⟨aL h1,h2⟩
theorem ah8{v r:List Int}{k m:Nat}(hv:Lim v)(hvl:v.length=m+2)(hr:Lim r)(hk:k+m+3<=r.length)(htop:500000000<=v[m+1])(hlt:win k (m+2) r<val v*1000000000):
  Kn (win k (m+2) r) (val v) r[k+m+2] r[k+m+1] r[k+m] v[m+1] v[m]:=by
 have hwl:((r.drop k).take (m+2+1)).length=m+3:=by rw[amV,aoH];omega
 have h3:=MA hwl;have h2:=D7 hvl;have hl1:=(hr.drop k).take (m+2+1);have g:∀j (hj:j<m+3),((r.drop k).take (m+2+1))[j]=r[k+j]:=λj hj=>by simp
 rw[g m (by omega),g (m+1) (by omega),g (m+2) (by omega)]at h3;have t1:=hl1.take m;have t2:=hv.take m;have b1:=bU t1;have b2:=bU t2;rw[amV,amZ (by omega)]at b1 b2;exact⟨⟨pw m,_,_,cg m,aL t1,b1,aL t2,b2,h3,h2⟩,hr.get (by omega),hr.get (by omega),hr.get (by omega),⟨htop,(hv.get (by omega)).2⟩,hv.get (by omega),hlt⟩
end
section
theorem vH{r:List Int}{k i:Nat}(y:Int):(r.set (k+i) y).take k=r.take k:=List.take_set_of_le (by omega)
theorem vE{r:List Int}{k i n:Nat}(y:Int)(h:i<=n):(r.set (k+i) y).drop (k+n+1)=r.drop (k+n+1):=List.drop_set_of_lt (by omega)
section
variable (b:List Int) (x2:Int) (v:List Int) (m:Nat) (hN:(ae (val b).toNat).length=m+2) (hv:ae (val (dig ((ae (val b).toNat).length+([u32.wrap (u64.wrap (Int.tdiv 1000000000 (u64.wrap ((u64.wrap x2)+1))))]).length) (val (ae (val b).toNat)*val ([u32.wrap (u64.wrap (Int.tdiv 1000000000 (u64.wrap ((u64.wrap x2)+1))))])))).toNat=v) (lv:Lim v) (hvl:v.length=m+2)
include hN hv lv hvl
theorem Ow(k:Nat)(r0 r5:List Int)(g:Int)(hg:0<=g/\g<1000000000)(hk:k+(m+2)+1<=r0.length)(hsz:r0.length<=4000000000)(R:List RV)
  (hno:∀r,Lim r->r.length=r0.length->r.take k=r0.take k->r.drop (k+(m+2)+1)=r0.drop (k+(m+2)+1)->val r=val r0-pw k*(g*val v)->∃q,dg b x2 (k:Int) r5 g g 0 0 ((m+2+1:Nat):Int) r (ge.k q)=some R)
  (hyes:∀r,Lim r->r.length=r0.length->r.take k=r0.take k->r.drop (k+(m+2)+1)=r0.drop (k+(m+2)+1)->val r=val r0-pw k*(g*val v)+pw (k+(m+2)+1)->∃q,dg b x2 (k:Int) r5 g g 0 1 ((m+2+1:Nat):Int) r (ge.k q)=some R):
  ∀(j i:Nat) (c bo:Int) (r:List Int),i+j=m+2+1->0<=c->c<1000000000->(i=m+2+1->c=0)->0<=bo->bo<=1->Lim r->r.length=r0.length->r.take k=r0.take k->r.drop (k+(m+2)+1)=r0.drop (k+(m+2)+1)->
   val r=val r0-pw k*(g*val (v.take i))+pw (k+i)*(c+bo)->ge.Runs 8 (cU b x2 (k:Int) r5 g g c bo (i:Int) r) R:=by
 have e1:i64.wrap ((k:Int)+((m+2:Nat):Int))=((k+(m+2):Nat):Int):=by rw[aO (by omega) (by omega)];simp
 have e2:i64.wrap (((k+(m+2):Nat):Int)+1)=((k+(m+2)+1:Nat):Int):=aT (by omega);have e3:k+(m+2)+1-k=m+2+1:=by omega
 intro j;induction j with
 |zero=>
  intro i c bo r hi c0 c1 hc b0 b1 lr hl ht hd hval;obtain rfl:i=m+2+1:=by omega
  obtain rfl:=hc rfl;rw[anj (by omega)]at hval;refine fp _ _ _ _ _ _ _ _ _ _ ?_;rcases(show bo=0\/bo=1 by omega)with rfl|rfl
  ·exact hno r lr hl ht hd (by rw[hval];simp)
  ·exact hyes r lr hl ht hd (by rw[hval];simp;rfl)
 |succ j ih=>
  intro i c bo r hi c0 c1 hc b0 b1 lr hl ht hd hval;have hir:k+i<r.length:=by omega
  have xr:=lr.get hir;have hwi:decide ((0:Int)<=(i:Int)/\(i:Int)<((m+2+1:Nat):Int))=true:=amh (by omega);have hlt:decide ((i:Int)<((m+2+1:Nat):Int))=true:=amh (by omega);have hw:=hv
  have step:∀(c' y bo':Int),0<=c'->c'<1000000000->(i+1=m+2+1->c'=0)->0<=y->y<1000000000->0<=bo'->bo'<=1->y=r[k+i]-(val (v.take (i+1))-val (v.take i))/pw i*g-c+1000000000*c'-bo+1000000000*bo'->pw i*((val (v.take (i+1))-val (v.take i))/pw i)=val (v.take (i+1))-val (v.take i)->
    ge.Runs 8 (cU b x2 (k:Int) r5 g g c' bo' ((i+1:Nat):Int) (r.set (k+i) y)) R:=by
   intro c' y bo' k0 k1 kc y0 y1 k2 k3 hy hp;refine ih (i+1) c' bo' (r.set (k+i) y) (by omega) k0 k1 kc k2 k3 (lr.set _ ⟨y0,y1⟩) (by simpa using hl) (by rw[vH];exact ht) (by rw[vE _ (by omega)];exact hd) ?_;rw[eV hir,hval,hy,show k+(i+1)=k+i+1 by omega,bW,fc];generalize (val (v.take (i+1))-val (v.take i))/pw i=d at*
   have:val (v.take (i+1))=val (v.take i)+pw i*d:=by omega
   rw[this];grind
  by_cases hiv:i<m+2
  ·have hiv':i<v.length:=by omega
   have xv:=lv.get hiv'
   have hdv:(val (v.take (i+1))-val (v.take i))/pw i=v[i]:=by
    rw[bg hiv',show val (v.take i)+pw i*v[i]-val (v.take i)=pw i*v[i] by omega,aoA _ (by have:=cg i;omega)]
   rw[hdv]at step;have hbd:=Gf (r:=0) (by decide) xv hg ⟨c0,c1⟩;have t0:0<=c+v[i]*g:=by omega
   have q0:0<=(c+v[i]*g)/1000000000/\(c+v[i]*g)/1000000000<1000000000:=by omega
   have hpv:pw i*v[i]=val (v.take (i+1))-val (v.take i):=by rw[bg hiv'];omega
   by_cases hc2:r[k+i]<(c+v[i]*g)%1000000000+bo
   ·obtain⟨q,hq⟩:=step ((c+v[i]*g)/1000000000) (r[k+i]+1000000000-((c+v[i]*g)%1000000000+bo)) 1 q0.1 q0.2 (by omega) (by omega) (by omega) (by omega) (by omega) (by omega) hpv;refine fp _ _ _ _ _ _ _ _ _ _ ⟨q,?_⟩;unfold dg;rw[hw,hN,e1,e2,aC,aC,e3,hlt,hwi,hvl,aK hiv,ai v i,amg hiv',aC,amg hir];dsimp only
    rw[bH (x:=v[i]) (by omega) (by omega),bH (x:=v[i]*g) (by omega) (by omega),bH (x:=c+v[i]*g) (by omega) (by omega),ju t0,gC t0,bH (x:=(c+v[i]*g)/1000000000) (by omega) (by omega),bH (x:=(c+v[i]*g)%1000000000+bo) (by omega) (by omega),bH (x:=r[k+i]) (by omega) (by omega),amh hc2,
     bH (x:=r[k+i]+1000000000) (by omega) (by omega),bH (x:=r[k+i]+1000000000-((c+v[i]*g)%1000000000+bo)) (by omega) (by omega),cY (x:=r[k+i]+1000000000-((c+v[i]*g)%1000000000+bo)) (by omega) (by omega),aT (k:=i) (by omega)]
    exact hq
   ·obtain⟨q,hq⟩:=step ((c+v[i]*g)/1000000000) (r[k+i]-((c+v[i]*g)%1000000000+bo)) 0 q0.1 q0.2 (by omega) (by omega) (by omega) (by omega) (by omega) (by omega) hpv;refine fp _ _ _ _ _ _ _ _ _ _ ⟨q,?_⟩;unfold dg;rw[hw,hN,e1,e2,aC,aC,e3,hlt,hwi,hvl,aK hiv,ai v i,amg hiv',aC,amg hir];dsimp only
    rw[bH (x:=v[i]) (by omega) (by omega),bH (x:=v[i]*g) (by omega) (by omega),bH (x:=c+v[i]*g) (by omega) (by omega),ju t0,gC t0,bH (x:=(c+v[i]*g)/1000000000) (by omega) (by omega),bH (x:=(c+v[i]*g)%1000000000+bo) (by omega) (by omega),bH (x:=r[k+i]) (by omega) (by omega),ami hc2,
     bH (x:=r[k+i]-((c+v[i]*g)%1000000000+bo)) (by omega) (by omega),cY (x:=r[k+i]-((c+v[i]*g)%1000000000+bo)) (by omega) (by omega),aT (k:=i) (by omega)]
    exact hq
  ·have hpz:val (v.take (i+1))-val (v.take i)=0:=by rw[kq (by omega)];omega
   rw[hpz]at step;simp only[Int.zero_ediv,Int.zero_mul,aoX,Int.sub_zero,forall_const]at step;have m0:c%1000000000=c:=by omega
   have d0:c/1000000000=0:=by omega
   by_cases hc2:r[k+i]<c+bo
   ·obtain⟨q,hq⟩:=step 0 (r[k+i]+1000000000-(c+bo)) 1 (by omega) (by omega) (by omega) (by omega) (by omega) (by omega) (by omega) (by omega);refine fp _ _ _ _ _ _ _ _ _ _ ⟨q,?_⟩;unfold dg;rw[hw,hN,e1,e2,aC,aC,e3,hlt,hwi,hvl,aX (show m+2<=i by omega),aC,amg hir];dsimp only
    rw[ju c0,gC c0,m0,d0,bH (x:=0) (by omega) (by omega),bH (x:=c+bo) (by omega) (by omega),bH (x:=r[k+i]) (by omega) (by omega),amh hc2,
     bH (x:=r[k+i]+1000000000) (by omega) (by omega),bH (x:=r[k+i]+1000000000-(c+bo)) (by omega) (by omega),cY (x:=r[k+i]+1000000000-(c+bo)) (by omega) (by omega),aT (k:=i) (by omega)]
    exact hq
   ·obtain⟨q,hq⟩:=step 0 (r[k+i]-(c+bo)) 0 (by omega) (by omega) (by omega) (by omega) (by omega) (by omega) (by omega) (by omega);refine fp _ _ _ _ _ _ _ _ _ _ ⟨q,?_⟩;unfold dg;rw[hw,hN,e1,e2,aC,aC,e3,hlt,hwi,hvl,aX (show m+2<=i by omega),aC,amg hir];dsimp only
    rw[ju c0,gC c0,m0,d0,bH (x:=0) (by omega) (by omega),bH (x:=c+bo) (by omega) (by omega),bH (x:=r[k+i]) (by omega) (by omega),ami hc2,
     bH (x:=r[k+i]-(c+bo)) (by omega) (by omega),cY (x:=r[k+i]-(c+bo)) (by omega) (by omega),aT (k:=i) (by omega)]
    exact hq
end
end
end Go.Proofs.YtmnlppieefomnaaGreatDoor
end
