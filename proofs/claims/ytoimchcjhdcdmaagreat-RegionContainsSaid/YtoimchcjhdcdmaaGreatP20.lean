/- Arguments of a law as data; the last step of a law's row. -/
import Derived.Test.YtoimchcjhdcdmaaGreatP19
import Derived.Test.YtoimchcjhdcdmaaGreatP7
import Derived.ProofKit
import Derived.OpenShut
import Derived.ChangeSame
import Derived.Deep.Slices
import Derived.Test.YtoimchcjhdcdmaaGreatP16
import Derived.Test.YtoimchcjhdcdmaaGreatP15
import Derived.Test.YtoimchcjhdcdmaaGreatP17
import Derived.Test.YtoimchcjhdcdmaaGreatP14
noncomputable section
namespace Go.Proofs.YtoimchcjhdcdmaaGreat
open Go.RowKit Go.IntKind
open Bool renaming true->T',false->F'
open Option renaming some->S',none->N'
open Decidable renaming decide->D'
theorem aqF:type_of% @List.reverse_perm:=@List.reverse_perm
theorem aqJ:type_of% @List.Perm.refl:=@List.Perm.refl
section
open Go.ChangeShapes Go.WideShapes Go.ChangeAt Go.WideMaps Go.WideElems Go.RowKit
theorem Q3:ownKnob Tryz.prog.godebug=none:=by kernel_rfl
def Ty.ok:(t:Ty)->t.D->Prop
 |.int k,x=>(Lit.int k x).wf=true
 |.bool,_=>True
 |.str,_=>True
 |.sl e,xs=>xs.length<=9223372036854775807/\∀x∈xs,e.ok x
 |.pair a b,x=>a.ok x.1/\b.ok x.2
 |.st a,x=>a.ok x
def zS(rp:TypeId->Ty->Bool)(cells:TypeId->Nat):List Field->Ty->Nat->Bool
 |[],_,_=>false
 |[f],a,off=>rp f.type a&&Nat.beq f.offset off&&Nat.beq (cells f.type) a.n
 |f::g::fs,.pair a b,off=>rp f.type a&&Nat.beq f.offset off&&Nat.beq (cells f.type) a.n&&zS rp cells (g::fs) b (off+a.n)
 |_,_,_=>false
def Hu(rp:Ty->Bool)(n:Nat):Nat->Ty->Bool
 |0,_=>false
 |1,a=>rp a&&Nat.beq a.n n
 |k+2,.pair a b=>rp a&&Nat.beq a.n n&&Hu rp n (k+1) b
 |_,_=>false
def rep(P:Program):Nat->TypeId->Ty->Bool
 |0,_,_=>false
 |n+1,t,ty=>match P.underlying t,ty with
  |some (.int k),.int k'=>decide (k=k')
  |some .bool,.bool=>true
  |some .string,.str=>true
  |some (.slice e),.sl ety=>rep P n e ety&&Nat.beq (P.cellsOf e) ety.n&&Nat.ble 1 ety.n
  |some (.struct fs),.st a=>zS (rep P n) P.cellsOf fs.toList a 0&&Nat.beq (P.cellsOf t) a.n
  |some (.array k e),.st a=>Hu (rep P n e) (P.cellsOf e) k a&&Nat.beq (P.cellsOf t) a.n
  |_,_=>false
theorem U9{w:World}{a:Addr}{v:Value}(h:w.cell? a=S' v):a.block<w.heap.size/\a.spot=none:=by
 unfold World.cell? at h;split at h
 ·rename_i hb;refine⟨(an7.1 hb).1,?_⟩;simp_all
 grind
theorem E6{α β:Type}{f:α->Option β}:∀{l:List α} {r:List β},l.mapM f=S' r->r.length=l.length/\∀(j:Nat) (y:β),r[j]?=S' y->∃x,l[j]?=S' x/\f x=S' y
 |[],r,h=>by simp at h;subst h;simp
 |x::l,r,h=>by
  rw[List.mapM_cons]at h;cases hx:f x with
  |none=>rw[hx]at h;simp at h
  |some y=>
   rw[hx]at h;cases hl:l.mapM f with
   |none=>rw[hl]at h;simp at h
   |some r'=>
    rw[hl]at h;obtain rfl:y::r'=r:=by simpa using h
    obtain⟨h1,h2⟩:=E6 hl;refine⟨by simp[h1],λj z hz=>?_⟩;cases j with
    |zero=>exact⟨x,rfl,by simpa [hx]using hz⟩
    |succ j=>obtain⟨u,h3,h4⟩:=h2 j z (by simpa using hz);exact⟨u,by simpa using h3,h4⟩
theorem Md{w:World}{base n:Nat}{a:Addr}{l:List Value}(h:w.cells? base a n=S' l):l.length=n/\∀(j:Nat) (v:Value),l[j]?=S' v->w.cell? (a.add j)=S' v:=by
 unfold World.cells? at h;split at h
 ·obtain⟨h1,h2⟩:=E6 h;grind
 grind
theorem S8{α β:Type}{n:Nat}{p:Nat->α->β->Prop}(h:∀i,i<n->∃s t,p i s t):∃(l:List α) (m:List β),l.length=n/\m.length=n/\∀i s t,l[i]?=S' s->m[i]?=S' t->p i s t:=by
 induction n with
 |zero=>exact⟨[],[],rfl,rfl,λi s t h=>by simp at h⟩
 |succ n ih=>
  obtain⟨l,m,h1,h2,h3⟩:=ih λi hi=>h i (by omega);obtain⟨s,t,hst⟩:=h n (by omega);refine⟨l++[s],m++[t],by simp[h1],by simp[h2],λi s' t' hs ht=>?_⟩;grind
section
variable {H:Type} {enc:TypeId×Value->H} {P:Program} {w:World} {base:Nat} {spare:Nat->Bool} {held:Bool}
def R1(enc:TypeId×Value->H)(P:Program)(w:World)(base:Nat)(spare:Nat->Bool)(held:Bool)(ty:Ty):Prop:=∀(n:Nat) (t:TypeId),rep P n t ty=T'->∀(fuel:Nat) (cs:List Value) (x:DataW H×List MemPlace),cs.length=ty.n->DataW.trod enc P w base spare held fuel t cs=S' x->∃y:ty.D,ty.rd (λ_=>True) w cs y/\ty.ok y
def R2(enc:TypeId×Value->H)(P:Program)(w:World)(base:Nat)(spare:Nat->Bool)(held:Bool)(ty:Ty):Prop:=∀(n:Nat) (fs:List Field) (off:Nat) (cs:List Value),zS (rep P n) P.cellsOf fs ty off=T'->cs.length=ty.n->(∀f∈fs,off<=f.offset->∃fuel x,DataW.trod enc P w base spare held fuel f.type ((cs.drop (f.offset-off)).take (P.cellsOf f.type))=S' x)->∃y:ty.D,ty.rd (λ_=>True) w cs y/\ty.ok y
def R3(enc:TypeId×Value->H)(P:Program)(w:World)(base:Nat)(spare:Nat->Bool)(held:Bool)(ty:Ty):Prop:=∀(n k:Nat) (e:TypeId) (cs:List Value),Hu (rep P n e) (P.cellsOf e) k ty=T'->cs.length=ty.n->(∀i,i<k->∃fuel x,DataW.trod enc P w base spare held fuel e ((cs.drop (i*P.cellsOf e)).take (P.cellsOf e))=S' x)->∃y:ty.D,ty.rd (λ_=>True) w cs y/\ty.ok y
theorem ah0{ty:Ty}(h1:R1 enc P w base spare held ty)(hp:∀(n:Nat) (f g:Field) (fs:List Field) (off:Nat) (cs:List Value),zS (rep P n) P.cellsOf (f::g::fs) ty off=T'->cs.length=ty.n->(∀q∈f::g::fs,off<=q.offset->∃fuel x,DataW.trod enc P w base spare held fuel q.type ((cs.drop (q.offset-off)).take (P.cellsOf q.type))=S' x)->∃y:ty.D,ty.rd (λ_=>True) w cs y/\ty.ok y):R2 enc P w base spare held ty:=by
 intro n fs off cs hr hl hf;match fs,hr,hf with
 |[f],hr,hf=>
  simp only[zS,anS]at hr;have ho:=anR hr.1.2;have hc:=anR hr.2;obtain⟨fuel,x,hx⟩:=hf f (by simp) (by omega);rw[ho,aqb,hc,u4 _ _ hl]at hx;exact h1 n f.type hr.1.1 fuel cs x hl hx
 |f::g::fs,hr,hf=>exact hp n f g fs off cs hr hl hf
theorem air{ty:Ty}(h1:R1 enc P w base spare held ty)(hp:∀(n k:Nat) (e:TypeId) (cs:List Value),Hu (rep P n e) (P.cellsOf e) (k+2) ty=T'->cs.length=ty.n->(∀i,i<k+2->∃fuel x,DataW.trod enc P w base spare held fuel e ((cs.drop (i*P.cellsOf e)).take (P.cellsOf e))=S' x)->∃y:ty.D,ty.rd (λ_=>True) w cs y/\ty.ok y):R3 enc P w base spare held ty:=by
 intro n k e cs hr hl hf;match k,hr,hf with
 |1,hr,hf=>
  simp only[Hu,anS]at hr;have hc:=anR hr.2;obtain⟨fuel,x,hx⟩:=hf 0 (by omega);rw[aqN,<-hc,u4 _ _ hl]at hx;exact h1 n e hr.1 fuel cs x hl hx
 |k+2,hr,hf=>exact hp n k e cs hr hl hf
theorem VR:∀(ty:Ty),R1 enc P w base spare held ty/\R2 enc P w base spare held ty/\R3 enc P w base spare held ty:=by
 intro ty
 have pE:∀{ty:Ty},(∀a b,ty≠.pair a b)->R1 enc P w base spare held ty->R1 enc P w base spare held ty/\R2 enc P w base spare held ty/\R3 enc P w base spare held ty:=by
  intro ty hne h1;refine⟨h1,ah0 h1 λn f g fs off cs hr=>?_,air h1 λn k e cs hr=>?_⟩
  ·cases ty<;>first|exact absurd rfl (hne _ _)|simp[zS]at hr
  ·cases ty<;>first|exact absurd rfl (hne _ _)|simp[Hu]at hr
 induction ty with
 |int k=>
  refine pE (λa b e=>by cases e) λn t hr fuel cs x hl hx=>?_;cases n with
  |zero=>simp[rep]at hr
  |succ n=>
   unfold rep at hr;split at hr<;>try (cases hr;done)
   all_goals rename_i hu he<;>cases he
   have:=anP hr;subst this;obtain⟨m,rfl,_,hw⟩:=DataW.trod_int hu hx;exact⟨m,rfl,hw⟩
 |bool=>
  refine pE (λa b e=>by cases e) λn t hr fuel cs x hl hx=>?_;cases n with
  |zero=>simp[rep]at hr
  |succ n=>
   unfold rep at hr;split at hr<;>try (cases hr;done)
   all_goals rename_i hu he<;>cases he
   obtain⟨m,rfl,_⟩:=DataW.trod_bool hu hx;exact⟨m,rfl,trivial⟩
 |str=>
  refine pE (λa b e=>by cases e) λn t hr fuel cs x hl hx=>?_;cases n with
  |zero=>simp[rep]at hr
  |succ n=>
   unfold rep at hr;split at hr<;>try (cases hr;done)
   all_goals rename_i hu he<;>cases he
   cases fuel with
   |zero=>simp[DataW.trod]at hx
   |succ fuel=>
    unfold DataW.trod at hx;rw[hu]at hx;split at hx<;>simp_all;exact⟨_,rfl,trivial⟩
 |sl e ih=>
  refine pE (λa b e=>by cases e) λn t hr fuel cs x hl hx=>?_;cases n with
  |zero=>simp[rep]at hr
  |succ n=>
   unfold rep at hr;split at hr<;>try (cases hr;done)
   all_goals rename_i hu he<;>cases he
   simp only[anS]at hr;obtain⟨⟨r1,r2⟩,r3⟩:=hr;have hc:=anR r2;have hn0:=anU r3;rcases Deep.open_slice hu hx with⟨rfl,_⟩|⟨a,len,cap,m,nn,D,Pl,rfl,hb,hle,hcap,hm,_,hel⟩
   ·exact⟨[],xo,by simp,λx hx=>by simp at hx⟩
   ·have hlm:len<=m:=by rw[hm];split<;>omega
    have key:∀i,i<len->∃(l:List Value) (y:e.D),(e.rd (λ_=>True) w l y/\e.ok y)/\∀j v,l[j]?=S' v->w.cell? ((a.add (i*e.n)).add j)=S' v:=by
     intro i hi;obtain⟨cs',h1,h2⟩:=hel i (by omega);rw[hc]at h1;obtain⟨h3,h4⟩:=Md h1;obtain⟨y,h5⟩:=ih.1 n _ r1 nn cs' _ h3 h2;exact⟨cs',y,h5,h4⟩
    obtain⟨css,ys,l1,l2,hk⟩:=S8 key;have hall:bJ (λl y=>e.rd (λ_=>True) w l y) css ys:=Ku (by omega) λi l y h1 h2=>(hk i l y h1 h2).1.1;refine⟨ys,⟨S' a,len,cap,css,rfl,l2,hle,hcap,hall,λh0=>?_⟩,by unfold maxLen at hcap;omega,λy hy=>?_⟩
    ·obtain⟨l0,hl0⟩:∃l,css[0]?=S' l:=⟨_,anN (by omega)⟩
     obtain⟨y0,hy0,hrd0⟩:=fQ hall 0 l0 hl0;have hlen0:=Ty.rd_len hrd0;obtain⟨v0,hv0⟩:∃v,l0[0]?=S' v:=⟨_,anN (by omega)⟩
     have hc0:=(hk 0 l0 y0 hl0 hy0).2 0 v0 hv0;have e0:(a.add (0*e.n)).add 0=a:=by simp[Addr.add]
     rw[e0]at hc0;obtain⟨h1,h2⟩:=U9 hc0;obtain⟨b,off,sp⟩:=a;dsimp only at h1 h2;subst h2;refine⟨b,off,rfl,trivial,h1,λi v hv=>?_⟩;have hls:=fv hall;have hi:i<css.flatten.length:=(anX.1 hv).1;rw[gI hls,l1]at hi;have hq:i/e.n<len:=Nat.div_lt_of_lt_mul (by rw[Nat.mul_comm];exact hi);obtain⟨l,hl⟩:∃l,css[i/e.n]?=S' l:=⟨_,anN (by omega)⟩
     obtain⟨y,hy,hrd⟩:=fQ hall _ l hl;have hmod:i%e.n<e.n:=aqD _ hn0;obtain⟨u,hu'⟩:∃u,l[i%e.n]?=S' u:=⟨_,anN (by rw[Ty.rd_len hrd];exact hmod)⟩
     have hfl:=lW hls hl hu';have hdm:i/e.n*e.n+i%e.n=i:=by rw[Nat.mul_comm];exact Nat.div_add_mod i e.n
     rw[hdm,hv]at hfl;injection hfl with hfl;subst hfl;have:=(hk _ l y hl hy).2 _ _ hu';rw[c7,c7]at this;rwa [apM,hdm]at this
    ·obtain⟨i,hi,rfl⟩:=apP hy;obtain⟨l,hl,_⟩:=pi hall i _ (anN hi);exact(hk i l _ hl (anN hi)).1.2
 |st a ih=>
  refine pE (λa b e=>by cases e) λn t hr fuel cs x hl hx=>?_;cases n with
  |zero=>simp[rep]at hr
  |succ n=>
   unfold rep at hr;split at hr<;>try (cases hr;done)
   all_goals rename_i hu he<;>cases he
   ·simp only[anS]at hr;obtain⟨xs,k,rfl,_,_,hlen,hg⟩:=DataW.trod_struct hu hx;refine ih.2.1 n _ 0 cs hr.1 hl λf hf _=>?_;obtain⟨i,hi,rfl⟩:=apP hf;rename_i fs;have h1:=hg i _ (by rw[<-apA];exact anN hi);obtain⟨y,hy⟩:∃y,xs[i]?=S' y:=⟨_,anN (by rw[hlen];simpa using hi)⟩
    rw[hy]at h1;exact⟨k,y,by rw[aq2];exact h1⟩
   ·simp only[anS]at hr;obtain⟨xs,k,rfl,_,_,hlen,hg⟩:=DataW.trod_array hu hx;refine ih.2.2 n _ _ cs hr.1 hl λi hi=>?_;have h1:=hg i hi;obtain⟨y,hy⟩:∃y,xs[i]?=S' y:=⟨_,anN (by rw[hlen];exact hi)⟩
    rw[hy]at h1;exact⟨k,y,h1⟩
 |pair a b iha ihb=>
  have h1:R1 enc P w base spare held (.pair a b):=by
   intro n t hr;cases n with
   |zero=>simp[rep]at hr
   |succ n=>
    unfold rep at hr;split at hr<;>first|(cases hr;done)|(rename_i he;cases he)
  have cut:∀{cs:List Value} {k m:Nat},cs.length=a.n+b.n->((cs.drop a.n).drop k).take m=(cs.drop (a.n+k)).take m:=λ_=>by rw[aqY]
  refine⟨h1,ah0 h1 λn f g fs off cs hr hl hf=>?_,air h1 λn k e cs hr hl hf=>?_⟩
  ·simp only[zS,anS]at hr;obtain⟨⟨⟨r1,r2⟩,r3⟩,r4⟩:=hr;have ho:=anR r2;have hc:=anR r3;simp only[Ty.n]at hl;obtain⟨fuel,x,hx⟩:=hf f (by simp) (by omega);rw[ho,aqb,hc,apy]at hx;obtain⟨y1,k1,k2⟩:=iha.1 n f.type r1 fuel (cs.take a.n) x (by simp;omega) hx
   obtain⟨y2,k3,k4⟩:=ihb.2.1 n (g::fs) (off+a.n) (cs.drop a.n) r4 (by simp;omega) λq hq hle=>by
    obtain⟨fuel,x,hx⟩:=hf q (by simp only[an6]at hq ⊢;exact .inr hq) (by omega);refine⟨fuel,x,?_⟩;rw[aqY,show a.n+(q.offset-(off+a.n))=q.offset-off by omega];exact hx
   exact⟨(y1,y2),⟨_,_,(apc a.n cs).symm,k1,k3⟩,k2,k4⟩
  ·simp only[Hu,anS]at hr;obtain⟨⟨r1,r2⟩,r3⟩:=hr;have hc:=anR r2;simp only[Ty.n]at hl;obtain⟨fuel,x,hx⟩:=hf 0 (by omega);rw[aqN,apy,<-hc]at hx;obtain⟨y1,k1,k2⟩:=iha.1 n e r1 fuel (cs.take a.n) x (by simp;omega) hx
   obtain⟨y2,k3,k4⟩:=ihb.2.2 n (k+1) e (cs.drop a.n) r3 (by simp;omega) λi hi=>by
    obtain⟨fuel,x,hx⟩:=hf (i+1) (by omega);refine⟨fuel,x,?_⟩;rw[aqY,hc,show P.cellsOf e+i*P.cellsOf e=(i+1)*P.cellsOf e by rw[apz];omega];exact hx
   exact⟨(y1,y2),⟨_,_,(apc a.n cs).symm,k1,k3⟩,k2,k4⟩
end
end
theorem alY{n:Int}(h:Ty.ok (.int .u8) n):u8P n:=bounds_u8 h
abbrev Plc:=Int×Int×Int×Int×Int×Int
abbrev IZ:Ty:=.st (.pair (.int .i16) (.pair (.int .i16) (.pair (.int .i16) (.pair (.int .i16) (.pair (.int .u16) (.int .u8))))))
def GB(n:Int):Prop:= -32768<=n/\n<=32767
instance (n:Int):Decidable (GB n):=by unfold GB;infer_instance
def Hn(x:Plc):Prop:=GB x.1/\GB x.2.1/\GB x.2.2.1/\GB x.2.2.2.1/\(0<=x.2.2.2.2.1/\x.2.2.2.2.1<=65535)/\u8P x.2.2.2.2.2
instance (x:Plc):Decidable (Hn x):=by unfold Hn;infer_instance
def VU(a b c d:Int):Rt:=mkR (Rat.divInt a (d+1)) (Rat.divInt b (d+1)) (c:Rat)
def MX(x:Plc):Pt:=mkP (VU x.1 x.2.1 x.2.2.2.2.1 x.2.2.2.2.2) (VU x.2.2.1 x.2.2.2.1 x.2.2.2.2.1 x.2.2.2.2.2)
def aeQ:List En:=[enL qf,enL lj,enL TJ,enL QR]
def UL(x:Plc)(_k:KT):OLR:=let y1:=i64.wrap x.2.2.2.2.1;let y2:=i64.wrap x.1;let y3:=i64.wrap ((i64.wrap x.2.2.2.2.2)+1);let y4:=i64.wrap x.2.1;let y5:=hid (av (Rat.divInt y2 y3));let y6:=hid (av (Rat.divInt y4 y3));let y7:=hid (av (y1:Rat));let y8:=i64.wrap x.2.2.1;let y9:=i64.wrap x.2.2.2.1;let y10:=hid (av (Rat.divInt y8 y3));let y11:=hid (av (Rat.divInt y9 y3));let y12:=hid (enc (mkR (ag y5) (ag y6) (ag y7)));let y13:=hid (enc (mkR (ag y10) (ag y11) (ag y7)));og (D' (bH y1)) (og (D' (qZ y2 y3)) (og (D' (qZ y4 y3)) (og (D' (ok Rat 100000 y5/\ok Rat 100000 y6/\ok Rat 100000 y7/\0<=ag y7)) (og (D' (qZ y8 y3)) (og (D' (qZ y9 y3)) (og (D' (ok Rat 100000 y10/\ok Rat 100000 y11/\ok Rat 100000 y7/\0<=ag y7)) (og (D' (okT 15000 y12/\okT 15000 y13/\yE (dec y12) (dec y13))) (S' [RV.d tP (hid (enc (mkP (dec y12) (dec y13))))]))))))))
def ae0:Cn 8 [IZ]:=cn λ(x:Plc)=>lf (Hn x) [.d tP (enc (MX x))] λh=>by
 refine aA aeQ (UL x) ⟨0,?_⟩;obtain⟨h1,h2,h3,h4,⟨h5,h5'⟩,h6,h6'⟩:=h
 have f:∀n,GB n->Bd (Rat.divInt n (x.2.2.2.2.2+1)) 3/\qZ n (x.2.2.2.2.2+1)/\i64.wrap n=n:=λn hn=>by
  obtain⟨g1,g2⟩:=hn;exact⟨JC ⟨by omega,by omega⟩ ⟨by omega,by omega⟩ (by omega),⟨⟨by omega,by omega⟩,⟨by omega,by omega⟩,by omega⟩,aM (by omega) (by omega)⟩
 obtain⟨b1,p1,w1⟩:=f _ h1;obtain⟨b2,p2,w2⟩:=f _ h2;obtain⟨b3,p3,w3⟩:=f _ h3;obtain⟨b4,p4,w4⟩:=f _ h4;have i5:bH x.2.2.2.2.1:=⟨by omega,by omega⟩
 have b5:Bd (x.2.2.2.2.1:Rat) 3:=dQ i5;have n5:0<=(x.2.2.2.2.1:Rat):=Rat.intCast_nonneg.2 h5;have N5:Nn (x.2.2.2.2.1:Rat):=⟨n5⟩
 have w5:i64.wrap x.2.2.2.2.1=x.2.2.2.2.1:=aM (by omega) (by omega);have w6:i64.wrap x.2.2.2.2.2=x.2.2.2.2.2:=aM (by omega) (by omega);have w7:i64.wrap (x.2.2.2.2.2+1)=x.2.2.2.2.2+1:=aM (by omega) (by omega);unfold UL;simp only[aX,Nat.reduceAdd,Nat.reduceLeDiff,aI,w1,w2,w3,w4,w5,w6,w7,dT i5,dT p1,dT p2,dT p3,dT p4,dT n5,dT (tM _ _ _ _ _)];rfl
theorem abY{x:Plc}(h:Hn x):Bd (MX x) 20/\Rpd (MX x):=by
 obtain⟨h1,h2,h3,h4,⟨h5,h5'⟩,h6,h6'⟩:=h
 have f:∀n,GB n->Bd (Rat.divInt n (x.2.2.2.2.2+1)) 3:=λn hn=>by
  obtain⟨g1,g2⟩:=hn;exact JC ⟨by omega,by omega⟩ ⟨by omega,by omega⟩ (by omega)
 have b1:=f _ h1;have b2:=f _ h2;have b3:=f _ h3;have b4:=f _ h4;have b5:Bd (x.2.2.2.2.1:Rat) 3:=dQ ⟨by omega,by omega⟩;have N5:Nn (x.2.2.2.2.1:Rat):=⟨Rat.intCast_nonneg.2 h5⟩
 have bX:Bd (VU x.1 x.2.1 x.2.2.2.2.1 x.2.2.2.2.2) 20:=(inferInstance:Bd (mkR (Rat.divInt x.1 (x.2.2.2.2.2+1)) (Rat.divInt x.2.1 (x.2.2.2.2.2+1)) (x.2.2.2.2.1:Rat)) _).mono (by decide);have bY:Bd (VU x.2.2.1 x.2.2.2.1 x.2.2.2.2.1 x.2.2.2.2.2) 20:=(inferInstance:Bd (mkR (Rat.divInt x.2.2.1 (x.2.2.2.2.2+1)) (Rat.divInt x.2.2.2.1 (x.2.2.2.2.2+1)) (x.2.2.2.2.1:Rat)) _).mono (by decide);exact⟨adz (h:=bX) (h':=bY),ZV Fr Fr (tM _ _ _ _ _)⟩
theorem WA{y:Plc}(h:Ty.ok IZ y):Hn y:=⟨bounds_i16 h.1,bounds_i16 h.2.1,bounds_i16 h.2.2.1,bounds_i16 h.2.2.2.1,bounds_u16 h.2.2.2.2.1,alY h.2.2.2.2.2⟩
def l0B:BO3:=enc ((0,0,0):Ln)
def c0M:BCU:=(F',l0B,l0B,F',p00,p00)
def adm(a b:Rat×Rat):BCU:=bif wr a b then c00 else(F',enc (ur a b),l0B,F',enc (atP a),enc (atP b))
def WX(c:BO3):List BCU:=[(T',l0B,c,F',enc (dY (dec c)),enc (eN (dec c))),(T',l0B,c,F',enc (eN (dec c)),enc (dY (dec c)))]
def ZZ:List En:=[⟨94,fp,dJ⟩,⟨194,i7,ff⟩]
def aaT(a:BR)(_k:KT):OLR:=match D' (okR a)with|T'=>S' [RV.d .bool ((aD (ag a) 0)==0)]|F'=>N'
def KA:Cn 217 [tR]:=cn λ(a:BR)=>lf (okR a) [.d .bool (D' (ag a=0))] λh=>by
 refine aA ZZ (aaT a) ⟨0,?_⟩;unfold aaT;rw[dT h];simp only[am]
def XN(_k:KT):OLR:=og (D' (bH (0:Int))) (S' [RV.d tCU (F',((hid (av ((0:Int):Rat)),(hid (av ((0:Int):Rat)),hid (av ((0:Int):Rat)))),((hid (av ((0:Int):Rat)),(hid (av ((0:Int):Rat)),hid (av ((0:Int):Rat)))),(F',((((F',[]),(F',[])),(((F',[]),(F',[])),(((F',[]),(F',[])),(((F',[]),(F',[])),((F',[]),(F',[])))))),(((F',[]),(F',[])),(((F',[]),(F',[])),(((F',[]),(F',[])),(((F',[]),(F',[])),((F',[]),(F',[])))))))))))])
def agz:Cn 112 []:=cn<|lf True [.d tCU c0M] λ_=>by
 refine aA ZZ (XN) ⟨0,?_⟩;unfold XN c0M l0B;rw[dT (show bH 0 by decide)];simp only[aR];rfl
def alC:List En:=[enL Pp,enL OE,enL UD,enL aau,enT KA]
def abx(a b:BV)(_k:KT):OLR:=og (o2 a.2 b.2) (og (o2 b.1 a.1) (og (o1 (hSu a.2 b.2)) (match D' (ag (hSu a.2 b.2)=0)with|T'=>(og (o1 (hSu b.1 a.1)) (match D' (ag (hSu b.1 a.1)=0)with|T'=>S' [RV.d tO (((F',[]),(F',[])),(((F',[]),(F',[])),((F',[]),(F',[])))),RV.d arf 6]|F'=>(og (o2 (hSu a.2 b.2) a.1) (og (o2 (hSu b.1 a.1) a.2) (og (o2 (hMu (hSu a.2 b.2) a.1) (hMu (hSu b.1 a.1) a.2)) (S' [RV.d tO (hSu a.2 b.2,(hSu b.1 a.1,hAd (hMu (hSu a.2 b.2) a.1) (hMu (hSu b.1 a.1) a.2))),RV.d arf 0]))))))|F'=>(og (o2 (hSu a.2 b.2) a.1) (og (o2 (hSu b.1 a.1) a.2) (og (o2 (hMu (hSu a.2 b.2) a.1) (hMu (hSu b.1 a.1) a.2)) (S' [RV.d tO (hSu a.2 b.2,(hSu b.1 a.1,hAd (hMu (hSu a.2 b.2) a.1) (hMu (hSu b.1 a.1) a.2))),RV.d arf 0])))))))
def ahh:Cn 151 [tV,tV]:=cn λ(a b:BV)=>lf (ok (Rat×Rat) 100 a/\ok (Rat×Rat) 100 b) [.d tO (GW (dec a) (dec b)),.d arf (EM (dec a) (dec b))] λh=>by
 refine aA alC (abx a b) ⟨0,?_⟩;obtain⟨ha,hb⟩:=h;obtain⟨a,rfl,ba⟩:=aL ha;obtain⟨b,rfl,bb⟩:=aL hb;unfold abx GW EM wr;simp only[aX,Nat.reduceAdd,Nat.reduceLeDiff];cases D' (a.2-b.2=0)<;>cases D' (b.1-a.1=0)<;>rfl
def TG:List En:=[⟨165,mn,im⟩,⟨123,jO,fL⟩,⟨46,jL,fN⟩,enL BX,enL agz,enL ahh,enL Pq]
def PF(a b:BV)(_k:KT):OLR:=og (D' (ok (Rat×Rat) 100 a/\ok (Rat×Rat) 100 b)) (match(EM (dec a) (dec b)) !=0 with|T'=>S' [RV.d tCU (F',((((F',[]),(F',[])),(((F',[]),(F',[])),((F',[]),(F',[])))),((((F',[]),(F',[])),(((F',[]),(F',[])),((F',[]),(F',[])))),(F',((((F',[]),(F',[])),(((F',[]),(F',[])),(((F',[]),(F',[])),(((F',[]),(F',[])),((F',[]),(F',[])))))),(((F',[]),(F',[])),(((F',[]),(F',[])),(((F',[]),(F',[])),(((F',[]),(F',[])),((F',[]),(F',[]))))))))))),RV.d arf 6]|F'=>(og (D' (ok (Rat×Rat) 100000 a)) (og (D' (ok (Rat×Rat) 100000 b)) (S' [RV.d tCU (F',(hid (GW (dec a) (dec b)),((((hid (c0M)).2).2).1,(F',(hid (enc (atP (dec a))),hid (enc (atP (dec b)))))))),RV.d arf 0]))))
def Hd:Cn 78 [tV,tV]:=cn λ(a b:BV)=>lf (ok (Rat×Rat) 100 a/\ok (Rat×Rat) 100 b) [.d tCU (adm (dec a) (dec b)),.d arf (wy (dec a) (dec b))] λh=>by
 refine aA TG (PF a b) ⟨0,?_⟩;obtain⟨ha,hb⟩:=h;obtain⟨a,rfl,ba⟩:=aL ha;obtain⟨b,rfl,bb⟩:=aL hb;unfold PF adm wy EM GW;simp only[aX,Nat.reduceLeDiff];cases wr a b<;>rfl
def ajh:Ctx:=CX (ens TG) []
def Yu(c:BO3)(_k:KT):OLR:=og (D' (bK c)) (dup (.b .l .l) (S' [RV.new 48 tCU ([(T',(((hid (c0M)).2).1,(c,(F',(hid (enc (dY (dec c))),hid (enc (eN (dec c)))))))),(T',(((hid (c0M)).2).1,(c,(F',(hid (enc (eN (dec c))),hid (enc (dY (dec c))))))))])]))
theorem ah5(c:BO3):RS ajh 49 [.d tO c] (Yu c):=rsX
def akB:Cn 49 [tO]:=cn λ(c:BO3)=>lf (bK c) [.d (.sl tCU) (WX c)] λh=>by
 refine Con.new_d (et:=48) (bj TG (ah5 _ ⟨0,?_⟩));unfold Yu;rw[dT h];simp only[aR,dg];rfl
section
open RE
theorem oo{c:Ln}:dY c=da c/\eN c=dp c:=by
 unfold dY eN da dp pK mh mkP mkR rdP atP;cases eH c.2.2<;>exact⟨rfl,rfl⟩
def loM(c:BO3):BCU:=(T',l0B,c,F',enc (dY (dec c)),enc (eN (dec c)))
def hiM(c:BO3):BCU:=(T',l0B,c,F',enc (eN (dec c)),enc (dY (dec c)))
def upM(c:BO3):BCU:=(T',l0B,c,T',enc (dY (dec c)),enc (eN (dec c)))
def wq(c:BCU):Prop:=bK c.2.2.1/\(c=loM c.2.2.1\/c=hiM c.2.2.1)
instance (c:BCU):Decidable (wq c):=Classical.propDecidable _
def jR(c:BCU):BCU:=bif D' (aB (dec c.2.2.2.2.1) (dec c.2.2.2.2.2)>0)then gT c else c
def yO(c:Cv)(p:Pt):Bool:=onP c p&&(!(aB (frC c) p==0)&&!(aB (toC c) p==0))
theorem ac1{l m:BO3}{c:BCU}(e:c.1=T')(h:gdN (c.1,l,c.2.2)):gdN (c.1,m,c.2.2):=by
 obtain⟨⟨⟨h1,h2,h3⟩,h4,h5⟩,h6,h7,h8⟩:=h;have e':∀{q:Prop},(c.1=F'->q):=λh=>by rw[e]at h;cases h
 refine⟨⟨⟨h1,e',h3⟩,h4,e'⟩,?_,?_,h8⟩
 ·have:=h6;unfold df dC at*;rw[show((c.1,l,c.2.2):BCU).1=T' from e]at this;rw[show((c.1,m,c.2.2):BCU).1=T' from e];exact this
 ·have:=h7;unfold df dC at*;rw[show((c.1,l,c.2.2):BCU).1=T' from e]at this;rw[show((c.1,m,c.2.2):BCU).1=T' from e];exact this
theorem CO{c:BO3}(h:bK c):gdN (loM c)/\gdN (hiM c)/\gdN (upM c)/\aB (dec (enc (dY (dec c)))) (dec (enc (eN (dec c))))= -1:=by
 obtain⟨c,rfl,bc,h0⟩:=b9 h;have g:=DR (c:=c) h0;have k:∀w f t,gdN (T',o00,enc c,w,f,t)->gdN (T',l0B,enc c,w,f,t):=λw f t=>ac1 (c:=(T',o00,enc c,w,f,t)) rfl;have g1:gdN (loM (enc c)):=k _ _ _ (g _ (by unfold D7;rw[aq,oo.1,oo.2];simp));have g2:gdN (hiM (enc c)):=k _ _ _ (g _ (by unfold D7;rw[aq,oo.1,oo.2];simp));refine⟨g1,g2,g2.rev,?_⟩;rw[aq,aq,oo.1,oo.2,aq];exact Ow h0
theorem Yq{c:BCU}(h:wq c):c.1=T'/\gdN c/\okC 4000 c/\(okP 4000 (enc (dY (dec c.2.2.1)))/\yO (dC c) (dec (enc (dY (dec c.2.2.1))))=F')/\okP 4000 (enc (eN (dec c.2.2.1)))/\yO (dC c) (dec (enc (eN (dec c.2.2.1))))=false:=by
 obtain⟨hs,h⟩:=h;obtain⟨g1,g2,_,_⟩:=CO hs;have o:=bi (k:=4000) g1.1.1 (by decide) (by decide);obtain⟨_,_,o1,o2⟩:=o
 have z:∀{p:BP},okP 4000 p->(aB (dec p) (dec p)==0)=true:=λ{p} h=>by
  have:=db h;exact aos.2 (RE.cmpP_0.2 rfl)
 have g:c.1=T'/\gdN c:=by
  rcases h with e|e<;>rw[e]
  ·exact⟨rfl,g1⟩
  ·exact⟨rfl,g2⟩
 have z1:(aB (dec (enc (dY (dec c.2.2.1)))) (dec (enc (dY (dec c.2.2.1))))==0)=true:=z o1;have z2:(aB (dec (enc (eN (dec c.2.2.1)))) (dec (enc (eN (dec c.2.2.1))))==0)=true:=z o2;refine⟨g.1,g.2,bi (k:=4000) g.2.1.1 (by decide) (by decide),⟨o1,?_⟩,o2,?_⟩<;>unfold yO
 ·rcases h with e|e
  ·rw[show frC (dC c)=dec (enc (dY (dec c.2.2.1))) by rw[e];rfl,z1,Bool.not_true,aqZ,ap4]
  ·rw[show toC (dC c)=dec (enc (dY (dec c.2.2.1))) by rw[e];rfl,z1,Bool.not_true,ap4,ap4]
 ·rcases h with e|e
  ·rw[show toC (dC c)=dec (enc (eN (dec c.2.2.1))) by rw[e];rfl,z2,Bool.not_true,ap4,ap4]
  ·rw[show frC (dC c)=dec (enc (eN (dec c.2.2.1))) by rw[e];rfl,z2,Bool.not_true,aqZ,ap4]
def ago:List En:=[enT Jp,enT oM]
def XY(c:BCU)(p:BP)(_k:KT):OLR:=og (D' (okC 4000 c/\okP 4000 p)) (match onP (dC c) (dec p)with|T'=>(og (D' (okP 4000 c.2.2.2.2.1/\okP 4000 p)) (match !(aB (dec c.2.2.2.2.1) (dec p)==0)with|T'=>(og (D' (okP 4000 c.2.2.2.2.2/\okP 4000 p)) (S' [RV.d .bool (!(aB (dec c.2.2.2.2.2) (dec p)==0))]))|F'=>S' [RV.d .bool F']))|F'=>S' [RV.d .bool F'])
def aiL:Cn 221 [tCU,tP]:=cn λ(c:BCU) (p:BP)=>lf (okC 4000 c/\okP 4000 p) [.d .bool (yO (dC c) (dec p))] λh=>by
 refine aA ago (XY c p) ⟨0,?_⟩;obtain⟨h1,h2⟩:=h;unfold XY yO;rw[dT (show okC 4000 c/\okP 4000 p from⟨h1,h2⟩),dT (show okP 4000 c.2.2.2.2.1/\okP 4000 p from⟨h1.2.2.1,h2⟩),dT (show okP 4000 c.2.2.2.2.2/\okP 4000 p from⟨h1.2.2.2,h2⟩)];have e3:frC (dC c)=dec c.2.2.2.2.1:=rfl;have e4:toC (dC c)=dec c.2.2.2.2.2:=rfl;rw[e3,e4];cases onP (dC c) (dec p)<;>cases aB (dec c.2.2.2.2.1) (dec p)==0<;>rfl
def ajR:Cn 221 [tCU,tP]:=cn λ(c:BCU) (p:BP)=>lf (yO (dC c) (dec p)=F'/\okC 4000 c/\okP 4000 p) [.d .bool F'] λh=>by
 have e:CQq7 221 [.d tCU c,.d tP p] [.d .bool (yO (dC c) (dec p))]:=(aiL.g c p).h h.2;rw[h.1]at e;exact e
def Sn:List En:=[enL Pq,enT ajR,enT oN,enL B0,enT oM,enT aaS,enT Jp]
def agi:NT:=[((233,6),{keep:=[0,1,7,8],hl:=99}),((154,16),{keep:=[0,1,5,6],hl:=99}),((304,6),{keep:=[0,1,2,6,7,8],hl:=99}),((358,3),{keep:=[0,1,2,3,8],hl:=99}),((304,22),{keep:=[0,1,2,6],hl:=99}),((81,18),{keep:=[2,6,7,17,18,19],hl:=99}),((146,24),{keep:=[3,35,36,37],hl:=99}),((289,6),{keep:=[0,1,2,6,7,8],hl:=99}),((340,3),{keep:=[0,1,2,3,8],hl:=99}),((289,22),{keep:=[0,1,2,6],hl:=99}),((146,11),{keep:=[1,3,25],hl:=0}),((154,3),{keep:=[0,1,10],hl:=0}),((233,18),{keep:=[0,1,5,7,8,16],hl:=0}),((154,28),{keep:=[0,1,5,6,7,28],hl:=0}),((146,13),{keep:=[3,29],hl:=0}),((81,4),{keep:=[1,2,13],hl:=0}),((160,3),{keep:=[7],hl:=0}),((81,16),{keep:=[2,6,7,17],hl:=0}),((158,3),{keep:=[2,6],hl:=0}),((158,5),{keep:=[1],hl:=0}),((236,0),{keep:=[],hl:=0}),((304,20),{keep:=[0,1,2,6],hl:=0}),((158,7),{keep:=[11],hl:=0}),((146,42),{keep:=[3],hl:=0}),((223,0),{keep:=[],hl:=0}),((289,20),{keep:=[0,1,2,6],hl:=0})]
def ahI:Ctx:=CX (ens Sn) agi
def Zy(c:BCU):OLR:=match c.1 with|T'=>(og (D' (bK c.2.2.1)) (og (D' (yO (dC c) (dec (hid (enc (dY (dec c.2.2.1)))))=F'/\okC 4000 c/\okP 4000 (hid (enc (dY (dec c.2.2.1)))))) (og (D' (yO (dC c) (dec (hid (enc (eN (dec c.2.2.1)))))=F'/\okC 4000 c/\okP 4000 (hid (enc (eN (dec c.2.2.1)))))) (E3 (og (D' (okP 4000 c.2.2.2.2.1/\okP 4000 c.2.2.2.2.2)) (match D' ((aB (dec c.2.2.2.2.1) (dec c.2.2.2.2.2))>0)with|T'=>S' [RV.new 48 tCU ([hid (gT c)])]|F'=>S' [RV.new 48 tCU ([c])])) (og (D' (okP 4000 c.2.2.2.2.1/\okP 4000 c.2.2.2.2.2)) (match D' ((aB (dec c.2.2.2.2.1) (dec c.2.2.2.2.2))>0)with|T'=>S' [RV.new 48 tCU ([hid (gT c)])]|F'=>S' [RV.new 48 tCU ([c])]))))))|F'=>(og (D' (okP 4000 c.2.2.2.2.1/\okP 4000 c.2.2.2.2.2)) (match D' ((aB (dec c.2.2.2.2.1) (dec c.2.2.2.2.2))>0)with|T'=>S' [RV.new 48 tCU ([hid (gT c)])]|F'=>S' [RV.new 48 tCU ([c])]))
theorem aiX(c:BCU):RT ahI 146 [.d tCU c] (Zy c):=rtX
def ahM:Cn 146 [tCU]:=cn λ(c:BCU)=>lf (wq c) [.new 48 tCU ([jR c])] λh=>by
 refine bj Sn (aiX _ ?_);obtain⟨h1,g,h4,⟨h5,h6⟩,h7,h8⟩:=Yq h;unfold Zy jR;simp only[aR];rw[h1,dT h.1,dT (show yO (dC c) (dec (enc (dY (dec c.2.2.1))))=F'/\okC 4000 c/\okP 4000 (enc (dY (dec c.2.2.1))) from⟨h6,h4,h5⟩),dT (show yO (dC c) (dec (enc (eN (dec c.2.2.1))))=F'/\okC 4000 c/\okP 4000 (enc (eN (dec c.2.2.1))) from⟨h8,h4,h7⟩),dT (show okP 4000 c.2.2.2.2.1/\okP 4000 c.2.2.2.2.2 from h4.2.2)];cases D' (aB (dec c.2.2.2.2.1) (dec c.2.2.2.2.2)>0)<;>exact(dz _).trans rfl
end
section
open RE
abbrev BDs:Type:=Int×Int×Int×Int×Bool
abbrev tBD:Ty:=.st (.pair arf (.pair arf (.pair arf (.pair arf .bool))))
def Xw(a b:BDs):Bool:=a.2.2.2.2&&(b.2.2.2.2&&(D' (a.2.1<b.1)||(D' (b.2.1<a.1)||(D' (a.2.2.2.1<b.2.2.1)||D' (b.2.2.2.1<a.2.2.1)))))
def wF(c:BCU)(l:List BP):Prop:=kK c l/\∀p∈l,onP (dC c) (dec p)=T'/\(fV p c.2.2.2.2.1||fV p c.2.2.2.2.2)=T'
instance (c:BCU) (l:List BP):Decidable (wF c l):=Classical.propDecidable _
theorem Gu{c:BCU}:∀{L:List BP} {f:BP},(∀p∈L,(fV p c.2.2.2.2.1||fV p c.2.2.2.2.2)=T')->wG c f L=[Ah c f c.2.2.2.2.2]
 |[],_,_=>rfl
 |p::r,f,h=>by
  unfold wG;rw[h p (by simp)];exact Gu λq hq=>h q (an4 _ hq)
theorem Ji{c:BCU}{l:List BP}(h:wF c l):oU c l=[c]/\VC c l=0:=by
 have ho:OO c l=false:=by
  unfold OO;rw[List.any_eq_false];intro p hp;rw[(h.2 p hp).1];decide
 unfold oU VC U5;rw[ho,Gu λp hp=>(h.2 p (nj hp)).2];exact⟨rfl,rfl⟩
def mv(l:List BCU):Prop:=∃c,bK c/\l=[loM c,upM c]
instance (l:List BCU):Decidable (mv l):=Classical.propDecidable _
theorem rl{c:BO3}(h:bK c):okP 4000 (enc (dY (dec c)))/\okP 4000 (enc (eN (dec c)))/\aB (dec (enc (dY (dec c)))) (dec (enc (dY (dec c))))=0/\aB (dec (enc (eN (dec c)))) (dec (enc (eN (dec c))))=0/\aB (dec (enc (dY (dec c)))) (dec (enc (eN (dec c))))= -1/\aB (dec (enc (eN (dec c)))) (dec (enc (dY (dec c))))=1:=by
 obtain⟨g1,g2,_,e⟩:=CO h;obtain⟨_,_,o1,o2⟩:=bi (k:=4000) g1.1.1 (by decide) (by decide);have o1:okP 4000 (enc (dY (dec c))):=o1;have o2:okP 4000 (enc (eN (dec c))):=o2;have r1:=db o1;have r2:=db o2;exact⟨o1,o2,cmpP_0.2 rfl,cmpP_0.2 rfl,e,by rw[uZ,e];rfl⟩
theorem WW{c:BCU}(h:gdN c):onP (dC c) (dec c.2.2.2.2.1)=T'/\onP (dC c) (dec c.2.2.2.2.2)=true:=by
 have:=ID h;have r1:=db h.1.1.2.2.1;have r2:=db h.1.1.2.2.2;have h1:=ZS (M4 h.gd) r1;have h2:=ZS (M4 h.gd) r2;exact⟨h1.trans this.1,h2.trans this.2⟩
theorem U3{c:BO3}(h:bK c):wF (loM c) (ml (upM c) (loM c))/\wF (upM c) (ml (upM c) (loM c))/\wF (loM c) []/\wF (upM c) []/\lw (upM c) (loM c)/\(ml (upM c) (loM c)).length<=4:=by
 obtain⟨g1,g2,g3,_⟩:=CO h;obtain⟨o1,o2,z1,z2,_,_⟩:=rl h;have c1:=bi (k:=4000) g1.1.1 (by decide) (by decide);have c3:=bi (k:=4000) g3.1.1 (by decide) (by decide)
 have hs:cO (dC (upM c)) (dC (loM c))=true:=by
  unfold cO qY;simp[dC,upM,loM,ciC]
 have hm:∀x∈ml (upM c) (loM c),x=enc (dY (dec c))\/x=enc (eN (dec c)):=λx hx=>by
  have hx:=(List.mem_filter.1 (nj hx)).1;unfold Dg at hx;rw[hs,cond_true]at hx;have:x=(upM c).2.2.2.2.1\/x=(upM c).2.2.2.2.2\/x=(loM c).2.2.2.2.1\/x=(loM c).2.2.2.2.2:=by simpa using hx
  rcases this with e|e|e|e
  ·exact .inl e
  ·exact .inr e
  ·exact .inl e
  ·exact .inr e
 have hp:lw (upM c) (loM c):=⟨g3.1,g1.1⟩
 have hl:(ml (upM c) (loM c)).length<=4:=an0 nq (an0 (List.length_filter_le _ _) (yF hp).1)
 have k:∀d:BCU,gdN d->okC 4000 d->d.2.2.2.2.1=enc (dY (dec c))->d.2.2.2.2.2=enc (eN (dec c))->∀x,x=enc (dY (dec c))\/x=enc (eN (dec c))->okP 4000 x/\onP (dC d) (dec x)=T'/\(fV x d.2.2.2.2.1||fV x d.2.2.2.2.2)=true:=λd g o e1 e2 x hx=>by
  have:=WW g;rw[e1,e2]at this ⊢;unfold fV;rcases hx with e|e<;>rw[e]
  ·exact⟨o1,this.1,by rw[z1];rfl⟩
  ·exact⟨o2,this.2,by rw[z2];exact aq1 _⟩
 have k1:=k (loM c) g1 c1 rfl rfl;have k3:=k (upM c) g3 c3 rfl rfl;have nil:∀{d:BCU},okC 4000 d->wF d []:=λh=>⟨⟨h,by simp,λ_ h=>by cases h⟩,λ_ h=>by cases h⟩
 exact⟨⟨⟨c1,by omega,λx hx=>(k1 x (hm x hx)).1⟩,λx hx=>(k1 x (hm x hx)).2⟩,⟨⟨c3,by omega,λx hx=>(k3 x (hm x hx)).1⟩,λx hx=>(k3 x (hm x hx)).2⟩,nil c1,nil c3,hp,hl⟩
def Ie:List En:=[enL ww,enL DQ,enL we,enL xm,enL AC]
def adH:NT:=[((227,8),{keep:=[1,2,3,20,21,22],hl:=99}),((227,31),{keep:=[1,2,3,20,21,22],hl:=0})]
def ajl:Ctx:=CX (ens Ie) adH
def FW(c:BCU):OLR:=let y1:=okP 4000 c.2.2.2.2.1;let y2:=hid (enc (xP (dec c.2.2.2.2.1)));let y3:=hid (enc (yP (dec c.2.2.2.2.1)));let y4:=okP 4000 c.2.2.2.2.2;let y5:=hid (enc (xP (dec c.2.2.2.2.2)));let y6:=hid (enc (yP (dec c.2.2.2.2.2)));let y7:=hid ((aZ (dec y5)).1);let y8:=hid ((aZ (dec y2)).1);let y9:=hid ((aZ (dec y6)).1);let y10:=hid ((aZ (dec y3)).1);let y11:=frF (ag c.2.2.1.2.1);let y12:=frF (ag c.2.2.1.2.2);og (decide y1) (og (D' (ok Rt 100000 y2)) (og (decide y1) (og (D' (ok Rt 100000 y3)) (match !((aZ (dec y2)).2)with|T'=>S' [RV.d tBD (0,(0,(0,(0,F'))))]|F'=>(match !((aZ (dec y3)).2)with|T'=>S' [RV.d tBD (0,(0,(0,(0,F'))))]|F'=>dup (.b (.b .l .l) (.b .l .l)) (og (decide y4) (og (D' (ok Rt 100000 y5)) (og (decide y4) (og (D' (ok Rt 100000 y6)) (match !((aZ (dec y5)).2)with|T'=>S' [RV.d tBD (0,(0,(0,(0,F'))))]|F'=>(match !((aZ (dec y6)).2)with|T'=>S' [RV.d tBD (0,(0,(0,(0,F'))))]|F'=>dup (.b (.b .l .l) (.b .l .l)) (match !c.1 with|T'=>S' [RV.d tBD (if y7.1<(if y8.1<4611686018427387904 then y8.1 else 4611686018427387904)then y7.1 else(if y8.1<4611686018427387904 then y8.1 else 4611686018427387904),(if y7.2>(if y8.2> -4611686018427387904 then y8.2 else-4611686018427387904)then y7.2 else(if y8.2> -4611686018427387904 then y8.2 else-4611686018427387904),(if y9.1<(if y10.1<4611686018427387904 then y10.1 else 4611686018427387904)then y9.1 else(if y10.1<4611686018427387904 then y10.1 else 4611686018427387904),(if y9.2>(if y10.2> -4611686018427387904 then y10.2 else-4611686018427387904)then y9.2 else(if y10.2> -4611686018427387904 then y10.2 else-4611686018427387904),T'))))]|F'=>(og (D' (ok Rat 200000 c.2.2.1.2.1)) (og (D' (ok Rat 200000 c.2.2.1.2.2)) (match !(y11.2)with|T'=>S' [RV.d tBD (0,(0,(0,(0,F'))))]|F'=>(match !(y12.2)with|T'=>S' [RV.d tBD (0,(0,(0,(0,F'))))]|F'=>(og (D' (prI (hid (y12.1)))) (match !((sqF (hid (y12.1))).2)with|T'=>S' [RV.d tBD (0,(0,(0,(0,F'))))]|F'=>(match c.2.2.2.1 with|T'=>S' [RV.d tBD (if y7.1<(if y8.1<4611686018427387904 then y8.1 else 4611686018427387904)then y7.1 else(if y8.1<4611686018427387904 then y8.1 else 4611686018427387904),(if y7.2>(if y8.2> -4611686018427387904 then y8.2 else-4611686018427387904)then y7.2 else(if y8.2> -4611686018427387904 then y8.2 else-4611686018427387904),(if y9.1<(if y10.1<4611686018427387904 then y10.1 else 4611686018427387904)then y9.1 else(if y10.1<4611686018427387904 then y10.1 else 4611686018427387904),(if i64.wrap (((hid (y11.1)).2)+((hid ((sqF (hid (y12.1))).1)).2))>(if y9.2>(if y10.2> -4611686018427387904 then y10.2 else-4611686018427387904)then y9.2 else(if y10.2> -4611686018427387904 then y10.2 else-4611686018427387904))then i64.wrap (((hid (y11.1)).2)+((hid ((sqF (hid (y12.1))).1)).2))else(if y9.2>(if y10.2> -4611686018427387904 then y10.2 else-4611686018427387904)then y9.2 else(if y10.2> -4611686018427387904 then y10.2 else-4611686018427387904)),T'))))]|F'=>S' [RV.d tBD (if y7.1<(if y8.1<4611686018427387904 then y8.1 else 4611686018427387904)then y7.1 else(if y8.1<4611686018427387904 then y8.1 else 4611686018427387904),(if y7.2>(if y8.2> -4611686018427387904 then y8.2 else-4611686018427387904)then y7.2 else(if y8.2> -4611686018427387904 then y8.2 else-4611686018427387904),(if i64.wrap (((hid (y11.1)).1)-((hid ((sqF (hid (y12.1))).1)).2))<(if y9.1<(if y10.1<4611686018427387904 then y10.1 else 4611686018427387904)then y9.1 else(if y10.1<4611686018427387904 then y10.1 else 4611686018427387904))then i64.wrap (((hid (y11.1)).1)-((hid ((sqF (hid (y12.1))).1)).2))else(if y9.1<(if y10.1<4611686018427387904 then y10.1 else 4611686018427387904)then y9.1 else(if y10.1<4611686018427387904 then y10.1 else 4611686018427387904)),(if y9.2>(if y10.2> -4611686018427387904 then y10.2 else-4611686018427387904)then y9.2 else(if y10.2> -4611686018427387904 then y10.2 else-4611686018427387904),T'))))])))))))))))))))))))
theorem ahq(c:BCU):RT ajl 227 [.d tCU c] (FW c):=rtX
theorem adV{c:BCU}(h:okC 4000 c/\(c.1=T'->bK c.2.2.1)):∃v:BDs,FW c=S' [.d tBD v]:=by
 obtain⟨a,l,ci,w,f,t⟩:=c;obtain⟨⟨_,_,hf,ht⟩,hc⟩:=h;obtain⟨f,rfl,bf,rf⟩:=bQ hf;obtain⟨t,rfl,bt,rt⟩:=bQ ht;have q:∀r:Rat,prI (frF r).1:=RE.frF_pr;cases a
 ·unfold FW;simp only[aR,dg,aX,Nat.reduceLeDiff,aN];cases(aZ (xP f)).2<;>cases(aZ (yP f)).2<;>cases(aZ (xP t)).2<;>cases(aZ (yP t)).2<;>exact⟨_,rfl⟩
 ·obtain⟨l,rfl,bl,nl⟩:=b9 (hc rfl);unfold FW;simp only[aR,dg,dT (q _),aX,Nat.reduceLeDiff,aN];cases(aZ (xP f)).2<;>cases(aZ (yP f)).2<;>cases(aZ (xP t)).2<;>cases(aZ (yP t)).2<;>cases(frF l.2.1).2<;>cases(frF l.2.2).2<;>cases(sqF (frF l.2.2).1).2<;>cases w<;>exact⟨_,rfl⟩
def Ts(c:BCU):BDs:=Classical.epsilon λv=>FW c=S' [.d tBD v]
def aiH:Cn 227 [tCU]:=cn λ(c:BCU)=>lf (okC 4000 c/\(c.1=T'->bK c.2.2.1)) [.d tBD (Ts c)] λh=>by
 refine bj Ie (ahq _ ?_);exact anZ (adV h)
def abq(a b:BDs)(_k:KT):OLR:=match a.2.2.2.2 with|T'=>(match b.2.2.2.2 with|T'=>(match D' (a.2.1<b.1)with|T'=>S' [RV.d .bool T']|F'=>(match D' (b.2.1<a.1)with|T'=>S' [RV.d .bool T']|F'=>(match D' (a.2.2.2.1<b.2.2.1)with|T'=>S' [RV.d .bool T']|F'=>S' [RV.d .bool (D' (b.2.2.2.1<a.2.2.1))])))|F'=>S' [RV.d .bool F'])|F'=>S' [RV.d .bool F']
def alD:Cn 228 [tBD,tBD]:=cn λ(a b:BDs)=>lf True [.d .bool (Xw a b)] λ_=>by
 refine aA Ie (abq a b) ⟨0,?_⟩;unfold abq Xw;cases a.2.2.2.2<;>cases b.2.2.2.2<;>cases D' (a.2.1<b.1)<;>cases D' (b.2.1<a.1)<;>cases D' (a.2.2.2.1<b.2.2.1)<;>rfl
def aj8:Cn 81 [tCU,(.sl tP)]:=cn λ(c:BCU) (l:List BP)=>lf (wF c l) [.d (.sl tCU) ([c]),.d arf 0] λh=>by
 have e:CQq7 81 [.d tCU c,.d (.sl tP) l] [.d (.sl tCU) (oU c l),.d arf (VC c l)]:=(Gi.g c l).h h.1;rw[(Ji h).1,(Ji h).2]at e;exact e
def Pf:List En:=[enT aiH,enT alD,enL Kf,enK aj8]
def acI:NT:=[((149,8),{keep:=[0,3,19,20,21],hl:=99}),((149,27),{keep:=[0,3,6,36,37],hl:=99}),((149,41),{keep:=[0,3,6,7,36,37,40,41],hl:=99}),((149,69),{keep:=[6,11,85,86,87],hl:=99})]
def ajo:Ctx:=CX (ens Pf) acI
def YD(c:BO3):OLR:=og (D' (okC 4000 (loM c)/\((loM c).1=T'->bK (loM c).2.2.1))) (og (D' (okC 4000 (upM c)/\((upM c).1=T'->bK (upM c).2.2.1))) (match Xw (hid (Ts (upM c))) (hid (Ts (loM c)))with|T'=>(og (D' (wF (loM c) ([]))) (og (D' (wF (upM c) ([]))) (S' [RV.new 48 tCU ([(loM c),(upM c)])])))|F'=>(og (D' (lw (upM c) (loM c))) (dup (.b (.b .l .l) .l) (og (D' ((ml (upM c) (loM c)).length*320<=140737488355328/\(ml (upM c) (loM c)).length<=140737488355328)) (og (D' ((ml (upM c) (loM c)).length*320<=140737488355328/\(ml (upM c) (loM c)).length<=140737488355328)) (og (D' (wF (loM c) (ml (upM c) (loM c)))) (og (D' (wF (upM c) (ml (upM c) (loM c)))) (S' [RV.new 48 tCU ([(loM c),(upM c)])])))))))))
theorem akQ(c:BO3):RT ajo 149 [.d (.sl tCU) ([loM c,upM c])] (YD c):=rtX
def akw:Cn 149 [(.sl tCU)]:=cn λ(l:List BCU)=>lf (mv l) [.new 48 tCU l] λh=>by
 obtain⟨c,hc,rfl⟩:=h;obtain⟨e1,e2,e3,e4,hp,hl⟩:=U3 hc;refine bj Pf (akQ c ?_);unfold YD;simp only[dg];have b1:okC 4000 (loM c)/\((loM c).1=T'->bK (loM c).2.2.1):=⟨e3.1.1,λ_=>hc⟩
 have b2:okC 4000 (upM c)/\((upM c).1=T'->bK (upM c).2.2.1):=⟨e4.1.1,λ_=>hc⟩
 have b3:(ml (upM c) (loM c)).length*320<=140737488355328/\(ml (upM c) (loM c)).length<=140737488355328:=by omega
 rw[dT b1,dT b2,dT e1,dT e2,dT e3,dT e4,dT hp,dT b3];cases Xw (hid (Ts (upM c))) (hid (Ts (loM c)))<;>rfl
end
section
open RE
def adT(r s:Rt):Rt:=coR (r.1+s.1) (r.2.1+s.2.1) (gF r s)
def iG(c:BCU):Int:=bif c.2.2.2.1 then 1 else-1
def L4(c:BCU)(p:BP):Prop:=∃x,bK x/\(c=loM x\/c=upM x)/\p=enc (dY (dec x))
instance (c:BCU) (p:BP):Decidable (L4 c p):=Classical.propDecidable _
def Ea(c d:BCU):Prop:=∃x,bK x/\(c=loM x\/c=upM x)/\(d=loM x\/d=upM x)
instance (c d:BCU):Decidable (Ea c d):=Classical.propDecidable _
def t5(c d:BCU):Int:=bif D' (iG c<iG d)then-1 else bif D' (iG c>iG d)then 1 else 0
theorem agT{c:Ln}:yP (dY c)=(c.2.1,0,0):=by
 rw[oo.1];unfold da mh yP;cases eH c.2.2
 ·rfl
 ·show coR (c.2.1+0*rtQ c.2.2) 0 0=_;rw[aqP,Rat.add_zero];rfl
def QO:Cn 292 [(.int .u64)]:=cn λ(x:Int)=>lf (x=2) [.d arf 2] λh=>by
 subst h;exact bj [] (N:=[]) ((rtX:RT (CX (ens []) []) 292 [.d (.int .u64) (2:Int)] (S' [.d arf (2:Int)])) rfl)
def TK:List En:=[]
def ail:Ctx:=CX (ens TK) []
def abs(x:SLp):OLR:=match x.1==2 with|T'=>N'|F'=>S' [RV.d arf x.1]
theorem ame(x:SLp):RT ail 373 [.d kO x,.dead] (abs x):=rtX
def akv:CG (CQq7 373) [kO] (·++[.dead]):=λ(x:SLp)=>lf (x.1≠2) [.d arf x.1] λh=>by
 refine bj TK (ame x ?_);unfold abs;rw[show(x.1==2)=F' from aom.2 h]
def N8:List En:=[⟨94,fp,dJ⟩,⟨46,jL,fN⟩,⟨122,oB,jv⟩,enL J3]
def afS:NT:=[((375,3),{keep:=[2,3,4,11],hl:=0})]
def ami:Ctx:=CX (ens N8) afS
def ZK(r s:BO3)(_k:KT):OLR:=og (o1 r.2.1) (match(aD (ag r.2.1) 0)==0 with|T'=>(og (o2 r.1 s.1) (og (o2 r.2.1 s.2.1) (og (D' (okR (hAd r.1 s.1)/\okR (hAd r.2.1 s.2.1)/\okR s.2.2)) (S' [RV.d tO (hid (enc (coR (ag (hAd r.1 s.1)) (ag (hAd r.2.1 s.2.1)) (ag s.2.2)))),RV.d arf 0]))))|F'=>(og (o1 s.2.1) (match(aD (ag s.2.1) 0)==0 with|T'=>(og (o2 r.1 s.1) (og (o2 r.2.1 s.2.1) (og (D' (okR (hAd r.1 s.1)/\okR (hAd r.2.1 s.2.1)/\okR r.2.2)) (S' [RV.d tO (hid (enc (coR (ag (hAd r.1 s.1)) (ag (hAd r.2.1 s.2.1)) (ag r.2.2)))),RV.d arf 0]))))|F'=>(og (o2 r.2.2 s.2.2) (match !((aD (ag r.2.2) (ag s.2.2))==0)with|T'=>S' [RV.d tO (((F',[]),(F',[])),(((F',[]),(F',[])),((F',[]),(F',[])))),RV.d arf 1]|F'=>(og (o2 r.1 s.1) (og (o2 r.2.1 s.2.1) (og (D' (okR (hAd r.1 s.1)/\okR (hAd r.2.1 s.2.1)/\okR r.2.2)) (S' [RV.d tO (hid (enc (coR (ag (hAd r.1 s.1)) (ag (hAd r.2.1 s.2.1)) (ag r.2.2)))),RV.d arf 0])))))))))
theorem alw(r s:BO3):RS ami 375 [.d tO r,.d tO s] (ZK r s):=rsX
def aaj:Cn 375 [tO,tO]:=cn λ(r s:BO3)=>lf (okT 15000 r/\okT 15000 s/\(dec s:Rt).2.1=0) [.d tO (enc (adT (dec r) (dec s))),.d arf 0] λh=>by
 refine bj N8 (alw _ _ ⟨0,?_⟩);obtain⟨hr,hs,h0⟩:=h;obtain⟨r,rfl,br,rr⟩:=gD hr;obtain⟨s,rfl,bs,rs⟩:=gD hs;rw[aq]at h0;unfold ZK adT gF;simp only[aR,aq,dT h0,aX,Nat.reduceAdd,Nat.reduceLeDiff,am];by_cases h1:r.2.1=0
 ·rw[dT h1];rfl
 ·rw[dF h1];rfl
def aeP:List En:=[⟨94,fp,dJ⟩,enL aaG]
def abj(r:BO3)(_k:KT):OLR:=match D' (okR r.1)with|T'=>(match D' (okR r.2.1)with|T'=>(match(aD (ag r.2.1) 0)==0 with|T'=>S' [RV.d arf (aD (ag r.1) 0)]|F'=>(match(aD (ag r.1) 0)==(aD (ag r.2.1) 0)with|T'=>S' [RV.d arf (aD (ag r.1) 0)]|F'=>(match(aD (ag r.1) 0)==0 with|T'=>S' [RV.d arf (aD (ag r.2.1) 0)]|F'=>(match D' (ok Rt 15000 r)with|T'=>(match D' (okR (hid (av (noR (dec r)))))with|T'=>S' [RV.d arf (i64.wrap ((aD (ag r.1) 0)*(aD (ag (hid (av (noR (dec r))))) 0)))]|F'=>N')|F'=>N'))))|F'=>N')|F'=>N'
def alg:Cn 384 [tO]:=cn λ(r:BO3)=>lf (okT 15000 r) [.d arf (sgR (dec r))] λh=>by
 refine aA aeP (abj r) ⟨0,?_⟩;have hr:=h;obtain⟨r,rfl,br,rr⟩:=gD hr;unfold abj;simp only[aR,aq,uc,Ee,lZ,eP,okd,zG,Nat.reduceAdd,Nat.reduceMul,Nat.reduceLeDiff,vY (jf _ _) (jf _ _)];rw[XZ rr];cases aD r.2.1 0==0
 ·cases aD r.1 0==aD r.2.1 0
  ·cases aD r.1 0==0<;>rfl
  ·rfl
 ·rfl
def OD:List En:=[enT alg,enL aaG,⟨164,uU,qj⟩,⟨194,i7,ff⟩,⟨196,mE,ij⟩,⟨123,jO,fL⟩,enL J3]
def agj:NT:=[((362,21),{keep:=[1,2,3,4,21,22,23,24,25,26,27,28,29,30],hl:=0})]
def ag3:Ctx:=CX (ens OD) agj
def X4(r:BO3)(_k:KT):OLR:=og (D' (okT 15000 r)) (match(sgR (dec r))==0 with|T'=>S' [RV.d tO (((F',[]),(F',[])),(((F',[]),(F',[])),((F',[]),(F',[])))),RV.d arf 6]|F'=>(og (D' (bH (1:Int))) (og (D' (ok Rt 15000 r)) (og (D' (jX (hid (av ((1:Int):Rat))) (hid (av (noR (dec r)))))) (match 0 !=0 with|T'=>S' [RV.d tO (((F',[]),(F',[])),(((F',[]),(F',[])),((F',[]),(F',[])))),RV.d arf 0]|F'=>(og (o1 r.2.1) (og (o2 r.1 (hDi (hid (av ((1:Int):Rat))) (hid (av (noR (dec r)))))) (og (o2 (hNe r.2.1) (hDi (hid (av ((1:Int):Rat))) (hid (av (noR (dec r)))))) (og (D' (okR (hMu r.1 (hDi (hid (av ((1:Int):Rat))) (hid (av (noR (dec r))))))/\okR (hMu (hNe r.2.1) (hDi (hid (av ((1:Int):Rat))) (hid (av (noR (dec r))))))/\okR r.2.2)) N')))))))))
theorem ajN(r:BO3):RS ag3 362 [.d tO r] (X4 r):=rsX
def ZP:Cn 362 [tO]:=cn λ(r:BO3)=>lf (okT 15000 r/\sgR (dec r)=0) [.d tO z3,.d arf 6] λh=>by
 refine bj OD (ajN _ ⟨0,?_⟩);unfold X4 z3;rw[dT h.1,h.2];rfl
def afH:List En:=[enL ww,enL DQ,enL un,enL aaj,enL ZP,⟨196,mE,ij⟩,⟨164,uU,qj⟩,⟨94,fp,dJ⟩]
def ZU(c:BCU)(p:BP)(_k:KT):OLR:=match !c.1 with|T'=>(og (o1 c.2.1.2.1) (match(aD (ag c.2.1.2.1) 0)==0 with|T'=>S' [RV.d kO (2,(((F',[]),(F',[])),(((F',[]),(F',[])),((F',[]),(F',[])))))]|F'=>(og (o1 c.2.1.1) (og (D' (jX (hNe c.2.1.1) c.2.1.2.1)) (og (o1 (hDi (hNe c.2.1.1) c.2.1.2.1)) (S' [RV.d kO (0,hid (enc ((ag (hDi (hNe c.2.1.1) c.2.1.2.1),0,0):Rt)))]))))))|F'=>(og (D' (okP 4000 p)) (og (o1 c.2.2.1.1) (og (o1 (hNe c.2.2.1.1)) (og (D' (okT 15000 (hid (enc (xP (dec p))))/\okT 15000 (hid (enc ((ag (hNe c.2.2.1.1),0,0):Rt)))/\(dec (hid (enc ((ag (hNe c.2.2.1.1),0,0):Rt))):Rt).2.1=0)) (og (D' (okP 4000 p)) (og (o1 c.2.2.1.2.1) (og (o1 (hNe c.2.2.1.2.1)) (og (D' (okT 15000 (hid (enc (yP (dec p))))/\okT 15000 (hid (enc ((ag (hNe c.2.2.1.2.1),0,0):Rt)))/\(dec (hid (enc ((ag (hNe c.2.2.1.2.1),0,0):Rt))):Rt).2.1=0)) (og (D' (okT 15000 (hid (enc (adT (dec (hid (enc (yP (dec p))))) (dec (hid (enc ((ag (hNe c.2.2.1.2.1),0,0):Rt)))))))/\sgR (dec (hid (enc (adT (dec (hid (enc (yP (dec p))))) (dec (hid (enc ((ag (hNe c.2.2.1.2.1),0,0):Rt))))))))=0)) (match 6 !=0 with|T'=>(match c.2.2.2.1 with|T'=>S' [RV.d kO (1,(((F',[]),(F',[])),(((F',[]),(F',[])),((F',[]),(F',[])))))]|F'=>S' [RV.d kO (-1,(((F',[]),(F',[])),(((F',[]),(F',[])),((F',[]),(F',[])))))])|F'=>dup (.b .l .l) (N')))))))))))
def ahA:Cn 343 [tCU,tP]:=cn λ(c:BCU) (p:BP)=>lf (L4 c p) [.d kO (iG c,z3)] λh=>by
 refine aA afH (ZU c p) ⟨0,?_⟩;obtain⟨x,hx,hc,rfl⟩:=h;obtain⟨o1,_⟩:=rl hx;obtain⟨l,rfl,bl,h0⟩:=b9 hx;have ey:=agT (c:=l);obtain⟨v,e,bv,rv⟩:=bQ o1;rw[aq]at e;have e:=congrArg (dec:BP->Pt) e;rw[aq,aq]at e;subst e;have k:∀{c:BCU},c=loM (enc l)\/c=upM (enc l)->c.1=T'/\c.2.2.1=enc l:=by rintro c (rfl|rfl)<;>exact⟨rfl,rfl⟩
 obtain⟨k1,k2⟩:=k hc
 have ea:adT (yP (dY l)) (-l.2.1,0,0)=(0,0,0):=by
  rw[ey];unfold adT gF coR;rw[show l.2.1+ -l.2.1=0 by grind];show(bif D' ((0:Rat)+0=0)then _ else _)=_;rw[Rat.add_zero,anO rfl];rfl
 have b0:Bd (0:Rat) 3:=dQ (n:=0) (by decide);have s0:sgR ((0,0,0):Rt)=0:=rfl;have b3:Bd ((0,0,0):Rt) 3:=inferInstanceAs (Bd ((0:Rat),(0:Rat),(0:Rat)) 3);have r0:Rdd ((0,0,0):Rt):=⟨.inl ⟨rfl,rfl⟩⟩
 unfold ZU z3 iG;rw[k1,k2];simp only[aR,aq,aX,aC,Nat.reduceLeDiff,aI,aN,am];have e3:∀a:Rat,((av a,av 0,av 0):BO3)=enc ((a,0,0):Rt):=λ_=>rfl;have d3:∀a:Rat,Rdd ((a,0,0):Rt):=λ_=>inferInstance;have t1:okT 15000 (enc ((-l.1,0,0):Rt)):=anP (aI (x:=(-l.1,0,0)) (j:=4) (by decide) (by decide));have t2:okT 15000 (enc ((-l.2.1,0,0):Rt)):=anP (aI (x:=(-l.2.1,0,0)) (j:=4) (by decide) (by decide));have t3:okT 15000 (enc ((0,0,0):Rt)):=anP (aI (x:=(0,0,0)) (j:=3) (by decide) (by decide));simp only[e3];simp only[aq,ea,s0,dT t1,dT t2,dT t3,decide_true,aoW];cases c.2.2.2.1<;>rfl
def OA:List En:=[enT oN,enT oM,enL ahA,⟨46,jL,fN⟩,enT ro,enL J3,enC akv]
def aeC:NT:=[((224,14),{keep:=[2,3,19],hl:=0}),((290,11),{keep:=[2,3,4,5,12,13,14,15,16,17,18,19,20,21,22],hl:=0}),((342,44),{keep:=[60],hl:=0})]
def ahz:Ctx:=CX (ens OA) aeC
def abp(c d:BCU):OLR:=og (D' (okP 4000 c.2.2.2.2.1/\okP 4000 d.2.2.2.2.1)) (match(aB (dec c.2.2.2.2.1) (dec d.2.2.2.2.1)) !=0 with|T'=>S' [RV.d arf (aB (dec c.2.2.2.2.1) (dec d.2.2.2.2.1))]|F'=>(og (D' (okP 4000 c.2.2.2.2.1/\okP 4000 d.2.2.2.2.1)) (match !(aB (dec c.2.2.2.2.1) (dec d.2.2.2.2.1)==0)with|T'=>(og (D' (okP 4000 c.2.2.2.2.2/\okP 4000 d.2.2.2.2.2)) (S' [RV.d arf (aB (dec c.2.2.2.2.2) (dec d.2.2.2.2.2))]))|F'=>(og (D' (L4 c c.2.2.2.2.1)) (og (D' (L4 d d.2.2.2.2.1)) (og (D' ((hid ((iG c,z3))).1≠2)) (og (D' ((hid ((iG d,z3))).1≠2)) (match D' (((hid ((iG c,z3))).1)<((hid ((iG d,z3))).1))with|T'=>S' [RV.d arf (-1)]|F'=>(match D' (((hid ((iG c,z3))).1)>((hid ((iG d,z3))).1))with|T'=>S' [RV.d arf 1]|F'=>(match((hid ((iG c,z3))).1)==2 with|T'=>(og (D' (okP 4000 c.2.2.2.2.2/\okP 4000 d.2.2.2.2.2)) (S' [RV.d arf (aB (dec c.2.2.2.2.2) (dec d.2.2.2.2.2))]))|F'=>(match((hid ((iG c,z3))).1) !=0 with|T'=>(og (o2 c.2.2.1.2.2 d.2.2.1.2.2) (match(i64.wrap (((hid ((iG c,z3))).1)*(aD (ag c.2.2.1.2.2) (ag d.2.2.1.2.2)))) !=0 with|T'=>S' [RV.d arf (i64.wrap (((hid ((iG c,z3))).1)*(aD (ag c.2.2.1.2.2) (ag d.2.2.1.2.2))))]|F'=>(og (D' (okP 4000 c.2.2.2.2.2/\okP 4000 d.2.2.2.2.2)) (S' [RV.d arf (aB (dec c.2.2.2.2.2) (dec d.2.2.2.2.2))]))))|F'=>(og (D' (okT 15000 ((hid ((iG c,z3))).2)/\okT 15000 ((hid ((iG d,z3))).2))) (og ((aU (dec ((hid ((iG c,z3))).2)) (dec ((hid ((iG d,z3))).2))) !=0) (match(i64.wrap (1*(aU (dec ((hid ((iG c,z3))).2)) (dec ((hid ((iG d,z3))).2))))) !=0 with|T'=>S' [RV.d arf (i64.wrap (1*(aU (dec ((hid ((iG c,z3))).2)) (dec ((hid ((iG d,z3))).2)))))]|F'=>(og (D' (okP 4000 c.2.2.2.2.2/\okP 4000 d.2.2.2.2.2)) (S' [RV.d arf (aB (dec c.2.2.2.2.2) (dec d.2.2.2.2.2))]))))))))))))))))
theorem ahC(c d:BCU):RT ahz 224 [.d tCU c,.d tCU d] (abp c d):=rtX
def aaJ:Cn 224 [tCU,tCU]:=cn λ(c d:BCU)=>lf (Ea c d) [.d arf (t5 c d)] λh=>by
 refine bj OA (ahC _ _ ?_);obtain⟨x,hx,hc,hd⟩:=h;obtain⟨w1,w2,z1,z2,_,_⟩:=rl hx
 have k:∀{d:BCU},d=loM x\/d=upM x->d.2.2.2.2.1=enc (dY (dec x))/\d.2.2.2.2.2=enc (eN (dec x))/\d.2.2.1=x/\(iG d= -1\/iG d=1):=by
  rintro d (rfl|rfl)
  ·exact⟨rfl,rfl,rfl,.inl rfl⟩
  ·exact⟨rfl,rfl,rfl,.inr rfl⟩
 obtain⟨c1,c2,c3,c4⟩:=k hc;obtain⟨d1,d2,d3,d4⟩:=k hd;have ac:L4 c (enc (dY (dec x))):=⟨x,hx,hc,rfl⟩
 have ad:L4 d (enc (dY (dec x))):=⟨x,hx,hd,rfl⟩
 have hq:o2 x.2.2 x.2.2=true:=by
  obtain⟨l,rfl,bl,_⟩:=b9 hx;have:okR (enc l).2.2:=anP (zG (q:=l.2.2) (j:=13) (by decide));exact dT ⟨this,this⟩
 have q0:aD (ag x.2.2) (ag x.2.2)=0:=by unfold aD;simp
 unfold abp t5;simp only[aR];rw[c1,d1,c2,d2,c3,d3,dT (show okP 4000 (enc (dY (dec x)))/\okP 4000 (enc (dY (dec x))) from⟨w1,w1⟩),dT (show okP 4000 (enc (eN (dec x)))/\okP 4000 (enc (eN (dec x))) from⟨w2,w2⟩),z1,z2,dT ac,dT ad,hq,q0];rcases c4 with e|e<;>rcases d4 with e'|e'<;>rw[e,e']<;>rfl
end
section
open RE
def lI(c:BCU):SLp:=bif c.1 then(iG c,z3)else bif D' ((dec c.2.1:Ln).2.1=0)then(2,z3)else(0,enc ((-(dec c.2.1:Ln).1/(dec c.2.1:Ln).2.1,0,0):Rt))
def Ih(c:BCU)(p:BP):Prop:=okC 3500 c/\okP 3500 p/\(c.1=T'->yP (dec p)=((dec c.2.2.1:Ln).2.1,0,0))
instance (c:BCU) (p:BP):Decidable (Ih c p):=by unfold Ih;infer_instance
def MF(x:SLp)(s:Int):Int:=bif x.1==2 then i64.wrap (2*s)else x.1
theorem JK(a:Rat):adT (a,0,0) (-a,0,0)=(0,0,0):=by
 unfold adT gF coR;rw[show a+ -a=0 by grind];show(bif D' ((0:Rat)+0=0)then _ else _)=_;rw[Rat.add_zero,anO rfl];rfl
def S4:List En:=[]
def ait:Ctx:=CX (ens S4) []
def Ys(x:SLp)(s:Int)(_k:KT):OLR:=match x.1==2 with|T'=>S' [RV.d arf (i64.wrap (2*s))]|F'=>S' [RV.d arf x.1]
theorem aiJ(x:SLp)(s:Int):RS ait 373 [.d kO x,.elt arf s 0] (Ys x s):=rsX
def akh:CG (CQq7 373) [kO,arf] QJ:=λ(x:SLp) (s:Int)=>lf True [.d arf (MF x s)] λ_=>by
 refine bj S4 (aiJ x s ⟨0,?_⟩);unfold Ys MF;cases x.1==2<;>rfl
def agk:List En:=[enL ww,enL DQ,enL un,enL aaj,enL ZP,⟨196,mE,ij⟩,⟨164,uU,qj⟩,⟨94,fp,dJ⟩]
def Yx(c:BCU)(p:BP)(_k:KT):OLR:=match !c.1 with|T'=>(og (o1 c.2.1.2.1) (match(aD (ag c.2.1.2.1) 0)==0 with|T'=>S' [RV.d kO (2,(((F',[]),(F',[])),(((F',[]),(F',[])),((F',[]),(F',[])))))]|F'=>(og (o1 c.2.1.1) (og (D' (jX (hNe c.2.1.1) c.2.1.2.1)) (og (o1 (hDi (hNe c.2.1.1) c.2.1.2.1)) (S' [RV.d kO (0,hid (enc ((ag (hDi (hNe c.2.1.1) c.2.1.2.1),0,0):Rt)))]))))))|F'=>(og (D' (okP 4000 p)) (og (o1 c.2.2.1.1) (og (o1 (hNe c.2.2.1.1)) (og (D' (okT 15000 (hid (enc (xP (dec p))))/\okT 15000 (hid (enc ((ag (hNe c.2.2.1.1),0,0):Rt)))/\(dec (hid (enc ((ag (hNe c.2.2.1.1),0,0):Rt))):Rt).2.1=0)) (og (D' (okP 4000 p)) (og (o1 c.2.2.1.2.1) (og (o1 (hNe c.2.2.1.2.1)) (og (D' (okT 15000 (hid (enc (yP (dec p))))/\okT 15000 (hid (enc ((ag (hNe c.2.2.1.2.1),0,0):Rt)))/\(dec (hid (enc ((ag (hNe c.2.2.1.2.1),0,0):Rt))):Rt).2.1=0)) (og (D' (okT 15000 (hid (enc (adT (dec (hid (enc (yP (dec p))))) (dec (hid (enc ((ag (hNe c.2.2.1.2.1),0,0):Rt)))))))/\sgR (dec (hid (enc (adT (dec (hid (enc (yP (dec p))))) (dec (hid (enc ((ag (hNe c.2.2.1.2.1),0,0):Rt))))))))=0)) (match 6 !=0 with|T'=>(match c.2.2.2.1 with|T'=>S' [RV.d kO (1,(((F',[]),(F',[])),(((F',[]),(F',[])),((F',[]),(F',[])))))]|F'=>S' [RV.d kO (-1,(((F',[]),(F',[])),(((F',[]),(F',[])),((F',[]),(F',[])))))])|F'=>dup (.b .l .l) (N')))))))))))
def alt:Cn 343 [tCU,tP]:=cn λ(c:BCU) (p:BP)=>lf (Ih c p) [.d kO (lI c)] λh=>by
 refine aA agk (Yx c p) ⟨0,?_⟩;obtain⟨hc,hp,hy⟩:=h;obtain⟨p,rfl,bp,rp⟩:=bQ hp;obtain⟨ar,li,ci,cw,fr,to⟩:=c;obtain⟨h1,h2,_,_⟩:=hc;dsimp only at h1 h2 hy;rw[aq]at hy;unfold Yx lI z3 iG;cases ar
 ·obtain⟨l,rfl,bl⟩:=aL (h2 rfl).1;by_cases hb:l.2.1=0
  ·simp only[aR,aq,aX,aC,Nat.reduceLeDiff,aI,aN,am,hb];rfl
  ·simp only[aR,aq,aX,aC,Nat.reduceAdd,Nat.reduceLeDiff,aI,aN,am,hb,ne_eq,apk];rfl
 ·obtain⟨l,rfl,bl⟩:=aL (h1 rfl).1;have hy:=hy rfl;rw[aq]at hy;have b0:Bd (0:Rat) 3:=dQ (n:=0) (by decide);have s0:sgR ((0,0,0):Rt)=0:=rfl;have b3:Bd ((0,0,0):Rt) 3:=inferInstanceAs (Bd ((0:Rat),(0:Rat),(0:Rat)) 3);have r0:Rdd ((0,0,0):Rt):=⟨.inl ⟨rfl,rfl⟩⟩
  have e3:∀a:Rat,((av a,av 0,av 0):BO3)=enc ((a,0,0):Rt):=λ_=>rfl;have t1:okT 15000 (enc ((-l.1,0,0):Rt)):=anP (aI (x:=(-l.1,0,0)) (by decide) (by decide));have t2:okT 15000 (enc ((-l.2.1,0,0):Rt)):=anP (aI (x:=(-l.2.1,0,0)) (by decide) (by decide));have t4:okT 15000 (enc ((l.2.1,0,0):Rt)):=anP (aI (x:=(l.2.1,0,0)) (by decide) (by decide));have t3:okT 15000 (enc ((0,0,0):Rt)):=anP (aI (x:=(0,0,0)) (j:=3) (by decide) (by decide));simp only[aR,aq,hy,aX,aC,Nat.reduceLeDiff,aI,aN,am];simp only[e3];simp only[aq,JK,s0,dT t1,dT t2,dT t3,dT t4,decide_true,aoW];cases cw<;>rfl
end
section
open RE
def afM(c d:BCU):Prop:=c.1=F'/\d.1=F'/\okC 3500 c/\okC 3500 d/\(aB (dec c.2.2.2.2.1) (dec d.2.2.2.2.1)≠0\/(lI c).1≠(lI d).1)
instance (c d:BCU):Decidable (afM c d):=by unfold afM;infer_instance
def aaa(c d:BCU):Int:=bif aB (dec c.2.2.2.2.1) (dec d.2.2.2.2.1) !=0 then aB (dec c.2.2.2.2.1) (dec d.2.2.2.2.1)else bif D' ((lI c).1<(lI d).1)then-1 else 1
theorem aaV{c:BCU}(h:c.1=F'):(lI c).1=0\/(lI c).1=2:=by
 unfold lI;rw[h,cond_false];cases D' ((dec c.2.1:Ln).2.1=0)
 ·exact .inl rfl
 ·exact .inr rfl
def Nk:List En:=[enT oN,enT oM,enL alt,⟨46,jL,fN⟩,enT ro,enM akh]
def aeq:NT:=[((224,14),{keep:=[2,3,19],hl:=0}),((290,11),{keep:=[2,3,4,5,12,13,14,15,16,17,18,19,20,21,22],hl:=0}),((342,44),{keep:=[60],hl:=0})]
def ajy:Ctx:=CX (ens Nk) aeq
def aaF(c d:BCU)(_k:KT):OLR:=let y1:=aB (dec c.2.2.2.2.1) (dec d.2.2.2.2.1);let y2:OLR:=match D' (okP 4000 c.2.2.2.2.2/\okP 4000 d.2.2.2.2.2)with|T'=>S' [RV.d arf (aB (dec c.2.2.2.2.2) (dec d.2.2.2.2.2))]|F'=>N';let y3:OLR:=match 0 !=0 with|T'=>S' [RV.d arf 0]|F'=>y2;let y4:=MF (hid (lI c)) (1:Int);let y5:=MF (hid (lI d)) (1:Int);let y6:=i64.wrap (((hid (lI c)).1)*(aD (ag c.2.2.1.2.2) (ag d.2.2.1.2.2)));let y7:=aU (dec ((hid (lI c)).2)) (dec ((hid (lI d)).2));let y8:=i64.wrap (1*y7);og (D' (okP 4000 c.2.2.2.2.1/\okP 4000 d.2.2.2.2.1)) (match y1 !=0 with|T'=>S' [RV.d arf y1]|F'=>(og (D' (okP 4000 c.2.2.2.2.1/\okP 4000 d.2.2.2.2.1)) (match !(aB (dec c.2.2.2.2.1) (dec d.2.2.2.2.1)==0)with|T'=>(match 1==0 with|T'=>y3|F'=>y2)|F'=>(og (D' (Ih c c.2.2.2.2.1)) (og (D' (Ih d d.2.2.2.2.1)) (match D' (y4<y5)with|T'=>(match 0==0 with|T'=>(match(-1) !=0 with|T'=>S' [RV.d arf (-1)]|F'=>y2)|F'=>y2)|F'=>(match D' (y4>y5)with|T'=>(match 0==0 with|T'=>(match 1 !=0 with|T'=>S' [RV.d arf 1]|F'=>y2)|F'=>y2)|F'=>(match((hid (lI c)).1)==2 with|T'=>(match 0==0 with|T'=>y3|F'=>y2)|F'=>(match((hid (lI c)).1) !=0 with|T'=>(og (o2 c.2.2.1.2.2 d.2.2.1.2.2) (match 0==0 with|T'=>(match y6 !=0 with|T'=>S' [RV.d arf y6]|F'=>y2)|F'=>y2))|F'=>(og (D' (okT 15000 ((hid (lI c)).2)/\okT 15000 ((hid (lI d)).2))) (og (y7 !=0) (match 0==0 with|T'=>(match y8 !=0 with|T'=>S' [RV.d arf y8]|F'=>y2)|F'=>y2))))))))))))
theorem aiE(c d:BCU):RS ajy 224 [.d tCU c,.d tCU d] (aaF c d):=rsX
def O5:Cn 224 [tCU,tCU]:=cn λ(c d:BCU)=>lf (afM c d) [.d arf (aaa c d)] λh=>by
 refine bj Nk (aiE _ _ ⟨0,?_⟩);obtain⟨a1,a2,b1,b2,hne⟩:=h;have c4:=bi (k:=4000) b1 (by decide) (by decide);have d4:=bi (k:=4000) b2 (by decide) (by decide);have m1:Ih c c.2.2.2.2.1:=⟨b1,b1.2.2.1,λe=>by rw[a1]at e;cases e⟩
 have m2:Ih d d.2.2.2.2.1:=⟨b2,b2.2.2.1,λe=>by rw[a2]at e;cases e⟩
 have k:∀x:SLp,x.1=0\/x.1=2->MF x 1=x.1:=λx h=>by
  unfold MF;rcases h with e|e<;>rw[e]<;>rfl
 have e1:=k _ (aaV a1);have e2:=k _ (aaV a2);unfold aaF aaa;simp only[aR,e1,e2];rw[dT (show okP 4000 c.2.2.2.2.1/\okP 4000 d.2.2.2.2.1 from⟨c4.2.2.1,d4.2.2.1⟩),dT m1,dT m2];cases hz:aB (dec c.2.2.2.2.1) (dec d.2.2.2.2.1) !=0
 ·have h0:aB (dec c.2.2.2.2.1) (dec d.2.2.2.2.1)=0:=by simpa using hz
  have hn:=hne.resolve_left (λe=>e h0);rw[h0];rcases Int.lt_or_gt_of_ne hn with g|g
  ·rw[dT g];rfl
  ·rw[dF (show ¬(lI c).1<(lI d).1 by omega),dT (show(lI c).1>(lI d).1 from g)];rfl
 ·rfl
def OX:List En:=[enT oN,enL B0]
def WH:NT:=[((146,24),{keep:=[3,35,36,37],hl:=99}),((289,6),{keep:=[0,1,2,6,7,8],hl:=99}),((340,3),{keep:=[0,1,2,3,8],hl:=99}),((289,22),{keep:=[0,1,2,6],hl:=99}),((146,42),{keep:=[3],hl:=0}),((223,0),{keep:=[],hl:=0}),((289,20),{keep:=[0,1,2,6],hl:=0})]
def ac8:Ctx:=CX (ens OX) WH
def TO(li ci:BO3)(cw:Bool)(fr to:BP):OLR:=og (D' (okP 4000 fr/\okP 4000 to)) (match D' ((aB (dec fr) (dec to))>0)with|T'=>S' [RV.new 48 tCU ([hid (gT (F',(li,(ci,(cw,(fr,to))))))])]|F'=>S' [RV.new 48 tCU ([(F',(li,(ci,(cw,(fr,to)))))])])
theorem afx(li ci:BO3)(cw:Bool)(fr to:BP):RT ac8 146 [.d tCU (F',(li,(ci,(cw,(fr,to)))))] (TO li ci cw fr to):=rtX
def IB:Cn 146 [tCU]:=cn λ(c:BCU)=>lf (c.1=F'/\okP 4000 c.2.2.2.2.1/\okP 4000 c.2.2.2.2.2) [.new 48 tCU ([jR c])] λh=>by
 obtain⟨ar,li,ci,cw,fr,to⟩:=c;obtain⟨ha,h1,h2⟩:=h;have ha:ar=false:=ha;subst ha;refine bj OX (afx li ci cw fr to ?_);unfold TO jR;rw[dT (show okP 4000 fr/\okP 4000 to from⟨h1,h2⟩)];simp only[aR];cases D' (aB (dec fr) (dec to)>0)<;>rfl
end
abbrev RgE:Type:=BP×Int×Bool
abbrev dK:Ty:=.st (.pair tP (.pair arf .bool))
theorem Nw{α:Type}{lt:α->α->Bool}{l:List α}{I:Nat->Nat->List α->Prop}{O:Nat->List α->Prop}
  (h0:∀i r,r.Perm l->i<l.length->O (i+1) r->I i 0 r)
  (h1:∀i j r a b,r.Perm l->i<l.length->j<i->r[j+1]?=S' a->r[j]?=S' b->(bif lt a b then I i j ((r.set (j+1) b).set j a)else O (i+1) r)->I i (j+1) r) (i:Nat) (hi:i<l.length):
  ∀(L:List α) (a:α) (R:List α),(L.reverse++a::R).Perm l->L.length<=i->O (i+1) ((lH lt L a).reverse++R)->I i L.length (L.reverse++a::R)
 |[],a,R,hp,hl,h=>h0 i _ hp hi h
 |b::L,a,R,hp,hl,h=>by
  have e:(b::L).reverse++a::R=L.reverse++b::a::R:=by simp
  rw[e]at hp ⊢;have hl:L.length+1<=i:=hl;refine h1 i L.length _ a b hp hi (by omega) (by simp) (by simp) ?_;unfold lH at h;cases hlt:lt a b
  ·rw[hlt,cond_false]at h;rw[cond_false];simpa using h
  ·rw[hlt,cond_true]at h;rw[cond_true];have s:((L.reverse++b::a::R).set (L.length+1) b).set L.length a=L.reverse++a::b::R:=by simp
   rw[s];exact Nw h0 h1 i hi L a (b::R) ((List.Perm.append_left _ (List.Perm.swap ..)).trans hp) (by omega) (by simpa using h)
theorem KC{α:Type}{lt:α->α->Bool}{l:List α}{I:Nat->Nat->List α->Prop}{O:Nat->List α->Prop}
  (h0:∀i r,r.Perm l->i<l.length->O (i+1) r->I i 0 r)
  (h1:∀i j r a b,r.Perm l->i<l.length->j<i->r[j+1]?=S' a->r[j]?=S' b->(bif lt a b then I i j ((r.set (j+1) b).set j a)else O (i+1) r)->I i (j+1) r)
  (hO:∀i r,r.Perm l->i<l.length->I i i r->O i r):
  ∀(R D:List α),(D.reverse++R).Perm l->O l.length (R.foldl (lH lt) D).reverse->O D.length (D.reverse++R)
 |[],D,hp,h=>by
  have:=hp.length_eq;rw[aoi]at*
  rw[show D.length=l.length by simpa using this];exact h
 |a::R,D,hp,h=>by
  have hn:=hp.length_eq;have hn:D.length+(R.length+1)=l.length:=by simpa using hn
  have p2:((lH lt D a).reverse++R).Perm l:=by
   refine List.Perm.trans ?_ hp
   have:∀D:List α,(lH lt D a).reverse.Perm (a::D.reverse):=λD=>(aqF _).trans (by
    induction D with
    |nil=>exact aqJ _
    |cons b D ih=>
     unfold lH;cases lt a b
     ·exact(aqF (b::D)).symm.cons a
     ·refine((ih.cons b).trans (List.Perm.swap ..)).trans (((aqF (b::D)).trans ?_).symm.cons a);exact(aqF D).symm.cons b)
   exact((this D).append_right R).trans (by simpa using(List.perm_middle (l₁:=D.reverse) (l₂:=R) (a:=a)).symm)
  have h2:=KC h0 h1 hO R (lH lt D a) p2 h;rw[qa]at h2;exact hO _ _ hp (by omega) (Nw h0 h1 D.length (by omega) D a R hp (anT _) h2)
theorem VG{α:Type}{lt:α->α->Bool}{l:List α}{I:Nat->Nat->List α->Prop}{O:Nat->List α->Prop}
  (h0:∀i r,r.Perm l->i<l.length->O (i+1) r->I i 0 r)
  (h1:∀i j r a b,r.Perm l->i<l.length->j<i->r[j+1]?=S' a->r[j]?=S' b->(bif lt a b then I i j ((r.set (j+1) b).set j a)else O (i+1) r)->I i (j+1) r)
  (hO:∀i r,r.Perm l->i<l.length->I i i r->O i r) (hE:∀i r,r.Perm l->l.length<=i->r=qX lt l->O i r):O 1 l:=by
 cases l with
 |nil=>exact hE 1 [] (aqJ _) (by simp) rfl
 |cons a R=>
  refine KC (I:=I) h0 h1 hO R [a] (aqJ _) (hE _ _ ?_ (anT _) rfl);refine List.Perm.trans (aqF _) ?_
  have:∀(R D:List α),(R.foldl (lH lt) D).Perm (R++D):=λR=>by
   induction R with
   |nil=>intro D;exact aqJ _
   |cons b R ih=>
    intro D;refine(ih _).trans (List.Perm.trans ?_ (List.perm_middle (l₁:=R) (l₂:=D) (a:=b)));refine List.Perm.append_left R ?_;induction D with
    |nil=>exact aqJ _
    |cons c D ihd=>
     unfold lH;cases lt b c
     ·exact aqJ _
     ·exact(ihd.cons c).trans (List.Perm.swap ..)
  exact(this R [a]).trans (by simp)
def wv(a b:RgE):Bool:=D' (aB (dec a.1) (dec b.1)<0)
def oK:List BCU->Int->List RgE
 |[],_=>[]
 |c::l,i=>(c.2.2.2.2.1,(i,true))::(c.2.2.2.2.2,(i,false))::oK l (i+1)
def tC(l:List BCU):List RgE:=oK l 0
def Wz(l:List BCU):Prop:=l.length<=9/\∀c∈l,okP 4000 c.2.2.2.2.1/\okP 4000 c.2.2.2.2.2
instance (l:List BCU):Decidable (Wz l):=by unfold Wz;infer_instance
theorem AN(c:BCU):∀(l:List BCU) (i:Int),oK (l++[c]) i=oK l i++[(c.2.2.2.2.1,(i+l.length,T')),(c.2.2.2.2.2,(i+l.length,F'))]
 |[],i=>by simp[oK]
 |d::l,i=>by
  rw[List.cons_append,oK,oK,AN c l (i+1)];simp only[List.cons_append,an8];rw[show i+1+(l.length:Int)=i+((l.length+1:Nat):Int) by omega]
theorem uO:∀(l:List BCU) (i:Int),(oK l i).length=2*l.length
 |[],_=>rfl
 |c::l,i=>by rw[oK,an8,an8,uO l,an8];omega
theorem EI:∀{l:List BCU} {i:Int},(∀c∈l,okP 4000 c.2.2.2.2.1/\okP 4000 c.2.2.2.2.2)->∀e∈oK l i,okP 4000 e.1
 |[],_,_,e,he=>by cases he
 |c::l,i,h,e,he=>by
  have hc:=h c (by simp);rw[oK]at he;rcases an6.1 he with q|he
  ·rw[q];exact hc.1
  rcases an6.1 he with q|he
  ·rw[q];exact hc.2
  exact EI (λd hd=>h d (an4 _ hd)) e he
def Tk:cE:={keep:=T',run:=λ_ _ _=>N'}
theorem Tt:SpK 339 Tk:=by
 refine⟨by kernel_rfl,λR args k r h=>(by cases h),(λg h=>(by cases h)),λ_ _ e=>(by cases e)⟩
def Tg:List En:=[enT oN,⟨339,Tk,Tt⟩]
def VB:NT:=[((145,8),{keep:=[3,6,7,8],own:=[(3,168,dK)],hl:=2,pd:=1}),((288,6),{keep:=[0,1,2,6,7,8],hl:=2}),((338,3),{keep:=[0,1,2,3,8],hl:=2}),((338,15),{keep:=[0,1,2,3,8,9],hl:=2}),((288,22),{keep:=[0,1,2,6],hl:=2}),((288,34),{keep:=[0,1,2,6,7,8],hl:=2}),((145,22),{keep:=[3],hl:=0}),((218,0),{keep:=[],hl:=0}),((288,15),{keep:=[0,1,2,6,8],hl:=0}),((288,20),{keep:=[0,1,2,6],hl:=0}),((338,18),{keep:=[0,1,2,3,8,9,18,19,20,21,22,23,24,25,26,27,28,29,30,31,32,33,34],hl:=0})]
def gC:Ctx:=CX (ens Tg) VB
def wM(l:List BCU)(s8:Int)(r1:List RgE):Cfg:=⟨145,[.blk 0,.seq 21],[(3,.own 1),(6,.own 0),(7,SI (l.length:Int)),(8,SI s8)],[.len tCU l,.row 168 dK r1],0,[]⟩
def pF(l:List BCU)(r1:List RgE)(s288_7 s288_8:Int)(r288_1:List RgE):Cfg:=⟨288,[.blk 0,.seq 19],[(0,.own 1),(1,SI (r1.length:Int)),(2,.clo 219 []),(6,SI 20),(7,SI s288_7),(8,SI s288_8)],[.len tCU l,.row 168 dK r288_1],2,[⟨218,[],0,4,[],2,N'⟩,⟨145,[.seq 23],22,1,[(3,.own 1)],0,N'⟩]⟩
def qc(l:List BCU)(r1:List RgE)(s288_7 s288_8 s338_8:Int)(r338_1:List RgE):Cfg:=⟨338,[.blk 0],[(0,.own 1),(1,SI s288_7),(2,SI s288_8),(3,.clo 219 []),(8,SI s338_8)],[.len tCU l,.row 168 dK r338_1],2,[⟨288,[.seq 16,.blk 1,.lp 6,.blk 0,.seq 19],15,4,[(0,.own 1),(1,SI (r1.length:Int)),(2,.clo 219 []),(6,SI 20),(8,SI s288_8)],2,N'⟩,⟨218,[],0,4,[],2,N'⟩,⟨145,[.seq 23],22,1,[(3,.own 1)],0,N'⟩]⟩
def eK(l:List BCU)(r1:List RgE)(s288_7 s338_8:Int)(r338_1:List RgE):Cfg:=⟨338,[.blk 0],[(0,.own 1),(1,SI s288_7),(2,SI (r1.length:Int)),(3,.clo 219 []),(8,SI s338_8)],[.len tCU l,.row 168 dK r338_1],2,[⟨288,[.seq 21],20,4,[(0,.own 1),(1,SI (r1.length:Int)),(2,.clo 219 []),(6,SI 20)],2,N'⟩,⟨218,[],0,4,[],2,N'⟩,⟨145,[.seq 23],22,1,[(3,.own 1)],0,N'⟩]⟩
def DN(l:List BCU)(r1:List RgE)(s288_7 s288_8 s338_8 s338_9:Int)(r338_1:List RgE):Cfg:=⟨338,[.blk 2,.blk 1,.seq 26,.lp 3,.blk 0],[(0,.own 1),(1,SI s288_7),(2,SI s288_8),(3,.clo 219 []),(8,SI s338_8),(9,SI s338_9)],[.len tCU l,.row 168 dK r338_1],2,[⟨288,[.seq 16,.blk 1,.lp 6,.blk 0,.seq 19],15,4,[(0,.own 1),(1,SI (r1.length:Int)),(2,.clo 219 []),(6,SI 20),(8,SI s288_8)],2,N'⟩,⟨218,[],0,4,[],2,N'⟩,⟨145,[.seq 23],22,1,[(3,.own 1)],0,N'⟩]⟩
def fJ(l:List BCU)(r1:List RgE)(s288_7 s338_8 s338_9:Int)(r338_1:List RgE):Cfg:=⟨338,[.blk 2,.blk 1,.seq 26,.lp 3,.blk 0],[(0,.own 1),(1,SI s288_7),(2,SI (r1.length:Int)),(3,.clo 219 []),(8,SI s338_8),(9,SI s338_9)],[.len tCU l,.row 168 dK r338_1],2,[⟨288,[.seq 21],20,4,[(0,.own 1),(1,SI (r1.length:Int)),(2,.clo 219 []),(6,SI 20)],2,N'⟩,⟨218,[],0,4,[],2,N'⟩,⟨145,[.seq 23],22,1,[(3,.own 1)],0,N'⟩]⟩
def oE(l:List BCU)(r1 r338_1:List RgE)(s288_6:Int):Cfg:=⟨288,[.blk 2],[(0,.own 1),(1,SI (r1.length:Int)),(2,.clo 219 []),(6,SI s288_6)],[.len tCU l,.row 168 dK r338_1],2,[⟨218,[],0,4,[],2,N'⟩,⟨145,[.seq 23],22,1,[(3,.own 1)],0,N'⟩]⟩
def D2(l:List BCU)(r1 r338_1:List RgE)(s288_6:Int):Cfg:=⟨288,[.blk 4,.seq 47,.blk 3,.lp 22,.blk 2],[(0,.own 1),(1,SI (r1.length:Int)),(2,.clo 219 []),(6,SI s288_6),(7,SI 0),(8,SI (i64.wrap (2*s288_6)))],[.len tCU l,.row 168 dK r338_1],2,[⟨218,[],0,4,[],2,N'⟩,⟨145,[.seq 23],22,1,[(3,.own 1)],0,N'⟩]⟩
def aeG(l:List BCU)(k:KT):OLR:=k 8 (wM l 0 ([]))
theorem aet(l:List BCU):RSL gC 145 0 [.d (.sl tCU) l] (aeG l):=amQ
def uW(l:List BCU)(s8:Int)(r1:List RgE)(k:KT):OLR:=match D' (s8<(l.length:Int))with|T'=>(match aH l s8 with|S' _=>(match T',l[(s8).toNat]? with|T',S' x1=>(og (D' ((r1.length+([(x1.2.2.2.2.1,(s8,T')),(x1.2.2.2.2.2,(s8,F'))]).length)*336<=140737488355328/\r1.length+([(x1.2.2.2.2.1,(s8,T')),(x1.2.2.2.2.2,(s8,F'))]).length<=140737488355328)) (k 8 (wM l (i64.wrap (s8+1)) (r1++([(x1.2.2.2.2.1,(s8,T')),(x1.2.2.2.2.2,(s8,F'))])))))|_,_=>N')|N'=>N')|F'=>k 6 (pF l r1 0 20 r1)
theorem BA(l:List BCU)(s8:Int)(r1:List RgE):RN gC 8 (wM l s8 r1) (uW l s8 r1):=rnX
def rm(l:List BCU)(r1:List RgE)(s288_7 s288_8:Int)(r288_1:List RgE)(k:KT):OLR:=match D' (s288_8<=(r1.length:Int))with|T'=>k 3 (qc l r1 s288_7 s288_8 (i64.wrap (s288_7+1)) r288_1)|F'=>k 3 (eK l r1 s288_7 (i64.wrap (s288_7+1)) r288_1)
theorem Aq(l:List BCU)(r1:List RgE)(s288_7 s288_8:Int)(r288_1:List RgE):RN gC 6 (pF l r1 s288_7 s288_8 r288_1) (rm l r1 s288_7 s288_8 r288_1):=rnX
def jW(l:List BCU)(r1:List RgE)(s288_7 s338_8:Int)(r338_1:List RgE)(k:KT):OLR:=match D' (s338_8<(r1.length:Int))with|T'=>k 15 (fJ l r1 s288_7 s338_8 s338_8 r338_1)|F'=>k 22 (oE l r1 r338_1 20)
theorem oO(l:List BCU)(r1:List RgE)(s288_7 s338_8:Int)(r338_1:List RgE):RN gC 3 (eK l r1 s288_7 s338_8 r338_1) (jW l r1 s288_7 s338_8 r338_1):=rnX
def T8(l:List BCU)(r1:List RgE)(s288_7 s288_8 s338_8 s338_9:Int)(r338_1:List RgE)(k:KT):OLR:=match D' (s338_9>s288_7)with|T'=>(match aH r338_1 s338_9 with|S' _=>(match T',r338_1[(s338_9).toNat]? with|T',S' x2=>(match aH r338_1 (i64.wrap (s338_9-1))with|S' _=>(match T',r338_1[(i64.wrap (s338_9-1)).toNat]? with|T',S' x3=>(og (D' (okP 4000 x2.1/\okP 4000 x3.1)) (match D' ((aB (dec x2.1) (dec x3.1))<0)with|T'=>(match aH r338_1 (i64.wrap (s338_9-1))with|S' _=>(match T',r338_1[(i64.wrap (s338_9-1)).toNat]? with|T',S' x4=>(match aH r338_1 s338_9 with|S' _=>(match T',r338_1[(s338_9).toNat]? with|T',S' x5=>(match aH r338_1 s338_9 with|S' _=>(match T',r338_1[(s338_9).toNat]? with|T',S' _=>(match aH (r338_1.set ((s338_9).toNat) x4) (i64.wrap (s338_9-1))with|S' _=>(match T',(r338_1.set ((s338_9).toNat) x4)[(i64.wrap (s338_9-1)).toNat]? with|T',S' _=>k 15 (DN l r1 s288_7 s288_8 s338_8 (i64.wrap (s338_9-1)) ((r338_1.set ((s338_9).toNat) x4).set ((i64.wrap (s338_9-1)).toNat) x5))|_,_=>N')|N'=>N')|_,_=>N')|N'=>N')|_,_=>N')|N'=>N')|_,_=>N')|N'=>N')|F'=>k 3 (qc l r1 s288_7 s288_8 (i64.wrap (s338_8+1)) r338_1)))|_,_=>N')|N'=>N')|_,_=>N')|N'=>N')|F'=>k 3 (qc l r1 s288_7 s288_8 (i64.wrap (s338_8+1)) r338_1)
def fO(l:List BCU)(r1:List RgE)(s288_7 s338_8 s338_9:Int)(r338_1:List RgE)(k:KT):OLR:=match D' (s338_9>s288_7)with|T'=>(match aH r338_1 s338_9 with|S' _=>(match T',r338_1[(s338_9).toNat]? with|T',S' x2=>(match aH r338_1 (i64.wrap (s338_9-1))with|S' _=>(match T',r338_1[(i64.wrap (s338_9-1)).toNat]? with|T',S' x3=>(og (D' (okP 4000 x2.1/\okP 4000 x3.1)) (match D' ((aB (dec x2.1) (dec x3.1))<0)with|T'=>(match aH r338_1 (i64.wrap (s338_9-1))with|S' _=>(match T',r338_1[(i64.wrap (s338_9-1)).toNat]? with|T',S' x4=>(match aH r338_1 s338_9 with|S' _=>(match T',r338_1[(s338_9).toNat]? with|T',S' x5=>(match aH r338_1 s338_9 with|S' _=>(match T',r338_1[(s338_9).toNat]? with|T',S' _=>(match aH (r338_1.set ((s338_9).toNat) x4) (i64.wrap (s338_9-1))with|S' _=>(match T',(r338_1.set ((s338_9).toNat) x4)[(i64.wrap (s338_9-1)).toNat]? with|T',S' _=>k 15 (fJ l r1 s288_7 s338_8 (i64.wrap (s338_9-1)) ((r338_1.set ((s338_9).toNat) x4).set ((i64.wrap (s338_9-1)).toNat) x5))|_,_=>N')|N'=>N')|_,_=>N')|N'=>N')|_,_=>N')|N'=>N')|_,_=>N')|N'=>N')|F'=>k 3 (eK l r1 s288_7 (i64.wrap (s338_8+1)) r338_1)))|_,_=>N')|N'=>N')|_,_=>N')|N'=>N')|F'=>k 3 (eK l r1 s288_7 (i64.wrap (s338_8+1)) r338_1)
theorem iM(l:List BCU)(r1:List RgE)(s288_7 s338_8 s338_9:Int)(r338_1:List RgE):RN gC 15 (fJ l r1 s288_7 s338_8 s338_9 r338_1) (fO l r1 s288_7 s338_8 s338_9 r338_1):=rnX
def qb(l:List BCU)(r1 r338_1:List RgE)(s288_6:Int)(k:KT):OLR:=match D' (s288_6<(r1.length:Int))with|T'=>k 34 (D2 l r1 r338_1 s288_6)|F'=>S' [RV.new 168 dK r338_1]
theorem yq(l:List BCU)(r1 r338_1:List RgE)(s288_6:Int):RN gC 22 (oE l r1 r338_1 s288_6) (qb l r1 r338_1 s288_6):=rnX
theorem V0(b0:List BCU){l:List RgE}(hl:l.length<=18)(ho:∀e∈l,okP 4000 e.1):gC.Runs 3 (eK b0 l 0 1 l) [.new 168 dK (qX wv l)]:=by
 refine VG (lt:=wv) (l:=l) (I:=λi j r=>gC.Runs 15 (fJ b0 l 0 (i:Int) (j:Int) r) [.new 168 dK (qX wv l)]) (O:=λi r=>gC.Runs 3 (eK b0 l 0 (i:Int) r) [.new 168 dK (qX wv l)]) ?_ ?_ ?_ ?_
 ·rintro i r hp hi ⟨n,hn⟩
  refine iM _ _ _ _ _ _ ⟨n,?_⟩;unfold fO;rw[dF (show ¬((0:Nat):Int)>0 by omega),aT (k:=i) (by omega)];exact hn
 ·intro i j r a b hp hi hj ha hb h;have ew:i64.wrap (((j+1:Nat):Int)-1)=(j:Int):=by rw[aM (by omega) (by omega)];omega
  have la:okP 4000 a.1:=ho a (hp.mem_iff.1 (aoK ha));have lb:okP 4000 b.1:=ho b (hp.mem_iff.1 (aoK hb));have lr:=hp.length_eq;have g:(r.set (j+1) b)[j]?=S' b:=by rw[ao4 (by omega)];exact hb
  have key:∀n R,(match wv a b with
    |true=>gC.k n 15 (fJ b0 l 0 (i:Int) (j:Int) ((r.set (j+1) b).set j a))
    |false=>gC.k n 3 (eK b0 l 0 ((i+1:Nat):Int) r))=some R->fO b0 l 0 (i:Int) ((j+1:Nat):Int) r (gC.k n)=some R:=λn R h=>by
   unfold fO;rw[dT (show((j+1:Nat):Int)>0 by omega),ew,ak,ha,ak,hb,show((j+1:Nat):Int).toNat=j+1 by omega,show((j:Nat):Int).toNat=j by omega,ha,hb];dsimp only;rw[dT (show okP 4000 a.1/\okP 4000 b.1 from⟨la,lb⟩),ak,g,aT (k:=i) (by omega)];dsimp only;unfold wv at h;exact h
  cases hlt:wv a b<;>rw[hlt]at h
  ·obtain⟨n,hn⟩:=h;exact iM _ _ _ _ _ _ ⟨n,key n _ (by rw[hlt];exact hn)⟩
  ·obtain⟨n,hn⟩:=h;exact iM _ _ _ _ _ _ ⟨n,key n _ (by rw[hlt];exact hn)⟩
 ·rintro i r hp hi ⟨n,hn⟩
  refine oO _ _ _ _ _ ⟨n,?_⟩;unfold jW;rw[dT (show(i:Int)<(l.length:Int) by omega)];exact hn
 ·rintro i r hp hi rfl
  have q:gC.Runs 22 (oE b0 l (qX wv l) 20) [.new 168 dK (qX wv l)]:=yq _ _ _ _ ⟨0,by
   unfold qb;rw[dF (show ¬(20:Int)<(l.length:Int) by omega)]⟩
  obtain⟨n,hn⟩:=q;refine oO _ _ _ _ _ ⟨n,?_⟩;unfold jW;rw[dF (show ¬(i:Int)<(l.length:Int) by omega)];exact hn
theorem Xd{l:List BCU}(h:Wz l):∀(j i:Nat),i+j=l.length->gC.Runs 8 (wM l (i:Int) (oK (l.take i) 0)) [.new 168 dK (qX wv (tC l))]:=by
 obtain⟨hl,ho⟩:=h;intro j;induction j with
 |zero=>
  intro i hi;have hn:(tC l).length<=18:=by unfold tC;rw[uO];omega
  obtain⟨n,hn1⟩:=V0 l (l:=tC l) hn (EI ho)
  have q:gC.Runs 6 (pF l (tC l) 0 20 (tC l)) [.new 168 dK (qX wv (tC l))]:=Aq _ _ _ _ _ ⟨n,by
   unfold rm;rw[dF (show ¬(20:Int)<=((tC l).length:Int) by omega)];exact hn1⟩
  obtain⟨m,hm⟩:=q;refine BA _ _ _ ⟨m,?_⟩;unfold uW;rw[dF (show ¬(i:Int)<(l.length:Int) by omega),aoI (by omega)];exact hm
 |succ j ih=>
  intro i hi;have hil:i<l.length:=by omega
  obtain⟨n,hn⟩:=ih (i+1) (by omega);refine BA _ _ _ ⟨n,?_⟩;unfold uW;rw[dT (show(i:Int)<(l.length:Int) by omega),ak,show((i:Nat):Int).toNat=i by omega,anN hil,aT (k:=i) (by omega)];dsimp only;rw[dT (by rw[uO];simp;omega)];rw[List.take_succ_eq_append_getElem hil,AN,aoo,aor (by omega),Int.zero_add]at hn;exact hn
def P9:CG (Iz Tryz.prog 145 0) [(.sl tCU)] id:=λ(l:List BCU)=>lf (Wz l) [.new 168 dK (qX wv (tC l))] λh=>by
 obtain⟨n,hn⟩:=Xd h l.length 0 (an2 _);exact FP Tg (p:=0) (aet _ ⟨n,hn⟩)
end Go.Proofs.YtoimchcjhdcdmaaGreat
end
