/- Arguments of a law as data; the last step of a law's row. -/
import Derived.Test.YtoimchcjhdcdmaaGreatQ7
import Derived.ProofKit
import Derived.OpenShut
import Derived.ChangeSame
import Derived.Deep.Slices
import Derived.Test.YtoimchcjhdcdmaaGreatQ16
import Derived.Test.YtoimchcjhdcdmaaGreatQ15
import Derived.Test.YtoimchcjhdcdmaaGreatQ19
import Derived.Test.YtoimchcjhdcdmaaGreatQ17
import Derived.Test.YtoimchcjhdcdmaaGreatQ14
noncomputable section
namespace Go.Proofs.YtoimchcjhdcdmaaGreat
open Go.RowKit Go.IntKind
open Bool renaming true->T',false->F'
open Option renaming some->S',none->N'
open Decidable renaming decide->D'
theorem arH:type_of% @List.reverse_perm:=@List.reverse_perm
theorem arL:type_of% @List.Perm.refl:=@List.Perm.refl
section
open Go.ChangeShapes Go.WideShapes Go.ChangeAt Go.WideMaps Go.WideElems Go.RowKit
theorem Ou:ownKnob Tryz.prog.godebug=none:=by kernel_rfl
def Ty.ok:(t:Ty)->t.D->Prop
 |.int k,x=>(Lit.int k x).wf=true
 |.bool,_=>True
 |.str,_=>True
 |.sl e,xs=>xs.length<=9223372036854775807/\∀x∈xs,e.ok x
 |.pair a b,x=>a.ok x.1/\b.ok x.2
 |.st a,x=>a.ok x
def yb(rp:TypeId->Ty->Bool)(cells:TypeId->Nat):List Field->Ty->Nat->Bool
 |[],_,_=>false
 |[f],a,off=>rp f.type a&&Nat.beq f.offset off&&Nat.beq (cells f.type) a.n
 |f::g::fs,.pair a b,off=>rp f.type a&&Nat.beq f.offset off&&Nat.beq (cells f.type) a.n&&yb rp cells (g::fs) b (off+a.n)
 |_,_,_=>false
def H7(rp:Ty->Bool)(n:Nat):Nat->Ty->Bool
 |0,_=>false
 |1,a=>rp a&&Nat.beq a.n n
 |k+2,.pair a b=>rp a&&Nat.beq a.n n&&H7 rp n (k+1) b
 |_,_=>false
def rep(P:Program):Nat->TypeId->Ty->Bool
 |0,_,_=>false
 |n+1,t,ty=>match P.underlying t,ty with
  |some (.int k),.int k'=>decide (k=k')
  |some .bool,.bool=>true
  |some .string,.str=>true
  |some (.slice e),.sl ety=>rep P n e ety&&Nat.beq (P.cellsOf e) ety.n&&Nat.ble 1 ety.n
  |some (.struct fs),.st a=>yb (rep P n) P.cellsOf fs.toList a 0&&Nat.beq (P.cellsOf t) a.n
  |some (.array k e),.st a=>H7 (rep P n e) (P.cellsOf e) k a&&Nat.beq (P.cellsOf t) a.n
  |_,_=>false
theorem Xs{w:World}{a:Addr}{v:Value}(h:w.cell? a=S' v):a.block<w.heap.size/\a.spot=none:=by
 unfold World.cell? at h;split at h
 ·rename_i hb;refine⟨(ao6.1 hb).1,?_⟩;simp_all
 grind
theorem F9{α β:Type}{f:α->Option β}:∀{l:List α} {r:List β},l.mapM f=S' r->r.length=l.length/\∀(j:Nat) (y:β),r[j]?=S' y->∃x,l[j]?=S' x/\f x=S' y
 |[],r,h=>by simp at h;subst h;simp
 |x::l,r,h=>by
  rw[List.mapM_cons]at h;cases hx:f x with
  |none=>rw[hx]at h;simp at h
  |some y=>
   rw[hx]at h;cases hl:l.mapM f with
   |none=>rw[hl]at h;simp at h
   |some r'=>
    rw[hl]at h;obtain rfl:y::r'=r:=by simpa using h
    obtain⟨h1,h2⟩:=F9 hl;refine⟨by simp[h1],λj z hz=>?_⟩;cases j with
    |zero=>exact⟨x,rfl,by simpa [hx]using hz⟩
    |succ j=>obtain⟨u,h3,h4⟩:=h2 j z (by simpa using hz);exact⟨u,by simpa using h3,h4⟩
theorem Mt{w:World}{base n:Nat}{a:Addr}{l:List Value}(h:w.cells? base a n=S' l):l.length=n/\∀(j:Nat) (v:Value),l[j]?=S' v->w.cell? (a.add j)=S' v:=by
 unfold World.cells? at h;split at h
 ·obtain⟨h1,h2⟩:=F9 h;grind
 grind
theorem OO{α β:Type}{n:Nat}{p:Nat->α->β->Prop}(h:∀i,i<n->∃s t,p i s t):∃(l:List α) (m:List β),l.length=n/\m.length=n/\∀i s t,l[i]?=S' s->m[i]?=S' t->p i s t:=by
 induction n with
 |zero=>exact⟨[],[],rfl,rfl,λi s t h=>by simp at h⟩
 |succ n ih=>
  obtain⟨l,m,h1,h2,h3⟩:=ih λi hi=>h i (by omega);obtain⟨s,t,hst⟩:=h n (by omega);refine⟨l++[s],m++[t],by simp[h1],by simp[h2],λi s' t' hs ht=>?_⟩;grind
section
variable {H:Type} {enc:TypeId×Value->H} {P:Program} {w:World} {base:Nat} {spare:Nat->Bool} {held:Bool}
def R1(enc:TypeId×Value->H)(P:Program)(w:World)(base:Nat)(spare:Nat->Bool)(held:Bool)(ty:Ty):Prop:=∀(n:Nat) (t:TypeId),rep P n t ty=T'->∀(fuel:Nat) (cs:List Value) (x:DataW H×List MemPlace),cs.length=ty.n->DataW.trod enc P w base spare held fuel t cs=S' x->∃y:ty.D,ty.rd (λ_=>True) w cs y/\ty.ok y
def R2(enc:TypeId×Value->H)(P:Program)(w:World)(base:Nat)(spare:Nat->Bool)(held:Bool)(ty:Ty):Prop:=∀(n:Nat) (fs:List Field) (off:Nat) (cs:List Value),yb (rep P n) P.cellsOf fs ty off=T'->cs.length=ty.n->(∀f∈fs,off<=f.offset->∃fuel x,DataW.trod enc P w base spare held fuel f.type ((cs.drop (f.offset-off)).take (P.cellsOf f.type))=S' x)->∃y:ty.D,ty.rd (λ_=>True) w cs y/\ty.ok y
def R3(enc:TypeId×Value->H)(P:Program)(w:World)(base:Nat)(spare:Nat->Bool)(held:Bool)(ty:Ty):Prop:=∀(n k:Nat) (e:TypeId) (cs:List Value),H7 (rep P n e) (P.cellsOf e) k ty=T'->cs.length=ty.n->(∀i,i<k->∃fuel x,DataW.trod enc P w base spare held fuel e ((cs.drop (i*P.cellsOf e)).take (P.cellsOf e))=S' x)->∃y:ty.D,ty.rd (λ_=>True) w cs y/\ty.ok y
theorem aj6{ty:Ty}(h1:R1 enc P w base spare held ty)(hp:∀(n:Nat) (f g:Field) (fs:List Field) (off:Nat) (cs:List Value),yb (rep P n) P.cellsOf (f::g::fs) ty off=T'->cs.length=ty.n->(∀q∈f::g::fs,off<=q.offset->∃fuel x,DataW.trod enc P w base spare held fuel q.type ((cs.drop (q.offset-off)).take (P.cellsOf q.type))=S' x)->∃y:ty.D,ty.rd (λ_=>True) w cs y/\ty.ok y):R2 enc P w base spare held ty:=by
 intro n fs off cs hr hl hf;match fs,hr,hf with
 |[f],hr,hf=>
  simp only[yb,aoT]at hr;have ho:=aoS hr.1.2;have hc:=aoS hr.2;obtain⟨fuel,x,hx⟩:=hf f (by simp) (by omega);rw[ho,arg,hc,ux _ _ hl]at hx;exact h1 n f.type hr.1.1 fuel cs x hl hx
 |f::g::fs,hr,hf=>exact hp n f g fs off cs hr hl hf
theorem alj{ty:Ty}(h1:R1 enc P w base spare held ty)(hp:∀(n k:Nat) (e:TypeId) (cs:List Value),H7 (rep P n e) (P.cellsOf e) (k+2) ty=T'->cs.length=ty.n->(∀i,i<k+2->∃fuel x,DataW.trod enc P w base spare held fuel e ((cs.drop (i*P.cellsOf e)).take (P.cellsOf e))=S' x)->∃y:ty.D,ty.rd (λ_=>True) w cs y/\ty.ok y):R3 enc P w base spare held ty:=by
 intro n k e cs hr hl hf;match k,hr,hf with
 |1,hr,hf=>
  simp only[H7,aoT]at hr;have hc:=aoS hr.2;obtain⟨fuel,x,hx⟩:=hf 0 (by omega);rw[arS,<-hc,ux _ _ hl]at hx;exact h1 n e hr.1 fuel cs x hl hx
 |k+2,hr,hf=>exact hp n k e cs hr hl hf
theorem VU:∀(ty:Ty),R1 enc P w base spare held ty/\R2 enc P w base spare held ty/\R3 enc P w base spare held ty:=by
 intro ty
 have pN:∀{ty:Ty},(∀a b,ty≠.pair a b)->R1 enc P w base spare held ty->R1 enc P w base spare held ty/\R2 enc P w base spare held ty/\R3 enc P w base spare held ty:=by
  intro ty hne h1;refine⟨h1,aj6 h1 λn f g fs off cs hr=>?_,alj h1 λn k e cs hr=>?_⟩
  ·cases ty<;>first|exact absurd rfl (hne _ _)|simp[yb]at hr
  ·cases ty<;>first|exact absurd rfl (hne _ _)|simp[H7]at hr
 induction ty with
 |int k=>
  refine pN (λa b e=>by cases e) λn t hr fuel cs x hl hx=>?_;cases n with
  |zero=>simp[rep]at hr
  |succ n=>
   unfold rep at hr;split at hr<;>try (cases hr;done)
   all_goals rename_i hu he<;>cases he
   have:=aoQ hr;subst this;obtain⟨m,rfl,_,hw⟩:=DataW.trod_int hu hx;exact⟨m,rfl,hw⟩
 |bool=>
  refine pN (λa b e=>by cases e) λn t hr fuel cs x hl hx=>?_;cases n with
  |zero=>simp[rep]at hr
  |succ n=>
   unfold rep at hr;split at hr<;>try (cases hr;done)
   all_goals rename_i hu he<;>cases he
   obtain⟨m,rfl,_⟩:=DataW.trod_bool hu hx;exact⟨m,rfl,trivial⟩
 |str=>
  refine pN (λa b e=>by cases e) λn t hr fuel cs x hl hx=>?_;cases n with
  |zero=>simp[rep]at hr
  |succ n=>
   unfold rep at hr;split at hr<;>try (cases hr;done)
   all_goals rename_i hu he<;>cases he
   cases fuel with
   |zero=>simp[DataW.trod]at hx
   |succ fuel=>
    unfold DataW.trod at hx;rw[hu]at hx;split at hx<;>simp_all;exact⟨_,rfl,trivial⟩
 |sl e ih=>
  refine pN (λa b e=>by cases e) λn t hr fuel cs x hl hx=>?_;cases n with
  |zero=>simp[rep]at hr
  |succ n=>
   unfold rep at hr;split at hr<;>try (cases hr;done)
   all_goals rename_i hu he<;>cases he
   simp only[aoT]at hr;obtain⟨⟨r1,r2⟩,r3⟩:=hr;have hc:=aoS r2;have hn0:=aoV r3;rcases Deep.open_slice hu hx with⟨rfl,_⟩|⟨a,len,cap,m,nn,D,Pl,rfl,hb,hle,hcap,hm,_,hel⟩
   ·exact⟨[],yU,by simp,λx hx=>by simp at hx⟩
   ·have hlm:len<=m:=by rw[hm];split<;>omega
    have key:∀i,i<len->∃(l:List Value) (y:e.D),(e.rd (λ_=>True) w l y/\e.ok y)/\∀j v,l[j]?=S' v->w.cell? ((a.add (i*e.n)).add j)=S' v:=by
     intro i hi;obtain⟨cs',h1,h2⟩:=hel i (by omega);rw[hc]at h1;obtain⟨h3,h4⟩:=Mt h1;obtain⟨y,h5⟩:=ih.1 n _ r1 nn cs' _ h3 h2;exact⟨cs',y,h5,h4⟩
    obtain⟨css,ys,l1,l2,hk⟩:=OO key;have hall:bJ (λl y=>e.rd (λ_=>True) w l y) css ys:=J6 (by omega) λi l y h1 h2=>(hk i l y h1 h2).1.1;refine⟨ys,⟨S' a,len,cap,css,rfl,l2,hle,hcap,hall,λh0=>?_⟩,by unfold maxLen at hcap;omega,λy hy=>?_⟩
    ·obtain⟨l0,hl0⟩:∃l,css[0]?=S' l:=⟨_,aoO (by omega)⟩
     obtain⟨y0,hy0,hrd0⟩:=fR hall 0 l0 hl0;have hlen0:=Ty.rd_len hrd0;obtain⟨v0,hv0⟩:∃v,l0[0]?=S' v:=⟨_,aoO (by omega)⟩
     have hc0:=(hk 0 l0 y0 hl0 hy0).2 0 v0 hv0;have e0:(a.add (0*e.n)).add 0=a:=by simp[Addr.add]
     rw[e0]at hc0;obtain⟨h1,h2⟩:=Xs hc0;obtain⟨b,off,sp⟩:=a;dsimp only at h1 h2;subst h2;refine⟨b,off,rfl,trivial,h1,λi v hv=>?_⟩;have hls:=fu hall;have hi:i<css.flatten.length:=(aoZ.1 hv).1;rw[gA hls,l1]at hi;have hq:i/e.n<len:=Nat.div_lt_of_lt_mul (by rw[Nat.mul_comm];exact hi);obtain⟨l,hl⟩:∃l,css[i/e.n]?=S' l:=⟨_,aoO (by omega)⟩
     obtain⟨y,hy,hrd⟩:=fR hall _ l hl;have hmod:i%e.n<e.n:=arE _ hn0;obtain⟨u,hu'⟩:∃u,l[i%e.n]?=S' u:=⟨_,aoO (by rw[Ty.rd_len hrd];exact hmod)⟩
     have hfl:=lC hls hl hu';have hdm:i/e.n*e.n+i%e.n=i:=by rw[Nat.mul_comm];exact Nat.div_add_mod i e.n
     rw[hdm,hv]at hfl;injection hfl with hfl;subst hfl;have:=(hk _ l y hl hy).2 _ _ hu';rw[c7,c7]at this;rwa [aqQ,hdm]at this
    ·obtain⟨i,hi,rfl⟩:=aqT hy;obtain⟨l,hl,_⟩:=pM hall i _ (aoO hi);exact(hk i l _ hl (aoO hi)).1.2
 |st a ih=>
  refine pN (λa b e=>by cases e) λn t hr fuel cs x hl hx=>?_;cases n with
  |zero=>simp[rep]at hr
  |succ n=>
   unfold rep at hr;split at hr<;>try (cases hr;done)
   all_goals rename_i hu he<;>cases he
   ·simp only[aoT]at hr;obtain⟨xs,k,rfl,_,_,hlen,hg⟩:=DataW.trod_struct hu hx;refine ih.2.1 n _ 0 cs hr.1 hl λf hf _=>?_;obtain⟨i,hi,rfl⟩:=aqT hf;rename_i fs;have h1:=hg i _ (by rw[<-aqD];exact aoO hi);obtain⟨y,hy⟩:∃y,xs[i]?=S' y:=⟨_,aoO (by rw[hlen];simpa using hi)⟩
    rw[hy]at h1;exact⟨k,y,by rw[ar9];exact h1⟩
   ·simp only[aoT]at hr;obtain⟨xs,k,rfl,_,_,hlen,hg⟩:=DataW.trod_array hu hx;refine ih.2.2 n _ _ cs hr.1 hl λi hi=>?_;have h1:=hg i hi;obtain⟨y,hy⟩:∃y,xs[i]?=S' y:=⟨_,aoO (by rw[hlen];exact hi)⟩
    rw[hy]at h1;exact⟨k,y,h1⟩
 |pair a b iha ihb=>
  have h1:R1 enc P w base spare held (.pair a b):=by
   intro n t hr;cases n with
   |zero=>simp[rep]at hr
   |succ n=>
    unfold rep at hr;split at hr<;>first|(cases hr;done)|(rename_i he;cases he)
  have cut:∀{cs:List Value} {k m:Nat},cs.length=a.n+b.n->((cs.drop a.n).drop k).take m=(cs.drop (a.n+k)).take m:=λ_=>by rw[ar5]
  refine⟨h1,aj6 h1 λn f g fs off cs hr hl hf=>?_,alj h1 λn k e cs hr hl hf=>?_⟩
  ·simp only[yb,aoT]at hr;obtain⟨⟨⟨r1,r2⟩,r3⟩,r4⟩:=hr;have ho:=aoS r2;have hc:=aoS r3;simp only[Ty.n]at hl;obtain⟨fuel,x,hx⟩:=hf f (by simp) (by omega);rw[ho,arg,hc,aqB]at hx;obtain⟨y1,k1,k2⟩:=iha.1 n f.type r1 fuel (cs.take a.n) x (by simp;omega) hx
   obtain⟨y2,k3,k4⟩:=ihb.2.1 n (g::fs) (off+a.n) (cs.drop a.n) r4 (by simp;omega) λq hq hle=>by
    obtain⟨fuel,x,hx⟩:=hf q (by simp only[ao7]at hq ⊢;exact .inr hq) (by omega);refine⟨fuel,x,?_⟩;rw[ar5,show a.n+(q.offset-(off+a.n))=q.offset-off by omega];exact hx
   exact⟨(y1,y2),⟨_,_,(aqi a.n cs).symm,k1,k3⟩,k2,k4⟩
  ·simp only[H7,aoT]at hr;obtain⟨⟨r1,r2⟩,r3⟩:=hr;have hc:=aoS r2;simp only[Ty.n]at hl;obtain⟨fuel,x,hx⟩:=hf 0 (by omega);rw[arS,aqB,<-hc]at hx;obtain⟨y1,k1,k2⟩:=iha.1 n e r1 fuel (cs.take a.n) x (by simp;omega) hx
   obtain⟨y2,k3,k4⟩:=ihb.2.2 n (k+1) e (cs.drop a.n) r3 (by simp;omega) λi hi=>by
    obtain⟨fuel,x,hx⟩:=hf (i+1) (by omega);refine⟨fuel,x,?_⟩;rw[ar5,hc,show P.cellsOf e+i*P.cellsOf e=(i+1)*P.cellsOf e by rw[aqC];omega];exact hx
   exact⟨(y1,y2),⟨_,_,(aqi a.n cs).symm,k1,k3⟩,k2,k4⟩
end
end
theorem amT{s:Int×Int×Int}(h:Ty.ok y4Y s):Bj s:=by
 have h1:=bounds_i16 h.1;have h2:=bounds_i16 h.2.1;have h3:=bounds_u8 h.2.2;exact⟨h1.1,h1.2,h2.1,h2.2,h3.1,h3.2⟩
theorem ahA{n:Int}(h:Ty.ok (.int .u8) n):u8P n:=bounds_u8 h
section
namespace RE
section
variable {l c:Ln}
end
end RE
end
section
open RE
theorem SD(c:Cv):cG c c=true:=by
 unfold cG;rw[aqM,cond_true];cases c.1
 ·unfold oO;rw[cond_false,dT (aqp _ _),dT (aqp _ _),dT (aqp _ _)];rfl
 ·unfold pE;rw[cond_true,dT rfl,dT rfl,dT rfl];rfl
end
def agw:List En:=[enT NL,enT mE]
def aaP(a b:BCU)(_k:KT):OLR:=og (D' (fh a b)) (match cG (dC a) (dC b)with|T'=>(match a.2.2.2.1==b.2.2.2.1 with|T'=>(og (D' (okP 4000 a.2.2.2.2.1/\okP 4000 b.2.2.2.2.1)) (match aB (dec a.2.2.2.2.1) (dec b.2.2.2.2.1)==0 with|T'=>(og (D' (okP 4000 a.2.2.2.2.2/\okP 4000 b.2.2.2.2.2)) (S' [RV.d .bool (aB (dec a.2.2.2.2.2) (dec b.2.2.2.2.2)==0)]))|F'=>S' [RV.d .bool F']))|F'=>S' [RV.d .bool F'])|F'=>S' [RV.d .bool F'])
def aiR:Cn 63 [tCU,tCU]:=cn λ(a b:BCU)=>lf (jy a b) [.d .bool (uH (dC a) (dC b))] λh=>by
 refine aA agw (aaP a b) ⟨0,?_⟩;obtain⟨⟨a1,a2⟩,b1,b2⟩:=h;have a4:=aY (k:=4000) a1 (by decide) (by decide);have b4:=aY (k:=4000) b1 (by decide) (by decide);unfold aaP uH;rw[dT (show fh a b from⟨a2,b2⟩),dT (show okP 4000 a.2.2.2.2.1/\okP 4000 b.2.2.2.2.1 from⟨a4.2.2.1,b4.2.2.1⟩),dT (show okP 4000 a.2.2.2.2.2/\okP 4000 b.2.2.2.2.2 from⟨a4.2.2.2,b4.2.2.2⟩)];have e2:∀c,cwC (dC c)=c.2.2.2.1:=λ_=>rfl;have e3:∀c,frC (dC c)=dec c.2.2.2.2.1:=λ_=>rfl;have e4:∀c,toC (dC c)=dec c.2.2.2.2.2:=λ_=>rfl;rw[e2,e2,e3,e3,e4,e4];cases cG (dC a) (dC b)<;>cases(a.2.2.2.1==b.2.2.2.1)<;>cases(aB (dec a.2.2.2.2.1) (dec b.2.2.2.2.1)==0)<;>rfl
theorem N6{c:BCU}(h:gdN c):uH (dC c) (dC c)=true:=by
 unfold uH;have e1:(aB (frC (dC c)) (frC (dC c))==0)=true:=apw.2 (Ot h.crp.f.1);have e2:(aB (toC (dC c)) (toC (dC c))==0)=true:=apw.2 (Ot h.crp.t.1);rw[SD,aqM,e1,e2];rfl
section
open RE
def LO(r s:List BCU):Bool:=D' (r.length=s.length)&&(r.zip s).all λx=>uH (dC x.1) (dC x.2)
def Ww(r s:List BCU):Prop:=r.length<=1000000/\(∀x∈r,mG x)/\∀x∈s,mG x
instance (r s:List BCU):Decidable (Ww r s):=Classical.propDecidable _
def eqD(r s:List BCU)(i:Nat):Bool:=((r.drop i).zip (s.drop i)).all λx=>uH (dC x.1) (dC x.2)
theorem P7{r s:List BCU}(h:r.length=s.length){i:Nat}(hi:i<r.length):eqD r s i=(uH (dC r[i]) (dC (s[i]'(h▸hi)))&&eqD r s (i+1)):=by
 unfold eqD;rw[ao5 hi,ao5 (show i<s.length from h▸hi),List.zip_cons_cons,aqR]
def IO:List En:=[enT aiR]
def WB:NT:=[((62,14),{keep:=[1,2,15,16,17],hl:=2}),((25,3),{keep:=[9],hl:=0})]
def HU:Ctx:=CX (ens IO) WB
def lE(r s:List BCU)(s62_17:Int):Cfg:=⟨62,[.blk 0,.seq 35],[(1,.d (.sl tCU) s),(2,.clo 63 []),(15,.d (.sl tCU) r),(16,SI (r.length:Int)),(17,SI s62_17)],[.box 30 [.d (.sl tCU) r],.box 30 [.d (.sl tCU) s]],2,[⟨25,[.seq 4],3,4,[],0,N'⟩]⟩
def IH(r s:List BCU)(k:KT):OLR:=match(r.length:Int) !=(s.length:Int)with|T'=>S' [RV.d .bool F']|F'=>k 14 (lE r s 0)
theorem Tr(r s:List BCU):RS HU 25 [.d (.st (.sl tCU)) r,.d (.st (.sl tCU)) s] (IH r s):=rsX
def mg(r s:List BCU)(s62_17:Int)(k:KT):OLR:=match D' (s62_17<(r.length:Int))with|T'=>(match aH r s62_17 with|S' x1=>(match aH s s62_17 with|S' x2=>(og (D' (jy x1 x2)) (match !(uH (dC x1) (dC x2))with|T'=>S' [RV.d .bool F']|F'=>k 14 (lE r s (i64.wrap (s62_17+1)))))|N'=>N')|N'=>N')|F'=>S' [RV.d .bool T']
theorem qX(r s:List BCU)(s62_17:Int):RN HU 14 (lE r s s62_17) (mg r s s62_17):=rnX
theorem Vq{r s:List BCU}(hr:∀x∈r,mG x)(hs:∀x∈s,mG x)(hl:r.length=s.length)(h6:r.length<=1000000):∀(j i:Nat),i+j=r.length->HU.Runs 14 (lE r s (i:Int)) [.d .bool (eqD r s i)]:=by
 intro j;induction j with
 |zero=>
  intro i hi;refine qX _ _ _ ⟨0,?_⟩;unfold mg;rw[dF (show ¬(i:Int)<(r.length:Int) by omega)];dsimp only;rw[show eqD r s i=T' from by unfold eqD;rw[apx (by omega)];rfl]
 |succ j ih=>
  intro i hi;have hi1:i<r.length:=by omega
  have hi2:i<s.length:=by omega
  obtain⟨n,hn⟩:=ih (i+1) (by omega);refine qX _ _ _ ⟨n,?_⟩;unfold mg;rw[dT (show(i:Int)<(r.length:Int) by omega),ak,aoO hi1,ak,aoO hi2,aS (k:=i) (by omega)];dsimp only;rw[dT (show jy r[i] s[i] from⟨hr _ (aoY hi1),hs _ (aoY hi2)⟩),P7 hl hi1];cases uH (dC r[i]) (dC s[i])
  ·rfl
  ·exact hn
def afq:Cn 25 [(.st (.sl tCU)),(.st (.sl tCU))]:=cn λ(r s:List BCU)=>lf (Ww r s) [.d .bool (LO r s)] λh=>by
 obtain⟨h6,hr,hs⟩:=h;by_cases hl:r.length=s.length
 ·obtain⟨n,hn⟩:=Vq hr hs hl h6 r.length 0 (ao3 _);refine aX IO (Tr _ _ ⟨n,?_⟩);unfold IH LO;rw[show((r.length:Int) !=(s.length:Int))=F' from by rw[hl];simp,dT hl];exact hn
 ·refine aX IO (Tr _ _ ⟨0,?_⟩);unfold IH LO;rw[show((r.length:Int) !=(s.length:Int))=T' from by simp;omega,dF hl];rfl
end
abbrev Plc:=Int×Int×Int×Int×Int×Int
abbrev M2:Ty:=.st (.pair (.int .i16) (.pair (.int .i16) (.pair (.int .i16) (.pair (.int .i16) (.pair (.int .u16) (.int .u8))))))
def Ez(n:Int):Prop:= -32768<=n/\n<=32767
instance (n:Int):Decidable (Ez n):=by unfold Ez;infer_instance
def IP(x:Plc):Prop:=Ez x.1/\Ez x.2.1/\Ez x.2.2.1/\Ez x.2.2.2.1/\(0<=x.2.2.2.2.1/\x.2.2.2.2.1<=65535)/\u8P x.2.2.2.2.2
instance (x:Plc):Decidable (IP x):=by unfold IP;infer_instance
def Xg(a b c d:Int):Rt:=mkR (Rat.divInt a (d+1)) (Rat.divInt b (d+1)) (c:Rat)
def xh(x:Plc):Pt:=mkP (Xg x.1 x.2.1 x.2.2.2.2.1 x.2.2.2.2.2) (Xg x.2.2.1 x.2.2.2.1 x.2.2.2.2.1 x.2.2.2.2.2)
def afe:List En:=[enL ov,enL lg,enL S8,enL RW]
def Rl(x:Plc)(_k:KT):OLR:=let y1:=i64.wrap x.2.2.2.2.1;let y2:=i64.wrap x.1;let y3:=i64.wrap ((i64.wrap x.2.2.2.2.2)+1);let y4:=i64.wrap x.2.1;let y5:=hid (av (Rat.divInt y2 y3));let y6:=hid (av (Rat.divInt y4 y3));let y7:=hid (av (y1:Rat));let y8:=i64.wrap x.2.2.1;let y9:=i64.wrap x.2.2.2.1;let y10:=hid (av (Rat.divInt y8 y3));let y11:=hid (av (Rat.divInt y9 y3));let y12:=hid (enc (mkR (ag y5) (ag y6) (ag y7)));let y13:=hid (enc (mkR (ag y10) (ag y11) (ag y7)));og (D' (bI y1)) (og (D' (mV y2 y3)) (og (D' (mV y4 y3)) (og (D' (ok Rat 100000 y5/\ok Rat 100000 y6/\ok Rat 100000 y7/\0<=ag y7)) (og (D' (mV y8 y3)) (og (D' (mV y9 y3)) (og (D' (ok Rat 100000 y10/\ok Rat 100000 y11/\ok Rat 100000 y7/\0<=ag y7)) (og (D' (okT 15000 y12/\okT 15000 y13/\zv (dec y12) (dec y13))) (S' [RV.d tP (hid (enc (mkP (dec y12) (dec y13))))]))))))))
def agh:Cn 8 [M2]:=cn λ(x:Plc)=>lf (IP x) [.d tP (enc (xh x))] λh=>by
 refine aA afe (Rl x) ⟨0,?_⟩;obtain⟨h1,h2,h3,h4,⟨h5,h5'⟩,h6,h6'⟩:=h
 have f:∀n,Ez n->Bd (Rat.divInt n (x.2.2.2.2.2+1)) 3/\mV n (x.2.2.2.2.2+1)/\i64.wrap n=n:=λn hn=>by
  obtain⟨g1,g2⟩:=hn;exact⟨wO ⟨by omega,by omega⟩ ⟨by omega,by omega⟩ (by omega),⟨⟨by omega,by omega⟩,⟨by omega,by omega⟩,by omega⟩,aM (by omega) (by omega)⟩
 obtain⟨b1,p1,w1⟩:=f _ h1;obtain⟨b2,p2,w2⟩:=f _ h2;obtain⟨b3,p3,w3⟩:=f _ h3;obtain⟨b4,p4,w4⟩:=f _ h4;have i5:bI x.2.2.2.2.1:=⟨by omega,by omega⟩
 have b5:Bd (x.2.2.2.2.1:Rat) 3:=dQ i5;have n5:0<=(x.2.2.2.2.1:Rat):=Rat.intCast_nonneg.2 h5;have N5:Nn (x.2.2.2.2.1:Rat):=⟨n5⟩
 have w5:i64.wrap x.2.2.2.2.1=x.2.2.2.2.1:=aM (by omega) (by omega);have w6:i64.wrap x.2.2.2.2.2=x.2.2.2.2.2:=aM (by omega) (by omega);have w7:i64.wrap (x.2.2.2.2.2+1)=x.2.2.2.2.2+1:=aM (by omega) (by omega);unfold Rl;simp only[aV,Nat.reduceAdd,Nat.reduceLeDiff,aI,w1,w2,w3,w4,w5,w6,w7,dT i5,dT p1,dT p2,dT p3,dT p4,dT n5,dT (sZ _ _ _ _ _)];rfl
theorem aej{x:Plc}(h:IP x):Bd (xh x) 20/\Rpd (xh x):=by
 obtain⟨h1,h2,h3,h4,⟨h5,h5'⟩,h6,h6'⟩:=h
 have f:∀n,Ez n->Bd (Rat.divInt n (x.2.2.2.2.2+1)) 3:=λn hn=>by
  obtain⟨g1,g2⟩:=hn;exact wO ⟨by omega,by omega⟩ ⟨by omega,by omega⟩ (by omega)
 have b1:=f _ h1;have b2:=f _ h2;have b3:=f _ h3;have b4:=f _ h4;have b5:Bd (x.2.2.2.2.1:Rat) 3:=dQ ⟨by omega,by omega⟩;have N5:Nn (x.2.2.2.2.1:Rat):=⟨Rat.intCast_nonneg.2 h5⟩
 have bX:Bd (Xg x.1 x.2.1 x.2.2.2.2.1 x.2.2.2.2.2) 20:=(inferInstance:Bd (mkR (Rat.divInt x.1 (x.2.2.2.2.2+1)) (Rat.divInt x.2.1 (x.2.2.2.2.2+1)) (x.2.2.2.2.1:Rat)) _).mono (by decide);have bY:Bd (Xg x.2.2.1 x.2.2.2.1 x.2.2.2.2.1 x.2.2.2.2.2) 20:=(inferInstance:Bd (mkR (Rat.divInt x.2.2.1 (x.2.2.2.2.2+1)) (Rat.divInt x.2.2.2.1 (x.2.2.2.2.2+1)) (x.2.2.2.2.1:Rat)) _).mono (by decide);exact⟨ael (h:=bX) (h':=bY),Zi FV FV (sZ _ _ _ _ _)⟩
theorem WI{y:Plc}(h:Ty.ok M2 y):IP y:=⟨bounds_i16 h.1,bounds_i16 h.2.1,bounds_i16 h.2.2.1,bounds_i16 h.2.2.2.1,bounds_u16 h.2.2.2.2.1,ahA h.2.2.2.2.2⟩
section
open RE
theorem nG{c:Ln}:dX c=db c/\eH c=df c:=by
 unfold dX eH db df pU lY mkP mkR rdP atP;cases eA c.2.2<;>exact⟨rfl,rfl⟩
def loM(c:BO3):BCU:=(T',l0B,c,F',enc (dX (dec c)),enc (eH (dec c)))
def hiM(c:BO3):BCU:=(T',l0B,c,F',enc (eH (dec c)),enc (dX (dec c)))
def upM(c:BO3):BCU:=(T',l0B,c,T',enc (dX (dec c)),enc (eH (dec c)))
def wj(c:BCU):Prop:=bK c.2.2.1/\(c=loM c.2.2.1\/c=hiM c.2.2.1)
instance (c:BCU):Decidable (wj c):=Classical.propDecidable _
def jQ(c:BCU):BCU:=bif D' (aB (dec c.2.2.2.2.1) (dec c.2.2.2.2.2)>0)then gJ c else c
def zu(c:Cv)(p:Pt):Bool:=onP c p&&(!(aB (frC c) p==0)&&!(aB (toC c) p==0))
theorem ahq{l m:BO3}{c:BCU}(e:c.1=T')(h:gdN (c.1,l,c.2.2)):gdN (c.1,m,c.2.2):=by
 obtain⟨⟨⟨h1,h2,h3⟩,h4,h5⟩,h6,h7,h8⟩:=h;have e':∀{q:Prop},(c.1=F'->q):=λh=>by rw[e]at h;cases h
 refine⟨⟨⟨h1,e',h3⟩,h4,e'⟩,?_,?_,h8⟩
 ·have:=h6;unfold dv dC at*;rw[show((c.1,l,c.2.2):BCU).1=T' from e]at this;rw[show((c.1,m,c.2.2):BCU).1=T' from e];exact this
 ·have:=h7;unfold dv dC at*;rw[show((c.1,l,c.2.2):BCU).1=T' from e]at this;rw[show((c.1,m,c.2.2):BCU).1=T' from e];exact this
theorem CJ{c:BO3}(h:bK c):gdN (loM c)/\gdN (hiM c)/\gdN (upM c)/\aB (dec (enc (dX (dec c)))) (dec (enc (eH (dec c))))= -1:=by
 obtain⟨c,rfl,bc,h0⟩:=b8 h;have g:=DX (c:=c) h0;have k:∀w f t,gdN (T',o00,enc c,w,f,t)->gdN (T',l0B,enc c,w,f,t):=λw f t=>ahq (c:=(T',o00,enc c,w,f,t)) rfl;have g1:gdN (loM (enc c)):=k _ _ _ (g _ (by unfold B6;rw[ao,nG.1,nG.2];simp));have g2:gdN (hiM (enc c)):=k _ _ _ (g _ (by unfold B6;rw[ao,nG.1,nG.2];simp));refine⟨g1,g2,g2.rev,?_⟩;rw[ao,ao,nG.1,nG.2,ao];exact Rr h0
theorem abB{c:BCU}(h:wj c):c.1=T'/\gdN c/\okC 4000 c/\(okP 4000 (enc (dX (dec c.2.2.1)))/\zu (dC c) (dec (enc (dX (dec c.2.2.1))))=F')/\okP 4000 (enc (eH (dec c.2.2.1)))/\zu (dC c) (dec (enc (eH (dec c.2.2.1))))=false:=by
 obtain⟨hs,h⟩:=h;obtain⟨g1,g2,_,_⟩:=CJ hs;have o:=aY (k:=4000) g1.1.1 (by decide) (by decide);obtain⟨_,_,o1,o2⟩:=o
 have z:∀{p:BP},okP 4000 p->(aB (dec p) (dec p)==0)=true:=λ{p} h=>by
  have:=cY h;exact apw.2 (RE.cmpP_0.2 rfl)
 have g:c.1=T'/\gdN c:=by
  rcases h with e|e<;>rw[e]
  ·exact⟨rfl,g1⟩
  ·exact⟨rfl,g2⟩
 have z1:(aB (dec (enc (dX (dec c.2.2.1)))) (dec (enc (dX (dec c.2.2.1))))==0)=true:=z o1;have z2:(aB (dec (enc (eH (dec c.2.2.1)))) (dec (enc (eH (dec c.2.2.1))))==0)=true:=z o2;refine⟨g.1,g.2,aY (k:=4000) g.2.1.1 (by decide) (by decide),⟨o1,?_⟩,o2,?_⟩<;>unfold zu
 ·rcases h with e|e
  ·rw[show frC (dC c)=dec (enc (dX (dec c.2.2.1))) by rw[e];rfl,z1,Bool.not_true,ar6,aq7]
  ·rw[show toC (dC c)=dec (enc (dX (dec c.2.2.1))) by rw[e];rfl,z1,Bool.not_true,aq7,aq7]
 ·rcases h with e|e
  ·rw[show toC (dC c)=dec (enc (eH (dec c.2.2.1))) by rw[e];rfl,z2,Bool.not_true,aq7,aq7]
  ·rw[show frC (dC c)=dec (enc (eH (dec c.2.2.1))) by rw[e];rfl,z2,Bool.not_true,ar6,aq7]
def agZ:List En:=[enT KC,enT mE]
def abJ(c:BCU)(p:BP)(_k:KT):OLR:=og (D' (okC 4000 c/\okP 4000 p)) (match onP (dC c) (dec p)with|T'=>(og (D' (okP 4000 c.2.2.2.2.1/\okP 4000 p)) (match !(aB (dec c.2.2.2.2.1) (dec p)==0)with|T'=>(og (D' (okP 4000 c.2.2.2.2.2/\okP 4000 p)) (S' [RV.d .bool (!(aB (dec c.2.2.2.2.2) (dec p)==0))]))|F'=>S' [RV.d .bool F']))|F'=>S' [RV.d .bool F'])
def akj:Cn 221 [tCU,tP]:=cn λ(c:BCU) (p:BP)=>lf (okC 4000 c/\okP 4000 p) [.d .bool (zu (dC c) (dec p))] λh=>by
 refine aA agZ (abJ c p) ⟨0,?_⟩;obtain⟨h1,h2⟩:=h;unfold abJ zu;rw[dT (show okC 4000 c/\okP 4000 p from⟨h1,h2⟩),dT (show okP 4000 c.2.2.2.2.1/\okP 4000 p from⟨h1.2.2.1,h2⟩),dT (show okP 4000 c.2.2.2.2.2/\okP 4000 p from⟨h1.2.2.2,h2⟩)];have e3:frC (dC c)=dec c.2.2.2.2.1:=rfl;have e4:toC (dC c)=dec c.2.2.2.2.2:=rfl;rw[e3,e4];cases onP (dC c) (dec p)<;>cases aB (dec c.2.2.2.2.1) (dec p)==0<;>rfl
def al9:Cn 221 [tCU,tP]:=cn λ(c:BCU) (p:BP)=>lf (zu (dC c) (dec p)=F'/\okC 4000 c/\okP 4000 p) [.d .bool F'] λh=>by
 have e:CQq7 221 [.d tCU c,.d tP p] [.d .bool (zu (dC c) (dec p))]:=(akj.g c p).h h.2;rw[h.1]at e;exact e
def N8:List En:=[enL PN,enT al9,enT oF,enL Ay,enT mE,enT Zy,enT KC]
def ac9:NT:=[((233,6),{keep:=[0,1,7,8],hl:=99}),((154,16),{keep:=[0,1,5,6],hl:=99}),((304,6),{keep:=[0,1,2,6,7,8],hl:=99}),((358,3),{keep:=[0,1,2,3,8],hl:=99}),((304,22),{keep:=[0,1,2,6],hl:=99}),((81,18),{keep:=[2,6,7,17,18,19],hl:=99}),((146,24),{keep:=[3,35,36,37],hl:=99}),((289,6),{keep:=[0,1,2,6,7,8],hl:=99}),((340,3),{keep:=[0,1,2,3,8],hl:=99}),((289,22),{keep:=[0,1,2,6],hl:=99}),((146,11),{keep:=[1,3,25],hl:=0}),((154,3),{keep:=[0,1,10],hl:=0}),((233,18),{keep:=[0,1,5,7,8,16],hl:=0}),((154,28),{keep:=[0,1,5,6,7,28],hl:=0}),((146,13),{keep:=[3,29],hl:=0}),((81,4),{keep:=[1,2,13],hl:=0}),((160,3),{keep:=[7],hl:=0}),((81,16),{keep:=[2,6,7,17],hl:=0}),((158,3),{keep:=[2,6],hl:=0}),((158,5),{keep:=[1],hl:=0}),((236,0),{keep:=[],hl:=0}),((304,20),{keep:=[0,1,2,6],hl:=0}),((158,7),{keep:=[11],hl:=0}),((146,42),{keep:=[3],hl:=0}),((223,0),{keep:=[],hl:=0}),((289,20),{keep:=[0,1,2,6],hl:=0})]
def ajg:Ctx:=CX (ens N8) ac9
def abA(c:BCU):OLR:=match c.1 with|T'=>(og (D' (bK c.2.2.1)) (og (D' (zu (dC c) (dec (hid (enc (dX (dec c.2.2.1)))))=F'/\okC 4000 c/\okP 4000 (hid (enc (dX (dec c.2.2.1)))))) (og (D' (zu (dC c) (dec (hid (enc (eH (dec c.2.2.1)))))=F'/\okC 4000 c/\okP 4000 (hid (enc (eH (dec c.2.2.1)))))) (FX (og (D' (okP 4000 c.2.2.2.2.1/\okP 4000 c.2.2.2.2.2)) (match D' ((aB (dec c.2.2.2.2.1) (dec c.2.2.2.2.2))>0)with|T'=>S' [RV.new 48 tCU ([hid (gJ c)])]|F'=>S' [RV.new 48 tCU ([c])])) (og (D' (okP 4000 c.2.2.2.2.1/\okP 4000 c.2.2.2.2.2)) (match D' ((aB (dec c.2.2.2.2.1) (dec c.2.2.2.2.2))>0)with|T'=>S' [RV.new 48 tCU ([hid (gJ c)])]|F'=>S' [RV.new 48 tCU ([c])]))))))|F'=>(og (D' (okP 4000 c.2.2.2.2.1/\okP 4000 c.2.2.2.2.2)) (match D' ((aB (dec c.2.2.2.2.1) (dec c.2.2.2.2.2))>0)with|T'=>S' [RV.new 48 tCU ([hid (gJ c)])]|F'=>S' [RV.new 48 tCU ([c])]))
theorem amO(c:BCU):RT ajg 146 [.d tCU c] (abA c):=rtX
def ajO:Cn 146 [tCU]:=cn λ(c:BCU)=>lf (wj c) [.new 48 tCU ([jQ c])] λh=>by
 refine aX N8 (amO _ ?_);obtain⟨h1,g,h4,⟨h5,h6⟩,h7,h8⟩:=abB h;unfold abA jQ;simp only[aQ];rw[h1,dT h.1,dT (show zu (dC c) (dec (enc (dX (dec c.2.2.1))))=F'/\okC 4000 c/\okP 4000 (enc (dX (dec c.2.2.1))) from⟨h6,h4,h5⟩),dT (show zu (dC c) (dec (enc (eH (dec c.2.2.1))))=F'/\okC 4000 c/\okP 4000 (enc (eH (dec c.2.2.1))) from⟨h8,h4,h7⟩),dT (show okP 4000 c.2.2.2.2.1/\okP 4000 c.2.2.2.2.2 from h4.2.2)];cases D' (aB (dec c.2.2.2.2.1) (dec c.2.2.2.2.2)>0)<;>exact(dD _).trans rfl
end
section
open RE
abbrev BDs:Type:=Int×Int×Int×Int×Bool
abbrev tBD:Ty:=.st (.pair ask (.pair ask (.pair ask (.pair ask .bool))))
def VQ(a b:BDs):Bool:=a.2.2.2.2&&(b.2.2.2.2&&(D' (a.2.1<b.1)||(D' (b.2.1<a.1)||(D' (a.2.2.2.1<b.2.2.1)||D' (b.2.2.2.1<a.2.2.1)))))
def wz(c:BCU)(l:List BP):Prop:=kG c l/\∀p∈l,onP (dC c) (dec p)=T'/\(fM p c.2.2.2.2.1||fM p c.2.2.2.2.2)=T'
instance (c:BCU) (l:List BP):Decidable (wz c l):=Classical.propDecidable _
theorem GR{c:BCU}:∀{L:List BP} {f:BP},(∀p∈L,(fM p c.2.2.2.2.1||fM p c.2.2.2.2.2)=T')->wy c f L=[Ap c f c.2.2.2.2.2]
 |[],_,_=>rfl
 |p::r,f,h=>by
  unfold wy;rw[h p (by simp)];exact GR λq hq=>h q (ao4 _ hq)
theorem Jl{c:BCU}{l:List BP}(h:wz c l):oP c l=[c]/\X9 c l=0:=by
 have ho:SJ c l=false:=by
  unfold SJ;rw[List.any_eq_false];intro p hp;rw[(h.2 p hp).1];decide
 unfold oP X9 WF;rw[ho,GR λp hp=>(h.2 p (mH hp)).2];exact⟨rfl,rfl⟩
def mf(l:List BCU):Prop:=∃c,bK c/\l=[loM c,upM c]
instance (l:List BCU):Decidable (mf l):=Classical.propDecidable _
theorem qQ{c:BO3}(h:bK c):okP 4000 (enc (dX (dec c)))/\okP 4000 (enc (eH (dec c)))/\aB (dec (enc (dX (dec c)))) (dec (enc (dX (dec c))))=0/\aB (dec (enc (eH (dec c)))) (dec (enc (eH (dec c))))=0/\aB (dec (enc (dX (dec c)))) (dec (enc (eH (dec c))))= -1/\aB (dec (enc (eH (dec c)))) (dec (enc (dX (dec c))))=1:=by
 obtain⟨g1,g2,_,e⟩:=CJ h;obtain⟨_,_,o1,o2⟩:=aY (k:=4000) g1.1.1 (by decide) (by decide);have o1:okP 4000 (enc (dX (dec c))):=o1;have o2:okP 4000 (enc (eH (dec c))):=o2;have r1:=cY o1;have r2:=cY o2;exact⟨o1,o2,cmpP_0.2 rfl,cmpP_0.2 rfl,e,by rw[vG,e];rfl⟩
theorem WG{c:BCU}(h:gdN c):onP (dC c) (dec c.2.2.2.2.1)=T'/\onP (dC c) (dec c.2.2.2.2.2)=true:=by
 have:=G8 h;have r1:=cY h.1.1.2.2.1;have r2:=cY h.1.1.2.2.2;have h1:=abd (U6 h.gd) r1;have h2:=abd (U6 h.gd) r2;exact⟨h1.trans this.1,h2.trans this.2⟩
theorem Wo{c:BO3}(h:bK c):wz (loM c) (mc (upM c) (loM c))/\wz (upM c) (mc (upM c) (loM c))/\wz (loM c) []/\wz (upM c) []/\jy (upM c) (loM c)/\(mc (upM c) (loM c)).length<=4:=by
 obtain⟨g1,g2,g3,_⟩:=CJ h;obtain⟨o1,o2,z1,z2,_,_⟩:=qQ h;have c1:=aY (k:=4000) g1.1.1 (by decide) (by decide);have c3:=aY (k:=4000) g3.1.1 (by decide) (by decide)
 have hs:cG (dC (upM c)) (dC (loM c))=true:=by
  unfold cG pE;simp[dC,upM,loM,ciC]
 have hm:∀x∈mc (upM c) (loM c),x=enc (dX (dec c))\/x=enc (eH (dec c)):=λx hx=>by
  have hx:=(List.mem_filter.1 (mH hx)).1;unfold Ca at hx;rw[hs,cond_true]at hx;have:x=(upM c).2.2.2.2.1\/x=(upM c).2.2.2.2.2\/x=(loM c).2.2.2.2.1\/x=(loM c).2.2.2.2.2:=by simpa using hx
  rcases this with e|e|e|e
  ·exact .inl e
  ·exact .inr e
  ·exact .inl e
  ·exact .inr e
 have hp:jy (upM c) (loM c):=⟨g3.1,g1.1⟩
 have hl:(mc (upM c) (loM c)).length<=4:=ao1 ng (ao1 (List.length_filter_le _ _) (yq hp).1)
 have k:∀d:BCU,gdN d->okC 4000 d->d.2.2.2.2.1=enc (dX (dec c))->d.2.2.2.2.2=enc (eH (dec c))->∀x,x=enc (dX (dec c))\/x=enc (eH (dec c))->okP 4000 x/\onP (dC d) (dec x)=T'/\(fM x d.2.2.2.2.1||fM x d.2.2.2.2.2)=true:=λd g o e1 e2 x hx=>by
  have:=WG g;rw[e1,e2]at this ⊢;unfold fM;rcases hx with e|e<;>rw[e]
  ·exact⟨o1,this.1,by rw[z1];rfl⟩
  ·exact⟨o2,this.2,by rw[z2];exact ar8 _⟩
 have k1:=k (loM c) g1 c1 rfl rfl;have k3:=k (upM c) g3 c3 rfl rfl;have nil:∀{d:BCU},okC 4000 d->wz d []:=λh=>⟨⟨h,by simp,λ_ h=>by cases h⟩,λ_ h=>by cases h⟩
 exact⟨⟨⟨c1,by omega,λx hx=>(k1 x (hm x hx)).1⟩,λx hx=>(k1 x (hm x hx)).2⟩,⟨⟨c3,by omega,λx hx=>(k3 x (hm x hx)).1⟩,λx hx=>(k3 x (hm x hx)).2⟩,nil c1,nil c3,hp,hl⟩
def I9:List En:=[enL wi,enL De,enL v5,enL ym,enL Ax]
def aeG:NT:=[((227,8),{keep:=[1,2,3,20,21,22],hl:=99}),((227,31),{keep:=[1,2,3,20,21,22],hl:=0})]
def anc:Ctx:=CX (ens I9) aeG
def ET(c:BCU):OLR:=let y1:=okP 4000 c.2.2.2.2.1;let y2:=hid (enc (xP (dec c.2.2.2.2.1)));let y3:=hid (enc (yP (dec c.2.2.2.2.1)));let y4:=okP 4000 c.2.2.2.2.2;let y5:=hid (enc (xP (dec c.2.2.2.2.2)));let y6:=hid (enc (yP (dec c.2.2.2.2.2)));let y7:=hid ((a9 (dec y5)).1);let y8:=hid ((a9 (dec y2)).1);let y9:=hid ((a9 (dec y6)).1);let y10:=hid ((a9 (dec y3)).1);let y11:=frF (ag c.2.2.1.2.1);let y12:=frF (ag c.2.2.1.2.2);og (decide y1) (og (D' (ok Rt 100000 y2)) (og (decide y1) (og (D' (ok Rt 100000 y3)) (match !((a9 (dec y2)).2)with|T'=>S' [RV.d tBD (0,(0,(0,(0,F'))))]|F'=>(match !((a9 (dec y3)).2)with|T'=>S' [RV.d tBD (0,(0,(0,(0,F'))))]|F'=>dup (.b (.b .l .l) (.b .l .l)) (og (decide y4) (og (D' (ok Rt 100000 y5)) (og (decide y4) (og (D' (ok Rt 100000 y6)) (match !((a9 (dec y5)).2)with|T'=>S' [RV.d tBD (0,(0,(0,(0,F'))))]|F'=>(match !((a9 (dec y6)).2)with|T'=>S' [RV.d tBD (0,(0,(0,(0,F'))))]|F'=>dup (.b (.b .l .l) (.b .l .l)) (match !c.1 with|T'=>S' [RV.d tBD (if y7.1<(if y8.1<4611686018427387904 then y8.1 else 4611686018427387904)then y7.1 else(if y8.1<4611686018427387904 then y8.1 else 4611686018427387904),(if y7.2>(if y8.2> -4611686018427387904 then y8.2 else-4611686018427387904)then y7.2 else(if y8.2> -4611686018427387904 then y8.2 else-4611686018427387904),(if y9.1<(if y10.1<4611686018427387904 then y10.1 else 4611686018427387904)then y9.1 else(if y10.1<4611686018427387904 then y10.1 else 4611686018427387904),(if y9.2>(if y10.2> -4611686018427387904 then y10.2 else-4611686018427387904)then y9.2 else(if y10.2> -4611686018427387904 then y10.2 else-4611686018427387904),T'))))]|F'=>(og (D' (ok Rat 200000 c.2.2.1.2.1)) (og (D' (ok Rat 200000 c.2.2.1.2.2)) (match !(y11.2)with|T'=>S' [RV.d tBD (0,(0,(0,(0,F'))))]|F'=>(match !(y12.2)with|T'=>S' [RV.d tBD (0,(0,(0,(0,F'))))]|F'=>(og (D' (prI (hid (y12.1)))) (match !((sqF (hid (y12.1))).2)with|T'=>S' [RV.d tBD (0,(0,(0,(0,F'))))]|F'=>(match c.2.2.2.1 with|T'=>S' [RV.d tBD (if y7.1<(if y8.1<4611686018427387904 then y8.1 else 4611686018427387904)then y7.1 else(if y8.1<4611686018427387904 then y8.1 else 4611686018427387904),(if y7.2>(if y8.2> -4611686018427387904 then y8.2 else-4611686018427387904)then y7.2 else(if y8.2> -4611686018427387904 then y8.2 else-4611686018427387904),(if y9.1<(if y10.1<4611686018427387904 then y10.1 else 4611686018427387904)then y9.1 else(if y10.1<4611686018427387904 then y10.1 else 4611686018427387904),(if i64.wrap (((hid (y11.1)).2)+((hid ((sqF (hid (y12.1))).1)).2))>(if y9.2>(if y10.2> -4611686018427387904 then y10.2 else-4611686018427387904)then y9.2 else(if y10.2> -4611686018427387904 then y10.2 else-4611686018427387904))then i64.wrap (((hid (y11.1)).2)+((hid ((sqF (hid (y12.1))).1)).2))else(if y9.2>(if y10.2> -4611686018427387904 then y10.2 else-4611686018427387904)then y9.2 else(if y10.2> -4611686018427387904 then y10.2 else-4611686018427387904)),T'))))]|F'=>S' [RV.d tBD (if y7.1<(if y8.1<4611686018427387904 then y8.1 else 4611686018427387904)then y7.1 else(if y8.1<4611686018427387904 then y8.1 else 4611686018427387904),(if y7.2>(if y8.2> -4611686018427387904 then y8.2 else-4611686018427387904)then y7.2 else(if y8.2> -4611686018427387904 then y8.2 else-4611686018427387904),(if i64.wrap (((hid (y11.1)).1)-((hid ((sqF (hid (y12.1))).1)).2))<(if y9.1<(if y10.1<4611686018427387904 then y10.1 else 4611686018427387904)then y9.1 else(if y10.1<4611686018427387904 then y10.1 else 4611686018427387904))then i64.wrap (((hid (y11.1)).1)-((hid ((sqF (hid (y12.1))).1)).2))else(if y9.1<(if y10.1<4611686018427387904 then y10.1 else 4611686018427387904)then y9.1 else(if y10.1<4611686018427387904 then y10.1 else 4611686018427387904)),(if y9.2>(if y10.2> -4611686018427387904 then y10.2 else-4611686018427387904)then y9.2 else(if y10.2> -4611686018427387904 then y10.2 else-4611686018427387904),T'))))])))))))))))))))))))
theorem aj8(c:BCU):RT anc 227 [.d tCU c] (ET c):=rtX
theorem aeq{c:BCU}(h:okC 4000 c/\(c.1=T'->bK c.2.2.1)):∃v:BDs,ET c=S' [.d tBD v]:=by
 obtain⟨a,l,ci,w,f,t⟩:=c;obtain⟨⟨_,_,hf,ht⟩,hc⟩:=h;obtain⟨f,rfl,bf,rf⟩:=bL hf;obtain⟨t,rfl,bt,rt⟩:=bL ht;have q:∀r:Rat,prI (frF r).1:=RE.frF_pr;cases a
 ·unfold ET;simp only[aQ,dp,aV,Nat.reduceLeDiff,aL];cases(a9 (xP f)).2<;>cases(a9 (yP f)).2<;>cases(a9 (xP t)).2<;>cases(a9 (yP t)).2<;>exact⟨_,rfl⟩
 ·obtain⟨l,rfl,bl,nl⟩:=b8 (hc rfl);unfold ET;simp only[aQ,dp,dT (q _),aV,Nat.reduceLeDiff,aL];cases(a9 (xP f)).2<;>cases(a9 (yP f)).2<;>cases(a9 (xP t)).2<;>cases(a9 (yP t)).2<;>cases(frF l.2.1).2<;>cases(frF l.2.2).2<;>cases(sqF (frF l.2.2).1).2<;>cases w<;>exact⟨_,rfl⟩
def PC(c:BCU):BDs:=Classical.epsilon λv=>ET c=S' [.d tBD v]
def ahQ:Cn 227 [tCU]:=cn λ(c:BCU)=>lf (okC 4000 c/\(c.1=T'->bK c.2.2.1)) [.d tBD (PC c)] λh=>by
 refine aX I9 (aj8 _ ?_);exact ao0 (aeq h)
def Y2(a b:BDs)(_k:KT):OLR:=match a.2.2.2.2 with|T'=>(match b.2.2.2.2 with|T'=>(match D' (a.2.1<b.1)with|T'=>S' [RV.d .bool T']|F'=>(match D' (b.2.1<a.1)with|T'=>S' [RV.d .bool T']|F'=>(match D' (a.2.2.2.1<b.2.2.1)with|T'=>S' [RV.d .bool T']|F'=>S' [RV.d .bool (D' (b.2.2.2.1<a.2.2.1))])))|F'=>S' [RV.d .bool F'])|F'=>S' [RV.d .bool F']
def ams:Cn 228 [tBD,tBD]:=cn λ(a b:BDs)=>lf True [.d .bool (VQ a b)] λ_=>by
 refine aA I9 (Y2 a b) ⟨0,?_⟩;unfold Y2 VQ;cases a.2.2.2.2<;>cases b.2.2.2.2<;>cases D' (a.2.1<b.1)<;>cases D' (b.2.1<a.1)<;>cases D' (a.2.2.2.1<b.2.2.1)<;>rfl
def ah0:Cn 81 [tCU,(.sl tP)]:=cn λ(c:BCU) (l:List BP)=>lf (wz c l) [.d (.sl tCU) ([c]),.d ask 0] λh=>by
 have e:CQq7 81 [.d tCU c,.d (.sl tP) l] [.d (.sl tCU) (oP c l),.d ask (X9 c l)]:=(GI.g c l).h h.1;rw[(Jl h).1,(Jl h).2]at e;exact e
def Pk:List En:=[enT ahQ,enT ams,enL Lt,enK ah0]
def aff:NT:=[((149,8),{keep:=[0,3,19,20,21],hl:=99}),((149,27),{keep:=[0,3,6,36,37],hl:=99}),((149,41),{keep:=[0,3,6,7,36,37,40,41],hl:=99}),((149,69),{keep:=[6,11,85,86,87],hl:=99})]
def akw:Ctx:=CX (ens Pk) aff
def YL(c:BO3):OLR:=og (D' (okC 4000 (loM c)/\((loM c).1=T'->bK (loM c).2.2.1))) (og (D' (okC 4000 (upM c)/\((upM c).1=T'->bK (upM c).2.2.1))) (match VQ (hid (PC (upM c))) (hid (PC (loM c)))with|T'=>(og (D' (wz (loM c) ([]))) (og (D' (wz (upM c) ([]))) (S' [RV.new 48 tCU ([(loM c),(upM c)])])))|F'=>(og (D' (jy (upM c) (loM c))) (dup (.b (.b .l .l) .l) (og (D' ((mc (upM c) (loM c)).length*320<=140737488355328/\(mc (upM c) (loM c)).length<=140737488355328)) (og (D' ((mc (upM c) (loM c)).length*320<=140737488355328/\(mc (upM c) (loM c)).length<=140737488355328)) (og (D' (wz (loM c) (mc (upM c) (loM c)))) (og (D' (wz (upM c) (mc (upM c) (loM c)))) (S' [RV.new 48 tCU ([(loM c),(upM c)])])))))))))
theorem ahY(c:BO3):RT akw 149 [.d (.sl tCU) ([loM c,upM c])] (YL c):=rtX
def alI:Cn 149 [(.sl tCU)]:=cn λ(l:List BCU)=>lf (mf l) [.new 48 tCU l] λh=>by
 obtain⟨c,hc,rfl⟩:=h;obtain⟨e1,e2,e3,e4,hp,hl⟩:=Wo hc;refine aX Pk (ahY c ?_);unfold YL;simp only[dp];have b1:okC 4000 (loM c)/\((loM c).1=T'->bK (loM c).2.2.1):=⟨e3.1.1,λ_=>hc⟩
 have b2:okC 4000 (upM c)/\((upM c).1=T'->bK (upM c).2.2.1):=⟨e4.1.1,λ_=>hc⟩
 have b3:(mc (upM c) (loM c)).length*320<=140737488355328/\(mc (upM c) (loM c)).length<=140737488355328:=by omega
 rw[dT b1,dT b2,dT e1,dT e2,dT e3,dT e4,dT hp,dT b3];cases VQ (hid (PC (upM c))) (hid (PC (loM c)))<;>rfl
end
section
open RE
def adT(r s:Rt):Rt:=coR (r.1+s.1) (r.2.1+s.2.1) (gr r s)
def iu(c:BCU):Int:=bif c.2.2.2.1 then 1 else-1
def MK(c:BCU)(p:BP):Prop:=∃x,bK x/\(c=loM x\/c=upM x)/\p=enc (dX (dec x))
instance (c:BCU) (p:BP):Decidable (MK c p):=Classical.propDecidable _
def Dy(c d:BCU):Prop:=∃x,bK x/\(c=loM x\/c=upM x)/\(d=loM x\/d=upM x)
instance (c d:BCU):Decidable (Dy c d):=Classical.propDecidable _
def t8(c d:BCU):Int:=bif D' (iu c<iu d)then-1 else bif D' (iu c>iu d)then 1 else 0
theorem ahx{c:Ln}:yP (dX c)=(c.2.1,0,0):=by
 rw[nG.1];unfold db lY yP;cases eA c.2.2
 ·rfl
 ·show coR (c.2.1+0*rtQ c.2.2) 0 0=_;rw[arV,Rat.add_zero];rfl
def S3:Cn 292 [(.int .u64)]:=cn λ(x:Int)=>lf (x=2) [.d ask 2] λh=>by
 subst h;exact aX [] (N:=[]) ((rtX:RT (CX (ens []) []) 292 [.d (.int .u64) (2:Int)] (S' [.d ask (2:Int)])) rfl)
def Od:List En:=[]
def aky:Ctx:=CX (ens Od) []
def aah(x:SLp):OLR:=match x.1==2 with|T'=>N'|F'=>S' [RV.d ask x.1]
theorem akA(x:SLp):RT aky 373 [.d kK x,.dead] (aah x):=rtX
def ai5:CG (CQq7 373) [kK] (·++[.dead]):=λ(x:SLp)=>lf (x.1≠2) [.d ask x.1] λh=>by
 refine aX Od (akA x ?_);unfold aah;rw[show(x.1==2)=F' from apk.2 h]
def TZ:List En:=[⟨94,fo,dG⟩,⟨46,jN,fx⟩,⟨122,kM,fY⟩,enL Ll]
def adz:NT:=[((375,3),{keep:=[2,3,4,11],hl:=0})]
def aj7:Ctx:=CX (ens TZ) adz
def abb(r s:BO3)(_k:KT):OLR:=og (o1 r.2.1) (match(aD (ag r.2.1) 0)==0 with|T'=>(og (o2 r.1 s.1) (og (o2 r.2.1 s.2.1) (og (D' (okR (hAd r.1 s.1)/\okR (hAd r.2.1 s.2.1)/\okR s.2.2)) (S' [RV.d tO (hid (enc (coR (ag (hAd r.1 s.1)) (ag (hAd r.2.1 s.2.1)) (ag s.2.2)))),RV.d ask 0]))))|F'=>(og (o1 s.2.1) (match(aD (ag s.2.1) 0)==0 with|T'=>(og (o2 r.1 s.1) (og (o2 r.2.1 s.2.1) (og (D' (okR (hAd r.1 s.1)/\okR (hAd r.2.1 s.2.1)/\okR r.2.2)) (S' [RV.d tO (hid (enc (coR (ag (hAd r.1 s.1)) (ag (hAd r.2.1 s.2.1)) (ag r.2.2)))),RV.d ask 0]))))|F'=>(og (o2 r.2.2 s.2.2) (match !((aD (ag r.2.2) (ag s.2.2))==0)with|T'=>S' [RV.d tO (((F',[]),(F',[])),(((F',[]),(F',[])),((F',[]),(F',[])))),RV.d ask 1]|F'=>(og (o2 r.1 s.1) (og (o2 r.2.1 s.2.1) (og (D' (okR (hAd r.1 s.1)/\okR (hAd r.2.1 s.2.1)/\okR r.2.2)) (S' [RV.d tO (hid (enc (coR (ag (hAd r.1 s.1)) (ag (hAd r.2.1 s.2.1)) (ag r.2.2)))),RV.d ask 0])))))))))
theorem akB(r s:BO3):RS aj7 375 [.d tO r,.d tO s] (abb r s):=rsX
def aaf:Cn 375 [tO,tO]:=cn λ(r s:BO3)=>lf (okT 15000 r/\okT 15000 s/\(dec s:Rt).2.1=0) [.d tO (enc (adT (dec r) (dec s))),.d ask 0] λh=>by
 refine aX TZ (akB _ _ ⟨0,?_⟩);obtain⟨hr,hs,h0⟩:=h;obtain⟨r,rfl,br,rr⟩:=gn hr;obtain⟨s,rfl,bs,rs⟩:=gn hs;rw[ao]at h0;unfold abb adT gr;simp only[aQ,ao,dT h0,aV,Nat.reduceAdd,Nat.reduceLeDiff,am];by_cases h1:r.2.1=0
 ·rw[dT h1];rfl
 ·rw[dF h1];rfl
def ado:List En:=[⟨94,fo,dG⟩,enL abz]
def Y8(r:BO3)(_k:KT):OLR:=match D' (okR r.1)with|T'=>(match D' (okR r.2.1)with|T'=>(match(aD (ag r.2.1) 0)==0 with|T'=>S' [RV.d ask (aD (ag r.1) 0)]|F'=>(match(aD (ag r.1) 0)==(aD (ag r.2.1) 0)with|T'=>S' [RV.d ask (aD (ag r.1) 0)]|F'=>(match(aD (ag r.1) 0)==0 with|T'=>S' [RV.d ask (aD (ag r.2.1) 0)]|F'=>(match D' (ok Rt 15000 r)with|T'=>(match D' (okR (hid (av (noR (dec r)))))with|T'=>S' [RV.d ask (i64.wrap ((aD (ag r.1) 0)*(aD (ag (hid (av (noR (dec r))))) 0)))]|F'=>N')|F'=>N'))))|F'=>N')|F'=>N'
def ahK:Cn 384 [tO]:=cn λ(r:BO3)=>lf (okT 15000 r) [.d ask (sgR (dec r))] λh=>by
 refine aA ado (Y8 r) ⟨0,?_⟩;have hr:=h;obtain⟨r,rfl,br,rr⟩:=gn hr;unfold Y8;simp only[aQ,ao,sS,D8,lN,eP,okd,Aa,Nat.reduceAdd,Nat.reduceMul,Nat.reduceLeDiff,xp (jZ _ _) (jZ _ _)];rw[ab4 rr];cases aD r.2.1 0==0
 ·cases aD r.1 0==aD r.2.1 0
  ·cases aD r.1 0==0<;>rfl
  ·rfl
 ·rfl
def Uq:List En:=[enT ahK,enL abz,⟨164,vT,pV⟩,⟨194,iM,fd⟩,⟨196,l6,hU⟩,⟨123,iQ,fi⟩,enL Ll]
def agc:NT:=[((362,21),{keep:=[1,2,3,4,21,22,23,24,25,26,27,28,29,30],hl:=0})]
def aly:Ctx:=CX (ens Uq) agc
def acj(r:BO3)(_k:KT):OLR:=og (D' (okT 15000 r)) (match(sgR (dec r))==0 with|T'=>S' [RV.d tO (((F',[]),(F',[])),(((F',[]),(F',[])),((F',[]),(F',[])))),RV.d ask 6]|F'=>(og (D' (bI (1:Int))) (og (D' (ok Rt 15000 r)) (og (D' (jK (hid (av ((1:Int):Rat))) (hid (av (noR (dec r)))))) (match 0 !=0 with|T'=>S' [RV.d tO (((F',[]),(F',[])),(((F',[]),(F',[])),((F',[]),(F',[])))),RV.d ask 0]|F'=>(og (o1 r.2.1) (og (o2 r.1 (hDi (hid (av ((1:Int):Rat))) (hid (av (noR (dec r)))))) (og (o2 (hNe r.2.1) (hDi (hid (av ((1:Int):Rat))) (hid (av (noR (dec r)))))) (og (D' (okR (hMu r.1 (hDi (hid (av ((1:Int):Rat))) (hid (av (noR (dec r))))))/\okR (hMu (hNe r.2.1) (hDi (hid (av ((1:Int):Rat))) (hid (av (noR (dec r))))))/\okR r.2.2)) N')))))))))
theorem aiF(r:BO3):RS aly 362 [.d tO r] (acj r):=rsX
def Zf:Cn 362 [tO]:=cn λ(r:BO3)=>lf (okT 15000 r/\sgR (dec r)=0) [.d tO z3,.d ask 6] λh=>by
 refine aX Uq (aiF _ ⟨0,?_⟩);unfold acj z3;rw[dT h.1,h.2];rfl
def afW:List En:=[enL wi,enL De,enL sK,enL aaf,enL Zf,⟨196,l6,hU⟩,⟨164,vT,pV⟩,⟨94,fo,dG⟩]
def abq(c:BCU)(p:BP)(_k:KT):OLR:=match !c.1 with|T'=>(og (o1 c.2.1.2.1) (match(aD (ag c.2.1.2.1) 0)==0 with|T'=>S' [RV.d kK (2,(((F',[]),(F',[])),(((F',[]),(F',[])),((F',[]),(F',[])))))]|F'=>(og (o1 c.2.1.1) (og (D' (jK (hNe c.2.1.1) c.2.1.2.1)) (og (o1 (hDi (hNe c.2.1.1) c.2.1.2.1)) (S' [RV.d kK (0,hid (enc ((ag (hDi (hNe c.2.1.1) c.2.1.2.1),0,0):Rt)))]))))))|F'=>(og (D' (okP 4000 p)) (og (o1 c.2.2.1.1) (og (o1 (hNe c.2.2.1.1)) (og (D' (okT 15000 (hid (enc (xP (dec p))))/\okT 15000 (hid (enc ((ag (hNe c.2.2.1.1),0,0):Rt)))/\(dec (hid (enc ((ag (hNe c.2.2.1.1),0,0):Rt))):Rt).2.1=0)) (og (D' (okP 4000 p)) (og (o1 c.2.2.1.2.1) (og (o1 (hNe c.2.2.1.2.1)) (og (D' (okT 15000 (hid (enc (yP (dec p))))/\okT 15000 (hid (enc ((ag (hNe c.2.2.1.2.1),0,0):Rt)))/\(dec (hid (enc ((ag (hNe c.2.2.1.2.1),0,0):Rt))):Rt).2.1=0)) (og (D' (okT 15000 (hid (enc (adT (dec (hid (enc (yP (dec p))))) (dec (hid (enc ((ag (hNe c.2.2.1.2.1),0,0):Rt)))))))/\sgR (dec (hid (enc (adT (dec (hid (enc (yP (dec p))))) (dec (hid (enc ((ag (hNe c.2.2.1.2.1),0,0):Rt))))))))=0)) (match 6 !=0 with|T'=>(match c.2.2.2.1 with|T'=>S' [RV.d kK (1,(((F',[]),(F',[])),(((F',[]),(F',[])),((F',[]),(F',[])))))]|F'=>S' [RV.d kK (-1,(((F',[]),(F',[])),(((F',[]),(F',[])),((F',[]),(F',[])))))])|F'=>dup (.b .l .l) (N')))))))))))
def alg:Cn 343 [tCU,tP]:=cn λ(c:BCU) (p:BP)=>lf (MK c p) [.d kK (iu c,z3)] λh=>by
 refine aA afW (abq c p) ⟨0,?_⟩;obtain⟨x,hx,hc,rfl⟩:=h;obtain⟨o1,_⟩:=qQ hx;obtain⟨l,rfl,bl,h0⟩:=b8 hx;have ey:=ahx (c:=l);obtain⟨v,e,bv,rv⟩:=bL o1;rw[ao]at e;have e:=congrArg (dec:BP->Pt) e;rw[ao,ao]at e;subst e;have k:∀{c:BCU},c=loM (enc l)\/c=upM (enc l)->c.1=T'/\c.2.2.1=enc l:=by rintro c (rfl|rfl)<;>exact⟨rfl,rfl⟩
 obtain⟨k1,k2⟩:=k hc
 have ea:adT (yP (dX l)) (-l.2.1,0,0)=(0,0,0):=by
  rw[ey];unfold adT gr coR;rw[show l.2.1+ -l.2.1=0 by grind];show(bif D' ((0:Rat)+0=0)then _ else _)=_;rw[Rat.add_zero,aoP rfl];rfl
 have b0:Bd (0:Rat) 3:=dQ (n:=0) (by decide);have s0:sgR ((0,0,0):Rt)=0:=rfl;have b3:Bd ((0,0,0):Rt) 3:=inferInstanceAs (Bd ((0:Rat),(0:Rat),(0:Rat)) 3);have r0:Rdd ((0,0,0):Rt):=⟨.inl ⟨rfl,rfl⟩⟩
 unfold abq z3 iu;rw[k1,k2];simp only[aQ,ao,aV,aC,Nat.reduceLeDiff,aI,aL,am];have e3:∀a:Rat,((av a,av 0,av 0):BO3)=enc ((a,0,0):Rt):=λ_=>rfl;have d3:∀a:Rat,Rdd ((a,0,0):Rt):=λ_=>inferInstance;have t1:okT 15000 (enc ((-l.1,0,0):Rt)):=aoQ (aI (x:=(-l.1,0,0)) (j:=4) (by decide) (by decide));have t2:okT 15000 (enc ((-l.2.1,0,0):Rt)):=aoQ (aI (x:=(-l.2.1,0,0)) (j:=4) (by decide) (by decide));have t3:okT 15000 (enc ((0,0,0):Rt)):=aoQ (aI (x:=(0,0,0)) (j:=3) (by decide) (by decide));simp only[e3];simp only[ao,ea,s0,dT t1,dT t2,dT t3,arR,apV];cases c.2.2.2.1<;>rfl
def Sn:List En:=[enT oF,enT mE,enL alg,⟨46,jN,fx⟩,enT qZ,enL Ll,enC ai5]
def ahk:NT:=[((224,14),{keep:=[2,3,19],hl:=0}),((290,11),{keep:=[2,3,4,5,12,13,14,15,16,17,18,19,20,21,22],hl:=0}),((342,44),{keep:=[60],hl:=0})]
def ahV:Ctx:=CX (ens Sn) ahk
def Yt(c d:BCU):OLR:=og (D' (okP 4000 c.2.2.2.2.1/\okP 4000 d.2.2.2.2.1)) (match(aB (dec c.2.2.2.2.1) (dec d.2.2.2.2.1)) !=0 with|T'=>S' [RV.d ask (aB (dec c.2.2.2.2.1) (dec d.2.2.2.2.1))]|F'=>(og (D' (okP 4000 c.2.2.2.2.1/\okP 4000 d.2.2.2.2.1)) (match !(aB (dec c.2.2.2.2.1) (dec d.2.2.2.2.1)==0)with|T'=>(og (D' (okP 4000 c.2.2.2.2.2/\okP 4000 d.2.2.2.2.2)) (S' [RV.d ask (aB (dec c.2.2.2.2.2) (dec d.2.2.2.2.2))]))|F'=>(og (D' (MK c c.2.2.2.2.1)) (og (D' (MK d d.2.2.2.2.1)) (og (D' ((hid ((iu c,z3))).1≠2)) (og (D' ((hid ((iu d,z3))).1≠2)) (match D' (((hid ((iu c,z3))).1)<((hid ((iu d,z3))).1))with|T'=>S' [RV.d ask (-1)]|F'=>(match D' (((hid ((iu c,z3))).1)>((hid ((iu d,z3))).1))with|T'=>S' [RV.d ask 1]|F'=>(match((hid ((iu c,z3))).1)==2 with|T'=>(og (D' (okP 4000 c.2.2.2.2.2/\okP 4000 d.2.2.2.2.2)) (S' [RV.d ask (aB (dec c.2.2.2.2.2) (dec d.2.2.2.2.2))]))|F'=>(match((hid ((iu c,z3))).1) !=0 with|T'=>(og (o2 c.2.2.1.2.2 d.2.2.1.2.2) (match(i64.wrap (((hid ((iu c,z3))).1)*(aD (ag c.2.2.1.2.2) (ag d.2.2.1.2.2)))) !=0 with|T'=>S' [RV.d ask (i64.wrap (((hid ((iu c,z3))).1)*(aD (ag c.2.2.1.2.2) (ag d.2.2.1.2.2))))]|F'=>(og (D' (okP 4000 c.2.2.2.2.2/\okP 4000 d.2.2.2.2.2)) (S' [RV.d ask (aB (dec c.2.2.2.2.2) (dec d.2.2.2.2.2))]))))|F'=>(og (D' (okT 15000 ((hid ((iu c,z3))).2)/\okT 15000 ((hid ((iu d,z3))).2))) (og ((bj (dec ((hid ((iu c,z3))).2)) (dec ((hid ((iu d,z3))).2))) !=0) (match(i64.wrap (1*(bj (dec ((hid ((iu c,z3))).2)) (dec ((hid ((iu d,z3))).2))))) !=0 with|T'=>S' [RV.d ask (i64.wrap (1*(bj (dec ((hid ((iu c,z3))).2)) (dec ((hid ((iu d,z3))).2)))))]|F'=>(og (D' (okP 4000 c.2.2.2.2.2/\okP 4000 d.2.2.2.2.2)) (S' [RV.d ask (aB (dec c.2.2.2.2.2) (dec d.2.2.2.2.2))]))))))))))))))))
theorem akx(c d:BCU):RT ahV 224 [.d tCU c,.d tCU d] (Yt c d):=rtX
def Y4:Cn 224 [tCU,tCU]:=cn λ(c d:BCU)=>lf (Dy c d) [.d ask (t8 c d)] λh=>by
 refine aX Sn (akx _ _ ?_);obtain⟨x,hx,hc,hd⟩:=h;obtain⟨w1,w2,z1,z2,_,_⟩:=qQ hx
 have k:∀{d:BCU},d=loM x\/d=upM x->d.2.2.2.2.1=enc (dX (dec x))/\d.2.2.2.2.2=enc (eH (dec x))/\d.2.2.1=x/\(iu d= -1\/iu d=1):=by
  rintro d (rfl|rfl)
  ·exact⟨rfl,rfl,rfl,.inl rfl⟩
  ·exact⟨rfl,rfl,rfl,.inr rfl⟩
 obtain⟨c1,c2,c3,c4⟩:=k hc;obtain⟨d1,d2,d3,d4⟩:=k hd;have ac:MK c (enc (dX (dec x))):=⟨x,hx,hc,rfl⟩
 have ad:MK d (enc (dX (dec x))):=⟨x,hx,hd,rfl⟩
 have hq:o2 x.2.2 x.2.2=true:=by
  obtain⟨l,rfl,bl,_⟩:=b8 hx;have:okR (enc l).2.2:=aoQ (Aa (q:=l.2.2) (j:=13) (by decide));exact dT ⟨this,this⟩
 have q0:aD (ag x.2.2) (ag x.2.2)=0:=by unfold aD;simp
 unfold Yt t8;simp only[aQ];rw[c1,d1,c2,d2,c3,d3,dT (show okP 4000 (enc (dX (dec x)))/\okP 4000 (enc (dX (dec x))) from⟨w1,w1⟩),dT (show okP 4000 (enc (eH (dec x)))/\okP 4000 (enc (eH (dec x))) from⟨w2,w2⟩),z1,z2,dT ac,dT ad,hq,q0];rcases c4 with e|e<;>rcases d4 with e'|e'<;>rw[e,e']<;>rfl
end
section
open RE
def lw(c:BCU):SLp:=bif c.1 then(iu c,z3)else bif D' ((dec c.2.1:Ln).2.1=0)then(2,z3)else(0,enc ((-(dec c.2.1:Ln).1/(dec c.2.1:Ln).2.1,0,0):Rt))
def Ht(c:BCU)(p:BP):Prop:=okC 3500 c/\okP 3500 p/\(c.1=T'->yP (dec p)=((dec c.2.2.1:Ln).2.1,0,0))
instance (c:BCU) (p:BP):Decidable (Ht c p):=by unfold Ht;infer_instance
def Mq(x:SLp)(s:Int):Int:=bif x.1==2 then i64.wrap (2*s)else x.1
theorem JA(a:Rat):adT (a,0,0) (-a,0,0)=(0,0,0):=by
 unfold adT gr coR;rw[show a+ -a=0 by grind];show(bif D' ((0:Rat)+0=0)then _ else _)=_;rw[Rat.add_zero,aoP rfl];rfl
def Rx:List En:=[]
def amW:Ctx:=CX (ens Rx) []
def ack(x:SLp)(s:Int)(_k:KT):OLR:=match x.1==2 with|T'=>S' [RV.d ask (i64.wrap (2*s))]|F'=>S' [RV.d ask x.1]
theorem akX(x:SLp)(s:Int):RS amW 373 [.d kK x,.elt ask s 0] (ack x s):=rsX
def am4:CG (CQq7 373) [kK,ask] Vl:=λ(x:SLp) (s:Int)=>lf True [.d ask (Mq x s)] λ_=>by
 refine aX Rx (akX x s ⟨0,?_⟩);unfold ack Mq;cases x.1==2<;>rfl
def ads:List En:=[enL wi,enL De,enL sK,enL aaf,enL Zf,⟨196,l6,hU⟩,⟨164,vT,pV⟩,⟨94,fo,dG⟩]
def abQ(c:BCU)(p:BP)(_k:KT):OLR:=match !c.1 with|T'=>(og (o1 c.2.1.2.1) (match(aD (ag c.2.1.2.1) 0)==0 with|T'=>S' [RV.d kK (2,(((F',[]),(F',[])),(((F',[]),(F',[])),((F',[]),(F',[])))))]|F'=>(og (o1 c.2.1.1) (og (D' (jK (hNe c.2.1.1) c.2.1.2.1)) (og (o1 (hDi (hNe c.2.1.1) c.2.1.2.1)) (S' [RV.d kK (0,hid (enc ((ag (hDi (hNe c.2.1.1) c.2.1.2.1),0,0):Rt)))]))))))|F'=>(og (D' (okP 4000 p)) (og (o1 c.2.2.1.1) (og (o1 (hNe c.2.2.1.1)) (og (D' (okT 15000 (hid (enc (xP (dec p))))/\okT 15000 (hid (enc ((ag (hNe c.2.2.1.1),0,0):Rt)))/\(dec (hid (enc ((ag (hNe c.2.2.1.1),0,0):Rt))):Rt).2.1=0)) (og (D' (okP 4000 p)) (og (o1 c.2.2.1.2.1) (og (o1 (hNe c.2.2.1.2.1)) (og (D' (okT 15000 (hid (enc (yP (dec p))))/\okT 15000 (hid (enc ((ag (hNe c.2.2.1.2.1),0,0):Rt)))/\(dec (hid (enc ((ag (hNe c.2.2.1.2.1),0,0):Rt))):Rt).2.1=0)) (og (D' (okT 15000 (hid (enc (adT (dec (hid (enc (yP (dec p))))) (dec (hid (enc ((ag (hNe c.2.2.1.2.1),0,0):Rt)))))))/\sgR (dec (hid (enc (adT (dec (hid (enc (yP (dec p))))) (dec (hid (enc ((ag (hNe c.2.2.1.2.1),0,0):Rt))))))))=0)) (match 6 !=0 with|T'=>(match c.2.2.2.1 with|T'=>S' [RV.d kK (1,(((F',[]),(F',[])),(((F',[]),(F',[])),((F',[]),(F',[])))))]|F'=>S' [RV.d kK (-1,(((F',[]),(F',[])),(((F',[]),(F',[])),((F',[]),(F',[])))))])|F'=>dup (.b .l .l) (N')))))))))))
def alr:Cn 343 [tCU,tP]:=cn λ(c:BCU) (p:BP)=>lf (Ht c p) [.d kK (lw c)] λh=>by
 refine aA ads (abQ c p) ⟨0,?_⟩;obtain⟨hc,hp,hy⟩:=h;obtain⟨p,rfl,bp,rp⟩:=bL hp;obtain⟨ar,li,ci,cw,fr,to⟩:=c;obtain⟨h1,h2,_,_⟩:=hc;dsimp only at h1 h2 hy;rw[ao]at hy;unfold abQ lw z3 iu;cases ar
 ·obtain⟨l,rfl,bl⟩:=aJ (h2 rfl).1;by_cases hb:l.2.1=0
  ·simp only[aQ,ao,aV,aC,Nat.reduceLeDiff,aI,aL,am,hb];rfl
  ·simp only[aQ,ao,aV,aC,Nat.reduceAdd,Nat.reduceLeDiff,aI,aL,am,hb,ne_eq,aqq];rfl
 ·obtain⟨l,rfl,bl⟩:=aJ (h1 rfl).1;have hy:=hy rfl;rw[ao]at hy;have b0:Bd (0:Rat) 3:=dQ (n:=0) (by decide);have s0:sgR ((0,0,0):Rt)=0:=rfl;have b3:Bd ((0,0,0):Rt) 3:=inferInstanceAs (Bd ((0:Rat),(0:Rat),(0:Rat)) 3);have r0:Rdd ((0,0,0):Rt):=⟨.inl ⟨rfl,rfl⟩⟩
  have e3:∀a:Rat,((av a,av 0,av 0):BO3)=enc ((a,0,0):Rt):=λ_=>rfl;have t1:okT 15000 (enc ((-l.1,0,0):Rt)):=aoQ (aI (x:=(-l.1,0,0)) (by decide) (by decide));have t2:okT 15000 (enc ((-l.2.1,0,0):Rt)):=aoQ (aI (x:=(-l.2.1,0,0)) (by decide) (by decide));have t4:okT 15000 (enc ((l.2.1,0,0):Rt)):=aoQ (aI (x:=(l.2.1,0,0)) (by decide) (by decide));have t3:okT 15000 (enc ((0,0,0):Rt)):=aoQ (aI (x:=(0,0,0)) (j:=3) (by decide) (by decide));simp only[aQ,ao,hy,aV,aC,Nat.reduceLeDiff,aI,aL,am];simp only[e3];simp only[ao,JA,s0,dT t1,dT t2,dT t3,dT t4,arR,apV];cases cw<;>rfl
end
section
open RE
def ad2(c d:BCU):Prop:=c.1=F'/\d.1=F'/\okC 3500 c/\okC 3500 d/\(aB (dec c.2.2.2.2.1) (dec d.2.2.2.2.1)≠0\/(lw c).1≠(lw d).1)
instance (c d:BCU):Decidable (ad2 c d):=by unfold ad2;infer_instance
def Zn(c d:BCU):Int:=bif aB (dec c.2.2.2.2.1) (dec d.2.2.2.2.1) !=0 then aB (dec c.2.2.2.2.1) (dec d.2.2.2.2.1)else bif D' ((lw c).1<(lw d).1)then-1 else 1
theorem abK{c:BCU}(h:c.1=F'):(lw c).1=0\/(lw c).1=2:=by
 unfold lw;rw[h,cond_false];cases D' ((dec c.2.1:Ln).2.1=0)
 ·exact .inl rfl
 ·exact .inr rfl
def Tb:List En:=[enT oF,enT mE,enL alr,⟨46,jN,fx⟩,enT qZ,enM am4]
def ae5:NT:=[((224,14),{keep:=[2,3,19],hl:=0}),((290,11),{keep:=[2,3,4,5,12,13,14,15,16,17,18,19,20,21,22],hl:=0}),((342,44),{keep:=[60],hl:=0})]
def ak3:Ctx:=CX (ens Tb) ae5
def ZL(c d:BCU)(_k:KT):OLR:=let y1:=aB (dec c.2.2.2.2.1) (dec d.2.2.2.2.1);let y2:OLR:=match D' (okP 4000 c.2.2.2.2.2/\okP 4000 d.2.2.2.2.2)with|T'=>S' [RV.d ask (aB (dec c.2.2.2.2.2) (dec d.2.2.2.2.2))]|F'=>N';let y3:OLR:=match 0 !=0 with|T'=>S' [RV.d ask 0]|F'=>y2;let y4:=Mq (hid (lw c)) (1:Int);let y5:=Mq (hid (lw d)) (1:Int);let y6:=i64.wrap (((hid (lw c)).1)*(aD (ag c.2.2.1.2.2) (ag d.2.2.1.2.2)));let y7:=bj (dec ((hid (lw c)).2)) (dec ((hid (lw d)).2));let y8:=i64.wrap (1*y7);og (D' (okP 4000 c.2.2.2.2.1/\okP 4000 d.2.2.2.2.1)) (match y1 !=0 with|T'=>S' [RV.d ask y1]|F'=>(og (D' (okP 4000 c.2.2.2.2.1/\okP 4000 d.2.2.2.2.1)) (match !(aB (dec c.2.2.2.2.1) (dec d.2.2.2.2.1)==0)with|T'=>(match 1==0 with|T'=>y3|F'=>y2)|F'=>(og (D' (Ht c c.2.2.2.2.1)) (og (D' (Ht d d.2.2.2.2.1)) (match D' (y4<y5)with|T'=>(match 0==0 with|T'=>(match(-1) !=0 with|T'=>S' [RV.d ask (-1)]|F'=>y2)|F'=>y2)|F'=>(match D' (y4>y5)with|T'=>(match 0==0 with|T'=>(match 1 !=0 with|T'=>S' [RV.d ask 1]|F'=>y2)|F'=>y2)|F'=>(match((hid (lw c)).1)==2 with|T'=>(match 0==0 with|T'=>y3|F'=>y2)|F'=>(match((hid (lw c)).1) !=0 with|T'=>(og (o2 c.2.2.1.2.2 d.2.2.1.2.2) (match 0==0 with|T'=>(match y6 !=0 with|T'=>S' [RV.d ask y6]|F'=>y2)|F'=>y2))|F'=>(og (D' (okT 15000 ((hid (lw c)).2)/\okT 15000 ((hid (lw d)).2))) (og (y7 !=0) (match 0==0 with|T'=>(match y8 !=0 with|T'=>S' [RV.d ask y8]|F'=>y2)|F'=>y2))))))))))))
theorem alH(c d:BCU):RS ak3 224 [.d tCU c,.d tCU d] (ZL c d):=rsX
def NS:Cn 224 [tCU,tCU]:=cn λ(c d:BCU)=>lf (ad2 c d) [.d ask (Zn c d)] λh=>by
 refine aX Tb (alH _ _ ⟨0,?_⟩);obtain⟨a1,a2,b1,b2,hne⟩:=h;have c4:=aY (k:=4000) b1 (by decide) (by decide);have d4:=aY (k:=4000) b2 (by decide) (by decide);have m1:Ht c c.2.2.2.2.1:=⟨b1,b1.2.2.1,λe=>by rw[a1]at e;cases e⟩
 have m2:Ht d d.2.2.2.2.1:=⟨b2,b2.2.2.1,λe=>by rw[a2]at e;cases e⟩
 have k:∀x:SLp,x.1=0\/x.1=2->Mq x 1=x.1:=λx h=>by
  unfold Mq;rcases h with e|e<;>rw[e]<;>rfl
 have e1:=k _ (abK a1);have e2:=k _ (abK a2);unfold ZL Zn;simp only[aQ,e1,e2];rw[dT (show okP 4000 c.2.2.2.2.1/\okP 4000 d.2.2.2.2.1 from⟨c4.2.2.1,d4.2.2.1⟩),dT m1,dT m2];cases hz:aB (dec c.2.2.2.2.1) (dec d.2.2.2.2.1) !=0
 ·have h0:aB (dec c.2.2.2.2.1) (dec d.2.2.2.2.1)=0:=by simpa using hz
  have hn:=hne.resolve_left (λe=>e h0);rw[h0];rcases Int.lt_or_gt_of_ne hn with g|g
  ·rw[dT g];rfl
  ·rw[dF (show ¬(lw c).1<(lw d).1 by omega),dT (show(lw c).1>(lw d).1 from g)];rfl
 ·rfl
def PF:List En:=[enT oF,enL Ay]
def Wt:NT:=[((146,24),{keep:=[3,35,36,37],hl:=99}),((289,6),{keep:=[0,1,2,6,7,8],hl:=99}),((340,3),{keep:=[0,1,2,3,8],hl:=99}),((289,22),{keep:=[0,1,2,6],hl:=99}),((146,42),{keep:=[3],hl:=0}),((223,0),{keep:=[],hl:=0}),((289,20),{keep:=[0,1,2,6],hl:=0})]
def ad9:Ctx:=CX (ens PF) Wt
def UL(li ci:BO3)(cw:Bool)(fr to:BP):OLR:=og (D' (okP 4000 fr/\okP 4000 to)) (match D' ((aB (dec fr) (dec to))>0)with|T'=>S' [RV.new 48 tCU ([hid (gJ (F',(li,(ci,(cw,(fr,to))))))])]|F'=>S' [RV.new 48 tCU ([(F',(li,(ci,(cw,(fr,to)))))])])
theorem agC(li ci:BO3)(cw:Bool)(fr to:BP):RT ad9 146 [.d tCU (F',(li,(ci,(cw,(fr,to)))))] (UL li ci cw fr to):=rtX
def IJ:Cn 146 [tCU]:=cn λ(c:BCU)=>lf (c.1=F'/\okP 4000 c.2.2.2.2.1/\okP 4000 c.2.2.2.2.2) [.new 48 tCU ([jQ c])] λh=>by
 obtain⟨ar,li,ci,cw,fr,to⟩:=c;obtain⟨ha,h1,h2⟩:=h;have ha:ar=false:=ha;subst ha;refine aX PF (agC li ci cw fr to ?_);unfold UL jQ;rw[dT (show okP 4000 fr/\okP 4000 to from⟨h1,h2⟩)];simp only[aQ];cases D' (aB (dec fr) (dec to)>0)<;>rfl
end
abbrev RgE:Type:=BP×Int×Bool
abbrev dK:Ty:=.st (.pair tP (.pair ask .bool))
theorem P0{α:Type}{lt:α->α->Bool}{l:List α}{I:Nat->Nat->List α->Prop}{O:Nat->List α->Prop}
  (h0:∀i r,r.Perm l->i<l.length->O (i+1) r->I i 0 r)
  (h1:∀i j r a b,r.Perm l->i<l.length->j<i->r[j+1]?=S' a->r[j]?=S' b->(bif lt a b then I i j ((r.set (j+1) b).set j a)else O (i+1) r)->I i (j+1) r) (i:Nat) (hi:i<l.length):
  ∀(L:List α) (a:α) (R:List α),(L.reverse++a::R).Perm l->L.length<=i->O (i+1) ((lz lt L a).reverse++R)->I i L.length (L.reverse++a::R)
 |[],a,R,hp,hl,h=>h0 i _ hp hi h
 |b::L,a,R,hp,hl,h=>by
  have e:(b::L).reverse++a::R=L.reverse++b::a::R:=by simp
  rw[e]at hp ⊢;have hl:L.length+1<=i:=hl;refine h1 i L.length _ a b hp hi (by omega) (by simp) (by simp) ?_;unfold lz at h;cases hlt:lt a b
  ·rw[hlt,cond_false]at h;rw[cond_false];simpa using h
  ·rw[hlt,cond_true]at h;rw[cond_true];have s:((L.reverse++b::a::R).set (L.length+1) b).set L.length a=L.reverse++a::b::R:=by simp
   rw[s];exact P0 h0 h1 i hi L a (b::R) ((List.Perm.append_left _ (List.Perm.swap ..)).trans hp) (by omega) (by simpa using h)
theorem JV{α:Type}{lt:α->α->Bool}{l:List α}{I:Nat->Nat->List α->Prop}{O:Nat->List α->Prop}
  (h0:∀i r,r.Perm l->i<l.length->O (i+1) r->I i 0 r)
  (h1:∀i j r a b,r.Perm l->i<l.length->j<i->r[j+1]?=S' a->r[j]?=S' b->(bif lt a b then I i j ((r.set (j+1) b).set j a)else O (i+1) r)->I i (j+1) r)
  (hO:∀i r,r.Perm l->i<l.length->I i i r->O i r):
  ∀(R D:List α),(D.reverse++R).Perm l->O l.length (R.foldl (lz lt) D).reverse->O D.length (D.reverse++R)
 |[],D,hp,h=>by
  have:=hp.length_eq;rw[apj]at*
  rw[show D.length=l.length by simpa using this];exact h
 |a::R,D,hp,h=>by
  have hn:=hp.length_eq;have hn:D.length+(R.length+1)=l.length:=by simpa using hn
  have p2:((lz lt D a).reverse++R).Perm l:=by
   refine List.Perm.trans ?_ hp
   have:∀D:List α,(lz lt D a).reverse.Perm (a::D.reverse):=λD=>(arH _).trans (by
    induction D with
    |nil=>exact arL _
    |cons b D ih=>
     unfold lz;cases lt a b
     ·exact(arH (b::D)).symm.cons a
     ·refine((ih.cons b).trans (List.Perm.swap ..)).trans (((arH (b::D)).trans ?_).symm.cons a);exact(arH D).symm.cons b)
   exact((this D).append_right R).trans (by simpa using(List.perm_middle (l₁:=D.reverse) (l₂:=R) (a:=a)).symm)
  have h2:=JV h0 h1 hO R (lz lt D a) p2 h;rw[pu]at h2;exact hO _ _ hp (by omega) (P0 h0 h1 D.length (by omega) D a R hp (aoU _) h2)
theorem WC{α:Type}{lt:α->α->Bool}{l:List α}{I:Nat->Nat->List α->Prop}{O:Nat->List α->Prop}
  (h0:∀i r,r.Perm l->i<l.length->O (i+1) r->I i 0 r)
  (h1:∀i j r a b,r.Perm l->i<l.length->j<i->r[j+1]?=S' a->r[j]?=S' b->(bif lt a b then I i j ((r.set (j+1) b).set j a)else O (i+1) r)->I i (j+1) r)
  (hO:∀i r,r.Perm l->i<l.length->I i i r->O i r) (hE:∀i r,r.Perm l->l.length<=i->r=qM lt l->O i r):O 1 l:=by
 cases l with
 |nil=>exact hE 1 [] (arL _) (by simp) rfl
 |cons a R=>
  refine JV (I:=I) h0 h1 hO R [a] (arL _) (hE _ _ ?_ (aoU _) rfl);refine List.Perm.trans (arH _) ?_
  have:∀(R D:List α),(R.foldl (lz lt) D).Perm (R++D):=λR=>by
   induction R with
   |nil=>intro D;exact arL _
   |cons b R ih=>
    intro D;refine(ih _).trans (List.Perm.trans ?_ (List.perm_middle (l₁:=R) (l₂:=D) (a:=b)));refine List.Perm.append_left R ?_;induction D with
    |nil=>exact arL _
    |cons c D ihd=>
     unfold lz;cases lt b c
     ·exact arL _
     ·exact(ihd.cons c).trans (List.Perm.swap ..)
  exact(this R [a]).trans (by simp)
def wq(a b:RgE):Bool:=D' (aB (dec a.1) (dec b.1)<0)
def oI:List BCU->Int->List RgE
 |[],_=>[]
 |c::l,i=>(c.2.2.2.2.1,(i,true))::(c.2.2.2.2.2,(i,false))::oI l (i+1)
def ul(l:List BCU):List RgE:=oI l 0
def Vw(l:List BCU):Prop:=l.length<=9/\∀c∈l,okP 4000 c.2.2.2.2.1/\okP 4000 c.2.2.2.2.2
instance (l:List BCU):Decidable (Vw l):=by unfold Vw;infer_instance
theorem Bv(c:BCU):∀(l:List BCU) (i:Int),oI (l++[c]) i=oI l i++[(c.2.2.2.2.1,(i+l.length,T')),(c.2.2.2.2.2,(i+l.length,F'))]
 |[],i=>by simp[oI]
 |d::l,i=>by
  rw[List.cons_append,oI,oI,Bv c l (i+1)];simp only[List.cons_append,ao8];rw[show i+1+(l.length:Int)=i+((l.length+1:Nat):Int) by omega]
theorem vS:∀(l:List BCU) (i:Int),(oI l i).length=2*l.length
 |[],_=>rfl
 |c::l,i=>by rw[oI,ao8,ao8,vS l,ao8];omega
theorem FZ:∀{l:List BCU} {i:Int},(∀c∈l,okP 4000 c.2.2.2.2.1/\okP 4000 c.2.2.2.2.2)->∀e∈oI l i,okP 4000 e.1
 |[],_,_,e,he=>by cases he
 |c::l,i,h,e,he=>by
  have hc:=h c (by simp);rw[oI]at he;rcases ao7.1 he with q|he
  ·rw[q];exact hc.1
  rcases ao7.1 he with q|he
  ·rw[q];exact hc.2
  exact FZ (λd hd=>h d (ao4 _ hd)) e he
def O8:cE:={keep:=T',run:=λ_ _ _=>N'}
theorem PD:SpK 339 O8:=by
 refine⟨by kernel_rfl,λR args k r h=>(by cases h),(λg h=>(by cases h)),λ_ _ e=>(by cases e)⟩
def QA:List En:=[enT oF,⟨339,O8,PD⟩]
def Yg:NT:=[((145,8),{keep:=[3,6,7,8],own:=[(3,168,dK)],hl:=2,pd:=1}),((288,6),{keep:=[0,1,2,6,7,8],hl:=2}),((338,3),{keep:=[0,1,2,3,8],hl:=2}),((338,15),{keep:=[0,1,2,3,8,9],hl:=2}),((288,22),{keep:=[0,1,2,6],hl:=2}),((288,34),{keep:=[0,1,2,6,7,8],hl:=2}),((145,22),{keep:=[3],hl:=0}),((218,0),{keep:=[],hl:=0}),((288,15),{keep:=[0,1,2,6,8],hl:=0}),((288,20),{keep:=[0,1,2,6],hl:=0}),((338,18),{keep:=[0,1,2,3,8,9,18,19,20,21,22,23,24,25,26,27,28,29,30,31,32,33,34],hl:=0})]
def gj:Ctx:=CX (ens QA) Yg
def wM(l:List BCU)(s8:Int)(r1:List RgE):Cfg:=⟨145,[.blk 0,.seq 21],[(3,.own 1),(6,.own 0),(7,SI (l.length:Int)),(8,SI s8)],[.len tCU l,.row 168 dK r1],0,[]⟩
def pq(l:List BCU)(r1:List RgE)(s288_7 s288_8:Int)(r288_1:List RgE):Cfg:=⟨288,[.blk 0,.seq 19],[(0,.own 1),(1,SI (r1.length:Int)),(2,.clo 219 []),(6,SI 20),(7,SI s288_7),(8,SI s288_8)],[.len tCU l,.row 168 dK r288_1],2,[⟨218,[],0,4,[],2,N'⟩,⟨145,[.seq 23],22,1,[(3,.own 1)],0,N'⟩]⟩
def pF(l:List BCU)(r1:List RgE)(s288_7 s288_8 s338_8:Int)(r338_1:List RgE):Cfg:=⟨338,[.blk 0],[(0,.own 1),(1,SI s288_7),(2,SI s288_8),(3,.clo 219 []),(8,SI s338_8)],[.len tCU l,.row 168 dK r338_1],2,[⟨288,[.seq 16,.blk 1,.lp 6,.blk 0,.seq 19],15,4,[(0,.own 1),(1,SI (r1.length:Int)),(2,.clo 219 []),(6,SI 20),(8,SI s288_8)],2,N'⟩,⟨218,[],0,4,[],2,N'⟩,⟨145,[.seq 23],22,1,[(3,.own 1)],0,N'⟩]⟩
def eF(l:List BCU)(r1:List RgE)(s288_7 s338_8:Int)(r338_1:List RgE):Cfg:=⟨338,[.blk 0],[(0,.own 1),(1,SI s288_7),(2,SI (r1.length:Int)),(3,.clo 219 []),(8,SI s338_8)],[.len tCU l,.row 168 dK r338_1],2,[⟨288,[.seq 21],20,4,[(0,.own 1),(1,SI (r1.length:Int)),(2,.clo 219 []),(6,SI 20)],2,N'⟩,⟨218,[],0,4,[],2,N'⟩,⟨145,[.seq 23],22,1,[(3,.own 1)],0,N'⟩]⟩
def CU(l:List BCU)(r1:List RgE)(s288_7 s288_8 s338_8 s338_9:Int)(r338_1:List RgE):Cfg:=⟨338,[.blk 2,.blk 1,.seq 26,.lp 3,.blk 0],[(0,.own 1),(1,SI s288_7),(2,SI s288_8),(3,.clo 219 []),(8,SI s338_8),(9,SI s338_9)],[.len tCU l,.row 168 dK r338_1],2,[⟨288,[.seq 16,.blk 1,.lp 6,.blk 0,.seq 19],15,4,[(0,.own 1),(1,SI (r1.length:Int)),(2,.clo 219 []),(6,SI 20),(8,SI s288_8)],2,N'⟩,⟨218,[],0,4,[],2,N'⟩,⟨145,[.seq 23],22,1,[(3,.own 1)],0,N'⟩]⟩
def fy(l:List BCU)(r1:List RgE)(s288_7 s338_8 s338_9:Int)(r338_1:List RgE):Cfg:=⟨338,[.blk 2,.blk 1,.seq 26,.lp 3,.blk 0],[(0,.own 1),(1,SI s288_7),(2,SI (r1.length:Int)),(3,.clo 219 []),(8,SI s338_8),(9,SI s338_9)],[.len tCU l,.row 168 dK r338_1],2,[⟨288,[.seq 21],20,4,[(0,.own 1),(1,SI (r1.length:Int)),(2,.clo 219 []),(6,SI 20)],2,N'⟩,⟨218,[],0,4,[],2,N'⟩,⟨145,[.seq 23],22,1,[(3,.own 1)],0,N'⟩]⟩
def n6(l:List BCU)(r1 r338_1:List RgE)(s288_6:Int):Cfg:=⟨288,[.blk 2],[(0,.own 1),(1,SI (r1.length:Int)),(2,.clo 219 []),(6,SI s288_6)],[.len tCU l,.row 168 dK r338_1],2,[⟨218,[],0,4,[],2,N'⟩,⟨145,[.seq 23],22,1,[(3,.own 1)],0,N'⟩]⟩
def Er(l:List BCU)(r1 r338_1:List RgE)(s288_6:Int):Cfg:=⟨288,[.blk 4,.seq 47,.blk 3,.lp 22,.blk 2],[(0,.own 1),(1,SI (r1.length:Int)),(2,.clo 219 []),(6,SI s288_6),(7,SI 0),(8,SI (i64.wrap (2*s288_6)))],[.len tCU l,.row 168 dK r338_1],2,[⟨218,[],0,4,[],2,N'⟩,⟨145,[.seq 23],22,1,[(3,.own 1)],0,N'⟩]⟩
def acQ(l:List BCU)(k:KT):OLR:=k 8 (wM l 0 ([]))
theorem ae7(l:List BCU):RSL gj 145 0 [.d (.sl tCU) l] (acQ l):=an3
def uZ(l:List BCU)(s8:Int)(r1:List RgE)(k:KT):OLR:=match D' (s8<(l.length:Int))with|T'=>(match aH l s8 with|S' _=>(match T',l[(s8).toNat]? with|T',S' x1=>(og (D' ((r1.length+([(x1.2.2.2.2.1,(s8,T')),(x1.2.2.2.2.2,(s8,F'))]).length)*336<=140737488355328/\r1.length+([(x1.2.2.2.2.1,(s8,T')),(x1.2.2.2.2.2,(s8,F'))]).length<=140737488355328)) (k 8 (wM l (i64.wrap (s8+1)) (r1++([(x1.2.2.2.2.1,(s8,T')),(x1.2.2.2.2.2,(s8,F'))])))))|_,_=>N')|N'=>N')|F'=>k 6 (pq l r1 0 20 r1)
theorem AU(l:List BCU)(s8:Int)(r1:List RgE):RN gj 8 (wM l s8 r1) (uZ l s8 r1):=rnX
def rj(l:List BCU)(r1:List RgE)(s288_7 s288_8:Int)(r288_1:List RgE)(k:KT):OLR:=match D' (s288_8<=(r1.length:Int))with|T'=>k 3 (pF l r1 s288_7 s288_8 (i64.wrap (s288_7+1)) r288_1)|F'=>k 3 (eF l r1 s288_7 (i64.wrap (s288_7+1)) r288_1)
theorem Aq(l:List BCU)(r1:List RgE)(s288_7 s288_8:Int)(r288_1:List RgE):RN gj 6 (pq l r1 s288_7 s288_8 r288_1) (rj l r1 s288_7 s288_8 r288_1):=rnX
def jL(l:List BCU)(r1:List RgE)(s288_7 s338_8:Int)(r338_1:List RgE)(k:KT):OLR:=match D' (s338_8<(r1.length:Int))with|T'=>k 15 (fy l r1 s288_7 s338_8 s338_8 r338_1)|F'=>k 22 (n6 l r1 r338_1 20)
theorem oD(l:List BCU)(r1:List RgE)(s288_7 s338_8:Int)(r338_1:List RgE):RN gj 3 (eF l r1 s288_7 s338_8 r338_1) (jL l r1 s288_7 s338_8 r338_1):=rnX
def TD(l:List BCU)(r1:List RgE)(s288_7 s288_8 s338_8 s338_9:Int)(r338_1:List RgE)(k:KT):OLR:=match D' (s338_9>s288_7)with|T'=>(match aH r338_1 s338_9 with|S' _=>(match T',r338_1[(s338_9).toNat]? with|T',S' x2=>(match aH r338_1 (i64.wrap (s338_9-1))with|S' _=>(match T',r338_1[(i64.wrap (s338_9-1)).toNat]? with|T',S' x3=>(og (D' (okP 4000 x2.1/\okP 4000 x3.1)) (match D' ((aB (dec x2.1) (dec x3.1))<0)with|T'=>(match aH r338_1 (i64.wrap (s338_9-1))with|S' _=>(match T',r338_1[(i64.wrap (s338_9-1)).toNat]? with|T',S' x4=>(match aH r338_1 s338_9 with|S' _=>(match T',r338_1[(s338_9).toNat]? with|T',S' x5=>(match aH r338_1 s338_9 with|S' _=>(match T',r338_1[(s338_9).toNat]? with|T',S' _=>(match aH (r338_1.set ((s338_9).toNat) x4) (i64.wrap (s338_9-1))with|S' _=>(match T',(r338_1.set ((s338_9).toNat) x4)[(i64.wrap (s338_9-1)).toNat]? with|T',S' _=>k 15 (CU l r1 s288_7 s288_8 s338_8 (i64.wrap (s338_9-1)) ((r338_1.set ((s338_9).toNat) x4).set ((i64.wrap (s338_9-1)).toNat) x5))|_,_=>N')|N'=>N')|_,_=>N')|N'=>N')|_,_=>N')|N'=>N')|_,_=>N')|N'=>N')|F'=>k 3 (pF l r1 s288_7 s288_8 (i64.wrap (s338_8+1)) r338_1)))|_,_=>N')|N'=>N')|_,_=>N')|N'=>N')|F'=>k 3 (pF l r1 s288_7 s288_8 (i64.wrap (s338_8+1)) r338_1)
def fL(l:List BCU)(r1:List RgE)(s288_7 s338_8 s338_9:Int)(r338_1:List RgE)(k:KT):OLR:=match D' (s338_9>s288_7)with|T'=>(match aH r338_1 s338_9 with|S' _=>(match T',r338_1[(s338_9).toNat]? with|T',S' x2=>(match aH r338_1 (i64.wrap (s338_9-1))with|S' _=>(match T',r338_1[(i64.wrap (s338_9-1)).toNat]? with|T',S' x3=>(og (D' (okP 4000 x2.1/\okP 4000 x3.1)) (match D' ((aB (dec x2.1) (dec x3.1))<0)with|T'=>(match aH r338_1 (i64.wrap (s338_9-1))with|S' _=>(match T',r338_1[(i64.wrap (s338_9-1)).toNat]? with|T',S' x4=>(match aH r338_1 s338_9 with|S' _=>(match T',r338_1[(s338_9).toNat]? with|T',S' x5=>(match aH r338_1 s338_9 with|S' _=>(match T',r338_1[(s338_9).toNat]? with|T',S' _=>(match aH (r338_1.set ((s338_9).toNat) x4) (i64.wrap (s338_9-1))with|S' _=>(match T',(r338_1.set ((s338_9).toNat) x4)[(i64.wrap (s338_9-1)).toNat]? with|T',S' _=>k 15 (fy l r1 s288_7 s338_8 (i64.wrap (s338_9-1)) ((r338_1.set ((s338_9).toNat) x4).set ((i64.wrap (s338_9-1)).toNat) x5))|_,_=>N')|N'=>N')|_,_=>N')|N'=>N')|_,_=>N')|N'=>N')|_,_=>N')|N'=>N')|F'=>k 3 (eF l r1 s288_7 (i64.wrap (s338_8+1)) r338_1)))|_,_=>N')|N'=>N')|_,_=>N')|N'=>N')|F'=>k 3 (eF l r1 s288_7 (i64.wrap (s338_8+1)) r338_1)
theorem iK(l:List BCU)(r1:List RgE)(s288_7 s338_8 s338_9:Int)(r338_1:List RgE):RN gj 15 (fy l r1 s288_7 s338_8 s338_9 r338_1) (fL l r1 s288_7 s338_8 s338_9 r338_1):=rnX
def p6(l:List BCU)(r1 r338_1:List RgE)(s288_6:Int)(k:KT):OLR:=match D' (s288_6<(r1.length:Int))with|T'=>k 34 (Er l r1 r338_1 s288_6)|F'=>S' [RV.new 168 dK r338_1]
theorem ze(l:List BCU)(r1 r338_1:List RgE)(s288_6:Int):RN gj 22 (n6 l r1 r338_1 s288_6) (p6 l r1 r338_1 s288_6):=rnX
theorem Yh(b0:List BCU){l:List RgE}(hl:l.length<=18)(ho:∀e∈l,okP 4000 e.1):gj.Runs 3 (eF b0 l 0 1 l) [.new 168 dK (qM wq l)]:=by
 refine WC (lt:=wq) (l:=l) (I:=λi j r=>gj.Runs 15 (fy b0 l 0 (i:Int) (j:Int) r) [.new 168 dK (qM wq l)]) (O:=λi r=>gj.Runs 3 (eF b0 l 0 (i:Int) r) [.new 168 dK (qM wq l)]) ?_ ?_ ?_ ?_
 ·rintro i r hp hi ⟨n,hn⟩
  refine iK _ _ _ _ _ _ ⟨n,?_⟩;unfold fL;rw[dF (show ¬((0:Nat):Int)>0 by omega),aS (k:=i) (by omega)];exact hn
 ·intro i j r a b hp hi hj ha hb h;have ew:i64.wrap (((j+1:Nat):Int)-1)=(j:Int):=by rw[aM (by omega) (by omega)];omega
  have la:okP 4000 a.1:=ho a (hp.mem_iff.1 (apM ha));have lb:okP 4000 b.1:=ho b (hp.mem_iff.1 (apM hb));have lr:=hp.length_eq;have g:(r.set (j+1) b)[j]?=S' b:=by rw[ap9 (by omega)];exact hb
  have key:∀n R,(match wq a b with
    |true=>gj.k n 15 (fy b0 l 0 (i:Int) (j:Int) ((r.set (j+1) b).set j a))
    |false=>gj.k n 3 (eF b0 l 0 ((i+1:Nat):Int) r))=some R->fL b0 l 0 (i:Int) ((j+1:Nat):Int) r (gj.k n)=some R:=λn R h=>by
   unfold fL;rw[dT (show((j+1:Nat):Int)>0 by omega),ew,ak,ha,ak,hb,show((j+1:Nat):Int).toNat=j+1 by omega,show((j:Nat):Int).toNat=j by omega,ha,hb];dsimp only;rw[dT (show okP 4000 a.1/\okP 4000 b.1 from⟨la,lb⟩),ak,g,aS (k:=i) (by omega)];dsimp only;unfold wq at h;exact h
  cases hlt:wq a b<;>rw[hlt]at h
  ·obtain⟨n,hn⟩:=h;exact iK _ _ _ _ _ _ ⟨n,key n _ (by rw[hlt];exact hn)⟩
  ·obtain⟨n,hn⟩:=h;exact iK _ _ _ _ _ _ ⟨n,key n _ (by rw[hlt];exact hn)⟩
 ·rintro i r hp hi ⟨n,hn⟩
  refine oD _ _ _ _ _ ⟨n,?_⟩;unfold jL;rw[dT (show(i:Int)<(l.length:Int) by omega)];exact hn
 ·rintro i r hp hi rfl
  have q:gj.Runs 22 (n6 b0 l (qM wq l) 20) [.new 168 dK (qM wq l)]:=ze _ _ _ _ ⟨0,by
   unfold p6;rw[dF (show ¬(20:Int)<(l.length:Int) by omega)]⟩
  obtain⟨n,hn⟩:=q;refine oD _ _ _ _ _ ⟨n,?_⟩;unfold jL;rw[dF (show ¬(i:Int)<(l.length:Int) by omega)];exact hn
theorem Xd{l:List BCU}(h:Vw l):∀(j i:Nat),i+j=l.length->gj.Runs 8 (wM l (i:Int) (oI (l.take i) 0)) [.new 168 dK (qM wq (ul l))]:=by
 obtain⟨hl,ho⟩:=h;intro j;induction j with
 |zero=>
  intro i hi;have hn:(ul l).length<=18:=by unfold ul;rw[vS];omega
  obtain⟨n,hn1⟩:=Yh l (l:=ul l) hn (FZ ho)
  have q:gj.Runs 6 (pq l (ul l) 0 20 (ul l)) [.new 168 dK (qM wq (ul l))]:=Aq _ _ _ _ _ ⟨n,by
   unfold rj;rw[dF (show ¬(20:Int)<=((ul l).length:Int) by omega)];exact hn1⟩
  obtain⟨m,hm⟩:=q;refine AU _ _ _ ⟨m,?_⟩;unfold uZ;rw[dF (show ¬(i:Int)<(l.length:Int) by omega),apy (by omega)];exact hm
 |succ j ih=>
  intro i hi;have hil:i<l.length:=by omega
  obtain⟨n,hn⟩:=ih (i+1) (by omega);refine AU _ _ _ ⟨n,?_⟩;unfold uZ;rw[dT (show(i:Int)<(l.length:Int) by omega),ak,show((i:Nat):Int).toNat=i by omega,aoO hil,aS (k:=i) (by omega)];dsimp only;rw[dT (by rw[vS];simp;omega)];rw[ap0 hil,Bv,app,aps (by omega),Int.zero_add]at hn;exact hn
def Qt:CG (Iq Tryz.prog 145 0) [(.sl tCU)] id:=λ(l:List BCU)=>lf (Vw l) [.new 168 dK (qM wq (ul l))] λh=>by
 obtain⟨n,hn⟩:=Xd h l.length 0 (ao3 _);exact EY QA (p:=0) (ae7 _ ⟨n,hn⟩)
end Go.Proofs.YtoimchcjhdcdmaaGreat
end
