/- The distance of any point: the reference's Point, Move; points of places. -/
import Derived.Test.YtnkndpoojnflmaaGreatF14
import Derived.Test.YtnkndpoojnflmaaGreatF17
import Derived.Test.YtnkndpoojnflmaaGreatF15
import Derived.Test.YtnkndpoojnflmaaGreatF18
import Derived.Test.YtnkndpoojnflmaaGreatF16
noncomputable section
namespace Go.Proofs.YtnkndpoojnflmaaGreat
open Go.RowKit Go.IntKind
section
def rwX(p:Pt)(v:Rat×Rat):Rt:=(p.1-v.1,p.2.1,p.2.2.2.2)
def rwY(p:Pt)(v:Rat×Rat):Rt:=(p.2.2.1-v.2,p.2.2.2.1,p.2.2.2.2)
def tiQ(x y:Rt):Qd:=(x.1*y.1,x.2.1*y.1,x.1*y.2.1,x.2.1*y.2.1,x.2.2,y.2.2)
def plQ(p q:Qd):Qd:=(p.1+q.1,p.2.1+q.2.1,p.2.2.1+q.2.2.1,p.2.2.2.1+q.2.2.2.1,p.2.2.2.2.1,p.2.2.2.2.2)
def miQ(p:Qd):Qd:=(-p.1,-p.2.1,-p.2.2.1,-p.2.2.2.1,p.2.2.2.2.1,p.2.2.2.2.2)
def alR(d:Rat×Rat)(p:Pt):Rt:=mkR (d.1*p.1+d.2*p.2.2.1) (d.1*p.2.1+d.2*p.2.2.2.1) p.2.2.2.2
def l6(l:Ln):Rat×Rat:=(l.2.1,-l.1)
def oI(c:Cv):Rat×Rat:=bif decide (aW (alR (l6 (lnC c)) (toC c)) (alR (l6 (lnC c)) (frC c))<0)then bkV (l6 (lnC c))else l6 (lnC c)
def mvB(c:BCU)(v:Rat×Rat):BCU:=(c.1,bif c.1 then c.2.1 else enc (RE.mvLn (dec c.2.1) v),bif c.1 then enc (RE.mvCi (dec c.2.2.1) v)else c.2.2.1,c.2.2.2.1,enc (trP (dec c.2.2.2.2.1) v),enc (trP (dec c.2.2.2.2.2) v))
namespace RE
theorem Uf(a b c d m n:RE):a*c+b*c*m+a*d*n+b*d*(m*n)=(a+b*m)*(c+d*n):=by grind
theorem UI(A B C D E F G H m n:RE):A+E+(B+F)*m+(C+G)*n+(D+H)*(m*n)=A+B*m+C*n+D*(m*n)+(E+F*m+G*n+H*(m*n)):=by grind
theorem U9(A B C D m n:RE): -A+ -B*m+ -C*n+ -D*(m*n)= -(A+B*m+C*n+D*(m*n)):=by grind
theorem Wc(u w x y z t m:RE):u*x+w*y+(u*z+w*t)*m=u*(x+z*m)+w*(y+t*m):=by grind
theorem ah7(x y u w:RE): -((x-0)*(u-0)+(y-0)*(w-0)+((x-0)*(u-0)+(y-0)*(w-0)))+((x-0)*(x-0)+(y-0)*(y-0))+((u-0)*(u-0)+(w-0)*(w-0))=(x-u)*(x-u)+(y-w)*(y-w):=by grind
theorem R6(A B C D m n a b c d r:RE):A+a+c-r+(B+b)*m+(C+d)*n+D*(m*n)=A+B*m+C*n+D*(m*n)+(a+b*m)+(c+d*n)-r:=by grind
theorem HZ(x y:Rt):vq (tiQ x y)=vR x*vR y:=by
 unfold vq vQ tiQ vR v2;dsimp only;simp only[aG];exact Uf _ _ _ _ _ _
theorem PF(p q:Qd)(h:q.2.2.2.2=p.2.2.2.2):vq (plQ p q)=vq p+vq q:=by
 unfold vq vQ plQ;dsimp only;rw[h];simp only[of_add];exact UI _ _ _ _ _ _ _ _ _ _
theorem aaX(p:Qd):vq (miQ p)= -vq p:=by
 unfold vq vQ miQ;dsimp only;simp only[of_neg];exact U9 _ _ _ _ _ _
theorem Bi(p:Pt)(v:Rat×Rat):vR (rwX p v)=(sbE v (pR p)).1:=by
 unfold rwX sbE pR pX vR v2;dsimp only;rw[of_sub,Cs]
theorem AU(p:Pt)(v:Rat×Rat):vR (rwY p v)=(sbE v (pR p)).2:=by
 unfold rwY sbE pR pY vR v2;dsimp only;rw[of_sub,Cs]
def crR(v:Rat×Rat)(p q:Pt):Qd:=plQ (tiQ (rwX p v) (rwY q v)) (miQ (tiQ (rwY p v) (rwX q v)))
theorem crR_re(v:Rat×Rat){p q:Pt}[hp:Rpd p][hq:Rpd q]:sgQ (crR v p q)=turS v (pR p) (pR q):=by
 rw[pT (q:=crR v p q) (show 0≤p.2.2.2.2 from hp.nn) (show 0≤q.2.2.2.2 from hq.nn)];unfold crR;rw[PF (tiQ (rwX p v) (rwY q v)) (miQ (tiQ (rwY p v) (rwX q v))) rfl,aaX,HZ,HZ,Bi,Bi,AU,AU];rfl
def doR(p q:Pt):Qd:=plQ (tiQ (rwX p z2) (rwX q z2)) (tiQ (rwY p z2) (rwY q z2))
def apR0(p q:Pt):Qd:=miQ (plQ (doR p q) (doR p q))
def apR(p q:Pt)(r:Rat):Qd:=((apR0 p q).1+(sqP p z2).1+(sqP q z2).1-r*r,(apR0 p q).2.1+(sqP p z2).2.1,(apR0 p q).2.2.1+(sqP q z2).2.1,(apR0 p q).2.2.2.1,p.2.2.2.2,q.2.2.2.2)
theorem Xz{p:Pt}(h:Rpd p):of (sqP p z2).1+of (sqP p z2).2.1*rq p.2.2.2.2=(pX p-0)*(pX p-0)+(pY p-0)*(pY p-0):=by
 have e:of (sqP p z2).1+of (sqP p z2).2.1*rq p.2.2.2.2=vR (sqP p z2):=by
  show of (coR (sqA p z2) (sqB p z2) p.2.2.2.2).1+of (coR (sqA p z2) (sqB p z2) p.2.2.2.2).2.1*rq p.2.2.2.2=vR (coR (sqA p z2) (sqB p z2) p.2.2.2.2);unfold coR;by_cases e:sqB p z2=0
  ·rw[am5 e];show of _+of 0*_=v2 _ 0 0;unfold v2;rw[show of 0=0 from rfl,zero_mul,zero_mul]
  ·rw[am7 e];rfl
 rw[e,BK];rfl
theorem apR_re{p q:Pt}[hp:Rpd p][hq:Rpd q](r:Rat):sgQ (apR p q r)=apaS (pR p) (pR q) r:=by
 rw[pT (q:=apR p q r) (show 0≤p.2.2.2.2 from hp.nn) (show 0≤q.2.2.2.2 from hq.nn)]
 have e1:vq (apR0 p q)= -((pX p-0)*(pX q-0)+(pY p-0)*(pY q-0)+((pX p-0)*(pX q-0)+(pY p-0)*(pY q-0))):=by
  unfold apR0;rw[aaX,PF _ _ rfl];unfold doR;rw[PF (tiQ (rwX p z2) (rwX q z2)) (tiQ (rwY p z2) (rwY q z2)) rfl,HZ,HZ,Bi,Bi,AU,AU];rfl
 have e3:vq (apR p q r)=vq (apR0 p q)+(of (sqP p z2).1+of (sqP p z2).2.1*rq p.2.2.2.2)+(of (sqP q z2).1+of (sqP q z2).2.1*rq q.2.2.2.2)-of (r*r):=by
  unfold vq vQ apR;dsimp only;rw[of_sub,of_add,of_add,of_add,of_add];exact R6 _ _ _ _ _ _ _ _ _ _ _
 rw[e3,e1,Xz hp,Xz hq,ah7];rfl
theorem ZL(d:Rat×Rat)(p:Pt):vR (alR d p)=of d.1*(pR p).1+of d.2*(pR p).2:=by
 unfold alR;rw[vR_mk];unfold v2 pR pX pY v2;dsimp only;simp only[of_add,aG];exact Wc _ _ _ _ _ _ _
end RE
instance alN {p:Pt} {v:Rat×Rat} {j k:Nat} [h:Bd p j] [h':Bd v k]:Bd (rwX p v) (j+k+1):=by
 have i:Bd ((p.1-v.1,p.2.1,p.2.2.2.2):Rt) _:=inferInstance;exact i.mono (cL (by omega) (cL (by omega) (by omega)))
instance ame {p:Pt} {v:Rat×Rat} {j k:Nat} [h:Bd p j] [h':Bd v k]:Bd (rwY p v) (j+k+1):=by
 have i:Bd ((p.2.2.1-v.2,p.2.2.2.1,p.2.2.2.2):Rt) _:=inferInstance;exact i.mono (cL (by omega) (cL (by omega) (by omega)))
instance al9 {x y:Rt} {i j:Nat} [h:Bd x i] [h':Bd y j]:Bd (tiQ x y) (i+j):=by
 have t:Bd ((x.1*y.1,x.2.1*y.1,x.1*y.2.1,x.2.1*y.2.1,x.2.2,y.2.2):Qd) _:=inferInstance;exact t.mono (cL (by omega) (cL (by omega) (cL (by omega) (cL (by omega) (cL (by omega) (by omega))))))
instance alr {p q:Qd} {i j:Nat} [h:Bd p i] [h':Bd q j]:Bd (plQ p q) (i+j+1):=by
 have t:Bd ((p.1+q.1,p.2.1+q.2.1,p.2.2.1+q.2.2.1,p.2.2.2.1+q.2.2.2.1,p.2.2.2.2.1,p.2.2.2.2.2):Qd) _:=inferInstance;exact t.mono (cL (by omega) (cL (by omega) (cL (by omega) (cL (by omega) (cL (by omega) (by omega))))))
instance alD {p:Qd} {i:Nat} [h:Bd p i]:Bd (miQ p) i:=by
 have t:Bd ((-p.1,-p.2.1,-p.2.2.1,-p.2.2.2.1,p.2.2.2.2.1,p.2.2.2.2.2):Qd) _:=inferInstance;exact t.mono (cL (by omega) (cL (by omega) (cL (by omega) (cL (by omega) (cL (by omega) (by omega))))))
instance vM {d:Rat×Rat} {p:Pt} [h:Rpd p]:Rdd (alR d p):=by
 have:Nn p.2.2.2.2:=inferInstance;exact o8
instance amS {d:Rat×Rat} {p:Pt} {i j:Nat} [h:Bd d i] [h':Bd p j]:Bd (alR d p) (4*i+5*j+3):=by
 have a:Bd (d.1*p.1+d.2*p.2.2.1) _:=inferInstance;have b:Bd (d.1*p.2.1+d.2*p.2.2.2.1) _:=inferInstance;exact(inferInstance:Bd (mkR (d.1*p.1+d.2*p.2.2.1) (d.1*p.2.1+d.2*p.2.2.2.1) p.2.2.2.2) _).mono (by omega)
instance S7 {l:Ln} {i:Nat} [h:Bd l i]:Bd (l6 l) i:=by
 have t:Bd ((l.2.1,-l.1):Rat×Rat) _:=inferInstance;exact t.mono (cL (by omega) (by omega))
instance aen {v:Rat×Rat} {i:Nat} [h:Bd v i]:Bd (bkV v) i:=by
 have t:Bd ((-v.1,-v.2):Rat×Rat) _:=inferInstance;exact t.mono (cL (by omega) (by omega))
instance akF {ar:Bool} {li:Ln} {ci:Ln} {cw:Bool} {fr to:Pt} {i:Nat} [h:Bd li i]:Bd (oI (ar,li,ci,cw,fr,to)) i:=by
 unfold oI;show Bd (bif decide (aW (alR (l6 li) to) (alR (l6 li) fr)<0)then bkV (l6 li)else l6 li) i;cases decide (aW (alR (l6 li) to) (alR (l6 li) fr)<0)
 ·exact(inferInstance:Bd (l6 li) i)
 ·exact aen (h:=S7 (h:=h))
theorem Ao(r:Rt):ik r r=r.2.2:=by
 unfold ik;cases decide (r.2.1=0)<;>rfl
instance Uo {r:Rt} [h:Rdd r]:Rdd (iJ r r):=by
 refine⟨?_⟩;unfold iJ kN;rw[Ao];by_cases e:r.1*r.2.1+r.2.1*r.1=0
 ·rw[am5 e];exact .inl ⟨rfl,rfl⟩
 ·rw[am7 e,cond_false];rcases h.rd with⟨h1,_⟩|⟨_,h1,h2⟩
  ·exfalso;rw[h1]at e;grind
  ·rw[am7 (show r.2.2≠0 by grind)];exact .inr ⟨e,h1,h2⟩
theorem aiD{l:Ln}{p:Pt}[h:Bd l 300][h':Bd p 580]:Bd (iJ (pO l p) (pO l p)) 15000:=by
 have key:∀{r:Rt} {x y z:Nat},Bd r.1 x→Bd r.2.1 y→Bd r.2.2 z→2*x+2*y+z+1≤15000→Bd (iJ r r) 15000:=fun{r x y z} a b c e=>by
  have m:ik r r=r.2.2:=by unfold ik;cases decide (r.2.1=0)<;>rfl
  have i:Bd (kN (r.1*r.1+r.2.1*r.2.1*r.2.2) (r.1*r.2.1+r.2.1*r.1) r.2.2) _:=inferInstance;unfold iJ;rw[m];exact i.mono (cL (by omega) (cL (by omega) (by omega)))
 have a1:Bd (ka l p) 2062:=(inferInstance:Bd (ka l p) _).mono (by decide);have a2:Bd (ke l p) 1761:=(inferInstance:Bd (ke l p) _).mono (by decide);have hz:Bd (0:Rat) 3:=bS (n:=0) (by decide);unfold pO mkR;cases fE p.2.2.2.2
 ·cases decide (ke l p=0)
  ·exact key (r:=(ka l p,ke l p,p.2.2.2.2)) a1 a2 (inferInstance:Bd p.2.2.2.2 580) (by decide)
  ·exact key (r:=(ka l p,0,0)) a1 hz hz (by decide)
 ·have a3:Bd (ka l p+ke l p*rtQ p.2.2.2.2) 4410:=(inferInstance:Bd (ka l p+ke l p*rtQ p.2.2.2.2) _).mono (by decide);exact key (r:=(ka l p+ke l p*rtQ p.2.2.2.2,0,0)) a3 hz hz (by decide)
theorem ad8{p q:Pt}{r:Rat}[bp:Bd p 580][bq:Bd q 580][br:Bd r 1000](hp:0≤p.2.2.2.2)(hq:0≤q.2.2.2.2):decide (okQ (enc (RE.apR p q r)))=true:=by
 have n1:Nn p.2.2.2.2:=⟨hp⟩
 have n2:Nn q.2.2.2.2:=⟨hq⟩
 have bD:Bd (RE.apR0 p q) 5000:=(inferInstance:Bd (miQ (plQ (plQ (tiQ (rwX p z2) (rwX q z2)) (tiQ (rwY p z2) (rwY q z2))) (plQ (tiQ (rwX p z2) (rwX q z2)) (tiQ (rwY p z2) (rwY q z2))))) _).mono (by decide);have bA:Bd ((RE.apR0 p q).1+(sqP p z2).1+(sqP q z2).1-r*r) _:=inferInstance;have bB:Bd ((RE.apR0 p q).2.1+(sqP p z2).2.1) _:=inferInstance;have bC:Bd ((RE.apR0 p q).2.2.1+(sqP q z2).2.1) _:=inferInstance;have bE:Bd (RE.apR0 p q).2.2.2.1 5000:=inferInstance;exact rn (h1:=bA) (h2:=bB) (h3:=bC) (h4:=bE) (by decide) (by decide) (by decide) (by decide) (by decide) (by decide)
namespace RE
theorem wit_gr(a b c:Int):(match decide (a>0)with|true=>(match decide (b≥0)with|true=>some [RV.d .bool (decide (c≥0))]|false=>some [RV.d .bool false])|false=>(match a==0 with|true=>(match decide (b≥0)with|true=>some [RV.d .bool (decide (c≥0))]|false=>some [RV.d .bool false])|false=>(match decide (-c>0)with|true=>some [RV.d .bool (!(decide (-b>0)))]|false=>some [RV.d .bool (!false)])))=some [RV.d .bool (AW a b c)]:=by
 have h1:decide (-c>0)=!decide (0≤c):=by rw[←aqn];exact anI.2 (by omega)
 have h2:decide (-b>0)=!decide (0≤b):=by rw[←aqn];exact anI.2 (by omega)
 have h3:decide (c<0)=!decide (0≤c):=by rw[←aqn];exact anI.2 (by omega)
 have h4:decide (b<0)=!decide (0≤b):=by rw[←aqn];exact anI.2 (by omega)
 have h5:decide (0≤a)=(decide (a>0)||(a==0)):=by
  by_cases g:0≤a
  ·rw[am5 g];by_cases k:a=0
   ·rw[k];rfl
   ·rw[am5 (show a>0 by omega)];rfl
  ·rw[am7 g,am7 (show ¬a>0 by omega),apr.2 (show a≠0 by omega)];rfl
 unfold AW;simp only[h1,h2,h3,h4,h5,ge_iff_le];cases decide (a>0)<;>cases a==0<;>cases decide (0≤b)<;>cases decide (0≤c)<;>rfl
theorem ahY(a b m:RE):a*a+b*b*(m*m)+(a*b+b*a)*m=(a+b*m)*(a+b*m):=by grind
theorem amB(a b x y:RE):b*x+ -a*y= -(-b*x+a*y):=by grind
theorem ajS(a b x y:RE): -b*x+ - -a*y= -b*x+a*y:=by grind
theorem AC(x y:RE)(h1: -x< -y):y<x:=by grind
theorem AV(x y:RE)(h1:y<x): -x< -y:=by grind
theorem acF(x y:RE)(h1:x-y<0):x<y:=by grind
theorem acs(x y:RE)(h1:x<y):x-y<0:=by grind
theorem vR_sqr{r:Rt}(h:Rdd r):vR (iJ r r)=vR r*vR r:=by
 have e:vR (iJ r r)=v2 (r.1*r.1+r.2.1*r.2.1*r.2.2) (r.1*r.2.1+r.2.1*r.1) r.2.2:=by
  unfold iJ kN;rw[Ao];by_cases e:r.1*r.2.1+r.2.1*r.1=0
  ·rw[am5 e,e,dD];exact dD _ _
  ·rw[am7 e,cond_false];by_cases g:r.2.2=0
   ·rw[am5 g,g];unfold v2;rw[IB,mul_zero,add_zero];exact dD _ _
   ·rw[am7 g];rfl
 rw[e];unfold vR v2;rw[of_add,of_add,aG,aG,aG,aG,aG,←cQ h.nn,ahY]
theorem vR_val{l:Ln}{p:Pt}:vR (pO l p)=exE l (pR p):=by
 unfold pO;rw[vR_mk];unfold exE pR pX pY v2 ka ke;dsimp only;rw[of_sub,of_add,of_add,aG,aG,aG,aG,RW]
theorem B5{x y:Rt}(hx:Rdd x)(hy:Rdd y):aW x y<0↔vR x<vR y:=by
 rw[cmpT_re hx.nn hy.nn,Bq];exact⟨acF _ _,acs _ _⟩
theorem abS{x y:Rt}(hx:Rdd x)(hy:Rdd y):aW x y>0↔vR y<vR x:=by
 rw[←B5 hy hx,cmpT_re hx.nn hy.nn,cmpT_re hy.nn hx.nn,←HG (vR x) (vR y),pD];omega
theorem xY(l:Ln)(p:Pt):vR (alR (l6 l) p)= -tE l (pR p):=by
 rw[ZL];unfold l6 tE;rw[of_neg];exact amB _ _ _ _
theorem Ma(l:Ln)(p:Pt):vR (alR (bkV (l6 l)) p)=tE l (pR p):=by
 rw[ZL];unfold l6 bkV tE;rw[of_neg,of_neg,of_neg];exact ajS _ _ _ _
theorem amd{F T x:RE}(h:¬F<T):(F<x∨x<T)↔¬btE F T x:=by
 unfold btE;constructor
 ·rintro (g|g) (⟨h1,h2⟩|⟨h1,h2⟩)
  ·exact(lt_or_ge F T).elim h fun k=>le_trans h2 k g
  ·exact h2 g
  ·exact(lt_or_ge F T).elim h fun k=>le_trans k h1 g
  ·exact h1 g
 ·intro g;rcases lt_or_ge F x with k|k
  ·exact .inl k
  ·rcases lt_or_ge x T with m|m
   ·exact .inr m
   ·exact absurd (.inr ⟨m,k⟩) g
theorem al7{F T x:RE}(h:F<T):(x<F∨T<x)↔¬btE F T x:=by
 unfold btE;constructor
 ·rintro (g|g) (⟨h1,h2⟩|⟨h1,h2⟩)
  ·exact h1 g
  ·exact h1 (cO g h)
  ·exact h2 g
  ·exact h2 (cO h g)
 ·intro g;rcases lt_or_ge x F with k|k
  ·exact .inl k
  ·rcases lt_or_ge T x with m|m
   ·exact .inr m
   ·exact absurd (.inl ⟨k,m⟩) g
open Classical in
theorem dir_bes{c:Cv}[hf:Rpd (frC c)][ht:Rpd (toC c)]{p:Pt}[hp:Rpd p]:(decide (aW (alR (oI c) p) (alR (oI c) (frC c))<0)||decide (aW (alR (oI c) p) (alR (oI c) (toC c))>0))=!(besE c (pR p)):=by
 have k:∀(d:Rat×Rat),(decide (aW (alR d p) (alR d (frC c))<0)||decide (aW (alR d p) (alR d (toC c))>0))=decide (vR (alR d p)<vR (alR d (frC c))∨vR (alR d (toC c))<vR (alR d p)):=fun d=>by
  rw[Bool.decide_or];exact congr (congrArg or (anI.2 (B5 vM vM))) (anI.2 (abS vM vM))
 rw[k];unfold besE;rw[←aqn];refine anI.2 ?_;unfold oI;by_cases h:aW (alR (l6 (lnC c)) (toC c)) (alR (l6 (lnC c)) (frC c))<0
 ·rw[am5 h,cond_true,Ma,Ma,Ma];have g:=(B5 vM vM).1 h;rw[xY,xY]at g;exact al7 (AC _ _ g)
 ·rw[am7 h,cond_false,xY,xY,xY];have g:¬tE (lnC c) (pR (frC c))<tE (lnC c) (pR (toC c)):=fun g=>h ((B5 vM vM).2 (by rw[xY,xY];exact AV _ _ g));rw[←amd g];exact or_congr ⟨AC _ _,AV _ _⟩ ⟨AC _ _,AV _ _⟩
theorem cen_eq{p:Pt}[hp:Rpd p]{v:Rat×Rat}:(aX p (atP v)==0)=true↔pR p=vE v:=by
 rw[an3,cmpP_0,oA];exact Iff.rfl
end RE
def xS:List En:=[enT iY,enL pI,enL lj,enL mh,enT qf,enL lY,enL n8,enL Cg,enL Fl,enL R8,enL Lv,enL vk,enL Gz,enL HA,enL Fx,enL Fv,enT P6,enL GY,enL Ck,enL PJ,enL AF,enT Cm,enT Bn,enT Hn,enL PN,enL Ng,enL Q1]
def WS(p:BP)(v:BV)(_k:KT):OLR:=ck (og (o2 p.1 v.1) (ck (og (o2 p.2.2.1 v.2) (dup (.b (.b .l .l) (.b (.b .l .l) (.b .l .l))) (some [RV.d tO (hSu p.1 v.1,(p.2.1,p.2.2.2.2)),RV.d tO (hSu p.2.2.1 v.2,p.2.2.2)]))) (dup (.b .l .l) (ck (og (o2 p.2.2.1 v.2) (dup (.b .l .l) (some [RV.d tO (hSu p.1 v.1,(p.2.1,p.2.2.2.2)),RV.d tO (hSu p.2.2.1 v.2,p.2.2.2)]))) (og (o2 p.2.2.1 v.2) (some [RV.d tO (hSu p.1 v.1,(p.2.1,p.2.2.2.2)),RV.d tO (hSu p.2.2.1 v.2,p.2.2.2)])))))) (dup (.b .l .l) (ck (og (o2 p.1 v.1) (ck (og (o2 p.2.2.1 v.2) (dup (.b .l .l) (some [RV.d tO (hSu p.1 v.1,(p.2.1,p.2.2.2.2)),RV.d tO (hSu p.2.2.1 v.2,p.2.2.2)]))) (og (o2 p.2.2.1 v.2) (some [RV.d tO (hSu p.1 v.1,(p.2.1,p.2.2.2.2)),RV.d tO (hSu p.2.2.1 v.2,p.2.2.2)])))) (og (o2 p.1 v.1) (og (o2 p.2.2.1 v.2) (some [RV.d tO (hSu p.1 v.1,(p.2.1,p.2.2.2.2)),RV.d tO (hSu p.2.2.1 v.2,p.2.2.2)])))))
def ajL:Cn 229 [tP,tV]:=cn fun(p:BP) (v:BV)=>lf (okP 580 p∧ok (Rat×Rat) 400 v) [.d tO (enc (rwX (dec p) (dec v))),.d tO (enc (rwY (dec p) (dec v)))] fun h=>by
 refine aA xS (WS p v) ⟨0,?_⟩;obtain⟨hp,hv⟩:=h;obtain⟨p,rfl,bp,rp⟩:=aZ hp;obtain⟨v,rfl,bv⟩:=aB hv;unfold WS;simp only[aO,Nat.reduceLeDiff];try rfl
def Xq(x y:BO3)(_k:KT):OLR:=og (o2 x.1 y.1) (og (o2 x.2.1 y.1) (og (o2 x.1 y.2.1) (og (o2 x.2.1 y.2.1) (some [RV.d tQ (hMu x.1 y.1,(hMu x.2.1 y.1,(hMu x.1 y.2.1,(hMu x.2.1 y.2.1,(x.2.2,y.2.2)))))]))))
def agI:Cn 231 [tO,tO]:=cn fun(x y:BO3)=>lf (ok Rt 3000 x∧ok Rt 3000 y) [.d tQ (enc (tiQ (dec x) (dec y)))] fun h=>by
 refine aA xS (Xq x y) ⟨0,?_⟩;obtain⟨hx,hy⟩:=h;obtain⟨x,rfl,bx⟩:=aB hx;obtain⟨y,rfl,b_y⟩:=aB hy;unfold Xq;simp only[aO,Nat.reduceLeDiff];try rfl
def Xt(p q:BQ)(_k:KT):OLR:=og (o2 p.1 q.1) (og (o2 p.2.1 q.2.1) (og (o2 p.2.2.1 q.2.2.1) (og (o2 p.2.2.2.1 q.2.2.2.1) (some [RV.d tQ (hAd p.1 q.1,(hAd p.2.1 q.2.1,(hAd p.2.2.1 q.2.2.1,(hAd p.2.2.2.1 q.2.2.2.1,p.2.2.2.2))))]))))
def aiY:Cn 230 [tQ,tQ]:=cn fun(p q:BQ)=>lf (ok Qd 14000 p∧ok Qd 14000 q) [.d tQ (enc (plQ (dec p) (dec q)))] fun h=>by
 refine aA xS (Xt p q) ⟨0,?_⟩;obtain⟨hp,hq⟩:=h;obtain⟨p,rfl,bp⟩:=aB hp;obtain⟨q,rfl,bq⟩:=aB hq;unfold Xt;simp only[aO,Nat.reduceLeDiff];try rfl
def WX(p:BQ)(_k:KT):OLR:=og (o1 p.1) (og (o1 p.2.1) (og (o1 p.2.2.1) (og (o1 p.2.2.2.1) (some [RV.d tQ (hNe p.1,(hNe p.2.1,(hNe p.2.2.1,(hNe p.2.2.2.1,p.2.2.2.2))))]))))
def af0:Cn 232 [tQ]:=cn fun(p:BQ)=>lf (ok Qd 30000 p) [.d tQ (enc (miQ (dec p)))] fun h=>by
 refine aA xS (WX p) ⟨0,?_⟩;have hp:=h;obtain⟨p,rfl,bp⟩:=aB hp;unfold WX;simp only[aO,Nat.reduceLeDiff];try rfl
def wQ:List En:=enL ajL::enL agI::enL aiY::enL af0::xS
def XE(v:BV)(p q:BP)(_k:KT):OLR:=og (decide (okP 580 p∧ok (Rat×Rat) 400 v)) (og (decide (okP 580 q∧ok (Rat×Rat) 400 v)) (og (decide (ok Rt 3000 (hid (enc (rwX (dec p) (dec v))))∧ok Rt 3000 (hid (enc (rwY (dec q) (dec v)))))) (og (decide (ok Rt 3000 (hid (enc (rwY (dec p) (dec v))))∧ok Rt 3000 (hid (enc (rwX (dec q) (dec v)))))) (og (decide (ok Qd 30000 (hid (enc (tiQ (dec (hid (enc (rwY (dec p) (dec v))))) (dec (hid (enc (rwX (dec q) (dec v)))))))))) (og (decide (ok Qd 14000 (hid (enc (tiQ (dec (hid (enc (rwX (dec p) (dec v))))) (dec (hid (enc (rwY (dec q) (dec v))))))))∧ok Qd 14000 (hid (enc (miQ (dec (hid (enc (tiQ (dec (hid (enc (rwY (dec p) (dec v))))) (dec (hid (enc (rwX (dec q) (dec v)))))))))))))) (og (decide (okQ (hid (enc (plQ (dec (hid (enc (tiQ (dec (hid (enc (rwX (dec p) (dec v))))) (dec (hid (enc (rwY (dec q) (dec v))))))))) (dec (hid (enc (miQ (dec (hid (enc (tiQ (dec (hid (enc (rwY (dec p) (dec v))))) (dec (hid (enc (rwX (dec q) (dec v)))))))))))))))))) (some [RV.d aqt (sgQ (dec (hid (enc (plQ (dec (hid (enc (tiQ (dec (hid (enc (rwX (dec p) (dec v))))) (dec (hid (enc (rwY (dec q) (dec v))))))))) (dec (hid (enc (miQ (dec (hid (enc (tiQ (dec (hid (enc (rwY (dec p) (dec v))))) (dec (hid (enc (rwX (dec q) (dec v))))))))))))))))))])))))))
def af4:Cn 240 [tV,tP,tP]:=cn fun(v:BV) (p q:BP)=>lf (ok (Rat×Rat) 400 v∧okP 580 p∧okP 580 q) [.d aqt (RE.turS (dec v) (RE.pR (dec p)) (RE.pR (dec q)))] fun h=>by
 refine aA wQ (XE v p q) ⟨0,?_⟩;obtain⟨hv,hp,hq⟩:=h;obtain⟨v,rfl,bv⟩:=aB hv;obtain⟨p,rfl,bp,rp⟩:=aZ hp;obtain⟨q,rfl,bq,rq⟩:=aZ hq;have o1:decide (okQ (enc (plQ (tiQ (rwX p v) (rwY q v)) (miQ (tiQ (rwY p v) (rwX q v))))))=true:=Mp (k:=6000) (h:=(inferInstance:Bd (plQ (tiQ (rwX p v) (rwY q v)) (miQ (tiQ (rwY p v) (rwX q v)))) _).mono (by decide)) (by decide) rp.nn rq.nn;unfold XE;simp only[aO,Nat.reduceAdd,Nat.reduceLeDiff,aJ,o1];rw[←RE.crR_re];rfl
def X3(d:BV)(p:BP)(_k:KT):OLR:=og (o2 d.1 p.1) (og (o2 d.2 p.2.2.1) (og (o2 (hMu d.1 p.1) (hMu d.2 p.2.2.1)) (og (o2 d.1 p.2.1) (og (o2 d.2 p.2.2.2.1) (og (o2 (hMu d.1 p.2.1) (hMu d.2 p.2.2.2.1)) (og (decide (ok Rat 100000 (hAd (hMu d.1 p.1) (hMu d.2 p.2.2.1))∧ok Rat 100000 (hAd (hMu d.1 p.2.1) (hMu d.2 p.2.2.2.1))∧ok Rat 100000 p.2.2.2.2∧0≤ae p.2.2.2.2)) (some [RV.d tO (hid (enc (mkR (ae (hAd (hMu d.1 p.1) (hMu d.2 p.2.2.1))) (ae (hAd (hMu d.1 p.2.1) (hMu d.2 p.2.2.2.1))) (ae p.2.2.2.2))))])))))))
def ahI:Cn 120 [tV,tP]:=cn fun(d:BV) (p:BP)=>lf (ok (Rat×Rat) 400 d∧okP 580 p) [.d tO (enc (alR (dec d) (dec p)))] fun h=>by
 refine aA wQ (X3 d p) ⟨0,?_⟩;obtain⟨hd,hp⟩:=h;obtain⟨d,rfl,bd⟩:=aB hd;obtain⟨p,rfl,bp,rp⟩:=aZ hp;have hn:0≤p.2.2.2.2:=rp.nn;unfold X3;simp only[aO,Nat.reduceAdd,Nat.reduceLeDiff,dT hn];rfl
def RZ(l:BO3)(v:BV)(_k:KT):OLR:=og (o2 l.1 v.1) (og (o2 l.2.1 v.2) (og (o2 (hMu l.1 v.1) (hMu l.2.1 v.2)) (og (o2 l.2.2 (hAd (hMu l.1 v.1) (hMu l.2.1 v.2))) (some [RV.d tO (l.1,(l.2.1,hAd l.2.2 (hAd (hMu l.1 v.1) (hMu l.2.1 v.2))))]))))
def adN:Cn 51 [tO,tV]:=cn fun(l:BO3) (v:BV)=>lf (ok Ln 300 l∧ok (Rat×Rat) 200 v) [.d tO (enc (RE.mvLn (dec l) (dec v)))] fun h=>by
 refine aA wQ (RZ l v) ⟨0,?_⟩;obtain⟨hl,hv⟩:=h;obtain⟨l,rfl,bl⟩:=aB hl;obtain⟨v,rfl,bv⟩:=aB hv;unfold RZ;simp only[aO,Nat.reduceAdd,Nat.reduceLeDiff];try rfl
def NH(c:BO3)(v:BV)(_k:KT):OLR:=og (o2 c.1 v.1) (og (o2 c.2.1 v.2) (some [RV.d tO (hAd c.1 v.1,(hAd c.2.1 v.2,c.2.2))]))
def adY:Cn 50 [tO,tV]:=cn fun(c:BO3) (v:BV)=>lf (ok Ln 300 c∧ok (Rat×Rat) 200 v) [.d tO (enc (RE.mvCi (dec c) (dec v)))] fun h=>by
 refine aA wQ (NH c v) ⟨0,?_⟩;obtain⟨hc,hv⟩:=h;obtain⟨c,rfl,bc⟩:=aB hc;obtain⟨v,rfl,bv⟩:=aB hv;unfold NH;simp only[aO,Nat.reduceLeDiff];try rfl
def xM:List En:=enT af4::enL ahI::enL adN::enL adY::wQ
def Yp(p q:BP)(r:BR)(_k:KT):OLR:=let y1:=aj ((0:Int):Rat);let y2:=dec (hid y1,hid y1);let y3:=hid (enc (rwX (dec p) y2));let y4:=hid (enc (rwX (dec q) y2));let y5:=hid (enc (rwY (dec p) y2));let y6:=hid (enc (rwY (dec q) y2));let y7:=hid (enc (tiQ (dec y3) (dec y4)));let y8:=hid (enc (tiQ (dec y5) (dec y6)));let y9:=hid (enc (plQ (dec y7) (dec y8)));let y10:=hid (enc (plQ (dec y9) (dec y9)));let y11:=hid (enc (miQ (dec y10)));let y12:=hid (enc (sqP (dec p) y2));let y13:=hAd (y11.1) (y12.1);let y14:=hid (enc (sqP (dec q) y2));og (decide (aH (0:Int))) (og (decide (aH (0:Int))) (og (decide (okP 580 p∧ok (Rat×Rat) 400 (hid y1,hid y1))) (og (decide (okP 580 q∧ok (Rat×Rat) 400 (hid y1,hid y1))) (og (decide (ok Rt 3000 y3∧ok Rt 3000 y4)) (og (decide (ok Rt 3000 y5∧ok Rt 3000 y6)) (og (decide (ok Qd 14000 y7∧ok Qd 14000 y8)) (og (decide (ok Qd 14000 y9∧ok Qd 14000 y9)) (og (decide (okP 3500 p∧ok (Rat×Rat) 300 (hid y1,hid y1))) (og (decide (okP 3500 q∧ok (Rat×Rat) 300 (hid y1,hid y1))) (og (decide (ok Qd 30000 y10)) (og (o2 (y11.1) (y12.1)) (og (o2 y13 (y14.1)) (og (o2 r r) (og (o2 (hAd y13 (y14.1)) (hMu r r)) (og (o2 ((y11.2).1) ((y12.2).1)) (og (o2 (((y11.2).2).1) ((y14.2).1)) (og (decide (okQ (hSu (hAd y13 (y14.1)) (hMu r r),(hAd ((y11.2).1) ((y12.2).1),(hAd (((y11.2).2).1) ((y14.2).1),((y11.2).2).2))))) (some [RV.d aqt (sgQ (dec (hSu (hAd y13 (y14.1)) (hMu r r),(hAd ((y11.2).1) ((y12.2).1),(hAd (((y11.2).2).1) ((y14.2).1),((y11.2).2).2)))))]))))))))))))))))))
def ai0:Cn 118 [tP,tP,tR]:=cn fun(p q:BP) (r:BR)=>lf (okP 580 p∧okP 580 q∧ok Rat 1000 r) [.d aqt (RE.apaS (RE.pR (dec p)) (RE.pR (dec q)) (ae r))] fun h=>by
 refine aA xM (Yp p q r) ⟨0,?_⟩;obtain⟨hp,hq,hr⟩:=h;obtain⟨p,rfl,bp,rp⟩:=aZ hp;obtain⟨q,rfl,bq,rq⟩:=aZ hq;obtain⟨r,rfl,br⟩:=aB hr;have h0:decide (aH 0)=true:=by decide
 have hz:((aj ((0:Int):Rat),aj ((0:Int):Rat)):BV)=enc z2:=rfl;have o1:=ad8 (p:=p) (q:=q) (r:=r) rp.nn rq.nn;unfold Yp;simp only[aO,Nat.reduceAdd,Nat.reduceMul,Nat.reduceLeDiff,aJ,h0,hz];show(match decide (okQ (enc (RE.apR p q r)))with|true=>some [RV.d aqt (sgQ (dec (enc (RE.apR p q r))))]|false=>none)=_;rw[az,o1,RE.apR_re]
def aaS(c:BCU)(p:BP)(_k:KT):OLR:=let y1:=hid ((c.2.2.1.1,c.2.2.1.2.1));let y2:=RE.pR (dec c.2.2.2.2.2);let y3:=RE.pR (dec c.2.2.2.2.1);let y4:=RE.turS (dec y1) y2 y3;let y5:=RE.turS (dec y1) y2 (RE.pR (dec p));let y6:=RE.turS (dec y1) (RE.pR (dec p)) y3;let y7:OLR:=match decide (ok (Rat×Rat) 400 y1∧okP 580 c.2.2.2.2.2∧okP 580 p)with|true=>(match decide (y5≥0)with|true=>(og (decide (ok (Rat×Rat) 400 y1∧okP 580 p∧okP 580 c.2.2.2.2.1)) (some [RV.d .bool (decide (y6≥0))]))|false=>some [RV.d .bool false])|false=>none;let y8:=RE.turS (dec y1) y3 (RE.pR (dec p));let y9:=RE.turS (dec y1) (RE.pR (dec p)) y2;let y10:=RE.turS (dec y1) y3 y2;let y11:OLR:=match decide (ok (Rat×Rat) 400 y1∧okP 580 c.2.2.2.2.1∧okP 580 p)with|true=>(match decide (y8≥0)with|true=>(og (decide (ok (Rat×Rat) 400 y1∧okP 580 p∧okP 580 c.2.2.2.2.2)) (some [RV.d .bool (decide (y9≥0))]))|false=>some [RV.d .bool false])|false=>none;match c.2.2.2.1 with|true=>(og (decide (ok (Rat×Rat) 400 y1∧okP 580 c.2.2.2.2.2∧okP 580 c.2.2.2.2.1)) (match decide (y4>0)with|true=>y7|false=>(match y4==0 with|true=>y7|false=>(og (decide (ok (Rat×Rat) 400 y1∧okP 580 c.2.2.2.2.1∧okP 580 p)) (match decide (y8>0)with|true=>(og (decide (ok (Rat×Rat) 400 y1∧okP 580 p∧okP 580 c.2.2.2.2.2)) (some [RV.d .bool (!(decide (y9>0)))]))|false=>some [RV.d .bool (!false)])))))|false=>(og (decide (ok (Rat×Rat) 400 y1∧okP 580 c.2.2.2.2.1∧okP 580 c.2.2.2.2.2)) (match decide (y10>0)with|true=>y11|false=>(match y10==0 with|true=>y11|false=>(og (decide (ok (Rat×Rat) 400 y1∧okP 580 c.2.2.2.2.2∧okP 580 p)) (match decide (y5>0)with|true=>(og (decide (ok (Rat×Rat) 400 y1∧okP 580 p∧okP 580 c.2.2.2.2.1)) (some [RV.d .bool (!(decide (y6>0)))]))|false=>some [RV.d .bool (!false)])))))
def aiP:Cn 128 [tCU,tP]:=cn fun(c:BCU) (p:BP)=>lf (nM c.2.2.1∧okP 580 c.2.2.2.2.1∧okP 580 c.2.2.2.2.2∧okP 580 p) [.d .bool (RE.witE (dC c) (RE.pR (dec p)))] fun h=>by
 refine aA xM (aaS c p) ⟨0,?_⟩;obtain⟨⟨hc,_⟩,hf,ht,hp⟩:=h;obtain⟨p,rfl,bp,rp⟩:=aZ hp;obtain⟨ar,li,ci,cw,fr,to⟩:=c;simp only at hc hf ht;obtain⟨ci,rfl,bc⟩:=aB hc;obtain⟨fr,rfl,bf,rf⟩:=aZ hf;obtain⟨to,rfl,bt,rt⟩:=aZ ht;have e0:((aj ci.1,aj ci.2.1):BV)=enc (ctr ci):=rfl;unfold aaS;rw[RE.wit_eq];simp only[aO,Nat.reduceLeDiff,aJ,e0];cases cw
 ·simp only[aO,dC,ciC,ccF,ccT,cwC,frC,toC];rw[RE.turS_anti (ctr ci) (RE.pR to) (RE.pR p),RE.turS_anti (ctr ci) (RE.pR p) (RE.pR fr)];exact RE.wit_gr _ _ _
 ·simp only[aO,dC,ciC,ccF,ccT,cwC,frC,toC];rw[RE.turS_anti (ctr ci) (RE.pR fr) (RE.pR p),RE.turS_anti (ctr ci) (RE.pR p) (RE.pR to)];exact RE.wit_gr _ _ _
def ZQ(c:BCU)(_k:KT):OLR:=og (o1 c.2.1.1) (og (decide (ok (Rat×Rat) 400 (c.2.1.2.1,hNe c.2.1.1)∧okP 580 c.2.2.2.2.2)) (og (decide (ok (Rat×Rat) 400 (c.2.1.2.1,hNe c.2.1.1)∧okP 580 c.2.2.2.2.1)) (og (decide (okT 15000 (hid (enc (alR (dec (c.2.1.2.1,hNe c.2.1.1)) (dec c.2.2.2.2.2))))∧okT 15000 (hid (enc (alR (dec (c.2.1.2.1,hNe c.2.1.1)) (dec c.2.2.2.2.1)))))) (match decide ((aW (dec (hid (enc (alR (dec (c.2.1.2.1,hNe c.2.1.1)) (dec c.2.2.2.2.2))))) (dec (hid (enc (alR (dec (c.2.1.2.1,hNe c.2.1.1)) (dec c.2.2.2.2.1))))))<0)with|true=>(og (decide (ok (Rat×Rat) 21000 (c.2.1.2.1,hNe c.2.1.1))) (some [RV.d tV (hid (enc (bkV (dec (c.2.1.2.1,hNe c.2.1.1)))))]))|false=>some [RV.d tV (c.2.1.2.1,hNe c.2.1.1)]))))
def ai1:Cn 119 [tCU]:=cn fun(c:BCU)=>lf (ok Ln 300 c.2.1∧okP 580 c.2.2.2.2.1∧okP 580 c.2.2.2.2.2) [.d tV (enc (oI (dC c)))] fun h=>by
 refine aA xM (ZQ c) ⟨0,?_⟩;obtain⟨hl,hf,ht⟩:=h;obtain⟨ar,li,ci,cw,fr,to⟩:=c;simp only at hl hf ht;obtain⟨li,rfl,bl⟩:=aB hl;obtain⟨fr,rfl,bf,rf⟩:=aZ hf;obtain⟨to,rfl,bt,rt⟩:=aZ ht;have e0:((aj li.2.1,aj (-li.1)):BV)=enc (l6 li):=rfl;unfold ZQ oI;simp only[aO,Nat.reduceAdd,Nat.reduceMul,Nat.reduceLeDiff,aI,aJ,e0,dC,lnC,frC,toC];cases decide (aW (alR (l6 li) to) (alR (l6 li) fr)<0)<;>rfl
def WQ(c:BCU)(v:BV)(_k:KT):OLR:=match c.1 with|true=>(og (decide (ok Ln 300 c.2.2.1∧ok (Rat×Rat) 200 v)) (og (decide (ok Pt 21000 c.2.2.2.2.1∧ok (Rat×Rat) 1000 v)) (og (decide (ok Pt 21000 c.2.2.2.2.2∧ok (Rat×Rat) 1000 v)) (some [RV.d tCU (c.1,(c.2.1,(hid (enc (RE.mvCi (dec c.2.2.1) (dec v))),(c.2.2.2.1,(hid (enc (trP (dec c.2.2.2.2.1) (dec v))),hid (enc (trP (dec c.2.2.2.2.2) (dec v))))))))]))))|false=>(og (decide (ok Ln 300 c.2.1∧ok (Rat×Rat) 200 v)) (og (decide (ok Pt 21000 c.2.2.2.2.1∧ok (Rat×Rat) 1000 v)) (og (decide (ok Pt 21000 c.2.2.2.2.2∧ok (Rat×Rat) 1000 v)) (some [RV.d tCU (c.1,(hid (enc (RE.mvLn (dec c.2.1) (dec v))),(c.2.2.1,(c.2.2.2.1,(hid (enc (trP (dec c.2.2.2.2.1) (dec v))),hid (enc (trP (dec c.2.2.2.2.2) (dec v))))))))]))))
def ahz:Cn 17 [tCU,tV]:=cn fun(c:BCU) (v:BV)=>lf (okC 500 c∧ok (Rat×Rat) 10 v) [.d tCU (mvB c (dec v))] fun h=>by
 refine aA xM (WQ c v) ⟨0,?_⟩;obtain⟨hc,hv⟩:=h;obtain⟨v,rfl,bv⟩:=aB hv;obtain⟨ar,li,ci,cw,fr,to⟩:=c;have h3:=hc.2.2.1;have h4:=hc.2.2.2;simp only at h3 h4;obtain⟨fr,rfl,bf,rf⟩:=aZ h3;obtain⟨to,rfl,bt,rt⟩:=aZ h4;unfold WQ mvB;cases ar
 ·obtain⟨c2,_⟩:=hc.2.1 rfl;simp only at c2;obtain⟨li,rfl,bl⟩:=aB c2;simp only[aO,Nat.reduceLeDiff]
 ·obtain⟨c1,_⟩:=hc.1 rfl;simp only at c1;obtain⟨ci,rfl,bc⟩:=aB c1;simp only[aO,Nat.reduceLeDiff]
def aea:List En:=enT ai0::enT aiP::enL ai1::enL ahz::xM
def YN(c:BCU)(p:BP)(r:BR)(_k:KT):OLR:=let y1:=hid (enc (oI (dC c)));let y2:=hid (enc (alR (dec y1) (dec p)));let y3:=hid (enc (alR (dec y1) (dec c.2.2.2.2.1)));let y4:=RE.pR (dec c.2.2.2.2.2);let y5:=RE.pR (dec c.2.2.2.2.1);let y6:=hid (enc (alR (dec y1) (dec c.2.2.2.2.2)));let y7:=hMu c.2.1.1 c.2.1.1;let y8:=hMu c.2.1.2.1 c.2.1.2.1;let y9:=hid (enc (pO (dec c.2.1) (dec p)));let y10:=hid (enc (iJ (dec y9) (dec y9)));let y11:=hMu (hMu r r) (hAd y7 y8);let y12:=hid ((c.2.2.1.1,c.2.2.1.2.1));let y13:=hid (enc (atP (dec y12)));let y14:=ae c.2.2.1.2.2;let y15:=aD y14 (ae (hMu r r));let y16:=hAd c.2.2.1.2.2 (hMu r r);let y17:=hid (enc (sqP (dec p) (dec y12)));let y18:=hid (enc (mkR (ae y16) (ae (hAd r r)) y14));let y19:=aW (dec y17) (dec y18);let y20:=hid (enc (mkR (ae y16) (ae (hNe (hAd r r))) y14));og (o1 r) (match decide ((aD (ae r) 0)<0)with|true=>some [RV.d aqt 1]|false=>(og (decide (okP 580 c.2.2.2.2.1∧okP 580 p∧ok Rat 1000 r)) (og (decide (okP 580 c.2.2.2.2.2∧okP 580 p∧ok Rat 1000 r)) (match !c.1 with|true=>(og (decide (ok Ln 300 c.2.1∧okP 580 c.2.2.2.2.1∧okP 580 c.2.2.2.2.2)) (og (decide (ok (Rat×Rat) 400 y1∧okP 580 p)) (og (decide (ok (Rat×Rat) 400 y1∧okP 580 c.2.2.2.2.1)) (og (decide (okT 15000 y2∧okT 15000 y3)) (match decide ((aW (dec y2) (dec y3))<0)with|true=>some [RV.d aqt (if RE.apaS y4 (RE.pR (dec p)) (ae r)<RE.apaS y5 (RE.pR (dec p)) (ae r)then RE.apaS y4 (RE.pR (dec p)) (ae r)else RE.apaS y5 (RE.pR (dec p)) (ae r))]|false=>(og (decide (ok (Rat×Rat) 400 y1∧okP 580 c.2.2.2.2.2)) (og (decide (okT 15000 y2∧okT 15000 y6)) (match decide ((aW (dec y2) (dec y6))>0)with|true=>some [RV.d aqt (if RE.apaS y4 (RE.pR (dec p)) (ae r)<RE.apaS y5 (RE.pR (dec p)) (ae r)then RE.apaS y4 (RE.pR (dec p)) (ae r)else RE.apaS y5 (RE.pR (dec p)) (ae r))]|false=>(og (o2 c.2.1.1 c.2.1.1) (og (o2 c.2.1.2.1 c.2.1.2.1) (og (o2 y7 y8) (og (decide (ok Ln 300 c.2.1∧okP 4000 p)) (og (decide (ok Rt 50000 y9)) (og (o2 r r) (og (o2 (hMu r r) (hAd y7 y8)) (og (decide (okT 15000 y10∧ok Rat 15000 y11)) (some [RV.d aqt (fC (dec y10) (ae y11))])))))))))))))))))|false=>(og (decide (ok (Rat×Rat) 100000 y12)) (og (decide (okP 4000 p∧okP 4000 y13)) (match aX (dec p) (dec y13)==0 with|true=>(og (o2 r r) (og (o2 c.2.2.1.2.2 (hMu r r)) (some [RV.d aqt y15])))|false=>(og (decide (nM c.2.2.1∧okP 580 c.2.2.2.2.1∧okP 580 c.2.2.2.2.2∧okP 580 p)) (match !(RE.witE (dC c) (RE.pR (dec p)))with|true=>some [RV.d aqt (if RE.apaS y4 (RE.pR (dec p)) (ae r)<RE.apaS y5 (RE.pR (dec p)) (ae r)then RE.apaS y4 (RE.pR (dec p)) (ae r)else RE.apaS y5 (RE.pR (dec p)) (ae r))]|false=>(og (decide (okP 3500 p∧ok (Rat×Rat) 300 y12)) (og (o2 r r) (og (o2 c.2.2.1.2.2 (hMu r r)) (og (o2 r r) (og (decide (ok Rat 100000 y16∧ok Rat 100000 (hAd r r)∧ok Rat 100000 c.2.2.1.2.2∧0≤ae c.2.2.1.2.2)) (og (o2 r r) (og (o1 (hAd r r)) (og (decide (ok Rat 100000 y16∧ok Rat 100000 (hNe (hAd r r))∧ok Rat 100000 c.2.2.1.2.2∧0≤ae c.2.2.1.2.2)) (og (decide (okT 15000 y17∧okT 15000 y18)) (match decide (y19≥0)with|true=>some [RV.d aqt y19]|false=>(og (o2 r r) (og (o2 c.2.2.1.2.2 (hMu r r)) (match decide (y15≤0)with|true=>some [RV.d aqt (-1)]|false=>(og (decide (okT 15000 y17∧okT 15000 y20)) (some [RV.d aqt (i64.wrap (0-(aW (dec y17) (dec y20))))]))))))))))))))))))))))))
open Classical in
def agK:Cn 47 [tCU,tP,tR]:=cn fun(c:BCU) (p:BP) (r:BR)=>lf (okC 580 c∧okP 580 p∧ok Rat 1000 r) [.d aqt (RE.poiE (dC c) (RE.pR (dec p)) (ae r))] fun h=>by
 refine aA aea (YN c p r) ⟨0,?_⟩;obtain⟨hc,hp,hr⟩:=h;have hp1:=cN (k:=580) hp (by decide) (by decide);have hp6:=cN (k:=580) hp (by decide) (by decide);obtain⟨p,rfl,bp,rp⟩:=aZ hp;obtain⟨r,rfl,br⟩:=aB hr;obtain⟨ar,li,ci,cw,fr,to⟩:=c;have h3:=hc.2.2.1;have h4:=hc.2.2.2;simp only at h3 h4;obtain⟨fr,rfl,bf,rf⟩:=aZ h3;obtain⟨to,rfl,bt,rt⟩:=aZ h4;have o1:decide (okP 580 (enc fr)∧okP 580 (enc p)∧ok Rat 1000 (aj r))=true:=am5 ⟨h3,hp1,hr⟩;have o2:decide (okP 580 (enc to)∧okP 580 (enc p)∧ok Rat 1000 (aj r))=true:=am5 ⟨h4,hp1,hr⟩;rw[dQ,co,az];unfold YN RE.poiE;cases ar
 ·obtain⟨c2,c3⟩:=hc.2.1 rfl;simp only at c2 c3;obtain⟨li,rfl,bl⟩:=aB c2;have bvv:=aiD (l:=li) (p:=p);have hb:(decide (aW (alR (oI (false,li,dec ci,cw,fr,to)) p) (alR (oI (false,li,dec ci,cw,fr,to)) fr)<0)||decide (aW (alR (oI (false,li,dec ci,cw,fr,to)) p) (alR (oI (false,li,dec ci,cw,fr,to)) to)>0))=!(RE.besE (false,li,dec ci,cw,fr,to) (RE.pR p)):=RE.dir_bes (c:=(false,li,dec ci,cw,fr,to)) (hf:=rf) (ht:=rt) (p:=p)
  have q2:fC (iJ (pO li p) (pO li p)) (r*r*(li.1*li.1+li.2.1*li.2.1))=RE.sg (RE.exE li (RE.pR p)*RE.exE li (RE.pR p)-RE.of (r*r*(li.1*li.1+li.2.1*li.2.1))):=by
   have rv:Rdd (pO li p):=inferInstance;rw[RE.cmpTR_re (Uo (r:=pO li p)).nn,RE.vR_sqr rv,RE.vR_val]
  dsimp only;simp only[aO,Nat.reduceAdd,Nat.reduceMul,Nat.reduceLeDiff,aI,aJ,aq,o1,o2,RE.min_if,Bool.not_false,dC,lnC,q2];revert hb;cases decide (aW (alR (oI (false,li,dec ci,cw,fr,to)) p) (alR (oI (false,li,dec ci,cw,fr,to)) fr)<0)<;>cases decide (aW (alR (oI (false,li,dec ci,cw,fr,to)) p) (alR (oI (false,li,dec ci,cw,fr,to)) to)>0)<;>cases RE.besE (false,li,dec ci,cw,fr,to) (RE.pR p)<;>intro hb<;>first|exact absurd hb (by decide)|(cases decide (r<0)<;>rfl)
 ·obtain⟨c1,hq⟩:=hc.1 rfl;have hci:nM ci:=⟨c1,hq⟩
  simp only at c1 hq;obtain⟨ci,rfl,bc⟩:=aB c1;rw[az]at hq;have e0:((aj ci.1,aj ci.2.1):BV)=enc (ctr ci):=rfl;have nq:Nn ci.2.2:=⟨by grind⟩
  have z:(aX p (atP (ctr ci))==0)=decide (RE.pR p=RE.vE (ctr ci)):=by
   rw[ao6,aob];exact RE.cen_eq
  have vs:RE.vR (sqP p (ctr ci))=RE.dsE (RE.pR p) (RE.vE (ctr ci)):=RE.vR_sq _;have rs:Rdd (sqP p (ctr ci)):=inferInstance
  have m:∀a b,aW (sqP p (ctr ci)) (mkR a b ci.2.2)=RE.sg (RE.dsE (RE.pR p) (RE.vE (ctr ci))-RE.v2 a b ci.2.2):=fun a b=>by
   rw[RE.cmpT_re rs.nn (o8 (a:=a) (b:=b) (c:=ci.2.2)).nn,RE.vR_mk,vs]
  dsimp only;unfold RE.rngS;simp only[aO,Nat.reduceAdd,Nat.reduceMul,Nat.reduceLeDiff,aI,aJ,aq,e0,o1,o2,am5 hci,RE.min_if,Bool.not_true,dC,ciC,z,m,ge_iff_le,RE.wr_sg,dT nq.le];cases decide (r<0)
  ·cases decide (RE.pR p=RE.vE (ctr ci))
   ·cases RE.witE (true,dec li,ci,cw,fr,to) (RE.pR p)
    ·rfl
    ·cases decide (0≤RE.sg (RE.dsE (RE.pR p) (RE.vE (ctr ci))-RE.v2 (ci.2.2+r*r) (r+r) ci.2.2))
     ·cases decide (aD ci.2.2 (r*r)≤0)<;>rfl
     ·rfl
   ·rfl
  ·rfl
end
def Fj:List En:=[enT iY,enL lj,enL mh,enT qf,enL lY,enL n8,enT Hn]
def MQ(d p q r:BR)(_k:KT):OLR:=og (o1 d) (match decide ((aD (ae d) 0)<0)with|true=>some [RV.d aqt 0,RV.d aqt 7]|false=>(og (o1 p) (match decide ((aD (ae p) 0)<0)with|true=>some [RV.d aqt 0,RV.d aqt 7]|false=>(og (o1 q) (match decide ((aD (ae q) 0)<0)with|true=>some [RV.d aqt 0,RV.d aqt 7]|false=>(og (o1 r) (match decide ((aD (ae r) 0)<0)with|true=>some [RV.d aqt 0,RV.d aqt 7]|false=>(og (o2 d p) (og (o2 (hSu d p) q) (og (o2 r r) (og (o2 (hSu (hSu d p) q) (hMu r r)) (og (decide (aH ((-2):Int))) (og (o2 (hid (aj (((-2):Int):Rat))) r) (og (decide (aH ((-2):Int))) (og (decide (okQ (hSu (hSu (hSu d p) q) (hMu r r),(hMu (hid (aj (((-2):Int):Rat))) r,(hMu (hid (aj (((-2):Int):Rat))) r,(hid (aj (((-2):Int):Rat)),(p,q))))))) (some [RV.d aqt (sgQ (dec (hSu (hSu (hSu d p) q) (hMu r r),(hMu (hid (aj (((-2):Int):Rat))) r,(hMu (hid (aj (((-2):Int):Rat))) r,(hid (aj (((-2):Int):Rat)),(p,q))))))),RV.d aqt 0]))))))))))))))))
def aee:Cn 316 [tR,tR,tR,tR]:=cn fun(d p q r:BR)=>lf (n4P d p q r) [.d aqt (io (ae d) (ae p) (ae q) (ae r)),.d aqt 0] fun h=>by
 refine aA Fj (MQ d p q r) ⟨0,?_⟩;obtain⟨d,p,q,r,⟨rfl,rfl,rfl,rfl⟩,bd,bp,bq,br,nd,np,nq,nr_⟩:=EY h;have i2:decide (aH 2)=true:=by decide
 have im:decide (aH (-2))=true:=by decide
 have b2:Bd ((2:Int):Rat) 3:=bS (n:=2) (by decide);have bm:Bd ((-2:Int):Rat) 3:=bS (n:= -2) (by decide);have b2':Bd (2:Rat) 3:=b2;have bm':Bd (-2:Rat) 3:=bm;have b0:Bd (0:Rat) 3:=bS (n:=0) (by decide);have e2:((2:Int):Rat)=2:=rfl;have em:((-2:Int):Rat)= -2:=rfl;have n1:Nn p:=⟨np⟩
 have n2:Nn q:=⟨nq⟩
 have o1:decide (okQ (enc ((d-p-q-r*r,-2*r,-2*r,-2,p,q):Qd)))=true:=rn (by decide) (by decide) (by decide) (by decide) (by decide) (by decide);unfold MQ;simp only[aO,Nat.reduceAdd,Nat.reduceLeDiff,aq,im,em,dF (show ¬d<0 by grind),dF (show ¬p<0 by grind),dF (show ¬q<0 by grind),dF (show ¬r<0 by grind)];show og (decide (okQ (enc ((d-p-q-r*r,-2*r,-2*r,-2,p,q):Qd)))) (some [RV.d aqt (sgQ (dec (enc ((d-p-q-r*r,-2*r,-2*r,-2,p,q):Qd)))),_])=_;rw[o1,az];rfl
def aaq(_k:KT):OLR:=og (decide (aH (0:Int))) (some [RV.d tR (hid (aj ((0:Int):Rat)))])
def ahP:Cn 246 []:=cn<|lf True [.d tR (aj 0)] fun _=>by
 refine aA Fj (aaq) ⟨0,?_⟩;unfold aaq;rw[dT (show aH 0 by decide)];simp only[bJ];rfl
def F0:List En:=enL ahP::Fj
def WR(a b c d:BR)(_k:KT):OLR:=og (o2 a b) (og (o2 c d) (og (o2 (hAd a b) (hAd c d)) (og (decide (aH (2:Int))) (og (decide (aH ((-2):Int))) (og (o2 a b) (og (o2 c d) (og (decide (okQ (hSu (hAd a b) (hAd c d),(hid (aj ((2:Int):Rat)),(hid (aj (((-2):Int):Rat)),(hid (aj 0),(hMu a b,hMu c d))))))) (some [RV.d aqt (sgQ (dec (hSu (hAd a b) (hAd c d),(hid (aj ((2:Int):Rat)),(hid (aj (((-2):Int):Rat)),(hid (aj 0),(hMu a b,hMu c d)))))))]))))))))
def aij:Cn 247 [tR,tR,tR,tR]:=cn fun(a b c d:BR)=>lf (n4P a b c d) [.d aqt (KK (ae a) (ae b) (ae c) (ae d))] fun h=>by
 refine aA F0 (WR a b c d) ⟨0,?_⟩;obtain⟨a,b,c,d,⟨rfl,rfl,rfl,rfl⟩,ba,bb,bc,bd,na,nb,nc,nd⟩:=EY h;have i2:decide (aH 2)=true:=by decide
 have im:decide (aH (-2))=true:=by decide
 have b2:Bd ((2:Int):Rat) 3:=bS (n:=2) (by decide);have bm:Bd ((-2:Int):Rat) 3:=bS (n:= -2) (by decide);have b2':Bd (2:Rat) 3:=b2;have bm':Bd (-2:Rat) 3:=bm;have b0:Bd (0:Rat) 3:=bS (n:=0) (by decide);have e2:((2:Int):Rat)=2:=rfl;have em:((-2:Int):Rat)= -2:=rfl;have n1:Nn (a*b):=⟨anl na nb⟩
 have n2:Nn (c*d):=⟨anl nc nd⟩
 have o1:decide (okQ (enc ((a+b-(c+d),2,-2,0,a*b,c*d):Qd)))=true:=rn (by decide) (by decide) (by decide) (by decide) (by decide) (by decide);unfold WR;simp only[aO,Nat.reduceAdd,Nat.reduceLeDiff,i2,im,e2,em];show og (decide (okQ (enc ((a+b-(c+d),2,-2,0,a*b,c*d):Qd)))) (some [RV.d aqt (sgQ (dec (enc ((a+b-(c+d),2,-2,0,a*b,c*d):Qd))))])=_;rw[o1,az];rfl
def Z5(a b c r:BR)(_k:KT):OLR:=og (o2 r r) (og (o2 (hMu r r) c) (match decide ((aD (ae (hMu r r)) (ae c))<0)with|true=>some [RV.d aqt 1]|false=>(og (o2 a b) (og (o2 (hMu r r) c) (og (o2 (hAd a b) (hAd (hMu r r) c)) (og (decide (aH (2:Int))) (og (o2 r r) (og (o2 a b) (og (decide (okQ (hSu (hAd a b) (hAd (hMu r r) c),(hid (aj ((2:Int):Rat)),(hAd r r,(hid (aj 0),(hMu a b,c))))))) (some [RV.d aqt (sgQ (dec (hSu (hAd a b) (hAd (hMu r r) c),(hid (aj ((2:Int):Rat)),(hAd r r,(hid (aj 0),(hMu a b,c)))))))]))))))))))
def ajM:Cn 137 [tR,tR,tR,tR]:=cn fun(a b c r:BR)=>lf (n4P a b c r) [.d aqt (Bj (ae a) (ae b) (ae c) (ae r))] fun h=>by
 refine aA F0 (Z5 a b c r) ⟨0,?_⟩;obtain⟨a,b,c,r,⟨rfl,rfl,rfl,rfl⟩,ba,bb,bc,br,na,nb,nc,nr_⟩:=EY h;have i2:decide (aH 2)=true:=by decide
 have im:decide (aH (-2))=true:=by decide
 have b2:Bd ((2:Int):Rat) 3:=bS (n:=2) (by decide);have bm:Bd ((-2:Int):Rat) 3:=bS (n:= -2) (by decide);have b2':Bd (2:Rat) 3:=b2;have bm':Bd (-2:Rat) 3:=bm;have b0:Bd (0:Rat) 3:=bS (n:=0) (by decide);have e2:((2:Int):Rat)=2:=rfl;have em:((-2:Int):Rat)= -2:=rfl;have n1:Nn (a*b):=⟨anl na nb⟩
 have n2:Nn c:=⟨nc⟩
 have o1:decide (okQ (enc ((a+b-(r*r+c),2,r+r,0,a*b,c):Qd)))=true:=rn (by decide) (by decide) (by decide) (by decide) (by decide) (by decide);unfold Z5 Bj;simp only[aO,Nat.reduceAdd,Nat.reduceLeDiff,aq,i2,e2];cases decide (r*r<c)
 ·show og (decide (okQ (enc ((a+b-(r*r+c),2,r+r,0,a*b,c):Qd)))) (some [RV.d aqt (sgQ (dec (enc ((a+b-(r*r+c),2,r+r,0,a*b,c):Qd))))])=_;rw[o1,az];rfl
 ·rfl
def Rs:List En:=enT aee::F0
def ahK:Cn 245 [tR,tR,tR,tR]:=cn fun(a b c r:BR)=>lf (n4P a b c r) [.d aqt (io (ae a) (ae b) (ae c) (ae r))] fun h=>jx [RV.d aqt (io (ae a) (ae b) (ae c) (ae r))] (du Rs) h
def PX:List En:=enT ahK::enT aij::Rs
def Xh(a b r:BR)(_k:KT):OLR:=og (o2 a b) (match decide ((aD (ae a) (ae b))<0)with|true=>(og (decide (n4P b a (hid (aj 0)) r)) (some [RV.d aqt (io (ae b) (ae a) (ae (hid (aj 0))) (ae r))]))|false=>(og (decide (n4P a b (hid (aj 0)) r)) (some [RV.d aqt (io (ae a) (ae b) (ae (hid (aj 0))) (ae r))])))
def ajr:Cn 139 [tR,tR,tR]:=cn fun(a b r:BR)=>lf (n3P a b r) [.d aqt (Gj (ae a) (ae b) (ae r))] fun h=>by
 refine aA PX (Xh a b r) ⟨0,?_⟩;obtain⟨a,b,r,rfl,rfl,rfl,ba,bb,br,na,nb,nr_⟩:=So h;have b0:Bd (0:Rat) 3:=bS (n:=0) (by decide);have z0:(0:Rat)≤0:=by decide
 have k1:=(xq (a:=a) (b:=b) (c:=0) (e:=r) (i:=2000) (j:=2000) (k:=3) (l:=2000) (by decide) (by decide) (by decide) (by decide) na nb z0 nr_)
 have k2:=(xq (a:=b) (b:=a) (c:=0) (e:=r) (i:=2000) (j:=2000) (k:=3) (l:=2000) (by decide) (by decide) (by decide) (by decide) nb na z0 nr_)
 unfold Xh Gj;simp only[aO,Nat.reduceLeDiff,aq,k1,k2];cases decide (a<b)<;>rfl
def Y6(a b c r:BR)(_k:KT):OLR:=og (decide (n4P c a b (hid (aj 0)))) (match decide ((io (ae c) (ae a) (ae b) (ae (hid (aj 0))))>0)with|true=>(og (decide (n4P c a b r)) (some [RV.d aqt (io (ae c) (ae a) (ae b) (ae r))]))|false=>(og (o2 r r) (og (decide (n4P a b c (hMu r r))) (some [RV.d aqt (KK (ae a) (ae b) (ae c) (ae (hMu r r)))]))))
def aiK:Cn 136 [tR,tR,tR,tR]:=cn fun(a b c r:BR)=>lf (n3P a b c∧ok Rat 1000 r∧0≤ae r) [.d aqt (tT (ae a) (ae b) (ae c) (ae r))] fun h=>by
 refine aA PX (Y6 a b c r) ⟨0,?_⟩;obtain⟨h,hr,nr_⟩:=h;obtain⟨a,b,c,rfl,rfl,rfl,ba,bb,bc,na,nb,nc⟩:=So h;obtain⟨r,rfl,br⟩:=aB hr;rw[dQ,co]at nr_;have b0:Bd (0:Rat) 3:=bS (n:=0) (by decide);have z0:(0:Rat)≤0:=by decide
 have k1:=(xq (a:=c) (b:=a) (c:=b) (e:=0) (i:=2000) (j:=2000) (k:=2000) (l:=3) (by decide) (by decide) (by decide) (by decide) nc na nb z0)
 have k2:=(xq (a:=c) (b:=a) (c:=b) (e:=r) (i:=2000) (j:=2000) (k:=2000) (l:=1000) (by decide) (by decide) (by decide) (by decide) nc na nb nr_)
 have b3:Bd (r*r) 2000:=(inferInstance:Bd (r*r) _).mono (by decide);have k3:=(xq (a:=a) (b:=b) (c:=c) (e:=r*r) (i:=2000) (j:=2000) (k:=2000) (l:=2000) (by decide) (by decide) (by decide) (by decide) na nb nc (anl nr_ nr_))
 unfold Y6 tT;simp only[aO,Nat.reduceLeDiff,k1,k2,k3];cases decide (io c a b 0>0)<;>rfl
def Pb:List En:=[enL Fv,enL XR]
def aaE(v:BV)(_k:KT):OLR:=og (decide (ok (Rat×Rat) 21000 v)) (some [RV.d tV (hid (enc (bkV (dec v))))])
def agP:Cn 135 [tV]:=cn fun(v:BV)=>lf (ok (Rat×Rat) 500 v) [.d tV (enc (bkV (dec v)))] fun h=>by
 refine aA Pb (aaE v) ⟨0,?_⟩;have hv:=h;obtain⟨v,rfl,bv⟩:=aB hv;unfold aaE;simp only[aO,Nat.reduceLeDiff];try rfl
def Xn(v:BV)(_k:KT):OLR:=og (decide (ok (Rat×Rat) 5000 v∧ok (Rat×Rat) 5000 v)) (some [RV.d tR (hid (aj (aY (dec v) (dec v))))])
def Yy:Cn 133 [tV]:=cn fun(v:BV)=>lf (ok (Rat×Rat) 500 v) [.d tR (aj (aY (dec v) (dec v)))] fun h=>by
 refine aA Pb (Xn v) ⟨0,?_⟩;have hv:=h;obtain⟨v,rfl,bv⟩:=aB hv;unfold Xn;simp only[aO,Nat.reduceLeDiff];try rfl
def ae2:List En:=[enL AF,enL GL,enL WU,enT Jn,enL vk,enT aaj,enL Yy,enT ajr]
def aam(s a:BCU)(r:BR)(_k:KT):OLR:=let y1:=hid ((a.2.2.1.1,a.2.2.1.2.1));let y2:=hid (enc (dt (dec s.2.1) (dec y1)));let y3:=hid (enc (atP (dec y2)));let y4:=hid (enc (bh (dec y1) (dec y2)));let y5:=hid (aj (aY (dec y4) (dec y4)));og (decide (ok Ln 300 s.2.1∧ok (Rat×Rat) 200 y1∧((dec s.2.1:Ln).1≠0∨(dec s.2.1:Ln).2.1≠0))) (og (decide (ok (Rat×Rat) 1000 y1∧ok (Rat×Rat) 1000 y2)) (og (decide (ok (Rat×Rat) 100000 y2)) (og (decide (okC 3500 s∧okP 3500 y3)) (match !(onR (dC s) (dec y3))with|true=>some [RV.d aqt 1]|false=>(og (decide (gdC a∧ok (Rat×Rat) 510 y4)) (match !(cf (dC a) (dec y4))with|true=>some [RV.d aqt 1]|false=>(og (decide (ok (Rat×Rat) 500 y4)) (og (decide (n3P y5 a.2.2.1.2.2 r)) (some [RV.d aqt (Gj (ae y5) (ae a.2.2.1.2.2) (ae r))])))))))))
def ai5:Cn 49 [tCU,tCU,tR]:=cn fun(s a:BCU) (r:BR)=>lf (vW s a∧ok Rat 1000 r∧0≤ae r∧gdC a) [.d aqt (E2 (dC s) (dC a) (ae r))] fun h=>by
 refine aA ae2 (aam s a r) ⟨0,?_⟩;obtain⟨⟨hs,ha,es,ea⟩,hr,nr_,ga⟩:=h;have hF:=Gx hs.2 ha.2 es ea;obtain⟨ar,li,ci,cw,fr,to⟩:=s;obtain⟨ar',li',ci',cw',fr',to'⟩:=a;simp only at es ea;subst es ea;obtain⟨l1,l2⟩:=hs.1.2.1 rfl;simp only at l1 l2;obtain⟨li,rfl,bl⟩:=aB l1;obtain⟨ci',rfl,bc,qc⟩:=cE (ha.2.1 rfl);obtain⟨r,rfl,br⟩:=aB hr;rw[dQ,co]at nr_;have bc':Bd (ctr ci') 200:=(inferInstance:Bd ((ci'.1,ci'.2.1):Rat×Rat) _).mono (by decide);have e0:((aj ci'.1,aj ci'.2.1):BV)=enc (ctr ci'):=rfl;rw[az]at l2;simp only[ftv,dC,lnC,ciC,az]at hF;have bd:Bd (aY (bh (ctr ci') (dt li (ctr ci'))) (bh (ctr ci') (dt li (ctr ci')))) 2000:=(inferInstance:Bd (aY (bh (ctr ci') (dt li (ctr ci'))) (bh (ctr ci') (dt li (ctr ci')))) _).mono (by decide);have bw:Bd (bh (ctr ci') (dt li (ctr ci'))) 500:=(inferInstance:Bd (bh (ctr ci') (dt li (ctr ci'))) _).mono (by decide);have k:=(TG (a:=aY (bh (ctr ci') (dt li (ctr ci'))) (bh (ctr ci') (dt li (ctr ci')))) (b:=ci'.2.2) (c:=r) (i:=2000) (j:=13) (k:=1000) (by decide) (by decide) (by decide) (jc _) (by grind) nr_)
 have gd:decide (gdC _)=true:=dT ga;unfold aam E2 ftv qV;simp only[dC,lnC,ciC,az]at gd ⊢;simp only[aO,Nat.reduceLeDiff,aJ,e0,dT l2,dT (b8 (k:=3500) hs.1 (by decide) (by decide)),gd,k];cases onR (false,li,dec ci,cw,dec fr,dec to) (atP (dt li (ctr ci')))
 ·rfl
 ·cases cf (true,dec li',ci',cw',dec fr',dec to') (bh (ctr ci') (dt li (ctr ci')))<;>rfl
def adR:List En:=[enL AF,enL WU,enL Yy,enT iY,enT aaj,enL agP,enT aiK,enT ajM]
def XF(c d:BCU)(r:BR)(_k:KT):OLR:=let y1:=hid ((c.2.2.1.1,c.2.2.1.2.1));let y2:=hid ((d.2.2.1.1,d.2.2.1.2.1));let y3:=hid (enc (bh (dec y1) (dec y2)));let y4:=ok (Rat×Rat) 500 y3;let y5:=hid (aj (aY (dec y3) (dec y3)));let y6:=hid (enc (bkV (dec y3)));let y7:=n4P y5 c.2.2.1.2.2 d.2.2.1.2.2 r;let y8:=ae c.2.2.1.2.2;let y9:=ae d.2.2.1.2.2;let y10:=mn2 1 (tT y8 y9 (ae y5) (ae r));let y11:=tT (ae y5) y9 y8 (ae r);let y12:=tT (ae y5) y8 y9 (ae r);let y13:=mn2 (mn2 y10 y11) y12;let y14:=Bj (ae y5) y8 y9 (ae r);let y15:OLR:=match cf (dC c) (dec y6)with|true=>(match cf (dC d) (dec y3)with|true=>(og (decide y7) (some [RV.d aqt (mn2 (mn2 y10 y11) y14)]))|false=>some [RV.d aqt (mn2 y10 y11)])|false=>some [RV.d aqt (mn2 y10 y11)];let y16:OLR:=match cf (dC c) (dec y6)with|true=>(match cf (dC d) (dec y3)with|true=>(og (decide y7) (some [RV.d aqt (mn2 y10 y14)]))|false=>some [RV.d aqt y10])|false=>some [RV.d aqt y10];let y17:OLR:=match cf (dC c) (dec y6)with|true=>(match cf (dC d) (dec y6)with|true=>(og (decide (n3P y5 c.2.2.1.2.2 d.2.2.1.2.2∧ok Rat 1000 r∧0≤ae r)) (match cf (dC c) (dec y6)with|true=>(match cf (dC d) (dec y3)with|true=>(og (decide y7) (some [RV.d aqt (mn2 (mn2 y10 y12) y14)]))|false=>some [RV.d aqt (mn2 y10 y12)])|false=>some [RV.d aqt (mn2 y10 y12)]))|false=>y16)|false=>y16;let y18:=mn2 (mn2 1 y11) y12;let y19:OLR:=match cf (dC c) (dec y6)with|true=>(match cf (dC d) (dec y3)with|true=>(og (decide y7) (some [RV.d aqt (mn2 (mn2 1 y11) y14)]))|false=>some [RV.d aqt (mn2 1 y11)])|false=>some [RV.d aqt (mn2 1 y11)];let y20:OLR:=match cf (dC c) (dec y6)with|true=>(match cf (dC d) (dec y3)with|true=>(og (decide y7) (some [RV.d aqt (mn2 1 y14)]))|false=>some [RV.d aqt 1])|false=>some [RV.d aqt 1];let y21:OLR:=match cf (dC c) (dec y6)with|true=>(match cf (dC d) (dec y6)with|true=>(og (decide (n3P y5 c.2.2.1.2.2 d.2.2.1.2.2∧ok Rat 1000 r∧0≤ae r)) (match cf (dC c) (dec y6)with|true=>(match cf (dC d) (dec y3)with|true=>(og (decide y7) (some [RV.d aqt (mn2 (mn2 1 y12) y14)]))|false=>some [RV.d aqt (mn2 1 y12)])|false=>some [RV.d aqt (mn2 1 y12)]))|false=>y20)|false=>y20;let y22:OLR:=match cf (dC c) (dec y3)with|true=>(match cf (dC d) (dec y3)with|true=>(og (decide (n3P y5 d.2.2.1.2.2 c.2.2.1.2.2∧ok Rat 1000 r∧0≤ae r)) (match cf (dC c) (dec y6)with|true=>(match cf (dC d) (dec y6)with|true=>(og (decide (n3P y5 c.2.2.1.2.2 d.2.2.1.2.2∧ok Rat 1000 r∧0≤ae r)) (match cf (dC c) (dec y6)with|true=>(match cf (dC d) (dec y3)with|true=>(og (decide y7) (some [RV.d aqt (mn2 y18 y14)]))|false=>some [RV.d aqt y18])|false=>some [RV.d aqt y18]))|false=>y19)|false=>y19))|false=>y21)|false=>y21;og (decide (ok (Rat×Rat) 1000 y1∧ok (Rat×Rat) 1000 y2)) (og (decide y4) (og (o1 y5) (match(aD (ae y5) 0)==0 with|true=>some [RV.d aqt 1]|false=>(og (decide (gdC c∧ok (Rat×Rat) 510 y3)) (og (decide y4) (og (decide (gdC c∧ok (Rat×Rat) 510 y6)) (og (decide y4) (og (decide (gdC d∧ok (Rat×Rat) 510 y6)) (og (decide (gdC d∧ok (Rat×Rat) 510 y3)) (match cf (dC c) (dec y3)with|true=>(match cf (dC d) (dec y6)with|true=>(og (decide (n3P c.2.2.1.2.2 d.2.2.1.2.2 y5∧ok Rat 1000 r∧0≤ae r)) (match cf (dC c) (dec y3)with|true=>(match cf (dC d) (dec y3)with|true=>(og (decide (n3P y5 d.2.2.1.2.2 c.2.2.1.2.2∧ok Rat 1000 r∧0≤ae r)) (match cf (dC c) (dec y6)with|true=>(match cf (dC d) (dec y6)with|true=>(og (decide (n3P y5 c.2.2.1.2.2 d.2.2.1.2.2∧ok Rat 1000 r∧0≤ae r)) (match cf (dC c) (dec y6)with|true=>(match cf (dC d) (dec y3)with|true=>(og (decide y7) (some [RV.d aqt (mn2 y13 y14)]))|false=>some [RV.d aqt y13])|false=>some [RV.d aqt y13]))|false=>y15)|false=>y15))|false=>y17)|false=>y17))|false=>y22)|false=>y22))))))))))
def agW:Cn 48 [tCU,tCU,tR]:=cn fun(c d:BCU) (r:BR)=>lf (CM c d∧ok Rat 1000 r∧0≤ae r∧gdC c∧gdC d) [.d aqt (K4 (dC c) (dC d) (ae r))] fun h=>by
 refine aA adR (XF c d r) ⟨0,?_⟩;obtain⟨⟨hc,hd,ec,ed⟩,hr,nr_,gc,gd⟩:=h;obtain⟨ar,li,ci,cw,fr,to⟩:=c;obtain⟨ar',li',di,cw',fr',to'⟩:=d;simp only at ec ed;subst ec ed;have oc:decide (gdC _)=true:=dT gc;have od:decide (gdC _)=true:=dT gd;obtain⟨ci,rfl,bc,qc⟩:=cE (hc.2.1 rfl);obtain⟨di,rfl,bd,qd⟩:=cE (hd.2.1 rfl);obtain⟨r,rfl,br⟩:=aB hr;have nr1:=nr_;rw[dQ,co]at nr1;have n0:0≤aY (bh (ctr ci) (ctr di)) (bh (ctr ci) (ctr di)):=jc _;have bN:Bd (aY (bh (ctr ci) (ctr di)) (bh (ctr ci) (ctr di))) 100:=(inferInstance:Bd ((di.1-ci.1)*(di.1-ci.1)+(di.2.1-ci.2.1)*(di.2.1-ci.2.1)) _).mono (by decide);have b1:Bd (ctr ci) 4:=(inferInstance:Bd ((ci.1,ci.2.1):Rat×Rat) _).mono (by decide);have b2:Bd (ctr di) 4:=(inferInstance:Bd ((di.1,di.2.1):Rat×Rat) _).mono (by decide);have e0:((aj ci.1,aj ci.2.1):BV)=enc (ctr ci):=rfl;have e1:((aj di.1,aj di.2.1):BV)=enc (ctr di):=rfl;have bw:Bd (bh (ctr ci) (ctr di)) 20:=(inferInstance:Bd ((di.1-ci.1,di.2.1-ci.2.1):Rat×Rat) _).mono (by decide);have bb:Bd (bkV (bh (ctr ci) (ctr di))) 20:=(inferInstance:Bd ((-(di.1-ci.1),-(di.2.1-ci.2.1)):Rat×Rat) _).mono (by decide);have pc:0≤ci.2.2:=by grind
 have pd:0≤di.2.2:=by grind
 have k1:=(TG (a:=ci.2.2) (b:=di.2.2) (c:=(aY (bh (ctr ci) (ctr di)) (bh (ctr ci) (ctr di)))) (i:=13) (j:=13) (k:=100) (by decide) (by decide) (by decide) pc pd n0)
 have k2:=(TG (a:=(aY (bh (ctr ci) (ctr di)) (bh (ctr ci) (ctr di)))) (b:=di.2.2) (c:=ci.2.2) (i:=100) (j:=13) (k:=13) (by decide) (by decide) (by decide) n0 pd pc)
 have k3:=(TG (a:=(aY (bh (ctr ci) (ctr di)) (bh (ctr ci) (ctr di)))) (b:=ci.2.2) (c:=di.2.2) (i:=100) (j:=13) (k:=13) (by decide) (by decide) (by decide) n0 pc pd)
 have k4:=(xq (a:=(aY (bh (ctr ci) (ctr di)) (bh (ctr ci) (ctr di)))) (b:=ci.2.2) (c:=di.2.2) (e:=r) (i:=100) (j:=13) (k:=13) (l:=1000) (by decide) (by decide) (by decide) (by decide) n0 pc pd nr1)
 have al:∀a b c,tT a b c r≤1:=fun a b c=>by
  unfold tT;cases decide (io c a b 0>0)
  ·exact w9 _
  ·exact w9 _
 have s1:=al ci.2.2 di.2.2 (aY (bh (ctr ci) (ctr di)) (bh (ctr ci) (ctr di)));have s2:=al (aY (bh (ctr ci) (ctr di)) (bh (ctr ci) (ctr di))) di.2.2 ci.2.2;have s3:=al (aY (bh (ctr ci) (ctr di)) (bh (ctr ci) (ctr di))) ci.2.2 di.2.2
 have s4:Bj (aY (bh (ctr ci) (ctr di)) (bh (ctr ci) (ctr di))) ci.2.2 di.2.2 r≤1:=by
  unfold Bj;cases decide (r*r<di.2.2)
  ·exact w9 _
  ·exact Int.le_refl 1
 unfold XF K4 nT fT nD wyv;simp only[aO,Nat.reduceLeDiff,ao,e0,e1,oc,od,k1,k2,k3,k4,dT nr1,dC,ciC,yd];cases decide ((aY (bh (ctr ci) (ctr di)) (bh (ctr ci) (ctr di)))=0)
 ·cases cf (true,dec li,ci,cw,dec fr,dec to) (bh (ctr ci) (ctr di))<;>cases cf (true,dec li,ci,cw,dec fr,dec to) (bkV (bh (ctr ci) (ctr di)))<;>cases cf (true,dec li',di,cw',dec fr',dec to') (bh (ctr ci) (ctr di))<;>cases cf (true,dec li',di,cw',dec fr',dec to') (bkV (bh (ctr ci) (ctr di)))<;>simp only[qV,cond_true,cond_false,Bool.and_true,aqf]<;>refine congrArg (fun x:Int=>some [RV.d aqt x]) ?_<;>omega
 ·rfl
def adO:List En:=[enT iY,enL ahU,enT agK,enT agW,enT ai5]
def aaM(c d:BCU)(r:BR)(_k:KT):OLR:=let y1:OLR:=match decide (okR r)with|true=>some [RV.d aqt (i64.wrap (0-(aD (ae r) 0)))]|false=>none;let y2:=G3 (RE.poiE (dC d) (RE.pR (dec c.2.2.2.2.1)) (ae r)) (RE.poiE (dC d) (RE.pR (dec c.2.2.2.2.2)) (ae r)) (RE.poiE (dC c) (RE.pR (dec d.2.2.2.2.1)) (ae r)) (RE.poiE (dC c) (RE.pR (dec d.2.2.2.2.2)) (ae r));let y3:OLR:=match c.1 with|true=>(og (decide (vW d c∧ok Rat 1000 r∧0≤ae r∧gdC c)) (some [RV.d aqt (mn2 y2 (E2 (dC d) (dC c) (ae r)))]))|false=>(match d.1 with|true=>(og (decide (vW c d∧ok Rat 1000 r∧0≤ae r∧gdC d)) (some [RV.d aqt (mn2 y2 (E2 (dC c) (dC d) (ae r)))]))|false=>some [RV.d aqt y2]);og (o1 r) (match decide ((aD (ae r) 0)<0)with|true=>some [RV.d aqt 1]|false=>(og (decide (gU c d)) (match EB c d with|true=>y1|false=>(match decide (((uo c d).length:Int)>0)with|true=>y1|false=>(og (decide (okC 580 d∧okP 580 c.2.2.2.2.1∧ok Rat 1000 r)) (og (decide (okC 580 d∧okP 580 c.2.2.2.2.2∧ok Rat 1000 r)) (og (decide (okC 580 c∧okP 580 d.2.2.2.2.1∧ok Rat 1000 r)) (og (decide (okC 580 c∧okP 580 d.2.2.2.2.2∧ok Rat 1000 r)) (match c.1 with|true=>(match d.1 with|true=>(og (decide (CM c d∧ok Rat 1000 r∧0≤ae r∧gdC c∧gdC d)) (some [RV.d aqt (mn2 y2 (K4 (dC c) (dC d) (ae r)))]))|false=>y3)|false=>y3)))))))))
def ae7:Cn 15 [tCU,tCU,tR]:=cn fun(c d:BCU) (r:BR)=>lf (gU c d∧ok Rat 1000 r∧gdC c∧gdC d) [.d aqt (NS c d (ae r))] fun h=>by
 refine aA adO (aaM c d r) ⟨0,?_⟩;obtain⟨⟨mc,md⟩,hr,gc,gd⟩:=h;have c5:=b8 (k:=580) mc.1 (by decide) (by decide);have d5:=b8 (k:=580) md.1 (by decide) (by decide);obtain⟨r,rfl,br⟩:=aB hr
 have w:i64.wrap (0-aD r 0)= -aD r 0:=by
  have:=je r 0;rw[aT (by omega) (by omega)];omega
 unfold aaM NS Hz U7 lz;simp only[aO,Nat.reduceLeDiff,aq,yd,JM,dT (show gU c d from⟨mc,md⟩),dT c5,dT d5,dT gc,dT gd,dT c5.2.2.1,dT c5.2.2.2,dT d5.2.2.1,dT d5.2.2.2,w];by_cases h0:r<0
 ·rw[dT h0];rfl
 ·rw[dF h0];have hn:0≤r:=by grind
  cases EB c d
  ·cases decide (((uo c d).length:Int)>0)
   ·cases ea:c.1<;>cases eb:d.1
    ·simp only[dC,ea,eb];rfl
    ·simp only[dC,ea,eb,dT hn,dT (show vW c d from⟨mc,md,ea,eb⟩)];rfl
    ·simp only[dC,ea,eb,dT hn,dT (show vW d c from⟨md,mc,eb,ea⟩)];rfl
    ·simp only[dC,ea,eb,dT (show CM c d from⟨mc,md,ea,eb⟩),dT hn];rfl
   ·rfl
  ·rfl
def Cr(c:BCU)(l:List BCU)(r:BR):Prop:=mG c∧(∀x∈l,mG x)∧l.length≤1000000∧ok Rat 1000 r
instance (c:BCU) (l:List BCU) (r:BR):Decidable (Cr c l r):=by unfold Cr;infer_instance
def t4(a b:List BCU)(r:BR):Prop:=(∀x∈a,mG x)∧(∀x∈b,mG x)∧a.length≤1000000∧b.length≤1000000∧ok Rat 1000 r
instance (a b:List BCU) (r:BR):Decidable (t4 a b r):=by unfold t4;infer_instance
def nrZ(c:BCU)(r:Rat)(d:BCU):Bool:=decide (kg c d r<0)
def ro(c:BCU)(l:List BCU)(r:Rat):Bool:=!(l.any (nrZ c r))
def oD(f:BCU→Bool):List BCU→Int→Int
 |[],_=> -1
 |c::l,i=>bif f c then i else oD f l (i+1)
def ls(a b:List BCU)(r:Rat):Int:=oD (fun c=>!(ro c b r)) a 0
def Bk:List En:=[enT aaR]
def ab7:NT:=[((69,6),{keep:=[0,1,7,8],hl:=2}),((28,3),{keep:=[9],hl:=0}),((71,3),{keep:=[7],hl:=0}),((69,18),{keep:=[0,1,5,7,8,16],hl:=0})]
def Sx:Ctx:=CX (ens Bk) ab7
def qr(c:BCU)(l:List BCU)(r:BR)(s69_8:Int):Cfg:=⟨69,[.blk 0,.seq 25],[(0,.d (.sl tCU) l),(1,.clo 72 [0,1]),(7,SI (l.length:Int)),(8,SI s69_8)],[.box 39 [SB c.1,SB c.2.1.1.1.1,.d aqs c.2.1.1.1.2,SB c.2.1.1.2.1,.d aqs c.2.1.1.2.2,SB c.2.1.2.1.1.1,.d aqs c.2.1.2.1.1.2,SB c.2.1.2.1.2.1,.d aqs c.2.1.2.1.2.2,SB c.2.1.2.2.1.1,.d aqs c.2.1.2.2.1.2,SB c.2.1.2.2.2.1,.d aqs c.2.1.2.2.2.2,SB c.2.2.1.1.1.1,.d aqs c.2.2.1.1.1.2,SB c.2.2.1.1.2.1,.d aqs c.2.2.1.1.2.2,SB c.2.2.1.2.1.1.1,.d aqs c.2.2.1.2.1.1.2,SB c.2.2.1.2.1.2.1,.d aqs c.2.2.1.2.1.2.2,SB c.2.2.1.2.2.1.1,.d aqs c.2.2.1.2.2.1.2,SB c.2.2.1.2.2.2.1,.d aqs c.2.2.1.2.2.2.2,SB c.2.2.2.1,SB c.2.2.2.2.1.1.1.1,.d aqs c.2.2.2.2.1.1.1.2,SB c.2.2.2.2.1.1.2.1,.d aqs c.2.2.2.2.1.1.2.2,SB c.2.2.2.2.1.2.1.1.1,.d aqs c.2.2.2.2.1.2.1.1.2,SB c.2.2.2.2.1.2.1.2.1,.d aqs c.2.2.2.2.1.2.1.2.2,SB c.2.2.2.2.1.2.2.1.1.1,.d aqs c.2.2.2.2.1.2.2.1.1.2,SB c.2.2.2.2.1.2.2.1.2.1,.d aqs c.2.2.2.2.1.2.2.1.2.2,SB c.2.2.2.2.1.2.2.2.1.1.1,.d aqs c.2.2.2.2.1.2.2.2.1.1.2,SB c.2.2.2.2.1.2.2.2.1.2.1,.d aqs c.2.2.2.2.1.2.2.2.1.2.2,SB c.2.2.2.2.1.2.2.2.2.1.1,.d aqs c.2.2.2.2.1.2.2.2.2.1.2,SB c.2.2.2.2.1.2.2.2.2.2.1,.d aqs c.2.2.2.2.1.2.2.2.2.2.2,SB c.2.2.2.2.2.1.1.1,.d aqs c.2.2.2.2.2.1.1.2,SB c.2.2.2.2.2.1.2.1,.d aqs c.2.2.2.2.2.1.2.2,SB c.2.2.2.2.2.2.1.1.1,.d aqs c.2.2.2.2.2.2.1.1.2,SB c.2.2.2.2.2.2.1.2.1,.d aqs c.2.2.2.2.2.2.1.2.2,SB c.2.2.2.2.2.2.2.1.1.1,.d aqs c.2.2.2.2.2.2.2.1.1.2,SB c.2.2.2.2.2.2.2.1.2.1,.d aqs c.2.2.2.2.2.2.2.1.2.2,SB c.2.2.2.2.2.2.2.2.1.1.1,.d aqs c.2.2.2.2.2.2.2.2.1.1.2,SB c.2.2.2.2.2.2.2.2.1.2.1,.d aqs c.2.2.2.2.2.2.2.2.1.2.2,SB c.2.2.2.2.2.2.2.2.2.1.1,.d aqs c.2.2.2.2.2.2.2.2.2.1.2,SB c.2.2.2.2.2.2.2.2.2.2.1,.d aqs c.2.2.2.2.2.2.2.2.2.2.2],.box 31 [SB r.1.1,.d aqs r.1.2,SB r.2.1,.d aqs r.2.2]],2,[⟨71,[.seq 4],3,2,[],2,none⟩,⟨28,[.seq 4],3,2,[],0,none⟩]⟩
def aiL(c:BCU)(l:List BCU)(r:BR)(k:KT):OLR:=k 6 (qr c l r 0)
theorem ajz(c:BCU)(l:List BCU)(r:BR):RS Sx 28 [.d tCU c,.d (.sl tCU) l,.d tR r] (aiL c l r):=rsX
def pN(c:BCU)(l:List BCU)(r:BR)(s69_8:Int)(k:KT):OLR:=match decide (s69_8<(l.length:Int))with|true=>(match aU l s69_8 with|some x1=>(og (decide (gU c x1∧ok Rat 1000 r)) (match decide ((kg c x1 (ae r))<0)with|true=>some [RV.d .bool (!(decide (s69_8≥0)))]|false=>k 6 (qr c l r (i64.wrap (s69_8+1)))))|none=>none)|false=>some [RV.d .bool (!(decide ((-1)≥0)))]
theorem vz(c:BCU)(l:List BCU)(r:BR)(s69_8:Int):RN Sx 6 (qr c l r s69_8) (pN c l r s69_8):=rnX
theorem ahD(c:BCU)(l:List BCU)(r:BR)(h:Cr c l r):∀(j i:Nat),i+j=l.length→Sx.Runs 6 (qr c l r (i:Int)) [.d .bool (!((l.drop i).any (nrZ c (ae r))))]:=by
 intro j;have hl:=h.2.2.1;induction j with
 |zero=>
  intro i hi;refine vz _ _ _ _ ⟨0,?_⟩;unfold pN;rw[cd (by omega),kB (by omega)];rfl
 |succ j ih=>
  intro i hi;have hil:i<l.length:=by omega
  obtain⟨n,hn⟩:=ih (i+1) (by omega);refine vz _ _ _ _ ⟨n,?_⟩;unfold pN;rw[bG hil,av,am6 hil,fA hil,apS,bW (by omega)];dsimp only;rw[dT (show gU c l[i]∧ok Rat 1000 r from⟨⟨h.1,h.2.1 _ (anD _)⟩,h.2.2.2⟩)];have e:nrZ c (ae r) l[i]=decide (kg c l[i] (ae r)<0):=rfl;rw[e];cases decide (kg c l[i] (ae r)<0)
  ·exact hn
  ·show some [RV.d .bool (!(decide ((i:Int)≥0)))]=_;rw[dT (show(i:Int)≥0 by omega)];rfl
def aaK:Cn 28 [tCU,(.sl tCU),tR]:=cn fun(c:BCU) (l:List BCU) (r:BR)=>lf (Cr c l r) [.d .bool (ro c l (ae r))] fun h=>by
 exact cY Bk (ajz _ _ _ (ahD c l r h l.length 0 (anF _)))
def AI:List En:=enF aaK::Bk
def acB:NT:=[((69,6),{keep:=[0,1,7,8],hl:=2}),((26,3),{keep:=[9],hl:=0}),((69,18),{keep:=[0,1,5,7,8,16],hl:=0})]
def RF:Ctx:=CX (ens AI) acB
def qo(a b:List BCU)(r:BR)(s69_8:Int):Cfg:=⟨69,[.blk 0,.seq 25],[(0,.d (.sl tCU) a),(1,.clo 70 [0,1]),(7,SI (a.length:Int)),(8,SI s69_8)],[.box 54 [.d (.sl tCU) b],.box 31 [SB r.1.1,.d aqs r.1.2,SB r.2.1,.d aqs r.2.2]],2,[⟨26,[.seq 4],3,2,[],0,none⟩]⟩
def ahe(a b:List BCU)(r:BR)(k:KT):OLR:=k 6 (qo a b r 0)
theorem agC(a b:List BCU)(r:BR):RS RF 26 [.d (.sl tCU) a,.d (.sl tCU) b,.d tR r] (ahe a b r):=rsX
def qe(a b:List BCU)(r:BR)(s69_8:Int)(k:KT):OLR:=match decide (s69_8<(a.length:Int))with|true=>(match aU a s69_8 with|some x1=>(og (decide (Cr x1 b r)) (match !(ro x1 b (ae r))with|true=>some [RV.d aqt s69_8]|false=>k 6 (qo a b r (i64.wrap (s69_8+1)))))|none=>none)|false=>some [RV.d aqt (-1)]
theorem vO(a b:List BCU)(r:BR)(s69_8:Int):RN RF 6 (qo a b r s69_8) (qe a b r s69_8):=rnX
theorem afR(a b:List BCU)(r:BR)(h:t4 a b r):∀(j i:Nat),i+j=a.length→RF.Runs 6 (qo a b r (i:Int)) [.d aqt (oD (fun c=>!(ro c b (ae r))) (a.drop i) (i:Int))]:=by
 intro j;have hl:=h.2.2.1;induction j with
 |zero=>
  intro i hi;refine vO _ _ _ _ ⟨0,?_⟩;unfold qe;rw[cd (by omega),kB (by omega)];rfl
 |succ j ih=>
  intro i hi;have hil:i<a.length:=by omega
  obtain⟨n,hn⟩:=ih (i+1) (by omega);refine vO _ _ _ _ ⟨n,?_⟩;unfold qe;rw[bG hil,av,am6 hil,fA hil,bW (by omega)];dsimp only;rw[dT (show Cr a[i] b r from⟨h.1 _ (anD _),h.2.1,h.2.2.2.1,h.2.2.2.2⟩)];unfold oD;cases ro a[i] b (ae r)
  ·rfl
  ·exact hn
def ZP:Cn 26 [(.sl tCU),(.sl tCU),tR]:=cn fun(a b:List BCU) (r:BR)=>lf (t4 a b r) [.d aqt (ls a b (ae r))] fun h=>by
 exact cY AI (agC _ _ _ (afR a b r h a.length 0 (anF _)))
def Ut:List En:=enF ZP::AI
def XC:Cn 27 [(.sl tCU),(.sl tCU),tR]:=cn fun(a b:List BCU) (r:BR)=>lf (t4 a b r) [.d .bool (decide (ls a b (ae r)<0))] fun h=>jx [RV.d .bool (decide ((ls a b (ae r))<0))] (du Ut) h
instance (c:BCU):Decidable (gdN c):=by unfold gdN;infer_instance
def Df(c:BCU)(l:List BCU)(r:BR):Prop:=gdN c∧(∀x∈l,gdN x)∧l.length≤1000000∧ok Rat 1000 r
instance (c:BCU) (l:List BCU) (r:BR):Decidable (Df c l r):=by unfold Df;infer_instance
def Kq(a b:List BCU)(r:BR):Prop:=(∀x∈a,gdN x)∧(∀x∈b,gdN x)∧a.length≤1000000∧b.length≤1000000∧ok Rat 1000 r
instance (a b:List BCU) (r:BR):Decidable (Kq a b r):=by unfold Kq;infer_instance
def BO:List En:=[enT ae7]
def ac6:NT:=[((29,6),{keep:=[1,3,5,7],hl:=2})]
def MT:Ctx:=CX (ens BO) ac6
def CE(c:BCU)(l:List BCU)(r:BR)(s7:Int):Cfg:=⟨29,[.blk 0,.seq 23],[(1,.d (.sl tCU) l),(3,.box 0 0),(5,.box 1 0),(7,SI s7)],[.box 39 [SB c.1,SB c.2.1.1.1.1,.d aqs c.2.1.1.1.2,SB c.2.1.1.2.1,.d aqs c.2.1.1.2.2,SB c.2.1.2.1.1.1,.d aqs c.2.1.2.1.1.2,SB c.2.1.2.1.2.1,.d aqs c.2.1.2.1.2.2,SB c.2.1.2.2.1.1,.d aqs c.2.1.2.2.1.2,SB c.2.1.2.2.2.1,.d aqs c.2.1.2.2.2.2,SB c.2.2.1.1.1.1,.d aqs c.2.2.1.1.1.2,SB c.2.2.1.1.2.1,.d aqs c.2.2.1.1.2.2,SB c.2.2.1.2.1.1.1,.d aqs c.2.2.1.2.1.1.2,SB c.2.2.1.2.1.2.1,.d aqs c.2.2.1.2.1.2.2,SB c.2.2.1.2.2.1.1,.d aqs c.2.2.1.2.2.1.2,SB c.2.2.1.2.2.2.1,.d aqs c.2.2.1.2.2.2.2,SB c.2.2.2.1,SB c.2.2.2.2.1.1.1.1,.d aqs c.2.2.2.2.1.1.1.2,SB c.2.2.2.2.1.1.2.1,.d aqs c.2.2.2.2.1.1.2.2,SB c.2.2.2.2.1.2.1.1.1,.d aqs c.2.2.2.2.1.2.1.1.2,SB c.2.2.2.2.1.2.1.2.1,.d aqs c.2.2.2.2.1.2.1.2.2,SB c.2.2.2.2.1.2.2.1.1.1,.d aqs c.2.2.2.2.1.2.2.1.1.2,SB c.2.2.2.2.1.2.2.1.2.1,.d aqs c.2.2.2.2.1.2.2.1.2.2,SB c.2.2.2.2.1.2.2.2.1.1.1,.d aqs c.2.2.2.2.1.2.2.2.1.1.2,SB c.2.2.2.2.1.2.2.2.1.2.1,.d aqs c.2.2.2.2.1.2.2.2.1.2.2,SB c.2.2.2.2.1.2.2.2.2.1.1,.d aqs c.2.2.2.2.1.2.2.2.2.1.2,SB c.2.2.2.2.1.2.2.2.2.2.1,.d aqs c.2.2.2.2.1.2.2.2.2.2.2,SB c.2.2.2.2.2.1.1.1,.d aqs c.2.2.2.2.2.1.1.2,SB c.2.2.2.2.2.1.2.1,.d aqs c.2.2.2.2.2.1.2.2,SB c.2.2.2.2.2.2.1.1.1,.d aqs c.2.2.2.2.2.2.1.1.2,SB c.2.2.2.2.2.2.1.2.1,.d aqs c.2.2.2.2.2.2.1.2.2,SB c.2.2.2.2.2.2.2.1.1.1,.d aqs c.2.2.2.2.2.2.2.1.1.2,SB c.2.2.2.2.2.2.2.1.2.1,.d aqs c.2.2.2.2.2.2.2.1.2.2,SB c.2.2.2.2.2.2.2.2.1.1.1,.d aqs c.2.2.2.2.2.2.2.2.1.1.2,SB c.2.2.2.2.2.2.2.2.1.2.1,.d aqs c.2.2.2.2.2.2.2.2.1.2.2,SB c.2.2.2.2.2.2.2.2.2.1.1,.d aqs c.2.2.2.2.2.2.2.2.2.1.2,SB c.2.2.2.2.2.2.2.2.2.2.1,.d aqs c.2.2.2.2.2.2.2.2.2.2.2],.box 31 [SB r.1.1,.d aqs r.1.2,SB r.2.1,.d aqs r.2.2]],0,[]⟩
def ail(c:BCU)(l:List BCU)(r:BR)(k:KT):OLR:=k 6 (CE c l r 0)
theorem agx(c:BCU)(l:List BCU)(r:BR):RS MT 29 [.d tCU c,.d (.sl tCU) l,.d tR r] (ail c l r):=rsX
def wI(c:BCU)(l:List BCU)(r:BR)(s7:Int)(k:KT):OLR:=match decide (s7<(l.length:Int))with|true=>(match aU l s7 with|some x1=>(og (decide (gU c x1∧ok Rat 1000 r∧gdC c∧gdC x1)) (match decide ((NS c x1 (ae r))<0)with|true=>some [RV.d .bool false]|false=>k 6 (CE c l r (i64.wrap (s7+1)))))|none=>none)|false=>some [RV.d .bool true]
theorem DR(c:BCU)(l:List BCU)(r:BR)(s7:Int):RN MT 6 (CE c l r s7) (wI c l r s7):=rnX
theorem ajj(c:BCU)(l:List BCU)(r:BR)(h:Df c l r):∀(j i:Nat),i+j=l.length→MT.Runs 6 (CE c l r (i:Int)) [.d .bool (!((l.drop i).any (nrZ c (ae r))))]:=by
 obtain⟨hc,hl,hn,hr⟩:=h;intro j;induction j with
 |zero=>
  intro i hi;refine DR _ _ _ _ ⟨0,?_⟩;unfold wI;rw[cd (by omega),kB (by omega)];rfl
 |succ j ih=>
  intro i hi;have hil:i<l.length:=by omega
  obtain⟨n,hn⟩:=ih (i+1) (by omega);have g:=hl _ (anD hil);refine DR _ _ _ _ ⟨n,?_⟩;unfold wI;rw[bG hil,av,am6 hil,fA hil,apS,bW (by omega)];dsimp only;rw[dT (show gU c l[i]∧ok Rat 1000 r∧gdC c∧gdC l[i] from⟨⟨hc.1,g.1⟩,hr,hc.gd,g.gd⟩),←adE hc g];have e:nrZ c (ae r) l[i]=decide (kg c l[i] (ae r)<0):=rfl;rw[e];cases decide (kg c l[i] (ae r)<0)
  ·exact hn
  ·rfl
def Yv:Cn 29 [tCU,(.sl tCU),tR]:=cn fun(c:BCU) (l:List BCU) (r:BR)=>lf (Df c l r) [.d .bool (ro c l (ae r))] fun h=>by
 exact cY BO (agx _ _ _ (ajj c l r h l.length 0 (anF _)))
def Jm:List En:=enF Yv::BO
def acP:NT:=[((25,6),{keep:=[0,1,5,7],hl:=1})]
def Oq:Ctx:=CX (ens Jm) acP
def AK(a b:List BCU)(r:BR)(s7:Int):Cfg:=⟨25,[.blk 0,.seq 23],[(0,.d (.sl tCU) a),(1,.d (.sl tCU) b),(5,.box 0 0),(7,SI s7)],[.box 31 [SB r.1.1,.d aqs r.1.2,SB r.2.1,.d aqs r.2.2]],0,[]⟩
def ahL(a b:List BCU)(r:BR)(k:KT):OLR:=k 6 (AK a b r 0)
theorem agY(a b:List BCU)(r:BR):RS Oq 25 [.d (.sl tCU) a,.d (.sl tCU) b,.d tR r] (ahL a b r):=rsX
def wT(a b:List BCU)(r:BR)(s7:Int)(k:KT):OLR:=match decide (s7<(a.length:Int))with|true=>(match aU a s7 with|some x1=>(og (decide (Df x1 b r)) (match !(ro x1 b (ae r))with|true=>some [RV.d aqt s7]|false=>k 6 (AK a b r (i64.wrap (s7+1)))))|none=>none)|false=>some [RV.d aqt (-1)]
theorem ED(a b:List BCU)(r:BR)(s7:Int):RN Oq 6 (AK a b r s7) (wT a b r s7):=rnX
theorem ahp(a b:List BCU)(r:BR)(h:Kq a b r):∀(j i:Nat),i+j=a.length→Oq.Runs 6 (AK a b r (i:Int)) [.d aqt (oD (fun c=>!(ro c b (ae r))) (a.drop i) (i:Int))]:=by
 have hl:=h.2.2.1;intro j;induction j with
 |zero=>
  intro i hi;refine ED _ _ _ _ ⟨0,?_⟩;unfold wT;rw[cd (by omega),kB (by omega)];rfl
 |succ j ih=>
  intro i hi;have hil:i<a.length:=by omega
  obtain⟨n,hn⟩:=ih (i+1) (by omega);refine ED _ _ _ _ ⟨n,?_⟩;unfold wT;rw[bG hil,av,am6 hil,fA hil,bW (by omega)];dsimp only;rw[dT (show Df a[i] b r from⟨h.1 _ (anD _),h.2.1,h.2.2.2.1,h.2.2.2.2⟩)];unfold oD;cases ro a[i] b (ae r)
  ·rfl
  ·exact hn
def afg:Cn 25 [(.sl tCU),(.sl tCU),tR]:=cn fun(a b:List BCU) (r:BR)=>lf (Kq a b r) [.d aqt (ls a b (ae r))] fun h=>by
 exact cY Jm (agY _ _ _ (ahp a b r h a.length 0 (anF _)))
theorem JD{f:BCU→Bool}:∀{l:List BCU} {i:Int},0≤i→(oD f l i<0↔∀c∈l,f c=false)
 |[],i,_=>⟨fun _ _ h=>(by cases h),fun _=>by unfold oD;decide⟩
 |c::l,i,hi=>by
  unfold oD;cases h:f c
  ·rw[cond_false,JD (show 0≤i+1 by omega),List.forall_mem_cons];exact⟨fun g=>⟨h,g⟩,fun g=>g.2⟩
  ·rw[cond_true,List.forall_mem_cons,h];exact⟨fun g=>absurd g (by omega),fun g=>by cases g.1⟩
theorem IR{f:BCU→Bool}:∀{l:List BCU} {i:Int} {k:Nat} {c:BCU},oD f l i=i+(k:Int)→0≤i→l[k]?=some c→f c=true
 |[],_,_,_,_,_,h=>by cases h
 |x::l,i,k,c,e,hi,h=>by
  unfold oD at e;cases hx:f x<;>rw[hx]at e
  ·rw[cond_false]at e;cases k with
   |zero=>
    exfalso
    have:∀{l:List BCU} {j:Int},oD f l j= -1∨j≤oD f l j:=by
     intro l;induction l with
     |nil=>intro j;exact .inl rfl
     |cons y l ih=>
      intro j;unfold oD;cases f y
      ·rcases @ih (j+1)with g|g
       ·exact .inl g
       ·exact .inr (by rw[cond_false];omega)
      ·exact .inr (by rw[cond_true];omega)
    rcases @this l (i+1)with g|g<;>omega
   |succ k=>exact IR (l:=l) (i:=i+1) (k:=k) (by omega) (by omega) (by simpa using h)
  ·rw[cond_true]at e;have:k=0:=by omega
   subst this;simp only[anY,anf]at h;rw[←h];exact hx
section
namespace RE
theorem ak5(A B x y m:RE):B*(m*(B*x-A*y))=m*(B*B*x+A*(A*x)-A*(A*x+B*y)):=by grind
theorem alE(A B x y m:RE): -A*(m*(B*x-A*y))=m*(A*A*y+B*(B*y)-B*(A*x+B*y)):=by grind
theorem al5(A B x y a b:RE):A*(x-a)+B*(y-b)=(A*x+B*y)-(A*a+B*b):=by grind
theorem al8(A x m B:RE):m*(B*B*x+A*(A*x)-A*0)=m*(A*A+B*B)*x:=by grind
theorem als(A y m B:RE):m*(A*A*y+B*(B*y)-B*0)=m*(A*A+B*B)*y:=by grind
theorem amc(f g u v s p q:RE):(f+u*s-p)*(f+u*s-p)+(g+v*s-q)*(g+v*s-q)=((f-p)*(f-p)+(g-q)*(g-q))+((f-p)*u+(g-q)*v)*s+((f-p)*u+(g-q)*v)*s+(u*u+v*v)*(s*s):=by grind
theorem al6(a b:RE):(a-b)*(a+b)=a*a-b*b:=by grind
theorem aig(x f:RE):f+(x-f)=x:=by grind
theorem alH(s u f:RE):f+u* -s=f+ -u*s:=by grind
theorem al0(x y p q a b m n:RE):((1+1)*(p-a))*x+((1+1)*(q-b))*y=(((x-a)*(x-a)+(y-b)*(y-b))-m)-(((x-p)*(x-p)+(y-q)*(y-q))-n)+((p*p+q*q-n)-(a*a+b*b-m)):=by grind
theorem alz(m n a b:RE):(m-m)-(n-n)+(b-a)=b-a:=by grind
theorem amC(d k:RE):d+k-d=k:=by grind
theorem Ll(a b:RE):a- -b=a+b:=by grind
theorem vI{x y:RE}(h:x*y=0):x=0∨y=0:=by
 rcases lt_lin.tri x 0 with a|a|a
 ·rcases lt_lin.tri y 0 with b|b|b
  ·have e:=dA x y;rw[h,dg,gE a,gE b]at e;exact absurd e (by decide)
  ·exact .inr b
  ·have e:=dA x y;rw[h,dg,gE a,dB b]at e;exact absurd e (by decide)
 ·exact .inl a
 ·rcases lt_lin.tri y 0 with b|b|b
  ·have e:=dA x y;rw[h,dg,dB a,gE b]at e;exact absurd e (by decide)
  ·exact .inr b
  ·have e:=dA x y;rw[h,dg,dB a,dB b]at e;exact absurd e (by decide)
section
variable {l c:Ln}
theorem abB(hl:l.1≠0∨l.2.1≠0){v:PE}(h1:iK l v)(h2:gC c v):∃p∈kX l c,pR p=v:=by
 have hn:=oh hl;have t0:vlL l c.1 c.2.1/cr l*cr l=vlL l c.1 c.2.1:=anv hn
 have e1:l.1*ftX l c+l.2.1*ftY l c=l.2.2:=by
  unfold ftX ftY;generalize vlL l c.1 c.2.1/cr l=s at*
  unfold cr vlL at t0;grind
 have e3:(ftX l c-c.1)*l.2.1+(ftY l c-c.2.1)* -l.1=0:=by
  unfold ftX ftY;grind
 have k0:eh l c*cr l=c.2.2-wO l c:=anv hn
 have hz:of l.1*(v.1-of (ftX l c))+of l.2.1*(v.2-of (ftY l c))=0:=by
  unfold iK at h1;rw[al5,h1,←aG,←aG,←of_add,e1,sub_self]
 have hm:of (cr l)⁻¹*(of l.1*of l.1+of l.2.1*of l.2.1)=1:=by
  rw[←aG,←aG,←of_add,←aG,←CH];exact congrArg of (Rat.inv_mul_cancel _ hn)
 obtain⟨t,ht⟩:∃t,t=of (cr l)⁻¹*(of l.2.1*(v.1-of (ftX l c))-of l.1*(v.2-of (ftY l c))):=⟨_,rfl⟩
 have w1:of l.2.1*t=v.1-of (ftX l c):=by rw[ht,ak5,hz,al8,hm,one_mul]
 have w2: -of l.1*t=v.2-of (ftY l c):=by rw[ht,alE,hz,als,hm,one_mul]
 have v1:v.1=of (ftX l c)+of l.2.1*t:=by rw[w1,aig]
 have v2':v.2=of (ftY l c)+of (-l.1)*t:=by rw[of_neg,w2,aig]
 have hq:of (cr l)*(t*t)=of (eh l c*cr l):=by
  have h2':=h2;unfold gC frm at h2';dsimp only at h2';rw[v1,v2',amc,←of_sub,←of_sub,←aG,←aG,←aG,←aG,←aG,←aG,←of_add,←of_add,←of_add,e3,nj,zero_mul,add_zero,add_zero,show l.2.1*l.2.1+ -l.1* -l.1=cr l by unfold cr;grind]at h2';have e4:(ftX l c-c.1)*(ftX l c-c.1)+(ftY l c-c.2.1)*(ftY l c-c.2.1)=wO l c:=rfl;rw[e4]at h2';rw[k0,of_sub,←h2'];rw[amC]
 have tt:t*t=of (eh l c):=uS hn (by rw[hq,←aG,ao0])
 have kn:0≤eh l c:=by
  rcases(by grind:0≤eh l c∨eh l c<0)with h|h
  ·exact h
  ·have:=ib h;rw[←tt]at this;exact absurd this (fo t)
 have dd:(qR l=l.2.1∧qZ l= -l.1)∨(qR l= -l.2.1∧qZ l=l.1):=by
  unfold qR qZ;cases Gw l
  ·exact .inl ⟨rfl,rfl⟩
  ·exact .inr ⟨rfl,apN _⟩
 have hv:t=rq (eh l c)∨t= -rq (eh l c):=by
  have hs:=cQ kn;have:(t-rq (eh l c))*(t+rq (eh l c))=0:=by rw[al6,tt,hs,sub_self]
  rcases vI this with h|h
  ·exact .inl (fZ _ _ h)
  ·refine .inr (fZ _ _ ?_);rw[←h,Ll]
 unfold kX;rw[dF (show ¬eh l c<0 by grind)];by_cases hk0:eh l c=0
 ·rw[dT hk0];refine⟨atP (ftL l c),by simp,?_⟩
  have t00:t=0:=by
   rw[hk0,nj]at tt;rcases vI tt with h|h<;>exact h
  rw[oA];refine aoq ?_ ?_
  ·rw[v1,t00,mul_zero,add_zero];rfl
  ·rw[v2',t00,mul_zero,add_zero];rfl
 ·rw[dF hk0]
  have neg2:∀f u:Rat,v2 f (-u) (eh l c)=of f+of u* -rq (eh l c):=fun f u=>by
   unfold v2;rw[of_neg,alH]
  rcases dd with⟨g1,g2⟩|⟨g1,g2⟩<;>rcases hv with ht'|ht'
  ·refine⟨lcN l c,by simp,?_⟩;unfold lcN;rw[pP,g1,g2];exact aoq (by rw[v1,ht'];rfl) (by rw[v2',ht'];rfl)
  ·refine⟨lcM l c,by simp,?_⟩;unfold lcM;rw[pP,g1,g2,neg2,neg2];exact aoq (by rw[v1,ht']) (by rw[v2',ht'])
  ·refine⟨lcM l c,by simp,?_⟩;unfold lcM;rw[pP,g1,g2,apN];exact aoq (by rw[v1,ht'];rfl) (by rw[v2',ht'];rfl)
  ·refine⟨lcN l c,by simp,?_⟩;unfold lcN;rw[pP,g1,g2];refine aoq ?_ ?_
   ·show v2 _ (-l.2.1) _=_;rw[neg2,v1,ht']
   ·show v2 _ l.1 _=_;rw[v2',ht',show l.1= -(-l.1) from(apN _).symm,neg2,apN]
end
theorem ad3{c d:Ln}{v:PE}(hc:gC c v)(hd:gC d v):iK (ng c d) v:=by
 have o2:of 2=1+1:=by
  rw[←CH,←of_add];exact congrArg of (by decide+kernel)
 unfold gC frm at hc hd;unfold iK ng qU;dsimp only at*
 simp only[of_sub,aG,of_add,o2];rw[al0 v.1 v.2 (of d.1) (of d.2.1) (of c.1) (of c.2.1) (of c.2.2) (of d.2.2),hc,hd,alz]
end RE
end
section
open RE
theorem I5(c d:Ln):gY d c=gY c d:=by
 unfold gY;have e1:decide (d.1=c.1)=decide (c.1=d.1):=anI.2 eq_comm;have e2:decide (d.2.1=c.2.1)=decide (c.2.1=d.2.1):=anI.2 eq_comm;rw[e1,e2]
theorem S9{l m:Ln}{p:Pt}(hp:p∈m6 l m):p∈m6 m l:=by
 unfold m6 at*
 have ec:eg m l= -eg l m:=by unfold eg;grind
 by_cases h0:eg l m=0
 ·rw[dT h0]at hp;cases hp
 ·have h1:¬eg m l=0:=by rw[ec];grind
  rw[dF h0]at hp;rw[dF h1];have:p=atP (mj l m/eg l m,mt l m/eg l m):=by simpa using hp
  rw[this]
  have dv:∀a b:Rat,b≠0→ -a/ -b=a/b:=fun a b hb=>by
   have h1: -a/ -b* -b= -a:=anv (by grind);have h2:a/b*b=a:=anv hb;generalize-a/ -b=x at*
   generalize a/b=y at*
   have:(x-y)*b=0:=by grind
   rcases apk.1 this with h|h
   ·grind
   ·exact absurd h hb
  have ex:mj m l= -mj l m:=by unfold mj;grind
  have ey:mt m l= -mt l m:=by unfold mt;grind
  rw[ec,ex,ey,dv _ _ h0,dv _ _ h0];simp
theorem Lk{c d:BCU}(hc:t3 c)(hd:t3 d){p:Pt}(hp:p∈gr (dC c) (dC d)):∃q∈gr (dC d) (dC c),pR q=pR p:=by
 obtain⟨c1,c2⟩:=jU hc;obtain⟨d1,d2⟩:=jU hd;have ec:(dC c).1=c.1:=rfl;have ed:(dC d).1=d.1:=rfl;unfold gr at*
 rw[ec,ed]at hp ⊢;cases ha:c.1<;>cases hb:d.1<;>rw[ha,hb]at hp
 ·have hp:p∈m6 (lnC (dC c)) (lnC (dC d)):=hp;exact⟨p,S9 hp,rfl⟩
 ·exact⟨p,hp,rfl⟩
 ·exact⟨p,hp,rfl⟩
 ·have i1:=(c1 ha).1;have i2:=(d1 hb).1;have hp:p∈rR (ciC (dC c)) (ciC (dC d)):=hp;show ∃q∈rR (ciC (dC d)) (ciC (dC c)),_;unfold rR at*
  rw[I5];cases hq:gY (ciC (dC c)) (ciC (dC d))<;>rw[hq]at hp
  ·obtain⟨o1,o2⟩:=II (uy hq) hp;have o3:=Lq o1 o2;exact abB (uy (by rw[I5];exact hq)) (ad3 o3 o2) o3
  ·cases hp
theorem Rl{c d:BCU}(hc:gdN c)(hd:gdN d){x:BP}(hx:x∈iO c d)(o1:onR (dC c) (dec x)=true)(o2:onR (dC d) (dec x)=true):∃y∈fq c d,aX (dec y) (dec x)=0:=by
 obtain⟨_,p2⟩:=AD hc.crp hc.ne (Gf hc hd);have r:=((qC hc hd).2 x hx).2.1.1;exact p2 x (ao7.2 ⟨hx,BY hc hd r o1 o2⟩)
theorem R5{c d:BCU}(hc:gdN c)(hd:gdN d){a:BP}(ha:a∈fq c d):∃b∈fq d c,aX (dec a) (dec b)=0:=by
 obtain⟨hm,_,s1,s2,o1,o2⟩:=pg hc hd ha;have ra:=s1.1
 have key:∃z∈iO d c,aX (dec z) (dec a)=0:=by
  unfold iO at hm;unfold iO;cases hs:cX (dC c) (dC d)
  ·have hs':cX (dC d) (dC c)=false:=by
    cases h:cX (dC d) (dC c)with
    |false=>rfl
    |true=>rw[Bu h]at hs;cases hs
   rw[hs]at hm;rw[hs'];obtain⟨p,hp,e⟩:=an8.1 hm;obtain⟨q,hq,e2⟩:=Lk hc.1.2 hd.1.2 hp;obtain⟨_,rq,_⟩:=supM_on hd.1.2 hc.1.2 hq;refine⟨enc q,an8.2 ⟨q,hq,rfl⟩,?_⟩;have:Rpd (dec (enc q):Pt):=by rw[az];exact rq
   refine cmpP_0.2 ?_;rw[az,e2,←e,az]
  ·rw[hs]at hm;rw[Bu hs];refine⟨a,?_,afD ra⟩;have:a=c.2.2.2.2.1∨a=c.2.2.2.2.2∨a=d.2.2.2.2.1∨a=d.2.2.2.2.2:=by simpa using hm
   rcases this with e|e|e|e<;>simp[e]
 obtain⟨z,hz,ez⟩:=key;have rz:=((qC hd hc).2 z hz).2.1.1;obtain⟨y,hy,ey⟩:=Rl hd hc hz (by rw[qg hd.crp rz ra ez];exact o2) (by rw[qg hc.crp rz ra ez];exact o1);have ry:=(Uv hd hc hy).1.1;exact⟨y,hy,Fc (SH ey ez)⟩
end
namespace RE
theorem Mn.zero{S:PE→Prop}{v:PE}{m:RE}(h:Mn S v m):m=0↔S v:=by
 obtain⟨⟨p,hp,e⟩,hl⟩:=h;constructor
 ·intro h0;rw[h0]at e;obtain⟨a,b⟩:=tF e;have:p=v:=aoq (fZ _ _ a) (fZ _ _ b);rw[←this];exact hp
 ·intro hv;have h1:=hl v hv
  have h2:dsE v v=0:=by
   unfold dsE;rw[sub_self,sub_self,mul_zero,add_zero]
  rw[h2]at h1;refine le_antisymm h1 ?_;rw[←e];exact Gn _ _ (fo _) (fo _)
theorem Aq{x y:Rt}(hx:Rdd x)(hy:Rdd y)(h:vR x=vR y):(aW x y==0)=true:=by
 rw[cmpT_re hx.nn hy.nn,h,sub_self,dg];rfl
end RE
section
open RE
theorem aem{c d c' d':BCU}(hc:gdN c)(hd:gdN d)(hc':gdN c')(hd':gdN d')(h:fq c d=[]↔fq c' d'=[]):(decide (((fq c d).length:Int)>0)||oO c d)=(decide (((fq c' d').length:Int)>0)||oO c' d'):=by
 by_cases e:fq c d=[]
 ·have e':=h.1 e;rw[AR hc hd e,AR hc' hd' e',e,e']
 ·have l:=anE.2 e;have l':=anE.2 fun q=>e (h.2 q);rw[dT (show((fq c d).length:Int)>0 by omega),dT (show((fq c' d').length:Int)>0 by omega),aqk,aqk]
theorem acL{l:List BP}{P:Prop}(h:∀a∈l,P)(n:¬P):l=[]:=by
 cases l with
 |nil=>rfl
 |cons a r=>exact absurd (h a List.mem_cons_self) n
theorem DF{c d:BCU}(hc:gdN c)(hd:gdN d)(e:fq c d=[]):fq d c=[]:=
 acL (fun _ ha=>(R5 hd hc ha).imp fun _ h=>h.1) fun⟨b,hb⟩=>by rw[e]at hb;cases hb
theorem aeP{c d:BCU}(hc:gdN c)(hd:gdN d):fq c d=[]↔fq d c=[]:=⟨DF hc hd,DF hd hc⟩
theorem Td(c d:Cv)(r:Rat):lz d c r=lz c d r:=by unfold lz;omega
theorem VU{d p q r:Rat}(hd:0≤d)(hp:0≤p)(hq:0≤q)(hr:0≤r):io d q p r=io d p q r:=by
 rw[r8 hd hq hp hr,r8 hd hp hq hr];exact congrArg sg (by grind)
theorem Us{x y z r:Rat}(hx:0≤x)(hy:0≤y)(hz:0≤z)(hr:0≤r):rE y x z r=rE x y z r:=by
 rw[Fk hy hx hz hr,Fk hx hy hz hr];exact congrArg sg (by grind)
theorem T1{c d:Cv}(hp:0≤(ciC c).2.2)(hq:0≤(ciC d).2.2){r:Rat}(hr:0≤r):yG d c r=yG c d r:=by
 have w:wyv d c=bkV (wyv c d):=aoq (by unfold wyv bkV bh;grind) (by unfold wyv bkV bh;grind);have b:bkV (bkV (wyv c d))=wyv c d:=aoq (apN _) (apN _)
 have n:nD d c=nD c d:=by
  unfold nD;rw[w];unfold aY bkV;grind
 have n0:0≤nD c d:=jc _;unfold yG nT fT;rw[n,w,b,VU n0 hp hq hr,Us hp hq n0 hr,Bool.and_comm (cf d (bkV (wyv c d))) (cf c (wyv c d)),Bool.and_comm (cf d (bkV (wyv c d))) (cf c (bkV (wyv c d))),Bool.and_comm (cf d (wyv c d)) (cf c (wyv c d))];cases decide (nD c d=0)
 ·simp only[cond_false];omega
 ·rfl
theorem gdN.cn{c:BCU}(h:gdN c)(e:c.1=true):0≤(ciC (dC c)).2.2:=by
 have:=h.crp.q e;grind
theorem Tx{c d:BCU}(hc:gdN c)(hd:gdN d){r:Rat}(hr:0≤r):oH (dC d) (dC c) r=oH (dC c) (dC d) r:=by
 unfold oH;have e1:(dC c).1=c.1:=rfl;have e2:(dC d).1=d.1:=rfl;rw[e1,e2,Td];cases hx:c.1<;>cases hy:d.1
 ·rfl
 ·rfl
 ·rfl
 ·show min _ (yG (dC d) (dC c) r)=min _ (yG (dC c) (dC d) r);rw[T1 (hc.cn hx) (hd.cn hy) hr]
theorem acv{c d c' d':BCU}(hc:gdN c)(hd:gdN d)(hc':gdN c')(hd':gdN d')(h:fq c d=[]↔fq c' d'=[])(r:Rat)(ho:0≤r→oH (dC c) (dC d) r=oH (dC c') (dC d') r):kg c d r=kg c' d' r:=by
 unfold kg Hz;rw[aem hc hd hc' hd' h];by_cases hr:r<0
 ·rw[dT hr];rfl
 ·rw[dF hr,ho (by grind)]
theorem IY{c d:BCU}(hc:gdN c)(hd:gdN d)(r:Rat):kg d c r=kg c d r:=acv hd hc hc hd (aeP hd hc) r (Tx hc hd)
end
end Go.Proofs.YtnkndpoojnflmaaGreat
end
