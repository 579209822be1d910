/- The distance of any point: the reference's Point, Move; points of places. -/
import Derived.Test.YtlahabkjhgkkjaaGreatX16
import Derived.Test.YtlahabkjhgkkjaaGreatX19
import Derived.Test.YtlahabkjhgkkjaaGreatX17
import Derived.Test.YtlahabkjhgkkjaaGreatX18
import Derived.Test.YtlahabkjhgkkjaaGreatX6
import Derived.Stop.Joined
noncomputable section
namespace Go.Proofs.YtlahabkjhgkkjaaGreat
open Go.RowKit Go.IntKind
section
def rwX(p:Pt)(v:Rat×Rat):Rt:=(p.1-v.1,p.2.1,p.2.2.2.2)
def rwY(p:Pt)(v:Rat×Rat):Rt:=(p.2.2.1-v.2,p.2.2.2.1,p.2.2.2.2)
def tiQ(x y:Rt):Qd:=(x.1*y.1,x.2.1*y.1,x.1*y.2.1,x.2.1*y.2.1,x.2.2,y.2.2)
def plQ(p q:Qd):Qd:=(p.1+q.1,p.2.1+q.2.1,p.2.2.1+q.2.2.1,p.2.2.2.1+q.2.2.2.1,p.2.2.2.2.1,p.2.2.2.2.2)
def miQ(p:Qd):Qd:=(-p.1,-p.2.1,-p.2.2.1,-p.2.2.2.1,p.2.2.2.2.1,p.2.2.2.2.2)
def alR(d:Rat×Rat)(p:Pt):Rt:=mkR (d.1*p.1+d.2*p.2.2.1) (d.1*p.2.1+d.2*p.2.2.2.1) p.2.2.2.2
def jP(l:Ln):Rat×Rat:=(l.2.1,-l.1)
def lC(c:Cv):Rat×Rat:=bif decide (bG (alR (jP (lnC c)) (toC c)) (alR (jP (lnC c)) (frC c))<0)then bkV (jP (lnC c))else jP (lnC c)
abbrev Plc:=Int×Int×Int×Int×Int×Int
abbrev td:Ty:=.st (.pair (.int .i16) (.pair (.int .i16) (.pair (.int .i16) (.pair (.int .i16) (.pair (.int .u16) (.int .u8))))))
def Em(n:Int):Prop:= -32768≤n∧n≤32767
instance (n:Int):Decidable (Em n):=by unfold Em;infer_instance
def Ey(x:Plc):Prop:=Em x.1∧Em x.2.1∧Em x.2.2.1∧Em x.2.2.2.1∧(0≤x.2.2.2.2.1∧x.2.2.2.2.1≤65535)∧u8P x.2.2.2.2.2
instance (x:Plc):Decidable (Ey x):=by unfold Ey;infer_instance
def Yg(a b c d:Int):Rt:=mkR (Rat.divInt a (d+1)) (Rat.divInt b (d+1)) (c:Rat)
def dU(x:Plc):Pt:=mkP (Yg x.1 x.2.1 x.2.2.2.2.1 x.2.2.2.2.2) (Yg x.2.2.1 x.2.2.2.1 x.2.2.2.2.1 x.2.2.2.2.2)
def mvB(c:BCU)(v:Rat×Rat):BCU:=(c.1,bif c.1 then c.2.1 else enc (RE.mvLn (dec c.2.1) v),bif c.1 then enc (RE.mvCi (dec c.2.2.1) v)else c.2.2.1,c.2.2.2.1,enc (trP (dec c.2.2.2.2.1) v),enc (trP (dec c.2.2.2.2.2) v))
namespace RE
theorem aah(a b c d m n:RE):a*c+b*c*m+a*d*n+b*d*(m*n)=(a+b*m)*(c+d*n):=by
 induction a using at5
 induction b using at5
 induction c using at5
 induction d using at5
 induction m using at5
 induction n using at5
 exact snd fun n=>by
  simp only[RL.add,RL.mul]
  grind
theorem YC(A B C D E F G H m n:RE):A+E+(B+F)*m+(C+G)*n+(D+H)*(m*n)=A+B*m+C*n+D*(m*n)+(E+F*m+G*n+H*(m*n)):=by
 induction A using at5
 induction B using at5
 induction C using at5
 induction D using at5
 induction E using at5
 induction F using at5
 induction G using at5
 induction H using at5
 induction m using at5
 induction n using at5
 exact snd fun n=>by
  simp only[RL.add,RL.mul]
  grind
theorem acK(A B C D m n:RE): -A+ -B*m+ -C*n+ -D*(m*n)= -(A+B*m+C*n+D*(m*n)):=by
 induction A using at5
 induction B using at5
 induction C using at5
 induction D using at5
 induction m using at5
 induction n using at5
 exact snd fun n=>by
  simp only[RL.add,RL.mul,RL.neg]
  grind
theorem X2(u w x y z t m:RE):u*x+w*y+(u*z+w*t)*m=u*(x+z*m)+w*(y+t*m):=by
 induction u using at5
 induction w using at5
 induction x using at5
 induction y using at5
 induction z using at5
 induction t using at5
 induction m using at5
 exact snd fun n=>by
  simp only[RL.add,RL.mul]
  grind
theorem alD(x y u w:RE): -((x-0)*(u-0)+(y-0)*(w-0)+((x-0)*(u-0)+(y-0)*(w-0)))+((x-0)*(x-0)+(y-0)*(y-0))+((u-0)*(u-0)+(w-0)*(w-0))=(x-u)*(x-u)+(y-w)*(y-w):=by
 induction x using at5
 induction y using at5
 induction u using at5
 induction w using at5
 exact snd fun n=>by
  simp only[RL.add,RL.mul,RL.neg,RL.const]
  grind
theorem TR(A B C D m n a b c d r:RE):A+a+c-r+(B+b)*m+(C+d)*n+D*(m*n)=A+B*m+C*n+D*(m*n)+(a+b*m)+(c+d*n)-r:=by
 induction A using at5
 induction B using at5
 induction C using at5
 induction D using at5
 induction m using at5
 induction n using at5
 induction a using at5
 induction b using at5
 induction c using at5
 induction d using at5
 induction r using at5
 exact snd fun n=>by
  simp only[RL.add,RL.mul,RL.neg]
  grind
theorem Kb(x y:Rt):vq (tiQ x y)=vR x*vR y:=by
 unfold vq vQ tiQ vR v2
 dsimp only
 simp only[bJ]
 exact aah _ _ _ _ _ _
theorem WD(p q:Qd)(h:q.2.2.2.2=p.2.2.2.2):vq (plQ p q)=vq p+vq q:=by
 unfold vq vQ plQ
 dsimp only
 rw[h]
 simp only[of_add]
 exact YC _ _ _ _ _ _ _ _ _ _
theorem aeJ(p:Qd):vq (miQ p)= -vq p:=by
 unfold vq vQ miQ
 dsimp only
 simp only[of_neg]
 exact acK _ _ _ _ _ _
theorem zP(p:Pt)(v:Rat×Rat):vR (rwX p v)=(sbE v (pR p)).1:=by
 unfold rwX sbE pR pX vR v2
 dsimp only
 rw[of_sub,AN]
theorem A4(p:Pt)(v:Rat×Rat):vR (rwY p v)=(sbE v (pR p)).2:=by
 unfold rwY sbE pR pY vR v2
 dsimp only
 rw[of_sub,AN]
def crR(v:Rat×Rat)(p q:Pt):Qd:=plQ (tiQ (rwX p v) (rwY q v)) (miQ (tiQ (rwY p v) (rwX q v)))
theorem crR_re(v:Rat×Rat){p q:Pt}[hp:Rpd p][hq:Rpd q]:sgQ (crR v p q)=turS v (pR p) (pR q):=by
 rw[BG (q:=crR v p q) (show 0≤p.2.2.2.2 from hp.nn) (show 0≤q.2.2.2.2 from hq.nn)]
 unfold crR
 rw[WD (tiQ (rwX p v) (rwY q v)) (miQ (tiQ (rwY p v) (rwX q v))) rfl,aeJ,Kb,Kb,zP,zP,A4,A4]
 rfl
def doR(p q:Pt):Qd:=plQ (tiQ (rwX p z2) (rwX q z2)) (tiQ (rwY p z2) (rwY q z2))
def apR0(p q:Pt):Qd:=miQ (plQ (doR p q) (doR p q))
def apR(p q:Pt)(r:Rat):Qd:=((apR0 p q).1+(sqP p z2).1+(sqP q z2).1-r*r,(apR0 p q).2.1+(sqP p z2).2.1,(apR0 p q).2.2.1+(sqP q z2).2.1,(apR0 p q).2.2.2.1,p.2.2.2.2,q.2.2.2.2)
theorem afD{p:Pt}(h:Rpd p):of (sqP p z2).1+of (sqP p z2).2.1*rq p.2.2.2.2=(pX p-0)*(pX p-0)+(pY p-0)*(pY p-0):=by
 have e:of (sqP p z2).1+of (sqP p z2).2.1*rq p.2.2.2.2=vR (sqP p z2):=by
  show of (coR (sqA p z2) (sqB p z2) p.2.2.2.2).1+of (coR (sqA p z2) (sqB p z2) p.2.2.2.2).2.1*rq p.2.2.2.2=vR (coR (sqA p z2) (sqB p z2) p.2.2.2.2)
  unfold coR
  by_cases e:sqB p z2=0
  ·rw[at7 e]
   show of _+of 0*_=v2 _ 0 0
   unfold v2
   rw[show of 0=0 from rfl,zero_mul,zero_mul]
  ·rw[at9 e]
   rfl
 rw[e,B5]
 rfl
theorem apR_re{p q:Pt}[hp:Rpd p][hq:Rpd q](r:Rat):sgQ (apR p q r)=apaS (pR p) (pR q) r:=by
 rw[BG (q:=apR p q r) (show 0≤p.2.2.2.2 from hp.nn) (show 0≤q.2.2.2.2 from hq.nn)]
 have e1:vq (apR0 p q)= -((pX p-0)*(pX q-0)+(pY p-0)*(pY q-0)+((pX p-0)*(pX q-0)+(pY p-0)*(pY q-0))):=by
  unfold apR0
  rw[aeJ,WD _ _ rfl]
  unfold doR
  rw[WD (tiQ (rwX p z2) (rwX q z2)) (tiQ (rwY p z2) (rwY q z2)) rfl,Kb,Kb,zP,zP,A4,A4]
  rfl
 have e3:vq (apR p q r)=vq (apR0 p q)+(of (sqP p z2).1+of (sqP p z2).2.1*rq p.2.2.2.2)+(of (sqP q z2).1+of (sqP q z2).2.1*rq q.2.2.2.2)-of (r*r):=by
  unfold vq vQ apR
  dsimp only
  rw[of_sub,of_add,of_add,of_add,of_add]
  exact TR _ _ _ _ _ _ _ _ _ _ _
 rw[e3,e1,afD hp,afD hq,alD]
 rfl
theorem agd(d:Rat×Rat)(p:Pt):vR (alR d p)=of d.1*(pR p).1+of d.2*(pR p).2:=by
 unfold alR
 rw[vR_mk]
 unfold v2 pR pX pY v2
 dsimp only
 simp only[of_add,bJ]
 exact X2 _ _ _ _ _ _ _
end RE
instance as3 {p:Pt} {v:Rat×Rat} {j k:Nat} [h:Bd p j] [h':Bd v k]:Bd (rwX p v) (j+k+1):=by
 have i:Bd ((p.1-v.1,p.2.1,p.2.2.2.2):Rt) _:=inferInstance
 exact i.mono (cM (by omega) (cM (by omega) (by omega)))
instance asZ {p:Pt} {v:Rat×Rat} {j k:Nat} [h:Bd p j] [h':Bd v k]:Bd (rwY p v) (j+k+1):=by
 have i:Bd ((p.2.2.1-v.2,p.2.2.2.1,p.2.2.2.2):Rt) _:=inferInstance
 exact i.mono (cM (by omega) (cM (by omega) (by omega)))
instance atv {x y:Rt} {i j:Nat} [h:Bd x i] [h':Bd y j]:Bd (tiQ x y) (i+j):=by
 have t:Bd ((x.1*y.1,x.2.1*y.1,x.1*y.2.1,x.2.1*y.2.1,x.2.2,y.2.2):Qd) _:=inferInstance
 exact t.mono (cM (by omega) (cM (by omega) (cM (by omega) (cM (by omega) (cM (by omega) (by omega))))))
instance atr {p q:Qd} {i j:Nat} [h:Bd p i] [h':Bd q j]:Bd (plQ p q) (i+j+1):=by
 have t:Bd ((p.1+q.1,p.2.1+q.2.1,p.2.2.1+q.2.2.1,p.2.2.2.1+q.2.2.2.1,p.2.2.2.2.1,p.2.2.2.2.2):Qd) _:=inferInstance
 exact t.mono (cM (by omega) (cM (by omega) (cM (by omega) (cM (by omega) (cM (by omega) (by omega))))))
instance atc {p:Qd} {i:Nat} [h:Bd p i]:Bd (miQ p) i:=by
 have t:Bd ((-p.1,-p.2.1,-p.2.2.1,-p.2.2.2.1,p.2.2.2.2.1,p.2.2.2.2.2):Qd) _:=inferInstance
 exact t.mono (cM (by omega) (cM (by omega) (cM (by omega) (cM (by omega) (cM (by omega) (by omega))))))
instance tc {d:Rat×Rat} {p:Pt} [h:Rpd p]:Rdd (alR d p):=by
 have:Nn p.2.2.2.2:=inferInstance
 exact mR
instance atM {d:Rat×Rat} {p:Pt} {i j:Nat} [h:Bd d i] [h':Bd p j]:Bd (alR d p) (4*i+5*j+3):=by
 have a:Bd (d.1*p.1+d.2*p.2.2.1) _:=inferInstance
 have b:Bd (d.1*p.2.1+d.2*p.2.2.2.1) _:=inferInstance
 exact(inferInstance:Bd (mkR (d.1*p.1+d.2*p.2.2.1) (d.1*p.2.1+d.2*p.2.2.2.1) p.2.2.2.2) _).mono (by omega)
instance ZT {l:Ln} {i:Nat} [h:Bd l i]:Bd (jP l) i:=by
 have t:Bd ((l.2.1,-l.1):Rat×Rat) _:=inferInstance
 exact t.mono (cM (by omega) (by omega))
instance ahk {v:Rat×Rat} {i:Nat} [h:Bd v i]:Bd (bkV v) i:=by
 have t:Bd ((-v.1,-v.2):Rat×Rat) _:=inferInstance
 exact t.mono (cM (by omega) (by omega))
instance ass {ar:Bool} {li:Ln} {ci:Ln} {cw:Bool} {fr to:Pt} {i:Nat} [h:Bd li i]:Bd (lC (ar,li,ci,cw,fr,to)) i:=by
 unfold lC
 show Bd (bif decide (bG (alR (jP li) to) (alR (jP li) fr)<0)then bkV (jP li)else jP li) i
 cases decide (bG (alR (jP li) to) (alR (jP li) fr)<0)
 ·exact(inferInstance:Bd (jP li) i)
 ·exact ahk (h:=ZT (h:=h))
theorem zg(r:Rt):fZ r r=r.2.2:=by
 unfold fZ
 cases decide (r.2.1=0)<;>rfl
instance acE {r:Rt} [h:Rdd r]:Rdd (gC r r):=by
 refine⟨?_⟩
 unfold gC jh
 rw[zg]
 by_cases e:r.1*r.2.1+r.2.1*r.1=0
 ·rw[at7 e];exact .inl ⟨rfl,rfl⟩
 ·rw[at9 e,cond_false]
  rcases h.rd with⟨h1,_⟩|⟨_,h1,h2⟩
  ·exfalso;rw[h1]at e;grind
  ·rw[at9 (show r.2.2≠0 by grind)]
   exact .inr ⟨e,h1,h2⟩
theorem aky{p q:Pt}{r:Rat}[bp:Bd p 580][bq:Bd q 160][br:Bd r 1000](hp:0≤p.2.2.2.2)(hq:0≤q.2.2.2.2):decide (okQ (enc (RE.apR p q r)))=true:=by
 have n1:Nn p.2.2.2.2:=⟨hp⟩
 have n2:Nn q.2.2.2.2:=⟨hq⟩
 have bD:Bd (RE.apR0 p q) 3000:=(inferInstance:Bd (miQ (plQ (plQ (tiQ (rwX p z2) (rwX q z2)) (tiQ (rwY p z2) (rwY q z2))) (plQ (tiQ (rwX p z2) (rwX q z2)) (tiQ (rwY p z2) (rwY q z2))))) _).mono (by decide)
 have bA:Bd ((RE.apR0 p q).1+(sqP p z2).1+(sqP q z2).1-r*r) _:=inferInstance
 have bB:Bd ((RE.apR0 p q).2.1+(sqP p z2).2.1) _:=inferInstance
 have bC:Bd ((RE.apR0 p q).2.2.1+(sqP q z2).2.1) _:=inferInstance
 have bE:Bd (RE.apR0 p q).2.2.2.1 3000:=inferInstance
 exact EI (h1:=bA) (h2:=bB) (h3:=bC) (h4:=bE) (by decide) (by decide) (by decide) (by decide) (by decide) (by decide)
namespace RE
theorem wit_gr(a b c:Int):(match decide (a>0)with|true=>(match decide (b≥0)with|true=>some [RV.d .bool (decide (c≥0))]|false=>some [RV.d .bool false])|false=>(match a==0 with|true=>(match decide (b≥0)with|true=>some [RV.d .bool (decide (c≥0))]|false=>some [RV.d .bool false])|false=>(match decide (-c>0)with|true=>some [RV.d .bool (!(decide (-b>0)))]|false=>some [RV.d .bool (!false)])))=some [RV.d .bool (GW a b c)]:=by
 have h1:decide (-c>0)=!decide (0≤c):=by rw[←axb];exact auE.2 (by omega)
 have h2:decide (-b>0)=!decide (0≤b):=by rw[←axb];exact auE.2 (by omega)
 have h3:decide (c<0)=!decide (0≤c):=by rw[←axb];exact auE.2 (by omega)
 have h4:decide (b<0)=!decide (0≤b):=by rw[←axb];exact auE.2 (by omega)
 have h5:decide (0≤a)=(decide (a>0)||(a==0)):=by
  by_cases g:0≤a
  ·rw[at7 g]
   by_cases k:a=0
   ·rw[k];rfl
   ·rw[at7 (show a>0 by omega)];rfl
  ·rw[at9 g,at9 (show ¬a>0 by omega),awO.2 (show a≠0 by omega)];rfl
 unfold GW
 simp only[h1,h2,h3,h4,h5,ge_iff_le]
 cases decide (a>0)<;>cases a==0<;>cases decide (0≤b)<;>cases decide (0≤c)<;>rfl
theorem aqj(a b m:RE):a*a+b*b*(m*m)+(a*b+b*a)*m=(a+b*m)*(a+b*m):=by
 induction a using at5
 induction b using at5
 induction m using at5
 exact snd fun n=>by
  simp only[RL.add,RL.mul]
  grind
theorem atz(a b x y:RE):b*x+ -a*y= -(-b*x+a*y):=by
 induction a using at5
 induction b using at5
 induction x using at5
 induction y using at5
 exact snd fun n=>by
  simp only[RL.add,RL.mul,RL.neg]
  grind
theorem apz(a b x y:RE): -b*x+ - -a*y= -b*x+a*y:=by
 induction a using at5
 induction b using at5
 induction x using at5
 induction y using at5
 exact snd fun n=>by
  simp only[RL.add,RL.mul,RL.neg]
  grind
theorem KW(x y:RE):((-y-(-x)))+((y-(x)))=0:=by
 induction x using at5
 induction y using at5
 exact snd fun n=>by
  simp only[RL.add,RL.neg,RL.const]
  grind
theorem AQ(x y:RE)(h1: -x< -y):y<x:=ec.1 fun hg=>far (aQ (aV h1) (aO hg)) (KW x y)
theorem MH(x y:RE):((x-(y)))+((-x-(-y)))=0:=by
 induction x using at5
 induction y using at5
 exact snd fun n=>by
  simp only[RL.add,RL.neg,RL.const]
  grind
theorem Bj(x y:RE)(h1:y<x): -x< -y:=ec.1 fun hg=>far (aQ (aV h1) (aO hg)) (MH x y)
theorem NU(x y:RE):((0-(x-y)))+((x-(y)))=0:=by
 induction x using at5
 induction y using at5
 exact snd fun n=>by
  simp only[RL.add,RL.neg,RL.const]
  grind
theorem aju(x y:RE)(h1:x-y<0):x<y:=ec.1 fun hg=>far (aQ (aV h1) (aO hg)) (NU x y)
theorem UJ(x y:RE):((y-(x)))+((x-y-(0)))=0:=by
 induction x using at5
 induction y using at5
 exact snd fun n=>by
  simp only[RL.add,RL.neg,RL.const]
  grind
theorem ahq(x y:RE)(h1:x<y):x-y<0:=ec.1 fun hg=>far (aQ (aV h1) (aO hg)) (UJ x y)
theorem vR_sqr{r:Rt}(h:Rdd r):vR (gC r r)=vR r*vR r:=by
 have e:vR (gC r r)=v2 (r.1*r.1+r.2.1*r.2.1*r.2.2) (r.1*r.2.1+r.2.1*r.1) r.2.2:=by
  unfold gC jh
  rw[zg]
  by_cases e:r.1*r.2.1+r.2.1*r.1=0
  ·rw[at7 e,e,da]
   exact da _ _
  ·rw[at9 e,cond_false]
   by_cases g:r.2.2=0
   ·rw[at7 g,g]
    unfold v2
    rw[Iy,mul_zero,add_zero]
    exact da _ _
   ·rw[at9 g]
    rfl
 rw[e]
 unfold vR v2
 rw[of_add,of_add,bJ,bJ,bJ,bJ,bJ,←ia h.nn,aqj]
theorem vR_val{l:Ln}{p:Pt}:vR (o9 l p)=exE l (pR p):=by
 unfold o9
 rw[vR_mk]
 unfold exE pR pX pY v2 mN mz
 dsimp only
 rw[of_sub,of_add,of_add,bJ,bJ,bJ,bJ,NA]
theorem Bc{x y:Rt}(hx:Rdd x)(hy:Rdd y):bG x y<0↔vR x<vR y:=by
 rw[cmpT_re hx.nn hy.nn,Tr]
 exact⟨aju _ _,ahq _ _⟩
theorem aiK{x y:Rt}(hx:Rdd x)(hy:Rdd y):bG x y>0↔vR y<vR x:=by
 rw[←Bc hy hx,cmpT_re hx.nn hy.nn,cmpT_re hy.nn hx.nn,←Ic (vR x) (vR y),l4]
 omega
theorem wr(l:Ln)(p:Pt):vR (alR (jP l) p)= -tE l (pR p):=by
 rw[agd]
 unfold jP tE
 rw[of_neg]
 exact atz _ _ _ _
theorem UA(l:Ln)(p:Pt):vR (alR (bkV (jP l)) p)=tE l (pR p):=by
 rw[agd]
 unfold jP bkV tE
 rw[of_neg,of_neg,of_neg]
 exact apz _ _ _ _
theorem asS{F T x:RE}(h:¬F<T):(F<x∨x<T)↔¬btE F T x:=by
 unfold btE
 constructor
 ·rintro (g|g) (⟨h1,h2⟩|⟨h1,h2⟩)
  ·exact(lt_or_ge F T).elim h fun k=>le_trans h2 k g
  ·exact h2 g
  ·exact(lt_or_ge F T).elim h fun k=>le_trans k h1 g
  ·exact h1 g
 ·intro g
  rcases lt_or_ge F x with k|k
  ·exact .inl k
  ·rcases lt_or_ge x T with m|m
   ·exact .inr m
   ·exact absurd (.inr ⟨m,k⟩) g
theorem asU{F T x:RE}(h:F<T):(x<F∨T<x)↔¬btE F T x:=by
 unfold btE
 constructor
 ·rintro (g|g) (⟨h1,h2⟩|⟨h1,h2⟩)
  ·exact h1 g
  ·exact h1 (dq g h)
  ·exact h2 g
  ·exact h2 (dq h g)
 ·intro g
  rcases lt_or_ge x F with k|k
  ·exact .inl k
  ·rcases lt_or_ge T x with m|m
   ·exact .inr m
   ·exact absurd (.inl ⟨k,m⟩) g
open Classical in
theorem dir_bes{c:Cv}[hf:Rpd (frC c)][ht:Rpd (toC c)]{p:Pt}[hp:Rpd p]:(decide (bG (alR (lC c) p) (alR (lC c) (frC c))<0)||decide (bG (alR (lC c) p) (alR (lC c) (toC c))>0))=!(besE c (pR p)):=by
 have k:∀(d:Rat×Rat),(decide (bG (alR d p) (alR d (frC c))<0)||decide (bG (alR d p) (alR d (toC c))>0))=decide (vR (alR d p)<vR (alR d (frC c))∨vR (alR d (toC c))<vR (alR d p)):=fun d=>by
  rw[Bool.decide_or]
  exact congr (congrArg or (auE.2 (Bc tc tc))) (auE.2 (aiK tc tc))
 rw[k]
 unfold besE
 rw[←axb]
 refine auE.2 ?_
 unfold lC
 by_cases h:bG (alR (jP (lnC c)) (toC c)) (alR (jP (lnC c)) (frC c))<0
 ·rw[at7 h,cond_true,UA,UA,UA]
  have g:=(Bc tc tc).1 h
  rw[wr,wr]at g
  exact asU (AQ _ _ g)
 ·rw[at9 h,cond_false,wr,wr,wr]
  have g:¬tE (lnC c) (pR (frC c))<tE (lnC c) (pR (toC c)):=fun g=>h ((Bc tc tc).2 (by rw[wr,wr];exact Bj _ _ g))
  rw[←asS g]
  exact or_congr ⟨AQ _ _,Bj _ _⟩ ⟨AQ _ _,Bj _ _⟩
theorem cen_eq{p:Pt}[hp:Rpd p]{v:Rat×Rat}:(cj p (atP v)==0)=true↔pR p=vE v:=by
 rw[avx,cmpP_0,vK]
 exact Iff.rfl
end RE
def sH:Env:=[(78,fu),(124,jD),(50,gQ),(132,gL),(107,jw),(127,iw),(161,iu),(52,tB),(49,pz),(120,By),(209,AL),(20,ls),(109,tD),(45,pJ),(54,ui),(136,zC),(122,tz),(140,tk),(141,qk),(121,AD),(59,It),(119,nI),(85,qK),(207,BY),(60,BD),(144,Bt),(61,AP)]
theorem j8:EnvAll Tryz.prog sH:=⟨dW,gH,fq,fk,gG,fT,fS,rS,nQ,yX,yx,iH,rR,nH,sP,xM,rG,qZ,nN,zb,Ll,kH,nK,ze,vM,uu,vP,trivial⟩
def aql:Ctx:=CX sH []
def adj(p:BP)(v:BV)(_k:KT):Option (List RV):=cp (match decide (okR p.1∧okR v.1)with|true=>cp (match decide (okR p.2.2.1∧okR v.2)with|true=>dup (.b (.b .l .l) (.b (.b .l .l) (.b .l .l))) (some [RV.d tO (hid (ag (ae p.1-ae v.1)),(p.2.1,p.2.2.2.2)),RV.d tO (hid (ag (ae p.2.2.1-ae v.2)),p.2.2.2)])|false=>none) (dup (.b .l .l) (cp (match decide (okR p.2.2.1∧okR v.2)with|true=>dup (.b .l .l) (some [RV.d tO (hid (ag (ae p.1-ae v.1)),(p.2.1,p.2.2.2.2)),RV.d tO (hid (ag (ae p.2.2.1-ae v.2)),p.2.2.2)])|false=>none) (match decide (okR p.2.2.1∧okR v.2)with|true=>some [RV.d tO (hid (ag (ae p.1-ae v.1)),(p.2.1,p.2.2.2.2)),RV.d tO (hid (ag (ae p.2.2.1-ae v.2)),p.2.2.2)]|false=>none)))|false=>none) (dup (.b .l .l) (cp (match decide (okR p.1∧okR v.1)with|true=>cp (match decide (okR p.2.2.1∧okR v.2)with|true=>dup (.b .l .l) (some [RV.d tO (hid (ag (ae p.1-ae v.1)),(p.2.1,p.2.2.2.2)),RV.d tO (hid (ag (ae p.2.2.1-ae v.2)),p.2.2.2)])|false=>none) (match decide (okR p.2.2.1∧okR v.2)with|true=>some [RV.d tO (hid (ag (ae p.1-ae v.1)),(p.2.1,p.2.2.2.2)),RV.d tO (hid (ag (ae p.2.2.1-ae v.2)),p.2.2.2)]|false=>none)|false=>none) (match decide (okR p.1∧okR v.1)with|true=>(match decide (okR p.2.2.1∧okR v.2)with|true=>some [RV.d tO (hid (ag (ae p.1-ae v.1)),(p.2.1,p.2.2.2.2)),RV.d tO (hid (ag (ae p.2.2.1-ae v.2)),p.2.2.2)]|false=>none)|false=>none)))
theorem ar8(p:BP)(v:BV):RS aql 203 [.d tP p,.d tV v] (adj p v):=rsX
theorem Yz(p:BP)(v:BV)(h:okP 580 p∧ok (Rat×Rat) 400 v):Con Tryz.prog 203 [.d tP p,.d tV v] [.d tO (enc (rwX (dec p) (dec v))),.d tO (enc (rwY (dec p) (dec v)))]:=by
 refine aP j8 (ar8 _ _ ⟨0,?_⟩)
 obtain⟨hp,hv⟩:=h
 obtain⟨p,rfl,bp,rp⟩:=bz hp
 obtain⟨v,rfl,bv⟩:=aS hv
 unfold adj
 simp only[ao,aK,aj,am,aE,aF,aB,az,aW,aua,aub,Nat.reduceLeDiff]
 try rfl
def alG:Ctx:=CX sH []
def afo(x y:BO3)(_k:KT):Option (List RV):=match decide (okR x.1∧okR y.1)with|true=>(match decide (okR x.2.1∧okR y.1)with|true=>(match decide (okR x.1∧okR y.2.1)with|true=>(match decide (okR x.2.1∧okR y.2.1)with|true=>some [RV.d tQ (hid (ag (ae x.1*ae y.1)),(hid (ag (ae x.2.1*ae y.1)),(hid (ag (ae x.1*ae y.2.1)),(hid (ag (ae x.2.1*ae y.2.1)),(x.2.2,y.2.2)))))]|false=>none)|false=>none)|false=>none)|false=>none
theorem am1(x y:BO3):RS alG 205 [.d tO x,.d tO y] (afo x y):=rsX
theorem abg(x y:BO3)(h:ok Rt 3000 x∧ok Rt 3000 y):Con Tryz.prog 205 [.d tO x,.d tO y] [.d tQ (enc (tiQ (dec x) (dec y)))]:=by
 refine aP j8 (am1 _ _ ⟨0,?_⟩)
 obtain⟨hx,hy⟩:=h
 obtain⟨x,rfl,bx⟩:=aS hx
 obtain⟨y,rfl,b_y⟩:=aS hy
 unfold afo
 simp only[aj,am,aE,aF,aB,az,aW,aua,aub,Nat.reduceLeDiff]
 try rfl
def anN:Ctx:=CX sH []
def afc(p q:BQ)(_k:KT):Option (List RV):=match decide (okR p.1∧okR q.1)with|true=>(match decide (okR p.2.1∧okR q.2.1)with|true=>(match decide (okR p.2.2.1∧okR q.2.2.1)with|true=>(match decide (okR p.2.2.2.1∧okR q.2.2.2.1)with|true=>some [RV.d tQ (hid (ag (ae p.1+ae q.1)),(hid (ag (ae p.2.1+ae q.2.1)),(hid (ag (ae p.2.2.1+ae q.2.2.1)),(hid (ag (ae p.2.2.2.1+ae q.2.2.2.1)),p.2.2.2.2))))]|false=>none)|false=>none)|false=>none)|false=>none
theorem anH(p q:BQ):RS anN 204 [.d tQ p,.d tQ q] (afc p q):=rsX
theorem aav(p q:BQ)(h:ok Qd 14000 p∧ok Qd 14000 q):Con Tryz.prog 204 [.d tQ p,.d tQ q] [.d tQ (enc (plQ (dec p) (dec q)))]:=by
 refine aP j8 (anH _ _ ⟨0,?_⟩)
 obtain⟨hp,hq⟩:=h
 obtain⟨p,rfl,bp⟩:=aS hp
 obtain⟨q,rfl,bq⟩:=aS hq
 unfold afc
 simp only[aj,am,aE,aF,aB,az,aW,aua,aub,Nat.reduceLeDiff]
 try rfl
def aoG:Ctx:=CX sH []
def adG(p:BQ)(_k:KT):Option (List RV):=match decide (okR p.1)with|true=>(match decide (okR p.2.1)with|true=>(match decide (okR p.2.2.1)with|true=>(match decide (okR p.2.2.2.1)with|true=>some [RV.d tQ (hid (ag (-ae p.1)),(hid (ag (-ae p.2.1)),(hid (ag (-ae p.2.2.1)),(hid (ag (-ae p.2.2.2.1)),p.2.2.2.2))))]|false=>none)|false=>none)|false=>none)|false=>none
theorem ao7(p:BQ):RS aoG 206 [.d tQ p] (adG p):=rsX
theorem abC(p:BQ)(h:ok Qd 30000 p):Con Tryz.prog 206 [.d tQ p] [.d tQ (enc (miQ (dec p)))]:=by
 refine aP j8 (ao7 _ ⟨0,?_⟩)
 have hp:=h
 obtain⟨p,rfl,bp⟩:=aS hp
 unfold adG
 simp only[aj,am,aE,aF,aB,az,aW,Nat.reduceLeDiff]
 try rfl
def SJ:aN:=spN false true [tP,tV] (fun x=>decide (okP 580 x.1∧ok (Rat×Rat) 400 x.2.1)) (fun x=>[RV.d tO (hid (enc (rwX (dec x.1) (dec x.2.1)))),RV.d tO (hid (enc (rwY (dec x.1) (dec x.2.1))))])
theorem WY:SpK 203 SJ:=spX fun x h=>by simp only[aj];exact Yz x.1 x.2.1 (at6 h)
def OM:aN:=spN false true [tO,tO] (fun x=>decide (ok Rt 3000 x.1∧ok Rt 3000 x.2.1)) (fun x=>[RV.d tQ (hid (enc (tiQ (dec x.1) (dec x.2.1))))])
theorem Vi:SpK 205 OM:=spX fun x h=>by simp only[aj];exact abg x.1 x.2.1 (at6 h)
def UW:aN:=spN false true [tQ,tQ] (fun x=>decide (ok Qd 14000 x.1∧ok Qd 14000 x.2.1)) (fun x=>[RV.d tQ (hid (enc (plQ (dec x.1) (dec x.2.1))))])
theorem Pj:SpK 204 UW:=spX fun x h=>by simp only[aj];exact aav x.1 x.2.1 (at6 h)
def OD:aN:=spN false true [tQ] (fun x=>decide (ok Qd 30000 x.1)) (fun x=>[RV.d tQ (hid (enc (miQ (dec x.1))))])
theorem Ot:SpK 206 OD:=spX fun x h=>by simp only[aj];exact abC x.1 (at6 h)
def o0:Env:=(203,SJ)::(205,OM)::(204,UW)::(206,OD)::sH
theorem iO:EnvAll Tryz.prog o0:=⟨WY,Vi,Pj,Ot,j8⟩
def ao5:Ctx:=CX o0 []
def adI(v:BV)(p q:BP)(_k:KT):Option (List RV):=match decide (okP 580 p∧ok (Rat×Rat) 400 v)with|true=>(match decide (okP 580 q∧ok (Rat×Rat) 400 v)with|true=>(match decide (ok Rt 3000 (hid (enc (rwX (dec p) (dec v))))∧ok Rt 3000 (hid (enc (rwY (dec q) (dec v)))))with|true=>(match decide (ok Rt 3000 (hid (enc (rwY (dec p) (dec v))))∧ok Rt 3000 (hid (enc (rwX (dec q) (dec v)))))with|true=>(match decide (ok Qd 30000 (hid (enc (tiQ (dec (hid (enc (rwY (dec p) (dec v))))) (dec (hid (enc (rwX (dec q) (dec v)))))))))with|true=>(match decide (ok Qd 14000 (hid (enc (tiQ (dec (hid (enc (rwX (dec p) (dec v))))) (dec (hid (enc (rwY (dec q) (dec v))))))))∧ok Qd 14000 (hid (enc (miQ (dec (hid (enc (tiQ (dec (hid (enc (rwY (dec p) (dec v))))) (dec (hid (enc (rwX (dec q) (dec v)))))))))))))with|true=>(match decide (okQ (hid (enc (plQ (dec (hid (enc (tiQ (dec (hid (enc (rwX (dec p) (dec v))))) (dec (hid (enc (rwY (dec q) (dec v))))))))) (dec (hid (enc (miQ (dec (hid (enc (tiQ (dec (hid (enc (rwY (dec p) (dec v))))) (dec (hid (enc (rwX (dec q) (dec v)))))))))))))))))with|true=>some [RV.d axf (sgQ (dec (hid (enc (plQ (dec (hid (enc (tiQ (dec (hid (enc (rwX (dec p) (dec v))))) (dec (hid (enc (rwY (dec q) (dec v))))))))) (dec (hid (enc (miQ (dec (hid (enc (tiQ (dec (hid (enc (rwY (dec p) (dec v))))) (dec (hid (enc (rwX (dec q) (dec v))))))))))))))))))]|false=>none)|false=>none)|false=>none)|false=>none)|false=>none)|false=>none)|false=>none
theorem amp(v:BV)(p q:BP):RS ao5 210 [.d tV v,.d tP p,.d tP q] (adI v p q):=rsX
theorem Y8(v:BV)(p q:BP)(h:ok (Rat×Rat) 400 v∧okP 580 p∧okP 580 q):Con Tryz.prog 210 [.d tV v,.d tP p,.d tP q] [.d axf (RE.turS (dec v) (RE.pR (dec p)) (RE.pR (dec q)))]:=by
 refine aP iO (amp _ _ _ ⟨0,?_⟩)
 obtain⟨hv,hp,hq⟩:=h
 obtain⟨v,rfl,bv⟩:=aS hv
 obtain⟨p,rfl,bp,rp⟩:=bz hp
 obtain⟨q,rfl,bq,rq⟩:=bz hq
 have o1:decide (okQ (enc (plQ (tiQ (rwX p v) (rwY q v)) (miQ (tiQ (rwY p v) (rwX q v))))))=true:=RH (k:=6000) (h:=(inferInstance:Bd (plQ (tiQ (rwX p v) (rwY q v)) (miQ (tiQ (rwY p v) (rwX q v)))) _).mono (by decide)) (by decide) rp.nn rq.nn
 unfold adI
 simp only[aj,am,okd,aua,aub,Nat.reduceAdd,Nat.reduceLeDiff,aZ,o1]
 rw[←RE.crR_re]
 rfl
def alV:Ctx:=CX o0 []
def adm(d:BV)(p:BP)(_k:KT):Option (List RV):=match decide (okR d.1∧okR p.1)with|true=>(match decide (okR d.2∧okR p.2.2.1)with|true=>(match decide (okR (hid (ag (ae d.1*ae p.1)))∧okR (hid (ag (ae d.2*ae p.2.2.1))))with|true=>(match decide (okR d.1∧okR p.2.1)with|true=>(match decide (okR d.2∧okR p.2.2.2.1)with|true=>(match decide (okR (hid (ag (ae d.1*ae p.2.1)))∧okR (hid (ag (ae d.2*ae p.2.2.2.1))))with|true=>(match decide (ok Rat 100000 (hid (ag (ae (hid (ag (ae d.1*ae p.1)))+ae (hid (ag (ae d.2*ae p.2.2.1))))))∧ok Rat 100000 (hid (ag (ae (hid (ag (ae d.1*ae p.2.1)))+ae (hid (ag (ae d.2*ae p.2.2.2.1))))))∧ok Rat 100000 p.2.2.2.2∧0≤ae p.2.2.2.2)with|true=>some [RV.d tO (hid (enc (mkR (ae (hid (ag (ae (hid (ag (ae d.1*ae p.1)))+ae (hid (ag (ae d.2*ae p.2.2.1))))))) (ae (hid (ag (ae (hid (ag (ae d.1*ae p.2.1)))+ae (hid (ag (ae d.2*ae p.2.2.2.1))))))) (ae p.2.2.2.2))))]|false=>none)|false=>none)|false=>none)|false=>none)|false=>none)|false=>none)|false=>none
theorem asb(d:BV)(p:BP):RS alV 118 [.d tV d,.d tP p] (adm d p):=rsX
theorem Ze(d:BV)(p:BP)(h:ok (Rat×Rat) 400 d∧okP 580 p):Con Tryz.prog 118 [.d tV d,.d tP p] [.d tO (enc (alR (dec d) (dec p)))]:=by
 refine aP iO (asb _ _ ⟨0,?_⟩)
 obtain⟨hd,hp⟩:=h
 obtain⟨d,rfl,bd⟩:=aS hd
 obtain⟨p,rfl,bp,rp⟩:=bz hp
 have hn:0≤p.2.2.2.2:=rp.nn
 unfold adm
 simp only[aj,am,aE,aF,aB,az,aC,aW,aua,aub,Nat.reduceAdd,Nat.reduceLeDiff,dT hn]
 rfl
def ajm:Ctx:=CX o0 []
def TX(l:BO3)(v:BV)(_k:KT):Option (List RV):=match decide (okR l.1∧okR v.1)with|true=>(match decide (okR l.2.1∧okR v.2)with|true=>(match decide (okR (hid (ag (ae l.1*ae v.1)))∧okR (hid (ag (ae l.2.1*ae v.2))))with|true=>(match decide (okR l.2.2∧okR (hid (ag (ae (hid (ag (ae l.1*ae v.1)))+ae (hid (ag (ae l.2.1*ae v.2)))))))with|true=>some [RV.d tO (l.1,(l.2.1,hid (ag (ae l.2.2+ae (hid (ag (ae (hid (ag (ae l.1*ae v.1)))+ae (hid (ag (ae l.2.1*ae v.2))))))))))]|false=>none)|false=>none)|false=>none)|false=>none
theorem ag8(l:BO3)(v:BV):RS ajm 126 [.d tO l,.d tV v] (TX l v):=rsX
theorem W6(l:BO3)(v:BV)(h:ok Ln 300 l∧ok (Rat×Rat) 200 v):Con Tryz.prog 126 [.d tO l,.d tV v] [.d tO (enc (RE.mvLn (dec l) (dec v)))]:=by
 refine aP iO (ag8 _ _ ⟨0,?_⟩)
 obtain⟨hl,hv⟩:=h
 obtain⟨l,rfl,bl⟩:=aS hl
 obtain⟨v,rfl,bv⟩:=aS hv
 unfold TX
 simp only[aj,am,aE,aF,aB,az,aW,aua,aub,Nat.reduceAdd,Nat.reduceLeDiff]
 try rfl
def alj:Ctx:=CX o0 []
def OB(c:BO3)(v:BV)(_k:KT):Option (List RV):=match decide (okR c.1∧okR v.1)with|true=>(match decide (okR c.2.1∧okR v.2)with|true=>some [RV.d tO (hid (ag (ae c.1+ae v.1)),(hid (ag (ae c.2.1+ae v.2)),c.2.2))]|false=>none)|false=>none
theorem akr(c:BO3)(v:BV):RS alj 125 [.d tO c,.d tV v] (OB c v):=rsX
theorem RQ(c:BO3)(v:BV)(h:ok Ln 300 c∧ok (Rat×Rat) 200 v):Con Tryz.prog 125 [.d tO c,.d tV v] [.d tO (enc (RE.mvCi (dec c) (dec v)))]:=by
 refine aP iO (akr _ _ ⟨0,?_⟩)
 obtain⟨hc,hv⟩:=h
 obtain⟨c,rfl,bc⟩:=aS hc
 obtain⟨v,rfl,bv⟩:=aS hv
 unfold OB
 simp only[aj,am,aE,aF,aB,az,aW,aua,aub,Nat.reduceLeDiff]
 try rfl
def ahG:Ctx:=CX o0 []
def O9(x:Plc)(_k:KT):Option (List RV):=let y1:=i64.wrap x.2.2.2.2.1;let y2:=i64.wrap x.1;let y3:=i64.wrap ((i64.wrap x.2.2.2.2.2)+1);let y4:=i64.wrap x.2.1;let y5:=hid (ag (Rat.divInt y2 y3));let y6:=hid (ag (Rat.divInt y4 y3));let y7:=hid (ag (y1:Rat));let y8:=i64.wrap x.2.2.1;let y9:=i64.wrap x.2.2.2.1;let y10:=hid (ag (Rat.divInt y8 y3));let y11:=hid (ag (Rat.divInt y9 y3));let y12:=hid (enc (mkR (ae y5) (ae y6) (ae y7)));let y13:=hid (enc (mkR (ae y10) (ae y11) (ae y7)));match decide (aY y1)with|true=>(match decide (rC y2 y3)with|true=>(match decide (rC y4 y3)with|true=>(match decide (ok Rat 100000 y5∧ok Rat 100000 y6∧ok Rat 100000 y7∧0≤ae y7)with|true=>(match decide (rC y8 y3)with|true=>(match decide (rC y9 y3)with|true=>(match decide (ok Rat 100000 y10∧ok Rat 100000 y11∧ok Rat 100000 y7∧0≤ae y7)with|true=>(match decide (okT 15000 y12∧okT 15000 y13∧ri (dec y12) (dec y13))with|true=>some [RV.d tP (hid (enc (mkP (dec y12) (dec y13))))]|false=>none)|false=>none)|false=>none)|false=>none)|false=>none)|false=>none)|false=>none)|false=>none
theorem agK(x:Plc):RS ahG 40 [.d td x] (O9 x):=rsX
theorem OC(x:Plc)(h:Ey x):Con Tryz.prog 40 [.d td x] [.d tP (enc (dU x))]:=by
 refine aP iO (agK _ ⟨0,?_⟩)
 obtain⟨h1,h2,h3,h4,⟨h5,h5'⟩,h6,h6'⟩:=h
 have f:∀n,Em n→Bd (Rat.divInt n (x.2.2.2.2.2+1)) 3∧rC n (x.2.2.2.2.2+1)∧i64.wrap n=n:=fun n hn=>by
  obtain⟨g1,g2⟩:=hn
  exact⟨Af ⟨by omega,by omega⟩ ⟨by omega,by omega⟩ (by omega),⟨⟨by omega,by omega⟩,⟨by omega,by omega⟩,by omega⟩,bj (by omega) (by omega)⟩
 obtain⟨b1,p1,w1⟩:=f _ h1
 obtain⟨b2,p2,w2⟩:=f _ h2
 obtain⟨b3,p3,w3⟩:=f _ h3
 obtain⟨b4,p4,w4⟩:=f _ h4
 have i5:aY x.2.2.2.2.1:=⟨by omega,by omega⟩
 have b5:Bd (x.2.2.2.2.1:Rat) 3:=cZ i5
 have n5:0≤(x.2.2.2.2.1:Rat):=Rat.intCast_nonneg.2 h5
 have N5:Nn (x.2.2.2.2.1:Rat):=⟨n5⟩
 have w5:i64.wrap x.2.2.2.2.1=x.2.2.2.2.1:=bj (by omega) (by omega)
 have w6:i64.wrap x.2.2.2.2.2=x.2.2.2.2.2:=bj (by omega) (by omega)
 have w7:i64.wrap (x.2.2.2.2.2+1)=x.2.2.2.2.2+1:=bj (by omega) (by omega)
 unfold O9
 simp only[aj,am,az,aC,aua,aub,Nat.reduceAdd,Nat.reduceLeDiff,a9,w1,w2,w3,w4,w5,w6,w7,dT i5,dT p1,dT p2,dT p3,dT p4,dT n5,dT (qG _ _ _ _ _)]
 rfl
def Pq:aN:=spN true true [tV,tP,tP] (fun x=>decide (ok (Rat×Rat) 400 x.1∧okP 580 x.2.1∧okP 580 x.2.2.1)) (fun x=>[RV.d axf (RE.turS (dec x.1) (RE.pR (dec x.2.1)) (RE.pR (dec x.2.2.1)))])
theorem Qo:SpK 210 Pq:=spX fun x h=>Y8 x.1 x.2.1 x.2.2.1 (at6 h)
def Vw:aN:=spN false true [tV,tP] (fun x=>decide (ok (Rat×Rat) 400 x.1∧okP 580 x.2.1)) (fun x=>[RV.d tO (hid (enc (alR (dec x.1) (dec x.2.1))))])
theorem NF:SpK 118 Vw:=spX fun x h=>by simp only[aj];exact Ze x.1 x.2.1 (at6 h)
def Ii:aN:=spN false true [tO,tV] (fun x=>decide (ok Ln 300 x.1∧ok (Rat×Rat) 200 x.2.1)) (fun x=>[RV.d tO (hid (enc (RE.mvLn (dec x.1) (dec x.2.1))))])
theorem L6:SpK 126 Ii:=spX fun x h=>by simp only[aj];exact W6 x.1 x.2.1 (at6 h)
def Jk:aN:=spN false true [tO,tV] (fun x=>decide (ok Ln 300 x.1∧ok (Rat×Rat) 200 x.2.1)) (fun x=>[RV.d tO (hid (enc (RE.mvCi (dec x.1) (dec x.2.1))))])
theorem Lf:SpK 125 Jk:=spX fun x h=>by simp only[aj];exact RQ x.1 x.2.1 (at6 h)
def t9:aN:=spN false true [td] (fun x=>decide (Ey x.1)) (fun x=>[RV.d tP (hid (enc (dU x.1)))])
theorem sF:SpK 40 t9:=spX fun x h=>by simp only[aj];exact OC x.1 (at6 h)
def sI:Env:=(210,Pq)::(118,Vw)::(126,Ii)::(125,Jk)::(40,t9)::o0
theorem jZ:EnvAll Tryz.prog sI:=⟨Qo,NF,L6,Lf,sF,iO⟩
def anG:Ctx:=CX sI []
def agp(p q:BP)(r:BR)(_k:KT):Option (List RV):=let y1:=ag ((0:Int):Rat);let y2:=dec (hid y1,hid y1);let y3:=hid (enc (rwX (dec p) y2));let y4:=hid (enc (rwX (dec q) y2));let y5:=hid (enc (rwY (dec p) y2));let y6:=hid (enc (rwY (dec q) y2));let y7:=hid (enc (tiQ (dec y3) (dec y4)));let y8:=hid (enc (tiQ (dec y5) (dec y6)));let y9:=hid (enc (plQ (dec y7) (dec y8)));let y10:=hid (enc (plQ (dec y9) (dec y9)));let y11:=hid (enc (miQ (dec y10)));let y12:=hid (enc (sqP (dec p) y2));let y13:=hid (ag (ae (y11.1)+ae (y12.1)));let y14:=hid (enc (sqP (dec q) y2));let y15:=hid (ag (ae y13+ae (y14.1)));let y16:=hid (ag (ae r*ae r));match decide (aY (0:Int))with|true=>(match decide (aY (0:Int))with|true=>(match decide (okP 580 p∧ok (Rat×Rat) 400 (hid y1,hid y1))with|true=>(match decide (okP 580 q∧ok (Rat×Rat) 400 (hid y1,hid y1))with|true=>(match decide (ok Rt 3000 y3∧ok Rt 3000 y4)with|true=>(match decide (ok Rt 3000 y5∧ok Rt 3000 y6)with|true=>(match decide (ok Qd 14000 y7∧ok Qd 14000 y8)with|true=>(match decide (ok Qd 14000 y9∧ok Qd 14000 y9)with|true=>(match decide (okP 3500 p∧ok (Rat×Rat) 300 (hid y1,hid y1))with|true=>(match decide (okP 3500 q∧ok (Rat×Rat) 300 (hid y1,hid y1))with|true=>(match decide (ok Qd 30000 y10)with|true=>(match decide (okR (y11.1)∧okR (y12.1))with|true=>(match decide (okR y13∧okR (y14.1))with|true=>(match decide (okR r∧okR r)with|true=>(match decide (okR y15∧okR y16)with|true=>(match decide (okR ((y11.2).1)∧okR ((y12.2).1))with|true=>(match decide (okR (((y11.2).2).1)∧okR ((y14.2).1))with|true=>(match decide (okQ (hid (ag (ae y15-ae y16)),(hid (ag (ae ((y11.2).1)+ae ((y12.2).1))),(hid (ag (ae (((y11.2).2).1)+ae ((y14.2).1))),((y11.2).2).2))))with|true=>some [RV.d axf (sgQ (dec (hid (ag (ae y15-ae y16)),(hid (ag (ae ((y11.2).1)+ae ((y12.2).1))),(hid (ag (ae (((y11.2).2).1)+ae ((y14.2).1))),((y11.2).2).2)))))]|false=>none)|false=>none)|false=>none)|false=>none)|false=>none)|false=>none)|false=>none)|false=>none)|false=>none)|false=>none)|false=>none)|false=>none)|false=>none)|false=>none)|false=>none)|false=>none)|false=>none)|false=>none
theorem ary(p q:BP)(r:BR):RS anG 116 [.d tP p,.d tP q,.d tR r] (agp p q r):=rsX
theorem acf(p q:BP)(r:BR)(h:okP 580 p∧okP 160 q∧ok Rat 1000 r):Con Tryz.prog 116 [.d tP p,.d tP q,.d tR r] [.d axf (RE.apaS (RE.pR (dec p)) (RE.pR (dec q)) (ae r))]:=by
 refine aP jZ (ary _ _ _ ⟨0,?_⟩)
 obtain⟨hp,hq,hr⟩:=h
 obtain⟨p,rfl,bp,rp⟩:=bz hp
 obtain⟨q,rfl,bq,rq⟩:=bz hq
 obtain⟨r,rfl,br⟩:=aS hr
 have h0:decide (aY 0)=true:=by decide
 have hz:((ag ((0:Int):Rat),ag ((0:Int):Rat)):BV)=enc z2:=rfl
 have o1:=aky (p:=p) (q:=q) (r:=r) rp.nn rq.nn
 unfold agp
 simp only[aj,am,aE,aF,aB,az,okd,aW,aua,aub,Nat.reduceAdd,Nat.reduceMul,Nat.reduceLeDiff,aZ,h0,hz]
 show(match decide (okQ (enc (RE.apR p q r)))with|true=>some [RV.d axf (sgQ (dec (enc (RE.apR p q r))))]|false=>none)=_
 rw[am,o1,RE.apR_re]
def anu:Ctx:=CX sI []
def aeU(c:BCU)(p:BP)(_k:KT):Option (List RV):=let y1:=hid ((c.2.2.1.1,c.2.2.1.2.1));let y2:=RE.pR (dec c.2.2.2.2.2);let y3:=RE.pR (dec c.2.2.2.2.1);let y4:=RE.turS (dec y1) y2 y3;let y5:=RE.turS (dec y1) y2 (RE.pR (dec p));let y6:=RE.turS (dec y1) (RE.pR (dec p)) y3;let y7:Option (List RV):=match decide (ok (Rat×Rat) 400 y1∧okP 580 c.2.2.2.2.2∧okP 580 p)with|true=>(match decide (y5≥0)with|true=>(match decide (ok (Rat×Rat) 400 y1∧okP 580 p∧okP 580 c.2.2.2.2.1)with|true=>some [RV.d .bool (decide (y6≥0))]|false=>none)|false=>some [RV.d .bool false])|false=>none;let y8:=RE.turS (dec y1) y3 (RE.pR (dec p));let y9:=RE.turS (dec y1) (RE.pR (dec p)) y2;let y10:=RE.turS (dec y1) y3 y2;let y11:Option (List RV):=match decide (ok (Rat×Rat) 400 y1∧okP 580 c.2.2.2.2.1∧okP 580 p)with|true=>(match decide (y8≥0)with|true=>(match decide (ok (Rat×Rat) 400 y1∧okP 580 p∧okP 580 c.2.2.2.2.2)with|true=>some [RV.d .bool (decide (y9≥0))]|false=>none)|false=>some [RV.d .bool false])|false=>none;match c.2.2.2.1 with|true=>(match decide (ok (Rat×Rat) 400 y1∧okP 580 c.2.2.2.2.2∧okP 580 c.2.2.2.2.1)with|true=>(match decide (y4>0)with|true=>y7|false=>(match y4==0 with|true=>y7|false=>(match decide (ok (Rat×Rat) 400 y1∧okP 580 c.2.2.2.2.1∧okP 580 p)with|true=>(match decide (y8>0)with|true=>(match decide (ok (Rat×Rat) 400 y1∧okP 580 p∧okP 580 c.2.2.2.2.2)with|true=>some [RV.d .bool (!(decide (y9>0)))]|false=>none)|false=>some [RV.d .bool (!false)])|false=>none)))|false=>none)|false=>(match decide (ok (Rat×Rat) 400 y1∧okP 580 c.2.2.2.2.1∧okP 580 c.2.2.2.2.2)with|true=>(match decide (y10>0)with|true=>y11|false=>(match y10==0 with|true=>y11|false=>(match decide (ok (Rat×Rat) 400 y1∧okP 580 c.2.2.2.2.2∧okP 580 p)with|true=>(match decide (y5>0)with|true=>(match decide (ok (Rat×Rat) 400 y1∧okP 580 p∧okP 580 c.2.2.2.2.1)with|true=>some [RV.d .bool (!(decide (y6>0)))]|false=>none)|false=>some [RV.d .bool (!false)])|false=>none)))|false=>none)
theorem al1(c:BCU)(p:BP):RS anu 123 [.d tCU c,.d tP p] (aeU c p):=rsX
theorem ZG(c:BCU)(p:BP)(h:kY c.2.2.1∧okP 580 c.2.2.2.2.1∧okP 580 c.2.2.2.2.2∧okP 580 p):Con Tryz.prog 123 [.d tCU c,.d tP p] [.d .bool (RE.witE (dC c) (RE.pR (dec p)))]:=by
 refine aP jZ (al1 _ _ ⟨0,?_⟩)
 obtain⟨⟨hc,_⟩,hf,ht,hp⟩:=h
 obtain⟨p,rfl,bp,rp⟩:=bz hp
 obtain⟨ar,li,ci,cw,fr,to⟩:=c
 simp only at hc hf ht
 obtain⟨ci,rfl,bc⟩:=aS hc
 obtain⟨fr,rfl,bf,rf⟩:=bz hf
 obtain⟨to,rfl,bt,rt⟩:=bz ht
 have e0:((ag ci.1,ag ci.2.1):BV)=enc (ctr ci):=rfl
 unfold aeU
 rw[RE.wit_eq]
 simp only[aj,am,aE,aF,aB,okd,aua,aub,mx,Nat.reduceLeDiff,auf,cond_true,aZ,e0]
 cases cw
 ·simp only[am,cond_false,dC,ciC,ccF,ccT,cwC,frC,toC]
  rw[RE.turS_anti (ctr ci) (RE.pR to) (RE.pR p),RE.turS_anti (ctr ci) (RE.pR p) (RE.pR fr)]
  exact RE.wit_gr _ _ _
 ·simp only[am,cond_true,dC,ciC,ccF,ccT,cwC,frC,toC]
  rw[RE.turS_anti (ctr ci) (RE.pR fr) (RE.pR p),RE.turS_anti (ctr ci) (RE.pR p) (RE.pR to)]
  exact RE.wit_gr _ _ _
def apv:Ctx:=CX sI []
def afJ(c:BCU)(_k:KT):Option (List RV):=match decide (okR c.2.1.1)with|true=>(match decide (ok (Rat×Rat) 400 (c.2.1.2.1,hid (ag (-ae c.2.1.1)))∧okP 580 c.2.2.2.2.2)with|true=>(match decide (ok (Rat×Rat) 400 (c.2.1.2.1,hid (ag (-ae c.2.1.1)))∧okP 580 c.2.2.2.2.1)with|true=>(match decide (okT 15000 (hid (enc (alR (dec (c.2.1.2.1,hid (ag (-ae c.2.1.1)))) (dec c.2.2.2.2.2))))∧okT 15000 (hid (enc (alR (dec (c.2.1.2.1,hid (ag (-ae c.2.1.1)))) (dec c.2.2.2.2.1)))))with|true=>(match decide ((bG (dec (hid (enc (alR (dec (c.2.1.2.1,hid (ag (-ae c.2.1.1)))) (dec c.2.2.2.2.2))))) (dec (hid (enc (alR (dec (c.2.1.2.1,hid (ag (-ae c.2.1.1)))) (dec c.2.2.2.2.1))))))<0)with|true=>(match decide (ok (Rat×Rat) 21000 (c.2.1.2.1,hid (ag (-ae c.2.1.1))))with|true=>some [RV.d tV (hid (enc (bkV (dec (c.2.1.2.1,hid (ag (-ae c.2.1.1)))))))]|false=>none)|false=>some [RV.d tV (c.2.1.2.1,hid (ag (-ae c.2.1.1)))])|false=>none)|false=>none)|false=>none)|false=>none
theorem aom(c:BCU):RS apv 117 [.d tCU c] (afJ c):=rsX
theorem YB(c:BCU)(h:ok Ln 300 c.2.1∧okP 580 c.2.2.2.2.1∧okP 580 c.2.2.2.2.2):Con Tryz.prog 117 [.d tCU c] [.d tV (enc (lC (dC c)))]:=by
 refine aP jZ (aom _ ⟨0,?_⟩)
 obtain⟨hl,hf,ht⟩:=h
 obtain⟨ar,li,ci,cw,fr,to⟩:=c
 simp only at hl hf ht
 obtain⟨li,rfl,bl⟩:=aS hl
 obtain⟨fr,rfl,bf,rf⟩:=bz hf
 obtain⟨to,rfl,bt,rt⟩:=bz ht
 have e0:((ag li.2.1,ag (-li.1)):BV)=enc (jP li):=rfl
 unfold afJ lC
 simp only[aj,am,aE,aF,aB,az,okd,aW,aua,aub,Nat.reduceAdd,Nat.reduceMul,Nat.reduceLeDiff,a9,aZ,e0,dC,lnC,frC,toC]
 cases decide (bG (alR (jP li) to) (alR (jP li) fr)<0)<;>rfl
def aoY:Ctx:=CX sI []
def adc(c:BCU)(v:BV)(_k:KT):Option (List RV):=match c.1 with|true=>(match decide (ok Ln 300 c.2.2.1∧ok (Rat×Rat) 200 v)with|true=>(match decide (ok Pt 21000 c.2.2.2.2.1∧ok (Rat×Rat) 1000 v)with|true=>(match decide (ok Pt 21000 c.2.2.2.2.2∧ok (Rat×Rat) 1000 v)with|true=>some [RV.d tCU (c.1,(c.2.1,(hid (enc (RE.mvCi (dec c.2.2.1) (dec v))),(c.2.2.2.1,(hid (enc (trP (dec c.2.2.2.2.1) (dec v))),hid (enc (trP (dec c.2.2.2.2.2) (dec v))))))))]|false=>none)|false=>none)|false=>none)|false=>(match decide (ok Ln 300 c.2.1∧ok (Rat×Rat) 200 v)with|true=>(match decide (ok Pt 21000 c.2.2.2.2.1∧ok (Rat×Rat) 1000 v)with|true=>(match decide (ok Pt 21000 c.2.2.2.2.2∧ok (Rat×Rat) 1000 v)with|true=>some [RV.d tCU (c.1,(hid (enc (RE.mvLn (dec c.2.1) (dec v))),(c.2.2.1,(c.2.2.2.1,(hid (enc (trP (dec c.2.2.2.2.1) (dec v))),hid (enc (trP (dec c.2.2.2.2.2) (dec v))))))))]|false=>none)|false=>none)|false=>none)
theorem ar7(c:BCU)(v:BV):RS aoY 44 [.d tCU c,.d tV v] (adc c v):=rsX
theorem abc(c:BCU)(v:BV)(h:okC 500 c∧ok (Rat×Rat) 10 v):Con Tryz.prog 44 [.d tCU c,.d tV v] [.d tCU (mvB c (dec v))]:=by
 refine aP jZ (ar7 _ _ ⟨0,?_⟩)
 obtain⟨hc,hv⟩:=h
 obtain⟨v,rfl,bv⟩:=aS hv
 obtain⟨ar,li,ci,cw,fr,to⟩:=c
 have h3:=hc.2.2.1
 have h4:=hc.2.2.2
 simp only at h3 h4
 obtain⟨fr,rfl,bf,rf⟩:=bz h3
 obtain⟨to,rfl,bt,rt⟩:=bz h4
 unfold adc mvB
 cases ar
 ·obtain⟨c2,_⟩:=hc.2.1 rfl
  simp only at c2
  obtain⟨li,rfl,bl⟩:=aS c2
  simp only[aj,am,okd,aua,aub,Nat.reduceLeDiff,cond_false]
 ·obtain⟨c1,_⟩:=hc.1 rfl
  simp only at c1
  obtain⟨ci,rfl,bc⟩:=aS c1
  simp only[aj,am,okd,aua,aub,Nat.reduceLeDiff,cond_true]
def Ri:aN:=spN true true [tP,tP,tR] (fun x=>decide (okP 580 x.1∧okP 160 x.2.1∧ok Rat 1000 x.2.2.1)) (fun x=>[RV.d axf (RE.apaS (RE.pR (dec x.1)) (RE.pR (dec x.2.1)) (ae x.2.2.1))])
theorem XS:SpK 116 Ri:=spX fun x h=>acf x.1 x.2.1 x.2.2.1 (at6 h)
def Ul:aN:=spN true true [tCU,tP] (fun x=>decide (kY x.1.2.2.1∧okP 580 x.1.2.2.2.2.1∧okP 580 x.1.2.2.2.2.2∧okP 580 x.2.1)) (fun x=>[RV.d .bool (RE.witE (dC x.1) (RE.pR (dec x.2.1)))])
theorem PZ:SpK 123 Ul:=spX fun x h=>ZG x.1 x.2.1 (at6 h)
def QH:aN:=spN false true [tCU] (fun x=>decide (ok Ln 300 x.1.2.1∧okP 580 x.1.2.2.2.2.1∧okP 580 x.1.2.2.2.2.2)) (fun x=>[RV.d tV (hid (enc (lC (dC x.1))))])
theorem Nv:SpK 117 QH:=spX fun x h=>by simp only[aj];exact YB x.1 (at6 h)
def He:aN:=spN false true [tCU,tV] (fun x=>decide (okC 500 x.1∧ok (Rat×Rat) 10 x.2.1)) (fun x=>[RV.d tCU (hid (mvB x.1 (dec x.2.1)))])
theorem Cu:SpK 44 He:=spX fun x h=>by simp only[aj];exact abc x.1 x.2.1 (at6 h)
def PN:Env:=(116,Ri)::(123,Ul)::(117,QH)::(44,He)::sI
theorem Lh:EnvAll Tryz.prog PN:=⟨XS,PZ,Nv,Cu,jZ⟩
def alI:Ctx:=CX PN []
def adB(c:BCU)(p:BP)(r:BR)(_k:KT):Option (List RV):=let y1:=hid (enc (lC (dC c)));let y2:=hid (enc (alR (dec y1) (dec p)));let y3:=hid (enc (alR (dec y1) (dec c.2.2.2.2.1)));let y4:=RE.pR (dec c.2.2.2.2.2);let y5:=RE.pR (dec c.2.2.2.2.1);let y6:=hid (enc (alR (dec y1) (dec c.2.2.2.2.2)));let y7:=hid (ag (ae c.2.1.1*ae c.2.1.1));let y8:=hid (ag (ae c.2.1.2.1*ae c.2.1.2.1));let y9:=hid (enc (o9 (dec c.2.1) (dec p)));let y10:=hid (ag (ae r*ae r));let y11:=hid (ag (ae y7+ae y8));let y12:=hid (enc (gC (dec y9) (dec y9)));let y13:=hid (ag (ae y10*ae y11));let y14:=hid ((c.2.2.1.1,c.2.2.1.2.1));let y15:=hid (enc (atP (dec y14)));let y16:=ae c.2.2.1.2.2;let y17:=aU y16 (ae y10);let y18:=hid (ag (ae c.2.2.1.2.2+ae y10));let y19:=hid (ag (ae r+ae r));let y20:=hid (ag (-ae y19));let y21:=hid (enc (sqP (dec p) (dec y14)));let y22:=hid (enc (mkR (ae y18) (ae y19) y16));let y23:=bG (dec y21) (dec y22);let y24:=hid (enc (mkR (ae y18) (ae y20) y16));match decide (okR r)with|true=>(match decide ((aU (ae r) 0)<0)with|true=>some [RV.d axf 1]|false=>(match decide (okP 580 c.2.2.2.2.1∧okP 160 p∧ok Rat 1000 r)with|true=>(match decide (okP 580 c.2.2.2.2.2∧okP 160 p∧ok Rat 1000 r)with|true=>(match !c.1 with|true=>(match decide (ok Ln 300 c.2.1∧okP 580 c.2.2.2.2.1∧okP 580 c.2.2.2.2.2)with|true=>(match decide (ok (Rat×Rat) 400 y1∧okP 580 p)with|true=>(match decide (ok (Rat×Rat) 400 y1∧okP 580 c.2.2.2.2.1)with|true=>(match decide (okT 15000 y2∧okT 15000 y3)with|true=>(match decide ((bG (dec y2) (dec y3))<0)with|true=>some [RV.d axf (if RE.apaS y4 (RE.pR (dec p)) (ae r)<RE.apaS y5 (RE.pR (dec p)) (ae r)then RE.apaS y4 (RE.pR (dec p)) (ae r)else RE.apaS y5 (RE.pR (dec p)) (ae r))]|false=>(match decide (ok (Rat×Rat) 400 y1∧okP 580 c.2.2.2.2.2)with|true=>(match decide (okT 15000 y2∧okT 15000 y6)with|true=>(match decide ((bG (dec y2) (dec y6))>0)with|true=>some [RV.d axf (if RE.apaS y4 (RE.pR (dec p)) (ae r)<RE.apaS y5 (RE.pR (dec p)) (ae r)then RE.apaS y4 (RE.pR (dec p)) (ae r)else RE.apaS y5 (RE.pR (dec p)) (ae r))]|false=>(match decide (okR c.2.1.1∧okR c.2.1.1)with|true=>(match decide (okR c.2.1.2.1∧okR c.2.1.2.1)with|true=>(match decide (okR y7∧okR y8)with|true=>(match decide (ok Ln 300 c.2.1∧okP 4000 p)with|true=>(match decide (ok Rt 50000 y9)with|true=>(match decide (okR r∧okR r)with|true=>(match decide (okR y10∧okR y11)with|true=>(match decide (okT 15000 y12∧ok Rat 15000 y13)with|true=>some [RV.d axf (eu (dec y12) (ae y13))]|false=>none)|false=>none)|false=>none)|false=>none)|false=>none)|false=>none)|false=>none)|false=>none))|false=>none)|false=>none))|false=>none)|false=>none)|false=>none)|false=>none)|false=>(match decide (ok (Rat×Rat) 100000 y14)with|true=>(match decide (okP 4000 p∧okP 4000 y15)with|true=>(match cj (dec p) (dec y15)==0 with|true=>(match decide (okR r∧okR r)with|true=>(match decide (okR c.2.2.1.2.2∧okR y10)with|true=>some [RV.d axf y17]|false=>none)|false=>none)|false=>(match decide (kY c.2.2.1∧okP 580 c.2.2.2.2.1∧okP 580 c.2.2.2.2.2∧okP 580 p)with|true=>(match !(RE.witE (dC c) (RE.pR (dec p)))with|true=>some [RV.d axf (if RE.apaS y4 (RE.pR (dec p)) (ae r)<RE.apaS y5 (RE.pR (dec p)) (ae r)then RE.apaS y4 (RE.pR (dec p)) (ae r)else RE.apaS y5 (RE.pR (dec p)) (ae r))]|false=>(match decide (okP 3500 p∧ok (Rat×Rat) 300 y14)with|true=>(match decide (okR r∧okR r)with|true=>(match decide (okR c.2.2.1.2.2∧okR y10)with|true=>(match decide (okR r∧okR r)with|true=>(match decide (ok Rat 100000 y18∧ok Rat 100000 y19∧ok Rat 100000 c.2.2.1.2.2∧0≤ae c.2.2.1.2.2)with|true=>(match decide (okR r∧okR r)with|true=>(match decide (okR y19)with|true=>(match decide (ok Rat 100000 y18∧ok Rat 100000 y20∧ok Rat 100000 c.2.2.1.2.2∧0≤ae c.2.2.1.2.2)with|true=>(match decide (okT 15000 y21∧okT 15000 y22)with|true=>(match decide (y23≥0)with|true=>some [RV.d axf y23]|false=>(match decide (okR r∧okR r)with|true=>(match decide (okR c.2.2.1.2.2∧okR y10)with|true=>(match decide (y17≤0)with|true=>some [RV.d axf (-1)]|false=>(match decide (okT 15000 y21∧okT 15000 y24)with|true=>some [RV.d axf (i64.wrap (0-(bG (dec y21) (dec y24))))]|false=>none))|false=>none)|false=>none))|false=>none)|false=>none)|false=>none)|false=>none)|false=>none)|false=>none)|false=>none)|false=>none)|false=>none))|false=>none))|false=>none)|false=>none))|false=>none)|false=>none))|false=>none
theorem anz(c:BCU)(p:BP)(r:BR):RS alI 42 [.d tCU c,.d tP p,.d tR r] (adB c p r):=rsX
open Classical in
theorem XW(c:BCU)(p:BP)(r:BR)(h:okC 580 c∧okP 150 p∧ok Rat 1000 r):Con Tryz.prog 42 [.d tCU c,.d tP p,.d tR r] [.d axf (RE.poiE (dC c) (RE.pR (dec p)) (ae r))]:=by
 refine aP Lh (anz _ _ _ ⟨0,?_⟩)
 obtain⟨hc,hp,hr⟩:=h
 have hp1:=cJ (k:=160) hp (by decide) (by decide)
 have hp6:=cJ (k:=580) hp (by decide) (by decide)
 obtain⟨p,rfl,bp,rp⟩:=bz hp
 obtain⟨r,rfl,br⟩:=aS hr
 obtain⟨ar,li,ci,cw,fr,to⟩:=c
 have h3:=hc.2.2.1
 have h4:=hc.2.2.2
 simp only at h3 h4
 obtain⟨fr,rfl,bf,rf⟩:=bz h3
 obtain⟨to,rfl,bt,rt⟩:=bz h4
 have o1:decide (okP 580 (enc fr)∧okP 160 (enc p)∧ok Rat 1000 (ag r))=true:=at7 ⟨h3,hp1,hr⟩
 have o2:decide (okP 580 (enc to)∧okP 160 (enc p)∧ok Rat 1000 (ag r))=true:=at7 ⟨h4,hp1,hr⟩
 rw[aB,az,am]
 unfold adB RE.poiE
 cases ar
 ·obtain⟨c2,c3⟩:=hc.2.1 rfl
  simp only at c2 c3
  obtain⟨li,rfl,bl⟩:=aS c2
  have hb:(decide (bG (alR (lC (false,li,dec ci,cw,fr,to)) p) (alR (lC (false,li,dec ci,cw,fr,to)) fr)<0)||decide (bG (alR (lC (false,li,dec ci,cw,fr,to)) p) (alR (lC (false,li,dec ci,cw,fr,to)) to)>0))=!(RE.besE (false,li,dec ci,cw,fr,to) (RE.pR p)):=RE.dir_bes (c:=(false,li,dec ci,cw,fr,to)) (hf:=rf) (ht:=rt) (p:=p)
  have q2:eu (gC (o9 li p) (o9 li p)) (r*r*(li.1*li.1+li.2.1*li.2.1))=RE.sg (RE.exE li (RE.pR p)*RE.exE li (RE.pR p)-RE.of (r*r*(li.1*li.1+li.2.1*li.2.1))):=by
   have rv:Rdd (o9 li p):=inferInstance
   rw[RE.cmpTR_re (acE (r:=o9 li p)).nn,RE.vR_sqr rv,RE.vR_val]
  dsimp only
  simp only[aj,am,aE,aF,aB,az,okd,aC,aW,aua,aub,mx,Nat.reduceAdd,Nat.reduceMul,Nat.reduceLeDiff,auf,cond_true,cond_false,a9,aZ,aJ,o1,o2,RE.min_if,Bool.not_false,dC,lnC,q2]
  revert hb
  cases decide (bG (alR (lC (false,li,dec ci,cw,fr,to)) p) (alR (lC (false,li,dec ci,cw,fr,to)) fr)<0)<;>cases decide (bG (alR (lC (false,li,dec ci,cw,fr,to)) p) (alR (lC (false,li,dec ci,cw,fr,to)) to)>0)<;>cases RE.besE (false,li,dec ci,cw,fr,to) (RE.pR p)<;>intro hb<;>first|exact absurd hb (by decide)|(cases decide (r<0)<;>rfl)
 ·obtain⟨c1,hq⟩:=hc.1 rfl
  have hci:kY ci:=⟨c1,hq⟩
  simp only at c1 hq
  obtain⟨ci,rfl,bc⟩:=aS c1
  rw[am]at hq
  have e0:((ag ci.1,ag ci.2.1):BV)=enc (ctr ci):=rfl
  have nq:Nn ci.2.2:=⟨by grind⟩
  have z:(cj p (atP (ctr ci))==0)=decide (RE.pR p=RE.vE (ctr ci)):=by
   rw[av2,avJ]
   exact RE.cen_eq
  have vs:RE.vR (sqP p (ctr ci))=RE.dsE (RE.pR p) (RE.vE (ctr ci)):=RE.vR_sq _
  have rs:Rdd (sqP p (ctr ci)):=inferInstance
  have m:∀a b,bG (sqP p (ctr ci)) (mkR a b ci.2.2)=RE.sg (RE.dsE (RE.pR p) (RE.vE (ctr ci))-RE.v2 a b ci.2.2):=fun a b=>by
   rw[RE.cmpT_re rs.nn (mR (a:=a) (b:=b) (c:=ci.2.2)).nn,RE.vR_mk,vs]
  dsimp only
  unfold RE.rngS
  simp only[aj,am,aE,aF,aB,az,okd,aC,aW,aua,aub,mx,Nat.reduceAdd,Nat.reduceMul,Nat.reduceLeDiff,auf,aue,cond_true,cond_false,a9,aZ,aJ,e0,o1,o2,at7 hci,RE.min_if,Bool.not_true,dC,ciC,z,m,ge_iff_le,RE.wr_sg,dT nq.le]
  cases decide (r<0)
  ·cases decide (RE.pR p=RE.vE (ctr ci))
   ·cases RE.witE (true,dec li,ci,cw,fr,to) (RE.pR p)
    ·rfl
    ·cases decide (0≤RE.sg (RE.dsE (RE.pR p) (RE.vE (ctr ci))-RE.v2 (ci.2.2+r*r) (r+r) ci.2.2))
     ·cases decide (aU ci.2.2 (r*r)≤0)<;>rfl
     ·rfl
   ·rfl
  ·rfl
def PR:aN:=spN true true [tCU,tP,tR] (fun x=>decide (okC 580 x.1∧okP 150 x.2.1∧ok Rat 1000 x.2.2.1)) (fun x=>[RV.d axf (RE.poiE (dC x.1) (RE.pR (dec x.2.1)) (ae x.2.2.1))])
theorem SW:SpK 42 PR:=spX fun x h=>XW x.1 x.2.1 x.2.2.1 (at6 h)
end
def EC(p:Pt):Bool:=decide (p.2.1=0)&&decide (p.2.2.2.1=0)
def Gq(p:Pt):BV:=bif EC p then enc ((p.1,p.2.2.1):Rat×Rat)else(((false,[]),(false,[])),((false,[]),(false,[])))
def MR:Env:=[(78,fu)]
theorem Lv:EnvAll Tryz.prog MR:=⟨dW,trivial⟩
def agT:Ctx:=CX MR []
def Oz(p:BP)(_k:KT):Option (List RV):=match decide (okR p.2.1)with|true=>(match(aU (ae p.2.1) 0) !=0 with|true=>some [RV.d tV (((false,[]),(false,[])),((false,[]),(false,[]))),RV.d .bool false]|false=>(match decide (okR p.2.2.2.1)with|true=>(match(aU (ae p.2.2.2.1) 0) !=0 with|true=>some [RV.d tV (((false,[]),(false,[])),((false,[]),(false,[]))),RV.d .bool false]|false=>some [RV.d tV (p.1,p.2.2.1),RV.d .bool true])|false=>none))|false=>none
theorem ajN(p:BP):RS agT 43 [.d tP p] (Oz p):=rsX
theorem Q5(p:BP)(h:okP 4000 p):Con Tryz.prog 43 [.d tP p] [.d tV (Gq (dec p)),.d .bool (EC (dec p))]:=by
 refine aP Lv (ajN _ ⟨0,?_⟩)
 have hp:=h
 obtain⟨p,rfl,bp,rp⟩:=bz hp
 unfold Oz Gq EC
 simp only[am,aE,aF,aB,az,aW,Nat.reduceLeDiff,bR]
 cases decide (p.2.1=0)<;>cases decide (p.2.2.2.1=0)<;>rfl
def Ja:aN:=spN false true [tP] (fun x=>decide (okP 4000 x.1)) (fun x=>[RV.d tV (hid (Gq (dec x.1))),RV.d .bool (EC (dec x.1))])
theorem Mv:SpK 43 Ja:=spX fun x h=>by simp only[aj];exact Q5 x.1 (at6 h)
theorem SC{x:Plc}(h:Ey x):Bd (dU x) 20∧Rpd (dU x):=by
 obtain⟨h1,h2,h3,h4,⟨h5,h5'⟩,h6,h6'⟩:=h
 have f:∀n,Em n→Bd (Rat.divInt n (x.2.2.2.2.2+1)) 3:=fun n hn=>by
  obtain⟨g1,g2⟩:=hn
  exact Af ⟨by omega,by omega⟩ ⟨by omega,by omega⟩ (by omega)
 have b1:=f _ h1
 have b2:=f _ h2
 have b3:=f _ h3
 have b4:=f _ h4
 have b5:Bd (x.2.2.2.2.1:Rat) 3:=cZ ⟨by omega,by omega⟩
 have N5:Nn (x.2.2.2.2.1:Rat):=⟨Rat.intCast_nonneg.2 h5⟩
 have bX:Bd (Yg x.1 x.2.1 x.2.2.2.2.1 x.2.2.2.2.2) 20:=(inferInstance:Bd (mkR (Rat.divInt x.1 (x.2.2.2.2.2+1)) (Rat.divInt x.2.1 (x.2.2.2.2.2+1)) (x.2.2.2.2.1:Rat)) _).mono (by decide)
 have bY:Bd (Yg x.2.2.1 x.2.2.2.1 x.2.2.2.2.1 x.2.2.2.2.2) 20:=(inferInstance:Bd (mkR (Rat.divInt x.2.2.1 (x.2.2.2.2.2+1)) (Rat.divInt x.2.2.2.1 (x.2.2.2.2.2+1)) (x.2.2.2.2.1:Rat)) _).mono (by decide)
 exact⟨Nq (h:=bX) (h':=bY),aem mR mR (qG _ _ _ _ _)⟩
theorem I4{y:Plc}(h:Ty.ok td y):Ey y:=⟨bounds_i16 h.1,bounds_i16 h.2.1,bounds_i16 h.2.2.1,bounds_i16 h.2.2.2.1,bounds_u16 h.2.2.2.2.1,Kc h.2.2.2.2.2⟩
theorem aoK{c:BCU}(h:gdN c){v:Rat×Rat}[bv:Bd v 3]:okC 580 (mvB c v):=by
 obtain⟨⟨hc,hs⟩,_⟩:=h
 obtain⟨ar,li,ci,cw,fr,to⟩:=c
 have h3:=hc.2.2.1
 have h4:=hc.2.2.2
 simp only at h3 h4
 obtain⟨fr,rfl,bf,rf⟩:=bz h3
 obtain⟨to,rfl,bt,rt⟩:=bz h4
 have o3:okP 580 (enc (trP (dec (enc fr)) v)):=by
  rw[am]
  exact at6 (aZ (by decide) (by decide))
 have o4:okP 580 (enc (trP (dec (enc to)) v)):=by
  rw[am]
  exact at6 (aZ (by decide) (by decide))
 cases ar
 ·have k:=hs.2 rfl
  simp only at k
  obtain⟨li,rfl,⟨ba,bb,bc⟩,nz⟩:=fG k
  refine⟨fun e=>(by cases e),fun _=>?_,o3,o4⟩
  show Vo (enc (RE.mvLn (dec (enc li)) v))
  rw[am]
  have bm:Bd (RE.mvLn li v) 300:=(inferInstance:Bd ((li.1,li.2.1,li.2.2+(li.1*v.1+li.2.1*v.2)):Ln) _).mono (by decide)
  exact⟨at6 (okd (by decide) (by decide)),by rw[am];exact nz⟩
 ·have k:=hs.1 rfl
  simp only at k
  obtain⟨ci,rfl,⟨ba,bb,bc⟩,nz⟩:=fp k
  refine⟨fun _=>?_,fun e=>(by cases e),o3,o4⟩
  show kY (enc (RE.mvCi (dec (enc ci)) v))
  rw[am]
  have bm:Bd (RE.mvCi ci v) 300:=(inferInstance:Bd ((ci.1+v.1,ci.2.1+v.2,ci.2.2):Ln) _).mono (by decide)
  exact⟨at6 (okd (by decide) (by decide)),by rw[am];exact nz⟩
theorem arq(c:BCU)(v:Rat×Rat):dC (mvB c v)=RE.mvCv (dC c) v:=by
 obtain⟨ar,li,ci,cw,fr,to⟩:=c
 unfold mvB RE.mvCv dC
 cases ar<;>simp only[am,cond_true,cond_false]
namespace RE
theorem rap_vE{p:Pt}(h:EC p=true):pR p=vE (p.1,p.2.2.1):=by
 unfold EC at h
 obtain⟨a,b⟩:=avg.1 h
 unfold pR pX pY vE
 rw[at6 a,at6 b,da,da]
end RE
section
open Go.ChangeShapes Go.WideShapes Go.ChangeAt Go.WideMaps Go.WideElems Go.RowKit Go.Maps
section
variable {H:Type} {enc:TypeId×Value→H} {P:Program}
theorem xu{f:Func}{s:ChangeSpec}{apart fresh handsOn again:Bool}{W W':World}{args:Array Value}{v:Value}{ds gs:List (DataW H)}{before pa pv:List MemPlace}
  (hW:DataW.Whole enc P f.params.toList s.vars apart W args.toList ds gs before)
  (hres:∀(b:Nat) (sp:Nat→Bool) (hd:Bool),DataW.TrodAll enc P W' b sp hd f.resultTypes.toList (v.resultList f.resultTypes.size) (s.fn H (ds++gs)).results [])
  (hargs:∀sp:Nat→Bool,(∀p∈before,sp p.block=true)→DataW.TrodAll enc P W' 0 sp true f.params.toList args.toList (s.fn H (ds++gs)).args pa)
  (hvars:∀sp:Nat→Bool,(∀p∈before,sp p.block=true)→DataW.TrodVars enc P W' sp s.vars (s.fn H (ds++gs)).vars pv)
  (hps:before=pa++pv) (hb:Below W.heap.size W W')
  (hok:∀(j:Nat) (t:TypeId) (r:Value),f.resultTypes[j]?=some t→(v.resultList f.resultTypes.size)[j]?=some r→Value.okWide P W' .any 0 t r):
  s.post enc P f apart fresh handsOn again W args v W':=by
 have hlt:∀p∈before,p.block<W.heap.size:=fun p hp=>hW.lt p hp
 have hold:∀p∈before,(fun b=>decide (b<W.heap.size)) p.block=true:=fun p hp=>by simpa using hlt p hp
 refine⟨ds,gs,before,[],pa,pv,hW,hres _ _ _,hargs _ hold,hvars _ hold,World.keptBut_mono (fun p hp=>⟨hp,?_⟩) (hb.frame (·∈before)),fun _=>?_⟩
 ·rw[hps,auN]at hp
  exact Or.inr hp
 ·obtain⟨_,_,_,_,_,hz,hn⟩:=hW
  refine⟨hok,_,_,([]++pa)++pv,⟨[]++pa,pv,trodAll_append (hargs _ (fun _ _=>rfl)) (hres _ _ _),hvars _ (fun _ _=>rfl),rfl,?_,?_⟩,?_⟩
  ·intro b off hp
   have hin:MemPlace.cell b off∈before:=by rw[hps];simpa using hp
   rw[hb.frozen (hlt _ hin)]
   exact hz b off hin
  ·intro ha
   have:=hn ha
   rw[hps]at this
   simpa using this
  ·intro p hp _
   rw[hps]
   simpa using hp
end
theorem Uy:laidOutB Tryz.prog=true:=by kernel_rfl
theorem ov{H:Type}{enc:TypeId×Value→H}{P:Program}(hl:laidOutB P=true){W W':World}{sp:Nat→Bool}:∀(ts:List TypeId) (vs:List Value) (ds:List (DataW H)) (ps:List MemPlace),
  (ts.all fun t=>P.readableRec t&&Nat.ble (t+1) P.types.size)=true→DataW.TrodAll enc P W 0 (fun _=>true) true ts vs ds ps→(∀p∈ps,W.sameAt W' p)→(∀p∈ps,sp p.block=true)→DataW.TrodAll enc P W' 0 sp true ts vs ds ps
 |[],vs,ds,ps,_,h,_,_=>by obtain⟨rfl,rfl,rfl⟩:=trodAll_nil h;exact trodAll_mk0
 |t::ts,vs,ds,ps,ht,h,hs,hp=>by
  obtain⟨v,vs',d,ds',p,q,rfl,rfl,rfl,h0,h1⟩:=trodAll_cons h
  simp only[awF,aug]at ht
  exact trodAll_cons_mk (Trod_stays hl ht.1.1 (aui ht.1.2) h0 (fun x hx=>hs x (awd _ hx)) (fun x hx=>hp x (awd _ hx)))
   (ov hl ts vs' ds' q ht.2 h1 (fun x hx=>hs x (av4 _ hx)) (fun x hx=>hp x (av4 _ hx)))
set_option maxRecDepth 100000 in
theorem C4{H:Type}{enc:TypeId×Value→H}{f:Func}{s:ChangeSpec}{apart fresh handsOn again:Bool}{W W':World}{args:Array Value}{ds:List (DataW H)}{before:List MemPlace}
  (hW:DataW.Whole enc Tryz.prog f.params.toList s.vars apart W args.toList ds [] before) (hv:s.vars=[]) (hr:f.resultTypes= #[4]) (hfn:(s.fn H (ds++[])).results=[.lit (.bool true)]∧(s.fn H (ds++[])).args=ds∧(s.fn H (ds++[])).vars=[])
  (hp:(f.params.toList.all fun t=>Tryz.prog.readableRec t&&Nat.ble (t+1) Tryz.prog.types.size)=true) (hb:Below W.heap.size W W'):s.post enc Tryz.prog f apart fresh handsOn again W args (.bool true) W':=by
 have hW':=hW
 obtain⟨p,q,hA,hV,rfl,hfz,hnd⟩:=hW
 have hq:q=[]:=by
  rw[hv]at hV
  exact(trodVars_none hV).2
 subst hq
 have hlt:∀x∈p,x.block<W.heap.size:=fun x hx=>hW'.lt x (by simpa using hx)
 refine xu (pa:=p) (pv:=[]) hW' ?_ ?_ ?_ rfl hb ?_
 ·intro b sp hd
  rw[hr,hfn.1]
  exact trodAll_mk1 (shut_bool Tryz.underlying4 _)
 ·intro sp hsp
  rw[hfn.2.1]
  exact ov Uy _ _ _ _ hp hA (fun x hx=>hb.same (hlt x hx)) (fun x hx=>hsp x (by simpa using hx))
 ·intro sp _
  rw[hv,hfn.2.2]
  rfl
 ·exact ok_one hr rfl (okWide_bool_mk (P:=Tryz.prog) Tryz.underlying4 true)
theorem Fg{P:Program}{w:World}{r:Reach}{base:Nat}{t e:TypeId}{n:Nat}{v:Value}(ht:P.underlying t=some (.array n e))(h:Value.okWide P w r base t v):∃cs,v=.agg cs∧cs.size=P.cellsOf t:=by
 simp only[Value.okWide,ht]at h
 obtain⟨cs,h1,h2,_⟩:=h
 exact⟨cs,h1,h2⟩
theorem Ff{P:Program}{w:World}{r:Reach}{base:Nat}{t:TypeId}{v:Value}(ht:P.underlying t=some .string)(h:Value.okWide P w r base t v):∃s,v=.string s:=by
 simp only[Value.okWide,ht,Cell.okWide]at h
 cases v<;>simp_all [Cell.ok]
theorem kN{H:Type}{enc:TypeId×Value→H}{P:Program}{w:World}{r:Reach}{b0 base:Nat}{spare:Nat→Bool}{held:Bool}{v:Value}{d:DataW H}{p:List MemPlace}{t:TypeId}(n:Nat)(ty:Ty)(hrep:rep P n t ty=true)(hv:Value.okWide P w r b0 t v)(h:DataW.Trod enc P w base spare held t v d p):
  ∃y:ty.D,Rel1 [] (fun _=>True) w (.d ty y) v∧ty.ok y:=by
 obtain⟨fuel,hf⟩:=h
 have fin:v.cells.toList.length=ty.n→v=mkV ty v.cells.toList→∃y:ty.D,Rel1 [] (fun _=>True) w (.d ty y) v∧ty.ok y:=fun hl hm=>by
  obtain⟨y,h1,h2⟩:=(act ty).1 n t hrep fuel _ _ hl hf
  exact⟨y,⟨_,h1,hm⟩,h2⟩
 cases n with
 |zero=>simp[rep]at hrep
 |succ n=>
  have hrep':=hrep
  unfold rep at hrep'
  split at hrep'<;>try (cases hrep';done)
  ·rename_i hu;obtain⟨m,rfl⟩:=okWide_int hu hv;exact fin rfl rfl
  ·rename_i hu;obtain⟨m,rfl⟩:=okWide_bool hu hv;exact fin rfl rfl
  ·rename_i hu;obtain⟨m,rfl⟩:=Ff hu hv;exact fin rfl rfl
  ·rename_i hu;obtain⟨q,m,c,rfl⟩:=okWide_slice hu hv;exact fin rfl rfl
  ·rename_i hu
   obtain⟨cs,rfl,hsz⟩:=okWide_struct hu hv
   simp only[aug]at hrep'
   exact fin (by simp only[Value.cells,Array.length_toList,hsz];exact auh hrep'.2) (by simp[mkV,Ty.isSt,Value.cells])
  ·rename_i hu
   obtain⟨cs,rfl,hsz⟩:=Fg hu hv
   simp only[aug]at hrep'
   exact fin (by simp only[Value.cells,Array.length_toList,hsz];exact auh hrep'.2) (by simp[mkV,Ty.isSt,Value.cells])
end
end Go.Proofs.YtlahabkjhgkkjaaGreat
end
